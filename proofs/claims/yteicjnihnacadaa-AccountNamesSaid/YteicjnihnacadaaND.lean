/-
  The proof of AccountNames, part 4.
-/
import Derived.Test.YteicjnihnacadaaNC
import Derived.Test.YteicjnihnacadaaRows
import Derived.Sort.Walk0
import Derived.Lib.BytesEntry
import Derived.Lib.Bytealg
import Derived.Lib.Walk
import Derived.WalkKit
import Derived.WalkMore
import Derived.Shelf.RegionOpenPlain
import Derived.Lib.Overlaps
import Derived.Lib.AppendZerosOnto
import Derived.Lib.SliceRun
import Derived.Laws.Externs
import Derived.Laws.IdiomCopy
import Derived.Laws.NewBlocks
set_option linter.unusedSimpArgs false
set_option linter.unusedVariables false
namespace Go.Proofs.Yteicjnihnacadaa.Pv
section
open Go.Proofs.Try (prog)
open Go.IntKind (wrap)
section
variable {fu d:Nat} {xs:FuncId->Option (List PV->Option Bc)}
theorem UP {x k:Int}(hk:k=13∨k=16∨k=17∨k=21∨k=32):Ag (CX xs) prog fu (d+1) Jd [.sc (.int .u64 x),.sc (.int .i64 k)]=some ⟨[.sc (.int .u64 (rot x k))],[]⟩:=by
 rw[Pt];rcases hk with rfl|rfl|rfl|rfl|rfl<;>kernel_rfl
theorem TY {x k:Int}(hk:k=13∨k=16∨k=17∨k=21∨k=32):Ag (CX xs) prog fu (d+1) J5 [.sc (.int .u64 x),.sc (.int .u64 k)]=some ⟨[.sc (.int .u64 (rot x k))],[]⟩:=by
 rw[Qz];rcases hk with rfl|rfl|rfl|rfl|rfl<;>kernel_rfl
theorem Uu {a0 a1 a2 a3 a4:Int}:∀(k i nn:Nat)(v:W4),k<nn->i+k<=100 ->
  Dg fu (Ag (CX xs) prog fu (d+1)) a0 a1 a2 a3 a4 nn ((i+k:Nat):Int) i v.a v.b v.c v.d=some ⟨[],[(IR k v).cells]⟩
 |_,_,0,_,h,_=>by omega
 |0,i,nn+1,v,h,hi=>by
  rw[F1,Qs _ _ _ (by omega)]
  rfl
 |k+1,i,nn+1,v,h,hi=>by
  have ih:=Uu (a0:=a0) (a1:=a1) (a2:=a2) (a3:=a3) (a4:=a4) k (i+1) nn (Ym v) (by omega) (by omega)
  have w:wrap .i64 ((i:Int)+1)=((i+1:Nat):Int):=by rw[wrap_i64 (by omega) (by omega)];omega
  have r13:=fun x=>UP (xs:=xs) (fu:=fu) (d:=d) (x:=x) (k:=13) (by simp)
  have r16:=fun x=>UP (xs:=xs) (fu:=fu) (d:=d) (x:=x) (k:=16) (by simp)
  have r17:=fun x=>UP (xs:=xs) (fu:=fu) (d:=d) (x:=x) (k:=17) (by simp)
  have r21:=fun x=>UP (xs:=xs) (fu:=fu) (d:=d) (x:=x) (k:=21) (by simp)
  have r32:=fun x=>UP (xs:=xs) (fu:=fu) (d:=d) (x:=x) (k:=32) (by simp)
  rw[F1];simp (disch:=omega) only[En,r13,r16,r17,r21,r32,w];rw[show i+(k+1)=i+1+k by omega]
  exact ih
theorem Z6 (k:Nat)(hk:k<=4)(Ef:100<=fu)(v:W4):Ag (CX xs) prog fu (d+2) Hr [.pbox [.sc (.int .u64 v.a),.sc (.int .u64 v.b),.sc (.int .u64 v.c),.sc (.int .u64 v.d)],.sc (.int .i64 k)]=some ⟨[],[(IR k v).cells]⟩:=by
 rw[Nl];have:=Uu (xs:=xs) (fu:=fu) (d:=d) (a0:=v.a) (a1:=v.b) (a2:=v.c) (a3:=v.d) (a4:=k) k 0 fu v (by omega) (by omega)
 rw[I1] at this;exact this
theorem Zm (Ef:100<=fu)(v:W4)(m:Int):Ag (CX xs) prog fu (d+3) Hs [.pbox [.sc (.int .u64 v.a),.sc (.int .u64 v.b),.sc (.int .u64 v.c),.sc (.int .u64 v.d)],.sc (.int .u64 m)]=some ⟨[],[(Mg v m).cells]⟩:=by
 rw[Np];have r2:=Z6 (xs:=xs) (fu:=fu) (d:=d) 2 (by omega) Ef ⟨v.a,v.b,v.c,Cq .u64 v.d m⟩
 have e2:((2:Nat):Int)=2:=rfl;rw[e2] at r2;unfold Mg;generalize IR 2 ⟨v.a,v.b,v.c,Cq .u64 v.d m⟩=R at r2 ⊢;simp only[W4.cells] at r2;simp only[En,r2];rfl
theorem Afw {a b:Int}{k:Nat}(hk:k<8)(ha:0<=a)(QZ:a<((2 ^ (8*k):Nat):Int)) (hb:0<=b)(Fp:b<=255):V9 .u64 a (Hh .u64 b (8*(k:Int)))=a+((2 ^ (8*k):Nat):Int)*b:=by
 obtain⟨n,rfl⟩:=Int.eq_ofNat_of_zero_le hb;have e:(8*(k:Int)).toNat=8*k:=by omega
 have hp:n*2 ^ (8*k)<=255*2 ^ (8*k):=Nat.mul_le_mul_right _ (by omega)
 have h56:2 ^ (8*k)<=2 ^ 56:=Nat.pow_le_pow_right (by omega) (by omega)
 have e56:(2:Nat) ^ 56=72057594037927936:=by decide
 rw[e56] at h56;generalize hP:2 ^ (8*k)=p at *
 have Ahg:n*p<=255*p:=hp
 have hs:Hh .u64 (n:Int) (8*(k:Int))=(n:Int)*((2 ^ (8*(k:Int)).toNat:Nat):Int):=MQ (by omega) (by omega) (by omega) (by
  rw[e,hP];have:((n*p:Nat):Int)<=((255*p:Nat):Int):=by omega
  rw[←Int.natCast_mul];omega)
 rw[hs,e,hP]
 have:=(BH (a:=a) (c:=((n*p:Nat):Int)) (8*k) n ha (by rw[hP];exact QZ) (by rw[hP]) (by
  have:((n*p:Nat):Int)<=((255*p:Nat):Int):=by omega
  omega)).1
 rw[←Int.natCast_mul,this,Int.mul_comm ((p:Nat):Int),←Int.natCast_mul]
theorem Af0 (k:Nat):((2 ^ (8*k):Nat):Int)=256 ^ k:=by
 rw[Nat.pow_mul];simp
theorem U7 {call:Ah}{n:Nat}{c:List PV}{l:List Int}(hb:Ny l)(hl:l.length<=8):∀(r:List Int)(i nn:Nat),l.drop i=r->r.length<nn->i<=l.length ->
  Fi fu call n c nn (Lv (l.take i)) l.length (At .u8 l) l.length i=some ⟨[.sc (.int .u64 (Lv l))],[]⟩
 |_,_,0,_,h,_=>by omega
 |[],i,nn+1,h,hn,hi=>by
  have:=drop_nil h;rw[J8,Qs _ _ _ (by omega),J4 (by omega)]
 |b::r,i,nn+1,h,hn,hi=>by
  obtain⟨h1,h2,h3⟩:=D8 h;simp only[LI] at hn;have ih:=U7 (call:=call) (n:=n) (c:=c) hb hl r (i+1) nn h3 (by omega) (by omega)
  have hbb:=hb b (List.mem_of_getElem? h2);have w:wrap .i64 ((i:Int)+1)=((i+1:Nat):Int):=by rw[wrap_i64 (by omega) (by omega)];omega
  have w8:wrap .i64 (8*(i:Int))=8*(i:Int):=wrap_i64 (by omega) (by omega)
  have wb:wrap .u64 b=b:=Cj (by omega) (by omega)
  have Acj:=Mo (l:=l.take i) fun x hx=>hb x (List.mem_of_mem_take hx)
  have htl:(l.take i).length=i:=by rw[List.length_take];omega
  rw[htl] at Acj
  have hj:V9 .u64 (Lv (l.take i)) (Hh .u64 b (8*(i:Int)))=Lv (l.take (i+1)):=by
   rw[Afw (by omega) Acj.1 (by rw[Af0];exact Acj.2) hbb.1 hbb.2,List.take_add_one,h2,Qo,htl,Af0]
   simp[Lv]
  rw[J8];simp (disch:=omega) only[En,Uv,E8,ati h2,w,w8,wb,hj];exact ih
theorem Zs {l:List Int}(hb:Ny l)(hl:l.length<=8)(Ef:100<=fu):Ag (CX xs) prog fu (d+1) Nk [.lst false 1 l.length (At .u8 l)]=some ⟨[.sc (.int .u64 (Lv l))],[]⟩:=by
 rw[Vj];exact U7 hb hl l 0 fu rfl (by omega) (by omega)
theorem AY (k:IntKind)(l:List Int)(i:Nat):List.drop i (At k l)=At k (l.drop i):=by
 have:=R0 (Sg k) l i
 simpa using this
theorem H6 (k:IntKind)(l:List Int)(i:Nat):List.take i (At k l)=At k (l.take i):=by
 have:=V2 (Sg k) l i
 simpa using this
theorem Ny.drop {l:List Int}(h:Ny l)(i:Nat):Ny (l.drop i):=fun x hx=>h x (List.mem_of_mem_drop hx)
theorem Ny.take {l:List Int}(h:Ny l)(i:Nat):Ny (l.take i):=fun x hx=>h x (List.mem_of_mem_take hx)
theorem Aaj {a0 a1:Int}{n:Nat}{c:List PV}{l:List Int}(hb:Ny l)(hl:l.length<=1099511627776)(Ef:100<=fu)(nn:Nat)(v:W4):
  F2 fu (Ag (CX xs) prog fu (d+3)) a0 a1 n c (nn+1) l.length (At .u8 l) ((l.length / 8:Nat):Int) ((l.length / 8:Nat):Int) ((l.length / 8:Nat):Int) v.a v.b v.c v.d=some ⟨[.sc (.int .u64 (PQ (NT (Mg v (Jb l)))))],[]⟩:=by
 have w8:wrap .i64 (8*((l.length / 8:Nat):Int))=((8*(l.length / 8):Nat):Int):=by rw[wrap_i64 (by omega) (by omega)];omega
 have wl:wrap .u64 (l.length:Int)=l.length:=Cj (by omega) (by omega)
 have WA:(l.drop (8*(l.length / 8))).length=l.length-8*(l.length / 8):=List.length_drop;have li:=Zs (xs:=xs) (fu:=fu) (d:=d+2) (hb.drop (8*(l.length / 8))) (by omega) Ef
 rw[WA] at li;have tk:List.take (l.length-8*(l.length / 8)) (At .u8 (l.drop (8*(l.length / 8))))=At .u8 (l.drop (8*(l.length / 8))):=J4 (by rw[Aw,WA];omega)
 have hbn:=Mo (hb.drop (8*(l.length / 8)));rw[WA] at hbn
 have hp7:(256:Int) ^ (l.length-8*(l.length / 8))<=256 ^ 7:=by
  have:(256:Nat) ^ (l.length-8*(l.length / 8))<=256 ^ 7:=Nat.pow_le_pow_right (by omega) (by omega)
  have h2:(((256:Nat) ^ (l.length-8*(l.length / 8)):Nat):Int)<=((256 ^ 7:Nat):Int):=by omega
  simpa using h2
 have Agm:V9 .u64 (Lv (l.drop (8*(l.length / 8)))) (Hh .u64 (l.length:Int) 56)=Jb l:=by
  have hs:Hh .u64 (l.length:Int) 56=(((l.length % 256)*2 ^ 56:Nat):Int):=by
   show wrap .u64 ((l.length:Int)*2 ^ (min (56:Int).toNat IntKind.u64.bits))=_;have h2:(2:Int) ^ (min (56:Int).toNat IntKind.u64.bits)=72057594037927936:=by decide
   have h3:(2:Nat) ^ 56=72057594037927936:=by decide
   rw[h2,h3];simp only[wrap,IntKind.signed,IntKind.bits];simp;omega
  have h56:(256:Int) ^ 7=((2 ^ 56:Nat):Int):=by decide
  have h3:(2:Nat) ^ 56=72057594037927936:=by decide
  rw[hs,(BH 56 (l.length % 256) hbn.1 (by omega) rfl (by omega)).1]
  unfold Jb;omega
 have ab:=Zm (xs:=xs) (fu:=fu) (d:=d) Ef v (Jb l);have r4:=Z6 (xs:=xs) (fu:=fu) (d:=d+1) 4 (by omega) Ef ⟨(Mg v (Jb l)).a,(Mg v (Jb l)).b,Cq .u64 (Mg v (Jb l)).c 255,(Mg v (Jb l)).d⟩
 have e4:((4:Nat):Int)=4:=rfl;rw[e4] at r4;unfold NT;generalize Mg v (Jb l)=U at ab r4 ⊢;generalize IR 4 ⟨U.a,U.b,Cq .u64 U.c 255,U.d⟩=R at r4 ⊢;simp only[W4.cells] at ab r4;rw[Nh];simp (disch:=omega) only[En,Uv,E8,w8,wl,AY,tk,li,Agm,ab,r4];rfl
theorem GN {a0 a1:Int}{n:Nat}{c:List PV}{l:List Int}(hb:Ny l)(hl:l.length<=1099511627776)(Ef:100<=fu):∀(k i nn:Nat)(v:W4),i+k=l.length / 8->k<nn ->
  F2 fu (Ag (CX xs) prog fu (d+3)) a0 a1 n c nn l.length (At .u8 l) ((l.length / 8:Nat):Int) ((l.length / 8:Nat):Int) i v.a v.b v.c v.d=some ⟨[.sc (.int .u64 (PQ (NT (Mg (Y2 k v (l.drop (8*i))) (Jb l)))))],[]⟩
 |_,_,0,_,_,h=>by omega
 |0,i,nn+1,v,hi,hn=>by
  have e:i=l.length / 8:=by omega
  subst e;exact Aaj hb hl Ef nn v
 |k+1,i,nn+1,v,hi,hn=>by
  have w:wrap .i64 ((i:Int)+1)=((i+1:Nat):Int):=by rw[wrap_i64 (by omega) (by omega)];omega
  have w8:wrap .i64 (8*(i:Int))=((8*i:Nat):Int):=by rw[wrap_i64 (by omega) (by omega)];omega
  have w88:wrap .i64 (((8*i:Nat):Int)+8)=((8*i+8:Nat):Int):=by rw[wrap_i64 (by omega) (by omega)];omega
  have WA:((l.drop (8*i)).take 8).length=8:=by rw[List.length_take,List.length_drop];omega
  have li:=Zs (xs:=xs) (fu:=fu) (d:=d+2) ((hb.drop (8*i)).take 8) (by omega) Ef
  rw[WA] at li;have e8:8*i+8-8*i=8:=by omega
  have ab:=Zm (xs:=xs) (fu:=fu) (d:=d) Ef v (Lv ((l.drop (8*i)).take 8));have ih:=GN (a0:=a0) (a1:=a1) (n:=n) (c:=c) hb hl Ef k (i+1) nn (Mg v (Lv ((l.drop (8*i)).take 8))) (by omega) (by omega)
  have eN:Y2 (k+1) v (l.drop (8*i))=Y2 k (Mg v (Lv ((l.drop (8*i)).take 8))) (l.drop (8*(i+1))):=by
   rw[Y2,List.drop_drop,show 8*i+8=8*(i+1) by omega]
  rw[eN];generalize Mg v (Lv ((l.drop (8*i)).take 8))=U at ab ih ⊢;simp only[W4.cells] at ab;rw[Nh];simp (disch:=omega) only[En,Uv,E8,w,w8,w88,e8,AY,H6,li,ab];exact ih
theorem Aca {l:List Int}(hb:Ny l)(hl:l.length<=1099511627776)(Ef:100<=fu)(hf:l.length<fu)(k0 k1:Int):Ag (CX xs) prog fu (d+4) Rc [.sc (.int .u64 k0),.sc (.int .u64 k1),.lst false 1 l.length (At .u8 l)]=some ⟨[.sc (.int .u64 (Ab6 k0 k1 l))],[]⟩:=by
 rw[DN]
 have w:wrap .i64 (Int.tdiv (l.length:Int) 8)=((l.length / 8:Nat):Int):=by
  rw[Int.tdiv_eq_ediv_of_nonneg (by omega),wrap_i64 (by omega) (by omega)]
  omega
 have lp:=GN (xs:=xs) (fu:=fu) (d:=d) (a0:=k0) (a1:=k1) (n:=l.length) (c:=At .u8 l) hb hl Ef (l.length / 8) 0 fu (Adx k0 k1) (by omega) (by omega)
 simp only[Kj,w];exact lp
theorem Jz (v:W4):Ag (CX xs) prog fu (d+2) Ji [.agg [.sc (.int .u64 v.a),.sc (.int .u64 v.b),.sc (.int .u64 v.c),.sc (.int .u64 v.d)]]=some ⟨[.agg (Ym v).cells],[]⟩:=by
 have r13:=fun x=>TY (xs:=xs) (fu:=fu) (d:=d) (x:=x) (k:=13) (by simp)
 have r16:=fun x=>TY (xs:=xs) (fu:=fu) (d:=d) (x:=x) (k:=16) (by simp)
 have r17:=fun x=>TY (xs:=xs) (fu:=fu) (d:=d) (x:=x) (k:=17) (by simp)
 have r21:=fun x=>TY (xs:=xs) (fu:=fu) (d:=d) (x:=x) (k:=21) (by simp)
 have r32:=fun x=>TY (xs:=xs) (fu:=fu) (d:=d) (x:=x) (k:=32) (by simp)
 rw[Ps];simp (disch:=omega) only[En,r13,r16,r17,r21,r32];rfl
def Nq (l:List Int)(i k:Nat):Int:=if i+k<l.length then l.getD (i+k) 0 else if k=7 then (l.length:Int) % 256 else 0
def pc (l:List Int)(i:Nat):List Int:=(List.range 8).map (Nq l i)
theorem Amu {l:List Int}(hb:Ny l)(i:Nat):Ny (pc l i):=by
 intro x hx;obtain⟨k,hk,rfl⟩:=List.mem_map.1 hx;unfold Nq;split
 ·rename_i h;rw[List.getD_eq_getElem?_getD,List.getElem?_eq_getElem h];exact hb _ (List.getElem_mem h)
 ·split<;>omega
theorem ZX {l:List Int}{i:Nat}(h:i+8<=l.length):pc l i=(l.drop i).take 8:=by
 refine List.ext_getElem (by simp[pc];omega) fun k h1 h2=>?_
 have hk:k<8:=by simpa [pc] using h1
 simp only[pc,List.getElem_map,List.getElem_range,List.getElem_take,List.getElem_drop,Nq];rw[Ni (by omega),List.getD_eq_getElem?_getD,List.getElem?_eq_getElem (by omega)]
 rfl
theorem AJ (x:Int):∀n,Lv (List.replicate n 0++[x])=256 ^ n*x
 |0=>by simp[Lv]
 |n+1=>by
  rw[List.replicate_succ,List.cons_append,Lv,AJ x n,Int.pow_succ,Int.mul_comm (256 ^ n) 256,Int.mul_assoc];omega
theorem YK {l:List Int}:Lv (pc l (8*(l.length / 8)))=Jb l:=by
 have e:pc l (8*(l.length / 8))=l.drop (8*(l.length / 8))++(List.replicate (7-(l.length-8*(l.length / 8))) 0++[(l.length:Int) % 256]):=by
  refine List.ext_getElem (by simp[pc];omega) fun k h1 h2=>?_
  have hk:k<8:=by simpa [pc] using h1
  simp only[pc,List.getElem_map,List.getElem_range,Nq];by_cases hc:8*(l.length / 8)+k<l.length
  ·rw[Ni hc,List.getElem_append_left (by rw[List.length_drop];omega),List.getElem_drop,List.getD_eq_getElem?_getD,List.getElem?_eq_getElem hc]
   rfl
  ·rw[Pz hc,List.getElem_append_right (by rw[List.length_drop];omega)]
   by_cases h7:k=7
   ·rw[Ni h7,List.getElem_append_right (by simp;omega)]
    simp
   ·rw[Pz h7,List.getElem_append_left (by simp;omega)]
    simp
 rw[e,Qo,AJ];unfold Jb
 have:(256:Int) ^ (l.drop (8*(l.length / 8))).length*(256 ^ (7-(l.length-8*(l.length / 8)))*((l.length:Int) % 256))=72057594037927936*((l.length:Int) % 256):=by
  rw[←Int.mul_assoc,←Int.pow_add,List.length_drop];have:l.length-8*(l.length / 8)+(7-(l.length-8*(l.length / 8)))=7:=by omega
  rw[this];rfl
 rw[this]
theorem Af1 {a b:Int}(ha:0<=a)(QZ:a<72057594037927936)(hb:0<=b)(Fp:b<=255):V9 .u64 (Hh .u64 a 8) b=b+256*a:=by
 obtain⟨n,rfl⟩:=Int.eq_ofNat_of_zero_le ha
 have hs:Hh .u64 (n:Int) 8=((n*2 ^ 8:Nat):Int):=by
  have:=MQ (a:=(n:Int)) (k:=8) (by omega) (by omega) (by omega) (by
   have:(2 ^ (8:Int).toNat:Nat)=256:=by decide
   rw[this];omega)
  rw[this];have:(2 ^ (8:Int).toNat:Nat)=256:=by decide
  rw[this];have:(2 ^ 8:Nat)=256:=by decide
  rw[this];omega
 have h8:(2 ^ 8:Nat)=256:=by decide
 rw[hs,(BH (a:=b) 8 n hb (by rw[h8];omega) rfl (by rw[h8];omega)).2,h8]
 omega
theorem LR {a0 a1:Int}{n m0:Nat}{c:List PV}{l:List Int}(hb:Ny l)(hl:l.length<=1099511627776){i:Nat}(hi:i<=l.length)(v:W4):∀(j nn:Nat),j<=8->j<nn ->
  Cu fu (Ag (CX xs) prog fu (d+2)) a0 a1 n c m0 nn l.length (At .u8 l) i (Lv ((pc l i).drop j)) ((j:Int)-1) v.cells =
   Dj fu (Ag (CX xs) prog fu (d+2)) a0 a1 n c m0 l.length (At .u8 l) ((i+8:Nat):Int) (Mg v (Lv (pc l i))).cells
 |_,0,_,h=>by omega
 |0,nn+1,hj,hn=>by
  have w8:wrap .i64 ((i:Int)+8)=((i+8:Nat):Int):=by rw[wrap_i64 (by omega) (by omega)];omega
  have r1:=Jz (xs:=xs) (fu:=fu) (d:=d) ⟨v.a,v.b,v.c,Cq .u64 v.d (Lv (pc l i))⟩;have r2:=Jz (xs:=xs) (fu:=fu) (d:=d) (Ym ⟨v.a,v.b,v.c,Cq .u64 v.d (Lv (pc l i))⟩);have eA:Mg v (Lv (pc l i))=Ag0 (Ym (Ym ⟨v.a,v.b,v.c,Cq .u64 v.d (Lv (pc l i))⟩)) (Lv (pc l i)):=rfl;rw[eA];generalize Ym ⟨v.a,v.b,v.c,Cq .u64 v.d (Lv (pc l i))⟩=U at r1 r2 ⊢;generalize Ym U=U2 at r2 ⊢;simp only[W4.cells] at r1 r2;rw[Ii,Qs _ _ _ (by omega),Hy]
  simp only[W4.cells,List.getD_cons_zero,List.getD_cons_succ,CP,Kj];simp (disch:=first|omega|(simp;done)) only[En,A2,List.take_succ_cons,List.take_zero,List.drop_succ_cons,Hy,List.drop_nil,List.cons_append,XX,List.append_nil,LI,YN,List.getD_cons_zero,List.getD_cons_succ,r1,r2,w8,I1,Nat.reduceAdd,Nat.reduceLeDiff,List.append_eq]
  rfl
 |j+1,nn+1,hj,hn=>by
  have ih:=LR (a0:=a0) (a1:=a1) (n:=n) (m0:=m0) (c:=c) hb hl hi v j nn (by omega) (by omega)
  have hw:wrap .i64 ((i:Int)+(((j+1:Nat):Int)-1))=((i+j:Nat):Int):=by rw[wrap_i64 (by omega) (by omega)];omega
  have wj:wrap .i64 (((j+1:Nat):Int)-1-1)=(j:Int)-1:=by rw[wrap_i64 (by omega) (by omega)];omega
  have hd:(pc l i).drop j=Nq l i j::(pc l i).drop (j+1):=by
   rw[List.drop_eq_getElem_cons (by simp[pc];omega)]
   simp[pc]
  have hB:=Amu hb i;have hbn:=Mo (hB.drop (j+1))
  have hp7:(256:Int) ^ ((pc l i).drop (j+1)).length<=72057594037927936:=by
   have Dh:((pc l i).drop (j+1)).length<=7:=by simp[pc]
   have:(256:Nat) ^ ((pc l i).drop (j+1)).length<=256 ^ 7:=Nat.pow_le_pow_right (by omega) Dh
   have h2:(((256:Nat) ^ ((pc l i).drop (j+1)).length:Nat):Int)<=((256 ^ 7:Nat):Int):=by omega
   simpa using h2
  have hc0:0<=Nq l i j∧Nq l i j<=255:=hB _ (by rw[←Hy (l:=pc l i)];exact List.mem_of_mem_drop (i:=j) (by rw[Hy,hd];simp))
  have hj2:V9 .u64 (Hh .u64 (Lv ((pc l i).drop (j+1))) 8) (Nq l i j)=Lv ((pc l i).drop j):=by
   rw[Af1 hbn.1 (by omega) hc0.1 hc0.2,hd]
   rfl
  have wc:wrap .u64 (Nq l i j)=Nq l i j:=Cj (by omega) (by omega)
  rw[Ii,Ya _ _ _ (by omega)]
  simp only[Kj,hw];by_cases c1:i+j<l.length
  ·have e:Nq l i j=l.getD (i+j) 0:=by unfold Nq;rw[Ni c1]
   have e2:l[i+j]?=some (Nq l i j):=by rw[e,List.getD_eq_getElem?_getD,List.getElem?_eq_getElem c1];rfl
   rw[Ya _ _ _ (by omega)]
   simp (disch:=omega) only[En,Uv,E8,ati e2,wc,hj2,wj];exact ih
  ·rw[Qs _ _ _ (by omega)]
   by_cases h7:j=7
   ·subst h7;have e:Nq l i 7=(l.length:Int) % 256:=by unfold Nq;rw[Pz c1,Ni rfl]
    have e8:wrap .u8 (l.length:Int)=Nq l i 7:=by
     rw[e];simp only[wrap,IntKind.signed,IntKind.bits];simp
    rw[MY,Ni (by omega),e8,wc,hj2,wj]
    exact ih
   ·have e:Nq l i j=0:=by unfold Nq;rw[Pz c1,Pz h7]
    rw[e] at hj2;rw[MY,Pz (by omega),hj2,wj]
    exact ih
theorem Zn {a0 a1:Int}{n:Nat}{c:List PV}{l:List Int}(hb:Ny l)(hl:l.length<=1099511627776)(Ef:100<=fu):∀(k i nn:Nat)(v:W4),i+k=l.length / 8->k+1<nn ->
  Dj fu (Ag (CX xs) prog fu (d+2)) a0 a1 n c nn l.length (At .u8 l) ((8*i:Nat):Int) v.cells=some ⟨[.sc (.int .u64 (PQ (NT (Mg (Y2 k v (l.drop (8*i))) (Jb l)))))],[]⟩
 |_,_,0,_,_,h=>by omega
 |k,i,nn+1,v,hi,hn=>by
  have step:=LR (xs:=xs) (fu:=fu) (d:=d) (a0:=a0) (a1:=a1) (n:=n) (m0:=nn) (c:=c) hb hl (i:=8*i) (by omega) v 8 fu (by omega) (by omega)
  have e0:Lv ((pc l (8*i)).drop 8)=0:=by rw[List.drop_of_length_le (by simp[pc])];rfl
  rw[e0] at step;rw[In,Ya _ _ _ (by omega)]
  refine step.trans ?_;cases k with
  |zero=>
   have e:i=l.length / 8:=by omega
   subst e;rw[YK];generalize hv:Mg v (Jb l)=u;obtain⟨nn',rfl⟩:∃nn',nn=nn'+1:=⟨nn-1,by omega⟩
   have r1:=Jz (xs:=xs) (fu:=fu) (d:=d) ⟨u.a,u.b,Cq .u64 u.c 255,u.d⟩;have r2:=Jz (xs:=xs) (fu:=fu) (d:=d) (Ym ⟨u.a,u.b,Cq .u64 u.c 255,u.d⟩);have r3:=Jz (xs:=xs) (fu:=fu) (d:=d) (Ym (Ym ⟨u.a,u.b,Cq .u64 u.c 255,u.d⟩));have r4:=Jz (xs:=xs) (fu:=fu) (d:=d) (Ym (Ym (Ym ⟨u.a,u.b,Cq .u64 u.c 255,u.d⟩)))
   have eF:PQ (NT (Mg (Y2 0 v (l.drop (8*(l.length / 8)))) (Jb l)))=PQ (Ym (Ym (Ym (Ym ⟨u.a,u.b,Cq .u64 u.c 255,u.d⟩)))):=by
    rw[Y2,hv];rfl
   rw[eF];clear eF;generalize Ym ⟨u.a,u.b,Cq .u64 u.c 255,u.d⟩=U1 at r1 r2 r3 r4 ⊢;generalize Ym U1=U2 at r2 r3 r4 ⊢;generalize Ym U2=U3 at r3 r4 ⊢;generalize Ym U3=U4 at r4 ⊢;simp only[W4.cells] at r1 r2 r3 r4;rw[In,Qs _ _ _ (by omega)]
   simp only[W4.cells,List.getD_cons_zero,List.getD_cons_succ,CP,Kj];simp (disch:=first|omega|(simp;done)) only[En,A2,List.take_succ_cons,List.take_zero,List.drop_succ_cons,Hy,List.drop_nil,List.cons_append,XX,List.append_nil,LI,YN,List.getD_cons_zero,List.getD_cons_succ,r1,r2,r3,r4,I1,Nat.reduceAdd,Nat.reduceLeDiff,List.append_eq]
   rfl
  |succ k=>
   have ih:=Zn (a0:=a0) (a1:=a1) (n:=n) (c:=c) hb hl Ef k (i+1) nn (Mg v (Lv (pc l (8*i)))) (by omega) (by omega)
   rw[show 8*i+8=8*(i+1) by omega,ih,ZX (by omega)]
   simp only[Y2,List.drop_drop];rw[show 8*(i+1)=8*i+8 by omega]
theorem YZ {l:List Int}(hb:Ny l)(hl:l.length<=1099511627776)(Ef:100<=fu)(hf:l.length<fu)(k0 k1:Int):Ag (CX xs) prog fu (d+3) K5 [.sc (.int .u64 k0),.sc (.int .u64 k1),.lst false 1 l.length (At .u8 l)]=some ⟨[.sc (.int .u64 (Ab6 k0 k1 l))],[]⟩:=by
 rw[Sf];exact Zn (xs:=xs) (fu:=fu) (d:=d) (a0:=k0) (a1:=k1) (n:=l.length) (c:=At .u8 l) hb hl Ef (l.length / 8) 0 fu (Adx k0 k1) (by omega) (by omega)
theorem Vy {l:List Int}(hb:Ny l)(hl:l.length<=1099511627776)(Ef:100<=fu)(hf:l.length<fu)(key dom:Int):Ag (CX xs) prog fu (d+4) K9 [.sc (.int .u64 key),.sc (.int .i64 dom),.lst false 1 l.length (At .u8 l)]=some ⟨[.sc (.int .u64 (Qi key dom l))],[]⟩:=by
 rw[Rf];have s:=YZ (xs:=xs) (fu:=fu) (d:=d) hb hl Ef hf key (wrap .u64 (1+wrap .u64 dom));simp only[En,s];rfl
end
end
section
open Go.Proofs.Try (prog)
open Go.IntKind (wrap)
def H1 (w:Int)(k:Nat):Int:=wrap .u8 (Pp .u64 w (56-8*(k:Int)))
def E3 (w:Int):List Int:=(List.range' 0 8).map (H1 w)
def Be (ws:List Int):List Int:=ws.flatMap E3
theorem Dt (w:Int):(E3 w).length=8:=rfl
section
variable {fu d:Nat} {xs:FuncId->Option (List PV->Option Bc)} {call:Ah} {n:Nat} {c:List PV}
theorem ED {ws:List Int}{w:Int}{m0 l:Nat}{i k:Int}:∀(r j nn:Nat)(bs:List Int),8-j=r->r<nn->j<=8->bs.length+r<=34359738368 ->
  F9 fu call n c m0 nn bs.length w l (At .u64 ws) k i j (At .u8 bs) =
   Er fu call n c m0 (bs++(List.range' j (8-j)).map (H1 w)).length l (At .u64 ws) k (wrap .i64 (i+1)) (At .u8 (bs++(List.range' j (8-j)).map (H1 w)))
 |r,j,0,bs,_,h,_,_=>by omega
 |0,j,nn+1,bs,hr,_,hj,_=>by
  have e:j=8:=by omega
  subst e;rw[Kv];simp (disch:=omega) only[En];simp
 |r+1,j,nn+1,bs,hr,hn,hj,hb=>by
  have ih:=ED (ws:=ws) (w:=w) (m0:=m0) (l:=l) (i:=i) (k:=k) r (j+1) nn (bs++[H1 w j]) (by omega) (by omega) (by omega) (by simp;omega)
  have e8:=Aw .u8 bs;rw[Kv]
  have hx:wrap .u8 (Pp .u64 w (wrap .i64 (56-wrap .i64 (8*(j:Int)))))=H1 w j:=by
   rw[wrap_i64 (x:=8*(j:Int)) (by omega) (by omega),wrap_i64 (by omega) (by omega)]
   rfl
  have h0:0<=wrap .i64 (56-wrap .i64 (8*(j:Int))):=by
   rw[wrap_i64 (x:=8*(j:Int)) (by omega) (by omega),wrap_i64 (by omega) (by omega)]
   omega
  have IK:List.range' j (8-j)=j::List.range' (j+1) (8-(j+1)):=by
   rw[show 8-j=(8-(j+1))+1 by omega]
   exact List.range'_succ
  simp (disch:=first|omega|exact h0) only[En,E8,hx,XE,FV,wrap_i64 (x:=(j:Int)+1)];rw[IK];simp only[MK,LI,YN,I1,NS,List.map_cons,List.singleton_append] at ih ⊢;exact ih
theorem Yk {ws:List Int}(hl:ws.length<=1073741824)(Ef:100<=fu):∀(r:List Int)(i nn:Nat)(bs:List Int),ws.drop i=r->r.length<nn->bs.length=8*i ->
  Er fu call n c nn bs.length ws.length (At .u64 ws) ws.length i (At .u8 bs)=some ⟨[.own 1 (bs++Be r).length (At .u8 (bs++Be r))],[]⟩
 |r,i,0,_,_,h,_=>by omega
 |[],i,nn+1,bs,h,_,_=>by
  have:=drop_nil h;have e8:=Aw .u8 bs;rw[K3];simp (disch:=omega) only[En,E8,XE,Be,List.flatMap_nil,List.append_nil]
 |w::r,i,nn+1,bs,h,hn,hb=>by
  obtain⟨h1,h2,h3⟩:=D8 h;simp only[LI] at hn;rw[K3];simp (disch:=omega) only[En,Uv,E8,ati h2];rw[show (0:Int)=((0:Nat):Int) from rfl,ED 8 0 fu bs rfl (by omega) (by omega) (by omega),wrap_i64 (by omega) (by omega)]
  have ih:=Yk hl Ef r (i+1) nn (bs++E3 w) h3 (by omega) (by simp[Dt];omega)
  have e:bs++E3 w++Be r=bs++Be (w::r):=by simp[Be]
  rw[e] at ih;exact ih
theorem HN {ws:List Int}(hl:ws.length<=1073741824)(Ef:100<=fu)(hf:ws.length<fu):Ag (CX xs) prog fu (d+1) G4 [.lst false 1 ws.length (At .u64 ws)]=some ⟨[.own 1 (Be ws).length (At .u8 (Be ws))],[]⟩:=by
 rw[Xt];simp (disch:=omega) only[En,wrap_i64,Int.mul_one];exact Yk hl Ef ws 0 fu [] rfl hf rfl
theorem Zl {ws:List Int}{w:Int}{m0 i:Nat}(hw:ws[i]?=some w):∀(r nn:Nat)(j:Int)(bs:List Int),j=(r:Int)-1->r<=8->r<nn->bs.length+r<=34359738368 ->
  Dw fu call n c m0 nn ws.length (At .u64 ws) bs.length i j (At .u8 bs) =
   C4 fu call n c m0 ws.length (At .u64 ws) (bs++(List.range' (8-r) r).map (H1 w)).length (wrap .i64 (i+1)) (At .u8 (bs++(List.range' (8-r) r).map (H1 w)))
 |r,0,j,bs,_,_,h,_=>by omega
 |0,nn+1,j,bs,hr,_,_,_=>by
  rw[G9];simp (disch:=omega) only[En];simp
 |r+1,nn+1,j,bs,hr,Tn,hn,hb=>by
  have hi:=Ke hw;have ih:=Zl (m0:=m0) hw r nn (j-1) (bs++[H1 w (8-(r+1))]) (by omega) (by omega) (by omega) (by simp;omega)
  have e8:=Aw .u8 bs
  have hx:wrap .u8 (Pp .u64 w (wrap .u64 (wrap .i64 (8*j))))=H1 w (8-(r+1)):=by
   rw[wrap_i64 (by omega) (by omega),Cj (by omega) (by omega)]
   unfold H1;rw[show 56-8*((8-(r+1):Nat):Int)=8*j by omega]
  have h0:0<=wrap .u64 (wrap .i64 (8*j)):=by
   rw[wrap_i64 (by omega) (by omega),Cj (by omega) (by omega)]
   omega
  have IK:List.range' (8-(r+1)) (r+1)=(8-(r+1))::List.range' (8-r) r:=by
   rw[List.range'_succ,show 8-(r+1)+1=8-r by omega]
  rw[G9];simp (disch:=first|omega|exact h0) only[En,Uv,E8,ati hw,hx,XE,FV,wrap_i64 (x:=j-1)];rw[IK];simp only[MK,LI,YN,I1,NS,List.map_cons,List.singleton_append] at ih ⊢;exact ih
theorem Um {ws:List Int}(hl:ws.length<=1073741824)(Ef:100<=fu):∀(r:List Int)(i nn:Nat)(bs:List Int),ws.drop i=r->r.length<nn->bs.length=8*i ->
  C4 fu call n c nn ws.length (At .u64 ws) bs.length i (At .u8 bs)=some ⟨[.own 1 (bs++Be r).length (At .u8 (bs++Be r))],[]⟩
 |r,i,0,_,_,h,_=>by omega
 |[],i,nn+1,bs,h,_,_=>by
  have:=drop_nil h;have e8:=Aw .u8 bs;rw[G5];simp (disch:=omega) only[En,E8,XE,Be,List.flatMap_nil,List.append_nil]
 |w::r,i,nn+1,bs,h,hn,hb=>by
  obtain⟨h1,h2,h3⟩:=D8 h;simp only[LI] at hn;rw[G5];simp (disch:=omega) only[En];rw[Zl h2 8 fu 7 bs rfl (by omega) (by omega) (by omega),wrap_i64 (by omega) (by omega)]
  have ih:=Um hl Ef r (i+1) nn (bs++E3 w) h3 (by omega) (by simp[Dt];omega)
  have e:bs++E3 w++Be r=bs++Be (w::r):=by simp[Be]
  rw[e] at ih;exact ih
theorem AV {ws:List Int}(hl:ws.length<=1073741824)(Ef:100<=fu)(hf:ws.length<fu):Ag (CX xs) prog fu (d+1) D6 [.lst false 1 ws.length (At .u64 ws)]=some ⟨[.own 1 (Be ws).length (At .u8 (Be ws))],[]⟩:=by
 rw[Pr];exact Um hl Ef ws 0 fu [] rfl hf rfl
end
end
section
open Go.IntKind (wrap)
theorem SC (k:IntKind)(l:List Int)(i:Nat)(x:Int):(At k l).set i (.sc (.int k x))=At k (l.set i x):=by
 induction l generalizing i with
 |nil=>rfl
 |cons a l ih=>
  cases i with
  |zero=>rfl
  |succ i=>
   show (PV.sc (.int k a)::At k l).set (i+1) _=PV.sc (.int k a)::At k (l.set i x);rw[List.set_cons_succ,ih]
theorem UV (w:Int)(k:Nat):0<=H1 w k∧H1 w k<=255:=by
 unfold H1;simp only[wrap,IntKind.signed,IntKind.bits];simp;omega
theorem MJ (w:Int):Ny (E3 w):=by
 intro x hx;obtain⟨k,_,rfl⟩:=List.mem_map.1 hx;exact UV w k
theorem FQ (ws:List Int):Ny (Be ws):=by
 intro x hx;obtain⟨w,_,hx⟩:=List.mem_flatMap.1 hx;exact MJ w x hx
theorem M8 (ws:List Int):(Be ws).length=8*ws.length:=by
 induction ws with
 |nil=>rfl
 |cons w ws ih=>
  show (E3 w++Be ws).length=_;rw[MK,ih,Dt,LI];omega
end
section
open Go.IntKind (wrap)
def W9:PV->Bool
 |.sc (.int .i64 _)=>true
 |_=>false
def TG (args:List PV):Option Bc:=
 match args with
 |[.own 2 n c,.sc (.int .i64 i),.tup [.own 2 1 [.sc (.int .i64 f),.sc (.int .i64 l)]]]=>
  bif Nat.beq c.length (n*2)&&decide (0<=i)&&decide (i<=n)&&Nat.ble n 100000&&c.all W9 then
   some ⟨[.own 2 (n+1) (c.take (i.toNat*2)++(.sc (.int .i64 f) :: .sc (.int .i64 l)::c.drop (i.toNat*2)))],[[.sc (.int .i64 f),.sc (.int .i64 l)]]⟩
  else none
 |_=>none
def E0 (f:FuncId):Option (List PV->Option Bc):=
 bif Nat.beq f 44 then some Nw else
 bif Nat.beq f 45 then some TG else
 bif Nat.beq f 1000000 then some (fun _=>none) else none
abbrev C0:E9:=CX E0
end
section
open Go.Proofs.Try (prog)
open Go.IntKind (wrap)
set_option maxRecDepth 100000
abbrev P0:FuncId:=40
theorem Zc {xs:FuncId->Option (List PV->Option Bc)} (fu d Bf:Nat)(a0:List PV):Ag (CX xs) prog fu (d+1) P0 [.lst false 1 Bf a0]=(fun (call:Ah)=>Cc (decide (0<Bf)) (Ao (decide (a0.length=Bf*1)&&decide ((0+Bf)*1<=1099511627776)&&decide (0+Bf<=1099511627776))<|Aa (0+Bf) fun x1=>Aa ([]++a0) fun x2=>Ao (decide (x1*1<=x2.length))<|some (Bc.mk [.own 1 x1 (List.take (x1*1) x2)] [])) (Uz (some (Bc.mk [.own 1 0 []] [])) (Ao (decide (a0.length=Bf*1)&&decide ((0+Bf)*1<=1099511627776)&&decide (0+Bf<=1099511627776))<|Aa (0+Bf) fun x3=>Aa ([]++a0) fun x4=>Ao (decide (x3*1<=x4.length))<|some (Bc.mk [.own 1 x3 (List.take (x3*1) x4)] [])))) (Ag (CX xs) prog fu d):=by kernel_rfl
abbrev It:FuncId:=57
theorem Nu {xs:FuncId->Option (List PV->Option Bc)} (fu d Bf:Nat)(a0:List PV):Ag (CX xs) prog fu (d+1) It [.lst false 2 Bf a0]=(fun (call:Ah)=>Cc (decide (0<Bf)) (Ao (decide (a0.length=Bf*2)&&decide ((0+Bf)*16<=1099511627776)&&decide (0+Bf<=1099511627776))<|Aa (0+Bf) fun x1=>Aa ([]++a0) fun x2=>Ao (decide (x1*2<=x2.length))<|some (Bc.mk [.own 2 x1 (List.take (x1*2) x2)] [])) (Uz (some (Bc.mk [.own 2 0 []] [])) (Ao (decide (a0.length=Bf*2)&&decide ((0+Bf)*16<=1099511627776)&&decide (0+Bf<=1099511627776))<|Aa (0+Bf) fun x3=>Aa ([]++a0) fun x4=>Ao (decide (x3*2<=x4.length))<|some (Bc.mk [.own 2 x3 (List.take (x3*2) x4)] [])))) (Ag (CX xs) prog fu d):=by kernel_rfl
abbrev Ip:FuncId:=39
theorem On {xs:FuncId->Option (List PV->Option Bc)} (fu d I9:Nat)(Gg:List PV)(Fz Gd:Int)(F3 Pk:Int)(Pj:Bool)(Po:Int)(Jf:Nat)(Pq:List PV)(Pd:Bool)(Pe Jc:Int):Ag (CX xs) prog fu (d+1) Ip [.agg [.lst false 1 I9 Gg,.sc (.int .i64 Fz),.sc (.int .u64 Gd),.sc (.int .u64 F3),.sc (.int .i64 Pk),.sc (.bool Pj),.sc (.int .u64 Po),.lst false 2 Jf Pq,.sc (.bool Pd),.sc (.int .i64 Pe),.sc (.int .i64 Jc)]]=(fun (call:Ah)=>Aq (call 40 [.lst false 1 I9 Gg]) fun x1 x2=>Ai x2<|Ab x1 fun x3 x4=>Ml 1 x3 fun x5 x6=>Ai x4<|Aq (call 57 [.lst false 2 Jf Pq]) fun x7 x8=>Ai x8<|Ab x7 fun x9 Ix=>Ml 2 x9 fun Ij Id=>Ai Ix<|Ao (decide (x5*1<=x6.length))<|Ao (decide (Ij*2<=Id.length))<|some (Bc.mk [.agg [.own 1 x5 (List.take (x5*1) x6),.sc (.int .i64 Fz),.sc (.int .u64 Gd),.sc (.int .u64 F3),.sc (.int .i64 Pk),.sc (.bool Pj),.sc (.int .u64 Po),.own 2 Ij (List.take (Ij*2) Id),.sc (.bool Pd),.sc (.int .i64 Pe),.sc (.int .i64 Jc)]] [])) (Ag (CX xs) prog fu d):=by kernel_rfl
abbrev Mt:FuncId:=38
noncomputable def Gk (fu:Nat)(call:Ah)(Bf:Nat)(a0:List PV)(nn y0 y1:Nat)(y2:List PV)(y3 y4:Int)(y5:List PV):Option Bc:=Cl CB prog fu call 38 Try.f38 (Bm Try.f38) [.lst false 3 Bf a0] [.r,.r,.l,.r,.l] nn ⟨lk [(3,(.view 3 3 0 y0)),(13,(.lst false 3 y1 y2)),(14,(.sc (.int .i64 y3))),(15,(.sc (.int .i64 y4)))],Fa [(3,(.ar false y5))]⟩
noncomputable def L7 (fu:Nat)(call:Ah)(Bf:Nat)(a0:List PV)(m0 nn:Nat)(y0 y1 y2:Nat)(y3:List PV)(y4 y5:Int)(y6:Nat)(y7:List PV)(y8 y9:Int)(Gi:List PV)(Hb D5:ByteArray)(Gz:Nat)(Hn K0:List PV):Option Bc:=Cl CB prog fu call 38 Try.f38 (Bm Try.f38) [.lst false 3 Bf a0] [.r,.r,.l,.r,.l,.i m0,.r,.r,.l,.l,.r,.r,.l,.r,.l] nn ⟨lk [(3,(.view 3 3 0 y0)),(5,(.ptr 5 0)),(6,(.view 6 11 0 y1)),(13,(.lst false 3 y2 y3)),(14,(.sc (.int .i64 y4))),(15,(.sc (.int .i64 y5))),(25,(.lst false 11 y6 y7)),(26,(.sc (.int .i64 y8))),(27,(.sc (.int .i64 y9)))],Fa [(3,(.ar false Gi)),(5,(.st [(.sc (.string Hb)),(.sc (.string D5)),(.lst false 11 Gz Hn)])),(6,(.ar false K0))]⟩
theorem Kl (fu:Nat)(call:Ah)(Bf:Nat)(a0:List PV)(nn y0 y1:Nat)(y2:List PV)(y3 y4:Int)(y5:List PV):Gk fu call Bf a0 (nn+1) y0 y1 y2 y3 y4 y5=(Cc (decide (y4<y3)) (Ao (decide (0<=y4)&&decide (y4<(↑y1:Int)))<|Et (List.getD y2 (Int.toNat y4*3) .top) fun x2=>Et (List.getD y2 (Int.toNat y4*3+1) .top) fun x3=>Gs 11 (List.getD y2 (Int.toNat y4*3+1+1) .top) fun x4 x5 x6=>Aa (wrap .i64 ((↑x5:Int)+1)) fun x7=>Ao (decide (0<=x7)&&decide (x7*120<=1099511627776)&&decide (x7<=1099511627776))<|L7 fu call Bf a0 nn (fu) (y0) 0 (y1) (y2) (y3) (y4) x5 x6 ((↑x5:Int)) 0 (y5) x2 x3 x5 x6 ([])) (Ao (decide (y0*3<=y5.length))<|some (Bc.mk [.own 3 y0 (List.take (y0*3) y5)] []))):=by kernel_rfl
theorem Nc {xs:FuncId->Option (List PV->Option Bc)} (fu d Bf:Nat)(a0:List PV):Ag (CX xs) prog fu (d+1) Mt [.lst false 3 Bf a0]=(fun (call:Ah)=>Aa (wrap .i64 ((↑Bf:Int)+1)) fun x1=>Ao (decide (0<=x1)&&decide (x1*56<=1099511627776)&&decide (x1<=1099511627776))<|Gk fu call Bf a0 (fu) 0 (Bf) (a0) ((↑Bf:Int)) 0 ([])) (Ag (CX xs) prog fu d):=by kernel_rfl
abbrev N4:FuncId:=18
noncomputable def F7 (fu:Nat)(call:Ah)(Bf:Nat)(a0:List PV)(a1:ByteArray)(nn:Nat)(y0:ByteArray)(y1:Nat)(y2:List PV)(y3 y4:Int):Option Bc:=Cl CB prog fu call 18 Try.f18 (Bm Try.f18) [.lst false 3 Bf a0,.sc (.string a1)] [.r,.l,.r,.l] nn ⟨lk [(1,(.sc (.string y0))),(8,(.lst false 3 y1 y2)),(9,(.sc (.int .i64 y3))),(10,(.sc (.int .i64 y4)))],Fa []⟩
theorem K8 (fu:Nat)(call:Ah)(Bf:Nat)(a0:List PV)(a1:ByteArray)(nn:Nat)(y0:ByteArray)(y1:Nat)(y2:List PV)(y3 y4:Int):F7 fu call Bf a0 a1 (nn+1) y0 y1 y2 y3 y4=(Cc (decide (y4<y3)) (Ao (decide (0<=y4)&&decide (y4<(↑y1:Int)))<|Et (List.getD y2 (Int.toNat y4*3) .top) fun x1=>Et (List.getD y2 (Int.toNat y4*3+1) .top) fun x2=>Gs 11 (List.getD y2 (Int.toNat y4*3+1+1) .top) fun x3 x4 x5=>Cc (Array.toList (ByteArray.data x1)==Array.toList (ByteArray.data y0)) (some (Bc.mk [.sc (.int .i64 y4),.sc (.bool true)] [])) (Aa (wrap .i64 (y4+1)) fun x6=>F7 fu call Bf a0 a1 (nn) (y0) (y1) (y2) (y3) x6)) (some (Bc.mk [.sc (.int .i64 0),.sc (.bool false)] []))):=by kernel_rfl
theorem Wr {xs:FuncId->Option (List PV->Option Bc)} (fu d Bf:Nat)(a0:List PV)(a1:ByteArray):Ag (CX xs) prog fu (d+1) N4 [.lst false 3 Bf a0,.sc (.string a1)]=(fun (call:Ah)=>F7 fu call Bf a0 a1 (fu) (a1) (Bf) (a0) ((↑Bf:Int)) 0) (Ag (CX xs) prog fu d):=by kernel_rfl
abbrev Vn:FuncId:=35
noncomputable def Hw (fu:Nat)(call:Ah)(Bf:Nat)(a0:List PV)(DR:Nat)(a1:List PV)(nn y0:Nat)(y1:List PV)(y2:Nat)(y3:List PV)(y4 y5:Int):Option Bc:=Cl CB prog fu call 35 Try.f35 (Bm Try.f35) [.lst false 3 Bf a0,.lst false 1 DR a1] [.r,.l,.r,.l] nn ⟨lk [(1,(.lst false 1 y0 y1)),(11,(.lst false 3 y2 y3)),(12,(.sc (.int .i64 y4))),(13,(.sc (.int .i64 y5)))],Fa []⟩
theorem Qm (fu:Nat)(call:Ah)(Bf:Nat)(a0:List PV)(DR:Nat)(a1:List PV)(nn y0:Nat)(y1:List PV)(y2:Nat)(y3:List PV)(y4 y5:Int):Hw fu call Bf a0 DR a1 (nn+1) y0 y1 y2 y3 y4 y5=(Cc (decide (y5<y4)) (Ao (decide (0<=y5)&&decide (y5<(↑y2:Int)))<|Et (List.getD y3 (Int.toNat y5*3) .top) fun x1=>Et (List.getD y3 (Int.toNat y5*3+1) .top) fun x2=>Gs 11 (List.getD y3 (Int.toNat y5*3+1+1) .top) fun x3 x4 x5=>Aq (call 55 [.agg [.sc (.string x1),.sc (.string x2),.lst false 11 x4 x5],.lst false 1 y0 y1]) fun x6 x7=>Ai x7<|Ab x6 fun x8 x9=>Al .i64 x8 fun Ix=>Ab x9 fun Ij Id=>Bb Ij fun Ln=>Ai Id<|Cc Ln (some (Bc.mk [.sc (.int .i64 y5),.sc (.int .i64 Ix),.sc (.bool true)] [])) (Aa (wrap .i64 (y5+1)) fun Lj=>Hw fu call Bf a0 DR a1 (nn) (y0) (y1) (y2) (y3) (y4) Lj)) (some (Bc.mk [.sc (.int .i64 0),.sc (.int .i64 0),.sc (.bool false)] []))):=by kernel_rfl
theorem Vd {xs:FuncId->Option (List PV->Option Bc)} (fu d Bf:Nat)(a0:List PV)(DR:Nat)(a1:List PV):Ag (CX xs) prog fu (d+1) Vn [.lst false 3 Bf a0,.lst false 1 DR a1]=(fun (call:Ah)=>Hw fu call Bf a0 DR a1 (fu) (DR) (a1) (Bf) (a0) ((↑Bf:Int)) 0) (Ag (CX xs) prog fu d):=by kernel_rfl
end
section
open Go.Proofs.Try (prog)
open Go.IntKind (wrap)
set_option maxRecDepth 100000
abbrev Ca:FuncId:=70
noncomputable def Az (fu:Nat)(call:Ah)(n:Nat)(c:List PV)(a1 a2:Int)(nn y0:Nat)(y1 y2 y3:Int)(y4:List PV):Option Bc:=Cl CB prog fu call 70 Try.f70 (Bm Try.f70) [PV.tup [.own 1 n c],.sc (.int .i64 a1),.sc (.int .i64 a2),.sc (Value.func (Fn.func (44:FuncId)) #[] #[])] [.r,.l] nn ⟨lk [(0,(.view 106000 1 0 y0)),(1,(.sc (.int .i64 y1))),(2,(.sc (.int .i64 y2))),(3,(.sc (Value.func (Fn.func (44:FuncId)) #[] #[]))),(8,(.sc (.int .i64 y3)))],Fa [(106000,(.ar false y4))]⟩
noncomputable def Bj (fu:Nat)(call:Ah)(n:Nat)(c:List PV)(a1 a2:Int)(m0 nn y0:Nat)(y1 y2:Int)(y3 y4:Int)(y5:List PV):Option Bc:=Cl CB prog fu call 70 Try.f70 (Bm Try.f70) [PV.tup [.own 1 n c],.sc (.int .i64 a1),.sc (.int .i64 a2),.sc (Value.func (Fn.func (44:FuncId)) #[] #[])] [.r,.l,.i m0,.r,.l,.l,.r,.l] nn ⟨lk [(0,(.view 106000 1 0 y0)),(1,(.sc (.int .i64 y1))),(2,(.sc (.int .i64 y2))),(3,(.sc (Value.func (Fn.func (44:FuncId)) #[] #[]))),(8,(.sc (.int .i64 y3))),(9,(.sc (.int .i64 y4)))],Fa [(106000,(.ar false y5))]⟩
theorem Dd (fu:Nat)(call:Ah)(n:Nat)(c:List PV)(a1 a2:Int)(nn y0:Nat)(y1 y2 y3:Int)(y4:List PV):Az fu call n c a1 a2 (nn+1) y0 y1 y2 y3 y4=(Cc (decide (y3<y2)) (Bj fu call n c a1 a2 nn (fu) (y0) (y1) (y2) (y3) (y3) (y4)) (some (Bc.mk [] [y4]))):=by kernel_rfl
theorem Dc (fu:Nat)(call:Ah)(n:Nat)(c:List PV)(a1 a2:Int)(m0 nn y0:Nat)(y1 y2:Int)(y3 y4:Int)(y5:List PV):Bj fu call n c a1 a2 m0 (nn+1) y0 y1 y2 y3 y4 y5=(Cc (decide (y4>y1)) (Ao (decide (0<=y4)&&decide (y4<(↑y0:Int)))<|Gs 1 (List.getD y5 (0+Int.toNat y4*1) .top) fun x2 x3 x4=>Aa (wrap .i64 (y4-1)) fun x5=>Ao (decide (0<=x5)&&decide (x5<(↑y0:Int)))<|Gs 1 (List.getD y5 (0+Int.toNat x5*1) .top) fun x6 x7 x8=>Aq (call (44:FuncId) [.lst false 1 x3 x4,.lst false 1 x7 x8]) fun x9 Ix=>Ai Ix<|Ab x9 fun Ij Id=>Al .i64 Ij fun Ln=>Ai Id<|Cc (decide (Ln<0)) (Aa (wrap .i64 (y4-1)) fun Lj=>Aa (wrap .i64 (y4-1)) fun Ll=>Ao (decide (0<=Ll)&&decide (Ll<(↑y0:Int)))<|Gs 1 (List.getD y5 (0+Int.toNat Ll*1) .top) fun Pn Qu Nn=>Ao (decide (0<=y4)&&decide (y4<(↑y0:Int)))<|Gs 1 (List.getD y5 (0+Int.toNat y4*1) .top) fun Hg Px P8=>Ao (decide (0<=y4)&&decide (y4<(↑y0:Int)))<|Ao (decide (0+Int.toNat y4*1+1<=y5.length))<|Aa (A2 y5 [.lst false 1 Qu Nn] (0+Int.toNat y4*1)) fun Rh=>Ao (decide (0<=Lj)&&decide (Lj<(↑y0:Int)))<|Ao (decide (0+Int.toNat Lj*1+1<=Rh.length))<|Aa (A2 Rh [.lst false 1 Px P8] (0+Int.toNat Lj*1)) fun R6=>Aa (wrap .i64 (y4-1)) fun Jy=>Bj fu call n c a1 a2 m0 (nn) (y0) (y1) (y2) (y3) Jy R6) (Aa (wrap .i64 (y3+1)) fun Vs=>Az fu call n c a1 a2 (m0) (y0) (y1) (y2) Vs (y5))) (Aa (wrap .i64 (y3+1)) fun Tz=>Az fu call n c a1 a2 (m0) (y0) (y1) (y2) Tz (y5))):=by kernel_rfl
theorem Gh (fu d n:Nat)(c:List PV)(a1 a2:Int):Ag C0 prog fu (d+1) Ca [PV.tup [.own 1 n c],.sc (.int .i64 a1),.sc (.int .i64 a2),.sc (Value.func (Fn.func (44:FuncId)) #[] #[])]=(fun (call:Ah)=>Aa (wrap .i64 (a1+1)) fun x1=>Az fu call n c a1 a2 (fu) (n) (a1) (a2) x1 (c)) (Ag C0 prog fu d):=by kernel_rfl
abbrev Es:FuncId:=60
noncomputable def Eh (fu:Nat)(call:Ah)(n:Nat)(c:List PV)(a1 a2 a3:Int)(nn y0:Nat)(y1 y2 y3:Int)(y4 y5:Bool)(y6:List PV):Option Bc:=Cl CB prog fu call 60 Try.f60 (Bm Try.f60) [PV.tup [.own 1 n c],.sc (.int .i64 a1),.sc (.int .i64 a2),.sc (.int .i64 a3),.sc (Value.func (Fn.func (44:FuncId)) #[] #[])] [.r,.r,.l] nn ⟨lk [(0,(.view 296000 1 0 y0)),(1,(.sc (.int .i64 y1))),(2,(.sc (.int .i64 y2))),(3,(.sc (.int .i64 y3))),(4,(.sc (Value.func (Fn.func (44:FuncId)) #[] #[]))),(10,(.sc (.bool y4))),(11,(.sc (.bool y5)))],Fa [(296000,(.ar false y6))]⟩
noncomputable def Am (fu:Nat)(call:Ah)(n:Nat)(c:List PV)(a1 a2 a3:Int)(m0 nn y0:Nat)(y1 y2 y3:Int)(y4 y5:Bool)(y6 y7:Int)(y8:List PV):Option Bc:=Cl CB prog fu call 60 Try.f60 (Bm Try.f60) [PV.tup [.own 1 n c],.sc (.int .i64 a1),.sc (.int .i64 a2),.sc (.int .i64 a3),.sc (Value.func (Fn.func (44:FuncId)) #[] #[])] [.r,.r,.l,.i m0,.l,.r,.r,.r,.r,.r,.r] nn ⟨lk [(0,(.view 296000 1 0 y0)),(1,(.sc (.int .i64 y1))),(2,(.sc (.int .i64 y2))),(3,(.sc (.int .i64 y3))),(4,(.sc (Value.func (Fn.func (44:FuncId)) #[] #[]))),(10,(.sc (.bool y4))),(11,(.sc (.bool y5))),(12,(.sc (.int .i64 y6))),(13,(.sc (.int .i64 y7)))],Fa [(296000,(.ar false y8))]⟩
theorem Hi (fu:Nat)(call:Ah)(n:Nat)(c:List PV)(a1 a2 a3:Int)(nn y0:Nat)(y1 y2 y3:Int)(y4 y5:Bool)(y6:List PV):Eh fu call n c a1 a2 a3 (nn+1) y0 y1 y2 y3 y4 y5 y6=(Aa (wrap .i64 (y2-y1)) fun x1=>Cc (decide (x1<=12)) (Aq (call 70 [PV.tup [.own 1 y0 y6],.sc (.int .i64 y1),.sc (.int .i64 y2),.sc (Value.func (Fn.func (44:FuncId)) #[] #[])]) fun x2 x3=>Ai x2<|Ab x3 fun x4 x5=>Ai x5<|some (Bc.mk [] [x4])) (Cc (y3==0) (Aq (call 71 [PV.tup [.own 1 y0 y6],.sc (.int .i64 y1),.sc (.int .i64 y2),.sc (Value.func (Fn.func (44:FuncId)) #[] #[])]) fun x6 x7=>Ai x6<|Ab x7 fun x8 x9=>Ai x9<|some (Bc.mk [] [x8])) (Cc (!y4) (Aq (call 72 [PV.tup [.own 1 y0 y6],.sc (.int .i64 y1),.sc (.int .i64 y2),.sc (Value.func (Fn.func (44:FuncId)) #[] #[])]) fun Ix Ij=>Ai Ix<|Ab Ij fun Id Ln=>Ai Ln<|Aa (wrap .i64 (y3-1)) fun Lj=>Aq (call 73 [PV.tup [.own 1 y0 Id],.sc (.int .i64 y1),.sc (.int .i64 y2),.sc (Value.func (Fn.func (44:FuncId)) #[] #[])]) fun Ll Pn=>Ab Ll fun Qu Nn=>Al .i64 Qu fun Hg=>Ab Nn fun Px P8=>Al .i64 Px fun Rh=>Ai P8<|Ab Pn fun R6 Jy=>Ai Jy<|Cc (Rh==2) (Aq (call 74 [PV.tup [.own 1 y0 R6],.sc (.int .i64 y1),.sc (.int .i64 y2),.sc (Value.func (Fn.func (44:FuncId)) #[] #[])]) fun Vs Tz=>Ai Vs<|Ab Tz fun Qk CM=>Ai CM<|Aa (wrap .i64 (y2-1)) fun BW=>Aa (wrap .i64 (Hg-y1)) fun Pa=>Aa (wrap .i64 (BW-Pa)) fun Q9=>Cc (y4) (Cc (y5) (Aq (call 75 [PV.tup [.own 1 y0 Qk],.sc (.int .i64 y1),.sc (.int .i64 y2),.sc (Value.func (Fn.func (44:FuncId)) #[] #[])]) fun Yu X4=>Ab Yu fun Uo Yw=>Bb Uo fun Wg=>Ai Yw<|Ab X4 fun S0 Y7=>Ai Y7<|Cc Wg (some (Bc.mk [] [S0])) (Am fu call n c a1 a2 a3 nn (fu) (y0) (y1) (y2) Lj (y4) (y5) x1 Q9 S0)) (Am fu call n c a1 a2 a3 nn (fu) (y0) (y1) (y2) Lj (y4) (y5) x1 Q9 Qk)) (Am fu call n c a1 a2 a3 nn (fu) (y0) (y1) (y2) Lj (y4) (y5) x1 Q9 Qk)) (Cc (y4) (Cc (y5) (Cc (Rh==1) (Aq (call 75 [PV.tup [.own 1 y0 R6],.sc (.int .i64 y1),.sc (.int .i64 y2),.sc (Value.func (Fn.func (44:FuncId)) #[] #[])]) fun EB AO=>Ab EB fun KB IE=>Bb KB fun KT=>Ai IE<|Ab AO fun HX KQ=>Ai KQ<|Cc KT (some (Bc.mk [] [HX])) (Am fu call n c a1 a2 a3 nn (fu) (y0) (y1) (y2) Lj (y4) (y5) x1 Hg HX)) (Am fu call n c a1 a2 a3 nn (fu) (y0) (y1) (y2) Lj (y4) (y5) x1 Hg R6)) (Am fu call n c a1 a2 a3 nn (fu) (y0) (y1) (y2) Lj (y4) (y5) x1 Hg R6)) (Am fu call n c a1 a2 a3 nn (fu) (y0) (y1) (y2) Lj (y4) (y5) x1 Hg R6))) (Aq (call 73 [PV.tup [.own 1 y0 y6],.sc (.int .i64 y1),.sc (.int .i64 y2),.sc (Value.func (Fn.func (44:FuncId)) #[] #[])]) fun JU KR=>Ab JU fun JM JI=>Al .i64 JM fun Ys=>Ab JI fun HU LW=>Al .i64 HU fun ID=>Ai LW<|Ab KR fun Vo DW=>Ai DW<|Cc (ID==2) (Aq (call 74 [PV.tup [.own 1 y0 Vo],.sc (.int .i64 y1),.sc (.int .i64 y2),.sc (Value.func (Fn.func (44:FuncId)) #[] #[])]) fun LA JY=>Ai LA<|Ab JY fun EG IY=>Ai IY<|Aa (wrap .i64 (y2-1)) fun FZ=>Aa (wrap .i64 (Ys-y1)) fun Zg=>Aa (wrap .i64 (FZ-Zg)) fun DY=>Cc (y4) (Cc (y5) (Aq (call 75 [PV.tup [.own 1 y0 EG],.sc (.int .i64 y1),.sc (.int .i64 y2),.sc (Value.func (Fn.func (44:FuncId)) #[] #[])]) fun RI DS=>Ab RI fun LU PW=>Bb LU fun PG=>Ai PW<|Ab DS fun OZ UW=>Ai UW<|Cc PG (some (Bc.mk [] [OZ])) (Am fu call n c a1 a2 a3 nn (fu) (y0) (y1) (y2) (y3) (y4) (y5) x1 DY OZ)) (Am fu call n c a1 a2 a3 nn (fu) (y0) (y1) (y2) (y3) (y4) (y5) x1 DY EG)) (Am fu call n c a1 a2 a3 nn (fu) (y0) (y1) (y2) (y3) (y4) (y5) x1 DY EG)) (Cc (y4) (Cc (y5) (Cc (ID==1) (Aq (call 75 [PV.tup [.own 1 y0 Vo],.sc (.int .i64 y1),.sc (.int .i64 y2),.sc (Value.func (Fn.func (44:FuncId)) #[] #[])]) fun TI RC=>Ab TI fun TX YD=>Bb TX fun PX=>Ai YD<|Ab RC fun PC WZ=>Ai WZ<|Cc PX (some (Bc.mk [] [PC])) (Am fu call n c a1 a2 a3 nn (fu) (y0) (y1) (y2) (y3) (y4) (y5) x1 Ys PC)) (Am fu call n c a1 a2 a3 nn (fu) (y0) (y1) (y2) (y3) (y4) (y5) x1 Ys Vo)) (Am fu call n c a1 a2 a3 nn (fu) (y0) (y1) (y2) (y3) (y4) (y5) x1 Ys Vo)) (Am fu call n c a1 a2 a3 nn (fu) (y0) (y1) (y2) (y3) (y4) (y5) x1 Ys Vo)))))):=by kernel_rfl
theorem I5 (fu d n:Nat)(c:List PV)(a1 a2 a3:Int):Ag C0 prog fu (d+1) Es [PV.tup [.own 1 n c],.sc (.int .i64 a1),.sc (.int .i64 a2),.sc (.int .i64 a3),.sc (Value.func (Fn.func (44:FuncId)) #[] #[])]=(fun (call:Ah)=>Eh fu call n c a1 a2 a3 (fu) (n) (a1) (a2) (a3) (true) (true) (c)) (Ag C0 prog fu d):=by kernel_rfl
abbrev Eo:FuncId:=43
theorem Mx (fu d n:Nat)(c:List PV):Ag C0 prog fu (d+1) Eo [PV.tup [.own 1 n c],.sc (Value.func (Fn.func (44:FuncId)) #[] #[])]=(fun (call:Ah)=>Aa (wrap .u64 (↑n:Int)) fun x1=>Aq (call 61 [.sc (.int .u64 x1)]) fun x2 x3=>Ai x3<|Ab x2 fun x4 x5=>Al .i64 x4 fun x6=>Ai x5<|Aq (call 60 [PV.tup [.own 1 n c],.sc (.int .i64 0),.sc (.int .i64 (↑n:Int)),.sc (.int .i64 x6),.sc (Value.func (Fn.func (44:FuncId)) #[] #[])]) fun x7 x8=>Ai x7<|Ab x8 fun x9 Ix=>Ai Ix<|some (Bc.mk [] [x9])) (Ag C0 prog fu d):=by kernel_rfl
end
section
open Go.Proofs.Try (prog)
open Go.IntKind (wrap)
set_option maxRecDepth 100000
abbrev Lg:FuncId:=42
noncomputable def Gv (fu:Nat)(call:Ah)(a0 a1 a2:Int)(nn:Nat)(y0 y1 y2:Int)(y3:Nat)(y4:Int)(y5:List PV):Option Bc:=Cl CB prog fu call 42 Try.f42 (Bm Try.f42) [.sc (.int .u64 a0),.sc (.int .u64 a1),.sc (.int .i64 a2)] [.r,.r,.r,.l,.r,.l] nn ⟨lk [(0,(.sc (.int .u64 y0))),(1,(.sc (.int .u64 y1))),(2,(.sc (.int .i64 y2))),(7,(.view 7 1 0 y3)),(8,(.sc (.int .u64 y4)))],Fa [(7,(.ar false y5))]⟩
theorem Mb (fu:Nat)(call:Ah)(a0 a1 a2:Int)(nn:Nat)(y0 y1 y2:Int)(y3:Nat)(y4:Int)(y5:List PV):Gv fu call a0 a1 a2 (nn+1) y0 y1 y2 y3 y4 y5=(Cc (decide ((↑y3:Int)<y2)) (Aq (call 59 [.lst false 1 2 [.sc (.int .u64 y1),.sc (.int .u64 y4)]]) fun x4 x5=>Ai x5<|Ab x4 fun x6 x7=>Ml 1 x6 fun x8 x9=>Ai x7<|Ao (decide (0+x8*1<=x9.length))<|Aq (call 41 [.sc (.int .u64 y0),.sc (.int .i64 5),.lst false 1 x8 (List.take (x8*1) (List.drop 0 x9))]) fun Ix Ij=>Ai Ij<|Ab Ix fun Id Ln=>Al .u64 Id fun Lj=>Ai Ln<|Aq (call 59 [.lst false 1 1 [.sc (.int .u64 Lj)]]) fun Ll Pn=>Ai Pn<|Ab Ll fun Qu Nn=>Ml 1 Qu fun Hg Px=>Ai Nn<|Ao (decide (0+Hg*1<=Px.length))<|Ao (decide (y3*1<=y5.length)&&decide (List.length (List.take (Hg*1) (List.drop 0 Px))=Hg*1)&&decide ((y3+Hg)*1<=1099511627776)&&decide (y3+Hg<=1099511627776))<|Aa (y3+Hg) fun P8=>Aa (List.take (y3*1) y5++List.take (Hg*1) (List.drop 0 Px)) fun Rh=>Aa (wrap .u64 (y4+1)) fun R6=>Gv fu call a0 a1 a2 (nn) (y0) (y1) (y2) P8 R6 Rh) (Ao (decide (0<=y2))<|Ao (decide (Int.toNat y2<=y3))<|Aa (Int.toNat y2-0) fun Jy=>Ao (decide (Jy*1<=y5.length))<|some (Bc.mk [.own 1 Jy (List.take (Jy*1) y5)] []))):=by kernel_rfl
theorem Y6 (fu d:Nat)(a0 a1 a2:Int):Ag C0 prog fu (d+1) Lg [.sc (.int .u64 a0),.sc (.int .u64 a1),.sc (.int .i64 a2)]=(fun (call:Ah)=>Aa (if a2<0 then 0 else a2) fun x1=>Aa (if 1024<x1 then 1024 else x1) fun x2=>Aa (wrap .i64 (x2+8)) fun x3=>Ao (decide (0<=x3)&&decide (x3*1<=1099511627776)&&decide (x3<=1099511627776))<|Gv fu call a0 a1 a2 (fu) (a0) (a1) x2 0 0 ([])) (Ag C0 prog fu d):=by kernel_rfl
abbrev Fe:FuncId:=37
noncomputable def Dn (fu:Nat)(call:Ah)(a0 a1 a2:Int)(nn:Nat)(y0 y1 y2:Int)(y3:Nat)(y4:Int)(y5:List PV):Option Bc:=Cl CB prog fu call 37 Try.f37 (Bm Try.f37) [.sc (.int .u64 a0),.sc (.int .u64 a1),.sc (.int .i64 a2)] [.r,.r,.r,.l,.r,.l] nn ⟨lk [(0,(.sc (.int .u64 y0))),(1,(.sc (.int .u64 y1))),(2,(.sc (.int .i64 y2))),(7,(.view 7 1 0 y3)),(8,(.sc (.int .i64 y4)))],Fa [(7,(.ar false y5))]⟩
theorem Gp (fu:Nat)(call:Ah)(a0 a1 a2:Int)(nn:Nat)(y0 y1 y2:Int)(y3:Nat)(y4:Int)(y5:List PV):Dn fu call a0 a1 a2 (nn+1) y0 y1 y2 y3 y4 y5=(Cc (decide ((↑y3:Int)<y2)) (Aa (wrap .u64 y4) fun x3=>Aq (call 56 [.lst false 1 2 [.sc (.int .u64 y1),.sc (.int .u64 x3)]]) fun x4 x5=>Ai x5<|Ab x4 fun x6 x7=>Ml 1 x6 fun x8 x9=>Ai x7<|Ao (decide (0+x8*1<=x9.length))<|Aq (call 48 [.sc (.int .u64 y0),.sc (.int .i64 5),.lst false 1 x8 (List.take (x8*1) (List.drop 0 x9))]) fun Ix Ij=>Ai Ij<|Ab Ix fun Id Ln=>Al .u64 Id fun Lj=>Ai Ln<|Aq (call 56 [.lst false 1 1 [.sc (.int .u64 Lj)]]) fun Ll Pn=>Ai Pn<|Ab Ll fun Qu Nn=>Ml 1 Qu fun Hg Px=>Ai Nn<|Ao (decide (0+Hg*1<=Px.length))<|Ao (decide (y3*1<=y5.length)&&decide (List.length (List.take (Hg*1) (List.drop 0 Px))=Hg*1)&&decide ((y3+Hg)*1<=1099511627776)&&decide (y3+Hg<=1099511627776))<|Aa (y3+Hg) fun P8=>Aa (List.take (y3*1) y5++List.take (Hg*1) (List.drop 0 Px)) fun Rh=>Aa (wrap .i64 (y4+1)) fun R6=>Dn fu call a0 a1 a2 (nn) (y0) (y1) (y2) P8 R6 Rh) (Ao (decide (0<=y2))<|Ao (decide (Int.toNat y2<=y3))<|Aa (Int.toNat y2-0) fun Jy=>Ao (decide (Jy*1<=y5.length))<|some (Bc.mk [.own 1 Jy (List.take (Jy*1) y5)] []))):=by kernel_rfl
theorem Of (fu d:Nat)(a0 a1 a2:Int):Ag C0 prog fu (d+1) Fe [.sc (.int .u64 a0),.sc (.int .u64 a1),.sc (.int .i64 a2)]=(fun (call:Ah)=>Aa (if a2<0 then 0 else a2) fun x1=>Aa (if 1024<x1 then 1024 else x1) fun x2=>Dn fu call a0 a1 a2 (fu) (a0) (a1) x2 0 0 ([])) (Ag C0 prog fu d):=by kernel_rfl
abbrev Fx:FuncId:=13
theorem Ph (fu d:Nat)(a0 a1:Int):Ag C0 prog fu (d+1) Fx [.sc (.int .i64 a0),.sc (.int .i64 a1)]=(fun (call:Ah)=>Aa (wrap .u64 a0) fun x1=>Aa (wrap .u64 (x1+1)) fun x2=>Aa (if 1024<a1 then 1024 else a1) fun x3=>Aa (if x3<0 then 0 else x3) fun x4=>Aq (call 37 [.sc (.int .u64 x2),.sc (.int .u64 7),.sc (.int .i64 x4)]) fun x5 x6=>Ai x6<|Ab x5 fun x7 x8=>Ml 1 x7 fun x9 Ix=>Ai x8<|Ao (decide (x9*1<=Ix.length))<|some (Bc.mk [.own 1 x9 (List.take (x9*1) Ix)] [])) (Ag C0 prog fu d):=by kernel_rfl
abbrev Lx:FuncId:=21
noncomputable def La (fu:Nat)(call:Ah)(I9:Nat)(Gg:List PV)(Fz Gd:Int)(F3 Pk:Int)(Pj:Bool)(Po:Int)(Jf:Nat)(Pq:List PV)(Pd:Bool)(Pe Jc:Int)(a1 a2 a3:Int)(nn:Nat)(y0 y1 y2:Int)(y3:Nat)(y4 y5:Int)(y6 y7:Int)(y8:Bool)(y9:Int)(Gi:Nat)(Hb:Bool)(D5 Gz:Int)(Hn K0:List PV)(I0:Nat)(Hv O7:Int)(Sz Ss:Int)(S2:Bool)(S3:Int)(S1:Nat)(S5:Bool)(Su Sw:Int)(S4 Sy:List PV):Option Bc:=Cl CB prog fu call 21 Try.f21 (Bm Try.f21) [.agg [.lst false 1 I9 Gg,.sc (.int .i64 Fz),.sc (.int .u64 Gd),.sc (.int .u64 F3),.sc (.int .i64 Pk),.sc (.bool Pj),.sc (.int .u64 Po),.lst false 2 Jf Pq,.sc (.bool Pd),.sc (.int .i64 Pe),.sc (.int .i64 Jc)],.sc (.int .i64 a1),.sc (.int .i64 a2),.sc (.int .i64 a3)] [.r,.r,.r] nn ⟨lk [(1,(.sc (.int .i64 y0))),(2,(.sc (.int .i64 y1))),(3,(.sc (.int .i64 y2))),(4,(.ptr 4 0)),(8,(.ptr 8 0))],Fa [(4,(.st [(.view 120 1 0 y3),(.sc (.int .i64 y4)),(.sc (.int .u64 y5)),(.sc (.int .u64 y6)),(.sc (.int .i64 y7)),(.sc (.bool y8)),(.sc (.int .u64 y9)),(.view 932 2 0 Gi),(.sc (.bool Hb)),(.sc (.int .i64 D5)),(.sc (.int .i64 Gz))])),(120,(.ar false Hn)),(932,(.ar false K0)),(8,(.st [(.view 124 1 0 I0),(.sc (.int .i64 Hv)),(.sc (.int .u64 O7)),(.sc (.int .u64 Sz)),(.sc (.int .i64 Ss)),(.sc (.bool S2)),(.sc (.int .u64 S3)),(.view 936 2 0 S1),(.sc (.bool S5)),(.sc (.int .i64 Su)),(.sc (.int .i64 Sw))])),(124,(.ar false S4)),(936,(.ar false Sy))]⟩
noncomputable def E6 (fu:Nat)(call:Ah)(I9:Nat)(Gg:List PV)(Fz Gd:Int)(F3 Pk:Int)(Pj:Bool)(Po:Int)(Jf:Nat)(Pq:List PV)(Pd:Bool)(Pe Jc:Int)(a1 a2 a3:Int)(nn:Nat)(y0 y1:Int)(y2 y3 y4:Int)(y5:Nat)(y6 y7:Int)(y8 y9:Int)(Gi:Bool)(Hb:Int)(D5:Nat)(Gz:Bool)(Hn K0:Int)(I0 Hv:List PV)(O7:Nat)(Sz Ss:Int)(S2 S3:Int)(S1:Bool)(S5:Int)(Su:Nat)(Sw:Bool)(S4 Sy:Int)(DU DZ:List PV):Option Bc:=Cl CB prog fu call 21 Try.f21 (Bm Try.f21) [.agg [.lst false 1 I9 Gg,.sc (.int .i64 Fz),.sc (.int .u64 Gd),.sc (.int .u64 F3),.sc (.int .i64 Pk),.sc (.bool Pj),.sc (.int .u64 Po),.lst false 2 Jf Pq,.sc (.bool Pd),.sc (.int .i64 Pe),.sc (.int .i64 Jc)],.sc (.int .i64 a1),.sc (.int .i64 a2),.sc (.int .i64 a3)] [.r,.r,.r,.r,.r,.r,.r,.r,.l,.l] nn ⟨lk [(1,(.sc (.int .i64 y0))),(2,(.sc (.int .i64 y1))),(3,(.sc (.int .i64 y2))),(4,(.ptr 4 0)),(8,(.ptr 8 0)),(11,(.sc (.int .u64 y3))),(12,(.sc (.int .i64 y4)))],Fa [(4,(.st [(.view 120 1 0 y5),(.sc (.int .i64 y6)),(.sc (.int .u64 y7)),(.sc (.int .u64 y8)),(.sc (.int .i64 y9)),(.sc (.bool Gi)),(.sc (.int .u64 Hb)),(.view 932 2 0 D5),(.sc (.bool Gz)),(.sc (.int .i64 Hn)),(.sc (.int .i64 K0))])),(120,(.ar false I0)),(932,(.ar false Hv)),(8,(.st [(.view 124 1 0 O7),(.sc (.int .i64 Sz)),(.sc (.int .u64 Ss)),(.sc (.int .u64 S2)),(.sc (.int .i64 S3)),(.sc (.bool S1)),(.sc (.int .u64 S5)),(.view 936 2 0 Su),(.sc (.bool Sw)),(.sc (.int .i64 S4)),(.sc (.int .i64 Sy))])),(124,(.ar false DU)),(936,(.ar false DZ))]⟩
theorem Pm (fu:Nat)(call:Ah)(I9:Nat)(Gg:List PV)(Fz Gd:Int)(F3 Pk:Int)(Pj:Bool)(Po:Int)(Jf:Nat)(Pq:List PV)(Pd:Bool)(Pe Jc:Int)(a1 a2 a3:Int)(nn:Nat)(Eg:0<nn)(y0 y1 y2:Int)(y3:Nat)(y4 y5:Int)(y6 y7:Int)(y8:Bool)(y9:Int)(Gi:Nat)(Hb:Bool)(D5 Gz:Int)(Hn K0:List PV)(I0:Nat)(Hv O7:Int)(Sz Ss:Int)(S2:Bool)(S3:Int)(S1:Nat)(S5:Bool)(Su Sw:Int)(S4 Sy:List PV):La fu call I9 Gg Fz Gd F3 Pk Pj Po Jf Pq Pd Pe Jc a1 a2 a3 nn y0 y1 y2 y3 y4 y5 y6 y7 y8 y9 Gi Hb D5 Gz Hn K0 I0 Hv O7 Sz Ss S2 S3 S1 S5 Su Sw S4 Sy=(Cc (Hb) (Ao (decide (0+y3*1<=Hn.length))<|Ao (decide (0+Gi*2<=K0.length))<|some (Bc.mk [.agg [.lst false 1 y3 (List.take (y3*1) (List.drop 0 Hn)),.sc (.int .i64 y4),.sc (.int .u64 y5),.sc (.int .u64 y6),.sc (.int .i64 y7),.sc (.bool y8),.sc (.int .u64 y9),.lst false 2 Gi (List.take (Gi*2) (List.drop 0 K0)),.sc (.bool Hb),.sc (.int .i64 D5),.sc (.int .i64 Gz)],.sc (.int .i64 39)] [])) (Ao (decide (0<=y0))<|Aa (Hh .u64 1 y0) fun IE=>Aa (Uc .u64 y9 IE) fun KT=>Cc (KT != 0) (Ao (decide (0+y3*1<=Hn.length))<|Ao (decide (0+Gi*2<=K0.length))<|some (Bc.mk [.agg [.lst false 1 y3 (List.take (y3*1) (List.drop 0 Hn)),.sc (.int .i64 y4),.sc (.int .u64 y5),.sc (.int .u64 y6),.sc (.int .i64 y7),.sc (.bool y8),.sc (.int .u64 y9),.lst false 2 Gi (List.take (Gi*2) (List.drop 0 K0)),.sc (.bool true),.sc (.int .i64 D5),.sc (.int .i64 Gz)],.sc (.int .i64 37)] [])) (E6 fu call I9 Gg Fz Gd F3 Pk Pj Po Jf Pq Pd Pe Jc a1 a2 a3 (fu) (y0) (y1) (y2) IE 0 (y3) (y4) (y5) (y6) (y7) (y8) (y9) (Gi) (Hb) (D5) (Gz) (Hn) (K0) (I0) (Hv) (O7) (Sz) (Ss) (S2) (S3) (S1) (S5) (Su) (Sw) (S4) (Sy)))):=by cases nn with|zero=>exact absurd Eg (Nat.lt_irrefl 0)|succ nn=>kernel_rfl
theorem Jh (fu:Nat)(call:Ah)(I9:Nat)(Gg:List PV)(Fz Gd:Int)(F3 Pk:Int)(Pj:Bool)(Po:Int)(Jf:Nat)(Pq:List PV)(Pd:Bool)(Pe Jc:Int)(a1 a2 a3:Int)(nn:Nat)(y0 y1:Int)(y2 y3 y4:Int)(y5:Nat)(y6 y7:Int)(y8 y9:Int)(Gi:Bool)(Hb:Int)(D5:Nat)(Gz:Bool)(Hn K0:Int)(I0 Hv:List PV)(O7:Nat)(Sz Ss:Int)(S2 S3:Int)(S1:Bool)(S5:Int)(Su:Nat)(Sw:Bool)(S4 Sy:Int)(DU DZ:List PV):E6 fu call I9 Gg Fz Gd F3 Pk Pj Po Jf Pq Pd Pe Jc a1 a2 a3 (nn+1) y0 y1 y2 y3 y4 y5 y6 y7 y8 y9 Gi Hb D5 Gz Hn K0 I0 Hv O7 Sz Ss S2 S3 S1 S5 Su Sw S4 Sy DU DZ=(Cc (decide (y4<(↑D5:Int))) (Ao (decide (0<=y4)&&decide (y4<(↑D5:Int)))<|Al .i64 (List.getD Hv (0+Int.toNat y4*2+0) .top) fun HX=>Cc (decide (HX<y1)) (Aa (wrap .i64 (y4+1)) fun KQ=>E6 fu call I9 Gg Fz Gd F3 Pk Pj Po Jf Pq Pd Pe Jc a1 a2 a3 (nn) (y0) (y1) (y2) (y3) KQ (y5) (y6) (y7) (y8) (y9) (Gi) (Hb) (D5) (Gz) (Hn) (K0) (I0) (Hv) (O7) (Sz) (Ss) (S2) (S3) (S1) (S5) (Su) (Sw) (S4) (Sy) (DU) (DZ)) (Cc (y4==(↑D5:Int)) (Ao (decide (D5*2<=Hv.length))<|Aq (call 45 [.own 2 D5 (List.take (D5*2) Hv),.sc (.int .i64 y4),PV.tup [.own 2 1 [.sc (.int .i64 y1),.sc (.int .i64 y0)]]]) fun JU KR=>Ab JU fun JM JI=>Ml 2 JM fun Ys HU=>Ai JI<|Ab KR fun LW ID=>Ai ID<|Ao (decide (0<=y4)&&decide (y4<(↑Ys:Int)))<|Ao (decide (0+Int.toNat y4*2+1+1<=HU.length))<|Aa (A2 HU [.sc (.int .i64 y0)] (0+Int.toNat y4*2+1)) fun Vo=>Aa (V9 .u64 Hb y3) fun DW=>Ao (decide (0+y5*1<=I0.length))<|Ao (decide (0+Ys*2<=Vo.length))<|some (Bc.mk [.agg [.lst false 1 y5 (List.take (y5*1) (List.drop 0 I0)),.sc (.int .i64 y6),.sc (.int .u64 y7),.sc (.int .u64 y8),.sc (.int .i64 y9),.sc (.bool Gi),.sc (.int .u64 DW),.lst false 2 Ys (List.take (Ys*2) (List.drop 0 Vo)),.sc (.bool Gz),.sc (.int .i64 Hn),.sc (.int .i64 y2)],.sc (.int .i64 0)] [])) (Ao (decide (0<=y4)&&decide (y4<(↑D5:Int)))<|Al .i64 (List.getD Hv (0+Int.toNat y4*2+0) .top) fun LA=>Cc (LA != y1) (Ao (decide (D5*2<=Hv.length))<|Aq (call 45 [.own 2 D5 (List.take (D5*2) Hv),.sc (.int .i64 y4),PV.tup [.own 2 1 [.sc (.int .i64 y1),.sc (.int .i64 y0)]]]) fun JY EG=>Ab JY fun IY FZ=>Ml 2 IY fun Zg DY=>Ai FZ<|Ab EG fun RI DS=>Ai DS<|Ao (decide (0<=y4)&&decide (y4<(↑Zg:Int)))<|Ao (decide (0+Int.toNat y4*2+1+1<=DY.length))<|Aa (A2 DY [.sc (.int .i64 y0)] (0+Int.toNat y4*2+1)) fun LU=>Aa (V9 .u64 Hb y3) fun PW=>Ao (decide (0+y5*1<=I0.length))<|Ao (decide (0+Zg*2<=LU.length))<|some (Bc.mk [.agg [.lst false 1 y5 (List.take (y5*1) (List.drop 0 I0)),.sc (.int .i64 y6),.sc (.int .u64 y7),.sc (.int .u64 y8),.sc (.int .i64 y9),.sc (.bool Gi),.sc (.int .u64 PW),.lst false 2 Zg (List.take (Zg*2) (List.drop 0 LU)),.sc (.bool Gz),.sc (.int .i64 Hn),.sc (.int .i64 y2)],.sc (.int .i64 0)] [])) (Ao (decide (0<=y4)&&decide (y4<(↑D5:Int)))<|Al .i64 (List.getD Hv (0+Int.toNat y4*2+1) .top) fun PG=>Cc (decide (PG>=y0)) (Ao (decide (0+y5*1<=I0.length))<|Ao (decide (0+D5*2<=Hv.length))<|some (Bc.mk [.agg [.lst false 1 y5 (List.take (y5*1) (List.drop 0 I0)),.sc (.int .i64 y6),.sc (.int .u64 y7),.sc (.int .u64 y8),.sc (.int .i64 y9),.sc (.bool Gi),.sc (.int .u64 Hb),.lst false 2 D5 (List.take (D5*2) (List.drop 0 Hv)),.sc (.bool Gz),.sc (.int .i64 Hn),.sc (.int .i64 K0)],.sc (.int .i64 37)] [])) (Ao (decide (0<=y4)&&decide (y4<(↑D5:Int)))<|Ao (decide (0+Int.toNat y4*2+1+1<=Hv.length))<|Aa (A2 Hv [.sc (.int .i64 y0)] (0+Int.toNat y4*2+1)) fun OZ=>Aa (V9 .u64 Hb y3) fun UW=>Ao (decide (0+y5*1<=I0.length))<|Ao (decide (0+D5*2<=OZ.length))<|some (Bc.mk [.agg [.lst false 1 y5 (List.take (y5*1) (List.drop 0 I0)),.sc (.int .i64 y6),.sc (.int .u64 y7),.sc (.int .u64 y8),.sc (.int .i64 y9),.sc (.bool Gi),.sc (.int .u64 UW),.lst false 2 D5 (List.take (D5*2) (List.drop 0 OZ)),.sc (.bool Gz),.sc (.int .i64 Hn),.sc (.int .i64 y2)],.sc (.int .i64 0)] [])))))) (Cc (y4==(↑D5:Int)) (Ao (decide (D5*2<=Hv.length))<|Aq (call 45 [.own 2 D5 (List.take (D5*2) Hv),.sc (.int .i64 y4),PV.tup [.own 2 1 [.sc (.int .i64 y1),.sc (.int .i64 y0)]]]) fun TI RC=>Ab TI fun TX YD=>Ml 2 TX fun PX PC=>Ai YD<|Ab RC fun WZ YJ=>Ai YJ<|Ao (decide (0<=y4)&&decide (y4<(↑PX:Int)))<|Ao (decide (0+Int.toNat y4*2+1+1<=PC.length))<|Aa (A2 PC [.sc (.int .i64 y0)] (0+Int.toNat y4*2+1)) fun XA=>Aa (V9 .u64 Hb y3) fun YM=>Ao (decide (0+y5*1<=I0.length))<|Ao (decide (0+PX*2<=XA.length))<|some (Bc.mk [.agg [.lst false 1 y5 (List.take (y5*1) (List.drop 0 I0)),.sc (.int .i64 y6),.sc (.int .u64 y7),.sc (.int .u64 y8),.sc (.int .i64 y9),.sc (.bool Gi),.sc (.int .u64 YM),.lst false 2 PX (List.take (PX*2) (List.drop 0 XA)),.sc (.bool Gz),.sc (.int .i64 Hn),.sc (.int .i64 y2)],.sc (.int .i64 0)] [])) (Ao (decide (0<=y4)&&decide (y4<(↑D5:Int)))<|Al .i64 (List.getD Hv (0+Int.toNat y4*2+0) .top) fun WX=>Cc (WX != y1) (Ao (decide (D5*2<=Hv.length))<|Aq (call 45 [.own 2 D5 (List.take (D5*2) Hv),.sc (.int .i64 y4),PV.tup [.own 2 1 [.sc (.int .i64 y1),.sc (.int .i64 y0)]]]) fun x81 ZF=>Ab x81 fun x83 x84=>Ml 2 x83 fun XB x86=>Ai x84<|Ab ZF fun x87 x88=>Ai x88<|Ao (decide (0<=y4)&&decide (y4<(↑XB:Int)))<|Ao (decide (0+Int.toNat y4*2+1+1<=x86.length))<|Aa (A2 x86 [.sc (.int .i64 y0)] (0+Int.toNat y4*2+1)) fun XH=>Aa (V9 .u64 Hb y3) fun x90=>Ao (decide (0+y5*1<=I0.length))<|Ao (decide (0+XB*2<=XH.length))<|some (Bc.mk [.agg [.lst false 1 y5 (List.take (y5*1) (List.drop 0 I0)),.sc (.int .i64 y6),.sc (.int .u64 y7),.sc (.int .u64 y8),.sc (.int .i64 y9),.sc (.bool Gi),.sc (.int .u64 x90),.lst false 2 XB (List.take (XB*2) (List.drop 0 XH)),.sc (.bool Gz),.sc (.int .i64 Hn),.sc (.int .i64 y2)],.sc (.int .i64 0)] [])) (Ao (decide (0<=y4)&&decide (y4<(↑D5:Int)))<|Al .i64 (List.getD Hv (0+Int.toNat y4*2+1) .top) fun x91=>Cc (decide (x91>=y0)) (Ao (decide (0+y5*1<=I0.length))<|Ao (decide (0+D5*2<=Hv.length))<|some (Bc.mk [.agg [.lst false 1 y5 (List.take (y5*1) (List.drop 0 I0)),.sc (.int .i64 y6),.sc (.int .u64 y7),.sc (.int .u64 y8),.sc (.int .i64 y9),.sc (.bool Gi),.sc (.int .u64 Hb),.lst false 2 D5 (List.take (D5*2) (List.drop 0 Hv)),.sc (.bool Gz),.sc (.int .i64 Hn),.sc (.int .i64 K0)],.sc (.int .i64 37)] [])) (Ao (decide (0<=y4)&&decide (y4<(↑D5:Int)))<|Ao (decide (0+Int.toNat y4*2+1+1<=Hv.length))<|Aa (A2 Hv [.sc (.int .i64 y0)] (0+Int.toNat y4*2+1)) fun x92=>Aa (V9 .u64 Hb y3) fun x93=>Ao (decide (0+y5*1<=I0.length))<|Ao (decide (0+D5*2<=x92.length))<|some (Bc.mk [.agg [.lst false 1 y5 (List.take (y5*1) (List.drop 0 I0)),.sc (.int .i64 y6),.sc (.int .u64 y7),.sc (.int .u64 y8),.sc (.int .i64 y9),.sc (.bool Gi),.sc (.int .u64 x93),.lst false 2 D5 (List.take (D5*2) (List.drop 0 x92)),.sc (.bool Gz),.sc (.int .i64 Hn),.sc (.int .i64 y2)],.sc (.int .i64 0)] [])))))):=by kernel_rfl
theorem Tw (fu d I9:Nat)(Gg:List PV)(Fz Gd:Int)(F3 Pk:Int)(Pj:Bool)(Po:Int)(Jf:Nat)(Pq:List PV)(Pd:Bool)(Pe Jc:Int)(a1 a2 a3:Int):Ag C0 prog fu (d+1) Lx [.agg [.lst false 1 I9 Gg,.sc (.int .i64 Fz),.sc (.int .u64 Gd),.sc (.int .u64 F3),.sc (.int .i64 Pk),.sc (.bool Pj),.sc (.int .u64 Po),.lst false 2 Jf Pq,.sc (.bool Pd),.sc (.int .i64 Pe),.sc (.int .i64 Jc)],.sc (.int .i64 a1),.sc (.int .i64 a2),.sc (.int .i64 a3)]=(fun (call:Ah)=>Aq (call 39 [.agg [.lst false 1 I9 Gg,.sc (.int .i64 Fz),.sc (.int .u64 Gd),.sc (.int .u64 F3),.sc (.int .i64 Pk),.sc (.bool Pj),.sc (.int .u64 Po),.lst false 2 Jf Pq,.sc (.bool Pd),.sc (.int .i64 Pe),.sc (.int .i64 Jc)]]) fun x1 x2=>Ai x2<|Ab x1 fun x3 x4=>E7 x3 fun x5=>Ab x5 fun x6 x7=>Ml 1 x6 fun x8 x9=>Ab x7 fun Ix Ij=>Al .i64 Ix fun Id=>Ab Ij fun Ln Lj=>Al .u64 Ln fun Ll=>Ab Lj fun Pn Qu=>Al .u64 Pn fun Nn=>Ab Qu fun Hg Px=>Al .i64 Hg fun P8=>Ab Px fun Rh R6=>Bb Rh fun Jy=>Ab R6 fun Vs Tz=>Al .u64 Vs fun Qk=>Ab Tz fun CM BW=>Ml 2 CM fun Pa Q9=>Ab BW fun Yu X4=>Bb Yu fun Uo=>Ab X4 fun Yw Wg=>Al .i64 Yw fun S0=>Ab Wg fun Y7 EB=>Al .i64 Y7 fun AO=>Ai EB<|Ai x4<|Cc (decide (Id<0)) (Ao (decide (0+x8*1<=x9.length))<|Ao (decide (0+Pa*2<=Q9.length))<|some (Bc.mk [.agg [.lst false 1 x8 (List.take (x8*1) (List.drop 0 x9)),.sc (.int .i64 Id),.sc (.int .u64 Ll),.sc (.int .u64 Nn),.sc (.int .i64 P8),.sc (.bool Jy),.sc (.int .u64 Qk),.lst false 2 Pa (List.take (Pa*2) (List.drop 0 Q9)),.sc (.bool Uo),.sc (.int .i64 S0),.sc (.int .i64 AO)],.sc (.int .i64 9)] [])) (Cc (decide (Id>4)) (Ao (decide (0+x8*1<=x9.length))<|Ao (decide (0+Pa*2<=Q9.length))<|some (Bc.mk [.agg [.lst false 1 x8 (List.take (x8*1) (List.drop 0 x9)),.sc (.int .i64 Id),.sc (.int .u64 Ll),.sc (.int .u64 Nn),.sc (.int .i64 P8),.sc (.bool Jy),.sc (.int .u64 Qk),.lst false 2 Pa (List.take (Pa*2) (List.drop 0 Q9)),.sc (.bool Uo),.sc (.int .i64 S0),.sc (.int .i64 AO)],.sc (.int .i64 9)] [])) (Cc (decide (a2<0)) (Ao (decide (0+x8*1<=x9.length))<|Ao (decide (0+Pa*2<=Q9.length))<|some (Bc.mk [.agg [.lst false 1 x8 (List.take (x8*1) (List.drop 0 x9)),.sc (.int .i64 Id),.sc (.int .u64 Ll),.sc (.int .u64 Nn),.sc (.int .i64 P8),.sc (.bool Jy),.sc (.int .u64 Qk),.lst false 2 Pa (List.take (Pa*2) (List.drop 0 Q9)),.sc (.bool Uo),.sc (.int .i64 S0),.sc (.int .i64 AO)],.sc (.int .i64 9)] [])) (Cc (decide (a2>a1)) (Ao (decide (0+x8*1<=x9.length))<|Ao (decide (0+Pa*2<=Q9.length))<|some (Bc.mk [.agg [.lst false 1 x8 (List.take (x8*1) (List.drop 0 x9)),.sc (.int .i64 Id),.sc (.int .u64 Ll),.sc (.int .u64 Nn),.sc (.int .i64 P8),.sc (.bool Jy),.sc (.int .u64 Qk),.lst false 2 Pa (List.take (Pa*2) (List.drop 0 Q9)),.sc (.bool Uo),.sc (.int .i64 S0),.sc (.int .i64 AO)],.sc (.int .i64 9)] [])) (Ao (decide (0<=Id))<|Aa (Hh .i64 1 Id) fun KB=>Cc (decide (a1>=KB)) (Ao (decide (0+x8*1<=x9.length))<|Ao (decide (0+Pa*2<=Q9.length))<|some (Bc.mk [.agg [.lst false 1 x8 (List.take (x8*1) (List.drop 0 x9)),.sc (.int .i64 Id),.sc (.int .u64 Ll),.sc (.int .u64 Nn),.sc (.int .i64 P8),.sc (.bool Jy),.sc (.int .u64 Qk),.lst false 2 Pa (List.take (Pa*2) (List.drop 0 Q9)),.sc (.bool Uo),.sc (.int .i64 S0),.sc (.int .i64 AO)],.sc (.int .i64 9)] [])) (La fu call I9 Gg Fz Gd F3 Pk Pj Po Jf Pq Pd Pe Jc a1 a2 a3 (fu) (a1) (a2) (a3) x8 Id Ll Nn P8 Jy Qk Pa Uo S0 AO x9 Q9 0 0 0 0 0 (false) 0 0 (false) 0 0 ([]) ([]))))))) (Ag C0 prog fu d):=by kernel_rfl
abbrev N0:FuncId:=24
noncomputable def Ga (fu:Nat)(call:Ah)(a0:Int)(a1:ByteArray)(nn:Nat)(y0 y1:Int)(y2:List PV):Option Bc:=Cl CB prog fu call 24 Try.f24 (Bm Try.f24) [.sc (.int .u64 a0),.sc (.string a1)] [.r,.r,.r,.l,.r,.l] nn ⟨lk [(5,(.sc (.int .u64 y0))),(6,(.ptr 6 0)),(12,(.sc (.int .i64 y1)))],Fa [(6,(.ar false y2))]⟩
theorem K1 (fu:Nat)(call:Ah)(a0:Int)(a1:ByteArray)(nn:Nat)(y0 y1:Int)(y2:List PV):Ga fu call a0 a1 (nn+1) y0 y1 y2=(Cc (decide (y1<16)) (Aa (wrap .i64 (4*y1)) fun x6=>Aa (wrap .i64 (60-x6)) fun x7=>Ao (decide (0<=x7))<|Aa (Pp .u64 y0 x7) fun x8=>Aa (Uc .u64 x8 15) fun x9=>Ao (decide (0<=x9))<|Da ((Array.toList (ByteArray.data (ByteArray.mk #[48,49,50,51,52,53,54,55,56,57,97,98,99,100,101,102])))[Int.toNat x9]?) fun Ix=>Ao (decide (0<=y1)&&decide (y1<16))<|Ao (decide (0+Int.toNat y1*1+1<=y2.length))<|Aa (A2 y2 [.sc (.int .u8 (↑(UInt8.toNat Ix):Int))] (0+Int.toNat y1*1)) fun Ij=>Aa (wrap .i64 (y1+1)) fun Id=>Ga fu call a0 a1 (nn) (y0) Id Ij) (Ao (decide (16<=y2.length)&&true)<|Ao (decide (16<=y2.length))<|Ao (decide (List.length (List.take 16 (List.drop 0 y2))=16))<|Da (bytesOf (List.take 16 (List.drop 0 y2))) fun Ln=>some (Bc.mk [.sc (.string (ByteArray.mk (List.toArray Ln)))] []))):=by kernel_rfl
theorem X3 (fu d:Nat)(a0:Int)(a1:ByteArray):Ag C0 prog fu (d+1) N0 [.sc (.int .u64 a0),.sc (.string a1)]=(fun (call:Ah)=>Ao (decide (ByteArray.size a1<=1099511627776))<|Ao (decide (0+ByteArray.size a1*1<=List.length (B1 a1)))<|Aq (call 41 [.sc (.int .u64 a0),.sc (.int .i64 19),.lst false 1 (ByteArray.size a1) (List.take (ByteArray.size a1*1) (List.drop 0 (B1 a1)))]) fun x1 x2=>Ai x2<|Ab x1 fun x3 x4=>Al .u64 x3 fun x5=>Ai x4<|Ga fu call a0 a1 (fu) x5 0 ([.sc (.int .u8 0),.sc (.int .u8 0),.sc (.int .u8 0),.sc (.int .u8 0),.sc (.int .u8 0),.sc (.int .u8 0),.sc (.int .u8 0),.sc (.int .u8 0),.sc (.int .u8 0),.sc (.int .u8 0),.sc (.int .u8 0),.sc (.int .u8 0),.sc (.int .u8 0),.sc (.int .u8 0),.sc (.int .u8 0),.sc (.int .u8 0)])) (Ag C0 prog fu d):=by kernel_rfl
abbrev Gt:FuncId:=17
noncomputable def Cw (fu:Nat)(call:Ah)(Bf:Nat)(a0:List PV)(a1:Int)(a2:ByteArray)(nn:Nat)(y0:Int)(y1:ByteArray)(y2 y3:Nat)(y4:List PV)(y5 y6:Int)(y7:List PV):Option Bc:=Cl CB prog fu call 17 Try.f17 (Bm Try.f17) [.lst false 3 Bf a0,.sc (.int .u64 a1),.sc (.string a2)] [.r,.r,.l,.r,.r,.l,.r,.l] nn ⟨lk [(1,(.sc (.int .u64 y0))),(2,(.sc (.string y1))),(7,(.view 7 1 0 y2)),(25,(.lst false 11 y3 y4)),(26,(.sc (.int .i64 y5))),(27,(.sc (.int .i64 y6)))],Fa [(7,(.ar false y7))]⟩
noncomputable def Dk (fu:Nat)(call:Ah)(Bf:Nat)(a0:List PV)(a1:Int)(a2:ByteArray)(nn y0:Nat)(y1 y2 y3:Int)(y4:List PV):Option Bc:=Cl CB prog fu call 17 Try.f17 (Bm Try.f17) [.lst false 3 Bf a0,.sc (.int .u64 a1),.sc (.string a2)] [.r,.r,.r,.r,.l,.r,.l] nn ⟨lk [(7,(.view 7 1 0 y0)),(12,(.sc (.int .u64 y1))),(52,(.sc (.int .i64 y2))),(53,(.sc (.int .i64 y3)))],Fa [(7,(.ar false y4))]⟩
theorem Iq (fu:Nat)(call:Ah)(Bf:Nat)(a0:List PV)(a1:Int)(a2:ByteArray)(nn:Nat)(y0:Int)(y1:ByteArray)(y2 y3:Nat)(y4:List PV)(y5 y6:Int)(y7:List PV):Cw fu call Bf a0 a1 a2 (nn+1) y0 y1 y2 y3 y4 y5 y6 y7=(Cc (decide (y6<y5)) (Ao (decide (0<=y6)&&decide (y6<(↑y3:Int)))<|Gs 1 (List.getD y4 (Int.toNat y6*11) .top) fun Qu Nn Hg=>Al .i64 (List.getD y4 (Int.toNat y6*11+1) .top) fun Px=>Al .u64 (List.getD y4 (Int.toNat y6*11+1+1) .top) fun P8=>Al .u64 (List.getD y4 (Int.toNat y6*11+1+1+1) .top) fun Rh=>Al .i64 (List.getD y4 (Int.toNat y6*11+1+1+1+1) .top) fun R6=>Bb (List.getD y4 (Int.toNat y6*11+1+1+1+1+1) .top) fun Jy=>Al .u64 (List.getD y4 (Int.toNat y6*11+1+1+1+1+1+1) .top) fun Vs=>Gs 2 (List.getD y4 (Int.toNat y6*11+1+1+1+1+1+1+1) .top) fun Tz Qk CM=>Bb (List.getD y4 (Int.toNat y6*11+1+1+1+1+1+1+1+1) .top) fun BW=>Al .i64 (List.getD y4 (Int.toNat y6*11+1+1+1+1+1+1+1+1+1) .top) fun Pa=>Al .i64 (List.getD y4 (Int.toNat y6*11+1+1+1+1+1+1+1+1+1+1) .top) fun Q9=>Cc (!BW) (Cc (decide ((↑y2:Int)<4)) (Aq (call 40 [.lst false 1 Nn Hg]) fun Yu X4=>Ai X4<|Ab Yu fun Uo Yw=>Ml 1 Uo fun Wg S0=>Ai Yw<|Ao (decide (0+Wg*1<=S0.length))<|Ao (decide (y2*1<=y7.length)&&true&&decide ((y2+1)*24<=1099511627776)&&decide (y2+1<=1099511627776))<|Aa (y2+1) fun Y7=>Aa (List.take (y2*1) y7++[.lst false 1 Wg (List.take (Wg*1) (List.drop 0 S0))]) fun EB=>Aa (wrap .i64 (y6+1)) fun AO=>Cw fu call Bf a0 a1 a2 (nn) (y0) (y1) Y7 (y3) (y4) (y5) AO EB) (Aa (wrap .i64 (y6+1)) fun KB=>Cw fu call Bf a0 a1 a2 (nn) (y0) (y1) (y2) (y3) (y4) (y5) KB (y7))) (Aa (wrap .i64 (y6+1)) fun IE=>Cw fu call Bf a0 a1 a2 (nn) (y0) (y1) (y2) (y3) (y4) (y5) IE (y7))) (Ao (decide (ByteArray.size y1<=1099511627776))<|Ao (decide (0+ByteArray.size y1*1<=List.length (B1 y1)))<|Aq (call 41 [.sc (.int .u64 y0),.sc (.int .i64 20),.lst false 1 (ByteArray.size y1) (List.take (ByteArray.size y1*1) (List.drop 0 (B1 y1)))]) fun KT HX=>Ai HX<|Ab KT fun KQ JU=>Al .u64 KQ fun KR=>Ai JU<|Aa (wrap .i64 (4-(↑y2:Int))) fun JM=>Dk fu call Bf a0 a1 a2 (fu) (y2) KR JM 0 (y7))):=by kernel_rfl
theorem Im (fu:Nat)(call:Ah)(Bf:Nat)(a0:List PV)(a1:Int)(a2:ByteArray)(nn y0:Nat)(y1 y2 y3:Int)(y4:List PV):Dk fu call Bf a0 a1 a2 (nn+1) y0 y1 y2 y3 y4=(Cc (decide (y3<y2)) (Aa (wrap .u64 y3) fun JI=>Aq (call 42 [.sc (.int .u64 y1),.sc (.int .u64 JI),.sc (.int .i64 176)]) fun Ys HU=>Ai HU<|Ab Ys fun LW ID=>Ml 1 LW fun Vo DW=>Ai ID<|Ao (decide (0+Vo*1<=DW.length))<|Ao (decide (y0*1<=y4.length)&&true&&decide ((y0+1)*24<=1099511627776)&&decide (y0+1<=1099511627776))<|Aa (y0+1) fun LA=>Aa (List.take (y0*1) y4++[.lst false 1 Vo (List.take (Vo*1) (List.drop 0 DW))]) fun JY=>Aa (wrap .i64 (y3+1)) fun EG=>Dk fu call Bf a0 a1 a2 (nn) LA (y1) (y2) EG JY) (Aq (call 43 [PV.tup [.own 1 y0 y4],.sc (Value.func (Fn.func 44) #[] #[])]) fun IY FZ=>Ai IY<|Ab FZ fun Zg DY=>Ai DY<|Ao (decide (y0*1<=Zg.length))<|some (Bc.mk [.own 1 y0 (List.take (y0*1) Zg)] []))):=by kernel_rfl
theorem Sp (fu d Bf:Nat)(a0:List PV)(a1:Int)(a2:ByteArray):Ag C0 prog fu (d+1) Gt [.lst false 3 Bf a0,.sc (.int .u64 a1),.sc (.string a2)]=(fun (call:Ah)=>Aq (call 18 [.lst false 3 Bf a0,.sc (.string a2)]) fun x1 x2=>Ai x2<|Ab x1 fun x3 x4=>Al .i64 x3 fun x5=>Ab x4 fun x6 x7=>Bb x6 fun x8=>Ai x7<|Cc x8 (Ao (decide (0<=x5)&&decide (x5<(↑Bf:Int)))<|Gs 11 (List.getD a0 (Int.toNat x5*3+2) .top) fun x9 Ix Ij=>Cw fu call Bf a0 a1 a2 (fu) (a1) (a2) 0 Ix Ij ((↑Ix:Int)) 0 ([])) (Ao (decide (ByteArray.size a2<=1099511627776))<|Ao (decide (0+ByteArray.size a2*1<=List.length (B1 a2)))<|Aq (call 41 [.sc (.int .u64 a1),.sc (.int .i64 20),.lst false 1 (ByteArray.size a2) (List.take (ByteArray.size a2*1) (List.drop 0 (B1 a2)))]) fun Id Ln=>Ai Ln<|Ab Id fun Lj Ll=>Al .u64 Lj fun Pn=>Ai Ll<|Dk fu call Bf a0 a1 a2 (fu) 0 Pn 4 0 ([]))) (Ag C0 prog fu d):=by kernel_rfl
end
section
open Go.Proofs.Try (prog)
open Go.IntKind (wrap)
set_option maxRecDepth 100000
abbrev Ff:FuncId:=34
noncomputable def Ch (fu:Nat)(call:Ah)(Bf:Nat)(a0:List PV)(a1:ByteArray)(nn y0:Nat)(y1:List PV)(y2:ByteArray)(y3:Int):Option Bc:=Cl CB prog fu call 34 Try.f34 (Bm Try.f34) [.lst false 3 Bf a0,.sc (.string a1)] [.r,.l,.r,.l] nn ⟨lk [(0,(.lst false 3 y0 y1)),(1,(.sc (.string y2))),(6,(.sc (.int .i64 y3)))],Fa []⟩
theorem Ei (fu:Nat)(call:Ah)(Bf:Nat)(a0:List PV)(a1:ByteArray)(nn y0:Nat)(y1:List PV)(y2:ByteArray)(y3:Int):Ch fu call Bf a0 a1 (nn+1) y0 y1 y2 y3=(Cc (decide (y3<(↑y0:Int))) (Ao (decide (0<=y3)&&decide (y3<(↑y0:Int)))<|Et (List.getD y1 (Int.toNat y3*3+0) .top) fun x1=>Cc (Array.toList (ByteArray.data x1)==Array.toList (ByteArray.data y2)) (some (Bc.mk [.sc (.int .i64 y3),.sc (.bool true)] [])) (Aa (wrap .i64 (y3+1)) fun x2=>Ch fu call Bf a0 a1 (nn) (y0) (y1) (y2) x2)) (some (Bc.mk [.sc (.int .i64 0),.sc (.bool false)] []))):=by kernel_rfl
theorem Kg (fu d Bf:Nat)(a0:List PV)(a1:ByteArray):Ag C0 prog fu (d+1) Ff [.lst false 3 Bf a0,.sc (.string a1)]=(fun (call:Ah)=>Ch fu call Bf a0 a1 (fu) (Bf) (a0) (a1) 0) (Ag C0 prog fu d):=by kernel_rfl
abbrev Jg:FuncId:=25
noncomputable def Dx (fu:Nat)(call:Ah)(a0:Int)(a1:ByteArray)(nn:Nat)(y0:Int)(y1:ByteArray)(y2:Int):Option Bc:=Cl CB prog fu call 25 Try.f25 (Bm Try.f25) [.sc (.int .u64 a0),.sc (.string a1)] [.r,.r,.r,.l,.r,.l] nn ⟨lk [(5,(.sc (.int .u64 y0))),(6,(.sc (.string y1))),(7,(.sc (.int .i64 y2)))],Fa []⟩
theorem G2 (fu:Nat)(call:Ah)(a0:Int)(a1:ByteArray)(nn:Nat)(y0:Int)(y1:ByteArray)(y2:Int):Dx fu call a0 a1 (nn+1) y0 y1 y2=(Cc (decide (y2>=0)) (Aa (wrap .u64 y2) fun x6=>Ao (decide (0<=x6))<|Aa (Pp .u64 y0 x6) fun x7=>Aa (Uc .u64 x7 15) fun x8=>Aa (wrap .u64 (x8+1)) fun x9=>Ao (decide (0<=x8))<|Ao (decide (0<=x9))<|Ao (decide (Int.toNat x8<=Int.toNat x9)&&decide (Int.toNat x9<=16))<|Aa (ByteArray.extract (ByteArray.mk #[48,49,50,51,52,53,54,55,56,57,97,98,99,100,101,102]) x8.toNat x9.toNat) fun Ix=>Ao (decide (ByteArray.size y1+ByteArray.size Ix<=9223372036854775807))<|Aa (y1++Ix) fun Ij=>Aa (wrap .i64 (y2-4)) fun Id=>Dx fu call a0 a1 (nn) (y0) Ij Id) (some (Bc.mk [.sc (.string y1)] []))):=by kernel_rfl
theorem Pu (fu d:Nat)(a0:Int)(a1:ByteArray):Ag C0 prog fu (d+1) Jg [.sc (.int .u64 a0),.sc (.string a1)]=(fun (call:Ah)=>Ao (decide (ByteArray.size a1<=1099511627776))<|Ao (decide (0+ByteArray.size a1*1<=List.length (B1 a1)))<|Aq (call 48 [.sc (.int .u64 a0),.sc (.int .i64 19),.lst false 1 (ByteArray.size a1) (List.take (ByteArray.size a1*1) (List.drop 0 (B1 a1)))]) fun x1 x2=>Ai x2<|Ab x1 fun x3 x4=>Al .u64 x3 fun x5=>Ai x4<|Dx fu call a0 a1 (fu) x5 (ByteArray.mk #[]) 60) (Ag C0 prog fu d):=by kernel_rfl
abbrev Do:FuncId:=49
noncomputable def Df (fu:Nat)(call:Ah)(Bf:Nat)(a0:List PV)(a1:ByteArray)(nn y0:Nat)(y1:List PV)(y2:ByteArray)(y3:Int):Option Bc:=Cl CB prog fu call 49 Try.f49 (Bm Try.f49) [.lst false 1 Bf a0,.sc (.string a1)] [.r,.r,.l,.l] nn ⟨lk [(0,(.lst false 1 y0 y1)),(1,(.sc (.string y2))),(5,(.sc (.int .i64 y3)))],Fa []⟩
theorem F4 (fu:Nat)(call:Ah)(Bf:Nat)(a0:List PV)(a1:ByteArray)(nn y0:Nat)(y1:List PV)(y2:ByteArray)(y3:Int):Df fu call Bf a0 a1 (nn+1) y0 y1 y2 y3=(Cc (decide (y3<(↑y0:Int))) (Ao (decide (0<=y3)&&decide (y3<(↑y0:Int)))<|Et (List.getD y1 (Int.toNat y3*1) .top) fun x1=>Cc (Op.bytesLess (Array.toList (ByteArray.data x1)) (Array.toList (ByteArray.data y2))||Array.toList (ByteArray.data x1)==Array.toList (ByteArray.data y2)) (Aa (wrap .i64 (y3+1)) fun x2=>Df fu call Bf a0 a1 (nn) (y0) (y1) (y2) x2) (Ao (decide (0<=y3))<|Ao (decide (Int.toNat y3<=y0))<|Aa (Int.toNat y3-0) fun x3=>Aa (List.take (x3*1) (List.drop 0 y1)) fun x4=>Ao (decide (x4.length=x3*1)&&decide (x3*16<=1099511627776)&&decide (x3<=1099511627776))<|Ao (decide (x3*1<=x4.length)&&true&&decide ((x3+1)*16<=1099511627776)&&decide (x3+1<=1099511627776))<|Aa (x3+1) fun x5=>Aa (List.take (x3*1) x4++[.sc (.string y2)]) fun x6=>Ao (decide (0<=y3))<|Ao (decide (Int.toNat y3<=y0)&&decide (y0<=y0))<|Aa (y0-Int.toNat y3) fun x7=>Aa (List.take (x7*1) (List.drop (Int.toNat y3*1) y1)) fun x8=>Ao (decide (x5*1<=x6.length)&&decide (x8.length=x7*1)&&decide ((x5+x7)*16<=1099511627776)&&decide (x5+x7<=1099511627776))<|Aa (x5+x7) fun x9=>Aa (List.take (x5*1) x6++x8) fun Ix=>Ao (decide (x9*1<=Ix.length))<|some (Bc.mk [.own 1 x9 (List.take (x9*1) Ix)] []))) (Ao (decide (0<=y3))<|Ao (decide (Int.toNat y3<=y0))<|Aa (Int.toNat y3-0) fun Ij=>Aa (List.take (Ij*1) (List.drop 0 y1)) fun Id=>Ao (decide (Id.length=Ij*1)&&decide (Ij*16<=1099511627776)&&decide (Ij<=1099511627776))<|Ao (decide (Ij*1<=Id.length)&&true&&decide ((Ij+1)*16<=1099511627776)&&decide (Ij+1<=1099511627776))<|Aa (Ij+1) fun Ln=>Aa (List.take (Ij*1) Id++[.sc (.string y2)]) fun Lj=>Ao (decide (0<=y3))<|Ao (decide (Int.toNat y3<=y0)&&decide (y0<=y0))<|Aa (y0-Int.toNat y3) fun Ll=>Aa (List.take (Ll*1) (List.drop (Int.toNat y3*1) y1)) fun Pn=>Ao (decide (Ln*1<=Lj.length)&&decide (Pn.length=Ll*1)&&decide ((Ln+Ll)*16<=1099511627776)&&decide (Ln+Ll<=1099511627776))<|Aa (Ln+Ll) fun Qu=>Aa (List.take (Ln*1) Lj++Pn) fun Nn=>Ao (decide (Qu*1<=Nn.length))<|some (Bc.mk [.own 1 Qu (List.take (Qu*1) Nn)] []))):=by kernel_rfl
theorem Nr (fu d Bf:Nat)(a0:List PV)(a1:ByteArray):Ag C0 prog fu (d+1) Do [.lst false 1 Bf a0,.sc (.string a1)]=(fun (call:Ah)=>Df fu call Bf a0 a1 (fu) (Bf) (a0) (a1) 0) (Ag C0 prog fu d):=by kernel_rfl
abbrev Em:FuncId:=27
noncomputable def Bw (fu:Nat)(call:Ah)(Bf:Nat)(a0:List PV)(a1:Int)(a2:ByteArray)(nn y0:Nat)(y1:List PV)(y2:Int)(y3:ByteArray)(y4:Nat)(y5 y6:Int)(y7:List PV):Option Bc:=Cl CB prog fu call 27 Try.f27 (Bm Try.f27) [.lst false 3 Bf a0,.sc (.int .u64 a1),.sc (.string a2)] [.r,.r,.l,.r,.r,.l,.r,.l] nn ⟨lk [(0,(.lst false 3 y0 y1)),(1,(.sc (.int .u64 y2))),(2,(.sc (.string y3))),(7,(.view 7 1 0 y4)),(8,(.sc (.int .i64 y5))),(10,(.sc (.int .i64 y6)))],Fa [(7,(.ar false y7))]⟩
noncomputable def Ce (fu:Nat)(call:Ah)(Bf:Nat)(a0:List PV)(a1:Int)(a2:ByteArray)(nn y0:Nat)(y1 y2:Int)(y3:List PV):Option Bc:=Cl CB prog fu call 27 Try.f27 (Bm Try.f27) [.lst false 3 Bf a0,.sc (.int .u64 a1),.sc (.string a2)] [.r,.r,.r,.r,.l,.r,.l] nn ⟨lk [(7,(.view 7 1 0 y0)),(12,(.sc (.int .u64 y1))),(13,(.sc (.int .u64 y2)))],Fa [(7,(.ar false y3))]⟩
noncomputable def Db (fu:Nat)(call:Ah)(Bf:Nat)(a0:List PV)(a1:Int)(a2:ByteArray)(nn y0 y1:Nat)(y2:Int)(y3 y4:List PV):Option Bc:=Cl CB prog fu call 27 Try.f27 (Bm Try.f27) [.lst false 3 Bf a0,.sc (.int .u64 a1),.sc (.string a2)] [.r,.r,.r,.r,.r,.r,.l,.r,.l] nn ⟨lk [(7,(.view 7 1 0 y0)),(14,(.view 14 1 0 y1)),(15,(.sc (.int .i64 y2)))],Fa [(7,(.ar false y3)),(14,(.ar false y4))]⟩
theorem Fm (fu:Nat)(call:Ah)(Bf:Nat)(a0:List PV)(a1:Int)(a2:ByteArray)(nn y0:Nat)(y1:List PV)(y2:Int)(y3:ByteArray)(y4:Nat)(y5 y6:Int)(y7:List PV):Bw fu call Bf a0 a1 a2 (nn+1) y0 y1 y2 y3 y4 y5 y6 y7=(Ao (decide (0<=y5)&&decide (y5<(↑y0:Int)))<|Gs 11 (List.getD y1 (Int.toNat y5*3+2) .top) fun Lj Ll Pn=>Cc (decide (y6<(↑Ll:Int))) (Ao (decide (0<=y5)&&decide (y5<(↑y0:Int)))<|Gs 11 (List.getD y1 (Int.toNat y5*3+2) .top) fun Qu Nn Hg=>Ao (decide (0<=y6)&&decide (y6<(↑Nn:Int)))<|Gs 1 (List.getD Hg (Int.toNat y6*11) .top) fun Px P8 Rh=>Al .i64 (List.getD Hg (Int.toNat y6*11+1) .top) fun R6=>Al .u64 (List.getD Hg (Int.toNat y6*11+1+1) .top) fun Jy=>Al .u64 (List.getD Hg (Int.toNat y6*11+1+1+1) .top) fun Vs=>Al .i64 (List.getD Hg (Int.toNat y6*11+1+1+1+1) .top) fun Tz=>Bb (List.getD Hg (Int.toNat y6*11+1+1+1+1+1) .top) fun Qk=>Al .u64 (List.getD Hg (Int.toNat y6*11+1+1+1+1+1+1) .top) fun CM=>Gs 2 (List.getD Hg (Int.toNat y6*11+1+1+1+1+1+1+1) .top) fun BW Pa Q9=>Bb (List.getD Hg (Int.toNat y6*11+1+1+1+1+1+1+1+1) .top) fun Yu=>Al .i64 (List.getD Hg (Int.toNat y6*11+1+1+1+1+1+1+1+1+1) .top) fun X4=>Al .i64 (List.getD Hg (Int.toNat y6*11+1+1+1+1+1+1+1+1+1+1) .top) fun Uo=>Cc (!Yu) (Cc (decide ((↑y4:Int)<4)) (Ao (decide (Rh.length=P8))<|Da (bytesOf Rh) fun Yw=>Ao (decide (0+y4*1<=y7.length))<|Aq (call 49 [.lst false 1 y4 (List.take (y4*1) (List.drop 0 y7)),.sc (.string (ByteArray.mk (List.toArray Yw)))]) fun Wg S0=>Ai S0<|Ab Wg fun Y7 EB=>Ml 1 Y7 fun AO KB=>Ai EB<|Aa (wrap .i64 (y6+1)) fun IE=>Bw fu call Bf a0 a1 a2 (nn) (y0) (y1) (y2) (y3) AO (y5) IE KB) (Aa (wrap .i64 (y6+1)) fun KT=>Bw fu call Bf a0 a1 a2 (nn) (y0) (y1) (y2) (y3) (y4) (y5) KT (y7))) (Aa (wrap .i64 (y6+1)) fun HX=>Bw fu call Bf a0 a1 a2 (nn) (y0) (y1) (y2) (y3) (y4) (y5) HX (y7))) (Ao (decide (ByteArray.size y3<=1099511627776))<|Ao (decide (0+ByteArray.size y3*1<=List.length (B1 y3)))<|Aq (call 48 [.sc (.int .u64 y2),.sc (.int .i64 20),.lst false 1 (ByteArray.size y3) (List.take (ByteArray.size y3*1) (List.drop 0 (B1 y3)))]) fun KQ JU=>Ai JU<|Ab KQ fun KR JM=>Al .u64 KR fun JI=>Ai JM<|Ce fu call Bf a0 a1 a2 (fu) (y4) JI 0 (y7))):=by kernel_rfl
theorem Fo (fu:Nat)(call:Ah)(Bf:Nat)(a0:List PV)(a1:Int)(a2:ByteArray)(nn y0:Nat)(y1 y2:Int)(y3:List PV):Ce fu call Bf a0 a1 a2 (nn+1) y0 y1 y2 y3=(Cc (decide ((↑y0:Int)<4)) (Aq (call 37 [.sc (.int .u64 y1),.sc (.int .u64 y2),.sc (.int .i64 176)]) fun Ys HU=>Ai HU<|Ab Ys fun LW ID=>Ml 1 LW fun Vo DW=>Ai ID<|Ao (decide (0+Vo*1<=DW.length))<|Ao (decide (List.length (List.take (Vo*1) (List.drop 0 DW))=Vo))<|Da (bytesOf (List.take (Vo*1) (List.drop 0 DW))) fun LA=>Ao (decide (0+y0*1<=y3.length))<|Aq (call 49 [.lst false 1 y0 (List.take (y0*1) (List.drop 0 y3)),.sc (.string (ByteArray.mk (List.toArray LA)))]) fun JY EG=>Ai EG<|Ab JY fun IY FZ=>Ml 1 IY fun Zg DY=>Ai FZ<|Aa (wrap .u64 (y2+1)) fun RI=>Ce fu call Bf a0 a1 a2 (nn) Zg (y1) RI DY) (Db fu call Bf a0 a1 a2 (fu) (y0) 0 0 (y3) ([]))):=by kernel_rfl
theorem Fl (fu:Nat)(call:Ah)(Bf:Nat)(a0:List PV)(a1:Int)(a2:ByteArray)(nn y0 y1:Nat)(y2:Int)(y3 y4:List PV):Db fu call Bf a0 a1 a2 (nn+1) y0 y1 y2 y3 y4=(Cc (decide (y2<(↑y0:Int))) (Ao (decide (0<=y2)&&decide (y2<(↑y0:Int)))<|Et (List.getD y3 (0+Int.toNat y2*1) .top) fun DS=>Ao (decide (ByteArray.size DS<=1099511627776))<|Ao (decide (0+ByteArray.size DS*1<=List.length (B1 DS)))<|Ao (decide (y1*1<=y4.length)&&true&&decide ((y1+1)*24<=1099511627776)&&decide (y1+1<=1099511627776))<|Aa (y1+1) fun LU=>Aa (List.take (y1*1) y4++[.lst false 1 (ByteArray.size DS) (List.take (ByteArray.size DS*1) (List.drop 0 (B1 DS)))]) fun PW=>Aa (wrap .i64 (y2+1)) fun PG=>Db fu call Bf a0 a1 a2 (nn) (y0) LU PG (y3) PW) (Ao (decide (y1*1<=y4.length))<|some (Bc.mk [.own 1 y1 (List.take (y1*1) y4)] []))):=by kernel_rfl
theorem Mr (fu d Bf:Nat)(a0:List PV)(a1:Int)(a2:ByteArray):Ag C0 prog fu (d+1) Em [.lst false 3 Bf a0,.sc (.int .u64 a1),.sc (.string a2)]=(fun (call:Ah)=>Aq (call 34 [.lst false 3 Bf a0,.sc (.string a2)]) fun x1 x2=>Ai x2<|Ab x1 fun x3 x4=>Al .i64 x3 fun x5=>Ab x4 fun x6 x7=>Bb x6 fun x8=>Ai x7<|Cc x8 (Bw fu call Bf a0 a1 a2 (fu) (Bf) (a0) (a1) (a2) 0 x5 0 ([])) (Ao (decide (ByteArray.size a2<=1099511627776))<|Ao (decide (0+ByteArray.size a2*1<=List.length (B1 a2)))<|Aq (call 48 [.sc (.int .u64 a1),.sc (.int .i64 20),.lst false 1 (ByteArray.size a2) (List.take (ByteArray.size a2*1) (List.drop 0 (B1 a2)))]) fun x9 Ix=>Ai Ix<|Ab x9 fun Ij Id=>Al .u64 Ij fun Ln=>Ai Id<|Ce fu call Bf a0 a1 a2 (fu) 0 Ln 0 ([]))) (Ag C0 prog fu d):=by kernel_rfl
abbrev Gr:FuncId:=26
noncomputable def Cx (fu:Nat)(call:Ah)(Bf:Nat)(a0:List PV)(DR:Nat)(a1:List PV)(nn y0:Nat)(y1:List PV)(y2:Nat)(y3:List PV)(y4:Int):Option Bc:=Cl CB prog fu call 26 Try.f26 (Bm Try.f26) [.lst false 1 Bf a0,.lst false 1 DR a1] [.r,.r,.l,.r,.l] nn ⟨lk [(0,(.lst false 1 y0 y1)),(1,(.lst false 1 y2 y3)),(5,(.sc (.int .i64 y4)))],Fa []⟩
theorem Fb (fu:Nat)(call:Ah)(Bf:Nat)(a0:List PV)(DR:Nat)(a1:List PV)(nn y0:Nat)(y1:List PV)(y2:Nat)(y3:List PV)(y4:Int):Cx fu call Bf a0 DR a1 (nn+1) y0 y1 y2 y3 y4=(Cc (decide (y4<(↑y0:Int))) (Ao (decide (0<=y4)&&decide (y4<(↑y0:Int)))<|Gs 1 (List.getD y1 (Int.toNat y4*1) .top) fun x1 x2 x3=>Ao (decide (x3.length=x2))<|Da (bytesOf x3) fun x4=>Ao (decide (0<=y4)&&decide (y4<(↑y2:Int)))<|Gs 1 (List.getD y3 (Int.toNat y4*1) .top) fun x5 x6 x7=>Ao (decide (x7.length=x6))<|Da (bytesOf x7) fun x8=>Cc (!Array.toList (ByteArray.data (ByteArray.mk (List.toArray x4)))==Array.toList (ByteArray.data (ByteArray.mk (List.toArray x8)))) (some (Bc.mk [.sc (.bool false)] [])) (Aa (wrap .i64 (y4+1)) fun x9=>Cx fu call Bf a0 DR a1 (nn) (y0) (y1) (y2) (y3) x9)) (some (Bc.mk [.sc (.bool true)] []))):=by kernel_rfl
theorem Mh (fu d Bf:Nat)(a0:List PV)(DR:Nat)(a1:List PV):Ag C0 prog fu (d+1) Gr [.lst false 1 Bf a0,.lst false 1 DR a1]=(fun (call:Ah)=>Cc ((↑Bf:Int) != (↑DR:Int)) (some (Bc.mk [.sc (.bool false)] [])) (Cx fu call Bf a0 DR a1 (fu) (Bf) (a0) (DR) (a1) 0)) (Ag C0 prog fu d):=by kernel_rfl
abbrev Ht:FuncId:=12
theorem Nm (fu d:Nat)(a0 a1:Int):Ag C0 prog fu (d+1) Ht [.sc (.int .i64 a0),.sc (.int .i64 a1)]=(fun (call:Ah)=>Aq (call 20 [.sc (.int .i64 a0),.sc (.int .i64 12)]) fun x1 x2=>Ai x2<|Ab x1 fun x3 x4=>Al .i64 x3 fun x5=>Ai x4<|Aa (wrap .i64 (600+x5)) fun x6=>Aq (call 13 [.sc (.int .i64 x6),.sc (.int .i64 176)]) fun x7 x8=>Ai x8<|Ab x7 fun x9 Ix=>Ml 1 x9 fun Ij Id=>Ai Ix<|Ao (decide (0+Ij*1<=Id.length))<|some (Bc.mk [.agg [.lst false 1 Ij (List.take (Ij*1) (List.drop 0 Id)),.sc (.int .i64 a1),.sc (.int .u64 5),.sc (.int .u64 0),.sc (.int .i64 0),.sc (.bool false),.sc (.int .u64 0),.lst false 2 0 [],.sc (.bool false),.sc (.int .i64 3),.sc (.int .i64 0)]] [])) (Ag C0 prog fu d):=by kernel_rfl
end
section
open Go.Proofs.Try (prog)
open Go.IntKind (wrap)
set_option maxRecDepth 100000
abbrev S8:FuncId:=15
noncomputable def Ha (fu:Nat)(call:Ah)(nm us:ByteArray)(n1:Nat)(c1:List PV)(k1 k2:Int)(k3 k4:Int)(k5:Bool)(k6:Int)(n2:Nat)(c2:List PV)(k7:Bool)(k8 k9:Int)(nn y0:Nat)(y1:List PV)(y2 y3:ByteArray)(y4:Int)(y5:Bool)(y6:Nat)(y7:List PV)(y8 y9:Int)(Gi Hb:Int)(D5:Bool)(Gz:Int)(Hn:Nat)(K0:List PV)(I0:Bool)(Hv O7:Int):Option Bc:=Cl CB prog fu call 15 Try.f15 (Bm Try.f15) [.lst false 3 0 [],.sc (.string nm),.sc (.string us),.agg [.lst false 1 n1 c1,.sc (.int .i64 k1),.sc (.int .u64 k2),.sc (.int .u64 k3),.sc (.int .i64 k4),.sc (.bool k5),.sc (.int .u64 k6),.lst false 2 n2 c2,.sc (.bool k7),.sc (.int .i64 k8),.sc (.int .i64 k9)]] [.r,.r,.r,.r,.r] nn ⟨lk [(0,(.lst false 3 y0 y1)),(1,(.sc (.string y2))),(2,(.sc (.string y3))),(7,(.ptr 7 0)),(13,(.sc (.int .i64 y4))),(14,(.sc (.bool y5)))],Fa [(7,(.st [(.lst false 1 y6 y7),(.sc (.int .i64 y8)),(.sc (.int .u64 y9)),(.sc (.int .u64 Gi)),(.sc (.int .i64 Hb)),(.sc (.bool D5)),(.sc (.int .u64 Gz)),(.lst false 2 Hn K0),(.sc (.bool I0)),(.sc (.int .i64 Hv)),(.sc (.int .i64 O7))]))]⟩
theorem Pb (fu:Nat)(call:Ah)(nm us:ByteArray)(n1:Nat)(c1:List PV)(k1 k2:Int)(k3 k4:Int)(k5:Bool)(k6:Int)(n2:Nat)(c2:List PV)(k7:Bool)(k8 k9:Int)(nn:Nat)(Eg:0<nn)(y0:Nat)(y1:List PV)(y2 y3:ByteArray)(y4:Int)(y5:Bool)(y6:Nat)(y7:List PV)(y8 y9:Int)(Gi Hb:Int)(D5:Bool)(Gz:Int)(Hn:Nat)(K0:List PV)(I0:Bool)(Hv O7:Int):Ha fu call nm us n1 c1 k1 k2 k3 k4 k5 k6 n2 c2 k7 k8 k9 nn y0 y1 y2 y3 y4 y5 y6 y7 y8 y9 Gi Hb D5 Gz Hn K0 I0 Hv O7=(Aq (call 38 [.lst false 3 y0 y1]) fun Px P8=>Ai P8<|Ab Px fun Rh R6=>Ml 3 Rh fun Jy Vs=>Ai R6<|Cc (!y5) (Ao (decide (Jy*3<=Vs.length)&&true&&decide ((Jy+1)*56<=1099511627776)&&decide (Jy+1<=1099511627776))<|Aa (Jy+1) fun Tz=>Aa (List.take (Jy*3) Vs++[.sc (.string y2),.sc (.string y3),.lst true 11 0 []]) fun Qk=>Ao (decide ((↑Jy:Int)<(↑Tz:Int)))<|Gs 11 (List.getD Qk (0+Int.toNat (↑Jy:Int)*3+2) .top) fun CM BW Pa=>Aq (call 39 [.agg [.lst false 1 y6 y7,.sc (.int .i64 y8),.sc (.int .u64 y9),.sc (.int .u64 Gi),.sc (.int .i64 Hb),.sc (.bool D5),.sc (.int .u64 Gz),.lst false 2 Hn K0,.sc (.bool I0),.sc (.int .i64 Hv),.sc (.int .i64 O7)]]) fun Q9 Yu=>Ai Yu<|Ab Q9 fun X4 Uo=>E7 X4 fun Yw=>Ab Yw fun Wg S0=>Ml 1 Wg fun Y7 EB=>Ab S0 fun AO KB=>Al .i64 AO fun IE=>Ab KB fun KT HX=>Al .u64 KT fun KQ=>Ab HX fun JU KR=>Al .u64 JU fun JM=>Ab KR fun JI Ys=>Al .i64 JI fun HU=>Ab Ys fun LW ID=>Bb LW fun Vo=>Ab ID fun DW LA=>Al .u64 DW fun JY=>Ab LA fun EG IY=>Ml 2 EG fun FZ Zg=>Ab IY fun DY RI=>Bb DY fun DS=>Ab RI fun LU PW=>Al .i64 LU fun PG=>Ab PW fun OZ UW=>Al .i64 OZ fun TI=>Ai UW<|Ai Uo<|Ao (decide (0+Y7*1<=EB.length))<|Ao (decide (0+FZ*2<=Zg.length))<|Ao (CM&&true&&true&&true&&true&&true)<|Ao (decide ((↑Jy:Int)<(↑Tz:Int)))<|Ao (decide (0+Int.toNat (↑Jy:Int)*3+2+1<=Qk.length))<|Aa (A2 Qk [.lst false 11 1 [.lst false 1 Y7 (List.take (Y7*1) (List.drop 0 EB)),.sc (.int .i64 IE),.sc (.int .u64 KQ),.sc (.int .u64 JM),.sc (.int .i64 HU),.sc (.bool Vo),.sc (.int .u64 JY),.lst false 2 FZ (List.take (FZ*2) (List.drop 0 Zg)),.sc (.bool DS),.sc (.int .i64 PG),.sc (.int .i64 TI)]] (0+Int.toNat (↑Jy:Int)*3+2)) fun RC=>Ao (decide (0+Tz*3<=RC.length))<|some (Bc.mk [.lst false 3 Tz (List.take (Tz*3) (List.drop 0 RC)),.sc (.int .i64 0)] [])) (Ao (decide (0<=y4)&&decide (y4<(↑Jy:Int)))<|Gs 11 (List.getD Vs (0+Int.toNat y4*3+2) .top) fun TX YD PX=>Aq (call 39 [.agg [.lst false 1 y6 y7,.sc (.int .i64 y8),.sc (.int .u64 y9),.sc (.int .u64 Gi),.sc (.int .i64 Hb),.sc (.bool D5),.sc (.int .u64 Gz),.lst false 2 Hn K0,.sc (.bool I0),.sc (.int .i64 Hv),.sc (.int .i64 O7)]]) fun PC WZ=>Ai WZ<|Ab PC fun YJ XA=>E7 YJ fun YM=>Ab YM fun WX x81=>Ml 1 WX fun ZF x83=>Ab x81 fun x84 XB=>Al .i64 x84 fun x86=>Ab XB fun x87 x88=>Al .u64 x87 fun XH=>Ab x88 fun x90 x91=>Al .u64 x90 fun x92=>Ab x91 fun x93 x94=>Al .i64 x93 fun x95=>Ab x94 fun x96 x97=>Bb x96 fun x98=>Ab x97 fun x99 SQ=>Al .u64 x99 fun VB=>Ab SQ fun VY RL=>Ml 2 VY fun KY Wi=>Ab RL fun SM VF=>Bb SM fun UU=>Ab VF fun UB VW=>Al .i64 UB fun TJ=>Ab VW fun VR VC=>Al .i64 VR fun UE=>Ai VC<|Ai XA<|Ao (decide (0+ZF*1<=x83.length))<|Ao (decide (0+KY*2<=Wi.length))<|Ao (TX&&true&&true&&true&&true&&true)<|Ao (decide (0<=y4)&&decide (y4<(↑Jy:Int)))<|Ao (decide (0+Int.toNat y4*3+2+1<=Vs.length))<|Aa (A2 Vs [.lst false 11 1 [.lst false 1 ZF (List.take (ZF*1) (List.drop 0 x83)),.sc (.int .i64 x86),.sc (.int .u64 XH),.sc (.int .u64 x92),.sc (.int .i64 x95),.sc (.bool x98),.sc (.int .u64 VB),.lst false 2 KY (List.take (KY*2) (List.drop 0 Wi)),.sc (.bool UU),.sc (.int .i64 TJ),.sc (.int .i64 UE)]] (0+Int.toNat y4*3+2)) fun OE=>Ao (decide (0+Jy*3<=OE.length))<|some (Bc.mk [.lst false 3 Jy (List.take (Jy*3) (List.drop 0 OE)),.sc (.int .i64 0)] []))):=by cases nn with|zero=>exact absurd Eg (Nat.lt_irrefl 0)|succ nn=>kernel_rfl
theorem Tl (fu d:Nat)(nm us:ByteArray)(n1:Nat)(c1:List PV)(k1 k2:Int)(k3 k4:Int)(k5:Bool)(k6:Int)(n2:Nat)(c2:List PV)(k7:Bool)(k8 k9:Int):Ag C0 prog fu (d+1) S8 [.lst false 3 0 [],.sc (.string nm),.sc (.string us),.agg [.lst false 1 n1 c1,.sc (.int .i64 k1),.sc (.int .u64 k2),.sc (.int .u64 k3),.sc (.int .i64 k4),.sc (.bool k5),.sc (.int .u64 k6),.lst false 2 n2 c2,.sc (.bool k7),.sc (.int .i64 k8),.sc (.int .i64 k9)]]=(fun (call:Ah)=>Cc (decide ((↑(ByteArray.size nm):Int)<1)) (some (Bc.mk [.lst false 3 0 [],.sc (.int .i64 9)] [])) (Cc (decide ((↑(ByteArray.size nm):Int)>32)) (some (Bc.mk [.lst false 3 0 [],.sc (.int .i64 9)] [])) (Cc ((↑n1:Int) != 176) (some (Bc.mk [.lst false 3 0 [],.sc (.int .i64 4)] [])) (Aq (call 35 [.lst false 3 0 [],.lst false 1 n1 c1]) fun x1 x2=>Ai x2<|Ab x1 fun x3 x4=>Al .i64 x3 fun x5=>Ab x4 fun x6 x7=>Al .i64 x6 fun x8=>Ab x7 fun x9 Ix=>Bb x9 fun Ij=>Ai Ix<|Cc Ij (some (Bc.mk [.lst false 3 0 [],.sc (.int .i64 10)] [])) (Aq (call 18 [.lst false 3 0 [],.sc (.string nm)]) fun Id Ln=>Ai Ln<|Ab Id fun Lj Ll=>Al .i64 Lj fun Pn=>Ab Ll fun Qu Nn=>Bb Qu fun Hg=>Ai Nn<|Cc Hg (Ao (decide (0<=Pn)&&decide (Pn<0))<|none) (Cc (!Hg) (Ha fu call nm us n1 c1 k1 k2 k3 k4 k5 k6 n2 c2 k7 k8 k9 (fu) 0 ([]) (nm) (us) Pn Hg (n1) (c1) (k1) (k2) (k3) (k4) (k5) (k6) (n2) (c2) (k7) (k8) (k9)) (Ha fu call nm us n1 c1 k1 k2 k3 k4 k5 k6 n2 c2 k7 k8 k9 (fu) 0 ([]) (nm) (us) Pn Hg (n1) (c1) (k1) (k2) (k3) (k4) (k5) (k6) (n2) (c2) (k7) (k8) (k9)))))))) (Ag C0 prog fu d):=by kernel_rfl
end
section
open Go.Proofs.Try (prog)
open Go.IntKind (wrap)
set_option maxRecDepth 100000
abbrev Io:FuncId:=9
noncomputable def Ex (fu:Nat)(call:Ah)(nn:Nat):Option Bc:=Cl CB prog fu call 9 Try.f9 (Bm Try.f9) [] [] nn ⟨lk [],Fa []⟩
noncomputable def Hp (fu:Nat)(call:Ah)(nn:Nat)(y0:Int)(y1:Nat)(y2:List PV)(y3 y4:Int)(y5 y6:Int)(y7:Bool)(y8:Int)(y9:Nat)(Gi:List PV)(Hb:Bool)(D5 Gz:Int):Option Bc:=Cl CB prog fu call 9 Try.f9 (Bm Try.f9) [] [.r] nn ⟨lk [(1,(.ptr 1 0)),(2,(.sc (.int .i64 y0)))],Fa [(1,(.st [(.lst false 1 y1 y2),(.sc (.int .i64 y3)),(.sc (.int .u64 y4)),(.sc (.int .u64 y5)),(.sc (.int .i64 y6)),(.sc (.bool y7)),(.sc (.int .u64 y8)),(.lst false 2 y9 Gi),(.sc (.bool Hb)),(.sc (.int .i64 D5)),(.sc (.int .i64 Gz))]))]⟩
noncomputable def Hu (fu:Nat)(call:Ah)(nn:Nat)(y0 y1:Int)(y2:Nat)(y3:List PV)(y4 y5:Int)(y6 y7:Int)(y8:Bool)(y9:Int)(Gi:Nat)(Hb:List PV)(D5:Bool)(Gz Hn:Int):Option Bc:=Cl CB prog fu call 9 Try.f9 (Bm Try.f9) [] [.r,.r] nn ⟨lk [(1,(.ptr 1 0)),(2,(.sc (.int .i64 y0))),(3,(.sc (.int .i64 y1)))],Fa [(1,(.st [(.lst false 1 y2 y3),(.sc (.int .i64 y4)),(.sc (.int .u64 y5)),(.sc (.int .u64 y6)),(.sc (.int .i64 y7)),(.sc (.bool y8)),(.sc (.int .u64 y9)),(.lst false 2 Gi Hb),(.sc (.bool D5)),(.sc (.int .i64 Gz)),(.sc (.int .i64 Hn))]))]⟩
noncomputable def Hk (fu:Nat)(call:Ah)(nn:Nat)(y0 y1 y2:Int)(y3:Nat)(y4:List PV)(y5 y6:Int)(y7 y8:Int)(y9:Bool)(Gi:Int)(Hb:Nat)(D5:List PV)(Gz:Bool)(Hn K0:Int)(I0:Nat)(Hv:List PV)(O7 Sz:Int)(Ss S2:Int)(S3:Bool)(S1:Int)(S5:Nat)(Su:List PV)(Sw:Bool)(S4 Sy:Int):Option Bc:=Cl CB prog fu call 9 Try.f9 (Bm Try.f9) [] [.r,.r,.r] nn ⟨lk [(1,(.ptr 1 0)),(2,(.sc (.int .i64 y0))),(3,(.sc (.int .i64 y1))),(4,(.ptr 4 0)),(5,(.sc (.int .i64 y2)))],Fa [(1,(.st [(.lst false 1 y3 y4),(.sc (.int .i64 y5)),(.sc (.int .u64 y6)),(.sc (.int .u64 y7)),(.sc (.int .i64 y8)),(.sc (.bool y9)),(.sc (.int .u64 Gi)),(.lst false 2 Hb D5),(.sc (.bool Gz)),(.sc (.int .i64 Hn)),(.sc (.int .i64 K0))])),(4,(.st [(.lst false 1 I0 Hv),(.sc (.int .i64 O7)),(.sc (.int .u64 Sz)),(.sc (.int .u64 Ss)),(.sc (.int .i64 S2)),(.sc (.bool S3)),(.sc (.int .u64 S1)),(.lst false 2 S5 Su),(.sc (.bool Sw)),(.sc (.int .i64 S4)),(.sc (.int .i64 Sy))]))]⟩
noncomputable def Hm (fu:Nat)(call:Ah)(nn:Nat)(y0 y1:Int)(y2 y3:Int)(y4:Nat)(y5:List PV)(y6 y7:Int)(y8 y9:Int)(Gi:Bool)(Hb:Int)(D5:Nat)(Gz:List PV)(Hn:Bool)(K0 I0:Int)(Hv:Nat)(O7:List PV)(Sz Ss:Int)(S2 S3:Int)(S1:Bool)(S5:Int)(Su:Nat)(Sw:List PV)(S4:Bool)(Sy DU:Int)(DZ:Nat)(OC:List PV)(LS PY:Int)(PO OG:Int)(QC:Bool)(NQ:Int)(PL:Nat)(OJ:List PV)(QK:Bool)(OM OH:Int):Option Bc:=Cl CB prog fu call 9 Try.f9 (Bm Try.f9) [] [.r,.r,.r,.r] nn ⟨lk [(1,(.ptr 1 0)),(2,(.sc (.int .i64 y0))),(3,(.sc (.int .i64 y1))),(4,(.ptr 4 0)),(5,(.sc (.int .i64 y2))),(6,(.ptr 6 0)),(7,(.sc (.int .i64 y3)))],Fa [(1,(.st [(.lst false 1 y4 y5),(.sc (.int .i64 y6)),(.sc (.int .u64 y7)),(.sc (.int .u64 y8)),(.sc (.int .i64 y9)),(.sc (.bool Gi)),(.sc (.int .u64 Hb)),(.lst false 2 D5 Gz),(.sc (.bool Hn)),(.sc (.int .i64 K0)),(.sc (.int .i64 I0))])),(4,(.st [(.lst false 1 Hv O7),(.sc (.int .i64 Sz)),(.sc (.int .u64 Ss)),(.sc (.int .u64 S2)),(.sc (.int .i64 S3)),(.sc (.bool S1)),(.sc (.int .u64 S5)),(.lst false 2 Su Sw),(.sc (.bool S4)),(.sc (.int .i64 Sy)),(.sc (.int .i64 DU))])),(6,(.st [(.lst false 1 DZ OC),(.sc (.int .i64 LS)),(.sc (.int .u64 PY)),(.sc (.int .u64 PO)),(.sc (.int .i64 OG)),(.sc (.bool QC)),(.sc (.int .u64 NQ)),(.lst false 2 PL OJ),(.sc (.bool QK)),(.sc (.int .i64 OM)),(.sc (.int .i64 OH))]))]⟩
noncomputable def Hj (fu:Nat)(call:Ah)(nn:Nat)(y0 y1:Int)(y2 y3:Int)(y4:Nat)(y5:List PV)(y6:Int)(y7:Nat)(y8:List PV)(y9 Gi:Int)(Hb D5:Int)(Gz:Bool)(Hn:Int)(K0:Nat)(I0:List PV)(Hv:Bool)(O7 Sz:Int)(Ss:Nat)(S2:List PV)(S3 S1:Int)(S5 Su:Int)(Sw:Bool)(S4:Int)(Sy:Nat)(DU:List PV)(DZ:Bool)(OC LS:Int)(PY:Nat)(PO:List PV)(OG QC:Int)(NQ PL:Int)(OJ:Bool)(QK:Int)(OM:Nat)(OH:List PV)(y43:Bool)(y44 y45:Int):Option Bc:=Cl CB prog fu call 9 Try.f9 (Bm Try.f9) [] [.r,.r,.r,.r,.r] nn ⟨lk [(1,(.ptr 1 0)),(2,(.sc (.int .i64 y0))),(3,(.sc (.int .i64 y1))),(4,(.ptr 4 0)),(5,(.sc (.int .i64 y2))),(6,(.ptr 6 0)),(7,(.sc (.int .i64 y3))),(8,(.lst false 3 y4 y5)),(9,(.sc (.int .i64 y6)))],Fa [(1,(.st [(.lst false 1 y7 y8),(.sc (.int .i64 y9)),(.sc (.int .u64 Gi)),(.sc (.int .u64 Hb)),(.sc (.int .i64 D5)),(.sc (.bool Gz)),(.sc (.int .u64 Hn)),(.lst false 2 K0 I0),(.sc (.bool Hv)),(.sc (.int .i64 O7)),(.sc (.int .i64 Sz))])),(4,(.st [(.lst false 1 Ss S2),(.sc (.int .i64 S3)),(.sc (.int .u64 S1)),(.sc (.int .u64 S5)),(.sc (.int .i64 Su)),(.sc (.bool Sw)),(.sc (.int .u64 S4)),(.lst false 2 Sy DU),(.sc (.bool DZ)),(.sc (.int .i64 OC)),(.sc (.int .i64 LS))])),(6,(.st [(.lst false 1 PY PO),(.sc (.int .i64 OG)),(.sc (.int .u64 QC)),(.sc (.int .u64 NQ)),(.sc (.int .i64 PL)),(.sc (.bool OJ)),(.sc (.int .u64 QK)),(.lst false 2 OM OH),(.sc (.bool y43)),(.sc (.int .i64 y44)),(.sc (.int .i64 y45))]))]⟩
noncomputable def Hq (fu:Nat)(call:Ah)(nn:Nat)(y0 y1:Int)(y2 y3:Int)(y4:Nat)(y5:List PV)(y6 y7:Int)(y8:Bool)(y9:Nat)(Gi:List PV)(Hb D5:Int)(Gz Hn:Int)(K0:Bool)(I0:Int)(Hv:Nat)(O7:List PV)(Sz:Bool)(Ss S2:Int)(S3:Nat)(S1:List PV)(S5 Su:Int)(Sw S4:Int)(Sy:Bool)(DU:Int)(DZ:Nat)(OC:List PV)(LS:Bool)(PY PO:Int)(OG:Nat)(QC:List PV)(NQ PL:Int)(OJ QK:Int)(OM:Bool)(OH:Int)(y43:Nat)(y44:List PV)(y45:Bool)(y46 y47:Int):Option Bc:=Cl CB prog fu call 9 Try.f9 (Bm Try.f9) [] [.r,.r,.r,.r,.r,.r] nn ⟨lk [(1,(.ptr 1 0)),(2,(.sc (.int .i64 y0))),(3,(.sc (.int .i64 y1))),(4,(.ptr 4 0)),(5,(.sc (.int .i64 y2))),(6,(.ptr 6 0)),(7,(.sc (.int .i64 y3))),(8,(.lst false 3 y4 y5)),(9,(.sc (.int .i64 y6))),(10,(.sc (.int .i64 y7))),(11,(.sc (.bool y8)))],Fa [(1,(.st [(.lst false 1 y9 Gi),(.sc (.int .i64 Hb)),(.sc (.int .u64 D5)),(.sc (.int .u64 Gz)),(.sc (.int .i64 Hn)),(.sc (.bool K0)),(.sc (.int .u64 I0)),(.lst false 2 Hv O7),(.sc (.bool Sz)),(.sc (.int .i64 Ss)),(.sc (.int .i64 S2))])),(4,(.st [(.lst false 1 S3 S1),(.sc (.int .i64 S5)),(.sc (.int .u64 Su)),(.sc (.int .u64 Sw)),(.sc (.int .i64 S4)),(.sc (.bool Sy)),(.sc (.int .u64 DU)),(.lst false 2 DZ OC),(.sc (.bool LS)),(.sc (.int .i64 PY)),(.sc (.int .i64 PO))])),(6,(.st [(.lst false 1 OG QC),(.sc (.int .i64 NQ)),(.sc (.int .u64 PL)),(.sc (.int .u64 OJ)),(.sc (.int .i64 QK)),(.sc (.bool OM)),(.sc (.int .u64 OH)),(.lst false 2 y43 y44),(.sc (.bool y45)),(.sc (.int .i64 y46)),(.sc (.int .i64 y47))]))]⟩
theorem Lr (fu:Nat)(call:Ah)(nn:Nat)(Eg:0<nn):Ex fu call nn=(Aq (call 12 [.sc (.int .i64 1),.sc (.int .i64 2)]) fun x1 x2=>Ai x2<|Ab x1 fun x3 x4=>E7 x3 fun x5=>Ab x5 fun x6 x7=>Gs 1 x6 fun x8 x9 Ix=>Ab x7 fun Ij Id=>Al .i64 Ij fun Ln=>Ab Id fun Lj Ll=>Al .u64 Lj fun Pn=>Ab Ll fun Qu Nn=>Al .u64 Qu fun Hg=>Ab Nn fun Px P8=>Al .i64 Px fun Rh=>Ab P8 fun R6 Jy=>Bb R6 fun Vs=>Ab Jy fun Tz Qk=>Al .u64 Tz fun CM=>Ab Qk fun BW Pa=>Gs 2 BW fun Q9 Yu X4=>Ab Pa fun Uo Yw=>Bb Uo fun Wg=>Ab Yw fun S0 Y7=>Al .i64 S0 fun EB=>Ab Y7 fun AO KB=>Al .i64 AO fun IE=>Ai KB<|Ai x4<|Aq (call 21 [.agg [.lst false 1 x9 Ix,.sc (.int .i64 Ln),.sc (.int .u64 Pn),.sc (.int .u64 Hg),.sc (.int .i64 Rh),.sc (.bool Vs),.sc (.int .u64 CM),.lst false 2 Yu X4,.sc (.bool Wg),.sc (.int .i64 EB),.sc (.int .i64 IE)],.sc (.int .i64 1),.sc (.int .i64 0),.sc (.int .i64 7)]) fun KT HX=>Ai HX<|Ab KT fun KQ JU=>E7 KQ fun KR=>Ab KR fun JM JI=>Gs 1 JM fun Ys HU LW=>Ab JI fun ID Vo=>Al .i64 ID fun DW=>Ab Vo fun LA JY=>Al .u64 LA fun EG=>Ab JY fun IY FZ=>Al .u64 IY fun Zg=>Ab FZ fun DY RI=>Al .i64 DY fun DS=>Ab RI fun LU PW=>Bb LU fun PG=>Ab PW fun OZ UW=>Al .u64 OZ fun TI=>Ab UW fun RC TX=>Gs 2 RC fun YD PX PC=>Ab TX fun WZ YJ=>Bb WZ fun XA=>Ab YJ fun YM WX=>Al .i64 YM fun x81=>Ab WX fun ZF x83=>Al .i64 ZF fun x84=>Ai x83<|Ab JU fun XB x86=>Al .i64 XB fun x87=>Ai x86<|Hp fu call (fu) x87 HU LW DW EG Zg DS PG TI PX PC XA x81 x84):=by cases nn with|zero=>exact absurd Eg (Nat.lt_irrefl 0)|succ nn=>kernel_rfl
theorem Lt (fu:Nat)(call:Ah)(nn:Nat)(Eg:0<nn)(y0:Int)(y1:Nat)(y2:List PV)(y3 y4:Int)(y5 y6:Int)(y7:Bool)(y8:Int)(y9:Nat)(Gi:List PV)(Hb:Bool)(D5 Gz:Int):Hp fu call nn y0 y1 y2 y3 y4 y5 y6 y7 y8 y9 Gi Hb D5 Gz=(Aq (call 21 [.agg [.lst false 1 y1 y2,.sc (.int .i64 y3),.sc (.int .u64 y4),.sc (.int .u64 y5),.sc (.int .i64 y6),.sc (.bool y7),.sc (.int .u64 y8),.lst false 2 y9 Gi,.sc (.bool Hb),.sc (.int .i64 D5),.sc (.int .i64 Gz)],.sc (.int .i64 3),.sc (.int .i64 2),.sc (.int .i64 8)]) fun x88 XH=>Ai XH<|Ab x88 fun x90 x91=>E7 x90 fun x92=>Ab x92 fun x93 x94=>Gs 1 x93 fun x95 x96 x97=>Ab x94 fun x98 x99=>Al .i64 x98 fun SQ=>Ab x99 fun VB VY=>Al .u64 VB fun RL=>Ab VY fun KY Wi=>Al .u64 KY fun SM=>Ab Wi fun VF UU=>Al .i64 VF fun UB=>Ab UU fun VW TJ=>Bb VW fun VR=>Ab TJ fun VC UE=>Al .u64 VC fun OE=>Ab UE fun Adr Acb=>Gs 2 Adr fun Aha Ad6 Ab3=>Ab Acb fun Ack Adp=>Bb Ack fun Acf=>Ab Adp fun Ads Adl=>Al .i64 Ads fun Ab1=>Ab Adl fun Ad5 Adk=>Al .i64 Ad5 fun Adz=>Ai Adk<|Ab x91 fun Adt Add=>Al .i64 Adt fun Aea=>Ai Add<|Hu fu call (fu) (y0) Aea x96 x97 SQ RL SM UB VR OE Ad6 Ab3 Acf Ab1 Adz):=by cases nn with|zero=>exact absurd Eg (Nat.lt_irrefl 0)|succ nn=>kernel_rfl
theorem Lz (fu:Nat)(call:Ah)(nn:Nat)(Eg:0<nn)(y0 y1:Int)(y2:Nat)(y3:List PV)(y4 y5:Int)(y6 y7:Int)(y8:Bool)(y9:Int)(Gi:Nat)(Hb:List PV)(D5:Bool)(Gz Hn:Int):Hu fu call nn y0 y1 y2 y3 y4 y5 y6 y7 y8 y9 Gi Hb D5 Gz Hn=(Aq (call 21 [.agg [.lst false 1 y2 y3,.sc (.int .i64 y4),.sc (.int .u64 y5),.sc (.int .u64 y6),.sc (.int .i64 y7),.sc (.bool y8),.sc (.int .u64 y9),.lst false 2 Gi Hb,.sc (.bool D5),.sc (.int .i64 Gz),.sc (.int .i64 Hn)],.sc (.int .i64 0),.sc (.int .i64 0),.sc (.int .i64 9)]) fun Adj Aed=>Ai Aed<|Ab Adj fun Acl Acy=>E7 Acl fun Adu=>Ab Adu fun Ad9 Ada=>Gs 1 Ad9 fun Agt Abv Ac5=>Ab Ada fun Adm WG=>Al .i64 Adm fun Ade=>Ab WG fun Aci Acw=>Al .u64 Aci fun Adq=>Ab Acw fun Ak5 Aku=>Al .u64 Ak5 fun Ajx=>Ab Aku fun Amf Ajp=>Al .i64 Amf fun Alz=>Ab Ajp fun Aim Aj3=>Bb Aim fun Aii=>Ab Aj3 fun Alq Ai9=>Al .u64 Alq fun Aig=>Ab Ai9 fun Aiy Aki=>Gs 2 Aiy fun Aoh Akk Ais=>Ab Aki fun Am2 Amh=>Bb Am2 fun Aiu=>Ab Amh fun Amo Al4=>Al .i64 Amo fun Ajv=>Ab Al4 fun Akz Als=>Al .i64 Akz fun Aj1=>Ai Als<|Ab Acy fun Ai1 Ai5=>Al .i64 Ai1 fun Am1=>Ai Ai5<|Hk fu call (fu) (y0) (y1) Am1 (y2) (y3) (y4) (y5) (y6) (y7) (y8) (y9) (Gi) (Hb) (D5) (Gz) (Hn) Abv Ac5 Ade Adq Ajx Alz Aii Aig Akk Ais Aiu Ajv Aj1):=by cases nn with|zero=>exact absurd Eg (Nat.lt_irrefl 0)|succ nn=>kernel_rfl
theorem L0 (fu:Nat)(call:Ah)(nn:Nat)(Eg:0<nn)(y0 y1 y2:Int)(y3:Nat)(y4:List PV)(y5 y6:Int)(y7 y8:Int)(y9:Bool)(Gi:Int)(Hb:Nat)(D5:List PV)(Gz:Bool)(Hn K0:Int)(I0:Nat)(Hv:List PV)(O7 Sz:Int)(Ss S2:Int)(S3:Bool)(S1:Int)(S5:Nat)(Su:List PV)(Sw:Bool)(S4 Sy:Int):Hk fu call nn y0 y1 y2 y3 y4 y5 y6 y7 y8 y9 Gi Hb D5 Gz Hn K0 I0 Hv O7 Sz Ss S2 S3 S1 S5 Su Sw S4 Sy=(Aq (call 21 [.agg [.lst false 1 y3 y4,.sc (.int .i64 y5),.sc (.int .u64 y6),.sc (.int .u64 y7),.sc (.int .i64 y8),.sc (.bool y9),.sc (.int .u64 Gi),.lst false 2 Hb D5,.sc (.bool Gz),.sc (.int .i64 Hn),.sc (.int .i64 K0)],.sc (.int .i64 3),.sc (.int .i64 2),.sc (.int .i64 9)]) fun Akq Akj=>Ai Akj<|Ab Akq fun Al3 Am0=>E7 Al3 fun Aj2=>Ab Aj2 fun Akb Aji=>Gs 1 Akb fun Ap0 Al5 Akf=>Ab Aji fun Ajz Ai0=>Al .i64 Ajz fun Akv=>Ab Ai0 fun Akr Ajd=>Al .u64 Akr fun Akl=>Ab Ajd fun Alm Ajw=>Al .u64 Alm fun Aj9=>Ab Ajw fun Akh Ams=>Al .i64 Akh fun Aj0=>Ab Ams fun Al8 Ajy=>Bb Al8 fun Aka=>Ab Ajy fun Alr Air=>Al .u64 Alr fun Ake=>Ab Air fun Al6 Amv=>Gs 2 Al6 fun Aql Akd Alf=>Ab Amv fun Akx Ai8=>Bb Akx fun Aml=>Ab Ai8 fun Aly Ajn=>Al .i64 Aly fun Amg=>Ab Ajn fun Al9 Alp=>Al .i64 Al9 fun Akp=>Ai Alp<|Ab Am0 fun Ak4 Amm=>Al .i64 Ak4 fun Alh=>Ai Amm<|Hm fu call (fu) (y0) (y1) (y2) Alh (y3) (y4) (y5) (y6) (y7) (y8) (y9) (Gi) (Hb) (D5) (Gz) (Hn) (K0) (I0) (Hv) (O7) (Sz) (Ss) (S2) (S3) (S1) (S5) (Su) (Sw) (S4) (Sy) Al5 Akf Akv Akl Aj9 Aj0 Aka Ake Akd Alf Aml Amg Akp):=by cases nn with|zero=>exact absurd Eg (Nat.lt_irrefl 0)|succ nn=>kernel_rfl
theorem Ma (fu:Nat)(call:Ah)(nn:Nat)(Eg:0<nn)(y0 y1:Int)(y2 y3:Int)(y4:Nat)(y5:List PV)(y6 y7:Int)(y8 y9:Int)(Gi:Bool)(Hb:Int)(D5:Nat)(Gz:List PV)(Hn:Bool)(K0 I0:Int)(Hv:Nat)(O7:List PV)(Sz Ss:Int)(S2 S3:Int)(S1:Bool)(S5:Int)(Su:Nat)(Sw:List PV)(S4:Bool)(Sy DU:Int)(DZ:Nat)(OC:List PV)(LS PY:Int)(PO OG:Int)(QC:Bool)(NQ:Int)(PL:Nat)(OJ:List PV)(QK:Bool)(OM OH:Int):Hm fu call nn y0 y1 y2 y3 y4 y5 y6 y7 y8 y9 Gi Hb D5 Gz Hn K0 I0 Hv O7 Sz Ss S2 S3 S1 S5 Su Sw S4 Sy DU DZ OC LS PY PO OG QC NQ PL OJ QK OM OH=(Aq (call 15 [.lst false 3 0 [],.sc (.string (ByteArray.mk #[97,108,105,99,101])),.sc (.string (ByteArray.mk #[117])),.agg [.lst false 1 y4 y5,.sc (.int .i64 y6),.sc (.int .u64 y7),.sc (.int .u64 y8),.sc (.int .i64 y9),.sc (.bool Gi),.sc (.int .u64 Hb),.lst false 2 D5 Gz,.sc (.bool Hn),.sc (.int .i64 K0),.sc (.int .i64 I0)]]) fun Ajl Alw=>Ai Alw<|Ab Ajl fun Aiw Am5=>Gs 3 Aiw fun Ap3 Ajs Akc=>Ab Am5 fun Ail Aj5=>Al .i64 Ail fun Alt=>Ai Aj5<|Hj fu call (fu) (y0) (y1) (y2) (y3) Ajs Akc Alt (y4) (y5) (y6) (y7) (y8) (y9) (Gi) (Hb) (D5) (Gz) (Hn) (K0) (I0) (Hv) (O7) (Sz) (Ss) (S2) (S3) (S1) (S5) (Su) (Sw) (S4) (Sy) (DU) (DZ) (OC) (LS) (PY) (PO) (OG) (QC) (NQ) (PL) (OJ) (QK) (OM) (OH)):=by cases nn with|zero=>exact absurd Eg (Nat.lt_irrefl 0)|succ nn=>kernel_rfl
theorem Lu (fu:Nat)(call:Ah)(nn:Nat)(Eg:0<nn)(y0 y1:Int)(y2 y3:Int)(y4:Nat)(y5:List PV)(y6:Int)(y7:Nat)(y8:List PV)(y9 Gi:Int)(Hb D5:Int)(Gz:Bool)(Hn:Int)(K0:Nat)(I0:List PV)(Hv:Bool)(O7 Sz:Int)(Ss:Nat)(S2:List PV)(S3 S1:Int)(S5 Su:Int)(Sw:Bool)(S4:Int)(Sy:Nat)(DU:List PV)(DZ:Bool)(OC LS:Int)(PY:Nat)(PO:List PV)(OG QC:Int)(NQ PL:Int)(OJ:Bool)(QK:Int)(OM:Nat)(OH:List PV)(y43:Bool)(y44 y45:Int):Hj fu call nn y0 y1 y2 y3 y4 y5 y6 y7 y8 y9 Gi Hb D5 Gz Hn K0 I0 Hv O7 Sz Ss S2 S3 S1 S5 Su Sw S4 Sy DU DZ OC LS PY PO OG QC NQ PL OJ QK OM OH y43 y44 y45=(Aq (call 18 [.lst false 3 y4 y5,.sc (.string (ByteArray.mk #[97,108,105,99,101]))]) fun Aj6 Ali=>Ai Ali<|Ab Aj6 fun Ai3 Ak8=>Al .i64 Ai3 fun Ait=>Ab Ak8 fun Amk Ak2=>Bb Amk fun Aiv=>Ai Ak2<|Hq fu call (fu) (y0) (y1) (y2) (y3) (y4) (y5) (y6) Ait Aiv (y7) (y8) (y9) (Gi) (Hb) (D5) (Gz) (Hn) (K0) (I0) (Hv) (O7) (Sz) (Ss) (S2) (S3) (S1) (S5) (Su) (Sw) (S4) (Sy) (DU) (DZ) (OC) (LS) (PY) (PO) (OG) (QC) (NQ) (PL) (OJ) (QK) (OM) (OH) (y43) (y44) (y45)):=by cases nn with|zero=>exact absurd Eg (Nat.lt_irrefl 0)|succ nn=>kernel_rfl
theorem L6 (fu:Nat)(call:Ah)(nn:Nat)(Eg:0<nn)(y0 y1:Int)(y2 y3:Int)(y4:Nat)(y5:List PV)(y6 y7:Int)(y8:Bool)(y9:Nat)(Gi:List PV)(Hb D5:Int)(Gz Hn:Int)(K0:Bool)(I0:Int)(Hv:Nat)(O7:List PV)(Sz:Bool)(Ss S2:Int)(S3:Nat)(S1:List PV)(S5 Su:Int)(Sw S4:Int)(Sy:Bool)(DU:Int)(DZ:Nat)(OC:List PV)(LS:Bool)(PY PO:Int)(OG:Nat)(QC:List PV)(NQ PL:Int)(OJ QK:Int)(OM:Bool)(OH:Int)(y43:Nat)(y44:List PV)(y45:Bool)(y46 y47:Int):Hq fu call nn y0 y1 y2 y3 y4 y5 y6 y7 y8 y9 Gi Hb D5 Gz Hn K0 I0 Hv O7 Sz Ss S2 S3 S1 S5 Su Sw S4 Sy DU DZ OC LS PY PO OG QC NQ PL OJ QK OM OH y43 y44 y45 y46 y47=(Cc (y0==0) (Cc (y1==0) (Cc (y2==37) (Cc (y3==37) (Cc (y6==0) (Cc (!LS) (Cc (y45) (Cc (I0==10) (Cc ((↑Hv:Int)==2) (Cc (y8) (Cc (y7==0) (Aq (call 17 [.lst false 3 y4 y5,.sc (.int .u64 1),.sc (.string (ByteArray.mk #[98,111,98]))]) fun Amb Aid=>Ai Aid<|Ab Amb fun Akg Ai4=>Ml 1 Akg fun Ajq Api=>Ai Ai4<|some (Bc.mk [.sc (.bool ((↑Ajq:Int)==4))] [])) (some (Bc.mk [.sc (.bool false)] []))) (some (Bc.mk [.sc (.bool false)] []))) (some (Bc.mk [.sc (.bool false)] []))) (some (Bc.mk [.sc (.bool false)] []))) (some (Bc.mk [.sc (.bool false)] []))) (some (Bc.mk [.sc (.bool false)] []))) (some (Bc.mk [.sc (.bool false)] []))) (some (Bc.mk [.sc (.bool false)] []))) (some (Bc.mk [.sc (.bool false)] []))) (some (Bc.mk [.sc (.bool false)] []))) (some (Bc.mk [.sc (.bool false)] []))):=by cases nn with|zero=>exact absurd Eg (Nat.lt_irrefl 0)|succ nn=>kernel_rfl
theorem Od (fu d:Nat):Ag C0 prog fu (d+1) Io []=(fun (call:Ah)=>Ex fu call (fu)) (Ag C0 prog fu d):=by kernel_rfl
end
section
open Go.Proofs.Try (prog)
open Go.IntKind (wrap)
set_option maxRecDepth 100000
abbrev K4:FuncId:=20
theorem R8 (fu d:Nat)(a0 a1:Int):Ag C0 prog fu (d+1) K4 [.sc (.int .i64 a0),.sc (.int .i64 a1)]=(fun (call:Ah)=>Aa (wrap .u64 a0) fun x1=>Aa (wrap .u64 a1) fun x2=>Ao (decide (x2≠0))<|Aa (Int.tmod x1 x2) fun x3=>Aa (wrap .i64 x3) fun x4=>some (Bc.mk [.sc (.int .i64 x4)] [])) (Ag C0 prog fu d):=by kernel_rfl
end
section
open Go.IntKind (wrap)
structure Sd where
 id:List Int
 ht:Int
 root:Int
 model:Int
 fmt:Int
 sh:Bool
 used:Int
 rg:List (Int × Int)
 sus:Bool
 since:Int
 last:Int
def Kr (l:List (Int × Int)):List PV:=l.flatMap fun p=>[.sc (.int .i64 p.1),.sc (.int .i64 p.2)]
theorem Ic (l:List (Int × Int)):(Kr l).length=l.length*2:=by
 induction l with
 |nil=>rfl
 |cons p r ih=>show ([_,_]++Kr r).length=_;rw[MK,ih,LI];simp;omega
theorem WE (p:Int × Int)(r:List (Int × Int)):Kr (p::r)=.sc (.int .i64 p.1) :: .sc (.int .i64 p.2)::Kr r:=rfl
theorem ZH (l r:List (Int × Int)):Kr (l++r)=Kr l++Kr r:=List.flatMap_append
def Sd.cells (x:Sd):List PV:=[.lst false 1 x.id.length (At .u8 x.id),.sc (.int .i64 x.ht),.sc (.int .u64 x.root),.sc (.int .u64 x.model),.sc (.int .i64 x.fmt),.sc (.bool x.sh),.sc (.int .u64 x.used),.lst false 2 x.rg.length (Kr x.rg),.sc (.bool x.sus),.sc (.int .i64 x.since),.sc (.int .i64 x.last)]
def YX (used leaf:Int):Bool:=used.toNat.testBit leaf.toNat
theorem UR {a b:Int}(ha:0<=a)(ha1:a<=18446744073709551615)(hb:0<=b)(D7:b<=18446744073709551615):Uc .u64 a b=((a.toNat &&& b.toNat:Nat):Int):=by
 have e:(BitVec.ofInt 64 a &&& BitVec.ofInt 64 b).toNat=a.toNat &&& b.toNat:=by
  rw[BitVec.toNat_and,BitVec.toNat_ofInt,BitVec.toNat_ofInt]
  congr 1<;>omega
 have Tn:a.toNat &&& b.toNat<=a.toNat:=Nat.and_le_left;show wrap .u64 ((BitVec.ofInt 64 a &&& BitVec.ofInt 64 b).toNat:Int)=_;rw[e];exact Cj (by omega) (by omega)
theorem Xy {n:Nat}(h:n<=15):(2:Nat) ^ n<=32768:=Nat.le_trans (Nat.pow_le_pow_right (by omega) h) (by decide)
theorem Ajh {k:Int}(h0:0<=k)(h1:k<=15):Hh .u64 1 k=((2 ^ k.toNat:Nat):Int):=by
 have hp:=Xy (n:=k.toNat) (by omega)
 have e:min k.toNat IntKind.u64.bits=k.toNat:=Nat.min_eq_left (by show k.toNat<=64;omega)
 show wrap .u64 (1*2 ^ (min k.toNat IntKind.u64.bits))=_;rw[e,Int.one_mul,show (2:Int) ^ k.toNat=((2 ^ k.toNat:Nat):Int) by simp]
 generalize 2 ^ k.toNat=m at hp ⊢;exact Cj (by omega) (by omega)
theorem Agi {k:Int}(h0:0<=k)(h1:k<=15):Hh .i64 1 k=((2 ^ k.toNat:Nat):Int):=by
 have hp:=Xy (n:=k.toNat) (by omega)
 have e:min k.toNat IntKind.i64.bits=k.toNat:=Nat.min_eq_left (by show k.toNat<=64;omega)
 show wrap .i64 (1*2 ^ (min k.toNat IntKind.i64.bits))=_;rw[e,Int.one_mul,show (2:Int) ^ k.toNat=((2 ^ k.toNat:Nat):Int) by simp]
 generalize 2 ^ k.toNat=m at hp ⊢;exact wrap_i64 (by omega) (by omega)
theorem Aaa (a k:Nat):(a &&& 2 ^ k≠0)↔a.testBit k=true:=by
 constructor
 ·intro h;cases hb:a.testBit k
  ·refine absurd (Nat.eq_of_testBit_eq fun i=>?_) h
   rw[Nat.testBit_and,Nat.testBit_two_pow,Nat.zero_testBit];by_cases e:k=i
   ·subst e;simp[hb]
   ·simp[e]
  ·rfl
 ·intro h e;have:=Nat.testBit_and a (2 ^ k) k;rw[e,Nat.zero_testBit,h,Nat.testBit_two_pow] at this;simp at this
theorem QV {u k:Int}(hu:0<=u)(hu1:u<=18446744073709551615)(h0:0<=k)(h1:k<=15):(Uc .u64 u (Hh .u64 1 k) != 0)=YX u k:=by
 have hp:=Xy (n:=k.toNat) (by omega)
 have:=Aaa u.toNat k.toNat;unfold YX;rw[Ajh h0 h1];generalize 2 ^ k.toNat=m at hp this ⊢;rw[UR hu hu1 (by omega) (by omega),Uv]
 cases hb:u.toNat.testBit k.toNat
 ·rw[hb] at this;simp only[ne_eq,Bool.false_eq_true,iff_false,Decidable.not_not] at this;rw[this];rfl
 ·rw[hb] at this;simp only[ne_eq,iff_true] at this;simp only[bne_iff_ne,ne_eq];omega
def Acd (u k:Int):Int:=V9 .u64 u (Hh .u64 1 k)
def put (f lf:Int):List (Int × Int)->Option (List (Int × Int))
 |[]=>some [(f,lf)]
 |p::r=>if p.1<f then (put f lf r).map (p :: ·) else if p.1=f then (if lf<=p.2 then none else some ((f,lf)::r)) else some ((f,lf)::p::r)
def Asc:List (Int × Int)->Prop
 |[]=>True
 |p::r=>(∀q∈r,p.1<q.1)∧Asc r
def Qd (c:Sd)(leaf from_:Int):Bool:=decide (c.ht<0)||decide (c.ht>4)||decide (from_<0)||decide (from_>leaf)||decide (leaf>=Hh .i64 1 c.ht)
def Vt (c:Sd)(leaf from_ now:Int):Sd × Int:=
 if Qd c leaf from_=true then (c,9)
 else if c.sus=true then (c,39)
 else if YX c.used leaf=true then ({ c with sus:=true },37)
 else match put from_ leaf c.rg with
  |none=>(c,37)
  |some r=>({ c with used:=Acd c.used leaf,rg:=r,last:=now },0)
structure Sd.ok (c:Sd):Prop where
 idB:Ny c.id
 idL:c.id.length<=1000000
 u0:0<=c.used
 u1:c.used<=18446744073709551615
 asc:Asc c.rg
 rgn:c.rg.length<=1000
theorem IX {c:Sd}{leaf from_:Int}(h:Qd c leaf from_=false):0<=from_∧from_<=leaf∧leaf<=15∧0<=c.ht∧c.ht<=4∧leaf<((2 ^ c.ht.toNat:Nat):Int):=by
 unfold Qd at h;simp only[Bool.or_eq_false_iff,decide_eq_false_iff_not] at h;obtain⟨⟨⟨⟨h1,h2⟩,h3⟩,h4⟩,h5⟩:=h;rw[Agi (by omega) (by omega)] at h5
 have hp:(2:Nat) ^ c.ht.toNat<=2 ^ 4:=Nat.pow_le_pow_right (by omega) (by omega)
 have h16:(2:Nat) ^ 4=16:=by decide
 omega
end
section
open Go.Proofs.Try (prog)
open Go.IntKind (wrap)
set_option maxRecDepth 100000
theorem FJ {α:Type}{l:List α}{i:Nat}{a:α}(h:l[i]?=some a):l.set i a=l:=by
 refine List.ext_getElem? fun j=>?_
 rw[List.getElem?_set];by_cases hj:i=j
 ·subst hj;rw[Ni rfl,Ni (Ke h),h]
 ·rw[Pz hj]
section
variable {xs:FuncId->Option (List PV->Option Bc)} {fu d:Nat}
theorem Zu {n:Nat}{c:List PV}(hc:c.length=n)(hn:n<=1000000):Ag (CX xs) prog fu (d+1) P0 [.lst false 1 n c]=some ⟨[.own 1 n c],[]⟩:=by
 rw[Zc];have t1:List.take n c=c:=J4 (by omega)
 by_cases h:0<n
 ·simp (disch:=omega) only[En,I1,XX,t1,hc,E8]
 ·have h0:n=0:=by omega
  subst h0;have:=List.length_eq_zero_iff.1 hc;subst this;simp (disch:=omega) only[En,I1,XX,YN,E8,Nat.zero_mul,List.take_nil]
theorem PZ {n:Nat}{c:List PV}(hc:c.length=n*2)(hn:n<=1000000):Ag (CX xs) prog fu (d+1) It [.lst false 2 n c]=some ⟨[.own 2 n c],[]⟩:=by
 rw[Nu];have t1:List.take (n*2) c=c:=J4 (by omega)
 by_cases h:0<n
 ·simp (disch:=omega) only[En,I1,XX,t1,hc]
 ·have h0:n=0:=by omega
  subst h0;have:=List.length_eq_zero_iff.1 hc;subst this;simp (disch:=omega) only[En,I1,XX,YN,Nat.zero_mul,List.take_nil]
def Sd.ocells (x:Sd):List PV:=[.own 1 x.id.length (At .u8 x.id),.sc (.int .i64 x.ht),.sc (.int .u64 x.root),.sc (.int .u64 x.model),.sc (.int .i64 x.fmt),.sc (.bool x.sh),.sc (.int .u64 x.used),.own 2 x.rg.length (Kr x.rg),.sc (.bool x.sus),.sc (.int .i64 x.since),.sc (.int .i64 x.last)]
theorem Qa {c:Sd}(h1:c.id.length<=1000000)(h2:c.rg.length<=1000000):Ag (CX xs) prog fu (d+2) Ip [.agg c.cells]=some ⟨[.agg c.ocells],[]⟩:=by
 refine (On fu (d+1) c.id.length (At .u8 c.id) c.ht c.root c.model c.fmt c.sh c.used c.rg.length (Kr c.rg) c.sus c.since c.last).trans ?_;have q1:=Zu (xs:=xs) (fu:=fu) (d:=d) (Aw .u8 c.id) h1;have q2:=PZ (xs:=xs) (fu:=fu) (d:=d) (Ic c.rg) h2;have l1:=Aw .u8 c.id;have l2:=Ic c.rg;have t1:List.take (c.id.length*1) (At .u8 c.id)=At .u8 c.id:=J4 (by omega)
 have t2:List.take (c.rg.length*2) (Kr c.rg)=Kr c.rg:=J4 (by omega)
 simp (disch:=omega) only[En,q1,q2,t1,t2];rfl
end
section
variable {fu d:Nat}
theorem PM {c:List PV}{n:Nat}{i f l:Int}(hc:c.length=n*2)(h0:0<=i)(h1:i<=n)(hn:n<=100000)(ha:c.all W9=true):
  Ag C0 prog fu (d+1) 45 [.own 2 n c,.sc (.int .i64 i),.tup [.own 2 1 [.sc (.int .i64 f),.sc (.int .i64 l)]]] =
   some ⟨[.own 2 (n+1) (c.take (i.toNat*2)++(.sc (.int .i64 f) :: .sc (.int .i64 l)::c.drop (i.toNat*2)))],[[.sc (.int .i64 f),.sc (.int .i64 l)]]⟩:=by
 have h:Ag C0 prog fu (d+1) 45 [.own 2 n c,.sc (.int .i64 i),.tup [.own 2 1 [.sc (.int .i64 f),.sc (.int .i64 l)]]]=TG [.own 2 n c,.sc (.int .i64 i),.tup [.own 2 1 [.sc (.int .i64 f),.sc (.int .i64 l)]]]:=by kernel_rfl
 rw[h];unfold TG
 have e:(Nat.beq c.length (n*2)&&decide (0<=i)&&decide (i<=n)&&Nat.ble n 100000&&c.all W9)=true:=by
  simp[ha,hc,h0,h1,hn]
 simp only[e,cond_true]
theorem Aab (l:List (Int × Int)):(Kr l).all W9=true:=by
 rw[List.all_eq_true];intro x hx;obtain⟨p,_,hp⟩:=List.mem_flatMap.1 hx;rcases List.mem_cons.1 hp with rfl|hp
 ·rfl
 ·rw[List.mem_singleton] at hp;subst hp;rfl
theorem Ala {l:List (Int × Int)} {i:Nat}{p:Int × Int}(h:l[i]?=some p):(Kr l).getD (i*2) .top=.sc (.int .i64 p.1):=by
 have:=Wh (f:=fun p:Int × Int=>[PV.sc (.int .i64 p.1),.sc (.int .i64 p.2)]) (k:=2) (fun _=>rfl) h (j:=0) (by omega)
 exact this
theorem Amr {l:List (Int × Int)} {i:Nat}{p:Int × Int}(h:l[i]?=some p):(Kr l).getD (i*2+1) .top=.sc (.int .i64 p.2):=by
 have:=Wh (f:=fun p:Int × Int=>[PV.sc (.int .i64 p.1),.sc (.int .i64 p.2)]) (k:=2) (fun _=>rfl) h (j:=1) (by omega)
 exact this
def BX (c:Sd)(leaf now:Int):Option (List (Int × Int))->Bc
 |none=>⟨[.agg c.cells,.sc (.int .i64 37)],[]⟩
 |some r=>⟨[.agg ({ c with used:=Acd c.used leaf,rg:=r,last:=now }:Sd).cells,.sc (.int .i64 0)],[]⟩
theorem SV {c:Sd}{leaf from_ now:Int}(hl:0<=leaf∧leaf<=15)(hr:c.rg.length<=1000)(Ay:c.id.length<=1000000){call:Ah}
  (XM:∀i:Nat,i<=c.rg.length->call 45 [.own 2 c.rg.length (Kr c.rg),.sc (.int .i64 (i:Int)),.tup [.own 2 1 [.sc (.int .i64 from_),.sc (.int .i64 leaf)]]]=some ⟨[.own 2 (c.rg.length+1) ((Kr c.rg).take (i*2)++(.sc (.int .i64 from_) :: .sc (.int .i64 leaf)::(Kr c.rg).drop (i*2)))],[[.sc (.int .i64 from_),.sc (.int .i64 leaf)]]⟩)
  {Bf:Nat} {a0:List PV} {a1 a2 a3 a4 a6 a9 a10 b1 b2 b3:Int} {a5 a8:Bool} {a7n:Nat} {a7:List PV} {z1:Nat} {z2 z3 z4 z5 z7 z10 z11:Int} {z6 z9:Bool} {z8:Nat} {z12 z13:List PV}:
  ∀(r:List (Int × Int)) (i nn:Nat),c.rg.drop i=r->r.length<nn->i<=c.rg.length->(∀p∈c.rg.take i,p.1<from_) ->
   E6 fu call Bf a0 a1 a2 a3 a4 a5 a6 a7n a7 a8 a9 a10 b1 b2 b3 nn leaf from_ now (Hh .u64 1 leaf) (i:Int) c.id.length c.ht c.root c.model c.fmt c.sh c.used c.rg.length c.sus c.since c.last (At .u8 c.id) (Kr c.rg) z1 z2 z3 z4 z5 z6 z7 z8 z9 z10 z11 z12 z13 =
    some (BX c leaf now ((put from_ leaf r).map (c.rg.take i ++ ·))):=by
 intro r;have l1:=Aw .u8 c.id;have l2:=Ic c.rg;have t1:List.take (c.id.length*1) (At .u8 c.id)=At .u8 c.id:=J4 (by omega)
 have t2:List.take (c.rg.length*2) (Kr c.rg)=Kr c.rg:=J4 (by omega)
 have eS:V9 .u64 c.used (Hh .u64 1 leaf)=Acd c.used leaf:=rfl
 have insR:∀(i:Nat) (s:List (Int × Int)),i<=c.rg.length->c.rg.drop i=s->(Kr c.rg).take (i*2)++(.sc (.int .i64 from_) :: .sc (.int .i64 leaf)::(Kr c.rg).drop (i*2))=Kr (c.rg.take i++(from_,leaf)::s):=by
  intro i s hi hs;have e1:=V2 (f:=fun p:Int × Int=>[PV.sc (.int .i64 p.1),.sc (.int .i64 p.2)]) (k:=2) (fun _=>rfl) c.rg i
  have e2:=R0 (f:=fun p:Int × Int=>[PV.sc (.int .i64 p.1),.sc (.int .i64 p.2)]) (k:=2) (fun _=>rfl) c.rg i
  rw[ZH,WE,←hs];unfold Kr;rw[e1,e2]
 have setR:∀(i:Nat) (l:List (Int × Int)) (p:Int × Int),l[i]?=some p->A2 (Kr l) [.sc (.int .i64 leaf)] (0+i*2+1)=Kr (l.set i (p.1,leaf)):=by
  intro i l p h;have Bk:=Ke h;have DT:=Ic l;rw[Q0 (by omega)]
  have:=IM (f:=fun p:Int × Int=>[PV.sc (.int .i64 p.1),.sc (.int .i64 p.2)]) (k:=2) (fun _=>rfl) (p:=.sc (.int .i64 leaf)) (j:=1) (by omega) (y:=(p.1,leaf)) h rfl
  unfold Kr;rw[←this]
  congr 1
  omega
 induction r with
 |nil=>
  intro i nn hd Eg hi hp;have Yq:i=c.rg.length:=by have:=drop_nil hd;omega
  obtain⟨nn,rfl⟩:∃k,nn=k+1:=⟨nn-1,by omega⟩
  rw[Jh];have q:=XM i hi;have eI:=insR i [] hi hd;rw[eI] at q;have ht:c.rg.take i=c.rg:=J4 (by omega)
  rw[ht] at q;have eG:(c.rg++[(from_,leaf)])[i]?=some (from_,leaf):=by rw[Yq];simp
  have eS2:=setR i _ _ eG;have eS3:=FJ eG;rw[eS3] at eS2;have lR:=Ic (c.rg++[(from_,leaf)]);have lA:(c.rg++[(from_,leaf)]).length=c.rg.length+1:=by simp
  have tR:List.take ((c.rg.length+1)*2) (Kr (c.rg++[(from_,leaf)]))=Kr (c.rg++[(from_,leaf)]):=J4 (by omega)
  have eq1:((i:Int)==(c.rg.length:Int))=true:=by simp[Yq]
  have tn:Int.toNat (i:Int)=i:=rfl;have eX:put from_ leaf []=some [(from_,leaf)]:=rfl;rw[eX];simp only[Option.map_some,ht]
  try unfold Aa
  repeat first
   |((with_reducible first|apply C6|apply B3|apply C2|apply Ct|apply Ek|apply Ady|apply B5|apply C7|apply C8);· first|with_reducible rfl|(simp (disch:=omega) only[gT,q,t1,t2,tR,eS,eS2,eq1,tn,Hy,lR,lA]<;>first|with_reducible rfl|omega)|omega)
   |(with_reducible apply Cz;· first|with_reducible rfl|(simp (disch:=omega) only[gF,q,t1,t2,tR,eS,eS2,eq1,tn,Hy,lR,lA]<;>omega))
  try simp (disch:=omega) only[q,t1,t2,tR,eS,eS2,eq1,tn,Hy,lR,lA]
  simp only[BX,Sd.cells,lA]
 |cons p r ih=>
  intro i nn hd Eg hi hp;obtain⟨Bk,C3,hd'⟩:=D8 hd;obtain⟨nn,rfl⟩:∃k,nn=k+1:=⟨nn-1,by omega⟩
  rw[Jh];have eF:=Ala C3;have eL:=Amr C3;have tn:Int.toNat (i:Int)=i:=rfl;have a0':(0:Nat)+i*2+0=i*2:=by omega
  have a1':(0:Nat)+i*2+1=i*2+1:=by omega
  have lt1:decide ((i:Int)<(c.rg.length:Int))=true:=by simp;omega
  have ne1:((i:Int)==(c.rg.length:Int))=false:=by simp;omega
  have w1:wrap .i64 ((i:Int)+1)=((i+1:Nat):Int):=by rw[wrap_i64 (by omega) (by omega)];omega
  have tk:c.rg.take (i+1)=c.rg.take i++[p]:=by rw[List.take_add_one,C3];rfl
  unfold put;by_cases c1:p.1<from_
  ·rw[Ni c1]
   have ihh:=ih (i+1) nn hd' (by simp at Eg;omega) (by omega) (by
    intro q hq;rw[tk] at hq;rcases List.mem_append.1 hq with hq|hq
    ·exact hp q hq
    ·rw[List.mem_singleton] at hq;subst hq;exact c1)
   have e:((put from_ leaf r).map (p :: ·)).map (c.rg.take i ++ ·)=(put from_ leaf r).map (c.rg.take (i+1) ++ ·):=by
    rw[Option.map_map,tk]
    congr 1
    funext x
    simp
   rw[e,←ihh];have d1:decide (p.1<from_)=true:=by simp[c1]
   simp (disch:=omega) only[En,tn,a0',eF,w1,lt1,d1]
  ·rw[Pz c1];have d1:decide (p.1<from_)=false:=by simp;omega
   by_cases c2:p.1=from_
   ·rw[Ni c2];have d2:(p.1 != from_)=false:=by simp[c2]
    by_cases c3:leaf<=p.2
    ·rw[Ni c3];have d3:decide (p.2>=leaf)=true:=by simp;omega
     simp (disch:=omega) only[En,tn,a0',a1',eF,eL,lt1,d1,ne1,d2,d3,t1,t2,Hy,Option.map_none];rfl
    ·rw[Pz c3];have d3:decide (p.2>=leaf)=false:=by simp;omega
     have eS2:=setR i _ _ C3;have lR:=Ic (c.rg.set i (p.1,leaf));have lA:(c.rg.set i (p.1,leaf)).length=c.rg.length:=by simp
     have eA:c.rg.set i (p.1,leaf)=c.rg.take i++(from_,leaf)::r:=by
      rw[List.set_eq_take_append_cons_drop,Ni Bk,hd',c2]
     have tR:List.take (c.rg.length*2) (Kr (c.rg.set i (p.1,leaf)))=Kr (c.rg.set i (p.1,leaf)):=J4 (by omega)
     rw[a1'] at eS2;have hS3:i*2+1+1<=(Kr c.rg).length:=by omega
     simp (disch:=omega) only[En,tn,a0',a1',eF,eL,lt1,d1,ne1,d2,d3,t1,tR,Hy,Option.map_some,eS2,eS,lR,lA];simp only[BX,Sd.cells,←eA,lA]
   ·rw[Pz c2];have d2:(p.1 != from_)=true:=by simp[c2]
    have q:=XM i hi;have eI:=insR i (p::r) hi hd;rw[eI] at q
    have eG:(c.rg.take i++(from_,leaf)::p::r)[i]?=some (from_,leaf):=by
     rw[List.getElem?_append_right (by rw[List.length_take];omega),List.length_take,Nat.min_eq_left (by omega),Nat.sub_self];rfl
    have eS2:=setR i _ _ eG;have eS3:=FJ eG;rw[eS3] at eS2
    have lA:(c.rg.take i++(from_,leaf)::p::r).length=c.rg.length+1:=by
     have:=congrArg List.length hd;simp at this ⊢;omega
    have lR:=Ic (c.rg.take i++(from_,leaf)::p::r);rw[Option.map_some];generalize hL:c.rg.take i++(from_,leaf)::p::r=L at *
    have tR:List.take ((c.rg.length+1)*2) (Kr L)=Kr L:=J4 (by omega)
    rw[a1'] at eS2;have hS3:i*2+1+1<=(Kr L).length:=by omega
    simp (disch:=omega) only[En,tn,a0',a1',eF,lt1,d1,ne1,d2,t1,t2,q,tR,Hy,eS2,eS,lR,lA];simp only[BX,Sd.cells,lA]
theorem O0 {c:Sd}(hk:c.ok)(Ef:2000<=fu)(leaf from_ now:Int):Ag C0 prog fu (d+4) Lx [.agg c.cells,.sc (.int .i64 leaf),.sc (.int .i64 from_),.sc (.int .i64 now)]=some ⟨[.agg (Vt c leaf from_ now).1.cells,.sc (.int .i64 (Vt c leaf from_ now).2)],[]⟩:=by
 refine (Tw fu (d+3) c.id.length (At .u8 c.id) c.ht c.root c.model c.fmt c.sh c.used c.rg.length (Kr c.rg) c.sus c.since c.last leaf from_ now).trans ?_;have q:=Qa (xs:=E0) (fu:=fu) (d:=d+1) hk.idL (Nat.le_trans hk.rgn (by omega))
 simp only[Sd.cells,Sd.ocells] at q;have l1:=Aw .u8 c.id;have l2:=Ic c.rg;have t1:List.take (c.id.length*1) (At .u8 c.id)=At .u8 c.id:=J4 (by omega)
 have t2:List.take (c.rg.length*2) (Kr c.rg)=Kr c.rg:=J4 (by omega)
 simp (disch:=omega) only[En,q,t1,t2,Hy,l1,l2];by_cases h1:c.ht<0
 ·have hb:Qd c leaf from_=true:=by simp[Qd,h1]
  unfold Vt;rw[Ni hb];simp (disch:=omega) only[En];rfl
 by_cases h2:c.ht>4
 ·have hb:Qd c leaf from_=true:=by simp[Qd,h2]
  unfold Vt;rw[Ni hb];simp (disch:=omega) only[En];rfl
 by_cases h3:from_<0
 ·have hb:Qd c leaf from_=true:=by simp[Qd,h3]
  unfold Vt;rw[Ni hb];simp (disch:=omega) only[En];rfl
 by_cases h4:from_>leaf
 ·have hb:Qd c leaf from_=true:=by simp[Qd,h4]
  unfold Vt;rw[Ni hb];simp (disch:=omega) only[En];rfl
 by_cases h5:leaf>=Hh .i64 1 c.ht
 ·have hb:Qd c leaf from_=true:=by simp[Qd,h5]
  unfold Vt;rw[Ni hb];simp (disch:=omega) only[En];rfl
 have hb:Qd c leaf from_=false:=by simp[Qd,h1,h2,h3,h4,h5]
 obtain⟨r1,r2,r3,r4,r5,r6⟩:=IX hb;unfold Vt;rw[Pz (by rw[hb];simp)]
 simp (disch:=omega) only[En];rw[Pm (Eg:=by omega)]
 have ub:=QV hk.u0 hk.u1 (k:=leaf) (by omega) (by omega)
 by_cases hs:c.sus=true
 ·have hsT:∀x y:Option Bc,Cc c.sus x y=x:=fun x y=>by rw[hs];rfl
  rw[Ni hs];simp (disch:=omega) only[En,hsT,t1,t2,Hy];rfl
 ·have hsF:∀x y:Option Bc,Cc c.sus x y=y:=fun x y=>by rw[Bool.not_eq_true] at hs;rw[hs];rfl
  rw[Pz hs];by_cases Pc:YX c.used leaf=true
  ·rw[Pc] at ub;rw[Ni Pc];simp (disch:=omega) only[En,hsF,ub,t1,t2,Hy];rfl
  ·rw[Bool.not_eq_true] at Pc;rw[Pc] at ub;rw[Pz (by simp[Pc])]
   simp (disch:=omega) only[En,hsF,ub];refine (SV (c:=c) (leaf:=leaf) (from_:=from_) (now:=now) (by omega) hk.rgn hk.idL (fun i hi=>PM (Ic _) (by omega) (by omega) (by have:=hk.rgn;omega) (Aab _)) c.rg 0 fu rfl (by have:=hk.rgn;omega) (by omega) (by simp)).trans ?_
   have e0:(Option.map (List.take 0 c.rg ++ ·) (put from_ leaf c.rg))=put from_ leaf c.rg:=by
    rw[List.take_zero];cases put from_ leaf c.rg<;>rfl
   rw[e0];cases put from_ leaf c.rg<;>rfl
end
end
section
open Go.Proofs.Try (prog)
open Go.IntKind (wrap)
set_option maxRecDepth 100000
theorem MT {a b:List Int}(ha:Ny a)(hb:Ny b):Ny (a++b):=by
 intro x hx;rcases List.mem_append.1 hx with hx|hx
 ·exact ha x hx
 ·exact hb x hx
def Zd (key nonce:Int):Nat->Nat->List Int
 |_,0=>[]
 |i,k+1=>E3 (Qi key 5 (Be [nonce,(i:Int)]))++Zd key nonce (i+1) k
def Kn (key nonce:Int)(n:Nat):List Int:=(Zd key nonce 0 ((n+7) / 8)).take n
theorem HC (key nonce:Int):∀(k i:Nat),(Zd key nonce i k).length=8*k
 |0,_=>rfl
 |k+1,i=>by show (E3 _++_).length=_;rw[MK,Dt,HC key nonce k];omega
theorem SG (key nonce:Int):∀(k i:Nat),Ny (Zd key nonce i k)
 |0,_=>fun x hx=>by cases hx
 |k+1,i=>MT (MJ _) (SG key nonce k _)
theorem Gw (key nonce:Int)(n:Nat):(Kn key nonce n).length=n:=by
 unfold Kn;rw[List.length_take,HC];omega
theorem UF (key nonce:Int)(n:Nat):Ny (Kn key nonce n):=(SG key nonce _ _).take n
section
variable {fu d:Nat}
theorem DI {xs:FuncId->Option (List PV->Option Bc)} {l:List Int}(hb:Ny l)(hl:l.length<=1099511627776)(Ef:100<=fu)(hf:l.length<fu)(key dom:Int):Ag (CX xs) prog fu (d+5) Rn [.sc (.int .u64 key),.sc (.int .i64 dom),.lst false 1 l.length (At .u8 l)]=some ⟨[.sc (.int .u64 (Qi key dom l))],[]⟩:=by
 rw[CU];have s:=Aca (xs:=xs) (fu:=fu) (d:=d) hb hl Ef hf key (wrap .u64 (1+wrap .u64 dom));simp only[En,s];rfl
theorem NM (Ef:1000<=fu){a0 a1 a2:Int}{key nonce:Int}{n:Nat}(hn:n<=1024):∀(k nn i:Nat)(l:List Int),n<=8*(i+k)->8*(i+k)<n+8->k<nn->l.length=8*i ->
  Gv fu (Ag C0 prog fu (d+5)) a0 a1 a2 nn key nonce (n:Int) l.length i (At .u8 l)=some ⟨[.own 1 n (At .u8 ((l++Zd key nonce i k).take n))],[]⟩:=by
 intro k
 induction k with
 |zero=>
  intro nn i l h1 Xn h2 h3;obtain⟨m,rfl⟩:∃m,nn=m+1:=⟨nn-1,by omega⟩
  have L:=Aw .u8 l;have nt:Int.toNat (n:Int)=n:=Uv _;rw[Mb,Zd,List.append_nil]
  try unfold Aa
  repeat first
   |((with_reducible first|apply C6|apply B3|apply C2|apply Ek|apply B5|apply C7|apply C8);· first|with_reducible rfl|(simp (disch:=omega) only[gT,L,nt,Nat.sub_zero,E8,H6]<;>first|with_reducible rfl|omega)|omega)
   |(with_reducible apply Cz;· first|with_reducible rfl|(simp (disch:=omega) only[gF,L,nt,Nat.sub_zero,E8,H6]<;>omega))
  try simp (disch:=omega) only[L,nt,Nat.sub_zero,E8,H6]
 |succ k ih=>
  intro nn i l h1 Xn h2 h3;obtain⟨m,rfl⟩:∃m,nn=m+1:=⟨nn-1,by omega⟩
  have L:=Aw .u8 l;have nt:Int.toNat (n:Int)=n:=Uv _;have Bk:l.length<n:=by omega
  have w2:wrap .u64 ((i:Int)+1)=((i+1:Nat):Int):=by rw[Cj (by omega) (by omega)];omega
  have wd:Ag C0 prog fu (d+5) G4 [.lst false 1 2 [.sc (.int .u64 nonce),.sc (.int .u64 i)]]=some ⟨[.own 1 (Be [nonce,(i:Int)]).length (At .u8 (Be [nonce,(i:Int)]))],[]⟩:=HN (xs:=E0) (ws:=[nonce,i]) (by simp) (by omega) (by simp;omega)
  have mc:=DI (xs:=E0) (fu:=fu) (d:=d) (l:=Be [nonce,i]) (FQ _) (by rw[M8];simp) (by omega) (by rw[M8];simp;omega) key 5
  have L2:=Aw .u8 (Be [nonce,i]);have t2:=XE .u8 (Be [nonce,i]);rw[Zd];generalize Qi key 5 (Be [nonce,i])=q at mc ⊢;have ow:Ag C0 prog fu (d+5) G4 [.lst false 1 1 [.sc (.int .u64 q)]]=some ⟨[.own 1 (Be [q]).length (At .u8 (Be [q]))],[]⟩:=HN (xs:=E0) (ws:=[q]) (by simp) (by omega) (by simp;omega)
  have eq1:Be [q]=E3 q:=by simp[Be]
  rw[eq1,Dt] at ow;have Lq:(At .u8 (E3 q)).length=8:=by rw[Aw,Dt]
  have tq:List.take 8 (At .u8 (E3 q))=At .u8 (E3 q):=J4 (by omega)
  have tl:=XE .u8 l;have ea:At .u8 l++At .u8 (E3 q)=At .u8 (l++E3 q):=by rw[At,At,At,List.flatMap_append]
  have r3:=ih m (i+1) (l++E3 q) (by omega) (by omega) (by omega) (by rw[MK,Dt];omega)
  rw[MK,Dt,NS] at r3;rw[←r3,Mb];generalize Be [nonce,(i:Int)]=W at *
  generalize W.length=wn at *
  try unfold Aa
  repeat first
   |((with_reducible first|apply C6|apply B3|apply C2|apply Ek|apply B5|apply C7|apply C8);· first|with_reducible rfl|(simp (disch:=omega) only[gT,w2,wd,Hy,I1,E8,L,L2,t2,mc,ow,Lq,tq,tl,ea]<;>first|with_reducible rfl|omega)|omega)
   |(with_reducible apply Cz;· first|with_reducible rfl|(simp (disch:=omega) only[gF,w2,wd,Hy,I1,E8,L,L2,t2,mc,ow,Lq,tq,tl,ea]<;>omega))
  try simp (disch:=omega) only[w2,wd,Hy,I1,E8,L,L2,t2,mc,ow,Lq,tq,tl,ea]
  all_goals rfl
theorem YF (Ef:1000<=fu)(key nonce:Int){n:Nat}(hn:n<=1024):Ag C0 prog fu (d+6) Lg [.sc (.int .u64 key),.sc (.int .u64 nonce),.sc (.int .i64 n)]=some ⟨[.own 1 n (At .u8 (Kn key nonce n))],[]⟩:=by
 rw[Y6];have f1:(if (n:Int)<0 then (0:Int) else (n:Int))=n:=Pz (by omega)
 have f2:(if (1024:Int)<(n:Int) then (1024:Int) else (n:Int))=n:=Pz (by omega)
 have w:wrap .i64 ((n:Int)+8)=(n:Int)+8:=wrap_i64 (by omega) (by omega)
 simp (disch:=omega) only[En,f1,f2,w];exact NM Ef hn ((n+7) / 8) fu 0 [] (by omega) (by omega) (by omega) rfl
theorem KA (Ef:1000<=fu){a0 a1 a2:Int}{key nonce:Int}{n:Nat}(hn:n<=1024):∀(k nn i:Nat)(l:List Int),n<=8*(i+k)->8*(i+k)<n+8->k<nn->l.length=8*i ->
  Dn fu (Ag C0 prog fu (d+4)) a0 a1 a2 nn key nonce (n:Int) l.length i (At .u8 l)=some ⟨[.own 1 n (At .u8 ((l++Zd key nonce i k).take n))],[]⟩:=by
 intro k
 induction k with
 |zero=>
  intro nn i l h1 Xn h2 h3;obtain⟨m,rfl⟩:∃m,nn=m+1:=⟨nn-1,by omega⟩
  have L:=Aw .u8 l;have nt:Int.toNat (n:Int)=n:=Uv _;rw[Gp,Zd,List.append_nil]
  try unfold Aa
  repeat first
   |((with_reducible first|apply C6|apply B3|apply C2|apply Ek|apply B5|apply C7|apply C8);· first|with_reducible rfl|(simp (disch:=omega) only[gT,L,nt,Nat.sub_zero,E8,H6]<;>first|with_reducible rfl|omega)|omega)
   |(with_reducible apply Cz;· first|with_reducible rfl|(simp (disch:=omega) only[gF,L,nt,Nat.sub_zero,E8,H6]<;>omega))
  try simp (disch:=omega) only[L,nt,Nat.sub_zero,E8,H6]
 |succ k ih=>
  intro nn i l h1 Xn h2 h3;obtain⟨m,rfl⟩:∃m,nn=m+1:=⟨nn-1,by omega⟩
  have L:=Aw .u8 l;have nt:Int.toNat (n:Int)=n:=Uv _;have Bk:l.length<n:=by omega
  have w1:wrap .u64 (i:Int)=(i:Int):=Cj (by omega) (by omega)
  have w2:wrap .i64 ((i:Int)+1)=((i+1:Nat):Int):=by rw[wrap_i64 (by omega) (by omega)];omega
  have wd:Ag C0 prog fu (d+4) D6 [.lst false 1 2 [.sc (.int .u64 nonce),.sc (.int .u64 i)]]=some ⟨[.own 1 (Be [nonce,(i:Int)]).length (At .u8 (Be [nonce,(i:Int)]))],[]⟩:=AV (xs:=E0) (ws:=[nonce,i]) (by simp) (by omega) (by simp;omega)
  have mc:=Vy (xs:=E0) (fu:=fu) (d:=d) (l:=Be [nonce,i]) (FQ _) (by rw[M8];simp) (by omega) (by rw[M8];simp;omega) key 5
  have L2:=Aw .u8 (Be [nonce,i]);have t2:=XE .u8 (Be [nonce,i]);rw[Zd];generalize Qi key 5 (Be [nonce,i])=q at mc ⊢;have ow:Ag C0 prog fu (d+4) D6 [.lst false 1 1 [.sc (.int .u64 q)]]=some ⟨[.own 1 (Be [q]).length (At .u8 (Be [q]))],[]⟩:=AV (xs:=E0) (ws:=[q]) (by simp) (by omega) (by simp;omega)
  have eq1:Be [q]=E3 q:=by simp[Be]
  rw[eq1,Dt] at ow;have Lq:(At .u8 (E3 q)).length=8:=by rw[Aw,Dt]
  have tq:List.take 8 (At .u8 (E3 q))=At .u8 (E3 q):=J4 (by omega)
  have tl:=XE .u8 l;have ea:At .u8 l++At .u8 (E3 q)=At .u8 (l++E3 q):=by rw[At,At,At,List.flatMap_append]
  have r3:=ih m (i+1) (l++E3 q) (by omega) (by omega) (by omega) (by rw[MK,Dt];omega)
  rw[MK,Dt,NS] at r3;rw[←r3,Gp];generalize Be [nonce,(i:Int)]=W at *
  generalize W.length=wn at *
  try unfold Aa
  repeat first
   |((with_reducible first|apply C6|apply B3|apply C2|apply Ek|apply B5|apply C7|apply C8);· first|with_reducible rfl|(simp (disch:=omega) only[gT,w1,w2,wd,Hy,I1,E8,L,L2,t2,mc,ow,Lq,tq,tl,ea]<;>first|with_reducible rfl|omega)|omega)
   |(with_reducible apply Cz;· first|with_reducible rfl|(simp (disch:=omega) only[gF,w1,w2,wd,Hy,I1,E8,L,L2,t2,mc,ow,Lq,tq,tl,ea]<;>omega))
  try simp (disch:=omega) only[w1,w2,wd,Hy,I1,E8,L,L2,t2,mc,ow,Lq,tq,tl,ea]
  all_goals rfl
theorem FI (Ef:1000<=fu)(key nonce:Int){n:Nat}(hn:n<=1024):Ag C0 prog fu (d+5) Fe [.sc (.int .u64 key),.sc (.int .u64 nonce),.sc (.int .i64 n)]=some ⟨[.own 1 n (At .u8 (Kn key nonce n))],[]⟩:=by
 rw[Of];have f1:(if (n:Int)<0 then (0:Int) else (n:Int))=n:=Pz (by omega)
 have f2:(if (1024:Int)<(n:Int) then (1024:Int) else (n:Int))=n:=Pz (by omega)
 simp (disch:=omega) only[En,f1,f2];exact KA Ef hn ((n+7) / 8) fu 0 [] (by omega) (by omega) (by omega) rfl
def Pf (seed:Int)(n:Nat):List Int:=Kn (wrap .u64 (wrap .u64 seed+1)) 7 n
theorem WK (Ef:1000<=fu)(seed:Int){n:Nat}(hn:n<=1024):Ag C0 prog fu (d+6) Fx [.sc (.int .i64 seed),.sc (.int .i64 n)]=some ⟨[.own 1 n (At .u8 (Pf seed n))],[]⟩:=by
 have e:=FI (fu:=fu) (d:=d) Ef (wrap .u64 (wrap .u64 seed+1)) 7 hn;have f1:(if (n:Int)<0 then (0:Int) else (n:Int))=n:=Pz (by omega)
 have f2:(if (1024:Int)<(n:Int) then (1024:Int) else (n:Int))=n:=Pz (by omega)
 have L:(At .u8 (Pf seed n)).length=n:=by rw[Aw,Pf,Gw]
 have t:List.take n (At .u8 (Pf seed n))=At .u8 (Pf seed n):=J4 (by omega)
 rw[Ph];unfold Pf at *
 simp (disch:=omega) only[En,f1,f2,e,E8,L,t]
def sdE (k h:Int):Sd:=⟨Pf (600+k) 176,h,5,0,0,false,0,[],false,3,0⟩
theorem Wu (k h:Int):(sdE k h).ok:=⟨UF _ _ _,by show (Kn _ _ _).length<=_;rw[Gw];omega,by show (0:Int)<=0;omega,by show (0:Int)<=_;omega,trivial,by show 0<=_;omega⟩
theorem Ac8 {v n:Int}(h0:0<=v)(h1:v<n)(hn:n<=9223372036854775807):Ag C0 prog fu (d+1) K4 [.sc (.int .i64 v),.sc (.int .i64 n)]=some ⟨[.sc (.int .i64 v)],[]⟩:=by
 rw[R8];have w1:wrap .u64 v=v:=Cj h0 (by omega)
 have w2:wrap .u64 n=n:=Cj (by omega) (by omega)
 have e:Int.tmod v n=v:=Int.tmod_eq_of_lt h0 h1;simp only[Kj,w1,w2,e];rw[DM _ _ (by omega),wrap_i64 (by omega) (by omega)]
theorem PH (Ef:1000<=fu){k:Int}(h0:0<=k)(h1:k<12)(h:Int):Ag C0 prog fu (d+7) Ht [.sc (.int .i64 k),.sc (.int .i64 h)]=some ⟨[.agg (sdE k h).cells],[]⟩:=by
 rw[Nm];have m:=Ac8 (fu:=fu) (d:=d+5) h0 h1 (by omega)
 have w:wrap .i64 (600+k)=600+k:=wrap_i64 (by omega) (by omega)
 have b:Ag C0 prog fu (d+6) Fx [.sc (.int .i64 (600+k)),.sc (.int .i64 176)]=_:=WK (fu:=fu) (d:=d) Ef (600+k) (n:=176) (by omega)
 have L:(At .u8 (Pf (600+k) 176)).length=176:=by rw[Aw,Pf,Gw]
 have L1:(Pf (600+k) 176).length=176:=by rw[Pf,Gw]
 have t:List.take 176 (At .u8 (Pf (600+k) 176))=At .u8 (Pf (600+k) 176):=J4 (by omega)
 simp (disch:=omega) only[En,m,w,b,E8,I1,Hy,L,t];simp only[Sd.cells,sdE,L1];rfl
end
end
section
open Go.IntKind (wrap)
def Dz (s:ByteArray):List Int:=s.data.toList.map fun b=>(b.toNat:Int)
def Bg (l:List Int):ByteArray:=⟨(l.map fun n=>n.toNat.toUInt8).toArray⟩
theorem Me (s:ByteArray):(Dz s).length=s.size:=by
 unfold Dz;rw[List.length_map];rfl
theorem Uf (s:ByteArray):Ny (Dz s):=by
 intro x hx;obtain⟨b,_,rfl⟩:=List.mem_map.1 hx;have:=b.toNat_lt;omega
theorem Fd (s:ByteArray):B1 s=At .u8 (Dz s):=by
 unfold B1 Dz
 induction s.data.toList with
 |nil=>rfl
 |cons b l ih=>rw[List.map_cons,List.map_cons,ih];rfl
theorem Jp (l:List Int):(Bg l).size=l.length:=by
 show (l.map fun n=>n.toNat.toUInt8).toArray.size=_
 simp
theorem Rg {l:List Int}(h:Ny l):Dz (Bg l)=l:=by
 unfold Dz Bg;simp only[List.map_map]
 have:∀l:List Int,Ny l->List.map ((fun b:UInt8=>(b.toNat:Int)) ∘ fun n:Int=>n.toNat.toUInt8) l=l:=by
  intro l
  induction l with
  |nil=>intro _;rfl
  |cons x l ih=>
   intro h;have hx:=h x (by simp)
   rw[List.map_cons,ih fun y hy=>h y (by simp[hy])]
   congr 1
   show ((x.toNat.toUInt8.toNat:Nat):Int)=x;rw[Nat.toUInt8,UInt8.toNat_ofNat'];omega
 exact this l h
theorem DL (s:ByteArray):Bg (Dz s)=s:=by
 unfold Bg Dz;simp only[List.map_map]
 have:∀l:List UInt8,List.map ((fun n:Int=>n.toNat.toUInt8) ∘ fun b:UInt8=>(b.toNat:Int)) l=l:=by
  intro l
  induction l with
  |nil=>rfl
  |cons x l ih=>
   rw[List.map_cons,ih]
   congr 1
   show ((x.toNat:Int).toNat).toUInt8=x;rw[Uv];simp
 rw[this]
theorem Gm:∀l:List Int,bytesOf (At .u8 l)=some (l.map fun n=>n.toNat.toUInt8)
 |[]=>rfl
 |x::l=>by
  show (bytesOf (At .u8 l)).map (x.toNat.toUInt8 :: ·)=_
  rw[Gm l];rfl
theorem GV (l:List Int)(s:ByteArray):Bg l++s=Bg (l++Dz s):=by
 conv=>lhs;rw[←DL s]
 unfold Bg;apply ByteArray.ext;rw[ByteArray.data_append];simp
end
section
open Go.Proofs.Try (prog)
open Go.IntKind (wrap)
set_option maxRecDepth 100000
def bu (l:List Int):List UInt8:=l.map fun n=>n.toNat.toUInt8
def HT (a b:List Int):Bool:=Op.bytesLess (bu a) (bu b)||bu a==bu b
def Ac9 (a b:List Int):Int:=Lib.compareBytes (bu a) (bu b)
theorem Abj:∀x y:List UInt8,(Lib.compareBytes x y<0)↔Op.bytesLess x y=true
 |[],[]=>by simp[Lib.compareBytes,Op.bytesLess]
 |[],_::_=>by simp[Lib.compareBytes,Op.bytesLess]
 |_::_,[]=>by simp[Lib.compareBytes,Op.bytesLess]
 |a::x,b::y=>by
  have ih:=Abj x y;unfold Lib.compareBytes Op.bytesLess;by_cases h1:a<b
  ·simp[h1]
  ·rw[Pz h1];by_cases h2:b<a
   ·have:¬a=b:=fun e=>by subst e;exact h1 h2
    simp[h1,h2,this]
   ·have:a=b:=UInt8.le_antisymm (UInt8.not_lt.1 h2) (UInt8.not_lt.1 h1);rw[Pz h2,ih];simp[h1,this]
theorem V7 (a b:List Int):HT a b=true↔bu a<=bu b:=by
 unfold HT;rw[bytesLess_eq];simp only[Bool.or_eq_true,decide_eq_true_eq,beq_iff_eq];exact List.le_iff_lt_or_eq.symm
theorem Aej (a b:List Int):decide (Ac9 a b<0) = !HT b a:=by
 rw[Bool.eq_iff_iff,decide_eq_true_eq,Bool.not_eq_true',←Bool.not_eq_true,V7];unfold Ac9;rw[Abj,bytesLess_eq,decide_eq_true_eq];exact List.not_le.symm
theorem AH {a b c:List Int}(h1:HT a b=true)(h2:HT b c=true):HT a c=true:=by
 rw[V7] at *
 exact List.le_trans h1 h2
theorem NZ {a b:List Int}(h:HT a b=false):HT b a=true:=by
 rw[V7];rw[←Bool.not_eq_true,V7,List.not_le] at h;exact List.le_of_lt h
def Qf (x:List Int):List (List Int)->List (List Int)
 |[]=>[x]
 |y::r=>if HT y x=true then y::Qf x r else x::y::r
theorem Ov (x:List Int):∀l:List (List Int),(Qf x l).length=l.length+1
 |[]=>rfl
 |y::r=>by
  unfold Qf;split
  ·rw[LI,Ov x r];rfl
  ·rfl
theorem V5 {x y:List Int}:∀{l:List (List Int)},y∈Qf x l↔y=x∨y∈l
 |[]=>by simp[Qf]
 |z::r=>by
  unfold Qf;split
  ·rw[List.mem_cons,V5,List.mem_cons];constructor
   ·rintro (h|h|h)
    ·exact .inr (.inl h)
    ·exact .inl h
    ·exact .inr (.inr h)
   ·rintro (h|h|h)
    ·exact .inr (.inl h)
    ·exact .inl h
    ·exact .inr (.inr h)
  ·simp
abbrev Srt (l:List (List Int)):Prop:=l.Pairwise fun a b=>HT a b=true
theorem ND {x:List Int}:∀{l:List (List Int)},Srt l->Srt (Qf x l)
 |[],_=>by simp[Qf,Srt]
 |y::r,h=>by
  obtain⟨h1,h2⟩:=List.pairwise_cons.1 h;unfold Qf;split
  ·rename_i hy;refine List.pairwise_cons.2 ⟨fun z hz=>?_,ND h2⟩
   rcases V5.1 hz with rfl|hz
   ·exact hy
   ·exact h1 z hz
  ·rename_i hy;rw[Bool.not_eq_true] at hy;have hxy:=NZ hy;refine List.pairwise_cons.2 ⟨fun z hz=>?_,h⟩
   rcases List.mem_cons.1 hz with rfl|hz
   ·exact hxy
   ·exact AH hxy (h1 z hz)
theorem GS {x y:List Int}:∀{l:List (List Int)},Srt (l++[y])->Qf x (l++[y])=if HT y x=true then l++[y,x] else Qf x l++[y]
 |[],_=>by
  show Qf x [y]=_;unfold Qf;split<;>rfl
 |z::r,h=>by
  obtain⟨h1,h2⟩:=List.pairwise_cons.1 (show Srt (z::(r++[y])) from h)
  have ih:=GS (x:=x) h2;have hzy:=h1 y (by simp)
  show Qf x (z::(r++[y]))=_;by_cases hy:HT y x=true
  ·rw[Ni hy] at ih ⊢;rw[Qf,Ni (AH hzy hy),ih];rfl
  ·rw[Pz hy] at ih ⊢;rw[Qf,ih];by_cases hz:HT z x=true
   ·rw[Ni hz,Qf,Ni hz];rfl
   ·rw[Pz hz,Qf,Pz hz];rfl
def Fv (s l:List (List Int)):List (List Int):=l.foldl (fun s x=>Qf x s) s
theorem Lw:∀(l s:List (List Int)),(Fv s l).length=s.length+l.length
 |[],_=>rfl
 |x::l,s=>by
  show (Fv (Qf x s) l).length=_;rw[Lw l,Ov,LI];omega
theorem EP {y:List Int}:∀{l s:List (List Int)},y∈Fv s l↔y∈s∨y∈l
 |[],_=>by simp[Fv]
 |x::l,s=>by
  show y∈Fv (Qf x s) l↔_;rw[EP,V5,List.mem_cons];constructor
  ·rintro ((h|h)|h)
   ·exact .inr (.inl h)
   ·exact .inl h
   ·exact .inr (.inr h)
  ·rintro (h|h|h)
   ·exact .inl (.inr h)
   ·exact .inl (.inl h)
   ·exact .inr h
abbrev Ace (b:List Int):List PV:=[PV.lst false 1 b.length (At .u8 b)]
abbrev Cv (L:List (List Int)):List PV:=L.flatMap Ace
abbrev MX (b:List Int):List PV:=[PV.sc (.string (Bg b))]
abbrev Ea (L:List (List Int)):List PV:=L.flatMap MX
theorem G6 (L:List (List Int)):(Cv L).length=L.length:=by rw[CQ (k:=1) (fun _=>rfl)];omega
theorem Iw (L:List (List Int)):(Ea L).length=L.length:=by rw[CQ (k:=1) (fun _=>rfl)];omega
theorem BU {L:List (List Int)} {i:Nat}{b:List Int}(h:L[i]?=some b):(Cv L).getD i .top=.lst false 1 b.length (At .u8 b):=by
 have:=Wh (f:=Ace) (k:=1) (fun _=>rfl) h (j:=0) (by omega)
 rwa [E8,Nat.add_zero] at this
theorem LT {L:List (List Int)} {i:Nat}{b:List Int}(h:L[i]?=some b):(Ea L).getD i .top=.sc (.string (Bg b)):=by
 have:=Wh (f:=MX) (k:=1) (fun _=>rfl) h (j:=0) (by omega)
 rwa [E8,Nat.add_zero] at this
theorem HM {L:List (List Int)} {i:Nat}{b y:List Int}(h:L[i]?=some b):A2 (Cv L) [.lst false 1 y.length (At .u8 y)] i=Cv (L.set i y):=by
 have hl:=G6 L;have:=Ke h;rw[Q0 (by omega)]
 have e:=IM (f:=Ace) (k:=1) (fun _=>rfl) (p:=.lst false 1 y.length (At .u8 y)) (j:=0) (by omega) (y:=y) h rfl
 rw[E8,Nat.add_zero] at e;exact e
section
variable {fu d:Nat}
theorem JO (a b:List Int):Ag C0 prog fu (d+1) 44 [.lst false 1 a.length (At .u8 a),.lst false 1 b.length (At .u8 b)]=some ⟨[.sc (.int .i64 (Ac9 a b))],[]⟩:=by
 have h:Ag C0 prog fu (d+1) 44 [.lst false 1 a.length (At .u8 a),.lst false 1 b.length (At .u8 b)]=Nw [.lst false 1 a.length (At .u8 a),.lst false 1 b.length (At .u8 b)]:=by kernel_rfl
 rw[h];unfold Nw;simp only[Aw,Nat.beq_refl,Bool.and_self,cond_true,Gm];rfl
theorem YL {n:Nat}{c:List PV}{a1 a2:Int}{m0 i N:Nat}{x:List Int}(hN:N<=100000)(hi:i<=100000):
  ∀(S:List (List Int)) (R:List (List Int)) (nn:Nat),S.length<nn->(S.reverse++x::R).length=N->Srt S.reverse ->
   Bj fu (Ag C0 prog fu (d+1)) n c a1 a2 m0 nn N 0 (N:Int) (i:Int) (S.length:Int) (Cv (S.reverse++x::R)) =
    Az fu (Ag C0 prog fu (d+1)) n c a1 a2 m0 N 0 (N:Int) ((i+1:Nat):Int) (Cv (Qf x S.reverse++R)):=by
 intro S;have wi:wrap .i64 ((i:Int)+1)=((i+1:Nat):Int):=by rw[wrap_i64 (by omega) (by omega)];omega
 induction S with
 |nil=>
  intro R nn Eg hl hs;obtain⟨nn,rfl⟩:∃k,nn=k+1:=⟨nn-1,by omega⟩
  rw[Dc];simp (disch:=omega) only[En,YN,wi,List.reverse_nil,XX,Qf,List.cons_append]
 |cons y S ih=>
  intro R nn Eg hl hs;obtain⟨nn,rfl⟩:∃k,nn=k+1:=⟨nn-1,by omega⟩
  rw[Dc];rw[List.reverse_cons] at hl hs ⊢;have hS:S.reverse.length=S.length:=List.length_reverse;have He:S.length+1+R.length+1=N:=by simp at hl;omega
  have lS:(y::S).length=S.length+1:=rfl
  have gx:((S.reverse++[y])++x::R)[S.length+1]?=some x:=by
   rw[List.getElem?_append_right (by simp)];simp
  have gy:((S.reverse++[y])++x::R)[S.length]?=some y:=by
   rw[NS,List.getElem?_append_right (by simp)];simp
  have ax:=BU gx;have ay:=BU gy;have w1:wrap .i64 (((S.length+1:Nat):Int)-1)=(S.length:Int):=by rw[wrap_i64 (by omega) (by omega)];omega
  have n1:Int.toNat ((S.length+1:Nat):Int)=S.length+1:=Uv _;have n2:Int.toNat (S.length:Int)=S.length:=Uv _;have cq:=JO (fu:=fu) (d:=d) x y;have cl:=Aej x y;have lR:=G6 ((S.reverse++[y])++x::R);have lRR:((S.reverse++[y])++x::R).length=N:=hl;rw[GS hs];by_cases hy:HT y x=true
  ·rw[hy] at cl;rw[Ni hy];have eL:S.reverse++[y,x]++R=(S.reverse++[y])++x::R:=by simp
   rw[eL];simp (disch:=omega) only[En,lS,w1,n1,n2,I1,E8,ax,ay,cq,cl,Bool.not_true,wi]
  ·rw[Bool.not_eq_true] at hy;rw[hy] at cl;rw[Pz (by simp[hy])]
   have s1:=HM (y:=y) gx
   have gy2:(((S.reverse++[y])++x::R).set (S.length+1) y)[S.length]?=some y:=by
    rw[List.getElem?_set,Pz (by omega)];exact gy
   have s2:=HM (y:=x) gy2;have l2:=G6 (((S.reverse++[y])++x::R).set (S.length+1) y);rw[List.length_set] at l2
   have eL:(((S.reverse++[y])++x::R).set (S.length+1) y).set S.length x=S.reverse++x::(y::R):=by
    rw[List.set_append_right _ _ (by simp),List.set_append_left _ _ (by simp),List.set_append_right _ _ (by simp)]
    simp
   rw[eL] at s2;have YA:Srt S.reverse:=(List.pairwise_append.1 hs).1;have r:=ih (y::R) nn (by simp at Eg;omega) (by simp;omega) YA
   simp (disch:=omega) only[En,lS,w1,n1,n2,I1,E8,ax,ay,cq,cl,Bool.not_false,s1,s2];rw[r];simp
theorem ST {n:Nat}{c:List PV}{a1 a2:Int}{N:Nat}(Ef:N<fu)(hN:N<=10000):∀(R S:List (List Int)) (nn:Nat),R.length<nn->(S++R).length=N->Srt S ->
  Az fu (Ag C0 prog fu (d+1)) n c a1 a2 nn N 0 (N:Int) (S.length:Int) (Cv (S++R))=some ⟨[],[Cv (Fv S R)]⟩:=by
 intro R
 induction R with
 |nil=>
  intro S nn Eg hl hs;obtain⟨nn,rfl⟩:∃k,nn=k+1:=⟨nn-1,by omega⟩
  rw[List.append_nil] at hl ⊢;rw[Dd];simp (disch:=omega) only[En];rfl
 |cons x R ih=>
  intro S nn Eg hl hs;obtain⟨nn,rfl⟩:∃k,nn=k+1:=⟨nn-1,by omega⟩
  have He:S.length+(R.length+1)=N:=by simp at hl;omega
  rw[Dd];simp (disch:=omega) only[En];have q:=YL (fu:=fu) (d:=d) (n:=n) (c:=c) (a1:=a1) (a2:=a2) (m0:=nn) (i:=S.length) (N:=N) (x:=x) (by omega) (by omega) S.reverse R fu (by simp;omega) (by simp;omega) (by simpa using hs)
  rw[List.reverse_reverse,List.length_reverse] at q;rw[q];have r:=ih (Qf x S) nn (by simp at Eg;omega) (by rw[MK,Ov];omega) (ND hs)
  rw[Ov] at r;exact r
theorem JP {x:List Int}{R:List (List Int)} (Ef:(x::R).length<fu) (hN:(x::R).length<=10000):
  Ag C0 prog fu (d+2) Ca [.tup [.own 1 (x::R).length (Cv (x::R))],.sc (.int .i64 0),.sc (.int .i64 (x::R).length),.sc (.func (.func 44) #[] #[])]=some ⟨[],[Cv (Fv [] (x::R))]⟩:=by
 rw[Gh];have w:wrap .i64 (0+1)=(([x]:List (List Int)).length:Int):=rfl;simp only[En,w];exact ST Ef hN R [x] fu (by simp at Ef;omega) rfl (by simp[Srt])
theorem VX {a b c e:List Int}(Ef:100<=fu):Ag C0 prog fu (d+4) Eo [.tup [.own 1 4 (Cv [a,b,c,e])],.sc (.func (.func 44) #[] #[])]=some ⟨[],[Cv (Fv [] [a,b,c,e])]⟩:=by
 rw[Mx];have w:wrap .u64 4=4:=rfl;have bl:Ag C0 prog fu (d+3) 61 [.sc (.int .u64 4)]=some ⟨[.sc (.int .i64 3)],[]⟩:=by kernel_rfl
 obtain⟨m,rfl⟩:∃m,fu=m+1:=⟨fu-1,by omega⟩
 have q:Ag C0 prog (m+1) (d+2) Ca [.tup [.own 1 4 (Cv [a,b,c,e])],.sc (.int .i64 0),.sc (.int .i64 4),.sc (.func (.func 44) #[] #[])]=some ⟨[],[Cv (Fv [] [a,b,c,e])]⟩:=JP (x:=a) (R:=[b,c,e]) (by simp;omega) (by simp)
 have w2:wrap .i64 (4-0)=4:=rfl
 have p:Ag C0 prog (m+1) (d+3) Es [.tup [.own 1 4 (Cv [a,b,c,e])],.sc (.int .i64 0),.sc (.int .i64 4),.sc (.int .i64 3),.sc (.func (.func 44) #[] #[])]=some ⟨[],[Cv (Fv [] [a,b,c,e])]⟩:=by
  rw[I5];dsimp only;rw[Hi];simp (disch:=omega) only[En,w2,q]
 have e4:((4:Nat):Int)=4:=rfl;simp (disch:=omega) only[En,w,bl,e4,p]
theorem NO {n:Nat}{c:List PV}{s:ByteArray}{x:List Int}{L:List (List Int)} (hL:L.length<=1000):∀(r:List (List Int)) (i nn:Nat),L.drop i=r->r.length<nn->i<=L.length ->
  Df fu (Ag C0 prog fu d) n c s nn L.length (Ea L) (Bg x) (i:Int)=some ⟨[.own 1 (L.length+1) (Ea (L.take i++Qf x r))],[]⟩:=by
 intro r;have lR:=Iw L
 have fin:∀i:Nat,i<=L.length->Ea (L.take i)++[PV.sc (.string (Bg x))]++Ea (L.drop i)=Ea (L.take i++x::L.drop i):=by
  intro i hi;unfold Ea;rw[List.flatMap_append,NS];rfl
 have tk:∀i:Nat,List.take i (Ea L)=Ea (L.take i):=fun i=>by
  have:=V2 (f:=MX) (k:=1) (fun _=>rfl) L i
  rwa [E8] at this
 have dk:∀i:Nat,List.drop i (Ea L)=Ea (L.drop i):=fun i=>by
  have:=R0 (f:=MX) (k:=1) (fun _=>rfl) L i
  rwa [E8] at this
 have stop:∀(i:Nat),i<=L.length->(Ao (decide ((0:Int)<=(i:Int)))<|Ao (decide (Int.toNat (i:Int)<=L.length))<|(some (0:Nat)))=some 0:=by
  intro i hi;simp (disch:=omega) only[En]
 induction r with
 |nil=>
  intro i nn hd Eg hi;have Yq:i=L.length:=by have:=drop_nil hd;omega
  obtain⟨nn,rfl⟩:∃k,nn=k+1:=⟨nn-1,by omega⟩
  rw[F4];have f:=fin i hi;rw[hd] at f;have n1:Int.toNat (i:Int)=i:=Uv _;have l1:=Iw (L.take i);have l1':(L.take i).length=i:=by rw[List.length_take];omega
  have t1:List.take i (Ea (L.take i))=Ea (L.take i):=J4 (by omega)
  have l2:(Ea (L.take i)++[PV.sc (.string (Bg x))]).length=i+1:=by rw[MK,l1,l1'];rfl
  have t2:List.take (i+1) (Ea (L.take i)++[PV.sc (.string (Bg x))])=Ea (L.take i)++[PV.sc (.string (Bg x))]:=J4 (by omega)
  have lZ:Ea ([]:List (List Int))=[]:=rfl;rw[lZ,List.append_nil] at f;have l3:=Iw (L.take i++[x]);have l4:(L.take i++[x]).length=i+1:=by simp;omega
  have t3:List.take (i+1) (Ea (L.take i++[x]))=Ea (L.take i++[x]):=J4 (by omega)
  have s0:L.length-i=0:=by omega
  have Bk:¬((i:Int)<(L.length:Int)):=by omega
  have e1:L.length+1=i+1:=by omega
  simp (disch:=omega) only[En,n1,Nat.sub_zero,E8,Hy,tk,dk,t1,l2,t2,s0,List.take_zero,YN,List.append_nil,Nat.add_zero,f,t3,Qf];rw[e1]
 |cons y r ih=>
  intro i nn hd Eg hi;obtain⟨Bk,C3,hd'⟩:=D8 hd;obtain⟨nn,rfl⟩:∃k,nn=k+1:=⟨nn-1,by omega⟩
  rw[F4];have ay:=LT C3;have n1:Int.toNat (i:Int)=i:=Uv _;have w1:wrap .i64 ((i:Int)+1)=((i+1:Nat):Int):=by rw[wrap_i64 (by omega) (by omega)];omega
  have eB:(Op.bytesLess (Array.toList (ByteArray.data (Bg y))) (Array.toList (ByteArray.data (Bg x)))||Array.toList (ByteArray.data (Bg y))==Array.toList (ByteArray.data (Bg x)))=HT y x:=rfl;unfold Qf;by_cases hy:HT y x=true
  ·rw[Ni hy];have q:=ih (i+1) nn hd' (by simp at Eg;omega) (by omega)
   have tk1:L.take (i+1)=L.take i++[y]:=by rw[List.take_add_one,C3];rfl
   rw[tk1,NS,List.singleton_append] at q;rw[hy] at eB;simp (disch:=omega) only[En,n1,E8,ay,eB,w1,q]
  ·rw[Pz hy];rw[Bool.not_eq_true] at hy;rw[hy] at eB;have f:=fin i hi;have l1:=Iw (L.take i);have l1':(L.take i).length=i:=by rw[List.length_take];omega
   have t1:List.take i (Ea (L.take i))=Ea (L.take i):=J4 (by omega)
   have l2:(Ea (L.take i)++[PV.sc (.string (Bg x))]).length=i+1:=by rw[MK,l1,l1'];rfl
   have t2:List.take (i+1) (Ea (L.take i)++[PV.sc (.string (Bg x))])=Ea (L.take i)++[PV.sc (.string (Bg x))]:=J4 (by omega)
   have ld:=Iw (L.drop i);have ld':(L.drop i).length=L.length-i:=List.length_drop;have td:List.take (L.length-i) (Ea (L.drop i))=Ea (L.drop i):=J4 (by omega)
   have l3:=Iw (L.take i++x::L.drop i);have l4:(L.take i++x::L.drop i).length=L.length+1:=by simp;omega
   have e1:i+1+(L.length-i)=L.length+1:=by omega
   have t3:List.take (L.length+1) (Ea (L.take i++x::L.drop i))=Ea (L.take i++x::L.drop i):=J4 (by omega)
   rw[←hd];simp (disch:=omega) only[En,n1,Nat.sub_zero,E8,Hy,ay,eB,tk,dk,t1,l2,t2,td,f,e1,t3]
theorem LG {x:List Int}{L:List (List Int)} (hL:L.length<=1000)(Ef:L.length<fu):Ag C0 prog fu (d+1) Do [.lst false 1 L.length (Ea L),.sc (.string (Bg x))]=some ⟨[.own 1 (L.length+1) (Ea (Qf x L))],[]⟩:=by
 rw[Nr];have:=NO (fu:=fu) (d:=d) (n:=L.length) (c:=Ea L) (s:=Bg x) (x:=x) (L:=L) hL L 0 fu rfl Ef (by omega)
 rw[List.take_zero,XX] at this;exact this
end
end
section
open Go.Proofs.Try (prog)
open Go.IntKind (wrap)
set_option maxRecDepth 100000
structure U9 where
 nm:ByteArray
 us:ByteArray
 cr:List Sd
abbrev Sx (l:List Sd):List PV:=l.flatMap Sd.cells
def U9.cells (a:U9):List PV:=[.sc (.string a.nm),.sc (.string a.us),.lst false 11 a.cr.length (Sx a.cr)]
abbrev Lp (l:List U9):List PV:=l.flatMap U9.cells
theorem Fs {l:List Sd}{i:Nat}{c:Sd}(h:l[i]?=some c) {j:Nat}(hj:j<11):(Sx l).getD (i*11+j) .top=c.cells.getD j .top:=Wh (f:=Sd.cells) (k:=11) (fun _=>rfl) h hj
theorem T8 {l:List U9}{i:Nat}{c:U9}(h:l[i]?=some c) {j:Nat}(hj:j<3):(Lp l).getD (i*3+j) .top=c.cells.getD j .top:=Wh (f:=U9.cells) (k:=3) (fun _=>rfl) h hj
def Zk (a b:ByteArray):Bool:=Array.toList a.data==Array.toList b.data
def QO (nm:ByteArray):Nat->List U9->Option Nat
 |_,[]=>none
 |i,a::r=>if Zk a.nm nm=true then some i else QO nm (i+1) r
def Xh (o:Option Nat):List PV:=match o with|some i=>[.sc (.int .i64 (i:Int)),.sc (.bool true)]|none=>[.sc (.int .i64 0),.sc (.bool false)]
theorem KF {nm:ByteArray}:∀{l:List U9}{i k:Nat},QO nm i l=some k->i<=k∧k<i+l.length∧∃a,l[k-i]?=some a∧Zk a.nm nm=true
 |[],_,_,h=>by cases h
 |a::r,i,k,h=>by
  unfold QO at h;split at h
  ·rename_i ha;cases h;exact⟨Nat.le_refl _,by simp,a,by simp,ha⟩
  ·obtain⟨h1,h2,b,h3,h4⟩:=KF h;refine⟨by omega,by simp;omega,b,?_,h4⟩
   rw[show k-i=(k-(i+1))+1 by omega]
   exact h3
def pick:List (List Int)->List Sd->List (List Int)
 |s,[]=>s
 |s,c::r=>if c.sus=false∧s.length<4 then pick (s++[c.id]) r else pick s r
theorem Xe:∀{r:List Sd}{s:List (List Int)},s.length<=4->(pick s r).length<=4
 |[],_,h=>h
 |c::r,s,h=>by
  unfold pick;split
  ·exact Xe (by simp;omega)
  ·exact Xe h
def dec (key:Int):Nat->Nat->List (List Int)
 |_,0=>[]
 |i,k+1=>Kn key i 176::dec key (i+1) k
theorem LN (key:Int):∀(k i:Nat),(dec key i k).length=k
 |0,_=>rfl
 |k+1,i=>by show (_::dec key (i+1) k).length=_;rw[LI,LN key k]
def VQ (o:Option Nat)(l:List U9):List (List Int):=match o with|some i=>(match l[i]? with|some a=>pick [] a.cr|none=>[])|none=>[]
def VE (key:Int)(ids:List (List Int)):List (List Int):=ids++dec key 0 (4-ids.length)
def Ve (l:List U9)(secret:Int)(nm:ByteArray):List (List Int):=Fv [] (VE (Qi secret 20 (Dz nm)) (VQ (QO nm 0 l) l))
theorem SZ (o:Option Nat)(l:List U9):(VQ o l).length<=4:=by
 unfold VQ
 repeat' split
 ·exact Xe (by simp)
 all_goals simp
theorem TF {key:Int}{ids:List (List Int)} (h:ids.length<=4):(VE key ids).length=4:=by
 unfold VE;rw[MK,LN];omega
structure U9.ok (a:U9):Prop where
 cn:a.cr.length<=1000
 cs:∀c∈a.cr,c.ok
section
variable {fu d:Nat}
theorem QM {xs:FuncId->Option (List PV->Option Bc)} {n:Nat}{c:List PV}{s nm:ByteArray}{l:List U9}(hl:l.length<=100000):∀(r:List U9)(i nn:Nat),l.drop i=r->r.length<nn->i<=l.length ->
  F7 fu (Ag (CX xs) prog fu d) n c s nn nm l.length (Lp l) (l.length:Int) (i:Int)=some ⟨Xh (QO nm i r),[]⟩:=by
 intro r
 induction r with
 |nil=>
  intro i nn hd Eg hi;have:=drop_nil hd;obtain⟨nn,rfl⟩:∃k,nn=k+1:=⟨nn-1,by omega⟩
  rw[K8];simp (disch:=omega) only[En];rfl
 |cons a r ih=>
  intro i nn hd Eg hi;obtain⟨Bk,C3,hd'⟩:=D8 hd;obtain⟨nn,rfl⟩:∃k,nn=k+1:=⟨nn-1,by omega⟩
  rw[K8];have g0:(Lp l).getD (i*3) .top=.sc (.string a.nm):=T8 C3 (j:=0) (by omega)
  have g1:(Lp l).getD (i*3+1) .top=.sc (.string a.us):=T8 C3 (j:=1) (by omega)
  have g2:(Lp l).getD (i*3+1+1) .top=.lst false 11 a.cr.length (Sx a.cr):=T8 C3 (j:=2) (by omega)
  have n1:Int.toNat (i:Int)=i:=Uv _;have w1:wrap .i64 ((i:Int)+1)=((i+1:Nat):Int):=by rw[wrap_i64 (by omega) (by omega)];omega
  have eB:(Array.toList a.nm.data==Array.toList nm.data)=Zk a.nm nm:=rfl;unfold QO;cases h:Zk a.nm nm
  ·rw[Pz (by simp)]
   have q:=ih (i+1) nn hd' (by simp at Eg;omega) (by omega)
   rw[h] at eB;simp (disch:=omega) only[En,n1,g0,g1,g2,eB,w1,q]
  ·rw[Ni rfl];rw[h] at eB;simp (disch:=omega) only[En,n1,g0,g1,g2,eB,Xh]
theorem BL {xs:FuncId->Option (List PV->Option Bc)} {l:List U9}{nm:ByteArray}(hl:l.length<=100000)(hf:l.length<fu):Ag (CX xs) prog fu (d+1) N4 [.lst false 3 l.length (Lp l),.sc (.string nm)]=some ⟨Xh (QO nm 0 l),[]⟩:=by
 rw[Wr];exact QM hl l 0 fu rfl hf (by omega)
theorem IP {n:Nat}{c:List PV}{s nm:ByteArray}{l:List U9}(hl:l.length<=100000):∀(r:List U9)(i nn:Nat),l.drop i=r->r.length<nn->i<=l.length ->
  Ch fu (Ag C0 prog fu d) n c s nn l.length (Lp l) nm (i:Int)=some ⟨Xh (QO nm i r),[]⟩:=by
 intro r
 induction r with
 |nil=>
  intro i nn hd Eg hi;have:=drop_nil hd;obtain⟨nn,rfl⟩:∃k,nn=k+1:=⟨nn-1,by omega⟩
  rw[Ei];simp (disch:=omega) only[En];rfl
 |cons a r ih=>
  intro i nn hd Eg hi;obtain⟨Bk,C3,hd'⟩:=D8 hd;obtain⟨nn,rfl⟩:∃k,nn=k+1:=⟨nn-1,by omega⟩
  rw[Ei];have g0:(Lp l).getD (i*3+0) .top=.sc (.string a.nm):=T8 C3 (j:=0) (by omega)
  have n1:Int.toNat (i:Int)=i:=Uv _;have w1:wrap .i64 ((i:Int)+1)=((i+1:Nat):Int):=by rw[wrap_i64 (by omega) (by omega)];omega
  have eB:(Array.toList a.nm.data==Array.toList nm.data)=Zk a.nm nm:=rfl;unfold QO;cases h:Zk a.nm nm
  ·rw[Pz (by simp)]
   have q:=ih (i+1) nn hd' (by simp at Eg;omega) (by omega)
   rw[h] at eB;simp (disch:=omega) only[En,n1,g0,eB,w1,q]
  ·rw[Ni rfl];rw[h] at eB;simp (disch:=omega) only[En,n1,g0,eB,Xh]
theorem VM {l:List U9}{nm:ByteArray}(hl:l.length<=100000)(hf:l.length<fu):Ag C0 prog fu (d+1) Ff [.lst false 3 l.length (Lp l),.sc (.string nm)]=some ⟨Xh (QO nm 0 l),[]⟩:=by
 rw[Kg];exact IP hl l 0 fu rfl hf (by omega)
theorem Acz {L:List (List Int)} (hL:L.length=4)(Ef:100<=fu):Ag C0 prog fu (d+4) Eo [.tup [.own 1 4 (Cv L)],.sc (.func (.func 44) #[] #[])]=some ⟨[],[Cv (Fv [] L)]⟩:=by
 match L,hL with
 |[a,b,c,e],_=>exact VX Ef
theorem MS (Ef:1000<=fu){n:Nat}{c:List PV}{a1:Int}{a2:ByteArray}{key cnt:Int}:∀(k nn i:Nat)(ids:List (List Int)),ids.length+k=4->k<nn->(i:Int)+k=cnt->cnt<=4 ->
  Dk fu (Ag C0 prog fu (d+6)) n c a1 a2 nn ids.length key cnt (i:Int) (Cv ids)=some ⟨[.own 1 4 (Cv (Fv [] (ids++dec key i k)))],[]⟩:=by
 intro k
 induction k with
 |zero=>
  intro nn i ids h1 h2 h3 h4;obtain⟨nn,rfl⟩:∃k,nn=k+1:=⟨nn-1,by omega⟩
  rw[Im];have q:=Acz (fu:=fu) (d:=d+2) (L:=ids) (by omega) (by omega)
  have h4':ids.length=4:=by omega
  have lR':(Cv (Fv [] ids)).length=4:=by rw[G6,Lw,h4'];rfl
  have t:List.take 4 (Cv (Fv [] ids))=Cv (Fv [] ids):=J4 (by omega)
  rw[h4'];simp (disch:=omega) only[En,q,E8,t,dec,List.append_nil]
 |succ k ih=>
  intro nn i ids h1 h2 h3 h4;obtain⟨nn,rfl⟩:∃k,nn=k+1:=⟨nn-1,by omega⟩
  rw[Im];have w0:wrap .u64 (i:Int)=(i:Int):=Cj (by omega) (by omega)
  have w1:wrap .i64 ((i:Int)+1)=((i+1:Nat):Int):=by rw[wrap_i64 (by omega) (by omega)];omega
  have q:Ag C0 prog fu (d+6) Lg [.sc (.int .u64 key),.sc (.int .u64 (i:Int)),.sc (.int .i64 176)]=_:=YF (fu:=fu) (d:=d) Ef key (i:Int) (n:=176) (by omega)
  have lS:(At .u8 (Kn key (i:Int) 176)).length=176:=by rw[Aw,Gw]
  have tS:List.take 176 (At .u8 (Kn key (i:Int) 176))=At .u8 (Kn key (i:Int) 176):=J4 (by omega)
  have lI:=G6 ids;have tI:List.take ids.length (Cv ids)=Cv ids:=J4 (by omega)
  have r:=ih nn (i+1) (ids++[Kn key (i:Int) 176]) (by simp;omega) (by omega) (by omega) h4
  have lA:(ids++[Kn key (i:Int) 176]).length=ids.length+1:=by simp
  have eA:Cv ids++[PV.lst false 1 176 (At .u8 (Kn key (i:Int) 176))]=Cv (ids++[Kn key (i:Int) 176]):=by
   unfold Cv;rw[List.flatMap_append];simp[Gw]
  rw[lA,NS,List.singleton_append] at r;simp (disch:=omega) only[En,w0,w1,q,E8,I1,Hy,lS,tS,tI,eA,r];rfl
theorem YI (Ef:1000<=fu){n:Nat}{c:List PV}{a1:Int}{a2:ByteArray}{secret:Int}{nm:ByteArray}(Xp:nm.size<=500){cr:List Sd}(CI:cr.length<=1000)(Js:∀c∈cr,c.ok):∀(r:List Sd)(i nn:Nat)(ids:List (List Int)),cr.drop i=r->r.length<nn->i<=cr.length->ids.length<=4 ->
  Cw fu (Ag C0 prog fu (d+6)) n c a1 a2 nn secret nm ids.length cr.length (Sx cr) (cr.length:Int) (i:Int) (Cv ids)=some ⟨[.own 1 4 (Cv (Fv [] (VE (Qi secret 20 (Dz nm)) (pick ids r))))],[]⟩:=by
 intro r;have lN:=Me nm;have mc:=DI (xs:=E0) (fu:=fu) (d:=d+1) (l:=Dz nm) (Uf nm) (by omega) (by omega) (by omega) secret 20
 rw[lN] at mc;have sc:=Fd nm;have lS:(At .u8 (Dz nm)).length=nm.size:=by rw[Aw,lN]
 have tS:List.take nm.size (At .u8 (Dz nm))=At .u8 (Dz nm):=J4 (by omega)
 induction r with
 |nil=>
  intro i nn ids hd Eg hi h4;have:=drop_nil hd;obtain⟨nn,rfl⟩:∃k,nn=k+1:=⟨nn-1,by omega⟩
  rw[Iq];have q:=MS (fu:=fu) (d:=d) Ef (n:=n) (c:=c) (a1:=a1) (a2:=a2) (key:=Qi secret 20 (Dz nm)) (cnt:=4-(ids.length:Int)) (4-ids.length) fu 0 ids (by omega) (by omega) (by omega) (by omega)
  have w:wrap .i64 (4-(ids.length:Int))=4-(ids.length:Int):=wrap_i64 (by omega) (by omega)
  simp (disch:=omega) only[En,sc,lS,I1,E8,Hy,tS,mc,w];exact q
 |cons x r ih=>
  intro i nn ids hd Eg hi h4;obtain⟨Bk,C3,hd'⟩:=D8 hd;obtain⟨nn,rfl⟩:∃k,nn=k+1:=⟨nn-1,by omega⟩
  rw[Iq];have g0:(Sx cr).getD (i*11) .top=.lst false 1 x.id.length (At .u8 x.id):=Fs C3 (j:=0) (by omega)
  have g1:(Sx cr).getD (i*11+1) .top=.sc (.int .i64 x.ht):=Fs C3 (j:=1) (by omega)
  have g2:(Sx cr).getD (i*11+1+1) .top=.sc (.int .u64 x.root):=Fs C3 (j:=2) (by omega)
  have g3:(Sx cr).getD (i*11+1+1+1) .top=.sc (.int .u64 x.model):=Fs C3 (j:=3) (by omega)
  have g4:(Sx cr).getD (i*11+1+1+1+1) .top=.sc (.int .i64 x.fmt):=Fs C3 (j:=4) (by omega)
  have g5:(Sx cr).getD (i*11+1+1+1+1+1) .top=.sc (.bool x.sh):=Fs C3 (j:=5) (by omega)
  have g6:(Sx cr).getD (i*11+1+1+1+1+1+1) .top=.sc (.int .u64 x.used):=Fs C3 (j:=6) (by omega)
  have g7:(Sx cr).getD (i*11+1+1+1+1+1+1+1) .top=.lst false 2 x.rg.length (Kr x.rg):=Fs C3 (j:=7) (by omega)
  have g8:(Sx cr).getD (i*11+1+1+1+1+1+1+1+1) .top=.sc (.bool x.sus):=Fs C3 (j:=8) (by omega)
  have g9:(Sx cr).getD (i*11+1+1+1+1+1+1+1+1+1) .top=.sc (.int .i64 x.since):=Fs C3 (j:=9) (by omega)
  have g10:(Sx cr).getD (i*11+1+1+1+1+1+1+1+1+1+1) .top=.sc (.int .i64 x.last):=Fs C3 (j:=10) (by omega)
  have n1:Int.toNat (i:Int)=i:=Uv _;have w1:wrap .i64 ((i:Int)+1)=((i+1:Nat):Int):=by rw[wrap_i64 (by omega) (by omega)];omega
  have xk:=Js x (List.mem_of_getElem? C3);have cb:=Zu (xs:=E0) (fu:=fu) (d:=d+5) (Aw .u8 x.id) xk.idL;have lX:=Aw .u8 x.id;have tX:=XE .u8 x.id;have lI:=G6 ids;have tI:List.take ids.length (Cv ids)=Cv ids:=J4 (by omega)
  unfold pick;by_cases hs:x.sus=false
  ·have bT:∀a b:Option Bc,Cc (!x.sus) a b=a:=fun a b=>by rw[hs];rfl
   by_cases hl:ids.length<4
   ·rw[Ni ⟨hs,hl⟩];have r:=ih (i+1) nn (ids++[x.id]) hd' (by simp at Eg;omega) (by omega) (by simp;omega)
    have lA:(ids++[x.id]).length=ids.length+1:=by simp
    have eA:Cv ids++[PV.lst false 1 x.id.length (At .u8 x.id)]=Cv (ids++[x.id]):=by
     unfold Cv;rw[List.flatMap_append];rfl
    rw[lA] at r;simp (disch:=omega) only[En,n1,g0,g1,g2,g3,g4,g5,g6,g7,g8,g9,g10,bT,cb,I1,E8,Hy,lX,tX,tI,eA,w1,r]
   ·rw[Pz fun h=>hl h.2]
    have r:=ih (i+1) nn ids hd' (by simp at Eg;omega) (by omega) h4
    simp (disch:=omega) only[En,n1,g0,g1,g2,g3,g4,g5,g6,g7,g8,g9,g10,bT,w1,r]
  ·rw[Pz fun h=>hs h.1]
   have bF:∀a b:Option Bc,Cc (!x.sus) a b=b:=fun a b=>by rw[Bool.not_eq_false] at hs;rw[hs];rfl
   have r:=ih (i+1) nn ids hd' (by simp at Eg;omega) (by omega) h4
   simp (disch:=omega) only[En,n1,g0,g1,g2,g3,g4,g5,g6,g7,g8,g9,g10,bF,w1,r]
theorem Ww (Ef:2000<=fu){l:List U9}(hl:l.length<=1000)(Js:∀a∈l,a.ok)(secret:Int){nm:ByteArray}(Xp:nm.size<=500):
  Ag C0 prog fu (d+7) Gt [.lst false 3 l.length (Lp l),.sc (.int .u64 secret),.sc (.string nm)]=some ⟨[.own 1 4 (Cv (Ve l secret nm))],[]⟩:=by
 rw[Sp];have f:=BL (xs:=E0) (fu:=fu) (d:=d+5) (l:=l) (nm:=nm) (by omega) (by omega)
 unfold Ve;cases h:QO nm 0 l with
 |none=>
  rw[h] at f;have lN:=Me nm;have mc:=DI (xs:=E0) (fu:=fu) (d:=d+1) (l:=Dz nm) (Uf nm) (by omega) (by omega) (by omega) secret 20
  rw[lN] at mc;have sc:=Fd nm;have lS:(At .u8 (Dz nm)).length=nm.size:=by rw[Aw,lN]
  have tS:List.take nm.size (At .u8 (Dz nm))=At .u8 (Dz nm):=J4 (by omega)
  have q:=MS (fu:=fu) (d:=d) (by omega) (n:=l.length) (c:=Lp l) (a1:=secret) (a2:=nm) (key:=Qi secret 20 (Dz nm)) (cnt:=4) 4 fu 0 [] rfl (by omega) (by omega) (by omega)
  simp only[Xh] at f;simp (disch:=omega) only[En,f,sc,lS,I1,E8,Hy,tS,mc];exact q
 |some i=>
  rw[h] at f;obtain⟨_,h2,a,h3,_⟩:=KF h;rw[Nat.sub_zero] at h3;have g2:(Lp l).getD (i*3+2) .top=.lst false 11 a.cr.length (Sx a.cr):=T8 h3 (j:=2) (by omega)
  have n1:Int.toNat (i:Int)=i:=Uv _;have ak:=Js a (List.mem_of_getElem? h3);have q:=YI (fu:=fu) (d:=d) (by omega) (n:=l.length) (c:=Lp l) (a1:=secret) (a2:=nm) (secret:=secret) Xp ak.cn ak.cs a.cr 0 fu [] rfl (by have:=ak.cn;omega) (by omega) (by simp)
  simp only[Xh] at f;simp (disch:=omega) only[En,f,n1,g2];refine q.trans ?_;simp only[VQ,h3]
end
end
section
open Go.Proofs.Try (prog)
open Go.IntKind (wrap)
set_option maxRecDepth 100000
def N7:ByteArray:=ByteArray.mk #[(97:UInt8),(108:UInt8),(105:UInt8),(99:UInt8),(101:UInt8)]
def Ad7:ByteArray:=ByteArray.mk #[(98:UInt8),(111:UInt8),(98:UInt8)]
def uuN:ByteArray:=ByteArray.mk #[(117:UInt8)]
section
variable {fu d:Nat}
theorem TL (Ef:2000<=fu)(nm:ByteArray):Ag C0 prog fu (d+1) 18 [.lst false 3 0 [],.sc (.string nm)]=some ⟨[.sc (.int .i64 0),.sc (.bool false)],[]⟩:=BL (xs:=E0) (l:=[]) (nm:=nm) (by simp) (by simp;omega)
theorem NX (Ef:2000<=fu){n:Nat}{c:List PV}:Ag C0 prog fu (d+1) 35 [.lst false 3 0 [],.lst false 1 n c]=some ⟨[.sc (.int .i64 0),.sc (.int .i64 0),.sc (.bool false)],[]⟩:=by
 obtain⟨m,rfl⟩:∃m,fu=m+1:=⟨fu-1,by omega⟩
 rw[Vd (xs:=E0)];dsimp only;rw[Qm];rfl
theorem QH (Ef:2000<=fu):Ag C0 prog fu (d+1) 38 [.lst false 3 0 []]=some ⟨[.own 3 0 []],[]⟩:=by
 obtain⟨m,rfl⟩:∃m,fu=m+1:=⟨fu-1,by omega⟩
 rw[Nc (xs:=E0)];have w:wrap .i64 (((0:Nat):Int)+1)=1:=rfl;simp (disch:=omega) only[En,w];rw[Kl];rfl
theorem KN (Ef:2000<=fu){nm us:ByteArray}{c:Sd}(h1:1<=nm.size)(h2:nm.size<=32)(Ay:c.id.length=176)(hr:c.rg.length<=1000):
  Ag C0 prog fu (d+3) 15 [.lst false 3 0 [],.sc (.string nm),.sc (.string us),.agg c.cells]=some ⟨[.lst false 3 1 (Lp [⟨nm,us,[c]⟩]),.sc (.int .i64 0)],[]⟩:=by
 refine (Tl fu (d+2) nm us c.id.length (At .u8 c.id) c.ht c.root c.model c.fmt c.sh c.used c.rg.length (Kr c.rg) c.sus c.since c.last).trans ?_;have q1:=NX (fu:=fu) (d:=d+1) Ef (n:=c.id.length) (c:=At .u8 c.id);have q2:=TL (fu:=fu) (d:=d+1) Ef nm;have q3:=QH (fu:=fu) (d:=d+1) Ef;have q4:=Qa (xs:=E0) (fu:=fu) (d:=d) (c:=c) (by omega) (by omega)
 simp only[Sd.cells,Sd.ocells] at q4;have l1:=Aw .u8 c.id;have l2:=Ic c.rg;have t1:List.take (c.id.length*1) (At .u8 c.id)=At .u8 c.id:=J4 (by omega)
 have t2:List.take (c.rg.length*2) (Kr c.rg)=Kr c.rg:=J4 (by omega)
 have b1:((c.id.length:Int) != 176)=false:=by simp[Ay]
 have b2:(!false)=true:=rfl;simp (disch:=omega) only[En,b1,q1,q2,b2];rw[Pb (Eg:=by omega)]
 simp (disch:=omega) only[En,q3,q4,b2,t1,t2,Hy,Nat.zero_mul,List.take_zero,XX,I1];rfl
end
def aw1:Sd:={ sdE 1 2 with used:=2,rg:=[(0,1)],last:=7 }
def HW:Sd:={ sdE 1 2 with used:=10,rg:=[(0,1),(2,3)],last:=8 }
def aw4:Sd:={ HW with sus:=true }
theorem Af8:Vt (sdE 1 2) 1 0 7=(aw1,0):=rfl
theorem Ahb:Vt aw1 3 2 8=(HW,0):=rfl
theorem Agb:Vt HW 0 0 9=(HW,37):=rfl
theorem Afs:Vt HW 3 2 9=(aw4,37):=rfl
theorem Aeg:aw1.ok:=⟨(Wu 1 2).idB,(Wu 1 2).idL,by decide,by decide,by simp[aw1,Asc],by decide⟩
theorem IW:HW.ok:=⟨(Wu 1 2).idB,(Wu 1 2).idL,by decide,by decide,by simp[HW,Asc],by decide⟩
section
variable {fu d:Nat}
theorem UT (Ef:2000<=fu):Ag C0 prog fu (d+8) Io []=some ⟨[.sc (.bool true)],[]⟩:=by
 refine (Od fu (d+7)).trans ?_;have s:=PH (fu:=fu) (d:=d) (by omega) (k:=1) (by omega) (by omega) 2
 have q1:=O0 (fu:=fu) (d:=d+3) (Wu 1 2) Ef 1 0 7;have q2:=O0 (fu:=fu) (d:=d+3) Aeg Ef 3 2 8;have q3:=O0 (fu:=fu) (d:=d+3) IW Ef 0 0 9;have q4:=O0 (fu:=fu) (d:=d+3) IW Ef 3 2 9;rw[Af8] at q1;rw[Ahb] at q2;rw[Agb] at q3;rw[Afs] at q4;have i1:HW.id.length=176:=by show (Pf _ 176).length=176;rw[Pf,Gw]
 have q5:=KN (fu:=fu) (d:=d+4) Ef (nm:=N7) (us:=uuN) (c:=HW) (by decide) (by decide) i1 (by decide)
 have q6:=BL (xs:=E0) (fu:=fu) (d:=d+6) (l:=[⟨N7,uuN,[HW]⟩]) (nm:=N7) (by simp) (by simp;omega)
 have e6:QO N7 0 [⟨N7,uuN,[HW]⟩]=some 0:=rfl;rw[e6] at q6
 have q7:=Ww (fu:=fu) (d:=d) Ef (l:=[⟨N7,uuN,[HW]⟩]) (by simp) (by
  intro a ha;rw[List.mem_singleton] at ha;subst ha
  exact⟨by simp,by
   intro c hc;rw[List.mem_singleton] at hc;subst hc;exact IW⟩) 1 (nm:=Ad7) (by decide)
 have lL:([⟨N7,uuN,[HW]⟩]:List U9).length=1:=rfl;rw[lL] at q6 q7;simp only[Xh] at q6;generalize Lp [⟨N7,uuN,[HW]⟩]=A at q5 q6 q7;generalize Cv (Ve [⟨N7,uuN,[HW]⟩] 1 Ad7)=R at q7;simp only[Sd.cells,sdE,aw1,HW,aw4] at s q1 q2 q3 q4 q5;simp only[N7,uuN] at q5;simp only[N7] at q6;simp only[Ad7] at q7;generalize Pf (600+1) 176=id at *
 have e1:((0:Int)==0)=true:=rfl;have e2:((37:Int)==37)=true:=rfl;have e3:((10:Int)==10)=true:=rfl;have e4:((([(0,1),(2,3)]:List (Int × Int)).length:Int)==2)=true:=rfl;have e5:(((4:Nat):Int)==4)=true:=rfl;have e0:((0:Nat):Int)=0:=rfl;rw[e0] at q6;show Ex fu (Ag C0 prog fu (d+7)) fu=_;rw[Lr (Eg:=by omega)]
 simp only[En,s,q1];rw[Lt (Eg:=by omega)]
 simp only[En,q2];rw[Lz (Eg:=by omega)]
 simp only[En,q3];rw[L0 (Eg:=by omega)]
 simp only[En,q4];rw[Ma (Eg:=by omega)]
 simp only[En,q5];rw[Lu (Eg:=by omega)]
 simp only[En,q6];rw[L6 (Eg:=by omega)]
 simp only[En,e1,e2,e3,e4,e5,Bool.not_false,q7]
end
end
section
open Go.IntKind (wrap)
set_option maxRecDepth 100000
theorem Ac7 {k:IntKind}{l:List Int}{i:Nat}{y:Int}(h:i<l.length):A2 (At k l) [.sc (.int k y)] i=At k (l.set i y):=by
 have hl:=Aw k l;rw[Q0 (by omega),SC]
section
variable {fu d:Nat}
end
end
section
open Go.Proofs.Try (prog)
open Go.IntKind (wrap)
set_option maxRecDepth 100000
abbrev E5:FuncId:=7
theorem Jt (fu d:Nat)(a0:Int)(a1:ByteArray):Ag C0 prog fu (d+1) E5 [.sc (.int .u64 a0),.sc (.string a1)]=(fun (call:Ah)=>Cc (decide ((↑(ByteArray.size a1):Int)>200)) (Aq (call 9 []) fun x1 x2=>Ai x2<|Ab x1 fun x3 x4=>Bb x3 fun x5=>Ai x4<|some (Bc.mk [.sc (.bool x5)] [])) (Aq (call 24 [.sc (.int .u64 a0),.sc (.string a1)]) fun x6 x7=>Ai x7<|Ab x6 fun x8 x9=>Et x8 fun Ix=>Ai x9<|Aq (call 25 [.sc (.int .u64 a0),.sc (.string a1)]) fun Ij Id=>Ai Id<|Ab Ij fun Ln Lj=>Et Ln fun Ll=>Ai Lj<|Cc (Array.toList (ByteArray.data Ix)==Array.toList (ByteArray.data Ll)) (Cc ((↑(ByteArray.size Ix):Int)==16) (Aq (call 17 [.lst false 3 0 [],.sc (.int .u64 a0),.sc (.string a1)]) fun Pn Qu=>Ai Qu<|Ab Pn fun Nn Hg=>Ml 1 Nn fun Px P8=>Ai Hg<|Aq (call 27 [.lst false 3 0 [],.sc (.int .u64 a0),.sc (.string a1)]) fun Rh R6=>Ai R6<|Ab Rh fun Jy Vs=>Ml 1 Jy fun Tz Qk=>Ai Vs<|Ao (decide (0+Px*1<=P8.length))<|Ao (decide (0+Tz*1<=Qk.length))<|Aq (call 26 [.lst false 1 Px (List.take (Px*1) (List.drop 0 P8)),.lst false 1 Tz (List.take (Tz*1) (List.drop 0 Qk))]) fun CM BW=>Ai BW<|Ab CM fun Pa Q9=>Bb Pa fun Yu=>Ai Q9<|Cc Yu (Aq (call 9 []) fun X4 Uo=>Ai Uo<|Ab X4 fun Yw Wg=>Bb Yw fun S0=>Ai Wg<|some (Bc.mk [.sc (.bool S0)] [])) (some (Bc.mk [.sc (.bool false)] []))) (some (Bc.mk [.sc (.bool false)] []))) (some (Bc.mk [.sc (.bool false)] [])))) (Ag C0 prog fu d):=by kernel_rfl
end
section
open Go.Proofs.Try (prog)
open Go.IntKind (wrap)
set_option maxRecDepth 100000
def HI (k:Int):Int:=if k<10 then 48+k else 87+k
def ZQ:ByteArray:=ByteArray.mk #[(48:UInt8),(49:UInt8),(50:UInt8),(51:UInt8),(52:UInt8),(53:UInt8),(54:UInt8),(55:UInt8),(56:UInt8),(57:UInt8),(97:UInt8),(98:UInt8),(99:UInt8),(100:UInt8),(101:UInt8),(102:UInt8)]
theorem AF {k:Int}(h0:0<=k)(h1:k<=15):k=0∨k=1∨k=2∨k=3∨k=4∨k=5∨k=6∨k=7∨k=8∨k=9∨k=10∨k=11∨k=12∨k=13∨k=14∨k=15:=by omega
theorem Adi {k:Int}(h0:0<=k)(h1:k<=15):∃u:UInt8,(Array.toList (ByteArray.data ZQ))[k.toNat]?=some u∧(u.toNat:Int)=HI k:=by
 rcases AF h0 h1 with rfl|rfl|rfl|rfl|rfl|rfl|rfl|rfl|rfl|rfl|rfl|rfl|rfl|rfl|rfl|rfl<;>exact⟨_,rfl,rfl⟩
theorem Acx {k:Int}(h0:0<=k)(h1:k<=15):ByteArray.extract ZQ k.toNat (k+1).toNat=Bg [HI k]:=by
 rcases AF h0 h1 with rfl|rfl|rfl|rfl|rfl|rfl|rfl|rfl|rfl|rfl|rfl|rfl|rfl|rfl|rfl|rfl<;>rfl
theorem Ag7 {k:Int}(h0:0<=k)(h1:k<=15):0<=HI k∧HI k<=255:=by
 unfold HI;split<;>omega
def Vg (w:Int):Nat->Nat->List Int
 |_,0=>[]
 |i,k+1=>HI (Uc .u64 (Pp .u64 w (60-4*(i:Int))) 15)::Vg w (i+1) k
def SW (secret:Int)(nm:ByteArray):ByteArray:=Bg (Vg (Qi secret 19 (Dz nm)) 0 16)
theorem RX (a:Int):0<=Uc .u64 a 15∧Uc .u64 a 15<=15:=by
 have Tn:(BitVec.ofInt 64 a &&& BitVec.ofInt 64 15).toNat<=15:=by
  rw[BitVec.toNat_and];exact Nat.and_le_right
 have e:Uc .u64 a 15=((BitVec.ofInt 64 a &&& BitVec.ofInt 64 15).toNat:Int):=by
  show wrap .u64 ((BitVec.ofInt 64 a &&& BitVec.ofInt 64 15).toNat:Int)=_;exact Cj (by omega) (by omega)
 rw[e];omega
theorem ME {x:Int}(h:0<=x∧x<=255):Ny [x]:=by
 intro y hy;rw[List.mem_singleton] at hy;subst hy;omega
section
variable {fu d:Nat}
theorem VG {a0:Int}{a1:ByteArray}{call:Ah}{w:Int}:∀(k i nn:Nat)(l:List Int),i+k=16->k<nn->l.length=i ->
  Ga fu call a0 a1 nn w (i:Int) (At .u8 (l++List.replicate k 0))=some ⟨[.sc (.string (Bg (l++Vg w i k)))],[]⟩:=by
 intro k
 induction k with
 |zero=>
  intro i nn l h1 h2 h3;obtain⟨nn,rfl⟩:∃k,nn=k+1:=⟨nn-1,by omega⟩
  rw[K1,List.replicate_zero,List.append_nil,Vg,List.append_nil];have L:=Aw .u8 l;have t:List.take 16 (At .u8 l)=At .u8 l:=J4 (by omega)
  have bb:=Gm l
  try unfold Aa
  repeat first
   |((with_reducible first|apply C6|apply B3|apply C2|apply Ct|apply D2|apply Ek|apply F6|apply D1|apply B5|apply C7|apply C8);· first|with_reducible rfl|(simp (disch:=omega) only[gT,Hy,t,L,bb]<;>first|with_reducible rfl|omega)|omega)
   |(with_reducible apply Cz;· first|with_reducible rfl|(simp (disch:=omega) only[gF,Hy,t,L,bb]<;>omega))
  try simp (disch:=omega) only[Hy,t,L,bb]
  rfl
 |succ k ih=>
  intro i nn l h1 h2 h3;obtain⟨nn,rfl⟩:∃k,nn=k+1:=⟨nn-1,by omega⟩
  rw[K1];have n1:Int.toNat (i:Int)=i:=Uv _;have w1:wrap .i64 ((i:Int)+1)=((i+1:Nat):Int):=by rw[wrap_i64 (by omega) (by omega)];omega
  have w2:wrap .i64 (4*(i:Int))=4*(i:Int):=wrap_i64 (by omega) (by omega)
  have w3:wrap .i64 (60-4*(i:Int))=60-4*(i:Int):=wrap_i64 (by omega) (by omega)
  have b:=RX (Pp .u64 w (60-4*(i:Int)));unfold Vg;obtain⟨v,hv⟩:∃v,Uc .u64 (Pp .u64 w (60-4*(i:Int))) 15=v:=⟨_,rfl⟩;rw[hv] at b ⊢;obtain⟨u,hu,hu2⟩:=Adi b.1 b.2;have L:=Aw .u8 (l++List.replicate (k+1) 0);have L2:(l++List.replicate (k+1) (0:Int)).length=16:=by simp;omega
  have s:=Ac7 (k:=.u8) (l:=l++List.replicate (k+1) 0) (i:=i) (y:=HI v) (by omega)
  have eS:(l++List.replicate (k+1) (0:Int)).set i (HI v)=(l++[HI v])++List.replicate k 0:=by
   rw[List.set_append_right _ _ (by omega),h3,Nat.sub_self,List.replicate_succ,List.set_cons_zero,NS];rfl
  rw[eS] at s;have q:=ih (i+1) nn (l++[HI v]) (by omega) (by omega) (by simp;omega)
  have eR:(l++[HI v])++Vg w (i+1) k=l++HI v::Vg w (i+1) k:=by simp
  rw[eR] at q;have F5:([48,49,50,51,52,53,54,55,56,57,97,98,99,100,101,102]:List UInt8)[v.toNat]?=some u:=hu;unfold ZQ at hu
  try unfold Aa
  repeat first
   |((with_reducible first|apply C6|apply B3|apply C2|apply Ct|apply D2|apply Ek|apply F6|apply D1|apply B5|apply C7|apply C8);· first|with_reducible rfl|(simp (disch:=omega) only[gT,w1,w2,w3,hv,n1,hu,F5,hu2,L,L2,I1,E8,s,q]<;>first|with_reducible rfl|omega)|omega)
   |(with_reducible apply Cz;· first|with_reducible rfl|(simp (disch:=omega) only[gF,w1,w2,w3,hv,n1,hu,F5,hu2,L,L2,I1,E8,s,q]<;>omega))
  try simp (disch:=omega) only[w1,w2,w3,hv,n1,hu,F5,hu2,L,L2,I1,E8,s,q]
theorem Aag (Ef:1000<=fu)(secret:Int){nm:ByteArray}(Xp:nm.size<=500):Ag C0 prog fu (d+6) N0 [.sc (.int .u64 secret),.sc (.string nm)]=some ⟨[.sc (.string (SW secret nm))],[]⟩:=by
 rw[X3];have lN:=Me nm;have mc:=DI (xs:=E0) (fu:=fu) (d:=d) (l:=Dz nm) (Uf nm) (by omega) (by omega) (by omega) secret 19
 rw[lN] at mc;have sc:=Fd nm;have lS:(At .u8 (Dz nm)).length=nm.size:=by rw[Aw,lN]
 have tS:List.take nm.size (At .u8 (Dz nm))=At .u8 (Dz nm):=J4 (by omega)
 have q:=VG (fu:=fu) (a0:=secret) (a1:=nm) (call:=Ag C0 prog fu (d+5)) (w:=Qi secret 19 (Dz nm)) 16 0 fu [] rfl (by omega) rfl
 try unfold Aa
 repeat first
  |((with_reducible first|apply C6|apply B3|apply C2|apply Ct|apply D2|apply Ek|apply F6|apply D1|apply B5|apply C7|apply C8);· first|with_reducible rfl|(simp (disch:=omega) only[gT,sc,lS,I1,E8,Hy,tS,mc]<;>first|with_reducible rfl|omega)|omega)
  |(with_reducible apply Cz;· first|with_reducible rfl|(simp (disch:=omega) only[gF,sc,lS,I1,E8,Hy,tS,mc]<;>omega))
 try simp (disch:=omega) only[sc,lS,I1,E8,Hy,tS,mc]
 exact q
theorem OB {a0:Int}{a1:ByteArray}{call:Ah}{w:Int}:∀(k i nn:Nat)(l:List Int),i+k=16->k<nn->l.length=i->Ny l ->
  Dx fu call a0 a1 nn w (Bg l) (60-4*(i:Int))=some ⟨[.sc (.string (Bg (l++Vg w i k)))],[]⟩:=by
 intro k
 induction k with
 |zero=>
  intro i nn l h1 h2 h3 h4;obtain⟨nn,rfl⟩:∃k,nn=k+1:=⟨nn-1,by omega⟩
  rw[G2,Vg,List.append_nil]
  try unfold Aa
  repeat first
   |((with_reducible first|apply C6|apply B3|apply C2|apply Ct|apply D2|apply Ek|apply F6|apply D1|apply B5|apply C7|apply C8);· first|with_reducible rfl|(simp (disch:=omega) only[gT,Ni]<;>first|with_reducible rfl|omega)|omega)
   |(with_reducible apply Cz;· first|with_reducible rfl|(simp (disch:=omega) only[gF,Ni]<;>omega))
  try simp (disch:=omega) only[Ni]
 |succ k ih=>
  intro i nn l h1 h2 h3 h4;obtain⟨nn,rfl⟩:∃k,nn=k+1:=⟨nn-1,by omega⟩
  rw[G2];have w2:wrap .u64 (60-4*(i:Int))=60-4*(i:Int):=Cj (by omega) (by omega)
  have w3:wrap .i64 (60-4*(i:Int)-4)=60-4*((i+1:Nat):Int):=by rw[wrap_i64 (by omega) (by omega)];omega
  have b:=RX (Pp .u64 w (60-4*(i:Int)));unfold Vg;obtain⟨v,hv⟩:∃v,Uc .u64 (Pp .u64 w (60-4*(i:Int))) 15=v:=⟨_,rfl⟩;rw[hv] at b ⊢;have hx:=Acx b.1 b.2;have hB:=Ag7 b.1 b.2;have w4:wrap .u64 (v+1)=v+1:=Cj (by omega) (by omega)
  have ap:Bg l++Bg [HI v]=Bg (l++[HI v]):=by rw[GV,Rg (ME hB)]
  have z1:=Jp l;have z2:=Jp [HI v];have z3:[HI v].length=1:=rfl;have q:=ih (i+1) nn (l++[HI v]) (by omega) (by omega) (by simp;omega) (MT h4 (ME hB))
  rw[NS,List.singleton_append] at q;unfold ZQ at hx;have c1:(decide (Int.toNat v<=Int.toNat (v+1))&&decide (Int.toNat (v+1)<=16))=true:=by simp;omega
  try unfold Aa
  repeat first
   |((with_reducible first|apply C6|apply B3|apply C2|apply Ct|apply D2|apply Ek|apply F6|apply D1|apply B5|apply C7|apply C8);· first|with_reducible rfl|(simp (disch:=omega) only[gT,w2,w3,hv,w4,c1,hx,ap,z1,z2,z3,q]<;>first|with_reducible rfl|omega)|omega)
   |(with_reducible apply Cz;· first|with_reducible rfl|(simp (disch:=omega) only[gF,w2,w3,hv,w4,c1,hx,ap,z1,z2,z3,q]<;>omega))
  try simp (disch:=omega) only[w2,w3,hv,w4,c1,hx,ap,z1,z2,z3,q]
theorem RQ (Ef:1000<=fu)(secret:Int){nm:ByteArray}(Xp:nm.size<=500):Ag C0 prog fu (d+6) Jg [.sc (.int .u64 secret),.sc (.string nm)]=some ⟨[.sc (.string (SW secret nm))],[]⟩:=by
 rw[Pu];have lN:=Me nm;have mc:=Vy (xs:=E0) (fu:=fu) (d:=d+1) (l:=Dz nm) (Uf nm) (by omega) (by omega) (by omega) secret 19
 rw[lN] at mc;have sc:=Fd nm;have lS:(At .u8 (Dz nm)).length=nm.size:=by rw[Aw,lN]
 have tS:List.take nm.size (At .u8 (Dz nm))=At .u8 (Dz nm):=J4 (by omega)
 have q:=OB (fu:=fu) (a0:=secret) (a1:=nm) (call:=Ag C0 prog fu (d+5)) (w:=Qi secret 19 (Dz nm)) 16 0 fu [] rfl (by omega) rfl (fun x hx=>by cases hx)
 try unfold Aa
 repeat first
  |((with_reducible first|apply C6|apply B3|apply C2|apply Ct|apply D2|apply Ek|apply F6|apply D1|apply B5|apply C7|apply C8);· first|with_reducible rfl|(simp (disch:=omega) only[gT,sc,lS,I1,E8,Hy,tS,mc]<;>first|with_reducible rfl|omega)|omega)
  |(with_reducible apply Cz;· first|with_reducible rfl|(simp (disch:=omega) only[gF,sc,lS,I1,E8,Hy,tS,mc]<;>omega))
 try simp (disch:=omega) only[sc,lS,I1,E8,Hy,tS,mc]
 exact q
theorem ET (s:List (List Int)):∀(l m:List (List Int)),Fv s (l++m)=Fv (Fv s l) m
 |l,m=>by
  induction l generalizing s with
  |nil=>rfl
  |cons x l ih=>exact ih (Qf x s)
theorem Aae {n:Nat}{c:List PV}{a1:Int}{a2:ByteArray}{call:Ah}{L:List (List Int)} (hL:L.length<=1000)(hB:∀x∈L,Ny x∧x.length<=1000000):∀(r:List (List Int)) (i nn:Nat),L.drop i=r->r.length<nn->i<=L.length ->
  Db fu call n c a1 a2 nn L.length i (i:Int) (Ea L) (Cv (L.take i))=some ⟨[.own 1 L.length (Cv L)],[]⟩:=by
 intro r
 induction r with
 |nil=>
  intro i nn hd Eg hi;have Yq:i=L.length:=by have:=drop_nil hd;omega
  obtain⟨nn,rfl⟩:∃k,nn=k+1:=⟨nn-1,by omega⟩
  rw[Fl];have e:L.take i=L:=J4 (by omega)
  have l1:=G6 L;have t:List.take i (Cv L)=Cv L:=J4 (by omega)
  rw[e]
  try unfold Aa
  repeat first
   |((with_reducible first|apply C6|apply B3|apply C2|apply Ct|apply D2|apply Ek|apply F6|apply D1|apply B5|apply C7|apply C8);· first|with_reducible rfl|(simp (disch:=omega) only[gT,E8,l1,t]<;>first|with_reducible rfl|omega)|omega)
   |(with_reducible apply Cz;· first|with_reducible rfl|(simp (disch:=omega) only[gF,E8,l1,t]<;>omega))
  try simp (disch:=omega) only[E8,l1,t]
  rw[Yq]
 |cons x r ih=>
  intro i nn hd Eg hi;obtain⟨Bk,C3,hd'⟩:=D8 hd;obtain⟨nn,rfl⟩:∃k,nn=k+1:=⟨nn-1,by omega⟩
  rw[Fl];have n1:Int.toNat (i:Int)=i:=Uv _;have w1:wrap .i64 ((i:Int)+1)=((i+1:Nat):Int):=by rw[wrap_i64 (by omega) (by omega)];omega
  have ax:=LT C3;obtain⟨xB,xL⟩:=hB x (List.mem_of_getElem? C3);have z1:=Jp x;have sc:=Fd (Bg x);rw[Rg xB] at sc;have lX:=Aw .u8 x;have tX:=XE .u8 x;have lT:=G6 (L.take i);have lT2:(L.take i).length=i:=by rw[List.length_take];omega
  have tT:List.take i (Cv (L.take i))=Cv (L.take i):=J4 (by omega)
  have tk:L.take (i+1)=L.take i++[x]:=by rw[List.take_add_one,C3];rfl
  have eA:Cv (L.take i)++[PV.lst false 1 x.length (At .u8 x)]=Cv (L.take (i+1)):=by
   rw[tk];unfold Cv;rw[List.flatMap_append];rfl
  have q:=ih (i+1) nn hd' (by simp at Eg;omega) (by omega)
  have c1:(decide (i<=i)&&true&&decide ((i+1)*24<=1099511627776)&&decide (i+1<=1099511627776))=true:=by simp;omega
  try unfold Aa
  repeat first
   |((with_reducible first|apply C6|apply B3|apply C2|apply Ct|apply D2|apply Ek|apply F6|apply D1|apply B5|apply C7|apply C8);· first|with_reducible rfl|(simp (disch:=omega) only[gT,n1,E8,I1,ax,z1,sc,lX,lT,lT2,c1,Hy,tX,tT,eA,w1,q]<;>first|with_reducible rfl|omega)|omega)
   |(with_reducible apply Cz;· first|with_reducible rfl|(simp (disch:=omega) only[gF,n1,E8,I1,ax,z1,sc,lX,lT,lT2,c1,Hy,tX,tT,eA,w1,q]<;>omega))
  try simp (disch:=omega) only[n1,E8,I1,ax,z1,sc,lX,lT,lT2,c1,Hy,tX,tT,eA,w1,q]
theorem LK (Ef:1000<=fu){n:Nat}{c:List PV}{a1:Int}{a2:ByteArray}{key:Int}:∀(k nn i:Nat)(L:List (List Int)),L.length+k=4->k<nn->(∀x∈L,Ny x∧x.length<=1000000)->i+k<=4 ->
  Ce fu (Ag C0 prog fu (d+5)) n c a1 a2 nn L.length key (i:Int) (Ea L)=some ⟨[.own 1 4 (Cv (Fv L (dec key i k)))],[]⟩:=by
 intro k
 induction k with
 |zero=>
  intro nn i L h1 h2 h3 h4;obtain⟨nn,rfl⟩:∃k,nn=k+1:=⟨nn-1,by omega⟩
  rw[Fo];have q:=Aae (fu:=fu) (n:=n) (c:=c) (a1:=a1) (a2:=a2) (call:=Ag C0 prog fu (d+5)) (L:=L) (by omega) h3 L 0 fu rfl (by omega) (by omega)
  have e4:L.length=4:=by omega
  rw[e4] at q ⊢
  try unfold Aa
  repeat first
   |((with_reducible first|apply C6|apply B3|apply C2|apply Ct|apply D2|apply Ek|apply F6|apply D1|apply B5|apply C7|apply C8);· first|with_reducible rfl|(simp (disch:=omega) only[gT,e4]<;>first|with_reducible rfl|omega)|omega)
   |(with_reducible apply Cz;· first|with_reducible rfl|(simp (disch:=omega) only[gF,e4]<;>omega))
  try simp (disch:=omega) only[e4]
  exact q
 |succ k ih=>
  intro nn i L h1 h2 h3 h4;obtain⟨nn,rfl⟩:∃k,nn=k+1:=⟨nn-1,by omega⟩
  rw[Fo];have st:Ag C0 prog fu (d+5) Fe [.sc (.int .u64 key),.sc (.int .u64 (i:Int)),.sc (.int .i64 176)]=_:=FI (fu:=fu) (d:=d) Ef key (i:Int) (n:=176) (by omega)
  have lS:(At .u8 (Kn key (i:Int) 176)).length=176:=by rw[Aw,Gw]
  have tS:List.take 176 (At .u8 (Kn key (i:Int) 176))=At .u8 (Kn key (i:Int) 176):=J4 (by omega)
  have bb:=Gm (Kn key (i:Int) 176);have lR:=Iw L;have tR:List.take L.length (Ea L)=Ea L:=J4 (by omega)
  have is:Ag C0 prog fu (d+5) Do [.lst false 1 L.length (Ea L),.sc (.string (ByteArray.mk (List.toArray (List.map (fun n:Int=>n.toNat.toUInt8) (Kn key (i:Int) 176)))))]=_:=LG (fu:=fu) (d:=d+4) (x:=Kn key (i:Int) 176) (L:=L) (by omega) (by omega)
  have w1:wrap .u64 ((i:Int)+1)=((i+1:Nat):Int):=by rw[Cj (by omega) (by omega)];omega
  have q:=ih nn (i+1) (Qf (Kn key (i:Int) 176) L) (by rw[Ov];omega) (by omega) (fun x hx=>by
   rcases V5.1 hx with rfl|hx
   ·exact⟨UF _ _ _,by rw[Gw];omega⟩
   ·exact h3 x hx) (by omega)
  rw[Ov] at q
  try unfold Aa
  repeat first
   |((with_reducible first|apply C6|apply B3|apply C2|apply Ct|apply D2|apply Ek|apply F6|apply D1|apply B5|apply C7|apply C8);· first|with_reducible rfl|(simp (disch:=omega) only[gT,st,lS,I1,E8,Hy,tS,bb,lR,tR,is,w1,q]<;>first|with_reducible rfl|omega)|omega)
   |(with_reducible apply Cz;· first|with_reducible rfl|(simp (disch:=omega) only[gF,st,lS,I1,E8,Hy,tS,bb,lR,tR,is,w1,q]<;>omega))
  try simp (disch:=omega) only[st,lS,I1,E8,Hy,tS,bb,lR,tR,is,w1,q]
  all_goals rfl
theorem XN (Ef:1000<=fu){n:Nat}{c:List PV}{a1:Int}{a2:ByteArray}{secret:Int}{nm:ByteArray}(Xp:nm.size<=500){l:List U9}{ix:Nat}{a:U9}(ha:l[ix]?=some a) (CI:a.cr.length<=1000)(Js:∀c∈a.cr,c.ok):∀(r:List Sd)(i nn:Nat)(ids:List (List Int)),a.cr.drop i=r->r.length<nn->i<=a.cr.length->ids.length<=4->(∀x∈ids,Ny x∧x.length<=1000000) ->
  Bw fu (Ag C0 prog fu (d+5)) n c a1 a2 nn l.length (Lp l) secret nm ids.length (ix:Int) (i:Int) (Ea (Fv [] ids))=some ⟨[.own 1 4 (Cv (Fv [] (VE (Qi secret 20 (Dz nm)) (pick ids r))))],[]⟩:=by
 intro r;have lN:=Me nm;have mc:=Vy (xs:=E0) (fu:=fu) (d:=d+1) (l:=Dz nm) (Uf nm) (by omega) (by omega) (by omega) secret 20
 rw[lN] at mc;have sc:=Fd nm;have lS:(At .u8 (Dz nm)).length=nm.size:=by rw[Aw,lN]
 have tS:List.take nm.size (At .u8 (Dz nm))=At .u8 (Dz nm):=J4 (by omega)
 have hix:=Ke ha;have g2:(Lp l).getD (ix*3+2) .top=.lst false 11 a.cr.length (Sx a.cr):=T8 ha (j:=2) (by omega)
 have n2:Int.toNat (ix:Int)=ix:=Uv _
 induction r with
 |nil=>
  intro i nn ids hd Eg hi h4 hB;have:=drop_nil hd;obtain⟨nn,rfl⟩:∃k,nn=k+1:=⟨nn-1,by omega⟩
  rw[Fm];have q:=LK (fu:=fu) (d:=d) Ef (n:=n) (c:=c) (a1:=a1) (a2:=a2) (key:=Qi secret 20 (Dz nm)) (4-ids.length) fu 0 (Fv [] ids) (by rw[Lw];simp;omega) (by omega) (fun x hx=>hB x (by have:=EP.1 hx;simpa using this)) (by omega)
  have e0:((0:Nat):Int)=0:=rfl;rw[Lw,YN,I1,←ET,e0] at q
  try unfold Aa
  repeat first
   |((with_reducible first|apply C6|apply B3|apply C2|apply Ct|apply D2|apply Ek|apply F6|apply D1|apply B5|apply C7|apply C8);· first|with_reducible rfl|(simp (disch:=omega) only[gT,n2,g2,sc,lS,I1,E8,Hy,tS,mc]<;>first|with_reducible rfl|omega)|omega)
   |(with_reducible apply Cz;· first|with_reducible rfl|(simp (disch:=omega) only[gF,n2,g2,sc,lS,I1,E8,Hy,tS,mc]<;>omega))
  try simp (disch:=omega) only[n2,g2,sc,lS,I1,E8,Hy,tS,mc]
  exact q
 |cons x r ih=>
  intro i nn ids hd Eg hi h4 hB;obtain⟨Bk,C3,hd'⟩:=D8 hd;obtain⟨nn,rfl⟩:∃k,nn=k+1:=⟨nn-1,by omega⟩
  rw[Fm];have g0:(Sx a.cr).getD (i*11) .top=.lst false 1 x.id.length (At .u8 x.id):=Fs C3 (j:=0) (by omega)
  have g1:(Sx a.cr).getD (i*11+1) .top=.sc (.int .i64 x.ht):=Fs C3 (j:=1) (by omega)
  have g2':(Sx a.cr).getD (i*11+1+1) .top=.sc (.int .u64 x.root):=Fs C3 (j:=2) (by omega)
  have g3:(Sx a.cr).getD (i*11+1+1+1) .top=.sc (.int .u64 x.model):=Fs C3 (j:=3) (by omega)
  have g4:(Sx a.cr).getD (i*11+1+1+1+1) .top=.sc (.int .i64 x.fmt):=Fs C3 (j:=4) (by omega)
  have g5:(Sx a.cr).getD (i*11+1+1+1+1+1) .top=.sc (.bool x.sh):=Fs C3 (j:=5) (by omega)
  have g6:(Sx a.cr).getD (i*11+1+1+1+1+1+1) .top=.sc (.int .u64 x.used):=Fs C3 (j:=6) (by omega)
  have g7:(Sx a.cr).getD (i*11+1+1+1+1+1+1+1) .top=.lst false 2 x.rg.length (Kr x.rg):=Fs C3 (j:=7) (by omega)
  have g8:(Sx a.cr).getD (i*11+1+1+1+1+1+1+1+1) .top=.sc (.bool x.sus):=Fs C3 (j:=8) (by omega)
  have g9:(Sx a.cr).getD (i*11+1+1+1+1+1+1+1+1+1) .top=.sc (.int .i64 x.since):=Fs C3 (j:=9) (by omega)
  have g10:(Sx a.cr).getD (i*11+1+1+1+1+1+1+1+1+1+1) .top=.sc (.int .i64 x.last):=Fs C3 (j:=10) (by omega)
  have n1:Int.toNat (i:Int)=i:=Uv _;have w1:wrap .i64 ((i:Int)+1)=((i+1:Nat):Int):=by rw[wrap_i64 (by omega) (by omega)];omega
  have xk:=Js x (List.mem_of_getElem? C3);have lX:=Aw .u8 x.id;have bb:=Gm x.id;have lI:(Fv [] ids).length=ids.length:=by rw[Lw];simp
  have lR:=Iw (Fv [] ids);have tR:List.take ids.length (Ea (Fv [] ids))=Ea (Fv [] ids):=J4 (by omega)
  have is:Ag C0 prog fu (d+5) Do [.lst false 1 (Fv [] ids).length (Ea (Fv [] ids)),.sc (.string (ByteArray.mk (List.toArray (List.map (fun n:Int=>n.toNat.toUInt8) x.id))))]=_:=LG (fu:=fu) (d:=d+4) (x:=x.id) (L:=Fv [] ids) (by omega) (by omega)
  rw[lI] at is;unfold pick;by_cases hs:x.sus=false
  ·by_cases hl:ids.length<4
   ·rw[Ni ⟨hs,hl⟩]
    have q:=ih (i+1) nn (ids++[x.id]) hd' (by simp at Eg;omega) (by omega) (by simp;omega) (fun y hy=>by
     rcases List.mem_append.1 hy with hy|hy
     ·exact hB y hy
     ·rw[List.mem_singleton] at hy;subst hy;exact⟨xk.idB,xk.idL⟩)
    have lA:(ids++[x.id]).length=ids.length+1:=by simp
    have eA:Fv [] (ids++[x.id])=Qf x.id (Fv [] ids):=by rw[ET];rfl
    rw[lA,eA] at q
    try unfold Aa
    repeat first
     |((with_reducible first|apply C6|apply B3|apply C2|apply Ct|apply D2|apply Ek|apply F6|apply D1|apply B5|apply C7|apply C8);· first|with_reducible rfl|(simp (disch:=omega) only[gT,n2,g2,n1,g0,g1,g2',g3,g4,g5,g6,g7,g8,g9,g10,hs,Bool.not_false,lX,bb,lR,lI,I1,E8,Hy,tR,is,w1,q]<;>first|with_reducible rfl|omega)|omega)
     |(with_reducible apply Cz;· first|with_reducible rfl|(simp (disch:=omega) only[gF,n2,g2,n1,g0,g1,g2',g3,g4,g5,g6,g7,g8,g9,g10,hs,Bool.not_false,lX,bb,lR,lI,I1,E8,Hy,tR,is,w1,q]<;>omega))
    try simp (disch:=omega) only[n2,g2,n1,g0,g1,g2',g3,g4,g5,g6,g7,g8,g9,g10,hs,Bool.not_false,lX,bb,lR,lI,I1,E8,Hy,tR,is,w1,q]
   ·rw[Pz fun h=>hl h.2]
    have q:=ih (i+1) nn ids hd' (by simp at Eg;omega) (by omega) h4 hB
    try unfold Aa
    repeat first
     |((with_reducible first|apply C6|apply B3|apply C2|apply Ct|apply D2|apply Ek|apply F6|apply D1|apply B5|apply C7|apply C8);· first|with_reducible rfl|(simp (disch:=omega) only[gT,n2,g2,n1,g0,g1,g2',g3,g4,g5,g6,g7,g8,g9,g10,hs,Bool.not_false,w1,q]<;>first|with_reducible rfl|omega)|omega)
     |(with_reducible apply Cz;· first|with_reducible rfl|(simp (disch:=omega) only[gF,n2,g2,n1,g0,g1,g2',g3,g4,g5,g6,g7,g8,g9,g10,hs,Bool.not_false,w1,q]<;>omega))
    try simp (disch:=omega) only[n2,g2,n1,g0,g1,g2',g3,g4,g5,g6,g7,g8,g9,g10,hs,Bool.not_false,w1,q]
  ·rw[Pz fun h=>hs h.1]
   rw[Bool.not_eq_false] at hs;have q:=ih (i+1) nn ids hd' (by simp at Eg;omega) (by omega) h4 hB
   try unfold Aa
   repeat first
    |((with_reducible first|apply C6|apply B3|apply C2|apply Ct|apply D2|apply Ek|apply F6|apply D1|apply B5|apply C7|apply C8);· first|with_reducible rfl|(simp (disch:=omega) only[gT,n2,g2,n1,g0,g1,g2',g3,g4,g5,g6,g7,g8,g9,g10,hs,Bool.not_true,w1,q]<;>first|with_reducible rfl|omega)|omega)
    |(with_reducible apply Cz;· first|with_reducible rfl|(simp (disch:=omega) only[gF,n2,g2,n1,g0,g1,g2',g3,g4,g5,g6,g7,g8,g9,g10,hs,Bool.not_true,w1,q]<;>omega))
   try simp (disch:=omega) only[n2,g2,n1,g0,g1,g2',g3,g4,g5,g6,g7,g8,g9,g10,hs,Bool.not_true,w1,q]
theorem EJ (Ef:2000<=fu){l:List U9}(hl:l.length<=1000)(Js:∀a∈l,a.ok)(secret:Int){nm:ByteArray}(Xp:nm.size<=500):
  Ag C0 prog fu (d+6) Em [.lst false 3 l.length (Lp l),.sc (.int .u64 secret),.sc (.string nm)]=some ⟨[.own 1 4 (Cv (Ve l secret nm))],[]⟩:=by
 rw[Mr];have f:=VM (fu:=fu) (d:=d+4) (l:=l) (nm:=nm) (by omega) (by omega)
 unfold Ve;cases h:QO nm 0 l with
 |none=>
  rw[h] at f;have lN:=Me nm;have mc:=Vy (xs:=E0) (fu:=fu) (d:=d+1) (l:=Dz nm) (Uf nm) (by omega) (by omega) (by omega) secret 20
  rw[lN] at mc;have sc:=Fd nm;have lS:(At .u8 (Dz nm)).length=nm.size:=by rw[Aw,lN]
  have tS:List.take nm.size (At .u8 (Dz nm))=At .u8 (Dz nm):=J4 (by omega)
  have q:=LK (fu:=fu) (d:=d) (by omega) (n:=l.length) (c:=Lp l) (a1:=secret) (a2:=nm) (key:=Qi secret 20 (Dz nm)) 4 fu 0 [] rfl (by omega) (fun x hx=>by cases hx) (by omega)
  have e0:((0:Nat):Int)=0:=rfl;rw[e0] at q;simp only[Xh] at f
  try unfold Aa
  repeat first
   |((with_reducible first|apply C6|apply B3|apply C2|apply Ct|apply D2|apply Ek|apply F6|apply D1|apply B5|apply C7|apply C8);· first|with_reducible rfl|(simp (disch:=omega) only[gT,f,sc,lS,I1,E8,Hy,tS,mc]<;>first|with_reducible rfl|omega)|omega)
   |(with_reducible apply Cz;· first|with_reducible rfl|(simp (disch:=omega) only[gF,f,sc,lS,I1,E8,Hy,tS,mc]<;>omega))
  try simp (disch:=omega) only[f,sc,lS,I1,E8,Hy,tS,mc]
  exact q
 |some i=>
  rw[h] at f;obtain⟨_,h2,a,h3,_⟩:=KF h;rw[Nat.sub_zero] at h3;have ak:=Js a (List.mem_of_getElem? h3);have q:=XN (fu:=fu) (d:=d) (by omega) (n:=l.length) (c:=Lp l) (a1:=secret) (a2:=nm) (secret:=secret) Xp h3 ak.cn ak.cs a.cr 0 fu [] rfl (by have:=ak.cn;omega) (by omega) (by simp) (fun x hx=>by cases hx)
  simp only[Xh] at f
  try unfold Aa
  repeat first
   |((with_reducible first|apply C6|apply B3|apply C2|apply Ct|apply D2|apply Ek|apply F6|apply D1|apply B5|apply C7|apply C8);· first|with_reducible rfl|(simp (disch:=omega) only[gT,f]<;>first|with_reducible rfl|omega)|omega)
   |(with_reducible apply Cz;· first|with_reducible rfl|(simp (disch:=omega) only[gF,f]<;>omega))
  try simp (disch:=omega) only[f]
  refine q.trans ?_;simp only[VQ,h3]
theorem IF {n m:Nat}{a b:List PV}{call:Ah}{L:List (List Int)} (hl:L.length<=100000):∀(r:List (List Int)) (i nn:Nat),L.drop i=r->r.length<nn->i<=L.length ->
  Cx fu call n a m b nn L.length (Cv L) L.length (Cv L) (i:Int)=some ⟨[.sc (.bool true)],[]⟩:=by
 intro r
 induction r with
 |nil=>
  intro i nn hd Eg hi;have:=drop_nil hd;obtain⟨nn,rfl⟩:∃k,nn=k+1:=⟨nn-1,by omega⟩
  rw[Fb]
  try unfold Aa
  repeat first
   |((with_reducible first|apply C6|apply B3|apply C2|apply Ct|apply D2|apply Ek|apply F6|apply D1|apply B5|apply C7|apply C8);· first|with_reducible rfl|(simp (disch:=omega) only[gT,Ni]<;>first|with_reducible rfl|omega)|omega)
   |(with_reducible apply Cz;· first|with_reducible rfl|(simp (disch:=omega) only[gF,Ni]<;>omega))
  try simp (disch:=omega) only[Ni]
 |cons x r ih=>
  intro i nn hd Eg hi;obtain⟨Bk,C3,hd'⟩:=D8 hd;obtain⟨nn,rfl⟩:∃k,nn=k+1:=⟨nn-1,by omega⟩
  rw[Fb];have ax:=BU C3;have n1:Int.toNat (i:Int)=i:=Uv _;have w1:wrap .i64 ((i:Int)+1)=((i+1:Nat):Int):=by rw[wrap_i64 (by omega) (by omega)];omega
  have lX:=Aw .u8 x;have bb:=Gm x;have b0:∀l:List UInt8,(!(l==l))=false:=fun l=>by simp
  have q:=ih (i+1) nn hd' (by simp at Eg;omega) (by omega)
  try unfold Aa
  repeat first
   |((with_reducible first|apply C6|apply B3|apply C2|apply Ct|apply D2|apply Ek|apply F6|apply D1|apply B5|apply C7|apply C8);· first|with_reducible rfl|(simp (disch:=omega) only[gT,n1,E8,ax,lX,bb,b0,w1,q]<;>first|with_reducible rfl|omega)|omega)
   |(with_reducible apply Cz;· first|with_reducible rfl|(simp (disch:=omega) only[gF,n1,E8,ax,lX,bb,b0,w1,q]<;>omega))
  try simp (disch:=omega) only[n1,E8,ax,lX,bb,b0,w1,q]
theorem RY {L:List (List Int)} (hl:L.length<=100000)(Ef:L.length<fu):Ag C0 prog fu (d+1) Gr [.lst false 1 L.length (Cv L),.lst false 1 L.length (Cv L)]=some ⟨[.sc (.bool true)],[]⟩:=by
 rw[Mh];have b1:((L.length:Int) != (L.length:Int))=false:=by simp
 try unfold Aa
 repeat first
  |((with_reducible first|apply C6|apply B3|apply C2|apply Ct|apply D2|apply Ek|apply F6|apply D1|apply B5|apply C7|apply C8);· first|with_reducible rfl|(simp (disch:=omega) only[gT,b1]<;>first|with_reducible rfl|omega)|omega)
  |(with_reducible apply Cz;· first|with_reducible rfl|(simp (disch:=omega) only[gF,b1]<;>omega))
 try simp (disch:=omega) only[b1]
 exact IF hl L 0 fu rfl Ef (by omega)
end
theorem HB (w:Int):∀(k i:Nat),(Vg w i k).length=k
 |0,_=>rfl
 |k+1,i=>by show (Vg w (i+1) k).length+1=_;rw[HB w k]
theorem TA (l:List U9)(secret:Int)(nm:ByteArray):(Ve l secret nm).length=4:=by
 unfold Ve;rw[Lw,TF (SZ _ _)];rfl
theorem accountNames_plain (qs:List PV)(h:Au (YT prog) [23,9] qs):∃fu d,Ag C0 prog fu d E5 qs=some ⟨[.sc (.bool true)],[]⟩:=by
 obtain⟨q0,_,rfl,h0,g⟩:=h.cons_inv;obtain⟨q1,_,rfl,h1,g⟩:=g.cons_inv;obtain rfl:=g.nil_inv;clear h g;obtain⟨secret,rfl,_⟩:=YQ (P:=prog) (k:=.u64) (by kernel_rfl) (by kernel_rfl) h0
 obtain⟨nm,rfl,_⟩:=ZI (P:=prog) (by kernel_rfl) (by kernel_rfl) h1
 clear h0 h1;obtain⟨fu,Aox⟩:∃fu,fu=2000:=⟨_,rfl⟩;have Ef:2000<=fu:=by omega
 refine⟨fu,9,?_⟩;refine (Jt fu 8 secret nm).trans ?_;have aw:=UT (fu:=fu) (d:=0) Ef;by_cases hn:(nm.size:Int)>200
 ·skip
  try unfold Aa
  repeat first
   |((with_reducible first|apply C6|apply B3|apply C2|apply Ct|apply D2|apply Ek|apply F6|apply D1|apply B5|apply C7|apply C8);· first|with_reducible rfl|(simp (disch:=omega) only[gT,aw]<;>first|with_reducible rfl|omega)|omega)
   |(with_reducible apply Cz;· first|with_reducible rfl|(simp (disch:=omega) only[gF,aw]<;>omega))
  try simp (disch:=omega) only[aw]
 ·have u1:=Aag (fu:=fu) (d:=2) (by omega) secret (nm:=nm) (by omega)
  have u2:=RQ (fu:=fu) (d:=2) (by omega) secret (nm:=nm) (by omega)
  have a1:Ag C0 prog fu 8 Gt [.lst false 3 0 [],.sc (.int .u64 secret),.sc (.string nm)]=_:=Ww (fu:=fu) (d:=1) Ef (l:=[]) (by simp) (fun a ha=>by cases ha) secret (nm:=nm) (by omega)
  have a2:Ag C0 prog fu 8 Em [.lst false 3 0 [],.sc (.int .u64 secret),.sc (.string nm)]=_:=EJ (fu:=fu) (d:=2) Ef (l:=[]) (by simp) (fun a ha=>by cases ha) secret (nm:=nm) (by omega)
  have z:(SW secret nm).size=16:=by unfold SW;rw[Jp,HB]
  have lA:=TA [] secret nm;have sl:=RY (fu:=fu) (d:=7) (L:=Ve [] secret nm) (by omega) (by omega)
  rw[lA] at sl;have b0:∀l:List UInt8,(l==l)=true:=fun l=>by simp
  have e16:(((16:Nat):Int)==16)=true:=rfl;generalize SW secret nm=u at *
  have lR:=G6 (Ve [] secret nm);have t:List.take 4 (Cv (Ve [] secret nm))=Cv (Ve [] secret nm):=J4 (by omega)
  generalize Ve [] secret nm=A at *
  try unfold Aa
  repeat first
   |((with_reducible first|apply C6|apply B3|apply C2|apply Ct|apply D2|apply Ek|apply F6|apply D1|apply B5|apply C7|apply C8);· first|with_reducible rfl|(simp (disch:=omega) only[gT,u1,u2,b0,z,e16,a1,a2,lR,lA,I1,E8,Hy,t,sl,aw]<;>first|with_reducible rfl|omega)|omega)
   |(with_reducible apply Cz;· first|with_reducible rfl|(simp (disch:=omega) only[gF,u1,u2,b0,z,e16,a1,a2,lR,lA,I1,E8,Hy,t,sl,aw]<;>omega))
  try simp (disch:=omega) only[u1,u2,b0,z,e16,a1,a2,lR,lA,I1,E8,Hy,t,sl,aw]
end
section
open Go.Proofs.Try (prog)
open Go.IntKind (wrap)
open Go.RowKit
theorem QX {w w':World}{Y:Nat->Prop}{bt:Vi}{args:List PV}{v:Value}(hb:Below w.heap.size w w')(ho:G1 w' (Ti bt (fun _=>none) Y) (fun _=>none) bt (Ld [.sc v]) 0 args []):
  Out w w' Y bt args (fun _=>none) ⟨[.sc v],[]⟩ [v] where
 os:=hb.os
 tape:=hb.tape
 output:=hb.output
 ext:=⟨hb.size,fun b h _=>hb.block b h,fun b h=>Gu.same (hb.block b h)⟩
 rng:=fun b j h _=>⟨by unfold World.cell?;simp only[hb.block b h],by unfold World.frozen?;simp only[hb.block b h]⟩
 vals:=⟨Ap.sc v,trivial⟩
 outs:=ho
 fresh:=fun j b o h=>by cases h
 inj:=fun j j' b o o' h=>by cases h
theorem Ur {P:Program}{w:World}{A:Nat->Prop}{bt:Bt}{z:Bool}{n:Nat}{c:List PV}{u:Value}{l:List UInt8}(h:GM w A bt (.lst z 1 n c) u) (hl:bytesOf c=some l)(hn:c.length=n):
  (Extern.Bytes.bytesOf u).run P w=.ok ⟨l.toArray⟩ w:=by
 obtain⟨ns,rfl,rfl⟩:=Nv hl;have ht:Ap w A (.lst z 1 n (ns.map fun n=>.sc (.int .u8 n))) u:=h.2
 generalize hc:(ns.map fun n=>PV.sc (.int .u8 n))=c at ht
 cases ht with
 |lnil=>
  have:ns=[]:=by simpa using hc
  subst this;rfl
 |lemp=>
  have:ns=[]:=by simpa using hc
  subst this;rfl
 |lst _ _ _ a cap f hs hb hA hn' hcell h1 hr=>
  subst hc;rw[List.length_map] at hn;subst hn;show (Extern.Bytes.loadBytes a ns.length .empty).run P w=_;rw[Lib.run_loadBytesX w ns a .empty fun j x hj=>?_]
  ·simp[Lib.bytesOf,Nat.toUInt8]
  ·have e:(ns.map fun n=>PV.sc (.int .u8 n))[j]?=some (.sc (.int .u8 x)):=by rw[List.getElem?_map,hj];rfl
   rw[hcell j _ e,(hr j _ e).val]
set_option maxRecDepth 1000000 in
theorem DQ (u1 u2:Value)(a b:List UInt8)(w:World)(h1:(Extern.Bytes.bytesOf u1).run prog w=.ok ⟨a.toArray⟩ w) (h2:(Extern.Bytes.bytesOf u2).run prog w=.ok ⟨b.toArray⟩ w):
  Calls prog 44 #[u1,u2] w fun e w'=>e=.returned (.int .i64 (Lib.compareBytes a b))∧w'=w:=by
 have hr:(Extern.BytealgCompare.compare #[u1,u2]).run prog w=.ok (.int .i64 (Lib.compareBytes a b)) w:=by
  change Sem.run prog (do pure (goInt (Extern.BytealgCompare.cmp (←Extern.Bytes.bytesOf u1) (←Extern.Bytes.bytesOf u2)))) w=_
  simp only[Sem.run_bind,Sem.run_pure,Result.andThen,h1,h2];rw[Lib.cmp_eq];rfl
 go_enter Try.func44,Try.ntmps44
 go_wp2
 rw[run_callFunc_extern Try.func62 (by kernel_rfl) (by kernel_rfl) (by kernel_rfl) (e:=Extern.BytealgCompare.compare) (by kernel_rfl),hr]
 simp only[Result.andThen];rw[Oper.upon_value]
 go_wp2
 go_ret
 exact⟨rfl,rfl⟩
theorem Y5 (G:Glo)(args:List PV)(res:Bc)(h:Nw args=some res):Dr G prog 44 args res:=by
 refine⟨⟨_,Try.func44,by kernel_rfl⟩,fun w Y bt us hi _ _=>?_⟩
 unfold Nw at h;split at h
 rotate_left
 ·cases h
 rename_i z n c z' m c';cases hq:(Nat.beq c.length n&&Nat.beq c'.length m)
 ·rw[hq] at h;cases h
 rw[hq] at h;simp only[Bool.and_eq_true] at hq;have hn:=Nat.eq_of_beq_eq_true hq.1;have hm:=Nat.eq_of_beq_eq_true hq.2;simp only[cond_true] at h;split at h
 rotate_left
 ·cases h
 rename_i a b ha hb;cases h;have ps:=hi.args
 match us,ps with
 |[u1,u2],ps=>
  refine (DQ u1 u2 a b w (Ur ps.1 ha hn) (Ur ps.2.1 hb hm)).mono ?_
  rintro e w' ⟨rfl,rfl⟩
  exact⟨[.int .i64 (Lib.compareBytes a b)],fun _=>none,rfl,QX (Below.refl _ _) rfl⟩
 |[],ps=>exact ps.elim
 |[_],ps=>exact ps.2.elim
 |_::_::_::_,ps=>exact ps.2.2.elim
end
section
open Go.Proofs.Try (prog)
open Go.IntKind (wrap)
open Go.RowKit Go.Lib
section
variable {P:Program}
theorem O1 (w:World)(dT sT ty elem:TypeId)(i:TypeInfo)(b o dLen dCap:Nat)(a:Addr)(sLen sCap k:Nat)(cs:List Value)
  (hu:P.underlying dT=some (.slice elem)) (hq:P.info? elem=some i)(hk:k=Nat.min sLen dLen)(hn:cs.length=k*i.size)
  (Lm:∀j v,cs[j]?=some v->w.cell? (a.add j)=some v) (hc:∀j,j<cs.length->(w.cell? ⟨b,o+j,none⟩).isSome=true) (hf:∀j,j<cs.length->w.frozen? ⟨b,o+j,none⟩=false)(h1:∀v∈cs,v.oneCell'=true):
  (Builtin.copy_ #[dT,sT] ty #[.slice (some ⟨b,o,none⟩) dLen dCap,.slice (some a) sLen sCap]).run P w=.ok (goInt k) (w.setCells b o cs):=by
 have hl:=run_loadCells_list (P:=P) w a cs Lm;have Kk:=run_storeCells_cells (P:=P) b o cs 0 w (by simpa using hc) (by simpa using hf) h1
 simp[Builtin.copy_,run_underlying hu,Builtin.lenOf,Builtin.firstCells,sizeOf,typeInfo,hq,←hk,←hn,hl,Kk]
theorem I6 (b:Nat)(vs:List Value)(o:Nat)(w:World)(k:Nat)(hk:(w.cell? ⟨b,k,none⟩).isSome=true):((w.setCells b o vs).cell? ⟨b,k,none⟩).isSome=true:=by
 have h:=(Bd.setCells b vs o w).bs;obtain⟨v,hv⟩:=Option.isSome_iff_exists.1 hk;have h1:=Re hv;exact N2 (by omega)
theorem CO (w:World){o:Oper}{a:Act}{K:Act->World->Prop}{Q:Exit->Act->World->Prop}(d s:Operand)(t t':TypeId)
  (ho:o.op=.call { callee:=.builtin .copy,args:= #[d,s],argTypes:= #[t,t'] }) (v u:Value)(hd:a.eval d=v)(hs:a.eval s=u){v':Value}{w':World}
  (hr:(Builtin.copy_ #[t,t'] o.type #[v,u]).run P w=.ok v' w') (h:K (a.put o.dst v') w'):o.wp P a w K Q:=by
 unfold Oper.wp execOp;simp only[ho,resolve,invoke,builtin,Sem.run_bind,Sem.run_pure,Result.andThen_ok,List.map_toArray,List.map_cons,List.map_nil,hd,hs,hr];exact h
theorem H4 (w:World){ops:Array Oper}{rest:List Oper}{o:Oper}{a:Act}{Q:Exit->Act->World->Prop}(hgd:o.guard=none)(d s:Operand)(t t':TypeId)
  (ho:o.op=.call { callee:=.builtin .copy,args:= #[d,s],argTypes:= #[t,t'] }) (v u:Value)(hd:a.eval d=v)(hs:a.eval s=u){v':Value}{w':World}
  (hr:(Builtin.copy_ #[t,t'] o.type #[v,u]).run P w=.ok v' w') (h:wpList P ops Q rest (a.put o.dst v') w'):wpList P ops Q (o::rest) a w:=
 wpList_plain hgd fun _ hK=>CO w d s t t' ho v u hd hs hr (hK _ _ h)
theorem Nx {ops:Array Oper}{o:Oper}{a:Act}{w:World}{K:Act->World->Prop}{Q:Exit->Act->World->Prop}{E:Prop}
  (hg:o.guard=none)(d x:Operand)(dT sT:TypeId)(RK:o.op=Op.call { callee:=Callee.builtin Builtin.copy,args:= #[d,x],argTypes:= #[dT,sT] })
  (v u:Value)(hd:a.eval d=v)(hx:a.eval x=u){v':Value}{w':World}(hr:(Builtin.copy_ #[dT,sT] o.type #[v,u]).run P w=.ok v' w') (hK:K (a.put o.dst v') w'):
  if Region.wanted o (yielded ops a.tmps)=true then Oper.wp P o a w K Q else E:=by
 have hw:Region.wanted o (yielded ops a.tmps)=true:=by simp[Region.wanted,hg]
 rw[Ni hw];unfold Oper.wp;simp[execOp,RK,resolve,invoke,builtin,hd,hx,hr,Result.andThen];exact hK
end
theorem CS:(prog.info? 82).map (fun i=>(i.zero,i.size,i.bytes))=some (some (.agg #[.int .i64 0,.int .i64 0]),2,16):=by kernel_rfl
theorem P2:prog.underlying 31=some (.slice 82):=by kernel_rfl
theorem Adb:prog.underlying 3=some (.int .i64):=by kernel_rfl
set_option maxHeartbeats 4000000 in
set_option maxRecDepth 100000 in
theorem QB (b off n c i vb voff vc:Nat)(cs vs:List Value)(w:World)(hi:i<n)(Kt:n+1<=c)(Afj:n<=100000)(hvb:vb≠b)
  (Le:cs.length=n*2)(Rl:vs.length=2)
  (P6:∀j v,cs[j]?=some v->w.cell? ⟨b,off+j,none⟩=some v) (RA:∀j,j<(n+1)*2->(w.cell? ⟨b,off+j,none⟩).isSome=true) (Ng:∀j,j<(n+1)*2->w.frozen? ⟨b,off+j,none⟩=false)
  (G8:∀j v,vs[j]?=some v->w.cell? ⟨vb,voff+j,none⟩=some v) (h1c:∀v∈cs,v.oneCell'=true)(WR:∀v∈vs,v.oneCell'=true)
  (tA tB:TypeId)(kA kB:Nat)(hsa:w.shape? vb=some (tA,kA)) (hsb:w.shape? b=some (tB,kB)) (hkB:kB≠0)(hfa:w.frozen? ⟨vb,voff,none⟩=false)(hfe:w.frozen? ⟨vb,kA,none⟩=false):
  Calls prog 45 #[.slice (some ⟨b,off,none⟩) n c,.int .i64 i,.slice (some ⟨vb,voff,none⟩) 1 vc] w fun e w'=>
   e=.returned (.slice (some ⟨b,off,none⟩) (n+1) c)∧w'=(w.drew.setCells b (off+(i+1)*2) (cs.drop (i*2))).setCells b (off+i*2) vs:=by
 obtain⟨i0,KW,hz0,Wt,hzb⟩:=info_parts CS;have hz2:¬((i:Int)=(n:Int)):=by omega
 have hov:∀lb cb,(callFunc 63 #[.slice (some ⟨vb,voff,none⟩) 1 vc,.slice (some ⟨b,off+(i+1)*2,none⟩) lb cb]).run prog w=.ok (.value (.bool false)) w:=fun lb cb=>by
  rw[run_callFunc_extern Try.func63 (by kernel_rfl) (by kernel_rfl) (by kernel_rfl) (e:=Extern.SlicesOverlaps.overlaps #[31,31] #[4]) (by kernel_rfl),
   Lib.run_overlaps_apart w 31 4 82 P2 2 (fun w=>by simp[sizeOf,typeInfo,KW,Wt]) ⟨vb,voff,none⟩ ⟨b,off+(i+1)*2,none⟩ 1 vc lb cb hvb tA tB kA kB hsa hsb hkB hfa hfe]
  rfl
 have WA:(cs.drop (i*2)).length=(n-i)*2:=by rw[List.length_drop,Le];omega
 have hw1:IntKind.i64.wrap ((i:Int)+1)=(i:Int)+1:=by rw[IntKind.wrap_i64];omega
 have hw2:IntKind.i64.wrap ((n:Int)+1)=(n:Int)+1:=by rw[IntKind.wrap_i64];omega
 have mixed:prog.follows Departure.mixedOrders=true:=by kernel_rfl
 have D7:(0:Int)<=(i:Int)+1:=by omega
 have DX:i<=n:=by omega
 have htn:((i:Int)+1).toNat=i+1:=by omega
 have Iz:¬(c=i+1):=by omega
 have BM:(i:Int)<=(n:Int)+1:=by omega
 have hb4:¬(c=i):=by omega
 have Agz:∀ty dc sc,(Builtin.copy_ #[31,31] ty #[.slice (some ⟨b,off+(i+1)*2,none⟩) (n-i) dc,.slice (some ⟨b,off+i*2,none⟩) (n+1-i) sc]).run prog w.drew=.ok (goInt ((n-i:Nat):Int)) (w.drew.setCells b (off+(i+1)*2) (cs.drop (i*2))):=fun ty dc sc=>
  O1 w.drew _ _ ty 82 i0 b (off+(i+1)*2) (n-i) dc ⟨b,off+i*2,none⟩ (n+1-i) sc (n-i) (cs.drop (i*2)) P2 KW (by simp only[Nat.min_def];split<;>omega) (by rw[Wt];exact WA)
   (fun j v hj=>by rw[Addr.add_lit,Nat.add_assoc];exact P6 (i*2+j) v (by rwa [List.getElem?_drop] at hj))
   (fun j hj=>by rw[Nat.add_assoc];exact RA _ (by omega)) (fun j hj=>by rw[Nat.add_assoc];exact Ng _ (by omega)) (fun v hv=>h1c v (List.mem_of_mem_drop hv))
 obtain⟨W1,HZ⟩:∃W1,W1=w.drew.setCells b (off+(i+1)*2) (cs.drop (i*2)):=⟨_,rfl⟩
 have Ak9:∀k,k<(n+1)*2->(W1.cell? ⟨b,off+k,none⟩).isSome=true:=fun k hk=>by
  rw[HZ];exact I6 b _ _ _ _ (RA k hk)
 have Al7:∀(W:World),(∀x,W.cell? x=W1.cell? x)->(∀x,W.frozen? x=W1.frozen? x)->∀ty dc,(Builtin.copy_ #[31,31] ty #[.slice (some ⟨b,off+i*2,none⟩) (n+1-i) dc,.slice (some ⟨vb,voff,none⟩) 1 vc]).run prog W=.ok (goInt 1) (W.setCells b (off+i*2) vs):=fun W hWc hWf ty dc=>
  O1 W _ _ ty 82 i0 b (off+i*2) (n+1-i) dc ⟨vb,voff,none⟩ 1 vc 1 vs P2 KW (by simp only[Nat.min_def];split<;>omega) (by rw[Rl,Wt])
   (fun j v hj=>by
    rw[Addr.add_lit,hWc,HZ,World.cell?_setCells_out b _ _ _ _ (fun h _=>absurd h hvb)]
    exact G8 j v hj)
   (fun j hj=>by rw[hWc,Nat.add_assoc];exact Ak9 _ (by omega)) (fun j hj=>by rw[hWf,HZ,World.frozen?_setCells,Nat.add_assoc];exact Ng _ (by omega)) WR
 rw[←HZ] at Agz
 go_enter Try.func45,Try.ntmps45
 go_wp2_with (simp only[hov])
 go_region_law_o (refine Nx rfl _ _ 31 31 rfl _ _ (by simp[Act.eval,Act.put]) (by simp[Act.eval,Act.put]) (Agz _ _ _) ?_)
 go_wp2_with (at_builtin;refine H4 _ rfl _ _ 31 31 rfl _ _ rfl rfl (Al7 _ (fun _=>rfl) (fun _=>rfl) _ _) ?_)
 go_ret
 first|exact⟨rfl,rfl⟩|exact⟨rfl,by rw[HZ]⟩
theorem RM {w:World}{vb voff vc:Nat}{vs:List Value}(Rl:vs.length=2)(G8:∀j v,vs[j]?=some v->w.cell? ⟨vb,voff+j,none⟩=some v) (WR:∀v∈vs,v.oneCell'=true):
  Pv.Src prog w (fun _=>False) 2 (.slice (some ⟨vb,voff,none⟩) 1 vc) 1 (vs.map .sc) vs where
 len:=fun w'=>by simp[Builtin.lenOf]
 cells:=fun w' hw=>by
  refine Pv.run_first_slice (w:=w') (.inr ⟨_,rfl,by omega,fun j v hj=>?_⟩)
  have hv:=G8 j v hj;rw[Addr.add_lit,World.cell?_of_block (w:=w) (hw vb (block_lt_of_cell hv))];exact hv
 part:=fun k hk=>by
  refine run_firstCells_some w 2 k ⟨vb,voff,none⟩ 1 vc _ (by rw[List.length_take];omega) fun j v hj=>?_
  rw[List.getElem?_take] at hj;split at hj
  ·rw[Addr.add_lit];exact G8 j v hj
  ·cases hj
 one:=WR
 rep:=by
  clear G8 WR Rl
  induction vs with
  |nil=>trivial
  |cons v vs ih=>exact⟨.sc v,ih⟩
set_option maxHeartbeats 4000000 in
set_option maxRecDepth 100000 in
theorem BV (b off n c vb voff vc:Nat)(vs:List Value)(w:World)(Kt:n+1<=c)
  (Rl:vs.length=2)(RA:∀j,j<2->(w.cell? ⟨b,off+n*2+j,none⟩).isSome=true) (Ng:∀j,j<2->w.frozen? ⟨b,off+n*2+j,none⟩=false)
  (G8:∀j v,vs[j]?=some v->w.cell? ⟨vb,voff+j,none⟩=some v) (WR:∀v∈vs,v.oneCell'=true):
  Calls prog 45 #[.slice (some ⟨b,off,none⟩) n c,.int .i64 n,.slice (some ⟨vb,voff,none⟩) 1 vc] w fun e w'=>
   e=.returned (.slice (some ⟨b,off,none⟩) (n+1) c)∧w'=w.setCells b (off+n*2) vs:=by
 obtain⟨i0,KW,hz0,Wt,hzb⟩:=info_parts CS;have Lm:=RM (vc:=vc) Rl G8 WR;rw[←Wt] at Lm RA Ng ⊢
 have hr:∀ty,(Builtin.append_ #[31,31] ty #[.slice (some ⟨b,off,none⟩) n c,.slice (some ⟨vb,voff,none⟩) 1 vc]).run prog w=_:=fun ty=>
  Pv.append_room_run (P:=prog) (w:=w) (t:=31) (tx:=31) (ty:=ty) (ts:=[]) (b:=b) (ob:=off) (n:=n) (cap:=c) P2 P2 (fun k=>by simp) KW Lm (by rw[Rl,Wt]) (fun k hk=>RA k (by rw[Wt];omega)) (fun k hk=>Ng k (by rw[Wt];omega)) Kt
 have mixed:prog.follows Departure.mixedOrders=true:=by kernel_rfl
 go_enter Try.func45,Try.ntmps45
 go_wp2_with (at_builtin;refine Lib.wpList_append_run _ rfl _ _ _ _ rfl _ _ rfl rfl _ _ (hr _) ?_)
 go_ret
 exact⟨rfl,by rw[Wt]⟩
set_option maxHeartbeats 4000000 in
set_option maxRecDepth 100000 in
theorem DB (base:Option Addr)(n c vb voff vc:Nat)(cs vs:List Value)(w:World)(hnc:n<=c)(Kt:c<n+1)(Afj:n<=100000)
  (Le:cs.length=n*2)(Rl:vs.length=2)(P6:(base=none∧cs=[])∨∃p,base=some p∧∀j v,cs[j]?=some v->w.cell? (p.add j)=some v)
  (G8:∀j v,vs[j]?=some v->w.cell? ⟨vb,voff+j,none⟩=some v) (WR:∀v∈vs,v.oneCell'=true):
  Calls prog 45 #[.slice base n c,.int .i64 n,.slice (some ⟨vb,voff,none⟩) 1 vc] w fun e w'=>
   e=.returned (.slice (some ⟨w.heap.size,0,none⟩) (n+1) (grownCap w (n+1) c 82)) ∧
   w'=w.drew.alloc (.cells (cs.toArray++vs.toArray++Builtin.zeroCells #[.int .i64 0,.int .i64 0] (grownCap w (n+1) c 82-(n+1))) 82):=by
 obtain⟨i0,KW,hz0,Wt,hzb⟩:=info_parts CS;have Lm:=RM (vc:=vc) Rl G8 WR;rw[←Wt] at Lm
 have hr:∀ty,(Builtin.append_ #[31,31] ty #[.slice base n c,.slice (some ⟨vb,voff,none⟩) 1 vc]).run prog w=_:=fun ty=>
  Pv.append_grow_run (P:=prog) (w:=w) (t:=31) (tx:=31) (ty:=ty) (ts:=[]) (ad:=base) (n:=n) (cap:=c) (olds:=cs) P2 P2 (fun k=>by simp) KW hz0 Lm (by
   rcases P6 with h|⟨p,h,g⟩
   ·exact .inl h
   ·exact .inr ⟨p,h,by rw[Wt];exact Le,g⟩) Kt (by rw[hzb];omega) (by omega)
 have Tg:base=none->n=0:=by
  rintro rfl
  rcases P6 with⟨_,rfl⟩|⟨p,h,_⟩
  ·simp at Le;omega
  ·cases h
 have mixed:prog.follows Departure.mixedOrders=true:=by kernel_rfl
 clear P6
 go_enter Try.func45,Try.ntmps45
 cases base with
 |none=>
  have h0:=Tg rfl;subst h0
  go_wp2_with (at_builtin;refine Lib.wpList_append_run _ rfl _ _ _ _ rfl _ _ rfl rfl _ _ (hr _) ?_)
  go_ret
  exact⟨rfl,rfl⟩
 |some a=>
  go_wp2_with (at_builtin;refine Lib.wpList_append_run _ rfl _ _ _ _ rfl _ _ rfl rfl _ _ (hr _) ?_)
  go_ret
  exact⟨rfl,rfl⟩
set_option maxHeartbeats 4000000 in
set_option maxRecDepth 100000 in
theorem RR (b off n c i vb voff vc:Nat)(cs vs:List Value)(w:World)(hi:i<n)(hnc:n<=c)(Kt:c<n+1)(Afj:n<=100000)
  (Le:cs.length=n*2)(Rl:vs.length=2)
  (P6:∀j v,cs[j]?=some v->w.cell? ⟨b,off+j,none⟩=some v)
  (G8:∀j v,vs[j]?=some v->w.cell? ⟨vb,voff+j,none⟩=some v) (h1c:∀v∈cs,v.oneCell'=true)(WR:∀v∈vs,v.oneCell'=true):
  Calls prog 45 #[.slice (some ⟨b,off,none⟩) n c,.int .i64 i,.slice (some ⟨vb,voff,none⟩) 1 vc] w fun e w'=>
   e=.returned (.slice (some ⟨w.heap.size,0,none⟩) (n+1) (grownCap w (n+1) c 82)) ∧
   w'=(((w.alloc (.cells ((cs.take (i*2)).toArray++Builtin.zeroCells #[.int .i64 0,.int .i64 0] (n+1-i)++Builtin.zeroCells #[.int .i64 0,.int .i64 0] (grownCap w (n+1) c 82-(n+1))) 82)).drew.setCells w.heap.size (i*2) vs).drew).setCells w.heap.size ((i+1)*2) (cs.drop (i*2)):=by
 obtain⟨i0,KW,hz0,Wt,hzb⟩:=info_parts CS;have hz2:¬((i:Int)=(n:Int)):=by omega
 have hz3:(c:Int)<(n:Int)+1:=by omega
 have hbw:b<w.heap.size:=block_lt_of_cell (P6 0 _ (List.getElem?_eq_getElem (by omega)))
 have hvw:vb<w.heap.size:=block_lt_of_cell (G8 0 _ (List.getElem?_eq_getElem (by omega)))
 have hkk:(n:Int)+1-(i:Int)=((n+1-i:Nat):Int):=by omega
 have hik:i+(n+1-i)=n+1:=by omega
 have hold:(Builtin.firstCells i0.size i (.slice (some ⟨b,off,none⟩) i c)).run prog w.drew=.ok (cs.take (i*2)).toArray w.drew:=by
  rw[Wt]
  exact run_firstCells_some w.drew 2 i ⟨b,off,none⟩ i c (cs.take (i*2)) (by rw[List.length_take];omega) (fun j v hj=>by
   rw[Addr.add_lit];rw[List.getElem?_take] at hj;split at hj
   ·exact P6 j v hj
   ·cases hj)
 have hrz:∀ty,(Builtin.append_ #[31,3] ty #[.slice (some ⟨b,off,none⟩) i c,.int .i64 ((n:Int)+1-(i:Int))]).run prog w =
   .ok (.slice (some ⟨w.heap.size,0,none⟩) (n+1) (grownCap w (n+1) c 82)) (w.drew.alloc (.cells ((cs.take (i*2)).toArray++Builtin.zeroCells #[.int .i64 0,.int .i64 0] (n+1-i)++Builtin.zeroCells #[.int .i64 0,.int .i64 0] (grownCap w (n+1) c 82-(n+1))) 82)):=fun ty=>by
  have h:=Lib.run_append_grow_zeros w 31 3 ty 82 i0 _ .i64 .i64 P2 Adb KW hz0 (some ⟨b,off,none⟩) i c (cs.take (i*2)) hold (n+1-i) (by omega) (by omega) (by omega) (by omega) (by rw[hzb];omega) (by rw[hzb,hik];exact growslice_fits Kt (by omega))
  rw[hik] at h;rw[hkk];exact h
 obtain⟨G,hG⟩:∃G,G=grownCap w (n+1) c 82:=⟨_,rfl⟩;obtain⟨ROW,HD⟩:∃ROW:Array Value,ROW=(cs.take (i*2)).toArray++Builtin.zeroCells #[.int .i64 0,.int .i64 0] (n+1-i)++Builtin.zeroCells #[.int .i64 0,.int .i64 0] (G-(n+1)):=⟨_,rfl⟩;rw[←hG] at hrz ⊢;rw[←HD] at hrz ⊢
 have hRl:(n+1)*2<=ROW.size:=by
  rw[HD];simp[Builtin.zeroCells];omega
 obtain⟨W1,HZ⟩:∃W1,W1=w.drew.alloc (.cells ROW 82):=⟨_,rfl⟩;rw[←HZ] at hrz
 have hN:∀j,j<(n+1)*2->(W1.cell? ⟨w.heap.size,j,none⟩).isSome=true:=fun j hj=>by
  rw[HZ,World.cell?_alloc_at (w:=w.drew) ROW _ w.heap.size j rfl,Array.getElem?_eq_getElem (by omega)];rfl
 have hNf:∀j,W1.frozen? ⟨w.heap.size,j,none⟩=false:=fun j=>by rw[HZ];exact World.frozen?_alloc_at (w:=w.drew) ROW _ w.heap.size j rfl
 have hOb:∀j v,w.cell? ⟨b,j,none⟩=some v->W1.cell? ⟨b,j,none⟩=some v:=fun j v h=>by rw[HZ,World.cell?_alloc_past (w:=w.drew) _ b j hbw];exact h
 have hOv:∀j v,w.cell? ⟨vb,j,none⟩=some v->W1.cell? ⟨vb,j,none⟩=some v:=fun j v h=>by rw[HZ,World.cell?_alloc_past (w:=w.drew) _ vb j hvw];exact h
 have Akn:∀(W:World),(∀x,W.cell? x=W1.cell? x)->(∀x,W.frozen? x=W1.frozen? x)->∀ty dc,(Builtin.copy_ #[31,31] ty #[.slice (some ⟨w.heap.size,i*2,none⟩) (n+1-i) dc,.slice (some ⟨vb,voff,none⟩) 1 vc]).run prog W=.ok (goInt 1) (W.setCells w.heap.size (i*2) vs):=fun W hWc hWf ty dc=>
  O1 W _ _ ty 82 i0 w.heap.size (i*2) (n+1-i) dc ⟨vb,voff,none⟩ 1 vc 1 vs P2 KW (by simp only[Nat.min_def];split<;>omega) (by rw[Rl,Wt])
   (fun j v hj=>by rw[Addr.add_lit,hWc];exact hOv _ v (G8 j v hj))
   (fun j hj=>by rw[hWc];exact hN _ (by omega)) (fun j hj=>by rw[hWf];exact hNf _) WR
 have hGn:n+1<=G:=by rw[hG];exact grownCap_ge w _ _ _
 have Ao2:G<=9223372036854775807:=by
  have:=grownCap_le_maxLen w (n+1) c 82 (by unfold maxLen;omega)
  rw[←hG] at this;unfold maxLen at this;omega
 have hGi:¬(G=i):=by omega
 have Aoq:¬(G=i+1):=by omega
 have hci:¬(c=i):=by omega
 have hbN:b≠w.heap.size:=by omega
 have WA:(cs.drop (i*2)).length=(n-i)*2:=by rw[List.length_drop,Le];omega
 have Ahh:∀(W:World),(∀x,W.cell? x=(W1.setCells w.heap.size (i*2) vs).cell? x)->(∀x,W.frozen? x=(W1.setCells w.heap.size (i*2) vs).frozen? x)->∀ty dc sc,(Builtin.copy_ #[31,31] ty #[.slice (some ⟨w.heap.size,(i+1)*2,none⟩) (n-i) dc,.slice (some ⟨b,off+i*2,none⟩) (n-i) sc]).run prog W=.ok (goInt ((n-i:Nat):Int)) (W.setCells w.heap.size ((i+1)*2) (cs.drop (i*2))):=fun W hWc hWf ty dc sc=>
  O1 W _ _ ty 82 i0 w.heap.size ((i+1)*2) (n-i) dc ⟨b,off+i*2,none⟩ (n-i) sc (n-i) (cs.drop (i*2)) P2 KW (by simp only[Nat.min_def];split<;>omega) (by rw[Wt];exact WA)
   (fun j v hj=>by
    rw[Addr.add_lit,hWc,World.cell?_setCells_out _ _ _ _ _ (fun h _=>absurd h hbN),Nat.add_assoc]
    exact hOb _ v (P6 (i*2+j) v (by rwa [List.getElem?_drop] at hj)))
   (fun j hj=>by rw[hWc];exact I6 _ _ _ _ _ (hN _ (by omega)))
   (fun j hj=>by rw[hWf,World.frozen?_setCells];exact hNf _) (fun v hv=>h1c v (List.mem_of_mem_drop hv))
 subst HZ;have hE1:∀x,((w.alloc (.cells ROW 82)).drew).cell? x=(w.drew.alloc (.cells ROW 82)).cell? x:=fun x=>rfl
 have hE2:∀x,((w.alloc (.cells ROW 82)).drew).frozen? x=(w.drew.alloc (.cells ROW 82)).frozen? x:=fun x=>rfl
 have hF1:∀x,(((w.alloc (.cells ROW 82)).drew.setCells w.heap.size (i*2) vs).drew).cell? x=((w.drew.alloc (.cells ROW 82)).setCells w.heap.size (i*2) vs).cell? x:=fun x=>rfl
 have hF2:∀x,(((w.alloc (.cells ROW 82)).drew.setCells w.heap.size (i*2) vs).drew).frozen? x=((w.drew.alloc (.cells ROW 82)).setCells w.heap.size (i*2) vs).frozen? x:=fun x=>rfl
 have hw1:IntKind.i64.wrap ((i:Int)+1)=(i:Int)+1:=by rw[IntKind.wrap_i64];omega
 have hw2:IntKind.i64.wrap ((n:Int)+1)=(n:Int)+1:=by rw[IntKind.wrap_i64];omega
 have hw3:IntKind.i64.wrap ((n:Int)+1-(i:Int))=(n:Int)+1-(i:Int):=by rw[IntKind.wrap_i64];omega
 have D7:(0:Int)<=(i:Int)+1:=by omega
 have DX:i<=n:=by omega
 have htn:((i:Int)+1).toNat=i+1:=by omega
 have BM:(i:Int)<=(n:Int):=by omega
 have mixed:prog.follows Departure.mixedOrders=true:=by kernel_rfl
 clear hkk hik hold HD hG hRl
 go_enter Try.func45,Try.ntmps45
 go_wp2_with (first
  |(at_builtin;refine Lib.wpList_append_run _ rfl _ _ _ _ rfl _ _ rfl rfl _ _ (hrz _) ?_)
  |(at_builtin;refine H4 _ rfl _ _ 31 31 rfl _ _ rfl rfl (Akn _ hE1 hE2 _ _) ?_)
  |(at_builtin;refine H4 _ rfl _ _ 31 31 rfl _ _ rfl rfl (Ahh _ (fun _=>rfl) (fun _=>rfl) _ _ _) ?_))
 go_region_law_o (refine Nx rfl _ _ 31 31 rfl (.slice (some ⟨w.heap.size,(i+1)*2,none⟩) (n-i) (G-(i+1))) (.slice (some ⟨b,off+i*2,none⟩) (n-i) (c-i)) (by simp[Act.eval,Act.put]) (by simp[Act.eval,Act.put]) (Ahh _ hF1 hF2 3 (G-(i+1)) (c-i)) ?_)
 go_wp2
 go_ret
 exact⟨rfl,rfl⟩
end
section
open Go.Proofs.Try (prog)
open Go.IntKind (wrap)
open Go.RowKit Go.Lib
structure T9 (w w':World):Prop where
 os:w'.os=w.os
 tape:w'.tape=w.tape
 output:w'.output=w.output
 old:∀k,k<w.heap.size->w'.heap[k]?=w.heap[k]?
 size:w'.heap.size=w.heap.size+1
 frz:∀j,w'.frozen? ⟨w.heap.size,j,none⟩=false
theorem T9.alloc (w:World)(c:Array Value)(e:TypeId):T9 w (w.alloc (.cells c e)):=
 ⟨rfl,rfl,rfl,fun b hb=>Below.heap_alloc w _ b hb,by show (w.heap.push _).size=_;simp,fun j=>World.frozen?_alloc_at (w:=w) c e w.heap.size j rfl⟩
theorem T9.allocD (w:World)(c:Array Value)(e:TypeId):T9 w (w.drew.alloc (.cells c e)):=by
 have h:=T9.alloc w.drew c e;exact⟨h.os,h.tape,h.output,h.old,h.size,h.frz⟩
theorem T9.wrote {w w' w'':World}(h:T9 w w')(g:Bd w.heap.size w' w''):T9 w w'':=
 ⟨g.os.trans h.os,g.tape.trans h.tape,g.output.trans h.output,fun k hk=>(g.other k (by omega)).trans (h.old k hk),g.size.trans h.size,fun j=>(g.frz j).trans (h.frz j)⟩
theorem Bd.drew (b:Nat)(w:World):Bd b w w.drew:=⟨rfl,rfl,rfl,rfl,fun _ _=>rfl,rfl,fun _=>rfl⟩
theorem UG {w:World}{A:Nat->Prop}{a:Addr}:∀{cs:List Value},EC w A a (cs.map .sc)->∀j v,cs[j]?=some v->w.cell? (a.add j)=some v∧v.oneCell'=true:=by
 intro cs h j v hj;obtain⟨u,h1,h2,h3⟩:=h j (.sc v) (by rw[List.getElem?_map,hj];rfl)
 cases h3;exact⟨h1,h2⟩
theorem BE {w:World}{A:Nat->Prop}{a:Addr}{cs:List Value}(h:∀j v,cs[j]?=some v->w.cell? (a.add j)=some v) (h1:∀v∈cs,v.oneCell'=true):EC w A a (cs.map .sc):=by
 intro j p hp;rw[List.getElem?_map] at hp;cases hv:cs[j]? with
 |none=>rw[hv] at hp;cases hp
 |some v=>
  rw[hv] at hp;cases hp;exact⟨v,h j v hv,h1 v (List.mem_of_getElem? hv),.sc v⟩
theorem MP:∀{c:List PV},c.all W9=true->∃cs:List Value,c=cs.map .sc
 |[],_=>⟨[],rfl⟩
 |p::c,h=>by
  simp only[List.all_cons,Bool.and_eq_true] at h;obtain⟨cs,rfl⟩:=MP h.2;have hp:=h.1;unfold W9 at hp;split at hp
  ·exact⟨_::cs,rfl⟩
  ·cases hp
def Rq (q:Nat × Nat):Bt:=fun j=>match j with|0=>some q|_=>none
def Py (i:Nat)(cs vs:List Value):List Value:=cs.take (i*2)++vs++cs.drop (i*2)
theorem GY {i n j:Nat}{cs vs:List Value}{v:Value}(hi:i<=n)(hc:cs.length=n*2)(hv:vs.length=2)(h:(Py i cs vs)[j]?=some v):
  (j<i*2∧cs[j]?=some v)∨(i*2<=j∧j<i*2+2∧vs[j-i*2]?=some v)∨((i+1)*2<=j∧(cs.drop (i*2))[j-(i+1)*2]?=some v):=by
 unfold Py at h;have lt:(cs.take (i*2)).length=i*2:=by rw[List.length_take];omega
 by_cases h1:j<i*2
 ·rw[NS,List.getElem?_append_left (by omega),List.getElem?_take,Ni h1] at h
  exact .inl ⟨h1,h⟩
 ·by_cases h2:j<i*2+2
  ·rw[NS,List.getElem?_append_right (by omega),lt,List.getElem?_append_left (by omega)] at h
   exact .inr (.inl ⟨by omega,h2,h⟩)
  ·rw[List.getElem?_append_right (by simp;omega)] at h
   refine .inr (.inr ⟨by omega,?_⟩)
   rw[MK,lt,hv] at h;rw[←h]
   congr 1
   omega
section
variable {w w':World} {Y:Nat->Prop} {bt:Vi} {args:List PV} {L vs:List Value} {n cap b o vb vo:Nat} {x1:PV} {x0:PV}
theorem PE (hb:bt 0 1=some (b,o)) (hv:bt 2 0=some (vb,vo)) (Ie:vb≠b)(R1:b<w.heap.size)(Rl:vb<w.heap.size)(hw:Bd b w w')
  (Ac2:∀j,j<o->w'.cell? ⟨b,j,none⟩=w.cell? ⟨b,j,none⟩)(hn:n<=cap)(hF:Fit w 2 b (o+cap*2)) (Ng:∀j,o<=j->j<bsz w b->w.frozen? ⟨b,j,none⟩=false)
  (hL:∀j v,L[j]?=some v->w'.cell? ⟨b,o+j,none⟩=some v) (h1:∀v∈L,v.oneCell'=true)
  (G8:∀j v,vs[j]?=some v->w.cell? ⟨vb,vo+j,none⟩=some v) (h2:∀v∈vs,v.oneCell'=true)(hvf:∀j,vo<=j->j<bsz w vb->w.frozen? ⟨vb,j,none⟩=false)
  (e0:∀ps,x0 ≠ .pbox ps)(e0':∀ps,x0 ≠ .tup ps)(e1:∀ps,x1 ≠ .pbox ps)(e1':∀ps,x1 ≠ .tup ps){q:List PV}:
  Out w w' Y bt [x0,x1,.tup q] (Rq (b,o)) ⟨[.own 2 n (L.map .sc)],[vs.map .sc]⟩ [.slice (some ⟨b,o,none⟩) n cap] where
 os:=hw.os
 tape:=hw.tape
 output:=hw.output
 ext:=⟨by rw[hw.size];exact Nat.le_refl _,fun k _ hk=>hw.other k (fun e=>hk (e ▸ ⟨0,1,o,hb⟩)),fun k _=>hw.grow k⟩
 rng:=fun k j hk hX=>by
  by_cases e:k=b
  ·subst e
   have hj:j<o:=by
    refine Nat.lt_of_not_le fun Tn=>hX ⟨0,x0,rfl,Or.inl ⟨0,o,hb,Tn⟩⟩
   exact⟨Ac2 j hj,hw.frz j⟩
  ·exact⟨by unfold World.cell?;simp only[hw.other k e],by unfold World.frozen?;simp only[hw.other k e]⟩
 vals:=⟨.inr ⟨b,o,cap,rfl,rfl,hn,hF.step (hw.grow b),by rw[hw.size];exact R1,BE (fun j v hj=>by rw[Cb];exact hL j v hj) h1,fun j hj Kp=>by rw[hw.frz];exact Ng j hj (by rw[hw.bs] at Kp;exact Kp)⟩,trivial⟩
 outs:=by
  have ZO:w'.heap[vb]?=w.heap[vb]?:=hw.other vb Ie;have Yn:bsz w' vb=bsz w vb:=by unfold bsz;rw[ZO]
  have h:G1 w' (Ti bt (Rq (b,o)) Y) (Rq (b,o)) bt 1 2 [.tup q] [vs.map .sc]:=by
   refine⟨.inr ⟨vb,vo,hv,BE (fun j v hj=>?_) h2,fun j hj Kp=>?_⟩,rfl⟩
   ·rw[Cb,World.cell?_of_block (w:=w) ZO];exact G8 j v hj
   ·rw[World.frozen?_of_block (w:=w) ZO];exact hvf j hj (by rw[Yn] at Kp;exact Kp)
  have h':G1 w' (Ti bt (Rq (b,o)) Y) (Rq (b,o)) bt 1 1 [x1,.tup q] [vs.map .sc]:=by
   unfold G1;cases x1<;>first|exact h|exact absurd rfl (e1 _)|exact absurd rfl (e1' _)
  show G1 w' (Ti bt (Rq (b,o)) Y) (Rq (b,o)) bt 1 0 [x0,x1,.tup q] [vs.map .sc];unfold G1;cases x0<;>first|exact h'|exact absurd rfl (e0 _)|exact absurd rfl (e0' _)
 fresh:=fun j k y h=>by
  cases j with
  |zero=>
   cases h;refine⟨by rw[hw.size];exact R1,fun _=>⟨⟨0,0,o,hb⟩,fun x hx=>⟨0,x0,rfl,Or.inl ⟨0,o,hb,hx⟩⟩⟩⟩
  |succ j=>cases h
 inj:=fun j j' k y y' h h'=>by
  cases j with
  |zero=>cases j' with
   |zero=>rfl
   |succ j'=>cases h'
  |succ j=>cases h
theorem YV (hv:bt 2 0=some (vb,vo)) (Rl:vb<w.heap.size)(hw:T9 w w')
  (hn:n<=cap)(hF:cap*2<=bsz w' w.heap.size)
  (hL:∀j v,L[j]?=some v->w'.cell? ⟨w.heap.size,j,none⟩=some v) (h1:∀v∈L,v.oneCell'=true)
  (G8:∀j v,vs[j]?=some v->w.cell? ⟨vb,vo+j,none⟩=some v) (h2:∀v∈vs,v.oneCell'=true)(hvf:∀j,vo<=j->j<bsz w vb->w.frozen? ⟨vb,j,none⟩=false)
  (e0:∀ps,x0 ≠ .pbox ps)(e0':∀ps,x0 ≠ .tup ps)(e1:∀ps,x1 ≠ .pbox ps)(e1':∀ps,x1 ≠ .tup ps){q:List PV}:
  Out w w' Y bt [x0,x1,.tup q] (Rq (w.heap.size,0)) ⟨[.own 2 n (L.map .sc)],[vs.map .sc]⟩ [.slice (some ⟨w.heap.size,0,none⟩) n cap] where
 os:=hw.os
 tape:=hw.tape
 output:=hw.output
 ext:=⟨by rw[hw.size];omega,fun k hk _=>hw.old k hk,fun k hk=>Gu.same (hw.old k hk)⟩
 rng:=fun k j hk _=>⟨by unfold World.cell?;simp only[hw.old k hk],by unfold World.frozen?;simp only[hw.old k hk]⟩
 vals:=⟨.inr ⟨w.heap.size,0,cap,rfl,rfl,hn,⟨by omega,.inr (hw.frz _)⟩,by rw[hw.size];omega,BE (fun j v hj=>by rw[Cb,I1];exact hL j v hj) h1,fun j _ _=>hw.frz j⟩,trivial⟩
 outs:=by
  have ZO:w'.heap[vb]?=w.heap[vb]?:=hw.old vb Rl;have Yn:bsz w' vb=bsz w vb:=by unfold bsz;rw[ZO]
  have h:G1 w' (Ti bt (Rq (w.heap.size,0)) Y) (Rq (w.heap.size,0)) bt 1 2 [.tup q] [vs.map .sc]:=by
   refine⟨.inr ⟨vb,vo,hv,BE (fun j v hj=>?_) h2,fun j hj Kp=>?_⟩,rfl⟩
   ·rw[Cb,World.cell?_of_block (w:=w) ZO];exact G8 j v hj
   ·rw[World.frozen?_of_block (w:=w) ZO];exact hvf j hj (by rw[Yn] at Kp;exact Kp)
  have h':G1 w' (Ti bt (Rq (w.heap.size,0)) Y) (Rq (w.heap.size,0)) bt 1 1 [x1,.tup q] [vs.map .sc]:=by
   unfold G1;cases x1<;>first|exact h|exact absurd rfl (e1 _)|exact absurd rfl (e1' _)
  show G1 w' (Ti bt (Rq (w.heap.size,0)) Y) (Rq (w.heap.size,0)) bt 1 0 [x0,x1,.tup q] [vs.map .sc];unfold G1;cases x0<;>first|exact h'|exact absurd rfl (e0 _)|exact absurd rfl (e0' _)
 fresh:=fun j k y h=>by
  cases j with
  |zero=>cases h;exact⟨by rw[hw.size];omega,fun Bk=>absurd Bk (Nat.lt_irrefl _)⟩
  |succ j=>cases h
 inj:=fun j j' k y y' h h'=>by
  cases j with
  |zero=>cases j' with
   |zero=>rfl
   |succ j'=>cases h'
  |succ j=>cases h
end
theorem OT (G:Glo)(args:List PV)(res:Bc)(h:TG args=some res):Dr G prog 45 args res:=by
 refine⟨⟨_,Try.func45,by kernel_rfl⟩,fun w Y bt us hi _ _=>?_⟩
 unfold TG at h;split at h
 rotate_left
 ·cases h
 rename_i n c i f l;cases hq:(Nat.beq c.length (n*2)&&decide (0<=i)&&decide (i<=n)&&Nat.ble n 100000&&c.all W9)
 ·rw[hq] at h;cases h
 rw[hq] at h;simp only[Bool.and_eq_true,decide_eq_true_eq] at hq;obtain⟨⟨⟨⟨hc,h0⟩,h1⟩,hn⟩,Kq⟩:=hq;have hc:=Nat.eq_of_beq_eq_true hc;have hn:=Nat.le_of_ble_eq_true hn;simp only[cond_true] at h;cases h;obtain⟨k,rfl⟩:=Int.eq_ofNat_of_zero_le h0;have hk:k<=n:=by omega
 obtain⟨cs,rfl⟩:=MP Kq;rw[List.length_map] at hc
 have eL:List.take (Int.toNat (k:Int)*2) (cs.map PV.sc)++(PV.sc (.int .i64 f)::PV.sc (.int .i64 l)::List.drop (Int.toNat (k:Int)*2) (cs.map PV.sc))=(Py k cs [.int .i64 f,.int .i64 l]).map .sc:=by
  unfold Py;rw[Uv,List.map_append,List.map_append,List.map_take,List.map_drop,NS];rfl
 rw[eL];clear h0 h1 Kq eL;obtain⟨vs,XV⟩:∃vs:List Value,vs=[.int .i64 f,.int .i64 l]:=⟨_,rfl⟩;have Rl:vs.length=2:=by rw[XV];rfl
 have WQ:∀v∈vs,v.oneCell'=true:=by
  intro v hv;rw[XV] at hv;rcases List.mem_cons.1 hv with rfl|hv
  ·rfl
  ·rw[List.mem_singleton] at hv;subst hv;rfl
 have evm:[PV.sc (.int .i64 f),PV.sc (.int .i64 l)]=vs.map .sc:=by rw[XV];rfl
 rw[←XV];have ps:=hi.args;rw[evm] at ps ⊢
 match us,ps with
 |[u0,u1,u2],ps=>
  obtain⟨⟨_,p0⟩,⟨_,p1⟩,⟨es2,n2,c2,e2,p2⟩,_⟩:=ps;simp only[List.cons.injEq,PV.own.injEq,and_true] at e2;obtain⟨rfl,rfl,rfl⟩:=e2;have hu1:u1=.int .i64 k:=Ap.val (show Ap w _ (.sc (.int .i64 k)) u1 from p1)
  subst hu1;rcases p2 with⟨_,hz,_⟩|⟨vb,vo,vc,hvb,rfl,hvn,hvF,Ac3,hvR,hvf⟩
  ·cases hz
  have hvr:=UG hvR
  have G8:∀j v,vs[j]?=some v->w.cell? ⟨vb,vo+j,none⟩=some v:=fun j v hj=>by
   have:=(hvr j v hj).1
   rwa [Cb] at this
  have fin_new:∀(u0:Value) (w':World) (cap:Nat),T9 w w'->n+1<=cap->cap*2<=bsz w' w.heap.size->(∀j v,(Py k cs vs)[j]?=some v->w'.cell? ⟨w.heap.size,j,none⟩=some v)->(∀v∈Py k cs vs,v.oneCell'=true) ->
    ∃us own,Ending.returned (Value.slice (some ⟨w.heap.size,0,none⟩) (n+1) cap)=.returned (Gf us)∧Out w w' Y bt [.own 2 n (cs.map .sc),.sc (.int .i64 k),.tup [.own 2 1 (vs.map .sc)]] own ⟨[.own 2 (n+1) ((Py k cs vs).map .sc)],[vs.map .sc]⟩ us:=by
   intro u0 w' cap hw Pg hF hL h1;exact⟨_,_,rfl,YV hvb Ac3 hw Pg hF hL h1 G8 WQ hvf (by simp) (by simp) (by simp) (by simp)⟩
  have one:(∀v∈cs,v.oneCell'=true)->∀v∈Py k cs vs,v.oneCell'=true:=by
   intro Z2 v hv;unfold Py at hv;rcases List.mem_append.1 hv with hv|hv
   ·rcases List.mem_append.1 hv with hv|hv
    ·exact Z2 v (List.mem_of_mem_take hv)
    ·exact WQ v hv
   ·exact Z2 v (List.mem_of_mem_drop hv)
  have grow_end:∀(base:Option Addr) (cap0:Nat),n<=cap0->cap0<n+1->k=n->((base=none∧cs=[])∨∃p,base=some p∧∀j v,cs[j]?=some v->w.cell? (p.add j)=some v)->(∀v∈cs,v.oneCell'=true) ->
    Calls prog 45 #[.slice base n cap0,.int .i64 k,.slice (some ⟨vb,vo,none⟩) 1 vc] w fun e w'=>
     ∃us own,e=.returned (Gf us)∧Out w w' Y bt [.own 2 n (cs.map .sc),.sc (.int .i64 k),.tup [.own 2 1 (vs.map .sc)]] own ⟨[.own 2 (n+1) ((Py k cs vs).map .sc)],[vs.map .sc]⟩ us:=by
   intro base cap0 Z2 hc2 hkn hb JT;subst hkn;refine (DB base k cap0 vb vo vc cs vs w Z2 hc2 hn hc Rl hb G8 WQ).mono ?_
   rintro e w' ⟨rfl,rfl⟩
   obtain⟨G,hG⟩:∃G,G=grownCap w (k+1) cap0 82:=⟨_,rfl⟩;rw[←hG];have hGn:k+1<=G:=by rw[hG];exact grownCap_ge w _ _ _
   have eI:Py k cs vs=cs++vs:=by
    unfold Py;rw[J4 (by omega),List.drop_of_length_le (by omega),List.append_nil]
   refine fin_new undef _ G (T9.allocD w _ _) hGn ?_ (fun j v hj=>?_) (one JT)
   ·have:bsz (w.drew.alloc (.cells (cs.toArray++vs.toArray++Builtin.zeroCells #[.int .i64 0,.int .i64 0] (G-(k+1))) 82)) w.heap.size=_:=(D0.alloc w.drew _ _).bsz;rw[this];simp[Builtin.zeroCells];omega
   ·rw[eI] at hj;have Bk:=Ke hj;rw[World.cell?_alloc_at (w:=w.drew) _ _ w.heap.size j rfl,Array.getElem?_append_left (by simpa using Bk)]
    simpa using hj
  rcases p0 with⟨_,rfl,hc0,ad,rfl⟩|⟨b,o,cap,hb,rfl,LO,hF,TZ,hR,Ng⟩
  ·have P6:cs=[]:=by simpa using hc0
   subst P6;have hk0:k=0:=by omega
   refine grow_end ad 0 (Nat.le_refl _) (by omega) hk0 ?_ (by simp)
   cases ad with
   |none=>exact .inl ⟨rfl,rfl⟩
   |some p=>exact .inr ⟨p,rfl,fun j v hj=>by cases hj⟩
  have hr:=UG hR
  have VO:∀j v,cs[j]?=some v->w.cell? ⟨b,o+j,none⟩=some v:=fun j v hj=>by
   have:=(hr j v hj).1
   rwa [Cb] at this
  have Z2:∀v∈cs,v.oneCell'=true:=fun v hv=>by
   obtain⟨j,hj⟩:=List.mem_iff_getElem?.1 hv;exact (hr j v hj).2
  have Ie:vb≠b:=by
   rintro rfl
   have:=(hi.inj 0 1 2 0 vb o vo hb hvb).1;omega
  have Jx:∀j,j<cap*2->(w.cell? ⟨b,o+j,none⟩).isSome=true:=fun j hj=>N2 (by have:=hF.1;omega)
  have WP:∀j,j<cap*2->w.frozen? ⟨b,o+j,none⟩=false:=fun j hj=>Ng _ (by omega) (by have:=hF.1;omega)
  by_cases Kt:n+1<=cap
  ·-- in Ep
   have hX:cap*2<=bsz w b:=by have:=hF.1;omega
   have hwB:∀w':World,Bd b w w'->(∀j,j<o->w'.cell? ⟨b,j,none⟩=w.cell? ⟨b,j,none⟩)->(∀j v,(Py k cs vs)[j]?=some v->w'.cell? ⟨b,o+j,none⟩=some v) ->
     ∃us own,Ending.returned (Value.slice (some ⟨b,o,none⟩) (n+1) cap)=.returned (Gf us)∧Out w w' Y bt [.own 2 n (cs.map .sc),.sc (.int .i64 k),.tup [.own 2 1 (vs.map .sc)]] own ⟨[.own 2 (n+1) ((Py k cs vs).map .sc)],[vs.map .sc]⟩ us:=by
    intro w' hw Ac2 hL;exact⟨_,_,rfl,PE hb hvb Ie TZ Ac3 hw Ac2 Kt hF Ng hL (one Z2) G8 WQ hvf (by simp) (by simp) (by simp) (by simp)⟩
   by_cases hkn:k=n
   ·subst hkn
    have eI:Py k cs vs=cs++vs:=by
     unfold Py;rw[J4 (by omega),List.drop_of_length_le (by omega),List.append_nil]
    refine (BV b o k cap vb vo vc vs w Kt Rl (fun j hj=>by rw[Nat.add_assoc];exact Jx _ (by omega)) (fun j hj=>by rw[Nat.add_assoc];exact WP _ (by omega)) G8 WQ).mono ?_
    rintro e w' ⟨rfl,rfl⟩
    refine hwB _ (Bd.setCells b _ _ w) (fun j hj=>World.cell?_setCells_out b _ _ w ⟨b,j,none⟩ (fun _ _=>.inl (by show j<o+k*2;omega))) (fun j v hj=>?_)
    rw[eI] at hj;by_cases Bk:j<cs.length
    ·rw[List.getElem?_append_left Bk] at hj;rw[World.cell?_setCells_out b _ _ w ⟨b,o+j,none⟩ (fun _ _=>.inl (by show o+j<o+k*2;omega))]
     exact VO j v hj
    ·rw[List.getElem?_append_right (by omega)] at hj
     have hl:=Ke hj;have:=World.cell?_setCells_in b vs (o+k*2) w (fun t ht=>by rw[Nat.add_assoc];exact Jx _ (by omega)) (j-cs.length) hl
     rw[show o+k*2+(j-cs.length)=o+j by omega] at this
     rw[this,←hj,List.getElem?_eq_getElem hl]
   ·have Iy:k<n:=by omega
    have RF:∀q:Nat,q<w.heap.size->∃t,w.shape? q=some (t,bsz w q)∨bsz w q=0:=by
     intro q hq;unfold World.shape? bsz;cases w.heap[q]? with
     |none=>exact⟨0,.inr rfl⟩
     |some x=>cases x<;>first|exact⟨_,.inl rfl⟩|exact⟨0,.inr rfl⟩
    obtain⟨tA,hA⟩:=RF vb Ac3;obtain⟨tB,hB⟩:=RF b TZ;have Aqe:=hvF.1
    have hvE:w.frozen? ⟨vb,bsz w vb,none⟩=false:=by
     rcases hvF.2 with h|h
     ·omega
     ·exact h
    have hA:w.shape? vb=some (tA,bsz w vb):=hA.resolve_right (by omega)
    have hB:w.shape? b=some (tB,bsz w b):=hB.resolve_right (by omega)
    refine (QB b o n cap k vb vo vc cs vs w Iy Kt hn Ie hc Rl VO (fun j hj=>Jx j (by omega)) (fun j hj=>WP j (by omega)) G8 Z2 WQ tA tB _ _ hA hB (by omega) (hvf vo (Nat.le_refl _) (by omega)) hvE).mono ?_
    rintro e w' ⟨rfl,rfl⟩
    have WA:(cs.drop (k*2)).length=(n-k)*2:=by rw[List.length_drop,hc];omega
    have hw1:=(Bd.drew b w).trans (Bd.setCells b (cs.drop (k*2)) (o+(k+1)*2) w.drew);refine hwB _ (hw1.trans (Bd.setCells b vs (o+k*2) _)) (fun j hj=>?_) (fun j v hj=>?_)
    ·rw[World.cell?_setCells_out b _ _ _ ⟨b,j,none⟩ (fun _ _=>.inl (by show j<o+k*2;omega)),World.cell?_setCells_out b _ _ _ ⟨b,j,none⟩ (fun _ _=>.inl (by show j<o+(k+1)*2;omega))]
     rfl
    ·have WV:∀t,t<cap*2->((w.drew.setCells b (o+(k+1)*2) (cs.drop (k*2))).cell? ⟨b,o+t,none⟩).isSome=true:=fun t ht=>I6 b _ _ _ _ (Jx t ht)
     rcases GY hk hc Rl hj with⟨h1,h2⟩|⟨h1,h2,h3⟩|⟨h1,h2⟩
     ·rw[World.cell?_setCells_out b _ _ _ ⟨b,o+j,none⟩ (fun _ _=>.inl (by show o+j<o+k*2;omega)),World.cell?_setCells_out b _ _ _ ⟨b,o+j,none⟩ (fun _ _=>.inl (by show o+j<o+(k+1)*2;omega))]
      exact VO j v h2
     ·have hl:=Ke h3;have:=World.cell?_setCells_in b vs (o+k*2) (w.drew.setCells b (o+(k+1)*2) (cs.drop (k*2))) (fun t ht=>by rw[Nat.add_assoc];exact WV _ (by omega)) (j-k*2) hl
      rw[show o+k*2+(j-k*2)=o+j by omega] at this
      rw[this,←h3,List.getElem?_eq_getElem hl]
     ·have hl:=Ke h2;rw[World.cell?_setCells_out b _ _ _ ⟨b,o+j,none⟩ (fun _ _=>.inr (by show o+k*2+vs.length<=o+j;omega))]
      have:=World.cell?_setCells_in b (cs.drop (k*2)) (o+(k+1)*2) w.drew (fun t ht=>by rw[Nat.add_assoc];exact Jx _ (by omega)) (j-(k+1)*2) hl
      rw[show o+(k+1)*2+(j-(k+1)*2)=o+j by omega] at this
      rw[this,←h2,List.getElem?_eq_getElem hl]
  ·by_cases hkn:k=n
   ·exact grow_end _ cap LO (by omega) hkn (.inr ⟨_,rfl,fun j v hj=>by rw[Cb];exact VO j v hj⟩) Z2
   ·refine (RR b o n cap k vb vo vc cs vs w (by omega) LO (by omega) hn hc Rl VO G8 Z2 WQ).mono ?_
    rintro e w' ⟨rfl,rfl⟩
    obtain⟨G,hG⟩:∃G,G=grownCap w (n+1) cap 82:=⟨_,rfl⟩;rw[←hG];have hGn:n+1<=G:=by rw[hG];exact grownCap_ge w _ _ _
    obtain⟨ROW,HD⟩:∃ROW:Array Value,ROW=(cs.take (k*2)).toArray++Builtin.zeroCells #[.int .i64 0,.int .i64 0] (n+1-k)++Builtin.zeroCells #[.int .i64 0,.int .i64 0] (G-(n+1)):=⟨_,rfl⟩;rw[←HD]
    have hRl:ROW.size=G*2:=by
     rw[HD];simp[Builtin.zeroCells];omega
    have hR0:∀(j:Nat) v,j<k*2->cs[j]?=some v->ROW[j]?=some v:=by
     intro j v hj hv;rw[HD,Array.getElem?_append_left (by simp;omega),Array.getElem?_append_left (by simp;omega)]
     simp only[List.getElem?_toArray];rw[List.getElem?_take,Ni hj];exact hv
    clear HD;obtain⟨W0,hW0⟩:∃W0,W0=w.alloc (.cells ROW 82):=⟨_,rfl⟩;have hN0:T9 w W0:=by rw[hW0];exact T9.alloc w ROW _
    have hB0:bsz W0 w.heap.size=G*2:=by rw[hW0,(D0.alloc w ROW 82).bsz,hRl]
    have hC0:∀j,W0.cell? ⟨w.heap.size,j,none⟩=ROW[j]?:=fun j=>by rw[hW0];exact (D0.alloc w ROW 82).cell j
    rw[←hW0];have WA:(cs.drop (k*2)).length=(n-k)*2:=by rw[List.length_drop,hc];omega
    have Aiq:∀j,j<G*2->(W0.cell? ⟨w.heap.size,j,none⟩).isSome=true:=fun j hj=>N2 (by omega)
    obtain⟨W1,HZ⟩:∃W1,W1=(W0.drew.setCells w.heap.size (k*2) vs).drew:=⟨_,rfl⟩;have hw1:Bd w.heap.size W0 W1:=by rw[HZ];exact ((Bd.drew _ W0).trans (Bd.setCells _ vs (k*2) W0.drew)).trans (Bd.drew _ _)
    have hC1:∀j,W1.cell? ⟨w.heap.size,j,none⟩=(W0.drew.setCells w.heap.size (k*2) vs).cell? ⟨w.heap.size,j,none⟩:=fun j=>by rw[HZ];rfl
    have Ale:∀j,j<G*2->(W1.cell? ⟨w.heap.size,j,none⟩).isSome=true:=fun j hj=>N2 (by rw[hw1.bs];omega)
    rw[←HZ];have hw2:=hw1.trans (Bd.setCells w.heap.size (cs.drop (k*2)) ((k+1)*2) W1);refine fin_new undef _ G (hN0.wrote hw2) hGn (by rw[hw2.bs,hB0];exact Nat.le_refl _) (fun j v hj=>?_) (one Z2)
    rcases GY hk hc Rl hj with⟨h1,h2⟩|⟨h1,h2,h3⟩|⟨h1,h2⟩
    ·rw[World.cell?_setCells_out _ _ _ _ ⟨w.heap.size,j,none⟩ (fun _ _=>.inl (by show j<(k+1)*2;omega)),hC1,World.cell?_setCells_out _ _ _ _ ⟨w.heap.size,j,none⟩ (fun _ _=>.inl (by show j<k*2;omega))]
     show W0.cell? _=_;rw[hC0];exact hR0 j v h1 h2
    ·have hl:=Ke h3;rw[World.cell?_setCells_out _ _ _ _ ⟨w.heap.size,j,none⟩ (fun _ _=>.inl (by show j<(k+1)*2;omega)),hC1]
     have:=World.cell?_setCells_in w.heap.size vs (k*2) W0.drew (fun t ht=>Aiq _ (by omega)) (j-k*2) hl
     rw[show k*2+(j-k*2)=j by omega] at this
     rw[this,←h3,List.getElem?_eq_getElem hl]
    ·have hl:=Ke h2;have:=World.cell?_setCells_in w.heap.size (cs.drop (k*2)) ((k+1)*2) W1 (fun t ht=>Ale _ (by omega)) (j-(k+1)*2) hl
     rw[show (k+1)*2+(j-(k+1)*2)=j by omega] at this
     rw[this,←h2,List.getElem?_eq_getElem hl]
 |[],ps=>exact ps.elim
 |[_],ps=>exact ps.2.elim
 |[_,_],ps=>exact ps.2.2.elim
 |_::_::_::_::_,ps=>exact ps.2.2.2.elim
end
section
open Go.Proofs.Try (prog)
open Go.IntKind (wrap)
theorem extA (G:Glo):ExtOk G prog C0:=by
 intro f g args res hx hg;have hx0:(bif CH.any (Nat.beq f) then none else E0 f)=some g:=hx;cases hb:CH.any (Nat.beq f)
 rotate_left
 ·rw[hb,cond_true] at hx0;cases hx0
 rw[hb,cond_false] at hx0;have W3:E0 f=some g:=hx0;unfold E0 at W3;cases h2:Nat.beq f 44
 rotate_left
 ·rw[h2,cond_true] at W3;cases W3;rw[Nat.eq_of_beq_eq_true h2];exact Y5 G args res hg
 rw[h2,cond_false] at W3;cases h4:Nat.beq f 45
 rotate_left
 ·rw[h4,cond_true] at W3;cases W3;rw[Nat.eq_of_beq_eq_true h4];exact OT G args res hg
 rw[h4,cond_false] at W3;cases h3:Nat.beq f 1000000
 ·rw[h3,cond_false] at W3;cases W3
 ·rw[h3,cond_true] at W3;cases W3;cases hg
end
end Go.Proofs.Yteicjnihnacadaa.Pv
