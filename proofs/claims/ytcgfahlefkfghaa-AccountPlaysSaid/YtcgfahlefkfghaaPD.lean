/-
  The proof of AccountPlays, part 4.
-/
import Derived.Test.YtcgfahlefkfghaaPC
import Derived.Test.YtcgfahlefkfghaaRows
import Derived.Sort.Walk0
set_option linter.unusedSimpArgs false
set_option linter.unusedVariables false
namespace Go.Proofs.Ytcgfahlefkfghaa.Pv
section
open Go.Proofs.Try (prog)
open Go.IntKind (wrap)
section
variable {fu d:Nat} {xs:FuncId->Option (List PV->Option A2)}
theorem Ac1 {x k:Int}(hk:k=13∨k=16∨k=17∨k=21∨k=32):Ag (CX xs) prog fu (d+1) L6 [.sc (.int .u64 x),.sc (.int .i64 k)]=some ⟨[.sc (.int .u64 (rot x k))],[]⟩:=by
 rw[T7];rcases hk with rfl|rfl|rfl|rfl|rfl<;>kernel_rfl
theorem Afv {x k:Int}(hk:k=13∨k=16∨k=17∨k=21∨k=32):Ag (CX xs) prog fu (d+1) Ng [.sc (.int .u64 x),.sc (.int .u64 k)]=some ⟨[.sc (.int .u64 (rot x k))],[]⟩:=by
 rw[Vg];rcases hk with rfl|rfl|rfl|rfl|rfl<;>kernel_rfl
theorem Zu {a0 a1 a2 a3 a4:Int}:∀(k i nn:Nat)(v:W4),k<nn->i+k<=100 ->
  Ei fu (Ag (CX xs) prog fu (d+1)) a0 a1 a2 a3 a4 nn ((i+k:Nat):Int) i v.a v.b v.c v.d=some ⟨[],[(SK k v).cells]⟩
 |_,_,0,_,h,_=>by omega
 |0,i,nn+1,v,h,hi=>by
  rw[Hs,Vd _ _ _ (by omega)]
  rfl
 |k+1,i,nn+1,v,h,hi=>by
  have ih:=Zu (a0:=a0) (a1:=a1) (a2:=a2) (a3:=a3) (a4:=a4) k (i+1) nn (FK v) (by omega) (by omega)
  have w:wrap .i64 ((i:Int)+1)=((i+1:Nat):Int):=by rw[wrap_i64 (by omega) (by omega)];omega
  have r13:=fun x=>Ac1 (xs:=xs) (fu:=fu) (d:=d) (x:=x) (k:=13) (by simp)
  have r16:=fun x=>Ac1 (xs:=xs) (fu:=fu) (d:=d) (x:=x) (k:=16) (by simp)
  have r17:=fun x=>Ac1 (xs:=xs) (fu:=fu) (d:=d) (x:=x) (k:=17) (by simp)
  have r21:=fun x=>Ac1 (xs:=xs) (fu:=fu) (d:=d) (x:=x) (k:=21) (by simp)
  have r32:=fun x=>Ac1 (xs:=xs) (fu:=fu) (d:=d) (x:=x) (k:=32) (by simp)
  rw[Hs];simp (disch:=omega) only[Ea,r13,r16,r17,r21,r32,w];rw[show i+(k+1)=i+1+k by omega]
  exact ih
theorem IF (k:Nat)(hk:k<=4)(B2:100<=fu)(v:W4):Ag (CX xs) prog fu (d+2) J9 [.pbox [.sc (.int .u64 v.a),.sc (.int .u64 v.b),.sc (.int .u64 v.c),.sc (.int .u64 v.d)],.sc (.int .i64 k)]=some ⟨[],[(SK k v).cells]⟩:=by
 rw[R0];have:=Zu (xs:=xs) (fu:=fu) (d:=d) (a0:=v.a) (a1:=v.b) (a2:=v.c) (a3:=v.d) (a4:=k) k 0 fu v (by omega) (by omega)
 rw[Cm] at this;exact this
theorem HY (B2:100<=fu)(v:W4)(m:Int):Ag (CX xs) prog fu (d+3) Jv [.pbox [.sc (.int .u64 v.a),.sc (.int .u64 v.b),.sc (.int .u64 v.c),.sc (.int .u64 v.d)],.sc (.int .u64 m)]=some ⟨[],[(O3 v m).cells]⟩:=by
 rw[Rz];have r2:=IF (xs:=xs) (fu:=fu) (d:=d) 2 (by omega) B2 ⟨v.a,v.b,v.c,Dv .u64 v.d m⟩
 have e2:((2:Nat):Int)=2:=rfl;rw[e2] at r2;unfold O3;generalize SK 2 ⟨v.a,v.b,v.c,Dv .u64 v.d m⟩=R at r2 ⊢;simp only[W4.cells] at r2;simp only[Ea,r2];rfl
theorem A5y {a b:Int}{k:Nat}(hk:k<8)(ha:0<=a)(ha':a<((2 ^ (8*k):Nat):Int)) (hb:0<=b)(Hi:b<=255):BV .u64 a (Jt .u64 b (8*(k:Int)))=a+((2 ^ (8*k):Nat):Int)*b:=by
 obtain⟨n,rfl⟩:=Int.eq_ofNat_of_zero_le hb;have e:(8*(k:Int)).toNat=8*k:=by omega
 have hp:n*2 ^ (8*k)<=255*2 ^ (8*k):=Nat.mul_le_mul_right _ (by omega)
 have h56:2 ^ (8*k)<=2 ^ 56:=Nat.pow_le_pow_right (by omega) (by omega)
 have e56:(2:Nat) ^ 56=72057594037927936:=by decide
 rw[e56] at h56;generalize hP:2 ^ (8*k)=p at *
 have A4w:n*p<=255*p:=hp
 have hs:Jt .u64 (n:Int) (8*(k:Int))=(n:Int)*((2 ^ (8*(k:Int)).toNat:Nat):Int):=WI (by omega) (by omega) (by omega) (by
  rw[e,hP];have:((n*p:Nat):Int)<=((255*p:Nat):Int):=by omega
  rw[←Int.natCast_mul];omega)
 rw[hs,e,hP]
 have:=(KQ (a:=a) (c:=((n*p:Nat):Int)) (8*k) n ha (by rw[hP];exact ha') (by rw[hP]) (by
  have:((n*p:Nat):Int)<=((255*p:Nat):Int):=by omega
  omega)).1
 rw[←Int.natCast_mul,this,Int.mul_comm ((p:Nat):Int),←Int.natCast_mul]
theorem A7n (k:Nat):((2 ^ (8*k):Nat):Int)=256 ^ k:=by
 rw[Nat.pow_mul];simp
theorem Zj {call:Ai}{n:Nat}{c:List PV}{l:List Int}(hb:T0 l)(hl:l.length<=8):∀(r:List Int)(i nn:Nat),l.drop i=r->r.length<nn->i<=l.length ->
  Hb fu call n c nn (Pj (l.take i)) l.length (Am .u8 l) l.length i=some ⟨[.sc (.int .u64 (Pj l))],[]⟩
 |_,_,0,_,h,_=>by omega
 |[],i,nn+1,h,hn,hi=>by
  have:=drop_nil h;rw[Nc,Vd _ _ _ (by omega),Ha (by omega)]
 |b::r,i,nn+1,h,hn,hi=>by
  obtain⟨h1,h2,h3⟩:=C3 h;simp only[SV] at hn;have ih:=Zj (call:=call) (n:=n) (c:=c) hb hl r (i+1) nn h3 (by omega) (by omega)
  have hbb:=hb b (List.mem_of_getElem? h2);have w:wrap .i64 ((i:Int)+1)=((i+1:Nat):Int):=by rw[wrap_i64 (by omega) (by omega)];omega
  have w8:wrap .i64 (8*(i:Int))=8*(i:Int):=wrap_i64 (by omega) (by omega)
  have wb:wrap .u64 b=b:=D7 (by omega) (by omega)
  have Amm:=Rp (l:=l.take i) fun x hx=>hb x (List.mem_of_mem_take hx)
  have htl:(l.take i).length=i:=by rw[List.length_take];omega
  rw[htl] at Amm
  have hj:BV .u64 (Pj (l.take i)) (Jt .u64 b (8*(i:Int)))=Pj (l.take (i+1)):=by
   rw[A5y (by omega) Amm.1 (by rw[A7n];exact Amm.2) hbb.1 hbb.2,List.take_add_one,h2,Vs,htl,A7n]
   simp[Pj]
  rw[Nc];simp (disch:=omega) only[Ea,Rq,Ch,ati h2,w,w8,wb,hj];exact ih
theorem II {l:List Int}(hb:T0 l)(hl:l.length<=8)(B2:100<=fu):Ag (CX xs) prog fu (d+1) Rr [.lst false 1 l.length (Am .u8 l)]=some ⟨[.sc (.int .u64 (Pj l))],[]⟩:=by
 rw[AH];exact Zj hb hl l 0 fu rfl (by omega) (by omega)
theorem HB (k:IntKind)(l:List Int)(i:Nat):List.drop i (Am k l)=Am k (l.drop i):=by
 have:=Ol (Wm k) l i
 simpa using this
theorem Gb (k:IntKind)(l:List Int)(i:Nat):List.take i (Am k l)=Am k (l.take i):=by
 have:=Qv (Wm k) l i
 simpa using this
theorem T0.drop {l:List Int}(h:T0 l)(i:Nat):T0 (l.drop i):=fun x hx=>h x (List.mem_of_mem_drop hx)
theorem T0.take {l:List Int}(h:T0 l)(i:Nat):T0 (l.take i):=fun x hx=>h x (List.mem_of_mem_take hx)
theorem Aj5 {a0 a1:Int}{n:Nat}{c:List PV}{l:List Int}(hb:T0 l)(hl:l.length<=1099511627776)(B2:100<=fu)(nn:Nat)(v:W4):
  Hu fu (Ag (CX xs) prog fu (d+3)) a0 a1 n c (nn+1) l.length (Am .u8 l) ((l.length / 8:Nat):Int) ((l.length / 8:Nat):Int) ((l.length / 8:Nat):Int) v.a v.b v.c v.d=some ⟨[.sc (.int .u64 (ZM (YE (O3 v (Ly l)))))],[]⟩:=by
 have w8:wrap .i64 (8*((l.length / 8:Nat):Int))=((8*(l.length / 8):Nat):Int):=by rw[wrap_i64 (by omega) (by omega)];omega
 have wl:wrap .u64 (l.length:Int)=l.length:=D7 (by omega) (by omega)
 have SH:(l.drop (8*(l.length / 8))).length=l.length-8*(l.length / 8):=List.length_drop;have li:=II (xs:=xs) (fu:=fu) (d:=d+2) (hb.drop (8*(l.length / 8))) (by omega) B2
 rw[SH] at li;have tk:List.take (l.length-8*(l.length / 8)) (Am .u8 (l.drop (8*(l.length / 8))))=Am .u8 (l.drop (8*(l.length / 8))):=Ha (by rw[A0,SH];omega)
 have hbn:=Rp (hb.drop (8*(l.length / 8)));rw[SH] at hbn
 have hp7:(256:Int) ^ (l.length-8*(l.length / 8))<=256 ^ 7:=by
  have:(256:Nat) ^ (l.length-8*(l.length / 8))<=256 ^ 7:=Nat.pow_le_pow_right (by omega) (by omega)
  have h2:(((256:Nat) ^ (l.length-8*(l.length / 8)):Nat):Int)<=((256 ^ 7:Nat):Int):=by omega
  simpa using h2
 have Azm:BV .u64 (Pj (l.drop (8*(l.length / 8)))) (Jt .u64 (l.length:Int) 56)=Ly l:=by
  have hs:Jt .u64 (l.length:Int) 56=(((l.length % 256)*2 ^ 56:Nat):Int):=by
   show wrap .u64 ((l.length:Int)*2 ^ (min (56:Int).toNat IntKind.u64.bits))=_;have h2:(2:Int) ^ (min (56:Int).toNat IntKind.u64.bits)=72057594037927936:=by decide
   have h3:(2:Nat) ^ 56=72057594037927936:=by decide
   rw[h2,h3];simp only[wrap,IntKind.signed,IntKind.bits];simp;omega
  have h56:(256:Int) ^ 7=((2 ^ 56:Nat):Int):=by decide
  have h3:(2:Nat) ^ 56=72057594037927936:=by decide
  rw[hs,(KQ 56 (l.length % 256) hbn.1 (by omega) rfl (by omega)).1]
  unfold Ly;omega
 have ab:=HY (xs:=xs) (fu:=fu) (d:=d) B2 v (Ly l);have r4:=IF (xs:=xs) (fu:=fu) (d:=d+1) 4 (by omega) B2 ⟨(O3 v (Ly l)).a,(O3 v (Ly l)).b,Dv .u64 (O3 v (Ly l)).c 255,(O3 v (Ly l)).d⟩
 have e4:((4:Nat):Int)=4:=rfl;rw[e4] at r4;unfold YE;generalize O3 v (Ly l)=U at ab r4 ⊢;generalize SK 4 ⟨U.a,U.b,Dv .u64 U.c 255,U.d⟩=R at r4 ⊢;simp only[W4.cells] at ab r4;rw[Rv];simp (disch:=omega) only[Ea,Rq,Ch,w8,wl,HB,tk,li,Azm,ab,r4];rfl
theorem PC {a0 a1:Int}{n:Nat}{c:List PV}{l:List Int}(hb:T0 l)(hl:l.length<=1099511627776)(B2:100<=fu):∀(k i nn:Nat)(v:W4),i+k=l.length / 8->k<nn ->
  Hu fu (Ag (CX xs) prog fu (d+3)) a0 a1 n c nn l.length (Am .u8 l) ((l.length / 8:Nat):Int) ((l.length / 8:Nat):Int) i v.a v.b v.c v.d=some ⟨[.sc (.int .u64 (ZM (YE (O3 (FY k v (l.drop (8*i))) (Ly l)))))],[]⟩
 |_,_,0,_,_,h=>by omega
 |0,i,nn+1,v,hi,hn=>by
  have e:i=l.length / 8:=by omega
  subst e;exact Aj5 hb hl B2 nn v
 |k+1,i,nn+1,v,hi,hn=>by
  have w:wrap .i64 ((i:Int)+1)=((i+1:Nat):Int):=by rw[wrap_i64 (by omega) (by omega)];omega
  have w8:wrap .i64 (8*(i:Int))=((8*i:Nat):Int):=by rw[wrap_i64 (by omega) (by omega)];omega
  have w88:wrap .i64 (((8*i:Nat):Int)+8)=((8*i+8:Nat):Int):=by rw[wrap_i64 (by omega) (by omega)];omega
  have SH:((l.drop (8*i)).take 8).length=8:=by rw[List.length_take,List.length_drop];omega
  have li:=II (xs:=xs) (fu:=fu) (d:=d+2) ((hb.drop (8*i)).take 8) (by omega) B2
  rw[SH] at li;have e8:8*i+8-8*i=8:=by omega
  have ab:=HY (xs:=xs) (fu:=fu) (d:=d) B2 v (Pj ((l.drop (8*i)).take 8));have ih:=PC (a0:=a0) (a1:=a1) (n:=n) (c:=c) hb hl B2 k (i+1) nn (O3 v (Pj ((l.drop (8*i)).take 8))) (by omega) (by omega)
  have eN:FY (k+1) v (l.drop (8*i))=FY k (O3 v (Pj ((l.drop (8*i)).take 8))) (l.drop (8*(i+1))):=by
   rw[FY,List.drop_drop,show 8*i+8=8*(i+1) by omega]
  rw[eN];generalize O3 v (Pj ((l.drop (8*i)).take 8))=U at ab ih ⊢;simp only[W4.cells] at ab;rw[Rv];simp (disch:=omega) only[Ea,Rq,Ch,w,w8,w88,e8,HB,Gb,li,ab];exact ih
theorem Aph {l:List Int}(hb:T0 l)(hl:l.length<=1099511627776)(B2:100<=fu)(hf:l.length<fu)(k0 k1:Int):Ag (CX xs) prog fu (d+4) Xv [.sc (.int .u64 k0),.sc (.int .u64 k1),.lst false 1 l.length (Am .u8 l)]=some ⟨[.sc (.int .u64 (Am6 k0 k1 l))],[]⟩:=by
 rw[LA]
 have w:wrap .i64 (Int.tdiv (l.length:Int) 8)=((l.length / 8:Nat):Int):=by
  rw[Int.tdiv_eq_ediv_of_nonneg (by omega),wrap_i64 (by omega) (by omega)]
  omega
 have lp:=PC (xs:=xs) (fu:=fu) (d:=d) (a0:=k0) (a1:=k1) (n:=l.length) (c:=Am .u8 l) hb hl B2 (l.length / 8) 0 fu (Aqr k0 k1) (by omega) (by omega)
 simp only[Kx,w];exact lp
theorem Mr (v:W4):Ag (CX xs) prog fu (d+2) Lz [.agg [.sc (.int .u64 v.a),.sc (.int .u64 v.b),.sc (.int .u64 v.c),.sc (.int .u64 v.d)]]=some ⟨[.agg (FK v).cells],[]⟩:=by
 have r13:=fun x=>Afv (xs:=xs) (fu:=fu) (d:=d) (x:=x) (k:=13) (by simp)
 have r16:=fun x=>Afv (xs:=xs) (fu:=fu) (d:=d) (x:=x) (k:=16) (by simp)
 have r17:=fun x=>Afv (xs:=xs) (fu:=fu) (d:=d) (x:=x) (k:=17) (by simp)
 have r21:=fun x=>Afv (xs:=xs) (fu:=fu) (d:=d) (x:=x) (k:=21) (by simp)
 have r32:=fun x=>Afv (xs:=xs) (fu:=fu) (d:=d) (x:=x) (k:=32) (by simp)
 rw[T9];simp (disch:=omega) only[Ea,r13,r16,r17,r21,r32];rfl
def R3 (l:List Int)(i k:Nat):Int:=if i+k<l.length then l.getD (i+k) 0 else if k=7 then (l.length:Int) % 256 else 0
def pc (l:List Int)(i:Nat):List Int:=(List.range 8).map (R3 l i)
theorem Bbh {l:List Int}(hb:T0 l)(i:Nat):T0 (pc l i):=by
 intro x hx;obtain⟨k,hk,rfl⟩:=List.mem_map.1 hx;unfold R3;split
 ·rename_i h;rw[List.getD_eq_getElem?_getD,List.getElem?_eq_getElem h];exact hb _ (List.getElem_mem h)
 ·split<;>omega
theorem Aii {l:List Int}{i:Nat}(h:i+8<=l.length):pc l i=(l.drop i).take 8:=by
 refine List.ext_getElem (by simp[pc];omega) fun k h1 h2=>?_
 have hk:k<8:=by simpa [pc] using h1
 simp only[pc,List.getElem_map,List.getElem_range,List.getElem_take,List.getElem_drop,R3];rw[J7 (by omega),List.getD_eq_getElem?_getD,List.getElem?_eq_getElem (by omega)]
 rfl
theorem HT (x:Int):∀n,Pj (List.replicate n 0++[x])=256 ^ n*x
 |0=>by simp[Pj]
 |n+1=>by
  rw[List.replicate_succ,List.cons_append,Pj,HT x n,Int.pow_succ,Int.mul_comm (256 ^ n) 256,Int.mul_assoc];omega
theorem Ai9 {l:List Int}:Pj (pc l (8*(l.length / 8)))=Ly l:=by
 have e:pc l (8*(l.length / 8))=l.drop (8*(l.length / 8))++(List.replicate (7-(l.length-8*(l.length / 8))) 0++[(l.length:Int) % 256]):=by
  refine List.ext_getElem (by simp[pc];omega) fun k h1 h2=>?_
  have hk:k<8:=by simpa [pc] using h1
  simp only[pc,List.getElem_map,List.getElem_range,R3];by_cases hc:8*(l.length / 8)+k<l.length
  ·rw[J7 hc,List.getElem_append_left (by rw[List.length_drop];omega),List.getElem_drop,List.getD_eq_getElem?_getD,List.getElem?_eq_getElem hc]
   rfl
  ·rw[Ms hc,List.getElem_append_right (by rw[List.length_drop];omega)]
   by_cases h7:k=7
   ·rw[J7 h7,List.getElem_append_right (by simp;omega)]
    simp
   ·rw[Ms h7,List.getElem_append_left (by simp;omega)]
    simp
 rw[e,Vs,HT];unfold Ly
 have:(256:Int) ^ (l.drop (8*(l.length / 8))).length*(256 ^ (7-(l.length-8*(l.length / 8)))*((l.length:Int) % 256))=72057594037927936*((l.length:Int) % 256):=by
  rw[←Int.mul_assoc,←Int.pow_add,List.length_drop];have:l.length-8*(l.length / 8)+(7-(l.length-8*(l.length / 8)))=7:=by omega
  rw[this];rfl
 rw[this]
theorem At4 {a b:Int}(ha:0<=a)(ha':a<72057594037927936)(hb:0<=b)(Hi:b<=255):BV .u64 (Jt .u64 a 8) b=b+256*a:=by
 obtain⟨n,rfl⟩:=Int.eq_ofNat_of_zero_le ha
 have hs:Jt .u64 (n:Int) 8=((n*2 ^ 8:Nat):Int):=by
  have:=WI (a:=(n:Int)) (k:=8) (by omega) (by omega) (by omega) (by
   have:(2 ^ (8:Int).toNat:Nat)=256:=by decide
   rw[this];omega)
  rw[this];have:(2 ^ (8:Int).toNat:Nat)=256:=by decide
  rw[this];have:(2 ^ 8:Nat)=256:=by decide
  rw[this];omega
 have h8:(2 ^ 8:Nat)=256:=by decide
 rw[hs,(KQ (a:=b) 8 n hb (by rw[h8];omega) rfl (by rw[h8];omega)).2,h8]
 omega
theorem WU {a0 a1:Int}{n m0:Nat}{c:List PV}{l:List Int}(hb:T0 l)(hl:l.length<=1099511627776){i:Nat}(hi:i<=l.length)(v:W4):∀(j nn:Nat),j<=8->j<nn ->
  Dz fu (Ag (CX xs) prog fu (d+2)) a0 a1 n c m0 nn l.length (Am .u8 l) i (Pj ((pc l i).drop j)) ((j:Int)-1) v.cells =
   Er fu (Ag (CX xs) prog fu (d+2)) a0 a1 n c m0 l.length (Am .u8 l) ((i+8:Nat):Int) (O3 v (Pj (pc l i))).cells
 |_,0,_,h=>by omega
 |0,nn+1,hj,hn=>by
  have w8:wrap .i64 ((i:Int)+8)=((i+8:Nat):Int):=by rw[wrap_i64 (by omega) (by omega)];omega
  have r1:=Mr (xs:=xs) (fu:=fu) (d:=d) ⟨v.a,v.b,v.c,Dv .u64 v.d (Pj (pc l i))⟩;have r2:=Mr (xs:=xs) (fu:=fu) (d:=d) (FK ⟨v.a,v.b,v.c,Dv .u64 v.d (Pj (pc l i))⟩);have eA:O3 v (Pj (pc l i))=At7 (FK (FK ⟨v.a,v.b,v.c,Dv .u64 v.d (Pj (pc l i))⟩)) (Pj (pc l i)):=rfl;rw[eA];generalize FK ⟨v.a,v.b,v.c,Dv .u64 v.d (Pj (pc l i))⟩=U at r1 r2 ⊢;generalize FK U=U2 at r2 ⊢;simp only[W4.cells] at r1 r2;rw[Ld,Vd _ _ _ (by omega),Cl]
  simp only[W4.cells,List.getD_cons_zero,List.getD_cons_succ,JY,Kx];simp (disch:=first|omega|(simp;done)) only[Ea,Bl,List.take_succ_cons,List.take_zero,List.drop_succ_cons,Cl,List.drop_nil,List.cons_append,Zzq,List.append_nil,SV,Dg,List.getD_cons_zero,List.getD_cons_succ,r1,r2,w8,Cm,Nat.reduceAdd,Nat.reduceLeDiff,List.append_eq]
  rfl
 |j+1,nn+1,hj,hn=>by
  have ih:=WU (a0:=a0) (a1:=a1) (n:=n) (m0:=m0) (c:=c) hb hl hi v j nn (by omega) (by omega)
  have hw:wrap .i64 ((i:Int)+(((j+1:Nat):Int)-1))=((i+j:Nat):Int):=by rw[wrap_i64 (by omega) (by omega)];omega
  have wj:wrap .i64 (((j+1:Nat):Int)-1-1)=(j:Int)-1:=by rw[wrap_i64 (by omega) (by omega)];omega
  have hd:(pc l i).drop j=R3 l i j::(pc l i).drop (j+1):=by
   rw[List.drop_eq_getElem_cons (by simp[pc];omega)]
   simp[pc]
  have hB:=Bbh hb i;have hbn:=Rp (hB.drop (j+1))
  have hp7:(256:Int) ^ ((pc l i).drop (j+1)).length<=72057594037927936:=by
   have Em:((pc l i).drop (j+1)).length<=7:=by simp[pc]
   have:(256:Nat) ^ ((pc l i).drop (j+1)).length<=256 ^ 7:=Nat.pow_le_pow_right (by omega) Em
   have h2:(((256:Nat) ^ ((pc l i).drop (j+1)).length:Nat):Int)<=((256 ^ 7:Nat):Int):=by omega
   simpa using h2
  have hc0:0<=R3 l i j∧R3 l i j<=255:=hB _ (by rw[←Cl (l:=pc l i)];exact List.mem_of_mem_drop (i:=j) (by rw[Cl,hd];simp))
  have hj2:BV .u64 (Jt .u64 (Pj ((pc l i).drop (j+1))) 8) (R3 l i j)=Pj ((pc l i).drop j):=by
   rw[At4 hbn.1 (by omega) hc0.1 hc0.2,hd]
   rfl
  have wc:wrap .u64 (R3 l i j)=R3 l i j:=D7 (by omega) (by omega)
  rw[Ld,CE _ _ _ (by omega)]
  simp only[Kx,hw];by_cases c1:i+j<l.length
  ·have e:R3 l i j=l.getD (i+j) 0:=by unfold R3;rw[J7 c1]
   have e2:l[i+j]?=some (R3 l i j):=by rw[e,List.getD_eq_getElem?_getD,List.getElem?_eq_getElem c1];rfl
   rw[CE _ _ _ (by omega)]
   simp (disch:=omega) only[Ea,Rq,Ch,ati e2,wc,hj2,wj];exact ih
  ·rw[Vd _ _ _ (by omega)]
   by_cases h7:j=7
   ·subst h7;have e:R3 l i 7=(l.length:Int) % 256:=by unfold R3;rw[Ms c1,J7 rfl]
    have e8:wrap .u8 (l.length:Int)=R3 l i 7:=by
     rw[e];simp only[wrap,IntKind.signed,IntKind.bits];simp
    rw[VR,J7 (by omega),e8,wc,hj2,wj]
    exact ih
   ·have e:R3 l i j=0:=by unfold R3;rw[Ms c1,Ms h7]
    rw[e] at hj2;rw[VR,Ms (by omega),hj2,wj]
    exact ih
theorem HC {a0 a1:Int}{n:Nat}{c:List PV}{l:List Int}(hb:T0 l)(hl:l.length<=1099511627776)(B2:100<=fu):∀(k i nn:Nat)(v:W4),i+k=l.length / 8->k+1<nn ->
  Er fu (Ag (CX xs) prog fu (d+2)) a0 a1 n c nn l.length (Am .u8 l) ((8*i:Nat):Int) v.cells=some ⟨[.sc (.int .u64 (ZM (YE (O3 (FY k v (l.drop (8*i))) (Ly l)))))],[]⟩
 |_,_,0,_,_,h=>by omega
 |k,i,nn+1,v,hi,hn=>by
  have step:=WU (xs:=xs) (fu:=fu) (d:=d) (a0:=a0) (a1:=a1) (n:=n) (m0:=nn) (c:=c) hb hl (i:=8*i) (by omega) v 8 fu (by omega) (by omega)
  have e0:Pj ((pc l (8*i)).drop 8)=0:=by rw[List.drop_of_length_le (by simp[pc])];rfl
  rw[e0] at step;rw[Lk,CE _ _ _ (by omega)]
  refine step.trans ?_;cases k with
  |zero=>
   have e:i=l.length / 8:=by omega
   subst e;rw[Ai9];generalize hv:O3 v (Ly l)=u;obtain⟨nn',rfl⟩:∃nn',nn=nn'+1:=⟨nn-1,by omega⟩
   have r1:=Mr (xs:=xs) (fu:=fu) (d:=d) ⟨u.a,u.b,Dv .u64 u.c 255,u.d⟩;have r2:=Mr (xs:=xs) (fu:=fu) (d:=d) (FK ⟨u.a,u.b,Dv .u64 u.c 255,u.d⟩);have r3:=Mr (xs:=xs) (fu:=fu) (d:=d) (FK (FK ⟨u.a,u.b,Dv .u64 u.c 255,u.d⟩));have r4:=Mr (xs:=xs) (fu:=fu) (d:=d) (FK (FK (FK ⟨u.a,u.b,Dv .u64 u.c 255,u.d⟩)))
   have eF:ZM (YE (O3 (FY 0 v (l.drop (8*(l.length / 8)))) (Ly l)))=ZM (FK (FK (FK (FK ⟨u.a,u.b,Dv .u64 u.c 255,u.d⟩)))):=by
    rw[FY,hv];rfl
   rw[eF];clear eF;generalize FK ⟨u.a,u.b,Dv .u64 u.c 255,u.d⟩=U1 at r1 r2 r3 r4 ⊢;generalize FK U1=U2 at r2 r3 r4 ⊢;generalize FK U2=U3 at r3 r4 ⊢;generalize FK U3=U4 at r4 ⊢;simp only[W4.cells] at r1 r2 r3 r4;rw[Lk,Vd _ _ _ (by omega)]
   simp only[W4.cells,List.getD_cons_zero,List.getD_cons_succ,JY,Kx];simp (disch:=first|omega|(simp;done)) only[Ea,Bl,List.take_succ_cons,List.take_zero,List.drop_succ_cons,Cl,List.drop_nil,List.cons_append,Zzq,List.append_nil,SV,Dg,List.getD_cons_zero,List.getD_cons_succ,r1,r2,r3,r4,Cm,Nat.reduceAdd,Nat.reduceLeDiff,List.append_eq]
   rfl
  |succ k=>
   have ih:=HC (a0:=a0) (a1:=a1) (n:=n) (c:=c) hb hl B2 k (i+1) nn (O3 v (Pj (pc l (8*i)))) (by omega) (by omega)
   rw[show 8*i+8=8*(i+1) by omega,ih,Aii (by omega)]
   simp only[FY,List.drop_drop];rw[show 8*(i+1)=8*i+8 by omega]
theorem Aji {l:List Int}(hb:T0 l)(hl:l.length<=1099511627776)(B2:100<=fu)(hf:l.length<fu)(k0 k1:Int):Ag (CX xs) prog fu (d+3) Nx [.sc (.int .u64 k0),.sc (.int .u64 k1),.lst false 1 l.length (Am .u8 l)]=some ⟨[.sc (.int .u64 (Am6 k0 k1 l))],[]⟩:=by
 rw[Xo];exact HC (xs:=xs) (fu:=fu) (d:=d) (a0:=k0) (a1:=k1) (n:=l.length) (c:=Am .u8 l) hb hl B2 (l.length / 8) 0 fu (Aqr k0 k1) (by omega) (by omega)
theorem KA {l:List Int}(hb:T0 l)(hl:l.length<=1099511627776)(B2:100<=fu)(hf:l.length<fu)(key dom:Int):Ag (CX xs) prog fu (d+4) Oe [.sc (.int .u64 key),.sc (.int .i64 dom),.lst false 1 l.length (Am .u8 l)]=some ⟨[.sc (.int .u64 (BC key dom l))],[]⟩:=by
 rw[Ws];have s:=Aji (xs:=xs) (fu:=fu) (d:=d) hb hl B2 hf key (wrap .u64 (1+wrap .u64 dom));simp only[Ea,s];rfl
end
end
section
open Go.Proofs.Try (prog)
open Go.IntKind (wrap)
def Ku (w:Int)(k:Nat):Int:=wrap .u8 (GD .u64 w (56-8*(k:Int)))
def Gk (w:Int):List Int:=(List.range' 0 8).map (Ku w)
def B9 (ws:List Int):List Int:=ws.flatMap Gk
theorem E3 (w:Int):(Gk w).length=8:=rfl
section
variable {fu d:Nat} {xs:FuncId->Option (List PV->Option A2)} {call:Ai} {n:Nat} {c:List PV}
theorem OC {ws:List Int}{w:Int}{m0 l:Nat}{i k:Int}:∀(r j nn:Nat)(bs:List Int),8-j=r->r<nn->j<=8->bs.length+r<=34359738368 ->
  Hy fu call n c m0 nn bs.length w l (Am .u64 ws) k i j (Am .u8 bs) =
   F3 fu call n c m0 (bs++(List.range' j (8-j)).map (Ku w)).length l (Am .u64 ws) k (wrap .i64 (i+1)) (Am .u8 (bs++(List.range' j (8-j)).map (Ku w)))
 |r,j,0,bs,_,h,_,_=>by omega
 |0,j,nn+1,bs,hr,_,hj,_=>by
  have e:j=8:=by omega
  subst e;rw[Of];simp (disch:=omega) only[Ea];simp
 |r+1,j,nn+1,bs,hr,hn,hj,hb=>by
  have ih:=OC (ws:=ws) (w:=w) (m0:=m0) (l:=l) (i:=i) (k:=k) r (j+1) nn (bs++[Ku w j]) (by omega) (by omega) (by omega) (by simp;omega)
  have e8:=A0 .u8 bs;rw[Of]
  have hx:wrap .u8 (GD .u64 w (wrap .i64 (56-wrap .i64 (8*(j:Int)))))=Ku w j:=by
   rw[wrap_i64 (x:=8*(j:Int)) (by omega) (by omega),wrap_i64 (by omega) (by omega)]
   rfl
  have h0:0<=wrap .i64 (56-wrap .i64 (8*(j:Int))):=by
   rw[wrap_i64 (x:=8*(j:Int)) (by omega) (by omega),wrap_i64 (by omega) (by omega)]
   omega
  have SG:List.range' j (8-j)=j::List.range' (j+1) (8-(j+1)):=by
   rw[show 8-j=(8-(j+1))+1 by omega]
   exact List.range'_succ
  simp (disch:=first|omega|exact h0) only[Ea,Ch,hx,tki,PR,wrap_i64 (x:=(j:Int)+1)];rw[SG];simp only[AK,SV,Dg,Cm,Zzv,List.map_cons,List.singleton_append] at ih ⊢;exact ih
theorem DQ {ws:List Int}(hl:ws.length<=1073741824)(B2:100<=fu):∀(r:List Int)(i nn:Nat)(bs:List Int),ws.drop i=r->r.length<nn->bs.length=8*i ->
  F3 fu call n c nn bs.length ws.length (Am .u64 ws) ws.length i (Am .u8 bs)=some ⟨[.own 1 (bs++B9 r).length (Am .u8 (bs++B9 r))],[]⟩
 |r,i,0,_,_,h,_=>by omega
 |[],i,nn+1,bs,h,_,_=>by
  have:=drop_nil h;have e8:=A0 .u8 bs;rw[Oq];simp (disch:=omega) only[Ea,Ch,tki,B9,List.flatMap_nil,List.append_nil]
 |w::r,i,nn+1,bs,h,hn,hb=>by
  obtain⟨h1,h2,h3⟩:=C3 h;simp only[SV] at hn;rw[Oq];simp (disch:=omega) only[Ea,Rq,Ch,ati h2];rw[show (0:Int)=((0:Nat):Int) from rfl,OC 8 0 fu bs rfl (by omega) (by omega) (by omega),wrap_i64 (by omega) (by omega)]
  have ih:=DQ hl B2 r (i+1) nn (bs++Gk w) h3 (by omega) (by simp[E3];omega)
  have e:bs++Gk w++B9 r=bs++B9 (w::r):=by simp[B9]
  rw[e] at ih;exact ih
theorem PJ {ws:List Int}(hl:ws.length<=1073741824)(B2:100<=fu)(hf:ws.length<fu):Ag (CX xs) prog fu (d+1) I5 [.lst false 1 ws.length (Am .u64 ws)]=some ⟨[.own 1 (B9 ws).length (Am .u8 (B9 ws))],[]⟩:=by
 rw[DP];simp (disch:=omega) only[Ea,wrap_i64,Int.mul_one];exact DQ hl B2 ws 0 fu [] rfl hf rfl
theorem IM {ws:List Int}{w:Int}{m0 i:Nat}(hw:ws[i]?=some w):∀(r nn:Nat)(j:Int)(bs:List Int),j=(r:Int)-1->r<=8->r<nn->bs.length+r<=34359738368 ->
  E8 fu call n c m0 nn ws.length (Am .u64 ws) bs.length i j (Am .u8 bs) =
   D5 fu call n c m0 ws.length (Am .u64 ws) (bs++(List.range' (8-r) r).map (Ku w)).length (wrap .i64 (i+1)) (Am .u8 (bs++(List.range' (8-r) r).map (Ku w)))
 |r,0,j,bs,_,_,h,_=>by omega
 |0,nn+1,j,bs,hr,_,_,_=>by
  rw[Jc];simp (disch:=omega) only[Ea];simp
 |r+1,nn+1,j,bs,hr,AC,hn,hb=>by
  have hi:=H4 hw;have ih:=IM (m0:=m0) hw r nn (j-1) (bs++[Ku w (8-(r+1))]) (by omega) (by omega) (by omega) (by simp;omega)
  have e8:=A0 .u8 bs
  have hx:wrap .u8 (GD .u64 w (wrap .u64 (wrap .i64 (8*j))))=Ku w (8-(r+1)):=by
   rw[wrap_i64 (by omega) (by omega),D7 (by omega) (by omega)]
   unfold Ku;rw[show 56-8*((8-(r+1):Nat):Int)=8*j by omega]
  have h0:0<=wrap .u64 (wrap .i64 (8*j)):=by
   rw[wrap_i64 (by omega) (by omega),D7 (by omega) (by omega)]
   omega
  have SG:List.range' (8-(r+1)) (r+1)=(8-(r+1))::List.range' (8-r) r:=by
   rw[List.range'_succ,show 8-(r+1)+1=8-r by omega]
  rw[Jc];simp (disch:=first|omega|exact h0) only[Ea,Rq,Ch,ati hw,hx,tki,PR,wrap_i64 (x:=j-1)];rw[SG];simp only[AK,SV,Dg,Cm,Zzv,List.map_cons,List.singleton_append] at ih ⊢;exact ih
theorem Zn {ws:List Int}(hl:ws.length<=1073741824)(B2:100<=fu):∀(r:List Int)(i nn:Nat)(bs:List Int),ws.drop i=r->r.length<nn->bs.length=8*i ->
  D5 fu call n c nn ws.length (Am .u64 ws) bs.length i (Am .u8 bs)=some ⟨[.own 1 (bs++B9 r).length (Am .u8 (bs++B9 r))],[]⟩
 |r,i,0,_,_,h,_=>by omega
 |[],i,nn+1,bs,h,_,_=>by
  have:=drop_nil h;have e8:=A0 .u8 bs;rw[Jf];simp (disch:=omega) only[Ea,Ch,tki,B9,List.flatMap_nil,List.append_nil]
 |w::r,i,nn+1,bs,h,hn,hb=>by
  obtain⟨h1,h2,h3⟩:=C3 h;simp only[SV] at hn;rw[Jf];simp (disch:=omega) only[Ea];rw[IM h2 8 fu 7 bs rfl (by omega) (by omega) (by omega),wrap_i64 (by omega) (by omega)]
  have ih:=Zn hl B2 r (i+1) nn (bs++Gk w) h3 (by omega) (by simp[E3];omega)
  have e:bs++Gk w++B9 r=bs++B9 (w::r):=by simp[B9]
  rw[e] at ih;exact ih
theorem IC {ws:List Int}(hl:ws.length<=1073741824)(B2:100<=fu)(hf:ws.length<fu):Ag (CX xs) prog fu (d+1) Fh [.lst false 1 ws.length (Am .u64 ws)]=some ⟨[.own 1 (B9 ws).length (Am .u8 (B9 ws))],[]⟩:=by
 rw[Ul];exact Zn hl B2 ws 0 fu [] rfl hf rfl
end
end
section
open Go.IntKind (wrap)
theorem Afb (w:Int)(k:Nat):0<=Ku w k∧Ku w k<=255:=by
 unfold Ku;simp only[wrap,IntKind.signed,IntKind.bits];simp;omega
theorem WS (w:Int):T0 (Gk w):=by
 intro x hx;obtain⟨k,_,rfl⟩:=List.mem_map.1 hx;exact Afb w k
theorem NU (ws:List Int):T0 (B9 ws):=by
 intro x hx;obtain⟨w,_,hx⟩:=List.mem_flatMap.1 hx;exact WS w x hx
theorem Q7 (ws:List Int):(B9 ws).length=8*ws.length:=by
 induction ws with
 |nil=>rfl
 |cons w ws ih=>
  show (Gk w++B9 ws).length=_;rw[AK,ih,E3,SV];omega
def Bj7 (m:Int)(k:Nat):Int:=wrap .i64 (Aac .u64 (GD .u64 m (60-4*(k:Int))) 15)
def dl (m:Int)(i:Nat):List Int:=(List.range i).map (Bj7 m)++List.replicate (18-i) 0
theorem Aj2 {a b:List Int}(ha:T0 a)(hb:T0 b):T0 (a++b):=by
 intro x hx;rcases List.mem_append.1 hx with hx|hx
 ·exact ha x hx
 ·exact hb x hx
end
section
open Go.IntKind (wrap)
structure Sd where
 id:List Int
 ht:Int
 root:Int
 model:Int
 fmt:Int
 sh:Bool
 used:Int
 rg:List (Int × Int)
 sus:Bool
 since:Int
 last:Int
def H5 (l:List (Int × Int)):List PV:=l.flatMap fun p=>[.sc (.int .i64 p.1),.sc (.int .i64 p.2)]
theorem Mb (l:List (Int × Int)):(H5 l).length=l.length*2:=by
 induction l with
 |nil=>rfl
 |cons p r ih=>show ([_,_]++H5 r).length=_;rw[AK,ih,SV];simp;omega
theorem Aci (p:Int × Int)(r:List (Int × Int)):H5 (p::r)=.sc (.int .i64 p.1) :: .sc (.int .i64 p.2)::H5 r:=rfl
theorem Aje (l r:List (Int × Int)):H5 (l++r)=H5 l++H5 r:=List.flatMap_append
def Sd.cells (x:Sd):List PV:=[.lst false 1 x.id.length (Am .u8 x.id),.sc (.int .i64 x.ht),.sc (.int .u64 x.root),.sc (.int .u64 x.model),.sc (.int .i64 x.fmt),.sc (.bool x.sh),.sc (.int .u64 x.used),.lst false 2 x.rg.length (H5 x.rg),.sc (.bool x.sus),.sc (.int .i64 x.since),.sc (.int .i64 x.last)]
def Ajt (used leaf:Int):Bool:=used.toNat.testBit leaf.toNat
theorem Ahb {a b:Int}(ha:0<=a)(ha1:a<=18446744073709551615)(hb:0<=b)(Fk:b<=18446744073709551615):Aac .u64 a b=((a.toNat &&& b.toNat:Nat):Int):=by
 have e:(BitVec.ofInt 64 a &&& BitVec.ofInt 64 b).toNat=a.toNat &&& b.toNat:=by
  rw[BitVec.toNat_and,BitVec.toNat_ofInt,BitVec.toNat_ofInt]
  congr 1<;>omega
 have AC:a.toNat &&& b.toNat<=a.toNat:=Nat.and_le_left;show wrap .u64 ((BitVec.ofInt 64 a &&& BitVec.ofInt 64 b).toNat:Int)=_;rw[e];exact D7 (by omega) (by omega)
theorem EG {n:Nat}(h:n<=15):(2:Nat) ^ n<=32768:=Nat.le_trans (Nat.pow_le_pow_right (by omega) h) (by decide)
theorem Bu9 {k:Int}(h0:0<=k)(h1:k<=15):Jt .u64 1 k=((2 ^ k.toNat:Nat):Int):=by
 have hp:=EG (n:=k.toNat) (by omega)
 have e:min k.toNat IntKind.u64.bits=k.toNat:=Nat.min_eq_left (by show k.toNat<=64;omega)
 show wrap .u64 (1*2 ^ (min k.toNat IntKind.u64.bits))=_;rw[e,Int.one_mul,show (2:Int) ^ k.toNat=((2 ^ k.toNat:Nat):Int) by simp]
 generalize 2 ^ k.toNat=m at hp ⊢;exact D7 (by omega) (by omega)
theorem A12 {k:Int}(h0:0<=k)(h1:k<=15):Jt .i64 1 k=((2 ^ k.toNat:Nat):Int):=by
 have hp:=EG (n:=k.toNat) (by omega)
 have e:min k.toNat IntKind.i64.bits=k.toNat:=Nat.min_eq_left (by show k.toNat<=64;omega)
 show wrap .i64 (1*2 ^ (min k.toNat IntKind.i64.bits))=_;rw[e,Int.one_mul,show (2:Int) ^ k.toNat=((2 ^ k.toNat:Nat):Int) by simp]
 generalize 2 ^ k.toNat=m at hp ⊢;exact wrap_i64 (by omega) (by omega)
theorem Ajd (a k:Nat):(a &&& 2 ^ k≠0)↔a.testBit k=true:=by
 constructor
 ·intro h;cases hb:a.testBit k
  ·refine absurd (Nat.eq_of_testBit_eq fun i=>?_) h
   rw[Nat.testBit_and,Nat.testBit_two_pow,Nat.zero_testBit];by_cases e:k=i
   ·subst e;simp[hb]
   ·simp[e]
  ·rfl
 ·intro h e;have:=Nat.testBit_and a (2 ^ k) k;rw[e,Nat.zero_testBit,h,Nat.testBit_two_pow] at this;simp at this
theorem YD {u k:Int}(hu:0<=u)(hu1:u<=18446744073709551615)(h0:0<=k)(h1:k<=15):(Aac .u64 u (Jt .u64 1 k) != 0)=Ajt u k:=by
 have hp:=EG (n:=k.toNat) (by omega)
 have:=Ajd u.toNat k.toNat;unfold Ajt;rw[Bu9 h0 h1];generalize 2 ^ k.toNat=m at hp this ⊢;rw[Ahb hu hu1 (by omega) (by omega),Rq]
 cases hb:u.toNat.testBit k.toNat
 ·rw[hb] at this;simp only[ne_eq,Bool.false_eq_true,iff_false,Decidable.not_not] at this;rw[this];rfl
 ·rw[hb] at this;simp only[ne_eq,iff_true] at this;simp only[bne_iff_ne,ne_eq];omega
def Ap7 (u k:Int):Int:=BV .u64 u (Jt .u64 1 k)
def put (f lf:Int):List (Int × Int)->Option (List (Int × Int))
 |[]=>some [(f,lf)]
 |p::r=>if p.1<f then (put f lf r).map (p :: ·) else if p.1=f then (if lf<=p.2 then none else some ((f,lf)::r)) else some ((f,lf)::p::r)
def Asc:List (Int × Int)->Prop
 |[]=>True
 |p::r=>(∀q∈r,p.1<q.1)∧Asc r
def Vm (c:Sd)(leaf from_:Int):Bool:=decide (c.ht<0)||decide (c.ht>4)||decide (from_<0)||decide (from_>leaf)||decide (leaf>=Jt .i64 1 c.ht)
def AX (c:Sd)(leaf from_ now:Int):Sd × Int:=
 if Vm c leaf from_=true then (c,9)
 else if c.sus=true then (c,39)
 else if Ajt c.used leaf=true then ({ c with sus:=true },37)
 else match put from_ leaf c.rg with
  |none=>(c,37)
  |some r=>({ c with used:=Ap7 c.used leaf,rg:=r,last:=now },0)
structure Sd.ok (c:Sd):Prop where
 idB:T0 c.id
 idL:c.id.length<=1000000
 u0:0<=c.used
 u1:c.used<=18446744073709551615
 asc:Asc c.rg
 rgn:c.rg.length<=1000
theorem UA {c:Sd}{leaf from_:Int}(h:Vm c leaf from_=false):0<=from_∧from_<=leaf∧leaf<=15∧0<=c.ht∧c.ht<=4∧leaf<((2 ^ c.ht.toNat:Nat):Int):=by
 unfold Vm at h;simp only[Bool.or_eq_false_iff,decide_eq_false_iff_not] at h;obtain⟨⟨⟨⟨h1,h2⟩,h3⟩,h4⟩,h5⟩:=h;rw[A12 (by omega) (by omega)] at h5
 have hp:(2:Nat) ^ c.ht.toNat<=2 ^ 4:=Nat.pow_le_pow_right (by omega) (by omega)
 have h16:(2:Nat) ^ 4=16:=by decide
 omega
end
section
open Go.IntKind (wrap)
structure Cw where
 nm:ByteArray
 us:ByteArray
 cr:List Sd
abbrev Cg (l:List Sd):List PV:=l.flatMap Sd.cells
def Cw.cells (a:Cw):List PV:=[.sc (.string a.nm),.sc (.string a.us),.lst false 11 a.cr.length (Cg a.cr)]
abbrev Az (l:List Cw):List PV:=l.flatMap Cw.cells
theorem G6 (l:List Sd):(Cg l).length=l.length*11:=Yd (f:=Sd.cells) (k:=11) (fun _=>rfl) l
theorem Lj (l:List Cw):(Az l).length=l.length*3:=Yd (f:=Cw.cells) (k:=3) (fun _=>rfl) l
theorem Cy {l:List Sd}{i:Nat}{c:Sd}(h:l[i]?=some c) {j:Nat}(hj:j<11):(Cg l).getD (i*11+j) .top=c.cells.getD j .top:=DK (f:=Sd.cells) (k:=11) (fun _=>rfl) h hj
theorem Fd {l:List Cw}{i:Nat}{c:Cw}(h:l[i]?=some c) {j:Nat}(hj:j<3):(Az l).getD (i*3+j) .top=c.cells.getD j .top:=DK (f:=Cw.cells) (k:=3) (fun _=>rfl) h hj
def HH (a b:ByteArray):Bool:=Array.toList a.data==Array.toList b.data
def X9 (nm:ByteArray):Nat->List Cw->Option Nat
 |_,[]=>none
 |i,a::r=>if HH a.nm nm=true then some i else X9 nm (i+1) r
def Gs (o:Option Nat):List PV:=match o with|some i=>[.sc (.int .i64 (i:Int)),.sc (.bool true)]|none=>[.sc (.int .i64 0),.sc (.bool false)]
theorem Qy {nm:ByteArray}:∀{l:List Cw}{i k:Nat},X9 nm i l=some k->i<=k∧k<i+l.length∧∃a,l[k-i]?=some a∧HH a.nm nm=true
 |[],_,_,h=>by cases h
 |a::r,i,k,h=>by
  unfold X9 at h;split at h
  ·rename_i ha;cases h;exact⟨Nat.le_refl _,by simp,a,by simp,ha⟩
  ·obtain⟨h1,h2,b,h3,h4⟩:=Qy h;refine⟨by omega,by simp;omega,b,?_,h4⟩
   rw[show k-i=(k-(i+1))+1 by omega]
   exact h3
def QM (a b:List Int):Bool:=(a.map fun n:Int=>n.toNat.toUInt8)==(b.map fun n:Int=>n.toNat.toUInt8)
def KO (id:List Int):Nat->List Sd->Option Nat
 |_,[]=>none
 |i,c::r=>if QM c.id id=true then some i else KO id (i+1) r
def X1 (id:List Int):Nat->List Cw->Option (Nat × Nat)
 |_,[]=>none
 |i,a::r=>match KO id 0 a.cr with|some k=>some (i,k)|none=>X1 id (i+1) r
theorem KL {id:List Int}:∀{l:List Sd}{i k:Nat},KO id i l=some k->i<=k∧k<i+l.length
 |[],_,_,h=>by cases h
 |a::r,i,k,h=>by
  unfold KO at h;split at h
  ·cases h;exact⟨Nat.le_refl _,by simp⟩
  ·obtain⟨h1,h2⟩:=KL h;exact⟨by omega,by simp;omega⟩
def AL (l:List Cw)(nm us:ByteArray)(c:Sd):List Cw × Int:=
 if nm.size<1∨32<nm.size then ([],9)
 else if c.id.length≠176 then ([],4)
 else if (X1 c.id 0 l).isSome=true then ([],10)
 else match X9 nm 0 l with
  |some i=>(match l[i]? with
   |some a=>if 4<=a.cr.length then ([],12) else (l.set i { a with cr:=a.cr++[c] },0)
   |none=>([],12))
  |none=>if 16<=l.length then ([],12) else (l++[⟨nm,us,[c]⟩],0)
def MX (l:List Cw)(nm:ByteArray)(id:List Int):Option (Nat × Nat × Cw):=
 match X9 nm 0 l with
 |some i=>(match l[i]? with
  |some a=>(match KO id 0 a.cr with|some k=>some (i,k,a)|none=>none)
  |none=>none)
 |none=>none
def FZ (l:List Cw)(nm:ByteArray)(c:Sd):List Cw × Int:=
 match MX l nm c.id with
 |some (i,k,a)=>(l.set i { a with cr:=a.cr.set k c },0)
 |none=>([],11)
def FS (l:List Cw)(nm:ByteArray)(id:List Int):List Cw × Int:=
 match MX l nm id with
 |some (i,k,a)=>(l.set i { a with cr:=a.cr.eraseIdx k },0)
 |none=>([],11)
def u8L:List PV->Option (List Int)
 |[]=>some []
 |.sc (.int .u8 n)::r=>(u8L r).map (n :: ·)
 |_=>none
def rgL:List PV->Option (List (Int × Int))
 |[]=>some []
 |.sc (.int .i64 a) :: .sc (.int .i64 b)::r=>(rgL r).map ((a,b) :: ·)
 |_=>none
def Lw:List PV->Option (List Sd)
 |[]=>some []
 |.lst false 1 n0 c0 :: .sc (.int .i64 a1) :: .sc (.int .u64 a2) :: .sc (.int .u64 a3) :: .sc (.int .i64 a4) :: .sc (.bool a5) :: .sc (.int .u64 a6) :: .lst false 2 n7 c7 :: .sc (.bool a8) :: .sc (.int .i64 a9) :: .sc (.int .i64 a10)::r=>
  match u8L c0,rgL c7,Lw r with
  |some i,some g,some l=>bif Nat.beq i.length n0&&Nat.beq g.length n7&&Nat.ble n0 1000000&&Nat.ble n7 1000 then some (⟨i,a1,a2,a3,a4,a5,a6,g,a8,a9,a10⟩::l) else none
  |_,_,_=>none
 |_=>none
def Tc:List PV->Option (List Cw)
 |[]=>some []
 |.sc (.string nm) :: .sc (.string us) :: .lst false 11 m c::r=>
  match Lw c,Tc r with
  |some s,some l=>bif Nat.beq s.length m&&Nat.ble m 1000 then some (⟨nm,us,s⟩::l) else none
  |_,_=>none
 |_=>none
theorem MI:∀{c:List PV}{l:List Int},u8L c=some l->c=Am .u8 l
 |[],l,h=>by cases h;rfl
 |p::c,l,h=>by
  unfold u8L at h;split at h
  ·rename_i NI;cases NI
  ·rename_i n r' NI;cases NI;cases hr:u8L c with
   |none=>rw[hr] at h;cases h
   |some l'=>
    rw[hr] at h;cases h;rw[MI hr];rfl
  ·cases h
theorem LF:∀l:List Int,u8L (Am .u8 l)=some l
 |[]=>rfl
 |n::l=>by
  show (u8L (Am .u8 l)).map _=_;rw[LF l];rfl
theorem XA:∀{c:List PV}{l:List (Int × Int)},rgL c=some l->c=H5 l
 |[],l,h=>by cases h;rfl
 |[p],l,h=>by
  unfold rgL at h;split at h
  ·rename_i NI;cases NI
  ·rename_i NI;cases NI
  ·cases h
 |p::q::c,l,h=>by
  unfold rgL at h;split at h
  ·rename_i NI;cases NI
  ·rename_i a b r NI;cases NI;cases hr:rgL c with
   |none=>rw[hr] at h;cases h
   |some l'=>
    rw[hr] at h;cases h;rw[XA hr];rfl
  ·cases h
theorem VI:∀l:List (Int × Int),rgL (H5 l)=some l
 |[]=>rfl
 |(a,b)::l=>by
  show (rgL (H5 l)).map _=_;rw[VI l];rfl
def Sd.sm (c:Sd):Prop:=c.id.length<=1000000∧c.rg.length<=1000
def Cw.sm (a:Cw):Prop:=a.cr.length<=1000∧∀c∈a.cr,c.sm
theorem TX (c:Sd)(r:List PV)(h:c.sm):Lw (c.cells++r)=(Lw r).map (c :: ·):=by
 show (match u8L (Am .u8 c.id),rgL (H5 c.rg),Lw r with
  |some i,some g,some l=>bif Nat.beq i.length c.id.length&&Nat.beq g.length c.rg.length&&Nat.ble c.id.length 1000000&&Nat.ble c.rg.length 1000 then some ((⟨i,c.ht,c.root,c.model,c.fmt,c.sh,c.used,g,c.sus,c.since,c.last⟩:Sd)::l) else none
  |_,_,_=>none)=_
 rw[LF,VI];cases Lw r with
 |none=>rfl
 |some l=>
  have e:(Nat.beq c.id.length c.id.length&&Nat.beq c.rg.length c.rg.length&&Nat.ble c.id.length 1000000&&Nat.ble c.rg.length 1000)=true:=by
   rw[Nat.beq_refl,Nat.beq_refl,Nat.ble_eq_true_of_le h.1,Nat.ble_eq_true_of_le h.2];rfl
  simp only[e,cond_true];rfl
theorem Tr:∀{l:List Sd},(∀c∈l,c.sm)->Lw (Cg l)=some l
 |[],_=>rfl
 |c::l,h=>by
  show Lw (c.cells++Cg l)=_;rw[TX c _ (h c (by simp)),Tr fun x hx=>h x (by simp[hx])];rfl
theorem Ql:∀{l:List Cw},(∀a∈l,a.sm)->Tc (Az l)=some l
 |[],_=>rfl
 |a::l,h=>by
  have ha:=h a (by simp)
  show (match Lw (Cg a.cr),Tc (Az l) with
   |some s,some l=>bif Nat.beq s.length a.cr.length&&Nat.ble a.cr.length 1000 then some ((⟨a.nm,a.us,s⟩:Cw)::l) else none
   |_,_=>none)=_
  rw[Tr ha.2,Ql fun x hx=>h x (by simp[hx])]
  have e:(Nat.beq a.cr.length a.cr.length&&Nat.ble a.cr.length 1000)=true:=by
   rw[Nat.beq_refl,Nat.ble_eq_true_of_le ha.1];rfl
  simp only[e,cond_true]
theorem Y2:∀(m:Nat){c:List PV}{l:List Sd},c.length<=m->Lw c=some l->c=Cg l∧∀x∈l,x.sm
 |0,c,l,hm,h=>by
  have:=List.length_eq_zero_iff.1 (Nat.le_zero.1 hm);subst this;cases h;exact⟨rfl,fun x hx=>by cases hx⟩
 |m+1,c,l,hm,h=>by
  unfold Lw at h;split at h
  ·cases h;exact⟨rfl,fun x hx=>by cases hx⟩
  ·rename_i n0 c0 a1 a2 a3 a4 a5 a6 n7 c7 a8 a9 a10 r;split at h
   ·rename_i i g l' h1 h2 h3;cases hq:(Nat.beq i.length n0&&Nat.beq g.length n7&&Nat.ble n0 1000000&&Nat.ble n7 1000)<;>rw[hq] at h
    ·cases h
    ·cases h;simp only[Bool.and_eq_true] at hq;obtain⟨⟨⟨q1,q2⟩,q3⟩,q4⟩:=hq;obtain⟨e,hl⟩:=Y2 m (by simp at hm;omega) h3
     have q1:=Nat.eq_of_beq_eq_true q1;have q2:=Nat.eq_of_beq_eq_true q2;subst q1;subst q2;rw[MI h1,XA h2,e];refine⟨rfl,fun x hx=>?_⟩
     rcases List.mem_cons.1 hx with rfl|hx
     ·exact⟨Nat.le_of_ble_eq_true q3,Nat.le_of_ble_eq_true q4⟩
     ·exact hl x hx
   ·cases h
  ·cases h
theorem Rb:∀(m:Nat){c:List PV}{l:List Cw},c.length<=m->Tc c=some l->c=Az l∧∀x∈l,x.sm
 |0,c,l,hm,h=>by
  have:=List.length_eq_zero_iff.1 (Nat.le_zero.1 hm);subst this;cases h;exact⟨rfl,fun x hx=>by cases hx⟩
 |m+1,c,l,hm,h=>by
  unfold Tc at h;split at h
  ·cases h;exact⟨rfl,fun x hx=>by cases hx⟩
  ·rename_i nm us k c r;split at h
   ·rename_i s l' h1 h3;cases hq:(Nat.beq s.length k&&Nat.ble k 1000)<;>rw[hq] at h
    ·cases h
    ·cases h;simp only[Bool.and_eq_true] at hq;obtain⟨q1,q2⟩:=hq;obtain⟨e,hl⟩:=Rb m (by simp at hm;omega) h3
     obtain⟨e1,hs⟩:=Y2 _ (Nat.le_refl _) h1;have q1:=Nat.eq_of_beq_eq_true q1;subst q1;rw[e1,e];refine⟨rfl,fun x hx=>?_⟩
     rcases List.mem_cons.1 hx with rfl|hx
     ·exact⟨Nat.le_of_ble_eq_true q2,hs⟩
     ·exact hl x hx
   ·cases h
  ·cases h
def O9 (r:List Cw × Int):A2:=⟨[.lst false 3 r.1.length (Az r.1),.sc (.int .i64 r.2)],[]⟩
def Ag6 (args:List PV):Option A2:=
 match args with
 |[.lst false 3 n c,.sc (.string nm),.sc (.string us),.agg s]=>
  match Tc c,Lw s with
  |some l,some [x]=>bif Nat.beq l.length n&&Nat.ble n 1000 then some (O9 (AL l nm us x)) else none
  |_,_=>none
 |_=>none
def Acw (args:List PV):Option A2:=
 match args with
 |[.lst false 3 n c,.sc (.string nm),.agg s]=>
  match Tc c,Lw s with
  |some l,some [x]=>bif Nat.beq l.length n&&Nat.ble n 1000 then some (O9 (FZ l nm x)) else none
  |_,_=>none
 |_=>none
def Acu (args:List PV):Option A2:=
 match args with
 |[.lst false 3 n c,.sc (.string nm),.lst false 1 k i]=>
  match Tc c,u8L i with
  |some l,some id=>bif Nat.beq l.length n&&Nat.ble n 1000&&Nat.beq id.length k&&Nat.ble k 1000000 then some (O9 (FS l nm id)) else none
  |_,_=>none
 |_=>none
end
section
open Go.IntKind (wrap)
def BX:PV->Bool
 |.sc (.int .i64 _)=>true
 |_=>false
def Agg (args:List PV):Option A2:=
 match args with
 |[.own 2 n c,.sc (.int .i64 i),.tup [.own 2 1 [.sc (.int .i64 f),.sc (.int .i64 l)]]]=>
  bif Nat.beq c.length (n*2)&&decide (0<=i)&&decide (i<=n)&&Nat.ble n 100000&&c.all BX then
   some ⟨[.own 2 (n+1) (c.take (i.toNat*2)++(.sc (.int .i64 f) :: .sc (.int .i64 l)::c.drop (i.toNat*2)))],[[.sc (.int .i64 f),.sc (.int .i64 l)]]⟩
  else none
 |_=>none
def Ie (f:FuncId):Option (List PV->Option A2):=
 bif Nat.beq f 36 then some Sf else
 bif Nat.beq f 46 then some Agg else
 bif Nat.beq f 11 then some Ag6 else
 bif Nat.beq f 18 then some Acw else
 bif Nat.beq f 16 then some Acu else
 bif Nat.beq f 1000000 then some (fun _=>none) else none
abbrev C0:Gt:=CX Ie
end
section
open Go.Proofs.Try (prog)
open Go.IntKind (wrap)
set_option maxRecDepth 100000
abbrev Uy:FuncId:=32
theorem GR {xs:FuncId->Option (List PV->Option A2)} (fu d Ap:Nat)(a0:List PV):Ag (CX xs) prog fu (d+1) Uy [.lst false 1 Ap a0]=(fun (call:Ai)=>Bd (decide (0<Ap)) (An (decide (a0.length=Ap*1)&&decide ((0+Ap)*1<=1099511627776)&&decide (0+Ap<=1099511627776))<|Ab (0+Ap) fun x1=>Ab ([]++a0) fun x2=>An (decide (x1*1<=x2.length))<|some (A2.mk [.own 1 x1 (List.take (x1*1) x2)] [])) (Zt (some (A2.mk [.own 1 0 []] [])) (An (decide (a0.length=Ap*1)&&decide ((0+Ap)*1<=1099511627776)&&decide (0+Ap<=1099511627776))<|Ab (0+Ap) fun x3=>Ab ([]++a0) fun x4=>An (decide (x3*1<=x4.length))<|some (A2.mk [.own 1 x3 (List.take (x3*1) x4)] [])))) (Ag (CX xs) prog fu d):=by kernel_rfl
abbrev Up:FuncId:=55
theorem GS {xs:FuncId->Option (List PV->Option A2)} (fu d Ap:Nat)(a0:List PV)(He:Nat)(a1:List PV):Ag (CX xs) prog fu (d+1) Up [.lst false 1 Ap a0,.lst false 1 He a1]=(fun (call:Ai)=>An (decide (a0.length=Ap))<|Do (bytesOf a0) fun x1=>An (decide (a1.length=He))<|Do (bytesOf a1) fun x2=>some (A2.mk [.sc (.bool (Array.toList (ByteArray.data (ByteArray.mk (List.toArray x1)))==Array.toList (ByteArray.data (ByteArray.mk (List.toArray x2)))))] [])) (Ag (CX xs) prog fu d):=by kernel_rfl
abbrev Le:FuncId:=48
theorem Sx {xs:FuncId->Option (List PV->Option A2)} (fu d Ap:Nat)(a0:List PV):Ag (CX xs) prog fu (d+1) Le [.lst false 2 Ap a0]=(fun (call:Ai)=>Bd (decide (0<Ap)) (An (decide (a0.length=Ap*2)&&decide ((0+Ap)*16<=1099511627776)&&decide (0+Ap<=1099511627776))<|Ab (0+Ap) fun x1=>Ab ([]++a0) fun x2=>An (decide (x1*2<=x2.length))<|some (A2.mk [.own 2 x1 (List.take (x1*2) x2)] [])) (Zt (some (A2.mk [.own 2 0 []] [])) (An (decide (a0.length=Ap*2)&&decide ((0+Ap)*16<=1099511627776)&&decide (0+Ap<=1099511627776))<|Ab (0+Ap) fun x3=>Ab ([]++a0) fun x4=>An (decide (x3*2<=x4.length))<|some (A2.mk [.own 2 x3 (List.take (x3*2) x4)] [])))) (Ag (CX xs) prog fu d):=by kernel_rfl
abbrev K2:FuncId:=31
theorem Sn {xs:FuncId->Option (List PV->Option A2)} (fu d Fc:Nat)(Di:List PV)(Dc D9:Int)(G2 Q1:Int)(Q2:Bool)(Q5:Int)(Jn:Nat)(Qs:List PV)(Ri:Bool)(Qj I7:Int):Ag (CX xs) prog fu (d+1) K2 [.agg [.lst false 1 Fc Di,.sc (.int .i64 Dc),.sc (.int .u64 D9),.sc (.int .u64 G2),.sc (.int .i64 Q1),.sc (.bool Q2),.sc (.int .u64 Q5),.lst false 2 Jn Qs,.sc (.bool Ri),.sc (.int .i64 Qj),.sc (.int .i64 I7)]]=(fun (call:Ai)=>Af (call 32 [.lst false 1 Fc Di]) fun x1 x2=>Ac x2<|Aa x1 fun x3 x4=>Kc 1 x3 fun x5 x6=>Ac x4<|Af (call 48 [.lst false 2 Jn Qs]) fun x7 x8=>Ac x8<|Aa x7 fun x9 Ia=>Kc 2 x9 fun H6 H7=>Ac Ia<|An (decide (x5*1<=x6.length))<|An (decide (H6*2<=H7.length))<|some (A2.mk [.agg [.own 1 x5 (List.take (x5*1) x6),.sc (.int .i64 Dc),.sc (.int .u64 D9),.sc (.int .u64 G2),.sc (.int .i64 Q1),.sc (.bool Q2),.sc (.int .u64 Q5),.own 2 H6 (List.take (H6*2) H7),.sc (.bool Ri),.sc (.int .i64 Qj),.sc (.int .i64 I7)]] [])) (Ag (CX xs) prog fu d):=by kernel_rfl
abbrev S7:FuncId:=14
noncomputable def Hz (fu:Nat)(call:Ai)(Ap:Nat)(a0:List PV)(a1:ByteArray)(nn:Nat)(y0:ByteArray)(y1:Nat)(y2:List PV)(y3 y4:Int):Option A2:=Cu CB prog fu call 14 Try.f14 (Bw Try.f14) [.lst false 3 Ap a0,.sc (.string a1)] [.r,.l,.r,.l] nn ⟨lk [(1,(.sc (.string y0))),(8,(.lst false 3 y1 y2)),(9,(.sc (.int .i64 y3))),(10,(.sc (.int .i64 y4)))],Fx []⟩
theorem Nw (fu:Nat)(call:Ai)(Ap:Nat)(a0:List PV)(a1:ByteArray)(nn:Nat)(y0:ByteArray)(y1:Nat)(y2:List PV)(y3 y4:Int):Hz fu call Ap a0 a1 (nn+1) y0 y1 y2 y3 y4=(Bd (decide (y4<y3)) (An (decide (0<=y4)&&decide (y4<(↑y1:Int)))<|E2 (List.getD y2 (Int.toNat y4*3) .top) fun x1=>E2 (List.getD y2 (Int.toNat y4*3+1) .top) fun x2=>Ca 11 (List.getD y2 (Int.toNat y4*3+1+1) .top) fun x3 x4 x5=>Bd (Array.toList (ByteArray.data x1)==Array.toList (ByteArray.data y0)) (some (A2.mk [.sc (.int .i64 y4),.sc (.bool true)] [])) (Ab (wrap .i64 (y4+1)) fun x6=>Hz fu call Ap a0 a1 (nn) (y0) (y1) (y2) (y3) x6)) (some (A2.mk [.sc (.int .i64 0),.sc (.bool false)] []))):=by kernel_rfl
theorem FF {xs:FuncId->Option (List PV->Option A2)} (fu d Ap:Nat)(a0:List PV)(a1:ByteArray):Ag (CX xs) prog fu (d+1) S7 [.lst false 3 Ap a0,.sc (.string a1)]=(fun (call:Ai)=>Hz fu call Ap a0 a1 (fu) (a1) (Ap) (a0) ((↑Ap:Int)) 0) (Ag (CX xs) prog fu d):=by kernel_rfl
abbrev M3:FuncId:=43
noncomputable def Fj (fu:Nat)(call:Ai)(Di Dc:ByteArray)(Jl:Nat)(D9:List PV)(He:Nat)(a1:List PV)(nn y0:Nat)(y1:List PV)(y2:Nat)(y3:List PV)(y4 y5:Int):Option A2:=Cu CB prog fu call 43 Try.f43 (Bw Try.f43) [.agg [.sc (.string Di),.sc (.string Dc),.lst false 11 Jl D9],.lst false 1 He a1] [.r,.l,.r,.l] nn ⟨lk [(1,(.lst false 1 y0 y1)),(9,(.lst false 11 y2 y3)),(10,(.sc (.int .i64 y4))),(11,(.sc (.int .i64 y5)))],Fx []⟩
theorem J1 (fu:Nat)(call:Ai)(Di Dc:ByteArray)(Jl:Nat)(D9:List PV)(He:Nat)(a1:List PV)(nn y0:Nat)(y1:List PV)(y2:Nat)(y3:List PV)(y4 y5:Int):Fj fu call Di Dc Jl D9 He a1 (nn+1) y0 y1 y2 y3 y4 y5=(Bd (decide (y5<y4)) (An (decide (0<=y5)&&decide (y5<(↑y2:Int)))<|Ca 1 (List.getD y3 (Int.toNat y5*11) .top) fun x1 x2 x3=>Ae .i64 (List.getD y3 (Int.toNat y5*11+1) .top) fun x4=>Ae .u64 (List.getD y3 (Int.toNat y5*11+1+1) .top) fun x5=>Ae .u64 (List.getD y3 (Int.toNat y5*11+1+1+1) .top) fun x6=>Ae .i64 (List.getD y3 (Int.toNat y5*11+1+1+1+1) .top) fun x7=>Av (List.getD y3 (Int.toNat y5*11+1+1+1+1+1) .top) fun x8=>Ae .u64 (List.getD y3 (Int.toNat y5*11+1+1+1+1+1+1) .top) fun x9=>Ca 2 (List.getD y3 (Int.toNat y5*11+1+1+1+1+1+1+1) .top) fun Ia H6 H7=>Av (List.getD y3 (Int.toNat y5*11+1+1+1+1+1+1+1+1) .top) fun L8=>Ae .i64 (List.getD y3 (Int.toNat y5*11+1+1+1+1+1+1+1+1+1) .top) fun La=>Ae .i64 (List.getD y3 (Int.toNat y5*11+1+1+1+1+1+1+1+1+1+1) .top) fun K9=>Af (call 55 [.lst false 1 x2 x3,.lst false 1 y0 y1]) fun Nk Pu=>Ac Pu<|Aa Nk fun Mz H2=>Av Mz fun Mt=>Ac H2<|Bd Mt (some (A2.mk [.sc (.int .i64 y5),.sc (.bool true)] [])) (Ab (wrap .i64 (y5+1)) fun Mf=>Fj fu call Di Dc Jl D9 He a1 (nn) (y0) (y1) (y2) (y3) (y4) Mf)) (some (A2.mk [.sc (.int .i64 0),.sc (.bool false)] []))):=by kernel_rfl
theorem Vt {xs:FuncId->Option (List PV->Option A2)} (fu d:Nat)(Di Dc:ByteArray)(Jl:Nat)(D9:List PV)(He:Nat)(a1:List PV):Ag (CX xs) prog fu (d+1) M3 [.agg [.sc (.string Di),.sc (.string Dc),.lst false 11 Jl D9],.lst false 1 He a1]=(fun (call:Ai)=>Fj fu call Di Dc Jl D9 He a1 (fu) (He) (a1) (Jl) (D9) ((↑Jl:Int)) 0) (Ag (CX xs) prog fu d):=by kernel_rfl
abbrev Rw:FuncId:=23
noncomputable def G7 (fu:Nat)(call:Ai)(Ap:Nat)(a0:List PV)(He:Nat)(a1:List PV)(nn y0:Nat)(y1:List PV)(y2:Nat)(y3:List PV)(y4 y5:Int):Option A2:=Cu CB prog fu call 23 Try.f23 (Bw Try.f23) [.lst false 3 Ap a0,.lst false 1 He a1] [.r,.l,.r,.l] nn ⟨lk [(1,(.lst false 1 y0 y1)),(11,(.lst false 3 y2 y3)),(12,(.sc (.int .i64 y4))),(13,(.sc (.int .i64 y5)))],Fx []⟩
theorem Nf (fu:Nat)(call:Ai)(Ap:Nat)(a0:List PV)(He:Nat)(a1:List PV)(nn y0:Nat)(y1:List PV)(y2:Nat)(y3:List PV)(y4 y5:Int):G7 fu call Ap a0 He a1 (nn+1) y0 y1 y2 y3 y4 y5=(Bd (decide (y5<y4)) (An (decide (0<=y5)&&decide (y5<(↑y2:Int)))<|E2 (List.getD y3 (Int.toNat y5*3) .top) fun x1=>E2 (List.getD y3 (Int.toNat y5*3+1) .top) fun x2=>Ca 11 (List.getD y3 (Int.toNat y5*3+1+1) .top) fun x3 x4 x5=>Af (call 43 [.agg [.sc (.string x1),.sc (.string x2),.lst false 11 x4 x5],.lst false 1 y0 y1]) fun x6 x7=>Ac x7<|Aa x6 fun x8 x9=>Ae .i64 x8 fun Ia=>Aa x9 fun H6 H7=>Av H6 fun L8=>Ac H7<|Bd L8 (some (A2.mk [.sc (.int .i64 y5),.sc (.int .i64 Ia),.sc (.bool true)] [])) (Ab (wrap .i64 (y5+1)) fun La=>G7 fu call Ap a0 He a1 (nn) (y0) (y1) (y2) (y3) (y4) La)) (some (A2.mk [.sc (.int .i64 0),.sc (.int .i64 0),.sc (.bool false)] []))):=by kernel_rfl
theorem AP {xs:FuncId->Option (List PV->Option A2)} (fu d Ap:Nat)(a0:List PV)(He:Nat)(a1:List PV):Ag (CX xs) prog fu (d+1) Rw [.lst false 3 Ap a0,.lst false 1 He a1]=(fun (call:Ai)=>G7 fu call Ap a0 He a1 (fu) (He) (a1) (Ap) (a0) ((↑Ap:Int)) 0) (Ag (CX xs) prog fu d):=by kernel_rfl
abbrev O7:FuncId:=37
theorem Yt {xs:FuncId->Option (List PV->Option A2)} (fu d Ap:Nat)(a0:List PV)(a1:ByteArray)(Pd:Nat)(a2:List PV):Ag (CX xs) prog fu (d+1) O7 [.lst false 3 Ap a0,.sc (.string a1),.lst false 1 Pd a2]=(fun (call:Ai)=>Af (call 14 [.lst false 3 Ap a0,.sc (.string a1)]) fun x1 x2=>Ac x2<|Aa x1 fun x3 x4=>Ae .i64 x3 fun x5=>Aa x4 fun x6 x7=>Av x6 fun x8=>Ac x7<|Bd (!x8) (some (A2.mk [.sc (.int .i64 0),.sc (.int .i64 0),.sc (.bool false)] [])) (An (decide (0<=x5)&&decide (x5<(↑Ap:Int)))<|E2 (List.getD a0 (Int.toNat x5*3) .top) fun x9=>E2 (List.getD a0 (Int.toNat x5*3+1) .top) fun Ia=>Ca 11 (List.getD a0 (Int.toNat x5*3+1+1) .top) fun H6 H7 L8=>Af (call 43 [.agg [.sc (.string x9),.sc (.string Ia),.lst false 11 H7 L8],.lst false 1 Pd a2]) fun La K9=>Ac K9<|Aa La fun Nk Pu=>Ae .i64 Nk fun Mz=>Aa Pu fun H2 Mt=>Av H2 fun Mf=>Ac Mt<|some (A2.mk [.sc (.int .i64 x5),.sc (.int .i64 Mz),.sc (.bool Mf)] []))) (Ag (CX xs) prog fu d):=by kernel_rfl
end
section
open Go.Proofs.Try (prog)
open Go.IntKind (wrap)
set_option maxRecDepth 100000
abbrev Da:FuncId:=62
noncomputable def Bi (fu:Nat)(call:Ai)(n:Nat)(c:List PV)(a1 a2:Int)(nn y0:Nat)(y1 y2 y3:Int)(y4:List PV):Option A2:=Cu CB prog fu call 62 Try.f62 (Bw Try.f62) [PV.tup [.own 1 n c],.sc (.int .i64 a1),.sc (.int .i64 a2),.sc (Value.func (Fn.func (36:FuncId)) #[] #[])] [.r,.l] nn ⟨lk [(0,(.view 106000 1 0 y0)),(1,(.sc (.int .i64 y1))),(2,(.sc (.int .i64 y2))),(3,(.sc (Value.func (Fn.func (36:FuncId)) #[] #[]))),(8,(.sc (.int .i64 y3)))],Fx [(106000,(.ar false y4))]⟩
noncomputable def Cd (fu:Nat)(call:Ai)(n:Nat)(c:List PV)(a1 a2:Int)(m0 nn y0:Nat)(y1 y2:Int)(y3 y4:Int)(y5:List PV):Option A2:=Cu CB prog fu call 62 Try.f62 (Bw Try.f62) [PV.tup [.own 1 n c],.sc (.int .i64 a1),.sc (.int .i64 a2),.sc (Value.func (Fn.func (36:FuncId)) #[] #[])] [.r,.l,.i m0,.r,.l,.l,.r,.l] nn ⟨lk [(0,(.view 106000 1 0 y0)),(1,(.sc (.int .i64 y1))),(2,(.sc (.int .i64 y2))),(3,(.sc (Value.func (Fn.func (36:FuncId)) #[] #[]))),(8,(.sc (.int .i64 y3))),(9,(.sc (.int .i64 y4)))],Fx [(106000,(.ar false y5))]⟩
theorem Ee (fu:Nat)(call:Ai)(n:Nat)(c:List PV)(a1 a2:Int)(nn y0:Nat)(y1 y2 y3:Int)(y4:List PV):Bi fu call n c a1 a2 (nn+1) y0 y1 y2 y3 y4=(Bd (decide (y3<y2)) (Cd fu call n c a1 a2 nn (fu) (y0) (y1) (y2) (y3) (y3) (y4)) (some (A2.mk [] [y4]))):=by kernel_rfl
theorem Ec (fu:Nat)(call:Ai)(n:Nat)(c:List PV)(a1 a2:Int)(m0 nn y0:Nat)(y1 y2:Int)(y3 y4:Int)(y5:List PV):Cd fu call n c a1 a2 m0 (nn+1) y0 y1 y2 y3 y4 y5=(Bd (decide (y4>y1)) (An (decide (0<=y4)&&decide (y4<(↑y0:Int)))<|Ca 1 (List.getD y5 (0+Int.toNat y4*1) .top) fun x2 x3 x4=>Ab (wrap .i64 (y4-1)) fun x5=>An (decide (0<=x5)&&decide (x5<(↑y0:Int)))<|Ca 1 (List.getD y5 (0+Int.toNat x5*1) .top) fun x6 x7 x8=>Af (call (36:FuncId) [.lst false 1 x3 x4,.lst false 1 x7 x8]) fun x9 Ia=>Ac Ia<|Aa x9 fun H6 H7=>Ae .i64 H6 fun L8=>Ac H7<|Bd (decide (L8<0)) (Ab (wrap .i64 (y4-1)) fun La=>Ab (wrap .i64 (y4-1)) fun K9=>An (decide (0<=K9)&&decide (K9<(↑y0:Int)))<|Ca 1 (List.getD y5 (0+Int.toNat K9*1) .top) fun Nk Pu Mz=>An (decide (0<=y4)&&decide (y4<(↑y0:Int)))<|Ca 1 (List.getD y5 (0+Int.toNat y4*1) .top) fun H2 Mt Mf=>An (decide (0<=y4)&&decide (y4<(↑y0:Int)))<|An (decide (0+Int.toNat y4*1+1<=y5.length))<|Ab (Bl y5 [.lst false 1 Pu Mz] (0+Int.toNat y4*1)) fun Qg=>An (decide (0<=La)&&decide (La<(↑y0:Int)))<|An (decide (0+Int.toNat La*1+1<=Qg.length))<|Ab (Bl Qg [.lst false 1 Mt Mf] (0+Int.toNat La*1)) fun Rh=>Ab (wrap .i64 (y4-1)) fun Ph=>Cd fu call n c a1 a2 m0 (nn) (y0) (y1) (y2) (y3) Ph Rh) (Ab (wrap .i64 (y3+1)) fun Zd=>Bi fu call n c a1 a2 (m0) (y0) (y1) (y2) Zd (y5))) (Ab (wrap .i64 (y3+1)) fun X5=>Bi fu call n c a1 a2 (m0) (y0) (y1) (y2) X5 (y5))):=by kernel_rfl
theorem Ib (fu d n:Nat)(c:List PV)(a1 a2:Int):Ag C0 prog fu (d+1) Da [PV.tup [.own 1 n c],.sc (.int .i64 a1),.sc (.int .i64 a2),.sc (Value.func (Fn.func (36:FuncId)) #[] #[])]=(fun (call:Ai)=>Ab (wrap .i64 (a1+1)) fun x1=>Bi fu call n c a1 a2 (fu) (n) (a1) (a2) x1 (c)) (Ag C0 prog fu d):=by kernel_rfl
abbrev F6:FuncId:=51
noncomputable def F0 (fu:Nat)(call:Ai)(n:Nat)(c:List PV)(a1 a2 a3:Int)(nn y0:Nat)(y1 y2 y3:Int)(y4 y5:Bool)(y6:List PV):Option A2:=Cu CB prog fu call 51 Try.f51 (Bw Try.f51) [PV.tup [.own 1 n c],.sc (.int .i64 a1),.sc (.int .i64 a2),.sc (.int .i64 a3),.sc (Value.func (Fn.func (36:FuncId)) #[] #[])] [.r,.r,.l] nn ⟨lk [(0,(.view 296000 1 0 y0)),(1,(.sc (.int .i64 y1))),(2,(.sc (.int .i64 y2))),(3,(.sc (.int .i64 y3))),(4,(.sc (Value.func (Fn.func (36:FuncId)) #[] #[]))),(10,(.sc (.bool y4))),(11,(.sc (.bool y5)))],Fx [(296000,(.ar false y6))]⟩
noncomputable def Ar (fu:Nat)(call:Ai)(n:Nat)(c:List PV)(a1 a2 a3:Int)(m0 nn y0:Nat)(y1 y2 y3:Int)(y4 y5:Bool)(y6 y7:Int)(y8:List PV):Option A2:=Cu CB prog fu call 51 Try.f51 (Bw Try.f51) [PV.tup [.own 1 n c],.sc (.int .i64 a1),.sc (.int .i64 a2),.sc (.int .i64 a3),.sc (Value.func (Fn.func (36:FuncId)) #[] #[])] [.r,.r,.l,.i m0,.l,.r,.r,.r,.r,.r,.r] nn ⟨lk [(0,(.view 296000 1 0 y0)),(1,(.sc (.int .i64 y1))),(2,(.sc (.int .i64 y2))),(3,(.sc (.int .i64 y3))),(4,(.sc (Value.func (Fn.func (36:FuncId)) #[] #[]))),(10,(.sc (.bool y4))),(11,(.sc (.bool y5))),(12,(.sc (.int .i64 y6))),(13,(.sc (.int .i64 y7)))],Fx [(296000,(.ar false y8))]⟩
theorem Js (fu:Nat)(call:Ai)(n:Nat)(c:List PV)(a1 a2 a3:Int)(nn y0:Nat)(y1 y2 y3:Int)(y4 y5:Bool)(y6:List PV):F0 fu call n c a1 a2 a3 (nn+1) y0 y1 y2 y3 y4 y5 y6=(Ab (wrap .i64 (y2-y1)) fun x1=>Bd (decide (x1<=12)) (Af (call 62 [PV.tup [.own 1 y0 y6],.sc (.int .i64 y1),.sc (.int .i64 y2),.sc (Value.func (Fn.func (36:FuncId)) #[] #[])]) fun x2 x3=>Ac x2<|Aa x3 fun x4 x5=>Ac x5<|some (A2.mk [] [x4])) (Bd (y3==0) (Af (call 63 [PV.tup [.own 1 y0 y6],.sc (.int .i64 y1),.sc (.int .i64 y2),.sc (Value.func (Fn.func (36:FuncId)) #[] #[])]) fun x6 x7=>Ac x6<|Aa x7 fun x8 x9=>Ac x9<|some (A2.mk [] [x8])) (Bd (!y4) (Af (call 64 [PV.tup [.own 1 y0 y6],.sc (.int .i64 y1),.sc (.int .i64 y2),.sc (Value.func (Fn.func (36:FuncId)) #[] #[])]) fun Ia H6=>Ac Ia<|Aa H6 fun H7 L8=>Ac L8<|Ab (wrap .i64 (y3-1)) fun La=>Af (call 65 [PV.tup [.own 1 y0 H7],.sc (.int .i64 y1),.sc (.int .i64 y2),.sc (Value.func (Fn.func (36:FuncId)) #[] #[])]) fun K9 Nk=>Aa K9 fun Pu Mz=>Ae .i64 Pu fun H2=>Aa Mz fun Mt Mf=>Ae .i64 Mt fun Qg=>Ac Mf<|Aa Nk fun Rh Ph=>Ac Ph<|Bd (Qg==2) (Af (call 66 [PV.tup [.own 1 y0 Rh],.sc (.int .i64 y1),.sc (.int .i64 y2),.sc (Value.func (Fn.func (36:FuncId)) #[] #[])]) fun Zd X5=>Ac Zd<|Aa X5 fun Ub DM=>Ac DM<|Ab (wrap .i64 (y2-1)) fun Ui=>Ab (wrap .i64 (H2-y1)) fun O1=>Ab (wrap .i64 (Ui-O1)) fun Sb=>Bd (y4) (Bd (y5) (Af (call 67 [PV.tup [.own 1 y0 Ub],.sc (.int .i64 y1),.sc (.int .i64 y2),.sc (Value.func (Fn.func (36:FuncId)) #[] #[])]) fun Z4 Wx=>Aa Z4 fun X8 CA=>Av X8 fun AW=>Ac CA<|Aa Wx fun Yb HN=>Ac HN<|Bd AW (some (A2.mk [] [Yb])) (Ar fu call n c a1 a2 a3 nn (fu) (y0) (y1) (y2) La (y4) (y5) x1 Sb Yb)) (Ar fu call n c a1 a2 a3 nn (fu) (y0) (y1) (y2) La (y4) (y5) x1 Sb Ub)) (Ar fu call n c a1 a2 a3 nn (fu) (y0) (y1) (y2) La (y4) (y5) x1 Sb Ub)) (Bd (y4) (Bd (y5) (Bd (Qg==1) (Af (call 67 [PV.tup [.own 1 y0 Rh],.sc (.int .i64 y1),.sc (.int .i64 y2),.sc (Value.func (Fn.func (36:FuncId)) #[] #[])]) fun MA BO=>Aa MA fun NF PA=>Av NF fun BK=>Ac PA<|Aa BO fun Oy KC=>Ac KC<|Bd BK (some (A2.mk [] [Oy])) (Ar fu call n c a1 a2 a3 nn (fu) (y0) (y1) (y2) La (y4) (y5) x1 H2 Oy)) (Ar fu call n c a1 a2 a3 nn (fu) (y0) (y1) (y2) La (y4) (y5) x1 H2 Rh)) (Ar fu call n c a1 a2 a3 nn (fu) (y0) (y1) (y2) La (y4) (y5) x1 H2 Rh)) (Ar fu call n c a1 a2 a3 nn (fu) (y0) (y1) (y2) La (y4) (y5) x1 H2 Rh))) (Af (call 65 [PV.tup [.own 1 y0 y6],.sc (.int .i64 y1),.sc (.int .i64 y2),.sc (Value.func (Fn.func (36:FuncId)) #[] #[])]) fun NC QA=>Aa NC fun OV QR=>Ae .i64 OV fun DY=>Aa QR fun PO RQ=>Ae .i64 PO fun NJ=>Ac RQ<|Aa QA fun X3 FX=>Ac FX<|Bd (NJ==2) (Af (call 66 [PV.tup [.own 1 y0 X3],.sc (.int .i64 y1),.sc (.int .i64 y2),.sc (Value.func (Fn.func (36:FuncId)) #[] #[])]) fun RT BU=>Ac RT<|Aa BU fun GU LO=>Ac LO<|Ab (wrap .i64 (y2-1)) fun ND=>Ab (wrap .i64 (DY-y1)) fun FQ=>Ab (wrap .i64 (ND-FQ)) fun JF=>Bd (y4) (Bd (y5) (Af (call 67 [PV.tup [.own 1 y0 GU],.sc (.int .i64 y1),.sc (.int .i64 y2),.sc (Value.func (Fn.func (36:FuncId)) #[] #[])]) fun XC JA=>Aa XC fun TW UB=>Av TW fun WO=>Ac UB<|Aa JA fun Zy FG=>Ac FG<|Bd WO (some (A2.mk [] [Zy])) (Ar fu call n c a1 a2 a3 nn (fu) (y0) (y1) (y2) (y3) (y4) (y5) x1 JF Zy)) (Ar fu call n c a1 a2 a3 nn (fu) (y0) (y1) (y2) (y3) (y4) (y5) x1 JF GU)) (Ar fu call n c a1 a2 a3 nn (fu) (y0) (y1) (y2) (y3) (y4) (y5) x1 JF GU)) (Bd (y4) (Bd (y5) (Bd (NJ==1) (Af (call 67 [PV.tup [.own 1 y0 X3],.sc (.int .i64 y1),.sc (.int .i64 y2),.sc (Value.func (Fn.func (36:FuncId)) #[] #[])]) fun x70 GZ=>Aa x70 fun Tu XQ=>Av Tu fun QT=>Ac XQ<|Aa GZ fun Tp x76=>Ac x76<|Bd QT (some (A2.mk [] [Tp])) (Ar fu call n c a1 a2 a3 nn (fu) (y0) (y1) (y2) (y3) (y4) (y5) x1 DY Tp)) (Ar fu call n c a1 a2 a3 nn (fu) (y0) (y1) (y2) (y3) (y4) (y5) x1 DY X3)) (Ar fu call n c a1 a2 a3 nn (fu) (y0) (y1) (y2) (y3) (y4) (y5) x1 DY X3)) (Ar fu call n c a1 a2 a3 nn (fu) (y0) (y1) (y2) (y3) (y4) (y5) x1 DY X3)))))):=by kernel_rfl
theorem Lr (fu d n:Nat)(c:List PV)(a1 a2 a3:Int):Ag C0 prog fu (d+1) F6 [PV.tup [.own 1 n c],.sc (.int .i64 a1),.sc (.int .i64 a2),.sc (.int .i64 a3),.sc (Value.func (Fn.func (36:FuncId)) #[] #[])]=(fun (call:Ai)=>F0 fu call n c a1 a2 a3 (fu) (n) (a1) (a2) (a3) (true) (true) (c)) (Ag C0 prog fu d):=by kernel_rfl
abbrev F2:FuncId:=35
theorem Rl (fu d n:Nat)(c:List PV):Ag C0 prog fu (d+1) F2 [PV.tup [.own 1 n c],.sc (Value.func (Fn.func (36:FuncId)) #[] #[])]=(fun (call:Ai)=>Ab (wrap .u64 (↑n:Int)) fun x1=>Af (call 52 [.sc (.int .u64 x1)]) fun x2 x3=>Ac x3<|Aa x2 fun x4 x5=>Ae .i64 x4 fun x6=>Ac x5<|Af (call 51 [PV.tup [.own 1 n c],.sc (.int .i64 0),.sc (.int .i64 (↑n:Int)),.sc (.int .i64 x6),.sc (Value.func (Fn.func (36:FuncId)) #[] #[])]) fun x7 x8=>Ac x7<|Aa x8 fun x9 Ia=>Ac Ia<|some (A2.mk [] [x9])) (Ag C0 prog fu d):=by kernel_rfl
end
section
open Go.Proofs.Try (prog)
open Go.IntKind (wrap)
set_option maxRecDepth 100000
abbrev Ou:FuncId:=34
noncomputable def Je (fu:Nat)(call:Ai)(a0 a1 a2:Int)(nn:Nat)(y0 y1 y2:Int)(y3:Nat)(y4:Int)(y5:List PV):Option A2:=Cu CB prog fu call 34 Try.f34 (Bw Try.f34) [.sc (.int .u64 a0),.sc (.int .u64 a1),.sc (.int .i64 a2)] [.r,.r,.r,.l,.r,.l] nn ⟨lk [(0,(.sc (.int .u64 y0))),(1,(.sc (.int .u64 y1))),(2,(.sc (.int .i64 y2))),(7,(.view 7 1 0 y3)),(8,(.sc (.int .u64 y4)))],Fx [(7,(.ar false y5))]⟩
theorem Qa (fu:Nat)(call:Ai)(a0 a1 a2:Int)(nn:Nat)(y0 y1 y2:Int)(y3:Nat)(y4:Int)(y5:List PV):Je fu call a0 a1 a2 (nn+1) y0 y1 y2 y3 y4 y5=(Bd (decide ((↑y3:Int)<y2)) (Af (call 50 [.lst false 1 2 [.sc (.int .u64 y1),.sc (.int .u64 y4)]]) fun x4 x5=>Ac x5<|Aa x4 fun x6 x7=>Kc 1 x6 fun x8 x9=>Ac x7<|An (decide (0+x8*1<=x9.length))<|Af (call 33 [.sc (.int .u64 y0),.sc (.int .i64 5),.lst false 1 x8 (List.take (x8*1) (List.drop 0 x9))]) fun Ia H6=>Ac H6<|Aa Ia fun H7 L8=>Ae .u64 H7 fun La=>Ac L8<|Af (call 50 [.lst false 1 1 [.sc (.int .u64 La)]]) fun K9 Nk=>Ac Nk<|Aa K9 fun Pu Mz=>Kc 1 Pu fun H2 Mt=>Ac Mz<|An (decide (0+H2*1<=Mt.length))<|An (decide (y3*1<=y5.length)&&decide (List.length (List.take (H2*1) (List.drop 0 Mt))=H2*1)&&decide ((y3+H2)*1<=1099511627776)&&decide (y3+H2<=1099511627776))<|Ab (y3+H2) fun Mf=>Ab (List.take (y3*1) y5++List.take (H2*1) (List.drop 0 Mt)) fun Qg=>Ab (wrap .u64 (y4+1)) fun Rh=>Je fu call a0 a1 a2 (nn) (y0) (y1) (y2) Mf Rh Qg) (An (decide (0<=y2))<|An (decide (Int.toNat y2<=y3))<|Ab (Int.toNat y2-0) fun Ph=>An (decide (Ph*1<=y5.length))<|some (A2.mk [.own 1 Ph (List.take (Ph*1) y5)] []))):=by kernel_rfl
theorem FW (fu d:Nat)(a0 a1 a2:Int):Ag C0 prog fu (d+1) Ou [.sc (.int .u64 a0),.sc (.int .u64 a1),.sc (.int .i64 a2)]=(fun (call:Ai)=>Ab (if a2<0 then 0 else a2) fun x1=>Ab (if 1024<x1 then 1024 else x1) fun x2=>Ab (wrap .i64 (x2+8)) fun x3=>An (decide (0<=x3)&&decide (x3*1<=1099511627776)&&decide (x3<=1099511627776))<|Je fu call a0 a1 a2 (fu) (a0) (a1) x2 0 0 ([])) (Ag C0 prog fu d):=by kernel_rfl
abbrev Gv:FuncId:=29
noncomputable def Ez (fu:Nat)(call:Ai)(a0 a1 a2:Int)(nn:Nat)(y0 y1 y2:Int)(y3:Nat)(y4:Int)(y5:List PV):Option A2:=Cu CB prog fu call 29 Try.f29 (Bw Try.f29) [.sc (.int .u64 a0),.sc (.int .u64 a1),.sc (.int .i64 a2)] [.r,.r,.r,.l,.r,.l] nn ⟨lk [(0,(.sc (.int .u64 y0))),(1,(.sc (.int .u64 y1))),(2,(.sc (.int .i64 y2))),(7,(.view 7 1 0 y3)),(8,(.sc (.int .i64 y4)))],Fx [(7,(.ar false y5))]⟩
theorem Im (fu:Nat)(call:Ai)(a0 a1 a2:Int)(nn:Nat)(y0 y1 y2:Int)(y3:Nat)(y4:Int)(y5:List PV):Ez fu call a0 a1 a2 (nn+1) y0 y1 y2 y3 y4 y5=(Bd (decide ((↑y3:Int)<y2)) (Ab (wrap .u64 y4) fun x3=>Af (call 47 [.lst false 1 2 [.sc (.int .u64 y1),.sc (.int .u64 x3)]]) fun x4 x5=>Ac x5<|Aa x4 fun x6 x7=>Kc 1 x6 fun x8 x9=>Ac x7<|An (decide (0+x8*1<=x9.length))<|Af (call 45 [.sc (.int .u64 y0),.sc (.int .i64 5),.lst false 1 x8 (List.take (x8*1) (List.drop 0 x9))]) fun Ia H6=>Ac H6<|Aa Ia fun H7 L8=>Ae .u64 H7 fun La=>Ac L8<|Af (call 47 [.lst false 1 1 [.sc (.int .u64 La)]]) fun K9 Nk=>Ac Nk<|Aa K9 fun Pu Mz=>Kc 1 Pu fun H2 Mt=>Ac Mz<|An (decide (0+H2*1<=Mt.length))<|An (decide (y3*1<=y5.length)&&decide (List.length (List.take (H2*1) (List.drop 0 Mt))=H2*1)&&decide ((y3+H2)*1<=1099511627776)&&decide (y3+H2<=1099511627776))<|Ab (y3+H2) fun Mf=>Ab (List.take (y3*1) y5++List.take (H2*1) (List.drop 0 Mt)) fun Qg=>Ab (wrap .i64 (y4+1)) fun Rh=>Ez fu call a0 a1 a2 (nn) (y0) (y1) (y2) Mf Rh Qg) (An (decide (0<=y2))<|An (decide (Int.toNat y2<=y3))<|Ab (Int.toNat y2-0) fun Ph=>An (decide (Ph*1<=y5.length))<|some (A2.mk [.own 1 Ph (List.take (Ph*1) y5)] []))):=by kernel_rfl
theorem Sp (fu d:Nat)(a0 a1 a2:Int):Ag C0 prog fu (d+1) Gv [.sc (.int .u64 a0),.sc (.int .u64 a1),.sc (.int .i64 a2)]=(fun (call:Ai)=>Ab (if a2<0 then 0 else a2) fun x1=>Ab (if 1024<x1 then 1024 else x1) fun x2=>Ez fu call a0 a1 a2 (fu) (a0) (a1) x2 0 0 ([])) (Ag C0 prog fu d):=by kernel_rfl
abbrev Hp:FuncId:=9
theorem Uf (fu d:Nat)(a0 a1:Int):Ag C0 prog fu (d+1) Hp [.sc (.int .i64 a0),.sc (.int .i64 a1)]=(fun (call:Ai)=>Ab (wrap .u64 a0) fun x1=>Ab (wrap .u64 (x1+1)) fun x2=>Ab (if 1024<a1 then 1024 else a1) fun x3=>Ab (if x3<0 then 0 else x3) fun x4=>Af (call 29 [.sc (.int .u64 x2),.sc (.int .u64 7),.sc (.int .i64 x4)]) fun x5 x6=>Ac x6<|Aa x5 fun x7 x8=>Kc 1 x7 fun x9 Ia=>Ac x8<|An (decide (x9*1<=Ia.length))<|some (A2.mk [.own 1 x9 (List.take (x9*1) Ia)] [])) (Ag C0 prog fu d):=by kernel_rfl
abbrev Jw:FuncId:=41
theorem R4 (fu d:Nat)(a0 a1 a2:Int):Ag C0 prog fu (d+1) Jw [.sc (.int .i64 a0),.sc (.int .i64 a1),.sc (.int .i64 a2)]=(fun (call:Ai)=>Bd (decide (a0>=a1)) (some (A2.mk [.sc (.bool (decide (a0<=a2)))] [])) (some (A2.mk [.sc (.bool false)] []))) (Ag C0 prog fu d):=by kernel_rfl
abbrev Pf:FuncId:=27
noncomputable def Ny (fu:Nat)(call:Ai)(Fc:Nat)(Di:List PV)(Dc D9:Int)(G2 Q1:Int)(Q2:Bool)(Q5:Int)(Jn:Nat)(Qs:List PV)(Ri:Bool)(Qj I7:Int)(a1 a2 a3:Int)(nn:Nat)(y0 y1 y2:Int)(y3:Nat)(y4 y5:Int)(y6 y7:Int)(y8:Bool)(y9:Int)(Fi:Nat)(Gi:Bool)(Ek Gg:Int)(Fu G5:List PV)(Ex:Nat)(Gq N9:Int)(Nz N5:Int)(N2:Bool)(Oh:Int)(Oc:Nat)(Oj:Bool)(Oa N1:Int)(Oo I3:List PV):Option A2:=Cu CB prog fu call 27 Try.f27 (Bw Try.f27) [.agg [.lst false 1 Fc Di,.sc (.int .i64 Dc),.sc (.int .u64 D9),.sc (.int .u64 G2),.sc (.int .i64 Q1),.sc (.bool Q2),.sc (.int .u64 Q5),.lst false 2 Jn Qs,.sc (.bool Ri),.sc (.int .i64 Qj),.sc (.int .i64 I7)],.sc (.int .i64 a1),.sc (.int .i64 a2),.sc (.int .i64 a3)] [.r,.r,.r] nn ⟨lk [(1,(.sc (.int .i64 y0))),(2,(.sc (.int .i64 y1))),(3,(.sc (.int .i64 y2))),(4,(.ptr 4 0)),(8,(.ptr 8 0))],Fx [(4,(.st [(.view 120 1 0 y3),(.sc (.int .i64 y4)),(.sc (.int .u64 y5)),(.sc (.int .u64 y6)),(.sc (.int .i64 y7)),(.sc (.bool y8)),(.sc (.int .u64 y9)),(.view 932 2 0 Fi),(.sc (.bool Gi)),(.sc (.int .i64 Ek)),(.sc (.int .i64 Gg))])),(120,(.ar false Fu)),(932,(.ar false G5)),(8,(.st [(.view 124 1 0 Ex),(.sc (.int .i64 Gq)),(.sc (.int .u64 N9)),(.sc (.int .u64 Nz)),(.sc (.int .i64 N5)),(.sc (.bool N2)),(.sc (.int .u64 Oh)),(.view 936 2 0 Oc),(.sc (.bool Oj)),(.sc (.int .i64 Oa)),(.sc (.int .i64 N1))])),(124,(.ar false Oo)),(936,(.ar false I3))]⟩
noncomputable def Gj (fu:Nat)(call:Ai)(Fc:Nat)(Di:List PV)(Dc D9:Int)(G2 Q1:Int)(Q2:Bool)(Q5:Int)(Jn:Nat)(Qs:List PV)(Ri:Bool)(Qj I7:Int)(a1 a2 a3:Int)(nn:Nat)(y0 y1:Int)(y2 y3 y4:Int)(y5:Nat)(y6 y7:Int)(y8 y9:Int)(Fi:Bool)(Gi:Int)(Ek:Nat)(Gg:Bool)(Fu G5:Int)(Ex Gq:List PV)(N9:Nat)(Nz N5:Int)(N2 Oh:Int)(Oc:Bool)(Oj:Int)(Oa:Nat)(N1:Bool)(Oo I3:Int)(NA NH:List PV):Option A2:=Cu CB prog fu call 27 Try.f27 (Bw Try.f27) [.agg [.lst false 1 Fc Di,.sc (.int .i64 Dc),.sc (.int .u64 D9),.sc (.int .u64 G2),.sc (.int .i64 Q1),.sc (.bool Q2),.sc (.int .u64 Q5),.lst false 2 Jn Qs,.sc (.bool Ri),.sc (.int .i64 Qj),.sc (.int .i64 I7)],.sc (.int .i64 a1),.sc (.int .i64 a2),.sc (.int .i64 a3)] [.r,.r,.r,.r,.r,.r,.r,.r,.l,.l] nn ⟨lk [(1,(.sc (.int .i64 y0))),(2,(.sc (.int .i64 y1))),(3,(.sc (.int .i64 y2))),(4,(.ptr 4 0)),(8,(.ptr 8 0)),(11,(.sc (.int .u64 y3))),(12,(.sc (.int .i64 y4)))],Fx [(4,(.st [(.view 120 1 0 y5),(.sc (.int .i64 y6)),(.sc (.int .u64 y7)),(.sc (.int .u64 y8)),(.sc (.int .i64 y9)),(.sc (.bool Fi)),(.sc (.int .u64 Gi)),(.view 932 2 0 Ek),(.sc (.bool Gg)),(.sc (.int .i64 Fu)),(.sc (.int .i64 G5))])),(120,(.ar false Ex)),(932,(.ar false Gq)),(8,(.st [(.view 124 1 0 N9),(.sc (.int .i64 Nz)),(.sc (.int .u64 N5)),(.sc (.int .u64 N2)),(.sc (.int .i64 Oh)),(.sc (.bool Oc)),(.sc (.int .u64 Oj)),(.view 936 2 0 Oa),(.sc (.bool N1)),(.sc (.int .i64 Oo)),(.sc (.int .i64 I3))])),(124,(.ar false NA)),(936,(.ar false NH))]⟩
theorem Uc (fu:Nat)(call:Ai)(Fc:Nat)(Di:List PV)(Dc D9:Int)(G2 Q1:Int)(Q2:Bool)(Q5:Int)(Jn:Nat)(Qs:List PV)(Ri:Bool)(Qj I7:Int)(a1 a2 a3:Int)(nn:Nat)(Dy:0<nn)(y0 y1 y2:Int)(y3:Nat)(y4 y5:Int)(y6 y7:Int)(y8:Bool)(y9:Int)(Fi:Nat)(Gi:Bool)(Ek Gg:Int)(Fu G5:List PV)(Ex:Nat)(Gq N9:Int)(Nz N5:Int)(N2:Bool)(Oh:Int)(Oc:Nat)(Oj:Bool)(Oa N1:Int)(Oo I3:List PV):Ny fu call Fc Di Dc D9 G2 Q1 Q2 Q5 Jn Qs Ri Qj I7 a1 a2 a3 nn y0 y1 y2 y3 y4 y5 y6 y7 y8 y9 Fi Gi Ek Gg Fu G5 Ex Gq N9 Nz N5 N2 Oh Oc Oj Oa N1 Oo I3=(Bd (Gi) (An (decide (0+y3*1<=Fu.length))<|An (decide (0+Fi*2<=G5.length))<|some (A2.mk [.agg [.lst false 1 y3 (List.take (y3*1) (List.drop 0 Fu)),.sc (.int .i64 y4),.sc (.int .u64 y5),.sc (.int .u64 y6),.sc (.int .i64 y7),.sc (.bool y8),.sc (.int .u64 y9),.lst false 2 Fi (List.take (Fi*2) (List.drop 0 G5)),.sc (.bool Gi),.sc (.int .i64 Ek),.sc (.int .i64 Gg)],.sc (.int .i64 39)] [])) (An (decide (0<=y0))<|Ab (Jt .u64 1 y0) fun PA=>Ab (Aac .u64 y9 PA) fun BK=>Bd (BK != 0) (An (decide (0+y3*1<=Fu.length))<|An (decide (0+Fi*2<=G5.length))<|some (A2.mk [.agg [.lst false 1 y3 (List.take (y3*1) (List.drop 0 Fu)),.sc (.int .i64 y4),.sc (.int .u64 y5),.sc (.int .u64 y6),.sc (.int .i64 y7),.sc (.bool y8),.sc (.int .u64 y9),.lst false 2 Fi (List.take (Fi*2) (List.drop 0 G5)),.sc (.bool true),.sc (.int .i64 Ek),.sc (.int .i64 Gg)],.sc (.int .i64 37)] [])) (Gj fu call Fc Di Dc D9 G2 Q1 Q2 Q5 Jn Qs Ri Qj I7 a1 a2 a3 (fu) (y0) (y1) (y2) PA 0 (y3) (y4) (y5) (y6) (y7) (y8) (y9) (Fi) (Gi) (Ek) (Gg) (Fu) (G5) (Ex) (Gq) (N9) (Nz) (N5) (N2) (Oh) (Oc) (Oj) (Oa) (N1) (Oo) (I3)))):=by cases nn with|zero=>exact absurd Dy (Nat.lt_irrefl 0)|succ nn=>kernel_rfl
theorem L5 (fu:Nat)(call:Ai)(Fc:Nat)(Di:List PV)(Dc D9:Int)(G2 Q1:Int)(Q2:Bool)(Q5:Int)(Jn:Nat)(Qs:List PV)(Ri:Bool)(Qj I7:Int)(a1 a2 a3:Int)(nn:Nat)(y0 y1:Int)(y2 y3 y4:Int)(y5:Nat)(y6 y7:Int)(y8 y9:Int)(Fi:Bool)(Gi:Int)(Ek:Nat)(Gg:Bool)(Fu G5:Int)(Ex Gq:List PV)(N9:Nat)(Nz N5:Int)(N2 Oh:Int)(Oc:Bool)(Oj:Int)(Oa:Nat)(N1:Bool)(Oo I3:Int)(NA NH:List PV):Gj fu call Fc Di Dc D9 G2 Q1 Q2 Q5 Jn Qs Ri Qj I7 a1 a2 a3 (nn+1) y0 y1 y2 y3 y4 y5 y6 y7 y8 y9 Fi Gi Ek Gg Fu G5 Ex Gq N9 Nz N5 N2 Oh Oc Oj Oa N1 Oo I3 NA NH=(Bd (decide (y4<(↑Ek:Int))) (An (decide (0<=y4)&&decide (y4<(↑Ek:Int)))<|Ae .i64 (List.getD Gq (0+Int.toNat y4*2+0) .top) fun Oy=>Bd (decide (Oy<y1)) (Ab (wrap .i64 (y4+1)) fun KC=>Gj fu call Fc Di Dc D9 G2 Q1 Q2 Q5 Jn Qs Ri Qj I7 a1 a2 a3 (nn) (y0) (y1) (y2) (y3) KC (y5) (y6) (y7) (y8) (y9) (Fi) (Gi) (Ek) (Gg) (Fu) (G5) (Ex) (Gq) (N9) (Nz) (N5) (N2) (Oh) (Oc) (Oj) (Oa) (N1) (Oo) (I3) (NA) (NH)) (Bd (y4==(↑Ek:Int)) (An (decide (Ek*2<=Gq.length))<|Af (call 46 [.own 2 Ek (List.take (Ek*2) Gq),.sc (.int .i64 y4),PV.tup [.own 2 1 [.sc (.int .i64 y1),.sc (.int .i64 y0)]]]) fun NC QA=>Aa NC fun OV QR=>Kc 2 OV fun DY PO=>Ac QR<|Aa QA fun RQ NJ=>Ac NJ<|An (decide (0<=y4)&&decide (y4<(↑DY:Int)))<|An (decide (0+Int.toNat y4*2+1+1<=PO.length))<|Ab (Bl PO [.sc (.int .i64 y0)] (0+Int.toNat y4*2+1)) fun X3=>Ab (BV .u64 Gi y3) fun FX=>An (decide (0+y5*1<=Ex.length))<|An (decide (0+DY*2<=X3.length))<|some (A2.mk [.agg [.lst false 1 y5 (List.take (y5*1) (List.drop 0 Ex)),.sc (.int .i64 y6),.sc (.int .u64 y7),.sc (.int .u64 y8),.sc (.int .i64 y9),.sc (.bool Fi),.sc (.int .u64 FX),.lst false 2 DY (List.take (DY*2) (List.drop 0 X3)),.sc (.bool Gg),.sc (.int .i64 Fu),.sc (.int .i64 y2)],.sc (.int .i64 0)] [])) (An (decide (0<=y4)&&decide (y4<(↑Ek:Int)))<|Ae .i64 (List.getD Gq (0+Int.toNat y4*2+0) .top) fun RT=>Bd (RT != y1) (An (decide (Ek*2<=Gq.length))<|Af (call 46 [.own 2 Ek (List.take (Ek*2) Gq),.sc (.int .i64 y4),PV.tup [.own 2 1 [.sc (.int .i64 y1),.sc (.int .i64 y0)]]]) fun BU GU=>Aa BU fun LO ND=>Kc 2 LO fun FQ JF=>Ac ND<|Aa GU fun XC JA=>Ac JA<|An (decide (0<=y4)&&decide (y4<(↑FQ:Int)))<|An (decide (0+Int.toNat y4*2+1+1<=JF.length))<|Ab (Bl JF [.sc (.int .i64 y0)] (0+Int.toNat y4*2+1)) fun TW=>Ab (BV .u64 Gi y3) fun UB=>An (decide (0+y5*1<=Ex.length))<|An (decide (0+FQ*2<=TW.length))<|some (A2.mk [.agg [.lst false 1 y5 (List.take (y5*1) (List.drop 0 Ex)),.sc (.int .i64 y6),.sc (.int .u64 y7),.sc (.int .u64 y8),.sc (.int .i64 y9),.sc (.bool Fi),.sc (.int .u64 UB),.lst false 2 FQ (List.take (FQ*2) (List.drop 0 TW)),.sc (.bool Gg),.sc (.int .i64 Fu),.sc (.int .i64 y2)],.sc (.int .i64 0)] [])) (An (decide (0<=y4)&&decide (y4<(↑Ek:Int)))<|Ae .i64 (List.getD Gq (0+Int.toNat y4*2+1) .top) fun WO=>Bd (decide (WO>=y0)) (An (decide (0+y5*1<=Ex.length))<|An (decide (0+Ek*2<=Gq.length))<|some (A2.mk [.agg [.lst false 1 y5 (List.take (y5*1) (List.drop 0 Ex)),.sc (.int .i64 y6),.sc (.int .u64 y7),.sc (.int .u64 y8),.sc (.int .i64 y9),.sc (.bool Fi),.sc (.int .u64 Gi),.lst false 2 Ek (List.take (Ek*2) (List.drop 0 Gq)),.sc (.bool Gg),.sc (.int .i64 Fu),.sc (.int .i64 G5)],.sc (.int .i64 37)] [])) (An (decide (0<=y4)&&decide (y4<(↑Ek:Int)))<|An (decide (0+Int.toNat y4*2+1+1<=Gq.length))<|Ab (Bl Gq [.sc (.int .i64 y0)] (0+Int.toNat y4*2+1)) fun Zy=>Ab (BV .u64 Gi y3) fun FG=>An (decide (0+y5*1<=Ex.length))<|An (decide (0+Ek*2<=Zy.length))<|some (A2.mk [.agg [.lst false 1 y5 (List.take (y5*1) (List.drop 0 Ex)),.sc (.int .i64 y6),.sc (.int .u64 y7),.sc (.int .u64 y8),.sc (.int .i64 y9),.sc (.bool Fi),.sc (.int .u64 FG),.lst false 2 Ek (List.take (Ek*2) (List.drop 0 Zy)),.sc (.bool Gg),.sc (.int .i64 Fu),.sc (.int .i64 y2)],.sc (.int .i64 0)] [])))))) (Bd (y4==(↑Ek:Int)) (An (decide (Ek*2<=Gq.length))<|Af (call 46 [.own 2 Ek (List.take (Ek*2) Gq),.sc (.int .i64 y4),PV.tup [.own 2 1 [.sc (.int .i64 y1),.sc (.int .i64 y0)]]]) fun x70 GZ=>Aa x70 fun Tu XQ=>Kc 2 Tu fun QT Tp=>Ac XQ<|Aa GZ fun x76 x77=>Ac x77<|An (decide (0<=y4)&&decide (y4<(↑QT:Int)))<|An (decide (0+Int.toNat y4*2+1+1<=Tp.length))<|Ab (Bl Tp [.sc (.int .i64 y0)] (0+Int.toNat y4*2+1)) fun U6=>Ab (BV .u64 Gi y3) fun x79=>An (decide (0+y5*1<=Ex.length))<|An (decide (0+QT*2<=U6.length))<|some (A2.mk [.agg [.lst false 1 y5 (List.take (y5*1) (List.drop 0 Ex)),.sc (.int .i64 y6),.sc (.int .u64 y7),.sc (.int .u64 y8),.sc (.int .i64 y9),.sc (.bool Fi),.sc (.int .u64 x79),.lst false 2 QT (List.take (QT*2) (List.drop 0 U6)),.sc (.bool Gg),.sc (.int .i64 Fu),.sc (.int .i64 y2)],.sc (.int .i64 0)] [])) (An (decide (0<=y4)&&decide (y4<(↑Ek:Int)))<|Ae .i64 (List.getD Gq (0+Int.toNat y4*2+0) .top) fun x80=>Bd (x80 != y1) (An (decide (Ek*2<=Gq.length))<|Af (call 46 [.own 2 Ek (List.take (Ek*2) Gq),.sc (.int .i64 y4),PV.tup [.own 2 1 [.sc (.int .i64 y1),.sc (.int .i64 y0)]]]) fun X4 x82=>Aa X4 fun x83 Zq=>Kc 2 x83 fun x85 x86=>Ac Zq<|Aa x82 fun AM x88=>Ac x88<|An (decide (0<=y4)&&decide (y4<(↑x85:Int)))<|An (decide (0+Int.toNat y4*2+1+1<=x86.length))<|Ab (Bl x86 [.sc (.int .i64 y0)] (0+Int.toNat y4*2+1)) fun x89=>Ab (BV .u64 Gi y3) fun x90=>An (decide (0+y5*1<=Ex.length))<|An (decide (0+x85*2<=x89.length))<|some (A2.mk [.agg [.lst false 1 y5 (List.take (y5*1) (List.drop 0 Ex)),.sc (.int .i64 y6),.sc (.int .u64 y7),.sc (.int .u64 y8),.sc (.int .i64 y9),.sc (.bool Fi),.sc (.int .u64 x90),.lst false 2 x85 (List.take (x85*2) (List.drop 0 x89)),.sc (.bool Gg),.sc (.int .i64 Fu),.sc (.int .i64 y2)],.sc (.int .i64 0)] [])) (An (decide (0<=y4)&&decide (y4<(↑Ek:Int)))<|Ae .i64 (List.getD Gq (0+Int.toNat y4*2+1) .top) fun Zw=>Bd (decide (Zw>=y0)) (An (decide (0+y5*1<=Ex.length))<|An (decide (0+Ek*2<=Gq.length))<|some (A2.mk [.agg [.lst false 1 y5 (List.take (y5*1) (List.drop 0 Ex)),.sc (.int .i64 y6),.sc (.int .u64 y7),.sc (.int .u64 y8),.sc (.int .i64 y9),.sc (.bool Fi),.sc (.int .u64 Gi),.lst false 2 Ek (List.take (Ek*2) (List.drop 0 Gq)),.sc (.bool Gg),.sc (.int .i64 Fu),.sc (.int .i64 G5)],.sc (.int .i64 37)] [])) (An (decide (0<=y4)&&decide (y4<(↑Ek:Int)))<|An (decide (0+Int.toNat y4*2+1+1<=Gq.length))<|Ab (Bl Gq [.sc (.int .i64 y0)] (0+Int.toNat y4*2+1)) fun Yi=>Ab (BV .u64 Gi y3) fun x93=>An (decide (0+y5*1<=Ex.length))<|An (decide (0+Ek*2<=Yi.length))<|some (A2.mk [.agg [.lst false 1 y5 (List.take (y5*1) (List.drop 0 Ex)),.sc (.int .i64 y6),.sc (.int .u64 y7),.sc (.int .u64 y8),.sc (.int .i64 y9),.sc (.bool Fi),.sc (.int .u64 x93),.lst false 2 Ek (List.take (Ek*2) (List.drop 0 Yi)),.sc (.bool Gg),.sc (.int .i64 Fu),.sc (.int .i64 y2)],.sc (.int .i64 0)] [])))))):=by kernel_rfl
theorem Yq (fu d Fc:Nat)(Di:List PV)(Dc D9:Int)(G2 Q1:Int)(Q2:Bool)(Q5:Int)(Jn:Nat)(Qs:List PV)(Ri:Bool)(Qj I7:Int)(a1 a2 a3:Int):Ag C0 prog fu (d+1) Pf [.agg [.lst false 1 Fc Di,.sc (.int .i64 Dc),.sc (.int .u64 D9),.sc (.int .u64 G2),.sc (.int .i64 Q1),.sc (.bool Q2),.sc (.int .u64 Q5),.lst false 2 Jn Qs,.sc (.bool Ri),.sc (.int .i64 Qj),.sc (.int .i64 I7)],.sc (.int .i64 a1),.sc (.int .i64 a2),.sc (.int .i64 a3)]=(fun (call:Ai)=>Af (call 31 [.agg [.lst false 1 Fc Di,.sc (.int .i64 Dc),.sc (.int .u64 D9),.sc (.int .u64 G2),.sc (.int .i64 Q1),.sc (.bool Q2),.sc (.int .u64 Q5),.lst false 2 Jn Qs,.sc (.bool Ri),.sc (.int .i64 Qj),.sc (.int .i64 I7)]]) fun x1 x2=>Ac x2<|Aa x1 fun x3 x4=>Ge x3 fun x5=>Aa x5 fun x6 x7=>Kc 1 x6 fun x8 x9=>Aa x7 fun Ia H6=>Ae .i64 Ia fun H7=>Aa H6 fun L8 La=>Ae .u64 L8 fun K9=>Aa La fun Nk Pu=>Ae .u64 Nk fun Mz=>Aa Pu fun H2 Mt=>Ae .i64 H2 fun Mf=>Aa Mt fun Qg Rh=>Av Qg fun Ph=>Aa Rh fun Zd X5=>Ae .u64 Zd fun Ub=>Aa X5 fun DM Ui=>Kc 2 DM fun O1 Sb=>Aa Ui fun Z4 Wx=>Av Z4 fun X8=>Aa Wx fun CA AW=>Ae .i64 CA fun Yb=>Aa AW fun HN MA=>Ae .i64 HN fun BO=>Ac MA<|Ac x4<|Bd (decide (H7<0)) (An (decide (0+x8*1<=x9.length))<|An (decide (0+O1*2<=Sb.length))<|some (A2.mk [.agg [.lst false 1 x8 (List.take (x8*1) (List.drop 0 x9)),.sc (.int .i64 H7),.sc (.int .u64 K9),.sc (.int .u64 Mz),.sc (.int .i64 Mf),.sc (.bool Ph),.sc (.int .u64 Ub),.lst false 2 O1 (List.take (O1*2) (List.drop 0 Sb)),.sc (.bool X8),.sc (.int .i64 Yb),.sc (.int .i64 BO)],.sc (.int .i64 9)] [])) (Bd (decide (H7>4)) (An (decide (0+x8*1<=x9.length))<|An (decide (0+O1*2<=Sb.length))<|some (A2.mk [.agg [.lst false 1 x8 (List.take (x8*1) (List.drop 0 x9)),.sc (.int .i64 H7),.sc (.int .u64 K9),.sc (.int .u64 Mz),.sc (.int .i64 Mf),.sc (.bool Ph),.sc (.int .u64 Ub),.lst false 2 O1 (List.take (O1*2) (List.drop 0 Sb)),.sc (.bool X8),.sc (.int .i64 Yb),.sc (.int .i64 BO)],.sc (.int .i64 9)] [])) (Bd (decide (a2<0)) (An (decide (0+x8*1<=x9.length))<|An (decide (0+O1*2<=Sb.length))<|some (A2.mk [.agg [.lst false 1 x8 (List.take (x8*1) (List.drop 0 x9)),.sc (.int .i64 H7),.sc (.int .u64 K9),.sc (.int .u64 Mz),.sc (.int .i64 Mf),.sc (.bool Ph),.sc (.int .u64 Ub),.lst false 2 O1 (List.take (O1*2) (List.drop 0 Sb)),.sc (.bool X8),.sc (.int .i64 Yb),.sc (.int .i64 BO)],.sc (.int .i64 9)] [])) (Bd (decide (a2>a1)) (An (decide (0+x8*1<=x9.length))<|An (decide (0+O1*2<=Sb.length))<|some (A2.mk [.agg [.lst false 1 x8 (List.take (x8*1) (List.drop 0 x9)),.sc (.int .i64 H7),.sc (.int .u64 K9),.sc (.int .u64 Mz),.sc (.int .i64 Mf),.sc (.bool Ph),.sc (.int .u64 Ub),.lst false 2 O1 (List.take (O1*2) (List.drop 0 Sb)),.sc (.bool X8),.sc (.int .i64 Yb),.sc (.int .i64 BO)],.sc (.int .i64 9)] [])) (An (decide (0<=H7))<|Ab (Jt .i64 1 H7) fun NF=>Bd (decide (a1>=NF)) (An (decide (0+x8*1<=x9.length))<|An (decide (0+O1*2<=Sb.length))<|some (A2.mk [.agg [.lst false 1 x8 (List.take (x8*1) (List.drop 0 x9)),.sc (.int .i64 H7),.sc (.int .u64 K9),.sc (.int .u64 Mz),.sc (.int .i64 Mf),.sc (.bool Ph),.sc (.int .u64 Ub),.lst false 2 O1 (List.take (O1*2) (List.drop 0 Sb)),.sc (.bool X8),.sc (.int .i64 Yb),.sc (.int .i64 BO)],.sc (.int .i64 9)] [])) (Ny fu call Fc Di Dc D9 G2 Q1 Q2 Q5 Jn Qs Ri Qj I7 a1 a2 a3 (fu) (a1) (a2) (a3) x8 H7 K9 Mz Mf Ph Ub O1 X8 Yb BO x9 Sb 0 0 0 0 0 (false) 0 0 (false) 0 0 ([]) ([]))))))) (Ag C0 prog fu d):=by kernel_rfl
abbrev N8:FuncId:=13
noncomputable def D0 (fu:Nat)(call:Ai)(Ap:Nat)(a0:List PV)(a1:Int)(a2:ByteArray)(nn:Nat)(y0:Int)(y1:ByteArray)(y2 y3:Nat)(y4:List PV)(y5 y6:Int)(y7:List PV):Option A2:=Cu CB prog fu call 13 Try.f13 (Bw Try.f13) [.lst false 3 Ap a0,.sc (.int .u64 a1),.sc (.string a2)] [.r,.r,.l,.r,.r,.l,.r,.l] nn ⟨lk [(1,(.sc (.int .u64 y0))),(2,(.sc (.string y1))),(7,(.view 7 1 0 y2)),(25,(.lst false 11 y3 y4)),(26,(.sc (.int .i64 y5))),(27,(.sc (.int .i64 y6)))],Fx [(7,(.ar false y7))]⟩
noncomputable def Ep (fu:Nat)(call:Ai)(Ap:Nat)(a0:List PV)(a1:Int)(a2:ByteArray)(nn y0:Nat)(y1 y2 y3:Int)(y4:List PV):Option A2:=Cu CB prog fu call 13 Try.f13 (Bw Try.f13) [.lst false 3 Ap a0,.sc (.int .u64 a1),.sc (.string a2)] [.r,.r,.r,.r,.l,.r,.l] nn ⟨lk [(7,(.view 7 1 0 y0)),(12,(.sc (.int .u64 y1))),(52,(.sc (.int .i64 y2))),(53,(.sc (.int .i64 y3)))],Fx [(7,(.ar false y4))]⟩
theorem K4 (fu:Nat)(call:Ai)(Ap:Nat)(a0:List PV)(a1:Int)(a2:ByteArray)(nn:Nat)(y0:Int)(y1:ByteArray)(y2 y3:Nat)(y4:List PV)(y5 y6:Int)(y7:List PV):D0 fu call Ap a0 a1 a2 (nn+1) y0 y1 y2 y3 y4 y5 y6 y7=(Bd (decide (y6<y5)) (An (decide (0<=y6)&&decide (y6<(↑y3:Int)))<|Ca 1 (List.getD y4 (Int.toNat y6*11) .top) fun Pu Mz H2=>Ae .i64 (List.getD y4 (Int.toNat y6*11+1) .top) fun Mt=>Ae .u64 (List.getD y4 (Int.toNat y6*11+1+1) .top) fun Mf=>Ae .u64 (List.getD y4 (Int.toNat y6*11+1+1+1) .top) fun Qg=>Ae .i64 (List.getD y4 (Int.toNat y6*11+1+1+1+1) .top) fun Rh=>Av (List.getD y4 (Int.toNat y6*11+1+1+1+1+1) .top) fun Ph=>Ae .u64 (List.getD y4 (Int.toNat y6*11+1+1+1+1+1+1) .top) fun Zd=>Ca 2 (List.getD y4 (Int.toNat y6*11+1+1+1+1+1+1+1) .top) fun X5 Ub DM=>Av (List.getD y4 (Int.toNat y6*11+1+1+1+1+1+1+1+1) .top) fun Ui=>Ae .i64 (List.getD y4 (Int.toNat y6*11+1+1+1+1+1+1+1+1+1) .top) fun O1=>Ae .i64 (List.getD y4 (Int.toNat y6*11+1+1+1+1+1+1+1+1+1+1) .top) fun Sb=>Bd (!Ui) (Bd (decide ((↑y2:Int)<4)) (Af (call 32 [.lst false 1 Mz H2]) fun Z4 Wx=>Ac Wx<|Aa Z4 fun X8 CA=>Kc 1 X8 fun AW Yb=>Ac CA<|An (decide (0+AW*1<=Yb.length))<|An (decide (y2*1<=y7.length)&&true&&decide ((y2+1)*24<=1099511627776)&&decide (y2+1<=1099511627776))<|Ab (y2+1) fun HN=>Ab (List.take (y2*1) y7++[.lst false 1 AW (List.take (AW*1) (List.drop 0 Yb))]) fun MA=>Ab (wrap .i64 (y6+1)) fun BO=>D0 fu call Ap a0 a1 a2 (nn) (y0) (y1) HN (y3) (y4) (y5) BO MA) (Ab (wrap .i64 (y6+1)) fun NF=>D0 fu call Ap a0 a1 a2 (nn) (y0) (y1) (y2) (y3) (y4) (y5) NF (y7))) (Ab (wrap .i64 (y6+1)) fun PA=>D0 fu call Ap a0 a1 a2 (nn) (y0) (y1) (y2) (y3) (y4) (y5) PA (y7))) (An (decide (ByteArray.size y1<=1099511627776))<|An (decide (0+ByteArray.size y1*1<=List.length (Dx y1)))<|Af (call 33 [.sc (.int .u64 y0),.sc (.int .i64 20),.lst false 1 (ByteArray.size y1) (List.take (ByteArray.size y1*1) (List.drop 0 (Dx y1)))]) fun BK Oy=>Ac Oy<|Aa BK fun KC NC=>Ae .u64 KC fun QA=>Ac NC<|Ab (wrap .i64 (4-(↑y2:Int))) fun OV=>Ep fu call Ap a0 a1 a2 (fu) (y2) QA OV 0 (y7))):=by kernel_rfl
theorem K8 (fu:Nat)(call:Ai)(Ap:Nat)(a0:List PV)(a1:Int)(a2:ByteArray)(nn y0:Nat)(y1 y2 y3:Int)(y4:List PV):Ep fu call Ap a0 a1 a2 (nn+1) y0 y1 y2 y3 y4=(Bd (decide (y3<y2)) (Ab (wrap .u64 y3) fun QR=>Af (call 34 [.sc (.int .u64 y1),.sc (.int .u64 QR),.sc (.int .i64 176)]) fun DY PO=>Ac PO<|Aa DY fun RQ NJ=>Kc 1 RQ fun X3 FX=>Ac NJ<|An (decide (0+X3*1<=FX.length))<|An (decide (y0*1<=y4.length)&&true&&decide ((y0+1)*24<=1099511627776)&&decide (y0+1<=1099511627776))<|Ab (y0+1) fun RT=>Ab (List.take (y0*1) y4++[.lst false 1 X3 (List.take (X3*1) (List.drop 0 FX))]) fun BU=>Ab (wrap .i64 (y3+1)) fun GU=>Ep fu call Ap a0 a1 a2 (nn) RT (y1) (y2) GU BU) (Af (call 35 [PV.tup [.own 1 y0 y4],.sc (Value.func (Fn.func 36) #[] #[])]) fun LO ND=>Ac LO<|Aa ND fun FQ JF=>Ac JF<|An (decide (y0*1<=FQ.length))<|some (A2.mk [.own 1 y0 (List.take (y0*1) FQ)] []))):=by kernel_rfl
theorem Xs (fu d Ap:Nat)(a0:List PV)(a1:Int)(a2:ByteArray):Ag C0 prog fu (d+1) N8 [.lst false 3 Ap a0,.sc (.int .u64 a1),.sc (.string a2)]=(fun (call:Ai)=>Af (call 14 [.lst false 3 Ap a0,.sc (.string a2)]) fun x1 x2=>Ac x2<|Aa x1 fun x3 x4=>Ae .i64 x3 fun x5=>Aa x4 fun x6 x7=>Av x6 fun x8=>Ac x7<|Bd x8 (An (decide (0<=x5)&&decide (x5<(↑Ap:Int)))<|Ca 11 (List.getD a0 (Int.toNat x5*3+2) .top) fun x9 Ia H6=>D0 fu call Ap a0 a1 a2 (fu) (a1) (a2) 0 Ia H6 ((↑Ia:Int)) 0 ([])) (An (decide (ByteArray.size a2<=1099511627776))<|An (decide (0+ByteArray.size a2*1<=List.length (Dx a2)))<|Af (call 33 [.sc (.int .u64 a1),.sc (.int .i64 20),.lst false 1 (ByteArray.size a2) (List.take (ByteArray.size a2*1) (List.drop 0 (Dx a2)))]) fun H7 L8=>Ac L8<|Aa H7 fun La K9=>Ae .u64 La fun Nk=>Ac K9<|Ep fu call Ap a0 a1 a2 (fu) 0 Nk 4 0 ([]))) (Ag C0 prog fu d):=by kernel_rfl
end
section
open Go.Proofs.Try (prog)
open Go.IntKind (wrap)
set_option maxRecDepth 100000
abbrev Gz:FuncId:=22
noncomputable def Df (fu:Nat)(call:Ai)(Ap:Nat)(a0:List PV)(a1:ByteArray)(nn y0:Nat)(y1:List PV)(y2:ByteArray)(y3:Int):Option A2:=Cu CB prog fu call 22 Try.f22 (Bw Try.f22) [.lst false 3 Ap a0,.sc (.string a1)] [.r,.l,.r,.l] nn ⟨lk [(0,(.lst false 3 y0 y1)),(1,(.sc (.string y2))),(6,(.sc (.int .i64 y3)))],Fx []⟩
theorem Fw (fu:Nat)(call:Ai)(Ap:Nat)(a0:List PV)(a1:ByteArray)(nn y0:Nat)(y1:List PV)(y2:ByteArray)(y3:Int):Df fu call Ap a0 a1 (nn+1) y0 y1 y2 y3=(Bd (decide (y3<(↑y0:Int))) (An (decide (0<=y3)&&decide (y3<(↑y0:Int)))<|E2 (List.getD y1 (Int.toNat y3*3+0) .top) fun x1=>Bd (Array.toList (ByteArray.data x1)==Array.toList (ByteArray.data y2)) (some (A2.mk [.sc (.int .i64 y3),.sc (.bool true)] [])) (Ab (wrap .i64 (y3+1)) fun x2=>Df fu call Ap a0 a1 (nn) (y0) (y1) (y2) x2)) (some (A2.mk [.sc (.int .i64 0),.sc (.bool false)] []))):=by kernel_rfl
theorem M5 (fu d Ap:Nat)(a0:List PV)(a1:ByteArray):Ag C0 prog fu (d+1) Gz [.lst false 3 Ap a0,.sc (.string a1)]=(fun (call:Ai)=>Df fu call Ap a0 a1 (fu) (Ap) (a0) (a1) 0) (Ag C0 prog fu d):=by kernel_rfl
abbrev L4:FuncId:=39
noncomputable def Fb (fu:Nat)(call:Ai)(Ap:Nat)(a0:List PV)(He:Nat)(a1:List PV)(nn y0:Nat)(y1:List PV)(y2:Nat)(y3:List PV)(y4:Int):Option A2:=Cu CB prog fu call 39 Try.f39 (Bw Try.f39) [.lst false 11 Ap a0,.lst false 1 He a1] [.r,.l,.r,.l] nn ⟨lk [(0,(.lst false 11 y0 y1)),(1,(.lst false 1 y2 y3)),(6,(.sc (.int .i64 y4)))],Fx []⟩
theorem Jb (fu:Nat)(call:Ai)(Ap:Nat)(a0:List PV)(He:Nat)(a1:List PV)(nn y0:Nat)(y1:List PV)(y2:Nat)(y3:List PV)(y4:Int):Fb fu call Ap a0 He a1 (nn+1) y0 y1 y2 y3 y4=(Bd (decide (y4<(↑y0:Int))) (An (decide (0<=y4)&&decide (y4<(↑y0:Int)))<|Ca 1 (List.getD y1 (Int.toNat y4*11+0) .top) fun x1 x2 x3=>An (decide (x3.length=x2))<|Do (bytesOf x3) fun x4=>An (decide (y3.length=y2))<|Do (bytesOf y3) fun x5=>Bd (Array.toList (ByteArray.data (ByteArray.mk (List.toArray x4)))==Array.toList (ByteArray.data (ByteArray.mk (List.toArray x5)))) (some (A2.mk [.sc (.int .i64 y4),.sc (.bool true)] [])) (Ab (wrap .i64 (y4+1)) fun x6=>Fb fu call Ap a0 He a1 (nn) (y0) (y1) (y2) (y3) x6)) (some (A2.mk [.sc (.int .i64 0),.sc (.bool false)] []))):=by kernel_rfl
theorem Uh (fu d Ap:Nat)(a0:List PV)(He:Nat)(a1:List PV):Ag C0 prog fu (d+1) L4 [.lst false 11 Ap a0,.lst false 1 He a1]=(fun (call:Ai)=>Fb fu call Ap a0 He a1 (fu) (Ap) (a0) (He) (a1) 0) (Ag C0 prog fu d):=by kernel_rfl
abbrev K5:FuncId:=24
noncomputable def Ew (fu:Nat)(call:Ai)(Ap:Nat)(a0:List PV)(He:Nat)(a1:List PV)(nn y0:Nat)(y1:List PV)(y2:Nat)(y3:List PV)(y4:Int):Option A2:=Cu CB prog fu call 24 Try.f24 (Bw Try.f24) [.lst false 3 Ap a0,.lst false 1 He a1] [.r,.l,.r,.l] nn ⟨lk [(0,(.lst false 3 y0 y1)),(1,(.lst false 1 y2 y3)),(7,(.sc (.int .i64 y4)))],Fx []⟩
theorem Is (fu:Nat)(call:Ai)(Ap:Nat)(a0:List PV)(He:Nat)(a1:List PV)(nn y0:Nat)(y1:List PV)(y2:Nat)(y3:List PV)(y4:Int):Ew fu call Ap a0 He a1 (nn+1) y0 y1 y2 y3 y4=(Bd (decide (y4<(↑y0:Int))) (An (decide (0<=y4)&&decide (y4<(↑y0:Int)))<|Ca 11 (List.getD y1 (Int.toNat y4*3+2) .top) fun x1 x2 x3=>Af (call 39 [.lst false 11 x2 x3,.lst false 1 y2 y3]) fun x4 x5=>Ac x5<|Aa x4 fun x6 x7=>Ae .i64 x6 fun x8=>Aa x7 fun x9 Ia=>Av x9 fun H6=>Ac Ia<|Bd H6 (some (A2.mk [.sc (.int .i64 y4),.sc (.int .i64 x8),.sc (.bool true)] [])) (Ab (wrap .i64 (y4+1)) fun H7=>Ew fu call Ap a0 He a1 (nn) (y0) (y1) (y2) (y3) H7)) (some (A2.mk [.sc (.int .i64 0),.sc (.int .i64 0),.sc (.bool false)] []))):=by kernel_rfl
theorem Sq (fu d Ap:Nat)(a0:List PV)(He:Nat)(a1:List PV):Ag C0 prog fu (d+1) K5 [.lst false 3 Ap a0,.lst false 1 He a1]=(fun (call:Ai)=>Ew fu call Ap a0 He a1 (fu) (Ap) (a0) (He) (a1) 0) (Ag C0 prog fu d):=by kernel_rfl
abbrev Ev:FuncId:=44
noncomputable def Ej (fu:Nat)(call:Ai)(Ap:Nat)(a0:List PV)(a1:ByteArray)(nn y0:Nat)(y1:List PV)(y2:ByteArray)(y3:Int):Option A2:=Cu CB prog fu call 44 Try.f44 (Bw Try.f44) [.lst false 1 Ap a0,.sc (.string a1)] [.r,.r,.l,.l] nn ⟨lk [(0,(.lst false 1 y0 y1)),(1,(.sc (.string y2))),(5,(.sc (.int .i64 y3)))],Fx []⟩
theorem Hw (fu:Nat)(call:Ai)(Ap:Nat)(a0:List PV)(a1:ByteArray)(nn y0:Nat)(y1:List PV)(y2:ByteArray)(y3:Int):Ej fu call Ap a0 a1 (nn+1) y0 y1 y2 y3=(Bd (decide (y3<(↑y0:Int))) (An (decide (0<=y3)&&decide (y3<(↑y0:Int)))<|E2 (List.getD y1 (Int.toNat y3*1) .top) fun x1=>Bd (Op.bytesLess (Array.toList (ByteArray.data x1)) (Array.toList (ByteArray.data y2))||Array.toList (ByteArray.data x1)==Array.toList (ByteArray.data y2)) (Ab (wrap .i64 (y3+1)) fun x2=>Ej fu call Ap a0 a1 (nn) (y0) (y1) (y2) x2) (An (decide (0<=y3))<|An (decide (Int.toNat y3<=y0))<|Ab (Int.toNat y3-0) fun x3=>Ab (List.take (x3*1) (List.drop 0 y1)) fun x4=>An (decide (x4.length=x3*1)&&decide (x3*16<=1099511627776)&&decide (x3<=1099511627776))<|An (decide (x3*1<=x4.length)&&true&&decide ((x3+1)*16<=1099511627776)&&decide (x3+1<=1099511627776))<|Ab (x3+1) fun x5=>Ab (List.take (x3*1) x4++[.sc (.string y2)]) fun x6=>An (decide (0<=y3))<|An (decide (Int.toNat y3<=y0)&&decide (y0<=y0))<|Ab (y0-Int.toNat y3) fun x7=>Ab (List.take (x7*1) (List.drop (Int.toNat y3*1) y1)) fun x8=>An (decide (x5*1<=x6.length)&&decide (x8.length=x7*1)&&decide ((x5+x7)*16<=1099511627776)&&decide (x5+x7<=1099511627776))<|Ab (x5+x7) fun x9=>Ab (List.take (x5*1) x6++x8) fun Ia=>An (decide (x9*1<=Ia.length))<|some (A2.mk [.own 1 x9 (List.take (x9*1) Ia)] []))) (An (decide (0<=y3))<|An (decide (Int.toNat y3<=y0))<|Ab (Int.toNat y3-0) fun H6=>Ab (List.take (H6*1) (List.drop 0 y1)) fun H7=>An (decide (H7.length=H6*1)&&decide (H6*16<=1099511627776)&&decide (H6<=1099511627776))<|An (decide (H6*1<=H7.length)&&true&&decide ((H6+1)*16<=1099511627776)&&decide (H6+1<=1099511627776))<|Ab (H6+1) fun L8=>Ab (List.take (H6*1) H7++[.sc (.string y2)]) fun La=>An (decide (0<=y3))<|An (decide (Int.toNat y3<=y0)&&decide (y0<=y0))<|Ab (y0-Int.toNat y3) fun K9=>Ab (List.take (K9*1) (List.drop (Int.toNat y3*1) y1)) fun Nk=>An (decide (L8*1<=La.length)&&decide (Nk.length=K9*1)&&decide ((L8+K9)*16<=1099511627776)&&decide (L8+K9<=1099511627776))<|Ab (L8+K9) fun Pu=>Ab (List.take (L8*1) La++Nk) fun Mz=>An (decide (Pu*1<=Mz.length))<|some (A2.mk [.own 1 Pu (List.take (Pu*1) Mz)] []))):=by kernel_rfl
theorem R1 (fu d Ap:Nat)(a0:List PV)(a1:ByteArray):Ag C0 prog fu (d+1) Ev [.lst false 1 Ap a0,.sc (.string a1)]=(fun (call:Ai)=>Ej fu call Ap a0 a1 (fu) (Ap) (a0) (a1) 0) (Ag C0 prog fu d):=by kernel_rfl
abbrev Jg:FuncId:=26
noncomputable def Cq (fu:Nat)(call:Ai)(Ap:Nat)(a0:List PV)(a1:Int)(a2:ByteArray)(nn y0:Nat)(y1:List PV)(y2:Int)(y3:ByteArray)(y4:Nat)(y5 y6:Int)(y7:List PV):Option A2:=Cu CB prog fu call 26 Try.f26 (Bw Try.f26) [.lst false 3 Ap a0,.sc (.int .u64 a1),.sc (.string a2)] [.r,.r,.l,.r,.r,.l,.r,.l] nn ⟨lk [(0,(.lst false 3 y0 y1)),(1,(.sc (.int .u64 y2))),(2,(.sc (.string y3))),(7,(.view 7 1 0 y4)),(8,(.sc (.int .i64 y5))),(10,(.sc (.int .i64 y6)))],Fx [(7,(.ar false y7))]⟩
noncomputable def De (fu:Nat)(call:Ai)(Ap:Nat)(a0:List PV)(a1:Int)(a2:ByteArray)(nn y0:Nat)(y1 y2:Int)(y3:List PV):Option A2:=Cu CB prog fu call 26 Try.f26 (Bw Try.f26) [.lst false 3 Ap a0,.sc (.int .u64 a1),.sc (.string a2)] [.r,.r,.r,.r,.l,.r,.l] nn ⟨lk [(7,(.view 7 1 0 y0)),(12,(.sc (.int .u64 y1))),(13,(.sc (.int .u64 y2)))],Fx [(7,(.ar false y3))]⟩
noncomputable def Eb (fu:Nat)(call:Ai)(Ap:Nat)(a0:List PV)(a1:Int)(a2:ByteArray)(nn y0 y1:Nat)(y2:Int)(y3 y4:List PV):Option A2:=Cu CB prog fu call 26 Try.f26 (Bw Try.f26) [.lst false 3 Ap a0,.sc (.int .u64 a1),.sc (.string a2)] [.r,.r,.r,.r,.r,.r,.l,.r,.l] nn ⟨lk [(7,(.view 7 1 0 y0)),(14,(.view 14 1 0 y1)),(15,(.sc (.int .i64 y2)))],Fx [(7,(.ar false y3)),(14,(.ar false y4))]⟩
theorem Hg (fu:Nat)(call:Ai)(Ap:Nat)(a0:List PV)(a1:Int)(a2:ByteArray)(nn y0:Nat)(y1:List PV)(y2:Int)(y3:ByteArray)(y4:Nat)(y5 y6:Int)(y7:List PV):Cq fu call Ap a0 a1 a2 (nn+1) y0 y1 y2 y3 y4 y5 y6 y7=(An (decide (0<=y5)&&decide (y5<(↑y0:Int)))<|Ca 11 (List.getD y1 (Int.toNat y5*3+2) .top) fun La K9 Nk=>Bd (decide (y6<(↑K9:Int))) (An (decide (0<=y5)&&decide (y5<(↑y0:Int)))<|Ca 11 (List.getD y1 (Int.toNat y5*3+2) .top) fun Pu Mz H2=>An (decide (0<=y6)&&decide (y6<(↑Mz:Int)))<|Ca 1 (List.getD H2 (Int.toNat y6*11) .top) fun Mt Mf Qg=>Ae .i64 (List.getD H2 (Int.toNat y6*11+1) .top) fun Rh=>Ae .u64 (List.getD H2 (Int.toNat y6*11+1+1) .top) fun Ph=>Ae .u64 (List.getD H2 (Int.toNat y6*11+1+1+1) .top) fun Zd=>Ae .i64 (List.getD H2 (Int.toNat y6*11+1+1+1+1) .top) fun X5=>Av (List.getD H2 (Int.toNat y6*11+1+1+1+1+1) .top) fun Ub=>Ae .u64 (List.getD H2 (Int.toNat y6*11+1+1+1+1+1+1) .top) fun DM=>Ca 2 (List.getD H2 (Int.toNat y6*11+1+1+1+1+1+1+1) .top) fun Ui O1 Sb=>Av (List.getD H2 (Int.toNat y6*11+1+1+1+1+1+1+1+1) .top) fun Z4=>Ae .i64 (List.getD H2 (Int.toNat y6*11+1+1+1+1+1+1+1+1+1) .top) fun Wx=>Ae .i64 (List.getD H2 (Int.toNat y6*11+1+1+1+1+1+1+1+1+1+1) .top) fun X8=>Bd (!Z4) (Bd (decide ((↑y4:Int)<4)) (An (decide (Qg.length=Mf))<|Do (bytesOf Qg) fun CA=>An (decide (0+y4*1<=y7.length))<|Af (call 44 [.lst false 1 y4 (List.take (y4*1) (List.drop 0 y7)),.sc (.string (ByteArray.mk (List.toArray CA)))]) fun AW Yb=>Ac Yb<|Aa AW fun HN MA=>Kc 1 HN fun BO NF=>Ac MA<|Ab (wrap .i64 (y6+1)) fun PA=>Cq fu call Ap a0 a1 a2 (nn) (y0) (y1) (y2) (y3) BO (y5) PA NF) (Ab (wrap .i64 (y6+1)) fun BK=>Cq fu call Ap a0 a1 a2 (nn) (y0) (y1) (y2) (y3) (y4) (y5) BK (y7))) (Ab (wrap .i64 (y6+1)) fun Oy=>Cq fu call Ap a0 a1 a2 (nn) (y0) (y1) (y2) (y3) (y4) (y5) Oy (y7))) (An (decide (ByteArray.size y3<=1099511627776))<|An (decide (0+ByteArray.size y3*1<=List.length (Dx y3)))<|Af (call 45 [.sc (.int .u64 y2),.sc (.int .i64 20),.lst false 1 (ByteArray.size y3) (List.take (ByteArray.size y3*1) (List.drop 0 (Dx y3)))]) fun KC NC=>Ac NC<|Aa KC fun QA OV=>Ae .u64 QA fun QR=>Ac OV<|De fu call Ap a0 a1 a2 (fu) (y4) QR 0 (y7))):=by kernel_rfl
theorem Hc (fu:Nat)(call:Ai)(Ap:Nat)(a0:List PV)(a1:Int)(a2:ByteArray)(nn y0:Nat)(y1 y2:Int)(y3:List PV):De fu call Ap a0 a1 a2 (nn+1) y0 y1 y2 y3=(Bd (decide ((↑y0:Int)<4)) (Af (call 29 [.sc (.int .u64 y1),.sc (.int .u64 y2),.sc (.int .i64 176)]) fun DY PO=>Ac PO<|Aa DY fun RQ NJ=>Kc 1 RQ fun X3 FX=>Ac NJ<|An (decide (0+X3*1<=FX.length))<|An (decide (List.length (List.take (X3*1) (List.drop 0 FX))=X3))<|Do (bytesOf (List.take (X3*1) (List.drop 0 FX))) fun RT=>An (decide (0+y0*1<=y3.length))<|Af (call 44 [.lst false 1 y0 (List.take (y0*1) (List.drop 0 y3)),.sc (.string (ByteArray.mk (List.toArray RT)))]) fun BU GU=>Ac GU<|Aa BU fun LO ND=>Kc 1 LO fun FQ JF=>Ac ND<|Ab (wrap .u64 (y2+1)) fun XC=>De fu call Ap a0 a1 a2 (nn) FQ (y1) XC JF) (Eb fu call Ap a0 a1 a2 (fu) (y0) 0 0 (y3) ([]))):=by kernel_rfl
theorem Hf (fu:Nat)(call:Ai)(Ap:Nat)(a0:List PV)(a1:Int)(a2:ByteArray)(nn y0 y1:Nat)(y2:Int)(y3 y4:List PV):Eb fu call Ap a0 a1 a2 (nn+1) y0 y1 y2 y3 y4=(Bd (decide (y2<(↑y0:Int))) (An (decide (0<=y2)&&decide (y2<(↑y0:Int)))<|E2 (List.getD y3 (0+Int.toNat y2*1) .top) fun JA=>An (decide (ByteArray.size JA<=1099511627776))<|An (decide (0+ByteArray.size JA*1<=List.length (Dx JA)))<|An (decide (y1*1<=y4.length)&&true&&decide ((y1+1)*24<=1099511627776)&&decide (y1+1<=1099511627776))<|Ab (y1+1) fun TW=>Ab (List.take (y1*1) y4++[.lst false 1 (ByteArray.size JA) (List.take (ByteArray.size JA*1) (List.drop 0 (Dx JA)))]) fun UB=>Ab (wrap .i64 (y2+1)) fun WO=>Eb fu call Ap a0 a1 a2 (nn) (y0) TW WO (y3) UB) (An (decide (y1*1<=y4.length))<|some (A2.mk [.own 1 y1 (List.take (y1*1) y4)] []))):=by kernel_rfl
theorem Qq (fu d Ap:Nat)(a0:List PV)(a1:Int)(a2:ByteArray):Ag C0 prog fu (d+1) Jg [.lst false 3 Ap a0,.sc (.int .u64 a1),.sc (.string a2)]=(fun (call:Ai)=>Af (call 22 [.lst false 3 Ap a0,.sc (.string a2)]) fun x1 x2=>Ac x2<|Aa x1 fun x3 x4=>Ae .i64 x3 fun x5=>Aa x4 fun x6 x7=>Av x6 fun x8=>Ac x7<|Bd x8 (Cq fu call Ap a0 a1 a2 (fu) (Ap) (a0) (a1) (a2) 0 x5 0 ([])) (An (decide (ByteArray.size a2<=1099511627776))<|An (decide (0+ByteArray.size a2*1<=List.length (Dx a2)))<|Af (call 45 [.sc (.int .u64 a1),.sc (.int .i64 20),.lst false 1 (ByteArray.size a2) (List.take (ByteArray.size a2*1) (List.drop 0 (Dx a2)))]) fun x9 Ia=>Ac Ia<|Aa x9 fun H6 H7=>Ae .u64 H6 fun L8=>Ac H7<|De fu call Ap a0 a1 a2 (fu) 0 L8 0 ([]))) (Ag C0 prog fu d):=by kernel_rfl
abbrev Hj:FuncId:=72
noncomputable def Dm (fu:Nat)(call:Ai)(Ap:Nat)(a0:List PV)(He:Nat)(a1:List PV)(nn y0:Nat)(y1:List PV)(y2:Nat)(y3:List PV)(y4:Int):Option A2:=Cu CB prog fu call 72 Try.f72 (Bw Try.f72) [.lst false 2 Ap a0,.lst false 2 He a1] [.r,.r,.l,.r,.l] nn ⟨lk [(0,(.lst false 2 y0 y1)),(1,(.lst false 2 y2 y3)),(5,(.sc (.int .i64 y4)))],Fx []⟩
theorem F7 (fu:Nat)(call:Ai)(Ap:Nat)(a0:List PV)(He:Nat)(a1:List PV)(nn y0:Nat)(y1:List PV)(y2:Nat)(y3:List PV)(y4:Int):Dm fu call Ap a0 He a1 (nn+1) y0 y1 y2 y3 y4=(Bd (decide (y4<(↑y0:Int))) (An (decide (0<=y4)&&decide (y4<(↑y0:Int)))<|Ae .i64 (List.getD y1 (Int.toNat y4*2) .top) fun x1=>Ae .i64 (List.getD y1 (Int.toNat y4*2+1) .top) fun x2=>An (decide (0<=y4)&&decide (y4<(↑y2:Int)))<|Ae .i64 (List.getD y3 (Int.toNat y4*2) .top) fun x3=>Ae .i64 (List.getD y3 (Int.toNat y4*2+1) .top) fun x4=>Bd (!(x1==x3&&(x2==x4&&true))) (some (A2.mk [.sc (.bool false)] [])) (Ab (wrap .i64 (y4+1)) fun x5=>Dm fu call Ap a0 He a1 (nn) (y0) (y1) (y2) (y3) x5)) (some (A2.mk [.sc (.bool true)] []))):=by kernel_rfl
theorem Nv (fu d Ap:Nat)(a0:List PV)(He:Nat)(a1:List PV):Ag C0 prog fu (d+1) Hj [.lst false 2 Ap a0,.lst false 2 He a1]=(fun (call:Ai)=>Bd ((↑Ap:Int) != (↑He:Int)) (some (A2.mk [.sc (.bool false)] [])) (Dm fu call Ap a0 He a1 (fu) (Ap) (a0) (He) (a1) 0)) (Ag C0 prog fu d):=by kernel_rfl
abbrev Hd:FuncId:=54
theorem Nm (fu d Fc:Nat)(Di:List PV)(Dc D9:Int)(G2 Q1:Int)(Q2:Bool)(Q5:Int)(Jn:Nat)(Qs:List PV)(Ri:Bool)(Qj I7:Int)(Akw:Nat)(Yf:List PV)(AU CY:Int)(Atz A0c:Int)(Aw5:Bool)(Asy:Int)(Alh:Nat)(A9z:List PV)(A83:Bool)(A5z Alf:Int):Ag C0 prog fu (d+1) Hd [.agg [.lst false 1 Fc Di,.sc (.int .i64 Dc),.sc (.int .u64 D9),.sc (.int .u64 G2),.sc (.int .i64 Q1),.sc (.bool Q2),.sc (.int .u64 Q5),.lst false 2 Jn Qs,.sc (.bool Ri),.sc (.int .i64 Qj),.sc (.int .i64 I7)],.agg [.lst false 1 Akw Yf,.sc (.int .i64 AU),.sc (.int .u64 CY),.sc (.int .u64 Atz),.sc (.int .i64 A0c),.sc (.bool Aw5),.sc (.int .u64 Asy),.lst false 2 Alh A9z,.sc (.bool A83),.sc (.int .i64 A5z),.sc (.int .i64 Alf)]]=(fun (call:Ai)=>An (decide (Di.length=Fc))<|Do (bytesOf Di) fun x1=>An (decide (Yf.length=Akw))<|Do (bytesOf Yf) fun x2=>Bd (Array.toList (ByteArray.data (ByteArray.mk (List.toArray x1)))==Array.toList (ByteArray.data (ByteArray.mk (List.toArray x2)))) (Bd (Dc==AU&&(D9==CY&&true)) (Bd (G2==Atz) (Bd (Q1==A0c) (Bd (Q2==Aw5) (Bd (Q5==Asy) (Af (call 72 [.lst false 2 Jn Qs,.lst false 2 Alh A9z]) fun x3 x4=>Ac x4<|Aa x3 fun x5 x6=>Av x5 fun x7=>Ac x6<|Bd x7 (Bd (Ri==A83) (Bd (Qj==A5z) (some (A2.mk [.sc (.bool (I7==Alf))] [])) (some (A2.mk [.sc (.bool false)] []))) (some (A2.mk [.sc (.bool false)] []))) (some (A2.mk [.sc (.bool false)] []))) (some (A2.mk [.sc (.bool false)] []))) (some (A2.mk [.sc (.bool false)] []))) (some (A2.mk [.sc (.bool false)] []))) (some (A2.mk [.sc (.bool false)] []))) (some (A2.mk [.sc (.bool false)] []))) (some (A2.mk [.sc (.bool false)] []))) (Ag C0 prog fu d):=by kernel_rfl
abbrev Iy:FuncId:=25
noncomputable def D4 (fu:Nat)(call:Ai)(Ap:Nat)(a0:List PV)(He:Nat)(a1:List PV)(nn y0:Nat)(y1:List PV)(y2:Nat)(y3:List PV)(y4:Int):Option A2:=Cu CB prog fu call 25 Try.f25 (Bw Try.f25) [.lst false 1 Ap a0,.lst false 1 He a1] [.r,.r,.l,.r,.l] nn ⟨lk [(0,(.lst false 1 y0 y1)),(1,(.lst false 1 y2 y3)),(5,(.sc (.int .i64 y4)))],Fx []⟩
theorem G3 (fu:Nat)(call:Ai)(Ap:Nat)(a0:List PV)(He:Nat)(a1:List PV)(nn y0:Nat)(y1:List PV)(y2:Nat)(y3:List PV)(y4:Int):D4 fu call Ap a0 He a1 (nn+1) y0 y1 y2 y3 y4=(Bd (decide (y4<(↑y0:Int))) (An (decide (0<=y4)&&decide (y4<(↑y0:Int)))<|Ca 1 (List.getD y1 (Int.toNat y4*1) .top) fun x1 x2 x3=>An (decide (x3.length=x2))<|Do (bytesOf x3) fun x4=>An (decide (0<=y4)&&decide (y4<(↑y2:Int)))<|Ca 1 (List.getD y3 (Int.toNat y4*1) .top) fun x5 x6 x7=>An (decide (x7.length=x6))<|Do (bytesOf x7) fun x8=>Bd (!Array.toList (ByteArray.data (ByteArray.mk (List.toArray x4)))==Array.toList (ByteArray.data (ByteArray.mk (List.toArray x8)))) (some (A2.mk [.sc (.bool false)] [])) (Ab (wrap .i64 (y4+1)) fun x9=>D4 fu call Ap a0 He a1 (nn) (y0) (y1) (y2) (y3) x9)) (some (A2.mk [.sc (.bool true)] []))):=by kernel_rfl
theorem Qb (fu d Ap:Nat)(a0:List PV)(He:Nat)(a1:List PV):Ag C0 prog fu (d+1) Iy [.lst false 1 Ap a0,.lst false 1 He a1]=(fun (call:Ai)=>Bd ((↑Ap:Int) != (↑He:Int)) (some (A2.mk [.sc (.bool false)] [])) (D4 fu call Ap a0 He a1 (fu) (Ap) (a0) (He) (a1) 0)) (Ag C0 prog fu d):=by kernel_rfl
abbrev Ka:FuncId:=8
theorem R6 (fu d:Nat)(a0 a1:Int):Ag C0 prog fu (d+1) Ka [.sc (.int .i64 a0),.sc (.int .i64 a1)]=(fun (call:Ai)=>Af (call 28 [.sc (.int .i64 a0),.sc (.int .i64 12)]) fun x1 x2=>Ac x2<|Aa x1 fun x3 x4=>Ae .i64 x3 fun x5=>Ac x4<|Ab (wrap .i64 (600+x5)) fun x6=>Af (call 9 [.sc (.int .i64 x6),.sc (.int .i64 176)]) fun x7 x8=>Ac x8<|Aa x7 fun x9 Ia=>Kc 1 x9 fun H6 H7=>Ac Ia<|An (decide (0+H6*1<=H7.length))<|some (A2.mk [.agg [.lst false 1 H6 (List.take (H6*1) (List.drop 0 H7)),.sc (.int .i64 a1),.sc (.int .u64 5),.sc (.int .u64 0),.sc (.int .i64 0),.sc (.bool false),.sc (.int .u64 0),.lst false 2 0 [],.sc (.bool false),.sc (.int .i64 3),.sc (.int .i64 0)]] [])) (Ag C0 prog fu d):=by kernel_rfl
end
section
open Go.Proofs.Try (prog)
open Go.IntKind (wrap)
set_option maxRecDepth 100000
abbrev K6:FuncId:=5
noncomputable def Gf (fu:Nat)(call:Ai)(nn:Nat):Option A2:=Cu CB prog fu call 5 Try.f5 (Bw Try.f5) [] [] nn ⟨lk [],Fx []⟩
noncomputable def J5 (fu:Nat)(call:Ai)(nn:Nat)(y0:Int)(y1:Nat)(y2:List PV)(y3 y4:Int)(y5 y6:Int)(y7:Bool)(y8:Int)(y9:Nat)(Fi:List PV)(Gi:Bool)(Ek Gg:Int):Option A2:=Cu CB prog fu call 5 Try.f5 (Bw Try.f5) [] [.r] nn ⟨lk [(1,(.ptr 1 0)),(2,(.sc (.int .i64 y0)))],Fx [(1,(.st [(.lst false 1 y1 y2),(.sc (.int .i64 y3)),(.sc (.int .u64 y4)),(.sc (.int .u64 y5)),(.sc (.int .i64 y6)),(.sc (.bool y7)),(.sc (.int .u64 y8)),(.lst false 2 y9 Fi),(.sc (.bool Gi)),(.sc (.int .i64 Ek)),(.sc (.int .i64 Gg))]))]⟩
noncomputable def J4 (fu:Nat)(call:Ai)(nn:Nat)(y0 y1:Int)(y2:Nat)(y3:List PV)(y4 y5:Int)(y6 y7:Int)(y8:Bool)(y9:Int)(Fi:Nat)(Gi:List PV)(Ek:Bool)(Gg Fu:Int):Option A2:=Cu CB prog fu call 5 Try.f5 (Bw Try.f5) [] [.r,.r] nn ⟨lk [(1,(.ptr 1 0)),(2,(.sc (.int .i64 y0))),(3,(.sc (.int .i64 y1)))],Fx [(1,(.st [(.lst false 1 y2 y3),(.sc (.int .i64 y4)),(.sc (.int .u64 y5)),(.sc (.int .u64 y6)),(.sc (.int .i64 y7)),(.sc (.bool y8)),(.sc (.int .u64 y9)),(.lst false 2 Fi Gi),(.sc (.bool Ek)),(.sc (.int .i64 Gg)),(.sc (.int .i64 Fu))]))]⟩
noncomputable def J0 (fu:Nat)(call:Ai)(nn:Nat)(y0 y1 y2:Int)(y3:Nat)(y4:List PV)(y5 y6:Int)(y7 y8:Int)(y9:Bool)(Fi:Int)(Gi:Nat)(Ek:List PV)(Gg:Bool)(Fu G5:Int)(Ex:Nat)(Gq:List PV)(N9 Nz:Int)(N5 N2:Int)(Oh:Bool)(Oc:Int)(Oj:Nat)(Oa:List PV)(N1:Bool)(Oo I3:Int):Option A2:=Cu CB prog fu call 5 Try.f5 (Bw Try.f5) [] [.r,.r,.r] nn ⟨lk [(1,(.ptr 1 0)),(2,(.sc (.int .i64 y0))),(3,(.sc (.int .i64 y1))),(4,(.ptr 4 0)),(5,(.sc (.int .i64 y2)))],Fx [(1,(.st [(.lst false 1 y3 y4),(.sc (.int .i64 y5)),(.sc (.int .u64 y6)),(.sc (.int .u64 y7)),(.sc (.int .i64 y8)),(.sc (.bool y9)),(.sc (.int .u64 Fi)),(.lst false 2 Gi Ek),(.sc (.bool Gg)),(.sc (.int .i64 Fu)),(.sc (.int .i64 G5))])),(4,(.st [(.lst false 1 Ex Gq),(.sc (.int .i64 N9)),(.sc (.int .u64 Nz)),(.sc (.int .u64 N5)),(.sc (.int .i64 N2)),(.sc (.bool Oh)),(.sc (.int .u64 Oc)),(.lst false 2 Oj Oa),(.sc (.bool N1)),(.sc (.int .i64 Oo)),(.sc (.int .i64 I3))]))]⟩
noncomputable def J3 (fu:Nat)(call:Ai)(nn:Nat)(y0 y1:Int)(y2 y3:Int)(y4:Nat)(y5:List PV)(y6 y7:Int)(y8 y9:Int)(Fi:Bool)(Gi:Int)(Ek:Nat)(Gg:List PV)(Fu:Bool)(G5 Ex:Int)(Gq:Nat)(N9:List PV)(Nz N5:Int)(N2 Oh:Int)(Oc:Bool)(Oj:Int)(Oa:Nat)(N1:List PV)(Oo:Bool)(I3 NA:Int)(NH:Nat)(y31:List PV)(WQ YQ:Int)(y34 y35:Int)(ZW:Bool)(y37:Int)(y38:Nat)(YX:List PV)(ZQ:Bool)(y41 y42:Int):Option A2:=Cu CB prog fu call 5 Try.f5 (Bw Try.f5) [] [.r,.r,.r,.r] nn ⟨lk [(1,(.ptr 1 0)),(2,(.sc (.int .i64 y0))),(3,(.sc (.int .i64 y1))),(4,(.ptr 4 0)),(5,(.sc (.int .i64 y2))),(6,(.ptr 6 0)),(7,(.sc (.int .i64 y3)))],Fx [(1,(.st [(.lst false 1 y4 y5),(.sc (.int .i64 y6)),(.sc (.int .u64 y7)),(.sc (.int .u64 y8)),(.sc (.int .i64 y9)),(.sc (.bool Fi)),(.sc (.int .u64 Gi)),(.lst false 2 Ek Gg),(.sc (.bool Fu)),(.sc (.int .i64 G5)),(.sc (.int .i64 Ex))])),(4,(.st [(.lst false 1 Gq N9),(.sc (.int .i64 Nz)),(.sc (.int .u64 N5)),(.sc (.int .u64 N2)),(.sc (.int .i64 Oh)),(.sc (.bool Oc)),(.sc (.int .u64 Oj)),(.lst false 2 Oa N1),(.sc (.bool Oo)),(.sc (.int .i64 I3)),(.sc (.int .i64 NA))])),(6,(.st [(.lst false 1 NH y31),(.sc (.int .i64 WQ)),(.sc (.int .u64 YQ)),(.sc (.int .u64 y34)),(.sc (.int .i64 y35)),(.sc (.bool ZW)),(.sc (.int .u64 y37)),(.lst false 2 y38 YX),(.sc (.bool ZQ)),(.sc (.int .i64 y41)),(.sc (.int .i64 y42))]))]⟩
noncomputable def Jx (fu:Nat)(call:Ai)(nn:Nat)(y0 y1:Int)(y2 y3:Int)(y4:Nat)(y5:List PV)(y6:Int)(y7:Nat)(y8:List PV)(y9 Fi:Int)(Gi Ek:Int)(Gg:Bool)(Fu:Int)(G5:Nat)(Ex:List PV)(Gq:Bool)(N9 Nz:Int)(N5:Nat)(N2:List PV)(Oh Oc:Int)(Oj Oa:Int)(N1:Bool)(Oo:Int)(I3:Nat)(NA:List PV)(NH:Bool)(y31 WQ:Int)(YQ:Nat)(y34:List PV)(y35 ZW:Int)(y37 y38:Int)(YX:Bool)(ZQ:Int)(y41:Nat)(y42:List PV)(y43:Bool)(y44 y45:Int):Option A2:=Cu CB prog fu call 5 Try.f5 (Bw Try.f5) [] [.r,.r,.r,.r,.r] nn ⟨lk [(1,(.ptr 1 0)),(2,(.sc (.int .i64 y0))),(3,(.sc (.int .i64 y1))),(4,(.ptr 4 0)),(5,(.sc (.int .i64 y2))),(6,(.ptr 6 0)),(7,(.sc (.int .i64 y3))),(8,(.lst false 3 y4 y5)),(9,(.sc (.int .i64 y6)))],Fx [(1,(.st [(.lst false 1 y7 y8),(.sc (.int .i64 y9)),(.sc (.int .u64 Fi)),(.sc (.int .u64 Gi)),(.sc (.int .i64 Ek)),(.sc (.bool Gg)),(.sc (.int .u64 Fu)),(.lst false 2 G5 Ex),(.sc (.bool Gq)),(.sc (.int .i64 N9)),(.sc (.int .i64 Nz))])),(4,(.st [(.lst false 1 N5 N2),(.sc (.int .i64 Oh)),(.sc (.int .u64 Oc)),(.sc (.int .u64 Oj)),(.sc (.int .i64 Oa)),(.sc (.bool N1)),(.sc (.int .u64 Oo)),(.lst false 2 I3 NA),(.sc (.bool NH)),(.sc (.int .i64 y31)),(.sc (.int .i64 WQ))])),(6,(.st [(.lst false 1 YQ y34),(.sc (.int .i64 y35)),(.sc (.int .u64 ZW)),(.sc (.int .u64 y37)),(.sc (.int .i64 y38)),(.sc (.bool YX)),(.sc (.int .u64 ZQ)),(.lst false 2 y41 y42),(.sc (.bool y43)),(.sc (.int .i64 y44)),(.sc (.int .i64 y45))]))]⟩
noncomputable def Jy (fu:Nat)(call:Ai)(nn:Nat)(y0 y1:Int)(y2 y3:Int)(y4:Nat)(y5:List PV)(y6 y7:Int)(y8:Bool)(y9:Nat)(Fi:List PV)(Gi Ek:Int)(Gg Fu:Int)(G5:Bool)(Ex:Int)(Gq:Nat)(N9:List PV)(Nz:Bool)(N5 N2:Int)(Oh:Nat)(Oc:List PV)(Oj Oa:Int)(N1 Oo:Int)(I3:Bool)(NA:Int)(NH:Nat)(y31:List PV)(WQ:Bool)(YQ y34:Int)(y35:Nat)(ZW:List PV)(y37 y38:Int)(YX ZQ:Int)(y41:Bool)(y42:Int)(y43:Nat)(y44:List PV)(y45:Bool)(y46 y47:Int):Option A2:=Cu CB prog fu call 5 Try.f5 (Bw Try.f5) [] [.r,.r,.r,.r,.r,.r] nn ⟨lk [(1,(.ptr 1 0)),(2,(.sc (.int .i64 y0))),(3,(.sc (.int .i64 y1))),(4,(.ptr 4 0)),(5,(.sc (.int .i64 y2))),(6,(.ptr 6 0)),(7,(.sc (.int .i64 y3))),(8,(.lst false 3 y4 y5)),(9,(.sc (.int .i64 y6))),(10,(.sc (.int .i64 y7))),(11,(.sc (.bool y8)))],Fx [(1,(.st [(.lst false 1 y9 Fi),(.sc (.int .i64 Gi)),(.sc (.int .u64 Ek)),(.sc (.int .u64 Gg)),(.sc (.int .i64 Fu)),(.sc (.bool G5)),(.sc (.int .u64 Ex)),(.lst false 2 Gq N9),(.sc (.bool Nz)),(.sc (.int .i64 N5)),(.sc (.int .i64 N2))])),(4,(.st [(.lst false 1 Oh Oc),(.sc (.int .i64 Oj)),(.sc (.int .u64 Oa)),(.sc (.int .u64 N1)),(.sc (.int .i64 Oo)),(.sc (.bool I3)),(.sc (.int .u64 NA)),(.lst false 2 NH y31),(.sc (.bool WQ)),(.sc (.int .i64 YQ)),(.sc (.int .i64 y34))])),(6,(.st [(.lst false 1 y35 ZW),(.sc (.int .i64 y37)),(.sc (.int .u64 y38)),(.sc (.int .u64 YX)),(.sc (.int .i64 ZQ)),(.sc (.bool y41)),(.sc (.int .u64 y42)),(.lst false 2 y43 y44),(.sc (.bool y45)),(.sc (.int .i64 y46)),(.sc (.int .i64 y47))]))]⟩
theorem Pn (fu:Nat)(call:Ai)(nn:Nat)(Dy:0<nn):Gf fu call nn=(Af (call 8 [.sc (.int .i64 1),.sc (.int .i64 2)]) fun x1 x2=>Ac x2<|Aa x1 fun x3 x4=>Ge x3 fun x5=>Aa x5 fun x6 x7=>Ca 1 x6 fun x8 x9 Ia=>Aa x7 fun H6 H7=>Ae .i64 H6 fun L8=>Aa H7 fun La K9=>Ae .u64 La fun Nk=>Aa K9 fun Pu Mz=>Ae .u64 Pu fun H2=>Aa Mz fun Mt Mf=>Ae .i64 Mt fun Qg=>Aa Mf fun Rh Ph=>Av Rh fun Zd=>Aa Ph fun X5 Ub=>Ae .u64 X5 fun DM=>Aa Ub fun Ui O1=>Ca 2 Ui fun Sb Z4 Wx=>Aa O1 fun X8 CA=>Av X8 fun AW=>Aa CA fun Yb HN=>Ae .i64 Yb fun MA=>Aa HN fun BO NF=>Ae .i64 BO fun PA=>Ac NF<|Ac x4<|Af (call 27 [.agg [.lst false 1 x9 Ia,.sc (.int .i64 L8),.sc (.int .u64 Nk),.sc (.int .u64 H2),.sc (.int .i64 Qg),.sc (.bool Zd),.sc (.int .u64 DM),.lst false 2 Z4 Wx,.sc (.bool AW),.sc (.int .i64 MA),.sc (.int .i64 PA)],.sc (.int .i64 1),.sc (.int .i64 0),.sc (.int .i64 7)]) fun BK Oy=>Ac Oy<|Aa BK fun KC NC=>Ge KC fun QA=>Aa QA fun OV QR=>Ca 1 OV fun DY PO RQ=>Aa QR fun NJ X3=>Ae .i64 NJ fun FX=>Aa X3 fun RT BU=>Ae .u64 RT fun GU=>Aa BU fun LO ND=>Ae .u64 LO fun FQ=>Aa ND fun JF XC=>Ae .i64 JF fun JA=>Aa XC fun TW UB=>Av TW fun WO=>Aa UB fun Zy FG=>Ae .u64 Zy fun x70=>Aa FG fun GZ Tu=>Ca 2 GZ fun XQ QT Tp=>Aa Tu fun x76 x77=>Av x76 fun U6=>Aa x77 fun x79 x80=>Ae .i64 x79 fun X4=>Aa x80 fun x82 x83=>Ae .i64 x82 fun Zq=>Ac x83<|Aa NC fun x85 x86=>Ae .i64 x85 fun AM=>Ac x86<|J5 fu call (fu) AM PO RQ FX GU FQ JA WO x70 QT Tp U6 X4 Zq):=by cases nn with|zero=>exact absurd Dy (Nat.lt_irrefl 0)|succ nn=>kernel_rfl
theorem Pm (fu:Nat)(call:Ai)(nn:Nat)(Dy:0<nn)(y0:Int)(y1:Nat)(y2:List PV)(y3 y4:Int)(y5 y6:Int)(y7:Bool)(y8:Int)(y9:Nat)(Fi:List PV)(Gi:Bool)(Ek Gg:Int):J5 fu call nn y0 y1 y2 y3 y4 y5 y6 y7 y8 y9 Fi Gi Ek Gg=(Af (call 27 [.agg [.lst false 1 y1 y2,.sc (.int .i64 y3),.sc (.int .u64 y4),.sc (.int .u64 y5),.sc (.int .i64 y6),.sc (.bool y7),.sc (.int .u64 y8),.lst false 2 y9 Fi,.sc (.bool Gi),.sc (.int .i64 Ek),.sc (.int .i64 Gg)],.sc (.int .i64 3),.sc (.int .i64 2),.sc (.int .i64 8)]) fun x88 x89=>Ac x89<|Aa x88 fun x90 Zw=>Ge x90 fun Yi=>Aa Yi fun x93 x94=>Ca 1 x93 fun x95 x96 x97=>Aa x94 fun BF x99=>Ae .i64 BF fun Agc=>Aa x99 fun Ml Aco=>Ae .u64 Ml fun Aev=>Aa Aco fun Aea GJ=>Ae .u64 Aea fun Mm=>Aa GJ fun Aex Agy=>Ae .i64 Aex fun Adb=>Aa Agy fun Afm Aiw=>Av Afm fun Acp=>Aa Aiw fun Adi Afw=>Ae .u64 Adi fun Adx=>Aa Afw fun Ag9 Adu=>Ca 2 Ag9 fun Aix Ab5 Ace=>Aa Adu fun Ac7 Adg=>Av Ac7 fun Ag8=>Aa Adg fun Aft Afl=>Ae .i64 Aft fun Ajy=>Aa Afl fun Aat YN=>Ae .i64 Aat fun Acy=>Ac YN<|Aa Zw fun Ab2 Aaj=>Ae .i64 Ab2 fun Ad3=>Ac Aaj<|J4 fu call (fu) (y0) Ad3 x96 x97 Agc Aev Mm Adb Acp Adx Ab5 Ace Ag8 Ajy Acy):=by cases nn with|zero=>exact absurd Dy (Nat.lt_irrefl 0)|succ nn=>kernel_rfl
theorem Pr (fu:Nat)(call:Ai)(nn:Nat)(Dy:0<nn)(y0 y1:Int)(y2:Nat)(y3:List PV)(y4 y5:Int)(y6 y7:Int)(y8:Bool)(y9:Int)(Fi:Nat)(Gi:List PV)(Ek:Bool)(Gg Fu:Int):J4 fu call nn y0 y1 y2 y3 y4 y5 y6 y7 y8 y9 Fi Gi Ek Gg Fu=(Af (call 27 [.agg [.lst false 1 y2 y3,.sc (.int .i64 y4),.sc (.int .u64 y5),.sc (.int .u64 y6),.sc (.int .i64 y7),.sc (.bool y8),.sc (.int .u64 y9),.lst false 2 Fi Gi,.sc (.bool Ek),.sc (.int .i64 Gg),.sc (.int .i64 Fu)],.sc (.int .i64 0),.sc (.int .i64 0),.sc (.int .i64 9)]) fun Ab8 Adp=>Ac Adp<|Aa Ab8 fun Adh SF=>Ge Adh fun Agb=>Aa Agb fun Acz Adl=>Ca 1 Acz fun Ajf Ahz Ada=>Aa Adl fun Ae4 UC=>Ae .i64 Ae4 fun Afg=>Aa UC fun Aeg Xe=>Ae .u64 Aeg fun Ys=>Aa Xe fun Amy Apc=>Ae .u64 Amy fun Aq0=>Aa Apc fun Ap0 Ajq=>Ae .i64 Ap0 fun Apv=>Aa Ajq fun Amv Ao7=>Av Amv fun Amq=>Aa Ao7 fun As1 Afn=>Ae .u64 As1 fun Ae1=>Aa Afn fun Aoj Ams=>Ca 2 Aoj fun Ai0 Apf Ao8=>Aa Ams fun An3 Am5=>Av An3 fun Avi=>Aa Am5 fun Anl Aq1=>Ae .i64 Anl fun Aqh=>Aa Aq1 fun Apz Anv=>Ae .i64 Apz fun Apr=>Ac Anv<|Aa SF fun An2 Aoq=>Ae .i64 An2 fun Apu=>Ac Aoq<|J0 fu call (fu) (y0) (y1) Apu (y2) (y3) (y4) (y5) (y6) (y7) (y8) (y9) (Fi) (Gi) (Ek) (Gg) (Fu) Ahz Ada Afg Ys Aq0 Apv Amq Ae1 Apf Ao8 Avi Aqh Apr):=by cases nn with|zero=>exact absurd Dy (Nat.lt_irrefl 0)|succ nn=>kernel_rfl
theorem O4 (fu:Nat)(call:Ai)(nn:Nat)(Dy:0<nn)(y0 y1 y2:Int)(y3:Nat)(y4:List PV)(y5 y6:Int)(y7 y8:Int)(y9:Bool)(Fi:Int)(Gi:Nat)(Ek:List PV)(Gg:Bool)(Fu G5:Int)(Ex:Nat)(Gq:List PV)(N9 Nz:Int)(N5 N2:Int)(Oh:Bool)(Oc:Int)(Oj:Nat)(Oa:List PV)(N1:Bool)(Oo I3:Int):J0 fu call nn y0 y1 y2 y3 y4 y5 y6 y7 y8 y9 Fi Gi Ek Gg Fu G5 Ex Gq N9 Nz N5 N2 Oh Oc Oj Oa N1 Oo I3=(Af (call 27 [.agg [.lst false 1 y3 y4,.sc (.int .i64 y5),.sc (.int .u64 y6),.sc (.int .u64 y7),.sc (.int .i64 y8),.sc (.bool y9),.sc (.int .u64 Fi),.lst false 2 Gi Ek,.sc (.bool Gg),.sc (.int .i64 Fu),.sc (.int .i64 G5)],.sc (.int .i64 3),.sc (.int .i64 2),.sc (.int .i64 9)]) fun Av6 Am2=>Ac Am2<|Aa Av6 fun Aqb Amo=>Ge Aqb fun Ao4=>Aa Ao4 fun Ao3 An9=>Ca 1 Ao3 fun A31 Apx Ane=>Aa An9 fun Auk Aoy=>Ae .i64 Auk fun Amj=>Aa Aoy fun Aqj Aq2=>Ae .u64 Aqj fun Aqy=>Aa Aq2 fun Am9 Aqw=>Ae .u64 Am9 fun Amt=>Aa Aqw fun Anz Awy=>Ae .i64 Anz fun Ao1=>Aa Awy fun Aql Aqd=>Av Aql fun Apq=>Aa Aqd fun Aqo Ap6=>Ae .u64 Aqo fun Anj=>Aa Ap6 fun App Ap3=>Ca 2 App fun A4r Aqx Apw=>Aa Ap3 fun Am0 Aoc=>Av Am0 fun A9k=>Aa Aoc fun Aie Aju=>Ae .i64 Aie fun Aoz=>Aa Aju fun Ap8 Air=>Ae .i64 Ap8 fun Anx=>Ac Air<|Aa Amo fun Aqp Aow=>Ae .i64 Aqp fun Amz=>Ac Aow<|J3 fu call (fu) (y0) (y1) (y2) Amz (y3) (y4) (y5) (y6) (y7) (y8) (y9) (Fi) (Gi) (Ek) (Gg) (Fu) (G5) (Ex) (Gq) (N9) (Nz) (N5) (N2) (Oh) (Oc) (Oj) (Oa) (N1) (Oo) (I3) Apx Ane Amj Aqy Amt Ao1 Apq Anj Aqx Apw A9k Aoz Anx):=by cases nn with|zero=>exact absurd Dy (Nat.lt_irrefl 0)|succ nn=>kernel_rfl
theorem P0 (fu:Nat)(call:Ai)(nn:Nat)(Dy:0<nn)(y0 y1:Int)(y2 y3:Int)(y4:Nat)(y5:List PV)(y6 y7:Int)(y8 y9:Int)(Fi:Bool)(Gi:Int)(Ek:Nat)(Gg:List PV)(Fu:Bool)(G5 Ex:Int)(Gq:Nat)(N9:List PV)(Nz N5:Int)(N2 Oh:Int)(Oc:Bool)(Oj:Int)(Oa:Nat)(N1:List PV)(Oo:Bool)(I3 NA:Int)(NH:Nat)(y31:List PV)(WQ YQ:Int)(y34 y35:Int)(ZW:Bool)(y37:Int)(y38:Nat)(YX:List PV)(ZQ:Bool)(y41 y42:Int):J3 fu call nn y0 y1 y2 y3 y4 y5 y6 y7 y8 y9 Fi Gi Ek Gg Fu G5 Ex Gq N9 Nz N5 N2 Oh Oc Oj Oa N1 Oo I3 NA NH y31 WQ YQ y34 y35 ZW y37 y38 YX ZQ y41 y42=(Af (call 11 [.lst false 3 0 [],.sc (.string (ByteArray.mk #[97,108,105,99,101])),.sc (.string (ByteArray.mk #[117])),.agg [.lst false 1 y4 y5,.sc (.int .i64 y6),.sc (.int .u64 y7),.sc (.int .u64 y8),.sc (.int .i64 y9),.sc (.bool Fi),.sc (.int .u64 Gi),.lst false 2 Ek Gg,.sc (.bool Fu),.sc (.int .i64 G5),.sc (.int .i64 Ex)]]) fun Aoi LL=>Ac LL<|Aa Aoi fun SN Aqa=>Ca 3 SN fun A2a Ant Ao5=>Aa Aqa fun A06 Amk=>Ae .i64 A06 fun Ap9=>Ac Amk<|Jx fu call (fu) (y0) (y1) (y2) (y3) Ant Ao5 Ap9 (y4) (y5) (y6) (y7) (y8) (y9) (Fi) (Gi) (Ek) (Gg) (Fu) (G5) (Ex) (Gq) (N9) (Nz) (N5) (N2) (Oh) (Oc) (Oj) (Oa) (N1) (Oo) (I3) (NA) (NH) (y31) (WQ) (YQ) (y34) (y35) (ZW) (y37) (y38) (YX) (ZQ) (y41) (y42)):=by cases nn with|zero=>exact absurd Dy (Nat.lt_irrefl 0)|succ nn=>kernel_rfl
theorem Pa (fu:Nat)(call:Ai)(nn:Nat)(Dy:0<nn)(y0 y1:Int)(y2 y3:Int)(y4:Nat)(y5:List PV)(y6:Int)(y7:Nat)(y8:List PV)(y9 Fi:Int)(Gi Ek:Int)(Gg:Bool)(Fu:Int)(G5:Nat)(Ex:List PV)(Gq:Bool)(N9 Nz:Int)(N5:Nat)(N2:List PV)(Oh Oc:Int)(Oj Oa:Int)(N1:Bool)(Oo:Int)(I3:Nat)(NA:List PV)(NH:Bool)(y31 WQ:Int)(YQ:Nat)(y34:List PV)(y35 ZW:Int)(y37 y38:Int)(YX:Bool)(ZQ:Int)(y41:Nat)(y42:List PV)(y43:Bool)(y44 y45:Int):Jx fu call nn y0 y1 y2 y3 y4 y5 y6 y7 y8 y9 Fi Gi Ek Gg Fu G5 Ex Gq N9 Nz N5 N2 Oh Oc Oj Oa N1 Oo I3 NA NH y31 WQ YQ y34 y35 ZW y37 y38 YX ZQ y41 y42 y43 y44 y45=(Af (call 14 [.lst false 3 y4 y5,.sc (.string (ByteArray.mk #[97,108,105,99,101]))]) fun Apb Anr=>Ac Anr<|Aa Apb fun Ao2 Aps=>Ae .i64 Ao2 fun Apo=>Aa Aps fun Am3 Ann=>Av Am3 fun A4m=>Ac Ann<|Jy fu call (fu) (y0) (y1) (y2) (y3) (y4) (y5) (y6) Apo A4m (y7) (y8) (y9) (Fi) (Gi) (Ek) (Gg) (Fu) (G5) (Ex) (Gq) (N9) (Nz) (N5) (N2) (Oh) (Oc) (Oj) (Oa) (N1) (Oo) (I3) (NA) (NH) (y31) (WQ) (YQ) (y34) (y35) (ZW) (y37) (y38) (YX) (ZQ) (y41) (y42) (y43) (y44) (y45)):=by cases nn with|zero=>exact absurd Dy (Nat.lt_irrefl 0)|succ nn=>kernel_rfl
theorem Py (fu:Nat)(call:Ai)(nn:Nat)(Dy:0<nn)(y0 y1:Int)(y2 y3:Int)(y4:Nat)(y5:List PV)(y6 y7:Int)(y8:Bool)(y9:Nat)(Fi:List PV)(Gi Ek:Int)(Gg Fu:Int)(G5:Bool)(Ex:Int)(Gq:Nat)(N9:List PV)(Nz:Bool)(N5 N2:Int)(Oh:Nat)(Oc:List PV)(Oj Oa:Int)(N1 Oo:Int)(I3:Bool)(NA:Int)(NH:Nat)(y31:List PV)(WQ:Bool)(YQ y34:Int)(y35:Nat)(ZW:List PV)(y37 y38:Int)(YX ZQ:Int)(y41:Bool)(y42:Int)(y43:Nat)(y44:List PV)(y45:Bool)(y46 y47:Int):Jy fu call nn y0 y1 y2 y3 y4 y5 y6 y7 y8 y9 Fi Gi Ek Gg Fu G5 Ex Gq N9 Nz N5 N2 Oh Oc Oj Oa N1 Oo I3 NA NH y31 WQ YQ y34 y35 ZW y37 y38 YX ZQ y41 y42 y43 y44 y45 y46 y47=(Bd (y0==0) (Bd (y1==0) (Bd (y2==37) (Bd (y3==37) (Bd (y6==0) (Bd (!WQ) (Bd (y45) (Bd (Ex==10) (Bd ((↑Gq:Int)==2) (Bd (y8) (Bd (y7==0) (Af (call 13 [.lst false 3 y4 y5,.sc (.int .u64 1),.sc (.string (ByteArray.mk #[98,111,98]))]) fun Aqc Anh=>Ac Anh<|Aa Aqc fun Ao6 An0=>Kc 1 Ao6 fun Apn Ayu=>Ac An0<|some (A2.mk [.sc (.bool ((↑Apn:Int)==4))] [])) (some (A2.mk [.sc (.bool false)] []))) (some (A2.mk [.sc (.bool false)] []))) (some (A2.mk [.sc (.bool false)] []))) (some (A2.mk [.sc (.bool false)] []))) (some (A2.mk [.sc (.bool false)] []))) (some (A2.mk [.sc (.bool false)] []))) (some (A2.mk [.sc (.bool false)] []))) (some (A2.mk [.sc (.bool false)] []))) (some (A2.mk [.sc (.bool false)] []))) (some (A2.mk [.sc (.bool false)] []))) (some (A2.mk [.sc (.bool false)] []))):=by cases nn with|zero=>exact absurd Dy (Nat.lt_irrefl 0)|succ nn=>kernel_rfl
theorem Sh (fu d:Nat):Ag C0 prog fu (d+1) K6 []=(fun (call:Ai)=>Gf fu call (fu)) (Ag C0 prog fu d):=by kernel_rfl
end
section
open Go.Proofs.Try (prog)
open Go.IntKind (wrap)
set_option maxRecDepth 100000
abbrev Og:FuncId:=6
theorem X2 (fu d Ap:Nat)(a0:List PV):Ag C0 prog fu (d+1) Og [.lst false 1 Ap a0]=(fun (call:Ai)=>some (A2.mk [.pbox [.lst false 1 Ap a0,.sc (.int .i64 0)]] [])) (Ag C0 prog fu d):=by kernel_rfl
abbrev I9:FuncId:=28
theorem Oi (fu d:Nat)(a0 a1:Int):Ag C0 prog fu (d+1) I9 [.sc (.int .i64 a0),.sc (.int .i64 a1)]=(fun (call:Ai)=>Ab (wrap .u64 a0) fun x1=>Ab (wrap .u64 a1) fun x2=>An (decide (x2≠0))<|Ab (Int.tmod x1 x2) fun x3=>Ab (wrap .i64 x3) fun x4=>some (A2.mk [.sc (.int .i64 x4)] [])) (Ag C0 prog fu d):=by kernel_rfl
abbrev Ik:FuncId:=10
theorem Iz (fu d Fc:Nat)(Di:List PV)(Dc a1:Int):Ag C0 prog fu (d+1) Ik [.pbox [.lst false 1 Fc Di,.sc (.int .i64 Dc)],.sc (.int .i64 a1)]=(fun (call:Ai)=>Bd (decide (Dc>=(↑Fc:Int))) (some (A2.mk [.sc (.int .i64 0)] [[.lst false 1 Fc Di,.sc (.int .i64 Dc)]])) (Ab (wrap .i64 (Dc+1)) fun x1=>Ab (wrap .i64 (x1-1)) fun x2=>An (decide (0<=x2)&&decide (x2<(↑Fc:Int)))<|Ae .i64 (List.getD Di (Int.toNat x2*1) .top) fun x3=>Af (call 28 [.sc (.int .i64 x3),.sc (.int .i64 a1)]) fun x4 x5=>Ac x5<|Aa x4 fun x6 x7=>Ae .i64 x6 fun x8=>Ac x7<|some (A2.mk [.sc (.int .i64 x8)] [[.lst false 1 Fc Di,.sc (.int .i64 x1)]]))) (Ag C0 prog fu d):=by kernel_rfl
end
section
open Go.Proofs.Try (prog)
open Go.IntKind (wrap)
set_option maxRecDepth 100000
theorem RE {α:Type}{l:List α}{i:Nat}{a:α}(h:l[i]?=some a):l.set i a=l:=by
 refine List.ext_getElem? fun j=>?_
 rw[List.getElem?_set];by_cases hj:i=j
 ·subst hj;rw[J7 rfl,J7 (H4 h),h]
 ·rw[Ms hj]
section
variable {xs:FuncId->Option (List PV->Option A2)} {fu d:Nat}
theorem JD {n:Nat}{c:List PV}(hc:c.length=n)(hn:n<=1000000):Ag (CX xs) prog fu (d+1) Uy [.lst false 1 n c]=some ⟨[.own 1 n c],[]⟩:=by
 rw[GR];have t1:List.take n c=c:=Ha (by omega)
 by_cases h:0<n
 ·simp (disch:=omega) only[Ea,Cm,Zzq,t1,hc,Ch]
 ·have h0:n=0:=by omega
  subst h0;have:=List.length_eq_zero_iff.1 hc;subst this;simp (disch:=omega) only[Ea,Cm,Zzq,Dg,Ch,Nat.zero_mul,List.take_nil]
theorem Aaa {n:Nat}{c:List PV}(hc:c.length=n*2)(hn:n<=1000000):Ag (CX xs) prog fu (d+1) Le [.lst false 2 n c]=some ⟨[.own 2 n c],[]⟩:=by
 rw[Sx];have t1:List.take (n*2) c=c:=Ha (by omega)
 by_cases h:0<n
 ·simp (disch:=omega) only[Ea,Cm,Zzq,t1,hc]
 ·have h0:n=0:=by omega
  subst h0;have:=List.length_eq_zero_iff.1 hc;subst this;simp (disch:=omega) only[Ea,Cm,Zzq,Dg,Nat.zero_mul,List.take_nil]
def Sd.ocells (x:Sd):List PV:=[.own 1 x.id.length (Am .u8 x.id),.sc (.int .i64 x.ht),.sc (.int .u64 x.root),.sc (.int .u64 x.model),.sc (.int .i64 x.fmt),.sc (.bool x.sh),.sc (.int .u64 x.used),.own 2 x.rg.length (H5 x.rg),.sc (.bool x.sus),.sc (.int .i64 x.since),.sc (.int .i64 x.last)]
theorem U5 {c:Sd}(h1:c.id.length<=1000000)(h2:c.rg.length<=1000000):Ag (CX xs) prog fu (d+2) K2 [.agg c.cells]=some ⟨[.agg c.ocells],[]⟩:=by
 refine (Sn fu (d+1) c.id.length (Am .u8 c.id) c.ht c.root c.model c.fmt c.sh c.used c.rg.length (H5 c.rg) c.sus c.since c.last).trans ?_;have q1:=JD (xs:=xs) (fu:=fu) (d:=d) (A0 .u8 c.id) h1;have q2:=Aaa (xs:=xs) (fu:=fu) (d:=d) (Mb c.rg) h2;have l1:=A0 .u8 c.id;have l2:=Mb c.rg;have t1:List.take (c.id.length*1) (Am .u8 c.id)=Am .u8 c.id:=Ha (by omega)
 have t2:List.take (c.rg.length*2) (H5 c.rg)=H5 c.rg:=Ha (by omega)
 simp (disch:=omega) only[Ea,q1,q2,t1,t2];rfl
end
section
variable {fu d:Nat}
theorem Abd {c:List PV}{n:Nat}{i f l:Int}(hc:c.length=n*2)(h0:0<=i)(h1:i<=n)(hn:n<=100000)(ha:c.all BX=true):
  Ag C0 prog fu (d+1) 46 [.own 2 n c,.sc (.int .i64 i),.tup [.own 2 1 [.sc (.int .i64 f),.sc (.int .i64 l)]]] =
   some ⟨[.own 2 (n+1) (c.take (i.toNat*2)++(.sc (.int .i64 f) :: .sc (.int .i64 l)::c.drop (i.toNat*2)))],[[.sc (.int .i64 f),.sc (.int .i64 l)]]⟩:=by
 have h:Ag C0 prog fu (d+1) 46 [.own 2 n c,.sc (.int .i64 i),.tup [.own 2 1 [.sc (.int .i64 f),.sc (.int .i64 l)]]]=Agg [.own 2 n c,.sc (.int .i64 i),.tup [.own 2 1 [.sc (.int .i64 f),.sc (.int .i64 l)]]]:=by kernel_rfl
 rw[h];unfold Agg
 have e:(Nat.beq c.length (n*2)&&decide (0<=i)&&decide (i<=n)&&Nat.ble n 100000&&c.all BX)=true:=by
  simp[ha,hc,h0,h1,hn]
 simp only[e,cond_true]
theorem Ajk (l:List (Int × Int)):(H5 l).all BX=true:=by
 rw[List.all_eq_true];intro x hx;obtain⟨p,_,hp⟩:=List.mem_flatMap.1 hx;rcases List.mem_cons.1 hp with rfl|hp
 ·rfl
 ·rw[List.mem_singleton] at hp;subst hp;rfl
theorem Asx {l:List (Int × Int)} {i:Nat}{p:Int × Int}(h:l[i]?=some p):(H5 l).getD (i*2) .top=.sc (.int .i64 p.1):=by
 have:=DK (f:=fun p:Int × Int=>[PV.sc (.int .i64 p.1),.sc (.int .i64 p.2)]) (k:=2) (fun _=>rfl) h (j:=0) (by omega)
 exact this
theorem Aub {l:List (Int × Int)} {i:Nat}{p:Int × Int}(h:l[i]?=some p):(H5 l).getD (i*2+1) .top=.sc (.int .i64 p.2):=by
 have:=DK (f:=fun p:Int × Int=>[PV.sc (.int .i64 p.1),.sc (.int .i64 p.2)]) (k:=2) (fun _=>rfl) h (j:=1) (by omega)
 exact this
def MY (c:Sd)(leaf now:Int):Option (List (Int × Int))->A2
 |none=>⟨[.agg c.cells,.sc (.int .i64 37)],[]⟩
 |some r=>⟨[.agg ({ c with used:=Ap7 c.used leaf,rg:=r,last:=now }:Sd).cells,.sc (.int .i64 0)],[]⟩
theorem Afr {c:Sd}{leaf from_ now:Int}(hl:0<=leaf∧leaf<=15)(hr:c.rg.length<=1000)(Bb:c.id.length<=1000000){call:Ai}
  (Akh:∀i:Nat,i<=c.rg.length->call 46 [.own 2 c.rg.length (H5 c.rg),.sc (.int .i64 (i:Int)),.tup [.own 2 1 [.sc (.int .i64 from_),.sc (.int .i64 leaf)]]]=some ⟨[.own 2 (c.rg.length+1) ((H5 c.rg).take (i*2)++(.sc (.int .i64 from_) :: .sc (.int .i64 leaf)::(H5 c.rg).drop (i*2)))],[[.sc (.int .i64 from_),.sc (.int .i64 leaf)]]⟩)
  {Ap:Nat} {a0:List PV} {a1 a2 a3 a4 a6 a9 a10 b1 b2 b3:Int} {a5 a8:Bool} {a7n:Nat} {a7:List PV} {z1:Nat} {z2 z3 z4 z5 z7 z10 z11:Int} {z6 z9:Bool} {z8:Nat} {z12 z13:List PV}:
  ∀(r:List (Int × Int)) (i nn:Nat),c.rg.drop i=r->r.length<nn->i<=c.rg.length->(∀p∈c.rg.take i,p.1<from_) ->
   Gj fu call Ap a0 a1 a2 a3 a4 a5 a6 a7n a7 a8 a9 a10 b1 b2 b3 nn leaf from_ now (Jt .u64 1 leaf) (i:Int) c.id.length c.ht c.root c.model c.fmt c.sh c.used c.rg.length c.sus c.since c.last (Am .u8 c.id) (H5 c.rg) z1 z2 z3 z4 z5 z6 z7 z8 z9 z10 z11 z12 z13 =
    some (MY c leaf now ((put from_ leaf r).map (c.rg.take i ++ ·))):=by
 intro r;have l1:=A0 .u8 c.id;have l2:=Mb c.rg;have t1:List.take (c.id.length*1) (Am .u8 c.id)=Am .u8 c.id:=Ha (by omega)
 have t2:List.take (c.rg.length*2) (H5 c.rg)=H5 c.rg:=Ha (by omega)
 have eS:BV .u64 c.used (Jt .u64 1 leaf)=Ap7 c.used leaf:=rfl
 have insR:∀(i:Nat) (s:List (Int × Int)),i<=c.rg.length->c.rg.drop i=s->(H5 c.rg).take (i*2)++(.sc (.int .i64 from_) :: .sc (.int .i64 leaf)::(H5 c.rg).drop (i*2))=H5 (c.rg.take i++(from_,leaf)::s):=by
  intro i s hi hs;have e1:=Qv (f:=fun p:Int × Int=>[PV.sc (.int .i64 p.1),.sc (.int .i64 p.2)]) (k:=2) (fun _=>rfl) c.rg i
  have e2:=Ol (f:=fun p:Int × Int=>[PV.sc (.int .i64 p.1),.sc (.int .i64 p.2)]) (k:=2) (fun _=>rfl) c.rg i
  rw[Aje,Aci,←hs];unfold H5;rw[e1,e2]
 have setR:∀(i:Nat) (l:List (Int × Int)) (p:Int × Int),l[i]?=some p->Bl (H5 l) [.sc (.int .i64 leaf)] (0+i*2+1)=H5 (l.set i (p.1,leaf)):=by
  intro i l p h;have Bp:=H4 h;have NG:=Mb l;rw[Vw (by omega)]
  have:=LW (f:=fun p:Int × Int=>[PV.sc (.int .i64 p.1),.sc (.int .i64 p.2)]) (k:=2) (fun _=>rfl) (p:=.sc (.int .i64 leaf)) (j:=1) (by omega) (y:=(p.1,leaf)) h rfl
  unfold H5;rw[←this]
  congr 1
  omega
 induction r with
 |nil=>
  intro i nn hd Dy hi hp;have FM:i=c.rg.length:=by have:=drop_nil hd;omega
  obtain⟨nn,rfl⟩:∃k,nn=k+1:=⟨nn-1,by omega⟩
  rw[L5];have q:=Akh i hi;have eI:=insR i [] hi hd;rw[eI] at q;have ht:c.rg.take i=c.rg:=Ha (by omega)
  rw[ht] at q;have eG:(c.rg++[(from_,leaf)])[i]?=some (from_,leaf):=by rw[FM];simp
  have eS2:=setR i _ _ eG;have eS3:=RE eG;rw[eS3] at eS2;have lR:=Mb (c.rg++[(from_,leaf)]);have lA:(c.rg++[(from_,leaf)]).length=c.rg.length+1:=by simp
  have tR:List.take ((c.rg.length+1)*2) (H5 (c.rg++[(from_,leaf)]))=H5 (c.rg++[(from_,leaf)]):=Ha (by omega)
  have eq1:((i:Int)==(c.rg.length:Int))=true:=by simp[FM]
  have tn:Int.toNat (i:Int)=i:=rfl;have eX:put from_ leaf []=some [(from_,leaf)]:=rfl;rw[eX];simp only[Option.map_some,ht]
  try unfold Ab
  repeat first
   |((with_reducible first|apply A8|apply Aw|apply A5|apply Ay|apply B5|apply C6|apply Ax|apply A9|apply A7);· first|with_reducible rfl|(simp (disch:=omega) only[gT,q,t1,t2,tR,eS,eS2,eq1,tn,Cl,lR,lA]<;>first|with_reducible rfl|omega)|omega)
   |(with_reducible apply A6;· first|with_reducible rfl|(simp (disch:=omega) only[gF,q,t1,t2,tR,eS,eS2,eq1,tn,Cl,lR,lA]<;>omega))
  try simp (disch:=omega) only[q,t1,t2,tR,eS,eS2,eq1,tn,Cl,lR,lA]
  simp only[MY,Sd.cells,lA]
 |cons p r ih=>
  intro i nn hd Dy hi hp;obtain⟨Bp,Bu,hd'⟩:=C3 hd;obtain⟨nn,rfl⟩:∃k,nn=k+1:=⟨nn-1,by omega⟩
  rw[L5];have eF:=Asx Bu;have eL:=Aub Bu;have tn:Int.toNat (i:Int)=i:=rfl;have a0':(0:Nat)+i*2+0=i*2:=by omega
  have a1':(0:Nat)+i*2+1=i*2+1:=by omega
  have lt1:decide ((i:Int)<(c.rg.length:Int))=true:=by simp;omega
  have ne1:((i:Int)==(c.rg.length:Int))=false:=by simp;omega
  have w1:wrap .i64 ((i:Int)+1)=((i+1:Nat):Int):=by rw[wrap_i64 (by omega) (by omega)];omega
  have tk:c.rg.take (i+1)=c.rg.take i++[p]:=by rw[List.take_add_one,Bu];rfl
  unfold put;by_cases c1:p.1<from_
  ·rw[J7 c1]
   have ihh:=ih (i+1) nn hd' (by simp at Dy;omega) (by omega) (by
    intro q hq;rw[tk] at hq;rcases List.mem_append.1 hq with hq|hq
    ·exact hp q hq
    ·rw[List.mem_singleton] at hq;subst hq;exact c1)
   have e:((put from_ leaf r).map (p :: ·)).map (c.rg.take i ++ ·)=(put from_ leaf r).map (c.rg.take (i+1) ++ ·):=by
    rw[Option.map_map,tk]
    congr 1
    funext x
    simp
   rw[e,←ihh];have d1:decide (p.1<from_)=true:=by simp[c1]
   simp (disch:=omega) only[Ea,tn,a0',eF,w1,lt1,d1]
  ·rw[Ms c1];have d1:decide (p.1<from_)=false:=by simp;omega
   by_cases c2:p.1=from_
   ·rw[J7 c2];have d2:(p.1 != from_)=false:=by simp[c2]
    by_cases c3:leaf<=p.2
    ·rw[J7 c3];have d3:decide (p.2>=leaf)=true:=by simp;omega
     simp (disch:=omega) only[Ea,tn,a0',a1',eF,eL,lt1,d1,ne1,d2,d3,t1,t2,Cl,Option.map_none];rfl
    ·rw[Ms c3];have d3:decide (p.2>=leaf)=false:=by simp;omega
     have eS2:=setR i _ _ Bu;have lR:=Mb (c.rg.set i (p.1,leaf));have lA:(c.rg.set i (p.1,leaf)).length=c.rg.length:=by simp
     have eA:c.rg.set i (p.1,leaf)=c.rg.take i++(from_,leaf)::r:=by
      rw[List.set_eq_take_append_cons_drop,J7 Bp,hd',c2]
     have tR:List.take (c.rg.length*2) (H5 (c.rg.set i (p.1,leaf)))=H5 (c.rg.set i (p.1,leaf)):=Ha (by omega)
     rw[a1'] at eS2;have hS3:i*2+1+1<=(H5 c.rg).length:=by omega
     simp (disch:=omega) only[Ea,tn,a0',a1',eF,eL,lt1,d1,ne1,d2,d3,t1,tR,Cl,Option.map_some,eS2,eS,lR,lA];simp only[MY,Sd.cells,←eA,lA]
   ·rw[Ms c2];have d2:(p.1 != from_)=true:=by simp[c2]
    have q:=Akh i hi;have eI:=insR i (p::r) hi hd;rw[eI] at q
    have eG:(c.rg.take i++(from_,leaf)::p::r)[i]?=some (from_,leaf):=by
     rw[List.getElem?_append_right (by rw[List.length_take];omega),List.length_take,Nat.min_eq_left (by omega),Nat.sub_self];rfl
    have eS2:=setR i _ _ eG;have eS3:=RE eG;rw[eS3] at eS2
    have lA:(c.rg.take i++(from_,leaf)::p::r).length=c.rg.length+1:=by
     have:=congrArg List.length hd;simp at this ⊢;omega
    have lR:=Mb (c.rg.take i++(from_,leaf)::p::r);rw[Option.map_some];generalize hL:c.rg.take i++(from_,leaf)::p::r=L at *
    have tR:List.take ((c.rg.length+1)*2) (H5 L)=H5 L:=Ha (by omega)
    rw[a1'] at eS2;have hS3:i*2+1+1<=(H5 L).length:=by omega
    simp (disch:=omega) only[Ea,tn,a0',a1',eF,lt1,d1,ne1,d2,t1,t2,q,tR,Cl,eS2,eS,lR,lA];simp only[MY,Sd.cells,lA]
theorem Tl {c:Sd}(hk:c.ok)(B2:2000<=fu)(leaf from_ now:Int):Ag C0 prog fu (d+4) Pf [.agg c.cells,.sc (.int .i64 leaf),.sc (.int .i64 from_),.sc (.int .i64 now)]=some ⟨[.agg (AX c leaf from_ now).1.cells,.sc (.int .i64 (AX c leaf from_ now).2)],[]⟩:=by
 refine (Yq fu (d+3) c.id.length (Am .u8 c.id) c.ht c.root c.model c.fmt c.sh c.used c.rg.length (H5 c.rg) c.sus c.since c.last leaf from_ now).trans ?_;have q:=U5 (xs:=Ie) (fu:=fu) (d:=d+1) hk.idL (Nat.le_trans hk.rgn (by omega))
 simp only[Sd.cells,Sd.ocells] at q;have l1:=A0 .u8 c.id;have l2:=Mb c.rg;have t1:List.take (c.id.length*1) (Am .u8 c.id)=Am .u8 c.id:=Ha (by omega)
 have t2:List.take (c.rg.length*2) (H5 c.rg)=H5 c.rg:=Ha (by omega)
 simp (disch:=omega) only[Ea,q,t1,t2,Cl,l1,l2];by_cases h1:c.ht<0
 ·have hb:Vm c leaf from_=true:=by simp[Vm,h1]
  unfold AX;rw[J7 hb];simp (disch:=omega) only[Ea];rfl
 by_cases h2:c.ht>4
 ·have hb:Vm c leaf from_=true:=by simp[Vm,h2]
  unfold AX;rw[J7 hb];simp (disch:=omega) only[Ea];rfl
 by_cases h3:from_<0
 ·have hb:Vm c leaf from_=true:=by simp[Vm,h3]
  unfold AX;rw[J7 hb];simp (disch:=omega) only[Ea];rfl
 by_cases h4:from_>leaf
 ·have hb:Vm c leaf from_=true:=by simp[Vm,h4]
  unfold AX;rw[J7 hb];simp (disch:=omega) only[Ea];rfl
 by_cases h5:leaf>=Jt .i64 1 c.ht
 ·have hb:Vm c leaf from_=true:=by simp[Vm,h5]
  unfold AX;rw[J7 hb];simp (disch:=omega) only[Ea];rfl
 have hb:Vm c leaf from_=false:=by simp[Vm,h1,h2,h3,h4,h5]
 obtain⟨r1,r2,r3,r4,r5,r6⟩:=UA hb;unfold AX;rw[Ms (by rw[hb];simp)]
 simp (disch:=omega) only[Ea];rw[Uc (Dy:=by omega)]
 have ub:=YD hk.u0 hk.u1 (k:=leaf) (by omega) (by omega)
 by_cases hs:c.sus=true
 ·have hsT:∀x y:Option A2,Bd c.sus x y=x:=fun x y=>by rw[hs];rfl
  rw[J7 hs];simp (disch:=omega) only[Ea,hsT,t1,t2,Cl];rfl
 ·have hsF:∀x y:Option A2,Bd c.sus x y=y:=fun x y=>by rw[Bool.not_eq_true] at hs;rw[hs];rfl
  rw[Ms hs];by_cases Uk:Ajt c.used leaf=true
  ·rw[Uk] at ub;rw[J7 Uk];simp (disch:=omega) only[Ea,hsF,ub,t1,t2,Cl];rfl
  ·rw[Bool.not_eq_true] at Uk;rw[Uk] at ub;rw[Ms (by simp[Uk])]
   simp (disch:=omega) only[Ea,hsF,ub];refine (Afr (c:=c) (leaf:=leaf) (from_:=from_) (now:=now) (by omega) hk.rgn hk.idL (fun i hi=>Abd (Mb _) (by omega) (by omega) (by have:=hk.rgn;omega) (Ajk _)) c.rg 0 fu rfl (by have:=hk.rgn;omega) (by omega) (by simp)).trans ?_
   have e0:(Option.map (List.take 0 c.rg ++ ·) (put from_ leaf c.rg))=put from_ leaf c.rg:=by
    rw[List.take_zero];cases put from_ leaf c.rg<;>rfl
   rw[e0];cases put from_ leaf c.rg<;>rfl
end
end
section
open Go.Proofs.Try (prog)
open Go.IntKind (wrap)
set_option maxRecDepth 100000
section
variable {fu d:Nat}
theorem SQ (a b c:Int):Ag C0 prog fu (d+1) Jw [.sc (.int .i64 a),.sc (.int .i64 b),.sc (.int .i64 c)]=some ⟨[.sc (.bool (decide (b<=a)&&decide (a<=c)))],[]⟩:=by
 rw[R4];by_cases h1:b<=a
 ·simp (disch:=omega) only[Ea,h1,decide_true,Bool.true_and]
 ·have Tf:¬a>=b:=by omega
  simp[Bd,h1,Tf]
end
end
section
open Go.Proofs.Try (prog)
open Go.IntKind (wrap)
abbrev X6 (l:List Int)(a:Nat):List PV:=[.lst false 1 l.length (Am .i64 l),.sc (.int .i64 (a:Int))]
theorem Aqs {fu d:Nat}{l:List Int}:Ag C0 prog fu (d+1) Og [.lst false 1 l.length (Am .i64 l)]=some ⟨[.pbox (X6 l 0)],[]⟩:=by
 rw[X2];rfl
theorem Aob (v n:Int)(hn:0<n)(hm:n<=9223372036854775807):∃r,0<=r∧r<n∧∀{fu d:Nat},Ag C0 prog fu (d+1) I9 [.sc (.int .i64 v),.sc (.int .i64 n)]=some ⟨[.sc (.int .i64 r)],[]⟩:=by
 have h1:=DX v;have h2:wrap .u64 n=n:=D7 (by omega) (by omega)
 have h3:0<=Int.tmod (wrap .u64 v) n:=Int.tmod_nonneg _ h1.1;have h4:Int.tmod (wrap .u64 v) n<n:=Int.tmod_lt_of_pos _ hn;refine⟨_,h3,h4,fun {fu d}=>?_⟩
 rw[Oi];simp only[Kx,h2];rw[BL _ _ (by omega),wrap_i64 (by omega) (by omega)]
theorem Cz {l:List Int}(hl:l.length<=maxLen)(a:Nat)(n:Int)(hn:0<n)(hm:n<=9223372036854775807):∃(v:Int)(a':Nat),0<=v∧v<n ∧
  ∀{fu d:Nat},Ag C0 prog fu (d+2) Ik [.pbox (X6 l a),.sc (.int .i64 n)]=some ⟨[.sc (.int .i64 v)],[X6 l a']⟩:=by
 simp only[maxLen] at hl;by_cases h:a<l.length
 ·obtain⟨r,h1,h2,h3⟩:=Aob l[a] n hn hm;refine⟨r,a+1,h1,h2,fun {fu d}=>?_⟩
  rw[Iz]
  have hg:(Am .i64 l).getD (Int.toNat ((a:Int)+1-1)*1) .top=.sc (.int .i64 l[a]):=by
   have:=ati (k:=.i64) (List.getElem?_eq_getElem h);rw[show Int.toNat ((a:Int)+1-1)*1=a by omega]
   exact this
  simp (disch:=omega) only[Ea,wrap_i64,hg,h3];rfl
 ·refine⟨0,a,by omega,hn,fun {fu d}=>?_⟩
  rw[Iz];simp (disch:=omega) only[Ea]
end
section
open Go.Proofs.Try (prog)
open Go.IntKind (wrap)
set_option maxRecDepth 100000
def GG (key nonce:Int):Nat->Nat->List Int
 |_,0=>[]
 |i,k+1=>Gk (BC key 5 (B9 [nonce,(i:Int)]))++GG key nonce (i+1) k
def Na (key nonce:Int)(n:Nat):List Int:=(GG key nonce 0 ((n+7) / 8)).take n
theorem OB (key nonce:Int):∀(k i:Nat),(GG key nonce i k).length=8*k
 |0,_=>rfl
 |k+1,i=>by show (Gk _++_).length=_;rw[AK,E3,OB key nonce k];omega
theorem Ady (key nonce:Int):∀(k i:Nat),T0 (GG key nonce i k)
 |0,_=>fun x hx=>by cases hx
 |k+1,i=>Aj2 (WS _) (Ady key nonce k _)
theorem Gu (key nonce:Int)(n:Nat):(Na key nonce n).length=n:=by
 unfold Na;rw[List.length_take,OB];omega
theorem UO (key nonce:Int)(n:Nat):T0 (Na key nonce n):=(Ady key nonce _ _).take n
section
variable {fu d:Nat}
theorem SP {xs:FuncId->Option (List PV->Option A2)} {l:List Int}(hb:T0 l)(hl:l.length<=1099511627776)(B2:100<=fu)(hf:l.length<fu)(key dom:Int):Ag (CX xs) prog fu (d+5) Wo [.sc (.int .u64 key),.sc (.int .i64 dom),.lst false 1 l.length (Am .u8 l)]=some ⟨[.sc (.int .u64 (BC key dom l))],[]⟩:=by
 rw[MV];have s:=Aph (xs:=xs) (fu:=fu) (d:=d) hb hl B2 hf key (wrap .u64 (1+wrap .u64 dom));simp only[Ea,s];rfl
theorem ZS (B2:1000<=fu){a0 a1 a2:Int}{key nonce:Int}{n:Nat}(hn:n<=1024):∀(k nn i:Nat)(l:List Int),n<=8*(i+k)->8*(i+k)<n+8->k<nn->l.length=8*i ->
  Je fu (Ag C0 prog fu (d+5)) a0 a1 a2 nn key nonce (n:Int) l.length i (Am .u8 l)=some ⟨[.own 1 n (Am .u8 ((l++GG key nonce i k).take n))],[]⟩:=by
 intro k
 induction k with
 |zero=>
  intro nn i l h1 Tf h2 h3;obtain⟨m,rfl⟩:∃m,nn=m+1:=⟨nn-1,by omega⟩
  have L:=A0 .u8 l;have nt:Int.toNat (n:Int)=n:=Rq _;rw[Qa,GG,List.append_nil]
  try unfold Ab
  repeat first
   |((with_reducible first|apply A8|apply Aw|apply A5|apply B5|apply Ax|apply A9|apply A7);· first|with_reducible rfl|(simp (disch:=omega) only[gT,L,nt,Nat.sub_zero,Ch,Gb]<;>first|with_reducible rfl|omega)|omega)
   |(with_reducible apply A6;· first|with_reducible rfl|(simp (disch:=omega) only[gF,L,nt,Nat.sub_zero,Ch,Gb]<;>omega))
  try simp (disch:=omega) only[L,nt,Nat.sub_zero,Ch,Gb]
 |succ k ih=>
  intro nn i l h1 Tf h2 h3;obtain⟨m,rfl⟩:∃m,nn=m+1:=⟨nn-1,by omega⟩
  have L:=A0 .u8 l;have nt:Int.toNat (n:Int)=n:=Rq _;have Bp:l.length<n:=by omega
  have w2:wrap .u64 ((i:Int)+1)=((i+1:Nat):Int):=by rw[D7 (by omega) (by omega)];omega
  have wd:Ag C0 prog fu (d+5) I5 [.lst false 1 2 [.sc (.int .u64 nonce),.sc (.int .u64 i)]]=some ⟨[.own 1 (B9 [nonce,(i:Int)]).length (Am .u8 (B9 [nonce,(i:Int)]))],[]⟩:=PJ (xs:=Ie) (ws:=[nonce,i]) (by simp) (by omega) (by simp;omega)
  have mc:=SP (xs:=Ie) (fu:=fu) (d:=d) (l:=B9 [nonce,i]) (NU _) (by rw[Q7];simp) (by omega) (by rw[Q7];simp;omega) key 5
  have L2:=A0 .u8 (B9 [nonce,i]);have t2:=tki .u8 (B9 [nonce,i]);rw[GG];generalize BC key 5 (B9 [nonce,i])=q at mc ⊢;have ow:Ag C0 prog fu (d+5) I5 [.lst false 1 1 [.sc (.int .u64 q)]]=some ⟨[.own 1 (B9 [q]).length (Am .u8 (B9 [q]))],[]⟩:=PJ (xs:=Ie) (ws:=[q]) (by simp) (by omega) (by simp;omega)
  have eq1:B9 [q]=Gk q:=by simp[B9]
  rw[eq1,E3] at ow;have Lq:(Am .u8 (Gk q)).length=8:=by rw[A0,E3]
  have tq:List.take 8 (Am .u8 (Gk q))=Am .u8 (Gk q):=Ha (by omega)
  have tl:=tki .u8 l;have ea:Am .u8 l++Am .u8 (Gk q)=Am .u8 (l++Gk q):=by rw[Am,Am,Am,List.flatMap_append]
  have r3:=ih m (i+1) (l++Gk q) (by omega) (by omega) (by omega) (by rw[AK,E3];omega)
  rw[AK,E3,Zzv] at r3;rw[←r3,Qa];generalize B9 [nonce,(i:Int)]=W at *
  generalize W.length=wn at *
  try unfold Ab
  repeat first
   |((with_reducible first|apply A8|apply Aw|apply A5|apply B5|apply Ax|apply A9|apply A7);· first|with_reducible rfl|(simp (disch:=omega) only[gT,w2,wd,Cl,Cm,Ch,L,L2,t2,mc,ow,Lq,tq,tl,ea]<;>first|with_reducible rfl|omega)|omega)
   |(with_reducible apply A6;· first|with_reducible rfl|(simp (disch:=omega) only[gF,w2,wd,Cl,Cm,Ch,L,L2,t2,mc,ow,Lq,tq,tl,ea]<;>omega))
  try simp (disch:=omega) only[w2,wd,Cl,Cm,Ch,L,L2,t2,mc,ow,Lq,tq,tl,ea]
  all_goals rfl
theorem Aki (B2:1000<=fu)(key nonce:Int){n:Nat}(hn:n<=1024):Ag C0 prog fu (d+6) Ou [.sc (.int .u64 key),.sc (.int .u64 nonce),.sc (.int .i64 n)]=some ⟨[.own 1 n (Am .u8 (Na key nonce n))],[]⟩:=by
 rw[FW];have f1:(if (n:Int)<0 then (0:Int) else (n:Int))=n:=Ms (by omega)
 have f2:(if (1024:Int)<(n:Int) then (1024:Int) else (n:Int))=n:=Ms (by omega)
 have w:wrap .i64 ((n:Int)+8)=(n:Int)+8:=wrap_i64 (by omega) (by omega)
 simp (disch:=omega) only[Ea,f1,f2,w];exact ZS B2 hn ((n+7) / 8) fu 0 [] (by omega) (by omega) (by omega) rfl
theorem SZ (B2:1000<=fu){a0 a1 a2:Int}{key nonce:Int}{n:Nat}(hn:n<=1024):∀(k nn i:Nat)(l:List Int),n<=8*(i+k)->8*(i+k)<n+8->k<nn->l.length=8*i ->
  Ez fu (Ag C0 prog fu (d+4)) a0 a1 a2 nn key nonce (n:Int) l.length i (Am .u8 l)=some ⟨[.own 1 n (Am .u8 ((l++GG key nonce i k).take n))],[]⟩:=by
 intro k
 induction k with
 |zero=>
  intro nn i l h1 Tf h2 h3;obtain⟨m,rfl⟩:∃m,nn=m+1:=⟨nn-1,by omega⟩
  have L:=A0 .u8 l;have nt:Int.toNat (n:Int)=n:=Rq _;rw[Im,GG,List.append_nil]
  try unfold Ab
  repeat first
   |((with_reducible first|apply A8|apply Aw|apply A5|apply B5|apply Ax|apply A9|apply A7);· first|with_reducible rfl|(simp (disch:=omega) only[gT,L,nt,Nat.sub_zero,Ch,Gb]<;>first|with_reducible rfl|omega)|omega)
   |(with_reducible apply A6;· first|with_reducible rfl|(simp (disch:=omega) only[gF,L,nt,Nat.sub_zero,Ch,Gb]<;>omega))
  try simp (disch:=omega) only[L,nt,Nat.sub_zero,Ch,Gb]
 |succ k ih=>
  intro nn i l h1 Tf h2 h3;obtain⟨m,rfl⟩:∃m,nn=m+1:=⟨nn-1,by omega⟩
  have L:=A0 .u8 l;have nt:Int.toNat (n:Int)=n:=Rq _;have Bp:l.length<n:=by omega
  have w1:wrap .u64 (i:Int)=(i:Int):=D7 (by omega) (by omega)
  have w2:wrap .i64 ((i:Int)+1)=((i+1:Nat):Int):=by rw[wrap_i64 (by omega) (by omega)];omega
  have wd:Ag C0 prog fu (d+4) Fh [.lst false 1 2 [.sc (.int .u64 nonce),.sc (.int .u64 i)]]=some ⟨[.own 1 (B9 [nonce,(i:Int)]).length (Am .u8 (B9 [nonce,(i:Int)]))],[]⟩:=IC (xs:=Ie) (ws:=[nonce,i]) (by simp) (by omega) (by simp;omega)
  have mc:=KA (xs:=Ie) (fu:=fu) (d:=d) (l:=B9 [nonce,i]) (NU _) (by rw[Q7];simp) (by omega) (by rw[Q7];simp;omega) key 5
  have L2:=A0 .u8 (B9 [nonce,i]);have t2:=tki .u8 (B9 [nonce,i]);rw[GG];generalize BC key 5 (B9 [nonce,i])=q at mc ⊢;have ow:Ag C0 prog fu (d+4) Fh [.lst false 1 1 [.sc (.int .u64 q)]]=some ⟨[.own 1 (B9 [q]).length (Am .u8 (B9 [q]))],[]⟩:=IC (xs:=Ie) (ws:=[q]) (by simp) (by omega) (by simp;omega)
  have eq1:B9 [q]=Gk q:=by simp[B9]
  rw[eq1,E3] at ow;have Lq:(Am .u8 (Gk q)).length=8:=by rw[A0,E3]
  have tq:List.take 8 (Am .u8 (Gk q))=Am .u8 (Gk q):=Ha (by omega)
  have tl:=tki .u8 l;have ea:Am .u8 l++Am .u8 (Gk q)=Am .u8 (l++Gk q):=by rw[Am,Am,Am,List.flatMap_append]
  have r3:=ih m (i+1) (l++Gk q) (by omega) (by omega) (by omega) (by rw[AK,E3];omega)
  rw[AK,E3,Zzv] at r3;rw[←r3,Im];generalize B9 [nonce,(i:Int)]=W at *
  generalize W.length=wn at *
  try unfold Ab
  repeat first
   |((with_reducible first|apply A8|apply Aw|apply A5|apply B5|apply Ax|apply A9|apply A7);· first|with_reducible rfl|(simp (disch:=omega) only[gT,w1,w2,wd,Cl,Cm,Ch,L,L2,t2,mc,ow,Lq,tq,tl,ea]<;>first|with_reducible rfl|omega)|omega)
   |(with_reducible apply A6;· first|with_reducible rfl|(simp (disch:=omega) only[gF,w1,w2,wd,Cl,Cm,Ch,L,L2,t2,mc,ow,Lq,tq,tl,ea]<;>omega))
  try simp (disch:=omega) only[w1,w2,wd,Cl,Cm,Ch,L,L2,t2,mc,ow,Lq,tq,tl,ea]
  all_goals rfl
theorem OG (B2:1000<=fu)(key nonce:Int){n:Nat}(hn:n<=1024):Ag C0 prog fu (d+5) Gv [.sc (.int .u64 key),.sc (.int .u64 nonce),.sc (.int .i64 n)]=some ⟨[.own 1 n (Am .u8 (Na key nonce n))],[]⟩:=by
 rw[Sp];have f1:(if (n:Int)<0 then (0:Int) else (n:Int))=n:=Ms (by omega)
 have f2:(if (1024:Int)<(n:Int) then (1024:Int) else (n:Int))=n:=Ms (by omega)
 simp (disch:=omega) only[Ea,f1,f2];exact SZ B2 hn ((n+7) / 8) fu 0 [] (by omega) (by omega) (by omega) rfl
def Dj (seed:Int)(n:Nat):List Int:=Na (wrap .u64 (wrap .u64 seed+1)) 7 n
theorem Mw (B2:1000<=fu)(seed:Int){n:Nat}(hn:n<=1024):Ag C0 prog fu (d+6) Hp [.sc (.int .i64 seed),.sc (.int .i64 n)]=some ⟨[.own 1 n (Am .u8 (Dj seed n))],[]⟩:=by
 have e:=OG (fu:=fu) (d:=d) B2 (wrap .u64 (wrap .u64 seed+1)) 7 hn;have f1:(if (n:Int)<0 then (0:Int) else (n:Int))=n:=Ms (by omega)
 have f2:(if (1024:Int)<(n:Int) then (1024:Int) else (n:Int))=n:=Ms (by omega)
 have L:(Am .u8 (Dj seed n)).length=n:=by rw[A0,Dj,Gu]
 have t:List.take n (Am .u8 (Dj seed n))=Am .u8 (Dj seed n):=Ha (by omega)
 rw[Uf];unfold Dj at *
 simp (disch:=omega) only[Ea,f1,f2,e,Ch,L,t]
def ZX (k h:Int):Sd:=⟨Dj (600+k) 176,h,5,0,0,false,0,[],false,3,0⟩
theorem S2 (k h:Int):(ZX k h).ok:=⟨UO _ _ _,by show (Na _ _ _).length<=_;rw[Gu];omega,by show (0:Int)<=0;omega,by show (0:Int)<=_;omega,trivial,by show 0<=_;omega⟩
theorem Aoa {v n:Int}(h0:0<=v)(h1:v<n)(hn:n<=9223372036854775807):Ag C0 prog fu (d+1) I9 [.sc (.int .i64 v),.sc (.int .i64 n)]=some ⟨[.sc (.int .i64 v)],[]⟩:=by
 rw[Oi];have w1:wrap .u64 v=v:=D7 h0 (by omega)
 have w2:wrap .u64 n=n:=D7 (by omega) (by omega)
 have e:Int.tmod v n=v:=Int.tmod_eq_of_lt h0 h1;simp only[Kx,w1,w2,e];rw[BL _ _ (by omega),wrap_i64 (by omega) (by omega)]
theorem To (B2:1000<=fu){k:Int}(h0:0<=k)(h1:k<12)(h:Int):Ag C0 prog fu (d+7) Ka [.sc (.int .i64 k),.sc (.int .i64 h)]=some ⟨[.agg (ZX k h).cells],[]⟩:=by
 rw[R6];have m:=Aoa (fu:=fu) (d:=d+5) h0 h1 (by omega)
 have w:wrap .i64 (600+k)=600+k:=wrap_i64 (by omega) (by omega)
 have b:Ag C0 prog fu (d+6) Hp [.sc (.int .i64 (600+k)),.sc (.int .i64 176)]=_:=Mw (fu:=fu) (d:=d) B2 (600+k) (n:=176) (by omega)
 have L:(Am .u8 (Dj (600+k) 176)).length=176:=by rw[A0,Dj,Gu]
 have L1:(Dj (600+k) 176).length=176:=by rw[Dj,Gu]
 have t:List.take 176 (Am .u8 (Dj (600+k) 176))=Am .u8 (Dj (600+k) 176):=Ha (by omega)
 simp (disch:=omega) only[Ea,m,w,b,Ch,Cm,Cl,L,t];simp only[Sd.cells,ZX,L1];rfl
end
end
section
open Go.IntKind (wrap)
def I2 (s:ByteArray):List Int:=s.data.toList.map fun b=>(b.toNat:Int)
def Ed (l:List Int):ByteArray:=⟨(l.map fun n=>n.toNat.toUInt8).toArray⟩
theorem Wh (s:ByteArray):(I2 s).length=s.size:=by
 unfold I2;rw[List.length_map];rfl
theorem KE (s:ByteArray):T0 (I2 s):=by
 intro x hx;obtain⟨b,_,rfl⟩:=List.mem_map.1 hx;have:=b.toNat_lt;omega
theorem Lh (s:ByteArray):Dx s=Am .u8 (I2 s):=by
 unfold Dx I2
 induction s.data.toList with
 |nil=>rfl
 |cons b l ih=>rw[List.map_cons,List.map_cons,ih];rfl
theorem LG (l:List Int):(Ed l).size=l.length:=by
 show (l.map fun n=>n.toNat.toUInt8).toArray.size=_
 simp
theorem JN {l:List Int}(h:T0 l):I2 (Ed l)=l:=by
 unfold I2 Ed;simp only[List.map_map]
 have:∀l:List Int,T0 l->List.map ((fun b:UInt8=>(b.toNat:Int)) ∘ fun n:Int=>n.toNat.toUInt8) l=l:=by
  intro l
  induction l with
  |nil=>intro _;rfl
  |cons x l ih=>
   intro h;have hx:=h x (by simp)
   rw[List.map_cons,ih fun y hy=>h y (by simp[hy])]
   congr 1
   show ((x.toNat.toUInt8.toNat:Nat):Int)=x;rw[Nat.toUInt8,UInt8.toNat_ofNat'];omega
 exact this l h
theorem El:∀l:List Int,bytesOf (Am .u8 l)=some (l.map fun n=>n.toNat.toUInt8)
 |[]=>rfl
 |x::l=>by
  show (bytesOf (Am .u8 l)).map (x.toNat.toUInt8 :: ·)=_
  rw[El l];rfl
end
section
open Go.Proofs.Try (prog)
open Go.IntKind (wrap)
set_option maxRecDepth 100000
def bu (l:List Int):List UInt8:=l.map fun n=>n.toNat.toUInt8
def RZ (a b:List Int):Bool:=Op.bytesLess (bu a) (bu b)||bu a==bu b
def Aov (a b:List Int):Int:=Lib.compareBytes (bu a) (bu b)
theorem Aks:∀x y:List UInt8,(Lib.compareBytes x y<0)↔Op.bytesLess x y=true
 |[],[]=>by simp[Lib.compareBytes,Op.bytesLess]
 |[],_::_=>by simp[Lib.compareBytes,Op.bytesLess]
 |_::_,[]=>by simp[Lib.compareBytes,Op.bytesLess]
 |a::x,b::y=>by
  have ih:=Aks x y;unfold Lib.compareBytes Op.bytesLess;by_cases h1:a<b
  ·simp[h1]
  ·rw[Ms h1];by_cases h2:b<a
   ·have:¬a=b:=fun e=>by subst e;exact h1 h2
    simp[h1,h2,this]
   ·have:a=b:=UInt8.le_antisymm (UInt8.not_lt.1 h2) (UInt8.not_lt.1 h1);rw[Ms h2,ih];simp[h1,this]
theorem BW (a b:List Int):RZ a b=true↔bu a<=bu b:=by
 unfold RZ;rw[bytesLess_eq];simp only[Bool.or_eq_true,decide_eq_true_eq,beq_iff_eq];exact List.le_iff_lt_or_eq.symm
theorem Amx (a b:List Int):decide (Aov a b<0) = !RZ b a:=by
 rw[Bool.eq_iff_iff,decide_eq_true_eq,Bool.not_eq_true',←Bool.not_eq_true,BW];unfold Aov;rw[Aks,bytesLess_eq,decide_eq_true_eq];exact List.not_le.symm
theorem IV {a b c:List Int}(h1:RZ a b=true)(h2:RZ b c=true):RZ a c=true:=by
 rw[BW] at *
 exact List.le_trans h1 h2
theorem Abl {a b:List Int}(h:RZ a b=false):RZ b a=true:=by
 rw[BW];rw[←Bool.not_eq_true,BW,List.not_le] at h;exact List.le_of_lt h
def Vv (x:List Int):List (List Int)->List (List Int)
 |[]=>[x]
 |y::r=>if RZ y x=true then y::Vv x r else x::y::r
theorem Tw (x:List Int):∀l:List (List Int),(Vv x l).length=l.length+1
 |[]=>rfl
 |y::r=>by
  unfold Vv;split
  ·rw[SV,Tw x r];rfl
  ·rfl
theorem BS {x y:List Int}:∀{l:List (List Int)},y∈Vv x l↔y=x∨y∈l
 |[]=>by simp[Vv]
 |z::r=>by
  unfold Vv;split
  ·rw[List.mem_cons,BS,List.mem_cons];constructor
   ·rintro (h|h|h)
    ·exact .inr (.inl h)
    ·exact .inl h
    ·exact .inr (.inr h)
   ·rintro (h|h|h)
    ·exact .inr (.inl h)
    ·exact .inl h
    ·exact .inr (.inr h)
  ·simp
abbrev Srt (l:List (List Int)):Prop:=l.Pairwise fun a b=>RZ a b=true
theorem XN {x:List Int}:∀{l:List (List Int)},Srt l->Srt (Vv x l)
 |[],_=>by simp[Vv,Srt]
 |y::r,h=>by
  obtain⟨h1,h2⟩:=List.pairwise_cons.1 h;unfold Vv;split
  ·rename_i hy;refine List.pairwise_cons.2 ⟨fun z hz=>?_,XN h2⟩
   rcases BS.1 hz with rfl|hz
   ·exact hy
   ·exact h1 z hz
  ·rename_i hy;rw[Bool.not_eq_true] at hy;have hxy:=Abl hy;refine List.pairwise_cons.2 ⟨fun z hz=>?_,h⟩
   rcases List.mem_cons.1 hz with rfl|hz
   ·exact hxy
   ·exact IV hxy (h1 z hz)
theorem OP {x y:List Int}:∀{l:List (List Int)},Srt (l++[y])->Vv x (l++[y])=if RZ y x=true then l++[y,x] else Vv x l++[y]
 |[],_=>by
  show Vv x [y]=_;unfold Vv;split<;>rfl
 |z::r,h=>by
  obtain⟨h1,h2⟩:=List.pairwise_cons.1 (show Srt (z::(r++[y])) from h)
  have ih:=OP (x:=x) h2;have hzy:=h1 y (by simp)
  show Vv x (z::(r++[y]))=_;by_cases hy:RZ y x=true
  ·rw[J7 hy] at ih ⊢;rw[Vv,J7 (IV hzy hy),ih];rfl
  ·rw[Ms hy] at ih ⊢;rw[Vv,ih];by_cases hz:RZ z x=true
   ·rw[J7 hz,Vv,J7 hz];rfl
   ·rw[Ms hz,Vv,Ms hz];rfl
def Hk (s l:List (List Int)):List (List Int):=l.foldl (fun s x=>Vv x s) s
theorem Pc:∀(l s:List (List Int)),(Hk s l).length=s.length+l.length
 |[],_=>rfl
 |x::l,s=>by
  show (Hk (Vv x s) l).length=_;rw[Pc l,Tw,SV];omega
theorem QK {y:List Int}:∀{l s:List (List Int)},y∈Hk s l↔y∈s∨y∈l
 |[],_=>by simp[Hk]
 |x::l,s=>by
  show y∈Hk (Vv x s) l↔_;rw[QK,BS,List.mem_cons];constructor
  ·rintro ((h|h)|h)
   ·exact .inr (.inl h)
   ·exact .inl h
   ·exact .inr (.inr h)
  ·rintro (h|h|h)
   ·exact .inl (.inr h)
   ·exact .inl (.inl h)
   ·exact .inr h
abbrev Ao9 (b:List Int):List PV:=[PV.lst false 1 b.length (Am .u8 b)]
abbrev Cp (L:List (List Int)):List PV:=L.flatMap Ao9
abbrev XE (b:List Int):List PV:=[PV.sc (.string (Ed b))]
abbrev Fp (L:List (List Int)):List PV:=L.flatMap XE
theorem Eg (L:List (List Int)):(Cp L).length=L.length:=by rw[Yd (k:=1) (fun _=>rfl)];omega
theorem K0 (L:List (List Int)):(Fp L).length=L.length:=by rw[Yd (k:=1) (fun _=>rfl)];omega
theorem MB {L:List (List Int)} {i:Nat}{b:List Int}(h:L[i]?=some b):(Cp L).getD i .top=.lst false 1 b.length (Am .u8 b):=by
 have:=DK (f:=Ao9) (k:=1) (fun _=>rfl) h (j:=0) (by omega)
 rwa [Ch,Nat.add_zero] at this
theorem VN {L:List (List Int)} {i:Nat}{b:List Int}(h:L[i]?=some b):(Fp L).getD i .top=.sc (.string (Ed b)):=by
 have:=DK (f:=XE) (k:=1) (fun _=>rfl) h (j:=0) (by omega)
 rwa [Ch,Nat.add_zero] at this
theorem RI {L:List (List Int)} {i:Nat}{b y:List Int}(h:L[i]?=some b):Bl (Cp L) [.lst false 1 y.length (Am .u8 y)] i=Cp (L.set i y):=by
 have hl:=Eg L;have:=H4 h;rw[Vw (by omega)]
 have e:=LW (f:=Ao9) (k:=1) (fun _=>rfl) (p:=.lst false 1 y.length (Am .u8 y)) (j:=0) (by omega) (y:=y) h rfl
 rw[Ch,Nat.add_zero] at e;exact e
section
variable {fu d:Nat}
theorem UJ (a b:List Int):Ag C0 prog fu (d+1) 36 [.lst false 1 a.length (Am .u8 a),.lst false 1 b.length (Am .u8 b)]=some ⟨[.sc (.int .i64 (Aov a b))],[]⟩:=by
 have h:Ag C0 prog fu (d+1) 36 [.lst false 1 a.length (Am .u8 a),.lst false 1 b.length (Am .u8 b)]=Sf [.lst false 1 a.length (Am .u8 a),.lst false 1 b.length (Am .u8 b)]:=by kernel_rfl
 rw[h];unfold Sf;simp only[A0,Nat.beq_refl,Bool.and_self,cond_true,El];rfl
theorem Ahy {n:Nat}{c:List PV}{a1 a2:Int}{m0 i N:Nat}{x:List Int}(hN:N<=100000)(hi:i<=100000):
  ∀(S:List (List Int)) (R:List (List Int)) (nn:Nat),S.length<nn->(S.reverse++x::R).length=N->Srt S.reverse ->
   Cd fu (Ag C0 prog fu (d+1)) n c a1 a2 m0 nn N 0 (N:Int) (i:Int) (S.length:Int) (Cp (S.reverse++x::R)) =
    Bi fu (Ag C0 prog fu (d+1)) n c a1 a2 m0 N 0 (N:Int) ((i+1:Nat):Int) (Cp (Vv x S.reverse++R)):=by
 intro S;have wi:wrap .i64 ((i:Int)+1)=((i+1:Nat):Int):=by rw[wrap_i64 (by omega) (by omega)];omega
 induction S with
 |nil=>
  intro R nn Dy hl hs;obtain⟨nn,rfl⟩:∃k,nn=k+1:=⟨nn-1,by omega⟩
  rw[Ec];simp (disch:=omega) only[Ea,Dg,wi,List.reverse_nil,Zzq,Vv,List.cons_append]
 |cons y S ih=>
  intro R nn Dy hl hs;obtain⟨nn,rfl⟩:∃k,nn=k+1:=⟨nn-1,by omega⟩
  rw[Ec];rw[List.reverse_cons] at hl hs ⊢;have hS:S.reverse.length=S.length:=List.length_reverse;have Jq:S.length+1+R.length+1=N:=by simp at hl;omega
  have lS:(y::S).length=S.length+1:=rfl
  have gx:((S.reverse++[y])++x::R)[S.length+1]?=some x:=by
   rw[List.getElem?_append_right (by simp)];simp
  have gy:((S.reverse++[y])++x::R)[S.length]?=some y:=by
   rw[Zzv,List.getElem?_append_right (by simp)];simp
  have ax:=MB gx;have ay:=MB gy;have w1:wrap .i64 (((S.length+1:Nat):Int)-1)=(S.length:Int):=by rw[wrap_i64 (by omega) (by omega)];omega
  have n1:Int.toNat ((S.length+1:Nat):Int)=S.length+1:=Rq _;have n2:Int.toNat (S.length:Int)=S.length:=Rq _;have cq:=UJ (fu:=fu) (d:=d) x y;have cl:=Amx x y;have lR:=Eg ((S.reverse++[y])++x::R);have lRR:((S.reverse++[y])++x::R).length=N:=hl;rw[OP hs];by_cases hy:RZ y x=true
  ·rw[hy] at cl;rw[J7 hy];have eL:S.reverse++[y,x]++R=(S.reverse++[y])++x::R:=by simp
   rw[eL];simp (disch:=omega) only[Ea,lS,w1,n1,n2,Cm,Ch,ax,ay,cq,cl,Rt,wi]
  ·rw[Bool.not_eq_true] at hy;rw[hy] at cl;rw[Ms (by simp[hy])]
   have s1:=RI (y:=y) gx
   have gy2:(((S.reverse++[y])++x::R).set (S.length+1) y)[S.length]?=some y:=by
    rw[List.getElem?_set,Ms (by omega)];exact gy
   have s2:=RI (y:=x) gy2;have l2:=Eg (((S.reverse++[y])++x::R).set (S.length+1) y);rw[List.length_set] at l2
   have eL:(((S.reverse++[y])++x::R).set (S.length+1) y).set S.length x=S.reverse++x::(y::R):=by
    rw[List.set_append_right _ _ (by simp),List.set_append_left _ _ (by simp),List.set_append_right _ _ (by simp)]
    simp
   rw[eL] at s2;have hs':Srt S.reverse:=(List.pairwise_append.1 hs).1;have r:=ih (y::R) nn (by simp at Dy;omega) (by simp;omega) hs'
   simp (disch:=omega) only[Ea,lS,w1,n1,n2,Cm,Ch,ax,ay,cq,cl,O0,s1,s2];rw[r];simp
theorem Ac9 {n:Nat}{c:List PV}{a1 a2:Int}{N:Nat}(B2:N<fu)(hN:N<=10000):∀(R S:List (List Int)) (nn:Nat),R.length<nn->(S++R).length=N->Srt S ->
  Bi fu (Ag C0 prog fu (d+1)) n c a1 a2 nn N 0 (N:Int) (S.length:Int) (Cp (S++R))=some ⟨[],[Cp (Hk S R)]⟩:=by
 intro R
 induction R with
 |nil=>
  intro S nn Dy hl hs;obtain⟨nn,rfl⟩:∃k,nn=k+1:=⟨nn-1,by omega⟩
  rw[List.append_nil] at hl ⊢;rw[Ee];simp (disch:=omega) only[Ea];rfl
 |cons x R ih=>
  intro S nn Dy hl hs;obtain⟨nn,rfl⟩:∃k,nn=k+1:=⟨nn-1,by omega⟩
  have Jq:S.length+(R.length+1)=N:=by simp at hl;omega
  rw[Ee];simp (disch:=omega) only[Ea];have q:=Ahy (fu:=fu) (d:=d) (n:=n) (c:=c) (a1:=a1) (a2:=a2) (m0:=nn) (i:=S.length) (N:=N) (x:=x) (by omega) (by omega) S.reverse R fu (by simp;omega) (by simp;omega) (by simpa using hs)
  rw[List.reverse_reverse,List.length_reverse] at q;rw[q];have r:=ih (Vv x S) nn (by simp at Dy;omega) (by rw[AK,Tw];omega) (XN hs)
  rw[Tw] at r;exact r
theorem UX {x:List Int}{R:List (List Int)} (B2:(x::R).length<fu) (hN:(x::R).length<=10000):
  Ag C0 prog fu (d+2) Da [.tup [.own 1 (x::R).length (Cp (x::R))],.sc (.int .i64 0),.sc (.int .i64 (x::R).length),.sc (.func (.func 36) #[] #[])]=some ⟨[],[Cp (Hk [] (x::R))]⟩:=by
 rw[Ib];have w:wrap .i64 (0+1)=(([x]:List (List Int)).length:Int):=rfl;simp only[Ea,w];exact Ac9 B2 hN R [x] fu (by simp at B2;omega) rfl (by simp[Srt])
theorem Ag5 {a b c e:List Int}(B2:100<=fu):Ag C0 prog fu (d+4) F2 [.tup [.own 1 4 (Cp [a,b,c,e])],.sc (.func (.func 36) #[] #[])]=some ⟨[],[Cp (Hk [] [a,b,c,e])]⟩:=by
 rw[Rl];have w:wrap .u64 4=4:=rfl;have bl:Ag C0 prog fu (d+3) 52 [.sc (.int .u64 4)]=some ⟨[.sc (.int .i64 3)],[]⟩:=by kernel_rfl
 obtain⟨m,rfl⟩:∃m,fu=m+1:=⟨fu-1,by omega⟩
 have q:Ag C0 prog (m+1) (d+2) Da [.tup [.own 1 4 (Cp [a,b,c,e])],.sc (.int .i64 0),.sc (.int .i64 4),.sc (.func (.func 36) #[] #[])]=some ⟨[],[Cp (Hk [] [a,b,c,e])]⟩:=UX (x:=a) (R:=[b,c,e]) (by simp;omega) (by simp)
 have w2:wrap .i64 (4-0)=4:=rfl
 have p:Ag C0 prog (m+1) (d+3) F6 [.tup [.own 1 4 (Cp [a,b,c,e])],.sc (.int .i64 0),.sc (.int .i64 4),.sc (.int .i64 3),.sc (.func (.func 36) #[] #[])]=some ⟨[],[Cp (Hk [] [a,b,c,e])]⟩:=by
  rw[Lr];dsimp only;rw[Js];simp (disch:=omega) only[Ea,w2,q]
 have e4:((4:Nat):Int)=4:=rfl;simp (disch:=omega) only[Ea,w,bl,e4,p]
theorem ZI {n:Nat}{c:List PV}{s:ByteArray}{x:List Int}{L:List (List Int)} (hL:L.length<=1000):∀(r:List (List Int)) (i nn:Nat),L.drop i=r->r.length<nn->i<=L.length ->
  Ej fu (Ag C0 prog fu d) n c s nn L.length (Fp L) (Ed x) (i:Int)=some ⟨[.own 1 (L.length+1) (Fp (L.take i++Vv x r))],[]⟩:=by
 intro r;have lR:=K0 L
 have fin:∀i:Nat,i<=L.length->Fp (L.take i)++[PV.sc (.string (Ed x))]++Fp (L.drop i)=Fp (L.take i++x::L.drop i):=by
  intro i hi;unfold Fp;rw[List.flatMap_append,Zzv];rfl
 have tk:∀i:Nat,List.take i (Fp L)=Fp (L.take i):=fun i=>by
  have:=Qv (f:=XE) (k:=1) (fun _=>rfl) L i
  rwa [Ch] at this
 have dk:∀i:Nat,List.drop i (Fp L)=Fp (L.drop i):=fun i=>by
  have:=Ol (f:=XE) (k:=1) (fun _=>rfl) L i
  rwa [Ch] at this
 have stop:∀(i:Nat),i<=L.length->(An (decide ((0:Int)<=(i:Int)))<|An (decide (Int.toNat (i:Int)<=L.length))<|(some (0:Nat)))=some 0:=by
  intro i hi;simp (disch:=omega) only[Ea]
 induction r with
 |nil=>
  intro i nn hd Dy hi;have FM:i=L.length:=by have:=drop_nil hd;omega
  obtain⟨nn,rfl⟩:∃k,nn=k+1:=⟨nn-1,by omega⟩
  rw[Hw];have f:=fin i hi;rw[hd] at f;have n1:Int.toNat (i:Int)=i:=Rq _;have l1:=K0 (L.take i);have l1':(L.take i).length=i:=by rw[List.length_take];omega
  have t1:List.take i (Fp (L.take i))=Fp (L.take i):=Ha (by omega)
  have l2:(Fp (L.take i)++[PV.sc (.string (Ed x))]).length=i+1:=by rw[AK,l1,l1'];rfl
  have t2:List.take (i+1) (Fp (L.take i)++[PV.sc (.string (Ed x))])=Fp (L.take i)++[PV.sc (.string (Ed x))]:=Ha (by omega)
  have lZ:Fp ([]:List (List Int))=[]:=rfl;rw[lZ,List.append_nil] at f;have l3:=K0 (L.take i++[x]);have l4:(L.take i++[x]).length=i+1:=by simp;omega
  have t3:List.take (i+1) (Fp (L.take i++[x]))=Fp (L.take i++[x]):=Ha (by omega)
  have s0:L.length-i=0:=by omega
  have Bp:¬((i:Int)<(L.length:Int)):=by omega
  have e1:L.length+1=i+1:=by omega
  simp (disch:=omega) only[Ea,n1,Nat.sub_zero,Ch,Cl,tk,dk,t1,l2,t2,s0,List.take_zero,Dg,List.append_nil,Nat.add_zero,f,t3,Vv];rw[e1]
 |cons y r ih=>
  intro i nn hd Dy hi;obtain⟨Bp,Bu,hd'⟩:=C3 hd;obtain⟨nn,rfl⟩:∃k,nn=k+1:=⟨nn-1,by omega⟩
  rw[Hw];have ay:=VN Bu;have n1:Int.toNat (i:Int)=i:=Rq _;have w1:wrap .i64 ((i:Int)+1)=((i+1:Nat):Int):=by rw[wrap_i64 (by omega) (by omega)];omega
  have eB:(Op.bytesLess (Array.toList (ByteArray.data (Ed y))) (Array.toList (ByteArray.data (Ed x)))||Array.toList (ByteArray.data (Ed y))==Array.toList (ByteArray.data (Ed x)))=RZ y x:=rfl;unfold Vv;by_cases hy:RZ y x=true
  ·rw[J7 hy];have q:=ih (i+1) nn hd' (by simp at Dy;omega) (by omega)
   have tk1:L.take (i+1)=L.take i++[y]:=by rw[List.take_add_one,Bu];rfl
   rw[tk1,Zzv,List.singleton_append] at q;rw[hy] at eB;simp (disch:=omega) only[Ea,n1,Ch,ay,eB,w1,q]
  ·rw[Ms hy];rw[Bool.not_eq_true] at hy;rw[hy] at eB;have f:=fin i hi;have l1:=K0 (L.take i);have l1':(L.take i).length=i:=by rw[List.length_take];omega
   have t1:List.take i (Fp (L.take i))=Fp (L.take i):=Ha (by omega)
   have l2:(Fp (L.take i)++[PV.sc (.string (Ed x))]).length=i+1:=by rw[AK,l1,l1'];rfl
   have t2:List.take (i+1) (Fp (L.take i)++[PV.sc (.string (Ed x))])=Fp (L.take i)++[PV.sc (.string (Ed x))]:=Ha (by omega)
   have ld:=K0 (L.drop i);have ld':(L.drop i).length=L.length-i:=List.length_drop;have td:List.take (L.length-i) (Fp (L.drop i))=Fp (L.drop i):=Ha (by omega)
   have l3:=K0 (L.take i++x::L.drop i);have l4:(L.take i++x::L.drop i).length=L.length+1:=by simp;omega
   have e1:i+1+(L.length-i)=L.length+1:=by omega
   have t3:List.take (L.length+1) (Fp (L.take i++x::L.drop i))=Fp (L.take i++x::L.drop i):=Ha (by omega)
   rw[←hd];simp (disch:=omega) only[Ea,n1,Nat.sub_zero,Ch,Cl,ay,eB,tk,dk,t1,l2,t2,td,f,e1,t3]
theorem VZ {x:List Int}{L:List (List Int)} (hL:L.length<=1000)(B2:L.length<fu):Ag C0 prog fu (d+1) Ev [.lst false 1 L.length (Fp L),.sc (.string (Ed x))]=some ⟨[.own 1 (L.length+1) (Fp (Vv x L))],[]⟩:=by
 rw[R1];have:=ZI (fu:=fu) (d:=d) (n:=L.length) (c:=Fp L) (s:=Ed x) (x:=x) (L:=L) hL L 0 fu rfl B2 (by omega)
 rw[List.take_zero,Zzq] at this;exact this
end
end
section
open Go.Proofs.Try (prog)
open Go.IntKind (wrap)
set_option maxRecDepth 100000
def pick:List (List Int)->List Sd->List (List Int)
 |s,[]=>s
 |s,c::r=>if c.sus=false∧s.length<4 then pick (s++[c.id]) r else pick s r
theorem DH:∀{r:List Sd}{s:List (List Int)},s.length<=4->(pick s r).length<=4
 |[],_,h=>h
 |c::r,s,h=>by
  unfold pick;split
  ·exact DH (by simp;omega)
  ·exact DH h
def dec (key:Int):Nat->Nat->List (List Int)
 |_,0=>[]
 |i,k+1=>Na key i 176::dec key (i+1) k
theorem XG (key:Int):∀(k i:Nat),(dec key i k).length=k
 |0,_=>rfl
 |k+1,i=>by show (_::dec key (i+1) k).length=_;rw[SV,XG key k]
def Ad9 (o:Option Nat)(l:List Cw):List (List Int):=match o with|some i=>(match l[i]? with|some a=>pick [] a.cr|none=>[])|none=>[]
def Afx (key:Int)(ids:List (List Int)):List (List Int):=ids++dec key 0 (4-ids.length)
def MN (l:List Cw)(secret:Int)(nm:ByteArray):List (List Int):=Hk [] (Afx (BC secret 20 (I2 nm)) (Ad9 (X9 nm 0 l) l))
theorem Ae3 (o:Option Nat)(l:List Cw):(Ad9 o l).length<=4:=by
 unfold Ad9
 repeat' split
 ·exact DH (by simp)
 all_goals simp
theorem Adr {key:Int}{ids:List (List Int)} (h:ids.length<=4):(Afx key ids).length=4:=by
 unfold Afx;rw[AK,XG];omega
structure Cw.ok (a:Cw):Prop where
 cn:a.cr.length<=1000
 cs:∀c∈a.cr,c.ok
section
variable {fu d:Nat}
theorem Aba {xs:FuncId->Option (List PV->Option A2)} {n:Nat}{c:List PV}{s nm:ByteArray}{l:List Cw}(hl:l.length<=100000):∀(r:List Cw)(i nn:Nat),l.drop i=r->r.length<nn->i<=l.length ->
  Hz fu (Ag (CX xs) prog fu d) n c s nn nm l.length (Az l) (l.length:Int) (i:Int)=some ⟨Gs (X9 nm i r),[]⟩:=by
 intro r
 induction r with
 |nil=>
  intro i nn hd Dy hi;have:=drop_nil hd;obtain⟨nn,rfl⟩:∃k,nn=k+1:=⟨nn-1,by omega⟩
  rw[Nw];simp (disch:=omega) only[Ea];rfl
 |cons a r ih=>
  intro i nn hd Dy hi;obtain⟨Bp,Bu,hd'⟩:=C3 hd;obtain⟨nn,rfl⟩:∃k,nn=k+1:=⟨nn-1,by omega⟩
  rw[Nw];have g0:(Az l).getD (i*3) .top=.sc (.string a.nm):=Fd Bu (j:=0) (by omega)
  have g1:(Az l).getD (i*3+1) .top=.sc (.string a.us):=Fd Bu (j:=1) (by omega)
  have g2:(Az l).getD (i*3+1+1) .top=.lst false 11 a.cr.length (Cg a.cr):=Fd Bu (j:=2) (by omega)
  have n1:Int.toNat (i:Int)=i:=Rq _;have w1:wrap .i64 ((i:Int)+1)=((i+1:Nat):Int):=by rw[wrap_i64 (by omega) (by omega)];omega
  have eB:(Array.toList a.nm.data==Array.toList nm.data)=HH a.nm nm:=rfl;unfold X9;cases h:HH a.nm nm
  ·rw[Ms (by simp)]
   have q:=ih (i+1) nn hd' (by simp at Dy;omega) (by omega)
   rw[h] at eB;simp (disch:=omega) only[Ea,n1,g0,g1,g2,eB,w1,q]
  ·rw[J7 rfl];rw[h] at eB;simp (disch:=omega) only[Ea,n1,g0,g1,g2,eB,Gs]
theorem Ww {xs:FuncId->Option (List PV->Option A2)} {l:List Cw}{nm:ByteArray}(hl:l.length<=100000)(hf:l.length<fu):Ag (CX xs) prog fu (d+1) S7 [.lst false 3 l.length (Az l),.sc (.string nm)]=some ⟨Gs (X9 nm 0 l),[]⟩:=by
 rw[FF];exact Aba hl l 0 fu rfl hf (by omega)
theorem UK {n:Nat}{c:List PV}{s nm:ByteArray}{l:List Cw}(hl:l.length<=100000):∀(r:List Cw)(i nn:Nat),l.drop i=r->r.length<nn->i<=l.length ->
  Df fu (Ag C0 prog fu d) n c s nn l.length (Az l) nm (i:Int)=some ⟨Gs (X9 nm i r),[]⟩:=by
 intro r
 induction r with
 |nil=>
  intro i nn hd Dy hi;have:=drop_nil hd;obtain⟨nn,rfl⟩:∃k,nn=k+1:=⟨nn-1,by omega⟩
  rw[Fw];simp (disch:=omega) only[Ea];rfl
 |cons a r ih=>
  intro i nn hd Dy hi;obtain⟨Bp,Bu,hd'⟩:=C3 hd;obtain⟨nn,rfl⟩:∃k,nn=k+1:=⟨nn-1,by omega⟩
  rw[Fw];have g0:(Az l).getD (i*3+0) .top=.sc (.string a.nm):=Fd Bu (j:=0) (by omega)
  have n1:Int.toNat (i:Int)=i:=Rq _;have w1:wrap .i64 ((i:Int)+1)=((i+1:Nat):Int):=by rw[wrap_i64 (by omega) (by omega)];omega
  have eB:(Array.toList a.nm.data==Array.toList nm.data)=HH a.nm nm:=rfl;unfold X9;cases h:HH a.nm nm
  ·rw[Ms (by simp)]
   have q:=ih (i+1) nn hd' (by simp at Dy;omega) (by omega)
   rw[h] at eB;simp (disch:=omega) only[Ea,n1,g0,eB,w1,q]
  ·rw[J7 rfl];rw[h] at eB;simp (disch:=omega) only[Ea,n1,g0,eB,Gs]
theorem S8 {l:List Cw}{nm:ByteArray}(hl:l.length<=100000)(hf:l.length<fu):Ag C0 prog fu (d+1) Gz [.lst false 3 l.length (Az l),.sc (.string nm)]=some ⟨Gs (X9 nm 0 l),[]⟩:=by
 rw[M5];exact UK hl l 0 fu rfl hf (by omega)
theorem Aqv {L:List (List Int)} (hL:L.length=4)(B2:100<=fu):Ag C0 prog fu (d+4) F2 [.tup [.own 1 4 (Cp L)],.sc (.func (.func 36) #[] #[])]=some ⟨[],[Cp (Hk [] L)]⟩:=by
 match L,hL with
 |[a,b,c,e],_=>exact Ag5 B2
theorem WP (B2:1000<=fu){n:Nat}{c:List PV}{a1:Int}{a2:ByteArray}{key cnt:Int}:∀(k nn i:Nat)(ids:List (List Int)),ids.length+k=4->k<nn->(i:Int)+k=cnt->cnt<=4 ->
  Ep fu (Ag C0 prog fu (d+6)) n c a1 a2 nn ids.length key cnt (i:Int) (Cp ids)=some ⟨[.own 1 4 (Cp (Hk [] (ids++dec key i k)))],[]⟩:=by
 intro k
 induction k with
 |zero=>
  intro nn i ids h1 h2 h3 h4;obtain⟨nn,rfl⟩:∃k,nn=k+1:=⟨nn-1,by omega⟩
  rw[K8];have q:=Aqv (fu:=fu) (d:=d+2) (L:=ids) (by omega) (by omega)
  have h4':ids.length=4:=by omega
  have lR':(Cp (Hk [] ids)).length=4:=by rw[Eg,Pc,h4'];rfl
  have t:List.take 4 (Cp (Hk [] ids))=Cp (Hk [] ids):=Ha (by omega)
  rw[h4'];simp (disch:=omega) only[Ea,q,Ch,t,dec,List.append_nil]
 |succ k ih=>
  intro nn i ids h1 h2 h3 h4;obtain⟨nn,rfl⟩:∃k,nn=k+1:=⟨nn-1,by omega⟩
  rw[K8];have w0:wrap .u64 (i:Int)=(i:Int):=D7 (by omega) (by omega)
  have w1:wrap .i64 ((i:Int)+1)=((i+1:Nat):Int):=by rw[wrap_i64 (by omega) (by omega)];omega
  have q:Ag C0 prog fu (d+6) Ou [.sc (.int .u64 key),.sc (.int .u64 (i:Int)),.sc (.int .i64 176)]=_:=Aki (fu:=fu) (d:=d) B2 key (i:Int) (n:=176) (by omega)
  have lS:(Am .u8 (Na key (i:Int) 176)).length=176:=by rw[A0,Gu]
  have tS:List.take 176 (Am .u8 (Na key (i:Int) 176))=Am .u8 (Na key (i:Int) 176):=Ha (by omega)
  have lI:=Eg ids;have tI:List.take ids.length (Cp ids)=Cp ids:=Ha (by omega)
  have r:=ih nn (i+1) (ids++[Na key (i:Int) 176]) (by simp;omega) (by omega) (by omega) h4
  have lA:(ids++[Na key (i:Int) 176]).length=ids.length+1:=by simp
  have eA:Cp ids++[PV.lst false 1 176 (Am .u8 (Na key (i:Int) 176))]=Cp (ids++[Na key (i:Int) 176]):=by
   unfold Cp;rw[List.flatMap_append];simp[Gu]
  rw[lA,Zzv,List.singleton_append] at r;simp (disch:=omega) only[Ea,w0,w1,q,Ch,Cm,Cl,lS,tS,tI,eA,r];rfl
theorem Ajs (B2:1000<=fu){n:Nat}{c:List PV}{a1:Int}{a2:ByteArray}{secret:Int}{nm:ByteArray}(Hl:nm.size<=500){cr:List Sd}(JU:cr.length<=1000)(Kp:∀c∈cr,c.ok):∀(r:List Sd)(i nn:Nat)(ids:List (List Int)),cr.drop i=r->r.length<nn->i<=cr.length->ids.length<=4 ->
  D0 fu (Ag C0 prog fu (d+6)) n c a1 a2 nn secret nm ids.length cr.length (Cg cr) (cr.length:Int) (i:Int) (Cp ids)=some ⟨[.own 1 4 (Cp (Hk [] (Afx (BC secret 20 (I2 nm)) (pick ids r))))],[]⟩:=by
 intro r;have lN:=Wh nm;have mc:=SP (xs:=Ie) (fu:=fu) (d:=d+1) (l:=I2 nm) (KE nm) (by omega) (by omega) (by omega) secret 20
 rw[lN] at mc;have sc:=Lh nm;have lS:(Am .u8 (I2 nm)).length=nm.size:=by rw[A0,lN]
 have tS:List.take nm.size (Am .u8 (I2 nm))=Am .u8 (I2 nm):=Ha (by omega)
 induction r with
 |nil=>
  intro i nn ids hd Dy hi h4;have:=drop_nil hd;obtain⟨nn,rfl⟩:∃k,nn=k+1:=⟨nn-1,by omega⟩
  rw[K4];have q:=WP (fu:=fu) (d:=d) B2 (n:=n) (c:=c) (a1:=a1) (a2:=a2) (key:=BC secret 20 (I2 nm)) (cnt:=4-(ids.length:Int)) (4-ids.length) fu 0 ids (by omega) (by omega) (by omega) (by omega)
  have w:wrap .i64 (4-(ids.length:Int))=4-(ids.length:Int):=wrap_i64 (by omega) (by omega)
  simp (disch:=omega) only[Ea,sc,lS,Cm,Ch,Cl,tS,mc,w];exact q
 |cons x r ih=>
  intro i nn ids hd Dy hi h4;obtain⟨Bp,Bu,hd'⟩:=C3 hd;obtain⟨nn,rfl⟩:∃k,nn=k+1:=⟨nn-1,by omega⟩
  rw[K4];have g0:(Cg cr).getD (i*11) .top=.lst false 1 x.id.length (Am .u8 x.id):=Cy Bu (j:=0) (by omega)
  have g1:(Cg cr).getD (i*11+1) .top=.sc (.int .i64 x.ht):=Cy Bu (j:=1) (by omega)
  have g2:(Cg cr).getD (i*11+1+1) .top=.sc (.int .u64 x.root):=Cy Bu (j:=2) (by omega)
  have g3:(Cg cr).getD (i*11+1+1+1) .top=.sc (.int .u64 x.model):=Cy Bu (j:=3) (by omega)
  have g4:(Cg cr).getD (i*11+1+1+1+1) .top=.sc (.int .i64 x.fmt):=Cy Bu (j:=4) (by omega)
  have g5:(Cg cr).getD (i*11+1+1+1+1+1) .top=.sc (.bool x.sh):=Cy Bu (j:=5) (by omega)
  have g6:(Cg cr).getD (i*11+1+1+1+1+1+1) .top=.sc (.int .u64 x.used):=Cy Bu (j:=6) (by omega)
  have g7:(Cg cr).getD (i*11+1+1+1+1+1+1+1) .top=.lst false 2 x.rg.length (H5 x.rg):=Cy Bu (j:=7) (by omega)
  have g8:(Cg cr).getD (i*11+1+1+1+1+1+1+1+1) .top=.sc (.bool x.sus):=Cy Bu (j:=8) (by omega)
  have g9:(Cg cr).getD (i*11+1+1+1+1+1+1+1+1+1) .top=.sc (.int .i64 x.since):=Cy Bu (j:=9) (by omega)
  have g10:(Cg cr).getD (i*11+1+1+1+1+1+1+1+1+1+1) .top=.sc (.int .i64 x.last):=Cy Bu (j:=10) (by omega)
  have n1:Int.toNat (i:Int)=i:=Rq _;have w1:wrap .i64 ((i:Int)+1)=((i+1:Nat):Int):=by rw[wrap_i64 (by omega) (by omega)];omega
  have xk:=Kp x (List.mem_of_getElem? Bu);have cb:=JD (xs:=Ie) (fu:=fu) (d:=d+5) (A0 .u8 x.id) xk.idL;have lX:=A0 .u8 x.id;have tX:=tki .u8 x.id;have lI:=Eg ids;have tI:List.take ids.length (Cp ids)=Cp ids:=Ha (by omega)
  unfold pick;by_cases hs:x.sus=false
  ·have bT:∀a b:Option A2,Bd (!x.sus) a b=a:=fun a b=>by rw[hs];rfl
   by_cases hl:ids.length<4
   ·rw[J7 ⟨hs,hl⟩];have r:=ih (i+1) nn (ids++[x.id]) hd' (by simp at Dy;omega) (by omega) (by simp;omega)
    have lA:(ids++[x.id]).length=ids.length+1:=by simp
    have eA:Cp ids++[PV.lst false 1 x.id.length (Am .u8 x.id)]=Cp (ids++[x.id]):=by
     unfold Cp;rw[List.flatMap_append];rfl
    rw[lA] at r;simp (disch:=omega) only[Ea,n1,g0,g1,g2,g3,g4,g5,g6,g7,g8,g9,g10,bT,cb,Cm,Ch,Cl,lX,tX,tI,eA,w1,r]
   ·rw[Ms fun h=>hl h.2]
    have r:=ih (i+1) nn ids hd' (by simp at Dy;omega) (by omega) h4
    simp (disch:=omega) only[Ea,n1,g0,g1,g2,g3,g4,g5,g6,g7,g8,g9,g10,bT,w1,r]
  ·rw[Ms fun h=>hs h.1]
   have bF:∀a b:Option A2,Bd (!x.sus) a b=b:=fun a b=>by rw[Bool.not_eq_false] at hs;rw[hs];rfl
   have r:=ih (i+1) nn ids hd' (by simp at Dy;omega) (by omega) h4
   simp (disch:=omega) only[Ea,n1,g0,g1,g2,g3,g4,g5,g6,g7,g8,g9,g10,bF,w1,r]
theorem EF (B2:2000<=fu){l:List Cw}(hl:l.length<=1000)(Kp:∀a∈l,a.ok)(secret:Int){nm:ByteArray}(Hl:nm.size<=500):
  Ag C0 prog fu (d+7) N8 [.lst false 3 l.length (Az l),.sc (.int .u64 secret),.sc (.string nm)]=some ⟨[.own 1 4 (Cp (MN l secret nm))],[]⟩:=by
 rw[Xs];have f:=Ww (xs:=Ie) (fu:=fu) (d:=d+5) (l:=l) (nm:=nm) (by omega) (by omega)
 unfold MN;cases h:X9 nm 0 l with
 |none=>
  rw[h] at f;have lN:=Wh nm;have mc:=SP (xs:=Ie) (fu:=fu) (d:=d+1) (l:=I2 nm) (KE nm) (by omega) (by omega) (by omega) secret 20
  rw[lN] at mc;have sc:=Lh nm;have lS:(Am .u8 (I2 nm)).length=nm.size:=by rw[A0,lN]
  have tS:List.take nm.size (Am .u8 (I2 nm))=Am .u8 (I2 nm):=Ha (by omega)
  have q:=WP (fu:=fu) (d:=d) (by omega) (n:=l.length) (c:=Az l) (a1:=secret) (a2:=nm) (key:=BC secret 20 (I2 nm)) (cnt:=4) 4 fu 0 [] rfl (by omega) (by omega) (by omega)
  simp only[Gs] at f;simp (disch:=omega) only[Ea,f,sc,lS,Cm,Ch,Cl,tS,mc];exact q
 |some i=>
  rw[h] at f;obtain⟨_,h2,a,h3,_⟩:=Qy h;rw[Nat.sub_zero] at h3;have g2:(Az l).getD (i*3+2) .top=.lst false 11 a.cr.length (Cg a.cr):=Fd h3 (j:=2) (by omega)
  have n1:Int.toNat (i:Int)=i:=Rq _;have ak:=Kp a (List.mem_of_getElem? h3);have q:=Ajs (fu:=fu) (d:=d) (by omega) (n:=l.length) (c:=Az l) (a1:=secret) (a2:=nm) (secret:=secret) Hl ak.cn ak.cs a.cr 0 fu [] rfl (by have:=ak.cn;omega) (by omega) (by simp)
  simp only[Gs] at f;simp (disch:=omega) only[Ea,f,n1,g2];refine q.trans ?_;simp only[Ad9,h3]
end
end
section
open Go.Proofs.Try (prog)
open Go.IntKind (wrap)
set_option maxRecDepth 100000
section
variable {fu d:Nat}
theorem Acd {l:List Cw}{nm us:ByteArray}{x:Sd}(hl:l.length<=1000)(hs:∀a∈l,a.sm)(hx:x.sm):
  Ag C0 prog fu (d+1) 11 [.lst false 3 l.length (Az l),.sc (.string nm),.sc (.string us),.agg x.cells]=some (O9 (AL l nm us x)):=by
 have h:Ag C0 prog fu (d+1) 11 [.lst false 3 l.length (Az l),.sc (.string nm),.sc (.string us),.agg x.cells]=Ag6 [.lst false 3 l.length (Az l),.sc (.string nm),.sc (.string us),.agg x.cells]:=by kernel_rfl
 have e1:Lw x.cells=some [x]:=by
  have:=Tr (l:=[x]) (fun c hc=>by rw[List.mem_singleton] at hc;subst hc;exact hx)
  rwa [show Cg [x]=x.cells by simp[Cg]] at this
 have e:(Nat.beq l.length l.length&&Nat.ble l.length 1000)=true:=by rw[Nat.beq_refl,Nat.ble_eq_true_of_le hl];rfl
 rw[h];unfold Ag6;simp only[Ql hs,e1,e,cond_true]
theorem Aq3 {l:List Cw}{nm:ByteArray}{x:Sd}(hl:l.length<=1000)(hs:∀a∈l,a.sm)(hx:x.sm):
  Ag C0 prog fu (d+1) 18 [.lst false 3 l.length (Az l),.sc (.string nm),.agg x.cells]=some (O9 (FZ l nm x)):=by
 have h:Ag C0 prog fu (d+1) 18 [.lst false 3 l.length (Az l),.sc (.string nm),.agg x.cells]=Acw [.lst false 3 l.length (Az l),.sc (.string nm),.agg x.cells]:=by kernel_rfl
 have e1:Lw x.cells=some [x]:=by
  have:=Tr (l:=[x]) (fun c hc=>by rw[List.mem_singleton] at hc;subst hc;exact hx)
  rwa [show Cg [x]=x.cells by simp[Cg]] at this
 have e:(Nat.beq l.length l.length&&Nat.ble l.length 1000)=true:=by rw[Nat.beq_refl,Nat.ble_eq_true_of_le hl];rfl
 rw[h];unfold Acw;simp only[Ql hs,e1,e,cond_true]
theorem Aqm {l:List Cw}{nm:ByteArray}{id:List Int}(hl:l.length<=1000)(hs:∀a∈l,a.sm)(Bb:id.length<=1000000):
  Ag C0 prog fu (d+1) 16 [.lst false 3 l.length (Az l),.sc (.string nm),.lst false 1 id.length (Am .u8 id)]=some (O9 (FS l nm id)):=by
 have h:Ag C0 prog fu (d+1) 16 [.lst false 3 l.length (Az l),.sc (.string nm),.lst false 1 id.length (Am .u8 id)]=Acu [.lst false 3 l.length (Az l),.sc (.string nm),.lst false 1 id.length (Am .u8 id)]:=by kernel_rfl
 have e:(Nat.beq l.length l.length&&Nat.ble l.length 1000&&Nat.beq id.length id.length&&Nat.ble id.length 1000000)=true:=by rw[Nat.beq_refl,Nat.beq_refl,Nat.ble_eq_true_of_le hl,Nat.ble_eq_true_of_le Bb];rfl
 rw[h];unfold Acu;simp only[Ql hs,LF,e,cond_true]
end
end
section
open Go.Proofs.Try (prog)
open Go.IntKind (wrap)
set_option maxRecDepth 100000
def S9:ByteArray:=ByteArray.mk #[(97:UInt8),(108:UInt8),(105:UInt8),(99:UInt8),(101:UInt8)]
def An5:ByteArray:=ByteArray.mk #[(98:UInt8),(111:UInt8),(98:UInt8)]
def uuN:ByteArray:=ByteArray.mk #[(117:UInt8)]
section
variable {fu d:Nat}
theorem TQ (B2:2000<=fu){nm us:ByteArray}{c:Sd}(h1:1<=nm.size)(h2:nm.size<=32)(Bb:c.id.length=176)(hr:c.rg.length<=1000):
  Ag C0 prog fu (d+3) 11 [.lst false 3 0 [],.sc (.string nm),.sc (.string us),.agg c.cells]=some ⟨[.lst false 3 1 (Az [⟨nm,us,[c]⟩]),.sc (.int .i64 0)],[]⟩:=by
 have h:=Acd (fu:=fu) (d:=d+2) (l:=[]) (nm:=nm) (us:=us) (x:=c) (by simp) (fun a ha=>by cases ha) ⟨by omega,hr⟩
 have e:AL [] nm us c=([⟨nm,us,[c]⟩],0):=by
  unfold AL;rw[Ms (by omega),Ms (by simp[Bb])]
  rfl
 rw[e] at h;exact h
end
def aw1:Sd:={ ZX 1 2 with used:=2,rg:=[(0,1)],last:=7 }
def RU:Sd:={ ZX 1 2 with used:=10,rg:=[(0,1),(2,3)],last:=8 }
def aw4:Sd:={ RU with sus:=true }
theorem Atv:AX (ZX 1 2) 1 0 7=(aw1,0):=rfl
theorem A1e:AX aw1 3 2 8=(RU,0):=rfl
theorem Aw9:AX RU 0 0 9=(RU,37):=rfl
theorem A65:AX RU 3 2 9=(aw4,37):=rfl
theorem Aod:aw1.ok:=⟨(S2 1 2).idB,(S2 1 2).idL,by decide,by decide,by simp[aw1,Asc],by decide⟩
theorem UI:RU.ok:=⟨(S2 1 2).idB,(S2 1 2).idL,by decide,by decide,by simp[RU,Asc],by decide⟩
section
variable {fu d:Nat}
theorem Xx (B2:2000<=fu):Ag C0 prog fu (d+8) K6 []=some ⟨[.sc (.bool true)],[]⟩:=by
 refine (Sh fu (d+7)).trans ?_;have s:=To (fu:=fu) (d:=d) (by omega) (k:=1) (by omega) (by omega) 2
 have q1:=Tl (fu:=fu) (d:=d+3) (S2 1 2) B2 1 0 7;have q2:=Tl (fu:=fu) (d:=d+3) Aod B2 3 2 8;have q3:=Tl (fu:=fu) (d:=d+3) UI B2 0 0 9;have q4:=Tl (fu:=fu) (d:=d+3) UI B2 3 2 9;rw[Atv] at q1;rw[A1e] at q2;rw[Aw9] at q3;rw[A65] at q4;have i1:RU.id.length=176:=by show (Dj _ 176).length=176;rw[Dj,Gu]
 have q5:=TQ (fu:=fu) (d:=d+4) B2 (nm:=S9) (us:=uuN) (c:=RU) (by decide) (by decide) i1 (by decide)
 have q6:=Ww (xs:=Ie) (fu:=fu) (d:=d+6) (l:=[⟨S9,uuN,[RU]⟩]) (nm:=S9) (by simp) (by simp;omega)
 have e6:X9 S9 0 [⟨S9,uuN,[RU]⟩]=some 0:=rfl;rw[e6] at q6
 have q7:=EF (fu:=fu) (d:=d) B2 (l:=[⟨S9,uuN,[RU]⟩]) (by simp) (by
  intro a ha;rw[List.mem_singleton] at ha;subst ha
  exact⟨by simp,by
   intro c hc;rw[List.mem_singleton] at hc;subst hc;exact UI⟩) 1 (nm:=An5) (by decide)
 have lL:([⟨S9,uuN,[RU]⟩]:List Cw).length=1:=rfl;rw[lL] at q6 q7;simp only[Gs] at q6;generalize Az [⟨S9,uuN,[RU]⟩]=A at q5 q6 q7;generalize Cp (MN [⟨S9,uuN,[RU]⟩] 1 An5)=R at q7;simp only[Sd.cells,ZX,aw1,RU,aw4] at s q1 q2 q3 q4 q5;simp only[S9,uuN] at q5;simp only[S9] at q6;simp only[An5] at q7;generalize Dj (600+1) 176=id at *
 have e1:((0:Int)==0)=true:=rfl;have e2:((37:Int)==37)=true:=rfl;have e3:((10:Int)==10)=true:=rfl;have e4:((([(0,1),(2,3)]:List (Int × Int)).length:Int)==2)=true:=rfl;have e5:(((4:Nat):Int)==4)=true:=rfl;have e0:((0:Nat):Int)=0:=rfl;rw[e0] at q6;show Gf fu (Ag C0 prog fu (d+7)) fu=_;rw[Pn (Dy:=by omega)]
 simp only[Ea,s,q1];rw[Pm (Dy:=by omega)]
 simp only[Ea,q2];rw[Pr (Dy:=by omega)]
 simp only[Ea,q3];rw[O4 (Dy:=by omega)]
 simp only[Ea,q4];rw[P0 (Dy:=by omega)]
 simp only[Ea,q5];rw[Pa (Dy:=by omega)]
 simp only[Ea,q6];rw[Py (Dy:=by omega)]
 simp only[Ea,e1,e2,e3,e4,e5,O0,q7]
end
end
section
open Go.Proofs.Try (prog)
open Go.IntKind (wrap)
set_option maxRecDepth 100000
abbrev Iu:FuncId:=7
theorem Pi (fu d Fc:Nat)(Di:List PV)(Dc:Int):Ag C0 prog fu (d+1) Iu [.pbox [.lst false 1 Fc Di,.sc (.int .i64 Dc)]]=(fun (call:Ai)=>some (A2.mk [.sc (.bool (decide (Dc<(↑Fc:Int))))] [[.lst false 1 Fc Di,.sc (.int .i64 Dc)]])) (Ag C0 prog fu d):=by kernel_rfl
end
section
open Go.Proofs.Try (prog)
open Go.IntKind (wrap)
set_option maxRecDepth 100000
section
variable {fu d:Nat}
theorem QJ {n m:Nat}{a b:List PV}{call:Ai}{l:List (Int × Int)} (hl:l.length<=100000):∀(r:List (Int × Int)) (i nn:Nat),l.drop i=r->r.length<nn->i<=l.length ->
  Dm fu call n a m b nn l.length (H5 l) l.length (H5 l) (i:Int)=some ⟨[.sc (.bool true)],[]⟩:=by
 intro r
 induction r with
 |nil=>
  intro i nn hd Dy hi;have:=drop_nil hd;obtain⟨nn,rfl⟩:∃k,nn=k+1:=⟨nn-1,by omega⟩
  rw[F7];simp (disch:=omega) only[Ea]
 |cons p r ih=>
  intro i nn hd Dy hi;obtain⟨Bp,Bu,hd'⟩:=C3 hd;obtain⟨nn,rfl⟩:∃k,nn=k+1:=⟨nn-1,by omega⟩
  rw[F7];have eF:=Asx Bu;have eL:=Aub Bu;have n1:Int.toNat (i:Int)=i:=Rq _;have w1:wrap .i64 ((i:Int)+1)=((i+1:Nat):Int):=by rw[wrap_i64 (by omega) (by omega)];omega
  have q:=ih (i+1) nn hd' (by simp at Dy;omega) (by omega)
  have b1:(!(p.1==p.1&&p.2==p.2))=false:=by simp
  simp (disch:=omega) only[Ea,n1,eF,eL,Bool.and_true,b1,w1,q]
theorem ZH {l:List (Int × Int)} (hl:l.length<=100000)(B2:l.length<fu):Ag C0 prog fu (d+1) Hj [.lst false 2 l.length (H5 l),.lst false 2 l.length (H5 l)]=some ⟨[.sc (.bool true)],[]⟩:=by
 rw[Nv];have b1:((l.length:Int) != (l.length:Int))=false:=by simp
 simp (disch:=omega) only[Ea,b1];exact QJ hl l 0 fu rfl B2 (by omega)
theorem YL {c:Sd}(hk:c.ok)(B2:2000<=fu):Ag C0 prog fu (d+2) Hd [.agg c.cells,.agg c.cells]=some ⟨[.sc (.bool true)],[]⟩:=by
 refine (Nm fu (d+1) c.id.length (Am .u8 c.id) c.ht c.root c.model c.fmt c.sh c.used c.rg.length (H5 c.rg) c.sus c.since c.last c.id.length (Am .u8 c.id) c.ht c.root c.model c.fmt c.sh c.used c.rg.length (H5 c.rg) c.sus c.since c.last).trans ?_;have l1:=A0 .u8 c.id;have q:=ZH (fu:=fu) (d:=d) (l:=c.rg) (by have:=hk.rgn;omega) (by have:=hk.rgn;omega)
 have bb:=El c.id;have b0:∀l:List UInt8,(l==l)=true:=fun l=>by simp
 have b1:∀x:Int,(x==x)=true:=fun x=>by simp
 have b2:∀x:Bool,(x==x)=true:=fun x=>by cases x<;>rfl
 try unfold Ab
 repeat first
  |((with_reducible first|apply A8|apply Aw|apply A5|apply Ay|apply D1|apply Ax|apply A9|apply A7);· first|with_reducible rfl|(simp (disch:=omega) only[gT,l1,bb,b0,b1,b2,q,Bool.and_true]<;>first|with_reducible rfl|omega)|omega)
  |(with_reducible apply A6;· first|with_reducible rfl|(simp (disch:=omega) only[gF,l1,bb,b0,b1,b2,q,Bool.and_true]<;>omega))
 try simp (disch:=omega) only[l1,bb,b0,b1,b2,q,Bool.and_true]
end
end
section
open Go.Proofs.Try (prog)
open Go.IntKind (wrap)
set_option maxRecDepth 100000
section
variable {fu d:Nat}
theorem OI (s:List (List Int)):∀(l m:List (List Int)),Hk s (l++m)=Hk (Hk s l) m
 |l,m=>by
  induction l generalizing s with
  |nil=>rfl
  |cons x l ih=>exact ih (Vv x s)
theorem Aij {n:Nat}{c:List PV}{a1:Int}{a2:ByteArray}{call:Ai}{L:List (List Int)} (hL:L.length<=1000)(hB:∀x∈L,T0 x∧x.length<=1000000):∀(r:List (List Int)) (i nn:Nat),L.drop i=r->r.length<nn->i<=L.length ->
  Eb fu call n c a1 a2 nn L.length i (i:Int) (Fp L) (Cp (L.take i))=some ⟨[.own 1 L.length (Cp L)],[]⟩:=by
 intro r
 induction r with
 |nil=>
  intro i nn hd Dy hi;have FM:i=L.length:=by have:=drop_nil hd;omega
  obtain⟨nn,rfl⟩:∃k,nn=k+1:=⟨nn-1,by omega⟩
  rw[Hf];have e:L.take i=L:=Ha (by omega)
  have l1:=Eg L;have t:List.take i (Cp L)=Cp L:=Ha (by omega)
  rw[e]
  try unfold Ab
  repeat first
   |((with_reducible first|apply A8|apply Aw|apply A5|apply Ay|apply Bh|apply B5|apply B7|apply D1|apply Ax|apply A9|apply A7);· first|with_reducible rfl|(simp (disch:=omega) only[gT,Ch,l1,t]<;>first|with_reducible rfl|omega)|omega)
   |(with_reducible apply A6;· first|with_reducible rfl|(simp (disch:=omega) only[gF,Ch,l1,t]<;>omega))
  try simp (disch:=omega) only[Ch,l1,t]
  rw[FM]
 |cons x r ih=>
  intro i nn hd Dy hi;obtain⟨Bp,Bu,hd'⟩:=C3 hd;obtain⟨nn,rfl⟩:∃k,nn=k+1:=⟨nn-1,by omega⟩
  rw[Hf];have n1:Int.toNat (i:Int)=i:=Rq _;have w1:wrap .i64 ((i:Int)+1)=((i+1:Nat):Int):=by rw[wrap_i64 (by omega) (by omega)];omega
  have ax:=VN Bu;obtain⟨xB,xL⟩:=hB x (List.mem_of_getElem? Bu);have z1:=LG x;have sc:=Lh (Ed x);rw[JN xB] at sc;have lX:=A0 .u8 x;have tX:=tki .u8 x;have lT:=Eg (L.take i);have lT2:(L.take i).length=i:=by rw[List.length_take];omega
  have tT:List.take i (Cp (L.take i))=Cp (L.take i):=Ha (by omega)
  have tk:L.take (i+1)=L.take i++[x]:=by rw[List.take_add_one,Bu];rfl
  have eA:Cp (L.take i)++[PV.lst false 1 x.length (Am .u8 x)]=Cp (L.take (i+1)):=by
   rw[tk];unfold Cp;rw[List.flatMap_append];rfl
  have q:=ih (i+1) nn hd' (by simp at Dy;omega) (by omega)
  have c1:(decide (i<=i)&&true&&decide ((i+1)*24<=1099511627776)&&decide (i+1<=1099511627776))=true:=by simp;omega
  try unfold Ab
  repeat first
   |((with_reducible first|apply A8|apply Aw|apply A5|apply Ay|apply Bh|apply B5|apply B7|apply D1|apply Ax|apply A9|apply A7);· first|with_reducible rfl|(simp (disch:=omega) only[gT,n1,Ch,Cm,ax,z1,sc,lX,lT,lT2,c1,Cl,tX,tT,eA,w1,q]<;>first|with_reducible rfl|omega)|omega)
   |(with_reducible apply A6;· first|with_reducible rfl|(simp (disch:=omega) only[gF,n1,Ch,Cm,ax,z1,sc,lX,lT,lT2,c1,Cl,tX,tT,eA,w1,q]<;>omega))
  try simp (disch:=omega) only[n1,Ch,Cm,ax,z1,sc,lX,lT,lT2,c1,Cl,tX,tT,eA,w1,q]
theorem VU (B2:1000<=fu){n:Nat}{c:List PV}{a1:Int}{a2:ByteArray}{key:Int}:∀(k nn i:Nat)(L:List (List Int)),L.length+k=4->k<nn->(∀x∈L,T0 x∧x.length<=1000000)->i+k<=4 ->
  De fu (Ag C0 prog fu (d+5)) n c a1 a2 nn L.length key (i:Int) (Fp L)=some ⟨[.own 1 4 (Cp (Hk L (dec key i k)))],[]⟩:=by
 intro k
 induction k with
 |zero=>
  intro nn i L h1 h2 h3 h4;obtain⟨nn,rfl⟩:∃k,nn=k+1:=⟨nn-1,by omega⟩
  rw[Hc];have q:=Aij (fu:=fu) (n:=n) (c:=c) (a1:=a1) (a2:=a2) (call:=Ag C0 prog fu (d+5)) (L:=L) (by omega) h3 L 0 fu rfl (by omega) (by omega)
  have e4:L.length=4:=by omega
  rw[e4] at q ⊢
  try unfold Ab
  repeat first
   |((with_reducible first|apply A8|apply Aw|apply A5|apply Ay|apply Bh|apply B5|apply B7|apply D1|apply Ax|apply A9|apply A7);· first|with_reducible rfl|(simp (disch:=omega) only[gT,e4]<;>first|with_reducible rfl|omega)|omega)
   |(with_reducible apply A6;· first|with_reducible rfl|(simp (disch:=omega) only[gF,e4]<;>omega))
  try simp (disch:=omega) only[e4]
  exact q
 |succ k ih=>
  intro nn i L h1 h2 h3 h4;obtain⟨nn,rfl⟩:∃k,nn=k+1:=⟨nn-1,by omega⟩
  rw[Hc];have st:Ag C0 prog fu (d+5) Gv [.sc (.int .u64 key),.sc (.int .u64 (i:Int)),.sc (.int .i64 176)]=_:=OG (fu:=fu) (d:=d) B2 key (i:Int) (n:=176) (by omega)
  have lS:(Am .u8 (Na key (i:Int) 176)).length=176:=by rw[A0,Gu]
  have tS:List.take 176 (Am .u8 (Na key (i:Int) 176))=Am .u8 (Na key (i:Int) 176):=Ha (by omega)
  have bb:=El (Na key (i:Int) 176);have lR:=K0 L;have tR:List.take L.length (Fp L)=Fp L:=Ha (by omega)
  have is:Ag C0 prog fu (d+5) Ev [.lst false 1 L.length (Fp L),.sc (.string (ByteArray.mk (List.toArray (List.map (fun n:Int=>n.toNat.toUInt8) (Na key (i:Int) 176)))))]=_:=VZ (fu:=fu) (d:=d+4) (x:=Na key (i:Int) 176) (L:=L) (by omega) (by omega)
  have w1:wrap .u64 ((i:Int)+1)=((i+1:Nat):Int):=by rw[D7 (by omega) (by omega)];omega
  have q:=ih nn (i+1) (Vv (Na key (i:Int) 176) L) (by rw[Tw];omega) (by omega) (fun x hx=>by
   rcases BS.1 hx with rfl|hx
   ·exact⟨UO _ _ _,by rw[Gu];omega⟩
   ·exact h3 x hx) (by omega)
  rw[Tw] at q
  try unfold Ab
  repeat first
   |((with_reducible first|apply A8|apply Aw|apply A5|apply Ay|apply Bh|apply B5|apply B7|apply D1|apply Ax|apply A9|apply A7);· first|with_reducible rfl|(simp (disch:=omega) only[gT,st,lS,Cm,Ch,Cl,tS,bb,lR,tR,is,w1,q]<;>first|with_reducible rfl|omega)|omega)
   |(with_reducible apply A6;· first|with_reducible rfl|(simp (disch:=omega) only[gF,st,lS,Cm,Ch,Cl,tS,bb,lR,tR,is,w1,q]<;>omega))
  try simp (disch:=omega) only[st,lS,Cm,Ch,Cl,tS,bb,lR,tR,is,w1,q]
  all_goals rfl
theorem Ajj (B2:1000<=fu){n:Nat}{c:List PV}{a1:Int}{a2:ByteArray}{secret:Int}{nm:ByteArray}(Hl:nm.size<=500){l:List Cw}{ix:Nat}{a:Cw}(ha:l[ix]?=some a) (JU:a.cr.length<=1000)(Kp:∀c∈a.cr,c.ok):∀(r:List Sd)(i nn:Nat)(ids:List (List Int)),a.cr.drop i=r->r.length<nn->i<=a.cr.length->ids.length<=4->(∀x∈ids,T0 x∧x.length<=1000000) ->
  Cq fu (Ag C0 prog fu (d+5)) n c a1 a2 nn l.length (Az l) secret nm ids.length (ix:Int) (i:Int) (Fp (Hk [] ids))=some ⟨[.own 1 4 (Cp (Hk [] (Afx (BC secret 20 (I2 nm)) (pick ids r))))],[]⟩:=by
 intro r;have lN:=Wh nm;have mc:=KA (xs:=Ie) (fu:=fu) (d:=d+1) (l:=I2 nm) (KE nm) (by omega) (by omega) (by omega) secret 20
 rw[lN] at mc;have sc:=Lh nm;have lS:(Am .u8 (I2 nm)).length=nm.size:=by rw[A0,lN]
 have tS:List.take nm.size (Am .u8 (I2 nm))=Am .u8 (I2 nm):=Ha (by omega)
 have hix:=H4 ha;have g2:(Az l).getD (ix*3+2) .top=.lst false 11 a.cr.length (Cg a.cr):=Fd ha (j:=2) (by omega)
 have n2:Int.toNat (ix:Int)=ix:=Rq _
 induction r with
 |nil=>
  intro i nn ids hd Dy hi h4 hB;have:=drop_nil hd;obtain⟨nn,rfl⟩:∃k,nn=k+1:=⟨nn-1,by omega⟩
  rw[Hg];have q:=VU (fu:=fu) (d:=d) B2 (n:=n) (c:=c) (a1:=a1) (a2:=a2) (key:=BC secret 20 (I2 nm)) (4-ids.length) fu 0 (Hk [] ids) (by rw[Pc];simp;omega) (by omega) (fun x hx=>hB x (by have:=QK.1 hx;simpa using this)) (by omega)
  have e0:((0:Nat):Int)=0:=rfl;rw[Pc,Dg,Cm,←OI,e0] at q
  try unfold Ab
  repeat first
   |((with_reducible first|apply A8|apply Aw|apply A5|apply Ay|apply Bh|apply B5|apply B7|apply D1|apply Ax|apply A9|apply A7);· first|with_reducible rfl|(simp (disch:=omega) only[gT,n2,g2,sc,lS,Cm,Ch,Cl,tS,mc]<;>first|with_reducible rfl|omega)|omega)
   |(with_reducible apply A6;· first|with_reducible rfl|(simp (disch:=omega) only[gF,n2,g2,sc,lS,Cm,Ch,Cl,tS,mc]<;>omega))
  try simp (disch:=omega) only[n2,g2,sc,lS,Cm,Ch,Cl,tS,mc]
  exact q
 |cons x r ih=>
  intro i nn ids hd Dy hi h4 hB;obtain⟨Bp,Bu,hd'⟩:=C3 hd;obtain⟨nn,rfl⟩:∃k,nn=k+1:=⟨nn-1,by omega⟩
  rw[Hg];have g0:(Cg a.cr).getD (i*11) .top=.lst false 1 x.id.length (Am .u8 x.id):=Cy Bu (j:=0) (by omega)
  have g1:(Cg a.cr).getD (i*11+1) .top=.sc (.int .i64 x.ht):=Cy Bu (j:=1) (by omega)
  have g2':(Cg a.cr).getD (i*11+1+1) .top=.sc (.int .u64 x.root):=Cy Bu (j:=2) (by omega)
  have g3:(Cg a.cr).getD (i*11+1+1+1) .top=.sc (.int .u64 x.model):=Cy Bu (j:=3) (by omega)
  have g4:(Cg a.cr).getD (i*11+1+1+1+1) .top=.sc (.int .i64 x.fmt):=Cy Bu (j:=4) (by omega)
  have g5:(Cg a.cr).getD (i*11+1+1+1+1+1) .top=.sc (.bool x.sh):=Cy Bu (j:=5) (by omega)
  have g6:(Cg a.cr).getD (i*11+1+1+1+1+1+1) .top=.sc (.int .u64 x.used):=Cy Bu (j:=6) (by omega)
  have g7:(Cg a.cr).getD (i*11+1+1+1+1+1+1+1) .top=.lst false 2 x.rg.length (H5 x.rg):=Cy Bu (j:=7) (by omega)
  have g8:(Cg a.cr).getD (i*11+1+1+1+1+1+1+1+1) .top=.sc (.bool x.sus):=Cy Bu (j:=8) (by omega)
  have g9:(Cg a.cr).getD (i*11+1+1+1+1+1+1+1+1+1) .top=.sc (.int .i64 x.since):=Cy Bu (j:=9) (by omega)
  have g10:(Cg a.cr).getD (i*11+1+1+1+1+1+1+1+1+1+1) .top=.sc (.int .i64 x.last):=Cy Bu (j:=10) (by omega)
  have n1:Int.toNat (i:Int)=i:=Rq _;have w1:wrap .i64 ((i:Int)+1)=((i+1:Nat):Int):=by rw[wrap_i64 (by omega) (by omega)];omega
  have xk:=Kp x (List.mem_of_getElem? Bu);have lX:=A0 .u8 x.id;have bb:=El x.id;have lI:(Hk [] ids).length=ids.length:=by rw[Pc];simp
  have lR:=K0 (Hk [] ids);have tR:List.take ids.length (Fp (Hk [] ids))=Fp (Hk [] ids):=Ha (by omega)
  have is:Ag C0 prog fu (d+5) Ev [.lst false 1 (Hk [] ids).length (Fp (Hk [] ids)),.sc (.string (ByteArray.mk (List.toArray (List.map (fun n:Int=>n.toNat.toUInt8) x.id))))]=_:=VZ (fu:=fu) (d:=d+4) (x:=x.id) (L:=Hk [] ids) (by omega) (by omega)
  rw[lI] at is;unfold pick;by_cases hs:x.sus=false
  ·by_cases hl:ids.length<4
   ·rw[J7 ⟨hs,hl⟩]
    have q:=ih (i+1) nn (ids++[x.id]) hd' (by simp at Dy;omega) (by omega) (by simp;omega) (fun y hy=>by
     rcases List.mem_append.1 hy with hy|hy
     ·exact hB y hy
     ·rw[List.mem_singleton] at hy;subst hy;exact⟨xk.idB,xk.idL⟩)
    have lA:(ids++[x.id]).length=ids.length+1:=by simp
    have eA:Hk [] (ids++[x.id])=Vv x.id (Hk [] ids):=by rw[OI];rfl
    rw[lA,eA] at q
    try unfold Ab
    repeat first
     |((with_reducible first|apply A8|apply Aw|apply A5|apply Ay|apply Bh|apply B5|apply B7|apply D1|apply Ax|apply A9|apply A7);· first|with_reducible rfl|(simp (disch:=omega) only[gT,n2,g2,n1,g0,g1,g2',g3,g4,g5,g6,g7,g8,g9,g10,hs,O0,lX,bb,lR,lI,Cm,Ch,Cl,tR,is,w1,q]<;>first|with_reducible rfl|omega)|omega)
     |(with_reducible apply A6;· first|with_reducible rfl|(simp (disch:=omega) only[gF,n2,g2,n1,g0,g1,g2',g3,g4,g5,g6,g7,g8,g9,g10,hs,O0,lX,bb,lR,lI,Cm,Ch,Cl,tR,is,w1,q]<;>omega))
    try simp (disch:=omega) only[n2,g2,n1,g0,g1,g2',g3,g4,g5,g6,g7,g8,g9,g10,hs,O0,lX,bb,lR,lI,Cm,Ch,Cl,tR,is,w1,q]
   ·rw[Ms fun h=>hl h.2]
    have q:=ih (i+1) nn ids hd' (by simp at Dy;omega) (by omega) h4 hB
    try unfold Ab
    repeat first
     |((with_reducible first|apply A8|apply Aw|apply A5|apply Ay|apply Bh|apply B5|apply B7|apply D1|apply Ax|apply A9|apply A7);· first|with_reducible rfl|(simp (disch:=omega) only[gT,n2,g2,n1,g0,g1,g2',g3,g4,g5,g6,g7,g8,g9,g10,hs,O0,w1,q]<;>first|with_reducible rfl|omega)|omega)
     |(with_reducible apply A6;· first|with_reducible rfl|(simp (disch:=omega) only[gF,n2,g2,n1,g0,g1,g2',g3,g4,g5,g6,g7,g8,g9,g10,hs,O0,w1,q]<;>omega))
    try simp (disch:=omega) only[n2,g2,n1,g0,g1,g2',g3,g4,g5,g6,g7,g8,g9,g10,hs,O0,w1,q]
  ·rw[Ms fun h=>hs h.1]
   rw[Bool.not_eq_false] at hs;have q:=ih (i+1) nn ids hd' (by simp at Dy;omega) (by omega) h4 hB
   try unfold Ab
   repeat first
    |((with_reducible first|apply A8|apply Aw|apply A5|apply Ay|apply Bh|apply B5|apply B7|apply D1|apply Ax|apply A9|apply A7);· first|with_reducible rfl|(simp (disch:=omega) only[gT,n2,g2,n1,g0,g1,g2',g3,g4,g5,g6,g7,g8,g9,g10,hs,Rt,w1,q]<;>first|with_reducible rfl|omega)|omega)
    |(with_reducible apply A6;· first|with_reducible rfl|(simp (disch:=omega) only[gF,n2,g2,n1,g0,g1,g2',g3,g4,g5,g6,g7,g8,g9,g10,hs,Rt,w1,q]<;>omega))
   try simp (disch:=omega) only[n2,g2,n1,g0,g1,g2',g3,g4,g5,g6,g7,g8,g9,g10,hs,Rt,w1,q]
theorem QL (B2:2000<=fu){l:List Cw}(hl:l.length<=1000)(Kp:∀a∈l,a.ok)(secret:Int){nm:ByteArray}(Hl:nm.size<=500):
  Ag C0 prog fu (d+6) Jg [.lst false 3 l.length (Az l),.sc (.int .u64 secret),.sc (.string nm)]=some ⟨[.own 1 4 (Cp (MN l secret nm))],[]⟩:=by
 rw[Qq];have f:=S8 (fu:=fu) (d:=d+4) (l:=l) (nm:=nm) (by omega) (by omega)
 unfold MN;cases h:X9 nm 0 l with
 |none=>
  rw[h] at f;have lN:=Wh nm;have mc:=KA (xs:=Ie) (fu:=fu) (d:=d+1) (l:=I2 nm) (KE nm) (by omega) (by omega) (by omega) secret 20
  rw[lN] at mc;have sc:=Lh nm;have lS:(Am .u8 (I2 nm)).length=nm.size:=by rw[A0,lN]
  have tS:List.take nm.size (Am .u8 (I2 nm))=Am .u8 (I2 nm):=Ha (by omega)
  have q:=VU (fu:=fu) (d:=d) (by omega) (n:=l.length) (c:=Az l) (a1:=secret) (a2:=nm) (key:=BC secret 20 (I2 nm)) 4 fu 0 [] rfl (by omega) (fun x hx=>by cases hx) (by omega)
  have e0:((0:Nat):Int)=0:=rfl;rw[e0] at q;simp only[Gs] at f
  try unfold Ab
  repeat first
   |((with_reducible first|apply A8|apply Aw|apply A5|apply Ay|apply Bh|apply B5|apply B7|apply D1|apply Ax|apply A9|apply A7);· first|with_reducible rfl|(simp (disch:=omega) only[gT,f,sc,lS,Cm,Ch,Cl,tS,mc]<;>first|with_reducible rfl|omega)|omega)
   |(with_reducible apply A6;· first|with_reducible rfl|(simp (disch:=omega) only[gF,f,sc,lS,Cm,Ch,Cl,tS,mc]<;>omega))
  try simp (disch:=omega) only[f,sc,lS,Cm,Ch,Cl,tS,mc]
  exact q
 |some i=>
  rw[h] at f;obtain⟨_,h2,a,h3,_⟩:=Qy h;rw[Nat.sub_zero] at h3;have ak:=Kp a (List.mem_of_getElem? h3);have q:=Ajj (fu:=fu) (d:=d) (by omega) (n:=l.length) (c:=Az l) (a1:=secret) (a2:=nm) (secret:=secret) Hl h3 ak.cn ak.cs a.cr 0 fu [] rfl (by have:=ak.cn;omega) (by omega) (by simp) (fun x hx=>by cases hx)
  simp only[Gs] at f
  try unfold Ab
  repeat first
   |((with_reducible first|apply A8|apply Aw|apply A5|apply Ay|apply Bh|apply B5|apply B7|apply D1|apply Ax|apply A9|apply A7);· first|with_reducible rfl|(simp (disch:=omega) only[gT,f]<;>first|with_reducible rfl|omega)|omega)
   |(with_reducible apply A6;· first|with_reducible rfl|(simp (disch:=omega) only[gF,f]<;>omega))
  try simp (disch:=omega) only[f]
  refine q.trans ?_;simp only[Ad9,h3]
theorem TF {n m:Nat}{a b:List PV}{call:Ai}{L:List (List Int)} (hl:L.length<=100000):∀(r:List (List Int)) (i nn:Nat),L.drop i=r->r.length<nn->i<=L.length ->
  D4 fu call n a m b nn L.length (Cp L) L.length (Cp L) (i:Int)=some ⟨[.sc (.bool true)],[]⟩:=by
 intro r
 induction r with
 |nil=>
  intro i nn hd Dy hi;have:=drop_nil hd;obtain⟨nn,rfl⟩:∃k,nn=k+1:=⟨nn-1,by omega⟩
  rw[G3]
  try unfold Ab
  repeat first
   |((with_reducible first|apply A8|apply Aw|apply A5|apply Ay|apply Bh|apply B5|apply B7|apply D1|apply Ax|apply A9|apply A7);· first|with_reducible rfl|(simp (disch:=omega) only[gT,J7]<;>first|with_reducible rfl|omega)|omega)
   |(with_reducible apply A6;· first|with_reducible rfl|(simp (disch:=omega) only[gF,J7]<;>omega))
  try simp (disch:=omega) only[J7]
 |cons x r ih=>
  intro i nn hd Dy hi;obtain⟨Bp,Bu,hd'⟩:=C3 hd;obtain⟨nn,rfl⟩:∃k,nn=k+1:=⟨nn-1,by omega⟩
  rw[G3];have ax:=MB Bu;have n1:Int.toNat (i:Int)=i:=Rq _;have w1:wrap .i64 ((i:Int)+1)=((i+1:Nat):Int):=by rw[wrap_i64 (by omega) (by omega)];omega
  have lX:=A0 .u8 x;have bb:=El x;have b0:∀l:List UInt8,(!(l==l))=false:=fun l=>by simp
  have q:=ih (i+1) nn hd' (by simp at Dy;omega) (by omega)
  try unfold Ab
  repeat first
   |((with_reducible first|apply A8|apply Aw|apply A5|apply Ay|apply Bh|apply B5|apply B7|apply D1|apply Ax|apply A9|apply A7);· first|with_reducible rfl|(simp (disch:=omega) only[gT,n1,Ch,ax,lX,bb,b0,w1,q]<;>first|with_reducible rfl|omega)|omega)
   |(with_reducible apply A6;· first|with_reducible rfl|(simp (disch:=omega) only[gF,n1,Ch,ax,lX,bb,b0,w1,q]<;>omega))
  try simp (disch:=omega) only[n1,Ch,ax,lX,bb,b0,w1,q]
theorem Aha {L:List (List Int)} (hl:L.length<=100000)(B2:L.length<fu):Ag C0 prog fu (d+1) Iy [.lst false 1 L.length (Cp L),.lst false 1 L.length (Cp L)]=some ⟨[.sc (.bool true)],[]⟩:=by
 rw[Qb];have b1:((L.length:Int) != (L.length:Int))=false:=by simp
 try unfold Ab
 repeat first
  |((with_reducible first|apply A8|apply Aw|apply A5|apply Ay|apply Bh|apply B5|apply B7|apply D1|apply Ax|apply A9|apply A7);· first|with_reducible rfl|(simp (disch:=omega) only[gT,b1]<;>first|with_reducible rfl|omega)|omega)
  |(with_reducible apply A6;· first|with_reducible rfl|(simp (disch:=omega) only[gF,b1]<;>omega))
 try simp (disch:=omega) only[b1]
 exact TF hl L 0 fu rfl B2 (by omega)
end
section
variable {fu d:Nat}
theorem MH (l:List Int)(a:Nat):Ag C0 prog fu (d+1) Iu [.pbox (X6 l a)]=some ⟨[.sc (.bool (decide ((a:Int)<(l.length:Int))))],[X6 l a]⟩:=by
 unfold X6;rw[Pi]
end
end
section
open Go.Proofs.Try (prog)
open Go.IntKind (wrap)
set_option maxRecDepth 100000
def JK (o:Option (Nat × Nat)):List PV:=match o with|some (i,k)=>[.sc (.int .i64 (i:Int)),.sc (.int .i64 (k:Int)),.sc (.bool true)]|none=>[.sc (.int .i64 0),.sc (.int .i64 0),.sc (.bool false)]
section
variable {xs:FuncId->Option (List PV->Option A2)} {fu d:Nat}
theorem YA (a b:List Int):Ag (CX xs) prog fu (d+1) Up [.lst false 1 a.length (Am .u8 a),.lst false 1 b.length (Am .u8 b)]=some ⟨[.sc (.bool (QM a b))],[]⟩:=by
 rw[GS];have l1:=A0 .u8 a;have l2:=A0 .u8 b;have b1:=El a;have b2:=El b;simp (disch:=omega) only[Ea,l1,l2,b1,b2];rfl
theorem Afz {nm us:ByteArray}{n0 n1:Nat}{c0 c1:List PV}{id:List Int}{cr:List Sd}(hl:cr.length<=100000):∀(r:List Sd)(i nn:Nat),cr.drop i=r->r.length<nn->i<=cr.length ->
  Fj fu (Ag (CX xs) prog fu (d+1)) nm us n0 c0 n1 c1 nn id.length (Am .u8 id) cr.length (Cg cr) (cr.length:Int) (i:Int)=some ⟨Gs (KO id i r),[]⟩:=by
 intro r
 induction r with
 |nil=>
  intro i nn hd Dy hi;have:=drop_nil hd;obtain⟨nn,rfl⟩:∃k,nn=k+1:=⟨nn-1,by omega⟩
  rw[J1];simp (disch:=omega) only[Ea];rfl
 |cons x r ih=>
  intro i nn hd Dy hi;obtain⟨Bp,Bu,hd'⟩:=C3 hd;obtain⟨nn,rfl⟩:∃k,nn=k+1:=⟨nn-1,by omega⟩
  rw[J1];have g0:(Cg cr).getD (i*11) .top=.lst false 1 x.id.length (Am .u8 x.id):=Cy Bu (j:=0) (by omega)
  have g1:(Cg cr).getD (i*11+1) .top=.sc (.int .i64 x.ht):=Cy Bu (j:=1) (by omega)
  have g2:(Cg cr).getD (i*11+1+1) .top=.sc (.int .u64 x.root):=Cy Bu (j:=2) (by omega)
  have g3:(Cg cr).getD (i*11+1+1+1) .top=.sc (.int .u64 x.model):=Cy Bu (j:=3) (by omega)
  have g4:(Cg cr).getD (i*11+1+1+1+1) .top=.sc (.int .i64 x.fmt):=Cy Bu (j:=4) (by omega)
  have g5:(Cg cr).getD (i*11+1+1+1+1+1) .top=.sc (.bool x.sh):=Cy Bu (j:=5) (by omega)
  have g6:(Cg cr).getD (i*11+1+1+1+1+1+1) .top=.sc (.int .u64 x.used):=Cy Bu (j:=6) (by omega)
  have g7:(Cg cr).getD (i*11+1+1+1+1+1+1+1) .top=.lst false 2 x.rg.length (H5 x.rg):=Cy Bu (j:=7) (by omega)
  have g8:(Cg cr).getD (i*11+1+1+1+1+1+1+1+1) .top=.sc (.bool x.sus):=Cy Bu (j:=8) (by omega)
  have g9:(Cg cr).getD (i*11+1+1+1+1+1+1+1+1+1) .top=.sc (.int .i64 x.since):=Cy Bu (j:=9) (by omega)
  have g10:(Cg cr).getD (i*11+1+1+1+1+1+1+1+1+1+1) .top=.sc (.int .i64 x.last):=Cy Bu (j:=10) (by omega)
  have n1:Int.toNat (i:Int)=i:=Rq _;have w1:wrap .i64 ((i:Int)+1)=((i+1:Nat):Int):=by rw[wrap_i64 (by omega) (by omega)];omega
  have eq:=YA (xs:=xs) (fu:=fu) (d:=d) x.id id;unfold KO;cases h:QM x.id id
  ·rw[Ms (by simp)]
   rw[h] at eq;have q:=ih (i+1) nn hd' (by simp at Dy;omega) (by omega)
   simp (disch:=omega) only[Ea,n1,g0,g1,g2,g3,g4,g5,g6,g7,g8,g9,g10,eq,w1,q]
  ·rw[J7 rfl];rw[h] at eq;simp (disch:=omega) only[Ea,n1,g0,g1,g2,g3,g4,g5,g6,g7,g8,g9,g10,eq,Gs]
theorem Ado {nm us:ByteArray}{id:List Int}{cr:List Sd}(hl:cr.length<=100000)(B2:cr.length<fu):
  Ag (CX xs) prog fu (d+2) M3 [.agg [.sc (.string nm),.sc (.string us),.lst false 11 cr.length (Cg cr)],.lst false 1 id.length (Am .u8 id)]=some ⟨Gs (KO id 0 cr),[]⟩:=by
 rw[Vt];exact Afz hl cr 0 fu rfl B2 (by omega)
theorem Aed {n0 n1:Nat}{c0 c1:List PV}{id:List Int}{l:List Cw}(hl:l.length<=100000)(hs:∀a∈l,a.cr.length<=1000)(B2:2000<=fu):∀(r:List Cw)(i nn:Nat),l.drop i=r->r.length<nn->i<=l.length ->
  G7 fu (Ag (CX xs) prog fu (d+2)) n0 c0 n1 c1 nn id.length (Am .u8 id) l.length (Az l) (l.length:Int) (i:Int)=some ⟨JK (X1 id i r),[]⟩:=by
 intro r
 induction r with
 |nil=>
  intro i nn hd Dy hi;have:=drop_nil hd;obtain⟨nn,rfl⟩:∃k,nn=k+1:=⟨nn-1,by omega⟩
  rw[Nf];simp (disch:=omega) only[Ea];rfl
 |cons a r ih=>
  intro i nn hd Dy hi;obtain⟨Bp,Bu,hd'⟩:=C3 hd;obtain⟨nn,rfl⟩:∃k,nn=k+1:=⟨nn-1,by omega⟩
  rw[Nf];have g0:(Az l).getD (i*3) .top=.sc (.string a.nm):=Fd Bu (j:=0) (by omega)
  have g1:(Az l).getD (i*3+1) .top=.sc (.string a.us):=Fd Bu (j:=1) (by omega)
  have g2:(Az l).getD (i*3+1+1) .top=.lst false 11 a.cr.length (Cg a.cr):=Fd Bu (j:=2) (by omega)
  have n1:Int.toNat (i:Int)=i:=Rq _;have w1:wrap .i64 ((i:Int)+1)=((i+1:Nat):Int):=by rw[wrap_i64 (by omega) (by omega)];omega
  have ha:=hs a (List.mem_of_getElem? Bu);have eq:=Ado (xs:=xs) (fu:=fu) (d:=d) (nm:=a.nm) (us:=a.us) (id:=id) (cr:=a.cr) (by omega) (by omega)
  unfold X1;cases h:KO id 0 a.cr with
  |none=>
   rw[h] at eq;simp only[Gs] at eq;have q:=ih (i+1) nn hd' (by simp at Dy;omega) (by omega)
   simp (disch:=omega) only[Ea,n1,g0,g1,g2,eq,w1,q]
  |some k=>
   rw[h] at eq;simp only[Gs] at eq;simp (disch:=omega) only[Ea,n1,g0,g1,g2,eq,JK]
theorem Age {id:List Int}{l:List Cw}(hl:l.length<=1000)(hs:∀a∈l,a.cr.length<=1000)(B2:2000<=fu):Ag (CX xs) prog fu (d+3) Rw [.lst false 3 l.length (Az l),.lst false 1 id.length (Am .u8 id)]=some ⟨JK (X1 id 0 l),[]⟩:=by
 rw[AP];exact Aed (by omega) hs B2 l 0 fu rfl (by omega) (by omega)
def ZB (l:List Cw)(nm:ByteArray)(id:List Int):List PV:=
 match X9 nm 0 l with
 |some i=>(match l[i]? with
  |some a=>(match KO id 0 a.cr with|some k=>[.sc (.int .i64 (i:Int)),.sc (.int .i64 (k:Int)),.sc (.bool true)]|none=>[.sc (.int .i64 (i:Int)),.sc (.int .i64 0),.sc (.bool false)])
  |none=>[])
 |none=>[.sc (.int .i64 0),.sc (.int .i64 0),.sc (.bool false)]
theorem Anf {nm:ByteArray}{id:List Int}{l:List Cw}(hl:l.length<=1000)(hs:∀a∈l,a.cr.length<=1000)(B2:2000<=fu):Ag (CX xs) prog fu (d+3) O7 [.lst false 3 l.length (Az l),.sc (.string nm),.lst false 1 id.length (Am .u8 id)]=some ⟨ZB l nm id,[]⟩:=by
 rw[Yt];have f:=Ww (xs:=xs) (fu:=fu) (d:=d+1) (l:=l) (nm:=nm) (by omega) (by omega)
 unfold ZB;cases h:X9 nm 0 l with
 |none=>
  rw[h] at f;simp only[Gs] at f;simp (disch:=omega) only[Ea,f,O0]
 |some i=>
  rw[h] at f;obtain⟨_,h2,a,h3,_⟩:=Qy h;rw[Nat.sub_zero] at h3;have ha:=hs a (List.mem_of_getElem? h3);have g0:(Az l).getD (i*3) .top=.sc (.string a.nm):=Fd h3 (j:=0) (by omega)
  have g1:(Az l).getD (i*3+1) .top=.sc (.string a.us):=Fd h3 (j:=1) (by omega)
  have g2:(Az l).getD (i*3+1+1) .top=.lst false 11 a.cr.length (Cg a.cr):=Fd h3 (j:=2) (by omega)
  have n1:Int.toNat (i:Int)=i:=Rq _;have eq:=Ado (xs:=xs) (fu:=fu) (d:=d) (nm:=a.nm) (us:=a.us) (id:=id) (cr:=a.cr) (by omega) (by omega)
  simp only[Gs] at f;dsimp only;rw[h3];dsimp only;cases hp:KO id 0 a.cr with
  |none=>
   rw[hp] at eq;simp only[Gs] at eq;simp (disch:=omega) only[Ea,f,n1,g0,g1,g2,eq,Rt]
  |some k=>
   rw[hp] at eq;simp only[Gs] at eq;simp (disch:=omega) only[Ea,f,n1,g0,g1,g2,eq,Rt]
end
end
section
open Go.Proofs.Try (prog)
open Go.IntKind (wrap)
set_option maxRecDepth 100000
abbrev Lx:FuncId:=40
theorem Uj (fu d Ap:Nat)(a0:List PV)(a1:Int)(Pd:Nat)(a2:List PV):Ag C0 prog fu (d+1) Lx [.lst false 3 Ap a0,.sc (.int .i64 a1),.lst false 11 Pd a2]=(fun (call:Ai)=>An (decide (a0.length=Ap*3)&&decide (Ap*56<=1099511627776)&&decide (Ap<=1099511627776))<|An (decide (0<=a1)&&decide (a1<(↑Ap:Int)))<|An (decide (0+Int.toNat a1*3+2+1<=a0.length))<|Ab (Bl a0 [.lst false 11 Pd a2] (0+Int.toNat a1*3+2)) fun x1=>An (decide (0+Ap*3<=x1.length))<|some (A2.mk [.lst false 3 Ap (List.take (Ap*3) (List.drop 0 x1))] [])) (Ag C0 prog fu d):=by kernel_rfl
abbrev J8:FuncId:=20
theorem R2 (fu d Ap:Nat)(a0:List PV)(a1 a2:ByteArray)(Sr:Nat)(GF:List PV)(JL LR:Int)(KJ LM:Int)(JT:Bool)(MC:Int)(Wp:Nat)(LN:List PV)(JJ:Bool)(KM Xu:Int):Ag C0 prog fu (d+1) J8 [.lst false 3 Ap a0,.sc (.string a1),.sc (.string a2),.agg [.lst false 1 Sr GF,.sc (.int .i64 JL),.sc (.int .u64 LR),.sc (.int .u64 KJ),.sc (.int .i64 LM),.sc (.bool JT),.sc (.int .u64 MC),.lst false 2 Wp LN,.sc (.bool JJ),.sc (.int .i64 KM),.sc (.int .i64 Xu)]]=(fun (call:Ai)=>Af (call 22 [.lst false 3 Ap a0,.sc (.string a1)]) fun x1 x2=>Ac x2<|Aa x1 fun x3 x4=>Ae .i64 x3 fun x5=>Aa x4 fun x6 x7=>Av x6 fun x8=>Ac x7<|Af (call 24 [.lst false 3 Ap a0,.lst false 1 Sr GF]) fun x9 Ia=>Ac Ia<|Aa x9 fun H6 H7=>Ae .i64 H6 fun L8=>Aa H7 fun La K9=>Ae .i64 La fun Nk=>Aa K9 fun Pu Mz=>Av Pu fun H2=>Ac Mz<|Af (call 41 [.sc (.int .i64 (↑(ByteArray.size a1):Int)),.sc (.int .i64 1),.sc (.int .i64 32)]) fun Mt Mf=>Ac Mf<|Aa Mt fun Qg Rh=>Av Qg fun Ph=>Ac Rh<|Bd (!Ph) (some (A2.mk [.lst false 3 0 [],.sc (.int .i64 9)] [])) (Bd ((↑Sr:Int) != 176) (some (A2.mk [.lst false 3 0 [],.sc (.int .i64 4)] [])) (Bd H2 (some (A2.mk [.lst false 3 0 [],.sc (.int .i64 10)] [])) (Bd x8 (An (decide (0<=x5)&&decide (x5<(↑Ap:Int)))<|Ca 11 (List.getD a0 (Int.toNat x5*3+2) .top) fun Zd X5 Ub=>Bd (decide ((↑X5:Int)>=4)) (some (A2.mk [.lst false 3 0 [],.sc (.int .i64 12)] [])) (Bd (!x8) (Bd (decide ((↑Ap:Int)>=16)) (some (A2.mk [.lst false 3 0 [],.sc (.int .i64 12)] [])) (Bd x8 (An (decide (0<=x5)&&decide (x5<(↑Ap:Int)))<|Ca 11 (List.getD a0 (Int.toNat x5*3+2) .top) fun DM Ui O1=>An (decide (O1.length=Ui*11)&&decide (Ui*120<=1099511627776)&&decide (Ui<=1099511627776))<|An (decide (Ui*11<=O1.length)&&true&&decide ((Ui+1)*120<=1099511627776)&&decide (Ui+1<=1099511627776))<|Ab (Ui+1) fun Sb=>Ab (List.take (Ui*11) O1++[.lst false 1 Sr GF,.sc (.int .i64 JL),.sc (.int .u64 LR),.sc (.int .u64 KJ),.sc (.int .i64 LM),.sc (.bool JT),.sc (.int .u64 MC),.lst false 2 Wp LN,.sc (.bool JJ),.sc (.int .i64 KM),.sc (.int .i64 Xu)]) fun Z4=>An (decide (0+Sb*11<=Z4.length))<|Af (call 40 [.lst false 3 Ap a0,.sc (.int .i64 x5),.lst false 11 Sb (List.take (Sb*11) (List.drop 0 Z4))]) fun Wx X8=>Ac X8<|Aa Wx fun CA AW=>Ca 3 CA fun Yb HN MA=>Ac AW<|some (A2.mk [.lst false 3 HN MA,.sc (.int .i64 0)] [])) (An (decide (a0.length=Ap*3)&&decide (Ap*56<=1099511627776)&&decide (Ap<=1099511627776))<|An (decide (Ap*3<=a0.length)&&true&&decide ((Ap+1)*56<=1099511627776)&&decide (Ap+1<=1099511627776))<|Ab (Ap+1) fun BO=>Ab (List.take (Ap*3) a0++[.sc (.string a1),.sc (.string a2),.lst false 11 1 [.lst false 1 Sr GF,.sc (.int .i64 JL),.sc (.int .u64 LR),.sc (.int .u64 KJ),.sc (.int .i64 LM),.sc (.bool JT),.sc (.int .u64 MC),.lst false 2 Wp LN,.sc (.bool JJ),.sc (.int .i64 KM),.sc (.int .i64 Xu)]]) fun NF=>An (decide (0+BO*3<=NF.length))<|some (A2.mk [.lst false 3 BO (List.take (BO*3) (List.drop 0 NF)),.sc (.int .i64 0)] [])))) (Bd x8 (An (decide (0<=x5)&&decide (x5<(↑Ap:Int)))<|Ca 11 (List.getD a0 (Int.toNat x5*3+2) .top) fun PA BK Oy=>An (decide (Oy.length=BK*11)&&decide (BK*120<=1099511627776)&&decide (BK<=1099511627776))<|An (decide (BK*11<=Oy.length)&&true&&decide ((BK+1)*120<=1099511627776)&&decide (BK+1<=1099511627776))<|Ab (BK+1) fun KC=>Ab (List.take (BK*11) Oy++[.lst false 1 Sr GF,.sc (.int .i64 JL),.sc (.int .u64 LR),.sc (.int .u64 KJ),.sc (.int .i64 LM),.sc (.bool JT),.sc (.int .u64 MC),.lst false 2 Wp LN,.sc (.bool JJ),.sc (.int .i64 KM),.sc (.int .i64 Xu)]) fun NC=>An (decide (0+KC*11<=NC.length))<|Af (call 40 [.lst false 3 Ap a0,.sc (.int .i64 x5),.lst false 11 KC (List.take (KC*11) (List.drop 0 NC))]) fun QA OV=>Ac OV<|Aa QA fun QR DY=>Ca 3 QR fun PO RQ NJ=>Ac DY<|some (A2.mk [.lst false 3 RQ NJ,.sc (.int .i64 0)] [])) (An (decide (a0.length=Ap*3)&&decide (Ap*56<=1099511627776)&&decide (Ap<=1099511627776))<|An (decide (Ap*3<=a0.length)&&true&&decide ((Ap+1)*56<=1099511627776)&&decide (Ap+1<=1099511627776))<|Ab (Ap+1) fun X3=>Ab (List.take (Ap*3) a0++[.sc (.string a1),.sc (.string a2),.lst false 11 1 [.lst false 1 Sr GF,.sc (.int .i64 JL),.sc (.int .u64 LR),.sc (.int .u64 KJ),.sc (.int .i64 LM),.sc (.bool JT),.sc (.int .u64 MC),.lst false 2 Wp LN,.sc (.bool JJ),.sc (.int .i64 KM),.sc (.int .i64 Xu)]]) fun FX=>An (decide (0+X3*3<=FX.length))<|some (A2.mk [.lst false 3 X3 (List.take (X3*3) (List.drop 0 FX)),.sc (.int .i64 0)] []))))) (Bd (!x8) (Bd (decide ((↑Ap:Int)>=16)) (some (A2.mk [.lst false 3 0 [],.sc (.int .i64 12)] [])) (Bd x8 (An (decide (0<=x5)&&decide (x5<(↑Ap:Int)))<|Ca 11 (List.getD a0 (Int.toNat x5*3+2) .top) fun RT BU GU=>An (decide (GU.length=BU*11)&&decide (BU*120<=1099511627776)&&decide (BU<=1099511627776))<|An (decide (BU*11<=GU.length)&&true&&decide ((BU+1)*120<=1099511627776)&&decide (BU+1<=1099511627776))<|Ab (BU+1) fun LO=>Ab (List.take (BU*11) GU++[.lst false 1 Sr GF,.sc (.int .i64 JL),.sc (.int .u64 LR),.sc (.int .u64 KJ),.sc (.int .i64 LM),.sc (.bool JT),.sc (.int .u64 MC),.lst false 2 Wp LN,.sc (.bool JJ),.sc (.int .i64 KM),.sc (.int .i64 Xu)]) fun ND=>An (decide (0+LO*11<=ND.length))<|Af (call 40 [.lst false 3 Ap a0,.sc (.int .i64 x5),.lst false 11 LO (List.take (LO*11) (List.drop 0 ND))]) fun FQ JF=>Ac JF<|Aa FQ fun XC JA=>Ca 3 XC fun TW UB WO=>Ac JA<|some (A2.mk [.lst false 3 UB WO,.sc (.int .i64 0)] [])) (An (decide (a0.length=Ap*3)&&decide (Ap*56<=1099511627776)&&decide (Ap<=1099511627776))<|An (decide (Ap*3<=a0.length)&&true&&decide ((Ap+1)*56<=1099511627776)&&decide (Ap+1<=1099511627776))<|Ab (Ap+1) fun Zy=>Ab (List.take (Ap*3) a0++[.sc (.string a1),.sc (.string a2),.lst false 11 1 [.lst false 1 Sr GF,.sc (.int .i64 JL),.sc (.int .u64 LR),.sc (.int .u64 KJ),.sc (.int .i64 LM),.sc (.bool JT),.sc (.int .u64 MC),.lst false 2 Wp LN,.sc (.bool JJ),.sc (.int .i64 KM),.sc (.int .i64 Xu)]]) fun FG=>An (decide (0+Zy*3<=FG.length))<|some (A2.mk [.lst false 3 Zy (List.take (Zy*3) (List.drop 0 FG)),.sc (.int .i64 0)] [])))) (Bd x8 (An (decide (0<=x5)&&decide (x5<(↑Ap:Int)))<|Ca 11 (List.getD a0 (Int.toNat x5*3+2) .top) fun x70 GZ Tu=>An (decide (Tu.length=GZ*11)&&decide (GZ*120<=1099511627776)&&decide (GZ<=1099511627776))<|An (decide (GZ*11<=Tu.length)&&true&&decide ((GZ+1)*120<=1099511627776)&&decide (GZ+1<=1099511627776))<|Ab (GZ+1) fun XQ=>Ab (List.take (GZ*11) Tu++[.lst false 1 Sr GF,.sc (.int .i64 JL),.sc (.int .u64 LR),.sc (.int .u64 KJ),.sc (.int .i64 LM),.sc (.bool JT),.sc (.int .u64 MC),.lst false 2 Wp LN,.sc (.bool JJ),.sc (.int .i64 KM),.sc (.int .i64 Xu)]) fun QT=>An (decide (0+XQ*11<=QT.length))<|Af (call 40 [.lst false 3 Ap a0,.sc (.int .i64 x5),.lst false 11 XQ (List.take (XQ*11) (List.drop 0 QT))]) fun Tp x76=>Ac x76<|Aa Tp fun x77 U6=>Ca 3 x77 fun x79 x80 X4=>Ac U6<|some (A2.mk [.lst false 3 x80 X4,.sc (.int .i64 0)] [])) (An (decide (a0.length=Ap*3)&&decide (Ap*56<=1099511627776)&&decide (Ap<=1099511627776))<|An (decide (Ap*3<=a0.length)&&true&&decide ((Ap+1)*56<=1099511627776)&&decide (Ap+1<=1099511627776))<|Ab (Ap+1) fun x82=>Ab (List.take (Ap*3) a0++[.sc (.string a1),.sc (.string a2),.lst false 11 1 [.lst false 1 Sr GF,.sc (.int .i64 JL),.sc (.int .u64 LR),.sc (.int .u64 KJ),.sc (.int .i64 LM),.sc (.bool JT),.sc (.int .u64 MC),.lst false 2 Wp LN,.sc (.bool JJ),.sc (.int .i64 KM),.sc (.int .i64 Xu)]]) fun x83=>An (decide (0+x82*3<=x83.length))<|some (A2.mk [.lst false 3 x82 (List.take (x82*3) (List.drop 0 x83)),.sc (.int .i64 0)] [])))))))) (Ag C0 prog fu d):=by kernel_rfl
abbrev I4:FuncId:=19
theorem Re (fu d Ap:Nat)(a0:List PV)(a1:ByteArray)(Adj:Nat)(Aoe:List PV)(A01 A04:Int)(Bag A1o:Int)(A7w:Bool)(A3f:Int)(Amb:Nat)(Azt:List PV)(Atp:Bool)(A4c Alo:Int):Ag C0 prog fu (d+1) I4 [.lst false 3 Ap a0,.sc (.string a1),.agg [.lst false 1 Adj Aoe,.sc (.int .i64 A01),.sc (.int .u64 A04),.sc (.int .u64 Bag),.sc (.int .i64 A1o),.sc (.bool A7w),.sc (.int .u64 A3f),.lst false 2 Amb Azt,.sc (.bool Atp),.sc (.int .i64 A4c),.sc (.int .i64 Alo)]]=(fun (call:Ai)=>Af (call 22 [.lst false 3 Ap a0,.sc (.string a1)]) fun x1 x2=>Ac x2<|Aa x1 fun x3 x4=>Ae .i64 x3 fun x5=>Aa x4 fun x6 x7=>Av x6 fun x8=>Ac x7<|Bd (!x8) (some (A2.mk [.lst false 3 0 [],.sc (.int .i64 11)] [])) (An (decide (0<=x5)&&decide (x5<(↑Ap:Int)))<|Ca 11 (List.getD a0 (Int.toNat x5*3+2) .top) fun x9 Ia H6=>Af (call 39 [.lst false 11 Ia H6,.lst false 1 Adj Aoe]) fun H7 L8=>Ac L8<|Aa H7 fun La K9=>Ae .i64 La fun Nk=>Aa K9 fun Pu Mz=>Av Pu fun H2=>Ac Mz<|Bd (!H2) (some (A2.mk [.lst false 3 0 [],.sc (.int .i64 11)] [])) (An (decide (0<=x5)&&decide (x5<(↑Ap:Int)))<|Ca 11 (List.getD a0 (Int.toNat x5*3+2) .top) fun Mt Mf Qg=>An (decide (Qg.length=Mf*11)&&decide (Mf*120<=1099511627776)&&decide (Mf<=1099511627776))<|An (decide (0<=Nk)&&decide (Nk<(↑Mf:Int)))<|An (decide (0+Int.toNat Nk*11+11<=Qg.length))<|Ab (Bl Qg [.lst false 1 Adj Aoe,.sc (.int .i64 A01),.sc (.int .u64 A04),.sc (.int .u64 Bag),.sc (.int .i64 A1o),.sc (.bool A7w),.sc (.int .u64 A3f),.lst false 2 Amb Azt,.sc (.bool Atp),.sc (.int .i64 A4c),.sc (.int .i64 Alo)] (0+Int.toNat Nk*11)) fun Rh=>An (decide (0+Mf*11<=Rh.length))<|Af (call 40 [.lst false 3 Ap a0,.sc (.int .i64 x5),.lst false 11 Mf (List.take (Mf*11) (List.drop 0 Rh))]) fun Ph Zd=>Ac Zd<|Aa Ph fun X5 Ub=>Ca 3 X5 fun DM Ui O1=>Ac Ub<|some (A2.mk [.lst false 3 Ui O1,.sc (.int .i64 0)] [])))) (Ag C0 prog fu d):=by kernel_rfl
abbrev J6:FuncId:=17
theorem R5 (fu d Ap:Nat)(a0:List PV)(a1:ByteArray)(Pd:Nat)(a2:List PV):Ag C0 prog fu (d+1) J6 [.lst false 3 Ap a0,.sc (.string a1),.lst false 1 Pd a2]=(fun (call:Ai)=>Af (call 22 [.lst false 3 Ap a0,.sc (.string a1)]) fun x1 x2=>Ac x2<|Aa x1 fun x3 x4=>Ae .i64 x3 fun x5=>Aa x4 fun x6 x7=>Av x6 fun x8=>Ac x7<|Bd (!x8) (some (A2.mk [.lst false 3 0 [],.sc (.int .i64 11)] [])) (An (decide (0<=x5)&&decide (x5<(↑Ap:Int)))<|Ca 11 (List.getD a0 (Int.toNat x5*3+2) .top) fun x9 Ia H6=>Af (call 39 [.lst false 11 Ia H6,.lst false 1 Pd a2]) fun H7 L8=>Ac L8<|Aa H7 fun La K9=>Ae .i64 La fun Nk=>Aa K9 fun Pu Mz=>Av Pu fun H2=>Ac Mz<|Bd (!H2) (some (A2.mk [.lst false 3 0 [],.sc (.int .i64 11)] [])) (An (decide (0<=Nk))<|An (decide (Int.toNat Nk<=Ia))<|Ab (Int.toNat Nk-0) fun Mt=>Ab (List.take (Mt*11) (List.drop 0 H6)) fun Mf=>An (decide (Mf.length=Mt*11)&&decide (Mt*120<=1099511627776)&&decide (Mt<=1099511627776))<|Ab (wrap .i64 (Nk+1)) fun Qg=>An (decide (0<=Qg))<|An (decide (Int.toNat Qg<=Ia)&&decide (Ia<=Ia))<|Ab (Ia-Int.toNat Qg) fun Rh=>Ab (List.take (Rh*11) (List.drop (Int.toNat Qg*11) H6)) fun Ph=>An (decide (Mt*11<=Mf.length)&&decide (Ph.length=Rh*11)&&decide ((Mt+Rh)*120<=1099511627776)&&decide (Mt+Rh<=1099511627776))<|Ab (Mt+Rh) fun Zd=>Ab (List.take (Mt*11) Mf++Ph) fun X5=>An (decide (0+Zd*11<=X5.length))<|Af (call 40 [.lst false 3 Ap a0,.sc (.int .i64 x5),.lst false 11 Zd (List.take (Zd*11) (List.drop 0 X5))]) fun Ub DM=>Ac DM<|Aa Ub fun Ui O1=>Ca 3 Ui fun Sb Z4 Wx=>Ac O1<|some (A2.mk [.lst false 3 Z4 Wx,.sc (.int .i64 0)] [])))) (Ag C0 prog fu d):=by kernel_rfl
abbrev Gw:FuncId:=42
noncomputable def Dh (fu:Nat)(call:Ai)(Di Dc:ByteArray)(Jl:Nat)(D9:List PV)(Yf AU:ByteArray)(Wd:Nat)(CY:List PV)(nn:Nat)(y0:Int)(y1 y2:ByteArray)(y3:Nat)(y4:List PV)(y5 y6:ByteArray)(y7:Nat)(y8:List PV):Option A2:=Cu CB prog fu call 42 Try.f42 (Bw Try.f42) [.agg [.sc (.string Di),.sc (.string Dc),.lst false 11 Jl D9],.agg [.sc (.string Yf),.sc (.string AU),.lst false 11 Wd CY]] [.r,.r,.l,.r,.l] nn ⟨lk [(2,(.ptr 2 0)),(3,(.ptr 3 0)),(5,(.sc (.int .i64 y0)))],Fx [(2,(.st [(.sc (.string y1)),(.sc (.string y2)),(.lst false 11 y3 y4)])),(3,(.st [(.sc (.string y5)),(.sc (.string y6)),(.lst false 11 y7 y8)]))]⟩
theorem Fz (fu:Nat)(call:Ai)(Di Dc:ByteArray)(Jl:Nat)(D9:List PV)(Yf AU:ByteArray)(Wd:Nat)(CY:List PV)(nn:Nat)(y0:Int)(y1 y2:ByteArray)(y3:Nat)(y4:List PV)(y5 y6:ByteArray)(y7:Nat)(y8:List PV):Dh fu call Di Dc Jl D9 Yf AU Wd CY (nn+1) y0 y1 y2 y3 y4 y5 y6 y7 y8=(Bd (decide (y0<(↑y3:Int))) (An (decide (0<=y0)&&decide (y0<(↑y3:Int)))<|Ca 1 (List.getD y4 (Int.toNat y0*11) .top) fun x1 x2 x3=>Ae .i64 (List.getD y4 (Int.toNat y0*11+1) .top) fun x4=>Ae .u64 (List.getD y4 (Int.toNat y0*11+1+1) .top) fun x5=>Ae .u64 (List.getD y4 (Int.toNat y0*11+1+1+1) .top) fun x6=>Ae .i64 (List.getD y4 (Int.toNat y0*11+1+1+1+1) .top) fun x7=>Av (List.getD y4 (Int.toNat y0*11+1+1+1+1+1) .top) fun x8=>Ae .u64 (List.getD y4 (Int.toNat y0*11+1+1+1+1+1+1) .top) fun x9=>Ca 2 (List.getD y4 (Int.toNat y0*11+1+1+1+1+1+1+1) .top) fun Ia H6 H7=>Av (List.getD y4 (Int.toNat y0*11+1+1+1+1+1+1+1+1) .top) fun L8=>Ae .i64 (List.getD y4 (Int.toNat y0*11+1+1+1+1+1+1+1+1+1) .top) fun La=>Ae .i64 (List.getD y4 (Int.toNat y0*11+1+1+1+1+1+1+1+1+1+1) .top) fun K9=>An (decide (0<=y0)&&decide (y0<(↑y7:Int)))<|Ca 1 (List.getD y8 (Int.toNat y0*11) .top) fun Nk Pu Mz=>Ae .i64 (List.getD y8 (Int.toNat y0*11+1) .top) fun H2=>Ae .u64 (List.getD y8 (Int.toNat y0*11+1+1) .top) fun Mt=>Ae .u64 (List.getD y8 (Int.toNat y0*11+1+1+1) .top) fun Mf=>Ae .i64 (List.getD y8 (Int.toNat y0*11+1+1+1+1) .top) fun Qg=>Av (List.getD y8 (Int.toNat y0*11+1+1+1+1+1) .top) fun Rh=>Ae .u64 (List.getD y8 (Int.toNat y0*11+1+1+1+1+1+1) .top) fun Ph=>Ca 2 (List.getD y8 (Int.toNat y0*11+1+1+1+1+1+1+1) .top) fun Zd X5 Ub=>Av (List.getD y8 (Int.toNat y0*11+1+1+1+1+1+1+1+1) .top) fun DM=>Ae .i64 (List.getD y8 (Int.toNat y0*11+1+1+1+1+1+1+1+1+1) .top) fun Ui=>Ae .i64 (List.getD y8 (Int.toNat y0*11+1+1+1+1+1+1+1+1+1+1) .top) fun O1=>Af (call 54 [.agg [.lst false 1 x2 x3,.sc (.int .i64 x4),.sc (.int .u64 x5),.sc (.int .u64 x6),.sc (.int .i64 x7),.sc (.bool x8),.sc (.int .u64 x9),.lst false 2 H6 H7,.sc (.bool L8),.sc (.int .i64 La),.sc (.int .i64 K9)],.agg [.lst false 1 Pu Mz,.sc (.int .i64 H2),.sc (.int .u64 Mt),.sc (.int .u64 Mf),.sc (.int .i64 Qg),.sc (.bool Rh),.sc (.int .u64 Ph),.lst false 2 X5 Ub,.sc (.bool DM),.sc (.int .i64 Ui),.sc (.int .i64 O1)]]) fun Sb Z4=>Ac Z4<|Aa Sb fun Wx X8=>Av Wx fun CA=>Ac X8<|Bd (!CA) (some (A2.mk [.sc (.bool false)] [])) (Ab (wrap .i64 (y0+1)) fun AW=>Dh fu call Di Dc Jl D9 Yf AU Wd CY (nn) AW (y1) (y2) (y3) (y4) (y5) (y6) (y7) (y8))) (some (A2.mk [.sc (.bool true)] []))):=by kernel_rfl
theorem M8 (fu d:Nat)(Di Dc:ByteArray)(Jl:Nat)(D9:List PV)(Yf AU:ByteArray)(Wd:Nat)(CY:List PV):Ag C0 prog fu (d+1) Gw [.agg [.sc (.string Di),.sc (.string Dc),.lst false 11 Jl D9],.agg [.sc (.string Yf),.sc (.string AU),.lst false 11 Wd CY]]=(fun (call:Ai)=>Bd (!Array.toList (ByteArray.data Di)==Array.toList (ByteArray.data Yf)) (some (A2.mk [.sc (.bool false)] [])) (Bd (!Array.toList (ByteArray.data Dc)==Array.toList (ByteArray.data AU)) (some (A2.mk [.sc (.bool false)] [])) (Bd ((↑Jl:Int) != (↑Wd:Int)) (some (A2.mk [.sc (.bool false)] [])) (Dh fu call Di Dc Jl D9 Yf AU Wd CY (fu) 0 (Di) (Dc) (Jl) (D9) (Yf) (AU) (Wd) (CY))))) (Ag C0 prog fu d):=by kernel_rfl
abbrev Gp:FuncId:=21
noncomputable def C8 (fu:Nat)(call:Ai)(Ap:Nat)(a0:List PV)(He:Nat)(a1:List PV)(nn y0:Nat)(y1:List PV)(y2:Nat)(y3:List PV)(y4:Int):Option A2:=Cu CB prog fu call 21 Try.f21 (Bw Try.f21) [.lst false 3 Ap a0,.lst false 3 He a1] [.r,.r,.l,.r,.l] nn ⟨lk [(0,(.lst false 3 y0 y1)),(1,(.lst false 3 y2 y3)),(5,(.sc (.int .i64 y4)))],Fx []⟩
theorem Ft (fu:Nat)(call:Ai)(Ap:Nat)(a0:List PV)(He:Nat)(a1:List PV)(nn y0:Nat)(y1:List PV)(y2:Nat)(y3:List PV)(y4:Int):C8 fu call Ap a0 He a1 (nn+1) y0 y1 y2 y3 y4=(Bd (decide (y4<(↑y0:Int))) (An (decide (0<=y4)&&decide (y4<(↑y0:Int)))<|E2 (List.getD y1 (Int.toNat y4*3) .top) fun x1=>E2 (List.getD y1 (Int.toNat y4*3+1) .top) fun x2=>Ca 11 (List.getD y1 (Int.toNat y4*3+1+1) .top) fun x3 x4 x5=>An (decide (0<=y4)&&decide (y4<(↑y2:Int)))<|E2 (List.getD y3 (Int.toNat y4*3) .top) fun x6=>E2 (List.getD y3 (Int.toNat y4*3+1) .top) fun x7=>Ca 11 (List.getD y3 (Int.toNat y4*3+1+1) .top) fun x8 x9 Ia=>Af (call 42 [.agg [.sc (.string x1),.sc (.string x2),.lst false 11 x4 x5],.agg [.sc (.string x6),.sc (.string x7),.lst false 11 x9 Ia]]) fun H6 H7=>Ac H7<|Aa H6 fun L8 La=>Av L8 fun K9=>Ac La<|Bd (!K9) (some (A2.mk [.sc (.bool false)] [])) (Ab (wrap .i64 (y4+1)) fun Nk=>C8 fu call Ap a0 He a1 (nn) (y0) (y1) (y2) (y3) Nk)) (some (A2.mk [.sc (.bool true)] []))):=by kernel_rfl
theorem Mk (fu d Ap:Nat)(a0:List PV)(He:Nat)(a1:List PV):Ag C0 prog fu (d+1) Gp [.lst false 3 Ap a0,.lst false 3 He a1]=(fun (call:Ai)=>Bd ((↑Ap:Int) != (↑He:Int)) (some (A2.mk [.sc (.bool false)] [])) (C8 fu call Ap a0 He a1 (fu) (Ap) (a0) (He) (a1) 0)) (Ag C0 prog fu d):=by kernel_rfl
end
section
open Go.Proofs.Try (prog)
open Go.IntKind (wrap)
set_option maxRecDepth 100000
theorem Sd.ok.sm {c:Sd}(h:c.ok):c.sm:=⟨h.idL,h.rgn⟩
theorem Cw.ok.sm {a:Cw}(h:a.ok):a.sm:=⟨h.cn,fun c hc=>(h.cs c hc).sm⟩
section
variable {fu d:Nat}
theorem Abn {n0 n1:Nat}{c0 c1:List PV}{call:Ai}{id:List Int}{cr:List Sd}(hl:cr.length<=100000):∀(r:List Sd)(i nn:Nat),cr.drop i=r->r.length<nn->i<=cr.length ->
  Fb fu call n0 c0 n1 c1 nn cr.length (Cg cr) id.length (Am .u8 id) (i:Int)=some ⟨Gs (KO id i r),[]⟩:=by
 intro r
 induction r with
 |nil=>
  intro i nn hd Dy hi;have:=drop_nil hd;obtain⟨nn,rfl⟩:∃k,nn=k+1:=⟨nn-1,by omega⟩
  rw[Jb];simp (disch:=omega) only[Ea];rfl
 |cons x r ih=>
  intro i nn hd Dy hi;obtain⟨Bp,Bu,hd'⟩:=C3 hd;obtain⟨nn,rfl⟩:∃k,nn=k+1:=⟨nn-1,by omega⟩
  rw[Jb];have g0:(Cg cr).getD (i*11+0) .top=.lst false 1 x.id.length (Am .u8 x.id):=Cy Bu (j:=0) (by omega)
  have n1:Int.toNat (i:Int)=i:=Rq _;have w1:wrap .i64 ((i:Int)+1)=((i+1:Nat):Int):=by rw[wrap_i64 (by omega) (by omega)];omega
  have l1:=A0 .u8 x.id;have l2:=A0 .u8 id;have b1:=El x.id;have b2:=El id;have eB:(Array.toList (ByteArray.data (ByteArray.mk (List.toArray (x.id.map fun n:Int=>n.toNat.toUInt8))))==Array.toList (ByteArray.data (ByteArray.mk (List.toArray (id.map fun n:Int=>n.toNat.toUInt8)))))=QM x.id id:=rfl
  unfold KO;cases h:QM x.id id
  ·rw[Ms (by simp)]
   rw[h] at eB;have q:=ih (i+1) nn hd' (by simp at Dy;omega) (by omega)
   simp (disch:=omega) only[Ea,n1,g0,l1,l2,b1,b2,eB,w1,q]
  ·rw[J7 rfl];rw[h] at eB;simp (disch:=omega) only[Ea,n1,g0,l1,l2,b1,b2,eB,Gs]
theorem LC {id:List Int}{cr:List Sd}(hl:cr.length<=100000)(B2:cr.length<fu):
  Ag C0 prog fu (d+1) L4 [.lst false 11 cr.length (Cg cr),.lst false 1 id.length (Am .u8 id)]=some ⟨Gs (KO id 0 cr),[]⟩:=by
 rw[Uh];exact Abn hl cr 0 fu rfl B2 (by omega)
theorem ZL {n0 n1:Nat}{c0 c1:List PV}{id:List Int}{l:List Cw}(hl:l.length<=100000)(hs:∀a∈l,a.cr.length<=1000)(B2:2000<=fu):∀(r:List Cw)(i nn:Nat),l.drop i=r->r.length<nn->i<=l.length ->
  Ew fu (Ag C0 prog fu (d+1)) n0 c0 n1 c1 nn l.length (Az l) id.length (Am .u8 id) (i:Int)=some ⟨JK (X1 id i r),[]⟩:=by
 intro r
 induction r with
 |nil=>
  intro i nn hd Dy hi;have:=drop_nil hd;obtain⟨nn,rfl⟩:∃k,nn=k+1:=⟨nn-1,by omega⟩
  rw[Is];simp (disch:=omega) only[Ea];rfl
 |cons a r ih=>
  intro i nn hd Dy hi;obtain⟨Bp,Bu,hd'⟩:=C3 hd;obtain⟨nn,rfl⟩:∃k,nn=k+1:=⟨nn-1,by omega⟩
  rw[Is];have g2:(Az l).getD (i*3+2) .top=.lst false 11 a.cr.length (Cg a.cr):=Fd Bu (j:=2) (by omega)
  have n1:Int.toNat (i:Int)=i:=Rq _;have w1:wrap .i64 ((i:Int)+1)=((i+1:Nat):Int):=by rw[wrap_i64 (by omega) (by omega)];omega
  have ha:=hs a (List.mem_of_getElem? Bu);have eq:=LC (fu:=fu) (d:=d) (id:=id) (cr:=a.cr) (by omega) (by omega)
  unfold X1;cases h:KO id 0 a.cr with
  |none=>
   rw[h] at eq;simp only[Gs] at eq;have q:=ih (i+1) nn hd' (by simp at Dy;omega) (by omega)
   simp (disch:=omega) only[Ea,n1,g2,eq,w1,q]
  |some k=>
   rw[h] at eq;simp only[Gs] at eq;simp (disch:=omega) only[Ea,n1,g2,eq,JK]
theorem XD {id:List Int}{l:List Cw}(hl:l.length<=1000)(hs:∀a∈l,a.cr.length<=1000)(B2:2000<=fu):Ag C0 prog fu (d+2) K5 [.lst false 3 l.length (Az l),.lst false 1 id.length (Am .u8 id)]=some ⟨JK (X1 id 0 l),[]⟩:=by
 rw[Sq];exact ZL (by omega) hs B2 l 0 fu rfl (by omega) (by omega)
theorem JW {l:List Cw}{i:Nat}{a:Cw}{cr:List Sd}(hl:l.length<=1000)(hi:l[i]?=some a):Ag C0 prog fu (d+1) Lx [.lst false 3 l.length (Az l),.sc (.int .i64 i),.lst false 11 cr.length (Cg cr)]=some ⟨[.lst false 3 l.length (Az (l.set i { a with cr:=cr }))],[]⟩:=by
 have Bp:=H4 hi;have L:=Lj l;have L2:=Lj (l.set i { a with cr:=cr });rw[List.length_set] at L2;have n1:Int.toNat (i:Int)=i:=Rq _
 have s:Bl (Az l) [PV.lst false 11 cr.length (Cg cr)] (0+i*3+2)=Az (l.set i { a with cr:=cr }):=by
  rw[Cm,Vw (by omega)]
  exact LW (f:=Cw.cells) (k:=3) (fun _=>rfl) (p:=.lst false 11 cr.length (Cg cr)) (j:=2) (by omega) (x:=a) (y:={ a with cr:=cr }) hi rfl
 have t:List.take (l.length*3) (Az (l.set i { a with cr:=cr }))=Az (l.set i { a with cr:=cr }):=Ha (by omega)
 have c1:(decide (List.length (Az l)=l.length*3)&&decide (l.length*56<=1099511627776)&&decide (l.length<=1099511627776))=true:=by simp[L];omega
 rw[Uj];simp (disch:=omega) only[Ea,c1,n1,s,L2,t,Cl]
theorem Ajr {l:List Cw}{nm us:ByteArray}{x:Sd}(hl:l.length<=1000)(hs:∀a∈l,a.cr.length<=1000)(B2:2000<=fu):
  Ag C0 prog fu (d+3) J8 [.lst false 3 l.length (Az l),.sc (.string nm),.sc (.string us),.agg x.cells]=some (O9 (AL l nm us x)):=by
 refine (R2 fu (d+2) l.length (Az l) nm us x.id.length (Am .u8 x.id) x.ht x.root x.model x.fmt x.sh x.used x.rg.length (H5 x.rg) x.sus x.since x.last).trans ?_;have f:=S8 (fu:=fu) (d:=d+1) (l:=l) (nm:=nm) (by omega) (by omega)
 have o:=XD (fu:=fu) (d:=d) (id:=x.id) hl hs B2;have wi:=SQ (fu:=fu) (d:=d+1) (nm.size:Int) 1 32;have L:=Lj l;have L1:=A0 .u8 x.id;unfold AL;simp only[Gs,JK] at f o;by_cases c1:nm.size<1∨32<nm.size
 ·have e:(decide ((1:Int)<=nm.size)&&decide ((nm.size:Int)<=32))=false:=by simp;omega
  rw[e] at wi;rw[J7 c1];cases h1:X9 nm 0 l<;>rw[h1] at f<;>cases h2:X1 x.id 0 l<;>rw[h2] at o<;>simp only at f o
  all_goals
   try unfold Ab
   repeat first
    |((with_reducible first|apply A8|apply Aw|apply A5|apply Ay|apply Bh|apply B7|apply D1|apply Ax|apply A9|apply A7);· first|with_reducible rfl|(simp (disch:=omega) only[gT,f,o,wi,O0]<;>first|with_reducible rfl|omega)|omega)
    |(with_reducible apply A6;· first|with_reducible rfl|(simp (disch:=omega) only[gF,f,o,wi,O0]<;>omega))
   try simp (disch:=omega) only[f,o,wi,O0]
   rfl
 have e:(decide ((1:Int)<=nm.size)&&decide ((nm.size:Int)<=32))=true:=by simp;omega
 rw[e] at wi;rw[Ms c1];by_cases c2:x.id.length≠176
 ·have e2:((x.id.length:Int) != 176)=true:=by simp;omega
  rw[J7 c2];cases h1:X9 nm 0 l<;>rw[h1] at f<;>cases h2:X1 x.id 0 l<;>rw[h2] at o<;>simp only at f o
  all_goals
   try unfold Ab
   repeat first
    |((with_reducible first|apply A8|apply Aw|apply A5|apply Ay|apply Bh|apply B7|apply D1|apply Ax|apply A9|apply A7);· first|with_reducible rfl|(simp (disch:=omega) only[gT,f,o,wi,Rt,e2]<;>first|with_reducible rfl|omega)|omega)
    |(with_reducible apply A6;· first|with_reducible rfl|(simp (disch:=omega) only[gF,f,o,wi,Rt,e2]<;>omega))
   try simp (disch:=omega) only[f,o,wi,Rt,e2]
   rfl
 have e2:((x.id.length:Int) != 176)=false:=by simp;omega
 rw[Ms c2];cases h2:X1 x.id 0 l with
 |some z=>
  rw[h2] at o;obtain⟨z1,z2⟩:=z;rw[J7 (show (some (z1,z2)).isSome=true from rfl)]
  cases h1:X9 nm 0 l<;>rw[h1] at f<;>simp only at f o
  all_goals
   try unfold Ab
   repeat first
    |((with_reducible first|apply A8|apply Aw|apply A5|apply Ay|apply Bh|apply B7|apply D1|apply Ax|apply A9|apply A7);· first|with_reducible rfl|(simp (disch:=omega) only[gT,f,o,wi,Rt,e2]<;>first|with_reducible rfl|omega)|omega)
    |(with_reducible apply A6;· first|with_reducible rfl|(simp (disch:=omega) only[gF,f,o,wi,Rt,e2]<;>omega))
   try simp (disch:=omega) only[f,o,wi,Rt,e2]
   rfl
 |none=>
  rw[h2] at o;rw[Ms (show ¬(none:Option (Nat × Nat)).isSome=true by simp)]
  cases h1:X9 nm 0 l with
  |none=>
   rw[h1] at f;simp only at f o;dsimp only;by_cases c3:16<=l.length
   ·rw[J7 c3]
    try unfold Ab
    repeat first
     |((with_reducible first|apply A8|apply Aw|apply A5|apply Ay|apply Bh|apply B7|apply D1|apply Ax|apply A9|apply A7);· first|with_reducible rfl|(simp (disch:=omega) only[gT,f,o,wi,Rt,O0,e2]<;>first|with_reducible rfl|omega)|omega)
     |(with_reducible apply A6;· first|with_reducible rfl|(simp (disch:=omega) only[gF,f,o,wi,Rt,O0,e2]<;>omega))
    try simp (disch:=omega) only[f,o,wi,Rt,O0,e2]
    rfl
   ·rw[Ms c3];have hc:(decide (List.length (Az l)=l.length*3)&&decide (l.length*56<=1099511627776)&&decide (l.length<=1099511627776))=true:=by simp[L];omega
    have t:=Ha (l:=Az l) (i:=l.length*3) (by omega)
    have ea:Az l++[PV.sc (.string nm),PV.sc (.string us),PV.lst false 11 1 [PV.lst false 1 x.id.length (Am .u8 x.id),.sc (.int .i64 x.ht),.sc (.int .u64 x.root),.sc (.int .u64 x.model),.sc (.int .i64 x.fmt),.sc (.bool x.sh),.sc (.int .u64 x.used),PV.lst false 2 x.rg.length (H5 x.rg),.sc (.bool x.sus),.sc (.int .i64 x.since),.sc (.int .i64 x.last)]]=Az (l++[⟨nm,us,[x]⟩]):=by
     unfold Az;rw[List.flatMap_append];simp[Cw.cells,Cg,Sd.cells]
    have L2:=Lj (l++[⟨nm,us,[x]⟩]);have l1:(l++[(⟨nm,us,[x]⟩:Cw)]).length=l.length+1:=by simp
    rw[l1] at L2;have t2:=Ha (l:=Az (l++[⟨nm,us,[x]⟩])) (i:=(l.length+1)*3) (by omega)
    try unfold Ab
    repeat first
     |((with_reducible first|apply A8|apply Aw|apply A5|apply Ay|apply Bh|apply B7|apply D1|apply Ax|apply A9|apply A7);· first|with_reducible rfl|(simp (disch:=omega) only[gT,f,o,wi,Rt,O0,e2,hc,t,ea,L2,t2,Cl]<;>first|with_reducible rfl|omega)|omega)
     |(with_reducible apply A6;· first|with_reducible rfl|(simp (disch:=omega) only[gF,f,o,wi,Rt,O0,e2,hc,t,ea,L2,t2,Cl]<;>omega))
    try simp (disch:=omega) only[f,o,wi,Rt,O0,e2,hc,t,ea,L2,t2,Cl]
    unfold O9;rw[l1]
  |some i=>
   rw[h1] at f;obtain⟨_,RS,a,h3,_⟩:=Qy h1;rw[Nat.sub_zero] at h3;have hi:=H4 h3;have ha:=hs a (List.mem_of_getElem? h3);have g2:(Az l).getD (i*3+2) .top=.lst false 11 a.cr.length (Cg a.cr):=Fd h3 (j:=2) (by omega)
   have n1:Int.toNat (i:Int)=i:=Rq _;simp only at f o;dsimp only;rw[h3];dsimp only;by_cases c3:4<=a.cr.length
   ·rw[J7 c3]
    try unfold Ab
    repeat first
     |((with_reducible first|apply A8|apply Aw|apply A5|apply Ay|apply Bh|apply B7|apply D1|apply Ax|apply A9|apply A7);· first|with_reducible rfl|(simp (disch:=omega) only[gT,f,o,wi,Rt,O0,e2,n1,g2]<;>first|with_reducible rfl|omega)|omega)
     |(with_reducible apply A6;· first|with_reducible rfl|(simp (disch:=omega) only[gF,f,o,wi,Rt,O0,e2,n1,g2]<;>omega))
    try simp (disch:=omega) only[f,o,wi,Rt,O0,e2,n1,g2]
    rfl
   ·rw[Ms c3];have L3:=G6 a.cr;have hc:(decide (List.length (Cg a.cr)=a.cr.length*11)&&decide (a.cr.length*120<=1099511627776)&&decide (a.cr.length<=1099511627776))=true:=by simp[L3];omega
    have t:=Ha (l:=Cg a.cr) (i:=a.cr.length*11) (by omega)
    have ea:Cg a.cr++[PV.lst false 1 x.id.length (Am .u8 x.id),.sc (.int .i64 x.ht),.sc (.int .u64 x.root),.sc (.int .u64 x.model),.sc (.int .i64 x.fmt),.sc (.bool x.sh),.sc (.int .u64 x.used),PV.lst false 2 x.rg.length (H5 x.rg),.sc (.bool x.sus),.sc (.int .i64 x.since),.sc (.int .i64 x.last)]=Cg (a.cr++[x]):=by
     unfold Cg;rw[List.flatMap_append];simp[Sd.cells]
    have L2:=G6 (a.cr++[x]);have l1:(a.cr++[x]).length=a.cr.length+1:=by simp
    rw[l1] at L2;have t2:=Ha (l:=Cg (a.cr++[x])) (i:=(a.cr.length+1)*11) (by omega)
    have w:=JW (fu:=fu) (d:=d+1) (cr:=a.cr++[x]) hl h3;rw[l1] at w
    try unfold Ab
    repeat first
     |((with_reducible first|apply A8|apply Aw|apply A5|apply Ay|apply Bh|apply B7|apply D1|apply Ax|apply A9|apply A7);· first|with_reducible rfl|(simp (disch:=omega) only[gT,f,o,wi,Rt,O0,e2,n1,g2,hc,t,ea,L2,t2,Cl,w]<;>first|with_reducible rfl|omega)|omega)
     |(with_reducible apply A6;· first|with_reducible rfl|(simp (disch:=omega) only[gF,f,o,wi,Rt,O0,e2,n1,g2,hc,t,ea,L2,t2,Cl,w]<;>omega))
    try simp (disch:=omega) only[f,o,wi,Rt,O0,e2,n1,g2,hc,t,ea,L2,t2,Cl,w]
    unfold O9;rw[List.length_set]
theorem Ain {l:List Cw}{nm:ByteArray}{x:Sd}(hl:l.length<=1000)(hs:∀a∈l,a.cr.length<=1000)(B2:2000<=fu):
  Ag C0 prog fu (d+3) I4 [.lst false 3 l.length (Az l),.sc (.string nm),.agg x.cells]=some (O9 (FZ l nm x)):=by
 refine (Re fu (d+2) l.length (Az l) nm x.id.length (Am .u8 x.id) x.ht x.root x.model x.fmt x.sh x.used x.rg.length (H5 x.rg) x.sus x.since x.last).trans ?_;have f:=S8 (fu:=fu) (d:=d+1) (l:=l) (nm:=nm) (by omega) (by omega)
 have L:=Lj l;unfold FZ MX;cases h1:X9 nm 0 l with
 |none=>
  rw[h1] at f;simp only[Gs] at f
  try unfold Ab
  repeat first
   |((with_reducible first|apply A8|apply Aw|apply A5|apply Ay|apply Bh|apply B7|apply D1|apply Ax|apply A9|apply A7);· first|with_reducible rfl|(simp (disch:=omega) only[gT,f,O0]<;>first|with_reducible rfl|omega)|omega)
   |(with_reducible apply A6;· first|with_reducible rfl|(simp (disch:=omega) only[gF,f,O0]<;>omega))
  try simp (disch:=omega) only[f,O0]
  rfl
 |some i=>
  rw[h1] at f;obtain⟨_,RS,a,h3,_⟩:=Qy h1;rw[Nat.sub_zero] at h3;have hi:=H4 h3;have ha:=hs a (List.mem_of_getElem? h3);have g2:(Az l).getD (i*3+2) .top=.lst false 11 a.cr.length (Cg a.cr):=Fd h3 (j:=2) (by omega)
  have n1:Int.toNat (i:Int)=i:=Rq _;have kp:=LC (fu:=fu) (d:=d+1) (id:=x.id) (cr:=a.cr) (by omega) (by omega)
  simp only[Gs] at f;dsimp only;rw[h3];dsimp only;cases hp:KO x.id 0 a.cr with
  |none=>
   rw[hp] at kp;simp only[Gs] at kp
   try unfold Ab
   repeat first
    |((with_reducible first|apply A8|apply Aw|apply A5|apply Ay|apply Bh|apply B7|apply D1|apply Ax|apply A9|apply A7);· first|with_reducible rfl|(simp (disch:=omega) only[gT,f,Rt,O0,n1,g2,kp]<;>first|with_reducible rfl|omega)|omega)
    |(with_reducible apply A6;· first|with_reducible rfl|(simp (disch:=omega) only[gF,f,Rt,O0,n1,g2,kp]<;>omega))
   try simp (disch:=omega) only[f,Rt,O0,n1,g2,kp]
   rfl
  |some k=>
   rw[hp] at kp;simp only[Gs] at kp;have hk:=(KL hp).2;have L3:=G6 a.cr;have nk:Int.toNat (k:Int)=k:=Rq _;have hc:(decide (List.length (Cg a.cr)=a.cr.length*11)&&decide (a.cr.length*120<=1099511627776)&&decide (a.cr.length<=1099511627776))=true:=by simp[L3];omega
   have L2:=G6 (a.cr.set k x);rw[List.length_set] at L2
   have sp:Bl (Cg a.cr) [PV.lst false 1 x.id.length (Am .u8 x.id),.sc (.int .i64 x.ht),.sc (.int .u64 x.root),.sc (.int .u64 x.model),.sc (.int .i64 x.fmt),.sc (.bool x.sh),.sc (.int .u64 x.used),PV.lst false 2 x.rg.length (H5 x.rg),.sc (.bool x.sus),.sc (.int .i64 x.since),.sc (.int .i64 x.last)] (0+k*11)=Cg (a.cr.set k x):=by
    rw[Cm,List.set_eq_take_append_cons_drop,J7 (by omega)]
    unfold Bl Cg;rw[List.flatMap_append,List.flatMap_cons];have q1:=Qv (f:=Sd.cells) (k:=11) (fun _=>rfl) a.cr k
    have q2:=Ol (f:=Sd.cells) (k:=11) (fun _=>rfl) a.cr (k+1)
    rw[q1,←q2];simp only[Sd.cells,Zzv,SV,Dg]
    congr 3
    omega
   have t2:=Ha (l:=Cg (a.cr.set k x)) (i:=a.cr.length*11) (by omega)
   have w:=JW (fu:=fu) (d:=d+1) (cr:=a.cr.set k x) hl h3;rw[List.length_set] at w
   try unfold Ab
   repeat first
    |((with_reducible first|apply A8|apply Aw|apply A5|apply Ay|apply Bh|apply B7|apply D1|apply Ax|apply A9|apply A7);· first|with_reducible rfl|(simp (disch:=omega) only[gT,f,Rt,O0,n1,nk,g2,kp,hc,sp,L2,t2,Cl,w]<;>first|with_reducible rfl|omega)|omega)
    |(with_reducible apply A6;· first|with_reducible rfl|(simp (disch:=omega) only[gF,f,Rt,O0,n1,nk,g2,kp,hc,sp,L2,t2,Cl,w]<;>omega))
   try simp (disch:=omega) only[f,Rt,O0,n1,nk,g2,kp,hc,sp,L2,t2,Cl,w]
   unfold O9;rw[List.length_set]
theorem Ah0 {l:List Cw}{nm:ByteArray}{id:List Int}(hl:l.length<=1000)(hs:∀a∈l,a.cr.length<=1000)(B2:2000<=fu):
  Ag C0 prog fu (d+3) J6 [.lst false 3 l.length (Az l),.sc (.string nm),.lst false 1 id.length (Am .u8 id)]=some (O9 (FS l nm id)):=by
 rw[R5];have f:=S8 (fu:=fu) (d:=d+1) (l:=l) (nm:=nm) (by omega) (by omega)
 have L:=Lj l;unfold FS MX;cases h1:X9 nm 0 l with
 |none=>
  rw[h1] at f;simp only[Gs] at f
  try unfold Ab
  repeat first
   |((with_reducible first|apply A8|apply Aw|apply A5|apply Ay|apply Bh|apply B7|apply D1|apply Ax|apply A9|apply A7);· first|with_reducible rfl|(simp (disch:=omega) only[gT,f,O0]<;>first|with_reducible rfl|omega)|omega)
   |(with_reducible apply A6;· first|with_reducible rfl|(simp (disch:=omega) only[gF,f,O0]<;>omega))
  try simp (disch:=omega) only[f,O0]
  rfl
 |some i=>
  rw[h1] at f;obtain⟨_,RS,a,h3,_⟩:=Qy h1;rw[Nat.sub_zero] at h3;have hi:=H4 h3;have ha:=hs a (List.mem_of_getElem? h3);have g2:(Az l).getD (i*3+2) .top=.lst false 11 a.cr.length (Cg a.cr):=Fd h3 (j:=2) (by omega)
  have n1:Int.toNat (i:Int)=i:=Rq _;have kp:=LC (fu:=fu) (d:=d+1) (id:=id) (cr:=a.cr) (by omega) (by omega)
  simp only[Gs] at f;dsimp only;rw[h3];dsimp only;cases hp:KO id 0 a.cr with
  |none=>
   rw[hp] at kp;simp only[Gs] at kp
   try unfold Ab
   repeat first
    |((with_reducible first|apply A8|apply Aw|apply A5|apply Ay|apply Bh|apply B7|apply D1|apply Ax|apply A9|apply A7);· first|with_reducible rfl|(simp (disch:=omega) only[gT,f,Rt,O0,n1,g2,kp]<;>first|with_reducible rfl|omega)|omega)
    |(with_reducible apply A6;· first|with_reducible rfl|(simp (disch:=omega) only[gF,f,Rt,O0,n1,g2,kp]<;>omega))
   try simp (disch:=omega) only[f,Rt,O0,n1,g2,kp]
   rfl
  |some k=>
   rw[hp] at kp;simp only[Gs] at kp;have hk:=(KL hp).2;have L3:=G6 a.cr;have nk:Int.toNat (k:Int)=k:=Rq _;have nk1:Int.toNat ((k:Int)+1)=k+1:=by omega
   have w1:wrap .i64 ((k:Int)+1)=(k:Int)+1:=wrap_i64 (by omega) (by omega)
   have q1:=Qv (f:=Sd.cells) (k:=11) (fun _=>rfl) a.cr k
   have q2:=Ol (f:=Sd.cells) (k:=11) (fun _=>rfl) a.cr (k+1)
   have eE:Cg (a.cr.eraseIdx k)=(Cg a.cr).take (k*11)++(Cg a.cr).drop ((k+1)*11):=by
    rw[List.eraseIdx_eq_take_drop_succ];unfold Cg;rw[List.flatMap_append,q1,q2]
   have lE:(a.cr.eraseIdx k).length=a.cr.length-1:=by rw[List.length_eraseIdx,J7 (by omega)]
   have L2:=G6 (a.cr.eraseIdx k);rw[lE] at L2;have w:=JW (fu:=fu) (d:=d+1) (cr:=a.cr.eraseIdx k) hl h3;rw[lE] at w;have s1:k-0=k:=Nat.sub_zero _;have T1:((Cg a.cr).take (k*11)).length=k*11:=by rw[List.length_take];omega
   have T2:List.take (k*11) ((Cg a.cr).take (k*11))=(Cg a.cr).take (k*11):=Ha (by omega)
   have T3:((Cg a.cr).drop ((k+1)*11)).length=(a.cr.length-(k+1))*11:=by rw[List.length_drop,L3];omega
   have T4:List.take ((a.cr.length-(k+1))*11) ((Cg a.cr).drop ((k+1)*11))=(Cg a.cr).drop ((k+1)*11):=Ha (by omega)
   have s2:k+(a.cr.length-(k+1))=a.cr.length-1:=by omega
   have t2:=Ha (l:=Cg (a.cr.eraseIdx k)) (i:=(a.cr.length-1)*11) (by omega)
   have Z1:(decide (k*11=k*11)&&decide (k*120<=1099511627776)&&decide (k<=1099511627776))=true:=by simp;omega
   have hc2:(decide (k+1<=a.cr.length)&&decide (a.cr.length<=a.cr.length))=true:=by simp;omega
   have hc3:(decide (k*11<=k*11)&&decide ((a.cr.length-(k+1))*11=(a.cr.length-(k+1))*11)&&decide ((a.cr.length-1)*120<=1099511627776)&&decide (a.cr.length-1<=1099511627776))=true:=by simp;omega
   rw[eE] at L2 t2 w
   try unfold Ab
   repeat first
    |((with_reducible first|apply A8|apply Aw|apply A5|apply Ay|apply Bh|apply B7|apply D1|apply Ax|apply A9|apply A7);· first|with_reducible rfl|(simp (disch:=omega) only[gT,f,Rt,O0,n1,nk,nk1,w1,g2,kp,s1,s2,T1,T2,T3,T4,Z1,hc2,hc3,L2,t2,Cl,w]<;>first|with_reducible rfl|omega)|omega)
    |(with_reducible apply A6;· first|with_reducible rfl|(simp (disch:=omega) only[gF,f,Rt,O0,n1,nk,nk1,w1,g2,kp,s1,s2,T1,T2,T3,T4,Z1,hc2,hc3,L2,t2,Cl,w]<;>omega))
   try simp (disch:=omega) only[f,Rt,O0,n1,nk,nk1,w1,g2,kp,s1,s2,T1,T2,T3,T4,Z1,hc2,hc3,L2,t2,Cl,w]
   unfold O9;rw[List.length_set]
theorem UN {nm us nm' us':ByteArray}{n0 n1:Nat}{c0 c1:List PV}{cr:List Sd}(hl:cr.length<=1000)(Kp:∀c∈cr,c.ok)(B2:2000<=fu)(y1 y2 y5 y6:ByteArray):∀(r:List Sd)(i nn:Nat),cr.drop i=r->r.length<nn->i<=cr.length ->
  Dh fu (Ag C0 prog fu (d+2)) nm us n0 c0 nm' us' n1 c1 nn (i:Int) y1 y2 cr.length (Cg cr) y5 y6 cr.length (Cg cr)=some ⟨[.sc (.bool true)],[]⟩:=by
 intro r
 induction r with
 |nil=>
  intro i nn hd Dy hi;have:=drop_nil hd;obtain⟨nn,rfl⟩:∃k,nn=k+1:=⟨nn-1,by omega⟩
  rw[Fz];simp (disch:=omega) only[Ea]
 |cons x r ih=>
  intro i nn hd Dy hi;obtain⟨Bp,Bu,hd'⟩:=C3 hd;obtain⟨nn,rfl⟩:∃k,nn=k+1:=⟨nn-1,by omega⟩
  rw[Fz];have g0:(Cg cr).getD (i*11) .top=.lst false 1 x.id.length (Am .u8 x.id):=Cy Bu (j:=0) (by omega)
  have g1:(Cg cr).getD (i*11+1) .top=.sc (.int .i64 x.ht):=Cy Bu (j:=1) (by omega)
  have g2:(Cg cr).getD (i*11+1+1) .top=.sc (.int .u64 x.root):=Cy Bu (j:=2) (by omega)
  have g3:(Cg cr).getD (i*11+1+1+1) .top=.sc (.int .u64 x.model):=Cy Bu (j:=3) (by omega)
  have g4:(Cg cr).getD (i*11+1+1+1+1) .top=.sc (.int .i64 x.fmt):=Cy Bu (j:=4) (by omega)
  have g5:(Cg cr).getD (i*11+1+1+1+1+1) .top=.sc (.bool x.sh):=Cy Bu (j:=5) (by omega)
  have g6:(Cg cr).getD (i*11+1+1+1+1+1+1) .top=.sc (.int .u64 x.used):=Cy Bu (j:=6) (by omega)
  have g7:(Cg cr).getD (i*11+1+1+1+1+1+1+1) .top=.lst false 2 x.rg.length (H5 x.rg):=Cy Bu (j:=7) (by omega)
  have g8:(Cg cr).getD (i*11+1+1+1+1+1+1+1+1) .top=.sc (.bool x.sus):=Cy Bu (j:=8) (by omega)
  have g9:(Cg cr).getD (i*11+1+1+1+1+1+1+1+1+1) .top=.sc (.int .i64 x.since):=Cy Bu (j:=9) (by omega)
  have g10:(Cg cr).getD (i*11+1+1+1+1+1+1+1+1+1+1) .top=.sc (.int .i64 x.last):=Cy Bu (j:=10) (by omega)
  have n1:Int.toNat (i:Int)=i:=Rq _;have w1:wrap .i64 ((i:Int)+1)=((i+1:Nat):Int):=by rw[wrap_i64 (by omega) (by omega)];omega
  have ss:=YL (fu:=fu) (d:=d) (Kp x (List.mem_of_getElem? Bu)) B2;simp only[Sd.cells] at ss;have q:=ih (i+1) nn hd' (by simp at Dy;omega) (by omega)
  simp (disch:=omega) only[Ea,n1,g0,g1,g2,g3,g4,g5,g6,g7,g8,g9,g10,ss,Rt,w1,q]
theorem Acv {a:Cw}(ha:a.ok)(B2:2000<=fu):Ag C0 prog fu (d+3) Gw [.agg [.sc (.string a.nm),.sc (.string a.us),.lst false 11 a.cr.length (Cg a.cr)],.agg [.sc (.string a.nm),.sc (.string a.us),.lst false 11 a.cr.length (Cg a.cr)]]=some ⟨[.sc (.bool true)],[]⟩:=by
 rw[M8];have b0:∀l:List UInt8,(!(l==l))=false:=fun l=>by simp
 have b1:((a.cr.length:Int) != (a.cr.length:Int))=false:=by simp
 simp (disch:=omega) only[Ea,b0,b1];exact UN ha.cn ha.cs B2 _ _ _ _ a.cr 0 fu rfl (by have:=ha.cn;omega) (by omega)
theorem OK {n0 n1:Nat}{c0 c1:List PV}{l:List Cw}(hl:l.length<=1000)(Kp:∀a∈l,a.ok)(B2:2000<=fu):∀(r:List Cw)(i nn:Nat),l.drop i=r->r.length<nn->i<=l.length ->
  C8 fu (Ag C0 prog fu (d+3)) n0 c0 n1 c1 nn l.length (Az l) l.length (Az l) (i:Int)=some ⟨[.sc (.bool true)],[]⟩:=by
 intro r
 induction r with
 |nil=>
  intro i nn hd Dy hi;have:=drop_nil hd;obtain⟨nn,rfl⟩:∃k,nn=k+1:=⟨nn-1,by omega⟩
  rw[Ft];simp (disch:=omega) only[Ea]
 |cons a r ih=>
  intro i nn hd Dy hi;obtain⟨Bp,Bu,hd'⟩:=C3 hd;obtain⟨nn,rfl⟩:∃k,nn=k+1:=⟨nn-1,by omega⟩
  rw[Ft];have g0:(Az l).getD (i*3) .top=.sc (.string a.nm):=Fd Bu (j:=0) (by omega)
  have g1:(Az l).getD (i*3+1) .top=.sc (.string a.us):=Fd Bu (j:=1) (by omega)
  have g2:(Az l).getD (i*3+1+1) .top=.lst false 11 a.cr.length (Cg a.cr):=Fd Bu (j:=2) (by omega)
  have n1:Int.toNat (i:Int)=i:=Rq _;have w1:wrap .i64 ((i:Int)+1)=((i+1:Nat):Int):=by rw[wrap_i64 (by omega) (by omega)];omega
  have ss:=Acv (fu:=fu) (d:=d) (Kp a (List.mem_of_getElem? Bu)) B2;have q:=ih (i+1) nn hd' (by simp at Dy;omega) (by omega)
  simp (disch:=omega) only[Ea,n1,g0,g1,g2,ss,Rt,w1,q]
theorem Aaq {l:List Cw}(hl:l.length<=1000)(Kp:∀a∈l,a.ok)(B2:2000<=fu):Ag C0 prog fu (d+4) Gp [.lst false 3 l.length (Az l),.lst false 3 l.length (Az l)]=some ⟨[.sc (.bool true)],[]⟩:=by
 rw[Mk];have b1:((l.length:Int) != (l.length:Int))=false:=by simp
 simp (disch:=omega) only[Ea,b1];exact OK hl Kp B2 l 0 fu rfl (by omega) (by omega)
end
end
end Go.Proofs.Ytcgfahlefkfghaa.Pv
