/-
  The proof of AccountPlays, part 4.
-/
import Derived.Test.YtcgfahlefkfghaaPC
import Derived.Test.YtcgfahlefkfghaaRows
import Derived.Sort.Walk0
set_option linter.unusedSimpArgs false
set_option linter.unusedVariables false
namespace Go.Proofs.Ytcgfahlefkfghaa.Pv
section
open Go.Proofs.Try (prog)
open Go.IntKind (wrap)
section
variable {fu d:Nat} {xs:FuncId->Option (List PV->Option A2)}
theorem Adm {x k:Int}(hk:k=13∨k=16∨k=17∨k=21∨k=32):Ag (CX xs) prog fu (d+1) Lz [.sc (.int .u64 x),.sc (.int .i64 k)]=some ⟨[.sc (.int .u64 (rot x k))],[]⟩:=by
 rw[Ug];rcases hk with rfl|rfl|rfl|rfl|rfl<;>kernel_rfl
theorem Ae4 {x k:Int}(hk:k=13∨k=16∨k=17∨k=21∨k=32):Ag (CX xs) prog fu (d+1) Mw [.sc (.int .u64 x),.sc (.int .u64 k)]=some ⟨[.sc (.int .u64 (rot x k))],[]⟩:=by
 rw[Vc];rcases hk with rfl|rfl|rfl|rfl|rfl<;>kernel_rfl
theorem AB {a0 a1 a2 a3 a4:Int}:∀(k i nn:Nat)(v:W4),k<nn->i+k<=100 ->
  Ei fu (Ag (CX xs) prog fu (d+1)) a0 a1 a2 a3 a4 nn ((i+k:Nat):Int) i v.a v.b v.c v.d=some ⟨[],[(TY k v).cells]⟩
 |_,_,0,_,h,_=>by omega
 |0,i,nn+1,v,h,hi=>by
  rw[Hv,Vv _ _ _ (by omega)]
  rfl
 |k+1,i,nn+1,v,h,hi=>by
  have ih:=AB (a0:=a0) (a1:=a1) (a2:=a2) (a3:=a3) (a4:=a4) k (i+1) nn (FO v) (by omega) (by omega)
  have w:wrap .i64 ((i:Int)+1)=((i+1:Nat):Int):=by rw[wrap_i64 (by omega) (by omega)];omega
  have r13:=fun x=>Adm (xs:=xs) (fu:=fu) (d:=d) (x:=x) (k:=13) (by simp)
  have r16:=fun x=>Adm (xs:=xs) (fu:=fu) (d:=d) (x:=x) (k:=16) (by simp)
  have r17:=fun x=>Adm (xs:=xs) (fu:=fu) (d:=d) (x:=x) (k:=17) (by simp)
  have r21:=fun x=>Adm (xs:=xs) (fu:=fu) (d:=d) (x:=x) (k:=21) (by simp)
  have r32:=fun x=>Adm (xs:=xs) (fu:=fu) (d:=d) (x:=x) (k:=32) (by simp)
  rw[Hv];simp (disch:=omega) only[Ea,r13,r16,r17,r21,r32,w];rw[show i+(k+1)=i+1+k by omega]
  exact ih
theorem IB (k:Nat)(hk:k<=4)(B2:100<=fu)(v:W4):Ag (CX xs) prog fu (d+2) J9 [.pbox [.sc (.int .u64 v.a),.sc (.int .u64 v.b),.sc (.int .u64 v.c),.sc (.int .u64 v.d)],.sc (.int .i64 k)]=some ⟨[],[(TY k v).cells]⟩:=by
 rw[R7];have:=AB (xs:=xs) (fu:=fu) (d:=d) (a0:=v.a) (a1:=v.b) (a2:=v.c) (a3:=v.d) (a4:=k) k 0 fu v (by omega) (by omega)
 rw[Cn] at this;exact this
theorem IW (B2:100<=fu)(v:W4)(m:Int):Ag (CX xs) prog fu (d+3) Kb [.pbox [.sc (.int .u64 v.a),.sc (.int .u64 v.b),.sc (.int .u64 v.c),.sc (.int .u64 v.d)],.sc (.int .u64 m)]=some ⟨[],[(Pi v m).cells]⟩:=by
 rw[R6];have r2:=IB (xs:=xs) (fu:=fu) (d:=d) 2 (by omega) B2 ⟨v.a,v.b,v.c,Dv .u64 v.d m⟩
 have e2:((2:Nat):Int)=2:=rfl;rw[e2] at r2;unfold Pi;generalize TY 2 ⟨v.a,v.b,v.c,Dv .u64 v.d m⟩=R at r2 ⊢;simp only[W4.cells] at r2;simp only[Ea,r2];rfl
theorem A9p {a b:Int}{k:Nat}(hk:k<8)(ha:0<=a)(ha':a<((2 ^ (8*k):Nat):Int)) (hb:0<=b)(Hh:b<=255):BH .u64 a (Jv .u64 b (8*(k:Int)))=a+((2 ^ (8*k):Nat):Int)*b:=by
 obtain⟨n,rfl⟩:=Int.eq_ofNat_of_zero_le hb;have e:(8*(k:Int)).toNat=8*k:=by omega
 have hp:n*2 ^ (8*k)<=255*2 ^ (8*k):=Nat.mul_le_mul_right _ (by omega)
 have h56:2 ^ (8*k)<=2 ^ 56:=Nat.pow_le_pow_right (by omega) (by omega)
 have e56:(2:Nat) ^ 56=72057594037927936:=by decide
 rw[e56] at h56;generalize hP:2 ^ (8*k)=p at *
 have A5f:n*p<=255*p:=hp
 have hs:Jv .u64 (n:Int) (8*(k:Int))=(n:Int)*((2 ^ (8*(k:Int)).toNat:Nat):Int):=XG (by omega) (by omega) (by omega) (by
  rw[e,hP];have:((n*p:Nat):Int)<=((255*p:Nat):Int):=by omega
  rw[←Int.natCast_mul];omega)
 rw[hs,e,hP]
 have:=(LD (a:=a) (c:=((n*p:Nat):Int)) (8*k) n ha (by rw[hP];exact ha') (by rw[hP]) (by
  have:((n*p:Nat):Int)<=((255*p:Nat):Int):=by omega
  omega)).1
 rw[←Int.natCast_mul,this,Int.mul_comm ((p:Nat):Int),←Int.natCast_mul]
theorem Ati (k:Nat):((2 ^ (8*k):Nat):Int)=256 ^ k:=by
 rw[Nat.pow_mul];simp
theorem Zx {call:Ai}{n:Nat}{c:List PV}{l:List Int}(hb:T8 l)(hl:l.length<=8):∀(r:List Int)(i nn:Nat),l.drop i=r->r.length<nn->i<=l.length ->
  Hb fu call n c nn (Pq (l.take i)) l.length (Am .u8 l) l.length i=some ⟨[.sc (.int .u64 (Pq l))],[]⟩
 |_,_,0,_,h,_=>by omega
 |[],i,nn+1,h,hn,hi=>by
  have:=drop_nil h;rw[M9,Vv _ _ _ (by omega),G9 (by omega)]
 |b::r,i,nn+1,h,hn,hi=>by
  obtain⟨h1,h2,h3⟩:=C3 h;simp only[TW] at hn;have ih:=Zx (call:=call) (n:=n) (c:=c) hb hl r (i+1) nn h3 (by omega) (by omega)
  have hbb:=hb b (List.mem_of_getElem? h2);have w:wrap .i64 ((i:Int)+1)=((i+1:Nat):Int):=by rw[wrap_i64 (by omega) (by omega)];omega
  have w8:wrap .i64 (8*(i:Int))=8*(i:Int):=wrap_i64 (by omega) (by omega)
  have wb:wrap .u64 b=b:=D8 (by omega) (by omega)
  have Amn:=Qm (l:=l.take i) fun x hx=>hb x (List.mem_of_mem_take hx)
  have htl:(l.take i).length=i:=by rw[List.length_take];omega
  rw[htl] at Amn
  have hj:BH .u64 (Pq (l.take i)) (Jv .u64 b (8*(i:Int)))=Pq (l.take (i+1)):=by
   rw[A9p (by omega) Amn.1 (by rw[Ati];exact Amn.2) hbb.1 hbb.2,List.take_add_one,h2,Ve,htl,Ati]
   simp[Pq]
  rw[M9];simp (disch:=omega) only[Ea,Rq,Ch,ati h2,w,w8,wb,hj];exact ih
theorem HO {l:List Int}(hb:T8 l)(hl:l.length<=8)(B2:100<=fu):Ag (CX xs) prog fu (d+1) Rx [.lst false 1 l.length (Am .u8 l)]=some ⟨[.sc (.int .u64 (Pq l))],[]⟩:=by
 rw[BE];exact Zx hb hl l 0 fu rfl (by omega) (by omega)
theorem IZ (k:IntKind)(l:List Int)(i:Nat):List.drop i (Am k l)=Am k (l.drop i):=by
 have:=On (Xo k) l i
 simpa using this
theorem Ga (k:IntKind)(l:List Int)(i:Nat):List.take i (Am k l)=Am k (l.take i):=by
 have:=Rg (Xo k) l i
 simpa using this
theorem T8.drop {l:List Int}(h:T8 l)(i:Nat):T8 (l.drop i):=fun x hx=>h x (List.mem_of_mem_drop hx)
theorem T8.take {l:List Int}(h:T8 l)(i:Nat):T8 (l.take i):=fun x hx=>h x (List.mem_of_mem_take hx)
theorem Ake {a0 a1:Int}{n:Nat}{c:List PV}{l:List Int}(hb:T8 l)(hl:l.length<=1099511627776)(B2:100<=fu)(nn:Nat)(v:W4):
  Hs fu (Ag (CX xs) prog fu (d+3)) a0 a1 n c (nn+1) l.length (Am .u8 l) ((l.length / 8:Nat):Int) ((l.length / 8:Nat):Int) ((l.length / 8:Nat):Int) v.a v.b v.c v.d=some ⟨[.sc (.int .u64 (Aae (YE (Pi v (L4 l)))))],[]⟩:=by
 have w8:wrap .i64 (8*((l.length / 8:Nat):Int))=((8*(l.length / 8):Nat):Int):=by rw[wrap_i64 (by omega) (by omega)];omega
 have wl:wrap .u64 (l.length:Int)=l.length:=D8 (by omega) (by omega)
 have TK:(l.drop (8*(l.length / 8))).length=l.length-8*(l.length / 8):=List.length_drop;have li:=HO (xs:=xs) (fu:=fu) (d:=d+2) (hb.drop (8*(l.length / 8))) (by omega) B2
 rw[TK] at li;have tk:List.take (l.length-8*(l.length / 8)) (Am .u8 (l.drop (8*(l.length / 8))))=Am .u8 (l.drop (8*(l.length / 8))):=G9 (by rw[A0,TK];omega)
 have hbn:=Qm (hb.drop (8*(l.length / 8)));rw[TK] at hbn
 have hp7:(256:Int) ^ (l.length-8*(l.length / 8))<=256 ^ 7:=by
  have:(256:Nat) ^ (l.length-8*(l.length / 8))<=256 ^ 7:=Nat.pow_le_pow_right (by omega) (by omega)
  have h2:(((256:Nat) ^ (l.length-8*(l.length / 8)):Nat):Int)<=((256 ^ 7:Nat):Int):=by omega
  simpa using h2
 have A42:BH .u64 (Pq (l.drop (8*(l.length / 8)))) (Jv .u64 (l.length:Int) 56)=L4 l:=by
  have hs:Jv .u64 (l.length:Int) 56=(((l.length % 256)*2 ^ 56:Nat):Int):=by
   show wrap .u64 ((l.length:Int)*2 ^ (min (56:Int).toNat IntKind.u64.bits))=_;have h2:(2:Int) ^ (min (56:Int).toNat IntKind.u64.bits)=72057594037927936:=by decide
   have h3:(2:Nat) ^ 56=72057594037927936:=by decide
   rw[h2,h3];simp only[wrap,IntKind.signed,IntKind.bits];simp;omega
  have h56:(256:Int) ^ 7=((2 ^ 56:Nat):Int):=by decide
  have h3:(2:Nat) ^ 56=72057594037927936:=by decide
  rw[hs,(LD 56 (l.length % 256) hbn.1 (by omega) rfl (by omega)).1]
  unfold L4;omega
 have ab:=IW (xs:=xs) (fu:=fu) (d:=d) B2 v (L4 l);have r4:=IB (xs:=xs) (fu:=fu) (d:=d+1) 4 (by omega) B2 ⟨(Pi v (L4 l)).a,(Pi v (L4 l)).b,Dv .u64 (Pi v (L4 l)).c 255,(Pi v (L4 l)).d⟩
 have e4:((4:Nat):Int)=4:=rfl;rw[e4] at r4;unfold YE;generalize Pi v (L4 l)=U at ab r4 ⊢;generalize TY 4 ⟨U.a,U.b,Dv .u64 U.c 255,U.d⟩=R at r4 ⊢;simp only[W4.cells] at ab r4;rw[Ry];simp (disch:=omega) only[Ea,Rq,Ch,w8,wl,IZ,tk,li,A42,ab,r4];rfl
theorem NM {a0 a1:Int}{n:Nat}{c:List PV}{l:List Int}(hb:T8 l)(hl:l.length<=1099511627776)(B2:100<=fu):∀(k i nn:Nat)(v:W4),i+k=l.length / 8->k<nn ->
  Hs fu (Ag (CX xs) prog fu (d+3)) a0 a1 n c nn l.length (Am .u8 l) ((l.length / 8:Nat):Int) ((l.length / 8:Nat):Int) i v.a v.b v.c v.d=some ⟨[.sc (.int .u64 (Aae (YE (Pi (GI k v (l.drop (8*i))) (L4 l)))))],[]⟩
 |_,_,0,_,_,h=>by omega
 |0,i,nn+1,v,hi,hn=>by
  have e:i=l.length / 8:=by omega
  subst e;exact Ake hb hl B2 nn v
 |k+1,i,nn+1,v,hi,hn=>by
  have w:wrap .i64 ((i:Int)+1)=((i+1:Nat):Int):=by rw[wrap_i64 (by omega) (by omega)];omega
  have w8:wrap .i64 (8*(i:Int))=((8*i:Nat):Int):=by rw[wrap_i64 (by omega) (by omega)];omega
  have w88:wrap .i64 (((8*i:Nat):Int)+8)=((8*i+8:Nat):Int):=by rw[wrap_i64 (by omega) (by omega)];omega
  have TK:((l.drop (8*i)).take 8).length=8:=by rw[List.length_take,List.length_drop];omega
  have li:=HO (xs:=xs) (fu:=fu) (d:=d+2) ((hb.drop (8*i)).take 8) (by omega) B2
  rw[TK] at li;have e8:8*i+8-8*i=8:=by omega
  have ab:=IW (xs:=xs) (fu:=fu) (d:=d) B2 v (Pq ((l.drop (8*i)).take 8));have ih:=NM (a0:=a0) (a1:=a1) (n:=n) (c:=c) hb hl B2 k (i+1) nn (Pi v (Pq ((l.drop (8*i)).take 8))) (by omega) (by omega)
  have eN:GI (k+1) v (l.drop (8*i))=GI k (Pi v (Pq ((l.drop (8*i)).take 8))) (l.drop (8*(i+1))):=by
   rw[GI,List.drop_drop,show 8*i+8=8*(i+1) by omega]
  rw[eN];generalize Pi v (Pq ((l.drop (8*i)).take 8))=U at ab ih ⊢;simp only[W4.cells] at ab;rw[Ry];simp (disch:=omega) only[Ea,Rq,Ch,w,w8,w88,e8,IZ,Ga,li,ab];exact ih
theorem Amp {l:List Int}(hb:T8 l)(hl:l.length<=1099511627776)(B2:100<=fu)(hf:l.length<fu)(k0 k1:Int):Ag (CX xs) prog fu (d+4) Wo [.sc (.int .u64 k0),.sc (.int .u64 k1),.lst false 1 l.length (Am .u8 l)]=some ⟨[.sc (.int .u64 (Aon k0 k1 l))],[]⟩:=by
 rw[MJ]
 have w:wrap .i64 (Int.tdiv (l.length:Int) 8)=((l.length / 8:Nat):Int):=by
  rw[Int.tdiv_eq_ediv_of_nonneg (by omega),wrap_i64 (by omega) (by omega)]
  omega
 have lp:=NM (xs:=xs) (fu:=fu) (d:=d) (a0:=k0) (a1:=k1) (n:=l.length) (c:=Am .u8 l) hb hl B2 (l.length / 8) 0 fu (Amm k0 k1) (by omega) (by omega)
 simp only[K3,w];exact lp
theorem Mq (v:W4):Ag (CX xs) prog fu (d+2) Lt [.agg [.sc (.int .u64 v.a),.sc (.int .u64 v.b),.sc (.int .u64 v.c),.sc (.int .u64 v.d)]]=some ⟨[.agg (FO v).cells],[]⟩:=by
 have r13:=fun x=>Ae4 (xs:=xs) (fu:=fu) (d:=d) (x:=x) (k:=13) (by simp)
 have r16:=fun x=>Ae4 (xs:=xs) (fu:=fu) (d:=d) (x:=x) (k:=16) (by simp)
 have r17:=fun x=>Ae4 (xs:=xs) (fu:=fu) (d:=d) (x:=x) (k:=17) (by simp)
 have r21:=fun x=>Ae4 (xs:=xs) (fu:=fu) (d:=d) (x:=x) (k:=21) (by simp)
 have r32:=fun x=>Ae4 (xs:=xs) (fu:=fu) (d:=d) (x:=x) (k:=32) (by simp)
 rw[T7];simp (disch:=omega) only[Ea,r13,r16,r17,r21,r32];rfl
def R5 (l:List Int)(i k:Nat):Int:=if i+k<l.length then l.getD (i+k) 0 else if k=7 then (l.length:Int) % 256 else 0
def pc (l:List Int)(i:Nat):List Int:=(List.range 8).map (R5 l i)
theorem Bvu {l:List Int}(hb:T8 l)(i:Nat):T8 (pc l i):=by
 intro x hx;obtain⟨k,hk,rfl⟩:=List.mem_map.1 hx;unfold R5;split
 ·rename_i h;rw[List.getD_eq_getElem?_getD,List.getElem?_eq_getElem h];exact hb _ (List.getElem_mem h)
 ·split<;>omega
theorem Ah5 {l:List Int}{i:Nat}(h:i+8<=l.length):pc l i=(l.drop i).take 8:=by
 refine List.ext_getElem (by simp[pc];omega) fun k h1 h2=>?_
 have hk:k<8:=by simpa [pc] using h1
 simp only[pc,List.getElem_map,List.getElem_range,List.getElem_take,List.getElem_drop,R5];rw[J8 (by omega),List.getD_eq_getElem?_getD,List.getElem?_eq_getElem (by omega)]
 rfl
theorem IY (x:Int):∀n,Pq (List.replicate n 0++[x])=256 ^ n*x
 |0=>by simp[Pq]
 |n+1=>by
  rw[List.replicate_succ,List.cons_append,Pq,IY x n,Int.pow_succ,Int.mul_comm (256 ^ n) 256,Int.mul_assoc];omega
theorem Aiy {l:List Int}:Pq (pc l (8*(l.length / 8)))=L4 l:=by
 have e:pc l (8*(l.length / 8))=l.drop (8*(l.length / 8))++(List.replicate (7-(l.length-8*(l.length / 8))) 0++[(l.length:Int) % 256]):=by
  refine List.ext_getElem (by simp[pc];omega) fun k h1 h2=>?_
  have hk:k<8:=by simpa [pc] using h1
  simp only[pc,List.getElem_map,List.getElem_range,R5];by_cases hc:8*(l.length / 8)+k<l.length
  ·rw[J8 hc,List.getElem_append_left (by rw[List.length_drop];omega),List.getElem_drop,List.getD_eq_getElem?_getD,List.getElem?_eq_getElem hc]
   rfl
  ·rw[Mr hc,List.getElem_append_right (by rw[List.length_drop];omega)]
   by_cases h7:k=7
   ·rw[J8 h7,List.getElem_append_right (by simp;omega)]
    simp
   ·rw[Mr h7,List.getElem_append_left (by simp;omega)]
    simp
 rw[e,Ve,IY];unfold L4
 have:(256:Int) ^ (l.drop (8*(l.length / 8))).length*(256 ^ (7-(l.length-8*(l.length / 8)))*((l.length:Int) % 256))=72057594037927936*((l.length:Int) % 256):=by
  rw[←Int.mul_assoc,←Int.pow_add,List.length_drop];have:l.length-8*(l.length / 8)+(7-(l.length-8*(l.length / 8)))=7:=by omega
  rw[this];rfl
 rw[this]
theorem Ay4 {a b:Int}(ha:0<=a)(ha':a<72057594037927936)(hb:0<=b)(Hh:b<=255):BH .u64 (Jv .u64 a 8) b=b+256*a:=by
 obtain⟨n,rfl⟩:=Int.eq_ofNat_of_zero_le ha
 have hs:Jv .u64 (n:Int) 8=((n*2 ^ 8:Nat):Int):=by
  have:=XG (a:=(n:Int)) (k:=8) (by omega) (by omega) (by omega) (by
   have:(2 ^ (8:Int).toNat:Nat)=256:=by decide
   rw[this];omega)
  rw[this];have:(2 ^ (8:Int).toNat:Nat)=256:=by decide
  rw[this];have:(2 ^ 8:Nat)=256:=by decide
  rw[this];omega
 have h8:(2 ^ 8:Nat)=256:=by decide
 rw[hs,(LD (a:=b) 8 n hb (by rw[h8];omega) rfl (by rw[h8];omega)).2,h8]
 omega
theorem WR {a0 a1:Int}{n m0:Nat}{c:List PV}{l:List Int}(hb:T8 l)(hl:l.length<=1099511627776){i:Nat}(hi:i<=l.length)(v:W4):∀(j nn:Nat),j<=8->j<nn ->
  D0 fu (Ag (CX xs) prog fu (d+2)) a0 a1 n c m0 nn l.length (Am .u8 l) i (Pq ((pc l i).drop j)) ((j:Int)-1) v.cells =
   En fu (Ag (CX xs) prog fu (d+2)) a0 a1 n c m0 l.length (Am .u8 l) ((i+8:Nat):Int) (Pi v (Pq (pc l i))).cells
 |_,0,_,h=>by omega
 |0,nn+1,hj,hn=>by
  have w8:wrap .i64 ((i:Int)+8)=((i+8:Nat):Int):=by rw[wrap_i64 (by omega) (by omega)];omega
  have r1:=Mq (xs:=xs) (fu:=fu) (d:=d) ⟨v.a,v.b,v.c,Dv .u64 v.d (Pq (pc l i))⟩;have r2:=Mq (xs:=xs) (fu:=fu) (d:=d) (FO ⟨v.a,v.b,v.c,Dv .u64 v.d (Pq (pc l i))⟩);have eA:Pi v (Pq (pc l i))=Atu (FO (FO ⟨v.a,v.b,v.c,Dv .u64 v.d (Pq (pc l i))⟩)) (Pq (pc l i)):=rfl;rw[eA];generalize FO ⟨v.a,v.b,v.c,Dv .u64 v.d (Pq (pc l i))⟩=U at r1 r2 ⊢;generalize FO U=U2 at r2 ⊢;simp only[W4.cells] at r1 r2;rw[K0,Vv _ _ _ (by omega),Cm]
  simp only[W4.cells,List.getD_cons_zero,List.getD_cons_succ,KG,K3];simp (disch:=first|omega|(simp;done)) only[Ea,Bl,List.take_succ_cons,List.take_zero,List.drop_succ_cons,Cm,List.drop_nil,List.cons_append,Zzq,List.append_nil,TW,Dh,List.getD_cons_zero,List.getD_cons_succ,r1,r2,w8,Cn,Nat.reduceAdd,Nat.reduceLeDiff,List.append_eq]
  rfl
 |j+1,nn+1,hj,hn=>by
  have ih:=WR (a0:=a0) (a1:=a1) (n:=n) (m0:=m0) (c:=c) hb hl hi v j nn (by omega) (by omega)
  have hw:wrap .i64 ((i:Int)+(((j+1:Nat):Int)-1))=((i+j:Nat):Int):=by rw[wrap_i64 (by omega) (by omega)];omega
  have wj:wrap .i64 (((j+1:Nat):Int)-1-1)=(j:Int)-1:=by rw[wrap_i64 (by omega) (by omega)];omega
  have hd:(pc l i).drop j=R5 l i j::(pc l i).drop (j+1):=by
   rw[List.drop_eq_getElem_cons (by simp[pc];omega)]
   simp[pc]
  have hB:=Bvu hb i;have hbn:=Qm (hB.drop (j+1))
  have hp7:(256:Int) ^ ((pc l i).drop (j+1)).length<=72057594037927936:=by
   have Em:((pc l i).drop (j+1)).length<=7:=by simp[pc]
   have:(256:Nat) ^ ((pc l i).drop (j+1)).length<=256 ^ 7:=Nat.pow_le_pow_right (by omega) Em
   have h2:(((256:Nat) ^ ((pc l i).drop (j+1)).length:Nat):Int)<=((256 ^ 7:Nat):Int):=by omega
   simpa using h2
  have hc0:0<=R5 l i j∧R5 l i j<=255:=hB _ (by rw[←Cm (l:=pc l i)];exact List.mem_of_mem_drop (i:=j) (by rw[Cm,hd];simp))
  have hj2:BH .u64 (Jv .u64 (Pq ((pc l i).drop (j+1))) 8) (R5 l i j)=Pq ((pc l i).drop j):=by
   rw[Ay4 hbn.1 (by omega) hc0.1 hc0.2,hd]
   rfl
  have wc:wrap .u64 (R5 l i j)=R5 l i j:=D8 (by omega) (by omega)
  rw[K0,EQ _ _ _ (by omega)]
  simp only[K3,hw];by_cases c1:i+j<l.length
  ·have e:R5 l i j=l.getD (i+j) 0:=by unfold R5;rw[J8 c1]
   have e2:l[i+j]?=some (R5 l i j):=by rw[e,List.getD_eq_getElem?_getD,List.getElem?_eq_getElem c1];rfl
   rw[EQ _ _ _ (by omega)]
   simp (disch:=omega) only[Ea,Rq,Ch,ati e2,wc,hj2,wj];exact ih
  ·rw[Vv _ _ _ (by omega)]
   by_cases h7:j=7
   ·subst h7;have e:R5 l i 7=(l.length:Int) % 256:=by unfold R5;rw[Mr c1,J8 rfl]
    have e8:wrap .u8 (l.length:Int)=R5 l i 7:=by
     rw[e];simp only[wrap,IntKind.signed,IntKind.bits];simp
    rw[WN,J8 (by omega),e8,wc,hj2,wj]
    exact ih
   ·have e:R5 l i j=0:=by unfold R5;rw[Mr c1,Mr h7]
    rw[e] at hj2;rw[WN,Mr (by omega),hj2,wj]
    exact ih
theorem IM {a0 a1:Int}{n:Nat}{c:List PV}{l:List Int}(hb:T8 l)(hl:l.length<=1099511627776)(B2:100<=fu):∀(k i nn:Nat)(v:W4),i+k=l.length / 8->k+1<nn ->
  En fu (Ag (CX xs) prog fu (d+2)) a0 a1 n c nn l.length (Am .u8 l) ((8*i:Nat):Int) v.cells=some ⟨[.sc (.int .u64 (Aae (YE (Pi (GI k v (l.drop (8*i))) (L4 l)))))],[]⟩
 |_,_,0,_,_,h=>by omega
 |k,i,nn+1,v,hi,hn=>by
  have step:=WR (xs:=xs) (fu:=fu) (d:=d) (a0:=a0) (a1:=a1) (n:=n) (m0:=nn) (c:=c) hb hl (i:=8*i) (by omega) v 8 fu (by omega) (by omega)
  have e0:Pq ((pc l (8*i)).drop 8)=0:=by rw[List.drop_of_length_le (by simp[pc])];rfl
  rw[e0] at step;rw[Li,EQ _ _ _ (by omega)]
  refine step.trans ?_;cases k with
  |zero=>
   have e:i=l.length / 8:=by omega
   subst e;rw[Aiy];generalize hv:Pi v (L4 l)=u;obtain⟨nn',rfl⟩:∃nn',nn=nn'+1:=⟨nn-1,by omega⟩
   have r1:=Mq (xs:=xs) (fu:=fu) (d:=d) ⟨u.a,u.b,Dv .u64 u.c 255,u.d⟩;have r2:=Mq (xs:=xs) (fu:=fu) (d:=d) (FO ⟨u.a,u.b,Dv .u64 u.c 255,u.d⟩);have r3:=Mq (xs:=xs) (fu:=fu) (d:=d) (FO (FO ⟨u.a,u.b,Dv .u64 u.c 255,u.d⟩));have r4:=Mq (xs:=xs) (fu:=fu) (d:=d) (FO (FO (FO ⟨u.a,u.b,Dv .u64 u.c 255,u.d⟩)))
   have eF:Aae (YE (Pi (GI 0 v (l.drop (8*(l.length / 8)))) (L4 l)))=Aae (FO (FO (FO (FO ⟨u.a,u.b,Dv .u64 u.c 255,u.d⟩)))):=by
    rw[GI,hv];rfl
   rw[eF];clear eF;generalize FO ⟨u.a,u.b,Dv .u64 u.c 255,u.d⟩=U1 at r1 r2 r3 r4 ⊢;generalize FO U1=U2 at r2 r3 r4 ⊢;generalize FO U2=U3 at r3 r4 ⊢;generalize FO U3=U4 at r4 ⊢;simp only[W4.cells] at r1 r2 r3 r4;rw[Li,Vv _ _ _ (by omega)]
   simp only[W4.cells,List.getD_cons_zero,List.getD_cons_succ,KG,K3];simp (disch:=first|omega|(simp;done)) only[Ea,Bl,List.take_succ_cons,List.take_zero,List.drop_succ_cons,Cm,List.drop_nil,List.cons_append,Zzq,List.append_nil,TW,Dh,List.getD_cons_zero,List.getD_cons_succ,r1,r2,r3,r4,Cn,Nat.reduceAdd,Nat.reduceLeDiff,List.append_eq]
   rfl
  |succ k=>
   have ih:=IM (a0:=a0) (a1:=a1) (n:=n) (c:=c) hb hl B2 k (i+1) nn (Pi v (Pq (pc l (8*i)))) (by omega) (by omega)
   rw[show 8*i+8=8*(i+1) by omega,ih,Ah5 (by omega)]
   simp only[GI,List.drop_drop];rw[show 8*(i+1)=8*i+8 by omega]
theorem Ajf {l:List Int}(hb:T8 l)(hl:l.length<=1099511627776)(B2:100<=fu)(hf:l.length<fu)(k0 k1:Int):Ag (CX xs) prog fu (d+3) Od [.sc (.int .u64 k0),.sc (.int .u64 k1),.lst false 1 l.length (Am .u8 l)]=some ⟨[.sc (.int .u64 (Aon k0 k1 l))],[]⟩:=by
 rw[X2];exact IM (xs:=xs) (fu:=fu) (d:=d) (a0:=k0) (a1:=k1) (n:=l.length) (c:=Am .u8 l) hb hl B2 (l.length / 8) 0 fu (Amm k0 k1) (by omega) (by omega)
theorem JU {l:List Int}(hb:T8 l)(hl:l.length<=1099511627776)(B2:100<=fu)(hf:l.length<fu)(key dom:Int):Ag (CX xs) prog fu (d+4) Ok [.sc (.int .u64 key),.sc (.int .i64 dom),.lst false 1 l.length (Am .u8 l)]=some ⟨[.sc (.int .u64 (BC key dom l))],[]⟩:=by
 rw[Wl];have s:=Ajf (xs:=xs) (fu:=fu) (d:=d) hb hl B2 hf key (wrap .u64 (1+wrap .u64 dom));simp only[Ea,s];rfl
end
end
section
open Go.Proofs.Try (prog)
open Go.IntKind (wrap)
def Kp (w:Int)(k:Nat):Int:=wrap .u8 (GN .u64 w (56-8*(k:Int)))
def Gm (w:Int):List Int:=(List.range' 0 8).map (Kp w)
def B9 (ws:List Int):List Int:=ws.flatMap Gm
theorem E5 (w:Int):(Gm w).length=8:=rfl
section
variable {fu d:Nat} {xs:FuncId->Option (List PV->Option A2)} {call:Ai} {n:Nat} {c:List PV}
theorem QK {ws:List Int}{w:Int}{m0 l:Nat}{i k:Int}:∀(r j nn:Nat)(bs:List Int),8-j=r->r<nn->j<=8->bs.length+r<=34359738368 ->
  Hy fu call n c m0 nn bs.length w l (Am .u64 ws) k i j (Am .u8 bs) =
   F6 fu call n c m0 (bs++(List.range' j (8-j)).map (Kp w)).length l (Am .u64 ws) k (wrap .i64 (i+1)) (Am .u8 (bs++(List.range' j (8-j)).map (Kp w)))
 |r,j,0,bs,_,h,_,_=>by omega
 |0,j,nn+1,bs,hr,_,hj,_=>by
  have e:j=8:=by omega
  subst e;rw[N6];simp (disch:=omega) only[Ea];simp
 |r+1,j,nn+1,bs,hr,hn,hj,hb=>by
  have ih:=QK (ws:=ws) (w:=w) (m0:=m0) (l:=l) (i:=i) (k:=k) r (j+1) nn (bs++[Kp w j]) (by omega) (by omega) (by omega) (by simp;omega)
  have e8:=A0 .u8 bs;rw[N6]
  have hx:wrap .u8 (GN .u64 w (wrap .i64 (56-wrap .i64 (8*(j:Int)))))=Kp w j:=by
   rw[wrap_i64 (x:=8*(j:Int)) (by omega) (by omega),wrap_i64 (by omega) (by omega)]
   rfl
  have h0:0<=wrap .i64 (56-wrap .i64 (8*(j:Int))):=by
   rw[wrap_i64 (x:=8*(j:Int)) (by omega) (by omega),wrap_i64 (by omega) (by omega)]
   omega
  have SX:List.range' j (8-j)=j::List.range' (j+1) (8-(j+1)):=by
   rw[show 8-j=(8-(j+1))+1 by omega]
   exact List.range'_succ
  simp (disch:=first|omega|exact h0) only[Ea,Ch,hx,tki,QE,wrap_i64 (x:=(j:Int)+1)];rw[SX];simp only[AV,TW,Dh,Cn,Zzv,List.map_cons,List.singleton_append] at ih ⊢;exact ih
theorem DL {ws:List Int}(hl:ws.length<=1073741824)(B2:100<=fu):∀(r:List Int)(i nn:Nat)(bs:List Int),ws.drop i=r->r.length<nn->bs.length=8*i ->
  F6 fu call n c nn bs.length ws.length (Am .u64 ws) ws.length i (Am .u8 bs)=some ⟨[.own 1 (bs++B9 r).length (Am .u8 (bs++B9 r))],[]⟩
 |r,i,0,_,_,h,_=>by omega
 |[],i,nn+1,bs,h,_,_=>by
  have:=drop_nil h;have e8:=A0 .u8 bs;rw[Oh];simp (disch:=omega) only[Ea,Ch,tki,B9,List.flatMap_nil,List.append_nil]
 |w::r,i,nn+1,bs,h,hn,hb=>by
  obtain⟨h1,h2,h3⟩:=C3 h;simp only[TW] at hn;rw[Oh];simp (disch:=omega) only[Ea,Rq,Ch,ati h2];rw[show (0:Int)=((0:Nat):Int) from rfl,QK 8 0 fu bs rfl (by omega) (by omega) (by omega),wrap_i64 (by omega) (by omega)]
  have ih:=DL hl B2 r (i+1) nn (bs++Gm w) h3 (by omega) (by simp[E5];omega)
  have e:bs++Gm w++B9 r=bs++B9 (w::r):=by simp[B9]
  rw[e] at ih;exact ih
theorem PT {ws:List Int}(hl:ws.length<=1073741824)(B2:100<=fu)(hf:ws.length<fu):Ag (CX xs) prog fu (d+1) I4 [.lst false 1 ws.length (Am .u64 ws)]=some ⟨[.own 1 (B9 ws).length (Am .u8 (B9 ws))],[]⟩:=by
 rw[CU];simp (disch:=omega) only[Ea,wrap_i64,Int.mul_one];exact DL hl B2 ws 0 fu [] rfl hf rfl
theorem IP {ws:List Int}{w:Int}{m0 i:Nat}(hw:ws[i]?=some w):∀(r nn:Nat)(j:Int)(bs:List Int),j=(r:Int)-1->r<=8->r<nn->bs.length+r<=34359738368 ->
  E9 fu call n c m0 nn ws.length (Am .u64 ws) bs.length i j (Am .u8 bs) =
   D5 fu call n c m0 ws.length (Am .u64 ws) (bs++(List.range' (8-r) r).map (Kp w)).length (wrap .i64 (i+1)) (Am .u8 (bs++(List.range' (8-r) r).map (Kp w)))
 |r,0,j,bs,_,_,h,_=>by omega
 |0,nn+1,j,bs,hr,_,_,_=>by
  rw[Jl];simp (disch:=omega) only[Ea];simp
 |r+1,nn+1,j,bs,hr,Z0,hn,hb=>by
  have hi:=H9 hw;have ih:=IP (m0:=m0) hw r nn (j-1) (bs++[Kp w (8-(r+1))]) (by omega) (by omega) (by omega) (by simp;omega)
  have e8:=A0 .u8 bs
  have hx:wrap .u8 (GN .u64 w (wrap .u64 (wrap .i64 (8*j))))=Kp w (8-(r+1)):=by
   rw[wrap_i64 (by omega) (by omega),D8 (by omega) (by omega)]
   unfold Kp;rw[show 56-8*((8-(r+1):Nat):Int)=8*j by omega]
  have h0:0<=wrap .u64 (wrap .i64 (8*j)):=by
   rw[wrap_i64 (by omega) (by omega),D8 (by omega) (by omega)]
   omega
  have SX:List.range' (8-(r+1)) (r+1)=(8-(r+1))::List.range' (8-r) r:=by
   rw[List.range'_succ,show 8-(r+1)+1=8-r by omega]
  rw[Jl];simp (disch:=first|omega|exact h0) only[Ea,Rq,Ch,ati hw,hx,tki,QE,wrap_i64 (x:=j-1)];rw[SX];simp only[AV,TW,Dh,Cn,Zzv,List.map_cons,List.singleton_append] at ih ⊢;exact ih
theorem Zi {ws:List Int}(hl:ws.length<=1073741824)(B2:100<=fu):∀(r:List Int)(i nn:Nat)(bs:List Int),ws.drop i=r->r.length<nn->bs.length=8*i ->
  D5 fu call n c nn ws.length (Am .u64 ws) bs.length i (Am .u8 bs)=some ⟨[.own 1 (bs++B9 r).length (Am .u8 (bs++B9 r))],[]⟩
 |r,i,0,_,_,h,_=>by omega
 |[],i,nn+1,bs,h,_,_=>by
  have:=drop_nil h;have e8:=A0 .u8 bs;rw[Jg];simp (disch:=omega) only[Ea,Ch,tki,B9,List.flatMap_nil,List.append_nil]
 |w::r,i,nn+1,bs,h,hn,hb=>by
  obtain⟨h1,h2,h3⟩:=C3 h;simp only[TW] at hn;rw[Jg];simp (disch:=omega) only[Ea];rw[IP h2 8 fu 7 bs rfl (by omega) (by omega) (by omega),wrap_i64 (by omega) (by omega)]
  have ih:=Zi hl B2 r (i+1) nn (bs++Gm w) h3 (by omega) (by simp[E5];omega)
  have e:bs++Gm w++B9 r=bs++B9 (w::r):=by simp[B9]
  rw[e] at ih;exact ih
theorem IQ {ws:List Int}(hl:ws.length<=1073741824)(B2:100<=fu)(hf:ws.length<fu):Ag (CX xs) prog fu (d+1) Fj [.lst false 1 ws.length (Am .u64 ws)]=some ⟨[.own 1 (B9 ws).length (Am .u8 (B9 ws))],[]⟩:=by
 rw[Uc];exact Zi hl B2 ws 0 fu [] rfl hf rfl
end
end
section
open Go.IntKind (wrap)
theorem Afi (w:Int)(k:Nat):0<=Kp w k∧Kp w k<=255:=by
 unfold Kp;simp only[wrap,IntKind.signed,IntKind.bits];simp;omega
theorem XN (w:Int):T8 (Gm w):=by
 intro x hx;obtain⟨k,_,rfl⟩:=List.mem_map.1 hx;exact Afi w k
theorem RH (ws:List Int):T8 (B9 ws):=by
 intro x hx;obtain⟨w,_,hx⟩:=List.mem_flatMap.1 hx;exact XN w x hx
theorem Qk (ws:List Int):(B9 ws).length=8*ws.length:=by
 induction ws with
 |nil=>rfl
 |cons w ws ih=>
  show (Gm w++B9 ws).length=_;rw[AV,ih,E5,TW];omega
def Bqh (m:Int)(k:Nat):Int:=wrap .i64 (Abi .u64 (GN .u64 m (60-4*(k:Int))) 15)
def dl (m:Int)(i:Nat):List Int:=(List.range i).map (Bqh m)++List.replicate (18-i) 0
theorem Aih {a b:List Int}(ha:T8 a)(hb:T8 b):T8 (a++b):=by
 intro x hx;rcases List.mem_append.1 hx with hx|hx
 ·exact ha x hx
 ·exact hb x hx
end
section
open Go.IntKind (wrap)
structure Sd where
 id:List Int
 ht:Int
 root:Int
 model:Int
 fmt:Int
 sh:Bool
 used:Int
 rg:List (Int × Int)
 sus:Bool
 since:Int
 last:Int
def H7 (l:List (Int × Int)):List PV:=l.flatMap fun p=>[.sc (.int .i64 p.1),.sc (.int .i64 p.2)]
theorem Mo (l:List (Int × Int)):(H7 l).length=l.length*2:=by
 induction l with
 |nil=>rfl
 |cons p r ih=>show ([_,_]++H7 r).length=_;rw[AV,ih,TW];simp;omega
theorem Ach (p:Int × Int)(r:List (Int × Int)):H7 (p::r)=.sc (.int .i64 p.1) :: .sc (.int .i64 p.2)::H7 r:=rfl
theorem Ah8 (l r:List (Int × Int)):H7 (l++r)=H7 l++H7 r:=List.flatMap_append
def Sd.cells (x:Sd):List PV:=[.lst false 1 x.id.length (Am .u8 x.id),.sc (.int .i64 x.ht),.sc (.int .u64 x.root),.sc (.int .u64 x.model),.sc (.int .i64 x.fmt),.sc (.bool x.sh),.sc (.int .u64 x.used),.lst false 2 x.rg.length (H7 x.rg),.sc (.bool x.sus),.sc (.int .i64 x.since),.sc (.int .i64 x.last)]
def Ais (used leaf:Int):Bool:=used.toNat.testBit leaf.toNat
theorem Afr {a b:Int}(ha:0<=a)(ha1:a<=18446744073709551615)(hb:0<=b)(Fh:b<=18446744073709551615):Abi .u64 a b=((a.toNat &&& b.toNat:Nat):Int):=by
 have e:(BitVec.ofInt 64 a &&& BitVec.ofInt 64 b).toNat=a.toNat &&& b.toNat:=by
  rw[BitVec.toNat_and,BitVec.toNat_ofInt,BitVec.toNat_ofInt]
  congr 1<;>omega
 have Z0:a.toNat &&& b.toNat<=a.toNat:=Nat.and_le_left;show wrap .u64 ((BitVec.ofInt 64 a &&& BitVec.ofInt 64 b).toNat:Int)=_;rw[e];exact D8 (by omega) (by omega)
theorem EH {n:Nat}(h:n<=15):(2:Nat) ^ n<=32768:=Nat.le_trans (Nat.pow_le_pow_right (by omega) h) (by decide)
theorem Bew {k:Int}(h0:0<=k)(h1:k<=15):Jv .u64 1 k=((2 ^ k.toNat:Nat):Int):=by
 have hp:=EH (n:=k.toNat) (by omega)
 have e:min k.toNat IntKind.u64.bits=k.toNat:=Nat.min_eq_left (by show k.toNat<=64;omega)
 show wrap .u64 (1*2 ^ (min k.toNat IntKind.u64.bits))=_;rw[e,Int.one_mul,show (2:Int) ^ k.toNat=((2 ^ k.toNat:Nat):Int) by simp]
 generalize 2 ^ k.toNat=m at hp ⊢;exact D8 (by omega) (by omega)
theorem Att {k:Int}(h0:0<=k)(h1:k<=15):Jv .i64 1 k=((2 ^ k.toNat:Nat):Int):=by
 have hp:=EH (n:=k.toNat) (by omega)
 have e:min k.toNat IntKind.i64.bits=k.toNat:=Nat.min_eq_left (by show k.toNat<=64;omega)
 show wrap .i64 (1*2 ^ (min k.toNat IntKind.i64.bits))=_;rw[e,Int.one_mul,show (2:Int) ^ k.toNat=((2 ^ k.toNat:Nat):Int) by simp]
 generalize 2 ^ k.toNat=m at hp ⊢;exact wrap_i64 (by omega) (by omega)
theorem Aio (a k:Nat):(a &&& 2 ^ k≠0)↔a.testBit k=true:=by
 constructor
 ·intro h;cases hb:a.testBit k
  ·refine absurd (Nat.eq_of_testBit_eq fun i=>?_) h
   rw[Nat.testBit_and,Nat.testBit_two_pow,Nat.zero_testBit];by_cases e:k=i
   ·subst e;simp[hb]
   ·simp[e]
  ·rfl
 ·intro h e;have:=Nat.testBit_and a (2 ^ k) k;rw[e,Nat.zero_testBit,h,Nat.testBit_two_pow] at this;simp at this
theorem YL {u k:Int}(hu:0<=u)(hu1:u<=18446744073709551615)(h0:0<=k)(h1:k<=15):(Abi .u64 u (Jv .u64 1 k) != 0)=Ais u k:=by
 have hp:=EH (n:=k.toNat) (by omega)
 have:=Aio u.toNat k.toNat;unfold Ais;rw[Bew h0 h1];generalize 2 ^ k.toNat=m at hp this ⊢;rw[Afr hu hu1 (by omega) (by omega),Rq]
 cases hb:u.toNat.testBit k.toNat
 ·rw[hb] at this;simp only[ne_eq,Bool.false_eq_true,iff_false,Decidable.not_not] at this;rw[this];rfl
 ·rw[hb] at this;simp only[ne_eq,iff_true] at this;simp only[bne_iff_ne,ne_eq];omega
def Am6 (u k:Int):Int:=BH .u64 u (Jv .u64 1 k)
def put (f lf:Int):List (Int × Int)->Option (List (Int × Int))
 |[]=>some [(f,lf)]
 |p::r=>if p.1<f then (put f lf r).map (p :: ·) else if p.1=f then (if lf<=p.2 then none else some ((f,lf)::r)) else some ((f,lf)::p::r)
def Asc:List (Int × Int)->Prop
 |[]=>True
 |p::r=>(∀q∈r,p.1<q.1)∧Asc r
def Vk (c:Sd)(leaf from_:Int):Bool:=decide (c.ht<0)||decide (c.ht>4)||decide (from_<0)||decide (from_>leaf)||decide (leaf>=Jv .i64 1 c.ht)
def AG (c:Sd)(leaf from_ now:Int):Sd × Int:=
 if Vk c leaf from_=true then (c,9)
 else if c.sus=true then (c,39)
 else if Ais c.used leaf=true then ({ c with sus:=true },37)
 else match put from_ leaf c.rg with
  |none=>(c,37)
  |some r=>({ c with used:=Am6 c.used leaf,rg:=r,last:=now },0)
structure Sd.ok (c:Sd):Prop where
 idB:T8 c.id
 idL:c.id.length<=1000000
 u0:0<=c.used
 u1:c.used<=18446744073709551615
 asc:Asc c.rg
 rgn:c.rg.length<=1000
theorem UO {c:Sd}{leaf from_:Int}(h:Vk c leaf from_=false):0<=from_∧from_<=leaf∧leaf<=15∧0<=c.ht∧c.ht<=4∧leaf<((2 ^ c.ht.toNat:Nat):Int):=by
 unfold Vk at h;simp only[Bool.or_eq_false_iff,decide_eq_false_iff_not] at h;obtain⟨⟨⟨⟨h1,h2⟩,h3⟩,h4⟩,h5⟩:=h;rw[Att (by omega) (by omega)] at h5
 have hp:(2:Nat) ^ c.ht.toNat<=2 ^ 4:=Nat.pow_le_pow_right (by omega) (by omega)
 have h16:(2:Nat) ^ 4=16:=by decide
 omega
end
section
open Go.IntKind (wrap)
structure Cw where
 nm:ByteArray
 us:ByteArray
 cr:List Sd
abbrev Cf (l:List Sd):List PV:=l.flatMap Sd.cells
def Cw.cells (a:Cw):List PV:=[.sc (.string a.nm),.sc (.string a.us),.lst false 11 a.cr.length (Cf a.cr)]
abbrev Az (l:List Cw):List PV:=l.flatMap Cw.cells
theorem G7 (l:List Sd):(Cf l).length=l.length*11:=Y8 (f:=Sd.cells) (k:=11) (fun _=>rfl) l
theorem Ky (l:List Cw):(Az l).length=l.length*3:=Y8 (f:=Cw.cells) (k:=3) (fun _=>rfl) l
theorem Cy {l:List Sd}{i:Nat}{c:Sd}(h:l[i]?=some c) {j:Nat}(hj:j<11):(Cf l).getD (i*11+j) .top=c.cells.getD j .top:=EM (f:=Sd.cells) (k:=11) (fun _=>rfl) h hj
theorem Fd {l:List Cw}{i:Nat}{c:Cw}(h:l[i]?=some c) {j:Nat}(hj:j<3):(Az l).getD (i*3+j) .top=c.cells.getD j .top:=EM (f:=Cw.cells) (k:=3) (fun _=>rfl) h hj
def JA (a b:ByteArray):Bool:=Array.toList a.data==Array.toList b.data
def X8 (nm:ByteArray):Nat->List Cw->Option Nat
 |_,[]=>none
 |i,a::r=>if JA a.nm nm=true then some i else X8 nm (i+1) r
def Gs (o:Option Nat):List PV:=match o with|some i=>[.sc (.int .i64 (i:Int)),.sc (.bool true)]|none=>[.sc (.int .i64 0),.sc (.bool false)]
theorem Qj {nm:ByteArray}:∀{l:List Cw}{i k:Nat},X8 nm i l=some k->i<=k∧k<i+l.length∧∃a,l[k-i]?=some a∧JA a.nm nm=true
 |[],_,_,h=>by cases h
 |a::r,i,k,h=>by
  unfold X8 at h;split at h
  ·rename_i ha;cases h;exact⟨Nat.le_refl _,by simp,a,by simp,ha⟩
  ·obtain⟨h1,h2,b,h3,h4⟩:=Qj h;refine⟨by omega,by simp;omega,b,?_,h4⟩
   rw[show k-i=(k-(i+1))+1 by omega]
   exact h3
def PY (a b:List Int):Bool:=(a.map fun n:Int=>n.toNat.toUInt8)==(b.map fun n:Int=>n.toNat.toUInt8)
def KQ (id:List Int):Nat->List Sd->Option Nat
 |_,[]=>none
 |i,c::r=>if PY c.id id=true then some i else KQ id (i+1) r
def Wp (id:List Int):Nat->List Cw->Option (Nat × Nat)
 |_,[]=>none
 |i,a::r=>match KQ id 0 a.cr with|some k=>some (i,k)|none=>Wp id (i+1) r
theorem KC {id:List Int}:∀{l:List Sd}{i k:Nat},KQ id i l=some k->i<=k∧k<i+l.length
 |[],_,_,h=>by cases h
 |a::r,i,k,h=>by
  unfold KQ at h;split at h
  ·cases h;exact⟨Nat.le_refl _,by simp⟩
  ·obtain⟨h1,h2⟩:=KC h;exact⟨by omega,by simp;omega⟩
def AH (l:List Cw)(nm us:ByteArray)(c:Sd):List Cw × Int:=
 if nm.size<1∨32<nm.size then ([],9)
 else if c.id.length≠176 then ([],4)
 else if (Wp c.id 0 l).isSome=true then ([],10)
 else match X8 nm 0 l with
  |some i=>(match l[i]? with
   |some a=>if 4<=a.cr.length then ([],12) else (l.set i { a with cr:=a.cr++[c] },0)
   |none=>([],12))
  |none=>if 16<=l.length then ([],12) else (l++[⟨nm,us,[c]⟩],0)
def MR (l:List Cw)(nm:ByteArray)(id:List Int):Option (Nat × Nat × Cw):=
 match X8 nm 0 l with
 |some i=>(match l[i]? with
  |some a=>(match KQ id 0 a.cr with|some k=>some (i,k,a)|none=>none)
  |none=>none)
 |none=>none
def FY (l:List Cw)(nm:ByteArray)(c:Sd):List Cw × Int:=
 match MR l nm c.id with
 |some (i,k,a)=>(l.set i { a with cr:=a.cr.set k c },0)
 |none=>([],11)
def FZ (l:List Cw)(nm:ByteArray)(id:List Int):List Cw × Int:=
 match MR l nm id with
 |some (i,k,a)=>(l.set i { a with cr:=a.cr.eraseIdx k },0)
 |none=>([],11)
def u8L:List PV->Option (List Int)
 |[]=>some []
 |.sc (.int .u8 n)::r=>(u8L r).map (n :: ·)
 |_=>none
def rgL:List PV->Option (List (Int × Int))
 |[]=>some []
 |.sc (.int .i64 a) :: .sc (.int .i64 b)::r=>(rgL r).map ((a,b) :: ·)
 |_=>none
def L0:List PV->Option (List Sd)
 |[]=>some []
 |.lst false 1 n0 c0 :: .sc (.int .i64 a1) :: .sc (.int .u64 a2) :: .sc (.int .u64 a3) :: .sc (.int .i64 a4) :: .sc (.bool a5) :: .sc (.int .u64 a6) :: .lst false 2 n7 c7 :: .sc (.bool a8) :: .sc (.int .i64 a9) :: .sc (.int .i64 a10)::r=>
  match u8L c0,rgL c7,L0 r with
  |some i,some g,some l=>bif Nat.beq i.length n0&&Nat.beq g.length n7&&Nat.ble n0 1000000&&Nat.ble n7 1000 then some (⟨i,a1,a2,a3,a4,a5,a6,g,a8,a9,a10⟩::l) else none
  |_,_,_=>none
 |_=>none
def Sv:List PV->Option (List Cw)
 |[]=>some []
 |.sc (.string nm) :: .sc (.string us) :: .lst false 11 m c::r=>
  match L0 c,Sv r with
  |some s,some l=>bif Nat.beq s.length m&&Nat.ble m 1000 then some (⟨nm,us,s⟩::l) else none
  |_,_=>none
 |_=>none
theorem KX:∀{c:List PV}{l:List Int},u8L c=some l->c=Am .u8 l
 |[],l,h=>by cases h;rfl
 |p::c,l,h=>by
  unfold u8L at h;split at h
  ·rename_i NH;cases NH
  ·rename_i n r' NH;cases NH;cases hr:u8L c with
   |none=>rw[hr] at h;cases h
   |some l'=>
    rw[hr] at h;cases h;rw[KX hr];rfl
  ·cases h
theorem MV:∀l:List Int,u8L (Am .u8 l)=some l
 |[]=>rfl
 |n::l=>by
  show (u8L (Am .u8 l)).map _=_;rw[MV l];rfl
theorem VI:∀{c:List PV}{l:List (Int × Int)},rgL c=some l->c=H7 l
 |[],l,h=>by cases h;rfl
 |[p],l,h=>by
  unfold rgL at h;split at h
  ·rename_i NH;cases NH
  ·rename_i NH;cases NH
  ·cases h
 |p::q::c,l,h=>by
  unfold rgL at h;split at h
  ·rename_i NH;cases NH
  ·rename_i a b r NH;cases NH;cases hr:rgL c with
   |none=>rw[hr] at h;cases h
   |some l'=>
    rw[hr] at h;cases h;rw[VI hr];rfl
  ·cases h
theorem XM:∀l:List (Int × Int),rgL (H7 l)=some l
 |[]=>rfl
 |(a,b)::l=>by
  show (rgL (H7 l)).map _=_;rw[XM l];rfl
def Sd.sm (c:Sd):Prop:=c.id.length<=1000000∧c.rg.length<=1000
def Cw.sm (a:Cw):Prop:=a.cr.length<=1000∧∀c∈a.cr,c.sm
theorem SA (c:Sd)(r:List PV)(h:c.sm):L0 (c.cells++r)=(L0 r).map (c :: ·):=by
 show (match u8L (Am .u8 c.id),rgL (H7 c.rg),L0 r with
  |some i,some g,some l=>bif Nat.beq i.length c.id.length&&Nat.beq g.length c.rg.length&&Nat.ble c.id.length 1000000&&Nat.ble c.rg.length 1000 then some ((⟨i,c.ht,c.root,c.model,c.fmt,c.sh,c.used,g,c.sus,c.since,c.last⟩:Sd)::l) else none
  |_,_,_=>none)=_
 rw[MV,XM];cases L0 r with
 |none=>rfl
 |some l=>
  have e:(Nat.beq c.id.length c.id.length&&Nat.beq c.rg.length c.rg.length&&Nat.ble c.id.length 1000000&&Nat.ble c.rg.length 1000)=true:=by
   rw[Nat.beq_refl,Nat.beq_refl,Nat.ble_eq_true_of_le h.1,Nat.ble_eq_true_of_le h.2];rfl
  simp only[e,cond_true];rfl
theorem Tk:∀{l:List Sd},(∀c∈l,c.sm)->L0 (Cf l)=some l
 |[],_=>rfl
 |c::l,h=>by
  show L0 (c.cells++Cf l)=_;rw[SA c _ (h c (by simp)),Tk fun x hx=>h x (by simp[hx])];rfl
theorem Ql:∀{l:List Cw},(∀a∈l,a.sm)->Sv (Az l)=some l
 |[],_=>rfl
 |a::l,h=>by
  have ha:=h a (by simp)
  show (match L0 (Cf a.cr),Sv (Az l) with
   |some s,some l=>bif Nat.beq s.length a.cr.length&&Nat.ble a.cr.length 1000 then some ((⟨a.nm,a.us,s⟩:Cw)::l) else none
   |_,_=>none)=_
  rw[Tk ha.2,Ql fun x hx=>h x (by simp[hx])]
  have e:(Nat.beq a.cr.length a.cr.length&&Nat.ble a.cr.length 1000)=true:=by
   rw[Nat.beq_refl,Nat.ble_eq_true_of_le ha.1];rfl
  simp only[e,cond_true]
theorem Yp:∀(m:Nat){c:List PV}{l:List Sd},c.length<=m->L0 c=some l->c=Cf l∧∀x∈l,x.sm
 |0,c,l,hm,h=>by
  have:=List.length_eq_zero_iff.1 (Nat.le_zero.1 hm);subst this;cases h;exact⟨rfl,fun x hx=>by cases hx⟩
 |m+1,c,l,hm,h=>by
  unfold L0 at h;split at h
  ·cases h;exact⟨rfl,fun x hx=>by cases hx⟩
  ·rename_i n0 c0 a1 a2 a3 a4 a5 a6 n7 c7 a8 a9 a10 r;split at h
   ·rename_i i g l' h1 h2 h3;cases hq:(Nat.beq i.length n0&&Nat.beq g.length n7&&Nat.ble n0 1000000&&Nat.ble n7 1000)<;>rw[hq] at h
    ·cases h
    ·cases h;simp only[Bool.and_eq_true] at hq;obtain⟨⟨⟨q1,q2⟩,q3⟩,q4⟩:=hq;obtain⟨e,hl⟩:=Yp m (by simp at hm;omega) h3
     have q1:=Nat.eq_of_beq_eq_true q1;have q2:=Nat.eq_of_beq_eq_true q2;subst q1;subst q2;rw[KX h1,VI h2,e];refine⟨rfl,fun x hx=>?_⟩
     rcases List.mem_cons.1 hx with rfl|hx
     ·exact⟨Nat.le_of_ble_eq_true q3,Nat.le_of_ble_eq_true q4⟩
     ·exact hl x hx
   ·cases h
  ·cases h
theorem Qx:∀(m:Nat){c:List PV}{l:List Cw},c.length<=m->Sv c=some l->c=Az l∧∀x∈l,x.sm
 |0,c,l,hm,h=>by
  have:=List.length_eq_zero_iff.1 (Nat.le_zero.1 hm);subst this;cases h;exact⟨rfl,fun x hx=>by cases hx⟩
 |m+1,c,l,hm,h=>by
  unfold Sv at h;split at h
  ·cases h;exact⟨rfl,fun x hx=>by cases hx⟩
  ·rename_i nm us k c r;split at h
   ·rename_i s l' h1 h3;cases hq:(Nat.beq s.length k&&Nat.ble k 1000)<;>rw[hq] at h
    ·cases h
    ·cases h;simp only[Bool.and_eq_true] at hq;obtain⟨q1,q2⟩:=hq;obtain⟨e,hl⟩:=Qx m (by simp at hm;omega) h3
     obtain⟨e1,hs⟩:=Yp _ (Nat.le_refl _) h1;have q1:=Nat.eq_of_beq_eq_true q1;subst q1;rw[e1,e];refine⟨rfl,fun x hx=>?_⟩
     rcases List.mem_cons.1 hx with rfl|hx
     ·exact⟨Nat.le_of_ble_eq_true q2,hs⟩
     ·exact hl x hx
   ·cases h
  ·cases h
def P8 (r:List Cw × Int):A2:=⟨[.lst false 3 r.1.length (Az r.1),.sc (.int .i64 r.2)],[]⟩
def Aeg (args:List PV):Option A2:=
 match args with
 |[.lst false 3 n c,.sc (.string nm),.sc (.string us),.agg s]=>
  match Sv c,L0 s with
  |some l,some [x]=>bif Nat.beq l.length n&&Nat.ble n 1000 then some (P8 (AH l nm us x)) else none
  |_,_=>none
 |_=>none
def Af5 (args:List PV):Option A2:=
 match args with
 |[.lst false 3 n c,.sc (.string nm),.agg s]=>
  match Sv c,L0 s with
  |some l,some [x]=>bif Nat.beq l.length n&&Nat.ble n 1000 then some (P8 (FY l nm x)) else none
  |_,_=>none
 |_=>none
def Ae3 (args:List PV):Option A2:=
 match args with
 |[.lst false 3 n c,.sc (.string nm),.lst false 1 k i]=>
  match Sv c,u8L i with
  |some l,some id=>bif Nat.beq l.length n&&Nat.ble n 1000&&Nat.beq id.length k&&Nat.ble k 1000000 then some (P8 (FZ l nm id)) else none
  |_,_=>none
 |_=>none
end
section
open Go.IntKind (wrap)
def CD:PV->Bool
 |.sc (.int .i64 _)=>true
 |_=>false
def Ad4 (args:List PV):Option A2:=
 match args with
 |[.own 2 n c,.sc (.int .i64 i),.tup [.own 2 1 [.sc (.int .i64 f),.sc (.int .i64 l)]]]=>
  bif Nat.beq c.length (n*2)&&decide (0<=i)&&decide (i<=n)&&Nat.ble n 100000&&c.all CD then
   some ⟨[.own 2 (n+1) (c.take (i.toNat*2)++(.sc (.int .i64 f) :: .sc (.int .i64 l)::c.drop (i.toNat*2)))],[[.sc (.int .i64 f),.sc (.int .i64 l)]]⟩
  else none
 |_=>none
def Ih (f:FuncId):Option (List PV->Option A2):=
 bif Nat.beq f 36 then some Sg else
 bif Nat.beq f 46 then some Ad4 else
 bif Nat.beq f 11 then some Aeg else
 bif Nat.beq f 18 then some Af5 else
 bif Nat.beq f 16 then some Ae3 else
 bif Nat.beq f 1000000 then some (fun _=>none) else none
abbrev C0:Gt:=CX Ih
end
section
open Go.Proofs.Try (prog)
open Go.IntKind (wrap)
set_option maxRecDepth 100000
abbrev Uv:FuncId:=32
theorem GB {xs:FuncId->Option (List PV->Option A2)} (fu d Ap:Nat)(a0:List PV):Ag (CX xs) prog fu (d+1) Uv [.lst false 1 Ap a0]=(fun (call:Ai)=>Bd (decide (0<Ap)) (An (decide (a0.length=Ap*1)&&decide ((0+Ap)*1<=1099511627776)&&decide (0+Ap<=1099511627776))<|Ab (0+Ap) fun x1=>Ab ([]++a0) fun x2=>An (decide (x1*1<=x2.length))<|some (A2.mk [.own 1 x1 (List.take (x1*1) x2)] [])) (AE (some (A2.mk [.own 1 0 []] [])) (An (decide (a0.length=Ap*1)&&decide ((0+Ap)*1<=1099511627776)&&decide (0+Ap<=1099511627776))<|Ab (0+Ap) fun x3=>Ab ([]++a0) fun x4=>An (decide (x3*1<=x4.length))<|some (A2.mk [.own 1 x3 (List.take (x3*1) x4)] [])))) (Ag (CX xs) prog fu d):=by kernel_rfl
abbrev Up:FuncId:=55
theorem GH {xs:FuncId->Option (List PV->Option A2)} (fu d Ap:Nat)(a0:List PV)(Hi:Nat)(a1:List PV):Ag (CX xs) prog fu (d+1) Up [.lst false 1 Ap a0,.lst false 1 Hi a1]=(fun (call:Ai)=>An (decide (a0.length=Ap))<|Dm (bytesOf a0) fun x1=>An (decide (a1.length=Hi))<|Dm (bytesOf a1) fun x2=>some (A2.mk [.sc (.bool (Array.toList (ByteArray.data (ByteArray.mk (List.toArray x1)))==Array.toList (ByteArray.data (ByteArray.mk (List.toArray x2)))))] [])) (Ag (CX xs) prog fu d):=by kernel_rfl
abbrev Lh:FuncId:=48
theorem Sf {xs:FuncId->Option (List PV->Option A2)} (fu d Ap:Nat)(a0:List PV):Ag (CX xs) prog fu (d+1) Lh [.lst false 2 Ap a0]=(fun (call:Ai)=>Bd (decide (0<Ap)) (An (decide (a0.length=Ap*2)&&decide ((0+Ap)*16<=1099511627776)&&decide (0+Ap<=1099511627776))<|Ab (0+Ap) fun x1=>Ab ([]++a0) fun x2=>An (decide (x1*2<=x2.length))<|some (A2.mk [.own 2 x1 (List.take (x1*2) x2)] [])) (AE (some (A2.mk [.own 2 0 []] [])) (An (decide (a0.length=Ap*2)&&decide ((0+Ap)*16<=1099511627776)&&decide (0+Ap<=1099511627776))<|Ab (0+Ap) fun x3=>Ab ([]++a0) fun x4=>An (decide (x3*2<=x4.length))<|some (A2.mk [.own 2 x3 (List.take (x3*2) x4)] [])))) (Ag (CX xs) prog fu d):=by kernel_rfl
abbrev K5:FuncId:=31
theorem S7 {xs:FuncId->Option (List PV->Option A2)} (fu d Fb:Nat)(Di:List PV)(De D9:Int)(G1 Q1:Int)(Qu:Bool)(Q9:Int)(Jj:Nat)(Qp:List PV)(Q3:Bool)(Q6 Jh:Int):Ag (CX xs) prog fu (d+1) K5 [.agg [.lst false 1 Fb Di,.sc (.int .i64 De),.sc (.int .u64 D9),.sc (.int .u64 G1),.sc (.int .i64 Q1),.sc (.bool Qu),.sc (.int .u64 Q9),.lst false 2 Jj Qp,.sc (.bool Q3),.sc (.int .i64 Q6),.sc (.int .i64 Jh)]]=(fun (call:Ai)=>Af (call 32 [.lst false 1 Fb Di]) fun x1 x2=>Ac x2<|Aa x1 fun x3 x4=>Kc 1 x3 fun x5 x6=>Ac x4<|Af (call 48 [.lst false 2 Jj Qp]) fun x7 x8=>Ac x8<|Aa x7 fun x9 H5=>Kc 2 x9 fun Ib H6=>Ac H5<|An (decide (x5*1<=x6.length))<|An (decide (Ib*2<=H6.length))<|some (A2.mk [.agg [.own 1 x5 (List.take (x5*1) x6),.sc (.int .i64 De),.sc (.int .u64 D9),.sc (.int .u64 G1),.sc (.int .i64 Q1),.sc (.bool Qu),.sc (.int .u64 Q9),.own 2 Ib (List.take (Ib*2) H6),.sc (.bool Q3),.sc (.int .i64 Q6),.sc (.int .i64 Jh)]] [])) (Ag (CX xs) prog fu d):=by kernel_rfl
abbrev Sr:FuncId:=14
noncomputable def H2 (fu:Nat)(call:Ai)(Ap:Nat)(a0:List PV)(a1:ByteArray)(nn:Nat)(y0:ByteArray)(y1:Nat)(y2:List PV)(y3 y4:Int):Option A2:=Ct CB prog fu call 14 Try.f14 (Bz Try.f14) [.lst false 3 Ap a0,.sc (.string a1)] [.r,.l,.r,.l] nn ⟨lk [(1,(.sc (.string y0))),(8,(.lst false 3 y1 y2)),(9,(.sc (.int .i64 y3))),(10,(.sc (.int .i64 y4)))],Fx []⟩
theorem Ob (fu:Nat)(call:Ai)(Ap:Nat)(a0:List PV)(a1:ByteArray)(nn:Nat)(y0:ByteArray)(y1:Nat)(y2:List PV)(y3 y4:Int):H2 fu call Ap a0 a1 (nn+1) y0 y1 y2 y3 y4=(Bd (decide (y4<y3)) (An (decide (0<=y4)&&decide (y4<(↑y1:Int)))<|E2 (List.getD y2 (Int.toNat y4*3) .top) fun x1=>E2 (List.getD y2 (Int.toNat y4*3+1) .top) fun x2=>Ca 11 (List.getD y2 (Int.toNat y4*3+1+1) .top) fun x3 x4 x5=>Bd (Array.toList (ByteArray.data x1)==Array.toList (ByteArray.data y0)) (some (A2.mk [.sc (.int .i64 y4),.sc (.bool true)] [])) (Ab (wrap .i64 (y4+1)) fun x6=>H2 fu call Ap a0 a1 (nn) (y0) (y1) (y2) (y3) x6)) (some (A2.mk [.sc (.int .i64 0),.sc (.bool false)] []))):=by kernel_rfl
theorem DS {xs:FuncId->Option (List PV->Option A2)} (fu d Ap:Nat)(a0:List PV)(a1:ByteArray):Ag (CX xs) prog fu (d+1) Sr [.lst false 3 Ap a0,.sc (.string a1)]=(fun (call:Ai)=>H2 fu call Ap a0 a1 (fu) (a1) (Ap) (a0) ((↑Ap:Int)) 0) (Ag (CX xs) prog fu d):=by kernel_rfl
abbrev Mv:FuncId:=43
noncomputable def Fk (fu:Nat)(call:Ai)(Di De:ByteArray)(I7:Nat)(D9:List PV)(Hi:Nat)(a1:List PV)(nn y0:Nat)(y1:List PV)(y2:Nat)(y3:List PV)(y4 y5:Int):Option A2:=Ct CB prog fu call 43 Try.f43 (Bz Try.f43) [.agg [.sc (.string Di),.sc (.string De),.lst false 11 I7 D9],.lst false 1 Hi a1] [.r,.l,.r,.l] nn ⟨lk [(1,(.lst false 1 y0 y1)),(9,(.lst false 11 y2 y3)),(10,(.sc (.int .i64 y4))),(11,(.sc (.int .i64 y5)))],Fx []⟩
theorem J2 (fu:Nat)(call:Ai)(Di De:ByteArray)(I7:Nat)(D9:List PV)(Hi:Nat)(a1:List PV)(nn y0:Nat)(y1:List PV)(y2:Nat)(y3:List PV)(y4 y5:Int):Fk fu call Di De I7 D9 Hi a1 (nn+1) y0 y1 y2 y3 y4 y5=(Bd (decide (y5<y4)) (An (decide (0<=y5)&&decide (y5<(↑y2:Int)))<|Ca 1 (List.getD y3 (Int.toNat y5*11) .top) fun x1 x2 x3=>Ae .i64 (List.getD y3 (Int.toNat y5*11+1) .top) fun x4=>Ae .u64 (List.getD y3 (Int.toNat y5*11+1+1) .top) fun x5=>Ae .u64 (List.getD y3 (Int.toNat y5*11+1+1+1) .top) fun x6=>Ae .i64 (List.getD y3 (Int.toNat y5*11+1+1+1+1) .top) fun x7=>Av (List.getD y3 (Int.toNat y5*11+1+1+1+1+1) .top) fun x8=>Ae .u64 (List.getD y3 (Int.toNat y5*11+1+1+1+1+1+1) .top) fun x9=>Ca 2 (List.getD y3 (Int.toNat y5*11+1+1+1+1+1+1+1) .top) fun H5 Ib H6=>Av (List.getD y3 (Int.toNat y5*11+1+1+1+1+1+1+1+1) .top) fun L9=>Ae .i64 (List.getD y3 (Int.toNat y5*11+1+1+1+1+1+1+1+1+1) .top) fun K7=>Ae .i64 (List.getD y3 (Int.toNat y5*11+1+1+1+1+1+1+1+1+1+1) .top) fun K8=>Af (call 55 [.lst false 1 x2 x3,.lst false 1 y0 y1]) fun Nl Pz=>Ac Pz<|Aa Nl fun M3 Hx=>Av M3 fun Mt=>Ac Hx<|Bd Mt (some (A2.mk [.sc (.int .i64 y5),.sc (.bool true)] [])) (Ab (wrap .i64 (y5+1)) fun Mm=>Fk fu call Di De I7 D9 Hi a1 (nn) (y0) (y1) (y2) (y3) (y4) Mm)) (some (A2.mk [.sc (.int .i64 0),.sc (.bool false)] []))):=by kernel_rfl
theorem Vg {xs:FuncId->Option (List PV->Option A2)} (fu d:Nat)(Di De:ByteArray)(I7:Nat)(D9:List PV)(Hi:Nat)(a1:List PV):Ag (CX xs) prog fu (d+1) Mv [.agg [.sc (.string Di),.sc (.string De),.lst false 11 I7 D9],.lst false 1 Hi a1]=(fun (call:Ai)=>Fk fu call Di De I7 D9 Hi a1 (fu) (Hi) (a1) (I7) (D9) ((↑I7:Int)) 0) (Ag (CX xs) prog fu d):=by kernel_rfl
abbrev Ru:FuncId:=23
noncomputable def G8 (fu:Nat)(call:Ai)(Ap:Nat)(a0:List PV)(Hi:Nat)(a1:List PV)(nn y0:Nat)(y1:List PV)(y2:Nat)(y3:List PV)(y4 y5:Int):Option A2:=Ct CB prog fu call 23 Try.f23 (Bz Try.f23) [.lst false 3 Ap a0,.lst false 1 Hi a1] [.r,.l,.r,.l] nn ⟨lk [(1,(.lst false 1 y0 y1)),(11,(.lst false 3 y2 y3)),(12,(.sc (.int .i64 y4))),(13,(.sc (.int .i64 y5)))],Fx []⟩
theorem Nd (fu:Nat)(call:Ai)(Ap:Nat)(a0:List PV)(Hi:Nat)(a1:List PV)(nn y0:Nat)(y1:List PV)(y2:Nat)(y3:List PV)(y4 y5:Int):G8 fu call Ap a0 Hi a1 (nn+1) y0 y1 y2 y3 y4 y5=(Bd (decide (y5<y4)) (An (decide (0<=y5)&&decide (y5<(↑y2:Int)))<|E2 (List.getD y3 (Int.toNat y5*3) .top) fun x1=>E2 (List.getD y3 (Int.toNat y5*3+1) .top) fun x2=>Ca 11 (List.getD y3 (Int.toNat y5*3+1+1) .top) fun x3 x4 x5=>Af (call 43 [.agg [.sc (.string x1),.sc (.string x2),.lst false 11 x4 x5],.lst false 1 y0 y1]) fun x6 x7=>Ac x7<|Aa x6 fun x8 x9=>Ae .i64 x8 fun H5=>Aa x9 fun Ib H6=>Av Ib fun L9=>Ac H6<|Bd L9 (some (A2.mk [.sc (.int .i64 y5),.sc (.int .i64 H5),.sc (.bool true)] [])) (Ab (wrap .i64 (y5+1)) fun K7=>G8 fu call Ap a0 Hi a1 (nn) (y0) (y1) (y2) (y3) (y4) K7)) (some (A2.mk [.sc (.int .i64 0),.sc (.int .i64 0),.sc (.bool false)] []))):=by kernel_rfl
theorem AP {xs:FuncId->Option (List PV->Option A2)} (fu d Ap:Nat)(a0:List PV)(Hi:Nat)(a1:List PV):Ag (CX xs) prog fu (d+1) Ru [.lst false 3 Ap a0,.lst false 1 Hi a1]=(fun (call:Ai)=>G8 fu call Ap a0 Hi a1 (fu) (Hi) (a1) (Ap) (a0) ((↑Ap:Int)) 0) (Ag (CX xs) prog fu d):=by kernel_rfl
abbrev Pw:FuncId:=37
theorem Y2 {xs:FuncId->Option (List PV->Option A2)} (fu d Ap:Nat)(a0:List PV)(a1:ByteArray)(Py:Nat)(a2:List PV):Ag (CX xs) prog fu (d+1) Pw [.lst false 3 Ap a0,.sc (.string a1),.lst false 1 Py a2]=(fun (call:Ai)=>Af (call 14 [.lst false 3 Ap a0,.sc (.string a1)]) fun x1 x2=>Ac x2<|Aa x1 fun x3 x4=>Ae .i64 x3 fun x5=>Aa x4 fun x6 x7=>Av x6 fun x8=>Ac x7<|Bd (!x8) (some (A2.mk [.sc (.int .i64 0),.sc (.int .i64 0),.sc (.bool false)] [])) (An (decide (0<=x5)&&decide (x5<(↑Ap:Int)))<|E2 (List.getD a0 (Int.toNat x5*3) .top) fun x9=>E2 (List.getD a0 (Int.toNat x5*3+1) .top) fun H5=>Ca 11 (List.getD a0 (Int.toNat x5*3+1+1) .top) fun Ib H6 L9=>Af (call 43 [.agg [.sc (.string x9),.sc (.string H5),.lst false 11 H6 L9],.lst false 1 Py a2]) fun K7 K8=>Ac K8<|Aa K7 fun Nl Pz=>Ae .i64 Nl fun M3=>Aa Pz fun Hx Mt=>Av Hx fun Mm=>Ac Mt<|some (A2.mk [.sc (.int .i64 x5),.sc (.int .i64 M3),.sc (.bool Mm)] []))) (Ag (CX xs) prog fu d):=by kernel_rfl
end
section
open Go.Proofs.Try (prog)
open Go.IntKind (wrap)
set_option maxRecDepth 100000
abbrev Da:FuncId:=62
noncomputable def Bi (fu:Nat)(call:Ai)(n:Nat)(c:List PV)(a1 a2:Int)(nn y0:Nat)(y1 y2 y3:Int)(y4:List PV):Option A2:=Ct CB prog fu call 62 Try.f62 (Bz Try.f62) [PV.tup [.own 1 n c],.sc (.int .i64 a1),.sc (.int .i64 a2),.sc (Value.func (Fn.func (36:FuncId)) #[] #[])] [.r,.l] nn ⟨lk [(0,(.view 106000 1 0 y0)),(1,(.sc (.int .i64 y1))),(2,(.sc (.int .i64 y2))),(3,(.sc (Value.func (Fn.func (36:FuncId)) #[] #[]))),(8,(.sc (.int .i64 y3)))],Fx [(106000,(.ar false y4))]⟩
noncomputable def Cd (fu:Nat)(call:Ai)(n:Nat)(c:List PV)(a1 a2:Int)(m0 nn y0:Nat)(y1 y2:Int)(y3 y4:Int)(y5:List PV):Option A2:=Ct CB prog fu call 62 Try.f62 (Bz Try.f62) [PV.tup [.own 1 n c],.sc (.int .i64 a1),.sc (.int .i64 a2),.sc (Value.func (Fn.func (36:FuncId)) #[] #[])] [.r,.l,.i m0,.r,.l,.l,.r,.l] nn ⟨lk [(0,(.view 106000 1 0 y0)),(1,(.sc (.int .i64 y1))),(2,(.sc (.int .i64 y2))),(3,(.sc (Value.func (Fn.func (36:FuncId)) #[] #[]))),(8,(.sc (.int .i64 y3))),(9,(.sc (.int .i64 y4)))],Fx [(106000,(.ar false y5))]⟩
theorem Eb (fu:Nat)(call:Ai)(n:Nat)(c:List PV)(a1 a2:Int)(nn y0:Nat)(y1 y2 y3:Int)(y4:List PV):Bi fu call n c a1 a2 (nn+1) y0 y1 y2 y3 y4=(Bd (decide (y3<y2)) (Cd fu call n c a1 a2 nn (fu) (y0) (y1) (y2) (y3) (y3) (y4)) (some (A2.mk [] [y4]))):=by kernel_rfl
theorem Ed (fu:Nat)(call:Ai)(n:Nat)(c:List PV)(a1 a2:Int)(m0 nn y0:Nat)(y1 y2:Int)(y3 y4:Int)(y5:List PV):Cd fu call n c a1 a2 m0 (nn+1) y0 y1 y2 y3 y4 y5=(Bd (decide (y4>y1)) (An (decide (0<=y4)&&decide (y4<(↑y0:Int)))<|Ca 1 (List.getD y5 (0+Int.toNat y4*1) .top) fun x2 x3 x4=>Ab (wrap .i64 (y4-1)) fun x5=>An (decide (0<=x5)&&decide (x5<(↑y0:Int)))<|Ca 1 (List.getD y5 (0+Int.toNat x5*1) .top) fun x6 x7 x8=>Af (call (36:FuncId) [.lst false 1 x3 x4,.lst false 1 x7 x8]) fun x9 H5=>Ac H5<|Aa x9 fun Ib H6=>Ae .i64 Ib fun L9=>Ac H6<|Bd (decide (L9<0)) (Ab (wrap .i64 (y4-1)) fun K7=>Ab (wrap .i64 (y4-1)) fun K8=>An (decide (0<=K8)&&decide (K8<(↑y0:Int)))<|Ca 1 (List.getD y5 (0+Int.toNat K8*1) .top) fun Nl Pz M3=>An (decide (0<=y4)&&decide (y4<(↑y0:Int)))<|Ca 1 (List.getD y5 (0+Int.toNat y4*1) .top) fun Hx Mt Mm=>An (decide (0<=y4)&&decide (y4<(↑y0:Int)))<|An (decide (0+Int.toNat y4*1+1<=y5.length))<|Ab (Bl y5 [.lst false 1 Pz M3] (0+Int.toNat y4*1)) fun Qg=>An (decide (0<=K7)&&decide (K7<(↑y0:Int)))<|An (decide (0+Int.toNat K7*1+1<=Qg.length))<|Ab (Bl Qg [.lst false 1 Mt Mm] (0+Int.toNat K7*1)) fun Ro=>Ab (wrap .i64 (y4-1)) fun P3=>Cd fu call n c a1 a2 m0 (nn) (y0) (y1) (y2) (y3) P3 Ro) (Ab (wrap .i64 (y3+1)) fun Y5=>Bi fu call n c a1 a2 (m0) (y0) (y1) (y2) Y5 (y5))) (Ab (wrap .i64 (y3+1)) fun X7=>Bi fu call n c a1 a2 (m0) (y0) (y1) (y2) X7 (y5))):=by kernel_rfl
theorem H3 (fu d n:Nat)(c:List PV)(a1 a2:Int):Ag C0 prog fu (d+1) Da [PV.tup [.own 1 n c],.sc (.int .i64 a1),.sc (.int .i64 a2),.sc (Value.func (Fn.func (36:FuncId)) #[] #[])]=(fun (call:Ai)=>Ab (wrap .i64 (a1+1)) fun x1=>Bi fu call n c a1 a2 (fu) (n) (a1) (a2) x1 (c)) (Ag C0 prog fu d):=by kernel_rfl
abbrev F3:FuncId:=51
noncomputable def Fy (fu:Nat)(call:Ai)(n:Nat)(c:List PV)(a1 a2 a3:Int)(nn y0:Nat)(y1 y2 y3:Int)(y4 y5:Bool)(y6:List PV):Option A2:=Ct CB prog fu call 51 Try.f51 (Bz Try.f51) [PV.tup [.own 1 n c],.sc (.int .i64 a1),.sc (.int .i64 a2),.sc (.int .i64 a3),.sc (Value.func (Fn.func (36:FuncId)) #[] #[])] [.r,.r,.l] nn ⟨lk [(0,(.view 296000 1 0 y0)),(1,(.sc (.int .i64 y1))),(2,(.sc (.int .i64 y2))),(3,(.sc (.int .i64 y3))),(4,(.sc (Value.func (Fn.func (36:FuncId)) #[] #[]))),(10,(.sc (.bool y4))),(11,(.sc (.bool y5)))],Fx [(296000,(.ar false y6))]⟩
noncomputable def Ar (fu:Nat)(call:Ai)(n:Nat)(c:List PV)(a1 a2 a3:Int)(m0 nn y0:Nat)(y1 y2 y3:Int)(y4 y5:Bool)(y6 y7:Int)(y8:List PV):Option A2:=Ct CB prog fu call 51 Try.f51 (Bz Try.f51) [PV.tup [.own 1 n c],.sc (.int .i64 a1),.sc (.int .i64 a2),.sc (.int .i64 a3),.sc (Value.func (Fn.func (36:FuncId)) #[] #[])] [.r,.r,.l,.i m0,.l,.r,.r,.r,.r,.r,.r] nn ⟨lk [(0,(.view 296000 1 0 y0)),(1,(.sc (.int .i64 y1))),(2,(.sc (.int .i64 y2))),(3,(.sc (.int .i64 y3))),(4,(.sc (Value.func (Fn.func (36:FuncId)) #[] #[]))),(10,(.sc (.bool y4))),(11,(.sc (.bool y5))),(12,(.sc (.int .i64 y6))),(13,(.sc (.int .i64 y7)))],Fx [(296000,(.ar false y8))]⟩
theorem Ju (fu:Nat)(call:Ai)(n:Nat)(c:List PV)(a1 a2 a3:Int)(nn y0:Nat)(y1 y2 y3:Int)(y4 y5:Bool)(y6:List PV):Fy fu call n c a1 a2 a3 (nn+1) y0 y1 y2 y3 y4 y5 y6=(Ab (wrap .i64 (y2-y1)) fun x1=>Bd (decide (x1<=12)) (Af (call 62 [PV.tup [.own 1 y0 y6],.sc (.int .i64 y1),.sc (.int .i64 y2),.sc (Value.func (Fn.func (36:FuncId)) #[] #[])]) fun x2 x3=>Ac x2<|Aa x3 fun x4 x5=>Ac x5<|some (A2.mk [] [x4])) (Bd (y3==0) (Af (call 63 [PV.tup [.own 1 y0 y6],.sc (.int .i64 y1),.sc (.int .i64 y2),.sc (Value.func (Fn.func (36:FuncId)) #[] #[])]) fun x6 x7=>Ac x6<|Aa x7 fun x8 x9=>Ac x9<|some (A2.mk [] [x8])) (Bd (!y4) (Af (call 64 [PV.tup [.own 1 y0 y6],.sc (.int .i64 y1),.sc (.int .i64 y2),.sc (Value.func (Fn.func (36:FuncId)) #[] #[])]) fun H5 Ib=>Ac H5<|Aa Ib fun H6 L9=>Ac L9<|Ab (wrap .i64 (y3-1)) fun K7=>Af (call 65 [PV.tup [.own 1 y0 H6],.sc (.int .i64 y1),.sc (.int .i64 y2),.sc (Value.func (Fn.func (36:FuncId)) #[] #[])]) fun K8 Nl=>Aa K8 fun Pz M3=>Ae .i64 Pz fun Hx=>Aa M3 fun Mt Mm=>Ae .i64 Mt fun Qg=>Ac Mm<|Aa Nl fun Ro P3=>Ac P3<|Bd (Qg==2) (Af (call 66 [PV.tup [.own 1 y0 Ro],.sc (.int .i64 y1),.sc (.int .i64 y2),.sc (Value.func (Fn.func (36:FuncId)) #[] #[])]) fun Y5 X7=>Ac Y5<|Aa X7 fun Ub FC=>Ac FC<|Ab (wrap .i64 (y2-1)) fun Ul=>Ab (wrap .i64 (Hx-y1)) fun O2=>Ab (wrap .i64 (Ul-O2)) fun Sq=>Bd (y4) (Bd (y5) (Af (call 67 [PV.tup [.own 1 y0 Ub],.sc (.int .i64 y1),.sc (.int .i64 y2),.sc (Value.func (Fn.func (36:FuncId)) #[] #[])]) fun Zq V2=>Aa Zq fun X3 DR=>Av X3 fun AJ=>Ac DR<|Aa V2 fun Yt HE=>Ac HE<|Bd AJ (some (A2.mk [] [Yt])) (Ar fu call n c a1 a2 a3 nn (fu) (y0) (y1) (y2) K7 (y4) (y5) x1 Sq Yt)) (Ar fu call n c a1 a2 a3 nn (fu) (y0) (y1) (y2) K7 (y4) (y5) x1 Sq Ub)) (Ar fu call n c a1 a2 a3 nn (fu) (y0) (y1) (y2) K7 (y4) (y5) x1 Sq Ub)) (Bd (y4) (Bd (y5) (Bd (Qg==1) (Af (call 67 [PV.tup [.own 1 y0 Ro],.sc (.int .i64 y1),.sc (.int .i64 y2),.sc (Value.func (Fn.func (36:FuncId)) #[] #[])]) fun LY BV=>Aa LY fun NB PW=>Av NB fun BW=>Ac PW<|Aa BV fun Oz MF=>Ac MF<|Bd BW (some (A2.mk [] [Oz])) (Ar fu call n c a1 a2 a3 nn (fu) (y0) (y1) (y2) K7 (y4) (y5) x1 Hx Oz)) (Ar fu call n c a1 a2 a3 nn (fu) (y0) (y1) (y2) K7 (y4) (y5) x1 Hx Ro)) (Ar fu call n c a1 a2 a3 nn (fu) (y0) (y1) (y2) K7 (y4) (y5) x1 Hx Ro)) (Ar fu call n c a1 a2 a3 nn (fu) (y0) (y1) (y2) K7 (y4) (y5) x1 Hx Ro))) (Af (call 65 [PV.tup [.own 1 y0 y6],.sc (.int .i64 y1),.sc (.int .i64 y2),.sc (Value.func (Fn.func (36:FuncId)) #[] #[])]) fun NF PZ=>Aa NF fun OG RG=>Ae .i64 OG fun EI=>Aa RG fun RB RQ=>Ae .i64 RB fun ND=>Ac RQ<|Aa PZ fun X9 FV=>Ac FV<|Bd (ND==2) (Af (call 66 [PV.tup [.own 1 y0 X9],.sc (.int .i64 y1),.sc (.int .i64 y2),.sc (Value.func (Fn.func (36:FuncId)) #[] #[])]) fun RV BN=>Ac RV<|Aa BN fun GT MA=>Ac MA<|Ab (wrap .i64 (y2-1)) fun NA=>Ab (wrap .i64 (EI-y1)) fun GJ=>Ab (wrap .i64 (NA-GJ)) fun HL=>Bd (y4) (Bd (y5) (Af (call 67 [PV.tup [.own 1 y0 GT],.sc (.int .i64 y1),.sc (.int .i64 y2),.sc (Value.func (Fn.func (36:FuncId)) #[] #[])]) fun WY ID=>Aa WY fun TN UD=>Av TN fun WO=>Ac UD<|Aa ID fun Zw FD=>Ac FD<|Bd WO (some (A2.mk [] [Zw])) (Ar fu call n c a1 a2 a3 nn (fu) (y0) (y1) (y2) (y3) (y4) (y5) x1 HL Zw)) (Ar fu call n c a1 a2 a3 nn (fu) (y0) (y1) (y2) (y3) (y4) (y5) x1 HL GT)) (Ar fu call n c a1 a2 a3 nn (fu) (y0) (y1) (y2) (y3) (y4) (y5) x1 HL GT)) (Bd (y4) (Bd (y5) (Bd (ND==1) (Af (call 67 [PV.tup [.own 1 y0 X9],.sc (.int .i64 y1),.sc (.int .i64 y2),.sc (Value.func (Fn.func (36:FuncId)) #[] #[])]) fun x70 HT=>Aa x70 fun To VJ=>Av To fun NY=>Ac VJ<|Aa HT fun Td x76=>Ac x76<|Bd NY (some (A2.mk [] [Td])) (Ar fu call n c a1 a2 a3 nn (fu) (y0) (y1) (y2) (y3) (y4) (y5) x1 EI Td)) (Ar fu call n c a1 a2 a3 nn (fu) (y0) (y1) (y2) (y3) (y4) (y5) x1 EI X9)) (Ar fu call n c a1 a2 a3 nn (fu) (y0) (y1) (y2) (y3) (y4) (y5) x1 EI X9)) (Ar fu call n c a1 a2 a3 nn (fu) (y0) (y1) (y2) (y3) (y4) (y5) x1 EI X9)))))):=by kernel_rfl
theorem Lo (fu d n:Nat)(c:List PV)(a1 a2 a3:Int):Ag C0 prog fu (d+1) F3 [PV.tup [.own 1 n c],.sc (.int .i64 a1),.sc (.int .i64 a2),.sc (.int .i64 a3),.sc (Value.func (Fn.func (36:FuncId)) #[] #[])]=(fun (call:Ai)=>Fy fu call n c a1 a2 a3 (fu) (n) (a1) (a2) (a3) (true) (true) (c)) (Ag C0 prog fu d):=by kernel_rfl
abbrev F2:FuncId:=35
theorem Q8 (fu d n:Nat)(c:List PV):Ag C0 prog fu (d+1) F2 [PV.tup [.own 1 n c],.sc (Value.func (Fn.func (36:FuncId)) #[] #[])]=(fun (call:Ai)=>Ab (wrap .u64 (↑n:Int)) fun x1=>Af (call 52 [.sc (.int .u64 x1)]) fun x2 x3=>Ac x3<|Aa x2 fun x4 x5=>Ae .i64 x4 fun x6=>Ac x5<|Af (call 51 [PV.tup [.own 1 n c],.sc (.int .i64 0),.sc (.int .i64 (↑n:Int)),.sc (.int .i64 x6),.sc (Value.func (Fn.func (36:FuncId)) #[] #[])]) fun x7 x8=>Ac x7<|Aa x8 fun x9 H5=>Ac H5<|some (A2.mk [] [x9])) (Ag C0 prog fu d):=by kernel_rfl
end
section
open Go.Proofs.Try (prog)
open Go.IntKind (wrap)
set_option maxRecDepth 100000
abbrev Ox:FuncId:=34
noncomputable def I6 (fu:Nat)(call:Ai)(a0 a1 a2:Int)(nn:Nat)(y0 y1 y2:Int)(y3:Nat)(y4:Int)(y5:List PV):Option A2:=Ct CB prog fu call 34 Try.f34 (Bz Try.f34) [.sc (.int .u64 a0),.sc (.int .u64 a1),.sc (.int .i64 a2)] [.r,.r,.r,.l,.r,.l] nn ⟨lk [(0,(.sc (.int .u64 y0))),(1,(.sc (.int .u64 y1))),(2,(.sc (.int .i64 y2))),(7,(.view 7 1 0 y3)),(8,(.sc (.int .u64 y4)))],Fx [(7,(.ar false y5))]⟩
theorem O5 (fu:Nat)(call:Ai)(a0 a1 a2:Int)(nn:Nat)(y0 y1 y2:Int)(y3:Nat)(y4:Int)(y5:List PV):I6 fu call a0 a1 a2 (nn+1) y0 y1 y2 y3 y4 y5=(Bd (decide ((↑y3:Int)<y2)) (Af (call 50 [.lst false 1 2 [.sc (.int .u64 y1),.sc (.int .u64 y4)]]) fun x4 x5=>Ac x5<|Aa x4 fun x6 x7=>Kc 1 x6 fun x8 x9=>Ac x7<|An (decide (0+x8*1<=x9.length))<|Af (call 33 [.sc (.int .u64 y0),.sc (.int .i64 5),.lst false 1 x8 (List.take (x8*1) (List.drop 0 x9))]) fun H5 Ib=>Ac Ib<|Aa H5 fun H6 L9=>Ae .u64 H6 fun K7=>Ac L9<|Af (call 50 [.lst false 1 1 [.sc (.int .u64 K7)]]) fun K8 Nl=>Ac Nl<|Aa K8 fun Pz M3=>Kc 1 Pz fun Hx Mt=>Ac M3<|An (decide (0+Hx*1<=Mt.length))<|An (decide (y3*1<=y5.length)&&decide (List.length (List.take (Hx*1) (List.drop 0 Mt))=Hx*1)&&decide ((y3+Hx)*1<=1099511627776)&&decide (y3+Hx<=1099511627776))<|Ab (y3+Hx) fun Mm=>Ab (List.take (y3*1) y5++List.take (Hx*1) (List.drop 0 Mt)) fun Qg=>Ab (wrap .u64 (y4+1)) fun Ro=>I6 fu call a0 a1 a2 (nn) (y0) (y1) (y2) Mm Ro Qg) (An (decide (0<=y2))<|An (decide (Int.toNat y2<=y3))<|Ab (Int.toNat y2-0) fun P3=>An (decide (P3*1<=y5.length))<|some (A2.mk [.own 1 P3 (List.take (P3*1) y5)] []))):=by kernel_rfl
theorem GW (fu d:Nat)(a0 a1 a2:Int):Ag C0 prog fu (d+1) Ox [.sc (.int .u64 a0),.sc (.int .u64 a1),.sc (.int .i64 a2)]=(fun (call:Ai)=>Ab (if a2<0 then 0 else a2) fun x1=>Ab (if 1024<x1 then 1024 else x1) fun x2=>Ab (wrap .i64 (x2+8)) fun x3=>An (decide (0<=x3)&&decide (x3*1<=1099511627776)&&decide (x3<=1099511627776))<|I6 fu call a0 a1 a2 (fu) (a0) (a1) x2 0 0 ([])) (Ag C0 prog fu d):=by kernel_rfl
abbrev Gy:FuncId:=29
noncomputable def Ew (fu:Nat)(call:Ai)(a0 a1 a2:Int)(nn:Nat)(y0 y1 y2:Int)(y3:Nat)(y4:Int)(y5:List PV):Option A2:=Ct CB prog fu call 29 Try.f29 (Bz Try.f29) [.sc (.int .u64 a0),.sc (.int .u64 a1),.sc (.int .i64 a2)] [.r,.r,.r,.l,.r,.l] nn ⟨lk [(0,(.sc (.int .u64 y0))),(1,(.sc (.int .u64 y1))),(2,(.sc (.int .i64 y2))),(7,(.view 7 1 0 y3)),(8,(.sc (.int .i64 y4)))],Fx [(7,(.ar false y5))]⟩
theorem Ir (fu:Nat)(call:Ai)(a0 a1 a2:Int)(nn:Nat)(y0 y1 y2:Int)(y3:Nat)(y4:Int)(y5:List PV):Ew fu call a0 a1 a2 (nn+1) y0 y1 y2 y3 y4 y5=(Bd (decide ((↑y3:Int)<y2)) (Ab (wrap .u64 y4) fun x3=>Af (call 47 [.lst false 1 2 [.sc (.int .u64 y1),.sc (.int .u64 x3)]]) fun x4 x5=>Ac x5<|Aa x4 fun x6 x7=>Kc 1 x6 fun x8 x9=>Ac x7<|An (decide (0+x8*1<=x9.length))<|Af (call 45 [.sc (.int .u64 y0),.sc (.int .i64 5),.lst false 1 x8 (List.take (x8*1) (List.drop 0 x9))]) fun H5 Ib=>Ac Ib<|Aa H5 fun H6 L9=>Ae .u64 H6 fun K7=>Ac L9<|Af (call 47 [.lst false 1 1 [.sc (.int .u64 K7)]]) fun K8 Nl=>Ac Nl<|Aa K8 fun Pz M3=>Kc 1 Pz fun Hx Mt=>Ac M3<|An (decide (0+Hx*1<=Mt.length))<|An (decide (y3*1<=y5.length)&&decide (List.length (List.take (Hx*1) (List.drop 0 Mt))=Hx*1)&&decide ((y3+Hx)*1<=1099511627776)&&decide (y3+Hx<=1099511627776))<|Ab (y3+Hx) fun Mm=>Ab (List.take (y3*1) y5++List.take (Hx*1) (List.drop 0 Mt)) fun Qg=>Ab (wrap .i64 (y4+1)) fun Ro=>Ew fu call a0 a1 a2 (nn) (y0) (y1) (y2) Mm Ro Qg) (An (decide (0<=y2))<|An (decide (Int.toNat y2<=y3))<|Ab (Int.toNat y2-0) fun P3=>An (decide (P3*1<=y5.length))<|some (A2.mk [.own 1 P3 (List.take (P3*1) y5)] []))):=by kernel_rfl
theorem Sh (fu d:Nat)(a0 a1 a2:Int):Ag C0 prog fu (d+1) Gy [.sc (.int .u64 a0),.sc (.int .u64 a1),.sc (.int .i64 a2)]=(fun (call:Ai)=>Ab (if a2<0 then 0 else a2) fun x1=>Ab (if 1024<x1 then 1024 else x1) fun x2=>Ew fu call a0 a1 a2 (fu) (a0) (a1) x2 0 0 ([])) (Ag C0 prog fu d):=by kernel_rfl
abbrev Ho:FuncId:=9
theorem Uf (fu d:Nat)(a0 a1:Int):Ag C0 prog fu (d+1) Ho [.sc (.int .i64 a0),.sc (.int .i64 a1)]=(fun (call:Ai)=>Ab (wrap .u64 a0) fun x1=>Ab (wrap .u64 (x1+1)) fun x2=>Ab (if 1024<a1 then 1024 else a1) fun x3=>Ab (if x3<0 then 0 else x3) fun x4=>Af (call 29 [.sc (.int .u64 x2),.sc (.int .u64 7),.sc (.int .i64 x4)]) fun x5 x6=>Ac x6<|Aa x5 fun x7 x8=>Kc 1 x7 fun x9 H5=>Ac x8<|An (decide (x9*1<=H5.length))<|some (A2.mk [.own 1 x9 (List.take (x9*1) H5)] [])) (Ag C0 prog fu d):=by kernel_rfl
abbrev Jx:FuncId:=41
theorem R0 (fu d:Nat)(a0 a1 a2:Int):Ag C0 prog fu (d+1) Jx [.sc (.int .i64 a0),.sc (.int .i64 a1),.sc (.int .i64 a2)]=(fun (call:Ai)=>Bd (decide (a0>=a1)) (some (A2.mk [.sc (.bool (decide (a0<=a2)))] [])) (some (A2.mk [.sc (.bool false)] []))) (Ag C0 prog fu d):=by kernel_rfl
abbrev Pb:FuncId:=27
noncomputable def Oe (fu:Nat)(call:Ai)(Fb:Nat)(Di:List PV)(De D9:Int)(G1 Q1:Int)(Qu:Bool)(Q9:Int)(Jj:Nat)(Qp:List PV)(Q3:Bool)(Q6 Jh:Int)(a1 a2 a3:Int)(nn:Nat)(y0 y1 y2:Int)(y3:Nat)(y4 y5:Int)(y6 y7:Int)(y8:Bool)(y9:Int)(Fi:Nat)(Gi:Bool)(Ek Gh:Int)(Fu G5:List PV)(Ey:Nat)(Gl N7:Int)(Om Ny:Int)(Nz:Bool)(Ol:Int)(Oq:Nat)(Oj:Bool)(N3 Of:Int)(Oa I3:List PV):Option A2:=Ct CB prog fu call 27 Try.f27 (Bz Try.f27) [.agg [.lst false 1 Fb Di,.sc (.int .i64 De),.sc (.int .u64 D9),.sc (.int .u64 G1),.sc (.int .i64 Q1),.sc (.bool Qu),.sc (.int .u64 Q9),.lst false 2 Jj Qp,.sc (.bool Q3),.sc (.int .i64 Q6),.sc (.int .i64 Jh)],.sc (.int .i64 a1),.sc (.int .i64 a2),.sc (.int .i64 a3)] [.r,.r,.r] nn ⟨lk [(1,(.sc (.int .i64 y0))),(2,(.sc (.int .i64 y1))),(3,(.sc (.int .i64 y2))),(4,(.ptr 4 0)),(8,(.ptr 8 0))],Fx [(4,(.st [(.view 120 1 0 y3),(.sc (.int .i64 y4)),(.sc (.int .u64 y5)),(.sc (.int .u64 y6)),(.sc (.int .i64 y7)),(.sc (.bool y8)),(.sc (.int .u64 y9)),(.view 932 2 0 Fi),(.sc (.bool Gi)),(.sc (.int .i64 Ek)),(.sc (.int .i64 Gh))])),(120,(.ar false Fu)),(932,(.ar false G5)),(8,(.st [(.view 124 1 0 Ey),(.sc (.int .i64 Gl)),(.sc (.int .u64 N7)),(.sc (.int .u64 Om)),(.sc (.int .i64 Ny)),(.sc (.bool Nz)),(.sc (.int .u64 Ol)),(.view 936 2 0 Oq),(.sc (.bool Oj)),(.sc (.int .i64 N3)),(.sc (.int .i64 Of))])),(124,(.ar false Oa)),(936,(.ar false I3))]⟩
noncomputable def Gq (fu:Nat)(call:Ai)(Fb:Nat)(Di:List PV)(De D9:Int)(G1 Q1:Int)(Qu:Bool)(Q9:Int)(Jj:Nat)(Qp:List PV)(Q3:Bool)(Q6 Jh:Int)(a1 a2 a3:Int)(nn:Nat)(y0 y1:Int)(y2 y3 y4:Int)(y5:Nat)(y6 y7:Int)(y8 y9:Int)(Fi:Bool)(Gi:Int)(Ek:Nat)(Gh:Bool)(Fu G5:Int)(Ey Gl:List PV)(N7:Nat)(Om Ny:Int)(Nz Ol:Int)(Oq:Bool)(Oj:Int)(N3:Nat)(Of:Bool)(Oa I3:Int)(NI NC:List PV):Option A2:=Ct CB prog fu call 27 Try.f27 (Bz Try.f27) [.agg [.lst false 1 Fb Di,.sc (.int .i64 De),.sc (.int .u64 D9),.sc (.int .u64 G1),.sc (.int .i64 Q1),.sc (.bool Qu),.sc (.int .u64 Q9),.lst false 2 Jj Qp,.sc (.bool Q3),.sc (.int .i64 Q6),.sc (.int .i64 Jh)],.sc (.int .i64 a1),.sc (.int .i64 a2),.sc (.int .i64 a3)] [.r,.r,.r,.r,.r,.r,.r,.r,.l,.l] nn ⟨lk [(1,(.sc (.int .i64 y0))),(2,(.sc (.int .i64 y1))),(3,(.sc (.int .i64 y2))),(4,(.ptr 4 0)),(8,(.ptr 8 0)),(11,(.sc (.int .u64 y3))),(12,(.sc (.int .i64 y4)))],Fx [(4,(.st [(.view 120 1 0 y5),(.sc (.int .i64 y6)),(.sc (.int .u64 y7)),(.sc (.int .u64 y8)),(.sc (.int .i64 y9)),(.sc (.bool Fi)),(.sc (.int .u64 Gi)),(.view 932 2 0 Ek),(.sc (.bool Gh)),(.sc (.int .i64 Fu)),(.sc (.int .i64 G5))])),(120,(.ar false Ey)),(932,(.ar false Gl)),(8,(.st [(.view 124 1 0 N7),(.sc (.int .i64 Om)),(.sc (.int .u64 Ny)),(.sc (.int .u64 Nz)),(.sc (.int .i64 Ol)),(.sc (.bool Oq)),(.sc (.int .u64 Oj)),(.view 936 2 0 N3),(.sc (.bool Of)),(.sc (.int .i64 Oa)),(.sc (.int .i64 I3))])),(124,(.ar false NI)),(936,(.ar false NC))]⟩
theorem Ua (fu:Nat)(call:Ai)(Fb:Nat)(Di:List PV)(De D9:Int)(G1 Q1:Int)(Qu:Bool)(Q9:Int)(Jj:Nat)(Qp:List PV)(Q3:Bool)(Q6 Jh:Int)(a1 a2 a3:Int)(nn:Nat)(Dy:0<nn)(y0 y1 y2:Int)(y3:Nat)(y4 y5:Int)(y6 y7:Int)(y8:Bool)(y9:Int)(Fi:Nat)(Gi:Bool)(Ek Gh:Int)(Fu G5:List PV)(Ey:Nat)(Gl N7:Int)(Om Ny:Int)(Nz:Bool)(Ol:Int)(Oq:Nat)(Oj:Bool)(N3 Of:Int)(Oa I3:List PV):Oe fu call Fb Di De D9 G1 Q1 Qu Q9 Jj Qp Q3 Q6 Jh a1 a2 a3 nn y0 y1 y2 y3 y4 y5 y6 y7 y8 y9 Fi Gi Ek Gh Fu G5 Ey Gl N7 Om Ny Nz Ol Oq Oj N3 Of Oa I3=(Bd (Gi) (An (decide (0+y3*1<=Fu.length))<|An (decide (0+Fi*2<=G5.length))<|some (A2.mk [.agg [.lst false 1 y3 (List.take (y3*1) (List.drop 0 Fu)),.sc (.int .i64 y4),.sc (.int .u64 y5),.sc (.int .u64 y6),.sc (.int .i64 y7),.sc (.bool y8),.sc (.int .u64 y9),.lst false 2 Fi (List.take (Fi*2) (List.drop 0 G5)),.sc (.bool Gi),.sc (.int .i64 Ek),.sc (.int .i64 Gh)],.sc (.int .i64 39)] [])) (An (decide (0<=y0))<|Ab (Jv .u64 1 y0) fun PW=>Ab (Abi .u64 y9 PW) fun BW=>Bd (BW != 0) (An (decide (0+y3*1<=Fu.length))<|An (decide (0+Fi*2<=G5.length))<|some (A2.mk [.agg [.lst false 1 y3 (List.take (y3*1) (List.drop 0 Fu)),.sc (.int .i64 y4),.sc (.int .u64 y5),.sc (.int .u64 y6),.sc (.int .i64 y7),.sc (.bool y8),.sc (.int .u64 y9),.lst false 2 Fi (List.take (Fi*2) (List.drop 0 G5)),.sc (.bool true),.sc (.int .i64 Ek),.sc (.int .i64 Gh)],.sc (.int .i64 37)] [])) (Gq fu call Fb Di De D9 G1 Q1 Qu Q9 Jj Qp Q3 Q6 Jh a1 a2 a3 (fu) (y0) (y1) (y2) PW 0 (y3) (y4) (y5) (y6) (y7) (y8) (y9) (Fi) (Gi) (Ek) (Gh) (Fu) (G5) (Ey) (Gl) (N7) (Om) (Ny) (Nz) (Ol) (Oq) (Oj) (N3) (Of) (Oa) (I3)))):=by cases nn with|zero=>exact absurd Dy (Nat.lt_irrefl 0)|succ nn=>kernel_rfl
theorem L5 (fu:Nat)(call:Ai)(Fb:Nat)(Di:List PV)(De D9:Int)(G1 Q1:Int)(Qu:Bool)(Q9:Int)(Jj:Nat)(Qp:List PV)(Q3:Bool)(Q6 Jh:Int)(a1 a2 a3:Int)(nn:Nat)(y0 y1:Int)(y2 y3 y4:Int)(y5:Nat)(y6 y7:Int)(y8 y9:Int)(Fi:Bool)(Gi:Int)(Ek:Nat)(Gh:Bool)(Fu G5:Int)(Ey Gl:List PV)(N7:Nat)(Om Ny:Int)(Nz Ol:Int)(Oq:Bool)(Oj:Int)(N3:Nat)(Of:Bool)(Oa I3:Int)(NI NC:List PV):Gq fu call Fb Di De D9 G1 Q1 Qu Q9 Jj Qp Q3 Q6 Jh a1 a2 a3 (nn+1) y0 y1 y2 y3 y4 y5 y6 y7 y8 y9 Fi Gi Ek Gh Fu G5 Ey Gl N7 Om Ny Nz Ol Oq Oj N3 Of Oa I3 NI NC=(Bd (decide (y4<(↑Ek:Int))) (An (decide (0<=y4)&&decide (y4<(↑Ek:Int)))<|Ae .i64 (List.getD Gl (0+Int.toNat y4*2+0) .top) fun Oz=>Bd (decide (Oz<y1)) (Ab (wrap .i64 (y4+1)) fun MF=>Gq fu call Fb Di De D9 G1 Q1 Qu Q9 Jj Qp Q3 Q6 Jh a1 a2 a3 (nn) (y0) (y1) (y2) (y3) MF (y5) (y6) (y7) (y8) (y9) (Fi) (Gi) (Ek) (Gh) (Fu) (G5) (Ey) (Gl) (N7) (Om) (Ny) (Nz) (Ol) (Oq) (Oj) (N3) (Of) (Oa) (I3) (NI) (NC)) (Bd (y4==(↑Ek:Int)) (An (decide (Ek*2<=Gl.length))<|Af (call 46 [.own 2 Ek (List.take (Ek*2) Gl),.sc (.int .i64 y4),PV.tup [.own 2 1 [.sc (.int .i64 y1),.sc (.int .i64 y0)]]]) fun NF PZ=>Aa NF fun OG RG=>Kc 2 OG fun EI RB=>Ac RG<|Aa PZ fun RQ ND=>Ac ND<|An (decide (0<=y4)&&decide (y4<(↑EI:Int)))<|An (decide (0+Int.toNat y4*2+1+1<=RB.length))<|Ab (Bl RB [.sc (.int .i64 y0)] (0+Int.toNat y4*2+1)) fun X9=>Ab (BH .u64 Gi y3) fun FV=>An (decide (0+y5*1<=Ey.length))<|An (decide (0+EI*2<=X9.length))<|some (A2.mk [.agg [.lst false 1 y5 (List.take (y5*1) (List.drop 0 Ey)),.sc (.int .i64 y6),.sc (.int .u64 y7),.sc (.int .u64 y8),.sc (.int .i64 y9),.sc (.bool Fi),.sc (.int .u64 FV),.lst false 2 EI (List.take (EI*2) (List.drop 0 X9)),.sc (.bool Gh),.sc (.int .i64 Fu),.sc (.int .i64 y2)],.sc (.int .i64 0)] [])) (An (decide (0<=y4)&&decide (y4<(↑Ek:Int)))<|Ae .i64 (List.getD Gl (0+Int.toNat y4*2+0) .top) fun RV=>Bd (RV != y1) (An (decide (Ek*2<=Gl.length))<|Af (call 46 [.own 2 Ek (List.take (Ek*2) Gl),.sc (.int .i64 y4),PV.tup [.own 2 1 [.sc (.int .i64 y1),.sc (.int .i64 y0)]]]) fun BN GT=>Aa BN fun MA NA=>Kc 2 MA fun GJ HL=>Ac NA<|Aa GT fun WY ID=>Ac ID<|An (decide (0<=y4)&&decide (y4<(↑GJ:Int)))<|An (decide (0+Int.toNat y4*2+1+1<=HL.length))<|Ab (Bl HL [.sc (.int .i64 y0)] (0+Int.toNat y4*2+1)) fun TN=>Ab (BH .u64 Gi y3) fun UD=>An (decide (0+y5*1<=Ey.length))<|An (decide (0+GJ*2<=TN.length))<|some (A2.mk [.agg [.lst false 1 y5 (List.take (y5*1) (List.drop 0 Ey)),.sc (.int .i64 y6),.sc (.int .u64 y7),.sc (.int .u64 y8),.sc (.int .i64 y9),.sc (.bool Fi),.sc (.int .u64 UD),.lst false 2 GJ (List.take (GJ*2) (List.drop 0 TN)),.sc (.bool Gh),.sc (.int .i64 Fu),.sc (.int .i64 y2)],.sc (.int .i64 0)] [])) (An (decide (0<=y4)&&decide (y4<(↑Ek:Int)))<|Ae .i64 (List.getD Gl (0+Int.toNat y4*2+1) .top) fun WO=>Bd (decide (WO>=y0)) (An (decide (0+y5*1<=Ey.length))<|An (decide (0+Ek*2<=Gl.length))<|some (A2.mk [.agg [.lst false 1 y5 (List.take (y5*1) (List.drop 0 Ey)),.sc (.int .i64 y6),.sc (.int .u64 y7),.sc (.int .u64 y8),.sc (.int .i64 y9),.sc (.bool Fi),.sc (.int .u64 Gi),.lst false 2 Ek (List.take (Ek*2) (List.drop 0 Gl)),.sc (.bool Gh),.sc (.int .i64 Fu),.sc (.int .i64 G5)],.sc (.int .i64 37)] [])) (An (decide (0<=y4)&&decide (y4<(↑Ek:Int)))<|An (decide (0+Int.toNat y4*2+1+1<=Gl.length))<|Ab (Bl Gl [.sc (.int .i64 y0)] (0+Int.toNat y4*2+1)) fun Zw=>Ab (BH .u64 Gi y3) fun FD=>An (decide (0+y5*1<=Ey.length))<|An (decide (0+Ek*2<=Zw.length))<|some (A2.mk [.agg [.lst false 1 y5 (List.take (y5*1) (List.drop 0 Ey)),.sc (.int .i64 y6),.sc (.int .u64 y7),.sc (.int .u64 y8),.sc (.int .i64 y9),.sc (.bool Fi),.sc (.int .u64 FD),.lst false 2 Ek (List.take (Ek*2) (List.drop 0 Zw)),.sc (.bool Gh),.sc (.int .i64 Fu),.sc (.int .i64 y2)],.sc (.int .i64 0)] [])))))) (Bd (y4==(↑Ek:Int)) (An (decide (Ek*2<=Gl.length))<|Af (call 46 [.own 2 Ek (List.take (Ek*2) Gl),.sc (.int .i64 y4),PV.tup [.own 2 1 [.sc (.int .i64 y1),.sc (.int .i64 y0)]]]) fun x70 HT=>Aa x70 fun To VJ=>Kc 2 To fun NY Td=>Ac VJ<|Aa HT fun x76 x77=>Ac x77<|An (decide (0<=y4)&&decide (y4<(↑NY:Int)))<|An (decide (0+Int.toNat y4*2+1+1<=Td.length))<|Ab (Bl Td [.sc (.int .i64 y0)] (0+Int.toNat y4*2+1)) fun U7=>Ab (BH .u64 Gi y3) fun x79=>An (decide (0+y5*1<=Ey.length))<|An (decide (0+NY*2<=U7.length))<|some (A2.mk [.agg [.lst false 1 y5 (List.take (y5*1) (List.drop 0 Ey)),.sc (.int .i64 y6),.sc (.int .u64 y7),.sc (.int .u64 y8),.sc (.int .i64 y9),.sc (.bool Fi),.sc (.int .u64 x79),.lst false 2 NY (List.take (NY*2) (List.drop 0 U7)),.sc (.bool Gh),.sc (.int .i64 Fu),.sc (.int .i64 y2)],.sc (.int .i64 0)] [])) (An (decide (0<=y4)&&decide (y4<(↑Ek:Int)))<|Ae .i64 (List.getD Gl (0+Int.toNat y4*2+0) .top) fun x80=>Bd (x80 != y1) (An (decide (Ek*2<=Gl.length))<|Af (call 46 [.own 2 Ek (List.take (Ek*2) Gl),.sc (.int .i64 y4),PV.tup [.own 2 1 [.sc (.int .i64 y1),.sc (.int .i64 y0)]]]) fun X5 x82=>Aa X5 fun x83 AA=>Kc 2 x83 fun x85 x86=>Ac AA<|Aa x82 fun AS x88=>Ac x88<|An (decide (0<=y4)&&decide (y4<(↑x85:Int)))<|An (decide (0+Int.toNat y4*2+1+1<=x86.length))<|Ab (Bl x86 [.sc (.int .i64 y0)] (0+Int.toNat y4*2+1)) fun x89=>Ab (BH .u64 Gi y3) fun x90=>An (decide (0+y5*1<=Ey.length))<|An (decide (0+x85*2<=x89.length))<|some (A2.mk [.agg [.lst false 1 y5 (List.take (y5*1) (List.drop 0 Ey)),.sc (.int .i64 y6),.sc (.int .u64 y7),.sc (.int .u64 y8),.sc (.int .i64 y9),.sc (.bool Fi),.sc (.int .u64 x90),.lst false 2 x85 (List.take (x85*2) (List.drop 0 x89)),.sc (.bool Gh),.sc (.int .i64 Fu),.sc (.int .i64 y2)],.sc (.int .i64 0)] [])) (An (decide (0<=y4)&&decide (y4<(↑Ek:Int)))<|Ae .i64 (List.getD Gl (0+Int.toNat y4*2+1) .top) fun Zs=>Bd (decide (Zs>=y0)) (An (decide (0+y5*1<=Ey.length))<|An (decide (0+Ek*2<=Gl.length))<|some (A2.mk [.agg [.lst false 1 y5 (List.take (y5*1) (List.drop 0 Ey)),.sc (.int .i64 y6),.sc (.int .u64 y7),.sc (.int .u64 y8),.sc (.int .i64 y9),.sc (.bool Fi),.sc (.int .u64 Gi),.lst false 2 Ek (List.take (Ek*2) (List.drop 0 Gl)),.sc (.bool Gh),.sc (.int .i64 Fu),.sc (.int .i64 G5)],.sc (.int .i64 37)] [])) (An (decide (0<=y4)&&decide (y4<(↑Ek:Int)))<|An (decide (0+Int.toNat y4*2+1+1<=Gl.length))<|Ab (Bl Gl [.sc (.int .i64 y0)] (0+Int.toNat y4*2+1)) fun Y0=>Ab (BH .u64 Gi y3) fun x93=>An (decide (0+y5*1<=Ey.length))<|An (decide (0+Ek*2<=Y0.length))<|some (A2.mk [.agg [.lst false 1 y5 (List.take (y5*1) (List.drop 0 Ey)),.sc (.int .i64 y6),.sc (.int .u64 y7),.sc (.int .u64 y8),.sc (.int .i64 y9),.sc (.bool Fi),.sc (.int .u64 x93),.lst false 2 Ek (List.take (Ek*2) (List.drop 0 Y0)),.sc (.bool Gh),.sc (.int .i64 Fu),.sc (.int .i64 y2)],.sc (.int .i64 0)] [])))))):=by kernel_rfl
theorem Zd (fu d Fb:Nat)(Di:List PV)(De D9:Int)(G1 Q1:Int)(Qu:Bool)(Q9:Int)(Jj:Nat)(Qp:List PV)(Q3:Bool)(Q6 Jh:Int)(a1 a2 a3:Int):Ag C0 prog fu (d+1) Pb [.agg [.lst false 1 Fb Di,.sc (.int .i64 De),.sc (.int .u64 D9),.sc (.int .u64 G1),.sc (.int .i64 Q1),.sc (.bool Qu),.sc (.int .u64 Q9),.lst false 2 Jj Qp,.sc (.bool Q3),.sc (.int .i64 Q6),.sc (.int .i64 Jh)],.sc (.int .i64 a1),.sc (.int .i64 a2),.sc (.int .i64 a3)]=(fun (call:Ai)=>Af (call 31 [.agg [.lst false 1 Fb Di,.sc (.int .i64 De),.sc (.int .u64 D9),.sc (.int .u64 G1),.sc (.int .i64 Q1),.sc (.bool Qu),.sc (.int .u64 Q9),.lst false 2 Jj Qp,.sc (.bool Q3),.sc (.int .i64 Q6),.sc (.int .i64 Jh)]]) fun x1 x2=>Ac x2<|Aa x1 fun x3 x4=>Gd x3 fun x5=>Aa x5 fun x6 x7=>Kc 1 x6 fun x8 x9=>Aa x7 fun H5 Ib=>Ae .i64 H5 fun H6=>Aa Ib fun L9 K7=>Ae .u64 L9 fun K8=>Aa K7 fun Nl Pz=>Ae .u64 Nl fun M3=>Aa Pz fun Hx Mt=>Ae .i64 Hx fun Mm=>Aa Mt fun Qg Ro=>Av Qg fun P3=>Aa Ro fun Y5 X7=>Ae .u64 Y5 fun Ub=>Aa X7 fun FC Ul=>Kc 2 FC fun O2 Sq=>Aa Ul fun Zq V2=>Av Zq fun X3=>Aa V2 fun DR AJ=>Ae .i64 DR fun Yt=>Aa AJ fun HE LY=>Ae .i64 HE fun BV=>Ac LY<|Ac x4<|Bd (decide (H6<0)) (An (decide (0+x8*1<=x9.length))<|An (decide (0+O2*2<=Sq.length))<|some (A2.mk [.agg [.lst false 1 x8 (List.take (x8*1) (List.drop 0 x9)),.sc (.int .i64 H6),.sc (.int .u64 K8),.sc (.int .u64 M3),.sc (.int .i64 Mm),.sc (.bool P3),.sc (.int .u64 Ub),.lst false 2 O2 (List.take (O2*2) (List.drop 0 Sq)),.sc (.bool X3),.sc (.int .i64 Yt),.sc (.int .i64 BV)],.sc (.int .i64 9)] [])) (Bd (decide (H6>4)) (An (decide (0+x8*1<=x9.length))<|An (decide (0+O2*2<=Sq.length))<|some (A2.mk [.agg [.lst false 1 x8 (List.take (x8*1) (List.drop 0 x9)),.sc (.int .i64 H6),.sc (.int .u64 K8),.sc (.int .u64 M3),.sc (.int .i64 Mm),.sc (.bool P3),.sc (.int .u64 Ub),.lst false 2 O2 (List.take (O2*2) (List.drop 0 Sq)),.sc (.bool X3),.sc (.int .i64 Yt),.sc (.int .i64 BV)],.sc (.int .i64 9)] [])) (Bd (decide (a2<0)) (An (decide (0+x8*1<=x9.length))<|An (decide (0+O2*2<=Sq.length))<|some (A2.mk [.agg [.lst false 1 x8 (List.take (x8*1) (List.drop 0 x9)),.sc (.int .i64 H6),.sc (.int .u64 K8),.sc (.int .u64 M3),.sc (.int .i64 Mm),.sc (.bool P3),.sc (.int .u64 Ub),.lst false 2 O2 (List.take (O2*2) (List.drop 0 Sq)),.sc (.bool X3),.sc (.int .i64 Yt),.sc (.int .i64 BV)],.sc (.int .i64 9)] [])) (Bd (decide (a2>a1)) (An (decide (0+x8*1<=x9.length))<|An (decide (0+O2*2<=Sq.length))<|some (A2.mk [.agg [.lst false 1 x8 (List.take (x8*1) (List.drop 0 x9)),.sc (.int .i64 H6),.sc (.int .u64 K8),.sc (.int .u64 M3),.sc (.int .i64 Mm),.sc (.bool P3),.sc (.int .u64 Ub),.lst false 2 O2 (List.take (O2*2) (List.drop 0 Sq)),.sc (.bool X3),.sc (.int .i64 Yt),.sc (.int .i64 BV)],.sc (.int .i64 9)] [])) (An (decide (0<=H6))<|Ab (Jv .i64 1 H6) fun NB=>Bd (decide (a1>=NB)) (An (decide (0+x8*1<=x9.length))<|An (decide (0+O2*2<=Sq.length))<|some (A2.mk [.agg [.lst false 1 x8 (List.take (x8*1) (List.drop 0 x9)),.sc (.int .i64 H6),.sc (.int .u64 K8),.sc (.int .u64 M3),.sc (.int .i64 Mm),.sc (.bool P3),.sc (.int .u64 Ub),.lst false 2 O2 (List.take (O2*2) (List.drop 0 Sq)),.sc (.bool X3),.sc (.int .i64 Yt),.sc (.int .i64 BV)],.sc (.int .i64 9)] [])) (Oe fu call Fb Di De D9 G1 Q1 Qu Q9 Jj Qp Q3 Q6 Jh a1 a2 a3 (fu) (a1) (a2) (a3) x8 H6 K8 M3 Mm P3 Ub O2 X3 Yt BV x9 Sq 0 0 0 0 0 (false) 0 0 (false) 0 0 ([]) ([]))))))) (Ag C0 prog fu d):=by kernel_rfl
abbrev N0:FuncId:=13
noncomputable def Dz (fu:Nat)(call:Ai)(Ap:Nat)(a0:List PV)(a1:Int)(a2:ByteArray)(nn:Nat)(y0:Int)(y1:ByteArray)(y2 y3:Nat)(y4:List PV)(y5 y6:Int)(y7:List PV):Option A2:=Ct CB prog fu call 13 Try.f13 (Bz Try.f13) [.lst false 3 Ap a0,.sc (.int .u64 a1),.sc (.string a2)] [.r,.r,.l,.r,.r,.l,.r,.l] nn ⟨lk [(1,(.sc (.int .u64 y0))),(2,(.sc (.string y1))),(7,(.view 7 1 0 y2)),(25,(.lst false 11 y3 y4)),(26,(.sc (.int .i64 y5))),(27,(.sc (.int .i64 y6)))],Fx [(7,(.ar false y7))]⟩
noncomputable def Es (fu:Nat)(call:Ai)(Ap:Nat)(a0:List PV)(a1:Int)(a2:ByteArray)(nn y0:Nat)(y1 y2 y3:Int)(y4:List PV):Option A2:=Ct CB prog fu call 13 Try.f13 (Bz Try.f13) [.lst false 3 Ap a0,.sc (.int .u64 a1),.sc (.string a2)] [.r,.r,.r,.r,.l,.r,.l] nn ⟨lk [(7,(.view 7 1 0 y0)),(12,(.sc (.int .u64 y1))),(52,(.sc (.int .i64 y2))),(53,(.sc (.int .i64 y3)))],Fx [(7,(.ar false y4))]⟩
theorem Lg (fu:Nat)(call:Ai)(Ap:Nat)(a0:List PV)(a1:Int)(a2:ByteArray)(nn:Nat)(y0:Int)(y1:ByteArray)(y2 y3:Nat)(y4:List PV)(y5 y6:Int)(y7:List PV):Dz fu call Ap a0 a1 a2 (nn+1) y0 y1 y2 y3 y4 y5 y6 y7=(Bd (decide (y6<y5)) (An (decide (0<=y6)&&decide (y6<(↑y3:Int)))<|Ca 1 (List.getD y4 (Int.toNat y6*11) .top) fun Pz M3 Hx=>Ae .i64 (List.getD y4 (Int.toNat y6*11+1) .top) fun Mt=>Ae .u64 (List.getD y4 (Int.toNat y6*11+1+1) .top) fun Mm=>Ae .u64 (List.getD y4 (Int.toNat y6*11+1+1+1) .top) fun Qg=>Ae .i64 (List.getD y4 (Int.toNat y6*11+1+1+1+1) .top) fun Ro=>Av (List.getD y4 (Int.toNat y6*11+1+1+1+1+1) .top) fun P3=>Ae .u64 (List.getD y4 (Int.toNat y6*11+1+1+1+1+1+1) .top) fun Y5=>Ca 2 (List.getD y4 (Int.toNat y6*11+1+1+1+1+1+1+1) .top) fun X7 Ub FC=>Av (List.getD y4 (Int.toNat y6*11+1+1+1+1+1+1+1+1) .top) fun Ul=>Ae .i64 (List.getD y4 (Int.toNat y6*11+1+1+1+1+1+1+1+1+1) .top) fun O2=>Ae .i64 (List.getD y4 (Int.toNat y6*11+1+1+1+1+1+1+1+1+1+1) .top) fun Sq=>Bd (!Ul) (Bd (decide ((↑y2:Int)<4)) (Af (call 32 [.lst false 1 M3 Hx]) fun Zq V2=>Ac V2<|Aa Zq fun X3 DR=>Kc 1 X3 fun AJ Yt=>Ac DR<|An (decide (0+AJ*1<=Yt.length))<|An (decide (y2*1<=y7.length)&&true&&decide ((y2+1)*24<=1099511627776)&&decide (y2+1<=1099511627776))<|Ab (y2+1) fun HE=>Ab (List.take (y2*1) y7++[.lst false 1 AJ (List.take (AJ*1) (List.drop 0 Yt))]) fun LY=>Ab (wrap .i64 (y6+1)) fun BV=>Dz fu call Ap a0 a1 a2 (nn) (y0) (y1) HE (y3) (y4) (y5) BV LY) (Ab (wrap .i64 (y6+1)) fun NB=>Dz fu call Ap a0 a1 a2 (nn) (y0) (y1) (y2) (y3) (y4) (y5) NB (y7))) (Ab (wrap .i64 (y6+1)) fun PW=>Dz fu call Ap a0 a1 a2 (nn) (y0) (y1) (y2) (y3) (y4) (y5) PW (y7))) (An (decide (ByteArray.size y1<=1099511627776))<|An (decide (0+ByteArray.size y1*1<=List.length (Dx y1)))<|Af (call 33 [.sc (.int .u64 y0),.sc (.int .i64 20),.lst false 1 (ByteArray.size y1) (List.take (ByteArray.size y1*1) (List.drop 0 (Dx y1)))]) fun BW Oz=>Ac Oz<|Aa BW fun MF NF=>Ae .u64 MF fun PZ=>Ac NF<|Ab (wrap .i64 (4-(↑y2:Int))) fun OG=>Es fu call Ap a0 a1 a2 (fu) (y2) PZ OG 0 (y7))):=by kernel_rfl
theorem K4 (fu:Nat)(call:Ai)(Ap:Nat)(a0:List PV)(a1:Int)(a2:ByteArray)(nn y0:Nat)(y1 y2 y3:Int)(y4:List PV):Es fu call Ap a0 a1 a2 (nn+1) y0 y1 y2 y3 y4=(Bd (decide (y3<y2)) (Ab (wrap .u64 y3) fun RG=>Af (call 34 [.sc (.int .u64 y1),.sc (.int .u64 RG),.sc (.int .i64 176)]) fun EI RB=>Ac RB<|Aa EI fun RQ ND=>Kc 1 RQ fun X9 FV=>Ac ND<|An (decide (0+X9*1<=FV.length))<|An (decide (y0*1<=y4.length)&&true&&decide ((y0+1)*24<=1099511627776)&&decide (y0+1<=1099511627776))<|Ab (y0+1) fun RV=>Ab (List.take (y0*1) y4++[.lst false 1 X9 (List.take (X9*1) (List.drop 0 FV))]) fun BN=>Ab (wrap .i64 (y3+1)) fun GT=>Es fu call Ap a0 a1 a2 (nn) RV (y1) (y2) GT BN) (Af (call 35 [PV.tup [.own 1 y0 y4],.sc (Value.func (Fn.func 36) #[] #[])]) fun MA NA=>Ac MA<|Aa NA fun GJ HL=>Ac HL<|An (decide (y0*1<=GJ.length))<|some (A2.mk [.own 1 y0 (List.take (y0*1) GJ)] []))):=by kernel_rfl
theorem Wr (fu d Ap:Nat)(a0:List PV)(a1:Int)(a2:ByteArray):Ag C0 prog fu (d+1) N0 [.lst false 3 Ap a0,.sc (.int .u64 a1),.sc (.string a2)]=(fun (call:Ai)=>Af (call 14 [.lst false 3 Ap a0,.sc (.string a2)]) fun x1 x2=>Ac x2<|Aa x1 fun x3 x4=>Ae .i64 x3 fun x5=>Aa x4 fun x6 x7=>Av x6 fun x8=>Ac x7<|Bd x8 (An (decide (0<=x5)&&decide (x5<(↑Ap:Int)))<|Ca 11 (List.getD a0 (Int.toNat x5*3+2) .top) fun x9 H5 Ib=>Dz fu call Ap a0 a1 a2 (fu) (a1) (a2) 0 H5 Ib ((↑H5:Int)) 0 ([])) (An (decide (ByteArray.size a2<=1099511627776))<|An (decide (0+ByteArray.size a2*1<=List.length (Dx a2)))<|Af (call 33 [.sc (.int .u64 a1),.sc (.int .i64 20),.lst false 1 (ByteArray.size a2) (List.take (ByteArray.size a2*1) (List.drop 0 (Dx a2)))]) fun H6 L9=>Ac L9<|Aa H6 fun K7 K8=>Ae .u64 K7 fun Nl=>Ac K8<|Es fu call Ap a0 a1 a2 (fu) 0 Nl 4 0 ([]))) (Ag C0 prog fu d):=by kernel_rfl
end
section
open Go.Proofs.Try (prog)
open Go.IntKind (wrap)
set_option maxRecDepth 100000
abbrev Gu:FuncId:=22
noncomputable def Dg (fu:Nat)(call:Ai)(Ap:Nat)(a0:List PV)(a1:ByteArray)(nn y0:Nat)(y1:List PV)(y2:ByteArray)(y3:Int):Option A2:=Ct CB prog fu call 22 Try.f22 (Bz Try.f22) [.lst false 3 Ap a0,.sc (.string a1)] [.r,.l,.r,.l] nn ⟨lk [(0,(.lst false 3 y0 y1)),(1,(.sc (.string y2))),(6,(.sc (.int .i64 y3)))],Fx []⟩
theorem Fw (fu:Nat)(call:Ai)(Ap:Nat)(a0:List PV)(a1:ByteArray)(nn y0:Nat)(y1:List PV)(y2:ByteArray)(y3:Int):Dg fu call Ap a0 a1 (nn+1) y0 y1 y2 y3=(Bd (decide (y3<(↑y0:Int))) (An (decide (0<=y3)&&decide (y3<(↑y0:Int)))<|E2 (List.getD y1 (Int.toNat y3*3+0) .top) fun x1=>Bd (Array.toList (ByteArray.data x1)==Array.toList (ByteArray.data y2)) (some (A2.mk [.sc (.int .i64 y3),.sc (.bool true)] [])) (Ab (wrap .i64 (y3+1)) fun x2=>Dg fu call Ap a0 a1 (nn) (y0) (y1) (y2) x2)) (some (A2.mk [.sc (.int .i64 0),.sc (.bool false)] []))):=by kernel_rfl
theorem Ni (fu d Ap:Nat)(a0:List PV)(a1:ByteArray):Ag C0 prog fu (d+1) Gu [.lst false 3 Ap a0,.sc (.string a1)]=(fun (call:Ai)=>Dg fu call Ap a0 a1 (fu) (Ap) (a0) (a1) 0) (Ag C0 prog fu d):=by kernel_rfl
abbrev Lu:FuncId:=39
noncomputable def Fa (fu:Nat)(call:Ai)(Ap:Nat)(a0:List PV)(Hi:Nat)(a1:List PV)(nn y0:Nat)(y1:List PV)(y2:Nat)(y3:List PV)(y4:Int):Option A2:=Ct CB prog fu call 39 Try.f39 (Bz Try.f39) [.lst false 11 Ap a0,.lst false 1 Hi a1] [.r,.l,.r,.l] nn ⟨lk [(0,(.lst false 11 y0 y1)),(1,(.lst false 1 y2 y3)),(6,(.sc (.int .i64 y4)))],Fx []⟩
theorem Jk (fu:Nat)(call:Ai)(Ap:Nat)(a0:List PV)(Hi:Nat)(a1:List PV)(nn y0:Nat)(y1:List PV)(y2:Nat)(y3:List PV)(y4:Int):Fa fu call Ap a0 Hi a1 (nn+1) y0 y1 y2 y3 y4=(Bd (decide (y4<(↑y0:Int))) (An (decide (0<=y4)&&decide (y4<(↑y0:Int)))<|Ca 1 (List.getD y1 (Int.toNat y4*11+0) .top) fun x1 x2 x3=>An (decide (x3.length=x2))<|Dm (bytesOf x3) fun x4=>An (decide (y3.length=y2))<|Dm (bytesOf y3) fun x5=>Bd (Array.toList (ByteArray.data (ByteArray.mk (List.toArray x4)))==Array.toList (ByteArray.data (ByteArray.mk (List.toArray x5)))) (some (A2.mk [.sc (.int .i64 y4),.sc (.bool true)] [])) (Ab (wrap .i64 (y4+1)) fun x6=>Fa fu call Ap a0 Hi a1 (nn) (y0) (y1) (y2) (y3) x6)) (some (A2.mk [.sc (.int .i64 0),.sc (.bool false)] []))):=by kernel_rfl
theorem Uk (fu d Ap:Nat)(a0:List PV)(Hi:Nat)(a1:List PV):Ag C0 prog fu (d+1) Lu [.lst false 11 Ap a0,.lst false 1 Hi a1]=(fun (call:Ai)=>Fa fu call Ap a0 Hi a1 (fu) (Ap) (a0) (Hi) (a1) 0) (Ag C0 prog fu d):=by kernel_rfl
abbrev Lk:FuncId:=24
noncomputable def Ev (fu:Nat)(call:Ai)(Ap:Nat)(a0:List PV)(Hi:Nat)(a1:List PV)(nn y0:Nat)(y1:List PV)(y2:Nat)(y3:List PV)(y4:Int):Option A2:=Ct CB prog fu call 24 Try.f24 (Bz Try.f24) [.lst false 3 Ap a0,.lst false 1 Hi a1] [.r,.l,.r,.l] nn ⟨lk [(0,(.lst false 3 y0 y1)),(1,(.lst false 1 y2 y3)),(7,(.sc (.int .i64 y4)))],Fx []⟩
theorem It (fu:Nat)(call:Ai)(Ap:Nat)(a0:List PV)(Hi:Nat)(a1:List PV)(nn y0:Nat)(y1:List PV)(y2:Nat)(y3:List PV)(y4:Int):Ev fu call Ap a0 Hi a1 (nn+1) y0 y1 y2 y3 y4=(Bd (decide (y4<(↑y0:Int))) (An (decide (0<=y4)&&decide (y4<(↑y0:Int)))<|Ca 11 (List.getD y1 (Int.toNat y4*3+2) .top) fun x1 x2 x3=>Af (call 39 [.lst false 11 x2 x3,.lst false 1 y2 y3]) fun x4 x5=>Ac x5<|Aa x4 fun x6 x7=>Ae .i64 x6 fun x8=>Aa x7 fun x9 H5=>Av x9 fun Ib=>Ac H5<|Bd Ib (some (A2.mk [.sc (.int .i64 y4),.sc (.int .i64 x8),.sc (.bool true)] [])) (Ab (wrap .i64 (y4+1)) fun H6=>Ev fu call Ap a0 Hi a1 (nn) (y0) (y1) (y2) (y3) H6)) (some (A2.mk [.sc (.int .i64 0),.sc (.int .i64 0),.sc (.bool false)] []))):=by kernel_rfl
theorem Tc (fu d Ap:Nat)(a0:List PV)(Hi:Nat)(a1:List PV):Ag C0 prog fu (d+1) Lk [.lst false 3 Ap a0,.lst false 1 Hi a1]=(fun (call:Ai)=>Ev fu call Ap a0 Hi a1 (fu) (Ap) (a0) (Hi) (a1) 0) (Ag C0 prog fu d):=by kernel_rfl
abbrev Ez:FuncId:=44
noncomputable def Ej (fu:Nat)(call:Ai)(Ap:Nat)(a0:List PV)(a1:ByteArray)(nn y0:Nat)(y1:List PV)(y2:ByteArray)(y3:Int):Option A2:=Ct CB prog fu call 44 Try.f44 (Bz Try.f44) [.lst false 1 Ap a0,.sc (.string a1)] [.r,.r,.l,.l] nn ⟨lk [(0,(.lst false 1 y0 y1)),(1,(.sc (.string y2))),(5,(.sc (.int .i64 y3)))],Fx []⟩
theorem Hr (fu:Nat)(call:Ai)(Ap:Nat)(a0:List PV)(a1:ByteArray)(nn y0:Nat)(y1:List PV)(y2:ByteArray)(y3:Int):Ej fu call Ap a0 a1 (nn+1) y0 y1 y2 y3=(Bd (decide (y3<(↑y0:Int))) (An (decide (0<=y3)&&decide (y3<(↑y0:Int)))<|E2 (List.getD y1 (Int.toNat y3*1) .top) fun x1=>Bd (Op.bytesLess (Array.toList (ByteArray.data x1)) (Array.toList (ByteArray.data y2))||Array.toList (ByteArray.data x1)==Array.toList (ByteArray.data y2)) (Ab (wrap .i64 (y3+1)) fun x2=>Ej fu call Ap a0 a1 (nn) (y0) (y1) (y2) x2) (An (decide (0<=y3))<|An (decide (Int.toNat y3<=y0))<|Ab (Int.toNat y3-0) fun x3=>Ab (List.take (x3*1) (List.drop 0 y1)) fun x4=>An (decide (x4.length=x3*1)&&decide (x3*16<=1099511627776)&&decide (x3<=1099511627776))<|An (decide (x3*1<=x4.length)&&true&&decide ((x3+1)*16<=1099511627776)&&decide (x3+1<=1099511627776))<|Ab (x3+1) fun x5=>Ab (List.take (x3*1) x4++[.sc (.string y2)]) fun x6=>An (decide (0<=y3))<|An (decide (Int.toNat y3<=y0)&&decide (y0<=y0))<|Ab (y0-Int.toNat y3) fun x7=>Ab (List.take (x7*1) (List.drop (Int.toNat y3*1) y1)) fun x8=>An (decide (x5*1<=x6.length)&&decide (x8.length=x7*1)&&decide ((x5+x7)*16<=1099511627776)&&decide (x5+x7<=1099511627776))<|Ab (x5+x7) fun x9=>Ab (List.take (x5*1) x6++x8) fun H5=>An (decide (x9*1<=H5.length))<|some (A2.mk [.own 1 x9 (List.take (x9*1) H5)] []))) (An (decide (0<=y3))<|An (decide (Int.toNat y3<=y0))<|Ab (Int.toNat y3-0) fun Ib=>Ab (List.take (Ib*1) (List.drop 0 y1)) fun H6=>An (decide (H6.length=Ib*1)&&decide (Ib*16<=1099511627776)&&decide (Ib<=1099511627776))<|An (decide (Ib*1<=H6.length)&&true&&decide ((Ib+1)*16<=1099511627776)&&decide (Ib+1<=1099511627776))<|Ab (Ib+1) fun L9=>Ab (List.take (Ib*1) H6++[.sc (.string y2)]) fun K7=>An (decide (0<=y3))<|An (decide (Int.toNat y3<=y0)&&decide (y0<=y0))<|Ab (y0-Int.toNat y3) fun K8=>Ab (List.take (K8*1) (List.drop (Int.toNat y3*1) y1)) fun Nl=>An (decide (L9*1<=K7.length)&&decide (Nl.length=K8*1)&&decide ((L9+K8)*16<=1099511627776)&&decide (L9+K8<=1099511627776))<|Ab (L9+K8) fun Pz=>Ab (List.take (L9*1) K7++Nl) fun M3=>An (decide (Pz*1<=M3.length))<|some (A2.mk [.own 1 Pz (List.take (Pz*1) M3)] []))):=by kernel_rfl
theorem Rz (fu d Ap:Nat)(a0:List PV)(a1:ByteArray):Ag C0 prog fu (d+1) Ez [.lst false 1 Ap a0,.sc (.string a1)]=(fun (call:Ai)=>Ej fu call Ap a0 a1 (fu) (Ap) (a0) (a1) 0) (Ag C0 prog fu d):=by kernel_rfl
abbrev Jn:FuncId:=26
noncomputable def Cq (fu:Nat)(call:Ai)(Ap:Nat)(a0:List PV)(a1:Int)(a2:ByteArray)(nn y0:Nat)(y1:List PV)(y2:Int)(y3:ByteArray)(y4:Nat)(y5 y6:Int)(y7:List PV):Option A2:=Ct CB prog fu call 26 Try.f26 (Bz Try.f26) [.lst false 3 Ap a0,.sc (.int .u64 a1),.sc (.string a2)] [.r,.r,.l,.r,.r,.l,.r,.l] nn ⟨lk [(0,(.lst false 3 y0 y1)),(1,(.sc (.int .u64 y2))),(2,(.sc (.string y3))),(7,(.view 7 1 0 y4)),(8,(.sc (.int .i64 y5))),(10,(.sc (.int .i64 y6)))],Fx [(7,(.ar false y7))]⟩
noncomputable def Dc (fu:Nat)(call:Ai)(Ap:Nat)(a0:List PV)(a1:Int)(a2:ByteArray)(nn y0:Nat)(y1 y2:Int)(y3:List PV):Option A2:=Ct CB prog fu call 26 Try.f26 (Bz Try.f26) [.lst false 3 Ap a0,.sc (.int .u64 a1),.sc (.string a2)] [.r,.r,.r,.r,.l,.r,.l] nn ⟨lk [(7,(.view 7 1 0 y0)),(12,(.sc (.int .u64 y1))),(13,(.sc (.int .u64 y2)))],Fx [(7,(.ar false y3))]⟩
noncomputable def Ec (fu:Nat)(call:Ai)(Ap:Nat)(a0:List PV)(a1:Int)(a2:ByteArray)(nn y0 y1:Nat)(y2:Int)(y3 y4:List PV):Option A2:=Ct CB prog fu call 26 Try.f26 (Bz Try.f26) [.lst false 3 Ap a0,.sc (.int .u64 a1),.sc (.string a2)] [.r,.r,.r,.r,.r,.r,.l,.r,.l] nn ⟨lk [(7,(.view 7 1 0 y0)),(14,(.view 14 1 0 y1)),(15,(.sc (.int .i64 y2)))],Fx [(7,(.ar false y3)),(14,(.ar false y4))]⟩
theorem He (fu:Nat)(call:Ai)(Ap:Nat)(a0:List PV)(a1:Int)(a2:ByteArray)(nn y0:Nat)(y1:List PV)(y2:Int)(y3:ByteArray)(y4:Nat)(y5 y6:Int)(y7:List PV):Cq fu call Ap a0 a1 a2 (nn+1) y0 y1 y2 y3 y4 y5 y6 y7=(An (decide (0<=y5)&&decide (y5<(↑y0:Int)))<|Ca 11 (List.getD y1 (Int.toNat y5*3+2) .top) fun K7 K8 Nl=>Bd (decide (y6<(↑K8:Int))) (An (decide (0<=y5)&&decide (y5<(↑y0:Int)))<|Ca 11 (List.getD y1 (Int.toNat y5*3+2) .top) fun Pz M3 Hx=>An (decide (0<=y6)&&decide (y6<(↑M3:Int)))<|Ca 1 (List.getD Hx (Int.toNat y6*11) .top) fun Mt Mm Qg=>Ae .i64 (List.getD Hx (Int.toNat y6*11+1) .top) fun Ro=>Ae .u64 (List.getD Hx (Int.toNat y6*11+1+1) .top) fun P3=>Ae .u64 (List.getD Hx (Int.toNat y6*11+1+1+1) .top) fun Y5=>Ae .i64 (List.getD Hx (Int.toNat y6*11+1+1+1+1) .top) fun X7=>Av (List.getD Hx (Int.toNat y6*11+1+1+1+1+1) .top) fun Ub=>Ae .u64 (List.getD Hx (Int.toNat y6*11+1+1+1+1+1+1) .top) fun FC=>Ca 2 (List.getD Hx (Int.toNat y6*11+1+1+1+1+1+1+1) .top) fun Ul O2 Sq=>Av (List.getD Hx (Int.toNat y6*11+1+1+1+1+1+1+1+1) .top) fun Zq=>Ae .i64 (List.getD Hx (Int.toNat y6*11+1+1+1+1+1+1+1+1+1) .top) fun V2=>Ae .i64 (List.getD Hx (Int.toNat y6*11+1+1+1+1+1+1+1+1+1+1) .top) fun X3=>Bd (!Zq) (Bd (decide ((↑y4:Int)<4)) (An (decide (Qg.length=Mm))<|Dm (bytesOf Qg) fun DR=>An (decide (0+y4*1<=y7.length))<|Af (call 44 [.lst false 1 y4 (List.take (y4*1) (List.drop 0 y7)),.sc (.string (ByteArray.mk (List.toArray DR)))]) fun AJ Yt=>Ac Yt<|Aa AJ fun HE LY=>Kc 1 HE fun BV NB=>Ac LY<|Ab (wrap .i64 (y6+1)) fun PW=>Cq fu call Ap a0 a1 a2 (nn) (y0) (y1) (y2) (y3) BV (y5) PW NB) (Ab (wrap .i64 (y6+1)) fun BW=>Cq fu call Ap a0 a1 a2 (nn) (y0) (y1) (y2) (y3) (y4) (y5) BW (y7))) (Ab (wrap .i64 (y6+1)) fun Oz=>Cq fu call Ap a0 a1 a2 (nn) (y0) (y1) (y2) (y3) (y4) (y5) Oz (y7))) (An (decide (ByteArray.size y3<=1099511627776))<|An (decide (0+ByteArray.size y3*1<=List.length (Dx y3)))<|Af (call 45 [.sc (.int .u64 y2),.sc (.int .i64 20),.lst false 1 (ByteArray.size y3) (List.take (ByteArray.size y3*1) (List.drop 0 (Dx y3)))]) fun MF NF=>Ac NF<|Aa MF fun PZ OG=>Ae .u64 PZ fun RG=>Ac OG<|Dc fu call Ap a0 a1 a2 (fu) (y4) RG 0 (y7))):=by kernel_rfl
theorem Hg (fu:Nat)(call:Ai)(Ap:Nat)(a0:List PV)(a1:Int)(a2:ByteArray)(nn y0:Nat)(y1 y2:Int)(y3:List PV):Dc fu call Ap a0 a1 a2 (nn+1) y0 y1 y2 y3=(Bd (decide ((↑y0:Int)<4)) (Af (call 29 [.sc (.int .u64 y1),.sc (.int .u64 y2),.sc (.int .i64 176)]) fun EI RB=>Ac RB<|Aa EI fun RQ ND=>Kc 1 RQ fun X9 FV=>Ac ND<|An (decide (0+X9*1<=FV.length))<|An (decide (List.length (List.take (X9*1) (List.drop 0 FV))=X9))<|Dm (bytesOf (List.take (X9*1) (List.drop 0 FV))) fun RV=>An (decide (0+y0*1<=y3.length))<|Af (call 44 [.lst false 1 y0 (List.take (y0*1) (List.drop 0 y3)),.sc (.string (ByteArray.mk (List.toArray RV)))]) fun BN GT=>Ac GT<|Aa BN fun MA NA=>Kc 1 MA fun GJ HL=>Ac NA<|Ab (wrap .u64 (y2+1)) fun WY=>Dc fu call Ap a0 a1 a2 (nn) GJ (y1) WY HL) (Ec fu call Ap a0 a1 a2 (fu) (y0) 0 0 (y3) ([]))):=by kernel_rfl
theorem Hc (fu:Nat)(call:Ai)(Ap:Nat)(a0:List PV)(a1:Int)(a2:ByteArray)(nn y0 y1:Nat)(y2:Int)(y3 y4:List PV):Ec fu call Ap a0 a1 a2 (nn+1) y0 y1 y2 y3 y4=(Bd (decide (y2<(↑y0:Int))) (An (decide (0<=y2)&&decide (y2<(↑y0:Int)))<|E2 (List.getD y3 (0+Int.toNat y2*1) .top) fun ID=>An (decide (ByteArray.size ID<=1099511627776))<|An (decide (0+ByteArray.size ID*1<=List.length (Dx ID)))<|An (decide (y1*1<=y4.length)&&true&&decide ((y1+1)*24<=1099511627776)&&decide (y1+1<=1099511627776))<|Ab (y1+1) fun TN=>Ab (List.take (y1*1) y4++[.lst false 1 (ByteArray.size ID) (List.take (ByteArray.size ID*1) (List.drop 0 (Dx ID)))]) fun UD=>Ab (wrap .i64 (y2+1)) fun WO=>Ec fu call Ap a0 a1 a2 (nn) (y0) TN WO (y3) UD) (An (decide (y1*1<=y4.length))<|some (A2.mk [.own 1 y1 (List.take (y1*1) y4)] []))):=by kernel_rfl
theorem Qs (fu d Ap:Nat)(a0:List PV)(a1:Int)(a2:ByteArray):Ag C0 prog fu (d+1) Jn [.lst false 3 Ap a0,.sc (.int .u64 a1),.sc (.string a2)]=(fun (call:Ai)=>Af (call 22 [.lst false 3 Ap a0,.sc (.string a2)]) fun x1 x2=>Ac x2<|Aa x1 fun x3 x4=>Ae .i64 x3 fun x5=>Aa x4 fun x6 x7=>Av x6 fun x8=>Ac x7<|Bd x8 (Cq fu call Ap a0 a1 a2 (fu) (Ap) (a0) (a1) (a2) 0 x5 0 ([])) (An (decide (ByteArray.size a2<=1099511627776))<|An (decide (0+ByteArray.size a2*1<=List.length (Dx a2)))<|Af (call 45 [.sc (.int .u64 a1),.sc (.int .i64 20),.lst false 1 (ByteArray.size a2) (List.take (ByteArray.size a2*1) (List.drop 0 (Dx a2)))]) fun x9 H5=>Ac H5<|Aa x9 fun Ib H6=>Ae .u64 Ib fun L9=>Ac H6<|Dc fu call Ap a0 a1 a2 (fu) 0 L9 0 ([]))) (Ag C0 prog fu d):=by kernel_rfl
abbrev Hj:FuncId:=72
noncomputable def Dp (fu:Nat)(call:Ai)(Ap:Nat)(a0:List PV)(Hi:Nat)(a1:List PV)(nn y0:Nat)(y1:List PV)(y2:Nat)(y3:List PV)(y4:Int):Option A2:=Ct CB prog fu call 72 Try.f72 (Bz Try.f72) [.lst false 2 Ap a0,.lst false 2 Hi a1] [.r,.r,.l,.r,.l] nn ⟨lk [(0,(.lst false 2 y0 y1)),(1,(.lst false 2 y2 y3)),(5,(.sc (.int .i64 y4)))],Fx []⟩
theorem F9 (fu:Nat)(call:Ai)(Ap:Nat)(a0:List PV)(Hi:Nat)(a1:List PV)(nn y0:Nat)(y1:List PV)(y2:Nat)(y3:List PV)(y4:Int):Dp fu call Ap a0 Hi a1 (nn+1) y0 y1 y2 y3 y4=(Bd (decide (y4<(↑y0:Int))) (An (decide (0<=y4)&&decide (y4<(↑y0:Int)))<|Ae .i64 (List.getD y1 (Int.toNat y4*2) .top) fun x1=>Ae .i64 (List.getD y1 (Int.toNat y4*2+1) .top) fun x2=>An (decide (0<=y4)&&decide (y4<(↑y2:Int)))<|Ae .i64 (List.getD y3 (Int.toNat y4*2) .top) fun x3=>Ae .i64 (List.getD y3 (Int.toNat y4*2+1) .top) fun x4=>Bd (!(x1==x3&&(x2==x4&&true))) (some (A2.mk [.sc (.bool false)] [])) (Ab (wrap .i64 (y4+1)) fun x5=>Dp fu call Ap a0 Hi a1 (nn) (y0) (y1) (y2) (y3) x5)) (some (A2.mk [.sc (.bool true)] []))):=by kernel_rfl
theorem Nr (fu d Ap:Nat)(a0:List PV)(Hi:Nat)(a1:List PV):Ag C0 prog fu (d+1) Hj [.lst false 2 Ap a0,.lst false 2 Hi a1]=(fun (call:Ai)=>Bd ((↑Ap:Int) != (↑Hi:Int)) (some (A2.mk [.sc (.bool false)] [])) (Dp fu call Ap a0 Hi a1 (fu) (Ap) (a0) (Hi) (a1) 0)) (Ag C0 prog fu d):=by kernel_rfl
abbrev Hd:FuncId:=54
theorem Nm (fu d Fb:Nat)(Di:List PV)(De D9:Int)(G1 Q1:Int)(Qu:Bool)(Q9:Int)(Jj:Nat)(Qp:List PV)(Q3:Bool)(Q6 Jh:Int)(Akt:Nat)(Yy:List PV)(AZ EY:Int)(A04 A6y:Int)(A11:Bool)(A01:Int)(Akm:Nat)(A03:List PV)(A31:Bool)(Azg Akv:Int):Ag C0 prog fu (d+1) Hd [.agg [.lst false 1 Fb Di,.sc (.int .i64 De),.sc (.int .u64 D9),.sc (.int .u64 G1),.sc (.int .i64 Q1),.sc (.bool Qu),.sc (.int .u64 Q9),.lst false 2 Jj Qp,.sc (.bool Q3),.sc (.int .i64 Q6),.sc (.int .i64 Jh)],.agg [.lst false 1 Akt Yy,.sc (.int .i64 AZ),.sc (.int .u64 EY),.sc (.int .u64 A04),.sc (.int .i64 A6y),.sc (.bool A11),.sc (.int .u64 A01),.lst false 2 Akm A03,.sc (.bool A31),.sc (.int .i64 Azg),.sc (.int .i64 Akv)]]=(fun (call:Ai)=>An (decide (Di.length=Fb))<|Dm (bytesOf Di) fun x1=>An (decide (Yy.length=Akt))<|Dm (bytesOf Yy) fun x2=>Bd (Array.toList (ByteArray.data (ByteArray.mk (List.toArray x1)))==Array.toList (ByteArray.data (ByteArray.mk (List.toArray x2)))) (Bd (De==AZ&&(D9==EY&&true)) (Bd (G1==A04) (Bd (Q1==A6y) (Bd (Qu==A11) (Bd (Q9==A01) (Af (call 72 [.lst false 2 Jj Qp,.lst false 2 Akm A03]) fun x3 x4=>Ac x4<|Aa x3 fun x5 x6=>Av x5 fun x7=>Ac x6<|Bd x7 (Bd (Q3==A31) (Bd (Q6==Azg) (some (A2.mk [.sc (.bool (Jh==Akv))] [])) (some (A2.mk [.sc (.bool false)] []))) (some (A2.mk [.sc (.bool false)] []))) (some (A2.mk [.sc (.bool false)] []))) (some (A2.mk [.sc (.bool false)] []))) (some (A2.mk [.sc (.bool false)] []))) (some (A2.mk [.sc (.bool false)] []))) (some (A2.mk [.sc (.bool false)] []))) (some (A2.mk [.sc (.bool false)] []))) (some (A2.mk [.sc (.bool false)] []))) (Ag C0 prog fu d):=by kernel_rfl
abbrev Iz:FuncId:=25
noncomputable def D4 (fu:Nat)(call:Ai)(Ap:Nat)(a0:List PV)(Hi:Nat)(a1:List PV)(nn y0:Nat)(y1:List PV)(y2:Nat)(y3:List PV)(y4:Int):Option A2:=Ct CB prog fu call 25 Try.f25 (Bz Try.f25) [.lst false 1 Ap a0,.lst false 1 Hi a1] [.r,.r,.l,.r,.l] nn ⟨lk [(0,(.lst false 1 y0 y1)),(1,(.lst false 1 y2 y3)),(5,(.sc (.int .i64 y4)))],Fx []⟩
theorem Gx (fu:Nat)(call:Ai)(Ap:Nat)(a0:List PV)(Hi:Nat)(a1:List PV)(nn y0:Nat)(y1:List PV)(y2:Nat)(y3:List PV)(y4:Int):D4 fu call Ap a0 Hi a1 (nn+1) y0 y1 y2 y3 y4=(Bd (decide (y4<(↑y0:Int))) (An (decide (0<=y4)&&decide (y4<(↑y0:Int)))<|Ca 1 (List.getD y1 (Int.toNat y4*1) .top) fun x1 x2 x3=>An (decide (x3.length=x2))<|Dm (bytesOf x3) fun x4=>An (decide (0<=y4)&&decide (y4<(↑y2:Int)))<|Ca 1 (List.getD y3 (Int.toNat y4*1) .top) fun x5 x6 x7=>An (decide (x7.length=x6))<|Dm (bytesOf x7) fun x8=>Bd (!Array.toList (ByteArray.data (ByteArray.mk (List.toArray x4)))==Array.toList (ByteArray.data (ByteArray.mk (List.toArray x8)))) (some (A2.mk [.sc (.bool false)] [])) (Ab (wrap .i64 (y4+1)) fun x9=>D4 fu call Ap a0 Hi a1 (nn) (y0) (y1) (y2) (y3) x9)) (some (A2.mk [.sc (.bool true)] []))):=by kernel_rfl
theorem Qb (fu d Ap:Nat)(a0:List PV)(Hi:Nat)(a1:List PV):Ag C0 prog fu (d+1) Iz [.lst false 1 Ap a0,.lst false 1 Hi a1]=(fun (call:Ai)=>Bd ((↑Ap:Int) != (↑Hi:Int)) (some (A2.mk [.sc (.bool false)] [])) (D4 fu call Ap a0 Hi a1 (fu) (Ap) (a0) (Hi) (a1) 0)) (Ag C0 prog fu d):=by kernel_rfl
abbrev J0:FuncId:=8
theorem R4 (fu d:Nat)(a0 a1:Int):Ag C0 prog fu (d+1) J0 [.sc (.int .i64 a0),.sc (.int .i64 a1)]=(fun (call:Ai)=>Af (call 28 [.sc (.int .i64 a0),.sc (.int .i64 12)]) fun x1 x2=>Ac x2<|Aa x1 fun x3 x4=>Ae .i64 x3 fun x5=>Ac x4<|Ab (wrap .i64 (600+x5)) fun x6=>Af (call 9 [.sc (.int .i64 x6),.sc (.int .i64 176)]) fun x7 x8=>Ac x8<|Aa x7 fun x9 H5=>Kc 1 x9 fun Ib H6=>Ac H5<|An (decide (0+Ib*1<=H6.length))<|some (A2.mk [.agg [.lst false 1 Ib (List.take (Ib*1) (List.drop 0 H6)),.sc (.int .i64 a1),.sc (.int .u64 5),.sc (.int .u64 0),.sc (.int .i64 0),.sc (.bool false),.sc (.int .u64 0),.lst false 2 0 [],.sc (.bool false),.sc (.int .i64 3),.sc (.int .i64 0)]] [])) (Ag C0 prog fu d):=by kernel_rfl
end
section
open Go.Proofs.Try (prog)
open Go.IntKind (wrap)
set_option maxRecDepth 100000
abbrev Lb:FuncId:=5
noncomputable def Gg (fu:Nat)(call:Ai)(nn:Nat):Option A2:=Ct CB prog fu call 5 Try.f5 (Bz Try.f5) [] [] nn ⟨lk [],Fx []⟩
noncomputable def J3 (fu:Nat)(call:Ai)(nn:Nat)(y0:Int)(y1:Nat)(y2:List PV)(y3 y4:Int)(y5 y6:Int)(y7:Bool)(y8:Int)(y9:Nat)(Fi:List PV)(Gi:Bool)(Ek Gh:Int):Option A2:=Ct CB prog fu call 5 Try.f5 (Bz Try.f5) [] [.r] nn ⟨lk [(1,(.ptr 1 0)),(2,(.sc (.int .i64 y0)))],Fx [(1,(.st [(.lst false 1 y1 y2),(.sc (.int .i64 y3)),(.sc (.int .u64 y4)),(.sc (.int .u64 y5)),(.sc (.int .i64 y6)),(.sc (.bool y7)),(.sc (.int .u64 y8)),(.lst false 2 y9 Fi),(.sc (.bool Gi)),(.sc (.int .i64 Ek)),(.sc (.int .i64 Gh))]))]⟩
noncomputable def Ka (fu:Nat)(call:Ai)(nn:Nat)(y0 y1:Int)(y2:Nat)(y3:List PV)(y4 y5:Int)(y6 y7:Int)(y8:Bool)(y9:Int)(Fi:Nat)(Gi:List PV)(Ek:Bool)(Gh Fu:Int):Option A2:=Ct CB prog fu call 5 Try.f5 (Bz Try.f5) [] [.r,.r] nn ⟨lk [(1,(.ptr 1 0)),(2,(.sc (.int .i64 y0))),(3,(.sc (.int .i64 y1)))],Fx [(1,(.st [(.lst false 1 y2 y3),(.sc (.int .i64 y4)),(.sc (.int .u64 y5)),(.sc (.int .u64 y6)),(.sc (.int .i64 y7)),(.sc (.bool y8)),(.sc (.int .u64 y9)),(.lst false 2 Fi Gi),(.sc (.bool Ek)),(.sc (.int .i64 Gh)),(.sc (.int .i64 Fu))]))]⟩
noncomputable def Jw (fu:Nat)(call:Ai)(nn:Nat)(y0 y1 y2:Int)(y3:Nat)(y4:List PV)(y5 y6:Int)(y7 y8:Int)(y9:Bool)(Fi:Int)(Gi:Nat)(Ek:List PV)(Gh:Bool)(Fu G5:Int)(Ey:Nat)(Gl:List PV)(N7 Om:Int)(Ny Nz:Int)(Ol:Bool)(Oq:Int)(Oj:Nat)(N3:List PV)(Of:Bool)(Oa I3:Int):Option A2:=Ct CB prog fu call 5 Try.f5 (Bz Try.f5) [] [.r,.r,.r] nn ⟨lk [(1,(.ptr 1 0)),(2,(.sc (.int .i64 y0))),(3,(.sc (.int .i64 y1))),(4,(.ptr 4 0)),(5,(.sc (.int .i64 y2)))],Fx [(1,(.st [(.lst false 1 y3 y4),(.sc (.int .i64 y5)),(.sc (.int .u64 y6)),(.sc (.int .u64 y7)),(.sc (.int .i64 y8)),(.sc (.bool y9)),(.sc (.int .u64 Fi)),(.lst false 2 Gi Ek),(.sc (.bool Gh)),(.sc (.int .i64 Fu)),(.sc (.int .i64 G5))])),(4,(.st [(.lst false 1 Ey Gl),(.sc (.int .i64 N7)),(.sc (.int .u64 Om)),(.sc (.int .u64 Ny)),(.sc (.int .i64 Nz)),(.sc (.bool Ol)),(.sc (.int .u64 Oq)),(.lst false 2 Oj N3),(.sc (.bool Of)),(.sc (.int .i64 Oa)),(.sc (.int .i64 I3))]))]⟩
noncomputable def Jz (fu:Nat)(call:Ai)(nn:Nat)(y0 y1:Int)(y2 y3:Int)(y4:Nat)(y5:List PV)(y6 y7:Int)(y8 y9:Int)(Fi:Bool)(Gi:Int)(Ek:Nat)(Gh:List PV)(Fu:Bool)(G5 Ey:Int)(Gl:Nat)(N7:List PV)(Om Ny:Int)(Nz Ol:Int)(Oq:Bool)(Oj:Int)(N3:Nat)(Of:List PV)(Oa:Bool)(I3 NI:Int)(NC:Nat)(y31:List PV)(VV YS:Int)(YY y35:Int)(ZD:Bool)(ZX:Int)(ZH:Nat)(y39:List PV)(y40:Bool)(ZJ YJ:Int):Option A2:=Ct CB prog fu call 5 Try.f5 (Bz Try.f5) [] [.r,.r,.r,.r] nn ⟨lk [(1,(.ptr 1 0)),(2,(.sc (.int .i64 y0))),(3,(.sc (.int .i64 y1))),(4,(.ptr 4 0)),(5,(.sc (.int .i64 y2))),(6,(.ptr 6 0)),(7,(.sc (.int .i64 y3)))],Fx [(1,(.st [(.lst false 1 y4 y5),(.sc (.int .i64 y6)),(.sc (.int .u64 y7)),(.sc (.int .u64 y8)),(.sc (.int .i64 y9)),(.sc (.bool Fi)),(.sc (.int .u64 Gi)),(.lst false 2 Ek Gh),(.sc (.bool Fu)),(.sc (.int .i64 G5)),(.sc (.int .i64 Ey))])),(4,(.st [(.lst false 1 Gl N7),(.sc (.int .i64 Om)),(.sc (.int .u64 Ny)),(.sc (.int .u64 Nz)),(.sc (.int .i64 Ol)),(.sc (.bool Oq)),(.sc (.int .u64 Oj)),(.lst false 2 N3 Of),(.sc (.bool Oa)),(.sc (.int .i64 I3)),(.sc (.int .i64 NI))])),(6,(.st [(.lst false 1 NC y31),(.sc (.int .i64 VV)),(.sc (.int .u64 YS)),(.sc (.int .u64 YY)),(.sc (.int .i64 y35)),(.sc (.bool ZD)),(.sc (.int .u64 ZX)),(.lst false 2 ZH y39),(.sc (.bool y40)),(.sc (.int .i64 ZJ)),(.sc (.int .i64 YJ))]))]⟩
noncomputable def J5 (fu:Nat)(call:Ai)(nn:Nat)(y0 y1:Int)(y2 y3:Int)(y4:Nat)(y5:List PV)(y6:Int)(y7:Nat)(y8:List PV)(y9 Fi:Int)(Gi Ek:Int)(Gh:Bool)(Fu:Int)(G5:Nat)(Ey:List PV)(Gl:Bool)(N7 Om:Int)(Ny:Nat)(Nz:List PV)(Ol Oq:Int)(Oj N3:Int)(Of:Bool)(Oa:Int)(I3:Nat)(NI:List PV)(NC:Bool)(y31 VV:Int)(YS:Nat)(YY:List PV)(y35 ZD:Int)(ZX ZH:Int)(y39:Bool)(y40:Int)(ZJ:Nat)(YJ:List PV)(y43:Bool)(y44 y45:Int):Option A2:=Ct CB prog fu call 5 Try.f5 (Bz Try.f5) [] [.r,.r,.r,.r,.r] nn ⟨lk [(1,(.ptr 1 0)),(2,(.sc (.int .i64 y0))),(3,(.sc (.int .i64 y1))),(4,(.ptr 4 0)),(5,(.sc (.int .i64 y2))),(6,(.ptr 6 0)),(7,(.sc (.int .i64 y3))),(8,(.lst false 3 y4 y5)),(9,(.sc (.int .i64 y6)))],Fx [(1,(.st [(.lst false 1 y7 y8),(.sc (.int .i64 y9)),(.sc (.int .u64 Fi)),(.sc (.int .u64 Gi)),(.sc (.int .i64 Ek)),(.sc (.bool Gh)),(.sc (.int .u64 Fu)),(.lst false 2 G5 Ey),(.sc (.bool Gl)),(.sc (.int .i64 N7)),(.sc (.int .i64 Om))])),(4,(.st [(.lst false 1 Ny Nz),(.sc (.int .i64 Ol)),(.sc (.int .u64 Oq)),(.sc (.int .u64 Oj)),(.sc (.int .i64 N3)),(.sc (.bool Of)),(.sc (.int .u64 Oa)),(.lst false 2 I3 NI),(.sc (.bool NC)),(.sc (.int .i64 y31)),(.sc (.int .i64 VV))])),(6,(.st [(.lst false 1 YS YY),(.sc (.int .i64 y35)),(.sc (.int .u64 ZD)),(.sc (.int .u64 ZX)),(.sc (.int .i64 ZH)),(.sc (.bool y39)),(.sc (.int .u64 y40)),(.lst false 2 ZJ YJ),(.sc (.bool y43)),(.sc (.int .i64 y44)),(.sc (.int .i64 y45))]))]⟩
noncomputable def J4 (fu:Nat)(call:Ai)(nn:Nat)(y0 y1:Int)(y2 y3:Int)(y4:Nat)(y5:List PV)(y6 y7:Int)(y8:Bool)(y9:Nat)(Fi:List PV)(Gi Ek:Int)(Gh Fu:Int)(G5:Bool)(Ey:Int)(Gl:Nat)(N7:List PV)(Om:Bool)(Ny Nz:Int)(Ol:Nat)(Oq:List PV)(Oj N3:Int)(Of Oa:Int)(I3:Bool)(NI:Int)(NC:Nat)(y31:List PV)(VV:Bool)(YS YY:Int)(y35:Nat)(ZD:List PV)(ZX ZH:Int)(y39 y40:Int)(ZJ:Bool)(YJ:Int)(y43:Nat)(y44:List PV)(y45:Bool)(y46 y47:Int):Option A2:=Ct CB prog fu call 5 Try.f5 (Bz Try.f5) [] [.r,.r,.r,.r,.r,.r] nn ⟨lk [(1,(.ptr 1 0)),(2,(.sc (.int .i64 y0))),(3,(.sc (.int .i64 y1))),(4,(.ptr 4 0)),(5,(.sc (.int .i64 y2))),(6,(.ptr 6 0)),(7,(.sc (.int .i64 y3))),(8,(.lst false 3 y4 y5)),(9,(.sc (.int .i64 y6))),(10,(.sc (.int .i64 y7))),(11,(.sc (.bool y8)))],Fx [(1,(.st [(.lst false 1 y9 Fi),(.sc (.int .i64 Gi)),(.sc (.int .u64 Ek)),(.sc (.int .u64 Gh)),(.sc (.int .i64 Fu)),(.sc (.bool G5)),(.sc (.int .u64 Ey)),(.lst false 2 Gl N7),(.sc (.bool Om)),(.sc (.int .i64 Ny)),(.sc (.int .i64 Nz))])),(4,(.st [(.lst false 1 Ol Oq),(.sc (.int .i64 Oj)),(.sc (.int .u64 N3)),(.sc (.int .u64 Of)),(.sc (.int .i64 Oa)),(.sc (.bool I3)),(.sc (.int .u64 NI)),(.lst false 2 NC y31),(.sc (.bool VV)),(.sc (.int .i64 YS)),(.sc (.int .i64 YY))])),(6,(.st [(.lst false 1 y35 ZD),(.sc (.int .i64 ZX)),(.sc (.int .u64 ZH)),(.sc (.int .u64 y39)),(.sc (.int .i64 y40)),(.sc (.bool ZJ)),(.sc (.int .u64 YJ)),(.lst false 2 y43 y44),(.sc (.bool y45)),(.sc (.int .i64 y46)),(.sc (.int .i64 y47))]))]⟩
theorem Pt (fu:Nat)(call:Ai)(nn:Nat)(Dy:0<nn):Gg fu call nn=(Af (call 8 [.sc (.int .i64 1),.sc (.int .i64 2)]) fun x1 x2=>Ac x2<|Aa x1 fun x3 x4=>Gd x3 fun x5=>Aa x5 fun x6 x7=>Ca 1 x6 fun x8 x9 H5=>Aa x7 fun Ib H6=>Ae .i64 Ib fun L9=>Aa H6 fun K7 K8=>Ae .u64 K7 fun Nl=>Aa K8 fun Pz M3=>Ae .u64 Pz fun Hx=>Aa M3 fun Mt Mm=>Ae .i64 Mt fun Qg=>Aa Mm fun Ro P3=>Av Ro fun Y5=>Aa P3 fun X7 Ub=>Ae .u64 X7 fun FC=>Aa Ub fun Ul O2=>Ca 2 Ul fun Sq Zq V2=>Aa O2 fun X3 DR=>Av X3 fun AJ=>Aa DR fun Yt HE=>Ae .i64 Yt fun LY=>Aa HE fun BV NB=>Ae .i64 BV fun PW=>Ac NB<|Ac x4<|Af (call 27 [.agg [.lst false 1 x9 H5,.sc (.int .i64 L9),.sc (.int .u64 Nl),.sc (.int .u64 Hx),.sc (.int .i64 Qg),.sc (.bool Y5),.sc (.int .u64 FC),.lst false 2 Zq V2,.sc (.bool AJ),.sc (.int .i64 LY),.sc (.int .i64 PW)],.sc (.int .i64 1),.sc (.int .i64 0),.sc (.int .i64 7)]) fun BW Oz=>Ac Oz<|Aa BW fun MF NF=>Gd MF fun PZ=>Aa PZ fun OG RG=>Ca 1 OG fun EI RB RQ=>Aa RG fun ND X9=>Ae .i64 ND fun FV=>Aa X9 fun RV BN=>Ae .u64 RV fun GT=>Aa BN fun MA NA=>Ae .u64 MA fun GJ=>Aa NA fun HL WY=>Ae .i64 HL fun ID=>Aa WY fun TN UD=>Av TN fun WO=>Aa UD fun Zw FD=>Ae .u64 Zw fun x70=>Aa FD fun HT To=>Ca 2 HT fun VJ NY Td=>Aa To fun x76 x77=>Av x76 fun U7=>Aa x77 fun x79 x80=>Ae .i64 x79 fun X5=>Aa x80 fun x82 x83=>Ae .i64 x82 fun AA=>Ac x83<|Aa NF fun x85 x86=>Ae .i64 x85 fun AS=>Ac x86<|J3 fu call (fu) AS RB RQ FV GT GJ ID WO x70 NY Td U7 X5 AA):=by cases nn with|zero=>exact absurd Dy (Nat.lt_irrefl 0)|succ nn=>kernel_rfl
theorem Pc (fu:Nat)(call:Ai)(nn:Nat)(Dy:0<nn)(y0:Int)(y1:Nat)(y2:List PV)(y3 y4:Int)(y5 y6:Int)(y7:Bool)(y8:Int)(y9:Nat)(Fi:List PV)(Gi:Bool)(Ek Gh:Int):J3 fu call nn y0 y1 y2 y3 y4 y5 y6 y7 y8 y9 Fi Gi Ek Gh=(Af (call 27 [.agg [.lst false 1 y1 y2,.sc (.int .i64 y3),.sc (.int .u64 y4),.sc (.int .u64 y5),.sc (.int .i64 y6),.sc (.bool y7),.sc (.int .u64 y8),.lst false 2 y9 Fi,.sc (.bool Gi),.sc (.int .i64 Ek),.sc (.int .i64 Gh)],.sc (.int .i64 3),.sc (.int .i64 2),.sc (.int .i64 8)]) fun x88 x89=>Ac x89<|Aa x88 fun x90 Zs=>Gd x90 fun Y0=>Aa Y0 fun x93 x94=>Ca 1 x93 fun x95 x96 x97=>Aa x94 fun BF x99=>Ae .i64 BF fun Ae8=>Aa x99 fun Mc Adg=>Ae .u64 Mc fun Ac9=>Aa Adg fun Ace GD=>Ae .u64 Ace fun Mf=>Aa GD fun Age Ac4=>Ae .i64 Age fun Ado=>Aa Ac4 fun Ag7 Ah2=>Av Ag7 fun Acv=>Aa Ah2 fun Acj Adp=>Ae .u64 Acj fun Agn=>Aa Adp fun Acn Ags=>Ca 2 Acn fun Air Aco Aei=>Aa Ags fun Adb Adw=>Av Adb fun Aep=>Aa Adw fun Acg Adz=>Ae .i64 Acg fun Akb=>Aa Adz fun Abe YT=>Ae .i64 Abe fun Aek=>Ac YT<|Aa Zs fun Afs Aar=>Ae .i64 Afs fun Afz=>Ac Aar<|Ka fu call (fu) (y0) Afz x96 x97 Ae8 Ac9 Mf Ado Acv Agn Aco Aei Aep Akb Aek):=by cases nn with|zero=>exact absurd Dy (Nat.lt_irrefl 0)|succ nn=>kernel_rfl
theorem Po (fu:Nat)(call:Ai)(nn:Nat)(Dy:0<nn)(y0 y1:Int)(y2:Nat)(y3:List PV)(y4 y5:Int)(y6 y7:Int)(y8:Bool)(y9:Int)(Fi:Nat)(Gi:List PV)(Ek:Bool)(Gh Fu:Int):Ka fu call nn y0 y1 y2 y3 y4 y5 y6 y7 y8 y9 Fi Gi Ek Gh Fu=(Af (call 27 [.agg [.lst false 1 y2 y3,.sc (.int .i64 y4),.sc (.int .u64 y5),.sc (.int .u64 y6),.sc (.int .i64 y7),.sc (.bool y8),.sc (.int .u64 y9),.lst false 2 Fi Gi,.sc (.bool Ek),.sc (.int .i64 Gh),.sc (.int .i64 Fu)],.sc (.int .i64 0),.sc (.int .i64 0),.sc (.int .i64 9)]) fun Af7 Aec=>Ac Aec<|Aa Af7 fun Agw UR=>Gd Agw fun Afl=>Aa Afl fun Add Afq=>Ca 1 Add fun Ahv Aja Agh=>Aa Afq fun Ac8 VF=>Ae .i64 Ac8 fun Aev=>Aa VF fun Acf Xp=>Ae .u64 Acf fun Ya=>Aa Xp fun Aoz Amy=>Ae .u64 Aoz fun Ao1=>Aa Amy fun An8 Ajp=>Ae .i64 An8 fun Aq4=>Aa Ajp fun Amk Apz=>Av Amk fun Apw=>Aa Apz fun Bae Aea=>Ae .u64 Bae fun Adx=>Aa Aea fun Aqz Aqa=>Ca 2 Aqz fun Ah3 An3 Ap7=>Aa Aqa fun Aqs Ao7=>Av Aqs fun Au8=>Aa Ao7 fun Anh Amr=>Ae .i64 Anh fun Anl=>Aa Amr fun App Ao2=>Ae .i64 App fun Apv=>Ac Ao2<|Aa UR fun Aov Aqw=>Ae .i64 Aov fun Ao0=>Ac Aqw<|Jw fu call (fu) (y0) (y1) Ao0 (y2) (y3) (y4) (y5) (y6) (y7) (y8) (y9) (Fi) (Gi) (Ek) (Gh) (Fu) Aja Agh Aev Ya Ao1 Aq4 Apw Adx An3 Ap7 Au8 Anl Apv):=by cases nn with|zero=>exact absurd Dy (Nat.lt_irrefl 0)|succ nn=>kernel_rfl
theorem P1 (fu:Nat)(call:Ai)(nn:Nat)(Dy:0<nn)(y0 y1 y2:Int)(y3:Nat)(y4:List PV)(y5 y6:Int)(y7 y8:Int)(y9:Bool)(Fi:Int)(Gi:Nat)(Ek:List PV)(Gh:Bool)(Fu G5:Int)(Ey:Nat)(Gl:List PV)(N7 Om:Int)(Ny Nz:Int)(Ol:Bool)(Oq:Int)(Oj:Nat)(N3:List PV)(Of:Bool)(Oa I3:Int):Jw fu call nn y0 y1 y2 y3 y4 y5 y6 y7 y8 y9 Fi Gi Ek Gh Fu G5 Ey Gl N7 Om Ny Nz Ol Oq Oj N3 Of Oa I3=(Af (call 27 [.agg [.lst false 1 y3 y4,.sc (.int .i64 y5),.sc (.int .u64 y6),.sc (.int .u64 y7),.sc (.int .i64 y8),.sc (.bool y9),.sc (.int .u64 Fi),.lst false 2 Gi Ek,.sc (.bool Gh),.sc (.int .i64 Fu),.sc (.int .i64 G5)],.sc (.int .i64 3),.sc (.int .i64 2),.sc (.int .i64 9)]) fun A86 Aoh=>Ac Aoh<|Aa A86 fun Apy Ap9=>Gd Apy fun Aoy=>Aa Aoy fun Apc Aq7=>Ca 1 Apc fun Asa Ap1 Amt=>Aa Aq7 fun Axm Amz=>Ae .i64 Axm fun Aog=>Aa Amz fun Ams Aqq=>Ae .u64 Ams fun Apq=>Aa Aqq fun Amq Aor=>Ae .u64 Amq fun Aqb=>Aa Aor fun Ap6 Axx=>Ae .i64 Ap6 fun Aob=>Aa Axx fun Am1 Anv=>Av Am1 fun Amu=>Aa Anv fun Amw Aok=>Ae .u64 Amw fun Aop=>Aa Aok fun Aq5 Aqg=>Ca 2 Aq5 fun A6b Aq3 Anq=>Aa Aqg fun Apf Anr=>Av Apf fun Aza=>Aa Anr fun Ai4 Ajk=>Ae .i64 Ai4 fun Aou=>Aa Ajk fun Aqx Ajv=>Ae .i64 Aqx fun Apn=>Ac Ajv<|Aa Ap9 fun Am4 Anz=>Ae .i64 Am4 fun Aoq=>Ac Anz<|Jz fu call (fu) (y0) (y1) (y2) Aoq (y3) (y4) (y5) (y6) (y7) (y8) (y9) (Fi) (Gi) (Ek) (Gh) (Fu) (G5) (Ey) (Gl) (N7) (Om) (Ny) (Nz) (Ol) (Oq) (Oj) (N3) (Of) (Oa) (I3) Ap1 Amt Aog Apq Aqb Aob Amu Aop Aq3 Anq Aza Aou Apn):=by cases nn with|zero=>exact absurd Dy (Nat.lt_irrefl 0)|succ nn=>kernel_rfl
theorem P5 (fu:Nat)(call:Ai)(nn:Nat)(Dy:0<nn)(y0 y1:Int)(y2 y3:Int)(y4:Nat)(y5:List PV)(y6 y7:Int)(y8 y9:Int)(Fi:Bool)(Gi:Int)(Ek:Nat)(Gh:List PV)(Fu:Bool)(G5 Ey:Int)(Gl:Nat)(N7:List PV)(Om Ny:Int)(Nz Ol:Int)(Oq:Bool)(Oj:Int)(N3:Nat)(Of:List PV)(Oa:Bool)(I3 NI:Int)(NC:Nat)(y31:List PV)(VV YS:Int)(YY y35:Int)(ZD:Bool)(ZX:Int)(ZH:Nat)(y39:List PV)(y40:Bool)(ZJ YJ:Int):Jz fu call nn y0 y1 y2 y3 y4 y5 y6 y7 y8 y9 Fi Gi Ek Gh Fu G5 Ey Gl N7 Om Ny Nz Ol Oq Oj N3 Of Oa I3 NI NC y31 VV YS YY y35 ZD ZX ZH y39 y40 ZJ YJ=(Af (call 11 [.lst false 3 0 [],.sc (.string (ByteArray.mk #[97,108,105,99,101])),.sc (.string (ByteArray.mk #[117])),.agg [.lst false 1 y4 y5,.sc (.int .i64 y6),.sc (.int .u64 y7),.sc (.int .u64 y8),.sc (.int .i64 y9),.sc (.bool Fi),.sc (.int .u64 Gi),.lst false 2 Ek Gh,.sc (.bool Fu),.sc (.int .i64 G5),.sc (.int .i64 Ey)]]) fun Apk LK=>Ac LK<|Aa Apk fun UQ Aqv=>Ca 3 UQ fun A6j Aqk Ao3=>Aa Aqv fun Asy An6=>Ae .i64 Asy fun Apr=>Ac An6<|J5 fu call (fu) (y0) (y1) (y2) (y3) Aqk Ao3 Apr (y4) (y5) (y6) (y7) (y8) (y9) (Fi) (Gi) (Ek) (Gh) (Fu) (G5) (Ey) (Gl) (N7) (Om) (Ny) (Nz) (Ol) (Oq) (Oj) (N3) (Of) (Oa) (I3) (NI) (NC) (y31) (VV) (YS) (YY) (y35) (ZD) (ZX) (ZH) (y39) (y40) (ZJ) (YJ)):=by cases nn with|zero=>exact absurd Dy (Nat.lt_irrefl 0)|succ nn=>kernel_rfl
theorem O9 (fu:Nat)(call:Ai)(nn:Nat)(Dy:0<nn)(y0 y1:Int)(y2 y3:Int)(y4:Nat)(y5:List PV)(y6:Int)(y7:Nat)(y8:List PV)(y9 Fi:Int)(Gi Ek:Int)(Gh:Bool)(Fu:Int)(G5:Nat)(Ey:List PV)(Gl:Bool)(N7 Om:Int)(Ny:Nat)(Nz:List PV)(Ol Oq:Int)(Oj N3:Int)(Of:Bool)(Oa:Int)(I3:Nat)(NI:List PV)(NC:Bool)(y31 VV:Int)(YS:Nat)(YY:List PV)(y35 ZD:Int)(ZX ZH:Int)(y39:Bool)(y40:Int)(ZJ:Nat)(YJ:List PV)(y43:Bool)(y44 y45:Int):J5 fu call nn y0 y1 y2 y3 y4 y5 y6 y7 y8 y9 Fi Gi Ek Gh Fu G5 Ey Gl N7 Om Ny Nz Ol Oq Oj N3 Of Oa I3 NI NC y31 VV YS YY y35 ZD ZX ZH y39 y40 ZJ YJ y43 y44 y45=(Af (call 14 [.lst false 3 y4 y5,.sc (.string (ByteArray.mk #[97,108,105,99,101]))]) fun Anu Ank=>Ac Ank<|Aa Anu fun Aqm Aqn=>Ae .i64 Aqm fun Ao5=>Aa Aqn fun Aq2 Anb=>Av Aq2 fun A23=>Ac Anb<|J4 fu call (fu) (y0) (y1) (y2) (y3) (y4) (y5) (y6) Ao5 A23 (y7) (y8) (y9) (Fi) (Gi) (Ek) (Gh) (Fu) (G5) (Ey) (Gl) (N7) (Om) (Ny) (Nz) (Ol) (Oq) (Oj) (N3) (Of) (Oa) (I3) (NI) (NC) (y31) (VV) (YS) (YY) (y35) (ZD) (ZX) (ZH) (y39) (y40) (ZJ) (YJ) (y43) (y44) (y45)):=by cases nn with|zero=>exact absurd Dy (Nat.lt_irrefl 0)|succ nn=>kernel_rfl
theorem Pe (fu:Nat)(call:Ai)(nn:Nat)(Dy:0<nn)(y0 y1:Int)(y2 y3:Int)(y4:Nat)(y5:List PV)(y6 y7:Int)(y8:Bool)(y9:Nat)(Fi:List PV)(Gi Ek:Int)(Gh Fu:Int)(G5:Bool)(Ey:Int)(Gl:Nat)(N7:List PV)(Om:Bool)(Ny Nz:Int)(Ol:Nat)(Oq:List PV)(Oj N3:Int)(Of Oa:Int)(I3:Bool)(NI:Int)(NC:Nat)(y31:List PV)(VV:Bool)(YS YY:Int)(y35:Nat)(ZD:List PV)(ZX ZH:Int)(y39 y40:Int)(ZJ:Bool)(YJ:Int)(y43:Nat)(y44:List PV)(y45:Bool)(y46 y47:Int):J4 fu call nn y0 y1 y2 y3 y4 y5 y6 y7 y8 y9 Fi Gi Ek Gh Fu G5 Ey Gl N7 Om Ny Nz Ol Oq Oj N3 Of Oa I3 NI NC y31 VV YS YY y35 ZD ZX ZH y39 y40 ZJ YJ y43 y44 y45 y46 y47=(Bd (y0==0) (Bd (y1==0) (Bd (y2==37) (Bd (y3==37) (Bd (y6==0) (Bd (!VV) (Bd (y45) (Bd (Ey==10) (Bd ((↑Gl:Int)==2) (Bd (y8) (Bd (y7==0) (Af (call 13 [.lst false 3 y4 y5,.sc (.int .u64 1),.sc (.string (ByteArray.mk #[98,111,98]))]) fun Am2 Api=>Ac Api<|Aa Am2 fun An4 Aoi=>Kc 1 An4 fun Apx Ay1=>Ac Aoi<|some (A2.mk [.sc (.bool ((↑Apx:Int)==4))] [])) (some (A2.mk [.sc (.bool false)] []))) (some (A2.mk [.sc (.bool false)] []))) (some (A2.mk [.sc (.bool false)] []))) (some (A2.mk [.sc (.bool false)] []))) (some (A2.mk [.sc (.bool false)] []))) (some (A2.mk [.sc (.bool false)] []))) (some (A2.mk [.sc (.bool false)] []))) (some (A2.mk [.sc (.bool false)] []))) (some (A2.mk [.sc (.bool false)] []))) (some (A2.mk [.sc (.bool false)] []))) (some (A2.mk [.sc (.bool false)] []))):=by cases nn with|zero=>exact absurd Dy (Nat.lt_irrefl 0)|succ nn=>kernel_rfl
theorem Sa (fu d:Nat):Ag C0 prog fu (d+1) Lb []=(fun (call:Ai)=>Gg fu call (fu)) (Ag C0 prog fu d):=by kernel_rfl
end
section
open Go.Proofs.Try (prog)
open Go.IntKind (wrap)
set_option maxRecDepth 100000
abbrev N5:FuncId:=6
theorem Xz (fu d Ap:Nat)(a0:List PV):Ag C0 prog fu (d+1) N5 [.lst false 1 Ap a0]=(fun (call:Ai)=>some (A2.mk [.pbox [.lst false 1 Ap a0,.sc (.int .i64 0)]] [])) (Ag C0 prog fu d):=by kernel_rfl
abbrev Ja:FuncId:=28
theorem Og (fu d:Nat)(a0 a1:Int):Ag C0 prog fu (d+1) Ja [.sc (.int .i64 a0),.sc (.int .i64 a1)]=(fun (call:Ai)=>Ab (wrap .u64 a0) fun x1=>Ab (wrap .u64 a1) fun x2=>An (decide (x2≠0))<|Ab (Int.tmod x1 x2) fun x3=>Ab (wrap .i64 x3) fun x4=>some (A2.mk [.sc (.int .i64 x4)] [])) (Ag C0 prog fu d):=by kernel_rfl
abbrev Ik:FuncId:=10
theorem Ic (fu d Fb:Nat)(Di:List PV)(De a1:Int):Ag C0 prog fu (d+1) Ik [.pbox [.lst false 1 Fb Di,.sc (.int .i64 De)],.sc (.int .i64 a1)]=(fun (call:Ai)=>Bd (decide (De>=(↑Fb:Int))) (some (A2.mk [.sc (.int .i64 0)] [[.lst false 1 Fb Di,.sc (.int .i64 De)]])) (Ab (wrap .i64 (De+1)) fun x1=>Ab (wrap .i64 (x1-1)) fun x2=>An (decide (0<=x2)&&decide (x2<(↑Fb:Int)))<|Ae .i64 (List.getD Di (Int.toNat x2*1) .top) fun x3=>Af (call 28 [.sc (.int .i64 x3),.sc (.int .i64 a1)]) fun x4 x5=>Ac x5<|Aa x4 fun x6 x7=>Ae .i64 x6 fun x8=>Ac x7<|some (A2.mk [.sc (.int .i64 x8)] [[.lst false 1 Fb Di,.sc (.int .i64 x1)]]))) (Ag C0 prog fu d):=by kernel_rfl
end
section
open Go.Proofs.Try (prog)
open Go.IntKind (wrap)
set_option maxRecDepth 100000
theorem PS {α:Type}{l:List α}{i:Nat}{a:α}(h:l[i]?=some a):l.set i a=l:=by
 refine List.ext_getElem? fun j=>?_
 rw[List.getElem?_set];by_cases hj:i=j
 ·subst hj;rw[J8 rfl,J8 (H9 h),h]
 ·rw[Mr hj]
section
variable {xs:FuncId->Option (List PV->Option A2)} {fu d:Nat}
theorem JC {n:Nat}{c:List PV}(hc:c.length=n)(hn:n<=1000000):Ag (CX xs) prog fu (d+1) Uv [.lst false 1 n c]=some ⟨[.own 1 n c],[]⟩:=by
 rw[GB];have t1:List.take n c=c:=G9 (by omega)
 by_cases h:0<n
 ·simp (disch:=omega) only[Ea,Cn,Zzq,t1,hc,Ch]
 ·have h0:n=0:=by omega
  subst h0;have:=List.length_eq_zero_iff.1 hc;subst this;simp (disch:=omega) only[Ea,Cn,Zzq,Dh,Ch,Nat.zero_mul,List.take_nil]
theorem Aai {n:Nat}{c:List PV}(hc:c.length=n*2)(hn:n<=1000000):Ag (CX xs) prog fu (d+1) Lh [.lst false 2 n c]=some ⟨[.own 2 n c],[]⟩:=by
 rw[Sf];have t1:List.take (n*2) c=c:=G9 (by omega)
 by_cases h:0<n
 ·simp (disch:=omega) only[Ea,Cn,Zzq,t1,hc]
 ·have h0:n=0:=by omega
  subst h0;have:=List.length_eq_zero_iff.1 hc;subst this;simp (disch:=omega) only[Ea,Cn,Zzq,Dh,Nat.zero_mul,List.take_nil]
def Sd.ocells (x:Sd):List PV:=[.own 1 x.id.length (Am .u8 x.id),.sc (.int .i64 x.ht),.sc (.int .u64 x.root),.sc (.int .u64 x.model),.sc (.int .i64 x.fmt),.sc (.bool x.sh),.sc (.int .u64 x.used),.own 2 x.rg.length (H7 x.rg),.sc (.bool x.sus),.sc (.int .i64 x.since),.sc (.int .i64 x.last)]
theorem Ur {c:Sd}(h1:c.id.length<=1000000)(h2:c.rg.length<=1000000):Ag (CX xs) prog fu (d+2) K5 [.agg c.cells]=some ⟨[.agg c.ocells],[]⟩:=by
 refine (S7 fu (d+1) c.id.length (Am .u8 c.id) c.ht c.root c.model c.fmt c.sh c.used c.rg.length (H7 c.rg) c.sus c.since c.last).trans ?_;have q1:=JC (xs:=xs) (fu:=fu) (d:=d) (A0 .u8 c.id) h1;have q2:=Aai (xs:=xs) (fu:=fu) (d:=d) (Mo c.rg) h2;have l1:=A0 .u8 c.id;have l2:=Mo c.rg;have t1:List.take (c.id.length*1) (Am .u8 c.id)=Am .u8 c.id:=G9 (by omega)
 have t2:List.take (c.rg.length*2) (H7 c.rg)=H7 c.rg:=G9 (by omega)
 simp (disch:=omega) only[Ea,q1,q2,t1,t2];rfl
end
section
variable {fu d:Nat}
theorem Abc {c:List PV}{n:Nat}{i f l:Int}(hc:c.length=n*2)(h0:0<=i)(h1:i<=n)(hn:n<=100000)(ha:c.all CD=true):
  Ag C0 prog fu (d+1) 46 [.own 2 n c,.sc (.int .i64 i),.tup [.own 2 1 [.sc (.int .i64 f),.sc (.int .i64 l)]]] =
   some ⟨[.own 2 (n+1) (c.take (i.toNat*2)++(.sc (.int .i64 f) :: .sc (.int .i64 l)::c.drop (i.toNat*2)))],[[.sc (.int .i64 f),.sc (.int .i64 l)]]⟩:=by
 have h:Ag C0 prog fu (d+1) 46 [.own 2 n c,.sc (.int .i64 i),.tup [.own 2 1 [.sc (.int .i64 f),.sc (.int .i64 l)]]]=Ad4 [.own 2 n c,.sc (.int .i64 i),.tup [.own 2 1 [.sc (.int .i64 f),.sc (.int .i64 l)]]]:=by kernel_rfl
 rw[h];unfold Ad4
 have e:(Nat.beq c.length (n*2)&&decide (0<=i)&&decide (i<=n)&&Nat.ble n 100000&&c.all CD)=true:=by
  simp[ha,hc,h0,h1,hn]
 simp only[e,cond_true]
theorem Ahw (l:List (Int × Int)):(H7 l).all CD=true:=by
 rw[List.all_eq_true];intro x hx;obtain⟨p,_,hp⟩:=List.mem_flatMap.1 hx;rcases List.mem_cons.1 hp with rfl|hp
 ·rfl
 ·rw[List.mem_singleton] at hp;subst hp;rfl
theorem A2q {l:List (Int × Int)} {i:Nat}{p:Int × Int}(h:l[i]?=some p):(H7 l).getD (i*2) .top=.sc (.int .i64 p.1):=by
 have:=EM (f:=fun p:Int × Int=>[PV.sc (.int .i64 p.1),.sc (.int .i64 p.2)]) (k:=2) (fun _=>rfl) h (j:=0) (by omega)
 exact this
theorem Azh {l:List (Int × Int)} {i:Nat}{p:Int × Int}(h:l[i]?=some p):(H7 l).getD (i*2+1) .top=.sc (.int .i64 p.2):=by
 have:=EM (f:=fun p:Int × Int=>[PV.sc (.int .i64 p.1),.sc (.int .i64 p.2)]) (k:=2) (fun _=>rfl) h (j:=1) (by omega)
 exact this
def MP (c:Sd)(leaf now:Int):Option (List (Int × Int))->A2
 |none=>⟨[.agg c.cells,.sc (.int .i64 37)],[]⟩
 |some r=>⟨[.agg ({ c with used:=Am6 c.used leaf,rg:=r,last:=now }:Sd).cells,.sc (.int .i64 0)],[]⟩
theorem Afp {c:Sd}{leaf from_ now:Int}(hl:0<=leaf∧leaf<=15)(hr:c.rg.length<=1000)(Bb:c.id.length<=1000000){call:Ai}
  (Ajr:∀i:Nat,i<=c.rg.length->call 46 [.own 2 c.rg.length (H7 c.rg),.sc (.int .i64 (i:Int)),.tup [.own 2 1 [.sc (.int .i64 from_),.sc (.int .i64 leaf)]]]=some ⟨[.own 2 (c.rg.length+1) ((H7 c.rg).take (i*2)++(.sc (.int .i64 from_) :: .sc (.int .i64 leaf)::(H7 c.rg).drop (i*2)))],[[.sc (.int .i64 from_),.sc (.int .i64 leaf)]]⟩)
  {Ap:Nat} {a0:List PV} {a1 a2 a3 a4 a6 a9 a10 b1 b2 b3:Int} {a5 a8:Bool} {a7n:Nat} {a7:List PV} {z1:Nat} {z2 z3 z4 z5 z7 z10 z11:Int} {z6 z9:Bool} {z8:Nat} {z12 z13:List PV}:
  ∀(r:List (Int × Int)) (i nn:Nat),c.rg.drop i=r->r.length<nn->i<=c.rg.length->(∀p∈c.rg.take i,p.1<from_) ->
   Gq fu call Ap a0 a1 a2 a3 a4 a5 a6 a7n a7 a8 a9 a10 b1 b2 b3 nn leaf from_ now (Jv .u64 1 leaf) (i:Int) c.id.length c.ht c.root c.model c.fmt c.sh c.used c.rg.length c.sus c.since c.last (Am .u8 c.id) (H7 c.rg) z1 z2 z3 z4 z5 z6 z7 z8 z9 z10 z11 z12 z13 =
    some (MP c leaf now ((put from_ leaf r).map (c.rg.take i ++ ·))):=by
 intro r;have l1:=A0 .u8 c.id;have l2:=Mo c.rg;have t1:List.take (c.id.length*1) (Am .u8 c.id)=Am .u8 c.id:=G9 (by omega)
 have t2:List.take (c.rg.length*2) (H7 c.rg)=H7 c.rg:=G9 (by omega)
 have eS:BH .u64 c.used (Jv .u64 1 leaf)=Am6 c.used leaf:=rfl
 have insR:∀(i:Nat) (s:List (Int × Int)),i<=c.rg.length->c.rg.drop i=s->(H7 c.rg).take (i*2)++(.sc (.int .i64 from_) :: .sc (.int .i64 leaf)::(H7 c.rg).drop (i*2))=H7 (c.rg.take i++(from_,leaf)::s):=by
  intro i s hi hs;have e1:=Rg (f:=fun p:Int × Int=>[PV.sc (.int .i64 p.1),.sc (.int .i64 p.2)]) (k:=2) (fun _=>rfl) c.rg i
  have e2:=On (f:=fun p:Int × Int=>[PV.sc (.int .i64 p.1),.sc (.int .i64 p.2)]) (k:=2) (fun _=>rfl) c.rg i
  rw[Ah8,Ach,←hs];unfold H7;rw[e1,e2]
 have setR:∀(i:Nat) (l:List (Int × Int)) (p:Int × Int),l[i]?=some p->Bl (H7 l) [.sc (.int .i64 leaf)] (0+i*2+1)=H7 (l.set i (p.1,leaf)):=by
  intro i l p h;have Bp:=H9 h;have NG:=Mo l;rw[Vo (by omega)]
  have:=LC (f:=fun p:Int × Int=>[PV.sc (.int .i64 p.1),.sc (.int .i64 p.2)]) (k:=2) (fun _=>rfl) (p:=.sc (.int .i64 leaf)) (j:=1) (by omega) (y:=(p.1,leaf)) h rfl
  unfold H7;rw[←this]
  congr 1
  omega
 induction r with
 |nil=>
  intro i nn hd Dy hi hp;have FI:i=c.rg.length:=by have:=drop_nil hd;omega
  obtain⟨nn,rfl⟩:∃k,nn=k+1:=⟨nn-1,by omega⟩
  rw[L5];have q:=Ajr i hi;have eI:=insR i [] hi hd;rw[eI] at q;have ht:c.rg.take i=c.rg:=G9 (by omega)
  rw[ht] at q;have eG:(c.rg++[(from_,leaf)])[i]?=some (from_,leaf):=by rw[FI];simp
  have eS2:=setR i _ _ eG;have eS3:=PS eG;rw[eS3] at eS2;have lR:=Mo (c.rg++[(from_,leaf)]);have lA:(c.rg++[(from_,leaf)]).length=c.rg.length+1:=by simp
  have tR:List.take ((c.rg.length+1)*2) (H7 (c.rg++[(from_,leaf)]))=H7 (c.rg++[(from_,leaf)]):=G9 (by omega)
  have eq1:((i:Int)==(c.rg.length:Int))=true:=by simp[FI]
  have tn:Int.toNat (i:Int)=i:=rfl;have eX:put from_ leaf []=some [(from_,leaf)]:=rfl;rw[eX];simp only[Option.map_some,ht]
  try unfold Ab
  repeat first
   |((with_reducible first|apply A5|apply Aw|apply A9|apply Ay|apply B7|apply C6|apply Ax|apply A6|apply A8);· first|with_reducible rfl|(simp (disch:=omega) only[gT,q,t1,t2,tR,eS,eS2,eq1,tn,Cm,lR,lA]<;>first|with_reducible rfl|omega)|omega)
   |(with_reducible apply A7;· first|with_reducible rfl|(simp (disch:=omega) only[gF,q,t1,t2,tR,eS,eS2,eq1,tn,Cm,lR,lA]<;>omega))
  try simp (disch:=omega) only[q,t1,t2,tR,eS,eS2,eq1,tn,Cm,lR,lA]
  simp only[MP,Sd.cells,lA]
 |cons p r ih=>
  intro i nn hd Dy hi hp;obtain⟨Bp,Br,hd'⟩:=C3 hd;obtain⟨nn,rfl⟩:∃k,nn=k+1:=⟨nn-1,by omega⟩
  rw[L5];have eF:=A2q Br;have eL:=Azh Br;have tn:Int.toNat (i:Int)=i:=rfl;have a0':(0:Nat)+i*2+0=i*2:=by omega
  have a1':(0:Nat)+i*2+1=i*2+1:=by omega
  have lt1:decide ((i:Int)<(c.rg.length:Int))=true:=by simp;omega
  have ne1:((i:Int)==(c.rg.length:Int))=false:=by simp;omega
  have w1:wrap .i64 ((i:Int)+1)=((i+1:Nat):Int):=by rw[wrap_i64 (by omega) (by omega)];omega
  have tk:c.rg.take (i+1)=c.rg.take i++[p]:=by rw[List.take_add_one,Br];rfl
  unfold put;by_cases c1:p.1<from_
  ·rw[J8 c1]
   have ihh:=ih (i+1) nn hd' (by simp at Dy;omega) (by omega) (by
    intro q hq;rw[tk] at hq;rcases List.mem_append.1 hq with hq|hq
    ·exact hp q hq
    ·rw[List.mem_singleton] at hq;subst hq;exact c1)
   have e:((put from_ leaf r).map (p :: ·)).map (c.rg.take i ++ ·)=(put from_ leaf r).map (c.rg.take (i+1) ++ ·):=by
    rw[Option.map_map,tk]
    congr 1
    funext x
    simp
   rw[e,←ihh];have d1:decide (p.1<from_)=true:=by simp[c1]
   simp (disch:=omega) only[Ea,tn,a0',eF,w1,lt1,d1]
  ·rw[Mr c1];have d1:decide (p.1<from_)=false:=by simp;omega
   by_cases c2:p.1=from_
   ·rw[J8 c2];have d2:(p.1 != from_)=false:=by simp[c2]
    by_cases c3:leaf<=p.2
    ·rw[J8 c3];have d3:decide (p.2>=leaf)=true:=by simp;omega
     simp (disch:=omega) only[Ea,tn,a0',a1',eF,eL,lt1,d1,ne1,d2,d3,t1,t2,Cm,Option.map_none];rfl
    ·rw[Mr c3];have d3:decide (p.2>=leaf)=false:=by simp;omega
     have eS2:=setR i _ _ Br;have lR:=Mo (c.rg.set i (p.1,leaf));have lA:(c.rg.set i (p.1,leaf)).length=c.rg.length:=by simp
     have eA:c.rg.set i (p.1,leaf)=c.rg.take i++(from_,leaf)::r:=by
      rw[List.set_eq_take_append_cons_drop,J8 Bp,hd',c2]
     have tR:List.take (c.rg.length*2) (H7 (c.rg.set i (p.1,leaf)))=H7 (c.rg.set i (p.1,leaf)):=G9 (by omega)
     rw[a1'] at eS2;have hS3:i*2+1+1<=(H7 c.rg).length:=by omega
     simp (disch:=omega) only[Ea,tn,a0',a1',eF,eL,lt1,d1,ne1,d2,d3,t1,tR,Cm,Option.map_some,eS2,eS,lR,lA];simp only[MP,Sd.cells,←eA,lA]
   ·rw[Mr c2];have d2:(p.1 != from_)=true:=by simp[c2]
    have q:=Ajr i hi;have eI:=insR i (p::r) hi hd;rw[eI] at q
    have eG:(c.rg.take i++(from_,leaf)::p::r)[i]?=some (from_,leaf):=by
     rw[List.getElem?_append_right (by rw[List.length_take];omega),List.length_take,Nat.min_eq_left (by omega),Nat.sub_self];rfl
    have eS2:=setR i _ _ eG;have eS3:=PS eG;rw[eS3] at eS2
    have lA:(c.rg.take i++(from_,leaf)::p::r).length=c.rg.length+1:=by
     have:=congrArg List.length hd;simp at this ⊢;omega
    have lR:=Mo (c.rg.take i++(from_,leaf)::p::r);rw[Option.map_some];generalize hL:c.rg.take i++(from_,leaf)::p::r=L at *
    have tR:List.take ((c.rg.length+1)*2) (H7 L)=H7 L:=G9 (by omega)
    rw[a1'] at eS2;have hS3:i*2+1+1<=(H7 L).length:=by omega
    simp (disch:=omega) only[Ea,tn,a0',a1',eF,lt1,d1,ne1,d2,t1,t2,q,tR,Cm,eS2,eS,lR,lA];simp only[MP,Sd.cells,lA]
theorem Tq {c:Sd}(hk:c.ok)(B2:2000<=fu)(leaf from_ now:Int):Ag C0 prog fu (d+4) Pb [.agg c.cells,.sc (.int .i64 leaf),.sc (.int .i64 from_),.sc (.int .i64 now)]=some ⟨[.agg (AG c leaf from_ now).1.cells,.sc (.int .i64 (AG c leaf from_ now).2)],[]⟩:=by
 refine (Zd fu (d+3) c.id.length (Am .u8 c.id) c.ht c.root c.model c.fmt c.sh c.used c.rg.length (H7 c.rg) c.sus c.since c.last leaf from_ now).trans ?_;have q:=Ur (xs:=Ih) (fu:=fu) (d:=d+1) hk.idL (Nat.le_trans hk.rgn (by omega))
 simp only[Sd.cells,Sd.ocells] at q;have l1:=A0 .u8 c.id;have l2:=Mo c.rg;have t1:List.take (c.id.length*1) (Am .u8 c.id)=Am .u8 c.id:=G9 (by omega)
 have t2:List.take (c.rg.length*2) (H7 c.rg)=H7 c.rg:=G9 (by omega)
 simp (disch:=omega) only[Ea,q,t1,t2,Cm,l1,l2];by_cases h1:c.ht<0
 ·have hb:Vk c leaf from_=true:=by simp[Vk,h1]
  unfold AG;rw[J8 hb];simp (disch:=omega) only[Ea];rfl
 by_cases h2:c.ht>4
 ·have hb:Vk c leaf from_=true:=by simp[Vk,h2]
  unfold AG;rw[J8 hb];simp (disch:=omega) only[Ea];rfl
 by_cases h3:from_<0
 ·have hb:Vk c leaf from_=true:=by simp[Vk,h3]
  unfold AG;rw[J8 hb];simp (disch:=omega) only[Ea];rfl
 by_cases h4:from_>leaf
 ·have hb:Vk c leaf from_=true:=by simp[Vk,h4]
  unfold AG;rw[J8 hb];simp (disch:=omega) only[Ea];rfl
 by_cases h5:leaf>=Jv .i64 1 c.ht
 ·have hb:Vk c leaf from_=true:=by simp[Vk,h5]
  unfold AG;rw[J8 hb];simp (disch:=omega) only[Ea];rfl
 have hb:Vk c leaf from_=false:=by simp[Vk,h1,h2,h3,h4,h5]
 obtain⟨r1,r2,r3,r4,r5,r6⟩:=UO hb;unfold AG;rw[Mr (by rw[hb];simp)]
 simp (disch:=omega) only[Ea];rw[Ua (Dy:=by omega)]
 have ub:=YL hk.u0 hk.u1 (k:=leaf) (by omega) (by omega)
 by_cases hs:c.sus=true
 ·have hsT:∀x y:Option A2,Bd c.sus x y=x:=fun x y=>by rw[hs];rfl
  rw[J8 hs];simp (disch:=omega) only[Ea,hsT,t1,t2,Cm];rfl
 ·have hsF:∀x y:Option A2,Bd c.sus x y=y:=fun x y=>by rw[Bool.not_eq_true] at hs;rw[hs];rfl
  rw[Mr hs];by_cases Ue:Ais c.used leaf=true
  ·rw[Ue] at ub;rw[J8 Ue];simp (disch:=omega) only[Ea,hsF,ub,t1,t2,Cm];rfl
  ·rw[Bool.not_eq_true] at Ue;rw[Ue] at ub;rw[Mr (by simp[Ue])]
   simp (disch:=omega) only[Ea,hsF,ub];refine (Afp (c:=c) (leaf:=leaf) (from_:=from_) (now:=now) (by omega) hk.rgn hk.idL (fun i hi=>Abc (Mo _) (by omega) (by omega) (by have:=hk.rgn;omega) (Ahw _)) c.rg 0 fu rfl (by have:=hk.rgn;omega) (by omega) (by simp)).trans ?_
   have e0:(Option.map (List.take 0 c.rg ++ ·) (put from_ leaf c.rg))=put from_ leaf c.rg:=by
    rw[List.take_zero];cases put from_ leaf c.rg<;>rfl
   rw[e0];cases put from_ leaf c.rg<;>rfl
end
end
section
open Go.Proofs.Try (prog)
open Go.IntKind (wrap)
set_option maxRecDepth 100000
section
variable {fu d:Nat}
theorem TS (a b c:Int):Ag C0 prog fu (d+1) Jx [.sc (.int .i64 a),.sc (.int .i64 b),.sc (.int .i64 c)]=some ⟨[.sc (.bool (decide (b<=a)&&decide (a<=c)))],[]⟩:=by
 rw[R0];by_cases h1:b<=a
 ·simp (disch:=omega) only[Ea,h1,decide_true,Bool.true_and]
 ·have Tj:¬a>=b:=by omega
  simp[Bd,h1,Tj]
end
end
section
open Go.Proofs.Try (prog)
open Go.IntKind (wrap)
abbrev X6 (l:List Int)(a:Nat):List PV:=[.lst false 1 l.length (Am .i64 l),.sc (.int .i64 (a:Int))]
theorem Ap2 {fu d:Nat}{l:List Int}:Ag C0 prog fu (d+1) N5 [.lst false 1 l.length (Am .i64 l)]=some ⟨[.pbox (X6 l 0)],[]⟩:=by
 rw[Xz];rfl
theorem Am3 (v n:Int)(hn:0<n)(hm:n<=9223372036854775807):∃r,0<=r∧r<n∧∀{fu d:Nat},Ag C0 prog fu (d+1) Ja [.sc (.int .i64 v),.sc (.int .i64 n)]=some ⟨[.sc (.int .i64 r)],[]⟩:=by
 have h1:=CJ v;have h2:wrap .u64 n=n:=D8 (by omega) (by omega)
 have h3:0<=Int.tmod (wrap .u64 v) n:=Int.tmod_nonneg _ h1.1;have h4:Int.tmod (wrap .u64 v) n<n:=Int.tmod_lt_of_pos _ hn;refine⟨_,h3,h4,fun {fu d}=>?_⟩
 rw[Og];simp only[K3,h2];rw[BU _ _ (by omega),wrap_i64 (by omega) (by omega)]
theorem Cz {l:List Int}(hl:l.length<=maxLen)(a:Nat)(n:Int)(hn:0<n)(hm:n<=9223372036854775807):∃(v:Int)(a':Nat),0<=v∧v<n ∧
  ∀{fu d:Nat},Ag C0 prog fu (d+2) Ik [.pbox (X6 l a),.sc (.int .i64 n)]=some ⟨[.sc (.int .i64 v)],[X6 l a']⟩:=by
 simp only[maxLen] at hl;by_cases h:a<l.length
 ·obtain⟨r,h1,h2,h3⟩:=Am3 l[a] n hn hm;refine⟨r,a+1,h1,h2,fun {fu d}=>?_⟩
  rw[Ic]
  have hg:(Am .i64 l).getD (Int.toNat ((a:Int)+1-1)*1) .top=.sc (.int .i64 l[a]):=by
   have:=ati (k:=.i64) (List.getElem?_eq_getElem h);rw[show Int.toNat ((a:Int)+1-1)*1=a by omega]
   exact this
  simp (disch:=omega) only[Ea,wrap_i64,hg,h3];rfl
 ·refine⟨0,a,by omega,hn,fun {fu d}=>?_⟩
  rw[Ic];simp (disch:=omega) only[Ea]
end
section
open Go.Proofs.Try (prog)
open Go.IntKind (wrap)
set_option maxRecDepth 100000
def GQ (key nonce:Int):Nat->Nat->List Int
 |_,0=>[]
 |i,k+1=>Gm (BC key 5 (B9 [nonce,(i:Int)]))++GQ key nonce (i+1) k
def Nb (key nonce:Int)(n:Nat):List Int:=(GQ key nonce 0 ((n+7) / 8)).take n
theorem OT (key nonce:Int):∀(k i:Nat),(GQ key nonce i k).length=8*k
 |0,_=>rfl
 |k+1,i=>by show (Gm _++_).length=_;rw[AV,E5,OT key nonce k];omega
theorem Ab2 (key nonce:Int):∀(k i:Nat),T8 (GQ key nonce i k)
 |0,_=>fun x hx=>by cases hx
 |k+1,i=>Aih (XN _) (Ab2 key nonce k _)
theorem G4 (key nonce:Int)(n:Nat):(Nb key nonce n).length=n:=by
 unfold Nb;rw[List.length_take,OT];omega
theorem TL (key nonce:Int)(n:Nat):T8 (Nb key nonce n):=(Ab2 key nonce _ _).take n
section
variable {fu d:Nat}
theorem VC {xs:FuncId->Option (List PV->Option A2)} {l:List Int}(hb:T8 l)(hl:l.length<=1099511627776)(B2:100<=fu)(hf:l.length<fu)(key dom:Int):Ag (CX xs) prog fu (d+5) Xb [.sc (.int .u64 key),.sc (.int .i64 dom),.lst false 1 l.length (Am .u8 l)]=some ⟨[.sc (.int .u64 (BC key dom l))],[]⟩:=by
 rw[JZ];have s:=Amp (xs:=xs) (fu:=fu) (d:=d) hb hl B2 hf key (wrap .u64 (1+wrap .u64 dom));simp only[Ea,s];rfl
theorem YI (B2:1000<=fu){a0 a1 a2:Int}{key nonce:Int}{n:Nat}(hn:n<=1024):∀(k nn i:Nat)(l:List Int),n<=8*(i+k)->8*(i+k)<n+8->k<nn->l.length=8*i ->
  I6 fu (Ag C0 prog fu (d+5)) a0 a1 a2 nn key nonce (n:Int) l.length i (Am .u8 l)=some ⟨[.own 1 n (Am .u8 ((l++GQ key nonce i k).take n))],[]⟩:=by
 intro k
 induction k with
 |zero=>
  intro nn i l h1 Tj h2 h3;obtain⟨m,rfl⟩:∃m,nn=m+1:=⟨nn-1,by omega⟩
  have L:=A0 .u8 l;have nt:Int.toNat (n:Int)=n:=Rq _;rw[O5,GQ,List.append_nil]
  try unfold Ab
  repeat first
   |((with_reducible first|apply A5|apply Aw|apply A9|apply B7|apply Ax|apply A6|apply A8);· first|with_reducible rfl|(simp (disch:=omega) only[gT,L,nt,Nat.sub_zero,Ch,Ga]<;>first|with_reducible rfl|omega)|omega)
   |(with_reducible apply A7;· first|with_reducible rfl|(simp (disch:=omega) only[gF,L,nt,Nat.sub_zero,Ch,Ga]<;>omega))
  try simp (disch:=omega) only[L,nt,Nat.sub_zero,Ch,Ga]
 |succ k ih=>
  intro nn i l h1 Tj h2 h3;obtain⟨m,rfl⟩:∃m,nn=m+1:=⟨nn-1,by omega⟩
  have L:=A0 .u8 l;have nt:Int.toNat (n:Int)=n:=Rq _;have Bp:l.length<n:=by omega
  have w2:wrap .u64 ((i:Int)+1)=((i+1:Nat):Int):=by rw[D8 (by omega) (by omega)];omega
  have wd:Ag C0 prog fu (d+5) I4 [.lst false 1 2 [.sc (.int .u64 nonce),.sc (.int .u64 i)]]=some ⟨[.own 1 (B9 [nonce,(i:Int)]).length (Am .u8 (B9 [nonce,(i:Int)]))],[]⟩:=PT (xs:=Ih) (ws:=[nonce,i]) (by simp) (by omega) (by simp;omega)
  have mc:=VC (xs:=Ih) (fu:=fu) (d:=d) (l:=B9 [nonce,i]) (RH _) (by rw[Qk];simp) (by omega) (by rw[Qk];simp;omega) key 5
  have L2:=A0 .u8 (B9 [nonce,i]);have t2:=tki .u8 (B9 [nonce,i]);rw[GQ];generalize BC key 5 (B9 [nonce,i])=q at mc ⊢;have ow:Ag C0 prog fu (d+5) I4 [.lst false 1 1 [.sc (.int .u64 q)]]=some ⟨[.own 1 (B9 [q]).length (Am .u8 (B9 [q]))],[]⟩:=PT (xs:=Ih) (ws:=[q]) (by simp) (by omega) (by simp;omega)
  have eq1:B9 [q]=Gm q:=by simp[B9]
  rw[eq1,E5] at ow;have Lq:(Am .u8 (Gm q)).length=8:=by rw[A0,E5]
  have tq:List.take 8 (Am .u8 (Gm q))=Am .u8 (Gm q):=G9 (by omega)
  have tl:=tki .u8 l;have ea:Am .u8 l++Am .u8 (Gm q)=Am .u8 (l++Gm q):=by rw[Am,Am,Am,List.flatMap_append]
  have r3:=ih m (i+1) (l++Gm q) (by omega) (by omega) (by omega) (by rw[AV,E5];omega)
  rw[AV,E5,Zzv] at r3;rw[←r3,O5];generalize B9 [nonce,(i:Int)]=W at *
  generalize W.length=wn at *
  try unfold Ab
  repeat first
   |((with_reducible first|apply A5|apply Aw|apply A9|apply B7|apply Ax|apply A6|apply A8);· first|with_reducible rfl|(simp (disch:=omega) only[gT,w2,wd,Cm,Cn,Ch,L,L2,t2,mc,ow,Lq,tq,tl,ea]<;>first|with_reducible rfl|omega)|omega)
   |(with_reducible apply A7;· first|with_reducible rfl|(simp (disch:=omega) only[gF,w2,wd,Cm,Cn,Ch,L,L2,t2,mc,ow,Lq,tq,tl,ea]<;>omega))
  try simp (disch:=omega) only[w2,wd,Cm,Cn,Ch,L,L2,t2,mc,ow,Lq,tq,tl,ea]
  all_goals rfl
theorem Aj2 (B2:1000<=fu)(key nonce:Int){n:Nat}(hn:n<=1024):Ag C0 prog fu (d+6) Ox [.sc (.int .u64 key),.sc (.int .u64 nonce),.sc (.int .i64 n)]=some ⟨[.own 1 n (Am .u8 (Nb key nonce n))],[]⟩:=by
 rw[GW];have f1:(if (n:Int)<0 then (0:Int) else (n:Int))=n:=Mr (by omega)
 have f2:(if (1024:Int)<(n:Int) then (1024:Int) else (n:Int))=n:=Mr (by omega)
 have w:wrap .i64 ((n:Int)+8)=(n:Int)+8:=wrap_i64 (by omega) (by omega)
 simp (disch:=omega) only[Ea,f1,f2,w];exact YI B2 hn ((n+7) / 8) fu 0 [] (by omega) (by omega) (by omega) rfl
theorem UP (B2:1000<=fu){a0 a1 a2:Int}{key nonce:Int}{n:Nat}(hn:n<=1024):∀(k nn i:Nat)(l:List Int),n<=8*(i+k)->8*(i+k)<n+8->k<nn->l.length=8*i ->
  Ew fu (Ag C0 prog fu (d+4)) a0 a1 a2 nn key nonce (n:Int) l.length i (Am .u8 l)=some ⟨[.own 1 n (Am .u8 ((l++GQ key nonce i k).take n))],[]⟩:=by
 intro k
 induction k with
 |zero=>
  intro nn i l h1 Tj h2 h3;obtain⟨m,rfl⟩:∃m,nn=m+1:=⟨nn-1,by omega⟩
  have L:=A0 .u8 l;have nt:Int.toNat (n:Int)=n:=Rq _;rw[Ir,GQ,List.append_nil]
  try unfold Ab
  repeat first
   |((with_reducible first|apply A5|apply Aw|apply A9|apply B7|apply Ax|apply A6|apply A8);· first|with_reducible rfl|(simp (disch:=omega) only[gT,L,nt,Nat.sub_zero,Ch,Ga]<;>first|with_reducible rfl|omega)|omega)
   |(with_reducible apply A7;· first|with_reducible rfl|(simp (disch:=omega) only[gF,L,nt,Nat.sub_zero,Ch,Ga]<;>omega))
  try simp (disch:=omega) only[L,nt,Nat.sub_zero,Ch,Ga]
 |succ k ih=>
  intro nn i l h1 Tj h2 h3;obtain⟨m,rfl⟩:∃m,nn=m+1:=⟨nn-1,by omega⟩
  have L:=A0 .u8 l;have nt:Int.toNat (n:Int)=n:=Rq _;have Bp:l.length<n:=by omega
  have w1:wrap .u64 (i:Int)=(i:Int):=D8 (by omega) (by omega)
  have w2:wrap .i64 ((i:Int)+1)=((i+1:Nat):Int):=by rw[wrap_i64 (by omega) (by omega)];omega
  have wd:Ag C0 prog fu (d+4) Fj [.lst false 1 2 [.sc (.int .u64 nonce),.sc (.int .u64 i)]]=some ⟨[.own 1 (B9 [nonce,(i:Int)]).length (Am .u8 (B9 [nonce,(i:Int)]))],[]⟩:=IQ (xs:=Ih) (ws:=[nonce,i]) (by simp) (by omega) (by simp;omega)
  have mc:=JU (xs:=Ih) (fu:=fu) (d:=d) (l:=B9 [nonce,i]) (RH _) (by rw[Qk];simp) (by omega) (by rw[Qk];simp;omega) key 5
  have L2:=A0 .u8 (B9 [nonce,i]);have t2:=tki .u8 (B9 [nonce,i]);rw[GQ];generalize BC key 5 (B9 [nonce,i])=q at mc ⊢;have ow:Ag C0 prog fu (d+4) Fj [.lst false 1 1 [.sc (.int .u64 q)]]=some ⟨[.own 1 (B9 [q]).length (Am .u8 (B9 [q]))],[]⟩:=IQ (xs:=Ih) (ws:=[q]) (by simp) (by omega) (by simp;omega)
  have eq1:B9 [q]=Gm q:=by simp[B9]
  rw[eq1,E5] at ow;have Lq:(Am .u8 (Gm q)).length=8:=by rw[A0,E5]
  have tq:List.take 8 (Am .u8 (Gm q))=Am .u8 (Gm q):=G9 (by omega)
  have tl:=tki .u8 l;have ea:Am .u8 l++Am .u8 (Gm q)=Am .u8 (l++Gm q):=by rw[Am,Am,Am,List.flatMap_append]
  have r3:=ih m (i+1) (l++Gm q) (by omega) (by omega) (by omega) (by rw[AV,E5];omega)
  rw[AV,E5,Zzv] at r3;rw[←r3,Ir];generalize B9 [nonce,(i:Int)]=W at *
  generalize W.length=wn at *
  try unfold Ab
  repeat first
   |((with_reducible first|apply A5|apply Aw|apply A9|apply B7|apply Ax|apply A6|apply A8);· first|with_reducible rfl|(simp (disch:=omega) only[gT,w1,w2,wd,Cm,Cn,Ch,L,L2,t2,mc,ow,Lq,tq,tl,ea]<;>first|with_reducible rfl|omega)|omega)
   |(with_reducible apply A7;· first|with_reducible rfl|(simp (disch:=omega) only[gF,w1,w2,wd,Cm,Cn,Ch,L,L2,t2,mc,ow,Lq,tq,tl,ea]<;>omega))
  try simp (disch:=omega) only[w1,w2,wd,Cm,Cn,Ch,L,L2,t2,mc,ow,Lq,tq,tl,ea]
  all_goals rfl
theorem NL (B2:1000<=fu)(key nonce:Int){n:Nat}(hn:n<=1024):Ag C0 prog fu (d+5) Gy [.sc (.int .u64 key),.sc (.int .u64 nonce),.sc (.int .i64 n)]=some ⟨[.own 1 n (Am .u8 (Nb key nonce n))],[]⟩:=by
 rw[Sh];have f1:(if (n:Int)<0 then (0:Int) else (n:Int))=n:=Mr (by omega)
 have f2:(if (1024:Int)<(n:Int) then (1024:Int) else (n:Int))=n:=Mr (by omega)
 simp (disch:=omega) only[Ea,f1,f2];exact UP B2 hn ((n+7) / 8) fu 0 [] (by omega) (by omega) (by omega) rfl
def Dj (seed:Int)(n:Nat):List Int:=Nb (wrap .u64 (wrap .u64 seed+1)) 7 n
theorem My (B2:1000<=fu)(seed:Int){n:Nat}(hn:n<=1024):Ag C0 prog fu (d+6) Ho [.sc (.int .i64 seed),.sc (.int .i64 n)]=some ⟨[.own 1 n (Am .u8 (Dj seed n))],[]⟩:=by
 have e:=NL (fu:=fu) (d:=d) B2 (wrap .u64 (wrap .u64 seed+1)) 7 hn;have f1:(if (n:Int)<0 then (0:Int) else (n:Int))=n:=Mr (by omega)
 have f2:(if (1024:Int)<(n:Int) then (1024:Int) else (n:Int))=n:=Mr (by omega)
 have L:(Am .u8 (Dj seed n)).length=n:=by rw[A0,Dj,G4]
 have t:List.take n (Am .u8 (Dj seed n))=Am .u8 (Dj seed n):=G9 (by omega)
 rw[Uf];unfold Dj at *
 simp (disch:=omega) only[Ea,f1,f2,e,Ch,L,t]
def sdE (k h:Int):Sd:=⟨Dj (600+k) 176,h,5,0,0,false,0,[],false,3,0⟩
theorem Ta (k h:Int):(sdE k h).ok:=⟨TL _ _ _,by show (Nb _ _ _).length<=_;rw[G4];omega,by show (0:Int)<=0;omega,by show (0:Int)<=_;omega,trivial,by show 0<=_;omega⟩
theorem Am7 {v n:Int}(h0:0<=v)(h1:v<n)(hn:n<=9223372036854775807):Ag C0 prog fu (d+1) Ja [.sc (.int .i64 v),.sc (.int .i64 n)]=some ⟨[.sc (.int .i64 v)],[]⟩:=by
 rw[Og];have w1:wrap .u64 v=v:=D8 h0 (by omega)
 have w2:wrap .u64 n=n:=D8 (by omega) (by omega)
 have e:Int.tmod v n=v:=Int.tmod_eq_of_lt h0 h1;simp only[K3,w1,w2,e];rw[BU _ _ (by omega),wrap_i64 (by omega) (by omega)]
theorem Ty (B2:1000<=fu){k:Int}(h0:0<=k)(h1:k<12)(h:Int):Ag C0 prog fu (d+7) J0 [.sc (.int .i64 k),.sc (.int .i64 h)]=some ⟨[.agg (sdE k h).cells],[]⟩:=by
 rw[R4];have m:=Am7 (fu:=fu) (d:=d+5) h0 h1 (by omega)
 have w:wrap .i64 (600+k)=600+k:=wrap_i64 (by omega) (by omega)
 have b:Ag C0 prog fu (d+6) Ho [.sc (.int .i64 (600+k)),.sc (.int .i64 176)]=_:=My (fu:=fu) (d:=d) B2 (600+k) (n:=176) (by omega)
 have L:(Am .u8 (Dj (600+k) 176)).length=176:=by rw[A0,Dj,G4]
 have L1:(Dj (600+k) 176).length=176:=by rw[Dj,G4]
 have t:List.take 176 (Am .u8 (Dj (600+k) 176))=Am .u8 (Dj (600+k) 176):=G9 (by omega)
 simp (disch:=omega) only[Ea,m,w,b,Ch,Cn,Cm,L,t];simp only[Sd.cells,sdE,L1];rfl
end
end
section
open Go.IntKind (wrap)
def I0 (s:ByteArray):List Int:=s.data.toList.map fun b=>(b.toNat:Int)
def Ee (l:List Int):ByteArray:=⟨(l.map fun n=>n.toNat.toUInt8).toArray⟩
theorem Xx (s:ByteArray):(I0 s).length=s.size:=by
 unfold I0;rw[List.length_map];rfl
theorem KU (s:ByteArray):T8 (I0 s):=by
 intro x hx;obtain⟨b,_,rfl⟩:=List.mem_map.1 hx;have:=b.toNat_lt;omega
theorem La (s:ByteArray):Dx s=Am .u8 (I0 s):=by
 unfold Dx I0
 induction s.data.toList with
 |nil=>rfl
 |cons b l ih=>rw[List.map_cons,List.map_cons,ih];rfl
theorem MX (l:List Int):(Ee l).size=l.length:=by
 show (l.map fun n=>n.toNat.toUInt8).toArray.size=_
 simp
theorem KK {l:List Int}(h:T8 l):I0 (Ee l)=l:=by
 unfold I0 Ee;simp only[List.map_map]
 have:∀l:List Int,T8 l->List.map ((fun b:UInt8=>(b.toNat:Int)) ∘ fun n:Int=>n.toNat.toUInt8) l=l:=by
  intro l
  induction l with
  |nil=>intro _;rfl
  |cons x l ih=>
   intro h;have hx:=h x (by simp)
   rw[List.map_cons,ih fun y hy=>h y (by simp[hy])]
   congr 1
   show ((x.toNat.toUInt8.toNat:Nat):Int)=x;rw[Nat.toUInt8,UInt8.toNat_ofNat'];omega
 exact this l h
theorem El:∀l:List Int,bytesOf (Am .u8 l)=some (l.map fun n=>n.toNat.toUInt8)
 |[]=>rfl
 |x::l=>by
  show (bytesOf (Am .u8 l)).map (x.toNat.toUInt8 :: ·)=_
  rw[El l];rfl
end
section
open Go.Proofs.Try (prog)
open Go.IntKind (wrap)
set_option maxRecDepth 100000
def bu (l:List Int):List UInt8:=l.map fun n=>n.toNat.toUInt8
def RS (a b:List Int):Bool:=Op.bytesLess (bu a) (bu b)||bu a==bu b
def Aos (a b:List Int):Int:=Lib.compareBytes (bu a) (bu b)
theorem Amf:∀x y:List UInt8,(Lib.compareBytes x y<0)↔Op.bytesLess x y=true
 |[],[]=>by simp[Lib.compareBytes,Op.bytesLess]
 |[],_::_=>by simp[Lib.compareBytes,Op.bytesLess]
 |_::_,[]=>by simp[Lib.compareBytes,Op.bytesLess]
 |a::x,b::y=>by
  have ih:=Amf x y;unfold Lib.compareBytes Op.bytesLess;by_cases h1:a<b
  ·simp[h1]
  ·rw[Mr h1];by_cases h2:b<a
   ·have:¬a=b:=fun e=>by subst e;exact h1 h2
    simp[h1,h2,this]
   ·have:a=b:=UInt8.le_antisymm (UInt8.not_lt.1 h2) (UInt8.not_lt.1 h1);rw[Mr h2,ih];simp[h1,this]
theorem BT (a b:List Int):RS a b=true↔bu a<=bu b:=by
 unfold RS;rw[bytesLess_eq];simp only[Bool.or_eq_true,decide_eq_true_eq,beq_iff_eq];exact List.le_iff_lt_or_eq.symm
theorem Aml (a b:List Int):decide (Aos a b<0) = !RS b a:=by
 rw[Bool.eq_iff_iff,decide_eq_true_eq,Bool.not_eq_true',←Bool.not_eq_true,BT];unfold Aos;rw[Amf,bytesLess_eq,decide_eq_true_eq];exact List.not_le.symm
theorem HJ {a b c:List Int}(h1:RS a b=true)(h2:RS b c=true):RS a c=true:=by
 rw[BT] at *
 exact List.le_trans h1 h2
theorem Aa8 {a b:List Int}(h:RS a b=false):RS b a=true:=by
 rw[BT];rw[←Bool.not_eq_true,BT,List.not_le] at h;exact List.le_of_lt h
def U6 (x:List Int):List (List Int)->List (List Int)
 |[]=>[x]
 |y::r=>if RS y x=true then y::U6 x r else x::y::r
theorem Tf (x:List Int):∀l:List (List Int),(U6 x l).length=l.length+1
 |[]=>rfl
 |y::r=>by
  unfold U6;split
  ·rw[TW,Tf x r];rfl
  ·rfl
theorem BQ {x y:List Int}:∀{l:List (List Int)},y∈U6 x l↔y=x∨y∈l
 |[]=>by simp[U6]
 |z::r=>by
  unfold U6;split
  ·rw[List.mem_cons,BQ,List.mem_cons];constructor
   ·rintro (h|h|h)
    ·exact .inr (.inl h)
    ·exact .inl h
    ·exact .inr (.inr h)
   ·rintro (h|h|h)
    ·exact .inr (.inl h)
    ·exact .inl h
    ·exact .inr (.inr h)
  ·simp
abbrev Srt (l:List (List Int)):Prop:=l.Pairwise fun a b=>RS a b=true
theorem VK {x:List Int}:∀{l:List (List Int)},Srt l->Srt (U6 x l)
 |[],_=>by simp[U6,Srt]
 |y::r,h=>by
  obtain⟨h1,h2⟩:=List.pairwise_cons.1 h;unfold U6;split
  ·rename_i hy;refine List.pairwise_cons.2 ⟨fun z hz=>?_,VK h2⟩
   rcases BQ.1 hz with rfl|hz
   ·exact hy
   ·exact h1 z hz
  ·rename_i hy;rw[Bool.not_eq_true] at hy;have hxy:=Aa8 hy;refine List.pairwise_cons.2 ⟨fun z hz=>?_,h⟩
   rcases List.mem_cons.1 hz with rfl|hz
   ·exact hxy
   ·exact HJ hxy (h1 z hz)
theorem OU {x y:List Int}:∀{l:List (List Int)},Srt (l++[y])->U6 x (l++[y])=if RS y x=true then l++[y,x] else U6 x l++[y]
 |[],_=>by
  show U6 x [y]=_;unfold U6;split<;>rfl
 |z::r,h=>by
  obtain⟨h1,h2⟩:=List.pairwise_cons.1 (show Srt (z::(r++[y])) from h)
  have ih:=OU (x:=x) h2;have hzy:=h1 y (by simp)
  show U6 x (z::(r++[y]))=_;by_cases hy:RS y x=true
  ·rw[J8 hy] at ih ⊢;rw[U6,J8 (HJ hzy hy),ih];rfl
  ·rw[Mr hy] at ih ⊢;rw[U6,ih];by_cases hz:RS z x=true
   ·rw[J8 hz,U6,J8 hz];rfl
   ·rw[Mr hz,U6,Mr hz];rfl
def Hn (s l:List (List Int)):List (List Int):=l.foldl (fun s x=>U6 x s) s
theorem Qe:∀(l s:List (List Int)),(Hn s l).length=s.length+l.length
 |[],_=>rfl
 |x::l,s=>by
  show (Hn (U6 x s) l).length=_;rw[Qe l,Tf,TW];omega
theorem OS {y:List Int}:∀{l s:List (List Int)},y∈Hn s l↔y∈s∨y∈l
 |[],_=>by simp[Hn]
 |x::l,s=>by
  show y∈Hn (U6 x s) l↔_;rw[OS,BQ,List.mem_cons];constructor
  ·rintro ((h|h)|h)
   ·exact .inr (.inl h)
   ·exact .inl h
   ·exact .inr (.inr h)
  ·rintro (h|h|h)
   ·exact .inl (.inr h)
   ·exact .inl (.inl h)
   ·exact .inr h
abbrev Ap3 (b:List Int):List PV:=[PV.lst false 1 b.length (Am .u8 b)]
abbrev Cp (L:List (List Int)):List PV:=L.flatMap Ap3
abbrev WH (b:List Int):List PV:=[PV.sc (.string (Ee b))]
abbrev Ft (L:List (List Int)):List PV:=L.flatMap WH
theorem Eh (L:List (List Int)):(Cp L).length=L.length:=by rw[Y8 (k:=1) (fun _=>rfl)];omega
theorem Lj (L:List (List Int)):(Ft L).length=L.length:=by rw[Y8 (k:=1) (fun _=>rfl)];omega
theorem LH {L:List (List Int)} {i:Nat}{b:List Int}(h:L[i]?=some b):(Cp L).getD i .top=.lst false 1 b.length (Am .u8 b):=by
 have:=EM (f:=Ap3) (k:=1) (fun _=>rfl) h (j:=0) (by omega)
 rwa [Ch,Nat.add_zero] at this
theorem XB {L:List (List Int)} {i:Nat}{b:List Int}(h:L[i]?=some b):(Ft L).getD i .top=.sc (.string (Ee b)):=by
 have:=EM (f:=WH) (k:=1) (fun _=>rfl) h (j:=0) (by omega)
 rwa [Ch,Nat.add_zero] at this
theorem OR {L:List (List Int)} {i:Nat}{b y:List Int}(h:L[i]?=some b):Bl (Cp L) [.lst false 1 y.length (Am .u8 y)] i=Cp (L.set i y):=by
 have hl:=Eh L;have:=H9 h;rw[Vo (by omega)]
 have e:=LC (f:=Ap3) (k:=1) (fun _=>rfl) (p:=.lst false 1 y.length (Am .u8 y)) (j:=0) (by omega) (y:=y) h rfl
 rw[Ch,Nat.add_zero] at e;exact e
section
variable {fu d:Nat}
theorem US (a b:List Int):Ag C0 prog fu (d+1) 36 [.lst false 1 a.length (Am .u8 a),.lst false 1 b.length (Am .u8 b)]=some ⟨[.sc (.int .i64 (Aos a b))],[]⟩:=by
 have h:Ag C0 prog fu (d+1) 36 [.lst false 1 a.length (Am .u8 a),.lst false 1 b.length (Am .u8 b)]=Sg [.lst false 1 a.length (Am .u8 a),.lst false 1 b.length (Am .u8 b)]:=by kernel_rfl
 rw[h];unfold Sg;simp only[A0,Nat.beq_refl,Bool.and_self,cond_true,El];rfl
theorem Ajx {n:Nat}{c:List PV}{a1 a2:Int}{m0 i N:Nat}{x:List Int}(hN:N<=100000)(hi:i<=100000):
  ∀(S:List (List Int)) (R:List (List Int)) (nn:Nat),S.length<nn->(S.reverse++x::R).length=N->Srt S.reverse ->
   Cd fu (Ag C0 prog fu (d+1)) n c a1 a2 m0 nn N 0 (N:Int) (i:Int) (S.length:Int) (Cp (S.reverse++x::R)) =
    Bi fu (Ag C0 prog fu (d+1)) n c a1 a2 m0 N 0 (N:Int) ((i+1:Nat):Int) (Cp (U6 x S.reverse++R)):=by
 intro S;have wi:wrap .i64 ((i:Int)+1)=((i+1:Nat):Int):=by rw[wrap_i64 (by omega) (by omega)];omega
 induction S with
 |nil=>
  intro R nn Dy hl hs;obtain⟨nn,rfl⟩:∃k,nn=k+1:=⟨nn-1,by omega⟩
  rw[Ed];simp (disch:=omega) only[Ea,Dh,wi,List.reverse_nil,Zzq,U6,List.cons_append]
 |cons y S ih=>
  intro R nn Dy hl hs;obtain⟨nn,rfl⟩:∃k,nn=k+1:=⟨nn-1,by omega⟩
  rw[Ed];rw[List.reverse_cons] at hl hs ⊢;have hS:S.reverse.length=S.length:=List.length_reverse;have Jt:S.length+1+R.length+1=N:=by simp at hl;omega
  have lS:(y::S).length=S.length+1:=rfl
  have gx:((S.reverse++[y])++x::R)[S.length+1]?=some x:=by
   rw[List.getElem?_append_right (by simp)];simp
  have gy:((S.reverse++[y])++x::R)[S.length]?=some y:=by
   rw[Zzv,List.getElem?_append_right (by simp)];simp
  have ax:=LH gx;have ay:=LH gy;have w1:wrap .i64 (((S.length+1:Nat):Int)-1)=(S.length:Int):=by rw[wrap_i64 (by omega) (by omega)];omega
  have n1:Int.toNat ((S.length+1:Nat):Int)=S.length+1:=Rq _;have n2:Int.toNat (S.length:Int)=S.length:=Rq _;have cq:=US (fu:=fu) (d:=d) x y;have cl:=Aml x y;have lR:=Eh ((S.reverse++[y])++x::R);have lRR:((S.reverse++[y])++x::R).length=N:=hl;rw[OU hs];by_cases hy:RS y x=true
  ·rw[hy] at cl;rw[J8 hy];have eL:S.reverse++[y,x]++R=(S.reverse++[y])++x::R:=by simp
   rw[eL];simp (disch:=omega) only[Ea,lS,w1,n1,n2,Cn,Ch,ax,ay,cq,cl,Rv,wi]
  ·rw[Bool.not_eq_true] at hy;rw[hy] at cl;rw[Mr (by simp[hy])]
   have s1:=OR (y:=y) gx
   have gy2:(((S.reverse++[y])++x::R).set (S.length+1) y)[S.length]?=some y:=by
    rw[List.getElem?_set,Mr (by omega)];exact gy
   have s2:=OR (y:=x) gy2;have l2:=Eh (((S.reverse++[y])++x::R).set (S.length+1) y);rw[List.length_set] at l2
   have eL:(((S.reverse++[y])++x::R).set (S.length+1) y).set S.length x=S.reverse++x::(y::R):=by
    rw[List.set_append_right _ _ (by simp),List.set_append_left _ _ (by simp),List.set_append_right _ _ (by simp)]
    simp
   rw[eL] at s2;have hs':Srt S.reverse:=(List.pairwise_append.1 hs).1;have r:=ih (y::R) nn (by simp at Dy;omega) (by simp;omega) hs'
   simp (disch:=omega) only[Ea,lS,w1,n1,n2,Cn,Ch,ax,ay,cq,cl,O0,s1,s2];rw[r];simp
theorem Ad7 {n:Nat}{c:List PV}{a1 a2:Int}{N:Nat}(B2:N<fu)(hN:N<=10000):∀(R S:List (List Int)) (nn:Nat),R.length<nn->(S++R).length=N->Srt S ->
  Bi fu (Ag C0 prog fu (d+1)) n c a1 a2 nn N 0 (N:Int) (S.length:Int) (Cp (S++R))=some ⟨[],[Cp (Hn S R)]⟩:=by
 intro R
 induction R with
 |nil=>
  intro S nn Dy hl hs;obtain⟨nn,rfl⟩:∃k,nn=k+1:=⟨nn-1,by omega⟩
  rw[List.append_nil] at hl ⊢;rw[Eb];simp (disch:=omega) only[Ea];rfl
 |cons x R ih=>
  intro S nn Dy hl hs;obtain⟨nn,rfl⟩:∃k,nn=k+1:=⟨nn-1,by omega⟩
  have Jt:S.length+(R.length+1)=N:=by simp at hl;omega
  rw[Eb];simp (disch:=omega) only[Ea];have q:=Ajx (fu:=fu) (d:=d) (n:=n) (c:=c) (a1:=a1) (a2:=a2) (m0:=nn) (i:=S.length) (N:=N) (x:=x) (by omega) (by omega) S.reverse R fu (by simp;omega) (by simp;omega) (by simpa using hs)
  rw[List.reverse_reverse,List.length_reverse] at q;rw[q];have r:=ih (U6 x S) nn (by simp at Dy;omega) (by rw[AV,Tf];omega) (VK hs)
  rw[Tf] at r;exact r
theorem UF {x:List Int}{R:List (List Int)} (B2:(x::R).length<fu) (hN:(x::R).length<=10000):
  Ag C0 prog fu (d+2) Da [.tup [.own 1 (x::R).length (Cp (x::R))],.sc (.int .i64 0),.sc (.int .i64 (x::R).length),.sc (.func (.func 36) #[] #[])]=some ⟨[],[Cp (Hn [] (x::R))]⟩:=by
 rw[H3];have w:wrap .i64 (0+1)=(([x]:List (List Int)).length:Int):=rfl;simp only[Ea,w];exact Ad7 B2 hN R [x] fu (by simp at B2;omega) rfl (by simp[Srt])
theorem Ady {a b c e:List Int}(B2:100<=fu):Ag C0 prog fu (d+4) F2 [.tup [.own 1 4 (Cp [a,b,c,e])],.sc (.func (.func 36) #[] #[])]=some ⟨[],[Cp (Hn [] [a,b,c,e])]⟩:=by
 rw[Q8];have w:wrap .u64 4=4:=rfl;have bl:Ag C0 prog fu (d+3) 52 [.sc (.int .u64 4)]=some ⟨[.sc (.int .i64 3)],[]⟩:=by kernel_rfl
 obtain⟨m,rfl⟩:∃m,fu=m+1:=⟨fu-1,by omega⟩
 have q:Ag C0 prog (m+1) (d+2) Da [.tup [.own 1 4 (Cp [a,b,c,e])],.sc (.int .i64 0),.sc (.int .i64 4),.sc (.func (.func 36) #[] #[])]=some ⟨[],[Cp (Hn [] [a,b,c,e])]⟩:=UF (x:=a) (R:=[b,c,e]) (by simp;omega) (by simp)
 have w2:wrap .i64 (4-0)=4:=rfl
 have p:Ag C0 prog (m+1) (d+3) F3 [.tup [.own 1 4 (Cp [a,b,c,e])],.sc (.int .i64 0),.sc (.int .i64 4),.sc (.int .i64 3),.sc (.func (.func 36) #[] #[])]=some ⟨[],[Cp (Hn [] [a,b,c,e])]⟩:=by
  rw[Lo];dsimp only;rw[Ju];simp (disch:=omega) only[Ea,w2,q]
 have e4:((4:Nat):Int)=4:=rfl;simp (disch:=omega) only[Ea,w,bl,e4,p]
theorem Aaj {n:Nat}{c:List PV}{s:ByteArray}{x:List Int}{L:List (List Int)} (hL:L.length<=1000):∀(r:List (List Int)) (i nn:Nat),L.drop i=r->r.length<nn->i<=L.length ->
  Ej fu (Ag C0 prog fu d) n c s nn L.length (Ft L) (Ee x) (i:Int)=some ⟨[.own 1 (L.length+1) (Ft (L.take i++U6 x r))],[]⟩:=by
 intro r;have lR:=Lj L
 have fin:∀i:Nat,i<=L.length->Ft (L.take i)++[PV.sc (.string (Ee x))]++Ft (L.drop i)=Ft (L.take i++x::L.drop i):=by
  intro i hi;unfold Ft;rw[List.flatMap_append,Zzv];rfl
 have tk:∀i:Nat,List.take i (Ft L)=Ft (L.take i):=fun i=>by
  have:=Rg (f:=WH) (k:=1) (fun _=>rfl) L i
  rwa [Ch] at this
 have dk:∀i:Nat,List.drop i (Ft L)=Ft (L.drop i):=fun i=>by
  have:=On (f:=WH) (k:=1) (fun _=>rfl) L i
  rwa [Ch] at this
 have stop:∀(i:Nat),i<=L.length->(An (decide ((0:Int)<=(i:Int)))<|An (decide (Int.toNat (i:Int)<=L.length))<|(some (0:Nat)))=some 0:=by
  intro i hi;simp (disch:=omega) only[Ea]
 induction r with
 |nil=>
  intro i nn hd Dy hi;have FI:i=L.length:=by have:=drop_nil hd;omega
  obtain⟨nn,rfl⟩:∃k,nn=k+1:=⟨nn-1,by omega⟩
  rw[Hr];have f:=fin i hi;rw[hd] at f;have n1:Int.toNat (i:Int)=i:=Rq _;have l1:=Lj (L.take i);have l1':(L.take i).length=i:=by rw[List.length_take];omega
  have t1:List.take i (Ft (L.take i))=Ft (L.take i):=G9 (by omega)
  have l2:(Ft (L.take i)++[PV.sc (.string (Ee x))]).length=i+1:=by rw[AV,l1,l1'];rfl
  have t2:List.take (i+1) (Ft (L.take i)++[PV.sc (.string (Ee x))])=Ft (L.take i)++[PV.sc (.string (Ee x))]:=G9 (by omega)
  have lZ:Ft ([]:List (List Int))=[]:=rfl;rw[lZ,List.append_nil] at f;have l3:=Lj (L.take i++[x]);have l4:(L.take i++[x]).length=i+1:=by simp;omega
  have t3:List.take (i+1) (Ft (L.take i++[x]))=Ft (L.take i++[x]):=G9 (by omega)
  have s0:L.length-i=0:=by omega
  have Bp:¬((i:Int)<(L.length:Int)):=by omega
  have e1:L.length+1=i+1:=by omega
  simp (disch:=omega) only[Ea,n1,Nat.sub_zero,Ch,Cm,tk,dk,t1,l2,t2,s0,List.take_zero,Dh,List.append_nil,Nat.add_zero,f,t3,U6];rw[e1]
 |cons y r ih=>
  intro i nn hd Dy hi;obtain⟨Bp,Br,hd'⟩:=C3 hd;obtain⟨nn,rfl⟩:∃k,nn=k+1:=⟨nn-1,by omega⟩
  rw[Hr];have ay:=XB Br;have n1:Int.toNat (i:Int)=i:=Rq _;have w1:wrap .i64 ((i:Int)+1)=((i+1:Nat):Int):=by rw[wrap_i64 (by omega) (by omega)];omega
  have eB:(Op.bytesLess (Array.toList (ByteArray.data (Ee y))) (Array.toList (ByteArray.data (Ee x)))||Array.toList (ByteArray.data (Ee y))==Array.toList (ByteArray.data (Ee x)))=RS y x:=rfl;unfold U6;by_cases hy:RS y x=true
  ·rw[J8 hy];have q:=ih (i+1) nn hd' (by simp at Dy;omega) (by omega)
   have tk1:L.take (i+1)=L.take i++[y]:=by rw[List.take_add_one,Br];rfl
   rw[tk1,Zzv,List.singleton_append] at q;rw[hy] at eB;simp (disch:=omega) only[Ea,n1,Ch,ay,eB,w1,q]
  ·rw[Mr hy];rw[Bool.not_eq_true] at hy;rw[hy] at eB;have f:=fin i hi;have l1:=Lj (L.take i);have l1':(L.take i).length=i:=by rw[List.length_take];omega
   have t1:List.take i (Ft (L.take i))=Ft (L.take i):=G9 (by omega)
   have l2:(Ft (L.take i)++[PV.sc (.string (Ee x))]).length=i+1:=by rw[AV,l1,l1'];rfl
   have t2:List.take (i+1) (Ft (L.take i)++[PV.sc (.string (Ee x))])=Ft (L.take i)++[PV.sc (.string (Ee x))]:=G9 (by omega)
   have ld:=Lj (L.drop i);have ld':(L.drop i).length=L.length-i:=List.length_drop;have td:List.take (L.length-i) (Ft (L.drop i))=Ft (L.drop i):=G9 (by omega)
   have l3:=Lj (L.take i++x::L.drop i);have l4:(L.take i++x::L.drop i).length=L.length+1:=by simp;omega
   have e1:i+1+(L.length-i)=L.length+1:=by omega
   have t3:List.take (L.length+1) (Ft (L.take i++x::L.drop i))=Ft (L.take i++x::L.drop i):=G9 (by omega)
   rw[←hd];simp (disch:=omega) only[Ea,n1,Nat.sub_zero,Ch,Cm,ay,eB,tk,dk,t1,l2,t2,td,f,e1,t3]
theorem XL {x:List Int}{L:List (List Int)} (hL:L.length<=1000)(B2:L.length<fu):Ag C0 prog fu (d+1) Ez [.lst false 1 L.length (Ft L),.sc (.string (Ee x))]=some ⟨[.own 1 (L.length+1) (Ft (U6 x L))],[]⟩:=by
 rw[Rz];have:=Aaj (fu:=fu) (d:=d) (n:=L.length) (c:=Ft L) (s:=Ee x) (x:=x) (L:=L) hL L 0 fu rfl B2 (by omega)
 rw[List.take_zero,Zzq] at this;exact this
end
end
section
open Go.Proofs.Try (prog)
open Go.IntKind (wrap)
set_option maxRecDepth 100000
def pick:List (List Int)->List Sd->List (List Int)
 |s,[]=>s
 |s,c::r=>if c.sus=false∧s.length<4 then pick (s++[c.id]) r else pick s r
theorem CW:∀{r:List Sd}{s:List (List Int)},s.length<=4->(pick s r).length<=4
 |[],_,h=>h
 |c::r,s,h=>by
  unfold pick;split
  ·exact CW (by simp;omega)
  ·exact CW h
def dec (key:Int):Nat->Nat->List (List Int)
 |_,0=>[]
 |i,k+1=>Nb key i 176::dec key (i+1) k
theorem VT (key:Int):∀(k i:Nat),(dec key i k).length=k
 |0,_=>rfl
 |k+1,i=>by show (_::dec key (i+1) k).length=_;rw[TW,VT key k]
def Ag0 (o:Option Nat)(l:List Cw):List (List Int):=match o with|some i=>(match l[i]? with|some a=>pick [] a.cr|none=>[])|none=>[]
def Afe (key:Int)(ids:List (List Int)):List (List Int):=ids++dec key 0 (4-ids.length)
def MY (l:List Cw)(secret:Int)(nm:ByteArray):List (List Int):=Hn [] (Afe (BC secret 20 (I0 nm)) (Ag0 (X8 nm 0 l) l))
theorem Ag4 (o:Option Nat)(l:List Cw):(Ag0 o l).length<=4:=by
 unfold Ag0
 repeat' split
 ·exact CW (by simp)
 all_goals simp
theorem Af2 {key:Int}{ids:List (List Int)} (h:ids.length<=4):(Afe key ids).length=4:=by
 unfold Afe;rw[AV,VT];omega
structure Cw.ok (a:Cw):Prop where
 cn:a.cr.length<=1000
 cs:∀c∈a.cr,c.ok
section
variable {fu d:Nat}
theorem Aaq {xs:FuncId->Option (List PV->Option A2)} {n:Nat}{c:List PV}{s nm:ByteArray}{l:List Cw}(hl:l.length<=100000):∀(r:List Cw)(i nn:Nat),l.drop i=r->r.length<nn->i<=l.length ->
  H2 fu (Ag (CX xs) prog fu d) n c s nn nm l.length (Az l) (l.length:Int) (i:Int)=some ⟨Gs (X8 nm i r),[]⟩:=by
 intro r
 induction r with
 |nil=>
  intro i nn hd Dy hi;have:=drop_nil hd;obtain⟨nn,rfl⟩:∃k,nn=k+1:=⟨nn-1,by omega⟩
  rw[Ob];simp (disch:=omega) only[Ea];rfl
 |cons a r ih=>
  intro i nn hd Dy hi;obtain⟨Bp,Br,hd'⟩:=C3 hd;obtain⟨nn,rfl⟩:∃k,nn=k+1:=⟨nn-1,by omega⟩
  rw[Ob];have g0:(Az l).getD (i*3) .top=.sc (.string a.nm):=Fd Br (j:=0) (by omega)
  have g1:(Az l).getD (i*3+1) .top=.sc (.string a.us):=Fd Br (j:=1) (by omega)
  have g2:(Az l).getD (i*3+1+1) .top=.lst false 11 a.cr.length (Cf a.cr):=Fd Br (j:=2) (by omega)
  have n1:Int.toNat (i:Int)=i:=Rq _;have w1:wrap .i64 ((i:Int)+1)=((i+1:Nat):Int):=by rw[wrap_i64 (by omega) (by omega)];omega
  have eB:(Array.toList a.nm.data==Array.toList nm.data)=JA a.nm nm:=rfl;unfold X8;cases h:JA a.nm nm
  ·rw[Mr (by simp)]
   have q:=ih (i+1) nn hd' (by simp at Dy;omega) (by omega)
   rw[h] at eB;simp (disch:=omega) only[Ea,n1,g0,g1,g2,eB,w1,q]
  ·rw[J8 rfl];rw[h] at eB;simp (disch:=omega) only[Ea,n1,g0,g1,g2,eB,Gs]
theorem Xf {xs:FuncId->Option (List PV->Option A2)} {l:List Cw}{nm:ByteArray}(hl:l.length<=100000)(hf:l.length<fu):Ag (CX xs) prog fu (d+1) Sr [.lst false 3 l.length (Az l),.sc (.string nm)]=some ⟨Gs (X8 nm 0 l),[]⟩:=by
 rw[DS];exact Aaq hl l 0 fu rfl hf (by omega)
theorem SB {n:Nat}{c:List PV}{s nm:ByteArray}{l:List Cw}(hl:l.length<=100000):∀(r:List Cw)(i nn:Nat),l.drop i=r->r.length<nn->i<=l.length ->
  Dg fu (Ag C0 prog fu d) n c s nn l.length (Az l) nm (i:Int)=some ⟨Gs (X8 nm i r),[]⟩:=by
 intro r
 induction r with
 |nil=>
  intro i nn hd Dy hi;have:=drop_nil hd;obtain⟨nn,rfl⟩:∃k,nn=k+1:=⟨nn-1,by omega⟩
  rw[Fw];simp (disch:=omega) only[Ea];rfl
 |cons a r ih=>
  intro i nn hd Dy hi;obtain⟨Bp,Br,hd'⟩:=C3 hd;obtain⟨nn,rfl⟩:∃k,nn=k+1:=⟨nn-1,by omega⟩
  rw[Fw];have g0:(Az l).getD (i*3+0) .top=.sc (.string a.nm):=Fd Br (j:=0) (by omega)
  have n1:Int.toNat (i:Int)=i:=Rq _;have w1:wrap .i64 ((i:Int)+1)=((i+1:Nat):Int):=by rw[wrap_i64 (by omega) (by omega)];omega
  have eB:(Array.toList a.nm.data==Array.toList nm.data)=JA a.nm nm:=rfl;unfold X8;cases h:JA a.nm nm
  ·rw[Mr (by simp)]
   have q:=ih (i+1) nn hd' (by simp at Dy;omega) (by omega)
   rw[h] at eB;simp (disch:=omega) only[Ea,n1,g0,eB,w1,q]
  ·rw[J8 rfl];rw[h] at eB;simp (disch:=omega) only[Ea,n1,g0,eB,Gs]
theorem So {l:List Cw}{nm:ByteArray}(hl:l.length<=100000)(hf:l.length<fu):Ag C0 prog fu (d+1) Gu [.lst false 3 l.length (Az l),.sc (.string nm)]=some ⟨Gs (X8 nm 0 l),[]⟩:=by
 rw[Ni];exact SB hl l 0 fu rfl hf (by omega)
theorem Aoa {L:List (List Int)} (hL:L.length=4)(B2:100<=fu):Ag C0 prog fu (d+4) F2 [.tup [.own 1 4 (Cp L)],.sc (.func (.func 36) #[] #[])]=some ⟨[],[Cp (Hn [] L)]⟩:=by
 match L,hL with
 |[a,b,c,e],_=>exact Ady B2
theorem XP (B2:1000<=fu){n:Nat}{c:List PV}{a1:Int}{a2:ByteArray}{key cnt:Int}:∀(k nn i:Nat)(ids:List (List Int)),ids.length+k=4->k<nn->(i:Int)+k=cnt->cnt<=4 ->
  Es fu (Ag C0 prog fu (d+6)) n c a1 a2 nn ids.length key cnt (i:Int) (Cp ids)=some ⟨[.own 1 4 (Cp (Hn [] (ids++dec key i k)))],[]⟩:=by
 intro k
 induction k with
 |zero=>
  intro nn i ids h1 h2 h3 h4;obtain⟨nn,rfl⟩:∃k,nn=k+1:=⟨nn-1,by omega⟩
  rw[K4];have q:=Aoa (fu:=fu) (d:=d+2) (L:=ids) (by omega) (by omega)
  have h4':ids.length=4:=by omega
  have lR':(Cp (Hn [] ids)).length=4:=by rw[Eh,Qe,h4'];rfl
  have t:List.take 4 (Cp (Hn [] ids))=Cp (Hn [] ids):=G9 (by omega)
  rw[h4'];simp (disch:=omega) only[Ea,q,Ch,t,dec,List.append_nil]
 |succ k ih=>
  intro nn i ids h1 h2 h3 h4;obtain⟨nn,rfl⟩:∃k,nn=k+1:=⟨nn-1,by omega⟩
  rw[K4];have w0:wrap .u64 (i:Int)=(i:Int):=D8 (by omega) (by omega)
  have w1:wrap .i64 ((i:Int)+1)=((i+1:Nat):Int):=by rw[wrap_i64 (by omega) (by omega)];omega
  have q:Ag C0 prog fu (d+6) Ox [.sc (.int .u64 key),.sc (.int .u64 (i:Int)),.sc (.int .i64 176)]=_:=Aj2 (fu:=fu) (d:=d) B2 key (i:Int) (n:=176) (by omega)
  have lS:(Am .u8 (Nb key (i:Int) 176)).length=176:=by rw[A0,G4]
  have tS:List.take 176 (Am .u8 (Nb key (i:Int) 176))=Am .u8 (Nb key (i:Int) 176):=G9 (by omega)
  have lI:=Eh ids;have tI:List.take ids.length (Cp ids)=Cp ids:=G9 (by omega)
  have r:=ih nn (i+1) (ids++[Nb key (i:Int) 176]) (by simp;omega) (by omega) (by omega) h4
  have lA:(ids++[Nb key (i:Int) 176]).length=ids.length+1:=by simp
  have eA:Cp ids++[PV.lst false 1 176 (Am .u8 (Nb key (i:Int) 176))]=Cp (ids++[Nb key (i:Int) 176]):=by
   unfold Cp;rw[List.flatMap_append];simp[G4]
  rw[lA,Zzv,List.singleton_append] at r;simp (disch:=omega) only[Ea,w0,w1,q,Ch,Cn,Cm,lS,tS,tI,eA,r];rfl
theorem Ajm (B2:1000<=fu){n:Nat}{c:List PV}{a1:Int}{a2:ByteArray}{secret:Int}{nm:ByteArray}(Hk:nm.size<=500){cr:List Sd}(ME:cr.length<=1000)(Kd:∀c∈cr,c.ok):∀(r:List Sd)(i nn:Nat)(ids:List (List Int)),cr.drop i=r->r.length<nn->i<=cr.length->ids.length<=4 ->
  Dz fu (Ag C0 prog fu (d+6)) n c a1 a2 nn secret nm ids.length cr.length (Cf cr) (cr.length:Int) (i:Int) (Cp ids)=some ⟨[.own 1 4 (Cp (Hn [] (Afe (BC secret 20 (I0 nm)) (pick ids r))))],[]⟩:=by
 intro r;have lN:=Xx nm;have mc:=VC (xs:=Ih) (fu:=fu) (d:=d+1) (l:=I0 nm) (KU nm) (by omega) (by omega) (by omega) secret 20
 rw[lN] at mc;have sc:=La nm;have lS:(Am .u8 (I0 nm)).length=nm.size:=by rw[A0,lN]
 have tS:List.take nm.size (Am .u8 (I0 nm))=Am .u8 (I0 nm):=G9 (by omega)
 induction r with
 |nil=>
  intro i nn ids hd Dy hi h4;have:=drop_nil hd;obtain⟨nn,rfl⟩:∃k,nn=k+1:=⟨nn-1,by omega⟩
  rw[Lg];have q:=XP (fu:=fu) (d:=d) B2 (n:=n) (c:=c) (a1:=a1) (a2:=a2) (key:=BC secret 20 (I0 nm)) (cnt:=4-(ids.length:Int)) (4-ids.length) fu 0 ids (by omega) (by omega) (by omega) (by omega)
  have w:wrap .i64 (4-(ids.length:Int))=4-(ids.length:Int):=wrap_i64 (by omega) (by omega)
  simp (disch:=omega) only[Ea,sc,lS,Cn,Ch,Cm,tS,mc,w];exact q
 |cons x r ih=>
  intro i nn ids hd Dy hi h4;obtain⟨Bp,Br,hd'⟩:=C3 hd;obtain⟨nn,rfl⟩:∃k,nn=k+1:=⟨nn-1,by omega⟩
  rw[Lg];have g0:(Cf cr).getD (i*11) .top=.lst false 1 x.id.length (Am .u8 x.id):=Cy Br (j:=0) (by omega)
  have g1:(Cf cr).getD (i*11+1) .top=.sc (.int .i64 x.ht):=Cy Br (j:=1) (by omega)
  have g2:(Cf cr).getD (i*11+1+1) .top=.sc (.int .u64 x.root):=Cy Br (j:=2) (by omega)
  have g3:(Cf cr).getD (i*11+1+1+1) .top=.sc (.int .u64 x.model):=Cy Br (j:=3) (by omega)
  have g4:(Cf cr).getD (i*11+1+1+1+1) .top=.sc (.int .i64 x.fmt):=Cy Br (j:=4) (by omega)
  have g5:(Cf cr).getD (i*11+1+1+1+1+1) .top=.sc (.bool x.sh):=Cy Br (j:=5) (by omega)
  have g6:(Cf cr).getD (i*11+1+1+1+1+1+1) .top=.sc (.int .u64 x.used):=Cy Br (j:=6) (by omega)
  have g7:(Cf cr).getD (i*11+1+1+1+1+1+1+1) .top=.lst false 2 x.rg.length (H7 x.rg):=Cy Br (j:=7) (by omega)
  have g8:(Cf cr).getD (i*11+1+1+1+1+1+1+1+1) .top=.sc (.bool x.sus):=Cy Br (j:=8) (by omega)
  have g9:(Cf cr).getD (i*11+1+1+1+1+1+1+1+1+1) .top=.sc (.int .i64 x.since):=Cy Br (j:=9) (by omega)
  have g10:(Cf cr).getD (i*11+1+1+1+1+1+1+1+1+1+1) .top=.sc (.int .i64 x.last):=Cy Br (j:=10) (by omega)
  have n1:Int.toNat (i:Int)=i:=Rq _;have w1:wrap .i64 ((i:Int)+1)=((i+1:Nat):Int):=by rw[wrap_i64 (by omega) (by omega)];omega
  have xk:=Kd x (List.mem_of_getElem? Br);have cb:=JC (xs:=Ih) (fu:=fu) (d:=d+5) (A0 .u8 x.id) xk.idL;have lX:=A0 .u8 x.id;have tX:=tki .u8 x.id;have lI:=Eh ids;have tI:List.take ids.length (Cp ids)=Cp ids:=G9 (by omega)
  unfold pick;by_cases hs:x.sus=false
  ·have bT:∀a b:Option A2,Bd (!x.sus) a b=a:=fun a b=>by rw[hs];rfl
   by_cases hl:ids.length<4
   ·rw[J8 ⟨hs,hl⟩];have r:=ih (i+1) nn (ids++[x.id]) hd' (by simp at Dy;omega) (by omega) (by simp;omega)
    have lA:(ids++[x.id]).length=ids.length+1:=by simp
    have eA:Cp ids++[PV.lst false 1 x.id.length (Am .u8 x.id)]=Cp (ids++[x.id]):=by
     unfold Cp;rw[List.flatMap_append];rfl
    rw[lA] at r;simp (disch:=omega) only[Ea,n1,g0,g1,g2,g3,g4,g5,g6,g7,g8,g9,g10,bT,cb,Cn,Ch,Cm,lX,tX,tI,eA,w1,r]
   ·rw[Mr fun h=>hl h.2]
    have r:=ih (i+1) nn ids hd' (by simp at Dy;omega) (by omega) h4
    simp (disch:=omega) only[Ea,n1,g0,g1,g2,g3,g4,g5,g6,g7,g8,g9,g10,bT,w1,r]
  ·rw[Mr fun h=>hs h.1]
   have bF:∀a b:Option A2,Bd (!x.sus) a b=b:=fun a b=>by rw[Bool.not_eq_false] at hs;rw[hs];rfl
   have r:=ih (i+1) nn ids hd' (by simp at Dy;omega) (by omega) h4
   simp (disch:=omega) only[Ea,n1,g0,g1,g2,g3,g4,g5,g6,g7,g8,g9,g10,bF,w1,r]
theorem DJ (B2:2000<=fu){l:List Cw}(hl:l.length<=1000)(Kd:∀a∈l,a.ok)(secret:Int){nm:ByteArray}(Hk:nm.size<=500):
  Ag C0 prog fu (d+7) N0 [.lst false 3 l.length (Az l),.sc (.int .u64 secret),.sc (.string nm)]=some ⟨[.own 1 4 (Cp (MY l secret nm))],[]⟩:=by
 rw[Wr];have f:=Xf (xs:=Ih) (fu:=fu) (d:=d+5) (l:=l) (nm:=nm) (by omega) (by omega)
 unfold MY;cases h:X8 nm 0 l with
 |none=>
  rw[h] at f;have lN:=Xx nm;have mc:=VC (xs:=Ih) (fu:=fu) (d:=d+1) (l:=I0 nm) (KU nm) (by omega) (by omega) (by omega) secret 20
  rw[lN] at mc;have sc:=La nm;have lS:(Am .u8 (I0 nm)).length=nm.size:=by rw[A0,lN]
  have tS:List.take nm.size (Am .u8 (I0 nm))=Am .u8 (I0 nm):=G9 (by omega)
  have q:=XP (fu:=fu) (d:=d) (by omega) (n:=l.length) (c:=Az l) (a1:=secret) (a2:=nm) (key:=BC secret 20 (I0 nm)) (cnt:=4) 4 fu 0 [] rfl (by omega) (by omega) (by omega)
  simp only[Gs] at f;simp (disch:=omega) only[Ea,f,sc,lS,Cn,Ch,Cm,tS,mc];exact q
 |some i=>
  rw[h] at f;obtain⟨_,h2,a,h3,_⟩:=Qj h;rw[Nat.sub_zero] at h3;have g2:(Az l).getD (i*3+2) .top=.lst false 11 a.cr.length (Cf a.cr):=Fd h3 (j:=2) (by omega)
  have n1:Int.toNat (i:Int)=i:=Rq _;have ak:=Kd a (List.mem_of_getElem? h3);have q:=Ajm (fu:=fu) (d:=d) (by omega) (n:=l.length) (c:=Az l) (a1:=secret) (a2:=nm) (secret:=secret) Hk ak.cn ak.cs a.cr 0 fu [] rfl (by have:=ak.cn;omega) (by omega) (by simp)
  simp only[Gs] at f;simp (disch:=omega) only[Ea,f,n1,g2];refine q.trans ?_;simp only[Ag0,h3]
end
end
section
open Go.Proofs.Try (prog)
open Go.IntKind (wrap)
set_option maxRecDepth 100000
section
variable {fu d:Nat}
theorem Ad5 {l:List Cw}{nm us:ByteArray}{x:Sd}(hl:l.length<=1000)(hs:∀a∈l,a.sm)(hx:x.sm):
  Ag C0 prog fu (d+1) 11 [.lst false 3 l.length (Az l),.sc (.string nm),.sc (.string us),.agg x.cells]=some (P8 (AH l nm us x)):=by
 have h:Ag C0 prog fu (d+1) 11 [.lst false 3 l.length (Az l),.sc (.string nm),.sc (.string us),.agg x.cells]=Aeg [.lst false 3 l.length (Az l),.sc (.string nm),.sc (.string us),.agg x.cells]:=by kernel_rfl
 have e1:L0 x.cells=some [x]:=by
  have:=Tk (l:=[x]) (fun c hc=>by rw[List.mem_singleton] at hc;subst hc;exact hx)
  rwa [show Cf [x]=x.cells by simp[Cf]] at this
 have e:(Nat.beq l.length l.length&&Nat.ble l.length 1000)=true:=by rw[Nat.beq_refl,Nat.ble_eq_true_of_le hl];rfl
 rw[h];unfold Aeg;simp only[Ql hs,e1,e,cond_true]
theorem Aq1 {l:List Cw}{nm:ByteArray}{x:Sd}(hl:l.length<=1000)(hs:∀a∈l,a.sm)(hx:x.sm):
  Ag C0 prog fu (d+1) 18 [.lst false 3 l.length (Az l),.sc (.string nm),.agg x.cells]=some (P8 (FY l nm x)):=by
 have h:Ag C0 prog fu (d+1) 18 [.lst false 3 l.length (Az l),.sc (.string nm),.agg x.cells]=Af5 [.lst false 3 l.length (Az l),.sc (.string nm),.agg x.cells]:=by kernel_rfl
 have e1:L0 x.cells=some [x]:=by
  have:=Tk (l:=[x]) (fun c hc=>by rw[List.mem_singleton] at hc;subst hc;exact hx)
  rwa [show Cf [x]=x.cells by simp[Cf]] at this
 have e:(Nat.beq l.length l.length&&Nat.ble l.length 1000)=true:=by rw[Nat.beq_refl,Nat.ble_eq_true_of_le hl];rfl
 rw[h];unfold Af5;simp only[Ql hs,e1,e,cond_true]
theorem Ao9 {l:List Cw}{nm:ByteArray}{id:List Int}(hl:l.length<=1000)(hs:∀a∈l,a.sm)(Bb:id.length<=1000000):
  Ag C0 prog fu (d+1) 16 [.lst false 3 l.length (Az l),.sc (.string nm),.lst false 1 id.length (Am .u8 id)]=some (P8 (FZ l nm id)):=by
 have h:Ag C0 prog fu (d+1) 16 [.lst false 3 l.length (Az l),.sc (.string nm),.lst false 1 id.length (Am .u8 id)]=Ae3 [.lst false 3 l.length (Az l),.sc (.string nm),.lst false 1 id.length (Am .u8 id)]:=by kernel_rfl
 have e:(Nat.beq l.length l.length&&Nat.ble l.length 1000&&Nat.beq id.length id.length&&Nat.ble id.length 1000000)=true:=by rw[Nat.beq_refl,Nat.beq_refl,Nat.ble_eq_true_of_le hl,Nat.ble_eq_true_of_le Bb];rfl
 rw[h];unfold Ae3;simp only[Ql hs,MV,e,cond_true]
end
end
section
open Go.Proofs.Try (prog)
open Go.IntKind (wrap)
set_option maxRecDepth 100000
def S1:ByteArray:=ByteArray.mk #[(97:UInt8),(108:UInt8),(105:UInt8),(99:UInt8),(101:UInt8)]
def Aoc:ByteArray:=ByteArray.mk #[(98:UInt8),(111:UInt8),(98:UInt8)]
def uuN:ByteArray:=ByteArray.mk #[(117:UInt8)]
section
variable {fu d:Nat}
theorem TE (B2:2000<=fu){nm us:ByteArray}{c:Sd}(h1:1<=nm.size)(h2:nm.size<=32)(Bb:c.id.length=176)(hr:c.rg.length<=1000):
  Ag C0 prog fu (d+3) 11 [.lst false 3 0 [],.sc (.string nm),.sc (.string us),.agg c.cells]=some ⟨[.lst false 3 1 (Az [⟨nm,us,[c]⟩]),.sc (.int .i64 0)],[]⟩:=by
 have h:=Ad5 (fu:=fu) (d:=d+2) (l:=[]) (nm:=nm) (us:=us) (x:=c) (by simp) (fun a ha=>by cases ha) ⟨by omega,hr⟩
 have e:AH [] nm us c=([⟨nm,us,[c]⟩],0):=by
  unfold AH;rw[Mr (by omega),Mr (by simp[Bb])]
  rfl
 rw[e] at h;exact h
end
def aw1:Sd:={ sdE 1 2 with used:=2,rg:=[(0,1)],last:=7 }
def RO:Sd:={ sdE 1 2 with used:=10,rg:=[(0,1),(2,3)],last:=8 }
def aw4:Sd:={ RO with sus:=true }
theorem A92:AG (sdE 1 2) 1 0 7=(aw1,0):=rfl
theorem A9g:AG aw1 3 2 8=(RO,0):=rfl
theorem A3i:AG RO 0 0 9=(RO,37):=rfl
theorem A09:AG RO 3 2 9=(aw4,37):=rfl
theorem Aph:aw1.ok:=⟨(Ta 1 2).idB,(Ta 1 2).idL,by decide,by decide,by simp[aw1,Asc],by decide⟩
theorem UB:RO.ok:=⟨(Ta 1 2).idB,(Ta 1 2).idL,by decide,by decide,by simp[RO,Asc],by decide⟩
section
variable {fu d:Nat}
theorem Xy (B2:2000<=fu):Ag C0 prog fu (d+8) Lb []=some ⟨[.sc (.bool true)],[]⟩:=by
 refine (Sa fu (d+7)).trans ?_;have s:=Ty (fu:=fu) (d:=d) (by omega) (k:=1) (by omega) (by omega) 2
 have q1:=Tq (fu:=fu) (d:=d+3) (Ta 1 2) B2 1 0 7;have q2:=Tq (fu:=fu) (d:=d+3) Aph B2 3 2 8;have q3:=Tq (fu:=fu) (d:=d+3) UB B2 0 0 9;have q4:=Tq (fu:=fu) (d:=d+3) UB B2 3 2 9;rw[A92] at q1;rw[A9g] at q2;rw[A3i] at q3;rw[A09] at q4;have i1:RO.id.length=176:=by show (Dj _ 176).length=176;rw[Dj,G4]
 have q5:=TE (fu:=fu) (d:=d+4) B2 (nm:=S1) (us:=uuN) (c:=RO) (by decide) (by decide) i1 (by decide)
 have q6:=Xf (xs:=Ih) (fu:=fu) (d:=d+6) (l:=[⟨S1,uuN,[RO]⟩]) (nm:=S1) (by simp) (by simp;omega)
 have e6:X8 S1 0 [⟨S1,uuN,[RO]⟩]=some 0:=rfl;rw[e6] at q6
 have q7:=DJ (fu:=fu) (d:=d) B2 (l:=[⟨S1,uuN,[RO]⟩]) (by simp) (by
  intro a ha;rw[List.mem_singleton] at ha;subst ha
  exact⟨by simp,by
   intro c hc;rw[List.mem_singleton] at hc;subst hc;exact UB⟩) 1 (nm:=Aoc) (by decide)
 have lL:([⟨S1,uuN,[RO]⟩]:List Cw).length=1:=rfl;rw[lL] at q6 q7;simp only[Gs] at q6;generalize Az [⟨S1,uuN,[RO]⟩]=A at q5 q6 q7;generalize Cp (MY [⟨S1,uuN,[RO]⟩] 1 Aoc)=R at q7;simp only[Sd.cells,sdE,aw1,RO,aw4] at s q1 q2 q3 q4 q5;simp only[S1,uuN] at q5;simp only[S1] at q6;simp only[Aoc] at q7;generalize Dj (600+1) 176=id at *
 have e1:((0:Int)==0)=true:=rfl;have e2:((37:Int)==37)=true:=rfl;have e3:((10:Int)==10)=true:=rfl;have e4:((([(0,1),(2,3)]:List (Int × Int)).length:Int)==2)=true:=rfl;have e5:(((4:Nat):Int)==4)=true:=rfl;have e0:((0:Nat):Int)=0:=rfl;rw[e0] at q6;show Gg fu (Ag C0 prog fu (d+7)) fu=_;rw[Pt (Dy:=by omega)]
 simp only[Ea,s,q1];rw[Pc (Dy:=by omega)]
 simp only[Ea,q2];rw[Po (Dy:=by omega)]
 simp only[Ea,q3];rw[P1 (Dy:=by omega)]
 simp only[Ea,q4];rw[P5 (Dy:=by omega)]
 simp only[Ea,q5];rw[O9 (Dy:=by omega)]
 simp only[Ea,q6];rw[Pe (Dy:=by omega)]
 simp only[Ea,e1,e2,e3,e4,e5,O0,q7]
end
end
section
open Go.Proofs.Try (prog)
open Go.IntKind (wrap)
set_option maxRecDepth 100000
abbrev Iw:FuncId:=7
theorem O4 (fu d Fb:Nat)(Di:List PV)(De:Int):Ag C0 prog fu (d+1) Iw [.pbox [.lst false 1 Fb Di,.sc (.int .i64 De)]]=(fun (call:Ai)=>some (A2.mk [.sc (.bool (decide (De<(↑Fb:Int))))] [[.lst false 1 Fb Di,.sc (.int .i64 De)]])) (Ag C0 prog fu d):=by kernel_rfl
end
section
open Go.Proofs.Try (prog)
open Go.IntKind (wrap)
set_option maxRecDepth 100000
section
variable {fu d:Nat}
theorem OX {n m:Nat}{a b:List PV}{call:Ai}{l:List (Int × Int)} (hl:l.length<=100000):∀(r:List (Int × Int)) (i nn:Nat),l.drop i=r->r.length<nn->i<=l.length ->
  Dp fu call n a m b nn l.length (H7 l) l.length (H7 l) (i:Int)=some ⟨[.sc (.bool true)],[]⟩:=by
 intro r
 induction r with
 |nil=>
  intro i nn hd Dy hi;have:=drop_nil hd;obtain⟨nn,rfl⟩:∃k,nn=k+1:=⟨nn-1,by omega⟩
  rw[F9];simp (disch:=omega) only[Ea]
 |cons p r ih=>
  intro i nn hd Dy hi;obtain⟨Bp,Br,hd'⟩:=C3 hd;obtain⟨nn,rfl⟩:∃k,nn=k+1:=⟨nn-1,by omega⟩
  rw[F9];have eF:=A2q Br;have eL:=Azh Br;have n1:Int.toNat (i:Int)=i:=Rq _;have w1:wrap .i64 ((i:Int)+1)=((i+1:Nat):Int):=by rw[wrap_i64 (by omega) (by omega)];omega
  have q:=ih (i+1) nn hd' (by simp at Dy;omega) (by omega)
  have b1:(!(p.1==p.1&&p.2==p.2))=false:=by simp
  simp (disch:=omega) only[Ea,n1,eF,eL,Bool.and_true,b1,w1,q]
theorem YZ {l:List (Int × Int)} (hl:l.length<=100000)(B2:l.length<fu):Ag C0 prog fu (d+1) Hj [.lst false 2 l.length (H7 l),.lst false 2 l.length (H7 l)]=some ⟨[.sc (.bool true)],[]⟩:=by
 rw[Nr];have b1:((l.length:Int) != (l.length:Int))=false:=by simp
 simp (disch:=omega) only[Ea,b1];exact OX hl l 0 fu rfl B2 (by omega)
theorem ZV {c:Sd}(hk:c.ok)(B2:2000<=fu):Ag C0 prog fu (d+2) Hd [.agg c.cells,.agg c.cells]=some ⟨[.sc (.bool true)],[]⟩:=by
 refine (Nm fu (d+1) c.id.length (Am .u8 c.id) c.ht c.root c.model c.fmt c.sh c.used c.rg.length (H7 c.rg) c.sus c.since c.last c.id.length (Am .u8 c.id) c.ht c.root c.model c.fmt c.sh c.used c.rg.length (H7 c.rg) c.sus c.since c.last).trans ?_;have l1:=A0 .u8 c.id;have q:=YZ (fu:=fu) (d:=d) (l:=c.rg) (by have:=hk.rgn;omega) (by have:=hk.rgn;omega)
 have bb:=El c.id;have b0:∀l:List UInt8,(l==l)=true:=fun l=>by simp
 have b1:∀x:Int,(x==x)=true:=fun x=>by simp
 have b2:∀x:Bool,(x==x)=true:=fun x=>by cases x<;>rfl
 try unfold Ab
 repeat first
  |((with_reducible first|apply A5|apply Aw|apply A9|apply Ay|apply D1|apply Ax|apply A6|apply A8);· first|with_reducible rfl|(simp (disch:=omega) only[gT,l1,bb,b0,b1,b2,q,Bool.and_true]<;>first|with_reducible rfl|omega)|omega)
  |(with_reducible apply A7;· first|with_reducible rfl|(simp (disch:=omega) only[gF,l1,bb,b0,b1,b2,q,Bool.and_true]<;>omega))
 try simp (disch:=omega) only[l1,bb,b0,b1,b2,q,Bool.and_true]
end
end
section
open Go.Proofs.Try (prog)
open Go.IntKind (wrap)
set_option maxRecDepth 100000
section
variable {fu d:Nat}
theorem OY (s:List (List Int)):∀(l m:List (List Int)),Hn s (l++m)=Hn (Hn s l) m
 |l,m=>by
  induction l generalizing s with
  |nil=>rfl
  |cons x l ih=>exact ih (U6 x s)
theorem Aif {n:Nat}{c:List PV}{a1:Int}{a2:ByteArray}{call:Ai}{L:List (List Int)} (hL:L.length<=1000)(hB:∀x∈L,T8 x∧x.length<=1000000):∀(r:List (List Int)) (i nn:Nat),L.drop i=r->r.length<nn->i<=L.length ->
  Ec fu call n c a1 a2 nn L.length i (i:Int) (Ft L) (Cp (L.take i))=some ⟨[.own 1 L.length (Cp L)],[]⟩:=by
 intro r
 induction r with
 |nil=>
  intro i nn hd Dy hi;have FI:i=L.length:=by have:=drop_nil hd;omega
  obtain⟨nn,rfl⟩:∃k,nn=k+1:=⟨nn-1,by omega⟩
  rw[Hc];have e:L.take i=L:=G9 (by omega)
  have l1:=Eh L;have t:List.take i (Cp L)=Cp L:=G9 (by omega)
  rw[e]
  try unfold Ab
  repeat first
   |((with_reducible first|apply A5|apply Aw|apply A9|apply Ay|apply Bh|apply B7|apply B5|apply D1|apply Ax|apply A6|apply A8);· first|with_reducible rfl|(simp (disch:=omega) only[gT,Ch,l1,t]<;>first|with_reducible rfl|omega)|omega)
   |(with_reducible apply A7;· first|with_reducible rfl|(simp (disch:=omega) only[gF,Ch,l1,t]<;>omega))
  try simp (disch:=omega) only[Ch,l1,t]
  rw[FI]
 |cons x r ih=>
  intro i nn hd Dy hi;obtain⟨Bp,Br,hd'⟩:=C3 hd;obtain⟨nn,rfl⟩:∃k,nn=k+1:=⟨nn-1,by omega⟩
  rw[Hc];have n1:Int.toNat (i:Int)=i:=Rq _;have w1:wrap .i64 ((i:Int)+1)=((i+1:Nat):Int):=by rw[wrap_i64 (by omega) (by omega)];omega
  have ax:=XB Br;obtain⟨xB,xL⟩:=hB x (List.mem_of_getElem? Br);have z1:=MX x;have sc:=La (Ee x);rw[KK xB] at sc;have lX:=A0 .u8 x;have tX:=tki .u8 x;have lT:=Eh (L.take i);have lT2:(L.take i).length=i:=by rw[List.length_take];omega
  have tT:List.take i (Cp (L.take i))=Cp (L.take i):=G9 (by omega)
  have tk:L.take (i+1)=L.take i++[x]:=by rw[List.take_add_one,Br];rfl
  have eA:Cp (L.take i)++[PV.lst false 1 x.length (Am .u8 x)]=Cp (L.take (i+1)):=by
   rw[tk];unfold Cp;rw[List.flatMap_append];rfl
  have q:=ih (i+1) nn hd' (by simp at Dy;omega) (by omega)
  have c1:(decide (i<=i)&&true&&decide ((i+1)*24<=1099511627776)&&decide (i+1<=1099511627776))=true:=by simp;omega
  try unfold Ab
  repeat first
   |((with_reducible first|apply A5|apply Aw|apply A9|apply Ay|apply Bh|apply B7|apply B5|apply D1|apply Ax|apply A6|apply A8);· first|with_reducible rfl|(simp (disch:=omega) only[gT,n1,Ch,Cn,ax,z1,sc,lX,lT,lT2,c1,Cm,tX,tT,eA,w1,q]<;>first|with_reducible rfl|omega)|omega)
   |(with_reducible apply A7;· first|with_reducible rfl|(simp (disch:=omega) only[gF,n1,Ch,Cn,ax,z1,sc,lX,lT,lT2,c1,Cm,tX,tT,eA,w1,q]<;>omega))
  try simp (disch:=omega) only[n1,Ch,Cn,ax,z1,sc,lX,lT,lT2,c1,Cm,tX,tT,eA,w1,q]
theorem XF (B2:1000<=fu){n:Nat}{c:List PV}{a1:Int}{a2:ByteArray}{key:Int}:∀(k nn i:Nat)(L:List (List Int)),L.length+k=4->k<nn->(∀x∈L,T8 x∧x.length<=1000000)->i+k<=4 ->
  Dc fu (Ag C0 prog fu (d+5)) n c a1 a2 nn L.length key (i:Int) (Ft L)=some ⟨[.own 1 4 (Cp (Hn L (dec key i k)))],[]⟩:=by
 intro k
 induction k with
 |zero=>
  intro nn i L h1 h2 h3 h4;obtain⟨nn,rfl⟩:∃k,nn=k+1:=⟨nn-1,by omega⟩
  rw[Hg];have q:=Aif (fu:=fu) (n:=n) (c:=c) (a1:=a1) (a2:=a2) (call:=Ag C0 prog fu (d+5)) (L:=L) (by omega) h3 L 0 fu rfl (by omega) (by omega)
  have e4:L.length=4:=by omega
  rw[e4] at q ⊢
  try unfold Ab
  repeat first
   |((with_reducible first|apply A5|apply Aw|apply A9|apply Ay|apply Bh|apply B7|apply B5|apply D1|apply Ax|apply A6|apply A8);· first|with_reducible rfl|(simp (disch:=omega) only[gT,e4]<;>first|with_reducible rfl|omega)|omega)
   |(with_reducible apply A7;· first|with_reducible rfl|(simp (disch:=omega) only[gF,e4]<;>omega))
  try simp (disch:=omega) only[e4]
  exact q
 |succ k ih=>
  intro nn i L h1 h2 h3 h4;obtain⟨nn,rfl⟩:∃k,nn=k+1:=⟨nn-1,by omega⟩
  rw[Hg];have st:Ag C0 prog fu (d+5) Gy [.sc (.int .u64 key),.sc (.int .u64 (i:Int)),.sc (.int .i64 176)]=_:=NL (fu:=fu) (d:=d) B2 key (i:Int) (n:=176) (by omega)
  have lS:(Am .u8 (Nb key (i:Int) 176)).length=176:=by rw[A0,G4]
  have tS:List.take 176 (Am .u8 (Nb key (i:Int) 176))=Am .u8 (Nb key (i:Int) 176):=G9 (by omega)
  have bb:=El (Nb key (i:Int) 176);have lR:=Lj L;have tR:List.take L.length (Ft L)=Ft L:=G9 (by omega)
  have is:Ag C0 prog fu (d+5) Ez [.lst false 1 L.length (Ft L),.sc (.string (ByteArray.mk (List.toArray (List.map (fun n:Int=>n.toNat.toUInt8) (Nb key (i:Int) 176)))))]=_:=XL (fu:=fu) (d:=d+4) (x:=Nb key (i:Int) 176) (L:=L) (by omega) (by omega)
  have w1:wrap .u64 ((i:Int)+1)=((i+1:Nat):Int):=by rw[D8 (by omega) (by omega)];omega
  have q:=ih nn (i+1) (U6 (Nb key (i:Int) 176) L) (by rw[Tf];omega) (by omega) (fun x hx=>by
   rcases BQ.1 hx with rfl|hx
   ·exact⟨TL _ _ _,by rw[G4];omega⟩
   ·exact h3 x hx) (by omega)
  rw[Tf] at q
  try unfold Ab
  repeat first
   |((with_reducible first|apply A5|apply Aw|apply A9|apply Ay|apply Bh|apply B7|apply B5|apply D1|apply Ax|apply A6|apply A8);· first|with_reducible rfl|(simp (disch:=omega) only[gT,st,lS,Cn,Ch,Cm,tS,bb,lR,tR,is,w1,q]<;>first|with_reducible rfl|omega)|omega)
   |(with_reducible apply A7;· first|with_reducible rfl|(simp (disch:=omega) only[gF,st,lS,Cn,Ch,Cm,tS,bb,lR,tR,is,w1,q]<;>omega))
  try simp (disch:=omega) only[st,lS,Cn,Ch,Cm,tS,bb,lR,tR,is,w1,q]
  all_goals rfl
theorem Aiz (B2:1000<=fu){n:Nat}{c:List PV}{a1:Int}{a2:ByteArray}{secret:Int}{nm:ByteArray}(Hk:nm.size<=500){l:List Cw}{ix:Nat}{a:Cw}(ha:l[ix]?=some a) (ME:a.cr.length<=1000)(Kd:∀c∈a.cr,c.ok):∀(r:List Sd)(i nn:Nat)(ids:List (List Int)),a.cr.drop i=r->r.length<nn->i<=a.cr.length->ids.length<=4->(∀x∈ids,T8 x∧x.length<=1000000) ->
  Cq fu (Ag C0 prog fu (d+5)) n c a1 a2 nn l.length (Az l) secret nm ids.length (ix:Int) (i:Int) (Ft (Hn [] ids))=some ⟨[.own 1 4 (Cp (Hn [] (Afe (BC secret 20 (I0 nm)) (pick ids r))))],[]⟩:=by
 intro r;have lN:=Xx nm;have mc:=JU (xs:=Ih) (fu:=fu) (d:=d+1) (l:=I0 nm) (KU nm) (by omega) (by omega) (by omega) secret 20
 rw[lN] at mc;have sc:=La nm;have lS:(Am .u8 (I0 nm)).length=nm.size:=by rw[A0,lN]
 have tS:List.take nm.size (Am .u8 (I0 nm))=Am .u8 (I0 nm):=G9 (by omega)
 have hix:=H9 ha;have g2:(Az l).getD (ix*3+2) .top=.lst false 11 a.cr.length (Cf a.cr):=Fd ha (j:=2) (by omega)
 have n2:Int.toNat (ix:Int)=ix:=Rq _
 induction r with
 |nil=>
  intro i nn ids hd Dy hi h4 hB;have:=drop_nil hd;obtain⟨nn,rfl⟩:∃k,nn=k+1:=⟨nn-1,by omega⟩
  rw[He];have q:=XF (fu:=fu) (d:=d) B2 (n:=n) (c:=c) (a1:=a1) (a2:=a2) (key:=BC secret 20 (I0 nm)) (4-ids.length) fu 0 (Hn [] ids) (by rw[Qe];simp;omega) (by omega) (fun x hx=>hB x (by have:=OS.1 hx;simpa using this)) (by omega)
  have e0:((0:Nat):Int)=0:=rfl;rw[Qe,Dh,Cn,←OY,e0] at q
  try unfold Ab
  repeat first
   |((with_reducible first|apply A5|apply Aw|apply A9|apply Ay|apply Bh|apply B7|apply B5|apply D1|apply Ax|apply A6|apply A8);· first|with_reducible rfl|(simp (disch:=omega) only[gT,n2,g2,sc,lS,Cn,Ch,Cm,tS,mc]<;>first|with_reducible rfl|omega)|omega)
   |(with_reducible apply A7;· first|with_reducible rfl|(simp (disch:=omega) only[gF,n2,g2,sc,lS,Cn,Ch,Cm,tS,mc]<;>omega))
  try simp (disch:=omega) only[n2,g2,sc,lS,Cn,Ch,Cm,tS,mc]
  exact q
 |cons x r ih=>
  intro i nn ids hd Dy hi h4 hB;obtain⟨Bp,Br,hd'⟩:=C3 hd;obtain⟨nn,rfl⟩:∃k,nn=k+1:=⟨nn-1,by omega⟩
  rw[He];have g0:(Cf a.cr).getD (i*11) .top=.lst false 1 x.id.length (Am .u8 x.id):=Cy Br (j:=0) (by omega)
  have g1:(Cf a.cr).getD (i*11+1) .top=.sc (.int .i64 x.ht):=Cy Br (j:=1) (by omega)
  have g2':(Cf a.cr).getD (i*11+1+1) .top=.sc (.int .u64 x.root):=Cy Br (j:=2) (by omega)
  have g3:(Cf a.cr).getD (i*11+1+1+1) .top=.sc (.int .u64 x.model):=Cy Br (j:=3) (by omega)
  have g4:(Cf a.cr).getD (i*11+1+1+1+1) .top=.sc (.int .i64 x.fmt):=Cy Br (j:=4) (by omega)
  have g5:(Cf a.cr).getD (i*11+1+1+1+1+1) .top=.sc (.bool x.sh):=Cy Br (j:=5) (by omega)
  have g6:(Cf a.cr).getD (i*11+1+1+1+1+1+1) .top=.sc (.int .u64 x.used):=Cy Br (j:=6) (by omega)
  have g7:(Cf a.cr).getD (i*11+1+1+1+1+1+1+1) .top=.lst false 2 x.rg.length (H7 x.rg):=Cy Br (j:=7) (by omega)
  have g8:(Cf a.cr).getD (i*11+1+1+1+1+1+1+1+1) .top=.sc (.bool x.sus):=Cy Br (j:=8) (by omega)
  have g9:(Cf a.cr).getD (i*11+1+1+1+1+1+1+1+1+1) .top=.sc (.int .i64 x.since):=Cy Br (j:=9) (by omega)
  have g10:(Cf a.cr).getD (i*11+1+1+1+1+1+1+1+1+1+1) .top=.sc (.int .i64 x.last):=Cy Br (j:=10) (by omega)
  have n1:Int.toNat (i:Int)=i:=Rq _;have w1:wrap .i64 ((i:Int)+1)=((i+1:Nat):Int):=by rw[wrap_i64 (by omega) (by omega)];omega
  have xk:=Kd x (List.mem_of_getElem? Br);have lX:=A0 .u8 x.id;have bb:=El x.id;have lI:(Hn [] ids).length=ids.length:=by rw[Qe];simp
  have lR:=Lj (Hn [] ids);have tR:List.take ids.length (Ft (Hn [] ids))=Ft (Hn [] ids):=G9 (by omega)
  have is:Ag C0 prog fu (d+5) Ez [.lst false 1 (Hn [] ids).length (Ft (Hn [] ids)),.sc (.string (ByteArray.mk (List.toArray (List.map (fun n:Int=>n.toNat.toUInt8) x.id))))]=_:=XL (fu:=fu) (d:=d+4) (x:=x.id) (L:=Hn [] ids) (by omega) (by omega)
  rw[lI] at is;unfold pick;by_cases hs:x.sus=false
  ·by_cases hl:ids.length<4
   ·rw[J8 ⟨hs,hl⟩]
    have q:=ih (i+1) nn (ids++[x.id]) hd' (by simp at Dy;omega) (by omega) (by simp;omega) (fun y hy=>by
     rcases List.mem_append.1 hy with hy|hy
     ·exact hB y hy
     ·rw[List.mem_singleton] at hy;subst hy;exact⟨xk.idB,xk.idL⟩)
    have lA:(ids++[x.id]).length=ids.length+1:=by simp
    have eA:Hn [] (ids++[x.id])=U6 x.id (Hn [] ids):=by rw[OY];rfl
    rw[lA,eA] at q
    try unfold Ab
    repeat first
     |((with_reducible first|apply A5|apply Aw|apply A9|apply Ay|apply Bh|apply B7|apply B5|apply D1|apply Ax|apply A6|apply A8);· first|with_reducible rfl|(simp (disch:=omega) only[gT,n2,g2,n1,g0,g1,g2',g3,g4,g5,g6,g7,g8,g9,g10,hs,O0,lX,bb,lR,lI,Cn,Ch,Cm,tR,is,w1,q]<;>first|with_reducible rfl|omega)|omega)
     |(with_reducible apply A7;· first|with_reducible rfl|(simp (disch:=omega) only[gF,n2,g2,n1,g0,g1,g2',g3,g4,g5,g6,g7,g8,g9,g10,hs,O0,lX,bb,lR,lI,Cn,Ch,Cm,tR,is,w1,q]<;>omega))
    try simp (disch:=omega) only[n2,g2,n1,g0,g1,g2',g3,g4,g5,g6,g7,g8,g9,g10,hs,O0,lX,bb,lR,lI,Cn,Ch,Cm,tR,is,w1,q]
   ·rw[Mr fun h=>hl h.2]
    have q:=ih (i+1) nn ids hd' (by simp at Dy;omega) (by omega) h4 hB
    try unfold Ab
    repeat first
     |((with_reducible first|apply A5|apply Aw|apply A9|apply Ay|apply Bh|apply B7|apply B5|apply D1|apply Ax|apply A6|apply A8);· first|with_reducible rfl|(simp (disch:=omega) only[gT,n2,g2,n1,g0,g1,g2',g3,g4,g5,g6,g7,g8,g9,g10,hs,O0,w1,q]<;>first|with_reducible rfl|omega)|omega)
     |(with_reducible apply A7;· first|with_reducible rfl|(simp (disch:=omega) only[gF,n2,g2,n1,g0,g1,g2',g3,g4,g5,g6,g7,g8,g9,g10,hs,O0,w1,q]<;>omega))
    try simp (disch:=omega) only[n2,g2,n1,g0,g1,g2',g3,g4,g5,g6,g7,g8,g9,g10,hs,O0,w1,q]
  ·rw[Mr fun h=>hs h.1]
   rw[Bool.not_eq_false] at hs;have q:=ih (i+1) nn ids hd' (by simp at Dy;omega) (by omega) h4 hB
   try unfold Ab
   repeat first
    |((with_reducible first|apply A5|apply Aw|apply A9|apply Ay|apply Bh|apply B7|apply B5|apply D1|apply Ax|apply A6|apply A8);· first|with_reducible rfl|(simp (disch:=omega) only[gT,n2,g2,n1,g0,g1,g2',g3,g4,g5,g6,g7,g8,g9,g10,hs,Rv,w1,q]<;>first|with_reducible rfl|omega)|omega)
    |(with_reducible apply A7;· first|with_reducible rfl|(simp (disch:=omega) only[gF,n2,g2,n1,g0,g1,g2',g3,g4,g5,g6,g7,g8,g9,g10,hs,Rv,w1,q]<;>omega))
   try simp (disch:=omega) only[n2,g2,n1,g0,g1,g2',g3,g4,g5,g6,g7,g8,g9,g10,hs,Rv,w1,q]
theorem OC (B2:2000<=fu){l:List Cw}(hl:l.length<=1000)(Kd:∀a∈l,a.ok)(secret:Int){nm:ByteArray}(Hk:nm.size<=500):
  Ag C0 prog fu (d+6) Jn [.lst false 3 l.length (Az l),.sc (.int .u64 secret),.sc (.string nm)]=some ⟨[.own 1 4 (Cp (MY l secret nm))],[]⟩:=by
 rw[Qs];have f:=So (fu:=fu) (d:=d+4) (l:=l) (nm:=nm) (by omega) (by omega)
 unfold MY;cases h:X8 nm 0 l with
 |none=>
  rw[h] at f;have lN:=Xx nm;have mc:=JU (xs:=Ih) (fu:=fu) (d:=d+1) (l:=I0 nm) (KU nm) (by omega) (by omega) (by omega) secret 20
  rw[lN] at mc;have sc:=La nm;have lS:(Am .u8 (I0 nm)).length=nm.size:=by rw[A0,lN]
  have tS:List.take nm.size (Am .u8 (I0 nm))=Am .u8 (I0 nm):=G9 (by omega)
  have q:=XF (fu:=fu) (d:=d) (by omega) (n:=l.length) (c:=Az l) (a1:=secret) (a2:=nm) (key:=BC secret 20 (I0 nm)) 4 fu 0 [] rfl (by omega) (fun x hx=>by cases hx) (by omega)
  have e0:((0:Nat):Int)=0:=rfl;rw[e0] at q;simp only[Gs] at f
  try unfold Ab
  repeat first
   |((with_reducible first|apply A5|apply Aw|apply A9|apply Ay|apply Bh|apply B7|apply B5|apply D1|apply Ax|apply A6|apply A8);· first|with_reducible rfl|(simp (disch:=omega) only[gT,f,sc,lS,Cn,Ch,Cm,tS,mc]<;>first|with_reducible rfl|omega)|omega)
   |(with_reducible apply A7;· first|with_reducible rfl|(simp (disch:=omega) only[gF,f,sc,lS,Cn,Ch,Cm,tS,mc]<;>omega))
  try simp (disch:=omega) only[f,sc,lS,Cn,Ch,Cm,tS,mc]
  exact q
 |some i=>
  rw[h] at f;obtain⟨_,h2,a,h3,_⟩:=Qj h;rw[Nat.sub_zero] at h3;have ak:=Kd a (List.mem_of_getElem? h3);have q:=Aiz (fu:=fu) (d:=d) (by omega) (n:=l.length) (c:=Az l) (a1:=secret) (a2:=nm) (secret:=secret) Hk h3 ak.cn ak.cs a.cr 0 fu [] rfl (by have:=ak.cn;omega) (by omega) (by simp) (fun x hx=>by cases hx)
  simp only[Gs] at f
  try unfold Ab
  repeat first
   |((with_reducible first|apply A5|apply Aw|apply A9|apply Ay|apply Bh|apply B7|apply B5|apply D1|apply Ax|apply A6|apply A8);· first|with_reducible rfl|(simp (disch:=omega) only[gT,f]<;>first|with_reducible rfl|omega)|omega)
   |(with_reducible apply A7;· first|with_reducible rfl|(simp (disch:=omega) only[gF,f]<;>omega))
  try simp (disch:=omega) only[f]
  refine q.trans ?_;simp only[Ag0,h3]
theorem UN {n m:Nat}{a b:List PV}{call:Ai}{L:List (List Int)} (hl:L.length<=100000):∀(r:List (List Int)) (i nn:Nat),L.drop i=r->r.length<nn->i<=L.length ->
  D4 fu call n a m b nn L.length (Cp L) L.length (Cp L) (i:Int)=some ⟨[.sc (.bool true)],[]⟩:=by
 intro r
 induction r with
 |nil=>
  intro i nn hd Dy hi;have:=drop_nil hd;obtain⟨nn,rfl⟩:∃k,nn=k+1:=⟨nn-1,by omega⟩
  rw[Gx]
  try unfold Ab
  repeat first
   |((with_reducible first|apply A5|apply Aw|apply A9|apply Ay|apply Bh|apply B7|apply B5|apply D1|apply Ax|apply A6|apply A8);· first|with_reducible rfl|(simp (disch:=omega) only[gT,J8]<;>first|with_reducible rfl|omega)|omega)
   |(with_reducible apply A7;· first|with_reducible rfl|(simp (disch:=omega) only[gF,J8]<;>omega))
  try simp (disch:=omega) only[J8]
 |cons x r ih=>
  intro i nn hd Dy hi;obtain⟨Bp,Br,hd'⟩:=C3 hd;obtain⟨nn,rfl⟩:∃k,nn=k+1:=⟨nn-1,by omega⟩
  rw[Gx];have ax:=LH Br;have n1:Int.toNat (i:Int)=i:=Rq _;have w1:wrap .i64 ((i:Int)+1)=((i+1:Nat):Int):=by rw[wrap_i64 (by omega) (by omega)];omega
  have lX:=A0 .u8 x;have bb:=El x;have b0:∀l:List UInt8,(!(l==l))=false:=fun l=>by simp
  have q:=ih (i+1) nn hd' (by simp at Dy;omega) (by omega)
  try unfold Ab
  repeat first
   |((with_reducible first|apply A5|apply Aw|apply A9|apply Ay|apply Bh|apply B7|apply B5|apply D1|apply Ax|apply A6|apply A8);· first|with_reducible rfl|(simp (disch:=omega) only[gT,n1,Ch,ax,lX,bb,b0,w1,q]<;>first|with_reducible rfl|omega)|omega)
   |(with_reducible apply A7;· first|with_reducible rfl|(simp (disch:=omega) only[gF,n1,Ch,ax,lX,bb,b0,w1,q]<;>omega))
  try simp (disch:=omega) only[n1,Ch,ax,lX,bb,b0,w1,q]
theorem Ae5 {L:List (List Int)} (hl:L.length<=100000)(B2:L.length<fu):Ag C0 prog fu (d+1) Iz [.lst false 1 L.length (Cp L),.lst false 1 L.length (Cp L)]=some ⟨[.sc (.bool true)],[]⟩:=by
 rw[Qb];have b1:((L.length:Int) != (L.length:Int))=false:=by simp
 try unfold Ab
 repeat first
  |((with_reducible first|apply A5|apply Aw|apply A9|apply Ay|apply Bh|apply B7|apply B5|apply D1|apply Ax|apply A6|apply A8);· first|with_reducible rfl|(simp (disch:=omega) only[gT,b1]<;>first|with_reducible rfl|omega)|omega)
  |(with_reducible apply A7;· first|with_reducible rfl|(simp (disch:=omega) only[gF,b1]<;>omega))
 try simp (disch:=omega) only[b1]
 exact UN hl L 0 fu rfl B2 (by omega)
end
section
variable {fu d:Nat}
theorem JK (l:List Int)(a:Nat):Ag C0 prog fu (d+1) Iw [.pbox (X6 l a)]=some ⟨[.sc (.bool (decide ((a:Int)<(l.length:Int))))],[X6 l a]⟩:=by
 unfold X6;rw[O4]
end
end
section
open Go.Proofs.Try (prog)
open Go.IntKind (wrap)
set_option maxRecDepth 100000
def JS (o:Option (Nat × Nat)):List PV:=match o with|some (i,k)=>[.sc (.int .i64 (i:Int)),.sc (.int .i64 (k:Int)),.sc (.bool true)]|none=>[.sc (.int .i64 0),.sc (.int .i64 0),.sc (.bool false)]
section
variable {xs:FuncId->Option (List PV->Option A2)} {fu d:Nat}
theorem ZA (a b:List Int):Ag (CX xs) prog fu (d+1) Up [.lst false 1 a.length (Am .u8 a),.lst false 1 b.length (Am .u8 b)]=some ⟨[.sc (.bool (PY a b))],[]⟩:=by
 rw[GH];have l1:=A0 .u8 a;have l2:=A0 .u8 b;have b1:=El a;have b2:=El b;simp (disch:=omega) only[Ea,l1,l2,b1,b2];rfl
theorem Aew {nm us:ByteArray}{n0 n1:Nat}{c0 c1:List PV}{id:List Int}{cr:List Sd}(hl:cr.length<=100000):∀(r:List Sd)(i nn:Nat),cr.drop i=r->r.length<nn->i<=cr.length ->
  Fk fu (Ag (CX xs) prog fu (d+1)) nm us n0 c0 n1 c1 nn id.length (Am .u8 id) cr.length (Cf cr) (cr.length:Int) (i:Int)=some ⟨Gs (KQ id i r),[]⟩:=by
 intro r
 induction r with
 |nil=>
  intro i nn hd Dy hi;have:=drop_nil hd;obtain⟨nn,rfl⟩:∃k,nn=k+1:=⟨nn-1,by omega⟩
  rw[J2];simp (disch:=omega) only[Ea];rfl
 |cons x r ih=>
  intro i nn hd Dy hi;obtain⟨Bp,Br,hd'⟩:=C3 hd;obtain⟨nn,rfl⟩:∃k,nn=k+1:=⟨nn-1,by omega⟩
  rw[J2];have g0:(Cf cr).getD (i*11) .top=.lst false 1 x.id.length (Am .u8 x.id):=Cy Br (j:=0) (by omega)
  have g1:(Cf cr).getD (i*11+1) .top=.sc (.int .i64 x.ht):=Cy Br (j:=1) (by omega)
  have g2:(Cf cr).getD (i*11+1+1) .top=.sc (.int .u64 x.root):=Cy Br (j:=2) (by omega)
  have g3:(Cf cr).getD (i*11+1+1+1) .top=.sc (.int .u64 x.model):=Cy Br (j:=3) (by omega)
  have g4:(Cf cr).getD (i*11+1+1+1+1) .top=.sc (.int .i64 x.fmt):=Cy Br (j:=4) (by omega)
  have g5:(Cf cr).getD (i*11+1+1+1+1+1) .top=.sc (.bool x.sh):=Cy Br (j:=5) (by omega)
  have g6:(Cf cr).getD (i*11+1+1+1+1+1+1) .top=.sc (.int .u64 x.used):=Cy Br (j:=6) (by omega)
  have g7:(Cf cr).getD (i*11+1+1+1+1+1+1+1) .top=.lst false 2 x.rg.length (H7 x.rg):=Cy Br (j:=7) (by omega)
  have g8:(Cf cr).getD (i*11+1+1+1+1+1+1+1+1) .top=.sc (.bool x.sus):=Cy Br (j:=8) (by omega)
  have g9:(Cf cr).getD (i*11+1+1+1+1+1+1+1+1+1) .top=.sc (.int .i64 x.since):=Cy Br (j:=9) (by omega)
  have g10:(Cf cr).getD (i*11+1+1+1+1+1+1+1+1+1+1) .top=.sc (.int .i64 x.last):=Cy Br (j:=10) (by omega)
  have n1:Int.toNat (i:Int)=i:=Rq _;have w1:wrap .i64 ((i:Int)+1)=((i+1:Nat):Int):=by rw[wrap_i64 (by omega) (by omega)];omega
  have eq:=ZA (xs:=xs) (fu:=fu) (d:=d) x.id id;unfold KQ;cases h:PY x.id id
  ·rw[Mr (by simp)]
   rw[h] at eq;have q:=ih (i+1) nn hd' (by simp at Dy;omega) (by omega)
   simp (disch:=omega) only[Ea,n1,g0,g1,g2,g3,g4,g5,g6,g7,g8,g9,g10,eq,w1,q]
  ·rw[J8 rfl];rw[h] at eq;simp (disch:=omega) only[Ea,n1,g0,g1,g2,g3,g4,g5,g6,g7,g8,g9,g10,eq,Gs]
theorem Adn {nm us:ByteArray}{id:List Int}{cr:List Sd}(hl:cr.length<=100000)(B2:cr.length<fu):
  Ag (CX xs) prog fu (d+2) Mv [.agg [.sc (.string nm),.sc (.string us),.lst false 11 cr.length (Cf cr)],.lst false 1 id.length (Am .u8 id)]=some ⟨Gs (KQ id 0 cr),[]⟩:=by
 rw[Vg];exact Aew hl cr 0 fu rfl B2 (by omega)
theorem Aet {n0 n1:Nat}{c0 c1:List PV}{id:List Int}{l:List Cw}(hl:l.length<=100000)(hs:∀a∈l,a.cr.length<=1000)(B2:2000<=fu):∀(r:List Cw)(i nn:Nat),l.drop i=r->r.length<nn->i<=l.length ->
  G8 fu (Ag (CX xs) prog fu (d+2)) n0 c0 n1 c1 nn id.length (Am .u8 id) l.length (Az l) (l.length:Int) (i:Int)=some ⟨JS (Wp id i r),[]⟩:=by
 intro r
 induction r with
 |nil=>
  intro i nn hd Dy hi;have:=drop_nil hd;obtain⟨nn,rfl⟩:∃k,nn=k+1:=⟨nn-1,by omega⟩
  rw[Nd];simp (disch:=omega) only[Ea];rfl
 |cons a r ih=>
  intro i nn hd Dy hi;obtain⟨Bp,Br,hd'⟩:=C3 hd;obtain⟨nn,rfl⟩:∃k,nn=k+1:=⟨nn-1,by omega⟩
  rw[Nd];have g0:(Az l).getD (i*3) .top=.sc (.string a.nm):=Fd Br (j:=0) (by omega)
  have g1:(Az l).getD (i*3+1) .top=.sc (.string a.us):=Fd Br (j:=1) (by omega)
  have g2:(Az l).getD (i*3+1+1) .top=.lst false 11 a.cr.length (Cf a.cr):=Fd Br (j:=2) (by omega)
  have n1:Int.toNat (i:Int)=i:=Rq _;have w1:wrap .i64 ((i:Int)+1)=((i+1:Nat):Int):=by rw[wrap_i64 (by omega) (by omega)];omega
  have ha:=hs a (List.mem_of_getElem? Br);have eq:=Adn (xs:=xs) (fu:=fu) (d:=d) (nm:=a.nm) (us:=a.us) (id:=id) (cr:=a.cr) (by omega) (by omega)
  unfold Wp;cases h:KQ id 0 a.cr with
  |none=>
   rw[h] at eq;simp only[Gs] at eq;have q:=ih (i+1) nn hd' (by simp at Dy;omega) (by omega)
   simp (disch:=omega) only[Ea,n1,g0,g1,g2,eq,w1,q]
  |some k=>
   rw[h] at eq;simp only[Gs] at eq;simp (disch:=omega) only[Ea,n1,g0,g1,g2,eq,JS]
theorem Aej {id:List Int}{l:List Cw}(hl:l.length<=1000)(hs:∀a∈l,a.cr.length<=1000)(B2:2000<=fu):Ag (CX xs) prog fu (d+3) Ru [.lst false 3 l.length (Az l),.lst false 1 id.length (Am .u8 id)]=some ⟨JS (Wp id 0 l),[]⟩:=by
 rw[AP];exact Aet (by omega) hs B2 l 0 fu rfl (by omega) (by omega)
def YP (l:List Cw)(nm:ByteArray)(id:List Int):List PV:=
 match X8 nm 0 l with
 |some i=>(match l[i]? with
  |some a=>(match KQ id 0 a.cr with|some k=>[.sc (.int .i64 (i:Int)),.sc (.int .i64 (k:Int)),.sc (.bool true)]|none=>[.sc (.int .i64 (i:Int)),.sc (.int .i64 0),.sc (.bool false)])
  |none=>[])
 |none=>[.sc (.int .i64 0),.sc (.int .i64 0),.sc (.bool false)]
theorem Aps {nm:ByteArray}{id:List Int}{l:List Cw}(hl:l.length<=1000)(hs:∀a∈l,a.cr.length<=1000)(B2:2000<=fu):Ag (CX xs) prog fu (d+3) Pw [.lst false 3 l.length (Az l),.sc (.string nm),.lst false 1 id.length (Am .u8 id)]=some ⟨YP l nm id,[]⟩:=by
 rw[Y2];have f:=Xf (xs:=xs) (fu:=fu) (d:=d+1) (l:=l) (nm:=nm) (by omega) (by omega)
 unfold YP;cases h:X8 nm 0 l with
 |none=>
  rw[h] at f;simp only[Gs] at f;simp (disch:=omega) only[Ea,f,O0]
 |some i=>
  rw[h] at f;obtain⟨_,h2,a,h3,_⟩:=Qj h;rw[Nat.sub_zero] at h3;have ha:=hs a (List.mem_of_getElem? h3);have g0:(Az l).getD (i*3) .top=.sc (.string a.nm):=Fd h3 (j:=0) (by omega)
  have g1:(Az l).getD (i*3+1) .top=.sc (.string a.us):=Fd h3 (j:=1) (by omega)
  have g2:(Az l).getD (i*3+1+1) .top=.lst false 11 a.cr.length (Cf a.cr):=Fd h3 (j:=2) (by omega)
  have n1:Int.toNat (i:Int)=i:=Rq _;have eq:=Adn (xs:=xs) (fu:=fu) (d:=d) (nm:=a.nm) (us:=a.us) (id:=id) (cr:=a.cr) (by omega) (by omega)
  simp only[Gs] at f;dsimp only;rw[h3];dsimp only;cases hp:KQ id 0 a.cr with
  |none=>
   rw[hp] at eq;simp only[Gs] at eq;simp (disch:=omega) only[Ea,f,n1,g0,g1,g2,eq,Rv]
  |some k=>
   rw[hp] at eq;simp only[Gs] at eq;simp (disch:=omega) only[Ea,f,n1,g0,g1,g2,eq,Rv]
end
end
section
open Go.Proofs.Try (prog)
open Go.IntKind (wrap)
set_option maxRecDepth 100000
abbrev L6:FuncId:=40
theorem Ud (fu d Ap:Nat)(a0:List PV)(a1:Int)(Py:Nat)(a2:List PV):Ag C0 prog fu (d+1) L6 [.lst false 3 Ap a0,.sc (.int .i64 a1),.lst false 11 Py a2]=(fun (call:Ai)=>An (decide (a0.length=Ap*3)&&decide (Ap*56<=1099511627776)&&decide (Ap<=1099511627776))<|An (decide (0<=a1)&&decide (a1<(↑Ap:Int)))<|An (decide (0+Int.toNat a1*3+2+1<=a0.length))<|Ab (Bl a0 [.lst false 11 Py a2] (0+Int.toNat a1*3+2)) fun x1=>An (decide (0+Ap*3<=x1.length))<|some (A2.mk [.lst false 3 Ap (List.take (Ap*3) (List.drop 0 x1))] [])) (Ag C0 prog fu d):=by kernel_rfl
abbrev Jy:FuncId:=20
theorem R1 (fu d Ap:Nat)(a0:List PV)(a1 a2:ByteArray)(Ss:Nat)(FX:List PV)(LR KN:Int)(JN KO:Int)(LW:Bool)(KL:Int)(Wf:Nat)(JY:List PV)(MC:Bool)(JM Wb:Int):Ag C0 prog fu (d+1) Jy [.lst false 3 Ap a0,.sc (.string a1),.sc (.string a2),.agg [.lst false 1 Ss FX,.sc (.int .i64 LR),.sc (.int .u64 KN),.sc (.int .u64 JN),.sc (.int .i64 KO),.sc (.bool LW),.sc (.int .u64 KL),.lst false 2 Wf JY,.sc (.bool MC),.sc (.int .i64 JM),.sc (.int .i64 Wb)]]=(fun (call:Ai)=>Af (call 22 [.lst false 3 Ap a0,.sc (.string a1)]) fun x1 x2=>Ac x2<|Aa x1 fun x3 x4=>Ae .i64 x3 fun x5=>Aa x4 fun x6 x7=>Av x6 fun x8=>Ac x7<|Af (call 24 [.lst false 3 Ap a0,.lst false 1 Ss FX]) fun x9 H5=>Ac H5<|Aa x9 fun Ib H6=>Ae .i64 Ib fun L9=>Aa H6 fun K7 K8=>Ae .i64 K7 fun Nl=>Aa K8 fun Pz M3=>Av Pz fun Hx=>Ac M3<|Af (call 41 [.sc (.int .i64 (↑(ByteArray.size a1):Int)),.sc (.int .i64 1),.sc (.int .i64 32)]) fun Mt Mm=>Ac Mm<|Aa Mt fun Qg Ro=>Av Qg fun P3=>Ac Ro<|Bd (!P3) (some (A2.mk [.lst false 3 0 [],.sc (.int .i64 9)] [])) (Bd ((↑Ss:Int) != 176) (some (A2.mk [.lst false 3 0 [],.sc (.int .i64 4)] [])) (Bd Hx (some (A2.mk [.lst false 3 0 [],.sc (.int .i64 10)] [])) (Bd x8 (An (decide (0<=x5)&&decide (x5<(↑Ap:Int)))<|Ca 11 (List.getD a0 (Int.toNat x5*3+2) .top) fun Y5 X7 Ub=>Bd (decide ((↑X7:Int)>=4)) (some (A2.mk [.lst false 3 0 [],.sc (.int .i64 12)] [])) (Bd (!x8) (Bd (decide ((↑Ap:Int)>=16)) (some (A2.mk [.lst false 3 0 [],.sc (.int .i64 12)] [])) (Bd x8 (An (decide (0<=x5)&&decide (x5<(↑Ap:Int)))<|Ca 11 (List.getD a0 (Int.toNat x5*3+2) .top) fun FC Ul O2=>An (decide (O2.length=Ul*11)&&decide (Ul*120<=1099511627776)&&decide (Ul<=1099511627776))<|An (decide (Ul*11<=O2.length)&&true&&decide ((Ul+1)*120<=1099511627776)&&decide (Ul+1<=1099511627776))<|Ab (Ul+1) fun Sq=>Ab (List.take (Ul*11) O2++[.lst false 1 Ss FX,.sc (.int .i64 LR),.sc (.int .u64 KN),.sc (.int .u64 JN),.sc (.int .i64 KO),.sc (.bool LW),.sc (.int .u64 KL),.lst false 2 Wf JY,.sc (.bool MC),.sc (.int .i64 JM),.sc (.int .i64 Wb)]) fun Zq=>An (decide (0+Sq*11<=Zq.length))<|Af (call 40 [.lst false 3 Ap a0,.sc (.int .i64 x5),.lst false 11 Sq (List.take (Sq*11) (List.drop 0 Zq))]) fun V2 X3=>Ac X3<|Aa V2 fun DR AJ=>Ca 3 DR fun Yt HE LY=>Ac AJ<|some (A2.mk [.lst false 3 HE LY,.sc (.int .i64 0)] [])) (An (decide (a0.length=Ap*3)&&decide (Ap*56<=1099511627776)&&decide (Ap<=1099511627776))<|An (decide (Ap*3<=a0.length)&&true&&decide ((Ap+1)*56<=1099511627776)&&decide (Ap+1<=1099511627776))<|Ab (Ap+1) fun BV=>Ab (List.take (Ap*3) a0++[.sc (.string a1),.sc (.string a2),.lst false 11 1 [.lst false 1 Ss FX,.sc (.int .i64 LR),.sc (.int .u64 KN),.sc (.int .u64 JN),.sc (.int .i64 KO),.sc (.bool LW),.sc (.int .u64 KL),.lst false 2 Wf JY,.sc (.bool MC),.sc (.int .i64 JM),.sc (.int .i64 Wb)]]) fun NB=>An (decide (0+BV*3<=NB.length))<|some (A2.mk [.lst false 3 BV (List.take (BV*3) (List.drop 0 NB)),.sc (.int .i64 0)] [])))) (Bd x8 (An (decide (0<=x5)&&decide (x5<(↑Ap:Int)))<|Ca 11 (List.getD a0 (Int.toNat x5*3+2) .top) fun PW BW Oz=>An (decide (Oz.length=BW*11)&&decide (BW*120<=1099511627776)&&decide (BW<=1099511627776))<|An (decide (BW*11<=Oz.length)&&true&&decide ((BW+1)*120<=1099511627776)&&decide (BW+1<=1099511627776))<|Ab (BW+1) fun MF=>Ab (List.take (BW*11) Oz++[.lst false 1 Ss FX,.sc (.int .i64 LR),.sc (.int .u64 KN),.sc (.int .u64 JN),.sc (.int .i64 KO),.sc (.bool LW),.sc (.int .u64 KL),.lst false 2 Wf JY,.sc (.bool MC),.sc (.int .i64 JM),.sc (.int .i64 Wb)]) fun NF=>An (decide (0+MF*11<=NF.length))<|Af (call 40 [.lst false 3 Ap a0,.sc (.int .i64 x5),.lst false 11 MF (List.take (MF*11) (List.drop 0 NF))]) fun PZ OG=>Ac OG<|Aa PZ fun RG EI=>Ca 3 RG fun RB RQ ND=>Ac EI<|some (A2.mk [.lst false 3 RQ ND,.sc (.int .i64 0)] [])) (An (decide (a0.length=Ap*3)&&decide (Ap*56<=1099511627776)&&decide (Ap<=1099511627776))<|An (decide (Ap*3<=a0.length)&&true&&decide ((Ap+1)*56<=1099511627776)&&decide (Ap+1<=1099511627776))<|Ab (Ap+1) fun X9=>Ab (List.take (Ap*3) a0++[.sc (.string a1),.sc (.string a2),.lst false 11 1 [.lst false 1 Ss FX,.sc (.int .i64 LR),.sc (.int .u64 KN),.sc (.int .u64 JN),.sc (.int .i64 KO),.sc (.bool LW),.sc (.int .u64 KL),.lst false 2 Wf JY,.sc (.bool MC),.sc (.int .i64 JM),.sc (.int .i64 Wb)]]) fun FV=>An (decide (0+X9*3<=FV.length))<|some (A2.mk [.lst false 3 X9 (List.take (X9*3) (List.drop 0 FV)),.sc (.int .i64 0)] []))))) (Bd (!x8) (Bd (decide ((↑Ap:Int)>=16)) (some (A2.mk [.lst false 3 0 [],.sc (.int .i64 12)] [])) (Bd x8 (An (decide (0<=x5)&&decide (x5<(↑Ap:Int)))<|Ca 11 (List.getD a0 (Int.toNat x5*3+2) .top) fun RV BN GT=>An (decide (GT.length=BN*11)&&decide (BN*120<=1099511627776)&&decide (BN<=1099511627776))<|An (decide (BN*11<=GT.length)&&true&&decide ((BN+1)*120<=1099511627776)&&decide (BN+1<=1099511627776))<|Ab (BN+1) fun MA=>Ab (List.take (BN*11) GT++[.lst false 1 Ss FX,.sc (.int .i64 LR),.sc (.int .u64 KN),.sc (.int .u64 JN),.sc (.int .i64 KO),.sc (.bool LW),.sc (.int .u64 KL),.lst false 2 Wf JY,.sc (.bool MC),.sc (.int .i64 JM),.sc (.int .i64 Wb)]) fun NA=>An (decide (0+MA*11<=NA.length))<|Af (call 40 [.lst false 3 Ap a0,.sc (.int .i64 x5),.lst false 11 MA (List.take (MA*11) (List.drop 0 NA))]) fun GJ HL=>Ac HL<|Aa GJ fun WY ID=>Ca 3 WY fun TN UD WO=>Ac ID<|some (A2.mk [.lst false 3 UD WO,.sc (.int .i64 0)] [])) (An (decide (a0.length=Ap*3)&&decide (Ap*56<=1099511627776)&&decide (Ap<=1099511627776))<|An (decide (Ap*3<=a0.length)&&true&&decide ((Ap+1)*56<=1099511627776)&&decide (Ap+1<=1099511627776))<|Ab (Ap+1) fun Zw=>Ab (List.take (Ap*3) a0++[.sc (.string a1),.sc (.string a2),.lst false 11 1 [.lst false 1 Ss FX,.sc (.int .i64 LR),.sc (.int .u64 KN),.sc (.int .u64 JN),.sc (.int .i64 KO),.sc (.bool LW),.sc (.int .u64 KL),.lst false 2 Wf JY,.sc (.bool MC),.sc (.int .i64 JM),.sc (.int .i64 Wb)]]) fun FD=>An (decide (0+Zw*3<=FD.length))<|some (A2.mk [.lst false 3 Zw (List.take (Zw*3) (List.drop 0 FD)),.sc (.int .i64 0)] [])))) (Bd x8 (An (decide (0<=x5)&&decide (x5<(↑Ap:Int)))<|Ca 11 (List.getD a0 (Int.toNat x5*3+2) .top) fun x70 HT To=>An (decide (To.length=HT*11)&&decide (HT*120<=1099511627776)&&decide (HT<=1099511627776))<|An (decide (HT*11<=To.length)&&true&&decide ((HT+1)*120<=1099511627776)&&decide (HT+1<=1099511627776))<|Ab (HT+1) fun VJ=>Ab (List.take (HT*11) To++[.lst false 1 Ss FX,.sc (.int .i64 LR),.sc (.int .u64 KN),.sc (.int .u64 JN),.sc (.int .i64 KO),.sc (.bool LW),.sc (.int .u64 KL),.lst false 2 Wf JY,.sc (.bool MC),.sc (.int .i64 JM),.sc (.int .i64 Wb)]) fun NY=>An (decide (0+VJ*11<=NY.length))<|Af (call 40 [.lst false 3 Ap a0,.sc (.int .i64 x5),.lst false 11 VJ (List.take (VJ*11) (List.drop 0 NY))]) fun Td x76=>Ac x76<|Aa Td fun x77 U7=>Ca 3 x77 fun x79 x80 X5=>Ac U7<|some (A2.mk [.lst false 3 x80 X5,.sc (.int .i64 0)] [])) (An (decide (a0.length=Ap*3)&&decide (Ap*56<=1099511627776)&&decide (Ap<=1099511627776))<|An (decide (Ap*3<=a0.length)&&true&&decide ((Ap+1)*56<=1099511627776)&&decide (Ap+1<=1099511627776))<|Ab (Ap+1) fun x82=>Ab (List.take (Ap*3) a0++[.sc (.string a1),.sc (.string a2),.lst false 11 1 [.lst false 1 Ss FX,.sc (.int .i64 LR),.sc (.int .u64 KN),.sc (.int .u64 JN),.sc (.int .i64 KO),.sc (.bool LW),.sc (.int .u64 KL),.lst false 2 Wf JY,.sc (.bool MC),.sc (.int .i64 JM),.sc (.int .i64 Wb)]]) fun x83=>An (decide (0+x82*3<=x83.length))<|some (A2.mk [.lst false 3 x82 (List.take (x82*3) (List.drop 0 x83)),.sc (.int .i64 0)] [])))))))) (Ag C0 prog fu d):=by kernel_rfl
abbrev Ji:FuncId:=19
theorem Rk (fu d Ap:Nat)(a0:List PV)(a1:ByteArray)(Aer:Nat)(Apa:List PV)(Ato Aru:Int)(Axo Axl:Int)(Axr:Bool)(Azw:Int)(Al6:Nat)(A00:List PV)(Avb:Bool)(Avp Alw:Int):Ag C0 prog fu (d+1) Ji [.lst false 3 Ap a0,.sc (.string a1),.agg [.lst false 1 Aer Apa,.sc (.int .i64 Ato),.sc (.int .u64 Aru),.sc (.int .u64 Axo),.sc (.int .i64 Axl),.sc (.bool Axr),.sc (.int .u64 Azw),.lst false 2 Al6 A00,.sc (.bool Avb),.sc (.int .i64 Avp),.sc (.int .i64 Alw)]]=(fun (call:Ai)=>Af (call 22 [.lst false 3 Ap a0,.sc (.string a1)]) fun x1 x2=>Ac x2<|Aa x1 fun x3 x4=>Ae .i64 x3 fun x5=>Aa x4 fun x6 x7=>Av x6 fun x8=>Ac x7<|Bd (!x8) (some (A2.mk [.lst false 3 0 [],.sc (.int .i64 11)] [])) (An (decide (0<=x5)&&decide (x5<(↑Ap:Int)))<|Ca 11 (List.getD a0 (Int.toNat x5*3+2) .top) fun x9 H5 Ib=>Af (call 39 [.lst false 11 H5 Ib,.lst false 1 Aer Apa]) fun H6 L9=>Ac L9<|Aa H6 fun K7 K8=>Ae .i64 K7 fun Nl=>Aa K8 fun Pz M3=>Av Pz fun Hx=>Ac M3<|Bd (!Hx) (some (A2.mk [.lst false 3 0 [],.sc (.int .i64 11)] [])) (An (decide (0<=x5)&&decide (x5<(↑Ap:Int)))<|Ca 11 (List.getD a0 (Int.toNat x5*3+2) .top) fun Mt Mm Qg=>An (decide (Qg.length=Mm*11)&&decide (Mm*120<=1099511627776)&&decide (Mm<=1099511627776))<|An (decide (0<=Nl)&&decide (Nl<(↑Mm:Int)))<|An (decide (0+Int.toNat Nl*11+11<=Qg.length))<|Ab (Bl Qg [.lst false 1 Aer Apa,.sc (.int .i64 Ato),.sc (.int .u64 Aru),.sc (.int .u64 Axo),.sc (.int .i64 Axl),.sc (.bool Axr),.sc (.int .u64 Azw),.lst false 2 Al6 A00,.sc (.bool Avb),.sc (.int .i64 Avp),.sc (.int .i64 Alw)] (0+Int.toNat Nl*11)) fun Ro=>An (decide (0+Mm*11<=Ro.length))<|Af (call 40 [.lst false 3 Ap a0,.sc (.int .i64 x5),.lst false 11 Mm (List.take (Mm*11) (List.drop 0 Ro))]) fun P3 Y5=>Ac Y5<|Aa P3 fun X7 Ub=>Ca 3 X7 fun FC Ul O2=>Ac Ub<|some (A2.mk [.lst false 3 Ul O2,.sc (.int .i64 0)] [])))) (Ag C0 prog fu d):=by kernel_rfl
abbrev J7:FuncId:=17
theorem R3 (fu d Ap:Nat)(a0:List PV)(a1:ByteArray)(Py:Nat)(a2:List PV):Ag C0 prog fu (d+1) J7 [.lst false 3 Ap a0,.sc (.string a1),.lst false 1 Py a2]=(fun (call:Ai)=>Af (call 22 [.lst false 3 Ap a0,.sc (.string a1)]) fun x1 x2=>Ac x2<|Aa x1 fun x3 x4=>Ae .i64 x3 fun x5=>Aa x4 fun x6 x7=>Av x6 fun x8=>Ac x7<|Bd (!x8) (some (A2.mk [.lst false 3 0 [],.sc (.int .i64 11)] [])) (An (decide (0<=x5)&&decide (x5<(↑Ap:Int)))<|Ca 11 (List.getD a0 (Int.toNat x5*3+2) .top) fun x9 H5 Ib=>Af (call 39 [.lst false 11 H5 Ib,.lst false 1 Py a2]) fun H6 L9=>Ac L9<|Aa H6 fun K7 K8=>Ae .i64 K7 fun Nl=>Aa K8 fun Pz M3=>Av Pz fun Hx=>Ac M3<|Bd (!Hx) (some (A2.mk [.lst false 3 0 [],.sc (.int .i64 11)] [])) (An (decide (0<=Nl))<|An (decide (Int.toNat Nl<=H5))<|Ab (Int.toNat Nl-0) fun Mt=>Ab (List.take (Mt*11) (List.drop 0 Ib)) fun Mm=>An (decide (Mm.length=Mt*11)&&decide (Mt*120<=1099511627776)&&decide (Mt<=1099511627776))<|Ab (wrap .i64 (Nl+1)) fun Qg=>An (decide (0<=Qg))<|An (decide (Int.toNat Qg<=H5)&&decide (H5<=H5))<|Ab (H5-Int.toNat Qg) fun Ro=>Ab (List.take (Ro*11) (List.drop (Int.toNat Qg*11) Ib)) fun P3=>An (decide (Mt*11<=Mm.length)&&decide (P3.length=Ro*11)&&decide ((Mt+Ro)*120<=1099511627776)&&decide (Mt+Ro<=1099511627776))<|Ab (Mt+Ro) fun Y5=>Ab (List.take (Mt*11) Mm++P3) fun X7=>An (decide (0+Y5*11<=X7.length))<|Af (call 40 [.lst false 3 Ap a0,.sc (.int .i64 x5),.lst false 11 Y5 (List.take (Y5*11) (List.drop 0 X7))]) fun Ub FC=>Ac FC<|Aa Ub fun Ul O2=>Ca 3 Ul fun Sq Zq V2=>Ac O2<|some (A2.mk [.lst false 3 Zq V2,.sc (.int .i64 0)] [])))) (Ag C0 prog fu d):=by kernel_rfl
abbrev Gv:FuncId:=42
noncomputable def Df (fu:Nat)(call:Ai)(Di De:ByteArray)(I7:Nat)(D9:List PV)(Yy AZ:ByteArray)(Xw:Nat)(EY:List PV)(nn:Nat)(y0:Int)(y1 y2:ByteArray)(y3:Nat)(y4:List PV)(y5 y6:ByteArray)(y7:Nat)(y8:List PV):Option A2:=Ct CB prog fu call 42 Try.f42 (Bz Try.f42) [.agg [.sc (.string Di),.sc (.string De),.lst false 11 I7 D9],.agg [.sc (.string Yy),.sc (.string AZ),.lst false 11 Xw EY]] [.r,.r,.l,.r,.l] nn ⟨lk [(2,(.ptr 2 0)),(3,(.ptr 3 0)),(5,(.sc (.int .i64 y0)))],Fx [(2,(.st [(.sc (.string y1)),(.sc (.string y2)),(.lst false 11 y3 y4)])),(3,(.st [(.sc (.string y5)),(.sc (.string y6)),(.lst false 11 y7 y8)]))]⟩
theorem Fv (fu:Nat)(call:Ai)(Di De:ByteArray)(I7:Nat)(D9:List PV)(Yy AZ:ByteArray)(Xw:Nat)(EY:List PV)(nn:Nat)(y0:Int)(y1 y2:ByteArray)(y3:Nat)(y4:List PV)(y5 y6:ByteArray)(y7:Nat)(y8:List PV):Df fu call Di De I7 D9 Yy AZ Xw EY (nn+1) y0 y1 y2 y3 y4 y5 y6 y7 y8=(Bd (decide (y0<(↑y3:Int))) (An (decide (0<=y0)&&decide (y0<(↑y3:Int)))<|Ca 1 (List.getD y4 (Int.toNat y0*11) .top) fun x1 x2 x3=>Ae .i64 (List.getD y4 (Int.toNat y0*11+1) .top) fun x4=>Ae .u64 (List.getD y4 (Int.toNat y0*11+1+1) .top) fun x5=>Ae .u64 (List.getD y4 (Int.toNat y0*11+1+1+1) .top) fun x6=>Ae .i64 (List.getD y4 (Int.toNat y0*11+1+1+1+1) .top) fun x7=>Av (List.getD y4 (Int.toNat y0*11+1+1+1+1+1) .top) fun x8=>Ae .u64 (List.getD y4 (Int.toNat y0*11+1+1+1+1+1+1) .top) fun x9=>Ca 2 (List.getD y4 (Int.toNat y0*11+1+1+1+1+1+1+1) .top) fun H5 Ib H6=>Av (List.getD y4 (Int.toNat y0*11+1+1+1+1+1+1+1+1) .top) fun L9=>Ae .i64 (List.getD y4 (Int.toNat y0*11+1+1+1+1+1+1+1+1+1) .top) fun K7=>Ae .i64 (List.getD y4 (Int.toNat y0*11+1+1+1+1+1+1+1+1+1+1) .top) fun K8=>An (decide (0<=y0)&&decide (y0<(↑y7:Int)))<|Ca 1 (List.getD y8 (Int.toNat y0*11) .top) fun Nl Pz M3=>Ae .i64 (List.getD y8 (Int.toNat y0*11+1) .top) fun Hx=>Ae .u64 (List.getD y8 (Int.toNat y0*11+1+1) .top) fun Mt=>Ae .u64 (List.getD y8 (Int.toNat y0*11+1+1+1) .top) fun Mm=>Ae .i64 (List.getD y8 (Int.toNat y0*11+1+1+1+1) .top) fun Qg=>Av (List.getD y8 (Int.toNat y0*11+1+1+1+1+1) .top) fun Ro=>Ae .u64 (List.getD y8 (Int.toNat y0*11+1+1+1+1+1+1) .top) fun P3=>Ca 2 (List.getD y8 (Int.toNat y0*11+1+1+1+1+1+1+1) .top) fun Y5 X7 Ub=>Av (List.getD y8 (Int.toNat y0*11+1+1+1+1+1+1+1+1) .top) fun FC=>Ae .i64 (List.getD y8 (Int.toNat y0*11+1+1+1+1+1+1+1+1+1) .top) fun Ul=>Ae .i64 (List.getD y8 (Int.toNat y0*11+1+1+1+1+1+1+1+1+1+1) .top) fun O2=>Af (call 54 [.agg [.lst false 1 x2 x3,.sc (.int .i64 x4),.sc (.int .u64 x5),.sc (.int .u64 x6),.sc (.int .i64 x7),.sc (.bool x8),.sc (.int .u64 x9),.lst false 2 Ib H6,.sc (.bool L9),.sc (.int .i64 K7),.sc (.int .i64 K8)],.agg [.lst false 1 Pz M3,.sc (.int .i64 Hx),.sc (.int .u64 Mt),.sc (.int .u64 Mm),.sc (.int .i64 Qg),.sc (.bool Ro),.sc (.int .u64 P3),.lst false 2 X7 Ub,.sc (.bool FC),.sc (.int .i64 Ul),.sc (.int .i64 O2)]]) fun Sq Zq=>Ac Zq<|Aa Sq fun V2 X3=>Av V2 fun DR=>Ac X3<|Bd (!DR) (some (A2.mk [.sc (.bool false)] [])) (Ab (wrap .i64 (y0+1)) fun AJ=>Df fu call Di De I7 D9 Yy AZ Xw EY (nn) AJ (y1) (y2) (y3) (y4) (y5) (y6) (y7) (y8))) (some (A2.mk [.sc (.bool true)] []))):=by kernel_rfl
theorem Na (fu d:Nat)(Di De:ByteArray)(I7:Nat)(D9:List PV)(Yy AZ:ByteArray)(Xw:Nat)(EY:List PV):Ag C0 prog fu (d+1) Gv [.agg [.sc (.string Di),.sc (.string De),.lst false 11 I7 D9],.agg [.sc (.string Yy),.sc (.string AZ),.lst false 11 Xw EY]]=(fun (call:Ai)=>Bd (!Array.toList (ByteArray.data Di)==Array.toList (ByteArray.data Yy)) (some (A2.mk [.sc (.bool false)] [])) (Bd (!Array.toList (ByteArray.data De)==Array.toList (ByteArray.data AZ)) (some (A2.mk [.sc (.bool false)] [])) (Bd ((↑I7:Int) != (↑Xw:Int)) (some (A2.mk [.sc (.bool false)] [])) (Df fu call Di De I7 D9 Yy AZ Xw EY (fu) 0 (Di) (De) (I7) (D9) (Yy) (AZ) (Xw) (EY))))) (Ag C0 prog fu d):=by kernel_rfl
abbrev Gk:FuncId:=21
noncomputable def C7 (fu:Nat)(call:Ai)(Ap:Nat)(a0:List PV)(Hi:Nat)(a1:List PV)(nn y0:Nat)(y1:List PV)(y2:Nat)(y3:List PV)(y4:Int):Option A2:=Ct CB prog fu call 21 Try.f21 (Bz Try.f21) [.lst false 3 Ap a0,.lst false 3 Hi a1] [.r,.r,.l,.r,.l] nn ⟨lk [(0,(.lst false 3 y0 y1)),(1,(.lst false 3 y2 y3)),(5,(.sc (.int .i64 y4)))],Fx []⟩
theorem Fl (fu:Nat)(call:Ai)(Ap:Nat)(a0:List PV)(Hi:Nat)(a1:List PV)(nn y0:Nat)(y1:List PV)(y2:Nat)(y3:List PV)(y4:Int):C7 fu call Ap a0 Hi a1 (nn+1) y0 y1 y2 y3 y4=(Bd (decide (y4<(↑y0:Int))) (An (decide (0<=y4)&&decide (y4<(↑y0:Int)))<|E2 (List.getD y1 (Int.toNat y4*3) .top) fun x1=>E2 (List.getD y1 (Int.toNat y4*3+1) .top) fun x2=>Ca 11 (List.getD y1 (Int.toNat y4*3+1+1) .top) fun x3 x4 x5=>An (decide (0<=y4)&&decide (y4<(↑y2:Int)))<|E2 (List.getD y3 (Int.toNat y4*3) .top) fun x6=>E2 (List.getD y3 (Int.toNat y4*3+1) .top) fun x7=>Ca 11 (List.getD y3 (Int.toNat y4*3+1+1) .top) fun x8 x9 H5=>Af (call 42 [.agg [.sc (.string x1),.sc (.string x2),.lst false 11 x4 x5],.agg [.sc (.string x6),.sc (.string x7),.lst false 11 x9 H5]]) fun Ib H6=>Ac H6<|Aa Ib fun L9 K7=>Av L9 fun K8=>Ac K7<|Bd (!K8) (some (A2.mk [.sc (.bool false)] [])) (Ab (wrap .i64 (y4+1)) fun Nl=>C7 fu call Ap a0 Hi a1 (nn) (y0) (y1) (y2) (y3) Nl)) (some (A2.mk [.sc (.bool true)] []))):=by kernel_rfl
theorem Mn (fu d Ap:Nat)(a0:List PV)(Hi:Nat)(a1:List PV):Ag C0 prog fu (d+1) Gk [.lst false 3 Ap a0,.lst false 3 Hi a1]=(fun (call:Ai)=>Bd ((↑Ap:Int) != (↑Hi:Int)) (some (A2.mk [.sc (.bool false)] [])) (C7 fu call Ap a0 Hi a1 (fu) (Ap) (a0) (Hi) (a1) 0)) (Ag C0 prog fu d):=by kernel_rfl
end
section
open Go.Proofs.Try (prog)
open Go.IntKind (wrap)
set_option maxRecDepth 100000
theorem Sd.ok.sm {c:Sd}(h:c.ok):c.sm:=⟨h.idL,h.rgn⟩
theorem Cw.ok.sm {a:Cw}(h:a.ok):a.sm:=⟨h.cn,fun c hc=>(h.cs c hc).sm⟩
section
variable {fu d:Nat}
theorem Aam {n0 n1:Nat}{c0 c1:List PV}{call:Ai}{id:List Int}{cr:List Sd}(hl:cr.length<=100000):∀(r:List Sd)(i nn:Nat),cr.drop i=r->r.length<nn->i<=cr.length ->
  Fa fu call n0 c0 n1 c1 nn cr.length (Cf cr) id.length (Am .u8 id) (i:Int)=some ⟨Gs (KQ id i r),[]⟩:=by
 intro r
 induction r with
 |nil=>
  intro i nn hd Dy hi;have:=drop_nil hd;obtain⟨nn,rfl⟩:∃k,nn=k+1:=⟨nn-1,by omega⟩
  rw[Jk];simp (disch:=omega) only[Ea];rfl
 |cons x r ih=>
  intro i nn hd Dy hi;obtain⟨Bp,Br,hd'⟩:=C3 hd;obtain⟨nn,rfl⟩:∃k,nn=k+1:=⟨nn-1,by omega⟩
  rw[Jk];have g0:(Cf cr).getD (i*11+0) .top=.lst false 1 x.id.length (Am .u8 x.id):=Cy Br (j:=0) (by omega)
  have n1:Int.toNat (i:Int)=i:=Rq _;have w1:wrap .i64 ((i:Int)+1)=((i+1:Nat):Int):=by rw[wrap_i64 (by omega) (by omega)];omega
  have l1:=A0 .u8 x.id;have l2:=A0 .u8 id;have b1:=El x.id;have b2:=El id;have eB:(Array.toList (ByteArray.data (ByteArray.mk (List.toArray (x.id.map fun n:Int=>n.toNat.toUInt8))))==Array.toList (ByteArray.data (ByteArray.mk (List.toArray (id.map fun n:Int=>n.toNat.toUInt8)))))=PY x.id id:=rfl
  unfold KQ;cases h:PY x.id id
  ·rw[Mr (by simp)]
   rw[h] at eB;have q:=ih (i+1) nn hd' (by simp at Dy;omega) (by omega)
   simp (disch:=omega) only[Ea,n1,g0,l1,l2,b1,b2,eB,w1,q]
  ·rw[J8 rfl];rw[h] at eB;simp (disch:=omega) only[Ea,n1,g0,l1,l2,b1,b2,eB,Gs]
theorem JQ {id:List Int}{cr:List Sd}(hl:cr.length<=100000)(B2:cr.length<fu):
  Ag C0 prog fu (d+1) Lu [.lst false 11 cr.length (Cf cr),.lst false 1 id.length (Am .u8 id)]=some ⟨Gs (KQ id 0 cr),[]⟩:=by
 rw[Uk];exact Aam hl cr 0 fu rfl B2 (by omega)
theorem ZZ {n0 n1:Nat}{c0 c1:List PV}{id:List Int}{l:List Cw}(hl:l.length<=100000)(hs:∀a∈l,a.cr.length<=1000)(B2:2000<=fu):∀(r:List Cw)(i nn:Nat),l.drop i=r->r.length<nn->i<=l.length ->
  Ev fu (Ag C0 prog fu (d+1)) n0 c0 n1 c1 nn l.length (Az l) id.length (Am .u8 id) (i:Int)=some ⟨JS (Wp id i r),[]⟩:=by
 intro r
 induction r with
 |nil=>
  intro i nn hd Dy hi;have:=drop_nil hd;obtain⟨nn,rfl⟩:∃k,nn=k+1:=⟨nn-1,by omega⟩
  rw[It];simp (disch:=omega) only[Ea];rfl
 |cons a r ih=>
  intro i nn hd Dy hi;obtain⟨Bp,Br,hd'⟩:=C3 hd;obtain⟨nn,rfl⟩:∃k,nn=k+1:=⟨nn-1,by omega⟩
  rw[It];have g2:(Az l).getD (i*3+2) .top=.lst false 11 a.cr.length (Cf a.cr):=Fd Br (j:=2) (by omega)
  have n1:Int.toNat (i:Int)=i:=Rq _;have w1:wrap .i64 ((i:Int)+1)=((i+1:Nat):Int):=by rw[wrap_i64 (by omega) (by omega)];omega
  have ha:=hs a (List.mem_of_getElem? Br);have eq:=JQ (fu:=fu) (d:=d) (id:=id) (cr:=a.cr) (by omega) (by omega)
  unfold Wp;cases h:KQ id 0 a.cr with
  |none=>
   rw[h] at eq;simp only[Gs] at eq;have q:=ih (i+1) nn hd' (by simp at Dy;omega) (by omega)
   simp (disch:=omega) only[Ea,n1,g2,eq,w1,q]
  |some k=>
   rw[h] at eq;simp only[Gs] at eq;simp (disch:=omega) only[Ea,n1,g2,eq,JS]
theorem XA {id:List Int}{l:List Cw}(hl:l.length<=1000)(hs:∀a∈l,a.cr.length<=1000)(B2:2000<=fu):Ag C0 prog fu (d+2) Lk [.lst false 3 l.length (Az l),.lst false 1 id.length (Am .u8 id)]=some ⟨JS (Wp id 0 l),[]⟩:=by
 rw[Tc];exact ZZ (by omega) hs B2 l 0 fu rfl (by omega) (by omega)
theorem KM {l:List Cw}{i:Nat}{a:Cw}{cr:List Sd}(hl:l.length<=1000)(hi:l[i]?=some a):Ag C0 prog fu (d+1) L6 [.lst false 3 l.length (Az l),.sc (.int .i64 i),.lst false 11 cr.length (Cf cr)]=some ⟨[.lst false 3 l.length (Az (l.set i { a with cr:=cr }))],[]⟩:=by
 have Bp:=H9 hi;have L:=Ky l;have L2:=Ky (l.set i { a with cr:=cr });rw[List.length_set] at L2;have n1:Int.toNat (i:Int)=i:=Rq _
 have s:Bl (Az l) [PV.lst false 11 cr.length (Cf cr)] (0+i*3+2)=Az (l.set i { a with cr:=cr }):=by
  rw[Cn,Vo (by omega)]
  exact LC (f:=Cw.cells) (k:=3) (fun _=>rfl) (p:=.lst false 11 cr.length (Cf cr)) (j:=2) (by omega) (x:=a) (y:={ a with cr:=cr }) hi rfl
 have t:List.take (l.length*3) (Az (l.set i { a with cr:=cr }))=Az (l.set i { a with cr:=cr }):=G9 (by omega)
 have c1:(decide (List.length (Az l)=l.length*3)&&decide (l.length*56<=1099511627776)&&decide (l.length<=1099511627776))=true:=by simp[L];omega
 rw[Ud];simp (disch:=omega) only[Ea,c1,n1,s,L2,t,Cm]
theorem Aj1 {l:List Cw}{nm us:ByteArray}{x:Sd}(hl:l.length<=1000)(hs:∀a∈l,a.cr.length<=1000)(B2:2000<=fu):
  Ag C0 prog fu (d+3) Jy [.lst false 3 l.length (Az l),.sc (.string nm),.sc (.string us),.agg x.cells]=some (P8 (AH l nm us x)):=by
 refine (R1 fu (d+2) l.length (Az l) nm us x.id.length (Am .u8 x.id) x.ht x.root x.model x.fmt x.sh x.used x.rg.length (H7 x.rg) x.sus x.since x.last).trans ?_;have f:=So (fu:=fu) (d:=d+1) (l:=l) (nm:=nm) (by omega) (by omega)
 have o:=XA (fu:=fu) (d:=d) (id:=x.id) hl hs B2;have wi:=TS (fu:=fu) (d:=d+1) (nm.size:Int) 1 32;have L:=Ky l;have L1:=A0 .u8 x.id;unfold AH;simp only[Gs,JS] at f o;by_cases c1:nm.size<1∨32<nm.size
 ·have e:(decide ((1:Int)<=nm.size)&&decide ((nm.size:Int)<=32))=false:=by simp;omega
  rw[e] at wi;rw[J8 c1];cases h1:X8 nm 0 l<;>rw[h1] at f<;>cases h2:Wp x.id 0 l<;>rw[h2] at o<;>simp only at f o
  all_goals
   try unfold Ab
   repeat first
    |((with_reducible first|apply A5|apply Aw|apply A9|apply Ay|apply Bh|apply B5|apply D1|apply Ax|apply A6|apply A8);· first|with_reducible rfl|(simp (disch:=omega) only[gT,f,o,wi,O0]<;>first|with_reducible rfl|omega)|omega)
    |(with_reducible apply A7;· first|with_reducible rfl|(simp (disch:=omega) only[gF,f,o,wi,O0]<;>omega))
   try simp (disch:=omega) only[f,o,wi,O0]
   rfl
 have e:(decide ((1:Int)<=nm.size)&&decide ((nm.size:Int)<=32))=true:=by simp;omega
 rw[e] at wi;rw[Mr c1];by_cases c2:x.id.length≠176
 ·have e2:((x.id.length:Int) != 176)=true:=by simp;omega
  rw[J8 c2];cases h1:X8 nm 0 l<;>rw[h1] at f<;>cases h2:Wp x.id 0 l<;>rw[h2] at o<;>simp only at f o
  all_goals
   try unfold Ab
   repeat first
    |((with_reducible first|apply A5|apply Aw|apply A9|apply Ay|apply Bh|apply B5|apply D1|apply Ax|apply A6|apply A8);· first|with_reducible rfl|(simp (disch:=omega) only[gT,f,o,wi,Rv,e2]<;>first|with_reducible rfl|omega)|omega)
    |(with_reducible apply A7;· first|with_reducible rfl|(simp (disch:=omega) only[gF,f,o,wi,Rv,e2]<;>omega))
   try simp (disch:=omega) only[f,o,wi,Rv,e2]
   rfl
 have e2:((x.id.length:Int) != 176)=false:=by simp;omega
 rw[Mr c2];cases h2:Wp x.id 0 l with
 |some z=>
  rw[h2] at o;obtain⟨z1,z2⟩:=z;rw[J8 (show (some (z1,z2)).isSome=true from rfl)]
  cases h1:X8 nm 0 l<;>rw[h1] at f<;>simp only at f o
  all_goals
   try unfold Ab
   repeat first
    |((with_reducible first|apply A5|apply Aw|apply A9|apply Ay|apply Bh|apply B5|apply D1|apply Ax|apply A6|apply A8);· first|with_reducible rfl|(simp (disch:=omega) only[gT,f,o,wi,Rv,e2]<;>first|with_reducible rfl|omega)|omega)
    |(with_reducible apply A7;· first|with_reducible rfl|(simp (disch:=omega) only[gF,f,o,wi,Rv,e2]<;>omega))
   try simp (disch:=omega) only[f,o,wi,Rv,e2]
   rfl
 |none=>
  rw[h2] at o;rw[Mr (show ¬(none:Option (Nat × Nat)).isSome=true by simp)]
  cases h1:X8 nm 0 l with
  |none=>
   rw[h1] at f;simp only at f o;dsimp only;by_cases c3:16<=l.length
   ·rw[J8 c3]
    try unfold Ab
    repeat first
     |((with_reducible first|apply A5|apply Aw|apply A9|apply Ay|apply Bh|apply B5|apply D1|apply Ax|apply A6|apply A8);· first|with_reducible rfl|(simp (disch:=omega) only[gT,f,o,wi,Rv,O0,e2]<;>first|with_reducible rfl|omega)|omega)
     |(with_reducible apply A7;· first|with_reducible rfl|(simp (disch:=omega) only[gF,f,o,wi,Rv,O0,e2]<;>omega))
    try simp (disch:=omega) only[f,o,wi,Rv,O0,e2]
    rfl
   ·rw[Mr c3];have hc:(decide (List.length (Az l)=l.length*3)&&decide (l.length*56<=1099511627776)&&decide (l.length<=1099511627776))=true:=by simp[L];omega
    have t:=G9 (l:=Az l) (i:=l.length*3) (by omega)
    have ea:Az l++[PV.sc (.string nm),PV.sc (.string us),PV.lst false 11 1 [PV.lst false 1 x.id.length (Am .u8 x.id),.sc (.int .i64 x.ht),.sc (.int .u64 x.root),.sc (.int .u64 x.model),.sc (.int .i64 x.fmt),.sc (.bool x.sh),.sc (.int .u64 x.used),PV.lst false 2 x.rg.length (H7 x.rg),.sc (.bool x.sus),.sc (.int .i64 x.since),.sc (.int .i64 x.last)]]=Az (l++[⟨nm,us,[x]⟩]):=by
     unfold Az;rw[List.flatMap_append];simp[Cw.cells,Cf,Sd.cells]
    have L2:=Ky (l++[⟨nm,us,[x]⟩]);have l1:(l++[(⟨nm,us,[x]⟩:Cw)]).length=l.length+1:=by simp
    rw[l1] at L2;have t2:=G9 (l:=Az (l++[⟨nm,us,[x]⟩])) (i:=(l.length+1)*3) (by omega)
    try unfold Ab
    repeat first
     |((with_reducible first|apply A5|apply Aw|apply A9|apply Ay|apply Bh|apply B5|apply D1|apply Ax|apply A6|apply A8);· first|with_reducible rfl|(simp (disch:=omega) only[gT,f,o,wi,Rv,O0,e2,hc,t,ea,L2,t2,Cm]<;>first|with_reducible rfl|omega)|omega)
     |(with_reducible apply A7;· first|with_reducible rfl|(simp (disch:=omega) only[gF,f,o,wi,Rv,O0,e2,hc,t,ea,L2,t2,Cm]<;>omega))
    try simp (disch:=omega) only[f,o,wi,Rv,O0,e2,hc,t,ea,L2,t2,Cm]
    unfold P8;rw[l1]
  |some i=>
   rw[h1] at f;obtain⟨_,RP,a,h3,_⟩:=Qj h1;rw[Nat.sub_zero] at h3;have hi:=H9 h3;have ha:=hs a (List.mem_of_getElem? h3);have g2:(Az l).getD (i*3+2) .top=.lst false 11 a.cr.length (Cf a.cr):=Fd h3 (j:=2) (by omega)
   have n1:Int.toNat (i:Int)=i:=Rq _;simp only at f o;dsimp only;rw[h3];dsimp only;by_cases c3:4<=a.cr.length
   ·rw[J8 c3]
    try unfold Ab
    repeat first
     |((with_reducible first|apply A5|apply Aw|apply A9|apply Ay|apply Bh|apply B5|apply D1|apply Ax|apply A6|apply A8);· first|with_reducible rfl|(simp (disch:=omega) only[gT,f,o,wi,Rv,O0,e2,n1,g2]<;>first|with_reducible rfl|omega)|omega)
     |(with_reducible apply A7;· first|with_reducible rfl|(simp (disch:=omega) only[gF,f,o,wi,Rv,O0,e2,n1,g2]<;>omega))
    try simp (disch:=omega) only[f,o,wi,Rv,O0,e2,n1,g2]
    rfl
   ·rw[Mr c3];have L3:=G7 a.cr;have hc:(decide (List.length (Cf a.cr)=a.cr.length*11)&&decide (a.cr.length*120<=1099511627776)&&decide (a.cr.length<=1099511627776))=true:=by simp[L3];omega
    have t:=G9 (l:=Cf a.cr) (i:=a.cr.length*11) (by omega)
    have ea:Cf a.cr++[PV.lst false 1 x.id.length (Am .u8 x.id),.sc (.int .i64 x.ht),.sc (.int .u64 x.root),.sc (.int .u64 x.model),.sc (.int .i64 x.fmt),.sc (.bool x.sh),.sc (.int .u64 x.used),PV.lst false 2 x.rg.length (H7 x.rg),.sc (.bool x.sus),.sc (.int .i64 x.since),.sc (.int .i64 x.last)]=Cf (a.cr++[x]):=by
     unfold Cf;rw[List.flatMap_append];simp[Sd.cells]
    have L2:=G7 (a.cr++[x]);have l1:(a.cr++[x]).length=a.cr.length+1:=by simp
    rw[l1] at L2;have t2:=G9 (l:=Cf (a.cr++[x])) (i:=(a.cr.length+1)*11) (by omega)
    have w:=KM (fu:=fu) (d:=d+1) (cr:=a.cr++[x]) hl h3;rw[l1] at w
    try unfold Ab
    repeat first
     |((with_reducible first|apply A5|apply Aw|apply A9|apply Ay|apply Bh|apply B5|apply D1|apply Ax|apply A6|apply A8);· first|with_reducible rfl|(simp (disch:=omega) only[gT,f,o,wi,Rv,O0,e2,n1,g2,hc,t,ea,L2,t2,Cm,w]<;>first|with_reducible rfl|omega)|omega)
     |(with_reducible apply A7;· first|with_reducible rfl|(simp (disch:=omega) only[gF,f,o,wi,Rv,O0,e2,n1,g2,hc,t,ea,L2,t2,Cm,w]<;>omega))
    try simp (disch:=omega) only[f,o,wi,Rv,O0,e2,n1,g2,hc,t,ea,L2,t2,Cm,w]
    unfold P8;rw[List.length_set]
theorem Ai8 {l:List Cw}{nm:ByteArray}{x:Sd}(hl:l.length<=1000)(hs:∀a∈l,a.cr.length<=1000)(B2:2000<=fu):
  Ag C0 prog fu (d+3) Ji [.lst false 3 l.length (Az l),.sc (.string nm),.agg x.cells]=some (P8 (FY l nm x)):=by
 refine (Rk fu (d+2) l.length (Az l) nm x.id.length (Am .u8 x.id) x.ht x.root x.model x.fmt x.sh x.used x.rg.length (H7 x.rg) x.sus x.since x.last).trans ?_;have f:=So (fu:=fu) (d:=d+1) (l:=l) (nm:=nm) (by omega) (by omega)
 have L:=Ky l;unfold FY MR;cases h1:X8 nm 0 l with
 |none=>
  rw[h1] at f;simp only[Gs] at f
  try unfold Ab
  repeat first
   |((with_reducible first|apply A5|apply Aw|apply A9|apply Ay|apply Bh|apply B5|apply D1|apply Ax|apply A6|apply A8);· first|with_reducible rfl|(simp (disch:=omega) only[gT,f,O0]<;>first|with_reducible rfl|omega)|omega)
   |(with_reducible apply A7;· first|with_reducible rfl|(simp (disch:=omega) only[gF,f,O0]<;>omega))
  try simp (disch:=omega) only[f,O0]
  rfl
 |some i=>
  rw[h1] at f;obtain⟨_,RP,a,h3,_⟩:=Qj h1;rw[Nat.sub_zero] at h3;have hi:=H9 h3;have ha:=hs a (List.mem_of_getElem? h3);have g2:(Az l).getD (i*3+2) .top=.lst false 11 a.cr.length (Cf a.cr):=Fd h3 (j:=2) (by omega)
  have n1:Int.toNat (i:Int)=i:=Rq _;have kp:=JQ (fu:=fu) (d:=d+1) (id:=x.id) (cr:=a.cr) (by omega) (by omega)
  simp only[Gs] at f;dsimp only;rw[h3];dsimp only;cases hp:KQ x.id 0 a.cr with
  |none=>
   rw[hp] at kp;simp only[Gs] at kp
   try unfold Ab
   repeat first
    |((with_reducible first|apply A5|apply Aw|apply A9|apply Ay|apply Bh|apply B5|apply D1|apply Ax|apply A6|apply A8);· first|with_reducible rfl|(simp (disch:=omega) only[gT,f,Rv,O0,n1,g2,kp]<;>first|with_reducible rfl|omega)|omega)
    |(with_reducible apply A7;· first|with_reducible rfl|(simp (disch:=omega) only[gF,f,Rv,O0,n1,g2,kp]<;>omega))
   try simp (disch:=omega) only[f,Rv,O0,n1,g2,kp]
   rfl
  |some k=>
   rw[hp] at kp;simp only[Gs] at kp;have hk:=(KC hp).2;have L3:=G7 a.cr;have nk:Int.toNat (k:Int)=k:=Rq _;have hc:(decide (List.length (Cf a.cr)=a.cr.length*11)&&decide (a.cr.length*120<=1099511627776)&&decide (a.cr.length<=1099511627776))=true:=by simp[L3];omega
   have L2:=G7 (a.cr.set k x);rw[List.length_set] at L2
   have sp:Bl (Cf a.cr) [PV.lst false 1 x.id.length (Am .u8 x.id),.sc (.int .i64 x.ht),.sc (.int .u64 x.root),.sc (.int .u64 x.model),.sc (.int .i64 x.fmt),.sc (.bool x.sh),.sc (.int .u64 x.used),PV.lst false 2 x.rg.length (H7 x.rg),.sc (.bool x.sus),.sc (.int .i64 x.since),.sc (.int .i64 x.last)] (0+k*11)=Cf (a.cr.set k x):=by
    rw[Cn,List.set_eq_take_append_cons_drop,J8 (by omega)]
    unfold Bl Cf;rw[List.flatMap_append,List.flatMap_cons];have q1:=Rg (f:=Sd.cells) (k:=11) (fun _=>rfl) a.cr k
    have q2:=On (f:=Sd.cells) (k:=11) (fun _=>rfl) a.cr (k+1)
    rw[q1,←q2];simp only[Sd.cells,Zzv,TW,Dh]
    congr 3
    omega
   have t2:=G9 (l:=Cf (a.cr.set k x)) (i:=a.cr.length*11) (by omega)
   have w:=KM (fu:=fu) (d:=d+1) (cr:=a.cr.set k x) hl h3;rw[List.length_set] at w
   try unfold Ab
   repeat first
    |((with_reducible first|apply A5|apply Aw|apply A9|apply Ay|apply Bh|apply B5|apply D1|apply Ax|apply A6|apply A8);· first|with_reducible rfl|(simp (disch:=omega) only[gT,f,Rv,O0,n1,nk,g2,kp,hc,sp,L2,t2,Cm,w]<;>first|with_reducible rfl|omega)|omega)
    |(with_reducible apply A7;· first|with_reducible rfl|(simp (disch:=omega) only[gF,f,Rv,O0,n1,nk,g2,kp,hc,sp,L2,t2,Cm,w]<;>omega))
   try simp (disch:=omega) only[f,Rv,O0,n1,nk,g2,kp,hc,sp,L2,t2,Cm,w]
   unfold P8;rw[List.length_set]
theorem Aib {l:List Cw}{nm:ByteArray}{id:List Int}(hl:l.length<=1000)(hs:∀a∈l,a.cr.length<=1000)(B2:2000<=fu):
  Ag C0 prog fu (d+3) J7 [.lst false 3 l.length (Az l),.sc (.string nm),.lst false 1 id.length (Am .u8 id)]=some (P8 (FZ l nm id)):=by
 rw[R3];have f:=So (fu:=fu) (d:=d+1) (l:=l) (nm:=nm) (by omega) (by omega)
 have L:=Ky l;unfold FZ MR;cases h1:X8 nm 0 l with
 |none=>
  rw[h1] at f;simp only[Gs] at f
  try unfold Ab
  repeat first
   |((with_reducible first|apply A5|apply Aw|apply A9|apply Ay|apply Bh|apply B5|apply D1|apply Ax|apply A6|apply A8);· first|with_reducible rfl|(simp (disch:=omega) only[gT,f,O0]<;>first|with_reducible rfl|omega)|omega)
   |(with_reducible apply A7;· first|with_reducible rfl|(simp (disch:=omega) only[gF,f,O0]<;>omega))
  try simp (disch:=omega) only[f,O0]
  rfl
 |some i=>
  rw[h1] at f;obtain⟨_,RP,a,h3,_⟩:=Qj h1;rw[Nat.sub_zero] at h3;have hi:=H9 h3;have ha:=hs a (List.mem_of_getElem? h3);have g2:(Az l).getD (i*3+2) .top=.lst false 11 a.cr.length (Cf a.cr):=Fd h3 (j:=2) (by omega)
  have n1:Int.toNat (i:Int)=i:=Rq _;have kp:=JQ (fu:=fu) (d:=d+1) (id:=id) (cr:=a.cr) (by omega) (by omega)
  simp only[Gs] at f;dsimp only;rw[h3];dsimp only;cases hp:KQ id 0 a.cr with
  |none=>
   rw[hp] at kp;simp only[Gs] at kp
   try unfold Ab
   repeat first
    |((with_reducible first|apply A5|apply Aw|apply A9|apply Ay|apply Bh|apply B5|apply D1|apply Ax|apply A6|apply A8);· first|with_reducible rfl|(simp (disch:=omega) only[gT,f,Rv,O0,n1,g2,kp]<;>first|with_reducible rfl|omega)|omega)
    |(with_reducible apply A7;· first|with_reducible rfl|(simp (disch:=omega) only[gF,f,Rv,O0,n1,g2,kp]<;>omega))
   try simp (disch:=omega) only[f,Rv,O0,n1,g2,kp]
   rfl
  |some k=>
   rw[hp] at kp;simp only[Gs] at kp;have hk:=(KC hp).2;have L3:=G7 a.cr;have nk:Int.toNat (k:Int)=k:=Rq _;have nk1:Int.toNat ((k:Int)+1)=k+1:=by omega
   have w1:wrap .i64 ((k:Int)+1)=(k:Int)+1:=wrap_i64 (by omega) (by omega)
   have q1:=Rg (f:=Sd.cells) (k:=11) (fun _=>rfl) a.cr k
   have q2:=On (f:=Sd.cells) (k:=11) (fun _=>rfl) a.cr (k+1)
   have eE:Cf (a.cr.eraseIdx k)=(Cf a.cr).take (k*11)++(Cf a.cr).drop ((k+1)*11):=by
    rw[List.eraseIdx_eq_take_drop_succ];unfold Cf;rw[List.flatMap_append,q1,q2]
   have lE:(a.cr.eraseIdx k).length=a.cr.length-1:=by rw[List.length_eraseIdx,J8 (by omega)]
   have L2:=G7 (a.cr.eraseIdx k);rw[lE] at L2;have w:=KM (fu:=fu) (d:=d+1) (cr:=a.cr.eraseIdx k) hl h3;rw[lE] at w;have s1:k-0=k:=Nat.sub_zero _;have T1:((Cf a.cr).take (k*11)).length=k*11:=by rw[List.length_take];omega
   have T2:List.take (k*11) ((Cf a.cr).take (k*11))=(Cf a.cr).take (k*11):=G9 (by omega)
   have T3:((Cf a.cr).drop ((k+1)*11)).length=(a.cr.length-(k+1))*11:=by rw[List.length_drop,L3];omega
   have T4:List.take ((a.cr.length-(k+1))*11) ((Cf a.cr).drop ((k+1)*11))=(Cf a.cr).drop ((k+1)*11):=G9 (by omega)
   have s2:k+(a.cr.length-(k+1))=a.cr.length-1:=by omega
   have t2:=G9 (l:=Cf (a.cr.eraseIdx k)) (i:=(a.cr.length-1)*11) (by omega)
   have Z9:(decide (k*11=k*11)&&decide (k*120<=1099511627776)&&decide (k<=1099511627776))=true:=by simp;omega
   have YA:(decide (k+1<=a.cr.length)&&decide (a.cr.length<=a.cr.length))=true:=by simp;omega
   have hc3:(decide (k*11<=k*11)&&decide ((a.cr.length-(k+1))*11=(a.cr.length-(k+1))*11)&&decide ((a.cr.length-1)*120<=1099511627776)&&decide (a.cr.length-1<=1099511627776))=true:=by simp;omega
   rw[eE] at L2 t2 w
   try unfold Ab
   repeat first
    |((with_reducible first|apply A5|apply Aw|apply A9|apply Ay|apply Bh|apply B5|apply D1|apply Ax|apply A6|apply A8);· first|with_reducible rfl|(simp (disch:=omega) only[gT,f,Rv,O0,n1,nk,nk1,w1,g2,kp,s1,s2,T1,T2,T3,T4,Z9,YA,hc3,L2,t2,Cm,w]<;>first|with_reducible rfl|omega)|omega)
    |(with_reducible apply A7;· first|with_reducible rfl|(simp (disch:=omega) only[gF,f,Rv,O0,n1,nk,nk1,w1,g2,kp,s1,s2,T1,T2,T3,T4,Z9,YA,hc3,L2,t2,Cm,w]<;>omega))
   try simp (disch:=omega) only[f,Rv,O0,n1,nk,nk1,w1,g2,kp,s1,s2,T1,T2,T3,T4,Z9,YA,hc3,L2,t2,Cm,w]
   unfold P8;rw[List.length_set]
theorem UE {nm us nm' us':ByteArray}{n0 n1:Nat}{c0 c1:List PV}{cr:List Sd}(hl:cr.length<=1000)(Kd:∀c∈cr,c.ok)(B2:2000<=fu)(y1 y2 y5 y6:ByteArray):∀(r:List Sd)(i nn:Nat),cr.drop i=r->r.length<nn->i<=cr.length ->
  Df fu (Ag C0 prog fu (d+2)) nm us n0 c0 nm' us' n1 c1 nn (i:Int) y1 y2 cr.length (Cf cr) y5 y6 cr.length (Cf cr)=some ⟨[.sc (.bool true)],[]⟩:=by
 intro r
 induction r with
 |nil=>
  intro i nn hd Dy hi;have:=drop_nil hd;obtain⟨nn,rfl⟩:∃k,nn=k+1:=⟨nn-1,by omega⟩
  rw[Fv];simp (disch:=omega) only[Ea]
 |cons x r ih=>
  intro i nn hd Dy hi;obtain⟨Bp,Br,hd'⟩:=C3 hd;obtain⟨nn,rfl⟩:∃k,nn=k+1:=⟨nn-1,by omega⟩
  rw[Fv];have g0:(Cf cr).getD (i*11) .top=.lst false 1 x.id.length (Am .u8 x.id):=Cy Br (j:=0) (by omega)
  have g1:(Cf cr).getD (i*11+1) .top=.sc (.int .i64 x.ht):=Cy Br (j:=1) (by omega)
  have g2:(Cf cr).getD (i*11+1+1) .top=.sc (.int .u64 x.root):=Cy Br (j:=2) (by omega)
  have g3:(Cf cr).getD (i*11+1+1+1) .top=.sc (.int .u64 x.model):=Cy Br (j:=3) (by omega)
  have g4:(Cf cr).getD (i*11+1+1+1+1) .top=.sc (.int .i64 x.fmt):=Cy Br (j:=4) (by omega)
  have g5:(Cf cr).getD (i*11+1+1+1+1+1) .top=.sc (.bool x.sh):=Cy Br (j:=5) (by omega)
  have g6:(Cf cr).getD (i*11+1+1+1+1+1+1) .top=.sc (.int .u64 x.used):=Cy Br (j:=6) (by omega)
  have g7:(Cf cr).getD (i*11+1+1+1+1+1+1+1) .top=.lst false 2 x.rg.length (H7 x.rg):=Cy Br (j:=7) (by omega)
  have g8:(Cf cr).getD (i*11+1+1+1+1+1+1+1+1) .top=.sc (.bool x.sus):=Cy Br (j:=8) (by omega)
  have g9:(Cf cr).getD (i*11+1+1+1+1+1+1+1+1+1) .top=.sc (.int .i64 x.since):=Cy Br (j:=9) (by omega)
  have g10:(Cf cr).getD (i*11+1+1+1+1+1+1+1+1+1+1) .top=.sc (.int .i64 x.last):=Cy Br (j:=10) (by omega)
  have n1:Int.toNat (i:Int)=i:=Rq _;have w1:wrap .i64 ((i:Int)+1)=((i+1:Nat):Int):=by rw[wrap_i64 (by omega) (by omega)];omega
  have ss:=ZV (fu:=fu) (d:=d) (Kd x (List.mem_of_getElem? Br)) B2;simp only[Sd.cells] at ss;have q:=ih (i+1) nn hd' (by simp at Dy;omega) (by omega)
  simp (disch:=omega) only[Ea,n1,g0,g1,g2,g3,g4,g5,g6,g7,g8,g9,g10,ss,Rv,w1,q]
theorem Afn {a:Cw}(ha:a.ok)(B2:2000<=fu):Ag C0 prog fu (d+3) Gv [.agg [.sc (.string a.nm),.sc (.string a.us),.lst false 11 a.cr.length (Cf a.cr)],.agg [.sc (.string a.nm),.sc (.string a.us),.lst false 11 a.cr.length (Cf a.cr)]]=some ⟨[.sc (.bool true)],[]⟩:=by
 rw[Na];have b0:∀l:List UInt8,(!(l==l))=false:=fun l=>by simp
 have b1:((a.cr.length:Int) != (a.cr.length:Int))=false:=by simp
 simp (disch:=omega) only[Ea,b0,b1];exact UE ha.cn ha.cs B2 _ _ _ _ a.cr 0 fu rfl (by have:=ha.cn;omega) (by omega)
theorem QQ {n0 n1:Nat}{c0 c1:List PV}{l:List Cw}(hl:l.length<=1000)(Kd:∀a∈l,a.ok)(B2:2000<=fu):∀(r:List Cw)(i nn:Nat),l.drop i=r->r.length<nn->i<=l.length ->
  C7 fu (Ag C0 prog fu (d+3)) n0 c0 n1 c1 nn l.length (Az l) l.length (Az l) (i:Int)=some ⟨[.sc (.bool true)],[]⟩:=by
 intro r
 induction r with
 |nil=>
  intro i nn hd Dy hi;have:=drop_nil hd;obtain⟨nn,rfl⟩:∃k,nn=k+1:=⟨nn-1,by omega⟩
  rw[Fl];simp (disch:=omega) only[Ea]
 |cons a r ih=>
  intro i nn hd Dy hi;obtain⟨Bp,Br,hd'⟩:=C3 hd;obtain⟨nn,rfl⟩:∃k,nn=k+1:=⟨nn-1,by omega⟩
  rw[Fl];have g0:(Az l).getD (i*3) .top=.sc (.string a.nm):=Fd Br (j:=0) (by omega)
  have g1:(Az l).getD (i*3+1) .top=.sc (.string a.us):=Fd Br (j:=1) (by omega)
  have g2:(Az l).getD (i*3+1+1) .top=.lst false 11 a.cr.length (Cf a.cr):=Fd Br (j:=2) (by omega)
  have n1:Int.toNat (i:Int)=i:=Rq _;have w1:wrap .i64 ((i:Int)+1)=((i+1:Nat):Int):=by rw[wrap_i64 (by omega) (by omega)];omega
  have ss:=Afn (fu:=fu) (d:=d) (Kd a (List.mem_of_getElem? Br)) B2;have q:=ih (i+1) nn hd' (by simp at Dy;omega) (by omega)
  simp (disch:=omega) only[Ea,n1,g0,g1,g2,ss,Rv,w1,q]
theorem YH {l:List Cw}(hl:l.length<=1000)(Kd:∀a∈l,a.ok)(B2:2000<=fu):Ag C0 prog fu (d+4) Gk [.lst false 3 l.length (Az l),.lst false 3 l.length (Az l)]=some ⟨[.sc (.bool true)],[]⟩:=by
 rw[Mn];have b1:((l.length:Int) != (l.length:Int))=false:=by simp
 simp (disch:=omega) only[Ea,b1];exact QQ hl Kd B2 l 0 fu rfl (by omega) (by omega)
end
end
end Go.Proofs.Ytcgfahlefkfghaa.Pv
