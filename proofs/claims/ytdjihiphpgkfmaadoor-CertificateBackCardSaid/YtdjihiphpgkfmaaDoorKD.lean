/-
  The proof of CertificateBack, part 4.
-/
import Derived.Test.YtdjihiphpgkfmaaDoorKC
import Derived.Test.YtdjihiphpgkfmaaDoorRows
set_option linter.unusedSimpArgs false
set_option linter.unusedVariables false
namespace Go.Proofs.YtdjihiphpgkfmaaDoor.Pv
section
open Go.IntKind (wrap)
section
variable {fu d:Nat} {xs:FuncId->Option (List PV->Option Aw)}
theorem Adc {x k:Int}(hk:k=13∨k=16∨k=17∨k=21∨k=32):Ae (CX xs) Tryd.prog fu (d+1) Lr [.sc (.int .u64 x),.sc (.int .i64 k)]=some ⟨[.sc (.int .u64 (rot x k))],[]⟩:=by
 rw [Um];rcases hk with rfl|rfl|rfl|rfl|rfl<;>kernel_rfl
theorem Ad8 {x k:Int}(hk:k=13∨k=16∨k=17∨k=21∨k=32):Ae (CX xs) Tryd.prog fu (d+1) Mr [.sc (.int .u64 x),.sc (.int .u64 k)]=some ⟨[.sc (.int .u64 (rot x k))],[]⟩:=by
 rw [V2];rcases hk with rfl|rfl|rfl|rfl|rfl<;>kernel_rfl
theorem CR {a0 a1 a2 a3 a4:Int}:∀(k i nn:Nat)(v:W4),k<nn->i+k<=100 ->
  Ei fu (Ae (CX xs) Tryd.prog fu (d+1)) a0 a1 a2 a3 a4 nn ((i+k:Nat):Int) i v.a v.b v.c v.d=some ⟨[],[(WA k v).cells]⟩
 |_,_,0,_,h,_=>by omega
 |0,i,nn+1,v,h,hi=>by
  rw [Hp,Dx _ _ _ (by omega)]
  rfl
 |k+1,i,nn+1,v,h,hi=>by
  have ih:=CR (a0:=a0) (a1:=a1) (a2:=a2) (a3:=a3) (a4:=a4) k (i+1) nn (IY v) (by omega) (by omega)
  have w:wrap .i64 ((i:Int)+1)=((i+1:Nat):Int):=by rw [Aj (by omega) (by omega)];omega
  have r13:=fun x=>Adc (xs:=xs) (fu:=fu) (d:=d) (x:=x) (k:=13) (by simp)
  have r16:=fun x=>Adc (xs:=xs) (fu:=fu) (d:=d) (x:=x) (k:=16) (by simp)
  have r17:=fun x=>Adc (xs:=xs) (fu:=fu) (d:=d) (x:=x) (k:=17) (by simp)
  have r21:=fun x=>Adc (xs:=xs) (fu:=fu) (d:=d) (x:=x) (k:=21) (by simp)
  have r32:=fun x=>Adc (xs:=xs) (fu:=fu) (d:=d) (x:=x) (k:=32) (by simp)
  rw [Hp];simp (disch:=omega) only [Ca,r13,r16,r17,r21,r32,w];rw [show i+(k+1)=i+1+k by omega]
  exact ih
theorem LC (k:Nat)(hk:k<=4)(hfu:100<=fu)(v:W4):Ae (CX xs) Tryd.prog fu (d+2) I9 [.pbox [.sc (.int .u64 v.a),.sc (.int .u64 v.b),.sc (.int .u64 v.c),.sc (.int .u64 v.d)],.sc (.int .i64 k)]=some ⟨[],[(WA k v).cells]⟩:=by
 rw [Sb];have:=CR (xs:=xs) (fu:=fu) (d:=d) (a0:=v.a) (a1:=v.b) (a2:=v.c) (a3:=v.d) (a4:=k) k 0 fu v (by omega) (by omega)
 rw [C2] at this;exact this
theorem MZ (hfu:100<=fu)(v:W4)(m:Int):Ae (CX xs) Tryd.prog fu (d+3) Jd [.pbox [.sc (.int .u64 v.a),.sc (.int .u64 v.b),.sc (.int .u64 v.c),.sc (.int .u64 v.d)],.sc (.int .u64 m)]=some ⟨[],[(Pu v m).cells]⟩:=by
 rw [Sa];have r2:=LC (xs:=xs) (fu:=fu) (d:=d) 2 (by omega) hfu ⟨v.a,v.b,v.c,Dg .u64 v.d m⟩
 have e2:((2:Nat):Int)=2:=rfl;rw [e2] at r2;unfold Pu;generalize WA 2 ⟨v.a,v.b,v.c,Dg .u64 v.d m⟩=R at r2 ⊢;simp only [W4.cells] at r2;simp only [Ca,r2];rfl
theorem Alq {a b:Int}{k:Nat}(hk:k<8)(ha:0<=a)(ha':a<((2 ^ (8*k):Nat):Int)) (hb:0<=b)(hb':b<=255):MG .u64 a (Gr .u64 b (8*(k:Int)))=a+((2 ^ (8*k):Nat):Int)*b:=by
 obtain ⟨n,rfl⟩:=Int.eq_ofNat_of_zero_le hb;have e:(8*(k:Int)).toNat=8*k:=by omega
 have hp:n*2 ^ (8*k)<=255*2 ^ (8*k):=Nat.mul_le_mul_right _ (by omega)
 have h56:2 ^ (8*k)<=2 ^ 56:=Nat.pow_le_pow_right (by omega) (by omega)
 have e56:(2:Nat) ^ 56=72057594037927936:=by decide
 rw [e56] at h56;generalize hP:2 ^ (8*k)=p at *
 have hpos:n*p<=255*p:=hp
 have hs:Gr .u64 (n:Int) (8*(k:Int))=(n:Int)*((2 ^ (8*(k:Int)).toNat:Nat):Int):=ZY (by omega) (by omega) (by omega) (by
  rw [e,hP];have:((n*p:Nat):Int)<=((255*p:Nat):Int):=by omega
  rw [←Int.natCast_mul];omega)
 rw [hs,e,hP]
 have:=(NZ (a:=a) (c:=((n*p:Nat):Int)) (8*k) n ha (by rw [hP];exact ha') (by rw [hP]) (by
  have:((n*p:Nat):Int)<=((255*p:Nat):Int):=by omega
  omega)).1
 rw [←Int.natCast_mul,this,Int.mul_comm ((p:Nat):Int),←Int.natCast_mul]
theorem Alt (k:Nat):((2 ^ (8*k):Nat):Int)=256 ^ k:=by
 rw [Nat.pow_mul];simp
theorem BJ {call:Ah}{n:Nat}{c:List PV}{l:List Int}(hb:Ik l)(hl:l.length<=8):∀(r:List Int)(i nn:Nat),l.drop i=r->r.length<nn->i<=l.length ->
  G9 fu call n c nn (Qb (l.take i)) l.length (Ag .u8 l) l.length i=some ⟨[.sc (.int .u64 (Qb l))],[]⟩
 |_,_,0,_,h,_=>by omega
 |[],i,nn+1,h,hn,hi=>by
  have:=drop_nil h;rw [Mp,Dx _ _ _ (by omega),Wz (by omega)]
 |b::r,i,nn+1,h,hn,hi=>by
  obtain ⟨h1,h2,h3⟩:=Co h;simp only [Le] at hn;have ih:=BJ (call:=call) (n:=n) (c:=c) hb hl r (i+1) nn h3 (by omega) (by omega)
  have hbb:=hb b (List.mem_of_getElem? h2);have w:wrap .i64 ((i:Int)+1)=((i+1:Nat):Int):=by rw [Aj (by omega) (by omega)];omega
  have w8:wrap .i64 (8*(i:Int))=8*(i:Int):=Aj (by omega) (by omega)
  have wb:wrap .u64 b=b:=Dc (by omega) (by omega)
  have hbnd:=Q7 (l:=l.take i) fun x hx=>hb x (List.mem_of_mem_take hx)
  have htl:(l.take i).length=i:=by rw [List.length_take];omega
  rw [htl] at hbnd
  have hj:MG .u64 (Qb (l.take i)) (Gr .u64 b (8*(i:Int)))=Qb (l.take (i+1)):=by
   rw [Alq (by omega) hbnd.1 (by rw [Alt];exact hbnd.2) hbb.1 hbb.2,List.take_add_one,h2,Wk,htl,Alt]
   simp [Qb]
  rw [Mp];simp (disch:=omega) only [Ca,Hw,Cd,V5 h2,w,w8,wb,hj];exact ih
theorem MN {l:List Int}(hb:Ik l)(hl:l.length<=8)(hfu:100<=fu):Ae (CX xs) Tryd.prog fu (d+1) R2 [.lst false 1 l.length (Ag .u8 l)]=some ⟨[.sc (.int .u64 (Qb l))],[]⟩:=by
 rw [DG];exact BJ hb hl l 0 fu rfl (by omega) (by omega)
theorem Ha (k:IntKind)(l:List Int)(i:Nat):List.drop i (Ag k l)=Ag k (l.drop i):=by
 have:=PR (Za k) l i
 simpa using this
theorem Mm (k:IntKind)(l:List Int)(i:Nat):List.take i (Ag k l)=Ag k (l.take i):=by
 have:=ZV (Za k) l i
 simpa using this
theorem Ik.drop {l:List Int}(h:Ik l)(i:Nat):Ik (l.drop i):=fun x hx=>h x (List.mem_of_mem_drop hx)
theorem Ik.take {l:List Int}(h:Ik l)(i:Nat):Ik (l.take i):=fun x hx=>h x (List.mem_of_mem_take hx)
theorem Ags {a0 a1:Int}{n:Nat}{c:List PV}{l:List Int}(hb:Ik l)(hl:l.length<=1099511627776)(hfu:100<=fu)(nn:Nat)(v:W4):
  Hq fu (Ae (CX xs) Tryd.prog fu (d+3)) a0 a1 n c (nn+1) l.length (Ag .u8 l) ((l.length / 8:Nat):Int) ((l.length / 8:Nat):Int) ((l.length / 8:Nat):Int) v.a v.b v.c v.d=some ⟨[.sc (.int .u64 (Ab8 (Abz (Pu v (Lq l)))))],[]⟩:=by
 have w8:wrap .i64 (8*((l.length / 8:Nat):Int))=((8*(l.length / 8):Nat):Int):=by rw [Aj (by omega) (by omega)];omega
 have wl:wrap .u64 (l.length:Int)=l.length:=Dc (by omega) (by omega)
 have hdl:(l.drop (8*(l.length / 8))).length=l.length-8*(l.length / 8):=List.length_drop;have li:=MN (xs:=xs) (fu:=fu) (d:=d+2) (hb.drop (8*(l.length / 8))) (by omega) hfu
 rw [hdl] at li;have tk:List.take (l.length-8*(l.length / 8)) (Ag .u8 (l.drop (8*(l.length / 8))))=Ag .u8 (l.drop (8*(l.length / 8))):=Wz (by rw [Al,hdl];omega)
 have hbn:=Q7 (hb.drop (8*(l.length / 8)));rw [hdl] at hbn
 have hp7:(256:Int) ^ (l.length-8*(l.length / 8))<=256 ^ 7:=by
  have:(256:Nat) ^ (l.length-8*(l.length / 8))<=256 ^ 7:=Nat.pow_le_pow_right (by omega) (by omega)
  have h2:(((256:Nat) ^ (l.length-8*(l.length / 8)):Nat):Int)<=((256 ^ 7:Nat):Int):=by omega
  simpa using h2
 have hlast:MG .u64 (Qb (l.drop (8*(l.length / 8)))) (Gr .u64 (l.length:Int) 56)=Lq l:=by
  have hs:Gr .u64 (l.length:Int) 56=(((l.length % 256)*2 ^ 56:Nat):Int):=by
   show wrap .u64 ((l.length:Int)*2 ^ (min (56:Int).toNat IntKind.u64.bits))=_;have h2:(2:Int) ^ (min (56:Int).toNat IntKind.u64.bits)=72057594037927936:=by decide
   have h3:(2:Nat) ^ 56=72057594037927936:=by decide
   rw [h2,h3];simp only [wrap,IntKind.signed,IntKind.bits];simp;omega
  have h56:(256:Int) ^ 7=((2 ^ 56:Nat):Int):=by decide
  have h3:(2:Nat) ^ 56=72057594037927936:=by decide
  rw [hs,(NZ 56 (l.length % 256) hbn.1 (by omega) rfl (by omega)).1]
  unfold Lq;omega
 have ab:=MZ (xs:=xs) (fu:=fu) (d:=d) hfu v (Lq l);have r4:=LC (xs:=xs) (fu:=fu) (d:=d+1) 4 (by omega) hfu ⟨(Pu v (Lq l)).a,(Pu v (Lq l)).b,Dg .u64 (Pu v (Lq l)).c 255,(Pu v (Lq l)).d⟩
 have e4:((4:Nat):Int)=4:=rfl;rw [e4] at r4;unfold Abz;generalize Pu v (Lq l)=U at ab r4 ⊢;generalize WA 4 ⟨U.a,U.b,Dg .u64 U.c 255,U.d⟩=R at r4 ⊢;simp only [W4.cells] at ab r4;rw [Rz];simp (disch:=omega) only [Ca,Hw,Cd,w8,wl,Ha,tk,li,hlast,ab,r4];rfl
theorem QI {a0 a1:Int}{n:Nat}{c:List PV}{l:List Int}(hb:Ik l)(hl:l.length<=1099511627776)(hfu:100<=fu):∀(k i nn:Nat)(v:W4),i+k=l.length / 8->k<nn ->
  Hq fu (Ae (CX xs) Tryd.prog fu (d+3)) a0 a1 n c nn l.length (Ag .u8 l) ((l.length / 8:Nat):Int) ((l.length / 8:Nat):Int) i v.a v.b v.c v.d=some ⟨[.sc (.int .u64 (Ab8 (Abz (Pu (JR k v (l.drop (8*i))) (Lq l)))))],[]⟩
 |_,_,0,_,_,h=>by omega
 |0,i,nn+1,v,hi,hn=>by
  have e:i=l.length / 8:=by omega
  subst e;exact Ags hb hl hfu nn v
 |k+1,i,nn+1,v,hi,hn=>by
  have w:wrap .i64 ((i:Int)+1)=((i+1:Nat):Int):=by rw [Aj (by omega) (by omega)];omega
  have w8:wrap .i64 (8*(i:Int))=((8*i:Nat):Int):=by rw [Aj (by omega) (by omega)];omega
  have w88:wrap .i64 (((8*i:Nat):Int)+8)=((8*i+8:Nat):Int):=by rw [Aj (by omega) (by omega)];omega
  have hdl:((l.drop (8*i)).take 8).length=8:=by rw [List.length_take,List.length_drop];omega
  have li:=MN (xs:=xs) (fu:=fu) (d:=d+2) ((hb.drop (8*i)).take 8) (by omega) hfu
  rw [hdl] at li;have e8:8*i+8-8*i=8:=by omega
  have ab:=MZ (xs:=xs) (fu:=fu) (d:=d) hfu v (Qb ((l.drop (8*i)).take 8));have ih:=QI (a0:=a0) (a1:=a1) (n:=n) (c:=c) hb hl hfu k (i+1) nn (Pu v (Qb ((l.drop (8*i)).take 8))) (by omega) (by omega)
  have eN:JR (k+1) v (l.drop (8*i))=JR k (Pu v (Qb ((l.drop (8*i)).take 8))) (l.drop (8*(i+1))):=by
   rw [JR,List.drop_drop,show 8*i+8=8*(i+1) by omega]
  rw [eN];generalize Pu v (Qb ((l.drop (8*i)).take 8))=U at ab ih ⊢;simp only [W4.cells] at ab;rw [Rz];simp (disch:=omega) only [Ca,Hw,Cd,w,w8,w88,e8,Ha,Mm,li,ab];exact ih
theorem Aeu {l:List Int}(hb:Ik l)(hl:l.length<=1099511627776)(hfu:100<=fu)(hf:l.length<fu)(k0 k1:Int):Ae (CX xs) Tryd.prog fu (d+4) W8 [.sc (.int .u64 k0),.sc (.int .u64 k1),.lst false 1 l.length (Ag .u8 l)]=some ⟨[.sc (.int .u64 (Agw k0 k1 l))],[]⟩:=by
 rw [PC]
 have w:wrap .i64 (Int.tdiv (l.length:Int) 8)=((l.length / 8:Nat):Int):=by
  rw [Int.tdiv_eq_ediv_of_nonneg (by omega),Aj (by omega) (by omega)]
  omega
 have lp:=QI (xs:=xs) (fu:=fu) (d:=d) (a0:=k0) (a1:=k1) (n:=l.length) (c:=Ag .u8 l) hb hl hfu (l.length / 8) 0 fu (Ajg k0 k1) (by omega) (by omega)
 simp only [F9,w];exact lp
theorem ZP {l:List Int}(hb:Ik l)(hl:l.length<=1099511627776)(hfu:100<=fu)(hf:l.length<fu)(dom:Int):Ae (CX xs) Tryd.prog fu (d+5) Pn [.sc (.int .i64 dom),.lst false 1 l.length (Ag .u8 l)]=some ⟨[.sc (.int .u64 (M8 dom l))],[]⟩:=by
 rw [KC];have s:=Aeu (xs:=xs) (fu:=fu) (d:=d) hb hl hfu hf (wrap .u64 dom) 0;simp only [Ca,s];rfl
theorem Mo (v:W4):Ae (CX xs) Tryd.prog fu (d+2) Lu [.agg [.sc (.int .u64 v.a),.sc (.int .u64 v.b),.sc (.int .u64 v.c),.sc (.int .u64 v.d)]]=some ⟨[.agg (IY v).cells],[]⟩:=by
 have r13:=fun x=>Ad8 (xs:=xs) (fu:=fu) (d:=d) (x:=x) (k:=13) (by simp)
 have r16:=fun x=>Ad8 (xs:=xs) (fu:=fu) (d:=d) (x:=x) (k:=16) (by simp)
 have r17:=fun x=>Ad8 (xs:=xs) (fu:=fu) (d:=d) (x:=x) (k:=17) (by simp)
 have r21:=fun x=>Ad8 (xs:=xs) (fu:=fu) (d:=d) (x:=x) (k:=21) (by simp)
 have r32:=fun x=>Ad8 (xs:=xs) (fu:=fu) (d:=d) (x:=x) (k:=32) (by simp)
 rw [U5];simp (disch:=omega) only [Ca,r13,r16,r17,r21,r32];rfl
def R9 (l:List Int)(i k:Nat):Int:=if i+k<l.length then l.getD (i+k) 0 else if k=7 then (l.length:Int) % 256 else 0
def pc (l:List Int)(i:Nat):List Int:=(List.range 8).map (R9 l i)
theorem Aqt {l:List Int}(hb:Ik l)(i:Nat):Ik (pc l i):=by
 intro x hx;obtain ⟨k,hk,rfl⟩:=List.mem_map.1 hx;unfold R9;split
 ·rename_i h;rw [List.getD_eq_getElem?_getD,List.getElem?_eq_getElem h];exact hb _ (List.getElem_mem h)
 ·split<;>omega
theorem Ahp {l:List Int}{i:Nat}(h:i+8<=l.length):pc l i=(l.drop i).take 8:=by
 refine List.ext_getElem (by simp [pc];omega) fun k h1 h2=>?_
 have hk:k<8:=by simpa [pc] using h1
 simp only [pc,List.getElem_map,List.getElem_range,List.getElem_take,List.getElem_drop,R9];rw [Cc (by omega),List.getD_eq_getElem?_getD,List.getElem?_eq_getElem (by omega)]
 rfl
theorem MB (x:Int):∀n,Qb (List.replicate n 0++[x])=256 ^ n*x
 |0=>by simp [Qb]
 |n+1=>by
  rw [List.replicate_succ,List.cons_append,Qb,MB x n,Int.pow_succ,Int.mul_comm (256 ^ n) 256,Int.mul_assoc];omega
theorem Agy {l:List Int}:Qb (pc l (8*(l.length / 8)))=Lq l:=by
 have e:pc l (8*(l.length / 8))=l.drop (8*(l.length / 8))++(List.replicate (7-(l.length-8*(l.length / 8))) 0++[(l.length:Int) % 256]):=by
  refine List.ext_getElem (by simp [pc];omega) fun k h1 h2=>?_
  have hk:k<8:=by simpa [pc] using h1
  simp only [pc,List.getElem_map,List.getElem_range,R9];by_cases hc:8*(l.length / 8)+k<l.length
  ·rw [Cc hc,List.getElem_append_left (by rw [List.length_drop];omega),List.getElem_drop,List.getD_eq_getElem?_getD,List.getElem?_eq_getElem hc]
   rfl
  ·rw [A9 hc,List.getElem_append_right (by rw [List.length_drop];omega)]
   by_cases h7:k=7
   ·rw [Cc h7,List.getElem_append_right (by simp;omega)]
    simp
   ·rw [A9 h7,List.getElem_append_left (by simp;omega)]
    simp
 rw [e,Wk,MB];unfold Lq
 have:(256:Int) ^ (l.drop (8*(l.length / 8))).length*(256 ^ (7-(l.length-8*(l.length / 8)))*((l.length:Int) % 256))=72057594037927936*((l.length:Int) % 256):=by
  rw [←Int.mul_assoc,←Int.pow_add,List.length_drop];have:l.length-8*(l.length / 8)+(7-(l.length-8*(l.length / 8)))=7:=by omega
  rw [this];rfl
 rw [this]
theorem Aly {a b:Int}(ha:0<=a)(ha':a<72057594037927936)(hb:0<=b)(hb':b<=255):MG .u64 (Gr .u64 a 8) b=b+256*a:=by
 obtain ⟨n,rfl⟩:=Int.eq_ofNat_of_zero_le ha
 have hs:Gr .u64 (n:Int) 8=((n*2 ^ 8:Nat):Int):=by
  have:=ZY (a:=(n:Int)) (k:=8) (by omega) (by omega) (by omega) (by
   have:(2 ^ (8:Int).toNat:Nat)=256:=by decide
   rw [this];omega)
  rw [this];have:(2 ^ (8:Int).toNat:Nat)=256:=by decide
  rw [this];have:(2 ^ 8:Nat)=256:=by decide
  rw [this];omega
 have h8:(2 ^ 8:Nat)=256:=by decide
 rw [hs,(NZ (a:=b) 8 n hb (by rw [h8];omega) rfl (by rw [h8];omega)).2,h8]
 omega
theorem ZE {a0 a1:Int}{n m0:Nat}{c:List PV}{l:List Int}(hb:Ik l)(hl:l.length<=1099511627776){i:Nat}(hi:i<=l.length)(v:W4):∀(j nn:Nat),j<=8->j<nn ->
  Du fu (Ae (CX xs) Tryd.prog fu (d+2)) a0 a1 n c m0 nn l.length (Ag .u8 l) i (Qb ((pc l i).drop j)) ((j:Int)-1) v.cells =
   Es fu (Ae (CX xs) Tryd.prog fu (d+2)) a0 a1 n c m0 l.length (Ag .u8 l) ((i+8:Nat):Int) (Pu v (Qb (pc l i))).cells
 |_,0,_,h=>by omega
 |0,nn+1,hj,hn=>by
  have w8:wrap .i64 ((i:Int)+8)=((i+8:Nat):Int):=by rw [Aj (by omega) (by omega)];omega
  have r1:=Mo (xs:=xs) (fu:=fu) (d:=d) ⟨v.a,v.b,v.c,Dg .u64 v.d (Qb (pc l i))⟩;have r2:=Mo (xs:=xs) (fu:=fu) (d:=d) (IY ⟨v.a,v.b,v.c,Dg .u64 v.d (Qb (pc l i))⟩);have eA:Pu v (Qb (pc l i))=Alk (IY (IY ⟨v.a,v.b,v.c,Dg .u64 v.d (Qb (pc l i))⟩)) (Qb (pc l i)):=rfl;rw [eA];generalize IY ⟨v.a,v.b,v.c,Dg .u64 v.d (Qb (pc l i))⟩=U at r1 r2 ⊢;generalize IY U=U2 at r2 ⊢;simp only [W4.cells] at r1 r2;rw [Ks,Dx _ _ _ (by omega),Ew]
  simp only [W4.cells,List.getD_cons_zero,List.getD_cons_succ,NO,F9];simp (disch:=first|omega|(simp;done)) only [Ca,Bd,List.take_succ_cons,List.take_zero,List.drop_succ_cons,Ew,List.drop_nil,List.cons_append,Zzq,List.append_nil,Le,CV,List.getD_cons_zero,List.getD_cons_succ,r1,r2,w8,C2,Nat.reduceAdd,Nat.reduceLeDiff,List.append_eq]
  rfl
 |j+1,nn+1,hj,hn=>by
  have ih:=ZE (a0:=a0) (a1:=a1) (n:=n) (m0:=m0) (c:=c) hb hl hi v j nn (by omega) (by omega)
  have hw:wrap .i64 ((i:Int)+(((j+1:Nat):Int)-1))=((i+j:Nat):Int):=by rw [Aj (by omega) (by omega)];omega
  have wj:wrap .i64 (((j+1:Nat):Int)-1-1)=(j:Int)-1:=by rw [Aj (by omega) (by omega)];omega
  have hd:(pc l i).drop j=R9 l i j::(pc l i).drop (j+1):=by
   rw [List.drop_eq_getElem_cons (by simp [pc];omega)]
   simp [pc]
  have hB:=Aqt hb i;have hbn:=Q7 (hB.drop (j+1))
  have hp7:(256:Int) ^ ((pc l i).drop (j+1)).length<=72057594037927936:=by
   have hlen:((pc l i).drop (j+1)).length<=7:=by simp [pc]
   have:(256:Nat) ^ ((pc l i).drop (j+1)).length<=256 ^ 7:=Nat.pow_le_pow_right (by omega) hlen
   have h2:(((256:Nat) ^ ((pc l i).drop (j+1)).length:Nat):Int)<=((256 ^ 7:Nat):Int):=by omega
   simpa using h2
  have hc0:0<=R9 l i j∧R9 l i j<=255:=hB _ (by rw [←Ew (l:=pc l i)];exact List.mem_of_mem_drop (i:=j) (by rw [Ew,hd];simp))
  have hj2:MG .u64 (Gr .u64 (Qb ((pc l i).drop (j+1))) 8) (R9 l i j)=Qb ((pc l i).drop j):=by
   rw [Aly hbn.1 (by omega) hc0.1 hc0.2,hd]
   rfl
  have wc:wrap .u64 (R9 l i j)=R9 l i j:=Dc (by omega) (by omega)
  rw [Ks,GB _ _ _ (by omega)]
  simp only [F9,hw];by_cases c1:i+j<l.length
  ·have e:R9 l i j=l.getD (i+j) 0:=by unfold R9;rw [Cc c1]
   have e2:l[i+j]?=some (R9 l i j):=by rw [e,List.getD_eq_getElem?_getD,List.getElem?_eq_getElem c1];rfl
   rw [GB _ _ _ (by omega)]
   simp (disch:=omega) only [Ca,Hw,Cd,V5 e2,wc,hj2,wj];exact ih
  ·rw [Dx _ _ _ (by omega)]
   by_cases h7:j=7
   ·subst h7;have e:R9 l i 7=(l.length:Int) % 256:=by unfold R9;rw [A9 c1,Cc rfl]
    have e8:wrap .u8 (l.length:Int)=R9 l i 7:=by
     rw [e];simp only [wrap,IntKind.signed,IntKind.bits];simp
    rw [Iv,Cc (by omega),e8,wc,hj2,wj]
    exact ih
   ·have e:R9 l i j=0:=by unfold R9;rw [A9 c1,A9 h7]
    rw [e] at hj2;rw [Iv,A9 (by omega),hj2,wj]
    exact ih
theorem LD {a0 a1:Int}{n:Nat}{c:List PV}{l:List Int}(hb:Ik l)(hl:l.length<=1099511627776)(hfu:100<=fu):∀(k i nn:Nat)(v:W4),i+k=l.length / 8->k+1<nn ->
  Es fu (Ae (CX xs) Tryd.prog fu (d+2)) a0 a1 n c nn l.length (Ag .u8 l) ((8*i:Nat):Int) v.cells=some ⟨[.sc (.int .u64 (Ab8 (Abz (Pu (JR k v (l.drop (8*i))) (Lq l)))))],[]⟩
 |_,_,0,_,_,h=>by omega
 |k,i,nn+1,v,hi,hn=>by
  have step:=ZE (xs:=xs) (fu:=fu) (d:=d) (a0:=a0) (a1:=a1) (n:=n) (m0:=nn) (c:=c) hb hl (i:=8*i) (by omega) v 8 fu (by omega) (by omega)
  have e0:Qb ((pc l (8*i)).drop 8)=0:=by rw [List.drop_of_length_le (by simp [pc])];rfl
  rw [e0] at step;rw [J9,GB _ _ _ (by omega)]
  refine step.trans ?_;cases k with
  |zero=>
   have e:i=l.length / 8:=by omega
   subst e;rw [Agy];generalize hv:Pu v (Lq l)=u;obtain ⟨nn',rfl⟩:∃nn',nn=nn'+1:=⟨nn-1,by omega⟩
   have r1:=Mo (xs:=xs) (fu:=fu) (d:=d) ⟨u.a,u.b,Dg .u64 u.c 255,u.d⟩;have r2:=Mo (xs:=xs) (fu:=fu) (d:=d) (IY ⟨u.a,u.b,Dg .u64 u.c 255,u.d⟩);have r3:=Mo (xs:=xs) (fu:=fu) (d:=d) (IY (IY ⟨u.a,u.b,Dg .u64 u.c 255,u.d⟩));have r4:=Mo (xs:=xs) (fu:=fu) (d:=d) (IY (IY (IY ⟨u.a,u.b,Dg .u64 u.c 255,u.d⟩)))
   have eF:Ab8 (Abz (Pu (JR 0 v (l.drop (8*(l.length / 8)))) (Lq l)))=Ab8 (IY (IY (IY (IY ⟨u.a,u.b,Dg .u64 u.c 255,u.d⟩)))):=by
    rw [JR,hv];rfl
   rw [eF];clear eF;generalize IY ⟨u.a,u.b,Dg .u64 u.c 255,u.d⟩=U1 at r1 r2 r3 r4 ⊢;generalize IY U1=U2 at r2 r3 r4 ⊢;generalize IY U2=U3 at r3 r4 ⊢;generalize IY U3=U4 at r4 ⊢;simp only [W4.cells] at r1 r2 r3 r4;rw [J9,Dx _ _ _ (by omega)]
   simp only [W4.cells,List.getD_cons_zero,List.getD_cons_succ,NO,F9];simp (disch:=first|omega|(simp;done)) only [Ca,Bd,List.take_succ_cons,List.take_zero,List.drop_succ_cons,Ew,List.drop_nil,List.cons_append,Zzq,List.append_nil,Le,CV,List.getD_cons_zero,List.getD_cons_succ,r1,r2,r3,r4,C2,Nat.reduceAdd,Nat.reduceLeDiff,List.append_eq]
   rfl
  |succ k=>
   have ih:=LD (a0:=a0) (a1:=a1) (n:=n) (c:=c) hb hl hfu k (i+1) nn (Pu v (Qb (pc l (8*i)))) (by omega) (by omega)
   rw [show 8*i+8=8*(i+1) by omega,ih,Ahp (by omega)]
   simp only [JR,List.drop_drop];rw [show 8*(i+1)=8*i+8 by omega]
theorem ZD {l:List Int}(hb:Ik l)(hl:l.length<=1099511627776)(hfu:100<=fu)(hf:l.length<fu)(k0 k1:Int):Ae (CX xs) Tryd.prog fu (d+3) Ot [.sc (.int .u64 k0),.sc (.int .u64 k1),.lst false 1 l.length (Ag .u8 l)]=some ⟨[.sc (.int .u64 (Agw k0 k1 l))],[]⟩:=by
 rw [Xt];exact LD (xs:=xs) (fu:=fu) (d:=d) (a0:=k0) (a1:=k1) (n:=l.length) (c:=Ag .u8 l) hb hl hfu (l.length / 8) 0 fu (Ajg k0 k1) (by omega) (by omega)
theorem Adt {l:List Int}(hb:Ik l)(hl:l.length<=1099511627776)(hfu:100<=fu)(hf:l.length<fu)(dom:Int):Ae (CX xs) Tryd.prog fu (d+4) H5 [.sc (.int .i64 dom),.lst false 1 l.length (Ag .u8 l)]=some ⟨[.sc (.int .u64 (M8 dom l))],[]⟩:=by
 rw [We];have s:=ZD (xs:=xs) (fu:=fu) (d:=d) hb hl hfu hf (wrap .u64 dom) 0;simp only [Ca,s];rfl
theorem Ago {l:List Int}(hb:Ik l)(hl:l.length<=1099511627776)(hfu:100<=fu)(hf:l.length<fu)(key dom:Int):Ae (CX xs) Tryd.prog fu (d+4) O8 [.sc (.int .u64 key),.sc (.int .i64 dom),.lst false 1 l.length (Ag .u8 l)]=some ⟨[.sc (.int .u64 (Ahl key dom l))],[]⟩:=by
 rw [Yp];have s:=ZD (xs:=xs) (fu:=fu) (d:=d) hb hl hfu hf key (wrap .u64 (1+wrap .u64 dom));simp only [Ca,s];rfl
end
end
section
open Go.IntKind (wrap)
def Cq (w:Int)(k:Nat):Int:=wrap .u8 (F6 .u64 w (56-8*(k:Int)))
def F0 (w:Int):List Int:=(List.range' 0 8).map (Cq w)
def Au (ws:List Int):List Int:=ws.flatMap F0
theorem Gb (w:Int):(F0 w).length=8:=rfl
section
variable {fu d:Nat} {xs:FuncId->Option (List PV->Option Aw)} {call:Ah} {n:Nat} {c:List PV}
theorem TB {ws:List Int}{w:Int}{m0 l:Nat}{i k:Int}:∀(r j nn:Nat)(bs:List Int),8-j=r->r<nn->j<=8->bs.length+r<=34359738368 ->
  Ht fu call n c m0 nn bs.length w l (Ag .u64 ws) k i j (Ag .u8 bs) =
   Ga fu call n c m0 (bs++(List.range' j (8-j)).map (Cq w)).length l (Ag .u64 ws) k (wrap .i64 (i+1)) (Ag .u8 (bs++(List.range' j (8-j)).map (Cq w)))
 |r,j,0,bs,_,h,_,_=>by omega
 |0,j,nn+1,bs,hr,_,hj,_=>by
  have e:j=8:=by omega
  subst e;rw [O3];simp (disch:=omega) only [Ca];simp
 |r+1,j,nn+1,bs,hr,hn,hj,hb=>by
  have ih:=TB (ws:=ws) (w:=w) (m0:=m0) (l:=l) (i:=i) (k:=k) r (j+1) nn (bs++[Cq w j]) (by omega) (by omega) (by omega) (by simp;omega)
  have e8:=Al .u8 bs;rw [O3]
  have hx:wrap .u8 (F6 .u64 w (wrap .i64 (56-wrap .i64 (8*(j:Int)))))=Cq w j:=by
   rw [Aj (x:=8*(j:Int)) (by omega) (by omega),Aj (by omega) (by omega)]
   rfl
  have h0:0<=wrap .i64 (56-wrap .i64 (8*(j:Int))):=by
   rw [Aj (x:=8*(j:Int)) (by omega) (by omega),Aj (by omega) (by omega)]
   omega
  have hrange:List.range' j (8-j)=j::List.range' (j+1) (8-(j+1)):=by
   rw [show 8-j=(8-(j+1))+1 by omega]
   exact List.range'_succ
  simp (disch:=first|omega|exact h0) only [Ca,Cd,hx,Nz,G5,Aj (x:=(j:Int)+1)];rw [hrange];simp only [Ns,Le,CV,C2,YW,Zzw,List.singleton_append] at ih ⊢;exact ih
theorem GE {ws:List Int}(hl:ws.length<=1073741824)(hfu:100<=fu):∀(r:List Int)(i nn:Nat)(bs:List Int),ws.drop i=r->r.length<nn->bs.length=8*i ->
  Ga fu call n c nn bs.length ws.length (Ag .u64 ws) ws.length i (Ag .u8 bs)=some ⟨[.own 1 (bs++Au r).length (Ag .u8 (bs++Au r))],[]⟩
 |r,i,0,_,_,h,_=>by omega
 |[],i,nn+1,bs,h,_,_=>by
  have:=drop_nil h;have e8:=Al .u8 bs;rw [Ok];simp (disch:=omega) only [Ca,Cd,Nz,Au,List.flatMap_nil,List.append_nil]
 |w::r,i,nn+1,bs,h,hn,hb=>by
  obtain ⟨h1,h2,h3⟩:=Co h;simp only [Le] at hn;rw [Ok];simp (disch:=omega) only [Ca,Hw,Cd,V5 h2];rw [show (0:Int)=((0:Nat):Int) from rfl,TB 8 0 fu bs rfl (by omega) (by omega) (by omega),Aj (by omega) (by omega)]
  have ih:=GE hl hfu r (i+1) nn (bs++F0 w) h3 (by omega) (by simp [Gb];omega)
  have e:bs++F0 w++Au r=bs++Au (w::r):=by simp [Au]
  rw [e] at ih;exact ih
theorem M4 {ws:List Int}(hl:ws.length<=1073741824)(hfu:100<=fu)(hf:ws.length<fu):Ae (CX xs) Tryd.prog fu (d+1) Er [.lst false 1 ws.length (Ag .u64 ws)]=some ⟨[.own 1 (Au ws).length (Ag .u8 (Au ws))],[]⟩:=by
 rw [HO];simp (disch:=omega) only [Ca,Aj,Int.mul_one];exact GE hl hfu ws 0 fu [] rfl hf rfl
theorem LQ {ws:List Int}{w:Int}{m0 i:Nat}(hw:ws[i]?=some w):∀(r nn:Nat)(j:Int)(bs:List Int),j=(r:Int)-1->r<=8->r<nn->bs.length+r<=34359738368 ->
  E6 fu call n c m0 nn ws.length (Ag .u64 ws) bs.length i j (Ag .u8 bs) =
   D5 fu call n c m0 ws.length (Ag .u64 ws) (bs++(List.range' (8-r) r).map (Cq w)).length (wrap .i64 (i+1)) (Ag .u8 (bs++(List.range' (8-r) r).map (Cq w)))
 |r,0,j,bs,_,_,h,_=>by omega
 |0,nn+1,j,bs,hr,_,_,_=>by
  rw [Iu];simp (disch:=omega) only [Ca];simp
 |r+1,nn+1,j,bs,hr,hle,hn,hb=>by
  have hi:=Ai9 hw;have ih:=LQ (m0:=m0) hw r nn (j-1) (bs++[Cq w (8-(r+1))]) (by omega) (by omega) (by omega) (by simp;omega)
  have e8:=Al .u8 bs
  have hx:wrap .u8 (F6 .u64 w (wrap .u64 (wrap .i64 (8*j))))=Cq w (8-(r+1)):=by
   rw [Aj (by omega) (by omega),Dc (by omega) (by omega)]
   unfold Cq;rw [show 56-8*((8-(r+1):Nat):Int)=8*j by omega]
  have h0:0<=wrap .u64 (wrap .i64 (8*j)):=by
   rw [Aj (by omega) (by omega),Dc (by omega) (by omega)]
   omega
  have hrange:List.range' (8-(r+1)) (r+1)=(8-(r+1))::List.range' (8-r) r:=by
   rw [List.range'_succ,show 8-(r+1)+1=8-r by omega]
  rw [Iu];simp (disch:=first|omega|exact h0) only [Ca,Hw,Cd,V5 hw,hx,Nz,G5,Aj (x:=j-1)];rw [hrange];simp only [Ns,Le,CV,C2,YW,Zzw,List.singleton_append] at ih ⊢;exact ih
theorem CF {ws:List Int}(hl:ws.length<=1073741824)(hfu:100<=fu):∀(r:List Int)(i nn:Nat)(bs:List Int),ws.drop i=r->r.length<nn->bs.length=8*i ->
  D5 fu call n c nn ws.length (Ag .u64 ws) bs.length i (Ag .u8 bs)=some ⟨[.own 1 (bs++Au r).length (Ag .u8 (bs++Au r))],[]⟩
 |r,i,0,_,_,h,_=>by omega
 |[],i,nn+1,bs,h,_,_=>by
  have:=drop_nil h;have e8:=Al .u8 bs;rw [Iw];simp (disch:=omega) only [Ca,Cd,Nz,Au,List.flatMap_nil,List.append_nil]
 |w::r,i,nn+1,bs,h,hn,hb=>by
  obtain ⟨h1,h2,h3⟩:=Co h;simp only [Le] at hn;rw [Iw];simp (disch:=omega) only [Ca];rw [LQ h2 8 fu 7 bs rfl (by omega) (by omega) (by omega),Aj (by omega) (by omega)]
  have ih:=CF hl hfu r (i+1) nn (bs++F0 w) h3 (by omega) (by simp [Gb];omega)
  have e:bs++F0 w++Au r=bs++Au (w::r):=by simp [Au]
  rw [e] at ih;exact ih
theorem Qe {ws:List Int}(hl:ws.length<=1073741824)(hfu:100<=fu)(hf:ws.length<fu):Ae (CX xs) Tryd.prog fu (d+1) Dj [.lst false 1 ws.length (Ag .u64 ws)]=some ⟨[.own 1 (Au ws).length (Ag .u8 (Au ws))],[]⟩:=by
 rw [Ul];exact CF hl hfu ws 0 fu [] rfl hf rfl
end
abbrev El (a b:Int):Int:=MG .u64 (Gr .u64 a 8) (wrap .u64 b)
def FC (bs:List Int):Int:=bs.foldl El 0
theorem Air {q:Int}(h0:0<=q)(h1:q<=18446744073709551615):El (q / 256) (wrap .u8 q)=q:=by
 have e1:Gr .u64 (q / 256) 8=q / 256*256:=by
  unfold Gr;have:((8:Int).toNat.min IntKind.u64.bits)=8:=by decide
  show wrap .u64 (q / 256*2 ^ (min (8:Int).toNat IntKind.u64.bits))=_;have h2:(2:Int) ^ (min (8:Int).toNat IntKind.u64.bits)=256:=by decide
  rw [h2,Dc (by omega) (by omega)]
 have e2:wrap .u8 q=q % 256:=by
  simp only [wrap,IntKind.signed,IntKind.bits];simp
 have e3:wrap .u64 (q % 256)=q % 256:=Dc (by omega) (by omega)
 unfold El;rw [e1,e2,e3];obtain ⟨n,rfl⟩:=Int.eq_ofNat_of_zero_le h0;have hn:n<18446744073709551616:=by omega
 have e4:(BitVec.ofInt 64 ((n:Int) / 256*256)).toNat=n / 256*256:=by
  rw [BitVec.toNat_ofInt];omega
 have e5:(BitVec.ofInt 64 ((n:Int) % 256)).toNat=n % 256:=by
  rw [BitVec.toNat_ofInt];omega
 have e6:n / 256*256 ||| n % 256=n:=by
  have:=Nat.shiftLeft_add_eq_or_of_lt (show n % 256<2 ^ 8 by omega) (n / 256)
  rw [Nat.shiftLeft_eq] at this;rw [←this];omega
 unfold MG;show wrap .u64 ((BitVec.ofInt 64 ((n:Int) / 256*256) ||| BitVec.ofInt 64 ((n:Int) % 256)).toNat:Int)=n;rw [BitVec.toNat_or,e4,e5,e6,Dc (by omega) (by omega)]
theorem KL {w:Int}(k:Nat)(hk:k<8):Cq w k=wrap .u8 (w / 2 ^ (56-8*k)):=by
 unfold Cq F6;have e:(56-8*(k:Int)).toNat=56-8*k:=by omega
 rw [e,Nat.min_eq_left (by show 56-8*k<=64;omega),Int.fdiv_eq_ediv_of_nonneg _ (Int.le_of_lt (Int.pow_pos (by omega)))]
theorem MC {w:Int}(h0:0<=w)(h1:w<=18446744073709551615):FC (F0 w)=w:=by
 have st:∀(k:Nat) (D:Int),k<8->(2:Int) ^ (56-8*k)=D->0<D->El (w / D / 256) (Cq w k)=w / D:=by
  intro k D hk hD hp;rw [KL k hk,hD];exact Air (Int.ediv_nonneg h0 (Int.le_of_lt hp)) (Int.le_trans (Int.ediv_le_self _ h0) h1)
 have s0:=st 0 72057594037927936 (by omega) (by decide) (by omega)
 have s1:=st 1 281474976710656 (by omega) (by decide) (by omega)
 have s2:=st 2 1099511627776 (by omega) (by decide) (by omega)
 have s3:=st 3 4294967296 (by omega) (by decide) (by omega)
 have s4:=st 4 16777216 (by omega) (by decide) (by omega)
 have s5:=st 5 65536 (by omega) (by decide) (by omega)
 have s6:=st 6 256 (by omega) (by decide) (by omega)
 have s7:=st 7 1 (by omega) (by decide) (by omega)
 rw [show w / 72057594037927936 / 256=0 by omega] at s0
 rw [show w / 281474976710656 / 256=w / 72057594037927936 by omega] at s1
 rw [show w / 1099511627776 / 256=w / 281474976710656 by omega] at s2
 rw [show w / 4294967296 / 256=w / 1099511627776 by omega] at s3
 rw [show w / 16777216 / 256=w / 4294967296 by omega] at s4
 rw [show w / 65536 / 256=w / 16777216 by omega] at s5
 rw [show w / 256 / 256=w / 65536 by omega] at s6
 rw [show w / 1 / 256=w / 256 by omega,show w / 1=w by omega] at s7
 show El (El (El (El (El (El (El (El 0 (Cq w 0)) (Cq w 1)) (Cq w 2)) (Cq w 3)) (Cq w 4)) (Cq w 5)) (Cq w 6)) (Cq w 7)=w;rw [s0,s1,s2,s3,s4,s5,s6,s7]
end
section
open Go.IntKind (wrap)
set_option maxRecDepth 100000
abbrev P8:FuncId:=50
noncomputable def Fa (fu:Nat)(call:Ah)(a0:Int)(nn:Nat)(y0 y1 y2:Int)(y3 y4:List PV):Option Aw:=Dd CB Tryd.prog fu call 50 Tryd.f50 (B9 Tryd.f50) [.sc (.int .u64 a0)] [.r,.r,.r,.l,.r,.l] nn ⟨lk [(0,(.sc (.int .u64 y0))),(2,(.ptr 2 0)),(3,(.ptr 3 0)),(4,(.sc (.int .i64 y1))),(6,(.sc (.int .i64 y2)))],Bz [(2,(.ar false y3)),(3,(.ar false y4))]⟩
noncomputable def Oy (fu:Nat)(call:Ah)(a0:Int)(nn:Nat)(y0 y1:List PV):Option Aw:=Dd CB Tryd.prog fu call 50 Tryd.f50 (B9 Tryd.f50) [.sc (.int .u64 a0)] [.r,.r,.r,.r,.r] nn ⟨lk [(2,(.ptr 2 0)),(3,(.ptr 3 0))],Bz [(2,(.ar false y0)),(3,(.ar false y1))]⟩
noncomputable def Pd (fu:Nat)(call:Ah)(a0:Int)(nn:Nat)(y0:List PV):Option Aw:=Dd CB Tryd.prog fu call 50 Tryd.f50 (B9 Tryd.f50) [.sc (.int .u64 a0)] [.r,.r,.r,.r,.r,.r] nn ⟨lk [(2,(.ptr 2 0))],Bz [(2,(.ar false y0))]⟩
theorem L7 (fu:Nat)(call:Ah)(a0:Int)(nn:Nat)(y0 y1 y2:Int)(y3 y4:List PV):Fa fu call a0 (nn+1) y0 y1 y2 y3 y4=(Bc (decide (y2<16)) (Aa (wrap .i64 (4*y2)) fun x1=>Aa (wrap .i64 (60-x1)) fun x2=>Ao (decide (0<=x2))<|Aa (F6 .u64 y0 x2) fun x3=>Aa (Sd .u64 x3 15) fun x4=>Aa (wrap .i64 x4) fun x5=>Ao (decide (0<=y2)&&decide (y2<18))<|Ao (decide (0+Int.toNat y2*1+1<=y4.length))<|Aa (Bd y4 [.sc (.int .i64 x5)] (0+Int.toNat y2*1)) fun x6=>Ao (decide (0<=y2)&&decide (y2<18))<|Ad .i64 (List.getD x6 (0+Int.toNat y2*1) .top) fun x7=>Aa (wrap .i64 (15-x7)) fun x8=>Aa (wrap .i64 (y1+x8)) fun x9=>Aa (wrap .i64 (y2+1)) fun Cp=>Fa fu call a0 (nn) (y0) x9 Cp (y3) x6) (Aa (wrap .i64 (Int.tdiv y1 16)) fun C3=>Ao (decide (17<=y4.length))<|Aa (Bd y4 [.sc (.int .i64 C3)] 16) fun Dz=>Aa (Int.tmod y1 16) fun Ed=>Ao (decide (18<=Dz.length))<|Aa (Bd Dz [.sc (.int .i64 Ed)] 17) fun Dy=>Oy fu call a0 (fu) (y3) Dy)):=by kernel_rfl
theorem U0 (fu:Nat)(call:Ah)(a0:Int)(nn:Nat)(hnn:0<nn)(y0 y1:List PV):Oy fu call a0 nn y0 y1=(Ad .i64 (List.getD y1 0 .top) fun Ec=>Ad .i64 (List.getD y1 1 .top) fun Ej=>Ad .i64 (List.getD y1 2 .top) fun Fc=>Ad .i64 (List.getD y1 3 .top) fun F2=>Ad .i64 (List.getD y1 4 .top) fun F3=>Ad .i64 (List.getD y1 5 .top) fun F8=>Ad .i64 (List.getD y1 6 .top) fun Ij=>Ad .i64 (List.getD y1 7 .top) fun G6=>Ad .i64 (List.getD y1 8 .top) fun H7=>Ad .i64 (List.getD y1 9 .top) fun Dr=>Ad .i64 (List.getD y1 10 .top) fun Dl=>Ad .i64 (List.getD y1 11 .top) fun G7=>Ad .i64 (List.getD y1 12 .top) fun Il=>Ad .i64 (List.getD y1 13 .top) fun E1=>Ad .i64 (List.getD y1 14 .top) fun Mi=>Ad .i64 (List.getD y1 15 .top) fun Nd=>Ad .i64 (List.getD y1 16 .top) fun Lf=>Ad .i64 (List.getD y1 17 .top) fun Mv=>Ao (decide (18<=y0.length))<|Aa (Bd y0 [.sc (.int .i64 Ec),.sc (.int .i64 Ej),.sc (.int .i64 Fc),.sc (.int .i64 F2),.sc (.int .i64 F3),.sc (.int .i64 F8),.sc (.int .i64 Ij),.sc (.int .i64 G6),.sc (.int .i64 H7),.sc (.int .i64 Dr),.sc (.int .i64 Dl),.sc (.int .i64 G7),.sc (.int .i64 Il),.sc (.int .i64 E1),.sc (.int .i64 Mi),.sc (.int .i64 Nd),.sc (.int .i64 Lf),.sc (.int .i64 Mv)] 0) fun Nv=>Pd fu call a0 (fu) Nv):=by cases nn with|zero=>exact absurd hnn (Nat.lt_irrefl 0)|succ nn=>kernel_rfl
theorem Uq (fu:Nat)(call:Ah)(a0:Int)(nn:Nat)(hnn:0<nn)(y0:List PV):Pd fu call a0 nn y0=(Ad .i64 (List.getD y0 0 .top) fun Oa=>Ad .i64 (List.getD y0 1 .top) fun Pp=>Ad .i64 (List.getD y0 2 .top) fun Rh=>Ad .i64 (List.getD y0 3 .top) fun Rw=>Ad .i64 (List.getD y0 4 .top) fun Gg=>Ad .i64 (List.getD y0 5 .top) fun Hv=>Ad .i64 (List.getD y0 6 .top) fun Ug=>Ad .i64 (List.getD y0 7 .top) fun Yw=>Ad .i64 (List.getD y0 8 .top) fun Kw=>Ad .i64 (List.getD y0 9 .top) fun Uo=>Ad .i64 (List.getD y0 10 .top) fun S7=>Ad .i64 (List.getD y0 11 .top) fun Sh=>Ad .i64 (List.getD y0 12 .top) fun Sf=>Ad .i64 (List.getD y0 13 .top) fun Wx=>Ad .i64 (List.getD y0 14 .top) fun Xr=>Ad .i64 (List.getD y0 15 .top) fun R8=>Ad .i64 (List.getD y0 16 .top) fun Ve=>Ad .i64 (List.getD y0 17 .top) fun Ww=>some (Aw.mk [.agg [.sc (.int .i64 Oa),.sc (.int .i64 Pp),.sc (.int .i64 Rh),.sc (.int .i64 Rw),.sc (.int .i64 Gg),.sc (.int .i64 Hv),.sc (.int .i64 Ug),.sc (.int .i64 Yw),.sc (.int .i64 Kw),.sc (.int .i64 Uo),.sc (.int .i64 S7),.sc (.int .i64 Sh),.sc (.int .i64 Sf),.sc (.int .i64 Wx),.sc (.int .i64 Xr),.sc (.int .i64 R8),.sc (.int .i64 Ve),.sc (.int .i64 Ww)]] [])):=by cases nn with|zero=>exact absurd hnn (Nat.lt_irrefl 0)|succ nn=>kernel_rfl
theorem Zm {xs:FuncId->Option (List PV->Option Aw)} (fu d:Nat)(a0:Int):Ae (CX xs) Tryd.prog fu (d+1) P8 [.sc (.int .u64 a0)]=(fun (call:Ah)=>Fa fu call a0 (fu) (a0) 0 0 ([.sc (.int .i64 0),.sc (.int .i64 0),.sc (.int .i64 0),.sc (.int .i64 0),.sc (.int .i64 0),.sc (.int .i64 0),.sc (.int .i64 0),.sc (.int .i64 0),.sc (.int .i64 0),.sc (.int .i64 0),.sc (.int .i64 0),.sc (.int .i64 0),.sc (.int .i64 0),.sc (.int .i64 0),.sc (.int .i64 0),.sc (.int .i64 0),.sc (.int .i64 0),.sc (.int .i64 0)]) ([.sc (.int .i64 0),.sc (.int .i64 0),.sc (.int .i64 0),.sc (.int .i64 0),.sc (.int .i64 0),.sc (.int .i64 0),.sc (.int .i64 0),.sc (.int .i64 0),.sc (.int .i64 0),.sc (.int .i64 0),.sc (.int .i64 0),.sc (.int .i64 0),.sc (.int .i64 0),.sc (.int .i64 0),.sc (.int .i64 0),.sc (.int .i64 0),.sc (.int .i64 0),.sc (.int .i64 0)])) (Ae (CX xs) Tryd.prog fu d):=by kernel_rfl
abbrev U8:FuncId:=51
noncomputable def Io (fu:Nat)(call:Ah)(a0 a1:Int)(a2 a3 a4:Int)(nn:Nat)(y0 y1:Int)(y2 y3 y4:Int):Option Aw:=Dd CB Tryd.prog fu call 51 Tryd.f51 (B9 Tryd.f51) [.sc (.int .i64 a0),.sc (.int .i64 a1),.sc (.int .i64 a2),.sc (.int .i64 a3),.sc (.int .u64 a4)] [.r,.r,.l,.r,.l] nn ⟨lk [(0,(.sc (.int .i64 y0))),(1,(.sc (.int .i64 y1))),(4,(.sc (.int .u64 y2))),(11,(.sc (.int .i64 y3))),(12,(.sc (.int .i64 y4)))],Bz []⟩
theorem Qr (fu:Nat)(call:Ah)(a0 a1:Int)(a2 a3 a4:Int)(nn:Nat)(y0 y1:Int)(y2 y3 y4:Int):Io fu call a0 a1 a2 a3 a4 (nn+1) y0 y1 y2 y3 y4=(Bc (decide (y4<y3)) (Aa (wrap .u64 y0) fun x3=>Aa (wrap .u64 y1) fun x4=>Aa (wrap .u64 y4) fun x5=>Ai (call 43 [.lst false 1 4 [.sc (.int .u64 x3),.sc (.int .u64 x4),.sc (.int .u64 x5),.sc (.int .u64 y2)]]) fun x6 x7=>Ac x7<|Ab x6 fun x8 x9=>Eg 1 x8 fun Cp C3=>Ac x9<|Ao (decide (0+Cp*1<=C3.length))<|Ai (call 28 [.sc (.int .i64 1),.lst false 1 Cp (List.take (Cp*1) (List.drop 0 C3))]) fun Dz Ed=>Ac Ed<|Ab Dz fun Dy Ec=>Ad .u64 Dy fun Ej=>Ac Ec<|Aa (wrap .i64 (y4+1)) fun Fc=>Io fu call a0 a1 a2 a3 a4 (nn) (y0) (y1) Ej (y3) Fc) (some (Aw.mk [.sc (.int .u64 y2)] []))):=by kernel_rfl
theorem JN {xs:FuncId->Option (List PV->Option Aw)} (fu d:Nat)(a0 a1:Int)(a2 a3 a4:Int):Ae (CX xs) Tryd.prog fu (d+1) U8 [.sc (.int .i64 a0),.sc (.int .i64 a1),.sc (.int .i64 a2),.sc (.int .i64 a3),.sc (.int .u64 a4)]=(fun (call:Ah)=>Aa (if 15<a3 then 15 else a3) fun x1=>Aa (if a2<0 then 0 else a2) fun x2=>Io fu call a0 a1 a2 a3 a4 (fu) (a0) (a1) (a4) x1 x2) (Ae (CX xs) Tryd.prog fu d):=by kernel_rfl
abbrev Ov:FuncId:=71
theorem Xq {xs:FuncId->Option (List PV->Option Aw)} (fu d:Nat)(a0 a1_0:Int)(a1_1 a1_2:Int)(Af8 Afe:Int)(Adg Adx:Int)(Adp Aev:Int)(Aez RH:Int)(RL QR:Int)(Aio Aiu:Int)(Aij Aig Aih:Int):Ae (CX xs) Tryd.prog fu (d+1) Ov [.sc (.int .i64 a0),.agg [.sc (.int .u64 a1_0),.sc (.int .u64 a1_1),.sc (.int .u64 a1_2),.sc (.int .u64 Af8),.sc (.int .u64 Afe),.sc (.int .u64 Adg),.sc (.int .u64 Adx),.sc (.int .u64 Adp),.sc (.int .u64 Aev),.sc (.int .u64 Aez),.sc (.int .u64 RH),.sc (.int .u64 RL),.sc (.int .u64 QR),.sc (.int .u64 Aio),.sc (.int .u64 Aiu),.sc (.int .u64 Aij),.sc (.int .u64 Aig),.sc (.int .u64 Aih)]]=(fun (call:Ah)=>Aa (wrap .u64 a0) fun x1=>Ai (call 43 [.lst false 1 19 [.sc (.int .u64 x1),.sc (.int .u64 a1_0),.sc (.int .u64 a1_1),.sc (.int .u64 a1_2),.sc (.int .u64 Af8),.sc (.int .u64 Afe),.sc (.int .u64 Adg),.sc (.int .u64 Adx),.sc (.int .u64 Adp),.sc (.int .u64 Aev),.sc (.int .u64 Aez),.sc (.int .u64 RH),.sc (.int .u64 RL),.sc (.int .u64 QR),.sc (.int .u64 Aio),.sc (.int .u64 Aiu),.sc (.int .u64 Aij),.sc (.int .u64 Aig),.sc (.int .u64 Aih)]]) fun x2 x3=>Ac x3<|Ab x2 fun x4 x5=>Eg 1 x4 fun x6 x7=>Ac x5<|Ao (decide (0+x6*1<=x7.length))<|Ai (call 28 [.sc (.int .i64 2),.lst false 1 x6 (List.take (x6*1) (List.drop 0 x7))]) fun x8 x9=>Ac x9<|Ab x8 fun Cp C3=>Ad .u64 Cp fun Dz=>Ac C3<|some (Aw.mk [.sc (.int .u64 Dz)] [])) (Ae (CX xs) Tryd.prog fu d):=by kernel_rfl
abbrev O6:FuncId:=66
noncomputable def Dw (fu:Nat)(call:Ah)(a0 a1:Int)(a2n:Nat)(a2:List PV)(nn:Nat)(y0:Int)(y1:Nat)(y2:List PV)(y3 y4:Int)(y5 y6:Int)(y7 y8:Int)(y9 y10:Int)(M2 Qo:Int)(Wu Wr:Int)(Wy Ws:Int)(Wq DQ:Int)(PZ LL EB:Int)(y22:List PV):Option Aw:=Dd CB Tryd.prog fu call 66 Tryd.f66 (B9 Tryd.f66) [.sc (.int .i64 a0),.sc (.int .u64 a1),.lst false 1 a2n a2] [.r,.r,.r,.l,.r,.l] nn ⟨lk [(0,(.sc (.int .i64 y0))),(2,(.lst false 1 y1 y2)),(8,(.ptr 8 0)),(15,(.agg [(.sc (.int .i64 y3)),(.sc (.int .i64 y4)),(.sc (.int .i64 y5)),(.sc (.int .i64 y6)),(.sc (.int .i64 y7)),(.sc (.int .i64 y8)),(.sc (.int .i64 y9)),(.sc (.int .i64 y10)),(.sc (.int .i64 M2)),(.sc (.int .i64 Qo)),(.sc (.int .i64 Wu)),(.sc (.int .i64 Wr)),(.sc (.int .i64 Wy)),(.sc (.int .i64 Ws)),(.sc (.int .i64 Wq)),(.sc (.int .i64 DQ)),(.sc (.int .i64 PZ)),(.sc (.int .i64 LL))])),(16,(.sc (.int .i64 EB)))],Bz [(8,(.ar false y22))]⟩
noncomputable def Nh (fu:Nat)(call:Ah)(a0 a1:Int)(a2n:Nat)(a2:List PV)(nn:Nat)(y0:Int)(y1:List PV):Option Aw:=Dd CB Tryd.prog fu call 66 Tryd.f66 (B9 Tryd.f66) [.sc (.int .i64 a0),.sc (.int .u64 a1),.lst false 1 a2n a2] [.r,.r,.r] nn ⟨lk [(0,(.sc (.int .i64 y0))),(8,(.ptr 8 0))],Bz [(8,(.ar false y1))]⟩
noncomputable def Nt (fu:Nat)(call:Ah)(a0 a1:Int)(a2n:Nat)(a2:List PV)(nn:Nat)(y0 y1:Int):Option Aw:=Dd CB Tryd.prog fu call 66 Tryd.f66 (B9 Tryd.f66) [.sc (.int .i64 a0),.sc (.int .u64 a1),.lst false 1 a2n a2] [.r,.r,.r,.r] nn ⟨lk [(6,(.sc (.int .u64 y0))),(7,(.sc (.int .i64 y1)))],Bz []⟩
theorem Kj (fu:Nat)(call:Ah)(a0 a1:Int)(a2n:Nat)(a2:List PV)(nn:Nat)(y0:Int)(y1:Nat)(y2:List PV)(y3 y4:Int)(y5 y6:Int)(y7 y8:Int)(y9 y10:Int)(M2 Qo:Int)(Wu Wr:Int)(Wy Ws:Int)(Wq DQ:Int)(PZ LL EB:Int)(y22:List PV):Dw fu call a0 a1 a2n a2 (nn+1) y0 y1 y2 y3 y4 y5 y6 y7 y8 y9 y10 M2 Qo Wu Wr Wy Ws Wq DQ PZ LL EB y22=(Bc (decide (EB<18)) (Ao (decide (0<=EB)&&decide (EB<18)&&true)<|Ad .i64 (List.getD [.sc (.int .i64 y3),.sc (.int .i64 y4),.sc (.int .i64 y5),.sc (.int .i64 y6),.sc (.int .i64 y7),.sc (.int .i64 y8),.sc (.int .i64 y9),.sc (.int .i64 y10),.sc (.int .i64 M2),.sc (.int .i64 Qo),.sc (.int .i64 Wu),.sc (.int .i64 Wr),.sc (.int .i64 Wy),.sc (.int .i64 Ws),.sc (.int .i64 Wq),.sc (.int .i64 DQ),.sc (.int .i64 PZ),.sc (.int .i64 LL)] (Int.toNat EB*1) .top) fun Z7=>Ao (decide (0<=EB)&&decide (EB<(↑y1:Int)))<|Ad .u64 (List.getD y2 (Int.toNat EB*1) .top) fun Zb=>Ai (call 51 [.sc (.int .i64 y0),.sc (.int .i64 EB),.sc (.int .i64 Z7),.sc (.int .i64 15),.sc (.int .u64 Zb)]) fun Tz Zi=>Ac Zi<|Ab Tz fun Y3 Zs=>Ad .u64 Y3 fun Wp=>Ac Zs<|Ao (decide (0<=EB)&&decide (EB<18))<|Ao (decide (0+Int.toNat EB*1+1<=y22.length))<|Aa (Bd y22 [.sc (.int .u64 Wp)] (0+Int.toNat EB*1)) fun Vk=>Aa (wrap .i64 (EB+1)) fun DS=>Dw fu call a0 a1 a2n a2 (nn) (y0) (y1) (y2) (y3) (y4) (y5) (y6) (y7) (y8) (y9) (y10) (M2) (Qo) (Wu) (Wr) (Wy) (Ws) (Wq) (DQ) (PZ) (LL) DS Vk) (Nh fu call a0 a1 a2n a2 (fu) (y0) (y22))):=by kernel_rfl
theorem So (fu:Nat)(call:Ah)(a0 a1:Int)(a2n:Nat)(a2:List PV)(nn:Nat)(hnn:0<nn)(y0:Int)(y1:List PV):Nh fu call a0 a1 a2n a2 nn y0 y1=(Ad .u64 (List.getD y1 0 .top) fun CC=>Ad .u64 (List.getD y1 1 .top) fun Zg=>Ad .u64 (List.getD y1 2 .top) fun Yl=>Ad .u64 (List.getD y1 3 .top) fun CM=>Ad .u64 (List.getD y1 4 .top) fun HC=>Ad .u64 (List.getD y1 5 .top) fun CE=>Ad .u64 (List.getD y1 6 .top) fun EN=>Ad .u64 (List.getD y1 7 .top) fun IW=>Ad .u64 (List.getD y1 8 .top) fun BL=>Ad .u64 (List.getD y1 9 .top) fun Vg=>Ad .u64 (List.getD y1 10 .top) fun MO=>Ad .u64 (List.getD y1 11 .top) fun KT=>Ad .u64 (List.getD y1 12 .top) fun VJ=>Ad .u64 (List.getD y1 13 .top) fun XM=>Ad .u64 (List.getD y1 14 .top) fun QN=>Ad .u64 (List.getD y1 15 .top) fun UC=>Ad .u64 (List.getD y1 16 .top) fun x85=>Ad .u64 (List.getD y1 17 .top) fun YH=>Ai (call 71 [.sc (.int .i64 y0),.agg [.sc (.int .u64 CC),.sc (.int .u64 Zg),.sc (.int .u64 Yl),.sc (.int .u64 CM),.sc (.int .u64 HC),.sc (.int .u64 CE),.sc (.int .u64 EN),.sc (.int .u64 IW),.sc (.int .u64 BL),.sc (.int .u64 Vg),.sc (.int .u64 MO),.sc (.int .u64 KT),.sc (.int .u64 VJ),.sc (.int .u64 XM),.sc (.int .u64 QN),.sc (.int .u64 UC),.sc (.int .u64 x85),.sc (.int .u64 YH)]]) fun UE UD=>Ac UD<|Ab UE fun IX QA=>Ad .u64 IX fun VN=>Ac QA<|Nt fu call a0 a1 a2n a2 (fu) VN 0):=by cases nn with|zero=>exact absurd hnn (Nat.lt_irrefl 0)|succ nn=>kernel_rfl
theorem S4 (fu:Nat)(call:Ah)(a0 a1:Int)(a2n:Nat)(a2:List PV)(nn:Nat)(hnn:0<nn)(y0 y1:Int):Nt fu call a0 a1 a2n a2 nn y0 y1=(some (Aw.mk [.sc (.int .u64 y0),.sc (.int .i64 y1)] [])):=by cases nn with|zero=>exact absurd hnn (Nat.lt_irrefl 0)|succ nn=>kernel_rfl
theorem Y1 {xs:FuncId->Option (List PV->Option Aw)} (fu d:Nat)(a0 a1:Int)(a2n:Nat)(a2:List PV):Ae (CX xs) Tryd.prog fu (d+1) O6 [.sc (.int .i64 a0),.sc (.int .u64 a1),.lst false 1 a2n a2]=(fun (call:Ah)=>Bc ((↑a2n:Int) != 18) (some (Aw.mk [.sc (.int .u64 0),.sc (.int .i64 4)] [])) (Ai (call 50 [.sc (.int .u64 a1)]) fun x1 x2=>Ac x2<|Ab x1 fun x3 x4=>Ez x3 fun x5=>Ab x5 fun x6 x7=>Ad .i64 x6 fun x8=>Ab x7 fun x9 Cp=>Ad .i64 x9 fun C3=>Ab Cp fun Dz Ed=>Ad .i64 Dz fun Dy=>Ab Ed fun Ec Ej=>Ad .i64 Ec fun Fc=>Ab Ej fun F2 F3=>Ad .i64 F2 fun F8=>Ab F3 fun Ij G6=>Ad .i64 Ij fun H7=>Ab G6 fun Dr Dl=>Ad .i64 Dr fun G7=>Ab Dl fun Il E1=>Ad .i64 Il fun Mi=>Ab E1 fun Nd Lf=>Ad .i64 Nd fun Mv=>Ab Lf fun Nv Oa=>Ad .i64 Nv fun Pp=>Ab Oa fun Rh Rw=>Ad .i64 Rh fun Gg=>Ab Rw fun Hv Ug=>Ad .i64 Hv fun Yw=>Ab Ug fun Kw Uo=>Ad .i64 Kw fun S7=>Ab Uo fun Sh Sf=>Ad .i64 Sh fun Wx=>Ab Sf fun Xr R8=>Ad .i64 Xr fun Ve=>Ab R8 fun Ww Wt=>Ad .i64 Ww fun Oi=>Ab Wt fun Y9 DO=>Ad .i64 Y9 fun Zt=>Ab DO fun BN Ut=>Ad .i64 BN fun V8=>Ac Ut<|Ac x4<|Dw fu call a0 a1 a2n a2 (fu) (a0) (a2n) (a2) x8 C3 Dy Fc F8 H7 G7 Mi Mv Pp Gg Yw S7 Wx Ve Oi Zt V8 0 ([.sc (.int .u64 0),.sc (.int .u64 0),.sc (.int .u64 0),.sc (.int .u64 0),.sc (.int .u64 0),.sc (.int .u64 0),.sc (.int .u64 0),.sc (.int .u64 0),.sc (.int .u64 0),.sc (.int .u64 0),.sc (.int .u64 0),.sc (.int .u64 0),.sc (.int .u64 0),.sc (.int .u64 0),.sc (.int .u64 0),.sc (.int .u64 0),.sc (.int .u64 0),.sc (.int .u64 0)]))) (Ae (CX xs) Tryd.prog fu d):=by kernel_rfl
abbrev Pw:FuncId:=52
theorem Z4 {xs:FuncId->Option (List PV->Option Aw)} (fu d:Nat)(a0 a1 a2:Int):Ae (CX xs) Tryd.prog fu (d+1) Pw [.sc (.int .u64 a0),.sc (.int .i64 a1),.sc (.int .i64 a2)]=(fun (call:Ah)=>Aa (wrap .u64 a1) fun x1=>Aa (wrap .u64 a2) fun x2=>Ai (call 43 [.lst false 1 2 [.sc (.int .u64 x1),.sc (.int .u64 x2)]]) fun x3 x4=>Ac x4<|Ab x3 fun x5 x6=>Eg 1 x5 fun x7 x8=>Ac x6<|Ao (decide (0+x7*1<=x8.length))<|Ai (call 70 [.sc (.int .u64 a0),.sc (.int .i64 1),.lst false 1 x7 (List.take (x7*1) (List.drop 0 x8))]) fun x9 Cp=>Ac Cp<|Ab x9 fun C3 Dz=>Ad .u64 C3 fun Ed=>Ac Dz<|some (Aw.mk [.sc (.int .u64 Ed)] [])) (Ae (CX xs) Tryd.prog fu d):=by kernel_rfl
abbrev J0:FuncId:=54
noncomputable def Ea (fu:Nat)(call:Ah)(a0 a1:Int)(nn:Nat)(y0 y1 y2:Int)(y3:List PV):Option Aw:=Dd CB Tryd.prog fu call 54 Tryd.f54 (B9 Tryd.f54) [.sc (.int .u64 a0),.sc (.int .i64 a1)] [.r,.r,.l,.r,.l] nn ⟨lk [(0,(.sc (.int .u64 y0))),(1,(.sc (.int .i64 y1))),(5,(.ptr 5 0)),(7,(.sc (.int .i64 y2)))],Bz [(5,(.ar false y3))]⟩
noncomputable def Ow (fu:Nat)(call:Ah)(a0 a1:Int)(nn:Nat)(y0:Int)(y1:List PV):Option Aw:=Dd CB Tryd.prog fu call 54 Tryd.f54 (B9 Tryd.f54) [.sc (.int .u64 a0),.sc (.int .i64 a1)] [.r,.r] nn ⟨lk [(1,(.sc (.int .i64 y0))),(5,(.ptr 5 0))],Bz [(5,(.ar false y1))]⟩
noncomputable def Oq (fu:Nat)(call:Ah)(a0 a1:Int)(nn:Nat)(y0:Int):Option Aw:=Dd CB Tryd.prog fu call 54 Tryd.f54 (B9 Tryd.f54) [.sc (.int .u64 a0),.sc (.int .i64 a1)] [.r,.r,.r] nn ⟨lk [(4,(.sc (.int .u64 y0)))],Bz []⟩
theorem L5 (fu:Nat)(call:Ah)(a0 a1:Int)(nn:Nat)(y0 y1 y2:Int)(y3:List PV):Ea fu call a0 a1 (nn+1) y0 y1 y2 y3=(Bc (decide (y2<18)) (Ai (call 52 [.sc (.int .u64 y0),.sc (.int .i64 y1),.sc (.int .i64 y2)]) fun x1 x2=>Ac x2<|Ab x1 fun x3 x4=>Ad .u64 x3 fun x5=>Ac x4<|Ai (call 51 [.sc (.int .i64 y1),.sc (.int .i64 y2),.sc (.int .i64 0),.sc (.int .i64 15),.sc (.int .u64 x5)]) fun x6 x7=>Ac x7<|Ab x6 fun x8 x9=>Ad .u64 x8 fun Cp=>Ac x9<|Ao (decide (0<=y2)&&decide (y2<18))<|Ao (decide (0+Int.toNat y2*1+1<=y3.length))<|Aa (Bd y3 [.sc (.int .u64 Cp)] (0+Int.toNat y2*1)) fun C3=>Aa (wrap .i64 (y2+1)) fun Dz=>Ea fu call a0 a1 (nn) (y0) (y1) Dz C3) (Ow fu call a0 a1 (fu) (y1) (y3))):=by kernel_rfl
theorem Un (fu:Nat)(call:Ah)(a0 a1:Int)(nn:Nat)(hnn:0<nn)(y0:Int)(y1:List PV):Ow fu call a0 a1 nn y0 y1=(Ad .u64 (List.getD y1 0 .top) fun Ed=>Ad .u64 (List.getD y1 1 .top) fun Dy=>Ad .u64 (List.getD y1 2 .top) fun Ec=>Ad .u64 (List.getD y1 3 .top) fun Ej=>Ad .u64 (List.getD y1 4 .top) fun Fc=>Ad .u64 (List.getD y1 5 .top) fun F2=>Ad .u64 (List.getD y1 6 .top) fun F3=>Ad .u64 (List.getD y1 7 .top) fun F8=>Ad .u64 (List.getD y1 8 .top) fun Ij=>Ad .u64 (List.getD y1 9 .top) fun G6=>Ad .u64 (List.getD y1 10 .top) fun H7=>Ad .u64 (List.getD y1 11 .top) fun Dr=>Ad .u64 (List.getD y1 12 .top) fun Dl=>Ad .u64 (List.getD y1 13 .top) fun G7=>Ad .u64 (List.getD y1 14 .top) fun Il=>Ad .u64 (List.getD y1 15 .top) fun E1=>Ad .u64 (List.getD y1 16 .top) fun Mi=>Ad .u64 (List.getD y1 17 .top) fun Nd=>Ai (call 71 [.sc (.int .i64 y0),.agg [.sc (.int .u64 Ed),.sc (.int .u64 Dy),.sc (.int .u64 Ec),.sc (.int .u64 Ej),.sc (.int .u64 Fc),.sc (.int .u64 F2),.sc (.int .u64 F3),.sc (.int .u64 F8),.sc (.int .u64 Ij),.sc (.int .u64 G6),.sc (.int .u64 H7),.sc (.int .u64 Dr),.sc (.int .u64 Dl),.sc (.int .u64 G7),.sc (.int .u64 Il),.sc (.int .u64 E1),.sc (.int .u64 Mi),.sc (.int .u64 Nd)]]) fun Lf Mv=>Ac Mv<|Ab Lf fun Nv Oa=>Ad .u64 Nv fun Pp=>Ac Oa<|Oq fu call a0 a1 (fu) Pp):=by cases nn with|zero=>exact absurd hnn (Nat.lt_irrefl 0)|succ nn=>kernel_rfl
theorem U6 (fu:Nat)(call:Ah)(a0 a1:Int)(nn:Nat)(hnn:0<nn)(y0:Int):Oq fu call a0 a1 nn y0=(some (Aw.mk [.sc (.int .u64 y0)] [])):=by cases nn with|zero=>exact absurd hnn (Nat.lt_irrefl 0)|succ nn=>kernel_rfl
theorem Zr {xs:FuncId->Option (List PV->Option Aw)} (fu d:Nat)(a0 a1:Int):Ae (CX xs) Tryd.prog fu (d+1) J0 [.sc (.int .u64 a0),.sc (.int .i64 a1)]=(fun (call:Ah)=>Ea fu call a0 a1 (fu) (a0) (a1) 0 ([.sc (.int .u64 0),.sc (.int .u64 0),.sc (.int .u64 0),.sc (.int .u64 0),.sc (.int .u64 0),.sc (.int .u64 0),.sc (.int .u64 0),.sc (.int .u64 0),.sc (.int .u64 0),.sc (.int .u64 0),.sc (.int .u64 0),.sc (.int .u64 0),.sc (.int .u64 0),.sc (.int .u64 0),.sc (.int .u64 0),.sc (.int .u64 0),.sc (.int .u64 0),.sc (.int .u64 0)])) (Ae (CX xs) Tryd.prog fu d):=by kernel_rfl
abbrev M0:FuncId:=31
noncomputable def Hr (fu:Nat)(call:Ah)(a0 a1 a2:Int)(nn:Nat)(y0 y1:Int)(y2 y3:Int)(y4 y5:Int)(y6 y7:Int)(y8 y9:Int)(y10 M2:Int)(Qo Wu:Int)(Wr Wy:Int)(Ws Wq:Int)(DQ PZ LL:Int)(EB:List PV):Option Aw:=Dd CB Tryd.prog fu call 31 Tryd.f31 (B9 Tryd.f31) [.sc (.int .u64 a0),.sc (.int .i64 a1),.sc (.int .u64 a2)] [.r,.r,.l,.r,.l] nn ⟨lk [(0,(.sc (.int .u64 y0))),(1,(.sc (.int .i64 y1))),(7,(.ptr 7 0)),(11,(.agg [(.sc (.int .i64 y2)),(.sc (.int .i64 y3)),(.sc (.int .i64 y4)),(.sc (.int .i64 y5)),(.sc (.int .i64 y6)),(.sc (.int .i64 y7)),(.sc (.int .i64 y8)),(.sc (.int .i64 y9)),(.sc (.int .i64 y10)),(.sc (.int .i64 M2)),(.sc (.int .i64 Qo)),(.sc (.int .i64 Wu)),(.sc (.int .i64 Wr)),(.sc (.int .i64 Wy)),(.sc (.int .i64 Ws)),(.sc (.int .i64 Wq)),(.sc (.int .i64 DQ)),(.sc (.int .i64 PZ))])),(12,(.sc (.int .i64 LL)))],Bz [(7,(.ar false EB))]⟩
theorem Ol (fu:Nat)(call:Ah)(a0 a1 a2:Int)(nn:Nat)(y0 y1:Int)(y2 y3:Int)(y4 y5:Int)(y6 y7:Int)(y8 y9:Int)(y10 M2:Int)(Qo Wu:Int)(Wr Wy:Int)(Ws Wq:Int)(DQ PZ LL:Int)(EB:List PV):Hr fu call a0 a1 a2 (nn+1) y0 y1 y2 y3 y4 y5 y6 y7 y8 y9 y10 M2 Qo Wu Wr Wy Ws Wq DQ PZ LL EB=(Bc (decide (LL<18)) (Ao (decide (0<=LL)&&decide (LL<18)&&true)<|Ad .i64 (List.getD [.sc (.int .i64 y2),.sc (.int .i64 y3),.sc (.int .i64 y4),.sc (.int .i64 y5),.sc (.int .i64 y6),.sc (.int .i64 y7),.sc (.int .i64 y8),.sc (.int .i64 y9),.sc (.int .i64 y10),.sc (.int .i64 M2),.sc (.int .i64 Qo),.sc (.int .i64 Wu),.sc (.int .i64 Wr),.sc (.int .i64 Wy),.sc (.int .i64 Ws),.sc (.int .i64 Wq),.sc (.int .i64 DQ),.sc (.int .i64 PZ)] (Int.toNat LL*1) .top) fun Z7=>Ai (call 52 [.sc (.int .u64 y0),.sc (.int .i64 y1),.sc (.int .i64 LL)]) fun Zb Tz=>Ac Tz<|Ab Zb fun Zi Y3=>Ad .u64 Zi fun Zs=>Ac Y3<|Ai (call 51 [.sc (.int .i64 y1),.sc (.int .i64 LL),.sc (.int .i64 0),.sc (.int .i64 Z7),.sc (.int .u64 Zs)]) fun Wp Vk=>Ac Vk<|Ab Wp fun DS CC=>Ad .u64 DS fun Zg=>Ac CC<|Ao (decide (0<=LL)&&decide (LL<18))<|Ao (decide (0+Int.toNat LL*1+1<=EB.length))<|Aa (Bd EB [.sc (.int .u64 Zg)] (0+Int.toNat LL*1)) fun Yl=>Aa (wrap .i64 (LL+1)) fun CM=>Hr fu call a0 a1 a2 (nn) (y0) (y1) (y2) (y3) (y4) (y5) (y6) (y7) (y8) (y9) (y10) (M2) (Qo) (Wu) (Wr) (Wy) (Ws) (Wq) (DQ) (PZ) CM Yl) (Ao (decide (18<=EB.length))<|Ao (decide (18<=EB.length))<|some (Aw.mk [.own 1 18 (List.take 18 EB)] []))):=by kernel_rfl
theorem FZ {xs:FuncId->Option (List PV->Option Aw)} (fu d:Nat)(a0 a1 a2:Int):Ae (CX xs) Tryd.prog fu (d+1) M0 [.sc (.int .u64 a0),.sc (.int .i64 a1),.sc (.int .u64 a2)]=(fun (call:Ah)=>Ai (call 50 [.sc (.int .u64 a2)]) fun x1 x2=>Ac x2<|Ab x1 fun x3 x4=>Ez x3 fun x5=>Ab x5 fun x6 x7=>Ad .i64 x6 fun x8=>Ab x7 fun x9 Cp=>Ad .i64 x9 fun C3=>Ab Cp fun Dz Ed=>Ad .i64 Dz fun Dy=>Ab Ed fun Ec Ej=>Ad .i64 Ec fun Fc=>Ab Ej fun F2 F3=>Ad .i64 F2 fun F8=>Ab F3 fun Ij G6=>Ad .i64 Ij fun H7=>Ab G6 fun Dr Dl=>Ad .i64 Dr fun G7=>Ab Dl fun Il E1=>Ad .i64 Il fun Mi=>Ab E1 fun Nd Lf=>Ad .i64 Nd fun Mv=>Ab Lf fun Nv Oa=>Ad .i64 Nv fun Pp=>Ab Oa fun Rh Rw=>Ad .i64 Rh fun Gg=>Ab Rw fun Hv Ug=>Ad .i64 Hv fun Yw=>Ab Ug fun Kw Uo=>Ad .i64 Kw fun S7=>Ab Uo fun Sh Sf=>Ad .i64 Sh fun Wx=>Ab Sf fun Xr R8=>Ad .i64 Xr fun Ve=>Ab R8 fun Ww Wt=>Ad .i64 Ww fun Oi=>Ab Wt fun Y9 DO=>Ad .i64 Y9 fun Zt=>Ab DO fun BN Ut=>Ad .i64 BN fun V8=>Ac Ut<|Ac x4<|Hr fu call a0 a1 a2 (fu) (a0) (a1) x8 C3 Dy Fc F8 H7 G7 Mi Mv Pp Gg Yw S7 Wx Ve Oi Zt V8 0 ([.sc (.int .u64 0),.sc (.int .u64 0),.sc (.int .u64 0),.sc (.int .u64 0),.sc (.int .u64 0),.sc (.int .u64 0),.sc (.int .u64 0),.sc (.int .u64 0),.sc (.int .u64 0),.sc (.int .u64 0),.sc (.int .u64 0),.sc (.int .u64 0),.sc (.int .u64 0),.sc (.int .u64 0),.sc (.int .u64 0),.sc (.int .u64 0),.sc (.int .u64 0),.sc (.int .u64 0)])) (Ae (CX xs) Tryd.prog fu d):=by kernel_rfl
abbrev I0:FuncId:=29
theorem II {xs:FuncId->Option (List PV->Option Aw)} (fu d:Nat)(a0:Int):Ae (CX xs) Tryd.prog fu (d+1) I0 [.sc (.int .i64 a0)]=(fun (call:Ah)=>Bc (decide (a0<0)) (some (Aw.mk [.sc (.bool true)] [])) (some (Aw.mk [.sc (.bool (decide (a0>4)))] []))) (Ae (CX xs) Tryd.prog fu d):=by kernel_rfl
abbrev Gq:FuncId:=30
theorem Xc {xs:FuncId->Option (List PV->Option Aw)} (fu d:Nat)(a0 a1:Int):Ae (CX xs) Tryd.prog fu (d+1) Gq [.sc (.int .i64 a0),.sc (.int .i64 a1)]=(fun (call:Ah)=>Bc (decide (a0<0)) (some (Aw.mk [.sc (.bool true)] [])) (Ao (decide (0<=a1))<|Aa (Gr .i64 1 a1) fun x1=>some (Aw.mk [.sc (.bool (decide (a0>=x1)))] []))) (Ae (CX xs) Tryd.prog fu d):=by kernel_rfl
abbrev R6:FuncId:=46
noncomputable def Fy (fu:Nat)(call:Ah)(a0n:Nat)(a0:List PV)(nn y0:Nat)(y1:List PV)(y2:Nat)(y3 y4:Int)(y5:List PV):Option Aw:=Dd CB Tryd.prog fu call 46 Tryd.f46 (B9 Tryd.f46) [.lst false 1 a0n a0] [.r,.r,.l,.r,.l] nn ⟨lk [(0,(.lst false 1 y0 y1)),(3,(.view 3 1 0 y2)),(12,(.sc (.int .i64 y3))),(13,(.sc (.int .i64 y4)))],Bz [(3,(.ar false y5))]⟩
noncomputable def Hh (fu:Nat)(call:Ah)(a0n:Nat)(a0:List PV)(m0 nn y0:Nat)(y1:List PV)(y2:Nat)(y3 y4 y5:Int)(y6:Nat)(y7:List PV)(y8 y9:Int)(y10:List PV):Option Aw:=Dd CB Tryd.prog fu call 46 Tryd.f46 (B9 Tryd.f46) [.lst false 1 a0n a0] [.r,.r,.l,.r,.l,.i m0,.r,.r,.l,.l,.r,.r,.l] nn ⟨lk [(0,(.lst false 1 y0 y1)),(3,(.view 3 1 0 y2)),(4,(.sc (.int .i64 y3))),(12,(.sc (.int .i64 y4))),(13,(.sc (.int .i64 y5))),(22,(.lst false 1 y6 y7)),(23,(.sc (.int .i64 y8))),(24,(.sc (.int .i64 y9)))],Bz [(3,(.ar false y10))]⟩
theorem M1 (fu:Nat)(call:Ah)(a0n:Nat)(a0:List PV)(nn y0:Nat)(y1:List PV)(y2:Nat)(y3 y4:Int)(y5:List PV):Fy fu call a0n a0 (nn+1) y0 y1 y2 y3 y4 y5=(Bc (decide (y4<y3)) (Aa (wrap .i64 (8*y4)) fun x2=>Aa (wrap .i64 (8*y4)) fun x3=>Aa (wrap .i64 (x3+8)) fun x4=>Ao (decide (0<=x2))<|Ao (decide (0<=x4))<|Ao (decide (Int.toNat x2<=Int.toNat x4)&&decide (Int.toNat x4<=y0))<|Aa (Int.toNat x4-Int.toNat x2) fun x5=>Aa (List.take (x5*1) (List.drop (Int.toNat x2*1) y1)) fun x6=>Hh fu call a0n a0 nn (fu) (y0) (y1) (y2) (y4) (y3) (y4) x5 x6 ((↑x5:Int)) 0 (y5)) (Ao (decide (y2*1<=y5.length))<|some (Aw.mk [.own 1 y2 (List.take (y2*1) y5)] []))):=by kernel_rfl
theorem Nf (fu:Nat)(call:Ah)(a0n:Nat)(a0:List PV)(m0 nn y0:Nat)(y1:List PV)(y2:Nat)(y3 y4 y5:Int)(y6:Nat)(y7:List PV)(y8 y9:Int)(y10:List PV):Hh fu call a0n a0 m0 (nn+1) y0 y1 y2 y3 y4 y5 y6 y7 y8 y9 y10=(Bc (decide (y9<y8)) (Ao (decide (0<=y9)&&decide (y9<(↑y6:Int)))<|Ad .u8 (List.getD y7 (Int.toNat y9*1) .top) fun x7=>Ao (decide (0<=y3)&&decide (y3<(↑y2:Int)))<|Ad .u64 (List.getD y10 (0+Int.toNat y3*1) .top) fun x8=>Aa (Gr .u64 x8 8) fun x9=>Aa (wrap .u64 x7) fun Cp=>Aa (MG .u64 x9 Cp) fun C3=>Ao (decide (0<=y3)&&decide (y3<(↑y2:Int)))<|Ao (decide (0+Int.toNat y3*1+1<=y10.length))<|Aa (Bd y10 [.sc (.int .u64 C3)] (0+Int.toNat y3*1)) fun Dz=>Aa (wrap .i64 (y9+1)) fun Ed=>Hh fu call a0n a0 m0 (nn) (y0) (y1) (y2) (y3) (y4) (y5) (y6) (y7) (y8) Ed Dz) (Aa (wrap .i64 (y5+1)) fun Dy=>Fy fu call a0n a0 (m0) (y0) (y1) (y2) (y4) Dy (y10))):=by kernel_rfl
theorem DH {xs:FuncId->Option (List PV->Option Aw)} (fu d a0n:Nat)(a0:List PV):Ae (CX xs) Tryd.prog fu (d+1) R6 [.lst false 1 a0n a0]=(fun (call:Ah)=>Aa (wrap .i64 (Int.tdiv (↑a0n:Int) 8)) fun x1=>Ao (decide (0<=x1)&&decide (x1<=x1)&&decide (x1*8<=1099511627776)&&decide (x1<=1099511627776))<|Fy fu call a0n a0 (fu) (a0n) (a0) x1.toNat ((↑x1.toNat:Int)) 0 (Qv x1.toNat [.sc (.int .u64 0)])) (Ae (CX xs) Tryd.prog fu d):=by kernel_rfl
abbrev Jr:FuncId:=55
theorem AZ {xs:FuncId->Option (List PV->Option Aw)} (fu d:Nat)(a0 a1 a2:Int):Ae (CX xs) Tryd.prog fu (d+1) Jr [.sc (.int .i64 a0),.sc (.int .u64 a1),.sc (.int .u64 a2)]=(fun (call:Ah)=>Aa (wrap .u64 a0) fun x1=>Ai (call 43 [.lst false 1 3 [.sc (.int .u64 x1),.sc (.int .u64 a1),.sc (.int .u64 a2)]]) fun x2 x3=>Ac x3<|Ab x2 fun x4 x5=>Eg 1 x4 fun x6 x7=>Ac x5<|Ao (decide (0+x6*1<=x7.length))<|Ai (call 28 [.sc (.int .i64 3),.lst false 1 x6 (List.take (x6*1) (List.drop 0 x7))]) fun x8 x9=>Ac x9<|Ab x8 fun Cp C3=>Ad .u64 Cp fun Dz=>Ac C3<|some (Aw.mk [.sc (.int .u64 Dz)] [])) (Ae (CX xs) Tryd.prog fu d):=by kernel_rfl
abbrev Lt:FuncId:=36
theorem Uz {xs:FuncId->Option (List PV->Option Aw)} (fu d:Nat)(a0_0 a0_1:Int):Ae (CX xs) Tryd.prog fu (d+1) Lt [.agg [.sc (.int .i64 a0_0),.sc (.int .u64 a0_1)]]=(fun (call:Ah)=>Ai (call 29 [.sc (.int .i64 a0_0)]) fun x1 x2=>Ac x2<|Ab x1 fun x3 x4=>Bn x3 fun x5=>Ac x4<|Bc x5 (some (Aw.mk [.own 1 0 [],.sc (.int .i64 9)] [])) (Aa (wrap .u8 a0_0) fun x6=>Ai (call 43 [.lst false 1 1 [.sc (.int .u64 a0_1)]]) fun x7 x8=>Ac x8<|Ab x7 fun x9 Cp=>Eg 1 x9 fun C3 Dz=>Ac Cp<|Ao (decide (0+C3*1<=Dz.length))<|Ao (decide (List.length (List.take (C3*1) (List.drop 0 Dz))=C3*1)&&decide ((1+C3)*1<=1099511627776)&&decide (1+C3<=1099511627776))<|Aa (1+C3) fun Ed=>Aa ([.sc (.int .u8 x6)]++List.take (C3*1) (List.drop 0 Dz)) fun Dy=>Ao (decide (Ed*1<=Dy.length))<|some (Aw.mk [.own 1 Ed (List.take (Ed*1) Dy),.sc (.int .i64 0)] []))) (Ae (CX xs) Tryd.prog fu d):=by kernel_rfl
abbrev L8:FuncId:=22
theorem Uy {xs:FuncId->Option (List PV->Option Aw)} (fu d a0n:Nat)(a0:List PV):Ae (CX xs) Tryd.prog fu (d+1) L8 [.lst false 1 a0n a0]=(fun (call:Ah)=>Bc ((↑a0n:Int) != 9) (some (Aw.mk [.agg [.sc (.int .i64 0),.sc (.int .u64 0)],.sc (.int .i64 2)] [])) (Ao (decide (0<(↑a0n:Int)))<|Ad .u8 (List.getD a0 0 .top) fun x1=>Aa (wrap .i64 x1) fun x2=>Ai (call 29 [.sc (.int .i64 x2)]) fun x3 x4=>Ac x4<|Ab x3 fun x5 x6=>Bn x5 fun x7=>Ac x6<|Bc x7 (some (Aw.mk [.agg [.sc (.int .i64 0),.sc (.int .u64 0)],.sc (.int .i64 2)] [])) (Ao (decide (0<(↑a0n:Int)))<|Ad .u8 (List.getD a0 0 .top) fun x8=>Aa (wrap .i64 x8) fun x9=>Ao (decide (1<=a0n)&&decide (a0n<=a0n))<|Aa (a0n-1) fun Cp=>Aa (List.take (Cp*1) (List.drop 1 a0)) fun C3=>Ai (call 46 [.lst false 1 Cp C3]) fun Dz Ed=>Ac Ed<|Ab Dz fun Dy Ec=>Eg 1 Dy fun Ej Fc=>Ac Ec<|Ao (decide (0<(↑Ej:Int)))<|Ad .u64 (List.getD Fc 0 .top) fun F2=>some (Aw.mk [.agg [.sc (.int .i64 x9),.sc (.int .u64 F2)],.sc (.int .i64 0)] [])))) (Ae (CX xs) Tryd.prog fu d):=by kernel_rfl
abbrev Hi:FuncId:=19
theorem Og {xs:FuncId->Option (List PV->Option Aw)} (fu d:Nat)(a0_0:Int)(MW:Nat)(a0_1:List PV)(Ek:Nat)(a0_2:List PV):Ae (CX xs) Tryd.prog fu (d+1) Hi [.agg [.sc (.int .i64 a0_0),.lst false 1 MW a0_1,.lst false 1 Ek a0_2]]=(fun (call:Ah)=>Ai (call 29 [.sc (.int .i64 (↑Ek:Int))]) fun x1 x2=>Ac x2<|Ab x1 fun x3 x4=>Bn x3 fun x5=>Ac x4<|Bc x5 (some (Aw.mk [.own 1 0 [],.sc (.int .i64 9)] [])) (Ai (call 30 [.sc (.int .i64 a0_0),.sc (.int .i64 (↑Ek:Int))]) fun x6 x7=>Ac x7<|Ab x6 fun x8 x9=>Bn x8 fun Cp=>Ac x9<|Bc Cp (some (Aw.mk [.own 1 0 [],.sc (.int .i64 9)] [])) (Bc ((↑MW:Int) != 18) (some (Aw.mk [.own 1 0 [],.sc (.int .i64 4)] [])) (Aa (wrap .u8 a0_0) fun C3=>Aa (wrap .u8 (↑Ek:Int)) fun Dz=>Ai (call 43 [.lst false 1 MW a0_1]) fun Ed Dy=>Ac Dy<|Ab Ed fun Ec Ej=>Eg 1 Ec fun Fc F2=>Ac Ej<|Ao (decide (0+Fc*1<=F2.length))<|Ao (decide (List.length (List.take (Fc*1) (List.drop 0 F2))=Fc*1)&&decide ((2+Fc)*1<=1099511627776)&&decide (2+Fc<=1099511627776))<|Aa (2+Fc) fun F3=>Aa ([.sc (.int .u8 C3),.sc (.int .u8 Dz)]++List.take (Fc*1) (List.drop 0 F2)) fun F8=>Ai (call 43 [.lst false 1 Ek a0_2]) fun Ij G6=>Ac G6<|Ab Ij fun H7 Dr=>Eg 1 H7 fun Dl G7=>Ac Dr<|Ao (decide (0+Dl*1<=G7.length))<|Ao (decide (F3*1<=F8.length)&&decide (List.length (List.take (Dl*1) (List.drop 0 G7))=Dl*1)&&decide ((F3+Dl)*1<=1099511627776)&&decide (F3+Dl<=1099511627776))<|Aa (F3+Dl) fun Il=>Aa (List.take (F3*1) F8++List.take (Dl*1) (List.drop 0 G7)) fun E1=>Ao (decide (Il*1<=E1.length))<|some (Aw.mk [.own 1 Il (List.take (Il*1) E1),.sc (.int .i64 0)] []))))) (Ae (CX xs) Tryd.prog fu d):=by kernel_rfl
abbrev Hj:FuncId:=23
theorem Oj {xs:FuncId->Option (List PV->Option Aw)} (fu d a0n:Nat)(a0:List PV):Ae (CX xs) Tryd.prog fu (d+1) Hj [.lst false 1 a0n a0]=(fun (call:Ah)=>Bc (decide ((↑a0n:Int)<2)) (some (Aw.mk [.agg [.sc (.int .i64 0),.own 1 0 [],.own 1 0 []],.sc (.int .i64 2)] [])) (Ao (decide (0<(↑a0n:Int)))<|Ad .u8 (List.getD a0 0 .top) fun x1=>Aa (wrap .i64 x1) fun x2=>Ao (decide (1<(↑a0n:Int)))<|Ad .u8 (List.getD a0 1 .top) fun x3=>Aa (wrap .i64 x3) fun x4=>Ai (call 29 [.sc (.int .i64 x4)]) fun x5 x6=>Ac x6<|Ab x5 fun x7 x8=>Bn x7 fun x9=>Ac x8<|Bc x9 (some (Aw.mk [.agg [.sc (.int .i64 0),.own 1 0 [],.own 1 0 []],.sc (.int .i64 2)] [])) (Ai (call 30 [.sc (.int .i64 x2),.sc (.int .i64 x4)]) fun Cp C3=>Ac C3<|Ab Cp fun Dz Ed=>Bn Dz fun Dy=>Ac Ed<|Bc Dy (some (Aw.mk [.agg [.sc (.int .i64 0),.own 1 0 [],.own 1 0 []],.sc (.int .i64 2)] [])) (Aa (wrap .i64 (18+x4)) fun Ec=>Aa (wrap .i64 (8*Ec)) fun Ej=>Aa (wrap .i64 (2+Ej)) fun Fc=>Bc ((↑a0n:Int) != Fc) (some (Aw.mk [.agg [.sc (.int .i64 0),.own 1 0 [],.own 1 0 []],.sc (.int .i64 2)] [])) (Ao (decide (146<=a0n))<|Aa (List.take 144 (List.drop 2 a0)) fun F2=>Ai (call 46 [.lst false 1 144 F2]) fun F3 F8=>Ac F8<|Ab F3 fun Ij G6=>Eg 1 Ij fun H7 Dr=>Ac G6<|Ao (decide (146<=a0n)&&decide (a0n<=a0n))<|Aa (a0n-146) fun Dl=>Aa (List.take (Dl*1) (List.drop 146 a0)) fun G7=>Ai (call 46 [.lst false 1 Dl G7]) fun Il E1=>Ac E1<|Ab Il fun Mi Nd=>Eg 1 Mi fun Lf Mv=>Ac Nd<|Ao (decide (H7*1<=Dr.length))<|Ao (decide (Lf*1<=Mv.length))<|some (Aw.mk [.agg [.sc (.int .i64 x2),.own 1 H7 (List.take (H7*1) Dr),.own 1 Lf (List.take (Lf*1) Mv)],.sc (.int .i64 0)] [])))))) (Ae (CX xs) Tryd.prog fu d):=by kernel_rfl
abbrev Py:FuncId:=48
noncomputable def E9 (fu:Nat)(call:Ah)(a0_0 a0_1:Int)(a1 GX:Int)(Tt:Nat)(JF:List PV)(R0:Nat)(JL:List PV)(nn:Nat)(y0:Int)(y1:Nat)(y2:List PV)(y3 y4:Int)(y5 y6 y7:Int)(y8:Nat)(y9:List PV)(y10:Nat)(M2:List PV):Option Aw:=Dd CB Tryd.prog fu call 48 Tryd.f48 (B9 Tryd.f48) [.agg [.sc (.int .i64 a0_0),.sc (.int .u64 a0_1)],.sc (.int .u64 a1),.agg [.sc (.int .i64 GX),.lst false 1 Tt JF,.lst false 1 R0 JL]] [.r,.r,.r,.r,.r,.l,.r,.l] nn ⟨lk [(3,(.ptr 3 0)),(5,(.ptr 5 0)),(7,(.sc (.int .u64 y0))),(46,(.lst false 1 y1 y2)),(47,(.sc (.int .i64 y3))),(48,(.sc (.int .i64 y4)))],Bz [(3,(.st [(.sc (.int .i64 y5)),(.sc (.int .u64 y6))])),(5,(.st [(.sc (.int .i64 y7)),(.lst false 1 y8 y9),(.lst false 1 y10 M2)]))]⟩
theorem Lm (fu:Nat)(call:Ah)(a0_0 a0_1:Int)(a1 GX:Int)(Tt:Nat)(JF:List PV)(R0:Nat)(JL:List PV)(nn:Nat)(y0:Int)(y1:Nat)(y2:List PV)(y3 y4:Int)(y5 y6 y7:Int)(y8:Nat)(y9:List PV)(y10:Nat)(M2:List PV):E9 fu call a0_0 a0_1 a1 GX Tt JF R0 JL (nn+1) y0 y1 y2 y3 y4 y5 y6 y7 y8 y9 y10 M2=(Bc (decide (y4<y3)) (Ao (decide (0<=y4)&&decide (y4<(↑y1:Int)))<|Ad .u64 (List.getD y2 (Int.toNat y4*1) .top) fun F3=>Ao (decide (0<=y4))<|Aa (F6 .i64 y7 y4) fun F8=>Aa (Sd .i64 F8 1) fun Ij=>Bc (Ij==0) (Aa (wrap .i64 (y4+1)) fun G6=>Ai (call 55 [.sc (.int .i64 G6),.sc (.int .u64 y0),.sc (.int .u64 F3)]) fun H7 Dr=>Ac Dr<|Ab H7 fun Dl G7=>Ad .u64 Dl fun Il=>Ac G7<|Aa (wrap .i64 (y4+1)) fun E1=>E9 fu call a0_0 a0_1 a1 GX Tt JF R0 JL (nn) Il (y1) (y2) (y3) E1 (y5) (y6) (y7) (y8) (y9) (y10) (M2)) (Aa (wrap .i64 (y4+1)) fun Mi=>Ai (call 55 [.sc (.int .i64 Mi),.sc (.int .u64 F3),.sc (.int .u64 y0)]) fun Nd Lf=>Ac Lf<|Ab Nd fun Mv Nv=>Ad .u64 Mv fun Oa=>Ac Nv<|Aa (wrap .i64 (y4+1)) fun Pp=>E9 fu call a0_0 a0_1 a1 GX Tt JF R0 JL (nn) Oa (y1) (y2) (y3) Pp (y5) (y6) (y7) (y8) (y9) (y10) (M2))) (Bc (y0 != y6) (some (Aw.mk [.sc (.int .i64 15)] [])) (some (Aw.mk [.sc (.int .i64 0)] [])))):=by kernel_rfl
theorem BF {xs:FuncId->Option (List PV->Option Aw)} (fu d:Nat)(a0_0 a0_1:Int)(a1 GX:Int)(Tt:Nat)(JF:List PV)(R0:Nat)(JL:List PV):Ae (CX xs) Tryd.prog fu (d+1) Py [.agg [.sc (.int .i64 a0_0),.sc (.int .u64 a0_1)],.sc (.int .u64 a1),.agg [.sc (.int .i64 GX),.lst false 1 Tt JF,.lst false 1 R0 JL]]=(fun (call:Ah)=>Ai (call 29 [.sc (.int .i64 a0_0)]) fun x1 x2=>Ac x2<|Ab x1 fun x3 x4=>Bn x3 fun x5=>Ac x4<|Bc x5 (some (Aw.mk [.sc (.int .i64 9)] [])) (Ai (call 30 [.sc (.int .i64 GX),.sc (.int .i64 a0_0)]) fun x6 x7=>Ac x7<|Ab x6 fun x8 x9=>Bn x8 fun Cp=>Ac x9<|Bc Cp (some (Aw.mk [.sc (.int .i64 9)] [])) (Bc ((↑Tt:Int) != 18) (some (Aw.mk [.sc (.int .i64 4)] [])) (Bc ((↑R0:Int) != a0_0) (some (Aw.mk [.sc (.int .i64 4)] [])) (Ai (call 66 [.sc (.int .i64 GX),.sc (.int .u64 a1),.lst false 1 Tt JF]) fun C3 Dz=>Ac Dz<|Ab C3 fun Ed Dy=>Ad .u64 Ed fun Ec=>Ab Dy fun Ej Fc=>Ad .i64 Ej fun F2=>Ac Fc<|Bc (F2 != 0) (some (Aw.mk [.sc (.int .i64 F2)] [])) (E9 fu call a0_0 a0_1 a1 GX Tt JF R0 JL (fu) Ec (R0) (JL) ((↑R0:Int)) 0 (a0_0) (a0_1) (GX) (Tt) (JF) (R0) (JL))))))) (Ae (CX xs) Tryd.prog fu d):=by kernel_rfl
end
section
open Go.IntKind (wrap)
theorem Aje {a m:Int}(h0:0<=m)(h1:m<=18446744073709551615):0<=Sd .u64 a m∧Sd .u64 a m<=m:=by
 have hle:(BitVec.ofInt 64 a &&& BitVec.ofInt 64 m).toNat<=m.toNat:=by
  rw [BitVec.toNat_and];refine Nat.le_trans Nat.and_le_right ?_;rw [BitVec.toNat_ofInt];omega
 have:Sd .u64 a m=((BitVec.ofInt 64 a &&& BitVec.ofInt 64 m).toNat:Int):=by
  unfold Sd;exact Dc (by omega) (by show ((BitVec.ofInt 64 a &&& BitVec.ofInt 64 m).toNat:Int)<=_;omega)
 rw [this];omega
theorem Is (k:IntKind)(l:List Int)(i:Nat)(x:Int):(Ag k l).set i (.sc (.int k x))=Ag k (l.set i x):=by
 induction l generalizing i with
 |nil=>rfl
 |cons a l ih=>
  cases i with
  |zero=>rfl
  |succ i=>
   show (PV.sc (.int k a)::Ag k l).set (i+1) _=PV.sc (.int k a)::Ag k (l.set i x);rw [List.set_cons_succ,ih]
theorem TV (w:Int)(k:Nat):0<=Cq w k∧Cq w k<=255:=by
 unfold Cq;simp only [wrap,IntKind.signed,IntKind.bits];simp;omega
theorem XZ (w:Int):Ik (F0 w):=by
 intro x hx;obtain ⟨k,_,rfl⟩:=List.mem_map.1 hx;exact TV w k
theorem Qu (ws:List Int):Ik (Au ws):=by
 intro x hx;obtain ⟨w,_,hx⟩:=List.mem_flatMap.1 hx;exact XZ w x hx
theorem Cy (ws:List Int):(Au ws).length=8*ws.length:=by
 induction ws with
 |nil=>rfl
 |cons w ws ih=>
  show (F0 w++Au ws).length=_;rw [Ns,ih,Gb,Le];omega
def Ii (m:Int)(k:Nat):Int:=wrap .i64 (Sd .u64 (F6 .u64 m (60-4*(k:Int))) 15)
theorem Sv (m:Int)(k:Nat):0<=Ii m k∧Ii m k<=15:=by
 have:=Aje (a:=F6 .u64 m (60-4*(k:Int))) (m:=15) (by omega) (by omega)
 unfold Ii;rw [Aj (by omega) (by omega)]
 exact this
def Ob (m:Int):Nat->Int
 |0=>0
 |k+1=>Ob m k+(15-Ii m k)
theorem Pf (m:Int):∀k,0<=Ob m k∧Ob m k<=15*k
 |0=>by simp [Ob]
 |k+1=>by
  have h1:=Pf m k;have h2:=Sv m k;simp only [Ob];omega
def dgs (m:Int):List Int:=(List.range 16).map (Ii m)++[Ob m 16 / 16,Ob m 16 % 16]
def dg (m:Int)(k:Nat):Int:=(dgs m).getD k 0
theorem Agv {m x:Int}(h:x∈dgs m):0<=x∧x<=15:=by
 have hs:=Pf m 16;unfold dgs at h;rcases List.mem_append.1 h with h|h
 ·obtain ⟨k,_,rfl⟩:=List.mem_map.1 h;exact Sv m k
 ·simp at h;rcases h with rfl|rfl<;>omega
theorem Zk (m:Int)(k:Nat):0<=dg m k∧dg m k<=15:=by
 unfold dg;rw [List.getD_eq_getElem?_getD];cases h:(dgs m)[k]? with
 |none=>simp
 |some x=>exact Agv (List.mem_of_getElem? h)
def dl (m:Int)(i:Nat):List Int:=(List.range i).map (Ii m)++List.replicate (18-i) 0
theorem VL (m:Int){i:Nat}(h:i<=18):(dl m i).length=18:=by simp [dl];omega
theorem Al5 (m:Int){i:Nat}(h:i<18):(dl m (i+1))[i]?=some (Ii m i):=by
 unfold dl;rw [List.getElem?_append_left (by simp)]
 simp
theorem Ajk (m:Int){i:Nat}(h:i<18):(dl m i).set i (Ii m i)=dl m (i+1):=by
 unfold dl;rw [List.set_append_right _ _ (by simp),List.length_map,List.length_range,Nat.sub_self,show 18-i=(18-(i+1))+1 by omega,List.replicate_succ,List.set_cons_zero,List.range_succ,List.map_append,YW]
 rfl
def Pm (leaf chain:Int):Nat->Int->Int->Int
 |0,_,x=>x
 |k+1,p,x=>Pm leaf chain k (p+1) (M8 1 (Au [wrap .u64 leaf,wrap .u64 chain,wrap .u64 p,x]))
theorem RI (leaf chain:Int):∀(k j:Nat)(p x:Int),Pm leaf chain (k+j) p x=Pm leaf chain j (p+k) (Pm leaf chain k p x)
 |0,j,p,x=>by simp [Pm]
 |k+1,j,p,x=>by
  rw [show k+1+j=(k+j)+1 by omega]
  simp only [Pm];rw [RI leaf chain k j]
  congr 1
  omega
def Vn (leaf:Int)(E:List Int):Int:=M8 2 (Au (wrap .u64 leaf::E))
def XF (leaf m:Int)(s:List Int)(k:Nat):Int:=Pm leaf k (15-dg m k).toNat (dg m k) (s.getD k 0)
def FU (leaf m:Int)(s:List Int):List Int:=(List.range 18).map (XF leaf m s)
def Ab9 (leaf m:Int)(s:List Int):Int:=Vn leaf (FU leaf m s)
def el (leaf m:Int)(s:List Int)(i:Nat):List Int:=(List.range i).map (XF leaf m s)++List.replicate (18-i) 0
theorem Aeo (leaf m:Int)(s:List Int){i:Nat}(h:i<=18):(el leaf m s i).length=18:=by simp [el];omega
theorem Aka (leaf m:Int)(s:List Int){i:Nat}(h:i<18):(el leaf m s i).set i (XF leaf m s i)=el leaf m s (i+1):=by
 unfold el;rw [List.set_append_right _ _ (by simp),List.length_map,List.length_range,Nat.sub_self,show 18-i=(18-(i+1))+1 by omega,List.replicate_succ,List.set_cons_zero,List.range_succ,List.map_append,YW]
 rfl
theorem Alc (leaf m:Int)(s:List Int):el leaf m s 18=FU leaf m s:=by
 unfold el FU;simp
end
section
open Go.IntKind (wrap)
set_option maxRecDepth 20000
section
variable {fu d:Nat} {xs:FuncId->Option (List PV->Option Aw)}
theorem Afd {ws:List Int}(hl:ws.length<=100)(hfu:1000<=fu)(dom:Int):Ae (CX xs) Tryd.prog fu (d+5) Pn [.sc (.int .i64 dom),.lst false 1 (Au ws).length (Ag .u8 (Au ws))]=some ⟨[.sc (.int .u64 (M8 dom (Au ws)))],[]⟩:=
 ZP (Qu ws) (by rw [Cy];omega) (by omega) (by rw [Cy];omega) dom
theorem RR {leaf chain:Int}{a0 a1 a2 a3 a4:Int}(hfu:1000<=fu){t:Int}(ht:t<=15):∀(k nn:Nat)(p x:Int),(k:Int)=t-p->0<=p->k<nn ->
  Io fu (Ae (CX xs) Tryd.prog fu (d+5)) a0 a1 a2 a3 a4 nn leaf chain x t p=some ⟨[.sc (.int .u64 (Pm leaf chain k p x))],[]⟩
 |_,0,_,_,_,_,h=>by omega
 |0,nn+1,p,x,hk,hp,hn=>by
  rw [Qr,Dx _ _ _ (by omega)]
  rfl
 |k+1,nn+1,p,x,hk,hp,hn=>by
  have w:wrap .i64 (p+1)=p+1:=Aj (by omega) (by omega)
  have wd:Ae (CX xs) Tryd.prog fu (d+5) Er [.lst false 1 4 [.sc (.int .u64 (wrap .u64 leaf)),.sc (.int .u64 (wrap .u64 chain)),.sc (.int .u64 (wrap .u64 p)),.sc (.int .u64 x)]]=_:=M4 (ws:=[wrap .u64 leaf,wrap .u64 chain,wrap .u64 p,x]) (by simp) (by omega) (by simp;omega)
  have hs:=Afd (xs:=xs) (fu:=fu) (d:=d) (ws:=[wrap .u64 leaf,wrap .u64 chain,wrap .u64 p,x]) (by simp) hfu 1
  have ih:=RR (leaf:=leaf) (chain:=chain) (a0:=a0) (a1:=a1) (a2:=a2) (a3:=a3) (a4:=a4) hfu ht k nn (p+1) (M8 1 (Au [wrap .u64 leaf,wrap .u64 chain,wrap .u64 p,x])) (by omega) (by omega) (by omega)
  have L:=Al .u8 (Au [wrap .u64 leaf,wrap .u64 chain,wrap .u64 p,x]);have eR:Pm leaf chain (k+1) p x=Pm leaf chain k (p+1) (M8 1 (Au [wrap .u64 leaf,wrap .u64 chain,wrap .u64 p,x])):=rfl;rw [eR];generalize Au [wrap .u64 leaf,wrap .u64 chain,wrap .u64 p,x]=W at wd hs ih L ⊢;rw [Qr];simp (disch:=omega) only [Ca,wd,Cd,C2,Ew,Nz,L,hs,w];exact ih
theorem VI {leaf chain:Int}(hfu:1000<=fu)(k:Nat)(f t x:Int)(hk:(k:Int)=t-f) (h0:0<=f)(h1:t<=15):Ae (CX xs) Tryd.prog fu (d+6) U8 [.sc (.int .i64 leaf),.sc (.int .i64 chain),.sc (.int .i64 f),.sc (.int .i64 t),.sc (.int .u64 x)]=some ⟨[.sc (.int .u64 (Pm leaf chain k f x))],[]⟩:=by
 rw [JN];simp only [F9];rw [A9 (by omega),A9 (by omega)]
 exact RR hfu h1 k fu f x hk h0 (by omega)
theorem CY {call:Ah}{a0 m:Int}{y3:List PV}:∀(k i nn:Nat),i+k=16->k<nn ->
  Fa fu call a0 nn m (Ob m i) i y3 (Ag .i64 (dl m i))=Fa fu call a0 (nn-k) m (Ob m 16) 16 y3 (Ag .i64 (dl m 16))
 |_,_,0,_,h=>by omega
 |0,i,nn+1,hi,hn=>by
  have e:i=16:=by omega
  subst e;rfl
 |k+1,i,nn+1,hi,hn=>by
  have ih:=CY (call:=call) (a0:=a0) (y3:=y3) (m:=m) k (i+1) nn (by omega) (by omega)
  have hb:=Sv m i;have hs:=Pf m i;have w:wrap .i64 ((i:Int)+1)=((i+1:Nat):Int):=by rw [Aj (by omega) (by omega)];omega
  have w4:wrap .i64 (4*(i:Int))=4*(i:Int):=Aj (by omega) (by omega)
  have w60:wrap .i64 (60-4*(i:Int))=60-4*(i:Int):=Aj (by omega) (by omega)
  have hd:wrap .i64 (Sd .u64 (F6 .u64 m (60-4*(i:Int))) 15)=Ii m i:=rfl;have w15:wrap .i64 (15-Ii m i)=15-Ii m i:=Aj (by omega) (by omega)
  have ws:wrap .i64 (Ob m i+(15-Ii m i))=Ob m (i+1):=by rw [Aj (by omega) (by omega)];rfl
  have L:(Ag .i64 (dl m i)).length=18:=by rw [Al,VL m (by omega)]
  have hset:Bd (Ag .i64 (dl m i)) [.sc (.int .i64 (Ii m i))] i=Ag .i64 (dl m (i+1)):=by
   rw [Eu (by omega),Is,Ajk m (by omega)]
  have hat:(Ag .i64 (dl m (i+1))).getD i .top=.sc (.int .i64 (Ii m i)):=V5 (Al5 m (by omega))
  rw [show nn+1-(k+1)=nn-k by omega,←ih,L7]
  simp (disch:=omega) only [Ca,Hw,Cd,C2,w,w4,w60,hd,L,hset,hat,w15,ws]
theorem KJ (hfu:1000<=fu)(m:Int):Ae (CX xs) Tryd.prog fu (d+1) P8 [.sc (.int .u64 m)]=some ⟨[.agg (Ag .i64 (dgs m))],[]⟩:=by
 rw [Zm];have lp:=CY (fu:=fu) (call:=Ae (CX xs) Tryd.prog fu d) (a0:=m) (m:=m) (y3:=Ag .i64 (List.replicate 18 0)) 16 0 fu (by omega) (by omega)
 obtain ⟨f',hf'⟩:∃f',fu-16=f'+1:=⟨fu-17,by omega⟩
 rw [hf'] at lp;refine Eq.trans lp ?_;have hs:=Pf m 16
 have wq:wrap .i64 (Int.tdiv (Ob m 16) 16)=Ob m 16 / 16:=by
  rw [Int.tdiv_eq_ediv_of_nonneg (by omega),Aj (by omega) (by omega)]
 have wm:Int.tmod (Ob m 16) 16=Ob m 16 % 16:=Int.tmod_eq_emod_of_nonneg (by omega)
 have L:(Ag .i64 (dl m 16)).length=18:=by rw [Al,VL m (by omega)]
 have h1:Bd (Ag .i64 (dl m 16)) [.sc (.int .i64 (Ob m 16 / 16))] 16=Ag .i64 ((dl m 16).set 16 (Ob m 16 / 16)):=by
  rw [Eu (by omega),Is]
 have L2:(Ag .i64 ((dl m 16).set 16 (Ob m 16 / 16))).length=18:=by rw [Al,List.length_set,VL m (by omega)]
 have h2:Bd (Ag .i64 ((dl m 16).set 16 (Ob m 16 / 16))) [.sc (.int .i64 (Ob m 16 % 16))] 17=Ag .i64 (dgs m):=by
  rw [Eu (by omega),Is]
  rfl
 rw [L7,Dx _ _ _ (by omega)]
 simp only [F9,wq,wm,L,h1,L2,h2];generalize hq:Ob m 16 / 16=q at *
 generalize hr:Ob m 16 % 16=r at *
 have hD:Ag .i64 (dgs m)=[.sc (.int .i64 (Ii m 0)),.sc (.int .i64 (Ii m 1)),.sc (.int .i64 (Ii m 2)),.sc (.int .i64 (Ii m 3)),.sc (.int .i64 (Ii m 4)),.sc (.int .i64 (Ii m 5)),.sc (.int .i64 (Ii m 6)),.sc (.int .i64 (Ii m 7)),.sc (.int .i64 (Ii m 8)),.sc (.int .i64 (Ii m 9)),.sc (.int .i64 (Ii m 10)),.sc (.int .i64 (Ii m 11)),.sc (.int .i64 (Ii m 12)),.sc (.int .i64 (Ii m 13)),.sc (.int .i64 (Ii m 14)),.sc (.int .i64 (Ii m 15)),.sc (.int .i64 q),.sc (.int .i64 r)]:=by
  unfold dgs;rw [hq,hr];rfl
 rw [hD];have hr18:(Ag .i64 (List.replicate 18 0)).length=18:=rfl
 have hsp:∀c:List PV,c.length=18->Bd (Ag .i64 (List.replicate 18 0)) c 0=c:=by
  intro c hc;unfold Bd;rw [hc,List.drop_of_length_le (by rw [hr18];omega)]
  simp
 rw [U0 (hnn:=by omega)]
 simp only [Ca,List.getD_cons_zero,List.getD_cons_succ,hr18];rw [hsp _ rfl];simp (disch:=omega) only [Ca,Uq,List.getD_cons_zero,List.getD_cons_succ]
theorem GA (hfu:1000<=fu)(leaf:Int){E:List Int}(hE:E.length=18):Ae (CX xs) Tryd.prog fu (d+6) Ov [.sc (.int .i64 leaf),.agg (Ag .u64 E)]=some ⟨[.sc (.int .u64 (Vn leaf E))],[]⟩:=by
 match E,hE with
 |[e0,e1,e2,e3,e4,e5,e6,e7,e8,e9,e10,e11,e12,e13,e14,e15,e16,e17],_=>
  have wd:Ae (CX xs) Tryd.prog fu (d+5) Er [.lst false 1 19 [.sc (.int .u64 (wrap .u64 leaf)),.sc (.int .u64 e0),.sc (.int .u64 e1),.sc (.int .u64 e2),.sc (.int .u64 e3),.sc (.int .u64 e4),.sc (.int .u64 e5),.sc (.int .u64 e6),.sc (.int .u64 e7),.sc (.int .u64 e8),.sc (.int .u64 e9),.sc (.int .u64 e10),.sc (.int .u64 e11),.sc (.int .u64 e12),.sc (.int .u64 e13),.sc (.int .u64 e14),.sc (.int .u64 e15),.sc (.int .u64 e16),.sc (.int .u64 e17)]]=_:=M4 (ws:=wrap .u64 leaf::[e0,e1,e2,e3,e4,e5,e6,e7,e8,e9,e10,e11,e12,e13,e14,e15,e16,e17]) (by simp) (by omega) (by simp;omega)
  have hs:=Afd (xs:=xs) (fu:=fu) (d:=d) (ws:=wrap .u64 leaf::[e0,e1,e2,e3,e4,e5,e6,e7,e8,e9,e10,e11,e12,e13,e14,e15,e16,e17]) (by simp) hfu 2
  have L:=Al .u8 (Au (wrap .u64 leaf::[e0,e1,e2,e3,e4,e5,e6,e7,e8,e9,e10,e11,e12,e13,e14,e15,e16,e17]));have eR:Vn leaf [e0,e1,e2,e3,e4,e5,e6,e7,e8,e9,e10,e11,e12,e13,e14,e15,e16,e17]=M8 2 (Au (wrap .u64 leaf::[e0,e1,e2,e3,e4,e5,e6,e7,e8,e9,e10,e11,e12,e13,e14,e15,e16,e17])):=rfl;rw [eR];generalize Au (wrap .u64 leaf::[e0,e1,e2,e3,e4,e5,e6,e7,e8,e9,e10,e11,e12,e13,e14,e15,e16,e17])=W at wd hs L ⊢;refine (Xq fu (d+5) leaf e0 e1 e2 e3 e4 e5 e6 e7 e8 e9 e10 e11 e12 e13 e14 e15 e16 e17).trans ?_;simp (disch:=omega) only [Ca,wd,Cd,C2,Ew,Nz,L,hs]
theorem Aiy (g:Nat->Int){i:Nat}(hi:i<18):List.getD [PV.sc (.int .i64 (g 0)),PV.sc (.int .i64 (g 1)),PV.sc (.int .i64 (g 2)),PV.sc (.int .i64 (g 3)),PV.sc (.int .i64 (g 4)),PV.sc (.int .i64 (g 5)),PV.sc (.int .i64 (g 6)),PV.sc (.int .i64 (g 7)),PV.sc (.int .i64 (g 8)),PV.sc (.int .i64 (g 9)),PV.sc (.int .i64 (g 10)),PV.sc (.int .i64 (g 11)),PV.sc (.int .i64 (g 12)),PV.sc (.int .i64 (g 13)),PV.sc (.int .i64 (g 14)),PV.sc (.int .i64 (g 15)),PV.sc (.int .i64 (g 16)),PV.sc (.int .i64 (g 17))] i PV.top=.sc (.int .i64 (g i)):=by
 have:((List.range 18).map g)[i]?=some (g i):=by simp [hi]
 exact V5 (k:=.i64) this
theorem Ze {a0 a1:Int}{a2n:Nat}{a2:List PV}{leaf m:Int}{s:List Int}(hs:s.length=18)(hfu:1000<=fu)(g:Nat->Int)(hg:∀k,g k=dg m k):∀(k i nn:Nat),i+k=18->k<nn ->
  Dw fu (Ae (CX xs) Tryd.prog fu (d+6)) a0 a1 a2n a2 nn leaf s.length (Ag .u64 s) (g 0) (g 1) (g 2) (g 3) (g 4) (g 5) (g 6) (g 7) (g 8) (g 9) (g 10) (g 11) (g 12) (g 13) (g 14) (g 15) (g 16) (g 17) i (Ag .u64 (el leaf m s i)) =
   Dw fu (Ae (CX xs) Tryd.prog fu (d+6)) a0 a1 a2n a2 (nn-k) leaf s.length (Ag .u64 s) (g 0) (g 1) (g 2) (g 3) (g 4) (g 5) (g 6) (g 7) (g 8) (g 9) (g 10) (g 11) (g 12) (g 13) (g 14) (g 15) (g 16) (g 17) 18 (Ag .u64 (el leaf m s 18))
 |_,_,0,_,h=>by omega
 |0,i,nn+1,hi,hn=>by
  have e:i=18:=by omega
  subst e;rfl
 |k+1,i,nn+1,hi,hn=>by
  have ih:=Ze (a0:=a0) (a1:=a1) (a2n:=a2n) (a2:=a2) (leaf:=leaf) (m:=m) hs hfu g hg k (i+1) nn (by omega) (by omega)
  obtain ⟨x,hx⟩:∃x,s[i]?=some x:=⟨_,List.getElem?_eq_getElem (by omega)⟩
  have hb:=Zk m i;have hgi:=Aiy g (i:=i) (by omega)
  have w:wrap .i64 ((i:Int)+1)=((i+1:Nat):Int):=by rw [Aj (by omega) (by omega)];omega
  have rn:=VI (xs:=xs) (fu:=fu) (d:=d) (leaf:=leaf) (chain:=i) hfu (15-dg m i).toNat (g i) 15 x (by rw [hg];omega) (by rw [hg];omega) (by omega)
  have ev:Pm leaf i (15-dg m i).toNat (g i) x=XF leaf m s i:=by
   unfold XF;rw [List.getD_eq_getElem?_getD,hx,hg];rfl
  rw [ev] at rn;have L:(Ag .u64 (el leaf m s i)).length=18:=by rw [Al,Aeo leaf m s (by omega)]
  have hset:Bd (Ag .u64 (el leaf m s i)) [.sc (.int .u64 (XF leaf m s i))] i=Ag .u64 (el leaf m s (i+1)):=by
   rw [Eu (by omega),Is,Aka leaf m s (by omega)]
  rw [show nn+1-(k+1)=nn-k by omega,←ih,Kj]
  simp (disch:=omega) only [Ca,Hw,Cd,C2,hgi,V5 hx,rn,L,hset,w]
theorem TY (hfu:1000<=fu){a0 a1 leaf:Int}{a2n n nn:Nat}{a2 c:List PV}{g:Nat->Int}{E:List Int}(hE:E.length=18):
  Dw fu (Ae (CX xs) Tryd.prog fu (d+6)) a0 a1 a2n a2 (nn+1) leaf n c (g 0) (g 1) (g 2) (g 3) (g 4) (g 5) (g 6) (g 7) (g 8) (g 9) (g 10) (g 11) (g 12) (g 13) (g 14) (g 15) (g 16) (g 17) 18 (Ag .u64 E)=some ⟨[.sc (.int .u64 (Vn leaf E)),.sc (.int .i64 0)],[]⟩:=by
 match E,hE with
 |[e0,e1,e2,e3,e4,e5,e6,e7,e8,e9,e10,e11,e12,e13,e14,e15,e16,e17],hE=>
  have cb:=GA (xs:=xs) (fu:=fu) (d:=d) hfu leaf hE;have hc:Ag .u64 [e0,e1,e2,e3,e4,e5,e6,e7,e8,e9,e10,e11,e12,e13,e14,e15,e16,e17]=[.sc (.int .u64 e0),.sc (.int .u64 e1),.sc (.int .u64 e2),.sc (.int .u64 e3),.sc (.int .u64 e4),.sc (.int .u64 e5),.sc (.int .u64 e6),.sc (.int .u64 e7),.sc (.int .u64 e8),.sc (.int .u64 e9),.sc (.int .u64 e10),.sc (.int .u64 e11),.sc (.int .u64 e12),.sc (.int .u64 e13),.sc (.int .u64 e14),.sc (.int .u64 e15),.sc (.int .u64 e16),.sc (.int .u64 e17)]:=rfl;rw [hc] at cb ⊢;generalize Vn leaf [e0,e1,e2,e3,e4,e5,e6,e7,e8,e9,e10,e11,e12,e13,e14,e15,e16,e17]=R at cb ⊢;rw [Kj,Dx _ _ _ (by omega)]
  simp (disch:=omega) only [Ca,So,S4,List.getD_cons_zero,List.getD_cons_succ,cb]
theorem VW (hfu:1000<=fu)(leaf m:Int)(s:List Int):Ae (CX xs) Tryd.prog fu (d+7) O6 [.sc (.int .i64 leaf),.sc (.int .u64 m),.lst false 1 s.length (Ag .u64 s)]=some ⟨(if s.length=18 then [.sc (.int .u64 (Ab9 leaf m s)),.sc (.int .i64 0)] else [.sc (.int .u64 0),.sc (.int .i64 4)]),[]⟩:=by
 rw [Y1];by_cases h:s.length=18
 ·have dq:=KJ (xs:=xs) (fu:=fu) (d:=d+5) hfu m;have hD:Ag .i64 (dgs m)=[.sc (.int .i64 (dg m 0)),.sc (.int .i64 (dg m 1)),.sc (.int .i64 (dg m 2)),.sc (.int .i64 (dg m 3)),.sc (.int .i64 (dg m 4)),.sc (.int .i64 (dg m 5)),.sc (.int .i64 (dg m 6)),.sc (.int .i64 (dg m 7)),.sc (.int .i64 (dg m 8)),.sc (.int .i64 (dg m 9)),.sc (.int .i64 (dg m 10)),.sc (.int .i64 (dg m 11)),.sc (.int .i64 (dg m 12)),.sc (.int .i64 (dg m 13)),.sc (.int .i64 (dg m 14)),.sc (.int .i64 (dg m 15)),.sc (.int .i64 (dg m 16)),.sc (.int .i64 (dg m 17))]:=rfl;rw [hD] at dq;simp only [Ex];rw [Cc h,Cc (by omega)]
  simp only [Ca,dq];have lp:=Ze (xs:=xs) (fu:=fu) (d:=d) (a0:=leaf) (a1:=m) (a2n:=s.length) (a2:=Ag .u64 s) (leaf:=leaf) (m:=m) h hfu (dg m) (fun _=>rfl) 18 0 fu (by omega) (by omega)
  obtain ⟨f',hf'⟩:∃f',fu-18=f'+1:=⟨fu-19,by omega⟩
  rw [hf'] at lp;refine Eq.trans lp ?_;have eE:el leaf m s 18=FU leaf m s:=Alc leaf m s;have hl:(FU leaf m s).length=18:=by rw [←eE,Aeo leaf m s (by omega)]
  have eR:Ab9 leaf m s=Vn leaf (FU leaf m s):=rfl;rw [eE,eR];exact TY hfu hl
 ·simp only [Ex];rw [A9 h,A9 (by omega)]
end
end
section
open Go.IntKind (wrap)
structure Ky where
 h:Int
 root:Int
structure Sg where
 leaf:Int
 chains:List Int
 path:List Int
def Ky.cells (k:Ky):List PV:=[.sc (.int .i64 k.h),.sc (.int .u64 k.root)]
def Sg.cells (s:Sg):List PV:=[.sc (.int .i64 s.leaf),.lst false 1 s.chains.length (Ag .u64 s.chains),.lst false 1 s.path.length (Ag .u64 s.path)]
def C4 (h:Int):Bool:=decide (h<0)||decide (h>4)
def Nn (leaf h:Int):Bool:=decide (leaf<0)||decide (leaf>=Gr .i64 1 h)
def J6 (level a b:Int):Int:=M8 3 (Au [wrap .u64 level,a,b])
def Wd (leaf:Int):Nat->Int->List Int->Int
 |_,x,[]=>x
 |i,x,s::r=>Wd leaf (i+1) (if Sd .i64 (F6 .i64 leaf i) 1=0 then J6 ((i+1:Nat):Int) x s else J6 ((i+1:Nat):Int) s x) r
def okE (x root:Int):Int:=if x=root then 0 else 15
theorem WB (leaf:Int)(i:Nat)(x:Int):Wd leaf i x []=x:=rfl
theorem DC (leaf:Int)(i:Nat)(x s:Int)(r:List Int):Wd leaf i x (s::r)=Wd leaf (i+1) (if Sd .i64 (F6 .i64 leaf i) 1=0 then J6 ((i+1:Nat):Int) x s else J6 ((i+1:Nat):Int) s x) r:=rfl
def QW (k:Ky)(m:Int)(s:Sg):Int:=
 if C4 k.h=true then 9 else if Nn s.leaf k.h=true then 9 else if s.chains.length≠18 then 4 else if (s.path.length:Int)≠k.h then 4 else
 okE (Wd s.leaf 0 (Ab9 s.leaf m s.chains) s.path) k.root
theorem Fn {h:Int}(hh:C4 h=false):0<=h∧h<=4:=by
 unfold C4 at hh;simp at hh;omega
section
variable {fu d:Nat} {xs:FuncId->Option (List PV->Option Aw)}
theorem Ri (h:Int):Ae (CX xs) Tryd.prog fu (d+1) I0 [.sc (.int .i64 h)]=some ⟨[.sc (.bool (C4 h))],[]⟩:=by
 rw [II];unfold C4;by_cases h0:h<0
 ·simp only [Ca,Z5,h0,decide_true,Bool.true_or,if_true]
 ·simp only [Ca,Z5,h0,decide_false,Bool.false_or,if_false]
theorem Ny (leaf h:Int)(h0:0<=h):Ae (CX xs) Tryd.prog fu (d+1) Gq [.sc (.int .i64 leaf),.sc (.int .i64 h)]=some ⟨[.sc (.bool (Nn leaf h))],[]⟩:=by
 rw [Xc];unfold Nn;by_cases hl:leaf<0
 ·simp only [Ca,Z5,hl,decide_true,Bool.true_or,if_true]
 ·simp (disch:=omega) only [Ca,Z5,hl,decide_false,Bool.false_or,if_false]
theorem Z6 (hfu:1000<=fu)(level a b:Int):Ae (CX xs) Tryd.prog fu (d+6) Jr [.sc (.int .i64 level),.sc (.int .u64 a),.sc (.int .u64 b)]=some ⟨[.sc (.int .u64 (J6 level a b))],[]⟩:=by
 have wd:Ae (CX xs) Tryd.prog fu (d+5) Er [.lst false 1 3 [.sc (.int .u64 (wrap .u64 level)),.sc (.int .u64 a),.sc (.int .u64 b)]]=_:=M4 (ws:=[wrap .u64 level,a,b]) (by simp) (by omega) (by simp;omega)
 have hs:=Afd (xs:=xs) (fu:=fu) (d:=d) (ws:=[wrap .u64 level,a,b]) (by simp) hfu 3
 have L:=Al .u8 (Au [wrap .u64 level,a,b]);rw [AZ];unfold J6;generalize Au [wrap .u64 level,a,b]=W at wd hs L ⊢;simp (disch:=omega) only [Ca,wd,Cd,C2,Ew,Nz,L,hs]
theorem DA {a0 a1 a2 a3:Int}{n1 n2 n3 n4:Nat}{c1 c2 c3 c4:List PV}{y5 root leaf:Int}{path:List Int}(hp:path.length<=100)(hfu:1000<=fu):∀(r:List Int)(i nn:Nat)(x:Int),path.drop i=r->r.length<nn->i<=path.length ->
  E9 fu (Ae (CX xs) Tryd.prog fu (d+6)) a0 a1 a2 a3 n1 c1 n2 c2 nn x path.length (Ag .u64 path) path.length i y5 root leaf n3 c3 n4 c4=some ⟨[.sc (.int .i64 (okE (Wd leaf i x r) root))],[]⟩
 |_,_,0,_,_,h,_=>by omega
 |[],i,nn+1,x,h,hn,hi=>by
  have:=drop_nil h;rw [Lm,Dx _ _ _ (by omega),Ex]
  rw [WB];unfold okE;by_cases e:x=root
  ·rw [Cc e,Cc e]
  ·rw [A9 e,A9 e]
 |s::r,i,nn+1,x,h,hn,hi=>by
  obtain ⟨h1,h2,h3⟩:=Co h;simp only [Le] at hn;have w:wrap .i64 ((i:Int)+1)=((i+1:Nat):Int):=by rw [Aj (by omega) (by omega)];omega
  have ih:=fun x=>DA (a0:=a0) (a1:=a1) (a2:=a2) (a3:=a3) (n1:=n1) (n2:=n2) (n3:=n3) (n4:=n4) (c1:=c1) (c2:=c2) (c3:=c3) (c4:=c4) (y5:=y5) (root:=root) (leaf:=leaf) hp hfu r (i+1) nn x h3 (by omega) (by omega)
  have p1:=Z6 (xs:=xs) (fu:=fu) (d:=d) hfu ((i+1:Nat):Int) x s;have p2:=Z6 (xs:=xs) (fu:=fu) (d:=d) hfu ((i+1:Nat):Int) s x;rw [Lm,DC];by_cases hb:Sd .i64 (F6 .i64 leaf i) 1=0
  ·rw [Cc hb,←ih];simp (disch:=omega) only [Ca,Hw,Cd,V5 h2,Iv,hb,w,p1,if_true]
  ·rw [A9 hb,←ih];simp (disch:=omega) only [Ca,Hw,Cd,V5 h2,Iv,hb,w,p2,if_false]
theorem Aad (hfu:1000<=fu)(k:Ky)(m:Int)(s:Sg):Ae (CX xs) Tryd.prog fu (d+8) Py [.agg k.cells,.sc (.int .u64 m),.agg s.cells]=some ⟨[.sc (.int .i64 (QW k m s))],[]⟩:=by
 refine (BF fu (d+7) k.h k.root m s.leaf s.chains.length (Ag .u64 s.chains) s.path.length (Ag .u64 s.path)).trans ?_;have h1:=Ri (xs:=xs) (fu:=fu) (d:=d+6) k.h;unfold QW;cases c1:C4 k.h
 ·rw [c1] at h1;have hb:=Fn c1;have h2:=Ny (xs:=xs) (fu:=fu) (d:=d+6) s.leaf k.h hb.1;cases c2:Nn s.leaf k.h
  ·rw [c2] at h2;by_cases c3:s.chains.length=18
   ·by_cases c4:(s.path.length:Int)=k.h
    ·have rc:=VW (xs:=xs) (fu:=fu) (d:=d) hfu s.leaf m s.chains;rw [Cc c3] at rc;have vl:=DA (xs:=xs) (fu:=fu) (d:=d+1) (a0:=k.h) (a1:=k.root) (a2:=m) (a3:=s.leaf) (n1:=s.chains.length) (n2:=s.path.length) (n3:=s.chains.length) (n4:=s.path.length) (c1:=Ag .u64 s.chains) (c2:=Ag .u64 s.path) (c3:=Ag .u64 s.chains) (c4:=Ag .u64 s.path) (y5:=k.h) (root:=k.root) (leaf:=s.leaf) (path:=s.path) (by omega) hfu s.path 0 fu (Ab9 s.leaf m s.chains) rfl (by omega) (by omega)
     rw [A9 (by simp),A9 (by simp),A9 (by omega),A9 (by omega),←vl]
     simp (disch:=omega) only [Ca,h1,h2,Ex,rc,if_true,c4];rw [Cc (by omega)]
     rfl
    ·rw [A9 (by simp),A9 (by simp),A9 (by omega),Cc c4]
     simp (disch:=omega) only [Ca,h1,h2,Ex,c4,if_false];rw [Cc (by omega)]
   ·rw [A9 (by simp),A9 (by simp),Cc c3]
    simp (disch:=omega) only [Ca,h1,h2,Ex];rw [A9 (by omega)]
  ·rw [c2] at h2;rw [A9 (by simp),Cc rfl]
   simp (disch:=omega) only [Ca,h1,h2]
 ·rw [c1] at h1;rw [Cc rfl];simp (disch:=omega) only [Ca,h1]
def Ma (k:Ky):List Int:=wrap .u8 k.h::F0 k.root
def BB (s:Sg):List Int:=wrap .u8 s.leaf::wrap .u8 s.path.length::(Au s.chains++Au s.path)
theorem owd (hfu:1000<=fu)(w:Int):Ae (CX xs) Tryd.prog fu (d+1) Er [.lst false 1 1 [.sc (.int .u64 w)]]=some ⟨[.own 1 8 (Ag .u8 (F0 w))],[]⟩:=by
 have:=M4 (xs:=xs) (fu:=fu) (d:=d) (ws:=[w]) (by simp) (by omega) (by simp;omega)
 simp only [Au,List.flatMap_cons,List.flatMap_nil,List.append_nil,Le,CV,Gb] at this;exact this
theorem Aac (hfu:1000<=fu)(k:Ky):Ae (CX xs) Tryd.prog fu (d+2) Lt [.agg k.cells]=some ⟨(if C4 k.h=true then [.own 1 0 [],.sc (.int .i64 9)] else [.own 1 9 (Ag .u8 (Ma k)),.sc (.int .i64 0)]),[]⟩:=by
 refine (Uz fu (d+1) k.h k.root).trans ?_;have h1:=Ri (xs:=xs) (fu:=fu) (d:=d) k.h;have wd:=owd (xs:=xs) (fu:=fu) (d:=d) hfu k.root;have L:=Al .u8 (F0 k.root);rw [Gb] at L;have t8:List.take 8 (Ag .u8 (F0 k.root))=Ag .u8 (F0 k.root):=Wz (by omega)
 have t9:List.take 9 ([PV.sc (.int .u8 (wrap .u8 k.h))]++Ag .u8 (F0 k.root))=Ag .u8 (Ma k):=by
  rw [Wz (by rw [Ns,L];simp)]
  rfl
 have L9:([PV.sc (.int .u8 (wrap .u8 k.h))]++Ag .u8 (F0 k.root)).length=9:=by rw [Ns,L];rfl
 cases c1:C4 k.h
 ·rw [c1] at h1;rw [A9 (by simp)]
  simp (disch:=omega) only [Ca,h1,wd,Cd,C2,Ew,L,t8,Nat.reduceAdd,L9,t9]
 ·rw [c1] at h1;rw [Cc rfl];simp (disch:=omega) only [Ca,h1]
theorem Aae (hfu:1000<=fu)(s:Sg)(hp:s.path.length<=1000000000)(hf:s.path.length<fu):Ae (CX xs) Tryd.prog fu (d+2) Hi [.agg s.cells]=some ⟨(if C4 s.path.length=true then [.own 1 0 [],.sc (.int .i64 9)] else if Nn s.leaf s.path.length=true then [.own 1 0 [],.sc (.int .i64 9)] else if s.chains.length≠18 then [.own 1 0 [],.sc (.int .i64 4)] else [.own 1 (BB s).length (Ag .u8 (BB s)),.sc (.int .i64 0)]),[]⟩:=by
 refine (Og fu (d+1) s.leaf s.chains.length (Ag .u64 s.chains) s.path.length (Ag .u64 s.path)).trans ?_;have h1:=Ri (xs:=xs) (fu:=fu) (d:=d) s.path.length;cases c1:C4 s.path.length
 ·rw [c1] at h1;have hb:=Fn c1;have h2:=Ny (xs:=xs) (fu:=fu) (d:=d) s.leaf s.path.length hb.1;cases c2:Nn s.leaf s.path.length
  ·rw [c2] at h2;by_cases c3:s.chains.length=18
   ·have w1:=M4 (xs:=xs) (fu:=fu) (d:=d) (ws:=s.chains) (by omega) (by omega) (by omega)
    have w2:=M4 (xs:=xs) (fu:=fu) (d:=d) (ws:=s.path) (by omega) (by omega) (by omega)
    have l1:=Cy s.chains;have l2:=Cy s.path;have L1:=Al .u8 (Au s.chains);have L2:=Al .u8 (Au s.path)
    have eB:Ag .u8 (BB s)=[PV.sc (.int .u8 (wrap .u8 s.leaf)),PV.sc (.int .u8 (wrap .u8 s.path.length))]++Ag .u8 (Au s.chains)++Ag .u8 (Au s.path):=by
     unfold BB;simp
    have eL:(BB s).length=2+(Au s.chains).length+(Au s.path).length:=by
     unfold BB;simp;omega
    rw [A9 (by simp),A9 (by simp),A9 (by omega),eB,eL]
    have t2:List.take (2+(Au s.chains).length) ([PV.sc (.int .u8 (wrap .u8 s.leaf)),PV.sc (.int .u8 (wrap .u8 s.path.length))]++Ag .u8 (Au s.chains))=[PV.sc (.int .u8 (wrap .u8 s.leaf)),PV.sc (.int .u8 (wrap .u8 s.path.length))]++Ag .u8 (Au s.chains):=Wz (by rw [Ns,L1];simp)
    have t3:List.take (2+(Au s.chains).length+(Au s.path).length) ([PV.sc (.int .u8 (wrap .u8 s.leaf)),PV.sc (.int .u8 (wrap .u8 s.path.length))]++Ag .u8 (Au s.chains)++Ag .u8 (Au s.path))=[PV.sc (.int .u8 (wrap .u8 s.leaf)),PV.sc (.int .u8 (wrap .u8 s.path.length))]++Ag .u8 (Au s.chains)++Ag .u8 (Au s.path):=Wz (by rw [Ns,Ns,L1,L2];simp)
    have k2:([PV.sc (.int .u8 (wrap .u8 s.leaf)),PV.sc (.int .u8 (wrap .u8 s.path.length))]++Ag .u8 (Au s.chains)).length=2+(Au s.chains).length:=by rw [Ns,L1];rfl
    have k3:([PV.sc (.int .u8 (wrap .u8 s.leaf)),PV.sc (.int .u8 (wrap .u8 s.path.length))]++Ag .u8 (Au s.chains)++Ag .u8 (Au s.path)).length=2+(Au s.chains).length+(Au s.path).length:=by rw [Ns,k2,L2]
    simp (disch:=omega) only [Ca,h1,h2,Ex,w1,w2,Cd,C2,Ew,L1,L2,Nz,t2,t3,k2,k3];rw [Cc (by omega)]
   ·rw [A9 (by simp),A9 (by simp),Cc c3]
    simp (disch:=omega) only [Ca,h1,h2,Ex];rw [A9 (by omega)]
  ·rw [c2] at h2;rw [A9 (by simp),Cc rfl]
   simp (disch:=omega) only [Ca,h1,h2]
 ·rw [c1] at h1;rw [Cc rfl];simp (disch:=omega) only [Ca,h1]
def Pi (l:List Int)(i:Nat):Int:=FC ((l.drop (8*i)).take 8)
def Et (l:List Int):List Int:=(List.range (l.length / 8)).map (Pi l)
def wl (l:List Int)(i:Nat):List Int:=(List.range i).map (Pi l)++List.replicate (l.length / 8-i) 0
theorem Ae1 (l:List Int){i:Nat}(h:i<=l.length / 8):(wl l i).length=l.length / 8:=by simp [wl];omega
theorem Akg (l:List Int){i:Nat}(h:i<l.length / 8):(wl l i).set i (Pi l i)=wl l (i+1):=by
 unfold wl;rw [List.set_append_right _ _ (by simp),List.length_map,List.length_range,Nat.sub_self,show l.length / 8-i=(l.length / 8-(i+1))+1 by omega,List.replicate_succ,List.set_cons_zero,List.range_succ,List.map_append,YW]
 rfl
theorem Aie (l:List Int){i:Nat}(h:i<l.length / 8):(wl l i).set i 0=wl l i:=by
 unfold wl;rw [List.set_append_right _ _ (by simp),List.length_map,List.length_range,Nat.sub_self,show l.length / 8-i=(l.length / 8-(i+1))+1 by omega,List.replicate_succ,List.set_cons_zero]
theorem ML {n m0:Nat}{c:List PV}{l:List Int}(hl:l.length<=1000000){i:Nat}(hi:i<l.length / 8){q:List Int}(hq:q.length<=8):∀(r:List Int)(j nn:Nat)(x:Int),q.drop j=r->r.length<nn->j<=q.length ->
  Hh fu (Ae (CX xs) Tryd.prog fu d) n c m0 nn l.length (Ag .u8 l) (l.length / 8) i ((l.length / 8:Nat):Int) i q.length (Ag .u8 q) q.length j (Ag .u64 ((wl l i).set i x)) =
   Fy fu (Ae (CX xs) Tryd.prog fu d) n c m0 l.length (Ag .u8 l) (l.length / 8) ((l.length / 8:Nat):Int) ((i+1:Nat):Int) (Ag .u64 ((wl l i).set i (r.foldl El x)))
 |_,_,0,_,_,h,_=>by omega
 |[],j,nn+1,x,h,hn,hj=>by
  have:=drop_nil h;have w:wrap .i64 ((i:Int)+1)=((i+1:Nat):Int):=by rw [Aj (by omega) (by omega)];omega
  rw [Nf,Dx _ _ _ (by omega)]
  simp only [F9,w,List.foldl_nil]
 |b::r,j,nn+1,x,h,hn,hj=>by
  obtain ⟨h1,h2,h3⟩:=Co h;simp only [Le] at hn;have w:wrap .i64 ((j:Int)+1)=((j+1:Nat):Int):=by rw [Aj (by omega) (by omega)];omega
  have L:(Ag .u64 ((wl l i).set i x)).length=l.length / 8:=by rw [Al,List.length_set,Ae1 l (by omega)]
  have hat:(Ag .u64 ((wl l i).set i x)).getD i .top=.sc (.int .u64 x):=V5 (by rw [List.getElem?_set_self (by rw [Ae1 l (by omega)];omega)])
  have hset:Bd (Ag .u64 ((wl l i).set i x)) [.sc (.int .u64 (El x b))] i=Ag .u64 ((wl l i).set i (El x b)):=by
   rw [Eu (by omega),Is,List.set_set]
  have ih:=ML (n:=n) (m0:=m0) (c:=c) hl hi hq r (j+1) nn (El x b) h3 (by omega) (by omega)
  rw [List.foldl_cons,←ih,Nf];simp (disch:=omega) only [Ca,Hw,Cd,C2,V5 h2,hat,L,w];exact congrArg _ hset
theorem CK {n:Nat}{c:List PV}{l:List Int}(hl:l.length<=1000000)(hfu:100<=fu):∀(k i nn:Nat),i+k=l.length / 8->k<nn ->
  Fy fu (Ae (CX xs) Tryd.prog fu d) n c nn l.length (Ag .u8 l) (l.length / 8) ((l.length / 8:Nat):Int) i (Ag .u64 (wl l i))=some ⟨[.own 1 (l.length / 8) (Ag .u64 (Et l))],[]⟩
 |_,_,0,_,h=>by omega
 |0,i,nn+1,hi,hn=>by
  have e:i=l.length / 8:=by omega
  subst e;have e2:wl l (l.length / 8)=Et l:=by unfold wl Et;simp
  have L:(Ag .u64 (Et l)).length=l.length / 8:=by rw [Al];simp [Et]
  have tk:List.take (l.length / 8) (Ag .u64 (Et l))=Ag .u64 (Et l):=Wz (by omega)
  rw [M1,Dx _ _ _ (by omega),e2]
  simp (disch:=omega) only [Ca,Cd,L,tk]
 |k+1,i,nn+1,hi,hn=>by
  have ih:=CK (n:=n) (c:=c) hl hfu k (i+1) nn (by omega) (by omega)
  have w8:wrap .i64 (8*(i:Int))=((8*i:Nat):Int):=by rw [Aj (by omega) (by omega)];omega
  have w88:wrap .i64 (((8*i:Nat):Int)+8)=((8*i+8:Nat):Int):=by rw [Aj (by omega) (by omega)];omega
  have e8:8*i+8-8*i=8:=by omega
  have hdl:((l.drop (8*i)).take 8).length=8:=by rw [List.length_take,List.length_drop];omega
  have st:=ML (xs:=xs) (fu:=fu) (d:=d) (n:=n) (m0:=nn) (c:=c) hl (i:=i) (by omega) (q:=(l.drop (8*i)).take 8) (by omega) ((l.drop (8*i)).take 8) 0 fu 0 rfl (by omega) (by omega)
  rw [Aie l (by omega),hdl] at st
  have ew:((l.drop (8*i)).take 8).foldl El 0=Pi l i:=rfl;rw [ew,Akg l (by omega),ih] at st
  rw [M1];simp (disch:=omega) only [Ca,Hw,Cd,w8,w88,e8,Ha,Mm];exact st
theorem HB (n:Nat):Qv n [.sc (.int .u64 0)]=Ag .u64 (List.replicate n 0):=by
 induction n with
 |zero=>rfl
 |succ n ih=>
  show ([PV.sc (.int .u64 0)]::List.replicate n [PV.sc (.int .u64 0)]).flatten=_;rw [List.flatten_cons,List.replicate_succ];show _++Qv n [.sc (.int .u64 0)]=PV.sc (.int .u64 0)::Ag .u64 (List.replicate n 0);rw [ih];rfl
theorem Z2 {l:List Int}(hl:l.length<=1000000)(hfu:100<=fu)(hf:l.length<fu):Ae (CX xs) Tryd.prog fu (d+1) R6 [.lst false 1 l.length (Ag .u8 l)]=some ⟨[.own 1 (l.length / 8) (Ag .u64 (Et l))],[]⟩:=by
 rw [DH]
 have w:wrap .i64 (Int.tdiv (l.length:Int) 8)=((l.length / 8:Nat):Int):=by
  rw [Int.tdiv_eq_ediv_of_nonneg (by omega),Aj (by omega) (by omega)]
  omega
 have lp:=CK (xs:=xs) (fu:=fu) (d:=d) (n:=l.length) (c:=Ag .u8 l) hl hfu (l.length / 8) 0 fu (by omega) (by omega)
 have e0:wl l 0=List.replicate (l.length / 8) 0:=by unfold wl;simp
 rw [e0] at lp;simp (disch:=omega) only [Ca,w,Hw,HB,Int.le_refl];exact lp
def FR (l:List Int):Option Ky:=if l.length=9∧C4 (l.getD 0 0)=false then some ⟨l.getD 0 0,Pi (l.drop 1) 0⟩ else none
def WX (o:Option Ky):List PV:=match o with|some k=>[.agg k.cells,.sc (.int .i64 0)]|none=>[.agg (Ky.mk 0 0).cells,.sc (.int .i64 2)]
theorem Aam (hfu:1000<=fu){l:List Int}(hb:Ik l):Ae (CX xs) Tryd.prog fu (d+2) L8 [.lst false 1 l.length (Ag .u8 l)]=some ⟨WX (FR l),[]⟩:=by
 refine (Uy fu (d+1) l.length (Ag .u8 l)).trans ?_;unfold FR;by_cases h9:l.length=9
 ·obtain ⟨x,hx⟩:∃x,l[0]?=some x:=⟨_,List.getElem?_eq_getElem (by omega)⟩
  have hxb:=hb x (List.mem_of_getElem? hx);have wx:wrap .i64 x=x:=Aj (by omega) (by omega)
  have gx:l.getD 0 0=x:=by rw [List.getD_eq_getElem?_getD,hx];rfl
  have h1:=Ri (xs:=xs) (fu:=fu) (d:=d) x;rw [gx];cases c1:C4 x
  ·rw [c1] at h1;have hdl:(l.drop 1).length=8:=by rw [List.length_drop];omega
   have dw:=Z2 (xs:=xs) (fu:=fu) (d:=d) (l:=l.drop 1) (by omega) (by omega) (by omega)
   rw [hdl] at dw;have hat:(Ag .u64 (Et (l.drop 1))).getD 0 .top=.sc (.int .u64 (Pi (l.drop 1) 0)):=V5 (by unfold Et;rw [hdl];rfl)
   have e8:9-1=8:=rfl;have tk:List.take 8 (Ag .u8 (l.drop 1))=Ag .u8 (l.drop 1):=Wz (by rw [Al];omega)
   rw [Cc ⟨h9,rfl⟩,h9];simp (disch:=omega) only [Ca,Ex,V5 hx,wx,h1,Cd,Ha,e8,tk,dw,hat];rfl
  ·rw [c1] at h1;rw [A9 (by simp),h9]
   simp (disch:=omega) only [Ca,Ex,V5 hx,wx,h1];rfl
 ·rw [A9 (by simp [h9])]
  simp (disch:=omega) only [Ex];rw [A9 (by omega)]
  rfl
def sgD (l:List Int):Option Sg:=
 if 2<=l.length∧C4 (l.getD 1 0)=false∧Nn (l.getD 0 0) (l.getD 1 0)=false∧(l.length:Int)=2+8*(18+l.getD 1 0) then some ⟨l.getD 0 0,Et ((l.drop 2).take 144),Et (l.drop 146)⟩ else none
def Sg.owned (s:Sg):List PV:=[.sc (.int .i64 s.leaf),.own 1 s.chains.length (Ag .u64 s.chains),.own 1 s.path.length (Ag .u64 s.path)]
def ZJ (o:Option Sg):List PV:=match o with|some s=>[.agg s.owned,.sc (.int .i64 0)]|none=>[.agg (Sg.mk 0 [] []).owned,.sc (.int .i64 2)]
theorem M6 (l:List Int):(Et l).length=l.length / 8:=by simp [Et]
theorem Abf (hfu:1000<=fu){l:List Int}(hb:Ik l):Ae (CX xs) Tryd.prog fu (d+2) Hj [.lst false 1 l.length (Ag .u8 l)]=some ⟨ZJ (sgD l),[]⟩:=by
 refine (Oj fu (d+1) l.length (Ag .u8 l)).trans ?_;unfold sgD;by_cases h2:2<=l.length
 ·obtain ⟨x,hx⟩:∃x,l[0]?=some x:=⟨_,List.getElem?_eq_getElem (by omega)⟩
  obtain ⟨y,hy⟩:∃y,l[1]?=some y:=⟨_,List.getElem?_eq_getElem (by omega)⟩
  have hxb:=hb x (List.mem_of_getElem? hx);have hyb:=hb y (List.mem_of_getElem? hy);have wx:wrap .i64 x=x:=Aj (by omega) (by omega)
  have wy:wrap .i64 y=y:=Aj (by omega) (by omega)
  have gx:l.getD 0 0=x:=by rw [List.getD_eq_getElem?_getD,hx];rfl
  have gy:l.getD 1 0=y:=by rw [List.getD_eq_getElem?_getD,hy];rfl
  have h1:=Ri (xs:=xs) (fu:=fu) (d:=d) y;have ho:=Ny (xs:=xs) (fu:=fu) (d:=d) x y (by omega)
  have w1:wrap .i64 (18+y)=18+y:=Aj (by omega) (by omega)
  have w2:wrap .i64 (8*(18+y))=8*(18+y):=Aj (by omega) (by omega)
  have w3:wrap .i64 (2+8*(18+y))=2+8*(18+y):=Aj (by omega) (by omega)
  rw [gx,gy];cases c1:C4 y
  ·rw [c1] at h1;cases c2:Nn x y
   ·rw [c2] at ho;by_cases c3:(l.length:Int)=2+8*(18+y)
    ·have hy4:=Fn c1;have d1:=Z2 (xs:=xs) (fu:=fu) (d:=d) (l:=(l.drop 2).take 144) (by rw [List.length_take,List.length_drop];omega) (by omega) (by rw [List.length_take,List.length_drop];omega)
     have d2:=Z2 (xs:=xs) (fu:=fu) (d:=d) (l:=l.drop 146) (by rw [List.length_drop];omega) (by omega) (by rw [List.length_drop];omega)
     have l1:((l.drop 2).take 144).length=144:=by rw [List.length_take,List.length_drop];omega
     have l2:(l.drop 146).length=l.length-146:=List.length_drop;rw [l1] at d1;have L1:(Ag .u64 (Et ((l.drop 2).take 144))).length=18:=by rw [Al,M6,l1]
     have L2:(Ag .u64 (Et (l.drop 146))).length=(l.length-146) / 8:=by rw [Al,M6,l2]
     rw [l2] at d2;have t1:List.take (144 / 8) (Ag .u64 (Et ((l.drop 2).take 144)))=Ag .u64 (Et ((l.drop 2).take 144)):=Wz (by omega)
     have t2:List.take ((l.length-146) / 8) (Ag .u64 (Et (l.drop 146)))=Ag .u64 (Et (l.drop 146)):=Wz (by omega)
     have t3:List.take (l.length-146) (l.drop 146)=l.drop 146:=Wz (by omega)
     rw [Cc ⟨h2,rfl,rfl,c3⟩];simp (disch:=omega) only [Ca,Ex,V5 hx,V5 hy,wx,wy,h1,ho,w1,w2,w3,Cd,Ha,Mm,d1,d2,t3,L1,L2,t1,t2];rw [Cc c3];simp only [ZJ,Sg.owned,M6,l1,l2]
    ·rw [A9 (by simp [c3])]
     simp (disch:=omega) only [Ca,Ex,V5 hx,V5 hy,wx,wy,h1,ho,w1,w2,w3];rw [A9 c3];rfl
   ·rw [c2] at ho;rw [A9 (by simp)]
    simp (disch:=omega) only [Ca,Ex,V5 hx,V5 hy,wx,wy,h1,ho];rfl
  ·rw [c1] at h1;rw [A9 (by simp)]
   simp (disch:=omega) only [Ca,Ex,V5 hx,V5 hy,wx,wy,h1];rfl
 ·rw [A9 (by simp [h2])]
  simp (disch:=omega) only [Ca];rfl
end
end
section
open Go.IntKind (wrap)
def DM (seed leaf chain:Int):Int:=Ahl seed 1 (Au [wrap .u64 leaf,wrap .u64 chain])
def U7 (seed leaf:Int)(c:Nat):Int:=Pm leaf c 15 0 (DM seed leaf c)
def Gt (seed leaf:Int):Int:=Vn leaf ((List.range 18).map (U7 seed leaf))
def GR (seed leaf m:Int)(c:Nat):Int:=Pm leaf c (dg m c).toNat 0 (DM seed leaf c)
def Jt (seed leaf m:Int):List Int:=(List.range 18).map (GR seed leaf m)
def Bw (seed:Int):Nat->Int->Int
 |0,i=>Gt seed i
 |l+1,i=>J6 ((l+1:Nat):Int) (Bw seed l (2*i)) (Bw seed l (2*i+1))
def Js (seed:Int)(h:Int):Ky:=if C4 h=true then ⟨0,0⟩ else ⟨h,Bw seed h.toNat 0⟩
def G0 (leaf:Int)(k:Nat):Int:=Dg .i64 (F6 .i64 leaf k) 1
def V7 (seed:Int)(h leaf m:Int):Option Sg:=if C4 h=true then none else if Nn leaf h=true then none else some ⟨leaf,Jt seed leaf m,(List.range h.toNat).map fun k=>Bw seed k (G0 leaf k)⟩
end
section
open Go.IntKind (wrap)
set_option maxRecDepth 20000
section
variable {fu d:Nat} {xs:FuncId->Option (List PV->Option Aw)}
theorem Aj3 {l:List Int}(hb:Ik l)(hl:l.length<=1099511627776)(hfu:100<=fu)(hf:l.length<fu)(key dom:Int):Ae (CX xs) Tryd.prog fu (d+5) Xz [.sc (.int .u64 key),.sc (.int .i64 dom),.lst false 1 l.length (Ag .u8 l)]=some ⟨[.sc (.int .u64 (Ahl key dom l))],[]⟩:=by
 rw [NL];have s:=Aeu (xs:=xs) (fu:=fu) (d:=d) hb hl hfu hf key (wrap .u64 (1+wrap .u64 dom));simp only [Ca,s];rfl
theorem ND (hfu:1000<=fu)(seed leaf chain:Int):Ae (CX xs) Tryd.prog fu (d+6) Pw [.sc (.int .u64 seed),.sc (.int .i64 leaf),.sc (.int .i64 chain)]=some ⟨[.sc (.int .u64 (DM seed leaf chain))],[]⟩:=by
 have wd:Ae (CX xs) Tryd.prog fu (d+5) Er [.lst false 1 2 [.sc (.int .u64 (wrap .u64 leaf)),.sc (.int .u64 (wrap .u64 chain))]]=_:=M4 (ws:=[wrap .u64 leaf,wrap .u64 chain]) (by simp) (by omega) (by simp;omega)
 have hs:=Aj3 (xs:=xs) (fu:=fu) (d:=d) (Qu [wrap .u64 leaf,wrap .u64 chain]) (by rw [Cy];simp) (by omega) (by rw [Cy];simp;omega) seed 1
 have L:=Al .u8 (Au [wrap .u64 leaf,wrap .u64 chain]);rw [Z4];unfold DM;generalize Au [wrap .u64 leaf,wrap .u64 chain]=W at wd hs L ⊢;simp (disch:=omega) only [Ca,wd,Cd,C2,Ew,Nz,L,hs]
def pl (g:Nat->Int)(i:Nat):List Int:=(List.range i).map g++List.replicate (18-i) 0
theorem VU (g:Nat->Int){i:Nat}(h:i<=18):(pl g i).length=18:=by simp [pl];omega
theorem Aea (g:Nat->Int){i:Nat}(h:i<18):(pl g i).set i (g i)=pl g (i+1):=by
 unfold pl;rw [List.set_append_right _ _ (by simp),List.length_map,List.length_range,Nat.sub_self,show 18-i=(18-(i+1))+1 by omega,List.replicate_succ,List.set_cons_zero,List.range_succ,List.map_append,YW]
 rfl
theorem Ain (g:Nat->Int):pl g 18=(List.range 18).map g:=by simp [pl]
theorem BM {a0 a1 seed leaf:Int}(hfu:1000<=fu):∀(k i nn:Nat),i+k=18->k<nn ->
  Ea fu (Ae (CX xs) Tryd.prog fu (d+6)) a0 a1 nn seed leaf i (Ag .u64 (pl (U7 seed leaf) i))=Ea fu (Ae (CX xs) Tryd.prog fu (d+6)) a0 a1 (nn-k) seed leaf 18 (Ag .u64 (pl (U7 seed leaf) 18))
 |_,_,0,_,h=>by omega
 |0,i,nn+1,hi,hn=>by
  have e:i=18:=by omega
  subst e;rfl
 |k+1,i,nn+1,hi,hn=>by
  have ih:=BM (a0:=a0) (a1:=a1) (seed:=seed) (leaf:=leaf) hfu k (i+1) nn (by omega) (by omega)
  have w:wrap .i64 ((i:Int)+1)=((i+1:Nat):Int):=by rw [Aj (by omega) (by omega)];omega
  have sc:=ND (xs:=xs) (fu:=fu) (d:=d) hfu seed leaf i;have rn:=VI (xs:=xs) (fu:=fu) (d:=d) (leaf:=leaf) (chain:=i) hfu 15 0 15 (DM seed leaf i) (by omega) (by omega) (by omega)
  have ev:Pm leaf i 15 0 (DM seed leaf i)=U7 seed leaf i:=rfl;rw [ev] at rn;have L:(Ag .u64 (pl (U7 seed leaf) i)).length=18:=by rw [Al,VU _ (by omega)]
  have hset:Bd (Ag .u64 (pl (U7 seed leaf) i)) [.sc (.int .u64 (U7 seed leaf i))] i=Ag .u64 (pl (U7 seed leaf) (i+1)):=by
   rw [Eu (by omega),Is,Aea _ (by omega)]
  rw [show nn+1-(k+1)=nn-k by omega,←ih,L5]
  simp (disch:=omega) only [Ca,Hw,Cd,C2,sc,rn,L,hset,w]
theorem VO (hfu:1000<=fu){a0 a1 seed leaf:Int}{nn:Nat}{E:List Int}(hE:E.length=18):
  Ea fu (Ae (CX xs) Tryd.prog fu (d+6)) a0 a1 (nn+1) seed leaf 18 (Ag .u64 E)=some ⟨[.sc (.int .u64 (Vn leaf E))],[]⟩:=by
 match E,hE with
 |[e0,e1,e2,e3,e4,e5,e6,e7,e8,e9,e10,e11,e12,e13,e14,e15,e16,e17],hE=>
  have cb:=GA (xs:=xs) (fu:=fu) (d:=d) hfu leaf hE;have hc:Ag .u64 [e0,e1,e2,e3,e4,e5,e6,e7,e8,e9,e10,e11,e12,e13,e14,e15,e16,e17]=[.sc (.int .u64 e0),.sc (.int .u64 e1),.sc (.int .u64 e2),.sc (.int .u64 e3),.sc (.int .u64 e4),.sc (.int .u64 e5),.sc (.int .u64 e6),.sc (.int .u64 e7),.sc (.int .u64 e8),.sc (.int .u64 e9),.sc (.int .u64 e10),.sc (.int .u64 e11),.sc (.int .u64 e12),.sc (.int .u64 e13),.sc (.int .u64 e14),.sc (.int .u64 e15),.sc (.int .u64 e16),.sc (.int .u64 e17)]:=rfl;rw [hc] at cb ⊢;generalize Vn leaf [e0,e1,e2,e3,e4,e5,e6,e7,e8,e9,e10,e11,e12,e13,e14,e15,e16,e17]=R at cb ⊢;rw [L5,Dx _ _ _ (by omega)]
  simp (disch:=omega) only [Ca,Un,U6,List.getD_cons_zero,List.getD_cons_succ,cb]
theorem Aa8 (hfu:1000<=fu)(seed leaf:Int):Ae (CX xs) Tryd.prog fu (d+7) J0 [.sc (.int .u64 seed),.sc (.int .i64 leaf)]=some ⟨[.sc (.int .u64 (Gt seed leaf))],[]⟩:=by
 rw [Zr];have lp:=BM (xs:=xs) (fu:=fu) (d:=d) (a0:=seed) (a1:=leaf) (seed:=seed) (leaf:=leaf) hfu 18 0 fu (by omega) (by omega)
 obtain ⟨f',hf'⟩:∃f',fu-18=f'+1:=⟨fu-19,by omega⟩
 rw [hf'] at lp;refine Eq.trans lp ?_;rw [Ain];exact VO hfu (by simp)
theorem KW {a0 a1 a2:Int}{seed leaf m:Int}(hfu:1000<=fu)(g:Nat->Int)(hg:∀k,g k=dg m k):∀(k i nn:Nat),i+k=18->k<nn ->
  Hr fu (Ae (CX xs) Tryd.prog fu (d+6)) a0 a1 a2 nn seed leaf (g 0) (g 1) (g 2) (g 3) (g 4) (g 5) (g 6) (g 7) (g 8) (g 9) (g 10) (g 11) (g 12) (g 13) (g 14) (g 15) (g 16) (g 17) i (Ag .u64 (pl (GR seed leaf m) i)) =
   some ⟨[.own 1 18 (Ag .u64 (Jt seed leaf m))],[]⟩
 |_,_,0,_,h=>by omega
 |0,i,nn+1,hi,hn=>by
  have e:i=18:=by omega
  subst e;have L:(Ag .u64 (pl (GR seed leaf m) 18)).length=18:=by rw [Al,VU _ (by omega)]
  have T:List.take 18 (Ag .u64 (pl (GR seed leaf m) 18))=Ag .u64 (Jt seed leaf m):=by rw [Wz (by omega),Ain];rfl
  rw [Ol,Dx _ _ _ (by omega)]
  simp (disch:=omega) only [Ca,L,T]
 |k+1,i,nn+1,hi,hn=>by
  have ih:=KW (a0:=a0) (a1:=a1) (a2:=a2) (seed:=seed) (leaf:=leaf) (m:=m) hfu g hg k (i+1) nn (by omega) (by omega)
  have hb:=Zk m i;have hgi:=Aiy g (i:=i) (by omega)
  have w:wrap .i64 ((i:Int)+1)=((i+1:Nat):Int):=by rw [Aj (by omega) (by omega)];omega
  have sc:=ND (xs:=xs) (fu:=fu) (d:=d) hfu seed leaf i;have rn:=VI (xs:=xs) (fu:=fu) (d:=d) (leaf:=leaf) (chain:=i) hfu (dg m i).toNat 0 (g i) (DM seed leaf i) (by rw [hg];omega) (by omega) (by rw [hg];omega)
  have ev:Pm leaf i (dg m i).toNat 0 (DM seed leaf i)=GR seed leaf m i:=rfl;rw [ev] at rn;have L:(Ag .u64 (pl (GR seed leaf m) i)).length=18:=by rw [Al,VU _ (by omega)]
  have hset:Bd (Ag .u64 (pl (GR seed leaf m) i)) [.sc (.int .u64 (GR seed leaf m i))] i=Ag .u64 (pl (GR seed leaf m) (i+1)):=by
   rw [Eu (by omega),Is,Aea _ (by omega)]
  rw [Ol];simp (disch:=omega) only [Ca,Hw,Cd,C2,hgi,sc,rn,L,hset,w];exact ih
theorem Ah8 (hfu:1000<=fu)(seed leaf m:Int):Ae (CX xs) Tryd.prog fu (d+7) M0 [.sc (.int .u64 seed),.sc (.int .i64 leaf),.sc (.int .u64 m)]=some ⟨[.own 1 18 (Ag .u64 (Jt seed leaf m))],[]⟩:=by
 rw [FZ];have dq:=KJ (xs:=xs) (fu:=fu) (d:=d+5) hfu m;have hD:Ag .i64 (dgs m)=[.sc (.int .i64 (dg m 0)),.sc (.int .i64 (dg m 1)),.sc (.int .i64 (dg m 2)),.sc (.int .i64 (dg m 3)),.sc (.int .i64 (dg m 4)),.sc (.int .i64 (dg m 5)),.sc (.int .i64 (dg m 6)),.sc (.int .i64 (dg m 7)),.sc (.int .i64 (dg m 8)),.sc (.int .i64 (dg m 9)),.sc (.int .i64 (dg m 10)),.sc (.int .i64 (dg m 11)),.sc (.int .i64 (dg m 12)),.sc (.int .i64 (dg m 13)),.sc (.int .i64 (dg m 14)),.sc (.int .i64 (dg m 15)),.sc (.int .i64 (dg m 16)),.sc (.int .i64 (dg m 17))]:=rfl;rw [hD] at dq;simp only [Ca,dq];exact KW (fu:=fu) (d:=d) (a0:=seed) (a1:=leaf) (a2:=m) hfu (dg m) (fun _=>rfl) 18 0 fu (by omega) (by omega)
end
end
section
open Go.IntKind (wrap)
def EZ (h leaf:Int):Bool:=C4 h||Nn leaf h
def tkL (h leaf:Int):Int:=if EZ h leaf=true then 0 else leaf
def tkC (seed h leaf m:Int):List Int:=if EZ h leaf=true then [] else Jt seed leaf m
def tkP (seed h leaf:Int):List Int:=if EZ h leaf=true then [] else (List.range h.toNat).map fun k=>Bw seed k (G0 leaf k)
def tkE (h leaf:Int):Int:=if EZ h leaf=true then 9 else 0
def Ako (args:List PV):Option Aw:=
 match args with
 |[.sc (.int .u64 seed),.sc (.int .i64 h),.sc (.int .i64 leaf),.sc (.int .u64 m)]=>
  some ⟨[.agg [.sc (.int .i64 (tkL h leaf)),.lst false 1 (tkC seed h leaf m).length (Ag .u64 (tkC seed h leaf m)),.lst false 1 (tkP seed h leaf).length (Ag .u64 (tkP seed h leaf))],.sc (.int .i64 (tkE h leaf))],[]⟩
 |_=>none
def Kk (f:FuncId):Option (List PV->Option Aw):=
 bif Nat.beq f 35 then some EV else
 bif Nat.beq f 87 then some Tv else
 bif Nat.beq f 15 then some Ako else
 bif Nat.beq f 1000000 then some (fun _=>none) else none
abbrev C0:Gi:=CX Kk
end
section
open Go.IntKind (wrap)
set_option maxRecDepth 100000
abbrev Kl:FuncId:=33
theorem To (fu d:Nat)(a0:Int):Ae C0 Tryd.prog fu (d+1) Kl [.sc (.int .i64 a0)]=(fun (call:Ah)=>Bc (decide (a0>=0)) (some (Aw.mk [.sc (.bool (decide (a0<=4)))] [])) (some (Aw.mk [.sc (.bool false)] []))) (Ae C0 Tryd.prog fu d):=by kernel_rfl
abbrev Pe:FuncId:=72
noncomputable def F7 (fu:Nat)(call:Ah)(a0 a1:Int)(a2 a3 a4:Int)(nn:Nat)(y0 y1:Int)(y2 y3 y4:Int):Option Aw:=Dd CB Tryd.prog fu call 72 Tryd.f72 (B9 Tryd.f72) [.sc (.int .i64 a0),.sc (.int .i64 a1),.sc (.int .i64 a2),.sc (.int .i64 a3),.sc (.int .u64 a4)] [.r,.l,.r,.l] nn ⟨lk [(0,(.sc (.int .i64 y0))),(1,(.sc (.int .i64 y1))),(3,(.sc (.int .i64 y2))),(4,(.sc (.int .u64 y3))),(11,(.sc (.int .i64 y4)))],Bz []⟩
theorem Kq (fu:Nat)(call:Ah)(a0 a1:Int)(a2 a3 a4:Int)(nn:Nat)(y0 y1:Int)(y2 y3 y4:Int):F7 fu call a0 a1 a2 a3 a4 (nn+1) y0 y1 y2 y3 y4=(Aa (if 15<y2 then 15 else y2) fun x2=>Bc (decide (y4<x2)) (Aa (wrap .u64 y0) fun x3=>Aa (wrap .u64 y1) fun x4=>Aa (wrap .u64 y4) fun x5=>Ai (call 76 [.lst false 1 4 [.sc (.int .u64 x3),.sc (.int .u64 x4),.sc (.int .u64 x5),.sc (.int .u64 y3)]]) fun x6 x7=>Ac x7<|Ab x6 fun x8 x9=>Eg 1 x8 fun Cp C3=>Ac x9<|Ao (decide (0+Cp*1<=C3.length))<|Ai (call 75 [.sc (.int .i64 1),.lst false 1 Cp (List.take (Cp*1) (List.drop 0 C3))]) fun Dz Ed=>Ac Ed<|Ab Dz fun Dy Ec=>Ad .u64 Dy fun Ej=>Ac Ec<|Aa (wrap .i64 (y4+1)) fun Fc=>F7 fu call a0 a1 a2 a3 a4 (nn) (y0) (y1) (y2) Ej Fc) (some (Aw.mk [.sc (.int .u64 y3)] []))):=by kernel_rfl
theorem Ys (fu d:Nat)(a0 a1:Int)(a2 a3 a4:Int):Ae C0 Tryd.prog fu (d+1) Pe [.sc (.int .i64 a0),.sc (.int .i64 a1),.sc (.int .i64 a2),.sc (.int .i64 a3),.sc (.int .u64 a4)]=(fun (call:Ah)=>Aa (if a2<0 then 0 else a2) fun x1=>F7 fu call a0 a1 a2 a3 a4 (fu) (a0) (a1) (a3) (a4) x1) (Ae C0 Tryd.prog fu d):=by kernel_rfl
abbrev Kb:FuncId:=73
theorem S1 (fu d:Nat)(a0 a1 a2:Int):Ae C0 Tryd.prog fu (d+1) Kb [.sc (.int .u64 a0),.sc (.int .i64 a1),.sc (.int .i64 a2)]=(fun (call:Ah)=>Aa (wrap .u64 a1) fun x1=>Aa (wrap .u64 a2) fun x2=>Ai (call 76 [.lst false 1 2 [.sc (.int .u64 x1),.sc (.int .u64 x2)]]) fun x3 x4=>Ac x4<|Ab x3 fun x5 x6=>Eg 1 x5 fun x7 x8=>Ac x6<|Ao (decide (0+x7*1<=x8.length))<|Ai (call 84 [.sc (.int .u64 a0),.sc (.int .i64 1),.lst false 1 x7 (List.take (x7*1) (List.drop 0 x8))]) fun x9 Cp=>Ac Cp<|Ab x9 fun C3 Dz=>Ad .u64 C3 fun Ed=>Ac Dz<|some (Aw.mk [.sc (.int .u64 Ed)] [])) (Ae C0 Tryd.prog fu d):=by kernel_rfl
abbrev Nc:FuncId:=74
theorem Vy (fu d:Nat)(a0:Int)(a1n:Nat)(a1:List PV):Ae C0 Tryd.prog fu (d+1) Nc [.sc (.int .i64 a0),.lst false 1 a1n a1]=(fun (call:Ah)=>Aa (wrap .u64 a0) fun x1=>Ai (call 76 [.lst false 1 1 [.sc (.int .u64 x1)]]) fun x2 x3=>Ac x3<|Ab x2 fun x4 x5=>Eg 1 x4 fun x6 x7=>Ac x5<|Ai (call 76 [.lst false 1 a1n a1]) fun x8 x9=>Ac x9<|Ab x8 fun Cp C3=>Eg 1 Cp fun Dz Ed=>Ac C3<|Ao (decide (0+Dz*1<=Ed.length))<|Ao (decide (x6*1<=x7.length)&&decide (List.length (List.take (Dz*1) (List.drop 0 Ed))=Dz*1)&&decide ((x6+Dz)*1<=1099511627776)&&decide (x6+Dz<=1099511627776))<|Aa (x6+Dz) fun Dy=>Aa (List.take (x6*1) x7++List.take (Dz*1) (List.drop 0 Ed)) fun Ec=>Ao (decide (0+Dy*1<=Ec.length))<|Ai (call 75 [.sc (.int .i64 2),.lst false 1 Dy (List.take (Dy*1) (List.drop 0 Ec))]) fun Ej Fc=>Ac Fc<|Ab Ej fun F2 F3=>Ad .u64 F2 fun F8=>Ac F3<|some (Aw.mk [.sc (.int .u64 F8)] [])) (Ae C0 Tryd.prog fu d):=by kernel_rfl
abbrev My:FuncId:=56
noncomputable def Fl (fu:Nat)(call:Ah)(a0 a1:Int)(nn:Nat)(y0 y1:Int)(y2:Nat)(y3:Int)(y4:List PV):Option Aw:=Dd CB Tryd.prog fu call 56 Tryd.f56 (B9 Tryd.f56) [.sc (.int .u64 a0),.sc (.int .i64 a1)] [.r,.r,.l,.r,.l] nn ⟨lk [(0,(.sc (.int .u64 y0))),(1,(.sc (.int .i64 y1))),(5,(.view 5 1 0 y2)),(6,(.sc (.int .i64 y3)))],Bz [(5,(.ar false y4))]⟩
theorem Jf (fu:Nat)(call:Ah)(a0 a1:Int)(nn:Nat)(y0 y1:Int)(y2:Nat)(y3:Int)(y4:List PV):Fl fu call a0 a1 (nn+1) y0 y1 y2 y3 y4=(Bc (decide (y3<18)) (Ai (call 73 [.sc (.int .u64 y0),.sc (.int .i64 y1),.sc (.int .i64 y3)]) fun x1 x2=>Ac x2<|Ab x1 fun x3 x4=>Ad .u64 x3 fun x5=>Ac x4<|Ai (call 72 [.sc (.int .i64 y1),.sc (.int .i64 y3),.sc (.int .i64 0),.sc (.int .i64 15),.sc (.int .u64 x5)]) fun x6 x7=>Ac x7<|Ab x6 fun x8 x9=>Ad .u64 x8 fun Cp=>Ac x9<|Ao (decide (y2*1<=y4.length)&&true&&decide ((y2+1)*8<=1099511627776)&&decide (y2+1<=1099511627776))<|Aa (y2+1) fun C3=>Aa (List.take (y2*1) y4++[.sc (.int .u64 Cp)]) fun Dz=>Aa (wrap .i64 (y3+1)) fun Ed=>Fl fu call a0 a1 (nn) (y0) (y1) C3 Ed Dz) (Ao (decide (0+y2*1<=y4.length))<|Ai (call 74 [.sc (.int .i64 y1),.lst false 1 y2 (List.take (y2*1) (List.drop 0 y4))]) fun Dy Ec=>Ac Ec<|Ab Dy fun Ej Fc=>Ad .u64 Ej fun F2=>Ac Fc<|some (Aw.mk [.sc (.int .u64 F2)] []))):=by kernel_rfl
theorem V4 (fu d:Nat)(a0 a1:Int):Ae C0 Tryd.prog fu (d+1) My [.sc (.int .u64 a0),.sc (.int .i64 a1)]=(fun (call:Ah)=>Fl fu call a0 a1 (fu) (a0) (a1) 0 0 ([])) (Ae C0 Tryd.prog fu d):=by kernel_rfl
abbrev Kv:FuncId:=57
theorem Td (fu d:Nat)(a0 a1 a2:Int):Ae C0 Tryd.prog fu (d+1) Kv [.sc (.int .i64 a0),.sc (.int .u64 a1),.sc (.int .u64 a2)]=(fun (call:Ah)=>Aa (wrap .u64 a0) fun x1=>Ai (call 76 [.lst false 1 3 [.sc (.int .u64 x1),.sc (.int .u64 a1),.sc (.int .u64 a2)]]) fun x2 x3=>Ac x3<|Ab x2 fun x4 x5=>Eg 1 x4 fun x6 x7=>Ac x5<|Ao (decide (0+x6*1<=x7.length))<|Ai (call 75 [.sc (.int .i64 3),.lst false 1 x6 (List.take (x6*1) (List.drop 0 x7))]) fun x8 x9=>Ac x9<|Ab x8 fun Cp C3=>Ad .u64 Cp fun Dz=>Ac C3<|some (Aw.mk [.sc (.int .u64 Dz)] [])) (Ae C0 Tryd.prog fu d):=by kernel_rfl
abbrev Ni:FuncId:=34
theorem M7 (fu d:Nat)(a0 a1 a2:Int):Ae C0 Tryd.prog fu (d+1) Ni [.sc (.int .u64 a0),.sc (.int .i64 a1),.sc (.int .i64 a2)]=(fun (call:Ah)=>Bc (a1==0) (Ai (call 56 [.sc (.int .u64 a0),.sc (.int .i64 a2)]) fun x1 x2=>Ac x2<|Ab x1 fun x3 x4=>Ad .u64 x3 fun x5=>Ac x4<|some (Aw.mk [.sc (.int .u64 x5)] [])) (Aa (wrap .i64 (a1-1)) fun x6=>Aa (wrap .i64 (2*a2)) fun x7=>Ai (call 34 [.sc (.int .u64 a0),.sc (.int .i64 x6),.sc (.int .i64 x7)]) fun x8 x9=>Ac x9<|Ab x8 fun Cp C3=>Ad .u64 Cp fun Dz=>Ac C3<|Aa (wrap .i64 (a1-1)) fun Ed=>Aa (wrap .i64 (2*a2)) fun Dy=>Aa (wrap .i64 (Dy+1)) fun Ec=>Ai (call 34 [.sc (.int .u64 a0),.sc (.int .i64 Ed),.sc (.int .i64 Ec)]) fun Ej Fc=>Ac Fc<|Ab Ej fun F2 F3=>Ad .u64 F2 fun F8=>Ac F3<|Ai (call 57 [.sc (.int .i64 a1),.sc (.int .u64 Dz),.sc (.int .u64 F8)]) fun Ij G6=>Ac G6<|Ab Ij fun H7 Dr=>Ad .u64 H7 fun Dl=>Ac Dr<|some (Aw.mk [.sc (.int .u64 Dl)] []))) (Ae C0 Tryd.prog fu d):=by kernel_rfl
abbrev Kt:FuncId:=16
theorem Su (fu d:Nat)(a0 a1:Int):Ae C0 Tryd.prog fu (d+1) Kt [.sc (.int .u64 a0),.sc (.int .i64 a1)]=(fun (call:Ah)=>Ai (call 33 [.sc (.int .i64 a1)]) fun x1 x2=>Ac x2<|Ab x1 fun x3 x4=>Bn x3 fun x5=>Ac x4<|Bc (!x5) (some (Aw.mk [.agg [.sc (.int .i64 0),.sc (.int .u64 0)],.sc (.int .i64 9)] [])) (Ai (call 34 [.sc (.int .u64 a0),.sc (.int .i64 a1),.sc (.int .i64 0)]) fun x6 x7=>Ac x7<|Ab x6 fun x8 x9=>Ad .u64 x8 fun Cp=>Ac x9<|some (Aw.mk [.agg [.sc (.int .i64 a1),.sc (.int .u64 Cp)],.sc (.int .i64 0)] []))) (Ae C0 Tryd.prog fu d):=by kernel_rfl
abbrev H8:FuncId:=47
noncomputable def D2 (fu:Nat)(call:Ah)(a0n:Nat)(a0:List PV)(a1n:Nat)(a1:List PV)(nn y0:Nat)(y1:List PV)(y2:Nat)(y3:List PV)(y4:Int):Option Aw:=Dd CB Tryd.prog fu call 47 Tryd.f47 (B9 Tryd.f47) [.lst false 1 a0n a0,.lst false 1 a1n a1] [.r,.r,.l,.r,.l] nn ⟨lk [(0,(.lst false 1 y0 y1)),(1,(.lst false 1 y2 y3)),(5,(.sc (.int .i64 y4)))],Bz []⟩
theorem G3 (fu:Nat)(call:Ah)(a0n:Nat)(a0:List PV)(a1n:Nat)(a1:List PV)(nn y0:Nat)(y1:List PV)(y2:Nat)(y3:List PV)(y4:Int):D2 fu call a0n a0 a1n a1 (nn+1) y0 y1 y2 y3 y4=(Bc (decide (y4<(↑y0:Int))) (Ao (decide (0<=y4)&&decide (y4<(↑y0:Int)))<|Ad .u64 (List.getD y1 (Int.toNat y4*1) .top) fun x1=>Ao (decide (0<=y4)&&decide (y4<(↑y2:Int)))<|Ad .u64 (List.getD y3 (Int.toNat y4*1) .top) fun x2=>Bc (x1 != x2) (some (Aw.mk [.sc (.bool false)] [])) (Aa (wrap .i64 (y4+1)) fun x3=>D2 fu call a0n a0 a1n a1 (nn) (y0) (y1) (y2) (y3) x3)) (some (Aw.mk [.sc (.bool true)] []))):=by kernel_rfl
theorem P7 (fu d a0n:Nat)(a0:List PV)(a1n:Nat)(a1:List PV):Ae C0 Tryd.prog fu (d+1) H8 [.lst false 1 a0n a0,.lst false 1 a1n a1]=(fun (call:Ah)=>Bc ((↑a0n:Int) != (↑a1n:Int)) (some (Aw.mk [.sc (.bool false)] [])) (D2 fu call a0n a0 a1n a1 (fu) (a0n) (a0) (a1n) (a1) 0)) (Ae C0 Tryd.prog fu d):=by kernel_rfl
abbrev Gm:FuncId:=25
theorem Mh (fu d:Nat)(a0_0:Int)(MW:Nat)(a0_1:List PV)(Ek:Nat)(a0_2:List PV)(a1_0:Int)(Aii:Nat)(a1_1:List PV)(Aiv:Nat)(a1_2:List PV):Ae C0 Tryd.prog fu (d+1) Gm [.agg [.sc (.int .i64 a0_0),.lst false 1 MW a0_1,.lst false 1 Ek a0_2],.agg [.sc (.int .i64 a1_0),.lst false 1 Aii a1_1,.lst false 1 Aiv a1_2]]=(fun (call:Ah)=>Bc (a0_0==a1_0) (Ai (call 47 [.lst false 1 MW a0_1,.lst false 1 Aii a1_1]) fun x1 x2=>Ac x2<|Ab x1 fun x3 x4=>Bn x3 fun x5=>Ac x4<|Bc x5 (Ai (call 47 [.lst false 1 Ek a0_2,.lst false 1 Aiv a1_2]) fun x6 x7=>Ac x7<|Ab x6 fun x8 x9=>Bn x8 fun Cp=>Ac x9<|some (Aw.mk [.sc (.bool Cp)] [])) (some (Aw.mk [.sc (.bool false)] []))) (some (Aw.mk [.sc (.bool false)] []))) (Ae C0 Tryd.prog fu d):=by kernel_rfl
end
section
open Go.IntKind (wrap)
theorem WS {α:Type}(f:Nat->α)(i:Nat):(List.range (i+1)).map f=(List.range i).map f++[f i]:=by
 rw [List.range_succ,List.map_append];rfl
section
variable {fu d:Nat}
theorem UV (h:Int):Ae C0 Tryd.prog fu (d+1) Kl [.sc (.int .i64 h)]=some ⟨[.sc (.bool (!C4 h))],[]⟩:=by
 rw [To];unfold C4;by_cases h0:h<0
 ·simp (disch:=omega) only [Ca,h0,decide_true,Bool.true_or,D9]
 ·have e:decide (h<=4) = !decide (h>4):=by
   by_cases c:h<=4
   ·have:¬h>4:=by omega
    simp [c,this]
   ·have:h>4:=by omega
    simp [c,this]
  simp (disch:=omega) only [Ca,h0,decide_false,Bool.false_or,e]
theorem XH {ws:List Int}(hl:ws.length<=100)(hfu:1000<=fu)(dom:Int):Ae C0 Tryd.prog fu (d+4) H5 [.sc (.int .i64 dom),.lst false 1 (Au ws).length (Ag .u8 (Au ws))]=some ⟨[.sc (.int .u64 (M8 dom (Au ws)))],[]⟩:=
 Adt (xs:=Kk) (Qu ws) (by rw [Cy];omega) (by omega) (by rw [Cy];omega) dom
theorem KS {leaf chain:Int}{a0 a1 a2 a3 a4:Int}(hfu:1000<=fu){t:Int}(ht:t<=15):∀(k nn:Nat)(p x:Int),(k:Int)=t-p->0<=p->k<nn ->
  F7 fu (Ae C0 Tryd.prog fu (d+4)) a0 a1 a2 a3 a4 nn leaf chain t x p=some ⟨[.sc (.int .u64 (Pm leaf chain k p x))],[]⟩
 |_,0,_,_,_,_,h=>by omega
 |0,nn+1,p,x,hk,hp,hn=>by
  rw [Kq];simp only [F9];rw [A9 (by omega),Dx _ _ _ (by omega)]
  rfl
 |k+1,nn+1,p,x,hk,hp,hn=>by
  have w:wrap .i64 (p+1)=p+1:=Aj (by omega) (by omega)
  have wd:Ae C0 Tryd.prog fu (d+4) Dj [.lst false 1 4 [.sc (.int .u64 (wrap .u64 leaf)),.sc (.int .u64 (wrap .u64 chain)),.sc (.int .u64 (wrap .u64 p)),.sc (.int .u64 x)]]=_:=Qe (xs:=Kk) (ws:=[wrap .u64 leaf,wrap .u64 chain,wrap .u64 p,x]) (by simp) (by omega) (by simp;omega)
  have hs:=XH (fu:=fu) (d:=d) (ws:=[wrap .u64 leaf,wrap .u64 chain,wrap .u64 p,x]) (by simp) hfu 1
  have ih:=KS (leaf:=leaf) (chain:=chain) (a0:=a0) (a1:=a1) (a2:=a2) (a3:=a3) (a4:=a4) hfu ht k nn (p+1) (M8 1 (Au [wrap .u64 leaf,wrap .u64 chain,wrap .u64 p,x])) (by omega) (by omega) (by omega)
  have L:=Al .u8 (Au [wrap .u64 leaf,wrap .u64 chain,wrap .u64 p,x]);have eR:Pm leaf chain (k+1) p x=Pm leaf chain k (p+1) (M8 1 (Au [wrap .u64 leaf,wrap .u64 chain,wrap .u64 p,x])):=rfl;rw [eR];generalize Au [wrap .u64 leaf,wrap .u64 chain,wrap .u64 p,x]=W at wd hs ih L ⊢;have e15:(if (15:Int)<t then 15 else t)=t:=A9 (by omega)
  rw [Kq];simp (disch:=omega) only [Ca,e15,wd,Cd,C2,Ew,Nz,L,hs,w];exact ih
theorem Ahz {leaf chain:Int}(hfu:1000<=fu)(k:Nat)(f t x:Int)(hk:(k:Int)=t-f) (h0:0<=f)(h1:t<=15):Ae C0 Tryd.prog fu (d+5) Pe [.sc (.int .i64 leaf),.sc (.int .i64 chain),.sc (.int .i64 f),.sc (.int .i64 t),.sc (.int .u64 x)]=some ⟨[.sc (.int .u64 (Pm leaf chain k f x))],[]⟩:=by
 rw [Ys];simp only [F9];rw [A9 (by omega)]
 exact KS hfu h1 k fu f x hk h0 (by omega)
theorem WH (hfu:1000<=fu)(seed leaf chain:Int):Ae C0 Tryd.prog fu (d+5) Kb [.sc (.int .u64 seed),.sc (.int .i64 leaf),.sc (.int .i64 chain)]=some ⟨[.sc (.int .u64 (DM seed leaf chain))],[]⟩:=by
 have wd:Ae C0 Tryd.prog fu (d+4) Dj [.lst false 1 2 [.sc (.int .u64 (wrap .u64 leaf)),.sc (.int .u64 (wrap .u64 chain))]]=_:=Qe (xs:=Kk) (ws:=[wrap .u64 leaf,wrap .u64 chain]) (by simp) (by omega) (by simp;omega)
 have hs:=Ago (xs:=Kk) (fu:=fu) (d:=d) (Qu [wrap .u64 leaf,wrap .u64 chain]) (by rw [Cy];simp) (by omega) (by rw [Cy];simp;omega) seed 1
 have L:=Al .u8 (Au [wrap .u64 leaf,wrap .u64 chain]);rw [S1];unfold DM;generalize Au [wrap .u64 leaf,wrap .u64 chain]=W at wd hs L ⊢;simp (disch:=omega) only [Ca,wd,Cd,C2,Ew,Nz,L,hs]
theorem Aoe (hfu:1000<=fu)(w:Int):Ae C0 Tryd.prog fu (d+1) Dj [.lst false 1 1 [.sc (.int .u64 w)]]=some ⟨[.own 1 8 (Ag .u8 (F0 w))],[]⟩:=by
 have:=Qe (xs:=Kk) (fu:=fu) (d:=d) (ws:=[w]) (by simp) (by omega) (by simp;omega)
 simp only [Au,List.flatMap_cons,List.flatMap_nil,List.append_nil,Le,CV,Gb] at this;exact this
theorem Afl (hfu:1000<=fu)(leaf:Int){E:List Int}(hE:E.length<=50):Ae C0 Tryd.prog fu (d+5) Nc [.sc (.int .i64 leaf),.lst false 1 E.length (Ag .u64 E)]=some ⟨[.sc (.int .u64 (Vn leaf E))],[]⟩:=by
 have w1:=Aoe (fu:=fu) (d:=d+3) hfu (wrap .u64 leaf);have w2:=Qe (xs:=Kk) (fu:=fu) (d:=d+3) (ws:=E) (by omega) (by omega) (by omega)
 have hs:=XH (fu:=fu) (d:=d) (ws:=wrap .u64 leaf::E) (by simp;omega) hfu 2
 have eW:Au (wrap .u64 leaf::E)=F0 (wrap .u64 leaf)++Au E:=rfl
 have eC:Ag .u8 (F0 (wrap .u64 leaf))++Ag .u8 (Au E)=Ag .u8 (Au (wrap .u64 leaf::E)):=by
  rw [eW,Ag,Ag,Ag,List.flatMap_append]
 have l0:(F0 (wrap .u64 leaf)).length=8:=Gb _;have l1:=Cy E;have l2:(Au (wrap .u64 leaf::E)).length=8+(Au E).length:=by rw [eW,Ns,l0]
 have L0:=Al .u8 (F0 (wrap .u64 leaf));rw [l0] at L0;have L1:=Al .u8 (Au E);have L2:=Al .u8 (Au (wrap .u64 leaf::E));have t8:List.take 8 (Ag .u8 (F0 (wrap .u64 leaf)))=Ag .u8 (F0 (wrap .u64 leaf)):=Wz (by omega)
 have tW:List.take (8+(Au E).length) (Ag .u8 (Au (wrap .u64 leaf::E)))=Ag .u8 (Au (wrap .u64 leaf::E)):=Wz (by omega)
 rw [l2] at hs;rw [Vy];simp (disch:=omega) only [Ca,w1,w2,Cd,C2,Ew,Nz,t8,L0,L1,eC,L2,tW,hs];rfl
theorem IU {a0 a1 seed leaf:Int}(hfu:1000<=fu):∀(k nn i:Nat),i+k=18->k<nn ->
  Fl fu (Ae C0 Tryd.prog fu (d+5)) a0 a1 nn seed leaf ((List.range i).map (U7 seed leaf)).length i (Ag .u64 ((List.range i).map (U7 seed leaf)))=some ⟨[.sc (.int .u64 (Gt seed leaf))],[]⟩
 |_,0,_,_,h=>by omega
 |0,nn+1,i,hi,hn=>by
  have e:i=18:=by omega
  subst e;have l18:((List.range 18).map (U7 seed leaf)).length=18:=by simp
  have en:=Afl (fu:=fu) (d:=d) hfu leaf (E:=(List.range 18).map (U7 seed leaf)) (by omega)
  have L:=Al .u64 ((List.range 18).map (U7 seed leaf));rw [Jf,Dx _ _ _ (by omega)]
  simp (disch:=omega) only [Ca,Cd,C2,Ew,Nz,L,en];rfl
 |k+1,nn+1,i,hi,hn=>by
  have ih:=IU (a0:=a0) (a1:=a1) (seed:=seed) (leaf:=leaf) hfu k nn (i+1) (by omega) (by omega)
  have sc:=WH (fu:=fu) (d:=d) hfu seed leaf i;have rn:=Ahz (fu:=fu) (d:=d) (leaf:=leaf) (chain:=i) hfu 15 0 15 (DM seed leaf i) (by omega) (by omega) (by omega)
  have w:wrap .i64 ((i:Int)+1)=((i+1:Nat):Int):=by rw [Aj (by omega) (by omega)];omega
  have L:=Al .u64 ((List.range i).map (U7 seed leaf));have li:((List.range i).map (U7 seed leaf)).length=i:=by simp
  rw [WS,Ns,List.length_singleton,←G5] at ih;rw [Jf];simp (disch:=omega) only [Ca,sc,rn,Cd,Nz,L,w];exact ih
theorem Af4 (hfu:1000<=fu)(seed leaf:Int):Ae C0 Tryd.prog fu (d+6) My [.sc (.int .u64 seed),.sc (.int .i64 leaf)]=some ⟨[.sc (.int .u64 (Gt seed leaf))],[]⟩:=by
 rw [V4];exact IU (fu:=fu) (d:=d) hfu 18 fu 0 (by omega) (by omega)
theorem WV (hfu:1000<=fu)(level a b:Int):Ae C0 Tryd.prog fu (d+5) Kv [.sc (.int .i64 level),.sc (.int .u64 a),.sc (.int .u64 b)]=some ⟨[.sc (.int .u64 (J6 level a b))],[]⟩:=by
 have wd:Ae C0 Tryd.prog fu (d+4) Dj [.lst false 1 3 [.sc (.int .u64 (wrap .u64 level)),.sc (.int .u64 a),.sc (.int .u64 b)]]=_:=Qe (xs:=Kk) (ws:=[wrap .u64 level,a,b]) (by simp) (by omega) (by simp;omega)
 have hs:=XH (fu:=fu) (d:=d) (ws:=[wrap .u64 level,a,b]) (by simp) hfu 3
 have L:=Al .u8 (Au [wrap .u64 level,a,b]);rw [Td];unfold J6;generalize Au [wrap .u64 level,a,b]=W at wd hs L ⊢;simp (disch:=omega) only [Ca,wd,Cd,C2,Ew,Nz,L,hs]
theorem GS (hfu:1000<=fu)(seed:Int):∀(l:Nat)(i B:Int),0<=i->i<=B->(2 ^ l:Nat)*(B+1)<=1000000000->l<=20->Ae C0 Tryd.prog fu (d+7+l) Ni [.sc (.int .u64 seed),.sc (.int .i64 l),.sc (.int .i64 i)]=some ⟨[.sc (.int .u64 (Bw seed l i))],[]⟩
 |0,i,B,h0,h1,h2,hl=>by
  have lf:=Af4 (fu:=fu) (d:=d) hfu seed i;refine (M7 fu (d+6) seed 0 i).trans ?_;simp only [Ca,Iv,if_true,lf];rfl
 |l+1,i,B,h0,h1,h2,hl=>by
  have hq:(2 ^ (l+1):Nat)=2 ^ l*2:=Nat.pow_succ _ _;have hpos:0<2 ^ l:=Nat.pow_pos (by omega)
  rw [hq] at h2;generalize hQ:2 ^ l=q at h2 hpos
  have hb:((q*2:Nat):Int)*(B+1)=(q:Int)*(2*B+1+1):=by
   rw [Int.natCast_mul,Int.mul_assoc]
   congr 1
   omega
  rw [hb] at h2
  have hBq:2*B+1+1<=(q:Int)*(2*B+1+1):=by
   have:=Int.mul_le_mul_of_nonneg_right (show (1:Int)<=q by omega) (show (0:Int)<=2*B+1+1 by omega)
   omega
  have n1:=GS hfu seed l (2*i) (2*B+1) (by omega) (by omega) (by rw [hQ];exact h2) (by omega)
  have n2:=GS hfu seed l (2*i+1) (2*B+1) (by omega) (by omega) (by rw [hQ];exact h2) (by omega)
  have pr:=WV (fu:=fu) (d:=d+2+l) hfu ((l+1:Nat):Int) (Bw seed l (2*i)) (Bw seed l (2*i+1));rw [show d+2+l+5=d+7+l by omega] at pr
  have w1:wrap .i64 (((l+1:Nat):Int)-1)=(l:Int):=by rw [Aj (by omega) (by omega)];omega
  have w2:wrap .i64 (2*i)=2*i:=Aj (by omega) (by omega)
  have w3:wrap .i64 (2*i+1)=2*i+1:=Aj (by omega) (by omega)
  have ne:¬(((l+1:Nat):Int)=0):=by omega
  refine (M7 fu (d+7+l) seed ((l+1:Nat):Int) i).trans ?_;simp only [Ca,Iv,ne,if_false,w1,w2,w3,n1,n2,pr];rfl
end
end
section
open Go.IntKind (wrap)
theorem wu {h:Int}(h0:0<=h)(h4:h<=4):wrap .u64 h=h:=Dc (by omega) (by omega)
theorem Aek {leaf h:Int}(h0:0<=h)(h4:h<=4)(ho:Nn leaf h=false):0<=leaf∧leaf<2 ^ h.toNat:=by
 unfold Nn at ho;simp only [Bool.or_eq_false_iff,decide_eq_false_iff_not] at ho;have:h=0∨h=1∨h=2∨h=3∨h=4:=by omega
 rcases this with rfl|rfl|rfl|rfl|rfl
 ·have e:Gr .i64 1 0=1:=by decide
  rw [e] at ho;exact ⟨by omega,by show leaf<1;omega⟩
 ·have e:Gr .i64 1 1=2:=by decide
  rw [e] at ho;exact ⟨by omega,by show leaf<2;omega⟩
 ·have e:Gr .i64 1 2=4:=by decide
  rw [e] at ho;exact ⟨by omega,by show leaf<4;omega⟩
 ·have e:Gr .i64 1 3=8:=by decide
  rw [e] at ho;exact ⟨by omega,by show leaf<8;omega⟩
 ·have e:Gr .i64 1 4=16:=by decide
  rw [e] at ho;exact ⟨by omega,by show leaf<16;omega⟩
theorem Alx {h:Int}(h0:0<=h)(h4:h<=4):(2:Int) ^ h.toNat<=16:=by
 have:h=0∨h=1∨h=2∨h=3∨h=4:=by omega
 rcases this with rfl|rfl|rfl|rfl|rfl<;>decide
section
variable {fu d:Nat}
theorem FP (hfu:1000<=fu)(seed h:Int):Ae C0 Tryd.prog fu (d+12) Kt [.sc (.int .u64 seed),.sc (.int .i64 h)]=some ⟨[.agg (Js seed h).cells,.sc (.int .i64 (if C4 h=true then 9 else 0))],[]⟩:=by
 refine (Su fu (d+11) seed h).trans ?_;have h1:=UV (fu:=fu) (d:=d+10) h;unfold Js;cases c1:C4 h
 ·rw [c1] at h1;have hb:=Fn c1
  have nd:=GS (fu:=fu) (d:=d+4-h.toNat) hfu seed h.toNat 0 0 (by omega) (by omega) (by
   have:h=0∨h=1∨h=2∨h=3∨h=4:=by omega
   rcases this with rfl|rfl|rfl|rfl|rfl<;>decide) (by omega)
  rw [show d+4-h.toNat+7+h.toNat=d+11 by omega,show ((h.toNat:Nat):Int)=h by omega] at nd
  simp only [Ca,h1,nd];rfl
 ·rw [c1] at h1;simp only [Ca,h1];rfl
end
end
section
open Go.IntKind (wrap)
section
variable {fu d:Nat}
end
theorem Af0 (seed leaf m:Int):Ab9 leaf m (Jt seed leaf m)=Gt seed leaf:=by
 unfold Ab9 Gt FU
 congr 1
 refine List.map_congr_left fun i hi=>?_
 have hi:=List.mem_range.1 hi;have hb:=Zk m i;unfold XF U7
 have e:(Jt seed leaf m).getD i 0=GR seed leaf m i:=by
  unfold Jt;rw [List.getD_eq_getElem?_getD,List.getElem?_map,List.getElem?_range hi];rfl
 rw [e];unfold GR;have:=RI leaf i (dg m i).toNat (15-dg m i).toNat 0 (DM seed leaf i);rw [show (dg m i).toNat+(15-dg m i).toNat=15 by omega,show (0:Int)+((dg m i).toNat:Nat)=dg m i by omega] at this
 exact this.symm
theorem Aap:∀n:Fin 16,∀k:Fin 4,
  (Sd .i64 (F6 .i64 (n.val:Int) k.val) 1=0∧F6 .i64 (n.val:Int) k.val=2*F6 .i64 (n.val:Int) ((k.val+1:Nat):Int)∧G0 n.val k.val=2*F6 .i64 (n.val:Int) ((k.val+1:Nat):Int)+1) ∨
  (Sd .i64 (F6 .i64 (n.val:Int) k.val) 1≠0∧F6 .i64 (n.val:Int) k.val=2*F6 .i64 (n.val:Int) ((k.val+1:Nat):Int)+1∧G0 n.val k.val=2*F6 .i64 (n.val:Int) ((k.val+1:Nat):Int)):=by decide
theorem ET (seed:Int){leaf:Int}(h0:0<=leaf)(h1:leaf<16):∀(k i:Nat),i+k<=4 ->
  Wd leaf i (Bw seed i (F6 .i64 leaf i)) ((List.range' i k).map fun j=>Bw seed j (G0 leaf j))=Bw seed (i+k) (F6 .i64 leaf ((i+k:Nat):Int))
 |0,i,_=>rfl
 |k+1,i,h=>by
  rw [List.range'_succ,Zzw,DC];obtain ⟨n,rfl⟩:=Int.eq_ofNat_of_zero_le h0;have ih:=ET seed h0 h1 k (i+1) (by omega)
  rw [show i+(k+1)=i+1+k by omega,←ih]
  congr 1
  rcases Aap ⟨n,by omega⟩ ⟨i,by omega⟩ with ⟨a,b,c⟩|⟨a,b,c⟩
  ·simp only at a b c;rw [Cc a,b,c];rfl
  ·simp only at a b c;rw [A9 a,b,c];rfl
theorem Afu {seed h leaf m:Int}(hh:C4 h=false)(ho:Nn leaf h=false):QW (Js seed h) m ⟨leaf,Jt seed leaf m,(List.range h.toNat).map fun k=>Bw seed k (G0 leaf k)⟩=0:=by
 have hb:=Fn hh;have hl:=Aek hb.1 hb.2 ho;have h16:=Alx hb.1 hb.2
 have eP:Js seed h=⟨h,Bw seed h.toNat 0⟩:=by
  unfold Js;rw [hh];rfl
 rw [eP];unfold QW;simp only;rw [A9 (show ¬C4 h=true by rw [hh];simp),A9 (show ¬Nn leaf h=true by rw [ho];simp),A9 (show ¬(Jt seed leaf m).length≠18 by simp [Jt]),A9 (by rw [List.length_map,List.length_range];omega),Af0]
 have c:=ET seed hl.1 (show leaf<16 by omega) h.toNat 0 (by omega)
 have e0:F6 .i64 leaf ((0:Nat):Int)=leaf:=by
  show leaf.fdiv (2 ^ (min ((0:Nat):Int).toNat IntKind.i64.bits))=leaf;have:(2:Int) ^ (min ((0:Nat):Int).toNat IntKind.i64.bits)=1:=by decide
  rw [this,Int.fdiv_one]
 have eh:F6 .i64 leaf ((0+h.toNat:Nat):Int)=0:=by
  have H:∀n:Fin 16,∀k:Fin 5,(n.val:Int)<2 ^ k.val->F6 .i64 (n.val:Int) ((0+k.val:Nat):Int)=0:=by decide
  obtain ⟨n,hn⟩:=Int.eq_ofNat_of_zero_le hl.1;have:=H ⟨n,by omega⟩ ⟨h.toNat,by omega⟩ (by simp only;rw [←hn];exact hl.2)
  rw [hn];exact this
 rw [e0,eh,C2] at c;have er:List.range' 0 h.toNat=List.range h.toNat:=List.range_eq_range'.symm;rw [er] at c;have el:Bw seed 0 leaf=Gt seed leaf:=rfl;rw [el] at c;rw [c];unfold okE;rw [Cc rfl]
end
section
open Go.IntKind (wrap)
set_option maxRecDepth 100000
abbrev BO:FuncId:=38
theorem TS (fu d:Nat)(a0:ByteArray):Ae C0 Tryd.prog fu (d+1) BO [.sc (.string a0)]=(fun (call:Ah)=>some (Aw.mk [.own 3 1 [.sc (.int .i64 4),.sc (.int .u64 0),.sc (.string a0)]] [])) (Ae C0 Tryd.prog fu d):=by kernel_rfl
abbrev BI:FuncId:=39
theorem SA (fu d:Nat)(a0:Int):Ae C0 Tryd.prog fu (d+1) BI [.sc (.int .u64 a0)]=(fun (call:Ah)=>some (Aw.mk [.own 3 1 [.sc (.int .i64 1),.sc (.int .u64 a0),.sc (.string (ByteArray.mk #[]))]] [])) (Ae C0 Tryd.prog fu d):=by kernel_rfl
abbrev Xv:FuncId:=40
theorem OE (fu d a0n:Nat)(a0:List PV):Ae C0 Tryd.prog fu (d+1) Xv [.lst false 1 a0n a0]=(fun (call:Ah)=>Ao (decide (a0.length=a0n))<|D3 (bytesOf a0) fun x1=>some (Aw.mk [.own 3 1 [.sc (.int .i64 3),.sc (.int .u64 0),.sc (.string (ByteArray.mk (List.toArray x1)))]] [])) (Ae C0 Tryd.prog fu d):=by kernel_rfl
abbrev CJ:FuncId:=41
theorem TL (fu d:Nat)(a0:Bool):Ae C0 Tryd.prog fu (d+1) CJ [.sc (.bool a0)]=(fun (call:Ah)=>Bc (a0) (some (Aw.mk [.own 3 1 [.sc (.int .i64 7),.sc (.int .u64 1),.sc (.string (ByteArray.mk #[]))]] [])) (some (Aw.mk [.own 3 1 [.sc (.int .i64 7),.sc (.int .u64 0),.sc (.string (ByteArray.mk #[]))]] []))) (Ae C0 Tryd.prog fu d):=by kernel_rfl
abbrev Xu:FuncId:=79
theorem PW (fu d:Nat)(a0:Int):Ae C0 Tryd.prog fu (d+1) Xu [.sc (.int .u64 a0)]=(fun (call:Ah)=>Bc (decide (a0<24)) (some (Aw.mk [.sc (.int .i64 0)] [])) (Bc (decide (a0<256)) (some (Aw.mk [.sc (.int .i64 1)] [])) (Bc (decide (a0<65536)) (some (Aw.mk [.sc (.int .i64 2)] [])) (Bc (decide (a0<4294967296)) (some (Aw.mk [.sc (.int .i64 4)] [])) (some (Aw.mk [.sc (.int .i64 8)] [])))))) (Ae C0 Tryd.prog fu d):=by kernel_rfl
abbrev Vf:FuncId:=86
theorem JC (fu d:Nat)(a0_0 a0_1:Int)(a0_2:ByteArray):Ae C0 Tryd.prog fu (d+1) Vf [.agg [.sc (.int .i64 a0_0),.sc (.int .u64 a0_1),.sc (.string a0_2)]]=(fun (call:Ah)=>Bc (a0_0==3) (some (Aw.mk [.sc (.bool (a0_1==0))] [])) (Bc (a0_0==4) (some (Aw.mk [.sc (.bool (a0_1==0))] [])) (Bc (a0_0==8) (Bc (a0_1==0) (some (Aw.mk [.sc (.bool (Array.toList (ByteArray.data a0_2)==Array.toList (ByteArray.data (ByteArray.mk #[]))))] [])) (some (Aw.mk [.sc (.bool false)] []))) (Bc (a0_0==7) (Bc (decide (a0_1<=1)) (some (Aw.mk [.sc (.bool (Array.toList (ByteArray.data a0_2)==Array.toList (ByteArray.data (ByteArray.mk #[]))))] [])) (some (Aw.mk [.sc (.bool false)] []))) (some (Aw.mk [.sc (.bool (Array.toList (ByteArray.data a0_2)==Array.toList (ByteArray.data (ByteArray.mk #[]))))] [])))))) (Ae C0 Tryd.prog fu d):=by kernel_rfl
abbrev Tf:FuncId:=81
theorem GG (fu d a0n:Nat)(a0:List PV)(a1n:Nat)(a1:List PV):Ae C0 Tryd.prog fu (d+1) Tf [.lst false 1 a0n a0,.lst false 1 a1n a1]=(fun (call:Ah)=>Bc ((↑a0n:Int) != (↑a1n:Int)) (some (Aw.mk [.sc (.bool (decide ((↑a0n:Int)<(↑a1n:Int))))] [])) (Ai (call 87 [.lst false 1 a0n a0,.lst false 1 a1n a1]) fun x1 x2=>Ac x2<|Ab x1 fun x3 x4=>Ad .i64 x3 fun x5=>Ac x4<|some (Aw.mk [.sc (.bool (decide (x5<0)))] []))) (Ae C0 Tryd.prog fu d):=by kernel_rfl
abbrev Ir:FuncId:=78
noncomputable def Da (fu:Nat)(call:Ah)(a0n:Nat)(a0:List PV)(a1 a2:Int)(nn y0:Nat)(y1 y2:Int)(y3:List PV):Option Aw:=Dd CB Tryd.prog fu call 78 Tryd.f78 (B9 Tryd.f78) [.own 1 a0n a0,.sc (.int .u8 a1),.sc (.int .u64 a2)] [.r,.r,.r,.r,.r,.l,.r,.l] nn ⟨lk [(0,(.view 0 1 0 y0)),(2,(.sc (.int .u64 y1))),(9,(.sc (.int .i64 y2)))],Bz [(0,(.ar false y3))]⟩
theorem Km (fu:Nat)(call:Ah)(a0n:Nat)(a0:List PV)(a1 a2:Int)(nn y0:Nat)(y1 y2:Int)(y3:List PV):Da fu call a0n a0 a1 a2 (nn+1) y0 y1 y2 y3=(Bc (decide (y2>=0)) (Aa (wrap .i64 (8*y2)) fun F2=>Ao (decide (0<=F2))<|Aa (F6 .u64 y1 F2) fun F3=>Aa (wrap .u8 F3) fun F8=>Ao (decide (y0*1<=y3.length)&&true&&decide ((y0+1)*1<=1099511627776)&&decide (y0+1<=1099511627776))<|Aa (y0+1) fun Ij=>Aa (List.take (y0*1) y3++[.sc (.int .u8 F8)]) fun G6=>Aa (wrap .i64 (y2-1)) fun H7=>Da fu call a0n a0 a1 a2 (nn) Ij (y1) H7 G6) (Ao (decide (y0*1<=y3.length))<|some (Aw.mk [.own 1 y0 (List.take (y0*1) y3)] []))):=by kernel_rfl
theorem Xx (fu d a0n:Nat)(a0:List PV)(a1 a2:Int):Ae C0 Tryd.prog fu (d+1) Ir [.own 1 a0n a0,.sc (.int .u8 a1),.sc (.int .u64 a2)]=(fun (call:Ah)=>Aa (Gr .u8 a1 5) fun x1=>Bc (decide (a2<24)) (Aa (wrap .u8 a2) fun x2=>Aa (wrap .u8 (x1+x2)) fun x3=>Ao (decide (a0n*1<=a0.length)&&true&&decide ((a0n+1)*1<=1099511627776)&&decide (a0n+1<=1099511627776))<|Aa (a0n+1) fun x4=>Aa (List.take (a0n*1) a0++[.sc (.int .u8 x3)]) fun x5=>Ao (decide (x4*1<=x5.length))<|some (Aw.mk [.own 1 x4 (List.take (x4*1) x5)] [])) (Bc (decide (a2<256)) (Aa (wrap .u8 (x1+24)) fun x6=>Ao (decide (a0n*1<=a0.length)&&true&&decide ((a0n+1)*1<=1099511627776)&&decide (a0n+1<=1099511627776))<|Aa (a0n+1) fun x7=>Aa (List.take (a0n*1) a0++[.sc (.int .u8 x6)]) fun x8=>Da fu call a0n a0 a1 a2 (fu) x7 (a2) 0 x8) (Bc (decide (a2<65536)) (Aa (wrap .u8 (x1+25)) fun x9=>Ao (decide (a0n*1<=a0.length)&&true&&decide ((a0n+1)*1<=1099511627776)&&decide (a0n+1<=1099511627776))<|Aa (a0n+1) fun Cp=>Aa (List.take (a0n*1) a0++[.sc (.int .u8 x9)]) fun C3=>Da fu call a0n a0 a1 a2 (fu) Cp (a2) 1 C3) (Bc (decide (a2<4294967296)) (Aa (wrap .u8 (x1+26)) fun Dz=>Ao (decide (a0n*1<=a0.length)&&true&&decide ((a0n+1)*1<=1099511627776)&&decide (a0n+1<=1099511627776))<|Aa (a0n+1) fun Ed=>Aa (List.take (a0n*1) a0++[.sc (.int .u8 Dz)]) fun Dy=>Da fu call a0n a0 a1 a2 (fu) Ed (a2) 3 Dy) (Aa (wrap .u8 (x1+27)) fun Ec=>Ao (decide (a0n*1<=a0.length)&&true&&decide ((a0n+1)*1<=1099511627776)&&decide (a0n+1<=1099511627776))<|Aa (a0n+1) fun Ej=>Aa (List.take (a0n*1) a0++[.sc (.int .u8 Ec)]) fun Fc=>Da fu call a0n a0 a1 a2 (fu) Ej (a2) 7 Fc))))) (Ae C0 Tryd.prog fu d):=by kernel_rfl
abbrev On:FuncId:=62
theorem Xn (fu d a0n:Nat)(a0:List PV)(a1_0 a1_1:Int)(a1_2:ByteArray):Ae C0 Tryd.prog fu (d+1) On [.own 1 a0n a0,.agg [.sc (.int .i64 a1_0),.sc (.int .u64 a1_1),.sc (.string a1_2)]]=(fun (call:Ah)=>Bc (a1_0==7) (Aa (wrap .u8 a1_1) fun x1=>Aa (wrap .u8 (244+x1)) fun x2=>Ao (decide (a0n*1<=a0.length)&&true&&decide ((a0n+1)*1<=1099511627776)&&decide (a0n+1<=1099511627776))<|Aa (a0n+1) fun x3=>Aa (List.take (a0n*1) a0++[.sc (.int .u8 x2)]) fun x4=>Ao (decide (x3*1<=x4.length))<|some (Aw.mk [.own 1 x3 (List.take (x3*1) x4)] [])) (Bc (a1_0==8) (Ao (decide (a0n*1<=a0.length)&&true&&decide ((a0n+1)*1<=1099511627776)&&decide (a0n+1<=1099511627776))<|Aa (a0n+1) fun x5=>Aa (List.take (a0n*1) a0++[.sc (.int .u8 246)]) fun x6=>Ao (decide (x5*1<=x6.length))<|some (Aw.mk [.own 1 x5 (List.take (x5*1) x6)] [])) (Bc (a1_0==3) (Aa (wrap .i64 (a1_0-1)) fun x7=>Aa (wrap .u8 x7) fun x8=>Aa (wrap .u64 (↑(ByteArray.size a1_2):Int)) fun x9=>Ao (decide (a0n*1<=a0.length))<|Ai (call 78 [.own 1 a0n (List.take (a0n*1) a0),.sc (.int .u8 x8),.sc (.int .u64 x9)]) fun Cp C3=>Ab Cp fun Dz Ed=>Eg 1 Dz fun Dy Ec=>Ac Ed<|Ac C3<|Ao (decide (Dy*1<=Ec.length)&&decide (List.length (Ds a1_2)=ByteArray.size a1_2*1)&&decide ((Dy+ByteArray.size a1_2)*1<=1099511627776)&&decide (Dy+ByteArray.size a1_2<=1099511627776))<|Aa (Dy+ByteArray.size a1_2) fun Ej=>Aa (List.take (Dy*1) Ec++Ds a1_2) fun Fc=>Ao (decide (Ej*1<=Fc.length))<|some (Aw.mk [.own 1 Ej (List.take (Ej*1) Fc)] [])) (Bc (a1_0==4) (Aa (wrap .i64 (a1_0-1)) fun F2=>Aa (wrap .u8 F2) fun F3=>Aa (wrap .u64 (↑(ByteArray.size a1_2):Int)) fun F8=>Ao (decide (a0n*1<=a0.length))<|Ai (call 78 [.own 1 a0n (List.take (a0n*1) a0),.sc (.int .u8 F3),.sc (.int .u64 F8)]) fun Ij G6=>Ab Ij fun H7 Dr=>Eg 1 H7 fun Dl G7=>Ac Dr<|Ac G6<|Ao (decide (Dl*1<=G7.length)&&decide (List.length (Ds a1_2)=ByteArray.size a1_2*1)&&decide ((Dl+ByteArray.size a1_2)*1<=1099511627776)&&decide (Dl+ByteArray.size a1_2<=1099511627776))<|Aa (Dl+ByteArray.size a1_2) fun Il=>Aa (List.take (Dl*1) G7++Ds a1_2) fun E1=>Ao (decide (Il*1<=E1.length))<|some (Aw.mk [.own 1 Il (List.take (Il*1) E1)] [])) (Aa (wrap .i64 (a1_0-1)) fun Mi=>Aa (wrap .u8 Mi) fun Nd=>Ao (decide (a0n*1<=a0.length))<|Ai (call 78 [.own 1 a0n (List.take (a0n*1) a0),.sc (.int .u8 Nd),.sc (.int .u64 a1_1)]) fun Lf Mv=>Ab Lf fun Nv Oa=>Eg 1 Nv fun Pp Rh=>Ac Oa<|Ac Mv<|Ao (decide (Pp*1<=Rh.length))<|some (Aw.mk [.own 1 Pp (List.take (Pp*1) Rh)] [])))))) (Ae C0 Tryd.prog fu d):=by kernel_rfl
abbrev P9:FuncId:=44
theorem Z3 (fu d a0_0n:Nat)(a0_0:List PV)(a0_1:Int):Ae C0 Tryd.prog fu (d+1) P9 [.pbox [.own 3 a0_0n a0_0,.sc (.int .i64 a0_1)]]=(fun (call:Ah)=>Bc (decide (a0_1>0)) (Ao (decide (a0_0n*3<=a0_0.length))<|some (Aw.mk [.sc (.bool ((↑a0_0n:Int)==0))] [[.own 3 a0_0n (List.take (a0_0n*3) a0_0),.sc (.int .i64 a0_1)]])) (Ao (decide (a0_0n*3<=a0_0.length))<|some (Aw.mk [.sc (.bool false)] [[.own 3 a0_0n (List.take (a0_0n*3) a0_0),.sc (.int .i64 a0_1)]]))) (Ae C0 Tryd.prog fu d):=by kernel_rfl
abbrev Pg:FuncId:=80
theorem W9 (fu d a0_0n:Nat)(a0_0:List PV)(a0_1:Int):Ae C0 Tryd.prog fu (d+1) Pg [.pbox [.own 3 a0_0n a0_0,.sc (.int .i64 a0_1)]]=(fun (call:Ah)=>Bc (decide ((↑a0_0n:Int)>0)) (Aa (wrap .i64 ((↑a0_0n:Int)-1)) fun x1=>Ao (decide (0<=x1)&&decide (x1<(↑a0_0n:Int)))<|Bn (List.getD a0_0 (0+Int.toNat x1*3+0) .top) fun x2=>Bc x2 (Aa (wrap .i64 ((↑a0_0n:Int)-1)) fun x3=>Ao (decide (0<=x3)&&decide (x3<(↑a0_0n:Int)))<|Ad .i64 (List.getD a0_0 (0+Int.toNat x3*3+1) .top) fun x4=>Aa (Int.tmod x4 2) fun x5=>Ao (decide (a0_0n*3<=a0_0.length))<|some (Aw.mk [.sc (.bool (x5==0))] [[.own 3 a0_0n (List.take (a0_0n*3) a0_0),.sc (.int .i64 a0_1)]])) (Ao (decide (a0_0n*3<=a0_0.length))<|some (Aw.mk [.sc (.bool false)] [[.own 3 a0_0n (List.take (a0_0n*3) a0_0),.sc (.int .i64 a0_1)]]))) (Ao (decide (a0_0n*3<=a0_0.length))<|some (Aw.mk [.sc (.bool false)] [[.own 3 a0_0n (List.take (a0_0n*3) a0_0),.sc (.int .i64 a0_1)]]))) (Ae C0 Tryd.prog fu d):=by kernel_rfl
abbrev O4:FuncId:=64
theorem Yy (fu d a0_0n:Nat)(a0_0:List PV)(a0_1 a1:Int):Ae C0 Tryd.prog fu (d+1) O4 [.pbox [.own 3 a0_0n a0_0,.sc (.int .i64 a0_1)],.sc (.int .i64 a1)]=(fun (call:Ah)=>Bc (decide (a0_1>=512)) (Ao (decide (a0_0n*3<=a0_0.length))<|some (Aw.mk [.sc (.int .i64 8)] [[.own 3 a0_0n (List.take (a0_0n*3) a0_0),.sc (.int .i64 a0_1)]])) (Bc (decide (a1<1)) (Ao (decide (a0_0n*3<=a0_0.length))<|some (Aw.mk [.sc (.int .i64 3)] [[.own 3 a0_0n (List.take (a0_0n*3) a0_0),.sc (.int .i64 a0_1)]])) (Bc (decide (a1>8)) (Ao (decide (a0_0n*3<=a0_0.length))<|some (Aw.mk [.sc (.int .i64 3)] [[.own 3 a0_0n (List.take (a0_0n*3) a0_0),.sc (.int .i64 a0_1)]])) (Ao (decide (a0_0n*3<=a0_0.length))<|Ai (call 80 [.pbox [.own 3 a0_0n (List.take (a0_0n*3) a0_0),.sc (.int .i64 a0_1)]]) fun x1 x2=>Ab x1 fun x3 x4=>Bn x3 fun x5=>Ac x4<|Ab x2 fun x6 x7=>Ab x6 fun x8 x9=>Eg 3 x8 fun Cp C3=>Ab x9 fun Dz Ed=>Ad .i64 Dz fun Dy=>Ac Ed<|Ac x7<|Bc x5 (Bc (a1 != 1) (Bc (a1 != 2) (Bc (a1 != 4) (Ao (decide (Cp*3<=C3.length))<|some (Aw.mk [.sc (.int .i64 3)] [[.own 3 Cp (List.take (Cp*3) C3),.sc (.int .i64 Dy)]])) (Bc (decide ((↑Cp:Int)>8)) (Ao (decide (Cp*3<=C3.length))<|some (Aw.mk [.sc (.int .i64 5)] [[.own 3 Cp (List.take (Cp*3) C3),.sc (.int .i64 Dy)]])) (Ao (decide (Cp*3<=C3.length))<|some (Aw.mk [.sc (.int .i64 0)] [[.own 3 Cp (List.take (Cp*3) C3),.sc (.int .i64 Dy)]])))) (Bc (decide ((↑Cp:Int)>8)) (Ao (decide (Cp*3<=C3.length))<|some (Aw.mk [.sc (.int .i64 5)] [[.own 3 Cp (List.take (Cp*3) C3),.sc (.int .i64 Dy)]])) (Ao (decide (Cp*3<=C3.length))<|some (Aw.mk [.sc (.int .i64 0)] [[.own 3 Cp (List.take (Cp*3) C3),.sc (.int .i64 Dy)]])))) (Bc (decide ((↑Cp:Int)>8)) (Ao (decide (Cp*3<=C3.length))<|some (Aw.mk [.sc (.int .i64 5)] [[.own 3 Cp (List.take (Cp*3) C3),.sc (.int .i64 Dy)]])) (Ao (decide (Cp*3<=C3.length))<|some (Aw.mk [.sc (.int .i64 0)] [[.own 3 Cp (List.take (Cp*3) C3),.sc (.int .i64 Dy)]])))) (Bc (decide ((↑Cp:Int)>8)) (Ao (decide (Cp*3<=C3.length))<|some (Aw.mk [.sc (.int .i64 5)] [[.own 3 Cp (List.take (Cp*3) C3),.sc (.int .i64 Dy)]])) (Ao (decide (Cp*3<=C3.length))<|some (Aw.mk [.sc (.int .i64 0)] [[.own 3 Cp (List.take (Cp*3) C3),.sc (.int .i64 Dy)]]))))))) (Ae C0 Tryd.prog fu d):=by kernel_rfl
abbrev Qs:FuncId:=82
noncomputable def Ax (fu:Nat)(call:Ah)(a0_0n:Nat)(a0_0:List PV)(a0_1 a1_0 a1_1:Int)(a1_2:ByteArray)(nn:Nat)(y0:Int)(y1:Nat)(y2:Int)(y3:List PV):Option Aw:=Dd CB Tryd.prog fu call 82 Tryd.f82 (B9 Tryd.f82) [.pbox [.own 3 a0_0n a0_0,.sc (.int .i64 a0_1)],.agg [.sc (.int .i64 a1_0),.sc (.int .u64 a1_1),.sc (.string a1_2)]] [.r,.r,.r,.r,.r,.r,.l] nn ⟨lk [(0,(.ptr 212000 0)),(5,(.sc (.int .i64 y0)))],Bz [(212000,(.st [(.view 212106 3 0 y1),(.sc (.int .i64 y2))])),(212106,(.ar false y3))]⟩
theorem Ly (fu:Nat)(call:Ah)(a0_0n:Nat)(a0_0:List PV)(a0_1 a1_0 a1_1:Int)(a1_2:ByteArray)(nn:Nat)(y0:Int)(y1:Nat)(y2:Int)(y3:List PV):Ax fu call a0_0n a0_0 a0_1 a1_0 a1_1 a1_2 (nn+1) y0 y1 y2 y3=(Bc (decide (y0>0)) (Aa (wrap .i64 (y0-1)) fun Rh=>Ao (decide (0<=Rh)&&decide (Rh<(↑y1:Int)))<|Ad .i64 (List.getD y3 (0+Int.toNat Rh*3+1) .top) fun Rw=>Bc (Rw==0) (Aa (wrap .i64 (y0-1)) fun Gg=>Ao (decide (0<=Gg))<|Ao (decide (Int.toNat Gg<=y1))<|Aa (Int.toNat Gg-0) fun Hv=>Aa (wrap .i64 (y0-1)) fun Ug=>Ax fu call a0_0n a0_0 a0_1 a1_0 a1_1 a1_2 (nn) Ug Hv (y2) (y3)) (Ao (decide (y1*3<=y3.length))<|some (Aw.mk [] [[.own 3 y1 (List.take (y1*3) y3),.sc (.int .i64 y2)]]))) (Ao (decide (y1*3<=y3.length))<|some (Aw.mk [] [[.own 3 y1 (List.take (y1*3) y3),.sc (.int .i64 y2)]]))):=by kernel_rfl
theorem AF (fu d a0_0n:Nat)(a0_0:List PV)(a0_1 a1_0 a1_1:Int)(a1_2:ByteArray):Ae C0 Tryd.prog fu (d+1) Qs [.pbox [.own 3 a0_0n a0_0,.sc (.int .i64 a0_1)],.agg [.sc (.int .i64 a1_0),.sc (.int .u64 a1_1),.sc (.string a1_2)]]=(fun (call:Ah)=>Aa (wrap .i64 (a0_1+1)) fun x1=>Bc (decide ((↑a0_0n:Int)>0)) (Aa (wrap .i64 ((↑a0_0n:Int)-1)) fun x2=>Ao (decide (0<=x2)&&decide (x2<(↑a0_0n:Int)))<|Ad .i64 (List.getD a0_0 (0+Int.toNat x2*3+1) .top) fun x3=>Aa (wrap .i64 (x3-1)) fun x4=>Ao (decide (0<=x2)&&decide (x2<(↑a0_0n:Int)))<|Ao (decide (0+Int.toNat x2*3+1+1<=a0_0.length))<|Aa (Bd a0_0 [.sc (.int .i64 x4)] (0+Int.toNat x2*3+1)) fun x5=>Bc (a1_0==5) (Bc (decide (a1_1>0)) (Aa (wrap .i64 a1_1) fun x6=>Ao (decide (a0_0n*3<=x5.length)&&true&&decide ((a0_0n+1)*40<=1099511627776)&&decide (a0_0n+1<=1099511627776))<|Aa (a0_0n+1) fun x7=>Aa (List.take (a0_0n*3) x5++[.sc (.bool false),.sc (.int .i64 x6),.lst false 1 0 []]) fun x8=>Bc (a1_0==6) (Bc (decide (a1_1>0)) (Aa (wrap .i64 a1_1) fun x9=>Aa (wrap .i64 (2*x9)) fun Cp=>Ao (decide (x7*3<=x8.length)&&true&&decide ((x7+1)*40<=1099511627776)&&decide (x7+1<=1099511627776))<|Aa (x7+1) fun C3=>Aa (List.take (x7*3) x8++[.sc (.bool true),.sc (.int .i64 Cp),.lst false 1 0 []]) fun Dz=>Ax fu call a0_0n a0_0 a0_1 a1_0 a1_1 a1_2 (fu) ((↑C3:Int)) C3 x1 Dz) (Ax fu call a0_0n a0_0 a0_1 a1_0 a1_1 a1_2 (fu) ((↑x7:Int)) x7 x1 x8)) (Ax fu call a0_0n a0_0 a0_1 a1_0 a1_1 a1_2 (fu) ((↑x7:Int)) x7 x1 x8)) (Bc (a1_0==6) (Bc (decide (a1_1>0)) (Aa (wrap .i64 a1_1) fun Ed=>Aa (wrap .i64 (2*Ed)) fun Dy=>Ao (decide (a0_0n*3<=x5.length)&&true&&decide ((a0_0n+1)*40<=1099511627776)&&decide (a0_0n+1<=1099511627776))<|Aa (a0_0n+1) fun Ec=>Aa (List.take (a0_0n*3) x5++[.sc (.bool true),.sc (.int .i64 Dy),.lst false 1 0 []]) fun Ej=>Ax fu call a0_0n a0_0 a0_1 a1_0 a1_1 a1_2 (fu) ((↑Ec:Int)) Ec x1 Ej) (Ax fu call a0_0n a0_0 a0_1 a1_0 a1_1 a1_2 (fu) ((↑a0_0n:Int)) (a0_0n) x1 x5)) (Ax fu call a0_0n a0_0 a0_1 a1_0 a1_1 a1_2 (fu) ((↑a0_0n:Int)) (a0_0n) x1 x5))) (Bc (a1_0==6) (Bc (decide (a1_1>0)) (Aa (wrap .i64 a1_1) fun Fc=>Aa (wrap .i64 (2*Fc)) fun F2=>Ao (decide (a0_0n*3<=x5.length)&&true&&decide ((a0_0n+1)*40<=1099511627776)&&decide (a0_0n+1<=1099511627776))<|Aa (a0_0n+1) fun F3=>Aa (List.take (a0_0n*3) x5++[.sc (.bool true),.sc (.int .i64 F2),.lst false 1 0 []]) fun F8=>Ax fu call a0_0n a0_0 a0_1 a1_0 a1_1 a1_2 (fu) ((↑F3:Int)) F3 x1 F8) (Ax fu call a0_0n a0_0 a0_1 a1_0 a1_1 a1_2 (fu) ((↑a0_0n:Int)) (a0_0n) x1 x5)) (Ax fu call a0_0n a0_0 a0_1 a1_0 a1_1 a1_2 (fu) ((↑a0_0n:Int)) (a0_0n) x1 x5))) (Bc (a1_0==5) (Bc (decide (a1_1>0)) (Aa (wrap .i64 a1_1) fun Ij=>Ao (decide (a0_0n*3<=a0_0.length)&&true&&decide ((a0_0n+1)*40<=1099511627776)&&decide (a0_0n+1<=1099511627776))<|Aa (a0_0n+1) fun G6=>Aa (List.take (a0_0n*3) a0_0++[.sc (.bool false),.sc (.int .i64 Ij),.lst false 1 0 []]) fun H7=>Bc (a1_0==6) (Bc (decide (a1_1>0)) (Aa (wrap .i64 a1_1) fun Dr=>Aa (wrap .i64 (2*Dr)) fun Dl=>Ao (decide (G6*3<=H7.length)&&true&&decide ((G6+1)*40<=1099511627776)&&decide (G6+1<=1099511627776))<|Aa (G6+1) fun G7=>Aa (List.take (G6*3) H7++[.sc (.bool true),.sc (.int .i64 Dl),.lst false 1 0 []]) fun Il=>Ax fu call a0_0n a0_0 a0_1 a1_0 a1_1 a1_2 (fu) ((↑G7:Int)) G7 x1 Il) (Ax fu call a0_0n a0_0 a0_1 a1_0 a1_1 a1_2 (fu) ((↑G6:Int)) G6 x1 H7)) (Ax fu call a0_0n a0_0 a0_1 a1_0 a1_1 a1_2 (fu) ((↑G6:Int)) G6 x1 H7)) (Bc (a1_0==6) (Bc (decide (a1_1>0)) (Aa (wrap .i64 a1_1) fun E1=>Aa (wrap .i64 (2*E1)) fun Mi=>Ao (decide (a0_0n*3<=a0_0.length)&&true&&decide ((a0_0n+1)*40<=1099511627776)&&decide (a0_0n+1<=1099511627776))<|Aa (a0_0n+1) fun Nd=>Aa (List.take (a0_0n*3) a0_0++[.sc (.bool true),.sc (.int .i64 Mi),.lst false 1 0 []]) fun Lf=>Ax fu call a0_0n a0_0 a0_1 a1_0 a1_1 a1_2 (fu) ((↑Nd:Int)) Nd x1 Lf) (Ax fu call a0_0n a0_0 a0_1 a1_0 a1_1 a1_2 (fu) ((↑a0_0n:Int)) (a0_0n) x1 (a0_0))) (Ax fu call a0_0n a0_0 a0_1 a1_0 a1_1 a1_2 (fu) ((↑a0_0n:Int)) (a0_0n) x1 (a0_0)))) (Bc (a1_0==6) (Bc (decide (a1_1>0)) (Aa (wrap .i64 a1_1) fun Mv=>Aa (wrap .i64 (2*Mv)) fun Nv=>Ao (decide (a0_0n*3<=a0_0.length)&&true&&decide ((a0_0n+1)*40<=1099511627776)&&decide (a0_0n+1<=1099511627776))<|Aa (a0_0n+1) fun Oa=>Aa (List.take (a0_0n*3) a0_0++[.sc (.bool true),.sc (.int .i64 Nv),.lst false 1 0 []]) fun Pp=>Ax fu call a0_0n a0_0 a0_1 a1_0 a1_1 a1_2 (fu) ((↑Oa:Int)) Oa x1 Pp) (Ax fu call a0_0n a0_0 a0_1 a1_0 a1_1 a1_2 (fu) ((↑a0_0n:Int)) (a0_0n) x1 (a0_0))) (Ax fu call a0_0n a0_0 a0_1 a1_0 a1_1 a1_2 (fu) ((↑a0_0n:Int)) (a0_0n) x1 (a0_0))))) (Ae C0 Tryd.prog fu d):=by kernel_rfl
abbrev H0:FuncId:=65
theorem H4 (fu d a0_0n:Nat)(a0_0:List PV)(a0_1 a1_0 a1_1:Int)(a1_2:ByteArray):Ae C0 Tryd.prog fu (d+1) H0 [.pbox [.own 3 a0_0n a0_0,.sc (.int .i64 a0_1)],.agg [.sc (.int .i64 a1_0),.sc (.int .u64 a1_1),.sc (.string a1_2)]]=(fun (call:Ah)=>Bc (a1_0==4) (Ai (call 35 [.sc (.string a1_2)]) fun x1 x2=>Ac x2<|Ab x1 fun x3 x4=>Bn x3 fun x5=>Ac x4<|Bc (!x5) (Ao (decide (a0_0n*3<=a0_0.length))<|some (Aw.mk [.sc (.int .i64 6)] [[.own 3 a0_0n (List.take (a0_0n*3) a0_0),.sc (.int .i64 a0_1)]])) (Ao (decide (a0_0n*3<=a0_0.length))<|Ai (call 80 [.pbox [.own 3 a0_0n (List.take (a0_0n*3) a0_0),.sc (.int .i64 a0_1)]]) fun x6 x7=>Ab x6 fun x8 x9=>Bn x8 fun Cp=>Ac x9<|Ab x7 fun C3 Dz=>Ab C3 fun Ed Dy=>Eg 3 Ed fun Ec Ej=>Ab Dy fun Fc F2=>Ad .i64 Fc fun F3=>Ac F2<|Ac Dz<|Bc Cp (Aa (wrap .i64 ((↑Ec:Int)-1)) fun F8=>Ao (decide (0<=F8)&&decide (F8<(↑Ec:Int)))<|Ai (call 62 [.own 1 0 [],.agg [.sc (.int .i64 a1_0),.sc (.int .u64 a1_1),.sc (.string a1_2)]]) fun Ij G6=>Ab Ij fun H7 Dr=>Eg 1 H7 fun Dl G7=>Ac Dr<|Ac G6<|Gk 1 (List.getD Ej (0+Int.toNat F8*3+0+2) .top) fun Il E1 Mi=>Bc (decide (0<E1)) (Gk 1 (List.getD Ej (0+Int.toNat F8*3+0+2) .top) fun Nd Lf Mv=>Ao (decide (0+Dl*1<=G7.length))<|Ai (call 81 [.lst false 1 Lf Mv,.lst false 1 Dl (List.take (Dl*1) (List.drop 0 G7))]) fun Nv Oa=>Ac Oa<|Ab Nv fun Pp Rh=>Bn Pp fun Rw=>Ac Rh<|Bc (!Rw) (Ao (decide (Ec*3<=Ej.length))<|some (Aw.mk [.sc (.int .i64 7)] [[.own 3 Ec (List.take (Ec*3) Ej),.sc (.int .i64 F3)]])) (Ao (decide (0+Int.toNat F8*3+0+2+1<=Ej.length))<|Ao (decide (0+Dl*1<=G7.length))<|Aa (Bd Ej [.lst false 1 Dl (List.take (Dl*1) (List.drop 0 G7))] (0+Int.toNat F8*3+0+2)) fun Gg=>Ao (decide (Ec*3<=Gg.length))<|Ai (call 82 [.pbox [.own 3 Ec (List.take (Ec*3) Gg),.sc (.int .i64 F3)],.agg [.sc (.int .i64 a1_0),.sc (.int .u64 a1_1),.sc (.string a1_2)]]) fun Hv Ug=>Ac Hv<|Ab Ug fun Yw Kw=>Ab Yw fun Uo S7=>Eg 3 Uo fun Sh Sf=>Ab S7 fun Wx Xr=>Ad .i64 Wx fun R8=>Ac Xr<|Ac Kw<|Ao (decide (Sh*3<=Sf.length))<|some (Aw.mk [.sc (.int .i64 0)] [[.own 3 Sh (List.take (Sh*3) Sf),.sc (.int .i64 R8)]]))) (U9 (Gk 1 (List.getD Ej (0+Int.toNat F8*3+0+2) .top) fun Ve Ww Wt=>Ao (decide (0+Dl*1<=G7.length))<|Ai (call 81 [.lst false 1 Ww Wt,.lst false 1 Dl (List.take (Dl*1) (List.drop 0 G7))]) fun Oi Y9=>Ac Y9<|Ab Oi fun DO Zt=>Bn DO fun BN=>Ac Zt<|Bc (!BN) (Ao (decide (Ec*3<=Ej.length))<|some (Aw.mk [.sc (.int .i64 7)] [[.own 3 Ec (List.take (Ec*3) Ej),.sc (.int .i64 F3)]])) (Ao (decide (0+Int.toNat F8*3+0+2+1<=Ej.length))<|Ao (decide (0+Dl*1<=G7.length))<|Aa (Bd Ej [.lst false 1 Dl (List.take (Dl*1) (List.drop 0 G7))] (0+Int.toNat F8*3+0+2)) fun Ut=>Ao (decide (Ec*3<=Ut.length))<|Ai (call 82 [.pbox [.own 3 Ec (List.take (Ec*3) Ut),.sc (.int .i64 F3)],.agg [.sc (.int .i64 a1_0),.sc (.int .u64 a1_1),.sc (.string a1_2)]]) fun V8 Z7=>Ac V8<|Ab Z7 fun Zb Tz=>Ab Zb fun Zi Y3=>Eg 3 Zi fun Zs Wp=>Ab Y3 fun Vk DS=>Ad .i64 Vk fun CC=>Ac DS<|Ac Tz<|Ao (decide (Zs*3<=Wp.length))<|some (Aw.mk [.sc (.int .i64 0)] [[.own 3 Zs (List.take (Zs*3) Wp),.sc (.int .i64 CC)]]))) (Ao (decide (0+Int.toNat F8*3+0+2+1<=Ej.length))<|Ao (decide (0+Dl*1<=G7.length))<|Aa (Bd Ej [.lst false 1 Dl (List.take (Dl*1) (List.drop 0 G7))] (0+Int.toNat F8*3+0+2)) fun Zg=>Ao (decide (Ec*3<=Zg.length))<|Ai (call 82 [.pbox [.own 3 Ec (List.take (Ec*3) Zg),.sc (.int .i64 F3)],.agg [.sc (.int .i64 a1_0),.sc (.int .u64 a1_1),.sc (.string a1_2)]]) fun Yl CM=>Ac Yl<|Ab CM fun HC CE=>Ab HC fun EN IW=>Eg 3 EN fun BL Vg=>Ab IW fun MO KT=>Ad .i64 MO fun VJ=>Ac KT<|Ac CE<|Ao (decide (BL*3<=Vg.length))<|some (Aw.mk [.sc (.int .i64 0)] [[.own 3 BL (List.take (BL*3) Vg),.sc (.int .i64 VJ)]])))) (Ao (decide (Ec*3<=Ej.length))<|Ai (call 82 [.pbox [.own 3 Ec (List.take (Ec*3) Ej),.sc (.int .i64 F3)],.agg [.sc (.int .i64 a1_0),.sc (.int .u64 a1_1),.sc (.string a1_2)]]) fun XM QN=>Ac XM<|Ab QN fun UC x85=>Ab UC fun YH UE=>Eg 3 YH fun UD IX=>Ab UE fun QA VN=>Ad .i64 QA fun WM=>Ac VN<|Ac x85<|Ao (decide (UD*3<=IX.length))<|some (Aw.mk [.sc (.int .i64 0)] [[.own 3 UD (List.take (UD*3) IX),.sc (.int .i64 WM)]])))) (Ao (decide (a0_0n*3<=a0_0.length))<|Ai (call 80 [.pbox [.own 3 a0_0n (List.take (a0_0n*3) a0_0),.sc (.int .i64 a0_1)]]) fun UI IZ=>Ab UI fun x95 x96=>Bn x95 fun UH=>Ac x96<|Ab IZ fun XJ DY=>Ab XJ fun Xi Us=>Eg 3 Xi fun G8 Jm=>Ab Us fun BC Sc=>Ad .i64 BC fun R7=>Ac Sc<|Ac DY<|Bc UH (Aa (wrap .i64 ((↑G8:Int)-1)) fun Jw=>Ao (decide (0<=Jw)&&decide (Jw<(↑G8:Int)))<|Ai (call 62 [.own 1 0 [],.agg [.sc (.int .i64 a1_0),.sc (.int .u64 a1_1),.sc (.string a1_2)]]) fun W0 Z1=>Ab W0 fun X3 BA=>Eg 1 X3 fun Hz I6=>Ac BA<|Ac Z1<|Gk 1 (List.getD Jm (0+Int.toNat Jw*3+0+2) .top) fun AP AR Y5=>Bc (decide (0<AR)) (Gk 1 (List.getD Jm (0+Int.toNat Jw*3+0+2) .top) fun GV AX Vp=>Ao (decide (0+Hz*1<=I6.length))<|Ai (call 81 [.lst false 1 AX Vp,.lst false 1 Hz (List.take (Hz*1) (List.drop 0 I6))]) fun Xs X7=>Ac X7<|Ab Xs fun Yo Zn=>Bn Yo fun AL=>Ac Zn<|Bc (!AL) (Ao (decide (G8*3<=Jm.length))<|some (Aw.mk [.sc (.int .i64 7)] [[.own 3 G8 (List.take (G8*3) Jm),.sc (.int .i64 R7)]])) (Ao (decide (0+Int.toNat Jw*3+0+2+1<=Jm.length))<|Ao (decide (0+Hz*1<=I6.length))<|Aa (Bd Jm [.lst false 1 Hz (List.take (Hz*1) (List.drop 0 I6))] (0+Int.toNat Jw*3+0+2)) fun Oh=>Ao (decide (G8*3<=Oh.length))<|Ai (call 82 [.pbox [.own 3 G8 (List.take (G8*3) Oh),.sc (.int .i64 R7)],.agg [.sc (.int .i64 a1_0),.sc (.int .u64 a1_1),.sc (.string a1_2)]]) fun Qq Sx=>Ac Qq<|Ab Sx fun X1 AG=>Ab X1 fun Lj JJ=>Eg 3 Lj fun Xp Uv=>Ab JJ fun DE JA=>Ad .i64 DE fun JM=>Ac JA<|Ac AG<|Ao (decide (Xp*3<=Uv.length))<|some (Aw.mk [.sc (.int .i64 0)] [[.own 3 Xp (List.take (Xp*3) Uv),.sc (.int .i64 JM)]]))) (U9 (Gk 1 (List.getD Jm (0+Int.toNat Jw*3+0+2) .top) fun HV EA Zu=>Ao (decide (0+Hz*1<=I6.length))<|Ai (call 81 [.lst false 1 EA Zu,.lst false 1 Hz (List.take (Hz*1) (List.drop 0 I6))]) fun DT HT=>Ac HT<|Ab DT fun HG GJ=>Bn HG fun AE=>Ac GJ<|Bc (!AE) (Ao (decide (G8*3<=Jm.length))<|some (Aw.mk [.sc (.int .i64 7)] [[.own 3 G8 (List.take (G8*3) Jm),.sc (.int .i64 R7)]])) (Ao (decide (0+Int.toNat Jw*3+0+2+1<=Jm.length))<|Ao (decide (0+Hz*1<=I6.length))<|Aa (Bd Jm [.lst false 1 Hz (List.take (Hz*1) (List.drop 0 I6))] (0+Int.toNat Jw*3+0+2)) fun DF=>Ao (decide (G8*3<=DF.length))<|Ai (call 82 [.pbox [.own 3 G8 (List.take (G8*3) DF),.sc (.int .i64 R7)],.agg [.sc (.int .i64 a1_0),.sc (.int .u64 a1_1),.sc (.string a1_2)]]) fun Vw Z8=>Ac Vw<|Ab Z8 fun HL OB=>Ab HL fun RS KE=>Eg 3 RS fun Ym FL=>Ab KE fun PD QX=>Ad .i64 PD fun Up=>Ac QX<|Ac OB<|Ao (decide (Ym*3<=FL.length))<|some (Aw.mk [.sc (.int .i64 0)] [[.own 3 Ym (List.take (Ym*3) FL),.sc (.int .i64 Up)]]))) (Ao (decide (0+Int.toNat Jw*3+0+2+1<=Jm.length))<|Ao (decide (0+Hz*1<=I6.length))<|Aa (Bd Jm [.lst false 1 Hz (List.take (Hz*1) (List.drop 0 I6))] (0+Int.toNat Jw*3+0+2)) fun QO=>Ao (decide (G8*3<=QO.length))<|Ai (call 82 [.pbox [.own 3 G8 (List.take (G8*3) QO),.sc (.int .i64 R7)],.agg [.sc (.int .i64 a1_0),.sc (.int .u64 a1_1),.sc (.string a1_2)]]) fun NJ SM=>Ac NJ<|Ab SM fun UN PF=>Ab UN fun SS WC=>Eg 3 SS fun OD SC=>Ab WC fun Ab6 PL=>Ad .i64 Ab6 fun SK=>Ac PL<|Ac PF<|Ao (decide (OD*3<=SC.length))<|some (Aw.mk [.sc (.int .i64 0)] [[.own 3 OD (List.take (OD*3) SC),.sc (.int .i64 SK)]])))) (Ao (decide (G8*3<=Jm.length))<|Ai (call 82 [.pbox [.own 3 G8 (List.take (G8*3) Jm),.sc (.int .i64 R7)],.agg [.sc (.int .i64 a1_0),.sc (.int .u64 a1_1),.sc (.string a1_2)]]) fun WU VT=>Ac WU<|Ab VT fun WJ Agb=>Ab WJ fun Afx Aga=>Eg 3 Afx fun XC PA=>Ab Aga fun Ad1 Ac1=>Ad .i64 Ad1 fun Ady=>Ac Ac1<|Ac Agb<|Ao (decide (XC*3<=PA.length))<|some (Aw.mk [.sc (.int .i64 0)] [[.own 3 XC (List.take (XC*3) PA),.sc (.int .i64 Ady)]])))) (Ae C0 Tryd.prog fu d):=by kernel_rfl
abbrev Ln:FuncId:=77
theorem Uu (fu d a0_0n:Nat)(a0_0:List PV)(a0_1 a1_0 a1_1:Int)(a1_2:ByteArray):Ae C0 Tryd.prog fu (d+1) Ln [.pbox [.own 3 a0_0n a0_0,.sc (.int .i64 a0_1)],.agg [.sc (.int .i64 a1_0),.sc (.int .u64 a1_1),.sc (.string a1_2)]]=(fun (call:Ah)=>Ao (decide (a0_0n*3<=a0_0.length))<|Ai (call 44 [.pbox [.own 3 a0_0n (List.take (a0_0n*3) a0_0),.sc (.int .i64 a0_1)]]) fun x1 x2=>Ab x1 fun x3 x4=>Bn x3 fun x5=>Ac x4<|Ab x2 fun x6 x7=>Ab x6 fun x8 x9=>Eg 3 x8 fun Cp C3=>Ab x9 fun Dz Ed=>Ad .i64 Dz fun Dy=>Ac Ed<|Ac x7<|Bc x5 (Ao (decide (Cp*3<=C3.length))<|some (Aw.mk [.sc (.int .i64 2)] [[.own 3 Cp (List.take (Cp*3) C3),.sc (.int .i64 Dy)]])) (Ao (decide (Cp*3<=C3.length))<|Ai (call 64 [.pbox [.own 3 Cp (List.take (Cp*3) C3),.sc (.int .i64 Dy)],.sc (.int .i64 a1_0)]) fun Ec Ej=>Ab Ec fun Fc F2=>Ad .i64 Fc fun F3=>Ac F2<|Ab Ej fun F8 Ij=>Ab F8 fun G6 H7=>Eg 3 G6 fun Dr Dl=>Ab H7 fun G7 Il=>Ad .i64 G7 fun E1=>Ac Il<|Ac Ij<|Bc (F3 != 0) (Ao (decide (Dr*3<=Dl.length))<|some (Aw.mk [.sc (.int .i64 F3)] [[.own 3 Dr (List.take (Dr*3) Dl),.sc (.int .i64 E1)]])) (Ai (call 86 [.agg [.sc (.int .i64 a1_0),.sc (.int .u64 a1_1),.sc (.string a1_2)]]) fun Mi Nd=>Ac Nd<|Ab Mi fun Lf Mv=>Bn Lf fun Nv=>Ac Mv<|Bc (!Nv) (Ao (decide (Dr*3<=Dl.length))<|some (Aw.mk [.sc (.int .i64 4)] [[.own 3 Dr (List.take (Dr*3) Dl),.sc (.int .i64 E1)]])) (Bc (decide ((↑(ByteArray.size a1_2):Int)>1024)) (Ao (decide (Dr*3<=Dl.length))<|some (Aw.mk [.sc (.int .i64 8)] [[.own 3 Dr (List.take (Dr*3) Dl),.sc (.int .i64 E1)]])) (Bc (a1_0==5) (Bc (decide (a1_1>512)) (Ao (decide (Dr*3<=Dl.length))<|some (Aw.mk [.sc (.int .i64 8)] [[.own 3 Dr (List.take (Dr*3) Dl),.sc (.int .i64 E1)]])) (Ao (decide (Dr*3<=Dl.length))<|Ai (call 65 [.pbox [.own 3 Dr (List.take (Dr*3) Dl),.sc (.int .i64 E1)],.agg [.sc (.int .i64 a1_0),.sc (.int .u64 a1_1),.sc (.string a1_2)]]) fun Oa Pp=>Ab Oa fun Rh Rw=>Ad .i64 Rh fun Gg=>Ac Rw<|Ab Pp fun Hv Ug=>Ab Hv fun Yw Kw=>Eg 3 Yw fun Uo S7=>Ab Kw fun Sh Sf=>Ad .i64 Sh fun Wx=>Ac Sf<|Ac Ug<|Ao (decide (Uo*3<=S7.length))<|some (Aw.mk [.sc (.int .i64 Gg)] [[.own 3 Uo (List.take (Uo*3) S7),.sc (.int .i64 Wx)]]))) (Bc (a1_0==6) (Bc (decide (a1_1>512)) (Ao (decide (Dr*3<=Dl.length))<|some (Aw.mk [.sc (.int .i64 8)] [[.own 3 Dr (List.take (Dr*3) Dl),.sc (.int .i64 E1)]])) (Ao (decide (Dr*3<=Dl.length))<|Ai (call 65 [.pbox [.own 3 Dr (List.take (Dr*3) Dl),.sc (.int .i64 E1)],.agg [.sc (.int .i64 a1_0),.sc (.int .u64 a1_1),.sc (.string a1_2)]]) fun Xr R8=>Ab Xr fun Ve Ww=>Ad .i64 Ve fun Wt=>Ac Ww<|Ab R8 fun Oi Y9=>Ab Oi fun DO Zt=>Eg 3 DO fun BN Ut=>Ab Zt fun V8 Z7=>Ad .i64 V8 fun Zb=>Ac Z7<|Ac Y9<|Ao (decide (BN*3<=Ut.length))<|some (Aw.mk [.sc (.int .i64 Wt)] [[.own 3 BN (List.take (BN*3) Ut),.sc (.int .i64 Zb)]]))) (Ao (decide (Dr*3<=Dl.length))<|Ai (call 65 [.pbox [.own 3 Dr (List.take (Dr*3) Dl),.sc (.int .i64 E1)],.agg [.sc (.int .i64 a1_0),.sc (.int .u64 a1_1),.sc (.string a1_2)]]) fun Tz Zi=>Ab Tz fun Y3 Zs=>Ad .i64 Y3 fun Wp=>Ac Zs<|Ab Zi fun Vk DS=>Ab Vk fun CC Zg=>Eg 3 CC fun Yl CM=>Ab Zg fun HC CE=>Ad .i64 HC fun EN=>Ac CE<|Ac DS<|Ao (decide (Yl*3<=CM.length))<|some (Aw.mk [.sc (.int .i64 Wp)] [[.own 3 Yl (List.take (Yl*3) CM),.sc (.int .i64 EN)]])))))))) (Ae C0 Tryd.prog fu d):=by kernel_rfl
abbrev R5:FuncId:=61
noncomputable def Hg (fu:Nat)(call:Ah)(a0n:Nat)(a0:List PV)(nn y0:Nat)(y1:List PV)(y2 y3:Int)(y4:Nat)(y5:Int)(y6:List PV):Option Aw:=Dd CB Tryd.prog fu call 61 Tryd.f61 (B9 Tryd.f61) [.lst false 3 a0n a0] [.r,.r,.l,.r,.l] nn ⟨lk [(3,(.ptr 3 0)),(7,(.lst false 3 y0 y1)),(8,(.sc (.int .i64 y2))),(9,(.sc (.int .i64 y3)))],Bz [(3,(.st [(.view 25 3 0 y4),(.sc (.int .i64 y5))])),(25,(.ar false y6))]⟩
theorem Np (fu:Nat)(call:Ah)(a0n:Nat)(a0:List PV)(nn y0:Nat)(y1:List PV)(y2 y3:Int)(y4:Nat)(y5:Int)(y6:List PV):Hg fu call a0n a0 (nn+1) y0 y1 y2 y3 y4 y5 y6=(Bc (decide (y3<y2)) (Ao (decide (0<=y3)&&decide (y3<(↑y0:Int)))<|Ad .i64 (List.getD y1 (Int.toNat y3*3) .top) fun x1=>Ad .u64 (List.getD y1 (Int.toNat y3*3+1) .top) fun x2=>Dp (List.getD y1 (Int.toNat y3*3+1+1) .top) fun x3=>Ao (decide (y4*3<=y6.length))<|Ai (call 77 [.pbox [.own 3 y4 (List.take (y4*3) y6),.sc (.int .i64 y5)],.agg [.sc (.int .i64 x1),.sc (.int .u64 x2),.sc (.string x3)]]) fun x4 x5=>Ab x4 fun x6 x7=>Ad .i64 x6 fun x8=>Ac x7<|Ab x5 fun x9 Cp=>Ab x9 fun C3 Dz=>Eg 3 C3 fun Ed Dy=>Ab Dz fun Ec Ej=>Ad .i64 Ec fun Fc=>Ac Ej<|Ac Cp<|Bc (x8 != 0) (some (Aw.mk [.sc (.int .i64 x8)] [])) (Aa (wrap .i64 (y3+1)) fun F2=>Hg fu call a0n a0 (nn) (y0) (y1) (y2) F2 Ed Fc Dy)) (Ao (decide (y4*3<=y6.length))<|Ai (call 44 [.pbox [.own 3 y4 (List.take (y4*3) y6),.sc (.int .i64 y5)]]) fun F3 F8=>Ab F3 fun Ij G6=>Bn Ij fun H7=>Ac G6<|Ab F8 fun Dr Dl=>Ab Dr fun G7 Il=>Eg 3 G7 fun E1 Mi=>Ab Il fun Nd Lf=>Ad .i64 Nd fun Mv=>Ac Lf<|Ac Dl<|Bc (!H7) (some (Aw.mk [.sc (.int .i64 1)] [])) (some (Aw.mk [.sc (.int .i64 0)] [])))):=by kernel_rfl
theorem DN (fu d a0n:Nat)(a0:List PV):Ae C0 Tryd.prog fu (d+1) R5 [.lst false 3 a0n a0]=(fun (call:Ah)=>Hg fu call a0n a0 (fu) (a0n) (a0) ((↑a0n:Int)) 0 0 0 ([])) (Ae C0 Tryd.prog fu d):=by kernel_rfl
abbrev S3:FuncId:=60
theorem IR (fu d a0n:Nat)(a0:List PV):Ae C0 Tryd.prog fu (d+1) S3 [.own 3 a0n a0]=(fun (call:Ah)=>Ao (decide (0+a0n*3<=a0.length))<|Ai (call 61 [.lst false 3 a0n (List.take (a0n*3) (List.drop 0 a0))]) fun x1 x2=>Ac x2<|Ab x1 fun x3 x4=>Ad .i64 x3 fun x5=>Ac x4<|Bc (x5 != 0) (some (Aw.mk [.own 3 0 [],.sc (.int .i64 x5)] [])) (Ao (decide (a0n*3<=a0.length))<|some (Aw.mk [.own 3 a0n (List.take (a0n*3) a0),.sc (.int .i64 0)] []))) (Ae C0 Tryd.prog fu d):=by kernel_rfl
abbrev Vm:FuncId:=59
noncomputable def I4 (fu:Nat)(call:Ah)(a0n:Nat)(a0:List PV)(nn y0:Nat)(y1:List PV)(y2 y3:Int):Option Aw:=Dd CB Tryd.prog fu call 59 Tryd.f59 (B9 Tryd.f59) [.lst false 1 a0n a0] [.r,.l,.r,.l] nn ⟨lk [(6,(.lst false 1 y0 y1)),(7,(.sc (.int .i64 y2))),(8,(.sc (.int .i64 y3)))],Bz []⟩
theorem Qc (fu:Nat)(call:Ah)(a0n:Nat)(a0:List PV)(nn y0:Nat)(y1:List PV)(y2 y3:Int):I4 fu call a0n a0 (nn+1) y0 y1 y2 y3=(Bc (decide (y3<y2)) (Ao (decide (0<=y3)&&decide (y3<(↑y0:Int)))<|Gk 3 (List.getD y1 (Int.toNat y3*1) .top) fun x1 x2 x3=>Ai (call 61 [.lst false 3 x2 x3]) fun x4 x5=>Ac x5<|Ab x4 fun x6 x7=>Ad .i64 x6 fun x8=>Ac x7<|Bc (x8 != 0) (some (Aw.mk [.sc (.int .i64 x8)] [])) (Aa (wrap .i64 (y3+1)) fun x9=>I4 fu call a0n a0 (nn) (y0) (y1) (y2) x9)) (some (Aw.mk [.sc (.int .i64 0)] []))):=by kernel_rfl
theorem JX (fu d a0n:Nat)(a0:List PV):Ae C0 Tryd.prog fu (d+1) Vm [.lst false 1 a0n a0]=(fun (call:Ah)=>I4 fu call a0n a0 (fu) (a0n) (a0) ((↑a0n:Int)) 0) (Ae C0 Tryd.prog fu d):=by kernel_rfl
abbrev Q3:FuncId:=37
noncomputable def J5 (fu:Nat)(call:Ah)(a0n:Nat)(a0:List PV)(nn y0 y1:Nat)(y2:List PV)(y3 y4:Int)(y5:List PV):Option Aw:=Dd CB Tryd.prog fu call 37 Tryd.f37 (B9 Tryd.f37) [.lst false 1 a0n a0] [.r,.r,.r,.l,.r,.l] nn ⟨lk [(5,(.view 5 3 0 y0)),(18,(.lst false 1 y1 y2)),(19,(.sc (.int .i64 y3))),(20,(.sc (.int .i64 y4)))],Bz [(5,(.ar false y5))]⟩
theorem R1 (fu:Nat)(call:Ah)(a0n:Nat)(a0:List PV)(nn y0 y1:Nat)(y2:List PV)(y3 y4:Int)(y5:List PV):J5 fu call a0n a0 (nn+1) y0 y1 y2 y3 y4 y5=(Bc (decide (y4<y3)) (Ao (decide (0<=y4)&&decide (y4<(↑y1:Int)))<|Gk 3 (List.getD y2 (Int.toNat y4*1) .top) fun x7 x8 x9=>Bc (decide ((↑y0:Int)>512)) (Ao (decide (y0*3<=y5.length))<|Ai (call 60 [.own 3 y0 (List.take (y0*3) y5)]) fun Cp C3=>Ab Cp fun Dz Ed=>Eg 3 Dz fun Dy Ec=>Ab Ed fun Ej Fc=>Ad .i64 Ej fun F2=>Ac Fc<|Ac C3<|Ao (decide (Dy*3<=Ec.length))<|some (Aw.mk [.own 3 Dy (List.take (Dy*3) Ec),.sc (.int .i64 F2)] [])) (Ao (decide (y0*3<=y5.length)&&decide (x9.length=x8*3)&&decide ((y0+x8)*32<=1099511627776)&&decide (y0+x8<=1099511627776))<|Aa (y0+x8) fun F3=>Aa (List.take (y0*3) y5++x9) fun F8=>Aa (wrap .i64 (y4+1)) fun Ij=>J5 fu call a0n a0 (nn) F3 (y1) (y2) (y3) Ij F8)) (Ao (decide (y0*3<=y5.length))<|Ai (call 60 [.own 3 y0 (List.take (y0*3) y5)]) fun G6 H7=>Ab G6 fun Dr Dl=>Eg 3 Dr fun G7 Il=>Ab Dl fun E1 Mi=>Ad .i64 E1 fun Nd=>Ac Mi<|Ac H7<|Ao (decide (G7*3<=Il.length))<|some (Aw.mk [.own 3 G7 (List.take (G7*3) Il),.sc (.int .i64 Nd)] []))):=by kernel_rfl
theorem OP (fu d a0n:Nat)(a0:List PV):Ae C0 Tryd.prog fu (d+1) Q3 [.lst false 1 a0n a0]=(fun (call:Ah)=>Ai (call 59 [.lst false 1 a0n a0]) fun x1 x2=>Ac x2<|Ab x1 fun x3 x4=>Ad .i64 x3 fun x5=>Ac x4<|Bc (x5 != 0) (some (Aw.mk [.own 3 0 [],.sc (.int .i64 x5)] [])) (Aa (wrap .u64 (↑a0n:Int)) fun x6=>J5 fu call a0n a0 (fu) 1 (a0n) (a0) ((↑a0n:Int)) 0 ([.sc (.int .i64 5),.sc (.int .u64 x6),.sc (.string (ByteArray.mk #[]))]))) (Ae C0 Tryd.prog fu d):=by kernel_rfl
abbrev Pq:FuncId:=42
noncomputable def Iq (fu:Nat)(call:Ah)(a0n:Nat)(a0:List PV)(nn y0 y1:Nat)(y2:List PV)(y3 y4:Int)(y5:List PV):Option Aw:=Dd CB Tryd.prog fu call 42 Tryd.f42 (B9 Tryd.f42) [.lst false 3 a0n a0] [.r,.r,.r,.l,.r,.l] nn ⟨lk [(5,(.view 5 1 0 y0)),(13,(.lst false 3 y1 y2)),(14,(.sc (.int .i64 y3))),(15,(.sc (.int .i64 y4)))],Bz [(5,(.ar false y5))]⟩
theorem Qf (fu:Nat)(call:Ah)(a0n:Nat)(a0:List PV)(nn y0 y1:Nat)(y2:List PV)(y3 y4:Int)(y5:List PV):Iq fu call a0n a0 (nn+1) y0 y1 y2 y3 y4 y5=(Bc (decide (y4<y3)) (Ao (decide (0<=y4)&&decide (y4<(↑y1:Int)))<|Ad .i64 (List.getD y2 (Int.toNat y4*3) .top) fun x6=>Ad .u64 (List.getD y2 (Int.toNat y4*3+1) .top) fun x7=>Dp (List.getD y2 (Int.toNat y4*3+1+1) .top) fun x8=>Ao (decide (y0*1<=y5.length))<|Ai (call 62 [.own 1 y0 (List.take (y0*1) y5),.agg [.sc (.int .i64 x6),.sc (.int .u64 x7),.sc (.string x8)]]) fun x9 Cp=>Ab x9 fun C3 Dz=>Eg 1 C3 fun Ed Dy=>Ac Dz<|Ac Cp<|Aa (wrap .i64 (y4+1)) fun Ec=>Iq fu call a0n a0 (nn) Ed (y1) (y2) (y3) Ec Dy) (Ao (decide (y0*1<=y5.length))<|some (Aw.mk [.own 1 y0 (List.take (y0*1) y5),.sc (.int .i64 0)] []))):=by kernel_rfl
theorem KF (fu d a0n:Nat)(a0:List PV):Ae C0 Tryd.prog fu (d+1) Pq [.lst false 3 a0n a0]=(fun (call:Ah)=>Ai (call 61 [.lst false 3 a0n a0]) fun x1 x2=>Ac x2<|Ab x1 fun x3 x4=>Ad .i64 x3 fun x5=>Ac x4<|Bc (x5 != 0) (some (Aw.mk [.own 1 0 [],.sc (.int .i64 x5)] [])) (Iq fu call a0n a0 (fu) 0 (a0n) (a0) ((↑a0n:Int)) 0 ([]))) (Ae C0 Tryd.prog fu d):=by kernel_rfl
end
section
open Go.IntKind (wrap)
def Ih (s:ByteArray):List Int:=s.data.toList.map fun b=>(b.toNat:Int)
def Cu (l:List Int):ByteArray:=⟨(l.map fun n=>n.toNat.toUInt8).toArray⟩
theorem M3 (s:ByteArray):(Ih s).length=s.size:=by
 unfold Ih;rw [List.length_map];rfl
theorem UT (s:ByteArray):Ik (Ih s):=by
 intro x hx;obtain ⟨b,_,rfl⟩:=List.mem_map.1 hx;have:=b.toNat_lt;omega
theorem Oz (s:ByteArray):Ds s=Ag .u8 (Ih s):=by
 unfold Ds Ih
 induction s.data.toList with
 |nil=>rfl
 |cons b l ih=>rw [Zzw,Zzw,ih];rfl
theorem Hf (l:List Int):(Cu l).size=l.length:=by
 show (l.map fun n=>n.toNat.toUInt8).toArray.size=_
 simp
theorem Rk {l:List Int}(h:Ik l):Ih (Cu l)=l:=by
 unfold Ih Cu;simp only [List.map_map]
 have:∀l:List Int,Ik l->List.map ((fun b:UInt8=>(b.toNat:Int)) ∘ fun n:Int=>n.toNat.toUInt8) l=l:=by
  intro l
  induction l with
  |nil=>intro _;rfl
  |cons x l ih=>
   intro h;have hx:=h x (by simp)
   rw [Zzw,ih fun y hy=>h y (by simp [hy])]
   congr 1
   show ((x.toNat.toUInt8.toNat:Nat):Int)=x;rw [Nat.toUInt8,UInt8.toNat_ofNat'];omega
 exact this l h
theorem OI (s:ByteArray):Cu (Ih s)=s:=by
 unfold Cu Ih;simp only [List.map_map]
 have:∀l:List UInt8,List.map ((fun n:Int=>n.toNat.toUInt8) ∘ fun b:UInt8=>(b.toNat:Int)) l=l:=by
  intro l
  induction l with
  |nil=>rfl
  |cons x l ih=>
   rw [Zzw,ih]
   congr 1
   show ((x.toNat:Int).toNat).toUInt8=x;rw [Hw];simp
 rw [this]
theorem G2:∀l:List Int,bytesOf (Ag .u8 l)=some (l.map fun n=>n.toNat.toUInt8)
 |[]=>rfl
 |x::l=>by
  show (bytesOf (Ag .u8 l)).map (x.toNat.toUInt8 :: ·)=_
  rw [G2 l];rfl
def tb (n:Int)(k:Nat):List Int:=(List.range' (8-k) k).map (Cq n)
def Cw (mj n:Int):List Int:=
 if n<24 then [32*mj+n] else if n<256 then (32*mj+24)::tb n 1 else if n<65536 then (32*mj+25)::tb n 2 else if n<4294967296 then (32*mj+26)::tb n 4 else (32*mj+27)::tb n 8
structure It where
 k:Int
 n:Int
 s:ByteArray
def It.cells (x:It):List PV:=[.sc (.int .i64 x.k),.sc (.int .u64 x.n),.sc (.string x.s)]
def B6 (x:It):List Int:=
 if x.k=7 then [wrap .u8 (244+wrap .u8 x.n)] else if x.k=8 then [246] else if x.k=3 then Cw 2 x.s.size++Ih x.s else if x.k=4 then Cw 3 x.s.size++Ih x.s else Cw (x.k-1) x.n
theorem Wh (n:Int)(k:Nat):(tb n k).length=k:=by simp [tb]
theorem Aox (n:Int)(k:Nat):Ik (tb n k):=by
 intro x hx;obtain ⟨j,_,rfl⟩:=List.mem_map.1 hx;exact TV n j
theorem Jo (mj n:Int):1<=(Cw mj n).length∧(Cw mj n).length<=9:=by
 unfold Cw
 repeat' split
 all_goals simp [Wh]
theorem NS {mj n:Int}(h0:0<=mj)(h1:mj<=6)(hn:0<=n):Ik (Cw mj n):=by
 have hc:∀(a:Int) (l:List Int),0<=a∧a<=255->Ik l->Ik (a::l):=by
  intro a l ha hl x hx;rcases List.mem_cons.1 hx with rfl|hx
  ·exact ha
  ·exact hl x hx
 unfold Cw
 repeat' split
 ·exact hc _ _ (by omega) (fun _ h=>by simp at h)
 all_goals exact hc _ _ (by omega) (Aox _ _)
theorem Ahu {x:It}(h0:1<=x.k)(h1:x.k<=8)(hn:0<=x.n):Ik (B6 x):=by
 have happ:∀(a b:List Int),Ik a->Ik b->Ik (a++b):=by
  intro a b ha hb y hy;rcases List.mem_append.1 hy with h|h
  ·exact ha y h
  ·exact hb y h
 unfold B6
 repeat' split
 ·intro y hy;simp at hy;subst hy;simp only [wrap,IntKind.signed,IntKind.bits];simp;omega
 ·intro y hy;simp at hy;omega
 ·exact happ _ _ (NS (by omega) (by omega) (by omega)) (UT _)
 ·exact happ _ _ (NS (by omega) (by omega) (by omega)) (UT _)
 ·exact NS (by omega) (by omega) hn
theorem Gf (x:It):(B6 x).length<=9+x.s.size:=by
 unfold B6;have h2:=Jo 2 x.s.size;have h3:=Jo 3 x.s.size;have h4:=Jo (x.k-1) x.n;have hs:=M3 x.s
 repeat' split
 all_goals try simp only [Ns,Le,CV]
 all_goals omega
section
variable {fu d:Nat}
theorem LG {call:Ah}{a0n:Nat}{a0:List PV}{a1 a2 n:Int}:∀(k nn:Nat)(l:List Int),k<=8->k<nn->l.length+k<=1000000 ->
  Da fu call a0n a0 a1 a2 nn l.length n ((k:Int)-1) (Ag .u8 l)=some ⟨[.own 1 (l++tb n k).length (Ag .u8 (l++tb n k))],[]⟩
 |_,0,_,_,h,_=>by omega
 |0,nn+1,l,hk,hn,hl=>by
  have L:=Al .u8 l;rw [Km,Dx _ _ _ (by omega)]
  simp (disch:=omega) only [Ca,Cd,Nz,L];simp [tb]
 |k+1,nn+1,l,hk,hn,hl=>by
  have ih:=LG (call:=call) (a0n:=a0n) (a0:=a0) (a1:=a1) (a2:=a2) (n:=n) k nn (l++[Cq n (8-(k+1))]) (by omega) (by omega) (by simp;omega)
  have L:=Al .u8 l;have w8:wrap .i64 (8*(((k+1:Nat):Int)-1))=8*(k:Int):=by rw [Aj (by omega) (by omega)];omega
  have w:wrap .i64 (((k+1:Nat):Int)-1-1)=(k:Int)-1:=by rw [Aj (by omega) (by omega)];omega
  have hb:wrap .u8 (F6 .u64 n (8*(k:Int)))=Cq n (8-(k+1)):=by
   unfold Cq;rw [show 56-8*((8-(k+1):Nat):Int)=8*(k:Int) by omega]
  have et:tb n (k+1)=Cq n (8-(k+1))::tb n k:=by
   unfold tb;rw [List.range'_succ,Zzw,show 8-(k+1)+1=8-k by omega]
  have ea:l++tb n (k+1)=l++[Cq n (8-(k+1))]++tb n k:=by rw [et];simp
  rw [ea,←ih,Km];simp (disch:=omega) only [Ca,w8,hb,w,Cd,Nz,L,G5,Ns,Le,CV,C2]
theorem Aoj {mj:Int}(h0:0<=mj)(h1:mj<=7):Gr .u8 mj 5=32*mj:=by
 have:mj=0∨mj=1∨mj=2∨mj=3∨mj=4∨mj=5∨mj=6∨mj=7:=by omega
 rcases this with rfl|rfl|rfl|rfl|rfl|rfl|rfl|rfl<;>decide
theorem ZW (hfu:1000<=fu){l:List Int}(hl:l.length<=900000){mj n:Int}(h0:0<=mj)(h1:mj<=5)(hn:0<=n):Ae C0 Tryd.prog fu (d+1) Ir [.own 1 l.length (Ag .u8 l),.sc (.int .u8 mj),.sc (.int .u64 n)]=some ⟨[.own 1 (l++Cw mj n).length (Ag .u8 (l++Cw mj n))],[]⟩:=by
 rw [Xx];have s5:=Aoj h0 (by omega)
 have L:=Al .u8 l;have w24:wrap .u8 (32*mj+24)=32*mj+24:=Hu (by omega) (by omega)
 have w25:wrap .u8 (32*mj+25)=32*mj+25:=Hu (by omega) (by omega)
 have w26:wrap .u8 (32*mj+26)=32*mj+26:=Hu (by omega) (by omega)
 have w27:wrap .u8 (32*mj+27)=32*mj+27:=Hu (by omega) (by omega)
 have lp:=fun (k:Nat) (hk:k<=8) (b:Int)=>LG (fu:=fu) (call:=Ae C0 Tryd.prog fu d) (a0n:=l.length) (a0:=Ag .u8 l) (a1:=mj) (a2:=n) (n:=n) k fu (l++[b]) hk (by omega) (by simp;omega)
 have ec:∀(b:Int) (t:List Int),l++b::t=l++[b]++t:=by intro b t;simp
 unfold Cw;by_cases c1:n<24
 ·have wn:wrap .u8 n=n:=Hu (by omega) (by omega)
  have ws:wrap .u8 (32*mj+n)=32*mj+n:=Hu (by omega) (by omega)
  have L1:=Al .u8 (l++[32*mj+n]);have t1:=Nz .u8 (l++[32*mj+n]);simp only [Ns,Le,CV,C2] at L1 t1;rw [Cc c1];simp (disch:=omega) only [Ca,s5,wn,ws,Cd,Nz,L,G5,L1,t1,Ns,Le,CV,C2]
 ·by_cases c2:n<256
  ·have l1:=lp 1 (by omega) (32*mj+24)
   rw [show ((1:Nat):Int)-1=0 by omega] at l1
   rw [A9 c1,Cc c2,ec,←l1];simp (disch:=omega) only [Ca,s5,w24,Cd,Nz,L,G5,Ns,Le,CV,C2]
  ·by_cases c3:n<65536
   ·have l1:=lp 2 (by omega) (32*mj+25)
    rw [show ((2:Nat):Int)-1=1 by omega] at l1
    rw [A9 c1,A9 c2,Cc c3,ec,←l1];simp (disch:=omega) only [Ca,s5,w25,Cd,Nz,L,G5,Ns,Le,CV,C2]
   ·by_cases c4:n<4294967296
    ·have l1:=lp 4 (by omega) (32*mj+26)
     rw [show ((4:Nat):Int)-1=3 by omega] at l1
     rw [A9 c1,A9 c2,A9 c3,Cc c4,ec,←l1];simp (disch:=omega) only [Ca,s5,w26,Cd,Nz,L,G5,Ns,Le,CV,C2]
    ·have l1:=lp 8 (by omega) (32*mj+27)
     rw [show ((8:Nat):Int)-1=7 by omega] at l1
     rw [A9 c1,A9 c2,A9 c3,A9 c4,ec,←l1];simp (disch:=omega) only [Ca,s5,w27,Cd,Nz,L,G5,Ns,Le,CV,C2]
structure It.ok (x:It):Prop where
 k1:1<=x.k
 k8:x.k<=8
 n0:0<=x.n
 s0:x.s.size<=500000
theorem ZI (hfu:1000<=fu){l:List Int}(hl:l.length<=300000){x:It}(hx:x.ok):Ae C0 Tryd.prog fu (d+2) On [.own 1 l.length (Ag .u8 l),.agg x.cells]=some ⟨[.own 1 (l++B6 x).length (Ag .u8 (l++B6 x))],[]⟩:=by
 obtain ⟨k,n,s⟩:=x;obtain ⟨k1,k8,n0,s0⟩:=hx;simp only at k1 k8 n0 s0;refine (Xn fu (d+1) l.length (Ag .u8 l) k n s).trans ?_;have L:=Al .u8 l;have hsl:=M3 s;unfold B6;simp only;by_cases c7:k=7
 ·subst c7;have L1:=Al .u8 (l++[wrap .u8 (244+wrap .u8 n)]);have t1:=Nz .u8 (l++[wrap .u8 (244+wrap .u8 n)]);simp only [Ns,Le,CV,C2] at L1 t1;simp (disch:=omega) only [Ca,Iv,if_true,Cd,Nz,L,G5,L1,t1,Ns,Le,CV,C2]
 ·by_cases c8:k=8
  ·subst c8;have L1:=Al .u8 (l++[246]);have t1:=Nz .u8 (l++[246]);simp only [Ns,Le,CV,C2] at L1 t1;rw [A9 c7,Cc rfl];simp (disch:=omega) only [Ca,Iv,c7,if_false,if_true,Cd,Nz,L,G5,L1,t1,Ns,Le,CV,C2]
  ·have dat:∀mj:Int,0<=mj->mj<=5->(Ae C0 Tryd.prog fu (d+1) Ir [.own 1 l.length (Ag .u8 l),.sc (.int .u8 mj),.sc (.int .u64 s.size)]=some ⟨[.own 1 (l++Cw mj s.size).length (Ag .u8 (l++Cw mj s.size))],[]⟩)∧(l++Cw mj s.size).length<=300009∧List.take (l++Cw mj s.size).length (Ag .u8 (l++Cw mj s.size))=Ag .u8 (l++Cw mj s.size)∧(Ag .u8 (l++Cw mj s.size)).length=(l++Cw mj s.size).length∧Ag .u8 (l++Cw mj s.size)++Ds s=Ag .u8 (l++(Cw mj s.size++Ih s))∧(l++(Cw mj s.size++Ih s)).length=(l++Cw mj s.size).length+s.size∧(Ag .u8 (l++(Cw mj s.size++Ih s))).length=(l++Cw mj s.size).length+s.size:=by
    intro mj h0 h1;have hh:=Jo mj s.size;refine ⟨ZW hfu (by omega) h0 h1 (by omega),by rw [Ns];omega,Nz _ _,Al _ _,?_,?_,?_⟩
    ·rw [Oz,←YW,Ag,Ag,Ag,List.flatMap_append (xs:=l++Cw mj s.size)]
    ·rw [←YW,Ns,hsl]
    ·rw [Al,←YW,Ns,hsl]
   have ss:(Ds s).length=s.size:=by rw [Oz,Al,hsl]
   have wsz:wrap .u64 (s.size:Int)=s.size:=Dc (by omega) (by omega)
   rw [A9 c7,A9 c8];by_cases c3:k=3
   ·subst c3;obtain ⟨p1,p2,p3,p4,p5,p6,p7⟩:=dat 2 (by omega) (by omega)
    have w1:wrap .i64 ((3:Int)-1)=2:=by decide
    have w2:wrap .u8 (2:Int)=2:=by decide
    have t1:List.take ((l++Cw 2 s.size).length+s.size) (Ag .u8 (l++(Cw 2 s.size++Ih s)))=Ag .u8 (l++(Cw 2 s.size++Ih s)):=Wz (by omega)
    rw [Cc rfl];simp (disch:=omega) only [Ca,Iv,c7,c8,if_false,if_true,w1,w2,wsz,Cd,Nz,L,p1];generalize (l++Cw 2 s.size).length=N at *
    simp (disch:=omega) only [Ca,Cd,p3,p4,p5,p7,t1,ss];rw [p6]
   ·by_cases c4:k=4
    ·subst c4;obtain ⟨p1,p2,p3,p4,p5,p6,p7⟩:=dat 3 (by omega) (by omega)
     have w1:wrap .i64 ((4:Int)-1)=3:=by decide
     have w2:wrap .u8 (3:Int)=3:=by decide
     have t1:List.take ((l++Cw 3 s.size).length+s.size) (Ag .u8 (l++(Cw 3 s.size++Ih s)))=Ag .u8 (l++(Cw 3 s.size++Ih s)):=Wz (by omega)
     rw [A9 c3,Cc rfl];simp (disch:=omega) only [Ca,Iv,c7,c8,c3,if_false,if_true,w1,w2,wsz,Cd,Nz,L,p1];generalize (l++Cw 3 s.size).length=N at *
     simp (disch:=omega) only [Ca,Cd,p3,p4,p5,p7,t1,ss];rw [p6]
    ·have w1:wrap .i64 (k-1)=k-1:=Aj (by omega) (by omega)
     have w2:wrap .u8 (k-1)=k-1:=Hu (by omega) (by omega)
     have p1:=ZW (fu:=fu) (d:=d) hfu (l:=l) (by omega) (mj:=k-1) (n:=n) (by omega) (by omega) n0
     have L2:=Al .u8 (l++Cw (k-1) n);have t2:=Nz .u8 (l++Cw (k-1) n);rw [A9 c3,A9 c4];simp (disch:=omega) only [Ca,Iv,c7,c8,c3,c4,if_false,w1,w2,Cd,Nz,L,p1,L2,t2]
end
end
section
open Go.IntKind (wrap)
set_option maxRecDepth 100000
abbrev Fp:FuncId:=11
theorem Jj (fu d:Nat)(a0_0 a0_1:ByteArray)(a0_2 a0_3:Int)(a0_4 a0_5 a0_6:Int)(a0_7:Bool)(a0_8 a0_9 a0_10:Int)(a0_11n:Nat)(a0_11:List PV)(a0_12n:Nat)(a0_12:List PV)(a1_0 a1_1:ByteArray)(a1_2 Af8:Int)(Afe Adg Adx:Int)(Adp:Bool)(Aev Aez RH:Int)(Afh:Nat)(RL:List PV)(Adi:Nat)(QR:List PV):Ae C0 Tryd.prog fu (d+1) Fp [.agg [.sc (.string a0_0),.sc (.string a0_1),.sc (.int .u64 a0_2),.sc (.int .i64 a0_3),.sc (.int .u64 a0_4),.sc (.int .i64 a0_5),.sc (.int .i64 a0_6),.sc (.bool a0_7),.sc (.int .i64 a0_8),.sc (.int .u64 a0_9),.sc (.int .i64 a0_10),.lst false 1 a0_11n a0_11,.lst false 1 a0_12n a0_12],.agg [.sc (.string a1_0),.sc (.string a1_1),.sc (.int .u64 a1_2),.sc (.int .i64 Af8),.sc (.int .u64 Afe),.sc (.int .i64 Adg),.sc (.int .i64 Adx),.sc (.bool Adp),.sc (.int .i64 Aev),.sc (.int .u64 Aez),.sc (.int .i64 RH),.lst false 1 Afh RL,.lst false 1 Adi QR]]=(fun (call:Ah)=>Bc (Array.toList (ByteArray.data a0_0)==Array.toList (ByteArray.data a1_0)) (Bc (Array.toList (ByteArray.data a0_1)==Array.toList (ByteArray.data a1_1)) (Bc (a0_2==a1_2) (Bc (a0_3==Af8&&(a0_4==Afe&&true)) (Bc (a0_5==Adg) (Bc (a0_6==Adx) (Bc (a0_7==Adp) (Bc (a0_8==Aev) (Bc (a0_9==Aez) (Ai (call 25 [.agg [.sc (.int .i64 a0_10),.lst false 1 a0_11n a0_11,.lst false 1 a0_12n a0_12],.agg [.sc (.int .i64 RH),.lst false 1 Afh RL,.lst false 1 Adi QR]]) fun x1 x2=>Ac x2<|Ab x1 fun x3 x4=>Bn x3 fun x5=>Ac x4<|some (Aw.mk [.sc (.bool x5)] [])) (some (Aw.mk [.sc (.bool false)] []))) (some (Aw.mk [.sc (.bool false)] []))) (some (Aw.mk [.sc (.bool false)] []))) (some (Aw.mk [.sc (.bool false)] []))) (some (Aw.mk [.sc (.bool false)] []))) (some (Aw.mk [.sc (.bool false)] []))) (some (Aw.mk [.sc (.bool false)] []))) (some (Aw.mk [.sc (.bool false)] []))) (some (Aw.mk [.sc (.bool false)] []))) (Ae C0 Tryd.prog fu d):=by kernel_rfl
end
section
open Go.IntKind (wrap)
def It.dat (x:It):Prop:=x.k=3∨x.k=4∨Ih x.s=[]
section
variable {fu d:Nat}
def Cb (its:List It):List PV:=its.flatMap It.cells
theorem It.cells_len (x:It):x.cells.length=3:=rfl
def Br (its:List It):List Int:=its.flatMap B6
end
end
section
open Go.IntKind (wrap)
structure Ce where
 subj:ByteArray
 iss:ByteArray
 serial:Int
 key:Ky
 fr:Int
 un:Int
 auth:Bool
 path:Int
 model:Int
 sig:Sg
def Ce.cells (c:Ce):List PV:=[.sc (.string c.subj),.sc (.string c.iss),.sc (.int .u64 c.serial),.sc (.int .i64 c.key.h),.sc (.int .u64 c.key.root),.sc (.int .i64 c.fr),.sc (.int .i64 c.un),.sc (.bool c.auth),.sc (.int .i64 c.path),.sc (.int .u64 c.model),.sc (.int .i64 c.sig.leaf),.lst false 1 c.sig.chains.length (Ag .u64 c.sig.chains),.lst false 1 c.sig.path.length (Ag .u64 c.sig.path)]
abbrev VC (s:ByteArray):Bool:=Lib.validD s.data.toList
abbrev Fv:ByteArray:=⟨#[]⟩
def A7 (c:Ce):Int:=
 if c.subj.size<1∨32<c.subj.size then 9 else if c.iss.size<1∨32<c.iss.size then 9 else if VC c.subj=false then 6 else if VC c.iss=false then 6 else
 if C4 c.key.h=true then 9 else if c.fr<0 then 9 else if c.un<c.fr then 9 else if c.un>1099511627776 then 9 else if c.path<0∨2<c.path then 9 else if c.path≠0∧c.auth=false then 4 else 0
def Be (c:Ce):List It:=[⟨5,9,Fv⟩,⟨4,0,c.subj⟩,⟨4,0,c.iss⟩,⟨1,c.serial,Fv⟩,⟨3,0,Cu (Ma c.key)⟩,⟨1,c.fr,Fv⟩,⟨1,c.un,Fv⟩,⟨7,(if c.auth=true then 1 else 0),Fv⟩,⟨1,c.path,Fv⟩,⟨1,c.model,Fv⟩]
structure Ce.wf (c:Ce):Prop where
 ser:0<=c.serial
 mod:0<=c.model
def Iy (c:Ce):List PV:=if A7 c=0 then [.own 1 (Br (Be c)).length (Ag .u8 (Br (Be c))),.sc (.int .i64 0)] else [.own 1 0 [],.sc (.int .i64 (A7 c))]
theorem FX {c:Ce}(hw:c.wf)(h:A7 c=0):∀x∈Be c,x.ok∧x.dat:=by
 unfold A7 at h;have kl:(Cu (Ma c.key)).size=9:=by rw [Hf];rfl
 have ns:Fv.size=0:=rfl;have hs:=hw.ser;have hm:=hw.mod
 repeat' (split at h;· cases h)
 intro x hx;simp only [Be,List.mem_cons,List.not_mem_nil,or_false] at hx;rcases hx with rfl|rfl|rfl|rfl|rfl|rfl|rfl|rfl|rfl|rfl
 ·exact ⟨⟨by simp,by simp,by simp,by simp [ns]⟩,.inr (.inr rfl)⟩
 ·exact ⟨⟨by simp,by simp,by simp,by simp only;omega⟩,.inr (.inl rfl)⟩
 ·exact ⟨⟨by simp,by simp,by simp,by simp only;omega⟩,.inr (.inl rfl)⟩
 ·exact ⟨⟨by simp,by simp,hs,by simp [ns]⟩,.inr (.inr rfl)⟩
 ·exact ⟨⟨by simp,by simp,by simp,by simp only [kl];omega⟩,.inl rfl⟩
 ·exact ⟨⟨by simp,by simp,by simp only;omega,by simp [ns]⟩,.inr (.inr rfl)⟩
 ·exact ⟨⟨by simp,by simp,by simp only;omega,by simp [ns]⟩,.inr (.inr rfl)⟩
 ·exact ⟨⟨by simp,by simp,by simp only;split<;>omega,by simp [ns]⟩,.inr (.inr rfl)⟩
 ·exact ⟨⟨by simp,by simp,by simp only;omega,by simp [ns]⟩,.inr (.inr rfl)⟩
 ·exact ⟨⟨by simp,by simp,hm,by simp [ns]⟩,.inr (.inr rfl)⟩
section
variable {fu d:Nat}
theorem Sm (s:ByteArray)(h:s.size<=9223372036854775807):Ae C0 Tryd.prog fu (d+1) 35 [.sc (.string s)]=some ⟨[.sc (.bool (VC s))],[]⟩:=by
 show EV [.sc (.string s)]=_;unfold EV;simp [h]
end
end
section
open Go.IntKind (wrap)
def Vt (s:Sg):Int:=if C4 s.path.length=true then 9 else if Nn s.leaf s.path.length=true then 9 else if s.chains.length≠18 then 4 else 0
def Dh (c:Ce):Int:=if A7 c=0 then Vt c.sig else A7 c
def Fg (c:Ce):List Int:=Br (Be c)++BB c.sig
def V1 (c:Ce):List PV:=if Dh c=0 then [.own 1 (Fg c).length (Ag .u8 (Fg c)),.sc (.int .i64 0)] else [.own 1 0 [],.sc (.int .i64 (Dh c))]
def Kc (c:Ce):Int:=M8 14 (Br (Be c))
def AK (c:Ce)(k:Ky):Int:=if A7 c=0 then QW k (Kc c) c.sig else A7 c
def NB:Ce:=⟨Fv,Fv,0,⟨0,0⟩,0,0,false,0,0,⟨0,[],[]⟩⟩
def Lw (c:Ce)(seed h leaf:Int):Ce × Int:=
 if A7 c=0 then (match V7 seed h leaf (Kc c) with|some s=>({ c with sig:=s },0)|none=>(NB,9)) else (NB,A7 c)
theorem O1 {c:Ce}(h:A7 c=0):(Br (Be c)).length<=200:=by
 have k9:(Cu (Ma c.key)).size=9:=by rw [Hf];rfl
 have ns:Fv.size=0:=rfl;unfold A7 at h
 have hs:c.subj.size<=32∧c.iss.size<=32:=by
  split at h
  ·cases h
  ·split at h
   ·cases h
   ·omega
 have e:Br (Be c)=B6 ⟨5,9,Fv⟩++(B6 ⟨4,0,c.subj⟩++(B6 ⟨4,0,c.iss⟩++(B6 ⟨1,c.serial,Fv⟩++(B6 ⟨3,0,Cu (Ma c.key)⟩++(B6 ⟨1,c.fr,Fv⟩++(B6 ⟨1,c.un,Fv⟩++(B6 ⟨7,(if c.auth=true then 1 else 0),Fv⟩++(B6 ⟨1,c.path,Fv⟩++(B6 ⟨1,c.model,Fv⟩++[]))))))))):=rfl
 rw [e];simp only [Ns,CV];have i1:=Gf ⟨5,9,Fv⟩;have i2:=Gf ⟨4,0,c.subj⟩;have i3:=Gf ⟨4,0,c.iss⟩;have i4:=Gf ⟨1,c.serial,Fv⟩;have i5:=Gf ⟨3,0,Cu (Ma c.key)⟩;have i6:=Gf ⟨1,c.fr,Fv⟩;have i7:=Gf ⟨1,c.un,Fv⟩;have i8:=Gf ⟨7,(if c.auth=true then 1 else 0),Fv⟩
 have i9:=Gf ⟨1,c.path,Fv⟩;have i0:=Gf ⟨1,c.model,Fv⟩;simp only [ns,k9] at i1 i2 i3 i4 i5 i6 i7 i8 i9 i0;omega
theorem LV {c:Ce}(hw:c.wf)(h:A7 c=0):Ik (Br (Be c)):=by
 intro y hy;obtain ⟨x,hx,hy⟩:=List.mem_flatMap.1 hy;have:=(FX hw h x hx).1;exact Ahu this.k1 this.k8 this.n0 y hy
theorem Aav {seed h leaf m:Int}{s:Sg}(e:V7 seed h leaf m=some s):s.chains.length=18∧s.path.length<=4:=by
 unfold V7 at e;split at e
 ·cases e
 ·rename_i hh;split at e
  ·cases e
  ·cases e;have:=Fn (by simpa using hh)
   simp [Jt];omega
section
variable {fu d:Nat} {c:Ce}
end
end
section
open Go.IntKind (wrap)
structure Fz where
 p:Bool
 left:Int
 last:List Int
def Fz.cells (f:Fz):List PV:=[.sc (.bool f.p),.sc (.int .i64 f.left),.lst false 1 f.last.length (Ag .u8 f.last)]
def D7 (l:List Fz):List PV:=l.flatMap Fz.cells
theorem Fz.cells_len (f:Fz):f.cells.length=3:=rfl
theorem Cl (l:List Fz):(D7 l).length=l.length*3:=PN Fz.cells_len l
theorem Cx (l:List Fz):List.take (l.length*3) (D7 l)=D7 l:=Wz (by rw [Cl];omega)
def Pk (l:List Fz):Bool:=match l.getLast? with|some f=>f.p&&(Int.tmod f.left 2==0)|none=>false
def Hx (l:List Fz)(cnt k:Int):Int:=
 if cnt>=512 then 8 else if k<1 then 3 else if k>8 then 3 else if Pk l=true∧k≠1∧k≠2∧k≠4 then 3 else if (l.length:Int)>8 then 5 else 0
abbrev I8 (l:List Fz)(cnt:Int):List PV:=[.own 3 l.length (D7 l),.sc (.int .i64 cnt)]
section
variable {fu d:Nat}
theorem PY (l:List Fz)(cnt:Int):Ae C0 Tryd.prog fu (d+1) P9 [.pbox (I8 l cnt)]=some ⟨[.sc (.bool (decide (cnt>0)&&((l.length:Int)==0)))],[I8 l cnt]⟩:=by
 rw [Z3];have L:=Cl l;have t:=Cx l;by_cases h:cnt>0
 ·simp (disch:=omega) only [Ca,h,decide_true,Bool.true_and,L,t]
 ·simp (disch:=omega) only [Ca,h,decide_false,Bool.false_and,L,t]
theorem GO {l:List Fz}(hl:l.length<=1000000)(cnt:Int):Ae C0 Tryd.prog fu (d+1) Pg [.pbox (I8 l cnt)]=some ⟨[.sc (.bool (Pk l))],[I8 l cnt]⟩:=by
 rw [W9];have L:=Cl l;have t:=Cx l;unfold Pk;rcases List.eq_nil_or_concat l with rfl|⟨l',f,rfl⟩
 ·have e0:¬(((([]:List Fz).length:Nat):Int)>0):=by simp
  simp (disch:=first|assumption|omega) only [Ca,L,t]
  first|done|rfl
 ·have hn:(l'.concat f).length=l'.length+1:=by simp
  have hx:(l'.concat f)[l'.length]?=some f:=by simp
  have gl:(l'.concat f).getLast?=some f:=by simp
  have w:wrap .i64 (((l'.concat f).length:Int)-1)=(l'.length:Int):=by rw [Aj (by omega) (by omega)];omega
  have g0:(D7 (l'.concat f)).getD (l'.length*3) .top=.sc (.bool f.p):=D6 Fz.cells_len hx (j:=0) (by omega)
  have g1:(D7 (l'.concat f)).getD (l'.length*3+1) .top=.sc (.int .i64 f.left):=D6 Fz.cells_len hx (j:=1) (by omega)
  rw [gl];cases hp:f.p
  ·rw [hp] at g0;simp (disch:=omega) only [Ca,w,Hw,C2,MT,g0,L,t,hp,Bool.false_and]
  ·rw [hp] at g0;simp (disch:=omega) only [Ca,w,Hw,C2,MT,g0,g1,L,t,hp,Bool.true_and]
theorem RF {l:List Fz}(hl:l.length<=1000000)(cnt k:Int):Ae C0 Tryd.prog fu (d+2) O4 [.pbox (I8 l cnt),.sc (.int .i64 k)]=some ⟨[.sc (.int .i64 (Hx l cnt k))],[I8 l cnt]⟩:=by
 refine (Yy fu (d+1) l.length (D7 l) cnt k).trans ?_;have L:=Cl l;have t:=Cx l;have ak:=GO (fu:=fu) (d:=d) hl cnt;unfold I8 at ak;unfold Hx;by_cases c1:cnt>=512
 ·rw [Cc c1];simp (disch:=omega) only [Ca,L,t]
 rw [A9 c1];by_cases c2:k<1
 ·rw [Cc c2];simp (disch:=omega) only [Ca,L,t]
 rw [A9 c2];by_cases c3:k>8
 ·rw [Cc c3];simp (disch:=omega) only [Ca,L,t]
 rw [A9 c3];cases ha:Pk l
 ·rw [ha] at ak;rw [A9 (by simp)]
  by_cases c5:(l.length:Int)>8
  ·rw [Cc c5];simp (disch:=omega) only [Ca,L,t,ak]
  ·rw [A9 c5];simp (disch:=omega) only [Ca,L,t,ak]
 ·rw [ha] at ak;by_cases c4:k≠1∧k≠2∧k≠4
  ·rw [Cc ⟨rfl,c4⟩];simp (disch:=omega) only [Ca,L,t,ak,Ex];rw [A9 c4.1,A9 c4.2.1,A9 c4.2.2]
  ·rw [A9 (fun h=>c4 h.2)]
   have hk:k=1∨k=2∨k=4:=by omega
   by_cases c5:(l.length:Int)>8
   ·rw [Cc c5];rcases hk with rfl|rfl|rfl<;>simp (disch:=omega) only [Ca,L,t,ak,Ex,Int.reduceEq,if_true,if_false]
   ·rw [A9 c5];rcases hk with rfl|rfl|rfl<;>simp (disch:=omega) only [Ca,L,t,ak,Ex,Int.reduceEq,if_true,if_false]
end
end
section
open Go.IntKind (wrap)
theorem J8 (l:List Fz):l=[]∨∃l' f,l=l'++[f]:=by
 rcases List.eq_nil_or_concat l with h|⟨a,b,h⟩
 ·exact .inl h
 ·exact .inr ⟨a,b,by simpa using h⟩
def AC (l:List Fz):List Fz:=(l.reverse.dropWhile fun f=>f.left==0).reverse
theorem LJ {l:List Fz}{f:Fz}(h:f.left=0):AC (l++[f])=AC l:=by
 unfold AC;rw [List.reverse_append,List.reverse_singleton,List.singleton_append,List.dropWhile_cons_of_pos (by simp [h])]
theorem IL {l:List Fz}{f:Fz}(h:f.left≠0):AC (l++[f])=l++[f]:=by
 unfold AC;rw [List.reverse_append,List.reverse_singleton,List.singleton_append,List.dropWhile_cons_of_neg (by simp [h])]
 simp
def GP (l:List Fz):List Fz:=match l.getLast? with|some f=>l.dropLast++[⟨f.p,wrap .i64 (f.left-1),f.last⟩]|none=>[]
def KU (l:List Fz)(x:It):List Fz:=
 if x.k=5∧x.n>0 then l++[⟨false,wrap .i64 x.n,[]⟩] else if x.k=6∧x.n>0 then l++[⟨true,wrap .i64 (2*wrap .i64 x.n),[]⟩] else l
def Ep (l:List Fz)(x:It):List Fz:=AC (KU (GP l) x)
theorem Sy (l:List Fz)(f:Fz):GP (l++[f])=l++[⟨f.p,wrap .i64 (f.left-1),f.last⟩]:=by
 unfold GP;simp
theorem GK (l:List Fz):(GP l).length=l.length:=by
 rcases J8 l with rfl|⟨l',f,rfl⟩
 ·rfl
 ·rw [Sy];simp
theorem Qa (a b:List Fz):D7 (a++b)=D7 a++D7 b:=by
 unfold D7;rw [List.flatMap_append]
theorem Qn (f:Fz):D7 [f]=f.cells:=by
 unfold D7;simp
section
variable {fu d:Nat}
theorem KH {call:Ah}{a0_0n:Nat}{a0_0:List PV}{a0_1 a1_0 a1_1:Int}{a1_2:ByteArray}{c:Int}:∀(n:Nat)(l:List Fz)(r:List PV)(nn:Nat),l.length=n->n<nn->n<=1000000 ->
  Ax fu call a0_0n a0_0 a0_1 a1_0 a1_1 a1_2 nn (l.length:Int) l.length c (D7 l++r)=some ⟨[],[I8 (AC l) c]⟩:=by
 intro n
 induction n with
 |zero=>
  intro l r nn hl hn _;obtain rfl:l=[]:=List.eq_nil_of_length_eq_zero hl;obtain ⟨m,rfl⟩:∃m,nn=m+1:=⟨nn-1,by omega⟩
  have e0:¬(((([]:List Fz).length:Nat):Int)>0):=by simp
  have e1:([]:List Fz).length*3<=(D7 []++r).length:=by simp
  rw [Ly];simp (disch:=first|assumption|omega) only [Ca];rfl
 |succ n ih=>
  intro l r nn hl hn hm;obtain ⟨m,rfl⟩:∃m,nn=m+1:=⟨nn-1,by omega⟩
  rcases J8 l with rfl|⟨l',f,rfl⟩
  ·simp at hl
  have hn':(l'++[f]).length=l'.length+1:=by simp
  have hx:(l'++[f])[l'.length]?=some f:=by simp
  have w:wrap .i64 (((l'++[f]).length:Int)-1)=(l'.length:Int):=by rw [Aj (by omega) (by omega)];omega
  have L:=Cl (l'++[f]);have L2:(D7 (l'++[f])++r).length=(l'++[f]).length*3+r.length:=by rw [Ns,L]
  have t:List.take ((l'++[f]).length*3) (D7 (l'++[f])++r)=D7 (l'++[f]):=by rw [←L,List.take_left'];rfl
  have g1:(D7 (l'++[f])++r).getD (l'.length*3+1) .top=.sc (.int .i64 f.left):=by
   have:=D6 (f:=Fz.cells) Fz.cells_len hx (j:=1) (by omega)
   rw [List.getD_eq_getElem?_getD,List.getElem?_append_left (by rw [L];omega),←List.getD_eq_getElem?_getD]
   exact this
  rw [Ly];by_cases hz:f.left=0
  ·have e:D7 (l'++[f])++r=D7 l'++(f.cells++r):=by rw [Qa,Qn,YW]
   have q:=ih l' (f.cells++r) m (by omega) (by omega) (by omega)
   rw [←e] at q;rw [LJ hz];have hb:(f.left==(0:Int))=true:=by simp [hz]
   simp (disch:=omega) only [Ca,w,Hw,C2,Nat.sub_zero,g1,hb,q]
  ·rw [IL hz];have hb:(f.left==(0:Int))=false:=by simp [hz]
   simp (disch:=omega) only [Ca,w,Hw,C2,g1,hb,L2,t]
theorem XU {l:List Fz}{x:It}{cnt:Int}(hl:l.length<=100000)(hf:l.length+1<fu)(h0:0<=cnt)(h1:cnt<=1000000):
  Ae C0 Tryd.prog fu (d+1) Qs [.pbox (I8 l cnt),.agg x.cells]=some ⟨[],[I8 (Ep l x) (cnt+1)]⟩:=by
 obtain ⟨k,v,s⟩:=x;refine (AF fu d l.length (D7 l) cnt k v s).trans ?_;have w1:wrap .i64 (cnt+1)=cnt+1:=Aj (by omega) (by omega)
 unfold Ep KU;have DL:=GK l;generalize hD:GP l=l1 at DL ⊢;have L1:(D7 l1).length=l.length*3:=by rw [Cl,DL]
 have t1:List.take (l.length*3) (D7 l1)=D7 l1:=Wz (by omega)
 have p5:∀b u,D7 l1++[.sc (.bool b),.sc (.int .i64 u),.lst false 1 0 []]=D7 (l1++[⟨b,u,[]⟩]):=by
  intro b u;rw [Qa,Qn];rfl
 have lp0:∀call,Ax fu call l.length (D7 l) cnt k v s fu (l.length:Int) l.length (cnt+1) (D7 l1)=some ⟨[],[I8 (AC l1) (cnt+1)]⟩:=by
  intro call;have:=KH (fu:=fu) (call:=call) (a0_0n:=l.length) (a0_0:=D7 l) (a0_1:=cnt) (a1_0:=k) (a1_1:=v) (a1_2:=s) (c:=cnt+1) _ l1 [] fu rfl (by omega) (by omega)
  rw [List.append_nil,DL] at this;exact this
 have lp1:∀call f,Ax fu call l.length (D7 l) cnt k v s fu ((l.length+1:Nat):Int) (l.length+1) (cnt+1) (D7 (l1++[f]))=some ⟨[],[I8 (AC (l1++[f])) (cnt+1)]⟩:=by
  intro call f;have ll:(l1++[f]).length=l.length+1:=by simp [DL]
  have:=KH (fu:=fu) (call:=call) (a0_0n:=l.length) (a0_0:=D7 l) (a0_1:=cnt) (a1_0:=k) (a1_1:=v) (a1_2:=s) (c:=cnt+1) _ (l1++[f]) [] fu rfl (by omega) (by omega)
  rw [List.append_nil,ll] at this;exact this
 rcases J8 l with rfl|⟨l',f,rfl⟩
 ·have e0:¬(((([]:List Fz).length:Nat):Int)>0):=by simp
  obtain rfl:l1=[]:=by rw [←hD];rfl
  by_cases k5:k=5
  ·subst k5;by_cases hv:v>0
   ·rw [Cc ⟨rfl,hv⟩];simp (disch:=first|assumption|omega) only [Ca,w1,L1,t1,p5,lp1,Int.reduceBEq]
   ·rw [A9 (fun h=>hv h.2),A9 (fun h=>hv h.2)]
    simp (disch:=first|assumption|omega) only [Ca,w1,L1,t1,p5,lp0,Int.reduceBEq]
  ·have b5:(k==(5:Int))=false:=by simp [k5]
   rw [A9 (fun h=>k5 h.1)]
   by_cases k6:k=6
   ·subst k6;by_cases hv:v>0
    ·rw [Cc ⟨rfl,hv⟩];simp (disch:=first|assumption|omega) only [Ca,w1,L1,t1,p5,lp1,Int.reduceBEq]
    ·rw [A9 (fun h=>hv h.2)]
     simp (disch:=first|assumption|omega) only [Ca,w1,L1,t1,p5,lp0,Int.reduceBEq]
   ·have b6:(k==(6:Int))=false:=by simp [k6]
    rw [A9 (fun h=>k6 h.1)]
    simp (disch:=first|assumption|omega) only [Ca,w1,L1,t1,p5,lp0,b5,b6]
 ·have hn':(l'++[f]).length=l'.length+1:=by simp
  have hx:(l'++[f])[l'.length]?=some f:=by simp
  have w:wrap .i64 (((l'++[f]).length:Int)-1)=(l'.length:Int):=by rw [Aj (by omega) (by omega)];omega
  have L:=Cl (l'++[f]);have g1:(D7 (l'++[f])).getD (l'.length*3+1) .top=.sc (.int .i64 f.left):=D6 Fz.cells_len hx (j:=1) (by omega)
  have sp:Bd (D7 (l'++[f])) [.sc (.int .i64 (wrap .i64 (f.left-1)))] (l'.length*3+1)=D7 l1:=by
   rw [Eu (by omega),←hD,Sy,Qa,Qa,Qn,Qn]
   have:=Cl l';rw [List.set_append_right _ _ (by omega)]
   have:l'.length*3+1-(D7 l').length=1:=by omega
   rw [this];rfl
  by_cases k5:k=5
  ·subst k5;by_cases hv:v>0
   ·rw [Cc ⟨rfl,hv⟩];simp (disch:=first|assumption|omega) only [Ca,w,w1,Hw,C2,g1,sp,L1,t1,p5,lp1,Int.reduceBEq]
   ·rw [A9 (fun h=>hv h.2),A9 (fun h=>hv h.2)]
    simp (disch:=first|assumption|omega) only [Ca,w,w1,Hw,C2,g1,sp,L1,t1,p5,lp0,Int.reduceBEq]
  ·have b5:(k==(5:Int))=false:=by simp [k5]
   rw [A9 (fun h=>k5 h.1)]
   by_cases k6:k=6
   ·subst k6;by_cases hv:v>0
    ·rw [Cc ⟨rfl,hv⟩];simp (disch:=first|assumption|omega) only [Ca,w,w1,Hw,C2,g1,sp,L1,t1,p5,lp1,Int.reduceBEq]
    ·rw [A9 (fun h=>hv h.2)]
     simp (disch:=first|assumption|omega) only [Ca,w,w1,Hw,C2,g1,sp,L1,t1,p5,lp0,Int.reduceBEq]
   ·have b6:(k==(6:Int))=false:=by simp [k6]
    rw [A9 (fun h=>k6 h.1)]
    simp (disch:=first|assumption|omega) only [Ca,w,w1,Hw,C2,g1,sp,L1,t1,p5,lp0,b5,b6]
end
end
section
open Go.IntKind (wrap)
def PP (s:ByteArray):Bool:=Array.toList (ByteArray.data s)==Array.toList (ByteArray.data (ByteArray.mk #[]))
def Fm (x:It):Bool:=
 if x.k=3 then x.n==0 else if x.k=4 then x.n==0 else if x.k=8 then (x.n==0)&&PP x.s else if x.k=7 then decide (x.n<=1)&&PP x.s else PP x.s
section
variable {fu d:Nat}
theorem Aau (x:It):Ae C0 Tryd.prog fu (d+1) Vf [.agg x.cells]=some ⟨[.sc (.bool (Fm x))],[]⟩:=by
 obtain ⟨k,n,s⟩:=x;refine (JC fu d k n s).trans ?_;unfold Fm;show _=some (⟨[.sc (.bool (if k=3 then n==0 else if k=4 then n==0 else if k=8 then (n==0)&&PP s else if k=7 then decide (n<=1)&&PP s else PP s))],[]⟩:Aw)
 by_cases h3:k=3
 ·subst h3;simp only [Ca,Int.reduceBEq,if_true]
 by_cases h4:k=4
 ·subst h4;simp only [Ca,Int.reduceBEq,Int.reduceEq,if_true,if_false]
 have b3:(k==(3:Int))=false:=by simp [h3]
 have b4:(k==(4:Int))=false:=by simp [h4]
 by_cases h8:k=8
 ·subst h8;cases hn:n==0<;>simp only [Ca,Int.reduceBEq,Int.reduceEq,if_true,if_false,hn,Bool.true_and,Bool.false_and]<;>rfl
 have b8:(k==(8:Int))=false:=by simp [h8]
 by_cases h7:k=7
 ·subst h7;cases hn:decide (n<=1)<;>simp only [Ca,Int.reduceBEq,Int.reduceEq,if_true,if_false,hn,Bool.true_and,Bool.false_and]<;>rfl
 have b7:(k==(7:Int))=false:=by simp [h7]
 simp only [Ca,b3,b4,b8,b7,A9 h3,A9 h4,A9 h8,A9 h7];rfl
theorem BQ {l:List Fz}{x:It}{cnt:Int}(hl:l.length<=1000)(hf:l.length+1<fu)(h0:0<=cnt)(h1:cnt<=1000000)(ha:Pk l=false)
  (hs:x.s.size<=100000)(hv:x.k=4->Lib.validD x.s.data.toList=true):
  Ae C0 Tryd.prog fu (d+2) H0 [.pbox (I8 l cnt),.agg x.cells]=some ⟨[.sc (.int .i64 0)],[I8 (Ep l x) (cnt+1)]⟩:=by
 have st:=XU (fu:=fu) (d:=d) (l:=l) (x:=x) (cnt:=cnt) (by omega) hf h0 h1
 have ak:=GO (fu:=fu) (d:=d) (l:=l) (by omega) cnt
 have L:=Cl l;have t:=Cx l;have L2:=Cl (Ep l x);have t2:=Cx (Ep l x);rw [ha] at ak;generalize hE:Ep l x=E at *
 obtain ⟨k,n,s⟩:=x;have va:=Sm (fu:=fu) (d:=d) s (Nat.le_trans hs (by omega))
 unfold VC at va;refine (H4 fu (d+1) l.length (D7 l) cnt k n s).trans ?_;unfold I8 It.cells at st;unfold I8 at ak;by_cases k4:k=4
 ·subst k4;rw [hv rfl] at va;simp (disch:=omega) only [Ca,Int.reduceBEq,va,D9,L,t,ak,st,L2,t2]
 ·have b4:(k==(4:Int))=false:=by simp [k4]
  simp (disch:=omega) only [Ca,b4,L,t,ak,st,L2,t2]
theorem Ad6 {l:List Fz}{x:It}{cnt:Int}(hl:l.length<=1000)(hf:l.length+1<fu)(h0:0<=cnt)(h1:cnt<=1000000)(ha:Pk l=false)
  (hs:x.s.size<=1024)(hv:x.k=4->Lib.validD x.s.data.toList=true)(hd:(decide (cnt>0)&&((l.length:Int)==0))=false) (hm:Hx l cnt x.k=0)(hsh:Fm x=true)(hn:x.n<=512∨(x.k≠5∧x.k≠6)):
  Ae C0 Tryd.prog fu (d+3) Ln [.pbox (I8 l cnt),.agg x.cells]=some ⟨[.sc (.int .i64 0)],[I8 (Ep l x) (cnt+1)]⟩:=by
 have ac:=BQ (fu:=fu) (d:=d) (l:=l) (x:=x) (cnt:=cnt) hl hf h0 h1 ha (by omega) hv
 have dn:=PY (fu:=fu) (d:=d+1) l cnt;have ad:=RF (fu:=fu) (d:=d) (l:=l) (by omega) cnt x.k
 have sh:=Aau (fu:=fu) (d:=d+1) x;rw [hd] at dn;rw [hm] at ad;rw [hsh] at sh;have L:=Cl l;have t:=Cx l;have L2:=Cl (Ep l x);have t2:=Cx (Ep l x);generalize hE:Ep l x=E at *
 obtain ⟨k,n,s⟩:=x;have hs':¬((s.size:Int)>1024):=by have:s.size<=1024:=hs;omega
 refine (Uu fu (d+2) l.length (D7 l) cnt k n s).trans ?_;unfold I8 It.cells at ac;unfold I8 at dn ad;unfold It.cells at sh;by_cases k5:k=5
 ·subst k5;have hn':¬(n>512):=hn.elim (fun h=>Int.not_lt.2 h) (fun h=>absurd rfl h.1)
  simp (disch:=first|assumption|omega) only [Ca,Int.reduceBEq,dn,ad,sh,ac,D9,L,t,L2,t2,bne_self_eq_false]
 have b5:(k==(5:Int))=false:=by simp [k5]
 by_cases k6:k=6
 ·subst k6;have hn':¬(n>512):=hn.elim (fun h=>Int.not_lt.2 h) (fun h=>absurd rfl h.2)
  simp (disch:=first|assumption|omega) only [Ca,Int.reduceBEq,dn,ad,sh,ac,D9,L,t,L2,t2,bne_self_eq_false]
 have b6:(k==(6:Int))=false:=by simp [k6]
 simp (disch:=first|assumption|omega) only [Ca,b5,b6,dn,ad,sh,ac,D9,L,t,L2,t2,bne_self_eq_false]
end
end
section
open Go.IntKind (wrap)
theorem P5 (l:List It):(Cb l).length=l.length*3:=PN It.cells_len l
structure Ais (l:List Fz) (cnt:Int) (x:It):Prop where
 hl:l.length<=100
 h0:0<=cnt
 h1:cnt<=1000
 ha:Pk l=false
 hs:x.s.size<=1024
 hv:x.k=4->Lib.validD x.s.data.toList=true
 hd:(decide (cnt>0)&&((l.length:Int)==0))=false
 hm:Hx l cnt x.k=0
 hsh:Fm x=true
 hn:x.n<=512∨(x.k≠5∧x.k≠6)
def Mw:List Fz->Int->List It->Prop
 |l,cnt,[]=>l=[]∧cnt>0
 |l,cnt,x::r=>Ais l cnt x∧Mw (Ep l x) (cnt+1) r
section
variable {fu d:Nat}
theorem JG (hfu:200<=fu){l:List It}(hl:l.length<=100000){a0n:Nat}{a0:List PV}:∀(r:List It)(i:Nat)(fs:List Fz)(cnt:Int)(nn:Nat),l.drop i=r->i+r.length=l.length->r.length<nn->Mw fs cnt r ->
  Hg fu (Ae C0 Tryd.prog fu (d+3)) a0n a0 nn l.length (Cb l) (l.length:Int) (i:Int) fs.length cnt (D7 fs)=some ⟨[.sc (.int .i64 0)],[]⟩:=by
 intro r
 induction r with
 |nil=>
  intro i fs cnt nn hd hi hn hg;obtain ⟨rfl,hc⟩:=hg;obtain ⟨m,rfl⟩:∃m,nn=m+1:=⟨nn-1,by omega⟩
  rw [CV,MT] at hi;rw [Np];have dn:=PY (fu:=fu) (d:=d+2) [] cnt;have e:(decide (cnt>0)&&(((([]:List Fz).length:Nat):Int)==0))=true:=by simp [hc]
  rw [e] at dn;unfold I8 at dn;have L:=Cl [];have t:=Cx [];have c:¬((i:Int)<(l.length:Int)):=by omega
  simp (disch:=first|assumption|omega) only [Ca,L,t,dn,D9]
 |cons x r ih=>
  intro i fs cnt nn hd hi hn hg;obtain ⟨g,hg⟩:=hg;obtain ⟨m,rfl⟩:∃m,nn=m+1:=⟨nn-1,by omega⟩
  rw [Le] at hi hn
  have hx:l[i]?=some x:=by
   have:=congrArg (fun q=>q[0]?) hd
   simpa using this
  have hd':l.drop (i+1)=r:=by
   have:=congrArg (List.drop 1) hd;rw [List.drop_drop] at this
   simpa using this
  have q:=ih (i+1) (Ep fs x) (cnt+1) m hd' (by omega) (by omega) hg
  have ck:=Ad6 (fu:=fu) (d:=d) (l:=fs) (x:=x) (cnt:=cnt) (by have:=g.hl;omega) (by have:=g.hl;omega) g.h0 (by have:=g.h1;omega) g.ha g.hs g.hv g.hd g.hm g.hsh g.hn
  generalize Ep fs x=E at *
  have g0:(Cb l).getD (i*3) .top=.sc (.int .i64 x.k):=D6 It.cells_len hx (j:=0) (by omega)
  have g1:(Cb l).getD (i*3+1) .top=.sc (.int .u64 x.n):=D6 It.cells_len hx (j:=1) (by omega)
  have g2:(Cb l).getD (i*3+1+1) .top=.sc (.string x.s):=D6 It.cells_len hx (j:=2) (by omega)
  have L:=Cl fs;have t:=Cx fs;have w:wrap .i64 ((i:Int)+1)=((i+1:Nat):Int):=by rw [Aj (by omega) (by omega)];omega
  rw [Np];unfold I8 It.cells at ck;simp (disch:=first|assumption|omega) only [Ca,Hw,g0,g1,g2,L,t,ck,bne_self_eq_false,w,q]
theorem Pr (hfu:200<=fu){l:List It}(hl:l.length<=100000)(hf:l.length<fu)(hg:Mw [] 0 l):Ae C0 Tryd.prog fu (d+4) R5 [.lst false 3 l.length (Cb l)]=some ⟨[.sc (.int .i64 0)],[]⟩:=by
 rw [DN];exact JG hfu hl l 0 [] 0 fu rfl (by omega) hf hg
end
end
section
open Go.IntKind (wrap)
section
variable {fu d:Nat}
theorem QY (hfu:1000<=fu){l:List It}(hl:l.length<=100000){a0n:Nat}{a0:List PV}:∀(r:List It)(i:Nat)(o:List Int)(nn:Nat),l.drop i=r->i+r.length=l.length->r.length<nn->(∀x∈r,x.ok)->(o++Br r).length<=300000 ->
  Iq fu (Ae C0 Tryd.prog fu (d+2)) a0n a0 nn o.length l.length (Cb l) (l.length:Int) (i:Int) (Ag .u8 o)=some ⟨[.own 1 (o++Br r).length (Ag .u8 (o++Br r)),.sc (.int .i64 0)],[]⟩:=by
 intro r
 induction r with
 |nil=>
  intro i o nn hd hi hn hg hb;obtain ⟨m,rfl⟩:∃m,nn=m+1:=⟨nn-1,by omega⟩
  rw [CV,MT] at hi;have e:o++Br []=o:=by simp [Br]
  rw [e,Qf];have L:(Ag .u8 o).length=o.length:=Al _ _;have t:List.take o.length (Ag .u8 o)=Ag .u8 o:=Wz (by omega)
  have c:¬((i:Int)<(l.length:Int)):=by omega
  simp (disch:=first|assumption|omega) only [Ca,Cd,L,t]
 |cons x r ih=>
  intro i o nn hd hi hn hg hb;obtain ⟨m,rfl⟩:∃m,nn=m+1:=⟨nn-1,by omega⟩
  rw [Le] at hi hn
  have hx:l[i]?=some x:=by
   have:=congrArg (fun q=>q[0]?) hd
   simpa using this
  have hd':l.drop (i+1)=r:=by
   have:=congrArg (List.drop 1) hd;rw [List.drop_drop] at this
   simpa using this
  have e:o++Br (x::r)=(o++B6 x)++Br r:=by simp [Br]
  rw [e] at hb ⊢
  have ho:o.length<=300000:=by
   rw [Ns,Ns] at hb;omega
  have q:=ih (i+1) (o++B6 x) m hd' (by omega) (by omega) (fun y hy=>hg y (List.mem_cons_of_mem _ hy)) hb
  have it:=ZI (fu:=fu) (d:=d) hfu (l:=o) ho (x:=x) (hg x (by simp))
  have g0:(Cb l).getD (i*3) .top=.sc (.int .i64 x.k):=D6 It.cells_len hx (j:=0) (by omega)
  have g1:(Cb l).getD (i*3+1) .top=.sc (.int .u64 x.n):=D6 It.cells_len hx (j:=1) (by omega)
  have g2:(Cb l).getD (i*3+1+1) .top=.sc (.string x.s):=D6 It.cells_len hx (j:=2) (by omega)
  have L:(Ag .u8 o).length=o.length:=Al _ _;have t:List.take o.length (Ag .u8 o)=Ag .u8 o:=Wz (by omega)
  have w:wrap .i64 ((i:Int)+1)=((i+1:Nat):Int):=by rw [Aj (by omega) (by omega)];omega
  rw [Qf];unfold It.cells at it;simp (disch:=first|assumption|omega) only [Ca,Hw,Cd,g0,g1,g2,L,t,it,w,q]
theorem QM (hfu:1000<=fu){l:List It}(hl:l.length<=100000)(hf:l.length<fu)(hg:Mw [] 0 l) (hk:∀x∈l,x.ok)(hb:(Br l).length<=300000):
  Ae C0 Tryd.prog fu (d+5) Pq [.lst false 3 l.length (Cb l)]=some ⟨[.own 1 (Br l).length (Ag .u8 (Br l)),.sc (.int .i64 0)],[]⟩:=by
 rw [KF];have v:=Pr (fu:=fu) (d:=d) (by omega) hl hf hg
 have q:=QY (fu:=fu) (d:=d+2) hfu hl (a0n:=l.length) (a0:=Cb l) l 0 [] fu rfl (by omega) hf hk (by simpa using hb)
 rw [Zzq] at q;simp only [Ca,v,bne_self_eq_false];exact q
end
end
section
open Go.IntKind (wrap)
section
variable {fu d:Nat}
theorem NT (hfu:200<=fu){l:List It}(hl:l.length<=100000)(hf:l.length<fu)(hg:Mw [] 0 l):
  Ae C0 Tryd.prog fu (d+5) S3 [.own 3 l.length (Cb l)]=some ⟨[.own 3 l.length (Cb l),.sc (.int .i64 0)],[]⟩:=by
 rw [IR];have v:=Pr (fu:=fu) (d:=d) hfu hl hf hg;have L:=P5 l;have t:List.take (l.length*3) (Cb l)=Cb l:=Wz (by omega)
 simp (disch:=omega) only [Ca,L,t,Ew,v,bne_self_eq_false]
end
end
section
open Go.IntKind (wrap)
structure RK (x:It):Prop where
 kd:x.k=1∨x.k=2∨x.k=3∨x.k=4∨x.k=7∨x.k=8
 hs:x.s.size<=1024
 hv:x.k=4->Lib.validD x.s.data.toList=true
 hsh:Fm x=true
 n0:0<=x.n
theorem RK.ok {x:It}(h:RK x):x.ok:=by
 have:=h.kd;have:=h.hs;exact ⟨by omega,by omega,h.n0,by omega⟩
theorem RK.push {x:It}(h:RK x)(l:List Fz):KU l x=l:=by
 unfold KU;have:=h.kd;rw [A9 (by omega),A9 (by omega)]
theorem Acp {x:It}(h:RK x):Mw [] 0 [x]:=by
 have hk:=h.kd;refine ⟨⟨by simp,by omega,by omega,rfl,h.hs,h.hv,rfl,?_,h.hsh,.inr (by omega)⟩,?_,?_⟩
 ·unfold Hx;rw [A9 (by omega),A9 (by omega),A9 (by omega),A9 (by intro q;exact absurd q.1 (by decide)),A9 (by simp)]
 ·unfold Ep;rw [h.push];rfl
 ·omega
theorem HM:∀(r:List It)(cnt:Int),r≠[]->(∀x∈r,RK x)->0<cnt->cnt+r.length<=500->Mw [⟨false,r.length,[]⟩] cnt r
 |[],_,h,_,_,_=>absurd rfl h
 |x::r,cnt,_,hf,hc,hl=>by
  have h:=hf x (by simp)
  have hk:=h.kd;simp only [Le] at hl;refine ⟨⟨by simp,by omega,by omega,rfl,h.hs,h.hv,by simp,?_,h.hsh,.inr (by omega)⟩,?_⟩
  ·unfold Hx;rw [A9 (by omega),A9 (by omega),A9 (by omega),A9 (by intro q;exact absurd q.1 (by simp [Pk])),A9 (by simp)]
  ·have w:wrap .i64 (((x::r).length:Int)-1)=(r.length:Int):=by
    rw [Aj (by simp only [Le];omega) (by simp only [Le];omega)]
    simp only [Le];omega
   have e:Ep [⟨false,((x::r).length:Nat),[]⟩] x=AC [⟨false,(r.length:Nat),[]⟩]:=by
    unfold Ep;rw [h.push];have:=Sy [] ⟨false,((x::r).length:Nat),[]⟩;rw [Zzq,Zzq] at this;rw [this];simp only [w]
   rw [e];by_cases hr:r=[]
   ·subst hr;have:=LJ (l:=[]) (f:=⟨false,(([]:List It).length:Nat),[]⟩) rfl;rw [Zzq] at this;rw [this];exact ⟨rfl,by omega⟩
   ·have:=IL (l:=[]) (f:=⟨false,(r.length:Nat),[]⟩) (by simp only;have:=List.length_pos_iff.2 hr;omega)
    rw [Zzq] at this;rw [this];exact HM r (cnt+1) hr (fun y hy=>hf y (List.mem_cons_of_mem _ hy)) (by omega) (by omega)
theorem Acn {r:List It}(hr:r≠[]) (hl:r.length<=400)(hf:∀x∈r,RK x):Mw [] 0 (⟨5,r.length,⟨#[]⟩⟩::r):=by
 have hp:=List.length_pos_iff.2 hr;refine ⟨⟨by simp,by omega,by omega,rfl,Nat.zero_le _,(by intro h;cases h),rfl,?_,(by rfl),.inl (by simp only;omega)⟩,?_⟩
 ·unfold Hx;rw [A9 (by omega),A9 (by simp),A9 (by simp),A9 (by intro q;exact absurd q.1 (by decide)),A9 (by simp)]
 ·have w:wrap .i64 (r.length:Int)=(r.length:Int):=Aj (by omega) (by omega)
  have e:Ep [] ⟨5,(r.length:Nat),⟨#[]⟩⟩=AC [⟨false,(r.length:Nat),[]⟩]:=by
   unfold Ep KU;rw [Cc ⟨rfl,by simp only;omega⟩]
   simp only [w];rfl
  have:=IL (l:=[]) (f:=⟨false,(r.length:Nat),[]⟩) (by simp only;omega)
  rw [Zzq] at this;rw [e,this];exact HM r _ hr hf (by omega) (by omega)
end
section
open Go.IntKind (wrap)
def Ai1 (v:List It):List PV:=[.lst false 3 v.length (Cb v)]
theorem Abi (v:List It):(Ai1 v).length=1:=rfl
def Aat (l:List (List It)):List PV:=l.flatMap Ai1
theorem atv {l:List (List It)} {i:Nat}{v:List It}(h:l[i]?=some v):(Aat l).getD (i*1) .top=.lst false 3 v.length (Cb v):=by
 exact D6 Abi h (j:=0) (by omega)
section
variable {fu d:Nat}
theorem CI (hfu:1000<=fu){a0n:Nat}{a0:List PV}{vs:List (List It)} (hl:vs.length<=100000):∀(r:List (List It)) (i nn:Nat),vs.drop i=r->r.length<nn->(∀v∈r,Mw [] 0 v∧v.length<1000)->i<=vs.length ->
  I4 fu (Ae C0 Tryd.prog fu (d+4)) a0n a0 nn vs.length (Aat vs) (vs.length:Int) (i:Int)=some ⟨[.sc (.int .i64 0)],[]⟩
 |_,_,0,_,h,_,_=>by omega
 |[],i,nn+1,h,hn,hg,hi=>by
  have:=drop_nil h;rw [Qc,Dx _ _ _ (by omega)]
 |v::r,i,nn+1,h,hn,hg,hi=>by
  obtain ⟨h1,h2,h3⟩:=Co h;simp only [Le] at hn;have w:wrap .i64 ((i:Int)+1)=((i+1:Nat):Int):=by rw [Aj (by omega) (by omega)];omega
  have ih:=CI hfu (a0n:=a0n) (a0:=a0) hl r (i+1) nn h3 (by omega) (fun v hv=>hg v (List.mem_cons_of_mem _ hv)) (by omega)
  obtain ⟨g,gl⟩:=hg v (by simp)
  have vg:=Pr (fu:=fu) (d:=d) (by omega) (by omega) (by omega) g
  have g0:=atv h2;rw [Qc];simp (disch:=omega) only [Ca,Hw,g0,vg,bne_self_eq_false,w,ih]
theorem TJ (hfu:1000<=fu){vs:List (List It)} (hl:vs.length<1000)(hg:∀v∈vs,Mw [] 0 v∧v.length<1000):
  Ae C0 Tryd.prog fu (d+5) Vm [.lst false 1 vs.length (Aat vs)]=some ⟨[.sc (.int .i64 0)],[]⟩:=by
 rw [JX];exact CI hfu (by omega) vs 0 fu rfl (by omega) hg (by omega)
theorem QE (a b:List It):Cb (a++b)=Cb a++Cb b:=by
 unfold Cb;rw [List.flatMap_append]
theorem FE (hfu:1000<=fu){a0n:Nat}{a0:List PV}{vs:List (List It)} (hl:vs.length<=100000):∀(r:List (List It)) (i nn:Nat)(o:List It),vs.drop i=r->r.length<nn->Mw [] 0 (o++r.flatten)->(o++r.flatten).length<=500->i<=vs.length ->
  J5 fu (Ae C0 Tryd.prog fu (d+5)) a0n a0 nn o.length vs.length (Aat vs) (vs.length:Int) (i:Int) (Cb o)=some ⟨[.own 3 (o++r.flatten).length (Cb (o++r.flatten)),.sc (.int .i64 0)],[]⟩
 |_,_,0,_,_,h,_,_,_=>by omega
 |[],i,nn+1,o,h,hn,hg,hb,hi=>by
  have:=drop_nil h;have e:o++([]:List (List It)).flatten=o:=by simp
  rw [e] at hg hb ⊢;have L:=P5 o;have t:List.take (o.length*3) (Cb o)=Cb o:=Wz (by omega)
  have ck:=NT (fu:=fu) (d:=d) (by omega) (by omega) (by omega) hg
  rw [R1,Dx _ _ _ (by omega)]
  simp (disch:=omega) only [Ca,L,t,ck]
 |v::r,i,nn+1,o,h,hn,hg,hb,hi=>by
  obtain ⟨h1,h2,h3⟩:=Co h;simp only [Le] at hn;have w:wrap .i64 ((i:Int)+1)=((i+1:Nat):Int):=by rw [Aj (by omega) (by omega)];omega
  have e:o++(v::r).flatten=(o++v)++r.flatten:=by simp
  rw [e] at hg hb ⊢
  have hb':o.length+v.length<=500:=by
   rw [Ns,Ns] at hb;omega
  have ih:=FE hfu (a0n:=a0n) (a0:=a0) hl r (i+1) nn (o++v) h3 (by omega) hg hb (by omega)
  have g0:=atv h2;have L:=P5 o;have Lv:=P5 v;have t:List.take (o.length*3) (Cb o)=Cb o:=Wz (by omega)
  rw [Ns,QE] at ih;rw [R1];simp (disch:=omega) only [Ca,Hw,g0,L,Lv,t,w,ih]
theorem XO (hfu:1000<=fu){vs:List (List It)} (hg:∀v∈vs,Mw [] 0 v∧v.length<1000) (hl:vs.length<=400)(ha:Mw [] 0 (⟨5,vs.length,⟨#[]⟩⟩::vs.flatten)) (hb:vs.flatten.length<=400):
  Ae C0 Tryd.prog fu (d+6) Q3 [.lst false 1 vs.length (Aat vs)]=some ⟨[.own 3 (vs.flatten.length+1) (Cb (⟨5,vs.length,⟨#[]⟩⟩::vs.flatten)),.sc (.int .i64 0)],[]⟩:=by
 rw [OP];have f:=TJ (fu:=fu) (d:=d) hfu (by omega) hg
 have w:wrap .u64 (vs.length:Int)=vs.length:=Dc (by omega) (by omega)
 have q:=FE (fu:=fu) (d:=d) hfu (a0n:=vs.length) (a0:=Aat vs) (by omega) vs 0 fu [⟨5,vs.length,⟨#[]⟩⟩] rfl (by omega) ha (by rw [Ns,List.length_singleton];omega) (by omega)
 simp only [Ca,f,bne_self_eq_false,w];exact q
end
end
section
open Go.IntKind (wrap)
def Al3 (a b:List Int):Int:=Lib.compareBytes (a.map fun n=>n.toNat.toUInt8) (b.map fun n=>n.toNat.toUInt8)
def P2 (a b:List Int):Bool:=if a.length=b.length then decide (Al3 a b<0) else decide (a.length<b.length)
def Hy (l:List Fz)(key:List Int):List Fz:=match l.getLast? with|some f=>l.dropLast++[⟨f.p,f.left,key⟩]|none=>l
theorem Kp (l:List Fz)(f:Fz)(key:List Int):Hy (l++[f]) key=l++[⟨f.p,f.left,key⟩]:=by
 unfold Hy;simp
def EO (l:List Fz):List Int:=match l.getLast? with|some f=>f.last|none=>[]
theorem NV (l:List Fz)(f:Fz):EO (l++[f])=f.last:=by
 unfold EO;simp
def De (l:List Fz)(x:It):Int × List Fz:=
 if x.k=4∧VC x.s=false then (6,l)
 else if Pk l=true then (if EO l≠[]∧P2 (EO l) (B6 x)=false then (7,l) else (0,Ep (Hy l (B6 x)) x))
 else (0,Ep l x)
theorem Aal (x:It):1<=(B6 x).length:=by
 unfold B6;have h2:=Jo 2 x.s.size;have h3:=Jo 3 x.s.size;have h4:=Jo (x.k-1) x.n
 repeat' split
 all_goals try simp only [Ns,Le,CV]
 all_goals omega
section
variable {fu d:Nat}
theorem VH (a b:List Int):Ae C0 Tryd.prog fu (d+1) 87 [.lst false 1 a.length (Ag .u8 a),.lst false 1 b.length (Ag .u8 b)]=some ⟨[.sc (.int .i64 (Al3 a b))],[]⟩:=by
 have h:Ae C0 Tryd.prog fu (d+1) 87 [.lst false 1 a.length (Ag .u8 a),.lst false 1 b.length (Ag .u8 b)]=Tv [.lst false 1 a.length (Ag .u8 a),.lst false 1 b.length (Ag .u8 b)]:=by kernel_rfl
 rw [h];unfold Tv;simp only [Al,Nat.beq_refl,Bool.and_self,cond_true,G2];rfl
theorem VX (a b:List Int):Ae C0 Tryd.prog fu (d+2) Tf [.lst false 1 a.length (Ag .u8 a),.lst false 1 b.length (Ag .u8 b)]=some ⟨[.sc (.bool (P2 a b))],[]⟩:=by
 refine (GG fu (d+1) _ _ _ _).trans ?_;have c:=VH (fu:=fu) (d:=d) a b;unfold P2;by_cases h:a.length=b.length
 ·have b0:((a.length:Int) != (b.length:Int))=false:=by simp [h]
  rw [Cc h];simp only [Ca,b0,c]
 ·have b0:((a.length:Int) != (b.length:Int))=true:=by simp;omega
  rw [A9 h];simp only [Ca,b0];simp
theorem LS {l:List Fz}{x:It}{cnt:Int}(hfu:1000<=fu)(hl:l.length<=900)(h0:0<=cnt)(h1:cnt<=1000000)(hx:x.ok)(hs:x.s.size<=100000):
  Ae C0 Tryd.prog fu (d+3) H0 [.pbox (I8 l cnt),.agg x.cells]=some ⟨[.sc (.int .i64 (De l x).1)],[I8 (De l x).2 (if (De l x).1=0 then cnt+1 else cnt)]⟩:=by
 cases ha:Pk l with
 |false=>
  cases hv:(x.k==4) && !VC x.s with
  |false=>
   have e:De l x=(0,Ep l x):=by
    unfold De;rw [A9,A9 (by simp [ha])]
    intro hh;simp [hh.1,hh.2] at hv
   have:=BQ (fu:=fu) (d:=d+1) (l:=l) (x:=x) (cnt:=cnt) (by omega) (by omega) h0 h1 ha hs (by
    intro hk;simp [hk] at hv;exact hv)
   rw [e,this];rfl
  |true=>
   simp at hv
   have e:De l x=(6,l):=by
    unfold De;rw [Cc hv]
   rw [e];obtain ⟨k,n,s⟩:=x;have va:=Sm (fu:=fu) (d:=d+1) s (Nat.le_trans hs (by omega))
   simp only at hv;obtain ⟨rfl,hv⟩:=hv;rw [hv] at va;have L:=Cl l;have t:=Cx l;refine (H4 fu (d+2) l.length (D7 l) cnt 4 n s).trans ?_;simp (disch:=omega) only [Ca,Int.reduceBEq,va,L,t];rfl
 |true=>
  rcases J8 l with rfl|⟨l',f,rfl⟩
  ·exact absurd ha (by decide)
  have it:=ZI (fu:=fu) (d:=d) hfu (l:=[]) (by simp) hx
  rw [Zzq] at it;have hp:=Aal x;have sm:=VX (fu:=fu) (d:=d) f.last (B6 x);have ak:=GO (fu:=fu) (d:=d+1) (l:=l'++[f]) (by omega) cnt
  rw [ha] at ak;have st:=XU (fu:=fu) (d:=d+1) (l:=Hy (l'++[f]) (B6 x)) (x:=x) (cnt:=cnt) (by rw [Kp];simp at hl ⊢;omega) (by rw [Kp];simp at hl ⊢;omega) h0 h1
  have E:De (l'++[f]) x=(if x.k=4∧VC x.s=false then (6,l'++[f]) else if f.last≠[]∧P2 f.last (B6 x)=false then (7,l'++[f]) else (0,Ep (Hy (l'++[f]) (B6 x)) x)):=by
   unfold De;rw [ha,NV];simp only [if_true]
  have hn':(l'++[f]).length=l'.length+1:=by simp
  have hx':(l'++[f])[l'.length]?=some f:=by simp
  have w:wrap .i64 (((l'++[f]).length:Int)-1)=(l'.length:Int):=by rw [Aj (by omega) (by omega)];omega
  have L:=Cl (l'++[f]);have t:=Cx (l'++[f]);have g2:(D7 (l'++[f])).getD (l'.length*3+2) .top=.lst false 1 f.last.length (Ag .u8 f.last):=D6 Fz.cells_len hx' (j:=2) (by omega)
  have sp:Bd (D7 (l'++[f])) [.lst false 1 (B6 x).length (Ag .u8 (B6 x))] (l'.length*3+2)=D7 (Hy (l'++[f]) (B6 x)):=by
   rw [Eu (by omega),Kp,Qa,Qa,Qn,Qn]
   have:=Cl l';rw [List.set_append_right _ _ (by omega)]
   have:l'.length*3+2-(D7 l').length=2:=by omega
   rw [this];rfl
  have LK:=Cl (Hy (l'++[f]) (B6 x));have tK:=Cx (Hy (l'++[f]) (B6 x));have nK:(Hy (l'++[f]) (B6 x)).length=(l'++[f]).length:=by rw [Kp];simp
  rw [nK] at LK tK;have L2:=Cl (Ep (Hy (l'++[f]) (B6 x)) x);have t2:=Cx (Ep (Hy (l'++[f]) (B6 x)) x);have Lk:=Al .u8 (B6 x);have tk:=Nz .u8 (B6 x);unfold I8 at st ak ⊢;rw [nK] at st;rw [E];generalize Ep (Hy (l'++[f]) (B6 x)) x=S at *
  generalize D7 (Hy (l'++[f]) (B6 x))=K at *
  have hsm:f.last.length=0->P2 f.last (B6 x)=true:=by
   intro hz;unfold P2;rw [A9 (by omega)]
   simp;omega
  have hnil:f.last≠[]↔0<f.last.length:=by rw [List.length_pos_iff]
  generalize hKe:B6 x=key at *
  obtain ⟨k,n,s⟩:=x;have va:=Sm (fu:=fu) (d:=d+1) s (Nat.le_trans hs (by omega))
  unfold VC at va ⊢;unfold It.cells at st it ⊢;simp only at st it hs ⊢;refine (H4 fu (d+2) (l'++[f]).length (D7 (l'++[f])) cnt k n s).trans ?_;simp only [CV] at it;have it0:Ag .u8 []=[]:=rfl;rw [it0] at it
  try unfold Aa
  repeat' first
   |((with_reducible first|apply Ay|apply Ar|apply A4|apply A6|apply Bl|apply Cg|apply As);· first|with_reducible rfl|(simp (disch:=first|with_reducible assumption|omega) only [va,L,t,ak,w,Hw,C2,MT,it,g2,Cd,Ew,Lk,tk,sm,sp,LK,tK,st,L2,t2]<;>with_reducible rfl))
   |((with_reducible first|apply A0|apply A3);· first|with_reducible rfl|with_reducible assumption|omega|(simp (disch:=first|with_reducible assumption|omega) only [gT,va,L,t,ak,w,Hw,C2,MT,it,g2,Cd,Ew,Lk,tk,sm,sp,LK,tK,st,L2,t2]<;>omega))
   |(with_reducible apply Az;· first|with_reducible rfl|with_reducible assumption|(simp (disch:=first|with_reducible assumption|omega) only [gF,va,L,t,ak,w,Hw,C2,MT,it,g2,Cd,Ew,Lk,tk,sm,sp,LK,tK,st,L2,t2]<;>omega))
   |(with_reducible refine Afn ?_ ?_<;>intro hb<;>try simp only [decide_eq_true_eq,decide_eq_false_iff_not,beq_iff_eq,beq_eq_false_iff_ne,bne_iff_ne,bne_eq_false_iff_eq,ne_eq,Bool.not_eq_true',Bool.not_eq_false',Bool.not_eq_true,Bool.not_eq_false] at hb)
   |(with_reducible refine OL ?_ ?_)
  all_goals try simp (disch:=first|with_reducible assumption|omega) only [va,L,t,ak,w,Hw,C2,MT,it,g2,Cd,Ew,Lk,tk,sm,sp,LK,tK,st,L2,t2]
  all_goals clear st it ak va sm L t g2 sp LK tK L2 t2 Lk tk it0 E ha hKe
  all_goals repeat' split
  all_goals first
   |rfl
   |(exfalso;simp_all;done)
   |(exfalso;simp_all;omega)
end
end
section
open Go.IntKind (wrap)
set_option maxRecDepth 100000
abbrev M5:FuncId:=63
noncomputable def Fo (fu:Nat)(call:Ah)(a0_0n:Nat)(a0_0:List PV)(a0_1:Int)(Ek:Nat)(a0_2:List PV)(a0_3:Int)(nn:Nat)(y0 y1 y2:Int)(y3:Nat)(y4:List PV)(y5 y6:Int)(y7:Nat)(y8:Int)(y9:Nat)(y10:List PV)(M2:Int)(Qo:List PV):Option Aw:=Dd CB Tryd.prog fu call 63 Tryd.f63 (B9 Tryd.f63) [.pbox [.own 3 a0_0n a0_0,.sc (.int .i64 a0_1),.lst false 1 Ek a0_2,.sc (.int .i64 a0_3)]] [.r,.r,.r,.r,.r,.r,.r,.r,.r,.r,.r,.l,.r,.l] nn ⟨lk [(0,(.ptr 240000 0)),(2,(.sc (.int .i64 y0))),(3,(.sc (.int .u64 y1))),(8,(.sc (.int .i64 y2))),(94,(.lst false 1 y3 y4)),(95,(.sc (.int .i64 y5))),(96,(.sc (.int .i64 y6)))],Bz [(240000,(.st [(.view 240120 3 0 y7),(.sc (.int .i64 y8)),(.lst false 1 y9 y10),(.sc (.int .i64 M2))])),(240120,(.ar false Qo))]⟩
theorem Jg (fu:Nat)(call:Ah)(a0_0n:Nat)(a0_0:List PV)(a0_1:Int)(Ek:Nat)(a0_2:List PV)(a0_3:Int)(nn:Nat)(y0 y1 y2:Int)(y3:Nat)(y4:List PV)(y5 y6:Int)(y7:Nat)(y8:Int)(y9:Nat)(y10:List PV)(M2:Int)(Qo:List PV):Fo fu call a0_0n a0_0 a0_1 Ek a0_2 a0_3 (nn+1) y0 y1 y2 y3 y4 y5 y6 y7 y8 y9 y10 M2 Qo=(Bc (decide (y6<y5)) (Ao (decide (0<=y6)&&decide (y6<(↑y3:Int)))<|Ad .u8 (List.getD y4 (Int.toNat y6*1) .top) fun F2=>Aa (Gr .u64 y1 8) fun F3=>Aa (wrap .u64 F2) fun F8=>Aa (MG .u64 F3 F8) fun Ij=>Aa (wrap .i64 (y6+1)) fun G6=>Fo fu call a0_0n a0_0 a0_1 Ek a0_2 a0_3 (nn) (y0) Ij (y2) (y3) (y4) (y5) G6 (y7) (y8) (y9) (y10) (M2) (Qo)) (Aa (wrap .i64 (M2+y2)) fun H7=>Ai (call 79 [.sc (.int .u64 y1)]) fun Dr Dl=>Ac Dl<|Ab Dr fun G7 Il=>Ad .i64 G7 fun E1=>Ac Il<|Bc (decide (E1<y2)) (Ao (decide (y7*3<=Qo.length))<|some (Aw.mk [.sc (.int .i64 0),.sc (.int .u64 0),.sc (.int .i64 2)] [[.own 3 y7 (List.take (y7*3) Qo),.sc (.int .i64 y8),.lst false 1 y9 y10,.sc (.int .i64 H7)]])) (Ao (decide (y7*3<=Qo.length))<|some (Aw.mk [.sc (.int .i64 y0),.sc (.int .u64 y1),.sc (.int .i64 0)] [[.own 3 y7 (List.take (y7*3) Qo),.sc (.int .i64 y8),.lst false 1 y9 y10,.sc (.int .i64 H7)]])))):=by kernel_rfl
theorem V6 (fu d a0_0n:Nat)(a0_0:List PV)(a0_1:Int)(Ek:Nat)(a0_2:List PV)(a0_3:Int):Ae C0 Tryd.prog fu (d+1) M5 [.pbox [.own 3 a0_0n a0_0,.sc (.int .i64 a0_1),.lst false 1 Ek a0_2,.sc (.int .i64 a0_3)]]=(fun (call:Ah)=>Bc (decide (a0_3>=(↑Ek:Int))) (Ao (decide (a0_0n*3<=a0_0.length))<|some (Aw.mk [.sc (.int .i64 0),.sc (.int .u64 0),.sc (.int .i64 1)] [[.own 3 a0_0n (List.take (a0_0n*3) a0_0),.sc (.int .i64 a0_1),.lst false 1 Ek a0_2,.sc (.int .i64 a0_3)]])) (Ao (decide (0<=a0_3)&&decide (a0_3<(↑Ek:Int)))<|Ad .u8 (List.getD a0_2 (Int.toNat a0_3*1) .top) fun x1=>Aa (wrap .i64 (a0_3+1)) fun x2=>Bc (x1==244) (Aa (wrap .u8 (x1-244)) fun x3=>Aa (wrap .u64 x3) fun x4=>Ao (decide (a0_0n*3<=a0_0.length))<|some (Aw.mk [.sc (.int .i64 7),.sc (.int .u64 x4),.sc (.int .i64 0)] [[.own 3 a0_0n (List.take (a0_0n*3) a0_0),.sc (.int .i64 a0_1),.lst false 1 Ek a0_2,.sc (.int .i64 x2)]])) (Bc (x1==245) (Aa (wrap .u8 (x1-244)) fun x5=>Aa (wrap .u64 x5) fun x6=>Ao (decide (a0_0n*3<=a0_0.length))<|some (Aw.mk [.sc (.int .i64 7),.sc (.int .u64 x6),.sc (.int .i64 0)] [[.own 3 a0_0n (List.take (a0_0n*3) a0_0),.sc (.int .i64 a0_1),.lst false 1 Ek a0_2,.sc (.int .i64 x2)]])) (Bc (x1==246) (Ao (decide (a0_0n*3<=a0_0.length))<|some (Aw.mk [.sc (.int .i64 8),.sc (.int .u64 0),.sc (.int .i64 0)] [[.own 3 a0_0n (List.take (a0_0n*3) a0_0),.sc (.int .i64 a0_1),.lst false 1 Ek a0_2,.sc (.int .i64 x2)]])) (Aa (F6 .u8 x1 5) fun x7=>Aa (Sd .u8 x1 31) fun x8=>Bc (decide (x7>5)) (Ao (decide (a0_0n*3<=a0_0.length))<|some (Aw.mk [.sc (.int .i64 0),.sc (.int .u64 0),.sc (.int .i64 2)] [[.own 3 a0_0n (List.take (a0_0n*3) a0_0),.sc (.int .i64 a0_1),.lst false 1 Ek a0_2,.sc (.int .i64 x2)]])) (Bc (decide (x8>27)) (Ao (decide (a0_0n*3<=a0_0.length))<|some (Aw.mk [.sc (.int .i64 0),.sc (.int .u64 0),.sc (.int .i64 2)] [[.own 3 a0_0n (List.take (a0_0n*3) a0_0),.sc (.int .i64 a0_1),.lst false 1 Ek a0_2,.sc (.int .i64 x2)]])) (Aa (wrap .i64 x7) fun x9=>Aa (wrap .i64 (1+x9)) fun Cp=>Bc (decide (x8<24)) (Aa (wrap .u64 x8) fun C3=>Ao (decide (a0_0n*3<=a0_0.length))<|some (Aw.mk [.sc (.int .i64 Cp),.sc (.int .u64 C3),.sc (.int .i64 0)] [[.own 3 a0_0n (List.take (a0_0n*3) a0_0),.sc (.int .i64 a0_1),.lst false 1 Ek a0_2,.sc (.int .i64 x2)]])) (Aa (wrap .u8 (x8-24)) fun Dz=>Ao (decide (0<=Dz))<|Aa (Gr .i64 1 Dz) fun Ed=>Aa (wrap .i64 ((↑Ek:Int)-x2)) fun Dy=>Bc (decide (Dy<Ed)) (Ao (decide (a0_0n*3<=a0_0.length))<|some (Aw.mk [.sc (.int .i64 0),.sc (.int .u64 0),.sc (.int .i64 1)] [[.own 3 a0_0n (List.take (a0_0n*3) a0_0),.sc (.int .i64 a0_1),.lst false 1 Ek a0_2,.sc (.int .i64 x2)]])) (Aa (wrap .i64 (x2+Ed)) fun Ec=>Ao (decide (0<=x2))<|Ao (decide (0<=Ec))<|Ao (decide (Int.toNat x2<=Int.toNat Ec)&&decide (Int.toNat Ec<=Ek))<|Aa (Int.toNat Ec-Int.toNat x2) fun Ej=>Aa (List.take (Ej*1) (List.drop (Int.toNat x2*1) a0_2)) fun Fc=>Fo fu call a0_0n a0_0 a0_1 Ek a0_2 a0_3 (fu) Cp 0 Ed Ej Fc ((↑Ej:Int)) 0 (a0_0n) (a0_1) (Ek) (a0_2) x2 (a0_0)))))))))) (Ae C0 Tryd.prog fu d):=by kernel_rfl
abbrev Nm:FuncId:=45
theorem Wl (fu d a0_0n:Nat)(a0_0:List PV)(a0_1:Int)(Ek:Nat)(a0_2:List PV)(a0_3:Int):Ae C0 Tryd.prog fu (d+1) Nm [.pbox [.own 3 a0_0n a0_0,.sc (.int .i64 a0_1),.lst false 1 Ek a0_2,.sc (.int .i64 a0_3)]]=(fun (call:Ah)=>Ao (decide (a0_0n*3<=a0_0.length))<|Ai (call 63 [.pbox [.own 3 a0_0n (List.take (a0_0n*3) a0_0),.sc (.int .i64 a0_1),.lst false 1 Ek a0_2,.sc (.int .i64 a0_3)]]) fun x1 x2=>Ab x1 fun x3 x4=>Ad .i64 x3 fun x5=>Ab x4 fun x6 x7=>Ad .u64 x6 fun x8=>Ab x7 fun x9 Cp=>Ad .i64 x9 fun C3=>Ac Cp<|Ab x2 fun Dz Ed=>Ab Dz fun Dy Ec=>Eg 3 Dy fun Ej Fc=>Ab Ec fun F2 F3=>Ad .i64 F2 fun F8=>Ab F3 fun Ij G6=>Gk 1 Ij fun H7 Dr Dl=>Ab G6 fun G7 Il=>Ad .i64 G7 fun E1=>Ac Il<|Ac Ed<|Bc (C3 != 0) (Ao (decide (Ej*3<=Fc.length))<|some (Aw.mk [.agg [.sc (.int .i64 0),.sc (.int .u64 0),.sc (.string (ByteArray.mk #[]))],.sc (.int .i64 C3)] [[.own 3 Ej (List.take (Ej*3) Fc),.sc (.int .i64 F8),.lst false 1 Dr Dl,.sc (.int .i64 E1)]])) (Ao (decide (Ej*3<=Fc.length))<|Ai (call 64 [.pbox [.own 3 Ej (List.take (Ej*3) Fc),.sc (.int .i64 F8)],.sc (.int .i64 x5)]) fun Mi Nd=>Ab Mi fun Lf Mv=>Ad .i64 Lf fun Nv=>Ac Mv<|Ab Nd fun Oa Pp=>Ab Oa fun Rh Rw=>Eg 3 Rh fun Gg Hv=>Ab Rw fun Ug Yw=>Ad .i64 Ug fun Kw=>Ac Yw<|Ac Pp<|Bc (Nv != 0) (Ao (decide (Gg*3<=Hv.length))<|some (Aw.mk [.agg [.sc (.int .i64 0),.sc (.int .u64 0),.sc (.string (ByteArray.mk #[]))],.sc (.int .i64 Nv)] [[.own 3 Gg (List.take (Gg*3) Hv),.sc (.int .i64 Kw),.lst false 1 Dr Dl,.sc (.int .i64 E1)]])) (Bc (x5==5) (Bc (decide (x8>512)) (Ao (decide (Gg*3<=Hv.length))<|some (Aw.mk [.agg [.sc (.int .i64 0),.sc (.int .u64 0),.sc (.string (ByteArray.mk #[]))],.sc (.int .i64 8)] [[.own 3 Gg (List.take (Gg*3) Hv),.sc (.int .i64 Kw),.lst false 1 Dr Dl,.sc (.int .i64 E1)]])) (Ao (decide (Gg*3<=Hv.length))<|Ai (call 65 [.pbox [.own 3 Gg (List.take (Gg*3) Hv),.sc (.int .i64 Kw)],.agg [.sc (.int .i64 x5),.sc (.int .u64 x8),.sc (.string (ByteArray.mk #[]))]]) fun Uo S7=>Ab Uo fun Sh Sf=>Ad .i64 Sh fun Wx=>Ac Sf<|Ab S7 fun Xr R8=>Ab Xr fun Ve Ww=>Eg 3 Ve fun Wt Oi=>Ab Ww fun Y9 DO=>Ad .i64 Y9 fun Zt=>Ac DO<|Ac R8<|Bc (Wx != 0) (Ao (decide (Wt*3<=Oi.length))<|some (Aw.mk [.agg [.sc (.int .i64 0),.sc (.int .u64 0),.sc (.string (ByteArray.mk #[]))],.sc (.int .i64 Wx)] [[.own 3 Wt (List.take (Wt*3) Oi),.sc (.int .i64 Zt),.lst false 1 Dr Dl,.sc (.int .i64 E1)]])) (Ao (decide (Wt*3<=Oi.length))<|some (Aw.mk [.agg [.sc (.int .i64 x5),.sc (.int .u64 x8),.sc (.string (ByteArray.mk #[]))],.sc (.int .i64 0)] [[.own 3 Wt (List.take (Wt*3) Oi),.sc (.int .i64 Zt),.lst false 1 Dr Dl,.sc (.int .i64 E1)]])))) (Bc (x5==6) (Bc (decide (x8>512)) (Ao (decide (Gg*3<=Hv.length))<|some (Aw.mk [.agg [.sc (.int .i64 0),.sc (.int .u64 0),.sc (.string (ByteArray.mk #[]))],.sc (.int .i64 8)] [[.own 3 Gg (List.take (Gg*3) Hv),.sc (.int .i64 Kw),.lst false 1 Dr Dl,.sc (.int .i64 E1)]])) (Ao (decide (Gg*3<=Hv.length))<|Ai (call 65 [.pbox [.own 3 Gg (List.take (Gg*3) Hv),.sc (.int .i64 Kw)],.agg [.sc (.int .i64 x5),.sc (.int .u64 x8),.sc (.string (ByteArray.mk #[]))]]) fun BN Ut=>Ab BN fun V8 Z7=>Ad .i64 V8 fun Zb=>Ac Z7<|Ab Ut fun Tz Zi=>Ab Tz fun Y3 Zs=>Eg 3 Y3 fun Wp Vk=>Ab Zs fun DS CC=>Ad .i64 DS fun Zg=>Ac CC<|Ac Zi<|Bc (Zb != 0) (Ao (decide (Wp*3<=Vk.length))<|some (Aw.mk [.agg [.sc (.int .i64 0),.sc (.int .u64 0),.sc (.string (ByteArray.mk #[]))],.sc (.int .i64 Zb)] [[.own 3 Wp (List.take (Wp*3) Vk),.sc (.int .i64 Zg),.lst false 1 Dr Dl,.sc (.int .i64 E1)]])) (Ao (decide (Wp*3<=Vk.length))<|some (Aw.mk [.agg [.sc (.int .i64 x5),.sc (.int .u64 x8),.sc (.string (ByteArray.mk #[]))],.sc (.int .i64 0)] [[.own 3 Wp (List.take (Wp*3) Vk),.sc (.int .i64 Zg),.lst false 1 Dr Dl,.sc (.int .i64 E1)]])))) (Bc (x5==3) (Bc (decide (x8>1024)) (Ao (decide (Gg*3<=Hv.length))<|some (Aw.mk [.agg [.sc (.int .i64 0),.sc (.int .u64 0),.sc (.string (ByteArray.mk #[]))],.sc (.int .i64 8)] [[.own 3 Gg (List.take (Gg*3) Hv),.sc (.int .i64 Kw),.lst false 1 Dr Dl,.sc (.int .i64 E1)]])) (Aa (wrap .i64 ((↑Dr:Int)-E1)) fun Yl=>Aa (wrap .i64 x8) fun CM=>Bc (decide (Yl<CM)) (Ao (decide (Gg*3<=Hv.length))<|some (Aw.mk [.agg [.sc (.int .i64 0),.sc (.int .u64 0),.sc (.string (ByteArray.mk #[]))],.sc (.int .i64 1)] [[.own 3 Gg (List.take (Gg*3) Hv),.sc (.int .i64 Kw),.lst false 1 Dr Dl,.sc (.int .i64 E1)]])) (Aa (wrap .i64 x8) fun HC=>Aa (wrap .i64 (E1+HC)) fun CE=>Ao (decide (0<=E1))<|Ao (decide (0<=CE))<|Ao (decide (Int.toNat E1<=Int.toNat CE)&&decide (Int.toNat CE<=Dr))<|Aa (Int.toNat CE-Int.toNat E1) fun EN=>Aa (List.take (EN*1) (List.drop (Int.toNat E1*1) Dl)) fun IW=>Ao (decide (IW.length=EN))<|D3 (bytesOf IW) fun BL=>Aa (wrap .i64 x8) fun Vg=>Aa (wrap .i64 (E1+Vg)) fun MO=>Ao (decide (Gg*3<=Hv.length))<|Ai (call 65 [.pbox [.own 3 Gg (List.take (Gg*3) Hv),.sc (.int .i64 Kw)],.agg [.sc (.int .i64 x5),.sc (.int .u64 0),.sc (.string (ByteArray.mk (List.toArray BL)))]]) fun KT VJ=>Ab KT fun XM QN=>Ad .i64 XM fun UC=>Ac QN<|Ab VJ fun x85 YH=>Ab x85 fun UE UD=>Eg 3 UE fun IX QA=>Ab UD fun VN WM=>Ad .i64 VN fun UI=>Ac WM<|Ac YH<|Bc (UC != 0) (Ao (decide (IX*3<=QA.length))<|some (Aw.mk [.agg [.sc (.int .i64 0),.sc (.int .u64 0),.sc (.string (ByteArray.mk #[]))],.sc (.int .i64 UC)] [[.own 3 IX (List.take (IX*3) QA),.sc (.int .i64 UI),.lst false 1 Dr Dl,.sc (.int .i64 MO)]])) (Ao (decide (IX*3<=QA.length))<|some (Aw.mk [.agg [.sc (.int .i64 x5),.sc (.int .u64 0),.sc (.string (ByteArray.mk (List.toArray BL)))],.sc (.int .i64 0)] [[.own 3 IX (List.take (IX*3) QA),.sc (.int .i64 UI),.lst false 1 Dr Dl,.sc (.int .i64 MO)]]))))) (Bc (x5==4) (Bc (decide (x8>1024)) (Ao (decide (Gg*3<=Hv.length))<|some (Aw.mk [.agg [.sc (.int .i64 0),.sc (.int .u64 0),.sc (.string (ByteArray.mk #[]))],.sc (.int .i64 8)] [[.own 3 Gg (List.take (Gg*3) Hv),.sc (.int .i64 Kw),.lst false 1 Dr Dl,.sc (.int .i64 E1)]])) (Aa (wrap .i64 ((↑Dr:Int)-E1)) fun IZ=>Aa (wrap .i64 x8) fun x95=>Bc (decide (IZ<x95)) (Ao (decide (Gg*3<=Hv.length))<|some (Aw.mk [.agg [.sc (.int .i64 0),.sc (.int .u64 0),.sc (.string (ByteArray.mk #[]))],.sc (.int .i64 1)] [[.own 3 Gg (List.take (Gg*3) Hv),.sc (.int .i64 Kw),.lst false 1 Dr Dl,.sc (.int .i64 E1)]])) (Aa (wrap .i64 x8) fun x96=>Aa (wrap .i64 (E1+x96)) fun UH=>Ao (decide (0<=E1))<|Ao (decide (0<=UH))<|Ao (decide (Int.toNat E1<=Int.toNat UH)&&decide (Int.toNat UH<=Dr))<|Aa (Int.toNat UH-Int.toNat E1) fun XJ=>Aa (List.take (XJ*1) (List.drop (Int.toNat E1*1) Dl)) fun DY=>Ao (decide (DY.length=XJ))<|D3 (bytesOf DY) fun Xi=>Aa (wrap .i64 x8) fun Us=>Aa (wrap .i64 (E1+Us)) fun G8=>Ao (decide (Gg*3<=Hv.length))<|Ai (call 65 [.pbox [.own 3 Gg (List.take (Gg*3) Hv),.sc (.int .i64 Kw)],.agg [.sc (.int .i64 x5),.sc (.int .u64 0),.sc (.string (ByteArray.mk (List.toArray Xi)))]]) fun Jm BC=>Ab Jm fun Sc R7=>Ad .i64 Sc fun Jw=>Ac R7<|Ab BC fun W0 Z1=>Ab W0 fun X3 BA=>Eg 3 X3 fun Hz I6=>Ab BA fun AP AR=>Ad .i64 AP fun Y5=>Ac AR<|Ac Z1<|Bc (Jw != 0) (Ao (decide (Hz*3<=I6.length))<|some (Aw.mk [.agg [.sc (.int .i64 0),.sc (.int .u64 0),.sc (.string (ByteArray.mk #[]))],.sc (.int .i64 Jw)] [[.own 3 Hz (List.take (Hz*3) I6),.sc (.int .i64 Y5),.lst false 1 Dr Dl,.sc (.int .i64 G8)]])) (Ao (decide (Hz*3<=I6.length))<|some (Aw.mk [.agg [.sc (.int .i64 x5),.sc (.int .u64 0),.sc (.string (ByteArray.mk (List.toArray Xi)))],.sc (.int .i64 0)] [[.own 3 Hz (List.take (Hz*3) I6),.sc (.int .i64 Y5),.lst false 1 Dr Dl,.sc (.int .i64 G8)]]))))) (Ao (decide (Gg*3<=Hv.length))<|Ai (call 65 [.pbox [.own 3 Gg (List.take (Gg*3) Hv),.sc (.int .i64 Kw)],.agg [.sc (.int .i64 x5),.sc (.int .u64 x8),.sc (.string (ByteArray.mk #[]))]]) fun GV AX=>Ab GV fun Vp Xs=>Ad .i64 Vp fun X7=>Ac Xs<|Ab AX fun Yo Zn=>Ab Yo fun AL Oh=>Eg 3 AL fun Qq Sx=>Ab Oh fun X1 AG=>Ad .i64 X1 fun Lj=>Ac AG<|Ac Zn<|Bc (X7 != 0) (Ao (decide (Qq*3<=Sx.length))<|some (Aw.mk [.agg [.sc (.int .i64 0),.sc (.int .u64 0),.sc (.string (ByteArray.mk #[]))],.sc (.int .i64 X7)] [[.own 3 Qq (List.take (Qq*3) Sx),.sc (.int .i64 Lj),.lst false 1 Dr Dl,.sc (.int .i64 E1)]])) (Ao (decide (Qq*3<=Sx.length))<|some (Aw.mk [.agg [.sc (.int .i64 x5),.sc (.int .u64 x8),.sc (.string (ByteArray.mk #[]))],.sc (.int .i64 0)] [[.own 3 Qq (List.take (Qq*3) Sx),.sc (.int .i64 Lj),.lst false 1 Dr Dl,.sc (.int .i64 E1)]]))))))))) (Ae C0 Tryd.prog fu d):=by kernel_rfl
abbrev Vl:FuncId:=20
noncomputable def Iz (fu:Nat)(call:Ah)(a0n:Nat)(a0:List PV)(nn y0:Nat)(y1:List PV)(y2:Nat)(y3:Int)(y4:Nat)(y5:List PV)(y6:Int)(y7:List PV):Option Aw:=Dd CB Tryd.prog fu call 20 Tryd.f20 (B9 Tryd.f20) [.lst false 1 a0n a0] [.r,.r,.l,.l] nn ⟨lk [(2,(.view 2 3 0 y0)),(5,(.ptr 5 0))],Bz [(2,(.ar false y1)),(5,(.st [(.view 32 3 0 y2),(.sc (.int .i64 y3)),(.lst false 1 y4 y5),(.sc (.int .i64 y6))])),(32,(.ar false y7))]⟩
theorem Zx (fu:Nat)(call:Ah)(a0n:Nat)(a0:List PV)(nn y0:Nat)(y1:List PV)(y2:Nat)(y3:Int)(y4:Nat)(y5:List PV)(y6:Int)(y7:List PV):Iz fu call a0n a0 (nn+1) y0 y1 y2 y3 y4 y5 y6 y7=(Ao (decide (y2*3<=y7.length))<|Ai (call 44 [.pbox [.own 3 y2 (List.take (y2*3) y7),.sc (.int .i64 y3)]]) fun x1 x2=>Ab x1 fun x3 x4=>Bn x3 fun x5=>Ac x4<|Ab x2 fun x6 x7=>Ab x6 fun x8 x9=>Eg 3 x8 fun Cp C3=>Ab x9 fun Dz Ed=>Ad .i64 Dz fun Dy=>Ac Ed<|Ac x7<|Bc (!x5) (Ao (decide (Cp*3<=C3.length))<|Ai (call 45 [.pbox [.own 3 Cp (List.take (Cp*3) C3),.sc (.int .i64 Dy),.lst false 1 y4 y5,.sc (.int .i64 y6)]]) fun Ec Ej=>Ab Ec fun Fc F2=>Ez Fc fun F3=>Ab F3 fun F8 Ij=>Ad .i64 F8 fun G6=>Ab Ij fun H7 Dr=>Ad .u64 H7 fun Dl=>Ab Dr fun G7 Il=>Dp G7 fun E1=>Ac Il<|Ab F2 fun Mi Nd=>Ad .i64 Mi fun Lf=>Ac Nd<|Ab Ej fun Mv Nv=>Ab Mv fun Oa Pp=>Eg 3 Oa fun Rh Rw=>Ab Pp fun Gg Hv=>Ad .i64 Gg fun Ug=>Ab Hv fun Yw Kw=>Gk 1 Yw fun Uo S7 Sh=>Ab Kw fun Sf Wx=>Ad .i64 Sf fun Xr=>Ac Wx<|Ac Nv<|Bc (Lf != 0) (some (Aw.mk [.own 3 0 [],.sc (.int .i64 0),.sc (.int .i64 Lf)] [])) (Ao (decide (y0*3<=y1.length)&&true&&decide ((y0+1)*32<=1099511627776)&&decide (y0+1<=1099511627776))<|Aa (y0+1) fun R8=>Aa (List.take (y0*3) y1++[.sc (.int .i64 G6),.sc (.int .u64 Dl),.sc (.string E1)]) fun Ve=>Iz fu call a0n a0 (nn) R8 Ve Rh Ug S7 Sh Xr Rw)) (Ao (decide (y0*3<=y1.length))<|some (Aw.mk [.own 3 y0 (List.take (y0*3) y1),.sc (.int .i64 y6),.sc (.int .i64 0)] []))):=by kernel_rfl
theorem JQ (fu d a0n:Nat)(a0:List PV):Ae C0 Tryd.prog fu (d+1) Vl [.lst false 1 a0n a0]=(fun (call:Ah)=>Iz fu call a0n a0 (fu) 0 ([]) 0 0 (a0n) (a0) 0 ([])) (Ae C0 Tryd.prog fu d):=by kernel_rfl
end
section
open Go.IntKind (wrap)
structure Hd where
 k:Int
 n:Int
 e:Int
 at_:Nat
def Nq (n:Int):Int:=if n<24 then 0 else if n<256 then 1 else if n<65536 then 2 else if n<4294967296 then 4 else 8
def szE (low:Int):Nat:=if low=24 then 1 else if low=25 then 2 else if low=26 then 4 else 8
def Ry (b:List Int)(at_:Nat)(x:Int):Hd:=
 if x=244 then ⟨7,0,0,at_+1⟩ else if x=245 then ⟨7,1,0,at_+1⟩ else if x=246 then ⟨8,0,0,at_+1⟩
 else if x / 32>5 then ⟨0,0,2,at_+1⟩ else if x % 32>27 then ⟨0,0,2,at_+1⟩
 else if x % 32<24 then ⟨1+x / 32,x % 32,0,at_+1⟩
 else if b.length-(at_+1)<szE (x % 32) then ⟨0,0,1,at_+1⟩
 else if Nq (FC ((b.drop (at_+1)).take (szE (x % 32))))<szE (x % 32) then ⟨0,0,2,at_+1+szE (x % 32)⟩
 else ⟨1+x / 32,FC ((b.drop (at_+1)).take (szE (x % 32))),0,at_+1+szE (x % 32)⟩
def Fe (b:List Int)(at_:Nat):Hd:=match b[at_]? with|none=>⟨0,0,1,at_⟩|some x=>Ry b at_ x
theorem Aqd {x:Int}(h:0<=x):F6 .u8 x 5=x / 32:=by
 unfold F6;show x.fdiv (2 ^ (min (5:Int).toNat IntKind.u8.bits))=_;have h2:(2:Int) ^ (min (5:Int).toNat IntKind.u8.bits)=32:=by decide
 rw [h2,Int.fdiv_eq_ediv_of_nonneg _ (by omega)]
theorem Als {x:Int}(h0:0<=x)(h1:x<=255):Sd .u8 x 31=x % 32:=by
 obtain ⟨n,rfl⟩:=Int.eq_ofNat_of_zero_le h0;have hn:n<256:=by omega
 have e1:(BitVec.ofInt 8 (n:Int)).toNat=n:=by
  rw [BitVec.toNat_ofInt];omega
 have e2:(BitVec.ofInt 8 (31:Int)).toNat=2 ^ 5-1:=by decide
 unfold Sd;show wrap .u8 ((BitVec.ofInt 8 (n:Int) &&& BitVec.ofInt 8 (31:Int)).toNat:Int)=_;rw [BitVec.toNat_and,e1,e2,Nat.and_two_pow_sub_one_eq_mod,Hu (by omega) (by omega)]
 omega
abbrev Abn (l:List Fz)(cnt:Int)(b:List Int)(at_:Nat):List PV:=[.own 3 l.length (D7 l),.sc (.int .i64 cnt),.lst false 1 b.length (Ag .u8 b),.sc (.int .i64 at_)]
section
variable {fu d:Nat}
theorem Afg (n:Int):Ae C0 Tryd.prog fu (d+1) Xu [.sc (.int .u64 n)]=some ⟨[.sc (.int .i64 (Nq n))],[]⟩:=by
 rw [PW];unfold Nq
 try unfold Aa
 repeat' first
  |((with_reducible first|apply Ay|apply Ar|apply A4|apply As);· first|with_reducible rfl|(simp (disch:=first|with_reducible assumption|omega) only [Cc,A9]<;>with_reducible rfl))
  |((with_reducible first|apply A0|apply A3);· first|with_reducible rfl|with_reducible assumption|omega|(simp (disch:=first|with_reducible assumption|omega) only [gT,Cc,A9]<;>omega))
  |(with_reducible apply Az;· first|with_reducible rfl|with_reducible assumption|(simp (disch:=first|with_reducible assumption|omega) only [gF,Cc,A9]<;>omega))
  |(with_reducible refine Afn ?_ ?_<;>intro hb<;>try simp only [decide_eq_true_eq,decide_eq_false_iff_not,beq_iff_eq,beq_eq_false_iff_ne,bne_iff_ne,bne_eq_false_iff_eq,ne_eq,Bool.not_eq_true',Bool.not_eq_false',Bool.not_eq_true,Bool.not_eq_false] at hb)
  |(with_reducible refine OL ?_ ?_)
 all_goals try simp (disch:=first|with_reducible assumption|omega) only [Cc,A9]
theorem IK {a0n a2n:Nat}{a0 a2:List PV}{a1 a3 k cnt:Int}{l:List Fz}{b:List Int}{off sz:Nat}{q:List Int}(hq:q.length=sz)(hb:b.length<=1000000)(ho:off+sz<=b.length):∀(r:List Int)(i nn:Nat)(v:Int),q.drop i=r->r.length<nn->i<=sz ->
    Fo fu (Ae C0 Tryd.prog fu (d+1)) a0n a0 a1 a2n a2 a3 nn k v (sz:Int) sz (Ag .u8 q) (sz:Int) (i:Int) l.length cnt b.length (Ag .u8 b) (off:Int) (D7 l) =
      (if Nq (r.foldl El v)<sz then some ⟨[.sc (.int .i64 0),.sc (.int .u64 0),.sc (.int .i64 2)],[Abn l cnt b (off+sz)]⟩
       else some ⟨[.sc (.int .i64 k),.sc (.int .u64 (r.foldl El v)),.sc (.int .i64 0)],[Abn l cnt b (off+sz)]⟩)
  |_,_,0,_,_,h,_=>by omega
  |[],i,nn+1,v,hd,hn,hi=>by
    have:=drop_nil hd
    have sh:=Afg (fu:=fu) (d:=d) v
    have L:=Cl l
    have t:=Cx l
    have w:wrap .i64 ((off:Int)+(sz:Int))=((off+sz:Nat):Int):=by rw [Aj (by omega) (by omega)];omega
    rw [Jg,Dx _ _ _ (by omega),List.foldl_nil]
    by_cases hs:Nq v<sz
    · rw [Cc hs]
      simp (disch:=omega) only [Ca,w,sh,L,t,Cd]
    · rw [A9 hs]
      simp (disch:=omega) only [Ca,w,sh,L,t,Cd]
  |x::r,i,nn+1,v,hd,hn,hi=>by
    obtain ⟨h1,h2,h3⟩:=Co hd
    simp only [Le] at hn
    have g0:=V5 (k:=.u8) h2
    have w:wrap .i64 ((i:Int)+1)=((i+1:Nat):Int):=by rw [Aj (by omega) (by omega)];omega
    have ih:=IK (a0n:=a0n) (a2n:=a2n) (a0:=a0) (a2:=a2) (a1:=a1) (a3:=a3) (k:=k) (cnt:=cnt) (l:=l) hq hb ho r (i+1) nn (El v x) h3 (by omega) (by omega)
    rw [List.foldl_cons,←ih,Jg]
    simp (disch:=omega) only [Ca,Hw,Cd,g0,w]
theorem Afj {l:List Fz}{cnt:Int}{b:List Int}{at_:Nat}(hfu:1000<=fu)(hb:Ik b)(hl:b.length<=1000000):
  Ae C0 Tryd.prog fu (d+2) M5 [.pbox (Abn l cnt b at_)]=some ⟨[.sc (.int .i64 (Fe b at_).k),.sc (.int .u64 (Fe b at_).n),.sc (.int .i64 (Fe b at_).e)],[Abn l cnt b (Fe b at_).at_]⟩:=by
 refine (V6 fu (d+1) l.length (D7 l) cnt b.length (Ag .u8 b) (at_:Int)).trans ?_;have L:=Cl l;have t:=Cx l;have Lb:=Al .u8 b;have tb:=Nz .u8 b;unfold Fe;by_cases hlt:at_<b.length
 rotate_left
 ·have hg:b[at_]?=none:=List.getElem?_eq_none (by omega)
  rw [hg];simp (disch:=omega) only [Ca,L,t,Lb,tb,Cd]
 have hg:b[at_]?=some b[at_]:=List.getElem?_eq_getElem hlt;have hB:=hb _ (List.getElem_mem hlt);rw [hg];generalize b[at_]=x at hg hB;have g0:=V5 (k:=.u8) hg;have w1:wrap .i64 ((at_:Int)+1)=((at_+1:Nat):Int):=by rw [Aj (by omega) (by omega)];omega
 have s5:=Aqd hB.1;have a31:=Als hB.1 hB.2;unfold Ry;simp only;by_cases c1:x=244
 ·subst c1;have q:wrap .u64 (wrap .u8 ((244:Int)-244))=0:=by decide
  simp (disch:=omega) only [Ca,Hw,C2,Cd,g0,Int.reduceBEq,w1,L,t,Lb,tb,q]
 rw [A9 c1];have b1:(x==(244:Int))=false:=by simp [c1]
 by_cases c2:x=245
 ·subst c2;have q:wrap .u64 (wrap .u8 ((245:Int)-244))=1:=by decide
  simp (disch:=omega) only [Ca,Hw,C2,Cd,g0,Int.reduceBEq,w1,L,t,Lb,tb,q,if_true]
 rw [A9 c2];have b2:(x==(245:Int))=false:=by simp [c2]
 by_cases c3:x=246
 ·subst c3;simp (disch:=omega) only [Ca,Hw,C2,Cd,g0,Int.reduceBEq,w1,L,t,Lb,tb,if_true]
 rw [A9 c3];have b3:(x==(246:Int))=false:=by simp [c3]
 by_cases c4:x / 32>5
 ·rw [Cc c4];simp (disch:=omega) only [Ca,Hw,C2,Cd,g0,b1,b2,b3,s5,a31,w1,L,t,Lb,tb]
 rw [A9 c4];by_cases c5:x % 32>27
 ·rw [Cc c5];simp (disch:=omega) only [Ca,Hw,C2,Cd,g0,b1,b2,b3,s5,a31,w1,L,t,Lb,tb]
 rw [A9 c5];have wk1:wrap .i64 (x / 32)=x / 32:=Aj (by omega) (by omega)
 have wk2:wrap .i64 (1+x / 32)=1+x / 32:=Aj (by omega) (by omega)
 by_cases c6:x % 32<24
 ·have wn:wrap .u64 (x % 32)=x % 32:=Dc (by omega) (by omega)
  rw [Cc c6];simp (disch:=omega) only [Ca,Hw,C2,Cd,g0,b1,b2,b3,s5,a31,w1,wk1,wk2,wn,L,t,Lb,tb]
 rw [A9 c6];have q1:wrap .u8 (x % 32-24)=x % 32-24:=Hu (by omega) (by omega)
 have q2:Gr .i64 1 (x % 32-24)=(szE (x % 32):Int):=by
  have:x % 32=24∨x % 32=25∨x % 32=26∨x % 32=27:=by omega
  rcases this with h|h|h|h<;>rw [h]<;>decide
 have q3:szE (x % 32)<=8:=by
  unfold szE
  repeat' split
  all_goals omega
 generalize szE (x % 32)=sz at q2 q3 ⊢;have q4:wrap .i64 ((b.length:Int)-((at_+1:Nat):Int))=((b.length-(at_+1):Nat):Int):=by rw [Aj (by omega) (by omega)];omega
 by_cases c7:b.length-(at_+1)<sz
 ·rw [Cc c7];simp (disch:=omega) only [Ca,Hw,C2,Cd,g0,b1,b2,b3,s5,a31,w1,wk1,wk2,q1,q2,q4,L,t,Lb,tb]
 rw [A9 c7];have q5:wrap .i64 (((at_+1:Nat):Int)+(sz:Int))=((at_+1+sz:Nat):Int):=by rw [Aj (by omega) (by omega)];omega
 have q6:at_+1+sz-(at_+1)=sz:=by omega
 have lp:=IK (fu:=fu) (d:=d) (a0n:=l.length) (a2n:=b.length) (a0:=D7 l) (a2:=Ag .u8 b) (a1:=cnt) (a3:=(at_:Int)) (k:=1+x / 32) (cnt:=cnt) (l:=l) (b:=b) (off:=at_+1) (sz:=sz) (q:=(b.drop (at_+1)).take sz) (by rw [List.length_take,List.length_drop];omega) hl (by omega) _ 0 fu 0 rfl (by rw [Ew,List.length_take];omega) (by omega)
 rw [Ew] at lp;have lp':=lp;unfold FC;by_cases c8:Nq (((b.drop (at_+1)).take sz).foldl El 0)<sz
 ·rw [Cc c8] at lp' ⊢;simp (disch:=omega) only [Ca,Hw,C2,Cd,g0,b1,b2,b3,s5,a31,w1,wk1,wk2,q1,q2,q4,q5,q6,Ha,Mm,L,t,Lb,tb];exact lp'
 ·rw [A9 c8] at lp' ⊢;simp (disch:=omega) only [Ca,Hw,C2,Cd,g0,b1,b2,b3,s5,a31,w1,wk1,wk2,q1,q2,q4,q5,q6,Ha,Mm,L,t,Lb,tb];exact lp'
end
end
section
open Go.IntKind (wrap)
structure Rd where
 x:It
 e:Int
 l:List Fz
 cnt:Int
 at_:Nat
def it0:It:=⟨0,0,⟨#[]⟩⟩
def R4 (l:List Fz)(cnt:Int)(x:It)(at_:Nat):Rd:=if (De l x).1=0 then ⟨x,0,(De l x).2,cnt+1,at_⟩ else ⟨it0,(De l x).1,(De l x).2,cnt,at_⟩
def NP (l:List Fz)(cnt:Int)(b:List Int)(h:Hd):Rd:=
 if h.e≠0 then ⟨it0,h.e,l,cnt,h.at_⟩
 else if Hx l cnt h.k≠0 then ⟨it0,Hx l cnt h.k,l,cnt,h.at_⟩
 else if h.k=5∨h.k=6 then (if h.n>512 then ⟨it0,8,l,cnt,h.at_⟩ else R4 l cnt ⟨h.k,h.n,⟨#[]⟩⟩ h.at_)
 else if h.k=3∨h.k=4 then (if h.n>1024 then ⟨it0,8,l,cnt,h.at_⟩ else if b.length-h.at_<h.n.toNat then ⟨it0,1,l,cnt,h.at_⟩
  else R4 l cnt ⟨h.k,0,Cu ((b.drop h.at_).take h.n.toNat)⟩ (h.at_+h.n.toNat))
 else R4 l cnt ⟨h.k,h.n,⟨#[]⟩⟩ h.at_
def En (l:List Fz)(cnt:Int)(b:List Int)(at_:Nat):Rd:=NP l cnt b (Fe b at_)
theorem CU (a b:Int):0<=El a b∧El a b<=18446744073709551615:=Ba _
theorem Ti:∀(l:List Int)(v:Int),0<=v->v<=18446744073709551615->0<=l.foldl El v∧l.foldl El v<=18446744073709551615
 |[],v,h0,h1=>⟨h0,h1⟩
 |x::l,v,h0,h1=>Ti l _ (CU v x).1 (CU v x).2
theorem LW {b:List Int}{at_:Nat}(hb:Ik b)(ha:at_<=b.length):(Fe b at_).at_<=b.length∧((Fe b at_).e=0->1<=(Fe b at_).k∧(Fe b at_).k<=8∧0<=(Fe b at_).n∧(Fe b at_).n<=18446744073709551615∧at_<(Fe b at_).at_):=by
 unfold Fe;by_cases hlt:at_<b.length
 rotate_left
 ·have hg:b[at_]?=none:=List.getElem?_eq_none (by omega)
  rw [hg];exact ⟨ha,fun h=>by simp at h⟩
 have hg:b[at_]?=some b[at_]:=List.getElem?_eq_getElem hlt;have hB:=hb _ (List.getElem_mem hlt);rw [hg];generalize b[at_]=x at hB;have hd:=Ti ((b.drop (at_+1)).take (szE (x % 32))) 0 (by omega) (by omega)
 show (Ry b at_ x).at_<=b.length∧_;simp only [Ry];unfold FC
 repeat' split
 all_goals refine ⟨by simp only;omega,fun h=>?_⟩
 all_goals first
  |(simp at h;done)
  |(simp only;omega)
section
variable {fu d:Nat}
theorem Af5 {l:List Fz}{cnt:Int}{b:List Int}{at_:Nat}(hfu:1000<=fu)(hb:Ik b)(hl:b.length<=1000000)(ha:at_<=b.length)(hf:l.length<=900)(h0:0<=cnt)(h1:cnt<=1000000):
  Ae C0 Tryd.prog fu (d+4) Nm [.pbox (Abn l cnt b at_)]=some ⟨[.agg (En l cnt b at_).x.cells,.sc (.int .i64 (En l cnt b at_).e)],[Abn (En l cnt b at_).l (En l cnt b at_).cnt b (En l cnt b at_).at_]⟩:=by
 refine (Wl fu (d+3) l.length (D7 l) cnt b.length (Ag .u8 b) (at_:Int)).trans ?_;have hd:=Afj (fu:=fu) (d:=d+1) (l:=l) (cnt:=cnt) (at_:=at_) hfu hb hl;have hk:=LW hb ha;unfold En;generalize Fe b at_=h at hd hk ⊢;obtain ⟨k,n,e,a⟩:=h;obtain ⟨ka,hk⟩:=hk;simp only at hd ka hk;have L:=Cl l;have t:=Cx l;have ad:=RF (fu:=fu) (d:=d+1) (l:=l) (by omega) cnt k
 unfold I8 at ad;unfold NP;by_cases he:e=0
 rotate_left
 ·simp only [ne_eq,he,not_false_eq_true,if_true];have he':(e != 0)=true:=by simp [he]
  try unfold Aa
  repeat first
   |((with_reducible first|apply Ay|apply Ar|apply A4|apply Bl|apply Cg|apply D8|apply As);· first|with_reducible rfl|(simp (disch:=omega) only [hd,he',L,t]<;>with_reducible rfl))
   |((with_reducible first|apply A0|apply A3);· first|with_reducible rfl|omega|(simp (disch:=omega) only [gT,hd,he',L,t]<;>omega))
   |(with_reducible apply Az;· first|with_reducible rfl|(simp (disch:=omega) only [gF,hd,he',L,t]<;>omega))
  try simp (disch:=omega) only [hd,he',L,t]
  all_goals rfl
 subst he;obtain ⟨k1,k8,n0,n1,_⟩:=hk rfl;obtain ⟨m,rfl⟩:=Int.eq_ofNat_of_zero_le n0;have e00:((0:Int) != 0)=false:=rfl;simp only [ne_eq,not_true_eq_false,if_false];by_cases hm:Hx l cnt k=0
 rotate_left
 ·simp only [hm,not_false_eq_true,if_true];have he':(Hx l cnt k != 0)=true:=by simp [hm]
  try unfold Aa
  repeat first
   |((with_reducible first|apply Ay|apply Ar|apply A4|apply Bl|apply Cg|apply D8|apply As);· first|with_reducible rfl|(simp (disch:=omega) only [hd,e00,ad,he',L,t]<;>with_reducible rfl))
   |((with_reducible first|apply A0|apply A3);· first|with_reducible rfl|omega|(simp (disch:=omega) only [gT,hd,e00,ad,he',L,t]<;>omega))
   |(with_reducible apply Az;· first|with_reducible rfl|(simp (disch:=omega) only [gF,hd,e00,ad,he',L,t]<;>omega))
  try simp (disch:=omega) only [hd,e00,ad,he',L,t]
  all_goals rfl
 rw [hm] at ad ⊢;simp only [not_true_eq_false,if_false,Hw];have ac1:=LS (fu:=fu) (d:=d) (l:=l) (x:=⟨k,m,⟨#[]⟩⟩) (cnt:=cnt) hfu (by omega) h0 h1 ⟨k1,k8,n0,Nat.zero_le _⟩ (Nat.zero_le _)
 have LA:=Cl (De l ⟨k,m,⟨#[]⟩⟩).2;have tA:=Cx (De l ⟨k,m,⟨#[]⟩⟩).2;have B:=fun (hn:m<=1024)=>LS (fu:=fu) (d:=d) (l:=l) (x:=⟨k,0,Cu ((b.drop a).take m)⟩) (cnt:=cnt) hfu (by omega) h0 h1 ⟨k1,k8,by simp,by rw [Hf,List.length_take];omega⟩ (by rw [Hf,List.length_take];omega)
 have LB:=Cl (De l ⟨k,0,Cu ((b.drop a).take m)⟩).2;have tB:=Cx (De l ⟨k,0,Cu ((b.drop a).take m)⟩).2;unfold R4;generalize De l ⟨k,m,⟨#[]⟩⟩=A at *
 obtain ⟨A1,A2⟩:=A;have eB:ByteArray.mk (List.toArray (((b.drop a).take m).map fun n=>n.toNat.toUInt8))=Cu ((b.drop a).take m):=rfl
 have bo:=G2 ((b.drop a).take m);have tk:List.take m (List.drop a (Ag .u8 b))=Ag .u8 ((b.drop a).take m):=by rw [Ha,Mm]
 have lq:(Ag .u8 ((b.drop a).take m)).length=min m (b.length-a):=by rw [Al,List.length_take,List.length_drop]
 have Lb:=Al .u8 b;generalize Cu ((b.drop a).take m)=S at *
 generalize De l ⟨k,0,S⟩=B' at *
 obtain ⟨B1,B2⟩:=B';generalize (b.drop a).take m=q at *
 unfold I8 It.cells at ac1 B;simp only at ac1 B LA tA LB tB;have w1:wrap .i64 ((b.length:Int)-(a:Int))=((b.length-a:Nat):Int):=by rw [Aj (by omega) (by omega)];omega
 have w2:m<=1024->wrap .i64 (m:Int)=m:=fun h=>Aj (by omega) (by omega)
 have w3:m<=1024->wrap .i64 ((a:Int)+(m:Int))=((a+m:Nat):Int):=fun h=>by rw [Aj (by omega) (by omega)];omega
 have w4:a+m-a=m:=by omega
 try unfold Aa
 repeat' first
  |((with_reducible first|apply Ay|apply Ar|apply A4|apply Bl|apply Cg|apply D8|apply As);· first|with_reducible rfl|(simp (disch:=first|with_reducible assumption|omega) only [hd,e00,ad,L,t,ac1,LA,tA,B,LB,tB,w1,w2,w3,w4,tk,bo,lq,eB,Hw,Cd,C2]<;>with_reducible rfl))
  |((with_reducible first|apply A0|apply A3);· first|with_reducible rfl|with_reducible assumption|omega|(simp (disch:=first|with_reducible assumption|omega) only [gT,hd,e00,ad,L,t,ac1,LA,tA,B,LB,tB,w1,w2,w3,w4,tk,bo,lq,eB,Hw,Cd,C2]<;>omega))
  |(with_reducible apply Az;· first|with_reducible rfl|with_reducible assumption|(simp (disch:=first|with_reducible assumption|omega) only [gF,hd,e00,ad,L,t,ac1,LA,tA,B,LB,tB,w1,w2,w3,w4,tk,bo,lq,eB,Hw,Cd,C2]<;>omega))
  |(with_reducible refine Afn ?_ ?_<;>intro hb<;>try simp only [decide_eq_true_eq,decide_eq_false_iff_not,beq_iff_eq,beq_eq_false_iff_ne,bne_iff_ne,bne_eq_false_iff_eq,ne_eq,Bool.not_eq_true',Bool.not_eq_false',Bool.not_eq_true,Bool.not_eq_false] at hb)
  |(with_reducible refine OL ?_ ?_)
 all_goals try simp (disch:=first|with_reducible assumption|omega) only [hd,e00,ad,L,t,ac1,LA,tA,B,LB,tB,w1,w2,w3,w4,tk,bo,lq,eB,Hw,Cd,C2,Cc,A9]
 all_goals rfl
end
end
end Go.Proofs.YtdjihiphpgkfmaaDoor.Pv
