/-
  The proof of CertificateBodies, part 4.
-/
import Derived.Test.YtdjihiphpgkfmaaGreatDoorBC
import Derived.Test.YtdjihiphpgkfmaaGreatDoorRows
set_option linter.unusedSimpArgs false
set_option linter.unusedVariables false
namespace Go.Proofs.YtdjihiphpgkfmaaGreatDoor.Pv
section
open Go.IntKind (wrap)
section
variable {fu d:Nat} {xs:FuncId->Option (List PV->Option Au)}
theorem Ah6 {x k:Int}(hk:k=13∨k=16∨k=17∨k=21∨k=32):Ad (CX xs) Tryz.prog fu (d+1) Na [.sc (.int .u64 x),.sc (.int .i64 k)]=some ⟨[.sc (.int .u64 (rot x k))],[]⟩:=by
 rw [We];rcases hk with rfl|rfl|rfl|rfl|rfl<;>kernel_rfl
theorem Ah3 {x k:Int}(hk:k=13∨k=16∨k=17∨k=21∨k=32):Ad (CX xs) Tryz.prog fu (d+1) O0 [.sc (.int .u64 x),.sc (.int .u64 k)]=some ⟨[.sc (.int .u64 (rot x k))],[]⟩:=by
 rw [X7];rcases hk with rfl|rfl|rfl|rfl|rfl<;>kernel_rfl
theorem FE {a0 a1 a2 a3 a4:Int}:∀(k i nn:Nat)(v:W4),k<nn->i+k<=100 ->
  Ey fu (Ad (CX xs) Tryz.prog fu (d+1)) a0 a1 a2 a3 a4 nn ((i+k:Nat):Int) i v.a v.b v.c v.d=some ⟨[],[(Aak k v).cells]⟩
 |_,_,0,_,h,_=>by omega
 |0,i,nn+1,v,h,hi=>by
  rw [H7,Do _ _ _ (by omega)]
  rfl
 |k+1,i,nn+1,v,h,hi=>by
  have ih:=FE (a0:=a0) (a1:=a1) (a2:=a2) (a3:=a3) (a4:=a4) k (i+1) nn (MC v) (by omega) (by omega)
  have w:wrap .i64 ((i:Int)+1)=((i+1:Nat):Int):=by rw [Ak (by omega) (by omega)];omega
  have r13:=fun x=>Ah6 (xs:=xs) (fu:=fu) (d:=d) (x:=x) (k:=13) (by simp)
  have r16:=fun x=>Ah6 (xs:=xs) (fu:=fu) (d:=d) (x:=x) (k:=16) (by simp)
  have r17:=fun x=>Ah6 (xs:=xs) (fu:=fu) (d:=d) (x:=x) (k:=17) (by simp)
  have r21:=fun x=>Ah6 (xs:=xs) (fu:=fu) (d:=d) (x:=x) (k:=21) (by simp)
  have r32:=fun x=>Ah6 (xs:=xs) (fu:=fu) (d:=d) (x:=x) (k:=32) (by simp)
  rw [H7];simp (disch:=omega) only [Bv,r13,r16,r17,r21,r32,w];rw [show i+(k+1)=i+1+k by omega]
  exact ih
theorem OU (k:Nat)(hk:k<=4)(hfu:100<=fu)(v:W4):Ad (CX xs) Tryz.prog fu (d+2) Kd [.pbox [.sc (.int .u64 v.a),.sc (.int .u64 v.b),.sc (.int .u64 v.c),.sc (.int .u64 v.d)],.sc (.int .i64 k)]=some ⟨[],[(Aak k v).cells]⟩:=by
 rw [Tn];have:=FE (xs:=xs) (fu:=fu) (d:=d) (a0:=v.a) (a1:=v.b) (a2:=v.c) (a3:=v.d) (a4:=k) k 0 fu v (by omega) (by omega)
 rw [C3] at this;exact this
theorem QJ (hfu:100<=fu)(v:W4)(m:Int):Ad (CX xs) Tryz.prog fu (d+3) Kc [.pbox [.sc (.int .u64 v.a),.sc (.int .u64 v.b),.sc (.int .u64 v.c),.sc (.int .u64 v.d)],.sc (.int .u64 m)]=some ⟨[],[(R1 v m).cells]⟩:=by
 rw [Tm];have r2:=OU (xs:=xs) (fu:=fu) (d:=d) 2 (by omega) hfu ⟨v.a,v.b,v.c,Dq .u64 v.d m⟩
 have e2:((2:Nat):Int)=2:=rfl;rw [e2] at r2;unfold R1;generalize Aak 2 ⟨v.a,v.b,v.c,Dq .u64 v.d m⟩=R at r2 ⊢;simp only [W4.cells] at r2;simp only [Bv,r2];rfl
theorem Ant {a b:Int}{k:Nat}(hk:k<8)(ha:0<=a)(ha':a<((2 ^ (8*k):Nat):Int)) (hb:0<=b)(hb':b<=255):OH .u64 a (Gm .u64 b (8*(k:Int)))=a+((2 ^ (8*k):Nat):Int)*b:=by
 obtain ⟨n,rfl⟩:=Int.eq_ofNat_of_zero_le hb;have e:(8*(k:Int)).toNat=8*k:=by omega
 have hp:n*2 ^ (8*k)<=255*2 ^ (8*k):=Nat.mul_le_mul_right _ (by omega)
 have h56:2 ^ (8*k)<=2 ^ 56:=Nat.pow_le_pow_right (by omega) (by omega)
 have e56:(2:Nat) ^ 56=72057594037927936:=by decide
 rw [e56] at h56;generalize hP:2 ^ (8*k)=p at *
 have hpos:n*p<=255*p:=hp
 have hs:Gm .u64 (n:Int) (8*(k:Int))=(n:Int)*((2 ^ (8*(k:Int)).toNat:Nat):Int):=Abw (by omega) (by omega) (by omega) (by
  rw [e,hP];have:((n*p:Nat):Int)<=((255*p:Nat):Int):=by omega
  rw [←Int.natCast_mul];omega)
 rw [hs,e,hP]
 have:=(TA (a:=a) (c:=((n*p:Nat):Int)) (8*k) n ha (by rw [hP];exact ha') (by rw [hP]) (by
  have:((n*p:Nat):Int)<=((255*p:Nat):Int):=by omega
  omega)).1
 rw [←Int.natCast_mul,this,Int.mul_comm ((p:Nat):Int),←Int.natCast_mul]
theorem Aoa (k:Nat):((2 ^ (8*k):Nat):Int)=256 ^ k:=by
 rw [Nat.pow_mul];simp
theorem EY {call:Ai}{n:Nat}{c:List PV}{l:List Int}(hb:Jv l)(hl:l.length<=8):∀(r:List Int)(i nn:Nat),l.drop i=r->r.length<nn->i<=l.length ->
  Hu fu call n c nn (Rb (l.take i)) l.length (Af .u8 l) l.length i=some ⟨[.sc (.int .u64 (Rb l))],[]⟩
 |_,_,0,_,h,_=>by omega
 |[],i,nn+1,h,hn,hi=>by
  have:=drop_nil h;rw [Pc,Do _ _ _ (by omega),R6 (by omega)]
 |b::r,i,nn+1,h,hn,hi=>by
  obtain ⟨h1,h2,h3⟩:=Cm h;simp only [Jz] at hn;have ih:=EY (call:=call) (n:=n) (c:=c) hb hl r (i+1) nn h3 (by omega) (by omega)
  have hbb:=hb b (List.mem_of_getElem? h2);have w:wrap .i64 ((i:Int)+1)=((i+1:Nat):Int):=by rw [Ak (by omega) (by omega)];omega
  have w8:wrap .i64 (8*(i:Int))=8*(i:Int):=Ak (by omega) (by omega)
  have wb:wrap .u64 b=b:=Ci (by omega) (by omega)
  have hbnd:=Sr (l:=l.take i) fun x hx=>hb x (List.mem_of_mem_take hx)
  have htl:(l.take i).length=i:=by rw [List.length_take];omega
  rw [htl] at hbnd
  have hj:OH .u64 (Rb (l.take i)) (Gm .u64 b (8*(i:Int)))=Rb (l.take (i+1)):=by
   rw [Ant (by omega) hbnd.1 (by rw [Aoa];exact hbnd.2) hbb.1 hbb.2,List.take_add_one,h2,Xx,htl,Aoa]
   simp [Rb]
  rw [Pc];simp (disch:=omega) only [Bv,H3,Cb,W5 h2,w,w8,wb,hj];exact ih
theorem OQ {l:List Int}(hb:Jv l)(hl:l.length<=8)(hfu:100<=fu):Ad (CX xs) Tryz.prog fu (d+1) S7 [.lst false 1 l.length (Af .u8 l)]=some ⟨[.sc (.int .u64 (Rb l))],[]⟩:=by
 rw [GP];exact EY hb hl l 0 fu rfl (by omega) (by omega)
theorem Hs (k:IntKind)(l:List Int)(i:Nat):List.drop i (Af k l)=Af k (l.drop i):=by
 have:=SD (Zm k) l i
 simpa using this
theorem Nw (k:IntKind)(l:List Int)(i:Nat):List.take i (Af k l)=Af k (l.take i):=by
 have:=Abd (Zm k) l i
 simpa using this
theorem Jv.drop {l:List Int}(h:Jv l)(i:Nat):Jv (l.drop i):=fun x hx=>h x (List.mem_of_mem_drop hx)
theorem Jv.take {l:List Int}(h:Jv l)(i:Nat):Jv (l.take i):=fun x hx=>h x (List.mem_of_mem_take hx)
theorem Ak0 {a0 a1:Int}{n:Nat}{c:List PV}{l:List Int}(hb:Jv l)(hl:l.length<=1099511627776)(hfu:100<=fu)(nn:Nat)(v:W4):
  H8 fu (Ad (CX xs) Tryz.prog fu (d+3)) a0 a1 n c (nn+1) l.length (Af .u8 l) ((l.length / 8:Nat):Int) ((l.length / 8:Nat):Int) ((l.length / 8:Nat):Int) v.a v.b v.c v.d=some ⟨[.sc (.int .u64 (Ac7 (Ae1 (R1 v (Ng l)))))],[]⟩:=by
 have w8:wrap .i64 (8*((l.length / 8:Nat):Int))=((8*(l.length / 8):Nat):Int):=by rw [Ak (by omega) (by omega)];omega
 have wl:wrap .u64 (l.length:Int)=l.length:=Ci (by omega) (by omega)
 have hdl:(l.drop (8*(l.length / 8))).length=l.length-8*(l.length / 8):=List.length_drop;have li:=OQ (xs:=xs) (fu:=fu) (d:=d+2) (hb.drop (8*(l.length / 8))) (by omega) hfu
 rw [hdl] at li;have tk:List.take (l.length-8*(l.length / 8)) (Af .u8 (l.drop (8*(l.length / 8))))=Af .u8 (l.drop (8*(l.length / 8))):=R6 (by rw [Aj,hdl];omega)
 have hbn:=Sr (hb.drop (8*(l.length / 8)));rw [hdl] at hbn
 have hp7:(256:Int) ^ (l.length-8*(l.length / 8))<=256 ^ 7:=by
  have:(256:Nat) ^ (l.length-8*(l.length / 8))<=256 ^ 7:=Nat.pow_le_pow_right (by omega) (by omega)
  have h2:(((256:Nat) ^ (l.length-8*(l.length / 8)):Nat):Int)<=((256 ^ 7:Nat):Int):=by omega
  simpa using h2
 have hlast:OH .u64 (Rb (l.drop (8*(l.length / 8)))) (Gm .u64 (l.length:Int) 56)=Ng l:=by
  have hs:Gm .u64 (l.length:Int) 56=(((l.length % 256)*2 ^ 56:Nat):Int):=by
   show wrap .u64 ((l.length:Int)*2 ^ (min (56:Int).toNat IntKind.u64.bits))=_;have h2:(2:Int) ^ (min (56:Int).toNat IntKind.u64.bits)=72057594037927936:=by decide
   have h3:(2:Nat) ^ 56=72057594037927936:=by decide
   rw [h2,h3];simp only [wrap,IntKind.signed,IntKind.bits];simp;omega
  have h56:(256:Int) ^ 7=((2 ^ 56:Nat):Int):=by decide
  have h3:(2:Nat) ^ 56=72057594037927936:=by decide
  rw [hs,(TA 56 (l.length % 256) hbn.1 (by omega) rfl (by omega)).1]
  unfold Ng;omega
 have ab:=QJ (xs:=xs) (fu:=fu) (d:=d) hfu v (Ng l);have r4:=OU (xs:=xs) (fu:=fu) (d:=d+1) 4 (by omega) hfu ⟨(R1 v (Ng l)).a,(R1 v (Ng l)).b,Dq .u64 (R1 v (Ng l)).c 255,(R1 v (Ng l)).d⟩
 have e4:((4:Nat):Int)=4:=rfl;rw [e4] at r4;unfold Ae1;generalize R1 v (Ng l)=U at ab r4 ⊢;generalize Aak 4 ⟨U.a,U.b,Dq .u64 U.c 255,U.d⟩=R at r4 ⊢;simp only [W4.cells] at ab r4;rw [S9];simp (disch:=omega) only [Bv,H3,Cb,w8,wl,Hs,tk,li,hlast,ab,r4];rfl
theorem TQ {a0 a1:Int}{n:Nat}{c:List PV}{l:List Int}(hb:Jv l)(hl:l.length<=1099511627776)(hfu:100<=fu):∀(k i nn:Nat)(v:W4),i+k=l.length / 8->k<nn ->
  H8 fu (Ad (CX xs) Tryz.prog fu (d+3)) a0 a1 n c nn l.length (Af .u8 l) ((l.length / 8:Nat):Int) ((l.length / 8:Nat):Int) i v.a v.b v.c v.d=some ⟨[.sc (.int .u64 (Ac7 (Ae1 (R1 (NK k v (l.drop (8*i))) (Ng l)))))],[]⟩
 |_,_,0,_,_,h=>by omega
 |0,i,nn+1,v,hi,hn=>by
  have e:i=l.length / 8:=by omega
  subst e;exact Ak0 hb hl hfu nn v
 |k+1,i,nn+1,v,hi,hn=>by
  have w:wrap .i64 ((i:Int)+1)=((i+1:Nat):Int):=by rw [Ak (by omega) (by omega)];omega
  have w8:wrap .i64 (8*(i:Int))=((8*i:Nat):Int):=by rw [Ak (by omega) (by omega)];omega
  have w88:wrap .i64 (((8*i:Nat):Int)+8)=((8*i+8:Nat):Int):=by rw [Ak (by omega) (by omega)];omega
  have hdl:((l.drop (8*i)).take 8).length=8:=by rw [List.length_take,List.length_drop];omega
  have li:=OQ (xs:=xs) (fu:=fu) (d:=d+2) ((hb.drop (8*i)).take 8) (by omega) hfu
  rw [hdl] at li;have e8:8*i+8-8*i=8:=by omega
  have ab:=QJ (xs:=xs) (fu:=fu) (d:=d) hfu v (Rb ((l.drop (8*i)).take 8));have ih:=TQ (a0:=a0) (a1:=a1) (n:=n) (c:=c) hb hl hfu k (i+1) nn (R1 v (Rb ((l.drop (8*i)).take 8))) (by omega) (by omega)
  have eN:NK (k+1) v (l.drop (8*i))=NK k (R1 v (Rb ((l.drop (8*i)).take 8))) (l.drop (8*(i+1))):=by
   rw [NK,List.drop_drop,show 8*i+8=8*(i+1) by omega]
  rw [eN];generalize R1 v (Rb ((l.drop (8*i)).take 8))=U at ab ih ⊢;simp only [W4.cells] at ab;rw [S9];simp (disch:=omega) only [Bv,H3,Cb,w,w8,w88,e8,Hs,Nw,li,ab];exact ih
theorem Agh {l:List Int}(hb:Jv l)(hl:l.length<=1099511627776)(hfu:100<=fu)(hf:l.length<fu)(k0 k1:Int):Ad (CX xs) Tryz.prog fu (d+4) BP [.sc (.int .u64 k0),.sc (.int .u64 k1),.lst false 1 l.length (Af .u8 l)]=some ⟨[.sc (.int .u64 (Aka k0 k1 l))],[]⟩:=by
 rw [SA]
 have w:wrap .i64 (Int.tdiv (l.length:Int) 8)=((l.length / 8:Nat):Int):=by
  rw [Int.tdiv_eq_ediv_of_nonneg (by omega),Ak (by omega) (by omega)]
  omega
 have lp:=TQ (xs:=xs) (fu:=fu) (d:=d) (a0:=k0) (a1:=k1) (n:=l.length) (c:=Af .u8 l) hb hl hfu (l.length / 8) 0 fu (Am1 k0 k1) (by omega) (by omega)
 simp only [Gw,w];exact lp
theorem Abx {l:List Int}(hb:Jv l)(hl:l.length<=1099511627776)(hfu:100<=fu)(hf:l.length<fu)(dom:Int):Ad (CX xs) Tryz.prog fu (d+5) Qu [.sc (.int .i64 dom),.lst false 1 l.length (Af .u8 l)]=some ⟨[.sc (.int .u64 (M1 dom l))],[]⟩:=by
 rw [NN];have s:=Agh (xs:=xs) (fu:=fu) (d:=d) hb hl hfu hf (wrap .u64 dom) 0;simp only [Bv,s];rfl
theorem Nu (v:W4):Ad (CX xs) Tryz.prog fu (d+2) Mv [.agg [.sc (.int .u64 v.a),.sc (.int .u64 v.b),.sc (.int .u64 v.c),.sc (.int .u64 v.d)]]=some ⟨[.agg (MC v).cells],[]⟩:=by
 have r13:=fun x=>Ah3 (xs:=xs) (fu:=fu) (d:=d) (x:=x) (k:=13) (by simp)
 have r16:=fun x=>Ah3 (xs:=xs) (fu:=fu) (d:=d) (x:=x) (k:=16) (by simp)
 have r17:=fun x=>Ah3 (xs:=xs) (fu:=fu) (d:=d) (x:=x) (k:=17) (by simp)
 have r21:=fun x=>Ah3 (xs:=xs) (fu:=fu) (d:=d) (x:=x) (k:=21) (by simp)
 have r32:=fun x=>Ah3 (xs:=xs) (fu:=fu) (d:=d) (x:=x) (k:=32) (by simp)
 rw [Wx];simp (disch:=omega) only [Bv,r13,r16,r17,r21,r32];rfl
def Tq (l:List Int)(i k:Nat):Int:=if i+k<l.length then l.getD (i+k) 0 else if k=7 then (l.length:Int) % 256 else 0
def pc (l:List Int)(i:Nat):List Int:=(List.range 8).map (Tq l i)
theorem Aqu {l:List Int}(hb:Jv l)(i:Nat):Jv (pc l i):=by
 intro x hx;obtain ⟨k,hk,rfl⟩:=List.mem_map.1 hx;unfold Tq;split
 ·rename_i h;rw [List.getD_eq_getElem?_getD,List.getElem?_eq_getElem h];exact hb _ (List.getElem_mem h)
 ·split<;>omega
theorem Ajd {l:List Int}{i:Nat}(h:i+8<=l.length):pc l i=(l.drop i).take 8:=by
 refine List.ext_getElem (by simp [pc];omega) fun k h1 h2=>?_
 have hk:k<8:=by simpa [pc] using h1
 simp only [pc,List.getElem_map,List.getElem_range,List.getElem_take,List.getElem_drop,Tq];rw [B4 (by omega),List.getD_eq_getElem?_getD,List.getElem?_eq_getElem (by omega)]
 rfl
theorem PZ (x:Int):∀n,Rb (List.replicate n 0++[x])=256 ^ n*x
 |0=>by simp [Rb]
 |n+1=>by
  rw [List.replicate_succ,List.cons_append,Rb,PZ x n,Int.pow_succ,Int.mul_comm (256 ^ n) 256,Int.mul_assoc];omega
theorem Aj8 {l:List Int}:Rb (pc l (8*(l.length / 8)))=Ng l:=by
 have e:pc l (8*(l.length / 8))=l.drop (8*(l.length / 8))++(List.replicate (7-(l.length-8*(l.length / 8))) 0++[(l.length:Int) % 256]):=by
  refine List.ext_getElem (by simp [pc];omega) fun k h1 h2=>?_
  have hk:k<8:=by simpa [pc] using h1
  simp only [pc,List.getElem_map,List.getElem_range,Tq];by_cases hc:8*(l.length / 8)+k<l.length
  ·rw [B4 hc,List.getElem_append_left (by rw [List.length_drop];omega),List.getElem_drop,List.getD_eq_getElem?_getD,List.getElem?_eq_getElem hc]
   rfl
  ·rw [A5 hc,List.getElem_append_right (by rw [List.length_drop];omega)]
   by_cases h7:k=7
   ·rw [B4 h7,List.getElem_append_right (by simp;omega)]
    simp
   ·rw [A5 h7,List.getElem_append_left (by simp;omega)]
    simp
 rw [e,Xx,PZ];unfold Ng
 have:(256:Int) ^ (l.drop (8*(l.length / 8))).length*(256 ^ (7-(l.length-8*(l.length / 8)))*((l.length:Int) % 256))=72057594037927936*((l.length:Int) % 256):=by
  rw [←Int.mul_assoc,←Int.pow_add,List.length_drop];have:l.length-8*(l.length / 8)+(7-(l.length-8*(l.length / 8)))=7:=by omega
  rw [this];rfl
 rw [this]
theorem Aoj {a b:Int}(ha:0<=a)(ha':a<72057594037927936)(hb:0<=b)(hb':b<=255):OH .u64 (Gm .u64 a 8) b=b+256*a:=by
 obtain ⟨n,rfl⟩:=Int.eq_ofNat_of_zero_le ha
 have hs:Gm .u64 (n:Int) 8=((n*2 ^ 8:Nat):Int):=by
  have:=Abw (a:=(n:Int)) (k:=8) (by omega) (by omega) (by omega) (by
   have:(2 ^ (8:Int).toNat:Nat)=256:=by decide
   rw [this];omega)
  rw [this];have:(2 ^ (8:Int).toNat:Nat)=256:=by decide
  rw [this];have:(2 ^ 8:Nat)=256:=by decide
  rw [this];omega
 have h8:(2 ^ 8:Nat)=256:=by decide
 rw [hs,(TA (a:=b) 8 n hb (by rw [h8];omega) rfl (by rw [h8];omega)).2,h8]
 omega
theorem Abe {a0 a1:Int}{n m0:Nat}{c:List PV}{l:List Int}(hb:Jv l)(hl:l.length<=1099511627776){i:Nat}(hi:i<=l.length)(v:W4):∀(j nn:Nat),j<=8->j<nn ->
  Eb fu (Ad (CX xs) Tryz.prog fu (d+2)) a0 a1 n c m0 nn l.length (Af .u8 l) i (Rb ((pc l i).drop j)) ((j:Int)-1) v.cells =
   Fb fu (Ad (CX xs) Tryz.prog fu (d+2)) a0 a1 n c m0 l.length (Af .u8 l) ((i+8:Nat):Int) (R1 v (Rb (pc l i))).cells
 |_,0,_,h=>by omega
 |0,nn+1,hj,hn=>by
  have w8:wrap .i64 ((i:Int)+8)=((i+8:Nat):Int):=by rw [Ak (by omega) (by omega)];omega
  have r1:=Nu (xs:=xs) (fu:=fu) (d:=d) ⟨v.a,v.b,v.c,Dq .u64 v.d (Rb (pc l i))⟩;have r2:=Nu (xs:=xs) (fu:=fu) (d:=d) (MC ⟨v.a,v.b,v.c,Dq .u64 v.d (Rb (pc l i))⟩);have eA:R1 v (Rb (pc l i))=Anz (MC (MC ⟨v.a,v.b,v.c,Dq .u64 v.d (Rb (pc l i))⟩)) (Rb (pc l i)):=rfl;rw [eA];generalize MC ⟨v.a,v.b,v.c,Dq .u64 v.d (Rb (pc l i))⟩=U at r1 r2 ⊢;generalize MC U=U2 at r2 ⊢;simp only [W4.cells] at r1 r2;rw [Mc,Do _ _ _ (by omega),El]
  simp only [W4.cells,List.getD_cons_zero,List.getD_cons_succ,SS,Gw];simp (disch:=first|omega|(simp;done)) only [Bv,Bg,List.take_succ_cons,List.take_zero,List.drop_succ_cons,El,List.drop_nil,List.cons_append,Zzq,List.append_nil,Jz,AA,List.getD_cons_zero,List.getD_cons_succ,r1,r2,w8,C3,Nat.reduceAdd,Nat.reduceLeDiff,List.append_eq]
  rfl
 |j+1,nn+1,hj,hn=>by
  have ih:=Abe (a0:=a0) (a1:=a1) (n:=n) (m0:=m0) (c:=c) hb hl hi v j nn (by omega) (by omega)
  have hw:wrap .i64 ((i:Int)+(((j+1:Nat):Int)-1))=((i+j:Nat):Int):=by rw [Ak (by omega) (by omega)];omega
  have wj:wrap .i64 (((j+1:Nat):Int)-1-1)=(j:Int)-1:=by rw [Ak (by omega) (by omega)];omega
  have hd:(pc l i).drop j=Tq l i j::(pc l i).drop (j+1):=by
   rw [List.drop_eq_getElem_cons (by simp [pc];omega)]
   simp [pc]
  have hB:=Aqu hb i;have hbn:=Sr (hB.drop (j+1))
  have hp7:(256:Int) ^ ((pc l i).drop (j+1)).length<=72057594037927936:=by
   have hlen:((pc l i).drop (j+1)).length<=7:=by simp [pc]
   have:(256:Nat) ^ ((pc l i).drop (j+1)).length<=256 ^ 7:=Nat.pow_le_pow_right (by omega) hlen
   have h2:(((256:Nat) ^ ((pc l i).drop (j+1)).length:Nat):Int)<=((256 ^ 7:Nat):Int):=by omega
   simpa using h2
  have hc0:0<=Tq l i j∧Tq l i j<=255:=hB _ (by rw [←El (l:=pc l i)];exact List.mem_of_mem_drop (i:=j) (by rw [El,hd];simp))
  have hj2:OH .u64 (Gm .u64 (Rb ((pc l i).drop (j+1))) 8) (Tq l i j)=Rb ((pc l i).drop j):=by
   rw [Aoj hbn.1 (by omega) hc0.1 hc0.2,hd]
   rfl
  have wc:wrap .u64 (Tq l i j)=Tq l i j:=Ci (by omega) (by omega)
  rw [Mc,JG _ _ _ (by omega)]
  simp only [Gw,hw];by_cases c1:i+j<l.length
  ·have e:Tq l i j=l.getD (i+j) 0:=by unfold Tq;rw [B4 c1]
   have e2:l[i+j]?=some (Tq l i j):=by rw [e,List.getD_eq_getElem?_getD,List.getElem?_eq_getElem c1];rfl
   rw [JG _ _ _ (by omega)]
   simp (disch:=omega) only [Bv,H3,Cb,W5 e2,wc,hj2,wj];exact ih
  ·rw [Do _ _ _ (by omega)]
   by_cases h7:j=7
   ·subst h7;have e:Tq l i 7=(l.length:Int) % 256:=by unfold Tq;rw [A5 c1,B4 rfl]
    have e8:wrap .u8 (l.length:Int)=Tq l i 7:=by
     rw [e];simp only [wrap,IntKind.signed,IntKind.bits];simp
    rw [Ez,B4 (by omega),e8,wc,hj2,wj]
    exact ih
   ·have e:Tq l i j=0:=by unfold Tq;rw [A5 c1,A5 h7]
    rw [e] at hj2;rw [Ez,A5 (by omega),hj2,wj]
    exact ih
theorem OE {a0 a1:Int}{n:Nat}{c:List PV}{l:List Int}(hb:Jv l)(hl:l.length<=1099511627776)(hfu:100<=fu):∀(k i nn:Nat)(v:W4),i+k=l.length / 8->k+1<nn ->
  Fb fu (Ad (CX xs) Tryz.prog fu (d+2)) a0 a1 n c nn l.length (Af .u8 l) ((8*i:Nat):Int) v.cells=some ⟨[.sc (.int .u64 (Ac7 (Ae1 (R1 (NK k v (l.drop (8*i))) (Ng l)))))],[]⟩
 |_,_,0,_,_,h=>by omega
 |k,i,nn+1,v,hi,hn=>by
  have step:=Abe (xs:=xs) (fu:=fu) (d:=d) (a0:=a0) (a1:=a1) (n:=n) (m0:=nn) (c:=c) hb hl (i:=8*i) (by omega) v 8 fu (by omega) (by omega)
  have e0:Rb ((pc l (8*i)).drop 8)=0:=by rw [List.drop_of_length_le (by simp [pc])];rfl
  rw [e0] at step;rw [Ls,JG _ _ _ (by omega)]
  refine step.trans ?_;cases k with
  |zero=>
   have e:i=l.length / 8:=by omega
   subst e;rw [Aj8];generalize hv:R1 v (Ng l)=u;obtain ⟨nn',rfl⟩:∃nn',nn=nn'+1:=⟨nn-1,by omega⟩
   have r1:=Nu (xs:=xs) (fu:=fu) (d:=d) ⟨u.a,u.b,Dq .u64 u.c 255,u.d⟩;have r2:=Nu (xs:=xs) (fu:=fu) (d:=d) (MC ⟨u.a,u.b,Dq .u64 u.c 255,u.d⟩);have r3:=Nu (xs:=xs) (fu:=fu) (d:=d) (MC (MC ⟨u.a,u.b,Dq .u64 u.c 255,u.d⟩));have r4:=Nu (xs:=xs) (fu:=fu) (d:=d) (MC (MC (MC ⟨u.a,u.b,Dq .u64 u.c 255,u.d⟩)))
   have eF:Ac7 (Ae1 (R1 (NK 0 v (l.drop (8*(l.length / 8)))) (Ng l)))=Ac7 (MC (MC (MC (MC ⟨u.a,u.b,Dq .u64 u.c 255,u.d⟩)))):=by
    rw [NK,hv];rfl
   rw [eF];clear eF;generalize MC ⟨u.a,u.b,Dq .u64 u.c 255,u.d⟩=U1 at r1 r2 r3 r4 ⊢;generalize MC U1=U2 at r2 r3 r4 ⊢;generalize MC U2=U3 at r3 r4 ⊢;generalize MC U3=U4 at r4 ⊢;simp only [W4.cells] at r1 r2 r3 r4;rw [Ls,Do _ _ _ (by omega)]
   simp only [W4.cells,List.getD_cons_zero,List.getD_cons_succ,SS,Gw];simp (disch:=first|omega|(simp;done)) only [Bv,Bg,List.take_succ_cons,List.take_zero,List.drop_succ_cons,El,List.drop_nil,List.cons_append,Zzq,List.append_nil,Jz,AA,List.getD_cons_zero,List.getD_cons_succ,r1,r2,r3,r4,C3,Nat.reduceAdd,Nat.reduceLeDiff,List.append_eq]
   rfl
  |succ k=>
   have ih:=OE (a0:=a0) (a1:=a1) (n:=n) (c:=c) hb hl hfu k (i+1) nn (R1 v (Rb (pc l (8*i)))) (by omega) (by omega)
   rw [show 8*i+8=8*(i+1) by omega,ih,Ajd (by omega)]
   simp only [NK,List.drop_drop];rw [show 8*(i+1)=8*i+8 by omega]
theorem Acc {l:List Int}(hb:Jv l)(hl:l.length<=1099511627776)(hfu:100<=fu)(hf:l.length<fu)(k0 k1:Int):Ad (CX xs) Tryz.prog fu (d+3) Px [.sc (.int .u64 k0),.sc (.int .u64 k1),.lst false 1 l.length (Af .u8 l)]=some ⟨[.sc (.int .u64 (Aka k0 k1 l))],[]⟩:=by
 rw [BV];exact OE (xs:=xs) (fu:=fu) (d:=d) (a0:=k0) (a1:=k1) (n:=l.length) (c:=Af .u8 l) hb hl hfu (l.length / 8) 0 fu (Am1 k0 k1) (by omega) (by omega)
theorem WZ {l:List Int}(hb:Jv l)(hl:l.length<=1099511627776)(hfu:100<=fu)(hf:l.length<fu)(dom:Int):Ad (CX xs) Tryz.prog fu (d+4) Io [.sc (.int .i64 dom),.lst false 1 l.length (Af .u8 l)]=some ⟨[.sc (.int .u64 (M1 dom l))],[]⟩:=by
 rw [Y3];have s:=Acc (xs:=xs) (fu:=fu) (d:=d) hb hl hfu hf (wrap .u64 dom) 0;simp only [Bv,s];rfl
theorem Ajn {l:List Int}(hb:Jv l)(hl:l.length<=1099511627776)(hfu:100<=fu)(hf:l.length<fu)(key dom:Int):Ad (CX xs) Tryz.prog fu (d+4) P5 [.sc (.int .u64 key),.sc (.int .i64 dom),.lst false 1 l.length (Af .u8 l)]=some ⟨[.sc (.int .u64 (Akr key dom l))],[]⟩:=by
 rw [Z4];have s:=Acc (xs:=xs) (fu:=fu) (d:=d) hb hl hfu hf key (wrap .u64 (1+wrap .u64 dom));simp only [Bv,s];rfl
end
end
section
open Go.IntKind (wrap)
def C1 (w:Int)(k:Nat):Int:=wrap .u8 (Dw .u64 w (56-8*(k:Int)))
def Dp (w:Int):List Int:=(List.range' 0 8).map (C1 w)
def Ar (ws:List Int):List Int:=ws.flatMap Dp
theorem Em (w:Int):(Dp w).length=8:=rfl
section
variable {fu d:Nat} {xs:FuncId->Option (List PV->Option Au)} {call:Ai} {n:Nat} {c:List PV}
theorem XH {ws:List Int}{w:Int}{m0 l:Nat}{i k:Int}:∀(r j nn:Nat)(bs:List Int),8-j=r->r<nn->j<=8->bs.length+r<=34359738368 ->
  Ib fu call n c m0 nn bs.length w l (Af .u64 ws) k i j (Af .u8 bs) =
   Gv fu call n c m0 (bs++(List.range' j (8-j)).map (C1 w)).length l (Af .u64 ws) k (wrap .i64 (i+1)) (Af .u8 (bs++(List.range' j (8-j)).map (C1 w)))
 |r,j,0,bs,_,h,_,_=>by omega
 |0,j,nn+1,bs,hr,_,hj,_=>by
  have e:j=8:=by omega
  subst e;rw [Ps];simp (disch:=omega) only [Bv];simp
 |r+1,j,nn+1,bs,hr,hn,hj,hb=>by
  have ih:=XH (ws:=ws) (w:=w) (m0:=m0) (l:=l) (i:=i) (k:=k) r (j+1) nn (bs++[C1 w j]) (by omega) (by omega) (by omega) (by simp;omega)
  have e8:=Aj .u8 bs;rw [Ps]
  have hx:wrap .u8 (Dw .u64 w (wrap .i64 (56-wrap .i64 (8*(j:Int)))))=C1 w j:=by
   rw [Ak (x:=8*(j:Int)) (by omega) (by omega),Ak (by omega) (by omega)]
   rfl
  have h0:0<=wrap .i64 (56-wrap .i64 (8*(j:Int))):=by
   rw [Ak (x:=8*(j:Int)) (by omega) (by omega),Ak (by omega) (by omega)]
   omega
  have hrange:List.range' j (8-j)=j::List.range' (j+1) (8-(j+1)):=by
   rw [show 8-j=(8-(j+1))+1 by omega]
   exact List.range'_succ
  simp (disch:=first|omega|exact h0) only [Bv,Cb,hx,I1,Fs,Ak (x:=(j:Int)+1)];rw [hrange];simp only [I9,Jz,AA,C3,YM,Zzw,List.singleton_append] at ih ⊢;exact ih
theorem IH {ws:List Int}(hl:ws.length<=1073741824)(hfu:100<=fu):∀(r:List Int)(i nn:Nat)(bs:List Int),ws.drop i=r->r.length<nn->bs.length=8*i ->
  Gv fu call n c nn bs.length ws.length (Af .u64 ws) ws.length i (Af .u8 bs)=some ⟨[.own 1 (bs++Ar r).length (Af .u8 (bs++Ar r))],[]⟩
 |r,i,0,_,_,h,_=>by omega
 |[],i,nn+1,bs,h,_,_=>by
  have:=drop_nil h;have e8:=Aj .u8 bs;rw [Pt];simp (disch:=omega) only [Bv,Cb,I1,Ar,List.flatMap_nil,List.append_nil]
 |w::r,i,nn+1,bs,h,hn,hb=>by
  obtain ⟨h1,h2,h3⟩:=Cm h;simp only [Jz] at hn;rw [Pt];simp (disch:=omega) only [Bv,H3,Cb,W5 h2];rw [show (0:Int)=((0:Nat):Int) from rfl,XH 8 0 fu bs rfl (by omega) (by omega) (by omega),Ak (by omega) (by omega)]
  have ih:=IH hl hfu r (i+1) nn (bs++Dp w) h3 (by omega) (by simp [Em];omega)
  have e:bs++Dp w++Ar r=bs++Ar (w::r):=by simp [Ar]
  rw [e] at ih;exact ih
theorem Oo {ws:List Int}(hl:ws.length<=1073741824)(hfu:100<=fu)(hf:ws.length<fu):Ad (CX xs) Tryz.prog fu (d+1) E9 [.lst false 1 ws.length (Af .u64 ws)]=some ⟨[.own 1 (Ar ws).length (Af .u8 (Ar ws))],[]⟩:=by
 rw [KL];simp (disch:=omega) only [Bv,Ak,Int.mul_one];exact IH hl hfu ws 0 fu [] rfl hf rfl
theorem PH {ws:List Int}{w:Int}{m0 i:Nat}(hw:ws[i]?=some w):∀(r nn:Nat)(j:Int)(bs:List Int),j=(r:Int)-1->r<=8->r<nn->bs.length+r<=34359738368 ->
  Fq fu call n c m0 nn ws.length (Af .u64 ws) bs.length i j (Af .u8 bs) =
   Ei fu call n c m0 ws.length (Af .u64 ws) (bs++(List.range' (8-r) r).map (C1 w)).length (wrap .i64 (i+1)) (Af .u8 (bs++(List.range' (8-r) r).map (C1 w)))
 |r,0,j,bs,_,_,h,_=>by omega
 |0,nn+1,j,bs,hr,_,_,_=>by
  rw [Jh];simp (disch:=omega) only [Bv];simp
 |r+1,nn+1,j,bs,hr,hle,hn,hb=>by
  have hi:=Am3 hw;have ih:=PH (m0:=m0) hw r nn (j-1) (bs++[C1 w (8-(r+1))]) (by omega) (by omega) (by omega) (by simp;omega)
  have e8:=Aj .u8 bs
  have hx:wrap .u8 (Dw .u64 w (wrap .u64 (wrap .i64 (8*j))))=C1 w (8-(r+1)):=by
   rw [Ak (by omega) (by omega),Ci (by omega) (by omega)]
   unfold C1;rw [show 56-8*((8-(r+1):Nat):Int)=8*j by omega]
  have h0:0<=wrap .u64 (wrap .i64 (8*j)):=by
   rw [Ak (by omega) (by omega),Ci (by omega) (by omega)]
   omega
  have hrange:List.range' (8-(r+1)) (r+1)=(8-(r+1))::List.range' (8-r) r:=by
   rw [List.range'_succ,show 8-(r+1)+1=8-r by omega]
  rw [Jh];simp (disch:=first|omega|exact h0) only [Bv,H3,Cb,W5 hw,hx,I1,Fs,Ak (x:=j-1)];rw [hrange];simp only [I9,Jz,AA,C3,YM,Zzw,List.singleton_append] at ih ⊢;exact ih
theorem FV {ws:List Int}(hl:ws.length<=1073741824)(hfu:100<=fu):∀(r:List Int)(i nn:Nat)(bs:List Int),ws.drop i=r->r.length<nn->bs.length=8*i ->
  Ei fu call n c nn ws.length (Af .u64 ws) bs.length i (Af .u8 bs)=some ⟨[.own 1 (bs++Ar r).length (Af .u8 (bs++Ar r))],[]⟩
 |r,i,0,_,_,h,_=>by omega
 |[],i,nn+1,bs,h,_,_=>by
  have:=drop_nil h;have e8:=Aj .u8 bs;rw [Jm];simp (disch:=omega) only [Bv,Cb,I1,Ar,List.flatMap_nil,List.append_nil]
 |w::r,i,nn+1,bs,h,hn,hb=>by
  obtain ⟨h1,h2,h3⟩:=Cm h;simp only [Jz] at hn;rw [Jm];simp (disch:=omega) only [Bv];rw [PH h2 8 fu 7 bs rfl (by omega) (by omega) (by omega),Ak (by omega) (by omega)]
  have ih:=FV hl hfu r (i+1) nn (bs++Dp w) h3 (by omega) (by simp [Em];omega)
  have e:bs++Dp w++Ar r=bs++Ar (w::r):=by simp [Ar]
  rw [e] at ih;exact ih
theorem Kt {ws:List Int}(hl:ws.length<=1073741824)(hfu:100<=fu)(hf:ws.length<fu):Ad (CX xs) Tryz.prog fu (d+1) Dx [.lst false 1 ws.length (Af .u64 ws)]=some ⟨[.own 1 (Ar ws).length (Af .u8 (Ar ws))],[]⟩:=by
 rw [Wc];exact FV hl hfu ws 0 fu [] rfl hf rfl
end
abbrev E2 (a b:Int):Int:=OH .u64 (Gm .u64 a 8) (wrap .u64 b)
def KH (bs:List Int):Int:=bs.foldl E2 0
theorem Alf {q:Int}(h0:0<=q)(h1:q<=18446744073709551615):E2 (q / 256) (wrap .u8 q)=q:=by
 have e1:Gm .u64 (q / 256) 8=q / 256*256:=by
  unfold Gm;have:((8:Int).toNat.min IntKind.u64.bits)=8:=by decide
  show wrap .u64 (q / 256*2 ^ (min (8:Int).toNat IntKind.u64.bits))=_;have h2:(2:Int) ^ (min (8:Int).toNat IntKind.u64.bits)=256:=by decide
  rw [h2,Ci (by omega) (by omega)]
 have e2:wrap .u8 q=q % 256:=by
  simp only [wrap,IntKind.signed,IntKind.bits];simp
 have e3:wrap .u64 (q % 256)=q % 256:=Ci (by omega) (by omega)
 unfold E2;rw [e1,e2,e3];obtain ⟨n,rfl⟩:=Int.eq_ofNat_of_zero_le h0;have hn:n<18446744073709551616:=by omega
 have e4:(BitVec.ofInt 64 ((n:Int) / 256*256)).toNat=n / 256*256:=by
  rw [BitVec.toNat_ofInt];omega
 have e5:(BitVec.ofInt 64 ((n:Int) % 256)).toNat=n % 256:=by
  rw [BitVec.toNat_ofInt];omega
 have e6:n / 256*256 ||| n % 256=n:=by
  have:=Nat.shiftLeft_add_eq_or_of_lt (show n % 256<2 ^ 8 by omega) (n / 256)
  rw [Nat.shiftLeft_eq] at this;rw [←this];omega
 unfold OH;show wrap .u64 ((BitVec.ofInt 64 ((n:Int) / 256*256) ||| BitVec.ofInt 64 ((n:Int) % 256)).toNat:Int)=n;rw [BitVec.toNat_or,e4,e5,e6,Ci (by omega) (by omega)]
theorem OB {w:Int}(k:Nat)(hk:k<8):C1 w k=wrap .u8 (w / 2 ^ (56-8*k)):=by
 unfold C1 Dw;have e:(56-8*(k:Int)).toNat=56-8*k:=by omega
 rw [e,Nat.min_eq_left (by show 56-8*k<=64;omega),Int.fdiv_eq_ediv_of_nonneg _ (Int.le_of_lt (Int.pow_pos (by omega)))]
theorem PD {w:Int}(h0:0<=w)(h1:w<=18446744073709551615):KH (Dp w)=w:=by
 have st:∀(k:Nat) (D:Int),k<8->(2:Int) ^ (56-8*k)=D->0<D->E2 (w / D / 256) (C1 w k)=w / D:=by
  intro k D hk hD hp;rw [OB k hk,hD];exact Alf (Int.ediv_nonneg h0 (Int.le_of_lt hp)) (Int.le_trans (Int.ediv_le_self _ h0) h1)
 have s0:=st 0 72057594037927936 (by omega) (by decide) (by omega)
 have s1:=st 1 281474976710656 (by omega) (by decide) (by omega)
 have s2:=st 2 1099511627776 (by omega) (by decide) (by omega)
 have s3:=st 3 4294967296 (by omega) (by decide) (by omega)
 have s4:=st 4 16777216 (by omega) (by decide) (by omega)
 have s5:=st 5 65536 (by omega) (by decide) (by omega)
 have s6:=st 6 256 (by omega) (by decide) (by omega)
 have s7:=st 7 1 (by omega) (by decide) (by omega)
 rw [show w / 72057594037927936 / 256=0 by omega] at s0
 rw [show w / 281474976710656 / 256=w / 72057594037927936 by omega] at s1
 rw [show w / 1099511627776 / 256=w / 281474976710656 by omega] at s2
 rw [show w / 4294967296 / 256=w / 1099511627776 by omega] at s3
 rw [show w / 16777216 / 256=w / 4294967296 by omega] at s4
 rw [show w / 65536 / 256=w / 16777216 by omega] at s5
 rw [show w / 256 / 256=w / 65536 by omega] at s6
 rw [show w / 1 / 256=w / 256 by omega,show w / 1=w by omega] at s7
 show E2 (E2 (E2 (E2 (E2 (E2 (E2 (E2 0 (C1 w 0)) (C1 w 1)) (C1 w 2)) (C1 w 3)) (C1 w 4)) (C1 w 5)) (C1 w 6)) (C1 w 7)=w;rw [s0,s1,s2,s3,s4,s5,s6,s7]
end
section
open Go.IntKind (wrap)
set_option maxRecDepth 100000
abbrev Q6:FuncId:=104
noncomputable def Fw (fu:Nat)(call:Ai)(a0:Int)(nn:Nat)(y0 y1 y2:Int)(y3 y4:List PV):Option Au:=C9 CB Tryz.prog fu call 104 Tryz.f104 (B5 Tryz.f104) [.sc (.int .u64 a0)] [.r,.r,.r,.l,.r,.l] nn ⟨lk [(0,(.sc (.int .u64 y0))),(2,(.ptr 2 0)),(3,(.ptr 3 0)),(4,(.sc (.int .i64 y1))),(6,(.sc (.int .i64 y2)))],B3 [(2,(.ar false y3)),(3,(.ar false y4))]⟩
noncomputable def Pw (fu:Nat)(call:Ai)(a0:Int)(nn:Nat)(y0 y1:List PV):Option Au:=C9 CB Tryz.prog fu call 104 Tryz.f104 (B5 Tryz.f104) [.sc (.int .u64 a0)] [.r,.r,.r,.r,.r] nn ⟨lk [(2,(.ptr 2 0)),(3,(.ptr 3 0))],B3 [(2,(.ar false y0)),(3,(.ar false y1))]⟩
noncomputable def Py (fu:Nat)(call:Ai)(a0:Int)(nn:Nat)(y0:List PV):Option Au:=C9 CB Tryz.prog fu call 104 Tryz.f104 (B5 Tryz.f104) [.sc (.int .u64 a0)] [.r,.r,.r,.r,.r,.r] nn ⟨lk [(2,(.ptr 2 0))],B3 [(2,(.ar false y0))]⟩
theorem M0 (fu:Nat)(call:Ai)(a0:Int)(nn:Nat)(y0 y1 y2:Int)(y3 y4:List PV):Fw fu call a0 (nn+1) y0 y1 y2 y3 y4=(Bb (decide (y2<16)) (Aa (wrap .i64 (4*y2)) fun x1=>Aa (wrap .i64 (60-x1)) fun x2=>Ap (decide (0<=x2))<|Aa (Dw .u64 y0 x2) fun x3=>Aa (Rw .u64 x3 15) fun x4=>Aa (wrap .i64 x4) fun x5=>Ap (decide (0<=y2)&&decide (y2<18))<|Ap (decide (0+Int.toNat y2*1+1<=y4.length))<|Aa (Bg y4 [.sc (.int .i64 x5)] (0+Int.toNat y2*1)) fun x6=>Ap (decide (0<=y2)&&decide (y2<18))<|Ae .i64 (List.getD x6 (0+Int.toNat y2*1) .top) fun x7=>Aa (wrap .i64 (15-x7)) fun x8=>Aa (wrap .i64 (y1+x8)) fun x9=>Aa (wrap .i64 (y2+1)) fun Cg=>Fw fu call a0 (nn) (y0) x9 Cg (y3) x6) (Aa (wrap .i64 (Int.tdiv y1 16)) fun Cj=>Ap (decide (17<=y4.length))<|Aa (Bg y4 [.sc (.int .i64 Cj)] 16) fun Dd=>Aa (Int.tmod y1 16) fun Dk=>Ap (decide (18<=Dd.length))<|Aa (Bg Dd [.sc (.int .i64 Dk)] 17) fun C6=>Pw fu call a0 (fu) (y3) C6)):=by kernel_rfl
theorem Wb (fu:Nat)(call:Ai)(a0:Int)(nn:Nat)(hnn:0<nn)(y0 y1:List PV):Pw fu call a0 nn y0 y1=(Ae .i64 (List.getD y1 0 .top) fun Du=>Ae .i64 (List.getD y1 1 .top) fun D7=>Ae .i64 (List.getD y1 2 .top) fun Ed=>Ae .i64 (List.getD y1 3 .top) fun Ex=>Ae .i64 (List.getD y1 4 .top) fun Eu=>Ae .i64 (List.getD y1 5 .top) fun E5=>Ae .i64 (List.getD y1 6 .top) fun Hq=>Ae .i64 (List.getD y1 7 .top) fun Gn=>Ae .i64 (List.getD y1 8 .top) fun G3=>Ae .i64 (List.getD y1 9 .top) fun Ds=>Ae .i64 (List.getD y1 10 .top) fun De=>Ae .i64 (List.getD y1 11 .top) fun Fx=>Ae .i64 (List.getD y1 12 .top) fun Hp=>Ae .i64 (List.getD y1 13 .top) fun Es=>Ae .i64 (List.getD y1 14 .top) fun I8=>Ae .i64 (List.getD y1 15 .top) fun Lg=>Ae .i64 (List.getD y1 16 .top) fun Jw=>Ae .i64 (List.getD y1 17 .top) fun J4=>Ap (decide (18<=y0.length))<|Aa (Bg y0 [.sc (.int .i64 Du),.sc (.int .i64 D7),.sc (.int .i64 Ed),.sc (.int .i64 Ex),.sc (.int .i64 Eu),.sc (.int .i64 E5),.sc (.int .i64 Hq),.sc (.int .i64 Gn),.sc (.int .i64 G3),.sc (.int .i64 Ds),.sc (.int .i64 De),.sc (.int .i64 Fx),.sc (.int .i64 Hp),.sc (.int .i64 Es),.sc (.int .i64 I8),.sc (.int .i64 Lg),.sc (.int .i64 Jw),.sc (.int .i64 J4)] 0) fun Ka=>Py fu call a0 (fu) Ka):=by cases nn with|zero=>exact absurd hnn (Nat.lt_irrefl 0)|succ nn=>kernel_rfl
theorem Wo (fu:Nat)(call:Ai)(a0:Int)(nn:Nat)(hnn:0<nn)(y0:List PV):Py fu call a0 nn y0=(Ae .i64 (List.getD y0 0 .top) fun Mo=>Ae .i64 (List.getD y0 1 .top) fun O9=>Ae .i64 (List.getD y0 2 .top) fun Qs=>Ae .i64 (List.getD y0 3 .top) fun Qj=>Ae .i64 (List.getD y0 4 .top) fun Gs=>Ae .i64 (List.getD y0 5 .top) fun H0=>Ae .i64 (List.getD y0 6 .top) fun Sn=>Ae .i64 (List.getD y0 7 .top) fun Y2=>Ae .i64 (List.getD y0 8 .top) fun Lh=>Ae .i64 (List.getD y0 9 .top) fun Tv=>Ae .i64 (List.getD y0 10 .top) fun Tr=>Ae .i64 (List.getD y0 11 .top) fun Tk=>Ae .i64 (List.getD y0 12 .top) fun Sj=>Ae .i64 (List.getD y0 13 .top) fun Xn=>Ae .i64 (List.getD y0 14 .top) fun X3=>Ae .i64 (List.getD y0 15 .top) fun R4=>Ae .i64 (List.getD y0 16 .top) fun Vw=>Ae .i64 (List.getD y0 17 .top) fun Xk=>some (Au.mk [.agg [.sc (.int .i64 Mo),.sc (.int .i64 O9),.sc (.int .i64 Qs),.sc (.int .i64 Qj),.sc (.int .i64 Gs),.sc (.int .i64 H0),.sc (.int .i64 Sn),.sc (.int .i64 Y2),.sc (.int .i64 Lh),.sc (.int .i64 Tv),.sc (.int .i64 Tr),.sc (.int .i64 Tk),.sc (.int .i64 Sj),.sc (.int .i64 Xn),.sc (.int .i64 X3),.sc (.int .i64 R4),.sc (.int .i64 Vw),.sc (.int .i64 Xk)]] [])):=by cases nn with|zero=>exact absurd hnn (Nat.lt_irrefl 0)|succ nn=>kernel_rfl
theorem CV {xs:FuncId->Option (List PV->Option Au)} (fu d:Nat)(a0:Int):Ad (CX xs) Tryz.prog fu (d+1) Q6 [.sc (.int .u64 a0)]=(fun (call:Ai)=>Fw fu call a0 (fu) (a0) 0 0 ([.sc (.int .i64 0),.sc (.int .i64 0),.sc (.int .i64 0),.sc (.int .i64 0),.sc (.int .i64 0),.sc (.int .i64 0),.sc (.int .i64 0),.sc (.int .i64 0),.sc (.int .i64 0),.sc (.int .i64 0),.sc (.int .i64 0),.sc (.int .i64 0),.sc (.int .i64 0),.sc (.int .i64 0),.sc (.int .i64 0),.sc (.int .i64 0),.sc (.int .i64 0),.sc (.int .i64 0)]) ([.sc (.int .i64 0),.sc (.int .i64 0),.sc (.int .i64 0),.sc (.int .i64 0),.sc (.int .i64 0),.sc (.int .i64 0),.sc (.int .i64 0),.sc (.int .i64 0),.sc (.int .i64 0),.sc (.int .i64 0),.sc (.int .i64 0),.sc (.int .i64 0),.sc (.int .i64 0),.sc (.int .i64 0),.sc (.int .i64 0),.sc (.int .i64 0),.sc (.int .i64 0),.sc (.int .i64 0)])) (Ad (CX xs) Tryz.prog fu d):=by kernel_rfl
abbrev Xl:FuncId:=105
noncomputable def Jn (fu:Nat)(call:Ai)(a0 a1:Int)(a2 a3 a4:Int)(nn:Nat)(y0 y1:Int)(y2 y3 y4:Int):Option Au:=C9 CB Tryz.prog fu call 105 Tryz.f105 (B5 Tryz.f105) [.sc (.int .i64 a0),.sc (.int .i64 a1),.sc (.int .i64 a2),.sc (.int .i64 a3),.sc (.int .u64 a4)] [.r,.r,.l,.r,.l] nn ⟨lk [(0,(.sc (.int .i64 y0))),(1,(.sc (.int .i64 y1))),(4,(.sc (.int .u64 y2))),(11,(.sc (.int .i64 y3))),(12,(.sc (.int .i64 y4)))],B3 []⟩
theorem Rl (fu:Nat)(call:Ai)(a0 a1:Int)(a2 a3 a4:Int)(nn:Nat)(y0 y1:Int)(y2 y3 y4:Int):Jn fu call a0 a1 a2 a3 a4 (nn+1) y0 y1 y2 y3 y4=(Bb (decide (y4<y3)) (Aa (wrap .u64 y0) fun x3=>Aa (wrap .u64 y1) fun x4=>Aa (wrap .u64 y4) fun x5=>Ag (call 89 [.lst false 1 4 [.sc (.int .u64 x3),.sc (.int .u64 x4),.sc (.int .u64 x5),.sc (.int .u64 y2)]]) fun x6 x7=>Ac x7<|Ab x6 fun x8 x9=>D0 1 x8 fun Cg Cj=>Ac x9<|Ap (decide (0+Cg*1<=Cj.length))<|Ag (call 73 [.sc (.int .i64 1),.lst false 1 Cg (List.take (Cg*1) (List.drop 0 Cj))]) fun Dd Dk=>Ac Dk<|Ab Dd fun C6 Du=>Ae .u64 C6 fun D7=>Ac Du<|Aa (wrap .i64 (y4+1)) fun Ed=>Jn fu call a0 a1 a2 a3 a4 (nn) (y0) (y1) D7 (y3) Ed) (some (Au.mk [.sc (.int .u64 y2)] []))):=by kernel_rfl
theorem NI {xs:FuncId->Option (List PV->Option Au)} (fu d:Nat)(a0 a1:Int)(a2 a3 a4:Int):Ad (CX xs) Tryz.prog fu (d+1) Xl [.sc (.int .i64 a0),.sc (.int .i64 a1),.sc (.int .i64 a2),.sc (.int .i64 a3),.sc (.int .u64 a4)]=(fun (call:Ai)=>Aa (if 15<a3 then 15 else a3) fun x1=>Aa (if a2<0 then 0 else a2) fun x2=>Jn fu call a0 a1 a2 a3 a4 (fu) (a0) (a1) (a4) x1 x2) (Ad (CX xs) Tryz.prog fu d):=by kernel_rfl
abbrev Pr:FuncId:=110
theorem BQ {xs:FuncId->Option (List PV->Option Au)} (fu d:Nat)(a0 a1_0:Int)(a1_1 a1_2:Int)(Aib Afx:Int)(Afu Ai0:Int)(Aiv Afp:Int)(Ah1 VD:Int)(XJ UK:Int)(Alc Alh:Int)(Aln Ak6 Alm:Int):Ad (CX xs) Tryz.prog fu (d+1) Pr [.sc (.int .i64 a0),.agg [.sc (.int .u64 a1_0),.sc (.int .u64 a1_1),.sc (.int .u64 a1_2),.sc (.int .u64 Aib),.sc (.int .u64 Afx),.sc (.int .u64 Afu),.sc (.int .u64 Ai0),.sc (.int .u64 Aiv),.sc (.int .u64 Afp),.sc (.int .u64 Ah1),.sc (.int .u64 VD),.sc (.int .u64 XJ),.sc (.int .u64 UK),.sc (.int .u64 Alc),.sc (.int .u64 Alh),.sc (.int .u64 Aln),.sc (.int .u64 Ak6),.sc (.int .u64 Alm)]]=(fun (call:Ai)=>Aa (wrap .u64 a0) fun x1=>Ag (call 89 [.lst false 1 19 [.sc (.int .u64 x1),.sc (.int .u64 a1_0),.sc (.int .u64 a1_1),.sc (.int .u64 a1_2),.sc (.int .u64 Aib),.sc (.int .u64 Afx),.sc (.int .u64 Afu),.sc (.int .u64 Ai0),.sc (.int .u64 Aiv),.sc (.int .u64 Afp),.sc (.int .u64 Ah1),.sc (.int .u64 VD),.sc (.int .u64 XJ),.sc (.int .u64 UK),.sc (.int .u64 Alc),.sc (.int .u64 Alh),.sc (.int .u64 Aln),.sc (.int .u64 Ak6),.sc (.int .u64 Alm)]]) fun x2 x3=>Ac x3<|Ab x2 fun x4 x5=>D0 1 x4 fun x6 x7=>Ac x5<|Ap (decide (0+x6*1<=x7.length))<|Ag (call 73 [.sc (.int .i64 2),.lst false 1 x6 (List.take (x6*1) (List.drop 0 x7))]) fun x8 x9=>Ac x9<|Ab x8 fun Cg Cj=>Ae .u64 Cg fun Dd=>Ac Cj<|some (Au.mk [.sc (.int .u64 Dd)] [])) (Ad (CX xs) Tryz.prog fu d):=by kernel_rfl
abbrev P1:FuncId:=81
noncomputable def Ec (fu:Nat)(call:Ai)(a0 a1:Int)(a2n:Nat)(a2:List PV)(nn:Nat)(y0:Int)(y1:Nat)(y2:List PV)(y3 y4:Int)(y5 y6:Int)(y7 y8:Int)(y9 y10:Int)(Jj Nv:Int)(Tf Zh:Int)(Zi Zg:Int)(Zf GQ:Int)(TH QG GS:Int)(y22:List PV):Option Au:=C9 CB Tryz.prog fu call 81 Tryz.f81 (B5 Tryz.f81) [.sc (.int .i64 a0),.sc (.int .u64 a1),.lst false 1 a2n a2] [.r,.r,.r,.l,.r,.l] nn ⟨lk [(0,(.sc (.int .i64 y0))),(2,(.lst false 1 y1 y2)),(8,(.ptr 8 0)),(15,(.agg [(.sc (.int .i64 y3)),(.sc (.int .i64 y4)),(.sc (.int .i64 y5)),(.sc (.int .i64 y6)),(.sc (.int .i64 y7)),(.sc (.int .i64 y8)),(.sc (.int .i64 y9)),(.sc (.int .i64 y10)),(.sc (.int .i64 Jj)),(.sc (.int .i64 Nv)),(.sc (.int .i64 Tf)),(.sc (.int .i64 Zh)),(.sc (.int .i64 Zi)),(.sc (.int .i64 Zg)),(.sc (.int .i64 Zf)),(.sc (.int .i64 GQ)),(.sc (.int .i64 TH)),(.sc (.int .i64 QG))])),(16,(.sc (.int .i64 GS)))],B3 [(8,(.ar false y22))]⟩
noncomputable def O7 (fu:Nat)(call:Ai)(a0 a1:Int)(a2n:Nat)(a2:List PV)(nn:Nat)(y0:Int)(y1:List PV):Option Au:=C9 CB Tryz.prog fu call 81 Tryz.f81 (B5 Tryz.f81) [.sc (.int .i64 a0),.sc (.int .u64 a1),.lst false 1 a2n a2] [.r,.r,.r] nn ⟨lk [(0,(.sc (.int .i64 y0))),(8,(.ptr 8 0))],B3 [(8,(.ar false y1))]⟩
noncomputable def Oy (fu:Nat)(call:Ai)(a0 a1:Int)(a2n:Nat)(a2:List PV)(nn:Nat)(y0 y1:Int):Option Au:=C9 CB Tryz.prog fu call 81 Tryz.f81 (B5 Tryz.f81) [.sc (.int .i64 a0),.sc (.int .u64 a1),.lst false 1 a2n a2] [.r,.r,.r,.r] nn ⟨lk [(6,(.sc (.int .u64 y0))),(7,(.sc (.int .i64 y1)))],B3 []⟩
theorem Mk (fu:Nat)(call:Ai)(a0 a1:Int)(a2n:Nat)(a2:List PV)(nn:Nat)(y0:Int)(y1:Nat)(y2:List PV)(y3 y4:Int)(y5 y6:Int)(y7 y8:Int)(y9 y10:Int)(Jj Nv:Int)(Tf Zh:Int)(Zi Zg:Int)(Zf GQ:Int)(TH QG GS:Int)(y22:List PV):Ec fu call a0 a1 a2n a2 (nn+1) y0 y1 y2 y3 y4 y5 y6 y7 y8 y9 y10 Jj Nv Tf Zh Zi Zg Zf GQ TH QG GS y22=(Bb (decide (GS<18)) (Ap (decide (0<=GS)&&decide (GS<18)&&true)<|Ae .i64 (List.getD [.sc (.int .i64 y3),.sc (.int .i64 y4),.sc (.int .i64 y5),.sc (.int .i64 y6),.sc (.int .i64 y7),.sc (.int .i64 y8),.sc (.int .i64 y9),.sc (.int .i64 y10),.sc (.int .i64 Jj),.sc (.int .i64 Nv),.sc (.int .i64 Tf),.sc (.int .i64 Zh),.sc (.int .i64 Zi),.sc (.int .i64 Zg),.sc (.int .i64 Zf),.sc (.int .i64 GQ),.sc (.int .i64 TH),.sc (.int .i64 QG)] (Int.toNat GS*1) .top) fun CF=>Ap (decide (0<=GS)&&decide (GS<(↑y1:Int)))<|Ae .u64 (List.getD y2 (Int.toNat GS*1) .top) fun Xe=>Ag (call 105 [.sc (.int .i64 y0),.sc (.int .i64 GS),.sc (.int .i64 CF),.sc (.int .i64 15),.sc (.int .u64 Xe)]) fun Tx CD=>Ac CD<|Ab Tx fun Uv Xd=>Ae .u64 Uv fun Wl=>Ac Xd<|Ap (decide (0<=GS)&&decide (GS<18))<|Ap (decide (0+Int.toNat GS*1+1<=y22.length))<|Aa (Bg y22 [.sc (.int .u64 Wl)] (0+Int.toNat GS*1)) fun V6=>Aa (wrap .i64 (GS+1)) fun Xc=>Ec fu call a0 a1 a2n a2 (nn) (y0) (y1) (y2) (y3) (y4) (y5) (y6) (y7) (y8) (y9) (y10) (Jj) (Nv) (Tf) (Zh) (Zi) (Zg) (Zf) (GQ) (TH) (QG) Xc V6) (O7 fu call a0 a1 a2n a2 (fu) (y0) (y22))):=by kernel_rfl
theorem Ux (fu:Nat)(call:Ai)(a0 a1:Int)(a2n:Nat)(a2:List PV)(nn:Nat)(hnn:0<nn)(y0:Int)(y1:List PV):O7 fu call a0 a1 a2n a2 nn y0 y1=(Ae .u64 (List.getD y1 0 .top) fun Xh=>Ae .u64 (List.getD y1 1 .top) fun Ze=>Ae .u64 (List.getD y1 2 .top) fun Yy=>Ae .u64 (List.getD y1 3 .top) fun CE=>Ae .u64 (List.getD y1 4 .top) fun GW=>Ae .u64 (List.getD y1 5 .top) fun DQ=>Ae .u64 (List.getD y1 6 .top) fun ES=>Ae .u64 (List.getD y1 7 .top) fun HE=>Ae .u64 (List.getD y1 8 .top) fun CH=>Ae .u64 (List.getD y1 9 .top) fun V4=>Ae .u64 (List.getD y1 10 .top) fun MB=>Ae .u64 (List.getD y1 11 .top) fun MD=>Ae .u64 (List.getD y1 12 .top) fun XP=>Ae .u64 (List.getD y1 13 .top) fun WR=>Ae .u64 (List.getD y1 14 .top) fun TB=>Ae .u64 (List.getD y1 15 .top) fun TC=>Ae .u64 (List.getD y1 16 .top) fun TN=>Ae .u64 (List.getD y1 17 .top) fun TL=>Ag (call 110 [.sc (.int .i64 y0),.agg [.sc (.int .u64 Xh),.sc (.int .u64 Ze),.sc (.int .u64 Yy),.sc (.int .u64 CE),.sc (.int .u64 GW),.sc (.int .u64 DQ),.sc (.int .u64 ES),.sc (.int .u64 HE),.sc (.int .u64 CH),.sc (.int .u64 V4),.sc (.int .u64 MB),.sc (.int .u64 MD),.sc (.int .u64 XP),.sc (.int .u64 WR),.sc (.int .u64 TB),.sc (.int .u64 TC),.sc (.int .u64 TN),.sc (.int .u64 TL)]]) fun TJ TK=>Ac TK<|Ab TJ fun HA ON=>Ae .u64 HA fun UD=>Ac ON<|Oy fu call a0 a1 a2n a2 (fu) UD 0):=by cases nn with|zero=>exact absurd hnn (Nat.lt_irrefl 0)|succ nn=>kernel_rfl
theorem Ul (fu:Nat)(call:Ai)(a0 a1:Int)(a2n:Nat)(a2:List PV)(nn:Nat)(hnn:0<nn)(y0 y1:Int):Oy fu call a0 a1 a2n a2 nn y0 y1=(some (Au.mk [.sc (.int .u64 y0),.sc (.int .i64 y1)] [])):=by cases nn with|zero=>exact absurd hnn (Nat.lt_irrefl 0)|succ nn=>kernel_rfl
theorem AX {xs:FuncId->Option (List PV->Option Au)} (fu d:Nat)(a0 a1:Int)(a2n:Nat)(a2:List PV):Ad (CX xs) Tryz.prog fu (d+1) P1 [.sc (.int .i64 a0),.sc (.int .u64 a1),.lst false 1 a2n a2]=(fun (call:Ai)=>Bb ((↑a2n:Int) != 18) (some (Au.mk [.sc (.int .u64 0),.sc (.int .i64 4)] [])) (Ag (call 104 [.sc (.int .u64 a1)]) fun x1 x2=>Ac x2<|Ab x1 fun x3 x4=>Dm x3 fun x5=>Ab x5 fun x6 x7=>Ae .i64 x6 fun x8=>Ab x7 fun x9 Cg=>Ae .i64 x9 fun Cj=>Ab Cg fun Dd Dk=>Ae .i64 Dd fun C6=>Ab Dk fun Du D7=>Ae .i64 Du fun Ed=>Ab D7 fun Ex Eu=>Ae .i64 Ex fun E5=>Ab Eu fun Hq Gn=>Ae .i64 Hq fun G3=>Ab Gn fun Ds De=>Ae .i64 Ds fun Fx=>Ab De fun Hp Es=>Ae .i64 Hp fun I8=>Ab Es fun Lg Jw=>Ae .i64 Lg fun J4=>Ab Jw fun Ka Mo=>Ae .i64 Ka fun O9=>Ab Mo fun Qs Qj=>Ae .i64 Qs fun Gs=>Ab Qj fun H0 Sn=>Ae .i64 H0 fun Y2=>Ab Sn fun Lh Tv=>Ae .i64 Lh fun Tr=>Ab Tv fun Tk Sj=>Ae .i64 Tk fun Xn=>Ab Sj fun X3 R4=>Ae .i64 X3 fun Vw=>Ab R4 fun Xk Wt=>Ae .i64 Xk fun Om=>Ab Wt fun Xr CG=>Ae .i64 Xr fun BC=>Ab CG fun CI Tw=>Ae .i64 CI fun Yo=>Ac Tw<|Ac x4<|Ec fu call a0 a1 a2n a2 (fu) (a0) (a2n) (a2) x8 Cj C6 Ed E5 G3 Fx I8 J4 O9 Gs Y2 Tr Xn Vw Om BC Yo 0 ([.sc (.int .u64 0),.sc (.int .u64 0),.sc (.int .u64 0),.sc (.int .u64 0),.sc (.int .u64 0),.sc (.int .u64 0),.sc (.int .u64 0),.sc (.int .u64 0),.sc (.int .u64 0),.sc (.int .u64 0),.sc (.int .u64 0),.sc (.int .u64 0),.sc (.int .u64 0),.sc (.int .u64 0),.sc (.int .u64 0),.sc (.int .u64 0),.sc (.int .u64 0),.sc (.int .u64 0)]))) (Ad (CX xs) Tryz.prog fu d):=by kernel_rfl
abbrev Ra:FuncId:=106
theorem CR {xs:FuncId->Option (List PV->Option Au)} (fu d:Nat)(a0 a1 a2:Int):Ad (CX xs) Tryz.prog fu (d+1) Ra [.sc (.int .u64 a0),.sc (.int .i64 a1),.sc (.int .i64 a2)]=(fun (call:Ai)=>Aa (wrap .u64 a1) fun x1=>Aa (wrap .u64 a2) fun x2=>Ag (call 89 [.lst false 1 2 [.sc (.int .u64 x1),.sc (.int .u64 x2)]]) fun x3 x4=>Ac x4<|Ab x3 fun x5 x6=>D0 1 x5 fun x7 x8=>Ac x6<|Ap (decide (0+x7*1<=x8.length))<|Ag (call 123 [.sc (.int .u64 a0),.sc (.int .i64 1),.lst false 1 x7 (List.take (x7*1) (List.drop 0 x8))]) fun x9 Cg=>Ac Cg<|Ab x9 fun Cj Dd=>Ae .u64 Cj fun Dk=>Ac Dd<|some (Au.mk [.sc (.int .u64 Dk)] [])) (Ad (CX xs) Tryz.prog fu d):=by kernel_rfl
abbrev Ko:FuncId:=108
noncomputable def Eo (fu:Nat)(call:Ai)(a0 a1:Int)(nn:Nat)(y0 y1 y2:Int)(y3:List PV):Option Au:=C9 CB Tryz.prog fu call 108 Tryz.f108 (B5 Tryz.f108) [.sc (.int .u64 a0),.sc (.int .i64 a1)] [.r,.r,.l,.r,.l] nn ⟨lk [(0,(.sc (.int .u64 y0))),(1,(.sc (.int .i64 y1))),(5,(.ptr 5 0)),(7,(.sc (.int .i64 y2)))],B3 [(5,(.ar false y3))]⟩
noncomputable def Qb (fu:Nat)(call:Ai)(a0 a1:Int)(nn:Nat)(y0:Int)(y1:List PV):Option Au:=C9 CB Tryz.prog fu call 108 Tryz.f108 (B5 Tryz.f108) [.sc (.int .u64 a0),.sc (.int .i64 a1)] [.r,.r] nn ⟨lk [(1,(.sc (.int .i64 y0))),(5,(.ptr 5 0))],B3 [(5,(.ar false y1))]⟩
noncomputable def Pq (fu:Nat)(call:Ai)(a0 a1:Int)(nn:Nat)(y0:Int):Option Au:=C9 CB Tryz.prog fu call 108 Tryz.f108 (B5 Tryz.f108) [.sc (.int .u64 a0),.sc (.int .i64 a1)] [.r,.r,.r] nn ⟨lk [(4,(.sc (.int .u64 y0)))],B3 []⟩
theorem M5 (fu:Nat)(call:Ai)(a0 a1:Int)(nn:Nat)(y0 y1 y2:Int)(y3:List PV):Eo fu call a0 a1 (nn+1) y0 y1 y2 y3=(Bb (decide (y2<18)) (Ag (call 106 [.sc (.int .u64 y0),.sc (.int .i64 y1),.sc (.int .i64 y2)]) fun x1 x2=>Ac x2<|Ab x1 fun x3 x4=>Ae .u64 x3 fun x5=>Ac x4<|Ag (call 105 [.sc (.int .i64 y1),.sc (.int .i64 y2),.sc (.int .i64 0),.sc (.int .i64 15),.sc (.int .u64 x5)]) fun x6 x7=>Ac x7<|Ab x6 fun x8 x9=>Ae .u64 x8 fun Cg=>Ac x9<|Ap (decide (0<=y2)&&decide (y2<18))<|Ap (decide (0+Int.toNat y2*1+1<=y3.length))<|Aa (Bg y3 [.sc (.int .u64 Cg)] (0+Int.toNat y2*1)) fun Cj=>Aa (wrap .i64 (y2+1)) fun Dd=>Eo fu call a0 a1 (nn) (y0) (y1) Dd Cj) (Qb fu call a0 a1 (fu) (y1) (y3))):=by kernel_rfl
theorem W0 (fu:Nat)(call:Ai)(a0 a1:Int)(nn:Nat)(hnn:0<nn)(y0:Int)(y1:List PV):Qb fu call a0 a1 nn y0 y1=(Ae .u64 (List.getD y1 0 .top) fun Dk=>Ae .u64 (List.getD y1 1 .top) fun C6=>Ae .u64 (List.getD y1 2 .top) fun Du=>Ae .u64 (List.getD y1 3 .top) fun D7=>Ae .u64 (List.getD y1 4 .top) fun Ed=>Ae .u64 (List.getD y1 5 .top) fun Ex=>Ae .u64 (List.getD y1 6 .top) fun Eu=>Ae .u64 (List.getD y1 7 .top) fun E5=>Ae .u64 (List.getD y1 8 .top) fun Hq=>Ae .u64 (List.getD y1 9 .top) fun Gn=>Ae .u64 (List.getD y1 10 .top) fun G3=>Ae .u64 (List.getD y1 11 .top) fun Ds=>Ae .u64 (List.getD y1 12 .top) fun De=>Ae .u64 (List.getD y1 13 .top) fun Fx=>Ae .u64 (List.getD y1 14 .top) fun Hp=>Ae .u64 (List.getD y1 15 .top) fun Es=>Ae .u64 (List.getD y1 16 .top) fun I8=>Ae .u64 (List.getD y1 17 .top) fun Lg=>Ag (call 110 [.sc (.int .i64 y0),.agg [.sc (.int .u64 Dk),.sc (.int .u64 C6),.sc (.int .u64 Du),.sc (.int .u64 D7),.sc (.int .u64 Ed),.sc (.int .u64 Ex),.sc (.int .u64 Eu),.sc (.int .u64 E5),.sc (.int .u64 Hq),.sc (.int .u64 Gn),.sc (.int .u64 G3),.sc (.int .u64 Ds),.sc (.int .u64 De),.sc (.int .u64 Fx),.sc (.int .u64 Hp),.sc (.int .u64 Es),.sc (.int .u64 I8),.sc (.int .u64 Lg)]]) fun Jw J4=>Ac J4<|Ab Jw fun Ka Mo=>Ae .u64 Ka fun O9=>Ac Mo<|Pq fu call a0 a1 (fu) O9):=by cases nn with|zero=>exact absurd hnn (Nat.lt_irrefl 0)|succ nn=>kernel_rfl
theorem Wp (fu:Nat)(call:Ai)(a0 a1:Int)(nn:Nat)(hnn:0<nn)(y0:Int):Pq fu call a0 a1 nn y0=(some (Au.mk [.sc (.int .u64 y0)] [])):=by cases nn with|zero=>exact absurd hnn (Nat.lt_irrefl 0)|succ nn=>kernel_rfl
theorem CZ {xs:FuncId->Option (List PV->Option Au)} (fu d:Nat)(a0 a1:Int):Ad (CX xs) Tryz.prog fu (d+1) Ko [.sc (.int .u64 a0),.sc (.int .i64 a1)]=(fun (call:Ai)=>Eo fu call a0 a1 (fu) (a0) (a1) 0 ([.sc (.int .u64 0),.sc (.int .u64 0),.sc (.int .u64 0),.sc (.int .u64 0),.sc (.int .u64 0),.sc (.int .u64 0),.sc (.int .u64 0),.sc (.int .u64 0),.sc (.int .u64 0),.sc (.int .u64 0),.sc (.int .u64 0),.sc (.int .u64 0),.sc (.int .u64 0),.sc (.int .u64 0),.sc (.int .u64 0),.sc (.int .u64 0),.sc (.int .u64 0),.sc (.int .u64 0)])) (Ad (CX xs) Tryz.prog fu d):=by kernel_rfl
abbrev Pb:FuncId:=76
noncomputable def Ic (fu:Nat)(call:Ai)(a0 a1 a2:Int)(nn:Nat)(y0 y1:Int)(y2 y3:Int)(y4 y5:Int)(y6 y7:Int)(y8 y9:Int)(y10 Jj:Int)(Nv Tf:Int)(Zh Zi:Int)(Zg Zf:Int)(GQ TH QG:Int)(GS:List PV):Option Au:=C9 CB Tryz.prog fu call 76 Tryz.f76 (B5 Tryz.f76) [.sc (.int .u64 a0),.sc (.int .i64 a1),.sc (.int .u64 a2)] [.r,.r,.l,.r,.l] nn ⟨lk [(0,(.sc (.int .u64 y0))),(1,(.sc (.int .i64 y1))),(7,(.ptr 7 0)),(11,(.agg [(.sc (.int .i64 y2)),(.sc (.int .i64 y3)),(.sc (.int .i64 y4)),(.sc (.int .i64 y5)),(.sc (.int .i64 y6)),(.sc (.int .i64 y7)),(.sc (.int .i64 y8)),(.sc (.int .i64 y9)),(.sc (.int .i64 y10)),(.sc (.int .i64 Jj)),(.sc (.int .i64 Nv)),(.sc (.int .i64 Tf)),(.sc (.int .i64 Zh)),(.sc (.int .i64 Zi)),(.sc (.int .i64 Zg)),(.sc (.int .i64 Zf)),(.sc (.int .i64 GQ)),(.sc (.int .i64 TH))])),(12,(.sc (.int .i64 QG)))],B3 [(7,(.ar false GS))]⟩
theorem P6 (fu:Nat)(call:Ai)(a0 a1 a2:Int)(nn:Nat)(y0 y1:Int)(y2 y3:Int)(y4 y5:Int)(y6 y7:Int)(y8 y9:Int)(y10 Jj:Int)(Nv Tf:Int)(Zh Zi:Int)(Zg Zf:Int)(GQ TH QG:Int)(GS:List PV):Ic fu call a0 a1 a2 (nn+1) y0 y1 y2 y3 y4 y5 y6 y7 y8 y9 y10 Jj Nv Tf Zh Zi Zg Zf GQ TH QG GS=(Bb (decide (QG<18)) (Ap (decide (0<=QG)&&decide (QG<18)&&true)<|Ae .i64 (List.getD [.sc (.int .i64 y2),.sc (.int .i64 y3),.sc (.int .i64 y4),.sc (.int .i64 y5),.sc (.int .i64 y6),.sc (.int .i64 y7),.sc (.int .i64 y8),.sc (.int .i64 y9),.sc (.int .i64 y10),.sc (.int .i64 Jj),.sc (.int .i64 Nv),.sc (.int .i64 Tf),.sc (.int .i64 Zh),.sc (.int .i64 Zi),.sc (.int .i64 Zg),.sc (.int .i64 Zf),.sc (.int .i64 GQ),.sc (.int .i64 TH)] (Int.toNat QG*1) .top) fun CF=>Ag (call 106 [.sc (.int .u64 y0),.sc (.int .i64 y1),.sc (.int .i64 QG)]) fun Xe Tx=>Ac Tx<|Ab Xe fun CD Uv=>Ae .u64 CD fun Xd=>Ac Uv<|Ag (call 105 [.sc (.int .i64 y1),.sc (.int .i64 QG),.sc (.int .i64 0),.sc (.int .i64 CF),.sc (.int .u64 Xd)]) fun Wl V6=>Ac V6<|Ab Wl fun Xc Xh=>Ae .u64 Xc fun Ze=>Ac Xh<|Ap (decide (0<=QG)&&decide (QG<18))<|Ap (decide (0+Int.toNat QG*1+1<=GS.length))<|Aa (Bg GS [.sc (.int .u64 Ze)] (0+Int.toNat QG*1)) fun Yy=>Aa (wrap .i64 (QG+1)) fun CE=>Ic fu call a0 a1 a2 (nn) (y0) (y1) (y2) (y3) (y4) (y5) (y6) (y7) (y8) (y9) (y10) (Jj) (Nv) (Tf) (Zh) (Zi) (Zg) (Zf) (GQ) (TH) CE Yy) (Ap (decide (18<=GS.length))<|Ap (decide (18<=GS.length))<|some (Au.mk [.own 1 18 (List.take 18 GS)] []))):=by kernel_rfl
theorem KZ {xs:FuncId->Option (List PV->Option Au)} (fu d:Nat)(a0 a1 a2:Int):Ad (CX xs) Tryz.prog fu (d+1) Pb [.sc (.int .u64 a0),.sc (.int .i64 a1),.sc (.int .u64 a2)]=(fun (call:Ai)=>Ag (call 104 [.sc (.int .u64 a2)]) fun x1 x2=>Ac x2<|Ab x1 fun x3 x4=>Dm x3 fun x5=>Ab x5 fun x6 x7=>Ae .i64 x6 fun x8=>Ab x7 fun x9 Cg=>Ae .i64 x9 fun Cj=>Ab Cg fun Dd Dk=>Ae .i64 Dd fun C6=>Ab Dk fun Du D7=>Ae .i64 Du fun Ed=>Ab D7 fun Ex Eu=>Ae .i64 Ex fun E5=>Ab Eu fun Hq Gn=>Ae .i64 Hq fun G3=>Ab Gn fun Ds De=>Ae .i64 Ds fun Fx=>Ab De fun Hp Es=>Ae .i64 Hp fun I8=>Ab Es fun Lg Jw=>Ae .i64 Lg fun J4=>Ab Jw fun Ka Mo=>Ae .i64 Ka fun O9=>Ab Mo fun Qs Qj=>Ae .i64 Qs fun Gs=>Ab Qj fun H0 Sn=>Ae .i64 H0 fun Y2=>Ab Sn fun Lh Tv=>Ae .i64 Lh fun Tr=>Ab Tv fun Tk Sj=>Ae .i64 Tk fun Xn=>Ab Sj fun X3 R4=>Ae .i64 X3 fun Vw=>Ab R4 fun Xk Wt=>Ae .i64 Xk fun Om=>Ab Wt fun Xr CG=>Ae .i64 Xr fun BC=>Ab CG fun CI Tw=>Ae .i64 CI fun Yo=>Ac Tw<|Ac x4<|Ic fu call a0 a1 a2 (fu) (a0) (a1) x8 Cj C6 Ed E5 G3 Fx I8 J4 O9 Gs Y2 Tr Xn Vw Om BC Yo 0 ([.sc (.int .u64 0),.sc (.int .u64 0),.sc (.int .u64 0),.sc (.int .u64 0),.sc (.int .u64 0),.sc (.int .u64 0),.sc (.int .u64 0),.sc (.int .u64 0),.sc (.int .u64 0),.sc (.int .u64 0),.sc (.int .u64 0),.sc (.int .u64 0),.sc (.int .u64 0),.sc (.int .u64 0),.sc (.int .u64 0),.sc (.int .u64 0),.sc (.int .u64 0),.sc (.int .u64 0)])) (Ad (CX xs) Tryz.prog fu d):=by kernel_rfl
abbrev Jq:FuncId:=74
theorem JP {xs:FuncId->Option (List PV->Option Au)} (fu d:Nat)(a0:Int):Ad (CX xs) Tryz.prog fu (d+1) Jq [.sc (.int .i64 a0)]=(fun (call:Ai)=>Bb (decide (a0<0)) (some (Au.mk [.sc (.bool true)] [])) (some (Au.mk [.sc (.bool (decide (a0>4)))] []))) (Ad (CX xs) Tryz.prog fu d):=by kernel_rfl
abbrev G6:FuncId:=75
theorem Zt {xs:FuncId->Option (List PV->Option Au)} (fu d:Nat)(a0 a1:Int):Ad (CX xs) Tryz.prog fu (d+1) G6 [.sc (.int .i64 a0),.sc (.int .i64 a1)]=(fun (call:Ai)=>Bb (decide (a0<0)) (some (Au.mk [.sc (.bool true)] [])) (Ap (decide (0<=a1))<|Aa (Gm .i64 1 a1) fun x1=>some (Au.mk [.sc (.bool (decide (a0>=x1)))] []))) (Ad (CX xs) Tryz.prog fu d):=by kernel_rfl
abbrev Td:FuncId:=92
noncomputable def Gf (fu:Nat)(call:Ai)(a0n:Nat)(a0:List PV)(nn y0:Nat)(y1:List PV)(y2:Nat)(y3 y4:Int)(y5:List PV):Option Au:=C9 CB Tryz.prog fu call 92 Tryz.f92 (B5 Tryz.f92) [.lst false 1 a0n a0] [.r,.r,.l,.r,.l] nn ⟨lk [(0,(.lst false 1 y0 y1)),(3,(.view 3 1 0 y2)),(12,(.sc (.int .i64 y3))),(13,(.sc (.int .i64 y4)))],B3 [(3,(.ar false y5))]⟩
noncomputable def Hr (fu:Nat)(call:Ai)(a0n:Nat)(a0:List PV)(m0 nn y0:Nat)(y1:List PV)(y2:Nat)(y3 y4 y5:Int)(y6:Nat)(y7:List PV)(y8 y9:Int)(y10:List PV):Option Au:=C9 CB Tryz.prog fu call 92 Tryz.f92 (B5 Tryz.f92) [.lst false 1 a0n a0] [.r,.r,.l,.r,.l,.i m0,.r,.r,.l,.l,.r,.r,.l] nn ⟨lk [(0,(.lst false 1 y0 y1)),(3,(.view 3 1 0 y2)),(4,(.sc (.int .i64 y3))),(12,(.sc (.int .i64 y4))),(13,(.sc (.int .i64 y5))),(22,(.lst false 1 y6 y7)),(23,(.sc (.int .i64 y8))),(24,(.sc (.int .i64 y9)))],B3 [(3,(.ar false y10))]⟩
theorem O1 (fu:Nat)(call:Ai)(a0n:Nat)(a0:List PV)(nn y0:Nat)(y1:List PV)(y2:Nat)(y3 y4:Int)(y5:List PV):Gf fu call a0n a0 (nn+1) y0 y1 y2 y3 y4 y5=(Bb (decide (y4<y3)) (Aa (wrap .i64 (8*y4)) fun x2=>Aa (wrap .i64 (8*y4)) fun x3=>Aa (wrap .i64 (x3+8)) fun x4=>Ap (decide (0<=x2))<|Ap (decide (0<=x4))<|Ap (decide (Int.toNat x2<=Int.toNat x4)&&decide (Int.toNat x4<=y0))<|Aa (Int.toNat x4-Int.toNat x2) fun x5=>Aa (List.take (x5*1) (List.drop (Int.toNat x2*1) y1)) fun x6=>Hr fu call a0n a0 nn (fu) (y0) (y1) (y2) (y4) (y3) (y4) x5 x6 ((↑x5:Int)) 0 (y5)) (Ap (decide (y2*1<=y5.length))<|some (Au.mk [.own 1 y2 (List.take (y2*1) y5)] []))):=by kernel_rfl
theorem Od (fu:Nat)(call:Ai)(a0n:Nat)(a0:List PV)(m0 nn y0:Nat)(y1:List PV)(y2:Nat)(y3 y4 y5:Int)(y6:Nat)(y7:List PV)(y8 y9:Int)(y10:List PV):Hr fu call a0n a0 m0 (nn+1) y0 y1 y2 y3 y4 y5 y6 y7 y8 y9 y10=(Bb (decide (y9<y8)) (Ap (decide (0<=y9)&&decide (y9<(↑y6:Int)))<|Ae .u8 (List.getD y7 (Int.toNat y9*1) .top) fun x7=>Ap (decide (0<=y3)&&decide (y3<(↑y2:Int)))<|Ae .u64 (List.getD y10 (0+Int.toNat y3*1) .top) fun x8=>Aa (Gm .u64 x8 8) fun x9=>Aa (wrap .u64 x7) fun Cg=>Aa (OH .u64 x9 Cg) fun Cj=>Ap (decide (0<=y3)&&decide (y3<(↑y2:Int)))<|Ap (decide (0+Int.toNat y3*1+1<=y10.length))<|Aa (Bg y10 [.sc (.int .u64 Cj)] (0+Int.toNat y3*1)) fun Dd=>Aa (wrap .i64 (y9+1)) fun Dk=>Hr fu call a0n a0 m0 (nn) (y0) (y1) (y2) (y3) (y4) (y5) (y6) (y7) (y8) Dk Dd) (Aa (wrap .i64 (y5+1)) fun C6=>Gf fu call a0n a0 (m0) (y0) (y1) (y2) (y4) C6 (y10))):=by kernel_rfl
theorem GR {xs:FuncId->Option (List PV->Option Au)} (fu d a0n:Nat)(a0:List PV):Ad (CX xs) Tryz.prog fu (d+1) Td [.lst false 1 a0n a0]=(fun (call:Ai)=>Aa (wrap .i64 (Int.tdiv (↑a0n:Int) 8)) fun x1=>Ap (decide (0<=x1)&&decide (x1<=x1)&&decide (x1*8<=1099511627776)&&decide (x1<=1099511627776))<|Gf fu call a0n a0 (fu) (a0n) (a0) x1.toNat ((↑x1.toNat:Int)) 0 (Qy x1.toNat [.sc (.int .u64 0)])) (Ad (CX xs) Tryz.prog fu d):=by kernel_rfl
abbrev Kz:FuncId:=82
theorem DN {xs:FuncId->Option (List PV->Option Au)} (fu d:Nat)(a0 a1 a2:Int):Ad (CX xs) Tryz.prog fu (d+1) Kz [.sc (.int .i64 a0),.sc (.int .u64 a1),.sc (.int .u64 a2)]=(fun (call:Ai)=>Aa (wrap .u64 a0) fun x1=>Ag (call 89 [.lst false 1 3 [.sc (.int .u64 x1),.sc (.int .u64 a1),.sc (.int .u64 a2)]]) fun x2 x3=>Ac x3<|Ab x2 fun x4 x5=>D0 1 x4 fun x6 x7=>Ac x5<|Ap (decide (0+x6*1<=x7.length))<|Ag (call 73 [.sc (.int .i64 3),.lst false 1 x6 (List.take (x6*1) (List.drop 0 x7))]) fun x8 x9=>Ac x9<|Ab x8 fun Cg Cj=>Ae .u64 Cg fun Dd=>Ac Cj<|some (Au.mk [.sc (.int .u64 Dd)] [])) (Ad (CX xs) Tryz.prog fu d):=by kernel_rfl
abbrev Nb:FuncId:=66
theorem Wh {xs:FuncId->Option (List PV->Option Au)} (fu d:Nat)(a0_0 a0_1:Int):Ad (CX xs) Tryz.prog fu (d+1) Nb [.agg [.sc (.int .i64 a0_0),.sc (.int .u64 a0_1)]]=(fun (call:Ai)=>Ag (call 74 [.sc (.int .i64 a0_0)]) fun x1 x2=>Ac x2<|Ab x1 fun x3 x4=>Bm x3 fun x5=>Ac x4<|Bb x5 (some (Au.mk [.own 1 0 [],.sc (.int .i64 9)] [])) (Aa (wrap .u8 a0_0) fun x6=>Ag (call 89 [.lst false 1 1 [.sc (.int .u64 a0_1)]]) fun x7 x8=>Ac x8<|Ab x7 fun x9 Cg=>D0 1 x9 fun Cj Dd=>Ac Cg<|Ap (decide (0+Cj*1<=Dd.length))<|Ap (decide (List.length (List.take (Cj*1) (List.drop 0 Dd))=Cj*1)&&decide ((1+Cj)*1<=1099511627776)&&decide (1+Cj<=1099511627776))<|Aa (1+Cj) fun Dk=>Aa ([.sc (.int .u8 x6)]++List.take (Cj*1) (List.drop 0 Dd)) fun C6=>Ap (decide (Dk*1<=C6.length))<|some (Au.mk [.own 1 Dk (List.take (Dk*1) C6),.sc (.int .i64 0)] []))) (Ad (CX xs) Tryz.prog fu d):=by kernel_rfl
abbrev Nc:FuncId:=53
theorem Wj {xs:FuncId->Option (List PV->Option Au)} (fu d a0n:Nat)(a0:List PV):Ad (CX xs) Tryz.prog fu (d+1) Nc [.lst false 1 a0n a0]=(fun (call:Ai)=>Bb ((↑a0n:Int) != 9) (some (Au.mk [.agg [.sc (.int .i64 0),.sc (.int .u64 0)],.sc (.int .i64 2)] [])) (Ap (decide (0<(↑a0n:Int)))<|Ae .u8 (List.getD a0 0 .top) fun x1=>Aa (wrap .i64 x1) fun x2=>Ag (call 74 [.sc (.int .i64 x2)]) fun x3 x4=>Ac x4<|Ab x3 fun x5 x6=>Bm x5 fun x7=>Ac x6<|Bb x7 (some (Au.mk [.agg [.sc (.int .i64 0),.sc (.int .u64 0)],.sc (.int .i64 2)] [])) (Ap (decide (0<(↑a0n:Int)))<|Ae .u8 (List.getD a0 0 .top) fun x8=>Aa (wrap .i64 x8) fun x9=>Ap (decide (1<=a0n)&&decide (a0n<=a0n))<|Aa (a0n-1) fun Cg=>Aa (List.take (Cg*1) (List.drop 1 a0)) fun Cj=>Ag (call 92 [.lst false 1 Cg Cj]) fun Dd Dk=>Ac Dk<|Ab Dd fun C6 Du=>D0 1 C6 fun D7 Ed=>Ac Du<|Ap (decide (0<(↑D7:Int)))<|Ae .u64 (List.getD Ed 0 .top) fun Ex=>some (Au.mk [.agg [.sc (.int .i64 x9),.sc (.int .u64 Ex)],.sc (.int .i64 0)] [])))) (Ad (CX xs) Tryz.prog fu d):=by kernel_rfl
abbrev Hx:FuncId:=50
theorem Pi {xs:FuncId->Option (List PV->Option Au)} (fu d:Nat)(a0_0:Int)(Xg:Nat)(a0_1:List PV)(D5:Nat)(a0_2:List PV):Ad (CX xs) Tryz.prog fu (d+1) Hx [.agg [.sc (.int .i64 a0_0),.lst false 1 Xg a0_1,.lst false 1 D5 a0_2]]=(fun (call:Ai)=>Ag (call 74 [.sc (.int .i64 (↑D5:Int))]) fun x1 x2=>Ac x2<|Ab x1 fun x3 x4=>Bm x3 fun x5=>Ac x4<|Bb x5 (some (Au.mk [.own 1 0 [],.sc (.int .i64 9)] [])) (Ag (call 75 [.sc (.int .i64 a0_0),.sc (.int .i64 (↑D5:Int))]) fun x6 x7=>Ac x7<|Ab x6 fun x8 x9=>Bm x8 fun Cg=>Ac x9<|Bb Cg (some (Au.mk [.own 1 0 [],.sc (.int .i64 9)] [])) (Bb ((↑Xg:Int) != 18) (some (Au.mk [.own 1 0 [],.sc (.int .i64 4)] [])) (Aa (wrap .u8 a0_0) fun Cj=>Aa (wrap .u8 (↑D5:Int)) fun Dd=>Ag (call 89 [.lst false 1 Xg a0_1]) fun Dk C6=>Ac C6<|Ab Dk fun Du D7=>D0 1 Du fun Ed Ex=>Ac D7<|Ap (decide (0+Ed*1<=Ex.length))<|Ap (decide (List.length (List.take (Ed*1) (List.drop 0 Ex))=Ed*1)&&decide ((2+Ed)*1<=1099511627776)&&decide (2+Ed<=1099511627776))<|Aa (2+Ed) fun Eu=>Aa ([.sc (.int .u8 Cj),.sc (.int .u8 Dd)]++List.take (Ed*1) (List.drop 0 Ex)) fun E5=>Ag (call 89 [.lst false 1 D5 a0_2]) fun Hq Gn=>Ac Gn<|Ab Hq fun G3 Ds=>D0 1 G3 fun De Fx=>Ac Ds<|Ap (decide (0+De*1<=Fx.length))<|Ap (decide (Eu*1<=E5.length)&&decide (List.length (List.take (De*1) (List.drop 0 Fx))=De*1)&&decide ((Eu+De)*1<=1099511627776)&&decide (Eu+De<=1099511627776))<|Aa (Eu+De) fun Hp=>Aa (List.take (Eu*1) E5++List.take (De*1) (List.drop 0 Fx)) fun Es=>Ap (decide (Hp*1<=Es.length))<|some (Au.mk [.own 1 Hp (List.take (Hp*1) Es),.sc (.int .i64 0)] []))))) (Ad (CX xs) Tryz.prog fu d):=by kernel_rfl
abbrev Hy:FuncId:=54
theorem Pn {xs:FuncId->Option (List PV->Option Au)} (fu d a0n:Nat)(a0:List PV):Ad (CX xs) Tryz.prog fu (d+1) Hy [.lst false 1 a0n a0]=(fun (call:Ai)=>Bb (decide ((↑a0n:Int)<2)) (some (Au.mk [.agg [.sc (.int .i64 0),.own 1 0 [],.own 1 0 []],.sc (.int .i64 2)] [])) (Ap (decide (0<(↑a0n:Int)))<|Ae .u8 (List.getD a0 0 .top) fun x1=>Aa (wrap .i64 x1) fun x2=>Ap (decide (1<(↑a0n:Int)))<|Ae .u8 (List.getD a0 1 .top) fun x3=>Aa (wrap .i64 x3) fun x4=>Ag (call 74 [.sc (.int .i64 x4)]) fun x5 x6=>Ac x6<|Ab x5 fun x7 x8=>Bm x7 fun x9=>Ac x8<|Bb x9 (some (Au.mk [.agg [.sc (.int .i64 0),.own 1 0 [],.own 1 0 []],.sc (.int .i64 2)] [])) (Ag (call 75 [.sc (.int .i64 x2),.sc (.int .i64 x4)]) fun Cg Cj=>Ac Cj<|Ab Cg fun Dd Dk=>Bm Dd fun C6=>Ac Dk<|Bb C6 (some (Au.mk [.agg [.sc (.int .i64 0),.own 1 0 [],.own 1 0 []],.sc (.int .i64 2)] [])) (Aa (wrap .i64 (18+x4)) fun Du=>Aa (wrap .i64 (8*Du)) fun D7=>Aa (wrap .i64 (2+D7)) fun Ed=>Bb ((↑a0n:Int) != Ed) (some (Au.mk [.agg [.sc (.int .i64 0),.own 1 0 [],.own 1 0 []],.sc (.int .i64 2)] [])) (Ap (decide (146<=a0n))<|Aa (List.take 144 (List.drop 2 a0)) fun Ex=>Ag (call 92 [.lst false 1 144 Ex]) fun Eu E5=>Ac E5<|Ab Eu fun Hq Gn=>D0 1 Hq fun G3 Ds=>Ac Gn<|Ap (decide (146<=a0n)&&decide (a0n<=a0n))<|Aa (a0n-146) fun De=>Aa (List.take (De*1) (List.drop 146 a0)) fun Fx=>Ag (call 92 [.lst false 1 De Fx]) fun Hp Es=>Ac Es<|Ab Hp fun I8 Lg=>D0 1 I8 fun Jw J4=>Ac Lg<|Ap (decide (G3*1<=Ds.length))<|Ap (decide (Jw*1<=J4.length))<|some (Au.mk [.agg [.sc (.int .i64 x2),.own 1 G3 (List.take (G3*1) Ds),.own 1 Jw (List.take (Jw*1) J4)],.sc (.int .i64 0)] [])))))) (Ad (CX xs) Tryz.prog fu d):=by kernel_rfl
abbrev Rz:FuncId:=41
noncomputable def Fv (fu:Nat)(call:Ai)(a0_0 a0_1:Int)(a1 JS:Int)(Vq:Nat)(ME:List PV)(Tc:Nat)(NM:List PV)(nn:Nat)(y0:Int)(y1:Nat)(y2:List PV)(y3 y4:Int)(y5 y6 y7:Int)(y8:Nat)(y9:List PV)(y10:Nat)(Jj:List PV):Option Au:=C9 CB Tryz.prog fu call 41 Tryz.f41 (B5 Tryz.f41) [.agg [.sc (.int .i64 a0_0),.sc (.int .u64 a0_1)],.sc (.int .u64 a1),.agg [.sc (.int .i64 JS),.lst false 1 Vq ME,.lst false 1 Tc NM]] [.r,.r,.r,.r,.r,.l,.r,.l] nn ⟨lk [(3,(.ptr 3 0)),(5,(.ptr 5 0)),(7,(.sc (.int .u64 y0))),(46,(.lst false 1 y1 y2)),(47,(.sc (.int .i64 y3))),(48,(.sc (.int .i64 y4)))],B3 [(3,(.st [(.sc (.int .i64 y5)),(.sc (.int .u64 y6))])),(5,(.st [(.sc (.int .i64 y7)),(.lst false 1 y8 y9),(.lst false 1 y10 Jj)]))]⟩
theorem Mu (fu:Nat)(call:Ai)(a0_0 a0_1:Int)(a1 JS:Int)(Vq:Nat)(ME:List PV)(Tc:Nat)(NM:List PV)(nn:Nat)(y0:Int)(y1:Nat)(y2:List PV)(y3 y4:Int)(y5 y6 y7:Int)(y8:Nat)(y9:List PV)(y10:Nat)(Jj:List PV):Fv fu call a0_0 a0_1 a1 JS Vq ME Tc NM (nn+1) y0 y1 y2 y3 y4 y5 y6 y7 y8 y9 y10 Jj=(Bb (decide (y4<y3)) (Ap (decide (0<=y4)&&decide (y4<(↑y1:Int)))<|Ae .u64 (List.getD y2 (Int.toNat y4*1) .top) fun Eu=>Ap (decide (0<=y4))<|Aa (Dw .i64 y7 y4) fun E5=>Aa (Rw .i64 E5 1) fun Hq=>Bb (Hq==0) (Aa (wrap .i64 (y4+1)) fun Gn=>Ag (call 82 [.sc (.int .i64 Gn),.sc (.int .u64 y0),.sc (.int .u64 Eu)]) fun G3 Ds=>Ac Ds<|Ab G3 fun De Fx=>Ae .u64 De fun Hp=>Ac Fx<|Aa (wrap .i64 (y4+1)) fun Es=>Fv fu call a0_0 a0_1 a1 JS Vq ME Tc NM (nn) Hp (y1) (y2) (y3) Es (y5) (y6) (y7) (y8) (y9) (y10) (Jj)) (Aa (wrap .i64 (y4+1)) fun I8=>Ag (call 82 [.sc (.int .i64 I8),.sc (.int .u64 Eu),.sc (.int .u64 y0)]) fun Lg Jw=>Ac Jw<|Ab Lg fun J4 Ka=>Ae .u64 J4 fun Mo=>Ac Ka<|Aa (wrap .i64 (y4+1)) fun O9=>Fv fu call a0_0 a0_1 a1 JS Vq ME Tc NM (nn) Mo (y1) (y2) (y3) O9 (y5) (y6) (y7) (y8) (y9) (y10) (Jj))) (Bb (y0 != y6) (some (Au.mk [.sc (.int .i64 15)] [])) (some (Au.mk [.sc (.int .i64 0)] [])))):=by kernel_rfl
theorem CQ {xs:FuncId->Option (List PV->Option Au)} (fu d:Nat)(a0_0 a0_1:Int)(a1 JS:Int)(Vq:Nat)(ME:List PV)(Tc:Nat)(NM:List PV):Ad (CX xs) Tryz.prog fu (d+1) Rz [.agg [.sc (.int .i64 a0_0),.sc (.int .u64 a0_1)],.sc (.int .u64 a1),.agg [.sc (.int .i64 JS),.lst false 1 Vq ME,.lst false 1 Tc NM]]=(fun (call:Ai)=>Ag (call 74 [.sc (.int .i64 a0_0)]) fun x1 x2=>Ac x2<|Ab x1 fun x3 x4=>Bm x3 fun x5=>Ac x4<|Bb x5 (some (Au.mk [.sc (.int .i64 9)] [])) (Ag (call 75 [.sc (.int .i64 JS),.sc (.int .i64 a0_0)]) fun x6 x7=>Ac x7<|Ab x6 fun x8 x9=>Bm x8 fun Cg=>Ac x9<|Bb Cg (some (Au.mk [.sc (.int .i64 9)] [])) (Bb ((↑Vq:Int) != 18) (some (Au.mk [.sc (.int .i64 4)] [])) (Bb ((↑Tc:Int) != a0_0) (some (Au.mk [.sc (.int .i64 4)] [])) (Ag (call 81 [.sc (.int .i64 JS),.sc (.int .u64 a1),.lst false 1 Vq ME]) fun Cj Dd=>Ac Dd<|Ab Cj fun Dk C6=>Ae .u64 Dk fun Du=>Ab C6 fun D7 Ed=>Ae .i64 D7 fun Ex=>Ac Ed<|Bb (Ex != 0) (some (Au.mk [.sc (.int .i64 Ex)] [])) (Fv fu call a0_0 a0_1 a1 JS Vq ME Tc NM (fu) Du (Tc) (NM) ((↑Tc:Int)) 0 (a0_0) (a0_1) (JS) (Vq) (ME) (Tc) (NM))))))) (Ad (CX xs) Tryz.prog fu d):=by kernel_rfl
end
section
open Go.IntKind (wrap)
theorem Am6 {a m:Int}(h0:0<=m)(h1:m<=18446744073709551615):0<=Rw .u64 a m∧Rw .u64 a m<=m:=by
 have hle:(BitVec.ofInt 64 a &&& BitVec.ofInt 64 m).toNat<=m.toNat:=by
  rw [BitVec.toNat_and];refine Nat.le_trans Nat.and_le_right ?_;rw [BitVec.toNat_ofInt];omega
 have:Rw .u64 a m=((BitVec.ofInt 64 a &&& BitVec.ofInt 64 m).toNat:Int):=by
  unfold Rw;exact Ci (by omega) (by show ((BitVec.ofInt 64 a &&& BitVec.ofInt 64 m).toNat:Int)<=_;omega)
 rw [this];omega
theorem Jk (k:IntKind)(l:List Int)(i:Nat)(x:Int):(Af k l).set i (.sc (.int k x))=Af k (l.set i x):=by
 induction l generalizing i with
 |nil=>rfl
 |cons a l ih=>
  cases i with
  |zero=>rfl
  |succ i=>
   show (PV.sc (.int k a)::Af k l).set (i+1) _=PV.sc (.int k a)::Af k (l.set i x);rw [List.set_cons_succ,ih]
theorem VW (w:Int)(k:Nat):0<=C1 w k∧C1 w k<=255:=by
 unfold C1;simp only [wrap,IntKind.signed,IntKind.bits];simp;omega
theorem Aay (w:Int):Jv (Dp w):=by
 intro x hx;obtain ⟨k,_,rfl⟩:=List.mem_map.1 hx;exact VW w k
theorem Rs (ws:List Int):Jv (Ar ws):=by
 intro x hx;obtain ⟨w,_,hx⟩:=List.mem_flatMap.1 hx;exact Aay w x hx
theorem Cq (ws:List Int):(Ar ws).length=8*ws.length:=by
 induction ws with
 |nil=>rfl
 |cons w ws ih=>
  show (Dp w++Ar ws).length=_;rw [I9,ih,Em,Jz];omega
def F3 (m:Int)(k:Nat):Int:=wrap .i64 (Rw .u64 (Dw .u64 m (60-4*(k:Int))) 15)
theorem Qi (m:Int)(k:Nat):0<=F3 m k∧F3 m k<=15:=by
 have:=Am6 (a:=Dw .u64 m (60-4*(k:Int))) (m:=15) (by omega) (by omega)
 unfold F3;rw [Ak (by omega) (by omega)]
 exact this
def Ip (m:Int):Nat->Int
 |0=>0
 |k+1=>Ip m k+(15-F3 m k)
theorem I2 (m:Int):∀k,0<=Ip m k∧Ip m k<=15*k
 |0=>by simp [Ip]
 |k+1=>by
  have h1:=I2 m k;have h2:=Qi m k;simp only [Ip];omega
def OX (m:Int):List Int:=(List.range 16).map (F3 m)++[Ip m 16 / 16,Ip m 16 % 16]
def dg (m:Int)(k:Nat):Int:=(OX m).getD k 0
theorem Abl (m:Int):(OX m).length=18:=rfl
theorem Aje {m x:Int}(h:x∈OX m):0<=x∧x<=15:=by
 have hs:=I2 m 16;unfold OX at h;rcases List.mem_append.1 h with h|h
 ·obtain ⟨k,_,rfl⟩:=List.mem_map.1 h;exact Qi m k
 ·simp at h;rcases h with rfl|rfl<;>omega
theorem V1 (m:Int)(k:Nat):0<=dg m k∧dg m k<=15:=by
 unfold dg;rw [List.getD_eq_getElem?_getD];cases h:(OX m)[k]? with
 |none=>simp
 |some x=>exact Aje (List.mem_of_getElem? h)
def dl (m:Int)(i:Nat):List Int:=(List.range i).map (F3 m)++List.replicate (18-i) 0
theorem YO (m:Int){i:Nat}(h:i<=18):(dl m i).length=18:=by simp [dl];omega
theorem Aoe (m:Int){i:Nat}(h:i<18):(dl m (i+1))[i]?=some (F3 m i):=by
 unfold dl;rw [List.getElem?_append_left (by simp)]
 simp
theorem Amm (m:Int){i:Nat}(h:i<18):(dl m i).set i (F3 m i)=dl m (i+1):=by
 unfold dl;rw [List.set_append_right _ _ (by simp),List.length_map,List.length_range,Nat.sub_self,show 18-i=(18-(i+1))+1 by omega,List.replicate_succ,List.set_cons_zero,List.range_succ,List.map_append,YM]
 rfl
def Qo (leaf chain:Int):Nat->Int->Int->Int
 |0,_,x=>x
 |k+1,p,x=>Qo leaf chain k (p+1) (M1 1 (Ar [wrap .u64 leaf,wrap .u64 chain,wrap .u64 p,x]))
theorem WH (leaf chain:Int):∀(k j:Nat)(p x:Int),Qo leaf chain (k+j) p x=Qo leaf chain j (p+k) (Qo leaf chain k p x)
 |0,j,p,x=>by simp [Qo]
 |k+1,j,p,x=>by
  rw [show k+1+j=(k+j)+1 by omega]
  simp only [Qo];rw [WH leaf chain k j]
  congr 1
  omega
def Xm (leaf:Int)(E:List Int):Int:=M1 2 (Ar (wrap .u64 leaf::E))
def YG (leaf m:Int)(s:List Int)(k:Nat):Int:=Qo leaf k (15-dg m k).toNat (dg m k) (s.getD k 0)
def LM (leaf m:Int)(s:List Int):List Int:=(List.range 18).map (YG leaf m s)
def Adu (leaf m:Int)(s:List Int):Int:=Xm leaf (LM leaf m s)
def el (leaf m:Int)(s:List Int)(i:Nat):List Int:=(List.range i).map (YG leaf m s)++List.replicate (18-i) 0
theorem Afv (leaf m:Int)(s:List Int){i:Nat}(h:i<=18):(el leaf m s i).length=18:=by simp [el];omega
theorem Amz (leaf m:Int)(s:List Int){i:Nat}(h:i<18):(el leaf m s i).set i (YG leaf m s i)=el leaf m s (i+1):=by
 unfold el;rw [List.set_append_right _ _ (by simp),List.length_map,List.length_range,Nat.sub_self,show 18-i=(18-(i+1))+1 by omega,List.replicate_succ,List.set_cons_zero,List.range_succ,List.map_append,YM]
 rfl
theorem Anv (leaf m:Int)(s:List Int):el leaf m s 18=LM leaf m s:=by
 unfold el LM;simp
end
section
open Go.IntKind (wrap)
set_option maxRecDepth 20000
section
variable {fu d:Nat} {xs:FuncId->Option (List PV->Option Au)}
theorem Af9 {ws:List Int}(hl:ws.length<=100)(hfu:1000<=fu)(dom:Int):Ad (CX xs) Tryz.prog fu (d+5) Qu [.sc (.int .i64 dom),.lst false 1 (Ar ws).length (Af .u8 (Ar ws))]=some ⟨[.sc (.int .u64 (M1 dom (Ar ws)))],[]⟩:=
 Abx (Rs ws) (by rw [Cq];omega) (by omega) (by rw [Cq];omega) dom
theorem VH {leaf chain:Int}{a0 a1 a2 a3 a4:Int}(hfu:1000<=fu){t:Int}(ht:t<=15):∀(k nn:Nat)(p x:Int),(k:Int)=t-p->0<=p->k<nn ->
  Jn fu (Ad (CX xs) Tryz.prog fu (d+5)) a0 a1 a2 a3 a4 nn leaf chain x t p=some ⟨[.sc (.int .u64 (Qo leaf chain k p x))],[]⟩
 |_,0,_,_,_,_,h=>by omega
 |0,nn+1,p,x,hk,hp,hn=>by
  rw [Rl,Do _ _ _ (by omega)]
  rfl
 |k+1,nn+1,p,x,hk,hp,hn=>by
  have w:wrap .i64 (p+1)=p+1:=Ak (by omega) (by omega)
  have wd:Ad (CX xs) Tryz.prog fu (d+5) E9 [.lst false 1 4 [.sc (.int .u64 (wrap .u64 leaf)),.sc (.int .u64 (wrap .u64 chain)),.sc (.int .u64 (wrap .u64 p)),.sc (.int .u64 x)]]=_:=Oo (ws:=[wrap .u64 leaf,wrap .u64 chain,wrap .u64 p,x]) (by simp) (by omega) (by simp;omega)
  have hs:=Af9 (xs:=xs) (fu:=fu) (d:=d) (ws:=[wrap .u64 leaf,wrap .u64 chain,wrap .u64 p,x]) (by simp) hfu 1
  have ih:=VH (leaf:=leaf) (chain:=chain) (a0:=a0) (a1:=a1) (a2:=a2) (a3:=a3) (a4:=a4) hfu ht k nn (p+1) (M1 1 (Ar [wrap .u64 leaf,wrap .u64 chain,wrap .u64 p,x])) (by omega) (by omega) (by omega)
  have L:=Aj .u8 (Ar [wrap .u64 leaf,wrap .u64 chain,wrap .u64 p,x]);have eR:Qo leaf chain (k+1) p x=Qo leaf chain k (p+1) (M1 1 (Ar [wrap .u64 leaf,wrap .u64 chain,wrap .u64 p,x])):=rfl;rw [eR];generalize Ar [wrap .u64 leaf,wrap .u64 chain,wrap .u64 p,x]=W at wd hs ih L ⊢;rw [Rl];simp (disch:=omega) only [Bv,wd,Cb,C3,El,I1,L,hs,w];exact ih
theorem YU {leaf chain:Int}(hfu:1000<=fu)(k:Nat)(f t x:Int)(hk:(k:Int)=t-f) (h0:0<=f)(h1:t<=15):Ad (CX xs) Tryz.prog fu (d+6) Xl [.sc (.int .i64 leaf),.sc (.int .i64 chain),.sc (.int .i64 f),.sc (.int .i64 t),.sc (.int .u64 x)]=some ⟨[.sc (.int .u64 (Qo leaf chain k f x))],[]⟩:=by
 rw [NI];simp only [Gw];rw [A5 (by omega),A5 (by omega)]
 exact VH hfu h1 k fu f x hk h0 (by omega)
theorem FQ {call:Ai}{a0 m:Int}{y3:List PV}:∀(k i nn:Nat),i+k=16->k<nn ->
  Fw fu call a0 nn m (Ip m i) i y3 (Af .i64 (dl m i))=Fw fu call a0 (nn-k) m (Ip m 16) 16 y3 (Af .i64 (dl m 16))
 |_,_,0,_,h=>by omega
 |0,i,nn+1,hi,hn=>by
  have e:i=16:=by omega
  subst e;rfl
 |k+1,i,nn+1,hi,hn=>by
  have ih:=FQ (call:=call) (a0:=a0) (y3:=y3) (m:=m) k (i+1) nn (by omega) (by omega)
  have hb:=Qi m i;have hs:=I2 m i;have w:wrap .i64 ((i:Int)+1)=((i+1:Nat):Int):=by rw [Ak (by omega) (by omega)];omega
  have w4:wrap .i64 (4*(i:Int))=4*(i:Int):=Ak (by omega) (by omega)
  have w60:wrap .i64 (60-4*(i:Int))=60-4*(i:Int):=Ak (by omega) (by omega)
  have hd:wrap .i64 (Rw .u64 (Dw .u64 m (60-4*(i:Int))) 15)=F3 m i:=rfl;have w15:wrap .i64 (15-F3 m i)=15-F3 m i:=Ak (by omega) (by omega)
  have ws:wrap .i64 (Ip m i+(15-F3 m i))=Ip m (i+1):=by rw [Ak (by omega) (by omega)];rfl
  have L:(Af .i64 (dl m i)).length=18:=by rw [Aj,YO m (by omega)]
  have hset:Bg (Af .i64 (dl m i)) [.sc (.int .i64 (F3 m i))] i=Af .i64 (dl m (i+1)):=by
   rw [E6 (by omega),Jk,Amm m (by omega)]
  have hat:(Af .i64 (dl m (i+1))).getD i .top=.sc (.int .i64 (F3 m i)):=W5 (Aoe m (by omega))
  rw [show nn+1-(k+1)=nn-k by omega,←ih,M0]
  simp (disch:=omega) only [Bv,H3,Cb,C3,w,w4,w60,hd,L,hset,hat,w15,ws]
theorem PN (hfu:1000<=fu)(m:Int):Ad (CX xs) Tryz.prog fu (d+1) Q6 [.sc (.int .u64 m)]=some ⟨[.agg (Af .i64 (OX m))],[]⟩:=by
 rw [CV];have lp:=FQ (fu:=fu) (call:=Ad (CX xs) Tryz.prog fu d) (a0:=m) (m:=m) (y3:=Af .i64 (List.replicate 18 0)) 16 0 fu (by omega) (by omega)
 obtain ⟨f',hf'⟩:∃f',fu-16=f'+1:=⟨fu-17,by omega⟩
 rw [hf'] at lp;refine Eq.trans lp ?_;have hs:=I2 m 16
 have wq:wrap .i64 (Int.tdiv (Ip m 16) 16)=Ip m 16 / 16:=by
  rw [Int.tdiv_eq_ediv_of_nonneg (by omega),Ak (by omega) (by omega)]
 have wm:Int.tmod (Ip m 16) 16=Ip m 16 % 16:=Int.tmod_eq_emod_of_nonneg (by omega)
 have L:(Af .i64 (dl m 16)).length=18:=by rw [Aj,YO m (by omega)]
 have h1:Bg (Af .i64 (dl m 16)) [.sc (.int .i64 (Ip m 16 / 16))] 16=Af .i64 ((dl m 16).set 16 (Ip m 16 / 16)):=by
  rw [E6 (by omega),Jk]
 have L2:(Af .i64 ((dl m 16).set 16 (Ip m 16 / 16))).length=18:=by rw [Aj,List.length_set,YO m (by omega)]
 have h2:Bg (Af .i64 ((dl m 16).set 16 (Ip m 16 / 16))) [.sc (.int .i64 (Ip m 16 % 16))] 17=Af .i64 (OX m):=by
  rw [E6 (by omega),Jk]
  rfl
 rw [M0,Do _ _ _ (by omega)]
 simp only [Gw,wq,wm,L,h1,L2,h2];generalize hq:Ip m 16 / 16=q at *
 generalize hr:Ip m 16 % 16=r at *
 have hD:Af .i64 (OX m)=[.sc (.int .i64 (F3 m 0)),.sc (.int .i64 (F3 m 1)),.sc (.int .i64 (F3 m 2)),.sc (.int .i64 (F3 m 3)),.sc (.int .i64 (F3 m 4)),.sc (.int .i64 (F3 m 5)),.sc (.int .i64 (F3 m 6)),.sc (.int .i64 (F3 m 7)),.sc (.int .i64 (F3 m 8)),.sc (.int .i64 (F3 m 9)),.sc (.int .i64 (F3 m 10)),.sc (.int .i64 (F3 m 11)),.sc (.int .i64 (F3 m 12)),.sc (.int .i64 (F3 m 13)),.sc (.int .i64 (F3 m 14)),.sc (.int .i64 (F3 m 15)),.sc (.int .i64 q),.sc (.int .i64 r)]:=by
  unfold OX;rw [hq,hr];rfl
 rw [hD];have hr18:(Af .i64 (List.replicate 18 0)).length=18:=rfl
 have hsp:∀c:List PV,c.length=18->Bg (Af .i64 (List.replicate 18 0)) c 0=c:=by
  intro c hc;unfold Bg;rw [hc,List.drop_of_length_le (by rw [hr18];omega)]
  simp
 rw [Wb (hnn:=by omega)]
 simp only [Bv,List.getD_cons_zero,List.getD_cons_succ,hr18];rw [hsp _ rfl];simp (disch:=omega) only [Bv,Wo,List.getD_cons_zero,List.getD_cons_succ]
theorem LX (hfu:1000<=fu)(leaf:Int){E:List Int}(hE:E.length=18):Ad (CX xs) Tryz.prog fu (d+6) Pr [.sc (.int .i64 leaf),.agg (Af .u64 E)]=some ⟨[.sc (.int .u64 (Xm leaf E))],[]⟩:=by
 match E,hE with
 |[e0,e1,e2,e3,e4,e5,e6,e7,e8,e9,e10,e11,e12,e13,e14,e15,e16,e17],_=>
  have wd:Ad (CX xs) Tryz.prog fu (d+5) E9 [.lst false 1 19 [.sc (.int .u64 (wrap .u64 leaf)),.sc (.int .u64 e0),.sc (.int .u64 e1),.sc (.int .u64 e2),.sc (.int .u64 e3),.sc (.int .u64 e4),.sc (.int .u64 e5),.sc (.int .u64 e6),.sc (.int .u64 e7),.sc (.int .u64 e8),.sc (.int .u64 e9),.sc (.int .u64 e10),.sc (.int .u64 e11),.sc (.int .u64 e12),.sc (.int .u64 e13),.sc (.int .u64 e14),.sc (.int .u64 e15),.sc (.int .u64 e16),.sc (.int .u64 e17)]]=_:=Oo (ws:=wrap .u64 leaf::[e0,e1,e2,e3,e4,e5,e6,e7,e8,e9,e10,e11,e12,e13,e14,e15,e16,e17]) (by simp) (by omega) (by simp;omega)
  have hs:=Af9 (xs:=xs) (fu:=fu) (d:=d) (ws:=wrap .u64 leaf::[e0,e1,e2,e3,e4,e5,e6,e7,e8,e9,e10,e11,e12,e13,e14,e15,e16,e17]) (by simp) hfu 2
  have L:=Aj .u8 (Ar (wrap .u64 leaf::[e0,e1,e2,e3,e4,e5,e6,e7,e8,e9,e10,e11,e12,e13,e14,e15,e16,e17]));have eR:Xm leaf [e0,e1,e2,e3,e4,e5,e6,e7,e8,e9,e10,e11,e12,e13,e14,e15,e16,e17]=M1 2 (Ar (wrap .u64 leaf::[e0,e1,e2,e3,e4,e5,e6,e7,e8,e9,e10,e11,e12,e13,e14,e15,e16,e17])):=rfl;rw [eR];generalize Ar (wrap .u64 leaf::[e0,e1,e2,e3,e4,e5,e6,e7,e8,e9,e10,e11,e12,e13,e14,e15,e16,e17])=W at wd hs L ⊢;refine (BQ fu (d+5) leaf e0 e1 e2 e3 e4 e5 e6 e7 e8 e9 e10 e11 e12 e13 e14 e15 e16 e17).trans ?_;simp (disch:=omega) only [Bv,wd,Cb,C3,El,I1,L,hs]
theorem Alv (g:Nat->Int){i:Nat}(hi:i<18):List.getD [PV.sc (.int .i64 (g 0)),PV.sc (.int .i64 (g 1)),PV.sc (.int .i64 (g 2)),PV.sc (.int .i64 (g 3)),PV.sc (.int .i64 (g 4)),PV.sc (.int .i64 (g 5)),PV.sc (.int .i64 (g 6)),PV.sc (.int .i64 (g 7)),PV.sc (.int .i64 (g 8)),PV.sc (.int .i64 (g 9)),PV.sc (.int .i64 (g 10)),PV.sc (.int .i64 (g 11)),PV.sc (.int .i64 (g 12)),PV.sc (.int .i64 (g 13)),PV.sc (.int .i64 (g 14)),PV.sc (.int .i64 (g 15)),PV.sc (.int .i64 (g 16)),PV.sc (.int .i64 (g 17))] i PV.top=.sc (.int .i64 (g i)):=by
 have:((List.range 18).map g)[i]?=some (g i):=by simp [hi]
 exact W5 (k:=.i64) this
theorem Zx {a0 a1:Int}{a2n:Nat}{a2:List PV}{leaf m:Int}{s:List Int}(hs:s.length=18)(hfu:1000<=fu)(g:Nat->Int)(hg:∀k,g k=dg m k):∀(k i nn:Nat),i+k=18->k<nn ->
  Ec fu (Ad (CX xs) Tryz.prog fu (d+6)) a0 a1 a2n a2 nn leaf s.length (Af .u64 s) (g 0) (g 1) (g 2) (g 3) (g 4) (g 5) (g 6) (g 7) (g 8) (g 9) (g 10) (g 11) (g 12) (g 13) (g 14) (g 15) (g 16) (g 17) i (Af .u64 (el leaf m s i)) =
   Ec fu (Ad (CX xs) Tryz.prog fu (d+6)) a0 a1 a2n a2 (nn-k) leaf s.length (Af .u64 s) (g 0) (g 1) (g 2) (g 3) (g 4) (g 5) (g 6) (g 7) (g 8) (g 9) (g 10) (g 11) (g 12) (g 13) (g 14) (g 15) (g 16) (g 17) 18 (Af .u64 (el leaf m s 18))
 |_,_,0,_,h=>by omega
 |0,i,nn+1,hi,hn=>by
  have e:i=18:=by omega
  subst e;rfl
 |k+1,i,nn+1,hi,hn=>by
  have ih:=Zx (a0:=a0) (a1:=a1) (a2n:=a2n) (a2:=a2) (leaf:=leaf) (m:=m) hs hfu g hg k (i+1) nn (by omega) (by omega)
  obtain ⟨x,hx⟩:∃x,s[i]?=some x:=⟨_,List.getElem?_eq_getElem (by omega)⟩
  have hb:=V1 m i;have hgi:=Alv g (i:=i) (by omega)
  have w:wrap .i64 ((i:Int)+1)=((i+1:Nat):Int):=by rw [Ak (by omega) (by omega)];omega
  have rn:=YU (xs:=xs) (fu:=fu) (d:=d) (leaf:=leaf) (chain:=i) hfu (15-dg m i).toNat (g i) 15 x (by rw [hg];omega) (by rw [hg];omega) (by omega)
  have ev:Qo leaf i (15-dg m i).toNat (g i) x=YG leaf m s i:=by
   unfold YG;rw [List.getD_eq_getElem?_getD,hx,hg];rfl
  rw [ev] at rn;have L:(Af .u64 (el leaf m s i)).length=18:=by rw [Aj,Afv leaf m s (by omega)]
  have hset:Bg (Af .u64 (el leaf m s i)) [.sc (.int .u64 (YG leaf m s i))] i=Af .u64 (el leaf m s (i+1)):=by
   rw [E6 (by omega),Jk,Amz leaf m s (by omega)]
  rw [show nn+1-(k+1)=nn-k by omega,←ih,Mk]
  simp (disch:=omega) only [Bv,H3,Cb,C3,hgi,W5 hx,rn,L,hset,w]
theorem TS (hfu:1000<=fu){a0 a1 leaf:Int}{a2n n nn:Nat}{a2 c:List PV}{g:Nat->Int}{E:List Int}(hE:E.length=18):
  Ec fu (Ad (CX xs) Tryz.prog fu (d+6)) a0 a1 a2n a2 (nn+1) leaf n c (g 0) (g 1) (g 2) (g 3) (g 4) (g 5) (g 6) (g 7) (g 8) (g 9) (g 10) (g 11) (g 12) (g 13) (g 14) (g 15) (g 16) (g 17) 18 (Af .u64 E)=some ⟨[.sc (.int .u64 (Xm leaf E)),.sc (.int .i64 0)],[]⟩:=by
 match E,hE with
 |[e0,e1,e2,e3,e4,e5,e6,e7,e8,e9,e10,e11,e12,e13,e14,e15,e16,e17],hE=>
  have cb:=LX (xs:=xs) (fu:=fu) (d:=d) hfu leaf hE;have hc:Af .u64 [e0,e1,e2,e3,e4,e5,e6,e7,e8,e9,e10,e11,e12,e13,e14,e15,e16,e17]=[.sc (.int .u64 e0),.sc (.int .u64 e1),.sc (.int .u64 e2),.sc (.int .u64 e3),.sc (.int .u64 e4),.sc (.int .u64 e5),.sc (.int .u64 e6),.sc (.int .u64 e7),.sc (.int .u64 e8),.sc (.int .u64 e9),.sc (.int .u64 e10),.sc (.int .u64 e11),.sc (.int .u64 e12),.sc (.int .u64 e13),.sc (.int .u64 e14),.sc (.int .u64 e15),.sc (.int .u64 e16),.sc (.int .u64 e17)]:=rfl;rw [hc] at cb ⊢;generalize Xm leaf [e0,e1,e2,e3,e4,e5,e6,e7,e8,e9,e10,e11,e12,e13,e14,e15,e16,e17]=R at cb ⊢;rw [Mk,Do _ _ _ (by omega)]
  simp (disch:=omega) only [Bv,Ux,Ul,List.getD_cons_zero,List.getD_cons_succ,cb]
theorem YN (hfu:1000<=fu)(leaf m:Int)(s:List Int):Ad (CX xs) Tryz.prog fu (d+7) P1 [.sc (.int .i64 leaf),.sc (.int .u64 m),.lst false 1 s.length (Af .u64 s)]=some ⟨(if s.length=18 then [.sc (.int .u64 (Adu leaf m s)),.sc (.int .i64 0)] else [.sc (.int .u64 0),.sc (.int .i64 4)]),[]⟩:=by
 rw [AX];by_cases h:s.length=18
 ·have dq:=PN (xs:=xs) (fu:=fu) (d:=d+5) hfu m;have hD:Af .i64 (OX m)=[.sc (.int .i64 (dg m 0)),.sc (.int .i64 (dg m 1)),.sc (.int .i64 (dg m 2)),.sc (.int .i64 (dg m 3)),.sc (.int .i64 (dg m 4)),.sc (.int .i64 (dg m 5)),.sc (.int .i64 (dg m 6)),.sc (.int .i64 (dg m 7)),.sc (.int .i64 (dg m 8)),.sc (.int .i64 (dg m 9)),.sc (.int .i64 (dg m 10)),.sc (.int .i64 (dg m 11)),.sc (.int .i64 (dg m 12)),.sc (.int .i64 (dg m 13)),.sc (.int .i64 (dg m 14)),.sc (.int .i64 (dg m 15)),.sc (.int .i64 (dg m 16)),.sc (.int .i64 (dg m 17))]:=rfl;rw [hD] at dq;simp only [Ep];rw [B4 h,B4 (by omega)]
  simp only [Bv,dq];have lp:=Zx (xs:=xs) (fu:=fu) (d:=d) (a0:=leaf) (a1:=m) (a2n:=s.length) (a2:=Af .u64 s) (leaf:=leaf) (m:=m) h hfu (dg m) (fun _=>rfl) 18 0 fu (by omega) (by omega)
  obtain ⟨f',hf'⟩:∃f',fu-18=f'+1:=⟨fu-19,by omega⟩
  rw [hf'] at lp;refine Eq.trans lp ?_;have eE:el leaf m s 18=LM leaf m s:=Anv leaf m s;have hl:(LM leaf m s).length=18:=by rw [←eE,Afv leaf m s (by omega)]
  have eR:Adu leaf m s=Xm leaf (LM leaf m s):=rfl;rw [eE,eR];exact TS hfu hl
 ·simp only [Ep];rw [A5 h,A5 (by omega)]
end
end
section
open Go.IntKind (wrap)
structure Ky where
 h:Int
 root:Int
structure Sg where
 leaf:Int
 chains:List Int
 path:List Int
def Ky.cells (k:Ky):List PV:=[.sc (.int .i64 k.h),.sc (.int .u64 k.root)]
def Sg.cells (s:Sg):List PV:=[.sc (.int .i64 s.leaf),.lst false 1 s.chains.length (Af .u64 s.chains),.lst false 1 s.path.length (Af .u64 s.path)]
def Cx (h:Int):Bool:=decide (h<0)||decide (h>4)
def Hb (leaf h:Int):Bool:=decide (leaf<0)||decide (leaf>=Gm .i64 1 h)
def Lj (level a b:Int):Int:=M1 3 (Ar [wrap .u64 level,a,b])
def Y9 (leaf:Int):Nat->Int->List Int->Int
 |_,x,[]=>x
 |i,x,s::r=>Y9 leaf (i+1) (if Rw .i64 (Dw .i64 leaf i) 1=0 then Lj ((i+1:Nat):Int) x s else Lj ((i+1:Nat):Int) s x) r
def okE (x root:Int):Int:=if x=root then 0 else 15
theorem XX (leaf:Int)(i:Nat)(x:Int):Y9 leaf i x []=x:=rfl
theorem GD (leaf:Int)(i:Nat)(x s:Int)(r:List Int):Y9 leaf i x (s::r)=Y9 leaf (i+1) (if Rw .i64 (Dw .i64 leaf i) 1=0 then Lj ((i+1:Nat):Int) x s else Lj ((i+1:Nat):Int) s x) r:=rfl
def WA (k:Ky)(m:Int)(s:Sg):Int:=
 if Cx k.h=true then 9 else if Hb s.leaf k.h=true then 9 else if s.chains.length≠18 then 4 else if (s.path.length:Int)≠k.h then 4 else
 okE (Y9 s.leaf 0 (Adu s.leaf m s.chains) s.path) k.root
theorem G8 {h:Int}(hh:Cx h=false):0<=h∧h<=4:=by
 unfold Cx at hh;simp at hh;omega
section
variable {fu d:Nat} {xs:FuncId->Option (List PV->Option Au)}
theorem S5 (h:Int):Ad (CX xs) Tryz.prog fu (d+1) Jq [.sc (.int .i64 h)]=some ⟨[.sc (.bool (Cx h))],[]⟩:=by
 rw [JP];unfold Cx;by_cases h0:h<0
 ·simp only [Bv,DO,h0,decide_true,Bool.true_or,if_true]
 ·simp only [Bv,DO,h0,decide_false,Bool.false_or,if_false]
theorem O8 (leaf h:Int)(h0:0<=h):Ad (CX xs) Tryz.prog fu (d+1) G6 [.sc (.int .i64 leaf),.sc (.int .i64 h)]=some ⟨[.sc (.bool (Hb leaf h))],[]⟩:=by
 rw [Zt];unfold Hb;by_cases hl:leaf<0
 ·simp only [Bv,DO,hl,decide_true,Bool.true_or,if_true]
 ·simp (disch:=omega) only [Bv,DO,hl,decide_false,Bool.false_or,if_false]
theorem CW (hfu:1000<=fu)(level a b:Int):Ad (CX xs) Tryz.prog fu (d+6) Kz [.sc (.int .i64 level),.sc (.int .u64 a),.sc (.int .u64 b)]=some ⟨[.sc (.int .u64 (Lj level a b))],[]⟩:=by
 have wd:Ad (CX xs) Tryz.prog fu (d+5) E9 [.lst false 1 3 [.sc (.int .u64 (wrap .u64 level)),.sc (.int .u64 a),.sc (.int .u64 b)]]=_:=Oo (ws:=[wrap .u64 level,a,b]) (by simp) (by omega) (by simp;omega)
 have hs:=Af9 (xs:=xs) (fu:=fu) (d:=d) (ws:=[wrap .u64 level,a,b]) (by simp) hfu 3
 have L:=Aj .u8 (Ar [wrap .u64 level,a,b]);rw [DN];unfold Lj;generalize Ar [wrap .u64 level,a,b]=W at wd hs L ⊢;simp (disch:=omega) only [Bv,wd,Cb,C3,El,I1,L,hs]
theorem GC {a0 a1 a2 a3:Int}{n1 n2 n3 n4:Nat}{c1 c2 c3 c4:List PV}{y5 root leaf:Int}{path:List Int}(hp:path.length<=100)(hfu:1000<=fu):∀(r:List Int)(i nn:Nat)(x:Int),path.drop i=r->r.length<nn->i<=path.length ->
  Fv fu (Ad (CX xs) Tryz.prog fu (d+6)) a0 a1 a2 a3 n1 c1 n2 c2 nn x path.length (Af .u64 path) path.length i y5 root leaf n3 c3 n4 c4=some ⟨[.sc (.int .i64 (okE (Y9 leaf i x r) root))],[]⟩
 |_,_,0,_,_,h,_=>by omega
 |[],i,nn+1,x,h,hn,hi=>by
  have:=drop_nil h;rw [Mu,Do _ _ _ (by omega),Ep]
  rw [XX];unfold okE;by_cases e:x=root
  ·rw [B4 e,B4 e]
  ·rw [A5 e,A5 e]
 |s::r,i,nn+1,x,h,hn,hi=>by
  obtain ⟨h1,h2,h3⟩:=Cm h;simp only [Jz] at hn;have w:wrap .i64 ((i:Int)+1)=((i+1:Nat):Int):=by rw [Ak (by omega) (by omega)];omega
  have ih:=fun x=>GC (a0:=a0) (a1:=a1) (a2:=a2) (a3:=a3) (n1:=n1) (n2:=n2) (n3:=n3) (n4:=n4) (c1:=c1) (c2:=c2) (c3:=c3) (c4:=c4) (y5:=y5) (root:=root) (leaf:=leaf) hp hfu r (i+1) nn x h3 (by omega) (by omega)
  have p1:=CW (xs:=xs) (fu:=fu) (d:=d) hfu ((i+1:Nat):Int) x s;have p2:=CW (xs:=xs) (fu:=fu) (d:=d) hfu ((i+1:Nat):Int) s x;rw [Mu,GD];by_cases hb:Rw .i64 (Dw .i64 leaf i) 1=0
  ·rw [B4 hb,←ih];simp (disch:=omega) only [Bv,H3,Cb,W5 h2,Ez,hb,w,p1,if_true]
  ·rw [A5 hb,←ih];simp (disch:=omega) only [Bv,H3,Cb,W5 h2,Ez,hb,w,p2,if_false]
theorem Aep (hfu:1000<=fu)(k:Ky)(m:Int)(s:Sg):Ad (CX xs) Tryz.prog fu (d+8) Rz [.agg k.cells,.sc (.int .u64 m),.agg s.cells]=some ⟨[.sc (.int .i64 (WA k m s))],[]⟩:=by
 refine (CQ fu (d+7) k.h k.root m s.leaf s.chains.length (Af .u64 s.chains) s.path.length (Af .u64 s.path)).trans ?_;have h1:=S5 (xs:=xs) (fu:=fu) (d:=d+6) k.h;unfold WA;cases c1:Cx k.h
 ·rw [c1] at h1;have hb:=G8 c1;have h2:=O8 (xs:=xs) (fu:=fu) (d:=d+6) s.leaf k.h hb.1;cases c2:Hb s.leaf k.h
  ·rw [c2] at h2;by_cases c3:s.chains.length=18
   ·by_cases c4:(s.path.length:Int)=k.h
    ·have rc:=YN (xs:=xs) (fu:=fu) (d:=d) hfu s.leaf m s.chains;rw [B4 c3] at rc;have vl:=GC (xs:=xs) (fu:=fu) (d:=d+1) (a0:=k.h) (a1:=k.root) (a2:=m) (a3:=s.leaf) (n1:=s.chains.length) (n2:=s.path.length) (n3:=s.chains.length) (n4:=s.path.length) (c1:=Af .u64 s.chains) (c2:=Af .u64 s.path) (c3:=Af .u64 s.chains) (c4:=Af .u64 s.path) (y5:=k.h) (root:=k.root) (leaf:=s.leaf) (path:=s.path) (by omega) hfu s.path 0 fu (Adu s.leaf m s.chains) rfl (by omega) (by omega)
     rw [A5 (by simp),A5 (by simp),A5 (by omega),A5 (by omega),←vl]
     simp (disch:=omega) only [Bv,h1,h2,Ep,rc,if_true,c4];rw [B4 (by omega)]
     rfl
    ·rw [A5 (by simp),A5 (by simp),A5 (by omega),B4 c4]
     simp (disch:=omega) only [Bv,h1,h2,Ep,c4,if_false];rw [B4 (by omega)]
   ·rw [A5 (by simp),A5 (by simp),B4 c3]
    simp (disch:=omega) only [Bv,h1,h2,Ep];rw [A5 (by omega)]
  ·rw [c2] at h2;rw [A5 (by simp),B4 rfl]
   simp (disch:=omega) only [Bv,h1,h2]
 ·rw [c1] at h1;rw [B4 rfl];simp (disch:=omega) only [Bv,h1]
def Ie (k:Ky):List Int:=wrap .u8 k.h::Dp k.root
def Qv (s:Sg):List Int:=wrap .u8 s.leaf::wrap .u8 s.path.length::(Ar s.chains++Ar s.path)
theorem owd (hfu:1000<=fu)(w:Int):Ad (CX xs) Tryz.prog fu (d+1) E9 [.lst false 1 1 [.sc (.int .u64 w)]]=some ⟨[.own 1 8 (Af .u8 (Dp w))],[]⟩:=by
 have:=Oo (xs:=xs) (fu:=fu) (d:=d) (ws:=[w]) (by simp) (by omega) (by simp;omega)
 simp only [Ar,List.flatMap_cons,List.flatMap_nil,List.append_nil,Jz,AA,Em] at this;exact this
theorem Ad2 (hfu:1000<=fu)(k:Ky):Ad (CX xs) Tryz.prog fu (d+2) Nb [.agg k.cells]=some ⟨(if Cx k.h=true then [.own 1 0 [],.sc (.int .i64 9)] else [.own 1 9 (Af .u8 (Ie k)),.sc (.int .i64 0)]),[]⟩:=by
 refine (Wh fu (d+1) k.h k.root).trans ?_;have h1:=S5 (xs:=xs) (fu:=fu) (d:=d) k.h;have wd:=owd (xs:=xs) (fu:=fu) (d:=d) hfu k.root;have L:=Aj .u8 (Dp k.root);rw [Em] at L;have t8:List.take 8 (Af .u8 (Dp k.root))=Af .u8 (Dp k.root):=R6 (by omega)
 have t9:List.take 9 ([PV.sc (.int .u8 (wrap .u8 k.h))]++Af .u8 (Dp k.root))=Af .u8 (Ie k):=by
  rw [R6 (by rw [I9,L];simp)]
  rfl
 have L9:([PV.sc (.int .u8 (wrap .u8 k.h))]++Af .u8 (Dp k.root)).length=9:=by rw [I9,L];rfl
 cases c1:Cx k.h
 ·rw [c1] at h1;rw [A5 (by simp)]
  simp (disch:=omega) only [Bv,h1,wd,Cb,C3,El,L,t8,Nat.reduceAdd,L9,t9]
 ·rw [c1] at h1;rw [B4 rfl];simp (disch:=omega) only [Bv,h1]
theorem Acq (hfu:1000<=fu)(s:Sg)(hp:s.path.length<=1000000000)(hf:s.path.length<fu):Ad (CX xs) Tryz.prog fu (d+2) Hx [.agg s.cells]=some ⟨(if Cx s.path.length=true then [.own 1 0 [],.sc (.int .i64 9)] else if Hb s.leaf s.path.length=true then [.own 1 0 [],.sc (.int .i64 9)] else if s.chains.length≠18 then [.own 1 0 [],.sc (.int .i64 4)] else [.own 1 (Qv s).length (Af .u8 (Qv s)),.sc (.int .i64 0)]),[]⟩:=by
 refine (Pi fu (d+1) s.leaf s.chains.length (Af .u64 s.chains) s.path.length (Af .u64 s.path)).trans ?_;have h1:=S5 (xs:=xs) (fu:=fu) (d:=d) s.path.length;cases c1:Cx s.path.length
 ·rw [c1] at h1;have hb:=G8 c1;have h2:=O8 (xs:=xs) (fu:=fu) (d:=d) s.leaf s.path.length hb.1;cases c2:Hb s.leaf s.path.length
  ·rw [c2] at h2;by_cases c3:s.chains.length=18
   ·have w1:=Oo (xs:=xs) (fu:=fu) (d:=d) (ws:=s.chains) (by omega) (by omega) (by omega)
    have w2:=Oo (xs:=xs) (fu:=fu) (d:=d) (ws:=s.path) (by omega) (by omega) (by omega)
    have l1:=Cq s.chains;have l2:=Cq s.path;have L1:=Aj .u8 (Ar s.chains);have L2:=Aj .u8 (Ar s.path)
    have eB:Af .u8 (Qv s)=[PV.sc (.int .u8 (wrap .u8 s.leaf)),PV.sc (.int .u8 (wrap .u8 s.path.length))]++Af .u8 (Ar s.chains)++Af .u8 (Ar s.path):=by
     unfold Qv;simp
    have eL:(Qv s).length=2+(Ar s.chains).length+(Ar s.path).length:=by
     unfold Qv;simp;omega
    rw [A5 (by simp),A5 (by simp),A5 (by omega),eB,eL]
    have t2:List.take (2+(Ar s.chains).length) ([PV.sc (.int .u8 (wrap .u8 s.leaf)),PV.sc (.int .u8 (wrap .u8 s.path.length))]++Af .u8 (Ar s.chains))=[PV.sc (.int .u8 (wrap .u8 s.leaf)),PV.sc (.int .u8 (wrap .u8 s.path.length))]++Af .u8 (Ar s.chains):=R6 (by rw [I9,L1];simp)
    have t3:List.take (2+(Ar s.chains).length+(Ar s.path).length) ([PV.sc (.int .u8 (wrap .u8 s.leaf)),PV.sc (.int .u8 (wrap .u8 s.path.length))]++Af .u8 (Ar s.chains)++Af .u8 (Ar s.path))=[PV.sc (.int .u8 (wrap .u8 s.leaf)),PV.sc (.int .u8 (wrap .u8 s.path.length))]++Af .u8 (Ar s.chains)++Af .u8 (Ar s.path):=R6 (by rw [I9,I9,L1,L2];simp)
    have k2:([PV.sc (.int .u8 (wrap .u8 s.leaf)),PV.sc (.int .u8 (wrap .u8 s.path.length))]++Af .u8 (Ar s.chains)).length=2+(Ar s.chains).length:=by rw [I9,L1];rfl
    have k3:([PV.sc (.int .u8 (wrap .u8 s.leaf)),PV.sc (.int .u8 (wrap .u8 s.path.length))]++Af .u8 (Ar s.chains)++Af .u8 (Ar s.path)).length=2+(Ar s.chains).length+(Ar s.path).length:=by rw [I9,k2,L2]
    simp (disch:=omega) only [Bv,h1,h2,Ep,w1,w2,Cb,C3,El,L1,L2,I1,t2,t3,k2,k3];rw [B4 (by omega)]
   ·rw [A5 (by simp),A5 (by simp),B4 c3]
    simp (disch:=omega) only [Bv,h1,h2,Ep];rw [A5 (by omega)]
  ·rw [c2] at h2;rw [A5 (by simp),B4 rfl]
   simp (disch:=omega) only [Bv,h1,h2]
 ·rw [c1] at h1;rw [B4 rfl];simp (disch:=omega) only [Bv,h1]
def Qk (l:List Int)(i:Nat):Int:=KH ((l.drop (8*i)).take 8)
def Fa (l:List Int):List Int:=(List.range (l.length / 8)).map (Qk l)
def wl (l:List Int)(i:Nat):List Int:=(List.range i).map (Qk l)++List.replicate (l.length / 8-i) 0
theorem Aij (l:List Int){i:Nat}(h:i<=l.length / 8):(wl l i).length=l.length / 8:=by simp [wl];omega
theorem Anc (l:List Int){i:Nat}(h:i<l.length / 8):(wl l i).set i (Qk l i)=wl l (i+1):=by
 unfold wl;rw [List.set_append_right _ _ (by simp),List.length_map,List.length_range,Nat.sub_self,show l.length / 8-i=(l.length / 8-(i+1))+1 by omega,List.replicate_succ,List.set_cons_zero,List.range_succ,List.map_append,YM]
 rfl
theorem Ajj (l:List Int){i:Nat}(h:i<l.length / 8):(wl l i).set i 0=wl l i:=by
 unfold wl;rw [List.set_append_right _ _ (by simp),List.length_map,List.length_range,Nat.sub_self,show l.length / 8-i=(l.length / 8-(i+1))+1 by omega,List.replicate_succ,List.set_cons_zero]
theorem PQ {n m0:Nat}{c:List PV}{l:List Int}(hl:l.length<=1000000){i:Nat}(hi:i<l.length / 8){q:List Int}(hq:q.length<=8):∀(r:List Int)(j nn:Nat)(x:Int),q.drop j=r->r.length<nn->j<=q.length ->
  Hr fu (Ad (CX xs) Tryz.prog fu d) n c m0 nn l.length (Af .u8 l) (l.length / 8) i ((l.length / 8:Nat):Int) i q.length (Af .u8 q) q.length j (Af .u64 ((wl l i).set i x)) =
   Gf fu (Ad (CX xs) Tryz.prog fu d) n c m0 l.length (Af .u8 l) (l.length / 8) ((l.length / 8:Nat):Int) ((i+1:Nat):Int) (Af .u64 ((wl l i).set i (r.foldl E2 x)))
 |_,_,0,_,_,h,_=>by omega
 |[],j,nn+1,x,h,hn,hj=>by
  have:=drop_nil h;have w:wrap .i64 ((i:Int)+1)=((i+1:Nat):Int):=by rw [Ak (by omega) (by omega)];omega
  rw [Od,Do _ _ _ (by omega)]
  simp only [Gw,w,List.foldl_nil]
 |b::r,j,nn+1,x,h,hn,hj=>by
  obtain ⟨h1,h2,h3⟩:=Cm h;simp only [Jz] at hn;have w:wrap .i64 ((j:Int)+1)=((j+1:Nat):Int):=by rw [Ak (by omega) (by omega)];omega
  have L:(Af .u64 ((wl l i).set i x)).length=l.length / 8:=by rw [Aj,List.length_set,Aij l (by omega)]
  have hat:(Af .u64 ((wl l i).set i x)).getD i .top=.sc (.int .u64 x):=W5 (by rw [List.getElem?_set_self (by rw [Aij l (by omega)];omega)])
  have hset:Bg (Af .u64 ((wl l i).set i x)) [.sc (.int .u64 (E2 x b))] i=Af .u64 ((wl l i).set i (E2 x b)):=by
   rw [E6 (by omega),Jk,List.set_set]
  have ih:=PQ (n:=n) (m0:=m0) (c:=c) hl hi hq r (j+1) nn (E2 x b) h3 (by omega) (by omega)
  rw [List.foldl_cons,←ih,Od];simp (disch:=omega) only [Bv,H3,Cb,C3,W5 h2,hat,L,w];exact congrArg _ hset
theorem FD {n:Nat}{c:List PV}{l:List Int}(hl:l.length<=1000000)(hfu:100<=fu):∀(k i nn:Nat),i+k=l.length / 8->k<nn ->
  Gf fu (Ad (CX xs) Tryz.prog fu d) n c nn l.length (Af .u8 l) (l.length / 8) ((l.length / 8:Nat):Int) i (Af .u64 (wl l i))=some ⟨[.own 1 (l.length / 8) (Af .u64 (Fa l))],[]⟩
 |_,_,0,_,h=>by omega
 |0,i,nn+1,hi,hn=>by
  have e:i=l.length / 8:=by omega
  subst e;have e2:wl l (l.length / 8)=Fa l:=by unfold wl Fa;simp
  have L:(Af .u64 (Fa l)).length=l.length / 8:=by rw [Aj];simp [Fa]
  have tk:List.take (l.length / 8) (Af .u64 (Fa l))=Af .u64 (Fa l):=R6 (by omega)
  rw [O1,Do _ _ _ (by omega),e2]
  simp (disch:=omega) only [Bv,Cb,L,tk]
 |k+1,i,nn+1,hi,hn=>by
  have ih:=FD (n:=n) (c:=c) hl hfu k (i+1) nn (by omega) (by omega)
  have w8:wrap .i64 (8*(i:Int))=((8*i:Nat):Int):=by rw [Ak (by omega) (by omega)];omega
  have w88:wrap .i64 (((8*i:Nat):Int)+8)=((8*i+8:Nat):Int):=by rw [Ak (by omega) (by omega)];omega
  have e8:8*i+8-8*i=8:=by omega
  have hdl:((l.drop (8*i)).take 8).length=8:=by rw [List.length_take,List.length_drop];omega
  have st:=PQ (xs:=xs) (fu:=fu) (d:=d) (n:=n) (m0:=nn) (c:=c) hl (i:=i) (by omega) (q:=(l.drop (8*i)).take 8) (by omega) ((l.drop (8*i)).take 8) 0 fu 0 rfl (by omega) (by omega)
  rw [Ajj l (by omega),hdl] at st
  have ew:((l.drop (8*i)).take 8).foldl E2 0=Qk l i:=rfl;rw [ew,Anc l (by omega),ih] at st
  rw [O1];simp (disch:=omega) only [Bv,H3,Cb,w8,w88,e8,Hs,Nw];exact st
theorem KA (n:Nat):Qy n [.sc (.int .u64 0)]=Af .u64 (List.replicate n 0):=by
 induction n with
 |zero=>rfl
 |succ n ih=>
  show ([PV.sc (.int .u64 0)]::List.replicate n [PV.sc (.int .u64 0)]).flatten=_;rw [List.flatten_cons,List.replicate_succ];show _++Qy n [.sc (.int .u64 0)]=PV.sc (.int .u64 0)::Af .u64 (List.replicate n 0);rw [ih];rfl
theorem DU {l:List Int}(hl:l.length<=1000000)(hfu:100<=fu)(hf:l.length<fu):Ad (CX xs) Tryz.prog fu (d+1) Td [.lst false 1 l.length (Af .u8 l)]=some ⟨[.own 1 (l.length / 8) (Af .u64 (Fa l))],[]⟩:=by
 rw [GR]
 have w:wrap .i64 (Int.tdiv (l.length:Int) 8)=((l.length / 8:Nat):Int):=by
  rw [Int.tdiv_eq_ediv_of_nonneg (by omega),Ak (by omega) (by omega)]
  omega
 have lp:=FD (xs:=xs) (fu:=fu) (d:=d) (n:=l.length) (c:=Af .u8 l) hl hfu (l.length / 8) 0 fu (by omega) (by omega)
 have e0:wl l 0=List.replicate (l.length / 8) 0:=by unfold wl;simp
 rw [e0] at lp;simp (disch:=omega) only [Bv,w,H3,KA,Int.le_refl];exact lp
def LW (l:List Int):Option Ky:=if l.length=9∧Cx (l.getD 0 0)=false then some ⟨l.getD 0 0,Qk (l.drop 1) 0⟩ else none
def ZQ (o:Option Ky):List PV:=match o with|some k=>[.agg k.cells,.sc (.int .i64 0)]|none=>[.agg (Ky.mk 0 0).cells,.sc (.int .i64 2)]
theorem Ad3 (hfu:1000<=fu){l:List Int}(hb:Jv l):Ad (CX xs) Tryz.prog fu (d+2) Nc [.lst false 1 l.length (Af .u8 l)]=some ⟨ZQ (LW l),[]⟩:=by
 refine (Wj fu (d+1) l.length (Af .u8 l)).trans ?_;unfold LW;by_cases h9:l.length=9
 ·obtain ⟨x,hx⟩:∃x,l[0]?=some x:=⟨_,List.getElem?_eq_getElem (by omega)⟩
  have hxb:=hb x (List.mem_of_getElem? hx);have wx:wrap .i64 x=x:=Ak (by omega) (by omega)
  have gx:l.getD 0 0=x:=by rw [List.getD_eq_getElem?_getD,hx];rfl
  have h1:=S5 (xs:=xs) (fu:=fu) (d:=d) x;rw [gx];cases c1:Cx x
  ·rw [c1] at h1;have hdl:(l.drop 1).length=8:=by rw [List.length_drop];omega
   have dw:=DU (xs:=xs) (fu:=fu) (d:=d) (l:=l.drop 1) (by omega) (by omega) (by omega)
   rw [hdl] at dw;have hat:(Af .u64 (Fa (l.drop 1))).getD 0 .top=.sc (.int .u64 (Qk (l.drop 1) 0)):=W5 (by unfold Fa;rw [hdl];rfl)
   have e8:9-1=8:=rfl;have tk:List.take 8 (Af .u8 (l.drop 1))=Af .u8 (l.drop 1):=R6 (by rw [Aj];omega)
   rw [B4 ⟨h9,rfl⟩,h9];simp (disch:=omega) only [Bv,Ep,W5 hx,wx,h1,Cb,Hs,e8,tk,dw,hat];rfl
  ·rw [c1] at h1;rw [A5 (by simp),h9]
   simp (disch:=omega) only [Bv,Ep,W5 hx,wx,h1];rfl
 ·rw [A5 (by simp [h9])]
  simp (disch:=omega) only [Ep];rw [A5 (by omega)]
  rfl
def sgD (l:List Int):Option Sg:=
 if 2<=l.length∧Cx (l.getD 1 0)=false∧Hb (l.getD 0 0) (l.getD 1 0)=false∧(l.length:Int)=2+8*(18+l.getD 1 0) then some ⟨l.getD 0 0,Fa ((l.drop 2).take 144),Fa (l.drop 146)⟩ else none
def Sg.owned (s:Sg):List PV:=[.sc (.int .i64 s.leaf),.own 1 s.chains.length (Af .u64 s.chains),.own 1 s.path.length (Af .u64 s.path)]
def Aa7 (o:Option Sg):List PV:=match o with|some s=>[.agg s.owned,.sc (.int .i64 0)]|none=>[.agg (Sg.mk 0 [] []).owned,.sc (.int .i64 2)]
theorem Pa (l:List Int):(Fa l).length=l.length / 8:=by simp [Fa]
theorem Aez (hfu:1000<=fu){l:List Int}(hb:Jv l):Ad (CX xs) Tryz.prog fu (d+2) Hy [.lst false 1 l.length (Af .u8 l)]=some ⟨Aa7 (sgD l),[]⟩:=by
 refine (Pn fu (d+1) l.length (Af .u8 l)).trans ?_;unfold sgD;by_cases h2:2<=l.length
 ·obtain ⟨x,hx⟩:∃x,l[0]?=some x:=⟨_,List.getElem?_eq_getElem (by omega)⟩
  obtain ⟨y,hy⟩:∃y,l[1]?=some y:=⟨_,List.getElem?_eq_getElem (by omega)⟩
  have hxb:=hb x (List.mem_of_getElem? hx);have hyb:=hb y (List.mem_of_getElem? hy);have wx:wrap .i64 x=x:=Ak (by omega) (by omega)
  have wy:wrap .i64 y=y:=Ak (by omega) (by omega)
  have gx:l.getD 0 0=x:=by rw [List.getD_eq_getElem?_getD,hx];rfl
  have gy:l.getD 1 0=y:=by rw [List.getD_eq_getElem?_getD,hy];rfl
  have h1:=S5 (xs:=xs) (fu:=fu) (d:=d) y;have ho:=O8 (xs:=xs) (fu:=fu) (d:=d) x y (by omega)
  have w1:wrap .i64 (18+y)=18+y:=Ak (by omega) (by omega)
  have w2:wrap .i64 (8*(18+y))=8*(18+y):=Ak (by omega) (by omega)
  have w3:wrap .i64 (2+8*(18+y))=2+8*(18+y):=Ak (by omega) (by omega)
  rw [gx,gy];cases c1:Cx y
  ·rw [c1] at h1;cases c2:Hb x y
   ·rw [c2] at ho;by_cases c3:(l.length:Int)=2+8*(18+y)
    ·have hy4:=G8 c1;have d1:=DU (xs:=xs) (fu:=fu) (d:=d) (l:=(l.drop 2).take 144) (by rw [List.length_take,List.length_drop];omega) (by omega) (by rw [List.length_take,List.length_drop];omega)
     have d2:=DU (xs:=xs) (fu:=fu) (d:=d) (l:=l.drop 146) (by rw [List.length_drop];omega) (by omega) (by rw [List.length_drop];omega)
     have l1:((l.drop 2).take 144).length=144:=by rw [List.length_take,List.length_drop];omega
     have l2:(l.drop 146).length=l.length-146:=List.length_drop;rw [l1] at d1;have L1:(Af .u64 (Fa ((l.drop 2).take 144))).length=18:=by rw [Aj,Pa,l1]
     have L2:(Af .u64 (Fa (l.drop 146))).length=(l.length-146) / 8:=by rw [Aj,Pa,l2]
     rw [l2] at d2;have t1:List.take (144 / 8) (Af .u64 (Fa ((l.drop 2).take 144)))=Af .u64 (Fa ((l.drop 2).take 144)):=R6 (by omega)
     have t2:List.take ((l.length-146) / 8) (Af .u64 (Fa (l.drop 146)))=Af .u64 (Fa (l.drop 146)):=R6 (by omega)
     have t3:List.take (l.length-146) (l.drop 146)=l.drop 146:=R6 (by omega)
     rw [B4 ⟨h2,rfl,rfl,c3⟩];simp (disch:=omega) only [Bv,Ep,W5 hx,W5 hy,wx,wy,h1,ho,w1,w2,w3,Cb,Hs,Nw,d1,d2,t3,L1,L2,t1,t2];rw [B4 c3];simp only [Aa7,Sg.owned,Pa,l1,l2]
    ·rw [A5 (by simp [c3])]
     simp (disch:=omega) only [Bv,Ep,W5 hx,W5 hy,wx,wy,h1,ho,w1,w2,w3];rw [A5 c3];rfl
   ·rw [c2] at ho;rw [A5 (by simp)]
    simp (disch:=omega) only [Bv,Ep,W5 hx,W5 hy,wx,wy,h1,ho];rfl
  ·rw [c1] at h1;rw [A5 (by simp)]
   simp (disch:=omega) only [Bv,Ep,W5 hx,W5 hy,wx,wy,h1];rfl
 ·rw [A5 (by simp [h2])]
  simp (disch:=omega) only [Bv];rfl
end
end
section
open Go.IntKind (wrap)
def EN (seed leaf chain:Int):Int:=Akr seed 1 (Ar [wrap .u64 leaf,wrap .u64 chain])
def Wz (seed leaf:Int)(c:Nat):Int:=Qo leaf c 15 0 (EN seed leaf c)
def Hi (seed leaf:Int):Int:=Xm leaf ((List.range 18).map (Wz seed leaf))
def Uf (seed leaf m:Int)(c:Nat):Int:=Qo leaf c (dg m c).toNat 0 (EN seed leaf c)
def H4 (seed leaf m:Int):List Int:=(List.range 18).map (Uf seed leaf m)
def Bu (seed:Int):Nat->Int->Int
 |0,i=>Hi seed i
 |l+1,i=>Lj ((l+1:Nat):Int) (Bu seed l (2*i)) (Bu seed l (2*i+1))
def K0 (seed:Int)(h:Int):Ky:=if Cx h=true then ⟨0,0⟩ else ⟨h,Bu seed h.toNat 0⟩
def Fe (leaf:Int)(k:Nat):Int:=Dq .i64 (Dw .i64 leaf k) 1
def AV (seed:Int)(h leaf m:Int):Option Sg:=if Cx h=true then none else if Hb leaf h=true then none else some ⟨leaf,H4 seed leaf m,(List.range h.toNat).map fun k=>Bu seed k (Fe leaf k)⟩
def QP (o:Option Sg):List PV:=match o with|some s=>[.agg s.owned,.sc (.int .i64 0)]|none=>[.agg (Sg.mk 0 [] []).owned,.sc (.int .i64 9)]
end
section
open Go.IntKind (wrap)
set_option maxRecDepth 20000
section
variable {fu d:Nat} {xs:FuncId->Option (List PV->Option Au)}
theorem Al1 {l:List Int}(hb:Jv l)(hl:l.length<=1099511627776)(hfu:100<=fu)(hf:l.length<fu)(key dom:Int):Ad (CX xs) Tryz.prog fu (d+5) AN [.sc (.int .u64 key),.sc (.int .i64 dom),.lst false 1 l.length (Af .u8 l)]=some ⟨[.sc (.int .u64 (Akr key dom l))],[]⟩:=by
 rw [SX];have s:=Agh (xs:=xs) (fu:=fu) (d:=d) hb hl hfu hf key (wrap .u64 (1+wrap .u64 dom));simp only [Bv,s];rfl
theorem OT (hfu:1000<=fu)(seed leaf chain:Int):Ad (CX xs) Tryz.prog fu (d+6) Ra [.sc (.int .u64 seed),.sc (.int .i64 leaf),.sc (.int .i64 chain)]=some ⟨[.sc (.int .u64 (EN seed leaf chain))],[]⟩:=by
 have wd:Ad (CX xs) Tryz.prog fu (d+5) E9 [.lst false 1 2 [.sc (.int .u64 (wrap .u64 leaf)),.sc (.int .u64 (wrap .u64 chain))]]=_:=Oo (ws:=[wrap .u64 leaf,wrap .u64 chain]) (by simp) (by omega) (by simp;omega)
 have hs:=Al1 (xs:=xs) (fu:=fu) (d:=d) (Rs [wrap .u64 leaf,wrap .u64 chain]) (by rw [Cq];simp) (by omega) (by rw [Cq];simp;omega) seed 1
 have L:=Aj .u8 (Ar [wrap .u64 leaf,wrap .u64 chain]);rw [CR];unfold EN;generalize Ar [wrap .u64 leaf,wrap .u64 chain]=W at wd hs L ⊢;simp (disch:=omega) only [Bv,wd,Cb,C3,El,I1,L,hs]
def pl (g:Nat->Int)(i:Nat):List Int:=(List.range i).map g++List.replicate (18-i) 0
theorem ZG (g:Nat->Int){i:Nat}(h:i<=18):(pl g i).length=18:=by simp [pl];omega
theorem Agw (g:Nat->Int){i:Nat}(h:i<18):(pl g i).set i (g i)=pl g (i+1):=by
 unfold pl;rw [List.set_append_right _ _ (by simp),List.length_map,List.length_range,Nat.sub_self,show 18-i=(18-(i+1))+1 by omega,List.replicate_succ,List.set_cons_zero,List.range_succ,List.map_append,YM]
 rfl
theorem Alp (g:Nat->Int):pl g 18=(List.range 18).map g:=by simp [pl]
theorem EV {a0 a1 seed leaf:Int}(hfu:1000<=fu):∀(k i nn:Nat),i+k=18->k<nn ->
  Eo fu (Ad (CX xs) Tryz.prog fu (d+6)) a0 a1 nn seed leaf i (Af .u64 (pl (Wz seed leaf) i))=Eo fu (Ad (CX xs) Tryz.prog fu (d+6)) a0 a1 (nn-k) seed leaf 18 (Af .u64 (pl (Wz seed leaf) 18))
 |_,_,0,_,h=>by omega
 |0,i,nn+1,hi,hn=>by
  have e:i=18:=by omega
  subst e;rfl
 |k+1,i,nn+1,hi,hn=>by
  have ih:=EV (a0:=a0) (a1:=a1) (seed:=seed) (leaf:=leaf) hfu k (i+1) nn (by omega) (by omega)
  have w:wrap .i64 ((i:Int)+1)=((i+1:Nat):Int):=by rw [Ak (by omega) (by omega)];omega
  have sc:=OT (xs:=xs) (fu:=fu) (d:=d) hfu seed leaf i;have rn:=YU (xs:=xs) (fu:=fu) (d:=d) (leaf:=leaf) (chain:=i) hfu 15 0 15 (EN seed leaf i) (by omega) (by omega) (by omega)
  have ev:Qo leaf i 15 0 (EN seed leaf i)=Wz seed leaf i:=rfl;rw [ev] at rn;have L:(Af .u64 (pl (Wz seed leaf) i)).length=18:=by rw [Aj,ZG _ (by omega)]
  have hset:Bg (Af .u64 (pl (Wz seed leaf) i)) [.sc (.int .u64 (Wz seed leaf i))] i=Af .u64 (pl (Wz seed leaf) (i+1)):=by
   rw [E6 (by omega),Jk,Agw _ (by omega)]
  rw [show nn+1-(k+1)=nn-k by omega,←ih,M5]
  simp (disch:=omega) only [Bv,H3,Cb,C3,sc,rn,L,hset,w]
theorem YW (hfu:1000<=fu){a0 a1 seed leaf:Int}{nn:Nat}{E:List Int}(hE:E.length=18):
  Eo fu (Ad (CX xs) Tryz.prog fu (d+6)) a0 a1 (nn+1) seed leaf 18 (Af .u64 E)=some ⟨[.sc (.int .u64 (Xm leaf E))],[]⟩:=by
 match E,hE with
 |[e0,e1,e2,e3,e4,e5,e6,e7,e8,e9,e10,e11,e12,e13,e14,e15,e16,e17],hE=>
  have cb:=LX (xs:=xs) (fu:=fu) (d:=d) hfu leaf hE;have hc:Af .u64 [e0,e1,e2,e3,e4,e5,e6,e7,e8,e9,e10,e11,e12,e13,e14,e15,e16,e17]=[.sc (.int .u64 e0),.sc (.int .u64 e1),.sc (.int .u64 e2),.sc (.int .u64 e3),.sc (.int .u64 e4),.sc (.int .u64 e5),.sc (.int .u64 e6),.sc (.int .u64 e7),.sc (.int .u64 e8),.sc (.int .u64 e9),.sc (.int .u64 e10),.sc (.int .u64 e11),.sc (.int .u64 e12),.sc (.int .u64 e13),.sc (.int .u64 e14),.sc (.int .u64 e15),.sc (.int .u64 e16),.sc (.int .u64 e17)]:=rfl;rw [hc] at cb ⊢;generalize Xm leaf [e0,e1,e2,e3,e4,e5,e6,e7,e8,e9,e10,e11,e12,e13,e14,e15,e16,e17]=R at cb ⊢;rw [M5,Do _ _ _ (by omega)]
  simp (disch:=omega) only [Bv,W0,Wp,List.getD_cons_zero,List.getD_cons_succ,cb]
theorem Adr (hfu:1000<=fu)(seed leaf:Int):Ad (CX xs) Tryz.prog fu (d+7) Ko [.sc (.int .u64 seed),.sc (.int .i64 leaf)]=some ⟨[.sc (.int .u64 (Hi seed leaf))],[]⟩:=by
 rw [CZ];have lp:=EV (xs:=xs) (fu:=fu) (d:=d) (a0:=seed) (a1:=leaf) (seed:=seed) (leaf:=leaf) hfu 18 0 fu (by omega) (by omega)
 obtain ⟨f',hf'⟩:∃f',fu-18=f'+1:=⟨fu-19,by omega⟩
 rw [hf'] at lp;refine Eq.trans lp ?_;rw [Alp];exact YW hfu (by simp)
theorem OO {a0 a1 a2:Int}{seed leaf m:Int}(hfu:1000<=fu)(g:Nat->Int)(hg:∀k,g k=dg m k):∀(k i nn:Nat),i+k=18->k<nn ->
  Ic fu (Ad (CX xs) Tryz.prog fu (d+6)) a0 a1 a2 nn seed leaf (g 0) (g 1) (g 2) (g 3) (g 4) (g 5) (g 6) (g 7) (g 8) (g 9) (g 10) (g 11) (g 12) (g 13) (g 14) (g 15) (g 16) (g 17) i (Af .u64 (pl (Uf seed leaf m) i)) =
   some ⟨[.own 1 18 (Af .u64 (H4 seed leaf m))],[]⟩
 |_,_,0,_,h=>by omega
 |0,i,nn+1,hi,hn=>by
  have e:i=18:=by omega
  subst e;have L:(Af .u64 (pl (Uf seed leaf m) 18)).length=18:=by rw [Aj,ZG _ (by omega)]
  have T:List.take 18 (Af .u64 (pl (Uf seed leaf m) 18))=Af .u64 (H4 seed leaf m):=by rw [R6 (by omega),Alp];rfl
  rw [P6,Do _ _ _ (by omega)]
  simp (disch:=omega) only [Bv,L,T]
 |k+1,i,nn+1,hi,hn=>by
  have ih:=OO (a0:=a0) (a1:=a1) (a2:=a2) (seed:=seed) (leaf:=leaf) (m:=m) hfu g hg k (i+1) nn (by omega) (by omega)
  have hb:=V1 m i;have hgi:=Alv g (i:=i) (by omega)
  have w:wrap .i64 ((i:Int)+1)=((i+1:Nat):Int):=by rw [Ak (by omega) (by omega)];omega
  have sc:=OT (xs:=xs) (fu:=fu) (d:=d) hfu seed leaf i;have rn:=YU (xs:=xs) (fu:=fu) (d:=d) (leaf:=leaf) (chain:=i) hfu (dg m i).toNat 0 (g i) (EN seed leaf i) (by rw [hg];omega) (by omega) (by rw [hg];omega)
  have ev:Qo leaf i (dg m i).toNat 0 (EN seed leaf i)=Uf seed leaf m i:=rfl;rw [ev] at rn;have L:(Af .u64 (pl (Uf seed leaf m) i)).length=18:=by rw [Aj,ZG _ (by omega)]
  have hset:Bg (Af .u64 (pl (Uf seed leaf m) i)) [.sc (.int .u64 (Uf seed leaf m i))] i=Af .u64 (pl (Uf seed leaf m) (i+1)):=by
   rw [E6 (by omega),Jk,Agw _ (by omega)]
  rw [P6];simp (disch:=omega) only [Bv,H3,Cb,C3,hgi,sc,rn,L,hset,w];exact ih
theorem Ajh (hfu:1000<=fu)(seed leaf m:Int):Ad (CX xs) Tryz.prog fu (d+7) Pb [.sc (.int .u64 seed),.sc (.int .i64 leaf),.sc (.int .u64 m)]=some ⟨[.own 1 18 (Af .u64 (H4 seed leaf m))],[]⟩:=by
 rw [KZ];have dq:=PN (xs:=xs) (fu:=fu) (d:=d+5) hfu m;have hD:Af .i64 (OX m)=[.sc (.int .i64 (dg m 0)),.sc (.int .i64 (dg m 1)),.sc (.int .i64 (dg m 2)),.sc (.int .i64 (dg m 3)),.sc (.int .i64 (dg m 4)),.sc (.int .i64 (dg m 5)),.sc (.int .i64 (dg m 6)),.sc (.int .i64 (dg m 7)),.sc (.int .i64 (dg m 8)),.sc (.int .i64 (dg m 9)),.sc (.int .i64 (dg m 10)),.sc (.int .i64 (dg m 11)),.sc (.int .i64 (dg m 12)),.sc (.int .i64 (dg m 13)),.sc (.int .i64 (dg m 14)),.sc (.int .i64 (dg m 15)),.sc (.int .i64 (dg m 16)),.sc (.int .i64 (dg m 17))]:=rfl;rw [hD] at dq;simp only [Bv,dq];exact OO (fu:=fu) (d:=d) (a0:=seed) (a1:=leaf) (a2:=m) hfu (dg m) (fun _=>rfl) 18 0 fu (by omega) (by omega)
end
end
section
open Go.IntKind (wrap)
def LD (h leaf:Int):Bool:=Cx h||Hb leaf h
def tkL (h leaf:Int):Int:=if LD h leaf=true then 0 else leaf
def tkC (seed h leaf m:Int):List Int:=if LD h leaf=true then [] else H4 seed leaf m
def tkP (seed h leaf:Int):List Int:=if LD h leaf=true then [] else (List.range h.toNat).map fun k=>Bu seed k (Fe leaf k)
def tkE (h leaf:Int):Int:=if LD h leaf=true then 9 else 0
def Alz (args:List PV):Option Au:=
 match args with
 |[.sc (.int .u64 seed),.sc (.int .i64 h),.sc (.int .i64 leaf),.sc (.int .u64 m)]=>
  some ⟨[.agg [.sc (.int .i64 (tkL h leaf)),.lst false 1 (tkC seed h leaf m).length (Af .u64 (tkC seed h leaf m)),.lst false 1 (tkP seed h leaf).length (Af .u64 (tkP seed h leaf))],.sc (.int .i64 (tkE h leaf))],[]⟩
 |_=>none
def Is (f:FuncId):Option (List PV->Option Au):=
 bif Nat.beq f 56 then some KG else
 bif Nat.beq f 133 then some Vp else
 bif Nat.beq f 37 then some Alz else
 bif Nat.beq f 1000000 then some (fun _=>none) else none
abbrev C0:G4:=CX Is
end
section
open Go.IntKind (wrap)
set_option maxRecDepth 100000
abbrev Mi:FuncId:=38
theorem Vn (fu d:Nat)(a0:Int):Ad C0 Tryz.prog fu (d+1) Mi [.sc (.int .i64 a0)]=(fun (call:Ai)=>Bb (decide (a0>=0)) (some (Au.mk [.sc (.bool (decide (a0<=4)))] [])) (some (Au.mk [.sc (.bool false)] []))) (Ad C0 Tryz.prog fu d):=by kernel_rfl
abbrev Mt:FuncId:=95
noncomputable def Fu (fu:Nat)(call:Ai)(a0:Int)(nn:Nat)(y0:Int)(y1:Nat)(y2 y3:Int)(y4:List PV):Option Au:=C9 CB Tryz.prog fu call 95 Tryz.f95 (B5 Tryz.f95) [.sc (.int .u64 a0)] [.r,.r,.r,.l,.r,.l] nn ⟨lk [(0,(.sc (.int .u64 y0))),(3,(.view 3 1 0 y1)),(4,(.sc (.int .i64 y2))),(5,(.sc (.int .i64 y3)))],B3 [(3,(.ar false y4))]⟩
theorem Jg (fu:Nat)(call:Ai)(a0:Int)(nn:Nat)(y0:Int)(y1:Nat)(y2 y3:Int)(y4:List PV):Fu fu call a0 (nn+1) y0 y1 y2 y3 y4=(Bb (decide (y3>=0)) (Aa (wrap .i64 (4*y3)) fun x1=>Aa (wrap .u64 x1) fun x2=>Ap (decide (0<=x2))<|Aa (Dw .u64 y0 x2) fun x3=>Aa (Rw .u64 x3 15) fun x4=>Aa (wrap .i64 x4) fun x5=>Ap (decide (y1*1<=y4.length)&&true&&decide ((y1+1)*8<=1099511627776)&&decide (y1+1<=1099511627776))<|Aa (y1+1) fun x6=>Aa (List.take (y1*1) y4++[.sc (.int .i64 x5)]) fun x7=>Aa (wrap .i64 (15-x5)) fun x8=>Aa (wrap .i64 (y2+x8)) fun x9=>Aa (wrap .i64 (y3-1)) fun Cg=>Fu fu call a0 (nn) (y0) x6 x9 Cg x7) (Aa (wrap .i64 (Int.tdiv y2 16)) fun Cj=>Aa (Int.tmod y2 16) fun Dd=>Ap (decide (y1*1<=y4.length)&&true&&decide ((y1+2)*8<=1099511627776)&&decide (y1+2<=1099511627776))<|Aa (y1+2) fun Dk=>Aa (List.take (y1*1) y4++[.sc (.int .i64 Cj),.sc (.int .i64 Dd)]) fun C6=>Ap (decide (Dk*1<=C6.length))<|some (Au.mk [.own 1 Dk (List.take (Dk*1) C6)] []))):=by kernel_rfl
theorem Wq (fu d:Nat)(a0:Int):Ad C0 Tryz.prog fu (d+1) Mt [.sc (.int .u64 a0)]=(fun (call:Ai)=>Fu fu call a0 (fu) (a0) 0 0 15 ([])) (Ad C0 Tryz.prog fu d):=by kernel_rfl
abbrev Pu:FuncId:=96
noncomputable def Gt (fu:Nat)(call:Ai)(a0 a1:Int)(a2 a3 a4:Int)(nn:Nat)(y0 y1:Int)(y2 y3 y4:Int):Option Au:=C9 CB Tryz.prog fu call 96 Tryz.f96 (B5 Tryz.f96) [.sc (.int .i64 a0),.sc (.int .i64 a1),.sc (.int .i64 a2),.sc (.int .i64 a3),.sc (.int .u64 a4)] [.r,.l,.r,.l] nn ⟨lk [(0,(.sc (.int .i64 y0))),(1,(.sc (.int .i64 y1))),(3,(.sc (.int .i64 y2))),(4,(.sc (.int .u64 y3))),(11,(.sc (.int .i64 y4)))],B3 []⟩
theorem L7 (fu:Nat)(call:Ai)(a0 a1:Int)(a2 a3 a4:Int)(nn:Nat)(y0 y1:Int)(y2 y3 y4:Int):Gt fu call a0 a1 a2 a3 a4 (nn+1) y0 y1 y2 y3 y4=(Aa (if 15<y2 then 15 else y2) fun x2=>Bb (decide (y4<x2)) (Aa (wrap .u64 y0) fun x3=>Aa (wrap .u64 y1) fun x4=>Aa (wrap .u64 y4) fun x5=>Ag (call 84 [.lst false 1 4 [.sc (.int .u64 x3),.sc (.int .u64 x4),.sc (.int .u64 x5),.sc (.int .u64 y3)]]) fun x6 x7=>Ac x7<|Ab x6 fun x8 x9=>D0 1 x8 fun Cg Cj=>Ac x9<|Ap (decide (0+Cg*1<=Cj.length))<|Ag (call 34 [.sc (.int .i64 1),.lst false 1 Cg (List.take (Cg*1) (List.drop 0 Cj))]) fun Dd Dk=>Ac Dk<|Ab Dd fun C6 Du=>Ae .u64 C6 fun D7=>Ac Du<|Aa (wrap .i64 (y4+1)) fun Ed=>Gt fu call a0 a1 a2 a3 a4 (nn) (y0) (y1) (y2) D7 Ed) (some (Au.mk [.sc (.int .u64 y3)] []))):=by kernel_rfl
theorem BI (fu d:Nat)(a0 a1:Int)(a2 a3 a4:Int):Ad C0 Tryz.prog fu (d+1) Pu [.sc (.int .i64 a0),.sc (.int .i64 a1),.sc (.int .i64 a2),.sc (.int .i64 a3),.sc (.int .u64 a4)]=(fun (call:Ai)=>Aa (if a2<0 then 0 else a2) fun x1=>Gt fu call a0 a1 a2 a3 a4 (fu) (a0) (a1) (a3) (a4) x1) (Ad C0 Tryz.prog fu d):=by kernel_rfl
abbrev Lz:FuncId:=97
theorem Uo (fu d:Nat)(a0 a1 a2:Int):Ad C0 Tryz.prog fu (d+1) Lz [.sc (.int .u64 a0),.sc (.int .i64 a1),.sc (.int .i64 a2)]=(fun (call:Ai)=>Aa (wrap .u64 a1) fun x1=>Aa (wrap .u64 a2) fun x2=>Ag (call 84 [.lst false 1 2 [.sc (.int .u64 x1),.sc (.int .u64 x2)]]) fun x3 x4=>Ac x4<|Ab x3 fun x5 x6=>D0 1 x5 fun x7 x8=>Ac x6<|Ap (decide (0+x7*1<=x8.length))<|Ag (call 88 [.sc (.int .u64 a0),.sc (.int .i64 1),.lst false 1 x7 (List.take (x7*1) (List.drop 0 x8))]) fun x9 Cg=>Ac Cg<|Ab x9 fun Cj Dd=>Ae .u64 Cj fun Dk=>Ac Dd<|some (Au.mk [.sc (.int .u64 Dk)] [])) (Ad C0 Tryz.prog fu d):=by kernel_rfl
abbrev Oh:FuncId:=109
theorem Y5 (fu d:Nat)(a0:Int)(a1n:Nat)(a1:List PV):Ad C0 Tryz.prog fu (d+1) Oh [.sc (.int .i64 a0),.lst false 1 a1n a1]=(fun (call:Ai)=>Aa (wrap .u64 a0) fun x1=>Ag (call 84 [.lst false 1 1 [.sc (.int .u64 x1)]]) fun x2 x3=>Ac x3<|Ab x2 fun x4 x5=>D0 1 x4 fun x6 x7=>Ac x5<|Ag (call 84 [.lst false 1 a1n a1]) fun x8 x9=>Ac x9<|Ab x8 fun Cg Cj=>D0 1 Cg fun Dd Dk=>Ac Cj<|Ap (decide (0+Dd*1<=Dk.length))<|Ap (decide (x6*1<=x7.length)&&decide (List.length (List.take (Dd*1) (List.drop 0 Dk))=Dd*1)&&decide ((x6+Dd)*1<=1099511627776)&&decide (x6+Dd<=1099511627776))<|Aa (x6+Dd) fun C6=>Aa (List.take (x6*1) x7++List.take (Dd*1) (List.drop 0 Dk)) fun Du=>Ap (decide (0+C6*1<=Du.length))<|Ag (call 34 [.sc (.int .i64 2),.lst false 1 C6 (List.take (C6*1) (List.drop 0 Du))]) fun D7 Ed=>Ac Ed<|Ab D7 fun Ex Eu=>Ae .u64 Ex fun E5=>Ac Eu<|some (Au.mk [.sc (.int .u64 E5)] [])) (Ad C0 Tryz.prog fu d):=by kernel_rfl
abbrev On:FuncId:=78
noncomputable def F4 (fu:Nat)(call:Ai)(a0 a1:Int)(nn:Nat)(y0 y1:Int)(y2:Nat)(y3:Int)(y4:List PV):Option Au:=C9 CB Tryz.prog fu call 78 Tryz.f78 (B5 Tryz.f78) [.sc (.int .u64 a0),.sc (.int .i64 a1)] [.r,.r,.l,.r,.l] nn ⟨lk [(0,(.sc (.int .u64 y0))),(1,(.sc (.int .i64 y1))),(5,(.view 5 1 0 y2)),(6,(.sc (.int .i64 y3)))],B3 [(5,(.ar false y4))]⟩
theorem Kj (fu:Nat)(call:Ai)(a0 a1:Int)(nn:Nat)(y0 y1:Int)(y2:Nat)(y3:Int)(y4:List PV):F4 fu call a0 a1 (nn+1) y0 y1 y2 y3 y4=(Bb (decide (y3<18)) (Ag (call 97 [.sc (.int .u64 y0),.sc (.int .i64 y1),.sc (.int .i64 y3)]) fun x1 x2=>Ac x2<|Ab x1 fun x3 x4=>Ae .u64 x3 fun x5=>Ac x4<|Ag (call 96 [.sc (.int .i64 y1),.sc (.int .i64 y3),.sc (.int .i64 0),.sc (.int .i64 15),.sc (.int .u64 x5)]) fun x6 x7=>Ac x7<|Ab x6 fun x8 x9=>Ae .u64 x8 fun Cg=>Ac x9<|Ap (decide (y2*1<=y4.length)&&true&&decide ((y2+1)*8<=1099511627776)&&decide (y2+1<=1099511627776))<|Aa (y2+1) fun Cj=>Aa (List.take (y2*1) y4++[.sc (.int .u64 Cg)]) fun Dd=>Aa (wrap .i64 (y3+1)) fun Dk=>F4 fu call a0 a1 (nn) (y0) (y1) Cj Dk Dd) (Ap (decide (0+y2*1<=y4.length))<|Ag (call 109 [.sc (.int .i64 y1),.lst false 1 y2 (List.take (y2*1) (List.drop 0 y4))]) fun C6 Du=>Ac Du<|Ab C6 fun D7 Ed=>Ae .u64 D7 fun Ex=>Ac Ed<|some (Au.mk [.sc (.int .u64 Ex)] []))):=by kernel_rfl
theorem Yd (fu d:Nat)(a0 a1:Int):Ad C0 Tryz.prog fu (d+1) On [.sc (.int .u64 a0),.sc (.int .i64 a1)]=(fun (call:Ai)=>F4 fu call a0 a1 (fu) (a0) (a1) 0 0 ([])) (Ad C0 Tryz.prog fu d):=by kernel_rfl
abbrev Ji:FuncId:=64
noncomputable def En (fu:Nat)(call:Ai)(a0 a1 a2:Int)(nn:Nat)(y0 y1:Int)(y2 y3:Nat)(y4:Int)(y5 y6:List PV):Option Au:=C9 CB Tryz.prog fu call 64 Tryz.f64 (B5 Tryz.f64) [.sc (.int .u64 a0),.sc (.int .i64 a1),.sc (.int .u64 a2)] [.r,.r,.r,.l,.r,.l] nn ⟨lk [(0,(.sc (.int .u64 y0))),(1,(.sc (.int .i64 y1))),(7,(.view 7 1 0 y2)),(8,(.view 8 1 0 y3)),(9,(.sc (.int .i64 y4)))],B3 [(7,(.ar false y5)),(8,(.ar false y6))]⟩
theorem Hw (fu:Nat)(call:Ai)(a0 a1 a2:Int)(nn:Nat)(y0 y1:Int)(y2 y3:Nat)(y4:Int)(y5 y6:List PV):En fu call a0 a1 a2 (nn+1) y0 y1 y2 y3 y4 y5 y6=(Bb (decide (y4<18)) (Ap (decide (0<=y4)&&decide (y4<(↑y2:Int)))<|Ae .i64 (List.getD y5 (0+Int.toNat y4*1) .top) fun x7=>Ag (call 97 [.sc (.int .u64 y0),.sc (.int .i64 y1),.sc (.int .i64 y4)]) fun x8 x9=>Ac x9<|Ab x8 fun Cg Cj=>Ae .u64 Cg fun Dd=>Ac Cj<|Ag (call 96 [.sc (.int .i64 y1),.sc (.int .i64 y4),.sc (.int .i64 0),.sc (.int .i64 x7),.sc (.int .u64 Dd)]) fun Dk C6=>Ac C6<|Ab Dk fun Du D7=>Ae .u64 Du fun Ed=>Ac D7<|Ap (decide (y3*1<=y6.length)&&true&&decide ((y3+1)*8<=1099511627776)&&decide (y3+1<=1099511627776))<|Aa (y3+1) fun Ex=>Aa (List.take (y3*1) y6++[.sc (.int .u64 Ed)]) fun Eu=>Aa (wrap .i64 (y4+1)) fun E5=>En fu call a0 a1 a2 (nn) (y0) (y1) (y2) Ex E5 (y5) Eu) (Ap (decide (y3*1<=y6.length))<|some (Au.mk [.own 1 y3 (List.take (y3*1) y6)] []))):=by kernel_rfl
theorem Sz (fu d:Nat)(a0 a1 a2:Int):Ad C0 Tryz.prog fu (d+1) Ji [.sc (.int .u64 a0),.sc (.int .i64 a1),.sc (.int .u64 a2)]=(fun (call:Ai)=>Ag (call 95 [.sc (.int .u64 a2)]) fun x1 x2=>Ac x2<|Ab x1 fun x3 x4=>D0 1 x3 fun x5 x6=>Ac x4<|En fu call a0 a1 a2 (fu) (a0) (a1) x5 0 0 x6 ([])) (Ad C0 Tryz.prog fu d):=by kernel_rfl
abbrev Mh:FuncId:=79
theorem Uu (fu d:Nat)(a0 a1 a2:Int):Ad C0 Tryz.prog fu (d+1) Mh [.sc (.int .i64 a0),.sc (.int .u64 a1),.sc (.int .u64 a2)]=(fun (call:Ai)=>Aa (wrap .u64 a0) fun x1=>Ag (call 84 [.lst false 1 3 [.sc (.int .u64 x1),.sc (.int .u64 a1),.sc (.int .u64 a2)]]) fun x2 x3=>Ac x3<|Ab x2 fun x4 x5=>D0 1 x4 fun x6 x7=>Ac x5<|Ap (decide (0+x6*1<=x7.length))<|Ag (call 34 [.sc (.int .i64 3),.lst false 1 x6 (List.take (x6*1) (List.drop 0 x7))]) fun x8 x9=>Ac x9<|Ab x8 fun Cg Cj=>Ae .u64 Cg fun Dd=>Ac Cj<|some (Au.mk [.sc (.int .u64 Dd)] [])) (Ad C0 Tryz.prog fu d):=by kernel_rfl
abbrev Ob:FuncId:=39
theorem Og (fu d:Nat)(a0 a1 a2:Int):Ad C0 Tryz.prog fu (d+1) Ob [.sc (.int .u64 a0),.sc (.int .i64 a1),.sc (.int .i64 a2)]=(fun (call:Ai)=>Bb (a1==0) (Ag (call 78 [.sc (.int .u64 a0),.sc (.int .i64 a2)]) fun x1 x2=>Ac x2<|Ab x1 fun x3 x4=>Ae .u64 x3 fun x5=>Ac x4<|some (Au.mk [.sc (.int .u64 x5)] [])) (Aa (wrap .i64 (a1-1)) fun x6=>Aa (wrap .i64 (2*a2)) fun x7=>Ag (call 39 [.sc (.int .u64 a0),.sc (.int .i64 x6),.sc (.int .i64 x7)]) fun x8 x9=>Ac x9<|Ab x8 fun Cg Cj=>Ae .u64 Cg fun Dd=>Ac Cj<|Aa (wrap .i64 (a1-1)) fun Dk=>Aa (wrap .i64 (2*a2)) fun C6=>Aa (wrap .i64 (C6+1)) fun Du=>Ag (call 39 [.sc (.int .u64 a0),.sc (.int .i64 Dk),.sc (.int .i64 Du)]) fun D7 Ed=>Ac Ed<|Ab D7 fun Ex Eu=>Ae .u64 Ex fun E5=>Ac Eu<|Ag (call 79 [.sc (.int .i64 a1),.sc (.int .u64 Dd),.sc (.int .u64 E5)]) fun Hq Gn=>Ac Gn<|Ab Hq fun G3 Ds=>Ae .u64 G3 fun De=>Ac Ds<|some (Au.mk [.sc (.int .u64 De)] []))) (Ad C0 Tryz.prog fu d):=by kernel_rfl
abbrev Lo:FuncId:=18
theorem Ub (fu d:Nat)(a0 a1:Int):Ad C0 Tryz.prog fu (d+1) Lo [.sc (.int .u64 a0),.sc (.int .i64 a1)]=(fun (call:Ai)=>Ag (call 38 [.sc (.int .i64 a1)]) fun x1 x2=>Ac x2<|Ab x1 fun x3 x4=>Bm x3 fun x5=>Ac x4<|Bb (!x5) (some (Au.mk [.agg [.sc (.int .i64 0),.sc (.int .u64 0)],.sc (.int .i64 9)] [])) (Ag (call 39 [.sc (.int .u64 a0),.sc (.int .i64 a1),.sc (.int .i64 0)]) fun x6 x7=>Ac x7<|Ab x6 fun x8 x9=>Ae .u64 x8 fun Cg=>Ac x9<|some (Au.mk [.agg [.sc (.int .i64 a1),.sc (.int .u64 Cg)],.sc (.int .i64 0)] []))) (Ad C0 Tryz.prog fu d):=by kernel_rfl
abbrev Nx:FuncId:=33
noncomputable def F9 (fu:Nat)(call:Ai)(a0 a1:Int)(a2 a3:Int)(nn:Nat)(y0 y1:Int)(y2 y3 y4:Int)(y5 y6:Nat)(y7 y8:List PV)(y9:Int)(y10 Jj:Nat)(Nv Tf:List PV):Option Au:=C9 CB Tryz.prog fu call 33 Tryz.f33 (B5 Tryz.f33) [.sc (.int .u64 a0),.sc (.int .i64 a1),.sc (.int .i64 a2),.sc (.int .u64 a3)] [.r,.r,.r,.l,.r,.l] nn ⟨lk [(0,(.sc (.int .u64 y0))),(1,(.sc (.int .i64 y1))),(2,(.sc (.int .i64 y2))),(8,(.ptr 8 0)),(10,(.ptr 10 0)),(11,(.sc (.int .i64 y3)))],B3 [(8,(.st [(.sc (.int .i64 y4)),(.view 112 1 0 y5),(.view 164 1 0 y6)])),(112,(.ar false y7)),(164,(.ar false y8)),(10,(.st [(.sc (.int .i64 y9)),(.view 114 1 0 y10),(.view 166 1 0 Jj)])),(114,(.ar false Nv)),(166,(.ar false Tf))]⟩
theorem Kf (fu:Nat)(call:Ai)(a0 a1:Int)(a2 a3:Int)(nn:Nat)(y0 y1:Int)(y2 y3 y4:Int)(y5 y6:Nat)(y7 y8:List PV)(y9:Int)(y10 Jj:Nat)(Nv Tf:List PV):F9 fu call a0 a1 a2 a3 (nn+1) y0 y1 y2 y3 y4 y5 y6 y7 y8 y9 y10 Jj Nv Tf=(Bb (decide (y3<y1)) (Aa (wrap .u64 y3) fun C6=>Ap (decide (0<=C6))<|Aa (Dw .i64 y2 C6) fun Du=>Aa (Dq .i64 Du 1) fun D7=>Ag (call 39 [.sc (.int .u64 y0),.sc (.int .i64 y3),.sc (.int .i64 D7)]) fun Ed Ex=>Ac Ex<|Ab Ed fun Eu E5=>Ae .u64 Eu fun Hq=>Ac E5<|Ap (decide (Jj*1<=Tf.length)&&true&&decide ((Jj+1)*8<=1099511627776)&&decide (Jj+1<=1099511627776))<|Aa (Jj+1) fun Gn=>Aa (List.take (Jj*1) Tf++[.sc (.int .u64 Hq)]) fun G3=>Aa (wrap .i64 (y3+1)) fun Ds=>F9 fu call a0 a1 a2 a3 (nn) (y0) (y1) (y2) Ds (y4) (y5) (y6) (y7) (y8) (y9) (y10) Gn (Nv) G3) (Ap (decide (y10*1<=Nv.length))<|Ap (decide (Jj*1<=Tf.length))<|some (Au.mk [.agg [.sc (.int .i64 y9),.own 1 y10 (List.take (y10*1) Nv),.own 1 Jj (List.take (Jj*1) Tf)],.sc (.int .i64 0)] []))):=by kernel_rfl
theorem X6 (fu d:Nat)(a0 a1:Int)(a2 a3:Int):Ad C0 Tryz.prog fu (d+1) Nx [.sc (.int .u64 a0),.sc (.int .i64 a1),.sc (.int .i64 a2),.sc (.int .u64 a3)]=(fun (call:Ai)=>Ag (call 38 [.sc (.int .i64 a1)]) fun x1 x2=>Ac x2<|Ab x1 fun x3 x4=>Bm x3 fun x5=>Ac x4<|Bb (!x5) (some (Au.mk [.agg [.sc (.int .i64 0),.own 1 0 [],.own 1 0 []],.sc (.int .i64 9)] [])) (Bb (decide (a2<0)) (some (Au.mk [.agg [.sc (.int .i64 0),.own 1 0 [],.own 1 0 []],.sc (.int .i64 9)] [])) (Aa (wrap .u64 a1) fun x6=>Ap (decide (0<=x6))<|Aa (Gm .i64 1 x6) fun x7=>Bb (decide (a2>=x7)) (some (Au.mk [.agg [.sc (.int .i64 0),.own 1 0 [],.own 1 0 []],.sc (.int .i64 9)] [])) (Ag (call 64 [.sc (.int .u64 a0),.sc (.int .i64 a2),.sc (.int .u64 a3)]) fun x8 x9=>Ac x9<|Ab x8 fun Cg Cj=>D0 1 Cg fun Dd Dk=>Ac Cj<|F9 fu call a0 a1 a2 a3 (fu) (a0) (a1) (a2) 0 0 0 0 ([]) ([]) (a2) Dd 0 Dk ([]))))) (Ad C0 Tryz.prog fu d):=by kernel_rfl
abbrev Ir:FuncId:=57
theorem Qx (fu d:Nat)(a0_0 a0_1:Int):Ad C0 Tryz.prog fu (d+1) Ir [.agg [.sc (.int .i64 a0_0),.sc (.int .u64 a0_1)]]=(fun (call:Ai)=>Ag (call 38 [.sc (.int .i64 a0_0)]) fun x1 x2=>Ac x2<|Ab x1 fun x3 x4=>Bm x3 fun x5=>Ac x4<|Bb (!x5) (some (Au.mk [.own 1 0 [],.sc (.int .i64 9)] [])) (Aa (wrap .u8 a0_0) fun x6=>Ag (call 84 [.lst false 1 1 [.sc (.int .u64 a0_1)]]) fun x7 x8=>Ac x8<|Ab x7 fun x9 Cg=>D0 1 x9 fun Cj Dd=>Ac Cg<|Ap (decide (0+Cj*1<=Dd.length))<|Ap (decide (List.length (List.take (Cj*1) (List.drop 0 Dd))=Cj*1)&&decide ((1+Cj)*1<=1099511627776)&&decide (1+Cj<=1099511627776))<|Aa (1+Cj) fun Dk=>Aa ([.sc (.int .u8 x6)]++List.take (Cj*1) (List.drop 0 Dd)) fun C6=>Ap (decide (Dk*1<=C6.length))<|some (Au.mk [.own 1 Dk (List.take (Dk*1) C6),.sc (.int .i64 0)] []))) (Ad C0 Tryz.prog fu d):=by kernel_rfl
abbrev Gq:FuncId:=43
theorem Mj (fu d:Nat)(a0_0:Int)(Xg:Nat)(a0_1:List PV)(D5:Nat)(a0_2:List PV):Ad C0 Tryz.prog fu (d+1) Gq [.agg [.sc (.int .i64 a0_0),.lst false 1 Xg a0_1,.lst false 1 D5 a0_2]]=(fun (call:Ai)=>Bb (decide ((↑D5:Int)>4)) (some (Au.mk [.own 1 0 [],.sc (.int .i64 9)] [])) (Bb (decide (a0_0<0)) (some (Au.mk [.own 1 0 [],.sc (.int .i64 9)] [])) (Aa (wrap .u64 (↑D5:Int)) fun x1=>Ap (decide (0<=x1))<|Aa (Gm .i64 1 x1) fun x2=>Bb (decide (a0_0>=x2)) (some (Au.mk [.own 1 0 [],.sc (.int .i64 9)] [])) (Bb ((↑Xg:Int) != 18) (some (Au.mk [.own 1 0 [],.sc (.int .i64 4)] [])) (Aa (wrap .u8 a0_0) fun x3=>Aa (wrap .u8 (↑D5:Int)) fun x4=>Ag (call 84 [.lst false 1 Xg a0_1]) fun x5 x6=>Ac x6<|Ab x5 fun x7 x8=>D0 1 x7 fun x9 Cg=>Ac x8<|Ap (decide (0+x9*1<=Cg.length))<|Ap (decide (List.length (List.take (x9*1) (List.drop 0 Cg))=x9*1)&&decide ((2+x9)*1<=1099511627776)&&decide (2+x9<=1099511627776))<|Aa (2+x9) fun Cj=>Aa ([.sc (.int .u8 x3),.sc (.int .u8 x4)]++List.take (x9*1) (List.drop 0 Cg)) fun Dd=>Ag (call 84 [.lst false 1 D5 a0_2]) fun Dk C6=>Ac C6<|Ab Dk fun Du D7=>D0 1 Du fun Ed Ex=>Ac D7<|Ap (decide (0+Ed*1<=Ex.length))<|Ap (decide (Cj*1<=Dd.length)&&decide (List.length (List.take (Ed*1) (List.drop 0 Ex))=Ed*1)&&decide ((Cj+Ed)*1<=1099511627776)&&decide (Cj+Ed<=1099511627776))<|Aa (Cj+Ed) fun Eu=>Aa (List.take (Cj*1) Dd++List.take (Ed*1) (List.drop 0 Ex)) fun E5=>Ap (decide (Eu*1<=E5.length))<|some (Au.mk [.own 1 Eu (List.take (Eu*1) E5),.sc (.int .i64 0)] [])))))) (Ad C0 Tryz.prog fu d):=by kernel_rfl
abbrev I7:FuncId:=80
noncomputable def Ee (fu:Nat)(call:Ai)(a0n:Nat)(a0:List PV)(a1n:Nat)(a1:List PV)(nn y0:Nat)(y1:List PV)(y2:Nat)(y3:List PV)(y4:Int):Option Au:=C9 CB Tryz.prog fu call 80 Tryz.f80 (B5 Tryz.f80) [.lst false 1 a0n a0,.lst false 1 a1n a1] [.r,.r,.l,.r,.l] nn ⟨lk [(0,(.lst false 1 y0 y1)),(1,(.lst false 1 y2 y3)),(5,(.sc (.int .i64 y4)))],B3 []⟩
theorem Hh (fu:Nat)(call:Ai)(a0n:Nat)(a0:List PV)(a1n:Nat)(a1:List PV)(nn y0:Nat)(y1:List PV)(y2:Nat)(y3:List PV)(y4:Int):Ee fu call a0n a0 a1n a1 (nn+1) y0 y1 y2 y3 y4=(Bb (decide (y4<(↑y0:Int))) (Ap (decide (0<=y4)&&decide (y4<(↑y0:Int)))<|Ae .u64 (List.getD y1 (Int.toNat y4*1) .top) fun x1=>Ap (decide (0<=y4)&&decide (y4<(↑y2:Int)))<|Ae .u64 (List.getD y3 (Int.toNat y4*1) .top) fun x2=>Bb (x1 != x2) (some (Au.mk [.sc (.bool false)] [])) (Aa (wrap .i64 (y4+1)) fun x3=>Ee fu call a0n a0 a1n a1 (nn) (y0) (y1) (y2) (y3) x3)) (some (Au.mk [.sc (.bool true)] []))):=by kernel_rfl
theorem Rj (fu d a0n:Nat)(a0:List PV)(a1n:Nat)(a1:List PV):Ad C0 Tryz.prog fu (d+1) I7 [.lst false 1 a0n a0,.lst false 1 a1n a1]=(fun (call:Ai)=>Bb ((↑a0n:Int) != (↑a1n:Int)) (some (Au.mk [.sc (.bool false)] [])) (Ee fu call a0n a0 a1n a1 (fu) (a0n) (a0) (a1n) (a1) 0)) (Ad C0 Tryz.prog fu d):=by kernel_rfl
abbrev G9:FuncId:=40
theorem Nr (fu d:Nat)(a0_0:Int)(Xg:Nat)(a0_1:List PV)(D5:Nat)(a0_2:List PV)(a1_0:Int)(Alj:Nat)(a1_1:List PV)(Alg:Nat)(a1_2:List PV):Ad C0 Tryz.prog fu (d+1) G9 [.agg [.sc (.int .i64 a0_0),.lst false 1 Xg a0_1,.lst false 1 D5 a0_2],.agg [.sc (.int .i64 a1_0),.lst false 1 Alj a1_1,.lst false 1 Alg a1_2]]=(fun (call:Ai)=>Bb (a0_0==a1_0) (Ag (call 80 [.lst false 1 Xg a0_1,.lst false 1 Alj a1_1]) fun x1 x2=>Ac x2<|Ab x1 fun x3 x4=>Bm x3 fun x5=>Ac x4<|Bb x5 (Ag (call 80 [.lst false 1 D5 a0_2,.lst false 1 Alg a1_2]) fun x6 x7=>Ac x7<|Ab x6 fun x8 x9=>Bm x8 fun Cg=>Ac x9<|some (Au.mk [.sc (.bool Cg)] [])) (some (Au.mk [.sc (.bool false)] []))) (some (Au.mk [.sc (.bool false)] []))) (Ad C0 Tryz.prog fu d):=by kernel_rfl
end
section
open Go.IntKind (wrap)
theorem S0 {α:Type}(f:Nat->α)(i:Nat):(List.range (i+1)).map f=(List.range i).map f++[f i]:=by
 rw [List.range_succ,List.map_append];rfl
section
variable {fu d:Nat}
theorem Y7 (h:Int):Ad C0 Tryz.prog fu (d+1) Mi [.sc (.int .i64 h)]=some ⟨[.sc (.bool (!Cx h))],[]⟩:=by
 rw [Vn];unfold Cx;by_cases h0:h<0
 ·simp (disch:=omega) only [Bv,h0,decide_true,Bool.true_or,C8]
 ·have e:decide (h<=4) = !decide (h>4):=by
   by_cases c:h<=4
   ·have:¬h>4:=by omega
    simp [c,this]
   ·have:h>4:=by omega
    simp [c,this]
  simp (disch:=omega) only [Bv,h0,decide_false,Bool.false_or,e]
theorem YH {ws:List Int}(hl:ws.length<=100)(hfu:1000<=fu)(dom:Int):Ad C0 Tryz.prog fu (d+4) Io [.sc (.int .i64 dom),.lst false 1 (Ar ws).length (Af .u8 (Ar ws))]=some ⟨[.sc (.int .u64 (M1 dom (Ar ws)))],[]⟩:=
 WZ (xs:=Is) (Rs ws) (by rw [Cq];omega) (by omega) (by rw [Cq];omega) dom
theorem EZ {call:Ai}{a0 m:Int}:∀(k nn:Nat)(i:Nat),i+k=16->k<nn ->
  Fu fu call a0 nn m ((List.range i).map (F3 m)).length (Ip m i) (15-(i:Int)) (Af .i64 ((List.range i).map (F3 m)))=some ⟨[.own 1 18 (Af .i64 (OX m))],[]⟩
 |_,0,_,_,h=>by omega
 |0,nn+1,i,hi,hn=>by
  have e:i=16:=by omega
  subst e;have hs:=I2 m 16
  have wq:wrap .i64 (Int.tdiv (Ip m 16) 16)=Ip m 16 / 16:=by
   rw [Int.tdiv_eq_ediv_of_nonneg (by omega),Ak (by omega) (by omega)]
  have wm:Int.tmod (Ip m 16) 16=Ip m 16 % 16:=Int.tmod_eq_emod_of_nonneg (by omega)
  have e2:Af .i64 ((List.range 16).map (F3 m))++[PV.sc (.int .i64 (Ip m 16 / 16)),PV.sc (.int .i64 (Ip m 16 % 16))]=Af .i64 (OX m):=by
   unfold OX;rw [Af,Af,List.flatMap_append];rfl
  have L:(Af .i64 (OX m)).length=18:=by rw [Aj,Abl]
  have tk:List.take 18 (Af .i64 (OX m))=Af .i64 (OX m):=R6 (by omega)
  have l16:((List.range 16).map (F3 m)).length=16:=by simp
  have L16:=Aj .i64 ((List.range 16).map (F3 m));have t16:=I1 .i64 ((List.range 16).map (F3 m));rw [l16] at L16 t16 ⊢;rw [Jg,Do _ _ _ (by omega)]
  simp (disch:=omega) only [Bv,wq,wm,Cb,t16,e2,L16,Nat.reduceAdd,L,tk]
 |k+1,nn+1,i,hi,hn=>by
  have ih:=EZ (call:=call) (a0:=a0) (m:=m) k nn (i+1) (by omega) (by omega)
  have hb:=Qi m i;have hs:=I2 m i;have w1:wrap .i64 (4*(15-(i:Int)))=60-4*(i:Int):=by rw [Ak (by omega) (by omega)];omega
  have w2:wrap .u64 (60-4*(i:Int))=60-4*(i:Int):=Ci (by omega) (by omega)
  have hd:wrap .i64 (Rw .u64 (Dw .u64 m (60-4*(i:Int))) 15)=F3 m i:=rfl;have w15:wrap .i64 (15-F3 m i)=15-F3 m i:=Ak (by omega) (by omega)
  have ws:wrap .i64 (Ip m i+(15-F3 m i))=Ip m (i+1):=by rw [Ak (by omega) (by omega)];rfl
  have wi:wrap .i64 (15-(i:Int)-1)=15-((i+1:Nat):Int):=by rw [Ak (by omega) (by omega)];omega
  have L:=Aj .i64 ((List.range i).map (F3 m));have l16:((List.range i).map (F3 m)).length=i:=by simp
  rw [S0,I9,List.length_singleton,←Fs] at ih;rw [Jg];simp (disch:=omega) only [Bv,w1,w2,hd,w15,ws,wi,Cb,I1,L];exact ih
theorem Ad5 (hfu:1000<=fu)(m:Int):Ad C0 Tryz.prog fu (d+1) Mt [.sc (.int .u64 m)]=some ⟨[.own 1 18 (Af .i64 (OX m))],[]⟩:=by
 rw [Wq];exact EZ (fu:=fu) (a0:=m) (m:=m) 16 fu 0 (by omega) (by omega)
theorem QE {leaf chain:Int}{a0 a1 a2 a3 a4:Int}(hfu:1000<=fu){t:Int}(ht:t<=15):∀(k nn:Nat)(p x:Int),(k:Int)=t-p->0<=p->k<nn ->
  Gt fu (Ad C0 Tryz.prog fu (d+4)) a0 a1 a2 a3 a4 nn leaf chain t x p=some ⟨[.sc (.int .u64 (Qo leaf chain k p x))],[]⟩
 |_,0,_,_,_,_,h=>by omega
 |0,nn+1,p,x,hk,hp,hn=>by
  rw [L7];simp only [Gw];rw [A5 (by omega),Do _ _ _ (by omega)]
  rfl
 |k+1,nn+1,p,x,hk,hp,hn=>by
  have w:wrap .i64 (p+1)=p+1:=Ak (by omega) (by omega)
  have wd:Ad C0 Tryz.prog fu (d+4) Dx [.lst false 1 4 [.sc (.int .u64 (wrap .u64 leaf)),.sc (.int .u64 (wrap .u64 chain)),.sc (.int .u64 (wrap .u64 p)),.sc (.int .u64 x)]]=_:=Kt (xs:=Is) (ws:=[wrap .u64 leaf,wrap .u64 chain,wrap .u64 p,x]) (by simp) (by omega) (by simp;omega)
  have hs:=YH (fu:=fu) (d:=d) (ws:=[wrap .u64 leaf,wrap .u64 chain,wrap .u64 p,x]) (by simp) hfu 1
  have ih:=QE (leaf:=leaf) (chain:=chain) (a0:=a0) (a1:=a1) (a2:=a2) (a3:=a3) (a4:=a4) hfu ht k nn (p+1) (M1 1 (Ar [wrap .u64 leaf,wrap .u64 chain,wrap .u64 p,x])) (by omega) (by omega) (by omega)
  have L:=Aj .u8 (Ar [wrap .u64 leaf,wrap .u64 chain,wrap .u64 p,x]);have eR:Qo leaf chain (k+1) p x=Qo leaf chain k (p+1) (M1 1 (Ar [wrap .u64 leaf,wrap .u64 chain,wrap .u64 p,x])):=rfl;rw [eR];generalize Ar [wrap .u64 leaf,wrap .u64 chain,wrap .u64 p,x]=W at wd hs ih L ⊢;have e15:(if (15:Int)<t then 15 else t)=t:=A5 (by omega)
  rw [L7];simp (disch:=omega) only [Bv,e15,wd,Cb,C3,El,I1,L,hs,w];exact ih
theorem Aa4 {leaf chain:Int}(hfu:1000<=fu)(k:Nat)(f t x:Int)(hk:(k:Int)=t-f) (h0:0<=f)(h1:t<=15):Ad C0 Tryz.prog fu (d+5) Pu [.sc (.int .i64 leaf),.sc (.int .i64 chain),.sc (.int .i64 f),.sc (.int .i64 t),.sc (.int .u64 x)]=some ⟨[.sc (.int .u64 (Qo leaf chain k f x))],[]⟩:=by
 rw [BI];simp only [Gw];rw [A5 (by omega)]
 exact QE hfu h1 k fu f x hk h0 (by omega)
theorem JX (hfu:1000<=fu)(seed leaf chain:Int):Ad C0 Tryz.prog fu (d+5) Lz [.sc (.int .u64 seed),.sc (.int .i64 leaf),.sc (.int .i64 chain)]=some ⟨[.sc (.int .u64 (EN seed leaf chain))],[]⟩:=by
 have wd:Ad C0 Tryz.prog fu (d+4) Dx [.lst false 1 2 [.sc (.int .u64 (wrap .u64 leaf)),.sc (.int .u64 (wrap .u64 chain))]]=_:=Kt (xs:=Is) (ws:=[wrap .u64 leaf,wrap .u64 chain]) (by simp) (by omega) (by simp;omega)
 have hs:=Ajn (xs:=Is) (fu:=fu) (d:=d) (Rs [wrap .u64 leaf,wrap .u64 chain]) (by rw [Cq];simp) (by omega) (by rw [Cq];simp;omega) seed 1
 have L:=Aj .u8 (Ar [wrap .u64 leaf,wrap .u64 chain]);rw [Uo];unfold EN;generalize Ar [wrap .u64 leaf,wrap .u64 chain]=W at wd hs L ⊢;simp (disch:=omega) only [Bv,wd,Cb,C3,El,I1,L,hs]
theorem Amo (hfu:1000<=fu)(w:Int):Ad C0 Tryz.prog fu (d+1) Dx [.lst false 1 1 [.sc (.int .u64 w)]]=some ⟨[.own 1 8 (Af .u8 (Dp w))],[]⟩:=by
 have:=Kt (xs:=Is) (fu:=fu) (d:=d) (ws:=[w]) (by simp) (by omega) (by simp;omega)
 simp only [Ar,List.flatMap_cons,List.flatMap_nil,List.append_nil,Jz,AA,Em] at this;exact this
theorem Ahd (hfu:1000<=fu)(leaf:Int){E:List Int}(hE:E.length<=50):Ad C0 Tryz.prog fu (d+5) Oh [.sc (.int .i64 leaf),.lst false 1 E.length (Af .u64 E)]=some ⟨[.sc (.int .u64 (Xm leaf E))],[]⟩:=by
 have w1:=Amo (fu:=fu) (d:=d+3) hfu (wrap .u64 leaf);have w2:=Kt (xs:=Is) (fu:=fu) (d:=d+3) (ws:=E) (by omega) (by omega) (by omega)
 have hs:=YH (fu:=fu) (d:=d) (ws:=wrap .u64 leaf::E) (by simp;omega) hfu 2
 have eW:Ar (wrap .u64 leaf::E)=Dp (wrap .u64 leaf)++Ar E:=rfl
 have eC:Af .u8 (Dp (wrap .u64 leaf))++Af .u8 (Ar E)=Af .u8 (Ar (wrap .u64 leaf::E)):=by
  rw [eW,Af,Af,Af,List.flatMap_append]
 have l0:(Dp (wrap .u64 leaf)).length=8:=Em _;have l1:=Cq E;have l2:(Ar (wrap .u64 leaf::E)).length=8+(Ar E).length:=by rw [eW,I9,l0]
 have L0:=Aj .u8 (Dp (wrap .u64 leaf));rw [l0] at L0;have L1:=Aj .u8 (Ar E);have L2:=Aj .u8 (Ar (wrap .u64 leaf::E));have t8:List.take 8 (Af .u8 (Dp (wrap .u64 leaf)))=Af .u8 (Dp (wrap .u64 leaf)):=R6 (by omega)
 have tW:List.take (8+(Ar E).length) (Af .u8 (Ar (wrap .u64 leaf::E)))=Af .u8 (Ar (wrap .u64 leaf::E)):=R6 (by omega)
 rw [l2] at hs;rw [Y5];simp (disch:=omega) only [Bv,w1,w2,Cb,C3,El,I1,t8,L0,L1,eC,L2,tW,hs];rfl
theorem IX {a0 a1 seed leaf:Int}(hfu:1000<=fu):∀(k nn i:Nat),i+k=18->k<nn ->
  F4 fu (Ad C0 Tryz.prog fu (d+5)) a0 a1 nn seed leaf ((List.range i).map (Wz seed leaf)).length i (Af .u64 ((List.range i).map (Wz seed leaf)))=some ⟨[.sc (.int .u64 (Hi seed leaf))],[]⟩
 |_,0,_,_,h=>by omega
 |0,nn+1,i,hi,hn=>by
  have e:i=18:=by omega
  subst e;have l18:((List.range 18).map (Wz seed leaf)).length=18:=by simp
  have en:=Ahd (fu:=fu) (d:=d) hfu leaf (E:=(List.range 18).map (Wz seed leaf)) (by omega)
  have L:=Aj .u64 ((List.range 18).map (Wz seed leaf));rw [Kj,Do _ _ _ (by omega)]
  simp (disch:=omega) only [Bv,Cb,C3,El,I1,L,en];rfl
 |k+1,nn+1,i,hi,hn=>by
  have ih:=IX (a0:=a0) (a1:=a1) (seed:=seed) (leaf:=leaf) hfu k nn (i+1) (by omega) (by omega)
  have sc:=JX (fu:=fu) (d:=d) hfu seed leaf i;have rn:=Aa4 (fu:=fu) (d:=d) (leaf:=leaf) (chain:=i) hfu 15 0 15 (EN seed leaf i) (by omega) (by omega) (by omega)
  have w:wrap .i64 ((i:Int)+1)=((i+1:Nat):Int):=by rw [Ak (by omega) (by omega)];omega
  have L:=Aj .u64 ((List.range i).map (Wz seed leaf));have li:((List.range i).map (Wz seed leaf)).length=i:=by simp
  rw [S0,I9,List.length_singleton,←Fs] at ih;rw [Kj];simp (disch:=omega) only [Bv,sc,rn,Cb,I1,L,w];exact ih
theorem Ai6 (hfu:1000<=fu)(seed leaf:Int):Ad C0 Tryz.prog fu (d+6) On [.sc (.int .u64 seed),.sc (.int .i64 leaf)]=some ⟨[.sc (.int .u64 (Hi seed leaf))],[]⟩:=by
 rw [Yd];exact IX (fu:=fu) (d:=d) hfu 18 fu 0 (by omega) (by omega)
theorem An5 (m:Int){i:Nat}(h:i<18):(OX m)[i]?=some (dg m i):=by
 unfold dg;rw [List.getD_eq_getElem?_getD,List.getElem?_eq_getElem (by rw [Abl];omega)]
 rfl
theorem U0 {a0 a1 a2 seed leaf m:Int}(hfu:1000<=fu):∀(k nn i:Nat),i+k=18->k<nn ->
  En fu (Ad C0 Tryz.prog fu (d+5)) a0 a1 a2 nn seed leaf 18 ((List.range i).map (Uf seed leaf m)).length i (Af .i64 (OX m)) (Af .u64 ((List.range i).map (Uf seed leaf m)))=some ⟨[.own 1 18 (Af .u64 (H4 seed leaf m))],[]⟩
 |_,0,_,_,h=>by omega
 |0,nn+1,i,hi,hn=>by
  have e:i=18:=by omega
  subst e;have l18:((List.range 18).map (Uf seed leaf m)).length=18:=by simp
  have L:=Aj .u64 ((List.range 18).map (Uf seed leaf m));rw [Hw,Do _ _ _ (by omega)]
  simp (disch:=omega) only [Bv,Cb,I1,L];rw [l18];rfl
 |k+1,nn+1,i,hi,hn=>by
  have ih:=U0 (a0:=a0) (a1:=a1) (a2:=a2) (seed:=seed) (leaf:=leaf) (m:=m) hfu k nn (i+1) (by omega) (by omega)
  have hb:=V1 m i;have sc:=JX (fu:=fu) (d:=d) hfu seed leaf i;have rn:=Aa4 (fu:=fu) (d:=d) (leaf:=leaf) (chain:=i) hfu (dg m i).toNat 0 (dg m i) (EN seed leaf i) (by omega) (by omega) (by omega)
  have w:wrap .i64 ((i:Int)+1)=((i+1:Nat):Int):=by rw [Ak (by omega) (by omega)];omega
  have L:=Aj .u64 ((List.range i).map (Uf seed leaf m));have li:((List.range i).map (Uf seed leaf m)).length=i:=by simp
  rw [S0,I9,List.length_singleton,←Fs] at ih;rw [Hw];simp (disch:=omega) only [Bv,H3,Cb,C3,W5 (An5 m (show i<18 by omega)),sc,rn,I1,L,w]
  exact ih
theorem RE (hfu:1000<=fu)(seed leaf m:Int):Ad C0 Tryz.prog fu (d+6) Ji [.sc (.int .u64 seed),.sc (.int .i64 leaf),.sc (.int .u64 m)]=some ⟨[.own 1 18 (Af .u64 (H4 seed leaf m))],[]⟩:=by
 rw [Sz];have sp:=Ad5 (fu:=fu) (d:=d+4) hfu m;simp only [Bv,sp];exact U0 (fu:=fu) (d:=d) hfu 18 fu 0 (by omega) (by omega)
theorem Aar (hfu:1000<=fu)(level a b:Int):Ad C0 Tryz.prog fu (d+5) Mh [.sc (.int .i64 level),.sc (.int .u64 a),.sc (.int .u64 b)]=some ⟨[.sc (.int .u64 (Lj level a b))],[]⟩:=by
 have wd:Ad C0 Tryz.prog fu (d+4) Dx [.lst false 1 3 [.sc (.int .u64 (wrap .u64 level)),.sc (.int .u64 a),.sc (.int .u64 b)]]=_:=Kt (xs:=Is) (ws:=[wrap .u64 level,a,b]) (by simp) (by omega) (by simp;omega)
 have hs:=YH (fu:=fu) (d:=d) (ws:=[wrap .u64 level,a,b]) (by simp) hfu 3
 have L:=Aj .u8 (Ar [wrap .u64 level,a,b]);rw [Uu];unfold Lj;generalize Ar [wrap .u64 level,a,b]=W at wd hs L ⊢;simp (disch:=omega) only [Bv,wd,Cb,C3,El,I1,L,hs]
theorem BF (hfu:1000<=fu)(seed:Int):∀(l:Nat)(i B:Int),0<=i->i<=B->(2 ^ l:Nat)*(B+1)<=1000000000->l<=20->Ad C0 Tryz.prog fu (d+7+l) Ob [.sc (.int .u64 seed),.sc (.int .i64 l),.sc (.int .i64 i)]=some ⟨[.sc (.int .u64 (Bu seed l i))],[]⟩
 |0,i,B,h0,h1,h2,hl=>by
  have lf:=Ai6 (fu:=fu) (d:=d) hfu seed i;refine (Og fu (d+6) seed 0 i).trans ?_;simp only [Bv,Ez,if_true,lf];rfl
 |l+1,i,B,h0,h1,h2,hl=>by
  have hq:(2 ^ (l+1):Nat)=2 ^ l*2:=Nat.pow_succ _ _;have hpos:0<2 ^ l:=Nat.pow_pos (by omega)
  rw [hq] at h2;generalize hQ:2 ^ l=q at h2 hpos
  have hb:((q*2:Nat):Int)*(B+1)=(q:Int)*(2*B+1+1):=by
   rw [Int.natCast_mul,Int.mul_assoc]
   congr 1
   omega
  rw [hb] at h2
  have hBq:2*B+1+1<=(q:Int)*(2*B+1+1):=by
   have:=Int.mul_le_mul_of_nonneg_right (show (1:Int)<=q by omega) (show (0:Int)<=2*B+1+1 by omega)
   omega
  have n1:=BF hfu seed l (2*i) (2*B+1) (by omega) (by omega) (by rw [hQ];exact h2) (by omega)
  have n2:=BF hfu seed l (2*i+1) (2*B+1) (by omega) (by omega) (by rw [hQ];exact h2) (by omega)
  have pr:=Aar (fu:=fu) (d:=d+2+l) hfu ((l+1:Nat):Int) (Bu seed l (2*i)) (Bu seed l (2*i+1));rw [show d+2+l+5=d+7+l by omega] at pr
  have w1:wrap .i64 (((l+1:Nat):Int)-1)=(l:Int):=by rw [Ak (by omega) (by omega)];omega
  have w2:wrap .i64 (2*i)=2*i:=Ak (by omega) (by omega)
  have w3:wrap .i64 (2*i+1)=2*i+1:=Ak (by omega) (by omega)
  have ne:¬(((l+1:Nat):Int)=0):=by omega
  refine (Og fu (d+7+l) seed ((l+1:Nat):Int) i).trans ?_;simp only [Bv,Ez,ne,if_false,w1,w2,w3,n1,n2,pr];rfl
end
end
section
open Go.IntKind (wrap)
theorem wu {h:Int}(h0:0<=h)(h4:h<=4):wrap .u64 h=h:=Ci (by omega) (by omega)
theorem YD {leaf h:Int}(h0:0<=h)(h4:h<=4)(ho:Hb leaf h=false):0<=leaf∧leaf<2 ^ h.toNat:=by
 unfold Hb at ho;simp only [Bool.or_eq_false_iff,decide_eq_false_iff_not] at ho;have:h=0∨h=1∨h=2∨h=3∨h=4:=by omega
 rcases this with rfl|rfl|rfl|rfl|rfl
 ·have e:Gm .i64 1 0=1:=by decide
  rw [e] at ho;exact ⟨by omega,by show leaf<1;omega⟩
 ·have e:Gm .i64 1 1=2:=by decide
  rw [e] at ho;exact ⟨by omega,by show leaf<2;omega⟩
 ·have e:Gm .i64 1 2=4:=by decide
  rw [e] at ho;exact ⟨by omega,by show leaf<4;omega⟩
 ·have e:Gm .i64 1 3=8:=by decide
  rw [e] at ho;exact ⟨by omega,by show leaf<8;omega⟩
 ·have e:Gm .i64 1 4=16:=by decide
  rw [e] at ho;exact ⟨by omega,by show leaf<16;omega⟩
theorem Amf {h:Int}(h0:0<=h)(h4:h<=4):(2:Int) ^ h.toNat<=16:=by
 have:h=0∨h=1∨h=2∨h=3∨h=4:=by omega
 rcases this with rfl|rfl|rfl|rfl|rfl<;>decide
theorem Aae {leaf:Int}(h0:0<=leaf)(h1:leaf<16){k:Nat}(hk:k<4):0<=Fe leaf k∧Fe leaf k<=15:=by
 have H:∀n:Fin 16,∀k:Fin 4,0<=Fe (n.val:Int) k.val∧Fe (n.val:Int) k.val<=15:=by decide
 obtain ⟨n,rfl⟩:=Int.eq_ofNat_of_zero_le h0;exact H ⟨n,by omega⟩ ⟨k,hk⟩
section
variable {fu d:Nat}
theorem LQ (hfu:1000<=fu)(seed h:Int):Ad C0 Tryz.prog fu (d+12) Lo [.sc (.int .u64 seed),.sc (.int .i64 h)]=some ⟨[.agg (K0 seed h).cells,.sc (.int .i64 (if Cx h=true then 9 else 0))],[]⟩:=by
 refine (Ub fu (d+11) seed h).trans ?_;have h1:=Y7 (fu:=fu) (d:=d+10) h;unfold K0;cases c1:Cx h
 ·rw [c1] at h1;have hb:=G8 c1
  have nd:=BF (fu:=fu) (d:=d+4-h.toNat) hfu seed h.toNat 0 0 (by omega) (by omega) (by
   have:h=0∨h=1∨h=2∨h=3∨h=4:=by omega
   rcases this with rfl|rfl|rfl|rfl|rfl<;>decide) (by omega)
  rw [show d+4-h.toNat+7+h.toNat=d+11 by omega,show ((h.toNat:Nat):Int)=h by omega] at nd
  simp only [Bv,h1,nd];rfl
 ·rw [c1] at h1;simp only [Bv,h1];rfl
theorem IR {a0 a1 a2 a3:Int}{seed leaf h:Int}(hh:0<=h∧h<=4)(hl:0<=leaf∧leaf<16)(hfu:1000<=fu){y4 y9:Int}{y5 y6:Nat}{y7 y8:List PV}{ch:List Int}:∀(k nn i:Nat),i+k=h.toNat->k<nn ->
  F9 fu (Ad C0 Tryz.prog fu (d+11)) a0 a1 a2 a3 nn seed h leaf i y4 y5 y6 y7 y8 leaf ch.length ((List.range i).map fun k=>Bu seed k (Fe leaf k)).length (Af .u64 ch) (Af .u64 ((List.range i).map fun k=>Bu seed k (Fe leaf k)))=some ⟨[.agg (Sg.mk leaf ch ((List.range h.toNat).map fun k=>Bu seed k (Fe leaf k))).owned,.sc (.int .i64 0)],[]⟩
 |_,0,_,_,h=>by omega
 |0,nn+1,i,hi,hn=>by
  have e:i=h.toNat:=by omega
  subst e;have L1:=Aj .u64 ch;have L2:=Aj .u64 ((List.range h.toNat).map fun k=>Bu seed k (Fe leaf k))
  rw [Kf,Do _ _ _ (by omega)]
  simp (disch:=omega) only [Bv,Cb,I1,L1,L2];rfl
 |k+1,nn+1,i,hi,hn=>by
  have ih:=IR (a0:=a0) (a1:=a1) (a2:=a2) (a3:=a3) (seed:=seed) (y4:=y4) (y9:=y9) (y5:=y5) (y6:=y6) (y7:=y7) (y8:=y8) (ch:=ch) hh hl hfu k nn (i+1) (by omega) (by omega)
  have sb:=Aae hl.1 hl.2 (k:=i) (by omega)
  have nd:=BF (fu:=fu) (d:=d+4-i) hfu seed i (Fe leaf i) 15 sb.1 sb.2 (by
   have:i=0∨i=1∨i=2∨i=3:=by omega
   rcases this with rfl|rfl|rfl|rfl<;>decide) (by omega)
  rw [show d+4-i+7+i=d+11 by omega] at nd
  have es:Dq .i64 (Dw .i64 leaf (i:Int)) 1=Fe leaf i:=rfl;have w:wrap .i64 ((i:Int)+1)=((i+1:Nat):Int):=by rw [Ak (by omega) (by omega)];omega
  have wi:wrap .u64 (i:Int)=i:=Ci (by omega) (by omega)
  have L:=Aj .u64 ((List.range i).map fun k=>Bu seed k (Fe leaf k))
  have li:((List.range i).map fun k=>Bu seed k (Fe leaf k)).length=i:=by simp
  rw [S0,I9,List.length_singleton,←Fs] at ih;rw [Kf];simp (disch:=omega) only [Bv,wi,es,nd,Cb,I1,L,w];exact ih
theorem Afe (hfu:1000<=fu)(seed h leaf m:Int):Ad C0 Tryz.prog fu (d+12) Nx [.sc (.int .u64 seed),.sc (.int .i64 h),.sc (.int .i64 leaf),.sc (.int .u64 m)]=some ⟨QP (AV seed h leaf m),[]⟩:=by
 refine (X6 fu (d+11) seed h leaf m).trans ?_;have h1:=Y7 (fu:=fu) (d:=d+10) h;unfold AV;cases c1:Cx h
 ·rw [c1] at h1;have hb:=G8 c1;have w:=wu hb.1 hb.2;rw [A5 (by simp)]
  by_cases hn:leaf<0
  ·have ho:Hb leaf h=true:=by unfold Hb;simp [hn]
   rw [B4 ho];simp (disch:=omega) only [Bv,h1];rfl
  ·by_cases hg:leaf>=Gm .i64 1 h
   ·have ho:Hb leaf h=true:=by unfold Hb;simp [hg]
    rw [B4 ho];simp (disch:=first|omega|exact hg) only [Bv,h1,w];rfl
   ·have ho:Hb leaf h=false:=by unfold Hb;simp only [Bool.or_eq_false_iff,decide_eq_false_iff_not];exact ⟨hn,hg⟩
    have hlt:=YD hb.1 hb.2 ho;have h16:=Amf hb.1 hb.2;rw [A5 (by rw [ho];simp)]
    have sl:=RE (fu:=fu) (d:=d+5) hfu seed leaf m;have lp:=IR (fu:=fu) (d:=d) (a0:=seed) (a1:=h) (a2:=leaf) (a3:=m) (seed:=seed) (leaf:=leaf) (h:=h) hb (by omega) hfu (y4:=0) (y9:=0) (y5:=0) (y6:=0) (y7:=[]) (y8:=[]) (ch:=H4 seed leaf m) h.toNat fu 0 (by omega) (by omega)
    have l18:(H4 seed leaf m).length=18:=by simp [H4]
    rw [l18] at lp;simp (disch:=first|omega|exact hg) only [Bv,h1,w,sl];exact lp
 ·rw [c1] at h1;rw [B4 rfl];simp (disch:=omega) only [Bv,h1];rfl
theorem Aag (hfu:1000<=fu)(k:Ky):Ad C0 Tryz.prog fu (d+2) Ir [.agg k.cells]=some ⟨(if Cx k.h=true then [.own 1 0 [],.sc (.int .i64 9)] else [.own 1 9 (Af .u8 (Ie k)),.sc (.int .i64 0)]),[]⟩:=by
 refine (Qx fu (d+1) k.h k.root).trans ?_;have h1:=Y7 (fu:=fu) (d:=d) k.h;have wd:=Amo (fu:=fu) (d:=d) hfu k.root;have L:=Aj .u8 (Dp k.root);rw [Em] at L;have t8:List.take 8 (Af .u8 (Dp k.root))=Af .u8 (Dp k.root):=R6 (by omega)
 have t9:List.take 9 ([PV.sc (.int .u8 (wrap .u8 k.h))]++Af .u8 (Dp k.root))=Af .u8 (Ie k):=by
  rw [R6 (by rw [I9,L];simp)]
  rfl
 have L9:([PV.sc (.int .u8 (wrap .u8 k.h))]++Af .u8 (Dp k.root)).length=9:=by rw [I9,L];rfl
 cases c1:Cx k.h
 ·rw [c1] at h1;rw [A5 (by simp)]
  simp (disch:=omega) only [Bv,h1,wd,Cb,C3,El,L,t8,Nat.reduceAdd,L9,t9]
 ·rw [c1] at h1;rw [B4 rfl];simp (disch:=omega) only [Bv,h1]
end
end
section
open Go.IntKind (wrap)
section
variable {fu d:Nat}
theorem Afn (n:Nat):Cx (n:Int)=decide ((n:Int)>4):=by
 unfold Cx;have:¬((n:Int)<0):=by omega
 simp [this]
theorem Aaq (hfu:1000<=fu)(s:Sg)(hp:s.path.length<=1000000000):Ad C0 Tryz.prog fu (d+2) Gq [.agg s.cells]=some ⟨(if Cx s.path.length=true then [.own 1 0 [],.sc (.int .i64 9)] else if Hb s.leaf s.path.length=true then [.own 1 0 [],.sc (.int .i64 9)] else if s.chains.length≠18 then [.own 1 0 [],.sc (.int .i64 4)] else [.own 1 (Qv s).length (Af .u8 (Qv s)),.sc (.int .i64 0)]),[]⟩:=by
 refine (Mj fu (d+1) s.leaf s.chains.length (Af .u64 s.chains) s.path.length (Af .u64 s.path)).trans ?_;rw [Afn];by_cases c1:(s.path.length:Int)>4
 ·rw [B4 (by simp [c1])]
  simp (disch:=omega) only [Bv]
 ·rw [A5 (by simp [c1])]
  have w:=wu (h:=s.path.length) (by omega) (by omega)
  by_cases hn:s.leaf<0
  ·have ho:Hb s.leaf s.path.length=true:=by unfold Hb;simp [hn]
   rw [B4 ho];simp (disch:=omega) only [Bv]
  ·by_cases hg:s.leaf>=Gm .i64 1 s.path.length
   ·have ho:Hb s.leaf s.path.length=true:=by unfold Hb;simp [hg]
    rw [B4 ho];simp (disch:=first|omega|exact hg) only [Bv,w]
   ·have ho:Hb s.leaf s.path.length=false:=by unfold Hb;simp only [Bool.or_eq_false_iff,decide_eq_false_iff_not];exact ⟨hn,hg⟩
    rw [A5 (by rw [ho];simp)]
    by_cases c3:s.chains.length=18
    ·have w1:=Kt (xs:=Is) (fu:=fu) (d:=d) (ws:=s.chains) (by omega) (by omega) (by omega)
     have w2:=Kt (xs:=Is) (fu:=fu) (d:=d) (ws:=s.path) (by omega) (by omega) (by omega)
     have l1:=Cq s.chains;have l2:=Cq s.path;have L1:=Aj .u8 (Ar s.chains);have L2:=Aj .u8 (Ar s.path)
     have eB:Af .u8 (Qv s)=[PV.sc (.int .u8 (wrap .u8 s.leaf)),PV.sc (.int .u8 (wrap .u8 s.path.length))]++Af .u8 (Ar s.chains)++Af .u8 (Ar s.path):=by
      unfold Qv;simp
     have eL:(Qv s).length=2+(Ar s.chains).length+(Ar s.path).length:=by
      unfold Qv;simp;omega
     rw [A5 (by omega),eB,eL]
     have t2:List.take (2+(Ar s.chains).length) ([PV.sc (.int .u8 (wrap .u8 s.leaf)),PV.sc (.int .u8 (wrap .u8 s.path.length))]++Af .u8 (Ar s.chains))=[PV.sc (.int .u8 (wrap .u8 s.leaf)),PV.sc (.int .u8 (wrap .u8 s.path.length))]++Af .u8 (Ar s.chains):=R6 (by rw [I9,L1];simp)
     have t3:List.take (2+(Ar s.chains).length+(Ar s.path).length) ([PV.sc (.int .u8 (wrap .u8 s.leaf)),PV.sc (.int .u8 (wrap .u8 s.path.length))]++Af .u8 (Ar s.chains)++Af .u8 (Ar s.path))=[PV.sc (.int .u8 (wrap .u8 s.leaf)),PV.sc (.int .u8 (wrap .u8 s.path.length))]++Af .u8 (Ar s.chains)++Af .u8 (Ar s.path):=R6 (by rw [I9,I9,L1,L2];simp)
     have k2:([PV.sc (.int .u8 (wrap .u8 s.leaf)),PV.sc (.int .u8 (wrap .u8 s.path.length))]++Af .u8 (Ar s.chains)).length=2+(Ar s.chains).length:=by rw [I9,L1];rfl
     have k3:([PV.sc (.int .u8 (wrap .u8 s.leaf)),PV.sc (.int .u8 (wrap .u8 s.path.length))]++Af .u8 (Ar s.chains)++Af .u8 (Ar s.path)).length=2+(Ar s.chains).length+(Ar s.path).length:=by rw [I9,k2,L2]
     simp (disch:=first|omega|exact hg) only [Bv,w,Ep,w1,w2,Cb,C3,El,L1,L2,I1,t2,t3,k2,k3];rw [B4 (by omega)]
    ·rw [B4 c3];simp (disch:=first|omega|exact hg) only [Bv,w,Ep];rw [A5 (by omega)]
end
theorem Af4 (seed leaf m:Int):Adu leaf m (H4 seed leaf m)=Hi seed leaf:=by
 unfold Adu Hi LM
 congr 1
 refine List.map_congr_left fun i hi=>?_
 have hi:=List.mem_range.1 hi;have hb:=V1 m i;unfold YG Wz
 have e:(H4 seed leaf m).getD i 0=Uf seed leaf m i:=by
  unfold H4;rw [List.getD_eq_getElem?_getD,List.getElem?_map,List.getElem?_range hi];rfl
 rw [e];unfold Uf;have:=WH leaf i (dg m i).toNat (15-dg m i).toNat 0 (EN seed leaf i);rw [show (dg m i).toNat+(15-dg m i).toNat=15 by omega,show (0:Int)+((dg m i).toNat:Nat)=dg m i by omega] at this
 exact this.symm
theorem Ad9:∀n:Fin 16,∀k:Fin 4,
  (Rw .i64 (Dw .i64 (n.val:Int) k.val) 1=0∧Dw .i64 (n.val:Int) k.val=2*Dw .i64 (n.val:Int) ((k.val+1:Nat):Int)∧Fe n.val k.val=2*Dw .i64 (n.val:Int) ((k.val+1:Nat):Int)+1) ∨
  (Rw .i64 (Dw .i64 (n.val:Int) k.val) 1≠0∧Dw .i64 (n.val:Int) k.val=2*Dw .i64 (n.val:Int) ((k.val+1:Nat):Int)+1∧Fe n.val k.val=2*Dw .i64 (n.val:Int) ((k.val+1:Nat):Int)):=by decide
theorem KR (seed:Int){leaf:Int}(h0:0<=leaf)(h1:leaf<16):∀(k i:Nat),i+k<=4 ->
  Y9 leaf i (Bu seed i (Dw .i64 leaf i)) ((List.range' i k).map fun j=>Bu seed j (Fe leaf j))=Bu seed (i+k) (Dw .i64 leaf ((i+k:Nat):Int))
 |0,i,_=>rfl
 |k+1,i,h=>by
  rw [List.range'_succ,Zzw,GD];obtain ⟨n,rfl⟩:=Int.eq_ofNat_of_zero_le h0;have ih:=KR seed h0 h1 k (i+1) (by omega)
  rw [show i+(k+1)=i+1+k by omega,←ih]
  congr 1
  rcases Ad9 ⟨n,by omega⟩ ⟨i,by omega⟩ with ⟨a,b,c⟩|⟨a,b,c⟩
  ·simp only at a b c;rw [B4 a,b,c];rfl
  ·simp only at a b c;rw [A5 a,b,c];rfl
theorem Aih {seed h leaf m:Int}(hh:Cx h=false)(ho:Hb leaf h=false):WA (K0 seed h) m ⟨leaf,H4 seed leaf m,(List.range h.toNat).map fun k=>Bu seed k (Fe leaf k)⟩=0:=by
 have hb:=G8 hh;have hl:=YD hb.1 hb.2 ho;have h16:=Amf hb.1 hb.2
 have eP:K0 seed h=⟨h,Bu seed h.toNat 0⟩:=by
  unfold K0;rw [hh];rfl
 rw [eP];unfold WA;simp only;rw [A5 (show ¬Cx h=true by rw [hh];simp),A5 (show ¬Hb leaf h=true by rw [ho];simp),A5 (show ¬(H4 seed leaf m).length≠18 by simp [H4]),A5 (by rw [List.length_map,List.length_range];omega),Af4]
 have c:=KR seed hl.1 (show leaf<16 by omega) h.toNat 0 (by omega)
 have e0:Dw .i64 leaf ((0:Nat):Int)=leaf:=by
  show leaf.fdiv (2 ^ (min ((0:Nat):Int).toNat IntKind.i64.bits))=leaf;have:(2:Int) ^ (min ((0:Nat):Int).toNat IntKind.i64.bits)=1:=by decide
  rw [this,Int.fdiv_one]
 have eh:Dw .i64 leaf ((0+h.toNat:Nat):Int)=0:=by
  have H:∀n:Fin 16,∀k:Fin 5,(n.val:Int)<2 ^ k.val->Dw .i64 (n.val:Int) ((0+k.val:Nat):Int)=0:=by decide
  obtain ⟨n,hn⟩:=Int.eq_ofNat_of_zero_le hl.1;have:=H ⟨n,by omega⟩ ⟨h.toNat,by omega⟩ (by simp only;rw [←hn];exact hl.2)
  rw [hn];exact this
 rw [e0,eh,C3] at c;have er:List.range' 0 h.toNat=List.range h.toNat:=List.range_eq_range'.symm;rw [er] at c;have el:Bu seed 0 leaf=Hi seed leaf:=rfl;rw [el] at c;rw [c];unfold okE;rw [B4 rfl]
end
section
open Go.IntKind (wrap)
set_option maxRecDepth 100000
abbrev FS:FuncId:=68
theorem UL (fu d:Nat)(a0:ByteArray):Ad C0 Tryz.prog fu (d+1) FS [.sc (.string a0)]=(fun (call:Ai)=>some (Au.mk [.own 3 1 [.sc (.int .i64 4),.sc (.int .u64 0),.sc (.string a0)]] [])) (Ad C0 Tryz.prog fu d):=by kernel_rfl
abbrev FN:FuncId:=69
theorem VK (fu d:Nat)(a0:Int):Ad C0 Tryz.prog fu (d+1) FN [.sc (.int .u64 a0)]=(fun (call:Ai)=>some (Au.mk [.own 3 1 [.sc (.int .i64 1),.sc (.int .u64 a0),.sc (.string (ByteArray.mk #[]))]] [])) (Ad C0 Tryz.prog fu d):=by kernel_rfl
abbrev Z7:FuncId:=70
theorem SQ (fu d a0n:Nat)(a0:List PV):Ad C0 Tryz.prog fu (d+1) Z7 [.lst false 1 a0n a0]=(fun (call:Ai)=>Ap (decide (a0.length=a0n))<|D8 (bytesOf a0) fun x1=>some (Au.mk [.own 3 1 [.sc (.int .i64 3),.sc (.int .u64 0),.sc (.string (ByteArray.mk (List.toArray x1)))]] [])) (Ad C0 Tryz.prog fu d):=by kernel_rfl
abbrev FC:FuncId:=71
theorem UF (fu d:Nat)(a0:Bool):Ad C0 Tryz.prog fu (d+1) FC [.sc (.bool a0)]=(fun (call:Ai)=>Bb (a0) (some (Au.mk [.own 3 1 [.sc (.int .i64 7),.sc (.int .u64 1),.sc (.string (ByteArray.mk #[]))]] [])) (some (Au.mk [.own 3 1 [.sc (.int .i64 7),.sc (.int .u64 0),.sc (.string (ByteArray.mk #[]))]] []))) (Ad C0 Tryz.prog fu d):=by kernel_rfl
abbrev BG:FuncId:=127
theorem QW (fu d:Nat)(a0:Int):Ad C0 Tryz.prog fu (d+1) BG [.sc (.int .u64 a0)]=(fun (call:Ai)=>Bb (decide (a0<24)) (some (Au.mk [.sc (.int .i64 0)] [])) (Bb (decide (a0<256)) (some (Au.mk [.sc (.int .i64 1)] [])) (Bb (decide (a0<65536)) (some (Au.mk [.sc (.int .i64 2)] [])) (Bb (decide (a0<4294967296)) (some (Au.mk [.sc (.int .i64 4)] [])) (some (Au.mk [.sc (.int .i64 8)] [])))))) (Ad C0 Tryz.prog fu d):=by kernel_rfl
abbrev Xi:FuncId:=131
theorem MK (fu d:Nat)(a0_0 a0_1:Int)(a0_2:ByteArray):Ad C0 Tryz.prog fu (d+1) Xi [.agg [.sc (.int .i64 a0_0),.sc (.int .u64 a0_1),.sc (.string a0_2)]]=(fun (call:Ai)=>Bb (a0_0==3) (some (Au.mk [.sc (.bool (a0_1==0))] [])) (Bb (a0_0==4) (some (Au.mk [.sc (.bool (a0_1==0))] [])) (Bb (a0_0==8) (Bb (a0_1==0) (some (Au.mk [.sc (.bool (Array.toList (ByteArray.data a0_2)==Array.toList (ByteArray.data (ByteArray.mk #[]))))] [])) (some (Au.mk [.sc (.bool false)] []))) (Bb (a0_0==7) (Bb (decide (a0_1<=1)) (some (Au.mk [.sc (.bool (Array.toList (ByteArray.data a0_2)==Array.toList (ByteArray.data (ByteArray.mk #[]))))] [])) (some (Au.mk [.sc (.bool false)] []))) (some (Au.mk [.sc (.bool (Array.toList (ByteArray.data a0_2)==Array.toList (ByteArray.data (ByteArray.mk #[]))))] [])))))) (Ad C0 Tryz.prog fu d):=by kernel_rfl
abbrev Vr:FuncId:=129
theorem LY (fu d a0n:Nat)(a0:List PV)(a1n:Nat)(a1:List PV):Ad C0 Tryz.prog fu (d+1) Vr [.lst false 1 a0n a0,.lst false 1 a1n a1]=(fun (call:Ai)=>Bb ((↑a0n:Int) != (↑a1n:Int)) (some (Au.mk [.sc (.bool (decide ((↑a0n:Int)<(↑a1n:Int))))] [])) (Ag (call 133 [.lst false 1 a0n a0,.lst false 1 a1n a1]) fun x1 x2=>Ac x2<|Ab x1 fun x3 x4=>Ae .i64 x3 fun x5=>Ac x4<|some (Au.mk [.sc (.bool (decide (x5<0)))] []))) (Ad C0 Tryz.prog fu d):=by kernel_rfl
abbrev Jb:FuncId:=119
noncomputable def Dn (fu:Nat)(call:Ai)(a0n:Nat)(a0:List PV)(a1 a2:Int)(nn y0:Nat)(y1 y2:Int)(y3:List PV):Option Au:=C9 CB Tryz.prog fu call 119 Tryz.f119 (B5 Tryz.f119) [.own 1 a0n a0,.sc (.int .u8 a1),.sc (.int .u64 a2)] [.r,.r,.r,.r,.r,.l,.r,.l] nn ⟨lk [(0,(.view 0 1 0 y0)),(2,(.sc (.int .u64 y1))),(9,(.sc (.int .i64 y2)))],B3 [(0,(.ar false y3))]⟩
theorem Me (fu:Nat)(call:Ai)(a0n:Nat)(a0:List PV)(a1 a2:Int)(nn y0:Nat)(y1 y2:Int)(y3:List PV):Dn fu call a0n a0 a1 a2 (nn+1) y0 y1 y2 y3=(Bb (decide (y2>=0)) (Aa (wrap .i64 (8*y2)) fun Ex=>Ap (decide (0<=Ex))<|Aa (Dw .u64 y1 Ex) fun Eu=>Aa (wrap .u8 Eu) fun E5=>Ap (decide (y0*1<=y3.length)&&true&&decide ((y0+1)*1<=1099511627776)&&decide (y0+1<=1099511627776))<|Aa (y0+1) fun Hq=>Aa (List.take (y0*1) y3++[.sc (.int .u8 E5)]) fun Gn=>Aa (wrap .i64 (y2-1)) fun G3=>Dn fu call a0n a0 a1 a2 (nn) Hq (y1) G3 Gn) (Ap (decide (y0*1<=y3.length))<|some (Au.mk [.own 1 y0 (List.take (y0*1) y3)] []))):=by kernel_rfl
theorem BS (fu d a0n:Nat)(a0:List PV)(a1 a2:Int):Ad C0 Tryz.prog fu (d+1) Jb [.own 1 a0n a0,.sc (.int .u8 a1),.sc (.int .u64 a2)]=(fun (call:Ai)=>Aa (Gm .u8 a1 5) fun x1=>Bb (decide (a2<24)) (Aa (wrap .u8 a2) fun x2=>Aa (wrap .u8 (x1+x2)) fun x3=>Ap (decide (a0n*1<=a0.length)&&true&&decide ((a0n+1)*1<=1099511627776)&&decide (a0n+1<=1099511627776))<|Aa (a0n+1) fun x4=>Aa (List.take (a0n*1) a0++[.sc (.int .u8 x3)]) fun x5=>Ap (decide (x4*1<=x5.length))<|some (Au.mk [.own 1 x4 (List.take (x4*1) x5)] [])) (Bb (decide (a2<256)) (Aa (wrap .u8 (x1+24)) fun x6=>Ap (decide (a0n*1<=a0.length)&&true&&decide ((a0n+1)*1<=1099511627776)&&decide (a0n+1<=1099511627776))<|Aa (a0n+1) fun x7=>Aa (List.take (a0n*1) a0++[.sc (.int .u8 x6)]) fun x8=>Dn fu call a0n a0 a1 a2 (fu) x7 (a2) 0 x8) (Bb (decide (a2<65536)) (Aa (wrap .u8 (x1+25)) fun x9=>Ap (decide (a0n*1<=a0.length)&&true&&decide ((a0n+1)*1<=1099511627776)&&decide (a0n+1<=1099511627776))<|Aa (a0n+1) fun Cg=>Aa (List.take (a0n*1) a0++[.sc (.int .u8 x9)]) fun Cj=>Dn fu call a0n a0 a1 a2 (fu) Cg (a2) 1 Cj) (Bb (decide (a2<4294967296)) (Aa (wrap .u8 (x1+26)) fun Dd=>Ap (decide (a0n*1<=a0.length)&&true&&decide ((a0n+1)*1<=1099511627776)&&decide (a0n+1<=1099511627776))<|Aa (a0n+1) fun Dk=>Aa (List.take (a0n*1) a0++[.sc (.int .u8 Dd)]) fun C6=>Dn fu call a0n a0 a1 a2 (fu) Dk (a2) 3 C6) (Aa (wrap .u8 (x1+27)) fun Du=>Ap (decide (a0n*1<=a0.length)&&true&&decide ((a0n+1)*1<=1099511627776)&&decide (a0n+1<=1099511627776))<|Aa (a0n+1) fun D7=>Aa (List.take (a0n*1) a0++[.sc (.int .u8 Du)]) fun Ed=>Dn fu call a0n a0 a1 a2 (fu) D7 (a2) 7 Ed))))) (Ad C0 Tryz.prog fu d):=by kernel_rfl
abbrev Qc:FuncId:=102
theorem Z2 (fu d a0n:Nat)(a0:List PV)(a1_0 a1_1:Int)(a1_2:ByteArray):Ad C0 Tryz.prog fu (d+1) Qc [.own 1 a0n a0,.agg [.sc (.int .i64 a1_0),.sc (.int .u64 a1_1),.sc (.string a1_2)]]=(fun (call:Ai)=>Bb (a1_0==7) (Aa (wrap .u8 a1_1) fun x1=>Aa (wrap .u8 (244+x1)) fun x2=>Ap (decide (a0n*1<=a0.length)&&true&&decide ((a0n+1)*1<=1099511627776)&&decide (a0n+1<=1099511627776))<|Aa (a0n+1) fun x3=>Aa (List.take (a0n*1) a0++[.sc (.int .u8 x2)]) fun x4=>Ap (decide (x3*1<=x4.length))<|some (Au.mk [.own 1 x3 (List.take (x3*1) x4)] [])) (Bb (a1_0==8) (Ap (decide (a0n*1<=a0.length)&&true&&decide ((a0n+1)*1<=1099511627776)&&decide (a0n+1<=1099511627776))<|Aa (a0n+1) fun x5=>Aa (List.take (a0n*1) a0++[.sc (.int .u8 246)]) fun x6=>Ap (decide (x5*1<=x6.length))<|some (Au.mk [.own 1 x5 (List.take (x5*1) x6)] [])) (Bb (a1_0==3) (Aa (wrap .i64 (a1_0-1)) fun x7=>Aa (wrap .u8 x7) fun x8=>Aa (wrap .u64 (↑(ByteArray.size a1_2):Int)) fun x9=>Ap (decide (a0n*1<=a0.length))<|Ag (call 119 [.own 1 a0n (List.take (a0n*1) a0),.sc (.int .u8 x8),.sc (.int .u64 x9)]) fun Cg Cj=>Ab Cg fun Dd Dk=>D0 1 Dd fun C6 Du=>Ac Dk<|Ac Cj<|Ap (decide (C6*1<=Du.length)&&decide (List.length (Dh a1_2)=ByteArray.size a1_2*1)&&decide ((C6+ByteArray.size a1_2)*1<=1099511627776)&&decide (C6+ByteArray.size a1_2<=1099511627776))<|Aa (C6+ByteArray.size a1_2) fun D7=>Aa (List.take (C6*1) Du++Dh a1_2) fun Ed=>Ap (decide (D7*1<=Ed.length))<|some (Au.mk [.own 1 D7 (List.take (D7*1) Ed)] [])) (Bb (a1_0==4) (Aa (wrap .i64 (a1_0-1)) fun Ex=>Aa (wrap .u8 Ex) fun Eu=>Aa (wrap .u64 (↑(ByteArray.size a1_2):Int)) fun E5=>Ap (decide (a0n*1<=a0.length))<|Ag (call 119 [.own 1 a0n (List.take (a0n*1) a0),.sc (.int .u8 Eu),.sc (.int .u64 E5)]) fun Hq Gn=>Ab Hq fun G3 Ds=>D0 1 G3 fun De Fx=>Ac Ds<|Ac Gn<|Ap (decide (De*1<=Fx.length)&&decide (List.length (Dh a1_2)=ByteArray.size a1_2*1)&&decide ((De+ByteArray.size a1_2)*1<=1099511627776)&&decide (De+ByteArray.size a1_2<=1099511627776))<|Aa (De+ByteArray.size a1_2) fun Hp=>Aa (List.take (De*1) Fx++Dh a1_2) fun Es=>Ap (decide (Hp*1<=Es.length))<|some (Au.mk [.own 1 Hp (List.take (Hp*1) Es)] [])) (Aa (wrap .i64 (a1_0-1)) fun I8=>Aa (wrap .u8 I8) fun Lg=>Ap (decide (a0n*1<=a0.length))<|Ag (call 119 [.own 1 a0n (List.take (a0n*1) a0),.sc (.int .u8 Lg),.sc (.int .u64 a1_1)]) fun Jw J4=>Ab Jw fun Ka Mo=>D0 1 Ka fun O9 Qs=>Ac Mo<|Ac J4<|Ap (decide (O9*1<=Qs.length))<|some (Au.mk [.own 1 O9 (List.take (O9*1) Qs)] [])))))) (Ad C0 Tryz.prog fu d):=by kernel_rfl
abbrev Q3:FuncId:=90
theorem EC (fu d a0_0n:Nat)(a0_0:List PV)(a0_1:Int):Ad C0 Tryz.prog fu (d+1) Q3 [.pbox [.own 3 a0_0n a0_0,.sc (.int .i64 a0_1)]]=(fun (call:Ai)=>Bb (decide (a0_1>0)) (Ap (decide (a0_0n*3<=a0_0.length))<|some (Au.mk [.sc (.bool ((↑a0_0n:Int)==0))] [[.own 3 a0_0n (List.take (a0_0n*3) a0_0),.sc (.int .i64 a0_1)]])) (Ap (decide (a0_0n*3<=a0_0.length))<|some (Au.mk [.sc (.bool false)] [[.own 3 a0_0n (List.take (a0_0n*3) a0_0),.sc (.int .i64 a0_1)]]))) (Ad C0 Tryz.prog fu d):=by kernel_rfl
abbrev P8:FuncId:=128
theorem Z8 (fu d a0_0n:Nat)(a0_0:List PV)(a0_1:Int):Ad C0 Tryz.prog fu (d+1) P8 [.pbox [.own 3 a0_0n a0_0,.sc (.int .i64 a0_1)]]=(fun (call:Ai)=>Bb (decide ((↑a0_0n:Int)>0)) (Aa (wrap .i64 ((↑a0_0n:Int)-1)) fun x1=>Ap (decide (0<=x1)&&decide (x1<(↑a0_0n:Int)))<|Bm (List.getD a0_0 (0+Int.toNat x1*3+0) .top) fun x2=>Bb x2 (Aa (wrap .i64 ((↑a0_0n:Int)-1)) fun x3=>Ap (decide (0<=x3)&&decide (x3<(↑a0_0n:Int)))<|Ae .i64 (List.getD a0_0 (0+Int.toNat x3*3+1) .top) fun x4=>Aa (Int.tmod x4 2) fun x5=>Ap (decide (a0_0n*3<=a0_0.length))<|some (Au.mk [.sc (.bool (x5==0))] [[.own 3 a0_0n (List.take (a0_0n*3) a0_0),.sc (.int .i64 a0_1)]])) (Ap (decide (a0_0n*3<=a0_0.length))<|some (Au.mk [.sc (.bool false)] [[.own 3 a0_0n (List.take (a0_0n*3) a0_0),.sc (.int .i64 a0_1)]]))) (Ap (decide (a0_0n*3<=a0_0.length))<|some (Au.mk [.sc (.bool false)] [[.own 3 a0_0n (List.take (a0_0n*3) a0_0),.sc (.int .i64 a0_1)]]))) (Ad C0 Tryz.prog fu d):=by kernel_rfl
abbrev Qg:FuncId:=114
theorem BL (fu d a0_0n:Nat)(a0_0:List PV)(a0_1 a1:Int):Ad C0 Tryz.prog fu (d+1) Qg [.pbox [.own 3 a0_0n a0_0,.sc (.int .i64 a0_1)],.sc (.int .i64 a1)]=(fun (call:Ai)=>Bb (decide (a0_1>=512)) (Ap (decide (a0_0n*3<=a0_0.length))<|some (Au.mk [.sc (.int .i64 8)] [[.own 3 a0_0n (List.take (a0_0n*3) a0_0),.sc (.int .i64 a0_1)]])) (Bb (decide (a1<1)) (Ap (decide (a0_0n*3<=a0_0.length))<|some (Au.mk [.sc (.int .i64 3)] [[.own 3 a0_0n (List.take (a0_0n*3) a0_0),.sc (.int .i64 a0_1)]])) (Bb (decide (a1>8)) (Ap (decide (a0_0n*3<=a0_0.length))<|some (Au.mk [.sc (.int .i64 3)] [[.own 3 a0_0n (List.take (a0_0n*3) a0_0),.sc (.int .i64 a0_1)]])) (Ap (decide (a0_0n*3<=a0_0.length))<|Ag (call 128 [.pbox [.own 3 a0_0n (List.take (a0_0n*3) a0_0),.sc (.int .i64 a0_1)]]) fun x1 x2=>Ab x1 fun x3 x4=>Bm x3 fun x5=>Ac x4<|Ab x2 fun x6 x7=>Ab x6 fun x8 x9=>D0 3 x8 fun Cg Cj=>Ab x9 fun Dd Dk=>Ae .i64 Dd fun C6=>Ac Dk<|Ac x7<|Bb x5 (Bb (a1 != 1) (Bb (a1 != 2) (Bb (a1 != 4) (Ap (decide (Cg*3<=Cj.length))<|some (Au.mk [.sc (.int .i64 3)] [[.own 3 Cg (List.take (Cg*3) Cj),.sc (.int .i64 C6)]])) (Bb (decide ((↑Cg:Int)>8)) (Ap (decide (Cg*3<=Cj.length))<|some (Au.mk [.sc (.int .i64 5)] [[.own 3 Cg (List.take (Cg*3) Cj),.sc (.int .i64 C6)]])) (Ap (decide (Cg*3<=Cj.length))<|some (Au.mk [.sc (.int .i64 0)] [[.own 3 Cg (List.take (Cg*3) Cj),.sc (.int .i64 C6)]])))) (Bb (decide ((↑Cg:Int)>8)) (Ap (decide (Cg*3<=Cj.length))<|some (Au.mk [.sc (.int .i64 5)] [[.own 3 Cg (List.take (Cg*3) Cj),.sc (.int .i64 C6)]])) (Ap (decide (Cg*3<=Cj.length))<|some (Au.mk [.sc (.int .i64 0)] [[.own 3 Cg (List.take (Cg*3) Cj),.sc (.int .i64 C6)]])))) (Bb (decide ((↑Cg:Int)>8)) (Ap (decide (Cg*3<=Cj.length))<|some (Au.mk [.sc (.int .i64 5)] [[.own 3 Cg (List.take (Cg*3) Cj),.sc (.int .i64 C6)]])) (Ap (decide (Cg*3<=Cj.length))<|some (Au.mk [.sc (.int .i64 0)] [[.own 3 Cg (List.take (Cg*3) Cj),.sc (.int .i64 C6)]])))) (Bb (decide ((↑Cg:Int)>8)) (Ap (decide (Cg*3<=Cj.length))<|some (Au.mk [.sc (.int .i64 5)] [[.own 3 Cg (List.take (Cg*3) Cj),.sc (.int .i64 C6)]])) (Ap (decide (Cg*3<=Cj.length))<|some (Au.mk [.sc (.int .i64 0)] [[.own 3 Cg (List.take (Cg*3) Cj),.sc (.int .i64 C6)]]))))))) (Ad C0 Tryz.prog fu d):=by kernel_rfl
abbrev Qw:FuncId:=130
noncomputable def A8 (fu:Nat)(call:Ai)(a0_0n:Nat)(a0_0:List PV)(a0_1 a1_0 a1_1:Int)(a1_2:ByteArray)(nn:Nat)(y0:Int)(y1:Nat)(y2:Int)(y3:List PV):Option Au:=C9 CB Tryz.prog fu call 130 Tryz.f130 (B5 Tryz.f130) [.pbox [.own 3 a0_0n a0_0,.sc (.int .i64 a0_1)],.agg [.sc (.int .i64 a1_0),.sc (.int .u64 a1_1),.sc (.string a1_2)]] [.r,.r,.r,.r,.r,.r,.l] nn ⟨lk [(0,(.ptr 212000 0)),(5,(.sc (.int .i64 y0)))],B3 [(212000,(.st [(.view 212106 3 0 y1),(.sc (.int .i64 y2))])),(212106,(.ar false y3))]⟩
theorem My (fu:Nat)(call:Ai)(a0_0n:Nat)(a0_0:List PV)(a0_1 a1_0 a1_1:Int)(a1_2:ByteArray)(nn:Nat)(y0:Int)(y1:Nat)(y2:Int)(y3:List PV):A8 fu call a0_0n a0_0 a0_1 a1_0 a1_1 a1_2 (nn+1) y0 y1 y2 y3=(Bb (decide (y0>0)) (Aa (wrap .i64 (y0-1)) fun Qs=>Ap (decide (0<=Qs)&&decide (Qs<(↑y1:Int)))<|Ae .i64 (List.getD y3 (0+Int.toNat Qs*3+1) .top) fun Qj=>Bb (Qj==0) (Aa (wrap .i64 (y0-1)) fun Gs=>Ap (decide (0<=Gs))<|Ap (decide (Int.toNat Gs<=y1))<|Aa (Int.toNat Gs-0) fun H0=>Aa (wrap .i64 (y0-1)) fun Sn=>A8 fu call a0_0n a0_0 a0_1 a1_0 a1_1 a1_2 (nn) Sn H0 (y2) (y3)) (Ap (decide (y1*3<=y3.length))<|some (Au.mk [] [[.own 3 y1 (List.take (y1*3) y3),.sc (.int .i64 y2)]]))) (Ap (decide (y1*3<=y3.length))<|some (Au.mk [] [[.own 3 y1 (List.take (y1*3) y3),.sc (.int .i64 y2)]]))):=by kernel_rfl
theorem DY (fu d a0_0n:Nat)(a0_0:List PV)(a0_1 a1_0 a1_1:Int)(a1_2:ByteArray):Ad C0 Tryz.prog fu (d+1) Qw [.pbox [.own 3 a0_0n a0_0,.sc (.int .i64 a0_1)],.agg [.sc (.int .i64 a1_0),.sc (.int .u64 a1_1),.sc (.string a1_2)]]=(fun (call:Ai)=>Aa (wrap .i64 (a0_1+1)) fun x1=>Bb (decide ((↑a0_0n:Int)>0)) (Aa (wrap .i64 ((↑a0_0n:Int)-1)) fun x2=>Ap (decide (0<=x2)&&decide (x2<(↑a0_0n:Int)))<|Ae .i64 (List.getD a0_0 (0+Int.toNat x2*3+1) .top) fun x3=>Aa (wrap .i64 (x3-1)) fun x4=>Ap (decide (0<=x2)&&decide (x2<(↑a0_0n:Int)))<|Ap (decide (0+Int.toNat x2*3+1+1<=a0_0.length))<|Aa (Bg a0_0 [.sc (.int .i64 x4)] (0+Int.toNat x2*3+1)) fun x5=>Bb (a1_0==5) (Bb (decide (a1_1>0)) (Aa (wrap .i64 a1_1) fun x6=>Ap (decide (a0_0n*3<=x5.length)&&true&&decide ((a0_0n+1)*40<=1099511627776)&&decide (a0_0n+1<=1099511627776))<|Aa (a0_0n+1) fun x7=>Aa (List.take (a0_0n*3) x5++[.sc (.bool false),.sc (.int .i64 x6),.lst false 1 0 []]) fun x8=>Bb (a1_0==6) (Bb (decide (a1_1>0)) (Aa (wrap .i64 a1_1) fun x9=>Aa (wrap .i64 (2*x9)) fun Cg=>Ap (decide (x7*3<=x8.length)&&true&&decide ((x7+1)*40<=1099511627776)&&decide (x7+1<=1099511627776))<|Aa (x7+1) fun Cj=>Aa (List.take (x7*3) x8++[.sc (.bool true),.sc (.int .i64 Cg),.lst false 1 0 []]) fun Dd=>A8 fu call a0_0n a0_0 a0_1 a1_0 a1_1 a1_2 (fu) ((↑Cj:Int)) Cj x1 Dd) (A8 fu call a0_0n a0_0 a0_1 a1_0 a1_1 a1_2 (fu) ((↑x7:Int)) x7 x1 x8)) (A8 fu call a0_0n a0_0 a0_1 a1_0 a1_1 a1_2 (fu) ((↑x7:Int)) x7 x1 x8)) (Bb (a1_0==6) (Bb (decide (a1_1>0)) (Aa (wrap .i64 a1_1) fun Dk=>Aa (wrap .i64 (2*Dk)) fun C6=>Ap (decide (a0_0n*3<=x5.length)&&true&&decide ((a0_0n+1)*40<=1099511627776)&&decide (a0_0n+1<=1099511627776))<|Aa (a0_0n+1) fun Du=>Aa (List.take (a0_0n*3) x5++[.sc (.bool true),.sc (.int .i64 C6),.lst false 1 0 []]) fun D7=>A8 fu call a0_0n a0_0 a0_1 a1_0 a1_1 a1_2 (fu) ((↑Du:Int)) Du x1 D7) (A8 fu call a0_0n a0_0 a0_1 a1_0 a1_1 a1_2 (fu) ((↑a0_0n:Int)) (a0_0n) x1 x5)) (A8 fu call a0_0n a0_0 a0_1 a1_0 a1_1 a1_2 (fu) ((↑a0_0n:Int)) (a0_0n) x1 x5))) (Bb (a1_0==6) (Bb (decide (a1_1>0)) (Aa (wrap .i64 a1_1) fun Ed=>Aa (wrap .i64 (2*Ed)) fun Ex=>Ap (decide (a0_0n*3<=x5.length)&&true&&decide ((a0_0n+1)*40<=1099511627776)&&decide (a0_0n+1<=1099511627776))<|Aa (a0_0n+1) fun Eu=>Aa (List.take (a0_0n*3) x5++[.sc (.bool true),.sc (.int .i64 Ex),.lst false 1 0 []]) fun E5=>A8 fu call a0_0n a0_0 a0_1 a1_0 a1_1 a1_2 (fu) ((↑Eu:Int)) Eu x1 E5) (A8 fu call a0_0n a0_0 a0_1 a1_0 a1_1 a1_2 (fu) ((↑a0_0n:Int)) (a0_0n) x1 x5)) (A8 fu call a0_0n a0_0 a0_1 a1_0 a1_1 a1_2 (fu) ((↑a0_0n:Int)) (a0_0n) x1 x5))) (Bb (a1_0==5) (Bb (decide (a1_1>0)) (Aa (wrap .i64 a1_1) fun Hq=>Ap (decide (a0_0n*3<=a0_0.length)&&true&&decide ((a0_0n+1)*40<=1099511627776)&&decide (a0_0n+1<=1099511627776))<|Aa (a0_0n+1) fun Gn=>Aa (List.take (a0_0n*3) a0_0++[.sc (.bool false),.sc (.int .i64 Hq),.lst false 1 0 []]) fun G3=>Bb (a1_0==6) (Bb (decide (a1_1>0)) (Aa (wrap .i64 a1_1) fun Ds=>Aa (wrap .i64 (2*Ds)) fun De=>Ap (decide (Gn*3<=G3.length)&&true&&decide ((Gn+1)*40<=1099511627776)&&decide (Gn+1<=1099511627776))<|Aa (Gn+1) fun Fx=>Aa (List.take (Gn*3) G3++[.sc (.bool true),.sc (.int .i64 De),.lst false 1 0 []]) fun Hp=>A8 fu call a0_0n a0_0 a0_1 a1_0 a1_1 a1_2 (fu) ((↑Fx:Int)) Fx x1 Hp) (A8 fu call a0_0n a0_0 a0_1 a1_0 a1_1 a1_2 (fu) ((↑Gn:Int)) Gn x1 G3)) (A8 fu call a0_0n a0_0 a0_1 a1_0 a1_1 a1_2 (fu) ((↑Gn:Int)) Gn x1 G3)) (Bb (a1_0==6) (Bb (decide (a1_1>0)) (Aa (wrap .i64 a1_1) fun Es=>Aa (wrap .i64 (2*Es)) fun I8=>Ap (decide (a0_0n*3<=a0_0.length)&&true&&decide ((a0_0n+1)*40<=1099511627776)&&decide (a0_0n+1<=1099511627776))<|Aa (a0_0n+1) fun Lg=>Aa (List.take (a0_0n*3) a0_0++[.sc (.bool true),.sc (.int .i64 I8),.lst false 1 0 []]) fun Jw=>A8 fu call a0_0n a0_0 a0_1 a1_0 a1_1 a1_2 (fu) ((↑Lg:Int)) Lg x1 Jw) (A8 fu call a0_0n a0_0 a0_1 a1_0 a1_1 a1_2 (fu) ((↑a0_0n:Int)) (a0_0n) x1 (a0_0))) (A8 fu call a0_0n a0_0 a0_1 a1_0 a1_1 a1_2 (fu) ((↑a0_0n:Int)) (a0_0n) x1 (a0_0)))) (Bb (a1_0==6) (Bb (decide (a1_1>0)) (Aa (wrap .i64 a1_1) fun J4=>Aa (wrap .i64 (2*J4)) fun Ka=>Ap (decide (a0_0n*3<=a0_0.length)&&true&&decide ((a0_0n+1)*40<=1099511627776)&&decide (a0_0n+1<=1099511627776))<|Aa (a0_0n+1) fun Mo=>Aa (List.take (a0_0n*3) a0_0++[.sc (.bool true),.sc (.int .i64 Ka),.lst false 1 0 []]) fun O9=>A8 fu call a0_0n a0_0 a0_1 a1_0 a1_1 a1_2 (fu) ((↑Mo:Int)) Mo x1 O9) (A8 fu call a0_0n a0_0 a0_1 a1_0 a1_1 a1_2 (fu) ((↑a0_0n:Int)) (a0_0n) x1 (a0_0))) (A8 fu call a0_0n a0_0 a0_1 a1_0 a1_1 a1_2 (fu) ((↑a0_0n:Int)) (a0_0n) x1 (a0_0))))) (Ad C0 Tryz.prog fu d):=by kernel_rfl
abbrev Ih:FuncId:=115
theorem Il (fu d a0_0n:Nat)(a0_0:List PV)(a0_1 a1_0 a1_1:Int)(a1_2:ByteArray):Ad C0 Tryz.prog fu (d+1) Ih [.pbox [.own 3 a0_0n a0_0,.sc (.int .i64 a0_1)],.agg [.sc (.int .i64 a1_0),.sc (.int .u64 a1_1),.sc (.string a1_2)]]=(fun (call:Ai)=>Bb (a1_0==4) (Ag (call 56 [.sc (.string a1_2)]) fun x1 x2=>Ac x2<|Ab x1 fun x3 x4=>Bm x3 fun x5=>Ac x4<|Bb (!x5) (Ap (decide (a0_0n*3<=a0_0.length))<|some (Au.mk [.sc (.int .i64 6)] [[.own 3 a0_0n (List.take (a0_0n*3) a0_0),.sc (.int .i64 a0_1)]])) (Ap (decide (a0_0n*3<=a0_0.length))<|Ag (call 128 [.pbox [.own 3 a0_0n (List.take (a0_0n*3) a0_0),.sc (.int .i64 a0_1)]]) fun x6 x7=>Ab x6 fun x8 x9=>Bm x8 fun Cg=>Ac x9<|Ab x7 fun Cj Dd=>Ab Cj fun Dk C6=>D0 3 Dk fun Du D7=>Ab C6 fun Ed Ex=>Ae .i64 Ed fun Eu=>Ac Ex<|Ac Dd<|Bb Cg (Aa (wrap .i64 ((↑Du:Int)-1)) fun E5=>Ap (decide (0<=E5)&&decide (E5<(↑Du:Int)))<|Ag (call 102 [.own 1 0 [],.agg [.sc (.int .i64 a1_0),.sc (.int .u64 a1_1),.sc (.string a1_2)]]) fun Hq Gn=>Ab Hq fun G3 Ds=>D0 1 G3 fun De Fx=>Ac Ds<|Ac Gn<|Ho 1 (List.getD D7 (0+Int.toNat E5*3+0+2) .top) fun Hp Es I8=>Bb (decide (0<Es)) (Ho 1 (List.getD D7 (0+Int.toNat E5*3+0+2) .top) fun Lg Jw J4=>Ap (decide (0+De*1<=Fx.length))<|Ag (call 129 [.lst false 1 Jw J4,.lst false 1 De (List.take (De*1) (List.drop 0 Fx))]) fun Ka Mo=>Ac Mo<|Ab Ka fun O9 Qs=>Bm O9 fun Qj=>Ac Qs<|Bb (!Qj) (Ap (decide (Du*3<=D7.length))<|some (Au.mk [.sc (.int .i64 7)] [[.own 3 Du (List.take (Du*3) D7),.sc (.int .i64 Eu)]])) (Ap (decide (0+Int.toNat E5*3+0+2+1<=D7.length))<|Ap (decide (0+De*1<=Fx.length))<|Aa (Bg D7 [.lst false 1 De (List.take (De*1) (List.drop 0 Fx))] (0+Int.toNat E5*3+0+2)) fun Gs=>Ap (decide (Du*3<=Gs.length))<|Ag (call 130 [.pbox [.own 3 Du (List.take (Du*3) Gs),.sc (.int .i64 Eu)],.agg [.sc (.int .i64 a1_0),.sc (.int .u64 a1_1),.sc (.string a1_2)]]) fun H0 Sn=>Ac H0<|Ab Sn fun Y2 Lh=>Ab Y2 fun Tv Tr=>D0 3 Tv fun Tk Sj=>Ab Tr fun Xn X3=>Ae .i64 Xn fun R4=>Ac X3<|Ac Lh<|Ap (decide (Tk*3<=Sj.length))<|some (Au.mk [.sc (.int .i64 0)] [[.own 3 Tk (List.take (Tk*3) Sj),.sc (.int .i64 R4)]]))) (W8 (Ho 1 (List.getD D7 (0+Int.toNat E5*3+0+2) .top) fun Vw Xk Wt=>Ap (decide (0+De*1<=Fx.length))<|Ag (call 129 [.lst false 1 Xk Wt,.lst false 1 De (List.take (De*1) (List.drop 0 Fx))]) fun Om Xr=>Ac Xr<|Ab Om fun CG BC=>Bm CG fun CI=>Ac BC<|Bb (!CI) (Ap (decide (Du*3<=D7.length))<|some (Au.mk [.sc (.int .i64 7)] [[.own 3 Du (List.take (Du*3) D7),.sc (.int .i64 Eu)]])) (Ap (decide (0+Int.toNat E5*3+0+2+1<=D7.length))<|Ap (decide (0+De*1<=Fx.length))<|Aa (Bg D7 [.lst false 1 De (List.take (De*1) (List.drop 0 Fx))] (0+Int.toNat E5*3+0+2)) fun Tw=>Ap (decide (Du*3<=Tw.length))<|Ag (call 130 [.pbox [.own 3 Du (List.take (Du*3) Tw),.sc (.int .i64 Eu)],.agg [.sc (.int .i64 a1_0),.sc (.int .u64 a1_1),.sc (.string a1_2)]]) fun Yo CF=>Ac Yo<|Ab CF fun Xe Tx=>Ab Xe fun CD Uv=>D0 3 CD fun Xd Wl=>Ab Uv fun V6 Xc=>Ae .i64 V6 fun Xh=>Ac Xc<|Ac Tx<|Ap (decide (Xd*3<=Wl.length))<|some (Au.mk [.sc (.int .i64 0)] [[.own 3 Xd (List.take (Xd*3) Wl),.sc (.int .i64 Xh)]]))) (Ap (decide (0+Int.toNat E5*3+0+2+1<=D7.length))<|Ap (decide (0+De*1<=Fx.length))<|Aa (Bg D7 [.lst false 1 De (List.take (De*1) (List.drop 0 Fx))] (0+Int.toNat E5*3+0+2)) fun Ze=>Ap (decide (Du*3<=Ze.length))<|Ag (call 130 [.pbox [.own 3 Du (List.take (Du*3) Ze),.sc (.int .i64 Eu)],.agg [.sc (.int .i64 a1_0),.sc (.int .u64 a1_1),.sc (.string a1_2)]]) fun Yy CE=>Ac Yy<|Ab CE fun GW DQ=>Ab GW fun ES HE=>D0 3 ES fun CH V4=>Ab HE fun MB MD=>Ae .i64 MB fun XP=>Ac MD<|Ac DQ<|Ap (decide (CH*3<=V4.length))<|some (Au.mk [.sc (.int .i64 0)] [[.own 3 CH (List.take (CH*3) V4),.sc (.int .i64 XP)]])))) (Ap (decide (Du*3<=D7.length))<|Ag (call 130 [.pbox [.own 3 Du (List.take (Du*3) D7),.sc (.int .i64 Eu)],.agg [.sc (.int .i64 a1_0),.sc (.int .u64 a1_1),.sc (.string a1_2)]]) fun WR TB=>Ac WR<|Ab TB fun TC TN=>Ab TC fun TL TJ=>D0 3 TL fun TK HA=>Ab TJ fun ON UD=>Ae .i64 ON fun VL=>Ac UD<|Ac TN<|Ap (decide (TK*3<=HA.length))<|some (Au.mk [.sc (.int .i64 0)] [[.own 3 TK (List.take (TK*3) HA),.sc (.int .i64 VL)]])))) (Ap (decide (a0_0n*3<=a0_0.length))<|Ag (call 128 [.pbox [.own 3 a0_0n (List.take (a0_0n*3) a0_0),.sc (.int .i64 a0_1)]]) fun XO HL=>Ab XO fun x95 ZY=>Bm x95 fun TI=>Ac ZY<|Ab HL fun XQ EI=>Ab XQ fun Wm Va=>D0 3 Wm fun Hc Jd=>Ab Va fun Zw Sf=>Ae .i64 Zw fun Ru=>Ac Sf<|Ac EI<|Bb TI (Aa (wrap .i64 ((↑Hc:Int)-1)) fun J0=>Ap (decide (0<=J0)&&decide (J0<(↑Hc:Int)))<|Ag (call 102 [.own 1 0 [],.agg [.sc (.int .i64 a1_0),.sc (.int .u64 a1_1),.sc (.string a1_2)]]) fun Wi Yf=>Ab Wi fun Yq Zb=>D0 1 Yq fun H1 Js=>Ac Zb<|Ac Yf<|Ho 1 (List.getD Jd (0+Int.toNat J0*3+0+2) .top) fun Xy Ya Ye=>Bb (decide (0<Ya)) (Ho 1 (List.getD Jd (0+Int.toNat J0*3+0+2) .top) fun EK Yg Wk=>Ap (decide (0+H1*1<=Js.length))<|Ag (call 129 [.lst false 1 Yg Wk,.lst false 1 H1 (List.take (H1*1) (List.drop 0 Js))]) fun Yu Yv=>Ac Yv<|Ab Yu fun BU Za=>Bm BU fun Ys=>Ac Za<|Bb (!Ys) (Ap (decide (Hc*3<=Jd.length))<|some (Au.mk [.sc (.int .i64 7)] [[.own 3 Hc (List.take (Hc*3) Jd),.sc (.int .i64 Ru)]])) (Ap (decide (0+Int.toNat J0*3+0+2+1<=Jd.length))<|Ap (decide (0+H1*1<=Js.length))<|Aa (Bg Jd [.lst false 1 H1 (List.take (H1*1) (List.drop 0 Js))] (0+Int.toNat J0*3+0+2)) fun Pj=>Ap (decide (Hc*3<=Pj.length))<|Ag (call 130 [.pbox [.own 3 Hc (List.take (Hc*3) Pj),.sc (.int .i64 Ru)],.agg [.sc (.int .i64 a1_0),.sc (.int .u64 a1_1),.sc (.string a1_2)]]) fun Pm Sx=>Ac Pm<|Ab Sx fun Yh X4=>Ab Yh fun Lf EQ=>D0 3 Lf fun Yr Ut=>Ab EQ fun BW GT=>Ae .i64 BW fun CL=>Ac GT<|Ac X4<|Ap (decide (Yr*3<=Ut.length))<|some (Au.mk [.sc (.int .i64 0)] [[.own 3 Yr (List.take (Yr*3) Ut),.sc (.int .i64 CL)]]))) (W8 (Ho 1 (List.getD Jd (0+Int.toNat J0*3+0+2) .top) fun GM DB Yp=>Ap (decide (0+H1*1<=Js.length))<|Ag (call 129 [.lst false 1 DB Yp,.lst false 1 H1 (List.take (H1*1) (List.drop 0 Js))]) fun AK ED=>Ac ED<|Ab AK fun DE EE=>Bm DE fun Xu=>Ac EE<|Bb (!Xu) (Ap (decide (Hc*3<=Jd.length))<|some (Au.mk [.sc (.int .i64 7)] [[.own 3 Hc (List.take (Hc*3) Jd),.sc (.int .i64 Ru)]])) (Ap (decide (0+Int.toNat J0*3+0+2+1<=Jd.length))<|Ap (decide (0+H1*1<=Js.length))<|Aa (Bg Jd [.lst false 1 H1 (List.take (H1*1) (List.drop 0 Js))] (0+Int.toNat J0*3+0+2)) fun Zz=>Ap (decide (Hc*3<=Zz.length))<|Ag (call 130 [.pbox [.own 3 Hc (List.take (Hc*3) Zz),.sc (.int .i64 Ru)],.agg [.sc (.int .i64 a1_0),.sc (.int .u64 a1_1),.sc (.string a1_2)]]) fun Zp Z6=>Ac Zp<|Ab Z6 fun DH JO=>Ab DH fun MG GH=>D0 3 MG fun Wf EB=>Ab GH fun KC NH=>Ae .i64 KC fun Tt=>Ac NH<|Ac JO<|Ap (decide (Wf*3<=EB.length))<|some (Au.mk [.sc (.int .i64 0)] [[.own 3 Wf (List.take (Wf*3) EB),.sc (.int .i64 Tt)]]))) (Ap (decide (0+Int.toNat J0*3+0+2+1<=Jd.length))<|Ap (decide (0+H1*1<=Js.length))<|Aa (Bg Jd [.lst false 1 H1 (List.take (H1*1) (List.drop 0 Js))] (0+Int.toNat J0*3+0+2)) fun NB=>Ap (decide (Hc*3<=NB.length))<|Ag (call 130 [.pbox [.own 3 Hc (List.take (Hc*3) NB),.sc (.int .i64 Ru)],.agg [.sc (.int .i64 a1_0),.sc (.int .u64 a1_1),.sc (.string a1_2)]]) fun JY MV=>Ac JY<|Ab MV fun SM HQ=>Ab SM fun NC RA=>D0 3 NC fun KD MJ=>Ab RA fun ZD IY=>Ae .i64 ZD fun MH=>Ac IY<|Ac HQ<|Ap (decide (KD*3<=MJ.length))<|some (Au.mk [.sc (.int .i64 0)] [[.own 3 KD (List.take (KD*3) MJ),.sc (.int .i64 MH)]])))) (Ap (decide (Hc*3<=Jd.length))<|Ag (call 130 [.pbox [.own 3 Hc (List.take (Hc*3) Jd),.sc (.int .i64 Ru)],.agg [.sc (.int .i64 a1_0),.sc (.int .u64 a1_1),.sc (.string a1_2)]]) fun SG QX=>Ac SG<|Ab QX fun UB YI=>Ab UB fun YF ZT=>D0 3 YF fun SK MP=>Ab ZT fun ZW Aam=>Ae .i64 ZW fun Aau=>Ac Aam<|Ac YI<|Ap (decide (SK*3<=MP.length))<|some (Au.mk [.sc (.int .i64 0)] [[.own 3 SK (List.take (SK*3) MP),.sc (.int .i64 Aau)]])))) (Ad C0 Tryz.prog fu d):=by kernel_rfl
abbrev M4:FuncId:=118
theorem Ww (fu d a0_0n:Nat)(a0_0:List PV)(a0_1 a1_0 a1_1:Int)(a1_2:ByteArray):Ad C0 Tryz.prog fu (d+1) M4 [.pbox [.own 3 a0_0n a0_0,.sc (.int .i64 a0_1)],.agg [.sc (.int .i64 a1_0),.sc (.int .u64 a1_1),.sc (.string a1_2)]]=(fun (call:Ai)=>Ap (decide (a0_0n*3<=a0_0.length))<|Ag (call 90 [.pbox [.own 3 a0_0n (List.take (a0_0n*3) a0_0),.sc (.int .i64 a0_1)]]) fun x1 x2=>Ab x1 fun x3 x4=>Bm x3 fun x5=>Ac x4<|Ab x2 fun x6 x7=>Ab x6 fun x8 x9=>D0 3 x8 fun Cg Cj=>Ab x9 fun Dd Dk=>Ae .i64 Dd fun C6=>Ac Dk<|Ac x7<|Bb x5 (Ap (decide (Cg*3<=Cj.length))<|some (Au.mk [.sc (.int .i64 2)] [[.own 3 Cg (List.take (Cg*3) Cj),.sc (.int .i64 C6)]])) (Ap (decide (Cg*3<=Cj.length))<|Ag (call 114 [.pbox [.own 3 Cg (List.take (Cg*3) Cj),.sc (.int .i64 C6)],.sc (.int .i64 a1_0)]) fun Du D7=>Ab Du fun Ed Ex=>Ae .i64 Ed fun Eu=>Ac Ex<|Ab D7 fun E5 Hq=>Ab E5 fun Gn G3=>D0 3 Gn fun Ds De=>Ab G3 fun Fx Hp=>Ae .i64 Fx fun Es=>Ac Hp<|Ac Hq<|Bb (Eu != 0) (Ap (decide (Ds*3<=De.length))<|some (Au.mk [.sc (.int .i64 Eu)] [[.own 3 Ds (List.take (Ds*3) De),.sc (.int .i64 Es)]])) (Ag (call 131 [.agg [.sc (.int .i64 a1_0),.sc (.int .u64 a1_1),.sc (.string a1_2)]]) fun I8 Lg=>Ac Lg<|Ab I8 fun Jw J4=>Bm Jw fun Ka=>Ac J4<|Bb (!Ka) (Ap (decide (Ds*3<=De.length))<|some (Au.mk [.sc (.int .i64 4)] [[.own 3 Ds (List.take (Ds*3) De),.sc (.int .i64 Es)]])) (Bb (decide ((↑(ByteArray.size a1_2):Int)>1024)) (Ap (decide (Ds*3<=De.length))<|some (Au.mk [.sc (.int .i64 8)] [[.own 3 Ds (List.take (Ds*3) De),.sc (.int .i64 Es)]])) (Bb (a1_0==5) (Bb (decide (a1_1>512)) (Ap (decide (Ds*3<=De.length))<|some (Au.mk [.sc (.int .i64 8)] [[.own 3 Ds (List.take (Ds*3) De),.sc (.int .i64 Es)]])) (Ap (decide (Ds*3<=De.length))<|Ag (call 115 [.pbox [.own 3 Ds (List.take (Ds*3) De),.sc (.int .i64 Es)],.agg [.sc (.int .i64 a1_0),.sc (.int .u64 a1_1),.sc (.string a1_2)]]) fun Mo O9=>Ab Mo fun Qs Qj=>Ae .i64 Qs fun Gs=>Ac Qj<|Ab O9 fun H0 Sn=>Ab H0 fun Y2 Lh=>D0 3 Y2 fun Tv Tr=>Ab Lh fun Tk Sj=>Ae .i64 Tk fun Xn=>Ac Sj<|Ac Sn<|Ap (decide (Tv*3<=Tr.length))<|some (Au.mk [.sc (.int .i64 Gs)] [[.own 3 Tv (List.take (Tv*3) Tr),.sc (.int .i64 Xn)]]))) (Bb (a1_0==6) (Bb (decide (a1_1>512)) (Ap (decide (Ds*3<=De.length))<|some (Au.mk [.sc (.int .i64 8)] [[.own 3 Ds (List.take (Ds*3) De),.sc (.int .i64 Es)]])) (Ap (decide (Ds*3<=De.length))<|Ag (call 115 [.pbox [.own 3 Ds (List.take (Ds*3) De),.sc (.int .i64 Es)],.agg [.sc (.int .i64 a1_0),.sc (.int .u64 a1_1),.sc (.string a1_2)]]) fun X3 R4=>Ab X3 fun Vw Xk=>Ae .i64 Vw fun Wt=>Ac Xk<|Ab R4 fun Om Xr=>Ab Om fun CG BC=>D0 3 CG fun CI Tw=>Ab BC fun Yo CF=>Ae .i64 Yo fun Xe=>Ac CF<|Ac Xr<|Ap (decide (CI*3<=Tw.length))<|some (Au.mk [.sc (.int .i64 Wt)] [[.own 3 CI (List.take (CI*3) Tw),.sc (.int .i64 Xe)]]))) (Ap (decide (Ds*3<=De.length))<|Ag (call 115 [.pbox [.own 3 Ds (List.take (Ds*3) De),.sc (.int .i64 Es)],.agg [.sc (.int .i64 a1_0),.sc (.int .u64 a1_1),.sc (.string a1_2)]]) fun Tx CD=>Ab Tx fun Uv Xd=>Ae .i64 Uv fun Wl=>Ac Xd<|Ab CD fun V6 Xc=>Ab V6 fun Xh Ze=>D0 3 Xh fun Yy CE=>Ab Ze fun GW DQ=>Ae .i64 GW fun ES=>Ac DQ<|Ac Xc<|Ap (decide (Yy*3<=CE.length))<|some (Au.mk [.sc (.int .i64 Wl)] [[.own 3 Yy (List.take (Yy*3) CE),.sc (.int .i64 ES)]])))))))) (Ad C0 Tryz.prog fu d):=by kernel_rfl
abbrev Th:FuncId:=101
noncomputable def Ht (fu:Nat)(call:Ai)(a0n:Nat)(a0:List PV)(nn y0:Nat)(y1:List PV)(y2 y3:Int)(y4:Nat)(y5:Int)(y6:List PV):Option Au:=C9 CB Tryz.prog fu call 101 Tryz.f101 (B5 Tryz.f101) [.lst false 3 a0n a0] [.r,.r,.l,.r,.l] nn ⟨lk [(3,(.ptr 3 0)),(7,(.lst false 3 y0 y1)),(8,(.sc (.int .i64 y2))),(9,(.sc (.int .i64 y3)))],B3 [(3,(.st [(.view 25 3 0 y4),(.sc (.int .i64 y5))])),(25,(.ar false y6))]⟩
theorem Ov (fu:Nat)(call:Ai)(a0n:Nat)(a0:List PV)(nn y0:Nat)(y1:List PV)(y2 y3:Int)(y4:Nat)(y5:Int)(y6:List PV):Ht fu call a0n a0 (nn+1) y0 y1 y2 y3 y4 y5 y6=(Bb (decide (y3<y2)) (Ap (decide (0<=y3)&&decide (y3<(↑y0:Int)))<|Ae .i64 (List.getD y1 (Int.toNat y3*3) .top) fun x1=>Ae .u64 (List.getD y1 (Int.toNat y3*3+1) .top) fun x2=>C4 (List.getD y1 (Int.toNat y3*3+1+1) .top) fun x3=>Ap (decide (y4*3<=y6.length))<|Ag (call 118 [.pbox [.own 3 y4 (List.take (y4*3) y6),.sc (.int .i64 y5)],.agg [.sc (.int .i64 x1),.sc (.int .u64 x2),.sc (.string x3)]]) fun x4 x5=>Ab x4 fun x6 x7=>Ae .i64 x6 fun x8=>Ac x7<|Ab x5 fun x9 Cg=>Ab x9 fun Cj Dd=>D0 3 Cj fun Dk C6=>Ab Dd fun Du D7=>Ae .i64 Du fun Ed=>Ac D7<|Ac Cg<|Bb (x8 != 0) (some (Au.mk [.sc (.int .i64 x8)] [])) (Aa (wrap .i64 (y3+1)) fun Ex=>Ht fu call a0n a0 (nn) (y0) (y1) (y2) Ex Dk Ed C6)) (Ap (decide (y4*3<=y6.length))<|Ag (call 90 [.pbox [.own 3 y4 (List.take (y4*3) y6),.sc (.int .i64 y5)]]) fun Eu E5=>Ab Eu fun Hq Gn=>Bm Hq fun G3=>Ac Gn<|Ab E5 fun Ds De=>Ab Ds fun Fx Hp=>D0 3 Fx fun Es I8=>Ab Hp fun Lg Jw=>Ae .i64 Lg fun J4=>Ac Jw<|Ac De<|Bb (!G3) (some (Au.mk [.sc (.int .i64 1)] [])) (some (Au.mk [.sc (.int .i64 0)] [])))):=by kernel_rfl
theorem GN (fu d a0n:Nat)(a0:List PV):Ad C0 Tryz.prog fu (d+1) Th [.lst false 3 a0n a0]=(fun (call:Ai)=>Ht fu call a0n a0 (fu) (a0n) (a0) ((↑a0n:Int)) 0 0 0 ([])) (Ad C0 Tryz.prog fu d):=by kernel_rfl
abbrev Ua:FuncId:=100
theorem HR (fu d a0n:Nat)(a0:List PV):Ad C0 Tryz.prog fu (d+1) Ua [.own 3 a0n a0]=(fun (call:Ai)=>Ap (decide (0+a0n*3<=a0.length))<|Ag (call 101 [.lst false 3 a0n (List.take (a0n*3) (List.drop 0 a0))]) fun x1 x2=>Ac x2<|Ab x1 fun x3 x4=>Ae .i64 x3 fun x5=>Ac x4<|Bb (x5 != 0) (some (Au.mk [.own 3 0 [],.sc (.int .i64 x5)] [])) (Ap (decide (a0n*3<=a0.length))<|some (Au.mk [.own 3 a0n (List.take (a0n*3) a0),.sc (.int .i64 0)] []))) (Ad C0 Tryz.prog fu d):=by kernel_rfl
abbrev W7:FuncId:=99
noncomputable def Jc (fu:Nat)(call:Ai)(a0n:Nat)(a0:List PV)(nn y0:Nat)(y1:List PV)(y2 y3:Int):Option Au:=C9 CB Tryz.prog fu call 99 Tryz.f99 (B5 Tryz.f99) [.lst false 1 a0n a0] [.r,.l,.r,.l] nn ⟨lk [(6,(.lst false 1 y0 y1)),(7,(.sc (.int .i64 y2))),(8,(.sc (.int .i64 y3)))],B3 []⟩
theorem Ry (fu:Nat)(call:Ai)(a0n:Nat)(a0:List PV)(nn y0:Nat)(y1:List PV)(y2 y3:Int):Jc fu call a0n a0 (nn+1) y0 y1 y2 y3=(Bb (decide (y3<y2)) (Ap (decide (0<=y3)&&decide (y3<(↑y0:Int)))<|Ho 3 (List.getD y1 (Int.toNat y3*1) .top) fun x1 x2 x3=>Ag (call 101 [.lst false 3 x2 x3]) fun x4 x5=>Ac x5<|Ab x4 fun x6 x7=>Ae .i64 x6 fun x8=>Ac x7<|Bb (x8 != 0) (some (Au.mk [.sc (.int .i64 x8)] [])) (Aa (wrap .i64 (y3+1)) fun x9=>Jc fu call a0n a0 (nn) (y0) (y1) (y2) x9)) (some (Au.mk [.sc (.int .i64 0)] []))):=by kernel_rfl
theorem MS (fu d a0n:Nat)(a0:List PV):Ad C0 Tryz.prog fu (d+1) W7 [.lst false 1 a0n a0]=(fun (call:Ai)=>Jc fu call a0n a0 (fu) (a0n) (a0) ((↑a0n:Int)) 0) (Ad C0 Tryz.prog fu d):=by kernel_rfl
abbrev Sd:FuncId:=67
noncomputable def Lm (fu:Nat)(call:Ai)(a0n:Nat)(a0:List PV)(nn y0 y1:Nat)(y2:List PV)(y3 y4:Int)(y5:List PV):Option Au:=C9 CB Tryz.prog fu call 67 Tryz.f67 (B5 Tryz.f67) [.lst false 1 a0n a0] [.r,.r,.r,.l,.r,.l] nn ⟨lk [(5,(.view 5 3 0 y0)),(18,(.lst false 1 y1 y2)),(19,(.sc (.int .i64 y3))),(20,(.sc (.int .i64 y4)))],B3 [(5,(.ar false y5))]⟩
theorem S8 (fu:Nat)(call:Ai)(a0n:Nat)(a0:List PV)(nn y0 y1:Nat)(y2:List PV)(y3 y4:Int)(y5:List PV):Lm fu call a0n a0 (nn+1) y0 y1 y2 y3 y4 y5=(Bb (decide (y4<y3)) (Ap (decide (0<=y4)&&decide (y4<(↑y1:Int)))<|Ho 3 (List.getD y2 (Int.toNat y4*1) .top) fun x7 x8 x9=>Bb (decide ((↑y0:Int)>512)) (Ap (decide (y0*3<=y5.length))<|Ag (call 100 [.own 3 y0 (List.take (y0*3) y5)]) fun Cg Cj=>Ab Cg fun Dd Dk=>D0 3 Dd fun C6 Du=>Ab Dk fun D7 Ed=>Ae .i64 D7 fun Ex=>Ac Ed<|Ac Cj<|Ap (decide (C6*3<=Du.length))<|some (Au.mk [.own 3 C6 (List.take (C6*3) Du),.sc (.int .i64 Ex)] [])) (Ap (decide (y0*3<=y5.length)&&decide (x9.length=x8*3)&&decide ((y0+x8)*32<=1099511627776)&&decide (y0+x8<=1099511627776))<|Aa (y0+x8) fun Eu=>Aa (List.take (y0*3) y5++x9) fun E5=>Aa (wrap .i64 (y4+1)) fun Hq=>Lm fu call a0n a0 (nn) Eu (y1) (y2) (y3) Hq E5)) (Ap (decide (y0*3<=y5.length))<|Ag (call 100 [.own 3 y0 (List.take (y0*3) y5)]) fun Gn G3=>Ab Gn fun Ds De=>D0 3 Ds fun Fx Hp=>Ab De fun Es I8=>Ae .i64 Es fun Lg=>Ac I8<|Ac G3<|Ap (decide (Fx*3<=Hp.length))<|some (Au.mk [.own 3 Fx (List.take (Fx*3) Hp),.sc (.int .i64 Lg)] []))):=by kernel_rfl
theorem QZ (fu d a0n:Nat)(a0:List PV):Ad C0 Tryz.prog fu (d+1) Sd [.lst false 1 a0n a0]=(fun (call:Ai)=>Ag (call 99 [.lst false 1 a0n a0]) fun x1 x2=>Ac x2<|Ab x1 fun x3 x4=>Ae .i64 x3 fun x5=>Ac x4<|Bb (x5 != 0) (some (Au.mk [.own 3 0 [],.sc (.int .i64 x5)] [])) (Aa (wrap .u64 (↑a0n:Int)) fun x6=>Lm fu call a0n a0 (fu) 1 (a0n) (a0) ((↑a0n:Int)) 0 ([.sc (.int .i64 5),.sc (.int .u64 x6),.sc (.string (ByteArray.mk #[]))]))) (Ad C0 Tryz.prog fu d):=by kernel_rfl
abbrev Qp:FuncId:=72
noncomputable def Ja (fu:Nat)(call:Ai)(a0n:Nat)(a0:List PV)(nn y0 y1:Nat)(y2:List PV)(y3 y4:Int)(y5:List PV):Option Au:=C9 CB Tryz.prog fu call 72 Tryz.f72 (B5 Tryz.f72) [.lst false 3 a0n a0] [.r,.r,.r,.l,.r,.l] nn ⟨lk [(5,(.view 5 1 0 y0)),(13,(.lst false 3 y1 y2)),(14,(.sc (.int .i64 y3))),(15,(.sc (.int .i64 y4)))],B3 [(5,(.ar false y5))]⟩
theorem R3 (fu:Nat)(call:Ai)(a0n:Nat)(a0:List PV)(nn y0 y1:Nat)(y2:List PV)(y3 y4:Int)(y5:List PV):Ja fu call a0n a0 (nn+1) y0 y1 y2 y3 y4 y5=(Bb (decide (y4<y3)) (Ap (decide (0<=y4)&&decide (y4<(↑y1:Int)))<|Ae .i64 (List.getD y2 (Int.toNat y4*3) .top) fun x6=>Ae .u64 (List.getD y2 (Int.toNat y4*3+1) .top) fun x7=>C4 (List.getD y2 (Int.toNat y4*3+1+1) .top) fun x8=>Ap (decide (y0*1<=y5.length))<|Ag (call 102 [.own 1 y0 (List.take (y0*1) y5),.agg [.sc (.int .i64 x6),.sc (.int .u64 x7),.sc (.string x8)]]) fun x9 Cg=>Ab x9 fun Cj Dd=>D0 1 Cj fun Dk C6=>Ac Dd<|Ac Cg<|Aa (wrap .i64 (y4+1)) fun Du=>Ja fu call a0n a0 (nn) Dk (y1) (y2) (y3) Du C6) (Ap (decide (y0*1<=y5.length))<|some (Au.mk [.own 1 y0 (List.take (y0*1) y5),.sc (.int .i64 0)] []))):=by kernel_rfl
theorem MM (fu d a0n:Nat)(a0:List PV):Ad C0 Tryz.prog fu (d+1) Qp [.lst false 3 a0n a0]=(fun (call:Ai)=>Ag (call 101 [.lst false 3 a0n a0]) fun x1 x2=>Ac x2<|Ab x1 fun x3 x4=>Ae .i64 x3 fun x5=>Ac x4<|Bb (x5 != 0) (some (Au.mk [.own 1 0 [],.sc (.int .i64 x5)] [])) (Ja fu call a0n a0 (fu) 0 (a0n) (a0) ((↑a0n:Int)) 0 ([]))) (Ad C0 Tryz.prog fu d):=by kernel_rfl
end
section
open Go.IntKind (wrap)
set_option maxRecDepth 100000
abbrev Oc:FuncId:=116
noncomputable def Cw (fu:Nat)(call:Ai)(a0_0 a0_1:Int)(a0_2:ByteArray)(nn:Nat)(y0 y1:Int):Option Au:=C9 CB Tryz.prog fu call 116 Tryz.f116 (B5 Tryz.f116) [.agg [.sc (.int .i64 a0_0),.sc (.int .u64 a0_1),.sc (.string a0_2)]] [.r,.r,.r] nn ⟨lk [(3,(.sc (.int .u64 y0))),(4,(.sc (.int .u8 y1)))],B3 []⟩
theorem Tu (fu:Nat)(call:Ai)(a0_0 a0_1:Int)(a0_2:ByteArray)(nn:Nat)(hnn:0<nn)(y0 y1:Int):Cw fu call a0_0 a0_1 a0_2 nn y0 y1=(Bb (decide (y0<24)) (Aa (wrap .u8 y0) fun x5=>Aa (wrap .u8 (y1+x5)) fun x6=>some (Au.mk [.own 1 1 [.sc (.int .u8 x6)]] [])) (Bb (decide (y0<256)) (Aa (wrap .u8 (y1+24)) fun x7=>Aa (wrap .u8 y0) fun x8=>some (Au.mk [.own 1 2 [.sc (.int .u8 x7),.sc (.int .u8 x8)]] [])) (Bb (decide (y0<65536)) (Aa (wrap .u8 (y1+25)) fun x9=>Aa (Dw .u64 y0 8) fun Cg=>Aa (wrap .u8 Cg) fun Cj=>Aa (wrap .u8 y0) fun Dd=>some (Au.mk [.own 1 3 [.sc (.int .u8 x9),.sc (.int .u8 Cj),.sc (.int .u8 Dd)]] [])) (Bb (decide (y0<4294967296)) (Aa (wrap .u8 (y1+26)) fun Dk=>Aa (Dw .u64 y0 24) fun C6=>Aa (wrap .u8 C6) fun Du=>Aa (Dw .u64 y0 16) fun D7=>Aa (wrap .u8 D7) fun Ed=>Aa (Dw .u64 y0 8) fun Ex=>Aa (wrap .u8 Ex) fun Eu=>Aa (wrap .u8 y0) fun E5=>some (Au.mk [.own 1 5 [.sc (.int .u8 Dk),.sc (.int .u8 Du),.sc (.int .u8 Ed),.sc (.int .u8 Eu),.sc (.int .u8 E5)]] [])) (Aa (wrap .u8 (y1+27)) fun Hq=>Ag (call 84 [.lst false 1 1 [.sc (.int .u64 y0)]]) fun Gn G3=>Ac G3<|Ab Gn fun Ds De=>D0 1 Ds fun Fx Hp=>Ac De<|Ap (decide (0+Fx*1<=Hp.length))<|Ap (decide (List.length (List.take (Fx*1) (List.drop 0 Hp))=Fx*1)&&decide ((1+Fx)*1<=1099511627776)&&decide (1+Fx<=1099511627776))<|Aa (1+Fx) fun Es=>Aa ([.sc (.int .u8 Hq)]++List.take (Fx*1) (List.drop 0 Hp)) fun I8=>Ap (decide (Es*1<=I8.length))<|some (Au.mk [.own 1 Es (List.take (Es*1) I8)] [])))))):=by cases nn with|zero=>exact absurd hnn (Nat.lt_irrefl 0)|succ nn=>kernel_rfl
theorem Yb (fu d:Nat)(a0_0 a0_1:Int)(a0_2:ByteArray):Ad C0 Tryz.prog fu (d+1) Oc [.agg [.sc (.int .i64 a0_0),.sc (.int .u64 a0_1),.sc (.string a0_2)]]=(fun (call:Ai)=>Bb (a0_0==7) (Aa (wrap .u8 a0_1) fun x1=>Aa (wrap .u8 (244+x1)) fun x2=>some (Au.mk [.own 1 1 [.sc (.int .u8 x2)]] [])) (Bb (a0_0==8) (some (Au.mk [.own 1 1 [.sc (.int .u8 246)]] [])) (Bb (a0_0==2) (Cw fu call a0_0 a0_1 a0_2 (fu) (a0_1) 32) (Bb (a0_0==3) (Aa (wrap .u64 (↑(ByteArray.size a0_2):Int)) fun x3=>Cw fu call a0_0 a0_1 a0_2 (fu) x3 64) (Bb (a0_0==4) (Aa (wrap .u64 (↑(ByteArray.size a0_2):Int)) fun x4=>Cw fu call a0_0 a0_1 a0_2 (fu) x4 96) (Bb (a0_0==5) (Cw fu call a0_0 a0_1 a0_2 (fu) (a0_1) 128) (Bb (a0_0==6) (Cw fu call a0_0 a0_1 a0_2 (fu) (a0_1) 160) (Cw fu call a0_0 a0_1 a0_2 (fu) (a0_1) 0)))))))) (Ad C0 Tryz.prog fu d):=by kernel_rfl
abbrev Mx:FuncId:=94
theorem Ws (fu d:Nat)(a0_0 a0_1:Int)(a0_2:ByteArray):Ad C0 Tryz.prog fu (d+1) Mx [.agg [.sc (.int .i64 a0_0),.sc (.int .u64 a0_1),.sc (.string a0_2)]]=(fun (call:Ai)=>Ag (call 116 [.agg [.sc (.int .i64 a0_0),.sc (.int .u64 a0_1),.sc (.string a0_2)]]) fun x1 x2=>Ac x2<|Ab x1 fun x3 x4=>D0 1 x3 fun x5 x6=>Ac x4<|Ap (decide (0+x5*1<=x6.length))<|Ap (decide (List.length (List.take (x5*1) (List.drop 0 x6))=x5))<|D8 (bytesOf (List.take (x5*1) (List.drop 0 x6))) fun x7=>Ap (decide (ByteArray.size (ByteArray.mk (List.toArray x7))+ByteArray.size a0_2<=9223372036854775807))<|Aa (ByteArray.mk (List.toArray x7)++a0_2) fun x8=>some (Au.mk [.sc (.string x8)] [])) (Ad C0 Tryz.prog fu d):=by kernel_rfl
end
section
open Go.IntKind (wrap)
def H9 (s:ByteArray):List Int:=s.data.toList.map fun b=>(b.toNat:Int)
def B8 (l:List Int):ByteArray:=⟨(l.map fun n=>n.toNat.toUInt8).toArray⟩
theorem Oj (s:ByteArray):(H9 s).length=s.size:=by
 unfold H9;rw [List.length_map];rfl
theorem YX (s:ByteArray):Jv (H9 s):=by
 intro x hx;obtain ⟨b,_,rfl⟩:=List.mem_map.1 hx;have:=b.toNat_lt;omega
theorem Mf (s:ByteArray):Dh s=Af .u8 (H9 s):=by
 unfold Dh H9
 induction s.data.toList with
 |nil=>rfl
 |cons b l ih=>rw [Zzw,Zzw,ih];rfl
theorem Ft (l:List Int):(B8 l).size=l.length:=by
 show (l.map fun n=>n.toNat.toUInt8).toArray.size=_
 simp
theorem Nk {l:List Int}(h:Jv l):H9 (B8 l)=l:=by
 unfold H9 B8;simp only [List.map_map]
 have:∀l:List Int,Jv l->List.map ((fun b:UInt8=>(b.toNat:Int)) ∘ fun n:Int=>n.toNat.toUInt8) l=l:=by
  intro l
  induction l with
  |nil=>intro _;rfl
  |cons x l ih=>
   intro h;have hx:=h x (by simp)
   rw [Zzw,ih fun y hy=>h y (by simp [hy])]
   congr 1
   show ((x.toNat.toUInt8.toNat:Nat):Int)=x;rw [Nat.toUInt8,UInt8.toNat_ofNat'];omega
 exact this l h
theorem BA (s:ByteArray):B8 (H9 s)=s:=by
 unfold B8 H9;simp only [List.map_map]
 have:∀l:List UInt8,List.map ((fun n:Int=>n.toNat.toUInt8) ∘ fun b:UInt8=>(b.toNat:Int)) l=l:=by
  intro l
  induction l with
  |nil=>rfl
  |cons x l ih=>
   rw [Zzw,ih]
   congr 1
   show ((x.toNat:Int).toNat).toUInt8=x;rw [H3];simp
 rw [this]
theorem E1:∀l:List Int,bytesOf (Af .u8 l)=some (l.map fun n=>n.toNat.toUInt8)
 |[]=>rfl
 |x::l=>by
  show (bytesOf (Af .u8 l)).map (x.toNat.toUInt8 :: ·)=_
  rw [E1 l];rfl
theorem WM (l:List Int)(s:ByteArray):B8 l++s=B8 (l++H9 s):=by
 conv=>lhs;rw [←BA s]
 unfold B8;apply ByteArray.ext;rw [ByteArray.data_append];simp
def tb (n:Int)(k:Nat):List Int:=(List.range' (8-k) k).map (C1 n)
def Cr (mj n:Int):List Int:=
 if n<24 then [32*mj+n] else if n<256 then (32*mj+24)::tb n 1 else if n<65536 then (32*mj+25)::tb n 2 else if n<4294967296 then (32*mj+26)::tb n 4 else (32*mj+27)::tb n 8
structure It where
 k:Int
 n:Int
 s:ByteArray
def It.cells (x:It):List PV:=[.sc (.int .i64 x.k),.sc (.int .u64 x.n),.sc (.string x.s)]
def Bp (x:It):List Int:=
 if x.k=7 then [wrap .u8 (244+wrap .u8 x.n)] else if x.k=8 then [246] else if x.k=3 then Cr 2 x.s.size++H9 x.s else if x.k=4 then Cr 3 x.s.size++H9 x.s else Cr (x.k-1) x.n
theorem Xt (n:Int)(k:Nat):(tb n k).length=k:=by simp [tb]
theorem Aqj (n:Int)(k:Nat):Jv (tb n k):=by
 intro x hx;obtain ⟨j,_,rfl⟩:=List.mem_map.1 hx;exact VW n j
theorem Gy (mj n:Int):1<=(Cr mj n).length∧(Cr mj n).length<=9:=by
 unfold Cr
 repeat' split
 all_goals simp [Xt]
theorem RD {mj n:Int}(h0:0<=mj)(h1:mj<=6)(hn:0<=n):Jv (Cr mj n):=by
 have hc:∀(a:Int) (l:List Int),0<=a∧a<=255->Jv l->Jv (a::l):=by
  intro a l ha hl x hx;rcases List.mem_cons.1 hx with rfl|hx
  ·exact ha
  ·exact hl x hx
 unfold Cr
 repeat' split
 ·exact hc _ _ (by omega) (fun _ h=>by simp at h)
 all_goals exact hc _ _ (by omega) (Aqj _ _)
theorem Aa9 {x:It}(h0:1<=x.k)(h1:x.k<=8)(hn:0<=x.n):Jv (Bp x):=by
 have happ:∀(a b:List Int),Jv a->Jv b->Jv (a++b):=by
  intro a b ha hb y hy;rcases List.mem_append.1 hy with h|h
  ·exact ha y h
  ·exact hb y h
 unfold Bp
 repeat' split
 ·intro y hy;simp at hy;subst hy;simp only [wrap,IntKind.signed,IntKind.bits];simp;omega
 ·intro y hy;simp at hy;omega
 ·exact happ _ _ (RD (by omega) (by omega) (by omega)) (YX _)
 ·exact happ _ _ (RD (by omega) (by omega) (by omega)) (YX _)
 ·exact RD (by omega) (by omega) hn
theorem Gg (x:It):(Bp x).length<=9+x.s.size:=by
 unfold Bp;have h2:=Gy 2 x.s.size;have h3:=Gy 3 x.s.size;have h4:=Gy (x.k-1) x.n;have hs:=Oj x.s
 repeat' split
 all_goals try simp only [I9,Jz,AA]
 all_goals omega
section
variable {fu d:Nat}
theorem PE {call:Ai}{a0n:Nat}{a0:List PV}{a1 a2 n:Int}:∀(k nn:Nat)(l:List Int),k<=8->k<nn->l.length+k<=1000000 ->
  Dn fu call a0n a0 a1 a2 nn l.length n ((k:Int)-1) (Af .u8 l)=some ⟨[.own 1 (l++tb n k).length (Af .u8 (l++tb n k))],[]⟩
 |_,0,_,_,h,_=>by omega
 |0,nn+1,l,hk,hn,hl=>by
  have L:=Aj .u8 l;rw [Me,Do _ _ _ (by omega)]
  simp (disch:=omega) only [Bv,Cb,I1,L];simp [tb]
 |k+1,nn+1,l,hk,hn,hl=>by
  have ih:=PE (call:=call) (a0n:=a0n) (a0:=a0) (a1:=a1) (a2:=a2) (n:=n) k nn (l++[C1 n (8-(k+1))]) (by omega) (by omega) (by simp;omega)
  have L:=Aj .u8 l;have w8:wrap .i64 (8*(((k+1:Nat):Int)-1))=8*(k:Int):=by rw [Ak (by omega) (by omega)];omega
  have w:wrap .i64 (((k+1:Nat):Int)-1-1)=(k:Int)-1:=by rw [Ak (by omega) (by omega)];omega
  have hb:wrap .u8 (Dw .u64 n (8*(k:Int)))=C1 n (8-(k+1)):=by
   unfold C1;rw [show 56-8*((8-(k+1):Nat):Int)=8*(k:Int) by omega]
  have et:tb n (k+1)=C1 n (8-(k+1))::tb n k:=by
   unfold tb;rw [List.range'_succ,Zzw,show 8-(k+1)+1=8-k by omega]
  have ea:l++tb n (k+1)=l++[C1 n (8-(k+1))]++tb n k:=by rw [et];simp
  rw [ea,←ih,Me];simp (disch:=omega) only [Bv,w8,hb,w,Cb,I1,L,Fs,I9,Jz,AA,C3]
theorem Ap8 {mj:Int}(h0:0<=mj)(h1:mj<=7):Gm .u8 mj 5=32*mj:=by
 have:mj=0∨mj=1∨mj=2∨mj=3∨mj=4∨mj=5∨mj=6∨mj=7:=by omega
 rcases this with rfl|rfl|rfl|rfl|rfl|rfl|rfl|rfl<;>decide
theorem Acb (hfu:1000<=fu){l:List Int}(hl:l.length<=900000){mj n:Int}(h0:0<=mj)(h1:mj<=5)(hn:0<=n):Ad C0 Tryz.prog fu (d+1) Jb [.own 1 l.length (Af .u8 l),.sc (.int .u8 mj),.sc (.int .u64 n)]=some ⟨[.own 1 (l++Cr mj n).length (Af .u8 (l++Cr mj n))],[]⟩:=by
 rw [BS];have s5:=Ap8 h0 (by omega)
 have L:=Aj .u8 l;have w24:wrap .u8 (32*mj+24)=32*mj+24:=Fh (by omega) (by omega)
 have w25:wrap .u8 (32*mj+25)=32*mj+25:=Fh (by omega) (by omega)
 have w26:wrap .u8 (32*mj+26)=32*mj+26:=Fh (by omega) (by omega)
 have w27:wrap .u8 (32*mj+27)=32*mj+27:=Fh (by omega) (by omega)
 have lp:=fun (k:Nat) (hk:k<=8) (b:Int)=>PE (fu:=fu) (call:=Ad C0 Tryz.prog fu d) (a0n:=l.length) (a0:=Af .u8 l) (a1:=mj) (a2:=n) (n:=n) k fu (l++[b]) hk (by omega) (by simp;omega)
 have ec:∀(b:Int) (t:List Int),l++b::t=l++[b]++t:=by intro b t;simp
 unfold Cr;by_cases c1:n<24
 ·have wn:wrap .u8 n=n:=Fh (by omega) (by omega)
  have ws:wrap .u8 (32*mj+n)=32*mj+n:=Fh (by omega) (by omega)
  have L1:=Aj .u8 (l++[32*mj+n]);have t1:=I1 .u8 (l++[32*mj+n]);simp only [I9,Jz,AA,C3] at L1 t1;rw [B4 c1];simp (disch:=omega) only [Bv,s5,wn,ws,Cb,I1,L,Fs,L1,t1,I9,Jz,AA,C3]
 ·by_cases c2:n<256
  ·have l1:=lp 1 (by omega) (32*mj+24)
   rw [show ((1:Nat):Int)-1=0 by omega] at l1
   rw [A5 c1,B4 c2,ec,←l1];simp (disch:=omega) only [Bv,s5,w24,Cb,I1,L,Fs,I9,Jz,AA,C3]
  ·by_cases c3:n<65536
   ·have l1:=lp 2 (by omega) (32*mj+25)
    rw [show ((2:Nat):Int)-1=1 by omega] at l1
    rw [A5 c1,A5 c2,B4 c3,ec,←l1];simp (disch:=omega) only [Bv,s5,w25,Cb,I1,L,Fs,I9,Jz,AA,C3]
   ·by_cases c4:n<4294967296
    ·have l1:=lp 4 (by omega) (32*mj+26)
     rw [show ((4:Nat):Int)-1=3 by omega] at l1
     rw [A5 c1,A5 c2,A5 c3,B4 c4,ec,←l1];simp (disch:=omega) only [Bv,s5,w26,Cb,I1,L,Fs,I9,Jz,AA,C3]
    ·have l1:=lp 8 (by omega) (32*mj+27)
     rw [show ((8:Nat):Int)-1=7 by omega] at l1
     rw [A5 c1,A5 c2,A5 c3,A5 c4,ec,←l1];simp (disch:=omega) only [Bv,s5,w27,Cb,I1,L,Fs,I9,Jz,AA,C3]
structure It.ok (x:It):Prop where
 k1:1<=x.k
 k8:x.k<=8
 n0:0<=x.n
 s0:x.s.size<=500000
theorem Aa3 (hfu:1000<=fu){l:List Int}(hl:l.length<=300000){x:It}(hx:x.ok):Ad C0 Tryz.prog fu (d+2) Qc [.own 1 l.length (Af .u8 l),.agg x.cells]=some ⟨[.own 1 (l++Bp x).length (Af .u8 (l++Bp x))],[]⟩:=by
 obtain ⟨k,n,s⟩:=x;obtain ⟨k1,k8,n0,s0⟩:=hx;simp only at k1 k8 n0 s0;refine (Z2 fu (d+1) l.length (Af .u8 l) k n s).trans ?_;have L:=Aj .u8 l;have hsl:=Oj s;unfold Bp;simp only;by_cases c7:k=7
 ·subst c7;have L1:=Aj .u8 (l++[wrap .u8 (244+wrap .u8 n)]);have t1:=I1 .u8 (l++[wrap .u8 (244+wrap .u8 n)]);simp only [I9,Jz,AA,C3] at L1 t1;simp (disch:=omega) only [Bv,Ez,if_true,Cb,I1,L,Fs,L1,t1,I9,Jz,AA,C3]
 ·by_cases c8:k=8
  ·subst c8;have L1:=Aj .u8 (l++[246]);have t1:=I1 .u8 (l++[246]);simp only [I9,Jz,AA,C3] at L1 t1;rw [A5 c7,B4 rfl];simp (disch:=omega) only [Bv,Ez,c7,if_false,if_true,Cb,I1,L,Fs,L1,t1,I9,Jz,AA,C3]
  ·have dat:∀mj:Int,0<=mj->mj<=5->(Ad C0 Tryz.prog fu (d+1) Jb [.own 1 l.length (Af .u8 l),.sc (.int .u8 mj),.sc (.int .u64 s.size)]=some ⟨[.own 1 (l++Cr mj s.size).length (Af .u8 (l++Cr mj s.size))],[]⟩)∧(l++Cr mj s.size).length<=300009∧List.take (l++Cr mj s.size).length (Af .u8 (l++Cr mj s.size))=Af .u8 (l++Cr mj s.size)∧(Af .u8 (l++Cr mj s.size)).length=(l++Cr mj s.size).length∧Af .u8 (l++Cr mj s.size)++Dh s=Af .u8 (l++(Cr mj s.size++H9 s))∧(l++(Cr mj s.size++H9 s)).length=(l++Cr mj s.size).length+s.size∧(Af .u8 (l++(Cr mj s.size++H9 s))).length=(l++Cr mj s.size).length+s.size:=by
    intro mj h0 h1;have hh:=Gy mj s.size;refine ⟨Acb hfu (by omega) h0 h1 (by omega),by rw [I9];omega,I1 _ _,Aj _ _,?_,?_,?_⟩
    ·rw [Mf,←YM,Af,Af,Af,List.flatMap_append (xs:=l++Cr mj s.size)]
    ·rw [←YM,I9,hsl]
    ·rw [Aj,←YM,I9,hsl]
   have ss:(Dh s).length=s.size:=by rw [Mf,Aj,hsl]
   have wsz:wrap .u64 (s.size:Int)=s.size:=Ci (by omega) (by omega)
   rw [A5 c7,A5 c8];by_cases c3:k=3
   ·subst c3;obtain ⟨p1,p2,p3,p4,p5,p6,p7⟩:=dat 2 (by omega) (by omega)
    have w1:wrap .i64 ((3:Int)-1)=2:=by decide
    have w2:wrap .u8 (2:Int)=2:=by decide
    have t1:List.take ((l++Cr 2 s.size).length+s.size) (Af .u8 (l++(Cr 2 s.size++H9 s)))=Af .u8 (l++(Cr 2 s.size++H9 s)):=R6 (by omega)
    rw [B4 rfl];simp (disch:=omega) only [Bv,Ez,c7,c8,if_false,if_true,w1,w2,wsz,Cb,I1,L,p1];generalize (l++Cr 2 s.size).length=N at *
    simp (disch:=omega) only [Bv,Cb,p3,p4,p5,p7,t1,ss];rw [p6]
   ·by_cases c4:k=4
    ·subst c4;obtain ⟨p1,p2,p3,p4,p5,p6,p7⟩:=dat 3 (by omega) (by omega)
     have w1:wrap .i64 ((4:Int)-1)=3:=by decide
     have w2:wrap .u8 (3:Int)=3:=by decide
     have t1:List.take ((l++Cr 3 s.size).length+s.size) (Af .u8 (l++(Cr 3 s.size++H9 s)))=Af .u8 (l++(Cr 3 s.size++H9 s)):=R6 (by omega)
     rw [A5 c3,B4 rfl];simp (disch:=omega) only [Bv,Ez,c7,c8,c3,if_false,if_true,w1,w2,wsz,Cb,I1,L,p1];generalize (l++Cr 3 s.size).length=N at *
     simp (disch:=omega) only [Bv,Cb,p3,p4,p5,p7,t1,ss];rw [p6]
    ·have w1:wrap .i64 (k-1)=k-1:=Ak (by omega) (by omega)
     have w2:wrap .u8 (k-1)=k-1:=Fh (by omega) (by omega)
     have p1:=Acb (fu:=fu) (d:=d) hfu (l:=l) (by omega) (mj:=k-1) (n:=n) (by omega) (by omega) n0
     have L2:=Aj .u8 (l++Cr (k-1) n);have t2:=I1 .u8 (l++Cr (k-1) n);rw [A5 c3,A5 c4];simp (disch:=omega) only [Bv,Ez,c7,c8,c3,c4,if_false,w1,w2,Cb,I1,L,p1,L2,t2]
end
end
section
open Go.IntKind (wrap)
set_option maxRecDepth 100000
abbrev J3:FuncId:=48
theorem Ts (fu d:Nat)(a0 a1 a2:Int):Ad C0 Tryz.prog fu (d+1) J3 [.sc (.int .i64 a0),.sc (.int .i64 a1),.sc (.int .i64 a2)]=(fun (call:Ai)=>Bb (decide (a0>=a1)) (some (Au.mk [.sc (.bool (decide (a0<=a2)))] [])) (some (Au.mk [.sc (.bool false)] []))) (Ad C0 Tryz.prog fu d):=by kernel_rfl
abbrev Ly:FuncId:=59
theorem Vg (fu d:Nat)(a0:Int):Ad C0 Tryz.prog fu (d+1) Ly [.sc (.int .i64 a0)]=(fun (call:Ai)=>Aa (wrap .u64 a0) fun x1=>some (Au.mk [.agg [.sc (.int .i64 5),.sc (.int .u64 x1),.sc (.string (ByteArray.mk #[]))]] [])) (Ad C0 Tryz.prog fu d):=by kernel_rfl
abbrev Nd:FuncId:=60
theorem Wn (fu d:Nat)(a0:ByteArray):Ad C0 Tryz.prog fu (d+1) Nd [.sc (.string a0)]=(fun (call:Ai)=>some (Au.mk [.agg [.sc (.int .i64 4),.sc (.int .u64 0),.sc (.string a0)]] [])) (Ad C0 Tryz.prog fu d):=by kernel_rfl
abbrev Kg:FuncId:=61
theorem Tl (fu d:Nat)(a0:Int):Ad C0 Tryz.prog fu (d+1) Kg [.sc (.int .u64 a0)]=(fun (call:Ai)=>some (Au.mk [.agg [.sc (.int .i64 1),.sc (.int .u64 a0),.sc (.string (ByteArray.mk #[]))]] [])) (Ad C0 Tryz.prog fu d):=by kernel_rfl
abbrev M6:FuncId:=62
theorem Wr (fu d a0n:Nat)(a0:List PV):Ad C0 Tryz.prog fu (d+1) M6 [.lst false 1 a0n a0]=(fun (call:Ai)=>Ap (decide (a0.length=a0n))<|D8 (bytesOf a0) fun x1=>some (Au.mk [.agg [.sc (.int .i64 3),.sc (.int .u64 0),.sc (.string (ByteArray.mk (List.toArray x1)))]] [])) (Ad C0 Tryz.prog fu d):=by kernel_rfl
abbrev Jo:FuncId:=63
theorem S3 (fu d:Nat)(a0:Bool):Ad C0 Tryz.prog fu (d+1) Jo [.sc (.bool a0)]=(fun (call:Ai)=>Bb (a0) (some (Au.mk [.agg [.sc (.int .i64 7),.sc (.int .u64 1),.sc (.string (ByteArray.mk #[]))]] [])) (some (Au.mk [.agg [.sc (.int .i64 7),.sc (.int .u64 0),.sc (.string (ByteArray.mk #[]))]] []))) (Ad C0 Tryz.prog fu d):=by kernel_rfl
abbrev Mb:FuncId:=58
noncomputable def Fj (fu:Nat)(call:Ai)(a0n:Nat)(a0:List PV)(nn y0:Nat)(y1:List PV)(y2:Nat)(y3:Int)(y4:List PV):Option Au:=C9 CB Tryz.prog fu call 58 Tryz.f58 (B5 Tryz.f58) [.lst false 3 a0n a0] [.r,.r,.l,.r,.l] nn ⟨lk [(0,(.lst false 3 y0 y1)),(3,(.view 3 1 0 y2)),(4,(.sc (.int .i64 y3)))],B3 [(3,(.ar false y4))]⟩
theorem Iv (fu:Nat)(call:Ai)(a0n:Nat)(a0:List PV)(nn y0:Nat)(y1:List PV)(y2:Nat)(y3:Int)(y4:List PV):Fj fu call a0n a0 (nn+1) y0 y1 y2 y3 y4=(Bb (decide (y3<(↑y0:Int))) (Ap (decide (0<=y3)&&decide (y3<(↑y0:Int)))<|Ae .i64 (List.getD y1 (Int.toNat y3*3) .top) fun x1=>Ae .u64 (List.getD y1 (Int.toNat y3*3+1) .top) fun x2=>C4 (List.getD y1 (Int.toNat y3*3+1+1) .top) fun x3=>Ag (call 94 [.agg [.sc (.int .i64 x1),.sc (.int .u64 x2),.sc (.string x3)]]) fun x4 x5=>Ac x5<|Ab x4 fun x6 x7=>C4 x6 fun x8=>Ac x7<|Ap (decide (y2*1<=y4.length)&&decide (List.length (Dh x8)=ByteArray.size x8*1)&&decide ((y2+ByteArray.size x8)*1<=1099511627776)&&decide (y2+ByteArray.size x8<=1099511627776))<|Aa (y2+ByteArray.size x8) fun x9=>Aa (List.take (y2*1) y4++Dh x8) fun Cg=>Aa (wrap .i64 (y3+1)) fun Cj=>Fj fu call a0n a0 (nn) (y0) (y1) x9 Cj Cg) (Ap (decide (y2*1<=y4.length))<|some (Au.mk [.own 1 y2 (List.take (y2*1) y4)] []))):=by kernel_rfl
theorem Um (fu d a0n:Nat)(a0:List PV):Ad C0 Tryz.prog fu (d+1) Mb [.lst false 3 a0n a0]=(fun (call:Ai)=>Fj fu call a0n a0 (fu) (a0n) (a0) 0 0 ([])) (Ad C0 Tryz.prog fu d):=by kernel_rfl
abbrev Nf:FuncId:=32
theorem Wv (fu d:Nat)(a0_0 a0_1:ByteArray)(a0_2 a0_3:Int)(a0_4 a0_5 a0_6:Int)(a0_7:Bool)(a0_8 a0_9 a0_10:Int)(a0_11n:Nat)(a0_11:List PV)(a0_12n:Nat)(a0_12:List PV):Ad C0 Tryz.prog fu (d+1) Nf [.agg [.sc (.string a0_0),.sc (.string a0_1),.sc (.int .u64 a0_2),.sc (.int .i64 a0_3),.sc (.int .u64 a0_4),.sc (.int .i64 a0_5),.sc (.int .i64 a0_6),.sc (.bool a0_7),.sc (.int .i64 a0_8),.sc (.int .u64 a0_9),.sc (.int .i64 a0_10),.lst false 1 a0_11n a0_11,.lst false 1 a0_12n a0_12]]=(fun (call:Ai)=>Ag (call 48 [.sc (.int .i64 (↑(ByteArray.size a0_0):Int)),.sc (.int .i64 1),.sc (.int .i64 32)]) fun x1 x2=>Ac x2<|Ab x1 fun x3 x4=>Bm x3 fun x5=>Ac x4<|Bb (!x5) (some (Au.mk [.own 1 0 [],.sc (.int .i64 9)] [])) (Ag (call 48 [.sc (.int .i64 (↑(ByteArray.size a0_1):Int)),.sc (.int .i64 1),.sc (.int .i64 32)]) fun x6 x7=>Ac x7<|Ab x6 fun x8 x9=>Bm x8 fun Cg=>Ac x9<|Bb (!Cg) (some (Au.mk [.own 1 0 [],.sc (.int .i64 9)] [])) (Ag (call 56 [.sc (.string a0_0)]) fun Cj Dd=>Ac Dd<|Ab Cj fun Dk C6=>Bm Dk fun Du=>Ac C6<|Bb (!Du) (some (Au.mk [.own 1 0 [],.sc (.int .i64 6)] [])) (Ag (call 56 [.sc (.string a0_1)]) fun D7 Ed=>Ac Ed<|Ab D7 fun Ex Eu=>Bm Ex fun E5=>Ac Eu<|Bb (!E5) (some (Au.mk [.own 1 0 [],.sc (.int .i64 6)] [])) (Ag (call 57 [.agg [.sc (.int .i64 a0_3),.sc (.int .u64 a0_4)]]) fun Hq Gn=>Ac Gn<|Ab Hq fun G3 Ds=>D0 1 G3 fun De Fx=>Ab Ds fun Hp Es=>Ae .i64 Hp fun I8=>Ac Es<|Bb (I8 != 0) (some (Au.mk [.own 1 0 [],.sc (.int .i64 I8)] [])) (Bb (decide (a0_5<0)) (some (Au.mk [.own 1 0 [],.sc (.int .i64 9)] [])) (Bb (decide (a0_6<a0_5)) (some (Au.mk [.own 1 0 [],.sc (.int .i64 9)] [])) (Bb (decide (a0_6>1099511627776)) (some (Au.mk [.own 1 0 [],.sc (.int .i64 9)] [])) (Ag (call 48 [.sc (.int .i64 a0_8),.sc (.int .i64 0),.sc (.int .i64 2)]) fun Lg Jw=>Ac Jw<|Ab Lg fun J4 Ka=>Bm J4 fun Mo=>Ac Ka<|Bb (!Mo) (some (Au.mk [.own 1 0 [],.sc (.int .i64 9)] [])) (Bb (a0_8 != 0) (Bb (!a0_7) (some (Au.mk [.own 1 0 [],.sc (.int .i64 4)] [])) (Ag (call 59 [.sc (.int .i64 9)]) fun O9 Qs=>Ac Qs<|Ab O9 fun Qj Gs=>Dm Qj fun H0=>Ab H0 fun Sn Y2=>Ae .i64 Sn fun Lh=>Ab Y2 fun Tv Tr=>Ae .u64 Tv fun Tk=>Ab Tr fun Sj Xn=>C4 Sj fun X3=>Ac Xn<|Ac Gs<|Ag (call 60 [.sc (.string a0_0)]) fun R4 Vw=>Ac Vw<|Ab R4 fun Xk Wt=>Dm Xk fun Om=>Ab Om fun Xr CG=>Ae .i64 Xr fun BC=>Ab CG fun CI Tw=>Ae .u64 CI fun Yo=>Ab Tw fun CF Xe=>C4 CF fun Tx=>Ac Xe<|Ac Wt<|Ag (call 60 [.sc (.string a0_1)]) fun CD Uv=>Ac Uv<|Ab CD fun Xd Wl=>Dm Xd fun V6=>Ab V6 fun Xc Xh=>Ae .i64 Xc fun Ze=>Ab Xh fun Yy CE=>Ae .u64 Yy fun GW=>Ab CE fun DQ ES=>C4 DQ fun HE=>Ac ES<|Ac Wl<|Ag (call 61 [.sc (.int .u64 a0_2)]) fun CH V4=>Ac V4<|Ab CH fun MB MD=>Dm MB fun XP=>Ab XP fun WR TB=>Ae .i64 WR fun TC=>Ab TB fun TN TL=>Ae .u64 TN fun TJ=>Ab TL fun TK HA=>C4 TK fun ON=>Ac HA<|Ac MD<|Ap (decide (0+De*1<=Fx.length))<|Ag (call 62 [.lst false 1 De (List.take (De*1) (List.drop 0 Fx))]) fun UD VL=>Ac VL<|Ab UD fun XO HL=>Dm XO fun x95=>Ab x95 fun ZY TI=>Ae .i64 ZY fun XQ=>Ab TI fun EI Wm=>Ae .u64 EI fun Va=>Ab Wm fun Hc Jd=>C4 Hc fun Zw=>Ac Jd<|Ac HL<|Aa (wrap .u64 a0_5) fun Sf=>Ag (call 61 [.sc (.int .u64 Sf)]) fun Ru J0=>Ac J0<|Ab Ru fun Wi Yf=>Dm Wi fun Yq=>Ab Yq fun Zb H1=>Ae .i64 Zb fun Js=>Ab H1 fun Xy Ya=>Ae .u64 Xy fun Ye=>Ab Ya fun EK Yg=>C4 EK fun Wk=>Ac Yg<|Ac Yf<|Aa (wrap .u64 a0_6) fun Yu=>Ag (call 61 [.sc (.int .u64 Yu)]) fun Yv BU=>Ac BU<|Ab Yv fun Za Ys=>Dm Za fun Pj=>Ab Pj fun Pm Sx=>Ae .i64 Pm fun Yh=>Ab Sx fun X4 Lf=>Ae .u64 X4 fun EQ=>Ab Lf fun Yr Ut=>C4 Yr fun BW=>Ac Ut<|Ac Ys<|Ag (call 63 [.sc (.bool a0_7)]) fun GT CL=>Ac CL<|Ab GT fun GM DB=>Dm GM fun Yp=>Ab Yp fun AK ED=>Ae .i64 AK fun DE=>Ab ED fun EE Xu=>Ae .u64 EE fun Zz=>Ab Xu fun Zp Z6=>C4 Zp fun DH=>Ac Z6<|Ac DB<|Aa (wrap .u64 a0_8) fun JO=>Ag (call 61 [.sc (.int .u64 JO)]) fun MG GH=>Ac GH<|Ab MG fun Wf EB=>Dm Wf fun KC=>Ab KC fun NH Tt=>Ae .i64 NH fun NB=>Ab Tt fun JY MV=>Ae .u64 JY fun SM=>Ab MV fun HQ NC=>C4 HQ fun RA=>Ac NC<|Ac EB<|Ag (call 61 [.sc (.int .u64 a0_9)]) fun KD MJ=>Ac MJ<|Ab KD fun ZD IY=>Dm ZD fun MH=>Ab MH fun SG QX=>Ae .i64 SG fun UB=>Ab QX fun YI YF=>Ae .u64 YI fun ZT=>Ab YF fun SK MP=>C4 SK fun ZW=>Ac MP<|Ac IY<|Ag (call 58 [.lst false 3 10 [.sc (.int .i64 Lh),.sc (.int .u64 Tk),.sc (.string X3),.sc (.int .i64 BC),.sc (.int .u64 Yo),.sc (.string Tx),.sc (.int .i64 Ze),.sc (.int .u64 GW),.sc (.string HE),.sc (.int .i64 TC),.sc (.int .u64 TJ),.sc (.string ON),.sc (.int .i64 XQ),.sc (.int .u64 Va),.sc (.string Zw),.sc (.int .i64 Js),.sc (.int .u64 Ye),.sc (.string Wk),.sc (.int .i64 Yh),.sc (.int .u64 EQ),.sc (.string BW),.sc (.int .i64 DE),.sc (.int .u64 Zz),.sc (.string DH),.sc (.int .i64 NB),.sc (.int .u64 SM),.sc (.string RA),.sc (.int .i64 UB),.sc (.int .u64 ZT),.sc (.string ZW)]]) fun Aam Aau=>Ac Aau<|Ab Aam fun Afd Akv=>D0 1 Afd fun JM MZ=>Ac Akv<|Ap (decide (JM*1<=MZ.length))<|some (Au.mk [.own 1 JM (List.take (JM*1) MZ),.sc (.int .i64 0)] []))) (Ag (call 59 [.sc (.int .i64 9)]) fun Aga Ag5=>Ac Ag5<|Ab Aga fun RG Agj=>Dm RG fun Ahj=>Ab Ahj fun Agu Ahl=>Ae .i64 Agu fun Aif=>Ab Ahl fun UU Af0=>Ae .u64 UU fun Afr=>Ab Af0 fun Agf Agy=>C4 Agf fun Aoq=>Ac Agy<|Ac Agj<|Ag (call 60 [.sc (.string a0_0)]) fun XW Aan=>Ac Aan<|Ab XW fun Alx Al2=>Dm Alx fun YE=>Ab YE fun Amr Aqt=>Ae .i64 Amr fun Aqo=>Ab Aqt fun Ap9 Arc=>Ae .u64 Ap9 fun Ap5=>Ab Arc fun Aqr Ar6=>C4 Aqr fun Arl=>Ac Ar6<|Ac Al2<|Ag (call 60 [.sc (.string a0_1)]) fun Ar5 Aq0=>Ac Aq0<|Ab Ar5 fun Aq3 Aro=>Dm Aq3 fun Ask=>Ab Ask fun Ao1 Arw=>Ae .i64 Ao1 fun Ara=>Ab Arw fun Arq Apt=>Ae .u64 Arq fun Asu=>Ab Apt fun Apl Aox=>C4 Apl fun Ar4=>Ac Aox<|Ac Aro<|Ag (call 61 [.sc (.int .u64 a0_2)]) fun Apz Arp=>Ac Arp<|Ab Apz fun Ap7 Apk=>Dm Ap7 fun Aqv=>Ab Aqv fun Arn Aqh=>Ae .i64 Arn fun Aqd=>Ab Aqh fun Apf Apn=>Ae .u64 Apf fun Ars=>Ab Apn fun Apd Ast=>C4 Apd fun Asd=>Ac Ast<|Ac Apk<|Ap (decide (0+De*1<=Fx.length))<|Ag (call 62 [.lst false 1 De (List.take (De*1) (List.drop 0 Fx))]) fun Apq Asa=>Ac Asa<|Ab Apq fun Aq1 Apy=>Dm Aq1 fun Apx=>Ab Apx fun Ap0 Aqm=>Ae .i64 Ap0 fun Ap6=>Ab Aqm fun Apm Aqq=>Ae .u64 Apm fun Ark=>Ab Aqq fun Aq7 Ao9=>C4 Aq7 fun Aqg=>Ac Ao9<|Ac Apy<|Aa (wrap .u64 a0_5) fun Aq5=>Ag (call 61 [.sc (.int .u64 Aq5)]) fun Apb Asr=>Ac Asr<|Ab Apb fun Apv Ao3=>Dm Apv fun Aru=>Ab Aru fun Aqp Ar9=>Ae .i64 Aqp fun Ao6=>Ab Ar9 fun Art Are=>Ae .u64 Art fun Aoz=>Ab Are fun Arj Ao8=>C4 Arj fun Ari=>Ac Ao8<|Ac Ao3<|Aa (wrap .u64 a0_6) fun Aq4=>Ag (call 61 [.sc (.int .u64 Aq4)]) fun Apw Asq=>Ac Asq<|Ab Apw fun Ar0 Arg=>Dm Ar0 fun Asl=>Ab Asl fun Aoy Apc=>Ae .i64 Aoy fun Ary=>Ab Apc fun Asb Arm=>Ae .u64 Asb fun Aqk=>Ab Arm fun Ao5 Aqf=>C4 Ao5 fun App=>Ac Aqf<|Ac Arg<|Ag (call 63 [.sc (.bool a0_7)]) fun Arr Api=>Ac Api<|Ab Arr fun Ase Ar2=>Dm Ase fun Asf=>Ab Asf fun Apu Ao4=>Ae .i64 Apu fun Aqx=>Ab Ao4 fun Aqz Apg=>Ae .u64 Aqz fun Arb=>Ab Apg fun Asj Ape=>C4 Asj fun Asp=>Ac Ape<|Ac Ar2<|Aa (wrap .u64 a0_8) fun Aqa=>Ag (call 61 [.sc (.int .u64 Aqa)]) fun Asm Aqw=>Ac Aqw<|Ab Asm fun Arz Ap4=>Dm Arz fun Apo=>Ab Apo fun Asc Ao7=>Ae .i64 Asc fun Aov=>Ab Ao7 fun Arh Ao0=>Ae .u64 Arh fun Ard=>Ab Ao0 fun Ao2 Aql=>C4 Ao2 fun Apr=>Ac Aql<|Ac Ap4<|Ag (call 61 [.sc (.int .u64 a0_9)]) fun Apa Aqs=>Ac Aqs<|Ab Apa fun Ar7 Asg=>Dm Ar7 fun Aph=>Ab Aph fun Aqe Ap2=>Ae .i64 Aqe fun Aq2=>Ab Ap2 fun Arx Aqy=>Ae .u64 Arx fun Aow=>Ab Aqy fun Aqc Aso=>C4 Aqc fun Ass=>Ac Aso<|Ac Asg<|Ag (call 58 [.lst false 3 10 [.sc (.int .i64 Aif),.sc (.int .u64 Afr),.sc (.string Aoq),.sc (.int .i64 Aqo),.sc (.int .u64 Ap5),.sc (.string Arl),.sc (.int .i64 Ara),.sc (.int .u64 Asu),.sc (.string Ar4),.sc (.int .i64 Aqd),.sc (.int .u64 Ars),.sc (.string Asd),.sc (.int .i64 Ap6),.sc (.int .u64 Ark),.sc (.string Aqg),.sc (.int .i64 Ao6),.sc (.int .u64 Aoz),.sc (.string Ari),.sc (.int .i64 Ary),.sc (.int .u64 Aqk),.sc (.string App),.sc (.int .i64 Aqx),.sc (.int .u64 Arb),.sc (.string Asp),.sc (.int .i64 Aov),.sc (.int .u64 Ard),.sc (.string Apr),.sc (.int .i64 Aq2),.sc (.int .u64 Aow),.sc (.string Ass)]]) fun Aq8 Aq6=>Ac Aq6<|Ab Aq8 fun Ap3 Ash=>D0 1 Ap3 fun Al4 Aol=>Ac Ash<|Ap (decide (Al4*1<=Aol.length))<|some (Au.mk [.own 1 Al4 (List.take (Al4*1) Aol),.sc (.int .i64 0)] [])))))))))))) (Ad C0 Tryz.prog fu d):=by kernel_rfl
abbrev M7:FuncId:=13
theorem Wu (fu d:Nat)(a0_0 a0_1:ByteArray)(a0_2 a0_3:Int)(a0_4 a0_5 a0_6:Int)(a0_7:Bool)(a0_8 a0_9 a0_10:Int)(a0_11n:Nat)(a0_11:List PV)(a0_12n:Nat)(a0_12:List PV)(a1 a2 a3:Int):Ad C0 Tryz.prog fu (d+1) M7 [.agg [.sc (.string a0_0),.sc (.string a0_1),.sc (.int .u64 a0_2),.sc (.int .i64 a0_3),.sc (.int .u64 a0_4),.sc (.int .i64 a0_5),.sc (.int .i64 a0_6),.sc (.bool a0_7),.sc (.int .i64 a0_8),.sc (.int .u64 a0_9),.sc (.int .i64 a0_10),.lst false 1 a0_11n a0_11,.lst false 1 a0_12n a0_12],.sc (.int .u64 a1),.sc (.int .i64 a2),.sc (.int .i64 a3)]=(fun (call:Ai)=>Ag (call 32 [.agg [.sc (.string a0_0),.sc (.string a0_1),.sc (.int .u64 a0_2),.sc (.int .i64 a0_3),.sc (.int .u64 a0_4),.sc (.int .i64 a0_5),.sc (.int .i64 a0_6),.sc (.bool a0_7),.sc (.int .i64 a0_8),.sc (.int .u64 a0_9),.sc (.int .i64 a0_10),.lst false 1 a0_11n a0_11,.lst false 1 a0_12n a0_12]]) fun x1 x2=>Ac x2<|Ab x1 fun x3 x4=>D0 1 x3 fun x5 x6=>Ab x4 fun x7 x8=>Ae .i64 x7 fun x9=>Ac x8<|Bb (x9 != 0) (some (Au.mk [.agg [.sc (.string (ByteArray.mk #[])),.sc (.string (ByteArray.mk #[])),.sc (.int .u64 0),.sc (.int .i64 0),.sc (.int .u64 0),.sc (.int .i64 0),.sc (.int .i64 0),.sc (.bool false),.sc (.int .i64 0),.sc (.int .u64 0),.sc (.int .i64 0),.lst false 1 0 [],.lst false 1 0 []],.sc (.int .i64 x9)] [])) (Ap (decide (0+x5*1<=x6.length))<|Ag (call 34 [.sc (.int .i64 14),.lst false 1 x5 (List.take (x5*1) (List.drop 0 x6))]) fun Cg Cj=>Ac Cj<|Ab Cg fun Dd Dk=>Ae .u64 Dd fun C6=>Ac Dk<|Ag (call 33 [.sc (.int .u64 a1),.sc (.int .i64 a2),.sc (.int .i64 a3),.sc (.int .u64 C6)]) fun Du D7=>Ac D7<|Ab Du fun Ed Ex=>Dm Ed fun Eu=>Ab Eu fun E5 Hq=>Ae .i64 E5 fun Gn=>Ab Hq fun G3 Ds=>D0 1 G3 fun De Fx=>Ab Ds fun Hp Es=>D0 1 Hp fun I8 Lg=>Ac Es<|Ab Ex fun Jw J4=>Ae .i64 Jw fun Ka=>Ac J4<|Bb (Ka != 0) (some (Au.mk [.agg [.sc (.string (ByteArray.mk #[])),.sc (.string (ByteArray.mk #[])),.sc (.int .u64 0),.sc (.int .i64 0),.sc (.int .u64 0),.sc (.int .i64 0),.sc (.int .i64 0),.sc (.bool false),.sc (.int .i64 0),.sc (.int .u64 0),.sc (.int .i64 0),.lst false 1 0 [],.lst false 1 0 []],.sc (.int .i64 Ka)] [])) (Ap (decide (0+De*1<=Fx.length))<|Ap (decide (0+I8*1<=Lg.length))<|some (Au.mk [.agg [.sc (.string a0_0),.sc (.string a0_1),.sc (.int .u64 a0_2),.sc (.int .i64 a0_3),.sc (.int .u64 a0_4),.sc (.int .i64 a0_5),.sc (.int .i64 a0_6),.sc (.bool a0_7),.sc (.int .i64 a0_8),.sc (.int .u64 a0_9),.sc (.int .i64 Gn),.lst false 1 De (List.take (De*1) (List.drop 0 Fx)),.lst false 1 I8 (List.take (I8*1) (List.drop 0 Lg))],.sc (.int .i64 0)] [])))) (Ad C0 Tryz.prog fu d):=by kernel_rfl
abbrev Ke:FuncId:=22
theorem Tp (fu d:Nat)(a0_0 a0_1:ByteArray)(a0_2 a0_3:Int)(a0_4 a0_5 a0_6:Int)(a0_7:Bool)(a0_8 a0_9 a0_10:Int)(a0_11n:Nat)(a0_11:List PV)(a0_12n:Nat)(a0_12:List PV):Ad C0 Tryz.prog fu (d+1) Ke [.agg [.sc (.string a0_0),.sc (.string a0_1),.sc (.int .u64 a0_2),.sc (.int .i64 a0_3),.sc (.int .u64 a0_4),.sc (.int .i64 a0_5),.sc (.int .i64 a0_6),.sc (.bool a0_7),.sc (.int .i64 a0_8),.sc (.int .u64 a0_9),.sc (.int .i64 a0_10),.lst false 1 a0_11n a0_11,.lst false 1 a0_12n a0_12]]=(fun (call:Ai)=>Ag (call 32 [.agg [.sc (.string a0_0),.sc (.string a0_1),.sc (.int .u64 a0_2),.sc (.int .i64 a0_3),.sc (.int .u64 a0_4),.sc (.int .i64 a0_5),.sc (.int .i64 a0_6),.sc (.bool a0_7),.sc (.int .i64 a0_8),.sc (.int .u64 a0_9),.sc (.int .i64 a0_10),.lst false 1 a0_11n a0_11,.lst false 1 a0_12n a0_12]]) fun x1 x2=>Ac x2<|Ab x1 fun x3 x4=>D0 1 x3 fun x5 x6=>Ab x4 fun x7 x8=>Ae .i64 x7 fun x9=>Ac x8<|Bb (x9 != 0) (some (Au.mk [.own 1 0 [],.sc (.int .i64 x9)] [])) (Ag (call 43 [.agg [.sc (.int .i64 a0_10),.lst false 1 a0_11n a0_11,.lst false 1 a0_12n a0_12]]) fun Cg Cj=>Ac Cj<|Ab Cg fun Dd Dk=>D0 1 Dd fun C6 Du=>Ab Dk fun D7 Ed=>Ae .i64 D7 fun Ex=>Ac Ed<|Bb (Ex != 0) (some (Au.mk [.own 1 0 [],.sc (.int .i64 Ex)] [])) (Ap (decide (0+C6*1<=Du.length))<|Ap (decide (x5*1<=x6.length)&&decide (List.length (List.take (C6*1) (List.drop 0 Du))=C6*1)&&decide ((x5+C6)*1<=1099511627776)&&decide (x5+C6<=1099511627776))<|Aa (x5+C6) fun Eu=>Aa (List.take (x5*1) x6++List.take (C6*1) (List.drop 0 Du)) fun E5=>Ap (decide (Eu*1<=E5.length))<|some (Au.mk [.own 1 Eu (List.take (Eu*1) E5),.sc (.int .i64 0)] [])))) (Ad C0 Tryz.prog fu d):=by kernel_rfl
abbrev Gh:FuncId:=19
theorem Le (fu d:Nat)(a0_0 a0_1:ByteArray)(a0_2 a0_3:Int)(a0_4 a0_5 a0_6:Int)(a0_7:Bool)(a0_8 a0_9 a0_10:Int)(a0_11n:Nat)(a0_11:List PV)(a0_12n:Nat)(a0_12:List PV)(a1_0 a1_1:ByteArray)(a1_2 Aib:Int)(Afx Afu Ai0:Int)(Aiv:Bool)(Afp Ah1 VD:Int)(Age:Nat)(XJ:List PV)(Agx:Nat)(UK:List PV):Ad C0 Tryz.prog fu (d+1) Gh [.agg [.sc (.string a0_0),.sc (.string a0_1),.sc (.int .u64 a0_2),.sc (.int .i64 a0_3),.sc (.int .u64 a0_4),.sc (.int .i64 a0_5),.sc (.int .i64 a0_6),.sc (.bool a0_7),.sc (.int .i64 a0_8),.sc (.int .u64 a0_9),.sc (.int .i64 a0_10),.lst false 1 a0_11n a0_11,.lst false 1 a0_12n a0_12],.agg [.sc (.string a1_0),.sc (.string a1_1),.sc (.int .u64 a1_2),.sc (.int .i64 Aib),.sc (.int .u64 Afx),.sc (.int .i64 Afu),.sc (.int .i64 Ai0),.sc (.bool Aiv),.sc (.int .i64 Afp),.sc (.int .u64 Ah1),.sc (.int .i64 VD),.lst false 1 Age XJ,.lst false 1 Agx UK]]=(fun (call:Ai)=>Bb (Array.toList (ByteArray.data a0_0)==Array.toList (ByteArray.data a1_0)) (Bb (Array.toList (ByteArray.data a0_1)==Array.toList (ByteArray.data a1_1)) (Bb (a0_2==a1_2) (Bb (a0_3==Aib&&(a0_4==Afx&&true)) (Bb (a0_5==Afu) (Bb (a0_6==Ai0) (Bb (a0_7==Aiv) (Bb (a0_8==Afp) (Bb (a0_9==Ah1) (Ag (call 40 [.agg [.sc (.int .i64 a0_10),.lst false 1 a0_11n a0_11,.lst false 1 a0_12n a0_12],.agg [.sc (.int .i64 VD),.lst false 1 Age XJ,.lst false 1 Agx UK]]) fun x1 x2=>Ac x2<|Ab x1 fun x3 x4=>Bm x3 fun x5=>Ac x4<|some (Au.mk [.sc (.bool x5)] [])) (some (Au.mk [.sc (.bool false)] []))) (some (Au.mk [.sc (.bool false)] []))) (some (Au.mk [.sc (.bool false)] []))) (some (Au.mk [.sc (.bool false)] []))) (some (Au.mk [.sc (.bool false)] []))) (some (Au.mk [.sc (.bool false)] []))) (some (Au.mk [.sc (.bool false)] []))) (some (Au.mk [.sc (.bool false)] []))) (some (Au.mk [.sc (.bool false)] []))) (Ad C0 Tryz.prog fu d):=by kernel_rfl
end
section
open Go.IntKind (wrap)
def Q7 (x:It):List Int:=
 if x.k=7 then [wrap .u8 (244+wrap .u8 x.n)] else if x.k=8 then [246] else if x.k=3 then Cr 2 x.s.size else if x.k=4 then Cr 3 x.s.size else Cr (x.k-1) x.n
def It.dat (x:It):Prop:=x.k=3∨x.k=4∨H9 x.s=[]
theorem Acn {x:It}(h:x.dat):Bp x=Q7 x++H9 x.s:=by
 unfold Bp Q7;by_cases c7:x.k=7
 ·rcases h with h|h|h
  ·omega
  ·omega
  ·simp [c7,h]
 ·by_cases c8:x.k=8
  ·rcases h with h|h|h
   ·omega
   ·omega
   ·simp [c8,h]
  ·by_cases c3:x.k=3
   ·simp [c3]
   ·by_cases c4:x.k=4
    ·simp [c4]
    ·rcases h with h|h|h
     ·omega
     ·omega
     ·simp [c7,c8,c3,c4,h]
theorem Adk (x:It):(Q7 x).length<=9:=by
 have h2:=Gy 2 x.s.size;have h3:=Gy 3 x.s.size;have h4:=Gy (x.k-1) x.n;unfold Q7
 repeat' split
 all_goals try simp only [Jz,AA]
 all_goals omega
theorem Aii (v:Int):Dw .u64 v 0=v:=by
 show v.fdiv (2 ^ (min (0:Int).toNat IntKind.u64.bits))=v;have:(2:Int) ^ (min (0:Int).toNat IntKind.u64.bits)=1:=by decide
 rw [this,Int.fdiv_one]
theorem tb1 (v:Int):tb v 1=[wrap .u8 v]:=by
 show [wrap .u8 (Dw .u64 v (56-8*((7:Nat):Int)))]=_;rw [show (56:Int)-8*((7:Nat):Int)=0 by omega,Aii]
theorem tb2 (v:Int):tb v 2=[wrap .u8 (Dw .u64 v 8),wrap .u8 v]:=by
 show [wrap .u8 (Dw .u64 v (56-8*((6:Nat):Int))),wrap .u8 (Dw .u64 v (56-8*((7:Nat):Int)))]=_;rw [show (56:Int)-8*((7:Nat):Int)=0 by omega,show (56:Int)-8*((6:Nat):Int)=8 by omega,Aii]
theorem tb4 (v:Int):tb v 4=[wrap .u8 (Dw .u64 v 24),wrap .u8 (Dw .u64 v 16),wrap .u8 (Dw .u64 v 8),wrap .u8 v]:=by
 show [wrap .u8 (Dw .u64 v (56-8*((4:Nat):Int))),wrap .u8 (Dw .u64 v (56-8*((5:Nat):Int))),wrap .u8 (Dw .u64 v (56-8*((6:Nat):Int))),wrap .u8 (Dw .u64 v (56-8*((7:Nat):Int)))]=_;rw [show (56:Int)-8*((7:Nat):Int)=0 by omega,show (56:Int)-8*((6:Nat):Int)=8 by omega,show (56:Int)-8*((5:Nat):Int)=16 by omega,show (56:Int)-8*((4:Nat):Int)=24 by omega,Aii]
theorem tb8 (v:Int):tb v 8=Dp v:=rfl
section
variable {fu d:Nat}
theorem Aid (hfu:1000<=fu){k n:Int}{s:ByteArray}{nn:Nat}(hn:0<nn){mj v:Int}(h0:0<=mj)(h1:mj<=5)(hv:0<=v):
  Cw fu (Ad C0 Tryz.prog fu (d+1)) k n s nn v (32*mj)=some ⟨[.own 1 (Cr mj v).length (Af .u8 (Cr mj v))],[]⟩:=by
 rw [Tu (hnn:=hn)];have w24:wrap .u8 (32*mj+24)=32*mj+24:=Fh (by omega) (by omega)
 have w25:wrap .u8 (32*mj+25)=32*mj+25:=Fh (by omega) (by omega)
 have w26:wrap .u8 (32*mj+26)=32*mj+26:=Fh (by omega) (by omega)
 have w27:wrap .u8 (32*mj+27)=32*mj+27:=Fh (by omega) (by omega)
 unfold Cr;by_cases c1:v<24
 ·have wn:wrap .u8 v=v:=Fh (by omega) (by omega)
  have ws:wrap .u8 (32*mj+v)=32*mj+v:=Fh (by omega) (by omega)
  rw [B4 c1];simp (disch:=omega) only [Bv,wn,ws];rfl
 ·by_cases c2:v<256
  ·rw [A5 c1,B4 c2,tb1];simp (disch:=omega) only [Bv,w24];rfl
  ·by_cases c3:v<65536
   ·rw [A5 c1,A5 c2,B4 c3,tb2];simp (disch:=omega) only [Bv,w25];rfl
   ·by_cases c4:v<4294967296
    ·rw [A5 c1,A5 c2,A5 c3,B4 c4,tb4];simp (disch:=omega) only [Bv,w26];rfl
    ·have wd:=Amo (fu:=fu) (d:=d) hfu v;have L:=Aj .u8 (Dp v);rw [Em] at L;have t8:List.take 8 (Af .u8 (Dp v))=Af .u8 (Dp v):=R6 (by omega)
     have eC:[PV.sc (.int .u8 (32*mj+27))]++Af .u8 (Dp v)=Af .u8 ((32*mj+27)::Dp v):=rfl;have L9:(Af .u8 ((32*mj+27)::Dp v)).length=9:=by rw [Aj,Jz,Em]
     have t9:List.take 9 (Af .u8 ((32*mj+27)::Dp v))=Af .u8 ((32*mj+27)::Dp v):=R6 (by omega)
     rw [A5 c1,A5 c2,A5 c3,A5 c4,tb8,Jz,Em];simp (disch:=omega) only [Bv,w27,wd,Cb,C3,El,L,t8,eC,Nat.reduceAdd,L9,t9]
theorem Afl (hfu:1000<=fu){x:It}(hx:x.ok):Ad C0 Tryz.prog fu (d+2) Oc [.agg x.cells]=some ⟨[.own 1 (Q7 x).length (Af .u8 (Q7 x))],[]⟩:=by
 obtain ⟨k,n,s⟩:=x;obtain ⟨k1,k8,n0,s0⟩:=hx;simp only at k1 k8 n0 s0;refine (Yb fu (d+1) k n s).trans ?_;have wsz:wrap .u64 (s.size:Int)=s.size:=Ci (by omega) (by omega)
 have J:=fun (mj v:Int) (h0:0<=mj) (h1:mj<=5) (hv:0<=v)=>Aid (fu:=fu) (d:=d) hfu (k:=k) (n:=n) (s:=s) (nn:=fu) (by omega) h0 h1 hv
 have j0:=J 0 n (by omega) (by omega) n0
 have j1:=J 1 n (by omega) (by omega) n0
 have j2:=J 2 s.size (by omega) (by omega) (by omega)
 have j3:=J 3 s.size (by omega) (by omega) (by omega)
 have j4:=J 4 n (by omega) (by omega) n0
 have j5:=J 5 n (by omega) (by omega) n0
 rw [show (32:Int)*0=0 by omega] at j0
 rw [show (32:Int)*1=32 by omega] at j1
 rw [show (32:Int)*2=64 by omega] at j2
 rw [show (32:Int)*3=96 by omega] at j3
 rw [show (32:Int)*4=128 by omega] at j4
 rw [show (32:Int)*5=160 by omega] at j5
 unfold Q7;simp only;have:k=1∨k=2∨k=3∨k=4∨k=5∨k=6∨k=7∨k=8:=by omega
 rcases this with rfl|rfl|rfl|rfl|rfl|rfl|rfl|rfl
 ·simp only [Bv,Ez,Int.reduceEq,if_true,if_false,Int.reduceSub,j0]
 ·simp only [Bv,Ez,Int.reduceEq,if_true,if_false,Int.reduceSub,j1]
 ·simp only [Bv,Ez,Int.reduceEq,if_true,if_false,Int.reduceSub,wsz,j2]
 ·simp only [Bv,Ez,Int.reduceEq,if_true,if_false,Int.reduceSub,wsz,j3]
 ·simp only [Bv,Ez,Int.reduceEq,if_true,if_false,Int.reduceSub,j4]
 ·simp only [Bv,Ez,Int.reduceEq,if_true,if_false,Int.reduceSub,j5]
 ·simp only [Bv,Ez,Int.reduceEq,if_true,if_false];rfl
 ·simp only [Bv,Ez,Int.reduceEq,if_true,if_false];rfl
theorem Aej (hfu:1000<=fu){x:It}(hx:x.ok)(hd:x.dat):Ad C0 Tryz.prog fu (d+3) Mx [.agg x.cells]=some ⟨[.sc (.string (B8 (Bp x)))],[]⟩:=by
 refine (Ws fu (d+2) x.k x.n x.s).trans ?_;have hr:=Afl (fu:=fu) (d:=d) hfu hx;have L:=Aj .u8 (Q7 x);have l9:=Adk x;have bo:=E1 (Q7 x);have eA:ByteArray.mk (List.map (fun n:Int=>n.toNat.toUInt8) (Q7 x)).toArray=B8 (Q7 x):=rfl
 have sz:=Ft (Q7 x);have s0:=hx.s0;have ap:B8 (Q7 x)++x.s=B8 (Bp x):=by rw [WM,Acn hd]
 simp only [It.cells] at hr;simp (disch:=omega) only [Bv,hr,Cb,C3,El,I1,L,bo,eA,sz,ap]
def Cd (its:List It):List PV:=its.flatMap It.cells
theorem It.cells_len (x:It):x.cells.length=3:=rfl
def Be (its:List It):List Int:=its.flatMap Bp
theorem FW {a0n:Nat}{a0:List PV}{its:List It}(hk:∀x∈its,x.ok∧x.dat)(hl:its.length<=1000)(hfu:1000<=fu):∀(r:List It)(i nn:Nat)(b:List Int),its.drop i=r->r.length<nn->b.length+500010*r.length<=1000000000 ->
  Fj fu (Ad C0 Tryz.prog fu (d+3)) a0n a0 nn its.length (Cd its) b.length i (Af .u8 b)=some ⟨[.own 1 (b++Be r).length (Af .u8 (b++Be r))],[]⟩
 |_,_,0,_,_,h,_=>by omega
 |[],i,nn+1,b,h,hn,hb=>by
  have:=drop_nil h;have L:=Aj .u8 b;rw [Iv,Do _ _ _ (by omega)]
  simp (disch:=omega) only [Bv,Cb,I1,L];simp [Be]
 |x::r,i,nn+1,b,h,hn,hb=>by
  obtain ⟨h1,h2,h3⟩:=Cm h;simp only [Jz] at hn hb;obtain ⟨ok,dt⟩:=hk x (List.mem_of_getElem? h2);have hil:=Gg x;have hs0:=ok.s0;have g0:(Cd its).getD (i*3) .top=.sc (.int .i64 x.k):=D1 It.cells_len h2 (j:=0) (by omega)
  have g1:(Cd its).getD (i*3+1) .top=.sc (.int .u64 x.n):=D1 It.cells_len h2 (j:=1) (by omega)
  have g2:(Cd its).getD (i*3+1+1) .top=.sc (.string x.s):=D1 It.cells_len h2 (j:=2) (by omega)
  have by_:=Aej (fu:=fu) (d:=d) hfu ok dt;simp only [It.cells] at by_;have ih:=FW (a0n:=a0n) (a0:=a0) hk hl hfu r (i+1) nn (b++Bp x) h3 (by omega) (by rw [I9];omega)
  have w:wrap .i64 ((i:Int)+1)=((i+1:Nat):Int):=by rw [Ak (by omega) (by omega)];omega
  have L:=Aj .u8 b;have hB:=Aa9 ok.k1 ok.k8 ok.n0;have sc:Dh (B8 (Bp x))=Af .u8 (Bp x):=by rw [Mf,Nk hB]
  have sz:=Ft (Bp x);have Li:=Aj .u8 (Bp x);have ea:Af .u8 b++Af .u8 (Bp x)=Af .u8 (b++Bp x):=by rw [Af,Af,Af,List.flatMap_append]
  have ei:Be (x::r)=Bp x++Be r:=rfl;rw [ei,←YM,←ih,Iv];simp (disch:=omega) only [Bv,H3,g0,g1,g2,by_,sc,sz,Li,Cb,I1,L,ea,w,I9]
theorem Ac2 {its:List It}(hk:∀x∈its,x.ok∧x.dat)(hl:its.length<=900)(hfu:1000<=fu):Ad C0 Tryz.prog fu (d+4) Mb [.lst false 3 its.length (Cd its)]=some ⟨[.own 1 (Be its).length (Af .u8 (Be its))],[]⟩:=by
 rw [Um];exact FW (fu:=fu) (d:=d) (a0n:=its.length) (a0:=Cd its) hk (by omega) hfu its 0 fu [] rfl (by omega) (by simp;omega)
end
end
section
open Go.IntKind (wrap)
structure Ce where
 subj:ByteArray
 iss:ByteArray
 serial:Int
 key:Ky
 fr:Int
 un:Int
 auth:Bool
 path:Int
 model:Int
 sig:Sg
def Ce.cells (c:Ce):List PV:=[.sc (.string c.subj),.sc (.string c.iss),.sc (.int .u64 c.serial),.sc (.int .i64 c.key.h),.sc (.int .u64 c.key.root),.sc (.int .i64 c.fr),.sc (.int .i64 c.un),.sc (.bool c.auth),.sc (.int .i64 c.path),.sc (.int .u64 c.model),.sc (.int .i64 c.sig.leaf),.lst false 1 c.sig.chains.length (Af .u64 c.sig.chains),.lst false 1 c.sig.path.length (Af .u64 c.sig.path)]
abbrev VJ (s:ByteArray):Bool:=Lib.validD s.data.toList
abbrev F2:ByteArray:=⟨#[]⟩
def A3 (c:Ce):Int:=
 if c.subj.size<1∨32<c.subj.size then 9 else if c.iss.size<1∨32<c.iss.size then 9 else if VJ c.subj=false then 6 else if VJ c.iss=false then 6 else
 if Cx c.key.h=true then 9 else if c.fr<0 then 9 else if c.un<c.fr then 9 else if c.un>1099511627776 then 9 else if c.path<0∨2<c.path then 9 else if c.path≠0∧c.auth=false then 4 else 0
def A7 (c:Ce):List It:=[⟨5,9,F2⟩,⟨4,0,c.subj⟩,⟨4,0,c.iss⟩,⟨1,c.serial,F2⟩,⟨3,0,B8 (Ie c.key)⟩,⟨1,c.fr,F2⟩,⟨1,c.un,F2⟩,⟨7,(if c.auth=true then 1 else 0),F2⟩,⟨1,c.path,F2⟩,⟨1,c.model,F2⟩]
structure Ce.wf (c:Ce):Prop where
 ser:0<=c.serial
 mod:0<=c.model
def Fo (c:Ce):List PV:=if A3 c=0 then [.own 1 (Be (A7 c)).length (Af .u8 (Be (A7 c))),.sc (.int .i64 0)] else [.own 1 0 [],.sc (.int .i64 (A3 c))]
theorem Zd {c:Ce}(hw:c.wf)(h:A3 c=0):∀x∈A7 c,x.ok∧x.dat:=by
 unfold A3 at h;have kl:(B8 (Ie c.key)).size=9:=by rw [Ft];rfl
 have ns:F2.size=0:=rfl;have hs:=hw.ser;have hm:=hw.mod
 repeat' (split at h;· cases h)
 intro x hx;simp only [A7,List.mem_cons,List.not_mem_nil,or_false] at hx;rcases hx with rfl|rfl|rfl|rfl|rfl|rfl|rfl|rfl|rfl|rfl
 ·exact ⟨⟨by simp,by simp,by simp,by simp [ns]⟩,.inr (.inr rfl)⟩
 ·exact ⟨⟨by simp,by simp,by simp,by simp only;omega⟩,.inr (.inl rfl)⟩
 ·exact ⟨⟨by simp,by simp,by simp,by simp only;omega⟩,.inr (.inl rfl)⟩
 ·exact ⟨⟨by simp,by simp,hs,by simp [ns]⟩,.inr (.inr rfl)⟩
 ·exact ⟨⟨by simp,by simp,by simp,by simp only [kl];omega⟩,.inl rfl⟩
 ·exact ⟨⟨by simp,by simp,by simp only;omega,by simp [ns]⟩,.inr (.inr rfl)⟩
 ·exact ⟨⟨by simp,by simp,by simp only;omega,by simp [ns]⟩,.inr (.inr rfl)⟩
 ·exact ⟨⟨by simp,by simp,by simp only;split<;>omega,by simp [ns]⟩,.inr (.inr rfl)⟩
 ·exact ⟨⟨by simp,by simp,by simp only;omega,by simp [ns]⟩,.inr (.inr rfl)⟩
 ·exact ⟨⟨by simp,by simp,hm,by simp [ns]⟩,.inr (.inr rfl)⟩
section
variable {fu d:Nat}
theorem Oe (s:ByteArray)(h:s.size<=9223372036854775807):Ad C0 Tryz.prog fu (d+1) 56 [.sc (.string s)]=some ⟨[.sc (.bool (VJ s))],[]⟩:=by
 show KG [.sc (.string s)]=_;unfold KG;simp [h]
theorem EO (n lo hi:Int):Ad C0 Tryz.prog fu (d+1) J3 [.sc (.int .i64 n),.sc (.int .i64 lo),.sc (.int .i64 hi)]=some ⟨[.sc (.bool (decide (lo<=n)&&decide (n<=hi)))],[]⟩:=by
 rw [Ts];by_cases h:lo<=n
 ·simp (disch:=omega) only [Bv,h,decide_true,Bool.true_and]
 ·simp (disch:=omega) only [Bv,h,decide_false,Bool.false_and]
theorem Aew (n:Int)(h0:0<=n)(h1:n<=1000):Ad C0 Tryz.prog fu (d+1) Ly [.sc (.int .i64 n)]=some ⟨[.agg [.sc (.int .i64 5),.sc (.int .u64 n),.sc (.string F2)]],[]⟩:=by
 rw [Vg];have w:wrap .u64 n=n:=Ci (by omega) (by omega)
 simp only [Bv,w]
theorem VN (s:ByteArray):Ad C0 Tryz.prog fu (d+1) Nd [.sc (.string s)]=some ⟨[.agg [.sc (.int .i64 4),.sc (.int .u64 0),.sc (.string s)]],[]⟩:=by
 rw [Wn]
theorem ZZ (n:Int):Ad C0 Tryz.prog fu (d+1) Kg [.sc (.int .u64 n)]=some ⟨[.agg [.sc (.int .i64 1),.sc (.int .u64 n),.sc (.string F2)]],[]⟩:=by
 rw [Tl]
theorem Ahh (l:List Int):Ad C0 Tryz.prog fu (d+1) M6 [.lst false 1 l.length (Af .u8 l)]=some ⟨[.agg [.sc (.int .i64 3),.sc (.int .u64 0),.sc (.string (B8 l))]],[]⟩:=by
 rw [Wr];have L:=Aj .u8 l;have bo:=E1 l;simp (disch:=omega) only [Bv,L,bo];rfl
theorem UJ (b:Bool):Ad C0 Tryz.prog fu (d+1) Jo [.sc (.bool b)]=some ⟨[.agg [.sc (.int .i64 7),.sc (.int .u64 (if b=true then 1 else 0)),.sc (.string F2)]],[]⟩:=by
 rw [S3];cases b<;>rfl
theorem KP (hfu:1000<=fu){c:Ce}(hw:c.wf)(hs1:c.subj.size<=9223372036854775807)(hs2:c.iss.size<=9223372036854775807):Ad C0 Tryz.prog fu (d+5) Nf [.agg c.cells]=some ⟨Fo c,[]⟩:=by
 refine (Wv fu (d+4) c.subj c.iss c.serial c.key.h c.key.root c.fr c.un c.auth c.path c.model c.sig.leaf c.sig.chains.length (Af .u64 c.sig.chains) c.sig.path.length (Af .u64 c.sig.path)).trans ?_;have n1:=EO (fu:=fu) (d:=d+3) c.subj.size 1 32;have n2:=EO (fu:=fu) (d:=d+3) c.iss.size 1 32;have n3:=EO (fu:=fu) (d:=d+3) c.path 0 2;have v1:=Oe (fu:=fu) (d:=d+3) c.subj hs1;have v2:=Oe (fu:=fu) (d:=d+3) c.iss hs2;have ek:=Aag (fu:=fu) (d:=d+2) hfu c.key;have e90:((9:Int) != 0)=true:=rfl;have e00:((0:Int) != 0)=false:=rfl;simp only [Ky.cells] at ek;unfold Fo;by_cases e1:c.subj.size<1∨32<c.subj.size
 ·have hb:A3 c=9:=by unfold A3;rw [B4 e1]
  have:(decide ((1:Int)<=c.subj.size)&&decide ((c.subj.size:Int)<=32))=false:=by simp;omega
  rw [this] at n1;rw [hb,A5 (by omega)]
  try unfold Aa
  repeat first
   |((with_reducible first|apply Ay|apply Ao|apply Az|apply A6|apply Ba|apply Bf|apply Bx|apply Cz|apply Am);· first|with_reducible rfl|(simp (disch:=omega) only [n1,Int.reduceEq,C8,Dl]<;>with_reducible rfl))
   |((with_reducible first|apply Aw|apply Av);· first|with_reducible rfl|omega|(simp (disch:=omega) only [gT,n1,Int.reduceEq,C8,Dl]<;>omega))
   |(with_reducible apply Ax;· first|with_reducible rfl|(simp (disch:=omega) only [gF,n1,Int.reduceEq,C8,Dl]<;>omega))
  try simp (disch:=omega) only [n1,Int.reduceEq,C8,Dl]
  all_goals rfl
 have q1:(decide ((1:Int)<=c.subj.size)&&decide ((c.subj.size:Int)<=32))=true:=by simp;omega
 rw [q1] at n1;by_cases e2:c.iss.size<1∨32<c.iss.size
 ·have hb:A3 c=9:=by unfold A3;rw [A5 e1,B4 e2]
  have:(decide ((1:Int)<=c.iss.size)&&decide ((c.iss.size:Int)<=32))=false:=by simp;omega
  rw [this] at n2;rw [hb,A5 (by omega)]
  try unfold Aa
  repeat first
   |((with_reducible first|apply Ay|apply Ao|apply Az|apply A6|apply Ba|apply Bf|apply Bx|apply Cz|apply Am);· first|with_reducible rfl|(simp (disch:=omega) only [n1,n2,Int.reduceEq,C8,Dl]<;>with_reducible rfl))
   |((with_reducible first|apply Aw|apply Av);· first|with_reducible rfl|omega|(simp (disch:=omega) only [gT,n1,n2,Int.reduceEq,C8,Dl]<;>omega))
   |(with_reducible apply Ax;· first|with_reducible rfl|(simp (disch:=omega) only [gF,n1,n2,Int.reduceEq,C8,Dl]<;>omega))
  try simp (disch:=omega) only [n1,n2,Int.reduceEq,C8,Dl]
  all_goals rfl
 have q2:(decide ((1:Int)<=c.iss.size)&&decide ((c.iss.size:Int)<=32))=true:=by simp;omega
 rw [q2] at n2;cases e3:VJ c.subj
 ·have hb:A3 c=6:=by unfold A3;rw [A5 e1,A5 e2,B4 e3]
  rw [e3] at v1;rw [hb,A5 (by omega)]
  try unfold Aa
  repeat first
   |((with_reducible first|apply Ay|apply Ao|apply Az|apply A6|apply Ba|apply Bf|apply Bx|apply Cz|apply Am);· first|with_reducible rfl|(simp (disch:=omega) only [n1,n2,v1,Int.reduceEq,C8,Dl]<;>with_reducible rfl))
   |((with_reducible first|apply Aw|apply Av);· first|with_reducible rfl|omega|(simp (disch:=omega) only [gT,n1,n2,v1,Int.reduceEq,C8,Dl]<;>omega))
   |(with_reducible apply Ax;· first|with_reducible rfl|(simp (disch:=omega) only [gF,n1,n2,v1,Int.reduceEq,C8,Dl]<;>omega))
  try simp (disch:=omega) only [n1,n2,v1,Int.reduceEq,C8,Dl]
  all_goals rfl
 rw [e3] at v1;cases e4:VJ c.iss
 ·have hb:A3 c=6:=by unfold A3;rw [A5 e1,A5 e2,A5 (by simp [e3]),B4 e4]
  rw [e4] at v2;rw [hb,A5 (by omega)]
  try unfold Aa
  repeat first
   |((with_reducible first|apply Ay|apply Ao|apply Az|apply A6|apply Ba|apply Bf|apply Bx|apply Cz|apply Am);· first|with_reducible rfl|(simp (disch:=omega) only [n1,n2,v1,v2,Int.reduceEq,C8,Dl]<;>with_reducible rfl))
   |((with_reducible first|apply Aw|apply Av);· first|with_reducible rfl|omega|(simp (disch:=omega) only [gT,n1,n2,v1,v2,Int.reduceEq,C8,Dl]<;>omega))
   |(with_reducible apply Ax;· first|with_reducible rfl|(simp (disch:=omega) only [gF,n1,n2,v1,v2,Int.reduceEq,C8,Dl]<;>omega))
  try simp (disch:=omega) only [n1,n2,v1,v2,Int.reduceEq,C8,Dl]
  all_goals rfl
 rw [e4] at v2;cases e5:Cx c.key.h
 rotate_left
 ·have hb:A3 c=9:=by unfold A3;rw [A5 e1,A5 e2,A5 (by simp [e3]),A5 (by simp [e4]),B4 e5]
  rw [e5,B4 rfl] at ek;rw [hb,A5 (by omega)]
  try unfold Aa
  repeat first
   |((with_reducible first|apply Ay|apply Ao|apply Az|apply A6|apply Ba|apply Bf|apply Bx|apply Cz|apply Am);· first|with_reducible rfl|(simp (disch:=omega) only [n1,n2,v1,v2,ek,e90,e00,Int.reduceEq,C8,Dl]<;>with_reducible rfl))
   |((with_reducible first|apply Aw|apply Av);· first|with_reducible rfl|omega|(simp (disch:=omega) only [gT,n1,n2,v1,v2,ek,e90,e00,Int.reduceEq,C8,Dl]<;>omega))
   |(with_reducible apply Ax;· first|with_reducible rfl|(simp (disch:=omega) only [gF,n1,n2,v1,v2,ek,e90,e00,Int.reduceEq,C8,Dl]<;>omega))
  try simp (disch:=omega) only [n1,n2,v1,v2,ek,e90,e00,Int.reduceEq,C8,Dl]
  all_goals rfl
 rw [e5,A5 (by simp)] at ek
 have B0:A3 c=if c.fr<0 then 9 else if c.un<c.fr then 9 else if c.un>1099511627776 then 9 else if c.path<0∨2<c.path then 9 else if c.path≠0∧c.auth=false then 4 else 0:=by
  unfold A3;rw [A5 e1,A5 e2,A5 (by simp [e3]),A5 (by simp [e4]),A5 (by simp [e5])]
 by_cases e6:c.fr<0
 ·have hb:A3 c=9:=by rw [B0,B4 e6]
  rw [hb,A5 (by omega)]
  try unfold Aa
  repeat first
   |((with_reducible first|apply Ay|apply Ao|apply Az|apply A6|apply Ba|apply Bf|apply Bx|apply Cz|apply Am);· first|with_reducible rfl|(simp (disch:=omega) only [n1,n2,v1,v2,ek,e90,e00,Int.reduceEq,C8,Dl]<;>with_reducible rfl))
   |((with_reducible first|apply Aw|apply Av);· first|with_reducible rfl|omega|(simp (disch:=omega) only [gT,n1,n2,v1,v2,ek,e90,e00,Int.reduceEq,C8,Dl]<;>omega))
   |(with_reducible apply Ax;· first|with_reducible rfl|(simp (disch:=omega) only [gF,n1,n2,v1,v2,ek,e90,e00,Int.reduceEq,C8,Dl]<;>omega))
  try simp (disch:=omega) only [n1,n2,v1,v2,ek,e90,e00,Int.reduceEq,C8,Dl]
  all_goals rfl
 by_cases e7:c.un<c.fr
 ·have hb:A3 c=9:=by rw [B0,A5 e6,B4 e7]
  rw [hb,A5 (by omega)]
  try unfold Aa
  repeat first
   |((with_reducible first|apply Ay|apply Ao|apply Az|apply A6|apply Ba|apply Bf|apply Bx|apply Cz|apply Am);· first|with_reducible rfl|(simp (disch:=omega) only [n1,n2,v1,v2,ek,e90,e00,Int.reduceEq,C8,Dl]<;>with_reducible rfl))
   |((with_reducible first|apply Aw|apply Av);· first|with_reducible rfl|omega|(simp (disch:=omega) only [gT,n1,n2,v1,v2,ek,e90,e00,Int.reduceEq,C8,Dl]<;>omega))
   |(with_reducible apply Ax;· first|with_reducible rfl|(simp (disch:=omega) only [gF,n1,n2,v1,v2,ek,e90,e00,Int.reduceEq,C8,Dl]<;>omega))
  try simp (disch:=omega) only [n1,n2,v1,v2,ek,e90,e00,Int.reduceEq,C8,Dl]
  all_goals rfl
 by_cases e8:c.un>1099511627776
 ·have hb:A3 c=9:=by rw [B0,A5 e6,A5 e7,B4 e8]
  rw [hb,A5 (by omega)]
  try unfold Aa
  repeat first
   |((with_reducible first|apply Ay|apply Ao|apply Az|apply A6|apply Ba|apply Bf|apply Bx|apply Cz|apply Am);· first|with_reducible rfl|(simp (disch:=omega) only [n1,n2,v1,v2,ek,e90,e00,Int.reduceEq,C8,Dl]<;>with_reducible rfl))
   |((with_reducible first|apply Aw|apply Av);· first|with_reducible rfl|omega|(simp (disch:=omega) only [gT,n1,n2,v1,v2,ek,e90,e00,Int.reduceEq,C8,Dl]<;>omega))
   |(with_reducible apply Ax;· first|with_reducible rfl|(simp (disch:=omega) only [gF,n1,n2,v1,v2,ek,e90,e00,Int.reduceEq,C8,Dl]<;>omega))
  try simp (disch:=omega) only [n1,n2,v1,v2,ek,e90,e00,Int.reduceEq,C8,Dl]
  all_goals rfl
 by_cases e9:c.path<0∨2<c.path
 ·have hb:A3 c=9:=by rw [B0,A5 e6,A5 e7,A5 e8,B4 e9]
  have:(decide ((0:Int)<=c.path)&&decide (c.path<=2))=false:=by simp;omega
  rw [this] at n3;rw [hb,A5 (by omega)]
  try unfold Aa
  repeat first
   |((with_reducible first|apply Ay|apply Ao|apply Az|apply A6|apply Ba|apply Bf|apply Bx|apply Cz|apply Am);· first|with_reducible rfl|(simp (disch:=omega) only [n1,n2,v1,v2,ek,e90,e00,n3,Int.reduceEq,C8,Dl]<;>with_reducible rfl))
   |((with_reducible first|apply Aw|apply Av);· first|with_reducible rfl|omega|(simp (disch:=omega) only [gT,n1,n2,v1,v2,ek,e90,e00,n3,Int.reduceEq,C8,Dl]<;>omega))
   |(with_reducible apply Ax;· first|with_reducible rfl|(simp (disch:=omega) only [gF,n1,n2,v1,v2,ek,e90,e00,n3,Int.reduceEq,C8,Dl]<;>omega))
  try simp (disch:=omega) only [n1,n2,v1,v2,ek,e90,e00,n3,Int.reduceEq,C8,Dl]
  all_goals rfl
 have q9:(decide ((0:Int)<=c.path)&&decide (c.path<=2))=true:=by simp;omega
 rw [q9] at n3;by_cases e10:c.path≠0∧c.auth=false
 ·have hb:A3 c=4:=by rw [B0,A5 e6,A5 e7,A5 e8,A5 e9,B4 e10]
  have ea:=e10.2;have ep:(c.path != 0)=true:=by simp [e10.1]
  rw [hb,A5 (by omega)]
  try unfold Aa
  repeat first
   |((with_reducible first|apply Ay|apply Ao|apply Az|apply A6|apply Ba|apply Bf|apply Bx|apply Cz|apply Am);· first|with_reducible rfl|(simp (disch:=omega) only [n1,n2,v1,v2,ek,e90,e00,n3,ep,ea,Int.reduceEq,C8,Dl]<;>with_reducible rfl))
   |((with_reducible first|apply Aw|apply Av);· first|with_reducible rfl|omega|(simp (disch:=omega) only [gT,n1,n2,v1,v2,ek,e90,e00,n3,ep,ea,Int.reduceEq,C8,Dl]<;>omega))
   |(with_reducible apply Ax;· first|with_reducible rfl|(simp (disch:=omega) only [gF,n1,n2,v1,v2,ek,e90,e00,n3,ep,ea,Int.reduceEq,C8,Dl]<;>omega))
  try simp (disch:=omega) only [n1,n2,v1,v2,ek,e90,e00,n3,ep,ea,Int.reduceEq,C8,Dl]
  all_goals rfl
 have hb:A3 c=0:=by rw [B0,A5 e6,A5 e7,A5 e8,A5 e9,A5 e10]
 rw [hb,B4 rfl];have a0:=Aew (fu:=fu) (d:=d+3) 9 (by omega) (by omega)
 have t1:=VN (fu:=fu) (d:=d+3) c.subj;have t2:=VN (fu:=fu) (d:=d+3) c.iss;have nu:=fun n=>ZZ (fu:=fu) (d:=d+3) n
 have da:=Ahh (fu:=fu) (d:=d+3) (Ie c.key);have k9:(Ie c.key).length=9:=rfl;rw [k9] at da;have bo:=UJ (fu:=fu) (d:=d+3) c.auth;have wf:wrap .u64 c.fr=c.fr:=Ci (by omega) (by omega)
 have wu:wrap .u64 c.un=c.un:=Ci (by omega) (by omega)
 have wp:wrap .u64 c.path=c.path:=Ci (by omega) (by omega)
 have bi:=Ac2 (fu:=fu) (d:=d) (Zd hw hb) (by simp [A7]) hfu
 have L9:=Aj .u8 (Ie c.key);rw [k9] at L9;have tk9:List.take 9 (Af .u8 (Ie c.key))=Af .u8 (Ie c.key):=R6 (by omega)
 have LB:=Aj .u8 (Be (A7 c));have tB:=I1 .u8 (Be (A7 c));generalize Be (A7 c)=W at bi LB tB ⊢;simp only [A7,Cd,List.flatMap_cons,List.flatMap_nil,It.cells,List.cons_append,Zzq,List.append_nil,Jz,AA,C3,Nat.reduceAdd] at bi;have w0:wrap .u64 (0:Int)=0:=rfl;by_cases ep:c.path=0
 ·rw [ep] at bi n3
  try unfold Aa
  repeat first
   |((with_reducible first|apply Ay|apply Ao|apply Az|apply A6|apply Ba|apply Bf|apply Bx|apply Cz|apply Am);· first|with_reducible rfl|(simp (disch:=omega) only [n1,n2,v1,v2,ek,e90,e00,n3,ep,w0,a0,t1,t2,nu,Cb,C3,El,L9,tk9,da,wf,wu,bo,bi,LB,tB,Int.reduceEq,C8,Dl]<;>with_reducible rfl))
   |((with_reducible first|apply Aw|apply Av);· first|with_reducible rfl|omega|(simp (disch:=omega) only [gT,n1,n2,v1,v2,ek,e90,e00,n3,ep,w0,a0,t1,t2,nu,Cb,C3,El,L9,tk9,da,wf,wu,bo,bi,LB,tB,Int.reduceEq,C8,Dl]<;>omega))
   |(with_reducible apply Ax;· first|with_reducible rfl|(simp (disch:=omega) only [gF,n1,n2,v1,v2,ek,e90,e00,n3,ep,w0,a0,t1,t2,nu,Cb,C3,El,L9,tk9,da,wf,wu,bo,bi,LB,tB,Int.reduceEq,C8,Dl]<;>omega))
  try simp (disch:=omega) only [n1,n2,v1,v2,ek,e90,e00,n3,ep,w0,a0,t1,t2,nu,Cb,C3,El,L9,tk9,da,wf,wu,bo,bi,LB,tB,Int.reduceEq,C8,Dl]
  all_goals rfl
 ·have ea:c.auth=true:=by
   cases h:c.auth
   ·exact absurd ⟨ep,h⟩ e10
   ·rfl
  rw [ea,B4 rfl] at bo bi;have ep:(c.path != 0)=true:=by simp [ep]
  try unfold Aa
  repeat first
   |((with_reducible first|apply Ay|apply Ao|apply Az|apply A6|apply Ba|apply Bf|apply Bx|apply Cz|apply Am);· first|with_reducible rfl|(simp (disch:=omega) only [n1,n2,v1,v2,ek,e90,e00,n3,ep,ea,a0,t1,t2,nu,Cb,C3,El,L9,tk9,da,wf,wu,wp,bo,bi,LB,tB,Int.reduceEq,C8,Dl]<;>with_reducible rfl))
   |((with_reducible first|apply Aw|apply Av);· first|with_reducible rfl|omega|(simp (disch:=omega) only [gT,n1,n2,v1,v2,ek,e90,e00,n3,ep,ea,a0,t1,t2,nu,Cb,C3,El,L9,tk9,da,wf,wu,wp,bo,bi,LB,tB,Int.reduceEq,C8,Dl]<;>omega))
   |(with_reducible apply Ax;· first|with_reducible rfl|(simp (disch:=omega) only [gF,n1,n2,v1,v2,ek,e90,e00,n3,ep,ea,a0,t1,t2,nu,Cb,C3,El,L9,tk9,da,wf,wu,wp,bo,bi,LB,tB,Int.reduceEq,C8,Dl]<;>omega))
  try simp (disch:=omega) only [n1,n2,v1,v2,ek,e90,e00,n3,ep,ea,a0,t1,t2,nu,Cb,C3,El,L9,tk9,da,wf,wu,wp,bo,bi,LB,tB,Int.reduceEq,C8,Dl]
  all_goals rfl
end
end
section
open Go.IntKind (wrap)
def EH (s:Sg):Int:=if Cx s.path.length=true then 9 else if Hb s.leaf s.path.length=true then 9 else if s.chains.length≠18 then 4 else 0
def Ek (c:Ce):Int:=if A3 c=0 then EH c.sig else A3 c
def Fz (c:Ce):List Int:=Be (A7 c)++Qv c.sig
def U7 (c:Ce):List PV:=if Ek c=0 then [.own 1 (Fz c).length (Af .u8 (Fz c)),.sc (.int .i64 0)] else [.own 1 0 [],.sc (.int .i64 (Ek c))]
def Lu (c:Ce):Int:=M1 14 (Be (A7 c))
def DJ (c:Ce)(k:Ky):Int:=if A3 c=0 then WA k (Lu c) c.sig else A3 c
def RT:Ce:=⟨F2,F2,0,⟨0,0⟩,0,0,false,0,0,⟨0,[],[]⟩⟩
def Mw (c:Ce)(seed h leaf:Int):Ce × Int:=
 if A3 c=0 then (match AV seed h leaf (Lu c) with|some s=>({ c with sig:=s },0)|none=>(RT,9)) else (RT,A3 c)
theorem I0 {c:Ce}(h:A3 c=0):(Be (A7 c)).length<=200:=by
 have k9:(B8 (Ie c.key)).size=9:=by rw [Ft];rfl
 have ns:F2.size=0:=rfl;unfold A3 at h
 have hs:c.subj.size<=32∧c.iss.size<=32:=by
  split at h
  ·cases h
  ·split at h
   ·cases h
   ·omega
 have e:Be (A7 c)=Bp ⟨5,9,F2⟩++(Bp ⟨4,0,c.subj⟩++(Bp ⟨4,0,c.iss⟩++(Bp ⟨1,c.serial,F2⟩++(Bp ⟨3,0,B8 (Ie c.key)⟩++(Bp ⟨1,c.fr,F2⟩++(Bp ⟨1,c.un,F2⟩++(Bp ⟨7,(if c.auth=true then 1 else 0),F2⟩++(Bp ⟨1,c.path,F2⟩++(Bp ⟨1,c.model,F2⟩++[]))))))))):=rfl
 rw [e];simp only [I9,AA];have i1:=Gg ⟨5,9,F2⟩;have i2:=Gg ⟨4,0,c.subj⟩;have i3:=Gg ⟨4,0,c.iss⟩;have i4:=Gg ⟨1,c.serial,F2⟩;have i5:=Gg ⟨3,0,B8 (Ie c.key)⟩;have i6:=Gg ⟨1,c.fr,F2⟩;have i7:=Gg ⟨1,c.un,F2⟩;have i8:=Gg ⟨7,(if c.auth=true then 1 else 0),F2⟩
 have i9:=Gg ⟨1,c.path,F2⟩;have i0:=Gg ⟨1,c.model,F2⟩;simp only [ns,k9] at i1 i2 i3 i4 i5 i6 i7 i8 i9 i0;omega
theorem CK {c:Ce}(hw:c.wf)(h:A3 c=0):Jv (Be (A7 c)):=by
 intro y hy;obtain ⟨x,hx,hy⟩:=List.mem_flatMap.1 hy;have:=(Zd hw h x hx).1;exact Aa9 this.k1 this.k8 this.n0 y hy
theorem PB {seed h leaf m:Int}{s:Sg}(e:AV seed h leaf m=some s):s.chains.length=18∧s.path.length<=4:=by
 unfold AV at e;split at e
 ·cases e
 ·rename_i hh;split at e
  ·cases e
  ·cases e;have:=G8 (by simpa using hh)
   simp [H4];omega
section
variable {fu d:Nat} {c:Ce}
theorem Ake (hfu:1000<=fu)(hw:c.wf)(hs1:c.subj.size<=9223372036854775807)(hs2:c.iss.size<=9223372036854775807)(hp:c.sig.path.length<=1000000000):Ad C0 Tryz.prog fu (d+6) Ke [.agg c.cells]=some ⟨U7 c,[]⟩:=by
 refine (Tp fu (d+5) c.subj c.iss c.serial c.key.h c.key.root c.fr c.un c.auth c.path c.model c.sig.leaf c.sig.chains.length (Af .u64 c.sig.chains) c.sig.path.length (Af .u64 c.sig.path)).trans ?_;have bq:=KP (fu:=fu) (d:=d) hfu hw hs1 hs2;simp only [Ce.cells] at bq;have es:=Aaq (fu:=fu) (d:=d+3) hfu c.sig hp;simp only [Sg.cells] at es;unfold Fo at bq;unfold U7 Ek;by_cases h0:A3 c=0
 ·have lb:=I0 h0;rw [B4 h0] at bq;rw [B4 h0];have L1:=Aj .u8 (Be (A7 c));have t1:=I1 .u8 (Be (A7 c));have e00:((0:Int) != 0)=false:=rfl;have e90:((9:Int) != 0)=true:=rfl;have e40:((4:Int) != 0)=true:=rfl;unfold EH;by_cases g1:Cx c.sig.path.length=true
  ·rw [B4 g1] at es;rw [B4 g1,A5 (by omega)]
   try unfold Aa
   repeat first
    |((with_reducible first|apply Ay|apply Ao|apply Az|apply Bf|apply Bx|apply Am);· first|with_reducible rfl|(simp (disch:=omega) only [bq,es,e00,e90]<;>with_reducible rfl))
    |((with_reducible first|apply Aw|apply Av);· first|with_reducible rfl|omega|(simp (disch:=omega) only [gT,bq,es,e00,e90]<;>omega))
    |(with_reducible apply Ax;· first|with_reducible rfl|(simp (disch:=omega) only [gF,bq,es,e00,e90]<;>omega))
   try simp (disch:=omega) only [bq,es,e00,e90]
   all_goals rfl
  rw [A5 g1] at es;rw [A5 g1];by_cases g2:Hb c.sig.leaf c.sig.path.length=true
  ·rw [B4 g2] at es;rw [B4 g2,A5 (by omega)]
   try unfold Aa
   repeat first
    |((with_reducible first|apply Ay|apply Ao|apply Az|apply Bf|apply Bx|apply Am);· first|with_reducible rfl|(simp (disch:=omega) only [bq,es,e00,e90]<;>with_reducible rfl))
    |((with_reducible first|apply Aw|apply Av);· first|with_reducible rfl|omega|(simp (disch:=omega) only [gT,bq,es,e00,e90]<;>omega))
    |(with_reducible apply Ax;· first|with_reducible rfl|(simp (disch:=omega) only [gF,bq,es,e00,e90]<;>omega))
   try simp (disch:=omega) only [bq,es,e00,e90]
   all_goals rfl
  rw [A5 g2] at es;rw [A5 g2];by_cases g3:c.sig.chains.length≠18
  ·rw [B4 g3] at es;rw [B4 g3,A5 (by omega)]
   try unfold Aa
   repeat first
    |((with_reducible first|apply Ay|apply Ao|apply Az|apply Bf|apply Bx|apply Am);· first|with_reducible rfl|(simp (disch:=omega) only [bq,es,e00,e40]<;>with_reducible rfl))
    |((with_reducible first|apply Aw|apply Av);· first|with_reducible rfl|omega|(simp (disch:=omega) only [gT,bq,es,e00,e40]<;>omega))
    |(with_reducible apply Ax;· first|with_reducible rfl|(simp (disch:=omega) only [gF,bq,es,e00,e40]<;>omega))
   try simp (disch:=omega) only [bq,es,e00,e40]
   all_goals rfl
  rw [A5 g3] at es;rw [A5 g3,B4 rfl];have hb4:=G8 (h:=c.sig.path.length) (by simpa using g1)
  have ls:(Qv c.sig).length=2+8*c.sig.chains.length+8*c.sig.path.length:=by
   unfold Qv;simp only [Jz,I9,Cq];omega
  have L2:=Aj .u8 (Qv c.sig);have t2:=I1 .u8 (Qv c.sig)
  have ea:Af .u8 (Be (A7 c))++Af .u8 (Qv c.sig)=Af .u8 (Fz c):=by
   unfold Fz;rw [Af,Af,Af,List.flatMap_append]
  have le:(Fz c).length=(Be (A7 c)).length+(Qv c.sig).length:=by unfold Fz;rw [I9]
  have L3:=Aj .u8 (Fz c);have t3:List.take ((Be (A7 c)).length+(Qv c.sig).length) (Af .u8 (Fz c))=Af .u8 (Fz c):=R6 (by omega)
  rw [le] at L3 ⊢;generalize (Be (A7 c)).length=n1 at *
  generalize (Qv c.sig).length=n2 at *
  generalize Af .u8 (Be (A7 c))=c1 at *
  generalize Af .u8 (Qv c.sig)=c2 at *
  try unfold Aa
  repeat first
   |((with_reducible first|apply Ay|apply Ao|apply Az|apply Bf|apply Bx|apply Am);· first|with_reducible rfl|(simp (disch:=omega) only [bq,es,e00,Cb,C3,El,L1,t1,L2,t2,ea,L3,t3]<;>with_reducible rfl))
   |((with_reducible first|apply Aw|apply Av);· first|with_reducible rfl|omega|(simp (disch:=omega) only [gT,bq,es,e00,Cb,C3,El,L1,t1,L2,t2,ea,L3,t3]<;>omega))
   |(with_reducible apply Ax;· first|with_reducible rfl|(simp (disch:=omega) only [gF,bq,es,e00,Cb,C3,El,L1,t1,L2,t2,ea,L3,t3]<;>omega))
  try simp (disch:=omega) only [bq,es,e00,Cb,C3,El,L1,t1,L2,t2,ea,L3,t3]
  all_goals rfl
 ·have hne:(A3 c != 0)=true:=by simp [h0]
  rw [A5 h0] at bq;rw [A5 h0,A5 h0]
  try unfold Aa
  repeat first
   |((with_reducible first|apply Ay|apply Ao|apply Az|apply Bf|apply Bx|apply Am);· first|with_reducible rfl|(simp (disch:=omega) only [bq,hne]<;>with_reducible rfl))
   |((with_reducible first|apply Aw|apply Av);· first|with_reducible rfl|omega|(simp (disch:=omega) only [gT,bq,hne]<;>omega))
   |(with_reducible apply Ax;· first|with_reducible rfl|(simp (disch:=omega) only [gF,bq,hne]<;>omega))
  try simp (disch:=omega) only [bq,hne]
  all_goals rfl
theorem Ae3 (hfu:1000<=fu)(hw:c.wf)(hs1:c.subj.size<=9223372036854775807)(hs2:c.iss.size<=9223372036854775807)(seed h leaf:Int):Ad C0 Tryz.prog fu (d+13) M7 [.agg c.cells,.sc (.int .u64 seed),.sc (.int .i64 h),.sc (.int .i64 leaf)]=some ⟨[.agg (Mw c seed h leaf).1.cells,.sc (.int .i64 (Mw c seed h leaf).2)],[]⟩:=by
 refine (Wu fu (d+12) c.subj c.iss c.serial c.key.h c.key.root c.fr c.un c.auth c.path c.model c.sig.leaf c.sig.chains.length (Af .u64 c.sig.chains) c.sig.path.length (Af .u64 c.sig.path) seed h leaf).trans ?_;have bq:=KP (fu:=fu) (d:=d+7) hfu hw hs1 hs2;simp only [Ce.cells] at bq;unfold Fo at bq;unfold Mw;by_cases h0:A3 c=0
 ·have lb:=I0 h0;rw [B4 h0] at bq;rw [B4 h0];have e00:((0:Int) != 0)=false:=rfl;have e90:((9:Int) != 0)=true:=rfl;have hh:=WZ (xs:=Is) (fu:=fu) (d:=d+8) (CK hw h0) (by omega) (by omega) (by omega) 14
  have sg:=Afe (fu:=fu) (d:=d) hfu seed h leaf (Lu c);have eW:M1 14 (Be (A7 c))=Lu c:=rfl;rw [eW] at hh;have L1:=Aj .u8 (Be (A7 c));have t1:=I1 .u8 (Be (A7 c));generalize (Be (A7 c)).length=n1 at *
  generalize Af .u8 (Be (A7 c))=c1 at *
  cases hs:AV seed h leaf (Lu c) with
  |none=>
   rw [hs] at sg;simp only [QP,Sg.owned,AA] at sg
   try unfold Aa
   repeat first
    |((with_reducible first|apply Ay|apply Ao|apply Az|apply Bf|apply Bx|apply Am);· first|with_reducible rfl|(simp (disch:=omega) only [bq,e00,e90,Cb,C3,El,L1,t1,hh,sg]<;>with_reducible rfl))
    |((with_reducible first|apply Aw|apply Av);· first|with_reducible rfl|omega|(simp (disch:=omega) only [gT,bq,e00,e90,Cb,C3,El,L1,t1,hh,sg]<;>omega))
    |(with_reducible apply Ax;· first|with_reducible rfl|(simp (disch:=omega) only [gF,bq,e00,e90,Cb,C3,El,L1,t1,hh,sg]<;>omega))
   try simp (disch:=omega) only [bq,e00,e90,Cb,C3,El,L1,t1,hh,sg]
   all_goals rfl
  |some s=>
   rw [hs] at sg;simp only [QP,Sg.owned] at sg;have hl:=PB hs;have La:=Aj .u64 s.chains;have Lb:=Aj .u64 s.path;have ta:=I1 .u64 s.chains;have tb:=I1 .u64 s.path
   try unfold Aa
   repeat first
    |((with_reducible first|apply Ay|apply Ao|apply Az|apply Bf|apply Bx|apply Am);· first|with_reducible rfl|(simp (disch:=omega) only [bq,e00,Cb,C3,El,L1,t1,hh,sg,La,Lb,ta,tb]<;>with_reducible rfl))
    |((with_reducible first|apply Aw|apply Av);· first|with_reducible rfl|omega|(simp (disch:=omega) only [gT,bq,e00,Cb,C3,El,L1,t1,hh,sg,La,Lb,ta,tb]<;>omega))
    |(with_reducible apply Ax;· first|with_reducible rfl|(simp (disch:=omega) only [gF,bq,e00,Cb,C3,El,L1,t1,hh,sg,La,Lb,ta,tb]<;>omega))
   try simp (disch:=omega) only [bq,e00,Cb,C3,El,L1,t1,hh,sg,La,Lb,ta,tb]
   all_goals rfl
 ·have hne:(A3 c != 0)=true:=by simp [h0]
  rw [A5 h0] at bq;rw [A5 h0]
  try unfold Aa
  repeat first
   |((with_reducible first|apply Ay|apply Ao|apply Az|apply Bf|apply Bx|apply Am);· first|with_reducible rfl|(simp (disch:=omega) only [bq,hne]<;>with_reducible rfl))
   |((with_reducible first|apply Aw|apply Av);· first|with_reducible rfl|omega|(simp (disch:=omega) only [gT,bq,hne]<;>omega))
   |(with_reducible apply Ax;· first|with_reducible rfl|(simp (disch:=omega) only [gF,bq,hne]<;>omega))
  try simp (disch:=omega) only [bq,hne]
  all_goals rfl
end
end
end Go.Proofs.YtdjihiphpgkfmaaGreatDoor.Pv
