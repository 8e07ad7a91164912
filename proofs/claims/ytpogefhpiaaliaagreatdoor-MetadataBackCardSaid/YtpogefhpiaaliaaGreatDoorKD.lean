/-
  The proof of MetadataBack, part 4.
-/
import Derived.Test.YtpogefhpiaaliaaGreatDoorKC
import Derived.Test.YtpogefhpiaaliaaGreatDoorRows
import Derived.RangeFuncNested
import Derived.RangeFuncLeaves
import Derived.WalkKit
import Derived.LoopNIn
import Derived.OrdersIn
set_option linter.unusedSimpArgs false
set_option linter.unusedVariables false
namespace Go.Proofs.YtpogefhpiaaliaaGreatDoor.Pv
section
open Go.Proofs.Tryz (prog)
open Go.IntKind (wrap)
section
variable {fu d:Nat} {xs:FuncId->Option (List PV->Option A5)}
theorem As5 {x k:Int}(hk:k=13∨k=16∨k=17∨k=21∨k=32):Ad (CX xs) prog fu (d+1) Qo [.sc (.int .u64 x),.sc (.int .i64 k)]=some ⟨[.sc (.int .u64 (rot x k))],[]⟩:=by
 rw[BE];rcases hk with rfl|rfl|rfl|rfl|rfl<;>kernel_rfl
theorem Aq2 {x k:Int}(hk:k=13∨k=16∨k=17∨k=21∨k=32):Ad (CX xs) prog fu (d+1) Rm [.sc (.int .u64 x),.sc (.int .u64 k)]=some ⟨[.sc (.int .u64 (rot x k))],[]⟩:=by
 rw[CY];rcases hk with rfl|rfl|rfl|rfl|rfl<;>kernel_rfl
theorem KO {a0 a1 a2 a3 a4:Int}:∀(k i nn:Nat)(v:W4),k<nn->i+k<=100 ->
  Gk fu (Ad (CX xs) prog fu (d+1)) a0 a1 a2 a3 a4 nn ((i+k:Nat):Int) i v.a v.b v.c v.d=some ⟨[],[(Ahu k v).cells]⟩
 |_,_,0,_,h,_=>by omega
 |0,i,nn+1,v,h,hi=>by
  rw[Ll,Ej _ _ _ (by omega)]
  rfl
 |k+1,i,nn+1,v,h,hi=>by
  have ih:=KO (a0:=a0) (a1:=a1) (a2:=a2) (a3:=a3) (a4:=a4) k (i+1) nn (TQ v) (by omega) (by omega)
  have w:wrap .i64 ((i:Int)+1)=((i+1:Nat):Int):=by rw[Ap (by omega) (by omega)];omega
  have r13:=fun x=>As5 (xs:=xs) (fu:=fu) (d:=d) (x:=x) (k:=13) (by simp)
  have r16:=fun x=>As5 (xs:=xs) (fu:=fu) (d:=d) (x:=x) (k:=16) (by simp)
  have r17:=fun x=>As5 (xs:=xs) (fu:=fu) (d:=d) (x:=x) (k:=17) (by simp)
  have r21:=fun x=>As5 (xs:=xs) (fu:=fu) (d:=d) (x:=x) (k:=21) (by simp)
  have r32:=fun x=>As5 (xs:=xs) (fu:=fu) (d:=d) (x:=x) (k:=32) (by simp)
  rw[Ll];simp (disch:=omega) only[Cu,r13,r16,r17,r21,r32,w];rw[show i+(k+1)=i+1+k by omega]
  exact ih
theorem WN (k:Nat)(hk:k<=4)(Ca:100<=fu)(v:W4):Ad (CX xs) prog fu (d+2) Oa [.pbox [.sc (.int .u64 v.a),.sc (.int .u64 v.b),.sc (.int .u64 v.c),.sc (.int .u64 v.d)],.sc (.int .i64 k)]=some ⟨[],[(Ahu k v).cells]⟩:=by
 rw[Xy];have:=KO (xs:=xs) (fu:=fu) (d:=d) (a0:=v.a) (a1:=v.b) (a2:=v.c) (a3:=v.d) (a4:=k) k 0 fu v (by omega) (by omega)
 rw[Ch] at this;exact this
theorem XI (Ca:100<=fu)(v:W4)(m:Int):Ad (CX xs) prog fu (d+3) Ob [.pbox [.sc (.int .u64 v.a),.sc (.int .u64 v.b),.sc (.int .u64 v.c),.sc (.int .u64 v.d)],.sc (.int .u64 m)]=some ⟨[],[(U0 v m).cells]⟩:=by
 rw[Xr];have r2:=WN (xs:=xs) (fu:=fu) (d:=d) 2 (by omega) Ca ⟨v.a,v.b,v.c,E5 .u64 v.d m⟩
 have e2:((2:Nat):Int)=2:=rfl;rw[e2] at r2;unfold U0;generalize Ahu 2 ⟨v.a,v.b,v.c,E5 .u64 v.d m⟩=R at r2 ⊢;simp only[W4.cells] at r2;simp only[Cu,r2];rfl
theorem A3k {a b:Int}{k:Nat}(hk:k<8)(ha:0<=a)(ha':a<((2 ^ (8*k):Nat):Int)) (hb:0<=b)(I7:b<=255):YE .u64 a (J0 .u64 b (8*(k:Int)))=a+((2 ^ (8*k):Nat):Int)*b:=by
 obtain⟨n,rfl⟩:=Int.eq_ofNat_of_zero_le hb;have e:(8*(k:Int)).toNat=8*k:=by omega
 have hp:n*2 ^ (8*k)<=255*2 ^ (8*k):=Nat.mul_le_mul_right _ (by omega)
 have h56:2 ^ (8*k)<=2 ^ 56:=Nat.pow_le_pow_right (by omega) (by omega)
 have e56:(2:Nat) ^ 56=72057594037927936:=by decide
 rw[e56] at h56;generalize hP:2 ^ (8*k)=p at *
 have Auw:n*p<=255*p:=hp
 have hs:J0 .u64 (n:Int) (8*(k:Int))=(n:Int)*((2 ^ (8*(k:Int)).toNat:Nat):Int):=Akd (by omega) (by omega) (by omega) (by
  rw[e,hP];have:((n*p:Nat):Int)<=((255*p:Nat):Int):=by omega
  rw[←Int.natCast_mul];omega)
 rw[hs,e,hP]
 have:=(Abl (a:=a) (c:=((n*p:Nat):Int)) (8*k) n ha (by rw[hP];exact ha') (by rw[hP]) (by
  have:((n*p:Nat):Int)<=((255*p:Nat):Int):=by omega
  omega)).1
 rw[←Int.natCast_mul,this,Int.mul_comm ((p:Nat):Int),←Int.natCast_mul]
theorem A4a (k:Nat):((2 ^ (8*k):Nat):Int)=256 ^ k:=by
 rw[Nat.pow_mul];simp
theorem MC {call:Af}{n:Nat}{c:List PV}{l:List Int}(hb:Li l)(hl:l.length<=8):∀(r:List Int)(i nn:Nat),l.drop i=r->r.length<nn->i<=l.length ->
  Ks fu call n c nn (Vo (l.take i)) l.length (Ah .u8 l) l.length i=some ⟨[.sc (.int .u64 (Vo l))],[]⟩
 |_,_,0,_,h,_=>by omega
 |[],i,nn+1,h,hn,hi=>by
  have:=drop_nil h;rw[R5,Ej _ _ _ (by omega),L6 (by omega)]
 |b::r,i,nn+1,h,hn,hi=>by
  obtain⟨h1,h2,h3⟩:=D1 h;simp only[Ik] at hn;have ih:=MC (call:=call) (n:=n) (c:=c) hb hl r (i+1) nn h3 (by omega) (by omega)
  have hbb:=hb b (List.mem_of_getElem? h2);have w:wrap .i64 ((i:Int)+1)=((i+1:Nat):Int):=by rw[Ap (by omega) (by omega)];omega
  have w8:wrap .i64 (8*(i:Int))=8*(i:Int):=Ap (by omega) (by omega)
  have wb:wrap .u64 b=b:=D7 (by omega) (by omega)
  have Ay3:=W0 (l:=l.take i) fun x hx=>hb x (List.mem_of_mem_take hx)
  have htl:(l.take i).length=i:=by rw[List.length_take];omega
  rw[htl] at Ay3
  have hj:YE .u64 (Vo (l.take i)) (J0 .u64 b (8*(i:Int)))=Vo (l.take (i+1)):=by
   rw[A3k (by omega) Ay3.1 (by rw[A4a];exact Ay3.2) hbb.1 hbb.2,List.take_add_one,h2,CU,htl,A4a]
   simp[Vo]
  rw[R5];simp (disch:=omega) only[Cu,Kz,Dc,EU h2,w,w8,wb,hj];exact ih
theorem YA {l:List Int}(hb:Li l)(hl:l.length<=8)(Ca:100<=fu):Ad (CX xs) prog fu (d+1) Xc [.lst false 1 l.length (Ah .u8 l)]=some ⟨[.sc (.int .u64 (Vo l))],[]⟩:=by
 rw[NN];exact MC hb hl l 0 fu rfl (by omega) (by omega)
theorem Km (k:IntKind)(l:List Int)(i:Nat):List.drop i (Ah k l)=Ah k (l.drop i):=by
 have:=ZV (FQ k) l i
 simpa using this
theorem Re (k:IntKind)(l:List Int)(i:Nat):List.take i (Ah k l)=Ah k (l.take i):=by
 have:=Ake (FQ k) l i
 simpa using this
theorem Li.drop {l:List Int}(h:Li l)(i:Nat):Li (l.drop i):=fun x hx=>h x (List.mem_of_mem_drop hx)
theorem Li.take {l:List Int}(h:Li l)(i:Nat):Li (l.take i):=fun x hx=>h x (List.mem_of_mem_take hx)
theorem Awj {a0 a1:Int}{n:Nat}{c:List PV}{l:List Int}(hb:Li l)(hl:l.length<=1099511627776)(Ca:100<=fu)(nn:Nat)(v:W4):
  Ln fu (Ad (CX xs) prog fu (d+3)) a0 a1 n c (nn+1) l.length (Ah .u8 l) ((l.length / 8:Nat):Int) ((l.length / 8:Nat):Int) ((l.length / 8:Nat):Int) v.a v.b v.c v.d=some ⟨[.sc (.int .u64 (Amz (Ams (U0 v (Qc l)))))],[]⟩:=by
 have w8:wrap .i64 (8*((l.length / 8:Nat):Int))=((8*(l.length / 8):Nat):Int):=by rw[Ap (by omega) (by omega)];omega
 have wl:wrap .u64 (l.length:Int)=l.length:=D7 (by omega) (by omega)
 have hdl:(l.drop (8*(l.length / 8))).length=l.length-8*(l.length / 8):=List.length_drop;have li:=YA (xs:=xs) (fu:=fu) (d:=d+2) (hb.drop (8*(l.length / 8))) (by omega) Ca
 rw[hdl] at li;have tk:List.take (l.length-8*(l.length / 8)) (Ah .u8 (l.drop (8*(l.length / 8))))=Ah .u8 (l.drop (8*(l.length / 8))):=L6 (by rw[Ay,hdl];omega)
 have hbn:=W0 (hb.drop (8*(l.length / 8)));rw[hdl] at hbn
 have hp7:(256:Int) ^ (l.length-8*(l.length / 8))<=256 ^ 7:=by
  have:(256:Nat) ^ (l.length-8*(l.length / 8))<=256 ^ 7:=Nat.pow_le_pow_right (by omega) (by omega)
  have h2:(((256:Nat) ^ (l.length-8*(l.length / 8)):Nat):Int)<=((256 ^ 7:Nat):Int):=by omega
  simpa using h2
 have A2s:YE .u64 (Vo (l.drop (8*(l.length / 8)))) (J0 .u64 (l.length:Int) 56)=Qc l:=by
  have hs:J0 .u64 (l.length:Int) 56=(((l.length % 256)*2 ^ 56:Nat):Int):=by
   show wrap .u64 ((l.length:Int)*2 ^ (min (56:Int).toNat IntKind.u64.bits))=_;have h2:(2:Int) ^ (min (56:Int).toNat IntKind.u64.bits)=72057594037927936:=by decide
   have h3:(2:Nat) ^ 56=72057594037927936:=by decide
   rw[h2,h3];simp only[wrap,IntKind.signed,IntKind.bits];simp;omega
  have h56:(256:Int) ^ 7=((2 ^ 56:Nat):Int):=by decide
  have h3:(2:Nat) ^ 56=72057594037927936:=by decide
  rw[hs,(Abl 56 (l.length % 256) hbn.1 (by omega) rfl (by omega)).1]
  unfold Qc;omega
 have ab:=XI (xs:=xs) (fu:=fu) (d:=d) Ca v (Qc l);have r4:=WN (xs:=xs) (fu:=fu) (d:=d+1) 4 (by omega) Ca ⟨(U0 v (Qc l)).a,(U0 v (Qc l)).b,E5 .u64 (U0 v (Qc l)).c 255,(U0 v (Qc l)).d⟩
 have e4:((4:Nat):Int)=4:=rfl;rw[e4] at r4;unfold Ams;generalize U0 v (Qc l)=U at ab r4 ⊢;generalize Ahu 4 ⟨U.a,U.b,E5 .u64 U.c 255,U.d⟩=R at r4 ⊢;simp only[W4.cells] at ab r4;rw[Xi];simp (disch:=omega) only[Cu,Kz,Dc,w8,wl,Km,tk,li,A2s,ab,r4];rfl
theorem Aeh {a0 a1:Int}{n:Nat}{c:List PV}{l:List Int}(hb:Li l)(hl:l.length<=1099511627776)(Ca:100<=fu):∀(k i nn:Nat)(v:W4),i+k=l.length / 8->k<nn ->
  Ln fu (Ad (CX xs) prog fu (d+3)) a0 a1 n c nn l.length (Ah .u8 l) ((l.length / 8:Nat):Int) ((l.length / 8:Nat):Int) i v.a v.b v.c v.d=some ⟨[.sc (.int .u64 (Amz (Ams (U0 (UK k v (l.drop (8*i))) (Qc l)))))],[]⟩
 |_,_,0,_,_,h=>by omega
 |0,i,nn+1,v,hi,hn=>by
  have e:i=l.length / 8:=by omega
  subst e;exact Awj hb hl Ca nn v
 |k+1,i,nn+1,v,hi,hn=>by
  have w:wrap .i64 ((i:Int)+1)=((i+1:Nat):Int):=by rw[Ap (by omega) (by omega)];omega
  have w8:wrap .i64 (8*(i:Int))=((8*i:Nat):Int):=by rw[Ap (by omega) (by omega)];omega
  have w88:wrap .i64 (((8*i:Nat):Int)+8)=((8*i+8:Nat):Int):=by rw[Ap (by omega) (by omega)];omega
  have hdl:((l.drop (8*i)).take 8).length=8:=by rw[List.length_take,List.length_drop];omega
  have li:=YA (xs:=xs) (fu:=fu) (d:=d+2) ((hb.drop (8*i)).take 8) (by omega) Ca
  rw[hdl] at li;have e8:8*i+8-8*i=8:=by omega
  have ab:=XI (xs:=xs) (fu:=fu) (d:=d) Ca v (Vo ((l.drop (8*i)).take 8));have ih:=Aeh (a0:=a0) (a1:=a1) (n:=n) (c:=c) hb hl Ca k (i+1) nn (U0 v (Vo ((l.drop (8*i)).take 8))) (by omega) (by omega)
  have eN:UK (k+1) v (l.drop (8*i))=UK k (U0 v (Vo ((l.drop (8*i)).take 8))) (l.drop (8*(i+1))):=by
   rw[UK,List.drop_drop,show 8*i+8=8*(i+1) by omega]
  rw[eN];generalize U0 v (Vo ((l.drop (8*i)).take 8))=U at ab ih ⊢;simp only[W4.cells] at ab;rw[Xi];simp (disch:=omega) only[Cu,Kz,Dc,w,w8,w88,e8,Km,Re,li,ab];exact ih
theorem Ao1 {l:List Int}(hb:Li l)(hl:l.length<=1099511627776)(Ca:100<=fu)(hf:l.length<fu)(k0 k1:Int):Ad (CX xs) prog fu (d+4) GU [.sc (.int .u64 k0),.sc (.int .u64 k1),.lst false 1 l.length (Ah .u8 l)]=some ⟨[.sc (.int .u64 (Awu k0 k1 l))],[]⟩:=by
 rw[Aaz]
 have w:wrap .i64 (Int.tdiv (l.length:Int) 8)=((l.length / 8:Nat):Int):=by
  rw[Int.tdiv_eq_ediv_of_nonneg (by omega),Ap (by omega) (by omega)]
  omega
 have lp:=Aeh (xs:=xs) (fu:=fu) (d:=d) (a0:=k0) (a1:=k1) (n:=l.length) (c:=Ah .u8 l) hb hl Ca (l.length / 8) 0 fu (Azc k0 k1) (by omega) (by omega)
 simp only[I6,w];exact lp
theorem Ai8 {l:List Int}(hb:Li l)(hl:l.length<=1099511627776)(Ca:100<=fu)(hf:l.length<fu)(dom:Int):Ad (CX xs) prog fu (d+5) Uk [.sc (.int .i64 dom),.lst false 1 l.length (Ah .u8 l)]=some ⟨[.sc (.int .u64 (R3 dom l))],[]⟩:=by
 rw[VQ];have s:=Ao1 (xs:=xs) (fu:=fu) (d:=d) hb hl Ca hf (wrap .u64 dom) 0;simp only[Cu,s];rfl
theorem Q6 (v:W4):Ad (CX xs) prog fu (d+2) Qf [.agg [.sc (.int .u64 v.a),.sc (.int .u64 v.b),.sc (.int .u64 v.c),.sc (.int .u64 v.d)]]=some ⟨[.agg (TQ v).cells],[]⟩:=by
 have r13:=fun x=>Aq2 (xs:=xs) (fu:=fu) (d:=d) (x:=x) (k:=13) (by simp)
 have r16:=fun x=>Aq2 (xs:=xs) (fu:=fu) (d:=d) (x:=x) (k:=16) (by simp)
 have r17:=fun x=>Aq2 (xs:=xs) (fu:=fu) (d:=d) (x:=x) (k:=17) (by simp)
 have r21:=fun x=>Aq2 (xs:=xs) (fu:=fu) (d:=d) (x:=x) (k:=21) (by simp)
 have r32:=fun x=>Aq2 (xs:=xs) (fu:=fu) (d:=d) (x:=x) (k:=32) (by simp)
 rw[BA];simp (disch:=omega) only[Cu,r13,r16,r17,r21,r32];rfl
def X4 (l:List Int)(i k:Nat):Int:=if i+k<l.length then l.getD (i+k) 0 else if k=7 then (l.length:Int) % 256 else 0
def pc (l:List Int)(i:Nat):List Int:=(List.range 8).map (X4 l i)
theorem A6k {l:List Int}(hb:Li l)(i:Nat):Li (pc l i):=by
 intro x hx;obtain⟨k,hk,rfl⟩:=List.mem_map.1 hx;unfold X4;split
 ·rename_i h;rw[List.getD_eq_getElem?_getD,List.getElem?_eq_getElem h];exact hb _ (List.getElem_mem h)
 ·split<;>omega
theorem Awq {l:List Int}{i:Nat}(h:i+8<=l.length):pc l i=(l.drop i).take 8:=by
 refine List.ext_getElem (by simp[pc];omega) fun k h1 h2=>?_
 have hk:k<8:=by simpa [pc] using h1
 simp only[pc,List.getElem_map,List.getElem_range,List.getElem_take,List.getElem_drop,X4];rw[C5 (by omega),List.getD_eq_getElem?_getD,List.getElem?_eq_getElem (by omega)]
 rfl
theorem XX (x:Int):∀n,Vo (List.replicate n 0++[x])=256 ^ n*x
 |0=>by simp[Vo]
 |n+1=>by
  rw[List.replicate_succ,Zzp,Vo,XX x n,Int.pow_succ,Int.mul_comm (256 ^ n) 256,Int.mul_assoc];omega
theorem At0 {l:List Int}:Vo (pc l (8*(l.length / 8)))=Qc l:=by
 have e:pc l (8*(l.length / 8))=l.drop (8*(l.length / 8))++(List.replicate (7-(l.length-8*(l.length / 8))) 0++[(l.length:Int) % 256]):=by
  refine List.ext_getElem (by simp[pc];omega) fun k h1 h2=>?_
  have hk:k<8:=by simpa [pc] using h1
  simp only[pc,List.getElem_map,List.getElem_range,X4];by_cases hc:8*(l.length / 8)+k<l.length
  ·rw[C5 hc,List.getElem_append_left (by rw[List.length_drop];omega),List.getElem_drop,List.getD_eq_getElem?_getD,List.getElem?_eq_getElem hc]
   rfl
  ·rw[Bn hc,List.getElem_append_right (by rw[List.length_drop];omega)]
   by_cases h7:k=7
   ·rw[C5 h7,List.getElem_append_right (by simp;omega)]
    simp
   ·rw[Bn h7,List.getElem_append_left (by simp;omega)]
    simp
 rw[e,CU,XX];unfold Qc
 have:(256:Int) ^ (l.drop (8*(l.length / 8))).length*(256 ^ (7-(l.length-8*(l.length / 8)))*((l.length:Int) % 256))=72057594037927936*((l.length:Int) % 256):=by
  rw[←Int.mul_assoc,←Int.pow_add,List.length_drop];have:l.length-8*(l.length / 8)+(7-(l.length-8*(l.length / 8)))=7:=by omega
  rw[this];rfl
 rw[this]
theorem A46 {a b:Int}(ha:0<=a)(ha':a<72057594037927936)(hb:0<=b)(I7:b<=255):YE .u64 (J0 .u64 a 8) b=b+256*a:=by
 obtain⟨n,rfl⟩:=Int.eq_ofNat_of_zero_le ha
 have hs:J0 .u64 (n:Int) 8=((n*2 ^ 8:Nat):Int):=by
  have:=Akd (a:=(n:Int)) (k:=8) (by omega) (by omega) (by omega) (by
   have:(2 ^ (8:Int).toNat:Nat)=256:=by decide
   rw[this];omega)
  rw[this];have:(2 ^ (8:Int).toNat:Nat)=256:=by decide
  rw[this];have:(2 ^ 8:Nat)=256:=by decide
  rw[this];omega
 have h8:(2 ^ 8:Nat)=256:=by decide
 rw[hs,(Abl (a:=b) 8 n hb (by rw[h8];omega) rfl (by rw[h8];omega)).2,h8]
 omega
theorem Ajo {a0 a1:Int}{n m0:Nat}{c:List PV}{l:List Int}(hb:Li l)(hl:l.length<=1099511627776){i:Nat}(hi:i<=l.length)(v:W4):∀(j nn:Nat),j<=8->j<nn ->
  Fy fu (Ad (CX xs) prog fu (d+2)) a0 a1 n c m0 nn l.length (Ah .u8 l) i (Vo ((pc l i).drop j)) ((j:Int)-1) v.cells =
   Gz fu (Ad (CX xs) prog fu (d+2)) a0 a1 n c m0 l.length (Ah .u8 l) ((i+8:Nat):Int) (U0 v (Vo (pc l i))).cells
 |_,0,_,h=>by omega
 |0,nn+1,hj,hn=>by
  have w8:wrap .i64 ((i:Int)+8)=((i+8:Nat):Int):=by rw[Ap (by omega) (by omega)];omega
  have r1:=Q6 (xs:=xs) (fu:=fu) (d:=d) ⟨v.a,v.b,v.c,E5 .u64 v.d (Vo (pc l i))⟩;have r2:=Q6 (xs:=xs) (fu:=fu) (d:=d) (TQ ⟨v.a,v.b,v.c,E5 .u64 v.d (Vo (pc l i))⟩);have eA:U0 v (Vo (pc l i))=A4p (TQ (TQ ⟨v.a,v.b,v.c,E5 .u64 v.d (Vo (pc l i))⟩)) (Vo (pc l i)):=rfl;rw[eA];generalize TQ ⟨v.a,v.b,v.c,E5 .u64 v.d (Vo (pc l i))⟩=U at r1 r2 ⊢;generalize TQ U=U2 at r2 ⊢;simp only[W4.cells] at r1 r2;rw[O8,Ej _ _ _ (by omega),C8]
  simp only[W4.cells,List.getD_cons_zero,List.getD_cons_succ,Aa4,I6];simp (disch:=first|omega|(simp;done)) only[Cu,Bq,List.take_succ_cons,List.take_zero,List.drop_succ_cons,C8,List.drop_nil,Zzp,Zzq,List.append_nil,Ik,Zx,List.getD_cons_zero,List.getD_cons_succ,r1,r2,w8,Ch,Nat.reduceAdd,Nat.reduceLeDiff,List.append_eq]
  rfl
 |j+1,nn+1,hj,hn=>by
  have ih:=Ajo (a0:=a0) (a1:=a1) (n:=n) (m0:=m0) (c:=c) hb hl hi v j nn (by omega) (by omega)
  have hw:wrap .i64 ((i:Int)+(((j+1:Nat):Int)-1))=((i+j:Nat):Int):=by rw[Ap (by omega) (by omega)];omega
  have wj:wrap .i64 (((j+1:Nat):Int)-1-1)=(j:Int)-1:=by rw[Ap (by omega) (by omega)];omega
  have hd:(pc l i).drop j=X4 l i j::(pc l i).drop (j+1):=by
   rw[List.drop_eq_getElem_cons (by simp[pc];omega)]
   simp[pc]
  have hB:=A6k hb i;have hbn:=W0 (hB.drop (j+1))
  have hp7:(256:Int) ^ ((pc l i).drop (j+1)).length<=72057594037927936:=by
   have Ha:((pc l i).drop (j+1)).length<=7:=by simp[pc]
   have:(256:Nat) ^ ((pc l i).drop (j+1)).length<=256 ^ 7:=Nat.pow_le_pow_right (by omega) Ha
   have h2:(((256:Nat) ^ ((pc l i).drop (j+1)).length:Nat):Int)<=((256 ^ 7:Nat):Int):=by omega
   simpa using h2
  have hc0:0<=X4 l i j∧X4 l i j<=255:=hB _ (by rw[←C8 (l:=pc l i)];exact List.mem_of_mem_drop (i:=j) (by rw[C8,hd];simp))
  have hj2:YE .u64 (J0 .u64 (Vo ((pc l i).drop (j+1))) 8) (X4 l i j)=Vo ((pc l i).drop j):=by
   rw[A46 hbn.1 (by omega) hc0.1 hc0.2,hd]
   rfl
  have wc:wrap .u64 (X4 l i j)=X4 l i j:=D7 (by omega) (by omega)
  rw[O8,EF _ _ _ (by omega)]
  simp only[I6,hw];by_cases c1:i+j<l.length
  ·have e:X4 l i j=l.getD (i+j) 0:=by unfold X4;rw[C5 c1]
   have e2:l[i+j]?=some (X4 l i j):=by rw[e,List.getD_eq_getElem?_getD,List.getElem?_eq_getElem c1];rfl
   rw[EF _ _ _ (by omega)]
   simp (disch:=omega) only[Cu,Kz,Dc,EU e2,wc,hj2,wj];exact ih
  ·rw[Ej _ _ _ (by omega)]
   by_cases h7:j=7
   ·subst h7;have e:X4 l i 7=(l.length:Int) % 256:=by unfold X4;rw[Bn c1,C5 rfl]
    have e8:wrap .u8 (l.length:Int)=X4 l i 7:=by
     rw[e];simp only[wrap,IntKind.signed,IntKind.bits];simp
    rw[Nf,C5 (by omega),e8,wc,hj2,wj]
    exact ih
   ·have e:X4 l i j=0:=by unfold X4;rw[Bn c1,Bn h7]
    rw[e] at hj2;rw[Nf,Bn (by omega),hj2,wj]
    exact ih
theorem YJ {a0 a1:Int}{n:Nat}{c:List PV}{l:List Int}(hb:Li l)(hl:l.length<=1099511627776)(Ca:100<=fu):∀(k i nn:Nat)(v:W4),i+k=l.length / 8->k+1<nn ->
  Gz fu (Ad (CX xs) prog fu (d+2)) a0 a1 n c nn l.length (Ah .u8 l) ((8*i:Nat):Int) v.cells=some ⟨[.sc (.int .u64 (Amz (Ams (U0 (UK k v (l.drop (8*i))) (Qc l)))))],[]⟩
 |_,_,0,_,_,h=>by omega
 |k,i,nn+1,v,hi,hn=>by
  have step:=Ajo (xs:=xs) (fu:=fu) (d:=d) (a0:=a0) (a1:=a1) (n:=n) (m0:=nn) (c:=c) hb hl (i:=8*i) (by omega) v 8 fu (by omega) (by omega)
  have e0:Vo ((pc l (8*i)).drop 8)=0:=by rw[List.drop_of_length_le (by simp[pc])];rfl
  rw[e0] at step;rw[Ps,EF _ _ _ (by omega)]
  refine step.trans ?_;cases k with
  |zero=>
   have e:i=l.length / 8:=by omega
   subst e;rw[At0];generalize hv:U0 v (Qc l)=u;obtain⟨nn',rfl⟩:∃nn',nn=nn'+1:=⟨nn-1,by omega⟩
   have r1:=Q6 (xs:=xs) (fu:=fu) (d:=d) ⟨u.a,u.b,E5 .u64 u.c 255,u.d⟩;have r2:=Q6 (xs:=xs) (fu:=fu) (d:=d) (TQ ⟨u.a,u.b,E5 .u64 u.c 255,u.d⟩);have r3:=Q6 (xs:=xs) (fu:=fu) (d:=d) (TQ (TQ ⟨u.a,u.b,E5 .u64 u.c 255,u.d⟩));have r4:=Q6 (xs:=xs) (fu:=fu) (d:=d) (TQ (TQ (TQ ⟨u.a,u.b,E5 .u64 u.c 255,u.d⟩)))
   have eF:Amz (Ams (U0 (UK 0 v (l.drop (8*(l.length / 8)))) (Qc l)))=Amz (TQ (TQ (TQ (TQ ⟨u.a,u.b,E5 .u64 u.c 255,u.d⟩)))):=by
    rw[UK,hv];rfl
   rw[eF];clear eF;generalize TQ ⟨u.a,u.b,E5 .u64 u.c 255,u.d⟩=U1 at r1 r2 r3 r4 ⊢;generalize TQ U1=U2 at r2 r3 r4 ⊢;generalize TQ U2=U3 at r3 r4 ⊢;generalize TQ U3=U4 at r4 ⊢;simp only[W4.cells] at r1 r2 r3 r4;rw[Ps,Ej _ _ _ (by omega)]
   simp only[W4.cells,List.getD_cons_zero,List.getD_cons_succ,Aa4,I6];simp (disch:=first|omega|(simp;done)) only[Cu,Bq,List.take_succ_cons,List.take_zero,List.drop_succ_cons,C8,List.drop_nil,Zzp,Zzq,List.append_nil,Ik,Zx,List.getD_cons_zero,List.getD_cons_succ,r1,r2,r3,r4,Ch,Nat.reduceAdd,Nat.reduceLeDiff,List.append_eq]
   rfl
  |succ k=>
   have ih:=YJ (a0:=a0) (a1:=a1) (n:=n) (c:=c) hb hl Ca k (i+1) nn (U0 v (Vo (pc l (8*i)))) (by omega) (by omega)
   rw[show 8*i+8=8*(i+1) by omega,ih,Awq (by omega)]
   simp only[UK,List.drop_drop];rw[show 8*(i+1)=8*i+8 by omega]
theorem Aip {l:List Int}(hb:Li l)(hl:l.length<=1099511627776)(Ca:100<=fu)(hf:l.length<fu)(k0 k1:Int):Ad (CX xs) prog fu (d+3) S9 [.sc (.int .u64 k0),.sc (.int .u64 k1),.lst false 1 l.length (Ah .u8 l)]=some ⟨[.sc (.int .u64 (Awu k0 k1 l))],[]⟩:=by
 rw[GP];exact YJ (xs:=xs) (fu:=fu) (d:=d) (a0:=k0) (a1:=k1) (n:=l.length) (c:=Ah .u8 l) hb hl Ca (l.length / 8) 0 fu (Azc k0 k1) (by omega) (by omega)
theorem Apq {l:List Int}(hb:Li l)(hl:l.length<=1099511627776)(Ca:100<=fu)(hf:l.length<fu)(dom:Int):Ad (CX xs) prog fu (d+4) Mf [.sc (.int .i64 dom),.lst false 1 l.length (Ah .u8 l)]=some ⟨[.sc (.int .u64 (R3 dom l))],[]⟩:=by
 rw[CR];have s:=Aip (xs:=xs) (fu:=fu) (d:=d) hb hl Ca hf (wrap .u64 dom) 0;simp only[Cu,s];rfl
theorem Av1 {l:List Int}(hb:Li l)(hl:l.length<=1099511627776)(Ca:100<=fu)(hf:l.length<fu)(key dom:Int):Ad (CX xs) prog fu (d+4) Tb [.sc (.int .u64 key),.sc (.int .i64 dom),.lst false 1 l.length (Ah .u8 l)]=some ⟨[.sc (.int .u64 (Auj key dom l))],[]⟩:=by
 rw[FH];have s:=Aip (xs:=xs) (fu:=fu) (d:=d) hb hl Ca hf key (wrap .u64 (1+wrap .u64 dom));simp only[Cu,s];rfl
end
end
section
open Go.Proofs.Tryz (prog)
open Go.IntKind (wrap)
def Dx (w:Int)(k:Nat):Int:=wrap .u8 (Is .u64 w (56-8*(k:Int)))
def Ic (w:Int):List Int:=(List.range' 0 8).map (Dx w)
def A8 (ws:List Int):List Int:=ws.flatMap Ic
theorem Jc (w:Int):(Ic w).length=8:=rfl
section
variable {fu d:Nat} {xs:FuncId->Option (List PV->Option A5)} {call:Af} {n:Nat} {c:List PV}
theorem Ac9 {ws:List Int}{w:Int}{m0 l:Nat}{i k:Int}:∀(r j nn:Nat)(bs:List Int),8-j=r->r<nn->j<=8->bs.length+r<=34359738368 ->
  Ls fu call n c m0 nn bs.length w l (Ah .u64 ws) k i j (Ah .u8 bs) =
   I0 fu call n c m0 (bs++(List.range' j (8-j)).map (Dx w)).length l (Ah .u64 ws) k (wrap .i64 (i+1)) (Ah .u8 (bs++(List.range' j (8-j)).map (Dx w)))
 |r,j,0,bs,_,h,_,_=>by omega
 |0,j,nn+1,bs,hr,_,hj,_=>by
  have e:j=8:=by omega
  subst e;rw[S5];simp (disch:=omega) only[Cu];simp
 |r+1,j,nn+1,bs,hr,hn,hj,hb=>by
  have ih:=Ac9 (ws:=ws) (w:=w) (m0:=m0) (l:=l) (i:=i) (k:=k) r (j+1) nn (bs++[Dx w j]) (by omega) (by omega) (by omega) (by simp;omega)
  have e8:=Ay .u8 bs;rw[S5]
  have hx:wrap .u8 (Is .u64 w (wrap .i64 (56-wrap .i64 (8*(j:Int)))))=Dx w j:=by
   rw[Ap (x:=8*(j:Int)) (by omega) (by omega),Ap (by omega) (by omega)]
   rfl
  have h0:0<=wrap .i64 (56-wrap .i64 (8*(j:Int))):=by
   rw[Ap (x:=8*(j:Int)) (by omega) (by omega),Ap (by omega) (by omega)]
   omega
  have Ahf:List.range' j (8-j)=j::List.range' (j+1) (8-(j+1)):=by
   rw[show 8-j=(8-(j+1))+1 by omega]
   exact List.range'_succ
  simp (disch:=first|omega|exact h0) only[Cu,Dc,hx,Mt,Kg,Ap (x:=(j:Int)+1)];rw[Ahf];simp only[Io,Ik,Zx,Ch,Zzv,VN,List.singleton_append] at ih ⊢;exact ih
theorem QC {ws:List Int}(hl:ws.length<=1073741824)(Ca:100<=fu):∀(r:List Int)(i nn:Nat)(bs:List Int),ws.drop i=r->r.length<nn->bs.length=8*i ->
  I0 fu call n c nn bs.length ws.length (Ah .u64 ws) ws.length i (Ah .u8 bs)=some ⟨[.own 1 (bs++A8 r).length (Ah .u8 (bs++A8 r))],[]⟩
 |r,i,0,_,_,h,_=>by omega
 |[],i,nn+1,bs,h,_,_=>by
  have:=drop_nil h;have e8:=Ay .u8 bs;rw[Tc];simp (disch:=omega) only[Cu,Dc,Mt,A8,List.flatMap_nil,List.append_nil]
 |w::r,i,nn+1,bs,h,hn,hb=>by
  obtain⟨h1,h2,h3⟩:=D1 h;simp only[Ik] at hn;rw[Tc];simp (disch:=omega) only[Cu,Kz,Dc,EU h2];rw[show (0:Int)=((0:Nat):Int) from rfl,Ac9 8 0 fu bs rfl (by omega) (by omega) (by omega),Ap (by omega) (by omega)]
  have ih:=QC hl Ca r (i+1) nn (bs++Ic w) h3 (by omega) (by simp[Jc];omega)
  have e:bs++Ic w++A8 r=bs++A8 (w::r):=by simp[A8]
  rw[e] at ih;exact ih
theorem Rs {ws:List Int}(hl:ws.length<=1073741824)(Ca:100<=fu)(hf:ws.length<fu):Ad (CX xs) prog fu (d+1) G0 [.lst false 1 ws.length (Ah .u64 ws)]=some ⟨[.own 1 (A8 ws).length (Ah .u8 (A8 ws))],[]⟩:=by
 rw[RV];simp (disch:=omega) only[Cu,Ap,Int.mul_one];exact QC hl Ca ws 0 fu [] rfl hf rfl
theorem YF {ws:List Int}{w:Int}{m0 i:Nat}(hw:ws[i]?=some w):∀(r nn:Nat)(j:Int)(bs:List Int),j=(r:Int)-1->r<=8->r<nn->bs.length+r<=34359738368 ->
  Hp fu call n c m0 nn ws.length (Ah .u64 ws) bs.length i j (Ah .u8 bs) =
   F9 fu call n c m0 ws.length (Ah .u64 ws) (bs++(List.range' (8-r) r).map (Dx w)).length (wrap .i64 (i+1)) (Ah .u8 (bs++(List.range' (8-r) r).map (Dx w)))
 |r,0,j,bs,_,_,h,_=>by omega
 |0,nn+1,j,bs,hr,_,_,_=>by
  rw[Np];simp (disch:=omega) only[Cu];simp
 |r+1,nn+1,j,bs,hr,AK,hn,hb=>by
  have hi:=A03 hw;have ih:=YF (m0:=m0) hw r nn (j-1) (bs++[Dx w (8-(r+1))]) (by omega) (by omega) (by omega) (by simp;omega)
  have e8:=Ay .u8 bs
  have hx:wrap .u8 (Is .u64 w (wrap .u64 (wrap .i64 (8*j))))=Dx w (8-(r+1)):=by
   rw[Ap (by omega) (by omega),D7 (by omega) (by omega)]
   unfold Dx;rw[show 56-8*((8-(r+1):Nat):Int)=8*j by omega]
  have h0:0<=wrap .u64 (wrap .i64 (8*j)):=by
   rw[Ap (by omega) (by omega),D7 (by omega) (by omega)]
   omega
  have Ahf:List.range' (8-(r+1)) (r+1)=(8-(r+1))::List.range' (8-r) r:=by
   rw[List.range'_succ,show 8-(r+1)+1=8-r by omega]
  rw[Np];simp (disch:=first|omega|exact h0) only[Cu,Kz,Dc,EU hw,hx,Mt,Kg,Ap (x:=j-1)];rw[Ahf];simp only[Io,Ik,Zx,Ch,Zzv,VN,List.singleton_append] at ih ⊢;exact ih
theorem KP {ws:List Int}(hl:ws.length<=1073741824)(Ca:100<=fu):∀(r:List Int)(i nn:Nat)(bs:List Int),ws.drop i=r->r.length<nn->bs.length=8*i ->
  F9 fu call n c nn ws.length (Ah .u64 ws) bs.length i (Ah .u8 bs)=some ⟨[.own 1 (bs++A8 r).length (Ah .u8 (bs++A8 r))],[]⟩
 |r,i,0,_,_,h,_=>by omega
 |[],i,nn+1,bs,h,_,_=>by
  have:=drop_nil h;have e8:=Ay .u8 bs;rw[Nm];simp (disch:=omega) only[Cu,Dc,Mt,A8,List.flatMap_nil,List.append_nil]
 |w::r,i,nn+1,bs,h,hn,hb=>by
  obtain⟨h1,h2,h3⟩:=D1 h;simp only[Ik] at hn;rw[Nm];simp (disch:=omega) only[Cu];rw[YF h2 8 fu 7 bs rfl (by omega) (by omega) (by omega),Ap (by omega) (by omega)]
  have ih:=KP hl Ca r (i+1) nn (bs++Ic w) h3 (by omega) (by simp[Jc];omega)
  have e:bs++Ic w++A8 r=bs++A8 (w::r):=by simp[A8]
  rw[e] at ih;exact ih
theorem Vg {ws:List Int}(hl:ws.length<=1073741824)(Ca:100<=fu)(hf:ws.length<fu):Ad (CX xs) prog fu (d+1) Fg [.lst false 1 ws.length (Ah .u64 ws)]=some ⟨[.own 1 (A8 ws).length (Ah .u8 (A8 ws))],[]⟩:=by
 rw[AQ];exact KP hl Ca ws 0 fu [] rfl hf rfl
end
abbrev Gu (a b:Int):Int:=YE .u64 (J0 .u64 a 8) (wrap .u64 b)
def QG (bs:List Int):Int:=bs.foldl Gu 0
theorem Ayc {q:Int}(h0:0<=q)(h1:q<=18446744073709551615):Gu (q / 256) (wrap .u8 q)=q:=by
 have e1:J0 .u64 (q / 256) 8=q / 256*256:=by
  unfold J0;have:((8:Int).toNat.min IntKind.u64.bits)=8:=by decide
  show wrap .u64 (q / 256*2 ^ (min (8:Int).toNat IntKind.u64.bits))=_;have h2:(2:Int) ^ (min (8:Int).toNat IntKind.u64.bits)=256:=by decide
  rw[h2,D7 (by omega) (by omega)]
 have e2:wrap .u8 q=q % 256:=by
  simp only[wrap,IntKind.signed,IntKind.bits];simp
 have e3:wrap .u64 (q % 256)=q % 256:=D7 (by omega) (by omega)
 unfold Gu;rw[e1,e2,e3];obtain⟨n,rfl⟩:=Int.eq_ofNat_of_zero_le h0;have hn:n<18446744073709551616:=by omega
 have e4:(BitVec.ofInt 64 ((n:Int) / 256*256)).toNat=n / 256*256:=by
  rw[BitVec.toNat_ofInt];omega
 have e5:(BitVec.ofInt 64 ((n:Int) % 256)).toNat=n % 256:=by
  rw[BitVec.toNat_ofInt];omega
 have e6:n / 256*256 ||| n % 256=n:=by
  have:=Nat.shiftLeft_add_eq_or_of_lt (show n % 256<2 ^ 8 by omega) (n / 256)
  rw[Nat.shiftLeft_eq] at this;rw[←this];omega
 unfold YE;show wrap .u64 ((BitVec.ofInt 64 ((n:Int) / 256*256) ||| BitVec.ofInt 64 ((n:Int) % 256)).toNat:Int)=n;rw[BitVec.toNat_or,e4,e5,e6,D7 (by omega) (by omega)]
theorem XD {w:Int}(k:Nat)(hk:k<8):Dx w k=wrap .u8 (w / 2 ^ (56-8*k)):=by
 unfold Dx Is;have e:(56-8*(k:Int)).toNat=56-8*k:=by omega
 rw[e,Nat.min_eq_left (by show 56-8*k<=64;omega),Int.fdiv_eq_ediv_of_nonneg _ (Int.le_of_lt (Int.pow_pos (by omega)))]
theorem YH {w:Int}(h0:0<=w)(h1:w<=18446744073709551615):QG (Ic w)=w:=by
 have st:∀(k:Nat) (D:Int),k<8->(2:Int) ^ (56-8*k)=D->0<D->Gu (w / D / 256) (Dx w k)=w / D:=by
  intro k D hk hD hp;rw[XD k hk,hD];exact Ayc (Int.ediv_nonneg h0 (Int.le_of_lt hp)) (Int.le_trans (Int.ediv_le_self _ h0) h1)
 have s0:=st 0 72057594037927936 (by omega) (by decide) (by omega)
 have s1:=st 1 281474976710656 (by omega) (by decide) (by omega)
 have s2:=st 2 1099511627776 (by omega) (by decide) (by omega)
 have s3:=st 3 4294967296 (by omega) (by decide) (by omega)
 have s4:=st 4 16777216 (by omega) (by decide) (by omega)
 have s5:=st 5 65536 (by omega) (by decide) (by omega)
 have s6:=st 6 256 (by omega) (by decide) (by omega)
 have s7:=st 7 1 (by omega) (by decide) (by omega)
 rw[show w / 72057594037927936 / 256=0 by omega] at s0
 rw[show w / 281474976710656 / 256=w / 72057594037927936 by omega] at s1
 rw[show w / 1099511627776 / 256=w / 281474976710656 by omega] at s2
 rw[show w / 4294967296 / 256=w / 1099511627776 by omega] at s3
 rw[show w / 16777216 / 256=w / 4294967296 by omega] at s4
 rw[show w / 65536 / 256=w / 16777216 by omega] at s5
 rw[show w / 256 / 256=w / 65536 by omega] at s6
 rw[show w / 1 / 256=w / 256 by omega,show w / 1=w by omega] at s7
 show Gu (Gu (Gu (Gu (Gu (Gu (Gu (Gu 0 (Dx w 0)) (Dx w 1)) (Dx w 2)) (Dx w 3)) (Dx w 4)) (Dx w 5)) (Dx w 6)) (Dx w 7)=w;rw[s0,s1,s2,s3,s4,s5,s6,s7]
end
section
open Go.Proofs.Tryz (prog)
open Go.IntKind (wrap)
set_option maxRecDepth 100000
abbrev Vj:FuncId:=110
noncomputable def Hk (fu:Nat)(call:Af)(a0:Int)(nn:Nat)(y0 y1 y2:Int)(y3 y4:List PV):Option A5:=Dh CB prog fu call 110 Tryz.f110 (B7 Tryz.f110) [.sc (.int .u64 a0)] [.r,.r,.r,.l,.r,.l] nn ⟨lk [(0,(.sc (.int .u64 y0))),(2,(.ptr 2 0)),(3,(.ptr 3 0)),(4,(.sc (.int .i64 y1))),(6,(.sc (.int .i64 y2)))],Bu [(2,(.ar false y3)),(3,(.ar false y4))]⟩
noncomputable def Tr (fu:Nat)(call:Af)(a0:Int)(nn:Nat)(y0 y1:List PV):Option A5:=Dh CB prog fu call 110 Tryz.f110 (B7 Tryz.f110) [.sc (.int .u64 a0)] [.r,.r,.r,.r,.r] nn ⟨lk [(2,(.ptr 2 0)),(3,(.ptr 3 0))],Bu [(2,(.ar false y0)),(3,(.ar false y1))]⟩
noncomputable def Tu (fu:Nat)(call:Af)(a0:Int)(nn:Nat)(y0:List PV):Option A5:=Dh CB prog fu call 110 Tryz.f110 (B7 Tryz.f110) [.sc (.int .u64 a0)] [.r,.r,.r,.r,.r,.r] nn ⟨lk [(2,(.ptr 2 0))],Bu [(2,(.ar false y0))]⟩
theorem Qn (fu:Nat)(call:Af)(a0:Int)(nn:Nat)(y0 y1 y2:Int)(y3 y4:List PV):Hk fu call a0 (nn+1) y0 y1 y2 y3 y4=(Bk (decide (y2<16)) (Aa (wrap .i64 (4*y2)) fun x1=>Aa (wrap .i64 (60-x1)) fun x2=>Ar (decide (0<=x2))<|Aa (Is .u64 y0 x2) fun x3=>Aa (X3 .u64 x3 15) fun x4=>Aa (wrap .i64 x4) fun x5=>Ar (decide (0<=y2)&&decide (y2<18))<|Ar (decide (0+Int.toNat y2*1+1<=y4.length))<|Aa (Bq y4 [.sc (.int .i64 x5)] (0+Int.toNat y2*1)) fun x6=>Ar (decide (0<=y2)&&decide (y2<18))<|Ae .i64 (List.getD x6 (0+Int.toNat y2*1) .top) fun x7=>Aa (wrap .i64 (15-x7)) fun x8=>Aa (wrap .i64 (y1+x8)) fun x9=>Aa (wrap .i64 (y2+1)) fun C7=>Hk fu call a0 (nn) (y0) x9 C7 (y3) x6) (Aa (wrap .i64 (Int.tdiv y1 16)) fun Dm=>Ar (decide (17<=y4.length))<|Aa (Bq y4 [.sc (.int .i64 Dm)] 16) fun Eh=>Aa (Int.tmod y1 16) fun E6=>Ar (decide (18<=Eh.length))<|Aa (Bq Eh [.sc (.int .i64 E6)] 17) fun D8=>Tr fu call a0 (fu) (y3) D8)):=by kernel_rfl
theorem AR (fu:Nat)(call:Af)(a0:Int)(nn:Nat)(Ko:0<nn)(y0 y1:List PV):Tr fu call a0 nn y0 y1=(Ae .i64 (List.getD y1 0 .top) fun Ez=>Ae .i64 (List.getD y1 1 .top) fun Fu=>Ae .i64 (List.getD y1 2 .top) fun Gt=>Ae .i64 (List.getD y1 3 .top) fun G7=>Ae .i64 (List.getD y1 4 .top) fun Gj=>Ae .i64 (List.getD y1 5 .top) fun Gx=>Ae .i64 (List.getD y1 6 .top) fun Ju=>Ae .i64 (List.getD y1 7 .top) fun H3=>Ae .i64 (List.getD y1 8 .top) fun Jd=>Ae .i64 (List.getD y1 9 .top) fun Fn=>Ae .i64 (List.getD y1 10 .top) fun Ev=>Ae .i64 (List.getD y1 11 .top) fun Hz=>Ae .i64 (List.getD y1 12 .top) fun J3=>Ae .i64 (List.getD y1 13 .top) fun Gy=>Ae .i64 (List.getD y1 14 .top) fun O4=>Ae .i64 (List.getD y1 15 .top) fun Nu=>Ae .i64 (List.getD y1 16 .top) fun K7=>Ae .i64 (List.getD y1 17 .top) fun M4=>Ar (decide (18<=y0.length))<|Aa (Bq y0 [.sc (.int .i64 Ez),.sc (.int .i64 Fu),.sc (.int .i64 Gt),.sc (.int .i64 G7),.sc (.int .i64 Gj),.sc (.int .i64 Gx),.sc (.int .i64 Ju),.sc (.int .i64 H3),.sc (.int .i64 Jd),.sc (.int .i64 Fn),.sc (.int .i64 Ev),.sc (.int .i64 Hz),.sc (.int .i64 J3),.sc (.int .i64 Gy),.sc (.int .i64 O4),.sc (.int .i64 Nu),.sc (.int .i64 K7),.sc (.int .i64 M4)] 0) fun Oh=>Tu fu call a0 (fu) Oh):=by cases nn with|zero=>exact absurd Ko (Nat.lt_irrefl 0)|succ nn=>kernel_rfl
theorem AN (fu:Nat)(call:Af)(a0:Int)(nn:Nat)(Ko:0<nn)(y0:List PV):Tu fu call a0 nn y0=(Ae .i64 (List.getD y0 0 .top) fun P1=>Ae .i64 (List.getD y0 1 .top) fun Py=>Ae .i64 (List.getD y0 2 .top) fun Q9=>Ae .i64 (List.getD y0 3 .top) fun Um=>Ae .i64 (List.getD y0 4 .top) fun Ii=>Ae .i64 (List.getD y0 5 .top) fun Lq=>Ae .i64 (List.getD y0 6 .top) fun Sr=>Ae .i64 (List.getD y0 7 .top) fun Xv=>Ae .i64 (List.getD y0 8 .top) fun Ss=>Ae .i64 (List.getD y0 9 .top) fun Zu=>Ae .i64 (List.getD y0 10 .top) fun Y5=>Ae .i64 (List.getD y0 11 .top) fun Xw=>Ae .i64 (List.getD y0 12 .top) fun Xe=>Ae .i64 (List.getD y0 13 .top) fun Xx=>Ae .i64 (List.getD y0 14 .top) fun X9=>Ae .i64 (List.getD y0 15 .top) fun X8=>Ae .i64 (List.getD y0 16 .top) fun AW=>Ae .i64 (List.getD y0 17 .top) fun Yu=>some (A5.mk [.agg [.sc (.int .i64 P1),.sc (.int .i64 Py),.sc (.int .i64 Q9),.sc (.int .i64 Um),.sc (.int .i64 Ii),.sc (.int .i64 Lq),.sc (.int .i64 Sr),.sc (.int .i64 Xv),.sc (.int .i64 Ss),.sc (.int .i64 Zu),.sc (.int .i64 Y5),.sc (.int .i64 Xw),.sc (.int .i64 Xe),.sc (.int .i64 Xx),.sc (.int .i64 X9),.sc (.int .i64 X8),.sc (.int .i64 AW),.sc (.int .i64 Yu)]] [])):=by cases nn with|zero=>exact absurd Ko (Nat.lt_irrefl 0)|succ nn=>kernel_rfl
theorem JQ {xs:FuncId->Option (List PV->Option A5)} (fu d:Nat)(a0:Int):Ad (CX xs) prog fu (d+1) Vj [.sc (.int .u64 a0)]=(fun (call:Af)=>Hk fu call a0 (fu) (a0) 0 0 ([.sc (.int .i64 0),.sc (.int .i64 0),.sc (.int .i64 0),.sc (.int .i64 0),.sc (.int .i64 0),.sc (.int .i64 0),.sc (.int .i64 0),.sc (.int .i64 0),.sc (.int .i64 0),.sc (.int .i64 0),.sc (.int .i64 0),.sc (.int .i64 0),.sc (.int .i64 0),.sc (.int .i64 0),.sc (.int .i64 0),.sc (.int .i64 0),.sc (.int .i64 0),.sc (.int .i64 0)]) ([.sc (.int .i64 0),.sc (.int .i64 0),.sc (.int .i64 0),.sc (.int .i64 0),.sc (.int .i64 0),.sc (.int .i64 0),.sc (.int .i64 0),.sc (.int .i64 0),.sc (.int .i64 0),.sc (.int .i64 0),.sc (.int .i64 0),.sc (.int .i64 0),.sc (.int .i64 0),.sc (.int .i64 0),.sc (.int .i64 0),.sc (.int .i64 0),.sc (.int .i64 0),.sc (.int .i64 0)])) (Ad (CX xs) prog fu d):=by kernel_rfl
abbrev BN:FuncId:=111
noncomputable def Ng (fu:Nat)(call:Af)(a0 a1:Int)(a2 a3 a4:Int)(nn:Nat)(y0 y1:Int)(y2 y3 y4:Int):Option A5:=Dh CB prog fu call 111 Tryz.f111 (B7 Tryz.f111) [.sc (.int .i64 a0),.sc (.int .i64 a1),.sc (.int .i64 a2),.sc (.int .i64 a3),.sc (.int .u64 a4)] [.r,.r,.l,.r,.l] nn ⟨lk [(0,(.sc (.int .i64 y0))),(1,(.sc (.int .i64 y1))),(4,(.sc (.int .u64 y2))),(11,(.sc (.int .i64 y3))),(12,(.sc (.int .i64 y4)))],Bu []⟩
theorem Vd (fu:Nat)(call:Af)(a0 a1:Int)(a2 a3 a4:Int)(nn:Nat)(y0 y1:Int)(y2 y3 y4:Int):Ng fu call a0 a1 a2 a3 a4 (nn+1) y0 y1 y2 y3 y4=(Bk (decide (y4<y3)) (Aa (wrap .u64 y0) fun x3=>Aa (wrap .u64 y1) fun x4=>Aa (wrap .u64 y4) fun x5=>Aj (call 86 [.lst false 1 4 [.sc (.int .u64 x3),.sc (.int .u64 x4),.sc (.int .u64 x5),.sc (.int .u64 y2)]]) fun x6 x7=>Ac x7<|Ab x6 fun x8 x9=>Gw 1 x8 fun C7 Dm=>Ac x9<|Ar (decide (0+C7*1<=Dm.length))<|Aj (call 66 [.sc (.int .i64 1),.lst false 1 C7 (List.take (C7*1) (List.drop 0 Dm))]) fun Eh E6=>Ac E6<|Ab Eh fun D8 Ez=>Ae .u64 D8 fun Fu=>Ac Ez<|Aa (wrap .i64 (y4+1)) fun Gt=>Ng fu call a0 a1 a2 a3 a4 (nn) (y0) (y1) Fu (y3) Gt) (some (A5.mk [.sc (.int .u64 y2)] []))):=by kernel_rfl
theorem VP {xs:FuncId->Option (List PV->Option A5)} (fu d:Nat)(a0 a1:Int)(a2 a3 a4:Int):Ad (CX xs) prog fu (d+1) BN [.sc (.int .i64 a0),.sc (.int .i64 a1),.sc (.int .i64 a2),.sc (.int .i64 a3),.sc (.int .u64 a4)]=(fun (call:Af)=>Aa (if 15<a3 then 15 else a3) fun x1=>Aa (if a2<0 then 0 else a2) fun x2=>Ng fu call a0 a1 a2 a3 a4 (fu) (a0) (a1) (a4) x1 x2) (Ad (CX xs) prog fu d):=by kernel_rfl
abbrev Tn:FuncId:=115
theorem FK {xs:FuncId->Option (List PV->Option A5)} (fu d:Nat)(a0 Cg:Int)(Cf Cn:Int)(Aqm Asm:Int)(As0 Ar4:Int)(A23 A3a:Int)(A4m Ax1:Int)(Aya Axx:Int)(Ayd Axu:Int)(Ax9 Aw6 Awz:Int):Ad (CX xs) prog fu (d+1) Tn [.sc (.int .i64 a0),.agg [.sc (.int .u64 Cg),.sc (.int .u64 Cf),.sc (.int .u64 Cn),.sc (.int .u64 Aqm),.sc (.int .u64 Asm),.sc (.int .u64 As0),.sc (.int .u64 Ar4),.sc (.int .u64 A23),.sc (.int .u64 A3a),.sc (.int .u64 A4m),.sc (.int .u64 Ax1),.sc (.int .u64 Aya),.sc (.int .u64 Axx),.sc (.int .u64 Ayd),.sc (.int .u64 Axu),.sc (.int .u64 Ax9),.sc (.int .u64 Aw6),.sc (.int .u64 Awz)]]=(fun (call:Af)=>Aa (wrap .u64 a0) fun x1=>Aj (call 86 [.lst false 1 19 [.sc (.int .u64 x1),.sc (.int .u64 Cg),.sc (.int .u64 Cf),.sc (.int .u64 Cn),.sc (.int .u64 Aqm),.sc (.int .u64 Asm),.sc (.int .u64 As0),.sc (.int .u64 Ar4),.sc (.int .u64 A23),.sc (.int .u64 A3a),.sc (.int .u64 A4m),.sc (.int .u64 Ax1),.sc (.int .u64 Aya),.sc (.int .u64 Axx),.sc (.int .u64 Ayd),.sc (.int .u64 Axu),.sc (.int .u64 Ax9),.sc (.int .u64 Aw6),.sc (.int .u64 Awz)]]) fun x2 x3=>Ac x3<|Ab x2 fun x4 x5=>Gw 1 x4 fun x6 x7=>Ac x5<|Ar (decide (0+x6*1<=x7.length))<|Aj (call 66 [.sc (.int .i64 2),.lst false 1 x6 (List.take (x6*1) (List.drop 0 x7))]) fun x8 x9=>Ac x9<|Ab x8 fun C7 Dm=>Ae .u64 C7 fun Eh=>Ac Dm<|some (A5.mk [.sc (.int .u64 Eh)] [])) (Ad (CX xs) prog fu d):=by kernel_rfl
abbrev Tm:FuncId:=75
noncomputable def Fx (fu:Nat)(call:Af)(a0 a1:Int)(Ld:Nat)(a2:List PV)(nn:Nat)(y0:Int)(y1:Nat)(y2:List PV)(y3 y4:Int)(y5 y6:Int)(y7 y8:Int)(y9 y10:Int)(Fq Gc:Int)(H4 Kn:Int)(J1 Mo:Int)(Ku Mq:Int)(K6 Jk I9:Int)(Nx:List PV):Option A5:=Dh CB prog fu call 75 Tryz.f75 (B7 Tryz.f75) [.sc (.int .i64 a0),.sc (.int .u64 a1),.lst false 1 Ld a2] [.r,.r,.r,.l,.r,.l] nn ⟨lk [(0,(.sc (.int .i64 y0))),(2,(.lst false 1 y1 y2)),(8,(.ptr 8 0)),(15,(.agg [(.sc (.int .i64 y3)),(.sc (.int .i64 y4)),(.sc (.int .i64 y5)),(.sc (.int .i64 y6)),(.sc (.int .i64 y7)),(.sc (.int .i64 y8)),(.sc (.int .i64 y9)),(.sc (.int .i64 y10)),(.sc (.int .i64 Fq)),(.sc (.int .i64 Gc)),(.sc (.int .i64 H4)),(.sc (.int .i64 Kn)),(.sc (.int .i64 J1)),(.sc (.int .i64 Mo)),(.sc (.int .i64 Ku)),(.sc (.int .i64 Mq)),(.sc (.int .i64 K6)),(.sc (.int .i64 Jk))])),(16,(.sc (.int .i64 I9)))],Bu [(8,(.ar false Nx))]⟩
noncomputable def Sb (fu:Nat)(call:Af)(a0 a1:Int)(Ld:Nat)(a2:List PV)(nn:Nat)(y0:Int)(y1:List PV):Option A5:=Dh CB prog fu call 75 Tryz.f75 (B7 Tryz.f75) [.sc (.int .i64 a0),.sc (.int .u64 a1),.lst false 1 Ld a2] [.r,.r,.r] nn ⟨lk [(0,(.sc (.int .i64 y0))),(8,(.ptr 8 0))],Bu [(8,(.ar false y1))]⟩
noncomputable def Rz (fu:Nat)(call:Af)(a0 a1:Int)(Ld:Nat)(a2:List PV)(nn:Nat)(y0 y1:Int):Option A5:=Dh CB prog fu call 75 Tryz.f75 (B7 Tryz.f75) [.sc (.int .i64 a0),.sc (.int .u64 a1),.lst false 1 Ld a2] [.r,.r,.r,.r] nn ⟨lk [(6,(.sc (.int .u64 y0))),(7,(.sc (.int .i64 y1)))],Bu []⟩
theorem Pj (fu:Nat)(call:Af)(a0 a1:Int)(Ld:Nat)(a2:List PV)(nn:Nat)(y0:Int)(y1:Nat)(y2:List PV)(y3 y4:Int)(y5 y6:Int)(y7 y8:Int)(y9 y10:Int)(Fq Gc:Int)(H4 Kn:Int)(J1 Mo:Int)(Ku Mq:Int)(K6 Jk I9:Int)(Nx:List PV):Fx fu call a0 a1 Ld a2 (nn+1) y0 y1 y2 y3 y4 y5 y6 y7 y8 y9 y10 Fq Gc H4 Kn J1 Mo Ku Mq K6 Jk I9 Nx=(Bk (decide (I9<18)) (Ar (decide (0<=I9)&&decide (I9<18)&&true)<|Ae .i64 (List.getD [.sc (.int .i64 y3),.sc (.int .i64 y4),.sc (.int .i64 y5),.sc (.int .i64 y6),.sc (.int .i64 y7),.sc (.int .i64 y8),.sc (.int .i64 y9),.sc (.int .i64 y10),.sc (.int .i64 Fq),.sc (.int .i64 Gc),.sc (.int .i64 H4),.sc (.int .i64 Kn),.sc (.int .i64 J1),.sc (.int .i64 Mo),.sc (.int .i64 Ku),.sc (.int .i64 Mq),.sc (.int .i64 K6),.sc (.int .i64 Jk)] (Int.toNat I9*1) .top) fun AM=>Ar (decide (0<=I9)&&decide (I9<(↑y1:Int)))<|Ae .u64 (List.getD y2 (Int.toNat I9*1) .top) fun BB=>Aj (call 111 [.sc (.int .i64 y0),.sc (.int .i64 I9),.sc (.int .i64 AM),.sc (.int .i64 15),.sc (.int .u64 BB)]) fun DI BJ=>Ac BJ<|Ab DI fun Zw Ya=>Ae .u64 Zw fun Xg=>Ac Ya<|Ar (decide (0<=I9)&&decide (I9<18))<|Ar (decide (0+Int.toNat I9*1+1<=Nx.length))<|Aa (Bq Nx [.sc (.int .u64 Xg)] (0+Int.toNat I9*1)) fun BS=>Aa (wrap .i64 (I9+1)) fun ET=>Fx fu call a0 a1 Ld a2 (nn) (y0) (y1) (y2) (y3) (y4) (y5) (y6) (y7) (y8) (y9) (y10) (Fq) (Gc) (H4) (Kn) (J1) (Mo) (Ku) (Mq) (K6) (Jk) ET BS) (Sb fu call a0 a1 Ld a2 (fu) (y0) (Nx))):=by kernel_rfl
theorem Y1 (fu:Nat)(call:Af)(a0 a1:Int)(Ld:Nat)(a2:List PV)(nn:Nat)(Ko:0<nn)(y0:Int)(y1:List PV):Sb fu call a0 a1 Ld a2 nn y0 y1=(Ae .u64 (List.getD y1 0 .top) fun CH=>Ae .u64 (List.getD y1 1 .top) fun CN=>Ae .u64 (List.getD y1 2 .top) fun CF=>Ae .u64 (List.getD y1 3 .top) fun CO=>Ae .u64 (List.getD y1 4 .top) fun FJ=>Ae .u64 (List.getD y1 5 .top) fun Z9=>Ae .u64 (List.getD y1 6 .top) fun HN=>Ae .u64 (List.getD y1 7 .top) fun LC=>Ae .u64 (List.getD y1 8 .top) fun EG=>Ae .u64 (List.getD y1 9 .top) fun JX=>Ae .u64 (List.getD y1 10 .top) fun OB=>Ae .u64 (List.getD y1 11 .top) fun NB=>Ae .u64 (List.getD y1 12 .top) fun NK=>Ae .u64 (List.getD y1 13 .top) fun QN=>Ae .u64 (List.getD y1 14 .top) fun ZP=>Ae .u64 (List.getD y1 15 .top) fun UB=>Ae .u64 (List.getD y1 16 .top) fun x85=>Ae .u64 (List.getD y1 17 .top) fun VR=>Aj (call 115 [.sc (.int .i64 y0),.agg [.sc (.int .u64 CH),.sc (.int .u64 CN),.sc (.int .u64 CF),.sc (.int .u64 CO),.sc (.int .u64 FJ),.sc (.int .u64 Z9),.sc (.int .u64 HN),.sc (.int .u64 LC),.sc (.int .u64 EG),.sc (.int .u64 JX),.sc (.int .u64 OB),.sc (.int .u64 NB),.sc (.int .u64 NK),.sc (.int .u64 QN),.sc (.int .u64 ZP),.sc (.int .u64 UB),.sc (.int .u64 x85),.sc (.int .u64 VR)]]) fun VO UM=>Ac UM<|Ab VO fun MA YS=>Ae .u64 MA fun UP=>Ac YS<|Rz fu call a0 a1 Ld a2 (fu) UP 0):=by cases nn with|zero=>exact absurd Ko (Nat.lt_irrefl 0)|succ nn=>kernel_rfl
theorem Yi (fu:Nat)(call:Af)(a0 a1:Int)(Ld:Nat)(a2:List PV)(nn:Nat)(Ko:0<nn)(y0 y1:Int):Rz fu call a0 a1 Ld a2 nn y0 y1=(some (A5.mk [.sc (.int .u64 y0),.sc (.int .i64 y1)] [])):=by cases nn with|zero=>exact absurd Ko (Nat.lt_irrefl 0)|succ nn=>kernel_rfl
theorem GK {xs:FuncId->Option (List PV->Option A5)} (fu d:Nat)(a0 a1:Int)(Ld:Nat)(a2:List PV):Ad (CX xs) prog fu (d+1) Tm [.sc (.int .i64 a0),.sc (.int .u64 a1),.lst false 1 Ld a2]=(fun (call:Af)=>Bk ((↑Ld:Int) != 18) (some (A5.mk [.sc (.int .u64 0),.sc (.int .i64 4)] [])) (Aj (call 110 [.sc (.int .u64 a1)]) fun x1 x2=>Ac x2<|Ab x1 fun x3 x4=>Ft x3 fun x5=>Ab x5 fun x6 x7=>Ae .i64 x6 fun x8=>Ab x7 fun x9 C7=>Ae .i64 x9 fun Dm=>Ab C7 fun Eh E6=>Ae .i64 Eh fun D8=>Ab E6 fun Ez Fu=>Ae .i64 Ez fun Gt=>Ab Fu fun G7 Gj=>Ae .i64 G7 fun Gx=>Ab Gj fun Ju H3=>Ae .i64 Ju fun Jd=>Ab H3 fun Fn Ev=>Ae .i64 Fn fun Hz=>Ab Ev fun J3 Gy=>Ae .i64 J3 fun O4=>Ab Gy fun Nu K7=>Ae .i64 Nu fun M4=>Ab K7 fun Oh P1=>Ae .i64 Oh fun Py=>Ab P1 fun Q9 Um=>Ae .i64 Q9 fun Ii=>Ab Um fun Lq Sr=>Ae .i64 Lq fun Xv=>Ab Sr fun Ss Zu=>Ae .i64 Ss fun Y5=>Ab Zu fun Xw Xe=>Ae .i64 Xw fun Xx=>Ab Xe fun X9 X8=>Ae .i64 X9 fun AW=>Ab X8 fun Yu X7=>Ae .i64 Yu fun BF=>Ab X7 fun DR EL=>Ae .i64 DR fun BO=>Ab EL fun DV Yy=>Ae .i64 DV fun EW=>Ac Yy<|Ac x4<|Fx fu call a0 a1 Ld a2 (fu) (a0) (Ld) (a2) x8 Dm D8 Gt Gx Jd Hz O4 M4 Py Ii Xv Y5 Xx AW BF BO EW 0 ([.sc (.int .u64 0),.sc (.int .u64 0),.sc (.int .u64 0),.sc (.int .u64 0),.sc (.int .u64 0),.sc (.int .u64 0),.sc (.int .u64 0),.sc (.int .u64 0),.sc (.int .u64 0),.sc (.int .u64 0),.sc (.int .u64 0),.sc (.int .u64 0),.sc (.int .u64 0),.sc (.int .u64 0),.sc (.int .u64 0),.sc (.int .u64 0),.sc (.int .u64 0),.sc (.int .u64 0)]))) (Ad (CX xs) prog fu d):=by kernel_rfl
abbrev Vx:FuncId:=112
theorem KG {xs:FuncId->Option (List PV->Option A5)} (fu d:Nat)(a0 a1 a2:Int):Ad (CX xs) prog fu (d+1) Vx [.sc (.int .u64 a0),.sc (.int .i64 a1),.sc (.int .i64 a2)]=(fun (call:Af)=>Aa (wrap .u64 a1) fun x1=>Aa (wrap .u64 a2) fun x2=>Aj (call 86 [.lst false 1 2 [.sc (.int .u64 x1),.sc (.int .u64 x2)]]) fun x3 x4=>Ac x4<|Ab x3 fun x5 x6=>Gw 1 x5 fun x7 x8=>Ac x6<|Ar (decide (0+x7*1<=x8.length))<|Aj (call 137 [.sc (.int .u64 a0),.sc (.int .i64 1),.lst false 1 x7 (List.take (x7*1) (List.drop 0 x8))]) fun x9 C7=>Ac C7<|Ab x9 fun Dm Eh=>Ae .u64 Dm fun E6=>Ac Eh<|some (A5.mk [.sc (.int .u64 E6)] [])) (Ad (CX xs) prog fu d):=by kernel_rfl
abbrev Ow:FuncId:=114
noncomputable def Gd (fu:Nat)(call:Af)(a0 a1:Int)(nn:Nat)(y0 y1 y2:Int)(y3:List PV):Option A5:=Dh CB prog fu call 114 Tryz.f114 (B7 Tryz.f114) [.sc (.int .u64 a0),.sc (.int .i64 a1)] [.r,.r,.l,.r,.l] nn ⟨lk [(0,(.sc (.int .u64 y0))),(1,(.sc (.int .i64 y1))),(5,(.ptr 5 0)),(7,(.sc (.int .i64 y2)))],Bu [(5,(.ar false y3))]⟩
noncomputable def S6 (fu:Nat)(call:Af)(a0 a1:Int)(nn:Nat)(y0:Int)(y1:List PV):Option A5:=Dh CB prog fu call 114 Tryz.f114 (B7 Tryz.f114) [.sc (.int .u64 a0),.sc (.int .i64 a1)] [.r,.r] nn ⟨lk [(1,(.sc (.int .i64 y0))),(5,(.ptr 5 0))],Bu [(5,(.ar false y1))]⟩
noncomputable def Ti (fu:Nat)(call:Af)(a0 a1:Int)(nn:Nat)(y0:Int):Option A5:=Dh CB prog fu call 114 Tryz.f114 (B7 Tryz.f114) [.sc (.int .u64 a0),.sc (.int .i64 a1)] [.r,.r,.r] nn ⟨lk [(4,(.sc (.int .u64 y0)))],Bu []⟩
theorem Qh (fu:Nat)(call:Af)(a0 a1:Int)(nn:Nat)(y0 y1 y2:Int)(y3:List PV):Gd fu call a0 a1 (nn+1) y0 y1 y2 y3=(Bk (decide (y2<18)) (Aj (call 112 [.sc (.int .u64 y0),.sc (.int .i64 y1),.sc (.int .i64 y2)]) fun x1 x2=>Ac x2<|Ab x1 fun x3 x4=>Ae .u64 x3 fun x5=>Ac x4<|Aj (call 111 [.sc (.int .i64 y1),.sc (.int .i64 y2),.sc (.int .i64 0),.sc (.int .i64 15),.sc (.int .u64 x5)]) fun x6 x7=>Ac x7<|Ab x6 fun x8 x9=>Ae .u64 x8 fun C7=>Ac x9<|Ar (decide (0<=y2)&&decide (y2<18))<|Ar (decide (0+Int.toNat y2*1+1<=y3.length))<|Aa (Bq y3 [.sc (.int .u64 C7)] (0+Int.toNat y2*1)) fun Dm=>Aa (wrap .i64 (y2+1)) fun Eh=>Gd fu call a0 a1 (nn) (y0) (y1) Eh Dm) (S6 fu call a0 a1 (fu) (y1) (y3))):=by kernel_rfl
theorem AX (fu:Nat)(call:Af)(a0 a1:Int)(nn:Nat)(Ko:0<nn)(y0:Int)(y1:List PV):S6 fu call a0 a1 nn y0 y1=(Ae .u64 (List.getD y1 0 .top) fun E6=>Ae .u64 (List.getD y1 1 .top) fun D8=>Ae .u64 (List.getD y1 2 .top) fun Ez=>Ae .u64 (List.getD y1 3 .top) fun Fu=>Ae .u64 (List.getD y1 4 .top) fun Gt=>Ae .u64 (List.getD y1 5 .top) fun G7=>Ae .u64 (List.getD y1 6 .top) fun Gj=>Ae .u64 (List.getD y1 7 .top) fun Gx=>Ae .u64 (List.getD y1 8 .top) fun Ju=>Ae .u64 (List.getD y1 9 .top) fun H3=>Ae .u64 (List.getD y1 10 .top) fun Jd=>Ae .u64 (List.getD y1 11 .top) fun Fn=>Ae .u64 (List.getD y1 12 .top) fun Ev=>Ae .u64 (List.getD y1 13 .top) fun Hz=>Ae .u64 (List.getD y1 14 .top) fun J3=>Ae .u64 (List.getD y1 15 .top) fun Gy=>Ae .u64 (List.getD y1 16 .top) fun O4=>Ae .u64 (List.getD y1 17 .top) fun Nu=>Aj (call 115 [.sc (.int .i64 y0),.agg [.sc (.int .u64 E6),.sc (.int .u64 D8),.sc (.int .u64 Ez),.sc (.int .u64 Fu),.sc (.int .u64 Gt),.sc (.int .u64 G7),.sc (.int .u64 Gj),.sc (.int .u64 Gx),.sc (.int .u64 Ju),.sc (.int .u64 H3),.sc (.int .u64 Jd),.sc (.int .u64 Fn),.sc (.int .u64 Ev),.sc (.int .u64 Hz),.sc (.int .u64 J3),.sc (.int .u64 Gy),.sc (.int .u64 O4),.sc (.int .u64 Nu)]]) fun K7 M4=>Ac M4<|Ab K7 fun Oh P1=>Ae .u64 Oh fun Py=>Ac P1<|Ti fu call a0 a1 (fu) Py):=by cases nn with|zero=>exact absurd Ko (Nat.lt_irrefl 0)|succ nn=>kernel_rfl
theorem BD (fu:Nat)(call:Af)(a0 a1:Int)(nn:Nat)(Ko:0<nn)(y0:Int):Ti fu call a0 a1 nn y0=(some (A5.mk [.sc (.int .u64 y0)] [])):=by cases nn with|zero=>exact absurd Ko (Nat.lt_irrefl 0)|succ nn=>kernel_rfl
theorem KD {xs:FuncId->Option (List PV->Option A5)} (fu d:Nat)(a0 a1:Int):Ad (CX xs) prog fu (d+1) Ow [.sc (.int .u64 a0),.sc (.int .i64 a1)]=(fun (call:Af)=>Gd fu call a0 a1 (fu) (a0) (a1) 0 ([.sc (.int .u64 0),.sc (.int .u64 0),.sc (.int .u64 0),.sc (.int .u64 0),.sc (.int .u64 0),.sc (.int .u64 0),.sc (.int .u64 0),.sc (.int .u64 0),.sc (.int .u64 0),.sc (.int .u64 0),.sc (.int .u64 0),.sc (.int .u64 0),.sc (.int .u64 0),.sc (.int .u64 0),.sc (.int .u64 0),.sc (.int .u64 0),.sc (.int .u64 0),.sc (.int .u64 0)])) (Ad (CX xs) prog fu d):=by kernel_rfl
abbrev Rg:FuncId:=69
noncomputable def Lt (fu:Nat)(call:Af)(a0 a1 a2:Int)(nn:Nat)(y0 y1:Int)(y2 y3:Int)(y4 y5:Int)(y6 y7:Int)(y8 y9:Int)(y10 Fq:Int)(Gc H4:Int)(Kn J1:Int)(Mo Ku:Int)(Mq K6 Jk:Int)(I9:List PV):Option A5:=Dh CB prog fu call 69 Tryz.f69 (B7 Tryz.f69) [.sc (.int .u64 a0),.sc (.int .i64 a1),.sc (.int .u64 a2)] [.r,.r,.l,.r,.l] nn ⟨lk [(0,(.sc (.int .u64 y0))),(1,(.sc (.int .i64 y1))),(7,(.ptr 7 0)),(11,(.agg [(.sc (.int .i64 y2)),(.sc (.int .i64 y3)),(.sc (.int .i64 y4)),(.sc (.int .i64 y5)),(.sc (.int .i64 y6)),(.sc (.int .i64 y7)),(.sc (.int .i64 y8)),(.sc (.int .i64 y9)),(.sc (.int .i64 y10)),(.sc (.int .i64 Fq)),(.sc (.int .i64 Gc)),(.sc (.int .i64 H4)),(.sc (.int .i64 Kn)),(.sc (.int .i64 J1)),(.sc (.int .i64 Mo)),(.sc (.int .i64 Ku)),(.sc (.int .i64 Mq)),(.sc (.int .i64 K6))])),(12,(.sc (.int .i64 Jk)))],Bu [(7,(.ar false I9))]⟩
theorem S4 (fu:Nat)(call:Af)(a0 a1 a2:Int)(nn:Nat)(y0 y1:Int)(y2 y3:Int)(y4 y5:Int)(y6 y7:Int)(y8 y9:Int)(y10 Fq:Int)(Gc H4:Int)(Kn J1:Int)(Mo Ku:Int)(Mq K6 Jk:Int)(I9:List PV):Lt fu call a0 a1 a2 (nn+1) y0 y1 y2 y3 y4 y5 y6 y7 y8 y9 y10 Fq Gc H4 Kn J1 Mo Ku Mq K6 Jk I9=(Bk (decide (Jk<18)) (Ar (decide (0<=Jk)&&decide (Jk<18)&&true)<|Ae .i64 (List.getD [.sc (.int .i64 y2),.sc (.int .i64 y3),.sc (.int .i64 y4),.sc (.int .i64 y5),.sc (.int .i64 y6),.sc (.int .i64 y7),.sc (.int .i64 y8),.sc (.int .i64 y9),.sc (.int .i64 y10),.sc (.int .i64 Fq),.sc (.int .i64 Gc),.sc (.int .i64 H4),.sc (.int .i64 Kn),.sc (.int .i64 J1),.sc (.int .i64 Mo),.sc (.int .i64 Ku),.sc (.int .i64 Mq),.sc (.int .i64 K6)] (Int.toNat Jk*1) .top) fun AM=>Aj (call 112 [.sc (.int .u64 y0),.sc (.int .i64 y1),.sc (.int .i64 Jk)]) fun BB DI=>Ac DI<|Ab BB fun BJ Zw=>Ae .u64 BJ fun Ya=>Ac Zw<|Aj (call 111 [.sc (.int .i64 y1),.sc (.int .i64 Jk),.sc (.int .i64 0),.sc (.int .i64 AM),.sc (.int .u64 Ya)]) fun Xg BS=>Ac BS<|Ab Xg fun ET CH=>Ae .u64 ET fun CN=>Ac CH<|Ar (decide (0<=Jk)&&decide (Jk<18))<|Ar (decide (0+Int.toNat Jk*1+1<=I9.length))<|Aa (Bq I9 [.sc (.int .u64 CN)] (0+Int.toNat Jk*1)) fun CF=>Aa (wrap .i64 (Jk+1)) fun CO=>Lt fu call a0 a1 a2 (nn) (y0) (y1) (y2) (y3) (y4) (y5) (y6) (y7) (y8) (y9) (y10) (Fq) (Gc) (H4) (Kn) (J1) (Mo) (Ku) (Mq) (K6) CO CF) (Ar (decide (18<=I9.length))<|Ar (decide (18<=I9.length))<|some (A5.mk [.own 1 18 (List.take 18 I9)] []))):=by kernel_rfl
theorem QK {xs:FuncId->Option (List PV->Option A5)} (fu d:Nat)(a0 a1 a2:Int):Ad (CX xs) prog fu (d+1) Rg [.sc (.int .u64 a0),.sc (.int .i64 a1),.sc (.int .u64 a2)]=(fun (call:Af)=>Aj (call 110 [.sc (.int .u64 a2)]) fun x1 x2=>Ac x2<|Ab x1 fun x3 x4=>Ft x3 fun x5=>Ab x5 fun x6 x7=>Ae .i64 x6 fun x8=>Ab x7 fun x9 C7=>Ae .i64 x9 fun Dm=>Ab C7 fun Eh E6=>Ae .i64 Eh fun D8=>Ab E6 fun Ez Fu=>Ae .i64 Ez fun Gt=>Ab Fu fun G7 Gj=>Ae .i64 G7 fun Gx=>Ab Gj fun Ju H3=>Ae .i64 Ju fun Jd=>Ab H3 fun Fn Ev=>Ae .i64 Fn fun Hz=>Ab Ev fun J3 Gy=>Ae .i64 J3 fun O4=>Ab Gy fun Nu K7=>Ae .i64 Nu fun M4=>Ab K7 fun Oh P1=>Ae .i64 Oh fun Py=>Ab P1 fun Q9 Um=>Ae .i64 Q9 fun Ii=>Ab Um fun Lq Sr=>Ae .i64 Lq fun Xv=>Ab Sr fun Ss Zu=>Ae .i64 Ss fun Y5=>Ab Zu fun Xw Xe=>Ae .i64 Xw fun Xx=>Ab Xe fun X9 X8=>Ae .i64 X9 fun AW=>Ab X8 fun Yu X7=>Ae .i64 Yu fun BF=>Ab X7 fun DR EL=>Ae .i64 DR fun BO=>Ab EL fun DV Yy=>Ae .i64 DV fun EW=>Ac Yy<|Ac x4<|Lt fu call a0 a1 a2 (fu) (a0) (a1) x8 Dm D8 Gt Gx Jd Hz O4 M4 Py Ii Xv Y5 Xx AW BF BO EW 0 ([.sc (.int .u64 0),.sc (.int .u64 0),.sc (.int .u64 0),.sc (.int .u64 0),.sc (.int .u64 0),.sc (.int .u64 0),.sc (.int .u64 0),.sc (.int .u64 0),.sc (.int .u64 0),.sc (.int .u64 0),.sc (.int .u64 0),.sc (.int .u64 0),.sc (.int .u64 0),.sc (.int .u64 0),.sc (.int .u64 0),.sc (.int .u64 0),.sc (.int .u64 0),.sc (.int .u64 0)])) (Ad (CX xs) prog fu d):=by kernel_rfl
abbrev Nq:FuncId:=67
theorem RL {xs:FuncId->Option (List PV->Option A5)} (fu d:Nat)(a0:Int):Ad (CX xs) prog fu (d+1) Nq [.sc (.int .i64 a0)]=(fun (call:Af)=>Bk (decide (a0<0)) (some (A5.mk [.sc (.bool true)] [])) (some (A5.mk [.sc (.bool (decide (a0>4)))] []))) (Ad (CX xs) prog fu d):=by kernel_rfl
abbrev Js:FuncId:=68
theorem HD {xs:FuncId->Option (List PV->Option A5)} (fu d:Nat)(a0 a1:Int):Ad (CX xs) prog fu (d+1) Js [.sc (.int .i64 a0),.sc (.int .i64 a1)]=(fun (call:Af)=>Bk (decide (a0<0)) (some (A5.mk [.sc (.bool true)] [])) (Ar (decide (0<=a1))<|Aa (J0 .i64 1 a1) fun x1=>some (A5.mk [.sc (.bool (decide (a0>=x1)))] []))) (Ad (CX xs) prog fu d):=by kernel_rfl
abbrev Xa:FuncId:=92
noncomputable def Ig (fu:Nat)(call:Af)(Be:Nat)(a0:List PV)(nn y0:Nat)(y1:List PV)(y2:Nat)(y3 y4:Int)(y5:List PV):Option A5:=Dh CB prog fu call 92 Tryz.f92 (B7 Tryz.f92) [.lst false 1 Be a0] [.r,.r,.l,.r,.l] nn ⟨lk [(0,(.lst false 1 y0 y1)),(3,(.view 3 1 0 y2)),(12,(.sc (.int .i64 y3))),(13,(.sc (.int .i64 y4)))],Bu [(3,(.ar false y5))]⟩
noncomputable def Kq (fu:Nat)(call:Af)(Be:Nat)(a0:List PV)(m0 nn y0:Nat)(y1:List PV)(y2:Nat)(y3 y4 y5:Int)(y6:Nat)(y7:List PV)(y8 y9:Int)(y10:List PV):Option A5:=Dh CB prog fu call 92 Tryz.f92 (B7 Tryz.f92) [.lst false 1 Be a0] [.r,.r,.l,.r,.l,.i m0,.r,.r,.l,.l,.r,.r,.l] nn ⟨lk [(0,(.lst false 1 y0 y1)),(3,(.view 3 1 0 y2)),(4,(.sc (.int .i64 y3))),(12,(.sc (.int .i64 y4))),(13,(.sc (.int .i64 y5))),(22,(.lst false 1 y6 y7)),(23,(.sc (.int .i64 y8))),(24,(.sc (.int .i64 y9)))],Bu [(3,(.ar false y10))]⟩
theorem R8 (fu:Nat)(call:Af)(Be:Nat)(a0:List PV)(nn y0:Nat)(y1:List PV)(y2:Nat)(y3 y4:Int)(y5:List PV):Ig fu call Be a0 (nn+1) y0 y1 y2 y3 y4 y5=(Bk (decide (y4<y3)) (Aa (wrap .i64 (8*y4)) fun x2=>Aa (wrap .i64 (8*y4)) fun x3=>Aa (wrap .i64 (x3+8)) fun x4=>Ar (decide (0<=x2))<|Ar (decide (0<=x4))<|Ar (decide (Int.toNat x2<=Int.toNat x4)&&decide (Int.toNat x4<=y0))<|Aa (Int.toNat x4-Int.toNat x2) fun x5=>Aa (List.take (x5*1) (List.drop (Int.toNat x2*1) y1)) fun x6=>Kq fu call Be a0 nn (fu) (y0) (y1) (y2) (y4) (y3) (y4) x5 x6 ((↑x5:Int)) 0 (y5)) (Ar (decide (y2*1<=y5.length))<|some (A5.mk [.own 1 y2 (List.take (y2*1) y5)] []))):=by kernel_rfl
theorem Rh (fu:Nat)(call:Af)(Be:Nat)(a0:List PV)(m0 nn y0:Nat)(y1:List PV)(y2:Nat)(y3 y4 y5:Int)(y6:Nat)(y7:List PV)(y8 y9:Int)(y10:List PV):Kq fu call Be a0 m0 (nn+1) y0 y1 y2 y3 y4 y5 y6 y7 y8 y9 y10=(Bk (decide (y9<y8)) (Ar (decide (0<=y9)&&decide (y9<(↑y6:Int)))<|Ae .u8 (List.getD y7 (Int.toNat y9*1) .top) fun x7=>Ar (decide (0<=y3)&&decide (y3<(↑y2:Int)))<|Ae .u64 (List.getD y10 (0+Int.toNat y3*1) .top) fun x8=>Aa (J0 .u64 x8 8) fun x9=>Aa (wrap .u64 x7) fun C7=>Aa (YE .u64 x9 C7) fun Dm=>Ar (decide (0<=y3)&&decide (y3<(↑y2:Int)))<|Ar (decide (0+Int.toNat y3*1+1<=y10.length))<|Aa (Bq y10 [.sc (.int .u64 Dm)] (0+Int.toNat y3*1)) fun Eh=>Aa (wrap .i64 (y9+1)) fun E6=>Kq fu call Be a0 m0 (nn) (y0) (y1) (y2) (y3) (y4) (y5) (y6) (y7) (y8) E6 Eh) (Aa (wrap .i64 (y5+1)) fun D8=>Ig fu call Be a0 (m0) (y0) (y1) (y2) (y4) D8 (y10))):=by kernel_rfl
theorem NA {xs:FuncId->Option (List PV->Option A5)} (fu d Be:Nat)(a0:List PV):Ad (CX xs) prog fu (d+1) Xa [.lst false 1 Be a0]=(fun (call:Af)=>Aa (wrap .i64 (Int.tdiv (↑Be:Int) 8)) fun x1=>Ar (decide (0<=x1)&&decide (x1<=x1)&&decide (x1*8<=1099511627776)&&decide (x1<=1099511627776))<|Ig fu call Be a0 (fu) (Be) (a0) x1.toNat ((↑x1.toNat:Int)) 0 (Vr x1.toNat [.sc (.int .u64 0)])) (Ad (CX xs) prog fu d):=by kernel_rfl
abbrev Ox:FuncId:=76
theorem JD {xs:FuncId->Option (List PV->Option A5)} (fu d:Nat)(a0 a1 a2:Int):Ad (CX xs) prog fu (d+1) Ox [.sc (.int .i64 a0),.sc (.int .u64 a1),.sc (.int .u64 a2)]=(fun (call:Af)=>Aa (wrap .u64 a0) fun x1=>Aj (call 86 [.lst false 1 3 [.sc (.int .u64 x1),.sc (.int .u64 a1),.sc (.int .u64 a2)]]) fun x2 x3=>Ac x3<|Ab x2 fun x4 x5=>Gw 1 x4 fun x6 x7=>Ac x5<|Ar (decide (0+x6*1<=x7.length))<|Aj (call 66 [.sc (.int .i64 3),.lst false 1 x6 (List.take (x6*1) (List.drop 0 x7))]) fun x8 x9=>Ac x9<|Ab x8 fun C7 Dm=>Ae .u64 C7 fun Eh=>Ac Dm<|some (A5.mk [.sc (.int .u64 Eh)] [])) (Ad (CX xs) prog fu d):=by kernel_rfl
abbrev Qa:FuncId:=129
theorem AL {xs:FuncId->Option (List PV->Option A5)} (fu d:Nat)(Ak Al:Int):Ad (CX xs) prog fu (d+1) Qa [.agg [.sc (.int .i64 Ak),.sc (.int .u64 Al)]]=(fun (call:Af)=>Aj (call 67 [.sc (.int .i64 Ak)]) fun x1 x2=>Ac x2<|Ab x1 fun x3 x4=>Bv x3 fun x5=>Ac x4<|Bk x5 (some (A5.mk [.own 1 0 [],.sc (.int .i64 9)] [])) (Aa (wrap .u8 Ak) fun x6=>Aj (call 86 [.lst false 1 1 [.sc (.int .u64 Al)]]) fun x7 x8=>Ac x8<|Ab x7 fun x9 C7=>Gw 1 x9 fun Dm Eh=>Ac C7<|Ar (decide (0+Dm*1<=Eh.length))<|Ar (decide (List.length (List.take (Dm*1) (List.drop 0 Eh))=Dm*1)&&decide ((1+Dm)*1<=1099511627776)&&decide (1+Dm<=1099511627776))<|Aa (1+Dm) fun E6=>Aa ([.sc (.int .u8 x6)]++List.take (Dm*1) (List.drop 0 Eh)) fun D8=>Ar (decide (E6*1<=D8.length))<|some (A5.mk [.own 1 E6 (List.take (E6*1) D8),.sc (.int .i64 0)] []))) (Ad (CX xs) prog fu d):=by kernel_rfl
abbrev Qm:FuncId:=125
theorem BH {xs:FuncId->Option (List PV->Option A5)} (fu d Be:Nat)(a0:List PV):Ad (CX xs) prog fu (d+1) Qm [.lst false 1 Be a0]=(fun (call:Af)=>Bk ((↑Be:Int) != 9) (some (A5.mk [.agg [.sc (.int .i64 0),.sc (.int .u64 0)],.sc (.int .i64 2)] [])) (Ar (decide (0<(↑Be:Int)))<|Ae .u8 (List.getD a0 0 .top) fun x1=>Aa (wrap .i64 x1) fun x2=>Aj (call 67 [.sc (.int .i64 x2)]) fun x3 x4=>Ac x4<|Ab x3 fun x5 x6=>Bv x5 fun x7=>Ac x6<|Bk x7 (some (A5.mk [.agg [.sc (.int .i64 0),.sc (.int .u64 0)],.sc (.int .i64 2)] [])) (Ar (decide (0<(↑Be:Int)))<|Ae .u8 (List.getD a0 0 .top) fun x8=>Aa (wrap .i64 x8) fun x9=>Ar (decide (1<=Be)&&decide (Be<=Be))<|Aa (Be-1) fun C7=>Aa (List.take (C7*1) (List.drop 1 a0)) fun Dm=>Aj (call 92 [.lst false 1 C7 Dm]) fun Eh E6=>Ac E6<|Ab Eh fun D8 Ez=>Gw 1 D8 fun Fu Gt=>Ac Ez<|Ar (decide (0<(↑Fu:Int)))<|Ae .u64 (List.getD Gt 0 .top) fun G7=>some (A5.mk [.agg [.sc (.int .i64 x9),.sc (.int .u64 G7)],.sc (.int .i64 0)] [])))) (Ad (CX xs) prog fu d):=by kernel_rfl
abbrev Kx:FuncId:=46
theorem Sv {xs:FuncId->Option (List PV->Option A5)} (fu d:Nat)(Ak:Int)(Cd:Nat)(Al:List PV)(Bp:Nat)(Bd:List PV):Ad (CX xs) prog fu (d+1) Kx [.agg [.sc (.int .i64 Ak),.lst false 1 Cd Al,.lst false 1 Bp Bd]]=(fun (call:Af)=>Aj (call 67 [.sc (.int .i64 (↑Bp:Int))]) fun x1 x2=>Ac x2<|Ab x1 fun x3 x4=>Bv x3 fun x5=>Ac x4<|Bk x5 (some (A5.mk [.own 1 0 [],.sc (.int .i64 9)] [])) (Aj (call 68 [.sc (.int .i64 Ak),.sc (.int .i64 (↑Bp:Int))]) fun x6 x7=>Ac x7<|Ab x6 fun x8 x9=>Bv x8 fun C7=>Ac x9<|Bk C7 (some (A5.mk [.own 1 0 [],.sc (.int .i64 9)] [])) (Bk ((↑Cd:Int) != 18) (some (A5.mk [.own 1 0 [],.sc (.int .i64 4)] [])) (Aa (wrap .u8 Ak) fun Dm=>Aa (wrap .u8 (↑Bp:Int)) fun Eh=>Aj (call 86 [.lst false 1 Cd Al]) fun E6 D8=>Ac D8<|Ab E6 fun Ez Fu=>Gw 1 Ez fun Gt G7=>Ac Fu<|Ar (decide (0+Gt*1<=G7.length))<|Ar (decide (List.length (List.take (Gt*1) (List.drop 0 G7))=Gt*1)&&decide ((2+Gt)*1<=1099511627776)&&decide (2+Gt<=1099511627776))<|Aa (2+Gt) fun Gj=>Aa ([.sc (.int .u8 Dm),.sc (.int .u8 Eh)]++List.take (Gt*1) (List.drop 0 G7)) fun Gx=>Aj (call 86 [.lst false 1 Bp Bd]) fun Ju H3=>Ac H3<|Ab Ju fun Jd Fn=>Gw 1 Jd fun Ev Hz=>Ac Fn<|Ar (decide (0+Ev*1<=Hz.length))<|Ar (decide (Gj*1<=Gx.length)&&decide (List.length (List.take (Ev*1) (List.drop 0 Hz))=Ev*1)&&decide ((Gj+Ev)*1<=1099511627776)&&decide (Gj+Ev<=1099511627776))<|Aa (Gj+Ev) fun J3=>Aa (List.take (Gj*1) Gx++List.take (Ev*1) (List.drop 0 Hz)) fun Gy=>Ar (decide (J3*1<=Gy.length))<|some (A5.mk [.own 1 J3 (List.take (J3*1) Gy),.sc (.int .i64 0)] []))))) (Ad (CX xs) prog fu d):=by kernel_rfl
abbrev Kw:FuncId:=49
theorem Sz {xs:FuncId->Option (List PV->Option A5)} (fu d Be:Nat)(a0:List PV):Ad (CX xs) prog fu (d+1) Kw [.lst false 1 Be a0]=(fun (call:Af)=>Bk (decide ((↑Be:Int)<2)) (some (A5.mk [.agg [.sc (.int .i64 0),.own 1 0 [],.own 1 0 []],.sc (.int .i64 2)] [])) (Ar (decide (0<(↑Be:Int)))<|Ae .u8 (List.getD a0 0 .top) fun x1=>Aa (wrap .i64 x1) fun x2=>Ar (decide (1<(↑Be:Int)))<|Ae .u8 (List.getD a0 1 .top) fun x3=>Aa (wrap .i64 x3) fun x4=>Aj (call 67 [.sc (.int .i64 x4)]) fun x5 x6=>Ac x6<|Ab x5 fun x7 x8=>Bv x7 fun x9=>Ac x8<|Bk x9 (some (A5.mk [.agg [.sc (.int .i64 0),.own 1 0 [],.own 1 0 []],.sc (.int .i64 2)] [])) (Aj (call 68 [.sc (.int .i64 x2),.sc (.int .i64 x4)]) fun C7 Dm=>Ac Dm<|Ab C7 fun Eh E6=>Bv Eh fun D8=>Ac E6<|Bk D8 (some (A5.mk [.agg [.sc (.int .i64 0),.own 1 0 [],.own 1 0 []],.sc (.int .i64 2)] [])) (Aa (wrap .i64 (18+x4)) fun Ez=>Aa (wrap .i64 (8*Ez)) fun Fu=>Aa (wrap .i64 (2+Fu)) fun Gt=>Bk ((↑Be:Int) != Gt) (some (A5.mk [.agg [.sc (.int .i64 0),.own 1 0 [],.own 1 0 []],.sc (.int .i64 2)] [])) (Ar (decide (146<=Be))<|Aa (List.take 144 (List.drop 2 a0)) fun G7=>Aj (call 92 [.lst false 1 144 G7]) fun Gj Gx=>Ac Gx<|Ab Gj fun Ju H3=>Gw 1 Ju fun Jd Fn=>Ac H3<|Ar (decide (146<=Be)&&decide (Be<=Be))<|Aa (Be-146) fun Ev=>Aa (List.take (Ev*1) (List.drop 146 a0)) fun Hz=>Aj (call 92 [.lst false 1 Ev Hz]) fun J3 Gy=>Ac Gy<|Ab J3 fun O4 Nu=>Gw 1 O4 fun K7 M4=>Ac Nu<|Ar (decide (Jd*1<=Fn.length))<|Ar (decide (K7*1<=M4.length))<|some (A5.mk [.agg [.sc (.int .i64 x2),.own 1 Jd (List.take (Jd*1) Fn),.own 1 K7 (List.take (K7*1) M4)],.sc (.int .i64 0)] [])))))) (Ad (CX xs) prog fu d):=by kernel_rfl
abbrev Uu:FuncId:=40
noncomputable def Hl (fu:Nat)(call:Af)(Ak Al:Int)(a1 GI:Int)(Zn:Nat)(IV:List PV)(Xp:Nat)(UN:List PV)(nn:Nat)(y0:Int)(y1:Nat)(y2:List PV)(y3 y4:Int)(y5 y6 y7:Int)(y8:Nat)(y9:List PV)(y10:Nat)(Fq:List PV):Option A5:=Dh CB prog fu call 40 Tryz.f40 (B7 Tryz.f40) [.agg [.sc (.int .i64 Ak),.sc (.int .u64 Al)],.sc (.int .u64 a1),.agg [.sc (.int .i64 GI),.lst false 1 Zn IV,.lst false 1 Xp UN]] [.r,.r,.r,.r,.r,.l,.r,.l] nn ⟨lk [(3,(.ptr 3 0)),(5,(.ptr 5 0)),(7,(.sc (.int .u64 y0))),(46,(.lst false 1 y1 y2)),(47,(.sc (.int .i64 y3))),(48,(.sc (.int .i64 y4)))],Bu [(3,(.st [(.sc (.int .i64 y5)),(.sc (.int .u64 y6))])),(5,(.st [(.sc (.int .i64 y7)),(.lst false 1 y8 y9),(.lst false 1 y10 Fq)]))]⟩
theorem Qg (fu:Nat)(call:Af)(Ak Al:Int)(a1 GI:Int)(Zn:Nat)(IV:List PV)(Xp:Nat)(UN:List PV)(nn:Nat)(y0:Int)(y1:Nat)(y2:List PV)(y3 y4:Int)(y5 y6 y7:Int)(y8:Nat)(y9:List PV)(y10:Nat)(Fq:List PV):Hl fu call Ak Al a1 GI Zn IV Xp UN (nn+1) y0 y1 y2 y3 y4 y5 y6 y7 y8 y9 y10 Fq=(Bk (decide (y4<y3)) (Ar (decide (0<=y4)&&decide (y4<(↑y1:Int)))<|Ae .u64 (List.getD y2 (Int.toNat y4*1) .top) fun Gj=>Ar (decide (0<=y4))<|Aa (Is .i64 y7 y4) fun Gx=>Aa (X3 .i64 Gx 1) fun Ju=>Bk (Ju==0) (Aa (wrap .i64 (y4+1)) fun H3=>Aj (call 76 [.sc (.int .i64 H3),.sc (.int .u64 y0),.sc (.int .u64 Gj)]) fun Jd Fn=>Ac Fn<|Ab Jd fun Ev Hz=>Ae .u64 Ev fun J3=>Ac Hz<|Aa (wrap .i64 (y4+1)) fun Gy=>Hl fu call Ak Al a1 GI Zn IV Xp UN (nn) J3 (y1) (y2) (y3) Gy (y5) (y6) (y7) (y8) (y9) (y10) (Fq)) (Aa (wrap .i64 (y4+1)) fun O4=>Aj (call 76 [.sc (.int .i64 O4),.sc (.int .u64 Gj),.sc (.int .u64 y0)]) fun Nu K7=>Ac K7<|Ab Nu fun M4 Oh=>Ae .u64 M4 fun P1=>Ac Oh<|Aa (wrap .i64 (y4+1)) fun Py=>Hl fu call Ak Al a1 GI Zn IV Xp UN (nn) P1 (y1) (y2) (y3) Py (y5) (y6) (y7) (y8) (y9) (y10) (Fq))) (Bk (y0 != y6) (some (A5.mk [.sc (.int .i64 15)] [])) (some (A5.mk [.sc (.int .i64 0)] [])))):=by kernel_rfl
theorem JE {xs:FuncId->Option (List PV->Option A5)} (fu d:Nat)(Ak Al:Int)(a1 GI:Int)(Zn:Nat)(IV:List PV)(Xp:Nat)(UN:List PV):Ad (CX xs) prog fu (d+1) Uu [.agg [.sc (.int .i64 Ak),.sc (.int .u64 Al)],.sc (.int .u64 a1),.agg [.sc (.int .i64 GI),.lst false 1 Zn IV,.lst false 1 Xp UN]]=(fun (call:Af)=>Aj (call 67 [.sc (.int .i64 Ak)]) fun x1 x2=>Ac x2<|Ab x1 fun x3 x4=>Bv x3 fun x5=>Ac x4<|Bk x5 (some (A5.mk [.sc (.int .i64 9)] [])) (Aj (call 68 [.sc (.int .i64 GI),.sc (.int .i64 Ak)]) fun x6 x7=>Ac x7<|Ab x6 fun x8 x9=>Bv x8 fun C7=>Ac x9<|Bk C7 (some (A5.mk [.sc (.int .i64 9)] [])) (Bk ((↑Zn:Int) != 18) (some (A5.mk [.sc (.int .i64 4)] [])) (Bk ((↑Xp:Int) != Ak) (some (A5.mk [.sc (.int .i64 4)] [])) (Aj (call 75 [.sc (.int .i64 GI),.sc (.int .u64 a1),.lst false 1 Zn IV]) fun Dm Eh=>Ac Eh<|Ab Dm fun E6 D8=>Ae .u64 E6 fun Ez=>Ab D8 fun Fu Gt=>Ae .i64 Fu fun G7=>Ac Gt<|Bk (G7 != 0) (some (A5.mk [.sc (.int .i64 G7)] [])) (Hl fu call Ak Al a1 GI Zn IV Xp UN (fu) Ez (Xp) (UN) ((↑Xp:Int)) 0 (Ak) (Al) (GI) (Zn) (IV) (Xp) (UN))))))) (Ad (CX xs) prog fu d):=by kernel_rfl
end
section
open Go.IntKind (wrap)
theorem A00 {a m:Int}(h0:0<=m)(h1:m<=18446744073709551615):0<=X3 .u64 a m∧X3 .u64 a m<=m:=by
 have AK:(BitVec.ofInt 64 a &&& BitVec.ofInt 64 m).toNat<=m.toNat:=by
  rw[BitVec.toNat_and];refine Nat.le_trans Nat.and_le_right ?_;rw[BitVec.toNat_ofInt];omega
 have:X3 .u64 a m=((BitVec.ofInt 64 a &&& BitVec.ofInt 64 m).toNat:Int):=by
  unfold X3;exact D7 (by omega) (by show ((BitVec.ofInt 64 a &&& BitVec.ofInt 64 m).toNat:Int)<=_;omega)
 rw[this];omega
theorem M5 (k:IntKind)(l:List Int)(i:Nat)(x:Int):(Ah k l).set i (.sc (.int k x))=Ah k (l.set i x):=by
 induction l generalizing i with
 |nil=>rfl
 |cons a l ih=>
  cases i with
  |zero=>rfl
  |succ i=>
   show (PV.sc (.int k a)::Ah k l).set (i+1) _=PV.sc (.int k a)::Ah k (l.set i x);rw[List.set_cons_succ,ih]
theorem Acb (w:Int)(k:Nat):0<=Dx w k∧Dx w k<=255:=by
 unfold Dx;simp only[wrap,IntKind.signed,IntKind.bits];simp;omega
theorem Aiw (w:Int):Li (Ic w):=by
 intro x hx;obtain⟨k,_,rfl⟩:=List.mem_map.1 hx;exact Acb w k
theorem Uz (ws:List Int):Li (A8 ws):=by
 intro x hx;obtain⟨w,_,hx⟩:=List.mem_flatMap.1 hx;exact Aiw w x hx
theorem D3 (ws:List Int):(A8 ws).length=8*ws.length:=by
 induction ws with
 |nil=>rfl
 |cons w ws ih=>
  show (Ic w++A8 ws).length=_;rw[Io,ih,Jc,Ik];omega
def Mu (m:Int)(k:Nat):Int:=wrap .i64 (X3 .u64 (Is .u64 m (60-4*(k:Int))) 15)
theorem Y0 (m:Int)(k:Nat):0<=Mu m k∧Mu m k<=15:=by
 have:=A00 (a:=Is .u64 m (60-4*(k:Int))) (m:=15) (by omega) (by omega)
 unfold Mu;rw[Ap (by omega) (by omega)]
 exact this
def Su (m:Int):Nat->Int
 |0=>0
 |k+1=>Su m k+(15-Mu m k)
theorem Tk (m:Int):∀k,0<=Su m k∧Su m k<=15*k
 |0=>by simp[Su]
 |k+1=>by
  have h1:=Tk m k;have h2:=Y0 m k;simp only[Su];omega
def dgs (m:Int):List Int:=(List.range 16).map (Mu m)++[Su m 16 / 16,Su m 16 % 16]
def dg (m:Int)(k:Nat):Int:=(dgs m).getD k 0
theorem Auq {m x:Int}(h:x∈dgs m):0<=x∧x<=15:=by
 have hs:=Tk m 16;unfold dgs at h;rcases List.mem_append.1 h with h|h
 ·obtain⟨k,_,rfl⟩:=List.mem_map.1 h;exact Y0 m k
 ·simp at h;rcases h with rfl|rfl<;>omega
theorem JY (m:Int)(k:Nat):0<=dg m k∧dg m k<=15:=by
 unfold dg;rw[List.getD_eq_getElem?_getD];cases h:(dgs m)[k]? with
 |none=>simp
 |some x=>exact Auq (List.mem_of_getElem? h)
def dl (m:Int)(i:Nat):List Int:=(List.range i).map (Mu m)++List.replicate (18-i) 0
theorem Ah3 (m:Int){i:Nat}(h:i<=18):(dl m i).length=18:=by simp[dl];omega
theorem A3r (m:Int){i:Nat}(h:i<18):(dl m (i+1))[i]?=some (Mu m i):=by
 unfold dl;rw[List.getElem?_append_left (by simp)]
 simp
theorem A0q (m:Int){i:Nat}(h:i<18):(dl m i).set i (Mu m i)=dl m (i+1):=by
 unfold dl;rw[List.set_append_right _ _ (by simp),List.length_map,List.length_range,Nat.sub_self,show 18-i=(18-(i+1))+1 by omega,List.replicate_succ,List.set_cons_zero,List.range_succ,List.map_append,Zzv]
 rfl
def T9 (leaf chain:Int):Nat->Int->Int->Int
 |0,_,x=>x
 |k+1,p,x=>T9 leaf chain k (p+1) (R3 1 (A8 [wrap .u64 leaf,wrap .u64 chain,wrap .u64 p,x]))
theorem Ab1 (leaf chain:Int):∀(k j:Nat)(p x:Int),T9 leaf chain (k+j) p x=T9 leaf chain j (p+k) (T9 leaf chain k p x)
 |0,j,p,x=>by simp[T9]
 |k+1,j,p,x=>by
  rw[show k+1+j=(k+j)+1 by omega]
  simp only[T9];rw[Ab1 leaf chain k j]
  congr 1
  omega
def BZ (leaf:Int)(E:List Int):Int:=R3 2 (A8 (wrap .u64 leaf::E))
def Aic (leaf m:Int)(s:List Int)(k:Nat):Int:=T9 leaf k (15-dg m k).toNat (dg m k) (s.getD k 0)
def QO (leaf m:Int)(s:List Int):List Int:=(List.range 18).map (Aic leaf m s)
def Am4 (leaf m:Int)(s:List Int):Int:=BZ leaf (QO leaf m s)
def el (leaf m:Int)(s:List Int)(i:Nat):List Int:=(List.range i).map (Aic leaf m s)++List.replicate (18-i) 0
theorem Ars (leaf m:Int)(s:List Int){i:Nat}(h:i<=18):(el leaf m s i).length=18:=by simp[el];omega
theorem Aza (leaf m:Int)(s:List Int){i:Nat}(h:i<18):(el leaf m s i).set i (Aic leaf m s i)=el leaf m s (i+1):=by
 unfold el;rw[List.set_append_right _ _ (by simp),List.length_map,List.length_range,Nat.sub_self,show 18-i=(18-(i+1))+1 by omega,List.replicate_succ,List.set_cons_zero,List.range_succ,List.map_append,Zzv]
 rfl
theorem A24 (leaf m:Int)(s:List Int):el leaf m s 18=QO leaf m s:=by
 unfold el QO;simp
end
section
open Go.Proofs.Tryz (prog)
open Go.IntKind (wrap)
set_option maxRecDepth 20000
section
variable {fu d:Nat} {xs:FuncId->Option (List PV->Option A5)}
theorem Aod {ws:List Int}(hl:ws.length<=100)(Ca:1000<=fu)(dom:Int):Ad (CX xs) prog fu (d+5) Uk [.sc (.int .i64 dom),.lst false 1 (A8 ws).length (Ah .u8 (A8 ws))]=some ⟨[.sc (.int .u64 (R3 dom (A8 ws)))],[]⟩:=
 Ai8 (Uz ws) (by rw[D3];omega) (by omega) (by rw[D3];omega) dom
theorem Ade {leaf chain:Int}{a0 a1 a2 a3 a4:Int}(Ca:1000<=fu){t:Int}(ht:t<=15):∀(k nn:Nat)(p x:Int),(k:Int)=t-p->0<=p->k<nn ->
  Ng fu (Ad (CX xs) prog fu (d+5)) a0 a1 a2 a3 a4 nn leaf chain x t p=some ⟨[.sc (.int .u64 (T9 leaf chain k p x))],[]⟩
 |_,0,_,_,_,_,h=>by omega
 |0,nn+1,p,x,hk,hp,hn=>by
  rw[Vd,Ej _ _ _ (by omega)]
  rfl
 |k+1,nn+1,p,x,hk,hp,hn=>by
  have w:wrap .i64 (p+1)=p+1:=Ap (by omega) (by omega)
  have wd:Ad (CX xs) prog fu (d+5) G0 [.lst false 1 4 [.sc (.int .u64 (wrap .u64 leaf)),.sc (.int .u64 (wrap .u64 chain)),.sc (.int .u64 (wrap .u64 p)),.sc (.int .u64 x)]]=_:=Rs (ws:=[wrap .u64 leaf,wrap .u64 chain,wrap .u64 p,x]) (by simp) (by omega) (by simp;omega)
  have hs:=Aod (xs:=xs) (fu:=fu) (d:=d) (ws:=[wrap .u64 leaf,wrap .u64 chain,wrap .u64 p,x]) (by simp) Ca 1
  have ih:=Ade (leaf:=leaf) (chain:=chain) (a0:=a0) (a1:=a1) (a2:=a2) (a3:=a3) (a4:=a4) Ca ht k nn (p+1) (R3 1 (A8 [wrap .u64 leaf,wrap .u64 chain,wrap .u64 p,x])) (by omega) (by omega) (by omega)
  have L:=Ay .u8 (A8 [wrap .u64 leaf,wrap .u64 chain,wrap .u64 p,x]);have eR:T9 leaf chain (k+1) p x=T9 leaf chain k (p+1) (R3 1 (A8 [wrap .u64 leaf,wrap .u64 chain,wrap .u64 p,x])):=rfl;rw[eR];generalize A8 [wrap .u64 leaf,wrap .u64 chain,wrap .u64 p,x]=W at wd hs ih L ⊢;rw[Vd];simp (disch:=omega) only[Cu,wd,Dc,Ch,C8,Mt,L,hs,w];exact ih
theorem Aii {leaf chain:Int}(Ca:1000<=fu)(k:Nat)(f t x:Int)(hk:(k:Int)=t-f) (h0:0<=f)(h1:t<=15):Ad (CX xs) prog fu (d+6) BN [.sc (.int .i64 leaf),.sc (.int .i64 chain),.sc (.int .i64 f),.sc (.int .i64 t),.sc (.int .u64 x)]=some ⟨[.sc (.int .u64 (T9 leaf chain k f x))],[]⟩:=by
 rw[VP];simp only[I6];rw[Bn (by omega),Bn (by omega)]
 exact Ade Ca h1 k fu f x hk h0 (by omega)
theorem KN {call:Af}{a0 m:Int}{y3:List PV}:∀(k i nn:Nat),i+k=16->k<nn ->
  Hk fu call a0 nn m (Su m i) i y3 (Ah .i64 (dl m i))=Hk fu call a0 (nn-k) m (Su m 16) 16 y3 (Ah .i64 (dl m 16))
 |_,_,0,_,h=>by omega
 |0,i,nn+1,hi,hn=>by
  have e:i=16:=by omega
  subst e;rfl
 |k+1,i,nn+1,hi,hn=>by
  have ih:=KN (call:=call) (a0:=a0) (y3:=y3) (m:=m) k (i+1) nn (by omega) (by omega)
  have hb:=Y0 m i;have hs:=Tk m i;have w:wrap .i64 ((i:Int)+1)=((i+1:Nat):Int):=by rw[Ap (by omega) (by omega)];omega
  have w4:wrap .i64 (4*(i:Int))=4*(i:Int):=Ap (by omega) (by omega)
  have w60:wrap .i64 (60-4*(i:Int))=60-4*(i:Int):=Ap (by omega) (by omega)
  have hd:wrap .i64 (X3 .u64 (Is .u64 m (60-4*(i:Int))) 15)=Mu m i:=rfl;have w15:wrap .i64 (15-Mu m i)=15-Mu m i:=Ap (by omega) (by omega)
  have ws:wrap .i64 (Su m i+(15-Mu m i))=Su m (i+1):=by rw[Ap (by omega) (by omega)];rfl
  have L:(Ah .i64 (dl m i)).length=18:=by rw[Ay,Ah3 m (by omega)]
  have AZ:Bq (Ah .i64 (dl m i)) [.sc (.int .i64 (Mu m i))] i=Ah .i64 (dl m (i+1)):=by
   rw[G8 (by omega),M5,A0q m (by omega)]
  have hat:(Ah .i64 (dl m (i+1))).getD i .top=.sc (.int .i64 (Mu m i)):=EU (A3r m (by omega))
  rw[show nn+1-(k+1)=nn-k by omega,←ih,Qn]
  simp (disch:=omega) only[Cu,Kz,Dc,Ch,w,w4,w60,hd,L,AZ,hat,w15,ws]
theorem VY (Ca:1000<=fu)(m:Int):Ad (CX xs) prog fu (d+1) Vj [.sc (.int .u64 m)]=some ⟨[.agg (Ah .i64 (dgs m))],[]⟩:=by
 rw[JQ];have lp:=KN (fu:=fu) (call:=Ad (CX xs) prog fu d) (a0:=m) (m:=m) (y3:=Ah .i64 (List.replicate 18 0)) 16 0 fu (by omega) (by omega)
 obtain⟨f',YZ⟩:∃f',fu-16=f'+1:=⟨fu-17,by omega⟩
 rw[YZ] at lp;refine Eq.trans lp ?_;have hs:=Tk m 16
 have wq:wrap .i64 (Int.tdiv (Su m 16) 16)=Su m 16 / 16:=by
  rw[Int.tdiv_eq_ediv_of_nonneg (by omega),Ap (by omega) (by omega)]
 have wm:Int.tmod (Su m 16) 16=Su m 16 % 16:=Int.tmod_eq_emod_of_nonneg (by omega)
 have L:(Ah .i64 (dl m 16)).length=18:=by rw[Ay,Ah3 m (by omega)]
 have h1:Bq (Ah .i64 (dl m 16)) [.sc (.int .i64 (Su m 16 / 16))] 16=Ah .i64 ((dl m 16).set 16 (Su m 16 / 16)):=by
  rw[G8 (by omega),M5]
 have L2:(Ah .i64 ((dl m 16).set 16 (Su m 16 / 16))).length=18:=by rw[Ay,List.length_set,Ah3 m (by omega)]
 have h2:Bq (Ah .i64 ((dl m 16).set 16 (Su m 16 / 16))) [.sc (.int .i64 (Su m 16 % 16))] 17=Ah .i64 (dgs m):=by
  rw[G8 (by omega),M5]
  rfl
 rw[Qn,Ej _ _ _ (by omega)]
 simp only[I6,wq,wm,L,h1,L2,h2];generalize hq:Su m 16 / 16=q at *
 generalize hr:Su m 16 % 16=r at *
 have hD:Ah .i64 (dgs m)=[.sc (.int .i64 (Mu m 0)),.sc (.int .i64 (Mu m 1)),.sc (.int .i64 (Mu m 2)),.sc (.int .i64 (Mu m 3)),.sc (.int .i64 (Mu m 4)),.sc (.int .i64 (Mu m 5)),.sc (.int .i64 (Mu m 6)),.sc (.int .i64 (Mu m 7)),.sc (.int .i64 (Mu m 8)),.sc (.int .i64 (Mu m 9)),.sc (.int .i64 (Mu m 10)),.sc (.int .i64 (Mu m 11)),.sc (.int .i64 (Mu m 12)),.sc (.int .i64 (Mu m 13)),.sc (.int .i64 (Mu m 14)),.sc (.int .i64 (Mu m 15)),.sc (.int .i64 q),.sc (.int .i64 r)]:=by
  unfold dgs;rw[hq,hr];rfl
 rw[hD];have A2t:(Ah .i64 (List.replicate 18 0)).length=18:=rfl
 have hsp:∀c:List PV,c.length=18->Bq (Ah .i64 (List.replicate 18 0)) c 0=c:=by
  intro c hc;unfold Bq;rw[hc,List.drop_of_length_le (by rw[A2t];omega)]
  simp
 rw[AR (Ko:=by omega)]
 simp only[Cu,List.getD_cons_zero,List.getD_cons_succ,A2t];rw[hsp _ rfl];simp (disch:=omega) only[Cu,AN,List.getD_cons_zero,List.getD_cons_succ]
theorem TG (Ca:1000<=fu)(leaf:Int){E:List Int}(hE:E.length=18):Ad (CX xs) prog fu (d+6) Tn [.sc (.int .i64 leaf),.agg (Ah .u64 E)]=some ⟨[.sc (.int .u64 (BZ leaf E))],[]⟩:=by
 match E,hE with
 |[e0,e1,e2,e3,e4,e5,e6,e7,e8,e9,e10,e11,e12,e13,e14,e15,e16,e17],_=>
  have wd:Ad (CX xs) prog fu (d+5) G0 [.lst false 1 19 [.sc (.int .u64 (wrap .u64 leaf)),.sc (.int .u64 e0),.sc (.int .u64 e1),.sc (.int .u64 e2),.sc (.int .u64 e3),.sc (.int .u64 e4),.sc (.int .u64 e5),.sc (.int .u64 e6),.sc (.int .u64 e7),.sc (.int .u64 e8),.sc (.int .u64 e9),.sc (.int .u64 e10),.sc (.int .u64 e11),.sc (.int .u64 e12),.sc (.int .u64 e13),.sc (.int .u64 e14),.sc (.int .u64 e15),.sc (.int .u64 e16),.sc (.int .u64 e17)]]=_:=Rs (ws:=wrap .u64 leaf::[e0,e1,e2,e3,e4,e5,e6,e7,e8,e9,e10,e11,e12,e13,e14,e15,e16,e17]) (by simp) (by omega) (by simp;omega)
  have hs:=Aod (xs:=xs) (fu:=fu) (d:=d) (ws:=wrap .u64 leaf::[e0,e1,e2,e3,e4,e5,e6,e7,e8,e9,e10,e11,e12,e13,e14,e15,e16,e17]) (by simp) Ca 2
  have L:=Ay .u8 (A8 (wrap .u64 leaf::[e0,e1,e2,e3,e4,e5,e6,e7,e8,e9,e10,e11,e12,e13,e14,e15,e16,e17]));have eR:BZ leaf [e0,e1,e2,e3,e4,e5,e6,e7,e8,e9,e10,e11,e12,e13,e14,e15,e16,e17]=R3 2 (A8 (wrap .u64 leaf::[e0,e1,e2,e3,e4,e5,e6,e7,e8,e9,e10,e11,e12,e13,e14,e15,e16,e17])):=rfl;rw[eR];generalize A8 (wrap .u64 leaf::[e0,e1,e2,e3,e4,e5,e6,e7,e8,e9,e10,e11,e12,e13,e14,e15,e16,e17])=W at wd hs L ⊢;refine (FK fu (d+5) leaf e0 e1 e2 e3 e4 e5 e6 e7 e8 e9 e10 e11 e12 e13 e14 e15 e16 e17).trans ?_;simp (disch:=omega) only[Cu,wd,Dc,Ch,C8,Mt,L,hs]
theorem Axv (g:Nat->Int){i:Nat}(hi:i<18):List.getD [PV.sc (.int .i64 (g 0)),PV.sc (.int .i64 (g 1)),PV.sc (.int .i64 (g 2)),PV.sc (.int .i64 (g 3)),PV.sc (.int .i64 (g 4)),PV.sc (.int .i64 (g 5)),PV.sc (.int .i64 (g 6)),PV.sc (.int .i64 (g 7)),PV.sc (.int .i64 (g 8)),PV.sc (.int .i64 (g 9)),PV.sc (.int .i64 (g 10)),PV.sc (.int .i64 (g 11)),PV.sc (.int .i64 (g 12)),PV.sc (.int .i64 (g 13)),PV.sc (.int .i64 (g 14)),PV.sc (.int .i64 (g 15)),PV.sc (.int .i64 (g 16)),PV.sc (.int .i64 (g 17))] i PV.top=.sc (.int .i64 (g i)):=by
 have:((List.range 18).map g)[i]?=some (g i):=by simp[hi]
 exact EU (k:=.i64) this
theorem HQ {a0 a1:Int}{Ld:Nat}{a2:List PV}{leaf m:Int}{s:List Int}(hs:s.length=18)(Ca:1000<=fu)(g:Nat->Int)(hg:∀k,g k=dg m k):∀(k i nn:Nat),i+k=18->k<nn ->
  Fx fu (Ad (CX xs) prog fu (d+6)) a0 a1 Ld a2 nn leaf s.length (Ah .u64 s) (g 0) (g 1) (g 2) (g 3) (g 4) (g 5) (g 6) (g 7) (g 8) (g 9) (g 10) (g 11) (g 12) (g 13) (g 14) (g 15) (g 16) (g 17) i (Ah .u64 (el leaf m s i)) =
   Fx fu (Ad (CX xs) prog fu (d+6)) a0 a1 Ld a2 (nn-k) leaf s.length (Ah .u64 s) (g 0) (g 1) (g 2) (g 3) (g 4) (g 5) (g 6) (g 7) (g 8) (g 9) (g 10) (g 11) (g 12) (g 13) (g 14) (g 15) (g 16) (g 17) 18 (Ah .u64 (el leaf m s 18))
 |_,_,0,_,h=>by omega
 |0,i,nn+1,hi,hn=>by
  have e:i=18:=by omega
  subst e;rfl
 |k+1,i,nn+1,hi,hn=>by
  have ih:=HQ (a0:=a0) (a1:=a1) (Ld:=Ld) (a2:=a2) (leaf:=leaf) (m:=m) hs Ca g hg k (i+1) nn (by omega) (by omega)
  obtain⟨x,hx⟩:∃x,s[i]?=some x:=⟨_,List.getElem?_eq_getElem (by omega)⟩
  have hb:=JY m i;have hgi:=Axv g (i:=i) (by omega)
  have w:wrap .i64 ((i:Int)+1)=((i+1:Nat):Int):=by rw[Ap (by omega) (by omega)];omega
  have rn:=Aii (xs:=xs) (fu:=fu) (d:=d) (leaf:=leaf) (chain:=i) Ca (15-dg m i).toNat (g i) 15 x (by rw[hg];omega) (by rw[hg];omega) (by omega)
  have ev:T9 leaf i (15-dg m i).toNat (g i) x=Aic leaf m s i:=by
   unfold Aic;rw[List.getD_eq_getElem?_getD,hx,hg];rfl
  rw[ev] at rn;have L:(Ah .u64 (el leaf m s i)).length=18:=by rw[Ay,Ars leaf m s (by omega)]
  have AZ:Bq (Ah .u64 (el leaf m s i)) [.sc (.int .u64 (Aic leaf m s i))] i=Ah .u64 (el leaf m s (i+1)):=by
   rw[G8 (by omega),M5,Aza leaf m s (by omega)]
  rw[show nn+1-(k+1)=nn-k by omega,←ih,Pj]
  simp (disch:=omega) only[Cu,Kz,Dc,Ch,hgi,EU hx,rn,L,AZ,w]
theorem Afd (Ca:1000<=fu){a0 a1 leaf:Int}{Ld n nn:Nat}{a2 c:List PV}{g:Nat->Int}{E:List Int}(hE:E.length=18):
  Fx fu (Ad (CX xs) prog fu (d+6)) a0 a1 Ld a2 (nn+1) leaf n c (g 0) (g 1) (g 2) (g 3) (g 4) (g 5) (g 6) (g 7) (g 8) (g 9) (g 10) (g 11) (g 12) (g 13) (g 14) (g 15) (g 16) (g 17) 18 (Ah .u64 E)=some ⟨[.sc (.int .u64 (BZ leaf E)),.sc (.int .i64 0)],[]⟩:=by
 match E,hE with
 |[e0,e1,e2,e3,e4,e5,e6,e7,e8,e9,e10,e11,e12,e13,e14,e15,e16,e17],hE=>
  have cb:=TG (xs:=xs) (fu:=fu) (d:=d) Ca leaf hE;have hc:Ah .u64 [e0,e1,e2,e3,e4,e5,e6,e7,e8,e9,e10,e11,e12,e13,e14,e15,e16,e17]=[.sc (.int .u64 e0),.sc (.int .u64 e1),.sc (.int .u64 e2),.sc (.int .u64 e3),.sc (.int .u64 e4),.sc (.int .u64 e5),.sc (.int .u64 e6),.sc (.int .u64 e7),.sc (.int .u64 e8),.sc (.int .u64 e9),.sc (.int .u64 e10),.sc (.int .u64 e11),.sc (.int .u64 e12),.sc (.int .u64 e13),.sc (.int .u64 e14),.sc (.int .u64 e15),.sc (.int .u64 e16),.sc (.int .u64 e17)]:=rfl;rw[hc] at cb ⊢;generalize BZ leaf [e0,e1,e2,e3,e4,e5,e6,e7,e8,e9,e10,e11,e12,e13,e14,e15,e16,e17]=R at cb ⊢;rw[Pj,Ej _ _ _ (by omega)]
  simp (disch:=omega) only[Cu,Y1,Yi,List.getD_cons_zero,List.getD_cons_succ,cb]
theorem Agp (Ca:1000<=fu)(leaf m:Int)(s:List Int):Ad (CX xs) prog fu (d+7) Tm [.sc (.int .i64 leaf),.sc (.int .u64 m),.lst false 1 s.length (Ah .u64 s)]=some ⟨(if s.length=18 then [.sc (.int .u64 (Am4 leaf m s)),.sc (.int .i64 0)] else [.sc (.int .u64 0),.sc (.int .i64 4)]),[]⟩:=by
 rw[GK];by_cases h:s.length=18
 ·have dq:=VY (xs:=xs) (fu:=fu) (d:=d+5) Ca m;have hD:Ah .i64 (dgs m)=[.sc (.int .i64 (dg m 0)),.sc (.int .i64 (dg m 1)),.sc (.int .i64 (dg m 2)),.sc (.int .i64 (dg m 3)),.sc (.int .i64 (dg m 4)),.sc (.int .i64 (dg m 5)),.sc (.int .i64 (dg m 6)),.sc (.int .i64 (dg m 7)),.sc (.int .i64 (dg m 8)),.sc (.int .i64 (dg m 9)),.sc (.int .i64 (dg m 10)),.sc (.int .i64 (dg m 11)),.sc (.int .i64 (dg m 12)),.sc (.int .i64 (dg m 13)),.sc (.int .i64 (dg m 14)),.sc (.int .i64 (dg m 15)),.sc (.int .i64 (dg m 16)),.sc (.int .i64 (dg m 17))]:=rfl;rw[hD] at dq;simp only[Hb];rw[C5 h,C5 (by omega)]
  simp only[Cu,dq];have lp:=HQ (xs:=xs) (fu:=fu) (d:=d) (a0:=leaf) (a1:=m) (Ld:=s.length) (a2:=Ah .u64 s) (leaf:=leaf) (m:=m) h Ca (dg m) (fun _=>rfl) 18 0 fu (by omega) (by omega)
  obtain⟨f',YZ⟩:∃f',fu-18=f'+1:=⟨fu-19,by omega⟩
  rw[YZ] at lp;refine Eq.trans lp ?_;have eE:el leaf m s 18=QO leaf m s:=A24 leaf m s;have hl:(QO leaf m s).length=18:=by rw[←eE,Ars leaf m s (by omega)]
  have eR:Am4 leaf m s=BZ leaf (QO leaf m s):=rfl;rw[eE,eR];exact Afd Ca hl
 ·simp only[Hb];rw[Bn h,Bn (by omega)]
end
end
section
open Go.Proofs.Tryz (prog)
open Go.IntKind (wrap)
structure Ky where
 h:Int
 root:Int
structure Sg where
 leaf:Int
 chains:List Int
 path:List Int
def Ky.cells (k:Ky):List PV:=[.sc (.int .i64 k.h),.sc (.int .u64 k.root)]
def Sg.cells (s:Sg):List PV:=[.sc (.int .i64 s.leaf),.lst false 1 s.chains.length (Ah .u64 s.chains),.lst false 1 s.path.length (Ah .u64 s.path)]
def Ex (h:Int):Bool:=decide (h<0)||decide (h>4)
def Qq (leaf h:Int):Bool:=decide (leaf<0)||decide (leaf>=J0 .i64 1 h)
def O6 (level a b:Int):Int:=R3 3 (A8 [wrap .u64 level,a,b])
def CK (leaf:Int):Nat->Int->List Int->Int
 |_,x,[]=>x
 |i,x,s::r=>CK leaf (i+1) (if X3 .i64 (Is .i64 leaf i) 1=0 then O6 ((i+1:Nat):Int) x s else O6 ((i+1:Nat):Int) s x) r
def okE (x root:Int):Int:=if x=root then 0 else 15
theorem Aia (leaf:Int)(i:Nat)(x:Int):CK leaf i x []=x:=rfl
theorem KV (leaf:Int)(i:Nat)(x s:Int)(r:List Int):CK leaf i x (s::r)=CK leaf (i+1) (if X3 .i64 (Is .i64 leaf i) 1=0 then O6 ((i+1:Nat):Int) x s else O6 ((i+1:Nat):Int) s x) r:=rfl
def Ame (k:Ky)(m:Int)(s:Sg):Int:=
 if Ex k.h=true then 9 else if Qq s.leaf k.h=true then 9 else if s.chains.length≠18 then 4 else if (s.path.length:Int)≠k.h then 4 else
 okE (CK s.leaf 0 (Am4 s.leaf m s.chains) s.path) k.root
theorem Kr {h:Int}(hh:Ex h=false):0<=h∧h<=4:=by
 unfold Ex at hh;simp at hh;omega
section
variable {fu d:Nat} {xs:FuncId->Option (List PV->Option A5)}
theorem Wx (h:Int):Ad (CX xs) prog fu (d+1) Nq [.sc (.int .i64 h)]=some ⟨[.sc (.bool (Ex h))],[]⟩:=by
 rw[RL];unfold Ex;by_cases h0:h<0
 ·simp only[Cu,JA,h0,decide_true,Bool.true_or,if_true]
 ·simp only[Cu,JA,h0,decide_false,Bool.false_or,if_false]
theorem Rk (leaf h:Int)(h0:0<=h):Ad (CX xs) prog fu (d+1) Js [.sc (.int .i64 leaf),.sc (.int .i64 h)]=some ⟨[.sc (.bool (Qq leaf h))],[]⟩:=by
 rw[HD];unfold Qq;by_cases hl:leaf<0
 ·simp only[Cu,JA,hl,decide_true,Bool.true_or,if_true]
 ·simp (disch:=omega) only[Cu,JA,hl,decide_false,Bool.false_or,if_false]
theorem II (Ca:1000<=fu)(level a b:Int):Ad (CX xs) prog fu (d+6) Ox [.sc (.int .i64 level),.sc (.int .u64 a),.sc (.int .u64 b)]=some ⟨[.sc (.int .u64 (O6 level a b))],[]⟩:=by
 have wd:Ad (CX xs) prog fu (d+5) G0 [.lst false 1 3 [.sc (.int .u64 (wrap .u64 level)),.sc (.int .u64 a),.sc (.int .u64 b)]]=_:=Rs (ws:=[wrap .u64 level,a,b]) (by simp) (by omega) (by simp;omega)
 have hs:=Aod (xs:=xs) (fu:=fu) (d:=d) (ws:=[wrap .u64 level,a,b]) (by simp) Ca 3
 have L:=Ay .u8 (A8 [wrap .u64 level,a,b]);rw[JD];unfold O6;generalize A8 [wrap .u64 level,a,b]=W at wd hs L ⊢;simp (disch:=omega) only[Cu,wd,Dc,Ch,C8,Mt,L,hs]
theorem KU {a0 a1 a2 a3:Int}{n1 n2 n3 n4:Nat}{c1 c2 c3 c4:List PV}{y5 root leaf:Int}{path:List Int}(hp:path.length<=100)(Ca:1000<=fu):∀(r:List Int)(i nn:Nat)(x:Int),path.drop i=r->r.length<nn->i<=path.length ->
  Hl fu (Ad (CX xs) prog fu (d+6)) a0 a1 a2 a3 n1 c1 n2 c2 nn x path.length (Ah .u64 path) path.length i y5 root leaf n3 c3 n4 c4=some ⟨[.sc (.int .i64 (okE (CK leaf i x r) root))],[]⟩
 |_,_,0,_,_,h,_=>by omega
 |[],i,nn+1,x,h,hn,hi=>by
  have:=drop_nil h;rw[Qg,Ej _ _ _ (by omega),Hb]
  rw[Aia];unfold okE;by_cases e:x=root
  ·rw[C5 e,C5 e]
  ·rw[Bn e,Bn e]
 |s::r,i,nn+1,x,h,hn,hi=>by
  obtain⟨h1,h2,h3⟩:=D1 h;simp only[Ik] at hn;have w:wrap .i64 ((i:Int)+1)=((i+1:Nat):Int):=by rw[Ap (by omega) (by omega)];omega
  have ih:=fun x=>KU (a0:=a0) (a1:=a1) (a2:=a2) (a3:=a3) (n1:=n1) (n2:=n2) (n3:=n3) (n4:=n4) (c1:=c1) (c2:=c2) (c3:=c3) (c4:=c4) (y5:=y5) (root:=root) (leaf:=leaf) hp Ca r (i+1) nn x h3 (by omega) (by omega)
  have p1:=II (xs:=xs) (fu:=fu) (d:=d) Ca ((i+1:Nat):Int) x s;have p2:=II (xs:=xs) (fu:=fu) (d:=d) Ca ((i+1:Nat):Int) s x;rw[Qg,KV];by_cases hb:X3 .i64 (Is .i64 leaf i) 1=0
  ·rw[C5 hb,←ih];simp (disch:=omega) only[Cu,Kz,Dc,EU h2,Nf,hb,w,p1,if_true]
  ·rw[Bn hb,←ih];simp (disch:=omega) only[Cu,Kz,Dc,EU h2,Nf,hb,w,p2,if_false]
theorem Amn (Ca:1000<=fu)(k:Ky)(m:Int)(s:Sg):Ad (CX xs) prog fu (d+8) Uu [.agg k.cells,.sc (.int .u64 m),.agg s.cells]=some ⟨[.sc (.int .i64 (Ame k m s))],[]⟩:=by
 refine (JE fu (d+7) k.h k.root m s.leaf s.chains.length (Ah .u64 s.chains) s.path.length (Ah .u64 s.path)).trans ?_;have h1:=Wx (xs:=xs) (fu:=fu) (d:=d+6) k.h;unfold Ame;cases c1:Ex k.h
 ·rw[c1] at h1;have hb:=Kr c1;have h2:=Rk (xs:=xs) (fu:=fu) (d:=d+6) s.leaf k.h hb.1;cases c2:Qq s.leaf k.h
  ·rw[c2] at h2;by_cases c3:s.chains.length=18
   ·by_cases c4:(s.path.length:Int)=k.h
    ·have rc:=Agp (xs:=xs) (fu:=fu) (d:=d) Ca s.leaf m s.chains;rw[C5 c3] at rc;have vl:=KU (xs:=xs) (fu:=fu) (d:=d+1) (a0:=k.h) (a1:=k.root) (a2:=m) (a3:=s.leaf) (n1:=s.chains.length) (n2:=s.path.length) (n3:=s.chains.length) (n4:=s.path.length) (c1:=Ah .u64 s.chains) (c2:=Ah .u64 s.path) (c3:=Ah .u64 s.chains) (c4:=Ah .u64 s.path) (y5:=k.h) (root:=k.root) (leaf:=s.leaf) (path:=s.path) (by omega) Ca s.path 0 fu (Am4 s.leaf m s.chains) rfl (by omega) (by omega)
     rw[Bn (by simp),Bn (by simp),Bn (by omega),Bn (by omega),←vl]
     simp (disch:=omega) only[Cu,h1,h2,Hb,rc,if_true,c4];rw[C5 (by omega)]
     rfl
    ·rw[Bn (by simp),Bn (by simp),Bn (by omega),C5 c4]
     simp (disch:=omega) only[Cu,h1,h2,Hb,c4,if_false];rw[C5 (by omega)]
   ·rw[Bn (by simp),Bn (by simp),C5 c3]
    simp (disch:=omega) only[Cu,h1,h2,Hb];rw[Bn (by omega)]
  ·rw[c2] at h2;rw[Bn (by simp),C5 rfl]
   simp (disch:=omega) only[Cu,h1,h2]
 ·rw[c1] at h1;rw[C5 rfl];simp (disch:=omega) only[Cu,h1]
def Pp (k:Ky):List Int:=wrap .u8 k.h::Ic k.root
def CE (s:Sg):List Int:=wrap .u8 s.leaf::wrap .u8 s.path.length::(A8 s.chains++A8 s.path)
theorem owd (Ca:1000<=fu)(w:Int):Ad (CX xs) prog fu (d+1) G0 [.lst false 1 1 [.sc (.int .u64 w)]]=some ⟨[.own 1 8 (Ah .u8 (Ic w))],[]⟩:=by
 have:=Rs (xs:=xs) (fu:=fu) (d:=d) (ws:=[w]) (by simp) (by omega) (by simp;omega)
 simp only[A8,List.flatMap_cons,List.flatMap_nil,List.append_nil,Ik,Zx,Jc] at this;exact this
theorem Aky (Ca:1000<=fu)(k:Ky):Ad (CX xs) prog fu (d+2) Qa [.agg k.cells]=some ⟨(if Ex k.h=true then [.own 1 0 [],.sc (.int .i64 9)] else [.own 1 9 (Ah .u8 (Pp k)),.sc (.int .i64 0)]),[]⟩:=by
 refine (AL fu (d+1) k.h k.root).trans ?_;have h1:=Wx (xs:=xs) (fu:=fu) (d:=d) k.h;have wd:=owd (xs:=xs) (fu:=fu) (d:=d) Ca k.root;have L:=Ay .u8 (Ic k.root);rw[Jc] at L;have t8:List.take 8 (Ah .u8 (Ic k.root))=Ah .u8 (Ic k.root):=L6 (by omega)
 have t9:List.take 9 ([PV.sc (.int .u8 (wrap .u8 k.h))]++Ah .u8 (Ic k.root))=Ah .u8 (Pp k):=by
  rw[L6 (by rw[Io,L];simp)]
  rfl
 have L9:([PV.sc (.int .u8 (wrap .u8 k.h))]++Ah .u8 (Ic k.root)).length=9:=by rw[Io,L];rfl
 cases c1:Ex k.h
 ·rw[c1] at h1;rw[Bn (by simp)]
  simp (disch:=omega) only[Cu,h1,wd,Dc,Ch,C8,L,t8,Nat.reduceAdd,L9,t9]
 ·rw[c1] at h1;rw[C5 rfl];simp (disch:=omega) only[Cu,h1]
theorem Amc (Ca:1000<=fu)(s:Sg)(hp:s.path.length<=1000000000)(hf:s.path.length<fu):Ad (CX xs) prog fu (d+2) Kx [.agg s.cells]=some ⟨(if Ex s.path.length=true then [.own 1 0 [],.sc (.int .i64 9)] else if Qq s.leaf s.path.length=true then [.own 1 0 [],.sc (.int .i64 9)] else if s.chains.length≠18 then [.own 1 0 [],.sc (.int .i64 4)] else [.own 1 (CE s).length (Ah .u8 (CE s)),.sc (.int .i64 0)]),[]⟩:=by
 refine (Sv fu (d+1) s.leaf s.chains.length (Ah .u64 s.chains) s.path.length (Ah .u64 s.path)).trans ?_;have h1:=Wx (xs:=xs) (fu:=fu) (d:=d) s.path.length;cases c1:Ex s.path.length
 ·rw[c1] at h1;have hb:=Kr c1;have h2:=Rk (xs:=xs) (fu:=fu) (d:=d) s.leaf s.path.length hb.1;cases c2:Qq s.leaf s.path.length
  ·rw[c2] at h2;by_cases c3:s.chains.length=18
   ·have w1:=Rs (xs:=xs) (fu:=fu) (d:=d) (ws:=s.chains) (by omega) (by omega) (by omega)
    have w2:=Rs (xs:=xs) (fu:=fu) (d:=d) (ws:=s.path) (by omega) (by omega) (by omega)
    have l1:=D3 s.chains;have l2:=D3 s.path;have L1:=Ay .u8 (A8 s.chains);have L2:=Ay .u8 (A8 s.path)
    have eB:Ah .u8 (CE s)=[PV.sc (.int .u8 (wrap .u8 s.leaf)),PV.sc (.int .u8 (wrap .u8 s.path.length))]++Ah .u8 (A8 s.chains)++Ah .u8 (A8 s.path):=by
     unfold CE;simp
    have eL:(CE s).length=2+(A8 s.chains).length+(A8 s.path).length:=by
     unfold CE;simp;omega
    rw[Bn (by simp),Bn (by simp),Bn (by omega),eB,eL]
    have t2:List.take (2+(A8 s.chains).length) ([PV.sc (.int .u8 (wrap .u8 s.leaf)),PV.sc (.int .u8 (wrap .u8 s.path.length))]++Ah .u8 (A8 s.chains))=[PV.sc (.int .u8 (wrap .u8 s.leaf)),PV.sc (.int .u8 (wrap .u8 s.path.length))]++Ah .u8 (A8 s.chains):=L6 (by rw[Io,L1];simp)
    have t3:List.take (2+(A8 s.chains).length+(A8 s.path).length) ([PV.sc (.int .u8 (wrap .u8 s.leaf)),PV.sc (.int .u8 (wrap .u8 s.path.length))]++Ah .u8 (A8 s.chains)++Ah .u8 (A8 s.path))=[PV.sc (.int .u8 (wrap .u8 s.leaf)),PV.sc (.int .u8 (wrap .u8 s.path.length))]++Ah .u8 (A8 s.chains)++Ah .u8 (A8 s.path):=L6 (by rw[Io,Io,L1,L2];simp)
    have k2:([PV.sc (.int .u8 (wrap .u8 s.leaf)),PV.sc (.int .u8 (wrap .u8 s.path.length))]++Ah .u8 (A8 s.chains)).length=2+(A8 s.chains).length:=by rw[Io,L1];rfl
    have k3:([PV.sc (.int .u8 (wrap .u8 s.leaf)),PV.sc (.int .u8 (wrap .u8 s.path.length))]++Ah .u8 (A8 s.chains)++Ah .u8 (A8 s.path)).length=2+(A8 s.chains).length+(A8 s.path).length:=by rw[Io,k2,L2]
    simp (disch:=omega) only[Cu,h1,h2,Hb,w1,w2,Dc,Ch,C8,L1,L2,Mt,t2,t3,k2,k3];rw[C5 (by omega)]
   ·rw[Bn (by simp),Bn (by simp),C5 c3]
    simp (disch:=omega) only[Cu,h1,h2,Hb];rw[Bn (by omega)]
  ·rw[c2] at h2;rw[Bn (by simp),C5 rfl]
   simp (disch:=omega) only[Cu,h1,h2]
 ·rw[c1] at h1;rw[C5 rfl];simp (disch:=omega) only[Cu,h1]
def Uh (l:List Int)(i:Nat):Int:=QG ((l.drop (8*i)).take 8)
def G9 (l:List Int):List Int:=(List.range (l.length / 8)).map (Uh l)
def wl (l:List Int)(i:Nat):List Int:=(List.range i).map (Uh l)++List.replicate (l.length / 8-i) 0
theorem Asa (l:List Int){i:Nat}(h:i<=l.length / 8):(wl l i).length=l.length / 8:=by simp[wl];omega
theorem A02 (l:List Int){i:Nat}(h:i<l.length / 8):(wl l i).set i (Uh l i)=wl l (i+1):=by
 unfold wl;rw[List.set_append_right _ _ (by simp),List.length_map,List.length_range,Nat.sub_self,show l.length / 8-i=(l.length / 8-(i+1))+1 by omega,List.replicate_succ,List.set_cons_zero,List.range_succ,List.map_append,Zzv]
 rfl
theorem Avp (l:List Int){i:Nat}(h:i<l.length / 8):(wl l i).set i 0=wl l i:=by
 unfold wl;rw[List.set_append_right _ _ (by simp),List.length_map,List.length_range,Nat.sub_self,show l.length / 8-i=(l.length / 8-(i+1))+1 by omega,List.replicate_succ,List.set_cons_zero]
theorem XL {n m0:Nat}{c:List PV}{l:List Int}(hl:l.length<=1000000){i:Nat}(hi:i<l.length / 8){q:List Int}(hq:q.length<=8):∀(r:List Int)(j nn:Nat)(x:Int),q.drop j=r->r.length<nn->j<=q.length ->
  Kq fu (Ad (CX xs) prog fu d) n c m0 nn l.length (Ah .u8 l) (l.length / 8) i ((l.length / 8:Nat):Int) i q.length (Ah .u8 q) q.length j (Ah .u64 ((wl l i).set i x)) =
   Ig fu (Ad (CX xs) prog fu d) n c m0 l.length (Ah .u8 l) (l.length / 8) ((l.length / 8:Nat):Int) ((i+1:Nat):Int) (Ah .u64 ((wl l i).set i (r.foldl Gu x)))
 |_,_,0,_,_,h,_=>by omega
 |[],j,nn+1,x,h,hn,hj=>by
  have:=drop_nil h;have w:wrap .i64 ((i:Int)+1)=((i+1:Nat):Int):=by rw[Ap (by omega) (by omega)];omega
  rw[Rh,Ej _ _ _ (by omega)]
  simp only[I6,w,List.foldl_nil]
 |b::r,j,nn+1,x,h,hn,hj=>by
  obtain⟨h1,h2,h3⟩:=D1 h;simp only[Ik] at hn;have w:wrap .i64 ((j:Int)+1)=((j+1:Nat):Int):=by rw[Ap (by omega) (by omega)];omega
  have L:(Ah .u64 ((wl l i).set i x)).length=l.length / 8:=by rw[Ay,List.length_set,Asa l (by omega)]
  have hat:(Ah .u64 ((wl l i).set i x)).getD i .top=.sc (.int .u64 x):=EU (by rw[List.getElem?_set_self (by rw[Asa l (by omega)];omega)])
  have AZ:Bq (Ah .u64 ((wl l i).set i x)) [.sc (.int .u64 (Gu x b))] i=Ah .u64 ((wl l i).set i (Gu x b)):=by
   rw[G8 (by omega),M5,List.set_set]
  have ih:=XL (n:=n) (m0:=m0) (c:=c) hl hi hq r (j+1) nn (Gu x b) h3 (by omega) (by omega)
  rw[List.foldl_cons,←ih,Rh];simp (disch:=omega) only[Cu,Kz,Dc,Ch,EU h2,hat,L,w];exact congrArg _ AZ
theorem MJ {n:Nat}{c:List PV}{l:List Int}(hl:l.length<=1000000)(Ca:100<=fu):∀(k i nn:Nat),i+k=l.length / 8->k<nn ->
  Ig fu (Ad (CX xs) prog fu d) n c nn l.length (Ah .u8 l) (l.length / 8) ((l.length / 8:Nat):Int) i (Ah .u64 (wl l i))=some ⟨[.own 1 (l.length / 8) (Ah .u64 (G9 l))],[]⟩
 |_,_,0,_,h=>by omega
 |0,i,nn+1,hi,hn=>by
  have e:i=l.length / 8:=by omega
  subst e;have e2:wl l (l.length / 8)=G9 l:=by unfold wl G9;simp
  have L:(Ah .u64 (G9 l)).length=l.length / 8:=by rw[Ay];simp[G9]
  have tk:List.take (l.length / 8) (Ah .u64 (G9 l))=Ah .u64 (G9 l):=L6 (by omega)
  rw[R8,Ej _ _ _ (by omega),e2]
  simp (disch:=omega) only[Cu,Dc,L,tk]
 |k+1,i,nn+1,hi,hn=>by
  have ih:=MJ (n:=n) (c:=c) hl Ca k (i+1) nn (by omega) (by omega)
  have w8:wrap .i64 (8*(i:Int))=((8*i:Nat):Int):=by rw[Ap (by omega) (by omega)];omega
  have w88:wrap .i64 (((8*i:Nat):Int)+8)=((8*i+8:Nat):Int):=by rw[Ap (by omega) (by omega)];omega
  have e8:8*i+8-8*i=8:=by omega
  have hdl:((l.drop (8*i)).take 8).length=8:=by rw[List.length_take,List.length_drop];omega
  have st:=XL (xs:=xs) (fu:=fu) (d:=d) (n:=n) (m0:=nn) (c:=c) hl (i:=i) (by omega) (q:=(l.drop (8*i)).take 8) (by omega) ((l.drop (8*i)).take 8) 0 fu 0 rfl (by omega) (by omega)
  rw[Avp l (by omega),hdl] at st
  have ew:((l.drop (8*i)).take 8).foldl Gu 0=Uh l i:=rfl;rw[ew,A02 l (by omega),ih] at st
  rw[R8];simp (disch:=omega) only[Cu,Kz,Dc,w8,w88,e8,Km,Re];exact st
theorem QZ (n:Nat):Vr n [.sc (.int .u64 0)]=Ah .u64 (List.replicate n 0):=by
 induction n with
 |zero=>rfl
 |succ n ih=>
  show ([PV.sc (.int .u64 0)]::List.replicate n [PV.sc (.int .u64 0)]).flatten=_;rw[List.flatten_cons,List.replicate_succ];show _++Vr n [.sc (.int .u64 0)]=PV.sc (.int .u64 0)::Ah .u64 (List.replicate n 0);rw[ih];rfl
theorem KF {l:List Int}(hl:l.length<=1000000)(Ca:100<=fu)(hf:l.length<fu):Ad (CX xs) prog fu (d+1) Xa [.lst false 1 l.length (Ah .u8 l)]=some ⟨[.own 1 (l.length / 8) (Ah .u64 (G9 l))],[]⟩:=by
 rw[NA]
 have w:wrap .i64 (Int.tdiv (l.length:Int) 8)=((l.length / 8:Nat):Int):=by
  rw[Int.tdiv_eq_ediv_of_nonneg (by omega),Ap (by omega) (by omega)]
  omega
 have lp:=MJ (xs:=xs) (fu:=fu) (d:=d) (n:=l.length) (c:=Ah .u8 l) hl Ca (l.length / 8) 0 fu (by omega) (by omega)
 have e0:wl l 0=List.replicate (l.length / 8) 0:=by unfold wl;simp
 rw[e0] at lp;simp (disch:=omega) only[Cu,w,Kz,QZ,Int.le_refl];exact lp
def RD (l:List Int):Option Ky:=if l.length=9∧Ex (l.getD 0 0)=false then some ⟨l.getD 0 0,Uh (l.drop 1) 0⟩ else none
def Ah0 (o:Option Ky):List PV:=match o with|some k=>[.agg k.cells,.sc (.int .i64 0)]|none=>[.agg (Ky.mk 0 0).cells,.sc (.int .i64 2)]
theorem Alt (Ca:1000<=fu){l:List Int}(hb:Li l):Ad (CX xs) prog fu (d+2) Qm [.lst false 1 l.length (Ah .u8 l)]=some ⟨Ah0 (RD l),[]⟩:=by
 refine (BH fu (d+1) l.length (Ah .u8 l)).trans ?_;unfold RD;by_cases h9:l.length=9
 ·obtain⟨x,hx⟩:∃x,l[0]?=some x:=⟨_,List.getElem?_eq_getElem (by omega)⟩
  have hxb:=hb x (List.mem_of_getElem? hx);have wx:wrap .i64 x=x:=Ap (by omega) (by omega)
  have gx:l.getD 0 0=x:=by rw[List.getD_eq_getElem?_getD,hx];rfl
  have h1:=Wx (xs:=xs) (fu:=fu) (d:=d) x;rw[gx];cases c1:Ex x
  ·rw[c1] at h1;have hdl:(l.drop 1).length=8:=by rw[List.length_drop];omega
   have dw:=KF (xs:=xs) (fu:=fu) (d:=d) (l:=l.drop 1) (by omega) (by omega) (by omega)
   rw[hdl] at dw;have hat:(Ah .u64 (G9 (l.drop 1))).getD 0 .top=.sc (.int .u64 (Uh (l.drop 1) 0)):=EU (by unfold G9;rw[hdl];rfl)
   have e8:9-1=8:=rfl;have tk:List.take 8 (Ah .u8 (l.drop 1))=Ah .u8 (l.drop 1):=L6 (by rw[Ay];omega)
   rw[C5 ⟨h9,rfl⟩,h9];simp (disch:=omega) only[Cu,Hb,EU hx,wx,h1,Dc,Km,e8,tk,dw,hat];rfl
  ·rw[c1] at h1;rw[Bn (by simp),h9]
   simp (disch:=omega) only[Cu,Hb,EU hx,wx,h1];rfl
 ·rw[Bn (by simp[h9])]
  simp (disch:=omega) only[Hb];rw[Bn (by omega)]
  rfl
def sgD (l:List Int):Option Sg:=
 if 2<=l.length∧Ex (l.getD 1 0)=false∧Qq (l.getD 0 0) (l.getD 1 0)=false∧(l.length:Int)=2+8*(18+l.getD 1 0) then some ⟨l.getD 0 0,G9 ((l.drop 2).take 144),G9 (l.drop 146)⟩ else none
def Sg.owned (s:Sg):List PV:=[.sc (.int .i64 s.leaf),.own 1 s.chains.length (Ah .u64 s.chains),.own 1 s.path.length (Ah .u64 s.path)]
def Aiv (o:Option Sg):List PV:=match o with|some s=>[.agg s.owned,.sc (.int .i64 0)]|none=>[.agg (Sg.mk 0 [] []).owned,.sc (.int .i64 2)]
theorem Rt (l:List Int):(G9 l).length=l.length / 8:=by simp[G9]
theorem Akr (Ca:1000<=fu){l:List Int}(hb:Li l):Ad (CX xs) prog fu (d+2) Kw [.lst false 1 l.length (Ah .u8 l)]=some ⟨Aiv (sgD l),[]⟩:=by
 refine (Sz fu (d+1) l.length (Ah .u8 l)).trans ?_;unfold sgD;by_cases h2:2<=l.length
 ·obtain⟨x,hx⟩:∃x,l[0]?=some x:=⟨_,List.getElem?_eq_getElem (by omega)⟩
  obtain⟨y,hy⟩:∃y,l[1]?=some y:=⟨_,List.getElem?_eq_getElem (by omega)⟩
  have hxb:=hb x (List.mem_of_getElem? hx);have hyb:=hb y (List.mem_of_getElem? hy);have wx:wrap .i64 x=x:=Ap (by omega) (by omega)
  have wy:wrap .i64 y=y:=Ap (by omega) (by omega)
  have gx:l.getD 0 0=x:=by rw[List.getD_eq_getElem?_getD,hx];rfl
  have gy:l.getD 1 0=y:=by rw[List.getD_eq_getElem?_getD,hy];rfl
  have h1:=Wx (xs:=xs) (fu:=fu) (d:=d) y;have ho:=Rk (xs:=xs) (fu:=fu) (d:=d) x y (by omega)
  have w1:wrap .i64 (18+y)=18+y:=Ap (by omega) (by omega)
  have w2:wrap .i64 (8*(18+y))=8*(18+y):=Ap (by omega) (by omega)
  have w3:wrap .i64 (2+8*(18+y))=2+8*(18+y):=Ap (by omega) (by omega)
  rw[gx,gy];cases c1:Ex y
  ·rw[c1] at h1;cases c2:Qq x y
   ·rw[c2] at ho;by_cases c3:(l.length:Int)=2+8*(18+y)
    ·have hy4:=Kr c1;have d1:=KF (xs:=xs) (fu:=fu) (d:=d) (l:=(l.drop 2).take 144) (by rw[List.length_take,List.length_drop];omega) (by omega) (by rw[List.length_take,List.length_drop];omega)
     have d2:=KF (xs:=xs) (fu:=fu) (d:=d) (l:=l.drop 146) (by rw[List.length_drop];omega) (by omega) (by rw[List.length_drop];omega)
     have l1:((l.drop 2).take 144).length=144:=by rw[List.length_take,List.length_drop];omega
     have l2:(l.drop 146).length=l.length-146:=List.length_drop;rw[l1] at d1;have L1:(Ah .u64 (G9 ((l.drop 2).take 144))).length=18:=by rw[Ay,Rt,l1]
     have L2:(Ah .u64 (G9 (l.drop 146))).length=(l.length-146) / 8:=by rw[Ay,Rt,l2]
     rw[l2] at d2;have t1:List.take (144 / 8) (Ah .u64 (G9 ((l.drop 2).take 144)))=Ah .u64 (G9 ((l.drop 2).take 144)):=L6 (by omega)
     have t2:List.take ((l.length-146) / 8) (Ah .u64 (G9 (l.drop 146)))=Ah .u64 (G9 (l.drop 146)):=L6 (by omega)
     have t3:List.take (l.length-146) (l.drop 146)=l.drop 146:=L6 (by omega)
     rw[C5 ⟨h2,rfl,rfl,c3⟩];simp (disch:=omega) only[Cu,Hb,EU hx,EU hy,wx,wy,h1,ho,w1,w2,w3,Dc,Km,Re,d1,d2,t3,L1,L2,t1,t2];rw[C5 c3];simp only[Aiv,Sg.owned,Rt,l1,l2]
    ·rw[Bn (by simp[c3])]
     simp (disch:=omega) only[Cu,Hb,EU hx,EU hy,wx,wy,h1,ho,w1,w2,w3];rw[Bn c3];rfl
   ·rw[c2] at ho;rw[Bn (by simp)]
    simp (disch:=omega) only[Cu,Hb,EU hx,EU hy,wx,wy,h1,ho];rfl
  ·rw[c1] at h1;rw[Bn (by simp)]
   simp (disch:=omega) only[Cu,Hb,EU hx,EU hy,wx,wy,h1];rfl
 ·rw[Bn (by simp[h2])]
  simp (disch:=omega) only[Cu];rfl
end
end
section
open Go.IntKind (wrap)
def MV (seed leaf chain:Int):Int:=Auj seed 1 (A8 [wrap .u64 leaf,wrap .u64 chain])
def BC (seed leaf:Int)(c:Nat):Int:=T9 leaf c 15 0 (MV seed leaf c)
def J9 (seed leaf:Int):Int:=BZ leaf ((List.range 18).map (BC seed leaf))
def PO (seed leaf m:Int)(c:Nat):Int:=T9 leaf c (dg m c).toNat 0 (MV seed leaf c)
def Px (seed leaf m:Int):List Int:=(List.range 18).map (PO seed leaf m)
def Ct (seed:Int):Nat->Int->Int
 |0,i=>J9 seed i
 |l+1,i=>O6 ((l+1:Nat):Int) (Ct seed l (2*i)) (Ct seed l (2*i+1))
def Vh (seed:Int)(h:Int):Ky:=if Ex h=true then ⟨0,0⟩ else ⟨h,Ct seed h.toNat 0⟩
def J2 (leaf:Int)(k:Nat):Int:=E5 .i64 (Is .i64 leaf k) 1
def Ak3 (seed:Int)(h leaf m:Int):Option Sg:=if Ex h=true then none else if Qq leaf h=true then none else some ⟨leaf,Px seed leaf m,(List.range h.toNat).map fun k=>Ct seed k (J2 leaf k)⟩
end
section
open Go.Proofs.Tryz (prog)
open Go.IntKind (wrap)
set_option maxRecDepth 20000
section
variable {fu d:Nat} {xs:FuncId->Option (List PV->Option A5)}
theorem Azz {l:List Int}(hb:Li l)(hl:l.length<=1099511627776)(Ca:100<=fu)(hf:l.length<fu)(key dom:Int):Ad (CX xs) prog fu (d+5) GY [.sc (.int .u64 key),.sc (.int .i64 dom),.lst false 1 l.length (Ah .u8 l)]=some ⟨[.sc (.int .u64 (Auj key dom l))],[]⟩:=by
 rw[Aaa];have s:=Ao1 (xs:=xs) (fu:=fu) (d:=d) hb hl Ca hf key (wrap .u64 (1+wrap .u64 dom));simp only[Cu,s];rfl
theorem XW (Ca:1000<=fu)(seed leaf chain:Int):Ad (CX xs) prog fu (d+6) Vx [.sc (.int .u64 seed),.sc (.int .i64 leaf),.sc (.int .i64 chain)]=some ⟨[.sc (.int .u64 (MV seed leaf chain))],[]⟩:=by
 have wd:Ad (CX xs) prog fu (d+5) G0 [.lst false 1 2 [.sc (.int .u64 (wrap .u64 leaf)),.sc (.int .u64 (wrap .u64 chain))]]=_:=Rs (ws:=[wrap .u64 leaf,wrap .u64 chain]) (by simp) (by omega) (by simp;omega)
 have hs:=Azz (xs:=xs) (fu:=fu) (d:=d) (Uz [wrap .u64 leaf,wrap .u64 chain]) (by rw[D3];simp) (by omega) (by rw[D3];simp;omega) seed 1
 have L:=Ay .u8 (A8 [wrap .u64 leaf,wrap .u64 chain]);rw[KG];unfold MV;generalize A8 [wrap .u64 leaf,wrap .u64 chain]=W at wd hs L ⊢;simp (disch:=omega) only[Cu,wd,Dc,Ch,C8,Mt,L,hs]
def pl (g:Nat->Int)(i:Nat):List Int:=(List.range i).map g++List.replicate (18-i) 0
theorem Agb (g:Nat->Int){i:Nat}(h:i<=18):(pl g i).length=18:=by simp[pl];omega
theorem Ar2 (g:Nat->Int){i:Nat}(h:i<18):(pl g i).set i (g i)=pl g (i+1):=by
 unfold pl;rw[List.set_append_right _ _ (by simp),List.length_map,List.length_range,Nat.sub_self,show 18-i=(18-(i+1))+1 by omega,List.replicate_succ,List.set_cons_zero,List.range_succ,List.map_append,Zzv]
 rfl
theorem Axs (g:Nat->Int):pl g 18=(List.range 18).map g:=by simp[pl]
theorem KY {a0 a1 seed leaf:Int}(Ca:1000<=fu):∀(k i nn:Nat),i+k=18->k<nn ->
  Gd fu (Ad (CX xs) prog fu (d+6)) a0 a1 nn seed leaf i (Ah .u64 (pl (BC seed leaf) i))=Gd fu (Ad (CX xs) prog fu (d+6)) a0 a1 (nn-k) seed leaf 18 (Ah .u64 (pl (BC seed leaf) 18))
 |_,_,0,_,h=>by omega
 |0,i,nn+1,hi,hn=>by
  have e:i=18:=by omega
  subst e;rfl
 |k+1,i,nn+1,hi,hn=>by
  have ih:=KY (a0:=a0) (a1:=a1) (seed:=seed) (leaf:=leaf) Ca k (i+1) nn (by omega) (by omega)
  have w:wrap .i64 ((i:Int)+1)=((i+1:Nat):Int):=by rw[Ap (by omega) (by omega)];omega
  have sc:=XW (xs:=xs) (fu:=fu) (d:=d) Ca seed leaf i;have rn:=Aii (xs:=xs) (fu:=fu) (d:=d) (leaf:=leaf) (chain:=i) Ca 15 0 15 (MV seed leaf i) (by omega) (by omega) (by omega)
  have ev:T9 leaf i 15 0 (MV seed leaf i)=BC seed leaf i:=rfl;rw[ev] at rn;have L:(Ah .u64 (pl (BC seed leaf) i)).length=18:=by rw[Ay,Agb _ (by omega)]
  have AZ:Bq (Ah .u64 (pl (BC seed leaf) i)) [.sc (.int .u64 (BC seed leaf i))] i=Ah .u64 (pl (BC seed leaf) (i+1)):=by
   rw[G8 (by omega),M5,Ar2 _ (by omega)]
  rw[show nn+1-(k+1)=nn-k by omega,←ih,Qh]
  simp (disch:=omega) only[Cu,Kz,Dc,Ch,sc,rn,L,AZ,w]
theorem Ahi (Ca:1000<=fu){a0 a1 seed leaf:Int}{nn:Nat}{E:List Int}(hE:E.length=18):
  Gd fu (Ad (CX xs) prog fu (d+6)) a0 a1 (nn+1) seed leaf 18 (Ah .u64 E)=some ⟨[.sc (.int .u64 (BZ leaf E))],[]⟩:=by
 match E,hE with
 |[e0,e1,e2,e3,e4,e5,e6,e7,e8,e9,e10,e11,e12,e13,e14,e15,e16,e17],hE=>
  have cb:=TG (xs:=xs) (fu:=fu) (d:=d) Ca leaf hE;have hc:Ah .u64 [e0,e1,e2,e3,e4,e5,e6,e7,e8,e9,e10,e11,e12,e13,e14,e15,e16,e17]=[.sc (.int .u64 e0),.sc (.int .u64 e1),.sc (.int .u64 e2),.sc (.int .u64 e3),.sc (.int .u64 e4),.sc (.int .u64 e5),.sc (.int .u64 e6),.sc (.int .u64 e7),.sc (.int .u64 e8),.sc (.int .u64 e9),.sc (.int .u64 e10),.sc (.int .u64 e11),.sc (.int .u64 e12),.sc (.int .u64 e13),.sc (.int .u64 e14),.sc (.int .u64 e15),.sc (.int .u64 e16),.sc (.int .u64 e17)]:=rfl;rw[hc] at cb ⊢;generalize BZ leaf [e0,e1,e2,e3,e4,e5,e6,e7,e8,e9,e10,e11,e12,e13,e14,e15,e16,e17]=R at cb ⊢;rw[Qh,Ej _ _ _ (by omega)]
  simp (disch:=omega) only[Cu,AX,BD,List.getD_cons_zero,List.getD_cons_succ,cb]
theorem Alo (Ca:1000<=fu)(seed leaf:Int):Ad (CX xs) prog fu (d+7) Ow [.sc (.int .u64 seed),.sc (.int .i64 leaf)]=some ⟨[.sc (.int .u64 (J9 seed leaf))],[]⟩:=by
 rw[KD];have lp:=KY (xs:=xs) (fu:=fu) (d:=d) (a0:=seed) (a1:=leaf) (seed:=seed) (leaf:=leaf) Ca 18 0 fu (by omega) (by omega)
 obtain⟨f',YZ⟩:∃f',fu-18=f'+1:=⟨fu-19,by omega⟩
 rw[YZ] at lp;refine Eq.trans lp ?_;rw[Axs];exact Ahi Ca (by simp)
theorem WY {a0 a1 a2:Int}{seed leaf m:Int}(Ca:1000<=fu)(g:Nat->Int)(hg:∀k,g k=dg m k):∀(k i nn:Nat),i+k=18->k<nn ->
  Lt fu (Ad (CX xs) prog fu (d+6)) a0 a1 a2 nn seed leaf (g 0) (g 1) (g 2) (g 3) (g 4) (g 5) (g 6) (g 7) (g 8) (g 9) (g 10) (g 11) (g 12) (g 13) (g 14) (g 15) (g 16) (g 17) i (Ah .u64 (pl (PO seed leaf m) i)) =
   some ⟨[.own 1 18 (Ah .u64 (Px seed leaf m))],[]⟩
 |_,_,0,_,h=>by omega
 |0,i,nn+1,hi,hn=>by
  have e:i=18:=by omega
  subst e;have L:(Ah .u64 (pl (PO seed leaf m) 18)).length=18:=by rw[Ay,Agb _ (by omega)]
  have T:List.take 18 (Ah .u64 (pl (PO seed leaf m) 18))=Ah .u64 (Px seed leaf m):=by rw[L6 (by omega),Axs];rfl
  rw[S4,Ej _ _ _ (by omega)]
  simp (disch:=omega) only[Cu,L,T]
 |k+1,i,nn+1,hi,hn=>by
  have ih:=WY (a0:=a0) (a1:=a1) (a2:=a2) (seed:=seed) (leaf:=leaf) (m:=m) Ca g hg k (i+1) nn (by omega) (by omega)
  have hb:=JY m i;have hgi:=Axv g (i:=i) (by omega)
  have w:wrap .i64 ((i:Int)+1)=((i+1:Nat):Int):=by rw[Ap (by omega) (by omega)];omega
  have sc:=XW (xs:=xs) (fu:=fu) (d:=d) Ca seed leaf i;have rn:=Aii (xs:=xs) (fu:=fu) (d:=d) (leaf:=leaf) (chain:=i) Ca (dg m i).toNat 0 (g i) (MV seed leaf i) (by rw[hg];omega) (by omega) (by rw[hg];omega)
  have ev:T9 leaf i (dg m i).toNat 0 (MV seed leaf i)=PO seed leaf m i:=rfl;rw[ev] at rn;have L:(Ah .u64 (pl (PO seed leaf m) i)).length=18:=by rw[Ay,Agb _ (by omega)]
  have AZ:Bq (Ah .u64 (pl (PO seed leaf m) i)) [.sc (.int .u64 (PO seed leaf m i))] i=Ah .u64 (pl (PO seed leaf m) (i+1)):=by
   rw[G8 (by omega),M5,Ar2 _ (by omega)]
  rw[S4];simp (disch:=omega) only[Cu,Kz,Dc,Ch,hgi,sc,rn,L,AZ,w];exact ih
theorem At9 (Ca:1000<=fu)(seed leaf m:Int):Ad (CX xs) prog fu (d+7) Rg [.sc (.int .u64 seed),.sc (.int .i64 leaf),.sc (.int .u64 m)]=some ⟨[.own 1 18 (Ah .u64 (Px seed leaf m))],[]⟩:=by
 rw[QK];have dq:=VY (xs:=xs) (fu:=fu) (d:=d+5) Ca m;have hD:Ah .i64 (dgs m)=[.sc (.int .i64 (dg m 0)),.sc (.int .i64 (dg m 1)),.sc (.int .i64 (dg m 2)),.sc (.int .i64 (dg m 3)),.sc (.int .i64 (dg m 4)),.sc (.int .i64 (dg m 5)),.sc (.int .i64 (dg m 6)),.sc (.int .i64 (dg m 7)),.sc (.int .i64 (dg m 8)),.sc (.int .i64 (dg m 9)),.sc (.int .i64 (dg m 10)),.sc (.int .i64 (dg m 11)),.sc (.int .i64 (dg m 12)),.sc (.int .i64 (dg m 13)),.sc (.int .i64 (dg m 14)),.sc (.int .i64 (dg m 15)),.sc (.int .i64 (dg m 16)),.sc (.int .i64 (dg m 17))]:=rfl;rw[hD] at dq;simp only[Cu,dq];exact WY (fu:=fu) (d:=d) (a0:=seed) (a1:=leaf) (a2:=m) Ca (dg m) (fun _=>rfl) 18 0 fu (by omega) (by omega)
end
end
section
open Go.IntKind (wrap)
def SV (h leaf:Int):Bool:=Ex h||Qq leaf h
def tkL (h leaf:Int):Int:=if SV h leaf=true then 0 else leaf
def tkC (seed h leaf m:Int):List Int:=if SV h leaf=true then [] else Px seed leaf m
def tkP (seed h leaf:Int):List Int:=if SV h leaf=true then [] else (List.range h.toNat).map fun k=>Ct seed k (J2 leaf k)
def tkE (h leaf:Int):Int:=if SV h leaf=true then 9 else 0
def A0x (args:List PV):Option A5:=
 match args with
 |[.sc (.int .u64 seed),.sc (.int .i64 h),.sc (.int .i64 leaf),.sc (.int .u64 m)]=>
  some ⟨[.agg [.sc (.int .i64 (tkL h leaf)),.lst false 1 (tkC seed h leaf m).length (Ah .u64 (tkC seed h leaf m)),.lst false 1 (tkP seed h leaf).length (Ah .u64 (tkP seed h leaf))],.sc (.int .i64 (tkE h leaf))],[]⟩
 |_=>none
structure En where
 k:Int
 na:Nat
 an:List PV
 ns:Nat
 st:List PV
def Wi:List PV->Option (List En)
 |[]=>some []
 |.sc (.int .u64 k) :: .lst false 3 na an :: .lst false 2 ns st::r=>bif Nat.beq an.length (na*3)&&Nat.beq st.length (ns*2)&&Nat.ble na 1000&&Nat.ble ns 1000 then (Wi r).map (⟨k,na,an,ns,st⟩ :: ·) else none
 |_=>none
def Q1:List PV->Option (List (Int × Int))
 |[]=>some []
 |.sc (.int .i64 k) :: .sc (.int .i64 t)::r=>(Q1 r).map ((k,t) :: ·)
 |_=>none
def Aih (model:Int)(es:List En):List PV:=match es.find? fun e=>e.k==model with|some e=>e.st|none=>[]
def Hg (now:Int)(l:List (Int × Int)):Int:=match l.reverse.find? fun p=>decide (p.2<=now) with|some p=>p.1|none=>0
def Ajb (args:List PV):Option A5:=
  match args with
  |[.agg [.sc (.int .i64 _),.sc (.int .i64 _),.sc (.int .i64 _),.lst false 3 n c,.sc (.int .i64 _),.lst false 1 _ _,.lst false 1 _ _],.sc (.int .u64 model),.sc (.int .i64 now)]=>
    bif Nat.beq c.length (n*3)&&Nat.ble n 1000 then
      (match Wi c with
       |some es=>(match Q1 (Aih model es) with|some l=>some ⟨[.sc (.int .i64 (Hg now l))],[]⟩|none=>none)
       |none=>none)
    else none
  |_=>none
def Pq (f:FuncId):Option (List PV->Option A5):=
 bif Nat.beq f 126 then some RU else
 bif Nat.beq f 148 then some Yw else
 bif Nat.beq f 36 then some A0x else
 bif Nat.beq f 29 then some Ajb else
 bif Nat.beq f 1000000 then some (fun _=>none) else none
abbrev C0:Ji:=CX Pq
end
section
open Go.Proofs.Tryz (prog)
open Go.IntKind (wrap)
set_option maxRecDepth 100000
abbrev Jg:FuncId:=71
theorem N6 {xs:FuncId->Option (List PV->Option A5)} (fu d Be:Nat)(a0:List PV):Ad (CX xs) prog fu (d+1) Jg [.lst false 3 Be a0]=(fun (call:Af)=>Bk (decide (0<Be)) (Ar (decide (a0.length=Be*3)&&decide ((0+Be)*32<=1099511627776)&&decide (0+Be<=1099511627776))<|Aa (0+Be) fun x1=>Aa ([]++a0) fun x2=>Ar (decide (0+x1*3<=x2.length))<|some (A5.mk [.lst false 3 x1 (List.take (x1*3) (List.drop 0 x2))] [])) (Xj (some (A5.mk [.lst false 3 0 []] [])) (Ar (decide (a0.length=Be*3)&&decide ((0+Be)*32<=1099511627776)&&decide (0+Be<=1099511627776))<|Aa (0+Be) fun x3=>Aa ([]++a0) fun x4=>Ar (decide (0+x3*3<=x4.length))<|some (A5.mk [.lst false 3 x3 (List.take (x3*3) (List.drop 0 x4))] [])))) (Ad (CX xs) prog fu d):=by kernel_rfl
abbrev Jl:FuncId:=72
theorem N8 {xs:FuncId->Option (List PV->Option A5)} (fu d Be:Nat)(a0:List PV):Ad (CX xs) prog fu (d+1) Jl [.lst false 2 Be a0]=(fun (call:Af)=>Bk (decide (0<Be)) (Ar (decide (a0.length=Be*2)&&decide ((0+Be)*16<=1099511627776)&&decide (0+Be<=1099511627776))<|Aa (0+Be) fun x1=>Aa ([]++a0) fun x2=>Ar (decide (0+x1*2<=x2.length))<|some (A5.mk [.lst false 2 x1 (List.take (x1*2) (List.drop 0 x2))] [])) (Xj (some (A5.mk [.lst false 2 0 []] [])) (Ar (decide (a0.length=Be*2)&&decide ((0+Be)*16<=1099511627776)&&decide (0+Be<=1099511627776))<|Aa (0+Be) fun x3=>Aa ([]++a0) fun x4=>Ar (decide (0+x3*2<=x4.length))<|some (A5.mk [.lst false 2 x3 (List.take (x3*2) (List.drop 0 x4))] [])))) (Ad (CX xs) prog fu d):=by kernel_rfl
abbrev J6:FuncId:=37
theorem Pr {xs:FuncId->Option (List PV->Option A5)} (fu d:Nat)(Ak:Int)(Cd:Nat)(Al:List PV)(Bp:Nat)(Bd:List PV):Ad (CX xs) prog fu (d+1) J6 [.agg [.sc (.int .u64 Ak),.lst false 3 Cd Al,.lst false 2 Bp Bd]]=(fun (call:Af)=>Aj (call 71 [.lst false 3 Cd Al]) fun x1 x2=>Ac x2<|Ab x1 fun x3 x4=>Em 3 x3 fun x5 x6 x7=>Ac x4<|Aj (call 72 [.lst false 2 Bp Bd]) fun x8 x9=>Ac x9<|Ab x8 fun C7 Dm=>Em 2 C7 fun Eh E6 D8=>Ac Dm<|some (A5.mk [.agg [.sc (.int .u64 Ak),.lst false 3 x6 x7,.lst false 2 E6 D8]] [])) (Ad (CX xs) prog fu d):=by kernel_rfl
abbrev M8:FuncId:=52
noncomputable def Iy (fu:Nat)(call:Af)(Ak Al Bd:Int)(Cp:Nat)(Cy:List PV)(Ff:Int)(C3:Nat)(Fh:List PV)(C4:Nat)(Fi:List PV)(a1:Int)(nn:Nat)(y0:Int)(y1:Nat)(y2:List PV)(y3 y4 y5:Int)(y6 y7:Nat)(y8 y9:List PV):Option A5:=Dh CB prog fu call 52 Tryz.f52 (B7 Tryz.f52) [.agg [.sc (.int .i64 Ak),.sc (.int .i64 Al),.sc (.int .i64 Bd),.lst false 3 Cp Cy,.sc (.int .i64 Ff),.lst false 1 C3 Fh,.lst false 1 C4 Fi],.sc (.int .u64 a1)] [.r,.l,.r,.l] nn ⟨lk [(1,(.sc (.int .u64 y0))),(4,(.ptr 4 0)),(9,(.lst false 3 y1 y2)),(10,(.sc (.int .i64 y3))),(11,(.sc (.int .i64 y4)))],Bu [(4,(.st [(.sc (.int .u64 y5)),(.view 50 3 0 y6),(.view 73 2 0 y7)])),(50,(.ar false y8)),(73,(.ar false y9))]⟩
theorem Pf (fu:Nat)(call:Af)(Ak Al Bd:Int)(Cp:Nat)(Cy:List PV)(Ff:Int)(C3:Nat)(Fh:List PV)(C4:Nat)(Fi:List PV)(a1:Int)(nn:Nat)(y0:Int)(y1:Nat)(y2:List PV)(y3 y4 y5:Int)(y6 y7:Nat)(y8 y9:List PV):Iy fu call Ak Al Bd Cp Cy Ff C3 Fh C4 Fi a1 (nn+1) y0 y1 y2 y3 y4 y5 y6 y7 y8 y9=(Bk (decide (y4<y3)) (Ar (decide (0<=y4)&&decide (y4<(↑y1:Int)))<|Ae .u64 (List.getD y2 (Int.toNat y4*3) .top) fun x1=>Em 3 (List.getD y2 (Int.toNat y4*3+1) .top) fun x2 x3 x4=>Em 2 (List.getD y2 (Int.toNat y4*3+1+1) .top) fun x5 x6 x7=>Bk (x1==y0) (Aj (call 37 [.agg [.sc (.int .u64 x1),.lst false 3 x3 x4,.lst false 2 x6 x7]]) fun x8 x9=>Ac x9<|Ab x8 fun C7 Dm=>Ft C7 fun Eh=>Ab Eh fun E6 D8=>Ae .u64 E6 fun Ez=>Ab D8 fun Fu Gt=>Em 3 Fu fun G7 Gj Gx=>Ab Gt fun Ju H3=>Em 2 Ju fun Jd Fn Ev=>Ac H3<|Ac Dm<|some (A5.mk [.agg [.sc (.int .u64 Ez),.lst false 3 Gj Gx,.lst false 2 Fn Ev],.sc (.bool true)] [])) (Aa (wrap .i64 (y4+1)) fun Hz=>Iy fu call Ak Al Bd Cp Cy Ff C3 Fh C4 Fi a1 (nn) (y0) (y1) (y2) (y3) Hz (y5) (y6) (y7) (y8) (y9))) (some (A5.mk [.agg [.sc (.int .u64 0),.lst false 3 0 [],.lst false 2 0 []],.sc (.bool false)] []))):=by kernel_rfl
theorem GH {xs:FuncId->Option (List PV->Option A5)} (fu d:Nat)(Ak Al Bd:Int)(Cp:Nat)(Cy:List PV)(Ff:Int)(C3:Nat)(Fh:List PV)(C4:Nat)(Fi:List PV)(a1:Int):Ad (CX xs) prog fu (d+1) M8 [.agg [.sc (.int .i64 Ak),.sc (.int .i64 Al),.sc (.int .i64 Bd),.lst false 3 Cp Cy,.sc (.int .i64 Ff),.lst false 1 C3 Fh,.lst false 1 C4 Fi],.sc (.int .u64 a1)]=(fun (call:Af)=>Iy fu call Ak Al Bd Cp Cy Ff C3 Fh C4 Fi a1 (fu) (a1) (Cp) (Cy) ((↑Cp:Int)) 0 0 0 0 ([]) ([])) (Ad (CX xs) prog fu d):=by kernel_rfl
end
section
open Go.IntKind (wrap)
open Go Go.RowKit
structure R4 (Z Z':Nat->Prop) (w w':World):Prop where
 os:w'.os=w.os
 tape:w'.tape=w.tape
 output:w'.output=w.output
 size:w.heap.size<=w'.heap.size
 keep:∀b,b<w.heap.size->¬Z b->w'.heap[b]?=w.heap[b]?
 sub:∀b,Z b->Z' b
 new:∀b,Z' b->Z b∨w.heap.size<=b
 lt:∀b,Z' b->b<w'.heap.size
 bs:∀b,b<w.heap.size->bsz w b<=bsz w' b
structure M3 (Z:Nat->Prop) (w w':World):Prop where
 os:w'.os=w.os
 tape:w'.tape=w.tape
 output:w'.output=w.output
 size:w.heap.size<=w'.heap.size
 same:∀b,Z b->w'.heap[b]?=w.heap[b]?
theorem M3.sub {Z Z':Nat->Prop}{w w':World}(h:M3 Z w w')(hs:∀b,Z' b->Z b):M3 Z' w w':=⟨h.os,h.tape,h.output,h.size,fun b hb=>h.same b (hs b hb)⟩
def Axp {α:Type}(P:Program)(gf:Nat)(lb:Array Value)(M:List α->α->Array Value->(Nat->Prop)->World->Prop) (S Sp:List α->Prop)(Pre:(Nat->Prop)->World->Prop):Prop:=
 ∀(l:Nat) (J Jx:(Nat->Prop)->List α->World->Prop) (W:World) (Z0:Nat->Prop),(∀b,Z0 b->b<W.heap.size)->Pre Z0 W ->
  (∀Z pre A B,J Z pre A->M3 Z A B->J Z pre B)->(∀Z pre A B,Jx Z pre A->M3 Z A B->Jx Z pre B) ->
  (∀Z pre x args A,J Z pre A->M pre x args Z A->YieldAt Fence.wide 0 P l args A fun e B=>∃Z',R4 Z Z' A B ∧
   ((e=.returned (.bool true)∧J Z' (pre++[x]) B)∨(e=.returned (.bool false)∧Jx Z' (pre++[x]) B))) ->
  J Z0 [] W ->
  Calls P gf (#[.func (.yield l) #[] #[]]++lb) W fun e B=>(∃v,e=.returned v)∧∃Z xs,(S xs∧J Z xs B)∨(Sp xs∧Jx Z xs B)
theorem KZ {P:Program}{n m l:Nat}{f:FuncId}{tmps:Array Value}{assign body:Code}{w:World}{R:Ending->World->Prop}(h:RoundIn Fence.wide n P l f tmps assign body w R):RoundIn Fence.wide m P l f tmps assign body w R:=
 ⟨h.1,fun c cs _=>h.2 c cs (room_wide _)⟩
def KE {α:Type}(D:Nat)(I:(Nat->Prop)->List α->World->Prop) (Ix:Code->(Nat->Prop)->List α->World->Prop) (Z:Nat->Prop)(xs:List α)(A:World):Exit->Act->World->Prop:=fun e _ B=>
 ∃Z',R4 Z Z' A B∧B.heap[D]?=A.heap[D]?∧B.heap[D+1]?=A.heap[D+1]? ∧
  match e with
  |.normal=>I Z' xs B
  |.ret=>Ix .ret Z' xs B
  |.exit id=>Ix (.exit id) Z' xs B
  |.goto t=>Ix (.goto t) Z' xs B
  |_=>False
theorem Als {α:Type}{P:Program}{n:Nat}{g:Operand}{ps:Array Tmp}{assign body:Code}{Q:Exit->Act->World->Prop}{a:Act}{w:World}{gf:Nat}{lb:Array Value}
  (hg:a.eval g=.func (.func gf) #[] lb) (eg:∀args w,(callFunc gf args).run P w=.ok (.enter gf args) w)
  {M:List α->α->Array Value->(Nat->Prop)->World->Prop} {S Sp:List α->Prop} {Pre:(Nat->Prop)->World->Prop} (hit:Axp P gf lb M S Sp Pre) {Z0:Nat->Prop} (hZ0:∀b,Z0 b->b<w.heap.size)
  (Aou:∀W:World,W.heap.size=w.heap.size+2->(∀b,b<w.heap.size->W.heap[b]?=w.heap[b]?)->Pre (fun b=>Z0 b∨b=w.heap.size∨b=w.heap.size+1) W)
  (hM:∀pre x args Z A B,M pre x args Z A->A.heap.size<=B.heap.size->(∀b,b<A.heap.size->¬Z b->B.heap[b]?=A.heap[b]?)->M pre x args Z B)
  (LH:∀pre x args Z A,M pre x args Z A->args.size=ps.size)
  (I:(Nat->Prop)->List α->World->Prop) (Ix:Code->(Nat->Prop)->List α->World->Prop)
  (hI:∀Z pre A B,I Z pre A->M3 (fun b=>Z b∧b≠w.heap.size∧b≠w.heap.size+1) A B->I Z pre B)
  (hIx:∀c Z pre A B,Ix c Z pre A->M3 (fun b=>Z b∧b≠w.heap.size∧b≠w.heap.size+1) A B->Ix c Z pre B)
  (h0:∀W,W.heap.size=w.heap.size+2->M3 (fun b=>b<w.heap.size) w W->I (fun b=>Z0 b∨b=w.heap.size∨b=w.heap.size+1) [] W)
  (a₁:Array Value->Act)
  (HV:∀pre x args Z A (K:Act->World->Prop),M pre x args Z A->K (a₁ args) A->assign.wpIn (Fence.wide.inRound (w.heap.size+1)) 0 P (Exit.then K (fun _ _ _=>False)) { tmps:=(ps.zip args).foldl (fun t (p,v)=>t.setIfInBounds p v) a.tmps,defers:=[] } A)
  (Acr:∀Z pre x args A,Z w.heap.size->Z (w.heap.size+1)->I Z pre A->M pre x args Z A->body.wpIn (Fence.wide.inRound (w.heap.size+1)) 0 P (KE w.heap.size I Ix Z (pre++[x]) A) (a₁ args) A)
  (Ac1:∀Z xs B,S xs->I Z xs B->B.heap[w.heap.size]?=some (.deferred (some []))->Q .normal { a with defers:={ target:=.collected w.heap.size,args:= #[] }::a.defers } B)
  (Adt:∀c Z xs B,Sp xs->Ix c Z xs B->B.heap[w.heap.size]?=some (.deferred (some []))->c.wpIn Fence.wide n P Q { a with defers:={ target:=.collected w.heap.size,args:= #[] }::a.defers } B):
  (Code.rangeFunc g ps assign body).wpIn Fence.wide n P Q a w:=by
 refine wpIn_rangeFunc ?_;intro fn hfn;obtain⟨rec,Wo⟩:∃rec:LoopState->Option Code->Loop,rec=fun st pe=>{ state:=st,pending:=pe,fn,tmps:=a.tmps,params:=ps,assign,body,defers:=w.heap.size }:=⟨_,rfl⟩
 obtain⟨D,hD⟩:∃D,w.heap.size=D:=⟨_,rfl⟩;rw[hD] at hI hIx h0 HV Acr Ac1 Adt hZ0 Aou;obtain⟨W1,hW1⟩:∃W1,(w.alloc (.deferred (some []))).alloc (.loop (rec .ready none))=W1:=⟨_,rfl⟩;have KQ:W1.heap.size=D+2:=by rw[←hW1,World.size_alloc,World.size_alloc,hD]
 have hL1:W1.heap[D+1]?=some (.loop (rec .ready none)):=by
  rw[←hW1,←hD];have:=World.alloc_heap_new (w.alloc (.deferred (some []))) (.loop (rec .ready none));rwa [World.size_alloc] at this
 have hK1:W1.heap[D]?=some (.deferred (some [])):=by
  rw[←hW1,←hD];exact (Below.heap_alloc _ _ _ (by simp)).trans (World.alloc_heap_new w _)
 have Gv:M3 (fun b=>b<D) w W1:=by
  rw[←hW1,←hD];exact⟨rfl,rfl,rfl,by simp;omega,fun b hb=>(Below.heap_alloc _ _ _ (by simp;omega)).trans (Below.heap_alloc _ _ _ hb)⟩
 refine⟨D+1,[{ target:=.collected D,args:= #[] }],W1,{ target:=.fn (.func gf) lb,args:= #[.func (.yield (D+1)) #[] #[]] },W1,gf,
  #[.func (.yield (D+1)) #[] #[]]++lb,W1,?_,?_,fun _ _=>trivial,?_,(fun h=>by cases h),?_⟩
 ·rw[←hW1,Wo,←hD];exact run_enterLoop_outer _ _ _ _ _
 ·simp only[resolve,hg];simp[go_sem]
 ·simp[invoke,go_sem,eg]
 ·have put:∀{Z:Nat->Prop} {A:World} (o:Obj),M3 (fun b=>Z b∧b≠D∧b≠D+1) A (A.putObj (D+1) o):=fun o=>
   ⟨rfl,rfl,rfl,by simp,fun b hb=>World.putObj_heap_other hb.2.2⟩
  refine callsIn_wide.2 (Calls.mono (hit (D+1)
   (fun Z pre A=>(Z D∧Z (D+1))∧I Z pre A∧A.heap[D+1]?=some (.loop (rec .ready none))∧A.heap[D]?=some (.deferred (some [])))
   (fun Z pre A=>(Z D∧Z (D+1))∧∃c,Ix c Z pre A∧A.heap[D+1]?=some (.loop (rec .done (some c)))∧A.heap[D]?=some (.deferred (some [])))
   W1 (fun b=>Z0 b∨b=D∨b=D+1) (fun b hb=>by rw[KQ];exact hb.elim (fun h=>by have:=hZ0 b h;omega) fun h=>by omega) (Aou W1 KQ (fun b hb=>Gv.same b hb)) ?_ ?_ ?_ ?_) ?_)
  ·rintro Z pre A B ⟨hz,hi,hl,hk⟩ hs
   exact⟨hz,hI Z pre A B hi (hs.sub fun _ h=>h.1),(hs.same _ hz.2).trans hl,(hs.same _ hz.1).trans hk⟩
  ·rintro Z pre A B ⟨hz,c,hi,hl,hk⟩ hs
   exact⟨hz,c,hIx c Z pre A B hi (hs.sub fun _ h=>h.1),(hs.same _ hz.2).trans hl,(hs.same _ hz.1).trans hk⟩
  ·rintro Z pre x args A ⟨hz,hi,hl,hk⟩ hm
   have Cc:D+1<A.heap.size:=(Array.getElem?_eq_some_iff.1 hl).1;have hy:=run_yield (P:=P) (args:=args) hl (by rw[Wo];exact LH pre x args Z A hm)
   rw[Wo] at hy;refine⟨fn,_,assign,body,hy,roundIn_of_wpIn hfn (HV pre x args Z A _ hm ?_)⟩;refine⟨_,run_beginRound hl (by rw[Wo]),?_⟩
   obtain⟨A2,hA2⟩:∃A2,A.putObj (D+1) (.loop { rec .ready none with state:=.busy })=A2:=⟨_,rfl⟩;rw[hA2];have NQ:A2.heap[D+1]?=some (.loop { rec .ready none with state:=.busy }):=by rw[←hA2];exact World.putObj_heap_same Cc
   have Gi:A2.heap[D]?=some (.deferred (some [])):=by rw[←hA2];exact (World.putObj_heap_other (by omega)).trans hk
   have hz2:A2.heap.size=A.heap.size:=by rw[←hA2];simp
   have hi2:I Z pre A2:=by rw[←hA2];exact hI Z pre A _ hi (put _)
   have hm2:M pre x args Z A2:=by
    rw[←hA2];exact hM pre x args Z A _ hm (by simp) fun b _ hb=>World.putObj_heap_other fun e=>hb (e ▸ hz.2)
   refine wpIn_mono (Acr Z pre x args A2 hz.1 hz.2 hi2 hm2) ?_
   have fin:∀(jump:Option Code) (W3:World) (Z':Nat->Prop),R4 Z Z' A2 W3->W3.heap[D]?=A2.heap[D]?->W3.heap[D+1]?=A2.heap[D+1]? ->
     (Instr.endRound (D+1) jump).run P W3=.ok (.bool jump.isNone) (W3.putObj (D+1) (.loop (rec (if jump.isNone then .ready else .done) jump))) ∧
     (W3.putObj (D+1) (.loop (rec (if jump.isNone then .ready else .done) jump))).heap[D+1]?=some (.loop (rec (if jump.isNone then .ready else .done) jump)) ∧
     (W3.putObj (D+1) (.loop (rec (if jump.isNone then .ready else .done) jump))).heap[D]?=some (.deferred (some [])) ∧
     R4 Z Z' A (W3.putObj (D+1) (.loop (rec (if jump.isNone then .ready else .done) jump))):=fun jump W3 Z' ht e1 e2=>by
    have hl3:=e2.trans NQ;have:=run_endRound (P:=P) jump hl3;rw[Wo] at this ⊢;refine⟨this,World.putObj_heap_same (Array.getElem?_eq_some_iff.1 hl3).1,(World.putObj_heap_other (by omega)).trans (e1.trans Gi),?_⟩
    have hA:A2.os=A.os∧A2.tape=A.tape∧A2.output=A.output:=by rw[←hA2];exact⟨rfl,rfl,rfl⟩
    refine⟨ht.os.trans hA.1,ht.tape.trans hA.2.1,ht.output.trans hA.2.2,by have:=ht.size;simp;omega,fun b hb hn=>?_,ht.sub,fun b hb=>by have:=ht.new b hb;rw[hz2] at this;exact this,fun b hb=>by simpa using ht.lt b hb,fun b hb=>?_⟩
    ·have Gg:b≠D+1:=fun e=>hn (e ▸ hz.2)
     rw[World.putObj_heap_other Gg,ht.keep b (by omega) hn,←hA2,World.putObj_heap_other Gg]
    ·by_cases Gg:b=D+1
     ·subst Gg;unfold bsz;rw[hl];exact Nat.zero_le _
     ·have h5:=ht.bs b (by omega)
      have h6:bsz A2 b=bsz A b:=by unfold bsz;rw[←hA2,World.putObj_heap_other Gg]
      have h7:∀o,bsz (W3.putObj (D+1) o) b=bsz W3 b:=fun o=>by unfold bsz;rw[World.putObj_heap_other Gg]
      rw[h7,←h6];exact h5
   rintro e a3 W3 ⟨Z',ht,e1,e2,hp⟩
   cases e with
   |normal=>
    obtain⟨hr,hl4,T8,ht4⟩:=fin none W3 Z' ht e1 e2;exact⟨_,_,hr,Z',ht4,.inl ⟨rfl,⟨ht.sub _ hz.1,ht.sub _ hz.2⟩,hI Z' _ _ _ hp (put _),hl4,T8⟩⟩
   |ret=>
    obtain⟨hr,hl4,T8,ht4⟩:=fin (some .ret) W3 Z' ht e1 e2;exact⟨_,_,hr,Z',ht4,.inr ⟨rfl,⟨ht.sub _ hz.1,ht.sub _ hz.2⟩,.ret,hIx _ Z' _ _ _ hp (put _),hl4,T8⟩⟩
   |exit id=>
    obtain⟨hr,hl4,T8,ht4⟩:=fin (some (.exit id)) W3 Z' ht e1 e2;exact⟨_,_,hr,Z',ht4,.inr ⟨rfl,⟨ht.sub _ hz.1,ht.sub _ hz.2⟩,.exit id,hIx _ Z' _ _ _ hp (put _),hl4,T8⟩⟩
   |goto t=>
    obtain⟨hr,hl4,T8,ht4⟩:=fin (some (.goto t)) W3 Z' ht e1 e2;exact⟨_,_,hr,Z',ht4,.inr ⟨rfl,⟨ht.sub _ hz.1,ht.sub _ hz.2⟩,.goto t,hIx _ Z' _ _ _ hp (put _),hl4,T8⟩⟩
   |panic ch=>exact hp.elim
   |outgrown=>exact hp.elim
  ·exact⟨⟨.inr (.inl rfl),.inr (.inr rfl)⟩,h0 W1 KQ Gv,hL1,hK1⟩
  ·rintro e W2 ⟨⟨v,rfl⟩,Z,xs,(⟨hS,hz,hi,hl,hk⟩|⟨hSp,hz,c,hi,hl,hk⟩)⟩
   ·exact⟨none,_,by have:=run_endLoop (P:=P) hl (by rw[Wo];simp);rw[Wo] at this;exact this,Ac1 Z xs _ hS (hI Z _ _ _ hi (put _)) ((World.putObj_heap_other (by omega)).trans hk)⟩
   ·exact⟨some c,_,by have:=run_endLoop (P:=P) hl (by rw[Wo];simp);rw[Wo] at this;exact this,Adt c Z xs _ hSp (hIx c Z _ _ _ hi (put _)) ((World.putObj_heap_other (by omega)).trans hk)⟩
def Alv (s:St)(β:Bt):Fz:={ X:=DF s.hp β,L:=fun b _=>DF s.hp β b,pn:=fun _=>False,pt:=fun _=>none,p8:=fun _ h=>h.elim }
theorem B3.rebase {N:Nat}{w0 w w':World}{X0:Fz}{Y Z':Nat->Prop}{β:Bt}{s:St}{a:Act}(h:B3 N w0 X0 Y β s a w)(ht:R4 Y Z' w w')(hns:∀id c,s.hp id≠some (.st c)):B3 N w' (Alv s β) Z' β s a w':=by
 have hW:Cq (De s.hp β Y) w w':=⟨ht.size,fun b hb hn=>ht.keep b hb fun y=>hn (.inr y),ht.bs⟩
 have hA:∀b,b<w.heap.size->De s.hp β Z' b->De s.hp β Y b:=by
  rintro b hb (hx|hz)
  ·exact .inl hx
  ·rcases ht.new b hz with h1|h1
   ·exact .inr h1
   ·omega
 have Xl:∀b,b<w.heap.size->¬Y b->w'.heap[b]?=w.heap[b]?:=ht.keep
 refine⟨h.dfr,h.tsz,h.tmo,fun i hi=>(h.tms i hi).step hW hA fun _ _=>rfl,fun id bx Nv=>?_,h.inj,fun id b o h1 h2=>Nat.lt_of_lt_of_le (h.blt id b o h1 h2) ht.size,h.wfT,h.wfB,fun b hb=>.inl hb,
  fun id bx b o h1 h2 h3 _ j _=>⟨id,o,by rw[h1];exact h2,h3⟩,fun i hi=>hi.elim,fun id c b o h1=>absurd h1 (hns id c),fun b hz=>?_,ht.lt,⟨rfl,rfl,rfl,⟨Nat.le_refl _,fun _ _ _=>rfl,fun _ _=>Nat.le_refl _⟩,fun _ _ _ _=>⟨rfl,rfl⟩⟩⟩
 ·cases bx with
  |st c=>exact absurd Nv (hns id c)
  |mv=>trivial
  |ar fz cells=>
   rcases h.box id _ Nv with h1|⟨b,o,h1,h2,h3,h4⟩
   ·exact .inl h1
   ·have Cc:b<w.heap.size:=h.blt id b o (by rw[Nv];simp) h1
    have hnY:¬Y b:=by
     cases fz with
     |false=>exact fun y=>h.Yx b y ⟨id,o,by rw[Nv];trivial,h1⟩
     |true=>exact fun y=>h4 rfl (.inr y)
    have hh:=Xl b Cc hnY;have I7:bsz w' b=bsz w b:=by unfold bsz;rw[hh]
    refine .inr ⟨b,o,h1,fun j c hj=>?_,fun hf j hj hjb=>?_,fun hf=>fun hA'=>h4 hf (hA b Cc hA')⟩
    ·obtain⟨v,hv,hv1,hv2⟩:=h2 j c hj;exact⟨v,(World.cell?_of_block (a:=(⟨b,o,none⟩:Addr).add j) (by rw[Hh];exact hh)).trans hv,hv1,hv2.step hW hA⟩
    ·rw[I7] at hjb;have:=h3 hf j hj hjb;rw[←this];unfold World.frozen?;simp only[hh]
 ·rintro⟨id,o,h1,h2⟩
  have Cc:b<w.heap.size:=h.blt id b o (Dk h1) h2;rcases ht.new b hz with h3|h3
  ·exact h.Yx b h3 ⟨id,o,h1,h2⟩
  ·omega
theorem B3.stay {N:Nat}{w0 w:World}{X0:Fz}{Y:Nat->Prop}{β:Bt}{s:St}{a:Act}(h:B3 N w0 X0 Y β s a w)(hd:∀b,Y b->¬X0.X b):M3 Y w0 w:=
 ⟨h.fr.os,h.fr.tape,h.fr.output,h.fr.step.size,fun b hb=>h.fr.step.keep b (h.Ylt b hb) (hd b hb)⟩
end
section
open Go.IntKind (wrap)
open Go Go.RowKit
abbrev WF (ro:Option Nat):Fence:={ fn:=fun _=>True,depth:=none,alive:=false,round:=ro }
def Abd (o:Oper):Bool:=
 match o.op with
 |.defer _=>false
 |_=>true
def okR:Code->Bool
 |.region _ ops _=>ops.toList.all Abd
 |.seq a b=>okR a&&okR b
 |.cond _ a b=>okR a&&okR b
 |.block _ c=>okR c
 |.loop c=>okR c
 |.skip=>true
 |.exit _=>true
 |.ret=>true
 |_=>false
theorem HA {P:Program}{o:Oper}{a:Act}{w:World}{next:Act->World->Prop}{Q:Exit->Act->World->Prop}{ro:Option Nat}{n:Nat}(hd:Abd o=true)(h:o.wp P a w next Q):o.wpIn (WF ro) n P a w next Q:=by
 refine⟨fun _ _=>trivial,?_⟩
 have e:o.semAt (WF ro).round a.eval=execOp a.eval o:=Oper.semAt_eq _ _ _ (by intro c hc;unfold Abd at hd;rw[hc] at hd;cases hd)
 rw[e];unfold Oper.wp at h
 revert h
 generalize (execOp a.eval o).run P w=q;intro h;cases q with
 |halt x w'=>cases x<;>first|exact h|exact h.elim
 |ok v w'=>
  cases v with
  |value v=>exact h
  |skip=>exact h
  |defer d=>exact h
  |enter f args=>exact⟨(fun h=>by cases h),(callsIn_wide.2 h:CallsIn Fence.wide (n-1) P f args w' _)⟩
  |row row args=>exact⟨(fun h=>by cases h),fun c cs _=>let ⟨v,w',r,s⟩:=h c cs;⟨v,w',r,stepsIn_wide.2 s⟩⟩
  |_=>exact h.elim
theorem Aac {P:Program}{ops:Array Oper}{Q:Exit->Act->World->Prop}{K K':Act->World->Prop}{ro:Option Nat}{i n:Nat}{a:Act}{w:World}(DO:¬LetsOut Q)(TY:ops.toList.all Abd=true)(hK:∀a w,K a w->K' a w)(h:wpOp P ops Q i K a w):wpOpIn (WF ro) n P ops Q i K' a w:=by
 unfold wpOp at h;unfold wpOpIn;cases ho:ops[i]? with
 |none=>rw[ho] at h;exact hK _ _ h
 |some o=>
  rw[ho] at h;simp only at h ⊢;have hn:Abd o=true:=List.all_eq_true.1 TY o (Array.mem_toList_iff.2 (Array.mem_of_getElem? ho));by_cases hw:Region.wanted o (yielded ops a.tmps)=true
  ·rw[C5 hw] at h ⊢;rcases h with h|h
   ·exact HA hn (Oper.wp_mono hK h)
   ·exact absurd h.2 DO
  ·rw[Bn hw] at h ⊢;exact⟨fun _ _=>trivial,hK _ _ h⟩
theorem Uj {P:Program}{ops:Array Oper}{Q:Exit->Act->World->Prop}{ro:Option Nat}{n:Nat}{md:Region.Mode}(DO:¬LetsOut Q)(TY:ops.toList.all Abd=true):∀(fuel:Nat)(listed:Array Bool)(a:Act)(w:World),wpAny P md ops Q fuel listed a w->wpAnyIn (WF ro) n P md ops Q fuel listed a w
 |0,_,_,_,h=>h
 |fuel+1,_,_,_,h=>⟨h.1,fun i hi=>Aac DO TY (fun a w=>Uj DO TY fuel _ a w) (h.2 i hi)⟩
section
variable {P:Program} {C:Ji} {N:Nat} {call:Af} {w0:World} {X0:Fz} {Y:Nat->Prop} {R:Type} {r:R} {β:Bt} {s:St} {a:Act} {w:World} {o:Oper} {ops:Array Oper} {K:St->Option R} {ro:Option Nat} {n:Nat}
theorem MM (h:B3 N w0 X0 Y β s a w){G:U7}(Jr:LO P G w0 X0)(C6:∀f args res,call f args=some res->Da G P f args res)(TY:Abd o=true)(hk:Ec C P N call ops o s K=some r):
  ∃s',K s'=some r∧∀(next:Act->World->Prop) (Q:Exit->Act->World->Prop),(∀a' w' β',B3 N w0 X0 Y β' s' a' w'->next a' w') ->
   if Region.wanted o (yielded ops a.tmps) then o.wpIn (WF ro) n P a w next Q else (∀f,o.about P w a.eval=some f->(WF ro).fn f)∧next (a.put o.dst undef) w:=by
 rw[OL] at hk
 have hw:∀b,H5 ops o s.tm=some b->Region.wanted o (yielded ops a.tmps)=b:=by
  intro b hb;unfold H5 at hb;unfold Region.wanted;cases hg:o.guard with
  |none=>rw[hg] at hb;simpa using hb
  |some q=>
   obtain⟨j,want⟩:=q;rw[hg] at hb;simp only at hb ⊢;cases hd:(ops[j]?).bind (·.dst) with
   |none=>rw[hd] at hb;cases hb
   |some d=>
    rw[hd] at hb;simp only at hb;split at hb
    ·rename_i b' ht;rw[Wb h hd ht];simp at hb;rw[←hb];cases b'<;>cases want<;>rfl
    ·rename_i ht;rw[Wb h hd ht];simp at hb;rw[hb];rfl
    ·cases hb
 split at hk
 ·cases hk
 ·rename_i hv;obtain⟨s',hs',hn⟩:=SH h Jr C6 hk;refine⟨s',hs',fun next Q PJ=>?_⟩
  simp only[hw _ hv,if_true];exact HA TY (hn next Q PJ)
 ·rename_i hv;obtain⟨hd,hk⟩:=Ax hk;refine⟨_,hk,fun next Q PJ=>?_⟩
  simp only[hw _ hv];exact⟨fun _ _=>trivial,PJ _ _ β (h.put hd (A4.sc _) (by simp[B8,Cl,Az]))⟩
theorem CD {G:U7}(Jr:LO P G w0 X0)(C6:∀f args res,call f args=some res->Da G P f args res){Q:Exit->Act->World->Prop}(hQ:∀s' a' w' β',K s'=some r->B3 N w0 X0 Y β' s' a' w'->Q .normal a' w'):
  ∀(li:List Nat) (os:List Oper),li.length=os.length->(∀(k i:Nat),li[k]?=some i->ops[i]?=os[k]?)->os.all Abd=true->∀{s:St} {a:Act} {w:World} {β:Bt},B3 N w0 X0 Y β s a w->K4 C P N call ops os s K=some r->wpOpsIn (WF ro) n P ops Q li a w
 |[],[],_,_,_,s,a,w,β,h,hk=>by
  show Q .normal a w;exact hQ s a w β hk h
 |[],_::_,hl,_,_,_,_,_,_,_,_=>by cases hl
 |_::_,[],hl,_,_,_,_,_,_,_,_=>by cases hl
 |i::li,o::os,hl,hi,TY,s,a,w,β,h,hk=>by
  obtain⟨s1,hk,h⟩:=Wy h hk;rw[List.all_cons,Bool.and_eq_true] at TY;have hio:ops[i]?=some o:=by simpa using hi 0 i rfl
  obtain⟨s',hs',hn⟩:=MM (ro:=ro) (n:=n) h Jr C6 TY.1 hk;unfold wpOpsIn;rw[hio];exact hn _ _ fun a' w' β' h'=>CD Jr C6 hQ li os (by simpa using hl) (fun k j hj=>by simpa using hi (k+1) j (by simpa using hj)) TY.2 h' hs'
theorem MB {c:Code}{Q:Exit->Act->World->Prop}{F:(St->Option R)->St->Option R} {nm:St->(St->Option R)->Option R}
  (hnm:∀{β s a w} {K:St->Option R},B3 N w0 X0 Y β s a w->nm s K=some r->∃β' s',K s'=some r∧B3 N w0 X0 Y β' s' a w)
  (hF:∀{β s a w} {K:St->Option R}{Q':Act->World->Prop},B3 N w0 X0 Y β s a w->F K s=some r->(∀s' a' w' β',K s'=some r->B3 N w0 X0 Y β' s' a' w'->Q' a' w')->c.wpIn (WF ro) n P (Exit.then Q' Q) a w):
  ∀(m:Nat) {β s a w},B3 N w0 X0 Y β s a w->VK F nm m s=some r->Code.roundsIn (WF ro) n P c Q m a w
 |0,_,_,_,_,_,hk=>by cases hk
 |m+1,β,s,a,w,h,hk=>by
  rw[roundsIn_succ];refine hF h hk fun s' a' w' β' I2 h'=>?_
  obtain⟨β1,s1,Eb,h1⟩:=hnm h' I2;exact MB hnm hF m h1 Eb
theorem LU {G:U7}(Jr:LO P G w0 X0)(C6:∀f args res,call f args=some res->Da G P f args res)(hm:P.follows .mixedOrders=true){fu:Nat}:
  ∀(c:Code),okR c=true->∀{ln:Nat} {lx:Nat->Nat} {lr:Nat} {kn:St->Option R} {kx:Nat->St->Option R} {kr:St->Option R} {β:Bt} {s:St} {a:Act} {w:World} {Q:Exit->Act->World->Prop},(∀a w,¬Q .outgrown a w)->B3 N w0 X0 Y β s a w ->
   Nj C P fu N call c ln lx lr kn kx kr s=some r->(∀s' a' w' β',kn s'=some r->B3 N w0 X0 Y β' s' a' w'->Q .normal a' w') ->
   (∀id s' a' w' β',kx id s'=some r->B3 N w0 X0 Y β' s' a' w'->Q (.exit id) a' w')->(∀s' a' w' β',kr s'=some r->B3 N w0 X0 Y β' s' a' w'->Q .ret a' w')->c.wpIn (WF ro) n P Q a w:=by
 intro c
 induction c with
 |skip=>intro _ ln lx lr kn kx kr β s a w Q DO h hk hn hx hr;exact wpIn_skip (hn s a w β hk h)
 |region id ops draw=>
  intro ho ln lx lr kn kx kr β s a w Q DO h hk hn hx hr;unfold okR at ho;unfold Nj at hk;cases draw
  ·simp only[UW,Bool.false_and,cond_false] at hk;refine wpIn_region (CD Jr C6 hn (List.range ops.size) ops.toList (by simp) (fun k i hi=>?_) ho h hk)
   rw[List.getElem?_range] at hi
   ·simp at hi;subst hi;simp
   ·rcases Nat.lt_or_ge k ops.size with h'|h'
    ·exact h'
    ·rw[List.getElem?_eq_none (by simpa using h')] at hi;cases hi
  ·have hLo:¬LetsOut Q:=fun ⟨a,w,q⟩=>DO a w q
   simp only[UW,Aos,Bool.true_and,cond_true] at hk;cases hb:RH C P ops<;>rw[hb] at hk
   ·obtain⟨I7,Eb⟩:=Ax (show Ar _ _=some r from hk)
    exact wpIn_region_any hm (Uj hLo ho _ _ _ _ (Xq h Jr C6 hm I7 Eb hn))
   ·exact wpIn_region_any hm (Uj hLo ho _ _ _ _ (Uw h Jr C6 hm hb hk hn))
 |seq c1 c2 ih1 ih2=>
  intro ho ln lx lr kn kx kr β s a w Q DO h hk hn hx hr;unfold okR at ho;rw[Bool.and_eq_true] at ho;unfold Nj at hk
  refine wpIn_seq (ih1 ho.1 (fun a w=>DO a w) h hk (fun s' a' w' β' I2 h'=>by
    cases hc:Ai2 P c1 c2
    ·rw[hc] at I2;exact ih2 ho.2 DO h' I2 hn hx hr
    ·rw[hc] at I2;cases hq:GM c1 c2
     ·rw[hq] at I2;obtain⟨β1,s1,Eb,h1⟩:=B6 h' (show I3 _ _ _ _=some r from I2)
      exact ih2 ho.2 DO h1 (Zz Eb) hn hx hr
     ·rw[hq] at I2;obtain⟨β1,s1,Eb,h1⟩:=LZ h' (show Aeq _ _ _ _=some r from I2)
      exact ih2 ho.2 DO h1 (Zz Eb) hn hx hr) (fun id s' a' w' β' I2 h'=>hx id s' a' w' β' I2 h') (fun s' a' w' β' I2 h'=>hr s' a' w' β' I2 h'))
 |cond c c1 c2 ih1 ih2=>
  intro ho ln lx lr kn kx kr β s a w Q DO h hk hn hx hr;unfold okR at ho;rw[Bool.and_eq_true] at ho;unfold Nj at hk;rcases MO h hk with⟨hc,Eb⟩|⟨hc,Eb⟩
  ·exact wpIn_cond_true hc (ih1 ho.1 DO h Eb hn hx hr)
  ·exact wpIn_cond_false hc (ih2 ho.2 DO h Eb hn hx hr)
 |block id c ih=>
  intro ho ln lx lr kn kx kr β s a w Q DO h hk hn hx hr;unfold okR at ho;unfold Nj at hk;refine wpIn_block (ih ho (fun a w=>DO a w) h hk (fun s' a' w' β' I2 h'=>hn s' a' w' β' I2 h') (fun j s' a' w' β' I2 h'=>?_) (fun s' a' w' β' I2 h'=>hr s' a' w' β' I2 h'))
  show (if j=id then _ else _)
  by_cases e:j=id
  ·subst e;rw[C5 rfl];rw[Nat.beq_refl] at I2;exact hn s' a' w' β' I2 h'
  ·rw[Bn e]
   have:Nat.beq j id=false:=by
    cases hb:Nat.beq j id
    ·rfl
    ·exact absurd (Nat.eq_of_beq_eq_true hb) e
   rw[this] at I2;exact hx j s' a' w' β' I2 h'
 |loop c ih=>
  intro ho ln lx lr kn kx kr β s a w Q DO h hk hn hx hr;unfold okR at ho;unfold Nj at hk;obtain⟨β1,s1,Eb,h1⟩:=B6 h hk;refine wpIn_loop_rounds fu (MB (fun h hk=>B6 h hk) (fun h hk hQ=>?_) fu h1 Eb)
  exact ih ho (fun a w=>DO a w) h hk hQ (fun id s' a' w' β' I2 h'=>hx id s' a' w' β' I2 h') (fun s' a' w' β' I2 h'=>hr s' a' w' β' I2 h')
 |«exit» id=>intro _ ln lx lr kn kx kr β s a w Q DO h hk hn hx hr;exact wpIn_exit (hx id s a w β hk h)
 |ret=>intro _ ln lx lr kn kx kr β s a w Q DO h hk hn hx hr;exact wpIn_ret (hr s a w β hk h)
 |_=>intro ho;cases ho
end
end
section
open Go.IntKind (wrap)
open Go Go.RowKit
theorem Qv:∀(l:List (Nat × PV)) (i:Nat),lk l i=.top∨∃q∈l,q.1=i∧lk l i=q.2
 |[],_=>.inl rfl
 |(j,p)::l,i=>by
  by_cases e:i=j
  ·subst e;refine .inr ⟨(i,p),by simp,rfl,?_⟩
   simp[lk,Nat.beq_refl]
  ·have hb:Nat.beq i j=false:=by
    cases h:Nat.beq i j
    ·rfl
    ·exact absurd (Nat.eq_of_beq_eq_true h) e
   have I7:Nat.beq j i=false:=by
    cases h:Nat.beq j i
    ·rfl
    ·exact absurd (Nat.eq_of_beq_eq_true h).symm e
   have h1:lk ((j,p)::l) i=lk l i:=by simp[lk,hb,I7]
   rw[h1];rcases Qv l i with h|⟨q,hq,h2,h3⟩
   ·exact .inl h
   ·exact .inr ⟨q,List.mem_cons_of_mem _ hq,h2,h3⟩
theorem Ro:∀(l:List (Nat × Bx)) (i:Nat),Bu l i=none∨∃q∈l,q.1=i∧Bu l i=some q.2
 |[],_=>.inl rfl
 |(j,p)::l,i=>by
  by_cases e:i=j
  ·subst e;refine .inr ⟨(i,p),by simp,rfl,?_⟩
   simp[Bu,Nat.beq_refl]
  ·have hb:Nat.beq i j=false:=by
    cases h:Nat.beq i j
    ·rfl
    ·exact absurd (Nat.eq_of_beq_eq_true h) e
   have I7:Nat.beq j i=false:=by
    cases h:Nat.beq j i
    ·rfl
    ·exact absurd (Nat.eq_of_beq_eq_true h).symm e
   have h1:Bu ((j,p)::l) i=Bu l i:=by simp[Bu,hb,I7]
   rw[h1];rcases Ro l i with h|⟨q,hq,h2,h3⟩
   ·exact .inl h
   ·exact .inr ⟨q,List.mem_cons_of_mem _ hq,h2,h3⟩
theorem VS {P:Program}{a:Act}{w:World}{o:Oper}{c:Call}{t l:Nat}(ho:o.op=.call c)(hc:c.callee=.value (.tmp t)) (ht:a.eval (.tmp t)=.func (.yield l) #[] #[]) {r:Result Next}(hy:(Instr.yield l (c.args.map a.eval)).run P w=r):
  (execOp a.eval o).run P w=r:=by
 unfold execOp;rw[ho];simp[resolve,hc,ht,Deferred.ofValue,invoke,hy]
section
variable {P:Program} {C:Ji} {N:Nat} {call:Af} {w0:World} {X0:Fz} {Y:Nat->Prop} {R:Type} {r:R} {β:Bt} {s:St} {a:Act} {w:World} {o:Oper} {ops:Array Oper} {K:St->Option R} {ro:Option Nat} {n:Nat}
theorem B3.part (h:B3 N w0 X0 Y β s a w)(tm':Nat->PV)(C2:Nat->Option Bx)(ht:∀i,tm' i=.top∨tm' i=s.tm i)(hh:∀id,C2 id=none∨C2 id=s.hp id)
  (hw:∀i,i<N->∀id∈B8 (tm' i),C2 id≠none) (hwB:∀id cells,C2 id=some (.st cells)->∀c∈cells,∀id'∈Az c,C2 id'≠none) (Ym:∀i,X0.pn i->C2 (Dl N i)≠none):B3 N w0 X0 Y β ⟨tm',C2⟩ a w:=by
 have hX:∀b,DF C2 β b->DF s.hp β b:=by
  rintro b ⟨id,o,h1,h2⟩
  rcases hh id with e|e
  ·rw[e] at h1;exact h1.elim
  ·rw[e] at h1;exact⟨id,o,h1,h2⟩
 have hA:∀b,De C2 β Y b->De s.hp β Y b:=fun b hb=>hb.elim (fun x=>.inl (hX b x)) .inr
 have hs:∀{id bx},C2 id=some bx->s.hp id=some bx:=by
  intro id bx e;rcases hh id with e'|e'
  ·rw[e'] at e;cases e
  ·rw[←e'];exact e
 have hn:∀{id},C2 id≠none->s.hp id≠none:=by
  intro id e;rcases hh id with e'|e'
  ·exact absurd e' e
  ·rw[←e'];exact e
 have hl:∀{id},Cv (C2 id)->Cv (s.hp id):=by
  intro id e;rcases hh id with e'|e'
  ·rw[e'] at e;exact e.elim
  ·rw[←e'];exact e
 have Gv:Cq (De s.hp β Y) w w:=⟨Nat.le_refl _,fun _ _ _=>rfl,fun _ _=>Nat.le_refl _⟩
 refine⟨h.dfr,h.tsz,fun i hi=>?_,fun i hi=>?_,fun id bx Nv=>?_,fun id id' b o o' h1 h2=>h.inj id id' b o o' (hl h1) (hl h2),fun id b o h1 h2=>h.blt id b o (hn h1) h2,hw,hwB,fun b hb=>h.ownd b (hX b hb),fun id bx b o h1 h2 h3 h4=>h.rngB id bx b o (hs h1) h2 h3 h4,
  fun i hi=>⟨Ym i hi,(h.pin i hi).2⟩,fun id c b o h1=>h.stp id c b o (hs h1),fun b hy hx=>h.Yx b hy (hX b hx),h.Ylt,h.fr⟩
 ·rcases ht i with e|e
  ·exact e
  ·exact e.trans (h.tmo i hi)
 ·show Ed w (De C2 β Y) β (tm' i) _;rcases ht i with e|e
  ·rw[e];exact A4.top _
  ·rw[e];exact (h.tms i hi).step Gv (fun b _=>hA b) fun _ _=>rfl
 ·have h0:=h.box id bx (hs Nv);exact h0.step' hA
theorem B3.pick (h:B3 N w0 X0 Y β s a w)(l:List (Nat × PV)) (bl:List (Nat × Bx)) (hl:∀q∈l,q.2=s.tm q.1)(hb:∀q∈bl,some q.2=s.hp q.1)
  (hw:∀q∈l,∀id∈B8 q.2,Bu bl id≠none)(hwB:∀q∈bl,∀cells,q.2=.st cells->∀c∈cells,∀id'∈Az c,Bu bl id'≠none)(Ym:∀i,X0.pn i->Bu bl (Dl N i)≠none):B3 N w0 X0 Y β ⟨lk l,Bu bl⟩ a w:=by
 refine h.part (lk l) (Bu bl) (fun i=>?_) (fun id=>?_) (fun i _ id Br=>?_) (fun id cells e=>?_) Ym
 ·rcases Qv l i with e|⟨q,hq,h1,h2⟩
  ·exact .inl e
  ·exact .inr (by rw[h2,hl q hq,h1])
 ·rcases Ro bl id with e|⟨q,hq,h1,h2⟩
  ·exact .inl e
  ·exact .inr (by rw[h2,hb q hq,h1])
 ·rcases Qv l i with e|⟨q,hq,h1,h2⟩
  ·rw[e] at Br;simp[B8,Cl,Az] at Br
  ·rw[h2] at Br;exact hw q hq id Br
 ·rcases Ro bl id with e'|⟨q,hq,h1,h2⟩
  ·rw[e'] at e;cases e
  ·rw[h2] at e;exact hwB q hq cells (by injection e)
theorem Gs {G:U7}(Jr:LO P G w0 X0)(C6:∀f args res,call f args=some res->Da G P f args res){Q:Exit->Act->World->Prop}{rest:List Nat}(hQ:∀s' a' w' β',K s'=some r->B3 N w0 X0 Y β' s' a' w'->wpOpsIn (WF ro) n P ops Q rest a' w'):
  ∀(li:List Nat) (os:List Oper),li.length=os.length->(∀(k i:Nat),li[k]?=some i->ops[i]?=os[k]?)->os.all Abd=true->∀{s:St} {a:Act} {w:World} {β:Bt},B3 N w0 X0 Y β s a w->K4 C P N call ops os s K=some r->wpOpsIn (WF ro) n P ops Q (li++rest) a w
 |[],[],_,_,_,s,a,w,β,h,hk=>hQ s a w β hk h
 |[],_::_,hl,_,_,_,_,_,_,_,_=>by cases hl
 |_::_,[],hl,_,_,_,_,_,_,_,_=>by cases hl
 |i::li,o::os,hl,hi,TY,s,a,w,β,h,hk=>by
  obtain⟨s1,hk,h⟩:=Wy h hk;rw[List.all_cons,Bool.and_eq_true] at TY;have hio:ops[i]?=some o:=by simpa using hi 0 i rfl
  obtain⟨s',hs',hn⟩:=MM (ro:=ro) (n:=n) h Jr C6 TY.1 hk;rw[Zzp];unfold wpOpsIn;rw[hio];exact hn _ _ fun a' w' β' h'=>Gs Jr C6 hQ li os (by simpa using hl) (fun k j hj=>by simpa using hi (k+1) j (by simpa using hj)) TY.2 h' hs'
end
end
section
open Go.IntKind (wrap)
open Go Go.RowKit
abbrev Sw (ds:List Deferred)(a:Act):Act:={ a with defers:=a.defers++ds }
def TD (ds:List Deferred)(Q:Exit->Act->World->Prop):Exit->Act->World->Prop:=fun e a w=>∃a0:Act,a=Sw ds a0∧Q e a0 w
section
variable {P:Program} {ops:Array Oper} {Q:Exit->Act->World->Prop} {ro:Option Nat} {n:Nat} {ds:List Deferred}
theorem Rw (a:Act)(d:Option Tmp)(v:Value):(Sw ds a).put d v=Sw ds (a.put d v):=by cases d<;>rfl
theorem Ase (h:LetsOut Q):LetsOut (TD ds Q):=let ⟨a,w,q⟩:=h;⟨_,w,a,rfl,q⟩
theorem Am5 {o:Oper}{a:Act}{w:World}{K K':Act->World->Prop}(hK:∀a w,K a w->K' (Sw ds a) w) (h:o.wpIn (WF ro) n P a w K Q):o.wpIn (WF ro) n P (Sw ds a) w K' (TD ds Q):=by
 refine⟨fun _ _=>trivial,?_⟩
 have h:=h.2;show o.uponIn _ _ _ _ _ _ ((o.semAt (WF ro).round a.eval).run P w);generalize (o.semAt (WF ro).round a.eval).run P w=q at h;cases q with
 |halt x w'=>cases x<;>first|exact⟨a,rfl,h⟩|exact h.elim
 |ok v w'=>
  cases v with
  |value v=>show K' ((Sw ds a).put o.dst v) w';rw[Rw];exact hK _ _ h
  |skip=>show K' ((Sw ds a).put o.dst undef) w';rw[Rw];exact hK _ _ h
  |defer d=>
   show K' (({ (Sw ds a) with defers:=d::(Sw ds a).defers }:Act).put o.dst undef) w';rw[show ({ (Sw ds a) with defers:=d::(Sw ds a).defers }:Act)=Sw ds { a with defers:=d::a.defers } from rfl,Rw]
   exact hK _ _ h
  |enter f args=>
   refine⟨h.1,h.2.mono ?_⟩;intro e w'' he;cases e with
   |returned v=>show K' ((Sw ds a).put o.dst v) w'';rw[Rw];exact hK _ _ he
   |panicked c=>exact⟨a,rfl,he⟩
   |outgrown=>exact Ase he
  |row row args=>
   refine⟨h.1,h.2.mono ?_⟩;intro v w'' he;show K' ((Sw ds a).put o.dst v) w'';rw[Rw];exact hK _ _ he
  |round l f tmps assign body=>
   refine⟨h.1,h.2.mono ?_⟩;intro e w'' he;cases e with
   |returned v=>show K' ((Sw ds a).put o.dst v) w'';rw[Rw];exact hK _ _ he
   |panicked c=>exact⟨a,rfl,he⟩
   |outgrown=>exact Ase he
  |_=>exact h.elim
theorem W6:∀(li:List Nat){a:Act}{w:World},wpOpsIn (WF ro) n P ops Q li a w->wpOpsIn (WF ro) n P ops (TD ds Q) li (Sw ds a) w
 |[],a,w,h=>⟨a,rfl,h⟩
 |i::li,a,w,h=>by
  rw[wpOpsIn_cons] at h ⊢;unfold wpOpIn at h ⊢;cases ho:ops[i]? with
  |none=>rw[ho] at h;exact W6 li h
  |some o=>
   rw[ho] at h;simp only at h ⊢;by_cases hw:Region.wanted o (yielded ops a.tmps)=true
   ·rw[C5 hw] at h ⊢;exact Am5 (fun a w=>W6 li) h
   ·rw[Bn hw] at h ⊢;refine⟨fun _ _=>trivial,?_⟩
    rw[Rw];exact W6 li h.2
end
structure Agn (w w':World):Prop where
 os:w'.os=w.os
 tape:w'.tape=w.tape
 output:w'.output=w.output
 size:w'.heap.size=w.heap.size
 cell:∀a,w'.cell? a=w.cell? a
 frz:∀a,w'.frozen? a=w.frozen? a
 bs:∀b,bsz w' b=bsz w b
theorem A4.same {w w':World}{A:Nat->Prop}(h:Agn w w'){p:PV}{v:Value}(t:A4 w A p v):A4 w' A p v:=by
 induction t with
 |sc v=>exact .sc v
 |top v=>exact .top v
 |ub b=>exact .ub b
 |lnil z es=>exact .lnil z es
 |lemp es a cap=>exact .lemp es a cap
 |lst es n cells a cap f hs hb hA1 hn hc h1 hr ih=>exact .lst es n cells a cap f hs (by rw[h.size];exact hb) hA1 hn (fun j c hj=>by rw[h.cell];exact hc j c hj) h1 (fun j c hj=>ih j c hj)
theorem VH.same {w w':World}{A:Nat->Prop}(h:Agn w w'){a:Addr}{c:List PV}(t:VH w A a c):VH w' A a c:=fun j x hj=>by
 obtain⟨v,h1,h2,h3⟩:=t j x hj;exact⟨v,by rw[h.cell];exact h1,h2,h3.same h⟩
theorem Cj.same {w w':World}{A:Nat->Prop}{β:Nat->Option (Nat × Nat)} (h:Agn w w'){p:PV}{v:Value}(t:Cj w A β p v):Cj w' A β p v:=by
 cases p with
 |view id es off n=>
  rcases t with t|⟨b,o,x,cap,h1,h2,hx,h3,h4,h5⟩
  ·exact .inl t
  ·exact .inr ⟨b,o,x,cap,h1,h2,hx,h3,by rw[h.bs];exact h4,by rw[h.size];exact h5⟩
 |ptr id off=>exact t
 |iptr c off=>
  obtain⟨a,h1,h2,h3,h4,h5⟩:=t;exact⟨a,h1,h2,by rw[h.size];exact h3,h4,h5.same h⟩
 |_=>exact A4.same h t
theorem Bw.imp' {α β:Type}{R S:α->β->Prop}{zs:List α}{bs:List β}(h:Bw R zs bs)(f:∀a b,R a b->S a b):Bw S zs bs:=h.mono f
theorem Ia.same {w w':World}{A:Nat->Prop}{β:Nat->Option (Nat × Nat)} (h:Agn w w'){p:PV}{v:Value}(t:Ia w A β p v):Ia w' A β p v:=by
 cases p with
 |agg cs=>obtain⟨vs,h1,h2⟩:=t;exact⟨vs,h1,h2.imp' fun _ _=>Cj.same h⟩
 |_=>exact (V6 (by intro cs e;cases e)).2 (Cj.same h ((V6 (by intro cs e;cases e)).1 t))
theorem Ed.same {w w':World}{A:Nat->Prop}{β:Nat->Option (Nat × Nat)} (h:Agn w w'){p:PV}{v:Value}(t:Ed w A β p v):Ed w' A β p v:=by
 cases p with
 |tup cs=>obtain⟨vs,h1,h2⟩:=t;exact⟨vs,h1,h2.imp' fun _ _=>Ia.same h⟩
 |_=>exact (Qw (by intro cs e;cases e)).2 (Ia.same h ((Qw (by intro cs e;cases e)).1 t))
theorem B3.same {N:Nat}{w0 w w':World}{X0:Fz}{Y:Nat->Prop}{β:Bt}{s:St}{a:Act}(h:B3 N w0 X0 Y β s a w)(hs:Agn w w')(h0:∀b,b<w0.heap.size->w'.heap[b]?=w.heap[b]?):B3 N w0 X0 Y β s a w':=by
 refine⟨h.dfr,h.tsz,h.tmo,fun i hi=>(h.tms i hi).same hs,fun id bx e=>?_,h.inj,fun id b o h1 h2=>by rw[hs.size];exact h.blt id b o h1 h2,h.wfT,h.wfB,h.ownd,h.rngB,h.pin,h.stp,h.Yx,h.Ylt,
  ⟨hs.os.trans h.fr.os,hs.tape.trans h.fr.tape,hs.output.trans h.fr.output,⟨by rw[hs.size];exact h.fr.step.size,fun b hb hn=>(h0 b hb).trans (h.fr.step.keep b hb hn),fun b hb=>by rw[hs.bs];exact h.fr.step.bs b hb⟩,fun b j hb hn=>by rw[hs.cell,hs.frz];exact h.fr.rng b j hb hn⟩⟩
 have h1:=h.box id bx e;cases bx with
 |st c=>
  obtain⟨b,o,g1,g2,g3⟩:=h1;refine⟨b,o,g1,fun j c hj=>?_,fun j hj=>by rw[hs.frz];exact g3 j hj⟩
  obtain⟨v,k1,k2⟩:=g2 j c hj;exact⟨v,by rw[hs.cell];exact k1,k2.same hs⟩
 |ar fz c=>
  rcases h1 with h1|⟨b,o,g1,g2,g3,g4⟩
  ·exact .inl h1
  ·exact .inr ⟨b,o,g1,g2.same hs,fun hf j hj hjb=>by rw[hs.frz];exact g3 hf j hj (by rw[←hs.bs];exact hjb),g4⟩
 |mv=>trivial
theorem KW {w:World}{D:Nat}{x y:Option (List Deferred)} (h:w.heap[D]?=some (.deferred x)):Agn w (w.putObj D (.deferred y)):=by
 have hD:D<w.heap.size:=(Array.getElem?_eq_some_iff.1 h).1;have hs:(w.putObj D (.deferred y)).heap[D]?=some (.deferred y):=World.putObj_heap_same hD;refine⟨rfl,rfl,rfl,by simp,fun a=>?_,fun a=>?_,fun b=>?_⟩
 ·by_cases e:a.block=D
  ·unfold World.cell?;rw[e,hs,h]
  ·exact World.cell?_of_block (World.putObj_heap_other e)
 ·by_cases e:a.block=D
  ·unfold World.frozen?;rw[e,hs,h]
  ·unfold World.frozen?;rw[World.putObj_heap_other e]
 ·by_cases e:b=D
  ·subst e;unfold bsz;rw[hs,h]
  ·unfold bsz;rw[World.putObj_heap_other e]
end
section
open Go.Proofs.Tryz (prog)
open Go.IntKind (wrap)
set_option maxRecDepth 100000
abbrev Pz:FuncId:=54
theorem Zd (fu d:Nat)(a0:Int):Ad C0 prog fu (d+1) Pz [.sc (.int .i64 a0)]=(fun (call:Af)=>Bk (decide (a0>=0)) (some (A5.mk [.sc (.bool (decide (a0<=4)))] [])) (some (A5.mk [.sc (.bool false)] []))) (Ad C0 prog fu d):=by kernel_rfl
abbrev Ts:FuncId:=101
noncomputable def Iz (fu:Nat)(call:Af)(a0 a1:Int)(a2 a3 a4:Int)(nn:Nat)(y0 y1:Int)(y2 y3 y4:Int):Option A5:=Dh CB prog fu call 101 Tryz.f101 (B7 Tryz.f101) [.sc (.int .i64 a0),.sc (.int .i64 a1),.sc (.int .i64 a2),.sc (.int .i64 a3),.sc (.int .u64 a4)] [.r,.l,.r,.l] nn ⟨lk [(0,(.sc (.int .i64 y0))),(1,(.sc (.int .i64 y1))),(3,(.sc (.int .i64 y2))),(4,(.sc (.int .u64 y3))),(11,(.sc (.int .i64 y4)))],Bu []⟩
theorem Pt (fu:Nat)(call:Af)(a0 a1:Int)(a2 a3 a4:Int)(nn:Nat)(y0 y1:Int)(y2 y3 y4:Int):Iz fu call a0 a1 a2 a3 a4 (nn+1) y0 y1 y2 y3 y4=(Aa (if 15<y2 then 15 else y2) fun x2=>Bk (decide (y4<x2)) (Aa (wrap .u64 y0) fun x3=>Aa (wrap .u64 y1) fun x4=>Aa (wrap .u64 y4) fun x5=>Aj (call 79 [.lst false 1 4 [.sc (.int .u64 x3),.sc (.int .u64 x4),.sc (.int .u64 x5),.sc (.int .u64 y3)]]) fun x6 x7=>Ac x7<|Ab x6 fun x8 x9=>Gw 1 x8 fun C7 Dm=>Ac x9<|Ar (decide (0+C7*1<=Dm.length))<|Aj (call 33 [.sc (.int .i64 1),.lst false 1 C7 (List.take (C7*1) (List.drop 0 Dm))]) fun Eh E6=>Ac E6<|Ab Eh fun D8 Ez=>Ae .u64 D8 fun Fu=>Ac Ez<|Aa (wrap .i64 (y4+1)) fun Gt=>Iz fu call a0 a1 a2 a3 a4 (nn) (y0) (y1) (y2) Fu Gt) (some (A5.mk [.sc (.int .u64 y3)] []))):=by kernel_rfl
theorem GB (fu d:Nat)(a0 a1:Int)(a2 a3 a4:Int):Ad C0 prog fu (d+1) Ts [.sc (.int .i64 a0),.sc (.int .i64 a1),.sc (.int .i64 a2),.sc (.int .i64 a3),.sc (.int .u64 a4)]=(fun (call:Af)=>Aa (if a2<0 then 0 else a2) fun x1=>Iz fu call a0 a1 a2 a3 a4 (fu) (a0) (a1) (a3) (a4) x1) (Ad C0 prog fu d):=by kernel_rfl
abbrev Pi:FuncId:=102
theorem Yk (fu d:Nat)(a0 a1 a2:Int):Ad C0 prog fu (d+1) Pi [.sc (.int .u64 a0),.sc (.int .i64 a1),.sc (.int .i64 a2)]=(fun (call:Af)=>Aa (wrap .u64 a1) fun x1=>Aa (wrap .u64 a2) fun x2=>Aj (call 79 [.lst false 1 2 [.sc (.int .u64 x1),.sc (.int .u64 x2)]]) fun x3 x4=>Ac x4<|Ab x3 fun x5 x6=>Gw 1 x5 fun x7 x8=>Ac x6<|Ar (decide (0+x7*1<=x8.length))<|Aj (call 85 [.sc (.int .u64 a0),.sc (.int .i64 1),.lst false 1 x7 (List.take (x7*1) (List.drop 0 x8))]) fun x9 C7=>Ac C7<|Ab x9 fun Dm Eh=>Ae .u64 Dm fun E6=>Ac Eh<|some (A5.mk [.sc (.int .u64 E6)] [])) (Ad C0 prog fu d):=by kernel_rfl
abbrev Rf:FuncId:=116
theorem DG (fu d:Nat)(a0:Int)(Lx:Nat)(a1:List PV):Ad C0 prog fu (d+1) Rf [.sc (.int .i64 a0),.lst false 1 Lx a1]=(fun (call:Af)=>Aa (wrap .u64 a0) fun x1=>Aj (call 79 [.lst false 1 1 [.sc (.int .u64 x1)]]) fun x2 x3=>Ac x3<|Ab x2 fun x4 x5=>Gw 1 x4 fun x6 x7=>Ac x5<|Aj (call 79 [.lst false 1 Lx a1]) fun x8 x9=>Ac x9<|Ab x8 fun C7 Dm=>Gw 1 C7 fun Eh E6=>Ac Dm<|Ar (decide (0+Eh*1<=E6.length))<|Ar (decide (x6*1<=x7.length)&&decide (List.length (List.take (Eh*1) (List.drop 0 E6))=Eh*1)&&decide ((x6+Eh)*1<=1099511627776)&&decide (x6+Eh<=1099511627776))<|Aa (x6+Eh) fun D8=>Aa (List.take (x6*1) x7++List.take (Eh*1) (List.drop 0 E6)) fun Ez=>Ar (decide (0+D8*1<=Ez.length))<|Aj (call 33 [.sc (.int .i64 2),.lst false 1 D8 (List.take (D8*1) (List.drop 0 Ez))]) fun Fu Gt=>Ac Gt<|Ab Fu fun G7 Gj=>Ae .u64 G7 fun Gx=>Ac Gj<|some (A5.mk [.sc (.int .u64 Gx)] [])) (Ad C0 prog fu d):=by kernel_rfl
abbrev Sn:FuncId:=94
noncomputable def H2 (fu:Nat)(call:Af)(a0 a1:Int)(nn:Nat)(y0 y1:Int)(y2:Nat)(y3:Int)(y4:List PV):Option A5:=Dh CB prog fu call 94 Tryz.f94 (B7 Tryz.f94) [.sc (.int .u64 a0),.sc (.int .i64 a1)] [.r,.r,.l,.r,.l] nn ⟨lk [(0,(.sc (.int .u64 y0))),(1,(.sc (.int .i64 y1))),(5,(.view 5 1 0 y2)),(6,(.sc (.int .i64 y3)))],Bu [(5,(.ar false y4))]⟩
theorem N7 (fu:Nat)(call:Af)(a0 a1:Int)(nn:Nat)(y0 y1:Int)(y2:Nat)(y3:Int)(y4:List PV):H2 fu call a0 a1 (nn+1) y0 y1 y2 y3 y4=(Bk (decide (y3<18)) (Aj (call 102 [.sc (.int .u64 y0),.sc (.int .i64 y1),.sc (.int .i64 y3)]) fun x1 x2=>Ac x2<|Ab x1 fun x3 x4=>Ae .u64 x3 fun x5=>Ac x4<|Aj (call 101 [.sc (.int .i64 y1),.sc (.int .i64 y3),.sc (.int .i64 0),.sc (.int .i64 15),.sc (.int .u64 x5)]) fun x6 x7=>Ac x7<|Ab x6 fun x8 x9=>Ae .u64 x8 fun C7=>Ac x9<|Ar (decide (y2*1<=y4.length)&&true&&decide ((y2+1)*8<=1099511627776)&&decide (y2+1<=1099511627776))<|Aa (y2+1) fun Dm=>Aa (List.take (y2*1) y4++[.sc (.int .u64 C7)]) fun Eh=>Aa (wrap .i64 (y3+1)) fun E6=>H2 fu call a0 a1 (nn) (y0) (y1) Dm E6 Eh) (Ar (decide (0+y2*1<=y4.length))<|Aj (call 116 [.sc (.int .i64 y1),.lst false 1 y2 (List.take (y2*1) (List.drop 0 y4))]) fun D8 Ez=>Ac Ez<|Ab D8 fun Fu Gt=>Ae .u64 Fu fun G7=>Ac Gt<|some (A5.mk [.sc (.int .u64 G7)] []))):=by kernel_rfl
theorem CV (fu d:Nat)(a0 a1:Int):Ad C0 prog fu (d+1) Sn [.sc (.int .u64 a0),.sc (.int .i64 a1)]=(fun (call:Af)=>H2 fu call a0 a1 (fu) (a0) (a1) 0 0 ([])) (Ad C0 prog fu d):=by kernel_rfl
abbrev Po:FuncId:=78
theorem Zm (fu d:Nat)(a0 a1 a2:Int):Ad C0 prog fu (d+1) Po [.sc (.int .i64 a0),.sc (.int .u64 a1),.sc (.int .u64 a2)]=(fun (call:Af)=>Aa (wrap .u64 a0) fun x1=>Aj (call 79 [.lst false 1 3 [.sc (.int .u64 x1),.sc (.int .u64 a1),.sc (.int .u64 a2)]]) fun x2 x3=>Ac x3<|Ab x2 fun x4 x5=>Gw 1 x4 fun x6 x7=>Ac x5<|Ar (decide (0+x6*1<=x7.length))<|Aj (call 33 [.sc (.int .i64 3),.lst false 1 x6 (List.take (x6*1) (List.drop 0 x7))]) fun x8 x9=>Ac x9<|Ab x8 fun C7 Dm=>Ae .u64 C7 fun Eh=>Ac Dm<|some (A5.mk [.sc (.int .u64 Eh)] [])) (Ad C0 prog fu d):=by kernel_rfl
abbrev Sj:FuncId:=55
theorem Se (fu d:Nat)(a0 a1 a2:Int):Ad C0 prog fu (d+1) Sj [.sc (.int .u64 a0),.sc (.int .i64 a1),.sc (.int .i64 a2)]=(fun (call:Af)=>Bk (a1==0) (Aj (call 94 [.sc (.int .u64 a0),.sc (.int .i64 a2)]) fun x1 x2=>Ac x2<|Ab x1 fun x3 x4=>Ae .u64 x3 fun x5=>Ac x4<|some (A5.mk [.sc (.int .u64 x5)] [])) (Aa (wrap .i64 (a1-1)) fun x6=>Aa (wrap .i64 (2*a2)) fun x7=>Aj (call 55 [.sc (.int .u64 a0),.sc (.int .i64 x6),.sc (.int .i64 x7)]) fun x8 x9=>Ac x9<|Ab x8 fun C7 Dm=>Ae .u64 C7 fun Eh=>Ac Dm<|Aa (wrap .i64 (a1-1)) fun E6=>Aa (wrap .i64 (2*a2)) fun D8=>Aa (wrap .i64 (D8+1)) fun Ez=>Aj (call 55 [.sc (.int .u64 a0),.sc (.int .i64 E6),.sc (.int .i64 Ez)]) fun Fu Gt=>Ac Gt<|Ab Fu fun G7 Gj=>Ae .u64 G7 fun Gx=>Ac Gj<|Aj (call 78 [.sc (.int .i64 a1),.sc (.int .u64 Eh),.sc (.int .u64 Gx)]) fun Ju H3=>Ac H3<|Ab Ju fun Jd Fn=>Ae .u64 Jd fun Ev=>Ac Fn<|some (A5.mk [.sc (.int .u64 Ev)] []))) (Ad C0 prog fu d):=by kernel_rfl
abbrev Pn:FuncId:=30
theorem Yt (fu d:Nat)(a0 a1:Int):Ad C0 prog fu (d+1) Pn [.sc (.int .u64 a0),.sc (.int .i64 a1)]=(fun (call:Af)=>Aj (call 54 [.sc (.int .i64 a1)]) fun x1 x2=>Ac x2<|Ab x1 fun x3 x4=>Bv x3 fun x5=>Ac x4<|Bk (!x5) (some (A5.mk [.agg [.sc (.int .i64 0),.sc (.int .u64 0)],.sc (.int .i64 9)] [])) (Aj (call 55 [.sc (.int .u64 a0),.sc (.int .i64 a1),.sc (.int .i64 0)]) fun x6 x7=>Ac x7<|Ab x6 fun x8 x9=>Ae .u64 x8 fun C7=>Ac x9<|some (A5.mk [.agg [.sc (.int .i64 a1),.sc (.int .u64 C7)],.sc (.int .i64 0)] []))) (Ad C0 prog fu d):=by kernel_rfl
abbrev Mn:FuncId:=74
noncomputable def F1 (fu:Nat)(call:Af)(Be:Nat)(a0:List PV)(Lx:Nat)(a1:List PV)(nn y0:Nat)(y1:List PV)(y2:Nat)(y3:List PV)(y4:Int):Option A5:=Dh CB prog fu call 74 Tryz.f74 (B7 Tryz.f74) [.lst false 1 Be a0,.lst false 1 Lx a1] [.r,.r,.l,.r,.l] nn ⟨lk [(0,(.lst false 1 y0 y1)),(1,(.lst false 1 y2 y3)),(5,(.sc (.int .i64 y4)))],Bu []⟩
theorem J5 (fu:Nat)(call:Af)(Be:Nat)(a0:List PV)(Lx:Nat)(a1:List PV)(nn y0:Nat)(y1:List PV)(y2:Nat)(y3:List PV)(y4:Int):F1 fu call Be a0 Lx a1 (nn+1) y0 y1 y2 y3 y4=(Bk (decide (y4<(↑y0:Int))) (Ar (decide (0<=y4)&&decide (y4<(↑y0:Int)))<|Ae .u64 (List.getD y1 (Int.toNat y4*1) .top) fun x1=>Ar (decide (0<=y4)&&decide (y4<(↑y2:Int)))<|Ae .u64 (List.getD y3 (Int.toNat y4*1) .top) fun x2=>Bk (x1 != x2) (some (A5.mk [.sc (.bool false)] [])) (Aa (wrap .i64 (y4+1)) fun x3=>F1 fu call Be a0 Lx a1 (nn) (y0) (y1) (y2) (y3) x3)) (some (A5.mk [.sc (.bool true)] []))):=by kernel_rfl
theorem Vl (fu d Be:Nat)(a0:List PV)(Lx:Nat)(a1:List PV):Ad C0 prog fu (d+1) Mn [.lst false 1 Be a0,.lst false 1 Lx a1]=(fun (call:Af)=>Bk ((↑Be:Int) != (↑Lx:Int)) (some (A5.mk [.sc (.bool false)] [])) (F1 fu call Be a0 Lx a1 (fu) (Be) (a0) (Lx) (a1) 0)) (Ad C0 prog fu d):=by kernel_rfl
abbrev Jw:FuncId:=39
theorem Qs (fu d:Nat)(Ak:Int)(Cd:Nat)(Al:List PV)(Bp:Nat)(Bd:List PV)(Cg:Int)(Hs:Nat)(Cf:List PV)(Hr:Nat)(Cn:List PV):Ad C0 prog fu (d+1) Jw [.agg [.sc (.int .i64 Ak),.lst false 1 Cd Al,.lst false 1 Bp Bd],.agg [.sc (.int .i64 Cg),.lst false 1 Hs Cf,.lst false 1 Hr Cn]]=(fun (call:Af)=>Bk (Ak==Cg) (Aj (call 74 [.lst false 1 Cd Al,.lst false 1 Hs Cf]) fun x1 x2=>Ac x2<|Ab x1 fun x3 x4=>Bv x3 fun x5=>Ac x4<|Bk x5 (Aj (call 74 [.lst false 1 Bp Bd,.lst false 1 Hr Cn]) fun x6 x7=>Ac x7<|Ab x6 fun x8 x9=>Bv x8 fun C7=>Ac x9<|some (A5.mk [.sc (.bool C7)] [])) (some (A5.mk [.sc (.bool false)] []))) (some (A5.mk [.sc (.bool false)] []))) (Ad C0 prog fu d):=by kernel_rfl
end
section
open Go.Proofs.Tryz (prog)
open Go.IntKind (wrap)
theorem Af8 {α:Type}(f:Nat->α)(i:Nat):(List.range (i+1)).map f=(List.range i).map f++[f i]:=by
 rw[List.range_succ,List.map_append];rfl
section
variable {fu d:Nat}
theorem Ah5 (h:Int):Ad C0 prog fu (d+1) Pz [.sc (.int .i64 h)]=some ⟨[.sc (.bool (!Ex h))],[]⟩:=by
 rw[Zd];unfold Ex;by_cases h0:h<0
 ·simp (disch:=omega) only[Cu,h0,decide_true,Bool.true_or,Dz]
 ·have e:decide (h<=4) = !decide (h>4):=by
   by_cases c:h<=4
   ·have:¬h>4:=by omega
    simp[c,this]
   ·have:h>4:=by omega
    simp[c,this]
  simp (disch:=omega) only[Cu,h0,decide_false,Bool.false_or,e]
theorem Agi {ws:List Int}(hl:ws.length<=100)(Ca:1000<=fu)(dom:Int):Ad C0 prog fu (d+4) Mf [.sc (.int .i64 dom),.lst false 1 (A8 ws).length (Ah .u8 (A8 ws))]=some ⟨[.sc (.int .u64 (R3 dom (A8 ws)))],[]⟩:=
 Apq (xs:=Pq) (Uz ws) (by rw[D3];omega) (by omega) (by rw[D3];omega) dom
theorem XM {leaf chain:Int}{a0 a1 a2 a3 a4:Int}(Ca:1000<=fu){t:Int}(ht:t<=15):∀(k nn:Nat)(p x:Int),(k:Int)=t-p->0<=p->k<nn ->
  Iz fu (Ad C0 prog fu (d+4)) a0 a1 a2 a3 a4 nn leaf chain t x p=some ⟨[.sc (.int .u64 (T9 leaf chain k p x))],[]⟩
 |_,0,_,_,_,_,h=>by omega
 |0,nn+1,p,x,hk,hp,hn=>by
  rw[Pt];simp only[I6];rw[Bn (by omega),Ej _ _ _ (by omega)]
  rfl
 |k+1,nn+1,p,x,hk,hp,hn=>by
  have w:wrap .i64 (p+1)=p+1:=Ap (by omega) (by omega)
  have wd:Ad C0 prog fu (d+4) Fg [.lst false 1 4 [.sc (.int .u64 (wrap .u64 leaf)),.sc (.int .u64 (wrap .u64 chain)),.sc (.int .u64 (wrap .u64 p)),.sc (.int .u64 x)]]=_:=Vg (xs:=Pq) (ws:=[wrap .u64 leaf,wrap .u64 chain,wrap .u64 p,x]) (by simp) (by omega) (by simp;omega)
  have hs:=Agi (fu:=fu) (d:=d) (ws:=[wrap .u64 leaf,wrap .u64 chain,wrap .u64 p,x]) (by simp) Ca 1
  have ih:=XM (leaf:=leaf) (chain:=chain) (a0:=a0) (a1:=a1) (a2:=a2) (a3:=a3) (a4:=a4) Ca ht k nn (p+1) (R3 1 (A8 [wrap .u64 leaf,wrap .u64 chain,wrap .u64 p,x])) (by omega) (by omega) (by omega)
  have L:=Ay .u8 (A8 [wrap .u64 leaf,wrap .u64 chain,wrap .u64 p,x]);have eR:T9 leaf chain (k+1) p x=T9 leaf chain k (p+1) (R3 1 (A8 [wrap .u64 leaf,wrap .u64 chain,wrap .u64 p,x])):=rfl;rw[eR];generalize A8 [wrap .u64 leaf,wrap .u64 chain,wrap .u64 p,x]=W at wd hs ih L ⊢;have e15:(if (15:Int)<t then 15 else t)=t:=Bn (by omega)
  rw[Pt];simp (disch:=omega) only[Cu,e15,wd,Dc,Ch,C8,Mt,L,hs,w];exact ih
theorem At5 {leaf chain:Int}(Ca:1000<=fu)(k:Nat)(f t x:Int)(hk:(k:Int)=t-f) (h0:0<=f)(h1:t<=15):Ad C0 prog fu (d+5) Ts [.sc (.int .i64 leaf),.sc (.int .i64 chain),.sc (.int .i64 f),.sc (.int .i64 t),.sc (.int .u64 x)]=some ⟨[.sc (.int .u64 (T9 leaf chain k f x))],[]⟩:=by
 rw[GB];simp only[I6];rw[Bn (by omega)]
 exact XM Ca h1 k fu f x hk h0 (by omega)
theorem Af9 (Ca:1000<=fu)(seed leaf chain:Int):Ad C0 prog fu (d+5) Pi [.sc (.int .u64 seed),.sc (.int .i64 leaf),.sc (.int .i64 chain)]=some ⟨[.sc (.int .u64 (MV seed leaf chain))],[]⟩:=by
 have wd:Ad C0 prog fu (d+4) Fg [.lst false 1 2 [.sc (.int .u64 (wrap .u64 leaf)),.sc (.int .u64 (wrap .u64 chain))]]=_:=Vg (xs:=Pq) (ws:=[wrap .u64 leaf,wrap .u64 chain]) (by simp) (by omega) (by simp;omega)
 have hs:=Av1 (xs:=Pq) (fu:=fu) (d:=d) (Uz [wrap .u64 leaf,wrap .u64 chain]) (by rw[D3];simp) (by omega) (by rw[D3];simp;omega) seed 1
 have L:=Ay .u8 (A8 [wrap .u64 leaf,wrap .u64 chain]);rw[Yk];unfold MV;generalize A8 [wrap .u64 leaf,wrap .u64 chain]=W at wd hs L ⊢;simp (disch:=omega) only[Cu,wd,Dc,Ch,C8,Mt,L,hs]
theorem A86 (Ca:1000<=fu)(w:Int):Ad C0 prog fu (d+1) Fg [.lst false 1 1 [.sc (.int .u64 w)]]=some ⟨[.own 1 8 (Ah .u8 (Ic w))],[]⟩:=by
 have:=Vg (xs:=Pq) (fu:=fu) (d:=d) (ws:=[w]) (by simp) (by omega) (by simp;omega)
 simp only[A8,List.flatMap_cons,List.flatMap_nil,List.append_nil,Ik,Zx,Jc] at this;exact this
theorem Aqk (Ca:1000<=fu)(leaf:Int){E:List Int}(hE:E.length<=50):Ad C0 prog fu (d+5) Rf [.sc (.int .i64 leaf),.lst false 1 E.length (Ah .u64 E)]=some ⟨[.sc (.int .u64 (BZ leaf E))],[]⟩:=by
 have w1:=A86 (fu:=fu) (d:=d+3) Ca (wrap .u64 leaf);have w2:=Vg (xs:=Pq) (fu:=fu) (d:=d+3) (ws:=E) (by omega) (by omega) (by omega)
 have hs:=Agi (fu:=fu) (d:=d) (ws:=wrap .u64 leaf::E) (by simp;omega) Ca 2
 have eW:A8 (wrap .u64 leaf::E)=Ic (wrap .u64 leaf)++A8 E:=rfl
 have eC:Ah .u8 (Ic (wrap .u64 leaf))++Ah .u8 (A8 E)=Ah .u8 (A8 (wrap .u64 leaf::E)):=by
  rw[eW,Ah,Ah,Ah,List.flatMap_append]
 have l0:(Ic (wrap .u64 leaf)).length=8:=Jc _;have l1:=D3 E;have l2:(A8 (wrap .u64 leaf::E)).length=8+(A8 E).length:=by rw[eW,Io,l0]
 have L0:=Ay .u8 (Ic (wrap .u64 leaf));rw[l0] at L0;have L1:=Ay .u8 (A8 E);have L2:=Ay .u8 (A8 (wrap .u64 leaf::E));have t8:List.take 8 (Ah .u8 (Ic (wrap .u64 leaf)))=Ah .u8 (Ic (wrap .u64 leaf)):=L6 (by omega)
 have tW:List.take (8+(A8 E).length) (Ah .u8 (A8 (wrap .u64 leaf::E)))=Ah .u8 (A8 (wrap .u64 leaf::E)):=L6 (by omega)
 rw[l2] at hs;rw[DG];simp (disch:=omega) only[Cu,w1,w2,Dc,Ch,C8,Mt,t8,L0,L1,eC,L2,tW,hs];rfl
theorem SX {a0 a1 seed leaf:Int}(Ca:1000<=fu):∀(k nn i:Nat),i+k=18->k<nn ->
  H2 fu (Ad C0 prog fu (d+5)) a0 a1 nn seed leaf ((List.range i).map (BC seed leaf)).length i (Ah .u64 ((List.range i).map (BC seed leaf)))=some ⟨[.sc (.int .u64 (J9 seed leaf))],[]⟩
 |_,0,_,_,h=>by omega
 |0,nn+1,i,hi,hn=>by
  have e:i=18:=by omega
  subst e;have l18:((List.range 18).map (BC seed leaf)).length=18:=by simp
  have en:=Aqk (fu:=fu) (d:=d) Ca leaf (E:=(List.range 18).map (BC seed leaf)) (by omega)
  have L:=Ay .u64 ((List.range 18).map (BC seed leaf));rw[N7,Ej _ _ _ (by omega)]
  simp (disch:=omega) only[Cu,Dc,Ch,C8,Mt,L,en];rfl
 |k+1,nn+1,i,hi,hn=>by
  have ih:=SX (a0:=a0) (a1:=a1) (seed:=seed) (leaf:=leaf) Ca k nn (i+1) (by omega) (by omega)
  have sc:=Af9 (fu:=fu) (d:=d) Ca seed leaf i;have rn:=At5 (fu:=fu) (d:=d) (leaf:=leaf) (chain:=i) Ca 15 0 15 (MV seed leaf i) (by omega) (by omega) (by omega)
  have w:wrap .i64 ((i:Int)+1)=((i+1:Nat):Int):=by rw[Ap (by omega) (by omega)];omega
  have L:=Ay .u64 ((List.range i).map (BC seed leaf));have li:((List.range i).map (BC seed leaf)).length=i:=by simp
  rw[Af8,Io,List.length_singleton,←Kg] at ih;rw[N7];simp (disch:=omega) only[Cu,sc,rn,Dc,Mt,L,w];exact ih
theorem Ao8 (Ca:1000<=fu)(seed leaf:Int):Ad C0 prog fu (d+6) Sn [.sc (.int .u64 seed),.sc (.int .i64 leaf)]=some ⟨[.sc (.int .u64 (J9 seed leaf))],[]⟩:=by
 rw[CV];exact SX (fu:=fu) (d:=d) Ca 18 fu 0 (by omega) (by omega)
theorem Afz (Ca:1000<=fu)(level a b:Int):Ad C0 prog fu (d+5) Po [.sc (.int .i64 level),.sc (.int .u64 a),.sc (.int .u64 b)]=some ⟨[.sc (.int .u64 (O6 level a b))],[]⟩:=by
 have wd:Ad C0 prog fu (d+4) Fg [.lst false 1 3 [.sc (.int .u64 (wrap .u64 level)),.sc (.int .u64 a),.sc (.int .u64 b)]]=_:=Vg (xs:=Pq) (ws:=[wrap .u64 level,a,b]) (by simp) (by omega) (by simp;omega)
 have hs:=Agi (fu:=fu) (d:=d) (ws:=[wrap .u64 level,a,b]) (by simp) Ca 3
 have L:=Ay .u8 (A8 [wrap .u64 level,a,b]);rw[Zm];unfold O6;generalize A8 [wrap .u64 level,a,b]=W at wd hs L ⊢;simp (disch:=omega) only[Cu,wd,Dc,Ch,C8,Mt,L,hs]
theorem PT (Ca:1000<=fu)(seed:Int):∀(l:Nat)(i B:Int),0<=i->i<=B->(2 ^ l:Nat)*(B+1)<=1000000000->l<=20->Ad C0 prog fu (d+7+l) Sj [.sc (.int .u64 seed),.sc (.int .i64 l),.sc (.int .i64 i)]=some ⟨[.sc (.int .u64 (Ct seed l i))],[]⟩
 |0,i,B,h0,h1,h2,hl=>by
  have lf:=Ao8 (fu:=fu) (d:=d) Ca seed i;refine (Se fu (d+6) seed 0 i).trans ?_;simp only[Cu,Nf,if_true,lf];rfl
 |l+1,i,B,h0,h1,h2,hl=>by
  have hq:(2 ^ (l+1):Nat)=2 ^ l*2:=Nat.pow_succ _ _;have Auw:0<2 ^ l:=Nat.pow_pos (by omega)
  rw[hq] at h2;generalize hQ:2 ^ l=q at h2 Auw
  have hb:((q*2:Nat):Int)*(B+1)=(q:Int)*(2*B+1+1):=by
   rw[Int.natCast_mul,Int.mul_assoc]
   congr 1
   omega
  rw[hb] at h2
  have hBq:2*B+1+1<=(q:Int)*(2*B+1+1):=by
   have:=Int.mul_le_mul_of_nonneg_right (show (1:Int)<=q by omega) (show (0:Int)<=2*B+1+1 by omega)
   omega
  have n1:=PT Ca seed l (2*i) (2*B+1) (by omega) (by omega) (by rw[hQ];exact h2) (by omega)
  have n2:=PT Ca seed l (2*i+1) (2*B+1) (by omega) (by omega) (by rw[hQ];exact h2) (by omega)
  have pr:=Afz (fu:=fu) (d:=d+2+l) Ca ((l+1:Nat):Int) (Ct seed l (2*i)) (Ct seed l (2*i+1));rw[show d+2+l+5=d+7+l by omega] at pr
  have w1:wrap .i64 (((l+1:Nat):Int)-1)=(l:Int):=by rw[Ap (by omega) (by omega)];omega
  have w2:wrap .i64 (2*i)=2*i:=Ap (by omega) (by omega)
  have w3:wrap .i64 (2*i+1)=2*i+1:=Ap (by omega) (by omega)
  have ne:¬(((l+1:Nat):Int)=0):=by omega
  refine (Se fu (d+7+l) seed ((l+1:Nat):Int) i).trans ?_;simp only[Cu,Nf,ne,if_false,w1,w2,w3,n1,n2,pr];rfl
end
end
section
open Go.Proofs.Tryz (prog)
open Go.IntKind (wrap)
theorem Arw {leaf h:Int}(h0:0<=h)(h4:h<=4)(ho:Qq leaf h=false):0<=leaf∧leaf<2 ^ h.toNat:=by
 unfold Qq at ho;simp only[Bool.or_eq_false_iff,decide_eq_false_iff_not] at ho;have:h=0∨h=1∨h=2∨h=3∨h=4:=by omega
 rcases this with rfl|rfl|rfl|rfl|rfl
 ·have e:J0 .i64 1 0=1:=by decide
  rw[e] at ho;exact⟨by omega,by show leaf<1;omega⟩
 ·have e:J0 .i64 1 1=2:=by decide
  rw[e] at ho;exact⟨by omega,by show leaf<2;omega⟩
 ·have e:J0 .i64 1 2=4:=by decide
  rw[e] at ho;exact⟨by omega,by show leaf<4;omega⟩
 ·have e:J0 .i64 1 3=8:=by decide
  rw[e] at ho;exact⟨by omega,by show leaf<8;omega⟩
 ·have e:J0 .i64 1 4=16:=by decide
  rw[e] at ho;exact⟨by omega,by show leaf<16;omega⟩
theorem A34 {h:Int}(h0:0<=h)(h4:h<=4):(2:Int) ^ h.toNat<=16:=by
 have:h=0∨h=1∨h=2∨h=3∨h=4:=by omega
 rcases this with rfl|rfl|rfl|rfl|rfl<;>decide
section
variable {fu d:Nat}
theorem PU (Ca:1000<=fu)(seed h:Int):Ad C0 prog fu (d+12) Pn [.sc (.int .u64 seed),.sc (.int .i64 h)]=some ⟨[.agg (Vh seed h).cells,.sc (.int .i64 (if Ex h=true then 9 else 0))],[]⟩:=by
 refine (Yt fu (d+11) seed h).trans ?_;have h1:=Ah5 (fu:=fu) (d:=d+10) h;unfold Vh;cases c1:Ex h
 ·rw[c1] at h1;have hb:=Kr c1
  have nd:=PT (fu:=fu) (d:=d+4-h.toNat) Ca seed h.toNat 0 0 (by omega) (by omega) (by
   have:h=0∨h=1∨h=2∨h=3∨h=4:=by omega
   rcases this with rfl|rfl|rfl|rfl|rfl<;>decide) (by omega)
  rw[show d+4-h.toNat+7+h.toNat=d+11 by omega,show ((h.toNat:Nat):Int)=h by omega] at nd
  simp only[Cu,h1,nd];rfl
 ·rw[c1] at h1;simp only[Cu,h1];rfl
end
end
section
open Go.IntKind (wrap)
section
variable {fu d:Nat}
end
theorem As2 (seed leaf m:Int):Am4 leaf m (Px seed leaf m)=J9 seed leaf:=by
 unfold Am4 J9 QO
 congr 1
 refine List.map_congr_left fun i hi=>?_
 have hi:=List.mem_range.1 hi;have hb:=JY m i;unfold Aic BC
 have e:(Px seed leaf m).getD i 0=PO seed leaf m i:=by
  unfold Px;rw[List.getD_eq_getElem?_getD,List.getElem?_map,List.getElem?_range hi];rfl
 rw[e];unfold PO;have:=Ab1 leaf i (dg m i).toNat (15-dg m i).toNat 0 (MV seed leaf i);rw[show (dg m i).toNat+(15-dg m i).toNat=15 by omega,show (0:Int)+((dg m i).toNat:Nat)=dg m i by omega] at this
 exact this.symm
theorem Amr:∀n:Fin 16,∀k:Fin 4,
  (X3 .i64 (Is .i64 (n.val:Int) k.val) 1=0∧Is .i64 (n.val:Int) k.val=2*Is .i64 (n.val:Int) ((k.val+1:Nat):Int)∧J2 n.val k.val=2*Is .i64 (n.val:Int) ((k.val+1:Nat):Int)+1) ∨
  (X3 .i64 (Is .i64 (n.val:Int) k.val) 1≠0∧Is .i64 (n.val:Int) k.val=2*Is .i64 (n.val:Int) ((k.val+1:Nat):Int)+1∧J2 n.val k.val=2*Is .i64 (n.val:Int) ((k.val+1:Nat):Int)):=by decide
theorem SN (seed:Int){leaf:Int}(h0:0<=leaf)(h1:leaf<16):∀(k i:Nat),i+k<=4 ->
  CK leaf i (Ct seed i (Is .i64 leaf i)) ((List.range' i k).map fun j=>Ct seed j (J2 leaf j))=Ct seed (i+k) (Is .i64 leaf ((i+k:Nat):Int))
 |0,i,_=>rfl
 |k+1,i,h=>by
  rw[List.range'_succ,VN,KV];obtain⟨n,rfl⟩:=Int.eq_ofNat_of_zero_le h0;have ih:=SN seed h0 h1 k (i+1) (by omega)
  rw[show i+(k+1)=i+1+k by omega,←ih]
  congr 1
  rcases Amr ⟨n,by omega⟩ ⟨i,by omega⟩ with⟨a,b,c⟩|⟨a,b,c⟩
  ·simp only at a b c;rw[C5 a,b,c];rfl
  ·simp only at a b c;rw[Bn a,b,c];rfl
theorem Anz {seed h leaf m:Int}(hh:Ex h=false)(ho:Qq leaf h=false):Ame (Vh seed h) m ⟨leaf,Px seed leaf m,(List.range h.toNat).map fun k=>Ct seed k (J2 leaf k)⟩=0:=by
 have hb:=Kr hh;have hl:=Arw hb.1 hb.2 ho;have h16:=A34 hb.1 hb.2
 have eP:Vh seed h=⟨h,Ct seed h.toNat 0⟩:=by
  unfold Vh;rw[hh];rfl
 rw[eP];unfold Ame;simp only;rw[Bn (show ¬Ex h=true by rw[hh];simp),Bn (show ¬Qq leaf h=true by rw[ho];simp),Bn (show ¬(Px seed leaf m).length≠18 by simp[Px]),Bn (by rw[List.length_map,List.length_range];omega),As2]
 have c:=SN seed hl.1 (show leaf<16 by omega) h.toNat 0 (by omega)
 have e0:Is .i64 leaf ((0:Nat):Int)=leaf:=by
  show leaf.fdiv (2 ^ (min ((0:Nat):Int).toNat IntKind.i64.bits))=leaf;have:(2:Int) ^ (min ((0:Nat):Int).toNat IntKind.i64.bits)=1:=by decide
  rw[this,Int.fdiv_one]
 have eh:Is .i64 leaf ((0+h.toNat:Nat):Int)=0:=by
  have H:∀n:Fin 16,∀k:Fin 5,(n.val:Int)<2 ^ k.val->Is .i64 (n.val:Int) ((0+k.val:Nat):Int)=0:=by decide
  obtain⟨n,hn⟩:=Int.eq_ofNat_of_zero_le hl.1;have:=H ⟨n,by omega⟩ ⟨h.toNat,by omega⟩ (by simp only;rw[←hn];exact hl.2)
  rw[hn];exact this
 rw[e0,eh,Ch] at c;have er:List.range' 0 h.toNat=List.range h.toNat:=List.range_eq_range'.symm;rw[er] at c;have el:Ct seed 0 leaf=J9 seed leaf:=rfl;rw[el] at c;rw[c];unfold okE;rw[C5 rfl]
end
section
open Go.Proofs.Tryz (prog)
open Go.IntKind (wrap)
set_option maxRecDepth 100000
abbrev KS:FuncId:=130
theorem Ad8 (fu d:Nat)(a0:ByteArray):Ad C0 prog fu (d+1) KS [.sc (.string a0)]=(fun (call:Af)=>some (A5.mk [.own 3 1 [.sc (.int .i64 4),.sc (.int .u64 0),.sc (.string a0)]] [])) (Ad C0 prog fu d):=by kernel_rfl
abbrev LN:FuncId:=64
theorem Aee (fu d:Nat)(a0:Int):Ad C0 prog fu (d+1) LN [.sc (.int .u64 a0)]=(fun (call:Af)=>some (A5.mk [.own 3 1 [.sc (.int .i64 1),.sc (.int .u64 a0),.sc (.string (ByteArray.mk #[]))]] [])) (Ad C0 prog fu d):=by kernel_rfl
abbrev EY:FuncId:=131
theorem Aab (fu d Be:Nat)(a0:List PV):Ad C0 prog fu (d+1) EY [.lst false 1 Be a0]=(fun (call:Af)=>Ar (decide (a0.length=Be))<|F7 (bytesOf a0) fun x1=>some (A5.mk [.own 3 1 [.sc (.int .i64 3),.sc (.int .u64 0),.sc (.string (ByteArray.mk (List.toArray x1)))]] [])) (Ad C0 prog fu d):=by kernel_rfl
abbrev GN:FuncId:=141
theorem YY (fu d:Nat)(a0:Int):Ad C0 prog fu (d+1) GN [.sc (.int .u64 a0)]=(fun (call:Af)=>Bk (decide (a0<24)) (some (A5.mk [.sc (.int .i64 0)] [])) (Bk (decide (a0<256)) (some (A5.mk [.sc (.int .i64 1)] [])) (Bk (decide (a0<65536)) (some (A5.mk [.sc (.int .i64 2)] [])) (Bk (decide (a0<4294967296)) (some (A5.mk [.sc (.int .i64 4)] [])) (some (A5.mk [.sc (.int .i64 8)] [])))))) (Ad C0 prog fu d):=by kernel_rfl
abbrev BI:FuncId:=146
theorem UI (fu d:Nat)(Ak Al:Int)(Bd:ByteArray):Ad C0 prog fu (d+1) BI [.agg [.sc (.int .i64 Ak),.sc (.int .u64 Al),.sc (.string Bd)]]=(fun (call:Af)=>Bk (Ak==3) (some (A5.mk [.sc (.bool (Al==0))] [])) (Bk (Ak==4) (some (A5.mk [.sc (.bool (Al==0))] [])) (Bk (Ak==8) (Bk (Al==0) (some (A5.mk [.sc (.bool (Array.toList (ByteArray.data Bd)==Array.toList (ByteArray.data (ByteArray.mk #[]))))] [])) (some (A5.mk [.sc (.bool false)] []))) (Bk (Ak==7) (Bk (decide (Al<=1)) (some (A5.mk [.sc (.bool (Array.toList (ByteArray.data Bd)==Array.toList (ByteArray.data (ByteArray.mk #[]))))] [])) (some (A5.mk [.sc (.bool false)] []))) (some (A5.mk [.sc (.bool (Array.toList (ByteArray.data Bd)==Array.toList (ByteArray.data (ByteArray.mk #[]))))] [])))))) (Ad C0 prog fu d):=by kernel_rfl
abbrev Ze:FuncId:=143
theorem SC (fu d Be:Nat)(a0:List PV)(Lx:Nat)(a1:List PV):Ad C0 prog fu (d+1) Ze [.lst false 1 Be a0,.lst false 1 Lx a1]=(fun (call:Af)=>Bk ((↑Be:Int) != (↑Lx:Int)) (some (A5.mk [.sc (.bool (decide ((↑Be:Int)<(↑Lx:Int))))] [])) (Aj (call 148 [.lst false 1 Be a0,.lst false 1 Lx a1]) fun x1 x2=>Ac x2<|Ab x1 fun x3 x4=>Ae .i64 x3 fun x5=>Ac x4<|some (A5.mk [.sc (.bool (decide (x5<0)))] []))) (Ad C0 prog fu d):=by kernel_rfl
abbrev Nd:FuncId:=133
noncomputable def Ek (fu:Nat)(call:Af)(Be:Nat)(a0:List PV)(a1 a2:Int)(nn y0:Nat)(y1 y2:Int)(y3:List PV):Option A5:=Dh CB prog fu call 133 Tryz.f133 (B7 Tryz.f133) [.own 1 Be a0,.sc (.int .u8 a1),.sc (.int .u64 a2)] [.r,.r,.r,.r,.r,.l,.r,.l] nn ⟨lk [(0,(.view 0 1 0 y0)),(2,(.sc (.int .u64 y1))),(9,(.sc (.int .i64 y2)))],Bu [(0,(.ar false y3))]⟩
theorem Pb (fu:Nat)(call:Af)(Be:Nat)(a0:List PV)(a1 a2:Int)(nn y0:Nat)(y1 y2:Int)(y3:List PV):Ek fu call Be a0 a1 a2 (nn+1) y0 y1 y2 y3=(Bk (decide (y2>=0)) (Aa (wrap .i64 (8*y2)) fun G7=>Ar (decide (0<=G7))<|Aa (Is .u64 y1 G7) fun Gj=>Aa (wrap .u8 Gj) fun Gx=>Ar (decide (y0*1<=y3.length)&&true&&decide ((y0+1)*1<=1099511627776)&&decide (y0+1<=1099511627776))<|Aa (y0+1) fun Ju=>Aa (List.take (y0*1) y3++[.sc (.int .u8 Gx)]) fun H3=>Aa (wrap .i64 (y2-1)) fun Jd=>Ek fu call Be a0 a1 a2 (nn) Ju (y1) Jd H3) (Ar (decide (y0*1<=y3.length))<|some (A5.mk [.own 1 y0 (List.take (y0*1) y3)] []))):=by kernel_rfl
theorem HM (fu d Be:Nat)(a0:List PV)(a1 a2:Int):Ad C0 prog fu (d+1) Nd [.own 1 Be a0,.sc (.int .u8 a1),.sc (.int .u64 a2)]=(fun (call:Af)=>Aa (J0 .u8 a1 5) fun x1=>Bk (decide (a2<24)) (Aa (wrap .u8 a2) fun x2=>Aa (wrap .u8 (x1+x2)) fun x3=>Ar (decide (Be*1<=a0.length)&&true&&decide ((Be+1)*1<=1099511627776)&&decide (Be+1<=1099511627776))<|Aa (Be+1) fun x4=>Aa (List.take (Be*1) a0++[.sc (.int .u8 x3)]) fun x5=>Ar (decide (x4*1<=x5.length))<|some (A5.mk [.own 1 x4 (List.take (x4*1) x5)] [])) (Bk (decide (a2<256)) (Aa (wrap .u8 (x1+24)) fun x6=>Ar (decide (Be*1<=a0.length)&&true&&decide ((Be+1)*1<=1099511627776)&&decide (Be+1<=1099511627776))<|Aa (Be+1) fun x7=>Aa (List.take (Be*1) a0++[.sc (.int .u8 x6)]) fun x8=>Ek fu call Be a0 a1 a2 (fu) x7 (a2) 0 x8) (Bk (decide (a2<65536)) (Aa (wrap .u8 (x1+25)) fun x9=>Ar (decide (Be*1<=a0.length)&&true&&decide ((Be+1)*1<=1099511627776)&&decide (Be+1<=1099511627776))<|Aa (Be+1) fun C7=>Aa (List.take (Be*1) a0++[.sc (.int .u8 x9)]) fun Dm=>Ek fu call Be a0 a1 a2 (fu) C7 (a2) 1 Dm) (Bk (decide (a2<4294967296)) (Aa (wrap .u8 (x1+26)) fun Eh=>Ar (decide (Be*1<=a0.length)&&true&&decide ((Be+1)*1<=1099511627776)&&decide (Be+1<=1099511627776))<|Aa (Be+1) fun E6=>Aa (List.take (Be*1) a0++[.sc (.int .u8 Eh)]) fun D8=>Ek fu call Be a0 a1 a2 (fu) E6 (a2) 3 D8) (Aa (wrap .u8 (x1+27)) fun Ez=>Ar (decide (Be*1<=a0.length)&&true&&decide ((Be+1)*1<=1099511627776)&&decide (Be+1<=1099511627776))<|Aa (Be+1) fun Fu=>Aa (List.take (Be*1) a0++[.sc (.int .u8 Ez)]) fun Gt=>Ek fu call Be a0 a1 a2 (fu) Fu (a2) 7 Gt))))) (Ad C0 prog fu d):=by kernel_rfl
abbrev Tl:FuncId:=108
theorem HT (fu d Be:Nat)(a0:List PV)(Cg Cf:Int)(Cn:ByteArray):Ad C0 prog fu (d+1) Tl [.own 1 Be a0,.agg [.sc (.int .i64 Cg),.sc (.int .u64 Cf),.sc (.string Cn)]]=(fun (call:Af)=>Bk (Cg==7) (Aa (wrap .u8 Cf) fun x1=>Aa (wrap .u8 (244+x1)) fun x2=>Ar (decide (Be*1<=a0.length)&&true&&decide ((Be+1)*1<=1099511627776)&&decide (Be+1<=1099511627776))<|Aa (Be+1) fun x3=>Aa (List.take (Be*1) a0++[.sc (.int .u8 x2)]) fun x4=>Ar (decide (x3*1<=x4.length))<|some (A5.mk [.own 1 x3 (List.take (x3*1) x4)] [])) (Bk (Cg==8) (Ar (decide (Be*1<=a0.length)&&true&&decide ((Be+1)*1<=1099511627776)&&decide (Be+1<=1099511627776))<|Aa (Be+1) fun x5=>Aa (List.take (Be*1) a0++[.sc (.int .u8 246)]) fun x6=>Ar (decide (x5*1<=x6.length))<|some (A5.mk [.own 1 x5 (List.take (x5*1) x6)] [])) (Bk (Cg==3) (Aa (wrap .i64 (Cg-1)) fun x7=>Aa (wrap .u8 x7) fun x8=>Aa (wrap .u64 (↑(ByteArray.size Cn):Int)) fun x9=>Ar (decide (Be*1<=a0.length))<|Aj (call 133 [.own 1 Be (List.take (Be*1) a0),.sc (.int .u8 x8),.sc (.int .u64 x9)]) fun C7 Dm=>Ab C7 fun Eh E6=>Gw 1 Eh fun D8 Ez=>Ac E6<|Ac Dm<|Ar (decide (D8*1<=Ez.length)&&decide (List.length (Fs Cn)=ByteArray.size Cn*1)&&decide ((D8+ByteArray.size Cn)*1<=1099511627776)&&decide (D8+ByteArray.size Cn<=1099511627776))<|Aa (D8+ByteArray.size Cn) fun Fu=>Aa (List.take (D8*1) Ez++Fs Cn) fun Gt=>Ar (decide (Fu*1<=Gt.length))<|some (A5.mk [.own 1 Fu (List.take (Fu*1) Gt)] [])) (Bk (Cg==4) (Aa (wrap .i64 (Cg-1)) fun G7=>Aa (wrap .u8 G7) fun Gj=>Aa (wrap .u64 (↑(ByteArray.size Cn):Int)) fun Gx=>Ar (decide (Be*1<=a0.length))<|Aj (call 133 [.own 1 Be (List.take (Be*1) a0),.sc (.int .u8 Gj),.sc (.int .u64 Gx)]) fun Ju H3=>Ab Ju fun Jd Fn=>Gw 1 Jd fun Ev Hz=>Ac Fn<|Ac H3<|Ar (decide (Ev*1<=Hz.length)&&decide (List.length (Fs Cn)=ByteArray.size Cn*1)&&decide ((Ev+ByteArray.size Cn)*1<=1099511627776)&&decide (Ev+ByteArray.size Cn<=1099511627776))<|Aa (Ev+ByteArray.size Cn) fun J3=>Aa (List.take (Ev*1) Hz++Fs Cn) fun Gy=>Ar (decide (J3*1<=Gy.length))<|some (A5.mk [.own 1 J3 (List.take (J3*1) Gy)] [])) (Aa (wrap .i64 (Cg-1)) fun O4=>Aa (wrap .u8 O4) fun Nu=>Ar (decide (Be*1<=a0.length))<|Aj (call 133 [.own 1 Be (List.take (Be*1) a0),.sc (.int .u8 Nu),.sc (.int .u64 Cf)]) fun K7 M4=>Ab K7 fun Oh P1=>Gw 1 Oh fun Py Q9=>Ac P1<|Ac M4<|Ar (decide (Py*1<=Q9.length))<|some (A5.mk [.own 1 Py (List.take (Py*1) Q9)] [])))))) (Ad C0 prog fu d):=by kernel_rfl
abbrev Vz:FuncId:=87
theorem IE (fu d Ai:Nat)(Ak:List PV)(Al:Int):Ad C0 prog fu (d+1) Vz [.pbox [.own 3 Ai Ak,.sc (.int .i64 Al)]]=(fun (call:Af)=>Bk (decide (Al>0)) (Ar (decide (Ai*3<=Ak.length))<|some (A5.mk [.sc (.bool ((↑Ai:Int)==0))] [[.own 3 Ai (List.take (Ai*3) Ak),.sc (.int .i64 Al)]])) (Ar (decide (Ai*3<=Ak.length))<|some (A5.mk [.sc (.bool false)] [[.own 3 Ai (List.take (Ai*3) Ak),.sc (.int .i64 Al)]]))) (Ad C0 prog fu d):=by kernel_rfl
abbrev Tw:FuncId:=142
theorem FS (fu d Ai:Nat)(Ak:List PV)(Al:Int):Ad C0 prog fu (d+1) Tw [.pbox [.own 3 Ai Ak,.sc (.int .i64 Al)]]=(fun (call:Af)=>Bk (decide ((↑Ai:Int)>0)) (Aa (wrap .i64 ((↑Ai:Int)-1)) fun x1=>Ar (decide (0<=x1)&&decide (x1<(↑Ai:Int)))<|Bv (List.getD Ak (0+Int.toNat x1*3+0) .top) fun x2=>Bk x2 (Aa (wrap .i64 ((↑Ai:Int)-1)) fun x3=>Ar (decide (0<=x3)&&decide (x3<(↑Ai:Int)))<|Ae .i64 (List.getD Ak (0+Int.toNat x3*3+1) .top) fun x4=>Aa (Int.tmod x4 2) fun x5=>Ar (decide (Ai*3<=Ak.length))<|some (A5.mk [.sc (.bool (x5==0))] [[.own 3 Ai (List.take (Ai*3) Ak),.sc (.int .i64 Al)]])) (Ar (decide (Ai*3<=Ak.length))<|some (A5.mk [.sc (.bool false)] [[.own 3 Ai (List.take (Ai*3) Ak),.sc (.int .i64 Al)]]))) (Ar (decide (Ai*3<=Ak.length))<|some (A5.mk [.sc (.bool false)] [[.own 3 Ai (List.take (Ai*3) Ak),.sc (.int .i64 Al)]]))) (Ad C0 prog fu d):=by kernel_rfl
abbrev Tx:FuncId:=122
theorem FC (fu d Ai:Nat)(Ak:List PV)(Al a1:Int):Ad C0 prog fu (d+1) Tx [.pbox [.own 3 Ai Ak,.sc (.int .i64 Al)],.sc (.int .i64 a1)]=(fun (call:Af)=>Bk (decide (Al>=512)) (Ar (decide (Ai*3<=Ak.length))<|some (A5.mk [.sc (.int .i64 8)] [[.own 3 Ai (List.take (Ai*3) Ak),.sc (.int .i64 Al)]])) (Bk (decide (a1<1)) (Ar (decide (Ai*3<=Ak.length))<|some (A5.mk [.sc (.int .i64 3)] [[.own 3 Ai (List.take (Ai*3) Ak),.sc (.int .i64 Al)]])) (Bk (decide (a1>8)) (Ar (decide (Ai*3<=Ak.length))<|some (A5.mk [.sc (.int .i64 3)] [[.own 3 Ai (List.take (Ai*3) Ak),.sc (.int .i64 Al)]])) (Ar (decide (Ai*3<=Ak.length))<|Aj (call 142 [.pbox [.own 3 Ai (List.take (Ai*3) Ak),.sc (.int .i64 Al)]]) fun x1 x2=>Ab x1 fun x3 x4=>Bv x3 fun x5=>Ac x4<|Ab x2 fun x6 x7=>Ab x6 fun x8 x9=>Gw 3 x8 fun C7 Dm=>Ab x9 fun Eh E6=>Ae .i64 Eh fun D8=>Ac E6<|Ac x7<|Bk x5 (Bk (a1 != 1) (Bk (a1 != 2) (Bk (a1 != 4) (Ar (decide (C7*3<=Dm.length))<|some (A5.mk [.sc (.int .i64 3)] [[.own 3 C7 (List.take (C7*3) Dm),.sc (.int .i64 D8)]])) (Bk (decide ((↑C7:Int)>8)) (Ar (decide (C7*3<=Dm.length))<|some (A5.mk [.sc (.int .i64 5)] [[.own 3 C7 (List.take (C7*3) Dm),.sc (.int .i64 D8)]])) (Ar (decide (C7*3<=Dm.length))<|some (A5.mk [.sc (.int .i64 0)] [[.own 3 C7 (List.take (C7*3) Dm),.sc (.int .i64 D8)]])))) (Bk (decide ((↑C7:Int)>8)) (Ar (decide (C7*3<=Dm.length))<|some (A5.mk [.sc (.int .i64 5)] [[.own 3 C7 (List.take (C7*3) Dm),.sc (.int .i64 D8)]])) (Ar (decide (C7*3<=Dm.length))<|some (A5.mk [.sc (.int .i64 0)] [[.own 3 C7 (List.take (C7*3) Dm),.sc (.int .i64 D8)]])))) (Bk (decide ((↑C7:Int)>8)) (Ar (decide (C7*3<=Dm.length))<|some (A5.mk [.sc (.int .i64 5)] [[.own 3 C7 (List.take (C7*3) Dm),.sc (.int .i64 D8)]])) (Ar (decide (C7*3<=Dm.length))<|some (A5.mk [.sc (.int .i64 0)] [[.own 3 C7 (List.take (C7*3) Dm),.sc (.int .i64 D8)]])))) (Bk (decide ((↑C7:Int)>8)) (Ar (decide (C7*3<=Dm.length))<|some (A5.mk [.sc (.int .i64 5)] [[.own 3 C7 (List.take (C7*3) Dm),.sc (.int .i64 D8)]])) (Ar (decide (C7*3<=Dm.length))<|some (A5.mk [.sc (.int .i64 0)] [[.own 3 C7 (List.take (C7*3) Dm),.sc (.int .i64 D8)]]))))))) (Ad C0 prog fu d):=by kernel_rfl
abbrev Vw:FuncId:=144
noncomputable def Bb (fu:Nat)(call:Af)(Ai:Nat)(Ak:List PV)(Al Cg Cf:Int)(Cn:ByteArray)(nn:Nat)(y0:Int)(y1:Nat)(y2:Int)(y3:List PV):Option A5:=Dh CB prog fu call 144 Tryz.f144 (B7 Tryz.f144) [.pbox [.own 3 Ai Ak,.sc (.int .i64 Al)],.agg [.sc (.int .i64 Cg),.sc (.int .u64 Cf),.sc (.string Cn)]] [.r,.r,.r,.r,.r,.r,.l] nn ⟨lk [(0,(.ptr 212000 0)),(5,(.sc (.int .i64 y0)))],Bu [(212000,(.st [(.view 212106 3 0 y1),(.sc (.int .i64 y2))])),(212106,(.ar false y3))]⟩
theorem Qb (fu:Nat)(call:Af)(Ai:Nat)(Ak:List PV)(Al Cg Cf:Int)(Cn:ByteArray)(nn:Nat)(y0:Int)(y1:Nat)(y2:Int)(y3:List PV):Bb fu call Ai Ak Al Cg Cf Cn (nn+1) y0 y1 y2 y3=(Bk (decide (y0>0)) (Aa (wrap .i64 (y0-1)) fun Q9=>Ar (decide (0<=Q9)&&decide (Q9<(↑y1:Int)))<|Ae .i64 (List.getD y3 (0+Int.toNat Q9*3+1) .top) fun Um=>Bk (Um==0) (Aa (wrap .i64 (y0-1)) fun Ii=>Ar (decide (0<=Ii))<|Ar (decide (Int.toNat Ii<=y1))<|Aa (Int.toNat Ii-0) fun Lq=>Aa (wrap .i64 (y0-1)) fun Sr=>Bb fu call Ai Ak Al Cg Cf Cn (nn) Sr Lq (y2) (y3)) (Ar (decide (y1*3<=y3.length))<|some (A5.mk [] [[.own 3 y1 (List.take (y1*3) y3),.sc (.int .i64 y2)]]))) (Ar (decide (y1*3<=y3.length))<|some (A5.mk [] [[.own 3 y1 (List.take (y1*3) y3),.sc (.int .i64 y2)]]))):=by kernel_rfl
theorem IZ (fu d Ai:Nat)(Ak:List PV)(Al Cg Cf:Int)(Cn:ByteArray):Ad C0 prog fu (d+1) Vw [.pbox [.own 3 Ai Ak,.sc (.int .i64 Al)],.agg [.sc (.int .i64 Cg),.sc (.int .u64 Cf),.sc (.string Cn)]]=(fun (call:Af)=>Aa (wrap .i64 (Al+1)) fun x1=>Bk (decide ((↑Ai:Int)>0)) (Aa (wrap .i64 ((↑Ai:Int)-1)) fun x2=>Ar (decide (0<=x2)&&decide (x2<(↑Ai:Int)))<|Ae .i64 (List.getD Ak (0+Int.toNat x2*3+1) .top) fun x3=>Aa (wrap .i64 (x3-1)) fun x4=>Ar (decide (0<=x2)&&decide (x2<(↑Ai:Int)))<|Ar (decide (0+Int.toNat x2*3+1+1<=Ak.length))<|Aa (Bq Ak [.sc (.int .i64 x4)] (0+Int.toNat x2*3+1)) fun x5=>Bk (Cg==5) (Bk (decide (Cf>0)) (Aa (wrap .i64 Cf) fun x6=>Ar (decide (Ai*3<=x5.length)&&true&&decide ((Ai+1)*40<=1099511627776)&&decide (Ai+1<=1099511627776))<|Aa (Ai+1) fun x7=>Aa (List.take (Ai*3) x5++[.sc (.bool false),.sc (.int .i64 x6),.lst false 1 0 []]) fun x8=>Bk (Cg==6) (Bk (decide (Cf>0)) (Aa (wrap .i64 Cf) fun x9=>Aa (wrap .i64 (2*x9)) fun C7=>Ar (decide (x7*3<=x8.length)&&true&&decide ((x7+1)*40<=1099511627776)&&decide (x7+1<=1099511627776))<|Aa (x7+1) fun Dm=>Aa (List.take (x7*3) x8++[.sc (.bool true),.sc (.int .i64 C7),.lst false 1 0 []]) fun Eh=>Bb fu call Ai Ak Al Cg Cf Cn (fu) ((↑Dm:Int)) Dm x1 Eh) (Bb fu call Ai Ak Al Cg Cf Cn (fu) ((↑x7:Int)) x7 x1 x8)) (Bb fu call Ai Ak Al Cg Cf Cn (fu) ((↑x7:Int)) x7 x1 x8)) (Bk (Cg==6) (Bk (decide (Cf>0)) (Aa (wrap .i64 Cf) fun E6=>Aa (wrap .i64 (2*E6)) fun D8=>Ar (decide (Ai*3<=x5.length)&&true&&decide ((Ai+1)*40<=1099511627776)&&decide (Ai+1<=1099511627776))<|Aa (Ai+1) fun Ez=>Aa (List.take (Ai*3) x5++[.sc (.bool true),.sc (.int .i64 D8),.lst false 1 0 []]) fun Fu=>Bb fu call Ai Ak Al Cg Cf Cn (fu) ((↑Ez:Int)) Ez x1 Fu) (Bb fu call Ai Ak Al Cg Cf Cn (fu) ((↑Ai:Int)) (Ai) x1 x5)) (Bb fu call Ai Ak Al Cg Cf Cn (fu) ((↑Ai:Int)) (Ai) x1 x5))) (Bk (Cg==6) (Bk (decide (Cf>0)) (Aa (wrap .i64 Cf) fun Gt=>Aa (wrap .i64 (2*Gt)) fun G7=>Ar (decide (Ai*3<=x5.length)&&true&&decide ((Ai+1)*40<=1099511627776)&&decide (Ai+1<=1099511627776))<|Aa (Ai+1) fun Gj=>Aa (List.take (Ai*3) x5++[.sc (.bool true),.sc (.int .i64 G7),.lst false 1 0 []]) fun Gx=>Bb fu call Ai Ak Al Cg Cf Cn (fu) ((↑Gj:Int)) Gj x1 Gx) (Bb fu call Ai Ak Al Cg Cf Cn (fu) ((↑Ai:Int)) (Ai) x1 x5)) (Bb fu call Ai Ak Al Cg Cf Cn (fu) ((↑Ai:Int)) (Ai) x1 x5))) (Bk (Cg==5) (Bk (decide (Cf>0)) (Aa (wrap .i64 Cf) fun Ju=>Ar (decide (Ai*3<=Ak.length)&&true&&decide ((Ai+1)*40<=1099511627776)&&decide (Ai+1<=1099511627776))<|Aa (Ai+1) fun H3=>Aa (List.take (Ai*3) Ak++[.sc (.bool false),.sc (.int .i64 Ju),.lst false 1 0 []]) fun Jd=>Bk (Cg==6) (Bk (decide (Cf>0)) (Aa (wrap .i64 Cf) fun Fn=>Aa (wrap .i64 (2*Fn)) fun Ev=>Ar (decide (H3*3<=Jd.length)&&true&&decide ((H3+1)*40<=1099511627776)&&decide (H3+1<=1099511627776))<|Aa (H3+1) fun Hz=>Aa (List.take (H3*3) Jd++[.sc (.bool true),.sc (.int .i64 Ev),.lst false 1 0 []]) fun J3=>Bb fu call Ai Ak Al Cg Cf Cn (fu) ((↑Hz:Int)) Hz x1 J3) (Bb fu call Ai Ak Al Cg Cf Cn (fu) ((↑H3:Int)) H3 x1 Jd)) (Bb fu call Ai Ak Al Cg Cf Cn (fu) ((↑H3:Int)) H3 x1 Jd)) (Bk (Cg==6) (Bk (decide (Cf>0)) (Aa (wrap .i64 Cf) fun Gy=>Aa (wrap .i64 (2*Gy)) fun O4=>Ar (decide (Ai*3<=Ak.length)&&true&&decide ((Ai+1)*40<=1099511627776)&&decide (Ai+1<=1099511627776))<|Aa (Ai+1) fun Nu=>Aa (List.take (Ai*3) Ak++[.sc (.bool true),.sc (.int .i64 O4),.lst false 1 0 []]) fun K7=>Bb fu call Ai Ak Al Cg Cf Cn (fu) ((↑Nu:Int)) Nu x1 K7) (Bb fu call Ai Ak Al Cg Cf Cn (fu) ((↑Ai:Int)) (Ai) x1 (Ak))) (Bb fu call Ai Ak Al Cg Cf Cn (fu) ((↑Ai:Int)) (Ai) x1 (Ak)))) (Bk (Cg==6) (Bk (decide (Cf>0)) (Aa (wrap .i64 Cf) fun M4=>Aa (wrap .i64 (2*M4)) fun Oh=>Ar (decide (Ai*3<=Ak.length)&&true&&decide ((Ai+1)*40<=1099511627776)&&decide (Ai+1<=1099511627776))<|Aa (Ai+1) fun P1=>Aa (List.take (Ai*3) Ak++[.sc (.bool true),.sc (.int .i64 Oh),.lst false 1 0 []]) fun Py=>Bb fu call Ai Ak Al Cg Cf Cn (fu) ((↑P1:Int)) P1 x1 Py) (Bb fu call Ai Ak Al Cg Cf Cn (fu) ((↑Ai:Int)) (Ai) x1 (Ak))) (Bb fu call Ai Ak Al Cg Cf Cn (fu) ((↑Ai:Int)) (Ai) x1 (Ak))))) (Ad C0 prog fu d):=by kernel_rfl
abbrev L5:FuncId:=123
theorem Mc (fu d Ai:Nat)(Ak:List PV)(Al Cg Cf:Int)(Cn:ByteArray):Ad C0 prog fu (d+1) L5 [.pbox [.own 3 Ai Ak,.sc (.int .i64 Al)],.agg [.sc (.int .i64 Cg),.sc (.int .u64 Cf),.sc (.string Cn)]]=(fun (call:Af)=>Bk (Cg==4) (Aj (call 126 [.sc (.string Cn)]) fun x1 x2=>Ac x2<|Ab x1 fun x3 x4=>Bv x3 fun x5=>Ac x4<|Bk (!x5) (Ar (decide (Ai*3<=Ak.length))<|some (A5.mk [.sc (.int .i64 6)] [[.own 3 Ai (List.take (Ai*3) Ak),.sc (.int .i64 Al)]])) (Ar (decide (Ai*3<=Ak.length))<|Aj (call 142 [.pbox [.own 3 Ai (List.take (Ai*3) Ak),.sc (.int .i64 Al)]]) fun x6 x7=>Ab x6 fun x8 x9=>Bv x8 fun C7=>Ac x9<|Ab x7 fun Dm Eh=>Ab Dm fun E6 D8=>Gw 3 E6 fun Ez Fu=>Ab D8 fun Gt G7=>Ae .i64 Gt fun Gj=>Ac G7<|Ac Eh<|Bk C7 (Aa (wrap .i64 ((↑Ez:Int)-1)) fun Gx=>Ar (decide (0<=Gx)&&decide (Gx<(↑Ez:Int)))<|Aj (call 108 [.own 1 0 [],.agg [.sc (.int .i64 Cg),.sc (.int .u64 Cf),.sc (.string Cn)]]) fun Ju H3=>Ab Ju fun Jd Fn=>Gw 1 Jd fun Ev Hz=>Ac Fn<|Ac H3<|Em 1 (List.getD Fu (0+Int.toNat Gx*3+0+2) .top) fun J3 Gy O4=>Bk (decide (0<Gy)) (Em 1 (List.getD Fu (0+Int.toNat Gx*3+0+2) .top) fun Nu K7 M4=>Ar (decide (0+Ev*1<=Hz.length))<|Aj (call 143 [.lst false 1 K7 M4,.lst false 1 Ev (List.take (Ev*1) (List.drop 0 Hz))]) fun Oh P1=>Ac P1<|Ab Oh fun Py Q9=>Bv Py fun Um=>Ac Q9<|Bk (!Um) (Ar (decide (Ez*3<=Fu.length))<|some (A5.mk [.sc (.int .i64 7)] [[.own 3 Ez (List.take (Ez*3) Fu),.sc (.int .i64 Gj)]])) (Ar (decide (0+Int.toNat Gx*3+0+2+1<=Fu.length))<|Ar (decide (0+Ev*1<=Hz.length))<|Aa (Bq Fu [.lst false 1 Ev (List.take (Ev*1) (List.drop 0 Hz))] (0+Int.toNat Gx*3+0+2)) fun Ii=>Ar (decide (Ez*3<=Ii.length))<|Aj (call 144 [.pbox [.own 3 Ez (List.take (Ez*3) Ii),.sc (.int .i64 Gj)],.agg [.sc (.int .i64 Cg),.sc (.int .u64 Cf),.sc (.string Cn)]]) fun Lq Sr=>Ac Lq<|Ab Sr fun Xv Ss=>Ab Xv fun Zu Y5=>Gw 3 Zu fun Xw Xe=>Ab Y5 fun Xx X9=>Ae .i64 Xx fun X8=>Ac X9<|Ac Ss<|Ar (decide (Xw*3<=Xe.length))<|some (A5.mk [.sc (.int .i64 0)] [[.own 3 Xw (List.take (Xw*3) Xe),.sc (.int .i64 X8)]]))) (Xj (Em 1 (List.getD Fu (0+Int.toNat Gx*3+0+2) .top) fun AW Yu X7=>Ar (decide (0+Ev*1<=Hz.length))<|Aj (call 143 [.lst false 1 Yu X7,.lst false 1 Ev (List.take (Ev*1) (List.drop 0 Hz))]) fun BF DR=>Ac DR<|Ab BF fun EL BO=>Bv EL fun DV=>Ac BO<|Bk (!DV) (Ar (decide (Ez*3<=Fu.length))<|some (A5.mk [.sc (.int .i64 7)] [[.own 3 Ez (List.take (Ez*3) Fu),.sc (.int .i64 Gj)]])) (Ar (decide (0+Int.toNat Gx*3+0+2+1<=Fu.length))<|Ar (decide (0+Ev*1<=Hz.length))<|Aa (Bq Fu [.lst false 1 Ev (List.take (Ev*1) (List.drop 0 Hz))] (0+Int.toNat Gx*3+0+2)) fun Yy=>Ar (decide (Ez*3<=Yy.length))<|Aj (call 144 [.pbox [.own 3 Ez (List.take (Ez*3) Yy),.sc (.int .i64 Gj)],.agg [.sc (.int .i64 Cg),.sc (.int .u64 Cf),.sc (.string Cn)]]) fun EW AM=>Ac EW<|Ab AM fun BB DI=>Ab BB fun BJ Zw=>Gw 3 BJ fun Ya Xg=>Ab Zw fun BS ET=>Ae .i64 BS fun CH=>Ac ET<|Ac DI<|Ar (decide (Ya*3<=Xg.length))<|some (A5.mk [.sc (.int .i64 0)] [[.own 3 Ya (List.take (Ya*3) Xg),.sc (.int .i64 CH)]]))) (Ar (decide (0+Int.toNat Gx*3+0+2+1<=Fu.length))<|Ar (decide (0+Ev*1<=Hz.length))<|Aa (Bq Fu [.lst false 1 Ev (List.take (Ev*1) (List.drop 0 Hz))] (0+Int.toNat Gx*3+0+2)) fun CN=>Ar (decide (Ez*3<=CN.length))<|Aj (call 144 [.pbox [.own 3 Ez (List.take (Ez*3) CN),.sc (.int .i64 Gj)],.agg [.sc (.int .i64 Cg),.sc (.int .u64 Cf),.sc (.string Cn)]]) fun CF CO=>Ac CF<|Ab CO fun FJ Z9=>Ab FJ fun HN LC=>Gw 3 HN fun EG JX=>Ab LC fun OB NB=>Ae .i64 OB fun NK=>Ac NB<|Ac Z9<|Ar (decide (EG*3<=JX.length))<|some (A5.mk [.sc (.int .i64 0)] [[.own 3 EG (List.take (EG*3) JX),.sc (.int .i64 NK)]])))) (Ar (decide (Ez*3<=Fu.length))<|Aj (call 144 [.pbox [.own 3 Ez (List.take (Ez*3) Fu),.sc (.int .i64 Gj)],.agg [.sc (.int .i64 Cg),.sc (.int .u64 Cf),.sc (.string Cn)]]) fun QN ZP=>Ac QN<|Ab ZP fun UB x85=>Ab UB fun VR VO=>Gw 3 VR fun UM MA=>Ab VO fun YS UP=>Ae .i64 YS fun x92=>Ac UP<|Ac x85<|Ar (decide (UM*3<=MA.length))<|some (A5.mk [.sc (.int .i64 0)] [[.own 3 UM (List.take (UM*3) MA),.sc (.int .i64 x92)]])))) (Ar (decide (Ai*3<=Ak.length))<|Aj (call 142 [.pbox [.own 3 Ai (List.take (Ai*3) Ak),.sc (.int .i64 Al)]]) fun x93 x94=>Ab x93 fun x95 x96=>Bv x95 fun UA=>Ac x96<|Ab x94 fun OQ x99=>Ab OQ fun V2 Xs=>Gw 3 V2 fun Jh Mx=>Ab Xs fun X1 Uy=>Ae .i64 X1 fun Vq=>Ac Uy<|Ac x99<|Bk UA (Aa (wrap .i64 ((↑Jh:Int)-1)) fun Pa=>Ar (decide (0<=Pa)&&decide (Pa<(↑Jh:Int)))<|Aj (call 108 [.own 1 0 [],.agg [.sc (.int .i64 Cg),.sc (.int .u64 Cf),.sc (.string Cn)]]) fun DK HC=>Ab DK fun JS ID=>Gw 1 JS fun Lf P5=>Ac ID<|Ac HC<|Em 1 (List.getD Mx (0+Int.toNat Pa*3+0+2) .top) fun NW IX GQ=>Bk (decide (0<IX)) (Em 1 (List.getD Mx (0+Int.toNat Pa*3+0+2) .top) fun MY KJ JN=>Ar (decide (0+Lf*1<=P5.length))<|Aj (call 143 [.lst false 1 KJ JN,.lst false 1 Lf (List.take (Lf*1) (List.drop 0 P5))]) fun MT JO=>Ac JO<|Ab MT fun GJ KH=>Bv GJ fun JG=>Ac KH<|Bk (!JG) (Ar (decide (Jh*3<=Mx.length))<|some (A5.mk [.sc (.int .i64 7)] [[.own 3 Jh (List.take (Jh*3) Mx),.sc (.int .i64 Vq)]])) (Ar (decide (0+Int.toNat Pa*3+0+2+1<=Mx.length))<|Ar (decide (0+Lf*1<=P5.length))<|Aa (Bq Mx [.lst false 1 Lf (List.take (Lf*1) (List.drop 0 P5))] (0+Int.toNat Pa*3+0+2)) fun IQ=>Ar (decide (Jh*3<=IQ.length))<|Aj (call 144 [.pbox [.own 3 Jh (List.take (Jh*3) IQ),.sc (.int .i64 Vq)],.agg [.sc (.int .i64 Cg),.sc (.int .u64 Cf),.sc (.string Cn)]]) fun Xu EC=>Ac Xu<|Ab EC fun OD NF=>Ab OD fun Zi QE=>Gw 3 Zi fun NC QY=>Ab QE fun VD QX=>Ae .i64 VD fun NG=>Ac QX<|Ac NF<|Ar (decide (NC*3<=QY.length))<|some (A5.mk [.sc (.int .i64 0)] [[.own 3 NC (List.take (NC*3) QY),.sc (.int .i64 NG)]]))) (Xj (Em 1 (List.getD Mx (0+Int.toNat Pa*3+0+2) .top) fun UQ UG SB=>Ar (decide (0+Lf*1<=P5.length))<|Aj (call 143 [.lst false 1 UG SB,.lst false 1 Lf (List.take (Lf*1) (List.drop 0 P5))]) fun SD RI=>Ac RI<|Ab SD fun RN QR=>Bv RN fun JT=>Ac QR<|Bk (!JT) (Ar (decide (Jh*3<=Mx.length))<|some (A5.mk [.sc (.int .i64 7)] [[.own 3 Jh (List.take (Jh*3) Mx),.sc (.int .i64 Vq)]])) (Ar (decide (0+Int.toNat Pa*3+0+2+1<=Mx.length))<|Ar (decide (0+Lf*1<=P5.length))<|Aa (Bq Mx [.lst false 1 Lf (List.take (Lf*1) (List.drop 0 P5))] (0+Int.toNat Pa*3+0+2)) fun ND=>Ar (decide (Jh*3<=ND.length))<|Aj (call 144 [.pbox [.own 3 Jh (List.take (Jh*3) ND),.sc (.int .i64 Vq)],.agg [.sc (.int .i64 Cg),.sc (.int .u64 Cf),.sc (.string Cn)]]) fun RA PD=>Ac RA<|Ab PD fun RQ Abf=>Ab RQ fun Aba Aa1=>Gw 3 Aba fun Abe Aho=>Ab Aa1 fun Aly Aha=>Ae .i64 Aly fun Ag6=>Ac Aha<|Ac Abf<|Ar (decide (Abe*3<=Aho.length))<|some (A5.mk [.sc (.int .i64 0)] [[.own 3 Abe (List.take (Abe*3) Aho),.sc (.int .i64 Ag6)]]))) (Ar (decide (0+Int.toNat Pa*3+0+2+1<=Mx.length))<|Ar (decide (0+Lf*1<=P5.length))<|Aa (Bq Mx [.lst false 1 Lf (List.take (Lf*1) (List.drop 0 P5))] (0+Int.toNat Pa*3+0+2)) fun Ac8=>Ar (decide (Jh*3<=Ac8.length))<|Aj (call 144 [.pbox [.own 3 Jh (List.take (Jh*3) Ac8),.sc (.int .i64 Vq)],.agg [.sc (.int .i64 Cg),.sc (.int .u64 Cf),.sc (.string Cn)]]) fun Aht Aie=>Ac Aht<|Ab Aie fun Ahl Ag5=>Ab Ahl fun Ahm Aml=>Gw 3 Ahm fun TH Adi=>Ab Aml fun Af3 Agd=>Ae .i64 Af3 fun Ako=>Ac Agd<|Ac Ag5<|Ar (decide (TH*3<=Adi.length))<|some (A5.mk [.sc (.int .i64 0)] [[.own 3 TH (List.take (TH*3) Adi),.sc (.int .i64 Ako)]])))) (Ar (decide (Jh*3<=Mx.length))<|Aj (call 144 [.pbox [.own 3 Jh (List.take (Jh*3) Mx),.sc (.int .i64 Vq)],.agg [.sc (.int .i64 Cg),.sc (.int .u64 Cf),.sc (.string Cn)]]) fun Am2 UY=>Ac Am2<|Ab UY fun UE Agx=>Ab UE fun Ahk UZ=>Gw 3 Ahk fun ZJ Abz=>Ab UZ fun Ald Af6=>Ae .i64 Ald fun ZG=>Ac Af6<|Ac Agx<|Ar (decide (ZJ*3<=Abz.length))<|some (A5.mk [.sc (.int .i64 0)] [[.own 3 ZJ (List.take (ZJ*3) Abz),.sc (.int .i64 ZG)]])))) (Ad C0 prog fu d):=by kernel_rfl
abbrev Ql:FuncId:=132
theorem BG (fu d Ai:Nat)(Ak:List PV)(Al Cg Cf:Int)(Cn:ByteArray):Ad C0 prog fu (d+1) Ql [.pbox [.own 3 Ai Ak,.sc (.int .i64 Al)],.agg [.sc (.int .i64 Cg),.sc (.int .u64 Cf),.sc (.string Cn)]]=(fun (call:Af)=>Ar (decide (Ai*3<=Ak.length))<|Aj (call 87 [.pbox [.own 3 Ai (List.take (Ai*3) Ak),.sc (.int .i64 Al)]]) fun x1 x2=>Ab x1 fun x3 x4=>Bv x3 fun x5=>Ac x4<|Ab x2 fun x6 x7=>Ab x6 fun x8 x9=>Gw 3 x8 fun C7 Dm=>Ab x9 fun Eh E6=>Ae .i64 Eh fun D8=>Ac E6<|Ac x7<|Bk x5 (Ar (decide (C7*3<=Dm.length))<|some (A5.mk [.sc (.int .i64 2)] [[.own 3 C7 (List.take (C7*3) Dm),.sc (.int .i64 D8)]])) (Ar (decide (C7*3<=Dm.length))<|Aj (call 122 [.pbox [.own 3 C7 (List.take (C7*3) Dm),.sc (.int .i64 D8)],.sc (.int .i64 Cg)]) fun Ez Fu=>Ab Ez fun Gt G7=>Ae .i64 Gt fun Gj=>Ac G7<|Ab Fu fun Gx Ju=>Ab Gx fun H3 Jd=>Gw 3 H3 fun Fn Ev=>Ab Jd fun Hz J3=>Ae .i64 Hz fun Gy=>Ac J3<|Ac Ju<|Bk (Gj != 0) (Ar (decide (Fn*3<=Ev.length))<|some (A5.mk [.sc (.int .i64 Gj)] [[.own 3 Fn (List.take (Fn*3) Ev),.sc (.int .i64 Gy)]])) (Aj (call 146 [.agg [.sc (.int .i64 Cg),.sc (.int .u64 Cf),.sc (.string Cn)]]) fun O4 Nu=>Ac Nu<|Ab O4 fun K7 M4=>Bv K7 fun Oh=>Ac M4<|Bk (!Oh) (Ar (decide (Fn*3<=Ev.length))<|some (A5.mk [.sc (.int .i64 4)] [[.own 3 Fn (List.take (Fn*3) Ev),.sc (.int .i64 Gy)]])) (Bk (decide ((↑(ByteArray.size Cn):Int)>1024)) (Ar (decide (Fn*3<=Ev.length))<|some (A5.mk [.sc (.int .i64 8)] [[.own 3 Fn (List.take (Fn*3) Ev),.sc (.int .i64 Gy)]])) (Bk (Cg==5) (Bk (decide (Cf>512)) (Ar (decide (Fn*3<=Ev.length))<|some (A5.mk [.sc (.int .i64 8)] [[.own 3 Fn (List.take (Fn*3) Ev),.sc (.int .i64 Gy)]])) (Ar (decide (Fn*3<=Ev.length))<|Aj (call 123 [.pbox [.own 3 Fn (List.take (Fn*3) Ev),.sc (.int .i64 Gy)],.agg [.sc (.int .i64 Cg),.sc (.int .u64 Cf),.sc (.string Cn)]]) fun P1 Py=>Ab P1 fun Q9 Um=>Ae .i64 Q9 fun Ii=>Ac Um<|Ab Py fun Lq Sr=>Ab Lq fun Xv Ss=>Gw 3 Xv fun Zu Y5=>Ab Ss fun Xw Xe=>Ae .i64 Xw fun Xx=>Ac Xe<|Ac Sr<|Ar (decide (Zu*3<=Y5.length))<|some (A5.mk [.sc (.int .i64 Ii)] [[.own 3 Zu (List.take (Zu*3) Y5),.sc (.int .i64 Xx)]]))) (Bk (Cg==6) (Bk (decide (Cf>512)) (Ar (decide (Fn*3<=Ev.length))<|some (A5.mk [.sc (.int .i64 8)] [[.own 3 Fn (List.take (Fn*3) Ev),.sc (.int .i64 Gy)]])) (Ar (decide (Fn*3<=Ev.length))<|Aj (call 123 [.pbox [.own 3 Fn (List.take (Fn*3) Ev),.sc (.int .i64 Gy)],.agg [.sc (.int .i64 Cg),.sc (.int .u64 Cf),.sc (.string Cn)]]) fun X9 X8=>Ab X9 fun AW Yu=>Ae .i64 AW fun X7=>Ac Yu<|Ab X8 fun BF DR=>Ab BF fun EL BO=>Gw 3 EL fun DV Yy=>Ab BO fun EW AM=>Ae .i64 EW fun BB=>Ac AM<|Ac DR<|Ar (decide (DV*3<=Yy.length))<|some (A5.mk [.sc (.int .i64 X7)] [[.own 3 DV (List.take (DV*3) Yy),.sc (.int .i64 BB)]]))) (Ar (decide (Fn*3<=Ev.length))<|Aj (call 123 [.pbox [.own 3 Fn (List.take (Fn*3) Ev),.sc (.int .i64 Gy)],.agg [.sc (.int .i64 Cg),.sc (.int .u64 Cf),.sc (.string Cn)]]) fun DI BJ=>Ab DI fun Zw Ya=>Ae .i64 Zw fun Xg=>Ac Ya<|Ab BJ fun BS ET=>Ab BS fun CH CN=>Gw 3 CH fun CF CO=>Ab CN fun FJ Z9=>Ae .i64 FJ fun HN=>Ac Z9<|Ac ET<|Ar (decide (CF*3<=CO.length))<|some (A5.mk [.sc (.int .i64 Xg)] [[.own 3 CF (List.take (CF*3) CO),.sc (.int .i64 HN)]])))))))) (Ad C0 prog fu d):=by kernel_rfl
abbrev Xm:FuncId:=107
noncomputable def Kl (fu:Nat)(call:Af)(Be:Nat)(a0:List PV)(nn y0:Nat)(y1:List PV)(y2 y3:Int)(y4:Nat)(y5:Int)(y6:List PV):Option A5:=Dh CB prog fu call 107 Tryz.f107 (B7 Tryz.f107) [.lst false 3 Be a0] [.r,.r,.l,.r,.l] nn ⟨lk [(3,(.ptr 3 0)),(7,(.lst false 3 y0 y1)),(8,(.sc (.int .i64 y2))),(9,(.sc (.int .i64 y3)))],Bu [(3,(.st [(.view 25 3 0 y4),(.sc (.int .i64 y5))])),(25,(.ar false y6))]⟩
theorem Ru (fu:Nat)(call:Af)(Be:Nat)(a0:List PV)(nn y0:Nat)(y1:List PV)(y2 y3:Int)(y4:Nat)(y5:Int)(y6:List PV):Kl fu call Be a0 (nn+1) y0 y1 y2 y3 y4 y5 y6=(Bk (decide (y3<y2)) (Ar (decide (0<=y3)&&decide (y3<(↑y0:Int)))<|Ae .i64 (List.getD y1 (Int.toNat y3*3) .top) fun x1=>Ae .u64 (List.getD y1 (Int.toNat y3*3+1) .top) fun x2=>Iv (List.getD y1 (Int.toNat y3*3+1+1) .top) fun x3=>Ar (decide (y4*3<=y6.length))<|Aj (call 132 [.pbox [.own 3 y4 (List.take (y4*3) y6),.sc (.int .i64 y5)],.agg [.sc (.int .i64 x1),.sc (.int .u64 x2),.sc (.string x3)]]) fun x4 x5=>Ab x4 fun x6 x7=>Ae .i64 x6 fun x8=>Ac x7<|Ab x5 fun x9 C7=>Ab x9 fun Dm Eh=>Gw 3 Dm fun E6 D8=>Ab Eh fun Ez Fu=>Ae .i64 Ez fun Gt=>Ac Fu<|Ac C7<|Bk (x8 != 0) (some (A5.mk [.sc (.int .i64 x8)] [])) (Aa (wrap .i64 (y3+1)) fun G7=>Kl fu call Be a0 (nn) (y0) (y1) (y2) G7 E6 Gt D8)) (Ar (decide (y4*3<=y6.length))<|Aj (call 87 [.pbox [.own 3 y4 (List.take (y4*3) y6),.sc (.int .i64 y5)]]) fun Gj Gx=>Ab Gj fun Ju H3=>Bv Ju fun Jd=>Ac H3<|Ab Gx fun Fn Ev=>Ab Fn fun Hz J3=>Gw 3 Hz fun Gy O4=>Ab J3 fun Nu K7=>Ae .i64 Nu fun M4=>Ac K7<|Ac Ev<|Bk (!Jd) (some (A5.mk [.sc (.int .i64 1)] [])) (some (A5.mk [.sc (.int .i64 0)] [])))):=by kernel_rfl
theorem NU (fu d Be:Nat)(a0:List PV):Ad C0 prog fu (d+1) Xm [.lst false 3 Be a0]=(fun (call:Af)=>Kl fu call Be a0 (fu) (Be) (a0) ((↑Be:Int)) 0 0 0 ([])) (Ad C0 prog fu d):=by kernel_rfl
abbrev Za:FuncId:=106
theorem SI (fu d Be:Nat)(a0:List PV):Ad C0 prog fu (d+1) Za [.own 3 Be a0]=(fun (call:Af)=>Ar (decide (0+Be*3<=a0.length))<|Aj (call 107 [.lst false 3 Be (List.take (Be*3) (List.drop 0 a0))]) fun x1 x2=>Ac x2<|Ab x1 fun x3 x4=>Ae .i64 x3 fun x5=>Ac x4<|Bk (x5 != 0) (some (A5.mk [.own 3 0 [],.sc (.int .i64 x5)] [])) (Ar (decide (Be*3<=a0.length))<|some (A5.mk [.own 3 Be (List.take (Be*3) a0),.sc (.int .i64 0)] []))) (Ad C0 prog fu d):=by kernel_rfl
abbrev BP:FuncId:=105
noncomputable def M1 (fu:Nat)(call:Af)(Be:Nat)(a0:List PV)(nn y0:Nat)(y1:List PV)(y2 y3:Int):Option A5:=Dh CB prog fu call 105 Tryz.f105 (B7 Tryz.f105) [.lst false 1 Be a0] [.r,.l,.r,.l] nn ⟨lk [(6,(.lst false 1 y0 y1)),(7,(.sc (.int .i64 y2))),(8,(.sc (.int .i64 y3)))],Bu []⟩
theorem Vn (fu:Nat)(call:Af)(Be:Nat)(a0:List PV)(nn y0:Nat)(y1:List PV)(y2 y3:Int):M1 fu call Be a0 (nn+1) y0 y1 y2 y3=(Bk (decide (y3<y2)) (Ar (decide (0<=y3)&&decide (y3<(↑y0:Int)))<|Em 3 (List.getD y1 (Int.toNat y3*1) .top) fun x1 x2 x3=>Aj (call 107 [.lst false 3 x2 x3]) fun x4 x5=>Ac x5<|Ab x4 fun x6 x7=>Ae .i64 x6 fun x8=>Ac x7<|Bk (x8 != 0) (some (A5.mk [.sc (.int .i64 x8)] [])) (Aa (wrap .i64 (y3+1)) fun x9=>M1 fu call Be a0 (nn) (y0) (y1) (y2) x9)) (some (A5.mk [.sc (.int .i64 0)] []))):=by kernel_rfl
theorem UJ (fu d Be:Nat)(a0:List PV):Ad C0 prog fu (d+1) BP [.lst false 1 Be a0]=(fun (call:Af)=>M1 fu call Be a0 (fu) (Be) (a0) ((↑Be:Int)) 0) (Ad C0 prog fu d):=by kernel_rfl
abbrev Iw:FuncId:=63
noncomputable def O5 (fu:Nat)(call:Af)(Be:Nat)(a0:List PV)(nn y0 y1:Nat)(y2:List PV)(y3 y4:Int)(y5:List PV):Option A5:=Dh CB prog fu call 63 Tryz.f63 (B7 Tryz.f63) [.lst false 1 Be a0] [.r,.r,.r,.l,.r,.l] nn ⟨lk [(5,(.view 5 3 0 y0)),(18,(.lst false 1 y1 y2)),(19,(.sc (.int .i64 y3))),(20,(.sc (.int .i64 y4)))],Bu [(5,(.ar false y5))]⟩
theorem Xb (fu:Nat)(call:Af)(Be:Nat)(a0:List PV)(nn y0 y1:Nat)(y2:List PV)(y3 y4:Int)(y5:List PV):O5 fu call Be a0 (nn+1) y0 y1 y2 y3 y4 y5=(Bk (decide (y4<y3)) (Ar (decide (0<=y4)&&decide (y4<(↑y1:Int)))<|Em 3 (List.getD y2 (Int.toNat y4*1) .top) fun x7 x8 x9=>Bk (decide ((↑y0:Int)>512)) (Ar (decide (y0*3<=y5.length))<|Aj (call 106 [.own 3 y0 (List.take (y0*3) y5)]) fun C7 Dm=>Ab C7 fun Eh E6=>Gw 3 Eh fun D8 Ez=>Ab E6 fun Fu Gt=>Ae .i64 Fu fun G7=>Ac Gt<|Ac Dm<|Ar (decide (D8*3<=Ez.length))<|some (A5.mk [.own 3 D8 (List.take (D8*3) Ez),.sc (.int .i64 G7)] [])) (Ar (decide (y0*3<=y5.length)&&decide (x9.length=x8*3)&&decide ((y0+x8)*32<=1099511627776)&&decide (y0+x8<=1099511627776))<|Aa (y0+x8) fun Gj=>Aa (List.take (y0*3) y5++x9) fun Gx=>Aa (wrap .i64 (y4+1)) fun Ju=>O5 fu call Be a0 (nn) Gj (y1) (y2) (y3) Ju Gx)) (Ar (decide (y0*3<=y5.length))<|Aj (call 106 [.own 3 y0 (List.take (y0*3) y5)]) fun H3 Jd=>Ab H3 fun Fn Ev=>Gw 3 Fn fun Hz J3=>Ab Ev fun Gy O4=>Ae .i64 Gy fun Nu=>Ac O4<|Ac Jd<|Ar (decide (Hz*3<=J3.length))<|some (A5.mk [.own 3 Hz (List.take (Hz*3) J3),.sc (.int .i64 Nu)] []))):=by kernel_rfl
theorem ZF (fu d Be:Nat)(a0:List PV):Ad C0 prog fu (d+1) Iw [.lst false 1 Be a0]=(fun (call:Af)=>Aj (call 105 [.lst false 1 Be a0]) fun x1 x2=>Ac x2<|Ab x1 fun x3 x4=>Ae .i64 x3 fun x5=>Ac x4<|Bk (x5 != 0) (some (A5.mk [.own 3 0 [],.sc (.int .i64 x5)] [])) (Aa (wrap .u64 (↑Be:Int)) fun x6=>O5 fu call Be a0 (fu) 1 (Be) (a0) ((↑Be:Int)) 0 ([.sc (.int .i64 5),.sc (.int .u64 x6),.sc (.string (ByteArray.mk #[]))]))) (Ad C0 prog fu d):=by kernel_rfl
abbrev BT:FuncId:=65
noncomputable def Nh (fu:Nat)(call:Af)(Be:Nat)(a0:List PV)(nn y0 y1:Nat)(y2:List PV)(y3 y4:Int)(y5:List PV):Option A5:=Dh CB prog fu call 65 Tryz.f65 (B7 Tryz.f65) [.lst false 3 Be a0] [.r,.r,.r,.l,.r,.l] nn ⟨lk [(5,(.view 5 1 0 y0)),(13,(.lst false 3 y1 y2)),(14,(.sc (.int .i64 y3))),(15,(.sc (.int .i64 y4)))],Bu [(5,(.ar false y5))]⟩
theorem U9 (fu:Nat)(call:Af)(Be:Nat)(a0:List PV)(nn y0 y1:Nat)(y2:List PV)(y3 y4:Int)(y5:List PV):Nh fu call Be a0 (nn+1) y0 y1 y2 y3 y4 y5=(Bk (decide (y4<y3)) (Ar (decide (0<=y4)&&decide (y4<(↑y1:Int)))<|Ae .i64 (List.getD y2 (Int.toNat y4*3) .top) fun x6=>Ae .u64 (List.getD y2 (Int.toNat y4*3+1) .top) fun x7=>Iv (List.getD y2 (Int.toNat y4*3+1+1) .top) fun x8=>Ar (decide (y0*1<=y5.length))<|Aj (call 108 [.own 1 y0 (List.take (y0*1) y5),.agg [.sc (.int .i64 x6),.sc (.int .u64 x7),.sc (.string x8)]]) fun x9 C7=>Ab x9 fun Dm Eh=>Gw 1 Dm fun E6 D8=>Ac Eh<|Ac C7<|Aa (wrap .i64 (y4+1)) fun Ez=>Nh fu call Be a0 (nn) E6 (y1) (y2) (y3) Ez D8) (Ar (decide (y0*1<=y5.length))<|some (A5.mk [.own 1 y0 (List.take (y0*1) y5),.sc (.int .i64 0)] []))):=by kernel_rfl
theorem UX (fu d Be:Nat)(a0:List PV):Ad C0 prog fu (d+1) BT [.lst false 3 Be a0]=(fun (call:Af)=>Aj (call 107 [.lst false 3 Be a0]) fun x1 x2=>Ac x2<|Ab x1 fun x3 x4=>Ae .i64 x3 fun x5=>Ac x4<|Bk (x5 != 0) (some (A5.mk [.own 1 0 [],.sc (.int .i64 x5)] [])) (Nh fu call Be a0 (fu) 0 (Be) (a0) ((↑Be:Int)) 0 ([]))) (Ad C0 prog fu d):=by kernel_rfl
end
section
open Go.Proofs.Tryz (prog)
open Go.IntKind (wrap)
def Nt (s:ByteArray):List Int:=s.data.toList.map fun b=>(b.toNat:Int)
def Dv (l:List Int):ByteArray:=⟨(l.map fun n=>n.toNat.toUInt8).toArray⟩
theorem Rl (s:ByteArray):(Nt s).length=s.size:=by
 unfold Nt;rw[List.length_map];rfl
theorem Afy (s:ByteArray):Li (Nt s):=by
 intro x hx;obtain⟨b,_,rfl⟩:=List.mem_map.1 hx;have:=b.toNat_lt;omega
theorem Tt (s:ByteArray):Fs s=Ah .u8 (Nt s):=by
 unfold Fs Nt
 induction s.data.toList with
 |nil=>rfl
 |cons b l ih=>rw[VN,VN,ih];rfl
theorem Q2 (l:List Int):(Dv l).size=l.length:=by
 show (l.map fun n=>n.toNat.toUInt8).toArray.size=_
 simp
theorem Wu {l:List Int}(h:Li l):Nt (Dv l)=l:=by
 unfold Nt Dv;simp only[List.map_map]
 have:∀l:List Int,Li l->List.map ((fun b:UInt8=>(b.toNat:Int)) ∘ fun n:Int=>n.toNat.toUInt8) l=l:=by
  intro l
  induction l with
  |nil=>intro _;rfl
  |cons x l ih=>
   intro h;have hx:=h x (by simp)
   rw[VN,ih fun y hy=>h y (by simp[hy])]
   congr 1
   show ((x.toNat.toUInt8.toNat:Nat):Int)=x;rw[Nat.toUInt8,UInt8.toNat_ofNat'];omega
 exact this l h
theorem ZQ (s:ByteArray):Dv (Nt s)=s:=by
 unfold Dv Nt;simp only[List.map_map]
 have:∀l:List UInt8,List.map ((fun n:Int=>n.toNat.toUInt8) ∘ fun b:UInt8=>(b.toNat:Int)) l=l:=by
  intro l
  induction l with
  |nil=>rfl
  |cons x l ih=>
   rw[VN,ih]
   congr 1
   show ((x.toNat:Int).toNat).toUInt8=x;rw[Kz];simp
 rw[this]
theorem J4:∀l:List Int,bytesOf (Ah .u8 l)=some (l.map fun n=>n.toNat.toUInt8)
 |[]=>rfl
 |x::l=>by
  show (bytesOf (Ah .u8 l)).map (x.toNat.toUInt8 :: ·)=_
  rw[J4 l];rfl
def tb (n:Int)(k:Nat):List Int:=(List.range' (8-k) k).map (Dx n)
def D4 (mj n:Int):List Int:=
 if n<24 then [32*mj+n] else if n<256 then (32*mj+24)::tb n 1 else if n<65536 then (32*mj+25)::tb n 2 else if n<4294967296 then (32*mj+26)::tb n 4 else (32*mj+27)::tb n 8
structure It where
 k:Int
 n:Int
 s:ByteArray
def It.cells (x:It):List PV:=[.sc (.int .i64 x.k),.sc (.int .u64 x.n),.sc (.string x.s)]
def Ds (x:It):List Int:=
 if x.k=7 then [wrap .u8 (244+wrap .u8 x.n)] else if x.k=8 then [246] else if x.k=3 then D4 2 x.s.size++Nt x.s else if x.k=4 then D4 3 x.s.size++Nt x.s else D4 (x.k-1) x.n
theorem EP (n:Int)(k:Nat):(tb n k).length=k:=by simp[tb]
theorem A64 (n:Int)(k:Nat):Li (tb n k):=by
 intro x hx;obtain⟨j,_,rfl⟩:=List.mem_map.1 hx;exact Acb n j
theorem O2 (mj n:Int):1<=(D4 mj n).length∧(D4 mj n).length<=9:=by
 unfold D4
 repeat' split
 all_goals simp[EP]
theorem Abk {mj n:Int}(h0:0<=mj)(h1:mj<=6)(hn:0<=n):Li (D4 mj n):=by
 have hc:∀(a:Int) (l:List Int),0<=a∧a<=255->Li l->Li (a::l):=by
  intro a l ha hl x hx;rcases List.mem_cons.1 hx with rfl|hx
  ·exact ha
  ·exact hl x hx
 unfold D4
 repeat' split
 ·exact hc _ _ (by omega) (fun _ h=>by simp at h)
 all_goals exact hc _ _ (by omega) (A64 _ _)
theorem Avn {x:It}(h0:1<=x.k)(h1:x.k<=8)(hn:0<=x.n):Li (Ds x):=by
 have A26:∀(a b:List Int),Li a->Li b->Li (a++b):=by
  intro a b ha hb y hy;rcases List.mem_append.1 hy with h|h
  ·exact ha y h
  ·exact hb y h
 unfold Ds
 repeat' split
 ·intro y hy;simp at hy;subst hy;simp only[wrap,IntKind.signed,IntKind.bits];simp;omega
 ·intro y hy;simp at hy;omega
 ·exact A26 _ _ (Abk (by omega) (by omega) (by omega)) (Afy _)
 ·exact A26 _ _ (Abk (by omega) (by omega) (by omega)) (Afy _)
 ·exact Abk (by omega) (by omega) hn
theorem Alm (x:It):(Ds x).length<=9+x.s.size:=by
 unfold Ds;have h2:=O2 2 x.s.size;have h3:=O2 3 x.s.size;have h4:=O2 (x.k-1) x.n;have hs:=Rl x.s
 repeat' split
 all_goals try simp only[Io,Ik,Zx]
 all_goals omega
section
variable {fu d:Nat}
theorem WW {call:Af}{Be:Nat}{a0:List PV}{a1 a2 n:Int}:∀(k nn:Nat)(l:List Int),k<=8->k<nn->l.length+k<=1000000 ->
  Ek fu call Be a0 a1 a2 nn l.length n ((k:Int)-1) (Ah .u8 l)=some ⟨[.own 1 (l++tb n k).length (Ah .u8 (l++tb n k))],[]⟩
 |_,0,_,_,h,_=>by omega
 |0,nn+1,l,hk,hn,hl=>by
  have L:=Ay .u8 l;rw[Pb,Ej _ _ _ (by omega)]
  simp (disch:=omega) only[Cu,Dc,Mt,L];simp[tb]
 |k+1,nn+1,l,hk,hn,hl=>by
  have ih:=WW (call:=call) (Be:=Be) (a0:=a0) (a1:=a1) (a2:=a2) (n:=n) k nn (l++[Dx n (8-(k+1))]) (by omega) (by omega) (by simp;omega)
  have L:=Ay .u8 l;have w8:wrap .i64 (8*(((k+1:Nat):Int)-1))=8*(k:Int):=by rw[Ap (by omega) (by omega)];omega
  have w:wrap .i64 (((k+1:Nat):Int)-1-1)=(k:Int)-1:=by rw[Ap (by omega) (by omega)];omega
  have hb:wrap .u8 (Is .u64 n (8*(k:Int)))=Dx n (8-(k+1)):=by
   unfold Dx;rw[show 56-8*((8-(k+1):Nat):Int)=8*(k:Int) by omega]
  have et:tb n (k+1)=Dx n (8-(k+1))::tb n k:=by
   unfold tb;rw[List.range'_succ,VN,show 8-(k+1)+1=8-k by omega]
  have ea:l++tb n (k+1)=l++[Dx n (8-(k+1))]++tb n k:=by rw[et];simp
  rw[ea,←ih,Pb];simp (disch:=omega) only[Cu,w8,hb,w,Dc,Mt,L,Kg,Io,Ik,Zx,Ch]
theorem A79 {mj:Int}(h0:0<=mj)(h1:mj<=7):J0 .u8 mj 5=32*mj:=by
 have:mj=0∨mj=1∨mj=2∨mj=3∨mj=4∨mj=5∨mj=6∨mj=7:=by omega
 rcases this with rfl|rfl|rfl|rfl|rfl|rfl|rfl|rfl<;>decide
theorem Ait (Ca:1000<=fu){l:List Int}(hl:l.length<=900000){mj n:Int}(h0:0<=mj)(h1:mj<=5)(hn:0<=n):Ad C0 prog fu (d+1) Nd [.own 1 l.length (Ah .u8 l),.sc (.int .u8 mj),.sc (.int .u64 n)]=some ⟨[.own 1 (l++D4 mj n).length (Ah .u8 (l++D4 mj n))],[]⟩:=by
 rw[HM];have s5:=A79 h0 (by omega)
 have L:=Ay .u8 l;have w24:wrap .u8 (32*mj+24)=32*mj+24:=Lu (by omega) (by omega)
 have w25:wrap .u8 (32*mj+25)=32*mj+25:=Lu (by omega) (by omega)
 have w26:wrap .u8 (32*mj+26)=32*mj+26:=Lu (by omega) (by omega)
 have w27:wrap .u8 (32*mj+27)=32*mj+27:=Lu (by omega) (by omega)
 have lp:=fun (k:Nat) (hk:k<=8) (b:Int)=>WW (fu:=fu) (call:=Ad C0 prog fu d) (Be:=l.length) (a0:=Ah .u8 l) (a1:=mj) (a2:=n) (n:=n) k fu (l++[b]) hk (by omega) (by simp;omega)
 have ec:∀(b:Int) (t:List Int),l++b::t=l++[b]++t:=by intro b t;simp
 unfold D4;by_cases c1:n<24
 ·have wn:wrap .u8 n=n:=Lu (by omega) (by omega)
  have ws:wrap .u8 (32*mj+n)=32*mj+n:=Lu (by omega) (by omega)
  have L1:=Ay .u8 (l++[32*mj+n]);have t1:=Mt .u8 (l++[32*mj+n]);simp only[Io,Ik,Zx,Ch] at L1 t1;rw[C5 c1];simp (disch:=omega) only[Cu,s5,wn,ws,Dc,Mt,L,Kg,L1,t1,Io,Ik,Zx,Ch]
 ·by_cases c2:n<256
  ·have l1:=lp 1 (by omega) (32*mj+24)
   rw[show ((1:Nat):Int)-1=0 by omega] at l1
   rw[Bn c1,C5 c2,ec,←l1];simp (disch:=omega) only[Cu,s5,w24,Dc,Mt,L,Kg,Io,Ik,Zx,Ch]
  ·by_cases c3:n<65536
   ·have l1:=lp 2 (by omega) (32*mj+25)
    rw[show ((2:Nat):Int)-1=1 by omega] at l1
    rw[Bn c1,Bn c2,C5 c3,ec,←l1];simp (disch:=omega) only[Cu,s5,w25,Dc,Mt,L,Kg,Io,Ik,Zx,Ch]
   ·by_cases c4:n<4294967296
    ·have l1:=lp 4 (by omega) (32*mj+26)
     rw[show ((4:Nat):Int)-1=3 by omega] at l1
     rw[Bn c1,Bn c2,Bn c3,C5 c4,ec,←l1];simp (disch:=omega) only[Cu,s5,w26,Dc,Mt,L,Kg,Io,Ik,Zx,Ch]
    ·have l1:=lp 8 (by omega) (32*mj+27)
     rw[show ((8:Nat):Int)-1=7 by omega] at l1
     rw[Bn c1,Bn c2,Bn c3,Bn c4,ec,←l1];simp (disch:=omega) only[Cu,s5,w27,Dc,Mt,L,Kg,Io,Ik,Zx,Ch]
structure It.ok (x:It):Prop where
 k1:1<=x.k
 k8:x.k<=8
 n0:0<=x.n
 s0:x.s.size<=500000
theorem Akh (Ca:1000<=fu){l:List Int}(hl:l.length<=300000){x:It}(hx:x.ok):Ad C0 prog fu (d+2) Tl [.own 1 l.length (Ah .u8 l),.agg x.cells]=some ⟨[.own 1 (l++Ds x).length (Ah .u8 (l++Ds x))],[]⟩:=by
 obtain⟨k,n,s⟩:=x;obtain⟨k1,k8,n0,s0⟩:=hx;simp only at k1 k8 n0 s0;refine (HT fu (d+1) l.length (Ah .u8 l) k n s).trans ?_;have L:=Ay .u8 l;have OO:=Rl s;unfold Ds;simp only;by_cases c7:k=7
 ·subst c7;have L1:=Ay .u8 (l++[wrap .u8 (244+wrap .u8 n)]);have t1:=Mt .u8 (l++[wrap .u8 (244+wrap .u8 n)]);simp only[Io,Ik,Zx,Ch] at L1 t1;simp (disch:=omega) only[Cu,Nf,if_true,Dc,Mt,L,Kg,L1,t1,Io,Ik,Zx,Ch]
 ·by_cases c8:k=8
  ·subst c8;have L1:=Ay .u8 (l++[246]);have t1:=Mt .u8 (l++[246]);simp only[Io,Ik,Zx,Ch] at L1 t1;rw[Bn c7,C5 rfl];simp (disch:=omega) only[Cu,Nf,c7,if_false,if_true,Dc,Mt,L,Kg,L1,t1,Io,Ik,Zx,Ch]
  ·have dat:∀mj:Int,0<=mj->mj<=5->(Ad C0 prog fu (d+1) Nd [.own 1 l.length (Ah .u8 l),.sc (.int .u8 mj),.sc (.int .u64 s.size)]=some ⟨[.own 1 (l++D4 mj s.size).length (Ah .u8 (l++D4 mj s.size))],[]⟩)∧(l++D4 mj s.size).length<=300009∧List.take (l++D4 mj s.size).length (Ah .u8 (l++D4 mj s.size))=Ah .u8 (l++D4 mj s.size)∧(Ah .u8 (l++D4 mj s.size)).length=(l++D4 mj s.size).length∧Ah .u8 (l++D4 mj s.size)++Fs s=Ah .u8 (l++(D4 mj s.size++Nt s))∧(l++(D4 mj s.size++Nt s)).length=(l++D4 mj s.size).length+s.size∧(Ah .u8 (l++(D4 mj s.size++Nt s))).length=(l++D4 mj s.size).length+s.size:=by
    intro mj h0 h1;have hh:=O2 mj s.size;refine⟨Ait Ca (by omega) h0 h1 (by omega),by rw[Io];omega,Mt _ _,Ay _ _,?_,?_,?_⟩
    ·rw[Tt,←Zzv,Ah,Ah,Ah,List.flatMap_append (xs:=l++D4 mj s.size)]
    ·rw[←Zzv,Io,OO]
    ·rw[Ay,←Zzv,Io,OO]
   have ss:(Fs s).length=s.size:=by rw[Tt,Ay,OO]
   have wsz:wrap .u64 (s.size:Int)=s.size:=D7 (by omega) (by omega)
   rw[Bn c7,Bn c8];by_cases c3:k=3
   ·subst c3;obtain⟨p1,p2,p3,p4,p5,p6,p7⟩:=dat 2 (by omega) (by omega)
    have w1:wrap .i64 ((3:Int)-1)=2:=by decide
    have w2:wrap .u8 (2:Int)=2:=by decide
    have t1:List.take ((l++D4 2 s.size).length+s.size) (Ah .u8 (l++(D4 2 s.size++Nt s)))=Ah .u8 (l++(D4 2 s.size++Nt s)):=L6 (by omega)
    rw[C5 rfl];simp (disch:=omega) only[Cu,Nf,c7,c8,if_false,if_true,w1,w2,wsz,Dc,Mt,L,p1];generalize (l++D4 2 s.size).length=N at *
    simp (disch:=omega) only[Cu,Dc,p3,p4,p5,p7,t1,ss];rw[p6]
   ·by_cases c4:k=4
    ·subst c4;obtain⟨p1,p2,p3,p4,p5,p6,p7⟩:=dat 3 (by omega) (by omega)
     have w1:wrap .i64 ((4:Int)-1)=3:=by decide
     have w2:wrap .u8 (3:Int)=3:=by decide
     have t1:List.take ((l++D4 3 s.size).length+s.size) (Ah .u8 (l++(D4 3 s.size++Nt s)))=Ah .u8 (l++(D4 3 s.size++Nt s)):=L6 (by omega)
     rw[Bn c3,C5 rfl];simp (disch:=omega) only[Cu,Nf,c7,c8,c3,if_false,if_true,w1,w2,wsz,Dc,Mt,L,p1];generalize (l++D4 3 s.size).length=N at *
     simp (disch:=omega) only[Cu,Dc,p3,p4,p5,p7,t1,ss];rw[p6]
    ·have w1:wrap .i64 (k-1)=k-1:=Ap (by omega) (by omega)
     have w2:wrap .u8 (k-1)=k-1:=Lu (by omega) (by omega)
     have p1:=Ait (fu:=fu) (d:=d) Ca (l:=l) (by omega) (mj:=k-1) (n:=n) (by omega) (by omega) n0
     have L2:=Ay .u8 (l++D4 (k-1) n);have t2:=Mt .u8 (l++D4 (k-1) n);rw[Bn c3,Bn c4];simp (disch:=omega) only[Cu,Nf,c7,c8,c3,c4,if_false,w1,w2,Dc,Mt,L,p1,L2,t2]
end
end
section
open Go.IntKind (wrap)
def It.dat (x:It):Prop:=x.k=3∨x.k=4∨Nt x.s=[]
section
variable {fu d:Nat}
def Bi (its:List It):List PV:=its.flatMap It.cells
theorem It.cells_len (x:It):x.cells.length=3:=rfl
def Ci (its:List It):List Int:=its.flatMap Ds
end
end
section
open Go.Proofs.Tryz (prog)
open Go.IntKind (wrap)
structure Ce where
 subj:ByteArray
 iss:ByteArray
 serial:Int
 key:Ky
 fr:Int
 un:Int
 auth:Bool
 path:Int
 model:Int
 sig:Sg
def Ce.cells (c:Ce):List PV:=[.sc (.string c.subj),.sc (.string c.iss),.sc (.int .u64 c.serial),.sc (.int .i64 c.key.h),.sc (.int .u64 c.key.root),.sc (.int .i64 c.fr),.sc (.int .i64 c.un),.sc (.bool c.auth),.sc (.int .i64 c.path),.sc (.int .u64 c.model),.sc (.int .i64 c.sig.leaf),.lst false 1 c.sig.chains.length (Ah .u64 c.sig.chains),.lst false 1 c.sig.path.length (Ah .u64 c.sig.path)]
abbrev okS (s:ByteArray):Bool:=Lib.validD s.data.toList
abbrev Vt:ByteArray:=⟨#[]⟩
structure Ce.wf (c:Ce):Prop where
 ser:0<=c.serial
 mod:0<=c.model
section
variable {fu d:Nat}
theorem FI (s:ByteArray)(h:s.size<=9223372036854775807):Ad C0 prog fu (d+1) 126 [.sc (.string s)]=some ⟨[.sc (.bool (okS s))],[]⟩:=by
 show RU [.sc (.string s)]=_;unfold RU;simp[h]
end
end
section
open Go.IntKind (wrap)
def QP (s:Sg):Int:=if Ex s.path.length=true then 9 else if Qq s.leaf s.path.length=true then 9 else if s.chains.length≠18 then 4 else 0
section
variable {fu d:Nat} {c:Ce}
end
end
section
open Go.Proofs.Tryz (prog)
open Go.IntKind (wrap)
structure Hj where
 p:Bool
 left:Int
 last:List Int
def Hj.cells (f:Hj):List PV:=[.sc (.bool f.p),.sc (.int .i64 f.left),.lst false 1 f.last.length (Ah .u8 f.last)]
def F6 (l:List Hj):List PV:=l.flatMap Hj.cells
theorem Hj.cells_len (f:Hj):f.cells.length=3:=rfl
theorem Du (l:List Hj):(F6 l).length=l.length*3:=Ug Hj.cells_len l
theorem D5 (l:List Hj):List.take (l.length*3) (F6 l)=F6 l:=L6 (by rw[Du];omega)
def R6 (l:List Hj):Bool:=match l.getLast? with|some f=>f.p&&(Int.tmod f.left 2==0)|none=>false
def M6 (l:List Hj)(cnt k:Int):Int:=
 if cnt>=512 then 8 else if k<1 then 3 else if k>8 then 3 else if R6 l=true∧k≠1∧k≠2∧k≠4 then 3 else if (l.length:Int)>8 then 5 else 0
abbrev Nw (l:List Hj)(cnt:Int):List PV:=[.own 3 l.length (F6 l),.sc (.int .i64 cnt)]
section
variable {fu d:Nat}
theorem Aa3 (l:List Hj)(cnt:Int):Ad C0 prog fu (d+1) Vz [.pbox (Nw l cnt)]=some ⟨[.sc (.bool (decide (cnt>0)&&((l.length:Int)==0)))],[Nw l cnt]⟩:=by
 rw[IE];have L:=Du l;have t:=D5 l;by_cases h:cnt>0
 ·simp (disch:=omega) only[Cu,h,decide_true,Bool.true_and,L,t]
 ·simp (disch:=omega) only[Cu,h,decide_false,Bool.false_and,L,t]
theorem SR {l:List Hj}(hl:l.length<=1000000)(cnt:Int):Ad C0 prog fu (d+1) Tw [.pbox (Nw l cnt)]=some ⟨[.sc (.bool (R6 l))],[Nw l cnt]⟩:=by
 rw[FS];have L:=Du l;have t:=D5 l;unfold R6;rcases List.eq_nil_or_concat l with rfl|⟨l',f,rfl⟩
 ·have e0:¬(((([]:List Hj).length:Nat):Int)>0):=by simp
  simp (disch:=first|assumption|omega) only[Cu,L,t]
  first|done|rfl
 ·have hn:(l'.concat f).length=l'.length+1:=by simp
  have hx:(l'.concat f)[l'.length]?=some f:=by simp
  have gl:(l'.concat f).getLast?=some f:=by simp
  have w:wrap .i64 (((l'.concat f).length:Int)-1)=(l'.length:Int):=by rw[Ap (by omega) (by omega)];omega
  have g0:(F6 (l'.concat f)).getD (l'.length*3) .top=.sc (.bool f.p):=Iq Hj.cells_len hx (j:=0) (by omega)
  have g1:(F6 (l'.concat f)).getD (l'.length*3+1) .top=.sc (.int .i64 f.left):=Iq Hj.cells_len hx (j:=1) (by omega)
  rw[gl];cases hp:f.p
  ·rw[hp] at g0;simp (disch:=omega) only[Cu,w,Kz,Ch,Nat.add_zero,g0,L,t,hp,Bool.false_and]
  ·rw[hp] at g0;simp (disch:=omega) only[Cu,w,Kz,Ch,Nat.add_zero,g0,g1,L,t,hp,Bool.true_and]
theorem Adq {l:List Hj}(hl:l.length<=1000000)(cnt k:Int):Ad C0 prog fu (d+2) Tx [.pbox (Nw l cnt),.sc (.int .i64 k)]=some ⟨[.sc (.int .i64 (M6 l cnt k))],[Nw l cnt]⟩:=by
 refine (FC fu (d+1) l.length (F6 l) cnt k).trans ?_;have L:=Du l;have t:=D5 l;have ak:=SR (fu:=fu) (d:=d) hl cnt;unfold Nw at ak;unfold M6;by_cases c1:cnt>=512
 ·rw[C5 c1];simp (disch:=omega) only[Cu,L,t]
 rw[Bn c1];by_cases c2:k<1
 ·rw[C5 c2];simp (disch:=omega) only[Cu,L,t]
 rw[Bn c2];by_cases c3:k>8
 ·rw[C5 c3];simp (disch:=omega) only[Cu,L,t]
 rw[Bn c3];cases ha:R6 l
 ·rw[ha] at ak;rw[Bn (by simp)]
  by_cases c5:(l.length:Int)>8
  ·rw[C5 c5];simp (disch:=omega) only[Cu,L,t,ak]
  ·rw[Bn c5];simp (disch:=omega) only[Cu,L,t,ak]
 ·rw[ha] at ak;by_cases c4:k≠1∧k≠2∧k≠4
  ·rw[C5 ⟨rfl,c4⟩];simp (disch:=omega) only[Cu,L,t,ak,Hb];rw[Bn c4.1,Bn c4.2.1,Bn c4.2.2]
  ·rw[Bn (fun h=>c4 h.2)]
   have hk:k=1∨k=2∨k=4:=by omega
   by_cases c5:(l.length:Int)>8
   ·rw[C5 c5];rcases hk with rfl|rfl|rfl<;>simp (disch:=omega) only[Cu,L,t,ak,Hb,Int.reduceEq,if_true,if_false]
   ·rw[Bn c5];rcases hk with rfl|rfl|rfl<;>simp (disch:=omega) only[Cu,L,t,ak,Hb,Int.reduceEq,if_true,if_false]
end
end
section
open Go.Proofs.Tryz (prog)
open Go.IntKind (wrap)
theorem Ke (l:List Hj):l=[]∨∃l' f,l=l'++[f]:=by
 rcases List.eq_nil_or_concat l with h|⟨a,b,h⟩
 ·exact .inl h
 ·exact .inr ⟨a,b,by simpa using h⟩
def GT (l:List Hj):List Hj:=(l.reverse.dropWhile fun f=>f.left==0).reverse
theorem WP {l:List Hj}{f:Hj}(h:f.left=0):GT (l++[f])=GT l:=by
 unfold GT;rw[List.reverse_append,List.reverse_singleton,List.singleton_append,List.dropWhile_cons_of_pos (by simp[h])]
theorem OZ {l:List Hj}{f:Hj}(h:f.left≠0):GT (l++[f])=l++[f]:=by
 unfold GT;rw[List.reverse_append,List.reverse_singleton,List.singleton_append,List.dropWhile_cons_of_neg (by simp[h])]
 simp
def Wt (l:List Hj):List Hj:=match l.getLast? with|some f=>l.dropLast++[⟨f.p,wrap .i64 (f.left-1),f.last⟩]|none=>[]
def QI (l:List Hj)(x:It):List Hj:=
 if x.k=5∧x.n>0 then l++[⟨false,wrap .i64 x.n,[]⟩] else if x.k=6∧x.n>0 then l++[⟨true,wrap .i64 (2*wrap .i64 x.n),[]⟩] else l
def G2 (l:List Hj)(x:It):List Hj:=GT (QI (Wt l) x)
theorem Te (l:List Hj)(f:Hj):Wt (l++[f])=l++[⟨f.p,wrap .i64 (f.left-1),f.last⟩]:=by
 unfold Wt;simp
theorem DY (l:List Hj):(Wt l).length=l.length:=by
 rcases Ke l with rfl|⟨l',f,rfl⟩
 ·rfl
 ·rw[Te];simp
theorem Vi (a b:List Hj):F6 (a++b)=F6 a++F6 b:=by
 unfold F6;rw[List.flatMap_append]
theorem Vk (f:Hj):F6 [f]=f.cells:=by
 unfold F6;simp
section
variable {fu d:Nat}
theorem YI {call:Af}{Ai:Nat}{Ak:List PV}{Al Cg Cf:Int}{Cn:ByteArray}{c:Int}:∀(n:Nat)(l:List Hj)(r:List PV)(nn:Nat),l.length=n->n<nn->n<=1000000 ->
  Bb fu call Ai Ak Al Cg Cf Cn nn (l.length:Int) l.length c (F6 l++r)=some ⟨[],[Nw (GT l) c]⟩:=by
 intro n
 induction n with
 |zero=>
  intro l r nn hl hn _;obtain rfl:l=[]:=List.eq_nil_of_length_eq_zero hl;obtain⟨m,rfl⟩:∃m,nn=m+1:=⟨nn-1,by omega⟩
  have e0:¬(((([]:List Hj).length:Nat):Int)>0):=by simp
  have e1:([]:List Hj).length*3<=(F6 []++r).length:=by simp
  rw[Qb];simp (disch:=first|assumption|omega) only[Cu];rfl
 |succ n ih=>
  intro l r nn hl hn hm;obtain⟨m,rfl⟩:∃m,nn=m+1:=⟨nn-1,by omega⟩
  rcases Ke l with rfl|⟨l',f,rfl⟩
  ·simp at hl
  have hn':(l'++[f]).length=l'.length+1:=by simp
  have hx:(l'++[f])[l'.length]?=some f:=by simp
  have w:wrap .i64 (((l'++[f]).length:Int)-1)=(l'.length:Int):=by rw[Ap (by omega) (by omega)];omega
  have L:=Du (l'++[f]);have L2:(F6 (l'++[f])++r).length=(l'++[f]).length*3+r.length:=by rw[Io,L]
  have t:List.take ((l'++[f]).length*3) (F6 (l'++[f])++r)=F6 (l'++[f]):=by rw[←L,List.take_left'];rfl
  have g1:(F6 (l'++[f])++r).getD (l'.length*3+1) .top=.sc (.int .i64 f.left):=by
   have:=Iq (f:=Hj.cells) Hj.cells_len hx (j:=1) (by omega)
   rw[List.getD_eq_getElem?_getD,List.getElem?_append_left (by rw[L];omega),←List.getD_eq_getElem?_getD]
   exact this
  rw[Qb];by_cases hz:f.left=0
  ·have e:F6 (l'++[f])++r=F6 l'++(f.cells++r):=by rw[Vi,Vk,Zzv]
   have q:=ih l' (f.cells++r) m (by omega) (by omega) (by omega)
   rw[←e] at q;rw[WP hz];have hb:(f.left==(0:Int))=true:=by simp[hz]
   simp (disch:=omega) only[Cu,w,Kz,Ch,Nat.sub_zero,g1,hb,q]
  ·rw[OZ hz];have hb:(f.left==(0:Int))=false:=by simp[hz]
   simp (disch:=omega) only[Cu,w,Kz,Ch,g1,hb,L2,t]
theorem Ajn {l:List Hj}{x:It}{cnt:Int}(hl:l.length<=100000)(hf:l.length+1<fu)(h0:0<=cnt)(h1:cnt<=1000000):
  Ad C0 prog fu (d+1) Vw [.pbox (Nw l cnt),.agg x.cells]=some ⟨[],[Nw (G2 l x) (cnt+1)]⟩:=by
 obtain⟨k,v,s⟩:=x;refine (IZ fu d l.length (F6 l) cnt k v s).trans ?_;have w1:wrap .i64 (cnt+1)=cnt+1:=Ap (by omega) (by omega)
 unfold G2 QI;have DL:=DY l;generalize hD:Wt l=l1 at DL ⊢;have L1:(F6 l1).length=l.length*3:=by rw[Du,DL]
 have t1:List.take (l.length*3) (F6 l1)=F6 l1:=L6 (by omega)
 have p5:∀b u,F6 l1++[.sc (.bool b),.sc (.int .i64 u),.lst false 1 0 []]=F6 (l1++[⟨b,u,[]⟩]):=by
  intro b u;rw[Vi,Vk];rfl
 have lp0:∀call,Bb fu call l.length (F6 l) cnt k v s fu (l.length:Int) l.length (cnt+1) (F6 l1)=some ⟨[],[Nw (GT l1) (cnt+1)]⟩:=by
  intro call;have:=YI (fu:=fu) (call:=call) (Ai:=l.length) (Ak:=F6 l) (Al:=cnt) (Cg:=k) (Cf:=v) (Cn:=s) (c:=cnt+1) _ l1 [] fu rfl (by omega) (by omega)
  rw[List.append_nil,DL] at this;exact this
 have lp1:∀call f,Bb fu call l.length (F6 l) cnt k v s fu ((l.length+1:Nat):Int) (l.length+1) (cnt+1) (F6 (l1++[f]))=some ⟨[],[Nw (GT (l1++[f])) (cnt+1)]⟩:=by
  intro call f;have ll:(l1++[f]).length=l.length+1:=by simp[DL]
  have:=YI (fu:=fu) (call:=call) (Ai:=l.length) (Ak:=F6 l) (Al:=cnt) (Cg:=k) (Cf:=v) (Cn:=s) (c:=cnt+1) _ (l1++[f]) [] fu rfl (by omega) (by omega)
  rw[List.append_nil,ll] at this;exact this
 rcases Ke l with rfl|⟨l',f,rfl⟩
 ·have e0:¬(((([]:List Hj).length:Nat):Int)>0):=by simp
  obtain rfl:l1=[]:=by rw[←hD];rfl
  by_cases k5:k=5
  ·subst k5;by_cases hv:v>0
   ·rw[C5 ⟨rfl,hv⟩];simp (disch:=first|assumption|omega) only[Cu,w1,L1,t1,p5,lp1,Int.reduceBEq]
   ·rw[Bn (fun h=>hv h.2),Bn (fun h=>hv h.2)]
    simp (disch:=first|assumption|omega) only[Cu,w1,L1,t1,p5,lp0,Int.reduceBEq]
  ·have b5:(k==(5:Int))=false:=by simp[k5]
   rw[Bn (fun h=>k5 h.1)]
   by_cases k6:k=6
   ·subst k6;by_cases hv:v>0
    ·rw[C5 ⟨rfl,hv⟩];simp (disch:=first|assumption|omega) only[Cu,w1,L1,t1,p5,lp1,Int.reduceBEq]
    ·rw[Bn (fun h=>hv h.2)]
     simp (disch:=first|assumption|omega) only[Cu,w1,L1,t1,p5,lp0,Int.reduceBEq]
   ·have b6:(k==(6:Int))=false:=by simp[k6]
    rw[Bn (fun h=>k6 h.1)]
    simp (disch:=first|assumption|omega) only[Cu,w1,L1,t1,p5,lp0,b5,b6]
 ·have hn':(l'++[f]).length=l'.length+1:=by simp
  have hx:(l'++[f])[l'.length]?=some f:=by simp
  have w:wrap .i64 (((l'++[f]).length:Int)-1)=(l'.length:Int):=by rw[Ap (by omega) (by omega)];omega
  have L:=Du (l'++[f]);have g1:(F6 (l'++[f])).getD (l'.length*3+1) .top=.sc (.int .i64 f.left):=Iq Hj.cells_len hx (j:=1) (by omega)
  have sp:Bq (F6 (l'++[f])) [.sc (.int .i64 (wrap .i64 (f.left-1)))] (l'.length*3+1)=F6 l1:=by
   rw[G8 (by omega),←hD,Te,Vi,Vi,Vk,Vk]
   have:=Du l';rw[List.set_append_right _ _ (by omega)]
   have:l'.length*3+1-(F6 l').length=1:=by omega
   rw[this];rfl
  by_cases k5:k=5
  ·subst k5;by_cases hv:v>0
   ·rw[C5 ⟨rfl,hv⟩];simp (disch:=first|assumption|omega) only[Cu,w,w1,Kz,Ch,g1,sp,L1,t1,p5,lp1,Int.reduceBEq]
   ·rw[Bn (fun h=>hv h.2),Bn (fun h=>hv h.2)]
    simp (disch:=first|assumption|omega) only[Cu,w,w1,Kz,Ch,g1,sp,L1,t1,p5,lp0,Int.reduceBEq]
  ·have b5:(k==(5:Int))=false:=by simp[k5]
   rw[Bn (fun h=>k5 h.1)]
   by_cases k6:k=6
   ·subst k6;by_cases hv:v>0
    ·rw[C5 ⟨rfl,hv⟩];simp (disch:=first|assumption|omega) only[Cu,w,w1,Kz,Ch,g1,sp,L1,t1,p5,lp1,Int.reduceBEq]
    ·rw[Bn (fun h=>hv h.2)]
     simp (disch:=first|assumption|omega) only[Cu,w,w1,Kz,Ch,g1,sp,L1,t1,p5,lp0,Int.reduceBEq]
   ·have b6:(k==(6:Int))=false:=by simp[k6]
    rw[Bn (fun h=>k6 h.1)]
    simp (disch:=first|assumption|omega) only[Cu,w,w1,Kz,Ch,g1,sp,L1,t1,p5,lp0,b5,b6]
end
end
section
open Go.Proofs.Tryz (prog)
open Go.IntKind (wrap)
def Ack (s:ByteArray):Bool:=Array.toList (ByteArray.data s)==Array.toList (ByteArray.data (ByteArray.mk #[]))
def Lr (x:It):Bool:=
 if x.k=3 then x.n==0 else if x.k=4 then x.n==0 else if x.k=8 then (x.n==0)&&Ack x.s else if x.k=7 then decide (x.n<=1)&&Ack x.s else Ack x.s
section
variable {fu d:Nat}
theorem Akq (x:It):Ad C0 prog fu (d+1) BI [.agg x.cells]=some ⟨[.sc (.bool (Lr x))],[]⟩:=by
 obtain⟨k,n,s⟩:=x;refine (UI fu d k n s).trans ?_;unfold Lr;show _=some (⟨[.sc (.bool (if k=3 then n==0 else if k=4 then n==0 else if k=8 then (n==0)&&Ack s else if k=7 then decide (n<=1)&&Ack s else Ack s))],[]⟩:A5)
 by_cases h3:k=3
 ·subst h3;simp only[Cu,Int.reduceBEq,if_true]
 by_cases h4:k=4
 ·subst h4;simp only[Cu,Int.reduceBEq,Int.reduceEq,if_true,if_false]
 have b3:(k==(3:Int))=false:=by simp[h3]
 have b4:(k==(4:Int))=false:=by simp[h4]
 by_cases h8:k=8
 ·subst h8;cases hn:n==0<;>simp only[Cu,Int.reduceBEq,Int.reduceEq,if_true,if_false,hn,Bool.true_and,Bool.false_and]<;>rfl
 have b8:(k==(8:Int))=false:=by simp[h8]
 by_cases h7:k=7
 ·subst h7;cases hn:decide (n<=1)<;>simp only[Cu,Int.reduceBEq,Int.reduceEq,if_true,if_false,hn,Bool.true_and,Bool.false_and]<;>rfl
 have b7:(k==(7:Int))=false:=by simp[h7]
 simp only[Cu,b3,b4,b8,b7,Bn h3,Bn h4,Bn h8,Bn h7];rfl
theorem KX {l:List Hj}{x:It}{cnt:Int}(hl:l.length<=1000)(hf:l.length+1<fu)(h0:0<=cnt)(h1:cnt<=1000000)(ha:R6 l=false)
  (hs:x.s.size<=100000)(hv:x.k=4->Lib.validD x.s.data.toList=true):
  Ad C0 prog fu (d+2) L5 [.pbox (Nw l cnt),.agg x.cells]=some ⟨[.sc (.int .i64 0)],[Nw (G2 l x) (cnt+1)]⟩:=by
 have st:=Ajn (fu:=fu) (d:=d) (l:=l) (x:=x) (cnt:=cnt) (by omega) hf h0 h1
 have ak:=SR (fu:=fu) (d:=d) (l:=l) (by omega) cnt
 have L:=Du l;have t:=D5 l;have L2:=Du (G2 l x);have t2:=D5 (G2 l x);rw[ha] at ak;generalize hE:G2 l x=E at *
 obtain⟨k,n,s⟩:=x;have va:=FI (fu:=fu) (d:=d) s (Nat.le_trans hs (by omega))
 unfold okS at va;refine (Mc fu (d+1) l.length (F6 l) cnt k n s).trans ?_;unfold Nw It.cells at st;unfold Nw at ak;by_cases k4:k=4
 ·subst k4;rw[hv rfl] at va;simp (disch:=omega) only[Cu,Int.reduceBEq,va,Dz,L,t,ak,st,L2,t2]
 ·have b4:(k==(4:Int))=false:=by simp[k4]
  simp (disch:=omega) only[Cu,b4,L,t,ak,st,L2,t2]
theorem Ash {l:List Hj}{x:It}{cnt:Int}(hl:l.length<=1000)(hf:l.length+1<fu)(h0:0<=cnt)(h1:cnt<=1000000)(ha:R6 l=false)
  (hs:x.s.size<=1024)(hv:x.k=4->Lib.validD x.s.data.toList=true)(hd:(decide (cnt>0)&&((l.length:Int)==0))=false) (hm:M6 l cnt x.k=0)(hsh:Lr x=true)(hn:x.n<=512∨(x.k≠5∧x.k≠6)):
  Ad C0 prog fu (d+3) Ql [.pbox (Nw l cnt),.agg x.cells]=some ⟨[.sc (.int .i64 0)],[Nw (G2 l x) (cnt+1)]⟩:=by
 have ac:=KX (fu:=fu) (d:=d) (l:=l) (x:=x) (cnt:=cnt) hl hf h0 h1 ha (by omega) hv
 have dn:=Aa3 (fu:=fu) (d:=d+1) l cnt;have ad:=Adq (fu:=fu) (d:=d) (l:=l) (by omega) cnt x.k
 have sh:=Akq (fu:=fu) (d:=d+1) x;rw[hd] at dn;rw[hm] at ad;rw[hsh] at sh;have L:=Du l;have t:=D5 l;have L2:=Du (G2 l x);have t2:=D5 (G2 l x);generalize hE:G2 l x=E at *
 obtain⟨k,n,s⟩:=x;have hs':¬((s.size:Int)>1024):=by have:s.size<=1024:=hs;omega
 refine (BG fu (d+2) l.length (F6 l) cnt k n s).trans ?_;unfold Nw It.cells at ac;unfold Nw at dn ad;unfold It.cells at sh;by_cases k5:k=5
 ·subst k5;have hn':¬(n>512):=hn.elim (fun h=>Int.not_lt.2 h) (fun h=>absurd rfl h.1)
  simp (disch:=first|assumption|omega) only[Cu,Int.reduceBEq,dn,ad,sh,ac,Dz,L,t,L2,t2,bne_self_eq_false]
 have b5:(k==(5:Int))=false:=by simp[k5]
 by_cases k6:k=6
 ·subst k6;have hn':¬(n>512):=hn.elim (fun h=>Int.not_lt.2 h) (fun h=>absurd rfl h.2)
  simp (disch:=first|assumption|omega) only[Cu,Int.reduceBEq,dn,ad,sh,ac,Dz,L,t,L2,t2,bne_self_eq_false]
 have b6:(k==(6:Int))=false:=by simp[k6]
 simp (disch:=first|assumption|omega) only[Cu,b5,b6,dn,ad,sh,ac,Dz,L,t,L2,t2,bne_self_eq_false]
end
end
section
open Go.Proofs.Tryz (prog)
open Go.IntKind (wrap)
theorem H7 (l:List It):(Bi l).length=l.length*3:=Ug It.cells_len l
structure Aw5 (l:List Hj) (cnt:Int) (x:It):Prop where
 hl:l.length<=100
 h0:0<=cnt
 h1:cnt<=1000
 ha:R6 l=false
 hs:x.s.size<=1024
 hv:x.k=4->Lib.validD x.s.data.toList=true
 hd:(decide (cnt>0)&&((l.length:Int)==0))=false
 hm:M6 l cnt x.k=0
 hsh:Lr x=true
 hn:x.n<=512∨(x.k≠5∧x.k≠6)
def Qk:List Hj->Int->List It->Prop
 |l,cnt,[]=>l=[]∧cnt>0
 |l,cnt,x::r=>Aw5 l cnt x∧Qk (G2 l x) (cnt+1) r
section
variable {fu d:Nat}
theorem VJ (Ca:200<=fu){l:List It}(hl:l.length<=100000){Be:Nat}{a0:List PV}:∀(r:List It)(i:Nat)(fs:List Hj)(cnt:Int)(nn:Nat),l.drop i=r->i+r.length=l.length->r.length<nn->Qk fs cnt r ->
  Kl fu (Ad C0 prog fu (d+3)) Be a0 nn l.length (Bi l) (l.length:Int) (i:Int) fs.length cnt (F6 fs)=some ⟨[.sc (.int .i64 0)],[]⟩:=by
 intro r
 induction r with
 |nil=>
  intro i fs cnt nn hd hi hn hg;obtain⟨rfl,hc⟩:=hg;obtain⟨m,rfl⟩:∃m,nn=m+1:=⟨nn-1,by omega⟩
  rw[Zx,Nat.add_zero] at hi;rw[Ru];have dn:=Aa3 (fu:=fu) (d:=d+2) [] cnt;have e:(decide (cnt>0)&&(((([]:List Hj).length:Nat):Int)==0))=true:=by simp[hc]
  rw[e] at dn;unfold Nw at dn;have L:=Du [];have t:=D5 [];have c:¬((i:Int)<(l.length:Int)):=by omega
  simp (disch:=first|assumption|omega) only[Cu,L,t,dn,Dz]
 |cons x r ih=>
  intro i fs cnt nn hd hi hn hg;obtain⟨g,hg⟩:=hg;obtain⟨m,rfl⟩:∃m,nn=m+1:=⟨nn-1,by omega⟩
  rw[Ik] at hi hn
  have hx:l[i]?=some x:=by
   have:=congrArg (fun q=>q[0]?) hd
   simpa using this
  have hd':l.drop (i+1)=r:=by
   have:=congrArg (List.drop 1) hd;rw[List.drop_drop] at this
   simpa using this
  have q:=ih (i+1) (G2 fs x) (cnt+1) m hd' (by omega) (by omega) hg
  have ck:=Ash (fu:=fu) (d:=d) (l:=fs) (x:=x) (cnt:=cnt) (by have:=g.hl;omega) (by have:=g.hl;omega) g.h0 (by have:=g.h1;omega) g.ha g.hs g.hv g.hd g.hm g.hsh g.hn
  generalize G2 fs x=E at *
  have g0:(Bi l).getD (i*3) .top=.sc (.int .i64 x.k):=Iq It.cells_len hx (j:=0) (by omega)
  have g1:(Bi l).getD (i*3+1) .top=.sc (.int .u64 x.n):=Iq It.cells_len hx (j:=1) (by omega)
  have g2:(Bi l).getD (i*3+1+1) .top=.sc (.string x.s):=Iq It.cells_len hx (j:=2) (by omega)
  have L:=Du fs;have t:=D5 fs;have w:wrap .i64 ((i:Int)+1)=((i+1:Nat):Int):=by rw[Ap (by omega) (by omega)];omega
  rw[Ru];unfold Nw It.cells at ck;simp (disch:=first|assumption|omega) only[Cu,Kz,g0,g1,g2,L,t,ck,bne_self_eq_false,w,q]
theorem Uf (Ca:200<=fu){l:List It}(hl:l.length<=100000)(hf:l.length<fu)(hg:Qk [] 0 l):Ad C0 prog fu (d+4) Xm [.lst false 3 l.length (Bi l)]=some ⟨[.sc (.int .i64 0)],[]⟩:=by
 rw[NU];exact VJ Ca hl l 0 [] 0 fu rfl (by omega) hf hg
end
end
section
open Go.Proofs.Tryz (prog)
open Go.IntKind (wrap)
section
variable {fu d:Nat}
theorem Ac6 (Ca:1000<=fu){l:List It}(hl:l.length<=100000){Be:Nat}{a0:List PV}:∀(r:List It)(i:Nat)(o:List Int)(nn:Nat),l.drop i=r->i+r.length=l.length->r.length<nn->(∀x∈r,x.ok)->(o++Ci r).length<=300000 ->
  Nh fu (Ad C0 prog fu (d+2)) Be a0 nn o.length l.length (Bi l) (l.length:Int) (i:Int) (Ah .u8 o)=some ⟨[.own 1 (o++Ci r).length (Ah .u8 (o++Ci r)),.sc (.int .i64 0)],[]⟩:=by
 intro r
 induction r with
 |nil=>
  intro i o nn hd hi hn hg hb;obtain⟨m,rfl⟩:∃m,nn=m+1:=⟨nn-1,by omega⟩
  rw[Zx,Nat.add_zero] at hi;have e:o++Ci []=o:=by simp[Ci]
  rw[e,U9];have L:(Ah .u8 o).length=o.length:=Ay _ _;have t:List.take o.length (Ah .u8 o)=Ah .u8 o:=L6 (by omega)
  have c:¬((i:Int)<(l.length:Int)):=by omega
  simp (disch:=first|assumption|omega) only[Cu,Dc,L,t]
 |cons x r ih=>
  intro i o nn hd hi hn hg hb;obtain⟨m,rfl⟩:∃m,nn=m+1:=⟨nn-1,by omega⟩
  rw[Ik] at hi hn
  have hx:l[i]?=some x:=by
   have:=congrArg (fun q=>q[0]?) hd
   simpa using this
  have hd':l.drop (i+1)=r:=by
   have:=congrArg (List.drop 1) hd;rw[List.drop_drop] at this
   simpa using this
  have e:o++Ci (x::r)=(o++Ds x)++Ci r:=by simp[Ci]
  rw[e] at hb ⊢
  have ho:o.length<=300000:=by
   rw[Io,Io] at hb;omega
  have q:=ih (i+1) (o++Ds x) m hd' (by omega) (by omega) (fun y hy=>hg y (List.mem_cons_of_mem _ hy)) hb
  have it:=Akh (fu:=fu) (d:=d) Ca (l:=o) ho (x:=x) (hg x (by simp))
  have g0:(Bi l).getD (i*3) .top=.sc (.int .i64 x.k):=Iq It.cells_len hx (j:=0) (by omega)
  have g1:(Bi l).getD (i*3+1) .top=.sc (.int .u64 x.n):=Iq It.cells_len hx (j:=1) (by omega)
  have g2:(Bi l).getD (i*3+1+1) .top=.sc (.string x.s):=Iq It.cells_len hx (j:=2) (by omega)
  have L:(Ah .u8 o).length=o.length:=Ay _ _;have t:List.take o.length (Ah .u8 o)=Ah .u8 o:=L6 (by omega)
  have w:wrap .i64 ((i:Int)+1)=((i+1:Nat):Int):=by rw[Ap (by omega) (by omega)];omega
  rw[U9];unfold It.cells at it;simp (disch:=first|assumption|omega) only[Cu,Kz,Dc,g0,g1,g2,L,t,it,w,q]
theorem Ada (Ca:1000<=fu){l:List It}(hl:l.length<=100000)(hf:l.length<fu)(hg:Qk [] 0 l) (hk:∀x∈l,x.ok)(hb:(Ci l).length<=300000):
  Ad C0 prog fu (d+5) BT [.lst false 3 l.length (Bi l)]=some ⟨[.own 1 (Ci l).length (Ah .u8 (Ci l)),.sc (.int .i64 0)],[]⟩:=by
 rw[UX];have v:=Uf (fu:=fu) (d:=d) (by omega) hl hf hg
 have q:=Ac6 (fu:=fu) (d:=d+2) Ca hl (Be:=l.length) (a0:=Bi l) l 0 [] fu rfl (by omega) hf hk (by simpa using hb)
 rw[Zzq] at q;simp only[Cu,v,bne_self_eq_false];exact q
end
end
section
open Go.Proofs.Tryz (prog)
open Go.IntKind (wrap)
section
variable {fu d:Nat}
theorem Aaf (Ca:200<=fu){l:List It}(hl:l.length<=100000)(hf:l.length<fu)(hg:Qk [] 0 l):
  Ad C0 prog fu (d+5) Za [.own 3 l.length (Bi l)]=some ⟨[.own 3 l.length (Bi l),.sc (.int .i64 0)],[]⟩:=by
 rw[SI];have v:=Uf (fu:=fu) (d:=d) Ca hl hf hg;have L:=H7 l;have t:List.take (l.length*3) (Bi l)=Bi l:=L6 (by omega)
 simp (disch:=omega) only[Cu,L,t,C8,v,bne_self_eq_false]
end
end
section
open Go.IntKind (wrap)
structure VE (x:It):Prop where
 kd:x.k=1∨x.k=2∨x.k=3∨x.k=4∨x.k=7∨x.k=8
 hs:x.s.size<=1024
 hv:x.k=4->Lib.validD x.s.data.toList=true
 hsh:Lr x=true
 n0:0<=x.n
theorem VE.ok {x:It}(h:VE x):x.ok:=by
 have:=h.kd;have:=h.hs;exact⟨by omega,by omega,h.n0,by omega⟩
theorem VE.push {x:It}(h:VE x)(l:List Hj):QI l x=l:=by
 unfold QI;have:=h.kd;rw[Bn (by omega),Bn (by omega)]
end
section
open Go.Proofs.Tryz (prog)
open Go.IntKind (wrap)
def Ax4 (v:List It):List PV:=[.lst false 3 v.length (Bi v)]
theorem WX (v:List It):(Ax4 v).length=1:=rfl
def F2 (l:List (List It)):List PV:=l.flatMap Ax4
theorem atv {l:List (List It)} {i:Nat}{v:List It}(h:l[i]?=some v):(F2 l).getD (i*1) .top=.lst false 3 v.length (Bi v):=by
 exact Iq WX h (j:=0) (by omega)
section
variable {fu d:Nat}
theorem ME (Ca:1000<=fu){Be:Nat}{a0:List PV}{vs:List (List It)} (hl:vs.length<=100000):∀(r:List (List It)) (i nn:Nat),vs.drop i=r->r.length<nn->(∀v∈r,Qk [] 0 v∧v.length<1000)->i<=vs.length ->
  M1 fu (Ad C0 prog fu (d+4)) Be a0 nn vs.length (F2 vs) (vs.length:Int) (i:Int)=some ⟨[.sc (.int .i64 0)],[]⟩
 |_,_,0,_,h,_,_=>by omega
 |[],i,nn+1,h,hn,hg,hi=>by
  have:=drop_nil h;rw[Vn,Ej _ _ _ (by omega)]
 |v::r,i,nn+1,h,hn,hg,hi=>by
  obtain⟨h1,h2,h3⟩:=D1 h;simp only[Ik] at hn;have w:wrap .i64 ((i:Int)+1)=((i+1:Nat):Int):=by rw[Ap (by omega) (by omega)];omega
  have ih:=ME Ca (Be:=Be) (a0:=a0) hl r (i+1) nn h3 (by omega) (fun v hv=>hg v (List.mem_cons_of_mem _ hv)) (by omega)
  obtain⟨g,gl⟩:=hg v (by simp)
  have vg:=Uf (fu:=fu) (d:=d) (by omega) (by omega) (by omega) g
  have g0:=atv h2;rw[Vn];simp (disch:=omega) only[Cu,Kz,g0,vg,bne_self_eq_false,w,ih]
theorem Ace (Ca:1000<=fu){vs:List (List It)} (hl:vs.length<1000)(hg:∀v∈vs,Qk [] 0 v∧v.length<1000):
  Ad C0 prog fu (d+5) BP [.lst false 1 vs.length (F2 vs)]=some ⟨[.sc (.int .i64 0)],[]⟩:=by
 rw[UJ];exact ME Ca (by omega) vs 0 fu rfl (by omega) hg (by omega)
theorem Ac4 (a b:List It):Bi (a++b)=Bi a++Bi b:=by
 unfold Bi;rw[List.flatMap_append]
theorem RJ (Ca:1000<=fu){Be:Nat}{a0:List PV}{vs:List (List It)} (hl:vs.length<=100000):∀(r:List (List It)) (i nn:Nat)(o:List It),vs.drop i=r->r.length<nn->Qk [] 0 (o++r.flatten)->(o++r.flatten).length<=500->i<=vs.length ->
  O5 fu (Ad C0 prog fu (d+5)) Be a0 nn o.length vs.length (F2 vs) (vs.length:Int) (i:Int) (Bi o)=some ⟨[.own 3 (o++r.flatten).length (Bi (o++r.flatten)),.sc (.int .i64 0)],[]⟩
 |_,_,0,_,_,h,_,_,_=>by omega
 |[],i,nn+1,o,h,hn,hg,hb,hi=>by
  have:=drop_nil h;have e:o++([]:List (List It)).flatten=o:=by simp
  rw[e] at hg hb ⊢;have L:=H7 o;have t:List.take (o.length*3) (Bi o)=Bi o:=L6 (by omega)
  have ck:=Aaf (fu:=fu) (d:=d) (by omega) (by omega) (by omega) hg
  rw[Xb,Ej _ _ _ (by omega)]
  simp (disch:=omega) only[Cu,L,t,ck]
 |v::r,i,nn+1,o,h,hn,hg,hb,hi=>by
  obtain⟨h1,h2,h3⟩:=D1 h;simp only[Ik] at hn;have w:wrap .i64 ((i:Int)+1)=((i+1:Nat):Int):=by rw[Ap (by omega) (by omega)];omega
  have e:o++(v::r).flatten=(o++v)++r.flatten:=by simp
  rw[e] at hg hb ⊢
  have I7:o.length+v.length<=500:=by
   rw[Io,Io] at hb;omega
  have ih:=RJ Ca (Be:=Be) (a0:=a0) hl r (i+1) nn (o++v) h3 (by omega) hg hb (by omega)
  have g0:=atv h2;have L:=H7 o;have Lv:=H7 v;have t:List.take (o.length*3) (Bi o)=Bi o:=L6 (by omega)
  rw[Io,Ac4] at ih;rw[Xb];simp (disch:=omega) only[Cu,Kz,g0,L,Lv,t,w,ih]
theorem Ag7 (Ca:1000<=fu){vs:List (List It)} (hg:∀v∈vs,Qk [] 0 v∧v.length<1000) (hl:vs.length<=400)(ha:Qk [] 0 (⟨5,vs.length,⟨#[]⟩⟩::vs.flatten)) (hb:vs.flatten.length<=499):
  Ad C0 prog fu (d+6) Iw [.lst false 1 vs.length (F2 vs)]=some ⟨[.own 3 (vs.flatten.length+1) (Bi (⟨5,vs.length,⟨#[]⟩⟩::vs.flatten)),.sc (.int .i64 0)],[]⟩:=by
 rw[ZF];have f:=Ace (fu:=fu) (d:=d) Ca (by omega) hg
 have w:wrap .u64 (vs.length:Int)=vs.length:=D7 (by omega) (by omega)
 have q:=RJ (fu:=fu) (d:=d) Ca (Be:=vs.length) (a0:=F2 vs) (by omega) vs 0 fu [⟨5,vs.length,⟨#[]⟩⟩] rfl (by omega) ha (by rw[Io,List.length_singleton];omega) (by omega)
 simp only[Cu,f,bne_self_eq_false,w];exact q
end
end
section
open Go.Proofs.Tryz (prog)
open Go.IntKind (wrap)
def A3y (a b:List Int):Int:=Lib.compareBytes (a.map fun n=>n.toNat.toUInt8) (b.map fun n=>n.toNat.toUInt8)
def Up (a b:List Int):Bool:=if a.length=b.length then decide (A3y a b<0) else decide (a.length<b.length)
def Mb (l:List Hj)(key:List Int):List Hj:=match l.getLast? with|some f=>l.dropLast++[⟨f.p,f.left,key⟩]|none=>l
theorem Pg (l:List Hj)(f:Hj)(key:List Int):Mb (l++[f]) key=l++[⟨f.p,f.left,key⟩]:=by
 unfold Mb;simp
def OK (l:List Hj):List Int:=match l.getLast? with|some f=>f.last|none=>[]
theorem Aaq (l:List Hj)(f:Hj):OK (l++[f])=f.last:=by
 unfold OK;simp
def Et (l:List Hj)(x:It):Int × List Hj:=
 if x.k=4∧okS x.s=false then (6,l)
 else if R6 l=true then (if OK l≠[]∧Up (OK l) (Ds x)=false then (7,l) else (0,G2 (Mb l (Ds x)) x))
 else (0,G2 l x)
theorem Al5 (x:It):1<=(Ds x).length:=by
 unfold Ds;have h2:=O2 2 x.s.size;have h3:=O2 3 x.s.size;have h4:=O2 (x.k-1) x.n
 repeat' split
 all_goals try simp only[Io,Ik,Zx]
 all_goals omega
section
variable {fu d:Nat}
theorem Ahy (a b:List Int):Ad C0 prog fu (d+1) 148 [.lst false 1 a.length (Ah .u8 a),.lst false 1 b.length (Ah .u8 b)]=some ⟨[.sc (.int .i64 (A3y a b))],[]⟩:=by
 have h:Ad C0 prog fu (d+1) 148 [.lst false 1 a.length (Ah .u8 a),.lst false 1 b.length (Ah .u8 b)]=Yw [.lst false 1 a.length (Ah .u8 a),.lst false 1 b.length (Ah .u8 b)]:=by kernel_rfl
 rw[h];unfold Yw;simp only[Ay,Nat.beq_refl,Bool.and_self,cond_true,J4];rfl
theorem Af5 (a b:List Int):Ad C0 prog fu (d+2) Ze [.lst false 1 a.length (Ah .u8 a),.lst false 1 b.length (Ah .u8 b)]=some ⟨[.sc (.bool (Up a b))],[]⟩:=by
 refine (SC fu (d+1) _ _ _ _).trans ?_;have c:=Ahy (fu:=fu) (d:=d) a b;unfold Up;by_cases h:a.length=b.length
 ·have b0:((a.length:Int) != (b.length:Int))=false:=by simp[h]
  rw[C5 h];simp only[Cu,b0,c]
 ·have b0:((a.length:Int) != (b.length:Int))=true:=by simp;omega
  rw[Bn h];simp only[Cu,b0];simp
theorem WI {l:List Hj}{x:It}{cnt:Int}(Ca:1000<=fu)(hl:l.length<=900)(h0:0<=cnt)(h1:cnt<=1000000)(hx:x.ok)(hs:x.s.size<=100000):
  Ad C0 prog fu (d+3) L5 [.pbox (Nw l cnt),.agg x.cells]=some ⟨[.sc (.int .i64 (Et l x).1)],[Nw (Et l x).2 (if (Et l x).1=0 then cnt+1 else cnt)]⟩:=by
 cases ha:R6 l with
 |false=>
  cases hv:(x.k==4) && !okS x.s with
  |false=>
   have e:Et l x=(0,G2 l x):=by
    unfold Et;rw[Bn,Bn (by simp[ha])]
    intro hh;simp[hh.1,hh.2] at hv
   have:=KX (fu:=fu) (d:=d+1) (l:=l) (x:=x) (cnt:=cnt) (by omega) (by omega) h0 h1 ha hs (by
    intro hk;simp[hk] at hv;exact hv)
   rw[e,this];rfl
  |true=>
   simp at hv
   have e:Et l x=(6,l):=by
    unfold Et;rw[C5 hv]
   rw[e];obtain⟨k,n,s⟩:=x;have va:=FI (fu:=fu) (d:=d+1) s (Nat.le_trans hs (by omega))
   simp only at hv;obtain⟨rfl,hv⟩:=hv;rw[hv] at va;have L:=Du l;have t:=D5 l;refine (Mc fu (d+2) l.length (F6 l) cnt 4 n s).trans ?_;simp (disch:=omega) only[Cu,Int.reduceBEq,va,L,t];rfl
 |true=>
  rcases Ke l with rfl|⟨l',f,rfl⟩
  ·exact absurd ha (by decide)
  have it:=Akh (fu:=fu) (d:=d) Ca (l:=[]) (by simp) hx
  rw[Zzq] at it;have hp:=Al5 x;have sm:=Af5 (fu:=fu) (d:=d) f.last (Ds x);have ak:=SR (fu:=fu) (d:=d+1) (l:=l'++[f]) (by omega) cnt
  rw[ha] at ak;have st:=Ajn (fu:=fu) (d:=d+1) (l:=Mb (l'++[f]) (Ds x)) (x:=x) (cnt:=cnt) (by rw[Pg];simp at hl ⊢;omega) (by rw[Pg];simp at hl ⊢;omega) h0 h1
  have E:Et (l'++[f]) x=(if x.k=4∧okS x.s=false then (6,l'++[f]) else if f.last≠[]∧Up f.last (Ds x)=false then (7,l'++[f]) else (0,G2 (Mb (l'++[f]) (Ds x)) x)):=by
   unfold Et;rw[ha,Aaq];simp only[if_true]
  have hn':(l'++[f]).length=l'.length+1:=by simp
  have AV:(l'++[f])[l'.length]?=some f:=by simp
  have w:wrap .i64 (((l'++[f]).length:Int)-1)=(l'.length:Int):=by rw[Ap (by omega) (by omega)];omega
  have L:=Du (l'++[f]);have t:=D5 (l'++[f]);have g2:(F6 (l'++[f])).getD (l'.length*3+2) .top=.lst false 1 f.last.length (Ah .u8 f.last):=Iq Hj.cells_len AV (j:=2) (by omega)
  have sp:Bq (F6 (l'++[f])) [.lst false 1 (Ds x).length (Ah .u8 (Ds x))] (l'.length*3+2)=F6 (Mb (l'++[f]) (Ds x)):=by
   rw[G8 (by omega),Pg,Vi,Vi,Vk,Vk]
   have:=Du l';rw[List.set_append_right _ _ (by omega)]
   have:l'.length*3+2-(F6 l').length=2:=by omega
   rw[this];rfl
  have LK:=Du (Mb (l'++[f]) (Ds x));have tK:=D5 (Mb (l'++[f]) (Ds x));have nK:(Mb (l'++[f]) (Ds x)).length=(l'++[f]).length:=by rw[Pg];simp
  rw[nK] at LK tK;have L2:=Du (G2 (Mb (l'++[f]) (Ds x)) x);have t2:=D5 (G2 (Mb (l'++[f]) (Ds x)) x);have Lk:=Ay .u8 (Ds x);have tk:=Mt .u8 (Ds x);unfold Nw at st ak ⊢;rw[nK] at st;rw[E];generalize G2 (Mb (l'++[f]) (Ds x)) x=S at *
  generalize F6 (Mb (l'++[f]) (Ds x))=K at *
  have hsm:f.last.length=0->Up f.last (Ds x)=true:=by
   intro hz;unfold Up;rw[Bn (by omega)]
   simp;omega
  have NI:f.last≠[]↔0<f.last.length:=by rw[List.length_pos_iff]
  generalize hKe:Ds x=key at *
  obtain⟨k,n,s⟩:=x;have va:=FI (fu:=fu) (d:=d+1) s (Nat.le_trans hs (by omega))
  unfold okS at va ⊢;unfold It.cells at st it ⊢;simp only at st it hs ⊢;refine (Mc fu (d+2) (l'++[f]).length (F6 (l'++[f])) cnt k n s).trans ?_;simp only[Zx] at it;have it0:Ah .u8 []=[]:=rfl;rw[it0] at it
  try unfold Aa
  repeat' first
   |((with_reducible first|apply Av|apply Ao|apply At|apply A7|apply Bo|apply Bg|apply Am);· first|with_reducible rfl|(simp (disch:=first|with_reducible assumption|omega) only[va,L,t,ak,w,Kz,Ch,Nat.add_zero,it,g2,Dc,C8,Lk,tk,sm,sp,LK,tK,st,L2,t2]<;>with_reducible rfl))
   |((with_reducible first|apply Au|apply Aw);· first|with_reducible rfl|with_reducible assumption|omega|(simp (disch:=first|with_reducible assumption|omega) only[gT,va,L,t,ak,w,Kz,Ch,Nat.add_zero,it,g2,Dc,C8,Lk,tk,sm,sp,LK,tK,st,L2,t2]<;>omega))
   |(with_reducible apply As;· first|with_reducible rfl|with_reducible assumption|(simp (disch:=first|with_reducible assumption|omega) only[gF,va,L,t,ak,w,Kz,Ch,Nat.add_zero,it,g2,Dc,C8,Lk,tk,sm,sp,LK,tK,st,L2,t2]<;>omega))
   |(with_reducible refine Aog ?_ ?_<;>intro hb<;>try simp only[decide_eq_true_eq,decide_eq_false_iff_not,beq_iff_eq,beq_eq_false_iff_ne,bne_iff_ne,bne_eq_false_iff_eq,ne_eq,Bool.not_eq_true',Bool.not_eq_false',Bool.not_eq_true,Bool.not_eq_false] at hb)
   |(with_reducible refine ZC ?_ ?_)
  all_goals try simp (disch:=first|with_reducible assumption|omega) only[va,L,t,ak,w,Kz,Ch,Nat.add_zero,it,g2,Dc,C8,Lk,tk,sm,sp,LK,tK,st,L2,t2]
  all_goals clear st it ak va sm L t g2 sp LK tK L2 t2 Lk tk it0 E ha hKe
  all_goals repeat' split
  all_goals first
   |rfl
   |(exfalso;simp_all;done)
   |(exfalso;simp_all;omega)
end
end
end Go.Proofs.YtpogefhpiaaliaaGreatDoor.Pv
