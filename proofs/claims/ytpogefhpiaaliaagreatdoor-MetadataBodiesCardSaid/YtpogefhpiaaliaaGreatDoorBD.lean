/-
  The proof of MetadataBodies, part 4.
-/
import Derived.Test.YtpogefhpiaaliaaGreatDoorBC
import Derived.Test.YtpogefhpiaaliaaGreatDoorRows
import Derived.RangeFuncNested
import Derived.RangeFuncLeaves
import Derived.WalkKit
import Derived.LoopNIn
import Derived.OrdersIn
set_option linter.unusedSimpArgs false
set_option linter.unusedVariables false
namespace Go.Proofs.YtpogefhpiaaliaaGreatDoor.Pv
section
open Go.Proofs.Tryz (prog)
open Go.IntKind (wrap)
section
variable {fu d:Nat} {xs:FuncId->Option (List PV->Option A4)}
theorem Atb {x k:Int}(hk:k=13∨k=16∨k=17∨k=21∨k=32):Ad (CX xs) prog fu (d+1) Rz [.sc (.int .u64 x),.sc (.int .i64 k)]=some ⟨[.sc (.int .u64 (rot x k))],[]⟩:=by
 rw[EV];rcases hk with rfl|rfl|rfl|rfl|rfl<;>kernel_rfl
theorem At0 {x k:Int}(hk:k=13∨k=16∨k=17∨k=21∨k=32):Ad (CX xs) prog fu (d+1) S5 [.sc (.int .u64 x),.sc (.int .u64 k)]=some ⟨[.sc (.int .u64 (rot x k))],[]⟩:=by
 rw[IB];rcases hk with rfl|rfl|rfl|rfl|rfl<;>kernel_rfl
theorem PN {a0 a1 a2 a3 a4:Int}:∀(k i nn:Nat)(v:W4),k<nn->i+k<=100 ->
  Hf fu (Ad (CX xs) prog fu (d+1)) a0 a1 a2 a3 a4 nn ((i+k:Nat):Int) i v.a v.b v.c v.d=some ⟨[],[(Aix k v).cells]⟩
 |_,_,0,_,h,_=>by omega
 |0,i,nn+1,v,h,hi=>by
  rw[Mh,Eh _ _ _ (by omega)]
  rfl
 |k+1,i,nn+1,v,h,hi=>by
  have ih:=PN (a0:=a0) (a1:=a1) (a2:=a2) (a3:=a3) (a4:=a4) k (i+1) nn (XC v) (by omega) (by omega)
  have w:wrap .i64 ((i:Int)+1)=((i+1:Nat):Int):=by rw[Ap (by omega) (by omega)];omega
  have r13:=fun x=>Atb (xs:=xs) (fu:=fu) (d:=d) (x:=x) (k:=13) (by simp)
  have r16:=fun x=>Atb (xs:=xs) (fu:=fu) (d:=d) (x:=x) (k:=16) (by simp)
  have r17:=fun x=>Atb (xs:=xs) (fu:=fu) (d:=d) (x:=x) (k:=17) (by simp)
  have r21:=fun x=>Atb (xs:=xs) (fu:=fu) (d:=d) (x:=x) (k:=21) (by simp)
  have r32:=fun x=>Atb (xs:=xs) (fu:=fu) (d:=d) (x:=x) (k:=32) (by simp)
  rw[Mh];simp (disch:=omega) only[Cd,r13,r16,r17,r21,r32,w];rw[show i+(k+1)=i+1+k by omega]
  exact ih
theorem Abk (k:Nat)(hk:k<=4)(B5:100<=fu)(v:W4):Ad (CX xs) prog fu (d+2) O8 [.pbox [.sc (.int .u64 v.a),.sc (.int .u64 v.b),.sc (.int .u64 v.c),.sc (.int .u64 v.d)],.sc (.int .i64 k)]=some ⟨[],[(Aix k v).cells]⟩:=by
 rw[Z3];have:=PN (xs:=xs) (fu:=fu) (d:=d) (a0:=v.a) (a1:=v.b) (a2:=v.c) (a3:=v.d) (a4:=k) k 0 fu v (by omega) (by omega)
 rw[Cv] at this;exact this
theorem Abf (B5:100<=fu)(v:W4)(m:Int):Ad (CX xs) prog fu (d+3) Pb [.pbox [.sc (.int .u64 v.a),.sc (.int .u64 v.b),.sc (.int .u64 v.c),.sc (.int .u64 v.d)],.sc (.int .u64 m)]=some ⟨[],[(Xc v m).cells]⟩:=by
 rw[Z5];have r2:=Abk (xs:=xs) (fu:=fu) (d:=d) 2 (by omega) B5 ⟨v.a,v.b,v.c,Fg .u64 v.d m⟩
 have e2:((2:Nat):Int)=2:=rfl;rw[e2] at r2;unfold Xc;generalize Aix 2 ⟨v.a,v.b,v.c,Fg .u64 v.d m⟩=R at r2 ⊢;simp only[W4.cells] at r2;simp only[Cd,r2];rfl
theorem A7m {a b:Int}{k:Nat}(hk:k<8)(ha:0<=a)(ha':a<((2 ^ (8*k):Nat):Int)) (hb:0<=b)(J0:b<=255):ior .u64 a (Jf .u64 b (8*(k:Int)))=a+((2 ^ (8*k):Nat):Int)*b:=by
 obtain⟨n,rfl⟩:=Int.eq_ofNat_of_zero_le hb;have e:(8*(k:Int)).toNat=8*k:=by omega
 have hp:n*2 ^ (8*k)<=255*2 ^ (8*k):=Nat.mul_le_mul_right _ (by omega)
 have h56:2 ^ (8*k)<=2 ^ 56:=Nat.pow_le_pow_right (by omega) (by omega)
 have e56:(2:Nat) ^ 56=72057594037927936:=by decide
 rw[e56] at h56;generalize hP:2 ^ (8*k)=p at *
 have Azp:n*p<=255*p:=hp
 have hs:Jf .u64 (n:Int) (8*(k:Int))=(n:Int)*((2 ^ (8*(k:Int)).toNat:Nat):Int):=Alk (by omega) (by omega) (by omega) (by
  rw[e,hP];have:((n*p:Nat):Int)<=((255*p:Nat):Int):=by omega
  rw[←Int.natCast_mul];omega)
 rw[hs,e,hP]
 have:=(Acf (a:=a) (c:=((n*p:Nat):Int)) (8*k) n ha (by rw[hP];exact ha') (by rw[hP]) (by
  have:((n*p:Nat):Int)<=((255*p:Nat):Int):=by omega
  omega)).1
 rw[←Int.natCast_mul,this,Int.mul_comm ((p:Nat):Int),←Int.natCast_mul]
theorem A8g (k:Nat):((2 ^ (8*k):Nat):Int)=256 ^ k:=by
 rw[Nat.pow_mul];simp
theorem PX {call:Ah}{n:Nat}{c:List PV}{l:List Int}(hb:M3 l)(hl:l.length<=8):∀(r:List Int)(i nn:Nat),l.drop i=r->r.length<nn->i<=l.length ->
  Lq fu call n c nn (Wv (l.take i)) l.length (Af .u8 l) l.length i=some ⟨[.sc (.int .u64 (Wv l))],[]⟩
 |_,_,0,_,h,_=>by omega
 |[],i,nn+1,h,hn,hi=>by
  have:=drop_nil h;rw[Ts,Eh _ _ _ (by omega),Jq (by omega)]
 |b::r,i,nn+1,h,hn,hi=>by
  obtain⟨h1,h2,h3⟩:=Dk h;simp only[H5] at hn;have ih:=PX (call:=call) (n:=n) (c:=c) hb hl r (i+1) nn h3 (by omega) (by omega)
  have hbb:=hb b (List.mem_of_getElem? h2);have w:wrap .i64 ((i:Int)+1)=((i+1:Nat):Int):=by rw[Ap (by omega) (by omega)];omega
  have w8:wrap .i64 (8*(i:Int))=8*(i:Int):=Ap (by omega) (by omega)
  have wb:wrap .u64 b=b:=C3 (by omega) (by omega)
  have A4k:=Yk (l:=l.take i) fun x hx=>hb x (List.mem_of_mem_take hx)
  have htl:(l.take i).length=i:=by rw[List.length_take];omega
  rw[htl] at A4k
  have hj:ior .u64 (Wv (l.take i)) (Jf .u64 b (8*(i:Int)))=Wv (l.take (i+1)):=by
   rw[A7m (by omega) A4k.1 (by rw[A8g];exact A4k.2) hbb.1 hbb.2,List.take_add_one,h2,GY,htl,A8g]
   simp[Wv]
  rw[Ts];simp (disch:=omega) only[Cd,Je,Dr,HL h2,w,w8,wb,hj];exact ih
theorem Aa6 {l:List Int}(hb:M3 l)(hl:l.length<=8)(B5:100<=fu):Ad (CX xs) prog fu (d+1) Zj [.lst false 1 l.length (Af .u8 l)]=some ⟨[.sc (.int .u64 (Wv l))],[]⟩:=by
 rw[RD];exact PX hb hl l 0 fu rfl (by omega) (by omega)
theorem Lg (k:IntKind)(l:List Int)(i:Nat):List.drop i (Af k l)=Af k (l.drop i):=by
 have:=Adk (LQ k) l i
 simpa using this
theorem Sv (k:IntKind)(l:List Int)(i:Nat):List.take i (Af k l)=Af k (l.take i):=by
 have:=Amh (LQ k) l i
 simpa using this
theorem M3.drop {l:List Int}(h:M3 l)(i:Nat):M3 (l.drop i):=fun x hx=>h x (List.mem_of_mem_drop hx)
theorem M3.take {l:List Int}(h:M3 l)(i:Nat):M3 (l.take i):=fun x hx=>h x (List.mem_of_mem_take hx)
theorem Axa {a0 a1:Int}{n:Nat}{c:List PV}{l:List Int}(hb:M3 l)(hl:l.length<=1099511627776)(B5:100<=fu)(nn:Nat)(v:W4):
  Mj fu (Ad (CX xs) prog fu (d+3)) a0 a1 n c (nn+1) l.length (Af .u8 l) ((l.length / 8:Nat):Int) ((l.length / 8:Nat):Int) ((l.length / 8:Nat):Int) v.a v.b v.c v.d=some ⟨[.sc (.int .u64 (Anu (Aob (Xc v (Rk l)))))],[]⟩:=by
 have w8:wrap .i64 (8*((l.length / 8:Nat):Int))=((8*(l.length / 8):Nat):Int):=by rw[Ap (by omega) (by omega)];omega
 have wl:wrap .u64 (l.length:Int)=l.length:=C3 (by omega) (by omega)
 have hdl:(l.drop (8*(l.length / 8))).length=l.length-8*(l.length / 8):=List.length_drop;have li:=Aa6 (xs:=xs) (fu:=fu) (d:=d+2) (hb.drop (8*(l.length / 8))) (by omega) B5
 rw[hdl] at li;have tk:List.take (l.length-8*(l.length / 8)) (Af .u8 (l.drop (8*(l.length / 8))))=Af .u8 (l.drop (8*(l.length / 8))):=Jq (by rw[Aq,hdl];omega)
 have hbn:=Yk (hb.drop (8*(l.length / 8)));rw[hdl] at hbn
 have hp7:(256:Int) ^ (l.length-8*(l.length / 8))<=256 ^ 7:=by
  have:(256:Nat) ^ (l.length-8*(l.length / 8))<=256 ^ 7:=Nat.pow_le_pow_right (by omega) (by omega)
  have h2:(((256:Nat) ^ (l.length-8*(l.length / 8)):Nat):Int)<=((256 ^ 7:Nat):Int):=by omega
  simpa using h2
 have A86:ior .u64 (Wv (l.drop (8*(l.length / 8)))) (Jf .u64 (l.length:Int) 56)=Rk l:=by
  have hs:Jf .u64 (l.length:Int) 56=(((l.length % 256)*2 ^ 56:Nat):Int):=by
   show wrap .u64 ((l.length:Int)*2 ^ (min (56:Int).toNat IntKind.u64.bits))=_;have h2:(2:Int) ^ (min (56:Int).toNat IntKind.u64.bits)=72057594037927936:=by decide
   have h3:(2:Nat) ^ 56=72057594037927936:=by decide
   rw[h2,h3];simp only[wrap,IntKind.signed,IntKind.bits];simp;omega
  have h56:(256:Int) ^ 7=((2 ^ 56:Nat):Int):=by decide
  have h3:(2:Nat) ^ 56=72057594037927936:=by decide
  rw[hs,(Acf 56 (l.length % 256) hbn.1 (by omega) rfl (by omega)).1]
  unfold Rk;omega
 have ab:=Abf (xs:=xs) (fu:=fu) (d:=d) B5 v (Rk l);have r4:=Abk (xs:=xs) (fu:=fu) (d:=d+1) 4 (by omega) B5 ⟨(Xc v (Rk l)).a,(Xc v (Rk l)).b,Fg .u64 (Xc v (Rk l)).c 255,(Xc v (Rk l)).d⟩
 have e4:((4:Nat):Int)=4:=rfl;rw[e4] at r4;unfold Aob;generalize Xc v (Rk l)=U at ab r4 ⊢;generalize Aix 4 ⟨U.a,U.b,Fg .u64 U.c 255,U.d⟩=R at r4 ⊢;simp only[W4.cells] at ab r4;rw[Zo];simp (disch:=omega) only[Cd,Je,Dr,w8,wl,Lg,tk,li,A86,ab,r4];rfl
theorem Afx {a0 a1:Int}{n:Nat}{c:List PV}{l:List Int}(hb:M3 l)(hl:l.length<=1099511627776)(B5:100<=fu):∀(k i nn:Nat)(v:W4),i+k=l.length / 8->k<nn ->
  Mj fu (Ad (CX xs) prog fu (d+3)) a0 a1 n c nn l.length (Af .u8 l) ((l.length / 8:Nat):Int) ((l.length / 8:Nat):Int) i v.a v.b v.c v.d=some ⟨[.sc (.int .u64 (Anu (Aob (Xc (XU k v (l.drop (8*i))) (Rk l)))))],[]⟩
 |_,_,0,_,_,h=>by omega
 |0,i,nn+1,v,hi,hn=>by
  have e:i=l.length / 8:=by omega
  subst e;exact Axa hb hl B5 nn v
 |k+1,i,nn+1,v,hi,hn=>by
  have w:wrap .i64 ((i:Int)+1)=((i+1:Nat):Int):=by rw[Ap (by omega) (by omega)];omega
  have w8:wrap .i64 (8*(i:Int))=((8*i:Nat):Int):=by rw[Ap (by omega) (by omega)];omega
  have w88:wrap .i64 (((8*i:Nat):Int)+8)=((8*i+8:Nat):Int):=by rw[Ap (by omega) (by omega)];omega
  have hdl:((l.drop (8*i)).take 8).length=8:=by rw[List.length_take,List.length_drop];omega
  have li:=Aa6 (xs:=xs) (fu:=fu) (d:=d+2) ((hb.drop (8*i)).take 8) (by omega) B5
  rw[hdl] at li;have e8:8*i+8-8*i=8:=by omega
  have ab:=Abf (xs:=xs) (fu:=fu) (d:=d) B5 v (Wv ((l.drop (8*i)).take 8));have ih:=Afx (a0:=a0) (a1:=a1) (n:=n) (c:=c) hb hl B5 k (i+1) nn (Xc v (Wv ((l.drop (8*i)).take 8))) (by omega) (by omega)
  have eN:XU (k+1) v (l.drop (8*i))=XU k (Xc v (Wv ((l.drop (8*i)).take 8))) (l.drop (8*(i+1))):=by
   rw[XU,List.drop_drop,show 8*i+8=8*(i+1) by omega]
  rw[eN];generalize Xc v (Wv ((l.drop (8*i)).take 8))=U at ab ih ⊢;simp only[W4.cells] at ab;rw[Zo];simp (disch:=omega) only[Cd,Je,Dr,w,w8,w88,e8,Lg,Sv,li,ab];exact ih
theorem Auo {l:List Int}(hb:M3 l)(hl:l.length<=1099511627776)(B5:100<=fu)(hf:l.length<fu)(k0 k1:Int):Ad (CX xs) prog fu (d+4) JC [.sc (.int .u64 k0),.sc (.int .u64 k1),.lst false 1 l.length (Af .u8 l)]=some ⟨[.sc (.int .u64 (Aw4 k0 k1 l))],[]⟩:=by
 rw[Ad1]
 have w:wrap .i64 (Int.tdiv (l.length:Int) 8)=((l.length / 8:Nat):Int):=by
  rw[Int.tdiv_eq_ediv_of_nonneg (by omega),Ap (by omega) (by omega)]
  omega
 have lp:=Afx (xs:=xs) (fu:=fu) (d:=d) (a0:=k0) (a1:=k1) (n:=l.length) (c:=Af .u8 l) hb hl B5 (l.length / 8) 0 fu (A13 k0 k1) (by omega) (by omega)
 simp only[Jy,w];exact lp
theorem Amt {l:List Int}(hb:M3 l)(hl:l.length<=1099511627776)(B5:100<=fu)(hf:l.length<fu)(dom:Int):Ad (CX xs) prog fu (d+5) V2 [.sc (.int .i64 dom),.lst false 1 l.length (Af .u8 l)]=some ⟨[.sc (.int .u64 (Rm dom l))],[]⟩:=by
 rw[XQ];have s:=Auo (xs:=xs) (fu:=fu) (d:=d) hb hl B5 hf (wrap .u64 dom) 0;simp only[Cd,s];rfl
theorem So (v:W4):Ad (CX xs) prog fu (d+2) R2 [.agg [.sc (.int .u64 v.a),.sc (.int .u64 v.b),.sc (.int .u64 v.c),.sc (.int .u64 v.d)]]=some ⟨[.agg (XC v).cells],[]⟩:=by
 have r13:=fun x=>At0 (xs:=xs) (fu:=fu) (d:=d) (x:=x) (k:=13) (by simp)
 have r16:=fun x=>At0 (xs:=xs) (fu:=fu) (d:=d) (x:=x) (k:=16) (by simp)
 have r17:=fun x=>At0 (xs:=xs) (fu:=fu) (d:=d) (x:=x) (k:=17) (by simp)
 have r21:=fun x=>At0 (xs:=xs) (fu:=fu) (d:=d) (x:=x) (k:=21) (by simp)
 have r32:=fun x=>At0 (xs:=xs) (fu:=fu) (d:=d) (x:=x) (k:=32) (by simp)
 rw[FG];simp (disch:=omega) only[Cd,r13,r16,r17,r21,r32];rfl
def Z7 (l:List Int)(i k:Nat):Int:=if i+k<l.length then l.getD (i+k) 0 else if k=7 then (l.length:Int) % 256 else 0
def pc (l:List Int)(i:Nat):List Int:=(List.range 8).map (Z7 l i)
theorem Bam {l:List Int}(hb:M3 l)(i:Nat):M3 (pc l i):=by
 intro x hx;obtain⟨k,hk,rfl⟩:=List.mem_map.1 hx;unfold Z7;split
 ·rename_i h;rw[List.getD_eq_getElem?_getD,List.getElem?_eq_getElem h];exact hb _ (List.getElem_mem h)
 ·split<;>omega
theorem Aw6 {l:List Int}{i:Nat}(h:i+8<=l.length):pc l i=(l.drop i).take 8:=by
 refine List.ext_getElem (by simp[pc];omega) fun k h1 h2=>?_
 have hk:k<8:=by simpa [pc] using h1
 simp only[pc,List.getElem_map,List.getElem_range,List.getElem_take,List.getElem_drop,Z7];rw[Co (by omega),List.getD_eq_getElem?_getD,List.getElem?_eq_getElem (by omega)]
 rfl
theorem Abv (x:Int):∀n,Wv (List.replicate n 0++[x])=256 ^ n*x
 |0=>by simp[Wv]
 |n+1=>by
  rw[List.replicate_succ,Zzp,Wv,Abv x n,Int.pow_succ,Int.mul_comm (256 ^ n) 256,Int.mul_assoc];omega
theorem Azj {l:List Int}:Wv (pc l (8*(l.length / 8)))=Rk l:=by
 have e:pc l (8*(l.length / 8))=l.drop (8*(l.length / 8))++(List.replicate (7-(l.length-8*(l.length / 8))) 0++[(l.length:Int) % 256]):=by
  refine List.ext_getElem (by simp[pc];omega) fun k h1 h2=>?_
  have hk:k<8:=by simpa [pc] using h1
  simp only[pc,List.getElem_map,List.getElem_range,Z7];by_cases hc:8*(l.length / 8)+k<l.length
  ·rw[Co hc,List.getElem_append_left (by rw[List.length_drop];omega),List.getElem_drop,List.getD_eq_getElem?_getD,List.getElem?_eq_getElem hc]
   rfl
  ·rw[Bp hc,List.getElem_append_right (by rw[List.length_drop];omega)]
   by_cases h7:k=7
   ·rw[Co h7,List.getElem_append_right (by simp;omega)]
    simp
   ·rw[Bp h7,List.getElem_append_left (by simp;omega)]
    simp
 rw[e,GY,Abv];unfold Rk
 have:(256:Int) ^ (l.drop (8*(l.length / 8))).length*(256 ^ (7-(l.length-8*(l.length / 8)))*((l.length:Int) % 256))=72057594037927936*((l.length:Int) % 256):=by
  rw[←Int.mul_assoc,←Int.pow_add,List.length_drop];have:l.length-8*(l.length / 8)+(7-(l.length-8*(l.length / 8)))=7:=by omega
  rw[this];rfl
 rw[this]
theorem A6t {a b:Int}(ha:0<=a)(ha':a<72057594037927936)(hb:0<=b)(J0:b<=255):ior .u64 (Jf .u64 a 8) b=b+256*a:=by
 obtain⟨n,rfl⟩:=Int.eq_ofNat_of_zero_le ha
 have hs:Jf .u64 (n:Int) 8=((n*2 ^ 8:Nat):Int):=by
  have:=Alk (a:=(n:Int)) (k:=8) (by omega) (by omega) (by omega) (by
   have:(2 ^ (8:Int).toNat:Nat)=256:=by decide
   rw[this];omega)
  rw[this];have:(2 ^ (8:Int).toNat:Nat)=256:=by decide
  rw[this];have:(2 ^ 8:Nat)=256:=by decide
  rw[this];omega
 have h8:(2 ^ 8:Nat)=256:=by decide
 rw[hs,(Acf (a:=b) 8 n hb (by rw[h8];omega) rfl (by rw[h8];omega)).2,h8]
 omega
theorem Al3 {a0 a1:Int}{n m0:Nat}{c:List PV}{l:List Int}(hb:M3 l)(hl:l.length<=1099511627776){i:Nat}(hi:i<=l.length)(v:W4):∀(j nn:Nat),j<=8->j<nn ->
  Gh fu (Ad (CX xs) prog fu (d+2)) a0 a1 n c m0 nn l.length (Af .u8 l) i (Wv ((pc l i).drop j)) ((j:Int)-1) v.cells =
   Ht fu (Ad (CX xs) prog fu (d+2)) a0 a1 n c m0 l.length (Af .u8 l) ((i+8:Nat):Int) (Xc v (Wv (pc l i))).cells
 |_,0,_,h=>by omega
 |0,nn+1,hj,hn=>by
  have w8:wrap .i64 ((i:Int)+8)=((i+8:Nat):Int):=by rw[Ap (by omega) (by omega)];omega
  have r1:=So (xs:=xs) (fu:=fu) (d:=d) ⟨v.a,v.b,v.c,Fg .u64 v.d (Wv (pc l i))⟩;have r2:=So (xs:=xs) (fu:=fu) (d:=d) (XC ⟨v.a,v.b,v.c,Fg .u64 v.d (Wv (pc l i))⟩);have eA:Xc v (Wv (pc l i))=A7j (XC (XC ⟨v.a,v.b,v.c,Fg .u64 v.d (Wv (pc l i))⟩)) (Wv (pc l i)):=rfl;rw[eA];generalize XC ⟨v.a,v.b,v.c,Fg .u64 v.d (Wv (pc l i))⟩=U at r1 r2 ⊢;generalize XC U=U2 at r2 ⊢;simp only[W4.cells] at r1 r2;rw[Qy,Eh _ _ _ (by omega),Dt]
  simp only[W4.cells,List.getD_cons_zero,List.getD_cons_succ,Aby,Jy];simp (disch:=first|omega|(simp;done)) only[Cd,B4,List.take_succ_cons,List.take_zero,List.drop_succ_cons,Dt,List.drop_nil,Zzp,ZG,List.append_nil,H5,Ye,List.getD_cons_zero,List.getD_cons_succ,r1,r2,w8,Cv,Nat.reduceAdd,Nat.reduceLeDiff,List.append_eq]
  rfl
 |j+1,nn+1,hj,hn=>by
  have ih:=Al3 (a0:=a0) (a1:=a1) (n:=n) (m0:=m0) (c:=c) hb hl hi v j nn (by omega) (by omega)
  have hw:wrap .i64 ((i:Int)+(((j+1:Nat):Int)-1))=((i+j:Nat):Int):=by rw[Ap (by omega) (by omega)];omega
  have wj:wrap .i64 (((j+1:Nat):Int)-1-1)=(j:Int)-1:=by rw[Ap (by omega) (by omega)];omega
  have hd:(pc l i).drop j=Z7 l i j::(pc l i).drop (j+1):=by
   rw[List.drop_eq_getElem_cons (by simp[pc];omega)]
   simp[pc]
  have hB:=Bam hb i;have hbn:=Yk (hB.drop (j+1))
  have hp7:(256:Int) ^ ((pc l i).drop (j+1)).length<=72057594037927936:=by
   have Hw:((pc l i).drop (j+1)).length<=7:=by simp[pc]
   have:(256:Nat) ^ ((pc l i).drop (j+1)).length<=256 ^ 7:=Nat.pow_le_pow_right (by omega) Hw
   have h2:(((256:Nat) ^ ((pc l i).drop (j+1)).length:Nat):Int)<=((256 ^ 7:Nat):Int):=by omega
   simpa using h2
  have hc0:0<=Z7 l i j∧Z7 l i j<=255:=hB _ (by rw[←Dt (l:=pc l i)];exact List.mem_of_mem_drop (i:=j) (by rw[Dt,hd];simp))
  have hj2:ior .u64 (Jf .u64 (Wv ((pc l i).drop (j+1))) 8) (Z7 l i j)=Wv ((pc l i).drop j):=by
   rw[A6t hbn.1 (by omega) hc0.1 hc0.2,hd]
   rfl
  have wc:wrap .u64 (Z7 l i j)=Z7 l i j:=C3 (by omega) (by omega)
  rw[Qy,HJ _ _ _ (by omega)]
  simp only[Jy,hw];by_cases c1:i+j<l.length
  ·have e:Z7 l i j=l.getD (i+j) 0:=by unfold Z7;rw[Co c1]
   have e2:l[i+j]?=some (Z7 l i j):=by rw[e,List.getD_eq_getElem?_getD,List.getElem?_eq_getElem c1];rfl
   rw[HJ _ _ _ (by omega)]
   simp (disch:=omega) only[Cd,Je,Dr,HL e2,wc,hj2,wj];exact ih
  ·rw[Eh _ _ _ (by omega)]
   by_cases h7:j=7
   ·subst h7;have e:Z7 l i 7=(l.length:Int) % 256:=by unfold Z7;rw[Bp c1,Co rfl]
    have e8:wrap .u8 (l.length:Int)=Z7 l i 7:=by
     rw[e];simp only[wrap,IntKind.signed,IntKind.bits];simp
    rw[Hb,Co (by omega),e8,wc,hj2,wj]
    exact ih
   ·have e:Z7 l i j=0:=by unfold Z7;rw[Bp c1,Bp h7]
    rw[e] at hj2;rw[Hb,Bp (by omega),hj2,wj]
    exact ih
theorem Aam {a0 a1:Int}{n:Nat}{c:List PV}{l:List Int}(hb:M3 l)(hl:l.length<=1099511627776)(B5:100<=fu):∀(k i nn:Nat)(v:W4),i+k=l.length / 8->k+1<nn ->
  Ht fu (Ad (CX xs) prog fu (d+2)) a0 a1 n c nn l.length (Af .u8 l) ((8*i:Nat):Int) v.cells=some ⟨[.sc (.int .u64 (Anu (Aob (Xc (XU k v (l.drop (8*i))) (Rk l)))))],[]⟩
 |_,_,0,_,_,h=>by omega
 |k,i,nn+1,v,hi,hn=>by
  have step:=Al3 (xs:=xs) (fu:=fu) (d:=d) (a0:=a0) (a1:=a1) (n:=n) (m0:=nn) (c:=c) hb hl (i:=8*i) (by omega) v 8 fu (by omega) (by omega)
  have e0:Wv ((pc l (8*i)).drop 8)=0:=by rw[List.drop_of_length_le (by simp[pc])];rfl
  rw[e0] at step;rw[Qt,HJ _ _ _ (by omega)]
  refine step.trans ?_;cases k with
  |zero=>
   have e:i=l.length / 8:=by omega
   subst e;rw[Azj];generalize hv:Xc v (Rk l)=u;obtain⟨nn',rfl⟩:∃nn',nn=nn'+1:=⟨nn-1,by omega⟩
   have r1:=So (xs:=xs) (fu:=fu) (d:=d) ⟨u.a,u.b,Fg .u64 u.c 255,u.d⟩;have r2:=So (xs:=xs) (fu:=fu) (d:=d) (XC ⟨u.a,u.b,Fg .u64 u.c 255,u.d⟩);have r3:=So (xs:=xs) (fu:=fu) (d:=d) (XC (XC ⟨u.a,u.b,Fg .u64 u.c 255,u.d⟩));have r4:=So (xs:=xs) (fu:=fu) (d:=d) (XC (XC (XC ⟨u.a,u.b,Fg .u64 u.c 255,u.d⟩)))
   have eF:Anu (Aob (Xc (XU 0 v (l.drop (8*(l.length / 8)))) (Rk l)))=Anu (XC (XC (XC (XC ⟨u.a,u.b,Fg .u64 u.c 255,u.d⟩)))):=by
    rw[XU,hv];rfl
   rw[eF];clear eF;generalize XC ⟨u.a,u.b,Fg .u64 u.c 255,u.d⟩=U1 at r1 r2 r3 r4 ⊢;generalize XC U1=U2 at r2 r3 r4 ⊢;generalize XC U2=U3 at r3 r4 ⊢;generalize XC U3=U4 at r4 ⊢;simp only[W4.cells] at r1 r2 r3 r4;rw[Qt,Eh _ _ _ (by omega)]
   simp only[W4.cells,List.getD_cons_zero,List.getD_cons_succ,Aby,Jy];simp (disch:=first|omega|(simp;done)) only[Cd,B4,List.take_succ_cons,List.take_zero,List.drop_succ_cons,Dt,List.drop_nil,Zzp,ZG,List.append_nil,H5,Ye,List.getD_cons_zero,List.getD_cons_succ,r1,r2,r3,r4,Cv,Nat.reduceAdd,Nat.reduceLeDiff,List.append_eq]
   rfl
  |succ k=>
   have ih:=Aam (a0:=a0) (a1:=a1) (n:=n) (c:=c) hb hl B5 k (i+1) nn (Xc v (Wv (pc l (8*i)))) (by omega) (by omega)
   rw[show 8*i+8=8*(i+1) by omega,ih,Aw6 (by omega)]
   simp only[XU,List.drop_drop];rw[show 8*(i+1)=8*i+8 by omega]
theorem Amx {l:List Int}(hb:M3 l)(hl:l.length<=1099511627776)(B5:100<=fu)(hf:l.length<fu)(k0 k1:Int):Ad (CX xs) prog fu (d+3) U7 [.sc (.int .u64 k0),.sc (.int .u64 k1),.lst false 1 l.length (Af .u8 l)]=some ⟨[.sc (.int .u64 (Aw4 k0 k1 l))],[]⟩:=by
 rw[IZ];exact Aam (xs:=xs) (fu:=fu) (d:=d) (a0:=k0) (a1:=k1) (n:=l.length) (c:=Af .u8 l) hb hl B5 (l.length / 8) 0 fu (A13 k0 k1) (by omega) (by omega)
theorem Ahf {l:List Int}(hb:M3 l)(hl:l.length<=1099511627776)(B5:100<=fu)(hf:l.length<fu)(dom:Int):Ad (CX xs) prog fu (d+4) Mv [.sc (.int .i64 dom),.lst false 1 l.length (Af .u8 l)]=some ⟨[.sc (.int .u64 (Rm dom l))],[]⟩:=by
 rw[GA];have s:=Amx (xs:=xs) (fu:=fu) (d:=d) hb hl B5 hf (wrap .u64 dom) 0;simp only[Cd,s];rfl
theorem Ay7 {l:List Int}(hb:M3 l)(hl:l.length<=1099511627776)(B5:100<=fu)(hf:l.length<fu)(key dom:Int):Ad (CX xs) prog fu (d+4) Vi [.sc (.int .u64 key),.sc (.int .i64 dom),.lst false 1 l.length (Af .u8 l)]=some ⟨[.sc (.int .u64 (Ayg key dom l))],[]⟩:=by
 rw[JX];have s:=Amx (xs:=xs) (fu:=fu) (d:=d) hb hl B5 hf key (wrap .u64 (1+wrap .u64 dom));simp only[Cd,s];rfl
end
end
section
open Go.Proofs.Tryz (prog)
open Go.IntKind (wrap)
def Eb (w:Int)(k:Nat):Int:=wrap .u8 (Ft .u64 w (56-8*(k:Int)))
def Fh (w:Int):List Int:=(List.range' 0 8).map (Eb w)
def A6 (ws:List Int):List Int:=ws.flatMap Fh
theorem G3 (w:Int):(Fh w).length=8:=rfl
section
variable {fu d:Nat} {xs:FuncId->Option (List PV->Option A4)} {call:Ah} {n:Nat} {c:List PV}
theorem Aen {ws:List Int}{w:Int}{m0 l:Nat}{i k:Int}:∀(r j nn:Nat)(bs:List Int),8-j=r->r<nn->j<=8->bs.length+r<=34359738368 ->
  Mn fu call n c m0 nn bs.length w l (Af .u64 ws) k i j (Af .u8 bs) =
   Jv fu call n c m0 (bs++(List.range' j (8-j)).map (Eb w)).length l (Af .u64 ws) k (wrap .i64 (i+1)) (Af .u8 (bs++(List.range' j (8-j)).map (Eb w)))
 |r,j,0,bs,_,h,_,_=>by omega
 |0,j,nn+1,bs,hr,_,hj,_=>by
  have e:j=8:=by omega
  subst e;rw[Vp];simp (disch:=omega) only[Cd];simp
 |r+1,j,nn+1,bs,hr,hn,hj,hb=>by
  have ih:=Aen (ws:=ws) (w:=w) (m0:=m0) (l:=l) (i:=i) (k:=k) r (j+1) nn (bs++[Eb w j]) (by omega) (by omega) (by omega) (by simp;omega)
  have e8:=Aq .u8 bs;rw[Vp]
  have hx:wrap .u8 (Ft .u64 w (wrap .i64 (56-wrap .i64 (8*(j:Int)))))=Eb w j:=by
   rw[Ap (x:=8*(j:Int)) (by omega) (by omega),Ap (by omega) (by omega)]
   rfl
  have h0:0<=wrap .i64 (56-wrap .i64 (8*(j:Int))):=by
   rw[Ap (x:=8*(j:Int)) (by omega) (by omega),Ap (by omega) (by omega)]
   omega
  have Aih:List.range' j (8-j)=j::List.range' (j+1) (8-(j+1)):=by
   rw[show 8-j=(8-(j+1))+1 by omega]
   exact List.range'_succ
  simp (disch:=first|omega|exact h0) only[Cd,Dr,hx,Nv,Ig,Ap (x:=(j:Int)+1)];rw[Aih];simp only[Hi,H5,Ye,Cv,QV,VR,List.singleton_append] at ih ⊢;exact ih
theorem VT {ws:List Int}(hl:ws.length<=1073741824)(B5:100<=fu):∀(r:List Int)(i nn:Nat)(bs:List Int),ws.drop i=r->r.length<nn->bs.length=8*i ->
  Jv fu call n c nn bs.length ws.length (Af .u64 ws) ws.length i (Af .u8 bs)=some ⟨[.own 1 (bs++A6 r).length (Af .u8 (bs++A6 r))],[]⟩
 |r,i,0,_,_,h,_=>by omega
 |[],i,nn+1,bs,h,_,_=>by
  have:=drop_nil h;have e8:=Aq .u8 bs;rw[Vg];simp (disch:=omega) only[Cd,Dr,Nv,A6,List.flatMap_nil,List.append_nil]
 |w::r,i,nn+1,bs,h,hn,hb=>by
  obtain⟨h1,h2,h3⟩:=Dk h;simp only[H5] at hn;rw[Vg];simp (disch:=omega) only[Cd,Je,Dr,HL h2];rw[show (0:Int)=((0:Nat):Int) from rfl,Aen 8 0 fu bs rfl (by omega) (by omega) (by omega),Ap (by omega) (by omega)]
  have ih:=VT hl B5 r (i+1) nn (bs++Fh w) h3 (by omega) (by simp[G3];omega)
  have e:bs++Fh w++A6 r=bs++A6 (w::r):=by simp[A6]
  rw[e] at ih;exact ih
theorem Uf {ws:List Int}(hl:ws.length<=1073741824)(B5:100<=fu)(hf:ws.length<fu):Ad (CX xs) prog fu (d+1) Hm [.lst false 1 ws.length (Af .u64 ws)]=some ⟨[.own 1 (A6 ws).length (Af .u8 (A6 ws))],[]⟩:=by
 rw[ST];simp (disch:=omega) only[Cd,Ap,Int.mul_one];exact VT hl B5 ws 0 fu [] rfl hf rfl
theorem ZW {ws:List Int}{w:Int}{m0 i:Nat}(hw:ws[i]?=some w):∀(r nn:Nat)(j:Int)(bs:List Int),j=(r:Int)-1->r<=8->r<nn->bs.length+r<=34359738368 ->
  Ic fu call n c m0 nn ws.length (Af .u64 ws) bs.length i j (Af .u8 bs) =
   Gt fu call n c m0 ws.length (Af .u64 ws) (bs++(List.range' (8-r) r).map (Eb w)).length (wrap .i64 (i+1)) (Af .u8 (bs++(List.range' (8-r) r).map (Eb w)))
 |r,0,j,bs,_,_,h,_=>by omega
 |0,nn+1,j,bs,hr,_,_,_=>by
  rw[Nz];simp (disch:=omega) only[Cd];simp
 |r+1,nn+1,j,bs,hr,EU,hn,hb=>by
  have hi:=A25 hw;have ih:=ZW (m0:=m0) hw r nn (j-1) (bs++[Eb w (8-(r+1))]) (by omega) (by omega) (by omega) (by simp;omega)
  have e8:=Aq .u8 bs
  have hx:wrap .u8 (Ft .u64 w (wrap .u64 (wrap .i64 (8*j))))=Eb w (8-(r+1)):=by
   rw[Ap (by omega) (by omega),C3 (by omega) (by omega)]
   unfold Eb;rw[show 56-8*((8-(r+1):Nat):Int)=8*j by omega]
  have h0:0<=wrap .u64 (wrap .i64 (8*j)):=by
   rw[Ap (by omega) (by omega),C3 (by omega) (by omega)]
   omega
  have Aih:List.range' (8-(r+1)) (r+1)=(8-(r+1))::List.range' (8-r) r:=by
   rw[List.range'_succ,show 8-(r+1)+1=8-r by omega]
  rw[Nz];simp (disch:=first|omega|exact h0) only[Cd,Je,Dr,HL hw,hx,Nv,Ig,Ap (x:=j-1)];rw[Aih];simp only[Hi,H5,Ye,Cv,QV,VR,List.singleton_append] at ih ⊢;exact ih
theorem OI {ws:List Int}(hl:ws.length<=1073741824)(B5:100<=fu):∀(r:List Int)(i nn:Nat)(bs:List Int),ws.drop i=r->r.length<nn->bs.length=8*i ->
  Gt fu call n c nn ws.length (Af .u64 ws) bs.length i (Af .u8 bs)=some ⟨[.own 1 (bs++A6 r).length (Af .u8 (bs++A6 r))],[]⟩
 |r,i,0,_,_,h,_=>by omega
 |[],i,nn+1,bs,h,_,_=>by
  have:=drop_nil h;have e8:=Aq .u8 bs;rw[Ok];simp (disch:=omega) only[Cd,Dr,Nv,A6,List.flatMap_nil,List.append_nil]
 |w::r,i,nn+1,bs,h,hn,hb=>by
  obtain⟨h1,h2,h3⟩:=Dk h;simp only[H5] at hn;rw[Ok];simp (disch:=omega) only[Cd];rw[ZW h2 8 fu 7 bs rfl (by omega) (by omega) (by omega),Ap (by omega) (by omega)]
  have ih:=OI hl B5 r (i+1) nn (bs++Fh w) h3 (by omega) (by simp[G3];omega)
  have e:bs++Fh w++A6 r=bs++A6 (w::r):=by simp[A6]
  rw[e] at ih;exact ih
theorem Pz {ws:List Int}(hl:ws.length<=1073741824)(B5:100<=fu)(hf:ws.length<fu):Ad (CX xs) prog fu (d+1) F0 [.lst false 1 ws.length (Af .u64 ws)]=some ⟨[.own 1 (A6 ws).length (Af .u8 (A6 ws))],[]⟩:=by
 rw[EM];exact OI hl B5 ws 0 fu [] rfl hf rfl
end
abbrev Hj (a b:Int):Int:=ior .u64 (Jf .u64 a 8) (wrap .u64 b)
def UV (bs:List Int):Int:=bs.foldl Hj 0
theorem A0t {q:Int}(h0:0<=q)(h1:q<=18446744073709551615):Hj (q / 256) (wrap .u8 q)=q:=by
 have e1:Jf .u64 (q / 256) 8=q / 256*256:=by
  unfold Jf;have:((8:Int).toNat.min IntKind.u64.bits)=8:=by decide
  show wrap .u64 (q / 256*2 ^ (min (8:Int).toNat IntKind.u64.bits))=_;have h2:(2:Int) ^ (min (8:Int).toNat IntKind.u64.bits)=256:=by decide
  rw[h2,C3 (by omega) (by omega)]
 have e2:wrap .u8 q=q % 256:=by
  simp only[wrap,IntKind.signed,IntKind.bits];simp
 have e3:wrap .u64 (q % 256)=q % 256:=C3 (by omega) (by omega)
 unfold Hj;rw[e1,e2,e3];obtain⟨n,rfl⟩:=Int.eq_ofNat_of_zero_le h0;have hn:n<18446744073709551616:=by omega
 have e4:(BitVec.ofInt 64 ((n:Int) / 256*256)).toNat=n / 256*256:=by
  rw[BitVec.toNat_ofInt];omega
 have e5:(BitVec.ofInt 64 ((n:Int) % 256)).toNat=n % 256:=by
  rw[BitVec.toNat_ofInt];omega
 have e6:n / 256*256 ||| n % 256=n:=by
  have:=Nat.shiftLeft_add_eq_or_of_lt (show n % 256<2 ^ 8 by omega) (n / 256)
  rw[Nat.shiftLeft_eq] at this;rw[←this];omega
 unfold ior;show wrap .u64 ((BitVec.ofInt 64 ((n:Int) / 256*256) ||| BitVec.ofInt 64 ((n:Int) % 256)).toNat:Int)=n;rw[BitVec.toNat_or,e4,e5,e6,C3 (by omega) (by omega)]
theorem Aac {w:Int}(k:Nat)(hk:k<8):Eb w k=wrap .u8 (w / 2 ^ (56-8*k)):=by
 unfold Eb Ft;have e:(56-8*(k:Int)).toNat=56-8*k:=by omega
 rw[e,Nat.min_eq_left (by show 56-8*k<=64;omega),Int.fdiv_eq_ediv_of_nonneg _ (Int.le_of_lt (Int.pow_pos (by omega)))]
theorem ZE {w:Int}(h0:0<=w)(h1:w<=18446744073709551615):UV (Fh w)=w:=by
 have st:∀(k:Nat) (D:Int),k<8->(2:Int) ^ (56-8*k)=D->0<D->Hj (w / D / 256) (Eb w k)=w / D:=by
  intro k D hk hD hp;rw[Aac k hk,hD];exact A0t (Int.ediv_nonneg h0 (Int.le_of_lt hp)) (Int.le_trans (Int.ediv_le_self _ h0) h1)
 have s0:=st 0 72057594037927936 (by omega) (by decide) (by omega)
 have s1:=st 1 281474976710656 (by omega) (by decide) (by omega)
 have s2:=st 2 1099511627776 (by omega) (by decide) (by omega)
 have s3:=st 3 4294967296 (by omega) (by decide) (by omega)
 have s4:=st 4 16777216 (by omega) (by decide) (by omega)
 have s5:=st 5 65536 (by omega) (by decide) (by omega)
 have s6:=st 6 256 (by omega) (by decide) (by omega)
 have s7:=st 7 1 (by omega) (by decide) (by omega)
 rw[show w / 72057594037927936 / 256=0 by omega] at s0
 rw[show w / 281474976710656 / 256=w / 72057594037927936 by omega] at s1
 rw[show w / 1099511627776 / 256=w / 281474976710656 by omega] at s2
 rw[show w / 4294967296 / 256=w / 1099511627776 by omega] at s3
 rw[show w / 16777216 / 256=w / 4294967296 by omega] at s4
 rw[show w / 65536 / 256=w / 16777216 by omega] at s5
 rw[show w / 256 / 256=w / 65536 by omega] at s6
 rw[show w / 1 / 256=w / 256 by omega,show w / 1=w by omega] at s7
 show Hj (Hj (Hj (Hj (Hj (Hj (Hj (Hj 0 (Eb w 0)) (Eb w 1)) (Eb w 2)) (Eb w 3)) (Eb w 4)) (Eb w 5)) (Eb w 6)) (Eb w 7)=w;rw[s0,s1,s2,s3,s4,s5,s6,s7]
end
section
open Go.Proofs.Tryz (prog)
open Go.IntKind (wrap)
set_option maxRecDepth 100000
abbrev Xp:FuncId:=110
noncomputable def Ib (fu:Nat)(call:Ah)(a0:Int)(nn:Nat)(y0 y1 y2:Int)(y3 y4:List PV):Option A4:=Dd CB prog fu call 110 Tryz.f110 (B9 Tryz.f110) [.sc (.int .u64 a0)] [.r,.r,.r,.l,.r,.l] nn ⟨lk [(0,(.sc (.int .u64 y0))),(2,(.ptr 2 0)),(3,(.ptr 3 0)),(4,(.sc (.int .i64 y1))),(6,(.sc (.int .i64 y2)))],B7 [(2,(.ar false y3)),(3,(.ar false y4))]⟩
noncomputable def Us (fu:Nat)(call:Ah)(a0:Int)(nn:Nat)(y0 y1:List PV):Option A4:=Dd CB prog fu call 110 Tryz.f110 (B9 Tryz.f110) [.sc (.int .u64 a0)] [.r,.r,.r,.r,.r] nn ⟨lk [(2,(.ptr 2 0)),(3,(.ptr 3 0))],B7 [(2,(.ar false y0)),(3,(.ar false y1))]⟩
noncomputable def Vl (fu:Nat)(call:Ah)(a0:Int)(nn:Nat)(y0:List PV):Option A4:=Dd CB prog fu call 110 Tryz.f110 (B9 Tryz.f110) [.sc (.int .u64 a0)] [.r,.r,.r,.r,.r,.r] nn ⟨lk [(2,(.ptr 2 0))],B7 [(2,(.ar false y0))]⟩
theorem Rp (fu:Nat)(call:Ah)(a0:Int)(nn:Nat)(y0 y1 y2:Int)(y3 y4:List PV):Ib fu call a0 (nn+1) y0 y1 y2 y3 y4=(Bm (decide (y2<16)) (Aa (wrap .i64 (4*y2)) fun x1=>Aa (wrap .i64 (60-x1)) fun x2=>Aw (decide (0<=x2))<|Aa (Ft .u64 y0 x2) fun x3=>Aa (Wo .u64 x3 15) fun x4=>Aa (wrap .i64 x4) fun x5=>Aw (decide (0<=y2)&&decide (y2<18))<|Aw (decide (0+Int.toNat y2*1+1<=y4.length))<|Aa (B4 y4 [.sc (.int .i64 x5)] (0+Int.toNat y2*1)) fun x6=>Aw (decide (0<=y2)&&decide (y2<18))<|Ae .i64 (List.getD x6 (0+Int.toNat y2*1) .top) fun x7=>Aa (wrap .i64 (15-x7)) fun x8=>Aa (wrap .i64 (y1+x8)) fun x9=>Aa (wrap .i64 (y2+1)) fun Cy=>Ib fu call a0 (nn) (y0) x9 Cy (y3) x6) (Aa (wrap .i64 (Int.tdiv y1 16)) fun C4=>Aw (decide (17<=y4.length))<|Aa (B4 y4 [.sc (.int .i64 C4)] 16) fun D1=>Aa (Int.tmod y1 16) fun Ed=>Aw (decide (18<=D1.length))<|Aa (B4 D1 [.sc (.int .i64 Ed)] 17) fun Dn=>Us fu call a0 (fu) (y3) Dn)):=by kernel_rfl
theorem FB (fu:Nat)(call:Ah)(a0:Int)(nn:Nat)(O6:0<nn)(y0 y1:List PV):Us fu call a0 nn y0 y1=(Ae .i64 (List.getD y1 0 .top) fun Eg=>Ae .i64 (List.getD y1 1 .top) fun Ez=>Ae .i64 (List.getD y1 2 .top) fun Fq=>Ae .i64 (List.getD y1 3 .top) fun F9=>Ae .i64 (List.getD y1 4 .top) fun Fp=>Ae .i64 (List.getD y1 5 .top) fun F2=>Ae .i64 (List.getD y1 6 .top) fun Iw=>Ae .i64 (List.getD y1 7 .top) fun Hl=>Ae .i64 (List.getD y1 8 .top) fun H3=>Ae .i64 (List.getD y1 9 .top) fun E5=>Ae .i64 (List.getD y1 10 .top) fun Ep=>Ae .i64 (List.getD y1 11 .top) fun G2=>Ae .i64 (List.getD y1 12 .top) fun I1=>Ae .i64 (List.getD y1 13 .top) fun Gs=>Ae .i64 (List.getD y1 14 .top) fun Ml=>Ae .i64 (List.getD y1 15 .top) fun L5=>Ae .i64 (List.getD y1 16 .top) fun J6=>Ae .i64 (List.getD y1 17 .top) fun Le=>Aw (decide (18<=y0.length))<|Aa (B4 y0 [.sc (.int .i64 Eg),.sc (.int .i64 Ez),.sc (.int .i64 Fq),.sc (.int .i64 F9),.sc (.int .i64 Fp),.sc (.int .i64 F2),.sc (.int .i64 Iw),.sc (.int .i64 Hl),.sc (.int .i64 H3),.sc (.int .i64 E5),.sc (.int .i64 Ep),.sc (.int .i64 G2),.sc (.int .i64 I1),.sc (.int .i64 Gs),.sc (.int .i64 Ml),.sc (.int .i64 L5),.sc (.int .i64 J6),.sc (.int .i64 Le)] 0) fun Mc=>Vl fu call a0 (fu) Mc):=by cases nn with|zero=>exact absurd O6 (Nat.lt_irrefl 0)|succ nn=>kernel_rfl
theorem EG (fu:Nat)(call:Ah)(a0:Int)(nn:Nat)(O6:0<nn)(y0:List PV):Vl fu call a0 nn y0=(Ae .i64 (List.getD y0 0 .top) fun Nh=>Ae .i64 (List.getD y0 1 .top) fun Nw=>Ae .i64 (List.getD y0 2 .top) fun Qa=>Ae .i64 (List.getD y0 3 .top) fun Sb=>Ae .i64 (List.getD y0 4 .top) fun Ip=>Ae .i64 (List.getD y0 5 .top) fun Lf=>Ae .i64 (List.getD y0 6 .top) fun Rj=>Ae .i64 (List.getD y0 7 .top) fun V9=>Ae .i64 (List.getD y0 8 .top) fun Rb=>Ae .i64 (List.getD y0 9 .top) fun Zb=>Ae .i64 (List.getD y0 10 .top) fun Za=>Ae .i64 (List.getD y0 11 .top) fun Wc=>Ae .i64 (List.getD y0 12 .top) fun Wa=>Ae .i64 (List.getD y0 13 .top) fun Wt=>Ae .i64 (List.getD y0 14 .top) fun Xr=>Ae .i64 (List.getD y0 15 .top) fun Xi=>Ae .i64 (List.getD y0 16 .top) fun Ze=>Ae .i64 (List.getD y0 17 .top) fun Y8=>some (A4.mk [.agg [.sc (.int .i64 Nh),.sc (.int .i64 Nw),.sc (.int .i64 Qa),.sc (.int .i64 Sb),.sc (.int .i64 Ip),.sc (.int .i64 Lf),.sc (.int .i64 Rj),.sc (.int .i64 V9),.sc (.int .i64 Rb),.sc (.int .i64 Zb),.sc (.int .i64 Za),.sc (.int .i64 Wc),.sc (.int .i64 Wa),.sc (.int .i64 Wt),.sc (.int .i64 Xr),.sc (.int .i64 Xi),.sc (.int .i64 Ze),.sc (.int .i64 Y8)]] [])):=by cases nn with|zero=>exact absurd O6 (Nat.lt_irrefl 0)|succ nn=>kernel_rfl
theorem MI {xs:FuncId->Option (List PV->Option A4)} (fu d:Nat)(a0:Int):Ad (CX xs) prog fu (d+1) Xp [.sc (.int .u64 a0)]=(fun (call:Ah)=>Ib fu call a0 (fu) (a0) 0 0 ([.sc (.int .i64 0),.sc (.int .i64 0),.sc (.int .i64 0),.sc (.int .i64 0),.sc (.int .i64 0),.sc (.int .i64 0),.sc (.int .i64 0),.sc (.int .i64 0),.sc (.int .i64 0),.sc (.int .i64 0),.sc (.int .i64 0),.sc (.int .i64 0),.sc (.int .i64 0),.sc (.int .i64 0),.sc (.int .i64 0),.sc (.int .i64 0),.sc (.int .i64 0),.sc (.int .i64 0)]) ([.sc (.int .i64 0),.sc (.int .i64 0),.sc (.int .i64 0),.sc (.int .i64 0),.sc (.int .i64 0),.sc (.int .i64 0),.sc (.int .i64 0),.sc (.int .i64 0),.sc (.int .i64 0),.sc (.int .i64 0),.sc (.int .i64 0),.sc (.int .i64 0),.sc (.int .i64 0),.sc (.int .i64 0),.sc (.int .i64 0),.sc (.int .i64 0),.sc (.int .i64 0),.sc (.int .i64 0)])) (Ad (CX xs) prog fu d):=by kernel_rfl
abbrev FQ:FuncId:=111
noncomputable def Og (fu:Nat)(call:Ah)(a0 a1:Int)(a2 a3 a4:Int)(nn:Nat)(y0 y1:Int)(y2 y3 y4:Int):Option A4:=Dd CB prog fu call 111 Tryz.f111 (B9 Tryz.f111) [.sc (.int .i64 a0),.sc (.int .i64 a1),.sc (.int .i64 a2),.sc (.int .i64 a3),.sc (.int .u64 a4)] [.r,.r,.l,.r,.l] nn ⟨lk [(0,(.sc (.int .i64 y0))),(1,(.sc (.int .i64 y1))),(4,(.sc (.int .u64 y2))),(11,(.sc (.int .i64 y3))),(12,(.sc (.int .i64 y4)))],B7 []⟩
theorem Wq (fu:Nat)(call:Ah)(a0 a1:Int)(a2 a3 a4:Int)(nn:Nat)(y0 y1:Int)(y2 y3 y4:Int):Og fu call a0 a1 a2 a3 a4 (nn+1) y0 y1 y2 y3 y4=(Bm (decide (y4<y3)) (Aa (wrap .u64 y0) fun x3=>Aa (wrap .u64 y1) fun x4=>Aa (wrap .u64 y4) fun x5=>Aj (call 86 [.lst false 1 4 [.sc (.int .u64 x3),.sc (.int .u64 x4),.sc (.int .u64 x5),.sc (.int .u64 y2)]]) fun x6 x7=>Ac x7<|Ab x6 fun x8 x9=>F5 1 x8 fun Cy C4=>Ac x9<|Aw (decide (0+Cy*1<=C4.length))<|Aj (call 66 [.sc (.int .i64 1),.lst false 1 Cy (List.take (Cy*1) (List.drop 0 C4))]) fun D1 Ed=>Ac Ed<|Ab D1 fun Dn Eg=>Ae .u64 Dn fun Ez=>Ac Eg<|Aa (wrap .i64 (y4+1)) fun Fq=>Og fu call a0 a1 a2 a3 a4 (nn) (y0) (y1) Ez (y3) Fq) (some (A4.mk [.sc (.int .u64 y2)] []))):=by kernel_rfl
theorem ZB {xs:FuncId->Option (List PV->Option A4)} (fu d:Nat)(a0 a1:Int)(a2 a3 a4:Int):Ad (CX xs) prog fu (d+1) FQ [.sc (.int .i64 a0),.sc (.int .i64 a1),.sc (.int .i64 a2),.sc (.int .i64 a3),.sc (.int .u64 a4)]=(fun (call:Ah)=>Aa (if 15<a3 then 15 else a3) fun x1=>Aa (if a2<0 then 0 else a2) fun x2=>Og fu call a0 a1 a2 a3 a4 (fu) (a0) (a1) (a4) x1 x2) (Ad (CX xs) prog fu d):=by kernel_rfl
abbrev Uu:FuncId:=115
theorem LH {xs:FuncId->Option (List PV->Option A4)} (fu d:Nat)(a0 Cr:Int)(Cs C1:Int)(Aq5 Au5:Int)(Atg Asn:Int)(A7r A63:Int)(A7x Az5:Int)(A0x A1o:Int)(A02 A0s:Int)(A1f A1g A1a:Int):Ad (CX xs) prog fu (d+1) Uu [.sc (.int .i64 a0),.agg [.sc (.int .u64 Cr),.sc (.int .u64 Cs),.sc (.int .u64 C1),.sc (.int .u64 Aq5),.sc (.int .u64 Au5),.sc (.int .u64 Atg),.sc (.int .u64 Asn),.sc (.int .u64 A7r),.sc (.int .u64 A63),.sc (.int .u64 A7x),.sc (.int .u64 Az5),.sc (.int .u64 A0x),.sc (.int .u64 A1o),.sc (.int .u64 A02),.sc (.int .u64 A0s),.sc (.int .u64 A1f),.sc (.int .u64 A1g),.sc (.int .u64 A1a)]]=(fun (call:Ah)=>Aa (wrap .u64 a0) fun x1=>Aj (call 86 [.lst false 1 19 [.sc (.int .u64 x1),.sc (.int .u64 Cr),.sc (.int .u64 Cs),.sc (.int .u64 C1),.sc (.int .u64 Aq5),.sc (.int .u64 Au5),.sc (.int .u64 Atg),.sc (.int .u64 Asn),.sc (.int .u64 A7r),.sc (.int .u64 A63),.sc (.int .u64 A7x),.sc (.int .u64 Az5),.sc (.int .u64 A0x),.sc (.int .u64 A1o),.sc (.int .u64 A02),.sc (.int .u64 A0s),.sc (.int .u64 A1f),.sc (.int .u64 A1g),.sc (.int .u64 A1a)]]) fun x2 x3=>Ac x3<|Ab x2 fun x4 x5=>F5 1 x4 fun x6 x7=>Ac x5<|Aw (decide (0+x6*1<=x7.length))<|Aj (call 66 [.sc (.int .i64 2),.lst false 1 x6 (List.take (x6*1) (List.drop 0 x7))]) fun x8 x9=>Ac x9<|Ab x8 fun Cy C4=>Ae .u64 Cy fun D1=>Ac C4<|some (A4.mk [.sc (.int .u64 D1)] [])) (Ad (CX xs) prog fu d):=by kernel_rfl
abbrev U6:FuncId:=75
noncomputable def Gi (fu:Nat)(call:Ah)(a0 a1:Int)(Mf:Nat)(a2:List PV)(nn:Nat)(y0:Int)(y1:Nat)(y2:List PV)(y3 y4:Int)(y5 y6:Int)(y7 y8:Int)(y9 y10:Int)(Er F1:Int)(H1 Lr:Int)(Ks Nq:Int)(Lu M7:Int)(Ma Kc J5:Int)(Oy:List PV):Option A4:=Dd CB prog fu call 75 Tryz.f75 (B9 Tryz.f75) [.sc (.int .i64 a0),.sc (.int .u64 a1),.lst false 1 Mf a2] [.r,.r,.r,.l,.r,.l] nn ⟨lk [(0,(.sc (.int .i64 y0))),(2,(.lst false 1 y1 y2)),(8,(.ptr 8 0)),(15,(.agg [(.sc (.int .i64 y3)),(.sc (.int .i64 y4)),(.sc (.int .i64 y5)),(.sc (.int .i64 y6)),(.sc (.int .i64 y7)),(.sc (.int .i64 y8)),(.sc (.int .i64 y9)),(.sc (.int .i64 y10)),(.sc (.int .i64 Er)),(.sc (.int .i64 F1)),(.sc (.int .i64 H1)),(.sc (.int .i64 Lr)),(.sc (.int .i64 Ks)),(.sc (.int .i64 Nq)),(.sc (.int .i64 Lu)),(.sc (.int .i64 M7)),(.sc (.int .i64 Ma)),(.sc (.int .i64 Kc))])),(16,(.sc (.int .i64 J5)))],B7 [(8,(.ar false Oy))]⟩
noncomputable def Ub (fu:Nat)(call:Ah)(a0 a1:Int)(Mf:Nat)(a2:List PV)(nn:Nat)(y0:Int)(y1:List PV):Option A4:=Dd CB prog fu call 75 Tryz.f75 (B9 Tryz.f75) [.sc (.int .i64 a0),.sc (.int .u64 a1),.lst false 1 Mf a2] [.r,.r,.r] nn ⟨lk [(0,(.sc (.int .i64 y0))),(8,(.ptr 8 0))],B7 [(8,(.ar false y1))]⟩
noncomputable def Ta (fu:Nat)(call:Ah)(a0 a1:Int)(Mf:Nat)(a2:List PV)(nn:Nat)(y0 y1:Int):Option A4:=Dd CB prog fu call 75 Tryz.f75 (B9 Tryz.f75) [.sc (.int .i64 a0),.sc (.int .u64 a1),.lst false 1 Mf a2] [.r,.r,.r,.r] nn ⟨lk [(6,(.sc (.int .u64 y0))),(7,(.sc (.int .i64 y1)))],B7 []⟩
theorem Qx (fu:Nat)(call:Ah)(a0 a1:Int)(Mf:Nat)(a2:List PV)(nn:Nat)(y0:Int)(y1:Nat)(y2:List PV)(y3 y4:Int)(y5 y6:Int)(y7 y8:Int)(y9 y10:Int)(Er F1:Int)(H1 Lr:Int)(Ks Nq:Int)(Lu M7:Int)(Ma Kc J5:Int)(Oy:List PV):Gi fu call a0 a1 Mf a2 (nn+1) y0 y1 y2 y3 y4 y5 y6 y7 y8 y9 y10 Er F1 H1 Lr Ks Nq Lu M7 Ma Kc J5 Oy=(Bm (decide (J5<18)) (Aw (decide (0<=J5)&&decide (J5<18)&&true)<|Ae .i64 (List.getD [.sc (.int .i64 y3),.sc (.int .i64 y4),.sc (.int .i64 y5),.sc (.int .i64 y6),.sc (.int .i64 y7),.sc (.int .i64 y8),.sc (.int .i64 y9),.sc (.int .i64 y10),.sc (.int .i64 Er),.sc (.int .i64 F1),.sc (.int .i64 H1),.sc (.int .i64 Lr),.sc (.int .i64 Ks),.sc (.int .i64 Nq),.sc (.int .i64 Lu),.sc (.int .i64 M7),.sc (.int .i64 Ma),.sc (.int .i64 Kc)] (Int.toNat J5*1) .top) fun AB=>Aw (decide (0<=J5)&&decide (J5<(↑y1:Int)))<|Ae .u64 (List.getD y2 (Int.toNat J5*1) .top) fun AF=>Aj (call 111 [.sc (.int .i64 y0),.sc (.int .i64 J5),.sc (.int .i64 AB),.sc (.int .i64 15),.sc (.int .u64 AF)]) fun DT AC=>Ac AC<|Ab DT fun Zn Y5=>Ae .u64 Zn fun Wd=>Ac Y5<|Aw (decide (0<=J5)&&decide (J5<18))<|Aw (decide (0+Int.toNat J5*1+1<=Oy.length))<|Aa (B4 Oy [.sc (.int .u64 Wd)] (0+Int.toNat J5*1)) fun AM=>Aa (wrap .i64 (J5+1)) fun DF=>Gi fu call a0 a1 Mf a2 (nn) (y0) (y1) (y2) (y3) (y4) (y5) (y6) (y7) (y8) (y9) (y10) (Er) (F1) (H1) (Lr) (Ks) (Nq) (Lu) (M7) (Ma) (Kc) DF AM) (Ub fu call a0 a1 Mf a2 (fu) (y0) (Oy))):=by kernel_rfl
theorem BD (fu:Nat)(call:Ah)(a0 a1:Int)(Mf:Nat)(a2:List PV)(nn:Nat)(O6:0<nn)(y0:Int)(y1:List PV):Ub fu call a0 a1 Mf a2 nn y0 y1=(Ae .u64 (List.getD y1 0 .top) fun AD=>Ae .u64 (List.getD y1 1 .top) fun CW=>Ae .u64 (List.getD y1 2 .top) fun AL=>Ae .u64 (List.getD y1 3 .top) fun CF=>Ae .u64 (List.getD y1 4 .top) fun ET=>Ae .u64 (List.getD y1 5 .top) fun Zu=>Ae .u64 (List.getD y1 6 .top) fun EQ=>Ae .u64 (List.getD y1 7 .top) fun IH=>Ae .u64 (List.getD y1 8 .top) fun AH=>Ae .u64 (List.getD y1 9 .top) fun GO=>Ae .u64 (List.getD y1 10 .top) fun JJ=>Ae .u64 (List.getD y1 11 .top) fun GB=>Ae .u64 (List.getD y1 12 .top) fun JS=>Ae .u64 (List.getD y1 13 .top) fun PD=>Ae .u64 (List.getD y1 14 .top) fun XF=>Ae .u64 (List.getD y1 15 .top) fun OV=>Ae .u64 (List.getD y1 16 .top) fun UA=>Ae .u64 (List.getD y1 17 .top) fun SF=>Aj (call 115 [.sc (.int .i64 y0),.agg [.sc (.int .u64 AD),.sc (.int .u64 CW),.sc (.int .u64 AL),.sc (.int .u64 CF),.sc (.int .u64 ET),.sc (.int .u64 Zu),.sc (.int .u64 EQ),.sc (.int .u64 IH),.sc (.int .u64 AH),.sc (.int .u64 GO),.sc (.int .u64 JJ),.sc (.int .u64 GB),.sc (.int .u64 JS),.sc (.int .u64 PD),.sc (.int .u64 XF),.sc (.int .u64 OV),.sc (.int .u64 UA),.sc (.int .u64 SF)]]) fun RC QT=>Ac QT<|Ab RC fun IG RP=>Ae .u64 IG fun QY=>Ac RP<|Ta fu call a0 a1 Mf a2 (fu) QY 0):=by cases nn with|zero=>exact absurd O6 (Nat.lt_irrefl 0)|succ nn=>kernel_rfl
theorem CQ (fu:Nat)(call:Ah)(a0 a1:Int)(Mf:Nat)(a2:List PV)(nn:Nat)(O6:0<nn)(y0 y1:Int):Ta fu call a0 a1 Mf a2 nn y0 y1=(some (A4.mk [.sc (.int .u64 y0),.sc (.int .i64 y1)] [])):=by cases nn with|zero=>exact absurd O6 (Nat.lt_irrefl 0)|succ nn=>kernel_rfl
theorem IU {xs:FuncId->Option (List PV->Option A4)} (fu d:Nat)(a0 a1:Int)(Mf:Nat)(a2:List PV):Ad (CX xs) prog fu (d+1) U6 [.sc (.int .i64 a0),.sc (.int .u64 a1),.lst false 1 Mf a2]=(fun (call:Ah)=>Bm ((↑Mf:Int) != 18) (some (A4.mk [.sc (.int .u64 0),.sc (.int .i64 4)] [])) (Aj (call 110 [.sc (.int .u64 a1)]) fun x1 x2=>Ac x2<|Ab x1 fun x3 x4=>Ef x3 fun x5=>Ab x5 fun x6 x7=>Ae .i64 x6 fun x8=>Ab x7 fun x9 Cy=>Ae .i64 x9 fun C4=>Ab Cy fun D1 Ed=>Ae .i64 D1 fun Dn=>Ab Ed fun Eg Ez=>Ae .i64 Eg fun Fq=>Ab Ez fun F9 Fp=>Ae .i64 F9 fun F2=>Ab Fp fun Iw Hl=>Ae .i64 Iw fun H3=>Ab Hl fun E5 Ep=>Ae .i64 E5 fun G2=>Ab Ep fun I1 Gs=>Ae .i64 I1 fun Ml=>Ab Gs fun L5 J6=>Ae .i64 L5 fun Le=>Ab J6 fun Mc Nh=>Ae .i64 Mc fun Nw=>Ab Nh fun Qa Sb=>Ae .i64 Qa fun Ip=>Ab Sb fun Lf Rj=>Ae .i64 Lf fun V9=>Ab Rj fun Rb Zb=>Ae .i64 Rb fun Za=>Ab Zb fun Wc Wa=>Ae .i64 Wc fun Wt=>Ab Wa fun Xr Xi=>Ae .i64 Xr fun Ze=>Ab Xi fun Y8 Xz=>Ae .i64 Y8 fun AN=>Ab Xz fun AG Yd=>Ae .i64 AG fun Zq=>Ab Yd fun AJ Yz=>Ae .i64 AJ fun CJ=>Ac Yz<|Ac x4<|Gi fu call a0 a1 Mf a2 (fu) (a0) (Mf) (a2) x8 C4 Dn Fq F2 H3 G2 Ml Le Nw Ip V9 Za Wt Ze AN Zq CJ 0 ([.sc (.int .u64 0),.sc (.int .u64 0),.sc (.int .u64 0),.sc (.int .u64 0),.sc (.int .u64 0),.sc (.int .u64 0),.sc (.int .u64 0),.sc (.int .u64 0),.sc (.int .u64 0),.sc (.int .u64 0),.sc (.int .u64 0),.sc (.int .u64 0),.sc (.int .u64 0),.sc (.int .u64 0),.sc (.int .u64 0),.sc (.int .u64 0),.sc (.int .u64 0),.sc (.int .u64 0)]))) (Ad (CX xs) prog fu d):=by kernel_rfl
abbrev Ww:FuncId:=112
theorem MB {xs:FuncId->Option (List PV->Option A4)} (fu d:Nat)(a0 a1 a2:Int):Ad (CX xs) prog fu (d+1) Ww [.sc (.int .u64 a0),.sc (.int .i64 a1),.sc (.int .i64 a2)]=(fun (call:Ah)=>Aa (wrap .u64 a1) fun x1=>Aa (wrap .u64 a2) fun x2=>Aj (call 86 [.lst false 1 2 [.sc (.int .u64 x1),.sc (.int .u64 x2)]]) fun x3 x4=>Ac x4<|Ab x3 fun x5 x6=>F5 1 x5 fun x7 x8=>Ac x6<|Aw (decide (0+x7*1<=x8.length))<|Aj (call 137 [.sc (.int .u64 a0),.sc (.int .i64 1),.lst false 1 x7 (List.take (x7*1) (List.drop 0 x8))]) fun x9 Cy=>Ac Cy<|Ab x9 fun C4 D1=>Ae .u64 C4 fun Ed=>Ac D1<|some (A4.mk [.sc (.int .u64 Ed)] [])) (Ad (CX xs) prog fu d):=by kernel_rfl
abbrev Pr:FuncId:=114
noncomputable def G4 (fu:Nat)(call:Ah)(a0 a1:Int)(nn:Nat)(y0 y1 y2:Int)(y3:List PV):Option A4:=Dd CB prog fu call 114 Tryz.f114 (B9 Tryz.f114) [.sc (.int .u64 a0),.sc (.int .i64 a1)] [.r,.r,.l,.r,.l] nn ⟨lk [(0,(.sc (.int .u64 y0))),(1,(.sc (.int .i64 y1))),(5,(.ptr 5 0)),(7,(.sc (.int .i64 y2)))],B7 [(5,(.ar false y3))]⟩
noncomputable def U9 (fu:Nat)(call:Ah)(a0 a1:Int)(nn:Nat)(y0:Int)(y1:List PV):Option A4:=Dd CB prog fu call 114 Tryz.f114 (B9 Tryz.f114) [.sc (.int .u64 a0),.sc (.int .i64 a1)] [.r,.r] nn ⟨lk [(1,(.sc (.int .i64 y0))),(5,(.ptr 5 0))],B7 [(5,(.ar false y1))]⟩
noncomputable def Ur (fu:Nat)(call:Ah)(a0 a1:Int)(nn:Nat)(y0:Int):Option A4:=Dd CB prog fu call 114 Tryz.f114 (B9 Tryz.f114) [.sc (.int .u64 a0),.sc (.int .i64 a1)] [.r,.r,.r] nn ⟨lk [(4,(.sc (.int .u64 y0)))],B7 []⟩
theorem R3 (fu:Nat)(call:Ah)(a0 a1:Int)(nn:Nat)(y0 y1 y2:Int)(y3:List PV):G4 fu call a0 a1 (nn+1) y0 y1 y2 y3=(Bm (decide (y2<18)) (Aj (call 112 [.sc (.int .u64 y0),.sc (.int .i64 y1),.sc (.int .i64 y2)]) fun x1 x2=>Ac x2<|Ab x1 fun x3 x4=>Ae .u64 x3 fun x5=>Ac x4<|Aj (call 111 [.sc (.int .i64 y1),.sc (.int .i64 y2),.sc (.int .i64 0),.sc (.int .i64 15),.sc (.int .u64 x5)]) fun x6 x7=>Ac x7<|Ab x6 fun x8 x9=>Ae .u64 x8 fun Cy=>Ac x9<|Aw (decide (0<=y2)&&decide (y2<18))<|Aw (decide (0+Int.toNat y2*1+1<=y3.length))<|Aa (B4 y3 [.sc (.int .u64 Cy)] (0+Int.toNat y2*1)) fun C4=>Aa (wrap .i64 (y2+1)) fun D1=>G4 fu call a0 a1 (nn) (y0) (y1) D1 C4) (U9 fu call a0 a1 (fu) (y1) (y3))):=by kernel_rfl
theorem EI (fu:Nat)(call:Ah)(a0 a1:Int)(nn:Nat)(O6:0<nn)(y0:Int)(y1:List PV):U9 fu call a0 a1 nn y0 y1=(Ae .u64 (List.getD y1 0 .top) fun Ed=>Ae .u64 (List.getD y1 1 .top) fun Dn=>Ae .u64 (List.getD y1 2 .top) fun Eg=>Ae .u64 (List.getD y1 3 .top) fun Ez=>Ae .u64 (List.getD y1 4 .top) fun Fq=>Ae .u64 (List.getD y1 5 .top) fun F9=>Ae .u64 (List.getD y1 6 .top) fun Fp=>Ae .u64 (List.getD y1 7 .top) fun F2=>Ae .u64 (List.getD y1 8 .top) fun Iw=>Ae .u64 (List.getD y1 9 .top) fun Hl=>Ae .u64 (List.getD y1 10 .top) fun H3=>Ae .u64 (List.getD y1 11 .top) fun E5=>Ae .u64 (List.getD y1 12 .top) fun Ep=>Ae .u64 (List.getD y1 13 .top) fun G2=>Ae .u64 (List.getD y1 14 .top) fun I1=>Ae .u64 (List.getD y1 15 .top) fun Gs=>Ae .u64 (List.getD y1 16 .top) fun Ml=>Ae .u64 (List.getD y1 17 .top) fun L5=>Aj (call 115 [.sc (.int .i64 y0),.agg [.sc (.int .u64 Ed),.sc (.int .u64 Dn),.sc (.int .u64 Eg),.sc (.int .u64 Ez),.sc (.int .u64 Fq),.sc (.int .u64 F9),.sc (.int .u64 Fp),.sc (.int .u64 F2),.sc (.int .u64 Iw),.sc (.int .u64 Hl),.sc (.int .u64 H3),.sc (.int .u64 E5),.sc (.int .u64 Ep),.sc (.int .u64 G2),.sc (.int .u64 I1),.sc (.int .u64 Gs),.sc (.int .u64 Ml),.sc (.int .u64 L5)]]) fun J6 Le=>Ac Le<|Ab J6 fun Mc Nh=>Ae .u64 Mc fun Nw=>Ac Nh<|Ur fu call a0 a1 (fu) Nw):=by cases nn with|zero=>exact absurd O6 (Nat.lt_irrefl 0)|succ nn=>kernel_rfl
theorem FE (fu:Nat)(call:Ah)(a0 a1:Int)(nn:Nat)(O6:0<nn)(y0:Int):Ur fu call a0 a1 nn y0=(some (A4.mk [.sc (.int .u64 y0)] [])):=by cases nn with|zero=>exact absurd O6 (Nat.lt_irrefl 0)|succ nn=>kernel_rfl
theorem ME {xs:FuncId->Option (List PV->Option A4)} (fu d:Nat)(a0 a1:Int):Ad (CX xs) prog fu (d+1) Pr [.sc (.int .u64 a0),.sc (.int .i64 a1)]=(fun (call:Ah)=>G4 fu call a0 a1 (fu) (a0) (a1) 0 ([.sc (.int .u64 0),.sc (.int .u64 0),.sc (.int .u64 0),.sc (.int .u64 0),.sc (.int .u64 0),.sc (.int .u64 0),.sc (.int .u64 0),.sc (.int .u64 0),.sc (.int .u64 0),.sc (.int .u64 0),.sc (.int .u64 0),.sc (.int .u64 0),.sc (.int .u64 0),.sc (.int .u64 0),.sc (.int .u64 0),.sc (.int .u64 0),.sc (.int .u64 0),.sc (.int .u64 0)])) (Ad (CX xs) prog fu d):=by kernel_rfl
abbrev Td:FuncId:=69
noncomputable def Mr (fu:Nat)(call:Ah)(a0 a1 a2:Int)(nn:Nat)(y0 y1:Int)(y2 y3:Int)(y4 y5:Int)(y6 y7:Int)(y8 y9:Int)(y10 Er:Int)(F1 H1:Int)(Lr Ks:Int)(Nq Lu:Int)(M7 Ma Kc:Int)(J5:List PV):Option A4:=Dd CB prog fu call 69 Tryz.f69 (B9 Tryz.f69) [.sc (.int .u64 a0),.sc (.int .i64 a1),.sc (.int .u64 a2)] [.r,.r,.l,.r,.l] nn ⟨lk [(0,(.sc (.int .u64 y0))),(1,(.sc (.int .i64 y1))),(7,(.ptr 7 0)),(11,(.agg [(.sc (.int .i64 y2)),(.sc (.int .i64 y3)),(.sc (.int .i64 y4)),(.sc (.int .i64 y5)),(.sc (.int .i64 y6)),(.sc (.int .i64 y7)),(.sc (.int .i64 y8)),(.sc (.int .i64 y9)),(.sc (.int .i64 y10)),(.sc (.int .i64 Er)),(.sc (.int .i64 F1)),(.sc (.int .i64 H1)),(.sc (.int .i64 Lr)),(.sc (.int .i64 Ks)),(.sc (.int .i64 Nq)),(.sc (.int .i64 Lu)),(.sc (.int .i64 M7)),(.sc (.int .i64 Ma))])),(12,(.sc (.int .i64 Kc)))],B7 [(7,(.ar false J5))]⟩
theorem Vb (fu:Nat)(call:Ah)(a0 a1 a2:Int)(nn:Nat)(y0 y1:Int)(y2 y3:Int)(y4 y5:Int)(y6 y7:Int)(y8 y9:Int)(y10 Er:Int)(F1 H1:Int)(Lr Ks:Int)(Nq Lu:Int)(M7 Ma Kc:Int)(J5:List PV):Mr fu call a0 a1 a2 (nn+1) y0 y1 y2 y3 y4 y5 y6 y7 y8 y9 y10 Er F1 H1 Lr Ks Nq Lu M7 Ma Kc J5=(Bm (decide (Kc<18)) (Aw (decide (0<=Kc)&&decide (Kc<18)&&true)<|Ae .i64 (List.getD [.sc (.int .i64 y2),.sc (.int .i64 y3),.sc (.int .i64 y4),.sc (.int .i64 y5),.sc (.int .i64 y6),.sc (.int .i64 y7),.sc (.int .i64 y8),.sc (.int .i64 y9),.sc (.int .i64 y10),.sc (.int .i64 Er),.sc (.int .i64 F1),.sc (.int .i64 H1),.sc (.int .i64 Lr),.sc (.int .i64 Ks),.sc (.int .i64 Nq),.sc (.int .i64 Lu),.sc (.int .i64 M7),.sc (.int .i64 Ma)] (Int.toNat Kc*1) .top) fun AB=>Aj (call 112 [.sc (.int .u64 y0),.sc (.int .i64 y1),.sc (.int .i64 Kc)]) fun AF DT=>Ac DT<|Ab AF fun AC Zn=>Ae .u64 AC fun Y5=>Ac Zn<|Aj (call 111 [.sc (.int .i64 y1),.sc (.int .i64 Kc),.sc (.int .i64 0),.sc (.int .i64 AB),.sc (.int .u64 Y5)]) fun Wd AM=>Ac AM<|Ab Wd fun DF AD=>Ae .u64 DF fun CW=>Ac AD<|Aw (decide (0<=Kc)&&decide (Kc<18))<|Aw (decide (0+Int.toNat Kc*1+1<=J5.length))<|Aa (B4 J5 [.sc (.int .u64 CW)] (0+Int.toNat Kc*1)) fun AL=>Aa (wrap .i64 (Kc+1)) fun CF=>Mr fu call a0 a1 a2 (nn) (y0) (y1) (y2) (y3) (y4) (y5) (y6) (y7) (y8) (y9) (y10) (Er) (F1) (H1) (Lr) (Ks) (Nq) (Lu) (M7) (Ma) CF AL) (Aw (decide (18<=J5.length))<|Aw (decide (18<=J5.length))<|some (A4.mk [.own 1 18 (List.take 18 J5)] []))):=by kernel_rfl
theorem VH {xs:FuncId->Option (List PV->Option A4)} (fu d:Nat)(a0 a1 a2:Int):Ad (CX xs) prog fu (d+1) Td [.sc (.int .u64 a0),.sc (.int .i64 a1),.sc (.int .u64 a2)]=(fun (call:Ah)=>Aj (call 110 [.sc (.int .u64 a2)]) fun x1 x2=>Ac x2<|Ab x1 fun x3 x4=>Ef x3 fun x5=>Ab x5 fun x6 x7=>Ae .i64 x6 fun x8=>Ab x7 fun x9 Cy=>Ae .i64 x9 fun C4=>Ab Cy fun D1 Ed=>Ae .i64 D1 fun Dn=>Ab Ed fun Eg Ez=>Ae .i64 Eg fun Fq=>Ab Ez fun F9 Fp=>Ae .i64 F9 fun F2=>Ab Fp fun Iw Hl=>Ae .i64 Iw fun H3=>Ab Hl fun E5 Ep=>Ae .i64 E5 fun G2=>Ab Ep fun I1 Gs=>Ae .i64 I1 fun Ml=>Ab Gs fun L5 J6=>Ae .i64 L5 fun Le=>Ab J6 fun Mc Nh=>Ae .i64 Mc fun Nw=>Ab Nh fun Qa Sb=>Ae .i64 Qa fun Ip=>Ab Sb fun Lf Rj=>Ae .i64 Lf fun V9=>Ab Rj fun Rb Zb=>Ae .i64 Rb fun Za=>Ab Zb fun Wc Wa=>Ae .i64 Wc fun Wt=>Ab Wa fun Xr Xi=>Ae .i64 Xr fun Ze=>Ab Xi fun Y8 Xz=>Ae .i64 Y8 fun AN=>Ab Xz fun AG Yd=>Ae .i64 AG fun Zq=>Ab Yd fun AJ Yz=>Ae .i64 AJ fun CJ=>Ac Yz<|Ac x4<|Mr fu call a0 a1 a2 (fu) (a0) (a1) x8 C4 Dn Fq F2 H3 G2 Ml Le Nw Ip V9 Za Wt Ze AN Zq CJ 0 ([.sc (.int .u64 0),.sc (.int .u64 0),.sc (.int .u64 0),.sc (.int .u64 0),.sc (.int .u64 0),.sc (.int .u64 0),.sc (.int .u64 0),.sc (.int .u64 0),.sc (.int .u64 0),.sc (.int .u64 0),.sc (.int .u64 0),.sc (.int .u64 0),.sc (.int .u64 0),.sc (.int .u64 0),.sc (.int .u64 0),.sc (.int .u64 0),.sc (.int .u64 0),.sc (.int .u64 0)])) (Ad (CX xs) prog fu d):=by kernel_rfl
abbrev Ny:FuncId:=67
theorem SR {xs:FuncId->Option (List PV->Option A4)} (fu d:Nat)(a0:Int):Ad (CX xs) prog fu (d+1) Ny [.sc (.int .i64 a0)]=(fun (call:Ah)=>Bm (decide (a0<0)) (some (A4.mk [.sc (.bool true)] [])) (some (A4.mk [.sc (.bool (decide (a0>4)))] []))) (Ad (CX xs) prog fu d):=by kernel_rfl
abbrev Kq:FuncId:=68
theorem IV {xs:FuncId->Option (List PV->Option A4)} (fu d:Nat)(a0 a1:Int):Ad (CX xs) prog fu (d+1) Kq [.sc (.int .i64 a0),.sc (.int .i64 a1)]=(fun (call:Ah)=>Bm (decide (a0<0)) (some (A4.mk [.sc (.bool true)] [])) (Aw (decide (0<=a1))<|Aa (Jf .i64 1 a1) fun x1=>some (A4.mk [.sc (.bool (decide (a0>=x1)))] []))) (Ad (CX xs) prog fu d):=by kernel_rfl
abbrev Zg:FuncId:=92
noncomputable def I9 (fu:Nat)(call:Ah)(Bq:Nat)(a0:List PV)(nn y0:Nat)(y1:List PV)(y2:Nat)(y3 y4:Int)(y5:List PV):Option A4:=Dd CB prog fu call 92 Tryz.f92 (B9 Tryz.f92) [.lst false 1 Bq a0] [.r,.r,.l,.r,.l] nn ⟨lk [(0,(.lst false 1 y0 y1)),(3,(.view 3 1 0 y2)),(12,(.sc (.int .i64 y3))),(13,(.sc (.int .i64 y4)))],B7 [(3,(.ar false y5))]⟩
noncomputable def Ln (fu:Nat)(call:Ah)(Bq:Nat)(a0:List PV)(m0 nn y0:Nat)(y1:List PV)(y2:Nat)(y3 y4 y5:Int)(y6:Nat)(y7:List PV)(y8 y9:Int)(y10:List PV):Option A4:=Dd CB prog fu call 92 Tryz.f92 (B9 Tryz.f92) [.lst false 1 Bq a0] [.r,.r,.l,.r,.l,.i m0,.r,.r,.l,.l,.r,.r,.l] nn ⟨lk [(0,(.lst false 1 y0 y1)),(3,(.view 3 1 0 y2)),(4,(.sc (.int .i64 y3))),(12,(.sc (.int .i64 y4))),(13,(.sc (.int .i64 y5))),(22,(.lst false 1 y6 y7)),(23,(.sc (.int .i64 y8))),(24,(.sc (.int .i64 y9)))],B7 [(3,(.ar false y10))]⟩
theorem Tm (fu:Nat)(call:Ah)(Bq:Nat)(a0:List PV)(nn y0:Nat)(y1:List PV)(y2:Nat)(y3 y4:Int)(y5:List PV):I9 fu call Bq a0 (nn+1) y0 y1 y2 y3 y4 y5=(Bm (decide (y4<y3)) (Aa (wrap .i64 (8*y4)) fun x2=>Aa (wrap .i64 (8*y4)) fun x3=>Aa (wrap .i64 (x3+8)) fun x4=>Aw (decide (0<=x2))<|Aw (decide (0<=x4))<|Aw (decide (Int.toNat x2<=Int.toNat x4)&&decide (Int.toNat x4<=y0))<|Aa (Int.toNat x4-Int.toNat x2) fun x5=>Aa (List.take (x5*1) (List.drop (Int.toNat x2*1) y1)) fun x6=>Ln fu call Bq a0 nn (fu) (y0) (y1) (y2) (y4) (y3) (y4) x5 x6 ((↑x5:Int)) 0 (y5)) (Aw (decide (y2*1<=y5.length))<|some (A4.mk [.own 1 y2 (List.take (y2*1) y5)] []))):=by kernel_rfl
theorem S8 (fu:Nat)(call:Ah)(Bq:Nat)(a0:List PV)(m0 nn y0:Nat)(y1:List PV)(y2:Nat)(y3 y4 y5:Int)(y6:Nat)(y7:List PV)(y8 y9:Int)(y10:List PV):Ln fu call Bq a0 m0 (nn+1) y0 y1 y2 y3 y4 y5 y6 y7 y8 y9 y10=(Bm (decide (y9<y8)) (Aw (decide (0<=y9)&&decide (y9<(↑y6:Int)))<|Ae .u8 (List.getD y7 (Int.toNat y9*1) .top) fun x7=>Aw (decide (0<=y3)&&decide (y3<(↑y2:Int)))<|Ae .u64 (List.getD y10 (0+Int.toNat y3*1) .top) fun x8=>Aa (Jf .u64 x8 8) fun x9=>Aa (wrap .u64 x7) fun Cy=>Aa (ior .u64 x9 Cy) fun C4=>Aw (decide (0<=y3)&&decide (y3<(↑y2:Int)))<|Aw (decide (0+Int.toNat y3*1+1<=y10.length))<|Aa (B4 y10 [.sc (.int .u64 C4)] (0+Int.toNat y3*1)) fun D1=>Aa (wrap .i64 (y9+1)) fun Ed=>Ln fu call Bq a0 m0 (nn) (y0) (y1) (y2) (y3) (y4) (y5) (y6) (y7) (y8) Ed D1) (Aa (wrap .i64 (y5+1)) fun Dn=>I9 fu call Bq a0 (m0) (y0) (y1) (y2) (y4) Dn (y10))):=by kernel_rfl
theorem QZ {xs:FuncId->Option (List PV->Option A4)} (fu d Bq:Nat)(a0:List PV):Ad (CX xs) prog fu (d+1) Zg [.lst false 1 Bq a0]=(fun (call:Ah)=>Aa (wrap .i64 (Int.tdiv (↑Bq:Int) 8)) fun x1=>Aw (decide (0<=x1)&&decide (x1<=x1)&&decide (x1*8<=1099511627776)&&decide (x1<=1099511627776))<|I9 fu call Bq a0 (fu) (Bq) (a0) x1.toNat ((↑x1.toNat:Int)) 0 (Wr x1.toNat [.sc (.int .u64 0)])) (Ad (CX xs) prog fu d):=by kernel_rfl
abbrev Pj:FuncId:=76
theorem NU {xs:FuncId->Option (List PV->Option A4)} (fu d:Nat)(a0 a1 a2:Int):Ad (CX xs) prog fu (d+1) Pj [.sc (.int .i64 a0),.sc (.int .u64 a1),.sc (.int .u64 a2)]=(fun (call:Ah)=>Aa (wrap .u64 a0) fun x1=>Aj (call 86 [.lst false 1 3 [.sc (.int .u64 x1),.sc (.int .u64 a1),.sc (.int .u64 a2)]]) fun x2 x3=>Ac x3<|Ab x2 fun x4 x5=>F5 1 x4 fun x6 x7=>Ac x5<|Aw (decide (0+x6*1<=x7.length))<|Aj (call 66 [.sc (.int .i64 3),.lst false 1 x6 (List.take (x6*1) (List.drop 0 x7))]) fun x8 x9=>Ac x9<|Ab x8 fun Cy C4=>Ae .u64 Cy fun D1=>Ac C4<|some (A4.mk [.sc (.int .u64 D1)] [])) (Ad (CX xs) prog fu d):=by kernel_rfl
abbrev Rw:FuncId:=129
theorem EH {xs:FuncId->Option (List PV->Option A4)} (fu d:Nat)(Ag Ai:Int):Ad (CX xs) prog fu (d+1) Rw [.agg [.sc (.int .i64 Ag),.sc (.int .u64 Ai)]]=(fun (call:Ah)=>Aj (call 67 [.sc (.int .i64 Ag)]) fun x1 x2=>Ac x2<|Ab x1 fun x3 x4=>B3 x3 fun x5=>Ac x4<|Bm x5 (some (A4.mk [.own 1 0 [],.sc (.int .i64 9)] [])) (Aa (wrap .u8 Ag) fun x6=>Aj (call 86 [.lst false 1 1 [.sc (.int .u64 Ai)]]) fun x7 x8=>Ac x8<|Ab x7 fun x9 Cy=>F5 1 x9 fun C4 D1=>Ac Cy<|Aw (decide (0+C4*1<=D1.length))<|Aw (decide (List.length (List.take (C4*1) (List.drop 0 D1))=C4*1)&&decide ((1+C4)*1<=1099511627776)&&decide (1+C4<=1099511627776))<|Aa (1+C4) fun Ed=>Aa ([.sc (.int .u8 x6)]++List.take (C4*1) (List.drop 0 D1)) fun Dn=>Aw (decide (Ed*1<=Dn.length))<|some (A4.mk [.own 1 Ed (List.take (Ed*1) Dn),.sc (.int .i64 0)] []))) (Ad (CX xs) prog fu d):=by kernel_rfl
abbrev R1:FuncId:=125
theorem EL {xs:FuncId->Option (List PV->Option A4)} (fu d Bq:Nat)(a0:List PV):Ad (CX xs) prog fu (d+1) R1 [.lst false 1 Bq a0]=(fun (call:Ah)=>Bm ((↑Bq:Int) != 9) (some (A4.mk [.agg [.sc (.int .i64 0),.sc (.int .u64 0)],.sc (.int .i64 2)] [])) (Aw (decide (0<(↑Bq:Int)))<|Ae .u8 (List.getD a0 0 .top) fun x1=>Aa (wrap .i64 x1) fun x2=>Aj (call 67 [.sc (.int .i64 x2)]) fun x3 x4=>Ac x4<|Ab x3 fun x5 x6=>B3 x5 fun x7=>Ac x6<|Bm x7 (some (A4.mk [.agg [.sc (.int .i64 0),.sc (.int .u64 0)],.sc (.int .i64 2)] [])) (Aw (decide (0<(↑Bq:Int)))<|Ae .u8 (List.getD a0 0 .top) fun x8=>Aa (wrap .i64 x8) fun x9=>Aw (decide (1<=Bq)&&decide (Bq<=Bq))<|Aa (Bq-1) fun Cy=>Aa (List.take (Cy*1) (List.drop 1 a0)) fun C4=>Aj (call 92 [.lst false 1 Cy C4]) fun D1 Ed=>Ac Ed<|Ab D1 fun Dn Eg=>F5 1 Dn fun Ez Fq=>Ac Eg<|Aw (decide (0<(↑Ez:Int)))<|Ae .u64 (List.getD Fq 0 .top) fun F9=>some (A4.mk [.agg [.sc (.int .i64 x9),.sc (.int .u64 F9)],.sc (.int .i64 0)] [])))) (Ad (CX xs) prog fu d):=by kernel_rfl
abbrev Ly:FuncId:=46
theorem Uh {xs:FuncId->Option (List PV->Option A4)} (fu d:Nat)(Ag:Int)(Br:Nat)(Ai:List PV)(Bf:Nat)(Ay:List PV):Ad (CX xs) prog fu (d+1) Ly [.agg [.sc (.int .i64 Ag),.lst false 1 Br Ai,.lst false 1 Bf Ay]]=(fun (call:Ah)=>Aj (call 67 [.sc (.int .i64 (↑Bf:Int))]) fun x1 x2=>Ac x2<|Ab x1 fun x3 x4=>B3 x3 fun x5=>Ac x4<|Bm x5 (some (A4.mk [.own 1 0 [],.sc (.int .i64 9)] [])) (Aj (call 68 [.sc (.int .i64 Ag),.sc (.int .i64 (↑Bf:Int))]) fun x6 x7=>Ac x7<|Ab x6 fun x8 x9=>B3 x8 fun Cy=>Ac x9<|Bm Cy (some (A4.mk [.own 1 0 [],.sc (.int .i64 9)] [])) (Bm ((↑Br:Int) != 18) (some (A4.mk [.own 1 0 [],.sc (.int .i64 4)] [])) (Aa (wrap .u8 Ag) fun C4=>Aa (wrap .u8 (↑Bf:Int)) fun D1=>Aj (call 86 [.lst false 1 Br Ai]) fun Ed Dn=>Ac Dn<|Ab Ed fun Eg Ez=>F5 1 Eg fun Fq F9=>Ac Ez<|Aw (decide (0+Fq*1<=F9.length))<|Aw (decide (List.length (List.take (Fq*1) (List.drop 0 F9))=Fq*1)&&decide ((2+Fq)*1<=1099511627776)&&decide (2+Fq<=1099511627776))<|Aa (2+Fq) fun Fp=>Aa ([.sc (.int .u8 C4),.sc (.int .u8 D1)]++List.take (Fq*1) (List.drop 0 F9)) fun F2=>Aj (call 86 [.lst false 1 Bf Ay]) fun Iw Hl=>Ac Hl<|Ab Iw fun H3 E5=>F5 1 H3 fun Ep G2=>Ac E5<|Aw (decide (0+Ep*1<=G2.length))<|Aw (decide (Fp*1<=F2.length)&&decide (List.length (List.take (Ep*1) (List.drop 0 G2))=Ep*1)&&decide ((Fp+Ep)*1<=1099511627776)&&decide (Fp+Ep<=1099511627776))<|Aa (Fp+Ep) fun I1=>Aa (List.take (Fp*1) F2++List.take (Ep*1) (List.drop 0 G2)) fun Gs=>Aw (decide (I1*1<=Gs.length))<|some (A4.mk [.own 1 I1 (List.take (I1*1) Gs),.sc (.int .i64 0)] []))))) (Ad (CX xs) prog fu d):=by kernel_rfl
abbrev Lw:FuncId:=49
theorem Um {xs:FuncId->Option (List PV->Option A4)} (fu d Bq:Nat)(a0:List PV):Ad (CX xs) prog fu (d+1) Lw [.lst false 1 Bq a0]=(fun (call:Ah)=>Bm (decide ((↑Bq:Int)<2)) (some (A4.mk [.agg [.sc (.int .i64 0),.own 1 0 [],.own 1 0 []],.sc (.int .i64 2)] [])) (Aw (decide (0<(↑Bq:Int)))<|Ae .u8 (List.getD a0 0 .top) fun x1=>Aa (wrap .i64 x1) fun x2=>Aw (decide (1<(↑Bq:Int)))<|Ae .u8 (List.getD a0 1 .top) fun x3=>Aa (wrap .i64 x3) fun x4=>Aj (call 67 [.sc (.int .i64 x4)]) fun x5 x6=>Ac x6<|Ab x5 fun x7 x8=>B3 x7 fun x9=>Ac x8<|Bm x9 (some (A4.mk [.agg [.sc (.int .i64 0),.own 1 0 [],.own 1 0 []],.sc (.int .i64 2)] [])) (Aj (call 68 [.sc (.int .i64 x2),.sc (.int .i64 x4)]) fun Cy C4=>Ac C4<|Ab Cy fun D1 Ed=>B3 D1 fun Dn=>Ac Ed<|Bm Dn (some (A4.mk [.agg [.sc (.int .i64 0),.own 1 0 [],.own 1 0 []],.sc (.int .i64 2)] [])) (Aa (wrap .i64 (18+x4)) fun Eg=>Aa (wrap .i64 (8*Eg)) fun Ez=>Aa (wrap .i64 (2+Ez)) fun Fq=>Bm ((↑Bq:Int) != Fq) (some (A4.mk [.agg [.sc (.int .i64 0),.own 1 0 [],.own 1 0 []],.sc (.int .i64 2)] [])) (Aw (decide (146<=Bq))<|Aa (List.take 144 (List.drop 2 a0)) fun F9=>Aj (call 92 [.lst false 1 144 F9]) fun Fp F2=>Ac F2<|Ab Fp fun Iw Hl=>F5 1 Iw fun H3 E5=>Ac Hl<|Aw (decide (146<=Bq)&&decide (Bq<=Bq))<|Aa (Bq-146) fun Ep=>Aa (List.take (Ep*1) (List.drop 146 a0)) fun G2=>Aj (call 92 [.lst false 1 Ep G2]) fun I1 Gs=>Ac Gs<|Ab I1 fun Ml L5=>F5 1 Ml fun J6 Le=>Ac L5<|Aw (decide (H3*1<=E5.length))<|Aw (decide (J6*1<=Le.length))<|some (A4.mk [.agg [.sc (.int .i64 x2),.own 1 H3 (List.take (H3*1) E5),.own 1 J6 (List.take (J6*1) Le)],.sc (.int .i64 0)] [])))))) (Ad (CX xs) prog fu d):=by kernel_rfl
abbrev Wn:FuncId:=40
noncomputable def Ii (fu:Nat)(call:Ah)(Ag Ai:Int)(a1 JH:Int)(BK:Nat)(ML:List PV)(Zi:Nat)(YX:List PV)(nn:Nat)(y0:Int)(y1:Nat)(y2:List PV)(y3 y4:Int)(y5 y6 y7:Int)(y8:Nat)(y9:List PV)(y10:Nat)(Er:List PV):Option A4:=Dd CB prog fu call 40 Tryz.f40 (B9 Tryz.f40) [.agg [.sc (.int .i64 Ag),.sc (.int .u64 Ai)],.sc (.int .u64 a1),.agg [.sc (.int .i64 JH),.lst false 1 BK ML,.lst false 1 Zi YX]] [.r,.r,.r,.r,.r,.l,.r,.l] nn ⟨lk [(3,(.ptr 3 0)),(5,(.ptr 5 0)),(7,(.sc (.int .u64 y0))),(46,(.lst false 1 y1 y2)),(47,(.sc (.int .i64 y3))),(48,(.sc (.int .i64 y4)))],B7 [(3,(.st [(.sc (.int .i64 y5)),(.sc (.int .u64 y6))])),(5,(.st [(.sc (.int .i64 y7)),(.lst false 1 y8 y9),(.lst false 1 y10 Er)]))]⟩
theorem Rs (fu:Nat)(call:Ah)(Ag Ai:Int)(a1 JH:Int)(BK:Nat)(ML:List PV)(Zi:Nat)(YX:List PV)(nn:Nat)(y0:Int)(y1:Nat)(y2:List PV)(y3 y4:Int)(y5 y6 y7:Int)(y8:Nat)(y9:List PV)(y10:Nat)(Er:List PV):Ii fu call Ag Ai a1 JH BK ML Zi YX (nn+1) y0 y1 y2 y3 y4 y5 y6 y7 y8 y9 y10 Er=(Bm (decide (y4<y3)) (Aw (decide (0<=y4)&&decide (y4<(↑y1:Int)))<|Ae .u64 (List.getD y2 (Int.toNat y4*1) .top) fun Fp=>Aw (decide (0<=y4))<|Aa (Ft .i64 y7 y4) fun F2=>Aa (Wo .i64 F2 1) fun Iw=>Bm (Iw==0) (Aa (wrap .i64 (y4+1)) fun Hl=>Aj (call 76 [.sc (.int .i64 Hl),.sc (.int .u64 y0),.sc (.int .u64 Fp)]) fun H3 E5=>Ac E5<|Ab H3 fun Ep G2=>Ae .u64 Ep fun I1=>Ac G2<|Aa (wrap .i64 (y4+1)) fun Gs=>Ii fu call Ag Ai a1 JH BK ML Zi YX (nn) I1 (y1) (y2) (y3) Gs (y5) (y6) (y7) (y8) (y9) (y10) (Er)) (Aa (wrap .i64 (y4+1)) fun Ml=>Aj (call 76 [.sc (.int .i64 Ml),.sc (.int .u64 Fp),.sc (.int .u64 y0)]) fun L5 J6=>Ac J6<|Ab L5 fun Le Mc=>Ae .u64 Le fun Nh=>Ac Mc<|Aa (wrap .i64 (y4+1)) fun Nw=>Ii fu call Ag Ai a1 JH BK ML Zi YX (nn) Nh (y1) (y2) (y3) Nw (y5) (y6) (y7) (y8) (y9) (y10) (Er))) (Bm (y0 != y6) (some (A4.mk [.sc (.int .i64 15)] [])) (some (A4.mk [.sc (.int .i64 0)] [])))):=by kernel_rfl
theorem MX {xs:FuncId->Option (List PV->Option A4)} (fu d:Nat)(Ag Ai:Int)(a1 JH:Int)(BK:Nat)(ML:List PV)(Zi:Nat)(YX:List PV):Ad (CX xs) prog fu (d+1) Wn [.agg [.sc (.int .i64 Ag),.sc (.int .u64 Ai)],.sc (.int .u64 a1),.agg [.sc (.int .i64 JH),.lst false 1 BK ML,.lst false 1 Zi YX]]=(fun (call:Ah)=>Aj (call 67 [.sc (.int .i64 Ag)]) fun x1 x2=>Ac x2<|Ab x1 fun x3 x4=>B3 x3 fun x5=>Ac x4<|Bm x5 (some (A4.mk [.sc (.int .i64 9)] [])) (Aj (call 68 [.sc (.int .i64 JH),.sc (.int .i64 Ag)]) fun x6 x7=>Ac x7<|Ab x6 fun x8 x9=>B3 x8 fun Cy=>Ac x9<|Bm Cy (some (A4.mk [.sc (.int .i64 9)] [])) (Bm ((↑BK:Int) != 18) (some (A4.mk [.sc (.int .i64 4)] [])) (Bm ((↑Zi:Int) != Ag) (some (A4.mk [.sc (.int .i64 4)] [])) (Aj (call 75 [.sc (.int .i64 JH),.sc (.int .u64 a1),.lst false 1 BK ML]) fun C4 D1=>Ac D1<|Ab C4 fun Ed Dn=>Ae .u64 Ed fun Eg=>Ab Dn fun Ez Fq=>Ae .i64 Ez fun F9=>Ac Fq<|Bm (F9 != 0) (some (A4.mk [.sc (.int .i64 F9)] [])) (Ii fu call Ag Ai a1 JH BK ML Zi YX (fu) Eg (Zi) (YX) ((↑Zi:Int)) 0 (Ag) (Ai) (JH) (BK) (ML) (Zi) (YX))))))) (Ad (CX xs) prog fu d):=by kernel_rfl
end
section
open Go.IntKind (wrap)
theorem A3y {a m:Int}(h0:0<=m)(h1:m<=18446744073709551615):0<=Wo .u64 a m∧Wo .u64 a m<=m:=by
 have EU:(BitVec.ofInt 64 a &&& BitVec.ofInt 64 m).toNat<=m.toNat:=by
  rw[BitVec.toNat_and];refine Nat.le_trans Nat.and_le_right ?_;rw[BitVec.toNat_ofInt];omega
 have:Wo .u64 a m=((BitVec.ofInt 64 a &&& BitVec.ofInt 64 m).toNat:Int):=by
  unfold Wo;exact C3 (by omega) (by show ((BitVec.ofInt 64 a &&& BitVec.ofInt 64 m).toNat:Int)<=_;omega)
 rw[this];omega
theorem Oe (k:IntKind)(l:List Int)(i:Nat)(x:Int):(Af k l).set i (.sc (.int k x))=Af k (l.set i x):=by
 induction l generalizing i with
 |nil=>rfl
 |cons a l ih=>
  cases i with
  |zero=>rfl
  |succ i=>
   show (PV.sc (.int k a)::Af k l).set (i+1) _=PV.sc (.int k a)::Af k (l.set i x);rw[List.set_cons_succ,ih]
theorem Agq (w:Int)(k:Nat):0<=Eb w k∧Eb w k<=255:=by
 unfold Eb;simp only[wrap,IntKind.signed,IntKind.bits];simp;omega
theorem Al0 (w:Int):M3 (Fh w):=by
 intro x hx;obtain⟨k,_,rfl⟩:=List.mem_map.1 hx;exact Agq w k
theorem Xo (ws:List Int):M3 (A6 ws):=by
 intro x hx;obtain⟨w,_,hx⟩:=List.mem_flatMap.1 hx;exact Al0 w x hx
theorem Dq (ws:List Int):(A6 ws).length=8*ws.length:=by
 induction ws with
 |nil=>rfl
 |cons w ws ih=>
  show (Fh w++A6 ws).length=_;rw[Hi,ih,G3,H5];omega
def Iz (m:Int)(k:Nat):Int:=wrap .i64 (Wo .u64 (Ft .u64 m (60-4*(k:Int))) 15)
theorem Vm (m:Int)(k:Nat):0<=Iz m k∧Iz m k<=15:=by
 have:=A3y (a:=Ft .u64 m (60-4*(k:Int))) (m:=15) (by omega) (by omega)
 unfold Iz;rw[Ap (by omega) (by omega)]
 exact this
def Ms (m:Int):Nat->Int
 |0=>0
 |k+1=>Ms m k+(15-Iz m k)
theorem Ng (m:Int):∀k,0<=Ms m k∧Ms m k<=15*k
 |0=>by simp[Ms]
 |k+1=>by
  have h1:=Ng m k;have h2:=Vm m k;simp only[Ms];omega
def dgs (m:Int):List Int:=(List.range 16).map (Iz m)++[Ms m 16 / 16,Ms m 16 % 16]
def dg (m:Int)(k:Nat):Int:=(dgs m).getD k 0
theorem Al1 (m:Int):(dgs m).length=18:=rfl
theorem Axn {m x:Int}(h:x∈dgs m):0<=x∧x<=15:=by
 have hs:=Ng m 16;unfold dgs at h;rcases List.mem_append.1 h with h|h
 ·obtain⟨k,_,rfl⟩:=List.mem_map.1 h;exact Vm m k
 ·simp at h;rcases h with rfl|rfl<;>omega
theorem EB (m:Int)(k:Nat):0<=dg m k∧dg m k<=15:=by
 unfold dg;rw[List.getD_eq_getElem?_getD];cases h:(dgs m)[k]? with
 |none=>simp
 |some x=>exact Axn (List.mem_of_getElem? h)
def dl (m:Int)(i:Nat):List Int:=(List.range i).map (Iz m)++List.replicate (18-i) 0
theorem Aie (m:Int){i:Nat}(h:i<=18):(dl m i).length=18:=by simp[dl];omega
theorem A6w (m:Int){i:Nat}(h:i<18):(dl m (i+1))[i]?=some (Iz m i):=by
 unfold dl;rw[List.getElem?_append_left (by simp)]
 simp
theorem A3d (m:Int){i:Nat}(h:i<18):(dl m i).set i (Iz m i)=dl m (i+1):=by
 unfold dl;rw[List.set_append_right _ _ (by simp),List.length_map,List.length_range,Nat.sub_self,show 18-i=(18-(i+1))+1 by omega,List.replicate_succ,List.set_cons_zero,List.range_succ,List.map_append,QV]
 rfl
def Vy (leaf chain:Int):Nat->Int->Int->Int
 |0,_,x=>x
 |k+1,p,x=>Vy leaf chain k (p+1) (Rm 1 (A6 [wrap .u64 leaf,wrap .u64 chain,wrap .u64 p,x]))
theorem Aej (leaf chain:Int):∀(k j:Nat)(p x:Int),Vy leaf chain (k+j) p x=Vy leaf chain j (p+k) (Vy leaf chain k p x)
 |0,j,p,x=>by simp[Vy]
 |k+1,j,p,x=>by
  rw[show k+1+j=(k+j)+1 by omega]
  simp only[Vy];rw[Aej leaf chain k j]
  congr 1
  omega
def FV (leaf:Int)(E:List Int):Int:=Rm 2 (A6 (wrap .u64 leaf::E))
def Aje (leaf m:Int)(s:List Int)(k:Nat):Int:=Vy leaf k (15-dg m k).toNat (dg m k) (s.getD k 0)
def VW (leaf m:Int)(s:List Int):List Int:=(List.range 18).map (Aje leaf m s)
def An1 (leaf m:Int)(s:List Int):Int:=FV leaf (VW leaf m s)
def el (leaf m:Int)(s:List Int)(i:Nat):List Int:=(List.range i).map (Aje leaf m s)++List.replicate (18-i) 0
theorem Ar0 (leaf m:Int)(s:List Int){i:Nat}(h:i<=18):(el leaf m s i).length=18:=by simp[el];omega
theorem A46 (leaf m:Int)(s:List Int){i:Nat}(h:i<18):(el leaf m s i).set i (Aje leaf m s i)=el leaf m s (i+1):=by
 unfold el;rw[List.set_append_right _ _ (by simp),List.length_map,List.length_range,Nat.sub_self,show 18-i=(18-(i+1))+1 by omega,List.replicate_succ,List.set_cons_zero,List.range_succ,List.map_append,QV]
 rfl
theorem A8l (leaf m:Int)(s:List Int):el leaf m s 18=VW leaf m s:=by
 unfold el VW;simp
end
section
open Go.Proofs.Tryz (prog)
open Go.IntKind (wrap)
set_option maxRecDepth 20000
section
variable {fu d:Nat} {xs:FuncId->Option (List PV->Option A4)}
theorem As9 {ws:List Int}(hl:ws.length<=100)(B5:1000<=fu)(dom:Int):Ad (CX xs) prog fu (d+5) V2 [.sc (.int .i64 dom),.lst false 1 (A6 ws).length (Af .u8 (A6 ws))]=some ⟨[.sc (.int .u64 (Rm dom (A6 ws)))],[]⟩:=
 Amt (Xo ws) (by rw[Dq];omega) (by omega) (by rw[Dq];omega) dom
theorem Aep {leaf chain:Int}{a0 a1 a2 a3 a4:Int}(B5:1000<=fu){t:Int}(ht:t<=15):∀(k nn:Nat)(p x:Int),(k:Int)=t-p->0<=p->k<nn ->
  Og fu (Ad (CX xs) prog fu (d+5)) a0 a1 a2 a3 a4 nn leaf chain x t p=some ⟨[.sc (.int .u64 (Vy leaf chain k p x))],[]⟩
 |_,0,_,_,_,_,h=>by omega
 |0,nn+1,p,x,hk,hp,hn=>by
  rw[Wq,Eh _ _ _ (by omega)]
  rfl
 |k+1,nn+1,p,x,hk,hp,hn=>by
  have w:wrap .i64 (p+1)=p+1:=Ap (by omega) (by omega)
  have wd:Ad (CX xs) prog fu (d+5) Hm [.lst false 1 4 [.sc (.int .u64 (wrap .u64 leaf)),.sc (.int .u64 (wrap .u64 chain)),.sc (.int .u64 (wrap .u64 p)),.sc (.int .u64 x)]]=_:=Uf (ws:=[wrap .u64 leaf,wrap .u64 chain,wrap .u64 p,x]) (by simp) (by omega) (by simp;omega)
  have hs:=As9 (xs:=xs) (fu:=fu) (d:=d) (ws:=[wrap .u64 leaf,wrap .u64 chain,wrap .u64 p,x]) (by simp) B5 1
  have ih:=Aep (leaf:=leaf) (chain:=chain) (a0:=a0) (a1:=a1) (a2:=a2) (a3:=a3) (a4:=a4) B5 ht k nn (p+1) (Rm 1 (A6 [wrap .u64 leaf,wrap .u64 chain,wrap .u64 p,x])) (by omega) (by omega) (by omega)
  have L:=Aq .u8 (A6 [wrap .u64 leaf,wrap .u64 chain,wrap .u64 p,x]);have eR:Vy leaf chain (k+1) p x=Vy leaf chain k (p+1) (Rm 1 (A6 [wrap .u64 leaf,wrap .u64 chain,wrap .u64 p,x])):=rfl;rw[eR];generalize A6 [wrap .u64 leaf,wrap .u64 chain,wrap .u64 p,x]=W at wd hs ih L ⊢;rw[Wq];simp (disch:=omega) only[Cd,wd,Dr,Cv,Dt,Nv,L,hs,w];exact ih
theorem Akv {leaf chain:Int}(B5:1000<=fu)(k:Nat)(f t x:Int)(hk:(k:Int)=t-f) (h0:0<=f)(h1:t<=15):Ad (CX xs) prog fu (d+6) FQ [.sc (.int .i64 leaf),.sc (.int .i64 chain),.sc (.int .i64 f),.sc (.int .i64 t),.sc (.int .u64 x)]=some ⟨[.sc (.int .u64 (Vy leaf chain k f x))],[]⟩:=by
 rw[ZB];simp only[Jy];rw[Bp (by omega),Bp (by omega)]
 exact Aep B5 h1 k fu f x hk h0 (by omega)
theorem PW {call:Ah}{a0 m:Int}{y3:List PV}:∀(k i nn:Nat),i+k=16->k<nn ->
  Ib fu call a0 nn m (Ms m i) i y3 (Af .i64 (dl m i))=Ib fu call a0 (nn-k) m (Ms m 16) 16 y3 (Af .i64 (dl m 16))
 |_,_,0,_,h=>by omega
 |0,i,nn+1,hi,hn=>by
  have e:i=16:=by omega
  subst e;rfl
 |k+1,i,nn+1,hi,hn=>by
  have ih:=PW (call:=call) (a0:=a0) (y3:=y3) (m:=m) k (i+1) nn (by omega) (by omega)
  have hb:=Vm m i;have hs:=Ng m i;have w:wrap .i64 ((i:Int)+1)=((i+1:Nat):Int):=by rw[Ap (by omega) (by omega)];omega
  have w4:wrap .i64 (4*(i:Int))=4*(i:Int):=Ap (by omega) (by omega)
  have w60:wrap .i64 (60-4*(i:Int))=60-4*(i:Int):=Ap (by omega) (by omega)
  have hd:wrap .i64 (Wo .u64 (Ft .u64 m (60-4*(i:Int))) 15)=Iz m i:=rfl;have w15:wrap .i64 (15-Iz m i)=15-Iz m i:=Ap (by omega) (by omega)
  have ws:wrap .i64 (Ms m i+(15-Iz m i))=Ms m (i+1):=by rw[Ap (by omega) (by omega)];rfl
  have L:(Af .i64 (dl m i)).length=18:=by rw[Aq,Aie m (by omega)]
  have EE:B4 (Af .i64 (dl m i)) [.sc (.int .i64 (Iz m i))] i=Af .i64 (dl m (i+1)):=by
   rw[Hv (by omega),Oe,A3d m (by omega)]
  have hat:(Af .i64 (dl m (i+1))).getD i .top=.sc (.int .i64 (Iz m i)):=HL (A6w m (by omega))
  rw[show nn+1-(k+1)=nn-k by omega,←ih,Rp]
  simp (disch:=omega) only[Cd,Je,Dr,Cv,w,w4,w60,hd,L,EE,hat,w15,ws]
theorem ZK (B5:1000<=fu)(m:Int):Ad (CX xs) prog fu (d+1) Xp [.sc (.int .u64 m)]=some ⟨[.agg (Af .i64 (dgs m))],[]⟩:=by
 rw[MI];have lp:=PW (fu:=fu) (call:=Ad (CX xs) prog fu d) (a0:=m) (m:=m) (y3:=Af .i64 (List.replicate 18 0)) 16 0 fu (by omega) (by omega)
 obtain⟨f',hf'⟩:∃f',fu-16=f'+1:=⟨fu-17,by omega⟩
 rw[hf'] at lp;refine Eq.trans lp ?_;have hs:=Ng m 16
 have wq:wrap .i64 (Int.tdiv (Ms m 16) 16)=Ms m 16 / 16:=by
  rw[Int.tdiv_eq_ediv_of_nonneg (by omega),Ap (by omega) (by omega)]
 have wm:Int.tmod (Ms m 16) 16=Ms m 16 % 16:=Int.tmod_eq_emod_of_nonneg (by omega)
 have L:(Af .i64 (dl m 16)).length=18:=by rw[Aq,Aie m (by omega)]
 have h1:B4 (Af .i64 (dl m 16)) [.sc (.int .i64 (Ms m 16 / 16))] 16=Af .i64 ((dl m 16).set 16 (Ms m 16 / 16)):=by
  rw[Hv (by omega),Oe]
 have L2:(Af .i64 ((dl m 16).set 16 (Ms m 16 / 16))).length=18:=by rw[Aq,List.length_set,Aie m (by omega)]
 have h2:B4 (Af .i64 ((dl m 16).set 16 (Ms m 16 / 16))) [.sc (.int .i64 (Ms m 16 % 16))] 17=Af .i64 (dgs m):=by
  rw[Hv (by omega),Oe]
  rfl
 rw[Rp,Eh _ _ _ (by omega)]
 simp only[Jy,wq,wm,L,h1,L2,h2];generalize hq:Ms m 16 / 16=q at *
 generalize hr:Ms m 16 % 16=r at *
 have hD:Af .i64 (dgs m)=[.sc (.int .i64 (Iz m 0)),.sc (.int .i64 (Iz m 1)),.sc (.int .i64 (Iz m 2)),.sc (.int .i64 (Iz m 3)),.sc (.int .i64 (Iz m 4)),.sc (.int .i64 (Iz m 5)),.sc (.int .i64 (Iz m 6)),.sc (.int .i64 (Iz m 7)),.sc (.int .i64 (Iz m 8)),.sc (.int .i64 (Iz m 9)),.sc (.int .i64 (Iz m 10)),.sc (.int .i64 (Iz m 11)),.sc (.int .i64 (Iz m 12)),.sc (.int .i64 (Iz m 13)),.sc (.int .i64 (Iz m 14)),.sc (.int .i64 (Iz m 15)),.sc (.int .i64 q),.sc (.int .i64 r)]:=by
  unfold dgs;rw[hq,hr];rfl
 rw[hD];have A8u:(Af .i64 (List.replicate 18 0)).length=18:=rfl
 have hsp:∀c:List PV,c.length=18->B4 (Af .i64 (List.replicate 18 0)) c 0=c:=by
  intro c hc;unfold B4;rw[hc,List.drop_of_length_le (by rw[A8u];omega)]
  simp
 rw[FB (O6:=by omega)]
 simp only[Cd,List.getD_cons_zero,List.getD_cons_succ,A8u];rw[hsp _ rfl];simp (disch:=omega) only[Cd,EG,List.getD_cons_zero,List.getD_cons_succ]
theorem VS (B5:1000<=fu)(leaf:Int){E:List Int}(hE:E.length=18):Ad (CX xs) prog fu (d+6) Uu [.sc (.int .i64 leaf),.agg (Af .u64 E)]=some ⟨[.sc (.int .u64 (FV leaf E))],[]⟩:=by
 match E,hE with
 |[e0,e1,e2,e3,e4,e5,e6,e7,e8,e9,e10,e11,e12,e13,e14,e15,e16,e17],_=>
  have wd:Ad (CX xs) prog fu (d+5) Hm [.lst false 1 19 [.sc (.int .u64 (wrap .u64 leaf)),.sc (.int .u64 e0),.sc (.int .u64 e1),.sc (.int .u64 e2),.sc (.int .u64 e3),.sc (.int .u64 e4),.sc (.int .u64 e5),.sc (.int .u64 e6),.sc (.int .u64 e7),.sc (.int .u64 e8),.sc (.int .u64 e9),.sc (.int .u64 e10),.sc (.int .u64 e11),.sc (.int .u64 e12),.sc (.int .u64 e13),.sc (.int .u64 e14),.sc (.int .u64 e15),.sc (.int .u64 e16),.sc (.int .u64 e17)]]=_:=Uf (ws:=wrap .u64 leaf::[e0,e1,e2,e3,e4,e5,e6,e7,e8,e9,e10,e11,e12,e13,e14,e15,e16,e17]) (by simp) (by omega) (by simp;omega)
  have hs:=As9 (xs:=xs) (fu:=fu) (d:=d) (ws:=wrap .u64 leaf::[e0,e1,e2,e3,e4,e5,e6,e7,e8,e9,e10,e11,e12,e13,e14,e15,e16,e17]) (by simp) B5 2
  have L:=Aq .u8 (A6 (wrap .u64 leaf::[e0,e1,e2,e3,e4,e5,e6,e7,e8,e9,e10,e11,e12,e13,e14,e15,e16,e17]));have eR:FV leaf [e0,e1,e2,e3,e4,e5,e6,e7,e8,e9,e10,e11,e12,e13,e14,e15,e16,e17]=Rm 2 (A6 (wrap .u64 leaf::[e0,e1,e2,e3,e4,e5,e6,e7,e8,e9,e10,e11,e12,e13,e14,e15,e16,e17])):=rfl;rw[eR];generalize A6 (wrap .u64 leaf::[e0,e1,e2,e3,e4,e5,e6,e7,e8,e9,e10,e11,e12,e13,e14,e15,e16,e17])=W at wd hs L ⊢;refine (LH fu (d+5) leaf e0 e1 e2 e3 e4 e5 e6 e7 e8 e9 e10 e11 e12 e13 e14 e15 e16 e17).trans ?_;simp (disch:=omega) only[Cd,wd,Dr,Cv,Dt,Nv,L,hs]
theorem A09 (g:Nat->Int){i:Nat}(hi:i<18):List.getD [PV.sc (.int .i64 (g 0)),PV.sc (.int .i64 (g 1)),PV.sc (.int .i64 (g 2)),PV.sc (.int .i64 (g 3)),PV.sc (.int .i64 (g 4)),PV.sc (.int .i64 (g 5)),PV.sc (.int .i64 (g 6)),PV.sc (.int .i64 (g 7)),PV.sc (.int .i64 (g 8)),PV.sc (.int .i64 (g 9)),PV.sc (.int .i64 (g 10)),PV.sc (.int .i64 (g 11)),PV.sc (.int .i64 (g 12)),PV.sc (.int .i64 (g 13)),PV.sc (.int .i64 (g 14)),PV.sc (.int .i64 (g 15)),PV.sc (.int .i64 (g 16)),PV.sc (.int .i64 (g 17))] i PV.top=.sc (.int .i64 (g i)):=by
 have:((List.range 18).map g)[i]?=some (g i):=by simp[hi]
 exact HL (k:=.i64) this
theorem KI {a0 a1:Int}{Mf:Nat}{a2:List PV}{leaf m:Int}{s:List Int}(hs:s.length=18)(B5:1000<=fu)(g:Nat->Int)(hg:∀k,g k=dg m k):∀(k i nn:Nat),i+k=18->k<nn ->
  Gi fu (Ad (CX xs) prog fu (d+6)) a0 a1 Mf a2 nn leaf s.length (Af .u64 s) (g 0) (g 1) (g 2) (g 3) (g 4) (g 5) (g 6) (g 7) (g 8) (g 9) (g 10) (g 11) (g 12) (g 13) (g 14) (g 15) (g 16) (g 17) i (Af .u64 (el leaf m s i)) =
   Gi fu (Ad (CX xs) prog fu (d+6)) a0 a1 Mf a2 (nn-k) leaf s.length (Af .u64 s) (g 0) (g 1) (g 2) (g 3) (g 4) (g 5) (g 6) (g 7) (g 8) (g 9) (g 10) (g 11) (g 12) (g 13) (g 14) (g 15) (g 16) (g 17) 18 (Af .u64 (el leaf m s 18))
 |_,_,0,_,h=>by omega
 |0,i,nn+1,hi,hn=>by
  have e:i=18:=by omega
  subst e;rfl
 |k+1,i,nn+1,hi,hn=>by
  have ih:=KI (a0:=a0) (a1:=a1) (Mf:=Mf) (a2:=a2) (leaf:=leaf) (m:=m) hs B5 g hg k (i+1) nn (by omega) (by omega)
  obtain⟨x,hx⟩:∃x,s[i]?=some x:=⟨_,List.getElem?_eq_getElem (by omega)⟩
  have hb:=EB m i;have hgi:=A09 g (i:=i) (by omega)
  have w:wrap .i64 ((i:Int)+1)=((i+1:Nat):Int):=by rw[Ap (by omega) (by omega)];omega
  have rn:=Akv (xs:=xs) (fu:=fu) (d:=d) (leaf:=leaf) (chain:=i) B5 (15-dg m i).toNat (g i) 15 x (by rw[hg];omega) (by rw[hg];omega) (by omega)
  have ev:Vy leaf i (15-dg m i).toNat (g i) x=Aje leaf m s i:=by
   unfold Aje;rw[List.getD_eq_getElem?_getD,hx,hg];rfl
  rw[ev] at rn;have L:(Af .u64 (el leaf m s i)).length=18:=by rw[Aq,Ar0 leaf m s (by omega)]
  have EE:B4 (Af .u64 (el leaf m s i)) [.sc (.int .u64 (Aje leaf m s i))] i=Af .u64 (el leaf m s (i+1)):=by
   rw[Hv (by omega),Oe,A46 leaf m s (by omega)]
  rw[show nn+1-(k+1)=nn-k by omega,←ih,Qx]
  simp (disch:=omega) only[Cd,Je,Dr,Cv,hgi,HL hx,rn,L,EE,w]
theorem Ae9 (B5:1000<=fu){a0 a1 leaf:Int}{Mf n nn:Nat}{a2 c:List PV}{g:Nat->Int}{E:List Int}(hE:E.length=18):
  Gi fu (Ad (CX xs) prog fu (d+6)) a0 a1 Mf a2 (nn+1) leaf n c (g 0) (g 1) (g 2) (g 3) (g 4) (g 5) (g 6) (g 7) (g 8) (g 9) (g 10) (g 11) (g 12) (g 13) (g 14) (g 15) (g 16) (g 17) 18 (Af .u64 E)=some ⟨[.sc (.int .u64 (FV leaf E)),.sc (.int .i64 0)],[]⟩:=by
 match E,hE with
 |[e0,e1,e2,e3,e4,e5,e6,e7,e8,e9,e10,e11,e12,e13,e14,e15,e16,e17],hE=>
  have cb:=VS (xs:=xs) (fu:=fu) (d:=d) B5 leaf hE;have hc:Af .u64 [e0,e1,e2,e3,e4,e5,e6,e7,e8,e9,e10,e11,e12,e13,e14,e15,e16,e17]=[.sc (.int .u64 e0),.sc (.int .u64 e1),.sc (.int .u64 e2),.sc (.int .u64 e3),.sc (.int .u64 e4),.sc (.int .u64 e5),.sc (.int .u64 e6),.sc (.int .u64 e7),.sc (.int .u64 e8),.sc (.int .u64 e9),.sc (.int .u64 e10),.sc (.int .u64 e11),.sc (.int .u64 e12),.sc (.int .u64 e13),.sc (.int .u64 e14),.sc (.int .u64 e15),.sc (.int .u64 e16),.sc (.int .u64 e17)]:=rfl;rw[hc] at cb ⊢;generalize FV leaf [e0,e1,e2,e3,e4,e5,e6,e7,e8,e9,e10,e11,e12,e13,e14,e15,e16,e17]=R at cb ⊢;rw[Qx,Eh _ _ _ (by omega)]
  simp (disch:=omega) only[Cd,BD,CQ,List.getD_cons_zero,List.getD_cons_succ,cb]
theorem Ain (B5:1000<=fu)(leaf m:Int)(s:List Int):Ad (CX xs) prog fu (d+7) U6 [.sc (.int .i64 leaf),.sc (.int .u64 m),.lst false 1 s.length (Af .u64 s)]=some ⟨(if s.length=18 then [.sc (.int .u64 (An1 leaf m s)),.sc (.int .i64 0)] else [.sc (.int .u64 0),.sc (.int .i64 4)]),[]⟩:=by
 rw[IU];by_cases h:s.length=18
 ·have dq:=ZK (xs:=xs) (fu:=fu) (d:=d+5) B5 m;have hD:Af .i64 (dgs m)=[.sc (.int .i64 (dg m 0)),.sc (.int .i64 (dg m 1)),.sc (.int .i64 (dg m 2)),.sc (.int .i64 (dg m 3)),.sc (.int .i64 (dg m 4)),.sc (.int .i64 (dg m 5)),.sc (.int .i64 (dg m 6)),.sc (.int .i64 (dg m 7)),.sc (.int .i64 (dg m 8)),.sc (.int .i64 (dg m 9)),.sc (.int .i64 (dg m 10)),.sc (.int .i64 (dg m 11)),.sc (.int .i64 (dg m 12)),.sc (.int .i64 (dg m 13)),.sc (.int .i64 (dg m 14)),.sc (.int .i64 (dg m 15)),.sc (.int .i64 (dg m 16)),.sc (.int .i64 (dg m 17))]:=rfl;rw[hD] at dq;simp only[G7];rw[Co h,Co (by omega)]
  simp only[Cd,dq];have lp:=KI (xs:=xs) (fu:=fu) (d:=d) (a0:=leaf) (a1:=m) (Mf:=s.length) (a2:=Af .u64 s) (leaf:=leaf) (m:=m) h B5 (dg m) (fun _=>rfl) 18 0 fu (by omega) (by omega)
  obtain⟨f',hf'⟩:∃f',fu-18=f'+1:=⟨fu-19,by omega⟩
  rw[hf'] at lp;refine Eq.trans lp ?_;have eE:el leaf m s 18=VW leaf m s:=A8l leaf m s;have hl:(VW leaf m s).length=18:=by rw[←eE,Ar0 leaf m s (by omega)]
  have eR:An1 leaf m s=FV leaf (VW leaf m s):=rfl;rw[eE,eR];exact Ae9 B5 hl
 ·simp only[G7];rw[Bp h,Bp (by omega)]
end
end
section
open Go.Proofs.Tryz (prog)
open Go.IntKind (wrap)
structure Ky where
 h:Int
 root:Int
structure Sg where
 leaf:Int
 chains:List Int
 path:List Int
def Ky.cells (k:Ky):List PV:=[.sc (.int .i64 k.h),.sc (.int .u64 k.root)]
def Sg.cells (s:Sg):List PV:=[.sc (.int .i64 s.leaf),.lst false 1 s.chains.length (Af .u64 s.chains),.lst false 1 s.path.length (Af .u64 s.path)]
def D8 (h:Int):Bool:=decide (h<0)||decide (h>4)
def J1 (leaf h:Int):Bool:=decide (leaf<0)||decide (leaf>=Jf .i64 1 h)
def P9 (level a b:Int):Int:=Rm 3 (A6 [wrap .u64 level,a,b])
def HI (leaf:Int):Nat->Int->List Int->Int
 |_,x,[]=>x
 |i,x,s::r=>HI leaf (i+1) (if Wo .i64 (Ft .i64 leaf i) 1=0 then P9 ((i+1:Nat):Int) x s else P9 ((i+1:Nat):Int) s x) r
def okE (x root:Int):Int:=if x=root then 0 else 15
theorem Ajr (leaf:Int)(i:Nat)(x:Int):HI leaf i x []=x:=rfl
theorem QE (leaf:Int)(i:Nat)(x s:Int)(r:List Int):HI leaf i x (s::r)=HI leaf (i+1) (if Wo .i64 (Ft .i64 leaf i) 1=0 then P9 ((i+1:Nat):Int) x s else P9 ((i+1:Nat):Int) s x) r:=rfl
def Anw (k:Ky)(m:Int)(s:Sg):Int:=
 if D8 k.h=true then 9 else if J1 s.leaf k.h=true then 9 else if s.chains.length≠18 then 4 else if (s.path.length:Int)≠k.h then 4 else
 okE (HI s.leaf 0 (An1 s.leaf m s.chains) s.path) k.root
theorem Jo {h:Int}(hh:D8 h=false):0<=h∧h<=4:=by
 unfold D8 at hh;simp at hh;omega
section
variable {fu d:Nat} {xs:FuncId->Option (List PV->Option A4)}
theorem Yt (h:Int):Ad (CX xs) prog fu (d+1) Ny [.sc (.int .i64 h)]=some ⟨[.sc (.bool (D8 h))],[]⟩:=by
 rw[SR];unfold D8;by_cases h0:h<0
 ·simp only[Cd,MV,h0,decide_true,Bool.true_or,if_true]
 ·simp only[Cd,MV,h0,decide_false,Bool.false_or,if_false]
theorem Tn (leaf h:Int)(h0:0<=h):Ad (CX xs) prog fu (d+1) Kq [.sc (.int .i64 leaf),.sc (.int .i64 h)]=some ⟨[.sc (.bool (J1 leaf h))],[]⟩:=by
 rw[IV];unfold J1;by_cases hl:leaf<0
 ·simp only[Cd,MV,hl,decide_true,Bool.true_or,if_true]
 ·simp (disch:=omega) only[Cd,MV,hl,decide_false,Bool.false_or,if_false]
theorem NK (B5:1000<=fu)(level a b:Int):Ad (CX xs) prog fu (d+6) Pj [.sc (.int .i64 level),.sc (.int .u64 a),.sc (.int .u64 b)]=some ⟨[.sc (.int .u64 (P9 level a b))],[]⟩:=by
 have wd:Ad (CX xs) prog fu (d+5) Hm [.lst false 1 3 [.sc (.int .u64 (wrap .u64 level)),.sc (.int .u64 a),.sc (.int .u64 b)]]=_:=Uf (ws:=[wrap .u64 level,a,b]) (by simp) (by omega) (by simp;omega)
 have hs:=As9 (xs:=xs) (fu:=fu) (d:=d) (ws:=[wrap .u64 level,a,b]) (by simp) B5 3
 have L:=Aq .u8 (A6 [wrap .u64 level,a,b]);rw[NU];unfold P9;generalize A6 [wrap .u64 level,a,b]=W at wd hs L ⊢;simp (disch:=omega) only[Cd,wd,Dr,Cv,Dt,Nv,L,hs]
theorem OJ {a0 a1 a2 a3:Int}{n1 n2 n3 n4:Nat}{c1 c2 c3 c4:List PV}{y5 root leaf:Int}{path:List Int}(hp:path.length<=100)(B5:1000<=fu):∀(r:List Int)(i nn:Nat)(x:Int),path.drop i=r->r.length<nn->i<=path.length ->
  Ii fu (Ad (CX xs) prog fu (d+6)) a0 a1 a2 a3 n1 c1 n2 c2 nn x path.length (Af .u64 path) path.length i y5 root leaf n3 c3 n4 c4=some ⟨[.sc (.int .i64 (okE (HI leaf i x r) root))],[]⟩
 |_,_,0,_,_,h,_=>by omega
 |[],i,nn+1,x,h,hn,hi=>by
  have:=drop_nil h;rw[Rs,Eh _ _ _ (by omega),G7]
  rw[Ajr];unfold okE;by_cases e:x=root
  ·rw[Co e,Co e]
  ·rw[Bp e,Bp e]
 |s::r,i,nn+1,x,h,hn,hi=>by
  obtain⟨h1,h2,h3⟩:=Dk h;simp only[H5] at hn;have w:wrap .i64 ((i:Int)+1)=((i+1:Nat):Int):=by rw[Ap (by omega) (by omega)];omega
  have ih:=fun x=>OJ (a0:=a0) (a1:=a1) (a2:=a2) (a3:=a3) (n1:=n1) (n2:=n2) (n3:=n3) (n4:=n4) (c1:=c1) (c2:=c2) (c3:=c3) (c4:=c4) (y5:=y5) (root:=root) (leaf:=leaf) hp B5 r (i+1) nn x h3 (by omega) (by omega)
  have p1:=NK (xs:=xs) (fu:=fu) (d:=d) B5 ((i+1:Nat):Int) x s;have p2:=NK (xs:=xs) (fu:=fu) (d:=d) B5 ((i+1:Nat):Int) s x;rw[Rs,QE];by_cases hb:Wo .i64 (Ft .i64 leaf i) 1=0
  ·rw[Co hb,←ih];simp (disch:=omega) only[Cd,Je,Dr,HL h2,Hb,hb,w,p1,if_true]
  ·rw[Bp hb,←ih];simp (disch:=omega) only[Cd,Je,Dr,HL h2,Hb,hb,w,p2,if_false]
theorem Ant (B5:1000<=fu)(k:Ky)(m:Int)(s:Sg):Ad (CX xs) prog fu (d+8) Wn [.agg k.cells,.sc (.int .u64 m),.agg s.cells]=some ⟨[.sc (.int .i64 (Anw k m s))],[]⟩:=by
 refine (MX fu (d+7) k.h k.root m s.leaf s.chains.length (Af .u64 s.chains) s.path.length (Af .u64 s.path)).trans ?_;have h1:=Yt (xs:=xs) (fu:=fu) (d:=d+6) k.h;unfold Anw;cases c1:D8 k.h
 ·rw[c1] at h1;have hb:=Jo c1;have h2:=Tn (xs:=xs) (fu:=fu) (d:=d+6) s.leaf k.h hb.1;cases c2:J1 s.leaf k.h
  ·rw[c2] at h2;by_cases c3:s.chains.length=18
   ·by_cases c4:(s.path.length:Int)=k.h
    ·have rc:=Ain (xs:=xs) (fu:=fu) (d:=d) B5 s.leaf m s.chains;rw[Co c3] at rc;have vl:=OJ (xs:=xs) (fu:=fu) (d:=d+1) (a0:=k.h) (a1:=k.root) (a2:=m) (a3:=s.leaf) (n1:=s.chains.length) (n2:=s.path.length) (n3:=s.chains.length) (n4:=s.path.length) (c1:=Af .u64 s.chains) (c2:=Af .u64 s.path) (c3:=Af .u64 s.chains) (c4:=Af .u64 s.path) (y5:=k.h) (root:=k.root) (leaf:=s.leaf) (path:=s.path) (by omega) B5 s.path 0 fu (An1 s.leaf m s.chains) rfl (by omega) (by omega)
     rw[Bp (by simp),Bp (by simp),Bp (by omega),Bp (by omega),←vl]
     simp (disch:=omega) only[Cd,h1,h2,G7,rc,if_true,c4];rw[Co (by omega)]
     rfl
    ·rw[Bp (by simp),Bp (by simp),Bp (by omega),Co c4]
     simp (disch:=omega) only[Cd,h1,h2,G7,c4,if_false];rw[Co (by omega)]
   ·rw[Bp (by simp),Bp (by simp),Co c3]
    simp (disch:=omega) only[Cd,h1,h2,G7];rw[Bp (by omega)]
  ·rw[c2] at h2;rw[Bp (by simp),Co rfl]
   simp (disch:=omega) only[Cd,h1,h2]
 ·rw[c1] at h1;rw[Co rfl];simp (disch:=omega) only[Cd,h1]
def Jt (k:Ky):List Int:=wrap .u8 k.h::Fh k.root
def To (s:Sg):List Int:=wrap .u8 s.leaf::wrap .u8 s.path.length::(A6 s.chains++A6 s.path)
theorem owd (B5:1000<=fu)(w:Int):Ad (CX xs) prog fu (d+1) Hm [.lst false 1 1 [.sc (.int .u64 w)]]=some ⟨[.own 1 8 (Af .u8 (Fh w))],[]⟩:=by
 have:=Uf (xs:=xs) (fu:=fu) (d:=d) (ws:=[w]) (by simp) (by omega) (by simp;omega)
 simp only[A6,List.flatMap_cons,List.flatMap_nil,List.append_nil,H5,Ye,G3] at this;exact this
theorem Apx (B5:1000<=fu)(k:Ky):Ad (CX xs) prog fu (d+2) Rw [.agg k.cells]=some ⟨(if D8 k.h=true then [.own 1 0 [],.sc (.int .i64 9)] else [.own 1 9 (Af .u8 (Jt k)),.sc (.int .i64 0)]),[]⟩:=by
 refine (EH fu (d+1) k.h k.root).trans ?_;have h1:=Yt (xs:=xs) (fu:=fu) (d:=d) k.h;have wd:=owd (xs:=xs) (fu:=fu) (d:=d) B5 k.root;have L:=Aq .u8 (Fh k.root);rw[G3] at L;have t8:List.take 8 (Af .u8 (Fh k.root))=Af .u8 (Fh k.root):=Jq (by omega)
 have t9:List.take 9 ([PV.sc (.int .u8 (wrap .u8 k.h))]++Af .u8 (Fh k.root))=Af .u8 (Jt k):=by
  rw[Jq (by rw[Hi,L];simp)]
  rfl
 have L9:([PV.sc (.int .u8 (wrap .u8 k.h))]++Af .u8 (Fh k.root)).length=9:=by rw[Hi,L];rfl
 cases c1:D8 k.h
 ·rw[c1] at h1;rw[Bp (by simp)]
  simp (disch:=omega) only[Cd,h1,wd,Dr,Cv,Dt,L,t8,Nat.reduceAdd,L9,t9]
 ·rw[c1] at h1;rw[Co rfl];simp (disch:=omega) only[Cd,h1]
theorem Api (B5:1000<=fu)(s:Sg)(hp:s.path.length<=1000000000)(hf:s.path.length<fu):Ad (CX xs) prog fu (d+2) Ly [.agg s.cells]=some ⟨(if D8 s.path.length=true then [.own 1 0 [],.sc (.int .i64 9)] else if J1 s.leaf s.path.length=true then [.own 1 0 [],.sc (.int .i64 9)] else if s.chains.length≠18 then [.own 1 0 [],.sc (.int .i64 4)] else [.own 1 (To s).length (Af .u8 (To s)),.sc (.int .i64 0)]),[]⟩:=by
 refine (Uh fu (d+1) s.leaf s.chains.length (Af .u64 s.chains) s.path.length (Af .u64 s.path)).trans ?_;have h1:=Yt (xs:=xs) (fu:=fu) (d:=d) s.path.length;cases c1:D8 s.path.length
 ·rw[c1] at h1;have hb:=Jo c1;have h2:=Tn (xs:=xs) (fu:=fu) (d:=d) s.leaf s.path.length hb.1;cases c2:J1 s.leaf s.path.length
  ·rw[c2] at h2;by_cases c3:s.chains.length=18
   ·have w1:=Uf (xs:=xs) (fu:=fu) (d:=d) (ws:=s.chains) (by omega) (by omega) (by omega)
    have w2:=Uf (xs:=xs) (fu:=fu) (d:=d) (ws:=s.path) (by omega) (by omega) (by omega)
    have l1:=Dq s.chains;have l2:=Dq s.path;have L1:=Aq .u8 (A6 s.chains);have L2:=Aq .u8 (A6 s.path)
    have eB:Af .u8 (To s)=[PV.sc (.int .u8 (wrap .u8 s.leaf)),PV.sc (.int .u8 (wrap .u8 s.path.length))]++Af .u8 (A6 s.chains)++Af .u8 (A6 s.path):=by
     unfold To;simp
    have eL:(To s).length=2+(A6 s.chains).length+(A6 s.path).length:=by
     unfold To;simp;omega
    rw[Bp (by simp),Bp (by simp),Bp (by omega),eB,eL]
    have t2:List.take (2+(A6 s.chains).length) ([PV.sc (.int .u8 (wrap .u8 s.leaf)),PV.sc (.int .u8 (wrap .u8 s.path.length))]++Af .u8 (A6 s.chains))=[PV.sc (.int .u8 (wrap .u8 s.leaf)),PV.sc (.int .u8 (wrap .u8 s.path.length))]++Af .u8 (A6 s.chains):=Jq (by rw[Hi,L1];simp)
    have t3:List.take (2+(A6 s.chains).length+(A6 s.path).length) ([PV.sc (.int .u8 (wrap .u8 s.leaf)),PV.sc (.int .u8 (wrap .u8 s.path.length))]++Af .u8 (A6 s.chains)++Af .u8 (A6 s.path))=[PV.sc (.int .u8 (wrap .u8 s.leaf)),PV.sc (.int .u8 (wrap .u8 s.path.length))]++Af .u8 (A6 s.chains)++Af .u8 (A6 s.path):=Jq (by rw[Hi,Hi,L1,L2];simp)
    have k2:([PV.sc (.int .u8 (wrap .u8 s.leaf)),PV.sc (.int .u8 (wrap .u8 s.path.length))]++Af .u8 (A6 s.chains)).length=2+(A6 s.chains).length:=by rw[Hi,L1];rfl
    have k3:([PV.sc (.int .u8 (wrap .u8 s.leaf)),PV.sc (.int .u8 (wrap .u8 s.path.length))]++Af .u8 (A6 s.chains)++Af .u8 (A6 s.path)).length=2+(A6 s.chains).length+(A6 s.path).length:=by rw[Hi,k2,L2]
    simp (disch:=omega) only[Cd,h1,h2,G7,w1,w2,Dr,Cv,Dt,L1,L2,Nv,t2,t3,k2,k3];rw[Co (by omega)]
   ·rw[Bp (by simp),Bp (by simp),Co c3]
    simp (disch:=omega) only[Cd,h1,h2,G7];rw[Bp (by omega)]
  ·rw[c2] at h2;rw[Bp (by simp),Co rfl]
   simp (disch:=omega) only[Cd,h1,h2]
 ·rw[c1] at h1;rw[Co rfl];simp (disch:=omega) only[Cd,h1]
def Vv (l:List Int)(i:Nat):Int:=UV ((l.drop (8*i)).take 8)
def Hr (l:List Int):List Int:=(List.range (l.length / 8)).map (Vv l)
def wl (l:List Int)(i:Nat):List Int:=(List.range i).map (Vv l)++List.replicate (l.length / 8-i) 0
theorem Arr (l:List Int){i:Nat}(h:i<=l.length / 8):(wl l i).length=l.length / 8:=by simp[wl];omega
theorem A2m (l:List Int){i:Nat}(h:i<l.length / 8):(wl l i).set i (Vv l i)=wl l (i+1):=by
 unfold wl;rw[List.set_append_right _ _ (by simp),List.length_map,List.length_range,Nat.sub_self,show l.length / 8-i=(l.length / 8-(i+1))+1 by omega,List.replicate_succ,List.set_cons_zero,List.range_succ,List.map_append,QV]
 rfl
theorem Azo (l:List Int){i:Nat}(h:i<l.length / 8):(wl l i).set i 0=wl l i:=by
 unfold wl;rw[List.set_append_right _ _ (by simp),List.length_map,List.length_range,Nat.sub_self,show l.length / 8-i=(l.length / 8-(i+1))+1 by omega,List.replicate_succ,List.set_cons_zero]
theorem ZT {n m0:Nat}{c:List PV}{l:List Int}(hl:l.length<=1000000){i:Nat}(hi:i<l.length / 8){q:List Int}(hq:q.length<=8):∀(r:List Int)(j nn:Nat)(x:Int),q.drop j=r->r.length<nn->j<=q.length ->
  Ln fu (Ad (CX xs) prog fu d) n c m0 nn l.length (Af .u8 l) (l.length / 8) i ((l.length / 8:Nat):Int) i q.length (Af .u8 q) q.length j (Af .u64 ((wl l i).set i x)) =
   I9 fu (Ad (CX xs) prog fu d) n c m0 l.length (Af .u8 l) (l.length / 8) ((l.length / 8:Nat):Int) ((i+1:Nat):Int) (Af .u64 ((wl l i).set i (r.foldl Hj x)))
 |_,_,0,_,_,h,_=>by omega
 |[],j,nn+1,x,h,hn,hj=>by
  have:=drop_nil h;have w:wrap .i64 ((i:Int)+1)=((i+1:Nat):Int):=by rw[Ap (by omega) (by omega)];omega
  rw[S8,Eh _ _ _ (by omega)]
  simp only[Jy,w,List.foldl_nil]
 |b::r,j,nn+1,x,h,hn,hj=>by
  obtain⟨h1,h2,h3⟩:=Dk h;simp only[H5] at hn;have w:wrap .i64 ((j:Int)+1)=((j+1:Nat):Int):=by rw[Ap (by omega) (by omega)];omega
  have L:(Af .u64 ((wl l i).set i x)).length=l.length / 8:=by rw[Aq,List.length_set,Arr l (by omega)]
  have hat:(Af .u64 ((wl l i).set i x)).getD i .top=.sc (.int .u64 x):=HL (by rw[List.getElem?_set_self (by rw[Arr l (by omega)];omega)])
  have EE:B4 (Af .u64 ((wl l i).set i x)) [.sc (.int .u64 (Hj x b))] i=Af .u64 ((wl l i).set i (Hj x b)):=by
   rw[Hv (by omega),Oe,List.set_set]
  have ih:=ZT (n:=n) (m0:=m0) (c:=c) hl hi hq r (j+1) nn (Hj x b) h3 (by omega) (by omega)
  rw[List.foldl_cons,←ih,S8];simp (disch:=omega) only[Cd,Je,Dr,Cv,HL h2,hat,L,w];exact congrArg _ EE
theorem OQ {n:Nat}{c:List PV}{l:List Int}(hl:l.length<=1000000)(B5:100<=fu):∀(k i nn:Nat),i+k=l.length / 8->k<nn ->
  I9 fu (Ad (CX xs) prog fu d) n c nn l.length (Af .u8 l) (l.length / 8) ((l.length / 8:Nat):Int) i (Af .u64 (wl l i))=some ⟨[.own 1 (l.length / 8) (Af .u64 (Hr l))],[]⟩
 |_,_,0,_,h=>by omega
 |0,i,nn+1,hi,hn=>by
  have e:i=l.length / 8:=by omega
  subst e;have e2:wl l (l.length / 8)=Hr l:=by unfold wl Hr;simp
  have L:(Af .u64 (Hr l)).length=l.length / 8:=by rw[Aq];simp[Hr]
  have tk:List.take (l.length / 8) (Af .u64 (Hr l))=Af .u64 (Hr l):=Jq (by omega)
  rw[Tm,Eh _ _ _ (by omega),e2]
  simp (disch:=omega) only[Cd,Dr,L,tk]
 |k+1,i,nn+1,hi,hn=>by
  have ih:=OQ (n:=n) (c:=c) hl B5 k (i+1) nn (by omega) (by omega)
  have w8:wrap .i64 (8*(i:Int))=((8*i:Nat):Int):=by rw[Ap (by omega) (by omega)];omega
  have w88:wrap .i64 (((8*i:Nat):Int)+8)=((8*i+8:Nat):Int):=by rw[Ap (by omega) (by omega)];omega
  have e8:8*i+8-8*i=8:=by omega
  have hdl:((l.drop (8*i)).take 8).length=8:=by rw[List.length_take,List.length_drop];omega
  have st:=ZT (xs:=xs) (fu:=fu) (d:=d) (n:=n) (m0:=nn) (c:=c) hl (i:=i) (by omega) (q:=(l.drop (8*i)).take 8) (by omega) ((l.drop (8*i)).take 8) 0 fu 0 rfl (by omega) (by omega)
  rw[Azo l (by omega),hdl] at st
  have ew:((l.drop (8*i)).take 8).foldl Hj 0=Vv l i:=rfl;rw[ew,A2m l (by omega),ih] at st
  rw[Tm];simp (disch:=omega) only[Cd,Je,Dr,w8,w88,e8,Lg,Sv];exact st
theorem WW (n:Nat):Wr n [.sc (.int .u64 0)]=Af .u64 (List.replicate n 0):=by
 induction n with
 |zero=>rfl
 |succ n ih=>
  show ([PV.sc (.int .u64 0)]::List.replicate n [PV.sc (.int .u64 0)]).flatten=_;rw[List.flatten_cons,List.replicate_succ];show _++Wr n [.sc (.int .u64 0)]=PV.sc (.int .u64 0)::Af .u64 (List.replicate n 0);rw[ih];rfl
theorem MN {l:List Int}(hl:l.length<=1000000)(B5:100<=fu)(hf:l.length<fu):Ad (CX xs) prog fu (d+1) Zg [.lst false 1 l.length (Af .u8 l)]=some ⟨[.own 1 (l.length / 8) (Af .u64 (Hr l))],[]⟩:=by
 rw[QZ]
 have w:wrap .i64 (Int.tdiv (l.length:Int) 8)=((l.length / 8:Nat):Int):=by
  rw[Int.tdiv_eq_ediv_of_nonneg (by omega),Ap (by omega) (by omega)]
  omega
 have lp:=OQ (xs:=xs) (fu:=fu) (d:=d) (n:=l.length) (c:=Af .u8 l) hl B5 (l.length / 8) 0 fu (by omega) (by omega)
 have e0:wl l 0=List.replicate (l.length / 8) 0:=by unfold wl;simp
 rw[e0] at lp;simp (disch:=omega) only[Cd,w,Je,WW,Int.le_refl];exact lp
def WB (l:List Int):Option Ky:=if l.length=9∧D8 (l.getD 0 0)=false then some ⟨l.getD 0 0,Vv (l.drop 1) 0⟩ else none
def Aj6 (o:Option Ky):List PV:=match o with|some k=>[.agg k.cells,.sc (.int .i64 0)]|none=>[.agg (Ky.mk 0 0).cells,.sc (.int .i64 2)]
theorem Ape (B5:1000<=fu){l:List Int}(hb:M3 l):Ad (CX xs) prog fu (d+2) R1 [.lst false 1 l.length (Af .u8 l)]=some ⟨Aj6 (WB l),[]⟩:=by
 refine (EL fu (d+1) l.length (Af .u8 l)).trans ?_;unfold WB;by_cases h9:l.length=9
 ·obtain⟨x,hx⟩:∃x,l[0]?=some x:=⟨_,List.getElem?_eq_getElem (by omega)⟩
  have hxb:=hb x (List.mem_of_getElem? hx);have wx:wrap .i64 x=x:=Ap (by omega) (by omega)
  have gx:l.getD 0 0=x:=by rw[List.getD_eq_getElem?_getD,hx];rfl
  have h1:=Yt (xs:=xs) (fu:=fu) (d:=d) x;rw[gx];cases c1:D8 x
  ·rw[c1] at h1;have hdl:(l.drop 1).length=8:=by rw[List.length_drop];omega
   have dw:=MN (xs:=xs) (fu:=fu) (d:=d) (l:=l.drop 1) (by omega) (by omega) (by omega)
   rw[hdl] at dw;have hat:(Af .u64 (Hr (l.drop 1))).getD 0 .top=.sc (.int .u64 (Vv (l.drop 1) 0)):=HL (by unfold Hr;rw[hdl];rfl)
   have e8:9-1=8:=rfl;have tk:List.take 8 (Af .u8 (l.drop 1))=Af .u8 (l.drop 1):=Jq (by rw[Aq];omega)
   rw[Co ⟨h9,rfl⟩,h9];simp (disch:=omega) only[Cd,G7,HL hx,wx,h1,Dr,Lg,e8,tk,dw,hat];rfl
  ·rw[c1] at h1;rw[Bp (by simp),h9]
   simp (disch:=omega) only[Cd,G7,HL hx,wx,h1];rfl
 ·rw[Bp (by simp[h9])]
  simp (disch:=omega) only[G7];rw[Bp (by omega)]
  rfl
def sgD (l:List Int):Option Sg:=
 if 2<=l.length∧D8 (l.getD 1 0)=false∧J1 (l.getD 0 0) (l.getD 1 0)=false∧(l.length:Int)=2+8*(18+l.getD 1 0) then some ⟨l.getD 0 0,Hr ((l.drop 2).take 144),Hr (l.drop 146)⟩ else none
def Sg.owned (s:Sg):List PV:=[.sc (.int .i64 s.leaf),.own 1 s.chains.length (Af .u64 s.chains),.own 1 s.path.length (Af .u64 s.path)]
def Amw (o:Option Sg):List PV:=match o with|some s=>[.agg s.owned,.sc (.int .i64 0)]|none=>[.agg (Sg.mk 0 [] []).owned,.sc (.int .i64 2)]
theorem Te (l:List Int):(Hr l).length=l.length / 8:=by simp[Hr]
theorem Am9 (B5:1000<=fu){l:List Int}(hb:M3 l):Ad (CX xs) prog fu (d+2) Lw [.lst false 1 l.length (Af .u8 l)]=some ⟨Amw (sgD l),[]⟩:=by
 refine (Um fu (d+1) l.length (Af .u8 l)).trans ?_;unfold sgD;by_cases h2:2<=l.length
 ·obtain⟨x,hx⟩:∃x,l[0]?=some x:=⟨_,List.getElem?_eq_getElem (by omega)⟩
  obtain⟨y,hy⟩:∃y,l[1]?=some y:=⟨_,List.getElem?_eq_getElem (by omega)⟩
  have hxb:=hb x (List.mem_of_getElem? hx);have hyb:=hb y (List.mem_of_getElem? hy);have wx:wrap .i64 x=x:=Ap (by omega) (by omega)
  have wy:wrap .i64 y=y:=Ap (by omega) (by omega)
  have gx:l.getD 0 0=x:=by rw[List.getD_eq_getElem?_getD,hx];rfl
  have gy:l.getD 1 0=y:=by rw[List.getD_eq_getElem?_getD,hy];rfl
  have h1:=Yt (xs:=xs) (fu:=fu) (d:=d) y;have ho:=Tn (xs:=xs) (fu:=fu) (d:=d) x y (by omega)
  have w1:wrap .i64 (18+y)=18+y:=Ap (by omega) (by omega)
  have w2:wrap .i64 (8*(18+y))=8*(18+y):=Ap (by omega) (by omega)
  have w3:wrap .i64 (2+8*(18+y))=2+8*(18+y):=Ap (by omega) (by omega)
  rw[gx,gy];cases c1:D8 y
  ·rw[c1] at h1;cases c2:J1 x y
   ·rw[c2] at ho;by_cases c3:(l.length:Int)=2+8*(18+y)
    ·have hy4:=Jo c1;have d1:=MN (xs:=xs) (fu:=fu) (d:=d) (l:=(l.drop 2).take 144) (by rw[List.length_take,List.length_drop];omega) (by omega) (by rw[List.length_take,List.length_drop];omega)
     have d2:=MN (xs:=xs) (fu:=fu) (d:=d) (l:=l.drop 146) (by rw[List.length_drop];omega) (by omega) (by rw[List.length_drop];omega)
     have l1:((l.drop 2).take 144).length=144:=by rw[List.length_take,List.length_drop];omega
     have l2:(l.drop 146).length=l.length-146:=List.length_drop;rw[l1] at d1;have L1:(Af .u64 (Hr ((l.drop 2).take 144))).length=18:=by rw[Aq,Te,l1]
     have L2:(Af .u64 (Hr (l.drop 146))).length=(l.length-146) / 8:=by rw[Aq,Te,l2]
     rw[l2] at d2;have t1:List.take (144 / 8) (Af .u64 (Hr ((l.drop 2).take 144)))=Af .u64 (Hr ((l.drop 2).take 144)):=Jq (by omega)
     have t2:List.take ((l.length-146) / 8) (Af .u64 (Hr (l.drop 146)))=Af .u64 (Hr (l.drop 146)):=Jq (by omega)
     have t3:List.take (l.length-146) (l.drop 146)=l.drop 146:=Jq (by omega)
     rw[Co ⟨h2,rfl,rfl,c3⟩];simp (disch:=omega) only[Cd,G7,HL hx,HL hy,wx,wy,h1,ho,w1,w2,w3,Dr,Lg,Sv,d1,d2,t3,L1,L2,t1,t2];rw[Co c3];simp only[Amw,Sg.owned,Te,l1,l2]
    ·rw[Bp (by simp[c3])]
     simp (disch:=omega) only[Cd,G7,HL hx,HL hy,wx,wy,h1,ho,w1,w2,w3];rw[Bp c3];rfl
   ·rw[c2] at ho;rw[Bp (by simp)]
    simp (disch:=omega) only[Cd,G7,HL hx,HL hy,wx,wy,h1,ho];rfl
  ·rw[c1] at h1;rw[Bp (by simp)]
   simp (disch:=omega) only[Cd,G7,HL hx,HL hy,wx,wy,h1];rfl
 ·rw[Bp (by simp[h2])]
  simp (disch:=omega) only[Cd];rfl
end
end
section
open Go.IntKind (wrap)
def MD (seed leaf chain:Int):Int:=Ayg seed 1 (A6 [wrap .u64 leaf,wrap .u64 chain])
def FA (seed leaf:Int)(c:Nat):Int:=Vy leaf c 15 0 (MD seed leaf c)
def Ld (seed leaf:Int):Int:=FV leaf ((List.range 18).map (FA seed leaf))
def CM (seed leaf m:Int)(c:Nat):Int:=Vy leaf c (dg m c).toNat 0 (MD seed leaf c)
def Mg (seed leaf m:Int):List Int:=(List.range 18).map (CM seed leaf m)
def Ct (seed:Int):Nat->Int->Int
 |0,i=>Ld seed i
 |l+1,i=>P9 ((l+1:Nat):Int) (Ct seed l (2*i)) (Ct seed l (2*i+1))
def Zy (seed:Int)(h:Int):Ky:=if D8 h=true then ⟨0,0⟩ else ⟨h,Ct seed h.toNat 0⟩
def Hu (leaf:Int)(k:Nat):Int:=Fg .i64 (Ft .i64 leaf k) 1
def JY (seed:Int)(h leaf m:Int):Option Sg:=if D8 h=true then none else if J1 leaf h=true then none else some ⟨leaf,Mg seed leaf m,(List.range h.toNat).map fun k=>Ct seed k (Hu leaf k)⟩
def Adf (o:Option Sg):List PV:=match o with|some s=>[.agg s.owned,.sc (.int .i64 0)]|none=>[.agg (Sg.mk 0 [] []).owned,.sc (.int .i64 9)]
end
section
open Go.Proofs.Tryz (prog)
open Go.IntKind (wrap)
set_option maxRecDepth 20000
section
variable {fu d:Nat} {xs:FuncId->Option (List PV->Option A4)}
theorem A4n {l:List Int}(hb:M3 l)(hl:l.length<=1099511627776)(B5:100<=fu)(hf:l.length<fu)(key dom:Int):Ad (CX xs) prog fu (d+5) LO [.sc (.int .u64 key),.sc (.int .i64 dom),.lst false 1 l.length (Af .u8 l)]=some ⟨[.sc (.int .u64 (Ayg key dom l))],[]⟩:=by
 rw[Adp];have s:=Auo (xs:=xs) (fu:=fu) (d:=d) hb hl B5 hf key (wrap .u64 (1+wrap .u64 dom));simp only[Cd,s];rfl
theorem Aaq (B5:1000<=fu)(seed leaf chain:Int):Ad (CX xs) prog fu (d+6) Ww [.sc (.int .u64 seed),.sc (.int .i64 leaf),.sc (.int .i64 chain)]=some ⟨[.sc (.int .u64 (MD seed leaf chain))],[]⟩:=by
 have wd:Ad (CX xs) prog fu (d+5) Hm [.lst false 1 2 [.sc (.int .u64 (wrap .u64 leaf)),.sc (.int .u64 (wrap .u64 chain))]]=_:=Uf (ws:=[wrap .u64 leaf,wrap .u64 chain]) (by simp) (by omega) (by simp;omega)
 have hs:=A4n (xs:=xs) (fu:=fu) (d:=d) (Xo [wrap .u64 leaf,wrap .u64 chain]) (by rw[Dq];simp) (by omega) (by rw[Dq];simp;omega) seed 1
 have L:=Aq .u8 (A6 [wrap .u64 leaf,wrap .u64 chain]);rw[MB];unfold MD;generalize A6 [wrap .u64 leaf,wrap .u64 chain]=W at wd hs L ⊢;simp (disch:=omega) only[Cd,wd,Dr,Cv,Dt,Nv,L,hs]
def pl (g:Nat->Int)(i:Nat):List Int:=(List.range i).map g++List.replicate (18-i) 0
theorem Akh (g:Nat->Int){i:Nat}(h:i<=18):(pl g i).length=18:=by simp[pl];omega
theorem Avc (g:Nat->Int){i:Nat}(h:i<18):(pl g i).set i (g i)=pl g (i+1):=by
 unfold pl;rw[List.set_append_right _ _ (by simp),List.length_map,List.length_range,Nat.sub_self,show 18-i=(18-(i+1))+1 by omega,List.replicate_succ,List.set_cons_zero,List.range_succ,List.map_append,QV]
 rfl
theorem A0a (g:Nat->Int):pl g 18=(List.range 18).map g:=by simp[pl]
theorem PI {a0 a1 seed leaf:Int}(B5:1000<=fu):∀(k i nn:Nat),i+k=18->k<nn ->
  G4 fu (Ad (CX xs) prog fu (d+6)) a0 a1 nn seed leaf i (Af .u64 (pl (FA seed leaf) i))=G4 fu (Ad (CX xs) prog fu (d+6)) a0 a1 (nn-k) seed leaf 18 (Af .u64 (pl (FA seed leaf) 18))
 |_,_,0,_,h=>by omega
 |0,i,nn+1,hi,hn=>by
  have e:i=18:=by omega
  subst e;rfl
 |k+1,i,nn+1,hi,hn=>by
  have ih:=PI (a0:=a0) (a1:=a1) (seed:=seed) (leaf:=leaf) B5 k (i+1) nn (by omega) (by omega)
  have w:wrap .i64 ((i:Int)+1)=((i+1:Nat):Int):=by rw[Ap (by omega) (by omega)];omega
  have sc:=Aaq (xs:=xs) (fu:=fu) (d:=d) B5 seed leaf i;have rn:=Akv (xs:=xs) (fu:=fu) (d:=d) (leaf:=leaf) (chain:=i) B5 15 0 15 (MD seed leaf i) (by omega) (by omega) (by omega)
  have ev:Vy leaf i 15 0 (MD seed leaf i)=FA seed leaf i:=rfl;rw[ev] at rn;have L:(Af .u64 (pl (FA seed leaf) i)).length=18:=by rw[Aq,Akh _ (by omega)]
  have EE:B4 (Af .u64 (pl (FA seed leaf) i)) [.sc (.int .u64 (FA seed leaf i))] i=Af .u64 (pl (FA seed leaf) (i+1)):=by
   rw[Hv (by omega),Oe,Avc _ (by omega)]
  rw[show nn+1-(k+1)=nn-k by omega,←ih,R3]
  simp (disch:=omega) only[Cd,Je,Dr,Cv,sc,rn,L,EE,w]
theorem Akq (B5:1000<=fu){a0 a1 seed leaf:Int}{nn:Nat}{E:List Int}(hE:E.length=18):
  G4 fu (Ad (CX xs) prog fu (d+6)) a0 a1 (nn+1) seed leaf 18 (Af .u64 E)=some ⟨[.sc (.int .u64 (FV leaf E))],[]⟩:=by
 match E,hE with
 |[e0,e1,e2,e3,e4,e5,e6,e7,e8,e9,e10,e11,e12,e13,e14,e15,e16,e17],hE=>
  have cb:=VS (xs:=xs) (fu:=fu) (d:=d) B5 leaf hE;have hc:Af .u64 [e0,e1,e2,e3,e4,e5,e6,e7,e8,e9,e10,e11,e12,e13,e14,e15,e16,e17]=[.sc (.int .u64 e0),.sc (.int .u64 e1),.sc (.int .u64 e2),.sc (.int .u64 e3),.sc (.int .u64 e4),.sc (.int .u64 e5),.sc (.int .u64 e6),.sc (.int .u64 e7),.sc (.int .u64 e8),.sc (.int .u64 e9),.sc (.int .u64 e10),.sc (.int .u64 e11),.sc (.int .u64 e12),.sc (.int .u64 e13),.sc (.int .u64 e14),.sc (.int .u64 e15),.sc (.int .u64 e16),.sc (.int .u64 e17)]:=rfl;rw[hc] at cb ⊢;generalize FV leaf [e0,e1,e2,e3,e4,e5,e6,e7,e8,e9,e10,e11,e12,e13,e14,e15,e16,e17]=R at cb ⊢;rw[R3,Eh _ _ _ (by omega)]
  simp (disch:=omega) only[Cd,EI,FE,List.getD_cons_zero,List.getD_cons_succ,cb]
theorem Aoz (B5:1000<=fu)(seed leaf:Int):Ad (CX xs) prog fu (d+7) Pr [.sc (.int .u64 seed),.sc (.int .i64 leaf)]=some ⟨[.sc (.int .u64 (Ld seed leaf))],[]⟩:=by
 rw[ME];have lp:=PI (xs:=xs) (fu:=fu) (d:=d) (a0:=seed) (a1:=leaf) (seed:=seed) (leaf:=leaf) B5 18 0 fu (by omega) (by omega)
 obtain⟨f',hf'⟩:∃f',fu-18=f'+1:=⟨fu-19,by omega⟩
 rw[hf'] at lp;refine Eq.trans lp ?_;rw[A0a];exact Akq B5 (by simp)
theorem Abb {a0 a1 a2:Int}{seed leaf m:Int}(B5:1000<=fu)(g:Nat->Int)(hg:∀k,g k=dg m k):∀(k i nn:Nat),i+k=18->k<nn ->
  Mr fu (Ad (CX xs) prog fu (d+6)) a0 a1 a2 nn seed leaf (g 0) (g 1) (g 2) (g 3) (g 4) (g 5) (g 6) (g 7) (g 8) (g 9) (g 10) (g 11) (g 12) (g 13) (g 14) (g 15) (g 16) (g 17) i (Af .u64 (pl (CM seed leaf m) i)) =
   some ⟨[.own 1 18 (Af .u64 (Mg seed leaf m))],[]⟩
 |_,_,0,_,h=>by omega
 |0,i,nn+1,hi,hn=>by
  have e:i=18:=by omega
  subst e;have L:(Af .u64 (pl (CM seed leaf m) 18)).length=18:=by rw[Aq,Akh _ (by omega)]
  have T:List.take 18 (Af .u64 (pl (CM seed leaf m) 18))=Af .u64 (Mg seed leaf m):=by rw[Jq (by omega),A0a];rfl
  rw[Vb,Eh _ _ _ (by omega)]
  simp (disch:=omega) only[Cd,L,T]
 |k+1,i,nn+1,hi,hn=>by
  have ih:=Abb (a0:=a0) (a1:=a1) (a2:=a2) (seed:=seed) (leaf:=leaf) (m:=m) B5 g hg k (i+1) nn (by omega) (by omega)
  have hb:=EB m i;have hgi:=A09 g (i:=i) (by omega)
  have w:wrap .i64 ((i:Int)+1)=((i+1:Nat):Int):=by rw[Ap (by omega) (by omega)];omega
  have sc:=Aaq (xs:=xs) (fu:=fu) (d:=d) B5 seed leaf i;have rn:=Akv (xs:=xs) (fu:=fu) (d:=d) (leaf:=leaf) (chain:=i) B5 (dg m i).toNat 0 (g i) (MD seed leaf i) (by rw[hg];omega) (by omega) (by rw[hg];omega)
  have ev:Vy leaf i (dg m i).toNat 0 (MD seed leaf i)=CM seed leaf m i:=rfl;rw[ev] at rn;have L:(Af .u64 (pl (CM seed leaf m) i)).length=18:=by rw[Aq,Akh _ (by omega)]
  have EE:B4 (Af .u64 (pl (CM seed leaf m) i)) [.sc (.int .u64 (CM seed leaf m i))] i=Af .u64 (pl (CM seed leaf m) (i+1)):=by
   rw[Hv (by omega),Oe,Avc _ (by omega)]
  rw[Vb];simp (disch:=omega) only[Cd,Je,Dr,Cv,hgi,sc,rn,L,EE,w];exact ih
theorem Ay9 (B5:1000<=fu)(seed leaf m:Int):Ad (CX xs) prog fu (d+7) Td [.sc (.int .u64 seed),.sc (.int .i64 leaf),.sc (.int .u64 m)]=some ⟨[.own 1 18 (Af .u64 (Mg seed leaf m))],[]⟩:=by
 rw[VH];have dq:=ZK (xs:=xs) (fu:=fu) (d:=d+5) B5 m;have hD:Af .i64 (dgs m)=[.sc (.int .i64 (dg m 0)),.sc (.int .i64 (dg m 1)),.sc (.int .i64 (dg m 2)),.sc (.int .i64 (dg m 3)),.sc (.int .i64 (dg m 4)),.sc (.int .i64 (dg m 5)),.sc (.int .i64 (dg m 6)),.sc (.int .i64 (dg m 7)),.sc (.int .i64 (dg m 8)),.sc (.int .i64 (dg m 9)),.sc (.int .i64 (dg m 10)),.sc (.int .i64 (dg m 11)),.sc (.int .i64 (dg m 12)),.sc (.int .i64 (dg m 13)),.sc (.int .i64 (dg m 14)),.sc (.int .i64 (dg m 15)),.sc (.int .i64 (dg m 16)),.sc (.int .i64 (dg m 17))]:=rfl;rw[hD] at dq;simp only[Cd,dq];exact Abb (fu:=fu) (d:=d) (a0:=seed) (a1:=leaf) (a2:=m) B5 (dg m) (fun _=>rfl) 18 0 fu (by omega) (by omega)
end
end
section
open Go.IntKind (wrap)
def WZ (h leaf:Int):Bool:=D8 h||J1 leaf h
def tkL (h leaf:Int):Int:=if WZ h leaf=true then 0 else leaf
def tkC (seed h leaf m:Int):List Int:=if WZ h leaf=true then [] else Mg seed leaf m
def tkP (seed h leaf:Int):List Int:=if WZ h leaf=true then [] else (List.range h.toNat).map fun k=>Ct seed k (Hu leaf k)
def tkE (h leaf:Int):Int:=if WZ h leaf=true then 9 else 0
def A2o (args:List PV):Option A4:=
 match args with
 |[.sc (.int .u64 seed),.sc (.int .i64 h),.sc (.int .i64 leaf),.sc (.int .u64 m)]=>
  some ⟨[.agg [.sc (.int .i64 (tkL h leaf)),.lst false 1 (tkC seed h leaf m).length (Af .u64 (tkC seed h leaf m)),.lst false 1 (tkP seed h leaf).length (Af .u64 (tkP seed h leaf))],.sc (.int .i64 (tkE h leaf))],[]⟩
 |_=>none
structure En where
 k:Int
 na:Nat
 an:List PV
 ns:Nat
 st:List PV
def X3:List PV->Option (List En)
 |[]=>some []
 |.sc (.int .u64 k) :: .lst false 3 na an :: .lst false 2 ns st::r=>bif Nat.beq an.length (na*3)&&Nat.beq st.length (ns*2)&&Nat.ble na 1000&&Nat.ble ns 1000 then (X3 r).map (⟨k,na,an,ns,st⟩ :: ·) else none
 |_=>none
def Se:List PV->Option (List (Int × Int))
 |[]=>some []
 |.sc (.int .i64 k) :: .sc (.int .i64 t)::r=>(Se r).map ((k,t) :: ·)
 |_=>none
def Ajz (model:Int)(es:List En):List PV:=match es.find? fun e=>e.k==model with|some e=>e.st|none=>[]
def H2 (now:Int)(l:List (Int × Int)):Int:=match l.reverse.find? fun p=>decide (p.2<=now) with|some p=>p.1|none=>0
def Amr (args:List PV):Option A4:=
  match args with
  |[.agg [.sc (.int .i64 _),.sc (.int .i64 _),.sc (.int .i64 _),.lst false 3 n c,.sc (.int .i64 _),.lst false 1 _ _,.lst false 1 _ _],.sc (.int .u64 model),.sc (.int .i64 now)]=>
    bif Nat.beq c.length (n*3)&&Nat.ble n 1000 then
      (match X3 c with
       |some es=>(match Se (Ajz model es) with|some l=>some ⟨[.sc (.int .i64 (H2 now l))],[]⟩|none=>none)
       |none=>none)
    else none
  |_=>none
def Ni (f:FuncId):Option (List PV->Option A4):=
 bif Nat.beq f 126 then some WO else
 bif Nat.beq f 148 then some CI else
 bif Nat.beq f 36 then some A2o else
 bif Nat.beq f 29 then some Amr else
 bif Nat.beq f 1000000 then some (fun _=>none) else none
abbrev C0:Kf:=CX Ni
end
section
open Go.Proofs.Tryz (prog)
open Go.IntKind (wrap)
set_option maxRecDepth 100000
abbrev Kd:FuncId:=71
theorem O5 {xs:FuncId->Option (List PV->Option A4)} (fu d Bq:Nat)(a0:List PV):Ad (CX xs) prog fu (d+1) Kd [.lst false 3 Bq a0]=(fun (call:Ah)=>Bm (decide (0<Bq)) (Aw (decide (a0.length=Bq*3)&&decide ((0+Bq)*32<=1099511627776)&&decide (0+Bq<=1099511627776))<|Aa (0+Bq) fun x1=>Aa ([]++a0) fun x2=>Aw (decide (0+x1*3<=x2.length))<|some (A4.mk [.lst false 3 x1 (List.take (x1*3) (List.drop 0 x2))] [])) (Zf (some (A4.mk [.lst false 3 0 []] [])) (Aw (decide (a0.length=Bq*3)&&decide ((0+Bq)*32<=1099511627776)&&decide (0+Bq<=1099511627776))<|Aa (0+Bq) fun x3=>Aa ([]++a0) fun x4=>Aw (decide (0+x3*3<=x4.length))<|some (A4.mk [.lst false 3 x3 (List.take (x3*3) (List.drop 0 x4))] [])))) (Ad (CX xs) prog fu d):=by kernel_rfl
abbrev Ke:FuncId:=72
theorem Ph {xs:FuncId->Option (List PV->Option A4)} (fu d Bq:Nat)(a0:List PV):Ad (CX xs) prog fu (d+1) Ke [.lst false 2 Bq a0]=(fun (call:Ah)=>Bm (decide (0<Bq)) (Aw (decide (a0.length=Bq*2)&&decide ((0+Bq)*16<=1099511627776)&&decide (0+Bq<=1099511627776))<|Aa (0+Bq) fun x1=>Aa ([]++a0) fun x2=>Aw (decide (0+x1*2<=x2.length))<|some (A4.mk [.lst false 2 x1 (List.take (x1*2) (List.drop 0 x2))] [])) (Zf (some (A4.mk [.lst false 2 0 []] [])) (Aw (decide (a0.length=Bq*2)&&decide ((0+Bq)*16<=1099511627776)&&decide (0+Bq<=1099511627776))<|Aa (0+Bq) fun x3=>Aa ([]++a0) fun x4=>Aw (decide (0+x3*2<=x4.length))<|some (A4.mk [.lst false 2 x3 (List.take (x3*2) (List.drop 0 x4))] [])))) (Ad (CX xs) prog fu d):=by kernel_rfl
abbrev Kx:FuncId:=37
theorem Qn {xs:FuncId->Option (List PV->Option A4)} (fu d:Nat)(Ag:Int)(Br:Nat)(Ai:List PV)(Bf:Nat)(Ay:List PV):Ad (CX xs) prog fu (d+1) Kx [.agg [.sc (.int .u64 Ag),.lst false 3 Br Ai,.lst false 2 Bf Ay]]=(fun (call:Ah)=>Aj (call 71 [.lst false 3 Br Ai]) fun x1 x2=>Ac x2<|Ab x1 fun x3 x4=>Fa 3 x3 fun x5 x6 x7=>Ac x4<|Aj (call 72 [.lst false 2 Bf Ay]) fun x8 x9=>Ac x9<|Ab x8 fun Cy C4=>Fa 2 Cy fun D1 Ed Dn=>Ac C4<|some (A4.mk [.agg [.sc (.int .u64 Ag),.lst false 3 x6 x7,.lst false 2 Ed Dn]] [])) (Ad (CX xs) prog fu d):=by kernel_rfl
abbrev Od:FuncId:=52
noncomputable def Jn (fu:Nat)(call:Ah)(Ag Ai Ay:Int)(Bi:Nat)(Bv:List PV)(Cf:Int)(Bk:Nat)(Cj:List PV)(Bn:Nat)(Ci:List PV)(a1:Int)(nn:Nat)(y0:Int)(y1:Nat)(y2:List PV)(y3 y4 y5:Int)(y6 y7:Nat)(y8 y9:List PV):Option A4:=Dd CB prog fu call 52 Tryz.f52 (B9 Tryz.f52) [.agg [.sc (.int .i64 Ag),.sc (.int .i64 Ai),.sc (.int .i64 Ay),.lst false 3 Bi Bv,.sc (.int .i64 Cf),.lst false 1 Bk Cj,.lst false 1 Bn Ci],.sc (.int .u64 a1)] [.r,.l,.r,.l] nn ⟨lk [(1,(.sc (.int .u64 y0))),(4,(.ptr 4 0)),(9,(.lst false 3 y1 y2)),(10,(.sc (.int .i64 y3))),(11,(.sc (.int .i64 y4)))],B7 [(4,(.st [(.sc (.int .u64 y5)),(.view 50 3 0 y6),(.view 73 2 0 y7)])),(50,(.ar false y8)),(73,(.ar false y9))]⟩
theorem Qr (fu:Nat)(call:Ah)(Ag Ai Ay:Int)(Bi:Nat)(Bv:List PV)(Cf:Int)(Bk:Nat)(Cj:List PV)(Bn:Nat)(Ci:List PV)(a1:Int)(nn:Nat)(y0:Int)(y1:Nat)(y2:List PV)(y3 y4 y5:Int)(y6 y7:Nat)(y8 y9:List PV):Jn fu call Ag Ai Ay Bi Bv Cf Bk Cj Bn Ci a1 (nn+1) y0 y1 y2 y3 y4 y5 y6 y7 y8 y9=(Bm (decide (y4<y3)) (Aw (decide (0<=y4)&&decide (y4<(↑y1:Int)))<|Ae .u64 (List.getD y2 (Int.toNat y4*3) .top) fun x1=>Fa 3 (List.getD y2 (Int.toNat y4*3+1) .top) fun x2 x3 x4=>Fa 2 (List.getD y2 (Int.toNat y4*3+1+1) .top) fun x5 x6 x7=>Bm (x1==y0) (Aj (call 37 [.agg [.sc (.int .u64 x1),.lst false 3 x3 x4,.lst false 2 x6 x7]]) fun x8 x9=>Ac x9<|Ab x8 fun Cy C4=>Ef Cy fun D1=>Ab D1 fun Ed Dn=>Ae .u64 Ed fun Eg=>Ab Dn fun Ez Fq=>Fa 3 Ez fun F9 Fp F2=>Ab Fq fun Iw Hl=>Fa 2 Iw fun H3 E5 Ep=>Ac Hl<|Ac C4<|some (A4.mk [.agg [.sc (.int .u64 Eg),.lst false 3 Fp F2,.lst false 2 E5 Ep],.sc (.bool true)] [])) (Aa (wrap .i64 (y4+1)) fun G2=>Jn fu call Ag Ai Ay Bi Bv Cf Bk Cj Bn Ci a1 (nn) (y0) (y1) (y2) (y3) G2 (y5) (y6) (y7) (y8) (y9))) (some (A4.mk [.agg [.sc (.int .u64 0),.lst false 3 0 [],.lst false 2 0 []],.sc (.bool false)] []))):=by kernel_rfl
theorem IY {xs:FuncId->Option (List PV->Option A4)} (fu d:Nat)(Ag Ai Ay:Int)(Bi:Nat)(Bv:List PV)(Cf:Int)(Bk:Nat)(Cj:List PV)(Bn:Nat)(Ci:List PV)(a1:Int):Ad (CX xs) prog fu (d+1) Od [.agg [.sc (.int .i64 Ag),.sc (.int .i64 Ai),.sc (.int .i64 Ay),.lst false 3 Bi Bv,.sc (.int .i64 Cf),.lst false 1 Bk Cj,.lst false 1 Bn Ci],.sc (.int .u64 a1)]=(fun (call:Ah)=>Jn fu call Ag Ai Ay Bi Bv Cf Bk Cj Bn Ci a1 (fu) (a1) (Bi) (Bv) ((↑Bi:Int)) 0 0 0 0 ([]) ([])) (Ad (CX xs) prog fu d):=by kernel_rfl
end
section
open Go.IntKind (wrap)
open Go Go.RowKit
structure Ua (Z Z':Nat->Prop) (w w':World):Prop where
 os:w'.os=w.os
 tape:w'.tape=w.tape
 output:w'.output=w.output
 size:w.heap.size<=w'.heap.size
 keep:∀b,b<w.heap.size->¬Z b->w'.heap[b]?=w.heap[b]?
 sub:∀b,Z b->Z' b
 new:∀b,Z' b->Z b∨w.heap.size<=b
 lt:∀b,Z' b->b<w'.heap.size
 bs:∀b,b<w.heap.size->bsz w b<=bsz w' b
structure Om (Z:Nat->Prop) (w w':World):Prop where
 os:w'.os=w.os
 tape:w'.tape=w.tape
 output:w'.output=w.output
 size:w.heap.size<=w'.heap.size
 same:∀b,Z b->w'.heap[b]?=w.heap[b]?
theorem Om.sub {Z Z':Nat->Prop}{w w':World}(h:Om Z w w')(hs:∀b,Z' b->Z b):Om Z' w w':=⟨h.os,h.tape,h.output,h.size,fun b hb=>h.same b (hs b hb)⟩
def A0e {α:Type}(P:Program)(gf:Nat)(lb:Array Value)(M:List α->α->Array Value->(Nat->Prop)->World->Prop) (S Sp:List α->Prop)(Pre:(Nat->Prop)->World->Prop):Prop:=
 ∀(l:Nat) (J Jx:(Nat->Prop)->List α->World->Prop) (W:World) (Z0:Nat->Prop),(∀b,Z0 b->b<W.heap.size)->Pre Z0 W ->
  (∀Z pre A B,J Z pre A->Om Z A B->J Z pre B)->(∀Z pre A B,Jx Z pre A->Om Z A B->Jx Z pre B) ->
  (∀Z pre x args A,J Z pre A->M pre x args Z A->YieldAt Fence.wide 0 P l args A fun e B=>∃Z',Ua Z Z' A B ∧
   ((e=.returned (.bool true)∧J Z' (pre++[x]) B)∨(e=.returned (.bool false)∧Jx Z' (pre++[x]) B))) ->
  J Z0 [] W ->
  Calls P gf (#[.func (.yield l) #[] #[]]++lb) W fun e B=>(∃v,e=.returned v)∧∃Z xs,(S xs∧J Z xs B)∨(Sp xs∧Jx Z xs B)
theorem PH {P:Program}{n m l:Nat}{f:FuncId}{tmps:Array Value}{assign body:Code}{w:World}{R:Ending->World->Prop}(h:RoundIn Fence.wide n P l f tmps assign body w R):RoundIn Fence.wide m P l f tmps assign body w R:=
 ⟨h.1,fun c cs _=>h.2 c cs (room_wide _)⟩
def MY {α:Type}(D:Nat)(I:(Nat->Prop)->List α->World->Prop) (Ix:Code->(Nat->Prop)->List α->World->Prop) (Z:Nat->Prop)(xs:List α)(A:World):Exit->Act->World->Prop:=fun e _ B=>
 ∃Z',Ua Z Z' A B∧B.heap[D]?=A.heap[D]?∧B.heap[D+1]?=A.heap[D+1]? ∧
  match e with
  |.normal=>I Z' xs B
  |.ret=>Ix .ret Z' xs B
  |.exit id=>Ix (.exit id) Z' xs B
  |.goto t=>Ix (.goto t) Z' xs B
  |_=>False
theorem Aok {α:Type}{P:Program}{n:Nat}{g:Operand}{ps:Array Tmp}{assign body:Code}{Q:Exit->Act->World->Prop}{a:Act}{w:World}{gf:Nat}{lb:Array Value}
  (hg:a.eval g=.func (.func gf) #[] lb) (eg:∀args w,(callFunc gf args).run P w=.ok (.enter gf args) w)
  {M:List α->α->Array Value->(Nat->Prop)->World->Prop} {S Sp:List α->Prop} {Pre:(Nat->Prop)->World->Prop} (hit:A0e P gf lb M S Sp Pre) {Z0:Nat->Prop} (hZ0:∀b,Z0 b->b<w.heap.size)
  (Aqg:∀W:World,W.heap.size=w.heap.size+2->(∀b,b<w.heap.size->W.heap[b]?=w.heap[b]?)->Pre (fun b=>Z0 b∨b=w.heap.size∨b=w.heap.size+1) W)
  (hM:∀pre x args Z A B,M pre x args Z A->A.heap.size<=B.heap.size->(∀b,b<A.heap.size->¬Z b->B.heap[b]?=A.heap[b]?)->M pre x args Z B)
  (QC:∀pre x args Z A,M pre x args Z A->args.size=ps.size)
  (I:(Nat->Prop)->List α->World->Prop) (Ix:Code->(Nat->Prop)->List α->World->Prop)
  (hI:∀Z pre A B,I Z pre A->Om (fun b=>Z b∧b≠w.heap.size∧b≠w.heap.size+1) A B->I Z pre B)
  (hIx:∀c Z pre A B,Ix c Z pre A->Om (fun b=>Z b∧b≠w.heap.size∧b≠w.heap.size+1) A B->Ix c Z pre B)
  (h0:∀W,W.heap.size=w.heap.size+2->Om (fun b=>b<w.heap.size) w W->I (fun b=>Z0 b∨b=w.heap.size∨b=w.heap.size+1) [] W)
  (a₁:Array Value->Act)
  (II:∀pre x args Z A (K:Act->World->Prop),M pre x args Z A->K (a₁ args) A->assign.wpIn (Fence.wide.inRound (w.heap.size+1)) 0 P (Exit.then K (fun _ _ _=>False)) { tmps:=(ps.zip args).foldl (fun t (p,v)=>t.setIfInBounds p v) a.tmps,defers:=[] } A)
  (Aew:∀Z pre x args A,Z w.heap.size->Z (w.heap.size+1)->I Z pre A->M pre x args Z A->body.wpIn (Fence.wide.inRound (w.heap.size+1)) 0 P (MY w.heap.size I Ix Z (pre++[x]) A) (a₁ args) A)
  (Afk:∀Z xs B,S xs->I Z xs B->B.heap[w.heap.size]?=some (.deferred (some []))->Q .normal { a with defers:={ target:=.collected w.heap.size,args:= #[] }::a.defers } B)
  (Agl:∀c Z xs B,Sp xs->Ix c Z xs B->B.heap[w.heap.size]?=some (.deferred (some []))->c.wpIn Fence.wide n P Q { a with defers:={ target:=.collected w.heap.size,args:= #[] }::a.defers } B):
  (Code.rangeFunc g ps assign body).wpIn Fence.wide n P Q a w:=by
 refine wpIn_rangeFunc ?_;intro fn hfn;obtain⟨rec,Yf⟩:∃rec:LoopState->Option Code->Loop,rec=fun st pe=>{ state:=st,pending:=pe,fn,tmps:=a.tmps,params:=ps,assign,body,defers:=w.heap.size }:=⟨_,rfl⟩
 obtain⟨D,hD⟩:∃D,w.heap.size=D:=⟨_,rfl⟩;rw[hD] at hI hIx h0 II Aew Afk Agl hZ0 Aqg;obtain⟨W1,hW1⟩:∃W1,(w.alloc (.deferred (some []))).alloc (.loop (rec .ready none))=W1:=⟨_,rfl⟩;have PZ:W1.heap.size=D+2:=by rw[←hW1,World.size_alloc,World.size_alloc,hD]
 have hL1:W1.heap[D+1]?=some (.loop (rec .ready none)):=by
  rw[←hW1,←hD];have:=World.alloc_heap_new (w.alloc (.deferred (some []))) (.loop (rec .ready none));rwa [World.size_alloc] at this
 have hK1:W1.heap[D]?=some (.deferred (some [])):=by
  rw[←hW1,←hD];exact (Below.heap_alloc _ _ _ (by simp)).trans (World.alloc_heap_new w _)
 have G0:Om (fun b=>b<D) w W1:=by
  rw[←hW1,←hD];exact⟨rfl,rfl,rfl,by simp;omega,fun b hb=>(Below.heap_alloc _ _ _ (by simp;omega)).trans (Below.heap_alloc _ _ _ hb)⟩
 refine⟨D+1,[{ target:=.collected D,args:= #[] }],W1,{ target:=.fn (.func gf) lb,args:= #[.func (.yield (D+1)) #[] #[]] },W1,gf,
  #[.func (.yield (D+1)) #[] #[]]++lb,W1,?_,?_,fun _ _=>trivial,?_,(fun h=>by cases h),?_⟩
 ·rw[←hW1,Yf,←hD];exact run_enterLoop_outer _ _ _ _ _
 ·simp only[resolve,hg];simp[go_sem]
 ·simp[invoke,go_sem,eg]
 ·have put:∀{Z:Nat->Prop} {A:World} (o:Obj),Om (fun b=>Z b∧b≠D∧b≠D+1) A (A.putObj (D+1) o):=fun o=>
   ⟨rfl,rfl,rfl,by simp,fun b hb=>World.putObj_heap_other hb.2.2⟩
  refine callsIn_wide.2 (Calls.mono (hit (D+1)
   (fun Z pre A=>(Z D∧Z (D+1))∧I Z pre A∧A.heap[D+1]?=some (.loop (rec .ready none))∧A.heap[D]?=some (.deferred (some [])))
   (fun Z pre A=>(Z D∧Z (D+1))∧∃c,Ix c Z pre A∧A.heap[D+1]?=some (.loop (rec .done (some c)))∧A.heap[D]?=some (.deferred (some [])))
   W1 (fun b=>Z0 b∨b=D∨b=D+1) (fun b hb=>by rw[PZ];exact hb.elim (fun h=>by have:=hZ0 b h;omega) fun h=>by omega) (Aqg W1 PZ (fun b hb=>G0.same b hb)) ?_ ?_ ?_ ?_) ?_)
  ·rintro Z pre A B ⟨hz,hi,hl,hk⟩ hs
   exact⟨hz,hI Z pre A B hi (hs.sub fun _ h=>h.1),(hs.same _ hz.2).trans hl,(hs.same _ hz.1).trans hk⟩
  ·rintro Z pre A B ⟨hz,c,hi,hl,hk⟩ hs
   exact⟨hz,c,hIx c Z pre A B hi (hs.sub fun _ h=>h.1),(hs.same _ hz.2).trans hl,(hs.same _ hz.1).trans hk⟩
  ·rintro Z pre x args A ⟨hz,hi,hl,hk⟩ hm
   have Cq:D+1<A.heap.size:=(Array.getElem?_eq_some_iff.1 hl).1;have hy:=run_yield (P:=P) (args:=args) hl (by rw[Yf];exact QC pre x args Z A hm)
   rw[Yf] at hy;refine⟨fn,_,assign,body,hy,roundIn_of_wpIn hfn (II pre x args Z A _ hm ?_)⟩;refine⟨_,run_beginRound hl (by rw[Yf]),?_⟩
   obtain⟨A2,hA2⟩:∃A2,A.putObj (D+1) (.loop { rec .ready none with state:=.busy })=A2:=⟨_,rfl⟩;rw[hA2];have QN:A2.heap[D+1]?=some (.loop { rec .ready none with state:=.busy }):=by rw[←hA2];exact World.putObj_heap_same Cq
   have Ha:A2.heap[D]?=some (.deferred (some [])):=by rw[←hA2];exact (World.putObj_heap_other (by omega)).trans hk
   have hz2:A2.heap.size=A.heap.size:=by rw[←hA2];simp
   have hi2:I Z pre A2:=by rw[←hA2];exact hI Z pre A _ hi (put _)
   have hm2:M pre x args Z A2:=by
    rw[←hA2];exact hM pre x args Z A _ hm (by simp) fun b _ hb=>World.putObj_heap_other fun e=>hb (e ▸ hz.2)
   refine wpIn_mono (Aew Z pre x args A2 hz.1 hz.2 hi2 hm2) ?_
   have fin:∀(jump:Option Code) (W3:World) (Z':Nat->Prop),Ua Z Z' A2 W3->W3.heap[D]?=A2.heap[D]?->W3.heap[D+1]?=A2.heap[D+1]? ->
     (Instr.endRound (D+1) jump).run P W3=.ok (.bool jump.isNone) (W3.putObj (D+1) (.loop (rec (if jump.isNone then .ready else .done) jump))) ∧
     (W3.putObj (D+1) (.loop (rec (if jump.isNone then .ready else .done) jump))).heap[D+1]?=some (.loop (rec (if jump.isNone then .ready else .done) jump)) ∧
     (W3.putObj (D+1) (.loop (rec (if jump.isNone then .ready else .done) jump))).heap[D]?=some (.deferred (some [])) ∧
     Ua Z Z' A (W3.putObj (D+1) (.loop (rec (if jump.isNone then .ready else .done) jump))):=fun jump W3 Z' ht e1 e2=>by
    have hl3:=e2.trans QN;have:=run_endRound (P:=P) jump hl3;rw[Yf] at this ⊢;refine⟨this,World.putObj_heap_same (Array.getElem?_eq_some_iff.1 hl3).1,(World.putObj_heap_other (by omega)).trans (e1.trans Ha),?_⟩
    have hA:A2.os=A.os∧A2.tape=A.tape∧A2.output=A.output:=by rw[←hA2];exact⟨rfl,rfl,rfl⟩
    refine⟨ht.os.trans hA.1,ht.tape.trans hA.2.1,ht.output.trans hA.2.2,by have:=ht.size;simp;omega,fun b hb hn=>?_,ht.sub,fun b hb=>by have:=ht.new b hb;rw[hz2] at this;exact this,fun b hb=>by simpa using ht.lt b hb,fun b hb=>?_⟩
    ·have Fu:b≠D+1:=fun e=>hn (e ▸ hz.2)
     rw[World.putObj_heap_other Fu,ht.keep b (by omega) hn,←hA2,World.putObj_heap_other Fu]
    ·by_cases Fu:b=D+1
     ·subst Fu;unfold bsz;rw[hl];exact Nat.zero_le _
     ·have h5:=ht.bs b (by omega)
      have h6:bsz A2 b=bsz A b:=by unfold bsz;rw[←hA2,World.putObj_heap_other Fu]
      have h7:∀o,bsz (W3.putObj (D+1) o) b=bsz W3 b:=fun o=>by unfold bsz;rw[World.putObj_heap_other Fu]
      rw[h7,←h6];exact h5
   rintro e a3 W3 ⟨Z',ht,e1,e2,hp⟩
   cases e with
   |normal=>
    obtain⟨hr,hl4,V5,ht4⟩:=fin none W3 Z' ht e1 e2;exact⟨_,_,hr,Z',ht4,.inl ⟨rfl,⟨ht.sub _ hz.1,ht.sub _ hz.2⟩,hI Z' _ _ _ hp (put _),hl4,V5⟩⟩
   |ret=>
    obtain⟨hr,hl4,V5,ht4⟩:=fin (some .ret) W3 Z' ht e1 e2;exact⟨_,_,hr,Z',ht4,.inr ⟨rfl,⟨ht.sub _ hz.1,ht.sub _ hz.2⟩,.ret,hIx _ Z' _ _ _ hp (put _),hl4,V5⟩⟩
   |exit id=>
    obtain⟨hr,hl4,V5,ht4⟩:=fin (some (.exit id)) W3 Z' ht e1 e2;exact⟨_,_,hr,Z',ht4,.inr ⟨rfl,⟨ht.sub _ hz.1,ht.sub _ hz.2⟩,.exit id,hIx _ Z' _ _ _ hp (put _),hl4,V5⟩⟩
   |goto t=>
    obtain⟨hr,hl4,V5,ht4⟩:=fin (some (.goto t)) W3 Z' ht e1 e2;exact⟨_,_,hr,Z',ht4,.inr ⟨rfl,⟨ht.sub _ hz.1,ht.sub _ hz.2⟩,.goto t,hIx _ Z' _ _ _ hp (put _),hl4,V5⟩⟩
   |panic ch=>exact hp.elim
   |outgrown=>exact hp.elim
  ·exact⟨⟨.inr (.inl rfl),.inr (.inr rfl)⟩,h0 W1 PZ G0,hL1,hK1⟩
  ·rintro e W2 ⟨⟨v,rfl⟩,Z,xs,(⟨hS,hz,hi,hl,hk⟩|⟨hSp,hz,c,hi,hl,hk⟩)⟩
   ·exact⟨none,_,by have:=run_endLoop (P:=P) hl (by rw[Yf];simp);rw[Yf] at this;exact this,Afk Z xs _ hS (hI Z _ _ _ hi (put _)) ((World.putObj_heap_other (by omega)).trans hk)⟩
   ·exact⟨some c,_,by have:=run_endLoop (P:=P) hl (by rw[Yf];simp);rw[Yf] at this;exact this,Agl c Z xs _ hSp (hIx c Z _ _ _ hi (put _)) ((World.putObj_heap_other (by omega)).trans hk)⟩
def Aph (s:St)(β:Bt):Gg:={ X:=HZ s.hp β,L:=fun b _=>HZ s.hp β b,pn:=fun _=>False,pt:=fun _=>none,p8:=fun _ h=>h.elim }
theorem Ch.rebase {N:Nat}{w0 w w':World}{X0:Gg}{Y Z':Nat->Prop}{β:Bt}{s:St}{a:Act}(h:Ch N w0 X0 Y β s a w)(ht:Ua Y Z' w w')(hns:∀id c,s.hp id≠some (.st c)):Ch N w' (Aph s β) Z' β s a w':=by
 have hW:C2 (Du s.hp β Y) w w':=⟨ht.size,fun b hb hn=>ht.keep b hb fun y=>hn (.inr y),ht.bs⟩
 have hA:∀b,b<w.heap.size->Du s.hp β Z' b->Du s.hp β Y b:=by
  rintro b hb (hx|hz)
  ·exact .inl hx
  ·rcases ht.new b hz with h1|h1
   ·exact .inr h1
   ·omega
 have Zt:∀b,b<w.heap.size->¬Y b->w'.heap[b]?=w.heap[b]?:=ht.keep
 refine⟨h.dfr,h.tsz,h.tmo,fun i hi=>(h.tms i hi).step hW hA fun _ _=>rfl,fun id bx Ow=>?_,h.inj,fun id b o h1 h2=>Nat.lt_of_lt_of_le (h.blt id b o h1 h2) ht.size,h.wfT,h.wfB,fun b hb=>.inl hb,
  fun id bx b o h1 h2 h3 _ j _=>⟨id,o,by rw[h1];exact h2,h3⟩,fun i hi=>hi.elim,fun id c b o h1=>absurd h1 (hns id c),fun b hz=>?_,ht.lt,⟨rfl,rfl,rfl,⟨Nat.le_refl _,fun _ _ _=>rfl,fun _ _=>Nat.le_refl _⟩,fun _ _ _ _=>⟨rfl,rfl⟩⟩⟩
 ·cases bx with
  |st c=>exact absurd Ow (hns id c)
  |mv=>trivial
  |ar fz cells=>
   rcases h.box id _ Ow with h1|⟨b,o,h1,h2,h3,h4⟩
   ·exact .inl h1
   ·have Cq:b<w.heap.size:=h.blt id b o (by rw[Ow];simp) h1
    have hnY:¬Y b:=by
     cases fz with
     |false=>exact fun y=>h.Yx b y ⟨id,o,by rw[Ow];trivial,h1⟩
     |true=>exact fun y=>h4 rfl (.inr y)
    have hh:=Zt b Cq hnY;have J0:bsz w' b=bsz w b:=by unfold bsz;rw[hh]
    refine .inr ⟨b,o,h1,fun j c hj=>?_,fun hf j hj hjb=>?_,fun hf=>fun hA'=>h4 hf (hA b Cq hA')⟩
    ·obtain⟨v,hv,hv1,hv2⟩:=h2 j c hj;exact⟨v,(World.cell?_of_block (a:=(⟨b,o,none⟩:Addr).add j) (by rw[H6];exact hh)).trans hv,hv1,hv2.step hW hA⟩
    ·rw[J0] at hjb;have:=h3 hf j hj hjb;rw[←this];unfold World.frozen?;simp only[hh]
 ·rintro⟨id,o,h1,h2⟩
  have Cq:b<w.heap.size:=h.blt id b o (Dy h1) h2;rcases ht.new b hz with h3|h3
  ·exact h.Yx b h3 ⟨id,o,h1,h2⟩
  ·omega
theorem Ch.stay {N:Nat}{w0 w:World}{X0:Gg}{Y:Nat->Prop}{β:Bt}{s:St}{a:Act}(h:Ch N w0 X0 Y β s a w)(hd:∀b,Y b->¬X0.X b):Om Y w0 w:=
 ⟨h.fr.os,h.fr.tape,h.fr.output,h.fr.step.size,fun b hb=>h.fr.step.keep b (h.Ylt b hb) (hd b hb)⟩
end
section
open Go.IntKind (wrap)
open Go Go.RowKit
abbrev WF (ro:Option Nat):Fence:={ fn:=fun _=>True,depth:=none,alive:=false,round:=ro }
def Ad6 (o:Oper):Bool:=
 match o.op with
 |.defer _=>false
 |_=>true
def okR:Code->Bool
 |.region _ ops _=>ops.toList.all Ad6
 |.seq a b=>okR a&&okR b
 |.cond _ a b=>okR a&&okR b
 |.block _ c=>okR c
 |.loop c=>okR c
 |.skip=>true
 |.exit _=>true
 |.ret=>true
 |_=>false
theorem JO {P:Program}{o:Oper}{a:Act}{w:World}{next:Act->World->Prop}{Q:Exit->Act->World->Prop}{ro:Option Nat}{n:Nat}(hd:Ad6 o=true)(h:o.wp P a w next Q):o.wpIn (WF ro) n P a w next Q:=by
 refine⟨fun _ _=>trivial,?_⟩
 have e:o.semAt (WF ro).round a.eval=execOp a.eval o:=Oper.semAt_eq _ _ _ (by intro c hc;unfold Ad6 at hd;rw[hc] at hd;cases hd)
 rw[e];unfold Oper.wp at h
 revert h
 generalize (execOp a.eval o).run P w=q;intro h;cases q with
 |halt x w'=>cases x<;>first|exact h|exact h.elim
 |ok v w'=>
  cases v with
  |value v=>exact h
  |skip=>exact h
  |defer d=>exact h
  |enter f args=>exact⟨(fun h=>by cases h),(callsIn_wide.2 h:CallsIn Fence.wide (n-1) P f args w' _)⟩
  |row row args=>exact⟨(fun h=>by cases h),fun c cs _=>let ⟨v,w',r,s⟩:=h c cs;⟨v,w',r,stepsIn_wide.2 s⟩⟩
  |_=>exact h.elim
theorem Acr {P:Program}{ops:Array Oper}{Q:Exit->Act->World->Prop}{K K':Act->World->Prop}{ro:Option Nat}{i n:Nat}{a:Act}{w:World}(GZ:¬LetsOut Q)(XJ:ops.toList.all Ad6=true)(hK:∀a w,K a w->K' a w)(h:wpOp P ops Q i K a w):wpOpIn (WF ro) n P ops Q i K' a w:=by
 unfold wpOp at h;unfold wpOpIn;cases ho:ops[i]? with
 |none=>rw[ho] at h;exact hK _ _ h
 |some o=>
  rw[ho] at h;simp only at h ⊢;have hn:Ad6 o=true:=List.all_eq_true.1 XJ o (Array.mem_toList_iff.2 (Array.mem_of_getElem? ho));by_cases hw:Region.wanted o (yielded ops a.tmps)=true
  ·rw[Co hw] at h ⊢;rcases h with h|h
   ·exact JO hn (Oper.wp_mono hK h)
   ·exact absurd h.2 GZ
  ·rw[Bp hw] at h ⊢;exact⟨fun _ _=>trivial,hK _ _ h⟩
theorem V0 {P:Program}{ops:Array Oper}{Q:Exit->Act->World->Prop}{ro:Option Nat}{n:Nat}{md:Region.Mode}(GZ:¬LetsOut Q)(XJ:ops.toList.all Ad6=true):∀(fuel:Nat)(listed:Array Bool)(a:Act)(w:World),wpAny P md ops Q fuel listed a w->wpAnyIn (WF ro) n P md ops Q fuel listed a w
 |0,_,_,_,h=>h
 |fuel+1,_,_,_,h=>⟨h.1,fun i hi=>Acr GZ XJ (fun a w=>V0 GZ XJ fuel _ a w) (h.2 i hi)⟩
section
variable {P:Program} {C:Kf} {N:Nat} {call:Ah} {w0:World} {X0:Gg} {Y:Nat->Prop} {R:Type} {r:R} {β:Bt} {s:St} {a:Act} {w:World} {o:Oper} {ops:Array Oper} {K:St->Option R} {ro:Option Nat} {n:Nat}
theorem PE (h:Ch N w0 X0 Y β s a w){G:Xl}(Kg:QA P G w0 X0)(Dj:∀f args res,call f args=some res->Dl G P f args res)(XJ:Ad6 o=true)(hk:Es C P N call ops o s K=some r):
  ∃s',K s'=some r∧∀(next:Act->World->Prop) (Q:Exit->Act->World->Prop),(∀a' w' β',Ch N w0 X0 Y β' s' a' w'->next a' w') ->
   if Region.wanted o (yielded ops a.tmps) then o.wpIn (WF ro) n P a w next Q else (∀f,o.about P w a.eval=some f->(WF ro).fn f)∧next (a.put o.dst undef) w:=by
 rw[RN] at hk
 have hw:∀b,I4 ops o s.tm=some b->Region.wanted o (yielded ops a.tmps)=b:=by
  intro b hb;unfold I4 at hb;unfold Region.wanted;cases hg:o.guard with
  |none=>rw[hg] at hb;simpa using hb
  |some q=>
   obtain⟨j,want⟩:=q;rw[hg] at hb;simp only at hb ⊢;cases hd:(ops[j]?).bind (·.dst) with
   |none=>rw[hd] at hb;cases hb
   |some d=>
    rw[hd] at hb;simp only at hb;split at hb
    ·rename_i b' ht;rw[Yb h hd ht];simp at hb;rw[←hb];cases b'<;>cases want<;>rfl
    ·rename_i ht;rw[Yb h hd ht];simp at hb;rw[hb];rfl
    ·cases hb
 split at hk
 ·cases hk
 ·rename_i hv;obtain⟨s',hs',hn⟩:=VU h Kg Dj hk;refine⟨s',hs',fun next Q TC=>?_⟩
  simp only[hw _ hv,if_true];exact JO XJ (hn next Q TC)
 ·rename_i hv;obtain⟨hd,hk⟩:=A3 hk;refine⟨_,hk,fun next Q TC=>?_⟩
  simp only[hw _ hv];exact⟨fun _ _=>trivial,TC _ _ β (h.put hd (A8.sc _) (by simp[Cm,Cw,A7]))⟩
theorem FM {G:Xl}(Kg:QA P G w0 X0)(Dj:∀f args res,call f args=some res->Dl G P f args res){Q:Exit->Act->World->Prop}(hQ:∀s' a' w' β',K s'=some r->Ch N w0 X0 Y β' s' a' w'->Q .normal a' w'):
  ∀(li:List Nat) (os:List Oper),li.length=os.length->(∀(k i:Nat),li[k]?=some i->ops[i]?=os[k]?)->os.all Ad6=true->∀{s:St} {a:Act} {w:World} {β:Bt},Ch N w0 X0 Y β s a w->L7 C P N call ops os s K=some r->wpOpsIn (WF ro) n P ops Q li a w
 |[],[],_,_,_,s,a,w,β,h,hk=>by
  show Q .normal a w;exact hQ s a w β hk h
 |[],_::_,hl,_,_,_,_,_,_,_,_=>by cases hl
 |_::_,[],hl,_,_,_,_,_,_,_,_=>by cases hl
 |i::li,o::os,hl,hi,XJ,s,a,w,β,h,hk=>by
  obtain⟨s1,hk,h⟩:=Y4 h hk;rw[List.all_cons,Bool.and_eq_true] at XJ;have hio:ops[i]?=some o:=by simpa using hi 0 i rfl
  obtain⟨s',hs',hn⟩:=PE (ro:=ro) (n:=n) h Kg Dj XJ.1 hk;unfold wpOpsIn;rw[hio];exact hn _ _ fun a' w' β' h'=>FM Kg Dj hQ li os (by simpa using hl) (fun k j hj=>by simpa using hi (k+1) j (by simpa using hj)) XJ.2 h' hs'
theorem PJ {c:Code}{Q:Exit->Act->World->Prop}{F:(St->Option R)->St->Option R} {nm:St->(St->Option R)->Option R}
  (hnm:∀{β s a w} {K:St->Option R},Ch N w0 X0 Y β s a w->nm s K=some r->∃β' s',K s'=some r∧Ch N w0 X0 Y β' s' a w)
  (hF:∀{β s a w} {K:St->Option R}{Q':Act->World->Prop},Ch N w0 X0 Y β s a w->F K s=some r->(∀s' a' w' β',K s'=some r->Ch N w0 X0 Y β' s' a' w'->Q' a' w')->c.wpIn (WF ro) n P (Exit.then Q' Q) a w):
  ∀(m:Nat) {β s a w},Ch N w0 X0 Y β s a w->XT F nm m s=some r->Code.roundsIn (WF ro) n P c Q m a w
 |0,_,_,_,_,_,hk=>by cases hk
 |m+1,β,s,a,w,h,hk=>by
  rw[roundsIn_succ];refine hF h hk fun s' a' w' β' J4 h'=>?_
  obtain⟨β1,s1,Em,h1⟩:=hnm h' J4;exact PJ hnm hF m h1 Em
theorem PS {G:Xl}(Kg:QA P G w0 X0)(Dj:∀f args res,call f args=some res->Dl G P f args res)(hm:P.follows .mixedOrders=true){fu:Nat}:
  ∀(c:Code),okR c=true->∀{ln:Nat} {lx:Nat->Nat} {lr:Nat} {kn:St->Option R} {kx:Nat->St->Option R} {kr:St->Option R} {β:Bt} {s:St} {a:Act} {w:World} {Q:Exit->Act->World->Prop},(∀a w,¬Q .outgrown a w)->Ch N w0 X0 Y β s a w ->
   Oj C P fu N call c ln lx lr kn kx kr s=some r->(∀s' a' w' β',kn s'=some r->Ch N w0 X0 Y β' s' a' w'->Q .normal a' w') ->
   (∀id s' a' w' β',kx id s'=some r->Ch N w0 X0 Y β' s' a' w'->Q (.exit id) a' w')->(∀s' a' w' β',kr s'=some r->Ch N w0 X0 Y β' s' a' w'->Q .ret a' w')->c.wpIn (WF ro) n P Q a w:=by
 intro c
 induction c with
 |skip=>intro _ ln lx lr kn kx kr β s a w Q GZ h hk hn hx hr;exact wpIn_skip (hn s a w β hk h)
 |region id ops draw=>
  intro ho ln lx lr kn kx kr β s a w Q GZ h hk hn hx hr;unfold okR at ho;unfold Oj at hk;cases draw
  ·simp only[XZ,Bool.false_and,cond_false] at hk;refine wpIn_region (FM Kg Dj hn (List.range ops.size) ops.toList (by simp) (fun k i hi=>?_) ho h hk)
   rw[List.getElem?_range] at hi
   ·simp at hi;subst hi;simp
   ·rcases Nat.lt_or_ge k ops.size with h'|h'
    ·exact h'
    ·rw[List.getElem?_eq_none (by simpa using h')] at hi;cases hi
  ·have hLo:¬LetsOut Q:=fun ⟨a,w,q⟩=>GZ a w q
   simp only[XZ,Av1,Bool.true_and,cond_true] at hk;cases hb:SO C P ops<;>rw[hb] at hk
   ·obtain⟨J0,Em⟩:=A3 (show Aw _ _=some r from hk)
    exact wpIn_region_any hm (V0 hLo ho _ _ _ _ (Zr h Kg Dj hm J0 Em hn))
   ·exact wpIn_region_any hm (V0 hLo ho _ _ _ _ (Wp h Kg Dj hm hb hk hn))
 |seq c1 c2 ih1 ih2=>
  intro ho ln lx lr kn kx kr β s a w Q GZ h hk hn hx hr;unfold okR at ho;rw[Bool.and_eq_true] at ho;unfold Oj at hk
  refine wpIn_seq (ih1 ho.1 (fun a w=>GZ a w) h hk (fun s' a' w' β' J4 h'=>by
    cases hc:Alb P c1 c2
    ·rw[hc] at J4;exact ih2 ho.2 GZ h' J4 hn hx hr
    ·rw[hc] at J4;cases hq:JK c1 c2
     ·rw[hq] at J4;obtain⟨β1,s1,Em,h1⟩:=Cl h' (show Jz _ _ _ _=some r from J4)
      exact ih2 ho.2 GZ h1 (DI Em) hn hx hr
     ·rw[hq] at J4;obtain⟨β1,s1,Em,h1⟩:=OU h' (show Agz _ _ _ _=some r from J4)
      exact ih2 ho.2 GZ h1 (DI Em) hn hx hr) (fun id s' a' w' β' J4 h'=>hx id s' a' w' β' J4 h') (fun s' a' w' β' J4 h'=>hr s' a' w' β' J4 h'))
 |cond c c1 c2 ih1 ih2=>
  intro ho ln lx lr kn kx kr β s a w Q GZ h hk hn hx hr;unfold okR at ho;rw[Bool.and_eq_true] at ho;unfold Oj at hk;rcases PC h hk with⟨hc,Em⟩|⟨hc,Em⟩
  ·exact wpIn_cond_true hc (ih1 ho.1 GZ h Em hn hx hr)
  ·exact wpIn_cond_false hc (ih2 ho.2 GZ h Em hn hx hr)
 |block id c ih=>
  intro ho ln lx lr kn kx kr β s a w Q GZ h hk hn hx hr;unfold okR at ho;unfold Oj at hk;refine wpIn_block (ih ho (fun a w=>GZ a w) h hk (fun s' a' w' β' J4 h'=>hn s' a' w' β' J4 h') (fun j s' a' w' β' J4 h'=>?_) (fun s' a' w' β' J4 h'=>hr s' a' w' β' J4 h'))
  show (if j=id then _ else _)
  by_cases e:j=id
  ·subst e;rw[Co rfl];rw[Nat.beq_refl] at J4;exact hn s' a' w' β' J4 h'
  ·rw[Bp e]
   have:Nat.beq j id=false:=by
    cases hb:Nat.beq j id
    ·rfl
    ·exact absurd (Nat.eq_of_beq_eq_true hb) e
   rw[this] at J4;exact hx j s' a' w' β' J4 h'
 |loop c ih=>
  intro ho ln lx lr kn kx kr β s a w Q GZ h hk hn hx hr;unfold okR at ho;unfold Oj at hk;obtain⟨β1,s1,Em,h1⟩:=Cl h hk;refine wpIn_loop_rounds fu (PJ (fun h hk=>Cl h hk) (fun h hk hQ=>?_) fu h1 Em)
  exact ih ho (fun a w=>GZ a w) h hk hQ (fun id s' a' w' β' J4 h'=>hx id s' a' w' β' J4 h') (fun s' a' w' β' J4 h'=>hr s' a' w' β' J4 h')
 |«exit» id=>intro _ ln lx lr kn kx kr β s a w Q GZ h hk hn hx hr;exact wpIn_exit (hx id s a w β hk h)
 |ret=>intro _ ln lx lr kn kx kr β s a w Q GZ h hk hn hx hr;exact wpIn_ret (hr s a w β hk h)
 |_=>intro ho;cases ho
end
end
section
open Go.IntKind (wrap)
open Go Go.RowKit
theorem R6:∀(l:List (Nat × PV)) (i:Nat),lk l i=.top∨∃q∈l,q.1=i∧lk l i=q.2
 |[],_=>.inl rfl
 |(j,p)::l,i=>by
  by_cases e:i=j
  ·subst e;refine .inr ⟨(i,p),by simp,rfl,?_⟩
   simp[lk,Nat.beq_refl]
  ·have hb:Nat.beq i j=false:=by
    cases h:Nat.beq i j
    ·rfl
    ·exact absurd (Nat.eq_of_beq_eq_true h) e
   have J0:Nat.beq j i=false:=by
    cases h:Nat.beq j i
    ·rfl
    ·exact absurd (Nat.eq_of_beq_eq_true h).symm e
   have h1:lk ((j,p)::l) i=lk l i:=by simp[lk,hb,J0]
   rw[h1];rcases R6 l i with h|⟨q,hq,h2,h3⟩
   ·exact .inl h
   ·exact .inr ⟨q,List.mem_cons_of_mem _ hq,h2,h3⟩
theorem S6:∀(l:List (Nat × Cb)) (i:Nat),B7 l i=none∨∃q∈l,q.1=i∧B7 l i=some q.2
 |[],_=>.inl rfl
 |(j,p)::l,i=>by
  by_cases e:i=j
  ·subst e;refine .inr ⟨(i,p),by simp,rfl,?_⟩
   simp[B7,Nat.beq_refl]
  ·have hb:Nat.beq i j=false:=by
    cases h:Nat.beq i j
    ·rfl
    ·exact absurd (Nat.eq_of_beq_eq_true h) e
   have J0:Nat.beq j i=false:=by
    cases h:Nat.beq j i
    ·rfl
    ·exact absurd (Nat.eq_of_beq_eq_true h).symm e
   have h1:B7 ((j,p)::l) i=B7 l i:=by simp[B7,hb,J0]
   rw[h1];rcases S6 l i with h|⟨q,hq,h2,h3⟩
   ·exact .inl h
   ·exact .inr ⟨q,List.mem_cons_of_mem _ hq,h2,h3⟩
theorem Aa2 {P:Program}{a:Act}{w:World}{o:Oper}{c:Call}{t l:Nat}(ho:o.op=.call c)(hc:c.callee=.value (.tmp t)) (ht:a.eval (.tmp t)=.func (.yield l) #[] #[]) {r:Result Next}(hy:(Instr.yield l (c.args.map a.eval)).run P w=r):
  (execOp a.eval o).run P w=r:=by
 unfold execOp;rw[ho];simp[resolve,hc,ht,Deferred.ofValue,invoke,hy]
section
variable {P:Program} {C:Kf} {N:Nat} {call:Ah} {w0:World} {X0:Gg} {Y:Nat->Prop} {R:Type} {r:R} {β:Bt} {s:St} {a:Act} {w:World} {o:Oper} {ops:Array Oper} {K:St->Option R} {ro:Option Nat} {n:Nat}
theorem Ch.part (h:Ch N w0 X0 Y β s a w)(tm':Nat->PV)(Di:Nat->Option Cb)(ht:∀i,tm' i=.top∨tm' i=s.tm i)(hh:∀id,Di id=none∨Di id=s.hp id)
  (hw:∀i,i<N->∀id∈Cm (tm' i),Di id≠none) (hwB:∀id cells,Di id=some (.st cells)->∀c∈cells,∀id'∈A7 c,Di id'≠none) (CK:∀i,X0.pn i->Di (D0 N i)≠none):Ch N w0 X0 Y β ⟨tm',Di⟩ a w:=by
 have hX:∀b,HZ Di β b->HZ s.hp β b:=by
  rintro b ⟨id,o,h1,h2⟩
  rcases hh id with e|e
  ·rw[e] at h1;exact h1.elim
  ·rw[e] at h1;exact⟨id,o,h1,h2⟩
 have hA:∀b,Du Di β Y b->Du s.hp β Y b:=fun b hb=>hb.elim (fun x=>.inl (hX b x)) .inr
 have hs:∀{id bx},Di id=some bx->s.hp id=some bx:=by
  intro id bx e;rcases hh id with e'|e'
  ·rw[e'] at e;cases e
  ·rw[←e'];exact e
 have hn:∀{id},Di id≠none->s.hp id≠none:=by
  intro id e;rcases hh id with e'|e'
  ·exact absurd e' e
  ·rw[←e'];exact e
 have hl:∀{id},C5 (Di id)->C5 (s.hp id):=by
  intro id e;rcases hh id with e'|e'
  ·rw[e'] at e;exact e.elim
  ·rw[←e'];exact e
 have G0:C2 (Du s.hp β Y) w w:=⟨Nat.le_refl _,fun _ _ _=>rfl,fun _ _=>Nat.le_refl _⟩
 refine⟨h.dfr,h.tsz,fun i hi=>?_,fun i hi=>?_,fun id bx Ow=>?_,fun id id' b o o' h1 h2=>h.inj id id' b o o' (hl h1) (hl h2),fun id b o h1 h2=>h.blt id b o (hn h1) h2,hw,hwB,fun b hb=>h.ownd b (hX b hb),fun id bx b o h1 h2 h3 h4=>h.rngB id bx b o (hs h1) h2 h3 h4,
  fun i hi=>⟨CK i hi,(h.pin i hi).2⟩,fun id c b o h1=>h.stp id c b o (hs h1),fun b hy hx=>h.Yx b hy (hX b hx),h.Ylt,h.fr⟩
 ·rcases ht i with e|e
  ·exact e
  ·exact e.trans (h.tmo i hi)
 ·show Et w (Du Di β Y) β (tm' i) _;rcases ht i with e|e
  ·rw[e];exact A8.top _
  ·rw[e];exact (h.tms i hi).step G0 (fun b _=>hA b) fun _ _=>rfl
 ·have h0:=h.box id bx (hs Ow);exact h0.step' hA
theorem Ch.pick (h:Ch N w0 X0 Y β s a w)(l:List (Nat × PV)) (bl:List (Nat × Cb)) (hl:∀q∈l,q.2=s.tm q.1)(hb:∀q∈bl,some q.2=s.hp q.1)
  (hw:∀q∈l,∀id∈Cm q.2,B7 bl id≠none)(hwB:∀q∈bl,∀cells,q.2=.st cells->∀c∈cells,∀id'∈A7 c,B7 bl id'≠none)(CK:∀i,X0.pn i->B7 bl (D0 N i)≠none):Ch N w0 X0 Y β ⟨lk l,B7 bl⟩ a w:=by
 refine h.part (lk l) (B7 bl) (fun i=>?_) (fun id=>?_) (fun i _ id B6=>?_) (fun id cells e=>?_) CK
 ·rcases R6 l i with e|⟨q,hq,h1,h2⟩
  ·exact .inl e
  ·exact .inr (by rw[h2,hl q hq,h1])
 ·rcases S6 bl id with e|⟨q,hq,h1,h2⟩
  ·exact .inl e
  ·exact .inr (by rw[h2,hb q hq,h1])
 ·rcases R6 l i with e|⟨q,hq,h1,h2⟩
  ·rw[e] at B6;simp[Cm,Cw,A7] at B6
  ·rw[h2] at B6;exact hw q hq id B6
 ·rcases S6 bl id with e'|⟨q,hq,h1,h2⟩
  ·rw[e'] at e;cases e
  ·rw[h2] at e;exact hwB q hq cells (by injection e)
theorem Hh {G:Xl}(Kg:QA P G w0 X0)(Dj:∀f args res,call f args=some res->Dl G P f args res){Q:Exit->Act->World->Prop}{rest:List Nat}(hQ:∀s' a' w' β',K s'=some r->Ch N w0 X0 Y β' s' a' w'->wpOpsIn (WF ro) n P ops Q rest a' w'):
  ∀(li:List Nat) (os:List Oper),li.length=os.length->(∀(k i:Nat),li[k]?=some i->ops[i]?=os[k]?)->os.all Ad6=true->∀{s:St} {a:Act} {w:World} {β:Bt},Ch N w0 X0 Y β s a w->L7 C P N call ops os s K=some r->wpOpsIn (WF ro) n P ops Q (li++rest) a w
 |[],[],_,_,_,s,a,w,β,h,hk=>hQ s a w β hk h
 |[],_::_,hl,_,_,_,_,_,_,_,_=>by cases hl
 |_::_,[],hl,_,_,_,_,_,_,_,_=>by cases hl
 |i::li,o::os,hl,hi,XJ,s,a,w,β,h,hk=>by
  obtain⟨s1,hk,h⟩:=Y4 h hk;rw[List.all_cons,Bool.and_eq_true] at XJ;have hio:ops[i]?=some o:=by simpa using hi 0 i rfl
  obtain⟨s',hs',hn⟩:=PE (ro:=ro) (n:=n) h Kg Dj XJ.1 hk;rw[Zzp];unfold wpOpsIn;rw[hio];exact hn _ _ fun a' w' β' h'=>Hh Kg Dj hQ li os (by simpa using hl) (fun k j hj=>by simpa using hi (k+1) j (by simpa using hj)) XJ.2 h' hs'
end
end
section
open Go.IntKind (wrap)
open Go Go.RowKit
abbrev Ul (ds:List Deferred)(a:Act):Act:={ a with defers:=a.defers++ds }
def TD (ds:List Deferred)(Q:Exit->Act->World->Prop):Exit->Act->World->Prop:=fun e a w=>∃a0:Act,a=Ul ds a0∧Q e a0 w
section
variable {P:Program} {ops:Array Oper} {Q:Exit->Act->World->Prop} {ro:Option Nat} {n:Nat} {ds:List Deferred}
theorem S3 (a:Act)(d:Option Tmp)(v:Value):(Ul ds a).put d v=Ul ds (a.put d v):=by cases d<;>rfl
theorem Au6 (h:LetsOut Q):LetsOut (TD ds Q):=let ⟨a,w,q⟩:=h;⟨_,w,a,rfl,q⟩
theorem Apq {o:Oper}{a:Act}{w:World}{K K':Act->World->Prop}(hK:∀a w,K a w->K' (Ul ds a) w) (h:o.wpIn (WF ro) n P a w K Q):o.wpIn (WF ro) n P (Ul ds a) w K' (TD ds Q):=by
 refine⟨fun _ _=>trivial,?_⟩
 have h:=h.2;show o.uponIn _ _ _ _ _ _ ((o.semAt (WF ro).round a.eval).run P w);generalize (o.semAt (WF ro).round a.eval).run P w=q at h;cases q with
 |halt x w'=>cases x<;>first|exact⟨a,rfl,h⟩|exact h.elim
 |ok v w'=>
  cases v with
  |value v=>show K' ((Ul ds a).put o.dst v) w';rw[S3];exact hK _ _ h
  |skip=>show K' ((Ul ds a).put o.dst undef) w';rw[S3];exact hK _ _ h
  |defer d=>
   show K' (({ (Ul ds a) with defers:=d::(Ul ds a).defers }:Act).put o.dst undef) w';rw[show ({ (Ul ds a) with defers:=d::(Ul ds a).defers }:Act)=Ul ds { a with defers:=d::a.defers } from rfl,S3]
   exact hK _ _ h
  |enter f args=>
   refine⟨h.1,h.2.mono ?_⟩;intro e w'' he;cases e with
   |returned v=>show K' ((Ul ds a).put o.dst v) w'';rw[S3];exact hK _ _ he
   |panicked c=>exact⟨a,rfl,he⟩
   |outgrown=>exact Au6 he
  |row row args=>
   refine⟨h.1,h.2.mono ?_⟩;intro v w'' he;show K' ((Ul ds a).put o.dst v) w'';rw[S3];exact hK _ _ he
  |round l f tmps assign body=>
   refine⟨h.1,h.2.mono ?_⟩;intro e w'' he;cases e with
   |returned v=>show K' ((Ul ds a).put o.dst v) w'';rw[S3];exact hK _ _ he
   |panicked c=>exact⟨a,rfl,he⟩
   |outgrown=>exact Au6 he
  |_=>exact h.elim
theorem Ya:∀(li:List Nat){a:Act}{w:World},wpOpsIn (WF ro) n P ops Q li a w->wpOpsIn (WF ro) n P ops (TD ds Q) li (Ul ds a) w
 |[],a,w,h=>⟨a,rfl,h⟩
 |i::li,a,w,h=>by
  rw[wpOpsIn_cons] at h ⊢;unfold wpOpIn at h ⊢;cases ho:ops[i]? with
  |none=>rw[ho] at h;exact Ya li h
  |some o=>
   rw[ho] at h;simp only at h ⊢;by_cases hw:Region.wanted o (yielded ops a.tmps)=true
   ·rw[Co hw] at h ⊢;exact Apq (fun a w=>Ya li) h
   ·rw[Bp hw] at h ⊢;refine⟨fun _ _=>trivial,?_⟩
    rw[S3];exact Ya li h.2
end
structure Ajs (w w':World):Prop where
 os:w'.os=w.os
 tape:w'.tape=w.tape
 output:w'.output=w.output
 size:w'.heap.size=w.heap.size
 cell:∀a,w'.cell? a=w.cell? a
 frz:∀a,w'.frozen? a=w.frozen? a
 bs:∀b,bsz w' b=bsz w b
theorem A8.same {w w':World}{A:Nat->Prop}(h:Ajs w w'){p:PV}{v:Value}(t:A8 w A p v):A8 w' A p v:=by
 induction t with
 |sc v=>exact .sc v
 |top v=>exact .top v
 |ub b=>exact .ub b
 |lnil z es=>exact .lnil z es
 |lemp es a cap=>exact .lemp es a cap
 |lst es n cells a cap f hs hb hA1 hn hc h1 hr ih=>exact .lst es n cells a cap f hs (by rw[h.size];exact hb) hA1 hn (fun j c hj=>by rw[h.cell];exact hc j c hj) h1 (fun j c hj=>ih j c hj)
theorem XP.same {w w':World}{A:Nat->Prop}(h:Ajs w w'){a:Addr}{c:List PV}(t:XP w A a c):XP w' A a c:=fun j x hj=>by
 obtain⟨v,h1,h2,h3⟩:=t j x hj;exact⟨v,by rw[h.cell];exact h1,h2,h3.same h⟩
theorem Cu.same {w w':World}{A:Nat->Prop}{β:Nat->Option (Nat × Nat)} (h:Ajs w w'){p:PV}{v:Value}(t:Cu w A β p v):Cu w' A β p v:=by
 cases p with
 |view id es off n=>
  rcases t with t|⟨b,o,x,cap,h1,h2,hx,h3,h4,h5⟩
  ·exact .inl t
  ·exact .inr ⟨b,o,x,cap,h1,h2,hx,h3,by rw[h.bs];exact h4,by rw[h.size];exact h5⟩
 |ptr id off=>exact t
 |iptr c off=>
  obtain⟨a,h1,h2,h3,h4,h5⟩:=t;exact⟨a,h1,h2,by rw[h.size];exact h3,h4,h5.same h⟩
 |_=>exact A8.same h t
theorem B8.imp' {α β:Type}{R S:α->β->Prop}{zs:List α}{bs:List β}(h:B8 R zs bs)(f:∀a b,R a b->S a b):B8 S zs bs:=h.mono f
theorem I7.same {w w':World}{A:Nat->Prop}{β:Nat->Option (Nat × Nat)} (h:Ajs w w'){p:PV}{v:Value}(t:I7 w A β p v):I7 w' A β p v:=by
 cases p with
 |agg cs=>obtain⟨vs,h1,h2⟩:=t;exact⟨vs,h1,h2.imp' fun _ _=>Cu.same h⟩
 |_=>exact (Yq (by intro cs e;cases e)).2 (Cu.same h ((Yq (by intro cs e;cases e)).1 t))
theorem Et.same {w w':World}{A:Nat->Prop}{β:Nat->Option (Nat × Nat)} (h:Ajs w w'){p:PV}{v:Value}(t:Et w A β p v):Et w' A β p v:=by
 cases p with
 |tup cs=>obtain⟨vs,h1,h2⟩:=t;exact⟨vs,h1,h2.imp' fun _ _=>I7.same h⟩
 |_=>exact (Si (by intro cs e;cases e)).2 (I7.same h ((Si (by intro cs e;cases e)).1 t))
theorem Ch.same {N:Nat}{w0 w w':World}{X0:Gg}{Y:Nat->Prop}{β:Bt}{s:St}{a:Act}(h:Ch N w0 X0 Y β s a w)(hs:Ajs w w')(h0:∀b,b<w0.heap.size->w'.heap[b]?=w.heap[b]?):Ch N w0 X0 Y β s a w':=by
 refine⟨h.dfr,h.tsz,h.tmo,fun i hi=>(h.tms i hi).same hs,fun id bx e=>?_,h.inj,fun id b o h1 h2=>by rw[hs.size];exact h.blt id b o h1 h2,h.wfT,h.wfB,h.ownd,h.rngB,h.pin,h.stp,h.Yx,h.Ylt,
  ⟨hs.os.trans h.fr.os,hs.tape.trans h.fr.tape,hs.output.trans h.fr.output,⟨by rw[hs.size];exact h.fr.step.size,fun b hb hn=>(h0 b hb).trans (h.fr.step.keep b hb hn),fun b hb=>by rw[hs.bs];exact h.fr.step.bs b hb⟩,fun b j hb hn=>by rw[hs.cell,hs.frz];exact h.fr.rng b j hb hn⟩⟩
 have h1:=h.box id bx e;cases bx with
 |st c=>
  obtain⟨b,o,g1,g2,g3⟩:=h1;refine⟨b,o,g1,fun j c hj=>?_,fun j hj=>by rw[hs.frz];exact g3 j hj⟩
  obtain⟨v,k1,k2⟩:=g2 j c hj;exact⟨v,by rw[hs.cell];exact k1,k2.same hs⟩
 |ar fz c=>
  rcases h1 with h1|⟨b,o,g1,g2,g3,g4⟩
  ·exact .inl h1
  ·exact .inr ⟨b,o,g1,g2.same hs,fun hf j hj hjb=>by rw[hs.frz];exact g3 hf j hj (by rw[←hs.bs];exact hjb),g4⟩
 |mv=>trivial
theorem OO {w:World}{D:Nat}{x y:Option (List Deferred)} (h:w.heap[D]?=some (.deferred x)):Ajs w (w.putObj D (.deferred y)):=by
 have hD:D<w.heap.size:=(Array.getElem?_eq_some_iff.1 h).1;have hs:(w.putObj D (.deferred y)).heap[D]?=some (.deferred y):=World.putObj_heap_same hD;refine⟨rfl,rfl,rfl,by simp,fun a=>?_,fun a=>?_,fun b=>?_⟩
 ·by_cases e:a.block=D
  ·unfold World.cell?;rw[e,hs,h]
  ·exact World.cell?_of_block (World.putObj_heap_other e)
 ·by_cases e:a.block=D
  ·unfold World.frozen?;rw[e,hs,h]
  ·unfold World.frozen?;rw[World.putObj_heap_other e]
 ·by_cases e:b=D
  ·subst e;unfold bsz;rw[hs,h]
  ·unfold bsz;rw[World.putObj_heap_other e]
end
section
open Go.Proofs.Tryz (prog)
open Go.IntKind (wrap)
set_option maxRecDepth 100000
abbrev Qv:FuncId:=54
theorem DC (fu d:Nat)(a0:Int):Ad C0 prog fu (d+1) Qv [.sc (.int .i64 a0)]=(fun (call:Ah)=>Bm (decide (a0>=0)) (some (A4.mk [.sc (.bool (decide (a0<=4)))] [])) (some (A4.mk [.sc (.bool false)] []))) (Ad C0 prog fu d):=by kernel_rfl
abbrev Ry:FuncId:=100
noncomputable def Im (fu:Nat)(call:Ah)(a0:Int)(nn:Nat)(y0:Int)(y1:Nat)(y2 y3:Int)(y4:List PV):Option A4:=Dd CB prog fu call 100 Tryz.f100 (B9 Tryz.f100) [.sc (.int .u64 a0)] [.r,.r,.r,.l,.r,.l] nn ⟨lk [(0,(.sc (.int .u64 y0))),(3,(.view 3 1 0 y1)),(4,(.sc (.int .i64 y2))),(5,(.sc (.int .i64 y3)))],B7 [(3,(.ar false y4))]⟩
theorem Ot (fu:Nat)(call:Ah)(a0:Int)(nn:Nat)(y0:Int)(y1:Nat)(y2 y3:Int)(y4:List PV):Im fu call a0 (nn+1) y0 y1 y2 y3 y4=(Bm (decide (y3>=0)) (Aa (wrap .i64 (4*y3)) fun x1=>Aa (wrap .u64 x1) fun x2=>Aw (decide (0<=x2))<|Aa (Ft .u64 y0 x2) fun x3=>Aa (Wo .u64 x3 15) fun x4=>Aa (wrap .i64 x4) fun x5=>Aw (decide (y1*1<=y4.length)&&true&&decide ((y1+1)*8<=1099511627776)&&decide (y1+1<=1099511627776))<|Aa (y1+1) fun x6=>Aa (List.take (y1*1) y4++[.sc (.int .i64 x5)]) fun x7=>Aa (wrap .i64 (15-x5)) fun x8=>Aa (wrap .i64 (y2+x8)) fun x9=>Aa (wrap .i64 (y3-1)) fun Cy=>Im fu call a0 (nn) (y0) x6 x9 Cy x7) (Aa (wrap .i64 (Int.tdiv y2 16)) fun C4=>Aa (Int.tmod y2 16) fun D1=>Aw (decide (y1*1<=y4.length)&&true&&decide ((y1+2)*8<=1099511627776)&&decide (y1+2<=1099511627776))<|Aa (y1+2) fun Ed=>Aa (List.take (y1*1) y4++[.sc (.int .i64 C4),.sc (.int .i64 D1)]) fun Dn=>Aw (decide (Ed*1<=Dn.length))<|some (A4.mk [.own 1 Ed (List.take (Ed*1) Dn)] []))):=by kernel_rfl
theorem EW (fu d:Nat)(a0:Int):Ad C0 prog fu (d+1) Ry [.sc (.int .u64 a0)]=(fun (call:Ah)=>Im fu call a0 (fu) (a0) 0 0 15 ([])) (Ad C0 prog fu d):=by kernel_rfl
abbrev Vc:FuncId:=101
noncomputable def Jr (fu:Nat)(call:Ah)(a0 a1:Int)(a2 a3 a4:Int)(nn:Nat)(y0 y1:Int)(y2 y3 y4:Int):Option A4:=Dd CB prog fu call 101 Tryz.f101 (B9 Tryz.f101) [.sc (.int .i64 a0),.sc (.int .i64 a1),.sc (.int .i64 a2),.sc (.int .i64 a3),.sc (.int .u64 a4)] [.r,.l,.r,.l] nn ⟨lk [(0,(.sc (.int .i64 y0))),(1,(.sc (.int .i64 y1))),(3,(.sc (.int .i64 y2))),(4,(.sc (.int .u64 y3))),(11,(.sc (.int .i64 y4)))],B7 []⟩
theorem Ql (fu:Nat)(call:Ah)(a0 a1:Int)(a2 a3 a4:Int)(nn:Nat)(y0 y1:Int)(y2 y3 y4:Int):Jr fu call a0 a1 a2 a3 a4 (nn+1) y0 y1 y2 y3 y4=(Aa (if 15<y2 then 15 else y2) fun x2=>Bm (decide (y4<x2)) (Aa (wrap .u64 y0) fun x3=>Aa (wrap .u64 y1) fun x4=>Aa (wrap .u64 y4) fun x5=>Aj (call 79 [.lst false 1 4 [.sc (.int .u64 x3),.sc (.int .u64 x4),.sc (.int .u64 x5),.sc (.int .u64 y3)]]) fun x6 x7=>Ac x7<|Ab x6 fun x8 x9=>F5 1 x8 fun Cy C4=>Ac x9<|Aw (decide (0+Cy*1<=C4.length))<|Aj (call 33 [.sc (.int .i64 1),.lst false 1 Cy (List.take (Cy*1) (List.drop 0 C4))]) fun D1 Ed=>Ac Ed<|Ab D1 fun Dn Eg=>Ae .u64 Dn fun Ez=>Ac Eg<|Aa (wrap .i64 (y4+1)) fun Fq=>Jr fu call a0 a1 a2 a3 a4 (nn) (y0) (y1) (y2) Ez Fq) (some (A4.mk [.sc (.int .u64 y3)] []))):=by kernel_rfl
theorem JT (fu d:Nat)(a0 a1:Int)(a2 a3 a4:Int):Ad C0 prog fu (d+1) Vc [.sc (.int .i64 a0),.sc (.int .i64 a1),.sc (.int .i64 a2),.sc (.int .i64 a3),.sc (.int .u64 a4)]=(fun (call:Ah)=>Aa (if a2<0 then 0 else a2) fun x1=>Jr fu call a0 a1 a2 a3 a4 (fu) (a0) (a1) (a3) (a4) x1) (Ad C0 prog fu d):=by kernel_rfl
abbrev Qu:FuncId:=102
theorem CA (fu d:Nat)(a0 a1 a2:Int):Ad C0 prog fu (d+1) Qu [.sc (.int .u64 a0),.sc (.int .i64 a1),.sc (.int .i64 a2)]=(fun (call:Ah)=>Aa (wrap .u64 a1) fun x1=>Aa (wrap .u64 a2) fun x2=>Aj (call 79 [.lst false 1 2 [.sc (.int .u64 x1),.sc (.int .u64 x2)]]) fun x3 x4=>Ac x4<|Ab x3 fun x5 x6=>F5 1 x5 fun x7 x8=>Ac x6<|Aw (decide (0+x7*1<=x8.length))<|Aj (call 85 [.sc (.int .u64 a0),.sc (.int .i64 1),.lst false 1 x7 (List.take (x7*1) (List.drop 0 x8))]) fun x9 Cy=>Ac Cy<|Ab x9 fun C4 D1=>Ae .u64 C4 fun Ed=>Ac D1<|some (A4.mk [.sc (.int .u64 Ed)] [])) (Ad C0 prog fu d):=by kernel_rfl
abbrev T7:FuncId:=116
theorem GN (fu d:Nat)(a0:Int)(Q9:Nat)(a1:List PV):Ad C0 prog fu (d+1) T7 [.sc (.int .i64 a0),.lst false 1 Q9 a1]=(fun (call:Ah)=>Aa (wrap .u64 a0) fun x1=>Aj (call 79 [.lst false 1 1 [.sc (.int .u64 x1)]]) fun x2 x3=>Ac x3<|Ab x2 fun x4 x5=>F5 1 x4 fun x6 x7=>Ac x5<|Aj (call 79 [.lst false 1 Q9 a1]) fun x8 x9=>Ac x9<|Ab x8 fun Cy C4=>F5 1 Cy fun D1 Ed=>Ac C4<|Aw (decide (0+D1*1<=Ed.length))<|Aw (decide (x6*1<=x7.length)&&decide (List.length (List.take (D1*1) (List.drop 0 Ed))=D1*1)&&decide ((x6+D1)*1<=1099511627776)&&decide (x6+D1<=1099511627776))<|Aa (x6+D1) fun Dn=>Aa (List.take (x6*1) x7++List.take (D1*1) (List.drop 0 Ed)) fun Eg=>Aw (decide (0+Dn*1<=Eg.length))<|Aj (call 33 [.sc (.int .i64 2),.lst false 1 Dn (List.take (Dn*1) (List.drop 0 Eg))]) fun Ez Fq=>Ac Fq<|Ab Ez fun F9 Fp=>Ae .u64 F9 fun F2=>Ac Fp<|some (A4.mk [.sc (.int .u64 F2)] [])) (Ad C0 prog fu d):=by kernel_rfl
abbrev Tr:FuncId:=94
noncomputable def I2 (fu:Nat)(call:Ah)(a0 a1:Int)(nn:Nat)(y0 y1:Int)(y2:Nat)(y3:Int)(y4:List PV):Option A4:=Dd CB prog fu call 94 Tryz.f94 (B9 Tryz.f94) [.sc (.int .u64 a0),.sc (.int .i64 a1)] [.r,.r,.l,.r,.l] nn ⟨lk [(0,(.sc (.int .u64 y0))),(1,(.sc (.int .i64 y1))),(5,(.view 5 1 0 y2)),(6,(.sc (.int .i64 y3)))],B7 [(5,(.ar false y4))]⟩
theorem Pg (fu:Nat)(call:Ah)(a0 a1:Int)(nn:Nat)(y0 y1:Int)(y2:Nat)(y3:Int)(y4:List PV):I2 fu call a0 a1 (nn+1) y0 y1 y2 y3 y4=(Bm (decide (y3<18)) (Aj (call 102 [.sc (.int .u64 y0),.sc (.int .i64 y1),.sc (.int .i64 y3)]) fun x1 x2=>Ac x2<|Ab x1 fun x3 x4=>Ae .u64 x3 fun x5=>Ac x4<|Aj (call 101 [.sc (.int .i64 y1),.sc (.int .i64 y3),.sc (.int .i64 0),.sc (.int .i64 15),.sc (.int .u64 x5)]) fun x6 x7=>Ac x7<|Ab x6 fun x8 x9=>Ae .u64 x8 fun Cy=>Ac x9<|Aw (decide (y2*1<=y4.length)&&true&&decide ((y2+1)*8<=1099511627776)&&decide (y2+1<=1099511627776))<|Aa (y2+1) fun C4=>Aa (List.take (y2*1) y4++[.sc (.int .u64 Cy)]) fun D1=>Aa (wrap .i64 (y3+1)) fun Ed=>I2 fu call a0 a1 (nn) (y0) (y1) C4 Ed D1) (Aw (decide (0+y2*1<=y4.length))<|Aj (call 116 [.sc (.int .i64 y1),.lst false 1 y2 (List.take (y2*1) (List.drop 0 y4))]) fun Dn Eg=>Ac Eg<|Ab Dn fun Ez Fq=>Ae .u64 Ez fun F9=>Ac Fq<|some (A4.mk [.sc (.int .u64 F9)] []))):=by kernel_rfl
theorem HD (fu d:Nat)(a0 a1:Int):Ad C0 prog fu (d+1) Tr [.sc (.int .u64 a0),.sc (.int .i64 a1)]=(fun (call:Ah)=>I2 fu call a0 a1 (fu) (a0) (a1) 0 0 ([])) (Ad C0 prog fu d):=by kernel_rfl
abbrev Ov:FuncId:=60
noncomputable def G6 (fu:Nat)(call:Ah)(a0 a1 a2:Int)(nn:Nat)(y0 y1:Int)(y2 y3:Nat)(y4:Int)(y5 y6:List PV):Option A4:=Dd CB prog fu call 60 Tryz.f60 (B9 Tryz.f60) [.sc (.int .u64 a0),.sc (.int .i64 a1),.sc (.int .u64 a2)] [.r,.r,.r,.l,.r,.l] nn ⟨lk [(0,(.sc (.int .u64 y0))),(1,(.sc (.int .i64 y1))),(7,(.view 7 1 0 y2)),(8,(.view 8 1 0 y3)),(9,(.sc (.int .i64 y4)))],B7 [(7,(.ar false y5)),(8,(.ar false y6))]⟩
theorem Lz (fu:Nat)(call:Ah)(a0 a1 a2:Int)(nn:Nat)(y0 y1:Int)(y2 y3:Nat)(y4:Int)(y5 y6:List PV):G6 fu call a0 a1 a2 (nn+1) y0 y1 y2 y3 y4 y5 y6=(Bm (decide (y4<18)) (Aw (decide (0<=y4)&&decide (y4<(↑y2:Int)))<|Ae .i64 (List.getD y5 (0+Int.toNat y4*1) .top) fun x7=>Aj (call 102 [.sc (.int .u64 y0),.sc (.int .i64 y1),.sc (.int .i64 y4)]) fun x8 x9=>Ac x9<|Ab x8 fun Cy C4=>Ae .u64 Cy fun D1=>Ac C4<|Aj (call 101 [.sc (.int .i64 y1),.sc (.int .i64 y4),.sc (.int .i64 0),.sc (.int .i64 x7),.sc (.int .u64 D1)]) fun Ed Dn=>Ac Dn<|Ab Ed fun Eg Ez=>Ae .u64 Eg fun Fq=>Ac Ez<|Aw (decide (y3*1<=y6.length)&&true&&decide ((y3+1)*8<=1099511627776)&&decide (y3+1<=1099511627776))<|Aa (y3+1) fun F9=>Aa (List.take (y3*1) y6++[.sc (.int .u64 Fq)]) fun Fp=>Aa (wrap .i64 (y4+1)) fun F2=>G6 fu call a0 a1 a2 (nn) (y0) (y1) (y2) F9 F2 (y5) Fp) (Aw (decide (y3*1<=y6.length))<|some (A4.mk [.own 1 y3 (List.take (y3*1) y6)] []))):=by kernel_rfl
theorem Yl (fu d:Nat)(a0 a1 a2:Int):Ad C0 prog fu (d+1) Ov [.sc (.int .u64 a0),.sc (.int .i64 a1),.sc (.int .u64 a2)]=(fun (call:Ah)=>Aj (call 100 [.sc (.int .u64 a2)]) fun x1 x2=>Ac x2<|Ab x1 fun x3 x4=>F5 1 x3 fun x5 x6=>Ac x4<|G6 fu call a0 a1 a2 (fu) (a0) (a1) x5 0 0 x6 ([])) (Ad C0 prog fu d):=by kernel_rfl
abbrev Q0:FuncId:=78
theorem BN (fu d:Nat)(a0 a1 a2:Int):Ad C0 prog fu (d+1) Q0 [.sc (.int .i64 a0),.sc (.int .u64 a1),.sc (.int .u64 a2)]=(fun (call:Ah)=>Aa (wrap .u64 a0) fun x1=>Aj (call 79 [.lst false 1 3 [.sc (.int .u64 x1),.sc (.int .u64 a1),.sc (.int .u64 a2)]]) fun x2 x3=>Ac x3<|Ab x2 fun x4 x5=>F5 1 x4 fun x6 x7=>Ac x5<|Aw (decide (0+x6*1<=x7.length))<|Aj (call 33 [.sc (.int .i64 3),.lst false 1 x6 (List.take (x6*1) (List.drop 0 x7))]) fun x8 x9=>Ac x9<|Ab x8 fun Cy C4=>Ae .u64 Cy fun D1=>Ac C4<|some (A4.mk [.sc (.int .u64 D1)] [])) (Ad C0 prog fu d):=by kernel_rfl
abbrev T8:FuncId:=55
theorem T0 (fu d:Nat)(a0 a1 a2:Int):Ad C0 prog fu (d+1) T8 [.sc (.int .u64 a0),.sc (.int .i64 a1),.sc (.int .i64 a2)]=(fun (call:Ah)=>Bm (a1==0) (Aj (call 94 [.sc (.int .u64 a0),.sc (.int .i64 a2)]) fun x1 x2=>Ac x2<|Ab x1 fun x3 x4=>Ae .u64 x3 fun x5=>Ac x4<|some (A4.mk [.sc (.int .u64 x5)] [])) (Aa (wrap .i64 (a1-1)) fun x6=>Aa (wrap .i64 (2*a2)) fun x7=>Aj (call 55 [.sc (.int .u64 a0),.sc (.int .i64 x6),.sc (.int .i64 x7)]) fun x8 x9=>Ac x9<|Ab x8 fun Cy C4=>Ae .u64 Cy fun D1=>Ac C4<|Aa (wrap .i64 (a1-1)) fun Ed=>Aa (wrap .i64 (2*a2)) fun Dn=>Aa (wrap .i64 (Dn+1)) fun Eg=>Aj (call 55 [.sc (.int .u64 a0),.sc (.int .i64 Ed),.sc (.int .i64 Eg)]) fun Ez Fq=>Ac Fq<|Ab Ez fun F9 Fp=>Ae .u64 F9 fun F2=>Ac Fp<|Aj (call 78 [.sc (.int .i64 a1),.sc (.int .u64 D1),.sc (.int .u64 F2)]) fun Iw Hl=>Ac Hl<|Ab Iw fun H3 E5=>Ae .u64 H3 fun Ep=>Ac E5<|some (A4.mk [.sc (.int .u64 Ep)] []))) (Ad C0 prog fu d):=by kernel_rfl
abbrev Q8:FuncId:=30
theorem BM (fu d:Nat)(a0 a1:Int):Ad C0 prog fu (d+1) Q8 [.sc (.int .u64 a0),.sc (.int .i64 a1)]=(fun (call:Ah)=>Aj (call 54 [.sc (.int .i64 a1)]) fun x1 x2=>Ac x2<|Ab x1 fun x3 x4=>B3 x3 fun x5=>Ac x4<|Bm (!x5) (some (A4.mk [.agg [.sc (.int .i64 0),.sc (.int .u64 0)],.sc (.int .i64 9)] [])) (Aj (call 55 [.sc (.int .u64 a0),.sc (.int .i64 a1),.sc (.int .i64 0)]) fun x6 x7=>Ac x7<|Ab x6 fun x8 x9=>Ae .u64 x8 fun Cy=>Ac x9<|some (A4.mk [.agg [.sc (.int .i64 a1),.sc (.int .u64 Cy)],.sc (.int .i64 0)] []))) (Ad C0 prog fu d):=by kernel_rfl
abbrev Sz:FuncId:=32
noncomputable def I0 (fu:Nat)(call:Ah)(a0 a1:Int)(a2 a3:Int)(nn:Nat)(y0 y1:Int)(y2 y3 y4:Int)(y5 y6:Nat)(y7 y8:List PV)(y9:Int)(y10 Er:Nat)(F1 H1:List PV):Option A4:=Dd CB prog fu call 32 Tryz.f32 (B9 Tryz.f32) [.sc (.int .u64 a0),.sc (.int .i64 a1),.sc (.int .i64 a2),.sc (.int .u64 a3)] [.r,.r,.r,.l,.r,.l] nn ⟨lk [(0,(.sc (.int .u64 y0))),(1,(.sc (.int .i64 y1))),(2,(.sc (.int .i64 y2))),(8,(.ptr 8 0)),(10,(.ptr 10 0)),(11,(.sc (.int .i64 y3)))],B7 [(8,(.st [(.sc (.int .i64 y4)),(.view 112 1 0 y5),(.view 164 1 0 y6)])),(112,(.ar false y7)),(164,(.ar false y8)),(10,(.st [(.sc (.int .i64 y9)),(.view 114 1 0 y10),(.view 166 1 0 Er)])),(114,(.ar false F1)),(166,(.ar false H1))]⟩
theorem O9 (fu:Nat)(call:Ah)(a0 a1:Int)(a2 a3:Int)(nn:Nat)(y0 y1:Int)(y2 y3 y4:Int)(y5 y6:Nat)(y7 y8:List PV)(y9:Int)(y10 Er:Nat)(F1 H1:List PV):I0 fu call a0 a1 a2 a3 (nn+1) y0 y1 y2 y3 y4 y5 y6 y7 y8 y9 y10 Er F1 H1=(Bm (decide (y3<y1)) (Aa (wrap .u64 y3) fun Dn=>Aw (decide (0<=Dn))<|Aa (Ft .i64 y2 Dn) fun Eg=>Aa (Fg .i64 Eg 1) fun Ez=>Aj (call 55 [.sc (.int .u64 y0),.sc (.int .i64 y3),.sc (.int .i64 Ez)]) fun Fq F9=>Ac F9<|Ab Fq fun Fp F2=>Ae .u64 Fp fun Iw=>Ac F2<|Aw (decide (Er*1<=H1.length)&&true&&decide ((Er+1)*8<=1099511627776)&&decide (Er+1<=1099511627776))<|Aa (Er+1) fun Hl=>Aa (List.take (Er*1) H1++[.sc (.int .u64 Iw)]) fun H3=>Aa (wrap .i64 (y3+1)) fun E5=>I0 fu call a0 a1 a2 a3 (nn) (y0) (y1) (y2) E5 (y4) (y5) (y6) (y7) (y8) (y9) (y10) Hl (F1) H3) (Aw (decide (y10*1<=F1.length))<|Aw (decide (Er*1<=H1.length))<|some (A4.mk [.agg [.sc (.int .i64 y9),.own 1 y10 (List.take (y10*1) F1),.own 1 Er (List.take (Er*1) H1)],.sc (.int .i64 0)] []))):=by kernel_rfl
theorem HG (fu d:Nat)(a0 a1:Int)(a2 a3:Int):Ad C0 prog fu (d+1) Sz [.sc (.int .u64 a0),.sc (.int .i64 a1),.sc (.int .i64 a2),.sc (.int .u64 a3)]=(fun (call:Ah)=>Aj (call 54 [.sc (.int .i64 a1)]) fun x1 x2=>Ac x2<|Ab x1 fun x3 x4=>B3 x3 fun x5=>Ac x4<|Bm (!x5) (some (A4.mk [.agg [.sc (.int .i64 0),.own 1 0 [],.own 1 0 []],.sc (.int .i64 9)] [])) (Bm (decide (a2<0)) (some (A4.mk [.agg [.sc (.int .i64 0),.own 1 0 [],.own 1 0 []],.sc (.int .i64 9)] [])) (Aa (wrap .u64 a1) fun x6=>Aw (decide (0<=x6))<|Aa (Jf .i64 1 x6) fun x7=>Bm (decide (a2>=x7)) (some (A4.mk [.agg [.sc (.int .i64 0),.own 1 0 [],.own 1 0 []],.sc (.int .i64 9)] [])) (Aj (call 60 [.sc (.int .u64 a0),.sc (.int .i64 a2),.sc (.int .u64 a3)]) fun x8 x9=>Ac x9<|Ab x8 fun Cy C4=>F5 1 Cy fun D1 Ed=>Ac C4<|I0 fu call a0 a1 a2 a3 (fu) (a0) (a1) (a2) 0 0 0 0 ([]) ([]) (a2) D1 0 Ed ([]))))) (Ad C0 prog fu d):=by kernel_rfl
abbrev Nd:FuncId:=96
theorem Xq (fu d:Nat)(Ag Ai:Int):Ad C0 prog fu (d+1) Nd [.agg [.sc (.int .i64 Ag),.sc (.int .u64 Ai)]]=(fun (call:Ah)=>Aj (call 54 [.sc (.int .i64 Ag)]) fun x1 x2=>Ac x2<|Ab x1 fun x3 x4=>B3 x3 fun x5=>Ac x4<|Bm (!x5) (some (A4.mk [.own 1 0 [],.sc (.int .i64 9)] [])) (Aa (wrap .u8 Ag) fun x6=>Aj (call 79 [.lst false 1 1 [.sc (.int .u64 Ai)]]) fun x7 x8=>Ac x8<|Ab x7 fun x9 Cy=>F5 1 x9 fun C4 D1=>Ac Cy<|Aw (decide (0+C4*1<=D1.length))<|Aw (decide (List.length (List.take (C4*1) (List.drop 0 D1))=C4*1)&&decide ((1+C4)*1<=1099511627776)&&decide (1+C4<=1099511627776))<|Aa (1+C4) fun Ed=>Aa ([.sc (.int .u8 x6)]++List.take (C4*1) (List.drop 0 D1)) fun Dn=>Aw (decide (Ed*1<=Dn.length))<|some (A4.mk [.own 1 Ed (List.take (Ed*1) Dn),.sc (.int .i64 0)] []))) (Ad C0 prog fu d):=by kernel_rfl
abbrev Jl:FuncId:=42
theorem Q1 (fu d:Nat)(Ag:Int)(Br:Nat)(Ai:List PV)(Bf:Nat)(Ay:List PV):Ad C0 prog fu (d+1) Jl [.agg [.sc (.int .i64 Ag),.lst false 1 Br Ai,.lst false 1 Bf Ay]]=(fun (call:Ah)=>Bm (decide ((↑Bf:Int)>4)) (some (A4.mk [.own 1 0 [],.sc (.int .i64 9)] [])) (Bm (decide (Ag<0)) (some (A4.mk [.own 1 0 [],.sc (.int .i64 9)] [])) (Aa (wrap .u64 (↑Bf:Int)) fun x1=>Aw (decide (0<=x1))<|Aa (Jf .i64 1 x1) fun x2=>Bm (decide (Ag>=x2)) (some (A4.mk [.own 1 0 [],.sc (.int .i64 9)] [])) (Bm ((↑Br:Int) != 18) (some (A4.mk [.own 1 0 [],.sc (.int .i64 4)] [])) (Aa (wrap .u8 Ag) fun x3=>Aa (wrap .u8 (↑Bf:Int)) fun x4=>Aj (call 79 [.lst false 1 Br Ai]) fun x5 x6=>Ac x6<|Ab x5 fun x7 x8=>F5 1 x7 fun x9 Cy=>Ac x8<|Aw (decide (0+x9*1<=Cy.length))<|Aw (decide (List.length (List.take (x9*1) (List.drop 0 Cy))=x9*1)&&decide ((2+x9)*1<=1099511627776)&&decide (2+x9<=1099511627776))<|Aa (2+x9) fun C4=>Aa ([.sc (.int .u8 x3),.sc (.int .u8 x4)]++List.take (x9*1) (List.drop 0 Cy)) fun D1=>Aj (call 79 [.lst false 1 Bf Ay]) fun Ed Dn=>Ac Dn<|Ab Ed fun Eg Ez=>F5 1 Eg fun Fq F9=>Ac Ez<|Aw (decide (0+Fq*1<=F9.length))<|Aw (decide (C4*1<=D1.length)&&decide (List.length (List.take (Fq*1) (List.drop 0 F9))=Fq*1)&&decide ((C4+Fq)*1<=1099511627776)&&decide (C4+Fq<=1099511627776))<|Aa (C4+Fq) fun Fp=>Aa (List.take (C4*1) D1++List.take (Fq*1) (List.drop 0 F9)) fun F2=>Aw (decide (Fp*1<=F2.length))<|some (A4.mk [.own 1 Fp (List.take (Fp*1) F2),.sc (.int .i64 0)] [])))))) (Ad C0 prog fu d):=by kernel_rfl
abbrev M8:FuncId:=74
noncomputable def Gl (fu:Nat)(call:Ah)(Bq:Nat)(a0:List PV)(Q9:Nat)(a1:List PV)(nn y0:Nat)(y1:List PV)(y2:Nat)(y3:List PV)(y4:Int):Option A4:=Dd CB prog fu call 74 Tryz.f74 (B9 Tryz.f74) [.lst false 1 Bq a0,.lst false 1 Q9 a1] [.r,.r,.l,.r,.l] nn ⟨lk [(0,(.lst false 1 y0 y1)),(1,(.lst false 1 y2 y3)),(5,(.sc (.int .i64 y4)))],B7 []⟩
theorem K5 (fu:Nat)(call:Ah)(Bq:Nat)(a0:List PV)(Q9:Nat)(a1:List PV)(nn y0:Nat)(y1:List PV)(y2:Nat)(y3:List PV)(y4:Int):Gl fu call Bq a0 Q9 a1 (nn+1) y0 y1 y2 y3 y4=(Bm (decide (y4<(↑y0:Int))) (Aw (decide (0<=y4)&&decide (y4<(↑y0:Int)))<|Ae .u64 (List.getD y1 (Int.toNat y4*1) .top) fun x1=>Aw (decide (0<=y4)&&decide (y4<(↑y2:Int)))<|Ae .u64 (List.getD y3 (Int.toNat y4*1) .top) fun x2=>Bm (x1 != x2) (some (A4.mk [.sc (.bool false)] [])) (Aa (wrap .i64 (y4+1)) fun x3=>Gl fu call Bq a0 Q9 a1 (nn) (y0) (y1) (y2) (y3) x3)) (some (A4.mk [.sc (.bool true)] []))):=by kernel_rfl
theorem Xn (fu d Bq:Nat)(a0:List PV)(Q9:Nat)(a1:List PV):Ad C0 prog fu (d+1) M8 [.lst false 1 Bq a0,.lst false 1 Q9 a1]=(fun (call:Ah)=>Bm ((↑Bq:Int) != (↑Q9:Int)) (some (A4.mk [.sc (.bool false)] [])) (Gl fu call Bq a0 Q9 a1 (fu) (Bq) (a0) (Q9) (a1) 0)) (Ad C0 prog fu d):=by kernel_rfl
abbrev Kh:FuncId:=39
theorem R5 (fu d:Nat)(Ag:Int)(Br:Nat)(Ai:List PV)(Bf:Nat)(Ay:List PV)(Cr:Int)(Il:Nat)(Cs:List PV)(Ie:Nat)(C1:List PV):Ad C0 prog fu (d+1) Kh [.agg [.sc (.int .i64 Ag),.lst false 1 Br Ai,.lst false 1 Bf Ay],.agg [.sc (.int .i64 Cr),.lst false 1 Il Cs,.lst false 1 Ie C1]]=(fun (call:Ah)=>Bm (Ag==Cr) (Aj (call 74 [.lst false 1 Br Ai,.lst false 1 Il Cs]) fun x1 x2=>Ac x2<|Ab x1 fun x3 x4=>B3 x3 fun x5=>Ac x4<|Bm x5 (Aj (call 74 [.lst false 1 Bf Ay,.lst false 1 Ie C1]) fun x6 x7=>Ac x7<|Ab x6 fun x8 x9=>B3 x8 fun Cy=>Ac x9<|some (A4.mk [.sc (.bool Cy)] [])) (some (A4.mk [.sc (.bool false)] []))) (some (A4.mk [.sc (.bool false)] []))) (Ad C0 prog fu d):=by kernel_rfl
end
section
open Go.Proofs.Tryz (prog)
open Go.IntKind (wrap)
theorem Yo {α:Type}(f:Nat->α)(i:Nat):(List.range (i+1)).map f=(List.range i).map f++[f i]:=by
 rw[List.range_succ,List.map_append];rfl
section
variable {fu d:Nat}
theorem GI (h:Int):Ad C0 prog fu (d+1) Qv [.sc (.int .i64 h)]=some ⟨[.sc (.bool (!D8 h))],[]⟩:=by
 rw[DC];unfold D8;by_cases h0:h<0
 ·simp (disch:=omega) only[Cd,h0,decide_true,Bool.true_or,Dc]
 ·have e:decide (h<=4) = !decide (h>4):=by
   by_cases c:h<=4
   ·have:¬h>4:=by omega
    simp[c,this]
   ·have:h>4:=by omega
    simp[c,this]
  simp (disch:=omega) only[Cd,h0,decide_false,Bool.false_or,e]
theorem Ai4 {ws:List Int}(hl:ws.length<=100)(B5:1000<=fu)(dom:Int):Ad C0 prog fu (d+4) Mv [.sc (.int .i64 dom),.lst false 1 (A6 ws).length (Af .u8 (A6 ws))]=some ⟨[.sc (.int .u64 (Rm dom (A6 ws)))],[]⟩:=
 Ahf (xs:=Ni) (Xo ws) (by rw[Dq];omega) (by omega) (by rw[Dq];omega) dom
theorem PU {call:Ah}{a0 m:Int}:∀(k nn:Nat)(i:Nat),i+k=16->k<nn ->
  Im fu call a0 nn m ((List.range i).map (Iz m)).length (Ms m i) (15-(i:Int)) (Af .i64 ((List.range i).map (Iz m)))=some ⟨[.own 1 18 (Af .i64 (dgs m))],[]⟩
 |_,0,_,_,h=>by omega
 |0,nn+1,i,hi,hn=>by
  have e:i=16:=by omega
  subst e;have hs:=Ng m 16
  have wq:wrap .i64 (Int.tdiv (Ms m 16) 16)=Ms m 16 / 16:=by
   rw[Int.tdiv_eq_ediv_of_nonneg (by omega),Ap (by omega) (by omega)]
  have wm:Int.tmod (Ms m 16) 16=Ms m 16 % 16:=Int.tmod_eq_emod_of_nonneg (by omega)
  have e2:Af .i64 ((List.range 16).map (Iz m))++[PV.sc (.int .i64 (Ms m 16 / 16)),PV.sc (.int .i64 (Ms m 16 % 16))]=Af .i64 (dgs m):=by
   unfold dgs;rw[Af,Af,List.flatMap_append];rfl
  have L:(Af .i64 (dgs m)).length=18:=by rw[Aq,Al1]
  have tk:List.take 18 (Af .i64 (dgs m))=Af .i64 (dgs m):=Jq (by omega)
  have l16:((List.range 16).map (Iz m)).length=16:=by simp
  have L16:=Aq .i64 ((List.range 16).map (Iz m));have t16:=Nv .i64 ((List.range 16).map (Iz m));rw[l16] at L16 t16 ⊢;rw[Ot,Eh _ _ _ (by omega)]
  simp (disch:=omega) only[Cd,wq,wm,Dr,t16,e2,L16,Nat.reduceAdd,L,tk]
 |k+1,nn+1,i,hi,hn=>by
  have ih:=PU (call:=call) (a0:=a0) (m:=m) k nn (i+1) (by omega) (by omega)
  have hb:=Vm m i;have hs:=Ng m i;have w1:wrap .i64 (4*(15-(i:Int)))=60-4*(i:Int):=by rw[Ap (by omega) (by omega)];omega
  have w2:wrap .u64 (60-4*(i:Int))=60-4*(i:Int):=C3 (by omega) (by omega)
  have hd:wrap .i64 (Wo .u64 (Ft .u64 m (60-4*(i:Int))) 15)=Iz m i:=rfl;have w15:wrap .i64 (15-Iz m i)=15-Iz m i:=Ap (by omega) (by omega)
  have ws:wrap .i64 (Ms m i+(15-Iz m i))=Ms m (i+1):=by rw[Ap (by omega) (by omega)];rfl
  have wi:wrap .i64 (15-(i:Int)-1)=15-((i+1:Nat):Int):=by rw[Ap (by omega) (by omega)];omega
  have L:=Aq .i64 ((List.range i).map (Iz m));have l16:((List.range i).map (Iz m)).length=i:=by simp
  rw[Yo,Hi,List.length_singleton,←Ig] at ih;rw[Ot];simp (disch:=omega) only[Cd,w1,w2,hd,w15,ws,wi,Dr,Nv,L];exact ih
theorem Apt (B5:1000<=fu)(m:Int):Ad C0 prog fu (d+1) Ry [.sc (.int .u64 m)]=some ⟨[.own 1 18 (Af .i64 (dgs m))],[]⟩:=by
 rw[EW];exact PU (fu:=fu) (a0:=m) (m:=m) 16 fu 0 (by omega) (by omega)
theorem Abs {leaf chain:Int}{a0 a1 a2 a3 a4:Int}(B5:1000<=fu){t:Int}(ht:t<=15):∀(k nn:Nat)(p x:Int),(k:Int)=t-p->0<=p->k<nn ->
  Jr fu (Ad C0 prog fu (d+4)) a0 a1 a2 a3 a4 nn leaf chain t x p=some ⟨[.sc (.int .u64 (Vy leaf chain k p x))],[]⟩
 |_,0,_,_,_,_,h=>by omega
 |0,nn+1,p,x,hk,hp,hn=>by
  rw[Ql];simp only[Jy];rw[Bp (by omega),Eh _ _ _ (by omega)]
  rfl
 |k+1,nn+1,p,x,hk,hp,hn=>by
  have w:wrap .i64 (p+1)=p+1:=Ap (by omega) (by omega)
  have wd:Ad C0 prog fu (d+4) F0 [.lst false 1 4 [.sc (.int .u64 (wrap .u64 leaf)),.sc (.int .u64 (wrap .u64 chain)),.sc (.int .u64 (wrap .u64 p)),.sc (.int .u64 x)]]=_:=Pz (xs:=Ni) (ws:=[wrap .u64 leaf,wrap .u64 chain,wrap .u64 p,x]) (by simp) (by omega) (by simp;omega)
  have hs:=Ai4 (fu:=fu) (d:=d) (ws:=[wrap .u64 leaf,wrap .u64 chain,wrap .u64 p,x]) (by simp) B5 1
  have ih:=Abs (leaf:=leaf) (chain:=chain) (a0:=a0) (a1:=a1) (a2:=a2) (a3:=a3) (a4:=a4) B5 ht k nn (p+1) (Rm 1 (A6 [wrap .u64 leaf,wrap .u64 chain,wrap .u64 p,x])) (by omega) (by omega) (by omega)
  have L:=Aq .u8 (A6 [wrap .u64 leaf,wrap .u64 chain,wrap .u64 p,x]);have eR:Vy leaf chain (k+1) p x=Vy leaf chain k (p+1) (Rm 1 (A6 [wrap .u64 leaf,wrap .u64 chain,wrap .u64 p,x])):=rfl;rw[eR];generalize A6 [wrap .u64 leaf,wrap .u64 chain,wrap .u64 p,x]=W at wd hs ih L ⊢;have e15:(if (15:Int)<t then 15 else t)=t:=Bp (by omega)
  rw[Ql];simp (disch:=omega) only[Cd,e15,wd,Dr,Cv,Dt,Nv,L,hs,w];exact ih
theorem Aml {leaf chain:Int}(B5:1000<=fu)(k:Nat)(f t x:Int)(hk:(k:Int)=t-f) (h0:0<=f)(h1:t<=15):Ad C0 prog fu (d+5) Vc [.sc (.int .i64 leaf),.sc (.int .i64 chain),.sc (.int .i64 f),.sc (.int .i64 t),.sc (.int .u64 x)]=some ⟨[.sc (.int .u64 (Vy leaf chain k f x))],[]⟩:=by
 rw[JT];simp only[Jy];rw[Bp (by omega)]
 exact Abs B5 h1 k fu f x hk h0 (by omega)
theorem UQ (B5:1000<=fu)(seed leaf chain:Int):Ad C0 prog fu (d+5) Qu [.sc (.int .u64 seed),.sc (.int .i64 leaf),.sc (.int .i64 chain)]=some ⟨[.sc (.int .u64 (MD seed leaf chain))],[]⟩:=by
 have wd:Ad C0 prog fu (d+4) F0 [.lst false 1 2 [.sc (.int .u64 (wrap .u64 leaf)),.sc (.int .u64 (wrap .u64 chain))]]=_:=Pz (xs:=Ni) (ws:=[wrap .u64 leaf,wrap .u64 chain]) (by simp) (by omega) (by simp;omega)
 have hs:=Ay7 (xs:=Ni) (fu:=fu) (d:=d) (Xo [wrap .u64 leaf,wrap .u64 chain]) (by rw[Dq];simp) (by omega) (by rw[Dq];simp;omega) seed 1
 have L:=Aq .u8 (A6 [wrap .u64 leaf,wrap .u64 chain]);rw[CA];unfold MD;generalize A6 [wrap .u64 leaf,wrap .u64 chain]=W at wd hs L ⊢;simp (disch:=omega) only[Cd,wd,Dr,Cv,Dt,Nv,L,hs]
theorem A4y (B5:1000<=fu)(w:Int):Ad C0 prog fu (d+1) F0 [.lst false 1 1 [.sc (.int .u64 w)]]=some ⟨[.own 1 8 (Af .u8 (Fh w))],[]⟩:=by
 have:=Pz (xs:=Ni) (fu:=fu) (d:=d) (ws:=[w]) (by simp) (by omega) (by simp;omega)
 simp only[A6,List.flatMap_cons,List.flatMap_nil,List.append_nil,H5,Ye,G3] at this;exact this
theorem Aup (B5:1000<=fu)(leaf:Int){E:List Int}(hE:E.length<=50):Ad C0 prog fu (d+5) T7 [.sc (.int .i64 leaf),.lst false 1 E.length (Af .u64 E)]=some ⟨[.sc (.int .u64 (FV leaf E))],[]⟩:=by
 have w1:=A4y (fu:=fu) (d:=d+3) B5 (wrap .u64 leaf);have w2:=Pz (xs:=Ni) (fu:=fu) (d:=d+3) (ws:=E) (by omega) (by omega) (by omega)
 have hs:=Ai4 (fu:=fu) (d:=d) (ws:=wrap .u64 leaf::E) (by simp;omega) B5 2
 have eW:A6 (wrap .u64 leaf::E)=Fh (wrap .u64 leaf)++A6 E:=rfl
 have eC:Af .u8 (Fh (wrap .u64 leaf))++Af .u8 (A6 E)=Af .u8 (A6 (wrap .u64 leaf::E)):=by
  rw[eW,Af,Af,Af,List.flatMap_append]
 have l0:(Fh (wrap .u64 leaf)).length=8:=G3 _;have l1:=Dq E;have l2:(A6 (wrap .u64 leaf::E)).length=8+(A6 E).length:=by rw[eW,Hi,l0]
 have L0:=Aq .u8 (Fh (wrap .u64 leaf));rw[l0] at L0;have L1:=Aq .u8 (A6 E);have L2:=Aq .u8 (A6 (wrap .u64 leaf::E));have t8:List.take 8 (Af .u8 (Fh (wrap .u64 leaf)))=Af .u8 (Fh (wrap .u64 leaf)):=Jq (by omega)
 have tW:List.take (8+(A6 E).length) (Af .u8 (A6 (wrap .u64 leaf::E)))=Af .u8 (A6 (wrap .u64 leaf::E)):=Jq (by omega)
 rw[l2] at hs;rw[GN];simp (disch:=omega) only[Cd,w1,w2,Dr,Cv,Dt,Nv,t8,L0,L1,eC,L2,tW,hs];rfl
theorem SI {a0 a1 seed leaf:Int}(B5:1000<=fu):∀(k nn i:Nat),i+k=18->k<nn ->
  I2 fu (Ad C0 prog fu (d+5)) a0 a1 nn seed leaf ((List.range i).map (FA seed leaf)).length i (Af .u64 ((List.range i).map (FA seed leaf)))=some ⟨[.sc (.int .u64 (Ld seed leaf))],[]⟩
 |_,0,_,_,h=>by omega
 |0,nn+1,i,hi,hn=>by
  have e:i=18:=by omega
  subst e;have l18:((List.range 18).map (FA seed leaf)).length=18:=by simp
  have en:=Aup (fu:=fu) (d:=d) B5 leaf (E:=(List.range 18).map (FA seed leaf)) (by omega)
  have L:=Aq .u64 ((List.range 18).map (FA seed leaf));rw[Pg,Eh _ _ _ (by omega)]
  simp (disch:=omega) only[Cd,Dr,Cv,Dt,Nv,L,en];rfl
 |k+1,nn+1,i,hi,hn=>by
  have ih:=SI (a0:=a0) (a1:=a1) (seed:=seed) (leaf:=leaf) B5 k nn (i+1) (by omega) (by omega)
  have sc:=UQ (fu:=fu) (d:=d) B5 seed leaf i;have rn:=Aml (fu:=fu) (d:=d) (leaf:=leaf) (chain:=i) B5 15 0 15 (MD seed leaf i) (by omega) (by omega) (by omega)
  have w:wrap .i64 ((i:Int)+1)=((i+1:Nat):Int):=by rw[Ap (by omega) (by omega)];omega
  have L:=Aq .u64 ((List.range i).map (FA seed leaf));have li:((List.range i).map (FA seed leaf)).length=i:=by simp
  rw[Yo,Hi,List.length_singleton,←Ig] at ih;rw[Pg];simp (disch:=omega) only[Cd,sc,rn,Dr,Nv,L,w];exact ih
theorem At5 (B5:1000<=fu)(seed leaf:Int):Ad C0 prog fu (d+6) Tr [.sc (.int .u64 seed),.sc (.int .i64 leaf)]=some ⟨[.sc (.int .u64 (Ld seed leaf))],[]⟩:=by
 rw[HD];exact SI (fu:=fu) (d:=d) B5 18 fu 0 (by omega) (by omega)
theorem A6h (m:Int){i:Nat}(h:i<18):(dgs m)[i]?=some (dg m i):=by
 unfold dg;rw[List.getD_eq_getElem?_getD,List.getElem?_eq_getElem (by rw[Al1];omega)]
 rfl
theorem CG {a0 a1 a2 seed leaf m:Int}(B5:1000<=fu):∀(k nn i:Nat),i+k=18->k<nn ->
  G6 fu (Ad C0 prog fu (d+5)) a0 a1 a2 nn seed leaf 18 ((List.range i).map (CM seed leaf m)).length i (Af .i64 (dgs m)) (Af .u64 ((List.range i).map (CM seed leaf m)))=some ⟨[.own 1 18 (Af .u64 (Mg seed leaf m))],[]⟩
 |_,0,_,_,h=>by omega
 |0,nn+1,i,hi,hn=>by
  have e:i=18:=by omega
  subst e;have l18:((List.range 18).map (CM seed leaf m)).length=18:=by simp
  have L:=Aq .u64 ((List.range 18).map (CM seed leaf m));rw[Lz,Eh _ _ _ (by omega)]
  simp (disch:=omega) only[Cd,Dr,Nv,L];rw[l18];rfl
 |k+1,nn+1,i,hi,hn=>by
  have ih:=CG (a0:=a0) (a1:=a1) (a2:=a2) (seed:=seed) (leaf:=leaf) (m:=m) B5 k nn (i+1) (by omega) (by omega)
  have hb:=EB m i;have sc:=UQ (fu:=fu) (d:=d) B5 seed leaf i;have rn:=Aml (fu:=fu) (d:=d) (leaf:=leaf) (chain:=i) B5 (dg m i).toNat 0 (dg m i) (MD seed leaf i) (by omega) (by omega) (by omega)
  have w:wrap .i64 ((i:Int)+1)=((i+1:Nat):Int):=by rw[Ap (by omega) (by omega)];omega
  have L:=Aq .u64 ((List.range i).map (CM seed leaf m));have li:((List.range i).map (CM seed leaf m)).length=i:=by simp
  rw[Yo,Hi,List.length_singleton,←Ig] at ih;rw[Lz];simp (disch:=omega) only[Cd,Je,Dr,Cv,HL (A6h m (show i<18 by omega)),sc,rn,Nv,L,w]
  exact ih
theorem Ac1 (B5:1000<=fu)(seed leaf m:Int):Ad C0 prog fu (d+6) Ov [.sc (.int .u64 seed),.sc (.int .i64 leaf),.sc (.int .u64 m)]=some ⟨[.own 1 18 (Af .u64 (Mg seed leaf m))],[]⟩:=by
 rw[Yl];have sp:=Apt (fu:=fu) (d:=d+4) B5 m;simp only[Cd,sp];exact CG (fu:=fu) (d:=d) B5 18 fu 0 (by omega) (by omega)
theorem Akj (B5:1000<=fu)(level a b:Int):Ad C0 prog fu (d+5) Q0 [.sc (.int .i64 level),.sc (.int .u64 a),.sc (.int .u64 b)]=some ⟨[.sc (.int .u64 (P9 level a b))],[]⟩:=by
 have wd:Ad C0 prog fu (d+4) F0 [.lst false 1 3 [.sc (.int .u64 (wrap .u64 level)),.sc (.int .u64 a),.sc (.int .u64 b)]]=_:=Pz (xs:=Ni) (ws:=[wrap .u64 level,a,b]) (by simp) (by omega) (by simp;omega)
 have hs:=Ai4 (fu:=fu) (d:=d) (ws:=[wrap .u64 level,a,b]) (by simp) B5 3
 have L:=Aq .u8 (A6 [wrap .u64 level,a,b]);rw[BN];unfold P9;generalize A6 [wrap .u64 level,a,b]=W at wd hs L ⊢;simp (disch:=omega) only[Cd,wd,Dr,Cv,Dt,Nv,L,hs]
theorem LC (B5:1000<=fu)(seed:Int):∀(l:Nat)(i B:Int),0<=i->i<=B->(2 ^ l:Nat)*(B+1)<=1000000000->l<=20->Ad C0 prog fu (d+7+l) T8 [.sc (.int .u64 seed),.sc (.int .i64 l),.sc (.int .i64 i)]=some ⟨[.sc (.int .u64 (Ct seed l i))],[]⟩
 |0,i,B,h0,h1,h2,hl=>by
  have lf:=At5 (fu:=fu) (d:=d) B5 seed i;refine (T0 fu (d+6) seed 0 i).trans ?_;simp only[Cd,Hb,if_true,lf];rfl
 |l+1,i,B,h0,h1,h2,hl=>by
  have hq:(2 ^ (l+1):Nat)=2 ^ l*2:=Nat.pow_succ _ _;have Azp:0<2 ^ l:=Nat.pow_pos (by omega)
  rw[hq] at h2;generalize hQ:2 ^ l=q at h2 Azp
  have hb:((q*2:Nat):Int)*(B+1)=(q:Int)*(2*B+1+1):=by
   rw[Int.natCast_mul,Int.mul_assoc]
   congr 1
   omega
  rw[hb] at h2
  have hBq:2*B+1+1<=(q:Int)*(2*B+1+1):=by
   have:=Int.mul_le_mul_of_nonneg_right (show (1:Int)<=q by omega) (show (0:Int)<=2*B+1+1 by omega)
   omega
  have n1:=LC B5 seed l (2*i) (2*B+1) (by omega) (by omega) (by rw[hQ];exact h2) (by omega)
  have n2:=LC B5 seed l (2*i+1) (2*B+1) (by omega) (by omega) (by rw[hQ];exact h2) (by omega)
  have pr:=Akj (fu:=fu) (d:=d+2+l) B5 ((l+1:Nat):Int) (Ct seed l (2*i)) (Ct seed l (2*i+1));rw[show d+2+l+5=d+7+l by omega] at pr
  have w1:wrap .i64 (((l+1:Nat):Int)-1)=(l:Int):=by rw[Ap (by omega) (by omega)];omega
  have w2:wrap .i64 (2*i)=2*i:=Ap (by omega) (by omega)
  have w3:wrap .i64 (2*i+1)=2*i+1:=Ap (by omega) (by omega)
  have ne:¬(((l+1:Nat):Int)=0):=by omega
  refine (T0 fu (d+7+l) seed ((l+1:Nat):Int) i).trans ?_;simp only[Cd,Hb,ne,if_false,w1,w2,w3,n1,n2,pr];rfl
end
end
section
open Go.Proofs.Tryz (prog)
open Go.IntKind (wrap)
theorem wu {h:Int}(h0:0<=h)(h4:h<=4):wrap .u64 h=h:=C3 (by omega) (by omega)
theorem Aid {leaf h:Int}(h0:0<=h)(h4:h<=4)(ho:J1 leaf h=false):0<=leaf∧leaf<2 ^ h.toNat:=by
 unfold J1 at ho;simp only[Bool.or_eq_false_iff,decide_eq_false_iff_not] at ho;have:h=0∨h=1∨h=2∨h=3∨h=4:=by omega
 rcases this with rfl|rfl|rfl|rfl|rfl
 ·have e:Jf .i64 1 0=1:=by decide
  rw[e] at ho;exact⟨by omega,by show leaf<1;omega⟩
 ·have e:Jf .i64 1 1=2:=by decide
  rw[e] at ho;exact⟨by omega,by show leaf<2;omega⟩
 ·have e:Jf .i64 1 2=4:=by decide
  rw[e] at ho;exact⟨by omega,by show leaf<4;omega⟩
 ·have e:Jf .i64 1 3=8:=by decide
  rw[e] at ho;exact⟨by omega,by show leaf<8;omega⟩
 ·have e:Jf .i64 1 4=16:=by decide
  rw[e] at ho;exact⟨by omega,by show leaf<16;omega⟩
theorem A2d {h:Int}(h0:0<=h)(h4:h<=4):(2:Int) ^ h.toNat<=16:=by
 have:h=0∨h=1∨h=2∨h=3∨h=4:=by omega
 rcases this with rfl|rfl|rfl|rfl|rfl<;>decide
theorem Ajm {leaf:Int}(h0:0<=leaf)(h1:leaf<16){k:Nat}(hk:k<4):0<=Hu leaf k∧Hu leaf k<=15:=by
 have H:∀n:Fin 16,∀k:Fin 4,0<=Hu (n.val:Int) k.val∧Hu (n.val:Int) k.val<=15:=by decide
 obtain⟨n,rfl⟩:=Int.eq_ofNat_of_zero_le h0;exact H ⟨n,by omega⟩ ⟨k,hk⟩
section
variable {fu d:Nat}
theorem TN (B5:1000<=fu)(seed h:Int):Ad C0 prog fu (d+12) Q8 [.sc (.int .u64 seed),.sc (.int .i64 h)]=some ⟨[.agg (Zy seed h).cells,.sc (.int .i64 (if D8 h=true then 9 else 0))],[]⟩:=by
 refine (BM fu (d+11) seed h).trans ?_;have h1:=GI (fu:=fu) (d:=d+10) h;unfold Zy;cases c1:D8 h
 ·rw[c1] at h1;have hb:=Jo c1
  have nd:=LC (fu:=fu) (d:=d+4-h.toNat) B5 seed h.toNat 0 0 (by omega) (by omega) (by
   have:h=0∨h=1∨h=2∨h=3∨h=4:=by omega
   rcases this with rfl|rfl|rfl|rfl|rfl<;>decide) (by omega)
  rw[show d+4-h.toNat+7+h.toNat=d+11 by omega,show ((h.toNat:Nat):Int)=h by omega] at nd
  simp only[Cd,h1,nd];rfl
 ·rw[c1] at h1;simp only[Cd,h1];rfl
theorem TU {a0 a1 a2 a3:Int}{seed leaf h:Int}(hh:0<=h∧h<=4)(hl:0<=leaf∧leaf<16)(B5:1000<=fu){y4 y9:Int}{y5 y6:Nat}{y7 y8:List PV}{ch:List Int}:∀(k nn i:Nat),i+k=h.toNat->k<nn ->
  I0 fu (Ad C0 prog fu (d+11)) a0 a1 a2 a3 nn seed h leaf i y4 y5 y6 y7 y8 leaf ch.length ((List.range i).map fun k=>Ct seed k (Hu leaf k)).length (Af .u64 ch) (Af .u64 ((List.range i).map fun k=>Ct seed k (Hu leaf k)))=some ⟨[.agg (Sg.mk leaf ch ((List.range h.toNat).map fun k=>Ct seed k (Hu leaf k))).owned,.sc (.int .i64 0)],[]⟩
 |_,0,_,_,h=>by omega
 |0,nn+1,i,hi,hn=>by
  have e:i=h.toNat:=by omega
  subst e;have L1:=Aq .u64 ch;have L2:=Aq .u64 ((List.range h.toNat).map fun k=>Ct seed k (Hu leaf k))
  rw[O9,Eh _ _ _ (by omega)]
  simp (disch:=omega) only[Cd,Dr,Nv,L1,L2];rfl
 |k+1,nn+1,i,hi,hn=>by
  have ih:=TU (a0:=a0) (a1:=a1) (a2:=a2) (a3:=a3) (seed:=seed) (y4:=y4) (y9:=y9) (y5:=y5) (y6:=y6) (y7:=y7) (y8:=y8) (ch:=ch) hh hl B5 k nn (i+1) (by omega) (by omega)
  have sb:=Ajm hl.1 hl.2 (k:=i) (by omega)
  have nd:=LC (fu:=fu) (d:=d+4-i) B5 seed i (Hu leaf i) 15 sb.1 sb.2 (by
   have:i=0∨i=1∨i=2∨i=3:=by omega
   rcases this with rfl|rfl|rfl|rfl<;>decide) (by omega)
  rw[show d+4-i+7+i=d+11 by omega] at nd
  have es:Fg .i64 (Ft .i64 leaf (i:Int)) 1=Hu leaf i:=rfl;have w:wrap .i64 ((i:Int)+1)=((i+1:Nat):Int):=by rw[Ap (by omega) (by omega)];omega
  have wi:wrap .u64 (i:Int)=i:=C3 (by omega) (by omega)
  have L:=Aq .u64 ((List.range i).map fun k=>Ct seed k (Hu leaf k))
  have li:((List.range i).map fun k=>Ct seed k (Hu leaf k)).length=i:=by simp
  rw[Yo,Hi,List.length_singleton,←Ig] at ih;rw[O9];simp (disch:=omega) only[Cd,wi,es,nd,Dr,Nv,L,w];exact ih
theorem Au7 (B5:1000<=fu)(seed h leaf m:Int):Ad C0 prog fu (d+12) Sz [.sc (.int .u64 seed),.sc (.int .i64 h),.sc (.int .i64 leaf),.sc (.int .u64 m)]=some ⟨Adf (JY seed h leaf m),[]⟩:=by
 refine (HG fu (d+11) seed h leaf m).trans ?_;have h1:=GI (fu:=fu) (d:=d+10) h;unfold JY;cases c1:D8 h
 ·rw[c1] at h1;have hb:=Jo c1;have w:=wu hb.1 hb.2;rw[Bp (by simp)]
  by_cases hn:leaf<0
  ·have ho:J1 leaf h=true:=by unfold J1;simp[hn]
   rw[Co ho];simp (disch:=omega) only[Cd,h1];rfl
  ·by_cases hg:leaf>=Jf .i64 1 h
   ·have ho:J1 leaf h=true:=by unfold J1;simp[hg]
    rw[Co ho];simp (disch:=first|omega|exact hg) only[Cd,h1,w];rfl
   ·have ho:J1 leaf h=false:=by unfold J1;simp only[Bool.or_eq_false_iff,decide_eq_false_iff_not];exact⟨hn,hg⟩
    have Cq:=Aid hb.1 hb.2 ho;have h16:=A2d hb.1 hb.2;rw[Bp (by rw[ho];simp)]
    have sl:=Ac1 (fu:=fu) (d:=d+5) B5 seed leaf m;have lp:=TU (fu:=fu) (d:=d) (a0:=seed) (a1:=h) (a2:=leaf) (a3:=m) (seed:=seed) (leaf:=leaf) (h:=h) hb (by omega) B5 (y4:=0) (y9:=0) (y5:=0) (y6:=0) (y7:=[]) (y8:=[]) (ch:=Mg seed leaf m) h.toNat fu 0 (by omega) (by omega)
    have l18:(Mg seed leaf m).length=18:=by simp[Mg]
    rw[l18] at lp;simp (disch:=first|omega|exact hg) only[Cd,h1,w,sl];exact lp
 ·rw[c1] at h1;rw[Co rfl];simp (disch:=omega) only[Cd,h1];rfl
theorem Akd (B5:1000<=fu)(k:Ky):Ad C0 prog fu (d+2) Nd [.agg k.cells]=some ⟨(if D8 k.h=true then [.own 1 0 [],.sc (.int .i64 9)] else [.own 1 9 (Af .u8 (Jt k)),.sc (.int .i64 0)]),[]⟩:=by
 refine (Xq fu (d+1) k.h k.root).trans ?_;have h1:=GI (fu:=fu) (d:=d) k.h;have wd:=A4y (fu:=fu) (d:=d) B5 k.root;have L:=Aq .u8 (Fh k.root);rw[G3] at L;have t8:List.take 8 (Af .u8 (Fh k.root))=Af .u8 (Fh k.root):=Jq (by omega)
 have t9:List.take 9 ([PV.sc (.int .u8 (wrap .u8 k.h))]++Af .u8 (Fh k.root))=Af .u8 (Jt k):=by
  rw[Jq (by rw[Hi,L];simp)]
  rfl
 have L9:([PV.sc (.int .u8 (wrap .u8 k.h))]++Af .u8 (Fh k.root)).length=9:=by rw[Hi,L];rfl
 cases c1:D8 k.h
 ·rw[c1] at h1;rw[Bp (by simp)]
  simp (disch:=omega) only[Cd,h1,wd,Dr,Cv,Dt,L,t8,Nat.reduceAdd,L9,t9]
 ·rw[c1] at h1;rw[Co rfl];simp (disch:=omega) only[Cd,h1]
end
end
section
open Go.Proofs.Tryz (prog)
open Go.IntKind (wrap)
section
variable {fu d:Nat}
theorem Aqv (n:Nat):D8 (n:Int)=decide ((n:Int)>4):=by
 unfold D8;have:¬((n:Int)<0):=by omega
 simp[this]
theorem Aki (B5:1000<=fu)(s:Sg)(hp:s.path.length<=1000000000):Ad C0 prog fu (d+2) Jl [.agg s.cells]=some ⟨(if D8 s.path.length=true then [.own 1 0 [],.sc (.int .i64 9)] else if J1 s.leaf s.path.length=true then [.own 1 0 [],.sc (.int .i64 9)] else if s.chains.length≠18 then [.own 1 0 [],.sc (.int .i64 4)] else [.own 1 (To s).length (Af .u8 (To s)),.sc (.int .i64 0)]),[]⟩:=by
 refine (Q1 fu (d+1) s.leaf s.chains.length (Af .u64 s.chains) s.path.length (Af .u64 s.path)).trans ?_;rw[Aqv];by_cases c1:(s.path.length:Int)>4
 ·rw[Co (by simp[c1])]
  simp (disch:=omega) only[Cd]
 ·rw[Bp (by simp[c1])]
  have w:=wu (h:=s.path.length) (by omega) (by omega)
  by_cases hn:s.leaf<0
  ·have ho:J1 s.leaf s.path.length=true:=by unfold J1;simp[hn]
   rw[Co ho];simp (disch:=omega) only[Cd]
  ·by_cases hg:s.leaf>=Jf .i64 1 s.path.length
   ·have ho:J1 s.leaf s.path.length=true:=by unfold J1;simp[hg]
    rw[Co ho];simp (disch:=first|omega|exact hg) only[Cd,w]
   ·have ho:J1 s.leaf s.path.length=false:=by unfold J1;simp only[Bool.or_eq_false_iff,decide_eq_false_iff_not];exact⟨hn,hg⟩
    rw[Bp (by rw[ho];simp)]
    by_cases c3:s.chains.length=18
    ·have w1:=Pz (xs:=Ni) (fu:=fu) (d:=d) (ws:=s.chains) (by omega) (by omega) (by omega)
     have w2:=Pz (xs:=Ni) (fu:=fu) (d:=d) (ws:=s.path) (by omega) (by omega) (by omega)
     have l1:=Dq s.chains;have l2:=Dq s.path;have L1:=Aq .u8 (A6 s.chains);have L2:=Aq .u8 (A6 s.path)
     have eB:Af .u8 (To s)=[PV.sc (.int .u8 (wrap .u8 s.leaf)),PV.sc (.int .u8 (wrap .u8 s.path.length))]++Af .u8 (A6 s.chains)++Af .u8 (A6 s.path):=by
      unfold To;simp
     have eL:(To s).length=2+(A6 s.chains).length+(A6 s.path).length:=by
      unfold To;simp;omega
     rw[Bp (by omega),eB,eL]
     have t2:List.take (2+(A6 s.chains).length) ([PV.sc (.int .u8 (wrap .u8 s.leaf)),PV.sc (.int .u8 (wrap .u8 s.path.length))]++Af .u8 (A6 s.chains))=[PV.sc (.int .u8 (wrap .u8 s.leaf)),PV.sc (.int .u8 (wrap .u8 s.path.length))]++Af .u8 (A6 s.chains):=Jq (by rw[Hi,L1];simp)
     have t3:List.take (2+(A6 s.chains).length+(A6 s.path).length) ([PV.sc (.int .u8 (wrap .u8 s.leaf)),PV.sc (.int .u8 (wrap .u8 s.path.length))]++Af .u8 (A6 s.chains)++Af .u8 (A6 s.path))=[PV.sc (.int .u8 (wrap .u8 s.leaf)),PV.sc (.int .u8 (wrap .u8 s.path.length))]++Af .u8 (A6 s.chains)++Af .u8 (A6 s.path):=Jq (by rw[Hi,Hi,L1,L2];simp)
     have k2:([PV.sc (.int .u8 (wrap .u8 s.leaf)),PV.sc (.int .u8 (wrap .u8 s.path.length))]++Af .u8 (A6 s.chains)).length=2+(A6 s.chains).length:=by rw[Hi,L1];rfl
     have k3:([PV.sc (.int .u8 (wrap .u8 s.leaf)),PV.sc (.int .u8 (wrap .u8 s.path.length))]++Af .u8 (A6 s.chains)++Af .u8 (A6 s.path)).length=2+(A6 s.chains).length+(A6 s.path).length:=by rw[Hi,k2,L2]
     simp (disch:=first|omega|exact hg) only[Cd,w,G7,w1,w2,Dr,Cv,Dt,L1,L2,Nv,t2,t3,k2,k3];rw[Co (by omega)]
    ·rw[Co c3];simp (disch:=first|omega|exact hg) only[Cd,w,G7];rw[Bp (by omega)]
end
theorem Asc (seed leaf m:Int):An1 leaf m (Mg seed leaf m)=Ld seed leaf:=by
 unfold An1 Ld VW
 congr 1
 refine List.map_congr_left fun i hi=>?_
 have hi:=List.mem_range.1 hi;have hb:=EB m i;unfold Aje FA
 have e:(Mg seed leaf m).getD i 0=CM seed leaf m i:=by
  unfold Mg;rw[List.getD_eq_getElem?_getD,List.getElem?_map,List.getElem?_range hi];rfl
 rw[e];unfold CM;have:=Aej leaf i (dg m i).toNat (15-dg m i).toNat 0 (MD seed leaf i);rw[show (dg m i).toNat+(15-dg m i).toNat=15 by omega,show (0:Int)+((dg m i).toNat:Nat)=dg m i by omega] at this
 exact this.symm
theorem Apd:∀n:Fin 16,∀k:Fin 4,
  (Wo .i64 (Ft .i64 (n.val:Int) k.val) 1=0∧Ft .i64 (n.val:Int) k.val=2*Ft .i64 (n.val:Int) ((k.val+1:Nat):Int)∧Hu n.val k.val=2*Ft .i64 (n.val:Int) ((k.val+1:Nat):Int)+1) ∨
  (Wo .i64 (Ft .i64 (n.val:Int) k.val) 1≠0∧Ft .i64 (n.val:Int) k.val=2*Ft .i64 (n.val:Int) ((k.val+1:Nat):Int)+1∧Hu n.val k.val=2*Ft .i64 (n.val:Int) ((k.val+1:Nat):Int)):=by decide
theorem WI (seed:Int){leaf:Int}(h0:0<=leaf)(h1:leaf<16):∀(k i:Nat),i+k<=4 ->
  HI leaf i (Ct seed i (Ft .i64 leaf i)) ((List.range' i k).map fun j=>Ct seed j (Hu leaf j))=Ct seed (i+k) (Ft .i64 leaf ((i+k:Nat):Int))
 |0,i,_=>rfl
 |k+1,i,h=>by
  rw[List.range'_succ,VR,QE];obtain⟨n,rfl⟩:=Int.eq_ofNat_of_zero_le h0;have ih:=WI seed h0 h1 k (i+1) (by omega)
  rw[show i+(k+1)=i+1+k by omega,←ih]
  congr 1
  rcases Apd ⟨n,by omega⟩ ⟨i,by omega⟩ with⟨a,b,c⟩|⟨a,b,c⟩
  ·simp only at a b c;rw[Co a,b,c];rfl
  ·simp only at a b c;rw[Bp a,b,c];rfl
theorem Avg {seed h leaf m:Int}(hh:D8 h=false)(ho:J1 leaf h=false):Anw (Zy seed h) m ⟨leaf,Mg seed leaf m,(List.range h.toNat).map fun k=>Ct seed k (Hu leaf k)⟩=0:=by
 have hb:=Jo hh;have hl:=Aid hb.1 hb.2 ho;have h16:=A2d hb.1 hb.2
 have eP:Zy seed h=⟨h,Ct seed h.toNat 0⟩:=by
  unfold Zy;rw[hh];rfl
 rw[eP];unfold Anw;simp only;rw[Bp (show ¬D8 h=true by rw[hh];simp),Bp (show ¬J1 leaf h=true by rw[ho];simp),Bp (show ¬(Mg seed leaf m).length≠18 by simp[Mg]),Bp (by rw[List.length_map,List.length_range];omega),Asc]
 have c:=WI seed hl.1 (show leaf<16 by omega) h.toNat 0 (by omega)
 have e0:Ft .i64 leaf ((0:Nat):Int)=leaf:=by
  show leaf.fdiv (2 ^ (min ((0:Nat):Int).toNat IntKind.i64.bits))=leaf;have:(2:Int) ^ (min ((0:Nat):Int).toNat IntKind.i64.bits)=1:=by decide
  rw[this,Int.fdiv_one]
 have eh:Ft .i64 leaf ((0+h.toNat:Nat):Int)=0:=by
  have H:∀n:Fin 16,∀k:Fin 5,(n.val:Int)<2 ^ k.val->Ft .i64 (n.val:Int) ((0+k.val:Nat):Int)=0:=by decide
  obtain⟨n,hn⟩:=Int.eq_ofNat_of_zero_le hl.1;have:=H ⟨n,by omega⟩ ⟨h.toNat,by omega⟩ (by simp only;rw[←hn];exact hl.2)
  rw[hn];exact this
 rw[e0,eh,Cv] at c;have er:List.range' 0 h.toNat=List.range h.toNat:=List.range_eq_range'.symm;rw[er] at c;have el:Ct seed 0 leaf=Ld seed leaf:=rfl;rw[el] at c;rw[c];unfold okE;rw[Co rfl]
end
section
open Go.Proofs.Tryz (prog)
open Go.IntKind (wrap)
set_option maxRecDepth 100000
abbrev OD:FuncId:=130
theorem Ag8 (fu d:Nat)(a0:ByteArray):Ad C0 prog fu (d+1) OD [.sc (.string a0)]=(fun (call:Ah)=>some (A4.mk [.own 3 1 [.sc (.int .i64 4),.sc (.int .u64 0),.sc (.string a0)]] [])) (Ad C0 prog fu d):=by kernel_rfl
abbrev PY:FuncId:=64
theorem Ag0 (fu d:Nat)(a0:Int):Ad C0 prog fu (d+1) PY [.sc (.int .u64 a0)]=(fun (call:Ah)=>some (A4.mk [.own 3 1 [.sc (.int .i64 1),.sc (.int .u64 a0),.sc (.string (ByteArray.mk #[]))]] [])) (Ad C0 prog fu d):=by kernel_rfl
abbrev KF:FuncId:=131
theorem Ado (fu d Bq:Nat)(a0:List PV):Ad C0 prog fu (d+1) KF [.lst false 1 Bq a0]=(fun (call:Ah)=>Aw (decide (a0.length=Bq))<|F6 (bytesOf a0) fun x1=>some (A4.mk [.own 3 1 [.sc (.int .i64 3),.sc (.int .u64 0),.sc (.string (ByteArray.mk (List.toArray x1)))]] [])) (Ad C0 prog fu d):=by kernel_rfl
abbrev KY:FuncId:=141
theorem Ac8 (fu d:Nat)(a0:Int):Ad C0 prog fu (d+1) KY [.sc (.int .u64 a0)]=(fun (call:Ah)=>Bm (decide (a0<24)) (some (A4.mk [.sc (.int .i64 0)] [])) (Bm (decide (a0<256)) (some (A4.mk [.sc (.int .i64 1)] [])) (Bm (decide (a0<65536)) (some (A4.mk [.sc (.int .i64 2)] [])) (Bm (decide (a0<4294967296)) (some (A4.mk [.sc (.int .i64 4)] [])) (some (A4.mk [.sc (.int .i64 8)] [])))))) (Ad C0 prog fu d):=by kernel_rfl
abbrev FR:FuncId:=146
theorem YH (fu d:Nat)(Ag Ai:Int)(Ay:ByteArray):Ad C0 prog fu (d+1) FR [.agg [.sc (.int .i64 Ag),.sc (.int .u64 Ai),.sc (.string Ay)]]=(fun (call:Ah)=>Bm (Ag==3) (some (A4.mk [.sc (.bool (Ai==0))] [])) (Bm (Ag==4) (some (A4.mk [.sc (.bool (Ai==0))] [])) (Bm (Ag==8) (Bm (Ai==0) (some (A4.mk [.sc (.bool (Array.toList (ByteArray.data Ay)==Array.toList (ByteArray.data (ByteArray.mk #[]))))] [])) (some (A4.mk [.sc (.bool false)] []))) (Bm (Ag==7) (Bm (decide (Ai<=1)) (some (A4.mk [.sc (.bool (Array.toList (ByteArray.data Ay)==Array.toList (ByteArray.data (ByteArray.mk #[]))))] [])) (some (A4.mk [.sc (.bool false)] []))) (some (A4.mk [.sc (.bool (Array.toList (ByteArray.data Ay)==Array.toList (ByteArray.data (ByteArray.mk #[]))))] [])))))) (Ad C0 prog fu d):=by kernel_rfl
abbrev AY:FuncId:=143
theorem WS (fu d Bq:Nat)(a0:List PV)(Q9:Nat)(a1:List PV):Ad C0 prog fu (d+1) AY [.lst false 1 Bq a0,.lst false 1 Q9 a1]=(fun (call:Ah)=>Bm ((↑Bq:Int) != (↑Q9:Int)) (some (A4.mk [.sc (.bool (decide ((↑Bq:Int)<(↑Q9:Int))))] [])) (Aj (call 148 [.lst false 1 Bq a0,.lst false 1 Q9 a1]) fun x1 x2=>Ac x2<|Ab x1 fun x3 x4=>Ae .i64 x3 fun x5=>Ac x4<|some (A4.mk [.sc (.bool (decide (x5<0)))] []))) (Ad C0 prog fu d):=by kernel_rfl
abbrev Oo:FuncId:=133
noncomputable def Fb (fu:Nat)(call:Ah)(Bq:Nat)(a0:List PV)(a1 a2:Int)(nn y0:Nat)(y1 y2:Int)(y3:List PV):Option A4:=Dd CB prog fu call 133 Tryz.f133 (B9 Tryz.f133) [.own 1 Bq a0,.sc (.int .u8 a1),.sc (.int .u64 a2)] [.r,.r,.r,.r,.r,.l,.r,.l] nn ⟨lk [(0,(.view 0 1 0 y0)),(2,(.sc (.int .u64 y1))),(9,(.sc (.int .i64 y2)))],B7 [(0,(.ar false y3))]⟩
theorem Qg (fu:Nat)(call:Ah)(Bq:Nat)(a0:List PV)(a1 a2:Int)(nn y0:Nat)(y1 y2:Int)(y3:List PV):Fb fu call Bq a0 a1 a2 (nn+1) y0 y1 y2 y3=(Bm (decide (y2>=0)) (Aa (wrap .i64 (8*y2)) fun F9=>Aw (decide (0<=F9))<|Aa (Ft .u64 y1 F9) fun Fp=>Aa (wrap .u8 Fp) fun F2=>Aw (decide (y0*1<=y3.length)&&true&&decide ((y0+1)*1<=1099511627776)&&decide (y0+1<=1099511627776))<|Aa (y0+1) fun Iw=>Aa (List.take (y0*1) y3++[.sc (.int .u8 F2)]) fun Hl=>Aa (wrap .i64 (y2-1)) fun H3=>Fb fu call Bq a0 a1 a2 (nn) Iw (y1) H3 Hl) (Aw (decide (y0*1<=y3.length))<|some (A4.mk [.own 1 y0 (List.take (y0*1) y3)] []))):=by kernel_rfl
theorem JF (fu d Bq:Nat)(a0:List PV)(a1 a2:Int):Ad C0 prog fu (d+1) Oo [.own 1 Bq a0,.sc (.int .u8 a1),.sc (.int .u64 a2)]=(fun (call:Ah)=>Aa (Jf .u8 a1 5) fun x1=>Bm (decide (a2<24)) (Aa (wrap .u8 a2) fun x2=>Aa (wrap .u8 (x1+x2)) fun x3=>Aw (decide (Bq*1<=a0.length)&&true&&decide ((Bq+1)*1<=1099511627776)&&decide (Bq+1<=1099511627776))<|Aa (Bq+1) fun x4=>Aa (List.take (Bq*1) a0++[.sc (.int .u8 x3)]) fun x5=>Aw (decide (x4*1<=x5.length))<|some (A4.mk [.own 1 x4 (List.take (x4*1) x5)] [])) (Bm (decide (a2<256)) (Aa (wrap .u8 (x1+24)) fun x6=>Aw (decide (Bq*1<=a0.length)&&true&&decide ((Bq+1)*1<=1099511627776)&&decide (Bq+1<=1099511627776))<|Aa (Bq+1) fun x7=>Aa (List.take (Bq*1) a0++[.sc (.int .u8 x6)]) fun x8=>Fb fu call Bq a0 a1 a2 (fu) x7 (a2) 0 x8) (Bm (decide (a2<65536)) (Aa (wrap .u8 (x1+25)) fun x9=>Aw (decide (Bq*1<=a0.length)&&true&&decide ((Bq+1)*1<=1099511627776)&&decide (Bq+1<=1099511627776))<|Aa (Bq+1) fun Cy=>Aa (List.take (Bq*1) a0++[.sc (.int .u8 x9)]) fun C4=>Fb fu call Bq a0 a1 a2 (fu) Cy (a2) 1 C4) (Bm (decide (a2<4294967296)) (Aa (wrap .u8 (x1+26)) fun D1=>Aw (decide (Bq*1<=a0.length)&&true&&decide ((Bq+1)*1<=1099511627776)&&decide (Bq+1<=1099511627776))<|Aa (Bq+1) fun Ed=>Aa (List.take (Bq*1) a0++[.sc (.int .u8 D1)]) fun Dn=>Fb fu call Bq a0 a1 a2 (fu) Ed (a2) 3 Dn) (Aa (wrap .u8 (x1+27)) fun Eg=>Aw (decide (Bq*1<=a0.length)&&true&&decide ((Bq+1)*1<=1099511627776)&&decide (Bq+1<=1099511627776))<|Aa (Bq+1) fun Ez=>Aa (List.take (Bq*1) a0++[.sc (.int .u8 Eg)]) fun Fq=>Fb fu call Bq a0 a1 a2 (fu) Ez (a2) 7 Fq))))) (Ad C0 prog fu d):=by kernel_rfl
abbrev Vj:FuncId:=108
theorem KW (fu d Bq:Nat)(a0:List PV)(Cr Cs:Int)(C1:ByteArray):Ad C0 prog fu (d+1) Vj [.own 1 Bq a0,.agg [.sc (.int .i64 Cr),.sc (.int .u64 Cs),.sc (.string C1)]]=(fun (call:Ah)=>Bm (Cr==7) (Aa (wrap .u8 Cs) fun x1=>Aa (wrap .u8 (244+x1)) fun x2=>Aw (decide (Bq*1<=a0.length)&&true&&decide ((Bq+1)*1<=1099511627776)&&decide (Bq+1<=1099511627776))<|Aa (Bq+1) fun x3=>Aa (List.take (Bq*1) a0++[.sc (.int .u8 x2)]) fun x4=>Aw (decide (x3*1<=x4.length))<|some (A4.mk [.own 1 x3 (List.take (x3*1) x4)] [])) (Bm (Cr==8) (Aw (decide (Bq*1<=a0.length)&&true&&decide ((Bq+1)*1<=1099511627776)&&decide (Bq+1<=1099511627776))<|Aa (Bq+1) fun x5=>Aa (List.take (Bq*1) a0++[.sc (.int .u8 246)]) fun x6=>Aw (decide (x5*1<=x6.length))<|some (A4.mk [.own 1 x5 (List.take (x5*1) x6)] [])) (Bm (Cr==3) (Aa (wrap .i64 (Cr-1)) fun x7=>Aa (wrap .u8 x7) fun x8=>Aa (wrap .u64 (↑(ByteArray.size C1):Int)) fun x9=>Aw (decide (Bq*1<=a0.length))<|Aj (call 133 [.own 1 Bq (List.take (Bq*1) a0),.sc (.int .u8 x8),.sc (.int .u64 x9)]) fun Cy C4=>Ab Cy fun D1 Ed=>F5 1 D1 fun Dn Eg=>Ac Ed<|Ac C4<|Aw (decide (Dn*1<=Eg.length)&&decide (List.length (Ew C1)=ByteArray.size C1*1)&&decide ((Dn+ByteArray.size C1)*1<=1099511627776)&&decide (Dn+ByteArray.size C1<=1099511627776))<|Aa (Dn+ByteArray.size C1) fun Ez=>Aa (List.take (Dn*1) Eg++Ew C1) fun Fq=>Aw (decide (Ez*1<=Fq.length))<|some (A4.mk [.own 1 Ez (List.take (Ez*1) Fq)] [])) (Bm (Cr==4) (Aa (wrap .i64 (Cr-1)) fun F9=>Aa (wrap .u8 F9) fun Fp=>Aa (wrap .u64 (↑(ByteArray.size C1):Int)) fun F2=>Aw (decide (Bq*1<=a0.length))<|Aj (call 133 [.own 1 Bq (List.take (Bq*1) a0),.sc (.int .u8 Fp),.sc (.int .u64 F2)]) fun Iw Hl=>Ab Iw fun H3 E5=>F5 1 H3 fun Ep G2=>Ac E5<|Ac Hl<|Aw (decide (Ep*1<=G2.length)&&decide (List.length (Ew C1)=ByteArray.size C1*1)&&decide ((Ep+ByteArray.size C1)*1<=1099511627776)&&decide (Ep+ByteArray.size C1<=1099511627776))<|Aa (Ep+ByteArray.size C1) fun I1=>Aa (List.take (Ep*1) G2++Ew C1) fun Gs=>Aw (decide (I1*1<=Gs.length))<|some (A4.mk [.own 1 I1 (List.take (I1*1) Gs)] [])) (Aa (wrap .i64 (Cr-1)) fun Ml=>Aa (wrap .u8 Ml) fun L5=>Aw (decide (Bq*1<=a0.length))<|Aj (call 133 [.own 1 Bq (List.take (Bq*1) a0),.sc (.int .u8 L5),.sc (.int .u64 Cs)]) fun J6 Le=>Ab J6 fun Mc Nh=>F5 1 Mc fun Nw Qa=>Ac Nh<|Ac Le<|Aw (decide (Nw*1<=Qa.length))<|some (A4.mk [.own 1 Nw (List.take (Nw*1) Qa)] [])))))) (Ad C0 prog fu d):=by kernel_rfl
abbrev Xu:FuncId:=87
theorem MC (fu d Al:Nat)(Ag:List PV)(Ai:Int):Ad C0 prog fu (d+1) Xu [.pbox [.own 3 Al Ag,.sc (.int .i64 Ai)]]=(fun (call:Ah)=>Bm (decide (Ai>0)) (Aw (decide (Al*3<=Ag.length))<|some (A4.mk [.sc (.bool ((↑Al:Int)==0))] [[.own 3 Al (List.take (Al*3) Ag),.sc (.int .i64 Ai)]])) (Aw (decide (Al*3<=Ag.length))<|some (A4.mk [.sc (.bool false)] [[.own 3 Al (List.take (Al*3) Ag),.sc (.int .i64 Ai)]]))) (Ad C0 prog fu d):=by kernel_rfl
abbrev Vk:FuncId:=142
theorem KJ (fu d Al:Nat)(Ag:List PV)(Ai:Int):Ad C0 prog fu (d+1) Vk [.pbox [.own 3 Al Ag,.sc (.int .i64 Ai)]]=(fun (call:Ah)=>Bm (decide ((↑Al:Int)>0)) (Aa (wrap .i64 ((↑Al:Int)-1)) fun x1=>Aw (decide (0<=x1)&&decide (x1<(↑Al:Int)))<|B3 (List.getD Ag (0+Int.toNat x1*3+0) .top) fun x2=>Bm x2 (Aa (wrap .i64 ((↑Al:Int)-1)) fun x3=>Aw (decide (0<=x3)&&decide (x3<(↑Al:Int)))<|Ae .i64 (List.getD Ag (0+Int.toNat x3*3+1) .top) fun x4=>Aa (Int.tmod x4 2) fun x5=>Aw (decide (Al*3<=Ag.length))<|some (A4.mk [.sc (.bool (x5==0))] [[.own 3 Al (List.take (Al*3) Ag),.sc (.int .i64 Ai)]])) (Aw (decide (Al*3<=Ag.length))<|some (A4.mk [.sc (.bool false)] [[.own 3 Al (List.take (Al*3) Ag),.sc (.int .i64 Ai)]]))) (Aw (decide (Al*3<=Ag.length))<|some (A4.mk [.sc (.bool false)] [[.own 3 Al (List.take (Al*3) Ag),.sc (.int .i64 Ai)]]))) (Ad C0 prog fu d):=by kernel_rfl
abbrev Ve:FuncId:=122
theorem JZ (fu d Al:Nat)(Ag:List PV)(Ai a1:Int):Ad C0 prog fu (d+1) Ve [.pbox [.own 3 Al Ag,.sc (.int .i64 Ai)],.sc (.int .i64 a1)]=(fun (call:Ah)=>Bm (decide (Ai>=512)) (Aw (decide (Al*3<=Ag.length))<|some (A4.mk [.sc (.int .i64 8)] [[.own 3 Al (List.take (Al*3) Ag),.sc (.int .i64 Ai)]])) (Bm (decide (a1<1)) (Aw (decide (Al*3<=Ag.length))<|some (A4.mk [.sc (.int .i64 3)] [[.own 3 Al (List.take (Al*3) Ag),.sc (.int .i64 Ai)]])) (Bm (decide (a1>8)) (Aw (decide (Al*3<=Ag.length))<|some (A4.mk [.sc (.int .i64 3)] [[.own 3 Al (List.take (Al*3) Ag),.sc (.int .i64 Ai)]])) (Aw (decide (Al*3<=Ag.length))<|Aj (call 142 [.pbox [.own 3 Al (List.take (Al*3) Ag),.sc (.int .i64 Ai)]]) fun x1 x2=>Ab x1 fun x3 x4=>B3 x3 fun x5=>Ac x4<|Ab x2 fun x6 x7=>Ab x6 fun x8 x9=>F5 3 x8 fun Cy C4=>Ab x9 fun D1 Ed=>Ae .i64 D1 fun Dn=>Ac Ed<|Ac x7<|Bm x5 (Bm (a1 != 1) (Bm (a1 != 2) (Bm (a1 != 4) (Aw (decide (Cy*3<=C4.length))<|some (A4.mk [.sc (.int .i64 3)] [[.own 3 Cy (List.take (Cy*3) C4),.sc (.int .i64 Dn)]])) (Bm (decide ((↑Cy:Int)>8)) (Aw (decide (Cy*3<=C4.length))<|some (A4.mk [.sc (.int .i64 5)] [[.own 3 Cy (List.take (Cy*3) C4),.sc (.int .i64 Dn)]])) (Aw (decide (Cy*3<=C4.length))<|some (A4.mk [.sc (.int .i64 0)] [[.own 3 Cy (List.take (Cy*3) C4),.sc (.int .i64 Dn)]])))) (Bm (decide ((↑Cy:Int)>8)) (Aw (decide (Cy*3<=C4.length))<|some (A4.mk [.sc (.int .i64 5)] [[.own 3 Cy (List.take (Cy*3) C4),.sc (.int .i64 Dn)]])) (Aw (decide (Cy*3<=C4.length))<|some (A4.mk [.sc (.int .i64 0)] [[.own 3 Cy (List.take (Cy*3) C4),.sc (.int .i64 Dn)]])))) (Bm (decide ((↑Cy:Int)>8)) (Aw (decide (Cy*3<=C4.length))<|some (A4.mk [.sc (.int .i64 5)] [[.own 3 Cy (List.take (Cy*3) C4),.sc (.int .i64 Dn)]])) (Aw (decide (Cy*3<=C4.length))<|some (A4.mk [.sc (.int .i64 0)] [[.own 3 Cy (List.take (Cy*3) C4),.sc (.int .i64 Dn)]])))) (Bm (decide ((↑Cy:Int)>8)) (Aw (decide (Cy*3<=C4.length))<|some (A4.mk [.sc (.int .i64 5)] [[.own 3 Cy (List.take (Cy*3) C4),.sc (.int .i64 Dn)]])) (Aw (decide (Cy*3<=C4.length))<|some (A4.mk [.sc (.int .i64 0)] [[.own 3 Cy (List.take (Cy*3) C4),.sc (.int .i64 Dn)]]))))))) (Ad C0 prog fu d):=by kernel_rfl
abbrev Xs:FuncId:=144
noncomputable def Bl (fu:Nat)(call:Ah)(Al:Nat)(Ag:List PV)(Ai Cr Cs:Int)(C1:ByteArray)(nn:Nat)(y0:Int)(y1:Nat)(y2:Int)(y3:List PV):Option A4:=Dd CB prog fu call 144 Tryz.f144 (B9 Tryz.f144) [.pbox [.own 3 Al Ag,.sc (.int .i64 Ai)],.agg [.sc (.int .i64 Cr),.sc (.int .u64 Cs),.sc (.string C1)]] [.r,.r,.r,.r,.r,.r,.l] nn ⟨lk [(0,(.ptr 212000 0)),(5,(.sc (.int .i64 y0)))],B7 [(212000,(.st [(.view 212106 3 0 y1),(.sc (.int .i64 y2))])),(212106,(.ar false y3))]⟩
theorem Ro (fu:Nat)(call:Ah)(Al:Nat)(Ag:List PV)(Ai Cr Cs:Int)(C1:ByteArray)(nn:Nat)(y0:Int)(y1:Nat)(y2:Int)(y3:List PV):Bl fu call Al Ag Ai Cr Cs C1 (nn+1) y0 y1 y2 y3=(Bm (decide (y0>0)) (Aa (wrap .i64 (y0-1)) fun Qa=>Aw (decide (0<=Qa)&&decide (Qa<(↑y1:Int)))<|Ae .i64 (List.getD y3 (0+Int.toNat Qa*3+1) .top) fun Sb=>Bm (Sb==0) (Aa (wrap .i64 (y0-1)) fun Ip=>Aw (decide (0<=Ip))<|Aw (decide (Int.toNat Ip<=y1))<|Aa (Int.toNat Ip-0) fun Lf=>Aa (wrap .i64 (y0-1)) fun Rj=>Bl fu call Al Ag Ai Cr Cs C1 (nn) Rj Lf (y2) (y3)) (Aw (decide (y1*3<=y3.length))<|some (A4.mk [] [[.own 3 y1 (List.take (y1*3) y3),.sc (.int .i64 y2)]]))) (Aw (decide (y1*3<=y3.length))<|some (A4.mk [] [[.own 3 y1 (List.take (y1*3) y3),.sc (.int .i64 y2)]]))):=by kernel_rfl
theorem NO (fu d Al:Nat)(Ag:List PV)(Ai Cr Cs:Int)(C1:ByteArray):Ad C0 prog fu (d+1) Xs [.pbox [.own 3 Al Ag,.sc (.int .i64 Ai)],.agg [.sc (.int .i64 Cr),.sc (.int .u64 Cs),.sc (.string C1)]]=(fun (call:Ah)=>Aa (wrap .i64 (Ai+1)) fun x1=>Bm (decide ((↑Al:Int)>0)) (Aa (wrap .i64 ((↑Al:Int)-1)) fun x2=>Aw (decide (0<=x2)&&decide (x2<(↑Al:Int)))<|Ae .i64 (List.getD Ag (0+Int.toNat x2*3+1) .top) fun x3=>Aa (wrap .i64 (x3-1)) fun x4=>Aw (decide (0<=x2)&&decide (x2<(↑Al:Int)))<|Aw (decide (0+Int.toNat x2*3+1+1<=Ag.length))<|Aa (B4 Ag [.sc (.int .i64 x4)] (0+Int.toNat x2*3+1)) fun x5=>Bm (Cr==5) (Bm (decide (Cs>0)) (Aa (wrap .i64 Cs) fun x6=>Aw (decide (Al*3<=x5.length)&&true&&decide ((Al+1)*40<=1099511627776)&&decide (Al+1<=1099511627776))<|Aa (Al+1) fun x7=>Aa (List.take (Al*3) x5++[.sc (.bool false),.sc (.int .i64 x6),.lst false 1 0 []]) fun x8=>Bm (Cr==6) (Bm (decide (Cs>0)) (Aa (wrap .i64 Cs) fun x9=>Aa (wrap .i64 (2*x9)) fun Cy=>Aw (decide (x7*3<=x8.length)&&true&&decide ((x7+1)*40<=1099511627776)&&decide (x7+1<=1099511627776))<|Aa (x7+1) fun C4=>Aa (List.take (x7*3) x8++[.sc (.bool true),.sc (.int .i64 Cy),.lst false 1 0 []]) fun D1=>Bl fu call Al Ag Ai Cr Cs C1 (fu) ((↑C4:Int)) C4 x1 D1) (Bl fu call Al Ag Ai Cr Cs C1 (fu) ((↑x7:Int)) x7 x1 x8)) (Bl fu call Al Ag Ai Cr Cs C1 (fu) ((↑x7:Int)) x7 x1 x8)) (Bm (Cr==6) (Bm (decide (Cs>0)) (Aa (wrap .i64 Cs) fun Ed=>Aa (wrap .i64 (2*Ed)) fun Dn=>Aw (decide (Al*3<=x5.length)&&true&&decide ((Al+1)*40<=1099511627776)&&decide (Al+1<=1099511627776))<|Aa (Al+1) fun Eg=>Aa (List.take (Al*3) x5++[.sc (.bool true),.sc (.int .i64 Dn),.lst false 1 0 []]) fun Ez=>Bl fu call Al Ag Ai Cr Cs C1 (fu) ((↑Eg:Int)) Eg x1 Ez) (Bl fu call Al Ag Ai Cr Cs C1 (fu) ((↑Al:Int)) (Al) x1 x5)) (Bl fu call Al Ag Ai Cr Cs C1 (fu) ((↑Al:Int)) (Al) x1 x5))) (Bm (Cr==6) (Bm (decide (Cs>0)) (Aa (wrap .i64 Cs) fun Fq=>Aa (wrap .i64 (2*Fq)) fun F9=>Aw (decide (Al*3<=x5.length)&&true&&decide ((Al+1)*40<=1099511627776)&&decide (Al+1<=1099511627776))<|Aa (Al+1) fun Fp=>Aa (List.take (Al*3) x5++[.sc (.bool true),.sc (.int .i64 F9),.lst false 1 0 []]) fun F2=>Bl fu call Al Ag Ai Cr Cs C1 (fu) ((↑Fp:Int)) Fp x1 F2) (Bl fu call Al Ag Ai Cr Cs C1 (fu) ((↑Al:Int)) (Al) x1 x5)) (Bl fu call Al Ag Ai Cr Cs C1 (fu) ((↑Al:Int)) (Al) x1 x5))) (Bm (Cr==5) (Bm (decide (Cs>0)) (Aa (wrap .i64 Cs) fun Iw=>Aw (decide (Al*3<=Ag.length)&&true&&decide ((Al+1)*40<=1099511627776)&&decide (Al+1<=1099511627776))<|Aa (Al+1) fun Hl=>Aa (List.take (Al*3) Ag++[.sc (.bool false),.sc (.int .i64 Iw),.lst false 1 0 []]) fun H3=>Bm (Cr==6) (Bm (decide (Cs>0)) (Aa (wrap .i64 Cs) fun E5=>Aa (wrap .i64 (2*E5)) fun Ep=>Aw (decide (Hl*3<=H3.length)&&true&&decide ((Hl+1)*40<=1099511627776)&&decide (Hl+1<=1099511627776))<|Aa (Hl+1) fun G2=>Aa (List.take (Hl*3) H3++[.sc (.bool true),.sc (.int .i64 Ep),.lst false 1 0 []]) fun I1=>Bl fu call Al Ag Ai Cr Cs C1 (fu) ((↑G2:Int)) G2 x1 I1) (Bl fu call Al Ag Ai Cr Cs C1 (fu) ((↑Hl:Int)) Hl x1 H3)) (Bl fu call Al Ag Ai Cr Cs C1 (fu) ((↑Hl:Int)) Hl x1 H3)) (Bm (Cr==6) (Bm (decide (Cs>0)) (Aa (wrap .i64 Cs) fun Gs=>Aa (wrap .i64 (2*Gs)) fun Ml=>Aw (decide (Al*3<=Ag.length)&&true&&decide ((Al+1)*40<=1099511627776)&&decide (Al+1<=1099511627776))<|Aa (Al+1) fun L5=>Aa (List.take (Al*3) Ag++[.sc (.bool true),.sc (.int .i64 Ml),.lst false 1 0 []]) fun J6=>Bl fu call Al Ag Ai Cr Cs C1 (fu) ((↑L5:Int)) L5 x1 J6) (Bl fu call Al Ag Ai Cr Cs C1 (fu) ((↑Al:Int)) (Al) x1 (Ag))) (Bl fu call Al Ag Ai Cr Cs C1 (fu) ((↑Al:Int)) (Al) x1 (Ag)))) (Bm (Cr==6) (Bm (decide (Cs>0)) (Aa (wrap .i64 Cs) fun Le=>Aa (wrap .i64 (2*Le)) fun Mc=>Aw (decide (Al*3<=Ag.length)&&true&&decide ((Al+1)*40<=1099511627776)&&decide (Al+1<=1099511627776))<|Aa (Al+1) fun Nh=>Aa (List.take (Al*3) Ag++[.sc (.bool true),.sc (.int .i64 Mc),.lst false 1 0 []]) fun Nw=>Bl fu call Al Ag Ai Cr Cs C1 (fu) ((↑Nh:Int)) Nh x1 Nw) (Bl fu call Al Ag Ai Cr Cs C1 (fu) ((↑Al:Int)) (Al) x1 (Ag))) (Bl fu call Al Ag Ai Cr Cs C1 (fu) ((↑Al:Int)) (Al) x1 (Ag))))) (Ad C0 prog fu d):=by kernel_rfl
abbrev M0:FuncId:=123
theorem M1 (fu d Al:Nat)(Ag:List PV)(Ai Cr Cs:Int)(C1:ByteArray):Ad C0 prog fu (d+1) M0 [.pbox [.own 3 Al Ag,.sc (.int .i64 Ai)],.agg [.sc (.int .i64 Cr),.sc (.int .u64 Cs),.sc (.string C1)]]=(fun (call:Ah)=>Bm (Cr==4) (Aj (call 126 [.sc (.string C1)]) fun x1 x2=>Ac x2<|Ab x1 fun x3 x4=>B3 x3 fun x5=>Ac x4<|Bm (!x5) (Aw (decide (Al*3<=Ag.length))<|some (A4.mk [.sc (.int .i64 6)] [[.own 3 Al (List.take (Al*3) Ag),.sc (.int .i64 Ai)]])) (Aw (decide (Al*3<=Ag.length))<|Aj (call 142 [.pbox [.own 3 Al (List.take (Al*3) Ag),.sc (.int .i64 Ai)]]) fun x6 x7=>Ab x6 fun x8 x9=>B3 x8 fun Cy=>Ac x9<|Ab x7 fun C4 D1=>Ab C4 fun Ed Dn=>F5 3 Ed fun Eg Ez=>Ab Dn fun Fq F9=>Ae .i64 Fq fun Fp=>Ac F9<|Ac D1<|Bm Cy (Aa (wrap .i64 ((↑Eg:Int)-1)) fun F2=>Aw (decide (0<=F2)&&decide (F2<(↑Eg:Int)))<|Aj (call 108 [.own 1 0 [],.agg [.sc (.int .i64 Cr),.sc (.int .u64 Cs),.sc (.string C1)]]) fun Iw Hl=>Ab Iw fun H3 E5=>F5 1 H3 fun Ep G2=>Ac E5<|Ac Hl<|Fa 1 (List.getD Ez (0+Int.toNat F2*3+0+2) .top) fun I1 Gs Ml=>Bm (decide (0<Gs)) (Fa 1 (List.getD Ez (0+Int.toNat F2*3+0+2) .top) fun L5 J6 Le=>Aw (decide (0+Ep*1<=G2.length))<|Aj (call 143 [.lst false 1 J6 Le,.lst false 1 Ep (List.take (Ep*1) (List.drop 0 G2))]) fun Mc Nh=>Ac Nh<|Ab Mc fun Nw Qa=>B3 Nw fun Sb=>Ac Qa<|Bm (!Sb) (Aw (decide (Eg*3<=Ez.length))<|some (A4.mk [.sc (.int .i64 7)] [[.own 3 Eg (List.take (Eg*3) Ez),.sc (.int .i64 Fp)]])) (Aw (decide (0+Int.toNat F2*3+0+2+1<=Ez.length))<|Aw (decide (0+Ep*1<=G2.length))<|Aa (B4 Ez [.lst false 1 Ep (List.take (Ep*1) (List.drop 0 G2))] (0+Int.toNat F2*3+0+2)) fun Ip=>Aw (decide (Eg*3<=Ip.length))<|Aj (call 144 [.pbox [.own 3 Eg (List.take (Eg*3) Ip),.sc (.int .i64 Fp)],.agg [.sc (.int .i64 Cr),.sc (.int .u64 Cs),.sc (.string C1)]]) fun Lf Rj=>Ac Lf<|Ab Rj fun V9 Rb=>Ab V9 fun Zb Za=>F5 3 Zb fun Wc Wa=>Ab Za fun Wt Xr=>Ae .i64 Wt fun Xi=>Ac Xr<|Ac Rb<|Aw (decide (Wc*3<=Wa.length))<|some (A4.mk [.sc (.int .i64 0)] [[.own 3 Wc (List.take (Wc*3) Wa),.sc (.int .i64 Xi)]]))) (Zf (Fa 1 (List.getD Ez (0+Int.toNat F2*3+0+2) .top) fun Ze Y8 Xz=>Aw (decide (0+Ep*1<=G2.length))<|Aj (call 143 [.lst false 1 Y8 Xz,.lst false 1 Ep (List.take (Ep*1) (List.drop 0 G2))]) fun AN AG=>Ac AG<|Ab AN fun Yd Zq=>B3 Yd fun AJ=>Ac Zq<|Bm (!AJ) (Aw (decide (Eg*3<=Ez.length))<|some (A4.mk [.sc (.int .i64 7)] [[.own 3 Eg (List.take (Eg*3) Ez),.sc (.int .i64 Fp)]])) (Aw (decide (0+Int.toNat F2*3+0+2+1<=Ez.length))<|Aw (decide (0+Ep*1<=G2.length))<|Aa (B4 Ez [.lst false 1 Ep (List.take (Ep*1) (List.drop 0 G2))] (0+Int.toNat F2*3+0+2)) fun Yz=>Aw (decide (Eg*3<=Yz.length))<|Aj (call 144 [.pbox [.own 3 Eg (List.take (Eg*3) Yz),.sc (.int .i64 Fp)],.agg [.sc (.int .i64 Cr),.sc (.int .u64 Cs),.sc (.string C1)]]) fun CJ AB=>Ac CJ<|Ab AB fun AF DT=>Ab AF fun AC Zn=>F5 3 AC fun Y5 Wd=>Ab Zn fun AM DF=>Ae .i64 AM fun AD=>Ac DF<|Ac DT<|Aw (decide (Y5*3<=Wd.length))<|some (A4.mk [.sc (.int .i64 0)] [[.own 3 Y5 (List.take (Y5*3) Wd),.sc (.int .i64 AD)]]))) (Aw (decide (0+Int.toNat F2*3+0+2+1<=Ez.length))<|Aw (decide (0+Ep*1<=G2.length))<|Aa (B4 Ez [.lst false 1 Ep (List.take (Ep*1) (List.drop 0 G2))] (0+Int.toNat F2*3+0+2)) fun CW=>Aw (decide (Eg*3<=CW.length))<|Aj (call 144 [.pbox [.own 3 Eg (List.take (Eg*3) CW),.sc (.int .i64 Fp)],.agg [.sc (.int .i64 Cr),.sc (.int .u64 Cs),.sc (.string C1)]]) fun AL CF=>Ac AL<|Ab CF fun ET Zu=>Ab ET fun EQ IH=>F5 3 EQ fun AH GO=>Ab IH fun JJ GB=>Ae .i64 JJ fun JS=>Ac GB<|Ac Zu<|Aw (decide (AH*3<=GO.length))<|some (A4.mk [.sc (.int .i64 0)] [[.own 3 AH (List.take (AH*3) GO),.sc (.int .i64 JS)]])))) (Aw (decide (Eg*3<=Ez.length))<|Aj (call 144 [.pbox [.own 3 Eg (List.take (Eg*3) Ez),.sc (.int .i64 Fp)],.agg [.sc (.int .i64 Cr),.sc (.int .u64 Cs),.sc (.string C1)]]) fun PD XF=>Ac PD<|Ab XF fun OV UA=>Ab OV fun SF RC=>F5 3 SF fun QT IG=>Ab RC fun RP QY=>Ae .i64 RP fun YW=>Ac QY<|Ac UA<|Aw (decide (QT*3<=IG.length))<|some (A4.mk [.sc (.int .i64 0)] [[.own 3 QT (List.take (QT*3) IG),.sc (.int .i64 YW)]])))) (Aw (decide (Al*3<=Ag.length))<|Aj (call 142 [.pbox [.own 3 Al (List.take (Al*3) Ag),.sc (.int .i64 Ai)]]) fun LX XG=>Ab LX fun x95 YG=>B3 x95 fun ND=>Ac YG<|Ab XG fun LU XD=>Ab LU fun Vs Vt=>F5 3 Vs fun Jg Lm=>Ab Vt fun Uk Tb=>Ae .i64 Uk fun Sh=>Ac Tb<|Ac XD<|Bm ND (Aa (wrap .i64 ((↑Jg:Int)-1)) fun Nt=>Aw (decide (0<=Nt)&&decide (Nt<(↑Jg:Int)))<|Aj (call 108 [.own 1 0 [],.agg [.sc (.int .i64 Cr),.sc (.int .u64 Cs),.sc (.string C1)]]) fun X7 Z8=>Ab X7 fun DB CV=>F5 1 DB fun I8 Mt=>Ac CV<|Ac Z8<|Fa 1 (List.getD Lm (0+Int.toNat Nt*3+0+2) .top) fun EP EO Yj=>Bm (decide (0<EO)) (Fa 1 (List.getD Lm (0+Int.toNat Nt*3+0+2) .top) fun EJ FH BQ=>Aw (decide (0+I8*1<=Mt.length))<|Aj (call 143 [.lst false 1 FH BQ,.lst false 1 I8 (List.take (I8*1) (List.drop 0 Mt))]) fun EK ES=>Ac ES<|Ab EK fun AO BV=>B3 AO fun CZ=>Ac BV<|Bm (!CZ) (Aw (decide (Jg*3<=Lm.length))<|some (A4.mk [.sc (.int .i64 7)] [[.own 3 Jg (List.take (Jg*3) Lm),.sc (.int .i64 Sh)]])) (Aw (decide (0+Int.toNat Nt*3+0+2+1<=Lm.length))<|Aw (decide (0+I8*1<=Mt.length))<|Aa (B4 Lm [.lst false 1 I8 (List.take (I8*1) (List.drop 0 Mt))] (0+Int.toNat Nt*3+0+2)) fun FD=>Aw (decide (Jg*3<=FD.length))<|Aj (call 144 [.pbox [.own 3 Jg (List.take (Jg*3) FD),.sc (.int .i64 Sh)],.agg [.sc (.int .i64 Cr),.sc (.int .u64 Cs),.sc (.string C1)]]) fun CL HR=>Ac CL<|Ab HR fun RH MH=>Ab RH fun EN ZC=>F5 3 EN fun QS TZ=>Ab ZC fun NM YA=>Ae .i64 NM fun WV=>Ac YA<|Ac MH<|Aw (decide (QS*3<=TZ.length))<|some (A4.mk [.sc (.int .i64 0)] [[.own 3 QS (List.take (QS*3) TZ),.sc (.int .i64 WV)]]))) (Zf (Fa 1 (List.getD Lm (0+Int.toNat Nt*3+0+2) .top) fun YZ ZD UP=>Aw (decide (0+I8*1<=Mt.length))<|Aj (call 143 [.lst false 1 ZD UP,.lst false 1 I8 (List.take (I8*1) (List.drop 0 Mt))]) fun UE UI=>Ac UI<|Ab UE fun WA TY=>B3 WA fun MT=>Ac TY<|Bm (!MT) (Aw (decide (Jg*3<=Lm.length))<|some (A4.mk [.sc (.int .i64 7)] [[.own 3 Jg (List.take (Jg*3) Lm),.sc (.int .i64 Sh)]])) (Aw (decide (0+Int.toNat Nt*3+0+2+1<=Lm.length))<|Aw (decide (0+I8*1<=Mt.length))<|Aa (B4 Lm [.lst false 1 I8 (List.take (I8*1) (List.drop 0 Mt))] (0+Int.toNat Nt*3+0+2)) fun QJ=>Aw (decide (Jg*3<=QJ.length))<|Aj (call 144 [.pbox [.own 3 Jg (List.take (Jg*3) QJ),.sc (.int .i64 Sh)],.agg [.sc (.int .i64 Cr),.sc (.int .u64 Cs),.sc (.string C1)]]) fun VE TQ=>Ac VE<|Ab TQ fun WX Ac5=>Ab WX fun Adm Acu=>F5 3 Adm fun Ac3 Ajj=>Ab Acu fun Aoc Ajc=>Ae .i64 Aoc fun Ajo=>Ac Ajc<|Ac Ac5<|Aw (decide (Ac3*3<=Ajj.length))<|some (A4.mk [.sc (.int .i64 0)] [[.own 3 Ac3 (List.take (Ac3*3) Ajj),.sc (.int .i64 Ajo)]]))) (Aw (decide (0+Int.toNat Nt*3+0+2+1<=Lm.length))<|Aw (decide (0+I8*1<=Mt.length))<|Aa (B4 Lm [.lst false 1 I8 (List.take (I8*1) (List.drop 0 Mt))] (0+Int.toNat Nt*3+0+2)) fun Aei=>Aw (decide (Jg*3<=Aei.length))<|Aj (call 144 [.pbox [.own 3 Jg (List.take (Jg*3) Aei),.sc (.int .i64 Sh)],.agg [.sc (.int .i64 Cr),.sc (.int .u64 Cs),.sc (.string C1)]]) fun Ah7 Ah8=>Ac Ah7<|Ab Ah8 fun Aka Akp=>Ab Aka fun Aji Apa=>F5 3 Aji fun TB Agb=>Ab Apa fun Ai1 Aj0=>Ae .i64 Ai1 fun Am5=>Ac Aj0<|Ac Akp<|Aw (decide (TB*3<=Agb.length))<|some (A4.mk [.sc (.int .i64 0)] [[.own 3 TB (List.take (TB*3) Agb),.sc (.int .i64 Am5)]])))) (Aw (decide (Jg*3<=Lm.length))<|Aj (call 144 [.pbox [.own 3 Jg (List.take (Jg*3) Lm),.sc (.int .i64 Sh)],.agg [.sc (.int .i64 Cr),.sc (.int .u64 Cs),.sc (.string C1)]]) fun Aos XW=>Ac Aos<|Ab XW fun YL Ajp=>Ab YL fun Aii YM=>F5 3 Aii fun Adi Aht=>Ab YM fun Aiy Ajx=>Ae .i64 Aiy fun Ab1=>Ac Ajx<|Ac Ajp<|Aw (decide (Adi*3<=Aht.length))<|some (A4.mk [.sc (.int .i64 0)] [[.own 3 Adi (List.take (Adi*3) Aht),.sc (.int .i64 Ab1)]])))) (Ad C0 prog fu d):=by kernel_rfl
abbrev Rq:FuncId:=132
theorem EC (fu d Al:Nat)(Ag:List PV)(Ai Cr Cs:Int)(C1:ByteArray):Ad C0 prog fu (d+1) Rq [.pbox [.own 3 Al Ag,.sc (.int .i64 Ai)],.agg [.sc (.int .i64 Cr),.sc (.int .u64 Cs),.sc (.string C1)]]=(fun (call:Ah)=>Aw (decide (Al*3<=Ag.length))<|Aj (call 87 [.pbox [.own 3 Al (List.take (Al*3) Ag),.sc (.int .i64 Ai)]]) fun x1 x2=>Ab x1 fun x3 x4=>B3 x3 fun x5=>Ac x4<|Ab x2 fun x6 x7=>Ab x6 fun x8 x9=>F5 3 x8 fun Cy C4=>Ab x9 fun D1 Ed=>Ae .i64 D1 fun Dn=>Ac Ed<|Ac x7<|Bm x5 (Aw (decide (Cy*3<=C4.length))<|some (A4.mk [.sc (.int .i64 2)] [[.own 3 Cy (List.take (Cy*3) C4),.sc (.int .i64 Dn)]])) (Aw (decide (Cy*3<=C4.length))<|Aj (call 122 [.pbox [.own 3 Cy (List.take (Cy*3) C4),.sc (.int .i64 Dn)],.sc (.int .i64 Cr)]) fun Eg Ez=>Ab Eg fun Fq F9=>Ae .i64 Fq fun Fp=>Ac F9<|Ab Ez fun F2 Iw=>Ab F2 fun Hl H3=>F5 3 Hl fun E5 Ep=>Ab H3 fun G2 I1=>Ae .i64 G2 fun Gs=>Ac I1<|Ac Iw<|Bm (Fp != 0) (Aw (decide (E5*3<=Ep.length))<|some (A4.mk [.sc (.int .i64 Fp)] [[.own 3 E5 (List.take (E5*3) Ep),.sc (.int .i64 Gs)]])) (Aj (call 146 [.agg [.sc (.int .i64 Cr),.sc (.int .u64 Cs),.sc (.string C1)]]) fun Ml L5=>Ac L5<|Ab Ml fun J6 Le=>B3 J6 fun Mc=>Ac Le<|Bm (!Mc) (Aw (decide (E5*3<=Ep.length))<|some (A4.mk [.sc (.int .i64 4)] [[.own 3 E5 (List.take (E5*3) Ep),.sc (.int .i64 Gs)]])) (Bm (decide ((↑(ByteArray.size C1):Int)>1024)) (Aw (decide (E5*3<=Ep.length))<|some (A4.mk [.sc (.int .i64 8)] [[.own 3 E5 (List.take (E5*3) Ep),.sc (.int .i64 Gs)]])) (Bm (Cr==5) (Bm (decide (Cs>512)) (Aw (decide (E5*3<=Ep.length))<|some (A4.mk [.sc (.int .i64 8)] [[.own 3 E5 (List.take (E5*3) Ep),.sc (.int .i64 Gs)]])) (Aw (decide (E5*3<=Ep.length))<|Aj (call 123 [.pbox [.own 3 E5 (List.take (E5*3) Ep),.sc (.int .i64 Gs)],.agg [.sc (.int .i64 Cr),.sc (.int .u64 Cs),.sc (.string C1)]]) fun Nh Nw=>Ab Nh fun Qa Sb=>Ae .i64 Qa fun Ip=>Ac Sb<|Ab Nw fun Lf Rj=>Ab Lf fun V9 Rb=>F5 3 V9 fun Zb Za=>Ab Rb fun Wc Wa=>Ae .i64 Wc fun Wt=>Ac Wa<|Ac Rj<|Aw (decide (Zb*3<=Za.length))<|some (A4.mk [.sc (.int .i64 Ip)] [[.own 3 Zb (List.take (Zb*3) Za),.sc (.int .i64 Wt)]]))) (Bm (Cr==6) (Bm (decide (Cs>512)) (Aw (decide (E5*3<=Ep.length))<|some (A4.mk [.sc (.int .i64 8)] [[.own 3 E5 (List.take (E5*3) Ep),.sc (.int .i64 Gs)]])) (Aw (decide (E5*3<=Ep.length))<|Aj (call 123 [.pbox [.own 3 E5 (List.take (E5*3) Ep),.sc (.int .i64 Gs)],.agg [.sc (.int .i64 Cr),.sc (.int .u64 Cs),.sc (.string C1)]]) fun Xr Xi=>Ab Xr fun Ze Y8=>Ae .i64 Ze fun Xz=>Ac Y8<|Ab Xi fun AN AG=>Ab AN fun Yd Zq=>F5 3 Yd fun AJ Yz=>Ab Zq fun CJ AB=>Ae .i64 CJ fun AF=>Ac AB<|Ac AG<|Aw (decide (AJ*3<=Yz.length))<|some (A4.mk [.sc (.int .i64 Xz)] [[.own 3 AJ (List.take (AJ*3) Yz),.sc (.int .i64 AF)]]))) (Aw (decide (E5*3<=Ep.length))<|Aj (call 123 [.pbox [.own 3 E5 (List.take (E5*3) Ep),.sc (.int .i64 Gs)],.agg [.sc (.int .i64 Cr),.sc (.int .u64 Cs),.sc (.string C1)]]) fun DT AC=>Ab DT fun Zn Y5=>Ae .i64 Zn fun Wd=>Ac Y5<|Ab AC fun AM DF=>Ab AM fun AD CW=>F5 3 AD fun AL CF=>Ab CW fun ET Zu=>Ae .i64 ET fun EQ=>Ac Zu<|Ac DF<|Aw (decide (AL*3<=CF.length))<|some (A4.mk [.sc (.int .i64 Wd)] [[.own 3 AL (List.take (AL*3) CF),.sc (.int .i64 EQ)]])))))))) (Ad C0 prog fu d):=by kernel_rfl
abbrev Zh:FuncId:=107
noncomputable def Lh (fu:Nat)(call:Ah)(Bq:Nat)(a0:List PV)(nn y0:Nat)(y1:List PV)(y2 y3:Int)(y4:Nat)(y5:Int)(y6:List PV):Option A4:=Dd CB prog fu call 107 Tryz.f107 (B9 Tryz.f107) [.lst false 3 Bq a0] [.r,.r,.l,.r,.l] nn ⟨lk [(3,(.ptr 3 0)),(7,(.lst false 3 y0 y1)),(8,(.sc (.int .i64 y2))),(9,(.sc (.int .i64 y3)))],B7 [(3,(.st [(.view 25 3 0 y4),(.sc (.int .i64 y5))])),(25,(.ar false y6))]⟩
theorem Uc (fu:Nat)(call:Ah)(Bq:Nat)(a0:List PV)(nn y0:Nat)(y1:List PV)(y2 y3:Int)(y4:Nat)(y5:Int)(y6:List PV):Lh fu call Bq a0 (nn+1) y0 y1 y2 y3 y4 y5 y6=(Bm (decide (y3<y2)) (Aw (decide (0<=y3)&&decide (y3<(↑y0:Int)))<|Ae .i64 (List.getD y1 (Int.toNat y3*3) .top) fun x1=>Ae .u64 (List.getD y1 (Int.toNat y3*3+1) .top) fun x2=>Fk (List.getD y1 (Int.toNat y3*3+1+1) .top) fun x3=>Aw (decide (y4*3<=y6.length))<|Aj (call 132 [.pbox [.own 3 y4 (List.take (y4*3) y6),.sc (.int .i64 y5)],.agg [.sc (.int .i64 x1),.sc (.int .u64 x2),.sc (.string x3)]]) fun x4 x5=>Ab x4 fun x6 x7=>Ae .i64 x6 fun x8=>Ac x7<|Ab x5 fun x9 Cy=>Ab x9 fun C4 D1=>F5 3 C4 fun Ed Dn=>Ab D1 fun Eg Ez=>Ae .i64 Eg fun Fq=>Ac Ez<|Ac Cy<|Bm (x8 != 0) (some (A4.mk [.sc (.int .i64 x8)] [])) (Aa (wrap .i64 (y3+1)) fun F9=>Lh fu call Bq a0 (nn) (y0) (y1) (y2) F9 Ed Fq Dn)) (Aw (decide (y4*3<=y6.length))<|Aj (call 87 [.pbox [.own 3 y4 (List.take (y4*3) y6),.sc (.int .i64 y5)]]) fun Fp F2=>Ab Fp fun Iw Hl=>B3 Iw fun H3=>Ac Hl<|Ab F2 fun E5 Ep=>Ab E5 fun G2 I1=>F5 3 G2 fun Gs Ml=>Ab I1 fun L5 J6=>Ae .i64 L5 fun Le=>Ac J6<|Ac Ep<|Bm (!H3) (some (A4.mk [.sc (.int .i64 1)] [])) (some (A4.mk [.sc (.int .i64 0)] [])))):=by kernel_rfl
theorem QP (fu d Bq:Nat)(a0:List PV):Ad C0 prog fu (d+1) Zh [.lst false 3 Bq a0]=(fun (call:Ah)=>Lh fu call Bq a0 (fu) (Bq) (a0) ((↑Bq:Int)) 0 0 0 ([])) (Ad C0 prog fu d):=by kernel_rfl
abbrev AW:FuncId:=106
theorem UJ (fu d Bq:Nat)(a0:List PV):Ad C0 prog fu (d+1) AW [.own 3 Bq a0]=(fun (call:Ah)=>Aw (decide (0+Bq*3<=a0.length))<|Aj (call 107 [.lst false 3 Bq (List.take (Bq*3) (List.drop 0 a0))]) fun x1 x2=>Ac x2<|Ab x1 fun x3 x4=>Ae .i64 x3 fun x5=>Ac x4<|Bm (x5 != 0) (some (A4.mk [.own 3 0 [],.sc (.int .i64 x5)] [])) (Aw (decide (Bq*3<=a0.length))<|some (A4.mk [.own 3 Bq (List.take (Bq*3) a0),.sc (.int .i64 0)] []))) (Ad C0 prog fu d):=by kernel_rfl
abbrev FK:FuncId:=105
noncomputable def N9 (fu:Nat)(call:Ah)(Bq:Nat)(a0:List PV)(nn y0:Nat)(y1:List PV)(y2 y3:Int):Option A4:=Dd CB prog fu call 105 Tryz.f105 (B9 Tryz.f105) [.lst false 1 Bq a0] [.r,.l,.r,.l] nn ⟨lk [(6,(.lst false 1 y0 y1)),(7,(.sc (.int .i64 y2))),(8,(.sc (.int .i64 y3)))],B7 []⟩
theorem Wl (fu:Nat)(call:Ah)(Bq:Nat)(a0:List PV)(nn y0:Nat)(y1:List PV)(y2 y3:Int):N9 fu call Bq a0 (nn+1) y0 y1 y2 y3=(Bm (decide (y3<y2)) (Aw (decide (0<=y3)&&decide (y3<(↑y0:Int)))<|Fa 3 (List.getD y1 (Int.toNat y3*1) .top) fun x1 x2 x3=>Aj (call 107 [.lst false 3 x2 x3]) fun x4 x5=>Ac x5<|Ab x4 fun x6 x7=>Ae .i64 x6 fun x8=>Ac x7<|Bm (x8 != 0) (some (A4.mk [.sc (.int .i64 x8)] [])) (Aa (wrap .i64 (y3+1)) fun x9=>N9 fu call Bq a0 (nn) (y0) (y1) (y2) x9)) (some (A4.mk [.sc (.int .i64 0)] []))):=by kernel_rfl
theorem YK (fu d Bq:Nat)(a0:List PV):Ad C0 prog fu (d+1) FK [.lst false 1 Bq a0]=(fun (call:Ah)=>N9 fu call Bq a0 (fu) (Bq) (a0) ((↑Bq:Int)) 0) (Ad C0 prog fu d):=by kernel_rfl
abbrev Ju:FuncId:=63
noncomputable def Qc (fu:Nat)(call:Ah)(Bq:Nat)(a0:List PV)(nn y0 y1:Nat)(y2:List PV)(y3 y4:Int)(y5:List PV):Option A4:=Dd CB prog fu call 63 Tryz.f63 (B9 Tryz.f63) [.lst false 1 Bq a0] [.r,.r,.r,.l,.r,.l] nn ⟨lk [(5,(.view 5 3 0 y0)),(18,(.lst false 1 y1 y2)),(19,(.sc (.int .i64 y3))),(20,(.sc (.int .i64 y4)))],B7 [(5,(.ar false y5))]⟩
theorem Zl (fu:Nat)(call:Ah)(Bq:Nat)(a0:List PV)(nn y0 y1:Nat)(y2:List PV)(y3 y4:Int)(y5:List PV):Qc fu call Bq a0 (nn+1) y0 y1 y2 y3 y4 y5=(Bm (decide (y4<y3)) (Aw (decide (0<=y4)&&decide (y4<(↑y1:Int)))<|Fa 3 (List.getD y2 (Int.toNat y4*1) .top) fun x7 x8 x9=>Bm (decide ((↑y0:Int)>512)) (Aw (decide (y0*3<=y5.length))<|Aj (call 106 [.own 3 y0 (List.take (y0*3) y5)]) fun Cy C4=>Ab Cy fun D1 Ed=>F5 3 D1 fun Dn Eg=>Ab Ed fun Ez Fq=>Ae .i64 Ez fun F9=>Ac Fq<|Ac C4<|Aw (decide (Dn*3<=Eg.length))<|some (A4.mk [.own 3 Dn (List.take (Dn*3) Eg),.sc (.int .i64 F9)] [])) (Aw (decide (y0*3<=y5.length)&&decide (x9.length=x8*3)&&decide ((y0+x8)*32<=1099511627776)&&decide (y0+x8<=1099511627776))<|Aa (y0+x8) fun Fp=>Aa (List.take (y0*3) y5++x9) fun F2=>Aa (wrap .i64 (y4+1)) fun Iw=>Qc fu call Bq a0 (nn) Fp (y1) (y2) (y3) Iw F2)) (Aw (decide (y0*3<=y5.length))<|Aj (call 106 [.own 3 y0 (List.take (y0*3) y5)]) fun Hl H3=>Ab Hl fun E5 Ep=>F5 3 E5 fun G2 I1=>Ab Ep fun Gs Ml=>Ae .i64 Gs fun L5=>Ac Ml<|Ac H3<|Aw (decide (G2*3<=I1.length))<|some (A4.mk [.own 3 G2 (List.take (G2*3) I1),.sc (.int .i64 L5)] []))):=by kernel_rfl
theorem Ab2 (fu d Bq:Nat)(a0:List PV):Ad C0 prog fu (d+1) Ju [.lst false 1 Bq a0]=(fun (call:Ah)=>Aj (call 105 [.lst false 1 Bq a0]) fun x1 x2=>Ac x2<|Ab x1 fun x3 x4=>Ae .i64 x3 fun x5=>Ac x4<|Bm (x5 != 0) (some (A4.mk [.own 3 0 [],.sc (.int .i64 x5)] [])) (Aa (wrap .u64 (↑Bq:Int)) fun x6=>Qc fu call Bq a0 (fu) 1 (Bq) (a0) ((↑Bq:Int)) 0 ([.sc (.int .i64 5),.sc (.int .u64 x6),.sc (.string (ByteArray.mk #[]))]))) (Ad C0 prog fu d):=by kernel_rfl
abbrev FL:FuncId:=65
noncomputable def Nx (fu:Nat)(call:Ah)(Bq:Nat)(a0:List PV)(nn y0 y1:Nat)(y2:List PV)(y3 y4:Int)(y5:List PV):Option A4:=Dd CB prog fu call 65 Tryz.f65 (B9 Tryz.f65) [.lst false 3 Bq a0] [.r,.r,.r,.l,.r,.l] nn ⟨lk [(5,(.view 5 1 0 y0)),(13,(.lst false 3 y1 y2)),(14,(.sc (.int .i64 y3))),(15,(.sc (.int .i64 y4)))],B7 [(5,(.ar false y5))]⟩
theorem Wk (fu:Nat)(call:Ah)(Bq:Nat)(a0:List PV)(nn y0 y1:Nat)(y2:List PV)(y3 y4:Int)(y5:List PV):Nx fu call Bq a0 (nn+1) y0 y1 y2 y3 y4 y5=(Bm (decide (y4<y3)) (Aw (decide (0<=y4)&&decide (y4<(↑y1:Int)))<|Ae .i64 (List.getD y2 (Int.toNat y4*3) .top) fun x6=>Ae .u64 (List.getD y2 (Int.toNat y4*3+1) .top) fun x7=>Fk (List.getD y2 (Int.toNat y4*3+1+1) .top) fun x8=>Aw (decide (y0*1<=y5.length))<|Aj (call 108 [.own 1 y0 (List.take (y0*1) y5),.agg [.sc (.int .i64 x6),.sc (.int .u64 x7),.sc (.string x8)]]) fun x9 Cy=>Ab x9 fun C4 D1=>F5 1 C4 fun Ed Dn=>Ac D1<|Ac Cy<|Aa (wrap .i64 (y4+1)) fun Eg=>Nx fu call Bq a0 (nn) Ed (y1) (y2) (y3) Eg Dn) (Aw (decide (y0*1<=y5.length))<|some (A4.mk [.own 1 y0 (List.take (y0*1) y5),.sc (.int .i64 0)] []))):=by kernel_rfl
theorem YP (fu d Bq:Nat)(a0:List PV):Ad C0 prog fu (d+1) FL [.lst false 3 Bq a0]=(fun (call:Ah)=>Aj (call 107 [.lst false 3 Bq a0]) fun x1 x2=>Ac x2<|Ab x1 fun x3 x4=>Ae .i64 x3 fun x5=>Ac x4<|Bm (x5 != 0) (some (A4.mk [.own 1 0 [],.sc (.int .i64 x5)] [])) (Nx fu call Bq a0 (fu) 0 (Bq) (a0) ((↑Bq:Int)) 0 ([]))) (Ad C0 prog fu d):=by kernel_rfl
end
section
open Go.Proofs.Tryz (prog)
open Go.IntKind (wrap)
set_option maxRecDepth 100000
abbrev Tt:FuncId:=127
noncomputable def Ea (fu:Nat)(call:Ah)(Ag Ai:Int)(Ay:ByteArray)(nn:Nat)(y0 y1:Int):Option A4:=Dd CB prog fu call 127 Tryz.f127 (B9 Tryz.f127) [.agg [.sc (.int .i64 Ag),.sc (.int .u64 Ai),.sc (.string Ay)]] [.r,.r,.r] nn ⟨lk [(3,(.sc (.int .u64 y0))),(4,(.sc (.int .u8 y1)))],B7 []⟩
theorem AA (fu:Nat)(call:Ah)(Ag Ai:Int)(Ay:ByteArray)(nn:Nat)(O6:0<nn)(y0 y1:Int):Ea fu call Ag Ai Ay nn y0 y1=(Bm (decide (y0<24)) (Aa (wrap .u8 y0) fun x5=>Aa (wrap .u8 (y1+x5)) fun x6=>some (A4.mk [.own 1 1 [.sc (.int .u8 x6)]] [])) (Bm (decide (y0<256)) (Aa (wrap .u8 (y1+24)) fun x7=>Aa (wrap .u8 y0) fun x8=>some (A4.mk [.own 1 2 [.sc (.int .u8 x7),.sc (.int .u8 x8)]] [])) (Bm (decide (y0<65536)) (Aa (wrap .u8 (y1+25)) fun x9=>Aa (Ft .u64 y0 8) fun Cy=>Aa (wrap .u8 Cy) fun C4=>Aa (wrap .u8 y0) fun D1=>some (A4.mk [.own 1 3 [.sc (.int .u8 x9),.sc (.int .u8 C4),.sc (.int .u8 D1)]] [])) (Bm (decide (y0<4294967296)) (Aa (wrap .u8 (y1+26)) fun Ed=>Aa (Ft .u64 y0 24) fun Dn=>Aa (wrap .u8 Dn) fun Eg=>Aa (Ft .u64 y0 16) fun Ez=>Aa (wrap .u8 Ez) fun Fq=>Aa (Ft .u64 y0 8) fun F9=>Aa (wrap .u8 F9) fun Fp=>Aa (wrap .u8 y0) fun F2=>some (A4.mk [.own 1 5 [.sc (.int .u8 Ed),.sc (.int .u8 Eg),.sc (.int .u8 Fq),.sc (.int .u8 Fp),.sc (.int .u8 F2)]] [])) (Aa (wrap .u8 (y1+27)) fun Iw=>Aj (call 79 [.lst false 1 1 [.sc (.int .u64 y0)]]) fun Hl H3=>Ac H3<|Ab Hl fun E5 Ep=>F5 1 E5 fun G2 I1=>Ac Ep<|Aw (decide (0+G2*1<=I1.length))<|Aw (decide (List.length (List.take (G2*1) (List.drop 0 I1))=G2*1)&&decide ((1+G2)*1<=1099511627776)&&decide (1+G2<=1099511627776))<|Aa (1+G2) fun Gs=>Aa ([.sc (.int .u8 Iw)]++List.take (G2*1) (List.drop 0 I1)) fun Ml=>Aw (decide (Gs*1<=Ml.length))<|some (A4.mk [.own 1 Gs (List.take (Gs*1) Ml)] [])))))):=by cases nn with|zero=>exact absurd O6 (Nat.lt_irrefl 0)|succ nn=>kernel_rfl
theorem HK (fu d:Nat)(Ag Ai:Int)(Ay:ByteArray):Ad C0 prog fu (d+1) Tt [.agg [.sc (.int .i64 Ag),.sc (.int .u64 Ai),.sc (.string Ay)]]=(fun (call:Ah)=>Bm (Ag==7) (Aa (wrap .u8 Ai) fun x1=>Aa (wrap .u8 (244+x1)) fun x2=>some (A4.mk [.own 1 1 [.sc (.int .u8 x2)]] [])) (Bm (Ag==8) (some (A4.mk [.own 1 1 [.sc (.int .u8 246)]] [])) (Bm (Ag==2) (Ea fu call Ag Ai Ay (fu) (Ai) 32) (Bm (Ag==3) (Aa (wrap .u64 (↑(ByteArray.size Ay):Int)) fun x3=>Ea fu call Ag Ai Ay (fu) x3 64) (Bm (Ag==4) (Aa (wrap .u64 (↑(ByteArray.size Ay):Int)) fun x4=>Ea fu call Ag Ai Ay (fu) x4 96) (Bm (Ag==5) (Ea fu call Ag Ai Ay (fu) (Ai) 128) (Bm (Ag==6) (Ea fu call Ag Ai Ay (fu) (Ai) 160) (Ea fu call Ag Ai Ay (fu) (Ai) 0)))))))) (Ad C0 prog fu d):=by kernel_rfl
abbrev Rn:FuncId:=99
theorem FC (fu d:Nat)(Ag Ai:Int)(Ay:ByteArray):Ad C0 prog fu (d+1) Rn [.agg [.sc (.int .i64 Ag),.sc (.int .u64 Ai),.sc (.string Ay)]]=(fun (call:Ah)=>Aj (call 127 [.agg [.sc (.int .i64 Ag),.sc (.int .u64 Ai),.sc (.string Ay)]]) fun x1 x2=>Ac x2<|Ab x1 fun x3 x4=>F5 1 x3 fun x5 x6=>Ac x4<|Aw (decide (0+x5*1<=x6.length))<|Aw (decide (List.length (List.take (x5*1) (List.drop 0 x6))=x5))<|F6 (bytesOf (List.take (x5*1) (List.drop 0 x6))) fun x7=>Aw (decide (ByteArray.size (ByteArray.mk (List.toArray x7))+ByteArray.size Ay<=9223372036854775807))<|Aa (ByteArray.mk (List.toArray x7)++Ay) fun x8=>some (A4.mk [.sc (.string x8)] [])) (Ad C0 prog fu d):=by kernel_rfl
end
section
open Go.Proofs.Tryz (prog)
open Go.IntKind (wrap)
def Mx (s:ByteArray):List Int:=s.data.toList.map fun b=>(b.toNat:Int)
def Cp (l:List Int):ByteArray:=⟨(l.map fun n=>n.toNat.toUInt8).toArray⟩
theorem Ti (s:ByteArray):(Mx s).length=s.size:=by
 unfold Mx;rw[List.length_map];rfl
theorem Ajd (s:ByteArray):M3 (Mx s):=by
 intro x hx;obtain⟨b,_,rfl⟩:=List.mem_map.1 hx;have:=b.toNat_lt;omega
theorem Qk (s:ByteArray):Ew s=Af .u8 (Mx s):=by
 unfold Ew Mx
 induction s.data.toList with
 |nil=>rfl
 |cons b l ih=>rw[VR,VR,ih];rfl
theorem Lj (l:List Int):(Cp l).size=l.length:=by
 show (l.map fun n=>n.toNat.toUInt8).toArray.size=_
 simp
theorem Sk {l:List Int}(h:M3 l):Mx (Cp l)=l:=by
 unfold Mx Cp;simp only[List.map_map]
 have:∀l:List Int,M3 l->List.map ((fun b:UInt8=>(b.toNat:Int)) ∘ fun n:Int=>n.toNat.toUInt8) l=l:=by
  intro l
  induction l with
  |nil=>intro _;rfl
  |cons x l ih=>
   intro h;have hx:=h x (by simp)
   rw[VR,ih fun y hy=>h y (by simp[hy])]
   congr 1
   show ((x.toNat.toUInt8.toNat:Nat):Int)=x;rw[Nat.toUInt8,UInt8.toNat_ofNat'];omega
 exact this l h
theorem KX (s:ByteArray):Cp (Mx s)=s:=by
 unfold Cp Mx;simp only[List.map_map]
 have:∀l:List UInt8,List.map ((fun n:Int=>n.toNat.toUInt8) ∘ fun b:UInt8=>(b.toNat:Int)) l=l:=by
  intro l
  induction l with
  |nil=>rfl
  |cons x l ih=>
   rw[VR,ih]
   congr 1
   show ((x.toNat:Int).toNat).toUInt8=x;rw[Je];simp
 rw[this]
theorem Hk:∀l:List Int,bytesOf (Af .u8 l)=some (l.map fun n=>n.toNat.toUInt8)
 |[]=>rfl
 |x::l=>by
  show (bytesOf (Af .u8 l)).map (x.toNat.toUInt8 :: ·)=_
  rw[Hk l];rfl
theorem Ahx (l:List Int)(s:ByteArray):Cp l++s=Cp (l++Mx s):=by
 conv=>lhs;rw[←KX s]
 unfold Cp;apply ByteArray.ext;rw[ByteArray.data_append];simp
def tb (n:Int)(k:Nat):List Int:=(List.range' (8-k) k).map (Eb n)
def Dz (mj n:Int):List Int:=
 if n<24 then [32*mj+n] else if n<256 then (32*mj+24)::tb n 1 else if n<65536 then (32*mj+25)::tb n 2 else if n<4294967296 then (32*mj+26)::tb n 4 else (32*mj+27)::tb n 8
structure It where
 k:Int
 n:Int
 s:ByteArray
def It.cells (x:It):List PV:=[.sc (.int .i64 x.k),.sc (.int .u64 x.n),.sc (.string x.s)]
def C7 (x:It):List Int:=
 if x.k=7 then [wrap .u8 (244+wrap .u8 x.n)] else if x.k=8 then [246] else if x.k=3 then Dz 2 x.s.size++Mx x.s else if x.k=4 then Dz 3 x.s.size++Mx x.s else Dz (x.k-1) x.n
theorem GE (n:Int)(k:Nat):(tb n k).length=k:=by simp[tb]
theorem Bbk (n:Int)(k:Nat):M3 (tb n k):=by
 intro x hx;obtain⟨j,_,rfl⟩:=List.mem_map.1 hx;exact Agq n j
theorem J7 (mj n:Int):1<=(Dz mj n).length∧(Dz mj n).length<=9:=by
 unfold Dz
 repeat' split
 all_goals simp[GE]
theorem Aci {mj n:Int}(h0:0<=mj)(h1:mj<=6)(hn:0<=n):M3 (Dz mj n):=by
 have hc:∀(a:Int) (l:List Int),0<=a∧a<=255->M3 l->M3 (a::l):=by
  intro a l ha hl x hx;rcases List.mem_cons.1 hx with rfl|hx
  ·exact ha
  ·exact hl x hx
 unfold Dz
 repeat' split
 ·exact hc _ _ (by omega) (fun _ h=>by simp at h)
 all_goals exact hc _ _ (by omega) (Bbk _ _)
theorem Alc {x:It}(h0:1<=x.k)(h1:x.k<=8)(hn:0<=x.n):M3 (C7 x):=by
 have A7p:∀(a b:List Int),M3 a->M3 b->M3 (a++b):=by
  intro a b ha hb y hy;rcases List.mem_append.1 hy with h|h
  ·exact ha y h
  ·exact hb y h
 unfold C7
 repeat' split
 ·intro y hy;simp at hy;subst hy;simp only[wrap,IntKind.signed,IntKind.bits];simp;omega
 ·intro y hy;simp at hy;omega
 ·exact A7p _ _ (Aci (by omega) (by omega) (by omega)) (Ajd _)
 ·exact A7p _ _ (Aci (by omega) (by omega) (by omega)) (Ajd _)
 ·exact Aci (by omega) (by omega) hn
theorem Aaf (x:It):(C7 x).length<=9+x.s.size:=by
 unfold C7;have h2:=J7 2 x.s.size;have h3:=J7 3 x.s.size;have h4:=J7 (x.k-1) x.n;have hs:=Ti x.s
 repeat' split
 all_goals try simp only[Hi,H5,Ye]
 all_goals omega
section
variable {fu d:Nat}
theorem Abu {call:Ah}{Bq:Nat}{a0:List PV}{a1 a2 n:Int}:∀(k nn:Nat)(l:List Int),k<=8->k<nn->l.length+k<=1000000 ->
  Fb fu call Bq a0 a1 a2 nn l.length n ((k:Int)-1) (Af .u8 l)=some ⟨[.own 1 (l++tb n k).length (Af .u8 (l++tb n k))],[]⟩
 |_,0,_,_,h,_=>by omega
 |0,nn+1,l,hk,hn,hl=>by
  have L:=Aq .u8 l;rw[Qg,Eh _ _ _ (by omega)]
  simp (disch:=omega) only[Cd,Dr,Nv,L];simp[tb]
 |k+1,nn+1,l,hk,hn,hl=>by
  have ih:=Abu (call:=call) (Bq:=Bq) (a0:=a0) (a1:=a1) (a2:=a2) (n:=n) k nn (l++[Eb n (8-(k+1))]) (by omega) (by omega) (by simp;omega)
  have L:=Aq .u8 l;have w8:wrap .i64 (8*(((k+1:Nat):Int)-1))=8*(k:Int):=by rw[Ap (by omega) (by omega)];omega
  have w:wrap .i64 (((k+1:Nat):Int)-1-1)=(k:Int)-1:=by rw[Ap (by omega) (by omega)];omega
  have hb:wrap .u8 (Ft .u64 n (8*(k:Int)))=Eb n (8-(k+1)):=by
   unfold Eb;rw[show 56-8*((8-(k+1):Nat):Int)=8*(k:Int) by omega]
  have et:tb n (k+1)=Eb n (8-(k+1))::tb n k:=by
   unfold tb;rw[List.range'_succ,VR,show 8-(k+1)+1=8-k by omega]
  have ea:l++tb n (k+1)=l++[Eb n (8-(k+1))]++tb n k:=by rw[et];simp
  rw[ea,←ih,Qg];simp (disch:=omega) only[Cd,w8,hb,w,Dr,Nv,L,Ig,Hi,H5,Ye,Cv]
theorem Bbp {mj:Int}(h0:0<=mj)(h1:mj<=7):Jf .u8 mj 5=32*mj:=by
 have:mj=0∨mj=1∨mj=2∨mj=3∨mj=4∨mj=5∨mj=6∨mj=7:=by omega
 rcases this with rfl|rfl|rfl|rfl|rfl|rfl|rfl|rfl<;>decide
theorem Alr (B5:1000<=fu){l:List Int}(hl:l.length<=900000){mj n:Int}(h0:0<=mj)(h1:mj<=5)(hn:0<=n):Ad C0 prog fu (d+1) Oo [.own 1 l.length (Af .u8 l),.sc (.int .u8 mj),.sc (.int .u64 n)]=some ⟨[.own 1 (l++Dz mj n).length (Af .u8 (l++Dz mj n))],[]⟩:=by
 rw[JF];have s5:=Bbp h0 (by omega)
 have L:=Aq .u8 l;have w24:wrap .u8 (32*mj+24)=32*mj+24:=Hx (by omega) (by omega)
 have w25:wrap .u8 (32*mj+25)=32*mj+25:=Hx (by omega) (by omega)
 have w26:wrap .u8 (32*mj+26)=32*mj+26:=Hx (by omega) (by omega)
 have w27:wrap .u8 (32*mj+27)=32*mj+27:=Hx (by omega) (by omega)
 have lp:=fun (k:Nat) (hk:k<=8) (b:Int)=>Abu (fu:=fu) (call:=Ad C0 prog fu d) (Bq:=l.length) (a0:=Af .u8 l) (a1:=mj) (a2:=n) (n:=n) k fu (l++[b]) hk (by omega) (by simp;omega)
 have ec:∀(b:Int) (t:List Int),l++b::t=l++[b]++t:=by intro b t;simp
 unfold Dz;by_cases c1:n<24
 ·have wn:wrap .u8 n=n:=Hx (by omega) (by omega)
  have ws:wrap .u8 (32*mj+n)=32*mj+n:=Hx (by omega) (by omega)
  have L1:=Aq .u8 (l++[32*mj+n]);have t1:=Nv .u8 (l++[32*mj+n]);simp only[Hi,H5,Ye,Cv] at L1 t1;rw[Co c1];simp (disch:=omega) only[Cd,s5,wn,ws,Dr,Nv,L,Ig,L1,t1,Hi,H5,Ye,Cv]
 ·by_cases c2:n<256
  ·have l1:=lp 1 (by omega) (32*mj+24)
   rw[show ((1:Nat):Int)-1=0 by omega] at l1
   rw[Bp c1,Co c2,ec,←l1];simp (disch:=omega) only[Cd,s5,w24,Dr,Nv,L,Ig,Hi,H5,Ye,Cv]
  ·by_cases c3:n<65536
   ·have l1:=lp 2 (by omega) (32*mj+25)
    rw[show ((2:Nat):Int)-1=1 by omega] at l1
    rw[Bp c1,Bp c2,Co c3,ec,←l1];simp (disch:=omega) only[Cd,s5,w25,Dr,Nv,L,Ig,Hi,H5,Ye,Cv]
   ·by_cases c4:n<4294967296
    ·have l1:=lp 4 (by omega) (32*mj+26)
     rw[show ((4:Nat):Int)-1=3 by omega] at l1
     rw[Bp c1,Bp c2,Bp c3,Co c4,ec,←l1];simp (disch:=omega) only[Cd,s5,w26,Dr,Nv,L,Ig,Hi,H5,Ye,Cv]
    ·have l1:=lp 8 (by omega) (32*mj+27)
     rw[show ((8:Nat):Int)-1=7 by omega] at l1
     rw[Bp c1,Bp c2,Bp c3,Bp c4,ec,←l1];simp (disch:=omega) only[Cd,s5,w27,Dr,Nv,L,Ig,Hi,H5,Ye,Cv]
structure It.ok (x:It):Prop where
 k1:1<=x.k
 k8:x.k<=8
 n0:0<=x.n
 s0:x.s.size<=500000
theorem Ak4 (B5:1000<=fu){l:List Int}(hl:l.length<=300000){x:It}(hx:x.ok):Ad C0 prog fu (d+2) Vj [.own 1 l.length (Af .u8 l),.agg x.cells]=some ⟨[.own 1 (l++C7 x).length (Af .u8 (l++C7 x))],[]⟩:=by
 obtain⟨k,n,s⟩:=x;obtain⟨k1,k8,n0,s0⟩:=hx;simp only at k1 k8 n0 s0;refine (KW fu (d+1) l.length (Af .u8 l) k n s).trans ?_;have L:=Aq .u8 l;have RU:=Ti s;unfold C7;simp only;by_cases c7:k=7
 ·subst c7;have L1:=Aq .u8 (l++[wrap .u8 (244+wrap .u8 n)]);have t1:=Nv .u8 (l++[wrap .u8 (244+wrap .u8 n)]);simp only[Hi,H5,Ye,Cv] at L1 t1;simp (disch:=omega) only[Cd,Hb,if_true,Dr,Nv,L,Ig,L1,t1,Hi,H5,Ye,Cv]
 ·by_cases c8:k=8
  ·subst c8;have L1:=Aq .u8 (l++[246]);have t1:=Nv .u8 (l++[246]);simp only[Hi,H5,Ye,Cv] at L1 t1;rw[Bp c7,Co rfl];simp (disch:=omega) only[Cd,Hb,c7,if_false,if_true,Dr,Nv,L,Ig,L1,t1,Hi,H5,Ye,Cv]
  ·have dat:∀mj:Int,0<=mj->mj<=5->(Ad C0 prog fu (d+1) Oo [.own 1 l.length (Af .u8 l),.sc (.int .u8 mj),.sc (.int .u64 s.size)]=some ⟨[.own 1 (l++Dz mj s.size).length (Af .u8 (l++Dz mj s.size))],[]⟩)∧(l++Dz mj s.size).length<=300009∧List.take (l++Dz mj s.size).length (Af .u8 (l++Dz mj s.size))=Af .u8 (l++Dz mj s.size)∧(Af .u8 (l++Dz mj s.size)).length=(l++Dz mj s.size).length∧Af .u8 (l++Dz mj s.size)++Ew s=Af .u8 (l++(Dz mj s.size++Mx s))∧(l++(Dz mj s.size++Mx s)).length=(l++Dz mj s.size).length+s.size∧(Af .u8 (l++(Dz mj s.size++Mx s))).length=(l++Dz mj s.size).length+s.size:=by
    intro mj h0 h1;have hh:=J7 mj s.size;refine⟨Alr B5 (by omega) h0 h1 (by omega),by rw[Hi];omega,Nv _ _,Aq _ _,?_,?_,?_⟩
    ·rw[Qk,←QV,Af,Af,Af,List.flatMap_append (xs:=l++Dz mj s.size)]
    ·rw[←QV,Hi,RU]
    ·rw[Aq,←QV,Hi,RU]
   have ss:(Ew s).length=s.size:=by rw[Qk,Aq,RU]
   have wsz:wrap .u64 (s.size:Int)=s.size:=C3 (by omega) (by omega)
   rw[Bp c7,Bp c8];by_cases c3:k=3
   ·subst c3;obtain⟨p1,p2,p3,p4,p5,p6,p7⟩:=dat 2 (by omega) (by omega)
    have w1:wrap .i64 ((3:Int)-1)=2:=by decide
    have w2:wrap .u8 (2:Int)=2:=by decide
    have t1:List.take ((l++Dz 2 s.size).length+s.size) (Af .u8 (l++(Dz 2 s.size++Mx s)))=Af .u8 (l++(Dz 2 s.size++Mx s)):=Jq (by omega)
    rw[Co rfl];simp (disch:=omega) only[Cd,Hb,c7,c8,if_false,if_true,w1,w2,wsz,Dr,Nv,L,p1];generalize (l++Dz 2 s.size).length=N at *
    simp (disch:=omega) only[Cd,Dr,p3,p4,p5,p7,t1,ss];rw[p6]
   ·by_cases c4:k=4
    ·subst c4;obtain⟨p1,p2,p3,p4,p5,p6,p7⟩:=dat 3 (by omega) (by omega)
     have w1:wrap .i64 ((4:Int)-1)=3:=by decide
     have w2:wrap .u8 (3:Int)=3:=by decide
     have t1:List.take ((l++Dz 3 s.size).length+s.size) (Af .u8 (l++(Dz 3 s.size++Mx s)))=Af .u8 (l++(Dz 3 s.size++Mx s)):=Jq (by omega)
     rw[Bp c3,Co rfl];simp (disch:=omega) only[Cd,Hb,c7,c8,c3,if_false,if_true,w1,w2,wsz,Dr,Nv,L,p1];generalize (l++Dz 3 s.size).length=N at *
     simp (disch:=omega) only[Cd,Dr,p3,p4,p5,p7,t1,ss];rw[p6]
    ·have w1:wrap .i64 (k-1)=k-1:=Ap (by omega) (by omega)
     have w2:wrap .u8 (k-1)=k-1:=Hx (by omega) (by omega)
     have p1:=Alr (fu:=fu) (d:=d) B5 (l:=l) (by omega) (mj:=k-1) (n:=n) (by omega) (by omega) n0
     have L2:=Aq .u8 (l++Dz (k-1) n);have t2:=Nv .u8 (l++Dz (k-1) n);rw[Bp c3,Bp c4];simp (disch:=omega) only[Cd,Hb,c7,c8,c3,c4,if_false,w1,w2,Dr,Nv,L,p1,L2,t2]
end
end
section
open Go.Proofs.Tryz (prog)
open Go.IntKind (wrap)
set_option maxRecDepth 100000
abbrev Pc:FuncId:=51
theorem Z9 (fu d:Nat)(a0 a1 a2:Int):Ad C0 prog fu (d+1) Pc [.sc (.int .i64 a0),.sc (.int .i64 a1),.sc (.int .i64 a2)]=(fun (call:Ah)=>Bm (decide (a0>=a1)) (some (A4.mk [.sc (.bool (decide (a0<=a2)))] [])) (some (A4.mk [.sc (.bool false)] []))) (Ad C0 prog fu d):=by kernel_rfl
abbrev Qf:FuncId:=56
theorem CP (fu d:Nat)(a0:Int):Ad C0 prog fu (d+1) Qf [.sc (.int .i64 a0)]=(fun (call:Ah)=>Aa (wrap .u64 a0) fun x1=>some (A4.mk [.agg [.sc (.int .i64 5),.sc (.int .u64 x1),.sc (.string (ByteArray.mk #[]))]] [])) (Ad C0 prog fu d):=by kernel_rfl
abbrev Rv:FuncId:=97
theorem FF (fu d:Nat)(a0:ByteArray):Ad C0 prog fu (d+1) Rv [.sc (.string a0)]=(fun (call:Ah)=>some (A4.mk [.agg [.sc (.int .i64 4),.sc (.int .u64 0),.sc (.string a0)]] [])) (Ad C0 prog fu d):=by kernel_rfl
abbrev Pd:FuncId:=57
theorem Z4 (fu d:Nat)(a0:Int):Ad C0 prog fu (d+1) Pd [.sc (.int .u64 a0)]=(fun (call:Ah)=>some (A4.mk [.agg [.sc (.int .i64 1),.sc (.int .u64 a0),.sc (.string (ByteArray.mk #[]))]] [])) (Ad C0 prog fu d):=by kernel_rfl
abbrev Ru:FuncId:=98
theorem EF (fu d Bq:Nat)(a0:List PV):Ad C0 prog fu (d+1) Ru [.lst false 1 Bq a0]=(fun (call:Ah)=>Aw (decide (a0.length=Bq))<|F6 (bytesOf a0) fun x1=>some (A4.mk [.agg [.sc (.int .i64 3),.sc (.int .u64 0),.sc (.string (ByteArray.mk (List.toArray x1)))]] [])) (Ad C0 prog fu d):=by kernel_rfl
abbrev Q2:FuncId:=59
noncomputable def Hy (fu:Nat)(call:Ah)(Bq:Nat)(a0:List PV)(nn y0:Nat)(y1:List PV)(y2:Nat)(y3:Int)(y4:List PV):Option A4:=Dd CB prog fu call 59 Tryz.f59 (B9 Tryz.f59) [.lst false 3 Bq a0] [.r,.r,.l,.r,.l] nn ⟨lk [(0,(.lst false 3 y0 y1)),(3,(.view 3 1 0 y2)),(4,(.sc (.int .i64 y3)))],B7 [(3,(.ar false y4))]⟩
theorem Nc (fu:Nat)(call:Ah)(Bq:Nat)(a0:List PV)(nn y0:Nat)(y1:List PV)(y2:Nat)(y3:Int)(y4:List PV):Hy fu call Bq a0 (nn+1) y0 y1 y2 y3 y4=(Bm (decide (y3<(↑y0:Int))) (Aw (decide (0<=y3)&&decide (y3<(↑y0:Int)))<|Ae .i64 (List.getD y1 (Int.toNat y3*3) .top) fun x1=>Ae .u64 (List.getD y1 (Int.toNat y3*3+1) .top) fun x2=>Fk (List.getD y1 (Int.toNat y3*3+1+1) .top) fun x3=>Aj (call 99 [.agg [.sc (.int .i64 x1),.sc (.int .u64 x2),.sc (.string x3)]]) fun x4 x5=>Ac x5<|Ab x4 fun x6 x7=>Fk x6 fun x8=>Ac x7<|Aw (decide (y2*1<=y4.length)&&decide (List.length (Ew x8)=ByteArray.size x8*1)&&decide ((y2+ByteArray.size x8)*1<=1099511627776)&&decide (y2+ByteArray.size x8<=1099511627776))<|Aa (y2+ByteArray.size x8) fun x9=>Aa (List.take (y2*1) y4++Ew x8) fun Cy=>Aa (wrap .i64 (y3+1)) fun C4=>Hy fu call Bq a0 (nn) (y0) (y1) x9 C4 Cy) (Aw (decide (y2*1<=y4.length))<|some (A4.mk [.own 1 y2 (List.take (y2*1) y4)] []))):=by kernel_rfl
theorem BO (fu d Bq:Nat)(a0:List PV):Ad C0 prog fu (d+1) Q2 [.lst false 3 Bq a0]=(fun (call:Ah)=>Hy fu call Bq a0 (fu) (Bq) (a0) 0 0 ([])) (Ad C0 prog fu d):=by kernel_rfl
end
section
open Go.Proofs.Tryz (prog)
open Go.IntKind (wrap)
def Wf (x:It):List Int:=
 if x.k=7 then [wrap .u8 (244+wrap .u8 x.n)] else if x.k=8 then [246] else if x.k=3 then Dz 2 x.s.size else if x.k=4 then Dz 3 x.s.size else Dz (x.k-1) x.n
def It.dat (x:It):Prop:=x.k=3∨x.k=4∨Mx x.s=[]
theorem Aor {x:It}(h:x.dat):C7 x=Wf x++Mx x.s:=by
 unfold C7 Wf;by_cases c7:x.k=7
 ·rcases h with h|h|h
  ·omega
  ·omega
  ·simp[c7,h]
 ·by_cases c8:x.k=8
  ·rcases h with h|h|h
   ·omega
   ·omega
   ·simp[c8,h]
  ·by_cases c3:x.k=3
   ·simp[c3]
   ·by_cases c4:x.k=4
    ·simp[c4]
    ·rcases h with h|h|h
     ·omega
     ·omega
     ·simp[c7,c8,c3,c4,h]
theorem Aps (x:It):(Wf x).length<=9:=by
 have h2:=J7 2 x.s.size;have h3:=J7 3 x.s.size;have h4:=J7 (x.k-1) x.n;unfold Wf
 repeat' split
 all_goals try simp only[H5,Ye]
 all_goals omega
theorem Arq (v:Int):Ft .u64 v 0=v:=by
 show v.fdiv (2 ^ (min (0:Int).toNat IntKind.u64.bits))=v;have:(2:Int) ^ (min (0:Int).toNat IntKind.u64.bits)=1:=by decide
 rw[this,Int.fdiv_one]
theorem tb1 (v:Int):tb v 1=[wrap .u8 v]:=by
 show [wrap .u8 (Ft .u64 v (56-8*((7:Nat):Int)))]=_;rw[show (56:Int)-8*((7:Nat):Int)=0 by omega,Arq]
theorem tb2 (v:Int):tb v 2=[wrap .u8 (Ft .u64 v 8),wrap .u8 v]:=by
 show [wrap .u8 (Ft .u64 v (56-8*((6:Nat):Int))),wrap .u8 (Ft .u64 v (56-8*((7:Nat):Int)))]=_;rw[show (56:Int)-8*((7:Nat):Int)=0 by omega,show (56:Int)-8*((6:Nat):Int)=8 by omega,Arq]
theorem tb4 (v:Int):tb v 4=[wrap .u8 (Ft .u64 v 24),wrap .u8 (Ft .u64 v 16),wrap .u8 (Ft .u64 v 8),wrap .u8 v]:=by
 show [wrap .u8 (Ft .u64 v (56-8*((4:Nat):Int))),wrap .u8 (Ft .u64 v (56-8*((5:Nat):Int))),wrap .u8 (Ft .u64 v (56-8*((6:Nat):Int))),wrap .u8 (Ft .u64 v (56-8*((7:Nat):Int)))]=_;rw[show (56:Int)-8*((7:Nat):Int)=0 by omega,show (56:Int)-8*((6:Nat):Int)=8 by omega,show (56:Int)-8*((5:Nat):Int)=16 by omega,show (56:Int)-8*((4:Nat):Int)=24 by omega,Arq]
theorem tb8 (v:Int):tb v 8=Fh v:=rfl
section
variable {fu d:Nat}
theorem Aro (B5:1000<=fu){k n:Int}{s:ByteArray}{nn:Nat}(hn:0<nn){mj v:Int}(h0:0<=mj)(h1:mj<=5)(hv:0<=v):
  Ea fu (Ad C0 prog fu (d+1)) k n s nn v (32*mj)=some ⟨[.own 1 (Dz mj v).length (Af .u8 (Dz mj v))],[]⟩:=by
 rw[AA (O6:=hn)];have w24:wrap .u8 (32*mj+24)=32*mj+24:=Hx (by omega) (by omega)
 have w25:wrap .u8 (32*mj+25)=32*mj+25:=Hx (by omega) (by omega)
 have w26:wrap .u8 (32*mj+26)=32*mj+26:=Hx (by omega) (by omega)
 have w27:wrap .u8 (32*mj+27)=32*mj+27:=Hx (by omega) (by omega)
 unfold Dz;by_cases c1:v<24
 ·have wn:wrap .u8 v=v:=Hx (by omega) (by omega)
  have ws:wrap .u8 (32*mj+v)=32*mj+v:=Hx (by omega) (by omega)
  rw[Co c1];simp (disch:=omega) only[Cd,wn,ws];rfl
 ·by_cases c2:v<256
  ·rw[Bp c1,Co c2,tb1];simp (disch:=omega) only[Cd,w24];rfl
  ·by_cases c3:v<65536
   ·rw[Bp c1,Bp c2,Co c3,tb2];simp (disch:=omega) only[Cd,w25];rfl
   ·by_cases c4:v<4294967296
    ·rw[Bp c1,Bp c2,Bp c3,Co c4,tb4];simp (disch:=omega) only[Cd,w26];rfl
    ·have wd:=A4y (fu:=fu) (d:=d) B5 v;have L:=Aq .u8 (Fh v);rw[G3] at L;have t8:List.take 8 (Af .u8 (Fh v))=Af .u8 (Fh v):=Jq (by omega)
     have eC:[PV.sc (.int .u8 (32*mj+27))]++Af .u8 (Fh v)=Af .u8 ((32*mj+27)::Fh v):=rfl;have L9:(Af .u8 ((32*mj+27)::Fh v)).length=9:=by rw[Aq,H5,G3]
     have t9:List.take 9 (Af .u8 ((32*mj+27)::Fh v))=Af .u8 ((32*mj+27)::Fh v):=Jq (by omega)
     rw[Bp c1,Bp c2,Bp c3,Bp c4,tb8,H5,G3];simp (disch:=omega) only[Cd,w27,wd,Dr,Cv,Dt,L,t8,eC,Nat.reduceAdd,L9,t9]
theorem Atd (B5:1000<=fu){x:It}(hx:x.ok):Ad C0 prog fu (d+2) Tt [.agg x.cells]=some ⟨[.own 1 (Wf x).length (Af .u8 (Wf x))],[]⟩:=by
 obtain⟨k,n,s⟩:=x;obtain⟨k1,k8,n0,s0⟩:=hx;simp only at k1 k8 n0 s0;refine (HK fu (d+1) k n s).trans ?_;have wsz:wrap .u64 (s.size:Int)=s.size:=C3 (by omega) (by omega)
 have J:=fun (mj v:Int) (h0:0<=mj) (h1:mj<=5) (hv:0<=v)=>Aro (fu:=fu) (d:=d) B5 (k:=k) (n:=n) (s:=s) (nn:=fu) (by omega) h0 h1 hv
 have j0:=J 0 n (by omega) (by omega) n0
 have j1:=J 1 n (by omega) (by omega) n0
 have j2:=J 2 s.size (by omega) (by omega) (by omega)
 have j3:=J 3 s.size (by omega) (by omega) (by omega)
 have j4:=J 4 n (by omega) (by omega) n0
 have j5:=J 5 n (by omega) (by omega) n0
 rw[show (32:Int)*0=0 by omega] at j0
 rw[show (32:Int)*1=32 by omega] at j1
 rw[show (32:Int)*2=64 by omega] at j2
 rw[show (32:Int)*3=96 by omega] at j3
 rw[show (32:Int)*4=128 by omega] at j4
 rw[show (32:Int)*5=160 by omega] at j5
 unfold Wf;simp only;have:k=1∨k=2∨k=3∨k=4∨k=5∨k=6∨k=7∨k=8:=by omega
 rcases this with rfl|rfl|rfl|rfl|rfl|rfl|rfl|rfl
 ·simp only[Cd,Hb,Int.reduceEq,if_true,if_false,Int.reduceSub,j0]
 ·simp only[Cd,Hb,Int.reduceEq,if_true,if_false,Int.reduceSub,j1]
 ·simp only[Cd,Hb,Int.reduceEq,if_true,if_false,Int.reduceSub,wsz,j2]
 ·simp only[Cd,Hb,Int.reduceEq,if_true,if_false,Int.reduceSub,wsz,j3]
 ·simp only[Cd,Hb,Int.reduceEq,if_true,if_false,Int.reduceSub,j4]
 ·simp only[Cd,Hb,Int.reduceEq,if_true,if_false,Int.reduceSub,j5]
 ·simp only[Cd,Hb,Int.reduceEq,if_true,if_false];rfl
 ·simp only[Cd,Hb,Int.reduceEq,if_true,if_false];rfl
theorem Anr (B5:1000<=fu){x:It}(hx:x.ok)(hd:x.dat):Ad C0 prog fu (d+3) Rn [.agg x.cells]=some ⟨[.sc (.string (Cp (C7 x)))],[]⟩:=by
 refine (FC fu (d+2) x.k x.n x.s).trans ?_;have hr:=Atd (fu:=fu) (d:=d) B5 hx;have L:=Aq .u8 (Wf x);have l9:=Aps x;have bo:=Hk (Wf x);have eA:ByteArray.mk (List.map (fun n:Int=>n.toNat.toUInt8) (Wf x)).toArray=Cp (Wf x):=rfl
 have sz:=Lj (Wf x);have s0:=hx.s0;have ap:Cp (Wf x)++x.s=Cp (C7 x):=by rw[Ahx,Aor hd]
 simp only[It.cells] at hr;simp (disch:=omega) only[Cd,hr,Dr,Cv,Dt,Nv,L,bo,eA,sz,ap]
def Bd (its:List It):List PV:=its.flatMap It.cells
theorem It.cells_len (x:It):x.cells.length=3:=rfl
def Bx (its:List It):List Int:=its.flatMap C7
theorem PF {Bq:Nat}{a0:List PV}{its:List It}(hk:∀x∈its,x.ok∧x.dat)(hl:its.length<=1000)(B5:1000<=fu):∀(r:List It)(i nn:Nat)(b:List Int),its.drop i=r->r.length<nn->b.length+500010*r.length<=1000000000 ->
  Hy fu (Ad C0 prog fu (d+3)) Bq a0 nn its.length (Bd its) b.length i (Af .u8 b)=some ⟨[.own 1 (b++Bx r).length (Af .u8 (b++Bx r))],[]⟩
 |_,_,0,_,_,h,_=>by omega
 |[],i,nn+1,b,h,hn,hb=>by
  have:=drop_nil h;have L:=Aq .u8 b;rw[Nc,Eh _ _ _ (by omega)]
  simp (disch:=omega) only[Cd,Dr,Nv,L];simp[Bx]
 |x::r,i,nn+1,b,h,hn,hb=>by
  obtain⟨h1,h2,h3⟩:=Dk h;simp only[H5] at hn hb;obtain⟨ok,dt⟩:=hk x (List.mem_of_getElem? h2);have hil:=Aaf x;have TH:=ok.s0;have g0:(Bd its).getD (i*3) .top=.sc (.int .i64 x.k):=Io It.cells_len h2 (j:=0) (by omega)
  have g1:(Bd its).getD (i*3+1) .top=.sc (.int .u64 x.n):=Io It.cells_len h2 (j:=1) (by omega)
  have g2:(Bd its).getD (i*3+1+1) .top=.sc (.string x.s):=Io It.cells_len h2 (j:=2) (by omega)
  have by_:=Anr (fu:=fu) (d:=d) B5 ok dt;simp only[It.cells] at by_;have ih:=PF (Bq:=Bq) (a0:=a0) hk hl B5 r (i+1) nn (b++C7 x) h3 (by omega) (by rw[Hi];omega)
  have w:wrap .i64 ((i:Int)+1)=((i+1:Nat):Int):=by rw[Ap (by omega) (by omega)];omega
  have L:=Aq .u8 b;have hB:=Alc ok.k1 ok.k8 ok.n0;have sc:Ew (Cp (C7 x))=Af .u8 (C7 x):=by rw[Qk,Sk hB]
  have sz:=Lj (C7 x);have Li:=Aq .u8 (C7 x);have ea:Af .u8 b++Af .u8 (C7 x)=Af .u8 (b++C7 x):=by rw[Af,Af,Af,List.flatMap_append]
  have ei:Bx (x::r)=C7 x++Bx r:=rfl;rw[ei,←QV,←ih,Nc];simp (disch:=omega) only[Cd,Je,g0,g1,g2,by_,sc,sz,Li,Dr,Nv,L,ea,w,Hi]
theorem Apc {its:List It}(hk:∀x∈its,x.ok∧x.dat)(hl:its.length<=900)(B5:1000<=fu):Ad C0 prog fu (d+4) Q2 [.lst false 3 its.length (Bd its)]=some ⟨[.own 1 (Bx its).length (Af .u8 (Bx its))],[]⟩:=by
 rw[BO];exact PF (fu:=fu) (d:=d) (Bq:=its.length) (a0:=Bd its) hk (by omega) B5 its 0 fu [] rfl (by omega) (by simp;omega)
end
end
section
open Go.Proofs.Tryz (prog)
open Go.IntKind (wrap)
structure Ce where
 subj:ByteArray
 iss:ByteArray
 serial:Int
 key:Ky
 fr:Int
 un:Int
 auth:Bool
 path:Int
 model:Int
 sig:Sg
def Ce.cells (c:Ce):List PV:=[.sc (.string c.subj),.sc (.string c.iss),.sc (.int .u64 c.serial),.sc (.int .i64 c.key.h),.sc (.int .u64 c.key.root),.sc (.int .i64 c.fr),.sc (.int .i64 c.un),.sc (.bool c.auth),.sc (.int .i64 c.path),.sc (.int .u64 c.model),.sc (.int .i64 c.sig.leaf),.lst false 1 c.sig.chains.length (Af .u64 c.sig.chains),.lst false 1 c.sig.path.length (Af .u64 c.sig.path)]
abbrev okS (s:ByteArray):Bool:=Lib.validD s.data.toList
abbrev Ob:ByteArray:=⟨#[]⟩
structure Ce.wf (c:Ce):Prop where
 ser:0<=c.serial
 mod:0<=c.model
section
variable {fu d:Nat}
theorem CY (s:ByteArray)(h:s.size<=9223372036854775807):Ad C0 prog fu (d+1) 126 [.sc (.string s)]=some ⟨[.sc (.bool (okS s))],[]⟩:=by
 show WO [.sc (.string s)]=_;unfold WO;simp[h]
theorem NJ (n lo hi:Int):Ad C0 prog fu (d+1) Pc [.sc (.int .i64 n),.sc (.int .i64 lo),.sc (.int .i64 hi)]=some ⟨[.sc (.bool (decide (lo<=n)&&decide (n<=hi)))],[]⟩:=by
 rw[Z9];by_cases h:lo<=n
 ·simp (disch:=omega) only[Cd,h,decide_true,Bool.true_and]
 ·simp (disch:=omega) only[Cd,h,decide_false,Bool.false_and]
theorem P7 (n:Int)(h0:0<=n)(h1:n<=1000):Ad C0 prog fu (d+1) Qf [.sc (.int .i64 n)]=some ⟨[.agg [.sc (.int .i64 5),.sc (.int .u64 n),.sc (.string Ob)]],[]⟩:=by
 rw[CP];have w:wrap .u64 n=n:=C3 (by omega) (by omega)
 simp only[Cd,w]
theorem Avf (s:ByteArray):Ad C0 prog fu (d+1) Rv [.sc (.string s)]=some ⟨[.agg [.sc (.int .i64 4),.sc (.int .u64 0),.sc (.string s)]],[]⟩:=by
 rw[FF]
theorem Po (n:Int):Ad C0 prog fu (d+1) Pd [.sc (.int .u64 n)]=some ⟨[.agg [.sc (.int .i64 1),.sc (.int .u64 n),.sc (.string Ob)]],[]⟩:=by
 rw[Z4]
theorem Aqy (l:List Int):Ad C0 prog fu (d+1) Ru [.lst false 1 l.length (Af .u8 l)]=some ⟨[.agg [.sc (.int .i64 3),.sc (.int .u64 0),.sc (.string (Cp l))]],[]⟩:=by
 rw[EF];have L:=Aq .u8 l;have bo:=Hk l;simp (disch:=omega) only[Cd,L,bo];rfl
end
end
section
open Go.IntKind (wrap)
def NN (s:Sg):Int:=if D8 s.path.length=true then 9 else if J1 s.leaf s.path.length=true then 9 else if s.chains.length≠18 then 4 else 0
theorem Aoi {seed h leaf m:Int}{s:Sg}(e:JY seed h leaf m=some s):s.chains.length=18∧s.path.length<=4:=by
 unfold JY at e;split at e
 ·cases e
 ·rename_i hh;split at e
  ·cases e
  ·cases e;have:=Jo (by simpa using hh)
   simp[Mg];omega
section
variable {fu d:Nat} {c:Ce}
end
end
section
open Go.Proofs.Tryz (prog)
open Go.IntKind (wrap)
structure H8 where
 p:Bool
 left:Int
 last:List Int
def H8.cells (f:H8):List PV:=[.sc (.bool f.p),.sc (.int .i64 f.left),.lst false 1 f.last.length (Af .u8 f.last)]
def Gx (l:List H8):List PV:=l.flatMap H8.cells
theorem H8.cells_len (f:H8):f.cells.length=3:=rfl
theorem D3 (l:List H8):(Gx l).length=l.length*3:=V7 H8.cells_len l
theorem Ek (l:List H8):List.take (l.length*3) (Gx l)=Gx l:=Jq (by rw[D3];omega)
def Tc (l:List H8):Bool:=match l.getLast? with|some f=>f.p&&(Int.tmod f.left 2==0)|none=>false
def On (l:List H8)(cnt k:Int):Int:=
 if cnt>=512 then 8 else if k<1 then 3 else if k>8 then 3 else if Tc l=true∧k≠1∧k≠2∧k≠4 then 3 else if (l.length:Int)>8 then 5 else 0
abbrev Ox (l:List H8)(cnt:Int):List PV:=[.own 3 l.length (Gx l),.sc (.int .i64 cnt)]
section
variable {fu d:Nat}
theorem Adr (l:List H8)(cnt:Int):Ad C0 prog fu (d+1) Xu [.pbox (Ox l cnt)]=some ⟨[.sc (.bool (decide (cnt>0)&&((l.length:Int)==0)))],[Ox l cnt]⟩:=by
 rw[MC];have L:=D3 l;have t:=Ek l;by_cases h:cnt>0
 ·simp (disch:=omega) only[Cd,h,decide_true,Bool.true_and,L,t]
 ·simp (disch:=omega) only[Cd,h,decide_false,Bool.false_and,L,t]
theorem TP {l:List H8}(hl:l.length<=1000000)(cnt:Int):Ad C0 prog fu (d+1) Vk [.pbox (Ox l cnt)]=some ⟨[.sc (.bool (Tc l))],[Ox l cnt]⟩:=by
 rw[KJ];have L:=D3 l;have t:=Ek l;unfold Tc;rcases List.eq_nil_or_concat l with rfl|⟨l',f,rfl⟩
 ·have e0:¬(((([]:List H8).length:Nat):Int)>0):=by simp
  simp (disch:=first|assumption|omega) only[Cd,L,t]
  first|done|rfl
 ·have hn:(l'.concat f).length=l'.length+1:=by simp
  have hx:(l'.concat f)[l'.length]?=some f:=by simp
  have gl:(l'.concat f).getLast?=some f:=by simp
  have w:wrap .i64 (((l'.concat f).length:Int)-1)=(l'.length:Int):=by rw[Ap (by omega) (by omega)];omega
  have g0:(Gx (l'.concat f)).getD (l'.length*3) .top=.sc (.bool f.p):=Io H8.cells_len hx (j:=0) (by omega)
  have g1:(Gx (l'.concat f)).getD (l'.length*3+1) .top=.sc (.int .i64 f.left):=Io H8.cells_len hx (j:=1) (by omega)
  rw[gl];cases hp:f.p
  ·rw[hp] at g0;simp (disch:=omega) only[Cd,w,Je,Cv,Zzr,g0,L,t,hp,Bool.false_and]
  ·rw[hp] at g0;simp (disch:=omega) only[Cd,w,Je,Cv,Zzr,g0,g1,L,t,hp,Bool.true_and]
theorem Ahn {l:List H8}(hl:l.length<=1000000)(cnt k:Int):Ad C0 prog fu (d+2) Ve [.pbox (Ox l cnt),.sc (.int .i64 k)]=some ⟨[.sc (.int .i64 (On l cnt k))],[Ox l cnt]⟩:=by
 refine (JZ fu (d+1) l.length (Gx l) cnt k).trans ?_;have L:=D3 l;have t:=Ek l;have ak:=TP (fu:=fu) (d:=d) hl cnt;unfold Ox at ak;unfold On;by_cases c1:cnt>=512
 ·rw[Co c1];simp (disch:=omega) only[Cd,L,t]
 rw[Bp c1];by_cases c2:k<1
 ·rw[Co c2];simp (disch:=omega) only[Cd,L,t]
 rw[Bp c2];by_cases c3:k>8
 ·rw[Co c3];simp (disch:=omega) only[Cd,L,t]
 rw[Bp c3];cases ha:Tc l
 ·rw[ha] at ak;rw[Bp (by simp)]
  by_cases c5:(l.length:Int)>8
  ·rw[Co c5];simp (disch:=omega) only[Cd,L,t,ak]
  ·rw[Bp c5];simp (disch:=omega) only[Cd,L,t,ak]
 ·rw[ha] at ak;by_cases c4:k≠1∧k≠2∧k≠4
  ·rw[Co ⟨rfl,c4⟩];simp (disch:=omega) only[Cd,L,t,ak,G7];rw[Bp c4.1,Bp c4.2.1,Bp c4.2.2]
  ·rw[Bp (fun h=>c4 h.2)]
   have hk:k=1∨k=2∨k=4:=by omega
   by_cases c5:(l.length:Int)>8
   ·rw[Co c5];rcases hk with rfl|rfl|rfl<;>simp (disch:=omega) only[Cd,L,t,ak,G7,Int.reduceEq,if_true,if_false]
   ·rw[Bp c5];rcases hk with rfl|rfl|rfl<;>simp (disch:=omega) only[Cd,L,t,ak,G7,Int.reduceEq,if_true,if_false]
end
end
end Go.Proofs.YtpogefhpiaaliaaGreatDoor.Pv
