/-
  The proof of CertificateSigns, part 4.
-/
import Derived.Test.YtdjihiphpgkfmaaGreatDoorGC
import Derived.Test.YtdjihiphpgkfmaaGreatDoorRows
set_option linter.unusedSimpArgs false
set_option linter.unusedVariables false
namespace Go.Proofs.YtdjihiphpgkfmaaGreatDoor.Pv
section
open Go.IntKind (wrap)
section
variable {fu d:Nat} {xs:FuncId->Option (List PV->Option At)}
theorem Ajb {x k:Int}(hk:k=13∨k=16∨k=17∨k=21∨k=32):Ae (CX xs) Tryz.prog fu (d+1) Nb [.sc (.int .u64 x),.sc (.int .i64 k)]=some ⟨[.sc (.int .u64 (rot x k))],[]⟩:=by
 rw [Wu];rcases hk with rfl|rfl|rfl|rfl|rfl<;>kernel_rfl
theorem Aie {x k:Int}(hk:k=13∨k=16∨k=17∨k=21∨k=32):Ae (CX xs) Tryz.prog fu (d+1) O6 [.sc (.int .u64 x),.sc (.int .u64 k)]=some ⟨[.sc (.int .u64 (rot x k))],[]⟩:=by
 rw [Yj];rcases hk with rfl|rfl|rfl|rfl|rfl<;>kernel_rfl
theorem GH {a0 a1 a2 a3 a4:Int}:∀(k i nn:Nat)(v:W4),k<nn->i+k<=100 ->
  Ex fu (Ae (CX xs) Tryz.prog fu (d+1)) a0 a1 a2 a3 a4 nn ((i+k:Nat):Int) i v.a v.b v.c v.d=some ⟨[],[(ZP k v).cells]⟩
 |_,_,0,_,h,_=>by omega
 |0,i,nn+1,v,h,hi=>by
  rw [Ib,Da _ _ _ (by omega)]
  rfl
 |k+1,i,nn+1,v,h,hi=>by
  have ih:=GH (a0:=a0) (a1:=a1) (a2:=a2) (a3:=a3) (a4:=a4) k (i+1) nn (MS v) (by omega) (by omega)
  have w:wrap .i64 ((i:Int)+1)=((i+1:Nat):Int):=by rw [Ak (by omega) (by omega)];omega
  have r13:=fun x=>Ajb (xs:=xs) (fu:=fu) (d:=d) (x:=x) (k:=13) (by simp)
  have r16:=fun x=>Ajb (xs:=xs) (fu:=fu) (d:=d) (x:=x) (k:=16) (by simp)
  have r17:=fun x=>Ajb (xs:=xs) (fu:=fu) (d:=d) (x:=x) (k:=17) (by simp)
  have r21:=fun x=>Ajb (xs:=xs) (fu:=fu) (d:=d) (x:=x) (k:=21) (by simp)
  have r32:=fun x=>Ajb (xs:=xs) (fu:=fu) (d:=d) (x:=x) (k:=32) (by simp)
  rw [Ib];simp (disch:=omega) only [Br,r13,r16,r17,r21,r32,w];rw [show i+(k+1)=i+1+k by omega]
  exact ih
theorem QH (k:Nat)(hk:k<=4)(hfu:100<=fu)(v:W4):Ae (CX xs) Tryz.prog fu (d+2) Km [.pbox [.sc (.int .u64 v.a),.sc (.int .u64 v.b),.sc (.int .u64 v.c),.sc (.int .u64 v.d)],.sc (.int .i64 k)]=some ⟨[],[(ZP k v).cells]⟩:=by
 rw [Ub];have:=GH (xs:=xs) (fu:=fu) (d:=d) (a0:=v.a) (a1:=v.b) (a2:=v.c) (a3:=v.d) (a4:=k) k 0 fu v (by omega) (by omega)
 rw [C3] at this;exact this
theorem OP (hfu:100<=fu)(v:W4)(m:Int):Ae (CX xs) Tryz.prog fu (d+3) Kg [.pbox [.sc (.int .u64 v.a),.sc (.int .u64 v.b),.sc (.int .u64 v.c),.sc (.int .u64 v.d)],.sc (.int .u64 m)]=some ⟨[],[(Sf v m).cells]⟩:=by
 rw [Ua];have r2:=QH (xs:=xs) (fu:=fu) (d:=d) 2 (by omega) hfu ⟨v.a,v.b,v.c,C8 .u64 v.d m⟩
 have e2:((2:Nat):Int)=2:=rfl;rw [e2] at r2;unfold Sf;generalize ZP 2 ⟨v.a,v.b,v.c,C8 .u64 v.d m⟩=R at r2 ⊢;simp only [W4.cells] at r2;simp only [Br,r2];rfl
theorem Arb {a b:Int}{k:Nat}(hk:k<8)(ha:0<=a)(ha':a<((2 ^ (8*k):Nat):Int)) (hb:0<=b)(hb':b<=255):QK .u64 a (Gl .u64 b (8*(k:Int)))=a+((2 ^ (8*k):Nat):Int)*b:=by
 obtain ⟨n,rfl⟩:=Int.eq_ofNat_of_zero_le hb;have e:(8*(k:Int)).toNat=8*k:=by omega
 have hp:n*2 ^ (8*k)<=255*2 ^ (8*k):=Nat.mul_le_mul_right _ (by omega)
 have h56:2 ^ (8*k)<=2 ^ 56:=Nat.pow_le_pow_right (by omega) (by omega)
 have e56:(2:Nat) ^ 56=72057594037927936:=by decide
 rw [e56] at h56;generalize hP:2 ^ (8*k)=p at *
 have hpos:n*p<=255*p:=hp
 have hs:Gl .u64 (n:Int) (8*(k:Int))=(n:Int)*((2 ^ (8*(k:Int)).toNat:Nat):Int):=Abx (by omega) (by omega) (by omega) (by
  rw [e,hP];have:((n*p:Nat):Int)<=((255*p:Nat):Int):=by omega
  rw [←Int.natCast_mul];omega)
 rw [hs,e,hP]
 have:=(RP (a:=a) (c:=((n*p:Nat):Int)) (8*k) n ha (by rw [hP];exact ha') (by rw [hP]) (by
  have:((n*p:Nat):Int)<=((255*p:Nat):Int):=by omega
  omega)).1
 rw [←Int.natCast_mul,this,Int.mul_comm ((p:Nat):Int),←Int.natCast_mul]
theorem Arm (k:Nat):((2 ^ (8*k):Nat):Int)=256 ^ k:=by
 rw [Nat.pow_mul];simp
theorem FQ {call:Ai}{n:Nat}{c:List PV}{l:List Int}(hb:J2 l)(hl:l.length<=8):∀(r:List Int)(i nn:Nat),l.drop i=r->r.length<nn->i<=l.length ->
  Ht fu call n c nn (Q8 (l.take i)) l.length (Af .u8 l) l.length i=some ⟨[.sc (.int .u64 (Q8 l))],[]⟩
 |_,_,0,_,h,_=>by omega
 |[],i,nn+1,h,hn,hi=>by
  have:=drop_nil h;rw [Ou,Da _ _ _ (by omega),Uf (by omega)]
 |b::r,i,nn+1,h,hn,hi=>by
  obtain ⟨h1,h2,h3⟩:=Ck h;simp only [J4] at hn;have ih:=FQ (call:=call) (n:=n) (c:=c) hb hl r (i+1) nn h3 (by omega) (by omega)
  have hbb:=hb b (List.mem_of_getElem? h2);have w:wrap .i64 ((i:Int)+1)=((i+1:Nat):Int):=by rw [Ak (by omega) (by omega)];omega
  have w8:wrap .i64 (8*(i:Int))=8*(i:Int):=Ak (by omega) (by omega)
  have wb:wrap .u64 b=b:=Ci (by omega) (by omega)
  have hbnd:=Sm (l:=l.take i) fun x hx=>hb x (List.mem_of_mem_take hx)
  have htl:(l.take i).length=i:=by rw [List.length_take];omega
  rw [htl] at hbnd
  have hj:QK .u64 (Q8 (l.take i)) (Gl .u64 b (8*(i:Int)))=Q8 (l.take (i+1)):=by
   rw [Arb (by omega) hbnd.1 (by rw [Arm];exact hbnd.2) hbb.1 hbb.2,List.take_add_one,h2,Zl,htl,Arm]
   simp [Q8]
  rw [Ou];simp (disch:=omega) only [Br,H2,Cc,Uh h2,w,w8,wb,hj];exact ih
theorem OJ {l:List Int}(hb:J2 l)(hl:l.length<=8)(hfu:100<=fu):Ae (CX xs) Tryz.prog fu (d+1) Tl [.lst false 1 l.length (Af .u8 l)]=some ⟨[.sc (.int .u64 (Q8 l))],[]⟩:=by
 rw [GV];exact FQ hb hl l 0 fu rfl (by omega) (by omega)
theorem Hx (k:IntKind)(l:List Int)(i:Nat):List.drop i (Af k l)=Af k (l.drop i):=by
 have:=TP (CG k) l i
 simpa using this
theorem Ob (k:IntKind)(l:List Int)(i:Nat):List.take i (Af k l)=Af k (l.take i):=by
 have:=Ace (CG k) l i
 simpa using this
theorem J2.drop {l:List Int}(h:J2 l)(i:Nat):J2 (l.drop i):=fun x hx=>h x (List.mem_of_mem_drop hx)
theorem J2.take {l:List Int}(h:J2 l)(i:Nat):J2 (l.take i):=fun x hx=>h x (List.mem_of_mem_take hx)
theorem Aj5 {a0 a1:Int}{n:Nat}{c:List PV}{l:List Int}(hb:J2 l)(hl:l.length<=1099511627776)(hfu:100<=fu)(nn:Nat)(v:W4):
  Ia fu (Ae (CX xs) Tryz.prog fu (d+3)) a0 a1 n c (nn+1) l.length (Af .u8 l) ((l.length / 8:Nat):Int) ((l.length / 8:Nat):Int) ((l.length / 8:Nat):Int) v.a v.b v.c v.d=some ⟨[.sc (.int .u64 (Ae4 (Aer (Sf v (Nh l)))))],[]⟩:=by
 have w8:wrap .i64 (8*((l.length / 8:Nat):Int))=((8*(l.length / 8):Nat):Int):=by rw [Ak (by omega) (by omega)];omega
 have wl:wrap .u64 (l.length:Int)=l.length:=Ci (by omega) (by omega)
 have hdl:(l.drop (8*(l.length / 8))).length=l.length-8*(l.length / 8):=List.length_drop;have li:=OJ (xs:=xs) (fu:=fu) (d:=d+2) (hb.drop (8*(l.length / 8))) (by omega) hfu
 rw [hdl] at li;have tk:List.take (l.length-8*(l.length / 8)) (Af .u8 (l.drop (8*(l.length / 8))))=Af .u8 (l.drop (8*(l.length / 8))):=Uf (by rw [Aj,hdl];omega)
 have hbn:=Sm (hb.drop (8*(l.length / 8)));rw [hdl] at hbn
 have hp7:(256:Int) ^ (l.length-8*(l.length / 8))<=256 ^ 7:=by
  have:(256:Nat) ^ (l.length-8*(l.length / 8))<=256 ^ 7:=Nat.pow_le_pow_right (by omega) (by omega)
  have h2:(((256:Nat) ^ (l.length-8*(l.length / 8)):Nat):Int)<=((256 ^ 7:Nat):Int):=by omega
  simpa using h2
 have hlast:QK .u64 (Q8 (l.drop (8*(l.length / 8)))) (Gl .u64 (l.length:Int) 56)=Nh l:=by
  have hs:Gl .u64 (l.length:Int) 56=(((l.length % 256)*2 ^ 56:Nat):Int):=by
   show wrap .u64 ((l.length:Int)*2 ^ (min (56:Int).toNat IntKind.u64.bits))=_;have h2:(2:Int) ^ (min (56:Int).toNat IntKind.u64.bits)=72057594037927936:=by decide
   have h3:(2:Nat) ^ 56=72057594037927936:=by decide
   rw [h2,h3];simp only [wrap,IntKind.signed,IntKind.bits];simp;omega
  have h56:(256:Int) ^ 7=((2 ^ 56:Nat):Int):=by decide
  have h3:(2:Nat) ^ 56=72057594037927936:=by decide
  rw [hs,(RP 56 (l.length % 256) hbn.1 (by omega) rfl (by omega)).1]
  unfold Nh;omega
 have ab:=OP (xs:=xs) (fu:=fu) (d:=d) hfu v (Nh l);have r4:=QH (xs:=xs) (fu:=fu) (d:=d+1) 4 (by omega) hfu ⟨(Sf v (Nh l)).a,(Sf v (Nh l)).b,C8 .u64 (Sf v (Nh l)).c 255,(Sf v (Nh l)).d⟩
 have e4:((4:Nat):Int)=4:=rfl;rw [e4] at r4;unfold Aer;generalize Sf v (Nh l)=U at ab r4 ⊢;generalize ZP 4 ⟨U.a,U.b,C8 .u64 U.c 255,U.d⟩=R at r4 ⊢;simp only [W4.cells] at ab r4;rw [Ti];simp (disch:=omega) only [Br,H2,Cc,w8,wl,Hx,tk,li,hlast,ab,r4];rfl
theorem WV {a0 a1:Int}{n:Nat}{c:List PV}{l:List Int}(hb:J2 l)(hl:l.length<=1099511627776)(hfu:100<=fu):∀(k i nn:Nat)(v:W4),i+k=l.length / 8->k<nn ->
  Ia fu (Ae (CX xs) Tryz.prog fu (d+3)) a0 a1 n c nn l.length (Af .u8 l) ((l.length / 8:Nat):Int) ((l.length / 8:Nat):Int) i v.a v.b v.c v.d=some ⟨[.sc (.int .u64 (Ae4 (Aer (Sf (NC k v (l.drop (8*i))) (Nh l)))))],[]⟩
 |_,_,0,_,_,h=>by omega
 |0,i,nn+1,v,hi,hn=>by
  have e:i=l.length / 8:=by omega
  subst e;exact Aj5 hb hl hfu nn v
 |k+1,i,nn+1,v,hi,hn=>by
  have w:wrap .i64 ((i:Int)+1)=((i+1:Nat):Int):=by rw [Ak (by omega) (by omega)];omega
  have w8:wrap .i64 (8*(i:Int))=((8*i:Nat):Int):=by rw [Ak (by omega) (by omega)];omega
  have w88:wrap .i64 (((8*i:Nat):Int)+8)=((8*i+8:Nat):Int):=by rw [Ak (by omega) (by omega)];omega
  have hdl:((l.drop (8*i)).take 8).length=8:=by rw [List.length_take,List.length_drop];omega
  have li:=OJ (xs:=xs) (fu:=fu) (d:=d+2) ((hb.drop (8*i)).take 8) (by omega) hfu
  rw [hdl] at li;have e8:8*i+8-8*i=8:=by omega
  have ab:=OP (xs:=xs) (fu:=fu) (d:=d) hfu v (Q8 ((l.drop (8*i)).take 8));have ih:=WV (a0:=a0) (a1:=a1) (n:=n) (c:=c) hb hl hfu k (i+1) nn (Sf v (Q8 ((l.drop (8*i)).take 8))) (by omega) (by omega)
  have eN:NC (k+1) v (l.drop (8*i))=NC k (Sf v (Q8 ((l.drop (8*i)).take 8))) (l.drop (8*(i+1))):=by
   rw [NC,List.drop_drop,show 8*i+8=8*(i+1) by omega]
  rw [eN];generalize Sf v (Q8 ((l.drop (8*i)).take 8))=U at ab ih ⊢;simp only [W4.cells] at ab;rw [Ti];simp (disch:=omega) only [Br,H2,Cc,w,w8,w88,e8,Hx,Ob,li,ab];exact ih
theorem Aiu {l:List Int}(hb:J2 l)(hl:l.length<=1099511627776)(hfu:100<=fu)(hf:l.length<fu)(k0 k1:Int):Ae (CX xs) Tryz.prog fu (d+4) CH [.sc (.int .u64 k0),.sc (.int .u64 k1),.lst false 1 l.length (Af .u8 l)]=some ⟨[.sc (.int .u64 (Alw k0 k1 l))],[]⟩:=by
 rw [SN]
 have w:wrap .i64 (Int.tdiv (l.length:Int) 8)=((l.length / 8:Nat):Int):=by
  rw [Int.tdiv_eq_ediv_of_nonneg (by omega),Ak (by omega) (by omega)]
  omega
 have lp:=WV (xs:=xs) (fu:=fu) (d:=d) (a0:=k0) (a1:=k1) (n:=l.length) (c:=Af .u8 l) hb hl hfu (l.length / 8) 0 fu (Am2 k0 k1) (by omega) (by omega)
 simp only [Gw,w];exact lp
theorem Abz {l:List Int}(hb:J2 l)(hl:l.length<=1099511627776)(hfu:100<=fu)(hf:l.length<fu)(dom:Int):Ae (CX xs) Tryz.prog fu (d+5) Qx [.sc (.int .i64 dom),.lst false 1 l.length (Af .u8 l)]=some ⟨[.sc (.int .u64 (Ml dom l))],[]⟩:=by
 rw [NX];have s:=Aiu (xs:=xs) (fu:=fu) (d:=d) hb hl hfu hf (wrap .u64 dom) 0;simp only [Br,s];rfl
theorem Ny (v:W4):Ae (CX xs) Tryz.prog fu (d+2) Na [.agg [.sc (.int .u64 v.a),.sc (.int .u64 v.b),.sc (.int .u64 v.c),.sc (.int .u64 v.d)]]=some ⟨[.agg (MS v).cells],[]⟩:=by
 have r13:=fun x=>Aie (xs:=xs) (fu:=fu) (d:=d) (x:=x) (k:=13) (by simp)
 have r16:=fun x=>Aie (xs:=xs) (fu:=fu) (d:=d) (x:=x) (k:=16) (by simp)
 have r17:=fun x=>Aie (xs:=xs) (fu:=fu) (d:=d) (x:=x) (k:=17) (by simp)
 have r21:=fun x=>Aie (xs:=xs) (fu:=fu) (d:=d) (x:=x) (k:=21) (by simp)
 have r32:=fun x=>Aie (xs:=xs) (fu:=fu) (d:=d) (x:=x) (k:=32) (by simp)
 rw [W5];simp (disch:=omega) only [Br,r13,r16,r17,r21,r32];rfl
def Tz (l:List Int)(i k:Nat):Int:=if i+k<l.length then l.getD (i+k) 0 else if k=7 then (l.length:Int) % 256 else 0
def pc (l:List Int)(i:Nat):List Int:=(List.range 8).map (Tz l i)
theorem As1 {l:List Int}(hb:J2 l)(i:Nat):J2 (pc l i):=by
 intro x hx;obtain ⟨k,hk,rfl⟩:=List.mem_map.1 hx;unfold Tz;split
 ·rename_i h;rw [List.getD_eq_getElem?_getD,List.getElem?_eq_getElem h];exact hb _ (List.getElem_mem h)
 ·split<;>omega
theorem Aj9 {l:List Int}{i:Nat}(h:i+8<=l.length):pc l i=(l.drop i).take 8:=by
 refine List.ext_getElem (by simp [pc];omega) fun k h1 h2=>?_
 have hk:k<8:=by simpa [pc] using h1
 simp only [pc,List.getElem_map,List.getElem_range,List.getElem_take,List.getElem_drop,Tz];rw [B4 (by omega),List.getD_eq_getElem?_getD,List.getElem?_eq_getElem (by omega)]
 rfl
theorem QW (x:Int):∀n,Q8 (List.replicate n 0++[x])=256 ^ n*x
 |0=>by simp [Q8]
 |n+1=>by
  rw [List.replicate_succ,List.cons_append,Q8,QW x n,Int.pow_succ,Int.mul_comm (256 ^ n) 256,Int.mul_assoc];omega
theorem Aln {l:List Int}:Q8 (pc l (8*(l.length / 8)))=Nh l:=by
 have e:pc l (8*(l.length / 8))=l.drop (8*(l.length / 8))++(List.replicate (7-(l.length-8*(l.length / 8))) 0++[(l.length:Int) % 256]):=by
  refine List.ext_getElem (by simp [pc];omega) fun k h1 h2=>?_
  have hk:k<8:=by simpa [pc] using h1
  simp only [pc,List.getElem_map,List.getElem_range,Tz];by_cases hc:8*(l.length / 8)+k<l.length
  ·rw [B4 hc,List.getElem_append_left (by rw [List.length_drop];omega),List.getElem_drop,List.getD_eq_getElem?_getD,List.getElem?_eq_getElem hc]
   rfl
  ·rw [A6 hc,List.getElem_append_right (by rw [List.length_drop];omega)]
   by_cases h7:k=7
   ·rw [B4 h7,List.getElem_append_right (by simp;omega)]
    simp
   ·rw [A6 h7,List.getElem_append_left (by simp;omega)]
    simp
 rw [e,Zl,QW];unfold Nh
 have:(256:Int) ^ (l.drop (8*(l.length / 8))).length*(256 ^ (7-(l.length-8*(l.length / 8)))*((l.length:Int) % 256))=72057594037927936*((l.length:Int) % 256):=by
  rw [←Int.mul_assoc,←Int.pow_add,List.length_drop];have:l.length-8*(l.length / 8)+(7-(l.length-8*(l.length / 8)))=7:=by omega
  rw [this];rfl
 rw [this]
theorem Aq7 {a b:Int}(ha:0<=a)(ha':a<72057594037927936)(hb:0<=b)(hb':b<=255):QK .u64 (Gl .u64 a 8) b=b+256*a:=by
 obtain ⟨n,rfl⟩:=Int.eq_ofNat_of_zero_le ha
 have hs:Gl .u64 (n:Int) 8=((n*2 ^ 8:Nat):Int):=by
  have:=Abx (a:=(n:Int)) (k:=8) (by omega) (by omega) (by omega) (by
   have:(2 ^ (8:Int).toNat:Nat)=256:=by decide
   rw [this];omega)
  rw [this];have:(2 ^ (8:Int).toNat:Nat)=256:=by decide
  rw [this];have:(2 ^ 8:Nat)=256:=by decide
  rw [this];omega
 have h8:(2 ^ 8:Nat)=256:=by decide
 rw [hs,(RP (a:=b) 8 n hb (by rw [h8];omega) rfl (by rw [h8];omega)).2,h8]
 omega
theorem Ac5 {a0 a1:Int}{n m0:Nat}{c:List PV}{l:List Int}(hb:J2 l)(hl:l.length<=1099511627776){i:Nat}(hi:i<=l.length)(v:W4):∀(j nn:Nat),j<=8->j<nn ->
  D9 fu (Ae (CX xs) Tryz.prog fu (d+2)) a0 a1 n c m0 nn l.length (Af .u8 l) i (Q8 ((pc l i).drop j)) ((j:Int)-1) v.cells =
   E9 fu (Ae (CX xs) Tryz.prog fu (d+2)) a0 a1 n c m0 l.length (Af .u8 l) ((i+8:Nat):Int) (Sf v (Q8 (pc l i))).cells
 |_,0,_,h=>by omega
 |0,nn+1,hj,hn=>by
  have w8:wrap .i64 ((i:Int)+8)=((i+8:Nat):Int):=by rw [Ak (by omega) (by omega)];omega
  have r1:=Ny (xs:=xs) (fu:=fu) (d:=d) ⟨v.a,v.b,v.c,C8 .u64 v.d (Q8 (pc l i))⟩;have r2:=Ny (xs:=xs) (fu:=fu) (d:=d) (MS ⟨v.a,v.b,v.c,C8 .u64 v.d (Q8 (pc l i))⟩);have eA:Sf v (Q8 (pc l i))=Arc (MS (MS ⟨v.a,v.b,v.c,C8 .u64 v.d (Q8 (pc l i))⟩)) (Q8 (pc l i)):=rfl;rw [eA];generalize MS ⟨v.a,v.b,v.c,C8 .u64 v.d (Q8 (pc l i))⟩=U at r1 r2 ⊢;generalize MS U=U2 at r2 ⊢;simp only [W4.cells] at r1 r2;rw [Mi,Da _ _ _ (by omega),Es]
  simp only [W4.cells,List.getD_cons_zero,List.getD_cons_succ,RZ,Gw];simp (disch:=first|omega|(simp;done)) only [Br,Bf,List.take_succ_cons,List.take_zero,List.drop_succ_cons,Es,List.drop_nil,List.cons_append,Zzq,List.append_nil,J4,Z3,List.getD_cons_zero,List.getD_cons_succ,r1,r2,w8,C3,Nat.reduceAdd,Nat.reduceLeDiff,List.append_eq]
  rfl
 |j+1,nn+1,hj,hn=>by
  have ih:=Ac5 (a0:=a0) (a1:=a1) (n:=n) (m0:=m0) (c:=c) hb hl hi v j nn (by omega) (by omega)
  have hw:wrap .i64 ((i:Int)+(((j+1:Nat):Int)-1))=((i+j:Nat):Int):=by rw [Ak (by omega) (by omega)];omega
  have wj:wrap .i64 (((j+1:Nat):Int)-1-1)=(j:Int)-1:=by rw [Ak (by omega) (by omega)];omega
  have hd:(pc l i).drop j=Tz l i j::(pc l i).drop (j+1):=by
   rw [List.drop_eq_getElem_cons (by simp [pc];omega)]
   simp [pc]
  have hB:=As1 hb i;have hbn:=Sm (hB.drop (j+1))
  have hp7:(256:Int) ^ ((pc l i).drop (j+1)).length<=72057594037927936:=by
   have hlen:((pc l i).drop (j+1)).length<=7:=by simp [pc]
   have:(256:Nat) ^ ((pc l i).drop (j+1)).length<=256 ^ 7:=Nat.pow_le_pow_right (by omega) hlen
   have h2:(((256:Nat) ^ ((pc l i).drop (j+1)).length:Nat):Int)<=((256 ^ 7:Nat):Int):=by omega
   simpa using h2
  have hc0:0<=Tz l i j∧Tz l i j<=255:=hB _ (by rw [←Es (l:=pc l i)];exact List.mem_of_mem_drop (i:=j) (by rw [Es,hd];simp))
  have hj2:QK .u64 (Gl .u64 (Q8 ((pc l i).drop (j+1))) 8) (Tz l i j)=Q8 ((pc l i).drop j):=by
   rw [Aq7 hbn.1 (by omega) hc0.1 hc0.2,hd]
   rfl
  have wc:wrap .u64 (Tz l i j)=Tz l i j:=Ci (by omega) (by omega)
  rw [Mi,JO _ _ _ (by omega)]
  simp only [Gw,hw];by_cases c1:i+j<l.length
  ·have e:Tz l i j=l.getD (i+j) 0:=by unfold Tz;rw [B4 c1]
   have e2:l[i+j]?=some (Tz l i j):=by rw [e,List.getD_eq_getElem?_getD,List.getElem?_eq_getElem c1];rfl
   rw [JO _ _ _ (by omega)]
   simp (disch:=omega) only [Br,H2,Cc,Uh e2,wc,hj2,wj];exact ih
  ·rw [Da _ _ _ (by omega)]
   by_cases h7:j=7
   ·subst h7;have e:Tz l i 7=(l.length:Int) % 256:=by unfold Tz;rw [A6 c1,B4 rfl]
    have e8:wrap .u8 (l.length:Int)=Tz l i 7:=by
     rw [e];simp only [wrap,IntKind.signed,IntKind.bits];simp
    rw [Ed,B4 (by omega),e8,wc,hj2,wj]
    exact ih
   ·have e:Tz l i j=0:=by unfold Tz;rw [A6 c1,A6 h7]
    rw [e] at hj2;rw [Ed,A6 (by omega),hj2,wj]
    exact ih
theorem PJ {a0 a1:Int}{n:Nat}{c:List PV}{l:List Int}(hb:J2 l)(hl:l.length<=1099511627776)(hfu:100<=fu):∀(k i nn:Nat)(v:W4),i+k=l.length / 8->k+1<nn ->
  E9 fu (Ae (CX xs) Tryz.prog fu (d+2)) a0 a1 n c nn l.length (Af .u8 l) ((8*i:Nat):Int) v.cells=some ⟨[.sc (.int .u64 (Ae4 (Aer (Sf (NC k v (l.drop (8*i))) (Nh l)))))],[]⟩
 |_,_,0,_,_,h=>by omega
 |k,i,nn+1,v,hi,hn=>by
  have step:=Ac5 (xs:=xs) (fu:=fu) (d:=d) (a0:=a0) (a1:=a1) (n:=n) (m0:=nn) (c:=c) hb hl (i:=8*i) (by omega) v 8 fu (by omega) (by omega)
  have e0:Q8 ((pc l (8*i)).drop 8)=0:=by rw [List.drop_of_length_le (by simp [pc])];rfl
  rw [e0] at step;rw [Lt,JO _ _ _ (by omega)]
  refine step.trans ?_;cases k with
  |zero=>
   have e:i=l.length / 8:=by omega
   subst e;rw [Aln];generalize hv:Sf v (Nh l)=u;obtain ⟨nn',rfl⟩:∃nn',nn=nn'+1:=⟨nn-1,by omega⟩
   have r1:=Ny (xs:=xs) (fu:=fu) (d:=d) ⟨u.a,u.b,C8 .u64 u.c 255,u.d⟩;have r2:=Ny (xs:=xs) (fu:=fu) (d:=d) (MS ⟨u.a,u.b,C8 .u64 u.c 255,u.d⟩);have r3:=Ny (xs:=xs) (fu:=fu) (d:=d) (MS (MS ⟨u.a,u.b,C8 .u64 u.c 255,u.d⟩));have r4:=Ny (xs:=xs) (fu:=fu) (d:=d) (MS (MS (MS ⟨u.a,u.b,C8 .u64 u.c 255,u.d⟩)))
   have eF:Ae4 (Aer (Sf (NC 0 v (l.drop (8*(l.length / 8)))) (Nh l)))=Ae4 (MS (MS (MS (MS ⟨u.a,u.b,C8 .u64 u.c 255,u.d⟩)))):=by
    rw [NC,hv];rfl
   rw [eF];clear eF;generalize MS ⟨u.a,u.b,C8 .u64 u.c 255,u.d⟩=U1 at r1 r2 r3 r4 ⊢;generalize MS U1=U2 at r2 r3 r4 ⊢;generalize MS U2=U3 at r3 r4 ⊢;generalize MS U3=U4 at r4 ⊢;simp only [W4.cells] at r1 r2 r3 r4;rw [Lt,Da _ _ _ (by omega)]
   simp only [W4.cells,List.getD_cons_zero,List.getD_cons_succ,RZ,Gw];simp (disch:=first|omega|(simp;done)) only [Br,Bf,List.take_succ_cons,List.take_zero,List.drop_succ_cons,Es,List.drop_nil,List.cons_append,Zzq,List.append_nil,J4,Z3,List.getD_cons_zero,List.getD_cons_succ,r1,r2,r3,r4,C3,Nat.reduceAdd,Nat.reduceLeDiff,List.append_eq]
   rfl
  |succ k=>
   have ih:=PJ (a0:=a0) (a1:=a1) (n:=n) (c:=c) hb hl hfu k (i+1) nn (Sf v (Q8 (pc l (8*i)))) (by omega) (by omega)
   rw [show 8*i+8=8*(i+1) by omega,ih,Aj9 (by omega)]
   simp only [NC,List.drop_drop];rw [show 8*(i+1)=8*i+8 by omega]
theorem Abu {l:List Int}(hb:J2 l)(hl:l.length<=1099511627776)(hfu:100<=fu)(hf:l.length<fu)(k0 k1:Int):Ae (CX xs) Tryz.prog fu (d+3) Pz [.sc (.int .u64 k0),.sc (.int .u64 k1),.lst false 1 l.length (Af .u8 l)]=some ⟨[.sc (.int .u64 (Alw k0 k1 l))],[]⟩:=by
 rw [BB];exact PJ (xs:=xs) (fu:=fu) (d:=d) (a0:=k0) (a1:=k1) (n:=l.length) (c:=Af .u8 l) hb hl hfu (l.length / 8) 0 fu (Am2 k0 k1) (by omega) (by omega)
theorem LR {l:List Int}(hb:J2 l)(hl:l.length<=1099511627776)(hfu:100<=fu)(hf:l.length<fu)(dom:Int):Ae (CX xs) Tryz.prog fu (d+4) Ik [.sc (.int .i64 dom),.lst false 1 l.length (Af .u8 l)]=some ⟨[.sc (.int .u64 (Ml dom l))],[]⟩:=by
 rw [Zo];have s:=Abu (xs:=xs) (fu:=fu) (d:=d) hb hl hfu hf (wrap .u64 dom) 0;simp only [Br,s];rfl
theorem Ak5 {l:List Int}(hb:J2 l)(hl:l.length<=1099511627776)(hfu:100<=fu)(hf:l.length<fu)(key dom:Int):Ae (CX xs) Tryz.prog fu (d+4) P2 [.sc (.int .u64 key),.sc (.int .i64 dom),.lst false 1 l.length (Af .u8 l)]=some ⟨[.sc (.int .u64 (Aku key dom l))],[]⟩:=by
 rw [AF];have s:=Abu (xs:=xs) (fu:=fu) (d:=d) hb hl hfu hf key (wrap .u64 (1+wrap .u64 dom));simp only [Br,s];rfl
end
end
section
open Go.IntKind (wrap)
def Cx (w:Int)(k:Nat):Int:=wrap .u8 (Dw .u64 w (56-8*(k:Int)))
def Dr (w:Int):List Int:=(List.range' 0 8).map (Cx w)
def A0 (ws:List Int):List Int:=ws.flatMap Dr
theorem El (w:Int):(Dr w).length=8:=rfl
section
variable {fu d:Nat} {xs:FuncId->Option (List PV->Option At)} {call:Ai} {n:Nat} {c:List PV}
theorem YO {ws:List Int}{w:Int}{m0 l:Nat}{i k:Int}:∀(r j nn:Nat)(bs:List Int),8-j=r->r<nn->j<=8->bs.length+r<=34359738368 ->
  Ig fu call n c m0 nn bs.length w l (Af .u64 ws) k i j (Af .u8 bs) =
   Gu fu call n c m0 (bs++(List.range' j (8-j)).map (Cx w)).length l (Af .u64 ws) k (wrap .i64 (i+1)) (Af .u8 (bs++(List.range' j (8-j)).map (Cx w)))
 |r,j,0,bs,_,h,_,_=>by omega
 |0,j,nn+1,bs,hr,_,hj,_=>by
  have e:j=8:=by omega
  subst e;rw [P1];simp (disch:=omega) only [Br];simp
 |r+1,j,nn+1,bs,hr,hn,hj,hb=>by
  have ih:=YO (ws:=ws) (w:=w) (m0:=m0) (l:=l) (i:=i) (k:=k) r (j+1) nn (bs++[Cx w j]) (by omega) (by omega) (by omega) (by simp;omega)
  have e8:=Aj .u8 bs;rw [P1]
  have hx:wrap .u8 (Dw .u64 w (wrap .i64 (56-wrap .i64 (8*(j:Int)))))=Cx w j:=by
   rw [Ak (x:=8*(j:Int)) (by omega) (by omega),Ak (by omega) (by omega)]
   rfl
  have h0:0<=wrap .i64 (56-wrap .i64 (8*(j:Int))):=by
   rw [Ak (x:=8*(j:Int)) (by omega) (by omega),Ak (by omega) (by omega)]
   omega
  have hrange:List.range' j (8-j)=j::List.range' (j+1) (8-(j+1)):=by
   rw [show 8-j=(8-(j+1))+1 by omega]
   exact List.range'_succ
  simp (disch:=first|omega|exact h0) only [Br,Cc,hx,Jf,E6,Ak (x:=(j:Int)+1)];rw [hrange];simp only [Lf,J4,Z3,C3,Zzv,Zzw,List.singleton_append] at ih ⊢;exact ih
theorem MA {ws:List Int}(hl:ws.length<=1073741824)(hfu:100<=fu):∀(r:List Int)(i nn:Nat)(bs:List Int),ws.drop i=r->r.length<nn->bs.length=8*i ->
  Gu fu call n c nn bs.length ws.length (Af .u64 ws) ws.length i (Af .u8 bs)=some ⟨[.own 1 (bs++A0 r).length (Af .u8 (bs++A0 r))],[]⟩
 |r,i,0,_,_,h,_=>by omega
 |[],i,nn+1,bs,h,_,_=>by
  have:=drop_nil h;have e8:=Aj .u8 bs;rw [Qk];simp (disch:=omega) only [Br,Cc,Jf,A0,List.flatMap_nil,List.append_nil]
 |w::r,i,nn+1,bs,h,hn,hb=>by
  obtain ⟨h1,h2,h3⟩:=Ck h;simp only [J4] at hn;rw [Qk];simp (disch:=omega) only [Br,H2,Cc,Uh h2];rw [show (0:Int)=((0:Nat):Int) from rfl,YO 8 0 fu bs rfl (by omega) (by omega) (by omega),Ak (by omega) (by omega)]
  have ih:=MA hl hfu r (i+1) nn (bs++Dr w) h3 (by omega) (by simp [El];omega)
  have e:bs++Dr w++A0 r=bs++A0 (w::r):=by simp [A0]
  rw [e] at ih;exact ih
theorem Oe {ws:List Int}(hl:ws.length<=1073741824)(hfu:100<=fu)(hf:ws.length<fu):Ae (CX xs) Tryz.prog fu (d+1) Fc [.lst false 1 ws.length (Af .u64 ws)]=some ⟨[.own 1 (A0 ws).length (Af .u8 (A0 ws))],[]⟩:=by
 rw [JX];simp (disch:=omega) only [Br,Ak,Int.mul_one];exact MA hl hfu ws 0 fu [] rfl hf rfl
theorem PK {ws:List Int}{w:Int}{m0 i:Nat}(hw:ws[i]?=some w):∀(r nn:Nat)(j:Int)(bs:List Int),j=(r:Int)-1->r<=8->r<nn->bs.length+r<=34359738368 ->
  Fs fu call n c m0 nn ws.length (Af .u64 ws) bs.length i j (Af .u8 bs) =
   Ei fu call n c m0 ws.length (Af .u64 ws) (bs++(List.range' (8-r) r).map (Cx w)).length (wrap .i64 (i+1)) (Af .u8 (bs++(List.range' (8-r) r).map (Cx w)))
 |r,0,j,bs,_,_,h,_=>by omega
 |0,nn+1,j,bs,hr,_,_,_=>by
  rw [Jt];simp (disch:=omega) only [Br];simp
 |r+1,nn+1,j,bs,hr,hle,hn,hb=>by
  have hi:=Amr hw;have ih:=PK (m0:=m0) hw r nn (j-1) (bs++[Cx w (8-(r+1))]) (by omega) (by omega) (by omega) (by simp;omega)
  have e8:=Aj .u8 bs
  have hx:wrap .u8 (Dw .u64 w (wrap .u64 (wrap .i64 (8*j))))=Cx w (8-(r+1)):=by
   rw [Ak (by omega) (by omega),Ci (by omega) (by omega)]
   unfold Cx;rw [show 56-8*((8-(r+1):Nat):Int)=8*j by omega]
  have h0:0<=wrap .u64 (wrap .i64 (8*j)):=by
   rw [Ak (by omega) (by omega),Ci (by omega) (by omega)]
   omega
  have hrange:List.range' (8-(r+1)) (r+1)=(8-(r+1))::List.range' (8-r) r:=by
   rw [List.range'_succ,show 8-(r+1)+1=8-r by omega]
  rw [Jt];simp (disch:=first|omega|exact h0) only [Br,H2,Cc,Uh hw,hx,Jf,E6,Ak (x:=j-1)];rw [hrange];simp only [Lf,J4,Z3,C3,Zzv,Zzw,List.singleton_append] at ih ⊢;exact ih
theorem GJ {ws:List Int}(hl:ws.length<=1073741824)(hfu:100<=fu):∀(r:List Int)(i nn:Nat)(bs:List Int),ws.drop i=r->r.length<nn->bs.length=8*i ->
  Ei fu call n c nn ws.length (Af .u64 ws) bs.length i (Af .u8 bs)=some ⟨[.own 1 (bs++A0 r).length (Af .u8 (bs++A0 r))],[]⟩
 |r,i,0,_,_,h,_=>by omega
 |[],i,nn+1,bs,h,_,_=>by
  have:=drop_nil h;have e8:=Aj .u8 bs;rw [Jy];simp (disch:=omega) only [Br,Cc,Jf,A0,List.flatMap_nil,List.append_nil]
 |w::r,i,nn+1,bs,h,hn,hb=>by
  obtain ⟨h1,h2,h3⟩:=Ck h;simp only [J4] at hn;rw [Jy];simp (disch:=omega) only [Br];rw [PK h2 8 fu 7 bs rfl (by omega) (by omega) (by omega),Ak (by omega) (by omega)]
  have ih:=GJ hl hfu r (i+1) nn (bs++Dr w) h3 (by omega) (by simp [El];omega)
  have e:bs++Dr w++A0 r=bs++A0 (w::r):=by simp [A0]
  rw [e] at ih;exact ih
theorem Q3 {ws:List Int}(hl:ws.length<=1073741824)(hfu:100<=fu)(hf:ws.length<fu):Ae (CX xs) Tryz.prog fu (d+1) Dy [.lst false 1 ws.length (Af .u64 ws)]=some ⟨[.own 1 (A0 ws).length (Af .u8 (A0 ws))],[]⟩:=by
 rw [Ws];exact GJ hl hfu ws 0 fu [] rfl hf rfl
end
abbrev Ez (a b:Int):Int:=QK .u64 (Gl .u64 a 8) (wrap .u64 b)
def MG (bs:List Int):Int:=bs.foldl Ez 0
theorem Al6 {q:Int}(h0:0<=q)(h1:q<=18446744073709551615):Ez (q / 256) (wrap .u8 q)=q:=by
 have e1:Gl .u64 (q / 256) 8=q / 256*256:=by
  unfold Gl;have:((8:Int).toNat.min IntKind.u64.bits)=8:=by decide
  show wrap .u64 (q / 256*2 ^ (min (8:Int).toNat IntKind.u64.bits))=_;have h2:(2:Int) ^ (min (8:Int).toNat IntKind.u64.bits)=256:=by decide
  rw [h2,Ci (by omega) (by omega)]
 have e2:wrap .u8 q=q % 256:=by
  simp only [wrap,IntKind.signed,IntKind.bits];simp
 have e3:wrap .u64 (q % 256)=q % 256:=Ci (by omega) (by omega)
 unfold Ez;rw [e1,e2,e3];obtain ⟨n,rfl⟩:=Int.eq_ofNat_of_zero_le h0;have hn:n<18446744073709551616:=by omega
 have e4:(BitVec.ofInt 64 ((n:Int) / 256*256)).toNat=n / 256*256:=by
  rw [BitVec.toNat_ofInt];omega
 have e5:(BitVec.ofInt 64 ((n:Int) % 256)).toNat=n % 256:=by
  rw [BitVec.toNat_ofInt];omega
 have e6:n / 256*256 ||| n % 256=n:=by
  have:=Nat.shiftLeft_add_eq_or_of_lt (show n % 256<2 ^ 8 by omega) (n / 256)
  rw [Nat.shiftLeft_eq] at this;rw [←this];omega
 unfold QK;show wrap .u64 ((BitVec.ofInt 64 ((n:Int) / 256*256) ||| BitVec.ofInt 64 ((n:Int) % 256)).toNat:Int)=n;rw [BitVec.toNat_or,e4,e5,e6,Ci (by omega) (by omega)]
theorem QY {w:Int}(k:Nat)(hk:k<8):Cx w k=wrap .u8 (w / 2 ^ (56-8*k)):=by
 unfold Cx Dw;have e:(56-8*(k:Int)).toNat=56-8*k:=by omega
 rw [e,Nat.min_eq_left (by show 56-8*k<=64;omega),Int.fdiv_eq_ediv_of_nonneg _ (Int.le_of_lt (Int.pow_pos (by omega)))]
theorem OI {w:Int}(h0:0<=w)(h1:w<=18446744073709551615):MG (Dr w)=w:=by
 have st:∀(k:Nat) (D:Int),k<8->(2:Int) ^ (56-8*k)=D->0<D->Ez (w / D / 256) (Cx w k)=w / D:=by
  intro k D hk hD hp;rw [QY k hk,hD];exact Al6 (Int.ediv_nonneg h0 (Int.le_of_lt hp)) (Int.le_trans (Int.ediv_le_self _ h0) h1)
 have s0:=st 0 72057594037927936 (by omega) (by decide) (by omega)
 have s1:=st 1 281474976710656 (by omega) (by decide) (by omega)
 have s2:=st 2 1099511627776 (by omega) (by decide) (by omega)
 have s3:=st 3 4294967296 (by omega) (by decide) (by omega)
 have s4:=st 4 16777216 (by omega) (by decide) (by omega)
 have s5:=st 5 65536 (by omega) (by decide) (by omega)
 have s6:=st 6 256 (by omega) (by decide) (by omega)
 have s7:=st 7 1 (by omega) (by decide) (by omega)
 rw [show w / 72057594037927936 / 256=0 by omega] at s0
 rw [show w / 281474976710656 / 256=w / 72057594037927936 by omega] at s1
 rw [show w / 1099511627776 / 256=w / 281474976710656 by omega] at s2
 rw [show w / 4294967296 / 256=w / 1099511627776 by omega] at s3
 rw [show w / 16777216 / 256=w / 4294967296 by omega] at s4
 rw [show w / 65536 / 256=w / 16777216 by omega] at s5
 rw [show w / 256 / 256=w / 65536 by omega] at s6
 rw [show w / 1 / 256=w / 256 by omega,show w / 1=w by omega] at s7
 show Ez (Ez (Ez (Ez (Ez (Ez (Ez (Ez 0 (Cx w 0)) (Cx w 1)) (Cx w 2)) (Cx w 3)) (Cx w 4)) (Cx w 5)) (Cx w 6)) (Cx w 7)=w;rw [s0,s1,s2,s3,s4,s5,s6,s7]
end
section
open Go.IntKind (wrap)
set_option maxRecDepth 100000
abbrev Sb:FuncId:=104
noncomputable def Ft (fu:Nat)(call:Ai)(a0:Int)(nn:Nat)(y0 y1 y2:Int)(y3 y4:List PV):Option At:=C1 CB Tryz.prog fu call 104 Tryz.f104 (Bw Tryz.f104) [.sc (.int .u64 a0)] [.r,.r,.r,.l,.r,.l] nn ⟨lk [(0,(.sc (.int .u64 y0))),(2,(.ptr 2 0)),(3,(.ptr 3 0)),(4,(.sc (.int .i64 y1))),(6,(.sc (.int .i64 y2)))],B3 [(2,(.ar false y3)),(3,(.ar false y4))]⟩
noncomputable def P8 (fu:Nat)(call:Ai)(a0:Int)(nn:Nat)(y0 y1:List PV):Option At:=C1 CB Tryz.prog fu call 104 Tryz.f104 (Bw Tryz.f104) [.sc (.int .u64 a0)] [.r,.r,.r,.r,.r] nn ⟨lk [(2,(.ptr 2 0)),(3,(.ptr 3 0))],B3 [(2,(.ar false y0)),(3,(.ar false y1))]⟩
noncomputable def P9 (fu:Nat)(call:Ai)(a0:Int)(nn:Nat)(y0:List PV):Option At:=C1 CB Tryz.prog fu call 104 Tryz.f104 (Bw Tryz.f104) [.sc (.int .u64 a0)] [.r,.r,.r,.r,.r,.r] nn ⟨lk [(2,(.ptr 2 0))],B3 [(2,(.ar false y0))]⟩
theorem Nf (fu:Nat)(call:Ai)(a0:Int)(nn:Nat)(y0 y1 y2:Int)(y3 y4:List PV):Ft fu call a0 (nn+1) y0 y1 y2 y3 y4=(Bb (decide (y2<16)) (Aa (wrap .i64 (4*y2)) fun x1=>Aa (wrap .i64 (60-x1)) fun x2=>Ap (decide (0<=x2))<|Aa (Dw .u64 y0 x2) fun x3=>Aa (Ps .u64 x3 15) fun x4=>Aa (wrap .i64 x4) fun x5=>Ap (decide (0<=y2)&&decide (y2<18))<|Ap (decide (0+Int.toNat y2*1+1<=y4.length))<|Aa (Bf y4 [.sc (.int .i64 x5)] (0+Int.toNat y2*1)) fun x6=>Ap (decide (0<=y2)&&decide (y2<18))<|Ad .i64 (List.getD x6 (0+Int.toNat y2*1) .top) fun x7=>Aa (wrap .i64 (15-x7)) fun x8=>Aa (wrap .i64 (y1+x8)) fun x9=>Aa (wrap .i64 (y2+1)) fun Ch=>Ft fu call a0 (nn) (y0) x9 Ch (y3) x6) (Aa (wrap .i64 (Int.tdiv y1 16)) fun Cm=>Ap (decide (17<=y4.length))<|Aa (Bf y4 [.sc (.int .i64 Cm)] 16) fun Dg=>Aa (Int.tmod y1 16) fun Do=>Ap (decide (18<=Dg.length))<|Aa (Bf Dg [.sc (.int .i64 Do)] 17) fun Dd=>P8 fu call a0 (fu) (y3) Dd)):=by kernel_rfl
theorem Xa (fu:Nat)(call:Ai)(a0:Int)(nn:Nat)(hnn:0<nn)(y0 y1:List PV):P8 fu call a0 nn y0 y1=(Ad .i64 (List.getD y1 0 .top) fun Dx=>Ad .i64 (List.getD y1 1 .top) fun D5=>Ad .i64 (List.getD y1 2 .top) fun Em=>Ad .i64 (List.getD y1 3 .top) fun E5=>Ad .i64 (List.getD y1 4 .top) fun E2=>Ad .i64 (List.getD y1 5 .top) fun Fl=>Ad .i64 (List.getD y1 6 .top) fun He=>Ad .i64 (List.getD y1 7 .top) fun Gn=>Ad .i64 (List.getD y1 8 .top) fun Hf=>Ad .i64 (List.getD y1 9 .top) fun Dv=>Ad .i64 (List.getD y1 10 .top) fun Df=>Ad .i64 (List.getD y1 11 .top) fun Fw=>Ad .i64 (List.getD y1 12 .top) fun Hs=>Ad .i64 (List.getD y1 13 .top) fun Ev=>Ad .i64 (List.getD y1 14 .top) fun Jd=>Ad .i64 (List.getD y1 15 .top) fun Lq=>Ad .i64 (List.getD y1 16 .top) fun J1=>Ad .i64 (List.getD y1 17 .top) fun Mk=>Ap (decide (18<=y0.length))<|Aa (Bf y0 [.sc (.int .i64 Dx),.sc (.int .i64 D5),.sc (.int .i64 Em),.sc (.int .i64 E5),.sc (.int .i64 E2),.sc (.int .i64 Fl),.sc (.int .i64 He),.sc (.int .i64 Gn),.sc (.int .i64 Hf),.sc (.int .i64 Dv),.sc (.int .i64 Df),.sc (.int .i64 Fw),.sc (.int .i64 Hs),.sc (.int .i64 Ev),.sc (.int .i64 Jd),.sc (.int .i64 Lq),.sc (.int .i64 J1),.sc (.int .i64 Mk)] 0) fun Lm=>P9 fu call a0 (fu) Lm):=by cases nn with|zero=>exact absurd hnn (Nat.lt_irrefl 0)|succ nn=>kernel_rfl
theorem Xj (fu:Nat)(call:Ai)(a0:Int)(nn:Nat)(hnn:0<nn)(y0:List PV):P9 fu call a0 nn y0=(Ad .i64 (List.getD y0 0 .top) fun Mt=>Ad .i64 (List.getD y0 1 .top) fun Pu=>Ad .i64 (List.getD y0 2 .top) fun Rh=>Ad .i64 (List.getD y0 3 .top) fun Sa=>Ad .i64 (List.getD y0 4 .top) fun Gv=>Ad .i64 (List.getD y0 5 .top) fun Id=>Ad .i64 (List.getD y0 6 .top) fun Tv=>Ad .i64 (List.getD y0 7 .top) fun Yk=>Ad .i64 (List.getD y0 8 .top) fun Lo=>Ad .i64 (List.getD y0 9 .top) fun Ui=>Ad .i64 (List.getD y0 10 .top) fun Tt=>Ad .i64 (List.getD y0 11 .top) fun Tr=>Ad .i64 (List.getD y0 12 .top) fun Sr=>Ad .i64 (List.getD y0 13 .top) fun X6=>Ad .i64 (List.getD y0 14 .top) fun Zh=>Ad .i64 (List.getD y0 15 .top) fun Sh=>Ad .i64 (List.getD y0 16 .top) fun Wh=>Ad .i64 (List.getD y0 17 .top) fun Xt=>some (At.mk [.agg [.sc (.int .i64 Mt),.sc (.int .i64 Pu),.sc (.int .i64 Rh),.sc (.int .i64 Sa),.sc (.int .i64 Gv),.sc (.int .i64 Id),.sc (.int .i64 Tv),.sc (.int .i64 Yk),.sc (.int .i64 Lo),.sc (.int .i64 Ui),.sc (.int .i64 Tt),.sc (.int .i64 Tr),.sc (.int .i64 Sr),.sc (.int .i64 X6),.sc (.int .i64 Zh),.sc (.int .i64 Sh),.sc (.int .i64 Wh),.sc (.int .i64 Xt)]] [])):=by cases nn with|zero=>exact absurd hnn (Nat.lt_irrefl 0)|succ nn=>kernel_rfl
theorem DH {xs:FuncId->Option (List PV->Option At)} (fu d:Nat)(a0:Int):Ae (CX xs) Tryz.prog fu (d+1) Sb [.sc (.int .u64 a0)]=(fun (call:Ai)=>Ft fu call a0 (fu) (a0) 0 0 ([.sc (.int .i64 0),.sc (.int .i64 0),.sc (.int .i64 0),.sc (.int .i64 0),.sc (.int .i64 0),.sc (.int .i64 0),.sc (.int .i64 0),.sc (.int .i64 0),.sc (.int .i64 0),.sc (.int .i64 0),.sc (.int .i64 0),.sc (.int .i64 0),.sc (.int .i64 0),.sc (.int .i64 0),.sc (.int .i64 0),.sc (.int .i64 0),.sc (.int .i64 0),.sc (.int .i64 0)]) ([.sc (.int .i64 0),.sc (.int .i64 0),.sc (.int .i64 0),.sc (.int .i64 0),.sc (.int .i64 0),.sc (.int .i64 0),.sc (.int .i64 0),.sc (.int .i64 0),.sc (.int .i64 0),.sc (.int .i64 0),.sc (.int .i64 0),.sc (.int .i64 0),.sc (.int .i64 0),.sc (.int .i64 0),.sc (.int .i64 0),.sc (.int .i64 0),.sc (.int .i64 0),.sc (.int .i64 0)])) (Ae (CX xs) Tryz.prog fu d):=by kernel_rfl
abbrev Xs:FuncId:=105
noncomputable def Jv (fu:Nat)(call:Ai)(a0 a1:Int)(a2 a3 a4:Int)(nn:Nat)(y0 y1:Int)(y2 y3 y4:Int):Option At:=C1 CB Tryz.prog fu call 105 Tryz.f105 (Bw Tryz.f105) [.sc (.int .i64 a0),.sc (.int .i64 a1),.sc (.int .i64 a2),.sc (.int .i64 a3),.sc (.int .u64 a4)] [.r,.r,.l,.r,.l] nn ⟨lk [(0,(.sc (.int .i64 y0))),(1,(.sc (.int .i64 y1))),(4,(.sc (.int .u64 y2))),(11,(.sc (.int .i64 y3))),(12,(.sc (.int .i64 y4)))],B3 []⟩
theorem Rw (fu:Nat)(call:Ai)(a0 a1:Int)(a2 a3 a4:Int)(nn:Nat)(y0 y1:Int)(y2 y3 y4:Int):Jv fu call a0 a1 a2 a3 a4 (nn+1) y0 y1 y2 y3 y4=(Bb (decide (y4<y3)) (Aa (wrap .u64 y0) fun x3=>Aa (wrap .u64 y1) fun x4=>Aa (wrap .u64 y4) fun x5=>Ag (call 89 [.lst false 1 4 [.sc (.int .u64 x3),.sc (.int .u64 x4),.sc (.int .u64 x5),.sc (.int .u64 y2)]]) fun x6 x7=>Ac x7<|Ab x6 fun x8 x9=>Ea 1 x8 fun Ch Cm=>Ac x9<|Ap (decide (0+Ch*1<=Cm.length))<|Ag (call 73 [.sc (.int .i64 1),.lst false 1 Ch (List.take (Ch*1) (List.drop 0 Cm))]) fun Dg Do=>Ac Do<|Ab Dg fun Dd Dx=>Ad .u64 Dd fun D5=>Ac Dx<|Aa (wrap .i64 (y4+1)) fun Em=>Jv fu call a0 a1 a2 a3 a4 (nn) (y0) (y1) D5 (y3) Em) (some (At.mk [.sc (.int .u64 y2)] []))):=by kernel_rfl
theorem NB {xs:FuncId->Option (List PV->Option At)} (fu d:Nat)(a0 a1:Int)(a2 a3 a4:Int):Ae (CX xs) Tryz.prog fu (d+1) Xs [.sc (.int .i64 a0),.sc (.int .i64 a1),.sc (.int .i64 a2),.sc (.int .i64 a3),.sc (.int .u64 a4)]=(fun (call:Ai)=>Aa (if 15<a3 then 15 else a3) fun x1=>Aa (if a2<0 then 0 else a2) fun x2=>Jv fu call a0 a1 a2 a3 a4 (fu) (a0) (a1) (a4) x1 x2) (Ae (CX xs) Tryz.prog fu d):=by kernel_rfl
abbrev Qp:FuncId:=110
theorem CK {xs:FuncId->Option (List PV->Option At)} (fu d:Nat)(a0 a1_0:Int)(a1_1 a1_2:Int)(Ag0 Ahy:Int)(Ajv Age:Int)(Ajx Ai3:Int)(Ahd WA:Int)(WQ VV:Int)(Amn Amb:Int)(Al5 Al8 Amm:Int):Ae (CX xs) Tryz.prog fu (d+1) Qp [.sc (.int .i64 a0),.agg [.sc (.int .u64 a1_0),.sc (.int .u64 a1_1),.sc (.int .u64 a1_2),.sc (.int .u64 Ag0),.sc (.int .u64 Ahy),.sc (.int .u64 Ajv),.sc (.int .u64 Age),.sc (.int .u64 Ajx),.sc (.int .u64 Ai3),.sc (.int .u64 Ahd),.sc (.int .u64 WA),.sc (.int .u64 WQ),.sc (.int .u64 VV),.sc (.int .u64 Amn),.sc (.int .u64 Amb),.sc (.int .u64 Al5),.sc (.int .u64 Al8),.sc (.int .u64 Amm)]]=(fun (call:Ai)=>Aa (wrap .u64 a0) fun x1=>Ag (call 89 [.lst false 1 19 [.sc (.int .u64 x1),.sc (.int .u64 a1_0),.sc (.int .u64 a1_1),.sc (.int .u64 a1_2),.sc (.int .u64 Ag0),.sc (.int .u64 Ahy),.sc (.int .u64 Ajv),.sc (.int .u64 Age),.sc (.int .u64 Ajx),.sc (.int .u64 Ai3),.sc (.int .u64 Ahd),.sc (.int .u64 WA),.sc (.int .u64 WQ),.sc (.int .u64 VV),.sc (.int .u64 Amn),.sc (.int .u64 Amb),.sc (.int .u64 Al5),.sc (.int .u64 Al8),.sc (.int .u64 Amm)]]) fun x2 x3=>Ac x3<|Ab x2 fun x4 x5=>Ea 1 x4 fun x6 x7=>Ac x5<|Ap (decide (0+x6*1<=x7.length))<|Ag (call 73 [.sc (.int .i64 2),.lst false 1 x6 (List.take (x6*1) (List.drop 0 x7))]) fun x8 x9=>Ac x9<|Ab x8 fun Ch Cm=>Ad .u64 Ch fun Dg=>Ac Cm<|some (At.mk [.sc (.int .u64 Dg)] [])) (Ae (CX xs) Tryz.prog fu d):=by kernel_rfl
abbrev P7:FuncId:=81
noncomputable def Ec (fu:Nat)(call:Ai)(a0 a1:Int)(a2n:Nat)(a2:List PV)(nn:Nat)(y0:Int)(y1:Nat)(y2:List PV)(y3 y4:Int)(y5 y6:Int)(y7 y8:Int)(y9 y10:Int)(Jz Nz:Int)(Tj Zt:Int)(Zu Zw:Int)(Zv GZ:Int)(UF PT HJ:Int)(y22:List PV):Option At:=C1 CB Tryz.prog fu call 81 Tryz.f81 (Bw Tryz.f81) [.sc (.int .i64 a0),.sc (.int .u64 a1),.lst false 1 a2n a2] [.r,.r,.r,.l,.r,.l] nn ⟨lk [(0,(.sc (.int .i64 y0))),(2,(.lst false 1 y1 y2)),(8,(.ptr 8 0)),(15,(.agg [(.sc (.int .i64 y3)),(.sc (.int .i64 y4)),(.sc (.int .i64 y5)),(.sc (.int .i64 y6)),(.sc (.int .i64 y7)),(.sc (.int .i64 y8)),(.sc (.int .i64 y9)),(.sc (.int .i64 y10)),(.sc (.int .i64 Jz)),(.sc (.int .i64 Nz)),(.sc (.int .i64 Tj)),(.sc (.int .i64 Zt)),(.sc (.int .i64 Zu)),(.sc (.int .i64 Zw)),(.sc (.int .i64 Zv)),(.sc (.int .i64 GZ)),(.sc (.int .i64 UF)),(.sc (.int .i64 PT))])),(16,(.sc (.int .i64 HJ)))],B3 [(8,(.ar false y22))]⟩
noncomputable def On (fu:Nat)(call:Ai)(a0 a1:Int)(a2n:Nat)(a2:List PV)(nn:Nat)(y0:Int)(y1:List PV):Option At:=C1 CB Tryz.prog fu call 81 Tryz.f81 (Bw Tryz.f81) [.sc (.int .i64 a0),.sc (.int .u64 a1),.lst false 1 a2n a2] [.r,.r,.r] nn ⟨lk [(0,(.sc (.int .i64 y0))),(8,(.ptr 8 0))],B3 [(8,(.ar false y1))]⟩
noncomputable def O7 (fu:Nat)(call:Ai)(a0 a1:Int)(a2n:Nat)(a2:List PV)(nn:Nat)(y0 y1:Int):Option At:=C1 CB Tryz.prog fu call 81 Tryz.f81 (Bw Tryz.f81) [.sc (.int .i64 a0),.sc (.int .u64 a1),.lst false 1 a2n a2] [.r,.r,.r,.r] nn ⟨lk [(6,(.sc (.int .u64 y0))),(7,(.sc (.int .i64 y1)))],B3 []⟩
theorem Mo (fu:Nat)(call:Ai)(a0 a1:Int)(a2n:Nat)(a2:List PV)(nn:Nat)(y0:Int)(y1:Nat)(y2:List PV)(y3 y4:Int)(y5 y6:Int)(y7 y8:Int)(y9 y10:Int)(Jz Nz:Int)(Tj Zt:Int)(Zu Zw:Int)(Zv GZ:Int)(UF PT HJ:Int)(y22:List PV):Ec fu call a0 a1 a2n a2 (nn+1) y0 y1 y2 y3 y4 y5 y6 y7 y8 y9 y10 Jz Nz Tj Zt Zu Zw Zv GZ UF PT HJ y22=(Bb (decide (HJ<18)) (Ap (decide (0<=HJ)&&decide (HJ<18)&&true)<|Ad .i64 (List.getD [.sc (.int .i64 y3),.sc (.int .i64 y4),.sc (.int .i64 y5),.sc (.int .i64 y6),.sc (.int .i64 y7),.sc (.int .i64 y8),.sc (.int .i64 y9),.sc (.int .i64 y10),.sc (.int .i64 Jz),.sc (.int .i64 Nz),.sc (.int .i64 Tj),.sc (.int .i64 Zt),.sc (.int .i64 Zu),.sc (.int .i64 Zw),.sc (.int .i64 Zv),.sc (.int .i64 GZ),.sc (.int .i64 UF),.sc (.int .i64 PT)] (Int.toNat HJ*1) .top) fun CQ=>Ap (decide (0<=HJ)&&decide (HJ<(↑y1:Int)))<|Ad .u64 (List.getD y2 (Int.toNat HJ*1) .top) fun X1=>Ag (call 105 [.sc (.int .i64 y0),.sc (.int .i64 HJ),.sc (.int .i64 CQ),.sc (.int .i64 15),.sc (.int .u64 X1)]) fun Ue CR=>Ac CR<|Ab Ue fun Vk Xv=>Ad .u64 Vk fun W8=>Ac Xv<|Ap (decide (0<=HJ)&&decide (HJ<18))<|Ap (decide (0+Int.toNat HJ*1+1<=y22.length))<|Aa (Bf y22 [.sc (.int .u64 W8)] (0+Int.toNat HJ*1)) fun V9=>Aa (wrap .i64 (HJ+1)) fun Xy=>Ec fu call a0 a1 a2n a2 (nn) (y0) (y1) (y2) (y3) (y4) (y5) (y6) (y7) (y8) (y9) (y10) (Jz) (Nz) (Tj) (Zt) (Zu) (Zw) (Zv) (GZ) (UF) (PT) Xy V9) (On fu call a0 a1 a2n a2 (fu) (y0) (y22))):=by kernel_rfl
theorem Vc (fu:Nat)(call:Ai)(a0 a1:Int)(a2n:Nat)(a2:List PV)(nn:Nat)(hnn:0<nn)(y0:Int)(y1:List PV):On fu call a0 a1 a2n a2 nn y0 y1=(Ad .u64 (List.getD y1 0 .top) fun Xr=>Ad .u64 (List.getD y1 1 .top) fun Zy=>Ad .u64 (List.getD y1 2 .top) fun Zr=>Ad .u64 (List.getD y1 3 .top) fun CV=>Ad .u64 (List.getD y1 4 .top) fun HD=>Ad .u64 (List.getD y1 5 .top) fun EL=>Ad .u64 (List.getD y1 6 .top) fun GB=>Ad .u64 (List.getD y1 7 .top) fun HQ=>Ad .u64 (List.getD y1 8 .top) fun CP=>Ad .u64 (List.getD y1 9 .top) fun V8=>Ad .u64 (List.getD y1 10 .top) fun MQ=>Ad .u64 (List.getD y1 11 .top) fun MR=>Ad .u64 (List.getD y1 12 .top) fun YE=>Ad .u64 (List.getD y1 13 .top) fun VT=>Ad .u64 (List.getD y1 14 .top) fun SL=>Ad .u64 (List.getD y1 15 .top) fun TK=>Ad .u64 (List.getD y1 16 .top) fun WH=>Ad .u64 (List.getD y1 17 .top) fun WI=>Ag (call 110 [.sc (.int .i64 y0),.agg [.sc (.int .u64 Xr),.sc (.int .u64 Zy),.sc (.int .u64 Zr),.sc (.int .u64 CV),.sc (.int .u64 HD),.sc (.int .u64 EL),.sc (.int .u64 GB),.sc (.int .u64 HQ),.sc (.int .u64 CP),.sc (.int .u64 V8),.sc (.int .u64 MQ),.sc (.int .u64 MR),.sc (.int .u64 YE),.sc (.int .u64 VT),.sc (.int .u64 SL),.sc (.int .u64 TK),.sc (.int .u64 WH),.sc (.int .u64 WI)]]) fun UD UC=>Ac UC<|Ab UD fun HC QJ=>Ad .u64 HC fun WN=>Ac QJ<|O7 fu call a0 a1 a2n a2 (fu) WN 0):=by cases nn with|zero=>exact absurd hnn (Nat.lt_irrefl 0)|succ nn=>kernel_rfl
theorem Ve (fu:Nat)(call:Ai)(a0 a1:Int)(a2n:Nat)(a2:List PV)(nn:Nat)(hnn:0<nn)(y0 y1:Int):O7 fu call a0 a1 a2n a2 nn y0 y1=(some (At.mk [.sc (.int .u64 y0),.sc (.int .i64 y1)] [])):=by cases nn with|zero=>exact absurd hnn (Nat.lt_irrefl 0)|succ nn=>kernel_rfl
theorem Z8 {xs:FuncId->Option (List PV->Option At)} (fu d:Nat)(a0 a1:Int)(a2n:Nat)(a2:List PV):Ae (CX xs) Tryz.prog fu (d+1) P7 [.sc (.int .i64 a0),.sc (.int .u64 a1),.lst false 1 a2n a2]=(fun (call:Ai)=>Bb ((↑a2n:Int) != 18) (some (At.mk [.sc (.int .u64 0),.sc (.int .i64 4)] [])) (Ag (call 104 [.sc (.int .u64 a1)]) fun x1 x2=>Ac x2<|Ab x1 fun x3 x4=>Dh x3 fun x5=>Ab x5 fun x6 x7=>Ad .i64 x6 fun x8=>Ab x7 fun x9 Ch=>Ad .i64 x9 fun Cm=>Ab Ch fun Dg Do=>Ad .i64 Dg fun Dd=>Ab Do fun Dx D5=>Ad .i64 Dx fun Em=>Ab D5 fun E5 E2=>Ad .i64 E5 fun Fl=>Ab E2 fun He Gn=>Ad .i64 He fun Hf=>Ab Gn fun Dv Df=>Ad .i64 Dv fun Fw=>Ab Df fun Hs Ev=>Ad .i64 Hs fun Jd=>Ab Ev fun Lq J1=>Ad .i64 Lq fun Mk=>Ab J1 fun Lm Mt=>Ad .i64 Lm fun Pu=>Ab Mt fun Rh Sa=>Ad .i64 Rh fun Gv=>Ab Sa fun Id Tv=>Ad .i64 Id fun Yk=>Ab Tv fun Lo Ui=>Ad .i64 Lo fun Tt=>Ab Ui fun Tr Sr=>Ad .i64 Tr fun X6=>Ab Sr fun Zh Sh=>Ad .i64 Zh fun Wh=>Ab Sh fun Xt Xl=>Ad .i64 Xt fun Ov=>Ab Xl fun Yq CU=>Ad .i64 Yq fun AX=>Ab CU fun CY Ud=>Ad .i64 CY fun Y2=>Ac Ud<|Ac x4<|Ec fu call a0 a1 a2n a2 (fu) (a0) (a2n) (a2) x8 Cm Dd Em Fl Hf Fw Jd Mk Pu Gv Yk Tt X6 Wh Ov AX Y2 0 ([.sc (.int .u64 0),.sc (.int .u64 0),.sc (.int .u64 0),.sc (.int .u64 0),.sc (.int .u64 0),.sc (.int .u64 0),.sc (.int .u64 0),.sc (.int .u64 0),.sc (.int .u64 0),.sc (.int .u64 0),.sc (.int .u64 0),.sc (.int .u64 0),.sc (.int .u64 0),.sc (.int .u64 0),.sc (.int .u64 0),.sc (.int .u64 0),.sc (.int .u64 0),.sc (.int .u64 0)]))) (Ae (CX xs) Tryz.prog fu d):=by kernel_rfl
abbrev Rm:FuncId:=106
theorem EE {xs:FuncId->Option (List PV->Option At)} (fu d:Nat)(a0 a1 a2:Int):Ae (CX xs) Tryz.prog fu (d+1) Rm [.sc (.int .u64 a0),.sc (.int .i64 a1),.sc (.int .i64 a2)]=(fun (call:Ai)=>Aa (wrap .u64 a1) fun x1=>Aa (wrap .u64 a2) fun x2=>Ag (call 89 [.lst false 1 2 [.sc (.int .u64 x1),.sc (.int .u64 x2)]]) fun x3 x4=>Ac x4<|Ab x3 fun x5 x6=>Ea 1 x5 fun x7 x8=>Ac x6<|Ap (decide (0+x7*1<=x8.length))<|Ag (call 123 [.sc (.int .u64 a0),.sc (.int .i64 1),.lst false 1 x7 (List.take (x7*1) (List.drop 0 x8))]) fun x9 Ch=>Ac Ch<|Ab x9 fun Cm Dg=>Ad .u64 Cm fun Do=>Ac Dg<|some (At.mk [.sc (.int .u64 Do)] [])) (Ae (CX xs) Tryz.prog fu d):=by kernel_rfl
abbrev Lh:FuncId:=108
noncomputable def Eo (fu:Nat)(call:Ai)(a0 a1:Int)(nn:Nat)(y0 y1 y2:Int)(y3:List PV):Option At:=C1 CB Tryz.prog fu call 108 Tryz.f108 (Bw Tryz.f108) [.sc (.int .u64 a0),.sc (.int .i64 a1)] [.r,.r,.l,.r,.l] nn ⟨lk [(0,(.sc (.int .u64 y0))),(1,(.sc (.int .i64 y1))),(5,(.ptr 5 0)),(7,(.sc (.int .i64 y2)))],B3 [(5,(.ar false y3))]⟩
noncomputable def Qh (fu:Nat)(call:Ai)(a0 a1:Int)(nn:Nat)(y0:Int)(y1:List PV):Option At:=C1 CB Tryz.prog fu call 108 Tryz.f108 (Bw Tryz.f108) [.sc (.int .u64 a0),.sc (.int .i64 a1)] [.r,.r] nn ⟨lk [(1,(.sc (.int .i64 y0))),(5,(.ptr 5 0))],B3 [(5,(.ar false y1))]⟩
noncomputable def Qo (fu:Nat)(call:Ai)(a0 a1:Int)(nn:Nat)(y0:Int):Option At:=C1 CB Tryz.prog fu call 108 Tryz.f108 (Bw Tryz.f108) [.sc (.int .u64 a0),.sc (.int .i64 a1)] [.r,.r,.r] nn ⟨lk [(4,(.sc (.int .u64 y0)))],B3 []⟩
theorem M9 (fu:Nat)(call:Ai)(a0 a1:Int)(nn:Nat)(y0 y1 y2:Int)(y3:List PV):Eo fu call a0 a1 (nn+1) y0 y1 y2 y3=(Bb (decide (y2<18)) (Ag (call 106 [.sc (.int .u64 y0),.sc (.int .i64 y1),.sc (.int .i64 y2)]) fun x1 x2=>Ac x2<|Ab x1 fun x3 x4=>Ad .u64 x3 fun x5=>Ac x4<|Ag (call 105 [.sc (.int .i64 y1),.sc (.int .i64 y2),.sc (.int .i64 0),.sc (.int .i64 15),.sc (.int .u64 x5)]) fun x6 x7=>Ac x7<|Ab x6 fun x8 x9=>Ad .u64 x8 fun Ch=>Ac x9<|Ap (decide (0<=y2)&&decide (y2<18))<|Ap (decide (0+Int.toNat y2*1+1<=y3.length))<|Aa (Bf y3 [.sc (.int .u64 Ch)] (0+Int.toNat y2*1)) fun Cm=>Aa (wrap .i64 (y2+1)) fun Dg=>Eo fu call a0 a1 (nn) (y0) (y1) Dg Cm) (Qh fu call a0 a1 (fu) (y1) (y3))):=by kernel_rfl
theorem Ww (fu:Nat)(call:Ai)(a0 a1:Int)(nn:Nat)(hnn:0<nn)(y0:Int)(y1:List PV):Qh fu call a0 a1 nn y0 y1=(Ad .u64 (List.getD y1 0 .top) fun Do=>Ad .u64 (List.getD y1 1 .top) fun Dd=>Ad .u64 (List.getD y1 2 .top) fun Dx=>Ad .u64 (List.getD y1 3 .top) fun D5=>Ad .u64 (List.getD y1 4 .top) fun Em=>Ad .u64 (List.getD y1 5 .top) fun E5=>Ad .u64 (List.getD y1 6 .top) fun E2=>Ad .u64 (List.getD y1 7 .top) fun Fl=>Ad .u64 (List.getD y1 8 .top) fun He=>Ad .u64 (List.getD y1 9 .top) fun Gn=>Ad .u64 (List.getD y1 10 .top) fun Hf=>Ad .u64 (List.getD y1 11 .top) fun Dv=>Ad .u64 (List.getD y1 12 .top) fun Df=>Ad .u64 (List.getD y1 13 .top) fun Fw=>Ad .u64 (List.getD y1 14 .top) fun Hs=>Ad .u64 (List.getD y1 15 .top) fun Ev=>Ad .u64 (List.getD y1 16 .top) fun Jd=>Ad .u64 (List.getD y1 17 .top) fun Lq=>Ag (call 110 [.sc (.int .i64 y0),.agg [.sc (.int .u64 Do),.sc (.int .u64 Dd),.sc (.int .u64 Dx),.sc (.int .u64 D5),.sc (.int .u64 Em),.sc (.int .u64 E5),.sc (.int .u64 E2),.sc (.int .u64 Fl),.sc (.int .u64 He),.sc (.int .u64 Gn),.sc (.int .u64 Hf),.sc (.int .u64 Dv),.sc (.int .u64 Df),.sc (.int .u64 Fw),.sc (.int .u64 Hs),.sc (.int .u64 Ev),.sc (.int .u64 Jd),.sc (.int .u64 Lq)]]) fun J1 Mk=>Ac Mk<|Ab J1 fun Lm Mt=>Ad .u64 Lm fun Pu=>Ac Mt<|Qo fu call a0 a1 (fu) Pu):=by cases nn with|zero=>exact absurd hnn (Nat.lt_irrefl 0)|succ nn=>kernel_rfl
theorem Xh (fu:Nat)(call:Ai)(a0 a1:Int)(nn:Nat)(hnn:0<nn)(y0:Int):Qo fu call a0 a1 nn y0=(some (At.mk [.sc (.int .u64 y0)] [])):=by cases nn with|zero=>exact absurd hnn (Nat.lt_irrefl 0)|succ nn=>kernel_rfl
theorem EY {xs:FuncId->Option (List PV->Option At)} (fu d:Nat)(a0 a1:Int):Ae (CX xs) Tryz.prog fu (d+1) Lh [.sc (.int .u64 a0),.sc (.int .i64 a1)]=(fun (call:Ai)=>Eo fu call a0 a1 (fu) (a0) (a1) 0 ([.sc (.int .u64 0),.sc (.int .u64 0),.sc (.int .u64 0),.sc (.int .u64 0),.sc (.int .u64 0),.sc (.int .u64 0),.sc (.int .u64 0),.sc (.int .u64 0),.sc (.int .u64 0),.sc (.int .u64 0),.sc (.int .u64 0),.sc (.int .u64 0),.sc (.int .u64 0),.sc (.int .u64 0),.sc (.int .u64 0),.sc (.int .u64 0),.sc (.int .u64 0),.sc (.int .u64 0)])) (Ae (CX xs) Tryz.prog fu d):=by kernel_rfl
abbrev Pe:FuncId:=76
noncomputable def Ih (fu:Nat)(call:Ai)(a0 a1 a2:Int)(nn:Nat)(y0 y1:Int)(y2 y3:Int)(y4 y5:Int)(y6 y7:Int)(y8 y9:Int)(y10 Jz:Int)(Nz Tj:Int)(Zt Zu:Int)(Zw Zv:Int)(GZ UF PT:Int)(HJ:List PV):Option At:=C1 CB Tryz.prog fu call 76 Tryz.f76 (Bw Tryz.f76) [.sc (.int .u64 a0),.sc (.int .i64 a1),.sc (.int .u64 a2)] [.r,.r,.l,.r,.l] nn ⟨lk [(0,(.sc (.int .u64 y0))),(1,(.sc (.int .i64 y1))),(7,(.ptr 7 0)),(11,(.agg [(.sc (.int .i64 y2)),(.sc (.int .i64 y3)),(.sc (.int .i64 y4)),(.sc (.int .i64 y5)),(.sc (.int .i64 y6)),(.sc (.int .i64 y7)),(.sc (.int .i64 y8)),(.sc (.int .i64 y9)),(.sc (.int .i64 y10)),(.sc (.int .i64 Jz)),(.sc (.int .i64 Nz)),(.sc (.int .i64 Tj)),(.sc (.int .i64 Zt)),(.sc (.int .i64 Zu)),(.sc (.int .i64 Zw)),(.sc (.int .i64 Zv)),(.sc (.int .i64 GZ)),(.sc (.int .i64 UF))])),(12,(.sc (.int .i64 PT)))],B3 [(7,(.ar false HJ))]⟩
theorem P0 (fu:Nat)(call:Ai)(a0 a1 a2:Int)(nn:Nat)(y0 y1:Int)(y2 y3:Int)(y4 y5:Int)(y6 y7:Int)(y8 y9:Int)(y10 Jz:Int)(Nz Tj:Int)(Zt Zu:Int)(Zw Zv:Int)(GZ UF PT:Int)(HJ:List PV):Ih fu call a0 a1 a2 (nn+1) y0 y1 y2 y3 y4 y5 y6 y7 y8 y9 y10 Jz Nz Tj Zt Zu Zw Zv GZ UF PT HJ=(Bb (decide (PT<18)) (Ap (decide (0<=PT)&&decide (PT<18)&&true)<|Ad .i64 (List.getD [.sc (.int .i64 y2),.sc (.int .i64 y3),.sc (.int .i64 y4),.sc (.int .i64 y5),.sc (.int .i64 y6),.sc (.int .i64 y7),.sc (.int .i64 y8),.sc (.int .i64 y9),.sc (.int .i64 y10),.sc (.int .i64 Jz),.sc (.int .i64 Nz),.sc (.int .i64 Tj),.sc (.int .i64 Zt),.sc (.int .i64 Zu),.sc (.int .i64 Zw),.sc (.int .i64 Zv),.sc (.int .i64 GZ),.sc (.int .i64 UF)] (Int.toNat PT*1) .top) fun CQ=>Ag (call 106 [.sc (.int .u64 y0),.sc (.int .i64 y1),.sc (.int .i64 PT)]) fun X1 Ue=>Ac Ue<|Ab X1 fun CR Vk=>Ad .u64 CR fun Xv=>Ac Vk<|Ag (call 105 [.sc (.int .i64 y1),.sc (.int .i64 PT),.sc (.int .i64 0),.sc (.int .i64 CQ),.sc (.int .u64 Xv)]) fun W8 V9=>Ac V9<|Ab W8 fun Xy Xr=>Ad .u64 Xy fun Zy=>Ac Xr<|Ap (decide (0<=PT)&&decide (PT<18))<|Ap (decide (0+Int.toNat PT*1+1<=HJ.length))<|Aa (Bf HJ [.sc (.int .u64 Zy)] (0+Int.toNat PT*1)) fun Zr=>Aa (wrap .i64 (PT+1)) fun CV=>Ih fu call a0 a1 a2 (nn) (y0) (y1) (y2) (y3) (y4) (y5) (y6) (y7) (y8) (y9) (y10) (Jz) (Nz) (Tj) (Zt) (Zu) (Zw) (Zv) (GZ) (UF) CV Zr) (Ap (decide (18<=HJ.length))<|Ap (decide (18<=HJ.length))<|some (At.mk [.own 1 18 (List.take 18 HJ)] []))):=by kernel_rfl
theorem LX {xs:FuncId->Option (List PV->Option At)} (fu d:Nat)(a0 a1 a2:Int):Ae (CX xs) Tryz.prog fu (d+1) Pe [.sc (.int .u64 a0),.sc (.int .i64 a1),.sc (.int .u64 a2)]=(fun (call:Ai)=>Ag (call 104 [.sc (.int .u64 a2)]) fun x1 x2=>Ac x2<|Ab x1 fun x3 x4=>Dh x3 fun x5=>Ab x5 fun x6 x7=>Ad .i64 x6 fun x8=>Ab x7 fun x9 Ch=>Ad .i64 x9 fun Cm=>Ab Ch fun Dg Do=>Ad .i64 Dg fun Dd=>Ab Do fun Dx D5=>Ad .i64 Dx fun Em=>Ab D5 fun E5 E2=>Ad .i64 E5 fun Fl=>Ab E2 fun He Gn=>Ad .i64 He fun Hf=>Ab Gn fun Dv Df=>Ad .i64 Dv fun Fw=>Ab Df fun Hs Ev=>Ad .i64 Hs fun Jd=>Ab Ev fun Lq J1=>Ad .i64 Lq fun Mk=>Ab J1 fun Lm Mt=>Ad .i64 Lm fun Pu=>Ab Mt fun Rh Sa=>Ad .i64 Rh fun Gv=>Ab Sa fun Id Tv=>Ad .i64 Id fun Yk=>Ab Tv fun Lo Ui=>Ad .i64 Lo fun Tt=>Ab Ui fun Tr Sr=>Ad .i64 Tr fun X6=>Ab Sr fun Zh Sh=>Ad .i64 Zh fun Wh=>Ab Sh fun Xt Xl=>Ad .i64 Xt fun Ov=>Ab Xl fun Yq CU=>Ad .i64 Yq fun AX=>Ab CU fun CY Ud=>Ad .i64 CY fun Y2=>Ac Ud<|Ac x4<|Ih fu call a0 a1 a2 (fu) (a0) (a1) x8 Cm Dd Em Fl Hf Fw Jd Mk Pu Gv Yk Tt X6 Wh Ov AX Y2 0 ([.sc (.int .u64 0),.sc (.int .u64 0),.sc (.int .u64 0),.sc (.int .u64 0),.sc (.int .u64 0),.sc (.int .u64 0),.sc (.int .u64 0),.sc (.int .u64 0),.sc (.int .u64 0),.sc (.int .u64 0),.sc (.int .u64 0),.sc (.int .u64 0),.sc (.int .u64 0),.sc (.int .u64 0),.sc (.int .u64 0),.sc (.int .u64 0),.sc (.int .u64 0),.sc (.int .u64 0)])) (Ae (CX xs) Tryz.prog fu d):=by kernel_rfl
abbrev Jg:FuncId:=74
theorem LD {xs:FuncId->Option (List PV->Option At)} (fu d:Nat)(a0:Int):Ae (CX xs) Tryz.prog fu (d+1) Jg [.sc (.int .i64 a0)]=(fun (call:Ai)=>Bb (decide (a0<0)) (some (At.mk [.sc (.bool true)] [])) (some (At.mk [.sc (.bool (decide (a0>4)))] []))) (Ae (CX xs) Tryz.prog fu d):=by kernel_rfl
abbrev G9:FuncId:=75
theorem BA {xs:FuncId->Option (List PV->Option At)} (fu d:Nat)(a0 a1:Int):Ae (CX xs) Tryz.prog fu (d+1) G9 [.sc (.int .i64 a0),.sc (.int .i64 a1)]=(fun (call:Ai)=>Bb (decide (a0<0)) (some (At.mk [.sc (.bool true)] [])) (Ap (decide (0<=a1))<|Aa (Gl .i64 1 a1) fun x1=>some (At.mk [.sc (.bool (decide (a0>=x1)))] []))) (Ae (CX xs) Tryz.prog fu d):=by kernel_rfl
abbrev Tp:FuncId:=92
noncomputable def Gb (fu:Nat)(call:Ai)(a0n:Nat)(a0:List PV)(nn y0:Nat)(y1:List PV)(y2:Nat)(y3 y4:Int)(y5:List PV):Option At:=C1 CB Tryz.prog fu call 92 Tryz.f92 (Bw Tryz.f92) [.lst false 1 a0n a0] [.r,.r,.l,.r,.l] nn ⟨lk [(0,(.lst false 1 y0 y1)),(3,(.view 3 1 0 y2)),(12,(.sc (.int .i64 y3))),(13,(.sc (.int .i64 y4)))],B3 [(3,(.ar false y5))]⟩
noncomputable def Hy (fu:Nat)(call:Ai)(a0n:Nat)(a0:List PV)(m0 nn y0:Nat)(y1:List PV)(y2:Nat)(y3 y4 y5:Int)(y6:Nat)(y7:List PV)(y8 y9:Int)(y10:List PV):Option At:=C1 CB Tryz.prog fu call 92 Tryz.f92 (Bw Tryz.f92) [.lst false 1 a0n a0] [.r,.r,.l,.r,.l,.i m0,.r,.r,.l,.l,.r,.r,.l] nn ⟨lk [(0,(.lst false 1 y0 y1)),(3,(.view 3 1 0 y2)),(4,(.sc (.int .i64 y3))),(12,(.sc (.int .i64 y4))),(13,(.sc (.int .i64 y5))),(22,(.lst false 1 y6 y7)),(23,(.sc (.int .i64 y8))),(24,(.sc (.int .i64 y9)))],B3 [(3,(.ar false y10))]⟩
theorem Ol (fu:Nat)(call:Ai)(a0n:Nat)(a0:List PV)(nn y0:Nat)(y1:List PV)(y2:Nat)(y3 y4:Int)(y5:List PV):Gb fu call a0n a0 (nn+1) y0 y1 y2 y3 y4 y5=(Bb (decide (y4<y3)) (Aa (wrap .i64 (8*y4)) fun x2=>Aa (wrap .i64 (8*y4)) fun x3=>Aa (wrap .i64 (x3+8)) fun x4=>Ap (decide (0<=x2))<|Ap (decide (0<=x4))<|Ap (decide (Int.toNat x2<=Int.toNat x4)&&decide (Int.toNat x4<=y0))<|Aa (Int.toNat x4-Int.toNat x2) fun x5=>Aa (List.take (x5*1) (List.drop (Int.toNat x2*1) y1)) fun x6=>Hy fu call a0n a0 nn (fu) (y0) (y1) (y2) (y4) (y3) (y4) x5 x6 ((↑x5:Int)) 0 (y5)) (Ap (decide (y2*1<=y5.length))<|some (At.mk [.own 1 y2 (List.take (y2*1) y5)] []))):=by kernel_rfl
theorem Pk (fu:Nat)(call:Ai)(a0n:Nat)(a0:List PV)(m0 nn y0:Nat)(y1:List PV)(y2:Nat)(y3 y4 y5:Int)(y6:Nat)(y7:List PV)(y8 y9:Int)(y10:List PV):Hy fu call a0n a0 m0 (nn+1) y0 y1 y2 y3 y4 y5 y6 y7 y8 y9 y10=(Bb (decide (y9<y8)) (Ap (decide (0<=y9)&&decide (y9<(↑y6:Int)))<|Ad .u8 (List.getD y7 (Int.toNat y9*1) .top) fun x7=>Ap (decide (0<=y3)&&decide (y3<(↑y2:Int)))<|Ad .u64 (List.getD y10 (0+Int.toNat y3*1) .top) fun x8=>Aa (Gl .u64 x8 8) fun x9=>Aa (wrap .u64 x7) fun Ch=>Aa (QK .u64 x9 Ch) fun Cm=>Ap (decide (0<=y3)&&decide (y3<(↑y2:Int)))<|Ap (decide (0+Int.toNat y3*1+1<=y10.length))<|Aa (Bf y10 [.sc (.int .u64 Cm)] (0+Int.toNat y3*1)) fun Dg=>Aa (wrap .i64 (y9+1)) fun Do=>Hy fu call a0n a0 m0 (nn) (y0) (y1) (y2) (y3) (y4) (y5) (y6) (y7) (y8) Do Dg) (Aa (wrap .i64 (y5+1)) fun Dd=>Gb fu call a0n a0 (m0) (y0) (y1) (y2) (y4) Dd (y10))):=by kernel_rfl
theorem HE {xs:FuncId->Option (List PV->Option At)} (fu d a0n:Nat)(a0:List PV):Ae (CX xs) Tryz.prog fu (d+1) Tp [.lst false 1 a0n a0]=(fun (call:Ai)=>Aa (wrap .i64 (Int.tdiv (↑a0n:Int) 8)) fun x1=>Ap (decide (0<=x1)&&decide (x1<=x1)&&decide (x1*8<=1099511627776)&&decide (x1<=1099511627776))<|Gb fu call a0n a0 (fu) (a0n) (a0) x1.toNat ((↑x1.toNat:Int)) 0 (Rn x1.toNat [.sc (.int .u64 0)])) (Ae (CX xs) Tryz.prog fu d):=by kernel_rfl
abbrev K0:FuncId:=82
theorem DG {xs:FuncId->Option (List PV->Option At)} (fu d:Nat)(a0 a1 a2:Int):Ae (CX xs) Tryz.prog fu (d+1) K0 [.sc (.int .i64 a0),.sc (.int .u64 a1),.sc (.int .u64 a2)]=(fun (call:Ai)=>Aa (wrap .u64 a0) fun x1=>Ag (call 89 [.lst false 1 3 [.sc (.int .u64 x1),.sc (.int .u64 a1),.sc (.int .u64 a2)]]) fun x2 x3=>Ac x3<|Ab x2 fun x4 x5=>Ea 1 x4 fun x6 x7=>Ac x5<|Ap (decide (0+x6*1<=x7.length))<|Ag (call 73 [.sc (.int .i64 3),.lst false 1 x6 (List.take (x6*1) (List.drop 0 x7))]) fun x8 x9=>Ac x9<|Ab x8 fun Ch Cm=>Ad .u64 Ch fun Dg=>Ac Cm<|some (At.mk [.sc (.int .u64 Dg)] [])) (Ae (CX xs) Tryz.prog fu d):=by kernel_rfl
abbrev M0:FuncId:=66
theorem Xg {xs:FuncId->Option (List PV->Option At)} (fu d:Nat)(a0_0 a0_1:Int):Ae (CX xs) Tryz.prog fu (d+1) M0 [.agg [.sc (.int .i64 a0_0),.sc (.int .u64 a0_1)]]=(fun (call:Ai)=>Ag (call 74 [.sc (.int .i64 a0_0)]) fun x1 x2=>Ac x2<|Ab x1 fun x3 x4=>Bm x3 fun x5=>Ac x4<|Bb x5 (some (At.mk [.own 1 0 [],.sc (.int .i64 9)] [])) (Aa (wrap .u8 a0_0) fun x6=>Ag (call 89 [.lst false 1 1 [.sc (.int .u64 a0_1)]]) fun x7 x8=>Ac x8<|Ab x7 fun x9 Ch=>Ea 1 x9 fun Cm Dg=>Ac Ch<|Ap (decide (0+Cm*1<=Dg.length))<|Ap (decide (List.length (List.take (Cm*1) (List.drop 0 Dg))=Cm*1)&&decide ((1+Cm)*1<=1099511627776)&&decide (1+Cm<=1099511627776))<|Aa (1+Cm) fun Do=>Aa ([.sc (.int .u8 x6)]++List.take (Cm*1) (List.drop 0 Dg)) fun Dd=>Ap (decide (Do*1<=Dd.length))<|some (At.mk [.own 1 Do (List.take (Do*1) Dd),.sc (.int .i64 0)] []))) (Ae (CX xs) Tryz.prog fu d):=by kernel_rfl
abbrev M4:FuncId:=53
theorem Xe {xs:FuncId->Option (List PV->Option At)} (fu d a0n:Nat)(a0:List PV):Ae (CX xs) Tryz.prog fu (d+1) M4 [.lst false 1 a0n a0]=(fun (call:Ai)=>Bb ((↑a0n:Int) != 9) (some (At.mk [.agg [.sc (.int .i64 0),.sc (.int .u64 0)],.sc (.int .i64 2)] [])) (Ap (decide (0<(↑a0n:Int)))<|Ad .u8 (List.getD a0 0 .top) fun x1=>Aa (wrap .i64 x1) fun x2=>Ag (call 74 [.sc (.int .i64 x2)]) fun x3 x4=>Ac x4<|Ab x3 fun x5 x6=>Bm x5 fun x7=>Ac x6<|Bb x7 (some (At.mk [.agg [.sc (.int .i64 0),.sc (.int .u64 0)],.sc (.int .i64 2)] [])) (Ap (decide (0<(↑a0n:Int)))<|Ad .u8 (List.getD a0 0 .top) fun x8=>Aa (wrap .i64 x8) fun x9=>Ap (decide (1<=a0n)&&decide (a0n<=a0n))<|Aa (a0n-1) fun Ch=>Aa (List.take (Ch*1) (List.drop 1 a0)) fun Cm=>Ag (call 92 [.lst false 1 Ch Cm]) fun Dg Do=>Ac Do<|Ab Dg fun Dd Dx=>Ea 1 Dd fun D5 Em=>Ac Dx<|Ap (decide (0<(↑D5:Int)))<|Ad .u64 (List.getD Em 0 .top) fun E5=>some (At.mk [.agg [.sc (.int .i64 x9),.sc (.int .u64 E5)],.sc (.int .i64 0)] [])))) (Ae (CX xs) Tryz.prog fu d):=by kernel_rfl
abbrev Hz:FuncId:=50
theorem Pr {xs:FuncId->Option (List PV->Option At)} (fu d:Nat)(a0_0:Int)(PY:Nat)(a0_1:List PV)(E1:Nat)(a0_2:List PV):Ae (CX xs) Tryz.prog fu (d+1) Hz [.agg [.sc (.int .i64 a0_0),.lst false 1 PY a0_1,.lst false 1 E1 a0_2]]=(fun (call:Ai)=>Ag (call 74 [.sc (.int .i64 (↑E1:Int))]) fun x1 x2=>Ac x2<|Ab x1 fun x3 x4=>Bm x3 fun x5=>Ac x4<|Bb x5 (some (At.mk [.own 1 0 [],.sc (.int .i64 9)] [])) (Ag (call 75 [.sc (.int .i64 a0_0),.sc (.int .i64 (↑E1:Int))]) fun x6 x7=>Ac x7<|Ab x6 fun x8 x9=>Bm x8 fun Ch=>Ac x9<|Bb Ch (some (At.mk [.own 1 0 [],.sc (.int .i64 9)] [])) (Bb ((↑PY:Int) != 18) (some (At.mk [.own 1 0 [],.sc (.int .i64 4)] [])) (Aa (wrap .u8 a0_0) fun Cm=>Aa (wrap .u8 (↑E1:Int)) fun Dg=>Ag (call 89 [.lst false 1 PY a0_1]) fun Do Dd=>Ac Dd<|Ab Do fun Dx D5=>Ea 1 Dx fun Em E5=>Ac D5<|Ap (decide (0+Em*1<=E5.length))<|Ap (decide (List.length (List.take (Em*1) (List.drop 0 E5))=Em*1)&&decide ((2+Em)*1<=1099511627776)&&decide (2+Em<=1099511627776))<|Aa (2+Em) fun E2=>Aa ([.sc (.int .u8 Cm),.sc (.int .u8 Dg)]++List.take (Em*1) (List.drop 0 E5)) fun Fl=>Ag (call 89 [.lst false 1 E1 a0_2]) fun He Gn=>Ac Gn<|Ab He fun Hf Dv=>Ea 1 Hf fun Df Fw=>Ac Dv<|Ap (decide (0+Df*1<=Fw.length))<|Ap (decide (E2*1<=Fl.length)&&decide (List.length (List.take (Df*1) (List.drop 0 Fw))=Df*1)&&decide ((E2+Df)*1<=1099511627776)&&decide (E2+Df<=1099511627776))<|Aa (E2+Df) fun Hs=>Aa (List.take (E2*1) Fl++List.take (Df*1) (List.drop 0 Fw)) fun Ev=>Ap (decide (Hs*1<=Ev.length))<|some (At.mk [.own 1 Hs (List.take (Hs*1) Ev),.sc (.int .i64 0)] []))))) (Ae (CX xs) Tryz.prog fu d):=by kernel_rfl
abbrev H0:FuncId:=54
theorem Pw {xs:FuncId->Option (List PV->Option At)} (fu d a0n:Nat)(a0:List PV):Ae (CX xs) Tryz.prog fu (d+1) H0 [.lst false 1 a0n a0]=(fun (call:Ai)=>Bb (decide ((↑a0n:Int)<2)) (some (At.mk [.agg [.sc (.int .i64 0),.own 1 0 [],.own 1 0 []],.sc (.int .i64 2)] [])) (Ap (decide (0<(↑a0n:Int)))<|Ad .u8 (List.getD a0 0 .top) fun x1=>Aa (wrap .i64 x1) fun x2=>Ap (decide (1<(↑a0n:Int)))<|Ad .u8 (List.getD a0 1 .top) fun x3=>Aa (wrap .i64 x3) fun x4=>Ag (call 74 [.sc (.int .i64 x4)]) fun x5 x6=>Ac x6<|Ab x5 fun x7 x8=>Bm x7 fun x9=>Ac x8<|Bb x9 (some (At.mk [.agg [.sc (.int .i64 0),.own 1 0 [],.own 1 0 []],.sc (.int .i64 2)] [])) (Ag (call 75 [.sc (.int .i64 x2),.sc (.int .i64 x4)]) fun Ch Cm=>Ac Cm<|Ab Ch fun Dg Do=>Bm Dg fun Dd=>Ac Do<|Bb Dd (some (At.mk [.agg [.sc (.int .i64 0),.own 1 0 [],.own 1 0 []],.sc (.int .i64 2)] [])) (Aa (wrap .i64 (18+x4)) fun Dx=>Aa (wrap .i64 (8*Dx)) fun D5=>Aa (wrap .i64 (2+D5)) fun Em=>Bb ((↑a0n:Int) != Em) (some (At.mk [.agg [.sc (.int .i64 0),.own 1 0 [],.own 1 0 []],.sc (.int .i64 2)] [])) (Ap (decide (146<=a0n))<|Aa (List.take 144 (List.drop 2 a0)) fun E5=>Ag (call 92 [.lst false 1 144 E5]) fun E2 Fl=>Ac Fl<|Ab E2 fun He Gn=>Ea 1 He fun Hf Dv=>Ac Gn<|Ap (decide (146<=a0n)&&decide (a0n<=a0n))<|Aa (a0n-146) fun Df=>Aa (List.take (Df*1) (List.drop 146 a0)) fun Fw=>Ag (call 92 [.lst false 1 Df Fw]) fun Hs Ev=>Ac Ev<|Ab Hs fun Jd Lq=>Ea 1 Jd fun J1 Mk=>Ac Lq<|Ap (decide (Hf*1<=Dv.length))<|Ap (decide (J1*1<=Mk.length))<|some (At.mk [.agg [.sc (.int .i64 x2),.own 1 Hf (List.take (Hf*1) Dv),.own 1 J1 (List.take (J1*1) Mk)],.sc (.int .i64 0)] [])))))) (Ae (CX xs) Tryz.prog fu d):=by kernel_rfl
abbrev Ra:FuncId:=41
noncomputable def Fp (fu:Nat)(call:Ai)(a0_0 a0_1:Int)(a1 Nw:Int)(Hj:Nat)(Qs:List PV)(Hk:Nat)(Rb:List PV)(nn:Nat)(y0:Int)(y1:Nat)(y2:List PV)(y3 y4:Int)(y5 y6 y7:Int)(y8:Nat)(y9:List PV)(y10:Nat)(Jz:List PV):Option At:=C1 CB Tryz.prog fu call 41 Tryz.f41 (Bw Tryz.f41) [.agg [.sc (.int .i64 a0_0),.sc (.int .u64 a0_1)],.sc (.int .u64 a1),.agg [.sc (.int .i64 Nw),.lst false 1 Hj Qs,.lst false 1 Hk Rb]] [.r,.r,.r,.r,.r,.l,.r,.l] nn ⟨lk [(3,(.ptr 3 0)),(5,(.ptr 5 0)),(7,(.sc (.int .u64 y0))),(46,(.lst false 1 y1 y2)),(47,(.sc (.int .i64 y3))),(48,(.sc (.int .i64 y4)))],B3 [(3,(.st [(.sc (.int .i64 y5)),(.sc (.int .u64 y6))])),(5,(.st [(.sc (.int .i64 y7)),(.lst false 1 y8 y9),(.lst false 1 y10 Jz)]))]⟩
theorem M5 (fu:Nat)(call:Ai)(a0_0 a0_1:Int)(a1 Nw:Int)(Hj:Nat)(Qs:List PV)(Hk:Nat)(Rb:List PV)(nn:Nat)(y0:Int)(y1:Nat)(y2:List PV)(y3 y4:Int)(y5 y6 y7:Int)(y8:Nat)(y9:List PV)(y10:Nat)(Jz:List PV):Fp fu call a0_0 a0_1 a1 Nw Hj Qs Hk Rb (nn+1) y0 y1 y2 y3 y4 y5 y6 y7 y8 y9 y10 Jz=(Bb (decide (y4<y3)) (Ap (decide (0<=y4)&&decide (y4<(↑y1:Int)))<|Ad .u64 (List.getD y2 (Int.toNat y4*1) .top) fun E2=>Ap (decide (0<=y4))<|Aa (Dw .i64 y7 y4) fun Fl=>Aa (Ps .i64 Fl 1) fun He=>Bb (He==0) (Aa (wrap .i64 (y4+1)) fun Gn=>Ag (call 82 [.sc (.int .i64 Gn),.sc (.int .u64 y0),.sc (.int .u64 E2)]) fun Hf Dv=>Ac Dv<|Ab Hf fun Df Fw=>Ad .u64 Df fun Hs=>Ac Fw<|Aa (wrap .i64 (y4+1)) fun Ev=>Fp fu call a0_0 a0_1 a1 Nw Hj Qs Hk Rb (nn) Hs (y1) (y2) (y3) Ev (y5) (y6) (y7) (y8) (y9) (y10) (Jz)) (Aa (wrap .i64 (y4+1)) fun Jd=>Ag (call 82 [.sc (.int .i64 Jd),.sc (.int .u64 E2),.sc (.int .u64 y0)]) fun Lq J1=>Ac J1<|Ab Lq fun Mk Lm=>Ad .u64 Mk fun Mt=>Ac Lm<|Aa (wrap .i64 (y4+1)) fun Pu=>Fp fu call a0_0 a0_1 a1 Nw Hj Qs Hk Rb (nn) Mt (y1) (y2) (y3) Pu (y5) (y6) (y7) (y8) (y9) (y10) (Jz))) (Bb (y0 != y6) (some (At.mk [.sc (.int .i64 15)] [])) (some (At.mk [.sc (.int .i64 0)] [])))):=by kernel_rfl
theorem DY {xs:FuncId->Option (List PV->Option At)} (fu d:Nat)(a0_0 a0_1:Int)(a1 Nw:Int)(Hj:Nat)(Qs:List PV)(Hk:Nat)(Rb:List PV):Ae (CX xs) Tryz.prog fu (d+1) Ra [.agg [.sc (.int .i64 a0_0),.sc (.int .u64 a0_1)],.sc (.int .u64 a1),.agg [.sc (.int .i64 Nw),.lst false 1 Hj Qs,.lst false 1 Hk Rb]]=(fun (call:Ai)=>Ag (call 74 [.sc (.int .i64 a0_0)]) fun x1 x2=>Ac x2<|Ab x1 fun x3 x4=>Bm x3 fun x5=>Ac x4<|Bb x5 (some (At.mk [.sc (.int .i64 9)] [])) (Ag (call 75 [.sc (.int .i64 Nw),.sc (.int .i64 a0_0)]) fun x6 x7=>Ac x7<|Ab x6 fun x8 x9=>Bm x8 fun Ch=>Ac x9<|Bb Ch (some (At.mk [.sc (.int .i64 9)] [])) (Bb ((↑Hj:Int) != 18) (some (At.mk [.sc (.int .i64 4)] [])) (Bb ((↑Hk:Int) != a0_0) (some (At.mk [.sc (.int .i64 4)] [])) (Ag (call 81 [.sc (.int .i64 Nw),.sc (.int .u64 a1),.lst false 1 Hj Qs]) fun Cm Dg=>Ac Dg<|Ab Cm fun Do Dd=>Ad .u64 Do fun Dx=>Ab Dd fun D5 Em=>Ad .i64 D5 fun E5=>Ac Em<|Bb (E5 != 0) (some (At.mk [.sc (.int .i64 E5)] [])) (Fp fu call a0_0 a0_1 a1 Nw Hj Qs Hk Rb (fu) Dx (Hk) (Rb) ((↑Hk:Int)) 0 (a0_0) (a0_1) (Nw) (Hj) (Qs) (Hk) (Rb))))))) (Ae (CX xs) Tryz.prog fu d):=by kernel_rfl
end
section
open Go.IntKind (wrap)
theorem Am0 {a m:Int}(h0:0<=m)(h1:m<=18446744073709551615):0<=Ps .u64 a m∧Ps .u64 a m<=m:=by
 have hle:(BitVec.ofInt 64 a &&& BitVec.ofInt 64 m).toNat<=m.toNat:=by
  rw [BitVec.toNat_and];refine Nat.le_trans Nat.and_le_right ?_;rw [BitVec.toNat_ofInt];omega
 have:Ps .u64 a m=((BitVec.ofInt 64 a &&& BitVec.ofInt 64 m).toNat:Int):=by
  unfold Ps;exact Ci (by omega) (by show ((BitVec.ofInt 64 a &&& BitVec.ofInt 64 m).toNat:Int)<=_;omega)
 rw [this];omega
theorem Ju (k:IntKind)(l:List Int)(i:Nat)(x:Int):(Af k l).set i (.sc (.int k x))=Af k (l.set i x):=by
 induction l generalizing i with
 |nil=>rfl
 |cons a l ih=>
  cases i with
  |zero=>rfl
  |succ i=>
   show (PV.sc (.int k a)::Af k l).set (i+1) _=PV.sc (.int k a)::Af k (l.set i x);rw [List.set_cons_succ,ih]
theorem VL (w:Int)(k:Nat):0<=Cx w k∧Cx w k<=255:=by
 unfold Cx;simp only [wrap,IntKind.signed,IntKind.bits];simp;omega
theorem Acj (w:Int):J2 (Dr w):=by
 intro x hx;obtain ⟨k,_,rfl⟩:=List.mem_map.1 hx;exact VL w k
theorem Q2 (ws:List Int):J2 (A0 ws):=by
 intro x hx;obtain ⟨w,_,hx⟩:=List.mem_flatMap.1 hx;exact Acj w x hx
theorem Db (ws:List Int):(A0 ws).length=8*ws.length:=by
 induction ws with
 |nil=>rfl
 |cons w ws ih=>
  show (Dr w++A0 ws).length=_;rw [Lf,ih,El,J4];omega
def F2 (m:Int)(k:Nat):Int:=wrap .i64 (Ps .u64 (Dw .u64 m (60-4*(k:Int))) 15)
theorem Qb (m:Int)(k:Nat):0<=F2 m k∧F2 m k<=15:=by
 have:=Am0 (a:=Dw .u64 m (60-4*(k:Int))) (m:=15) (by omega) (by omega)
 unfold F2;rw [Ak (by omega) (by omega)]
 exact this
def Im (m:Int):Nat->Int
 |0=>0
 |k+1=>Im m k+(15-F2 m k)
theorem Jc (m:Int):∀k,0<=Im m k∧Im m k<=15*k
 |0=>by simp [Im]
 |k+1=>by
  have h1:=Jc m k;have h2:=Qb m k;simp only [Im];omega
def NT (m:Int):List Int:=(List.range 16).map (F2 m)++[Im m 16 / 16,Im m 16 % 16]
def dg (m:Int)(k:Nat):Int:=(NT m).getD k 0
theorem Ab7 (m:Int):(NT m).length=18:=rfl
theorem Aky {m x:Int}(h:x∈NT m):0<=x∧x<=15:=by
 have hs:=Jc m 16;unfold NT at h;rcases List.mem_append.1 h with h|h
 ·obtain ⟨k,_,rfl⟩:=List.mem_map.1 h;exact Qb m k
 ·simp at h;rcases h with rfl|rfl<;>omega
theorem Rj (m:Int)(k:Nat):0<=dg m k∧dg m k<=15:=by
 unfold dg;rw [List.getD_eq_getElem?_getD];cases h:(NT m)[k]? with
 |none=>simp
 |some x=>exact Aky (List.mem_of_getElem? h)
def dl (m:Int)(i:Nat):List Int:=(List.range i).map (F2 m)++List.replicate (18-i) 0
theorem ZE (m:Int){i:Nat}(h:i<=18):(dl m i).length=18:=by simp [dl];omega
theorem Aro (m:Int){i:Nat}(h:i<18):(dl m (i+1))[i]?=some (F2 m i):=by
 unfold dl;rw [List.getElem?_append_left (by simp)]
 simp
theorem Am7 (m:Int){i:Nat}(h:i<18):(dl m i).set i (F2 m i)=dl m (i+1):=by
 unfold dl;rw [List.set_append_right _ _ (by simp),List.length_map,List.length_range,Nat.sub_self,show 18-i=(18-(i+1))+1 by omega,List.replicate_succ,List.set_cons_zero,List.range_succ,List.map_append,Zzv]
 rfl
def Pt (leaf chain:Int):Nat->Int->Int->Int
 |0,_,x=>x
 |k+1,p,x=>Pt leaf chain k (p+1) (Ml 1 (A0 [wrap .u64 leaf,wrap .u64 chain,wrap .u64 p,x]))
theorem UG (leaf chain:Int):∀(k j:Nat)(p x:Int),Pt leaf chain (k+j) p x=Pt leaf chain j (p+k) (Pt leaf chain k p x)
 |0,j,p,x=>by simp [Pt]
 |k+1,j,p,x=>by
  rw [show k+1+j=(k+j)+1 by omega]
  simp only [Pt];rw [UG leaf chain k j]
  congr 1
  omega
def Xx (leaf:Int)(E:List Int):Int:=Ml 2 (A0 (wrap .u64 leaf::E))
def Wp (leaf m:Int)(s:List Int)(k:Nat):Int:=Pt leaf k (15-dg m k).toNat (dg m k) (s.getD k 0)
def ML (leaf m:Int)(s:List Int):List Int:=(List.range 18).map (Wp leaf m s)
def TZ (leaf m:Int)(s:List Int):Int:=Xx leaf (ML leaf m s)
def el (leaf m:Int)(s:List Int)(i:Nat):List Int:=(List.range i).map (Wp leaf m s)++List.replicate (18-i) 0
theorem Ajn (leaf m:Int)(s:List Int){i:Nat}(h:i<=18):(el leaf m s i).length=18:=by simp [el];omega
theorem Am1 (leaf m:Int)(s:List Int){i:Nat}(h:i<18):(el leaf m s i).set i (Wp leaf m s i)=el leaf m s (i+1):=by
 unfold el;rw [List.set_append_right _ _ (by simp),List.length_map,List.length_range,Nat.sub_self,show 18-i=(18-(i+1))+1 by omega,List.replicate_succ,List.set_cons_zero,List.range_succ,List.map_append,Zzv]
 rfl
theorem Arg (leaf m:Int)(s:List Int):el leaf m s 18=ML leaf m s:=by
 unfold el ML;simp
end
section
open Go.IntKind (wrap)
set_option maxRecDepth 20000
section
variable {fu d:Nat} {xs:FuncId->Option (List PV->Option At)}
theorem Af7 {ws:List Int}(hl:ws.length<=100)(hfu:1000<=fu)(dom:Int):Ae (CX xs) Tryz.prog fu (d+5) Qx [.sc (.int .i64 dom),.lst false 1 (A0 ws).length (Af .u8 (A0 ws))]=some ⟨[.sc (.int .u64 (Ml dom (A0 ws)))],[]⟩:=
 Abz (Q2 ws) (by rw [Db];omega) (by omega) (by rw [Db];omega) dom
theorem YJ {leaf chain:Int}{a0 a1 a2 a3 a4:Int}(hfu:1000<=fu){t:Int}(ht:t<=15):∀(k nn:Nat)(p x:Int),(k:Int)=t-p->0<=p->k<nn ->
  Jv fu (Ae (CX xs) Tryz.prog fu (d+5)) a0 a1 a2 a3 a4 nn leaf chain x t p=some ⟨[.sc (.int .u64 (Pt leaf chain k p x))],[]⟩
 |_,0,_,_,_,_,h=>by omega
 |0,nn+1,p,x,hk,hp,hn=>by
  rw [Rw,Da _ _ _ (by omega)]
  rfl
 |k+1,nn+1,p,x,hk,hp,hn=>by
  have w:wrap .i64 (p+1)=p+1:=Ak (by omega) (by omega)
  have wd:Ae (CX xs) Tryz.prog fu (d+5) Fc [.lst false 1 4 [.sc (.int .u64 (wrap .u64 leaf)),.sc (.int .u64 (wrap .u64 chain)),.sc (.int .u64 (wrap .u64 p)),.sc (.int .u64 x)]]=_:=Oe (ws:=[wrap .u64 leaf,wrap .u64 chain,wrap .u64 p,x]) (by simp) (by omega) (by simp;omega)
  have hs:=Af7 (xs:=xs) (fu:=fu) (d:=d) (ws:=[wrap .u64 leaf,wrap .u64 chain,wrap .u64 p,x]) (by simp) hfu 1
  have ih:=YJ (leaf:=leaf) (chain:=chain) (a0:=a0) (a1:=a1) (a2:=a2) (a3:=a3) (a4:=a4) hfu ht k nn (p+1) (Ml 1 (A0 [wrap .u64 leaf,wrap .u64 chain,wrap .u64 p,x])) (by omega) (by omega) (by omega)
  have L:=Aj .u8 (A0 [wrap .u64 leaf,wrap .u64 chain,wrap .u64 p,x]);have eR:Pt leaf chain (k+1) p x=Pt leaf chain k (p+1) (Ml 1 (A0 [wrap .u64 leaf,wrap .u64 chain,wrap .u64 p,x])):=rfl;rw [eR];generalize A0 [wrap .u64 leaf,wrap .u64 chain,wrap .u64 p,x]=W at wd hs ih L ⊢;rw [Rw];simp (disch:=omega) only [Br,wd,Cc,C3,Es,Jf,L,hs,w];exact ih
theorem YU {leaf chain:Int}(hfu:1000<=fu)(k:Nat)(f t x:Int)(hk:(k:Int)=t-f) (h0:0<=f)(h1:t<=15):Ae (CX xs) Tryz.prog fu (d+6) Xs [.sc (.int .i64 leaf),.sc (.int .i64 chain),.sc (.int .i64 f),.sc (.int .i64 t),.sc (.int .u64 x)]=some ⟨[.sc (.int .u64 (Pt leaf chain k f x))],[]⟩:=by
 rw [NB];simp only [Gw];rw [A6 (by omega),A6 (by omega)]
 exact YJ hfu h1 k fu f x hk h0 (by omega)
theorem GE {call:Ai}{a0 m:Int}{y3:List PV}:∀(k i nn:Nat),i+k=16->k<nn ->
  Ft fu call a0 nn m (Im m i) i y3 (Af .i64 (dl m i))=Ft fu call a0 (nn-k) m (Im m 16) 16 y3 (Af .i64 (dl m 16))
 |_,_,0,_,h=>by omega
 |0,i,nn+1,hi,hn=>by
  have e:i=16:=by omega
  subst e;rfl
 |k+1,i,nn+1,hi,hn=>by
  have ih:=GE (call:=call) (a0:=a0) (y3:=y3) (m:=m) k (i+1) nn (by omega) (by omega)
  have hb:=Qb m i;have hs:=Jc m i;have w:wrap .i64 ((i:Int)+1)=((i+1:Nat):Int):=by rw [Ak (by omega) (by omega)];omega
  have w4:wrap .i64 (4*(i:Int))=4*(i:Int):=Ak (by omega) (by omega)
  have w60:wrap .i64 (60-4*(i:Int))=60-4*(i:Int):=Ak (by omega) (by omega)
  have hd:wrap .i64 (Ps .u64 (Dw .u64 m (60-4*(i:Int))) 15)=F2 m i:=rfl;have w15:wrap .i64 (15-F2 m i)=15-F2 m i:=Ak (by omega) (by omega)
  have ws:wrap .i64 (Im m i+(15-F2 m i))=Im m (i+1):=by rw [Ak (by omega) (by omega)];rfl
  have L:(Af .i64 (dl m i)).length=18:=by rw [Aj,ZE m (by omega)]
  have hset:Bf (Af .i64 (dl m i)) [.sc (.int .i64 (F2 m i))] i=Af .i64 (dl m (i+1)):=by
   rw [Fa (by omega),Ju,Am7 m (by omega)]
  have hat:(Af .i64 (dl m (i+1))).getD i .top=.sc (.int .i64 (F2 m i)):=Uh (Aro m (by omega))
  rw [show nn+1-(k+1)=nn-k by omega,←ih,Nf]
  simp (disch:=omega) only [Br,H2,Cc,C3,w,w4,w60,hd,L,hset,hat,w15,ws]
theorem QZ (hfu:1000<=fu)(m:Int):Ae (CX xs) Tryz.prog fu (d+1) Sb [.sc (.int .u64 m)]=some ⟨[.agg (Af .i64 (NT m))],[]⟩:=by
 rw [DH];have lp:=GE (fu:=fu) (call:=Ae (CX xs) Tryz.prog fu d) (a0:=m) (m:=m) (y3:=Af .i64 (List.replicate 18 0)) 16 0 fu (by omega) (by omega)
 obtain ⟨f',hf'⟩:∃f',fu-16=f'+1:=⟨fu-17,by omega⟩
 rw [hf'] at lp;refine Eq.trans lp ?_;have hs:=Jc m 16
 have wq:wrap .i64 (Int.tdiv (Im m 16) 16)=Im m 16 / 16:=by
  rw [Int.tdiv_eq_ediv_of_nonneg (by omega),Ak (by omega) (by omega)]
 have wm:Int.tmod (Im m 16) 16=Im m 16 % 16:=Int.tmod_eq_emod_of_nonneg (by omega)
 have L:(Af .i64 (dl m 16)).length=18:=by rw [Aj,ZE m (by omega)]
 have h1:Bf (Af .i64 (dl m 16)) [.sc (.int .i64 (Im m 16 / 16))] 16=Af .i64 ((dl m 16).set 16 (Im m 16 / 16)):=by
  rw [Fa (by omega),Ju]
 have L2:(Af .i64 ((dl m 16).set 16 (Im m 16 / 16))).length=18:=by rw [Aj,List.length_set,ZE m (by omega)]
 have h2:Bf (Af .i64 ((dl m 16).set 16 (Im m 16 / 16))) [.sc (.int .i64 (Im m 16 % 16))] 17=Af .i64 (NT m):=by
  rw [Fa (by omega),Ju]
  rfl
 rw [Nf,Da _ _ _ (by omega)]
 simp only [Gw,wq,wm,L,h1,L2,h2];generalize hq:Im m 16 / 16=q at *
 generalize hr:Im m 16 % 16=r at *
 have hD:Af .i64 (NT m)=[.sc (.int .i64 (F2 m 0)),.sc (.int .i64 (F2 m 1)),.sc (.int .i64 (F2 m 2)),.sc (.int .i64 (F2 m 3)),.sc (.int .i64 (F2 m 4)),.sc (.int .i64 (F2 m 5)),.sc (.int .i64 (F2 m 6)),.sc (.int .i64 (F2 m 7)),.sc (.int .i64 (F2 m 8)),.sc (.int .i64 (F2 m 9)),.sc (.int .i64 (F2 m 10)),.sc (.int .i64 (F2 m 11)),.sc (.int .i64 (F2 m 12)),.sc (.int .i64 (F2 m 13)),.sc (.int .i64 (F2 m 14)),.sc (.int .i64 (F2 m 15)),.sc (.int .i64 q),.sc (.int .i64 r)]:=by
  unfold NT;rw [hq,hr];rfl
 rw [hD];have hr18:(Af .i64 (List.replicate 18 0)).length=18:=rfl
 have hsp:∀c:List PV,c.length=18->Bf (Af .i64 (List.replicate 18 0)) c 0=c:=by
  intro c hc;unfold Bf;rw [hc,List.drop_of_length_le (by rw [hr18];omega)]
  simp
 rw [Xa (hnn:=by omega)]
 simp only [Br,List.getD_cons_zero,List.getD_cons_succ,hr18];rw [hsp _ rfl];simp (disch:=omega) only [Br,Xj,List.getD_cons_zero,List.getD_cons_succ]
theorem JY (hfu:1000<=fu)(leaf:Int){E:List Int}(hE:E.length=18):Ae (CX xs) Tryz.prog fu (d+6) Qp [.sc (.int .i64 leaf),.agg (Af .u64 E)]=some ⟨[.sc (.int .u64 (Xx leaf E))],[]⟩:=by
 match E,hE with
 |[e0,e1,e2,e3,e4,e5,e6,e7,e8,e9,e10,e11,e12,e13,e14,e15,e16,e17],_=>
  have wd:Ae (CX xs) Tryz.prog fu (d+5) Fc [.lst false 1 19 [.sc (.int .u64 (wrap .u64 leaf)),.sc (.int .u64 e0),.sc (.int .u64 e1),.sc (.int .u64 e2),.sc (.int .u64 e3),.sc (.int .u64 e4),.sc (.int .u64 e5),.sc (.int .u64 e6),.sc (.int .u64 e7),.sc (.int .u64 e8),.sc (.int .u64 e9),.sc (.int .u64 e10),.sc (.int .u64 e11),.sc (.int .u64 e12),.sc (.int .u64 e13),.sc (.int .u64 e14),.sc (.int .u64 e15),.sc (.int .u64 e16),.sc (.int .u64 e17)]]=_:=Oe (ws:=wrap .u64 leaf::[e0,e1,e2,e3,e4,e5,e6,e7,e8,e9,e10,e11,e12,e13,e14,e15,e16,e17]) (by simp) (by omega) (by simp;omega)
  have hs:=Af7 (xs:=xs) (fu:=fu) (d:=d) (ws:=wrap .u64 leaf::[e0,e1,e2,e3,e4,e5,e6,e7,e8,e9,e10,e11,e12,e13,e14,e15,e16,e17]) (by simp) hfu 2
  have L:=Aj .u8 (A0 (wrap .u64 leaf::[e0,e1,e2,e3,e4,e5,e6,e7,e8,e9,e10,e11,e12,e13,e14,e15,e16,e17]));have eR:Xx leaf [e0,e1,e2,e3,e4,e5,e6,e7,e8,e9,e10,e11,e12,e13,e14,e15,e16,e17]=Ml 2 (A0 (wrap .u64 leaf::[e0,e1,e2,e3,e4,e5,e6,e7,e8,e9,e10,e11,e12,e13,e14,e15,e16,e17])):=rfl;rw [eR];generalize A0 (wrap .u64 leaf::[e0,e1,e2,e3,e4,e5,e6,e7,e8,e9,e10,e11,e12,e13,e14,e15,e16,e17])=W at wd hs L ⊢;refine (CK fu (d+5) leaf e0 e1 e2 e3 e4 e5 e6 e7 e8 e9 e10 e11 e12 e13 e14 e15 e16 e17).trans ?_;simp (disch:=omega) only [Br,wd,Cc,C3,Es,Jf,L,hs]
theorem Alx (g:Nat->Int){i:Nat}(hi:i<18):List.getD [PV.sc (.int .i64 (g 0)),PV.sc (.int .i64 (g 1)),PV.sc (.int .i64 (g 2)),PV.sc (.int .i64 (g 3)),PV.sc (.int .i64 (g 4)),PV.sc (.int .i64 (g 5)),PV.sc (.int .i64 (g 6)),PV.sc (.int .i64 (g 7)),PV.sc (.int .i64 (g 8)),PV.sc (.int .i64 (g 9)),PV.sc (.int .i64 (g 10)),PV.sc (.int .i64 (g 11)),PV.sc (.int .i64 (g 12)),PV.sc (.int .i64 (g 13)),PV.sc (.int .i64 (g 14)),PV.sc (.int .i64 (g 15)),PV.sc (.int .i64 (g 16)),PV.sc (.int .i64 (g 17))] i PV.top=.sc (.int .i64 (g i)):=by
 have:((List.range 18).map g)[i]?=some (g i):=by simp [hi]
 exact Uh (k:=.i64) this
theorem CF {a0 a1:Int}{a2n:Nat}{a2:List PV}{leaf m:Int}{s:List Int}(hs:s.length=18)(hfu:1000<=fu)(g:Nat->Int)(hg:∀k,g k=dg m k):∀(k i nn:Nat),i+k=18->k<nn ->
  Ec fu (Ae (CX xs) Tryz.prog fu (d+6)) a0 a1 a2n a2 nn leaf s.length (Af .u64 s) (g 0) (g 1) (g 2) (g 3) (g 4) (g 5) (g 6) (g 7) (g 8) (g 9) (g 10) (g 11) (g 12) (g 13) (g 14) (g 15) (g 16) (g 17) i (Af .u64 (el leaf m s i)) =
   Ec fu (Ae (CX xs) Tryz.prog fu (d+6)) a0 a1 a2n a2 (nn-k) leaf s.length (Af .u64 s) (g 0) (g 1) (g 2) (g 3) (g 4) (g 5) (g 6) (g 7) (g 8) (g 9) (g 10) (g 11) (g 12) (g 13) (g 14) (g 15) (g 16) (g 17) 18 (Af .u64 (el leaf m s 18))
 |_,_,0,_,h=>by omega
 |0,i,nn+1,hi,hn=>by
  have e:i=18:=by omega
  subst e;rfl
 |k+1,i,nn+1,hi,hn=>by
  have ih:=CF (a0:=a0) (a1:=a1) (a2n:=a2n) (a2:=a2) (leaf:=leaf) (m:=m) hs hfu g hg k (i+1) nn (by omega) (by omega)
  obtain ⟨x,hx⟩:∃x,s[i]?=some x:=⟨_,List.getElem?_eq_getElem (by omega)⟩
  have hb:=Rj m i;have hgi:=Alx g (i:=i) (by omega)
  have w:wrap .i64 ((i:Int)+1)=((i+1:Nat):Int):=by rw [Ak (by omega) (by omega)];omega
  have rn:=YU (xs:=xs) (fu:=fu) (d:=d) (leaf:=leaf) (chain:=i) hfu (15-dg m i).toNat (g i) 15 x (by rw [hg];omega) (by rw [hg];omega) (by omega)
  have ev:Pt leaf i (15-dg m i).toNat (g i) x=Wp leaf m s i:=by
   unfold Wp;rw [List.getD_eq_getElem?_getD,hx,hg];rfl
  rw [ev] at rn;have L:(Af .u64 (el leaf m s i)).length=18:=by rw [Aj,Ajn leaf m s (by omega)]
  have hset:Bf (Af .u64 (el leaf m s i)) [.sc (.int .u64 (Wp leaf m s i))] i=Af .u64 (el leaf m s (i+1)):=by
   rw [Fa (by omega),Ju,Am1 leaf m s (by omega)]
  rw [show nn+1-(k+1)=nn-k by omega,←ih,Mo]
  simp (disch:=omega) only [Br,H2,Cc,C3,hgi,Uh hx,rn,L,hset,w]
theorem YC (hfu:1000<=fu){a0 a1 leaf:Int}{a2n n nn:Nat}{a2 c:List PV}{g:Nat->Int}{E:List Int}(hE:E.length=18):
  Ec fu (Ae (CX xs) Tryz.prog fu (d+6)) a0 a1 a2n a2 (nn+1) leaf n c (g 0) (g 1) (g 2) (g 3) (g 4) (g 5) (g 6) (g 7) (g 8) (g 9) (g 10) (g 11) (g 12) (g 13) (g 14) (g 15) (g 16) (g 17) 18 (Af .u64 E)=some ⟨[.sc (.int .u64 (Xx leaf E)),.sc (.int .i64 0)],[]⟩:=by
 match E,hE with
 |[e0,e1,e2,e3,e4,e5,e6,e7,e8,e9,e10,e11,e12,e13,e14,e15,e16,e17],hE=>
  have cb:=JY (xs:=xs) (fu:=fu) (d:=d) hfu leaf hE;have hc:Af .u64 [e0,e1,e2,e3,e4,e5,e6,e7,e8,e9,e10,e11,e12,e13,e14,e15,e16,e17]=[.sc (.int .u64 e0),.sc (.int .u64 e1),.sc (.int .u64 e2),.sc (.int .u64 e3),.sc (.int .u64 e4),.sc (.int .u64 e5),.sc (.int .u64 e6),.sc (.int .u64 e7),.sc (.int .u64 e8),.sc (.int .u64 e9),.sc (.int .u64 e10),.sc (.int .u64 e11),.sc (.int .u64 e12),.sc (.int .u64 e13),.sc (.int .u64 e14),.sc (.int .u64 e15),.sc (.int .u64 e16),.sc (.int .u64 e17)]:=rfl;rw [hc] at cb ⊢;generalize Xx leaf [e0,e1,e2,e3,e4,e5,e6,e7,e8,e9,e10,e11,e12,e13,e14,e15,e16,e17]=R at cb ⊢;rw [Mo,Da _ _ _ (by omega)]
  simp (disch:=omega) only [Br,Vc,Ve,List.getD_cons_zero,List.getD_cons_succ,cb]
theorem ZV (hfu:1000<=fu)(leaf m:Int)(s:List Int):Ae (CX xs) Tryz.prog fu (d+7) P7 [.sc (.int .i64 leaf),.sc (.int .u64 m),.lst false 1 s.length (Af .u64 s)]=some ⟨(if s.length=18 then [.sc (.int .u64 (TZ leaf m s)),.sc (.int .i64 0)] else [.sc (.int .u64 0),.sc (.int .i64 4)]),[]⟩:=by
 rw [Z8];by_cases h:s.length=18
 ·have dq:=QZ (xs:=xs) (fu:=fu) (d:=d+5) hfu m;have hD:Af .i64 (NT m)=[.sc (.int .i64 (dg m 0)),.sc (.int .i64 (dg m 1)),.sc (.int .i64 (dg m 2)),.sc (.int .i64 (dg m 3)),.sc (.int .i64 (dg m 4)),.sc (.int .i64 (dg m 5)),.sc (.int .i64 (dg m 6)),.sc (.int .i64 (dg m 7)),.sc (.int .i64 (dg m 8)),.sc (.int .i64 (dg m 9)),.sc (.int .i64 (dg m 10)),.sc (.int .i64 (dg m 11)),.sc (.int .i64 (dg m 12)),.sc (.int .i64 (dg m 13)),.sc (.int .i64 (dg m 14)),.sc (.int .i64 (dg m 15)),.sc (.int .i64 (dg m 16)),.sc (.int .i64 (dg m 17))]:=rfl;rw [hD] at dq;simp only [Ds];rw [B4 h,B4 (by omega)]
  simp only [Br,dq];have lp:=CF (xs:=xs) (fu:=fu) (d:=d) (a0:=leaf) (a1:=m) (a2n:=s.length) (a2:=Af .u64 s) (leaf:=leaf) (m:=m) h hfu (dg m) (fun _=>rfl) 18 0 fu (by omega) (by omega)
  obtain ⟨f',hf'⟩:∃f',fu-18=f'+1:=⟨fu-19,by omega⟩
  rw [hf'] at lp;refine Eq.trans lp ?_;have eE:el leaf m s 18=ML leaf m s:=Arg leaf m s;have hl:(ML leaf m s).length=18:=by rw [←eE,Ajn leaf m s (by omega)]
  have eR:TZ leaf m s=Xx leaf (ML leaf m s):=rfl;rw [eE,eR];exact YC hfu hl
 ·simp only [Ds];rw [A6 h,A6 (by omega)]
end
end
section
open Go.IntKind (wrap)
structure Ky where
 h:Int
 root:Int
structure Sg where
 leaf:Int
 chains:List Int
 path:List Int
def Ky.cells (k:Ky):List PV:=[.sc (.int .i64 k.h),.sc (.int .u64 k.root)]
def Sg.cells (s:Sg):List PV:=[.sc (.int .i64 s.leaf),.lst false 1 s.chains.length (Af .u64 s.chains),.lst false 1 s.path.length (Af .u64 s.path)]
def C2 (h:Int):Bool:=decide (h<0)||decide (h>4)
def Hu (leaf h:Int):Bool:=decide (leaf<0)||decide (leaf>=Gl .i64 1 h)
def Lr (level a b:Int):Int:=Ml 3 (A0 [wrap .u64 level,a,b])
def Vv (leaf:Int):Nat->Int->List Int->Int
 |_,x,[]=>x
 |i,x,s::r=>Vv leaf (i+1) (if Ps .i64 (Dw .i64 leaf i) 1=0 then Lr ((i+1:Nat):Int) x s else Lr ((i+1:Nat):Int) s x) r
def okE (x root:Int):Int:=if x=root then 0 else 15
theorem KC (leaf:Int)(i:Nat)(x:Int):Vv leaf i x []=x:=rfl
theorem Vt (leaf:Int)(i:Nat)(x s:Int)(r:List Int):Vv leaf i x (s::r)=Vv leaf (i+1) (if Ps .i64 (Dw .i64 leaf i) 1=0 then Lr ((i+1:Nat):Int) x s else Lr ((i+1:Nat):Int) s x) r:=rfl
def NL (k:Ky)(m:Int)(s:Sg):Int:=
 if C2 k.h=true then 9 else if Hu s.leaf k.h=true then 9 else if s.chains.length≠18 then 4 else if (s.path.length:Int)≠k.h then 4 else
 okE (Vv s.leaf 0 (TZ s.leaf m s.chains) s.path) k.root
theorem G7 {h:Int}(hh:C2 h=false):0<=h∧h<=4:=by
 unfold C2 at hh;simp at hh;omega
section
variable {fu d:Nat} {xs:FuncId->Option (List PV->Option At)}
theorem Tb (h:Int):Ae (CX xs) Tryz.prog fu (d+1) Jg [.sc (.int .i64 h)]=some ⟨[.sc (.bool (C2 h))],[]⟩:=by
 rw [LD];unfold C2;by_cases h0:h<0
 ·simp only [Br,EB,h0,decide_true,Bool.true_or,if_true]
 ·simp only [Br,EB,h0,decide_false,Bool.false_or,if_false]
theorem Pc (leaf h:Int)(h0:0<=h):Ae (CX xs) Tryz.prog fu (d+1) G9 [.sc (.int .i64 leaf),.sc (.int .i64 h)]=some ⟨[.sc (.bool (Hu leaf h))],[]⟩:=by
 rw [BA];unfold Hu;by_cases hl:leaf<0
 ·simp only [Br,EB,hl,decide_true,Bool.true_or,if_true]
 ·simp (disch:=omega) only [Br,EB,hl,decide_false,Bool.false_or,if_false]
theorem EK (hfu:1000<=fu)(level a b:Int):Ae (CX xs) Tryz.prog fu (d+6) K0 [.sc (.int .i64 level),.sc (.int .u64 a),.sc (.int .u64 b)]=some ⟨[.sc (.int .u64 (Lr level a b))],[]⟩:=by
 have wd:Ae (CX xs) Tryz.prog fu (d+5) Fc [.lst false 1 3 [.sc (.int .u64 (wrap .u64 level)),.sc (.int .u64 a),.sc (.int .u64 b)]]=_:=Oe (ws:=[wrap .u64 level,a,b]) (by simp) (by omega) (by simp;omega)
 have hs:=Af7 (xs:=xs) (fu:=fu) (d:=d) (ws:=[wrap .u64 level,a,b]) (by simp) hfu 3
 have L:=Aj .u8 (A0 [wrap .u64 level,a,b]);rw [DG];unfold Lr;generalize A0 [wrap .u64 level,a,b]=W at wd hs L ⊢;simp (disch:=omega) only [Br,wd,Cc,C3,Es,Jf,L,hs]
theorem FL {a0 a1 a2 a3:Int}{n1 n2 n3 n4:Nat}{c1 c2 c3 c4:List PV}{y5 root leaf:Int}{path:List Int}(hp:path.length<=100)(hfu:1000<=fu):∀(r:List Int)(i nn:Nat)(x:Int),path.drop i=r->r.length<nn->i<=path.length ->
  Fp fu (Ae (CX xs) Tryz.prog fu (d+6)) a0 a1 a2 a3 n1 c1 n2 c2 nn x path.length (Af .u64 path) path.length i y5 root leaf n3 c3 n4 c4=some ⟨[.sc (.int .i64 (okE (Vv leaf i x r) root))],[]⟩
 |_,_,0,_,_,h,_=>by omega
 |[],i,nn+1,x,h,hn,hi=>by
  have:=drop_nil h;rw [M5,Da _ _ _ (by omega),Ds]
  rw [KC];unfold okE;by_cases e:x=root
  ·rw [B4 e,B4 e]
  ·rw [A6 e,A6 e]
 |s::r,i,nn+1,x,h,hn,hi=>by
  obtain ⟨h1,h2,h3⟩:=Ck h;simp only [J4] at hn;have w:wrap .i64 ((i:Int)+1)=((i+1:Nat):Int):=by rw [Ak (by omega) (by omega)];omega
  have ih:=fun x=>FL (a0:=a0) (a1:=a1) (a2:=a2) (a3:=a3) (n1:=n1) (n2:=n2) (n3:=n3) (n4:=n4) (c1:=c1) (c2:=c2) (c3:=c3) (c4:=c4) (y5:=y5) (root:=root) (leaf:=leaf) hp hfu r (i+1) nn x h3 (by omega) (by omega)
  have p1:=EK (xs:=xs) (fu:=fu) (d:=d) hfu ((i+1:Nat):Int) x s;have p2:=EK (xs:=xs) (fu:=fu) (d:=d) hfu ((i+1:Nat):Int) s x;rw [M5,Vt];by_cases hb:Ps .i64 (Dw .i64 leaf i) 1=0
  ·rw [B4 hb,←ih];simp (disch:=omega) only [Br,H2,Cc,Uh h2,Ed,hb,w,p1,if_true]
  ·rw [A6 hb,←ih];simp (disch:=omega) only [Br,H2,Cc,Uh h2,Ed,hb,w,p2,if_false]
theorem Ads (hfu:1000<=fu)(k:Ky)(m:Int)(s:Sg):Ae (CX xs) Tryz.prog fu (d+8) Ra [.agg k.cells,.sc (.int .u64 m),.agg s.cells]=some ⟨[.sc (.int .i64 (NL k m s))],[]⟩:=by
 refine (DY fu (d+7) k.h k.root m s.leaf s.chains.length (Af .u64 s.chains) s.path.length (Af .u64 s.path)).trans ?_;have h1:=Tb (xs:=xs) (fu:=fu) (d:=d+6) k.h;unfold NL;cases c1:C2 k.h
 ·rw [c1] at h1;have hb:=G7 c1;have h2:=Pc (xs:=xs) (fu:=fu) (d:=d+6) s.leaf k.h hb.1;cases c2:Hu s.leaf k.h
  ·rw [c2] at h2;by_cases c3:s.chains.length=18
   ·by_cases c4:(s.path.length:Int)=k.h
    ·have rc:=ZV (xs:=xs) (fu:=fu) (d:=d) hfu s.leaf m s.chains;rw [B4 c3] at rc;have vl:=FL (xs:=xs) (fu:=fu) (d:=d+1) (a0:=k.h) (a1:=k.root) (a2:=m) (a3:=s.leaf) (n1:=s.chains.length) (n2:=s.path.length) (n3:=s.chains.length) (n4:=s.path.length) (c1:=Af .u64 s.chains) (c2:=Af .u64 s.path) (c3:=Af .u64 s.chains) (c4:=Af .u64 s.path) (y5:=k.h) (root:=k.root) (leaf:=s.leaf) (path:=s.path) (by omega) hfu s.path 0 fu (TZ s.leaf m s.chains) rfl (by omega) (by omega)
     rw [A6 (by simp),A6 (by simp),A6 (by omega),A6 (by omega),←vl]
     simp (disch:=omega) only [Br,h1,h2,Ds,rc,if_true,c4];rw [B4 (by omega)]
     rfl
    ·rw [A6 (by simp),A6 (by simp),A6 (by omega),B4 c4]
     simp (disch:=omega) only [Br,h1,h2,Ds,c4,if_false];rw [B4 (by omega)]
   ·rw [A6 (by simp),A6 (by simp),B4 c3]
    simp (disch:=omega) only [Br,h1,h2,Ds];rw [A6 (by omega)]
  ·rw [c2] at h2;rw [A6 (by simp),B4 rfl]
   simp (disch:=omega) only [Br,h1,h2]
 ·rw [c1] at h1;rw [B4 rfl];simp (disch:=omega) only [Br,h1]
def Io (k:Ky):List Int:=wrap .u8 k.h::Dr k.root
def DN (s:Sg):List Int:=wrap .u8 s.leaf::wrap .u8 s.path.length::(A0 s.chains++A0 s.path)
theorem owd (hfu:1000<=fu)(w:Int):Ae (CX xs) Tryz.prog fu (d+1) Fc [.lst false 1 1 [.sc (.int .u64 w)]]=some ⟨[.own 1 8 (Af .u8 (Dr w))],[]⟩:=by
 have:=Oe (xs:=xs) (fu:=fu) (d:=d) (ws:=[w]) (by simp) (by omega) (by simp;omega)
 simp only [A0,List.flatMap_cons,List.flatMap_nil,List.append_nil,J4,Z3,El] at this;exact this
theorem Ae9 (hfu:1000<=fu)(k:Ky):Ae (CX xs) Tryz.prog fu (d+2) M0 [.agg k.cells]=some ⟨(if C2 k.h=true then [.own 1 0 [],.sc (.int .i64 9)] else [.own 1 9 (Af .u8 (Io k)),.sc (.int .i64 0)]),[]⟩:=by
 refine (Xg fu (d+1) k.h k.root).trans ?_;have h1:=Tb (xs:=xs) (fu:=fu) (d:=d) k.h;have wd:=owd (xs:=xs) (fu:=fu) (d:=d) hfu k.root;have L:=Aj .u8 (Dr k.root);rw [El] at L;have t8:List.take 8 (Af .u8 (Dr k.root))=Af .u8 (Dr k.root):=Uf (by omega)
 have t9:List.take 9 ([PV.sc (.int .u8 (wrap .u8 k.h))]++Af .u8 (Dr k.root))=Af .u8 (Io k):=by
  rw [Uf (by rw [Lf,L];simp)]
  rfl
 have L9:([PV.sc (.int .u8 (wrap .u8 k.h))]++Af .u8 (Dr k.root)).length=9:=by rw [Lf,L];rfl
 cases c1:C2 k.h
 ·rw [c1] at h1;rw [A6 (by simp)]
  simp (disch:=omega) only [Br,h1,wd,Cc,C3,Es,L,t8,Nat.reduceAdd,L9,t9]
 ·rw [c1] at h1;rw [B4 rfl];simp (disch:=omega) only [Br,h1]
theorem Ad2 (hfu:1000<=fu)(s:Sg)(hp:s.path.length<=1000000000)(hf:s.path.length<fu):Ae (CX xs) Tryz.prog fu (d+2) Hz [.agg s.cells]=some ⟨(if C2 s.path.length=true then [.own 1 0 [],.sc (.int .i64 9)] else if Hu s.leaf s.path.length=true then [.own 1 0 [],.sc (.int .i64 9)] else if s.chains.length≠18 then [.own 1 0 [],.sc (.int .i64 4)] else [.own 1 (DN s).length (Af .u8 (DN s)),.sc (.int .i64 0)]),[]⟩:=by
 refine (Pr fu (d+1) s.leaf s.chains.length (Af .u64 s.chains) s.path.length (Af .u64 s.path)).trans ?_;have h1:=Tb (xs:=xs) (fu:=fu) (d:=d) s.path.length;cases c1:C2 s.path.length
 ·rw [c1] at h1;have hb:=G7 c1;have h2:=Pc (xs:=xs) (fu:=fu) (d:=d) s.leaf s.path.length hb.1;cases c2:Hu s.leaf s.path.length
  ·rw [c2] at h2;by_cases c3:s.chains.length=18
   ·have w1:=Oe (xs:=xs) (fu:=fu) (d:=d) (ws:=s.chains) (by omega) (by omega) (by omega)
    have w2:=Oe (xs:=xs) (fu:=fu) (d:=d) (ws:=s.path) (by omega) (by omega) (by omega)
    have l1:=Db s.chains;have l2:=Db s.path;have L1:=Aj .u8 (A0 s.chains);have L2:=Aj .u8 (A0 s.path)
    have eB:Af .u8 (DN s)=[PV.sc (.int .u8 (wrap .u8 s.leaf)),PV.sc (.int .u8 (wrap .u8 s.path.length))]++Af .u8 (A0 s.chains)++Af .u8 (A0 s.path):=by
     unfold DN;simp
    have eL:(DN s).length=2+(A0 s.chains).length+(A0 s.path).length:=by
     unfold DN;simp;omega
    rw [A6 (by simp),A6 (by simp),A6 (by omega),eB,eL]
    have t2:List.take (2+(A0 s.chains).length) ([PV.sc (.int .u8 (wrap .u8 s.leaf)),PV.sc (.int .u8 (wrap .u8 s.path.length))]++Af .u8 (A0 s.chains))=[PV.sc (.int .u8 (wrap .u8 s.leaf)),PV.sc (.int .u8 (wrap .u8 s.path.length))]++Af .u8 (A0 s.chains):=Uf (by rw [Lf,L1];simp)
    have t3:List.take (2+(A0 s.chains).length+(A0 s.path).length) ([PV.sc (.int .u8 (wrap .u8 s.leaf)),PV.sc (.int .u8 (wrap .u8 s.path.length))]++Af .u8 (A0 s.chains)++Af .u8 (A0 s.path))=[PV.sc (.int .u8 (wrap .u8 s.leaf)),PV.sc (.int .u8 (wrap .u8 s.path.length))]++Af .u8 (A0 s.chains)++Af .u8 (A0 s.path):=Uf (by rw [Lf,Lf,L1,L2];simp)
    have k2:([PV.sc (.int .u8 (wrap .u8 s.leaf)),PV.sc (.int .u8 (wrap .u8 s.path.length))]++Af .u8 (A0 s.chains)).length=2+(A0 s.chains).length:=by rw [Lf,L1];rfl
    have k3:([PV.sc (.int .u8 (wrap .u8 s.leaf)),PV.sc (.int .u8 (wrap .u8 s.path.length))]++Af .u8 (A0 s.chains)++Af .u8 (A0 s.path)).length=2+(A0 s.chains).length+(A0 s.path).length:=by rw [Lf,k2,L2]
    simp (disch:=omega) only [Br,h1,h2,Ds,w1,w2,Cc,C3,Es,L1,L2,Jf,t2,t3,k2,k3];rw [B4 (by omega)]
   ·rw [A6 (by simp),A6 (by simp),B4 c3]
    simp (disch:=omega) only [Br,h1,h2,Ds];rw [A6 (by omega)]
  ·rw [c2] at h2;rw [A6 (by simp),B4 rfl]
   simp (disch:=omega) only [Br,h1,h2]
 ·rw [c1] at h1;rw [B4 rfl];simp (disch:=omega) only [Br,h1]
def Q1 (l:List Int)(i:Nat):Int:=MG ((l.drop (8*i)).take 8)
def Fe (l:List Int):List Int:=(List.range (l.length / 8)).map (Q1 l)
def wl (l:List Int)(i:Nat):List Int:=(List.range i).map (Q1 l)++List.replicate (l.length / 8-i) 0
theorem Agl (l:List Int){i:Nat}(h:i<=l.length / 8):(wl l i).length=l.length / 8:=by simp [wl];omega
theorem An6 (l:List Int){i:Nat}(h:i<l.length / 8):(wl l i).set i (Q1 l i)=wl l (i+1):=by
 unfold wl;rw [List.set_append_right _ _ (by simp),List.length_map,List.length_range,Nat.sub_self,show l.length / 8-i=(l.length / 8-(i+1))+1 by omega,List.replicate_succ,List.set_cons_zero,List.range_succ,List.map_append,Zzv]
 rfl
theorem Ak2 (l:List Int){i:Nat}(h:i<l.length / 8):(wl l i).set i 0=wl l i:=by
 unfold wl;rw [List.set_append_right _ _ (by simp),List.length_map,List.length_range,Nat.sub_self,show l.length / 8-i=(l.length / 8-(i+1))+1 by omega,List.replicate_succ,List.set_cons_zero]
theorem OK {n m0:Nat}{c:List PV}{l:List Int}(hl:l.length<=1000000){i:Nat}(hi:i<l.length / 8){q:List Int}(hq:q.length<=8):∀(r:List Int)(j nn:Nat)(x:Int),q.drop j=r->r.length<nn->j<=q.length ->
  Hy fu (Ae (CX xs) Tryz.prog fu d) n c m0 nn l.length (Af .u8 l) (l.length / 8) i ((l.length / 8:Nat):Int) i q.length (Af .u8 q) q.length j (Af .u64 ((wl l i).set i x)) =
   Gb fu (Ae (CX xs) Tryz.prog fu d) n c m0 l.length (Af .u8 l) (l.length / 8) ((l.length / 8:Nat):Int) ((i+1:Nat):Int) (Af .u64 ((wl l i).set i (r.foldl Ez x)))
 |_,_,0,_,_,h,_=>by omega
 |[],j,nn+1,x,h,hn,hj=>by
  have:=drop_nil h;have w:wrap .i64 ((i:Int)+1)=((i+1:Nat):Int):=by rw [Ak (by omega) (by omega)];omega
  rw [Pk,Da _ _ _ (by omega)]
  simp only [Gw,w,List.foldl_nil]
 |b::r,j,nn+1,x,h,hn,hj=>by
  obtain ⟨h1,h2,h3⟩:=Ck h;simp only [J4] at hn;have w:wrap .i64 ((j:Int)+1)=((j+1:Nat):Int):=by rw [Ak (by omega) (by omega)];omega
  have L:(Af .u64 ((wl l i).set i x)).length=l.length / 8:=by rw [Aj,List.length_set,Agl l (by omega)]
  have hat:(Af .u64 ((wl l i).set i x)).getD i .top=.sc (.int .u64 x):=Uh (by rw [List.getElem?_set_self (by rw [Agl l (by omega)];omega)])
  have hset:Bf (Af .u64 ((wl l i).set i x)) [.sc (.int .u64 (Ez x b))] i=Af .u64 ((wl l i).set i (Ez x b)):=by
   rw [Fa (by omega),Ju,List.set_set]
  have ih:=OK (n:=n) (m0:=m0) (c:=c) hl hi hq r (j+1) nn (Ez x b) h3 (by omega) (by omega)
  rw [List.foldl_cons,←ih,Pk];simp (disch:=omega) only [Br,H2,Cc,C3,Uh h2,hat,L,w];exact congrArg _ hset
theorem GF {n:Nat}{c:List PV}{l:List Int}(hl:l.length<=1000000)(hfu:100<=fu):∀(k i nn:Nat),i+k=l.length / 8->k<nn ->
  Gb fu (Ae (CX xs) Tryz.prog fu d) n c nn l.length (Af .u8 l) (l.length / 8) ((l.length / 8:Nat):Int) i (Af .u64 (wl l i))=some ⟨[.own 1 (l.length / 8) (Af .u64 (Fe l))],[]⟩
 |_,_,0,_,h=>by omega
 |0,i,nn+1,hi,hn=>by
  have e:i=l.length / 8:=by omega
  subst e;have e2:wl l (l.length / 8)=Fe l:=by unfold wl Fe;simp
  have L:(Af .u64 (Fe l)).length=l.length / 8:=by rw [Aj];simp [Fe]
  have tk:List.take (l.length / 8) (Af .u64 (Fe l))=Af .u64 (Fe l):=Uf (by omega)
  rw [Ol,Da _ _ _ (by omega),e2]
  simp (disch:=omega) only [Br,Cc,L,tk]
 |k+1,i,nn+1,hi,hn=>by
  have ih:=GF (n:=n) (c:=c) hl hfu k (i+1) nn (by omega) (by omega)
  have w8:wrap .i64 (8*(i:Int))=((8*i:Nat):Int):=by rw [Ak (by omega) (by omega)];omega
  have w88:wrap .i64 (((8*i:Nat):Int)+8)=((8*i+8:Nat):Int):=by rw [Ak (by omega) (by omega)];omega
  have e8:8*i+8-8*i=8:=by omega
  have hdl:((l.drop (8*i)).take 8).length=8:=by rw [List.length_take,List.length_drop];omega
  have st:=OK (xs:=xs) (fu:=fu) (d:=d) (n:=n) (m0:=nn) (c:=c) hl (i:=i) (by omega) (q:=(l.drop (8*i)).take 8) (by omega) ((l.drop (8*i)).take 8) 0 fu 0 rfl (by omega) (by omega)
  rw [Ak2 l (by omega),hdl] at st
  have ew:((l.drop (8*i)).take 8).foldl Ez 0=Q1 l i:=rfl;rw [ew,An6 l (by omega),ih] at st
  rw [Ol];simp (disch:=omega) only [Br,H2,Cc,w8,w88,e8,Hx,Ob];exact st
theorem IG (n:Nat):Rn n [.sc (.int .u64 0)]=Af .u64 (List.replicate n 0):=by
 induction n with
 |zero=>rfl
 |succ n ih=>
  show ([PV.sc (.int .u64 0)]::List.replicate n [PV.sc (.int .u64 0)]).flatten=_;rw [List.flatten_cons,List.replicate_succ];show _++Rn n [.sc (.int .u64 0)]=PV.sc (.int .u64 0)::Af .u64 (List.replicate n 0);rw [ih];rfl
theorem DW {l:List Int}(hl:l.length<=1000000)(hfu:100<=fu)(hf:l.length<fu):Ae (CX xs) Tryz.prog fu (d+1) Tp [.lst false 1 l.length (Af .u8 l)]=some ⟨[.own 1 (l.length / 8) (Af .u64 (Fe l))],[]⟩:=by
 rw [HE]
 have w:wrap .i64 (Int.tdiv (l.length:Int) 8)=((l.length / 8:Nat):Int):=by
  rw [Int.tdiv_eq_ediv_of_nonneg (by omega),Ak (by omega) (by omega)]
  omega
 have lp:=GF (xs:=xs) (fu:=fu) (d:=d) (n:=l.length) (c:=Af .u8 l) hl hfu (l.length / 8) 0 fu (by omega) (by omega)
 have e0:wl l 0=List.replicate (l.length / 8) 0:=by unfold wl;simp
 rw [e0] at lp;simp (disch:=omega) only [Br,w,H2,IG,Int.le_refl];exact lp
def IE (l:List Int):Option Ky:=if l.length=9∧C2 (l.getD 0 0)=false then some ⟨l.getD 0 0,Q1 (l.drop 1) 0⟩ else none
def YV (o:Option Ky):List PV:=match o with|some k=>[.agg k.cells,.sc (.int .i64 0)]|none=>[.agg (Ky.mk 0 0).cells,.sc (.int .i64 2)]
theorem Aeu (hfu:1000<=fu){l:List Int}(hb:J2 l):Ae (CX xs) Tryz.prog fu (d+2) M4 [.lst false 1 l.length (Af .u8 l)]=some ⟨YV (IE l),[]⟩:=by
 refine (Xe fu (d+1) l.length (Af .u8 l)).trans ?_;unfold IE;by_cases h9:l.length=9
 ·obtain ⟨x,hx⟩:∃x,l[0]?=some x:=⟨_,List.getElem?_eq_getElem (by omega)⟩
  have hxb:=hb x (List.mem_of_getElem? hx);have wx:wrap .i64 x=x:=Ak (by omega) (by omega)
  have gx:l.getD 0 0=x:=by rw [List.getD_eq_getElem?_getD,hx];rfl
  have h1:=Tb (xs:=xs) (fu:=fu) (d:=d) x;rw [gx];cases c1:C2 x
  ·rw [c1] at h1;have hdl:(l.drop 1).length=8:=by rw [List.length_drop];omega
   have dw:=DW (xs:=xs) (fu:=fu) (d:=d) (l:=l.drop 1) (by omega) (by omega) (by omega)
   rw [hdl] at dw;have hat:(Af .u64 (Fe (l.drop 1))).getD 0 .top=.sc (.int .u64 (Q1 (l.drop 1) 0)):=Uh (by unfold Fe;rw [hdl];rfl)
   have e8:9-1=8:=rfl;have tk:List.take 8 (Af .u8 (l.drop 1))=Af .u8 (l.drop 1):=Uf (by rw [Aj];omega)
   rw [B4 ⟨h9,rfl⟩,h9];simp (disch:=omega) only [Br,Ds,Uh hx,wx,h1,Cc,Hx,e8,tk,dw,hat];rfl
  ·rw [c1] at h1;rw [A6 (by simp),h9]
   simp (disch:=omega) only [Br,Ds,Uh hx,wx,h1];rfl
 ·rw [A6 (by simp [h9])]
  simp (disch:=omega) only [Ds];rw [A6 (by omega)]
  rfl
def sgD (l:List Int):Option Sg:=
 if 2<=l.length∧C2 (l.getD 1 0)=false∧Hu (l.getD 0 0) (l.getD 1 0)=false∧(l.length:Int)=2+8*(18+l.getD 1 0) then some ⟨l.getD 0 0,Fe ((l.drop 2).take 144),Fe (l.drop 146)⟩ else none
def Sg.owned (s:Sg):List PV:=[.sc (.int .i64 s.leaf),.own 1 s.chains.length (Af .u64 s.chains),.own 1 s.path.length (Af .u64 s.path)]
def Acb (o:Option Sg):List PV:=match o with|some s=>[.agg s.owned,.sc (.int .i64 0)]|none=>[.agg (Sg.mk 0 [] []).owned,.sc (.int .i64 2)]
theorem O0 (l:List Int):(Fe l).length=l.length / 8:=by simp [Fe]
theorem Adt (hfu:1000<=fu){l:List Int}(hb:J2 l):Ae (CX xs) Tryz.prog fu (d+2) H0 [.lst false 1 l.length (Af .u8 l)]=some ⟨Acb (sgD l),[]⟩:=by
 refine (Pw fu (d+1) l.length (Af .u8 l)).trans ?_;unfold sgD;by_cases h2:2<=l.length
 ·obtain ⟨x,hx⟩:∃x,l[0]?=some x:=⟨_,List.getElem?_eq_getElem (by omega)⟩
  obtain ⟨y,hy⟩:∃y,l[1]?=some y:=⟨_,List.getElem?_eq_getElem (by omega)⟩
  have hxb:=hb x (List.mem_of_getElem? hx);have hyb:=hb y (List.mem_of_getElem? hy);have wx:wrap .i64 x=x:=Ak (by omega) (by omega)
  have wy:wrap .i64 y=y:=Ak (by omega) (by omega)
  have gx:l.getD 0 0=x:=by rw [List.getD_eq_getElem?_getD,hx];rfl
  have gy:l.getD 1 0=y:=by rw [List.getD_eq_getElem?_getD,hy];rfl
  have h1:=Tb (xs:=xs) (fu:=fu) (d:=d) y;have ho:=Pc (xs:=xs) (fu:=fu) (d:=d) x y (by omega)
  have w1:wrap .i64 (18+y)=18+y:=Ak (by omega) (by omega)
  have w2:wrap .i64 (8*(18+y))=8*(18+y):=Ak (by omega) (by omega)
  have w3:wrap .i64 (2+8*(18+y))=2+8*(18+y):=Ak (by omega) (by omega)
  rw [gx,gy];cases c1:C2 y
  ·rw [c1] at h1;cases c2:Hu x y
   ·rw [c2] at ho;by_cases c3:(l.length:Int)=2+8*(18+y)
    ·have hy4:=G7 c1;have d1:=DW (xs:=xs) (fu:=fu) (d:=d) (l:=(l.drop 2).take 144) (by rw [List.length_take,List.length_drop];omega) (by omega) (by rw [List.length_take,List.length_drop];omega)
     have d2:=DW (xs:=xs) (fu:=fu) (d:=d) (l:=l.drop 146) (by rw [List.length_drop];omega) (by omega) (by rw [List.length_drop];omega)
     have l1:((l.drop 2).take 144).length=144:=by rw [List.length_take,List.length_drop];omega
     have l2:(l.drop 146).length=l.length-146:=List.length_drop;rw [l1] at d1;have L1:(Af .u64 (Fe ((l.drop 2).take 144))).length=18:=by rw [Aj,O0,l1]
     have L2:(Af .u64 (Fe (l.drop 146))).length=(l.length-146) / 8:=by rw [Aj,O0,l2]
     rw [l2] at d2;have t1:List.take (144 / 8) (Af .u64 (Fe ((l.drop 2).take 144)))=Af .u64 (Fe ((l.drop 2).take 144)):=Uf (by omega)
     have t2:List.take ((l.length-146) / 8) (Af .u64 (Fe (l.drop 146)))=Af .u64 (Fe (l.drop 146)):=Uf (by omega)
     have t3:List.take (l.length-146) (l.drop 146)=l.drop 146:=Uf (by omega)
     rw [B4 ⟨h2,rfl,rfl,c3⟩];simp (disch:=omega) only [Br,Ds,Uh hx,Uh hy,wx,wy,h1,ho,w1,w2,w3,Cc,Hx,Ob,d1,d2,t3,L1,L2,t1,t2];rw [B4 c3];simp only [Acb,Sg.owned,O0,l1,l2]
    ·rw [A6 (by simp [c3])]
     simp (disch:=omega) only [Br,Ds,Uh hx,Uh hy,wx,wy,h1,ho,w1,w2,w3];rw [A6 c3];rfl
   ·rw [c2] at ho;rw [A6 (by simp)]
    simp (disch:=omega) only [Br,Ds,Uh hx,Uh hy,wx,wy,h1,ho];rfl
  ·rw [c1] at h1;rw [A6 (by simp)]
   simp (disch:=omega) only [Br,Ds,Uh hx,Uh hy,wx,wy,h1];rfl
 ·rw [A6 (by simp [h2])]
  simp (disch:=omega) only [Br];rfl
end
end
section
open Go.IntKind (wrap)
def EC (seed leaf chain:Int):Int:=Aku seed 1 (A0 [wrap .u64 leaf,wrap .u64 chain])
def Wq (seed leaf:Int)(c:Nat):Int:=Pt leaf c 15 0 (EC seed leaf c)
def Hg (seed leaf:Int):Int:=Xx leaf ((List.range 18).map (Wq seed leaf))
def U0 (seed leaf m:Int)(c:Nat):Int:=Pt leaf c (dg m c).toNat 0 (EC seed leaf c)
def Ie (seed leaf m:Int):List Int:=(List.range 18).map (U0 seed leaf m)
def Bv (seed:Int):Nat->Int->Int
 |0,i=>Hg seed i
 |l+1,i=>Lr ((l+1:Nat):Int) (Bv seed l (2*i)) (Bv seed l (2*i+1))
def J7 (seed:Int)(h:Int):Ky:=if C2 h=true then ⟨0,0⟩ else ⟨h,Bv seed h.toNat 0⟩
def Fb (leaf:Int)(k:Nat):Int:=C8 .i64 (Dw .i64 leaf k) 1
def X8 (seed:Int)(h leaf m:Int):Option Sg:=if C2 h=true then none else if Hu leaf h=true then none else some ⟨leaf,Ie seed leaf m,(List.range h.toNat).map fun k=>Bv seed k (Fb leaf k)⟩
def SW (o:Option Sg):List PV:=match o with|some s=>[.agg s.owned,.sc (.int .i64 0)]|none=>[.agg (Sg.mk 0 [] []).owned,.sc (.int .i64 9)]
end
section
open Go.IntKind (wrap)
set_option maxRecDepth 20000
section
variable {fu d:Nat} {xs:FuncId->Option (List PV->Option At)}
theorem Anc {l:List Int}(hb:J2 l)(hl:l.length<=1099511627776)(hfu:100<=fu)(hf:l.length<fu)(key dom:Int):Ae (CX xs) Tryz.prog fu (d+5) BE [.sc (.int .u64 key),.sc (.int .i64 dom),.lst false 1 l.length (Af .u8 l)]=some ⟨[.sc (.int .u64 (Aku key dom l))],[]⟩:=by
 rw [TS];have s:=Aiu (xs:=xs) (fu:=fu) (d:=d) hb hl hfu hf key (wrap .u64 (1+wrap .u64 dom));simp only [Br,s];rfl
theorem OX (hfu:1000<=fu)(seed leaf chain:Int):Ae (CX xs) Tryz.prog fu (d+6) Rm [.sc (.int .u64 seed),.sc (.int .i64 leaf),.sc (.int .i64 chain)]=some ⟨[.sc (.int .u64 (EC seed leaf chain))],[]⟩:=by
 have wd:Ae (CX xs) Tryz.prog fu (d+5) Fc [.lst false 1 2 [.sc (.int .u64 (wrap .u64 leaf)),.sc (.int .u64 (wrap .u64 chain))]]=_:=Oe (ws:=[wrap .u64 leaf,wrap .u64 chain]) (by simp) (by omega) (by simp;omega)
 have hs:=Anc (xs:=xs) (fu:=fu) (d:=d) (Q2 [wrap .u64 leaf,wrap .u64 chain]) (by rw [Db];simp) (by omega) (by rw [Db];simp;omega) seed 1
 have L:=Aj .u8 (A0 [wrap .u64 leaf,wrap .u64 chain]);rw [EE];unfold EC;generalize A0 [wrap .u64 leaf,wrap .u64 chain]=W at wd hs L ⊢;simp (disch:=omega) only [Br,wd,Cc,C3,Es,Jf,L,hs]
def pl (g:Nat->Int)(i:Nat):List Int:=(List.range i).map g++List.replicate (18-i) 0
theorem Aaf (g:Nat->Int){i:Nat}(h:i<=18):(pl g i).length=18:=by simp [pl];omega
theorem Af6 (g:Nat->Int){i:Nat}(h:i<18):(pl g i).set i (g i)=pl g (i+1):=by
 unfold pl;rw [List.set_append_right _ _ (by simp),List.length_map,List.length_range,Nat.sub_self,show 18-i=(18-(i+1))+1 by omega,List.replicate_succ,List.set_cons_zero,List.range_succ,List.map_append,Zzv]
 rfl
theorem Al1 (g:Nat->Int):pl g 18=(List.range 18).map g:=by simp [pl]
theorem FN {a0 a1 seed leaf:Int}(hfu:1000<=fu):∀(k i nn:Nat),i+k=18->k<nn ->
  Eo fu (Ae (CX xs) Tryz.prog fu (d+6)) a0 a1 nn seed leaf i (Af .u64 (pl (Wq seed leaf) i))=Eo fu (Ae (CX xs) Tryz.prog fu (d+6)) a0 a1 (nn-k) seed leaf 18 (Af .u64 (pl (Wq seed leaf) 18))
 |_,_,0,_,h=>by omega
 |0,i,nn+1,hi,hn=>by
  have e:i=18:=by omega
  subst e;rfl
 |k+1,i,nn+1,hi,hn=>by
  have ih:=FN (a0:=a0) (a1:=a1) (seed:=seed) (leaf:=leaf) hfu k (i+1) nn (by omega) (by omega)
  have w:wrap .i64 ((i:Int)+1)=((i+1:Nat):Int):=by rw [Ak (by omega) (by omega)];omega
  have sc:=OX (xs:=xs) (fu:=fu) (d:=d) hfu seed leaf i;have rn:=YU (xs:=xs) (fu:=fu) (d:=d) (leaf:=leaf) (chain:=i) hfu 15 0 15 (EC seed leaf i) (by omega) (by omega) (by omega)
  have ev:Pt leaf i 15 0 (EC seed leaf i)=Wq seed leaf i:=rfl;rw [ev] at rn;have L:(Af .u64 (pl (Wq seed leaf) i)).length=18:=by rw [Aj,Aaf _ (by omega)]
  have hset:Bf (Af .u64 (pl (Wq seed leaf) i)) [.sc (.int .u64 (Wq seed leaf i))] i=Af .u64 (pl (Wq seed leaf) (i+1)):=by
   rw [Fa (by omega),Ju,Af6 _ (by omega)]
  rw [show nn+1-(k+1)=nn-k by omega,←ih,M9]
  simp (disch:=omega) only [Br,H2,Cc,C3,sc,rn,L,hset,w]
theorem Aas (hfu:1000<=fu){a0 a1 seed leaf:Int}{nn:Nat}{E:List Int}(hE:E.length=18):
  Eo fu (Ae (CX xs) Tryz.prog fu (d+6)) a0 a1 (nn+1) seed leaf 18 (Af .u64 E)=some ⟨[.sc (.int .u64 (Xx leaf E))],[]⟩:=by
 match E,hE with
 |[e0,e1,e2,e3,e4,e5,e6,e7,e8,e9,e10,e11,e12,e13,e14,e15,e16,e17],hE=>
  have cb:=JY (xs:=xs) (fu:=fu) (d:=d) hfu leaf hE;have hc:Af .u64 [e0,e1,e2,e3,e4,e5,e6,e7,e8,e9,e10,e11,e12,e13,e14,e15,e16,e17]=[.sc (.int .u64 e0),.sc (.int .u64 e1),.sc (.int .u64 e2),.sc (.int .u64 e3),.sc (.int .u64 e4),.sc (.int .u64 e5),.sc (.int .u64 e6),.sc (.int .u64 e7),.sc (.int .u64 e8),.sc (.int .u64 e9),.sc (.int .u64 e10),.sc (.int .u64 e11),.sc (.int .u64 e12),.sc (.int .u64 e13),.sc (.int .u64 e14),.sc (.int .u64 e15),.sc (.int .u64 e16),.sc (.int .u64 e17)]:=rfl;rw [hc] at cb ⊢;generalize Xx leaf [e0,e1,e2,e3,e4,e5,e6,e7,e8,e9,e10,e11,e12,e13,e14,e15,e16,e17]=R at cb ⊢;rw [M9,Da _ _ _ (by omega)]
  simp (disch:=omega) only [Br,Ww,Xh,List.getD_cons_zero,List.getD_cons_succ,cb]
theorem Adp (hfu:1000<=fu)(seed leaf:Int):Ae (CX xs) Tryz.prog fu (d+7) Lh [.sc (.int .u64 seed),.sc (.int .i64 leaf)]=some ⟨[.sc (.int .u64 (Hg seed leaf))],[]⟩:=by
 rw [EY];have lp:=FN (xs:=xs) (fu:=fu) (d:=d) (a0:=seed) (a1:=leaf) (seed:=seed) (leaf:=leaf) hfu 18 0 fu (by omega) (by omega)
 obtain ⟨f',hf'⟩:∃f',fu-18=f'+1:=⟨fu-19,by omega⟩
 rw [hf'] at lp;refine Eq.trans lp ?_;rw [Al1];exact Aas hfu (by simp)
theorem OT {a0 a1 a2:Int}{seed leaf m:Int}(hfu:1000<=fu)(g:Nat->Int)(hg:∀k,g k=dg m k):∀(k i nn:Nat),i+k=18->k<nn ->
  Ih fu (Ae (CX xs) Tryz.prog fu (d+6)) a0 a1 a2 nn seed leaf (g 0) (g 1) (g 2) (g 3) (g 4) (g 5) (g 6) (g 7) (g 8) (g 9) (g 10) (g 11) (g 12) (g 13) (g 14) (g 15) (g 16) (g 17) i (Af .u64 (pl (U0 seed leaf m) i)) =
   some ⟨[.own 1 18 (Af .u64 (Ie seed leaf m))],[]⟩
 |_,_,0,_,h=>by omega
 |0,i,nn+1,hi,hn=>by
  have e:i=18:=by omega
  subst e;have L:(Af .u64 (pl (U0 seed leaf m) 18)).length=18:=by rw [Aj,Aaf _ (by omega)]
  have T:List.take 18 (Af .u64 (pl (U0 seed leaf m) 18))=Af .u64 (Ie seed leaf m):=by rw [Uf (by omega),Al1];rfl
  rw [P0,Da _ _ _ (by omega)]
  simp (disch:=omega) only [Br,L,T]
 |k+1,i,nn+1,hi,hn=>by
  have ih:=OT (a0:=a0) (a1:=a1) (a2:=a2) (seed:=seed) (leaf:=leaf) (m:=m) hfu g hg k (i+1) nn (by omega) (by omega)
  have hb:=Rj m i;have hgi:=Alx g (i:=i) (by omega)
  have w:wrap .i64 ((i:Int)+1)=((i+1:Nat):Int):=by rw [Ak (by omega) (by omega)];omega
  have sc:=OX (xs:=xs) (fu:=fu) (d:=d) hfu seed leaf i;have rn:=YU (xs:=xs) (fu:=fu) (d:=d) (leaf:=leaf) (chain:=i) hfu (dg m i).toNat 0 (g i) (EC seed leaf i) (by rw [hg];omega) (by omega) (by rw [hg];omega)
  have ev:Pt leaf i (dg m i).toNat 0 (EC seed leaf i)=U0 seed leaf m i:=rfl;rw [ev] at rn;have L:(Af .u64 (pl (U0 seed leaf m) i)).length=18:=by rw [Aj,Aaf _ (by omega)]
  have hset:Bf (Af .u64 (pl (U0 seed leaf m) i)) [.sc (.int .u64 (U0 seed leaf m i))] i=Af .u64 (pl (U0 seed leaf m) (i+1)):=by
   rw [Fa (by omega),Ju,Af6 _ (by omega)]
  rw [P0];simp (disch:=omega) only [Br,H2,Cc,C3,hgi,sc,rn,L,hset,w];exact ih
theorem Ak9 (hfu:1000<=fu)(seed leaf m:Int):Ae (CX xs) Tryz.prog fu (d+7) Pe [.sc (.int .u64 seed),.sc (.int .i64 leaf),.sc (.int .u64 m)]=some ⟨[.own 1 18 (Af .u64 (Ie seed leaf m))],[]⟩:=by
 rw [LX];have dq:=QZ (xs:=xs) (fu:=fu) (d:=d+5) hfu m;have hD:Af .i64 (NT m)=[.sc (.int .i64 (dg m 0)),.sc (.int .i64 (dg m 1)),.sc (.int .i64 (dg m 2)),.sc (.int .i64 (dg m 3)),.sc (.int .i64 (dg m 4)),.sc (.int .i64 (dg m 5)),.sc (.int .i64 (dg m 6)),.sc (.int .i64 (dg m 7)),.sc (.int .i64 (dg m 8)),.sc (.int .i64 (dg m 9)),.sc (.int .i64 (dg m 10)),.sc (.int .i64 (dg m 11)),.sc (.int .i64 (dg m 12)),.sc (.int .i64 (dg m 13)),.sc (.int .i64 (dg m 14)),.sc (.int .i64 (dg m 15)),.sc (.int .i64 (dg m 16)),.sc (.int .i64 (dg m 17))]:=rfl;rw [hD] at dq;simp only [Br,dq];exact OT (fu:=fu) (d:=d) (a0:=seed) (a1:=leaf) (a2:=m) hfu (dg m) (fun _=>rfl) 18 0 fu (by omega) (by omega)
end
end
section
open Go.IntKind (wrap)
def JN (h leaf:Int):Bool:=C2 h||Hu leaf h
def tkL (h leaf:Int):Int:=if JN h leaf=true then 0 else leaf
def tkC (seed h leaf m:Int):List Int:=if JN h leaf=true then [] else Ie seed leaf m
def tkP (seed h leaf:Int):List Int:=if JN h leaf=true then [] else (List.range h.toNat).map fun k=>Bv seed k (Fb leaf k)
def tkE (h leaf:Int):Int:=if JN h leaf=true then 9 else 0
def Amp (args:List PV):Option At:=
 match args with
 |[.sc (.int .u64 seed),.sc (.int .i64 h),.sc (.int .i64 leaf),.sc (.int .u64 m)]=>
  some ⟨[.agg [.sc (.int .i64 (tkL h leaf)),.lst false 1 (tkC seed h leaf m).length (Af .u64 (tkC seed h leaf m)),.lst false 1 (tkP seed h leaf).length (Af .u64 (tkP seed h leaf))],.sc (.int .i64 (tkE h leaf))],[]⟩
 |_=>none
def Jw (f:FuncId):Option (List PV->Option At):=
 bif Nat.beq f 56 then some IF else
 bif Nat.beq f 133 then some Vj else
 bif Nat.beq f 37 then some Amp else
 bif Nat.beq f 1000000 then some (fun _=>none) else none
abbrev C0:G2:=CX Jw
end
section
open Go.IntKind (wrap)
set_option maxRecDepth 100000
abbrev Md:FuncId:=38
theorem Uz (fu d:Nat)(a0:Int):Ae C0 Tryz.prog fu (d+1) Md [.sc (.int .i64 a0)]=(fun (call:Ai)=>Bb (decide (a0>=0)) (some (At.mk [.sc (.bool (decide (a0<=4)))] [])) (some (At.mk [.sc (.bool false)] []))) (Ae C0 Tryz.prog fu d):=by kernel_rfl
abbrev Nc:FuncId:=95
noncomputable def Fu (fu:Nat)(call:Ai)(a0:Int)(nn:Nat)(y0:Int)(y1:Nat)(y2 y3:Int)(y4:List PV):Option At:=C1 CB Tryz.prog fu call 95 Tryz.f95 (Bw Tryz.f95) [.sc (.int .u64 a0)] [.r,.r,.r,.l,.r,.l] nn ⟨lk [(0,(.sc (.int .u64 y0))),(3,(.view 3 1 0 y1)),(4,(.sc (.int .i64 y2))),(5,(.sc (.int .i64 y3)))],B3 [(3,(.ar false y4))]⟩
theorem Jl (fu:Nat)(call:Ai)(a0:Int)(nn:Nat)(y0:Int)(y1:Nat)(y2 y3:Int)(y4:List PV):Fu fu call a0 (nn+1) y0 y1 y2 y3 y4=(Bb (decide (y3>=0)) (Aa (wrap .i64 (4*y3)) fun x1=>Aa (wrap .u64 x1) fun x2=>Ap (decide (0<=x2))<|Aa (Dw .u64 y0 x2) fun x3=>Aa (Ps .u64 x3 15) fun x4=>Aa (wrap .i64 x4) fun x5=>Ap (decide (y1*1<=y4.length)&&true&&decide ((y1+1)*8<=1099511627776)&&decide (y1+1<=1099511627776))<|Aa (y1+1) fun x6=>Aa (List.take (y1*1) y4++[.sc (.int .i64 x5)]) fun x7=>Aa (wrap .i64 (15-x5)) fun x8=>Aa (wrap .i64 (y2+x8)) fun x9=>Aa (wrap .i64 (y3-1)) fun Ch=>Fu fu call a0 (nn) (y0) x6 x9 Ch x7) (Aa (wrap .i64 (Int.tdiv y2 16)) fun Cm=>Aa (Int.tmod y2 16) fun Dg=>Ap (decide (y1*1<=y4.length)&&true&&decide ((y1+2)*8<=1099511627776)&&decide (y1+2<=1099511627776))<|Aa (y1+2) fun Do=>Aa (List.take (y1*1) y4++[.sc (.int .i64 Cm),.sc (.int .i64 Dg)]) fun Dd=>Ap (decide (Do*1<=Dd.length))<|some (At.mk [.own 1 Do (List.take (Do*1) Dd)] []))):=by kernel_rfl
theorem Xb (fu d:Nat)(a0:Int):Ae C0 Tryz.prog fu (d+1) Nc [.sc (.int .u64 a0)]=(fun (call:Ai)=>Fu fu call a0 (fu) (a0) 0 0 15 ([])) (Ae C0 Tryz.prog fu d):=by kernel_rfl
abbrev Qi:FuncId:=96
noncomputable def Gt (fu:Nat)(call:Ai)(a0 a1:Int)(a2 a3 a4:Int)(nn:Nat)(y0 y1:Int)(y2 y3 y4:Int):Option At:=C1 CB Tryz.prog fu call 96 Tryz.f96 (Bw Tryz.f96) [.sc (.int .i64 a0),.sc (.int .i64 a1),.sc (.int .i64 a2),.sc (.int .i64 a3),.sc (.int .u64 a4)] [.r,.l,.r,.l] nn ⟨lk [(0,(.sc (.int .i64 y0))),(1,(.sc (.int .i64 y1))),(3,(.sc (.int .i64 y2))),(4,(.sc (.int .u64 y3))),(11,(.sc (.int .i64 y4)))],B3 []⟩
theorem Ls (fu:Nat)(call:Ai)(a0 a1:Int)(a2 a3 a4:Int)(nn:Nat)(y0 y1:Int)(y2 y3 y4:Int):Gt fu call a0 a1 a2 a3 a4 (nn+1) y0 y1 y2 y3 y4=(Aa (if 15<y2 then 15 else y2) fun x2=>Bb (decide (y4<x2)) (Aa (wrap .u64 y0) fun x3=>Aa (wrap .u64 y1) fun x4=>Aa (wrap .u64 y4) fun x5=>Ag (call 84 [.lst false 1 4 [.sc (.int .u64 x3),.sc (.int .u64 x4),.sc (.int .u64 x5),.sc (.int .u64 y3)]]) fun x6 x7=>Ac x7<|Ab x6 fun x8 x9=>Ea 1 x8 fun Ch Cm=>Ac x9<|Ap (decide (0+Ch*1<=Cm.length))<|Ag (call 34 [.sc (.int .i64 1),.lst false 1 Ch (List.take (Ch*1) (List.drop 0 Cm))]) fun Dg Do=>Ac Do<|Ab Dg fun Dd Dx=>Ad .u64 Dd fun D5=>Ac Dx<|Aa (wrap .i64 (y4+1)) fun Em=>Gt fu call a0 a1 a2 a3 a4 (nn) (y0) (y1) (y2) D5 Em) (some (At.mk [.sc (.int .u64 y3)] []))):=by kernel_rfl
theorem AA (fu d:Nat)(a0 a1:Int)(a2 a3 a4:Int):Ae C0 Tryz.prog fu (d+1) Qi [.sc (.int .i64 a0),.sc (.int .i64 a1),.sc (.int .i64 a2),.sc (.int .i64 a3),.sc (.int .u64 a4)]=(fun (call:Ai)=>Aa (if a2<0 then 0 else a2) fun x1=>Gt fu call a0 a1 a2 a3 a4 (fu) (a0) (a1) (a3) (a4) x1) (Ae C0 Tryz.prog fu d):=by kernel_rfl
abbrev Ma:FuncId:=97
theorem Up (fu d:Nat)(a0 a1 a2:Int):Ae C0 Tryz.prog fu (d+1) Ma [.sc (.int .u64 a0),.sc (.int .i64 a1),.sc (.int .i64 a2)]=(fun (call:Ai)=>Aa (wrap .u64 a1) fun x1=>Aa (wrap .u64 a2) fun x2=>Ag (call 84 [.lst false 1 2 [.sc (.int .u64 x1),.sc (.int .u64 x2)]]) fun x3 x4=>Ac x4<|Ab x3 fun x5 x6=>Ea 1 x5 fun x7 x8=>Ac x6<|Ap (decide (0+x7*1<=x8.length))<|Ag (call 88 [.sc (.int .u64 a0),.sc (.int .i64 1),.lst false 1 x7 (List.take (x7*1) (List.drop 0 x8))]) fun x9 Ch=>Ac Ch<|Ab x9 fun Cm Dg=>Ad .u64 Cm fun Do=>Ac Dg<|some (At.mk [.sc (.int .u64 Do)] [])) (Ae C0 Tryz.prog fu d):=by kernel_rfl
abbrev Oo:FuncId:=109
theorem Zd (fu d:Nat)(a0:Int)(a1n:Nat)(a1:List PV):Ae C0 Tryz.prog fu (d+1) Oo [.sc (.int .i64 a0),.lst false 1 a1n a1]=(fun (call:Ai)=>Aa (wrap .u64 a0) fun x1=>Ag (call 84 [.lst false 1 1 [.sc (.int .u64 x1)]]) fun x2 x3=>Ac x3<|Ab x2 fun x4 x5=>Ea 1 x4 fun x6 x7=>Ac x5<|Ag (call 84 [.lst false 1 a1n a1]) fun x8 x9=>Ac x9<|Ab x8 fun Ch Cm=>Ea 1 Ch fun Dg Do=>Ac Cm<|Ap (decide (0+Dg*1<=Do.length))<|Ap (decide (x6*1<=x7.length)&&decide (List.length (List.take (Dg*1) (List.drop 0 Do))=Dg*1)&&decide ((x6+Dg)*1<=1099511627776)&&decide (x6+Dg<=1099511627776))<|Aa (x6+Dg) fun Dd=>Aa (List.take (x6*1) x7++List.take (Dg*1) (List.drop 0 Do)) fun Dx=>Ap (decide (0+Dd*1<=Dx.length))<|Ag (call 34 [.sc (.int .i64 2),.lst false 1 Dd (List.take (Dd*1) (List.drop 0 Dx))]) fun D5 Em=>Ac Em<|Ab D5 fun E5 E2=>Ad .u64 E5 fun Fl=>Ac E2<|some (At.mk [.sc (.int .u64 Fl)] [])) (Ae C0 Tryz.prog fu d):=by kernel_rfl
abbrev Ot:FuncId:=78
noncomputable def F5 (fu:Nat)(call:Ai)(a0 a1:Int)(nn:Nat)(y0 y1:Int)(y2:Nat)(y3:Int)(y4:List PV):Option At:=C1 CB Tryz.prog fu call 78 Tryz.f78 (Bw Tryz.f78) [.sc (.int .u64 a0),.sc (.int .i64 a1)] [.r,.r,.l,.r,.l] nn ⟨lk [(0,(.sc (.int .u64 y0))),(1,(.sc (.int .i64 y1))),(5,(.view 5 1 0 y2)),(6,(.sc (.int .i64 y3)))],B3 [(5,(.ar false y4))]⟩
theorem Kn (fu:Nat)(call:Ai)(a0 a1:Int)(nn:Nat)(y0 y1:Int)(y2:Nat)(y3:Int)(y4:List PV):F5 fu call a0 a1 (nn+1) y0 y1 y2 y3 y4=(Bb (decide (y3<18)) (Ag (call 97 [.sc (.int .u64 y0),.sc (.int .i64 y1),.sc (.int .i64 y3)]) fun x1 x2=>Ac x2<|Ab x1 fun x3 x4=>Ad .u64 x3 fun x5=>Ac x4<|Ag (call 96 [.sc (.int .i64 y1),.sc (.int .i64 y3),.sc (.int .i64 0),.sc (.int .i64 15),.sc (.int .u64 x5)]) fun x6 x7=>Ac x7<|Ab x6 fun x8 x9=>Ad .u64 x8 fun Ch=>Ac x9<|Ap (decide (y2*1<=y4.length)&&true&&decide ((y2+1)*8<=1099511627776)&&decide (y2+1<=1099511627776))<|Aa (y2+1) fun Cm=>Aa (List.take (y2*1) y4++[.sc (.int .u64 Ch)]) fun Dg=>Aa (wrap .i64 (y3+1)) fun Do=>F5 fu call a0 a1 (nn) (y0) (y1) Cm Do Dg) (Ap (decide (0+y2*1<=y4.length))<|Ag (call 109 [.sc (.int .i64 y1),.lst false 1 y2 (List.take (y2*1) (List.drop 0 y4))]) fun Dd Dx=>Ac Dx<|Ab Dd fun D5 Em=>Ad .u64 D5 fun E5=>Ac Em<|some (At.mk [.sc (.int .u64 E5)] []))):=by kernel_rfl
theorem Zq (fu d:Nat)(a0 a1:Int):Ae C0 Tryz.prog fu (d+1) Ot [.sc (.int .u64 a0),.sc (.int .i64 a1)]=(fun (call:Ai)=>F5 fu call a0 a1 (fu) (a0) (a1) 0 0 ([])) (Ae C0 Tryz.prog fu d):=by kernel_rfl
abbrev Jo:FuncId:=64
noncomputable def En (fu:Nat)(call:Ai)(a0 a1 a2:Int)(nn:Nat)(y0 y1:Int)(y2 y3:Nat)(y4:Int)(y5 y6:List PV):Option At:=C1 CB Tryz.prog fu call 64 Tryz.f64 (Bw Tryz.f64) [.sc (.int .u64 a0),.sc (.int .i64 a1),.sc (.int .u64 a2)] [.r,.r,.r,.l,.r,.l] nn ⟨lk [(0,(.sc (.int .u64 y0))),(1,(.sc (.int .i64 y1))),(7,(.view 7 1 0 y2)),(8,(.view 8 1 0 y3)),(9,(.sc (.int .i64 y4)))],B3 [(7,(.ar false y5)),(8,(.ar false y6))]⟩
theorem H1 (fu:Nat)(call:Ai)(a0 a1 a2:Int)(nn:Nat)(y0 y1:Int)(y2 y3:Nat)(y4:Int)(y5 y6:List PV):En fu call a0 a1 a2 (nn+1) y0 y1 y2 y3 y4 y5 y6=(Bb (decide (y4<18)) (Ap (decide (0<=y4)&&decide (y4<(↑y2:Int)))<|Ad .i64 (List.getD y5 (0+Int.toNat y4*1) .top) fun x7=>Ag (call 97 [.sc (.int .u64 y0),.sc (.int .i64 y1),.sc (.int .i64 y4)]) fun x8 x9=>Ac x9<|Ab x8 fun Ch Cm=>Ad .u64 Ch fun Dg=>Ac Cm<|Ag (call 96 [.sc (.int .i64 y1),.sc (.int .i64 y4),.sc (.int .i64 0),.sc (.int .i64 x7),.sc (.int .u64 Dg)]) fun Do Dd=>Ac Dd<|Ab Do fun Dx D5=>Ad .u64 Dx fun Em=>Ac D5<|Ap (decide (y3*1<=y6.length)&&true&&decide ((y3+1)*8<=1099511627776)&&decide (y3+1<=1099511627776))<|Aa (y3+1) fun E5=>Aa (List.take (y3*1) y6++[.sc (.int .u64 Em)]) fun E2=>Aa (wrap .i64 (y4+1)) fun Fl=>En fu call a0 a1 a2 (nn) (y0) (y1) (y2) E5 Fl (y5) E2) (Ap (decide (y3*1<=y6.length))<|some (At.mk [.own 1 y3 (List.take (y3*1) y6)] []))):=by kernel_rfl
theorem Sq (fu d:Nat)(a0 a1 a2:Int):Ae C0 Tryz.prog fu (d+1) Jo [.sc (.int .u64 a0),.sc (.int .i64 a1),.sc (.int .u64 a2)]=(fun (call:Ai)=>Ag (call 95 [.sc (.int .u64 a2)]) fun x1 x2=>Ac x2<|Ab x1 fun x3 x4=>Ea 1 x3 fun x5 x6=>Ac x4<|En fu call a0 a1 a2 (fu) (a0) (a1) x5 0 0 x6 ([])) (Ae C0 Tryz.prog fu d):=by kernel_rfl
abbrev Kh:FuncId:=83
noncomputable def Ey (fu:Nat)(call:Ai)(a0 a1:Int)(a2n:Nat)(a2:List PV)(nn:Nat)(y0:Int)(y1:Nat)(y2:List PV)(y3 y4:Nat)(y5:Int)(y6 y7:List PV):Option At:=C1 CB Tryz.prog fu call 83 Tryz.f83 (Bw Tryz.f83) [.sc (.int .i64 a0),.sc (.int .u64 a1),.lst false 1 a2n a2] [.r,.r,.r,.r,.l,.r,.l] nn ⟨lk [(0,(.sc (.int .i64 y0))),(2,(.lst false 1 y1 y2)),(8,(.view 8 1 0 y3)),(9,(.view 9 1 0 y4)),(10,(.sc (.int .i64 y5)))],B3 [(8,(.ar false y6)),(9,(.ar false y7))]⟩
theorem H9 (fu:Nat)(call:Ai)(a0 a1:Int)(a2n:Nat)(a2:List PV)(nn:Nat)(y0:Int)(y1:Nat)(y2:List PV)(y3 y4:Nat)(y5:Int)(y6 y7:List PV):Ey fu call a0 a1 a2n a2 (nn+1) y0 y1 y2 y3 y4 y5 y6 y7=(Bb (decide (y5<18)) (Ap (decide (0<=y5)&&decide (y5<(↑y3:Int)))<|Ad .i64 (List.getD y6 (0+Int.toNat y5*1) .top) fun x7=>Ap (decide (0<=y5)&&decide (y5<(↑y1:Int)))<|Ad .u64 (List.getD y2 (Int.toNat y5*1) .top) fun x8=>Ag (call 96 [.sc (.int .i64 y0),.sc (.int .i64 y5),.sc (.int .i64 x7),.sc (.int .i64 15),.sc (.int .u64 x8)]) fun x9 Ch=>Ac Ch<|Ab x9 fun Cm Dg=>Ad .u64 Cm fun Do=>Ac Dg<|Ap (decide (y4*1<=y7.length)&&true&&decide ((y4+1)*8<=1099511627776)&&decide (y4+1<=1099511627776))<|Aa (y4+1) fun Dd=>Aa (List.take (y4*1) y7++[.sc (.int .u64 Do)]) fun Dx=>Aa (wrap .i64 (y5+1)) fun D5=>Ey fu call a0 a1 a2n a2 (nn) (y0) (y1) (y2) (y3) Dd D5 (y6) Dx) (Ap (decide (0+y4*1<=y7.length))<|Ag (call 109 [.sc (.int .i64 y0),.lst false 1 y4 (List.take (y4*1) (List.drop 0 y7))]) fun Em E5=>Ac E5<|Ab Em fun E2 Fl=>Ad .u64 E2 fun He=>Ac Fl<|some (At.mk [.sc (.int .u64 He),.sc (.int .i64 0)] []))):=by kernel_rfl
theorem Tu (fu d:Nat)(a0 a1:Int)(a2n:Nat)(a2:List PV):Ae C0 Tryz.prog fu (d+1) Kh [.sc (.int .i64 a0),.sc (.int .u64 a1),.lst false 1 a2n a2]=(fun (call:Ai)=>Bb ((↑a2n:Int) != 18) (some (At.mk [.sc (.int .u64 0),.sc (.int .i64 4)] [])) (Ag (call 95 [.sc (.int .u64 a1)]) fun x1 x2=>Ac x2<|Ab x1 fun x3 x4=>Ea 1 x3 fun x5 x6=>Ac x4<|Ey fu call a0 a1 a2n a2 (fu) (a0) (a2n) (a2) x5 0 0 x6 ([]))) (Ae C0 Tryz.prog fu d):=by kernel_rfl
abbrev L6:FuncId:=79
theorem Vd (fu d:Nat)(a0 a1 a2:Int):Ae C0 Tryz.prog fu (d+1) L6 [.sc (.int .i64 a0),.sc (.int .u64 a1),.sc (.int .u64 a2)]=(fun (call:Ai)=>Aa (wrap .u64 a0) fun x1=>Ag (call 84 [.lst false 1 3 [.sc (.int .u64 x1),.sc (.int .u64 a1),.sc (.int .u64 a2)]]) fun x2 x3=>Ac x3<|Ab x2 fun x4 x5=>Ea 1 x4 fun x6 x7=>Ac x5<|Ap (decide (0+x6*1<=x7.length))<|Ag (call 34 [.sc (.int .i64 3),.lst false 1 x6 (List.take (x6*1) (List.drop 0 x7))]) fun x8 x9=>Ac x9<|Ab x8 fun Ch Cm=>Ad .u64 Ch fun Dg=>Ac Cm<|some (At.mk [.sc (.int .u64 Dg)] [])) (Ae C0 Tryz.prog fu d):=by kernel_rfl
abbrev Pa:FuncId:=39
theorem Oy (fu d:Nat)(a0 a1 a2:Int):Ae C0 Tryz.prog fu (d+1) Pa [.sc (.int .u64 a0),.sc (.int .i64 a1),.sc (.int .i64 a2)]=(fun (call:Ai)=>Bb (a1==0) (Ag (call 78 [.sc (.int .u64 a0),.sc (.int .i64 a2)]) fun x1 x2=>Ac x2<|Ab x1 fun x3 x4=>Ad .u64 x3 fun x5=>Ac x4<|some (At.mk [.sc (.int .u64 x5)] [])) (Aa (wrap .i64 (a1-1)) fun x6=>Aa (wrap .i64 (2*a2)) fun x7=>Ag (call 39 [.sc (.int .u64 a0),.sc (.int .i64 x6),.sc (.int .i64 x7)]) fun x8 x9=>Ac x9<|Ab x8 fun Ch Cm=>Ad .u64 Ch fun Dg=>Ac Cm<|Aa (wrap .i64 (a1-1)) fun Do=>Aa (wrap .i64 (2*a2)) fun Dd=>Aa (wrap .i64 (Dd+1)) fun Dx=>Ag (call 39 [.sc (.int .u64 a0),.sc (.int .i64 Do),.sc (.int .i64 Dx)]) fun D5 Em=>Ac Em<|Ab D5 fun E5 E2=>Ad .u64 E5 fun Fl=>Ac E2<|Ag (call 79 [.sc (.int .i64 a1),.sc (.int .u64 Dg),.sc (.int .u64 Fl)]) fun He Gn=>Ac Gn<|Ab He fun Hf Dv=>Ad .u64 Hf fun Df=>Ac Dv<|some (At.mk [.sc (.int .u64 Df)] []))) (Ae C0 Tryz.prog fu d):=by kernel_rfl
abbrev Lu:FuncId:=18
theorem U7 (fu d:Nat)(a0 a1:Int):Ae C0 Tryz.prog fu (d+1) Lu [.sc (.int .u64 a0),.sc (.int .i64 a1)]=(fun (call:Ai)=>Ag (call 38 [.sc (.int .i64 a1)]) fun x1 x2=>Ac x2<|Ab x1 fun x3 x4=>Bm x3 fun x5=>Ac x4<|Bb (!x5) (some (At.mk [.agg [.sc (.int .i64 0),.sc (.int .u64 0)],.sc (.int .i64 9)] [])) (Ag (call 39 [.sc (.int .u64 a0),.sc (.int .i64 a1),.sc (.int .i64 0)]) fun x6 x7=>Ac x7<|Ab x6 fun x8 x9=>Ad .u64 x8 fun Ch=>Ac x9<|some (At.mk [.agg [.sc (.int .i64 a1),.sc (.int .u64 Ch)],.sc (.int .i64 0)] []))) (Ae C0 Tryz.prog fu d):=by kernel_rfl
abbrev Ow:FuncId:=33
noncomputable def F4 (fu:Nat)(call:Ai)(a0 a1:Int)(a2 a3:Int)(nn:Nat)(y0 y1:Int)(y2 y3 y4:Int)(y5 y6:Nat)(y7 y8:List PV)(y9:Int)(y10 Jz:Nat)(Nz Tj:List PV):Option At:=C1 CB Tryz.prog fu call 33 Tryz.f33 (Bw Tryz.f33) [.sc (.int .u64 a0),.sc (.int .i64 a1),.sc (.int .i64 a2),.sc (.int .u64 a3)] [.r,.r,.r,.l,.r,.l] nn ⟨lk [(0,(.sc (.int .u64 y0))),(1,(.sc (.int .i64 y1))),(2,(.sc (.int .i64 y2))),(8,(.ptr 8 0)),(10,(.ptr 10 0)),(11,(.sc (.int .i64 y3)))],B3 [(8,(.st [(.sc (.int .i64 y4)),(.view 112 1 0 y5),(.view 164 1 0 y6)])),(112,(.ar false y7)),(164,(.ar false y8)),(10,(.st [(.sc (.int .i64 y9)),(.view 114 1 0 y10),(.view 166 1 0 Jz)])),(114,(.ar false Nz)),(166,(.ar false Tj))]⟩
theorem J9 (fu:Nat)(call:Ai)(a0 a1:Int)(a2 a3:Int)(nn:Nat)(y0 y1:Int)(y2 y3 y4:Int)(y5 y6:Nat)(y7 y8:List PV)(y9:Int)(y10 Jz:Nat)(Nz Tj:List PV):F4 fu call a0 a1 a2 a3 (nn+1) y0 y1 y2 y3 y4 y5 y6 y7 y8 y9 y10 Jz Nz Tj=(Bb (decide (y3<y1)) (Aa (wrap .u64 y3) fun Dd=>Ap (decide (0<=Dd))<|Aa (Dw .i64 y2 Dd) fun Dx=>Aa (C8 .i64 Dx 1) fun D5=>Ag (call 39 [.sc (.int .u64 y0),.sc (.int .i64 y3),.sc (.int .i64 D5)]) fun Em E5=>Ac E5<|Ab Em fun E2 Fl=>Ad .u64 E2 fun He=>Ac Fl<|Ap (decide (Jz*1<=Tj.length)&&true&&decide ((Jz+1)*8<=1099511627776)&&decide (Jz+1<=1099511627776))<|Aa (Jz+1) fun Gn=>Aa (List.take (Jz*1) Tj++[.sc (.int .u64 He)]) fun Hf=>Aa (wrap .i64 (y3+1)) fun Dv=>F4 fu call a0 a1 a2 a3 (nn) (y0) (y1) (y2) Dv (y4) (y5) (y6) (y7) (y8) (y9) (y10) Gn (Nz) Hf) (Ap (decide (y10*1<=Nz.length))<|Ap (decide (Jz*1<=Tj.length))<|some (At.mk [.agg [.sc (.int .i64 y9),.own 1 y10 (List.take (y10*1) Nz),.own 1 Jz (List.take (Jz*1) Tj)],.sc (.int .i64 0)] []))):=by kernel_rfl
theorem Zf (fu d:Nat)(a0 a1:Int)(a2 a3:Int):Ae C0 Tryz.prog fu (d+1) Ow [.sc (.int .u64 a0),.sc (.int .i64 a1),.sc (.int .i64 a2),.sc (.int .u64 a3)]=(fun (call:Ai)=>Ag (call 38 [.sc (.int .i64 a1)]) fun x1 x2=>Ac x2<|Ab x1 fun x3 x4=>Bm x3 fun x5=>Ac x4<|Bb (!x5) (some (At.mk [.agg [.sc (.int .i64 0),.own 1 0 [],.own 1 0 []],.sc (.int .i64 9)] [])) (Bb (decide (a2<0)) (some (At.mk [.agg [.sc (.int .i64 0),.own 1 0 [],.own 1 0 []],.sc (.int .i64 9)] [])) (Aa (wrap .u64 a1) fun x6=>Ap (decide (0<=x6))<|Aa (Gl .i64 1 x6) fun x7=>Bb (decide (a2>=x7)) (some (At.mk [.agg [.sc (.int .i64 0),.own 1 0 [],.own 1 0 []],.sc (.int .i64 9)] [])) (Ag (call 64 [.sc (.int .u64 a0),.sc (.int .i64 a2),.sc (.int .u64 a3)]) fun x8 x9=>Ac x9<|Ab x8 fun Ch Cm=>Ea 1 Ch fun Dg Do=>Ac Cm<|F4 fu call a0 a1 a2 a3 (fu) (a0) (a1) (a2) 0 0 0 0 ([]) ([]) (a2) Dg 0 Do ([]))))) (Ae C0 Tryz.prog fu d):=by kernel_rfl
abbrev L7:FuncId:=42
noncomputable def D7 (fu:Nat)(call:Ai)(a0_0 a0_1:Int)(a1 Nw:Int)(Hj:Nat)(Qs:List PV)(Hk:Nat)(Rb:List PV)(nn:Nat)(y0 y1:Int)(y2 y3 y4:Int)(y5:Nat)(y6:List PV)(y7:Nat)(y8:List PV):Option At:=C1 CB Tryz.prog fu call 42 Tryz.f42 (Bw Tryz.f42) [.agg [.sc (.int .i64 a0_0),.sc (.int .u64 a0_1)],.sc (.int .u64 a1),.agg [.sc (.int .i64 Nw),.lst false 1 Hj Qs,.lst false 1 Hk Rb]] [.r,.r,.r,.r,.l,.r,.l] nn ⟨lk [(3,(.ptr 3 0)),(5,(.ptr 5 0)),(7,(.sc (.int .u64 y0))),(9,(.sc (.int .i64 y1)))],B3 [(3,(.st [(.sc (.int .i64 y2)),(.sc (.int .u64 y3))])),(5,(.st [(.sc (.int .i64 y4)),(.lst false 1 y5 y6),(.lst false 1 y7 y8)]))]⟩
theorem I0 (fu:Nat)(call:Ai)(a0_0 a0_1:Int)(a1 Nw:Int)(Hj:Nat)(Qs:List PV)(Hk:Nat)(Rb:List PV)(nn:Nat)(y0 y1:Int)(y2 y3 y4:Int)(y5:Nat)(y6:List PV)(y7:Nat)(y8:List PV):D7 fu call a0_0 a0_1 a1 Nw Hj Qs Hk Rb (nn+1) y0 y1 y2 y3 y4 y5 y6 y7 y8=(Bb (decide (y1<y2)) (Aa (wrap .u64 y1) fun D5=>Ap (decide (0<=D5))<|Aa (Dw .i64 y4 D5) fun Em=>Aa (Ps .i64 Em 1) fun E5=>Bb (E5==0) (Aa (wrap .i64 (y1+1)) fun E2=>Ap (decide (0<=y1)&&decide (y1<(↑y7:Int)))<|Ad .u64 (List.getD y8 (Int.toNat y1*1) .top) fun Fl=>Ag (call 79 [.sc (.int .i64 E2),.sc (.int .u64 y0),.sc (.int .u64 Fl)]) fun He Gn=>Ac Gn<|Ab He fun Hf Dv=>Ad .u64 Hf fun Df=>Ac Dv<|Aa (wrap .i64 (y1+1)) fun Fw=>D7 fu call a0_0 a0_1 a1 Nw Hj Qs Hk Rb (nn) Df Fw (y2) (y3) (y4) (y5) (y6) (y7) (y8)) (Aa (wrap .i64 (y1+1)) fun Hs=>Ap (decide (0<=y1)&&decide (y1<(↑y7:Int)))<|Ad .u64 (List.getD y8 (Int.toNat y1*1) .top) fun Ev=>Ag (call 79 [.sc (.int .i64 Hs),.sc (.int .u64 Ev),.sc (.int .u64 y0)]) fun Jd Lq=>Ac Lq<|Ab Jd fun J1 Mk=>Ad .u64 J1 fun Lm=>Ac Mk<|Aa (wrap .i64 (y1+1)) fun Mt=>D7 fu call a0_0 a0_1 a1 Nw Hj Qs Hk Rb (nn) Lm Mt (y2) (y3) (y4) (y5) (y6) (y7) (y8))) (Bb (y0 != y3) (some (At.mk [.sc (.int .i64 15)] [])) (some (At.mk [.sc (.int .i64 0)] [])))):=by kernel_rfl
theorem Va (fu d:Nat)(a0_0 a0_1:Int)(a1 Nw:Int)(Hj:Nat)(Qs:List PV)(Hk:Nat)(Rb:List PV):Ae C0 Tryz.prog fu (d+1) L7 [.agg [.sc (.int .i64 a0_0),.sc (.int .u64 a0_1)],.sc (.int .u64 a1),.agg [.sc (.int .i64 Nw),.lst false 1 Hj Qs,.lst false 1 Hk Rb]]=(fun (call:Ai)=>Ag (call 38 [.sc (.int .i64 a0_0)]) fun x1 x2=>Ac x2<|Ab x1 fun x3 x4=>Bm x3 fun x5=>Ac x4<|Bb (!x5) (some (At.mk [.sc (.int .i64 9)] [])) (Bb (decide (Nw<0)) (some (At.mk [.sc (.int .i64 9)] [])) (Aa (wrap .u64 a0_0) fun x6=>Ap (decide (0<=x6))<|Aa (Gl .i64 1 x6) fun x7=>Bb (decide (Nw>=x7)) (some (At.mk [.sc (.int .i64 9)] [])) (Bb ((↑Hj:Int) != 18) (some (At.mk [.sc (.int .i64 4)] [])) (Bb ((↑Hk:Int) != a0_0) (some (At.mk [.sc (.int .i64 4)] [])) (Ag (call 83 [.sc (.int .i64 Nw),.sc (.int .u64 a1),.lst false 1 Hj Qs]) fun x8 x9=>Ac x9<|Ab x8 fun Ch Cm=>Ad .u64 Ch fun Dg=>Ab Cm fun Do Dd=>Ad .i64 Do fun Dx=>Ac Dd<|D7 fu call a0_0 a0_1 a1 Nw Hj Qs Hk Rb (fu) Dg 0 (a0_0) (a0_1) (Nw) (Hj) (Qs) (Hk) (Rb))))))) (Ae C0 Tryz.prog fu d):=by kernel_rfl
abbrev Iy:FuncId:=57
theorem Rr (fu d:Nat)(a0_0 a0_1:Int):Ae C0 Tryz.prog fu (d+1) Iy [.agg [.sc (.int .i64 a0_0),.sc (.int .u64 a0_1)]]=(fun (call:Ai)=>Ag (call 38 [.sc (.int .i64 a0_0)]) fun x1 x2=>Ac x2<|Ab x1 fun x3 x4=>Bm x3 fun x5=>Ac x4<|Bb (!x5) (some (At.mk [.own 1 0 [],.sc (.int .i64 9)] [])) (Aa (wrap .u8 a0_0) fun x6=>Ag (call 84 [.lst false 1 1 [.sc (.int .u64 a0_1)]]) fun x7 x8=>Ac x8<|Ab x7 fun x9 Ch=>Ea 1 x9 fun Cm Dg=>Ac Ch<|Ap (decide (0+Cm*1<=Dg.length))<|Ap (decide (List.length (List.take (Cm*1) (List.drop 0 Dg))=Cm*1)&&decide ((1+Cm)*1<=1099511627776)&&decide (1+Cm<=1099511627776))<|Aa (1+Cm) fun Do=>Aa ([.sc (.int .u8 x6)]++List.take (Cm*1) (List.drop 0 Dg)) fun Dd=>Ap (decide (Do*1<=Dd.length))<|some (At.mk [.own 1 Do (List.take (Do*1) Dd),.sc (.int .i64 0)] []))) (Ae C0 Tryz.prog fu d):=by kernel_rfl
abbrev I5:FuncId:=80
noncomputable def Ee (fu:Nat)(call:Ai)(a0n:Nat)(a0:List PV)(a1n:Nat)(a1:List PV)(nn y0:Nat)(y1:List PV)(y2:Nat)(y3:List PV)(y4:Int):Option At:=C1 CB Tryz.prog fu call 80 Tryz.f80 (Bw Tryz.f80) [.lst false 1 a0n a0,.lst false 1 a1n a1] [.r,.r,.l,.r,.l] nn ⟨lk [(0,(.lst false 1 y0 y1)),(1,(.lst false 1 y2 y3)),(5,(.sc (.int .i64 y4)))],B3 []⟩
theorem Hq (fu:Nat)(call:Ai)(a0n:Nat)(a0:List PV)(a1n:Nat)(a1:List PV)(nn y0:Nat)(y1:List PV)(y2:Nat)(y3:List PV)(y4:Int):Ee fu call a0n a0 a1n a1 (nn+1) y0 y1 y2 y3 y4=(Bb (decide (y4<(↑y0:Int))) (Ap (decide (0<=y4)&&decide (y4<(↑y0:Int)))<|Ad .u64 (List.getD y1 (Int.toNat y4*1) .top) fun x1=>Ap (decide (0<=y4)&&decide (y4<(↑y2:Int)))<|Ad .u64 (List.getD y3 (Int.toNat y4*1) .top) fun x2=>Bb (x1 != x2) (some (At.mk [.sc (.bool false)] [])) (Aa (wrap .i64 (y4+1)) fun x3=>Ee fu call a0n a0 a1n a1 (nn) (y0) (y1) (y2) (y3) x3)) (some (At.mk [.sc (.bool true)] []))):=by kernel_rfl
theorem Rz (fu d a0n:Nat)(a0:List PV)(a1n:Nat)(a1:List PV):Ae C0 Tryz.prog fu (d+1) I5 [.lst false 1 a0n a0,.lst false 1 a1n a1]=(fun (call:Ai)=>Bb ((↑a0n:Int) != (↑a1n:Int)) (some (At.mk [.sc (.bool false)] [])) (Ee fu call a0n a0 a1n a1 (fu) (a0n) (a0) (a1n) (a1) 0)) (Ae C0 Tryz.prog fu d):=by kernel_rfl
abbrev G8:FuncId:=40
theorem Nt (fu d:Nat)(a0_0:Int)(PY:Nat)(a0_1:List PV)(E1:Nat)(a0_2:List PV)(a1_0:Int)(Amf:Nat)(a1_1:List PV)(Amg:Nat)(a1_2:List PV):Ae C0 Tryz.prog fu (d+1) G8 [.agg [.sc (.int .i64 a0_0),.lst false 1 PY a0_1,.lst false 1 E1 a0_2],.agg [.sc (.int .i64 a1_0),.lst false 1 Amf a1_1,.lst false 1 Amg a1_2]]=(fun (call:Ai)=>Bb (a0_0==a1_0) (Ag (call 80 [.lst false 1 PY a0_1,.lst false 1 Amf a1_1]) fun x1 x2=>Ac x2<|Ab x1 fun x3 x4=>Bm x3 fun x5=>Ac x4<|Bb x5 (Ag (call 80 [.lst false 1 E1 a0_2,.lst false 1 Amg a1_2]) fun x6 x7=>Ac x7<|Ab x6 fun x8 x9=>Bm x8 fun Ch=>Ac x9<|some (At.mk [.sc (.bool Ch)] [])) (some (At.mk [.sc (.bool false)] []))) (some (At.mk [.sc (.bool false)] []))) (Ae C0 Tryz.prog fu d):=by kernel_rfl
end
section
open Go.IntKind (wrap)
theorem Od {α:Type}(f:Nat->α)(i:Nat):(List.range (i+1)).map f=(List.range i).map f++[f i]:=by
 rw [List.range_succ,List.map_append];rfl
section
variable {fu d:Nat}
theorem Sy (h:Int):Ae C0 Tryz.prog fu (d+1) Md [.sc (.int .i64 h)]=some ⟨[.sc (.bool (!C2 h))],[]⟩:=by
 rw [Uz];unfold C2;by_cases h0:h<0
 ·simp (disch:=omega) only [Br,h0,decide_true,Bool.true_or,C6]
 ·have e:decide (h<=4) = !decide (h>4):=by
   by_cases c:h<=4
   ·have:¬h>4:=by omega
    simp [c,this]
   ·have:h>4:=by omega
    simp [c,this]
  simp (disch:=omega) only [Br,h0,decide_false,Bool.false_or,e]
theorem Aab {ws:List Int}(hl:ws.length<=100)(hfu:1000<=fu)(dom:Int):Ae C0 Tryz.prog fu (d+4) Ik [.sc (.int .i64 dom),.lst false 1 (A0 ws).length (Af .u8 (A0 ws))]=some ⟨[.sc (.int .u64 (Ml dom (A0 ws)))],[]⟩:=
 LR (xs:=Jw) (Q2 ws) (by rw [Db];omega) (by omega) (by rw [Db];omega) dom
theorem FP {call:Ai}{a0 m:Int}:∀(k nn:Nat)(i:Nat),i+k=16->k<nn ->
  Fu fu call a0 nn m ((List.range i).map (F2 m)).length (Im m i) (15-(i:Int)) (Af .i64 ((List.range i).map (F2 m)))=some ⟨[.own 1 18 (Af .i64 (NT m))],[]⟩
 |_,0,_,_,h=>by omega
 |0,nn+1,i,hi,hn=>by
  have e:i=16:=by omega
  subst e;have hs:=Jc m 16
  have wq:wrap .i64 (Int.tdiv (Im m 16) 16)=Im m 16 / 16:=by
   rw [Int.tdiv_eq_ediv_of_nonneg (by omega),Ak (by omega) (by omega)]
  have wm:Int.tmod (Im m 16) 16=Im m 16 % 16:=Int.tmod_eq_emod_of_nonneg (by omega)
  have e2:Af .i64 ((List.range 16).map (F2 m))++[PV.sc (.int .i64 (Im m 16 / 16)),PV.sc (.int .i64 (Im m 16 % 16))]=Af .i64 (NT m):=by
   unfold NT;rw [Af,Af,List.flatMap_append];rfl
  have L:(Af .i64 (NT m)).length=18:=by rw [Aj,Ab7]
  have tk:List.take 18 (Af .i64 (NT m))=Af .i64 (NT m):=Uf (by omega)
  have l16:((List.range 16).map (F2 m)).length=16:=by simp
  have L16:=Aj .i64 ((List.range 16).map (F2 m));have t16:=Jf .i64 ((List.range 16).map (F2 m));rw [l16] at L16 t16 ⊢;rw [Jl,Da _ _ _ (by omega)]
  simp (disch:=omega) only [Br,wq,wm,Cc,t16,e2,L16,Nat.reduceAdd,L,tk]
 |k+1,nn+1,i,hi,hn=>by
  have ih:=FP (call:=call) (a0:=a0) (m:=m) k nn (i+1) (by omega) (by omega)
  have hb:=Qb m i;have hs:=Jc m i;have w1:wrap .i64 (4*(15-(i:Int)))=60-4*(i:Int):=by rw [Ak (by omega) (by omega)];omega
  have w2:wrap .u64 (60-4*(i:Int))=60-4*(i:Int):=Ci (by omega) (by omega)
  have hd:wrap .i64 (Ps .u64 (Dw .u64 m (60-4*(i:Int))) 15)=F2 m i:=rfl;have w15:wrap .i64 (15-F2 m i)=15-F2 m i:=Ak (by omega) (by omega)
  have ws:wrap .i64 (Im m i+(15-F2 m i))=Im m (i+1):=by rw [Ak (by omega) (by omega)];rfl
  have wi:wrap .i64 (15-(i:Int)-1)=15-((i+1:Nat):Int):=by rw [Ak (by omega) (by omega)];omega
  have L:=Aj .i64 ((List.range i).map (F2 m));have l16:((List.range i).map (F2 m)).length=i:=by simp
  rw [Od,Lf,List.length_singleton,←E6] at ih;rw [Jl];simp (disch:=omega) only [Br,w1,w2,hd,w15,ws,wi,Cc,Jf,L];exact ih
theorem PP (hfu:1000<=fu)(m:Int):Ae C0 Tryz.prog fu (d+1) Nc [.sc (.int .u64 m)]=some ⟨[.own 1 18 (Af .i64 (NT m))],[]⟩:=by
 rw [Xb];exact FP (fu:=fu) (a0:=m) (m:=m) 16 fu 0 (by omega) (by omega)
theorem PM {leaf chain:Int}{a0 a1 a2 a3 a4:Int}(hfu:1000<=fu){t:Int}(ht:t<=15):∀(k nn:Nat)(p x:Int),(k:Int)=t-p->0<=p->k<nn ->
  Gt fu (Ae C0 Tryz.prog fu (d+4)) a0 a1 a2 a3 a4 nn leaf chain t x p=some ⟨[.sc (.int .u64 (Pt leaf chain k p x))],[]⟩
 |_,0,_,_,_,_,h=>by omega
 |0,nn+1,p,x,hk,hp,hn=>by
  rw [Ls];simp only [Gw];rw [A6 (by omega),Da _ _ _ (by omega)]
  rfl
 |k+1,nn+1,p,x,hk,hp,hn=>by
  have w:wrap .i64 (p+1)=p+1:=Ak (by omega) (by omega)
  have wd:Ae C0 Tryz.prog fu (d+4) Dy [.lst false 1 4 [.sc (.int .u64 (wrap .u64 leaf)),.sc (.int .u64 (wrap .u64 chain)),.sc (.int .u64 (wrap .u64 p)),.sc (.int .u64 x)]]=_:=Q3 (xs:=Jw) (ws:=[wrap .u64 leaf,wrap .u64 chain,wrap .u64 p,x]) (by simp) (by omega) (by simp;omega)
  have hs:=Aab (fu:=fu) (d:=d) (ws:=[wrap .u64 leaf,wrap .u64 chain,wrap .u64 p,x]) (by simp) hfu 1
  have ih:=PM (leaf:=leaf) (chain:=chain) (a0:=a0) (a1:=a1) (a2:=a2) (a3:=a3) (a4:=a4) hfu ht k nn (p+1) (Ml 1 (A0 [wrap .u64 leaf,wrap .u64 chain,wrap .u64 p,x])) (by omega) (by omega) (by omega)
  have L:=Aj .u8 (A0 [wrap .u64 leaf,wrap .u64 chain,wrap .u64 p,x]);have eR:Pt leaf chain (k+1) p x=Pt leaf chain k (p+1) (Ml 1 (A0 [wrap .u64 leaf,wrap .u64 chain,wrap .u64 p,x])):=rfl;rw [eR];generalize A0 [wrap .u64 leaf,wrap .u64 chain,wrap .u64 p,x]=W at wd hs ih L ⊢;have e15:(if (15:Int)<t then 15 else t)=t:=A6 (by omega)
  rw [Ls];simp (disch:=omega) only [Br,e15,wd,Cc,C3,Es,Jf,L,hs,w];exact ih
theorem SF {leaf chain:Int}(hfu:1000<=fu)(k:Nat)(f t x:Int)(hk:(k:Int)=t-f) (h0:0<=f)(h1:t<=15):Ae C0 Tryz.prog fu (d+5) Qi [.sc (.int .i64 leaf),.sc (.int .i64 chain),.sc (.int .i64 f),.sc (.int .i64 t),.sc (.int .u64 x)]=some ⟨[.sc (.int .u64 (Pt leaf chain k f x))],[]⟩:=by
 rw [AA];simp only [Gw];rw [A6 (by omega)]
 exact PM hfu h1 k fu f x hk h0 (by omega)
theorem KZ (hfu:1000<=fu)(seed leaf chain:Int):Ae C0 Tryz.prog fu (d+5) Ma [.sc (.int .u64 seed),.sc (.int .i64 leaf),.sc (.int .i64 chain)]=some ⟨[.sc (.int .u64 (EC seed leaf chain))],[]⟩:=by
 have wd:Ae C0 Tryz.prog fu (d+4) Dy [.lst false 1 2 [.sc (.int .u64 (wrap .u64 leaf)),.sc (.int .u64 (wrap .u64 chain))]]=_:=Q3 (xs:=Jw) (ws:=[wrap .u64 leaf,wrap .u64 chain]) (by simp) (by omega) (by simp;omega)
 have hs:=Ak5 (xs:=Jw) (fu:=fu) (d:=d) (Q2 [wrap .u64 leaf,wrap .u64 chain]) (by rw [Db];simp) (by omega) (by rw [Db];simp;omega) seed 1
 have L:=Aj .u8 (A0 [wrap .u64 leaf,wrap .u64 chain]);rw [Up];unfold EC;generalize A0 [wrap .u64 leaf,wrap .u64 chain]=W at wd hs L ⊢;simp (disch:=omega) only [Br,wd,Cc,C3,Es,Jf,L,hs]
theorem Aoj (hfu:1000<=fu)(w:Int):Ae C0 Tryz.prog fu (d+1) Dy [.lst false 1 1 [.sc (.int .u64 w)]]=some ⟨[.own 1 8 (Af .u8 (Dr w))],[]⟩:=by
 have:=Q3 (xs:=Jw) (fu:=fu) (d:=d) (ws:=[w]) (by simp) (by omega) (by simp;omega)
 simp only [A0,List.flatMap_cons,List.flatMap_nil,List.append_nil,J4,Z3,El] at this;exact this
theorem YD (hfu:1000<=fu)(leaf:Int){E:List Int}(hE:E.length<=50):Ae C0 Tryz.prog fu (d+5) Oo [.sc (.int .i64 leaf),.lst false 1 E.length (Af .u64 E)]=some ⟨[.sc (.int .u64 (Xx leaf E))],[]⟩:=by
 have w1:=Aoj (fu:=fu) (d:=d+3) hfu (wrap .u64 leaf);have w2:=Q3 (xs:=Jw) (fu:=fu) (d:=d+3) (ws:=E) (by omega) (by omega) (by omega)
 have hs:=Aab (fu:=fu) (d:=d) (ws:=wrap .u64 leaf::E) (by simp;omega) hfu 2
 have eW:A0 (wrap .u64 leaf::E)=Dr (wrap .u64 leaf)++A0 E:=rfl
 have eC:Af .u8 (Dr (wrap .u64 leaf))++Af .u8 (A0 E)=Af .u8 (A0 (wrap .u64 leaf::E)):=by
  rw [eW,Af,Af,Af,List.flatMap_append]
 have l0:(Dr (wrap .u64 leaf)).length=8:=El _;have l1:=Db E;have l2:(A0 (wrap .u64 leaf::E)).length=8+(A0 E).length:=by rw [eW,Lf,l0]
 have L0:=Aj .u8 (Dr (wrap .u64 leaf));rw [l0] at L0;have L1:=Aj .u8 (A0 E);have L2:=Aj .u8 (A0 (wrap .u64 leaf::E));have t8:List.take 8 (Af .u8 (Dr (wrap .u64 leaf)))=Af .u8 (Dr (wrap .u64 leaf)):=Uf (by omega)
 have tW:List.take (8+(A0 E).length) (Af .u8 (A0 (wrap .u64 leaf::E)))=Af .u8 (A0 (wrap .u64 leaf::E)):=Uf (by omega)
 rw [l2] at hs;rw [Zd];simp (disch:=omega) only [Br,w1,w2,Cc,C3,Es,Jf,t8,L0,L1,eC,L2,tW,hs];rfl
theorem MB {a0 a1 seed leaf:Int}(hfu:1000<=fu):∀(k nn i:Nat),i+k=18->k<nn ->
  F5 fu (Ae C0 Tryz.prog fu (d+5)) a0 a1 nn seed leaf ((List.range i).map (Wq seed leaf)).length i (Af .u64 ((List.range i).map (Wq seed leaf)))=some ⟨[.sc (.int .u64 (Hg seed leaf))],[]⟩
 |_,0,_,_,h=>by omega
 |0,nn+1,i,hi,hn=>by
  have e:i=18:=by omega
  subst e;have l18:((List.range 18).map (Wq seed leaf)).length=18:=by simp
  have en:=YD (fu:=fu) (d:=d) hfu leaf (E:=(List.range 18).map (Wq seed leaf)) (by omega)
  have L:=Aj .u64 ((List.range 18).map (Wq seed leaf));rw [Kn,Da _ _ _ (by omega)]
  simp (disch:=omega) only [Br,Cc,C3,Es,Jf,L,en];rfl
 |k+1,nn+1,i,hi,hn=>by
  have ih:=MB (a0:=a0) (a1:=a1) (seed:=seed) (leaf:=leaf) hfu k nn (i+1) (by omega) (by omega)
  have sc:=KZ (fu:=fu) (d:=d) hfu seed leaf i;have rn:=SF (fu:=fu) (d:=d) (leaf:=leaf) (chain:=i) hfu 15 0 15 (EC seed leaf i) (by omega) (by omega) (by omega)
  have w:wrap .i64 ((i:Int)+1)=((i+1:Nat):Int):=by rw [Ak (by omega) (by omega)];omega
  have L:=Aj .u64 ((List.range i).map (Wq seed leaf));have li:((List.range i).map (Wq seed leaf)).length=i:=by simp
  rw [Od,Lf,List.length_singleton,←E6] at ih;rw [Kn];simp (disch:=omega) only [Br,sc,rn,Cc,Jf,L,w];exact ih
theorem Aio (hfu:1000<=fu)(seed leaf:Int):Ae C0 Tryz.prog fu (d+6) Ot [.sc (.int .u64 seed),.sc (.int .i64 leaf)]=some ⟨[.sc (.int .u64 (Hg seed leaf))],[]⟩:=by
 rw [Zq];exact MB (fu:=fu) (d:=d) hfu 18 fu 0 (by omega) (by omega)
theorem Amk (m:Int){i:Nat}(h:i<18):(NT m)[i]?=some (dg m i):=by
 unfold dg;rw [List.getD_eq_getElem?_getD,List.getElem?_eq_getElem (by rw [Ab7];omega)]
 rfl
theorem V4 {a0 a1 a2 seed leaf m:Int}(hfu:1000<=fu):∀(k nn i:Nat),i+k=18->k<nn ->
  En fu (Ae C0 Tryz.prog fu (d+5)) a0 a1 a2 nn seed leaf 18 ((List.range i).map (U0 seed leaf m)).length i (Af .i64 (NT m)) (Af .u64 ((List.range i).map (U0 seed leaf m)))=some ⟨[.own 1 18 (Af .u64 (Ie seed leaf m))],[]⟩
 |_,0,_,_,h=>by omega
 |0,nn+1,i,hi,hn=>by
  have e:i=18:=by omega
  subst e;have l18:((List.range 18).map (U0 seed leaf m)).length=18:=by simp
  have L:=Aj .u64 ((List.range 18).map (U0 seed leaf m));rw [H1,Da _ _ _ (by omega)]
  simp (disch:=omega) only [Br,Cc,Jf,L];rw [l18];rfl
 |k+1,nn+1,i,hi,hn=>by
  have ih:=V4 (a0:=a0) (a1:=a1) (a2:=a2) (seed:=seed) (leaf:=leaf) (m:=m) hfu k nn (i+1) (by omega) (by omega)
  have hb:=Rj m i;have sc:=KZ (fu:=fu) (d:=d) hfu seed leaf i;have rn:=SF (fu:=fu) (d:=d) (leaf:=leaf) (chain:=i) hfu (dg m i).toNat 0 (dg m i) (EC seed leaf i) (by omega) (by omega) (by omega)
  have w:wrap .i64 ((i:Int)+1)=((i+1:Nat):Int):=by rw [Ak (by omega) (by omega)];omega
  have L:=Aj .u64 ((List.range i).map (U0 seed leaf m));have li:((List.range i).map (U0 seed leaf m)).length=i:=by simp
  rw [Od,Lf,List.length_singleton,←E6] at ih;rw [H1];simp (disch:=omega) only [Br,H2,Cc,C3,Uh (Amk m (show i<18 by omega)),sc,rn,Jf,L,w]
  exact ih
theorem RH (hfu:1000<=fu)(seed leaf m:Int):Ae C0 Tryz.prog fu (d+6) Jo [.sc (.int .u64 seed),.sc (.int .i64 leaf),.sc (.int .u64 m)]=some ⟨[.own 1 18 (Af .u64 (Ie seed leaf m))],[]⟩:=by
 rw [Sq];have sp:=PP (fu:=fu) (d:=d+4) hfu m;simp only [Br,sp];exact V4 (fu:=fu) (d:=d) hfu 18 fu 0 (by omega) (by omega)
theorem Xq {a0 a1:Int}{n:Nat}{c:List PV}{leaf m:Int}{s:List Int}(hs:s.length=18)(hfu:1000<=fu):∀(k nn i:Nat),i+k=18->k<nn ->
  Ey fu (Ae C0 Tryz.prog fu (d+5)) a0 a1 n c nn leaf s.length (Af .u64 s) 18 ((List.range i).map (Wp leaf m s)).length i (Af .i64 (NT m)) (Af .u64 ((List.range i).map (Wp leaf m s)))=some ⟨[.sc (.int .u64 (TZ leaf m s)),.sc (.int .i64 0)],[]⟩
 |_,0,_,_,h=>by omega
 |0,nn+1,i,hi,hn=>by
  have e:i=18:=by omega
  subst e;have l18:((List.range 18).map (Wp leaf m s)).length=18:=by simp
  have en:=YD (fu:=fu) (d:=d) hfu leaf (E:=(List.range 18).map (Wp leaf m s)) (by omega)
  have L:=Aj .u64 ((List.range 18).map (Wp leaf m s));rw [H9,Da _ _ _ (by omega)]
  simp (disch:=omega) only [Br,Cc,C3,Es,Jf,L,en];rfl
 |k+1,nn+1,i,hi,hn=>by
  have ih:=Xq (a0:=a0) (a1:=a1) (n:=n) (c:=c) (leaf:=leaf) (m:=m) hs hfu k nn (i+1) (by omega) (by omega)
  obtain ⟨x,hx⟩:∃x,s[i]?=some x:=⟨_,List.getElem?_eq_getElem (by omega)⟩
  have hb:=Rj m i;have rn:=SF (fu:=fu) (d:=d) (leaf:=leaf) (chain:=i) hfu (15-dg m i).toNat (dg m i) 15 x (by omega) (by omega) (by omega)
  have ev:Pt leaf i (15-dg m i).toNat (dg m i) x=Wp leaf m s i:=by
   unfold Wp;rw [List.getD_eq_getElem?_getD,hx];rfl
  rw [ev] at rn;have w:wrap .i64 ((i:Int)+1)=((i+1:Nat):Int):=by rw [Ak (by omega) (by omega)];omega
  have L:=Aj .u64 ((List.range i).map (Wp leaf m s));have li:((List.range i).map (Wp leaf m s)).length=i:=by simp
  rw [Od,Lf,List.length_singleton,←E6] at ih;rw [H9];simp (disch:=omega) only [Br,H2,Cc,C3,Uh (Amk m (show i<18 by omega)),Uh hx,rn,Jf,L,w]
  exact ih
theorem WL (hfu:1000<=fu)(leaf m:Int)(s:List Int):Ae C0 Tryz.prog fu (d+6) Kh [.sc (.int .i64 leaf),.sc (.int .u64 m),.lst false 1 s.length (Af .u64 s)]=some ⟨(if s.length=18 then [.sc (.int .u64 (TZ leaf m s)),.sc (.int .i64 0)] else [.sc (.int .u64 0),.sc (.int .i64 4)]),[]⟩:=by
 refine (Tu fu (d+5) leaf m s.length (Af .u64 s)).trans ?_;by_cases h:s.length=18
 ·have sp:=PP (fu:=fu) (d:=d+4) hfu m;have lp:=Xq (fu:=fu) (d:=d) (a0:=leaf) (a1:=m) (n:=s.length) (c:=Af .u64 s) (leaf:=leaf) (m:=m) h hfu 18 fu 0 (by omega) (by omega)
  simp only [Ds];rw [B4 h,B4 (by omega)]
  simp only [Br,sp];exact lp
 ·simp only [Ds];rw [A6 h,A6 (by omega)]
theorem Zg (hfu:1000<=fu)(level a b:Int):Ae C0 Tryz.prog fu (d+5) L6 [.sc (.int .i64 level),.sc (.int .u64 a),.sc (.int .u64 b)]=some ⟨[.sc (.int .u64 (Lr level a b))],[]⟩:=by
 have wd:Ae C0 Tryz.prog fu (d+4) Dy [.lst false 1 3 [.sc (.int .u64 (wrap .u64 level)),.sc (.int .u64 a),.sc (.int .u64 b)]]=_:=Q3 (xs:=Jw) (ws:=[wrap .u64 level,a,b]) (by simp) (by omega) (by simp;omega)
 have hs:=Aab (fu:=fu) (d:=d) (ws:=[wrap .u64 level,a,b]) (by simp) hfu 3
 have L:=Aj .u8 (A0 [wrap .u64 level,a,b]);rw [Vd];unfold Lr;generalize A0 [wrap .u64 level,a,b]=W at wd hs L ⊢;simp (disch:=omega) only [Br,wd,Cc,C3,Es,Jf,L,hs]
theorem BI (hfu:1000<=fu)(seed:Int):∀(l:Nat)(i B:Int),0<=i->i<=B->(2 ^ l:Nat)*(B+1)<=1000000000->l<=20->Ae C0 Tryz.prog fu (d+7+l) Pa [.sc (.int .u64 seed),.sc (.int .i64 l),.sc (.int .i64 i)]=some ⟨[.sc (.int .u64 (Bv seed l i))],[]⟩
 |0,i,B,h0,h1,h2,hl=>by
  have lf:=Aio (fu:=fu) (d:=d) hfu seed i;refine (Oy fu (d+6) seed 0 i).trans ?_;simp only [Br,Ed,if_true,lf];rfl
 |l+1,i,B,h0,h1,h2,hl=>by
  have hq:(2 ^ (l+1):Nat)=2 ^ l*2:=Nat.pow_succ _ _;have hpos:0<2 ^ l:=Nat.pow_pos (by omega)
  rw [hq] at h2;generalize hQ:2 ^ l=q at h2 hpos
  have hb:((q*2:Nat):Int)*(B+1)=(q:Int)*(2*B+1+1):=by
   rw [Int.natCast_mul,Int.mul_assoc]
   congr 1
   omega
  rw [hb] at h2
  have hBq:2*B+1+1<=(q:Int)*(2*B+1+1):=by
   have:=Int.mul_le_mul_of_nonneg_right (show (1:Int)<=q by omega) (show (0:Int)<=2*B+1+1 by omega)
   omega
  have n1:=BI hfu seed l (2*i) (2*B+1) (by omega) (by omega) (by rw [hQ];exact h2) (by omega)
  have n2:=BI hfu seed l (2*i+1) (2*B+1) (by omega) (by omega) (by rw [hQ];exact h2) (by omega)
  have pr:=Zg (fu:=fu) (d:=d+2+l) hfu ((l+1:Nat):Int) (Bv seed l (2*i)) (Bv seed l (2*i+1));rw [show d+2+l+5=d+7+l by omega] at pr
  have w1:wrap .i64 (((l+1:Nat):Int)-1)=(l:Int):=by rw [Ak (by omega) (by omega)];omega
  have w2:wrap .i64 (2*i)=2*i:=Ak (by omega) (by omega)
  have w3:wrap .i64 (2*i+1)=2*i+1:=Ak (by omega) (by omega)
  have ne:¬(((l+1:Nat):Int)=0):=by omega
  refine (Oy fu (d+7+l) seed ((l+1:Nat):Int) i).trans ?_;simp only [Br,Ed,ne,if_false,w1,w2,w3,n1,n2,pr];rfl
end
end
section
open Go.IntKind (wrap)
theorem wu {h:Int}(h0:0<=h)(h4:h<=4):wrap .u64 h=h:=Ci (by omega) (by omega)
theorem ZO {leaf h:Int}(h0:0<=h)(h4:h<=4)(ho:Hu leaf h=false):0<=leaf∧leaf<2 ^ h.toNat:=by
 unfold Hu at ho;simp only [Bool.or_eq_false_iff,decide_eq_false_iff_not] at ho;have:h=0∨h=1∨h=2∨h=3∨h=4:=by omega
 rcases this with rfl|rfl|rfl|rfl|rfl
 ·have e:Gl .i64 1 0=1:=by decide
  rw [e] at ho;exact ⟨by omega,by show leaf<1;omega⟩
 ·have e:Gl .i64 1 1=2:=by decide
  rw [e] at ho;exact ⟨by omega,by show leaf<2;omega⟩
 ·have e:Gl .i64 1 2=4:=by decide
  rw [e] at ho;exact ⟨by omega,by show leaf<4;omega⟩
 ·have e:Gl .i64 1 3=8:=by decide
  rw [e] at ho;exact ⟨by omega,by show leaf<8;omega⟩
 ·have e:Gl .i64 1 4=16:=by decide
  rw [e] at ho;exact ⟨by omega,by show leaf<16;omega⟩
theorem Anp {h:Int}(h0:0<=h)(h4:h<=4):(2:Int) ^ h.toNat<=16:=by
 have:h=0∨h=1∨h=2∨h=3∨h=4:=by omega
 rcases this with rfl|rfl|rfl|rfl|rfl<;>decide
theorem ZL {leaf:Int}(h0:0<=leaf)(h1:leaf<16){k:Nat}(hk:k<4):0<=Fb leaf k∧Fb leaf k<=15:=by
 have H:∀n:Fin 16,∀k:Fin 4,0<=Fb (n.val:Int) k.val∧Fb (n.val:Int) k.val<=15:=by decide
 obtain ⟨n,rfl⟩:=Int.eq_ofNat_of_zero_le h0;exact H ⟨n,by omega⟩ ⟨k,hk⟩
section
variable {fu d:Nat}
theorem Yv (hfu:1000<=fu)(seed h:Int):Ae C0 Tryz.prog fu (d+12) Lu [.sc (.int .u64 seed),.sc (.int .i64 h)]=some ⟨[.agg (J7 seed h).cells,.sc (.int .i64 (if C2 h=true then 9 else 0))],[]⟩:=by
 refine (U7 fu (d+11) seed h).trans ?_;have h1:=Sy (fu:=fu) (d:=d+10) h;unfold J7;cases c1:C2 h
 ·rw [c1] at h1;have hb:=G7 c1
  have nd:=BI (fu:=fu) (d:=d+4-h.toNat) hfu seed h.toNat 0 0 (by omega) (by omega) (by
   have:h=0∨h=1∨h=2∨h=3∨h=4:=by omega
   rcases this with rfl|rfl|rfl|rfl|rfl<;>decide) (by omega)
  rw [show d+4-h.toNat+7+h.toNat=d+11 by omega,show ((h.toNat:Nat):Int)=h by omega] at nd
  simp only [Br,h1,nd];rfl
 ·rw [c1] at h1;simp only [Br,h1];rfl
theorem JD {a0 a1 a2 a3:Int}{seed leaf h:Int}(hh:0<=h∧h<=4)(hl:0<=leaf∧leaf<16)(hfu:1000<=fu){y4 y9:Int}{y5 y6:Nat}{y7 y8:List PV}{ch:List Int}:∀(k nn i:Nat),i+k=h.toNat->k<nn ->
  F4 fu (Ae C0 Tryz.prog fu (d+11)) a0 a1 a2 a3 nn seed h leaf i y4 y5 y6 y7 y8 leaf ch.length ((List.range i).map fun k=>Bv seed k (Fb leaf k)).length (Af .u64 ch) (Af .u64 ((List.range i).map fun k=>Bv seed k (Fb leaf k)))=some ⟨[.agg (Sg.mk leaf ch ((List.range h.toNat).map fun k=>Bv seed k (Fb leaf k))).owned,.sc (.int .i64 0)],[]⟩
 |_,0,_,_,h=>by omega
 |0,nn+1,i,hi,hn=>by
  have e:i=h.toNat:=by omega
  subst e;have L1:=Aj .u64 ch;have L2:=Aj .u64 ((List.range h.toNat).map fun k=>Bv seed k (Fb leaf k))
  rw [J9,Da _ _ _ (by omega)]
  simp (disch:=omega) only [Br,Cc,Jf,L1,L2];rfl
 |k+1,nn+1,i,hi,hn=>by
  have ih:=JD (a0:=a0) (a1:=a1) (a2:=a2) (a3:=a3) (seed:=seed) (y4:=y4) (y9:=y9) (y5:=y5) (y6:=y6) (y7:=y7) (y8:=y8) (ch:=ch) hh hl hfu k nn (i+1) (by omega) (by omega)
  have sb:=ZL hl.1 hl.2 (k:=i) (by omega)
  have nd:=BI (fu:=fu) (d:=d+4-i) hfu seed i (Fb leaf i) 15 sb.1 sb.2 (by
   have:i=0∨i=1∨i=2∨i=3:=by omega
   rcases this with rfl|rfl|rfl|rfl<;>decide) (by omega)
  rw [show d+4-i+7+i=d+11 by omega] at nd
  have es:C8 .i64 (Dw .i64 leaf (i:Int)) 1=Fb leaf i:=rfl;have w:wrap .i64 ((i:Int)+1)=((i+1:Nat):Int):=by rw [Ak (by omega) (by omega)];omega
  have wi:wrap .u64 (i:Int)=i:=Ci (by omega) (by omega)
  have L:=Aj .u64 ((List.range i).map fun k=>Bv seed k (Fb leaf k))
  have li:((List.range i).map fun k=>Bv seed k (Fb leaf k)).length=i:=by simp
  rw [Od,Lf,List.length_singleton,←E6] at ih;rw [J9];simp (disch:=omega) only [Br,wi,es,nd,Cc,Jf,L,w];exact ih
theorem Ahj (hfu:1000<=fu)(seed h leaf m:Int):Ae C0 Tryz.prog fu (d+12) Ow [.sc (.int .u64 seed),.sc (.int .i64 h),.sc (.int .i64 leaf),.sc (.int .u64 m)]=some ⟨SW (X8 seed h leaf m),[]⟩:=by
 refine (Zf fu (d+11) seed h leaf m).trans ?_;have h1:=Sy (fu:=fu) (d:=d+10) h;unfold X8;cases c1:C2 h
 ·rw [c1] at h1;have hb:=G7 c1;have w:=wu hb.1 hb.2;rw [A6 (by simp)]
  by_cases hn:leaf<0
  ·have ho:Hu leaf h=true:=by unfold Hu;simp [hn]
   rw [B4 ho];simp (disch:=omega) only [Br,h1];rfl
  ·by_cases hg:leaf>=Gl .i64 1 h
   ·have ho:Hu leaf h=true:=by unfold Hu;simp [hg]
    rw [B4 ho];simp (disch:=first|omega|exact hg) only [Br,h1,w];rfl
   ·have ho:Hu leaf h=false:=by unfold Hu;simp only [Bool.or_eq_false_iff,decide_eq_false_iff_not];exact ⟨hn,hg⟩
    have hlt:=ZO hb.1 hb.2 ho;have h16:=Anp hb.1 hb.2;rw [A6 (by rw [ho];simp)]
    have sl:=RH (fu:=fu) (d:=d+5) hfu seed leaf m;have lp:=JD (fu:=fu) (d:=d) (a0:=seed) (a1:=h) (a2:=leaf) (a3:=m) (seed:=seed) (leaf:=leaf) (h:=h) hb (by omega) hfu (y4:=0) (y9:=0) (y5:=0) (y6:=0) (y7:=[]) (y8:=[]) (ch:=Ie seed leaf m) h.toNat fu 0 (by omega) (by omega)
    have l18:(Ie seed leaf m).length=18:=by simp [Ie]
    rw [l18] at lp;simp (disch:=first|omega|exact hg) only [Br,h1,w,sl];exact lp
 ·rw [c1] at h1;rw [B4 rfl];simp (disch:=omega) only [Br,h1];rfl
theorem Z9 {a0 a1 a2 a3:Int}{n1 n2 n3:Nat}{c1 c2 c3:List PV}{root leaf:Int}{path:List Int}(hp:path.length<=100)(hfu:1000<=fu):∀(r:List Int)(i nn:Nat)(x:Int),path.drop i=r->r.length<nn->i<=path.length ->
  D7 fu (Ae C0 Tryz.prog fu (d+5)) a0 a1 a2 a3 n1 c1 n2 c2 nn x i path.length root leaf n3 c3 path.length (Af .u64 path)=some ⟨[.sc (.int .i64 (okE (Vv leaf i x r) root))],[]⟩
 |_,_,0,_,_,h,_=>by omega
 |[],i,nn+1,x,h,hn,hi=>by
  have:=drop_nil h;rw [I0,Da _ _ _ (by omega),Ds]
  rw [KC];unfold okE;by_cases e:x=root
  ·rw [B4 e,B4 e]
  ·rw [A6 e,A6 e]
 |s::r,i,nn+1,x,h,hn,hi=>by
  obtain ⟨h1,h2,h3⟩:=Ck h;simp only [J4] at hn;have w:wrap .i64 ((i:Int)+1)=((i+1:Nat):Int):=by rw [Ak (by omega) (by omega)];omega
  have wi:wrap .u64 (i:Int)=i:=Ci (by omega) (by omega)
  have ih:=fun x=>Z9 (a0:=a0) (a1:=a1) (a2:=a2) (a3:=a3) (n1:=n1) (n2:=n2) (n3:=n3) (c1:=c1) (c2:=c2) (c3:=c3) (root:=root) (leaf:=leaf) hp hfu r (i+1) nn x h3 (by omega) (by omega)
  have p1:=Zg (fu:=fu) (d:=d) hfu ((i+1:Nat):Int) x s;have p2:=Zg (fu:=fu) (d:=d) hfu ((i+1:Nat):Int) s x;rw [I0,Vt];by_cases hb:Ps .i64 (Dw .i64 leaf i) 1=0
  ·rw [B4 hb,←ih];simp (disch:=omega) only [Br,H2,Cc,Uh h2,Ed,wi,hb,w,p1,if_true]
  ·rw [A6 hb,←ih];simp (disch:=omega) only [Br,H2,Cc,Uh h2,Ed,wi,hb,w,p2,if_false]
theorem Aa9 (hfu:1000<=fu)(k:Ky)(m:Int)(s:Sg):Ae C0 Tryz.prog fu (d+7) L7 [.agg k.cells,.sc (.int .u64 m),.agg s.cells]=some ⟨[.sc (.int .i64 (NL k m s))],[]⟩:=by
 refine (Va fu (d+6) k.h k.root m s.leaf s.chains.length (Af .u64 s.chains) s.path.length (Af .u64 s.path)).trans ?_;have h1:=Sy (fu:=fu) (d:=d+5) k.h;unfold NL;cases c1:C2 k.h
 ·rw [c1] at h1;have hb:=G7 c1;have w:=wu hb.1 hb.2;rw [A6 (by simp)]
  by_cases hn:s.leaf<0
  ·have ho:Hu s.leaf k.h=true:=by unfold Hu;simp [hn]
   rw [B4 ho];simp (disch:=omega) only [Br,h1]
  ·by_cases hg:s.leaf>=Gl .i64 1 k.h
   ·have ho:Hu s.leaf k.h=true:=by unfold Hu;simp [hg]
    rw [B4 ho];simp (disch:=first|omega|exact hg) only [Br,h1,w]
   ·have ho:Hu s.leaf k.h=false:=by unfold Hu;simp only [Bool.or_eq_false_iff,decide_eq_false_iff_not];exact ⟨hn,hg⟩
    rw [A6 (by rw [ho];simp)]
    by_cases c3:s.chains.length=18
    ·by_cases c4:(s.path.length:Int)=k.h
     ·have rc:=WL (fu:=fu) (d:=d) hfu s.leaf m s.chains;rw [B4 c3] at rc;have vl:=Z9 (fu:=fu) (d:=d+1) (a0:=k.h) (a1:=k.root) (a2:=m) (a3:=s.leaf) (n1:=s.chains.length) (n2:=s.path.length) (n3:=s.chains.length) (c1:=Af .u64 s.chains) (c2:=Af .u64 s.path) (c3:=Af .u64 s.chains) (root:=k.root) (leaf:=s.leaf) (path:=s.path) (by omega) hfu s.path 0 fu (TZ s.leaf m s.chains) rfl (by omega) (by omega)
      rw [A6 (by omega),A6 (by omega),←vl]
      simp (disch:=first|omega|exact hg) only [Br,h1,w,Ds,rc,c4,if_true];rw [B4 (by omega)]
      rfl
     ·rw [A6 (by omega),B4 c4]
      simp (disch:=first|omega|exact hg) only [Br,h1,w,Ds,c4,if_false];rw [B4 (by omega)]
    ·rw [B4 c3];simp (disch:=first|omega|exact hg) only [Br,h1,w,Ds];rw [A6 (by omega)]
 ·rw [c1] at h1;rw [B4 rfl];simp (disch:=omega) only [Br,h1]
theorem Aar (hfu:1000<=fu)(k:Ky):Ae C0 Tryz.prog fu (d+2) Iy [.agg k.cells]=some ⟨(if C2 k.h=true then [.own 1 0 [],.sc (.int .i64 9)] else [.own 1 9 (Af .u8 (Io k)),.sc (.int .i64 0)]),[]⟩:=by
 refine (Rr fu (d+1) k.h k.root).trans ?_;have h1:=Sy (fu:=fu) (d:=d) k.h;have wd:=Aoj (fu:=fu) (d:=d) hfu k.root;have L:=Aj .u8 (Dr k.root);rw [El] at L;have t8:List.take 8 (Af .u8 (Dr k.root))=Af .u8 (Dr k.root):=Uf (by omega)
 have t9:List.take 9 ([PV.sc (.int .u8 (wrap .u8 k.h))]++Af .u8 (Dr k.root))=Af .u8 (Io k):=by
  rw [Uf (by rw [Lf,L];simp)]
  rfl
 have L9:([PV.sc (.int .u8 (wrap .u8 k.h))]++Af .u8 (Dr k.root)).length=9:=by rw [Lf,L];rfl
 cases c1:C2 k.h
 ·rw [c1] at h1;rw [A6 (by simp)]
  simp (disch:=omega) only [Br,h1,wd,Cc,C3,Es,L,t8,Nat.reduceAdd,L9,t9]
 ·rw [c1] at h1;rw [B4 rfl];simp (disch:=omega) only [Br,h1]
end
end
section
open Go.IntKind (wrap)
section
variable {fu d:Nat}
end
theorem Af2 (seed leaf m:Int):TZ leaf m (Ie seed leaf m)=Hg seed leaf:=by
 unfold TZ Hg ML
 congr 1
 refine List.map_congr_left fun i hi=>?_
 have hi:=List.mem_range.1 hi;have hb:=Rj m i;unfold Wp Wq
 have e:(Ie seed leaf m).getD i 0=U0 seed leaf m i:=by
  unfold Ie;rw [List.getD_eq_getElem?_getD,List.getElem?_map,List.getElem?_range hi];rfl
 rw [e];unfold U0;have:=UG leaf i (dg m i).toNat (15-dg m i).toNat 0 (EC seed leaf i);rw [show (dg m i).toNat+(15-dg m i).toNat=15 by omega,show (0:Int)+((dg m i).toNat:Nat)=dg m i by omega] at this
 exact this.symm
theorem Afe:∀n:Fin 16,∀k:Fin 4,
  (Ps .i64 (Dw .i64 (n.val:Int) k.val) 1=0∧Dw .i64 (n.val:Int) k.val=2*Dw .i64 (n.val:Int) ((k.val+1:Nat):Int)∧Fb n.val k.val=2*Dw .i64 (n.val:Int) ((k.val+1:Nat):Int)+1) ∨
  (Ps .i64 (Dw .i64 (n.val:Int) k.val) 1≠0∧Dw .i64 (n.val:Int) k.val=2*Dw .i64 (n.val:Int) ((k.val+1:Nat):Int)+1∧Fb n.val k.val=2*Dw .i64 (n.val:Int) ((k.val+1:Nat):Int)):=by decide
theorem MD (seed:Int){leaf:Int}(h0:0<=leaf)(h1:leaf<16):∀(k i:Nat),i+k<=4 ->
  Vv leaf i (Bv seed i (Dw .i64 leaf i)) ((List.range' i k).map fun j=>Bv seed j (Fb leaf j))=Bv seed (i+k) (Dw .i64 leaf ((i+k:Nat):Int))
 |0,i,_=>rfl
 |k+1,i,h=>by
  rw [List.range'_succ,Zzw,Vt];obtain ⟨n,rfl⟩:=Int.eq_ofNat_of_zero_le h0;have ih:=MD seed h0 h1 k (i+1) (by omega)
  rw [show i+(k+1)=i+1+k by omega,←ih]
  congr 1
  rcases Afe ⟨n,by omega⟩ ⟨i,by omega⟩ with ⟨a,b,c⟩|⟨a,b,c⟩
  ·simp only at a b c;rw [B4 a,b,c];rfl
  ·simp only at a b c;rw [A6 a,b,c];rfl
theorem Ajh {seed h leaf m:Int}(hh:C2 h=false)(ho:Hu leaf h=false):NL (J7 seed h) m ⟨leaf,Ie seed leaf m,(List.range h.toNat).map fun k=>Bv seed k (Fb leaf k)⟩=0:=by
 have hb:=G7 hh;have hl:=ZO hb.1 hb.2 ho;have h16:=Anp hb.1 hb.2
 have eP:J7 seed h=⟨h,Bv seed h.toNat 0⟩:=by
  unfold J7;rw [hh];rfl
 rw [eP];unfold NL;simp only;rw [A6 (show ¬C2 h=true by rw [hh];simp),A6 (show ¬Hu leaf h=true by rw [ho];simp),A6 (show ¬(Ie seed leaf m).length≠18 by simp [Ie]),A6 (by rw [List.length_map,List.length_range];omega),Af2]
 have c:=MD seed hl.1 (show leaf<16 by omega) h.toNat 0 (by omega)
 have e0:Dw .i64 leaf ((0:Nat):Int)=leaf:=by
  show leaf.fdiv (2 ^ (min ((0:Nat):Int).toNat IntKind.i64.bits))=leaf;have:(2:Int) ^ (min ((0:Nat):Int).toNat IntKind.i64.bits)=1:=by decide
  rw [this,Int.fdiv_one]
 have eh:Dw .i64 leaf ((0+h.toNat:Nat):Int)=0:=by
  have H:∀n:Fin 16,∀k:Fin 5,(n.val:Int)<2 ^ k.val->Dw .i64 (n.val:Int) ((0+k.val:Nat):Int)=0:=by decide
  obtain ⟨n,hn⟩:=Int.eq_ofNat_of_zero_le hl.1;have:=H ⟨n,by omega⟩ ⟨h.toNat,by omega⟩ (by simp only;rw [←hn];exact hl.2)
  rw [hn];exact this
 rw [e0,eh,C3] at c;have er:List.range' 0 h.toNat=List.range h.toNat:=List.range_eq_range'.symm;rw [er] at c;have el:Bv seed 0 leaf=Hg seed leaf:=rfl;rw [el] at c;rw [c];unfold okE;rw [B4 rfl]
end
section
open Go.IntKind (wrap)
set_option maxRecDepth 100000
abbrev GL:FuncId:=68
theorem UY (fu d:Nat)(a0:ByteArray):Ae C0 Tryz.prog fu (d+1) GL [.sc (.string a0)]=(fun (call:Ai)=>some (At.mk [.own 3 1 [.sc (.int .i64 4),.sc (.int .u64 0),.sc (.string a0)]] [])) (Ae C0 Tryz.prog fu d):=by kernel_rfl
abbrev FX:FuncId:=69
theorem UI (fu d:Nat)(a0:Int):Ae C0 Tryz.prog fu (d+1) FX [.sc (.int .u64 a0)]=(fun (call:Ai)=>some (At.mk [.own 3 1 [.sc (.int .i64 1),.sc (.int .u64 a0),.sc (.string (ByteArray.mk #[]))]] [])) (Ae C0 Tryz.prog fu d):=by kernel_rfl
abbrev AD:FuncId:=70
theorem RV (fu d a0n:Nat)(a0:List PV):Ae C0 Tryz.prog fu (d+1) AD [.lst false 1 a0n a0]=(fun (call:Ai)=>Ap (decide (a0.length=a0n))<|Ek (bytesOf a0) fun x1=>some (At.mk [.own 3 1 [.sc (.int .i64 3),.sc (.int .u64 0),.sc (.string (ByteArray.mk (List.toArray x1)))]] [])) (Ae C0 Tryz.prog fu d):=by kernel_rfl
abbrev GG:FuncId:=71
theorem WG (fu d:Nat)(a0:Bool):Ae C0 Tryz.prog fu (d+1) GG [.sc (.bool a0)]=(fun (call:Ai)=>Bb (a0) (some (At.mk [.own 3 1 [.sc (.int .i64 7),.sc (.int .u64 1),.sc (.string (ByteArray.mk #[]))]] [])) (some (At.mk [.own 3 1 [.sc (.int .i64 7),.sc (.int .u64 0),.sc (.string (ByteArray.mk #[]))]] []))) (Ae C0 Tryz.prog fu d):=by kernel_rfl
abbrev CE:FuncId:=127
theorem UA (fu d:Nat)(a0:Int):Ae C0 Tryz.prog fu (d+1) CE [.sc (.int .u64 a0)]=(fun (call:Ai)=>Bb (decide (a0<24)) (some (At.mk [.sc (.int .i64 0)] [])) (Bb (decide (a0<256)) (some (At.mk [.sc (.int .i64 1)] [])) (Bb (decide (a0<65536)) (some (At.mk [.sc (.int .i64 2)] [])) (Bb (decide (a0<4294967296)) (some (At.mk [.sc (.int .i64 4)] [])) (some (At.mk [.sc (.int .i64 8)] [])))))) (Ae C0 Tryz.prog fu d):=by kernel_rfl
abbrev Xo:FuncId:=131
theorem NJ (fu d:Nat)(a0_0 a0_1:Int)(a0_2:ByteArray):Ae C0 Tryz.prog fu (d+1) Xo [.agg [.sc (.int .i64 a0_0),.sc (.int .u64 a0_1),.sc (.string a0_2)]]=(fun (call:Ai)=>Bb (a0_0==3) (some (At.mk [.sc (.bool (a0_1==0))] [])) (Bb (a0_0==4) (some (At.mk [.sc (.bool (a0_1==0))] [])) (Bb (a0_0==8) (Bb (a0_1==0) (some (At.mk [.sc (.bool (Array.toList (ByteArray.data a0_2)==Array.toList (ByteArray.data (ByteArray.mk #[]))))] [])) (some (At.mk [.sc (.bool false)] []))) (Bb (a0_0==7) (Bb (decide (a0_1<=1)) (some (At.mk [.sc (.bool (Array.toList (ByteArray.data a0_2)==Array.toList (ByteArray.data (ByteArray.mk #[]))))] [])) (some (At.mk [.sc (.bool false)] []))) (some (At.mk [.sc (.bool (Array.toList (ByteArray.data a0_2)==Array.toList (ByteArray.data (ByteArray.mk #[]))))] [])))))) (Ae C0 Tryz.prog fu d):=by kernel_rfl
abbrev Us:FuncId:=129
theorem KS (fu d a0n:Nat)(a0:List PV)(a1n:Nat)(a1:List PV):Ae C0 Tryz.prog fu (d+1) Us [.lst false 1 a0n a0,.lst false 1 a1n a1]=(fun (call:Ai)=>Bb ((↑a0n:Int) != (↑a1n:Int)) (some (At.mk [.sc (.bool (decide ((↑a0n:Int)<(↑a1n:Int))))] [])) (Ag (call 133 [.lst false 1 a0n a0,.lst false 1 a1n a1]) fun x1 x2=>Ac x2<|Ab x1 fun x3 x4=>Ad .i64 x3 fun x5=>Ac x4<|some (At.mk [.sc (.bool (decide (x5<0)))] []))) (Ae C0 Tryz.prog fu d):=by kernel_rfl
abbrev Jh:FuncId:=119
noncomputable def Dp (fu:Nat)(call:Ai)(a0n:Nat)(a0:List PV)(a1 a2:Int)(nn y0:Nat)(y1 y2:Int)(y3:List PV):Option At:=C1 CB Tryz.prog fu call 119 Tryz.f119 (Bw Tryz.f119) [.own 1 a0n a0,.sc (.int .u8 a1),.sc (.int .u64 a2)] [.r,.r,.r,.r,.r,.l,.r,.l] nn ⟨lk [(0,(.view 0 1 0 y0)),(2,(.sc (.int .u64 y1))),(9,(.sc (.int .i64 y2)))],B3 [(0,(.ar false y3))]⟩
theorem Lw (fu:Nat)(call:Ai)(a0n:Nat)(a0:List PV)(a1 a2:Int)(nn y0:Nat)(y1 y2:Int)(y3:List PV):Dp fu call a0n a0 a1 a2 (nn+1) y0 y1 y2 y3=(Bb (decide (y2>=0)) (Aa (wrap .i64 (8*y2)) fun E5=>Ap (decide (0<=E5))<|Aa (Dw .u64 y1 E5) fun E2=>Aa (wrap .u8 E2) fun Fl=>Ap (decide (y0*1<=y3.length)&&true&&decide ((y0+1)*1<=1099511627776)&&decide (y0+1<=1099511627776))<|Aa (y0+1) fun He=>Aa (List.take (y0*1) y3++[.sc (.int .u8 Fl)]) fun Gn=>Aa (wrap .i64 (y2-1)) fun Hf=>Dp fu call a0n a0 a1 a2 (nn) He (y1) Hf Gn) (Ap (decide (y0*1<=y3.length))<|some (At.mk [.own 1 y0 (List.take (y0*1) y3)] []))):=by kernel_rfl
theorem BU (fu d a0n:Nat)(a0:List PV)(a1 a2:Int):Ae C0 Tryz.prog fu (d+1) Jh [.own 1 a0n a0,.sc (.int .u8 a1),.sc (.int .u64 a2)]=(fun (call:Ai)=>Aa (Gl .u8 a1 5) fun x1=>Bb (decide (a2<24)) (Aa (wrap .u8 a2) fun x2=>Aa (wrap .u8 (x1+x2)) fun x3=>Ap (decide (a0n*1<=a0.length)&&true&&decide ((a0n+1)*1<=1099511627776)&&decide (a0n+1<=1099511627776))<|Aa (a0n+1) fun x4=>Aa (List.take (a0n*1) a0++[.sc (.int .u8 x3)]) fun x5=>Ap (decide (x4*1<=x5.length))<|some (At.mk [.own 1 x4 (List.take (x4*1) x5)] [])) (Bb (decide (a2<256)) (Aa (wrap .u8 (x1+24)) fun x6=>Ap (decide (a0n*1<=a0.length)&&true&&decide ((a0n+1)*1<=1099511627776)&&decide (a0n+1<=1099511627776))<|Aa (a0n+1) fun x7=>Aa (List.take (a0n*1) a0++[.sc (.int .u8 x6)]) fun x8=>Dp fu call a0n a0 a1 a2 (fu) x7 (a2) 0 x8) (Bb (decide (a2<65536)) (Aa (wrap .u8 (x1+25)) fun x9=>Ap (decide (a0n*1<=a0.length)&&true&&decide ((a0n+1)*1<=1099511627776)&&decide (a0n+1<=1099511627776))<|Aa (a0n+1) fun Ch=>Aa (List.take (a0n*1) a0++[.sc (.int .u8 x9)]) fun Cm=>Dp fu call a0n a0 a1 a2 (fu) Ch (a2) 1 Cm) (Bb (decide (a2<4294967296)) (Aa (wrap .u8 (x1+26)) fun Dg=>Ap (decide (a0n*1<=a0.length)&&true&&decide ((a0n+1)*1<=1099511627776)&&decide (a0n+1<=1099511627776))<|Aa (a0n+1) fun Do=>Aa (List.take (a0n*1) a0++[.sc (.int .u8 Dg)]) fun Dd=>Dp fu call a0n a0 a1 a2 (fu) Do (a2) 3 Dd) (Aa (wrap .u8 (x1+27)) fun Dx=>Ap (decide (a0n*1<=a0.length)&&true&&decide ((a0n+1)*1<=1099511627776)&&decide (a0n+1<=1099511627776))<|Aa (a0n+1) fun D5=>Aa (List.take (a0n*1) a0++[.sc (.int .u8 Dx)]) fun Em=>Dp fu call a0n a0 a1 a2 (fu) D5 (a2) 7 Em))))) (Ae C0 Tryz.prog fu d):=by kernel_rfl
abbrev P5:FuncId:=102
theorem AY (fu d a0n:Nat)(a0:List PV)(a1_0 a1_1:Int)(a1_2:ByteArray):Ae C0 Tryz.prog fu (d+1) P5 [.own 1 a0n a0,.agg [.sc (.int .i64 a1_0),.sc (.int .u64 a1_1),.sc (.string a1_2)]]=(fun (call:Ai)=>Bb (a1_0==7) (Aa (wrap .u8 a1_1) fun x1=>Aa (wrap .u8 (244+x1)) fun x2=>Ap (decide (a0n*1<=a0.length)&&true&&decide ((a0n+1)*1<=1099511627776)&&decide (a0n+1<=1099511627776))<|Aa (a0n+1) fun x3=>Aa (List.take (a0n*1) a0++[.sc (.int .u8 x2)]) fun x4=>Ap (decide (x3*1<=x4.length))<|some (At.mk [.own 1 x3 (List.take (x3*1) x4)] [])) (Bb (a1_0==8) (Ap (decide (a0n*1<=a0.length)&&true&&decide ((a0n+1)*1<=1099511627776)&&decide (a0n+1<=1099511627776))<|Aa (a0n+1) fun x5=>Aa (List.take (a0n*1) a0++[.sc (.int .u8 246)]) fun x6=>Ap (decide (x5*1<=x6.length))<|some (At.mk [.own 1 x5 (List.take (x5*1) x6)] [])) (Bb (a1_0==3) (Aa (wrap .i64 (a1_0-1)) fun x7=>Aa (wrap .u8 x7) fun x8=>Aa (wrap .u64 (↑(ByteArray.size a1_2):Int)) fun x9=>Ap (decide (a0n*1<=a0.length))<|Ag (call 119 [.own 1 a0n (List.take (a0n*1) a0),.sc (.int .u8 x8),.sc (.int .u64 x9)]) fun Ch Cm=>Ab Ch fun Dg Do=>Ea 1 Dg fun Dd Dx=>Ac Do<|Ac Cm<|Ap (decide (Dd*1<=Dx.length)&&decide (List.length (Di a1_2)=ByteArray.size a1_2*1)&&decide ((Dd+ByteArray.size a1_2)*1<=1099511627776)&&decide (Dd+ByteArray.size a1_2<=1099511627776))<|Aa (Dd+ByteArray.size a1_2) fun D5=>Aa (List.take (Dd*1) Dx++Di a1_2) fun Em=>Ap (decide (D5*1<=Em.length))<|some (At.mk [.own 1 D5 (List.take (D5*1) Em)] [])) (Bb (a1_0==4) (Aa (wrap .i64 (a1_0-1)) fun E5=>Aa (wrap .u8 E5) fun E2=>Aa (wrap .u64 (↑(ByteArray.size a1_2):Int)) fun Fl=>Ap (decide (a0n*1<=a0.length))<|Ag (call 119 [.own 1 a0n (List.take (a0n*1) a0),.sc (.int .u8 E2),.sc (.int .u64 Fl)]) fun He Gn=>Ab He fun Hf Dv=>Ea 1 Hf fun Df Fw=>Ac Dv<|Ac Gn<|Ap (decide (Df*1<=Fw.length)&&decide (List.length (Di a1_2)=ByteArray.size a1_2*1)&&decide ((Df+ByteArray.size a1_2)*1<=1099511627776)&&decide (Df+ByteArray.size a1_2<=1099511627776))<|Aa (Df+ByteArray.size a1_2) fun Hs=>Aa (List.take (Df*1) Fw++Di a1_2) fun Ev=>Ap (decide (Hs*1<=Ev.length))<|some (At.mk [.own 1 Hs (List.take (Hs*1) Ev)] [])) (Aa (wrap .i64 (a1_0-1)) fun Jd=>Aa (wrap .u8 Jd) fun Lq=>Ap (decide (a0n*1<=a0.length))<|Ag (call 119 [.own 1 a0n (List.take (a0n*1) a0),.sc (.int .u8 Lq),.sc (.int .u64 a1_1)]) fun J1 Mk=>Ab J1 fun Lm Mt=>Ea 1 Lm fun Pu Rh=>Ac Mt<|Ac Mk<|Ap (decide (Pu*1<=Rh.length))<|some (At.mk [.own 1 Pu (List.take (Pu*1) Rh)] [])))))) (Ae C0 Tryz.prog fu d):=by kernel_rfl
abbrev Ru:FuncId:=90
theorem DX (fu d a0_0n:Nat)(a0_0:List PV)(a0_1:Int):Ae C0 Tryz.prog fu (d+1) Ru [.pbox [.own 3 a0_0n a0_0,.sc (.int .i64 a0_1)]]=(fun (call:Ai)=>Bb (decide (a0_1>0)) (Ap (decide (a0_0n*3<=a0_0.length))<|some (At.mk [.sc (.bool ((↑a0_0n:Int)==0))] [[.own 3 a0_0n (List.take (a0_0n*3) a0_0),.sc (.int .i64 a0_1)]])) (Ap (decide (a0_0n*3<=a0_0.length))<|some (At.mk [.sc (.bool false)] [[.own 3 a0_0n (List.take (a0_0n*3) a0_0),.sc (.int .i64 a0_1)]]))) (Ae C0 Tryz.prog fu d):=by kernel_rfl
abbrev Qa:FuncId:=128
theorem BP (fu d a0_0n:Nat)(a0_0:List PV)(a0_1:Int):Ae C0 Tryz.prog fu (d+1) Qa [.pbox [.own 3 a0_0n a0_0,.sc (.int .i64 a0_1)]]=(fun (call:Ai)=>Bb (decide ((↑a0_0n:Int)>0)) (Aa (wrap .i64 ((↑a0_0n:Int)-1)) fun x1=>Ap (decide (0<=x1)&&decide (x1<(↑a0_0n:Int)))<|Bm (List.getD a0_0 (0+Int.toNat x1*3+0) .top) fun x2=>Bb x2 (Aa (wrap .i64 ((↑a0_0n:Int)-1)) fun x3=>Ap (decide (0<=x3)&&decide (x3<(↑a0_0n:Int)))<|Ad .i64 (List.getD a0_0 (0+Int.toNat x3*3+1) .top) fun x4=>Aa (Int.tmod x4 2) fun x5=>Ap (decide (a0_0n*3<=a0_0.length))<|some (At.mk [.sc (.bool (x5==0))] [[.own 3 a0_0n (List.take (a0_0n*3) a0_0),.sc (.int .i64 a0_1)]])) (Ap (decide (a0_0n*3<=a0_0.length))<|some (At.mk [.sc (.bool false)] [[.own 3 a0_0n (List.take (a0_0n*3) a0_0),.sc (.int .i64 a0_1)]]))) (Ap (decide (a0_0n*3<=a0_0.length))<|some (At.mk [.sc (.bool false)] [[.own 3 a0_0n (List.take (a0_0n*3) a0_0),.sc (.int .i64 a0_1)]]))) (Ae C0 Tryz.prog fu d):=by kernel_rfl
abbrev Ql:FuncId:=114
theorem BW (fu d a0_0n:Nat)(a0_0:List PV)(a0_1 a1:Int):Ae C0 Tryz.prog fu (d+1) Ql [.pbox [.own 3 a0_0n a0_0,.sc (.int .i64 a0_1)],.sc (.int .i64 a1)]=(fun (call:Ai)=>Bb (decide (a0_1>=512)) (Ap (decide (a0_0n*3<=a0_0.length))<|some (At.mk [.sc (.int .i64 8)] [[.own 3 a0_0n (List.take (a0_0n*3) a0_0),.sc (.int .i64 a0_1)]])) (Bb (decide (a1<1)) (Ap (decide (a0_0n*3<=a0_0.length))<|some (At.mk [.sc (.int .i64 3)] [[.own 3 a0_0n (List.take (a0_0n*3) a0_0),.sc (.int .i64 a0_1)]])) (Bb (decide (a1>8)) (Ap (decide (a0_0n*3<=a0_0.length))<|some (At.mk [.sc (.int .i64 3)] [[.own 3 a0_0n (List.take (a0_0n*3) a0_0),.sc (.int .i64 a0_1)]])) (Ap (decide (a0_0n*3<=a0_0.length))<|Ag (call 128 [.pbox [.own 3 a0_0n (List.take (a0_0n*3) a0_0),.sc (.int .i64 a0_1)]]) fun x1 x2=>Ab x1 fun x3 x4=>Bm x3 fun x5=>Ac x4<|Ab x2 fun x6 x7=>Ab x6 fun x8 x9=>Ea 3 x8 fun Ch Cm=>Ab x9 fun Dg Do=>Ad .i64 Dg fun Dd=>Ac Do<|Ac x7<|Bb x5 (Bb (a1 != 1) (Bb (a1 != 2) (Bb (a1 != 4) (Ap (decide (Ch*3<=Cm.length))<|some (At.mk [.sc (.int .i64 3)] [[.own 3 Ch (List.take (Ch*3) Cm),.sc (.int .i64 Dd)]])) (Bb (decide ((↑Ch:Int)>8)) (Ap (decide (Ch*3<=Cm.length))<|some (At.mk [.sc (.int .i64 5)] [[.own 3 Ch (List.take (Ch*3) Cm),.sc (.int .i64 Dd)]])) (Ap (decide (Ch*3<=Cm.length))<|some (At.mk [.sc (.int .i64 0)] [[.own 3 Ch (List.take (Ch*3) Cm),.sc (.int .i64 Dd)]])))) (Bb (decide ((↑Ch:Int)>8)) (Ap (decide (Ch*3<=Cm.length))<|some (At.mk [.sc (.int .i64 5)] [[.own 3 Ch (List.take (Ch*3) Cm),.sc (.int .i64 Dd)]])) (Ap (decide (Ch*3<=Cm.length))<|some (At.mk [.sc (.int .i64 0)] [[.own 3 Ch (List.take (Ch*3) Cm),.sc (.int .i64 Dd)]])))) (Bb (decide ((↑Ch:Int)>8)) (Ap (decide (Ch*3<=Cm.length))<|some (At.mk [.sc (.int .i64 5)] [[.own 3 Ch (List.take (Ch*3) Cm),.sc (.int .i64 Dd)]])) (Ap (decide (Ch*3<=Cm.length))<|some (At.mk [.sc (.int .i64 0)] [[.own 3 Ch (List.take (Ch*3) Cm),.sc (.int .i64 Dd)]])))) (Bb (decide ((↑Ch:Int)>8)) (Ap (decide (Ch*3<=Cm.length))<|some (At.mk [.sc (.int .i64 5)] [[.own 3 Ch (List.take (Ch*3) Cm),.sc (.int .i64 Dd)]])) (Ap (decide (Ch*3<=Cm.length))<|some (At.mk [.sc (.int .i64 0)] [[.own 3 Ch (List.take (Ch*3) Cm),.sc (.int .i64 Dd)]]))))))) (Ae C0 Tryz.prog fu d):=by kernel_rfl
abbrev Q5:FuncId:=130
noncomputable def A7 (fu:Nat)(call:Ai)(a0_0n:Nat)(a0_0:List PV)(a0_1 a1_0 a1_1:Int)(a1_2:ByteArray)(nn:Nat)(y0:Int)(y1:Nat)(y2:Int)(y3:List PV):Option At:=C1 CB Tryz.prog fu call 130 Tryz.f130 (Bw Tryz.f130) [.pbox [.own 3 a0_0n a0_0,.sc (.int .i64 a0_1)],.agg [.sc (.int .i64 a1_0),.sc (.int .u64 a1_1),.sc (.string a1_2)]] [.r,.r,.r,.r,.r,.r,.l] nn ⟨lk [(0,(.ptr 212000 0)),(5,(.sc (.int .i64 y0)))],B3 [(212000,(.st [(.view 212106 3 0 y1),(.sc (.int .i64 y2))])),(212106,(.ar false y3))]⟩
theorem M6 (fu:Nat)(call:Ai)(a0_0n:Nat)(a0_0:List PV)(a0_1 a1_0 a1_1:Int)(a1_2:ByteArray)(nn:Nat)(y0:Int)(y1:Nat)(y2:Int)(y3:List PV):A7 fu call a0_0n a0_0 a0_1 a1_0 a1_1 a1_2 (nn+1) y0 y1 y2 y3=(Bb (decide (y0>0)) (Aa (wrap .i64 (y0-1)) fun Rh=>Ap (decide (0<=Rh)&&decide (Rh<(↑y1:Int)))<|Ad .i64 (List.getD y3 (0+Int.toNat Rh*3+1) .top) fun Sa=>Bb (Sa==0) (Aa (wrap .i64 (y0-1)) fun Gv=>Ap (decide (0<=Gv))<|Ap (decide (Int.toNat Gv<=y1))<|Aa (Int.toNat Gv-0) fun Id=>Aa (wrap .i64 (y0-1)) fun Tv=>A7 fu call a0_0n a0_0 a0_1 a1_0 a1_1 a1_2 (nn) Tv Id (y2) (y3)) (Ap (decide (y1*3<=y3.length))<|some (At.mk [] [[.own 3 y1 (List.take (y1*3) y3),.sc (.int .i64 y2)]]))) (Ap (decide (y1*3<=y3.length))<|some (At.mk [] [[.own 3 y1 (List.take (y1*3) y3),.sc (.int .i64 y2)]]))):=by kernel_rfl
theorem ET (fu d a0_0n:Nat)(a0_0:List PV)(a0_1 a1_0 a1_1:Int)(a1_2:ByteArray):Ae C0 Tryz.prog fu (d+1) Q5 [.pbox [.own 3 a0_0n a0_0,.sc (.int .i64 a0_1)],.agg [.sc (.int .i64 a1_0),.sc (.int .u64 a1_1),.sc (.string a1_2)]]=(fun (call:Ai)=>Aa (wrap .i64 (a0_1+1)) fun x1=>Bb (decide ((↑a0_0n:Int)>0)) (Aa (wrap .i64 ((↑a0_0n:Int)-1)) fun x2=>Ap (decide (0<=x2)&&decide (x2<(↑a0_0n:Int)))<|Ad .i64 (List.getD a0_0 (0+Int.toNat x2*3+1) .top) fun x3=>Aa (wrap .i64 (x3-1)) fun x4=>Ap (decide (0<=x2)&&decide (x2<(↑a0_0n:Int)))<|Ap (decide (0+Int.toNat x2*3+1+1<=a0_0.length))<|Aa (Bf a0_0 [.sc (.int .i64 x4)] (0+Int.toNat x2*3+1)) fun x5=>Bb (a1_0==5) (Bb (decide (a1_1>0)) (Aa (wrap .i64 a1_1) fun x6=>Ap (decide (a0_0n*3<=x5.length)&&true&&decide ((a0_0n+1)*40<=1099511627776)&&decide (a0_0n+1<=1099511627776))<|Aa (a0_0n+1) fun x7=>Aa (List.take (a0_0n*3) x5++[.sc (.bool false),.sc (.int .i64 x6),.lst false 1 0 []]) fun x8=>Bb (a1_0==6) (Bb (decide (a1_1>0)) (Aa (wrap .i64 a1_1) fun x9=>Aa (wrap .i64 (2*x9)) fun Ch=>Ap (decide (x7*3<=x8.length)&&true&&decide ((x7+1)*40<=1099511627776)&&decide (x7+1<=1099511627776))<|Aa (x7+1) fun Cm=>Aa (List.take (x7*3) x8++[.sc (.bool true),.sc (.int .i64 Ch),.lst false 1 0 []]) fun Dg=>A7 fu call a0_0n a0_0 a0_1 a1_0 a1_1 a1_2 (fu) ((↑Cm:Int)) Cm x1 Dg) (A7 fu call a0_0n a0_0 a0_1 a1_0 a1_1 a1_2 (fu) ((↑x7:Int)) x7 x1 x8)) (A7 fu call a0_0n a0_0 a0_1 a1_0 a1_1 a1_2 (fu) ((↑x7:Int)) x7 x1 x8)) (Bb (a1_0==6) (Bb (decide (a1_1>0)) (Aa (wrap .i64 a1_1) fun Do=>Aa (wrap .i64 (2*Do)) fun Dd=>Ap (decide (a0_0n*3<=x5.length)&&true&&decide ((a0_0n+1)*40<=1099511627776)&&decide (a0_0n+1<=1099511627776))<|Aa (a0_0n+1) fun Dx=>Aa (List.take (a0_0n*3) x5++[.sc (.bool true),.sc (.int .i64 Dd),.lst false 1 0 []]) fun D5=>A7 fu call a0_0n a0_0 a0_1 a1_0 a1_1 a1_2 (fu) ((↑Dx:Int)) Dx x1 D5) (A7 fu call a0_0n a0_0 a0_1 a1_0 a1_1 a1_2 (fu) ((↑a0_0n:Int)) (a0_0n) x1 x5)) (A7 fu call a0_0n a0_0 a0_1 a1_0 a1_1 a1_2 (fu) ((↑a0_0n:Int)) (a0_0n) x1 x5))) (Bb (a1_0==6) (Bb (decide (a1_1>0)) (Aa (wrap .i64 a1_1) fun Em=>Aa (wrap .i64 (2*Em)) fun E5=>Ap (decide (a0_0n*3<=x5.length)&&true&&decide ((a0_0n+1)*40<=1099511627776)&&decide (a0_0n+1<=1099511627776))<|Aa (a0_0n+1) fun E2=>Aa (List.take (a0_0n*3) x5++[.sc (.bool true),.sc (.int .i64 E5),.lst false 1 0 []]) fun Fl=>A7 fu call a0_0n a0_0 a0_1 a1_0 a1_1 a1_2 (fu) ((↑E2:Int)) E2 x1 Fl) (A7 fu call a0_0n a0_0 a0_1 a1_0 a1_1 a1_2 (fu) ((↑a0_0n:Int)) (a0_0n) x1 x5)) (A7 fu call a0_0n a0_0 a0_1 a1_0 a1_1 a1_2 (fu) ((↑a0_0n:Int)) (a0_0n) x1 x5))) (Bb (a1_0==5) (Bb (decide (a1_1>0)) (Aa (wrap .i64 a1_1) fun He=>Ap (decide (a0_0n*3<=a0_0.length)&&true&&decide ((a0_0n+1)*40<=1099511627776)&&decide (a0_0n+1<=1099511627776))<|Aa (a0_0n+1) fun Gn=>Aa (List.take (a0_0n*3) a0_0++[.sc (.bool false),.sc (.int .i64 He),.lst false 1 0 []]) fun Hf=>Bb (a1_0==6) (Bb (decide (a1_1>0)) (Aa (wrap .i64 a1_1) fun Dv=>Aa (wrap .i64 (2*Dv)) fun Df=>Ap (decide (Gn*3<=Hf.length)&&true&&decide ((Gn+1)*40<=1099511627776)&&decide (Gn+1<=1099511627776))<|Aa (Gn+1) fun Fw=>Aa (List.take (Gn*3) Hf++[.sc (.bool true),.sc (.int .i64 Df),.lst false 1 0 []]) fun Hs=>A7 fu call a0_0n a0_0 a0_1 a1_0 a1_1 a1_2 (fu) ((↑Fw:Int)) Fw x1 Hs) (A7 fu call a0_0n a0_0 a0_1 a1_0 a1_1 a1_2 (fu) ((↑Gn:Int)) Gn x1 Hf)) (A7 fu call a0_0n a0_0 a0_1 a1_0 a1_1 a1_2 (fu) ((↑Gn:Int)) Gn x1 Hf)) (Bb (a1_0==6) (Bb (decide (a1_1>0)) (Aa (wrap .i64 a1_1) fun Ev=>Aa (wrap .i64 (2*Ev)) fun Jd=>Ap (decide (a0_0n*3<=a0_0.length)&&true&&decide ((a0_0n+1)*40<=1099511627776)&&decide (a0_0n+1<=1099511627776))<|Aa (a0_0n+1) fun Lq=>Aa (List.take (a0_0n*3) a0_0++[.sc (.bool true),.sc (.int .i64 Jd),.lst false 1 0 []]) fun J1=>A7 fu call a0_0n a0_0 a0_1 a1_0 a1_1 a1_2 (fu) ((↑Lq:Int)) Lq x1 J1) (A7 fu call a0_0n a0_0 a0_1 a1_0 a1_1 a1_2 (fu) ((↑a0_0n:Int)) (a0_0n) x1 (a0_0))) (A7 fu call a0_0n a0_0 a0_1 a1_0 a1_1 a1_2 (fu) ((↑a0_0n:Int)) (a0_0n) x1 (a0_0)))) (Bb (a1_0==6) (Bb (decide (a1_1>0)) (Aa (wrap .i64 a1_1) fun Mk=>Aa (wrap .i64 (2*Mk)) fun Lm=>Ap (decide (a0_0n*3<=a0_0.length)&&true&&decide ((a0_0n+1)*40<=1099511627776)&&decide (a0_0n+1<=1099511627776))<|Aa (a0_0n+1) fun Mt=>Aa (List.take (a0_0n*3) a0_0++[.sc (.bool true),.sc (.int .i64 Lm),.lst false 1 0 []]) fun Pu=>A7 fu call a0_0n a0_0 a0_1 a1_0 a1_1 a1_2 (fu) ((↑Mt:Int)) Mt x1 Pu) (A7 fu call a0_0n a0_0 a0_1 a1_0 a1_1 a1_2 (fu) ((↑a0_0n:Int)) (a0_0n) x1 (a0_0))) (A7 fu call a0_0n a0_0 a0_1 a1_0 a1_1 a1_2 (fu) ((↑a0_0n:Int)) (a0_0n) x1 (a0_0))))) (Ae C0 Tryz.prog fu d):=by kernel_rfl
abbrev Iq:FuncId:=115
theorem Ir (fu d a0_0n:Nat)(a0_0:List PV)(a0_1 a1_0 a1_1:Int)(a1_2:ByteArray):Ae C0 Tryz.prog fu (d+1) Iq [.pbox [.own 3 a0_0n a0_0,.sc (.int .i64 a0_1)],.agg [.sc (.int .i64 a1_0),.sc (.int .u64 a1_1),.sc (.string a1_2)]]=(fun (call:Ai)=>Bb (a1_0==4) (Ag (call 56 [.sc (.string a1_2)]) fun x1 x2=>Ac x2<|Ab x1 fun x3 x4=>Bm x3 fun x5=>Ac x4<|Bb (!x5) (Ap (decide (a0_0n*3<=a0_0.length))<|some (At.mk [.sc (.int .i64 6)] [[.own 3 a0_0n (List.take (a0_0n*3) a0_0),.sc (.int .i64 a0_1)]])) (Ap (decide (a0_0n*3<=a0_0.length))<|Ag (call 128 [.pbox [.own 3 a0_0n (List.take (a0_0n*3) a0_0),.sc (.int .i64 a0_1)]]) fun x6 x7=>Ab x6 fun x8 x9=>Bm x8 fun Ch=>Ac x9<|Ab x7 fun Cm Dg=>Ab Cm fun Do Dd=>Ea 3 Do fun Dx D5=>Ab Dd fun Em E5=>Ad .i64 Em fun E2=>Ac E5<|Ac Dg<|Bb Ch (Aa (wrap .i64 ((↑Dx:Int)-1)) fun Fl=>Ap (decide (0<=Fl)&&decide (Fl<(↑Dx:Int)))<|Ag (call 102 [.own 1 0 [],.agg [.sc (.int .i64 a1_0),.sc (.int .u64 a1_1),.sc (.string a1_2)]]) fun He Gn=>Ab He fun Hf Dv=>Ea 1 Hf fun Df Fw=>Ac Dv<|Ac Gn<|Ha 1 (List.getD D5 (0+Int.toNat Fl*3+0+2) .top) fun Hs Ev Jd=>Bb (decide (0<Ev)) (Ha 1 (List.getD D5 (0+Int.toNat Fl*3+0+2) .top) fun Lq J1 Mk=>Ap (decide (0+Df*1<=Fw.length))<|Ag (call 129 [.lst false 1 J1 Mk,.lst false 1 Df (List.take (Df*1) (List.drop 0 Fw))]) fun Lm Mt=>Ac Mt<|Ab Lm fun Pu Rh=>Bm Pu fun Sa=>Ac Rh<|Bb (!Sa) (Ap (decide (Dx*3<=D5.length))<|some (At.mk [.sc (.int .i64 7)] [[.own 3 Dx (List.take (Dx*3) D5),.sc (.int .i64 E2)]])) (Ap (decide (0+Int.toNat Fl*3+0+2+1<=D5.length))<|Ap (decide (0+Df*1<=Fw.length))<|Aa (Bf D5 [.lst false 1 Df (List.take (Df*1) (List.drop 0 Fw))] (0+Int.toNat Fl*3+0+2)) fun Gv=>Ap (decide (Dx*3<=Gv.length))<|Ag (call 130 [.pbox [.own 3 Dx (List.take (Dx*3) Gv),.sc (.int .i64 E2)],.agg [.sc (.int .i64 a1_0),.sc (.int .u64 a1_1),.sc (.string a1_2)]]) fun Id Tv=>Ac Id<|Ab Tv fun Yk Lo=>Ab Yk fun Ui Tt=>Ea 3 Ui fun Tr Sr=>Ab Tt fun X6 Zh=>Ad .i64 X6 fun Sh=>Ac Zh<|Ac Lo<|Ap (decide (Tr*3<=Sr.length))<|some (At.mk [.sc (.int .i64 0)] [[.own 3 Tr (List.take (Tr*3) Sr),.sc (.int .i64 Sh)]]))) (Xu (Ha 1 (List.getD D5 (0+Int.toNat Fl*3+0+2) .top) fun Wh Xt Xl=>Ap (decide (0+Df*1<=Fw.length))<|Ag (call 129 [.lst false 1 Xt Xl,.lst false 1 Df (List.take (Df*1) (List.drop 0 Fw))]) fun Ov Yq=>Ac Yq<|Ab Ov fun CU AX=>Bm CU fun CY=>Ac AX<|Bb (!CY) (Ap (decide (Dx*3<=D5.length))<|some (At.mk [.sc (.int .i64 7)] [[.own 3 Dx (List.take (Dx*3) D5),.sc (.int .i64 E2)]])) (Ap (decide (0+Int.toNat Fl*3+0+2+1<=D5.length))<|Ap (decide (0+Df*1<=Fw.length))<|Aa (Bf D5 [.lst false 1 Df (List.take (Df*1) (List.drop 0 Fw))] (0+Int.toNat Fl*3+0+2)) fun Ud=>Ap (decide (Dx*3<=Ud.length))<|Ag (call 130 [.pbox [.own 3 Dx (List.take (Dx*3) Ud),.sc (.int .i64 E2)],.agg [.sc (.int .i64 a1_0),.sc (.int .u64 a1_1),.sc (.string a1_2)]]) fun Y2 CQ=>Ac Y2<|Ab CQ fun X1 Ue=>Ab X1 fun CR Vk=>Ea 3 CR fun Xv W8=>Ab Vk fun V9 Xy=>Ad .i64 V9 fun Xr=>Ac Xy<|Ac Ue<|Ap (decide (Xv*3<=W8.length))<|some (At.mk [.sc (.int .i64 0)] [[.own 3 Xv (List.take (Xv*3) W8),.sc (.int .i64 Xr)]]))) (Ap (decide (0+Int.toNat Fl*3+0+2+1<=D5.length))<|Ap (decide (0+Df*1<=Fw.length))<|Aa (Bf D5 [.lst false 1 Df (List.take (Df*1) (List.drop 0 Fw))] (0+Int.toNat Fl*3+0+2)) fun Zy=>Ap (decide (Dx*3<=Zy.length))<|Ag (call 130 [.pbox [.own 3 Dx (List.take (Dx*3) Zy),.sc (.int .i64 E2)],.agg [.sc (.int .i64 a1_0),.sc (.int .u64 a1_1),.sc (.string a1_2)]]) fun Zr CV=>Ac Zr<|Ab CV fun HD EL=>Ab HD fun GB HQ=>Ea 3 GB fun CP V8=>Ab HQ fun MQ MR=>Ad .i64 MQ fun YE=>Ac MR<|Ac EL<|Ap (decide (CP*3<=V8.length))<|some (At.mk [.sc (.int .i64 0)] [[.own 3 CP (List.take (CP*3) V8),.sc (.int .i64 YE)]])))) (Ap (decide (Dx*3<=D5.length))<|Ag (call 130 [.pbox [.own 3 Dx (List.take (Dx*3) D5),.sc (.int .i64 E2)],.agg [.sc (.int .i64 a1_0),.sc (.int .u64 a1_1),.sc (.string a1_2)]]) fun VT SL=>Ac VT<|Ab SL fun TK WH=>Ab TK fun WI UD=>Ea 3 WI fun UC HC=>Ab UD fun QJ WN=>Ad .i64 QJ fun WS=>Ac WN<|Ac WH<|Ap (decide (UC*3<=HC.length))<|some (At.mk [.sc (.int .i64 0)] [[.own 3 UC (List.take (UC*3) HC),.sc (.int .i64 WS)]])))) (Ap (decide (a0_0n*3<=a0_0.length))<|Ag (call 128 [.pbox [.own 3 a0_0n (List.take (a0_0n*3) a0_0),.sc (.int .i64 a0_1)]]) fun VU HY=>Ab VU fun x95 UH=>Bm x95 fun UE=>Ac UH<|Ab HY fun YP CZ=>Ab YP fun Wr Wv=>Ea 3 Wr fun Hc Jj=>Ab Wv fun AE Q4=>Ad .i64 AE fun R7=>Ac Q4<|Ac CZ<|Bb UE (Aa (wrap .i64 ((↑Hc:Int)-1)) fun Je=>Ap (decide (0<=Je)&&decide (Je<(↑Hc:Int)))<|Ag (call 102 [.own 1 0 [],.agg [.sc (.int .i64 a1_0),.sc (.int .u64 a1_1),.sc (.string a1_2)]]) fun Xk Y6=>Ab Xk fun Y1 Y0=>Ea 1 Y1 fun H4 Ji=>Ac Y0<|Ac Y6<|Ha 1 (List.getD Jj (0+Int.toNat Je*3+0+2) .top) fun Y8 Zb Yf=>Bb (decide (0<Zb)) (Ha 1 (List.getD Jj (0+Int.toNat Je*3+0+2) .top) fun EH Zk W0=>Ap (decide (0+H4*1<=Ji.length))<|Ag (call 129 [.lst false 1 Zk W0,.lst false 1 H4 (List.take (H4*1) (List.drop 0 Ji))]) fun Xd Wo=>Ac Wo<|Ab Xd fun Za Vb=>Bm Za fun Yl=>Ac Vb<|Bb (!Yl) (Ap (decide (Hc*3<=Jj.length))<|some (At.mk [.sc (.int .i64 7)] [[.own 3 Hc (List.take (Hc*3) Jj),.sc (.int .i64 R7)]])) (Ap (decide (0+Int.toNat Je*3+0+2+1<=Jj.length))<|Ap (decide (0+H4*1<=Ji.length))<|Aa (Bf Jj [.lst false 1 H4 (List.take (H4*1) (List.drop 0 Ji))] (0+Int.toNat Je*3+0+2)) fun Ox=>Ap (decide (Hc*3<=Ox.length))<|Ag (call 130 [.pbox [.own 3 Hc (List.take (Hc*3) Ox),.sc (.int .i64 R7)],.agg [.sc (.int .i64 a1_0),.sc (.int .u64 a1_1),.sc (.string a1_2)]]) fun Px Ss=>Ac Px<|Ab Ss fun AP Zs=>Ab AP fun Ku DF=>Ea 3 Ku fun Y4 Vu=>Ab DF fun Yu GX=>Ad .i64 Yu fun EF=>Ac GX<|Ac Zs<|Ap (decide (Y4*3<=Vu.length))<|some (At.mk [.sc (.int .i64 0)] [[.own 3 Y4 (List.take (Y4*3) Vu),.sc (.int .i64 EF)]]))) (Xu (Ha 1 (List.getD Jj (0+Int.toNat Je*3+0+2) .top) fun GU DB Yg=>Ap (decide (0+H4*1<=Ji.length))<|Ag (call 129 [.lst false 1 DB Yg,.lst false 1 H4 (List.take (H4*1) (List.drop 0 Ji))]) fun CC EM=>Ac EM<|Ab CC fun DT EZ=>Bm DT fun Zj=>Ac EZ<|Bb (!Zj) (Ap (decide (Hc*3<=Jj.length))<|some (At.mk [.sc (.int .i64 7)] [[.own 3 Hc (List.take (Hc*3) Jj),.sc (.int .i64 R7)]])) (Ap (decide (0+Int.toNat Je*3+0+2+1<=Jj.length))<|Ap (decide (0+H4*1<=Ji.length))<|Aa (Bf Jj [.lst false 1 H4 (List.take (H4*1) (List.drop 0 Ji))] (0+Int.toNat Je*3+0+2)) fun BG=>Ap (decide (Hc*3<=BG.length))<|Ag (call 130 [.pbox [.own 3 Hc (List.take (Hc*3) BG),.sc (.int .i64 R7)],.agg [.sc (.int .i64 a1_0),.sc (.int .u64 a1_1),.sc (.string a1_2)]]) fun BK BO=>Ac BK<|Ab BO fun DA KN=>Ab DA fun NU HF=>Ea 3 NU fun Wz EX=>Ab HF fun IB OB=>Ad .i64 IB fun Ty=>Ac OB<|Ac KN<|Ap (decide (Wz*3<=EX.length))<|some (At.mk [.sc (.int .i64 0)] [[.own 3 Wz (List.take (Wz*3) EX),.sc (.int .i64 Ty)]]))) (Ap (decide (0+Int.toNat Je*3+0+2+1<=Jj.length))<|Ap (decide (0+H4*1<=Ji.length))<|Aa (Bf Jj [.lst false 1 H4 (List.take (H4*1) (List.drop 0 Ji))] (0+Int.toNat Je*3+0+2)) fun NE=>Ap (decide (Hc*3<=NE.length))<|Ag (call 130 [.pbox [.own 3 Hc (List.take (Hc*3) NE),.sc (.int .i64 R7)],.agg [.sc (.int .i64 a1_0),.sc (.int .u64 a1_1),.sc (.string a1_2)]]) fun JP NS=>Ac JP<|Ab NS fun TL IJ=>Ab TL fun NW TQ=>Ea 3 NW fun LM NP=>Ab TQ fun UT IC=>Ad .i64 UT fun NZ=>Ac IC<|Ac IJ<|Ap (decide (LM*3<=NP.length))<|some (At.mk [.sc (.int .i64 0)] [[.own 3 LM (List.take (LM*3) NP),.sc (.int .i64 NZ)]])))) (Ap (decide (Hc*3<=Jj.length))<|Ag (call 130 [.pbox [.own 3 Hc (List.take (Hc*3) Jj),.sc (.int .i64 R7)],.agg [.sc (.int .i64 a1_0),.sc (.int .u64 a1_1),.sc (.string a1_2)]]) fun SY RI=>Ac SY<|Ab RI fun SG Aa1=>Ab SG fun YT Abk=>Ea 3 YT fun VC MO=>Ab Abk fun Aag YW=>Ad .i64 Aag fun ZR=>Ac YW<|Ac Aa1<|Ap (decide (VC*3<=MO.length))<|some (At.mk [.sc (.int .i64 0)] [[.own 3 VC (List.take (VC*3) MO),.sc (.int .i64 ZR)]])))) (Ae C0 Tryz.prog fu d):=by kernel_rfl
abbrev M1:FuncId:=118
theorem Wy (fu d a0_0n:Nat)(a0_0:List PV)(a0_1 a1_0 a1_1:Int)(a1_2:ByteArray):Ae C0 Tryz.prog fu (d+1) M1 [.pbox [.own 3 a0_0n a0_0,.sc (.int .i64 a0_1)],.agg [.sc (.int .i64 a1_0),.sc (.int .u64 a1_1),.sc (.string a1_2)]]=(fun (call:Ai)=>Ap (decide (a0_0n*3<=a0_0.length))<|Ag (call 90 [.pbox [.own 3 a0_0n (List.take (a0_0n*3) a0_0),.sc (.int .i64 a0_1)]]) fun x1 x2=>Ab x1 fun x3 x4=>Bm x3 fun x5=>Ac x4<|Ab x2 fun x6 x7=>Ab x6 fun x8 x9=>Ea 3 x8 fun Ch Cm=>Ab x9 fun Dg Do=>Ad .i64 Dg fun Dd=>Ac Do<|Ac x7<|Bb x5 (Ap (decide (Ch*3<=Cm.length))<|some (At.mk [.sc (.int .i64 2)] [[.own 3 Ch (List.take (Ch*3) Cm),.sc (.int .i64 Dd)]])) (Ap (decide (Ch*3<=Cm.length))<|Ag (call 114 [.pbox [.own 3 Ch (List.take (Ch*3) Cm),.sc (.int .i64 Dd)],.sc (.int .i64 a1_0)]) fun Dx D5=>Ab Dx fun Em E5=>Ad .i64 Em fun E2=>Ac E5<|Ab D5 fun Fl He=>Ab Fl fun Gn Hf=>Ea 3 Gn fun Dv Df=>Ab Hf fun Fw Hs=>Ad .i64 Fw fun Ev=>Ac Hs<|Ac He<|Bb (E2 != 0) (Ap (decide (Dv*3<=Df.length))<|some (At.mk [.sc (.int .i64 E2)] [[.own 3 Dv (List.take (Dv*3) Df),.sc (.int .i64 Ev)]])) (Ag (call 131 [.agg [.sc (.int .i64 a1_0),.sc (.int .u64 a1_1),.sc (.string a1_2)]]) fun Jd Lq=>Ac Lq<|Ab Jd fun J1 Mk=>Bm J1 fun Lm=>Ac Mk<|Bb (!Lm) (Ap (decide (Dv*3<=Df.length))<|some (At.mk [.sc (.int .i64 4)] [[.own 3 Dv (List.take (Dv*3) Df),.sc (.int .i64 Ev)]])) (Bb (decide ((↑(ByteArray.size a1_2):Int)>1024)) (Ap (decide (Dv*3<=Df.length))<|some (At.mk [.sc (.int .i64 8)] [[.own 3 Dv (List.take (Dv*3) Df),.sc (.int .i64 Ev)]])) (Bb (a1_0==5) (Bb (decide (a1_1>512)) (Ap (decide (Dv*3<=Df.length))<|some (At.mk [.sc (.int .i64 8)] [[.own 3 Dv (List.take (Dv*3) Df),.sc (.int .i64 Ev)]])) (Ap (decide (Dv*3<=Df.length))<|Ag (call 115 [.pbox [.own 3 Dv (List.take (Dv*3) Df),.sc (.int .i64 Ev)],.agg [.sc (.int .i64 a1_0),.sc (.int .u64 a1_1),.sc (.string a1_2)]]) fun Mt Pu=>Ab Mt fun Rh Sa=>Ad .i64 Rh fun Gv=>Ac Sa<|Ab Pu fun Id Tv=>Ab Id fun Yk Lo=>Ea 3 Yk fun Ui Tt=>Ab Lo fun Tr Sr=>Ad .i64 Tr fun X6=>Ac Sr<|Ac Tv<|Ap (decide (Ui*3<=Tt.length))<|some (At.mk [.sc (.int .i64 Gv)] [[.own 3 Ui (List.take (Ui*3) Tt),.sc (.int .i64 X6)]]))) (Bb (a1_0==6) (Bb (decide (a1_1>512)) (Ap (decide (Dv*3<=Df.length))<|some (At.mk [.sc (.int .i64 8)] [[.own 3 Dv (List.take (Dv*3) Df),.sc (.int .i64 Ev)]])) (Ap (decide (Dv*3<=Df.length))<|Ag (call 115 [.pbox [.own 3 Dv (List.take (Dv*3) Df),.sc (.int .i64 Ev)],.agg [.sc (.int .i64 a1_0),.sc (.int .u64 a1_1),.sc (.string a1_2)]]) fun Zh Sh=>Ab Zh fun Wh Xt=>Ad .i64 Wh fun Xl=>Ac Xt<|Ab Sh fun Ov Yq=>Ab Ov fun CU AX=>Ea 3 CU fun CY Ud=>Ab AX fun Y2 CQ=>Ad .i64 Y2 fun X1=>Ac CQ<|Ac Yq<|Ap (decide (CY*3<=Ud.length))<|some (At.mk [.sc (.int .i64 Xl)] [[.own 3 CY (List.take (CY*3) Ud),.sc (.int .i64 X1)]]))) (Ap (decide (Dv*3<=Df.length))<|Ag (call 115 [.pbox [.own 3 Dv (List.take (Dv*3) Df),.sc (.int .i64 Ev)],.agg [.sc (.int .i64 a1_0),.sc (.int .u64 a1_1),.sc (.string a1_2)]]) fun Ue CR=>Ab Ue fun Vk Xv=>Ad .i64 Vk fun W8=>Ac Xv<|Ab CR fun V9 Xy=>Ab V9 fun Xr Zy=>Ea 3 Xr fun Zr CV=>Ab Zy fun HD EL=>Ad .i64 HD fun GB=>Ac EL<|Ac Xy<|Ap (decide (Zr*3<=CV.length))<|some (At.mk [.sc (.int .i64 W8)] [[.own 3 Zr (List.take (Zr*3) CV),.sc (.int .i64 GB)]])))))))) (Ae C0 Tryz.prog fu d):=by kernel_rfl
abbrev To:FuncId:=101
noncomputable def Hw (fu:Nat)(call:Ai)(a0n:Nat)(a0:List PV)(nn y0:Nat)(y1:List PV)(y2 y3:Int)(y4:Nat)(y5:Int)(y6:List PV):Option At:=C1 CB Tryz.prog fu call 101 Tryz.f101 (Bw Tryz.f101) [.lst false 3 a0n a0] [.r,.r,.l,.r,.l] nn ⟨lk [(3,(.ptr 3 0)),(7,(.lst false 3 y0 y1)),(8,(.sc (.int .i64 y2))),(9,(.sc (.int .i64 y3)))],B3 [(3,(.st [(.view 25 3 0 y4),(.sc (.int .i64 y5))])),(25,(.ar false y6))]⟩
theorem O4 (fu:Nat)(call:Ai)(a0n:Nat)(a0:List PV)(nn y0:Nat)(y1:List PV)(y2 y3:Int)(y4:Nat)(y5:Int)(y6:List PV):Hw fu call a0n a0 (nn+1) y0 y1 y2 y3 y4 y5 y6=(Bb (decide (y3<y2)) (Ap (decide (0<=y3)&&decide (y3<(↑y0:Int)))<|Ad .i64 (List.getD y1 (Int.toNat y3*3) .top) fun x1=>Ad .u64 (List.getD y1 (Int.toNat y3*3+1) .top) fun x2=>Cw (List.getD y1 (Int.toNat y3*3+1+1) .top) fun x3=>Ap (decide (y4*3<=y6.length))<|Ag (call 118 [.pbox [.own 3 y4 (List.take (y4*3) y6),.sc (.int .i64 y5)],.agg [.sc (.int .i64 x1),.sc (.int .u64 x2),.sc (.string x3)]]) fun x4 x5=>Ab x4 fun x6 x7=>Ad .i64 x6 fun x8=>Ac x7<|Ab x5 fun x9 Ch=>Ab x9 fun Cm Dg=>Ea 3 Cm fun Do Dd=>Ab Dg fun Dx D5=>Ad .i64 Dx fun Em=>Ac D5<|Ac Ch<|Bb (x8 != 0) (some (At.mk [.sc (.int .i64 x8)] [])) (Aa (wrap .i64 (y3+1)) fun E5=>Hw fu call a0n a0 (nn) (y0) (y1) (y2) E5 Do Em Dd)) (Ap (decide (y4*3<=y6.length))<|Ag (call 90 [.pbox [.own 3 y4 (List.take (y4*3) y6),.sc (.int .i64 y5)]]) fun E2 Fl=>Ab E2 fun He Gn=>Bm He fun Hf=>Ac Gn<|Ab Fl fun Dv Df=>Ab Dv fun Fw Hs=>Ea 3 Fw fun Ev Jd=>Ab Hs fun Lq J1=>Ad .i64 Lq fun Mk=>Ac J1<|Ac Df<|Bb (!Hf) (some (At.mk [.sc (.int .i64 1)] [])) (some (At.mk [.sc (.int .i64 0)] [])))):=by kernel_rfl
theorem GT (fu d a0n:Nat)(a0:List PV):Ae C0 Tryz.prog fu (d+1) To [.lst false 3 a0n a0]=(fun (call:Ai)=>Hw fu call a0n a0 (fu) (a0n) (a0) ((↑a0n:Int)) 0 0 0 ([])) (Ae C0 Tryz.prog fu d):=by kernel_rfl
abbrev Vl:FuncId:=100
theorem LJ (fu d a0n:Nat)(a0:List PV):Ae C0 Tryz.prog fu (d+1) Vl [.own 3 a0n a0]=(fun (call:Ai)=>Ap (decide (0+a0n*3<=a0.length))<|Ag (call 101 [.lst false 3 a0n (List.take (a0n*3) (List.drop 0 a0))]) fun x1 x2=>Ac x2<|Ab x1 fun x3 x4=>Ad .i64 x3 fun x5=>Ac x4<|Bb (x5 != 0) (some (At.mk [.own 3 0 [],.sc (.int .i64 x5)] [])) (Ap (decide (a0n*3<=a0.length))<|some (At.mk [.own 3 a0n (List.take (a0n*3) a0),.sc (.int .i64 0)] []))) (Ae C0 Tryz.prog fu d):=by kernel_rfl
abbrev Xp:FuncId:=99
noncomputable def Jr (fu:Nat)(call:Ai)(a0n:Nat)(a0:List PV)(nn y0:Nat)(y1:List PV)(y2 y3:Int):Option At:=C1 CB Tryz.prog fu call 99 Tryz.f99 (Bw Tryz.f99) [.lst false 1 a0n a0] [.r,.l,.r,.l] nn ⟨lk [(6,(.lst false 1 y0 y1)),(7,(.sc (.int .i64 y2))),(8,(.sc (.int .i64 y3)))],B3 []⟩
theorem R8 (fu:Nat)(call:Ai)(a0n:Nat)(a0:List PV)(nn y0:Nat)(y1:List PV)(y2 y3:Int):Jr fu call a0n a0 (nn+1) y0 y1 y2 y3=(Bb (decide (y3<y2)) (Ap (decide (0<=y3)&&decide (y3<(↑y0:Int)))<|Ha 3 (List.getD y1 (Int.toNat y3*1) .top) fun x1 x2 x3=>Ag (call 101 [.lst false 3 x2 x3]) fun x4 x5=>Ac x5<|Ab x4 fun x6 x7=>Ad .i64 x6 fun x8=>Ac x7<|Bb (x8 != 0) (some (At.mk [.sc (.int .i64 x8)] [])) (Aa (wrap .i64 (y3+1)) fun x9=>Jr fu call a0n a0 (nn) (y0) (y1) (y2) x9)) (some (At.mk [.sc (.int .i64 0)] []))):=by kernel_rfl
theorem NY (fu d a0n:Nat)(a0:List PV):Ae C0 Tryz.prog fu (d+1) Xp [.lst false 1 a0n a0]=(fun (call:Ai)=>Jr fu call a0n a0 (fu) (a0n) (a0) ((↑a0n:Int)) 0) (Ae C0 Tryz.prog fu d):=by kernel_rfl
abbrev S7:FuncId:=67
noncomputable def Ll (fu:Nat)(call:Ai)(a0n:Nat)(a0:List PV)(nn y0 y1:Nat)(y2:List PV)(y3 y4:Int)(y5:List PV):Option At:=C1 CB Tryz.prog fu call 67 Tryz.f67 (Bw Tryz.f67) [.lst false 1 a0n a0] [.r,.r,.r,.l,.r,.l] nn ⟨lk [(5,(.view 5 3 0 y0)),(18,(.lst false 1 y1 y2)),(19,(.sc (.int .i64 y3))),(20,(.sc (.int .i64 y4)))],B3 [(5,(.ar false y5))]⟩
theorem Tf (fu:Nat)(call:Ai)(a0n:Nat)(a0:List PV)(nn y0 y1:Nat)(y2:List PV)(y3 y4:Int)(y5:List PV):Ll fu call a0n a0 (nn+1) y0 y1 y2 y3 y4 y5=(Bb (decide (y4<y3)) (Ap (decide (0<=y4)&&decide (y4<(↑y1:Int)))<|Ha 3 (List.getD y2 (Int.toNat y4*1) .top) fun x7 x8 x9=>Bb (decide ((↑y0:Int)>512)) (Ap (decide (y0*3<=y5.length))<|Ag (call 100 [.own 3 y0 (List.take (y0*3) y5)]) fun Ch Cm=>Ab Ch fun Dg Do=>Ea 3 Dg fun Dd Dx=>Ab Do fun D5 Em=>Ad .i64 D5 fun E5=>Ac Em<|Ac Cm<|Ap (decide (Dd*3<=Dx.length))<|some (At.mk [.own 3 Dd (List.take (Dd*3) Dx),.sc (.int .i64 E5)] [])) (Ap (decide (y0*3<=y5.length)&&decide (x9.length=x8*3)&&decide ((y0+x8)*32<=1099511627776)&&decide (y0+x8<=1099511627776))<|Aa (y0+x8) fun E2=>Aa (List.take (y0*3) y5++x9) fun Fl=>Aa (wrap .i64 (y4+1)) fun He=>Ll fu call a0n a0 (nn) E2 (y1) (y2) (y3) He Fl)) (Ap (decide (y0*3<=y5.length))<|Ag (call 100 [.own 3 y0 (List.take (y0*3) y5)]) fun Gn Hf=>Ab Gn fun Dv Df=>Ea 3 Dv fun Fw Hs=>Ab Df fun Ev Jd=>Ad .i64 Ev fun Lq=>Ac Jd<|Ac Hf<|Ap (decide (Fw*3<=Hs.length))<|some (At.mk [.own 3 Fw (List.take (Fw*3) Hs),.sc (.int .i64 Lq)] []))):=by kernel_rfl
theorem SC (fu d a0n:Nat)(a0:List PV):Ae C0 Tryz.prog fu (d+1) S7 [.lst false 1 a0n a0]=(fun (call:Ai)=>Ag (call 99 [.lst false 1 a0n a0]) fun x1 x2=>Ac x2<|Ab x1 fun x3 x4=>Ad .i64 x3 fun x5=>Ac x4<|Bb (x5 != 0) (some (At.mk [.own 3 0 [],.sc (.int .i64 x5)] [])) (Aa (wrap .u64 (↑a0n:Int)) fun x6=>Ll fu call a0n a0 (fu) 1 (a0n) (a0) ((↑a0n:Int)) 0 ([.sc (.int .i64 5),.sc (.int .u64 x6),.sc (.string (ByteArray.mk #[]))]))) (Ae C0 Tryz.prog fu d):=by kernel_rfl
abbrev Qr:FuncId:=72
noncomputable def Jk (fu:Nat)(call:Ai)(a0n:Nat)(a0:List PV)(nn y0 y1:Nat)(y2:List PV)(y3 y4:Int)(y5:List PV):Option At:=C1 CB Tryz.prog fu call 72 Tryz.f72 (Bw Tryz.f72) [.lst false 3 a0n a0] [.r,.r,.r,.l,.r,.l] nn ⟨lk [(5,(.view 5 1 0 y0)),(13,(.lst false 3 y1 y2)),(14,(.sc (.int .i64 y3))),(15,(.sc (.int .i64 y4)))],B3 [(5,(.ar false y5))]⟩
theorem Rg (fu:Nat)(call:Ai)(a0n:Nat)(a0:List PV)(nn y0 y1:Nat)(y2:List PV)(y3 y4:Int)(y5:List PV):Jk fu call a0n a0 (nn+1) y0 y1 y2 y3 y4 y5=(Bb (decide (y4<y3)) (Ap (decide (0<=y4)&&decide (y4<(↑y1:Int)))<|Ad .i64 (List.getD y2 (Int.toNat y4*3) .top) fun x6=>Ad .u64 (List.getD y2 (Int.toNat y4*3+1) .top) fun x7=>Cw (List.getD y2 (Int.toNat y4*3+1+1) .top) fun x8=>Ap (decide (y0*1<=y5.length))<|Ag (call 102 [.own 1 y0 (List.take (y0*1) y5),.agg [.sc (.int .i64 x6),.sc (.int .u64 x7),.sc (.string x8)]]) fun x9 Ch=>Ab x9 fun Cm Dg=>Ea 1 Cm fun Do Dd=>Ac Dg<|Ac Ch<|Aa (wrap .i64 (y4+1)) fun Dx=>Jk fu call a0n a0 (nn) Do (y1) (y2) (y3) Dx Dd) (Ap (decide (y0*1<=y5.length))<|some (At.mk [.own 1 y0 (List.take (y0*1) y5),.sc (.int .i64 0)] []))):=by kernel_rfl
theorem NQ (fu d a0n:Nat)(a0:List PV):Ae C0 Tryz.prog fu (d+1) Qr [.lst false 3 a0n a0]=(fun (call:Ai)=>Ag (call 101 [.lst false 3 a0n a0]) fun x1 x2=>Ac x2<|Ab x1 fun x3 x4=>Ad .i64 x3 fun x5=>Ac x4<|Bb (x5 != 0) (some (At.mk [.own 1 0 [],.sc (.int .i64 x5)] [])) (Jk fu call a0n a0 (fu) 0 (a0n) (a0) ((↑a0n:Int)) 0 ([]))) (Ae C0 Tryz.prog fu d):=by kernel_rfl
end
section
open Go.IntKind (wrap)
set_option maxRecDepth 100000
abbrev Oq:FuncId:=116
noncomputable def Cv (fu:Nat)(call:Ai)(a0_0 a0_1:Int)(a0_2:ByteArray)(nn:Nat)(y0 y1:Int):Option At:=C1 CB Tryz.prog fu call 116 Tryz.f116 (Bw Tryz.f116) [.agg [.sc (.int .i64 a0_0),.sc (.int .u64 a0_1),.sc (.string a0_2)]] [.r,.r,.r] nn ⟨lk [(3,(.sc (.int .u64 y0))),(4,(.sc (.int .u8 y1)))],B3 []⟩
theorem Ts (fu:Nat)(call:Ai)(a0_0 a0_1:Int)(a0_2:ByteArray)(nn:Nat)(hnn:0<nn)(y0 y1:Int):Cv fu call a0_0 a0_1 a0_2 nn y0 y1=(Bb (decide (y0<24)) (Aa (wrap .u8 y0) fun x5=>Aa (wrap .u8 (y1+x5)) fun x6=>some (At.mk [.own 1 1 [.sc (.int .u8 x6)]] [])) (Bb (decide (y0<256)) (Aa (wrap .u8 (y1+24)) fun x7=>Aa (wrap .u8 y0) fun x8=>some (At.mk [.own 1 2 [.sc (.int .u8 x7),.sc (.int .u8 x8)]] [])) (Bb (decide (y0<65536)) (Aa (wrap .u8 (y1+25)) fun x9=>Aa (Dw .u64 y0 8) fun Ch=>Aa (wrap .u8 Ch) fun Cm=>Aa (wrap .u8 y0) fun Dg=>some (At.mk [.own 1 3 [.sc (.int .u8 x9),.sc (.int .u8 Cm),.sc (.int .u8 Dg)]] [])) (Bb (decide (y0<4294967296)) (Aa (wrap .u8 (y1+26)) fun Do=>Aa (Dw .u64 y0 24) fun Dd=>Aa (wrap .u8 Dd) fun Dx=>Aa (Dw .u64 y0 16) fun D5=>Aa (wrap .u8 D5) fun Em=>Aa (Dw .u64 y0 8) fun E5=>Aa (wrap .u8 E5) fun E2=>Aa (wrap .u8 y0) fun Fl=>some (At.mk [.own 1 5 [.sc (.int .u8 Do),.sc (.int .u8 Dx),.sc (.int .u8 Em),.sc (.int .u8 E2),.sc (.int .u8 Fl)]] [])) (Aa (wrap .u8 (y1+27)) fun He=>Ag (call 84 [.lst false 1 1 [.sc (.int .u64 y0)]]) fun Gn Hf=>Ac Hf<|Ab Gn fun Dv Df=>Ea 1 Dv fun Fw Hs=>Ac Df<|Ap (decide (0+Fw*1<=Hs.length))<|Ap (decide (List.length (List.take (Fw*1) (List.drop 0 Hs))=Fw*1)&&decide ((1+Fw)*1<=1099511627776)&&decide (1+Fw<=1099511627776))<|Aa (1+Fw) fun Ev=>Aa ([.sc (.int .u8 He)]++List.take (Fw*1) (List.drop 0 Hs)) fun Jd=>Ap (decide (Ev*1<=Jd.length))<|some (At.mk [.own 1 Ev (List.take (Ev*1) Jd)] [])))))):=by cases nn with|zero=>exact absurd hnn (Nat.lt_irrefl 0)|succ nn=>kernel_rfl
theorem Yn (fu d:Nat)(a0_0 a0_1:Int)(a0_2:ByteArray):Ae C0 Tryz.prog fu (d+1) Oq [.agg [.sc (.int .i64 a0_0),.sc (.int .u64 a0_1),.sc (.string a0_2)]]=(fun (call:Ai)=>Bb (a0_0==7) (Aa (wrap .u8 a0_1) fun x1=>Aa (wrap .u8 (244+x1)) fun x2=>some (At.mk [.own 1 1 [.sc (.int .u8 x2)]] [])) (Bb (a0_0==8) (some (At.mk [.own 1 1 [.sc (.int .u8 246)]] [])) (Bb (a0_0==2) (Cv fu call a0_0 a0_1 a0_2 (fu) (a0_1) 32) (Bb (a0_0==3) (Aa (wrap .u64 (↑(ByteArray.size a0_2):Int)) fun x3=>Cv fu call a0_0 a0_1 a0_2 (fu) x3 64) (Bb (a0_0==4) (Aa (wrap .u64 (↑(ByteArray.size a0_2):Int)) fun x4=>Cv fu call a0_0 a0_1 a0_2 (fu) x4 96) (Bb (a0_0==5) (Cv fu call a0_0 a0_1 a0_2 (fu) (a0_1) 128) (Bb (a0_0==6) (Cv fu call a0_0 a0_1 a0_2 (fu) (a0_1) 160) (Cv fu call a0_0 a0_1 a0_2 (fu) (a0_1) 0)))))))) (Ae C0 Tryz.prog fu d):=by kernel_rfl
abbrev M8:FuncId:=94
theorem W6 (fu d:Nat)(a0_0 a0_1:Int)(a0_2:ByteArray):Ae C0 Tryz.prog fu (d+1) M8 [.agg [.sc (.int .i64 a0_0),.sc (.int .u64 a0_1),.sc (.string a0_2)]]=(fun (call:Ai)=>Ag (call 116 [.agg [.sc (.int .i64 a0_0),.sc (.int .u64 a0_1),.sc (.string a0_2)]]) fun x1 x2=>Ac x2<|Ab x1 fun x3 x4=>Ea 1 x3 fun x5 x6=>Ac x4<|Ap (decide (0+x5*1<=x6.length))<|Ap (decide (List.length (List.take (x5*1) (List.drop 0 x6))=x5))<|Ek (bytesOf (List.take (x5*1) (List.drop 0 x6))) fun x7=>Ap (decide (ByteArray.size (ByteArray.mk (List.toArray x7))+ByteArray.size a0_2<=9223372036854775807))<|Aa (ByteArray.mk (List.toArray x7)++a0_2) fun x8=>some (At.mk [.sc (.string x8)] [])) (Ae C0 Tryz.prog fu d):=by kernel_rfl
end
section
open Go.IntKind (wrap)
def H7 (s:ByteArray):List Int:=s.data.toList.map fun b=>(b.toNat:Int)
def B7 (l:List Int):ByteArray:=⟨(l.map fun n=>n.toNat.toUInt8).toArray⟩
theorem Of (s:ByteArray):(H7 s).length=s.size:=by
 unfold H7;rw [List.length_map];rfl
theorem ZU (s:ByteArray):J2 (H7 s):=by
 intro x hx;obtain ⟨b,_,rfl⟩:=List.mem_map.1 hx;have:=b.toNat_lt;omega
theorem Mf (s:ByteArray):Di s=Af .u8 (H7 s):=by
 unfold Di H7
 induction s.data.toList with
 |nil=>rfl
 |cons b l ih=>rw [Zzw,Zzw,ih];rfl
theorem Fq (l:List Int):(B7 l).size=l.length:=by
 show (l.map fun n=>n.toNat.toUInt8).toArray.size=_
 simp
theorem Np {l:List Int}(h:J2 l):H7 (B7 l)=l:=by
 unfold H7 B7;simp only [List.map_map]
 have:∀l:List Int,J2 l->List.map ((fun b:UInt8=>(b.toNat:Int)) ∘ fun n:Int=>n.toNat.toUInt8) l=l:=by
  intro l
  induction l with
  |nil=>intro _;rfl
  |cons x l ih=>
   intro h;have hx:=h x (by simp)
   rw [Zzw,ih fun y hy=>h y (by simp [hy])]
   congr 1
   show ((x.toNat.toUInt8.toNat:Nat):Int)=x;rw [Nat.toUInt8,UInt8.toNat_ofNat'];omega
 exact this l h
theorem CO (s:ByteArray):B7 (H7 s)=s:=by
 unfold B7 H7;simp only [List.map_map]
 have:∀l:List UInt8,List.map ((fun n:Int=>n.toNat.toUInt8) ∘ fun b:UInt8=>(b.toNat:Int)) l=l:=by
  intro l
  induction l with
  |nil=>rfl
  |cons x l ih=>
   rw [Zzw,ih]
   congr 1
   show ((x.toNat:Int).toNat).toUInt8=x;rw [H2];simp
 rw [this]
theorem Gp:∀l:List Int,bytesOf (Af .u8 l)=some (l.map fun n=>n.toNat.toUInt8)
 |[]=>rfl
 |x::l=>by
  show (bytesOf (Af .u8 l)).map (x.toNat.toUInt8 :: ·)=_
  rw [Gp l];rfl
theorem VD (l:List Int)(s:ByteArray):B7 l++s=B7 (l++H7 s):=by
 conv=>lhs;rw [←CO s]
 unfold B7;apply ByteArray.ext;rw [ByteArray.data_append];simp
def tb (n:Int)(k:Nat):List Int:=(List.range' (8-k) k).map (Cx n)
def Cq (mj n:Int):List Int:=
 if n<24 then [32*mj+n] else if n<256 then (32*mj+24)::tb n 1 else if n<65536 then (32*mj+25)::tb n 2 else if n<4294967296 then (32*mj+26)::tb n 4 else (32*mj+27)::tb n 8
structure It where
 k:Int
 n:Int
 s:ByteArray
def It.cells (x:It):List PV:=[.sc (.int .i64 x.k),.sc (.int .u64 x.n),.sc (.string x.s)]
def Bp (x:It):List Int:=
 if x.k=7 then [wrap .u8 (244+wrap .u8 x.n)] else if x.k=8 then [246] else if x.k=3 then Cq 2 x.s.size++H7 x.s else if x.k=4 then Cq 3 x.s.size++H7 x.s else Cq (x.k-1) x.n
theorem Zm (n:Int)(k:Nat):(tb n k).length=k:=by simp [tb]
theorem Ar2 (n:Int)(k:Nat):J2 (tb n k):=by
 intro x hx;obtain ⟨j,_,rfl⟩:=List.mem_map.1 hx;exact VL n j
theorem Gy (mj n:Int):1<=(Cq mj n).length∧(Cq mj n).length<=9:=by
 unfold Cq
 repeat' split
 all_goals simp [Zm]
theorem RX {mj n:Int}(h0:0<=mj)(h1:mj<=6)(hn:0<=n):J2 (Cq mj n):=by
 have hc:∀(a:Int) (l:List Int),0<=a∧a<=255->J2 l->J2 (a::l):=by
  intro a l ha hl x hx;rcases List.mem_cons.1 hx with rfl|hx
  ·exact ha
  ·exact hl x hx
 unfold Cq
 repeat' split
 ·exact hc _ _ (by omega) (fun _ h=>by simp at h)
 all_goals exact hc _ _ (by omega) (Ar2 _ _)
theorem Ab4 {x:It}(h0:1<=x.k)(h1:x.k<=8)(hn:0<=x.n):J2 (Bp x):=by
 have happ:∀(a b:List Int),J2 a->J2 b->J2 (a++b):=by
  intro a b ha hb y hy;rcases List.mem_append.1 hy with h|h
  ·exact ha y h
  ·exact hb y h
 unfold Bp
 repeat' split
 ·intro y hy;simp at hy;subst hy;simp only [wrap,IntKind.signed,IntKind.bits];simp;omega
 ·intro y hy;simp at hy;omega
 ·exact happ _ _ (RX (by omega) (by omega) (by omega)) (ZU _)
 ·exact happ _ _ (RX (by omega) (by omega) (by omega)) (ZU _)
 ·exact RX (by omega) (by omega) hn
theorem Gh (x:It):(Bp x).length<=9+x.s.size:=by
 unfold Bp;have h2:=Gy 2 x.s.size;have h3:=Gy 3 x.s.size;have h4:=Gy (x.k-1) x.n;have hs:=Of x.s
 repeat' split
 all_goals try simp only [Lf,J4,Z3]
 all_goals omega
section
variable {fu d:Nat}
theorem OR {call:Ai}{a0n:Nat}{a0:List PV}{a1 a2 n:Int}:∀(k nn:Nat)(l:List Int),k<=8->k<nn->l.length+k<=1000000 ->
  Dp fu call a0n a0 a1 a2 nn l.length n ((k:Int)-1) (Af .u8 l)=some ⟨[.own 1 (l++tb n k).length (Af .u8 (l++tb n k))],[]⟩
 |_,0,_,_,h,_=>by omega
 |0,nn+1,l,hk,hn,hl=>by
  have L:=Aj .u8 l;rw [Lw,Da _ _ _ (by omega)]
  simp (disch:=omega) only [Br,Cc,Jf,L];simp [tb]
 |k+1,nn+1,l,hk,hn,hl=>by
  have ih:=OR (call:=call) (a0n:=a0n) (a0:=a0) (a1:=a1) (a2:=a2) (n:=n) k nn (l++[Cx n (8-(k+1))]) (by omega) (by omega) (by simp;omega)
  have L:=Aj .u8 l;have w8:wrap .i64 (8*(((k+1:Nat):Int)-1))=8*(k:Int):=by rw [Ak (by omega) (by omega)];omega
  have w:wrap .i64 (((k+1:Nat):Int)-1-1)=(k:Int)-1:=by rw [Ak (by omega) (by omega)];omega
  have hb:wrap .u8 (Dw .u64 n (8*(k:Int)))=Cx n (8-(k+1)):=by
   unfold Cx;rw [show 56-8*((8-(k+1):Nat):Int)=8*(k:Int) by omega]
  have et:tb n (k+1)=Cx n (8-(k+1))::tb n k:=by
   unfold tb;rw [List.range'_succ,Zzw,show 8-(k+1)+1=8-k by omega]
  have ea:l++tb n (k+1)=l++[Cx n (8-(k+1))]++tb n k:=by rw [et];simp
  rw [ea,←ih,Lw];simp (disch:=omega) only [Br,w8,hb,w,Cc,Jf,L,E6,Lf,J4,Z3,C3]
theorem Ase {mj:Int}(h0:0<=mj)(h1:mj<=7):Gl .u8 mj 5=32*mj:=by
 have:mj=0∨mj=1∨mj=2∨mj=3∨mj=4∨mj=5∨mj=6∨mj=7:=by omega
 rcases this with rfl|rfl|rfl|rfl|rfl|rfl|rfl|rfl<;>decide
theorem Ac9 (hfu:1000<=fu){l:List Int}(hl:l.length<=900000){mj n:Int}(h0:0<=mj)(h1:mj<=5)(hn:0<=n):Ae C0 Tryz.prog fu (d+1) Jh [.own 1 l.length (Af .u8 l),.sc (.int .u8 mj),.sc (.int .u64 n)]=some ⟨[.own 1 (l++Cq mj n).length (Af .u8 (l++Cq mj n))],[]⟩:=by
 rw [BU];have s5:=Ase h0 (by omega)
 have L:=Aj .u8 l;have w24:wrap .u8 (32*mj+24)=32*mj+24:=Fj (by omega) (by omega)
 have w25:wrap .u8 (32*mj+25)=32*mj+25:=Fj (by omega) (by omega)
 have w26:wrap .u8 (32*mj+26)=32*mj+26:=Fj (by omega) (by omega)
 have w27:wrap .u8 (32*mj+27)=32*mj+27:=Fj (by omega) (by omega)
 have lp:=fun (k:Nat) (hk:k<=8) (b:Int)=>OR (fu:=fu) (call:=Ae C0 Tryz.prog fu d) (a0n:=l.length) (a0:=Af .u8 l) (a1:=mj) (a2:=n) (n:=n) k fu (l++[b]) hk (by omega) (by simp;omega)
 have ec:∀(b:Int) (t:List Int),l++b::t=l++[b]++t:=by intro b t;simp
 unfold Cq;by_cases c1:n<24
 ·have wn:wrap .u8 n=n:=Fj (by omega) (by omega)
  have ws:wrap .u8 (32*mj+n)=32*mj+n:=Fj (by omega) (by omega)
  have L1:=Aj .u8 (l++[32*mj+n]);have t1:=Jf .u8 (l++[32*mj+n]);simp only [Lf,J4,Z3,C3] at L1 t1;rw [B4 c1];simp (disch:=omega) only [Br,s5,wn,ws,Cc,Jf,L,E6,L1,t1,Lf,J4,Z3,C3]
 ·by_cases c2:n<256
  ·have l1:=lp 1 (by omega) (32*mj+24)
   rw [show ((1:Nat):Int)-1=0 by omega] at l1
   rw [A6 c1,B4 c2,ec,←l1];simp (disch:=omega) only [Br,s5,w24,Cc,Jf,L,E6,Lf,J4,Z3,C3]
  ·by_cases c3:n<65536
   ·have l1:=lp 2 (by omega) (32*mj+25)
    rw [show ((2:Nat):Int)-1=1 by omega] at l1
    rw [A6 c1,A6 c2,B4 c3,ec,←l1];simp (disch:=omega) only [Br,s5,w25,Cc,Jf,L,E6,Lf,J4,Z3,C3]
   ·by_cases c4:n<4294967296
    ·have l1:=lp 4 (by omega) (32*mj+26)
     rw [show ((4:Nat):Int)-1=3 by omega] at l1
     rw [A6 c1,A6 c2,A6 c3,B4 c4,ec,←l1];simp (disch:=omega) only [Br,s5,w26,Cc,Jf,L,E6,Lf,J4,Z3,C3]
    ·have l1:=lp 8 (by omega) (32*mj+27)
     rw [show ((8:Nat):Int)-1=7 by omega] at l1
     rw [A6 c1,A6 c2,A6 c3,A6 c4,ec,←l1];simp (disch:=omega) only [Br,s5,w27,Cc,Jf,L,E6,Lf,J4,Z3,C3]
structure It.ok (x:It):Prop where
 k1:1<=x.k
 k8:x.k<=8
 n0:0<=x.n
 s0:x.s.size<=500000
theorem Acc (hfu:1000<=fu){l:List Int}(hl:l.length<=300000){x:It}(hx:x.ok):Ae C0 Tryz.prog fu (d+2) P5 [.own 1 l.length (Af .u8 l),.agg x.cells]=some ⟨[.own 1 (l++Bp x).length (Af .u8 (l++Bp x))],[]⟩:=by
 obtain ⟨k,n,s⟩:=x;obtain ⟨k1,k8,n0,s0⟩:=hx;simp only at k1 k8 n0 s0;refine (AY fu (d+1) l.length (Af .u8 l) k n s).trans ?_;have L:=Aj .u8 l;have hsl:=Of s;unfold Bp;simp only;by_cases c7:k=7
 ·subst c7;have L1:=Aj .u8 (l++[wrap .u8 (244+wrap .u8 n)]);have t1:=Jf .u8 (l++[wrap .u8 (244+wrap .u8 n)]);simp only [Lf,J4,Z3,C3] at L1 t1;simp (disch:=omega) only [Br,Ed,if_true,Cc,Jf,L,E6,L1,t1,Lf,J4,Z3,C3]
 ·by_cases c8:k=8
  ·subst c8;have L1:=Aj .u8 (l++[246]);have t1:=Jf .u8 (l++[246]);simp only [Lf,J4,Z3,C3] at L1 t1;rw [A6 c7,B4 rfl];simp (disch:=omega) only [Br,Ed,c7,if_false,if_true,Cc,Jf,L,E6,L1,t1,Lf,J4,Z3,C3]
  ·have dat:∀mj:Int,0<=mj->mj<=5->(Ae C0 Tryz.prog fu (d+1) Jh [.own 1 l.length (Af .u8 l),.sc (.int .u8 mj),.sc (.int .u64 s.size)]=some ⟨[.own 1 (l++Cq mj s.size).length (Af .u8 (l++Cq mj s.size))],[]⟩)∧(l++Cq mj s.size).length<=300009∧List.take (l++Cq mj s.size).length (Af .u8 (l++Cq mj s.size))=Af .u8 (l++Cq mj s.size)∧(Af .u8 (l++Cq mj s.size)).length=(l++Cq mj s.size).length∧Af .u8 (l++Cq mj s.size)++Di s=Af .u8 (l++(Cq mj s.size++H7 s))∧(l++(Cq mj s.size++H7 s)).length=(l++Cq mj s.size).length+s.size∧(Af .u8 (l++(Cq mj s.size++H7 s))).length=(l++Cq mj s.size).length+s.size:=by
    intro mj h0 h1;have hh:=Gy mj s.size;refine ⟨Ac9 hfu (by omega) h0 h1 (by omega),by rw [Lf];omega,Jf _ _,Aj _ _,?_,?_,?_⟩
    ·rw [Mf,←Zzv,Af,Af,Af,List.flatMap_append (xs:=l++Cq mj s.size)]
    ·rw [←Zzv,Lf,hsl]
    ·rw [Aj,←Zzv,Lf,hsl]
   have ss:(Di s).length=s.size:=by rw [Mf,Aj,hsl]
   have wsz:wrap .u64 (s.size:Int)=s.size:=Ci (by omega) (by omega)
   rw [A6 c7,A6 c8];by_cases c3:k=3
   ·subst c3;obtain ⟨p1,p2,p3,p4,p5,p6,p7⟩:=dat 2 (by omega) (by omega)
    have w1:wrap .i64 ((3:Int)-1)=2:=by decide
    have w2:wrap .u8 (2:Int)=2:=by decide
    have t1:List.take ((l++Cq 2 s.size).length+s.size) (Af .u8 (l++(Cq 2 s.size++H7 s)))=Af .u8 (l++(Cq 2 s.size++H7 s)):=Uf (by omega)
    rw [B4 rfl];simp (disch:=omega) only [Br,Ed,c7,c8,if_false,if_true,w1,w2,wsz,Cc,Jf,L,p1];generalize (l++Cq 2 s.size).length=N at *
    simp (disch:=omega) only [Br,Cc,p3,p4,p5,p7,t1,ss];rw [p6]
   ·by_cases c4:k=4
    ·subst c4;obtain ⟨p1,p2,p3,p4,p5,p6,p7⟩:=dat 3 (by omega) (by omega)
     have w1:wrap .i64 ((4:Int)-1)=3:=by decide
     have w2:wrap .u8 (3:Int)=3:=by decide
     have t1:List.take ((l++Cq 3 s.size).length+s.size) (Af .u8 (l++(Cq 3 s.size++H7 s)))=Af .u8 (l++(Cq 3 s.size++H7 s)):=Uf (by omega)
     rw [A6 c3,B4 rfl];simp (disch:=omega) only [Br,Ed,c7,c8,c3,if_false,if_true,w1,w2,wsz,Cc,Jf,L,p1];generalize (l++Cq 3 s.size).length=N at *
     simp (disch:=omega) only [Br,Cc,p3,p4,p5,p7,t1,ss];rw [p6]
    ·have w1:wrap .i64 (k-1)=k-1:=Ak (by omega) (by omega)
     have w2:wrap .u8 (k-1)=k-1:=Fj (by omega) (by omega)
     have p1:=Ac9 (fu:=fu) (d:=d) hfu (l:=l) (by omega) (mj:=k-1) (n:=n) (by omega) (by omega) n0
     have L2:=Aj .u8 (l++Cq (k-1) n);have t2:=Jf .u8 (l++Cq (k-1) n);rw [A6 c3,A6 c4];simp (disch:=omega) only [Br,Ed,c7,c8,c3,c4,if_false,w1,w2,Cc,Jf,L,p1,L2,t2]
end
end
section
open Go.IntKind (wrap)
set_option maxRecDepth 100000
abbrev Kl:FuncId:=48
theorem T0 (fu d:Nat)(a0 a1 a2:Int):Ae C0 Tryz.prog fu (d+1) Kl [.sc (.int .i64 a0),.sc (.int .i64 a1),.sc (.int .i64 a2)]=(fun (call:Ai)=>Bb (decide (a0>=a1)) (some (At.mk [.sc (.bool (decide (a0<=a2)))] [])) (some (At.mk [.sc (.bool false)] []))) (Ae C0 Tryz.prog fu d):=by kernel_rfl
abbrev Lx:FuncId:=59
theorem Vn (fu d:Nat)(a0:Int):Ae C0 Tryz.prog fu (d+1) Lx [.sc (.int .i64 a0)]=(fun (call:Ai)=>Aa (wrap .u64 a0) fun x1=>some (At.mk [.agg [.sc (.int .i64 5),.sc (.int .u64 x1),.sc (.string (ByteArray.mk #[]))]] [])) (Ae C0 Tryz.prog fu d):=by kernel_rfl
abbrev Nd:FuncId:=60
theorem Xc (fu d:Nat)(a0:ByteArray):Ae C0 Tryz.prog fu (d+1) Nd [.sc (.string a0)]=(fun (call:Ai)=>some (At.mk [.agg [.sc (.int .i64 4),.sc (.int .u64 0),.sc (.string a0)]] [])) (Ae C0 Tryz.prog fu d):=by kernel_rfl
abbrev Kf:FuncId:=61
theorem Tx (fu d:Nat)(a0:Int):Ae C0 Tryz.prog fu (d+1) Kf [.sc (.int .u64 a0)]=(fun (call:Ai)=>some (At.mk [.agg [.sc (.int .i64 1),.sc (.int .u64 a0),.sc (.string (ByteArray.mk #[]))]] [])) (Ae C0 Tryz.prog fu d):=by kernel_rfl
abbrev Ng:FuncId:=62
theorem Wx (fu d a0n:Nat)(a0:List PV):Ae C0 Tryz.prog fu (d+1) Ng [.lst false 1 a0n a0]=(fun (call:Ai)=>Ap (decide (a0.length=a0n))<|Ek (bytesOf a0) fun x1=>some (At.mk [.agg [.sc (.int .i64 3),.sc (.int .u64 0),.sc (.string (ByteArray.mk (List.toArray x1)))]] [])) (Ae C0 Tryz.prog fu d):=by kernel_rfl
abbrev Jn:FuncId:=63
theorem S2 (fu d:Nat)(a0:Bool):Ae C0 Tryz.prog fu (d+1) Jn [.sc (.bool a0)]=(fun (call:Ai)=>Bb (a0) (some (At.mk [.agg [.sc (.int .i64 7),.sc (.int .u64 1),.sc (.string (ByteArray.mk #[]))]] [])) (some (At.mk [.agg [.sc (.int .i64 7),.sc (.int .u64 0),.sc (.string (ByteArray.mk #[]))]] []))) (Ae C0 Tryz.prog fu d):=by kernel_rfl
abbrev L8:FuncId:=58
noncomputable def Fk (fu:Nat)(call:Ai)(a0n:Nat)(a0:List PV)(nn y0:Nat)(y1:List PV)(y2:Nat)(y3:Int)(y4:List PV):Option At:=C1 CB Tryz.prog fu call 58 Tryz.f58 (Bw Tryz.f58) [.lst false 3 a0n a0] [.r,.r,.l,.r,.l] nn ⟨lk [(0,(.lst false 3 y0 y1)),(3,(.view 3 1 0 y2)),(4,(.sc (.int .i64 y3)))],B3 [(3,(.ar false y4))]⟩
theorem I4 (fu:Nat)(call:Ai)(a0n:Nat)(a0:List PV)(nn y0:Nat)(y1:List PV)(y2:Nat)(y3:Int)(y4:List PV):Fk fu call a0n a0 (nn+1) y0 y1 y2 y3 y4=(Bb (decide (y3<(↑y0:Int))) (Ap (decide (0<=y3)&&decide (y3<(↑y0:Int)))<|Ad .i64 (List.getD y1 (Int.toNat y3*3) .top) fun x1=>Ad .u64 (List.getD y1 (Int.toNat y3*3+1) .top) fun x2=>Cw (List.getD y1 (Int.toNat y3*3+1+1) .top) fun x3=>Ag (call 94 [.agg [.sc (.int .i64 x1),.sc (.int .u64 x2),.sc (.string x3)]]) fun x4 x5=>Ac x5<|Ab x4 fun x6 x7=>Cw x6 fun x8=>Ac x7<|Ap (decide (y2*1<=y4.length)&&decide (List.length (Di x8)=ByteArray.size x8*1)&&decide ((y2+ByteArray.size x8)*1<=1099511627776)&&decide (y2+ByteArray.size x8<=1099511627776))<|Aa (y2+ByteArray.size x8) fun x9=>Aa (List.take (y2*1) y4++Di x8) fun Ch=>Aa (wrap .i64 (y3+1)) fun Cm=>Fk fu call a0n a0 (nn) (y0) (y1) x9 Cm Ch) (Ap (decide (y2*1<=y4.length))<|some (At.mk [.own 1 y2 (List.take (y2*1) y4)] []))):=by kernel_rfl
theorem Vg (fu d a0n:Nat)(a0:List PV):Ae C0 Tryz.prog fu (d+1) L8 [.lst false 3 a0n a0]=(fun (call:Ai)=>Fk fu call a0n a0 (fu) (a0n) (a0) 0 0 ([])) (Ae C0 Tryz.prog fu d):=by kernel_rfl
abbrev Nj:FuncId:=32
theorem Xf (fu d:Nat)(a0_0 a0_1:ByteArray)(a0_2 a0_3:Int)(a0_4 a0_5 a0_6:Int)(a0_7:Bool)(a0_8 a0_9 a0_10:Int)(a0_11n:Nat)(a0_11:List PV)(a0_12n:Nat)(a0_12:List PV):Ae C0 Tryz.prog fu (d+1) Nj [.agg [.sc (.string a0_0),.sc (.string a0_1),.sc (.int .u64 a0_2),.sc (.int .i64 a0_3),.sc (.int .u64 a0_4),.sc (.int .i64 a0_5),.sc (.int .i64 a0_6),.sc (.bool a0_7),.sc (.int .i64 a0_8),.sc (.int .u64 a0_9),.sc (.int .i64 a0_10),.lst false 1 a0_11n a0_11,.lst false 1 a0_12n a0_12]]=(fun (call:Ai)=>Ag (call 48 [.sc (.int .i64 (↑(ByteArray.size a0_0):Int)),.sc (.int .i64 1),.sc (.int .i64 32)]) fun x1 x2=>Ac x2<|Ab x1 fun x3 x4=>Bm x3 fun x5=>Ac x4<|Bb (!x5) (some (At.mk [.own 1 0 [],.sc (.int .i64 9)] [])) (Ag (call 48 [.sc (.int .i64 (↑(ByteArray.size a0_1):Int)),.sc (.int .i64 1),.sc (.int .i64 32)]) fun x6 x7=>Ac x7<|Ab x6 fun x8 x9=>Bm x8 fun Ch=>Ac x9<|Bb (!Ch) (some (At.mk [.own 1 0 [],.sc (.int .i64 9)] [])) (Ag (call 56 [.sc (.string a0_0)]) fun Cm Dg=>Ac Dg<|Ab Cm fun Do Dd=>Bm Do fun Dx=>Ac Dd<|Bb (!Dx) (some (At.mk [.own 1 0 [],.sc (.int .i64 6)] [])) (Ag (call 56 [.sc (.string a0_1)]) fun D5 Em=>Ac Em<|Ab D5 fun E5 E2=>Bm E5 fun Fl=>Ac E2<|Bb (!Fl) (some (At.mk [.own 1 0 [],.sc (.int .i64 6)] [])) (Ag (call 57 [.agg [.sc (.int .i64 a0_3),.sc (.int .u64 a0_4)]]) fun He Gn=>Ac Gn<|Ab He fun Hf Dv=>Ea 1 Hf fun Df Fw=>Ab Dv fun Hs Ev=>Ad .i64 Hs fun Jd=>Ac Ev<|Bb (Jd != 0) (some (At.mk [.own 1 0 [],.sc (.int .i64 Jd)] [])) (Bb (decide (a0_5<0)) (some (At.mk [.own 1 0 [],.sc (.int .i64 9)] [])) (Bb (decide (a0_6<a0_5)) (some (At.mk [.own 1 0 [],.sc (.int .i64 9)] [])) (Bb (decide (a0_6>1099511627776)) (some (At.mk [.own 1 0 [],.sc (.int .i64 9)] [])) (Ag (call 48 [.sc (.int .i64 a0_8),.sc (.int .i64 0),.sc (.int .i64 2)]) fun Lq J1=>Ac J1<|Ab Lq fun Mk Lm=>Bm Mk fun Mt=>Ac Lm<|Bb (!Mt) (some (At.mk [.own 1 0 [],.sc (.int .i64 9)] [])) (Bb (a0_8 != 0) (Bb (!a0_7) (some (At.mk [.own 1 0 [],.sc (.int .i64 4)] [])) (Ag (call 59 [.sc (.int .i64 9)]) fun Pu Rh=>Ac Rh<|Ab Pu fun Sa Gv=>Dh Sa fun Id=>Ab Id fun Tv Yk=>Ad .i64 Tv fun Lo=>Ab Yk fun Ui Tt=>Ad .u64 Ui fun Tr=>Ab Tt fun Sr X6=>Cw Sr fun Zh=>Ac X6<|Ac Gv<|Ag (call 60 [.sc (.string a0_0)]) fun Sh Wh=>Ac Wh<|Ab Sh fun Xt Xl=>Dh Xt fun Ov=>Ab Ov fun Yq CU=>Ad .i64 Yq fun AX=>Ab CU fun CY Ud=>Ad .u64 CY fun Y2=>Ab Ud fun CQ X1=>Cw CQ fun Ue=>Ac X1<|Ac Xl<|Ag (call 60 [.sc (.string a0_1)]) fun CR Vk=>Ac Vk<|Ab CR fun Xv W8=>Dh Xv fun V9=>Ab V9 fun Xy Xr=>Ad .i64 Xy fun Zy=>Ab Xr fun Zr CV=>Ad .u64 Zr fun HD=>Ab CV fun EL GB=>Cw EL fun HQ=>Ac GB<|Ac W8<|Ag (call 61 [.sc (.int .u64 a0_2)]) fun CP V8=>Ac V8<|Ab CP fun MQ MR=>Dh MQ fun YE=>Ab YE fun VT SL=>Ad .i64 VT fun TK=>Ab SL fun WH WI=>Ad .u64 WH fun UD=>Ab WI fun UC HC=>Cw UC fun QJ=>Ac HC<|Ac MR<|Ap (decide (0+Df*1<=Fw.length))<|Ag (call 62 [.lst false 1 Df (List.take (Df*1) (List.drop 0 Fw))]) fun WN WS=>Ac WS<|Ab WN fun VU HY=>Dh VU fun x95=>Ab x95 fun UH UE=>Ad .i64 UH fun YP=>Ab UE fun CZ Wr=>Ad .u64 CZ fun Wv=>Ab Wr fun Hc Jj=>Cw Hc fun AE=>Ac Jj<|Ac HY<|Aa (wrap .u64 a0_5) fun Q4=>Ag (call 61 [.sc (.int .u64 Q4)]) fun R7 Je=>Ac Je<|Ab R7 fun Xk Y6=>Dh Xk fun Y1=>Ab Y1 fun Y0 H4=>Ad .i64 Y0 fun Ji=>Ab H4 fun Y8 Zb=>Ad .u64 Y8 fun Yf=>Ab Zb fun EH Zk=>Cw EH fun W0=>Ac Zk<|Ac Y6<|Aa (wrap .u64 a0_6) fun Xd=>Ag (call 61 [.sc (.int .u64 Xd)]) fun Wo Za=>Ac Za<|Ab Wo fun Vb Yl=>Dh Vb fun Ox=>Ab Ox fun Px Ss=>Ad .i64 Px fun AP=>Ab Ss fun Zs Ku=>Ad .u64 Zs fun DF=>Ab Ku fun Y4 Vu=>Cw Y4 fun Yu=>Ac Vu<|Ac Yl<|Ag (call 63 [.sc (.bool a0_7)]) fun GX EF=>Ac EF<|Ab GX fun GU DB=>Dh GU fun Yg=>Ab Yg fun CC EM=>Ad .i64 CC fun DT=>Ab EM fun EZ Zj=>Ad .u64 EZ fun BG=>Ab Zj fun BK BO=>Cw BK fun DA=>Ac BO<|Ac DB<|Aa (wrap .u64 a0_8) fun KN=>Ag (call 61 [.sc (.int .u64 KN)]) fun NU HF=>Ac HF<|Ab NU fun Wz EX=>Dh Wz fun IB=>Ab IB fun OB Ty=>Ad .i64 OB fun NE=>Ab Ty fun JP NS=>Ad .u64 JP fun TL=>Ab NS fun IJ NW=>Cw IJ fun TQ=>Ac NW<|Ac EX<|Ag (call 61 [.sc (.int .u64 a0_9)]) fun LM NP=>Ac NP<|Ab LM fun UT IC=>Dh UT fun NZ=>Ab NZ fun SY RI=>Ad .i64 SY fun SG=>Ab RI fun Aa1 YT=>Ad .u64 Aa1 fun Abk=>Ab YT fun VC MO=>Cw VC fun Aag=>Ac MO<|Ac IC<|Ag (call 58 [.lst false 3 10 [.sc (.int .i64 Lo),.sc (.int .u64 Tr),.sc (.string Zh),.sc (.int .i64 AX),.sc (.int .u64 Y2),.sc (.string Ue),.sc (.int .i64 Zy),.sc (.int .u64 HD),.sc (.string HQ),.sc (.int .i64 TK),.sc (.int .u64 UD),.sc (.string QJ),.sc (.int .i64 YP),.sc (.int .u64 Wv),.sc (.string AE),.sc (.int .i64 Ji),.sc (.int .u64 Yf),.sc (.string W0),.sc (.int .i64 AP),.sc (.int .u64 DF),.sc (.string Yu),.sc (.int .i64 DT),.sc (.int .u64 BG),.sc (.string DA),.sc (.int .i64 NE),.sc (.int .u64 TL),.sc (.string TQ),.sc (.int .i64 SG),.sc (.int .u64 Abk),.sc (.string Aag)]]) fun YW ZR=>Ac ZR<|Ab YW fun Ake Ali=>Ea 1 Ake fun LG NA=>Ac Ali<|Ap (decide (LG*1<=NA.length))<|some (At.mk [.own 1 LG (List.take (LG*1) NA),.sc (.int .i64 0)] []))) (Ag (call 59 [.sc (.int .i64 9)]) fun Ahf Agi=>Ac Agi<|Ab Ahf fun TF Agc=>Dh TF fun Ai7=>Ab Ai7 fun Agj Agk=>Ad .i64 Agj fun Ajq=>Ab Agk fun VS SO=>Ad .u64 VS fun Ai2=>Ab SO fun Agv RL=>Cw Agv fun Akk=>Ac RL<|Ac Agc<|Ag (call 60 [.sc (.string a0_0)]) fun TA GW=>Ac GW<|Ab TA fun Ag4 Agx=>Dh Ag4 fun EU=>Ab EU fun Ah5 Ao5=>Ad .i64 Ah5 fun Aaj=>Ab Ao5 fun Aqe Anh=>Ad .u64 Aqe fun Aal=>Ab Anh fun Ao1 Aqg=>Cw Ao1 fun YS=>Ac Aqg<|Ac Agx<|Ag (call 60 [.sc (.string a0_1)]) fun Anj Ao3=>Ac Ao3<|Ab Anj fun Aak Aoz=>Dh Aak fun Aou=>Ab Aou fun Aan Apv=>Ad .i64 Aan fun Apx=>Ab Apv fun Abc Apg=>Ad .u64 Abc fun An8=>Ab Apg fun Aao Amv=>Cw Aao fun Amy=>Ac Amv<|Ac Aoz<|Ag (call 61 [.sc (.int .u64 a0_2)]) fun Arn Aay=>Ac Aay<|Ab Arn fun Abf Ap6=>Dh Abf fun Aoa=>Ab Aoa fun Arr Aa6=>Ad .i64 Arr fun ZK=>Ab Aa6 fun An4 Apo=>Ad .u64 An4 fun Apa=>Ab Apo fun Api Ap4=>Cw Api fun An0=>Ac Ap4<|Ac Ap6<|Ap (decide (0+Df*1<=Fw.length))<|Ag (call 62 [.lst false 1 Df (List.take (Df*1) (List.drop 0 Fw))]) fun Apr An5=>Ac An5<|Ab Apr fun Apu Ao0=>Dh Apu fun Aem=>Ab Aem fun Am8 Aqi=>Ad .i64 Am8 fun Afi=>Ab Aqi fun Apj Ao2=>Ad .u64 Apj fun Arf=>Ab Ao2 fun Apd Ap9=>Cw Apd fun Ao7=>Ac Ap9<|Ac Ao0<|Aa (wrap .u64 a0_5) fun Ap8=>Ag (call 61 [.sc (.int .u64 Ap8)]) fun Aqd Ape=>Ac Ape<|Ab Aqd fun Ang Aqa=>Dh Ang fun An3=>Ab An3 fun Arl Are=>Ad .i64 Arl fun Aq3=>Ab Are fun Amz Apm=>Ad .u64 Amz fun Aq6=>Ab Apm fun Aov Ak7=>Cw Aov fun Ank=>Ac Ak7<|Ac Aqa<|Aa (wrap .u64 a0_6) fun Aoq=>Ag (call 61 [.sc (.int .u64 Aoq)]) fun Amu Aoi=>Ac Aoi<|Ab Amu fun Aoh And=>Dh Aoh fun Aom=>Ab Aom fun Aqb Ane=>Ad .i64 Aqb fun Aqc=>Ab Ane fun Ap5 Apn=>Ad .u64 Ap5 fun Ant=>Ab Apn fun Apf Am5=>Cw Apf fun Anw=>Ac Am5<|Ac And<|Ag (call 63 [.sc (.bool a0_7)]) fun Am6 An7=>Ac An7<|Ab Am6 fun Anb Ann=>Dh Anb fun Anf=>Ab Anf fun Apc Ap0=>Ad .i64 Apc fun Aoy=>Ab Ap0 fun Aph Aqf=>Ad .u64 Aph fun An2=>Ab Aqf fun Ao9 Apl=>Cw Ao9 fun Anl=>Ac Apl<|Ac Ann<|Aa (wrap .u64 a0_8) fun Anu=>Ag (call 61 [.sc (.int .u64 Anu)]) fun Ao4 Aow=>Ac Aow<|Ab Ao4 fun An1 Apw=>Dh An1 fun Ans=>Ab Ans fun Apq Aox=>Ad .i64 Apq fun Apb=>Ab Aox fun Amt Ar7=>Ad .u64 Amt fun Asy=>Ab Ar7 fun Ar0 Ar5=>Cw Ar0 fun Asn=>Ac Ar5<|Ac Apw<|Ag (call 61 [.sc (.int .u64 a0_9)]) fun Ar8 Asr=>Ac Asr<|Ab Ar8 fun As2 As3=>Dh As2 fun Ash=>Ab Ash fun Asq Asg=>Ad .i64 Asq fun Ass=>Ab Asg fun Asw Ar9=>Ad .u64 Asw fun Asv=>Ab Ar9 fun Ar1 Asp=>Cw Ar1 fun Asi=>Ac Asp<|Ac As3<|Ag (call 58 [.lst false 3 10 [.sc (.int .i64 Ajq),.sc (.int .u64 Ai2),.sc (.string Akk),.sc (.int .i64 Aaj),.sc (.int .u64 Aal),.sc (.string YS),.sc (.int .i64 Apx),.sc (.int .u64 An8),.sc (.string Amy),.sc (.int .i64 ZK),.sc (.int .u64 Apa),.sc (.string An0),.sc (.int .i64 Afi),.sc (.int .u64 Arf),.sc (.string Ao7),.sc (.int .i64 Aq3),.sc (.int .u64 Aq6),.sc (.string Ank),.sc (.int .i64 Aqc),.sc (.int .u64 Ant),.sc (.string Anw),.sc (.int .i64 Aoy),.sc (.int .u64 An2),.sc (.string Anl),.sc (.int .i64 Apb),.sc (.int .u64 Asy),.sc (.string Asn),.sc (.int .i64 Ass),.sc (.int .u64 Asv),.sc (.string Asi)]]) fun Asz Ask=>Ac Ask<|Ab Asz fun As0 Asm=>Ea 1 As0 fun Aol Aq0=>Ac Asm<|Ap (decide (Aol*1<=Aq0.length))<|some (At.mk [.own 1 Aol (List.take (Aol*1) Aq0),.sc (.int .i64 0)] [])))))))))))) (Ae C0 Tryz.prog fu d):=by kernel_rfl
abbrev Nk:FuncId:=13
theorem Wt (fu d:Nat)(a0_0 a0_1:ByteArray)(a0_2 a0_3:Int)(a0_4 a0_5 a0_6:Int)(a0_7:Bool)(a0_8 a0_9 a0_10:Int)(a0_11n:Nat)(a0_11:List PV)(a0_12n:Nat)(a0_12:List PV)(a1 a2 a3:Int):Ae C0 Tryz.prog fu (d+1) Nk [.agg [.sc (.string a0_0),.sc (.string a0_1),.sc (.int .u64 a0_2),.sc (.int .i64 a0_3),.sc (.int .u64 a0_4),.sc (.int .i64 a0_5),.sc (.int .i64 a0_6),.sc (.bool a0_7),.sc (.int .i64 a0_8),.sc (.int .u64 a0_9),.sc (.int .i64 a0_10),.lst false 1 a0_11n a0_11,.lst false 1 a0_12n a0_12],.sc (.int .u64 a1),.sc (.int .i64 a2),.sc (.int .i64 a3)]=(fun (call:Ai)=>Ag (call 32 [.agg [.sc (.string a0_0),.sc (.string a0_1),.sc (.int .u64 a0_2),.sc (.int .i64 a0_3),.sc (.int .u64 a0_4),.sc (.int .i64 a0_5),.sc (.int .i64 a0_6),.sc (.bool a0_7),.sc (.int .i64 a0_8),.sc (.int .u64 a0_9),.sc (.int .i64 a0_10),.lst false 1 a0_11n a0_11,.lst false 1 a0_12n a0_12]]) fun x1 x2=>Ac x2<|Ab x1 fun x3 x4=>Ea 1 x3 fun x5 x6=>Ab x4 fun x7 x8=>Ad .i64 x7 fun x9=>Ac x8<|Bb (x9 != 0) (some (At.mk [.agg [.sc (.string (ByteArray.mk #[])),.sc (.string (ByteArray.mk #[])),.sc (.int .u64 0),.sc (.int .i64 0),.sc (.int .u64 0),.sc (.int .i64 0),.sc (.int .i64 0),.sc (.bool false),.sc (.int .i64 0),.sc (.int .u64 0),.sc (.int .i64 0),.lst false 1 0 [],.lst false 1 0 []],.sc (.int .i64 x9)] [])) (Ap (decide (0+x5*1<=x6.length))<|Ag (call 34 [.sc (.int .i64 14),.lst false 1 x5 (List.take (x5*1) (List.drop 0 x6))]) fun Ch Cm=>Ac Cm<|Ab Ch fun Dg Do=>Ad .u64 Dg fun Dd=>Ac Do<|Ag (call 33 [.sc (.int .u64 a1),.sc (.int .i64 a2),.sc (.int .i64 a3),.sc (.int .u64 Dd)]) fun Dx D5=>Ac D5<|Ab Dx fun Em E5=>Dh Em fun E2=>Ab E2 fun Fl He=>Ad .i64 Fl fun Gn=>Ab He fun Hf Dv=>Ea 1 Hf fun Df Fw=>Ab Dv fun Hs Ev=>Ea 1 Hs fun Jd Lq=>Ac Ev<|Ab E5 fun J1 Mk=>Ad .i64 J1 fun Lm=>Ac Mk<|Bb (Lm != 0) (some (At.mk [.agg [.sc (.string (ByteArray.mk #[])),.sc (.string (ByteArray.mk #[])),.sc (.int .u64 0),.sc (.int .i64 0),.sc (.int .u64 0),.sc (.int .i64 0),.sc (.int .i64 0),.sc (.bool false),.sc (.int .i64 0),.sc (.int .u64 0),.sc (.int .i64 0),.lst false 1 0 [],.lst false 1 0 []],.sc (.int .i64 Lm)] [])) (Ap (decide (0+Df*1<=Fw.length))<|Ap (decide (0+Jd*1<=Lq.length))<|some (At.mk [.agg [.sc (.string a0_0),.sc (.string a0_1),.sc (.int .u64 a0_2),.sc (.int .i64 a0_3),.sc (.int .u64 a0_4),.sc (.int .i64 a0_5),.sc (.int .i64 a0_6),.sc (.bool a0_7),.sc (.int .i64 a0_8),.sc (.int .u64 a0_9),.sc (.int .i64 Gn),.lst false 1 Df (List.take (Df*1) (List.drop 0 Fw)),.lst false 1 Jd (List.take (Jd*1) (List.drop 0 Lq))],.sc (.int .i64 0)] [])))) (Ae C0 Tryz.prog fu d):=by kernel_rfl
abbrev Kk:FuncId:=21
theorem Tw (fu d:Nat)(a0_0 a0_1:ByteArray)(a0_2 a0_3:Int)(a0_4 a0_5 a0_6:Int)(a0_7:Bool)(a0_8 a0_9 a0_10:Int)(a0_11n:Nat)(a0_11:List PV)(a0_12n:Nat)(a0_12:List PV)(a1_0 a1_1:Int):Ae C0 Tryz.prog fu (d+1) Kk [.agg [.sc (.string a0_0),.sc (.string a0_1),.sc (.int .u64 a0_2),.sc (.int .i64 a0_3),.sc (.int .u64 a0_4),.sc (.int .i64 a0_5),.sc (.int .i64 a0_6),.sc (.bool a0_7),.sc (.int .i64 a0_8),.sc (.int .u64 a0_9),.sc (.int .i64 a0_10),.lst false 1 a0_11n a0_11,.lst false 1 a0_12n a0_12],.agg [.sc (.int .i64 a1_0),.sc (.int .u64 a1_1)]]=(fun (call:Ai)=>Ag (call 32 [.agg [.sc (.string a0_0),.sc (.string a0_1),.sc (.int .u64 a0_2),.sc (.int .i64 a0_3),.sc (.int .u64 a0_4),.sc (.int .i64 a0_5),.sc (.int .i64 a0_6),.sc (.bool a0_7),.sc (.int .i64 a0_8),.sc (.int .u64 a0_9),.sc (.int .i64 a0_10),.lst false 1 a0_11n a0_11,.lst false 1 a0_12n a0_12]]) fun x1 x2=>Ac x2<|Ab x1 fun x3 x4=>Ea 1 x3 fun x5 x6=>Ab x4 fun x7 x8=>Ad .i64 x7 fun x9=>Ac x8<|Bb (x9 != 0) (some (At.mk [.sc (.int .i64 x9)] [])) (Ap (decide (0+x5*1<=x6.length))<|Ag (call 34 [.sc (.int .i64 14),.lst false 1 x5 (List.take (x5*1) (List.drop 0 x6))]) fun Ch Cm=>Ac Cm<|Ab Ch fun Dg Do=>Ad .u64 Dg fun Dd=>Ac Do<|Ag (call 42 [.agg [.sc (.int .i64 a1_0),.sc (.int .u64 a1_1)],.sc (.int .u64 Dd),.agg [.sc (.int .i64 a0_10),.lst false 1 a0_11n a0_11,.lst false 1 a0_12n a0_12]]) fun Dx D5=>Ac D5<|Ab Dx fun Em E5=>Ad .i64 Em fun E2=>Ac E5<|some (At.mk [.sc (.int .i64 E2)] []))) (Ae C0 Tryz.prog fu d):=by kernel_rfl
abbrev Gj:FuncId:=19
theorem Kr (fu d:Nat)(a0_0 a0_1:ByteArray)(a0_2 a0_3:Int)(a0_4 a0_5 a0_6:Int)(a0_7:Bool)(a0_8 a0_9 a0_10:Int)(a0_11n:Nat)(a0_11:List PV)(a0_12n:Nat)(a0_12:List PV)(a1_0 a1_1:ByteArray)(a1_2 Ag0:Int)(Ahy Ajv Age:Int)(Ajx:Bool)(Ai3 Ahd WA:Int)(Ajd:Nat)(WQ:List PV)(Ajr:Nat)(VV:List PV):Ae C0 Tryz.prog fu (d+1) Gj [.agg [.sc (.string a0_0),.sc (.string a0_1),.sc (.int .u64 a0_2),.sc (.int .i64 a0_3),.sc (.int .u64 a0_4),.sc (.int .i64 a0_5),.sc (.int .i64 a0_6),.sc (.bool a0_7),.sc (.int .i64 a0_8),.sc (.int .u64 a0_9),.sc (.int .i64 a0_10),.lst false 1 a0_11n a0_11,.lst false 1 a0_12n a0_12],.agg [.sc (.string a1_0),.sc (.string a1_1),.sc (.int .u64 a1_2),.sc (.int .i64 Ag0),.sc (.int .u64 Ahy),.sc (.int .i64 Ajv),.sc (.int .i64 Age),.sc (.bool Ajx),.sc (.int .i64 Ai3),.sc (.int .u64 Ahd),.sc (.int .i64 WA),.lst false 1 Ajd WQ,.lst false 1 Ajr VV]]=(fun (call:Ai)=>Bb (Array.toList (ByteArray.data a0_0)==Array.toList (ByteArray.data a1_0)) (Bb (Array.toList (ByteArray.data a0_1)==Array.toList (ByteArray.data a1_1)) (Bb (a0_2==a1_2) (Bb (a0_3==Ag0&&(a0_4==Ahy&&true)) (Bb (a0_5==Ajv) (Bb (a0_6==Age) (Bb (a0_7==Ajx) (Bb (a0_8==Ai3) (Bb (a0_9==Ahd) (Ag (call 40 [.agg [.sc (.int .i64 a0_10),.lst false 1 a0_11n a0_11,.lst false 1 a0_12n a0_12],.agg [.sc (.int .i64 WA),.lst false 1 Ajd WQ,.lst false 1 Ajr VV]]) fun x1 x2=>Ac x2<|Ab x1 fun x3 x4=>Bm x3 fun x5=>Ac x4<|some (At.mk [.sc (.bool x5)] [])) (some (At.mk [.sc (.bool false)] []))) (some (At.mk [.sc (.bool false)] []))) (some (At.mk [.sc (.bool false)] []))) (some (At.mk [.sc (.bool false)] []))) (some (At.mk [.sc (.bool false)] []))) (some (At.mk [.sc (.bool false)] []))) (some (At.mk [.sc (.bool false)] []))) (some (At.mk [.sc (.bool false)] []))) (some (At.mk [.sc (.bool false)] []))) (Ae C0 Tryz.prog fu d):=by kernel_rfl
end
section
open Go.IntKind (wrap)
def R4 (x:It):List Int:=
 if x.k=7 then [wrap .u8 (244+wrap .u8 x.n)] else if x.k=8 then [246] else if x.k=3 then Cq 2 x.s.size else if x.k=4 then Cq 3 x.s.size else Cq (x.k-1) x.n
def It.dat (x:It):Prop:=x.k=3∨x.k=4∨H7 x.s=[]
theorem Afl {x:It}(h:x.dat):Bp x=R4 x++H7 x.s:=by
 unfold Bp R4;by_cases c7:x.k=7
 ·rcases h with h|h|h
  ·omega
  ·omega
  ·simp [c7,h]
 ·by_cases c8:x.k=8
  ·rcases h with h|h|h
   ·omega
   ·omega
   ·simp [c8,h]
  ·by_cases c3:x.k=3
   ·simp [c3]
   ·by_cases c4:x.k=4
    ·simp [c4]
    ·rcases h with h|h|h
     ·omega
     ·omega
     ·simp [c7,c8,c3,c4,h]
theorem Afq (x:It):(R4 x).length<=9:=by
 have h2:=Gy 2 x.s.size;have h3:=Gy 3 x.s.size;have h4:=Gy (x.k-1) x.n;unfold R4
 repeat' split
 all_goals try simp only [J4,Z3]
 all_goals omega
theorem Air (v:Int):Dw .u64 v 0=v:=by
 show v.fdiv (2 ^ (min (0:Int).toNat IntKind.u64.bits))=v;have:(2:Int) ^ (min (0:Int).toNat IntKind.u64.bits)=1:=by decide
 rw [this,Int.fdiv_one]
theorem tb1 (v:Int):tb v 1=[wrap .u8 v]:=by
 show [wrap .u8 (Dw .u64 v (56-8*((7:Nat):Int)))]=_;rw [show (56:Int)-8*((7:Nat):Int)=0 by omega,Air]
theorem tb2 (v:Int):tb v 2=[wrap .u8 (Dw .u64 v 8),wrap .u8 v]:=by
 show [wrap .u8 (Dw .u64 v (56-8*((6:Nat):Int))),wrap .u8 (Dw .u64 v (56-8*((7:Nat):Int)))]=_;rw [show (56:Int)-8*((7:Nat):Int)=0 by omega,show (56:Int)-8*((6:Nat):Int)=8 by omega,Air]
theorem tb4 (v:Int):tb v 4=[wrap .u8 (Dw .u64 v 24),wrap .u8 (Dw .u64 v 16),wrap .u8 (Dw .u64 v 8),wrap .u8 v]:=by
 show [wrap .u8 (Dw .u64 v (56-8*((4:Nat):Int))),wrap .u8 (Dw .u64 v (56-8*((5:Nat):Int))),wrap .u8 (Dw .u64 v (56-8*((6:Nat):Int))),wrap .u8 (Dw .u64 v (56-8*((7:Nat):Int)))]=_;rw [show (56:Int)-8*((7:Nat):Int)=0 by omega,show (56:Int)-8*((6:Nat):Int)=8 by omega,show (56:Int)-8*((5:Nat):Int)=16 by omega,show (56:Int)-8*((4:Nat):Int)=24 by omega,Air]
theorem tb8 (v:Int):tb v 8=Dr v:=rfl
section
variable {fu d:Nat}
theorem Aia (hfu:1000<=fu){k n:Int}{s:ByteArray}{nn:Nat}(hn:0<nn){mj v:Int}(h0:0<=mj)(h1:mj<=5)(hv:0<=v):
  Cv fu (Ae C0 Tryz.prog fu (d+1)) k n s nn v (32*mj)=some ⟨[.own 1 (Cq mj v).length (Af .u8 (Cq mj v))],[]⟩:=by
 rw [Ts (hnn:=hn)];have w24:wrap .u8 (32*mj+24)=32*mj+24:=Fj (by omega) (by omega)
 have w25:wrap .u8 (32*mj+25)=32*mj+25:=Fj (by omega) (by omega)
 have w26:wrap .u8 (32*mj+26)=32*mj+26:=Fj (by omega) (by omega)
 have w27:wrap .u8 (32*mj+27)=32*mj+27:=Fj (by omega) (by omega)
 unfold Cq;by_cases c1:v<24
 ·have wn:wrap .u8 v=v:=Fj (by omega) (by omega)
  have ws:wrap .u8 (32*mj+v)=32*mj+v:=Fj (by omega) (by omega)
  rw [B4 c1];simp (disch:=omega) only [Br,wn,ws];rfl
 ·by_cases c2:v<256
  ·rw [A6 c1,B4 c2,tb1];simp (disch:=omega) only [Br,w24];rfl
  ·by_cases c3:v<65536
   ·rw [A6 c1,A6 c2,B4 c3,tb2];simp (disch:=omega) only [Br,w25];rfl
   ·by_cases c4:v<4294967296
    ·rw [A6 c1,A6 c2,A6 c3,B4 c4,tb4];simp (disch:=omega) only [Br,w26];rfl
    ·have wd:=Aoj (fu:=fu) (d:=d) hfu v;have L:=Aj .u8 (Dr v);rw [El] at L;have t8:List.take 8 (Af .u8 (Dr v))=Af .u8 (Dr v):=Uf (by omega)
     have eC:[PV.sc (.int .u8 (32*mj+27))]++Af .u8 (Dr v)=Af .u8 ((32*mj+27)::Dr v):=rfl;have L9:(Af .u8 ((32*mj+27)::Dr v)).length=9:=by rw [Aj,J4,El]
     have t9:List.take 9 (Af .u8 ((32*mj+27)::Dr v))=Af .u8 ((32*mj+27)::Dr v):=Uf (by omega)
     rw [A6 c1,A6 c2,A6 c3,A6 c4,tb8,J4,El];simp (disch:=omega) only [Br,w27,wd,Cc,C3,Es,L,t8,eC,Nat.reduceAdd,L9,t9]
theorem Af8 (hfu:1000<=fu){x:It}(hx:x.ok):Ae C0 Tryz.prog fu (d+2) Oq [.agg x.cells]=some ⟨[.own 1 (R4 x).length (Af .u8 (R4 x))],[]⟩:=by
 obtain ⟨k,n,s⟩:=x;obtain ⟨k1,k8,n0,s0⟩:=hx;simp only at k1 k8 n0 s0;refine (Yn fu (d+1) k n s).trans ?_;have wsz:wrap .u64 (s.size:Int)=s.size:=Ci (by omega) (by omega)
 have J:=fun (mj v:Int) (h0:0<=mj) (h1:mj<=5) (hv:0<=v)=>Aia (fu:=fu) (d:=d) hfu (k:=k) (n:=n) (s:=s) (nn:=fu) (by omega) h0 h1 hv
 have j0:=J 0 n (by omega) (by omega) n0
 have j1:=J 1 n (by omega) (by omega) n0
 have j2:=J 2 s.size (by omega) (by omega) (by omega)
 have j3:=J 3 s.size (by omega) (by omega) (by omega)
 have j4:=J 4 n (by omega) (by omega) n0
 have j5:=J 5 n (by omega) (by omega) n0
 rw [show (32:Int)*0=0 by omega] at j0
 rw [show (32:Int)*1=32 by omega] at j1
 rw [show (32:Int)*2=64 by omega] at j2
 rw [show (32:Int)*3=96 by omega] at j3
 rw [show (32:Int)*4=128 by omega] at j4
 rw [show (32:Int)*5=160 by omega] at j5
 unfold R4;simp only;have:k=1∨k=2∨k=3∨k=4∨k=5∨k=6∨k=7∨k=8:=by omega
 rcases this with rfl|rfl|rfl|rfl|rfl|rfl|rfl|rfl
 ·simp only [Br,Ed,Int.reduceEq,if_true,if_false,Int.reduceSub,j0]
 ·simp only [Br,Ed,Int.reduceEq,if_true,if_false,Int.reduceSub,j1]
 ·simp only [Br,Ed,Int.reduceEq,if_true,if_false,Int.reduceSub,wsz,j2]
 ·simp only [Br,Ed,Int.reduceEq,if_true,if_false,Int.reduceSub,wsz,j3]
 ·simp only [Br,Ed,Int.reduceEq,if_true,if_false,Int.reduceSub,j4]
 ·simp only [Br,Ed,Int.reduceEq,if_true,if_false,Int.reduceSub,j5]
 ·simp only [Br,Ed,Int.reduceEq,if_true,if_false];rfl
 ·simp only [Br,Ed,Int.reduceEq,if_true,if_false];rfl
theorem Adg (hfu:1000<=fu){x:It}(hx:x.ok)(hd:x.dat):Ae C0 Tryz.prog fu (d+3) M8 [.agg x.cells]=some ⟨[.sc (.string (B7 (Bp x)))],[]⟩:=by
 refine (W6 fu (d+2) x.k x.n x.s).trans ?_;have hr:=Af8 (fu:=fu) (d:=d) hfu hx;have L:=Aj .u8 (R4 x);have l9:=Afq x;have bo:=Gp (R4 x);have eA:ByteArray.mk (List.map (fun n:Int=>n.toNat.toUInt8) (R4 x)).toArray=B7 (R4 x):=rfl
 have sz:=Fq (R4 x);have s0:=hx.s0;have ap:B7 (R4 x)++x.s=B7 (Bp x):=by rw [VD,Afl hd]
 simp only [It.cells] at hr;simp (disch:=omega) only [Br,hr,Cc,C3,Es,Jf,L,bo,eA,sz,ap]
def Cd (its:List It):List PV:=its.flatMap It.cells
theorem It.cells_len (x:It):x.cells.length=3:=rfl
def Be (its:List It):List Int:=its.flatMap Bp
theorem FD {a0n:Nat}{a0:List PV}{its:List It}(hk:∀x∈its,x.ok∧x.dat)(hl:its.length<=1000)(hfu:1000<=fu):∀(r:List It)(i nn:Nat)(b:List Int),its.drop i=r->r.length<nn->b.length+500010*r.length<=1000000000 ->
  Fk fu (Ae C0 Tryz.prog fu (d+3)) a0n a0 nn its.length (Cd its) b.length i (Af .u8 b)=some ⟨[.own 1 (b++Be r).length (Af .u8 (b++Be r))],[]⟩
 |_,_,0,_,_,h,_=>by omega
 |[],i,nn+1,b,h,hn,hb=>by
  have:=drop_nil h;have L:=Aj .u8 b;rw [I4,Da _ _ _ (by omega)]
  simp (disch:=omega) only [Br,Cc,Jf,L];simp [Be]
 |x::r,i,nn+1,b,h,hn,hb=>by
  obtain ⟨h1,h2,h3⟩:=Ck h;simp only [J4] at hn hb;obtain ⟨ok,dt⟩:=hk x (List.mem_of_getElem? h2);have hil:=Gh x;have hs0:=ok.s0;have g0:(Cd its).getD (i*3) .top=.sc (.int .i64 x.k):=D3 It.cells_len h2 (j:=0) (by omega)
  have g1:(Cd its).getD (i*3+1) .top=.sc (.int .u64 x.n):=D3 It.cells_len h2 (j:=1) (by omega)
  have g2:(Cd its).getD (i*3+1+1) .top=.sc (.string x.s):=D3 It.cells_len h2 (j:=2) (by omega)
  have by_:=Adg (fu:=fu) (d:=d) hfu ok dt;simp only [It.cells] at by_;have ih:=FD (a0n:=a0n) (a0:=a0) hk hl hfu r (i+1) nn (b++Bp x) h3 (by omega) (by rw [Lf];omega)
  have w:wrap .i64 ((i:Int)+1)=((i+1:Nat):Int):=by rw [Ak (by omega) (by omega)];omega
  have L:=Aj .u8 b;have hB:=Ab4 ok.k1 ok.k8 ok.n0;have sc:Di (B7 (Bp x))=Af .u8 (Bp x):=by rw [Mf,Np hB]
  have sz:=Fq (Bp x);have Li:=Aj .u8 (Bp x);have ea:Af .u8 b++Af .u8 (Bp x)=Af .u8 (b++Bp x):=by rw [Af,Af,Af,List.flatMap_append]
  have ei:Be (x::r)=Bp x++Be r:=rfl;rw [ei,←Zzv,←ih,I4];simp (disch:=omega) only [Br,H2,g0,g1,g2,by_,sc,sz,Li,Cc,Jf,L,ea,w,Lf]
theorem Aeo {its:List It}(hk:∀x∈its,x.ok∧x.dat)(hl:its.length<=900)(hfu:1000<=fu):Ae C0 Tryz.prog fu (d+4) L8 [.lst false 3 its.length (Cd its)]=some ⟨[.own 1 (Be its).length (Af .u8 (Be its))],[]⟩:=by
 rw [Vg];exact FD (fu:=fu) (d:=d) (a0n:=its.length) (a0:=Cd its) hk (by omega) hfu its 0 fu [] rfl (by omega) (by simp;omega)
end
end
section
open Go.IntKind (wrap)
structure Ce where
 subj:ByteArray
 iss:ByteArray
 serial:Int
 key:Ky
 fr:Int
 un:Int
 auth:Bool
 path:Int
 model:Int
 sig:Sg
def Ce.cells (c:Ce):List PV:=[.sc (.string c.subj),.sc (.string c.iss),.sc (.int .u64 c.serial),.sc (.int .i64 c.key.h),.sc (.int .u64 c.key.root),.sc (.int .i64 c.fr),.sc (.int .i64 c.un),.sc (.bool c.auth),.sc (.int .i64 c.path),.sc (.int .u64 c.model),.sc (.int .i64 c.sig.leaf),.lst false 1 c.sig.chains.length (Af .u64 c.sig.chains),.lst false 1 c.sig.path.length (Af .u64 c.sig.path)]
abbrev XE (s:ByteArray):Bool:=Lib.validD s.data.toList
abbrev F0:ByteArray:=⟨#[]⟩
def A3 (c:Ce):Int:=
 if c.subj.size<1∨32<c.subj.size then 9 else if c.iss.size<1∨32<c.iss.size then 9 else if XE c.subj=false then 6 else if XE c.iss=false then 6 else
 if C2 c.key.h=true then 9 else if c.fr<0 then 9 else if c.un<c.fr then 9 else if c.un>1099511627776 then 9 else if c.path<0∨2<c.path then 9 else if c.path≠0∧c.auth=false then 4 else 0
def A8 (c:Ce):List It:=[⟨5,9,F0⟩,⟨4,0,c.subj⟩,⟨4,0,c.iss⟩,⟨1,c.serial,F0⟩,⟨3,0,B7 (Io c.key)⟩,⟨1,c.fr,F0⟩,⟨1,c.un,F0⟩,⟨7,(if c.auth=true then 1 else 0),F0⟩,⟨1,c.path,F0⟩,⟨1,c.model,F0⟩]
structure Ce.wf (c:Ce):Prop where
 ser:0<=c.serial
 mod:0<=c.model
def Gr (c:Ce):List PV:=if A3 c=0 then [.own 1 (Be (A8 c)).length (Af .u8 (Be (A8 c))),.sc (.int .i64 0)] else [.own 1 0 [],.sc (.int .i64 (A3 c))]
theorem Ya {c:Ce}(hw:c.wf)(h:A3 c=0):∀x∈A8 c,x.ok∧x.dat:=by
 unfold A3 at h;have kl:(B7 (Io c.key)).size=9:=by rw [Fq];rfl
 have ns:F0.size=0:=rfl;have hs:=hw.ser;have hm:=hw.mod
 repeat' (split at h;· cases h)
 intro x hx;simp only [A8,List.mem_cons,List.not_mem_nil,or_false] at hx;rcases hx with rfl|rfl|rfl|rfl|rfl|rfl|rfl|rfl|rfl|rfl
 ·exact ⟨⟨by simp,by simp,by simp,by simp [ns]⟩,.inr (.inr rfl)⟩
 ·exact ⟨⟨by simp,by simp,by simp,by simp only;omega⟩,.inr (.inl rfl)⟩
 ·exact ⟨⟨by simp,by simp,by simp,by simp only;omega⟩,.inr (.inl rfl)⟩
 ·exact ⟨⟨by simp,by simp,hs,by simp [ns]⟩,.inr (.inr rfl)⟩
 ·exact ⟨⟨by simp,by simp,by simp,by simp only [kl];omega⟩,.inl rfl⟩
 ·exact ⟨⟨by simp,by simp,by simp only;omega,by simp [ns]⟩,.inr (.inr rfl)⟩
 ·exact ⟨⟨by simp,by simp,by simp only;omega,by simp [ns]⟩,.inr (.inr rfl)⟩
 ·exact ⟨⟨by simp,by simp,by simp only;split<;>omega,by simp [ns]⟩,.inr (.inr rfl)⟩
 ·exact ⟨⟨by simp,by simp,by simp only;omega,by simp [ns]⟩,.inr (.inr rfl)⟩
 ·exact ⟨⟨by simp,by simp,hm,by simp [ns]⟩,.inr (.inr rfl)⟩
section
variable {fu d:Nat}
theorem Og (s:ByteArray)(h:s.size<=9223372036854775807):Ae C0 Tryz.prog fu (d+1) 56 [.sc (.string s)]=some ⟨[.sc (.bool (XE s))],[]⟩:=by
 show IF [.sc (.string s)]=_;unfold IF;simp [h]
theorem ER (n lo hi:Int):Ae C0 Tryz.prog fu (d+1) Kl [.sc (.int .i64 n),.sc (.int .i64 lo),.sc (.int .i64 hi)]=some ⟨[.sc (.bool (decide (lo<=n)&&decide (n<=hi)))],[]⟩:=by
 rw [T0];by_cases h:lo<=n
 ·simp (disch:=omega) only [Br,h,decide_true,Bool.true_and]
 ·simp (disch:=omega) only [Br,h,decide_false,Bool.false_and]
theorem Afh (n:Int)(h0:0<=n)(h1:n<=1000):Ae C0 Tryz.prog fu (d+1) Lx [.sc (.int .i64 n)]=some ⟨[.agg [.sc (.int .i64 5),.sc (.int .u64 n),.sc (.string F0)]],[]⟩:=by
 rw [Vn];have w:wrap .u64 n=n:=Ci (by omega) (by omega)
 simp only [Br,w]
theorem YK (s:ByteArray):Ae C0 Tryz.prog fu (d+1) Nd [.sc (.string s)]=some ⟨[.agg [.sc (.int .i64 4),.sc (.int .u64 0),.sc (.string s)]],[]⟩:=by
 rw [Xc]
theorem Aau (n:Int):Ae C0 Tryz.prog fu (d+1) Kf [.sc (.int .u64 n)]=some ⟨[.agg [.sc (.int .i64 1),.sc (.int .u64 n),.sc (.string F0)]],[]⟩:=by
 rw [Tx]
theorem Ajs (l:List Int):Ae C0 Tryz.prog fu (d+1) Ng [.lst false 1 l.length (Af .u8 l)]=some ⟨[.agg [.sc (.int .i64 3),.sc (.int .u64 0),.sc (.string (B7 l))]],[]⟩:=by
 rw [Wx];have L:=Aj .u8 l;have bo:=Gp l;simp (disch:=omega) only [Br,L,bo];rfl
theorem WX (b:Bool):Ae C0 Tryz.prog fu (d+1) Jn [.sc (.bool b)]=some ⟨[.agg [.sc (.int .i64 7),.sc (.int .u64 (if b=true then 1 else 0)),.sc (.string F0)]],[]⟩:=by
 rw [S2];cases b<;>rfl
theorem XS (hfu:1000<=fu){c:Ce}(hw:c.wf)(hs1:c.subj.size<=9223372036854775807)(hs2:c.iss.size<=9223372036854775807):Ae C0 Tryz.prog fu (d+5) Nj [.agg c.cells]=some ⟨Gr c,[]⟩:=by
 refine (Xf fu (d+4) c.subj c.iss c.serial c.key.h c.key.root c.fr c.un c.auth c.path c.model c.sig.leaf c.sig.chains.length (Af .u64 c.sig.chains) c.sig.path.length (Af .u64 c.sig.path)).trans ?_;have n1:=ER (fu:=fu) (d:=d+3) c.subj.size 1 32;have n2:=ER (fu:=fu) (d:=d+3) c.iss.size 1 32;have n3:=ER (fu:=fu) (d:=d+3) c.path 0 2;have v1:=Og (fu:=fu) (d:=d+3) c.subj hs1;have v2:=Og (fu:=fu) (d:=d+3) c.iss hs2;have ek:=Aar (fu:=fu) (d:=d+2) hfu c.key;have e90:((9:Int) != 0)=true:=rfl;have e00:((0:Int) != 0)=false:=rfl;simp only [Ky.cells] at ek;unfold Gr;by_cases e1:c.subj.size<1∨32<c.subj.size
 ·have hb:A3 c=9:=by unfold A3;rw [B4 e1]
  have:(decide ((1:Int)<=c.subj.size)&&decide ((c.subj.size:Int)<=32))=false:=by simp;omega
  rw [this] at n1;rw [hb,A6 (by omega)]
  try unfold Aa
  repeat first
   |((with_reducible first|apply Ay|apply Am|apply Az|apply A5|apply Ba|apply Bi|apply B9|apply C9|apply Ao);· first|with_reducible rfl|(simp (disch:=omega) only [n1,Int.reduceEq,C6,Dn]<;>with_reducible rfl))
   |((with_reducible first|apply Ax|apply Av);· first|with_reducible rfl|omega|(simp (disch:=omega) only [gT,n1,Int.reduceEq,C6,Dn]<;>omega))
   |(with_reducible apply Aw;· first|with_reducible rfl|(simp (disch:=omega) only [gF,n1,Int.reduceEq,C6,Dn]<;>omega))
  try simp (disch:=omega) only [n1,Int.reduceEq,C6,Dn]
  all_goals rfl
 have q1:(decide ((1:Int)<=c.subj.size)&&decide ((c.subj.size:Int)<=32))=true:=by simp;omega
 rw [q1] at n1;by_cases e2:c.iss.size<1∨32<c.iss.size
 ·have hb:A3 c=9:=by unfold A3;rw [A6 e1,B4 e2]
  have:(decide ((1:Int)<=c.iss.size)&&decide ((c.iss.size:Int)<=32))=false:=by simp;omega
  rw [this] at n2;rw [hb,A6 (by omega)]
  try unfold Aa
  repeat first
   |((with_reducible first|apply Ay|apply Am|apply Az|apply A5|apply Ba|apply Bi|apply B9|apply C9|apply Ao);· first|with_reducible rfl|(simp (disch:=omega) only [n1,n2,Int.reduceEq,C6,Dn]<;>with_reducible rfl))
   |((with_reducible first|apply Ax|apply Av);· first|with_reducible rfl|omega|(simp (disch:=omega) only [gT,n1,n2,Int.reduceEq,C6,Dn]<;>omega))
   |(with_reducible apply Aw;· first|with_reducible rfl|(simp (disch:=omega) only [gF,n1,n2,Int.reduceEq,C6,Dn]<;>omega))
  try simp (disch:=omega) only [n1,n2,Int.reduceEq,C6,Dn]
  all_goals rfl
 have q2:(decide ((1:Int)<=c.iss.size)&&decide ((c.iss.size:Int)<=32))=true:=by simp;omega
 rw [q2] at n2;cases e3:XE c.subj
 ·have hb:A3 c=6:=by unfold A3;rw [A6 e1,A6 e2,B4 e3]
  rw [e3] at v1;rw [hb,A6 (by omega)]
  try unfold Aa
  repeat first
   |((with_reducible first|apply Ay|apply Am|apply Az|apply A5|apply Ba|apply Bi|apply B9|apply C9|apply Ao);· first|with_reducible rfl|(simp (disch:=omega) only [n1,n2,v1,Int.reduceEq,C6,Dn]<;>with_reducible rfl))
   |((with_reducible first|apply Ax|apply Av);· first|with_reducible rfl|omega|(simp (disch:=omega) only [gT,n1,n2,v1,Int.reduceEq,C6,Dn]<;>omega))
   |(with_reducible apply Aw;· first|with_reducible rfl|(simp (disch:=omega) only [gF,n1,n2,v1,Int.reduceEq,C6,Dn]<;>omega))
  try simp (disch:=omega) only [n1,n2,v1,Int.reduceEq,C6,Dn]
  all_goals rfl
 rw [e3] at v1;cases e4:XE c.iss
 ·have hb:A3 c=6:=by unfold A3;rw [A6 e1,A6 e2,A6 (by simp [e3]),B4 e4]
  rw [e4] at v2;rw [hb,A6 (by omega)]
  try unfold Aa
  repeat first
   |((with_reducible first|apply Ay|apply Am|apply Az|apply A5|apply Ba|apply Bi|apply B9|apply C9|apply Ao);· first|with_reducible rfl|(simp (disch:=omega) only [n1,n2,v1,v2,Int.reduceEq,C6,Dn]<;>with_reducible rfl))
   |((with_reducible first|apply Ax|apply Av);· first|with_reducible rfl|omega|(simp (disch:=omega) only [gT,n1,n2,v1,v2,Int.reduceEq,C6,Dn]<;>omega))
   |(with_reducible apply Aw;· first|with_reducible rfl|(simp (disch:=omega) only [gF,n1,n2,v1,v2,Int.reduceEq,C6,Dn]<;>omega))
  try simp (disch:=omega) only [n1,n2,v1,v2,Int.reduceEq,C6,Dn]
  all_goals rfl
 rw [e4] at v2;cases e5:C2 c.key.h
 rotate_left
 ·have hb:A3 c=9:=by unfold A3;rw [A6 e1,A6 e2,A6 (by simp [e3]),A6 (by simp [e4]),B4 e5]
  rw [e5,B4 rfl] at ek;rw [hb,A6 (by omega)]
  try unfold Aa
  repeat first
   |((with_reducible first|apply Ay|apply Am|apply Az|apply A5|apply Ba|apply Bi|apply B9|apply C9|apply Ao);· first|with_reducible rfl|(simp (disch:=omega) only [n1,n2,v1,v2,ek,e90,e00,Int.reduceEq,C6,Dn]<;>with_reducible rfl))
   |((with_reducible first|apply Ax|apply Av);· first|with_reducible rfl|omega|(simp (disch:=omega) only [gT,n1,n2,v1,v2,ek,e90,e00,Int.reduceEq,C6,Dn]<;>omega))
   |(with_reducible apply Aw;· first|with_reducible rfl|(simp (disch:=omega) only [gF,n1,n2,v1,v2,ek,e90,e00,Int.reduceEq,C6,Dn]<;>omega))
  try simp (disch:=omega) only [n1,n2,v1,v2,ek,e90,e00,Int.reduceEq,C6,Dn]
  all_goals rfl
 rw [e5,A6 (by simp)] at ek
 have B0:A3 c=if c.fr<0 then 9 else if c.un<c.fr then 9 else if c.un>1099511627776 then 9 else if c.path<0∨2<c.path then 9 else if c.path≠0∧c.auth=false then 4 else 0:=by
  unfold A3;rw [A6 e1,A6 e2,A6 (by simp [e3]),A6 (by simp [e4]),A6 (by simp [e5])]
 by_cases e6:c.fr<0
 ·have hb:A3 c=9:=by rw [B0,B4 e6]
  rw [hb,A6 (by omega)]
  try unfold Aa
  repeat first
   |((with_reducible first|apply Ay|apply Am|apply Az|apply A5|apply Ba|apply Bi|apply B9|apply C9|apply Ao);· first|with_reducible rfl|(simp (disch:=omega) only [n1,n2,v1,v2,ek,e90,e00,Int.reduceEq,C6,Dn]<;>with_reducible rfl))
   |((with_reducible first|apply Ax|apply Av);· first|with_reducible rfl|omega|(simp (disch:=omega) only [gT,n1,n2,v1,v2,ek,e90,e00,Int.reduceEq,C6,Dn]<;>omega))
   |(with_reducible apply Aw;· first|with_reducible rfl|(simp (disch:=omega) only [gF,n1,n2,v1,v2,ek,e90,e00,Int.reduceEq,C6,Dn]<;>omega))
  try simp (disch:=omega) only [n1,n2,v1,v2,ek,e90,e00,Int.reduceEq,C6,Dn]
  all_goals rfl
 by_cases e7:c.un<c.fr
 ·have hb:A3 c=9:=by rw [B0,A6 e6,B4 e7]
  rw [hb,A6 (by omega)]
  try unfold Aa
  repeat first
   |((with_reducible first|apply Ay|apply Am|apply Az|apply A5|apply Ba|apply Bi|apply B9|apply C9|apply Ao);· first|with_reducible rfl|(simp (disch:=omega) only [n1,n2,v1,v2,ek,e90,e00,Int.reduceEq,C6,Dn]<;>with_reducible rfl))
   |((with_reducible first|apply Ax|apply Av);· first|with_reducible rfl|omega|(simp (disch:=omega) only [gT,n1,n2,v1,v2,ek,e90,e00,Int.reduceEq,C6,Dn]<;>omega))
   |(with_reducible apply Aw;· first|with_reducible rfl|(simp (disch:=omega) only [gF,n1,n2,v1,v2,ek,e90,e00,Int.reduceEq,C6,Dn]<;>omega))
  try simp (disch:=omega) only [n1,n2,v1,v2,ek,e90,e00,Int.reduceEq,C6,Dn]
  all_goals rfl
 by_cases e8:c.un>1099511627776
 ·have hb:A3 c=9:=by rw [B0,A6 e6,A6 e7,B4 e8]
  rw [hb,A6 (by omega)]
  try unfold Aa
  repeat first
   |((with_reducible first|apply Ay|apply Am|apply Az|apply A5|apply Ba|apply Bi|apply B9|apply C9|apply Ao);· first|with_reducible rfl|(simp (disch:=omega) only [n1,n2,v1,v2,ek,e90,e00,Int.reduceEq,C6,Dn]<;>with_reducible rfl))
   |((with_reducible first|apply Ax|apply Av);· first|with_reducible rfl|omega|(simp (disch:=omega) only [gT,n1,n2,v1,v2,ek,e90,e00,Int.reduceEq,C6,Dn]<;>omega))
   |(with_reducible apply Aw;· first|with_reducible rfl|(simp (disch:=omega) only [gF,n1,n2,v1,v2,ek,e90,e00,Int.reduceEq,C6,Dn]<;>omega))
  try simp (disch:=omega) only [n1,n2,v1,v2,ek,e90,e00,Int.reduceEq,C6,Dn]
  all_goals rfl
 by_cases e9:c.path<0∨2<c.path
 ·have hb:A3 c=9:=by rw [B0,A6 e6,A6 e7,A6 e8,B4 e9]
  have:(decide ((0:Int)<=c.path)&&decide (c.path<=2))=false:=by simp;omega
  rw [this] at n3;rw [hb,A6 (by omega)]
  try unfold Aa
  repeat first
   |((with_reducible first|apply Ay|apply Am|apply Az|apply A5|apply Ba|apply Bi|apply B9|apply C9|apply Ao);· first|with_reducible rfl|(simp (disch:=omega) only [n1,n2,v1,v2,ek,e90,e00,n3,Int.reduceEq,C6,Dn]<;>with_reducible rfl))
   |((with_reducible first|apply Ax|apply Av);· first|with_reducible rfl|omega|(simp (disch:=omega) only [gT,n1,n2,v1,v2,ek,e90,e00,n3,Int.reduceEq,C6,Dn]<;>omega))
   |(with_reducible apply Aw;· first|with_reducible rfl|(simp (disch:=omega) only [gF,n1,n2,v1,v2,ek,e90,e00,n3,Int.reduceEq,C6,Dn]<;>omega))
  try simp (disch:=omega) only [n1,n2,v1,v2,ek,e90,e00,n3,Int.reduceEq,C6,Dn]
  all_goals rfl
 have q9:(decide ((0:Int)<=c.path)&&decide (c.path<=2))=true:=by simp;omega
 rw [q9] at n3;by_cases e10:c.path≠0∧c.auth=false
 ·have hb:A3 c=4:=by rw [B0,A6 e6,A6 e7,A6 e8,A6 e9,B4 e10]
  have ea:=e10.2;have ep:(c.path != 0)=true:=by simp [e10.1]
  rw [hb,A6 (by omega)]
  try unfold Aa
  repeat first
   |((with_reducible first|apply Ay|apply Am|apply Az|apply A5|apply Ba|apply Bi|apply B9|apply C9|apply Ao);· first|with_reducible rfl|(simp (disch:=omega) only [n1,n2,v1,v2,ek,e90,e00,n3,ep,ea,Int.reduceEq,C6,Dn]<;>with_reducible rfl))
   |((with_reducible first|apply Ax|apply Av);· first|with_reducible rfl|omega|(simp (disch:=omega) only [gT,n1,n2,v1,v2,ek,e90,e00,n3,ep,ea,Int.reduceEq,C6,Dn]<;>omega))
   |(with_reducible apply Aw;· first|with_reducible rfl|(simp (disch:=omega) only [gF,n1,n2,v1,v2,ek,e90,e00,n3,ep,ea,Int.reduceEq,C6,Dn]<;>omega))
  try simp (disch:=omega) only [n1,n2,v1,v2,ek,e90,e00,n3,ep,ea,Int.reduceEq,C6,Dn]
  all_goals rfl
 have hb:A3 c=0:=by rw [B0,A6 e6,A6 e7,A6 e8,A6 e9,A6 e10]
 rw [hb,B4 rfl];have a0:=Afh (fu:=fu) (d:=d+3) 9 (by omega) (by omega)
 have t1:=YK (fu:=fu) (d:=d+3) c.subj;have t2:=YK (fu:=fu) (d:=d+3) c.iss;have nu:=fun n=>Aau (fu:=fu) (d:=d+3) n
 have da:=Ajs (fu:=fu) (d:=d+3) (Io c.key);have k9:(Io c.key).length=9:=rfl;rw [k9] at da;have bo:=WX (fu:=fu) (d:=d+3) c.auth;have wf:wrap .u64 c.fr=c.fr:=Ci (by omega) (by omega)
 have wu:wrap .u64 c.un=c.un:=Ci (by omega) (by omega)
 have wp:wrap .u64 c.path=c.path:=Ci (by omega) (by omega)
 have bi:=Aeo (fu:=fu) (d:=d) (Ya hw hb) (by simp [A8]) hfu
 have L9:=Aj .u8 (Io c.key);rw [k9] at L9;have tk9:List.take 9 (Af .u8 (Io c.key))=Af .u8 (Io c.key):=Uf (by omega)
 have LB:=Aj .u8 (Be (A8 c));have tB:=Jf .u8 (Be (A8 c));generalize Be (A8 c)=W at bi LB tB ⊢;simp only [A8,Cd,List.flatMap_cons,List.flatMap_nil,It.cells,List.cons_append,Zzq,List.append_nil,J4,Z3,C3,Nat.reduceAdd] at bi;have w0:wrap .u64 (0:Int)=0:=rfl;by_cases ep:c.path=0
 ·rw [ep] at bi n3
  try unfold Aa
  repeat first
   |((with_reducible first|apply Ay|apply Am|apply Az|apply A5|apply Ba|apply Bi|apply B9|apply C9|apply Ao);· first|with_reducible rfl|(simp (disch:=omega) only [n1,n2,v1,v2,ek,e90,e00,n3,ep,w0,a0,t1,t2,nu,Cc,C3,Es,L9,tk9,da,wf,wu,bo,bi,LB,tB,Int.reduceEq,C6,Dn]<;>with_reducible rfl))
   |((with_reducible first|apply Ax|apply Av);· first|with_reducible rfl|omega|(simp (disch:=omega) only [gT,n1,n2,v1,v2,ek,e90,e00,n3,ep,w0,a0,t1,t2,nu,Cc,C3,Es,L9,tk9,da,wf,wu,bo,bi,LB,tB,Int.reduceEq,C6,Dn]<;>omega))
   |(with_reducible apply Aw;· first|with_reducible rfl|(simp (disch:=omega) only [gF,n1,n2,v1,v2,ek,e90,e00,n3,ep,w0,a0,t1,t2,nu,Cc,C3,Es,L9,tk9,da,wf,wu,bo,bi,LB,tB,Int.reduceEq,C6,Dn]<;>omega))
  try simp (disch:=omega) only [n1,n2,v1,v2,ek,e90,e00,n3,ep,w0,a0,t1,t2,nu,Cc,C3,Es,L9,tk9,da,wf,wu,bo,bi,LB,tB,Int.reduceEq,C6,Dn]
  all_goals rfl
 ·have ea:c.auth=true:=by
   cases h:c.auth
   ·exact absurd ⟨ep,h⟩ e10
   ·rfl
  rw [ea,B4 rfl] at bo bi;have ep:(c.path != 0)=true:=by simp [ep]
  try unfold Aa
  repeat first
   |((with_reducible first|apply Ay|apply Am|apply Az|apply A5|apply Ba|apply Bi|apply B9|apply C9|apply Ao);· first|with_reducible rfl|(simp (disch:=omega) only [n1,n2,v1,v2,ek,e90,e00,n3,ep,ea,a0,t1,t2,nu,Cc,C3,Es,L9,tk9,da,wf,wu,wp,bo,bi,LB,tB,Int.reduceEq,C6,Dn]<;>with_reducible rfl))
   |((with_reducible first|apply Ax|apply Av);· first|with_reducible rfl|omega|(simp (disch:=omega) only [gT,n1,n2,v1,v2,ek,e90,e00,n3,ep,ea,a0,t1,t2,nu,Cc,C3,Es,L9,tk9,da,wf,wu,wp,bo,bi,LB,tB,Int.reduceEq,C6,Dn]<;>omega))
   |(with_reducible apply Aw;· first|with_reducible rfl|(simp (disch:=omega) only [gF,n1,n2,v1,v2,ek,e90,e00,n3,ep,ea,a0,t1,t2,nu,Cc,C3,Es,L9,tk9,da,wf,wu,wp,bo,bi,LB,tB,Int.reduceEq,C6,Dn]<;>omega))
  try simp (disch:=omega) only [n1,n2,v1,v2,ek,e90,e00,n3,ep,ea,a0,t1,t2,nu,Cc,C3,Es,L9,tk9,da,wf,wu,wp,bo,bi,LB,tB,Int.reduceEq,C6,Dn]
  all_goals rfl
end
end
end Go.Proofs.YtdjihiphpgkfmaaGreatDoor.Pv
