/-
  The proof of CertificateLinks, part 4.
-/
import Derived.Test.YtdjihiphpgkfmaaGreatDoorLC
import Derived.Test.YtdjihiphpgkfmaaGreatDoorRows
set_option linter.unusedSimpArgs false
set_option linter.unusedVariables false
namespace Go.Proofs.YtdjihiphpgkfmaaGreatDoor.Pv
section
open Go.IntKind (wrap)
section
variable {fu d:Nat} {xs:FuncId->Option (List PV->Option Az)}
theorem Ai4 {x k:Int}(hk:k=13∨k=16∨k=17∨k=21∨k=32):Ae (CX xs) Tryz.prog fu (d+1) M8 [.sc (.int .u64 x),.sc (.int .i64 k)]=some ⟨[.sc (.int .u64 (rot x k))],[]⟩:=by
 rw [Ww];rcases hk with rfl|rfl|rfl|rfl|rfl<;>kernel_rfl
theorem Ags {x k:Int}(hk:k=13∨k=16∨k=17∨k=21∨k=32):Ae (CX xs) Tryz.prog fu (d+1) Ph [.sc (.int .u64 x),.sc (.int .u64 k)]=some ⟨[.sc (.int .u64 (rot x k))],[]⟩:=by
 rw [Yw];rcases hk with rfl|rfl|rfl|rfl|rfl<;>kernel_rfl
theorem FA {a0 a1 a2 a3 a4:Int}:∀(k i nn:Nat)(v:W4),k<nn->i+k<=100 ->
  Fb fu (Ae (CX xs) Tryz.prog fu (d+1)) a0 a1 a2 a3 a4 nn ((i+k:Nat):Int) i v.a v.b v.c v.d=some ⟨[],[(Aaw k v).cells]⟩
 |_,_,0,_,h,_=>by omega
 |0,i,nn+1,v,h,hi=>by
  rw [Ip,Dt _ _ _ (by omega)]
  rfl
 |k+1,i,nn+1,v,h,hi=>by
  have ih:=FA (a0:=a0) (a1:=a1) (a2:=a2) (a3:=a3) (a4:=a4) k (i+1) nn (MC v) (by omega) (by omega)
  have w:wrap .i64 ((i:Int)+1)=((i+1:Nat):Int):=by rw [Aj (by omega) (by omega)];omega
  have r13:=fun x=>Ai4 (xs:=xs) (fu:=fu) (d:=d) (x:=x) (k:=13) (by simp)
  have r16:=fun x=>Ai4 (xs:=xs) (fu:=fu) (d:=d) (x:=x) (k:=16) (by simp)
  have r17:=fun x=>Ai4 (xs:=xs) (fu:=fu) (d:=d) (x:=x) (k:=17) (by simp)
  have r21:=fun x=>Ai4 (xs:=xs) (fu:=fu) (d:=d) (x:=x) (k:=21) (by simp)
  have r32:=fun x=>Ai4 (xs:=xs) (fu:=fu) (d:=d) (x:=x) (k:=32) (by simp)
  rw [Ip];simp (disch:=omega) only [B4,r13,r16,r17,r21,r32,w];rw [show i+(k+1)=i+1+k by omega]
  exact ih
theorem NV (k:Nat)(hk:k<=4)(hfu:100<=fu)(v:W4):Ae (CX xs) Tryz.prog fu (d+2) Kq [.pbox [.sc (.int .u64 v.a),.sc (.int .u64 v.b),.sc (.int .u64 v.c),.sc (.int .u64 v.d)],.sc (.int .i64 k)]=some ⟨[],[(Aaw k v).cells]⟩:=by
 rw [Ub];have:=FA (xs:=xs) (fu:=fu) (d:=d) (a0:=v.a) (a1:=v.b) (a2:=v.c) (a3:=v.d) (a4:=k) k 0 fu v (by omega) (by omega)
 rw [Bw] at this;exact this
theorem NT (hfu:100<=fu)(v:W4)(m:Int):Ae (CX xs) Tryz.prog fu (d+3) Ko [.pbox [.sc (.int .u64 v.a),.sc (.int .u64 v.b),.sc (.int .u64 v.c),.sc (.int .u64 v.d)],.sc (.int .u64 m)]=some ⟨[],[(Sh v m).cells]⟩:=by
 rw [Ua];have r2:=NV (xs:=xs) (fu:=fu) (d:=d) 2 (by omega) hfu ⟨v.a,v.b,v.c,Dx .u64 v.d m⟩
 have e2:((2:Nat):Int)=2:=rfl;rw [e2] at r2;unfold Sh;generalize Aaw 2 ⟨v.a,v.b,v.c,Dx .u64 v.d m⟩=R at r2 ⊢;simp only [W4.cells] at r2;simp only [B4,r2];rfl
theorem Asb {a b:Int}{k:Nat}(hk:k<8)(ha:0<=a)(ha':a<((2 ^ (8*k):Nat):Int)) (hb:0<=b)(hb':b<=255):PH .u64 a (G7 .u64 b (8*(k:Int)))=a+((2 ^ (8*k):Nat):Int)*b:=by
 obtain ⟨n,rfl⟩:=Int.eq_ofNat_of_zero_le hb;have e:(8*(k:Int)).toNat=8*k:=by omega
 have hp:n*2 ^ (8*k)<=255*2 ^ (8*k):=Nat.mul_le_mul_right _ (by omega)
 have h56:2 ^ (8*k)<=2 ^ 56:=Nat.pow_le_pow_right (by omega) (by omega)
 have e56:(2:Nat) ^ 56=72057594037927936:=by decide
 rw [e56] at h56;generalize hP:2 ^ (8*k)=p at *
 have hpos:n*p<=255*p:=hp
 have hs:G7 .u64 (n:Int) (8*(k:Int))=(n:Int)*((2 ^ (8*(k:Int)).toNat:Nat):Int):=Aa8 (by omega) (by omega) (by omega) (by
  rw [e,hP];have:((n*p:Nat):Int)<=((255*p:Nat):Int):=by omega
  rw [←Int.natCast_mul];omega)
 rw [hs,e,hP]
 have:=(SK (a:=a) (c:=((n*p:Nat):Int)) (8*k) n ha (by rw [hP];exact ha') (by rw [hP]) (by
  have:((n*p:Nat):Int)<=((255*p:Nat):Int):=by omega
  omega)).1
 rw [←Int.natCast_mul,this,Int.mul_comm ((p:Nat):Int),←Int.natCast_mul]
theorem Ar7 (k:Nat):((2 ^ (8*k):Nat):Int)=256 ^ k:=by
 rw [Nat.pow_mul];simp
theorem GC {call:Ai}{n:Nat}{c:List PV}{l:List Int}(hb:J4 l)(hl:l.length<=8):∀(r:List Int)(i nn:Nat),l.drop i=r->r.length<nn->i<=l.length ->
  H3 fu call n c nn (Sd (l.take i)) l.length (Af .u8 l) l.length i=some ⟨[.sc (.int .u64 (Sd l))],[]⟩
 |_,_,0,_,h,_=>by omega
 |[],i,nn+1,h,hn,hi=>by
  have:=drop_nil h;rw [Pe,Dt _ _ _ (by omega),Sl (by omega)]
 |b::r,i,nn+1,h,hn,hi=>by
  obtain ⟨h1,h2,h3⟩:=Cg h;simp only [Jj] at hn;have ih:=GC (call:=call) (n:=n) (c:=c) hb hl r (i+1) nn h3 (by omega) (by omega)
  have hbb:=hb b (List.mem_of_getElem? h2);have w:wrap .i64 ((i:Int)+1)=((i+1:Nat):Int):=by rw [Aj (by omega) (by omega)];omega
  have w8:wrap .i64 (8*(i:Int))=8*(i:Int):=Aj (by omega) (by omega)
  have wb:wrap .u64 b=b:=Cs (by omega) (by omega)
  have hbnd:=Ti (l:=l.take i) fun x hx=>hb x (List.mem_of_mem_take hx)
  have htl:(l.take i).length=i:=by rw [List.length_take];omega
  rw [htl] at hbnd
  have hj:PH .u64 (Sd (l.take i)) (G7 .u64 b (8*(i:Int)))=Sd (l.take (i+1)):=by
   rw [Asb (by omega) hbnd.1 (by rw [Ar7];exact hbnd.2) hbb.1 hbb.2,List.take_add_one,h2,Yj,htl,Ar7]
   simp [Sd]
  rw [Pe];simp (disch:=omega) only [B4,Gm,Cb,Xj h2,w,w8,wb,hj];exact ih
theorem PK {l:List Int}(hb:J4 l)(hl:l.length<=8)(hfu:100<=fu):Ae (CX xs) Tryz.prog fu (d+1) Ty [.lst false 1 l.length (Af .u8 l)]=some ⟨[.sc (.int .u64 (Sd l))],[]⟩:=by
 rw [GF];exact GC hb hl l 0 fu rfl (by omega) (by omega)
theorem H6 (k:IntKind)(l:List Int)(i:Nat):List.drop i (Af k l)=Af k (l.drop i):=by
 have:=BU (AO k) l i
 simpa using this
theorem Ob (k:IntKind)(l:List Int)(i:Nat):List.take i (Af k l)=Af k (l.take i):=by
 have:=Z2 (AO k) l i
 simpa using this
theorem J4.drop {l:List Int}(h:J4 l)(i:Nat):J4 (l.drop i):=fun x hx=>h x (List.mem_of_mem_drop hx)
theorem J4.take {l:List Int}(h:J4 l)(i:Nat):J4 (l.take i):=fun x hx=>h x (List.mem_of_mem_take hx)
theorem Ajz {a0 a1:Int}{n:Nat}{c:List PV}{l:List Int}(hb:J4 l)(hl:l.length<=1099511627776)(hfu:100<=fu)(nn:Nat)(v:W4):
  Im fu (Ae (CX xs) Tryz.prog fu (d+3)) a0 a1 n c (nn+1) l.length (Af .u8 l) ((l.length / 8:Nat):Int) ((l.length / 8:Nat):Int) ((l.length / 8:Nat):Int) v.a v.b v.c v.d=some ⟨[.sc (.int .u64 (Afe (Ac1 (Sh v (M2 l)))))],[]⟩:=by
 have w8:wrap .i64 (8*((l.length / 8:Nat):Int))=((8*(l.length / 8):Nat):Int):=by rw [Aj (by omega) (by omega)];omega
 have wl:wrap .u64 (l.length:Int)=l.length:=Cs (by omega) (by omega)
 have hdl:(l.drop (8*(l.length / 8))).length=l.length-8*(l.length / 8):=List.length_drop;have li:=PK (xs:=xs) (fu:=fu) (d:=d+2) (hb.drop (8*(l.length / 8))) (by omega) hfu
 rw [hdl] at li;have tk:List.take (l.length-8*(l.length / 8)) (Af .u8 (l.drop (8*(l.length / 8))))=Af .u8 (l.drop (8*(l.length / 8))):=Sl (by rw [Ak,hdl];omega)
 have hbn:=Ti (hb.drop (8*(l.length / 8)));rw [hdl] at hbn
 have hp7:(256:Int) ^ (l.length-8*(l.length / 8))<=256 ^ 7:=by
  have:(256:Nat) ^ (l.length-8*(l.length / 8))<=256 ^ 7:=Nat.pow_le_pow_right (by omega) (by omega)
  have h2:(((256:Nat) ^ (l.length-8*(l.length / 8)):Nat):Int)<=((256 ^ 7:Nat):Int):=by omega
  simpa using h2
 have hlast:PH .u64 (Sd (l.drop (8*(l.length / 8)))) (G7 .u64 (l.length:Int) 56)=M2 l:=by
  have hs:G7 .u64 (l.length:Int) 56=(((l.length % 256)*2 ^ 56:Nat):Int):=by
   show wrap .u64 ((l.length:Int)*2 ^ (min (56:Int).toNat IntKind.u64.bits))=_;have h2:(2:Int) ^ (min (56:Int).toNat IntKind.u64.bits)=72057594037927936:=by decide
   have h3:(2:Nat) ^ 56=72057594037927936:=by decide
   rw [h2,h3];simp only [wrap,IntKind.signed,IntKind.bits];simp;omega
  have h56:(256:Int) ^ 7=((2 ^ 56:Nat):Int):=by decide
  have h3:(2:Nat) ^ 56=72057594037927936:=by decide
  rw [hs,(SK 56 (l.length % 256) hbn.1 (by omega) rfl (by omega)).1]
  unfold M2;omega
 have ab:=NT (xs:=xs) (fu:=fu) (d:=d) hfu v (M2 l);have r4:=NV (xs:=xs) (fu:=fu) (d:=d+1) 4 (by omega) hfu ⟨(Sh v (M2 l)).a,(Sh v (M2 l)).b,Dx .u64 (Sh v (M2 l)).c 255,(Sh v (M2 l)).d⟩
 have e4:((4:Nat):Int)=4:=rfl;rw [e4] at r4;unfold Ac1;generalize Sh v (M2 l)=U at ab r4 ⊢;generalize Aaw 4 ⟨U.a,U.b,Dx .u64 U.c 255,U.d⟩=R at r4 ⊢;simp only [W4.cells] at ab r4;rw [Tx];simp (disch:=omega) only [B4,Gm,Cb,w8,wl,H6,tk,li,hlast,ab,r4];rfl
theorem VS {a0 a1:Int}{n:Nat}{c:List PV}{l:List Int}(hb:J4 l)(hl:l.length<=1099511627776)(hfu:100<=fu):∀(k i nn:Nat)(v:W4),i+k=l.length / 8->k<nn ->
  Im fu (Ae (CX xs) Tryz.prog fu (d+3)) a0 a1 n c nn l.length (Af .u8 l) ((l.length / 8:Nat):Int) ((l.length / 8:Nat):Int) i v.a v.b v.c v.d=some ⟨[.sc (.int .u64 (Afe (Ac1 (Sh (ME k v (l.drop (8*i))) (M2 l)))))],[]⟩
 |_,_,0,_,_,h=>by omega
 |0,i,nn+1,v,hi,hn=>by
  have e:i=l.length / 8:=by omega
  subst e;exact Ajz hb hl hfu nn v
 |k+1,i,nn+1,v,hi,hn=>by
  have w:wrap .i64 ((i:Int)+1)=((i+1:Nat):Int):=by rw [Aj (by omega) (by omega)];omega
  have w8:wrap .i64 (8*(i:Int))=((8*i:Nat):Int):=by rw [Aj (by omega) (by omega)];omega
  have w88:wrap .i64 (((8*i:Nat):Int)+8)=((8*i+8:Nat):Int):=by rw [Aj (by omega) (by omega)];omega
  have hdl:((l.drop (8*i)).take 8).length=8:=by rw [List.length_take,List.length_drop];omega
  have li:=PK (xs:=xs) (fu:=fu) (d:=d+2) ((hb.drop (8*i)).take 8) (by omega) hfu
  rw [hdl] at li;have e8:8*i+8-8*i=8:=by omega
  have ab:=NT (xs:=xs) (fu:=fu) (d:=d) hfu v (Sd ((l.drop (8*i)).take 8));have ih:=VS (a0:=a0) (a1:=a1) (n:=n) (c:=c) hb hl hfu k (i+1) nn (Sh v (Sd ((l.drop (8*i)).take 8))) (by omega) (by omega)
  have eN:ME (k+1) v (l.drop (8*i))=ME k (Sh v (Sd ((l.drop (8*i)).take 8))) (l.drop (8*(i+1))):=by
   rw [ME,List.drop_drop,show 8*i+8=8*(i+1) by omega]
  rw [eN];generalize Sh v (Sd ((l.drop (8*i)).take 8))=U at ab ih ⊢;simp only [W4.cells] at ab;rw [Tx];simp (disch:=omega) only [B4,Gm,Cb,w,w8,w88,e8,H6,Ob,li,ab];exact ih
theorem Ahp {l:List Int}(hb:J4 l)(hl:l.length<=1099511627776)(hfu:100<=fu)(hf:l.length<fu)(k0 k1:Int):Ae (CX xs) Tryz.prog fu (d+4) BF [.sc (.int .u64 k0),.sc (.int .u64 k1),.lst false 1 l.length (Af .u8 l)]=some ⟨[.sc (.int .u64 (Aj9 k0 k1 l))],[]⟩:=by
 rw [QF]
 have w:wrap .i64 (Int.tdiv (l.length:Int) 8)=((l.length / 8:Nat):Int):=by
  rw [Int.tdiv_eq_ediv_of_nonneg (by omega),Aj (by omega) (by omega)]
  omega
 have lp:=VS (xs:=xs) (fu:=fu) (d:=d) (a0:=k0) (a1:=k1) (n:=l.length) (c:=Af .u8 l) hb hl hfu (l.length / 8) 0 fu (Aow k0 k1) (by omega) (by omega)
 simp only [G9,w];exact lp
theorem Abj {l:List Int}(hb:J4 l)(hl:l.length<=1099511627776)(hfu:100<=fu)(hf:l.length<fu)(dom:Int):Ae (CX xs) Tryz.prog fu (d+5) Qt [.sc (.int .i64 dom),.lst false 1 l.length (Af .u8 l)]=some ⟨[.sc (.int .u64 (Nf dom l))],[]⟩:=by
 rw [MF];have s:=Ahp (xs:=xs) (fu:=fu) (d:=d) hb hl hfu hf (wrap .u64 dom) 0;simp only [B4,s];rfl
theorem Od (v:W4):Ae (CX xs) Tryz.prog fu (d+2) M9 [.agg [.sc (.int .u64 v.a),.sc (.int .u64 v.b),.sc (.int .u64 v.c),.sc (.int .u64 v.d)]]=some ⟨[.agg (MC v).cells],[]⟩:=by
 have r13:=fun x=>Ags (xs:=xs) (fu:=fu) (d:=d) (x:=x) (k:=13) (by simp)
 have r16:=fun x=>Ags (xs:=xs) (fu:=fu) (d:=d) (x:=x) (k:=16) (by simp)
 have r17:=fun x=>Ags (xs:=xs) (fu:=fu) (d:=d) (x:=x) (k:=17) (by simp)
 have r21:=fun x=>Ags (xs:=xs) (fu:=fu) (d:=d) (x:=x) (k:=21) (by simp)
 have r32:=fun x=>Ags (xs:=xs) (fu:=fu) (d:=d) (x:=x) (k:=32) (by simp)
 rw [Wq];simp (disch:=omega) only [B4,r13,r16,r17,r21,r32];rfl
def T0 (l:List Int)(i k:Nat):Int:=if i+k<l.length then l.getD (i+k) 0 else if k=7 then (l.length:Int) % 256 else 0
def pc (l:List Int)(i:Nat):List Int:=(List.range 8).map (T0 l i)
theorem Axd {l:List Int}(hb:J4 l)(i:Nat):J4 (pc l i):=by
 intro x hx;obtain ⟨k,hk,rfl⟩:=List.mem_map.1 hx;unfold T0;split
 ·rename_i h;rw [List.getD_eq_getElem?_getD,List.getElem?_eq_getElem h];exact hb _ (List.getElem_mem h)
 ·split<;>omega
theorem Akb {l:List Int}{i:Nat}(h:i+8<=l.length):pc l i=(l.drop i).take 8:=by
 refine List.ext_getElem (by simp [pc];omega) fun k h1 h2=>?_
 have hk:k<8:=by simpa [pc] using h1
 simp only [pc,List.getElem_map,List.getElem_range,List.getElem_take,List.getElem_drop,T0];rw [B7 (by omega),List.getD_eq_getElem?_getD,List.getElem?_eq_getElem (by omega)]
 rfl
theorem OO (x:Int):∀n,Sd (List.replicate n 0++[x])=256 ^ n*x
 |0=>by simp [Sd]
 |n+1=>by
  rw [List.replicate_succ,List.cons_append,Sd,OO x n,Int.pow_succ,Int.mul_comm (256 ^ n) 256,Int.mul_assoc];omega
theorem Akk {l:List Int}:Sd (pc l (8*(l.length / 8)))=M2 l:=by
 have e:pc l (8*(l.length / 8))=l.drop (8*(l.length / 8))++(List.replicate (7-(l.length-8*(l.length / 8))) 0++[(l.length:Int) % 256]):=by
  refine List.ext_getElem (by simp [pc];omega) fun k h1 h2=>?_
  have hk:k<8:=by simpa [pc] using h1
  simp only [pc,List.getElem_map,List.getElem_range,T0];by_cases hc:8*(l.length / 8)+k<l.length
  ·rw [B7 hc,List.getElem_append_left (by rw [List.length_drop];omega),List.getElem_drop,List.getD_eq_getElem?_getD,List.getElem?_eq_getElem hc]
   rfl
  ·rw [A7 hc,List.getElem_append_right (by rw [List.length_drop];omega)]
   by_cases h7:k=7
   ·rw [B7 h7,List.getElem_append_right (by simp;omega)]
    simp
   ·rw [A7 h7,List.getElem_append_left (by simp;omega)]
    simp
 rw [e,Yj,OO];unfold M2
 have:(256:Int) ^ (l.drop (8*(l.length / 8))).length*(256 ^ (7-(l.length-8*(l.length / 8)))*((l.length:Int) % 256))=72057594037927936*((l.length:Int) % 256):=by
  rw [←Int.mul_assoc,←Int.pow_add,List.length_drop];have:l.length-8*(l.length / 8)+(7-(l.length-8*(l.length / 8)))=7:=by omega
  rw [this];rfl
 rw [this]
theorem Ash {a b:Int}(ha:0<=a)(ha':a<72057594037927936)(hb:0<=b)(hb':b<=255):PH .u64 (G7 .u64 a 8) b=b+256*a:=by
 obtain ⟨n,rfl⟩:=Int.eq_ofNat_of_zero_le ha
 have hs:G7 .u64 (n:Int) 8=((n*2 ^ 8:Nat):Int):=by
  have:=Aa8 (a:=(n:Int)) (k:=8) (by omega) (by omega) (by omega) (by
   have:(2 ^ (8:Int).toNat:Nat)=256:=by decide
   rw [this];omega)
  rw [this];have:(2 ^ (8:Int).toNat:Nat)=256:=by decide
  rw [this];have:(2 ^ 8:Nat)=256:=by decide
  rw [this];omega
 have h8:(2 ^ 8:Nat)=256:=by decide
 rw [hs,(SK (a:=b) 8 n hb (by rw [h8];omega) rfl (by rw [h8];omega)).2,h8]
 omega
theorem Ab7 {a0 a1:Int}{n m0:Nat}{c:List PV}{l:List Int}(hb:J4 l)(hl:l.length<=1099511627776){i:Nat}(hi:i<=l.length)(v:W4):∀(j nn:Nat),j<=8->j<nn ->
  Eh fu (Ae (CX xs) Tryz.prog fu (d+2)) a0 a1 n c m0 nn l.length (Af .u8 l) i (Sd ((pc l i).drop j)) ((j:Int)-1) v.cells =
   Fn fu (Ae (CX xs) Tryz.prog fu (d+2)) a0 a1 n c m0 l.length (Af .u8 l) ((i+8:Nat):Int) (Sh v (Sd (pc l i))).cells
 |_,0,_,h=>by omega
 |0,nn+1,hj,hn=>by
  have w8:wrap .i64 ((i:Int)+8)=((i+8:Nat):Int):=by rw [Aj (by omega) (by omega)];omega
  have r1:=Od (xs:=xs) (fu:=fu) (d:=d) ⟨v.a,v.b,v.c,Dx .u64 v.d (Sd (pc l i))⟩;have r2:=Od (xs:=xs) (fu:=fu) (d:=d) (MC ⟨v.a,v.b,v.c,Dx .u64 v.d (Sd (pc l i))⟩);have eA:Sh v (Sd (pc l i))=Asl (MC (MC ⟨v.a,v.b,v.c,Dx .u64 v.d (Sd (pc l i))⟩)) (Sd (pc l i)):=rfl;rw [eA];generalize MC ⟨v.a,v.b,v.c,Dx .u64 v.d (Sd (pc l i))⟩=U at r1 r2 ⊢;generalize MC U=U2 at r2 ⊢;simp only [W4.cells] at r1 r2;rw [Mj,Dt _ _ _ (by omega),Fa]
  simp only [W4.cells,List.getD_cons_zero,List.getD_cons_succ,QY,G9];simp (disch:=first|omega|(simp;done)) only [B4,Bb,List.take_succ_cons,List.take_zero,List.drop_succ_cons,Fa,List.drop_nil,List.cons_append,Zzq,List.append_nil,Jj,Xy,List.getD_cons_zero,List.getD_cons_succ,r1,r2,w8,Bw,Nat.reduceAdd,Nat.reduceLeDiff,List.append_eq]
  rfl
 |j+1,nn+1,hj,hn=>by
  have ih:=Ab7 (a0:=a0) (a1:=a1) (n:=n) (m0:=m0) (c:=c) hb hl hi v j nn (by omega) (by omega)
  have hw:wrap .i64 ((i:Int)+(((j+1:Nat):Int)-1))=((i+j:Nat):Int):=by rw [Aj (by omega) (by omega)];omega
  have wj:wrap .i64 (((j+1:Nat):Int)-1-1)=(j:Int)-1:=by rw [Aj (by omega) (by omega)];omega
  have hd:(pc l i).drop j=T0 l i j::(pc l i).drop (j+1):=by
   rw [List.drop_eq_getElem_cons (by simp [pc];omega)]
   simp [pc]
  have hB:=Axd hb i;have hbn:=Ti (hB.drop (j+1))
  have hp7:(256:Int) ^ ((pc l i).drop (j+1)).length<=72057594037927936:=by
   have hlen:((pc l i).drop (j+1)).length<=7:=by simp [pc]
   have:(256:Nat) ^ ((pc l i).drop (j+1)).length<=256 ^ 7:=Nat.pow_le_pow_right (by omega) hlen
   have h2:(((256:Nat) ^ ((pc l i).drop (j+1)).length:Nat):Int)<=((256 ^ 7:Nat):Int):=by omega
   simpa using h2
  have hc0:0<=T0 l i j∧T0 l i j<=255:=hB _ (by rw [←Fa (l:=pc l i)];exact List.mem_of_mem_drop (i:=j) (by rw [Fa,hd];simp))
  have hj2:PH .u64 (G7 .u64 (Sd ((pc l i).drop (j+1))) 8) (T0 l i j)=Sd ((pc l i).drop j):=by
   rw [Ash hbn.1 (by omega) hc0.1 hc0.2,hd]
   rfl
  have wc:wrap .u64 (T0 l i j)=T0 l i j:=Cs (by omega) (by omega)
  rw [Mj,ID _ _ _ (by omega)]
  simp only [G9,hw];by_cases c1:i+j<l.length
  ·have e:T0 l i j=l.getD (i+j) 0:=by unfold T0;rw [B7 c1]
   have e2:l[i+j]?=some (T0 l i j):=by rw [e,List.getD_eq_getElem?_getD,List.getElem?_eq_getElem c1];rfl
   rw [ID _ _ _ (by omega)]
   simp (disch:=omega) only [B4,Gm,Cb,Xj e2,wc,hj2,wj];exact ih
  ·rw [Dt _ _ _ (by omega)]
   by_cases h7:j=7
   ·subst h7;have e:T0 l i 7=(l.length:Int) % 256:=by unfold T0;rw [A7 c1,B7 rfl]
    have e8:wrap .u8 (l.length:Int)=T0 l i 7:=by
     rw [e];simp only [wrap,IntKind.signed,IntKind.bits];simp
    rw [Fc,B7 (by omega),e8,wc,hj2,wj]
    exact ih
   ·have e:T0 l i j=0:=by unfold T0;rw [A7 c1,A7 h7]
    rw [e] at hj2;rw [Fc,A7 (by omega),hj2,wj]
    exact ih
theorem NS {a0 a1:Int}{n:Nat}{c:List PV}{l:List Int}(hb:J4 l)(hl:l.length<=1099511627776)(hfu:100<=fu):∀(k i nn:Nat)(v:W4),i+k=l.length / 8->k+1<nn ->
  Fn fu (Ae (CX xs) Tryz.prog fu (d+2)) a0 a1 n c nn l.length (Af .u8 l) ((8*i:Nat):Int) v.cells=some ⟨[.sc (.int .u64 (Afe (Ac1 (Sh (ME k v (l.drop (8*i))) (M2 l)))))],[]⟩
 |_,_,0,_,_,h=>by omega
 |k,i,nn+1,v,hi,hn=>by
  have step:=Ab7 (xs:=xs) (fu:=fu) (d:=d) (a0:=a0) (a1:=a1) (n:=n) (m0:=nn) (c:=c) hb hl (i:=8*i) (by omega) v 8 fu (by omega) (by omega)
  have e0:Sd ((pc l (8*i)).drop 8)=0:=by rw [List.drop_of_length_le (by simp [pc])];rfl
  rw [e0] at step;rw [Ml,ID _ _ _ (by omega)]
  refine step.trans ?_;cases k with
  |zero=>
   have e:i=l.length / 8:=by omega
   subst e;rw [Akk];generalize hv:Sh v (M2 l)=u;obtain ⟨nn',rfl⟩:∃nn',nn=nn'+1:=⟨nn-1,by omega⟩
   have r1:=Od (xs:=xs) (fu:=fu) (d:=d) ⟨u.a,u.b,Dx .u64 u.c 255,u.d⟩;have r2:=Od (xs:=xs) (fu:=fu) (d:=d) (MC ⟨u.a,u.b,Dx .u64 u.c 255,u.d⟩);have r3:=Od (xs:=xs) (fu:=fu) (d:=d) (MC (MC ⟨u.a,u.b,Dx .u64 u.c 255,u.d⟩));have r4:=Od (xs:=xs) (fu:=fu) (d:=d) (MC (MC (MC ⟨u.a,u.b,Dx .u64 u.c 255,u.d⟩)))
   have eF:Afe (Ac1 (Sh (ME 0 v (l.drop (8*(l.length / 8)))) (M2 l)))=Afe (MC (MC (MC (MC ⟨u.a,u.b,Dx .u64 u.c 255,u.d⟩)))):=by
    rw [ME,hv];rfl
   rw [eF];clear eF;generalize MC ⟨u.a,u.b,Dx .u64 u.c 255,u.d⟩=U1 at r1 r2 r3 r4 ⊢;generalize MC U1=U2 at r2 r3 r4 ⊢;generalize MC U2=U3 at r3 r4 ⊢;generalize MC U3=U4 at r4 ⊢;simp only [W4.cells] at r1 r2 r3 r4;rw [Ml,Dt _ _ _ (by omega)]
   simp only [W4.cells,List.getD_cons_zero,List.getD_cons_succ,QY,G9];simp (disch:=first|omega|(simp;done)) only [B4,Bb,List.take_succ_cons,List.take_zero,List.drop_succ_cons,Fa,List.drop_nil,List.cons_append,Zzq,List.append_nil,Jj,Xy,List.getD_cons_zero,List.getD_cons_succ,r1,r2,r3,r4,Bw,Nat.reduceAdd,Nat.reduceLeDiff,List.append_eq]
   rfl
  |succ k=>
   have ih:=NS (a0:=a0) (a1:=a1) (n:=n) (c:=c) hb hl hfu k (i+1) nn (Sh v (Sd (pc l (8*i)))) (by omega) (by omega)
   rw [show 8*i+8=8*(i+1) by omega,ih,Akb (by omega)]
   simp only [ME,List.drop_drop];rw [show 8*(i+1)=8*i+8 by omega]
theorem Aa9 {l:List Int}(hb:J4 l)(hl:l.length<=1099511627776)(hfu:100<=fu)(hf:l.length<fu)(k0 k1:Int):Ae (CX xs) Tryz.prog fu (d+3) Qc [.sc (.int .u64 k0),.sc (.int .u64 k1),.lst false 1 l.length (Af .u8 l)]=some ⟨[.sc (.int .u64 (Aj9 k0 k1 l))],[]⟩:=by
 rw [AD];exact NS (xs:=xs) (fu:=fu) (d:=d) (a0:=k0) (a1:=k1) (n:=l.length) (c:=Af .u8 l) hb hl hfu (l.length / 8) 0 fu (Aow k0 k1) (by omega) (by omega)
theorem WQ {l:List Int}(hb:J4 l)(hl:l.length<=1099511627776)(hfu:100<=fu)(hf:l.length<fu)(dom:Int):Ae (CX xs) Tryz.prog fu (d+4) I1 [.sc (.int .i64 dom),.lst false 1 l.length (Af .u8 l)]=some ⟨[.sc (.int .u64 (Nf dom l))],[]⟩:=by
 rw [Yg];have s:=Aa9 (xs:=xs) (fu:=fu) (d:=d) hb hl hfu hf (wrap .u64 dom) 0;simp only [B4,s];rfl
theorem Alk {l:List Int}(hb:J4 l)(hl:l.length<=1099511627776)(hfu:100<=fu)(hf:l.length<fu)(key dom:Int):Ae (CX xs) Tryz.prog fu (d+4) P0 [.sc (.int .u64 key),.sc (.int .i64 dom),.lst false 1 l.length (Af .u8 l)]=some ⟨[.sc (.int .u64 (Ajk key dom l))],[]⟩:=by
 rw [BJ];have s:=Aa9 (xs:=xs) (fu:=fu) (d:=d) hb hl hfu hf key (wrap .u64 (1+wrap .u64 dom));simp only [B4,s];rfl
end
end
section
open Go.IntKind (wrap)
def Da (w:Int)(k:Nat):Int:=wrap .u8 (D6 .u64 w (56-8*(k:Int)))
def Dy (w:Int):List Int:=(List.range' 0 8).map (Da w)
def A5 (ws:List Int):List Int:=ws.flatMap Dy
theorem Ew (w:Int):(Dy w).length=8:=rfl
section
variable {fu d:Nat} {xs:FuncId->Option (List PV->Option Az)} {call:Ai} {n:Nat} {c:List PV}
theorem UI {ws:List Int}{w:Int}{m0 l:Nat}{i k:Int}:∀(r j nn:Nat)(bs:List Int),8-j=r->r<nn->j<=8->bs.length+r<=34359738368 ->
  Ir fu call n c m0 nn bs.length w l (Af .u64 ws) k i j (Af .u8 bs) =
   Ha fu call n c m0 (bs++(List.range' j (8-j)).map (Da w)).length l (Af .u64 ws) k (wrap .i64 (i+1)) (Af .u8 (bs++(List.range' j (8-j)).map (Da w)))
 |r,j,0,bs,_,h,_,_=>by omega
 |0,j,nn+1,bs,hr,_,hj,_=>by
  have e:j=8:=by omega
  subst e;rw [Py];simp (disch:=omega) only [B4];simp
 |r+1,j,nn+1,bs,hr,hn,hj,hb=>by
  have ih:=UI (ws:=ws) (w:=w) (m0:=m0) (l:=l) (i:=i) (k:=k) r (j+1) nn (bs++[Da w j]) (by omega) (by omega) (by omega) (by simp;omega)
  have e8:=Ak .u8 bs;rw [Py]
  have hx:wrap .u8 (D6 .u64 w (wrap .i64 (56-wrap .i64 (8*(j:Int)))))=Da w j:=by
   rw [Aj (x:=8*(j:Int)) (by omega) (by omega),Aj (by omega) (by omega)]
   rfl
  have h0:0<=wrap .i64 (56-wrap .i64 (8*(j:Int))):=by
   rw [Aj (x:=8*(j:Int)) (by omega) (by omega),Aj (by omega) (by omega)]
   omega
  have hrange:List.range' j (8-j)=j::List.range' (j+1) (8-(j+1)):=by
   rw [show 8-j=(8-(j+1))+1 by omega]
   exact List.range'_succ
  simp (disch:=first|omega|exact h0) only [B4,Cb,hx,Kc,F0,Aj (x:=(j:Int)+1)];rw [hrange];simp only [J6,Jj,Xy,Bw,XE,Zzw,List.singleton_append] at ih ⊢;exact ih
theorem KG {ws:List Int}(hl:ws.length<=1073741824)(hfu:100<=fu):∀(r:List Int)(i nn:Nat)(bs:List Int),ws.drop i=r->r.length<nn->bs.length=8*i ->
  Ha fu call n c nn bs.length ws.length (Af .u64 ws) ws.length i (Af .u8 bs)=some ⟨[.own 1 (bs++A5 r).length (Af .u8 (bs++A5 r))],[]⟩
 |r,i,0,_,_,h,_=>by omega
 |[],i,nn+1,bs,h,_,_=>by
  have:=drop_nil h;have e8:=Ak .u8 bs;rw [P7];simp (disch:=omega) only [B4,Cb,Kc,A5,List.flatMap_nil,List.append_nil]
 |w::r,i,nn+1,bs,h,hn,hb=>by
  obtain ⟨h1,h2,h3⟩:=Cg h;simp only [Jj] at hn;rw [P7];simp (disch:=omega) only [B4,Gm,Cb,Xj h2];rw [show (0:Int)=((0:Nat):Int) from rfl,UI 8 0 fu bs rfl (by omega) (by omega) (by omega),Aj (by omega) (by omega)]
  have ih:=KG hl hfu r (i+1) nn (bs++Dy w) h3 (by omega) (by simp [Ew];omega)
  have e:bs++Dy w++A5 r=bs++A5 (w::r):=by simp [A5]
  rw [e] at ih;exact ih
theorem Ou {ws:List Int}(hl:ws.length<=1073741824)(hfu:100<=fu)(hf:ws.length<fu):Ae (CX xs) Tryz.prog fu (d+1) Fj [.lst false 1 ws.length (Af .u64 ws)]=some ⟨[.own 1 (A5 ws).length (Af .u8 (A5 ws))],[]⟩:=by
 rw [LO];simp (disch:=omega) only [B4,Aj,Int.mul_one];exact KG hl hfu ws 0 fu [] rfl hf rfl
theorem PX {ws:List Int}{w:Int}{m0 i:Nat}(hw:ws[i]?=some w):∀(r nn:Nat)(j:Int)(bs:List Int),j=(r:Int)-1->r<=8->r<nn->bs.length+r<=34359738368 ->
  F2 fu call n c m0 nn ws.length (Af .u64 ws) bs.length i j (Af .u8 bs) =
   Er fu call n c m0 ws.length (Af .u64 ws) (bs++(List.range' (8-r) r).map (Da w)).length (wrap .i64 (i+1)) (Af .u8 (bs++(List.range' (8-r) r).map (Da w)))
 |r,0,j,bs,_,_,h,_=>by omega
 |0,nn+1,j,bs,hr,_,_,_=>by
  rw [Jy];simp (disch:=omega) only [B4];simp
 |r+1,nn+1,j,bs,hr,hle,hn,hb=>by
  have hi:=Ya hw;have ih:=PX (m0:=m0) hw r nn (j-1) (bs++[Da w (8-(r+1))]) (by omega) (by omega) (by omega) (by simp;omega)
  have e8:=Ak .u8 bs
  have hx:wrap .u8 (D6 .u64 w (wrap .u64 (wrap .i64 (8*j))))=Da w (8-(r+1)):=by
   rw [Aj (by omega) (by omega),Cs (by omega) (by omega)]
   unfold Da;rw [show 56-8*((8-(r+1):Nat):Int)=8*j by omega]
  have h0:0<=wrap .u64 (wrap .i64 (8*j)):=by
   rw [Aj (by omega) (by omega),Cs (by omega) (by omega)]
   omega
  have hrange:List.range' (8-(r+1)) (r+1)=(8-(r+1))::List.range' (8-r) r:=by
   rw [List.range'_succ,show 8-(r+1)+1=8-r by omega]
  rw [Jy];simp (disch:=first|omega|exact h0) only [B4,Gm,Cb,Xj hw,hx,Kc,F0,Aj (x:=j-1)];rw [hrange];simp only [J6,Jj,Xy,Bw,XE,Zzw,List.singleton_append] at ih ⊢;exact ih
theorem FL {ws:List Int}(hl:ws.length<=1073741824)(hfu:100<=fu):∀(r:List Int)(i nn:Nat)(bs:List Int),ws.drop i=r->r.length<nn->bs.length=8*i ->
  Er fu call n c nn ws.length (Af .u64 ws) bs.length i (Af .u8 bs)=some ⟨[.own 1 (bs++A5 r).length (Af .u8 (bs++A5 r))],[]⟩
 |r,i,0,_,_,h,_=>by omega
 |[],i,nn+1,bs,h,_,_=>by
  have:=drop_nil h;have e8:=Ak .u8 bs;rw [Jp];simp (disch:=omega) only [B4,Cb,Kc,A5,List.flatMap_nil,List.append_nil]
 |w::r,i,nn+1,bs,h,hn,hb=>by
  obtain ⟨h1,h2,h3⟩:=Cg h;simp only [Jj] at hn;rw [Jp];simp (disch:=omega) only [B4];rw [PX h2 8 fu 7 bs rfl (by omega) (by omega) (by omega),Aj (by omega) (by omega)]
  have ih:=FL hl hfu r (i+1) nn (bs++Dy w) h3 (by omega) (by simp [Ew];omega)
  have e:bs++Dy w++A5 r=bs++A5 (w::r):=by simp [A5]
  rw [e] at ih;exact ih
theorem Rw {ws:List Int}(hl:ws.length<=1073741824)(hfu:100<=fu)(hf:ws.length<fu):Ae (CX xs) Tryz.prog fu (d+1) D9 [.lst false 1 ws.length (Af .u64 ws)]=some ⟨[.own 1 (A5 ws).length (Af .u8 (A5 ws))],[]⟩:=by
 rw [W6];exact FL hl hfu ws 0 fu [] rfl hf rfl
end
abbrev Fe (a b:Int):Int:=PH .u64 (G7 .u64 a 8) (wrap .u64 b)
def JZ (bs:List Int):Int:=bs.foldl Fe 0
theorem Amj {q:Int}(h0:0<=q)(h1:q<=18446744073709551615):Fe (q / 256) (wrap .u8 q)=q:=by
 have e1:G7 .u64 (q / 256) 8=q / 256*256:=by
  unfold G7;have:((8:Int).toNat.min IntKind.u64.bits)=8:=by decide
  show wrap .u64 (q / 256*2 ^ (min (8:Int).toNat IntKind.u64.bits))=_;have h2:(2:Int) ^ (min (8:Int).toNat IntKind.u64.bits)=256:=by decide
  rw [h2,Cs (by omega) (by omega)]
 have e2:wrap .u8 q=q % 256:=by
  simp only [wrap,IntKind.signed,IntKind.bits];simp
 have e3:wrap .u64 (q % 256)=q % 256:=Cs (by omega) (by omega)
 unfold Fe;rw [e1,e2,e3];obtain ⟨n,rfl⟩:=Int.eq_ofNat_of_zero_le h0;have hn:n<18446744073709551616:=by omega
 have e4:(BitVec.ofInt 64 ((n:Int) / 256*256)).toNat=n / 256*256:=by
  rw [BitVec.toNat_ofInt];omega
 have e5:(BitVec.ofInt 64 ((n:Int) % 256)).toNat=n % 256:=by
  rw [BitVec.toNat_ofInt];omega
 have e6:n / 256*256 ||| n % 256=n:=by
  have:=Nat.shiftLeft_add_eq_or_of_lt (show n % 256<2 ^ 8 by omega) (n / 256)
  rw [Nat.shiftLeft_eq] at this;rw [←this];omega
 unfold PH;show wrap .u64 ((BitVec.ofInt 64 ((n:Int) / 256*256) ||| BitVec.ofInt 64 ((n:Int) % 256)).toNat:Int)=n;rw [BitVec.toNat_or,e4,e5,e6,Cs (by omega) (by omega)]
theorem PU {w:Int}(k:Nat)(hk:k<8):Da w k=wrap .u8 (w / 2 ^ (56-8*k)):=by
 unfold Da D6;have e:(56-8*(k:Int)).toNat=56-8*k:=by omega
 rw [e,Nat.min_eq_left (by show 56-8*k<=64;omega),Int.fdiv_eq_ediv_of_nonneg _ (Int.le_of_lt (Int.pow_pos (by omega)))]
theorem OZ {w:Int}(h0:0<=w)(h1:w<=18446744073709551615):JZ (Dy w)=w:=by
 have st:∀(k:Nat) (D:Int),k<8->(2:Int) ^ (56-8*k)=D->0<D->Fe (w / D / 256) (Da w k)=w / D:=by
  intro k D hk hD hp;rw [PU k hk,hD];exact Amj (Int.ediv_nonneg h0 (Int.le_of_lt hp)) (Int.le_trans (Int.ediv_le_self _ h0) h1)
 have s0:=st 0 72057594037927936 (by omega) (by decide) (by omega)
 have s1:=st 1 281474976710656 (by omega) (by decide) (by omega)
 have s2:=st 2 1099511627776 (by omega) (by decide) (by omega)
 have s3:=st 3 4294967296 (by omega) (by decide) (by omega)
 have s4:=st 4 16777216 (by omega) (by decide) (by omega)
 have s5:=st 5 65536 (by omega) (by decide) (by omega)
 have s6:=st 6 256 (by omega) (by decide) (by omega)
 have s7:=st 7 1 (by omega) (by decide) (by omega)
 rw [show w / 72057594037927936 / 256=0 by omega] at s0
 rw [show w / 281474976710656 / 256=w / 72057594037927936 by omega] at s1
 rw [show w / 1099511627776 / 256=w / 281474976710656 by omega] at s2
 rw [show w / 4294967296 / 256=w / 1099511627776 by omega] at s3
 rw [show w / 16777216 / 256=w / 4294967296 by omega] at s4
 rw [show w / 65536 / 256=w / 16777216 by omega] at s5
 rw [show w / 256 / 256=w / 65536 by omega] at s6
 rw [show w / 1 / 256=w / 256 by omega,show w / 1=w by omega] at s7
 show Fe (Fe (Fe (Fe (Fe (Fe (Fe (Fe 0 (Da w 0)) (Da w 1)) (Da w 2)) (Da w 3)) (Da w 4)) (Da w 5)) (Da w 6)) (Da w 7)=w;rw [s0,s1,s2,s3,s4,s5,s6,s7]
end
section
open Go.IntKind (wrap)
set_option maxRecDepth 100000
abbrev Sc:FuncId:=104
noncomputable def F3 (fu:Nat)(call:Ai)(a0:Int)(nn:Nat)(y0 y1 y2:Int)(y3 y4:List PV):Option Az:=Cz CB Tryz.prog fu call 104 Tryz.f104 (Bq Tryz.f104) [.sc (.int .u64 a0)] [.r,.r,.r,.l,.r,.l] nn ⟨lk [(0,(.sc (.int .u64 y0))),(2,(.ptr 2 0)),(3,(.ptr 3 0)),(4,(.sc (.int .i64 y1))),(6,(.sc (.int .i64 y2)))],B5 [(2,(.ar false y3)),(3,(.ar false y4))]⟩
noncomputable def Ql (fu:Nat)(call:Ai)(a0:Int)(nn:Nat)(y0 y1:List PV):Option Az:=Cz CB Tryz.prog fu call 104 Tryz.f104 (Bq Tryz.f104) [.sc (.int .u64 a0)] [.r,.r,.r,.r,.r] nn ⟨lk [(2,(.ptr 2 0)),(3,(.ptr 3 0))],B5 [(2,(.ar false y0)),(3,(.ar false y1))]⟩
noncomputable def Qo (fu:Nat)(call:Ai)(a0:Int)(nn:Nat)(y0:List PV):Option Az:=Cz CB Tryz.prog fu call 104 Tryz.f104 (Bq Tryz.f104) [.sc (.int .u64 a0)] [.r,.r,.r,.r,.r,.r] nn ⟨lk [(2,(.ptr 2 0))],B5 [(2,(.ar false y0))]⟩
theorem M5 (fu:Nat)(call:Ai)(a0:Int)(nn:Nat)(y0 y1 y2:Int)(y3 y4:List PV):F3 fu call a0 (nn+1) y0 y1 y2 y3 y4=(Ba (decide (y2<16)) (Aa (wrap .i64 (4*y2)) fun x1=>Aa (wrap .i64 (60-x1)) fun x2=>Ao (decide (0<=x2))<|Aa (D6 .u64 y0 x2) fun x3=>Aa (Ru .u64 x3 15) fun x4=>Aa (wrap .i64 x4) fun x5=>Ao (decide (0<=y2)&&decide (y2<18))<|Ao (decide (0+Int.toNat y2*1+1<=y4.length))<|Aa (Bb y4 [.sc (.int .i64 x5)] (0+Int.toNat y2*1)) fun x6=>Ao (decide (0<=y2)&&decide (y2<18))<|Ad .i64 (List.getD x6 (0+Int.toNat y2*1) .top) fun x7=>Aa (wrap .i64 (15-x7)) fun x8=>Aa (wrap .i64 (y1+x8)) fun x9=>Aa (wrap .i64 (y2+1)) fun Cr=>F3 fu call a0 (nn) (y0) x9 Cr (y3) x6) (Aa (wrap .i64 (Int.tdiv y1 16)) fun C5=>Ao (decide (17<=y4.length))<|Aa (Bb y4 [.sc (.int .i64 C5)] 16) fun Dw=>Aa (Int.tmod y1 16) fun D5=>Ao (decide (18<=Dw.length))<|Aa (Bb Dw [.sc (.int .i64 D5)] 17) fun Ds=>Ql fu call a0 (fu) (y3) Ds)):=by kernel_rfl
theorem Wx (fu:Nat)(call:Ai)(a0:Int)(nn:Nat)(hnn:0<nn)(y0 y1:List PV):Ql fu call a0 nn y0 y1=(Ad .i64 (List.getD y1 0 .top) fun Eg=>Ad .i64 (List.getD y1 1 .top) fun En=>Ad .i64 (List.getD y1 2 .top) fun E9=>Ad .i64 (List.getD y1 3 .top) fun Fq=>Ad .i64 (List.getD y1 4 .top) fun Fv=>Ad .i64 (List.getD y1 5 .top) fun F5=>Ad .i64 (List.getD y1 6 .top) fun Id=>Ad .i64 (List.getD y1 7 .top) fun G6=>Ad .i64 (List.getD y1 8 .top) fun H7=>Ad .i64 (List.getD y1 9 .top) fun D2=>Ad .i64 (List.getD y1 10 .top) fun Do=>Ad .i64 (List.getD y1 11 .top) fun Ga=>Ad .i64 (List.getD y1 12 .top) fun Ia=>Ad .i64 (List.getD y1 13 .top) fun E1=>Ad .i64 (List.getD y1 14 .top) fun Ji=>Ad .i64 (List.getD y1 15 .top) fun Mm=>Ad .i64 (List.getD y1 16 .top) fun J5=>Ad .i64 (List.getD y1 17 .top) fun M1=>Ao (decide (18<=y0.length))<|Aa (Bb y0 [.sc (.int .i64 Eg),.sc (.int .i64 En),.sc (.int .i64 E9),.sc (.int .i64 Fq),.sc (.int .i64 Fv),.sc (.int .i64 F5),.sc (.int .i64 Id),.sc (.int .i64 G6),.sc (.int .i64 H7),.sc (.int .i64 D2),.sc (.int .i64 Do),.sc (.int .i64 Ga),.sc (.int .i64 Ia),.sc (.int .i64 E1),.sc (.int .i64 Ji),.sc (.int .i64 Mm),.sc (.int .i64 J5),.sc (.int .i64 M1)] 0) fun Ms=>Qo fu call a0 (fu) Ms):=by cases nn with|zero=>exact absurd hnn (Nat.lt_irrefl 0)|succ nn=>kernel_rfl
theorem Wu (fu:Nat)(call:Ai)(a0:Int)(nn:Nat)(hnn:0<nn)(y0:List PV):Qo fu call a0 nn y0=(Ad .i64 (List.getD y0 0 .top) fun Of=>Ad .i64 (List.getD y0 1 .top) fun P6=>Ad .i64 (List.getD y0 2 .top) fun Q2=>Ad .i64 (List.getD y0 3 .top) fun Ta=>Ad .i64 (List.getD y0 4 .top) fun G8=>Ad .i64 (List.getD y0 5 .top) fun J7=>Ad .i64 (List.getD y0 6 .top) fun Uy=>Ad .i64 (List.getD y0 7 .top) fun Zh=>Ad .i64 (List.getD y0 8 .top) fun Ps=>Ad .i64 (List.getD y0 9 .top) fun Us=>Ad .i64 (List.getD y0 10 .top) fun Uc=>Ad .i64 (List.getD y0 11 .top) fun Sk=>Ad .i64 (List.getD y0 12 .top) fun Tp=>Ad .i64 (List.getD y0 13 .top) fun Xk=>Ad .i64 (List.getD y0 14 .top) fun X9=>Ad .i64 (List.getD y0 15 .top) fun Tb=>Ad .i64 (List.getD y0 16 .top) fun V2=>Ad .i64 (List.getD y0 17 .top) fun Xq=>some (Az.mk [.agg [.sc (.int .i64 Of),.sc (.int .i64 P6),.sc (.int .i64 Q2),.sc (.int .i64 Ta),.sc (.int .i64 G8),.sc (.int .i64 J7),.sc (.int .i64 Uy),.sc (.int .i64 Zh),.sc (.int .i64 Ps),.sc (.int .i64 Us),.sc (.int .i64 Uc),.sc (.int .i64 Sk),.sc (.int .i64 Tp),.sc (.int .i64 Xk),.sc (.int .i64 X9),.sc (.int .i64 Tb),.sc (.int .i64 V2),.sc (.int .i64 Xq)]] [])):=by cases nn with|zero=>exact absurd hnn (Nat.lt_irrefl 0)|succ nn=>kernel_rfl
theorem DJ {xs:FuncId->Option (List PV->Option Az)} (fu d:Nat)(a0:Int):Ae (CX xs) Tryz.prog fu (d+1) Sc [.sc (.int .u64 a0)]=(fun (call:Ai)=>F3 fu call a0 (fu) (a0) 0 0 ([.sc (.int .i64 0),.sc (.int .i64 0),.sc (.int .i64 0),.sc (.int .i64 0),.sc (.int .i64 0),.sc (.int .i64 0),.sc (.int .i64 0),.sc (.int .i64 0),.sc (.int .i64 0),.sc (.int .i64 0),.sc (.int .i64 0),.sc (.int .i64 0),.sc (.int .i64 0),.sc (.int .i64 0),.sc (.int .i64 0),.sc (.int .i64 0),.sc (.int .i64 0),.sc (.int .i64 0)]) ([.sc (.int .i64 0),.sc (.int .i64 0),.sc (.int .i64 0),.sc (.int .i64 0),.sc (.int .i64 0),.sc (.int .i64 0),.sc (.int .i64 0),.sc (.int .i64 0),.sc (.int .i64 0),.sc (.int .i64 0),.sc (.int .i64 0),.sc (.int .i64 0),.sc (.int .i64 0),.sc (.int .i64 0),.sc (.int .i64 0),.sc (.int .i64 0),.sc (.int .i64 0),.sc (.int .i64 0)])) (Ae (CX xs) Tryz.prog fu d):=by kernel_rfl
abbrev Xg:FuncId:=105
noncomputable def Jr (fu:Nat)(call:Ai)(a0 a1:Int)(a2 a3 a4:Int)(nn:Nat)(y0 y1:Int)(y2 y3 y4:Int):Option Az:=Cz CB Tryz.prog fu call 105 Tryz.f105 (Bq Tryz.f105) [.sc (.int .i64 a0),.sc (.int .i64 a1),.sc (.int .i64 a2),.sc (.int .i64 a3),.sc (.int .u64 a4)] [.r,.r,.l,.r,.l] nn ⟨lk [(0,(.sc (.int .i64 y0))),(1,(.sc (.int .i64 y1))),(4,(.sc (.int .u64 y2))),(11,(.sc (.int .i64 y3))),(12,(.sc (.int .i64 y4)))],B5 []⟩
theorem R0 (fu:Nat)(call:Ai)(a0 a1:Int)(a2 a3 a4:Int)(nn:Nat)(y0 y1:Int)(y2 y3 y4:Int):Jr fu call a0 a1 a2 a3 a4 (nn+1) y0 y1 y2 y3 y4=(Ba (decide (y4<y3)) (Aa (wrap .u64 y0) fun x3=>Aa (wrap .u64 y1) fun x4=>Aa (wrap .u64 y4) fun x5=>Ag (call 89 [.lst false 1 4 [.sc (.int .u64 x3),.sc (.int .u64 x4),.sc (.int .u64 x5),.sc (.int .u64 y2)]]) fun x6 x7=>Ac x7<|Ab x6 fun x8 x9=>Ep 1 x8 fun Cr C5=>Ac x9<|Ao (decide (0+Cr*1<=C5.length))<|Ag (call 73 [.sc (.int .i64 1),.lst false 1 Cr (List.take (Cr*1) (List.drop 0 C5))]) fun Dw D5=>Ac D5<|Ab Dw fun Ds Eg=>Ad .u64 Ds fun En=>Ac Eg<|Aa (wrap .i64 (y4+1)) fun E9=>Jr fu call a0 a1 a2 a3 a4 (nn) (y0) (y1) En (y3) E9) (some (Az.mk [.sc (.int .u64 y2)] []))):=by kernel_rfl
theorem MW {xs:FuncId->Option (List PV->Option Az)} (fu d:Nat)(a0 a1:Int)(a2 a3 a4:Int):Ae (CX xs) Tryz.prog fu (d+1) Xg [.sc (.int .i64 a0),.sc (.int .i64 a1),.sc (.int .i64 a2),.sc (.int .i64 a3),.sc (.int .u64 a4)]=(fun (call:Ai)=>Aa (if 15<a3 then 15 else a3) fun x1=>Aa (if a2<0 then 0 else a2) fun x2=>Jr fu call a0 a1 a2 a3 a4 (fu) (a0) (a1) (a4) x1 x2) (Ae (CX xs) Tryz.prog fu d):=by kernel_rfl
abbrev Qm:FuncId:=110
theorem BD {xs:FuncId->Option (List PV->Option Az)} (fu d:Nat)(a0 a1_0:Int)(a1_1 a1_2:Int)(Ahd Aje:Int)(Ahe Ah9:Int)(Agv Agm:Int)(Ah2 VF:Int)(TV VG:Int)(Als Amh:Int)(Al5 Alv Al7:Int):Ae (CX xs) Tryz.prog fu (d+1) Qm [.sc (.int .i64 a0),.agg [.sc (.int .u64 a1_0),.sc (.int .u64 a1_1),.sc (.int .u64 a1_2),.sc (.int .u64 Ahd),.sc (.int .u64 Aje),.sc (.int .u64 Ahe),.sc (.int .u64 Ah9),.sc (.int .u64 Agv),.sc (.int .u64 Agm),.sc (.int .u64 Ah2),.sc (.int .u64 VF),.sc (.int .u64 TV),.sc (.int .u64 VG),.sc (.int .u64 Als),.sc (.int .u64 Amh),.sc (.int .u64 Al5),.sc (.int .u64 Alv),.sc (.int .u64 Al7)]]=(fun (call:Ai)=>Aa (wrap .u64 a0) fun x1=>Ag (call 89 [.lst false 1 19 [.sc (.int .u64 x1),.sc (.int .u64 a1_0),.sc (.int .u64 a1_1),.sc (.int .u64 a1_2),.sc (.int .u64 Ahd),.sc (.int .u64 Aje),.sc (.int .u64 Ahe),.sc (.int .u64 Ah9),.sc (.int .u64 Agv),.sc (.int .u64 Agm),.sc (.int .u64 Ah2),.sc (.int .u64 VF),.sc (.int .u64 TV),.sc (.int .u64 VG),.sc (.int .u64 Als),.sc (.int .u64 Amh),.sc (.int .u64 Al5),.sc (.int .u64 Alv),.sc (.int .u64 Al7)]]) fun x2 x3=>Ac x3<|Ab x2 fun x4 x5=>Ep 1 x4 fun x6 x7=>Ac x5<|Ao (decide (0+x6*1<=x7.length))<|Ag (call 73 [.sc (.int .i64 2),.lst false 1 x6 (List.take (x6*1) (List.drop 0 x7))]) fun x8 x9=>Ac x9<|Ab x8 fun Cr C5=>Ad .u64 Cr fun Dw=>Ac C5<|some (Az.mk [.sc (.int .u64 Dw)] [])) (Ae (CX xs) Tryz.prog fu d):=by kernel_rfl
abbrev Qf:FuncId:=81
noncomputable def Ej (fu:Nat)(call:Ai)(a0 a1:Int)(a2n:Nat)(a2:List PV)(nn:Nat)(y0:Int)(y1:Nat)(y2:List PV)(y3 y4:Int)(y5 y6:Int)(y7 y8:Int)(y9 y10:Int)(Jn Oc:Int)(Tr Zl:Int)(Zg Zn:Int)(Zf GJ:Int)(SY OX GQ:Int)(y22:List PV):Option Az:=Cz CB Tryz.prog fu call 81 Tryz.f81 (Bq Tryz.f81) [.sc (.int .i64 a0),.sc (.int .u64 a1),.lst false 1 a2n a2] [.r,.r,.r,.l,.r,.l] nn ⟨lk [(0,(.sc (.int .i64 y0))),(2,(.lst false 1 y1 y2)),(8,(.ptr 8 0)),(15,(.agg [(.sc (.int .i64 y3)),(.sc (.int .i64 y4)),(.sc (.int .i64 y5)),(.sc (.int .i64 y6)),(.sc (.int .i64 y7)),(.sc (.int .i64 y8)),(.sc (.int .i64 y9)),(.sc (.int .i64 y10)),(.sc (.int .i64 Jn)),(.sc (.int .i64 Oc)),(.sc (.int .i64 Tr)),(.sc (.int .i64 Zl)),(.sc (.int .i64 Zg)),(.sc (.int .i64 Zn)),(.sc (.int .i64 Zf)),(.sc (.int .i64 GJ)),(.sc (.int .i64 SY)),(.sc (.int .i64 OX))])),(16,(.sc (.int .i64 GQ)))],B5 [(8,(.ar false y22))]⟩
noncomputable def Pf (fu:Nat)(call:Ai)(a0 a1:Int)(a2n:Nat)(a2:List PV)(nn:Nat)(y0:Int)(y1:List PV):Option Az:=Cz CB Tryz.prog fu call 81 Tryz.f81 (Bq Tryz.f81) [.sc (.int .i64 a0),.sc (.int .u64 a1),.lst false 1 a2n a2] [.r,.r,.r] nn ⟨lk [(0,(.sc (.int .i64 y0))),(8,(.ptr 8 0))],B5 [(8,(.ar false y1))]⟩
noncomputable def O9 (fu:Nat)(call:Ai)(a0 a1:Int)(a2n:Nat)(a2:List PV)(nn:Nat)(y0 y1:Int):Option Az:=Cz CB Tryz.prog fu call 81 Tryz.f81 (Bq Tryz.f81) [.sc (.int .i64 a0),.sc (.int .u64 a1),.lst false 1 a2n a2] [.r,.r,.r,.r] nn ⟨lk [(6,(.sc (.int .u64 y0))),(7,(.sc (.int .i64 y1)))],B5 []⟩
theorem Mc (fu:Nat)(call:Ai)(a0 a1:Int)(a2n:Nat)(a2:List PV)(nn:Nat)(y0:Int)(y1:Nat)(y2:List PV)(y3 y4:Int)(y5 y6:Int)(y7 y8:Int)(y9 y10:Int)(Jn Oc:Int)(Tr Zl:Int)(Zg Zn:Int)(Zf GJ:Int)(SY OX GQ:Int)(y22:List PV):Ej fu call a0 a1 a2n a2 (nn+1) y0 y1 y2 y3 y4 y5 y6 y7 y8 y9 y10 Jn Oc Tr Zl Zg Zn Zf GJ SY OX GQ y22=(Ba (decide (GQ<18)) (Ao (decide (0<=GQ)&&decide (GQ<18)&&true)<|Ad .i64 (List.getD [.sc (.int .i64 y3),.sc (.int .i64 y4),.sc (.int .i64 y5),.sc (.int .i64 y6),.sc (.int .i64 y7),.sc (.int .i64 y8),.sc (.int .i64 y9),.sc (.int .i64 y10),.sc (.int .i64 Jn),.sc (.int .i64 Oc),.sc (.int .i64 Tr),.sc (.int .i64 Zl),.sc (.int .i64 Zg),.sc (.int .i64 Zn),.sc (.int .i64 Zf),.sc (.int .i64 GJ),.sc (.int .i64 SY),.sc (.int .i64 OX)] (Int.toNat GQ*1) .top) fun CI=>Ao (decide (0<=GQ)&&decide (GQ<(↑y1:Int)))<|Ad .u64 (List.getD y2 (Int.toNat GQ*1) .top) fun Yq=>Ag (call 105 [.sc (.int .i64 y0),.sc (.int .i64 GQ),.sc (.int .i64 CI),.sc (.int .i64 15),.sc (.int .u64 Yq)]) fun Zk Yb=>Ac Yb<|Ab Zk fun Zi BO=>Ad .u64 Zi fun Va=>Ac BO<|Ao (decide (0<=GQ)&&decide (GQ<18))<|Ao (decide (0+Int.toNat GQ*1+1<=y22.length))<|Aa (Bb y22 [.sc (.int .u64 Va)] (0+Int.toNat GQ*1)) fun Xe=>Aa (wrap .i64 (GQ+1)) fun CR=>Ej fu call a0 a1 a2n a2 (nn) (y0) (y1) (y2) (y3) (y4) (y5) (y6) (y7) (y8) (y9) (y10) (Jn) (Oc) (Tr) (Zl) (Zg) (Zn) (Zf) (GJ) (SY) (OX) CR Xe) (Pf fu call a0 a1 a2n a2 (fu) (y0) (y22))):=by kernel_rfl
theorem Vx (fu:Nat)(call:Ai)(a0 a1:Int)(a2n:Nat)(a2:List PV)(nn:Nat)(hnn:0<nn)(y0:Int)(y1:List PV):Pf fu call a0 a1 a2n a2 nn y0 y1=(Ad .u64 (List.getD y1 0 .top) fun CD=>Ad .u64 (List.getD y1 1 .top) fun Zo=>Ad .u64 (List.getD y1 2 .top) fun Y4=>Ad .u64 (List.getD y1 3 .top) fun CF=>Ad .u64 (List.getD y1 4 .top) fun HH=>Ad .u64 (List.getD y1 5 .top) fun AJ=>Ad .u64 (List.getD y1 6 .top) fun EI=>Ad .u64 (List.getD y1 7 .top) fun HG=>Ad .u64 (List.getD y1 8 .top) fun CL=>Ad .u64 (List.getD y1 9 .top) fun FS=>Ad .u64 (List.getD y1 10 .top) fun JJ=>Ad .u64 (List.getD y1 11 .top) fun II=>Ad .u64 (List.getD y1 12 .top) fun VJ=>Ad .u64 (List.getD y1 13 .top) fun SX=>Ad .u64 (List.getD y1 14 .top) fun QW=>Ad .u64 (List.getD y1 15 .top) fun SP=>Ad .u64 (List.getD y1 16 .top) fun XJ=>Ad .u64 (List.getD y1 17 .top) fun WY=>Ag (call 110 [.sc (.int .i64 y0),.agg [.sc (.int .u64 CD),.sc (.int .u64 Zo),.sc (.int .u64 Y4),.sc (.int .u64 CF),.sc (.int .u64 HH),.sc (.int .u64 AJ),.sc (.int .u64 EI),.sc (.int .u64 HG),.sc (.int .u64 CL),.sc (.int .u64 FS),.sc (.int .u64 JJ),.sc (.int .u64 II),.sc (.int .u64 VJ),.sc (.int .u64 SX),.sc (.int .u64 QW),.sc (.int .u64 SP),.sc (.int .u64 XJ),.sc (.int .u64 WY)]]) fun SZ QX=>Ac QX<|Ab SZ fun GR NU=>Ad .u64 GR fun QN=>Ac NU<|O9 fu call a0 a1 a2n a2 (fu) QN 0):=by cases nn with|zero=>exact absurd hnn (Nat.lt_irrefl 0)|succ nn=>kernel_rfl
theorem Ul (fu:Nat)(call:Ai)(a0 a1:Int)(a2n:Nat)(a2:List PV)(nn:Nat)(hnn:0<nn)(y0 y1:Int):O9 fu call a0 a1 a2n a2 nn y0 y1=(some (Az.mk [.sc (.int .u64 y0),.sc (.int .i64 y1)] [])):=by cases nn with|zero=>exact absurd hnn (Nat.lt_irrefl 0)|succ nn=>kernel_rfl
theorem Z7 {xs:FuncId->Option (List PV->Option Az)} (fu d:Nat)(a0 a1:Int)(a2n:Nat)(a2:List PV):Ae (CX xs) Tryz.prog fu (d+1) Qf [.sc (.int .i64 a0),.sc (.int .u64 a1),.lst false 1 a2n a2]=(fun (call:Ai)=>Ba ((↑a2n:Int) != 18) (some (Az.mk [.sc (.int .u64 0),.sc (.int .i64 4)] [])) (Ag (call 104 [.sc (.int .u64 a1)]) fun x1 x2=>Ac x2<|Ab x1 fun x3 x4=>C2 x3 fun x5=>Ab x5 fun x6 x7=>Ad .i64 x6 fun x8=>Ab x7 fun x9 Cr=>Ad .i64 x9 fun C5=>Ab Cr fun Dw D5=>Ad .i64 Dw fun Ds=>Ab D5 fun Eg En=>Ad .i64 Eg fun E9=>Ab En fun Fq Fv=>Ad .i64 Fq fun F5=>Ab Fv fun Id G6=>Ad .i64 Id fun H7=>Ab G6 fun D2 Do=>Ad .i64 D2 fun Ga=>Ab Do fun Ia E1=>Ad .i64 Ia fun Ji=>Ab E1 fun Mm J5=>Ad .i64 Mm fun M1=>Ab J5 fun Ms Of=>Ad .i64 Ms fun P6=>Ab Of fun Q2 Ta=>Ad .i64 Q2 fun G8=>Ab Ta fun J7 Uy=>Ad .i64 J7 fun Zh=>Ab Uy fun Ps Us=>Ad .i64 Ps fun Uc=>Ab Us fun Sk Tp=>Ad .i64 Sk fun Xk=>Ab Tp fun X9 Tb=>Ad .i64 X9 fun V2=>Ab Tb fun Xq Xf=>Ad .i64 Xq fun Pk=>Ab Xf fun Y9 CK=>Ad .i64 Y9 fun CJ=>Ab CK fun Zj Ud=>Ad .i64 Zj fun Yn=>Ac Ud<|Ac x4<|Ej fu call a0 a1 a2n a2 (fu) (a0) (a2n) (a2) x8 C5 Ds E9 F5 H7 Ga Ji M1 P6 G8 Zh Uc Xk V2 Pk CJ Yn 0 ([.sc (.int .u64 0),.sc (.int .u64 0),.sc (.int .u64 0),.sc (.int .u64 0),.sc (.int .u64 0),.sc (.int .u64 0),.sc (.int .u64 0),.sc (.int .u64 0),.sc (.int .u64 0),.sc (.int .u64 0),.sc (.int .u64 0),.sc (.int .u64 0),.sc (.int .u64 0),.sc (.int .u64 0),.sc (.int .u64 0),.sc (.int .u64 0),.sc (.int .u64 0),.sc (.int .u64 0)]))) (Ae (CX xs) Tryz.prog fu d):=by kernel_rfl
abbrev Sf:FuncId:=106
theorem DK {xs:FuncId->Option (List PV->Option Az)} (fu d:Nat)(a0 a1 a2:Int):Ae (CX xs) Tryz.prog fu (d+1) Sf [.sc (.int .u64 a0),.sc (.int .i64 a1),.sc (.int .i64 a2)]=(fun (call:Ai)=>Aa (wrap .u64 a1) fun x1=>Aa (wrap .u64 a2) fun x2=>Ag (call 89 [.lst false 1 2 [.sc (.int .u64 x1),.sc (.int .u64 x2)]]) fun x3 x4=>Ac x4<|Ab x3 fun x5 x6=>Ep 1 x5 fun x7 x8=>Ac x6<|Ao (decide (0+x7*1<=x8.length))<|Ag (call 123 [.sc (.int .u64 a0),.sc (.int .i64 1),.lst false 1 x7 (List.take (x7*1) (List.drop 0 x8))]) fun x9 Cr=>Ac Cr<|Ab x9 fun C5 Dw=>Ad .u64 C5 fun D5=>Ac Dw<|some (Az.mk [.sc (.int .u64 D5)] [])) (Ae (CX xs) Tryz.prog fu d):=by kernel_rfl
abbrev Lm:FuncId:=108
noncomputable def Ev (fu:Nat)(call:Ai)(a0 a1:Int)(nn:Nat)(y0 y1 y2:Int)(y3:List PV):Option Az:=Cz CB Tryz.prog fu call 108 Tryz.f108 (Bq Tryz.f108) [.sc (.int .u64 a0),.sc (.int .i64 a1)] [.r,.r,.l,.r,.l] nn ⟨lk [(0,(.sc (.int .u64 y0))),(1,(.sc (.int .i64 y1))),(5,(.ptr 5 0)),(7,(.sc (.int .i64 y2)))],B5 [(5,(.ar false y3))]⟩
noncomputable def Qj (fu:Nat)(call:Ai)(a0 a1:Int)(nn:Nat)(y0:Int)(y1:List PV):Option Az:=Cz CB Tryz.prog fu call 108 Tryz.f108 (Bq Tryz.f108) [.sc (.int .u64 a0),.sc (.int .i64 a1)] [.r,.r] nn ⟨lk [(1,(.sc (.int .i64 y0))),(5,(.ptr 5 0))],B5 [(5,(.ar false y1))]⟩
noncomputable def P5 (fu:Nat)(call:Ai)(a0 a1:Int)(nn:Nat)(y0:Int):Option Az:=Cz CB Tryz.prog fu call 108 Tryz.f108 (Bq Tryz.f108) [.sc (.int .u64 a0),.sc (.int .i64 a1)] [.r,.r,.r] nn ⟨lk [(4,(.sc (.int .u64 y0)))],B5 []⟩
theorem Np (fu:Nat)(call:Ai)(a0 a1:Int)(nn:Nat)(y0 y1 y2:Int)(y3:List PV):Ev fu call a0 a1 (nn+1) y0 y1 y2 y3=(Ba (decide (y2<18)) (Ag (call 106 [.sc (.int .u64 y0),.sc (.int .i64 y1),.sc (.int .i64 y2)]) fun x1 x2=>Ac x2<|Ab x1 fun x3 x4=>Ad .u64 x3 fun x5=>Ac x4<|Ag (call 105 [.sc (.int .i64 y1),.sc (.int .i64 y2),.sc (.int .i64 0),.sc (.int .i64 15),.sc (.int .u64 x5)]) fun x6 x7=>Ac x7<|Ab x6 fun x8 x9=>Ad .u64 x8 fun Cr=>Ac x9<|Ao (decide (0<=y2)&&decide (y2<18))<|Ao (decide (0+Int.toNat y2*1+1<=y3.length))<|Aa (Bb y3 [.sc (.int .u64 Cr)] (0+Int.toNat y2*1)) fun C5=>Aa (wrap .i64 (y2+1)) fun Dw=>Ev fu call a0 a1 (nn) (y0) (y1) Dw C5) (Qj fu call a0 a1 (fu) (y1) (y3))):=by kernel_rfl
theorem Wz (fu:Nat)(call:Ai)(a0 a1:Int)(nn:Nat)(hnn:0<nn)(y0:Int)(y1:List PV):Qj fu call a0 a1 nn y0 y1=(Ad .u64 (List.getD y1 0 .top) fun D5=>Ad .u64 (List.getD y1 1 .top) fun Ds=>Ad .u64 (List.getD y1 2 .top) fun Eg=>Ad .u64 (List.getD y1 3 .top) fun En=>Ad .u64 (List.getD y1 4 .top) fun E9=>Ad .u64 (List.getD y1 5 .top) fun Fq=>Ad .u64 (List.getD y1 6 .top) fun Fv=>Ad .u64 (List.getD y1 7 .top) fun F5=>Ad .u64 (List.getD y1 8 .top) fun Id=>Ad .u64 (List.getD y1 9 .top) fun G6=>Ad .u64 (List.getD y1 10 .top) fun H7=>Ad .u64 (List.getD y1 11 .top) fun D2=>Ad .u64 (List.getD y1 12 .top) fun Do=>Ad .u64 (List.getD y1 13 .top) fun Ga=>Ad .u64 (List.getD y1 14 .top) fun Ia=>Ad .u64 (List.getD y1 15 .top) fun E1=>Ad .u64 (List.getD y1 16 .top) fun Ji=>Ad .u64 (List.getD y1 17 .top) fun Mm=>Ag (call 110 [.sc (.int .i64 y0),.agg [.sc (.int .u64 D5),.sc (.int .u64 Ds),.sc (.int .u64 Eg),.sc (.int .u64 En),.sc (.int .u64 E9),.sc (.int .u64 Fq),.sc (.int .u64 Fv),.sc (.int .u64 F5),.sc (.int .u64 Id),.sc (.int .u64 G6),.sc (.int .u64 H7),.sc (.int .u64 D2),.sc (.int .u64 Do),.sc (.int .u64 Ga),.sc (.int .u64 Ia),.sc (.int .u64 E1),.sc (.int .u64 Ji),.sc (.int .u64 Mm)]]) fun J5 M1=>Ac M1<|Ab J5 fun Ms Of=>Ad .u64 Ms fun P6=>Ac Of<|P5 fu call a0 a1 (fu) P6):=by cases nn with|zero=>exact absurd hnn (Nat.lt_irrefl 0)|succ nn=>kernel_rfl
theorem Wr (fu:Nat)(call:Ai)(a0 a1:Int)(nn:Nat)(hnn:0<nn)(y0:Int):P5 fu call a0 a1 nn y0=(some (Az.mk [.sc (.int .u64 y0)] [])):=by cases nn with|zero=>exact absurd hnn (Nat.lt_irrefl 0)|succ nn=>kernel_rfl
theorem DV {xs:FuncId->Option (List PV->Option Az)} (fu d:Nat)(a0 a1:Int):Ae (CX xs) Tryz.prog fu (d+1) Lm [.sc (.int .u64 a0),.sc (.int .i64 a1)]=(fun (call:Ai)=>Ev fu call a0 a1 (fu) (a0) (a1) 0 ([.sc (.int .u64 0),.sc (.int .u64 0),.sc (.int .u64 0),.sc (.int .u64 0),.sc (.int .u64 0),.sc (.int .u64 0),.sc (.int .u64 0),.sc (.int .u64 0),.sc (.int .u64 0),.sc (.int .u64 0),.sc (.int .u64 0),.sc (.int .u64 0),.sc (.int .u64 0),.sc (.int .u64 0),.sc (.int .u64 0),.sc (.int .u64 0),.sc (.int .u64 0),.sc (.int .u64 0)])) (Ae (CX xs) Tryz.prog fu d):=by kernel_rfl
abbrev Ok:FuncId:=76
noncomputable def Is (fu:Nat)(call:Ai)(a0 a1 a2:Int)(nn:Nat)(y0 y1:Int)(y2 y3:Int)(y4 y5:Int)(y6 y7:Int)(y8 y9:Int)(y10 Jn:Int)(Oc Tr:Int)(Zl Zg:Int)(Zn Zf:Int)(GJ SY OX:Int)(GQ:List PV):Option Az:=Cz CB Tryz.prog fu call 76 Tryz.f76 (Bq Tryz.f76) [.sc (.int .u64 a0),.sc (.int .i64 a1),.sc (.int .u64 a2)] [.r,.r,.l,.r,.l] nn ⟨lk [(0,(.sc (.int .u64 y0))),(1,(.sc (.int .i64 y1))),(7,(.ptr 7 0)),(11,(.agg [(.sc (.int .i64 y2)),(.sc (.int .i64 y3)),(.sc (.int .i64 y4)),(.sc (.int .i64 y5)),(.sc (.int .i64 y6)),(.sc (.int .i64 y7)),(.sc (.int .i64 y8)),(.sc (.int .i64 y9)),(.sc (.int .i64 y10)),(.sc (.int .i64 Jn)),(.sc (.int .i64 Oc)),(.sc (.int .i64 Tr)),(.sc (.int .i64 Zl)),(.sc (.int .i64 Zg)),(.sc (.int .i64 Zn)),(.sc (.int .i64 Zf)),(.sc (.int .i64 GJ)),(.sc (.int .i64 SY))])),(12,(.sc (.int .i64 OX)))],B5 [(7,(.ar false GQ))]⟩
theorem P4 (fu:Nat)(call:Ai)(a0 a1 a2:Int)(nn:Nat)(y0 y1:Int)(y2 y3:Int)(y4 y5:Int)(y6 y7:Int)(y8 y9:Int)(y10 Jn:Int)(Oc Tr:Int)(Zl Zg:Int)(Zn Zf:Int)(GJ SY OX:Int)(GQ:List PV):Is fu call a0 a1 a2 (nn+1) y0 y1 y2 y3 y4 y5 y6 y7 y8 y9 y10 Jn Oc Tr Zl Zg Zn Zf GJ SY OX GQ=(Ba (decide (OX<18)) (Ao (decide (0<=OX)&&decide (OX<18)&&true)<|Ad .i64 (List.getD [.sc (.int .i64 y2),.sc (.int .i64 y3),.sc (.int .i64 y4),.sc (.int .i64 y5),.sc (.int .i64 y6),.sc (.int .i64 y7),.sc (.int .i64 y8),.sc (.int .i64 y9),.sc (.int .i64 y10),.sc (.int .i64 Jn),.sc (.int .i64 Oc),.sc (.int .i64 Tr),.sc (.int .i64 Zl),.sc (.int .i64 Zg),.sc (.int .i64 Zn),.sc (.int .i64 Zf),.sc (.int .i64 GJ),.sc (.int .i64 SY)] (Int.toNat OX*1) .top) fun CI=>Ag (call 106 [.sc (.int .u64 y0),.sc (.int .i64 y1),.sc (.int .i64 OX)]) fun Yq Zk=>Ac Zk<|Ab Yq fun Yb Zi=>Ad .u64 Yb fun BO=>Ac Zi<|Ag (call 105 [.sc (.int .i64 y1),.sc (.int .i64 OX),.sc (.int .i64 0),.sc (.int .i64 CI),.sc (.int .u64 BO)]) fun Va Xe=>Ac Xe<|Ab Va fun CR CD=>Ad .u64 CR fun Zo=>Ac CD<|Ao (decide (0<=OX)&&decide (OX<18))<|Ao (decide (0+Int.toNat OX*1+1<=GQ.length))<|Aa (Bb GQ [.sc (.int .u64 Zo)] (0+Int.toNat OX*1)) fun Y4=>Aa (wrap .i64 (OX+1)) fun CF=>Is fu call a0 a1 a2 (nn) (y0) (y1) (y2) (y3) (y4) (y5) (y6) (y7) (y8) (y9) (y10) (Jn) (Oc) (Tr) (Zl) (Zg) (Zn) (Zf) (GJ) (SY) CF Y4) (Ao (decide (18<=GQ.length))<|Ao (decide (18<=GQ.length))<|some (Az.mk [.own 1 18 (List.take 18 GQ)] []))):=by kernel_rfl
theorem LZ {xs:FuncId->Option (List PV->Option Az)} (fu d:Nat)(a0 a1 a2:Int):Ae (CX xs) Tryz.prog fu (d+1) Ok [.sc (.int .u64 a0),.sc (.int .i64 a1),.sc (.int .u64 a2)]=(fun (call:Ai)=>Ag (call 104 [.sc (.int .u64 a2)]) fun x1 x2=>Ac x2<|Ab x1 fun x3 x4=>C2 x3 fun x5=>Ab x5 fun x6 x7=>Ad .i64 x6 fun x8=>Ab x7 fun x9 Cr=>Ad .i64 x9 fun C5=>Ab Cr fun Dw D5=>Ad .i64 Dw fun Ds=>Ab D5 fun Eg En=>Ad .i64 Eg fun E9=>Ab En fun Fq Fv=>Ad .i64 Fq fun F5=>Ab Fv fun Id G6=>Ad .i64 Id fun H7=>Ab G6 fun D2 Do=>Ad .i64 D2 fun Ga=>Ab Do fun Ia E1=>Ad .i64 Ia fun Ji=>Ab E1 fun Mm J5=>Ad .i64 Mm fun M1=>Ab J5 fun Ms Of=>Ad .i64 Ms fun P6=>Ab Of fun Q2 Ta=>Ad .i64 Q2 fun G8=>Ab Ta fun J7 Uy=>Ad .i64 J7 fun Zh=>Ab Uy fun Ps Us=>Ad .i64 Ps fun Uc=>Ab Us fun Sk Tp=>Ad .i64 Sk fun Xk=>Ab Tp fun X9 Tb=>Ad .i64 X9 fun V2=>Ab Tb fun Xq Xf=>Ad .i64 Xq fun Pk=>Ab Xf fun Y9 CK=>Ad .i64 Y9 fun CJ=>Ab CK fun Zj Ud=>Ad .i64 Zj fun Yn=>Ac Ud<|Ac x4<|Is fu call a0 a1 a2 (fu) (a0) (a1) x8 C5 Ds E9 F5 H7 Ga Ji M1 P6 G8 Zh Uc Xk V2 Pk CJ Yn 0 ([.sc (.int .u64 0),.sc (.int .u64 0),.sc (.int .u64 0),.sc (.int .u64 0),.sc (.int .u64 0),.sc (.int .u64 0),.sc (.int .u64 0),.sc (.int .u64 0),.sc (.int .u64 0),.sc (.int .u64 0),.sc (.int .u64 0),.sc (.int .u64 0),.sc (.int .u64 0),.sc (.int .u64 0),.sc (.int .u64 0),.sc (.int .u64 0),.sc (.int .u64 0),.sc (.int .u64 0)])) (Ae (CX xs) Tryz.prog fu d):=by kernel_rfl
abbrev Jm:FuncId:=74
theorem IL {xs:FuncId->Option (List PV->Option Az)} (fu d:Nat)(a0:Int):Ae (CX xs) Tryz.prog fu (d+1) Jm [.sc (.int .i64 a0)]=(fun (call:Ai)=>Ba (decide (a0<0)) (some (Az.mk [.sc (.bool true)] [])) (some (Az.mk [.sc (.bool (decide (a0>4)))] []))) (Ae (CX xs) Tryz.prog fu d):=by kernel_rfl
abbrev Hi:FuncId:=75
theorem AW {xs:FuncId->Option (List PV->Option Az)} (fu d:Nat)(a0 a1:Int):Ae (CX xs) Tryz.prog fu (d+1) Hi [.sc (.int .i64 a0),.sc (.int .i64 a1)]=(fun (call:Ai)=>Ba (decide (a0<0)) (some (Az.mk [.sc (.bool true)] [])) (Ao (decide (0<=a1))<|Aa (G7 .i64 1 a1) fun x1=>some (Az.mk [.sc (.bool (decide (a0>=x1)))] []))) (Ae (CX xs) Tryz.prog fu d):=by kernel_rfl
abbrev Tw:FuncId:=92
noncomputable def Gv (fu:Nat)(call:Ai)(a0n:Nat)(a0:List PV)(nn y0:Nat)(y1:List PV)(y2:Nat)(y3 y4:Int)(y5:List PV):Option Az:=Cz CB Tryz.prog fu call 92 Tryz.f92 (Bq Tryz.f92) [.lst false 1 a0n a0] [.r,.r,.l,.r,.l] nn ⟨lk [(0,(.lst false 1 y0 y1)),(3,(.view 3 1 0 y2)),(12,(.sc (.int .i64 y3))),(13,(.sc (.int .i64 y4)))],B5 [(3,(.ar false y5))]⟩
noncomputable def H5 (fu:Nat)(call:Ai)(a0n:Nat)(a0:List PV)(m0 nn y0:Nat)(y1:List PV)(y2:Nat)(y3 y4 y5:Int)(y6:Nat)(y7:List PV)(y8 y9:Int)(y10:List PV):Option Az:=Cz CB Tryz.prog fu call 92 Tryz.f92 (Bq Tryz.f92) [.lst false 1 a0n a0] [.r,.r,.l,.r,.l,.i m0,.r,.r,.l,.l,.r,.r,.l] nn ⟨lk [(0,(.lst false 1 y0 y1)),(3,(.view 3 1 0 y2)),(4,(.sc (.int .i64 y3))),(12,(.sc (.int .i64 y4))),(13,(.sc (.int .i64 y5))),(22,(.lst false 1 y6 y7)),(23,(.sc (.int .i64 y8))),(24,(.sc (.int .i64 y9)))],B5 [(3,(.ar false y10))]⟩
theorem Pm (fu:Nat)(call:Ai)(a0n:Nat)(a0:List PV)(nn y0:Nat)(y1:List PV)(y2:Nat)(y3 y4:Int)(y5:List PV):Gv fu call a0n a0 (nn+1) y0 y1 y2 y3 y4 y5=(Ba (decide (y4<y3)) (Aa (wrap .i64 (8*y4)) fun x2=>Aa (wrap .i64 (8*y4)) fun x3=>Aa (wrap .i64 (x3+8)) fun x4=>Ao (decide (0<=x2))<|Ao (decide (0<=x4))<|Ao (decide (Int.toNat x2<=Int.toNat x4)&&decide (Int.toNat x4<=y0))<|Aa (Int.toNat x4-Int.toNat x2) fun x5=>Aa (List.take (x5*1) (List.drop (Int.toNat x2*1) y1)) fun x6=>H5 fu call a0n a0 nn (fu) (y0) (y1) (y2) (y4) (y3) (y4) x5 x6 ((↑x5:Int)) 0 (y5)) (Ao (decide (y2*1<=y5.length))<|some (Az.mk [.own 1 y2 (List.take (y2*1) y5)] []))):=by kernel_rfl
theorem O1 (fu:Nat)(call:Ai)(a0n:Nat)(a0:List PV)(m0 nn y0:Nat)(y1:List PV)(y2:Nat)(y3 y4 y5:Int)(y6:Nat)(y7:List PV)(y8 y9:Int)(y10:List PV):H5 fu call a0n a0 m0 (nn+1) y0 y1 y2 y3 y4 y5 y6 y7 y8 y9 y10=(Ba (decide (y9<y8)) (Ao (decide (0<=y9)&&decide (y9<(↑y6:Int)))<|Ad .u8 (List.getD y7 (Int.toNat y9*1) .top) fun x7=>Ao (decide (0<=y3)&&decide (y3<(↑y2:Int)))<|Ad .u64 (List.getD y10 (0+Int.toNat y3*1) .top) fun x8=>Aa (G7 .u64 x8 8) fun x9=>Aa (wrap .u64 x7) fun Cr=>Aa (PH .u64 x9 Cr) fun C5=>Ao (decide (0<=y3)&&decide (y3<(↑y2:Int)))<|Ao (decide (0+Int.toNat y3*1+1<=y10.length))<|Aa (Bb y10 [.sc (.int .u64 C5)] (0+Int.toNat y3*1)) fun Dw=>Aa (wrap .i64 (y9+1)) fun D5=>H5 fu call a0n a0 m0 (nn) (y0) (y1) (y2) (y3) (y4) (y5) (y6) (y7) (y8) D5 Dw) (Aa (wrap .i64 (y5+1)) fun Ds=>Gv fu call a0n a0 (m0) (y0) (y1) (y2) (y4) Ds (y10))):=by kernel_rfl
theorem GP {xs:FuncId->Option (List PV->Option Az)} (fu d a0n:Nat)(a0:List PV):Ae (CX xs) Tryz.prog fu (d+1) Tw [.lst false 1 a0n a0]=(fun (call:Ai)=>Aa (wrap .i64 (Int.tdiv (↑a0n:Int) 8)) fun x1=>Ao (decide (0<=x1)&&decide (x1<=x1)&&decide (x1*8<=1099511627776)&&decide (x1<=1099511627776))<|Gv fu call a0n a0 (fu) (a0n) (a0) x1.toNat ((↑x1.toNat:Int)) 0 (Rl x1.toNat [.sc (.int .u64 0)])) (Ae (CX xs) Tryz.prog fu d):=by kernel_rfl
abbrev Lj:FuncId:=82
theorem DS {xs:FuncId->Option (List PV->Option Az)} (fu d:Nat)(a0 a1 a2:Int):Ae (CX xs) Tryz.prog fu (d+1) Lj [.sc (.int .i64 a0),.sc (.int .u64 a1),.sc (.int .u64 a2)]=(fun (call:Ai)=>Aa (wrap .u64 a0) fun x1=>Ag (call 89 [.lst false 1 3 [.sc (.int .u64 x1),.sc (.int .u64 a1),.sc (.int .u64 a2)]]) fun x2 x3=>Ac x3<|Ab x2 fun x4 x5=>Ep 1 x4 fun x6 x7=>Ac x5<|Ao (decide (0+x6*1<=x7.length))<|Ag (call 73 [.sc (.int .i64 3),.lst false 1 x6 (List.take (x6*1) (List.drop 0 x7))]) fun x8 x9=>Ac x9<|Ab x8 fun Cr C5=>Ad .u64 Cr fun Dw=>Ac C5<|some (Az.mk [.sc (.int .u64 Dw)] [])) (Ae (CX xs) Tryz.prog fu d):=by kernel_rfl
abbrev M4:FuncId:=66
theorem Wp {xs:FuncId->Option (List PV->Option Az)} (fu d:Nat)(a0_0 a0_1:Int):Ae (CX xs) Tryz.prog fu (d+1) M4 [.agg [.sc (.int .i64 a0_0),.sc (.int .u64 a0_1)]]=(fun (call:Ai)=>Ag (call 74 [.sc (.int .i64 a0_0)]) fun x1 x2=>Ac x2<|Ab x1 fun x3 x4=>Bk x3 fun x5=>Ac x4<|Ba x5 (some (Az.mk [.own 1 0 [],.sc (.int .i64 9)] [])) (Aa (wrap .u8 a0_0) fun x6=>Ag (call 89 [.lst false 1 1 [.sc (.int .u64 a0_1)]]) fun x7 x8=>Ac x8<|Ab x7 fun x9 Cr=>Ep 1 x9 fun C5 Dw=>Ac Cr<|Ao (decide (0+C5*1<=Dw.length))<|Ao (decide (List.length (List.take (C5*1) (List.drop 0 Dw))=C5*1)&&decide ((1+C5)*1<=1099511627776)&&decide (1+C5<=1099511627776))<|Aa (1+C5) fun D5=>Aa ([.sc (.int .u8 x6)]++List.take (C5*1) (List.drop 0 Dw)) fun Ds=>Ao (decide (D5*1<=Ds.length))<|some (Az.mk [.own 1 D5 (List.take (D5*1) Ds),.sc (.int .i64 0)] []))) (Ae (CX xs) Tryz.prog fu d):=by kernel_rfl
abbrev Nd:FuncId:=53
theorem Wo {xs:FuncId->Option (List PV->Option Az)} (fu d a0n:Nat)(a0:List PV):Ae (CX xs) Tryz.prog fu (d+1) Nd [.lst false 1 a0n a0]=(fun (call:Ai)=>Ba ((↑a0n:Int) != 9) (some (Az.mk [.agg [.sc (.int .i64 0),.sc (.int .u64 0)],.sc (.int .i64 2)] [])) (Ao (decide (0<(↑a0n:Int)))<|Ad .u8 (List.getD a0 0 .top) fun x1=>Aa (wrap .i64 x1) fun x2=>Ag (call 74 [.sc (.int .i64 x2)]) fun x3 x4=>Ac x4<|Ab x3 fun x5 x6=>Bk x5 fun x7=>Ac x6<|Ba x7 (some (Az.mk [.agg [.sc (.int .i64 0),.sc (.int .u64 0)],.sc (.int .i64 2)] [])) (Ao (decide (0<(↑a0n:Int)))<|Ad .u8 (List.getD a0 0 .top) fun x8=>Aa (wrap .i64 x8) fun x9=>Ao (decide (1<=a0n)&&decide (a0n<=a0n))<|Aa (a0n-1) fun Cr=>Aa (List.take (Cr*1) (List.drop 1 a0)) fun C5=>Ag (call 92 [.lst false 1 Cr C5]) fun Dw D5=>Ac D5<|Ab Dw fun Ds Eg=>Ep 1 Ds fun En E9=>Ac Eg<|Ao (decide (0<(↑En:Int)))<|Ad .u64 (List.getD E9 0 .top) fun Fq=>some (Az.mk [.agg [.sc (.int .i64 x9),.sc (.int .u64 Fq)],.sc (.int .i64 0)] [])))) (Ae (CX xs) Tryz.prog fu d):=by kernel_rfl
abbrev Ib:FuncId:=50
theorem Pt {xs:FuncId->Option (List PV->Option Az)} (fu d:Nat)(a0_0:Int)(OT:Nat)(a0_1:List PV)(Ff:Nat)(a0_2:List PV):Ae (CX xs) Tryz.prog fu (d+1) Ib [.agg [.sc (.int .i64 a0_0),.lst false 1 OT a0_1,.lst false 1 Ff a0_2]]=(fun (call:Ai)=>Ag (call 74 [.sc (.int .i64 (↑Ff:Int))]) fun x1 x2=>Ac x2<|Ab x1 fun x3 x4=>Bk x3 fun x5=>Ac x4<|Ba x5 (some (Az.mk [.own 1 0 [],.sc (.int .i64 9)] [])) (Ag (call 75 [.sc (.int .i64 a0_0),.sc (.int .i64 (↑Ff:Int))]) fun x6 x7=>Ac x7<|Ab x6 fun x8 x9=>Bk x8 fun Cr=>Ac x9<|Ba Cr (some (Az.mk [.own 1 0 [],.sc (.int .i64 9)] [])) (Ba ((↑OT:Int) != 18) (some (Az.mk [.own 1 0 [],.sc (.int .i64 4)] [])) (Aa (wrap .u8 a0_0) fun C5=>Aa (wrap .u8 (↑Ff:Int)) fun Dw=>Ag (call 89 [.lst false 1 OT a0_1]) fun D5 Ds=>Ac Ds<|Ab D5 fun Eg En=>Ep 1 Eg fun E9 Fq=>Ac En<|Ao (decide (0+E9*1<=Fq.length))<|Ao (decide (List.length (List.take (E9*1) (List.drop 0 Fq))=E9*1)&&decide ((2+E9)*1<=1099511627776)&&decide (2+E9<=1099511627776))<|Aa (2+E9) fun Fv=>Aa ([.sc (.int .u8 C5),.sc (.int .u8 Dw)]++List.take (E9*1) (List.drop 0 Fq)) fun F5=>Ag (call 89 [.lst false 1 Ff a0_2]) fun Id G6=>Ac G6<|Ab Id fun H7 D2=>Ep 1 H7 fun Do Ga=>Ac D2<|Ao (decide (0+Do*1<=Ga.length))<|Ao (decide (Fv*1<=F5.length)&&decide (List.length (List.take (Do*1) (List.drop 0 Ga))=Do*1)&&decide ((Fv+Do)*1<=1099511627776)&&decide (Fv+Do<=1099511627776))<|Aa (Fv+Do) fun Ia=>Aa (List.take (Fv*1) F5++List.take (Do*1) (List.drop 0 Ga)) fun E1=>Ao (decide (Ia*1<=E1.length))<|some (Az.mk [.own 1 Ia (List.take (Ia*1) E1),.sc (.int .i64 0)] []))))) (Ae (CX xs) Tryz.prog fu d):=by kernel_rfl
abbrev Ic:FuncId:=54
theorem Px {xs:FuncId->Option (List PV->Option Az)} (fu d a0n:Nat)(a0:List PV):Ae (CX xs) Tryz.prog fu (d+1) Ic [.lst false 1 a0n a0]=(fun (call:Ai)=>Ba (decide ((↑a0n:Int)<2)) (some (Az.mk [.agg [.sc (.int .i64 0),.own 1 0 [],.own 1 0 []],.sc (.int .i64 2)] [])) (Ao (decide (0<(↑a0n:Int)))<|Ad .u8 (List.getD a0 0 .top) fun x1=>Aa (wrap .i64 x1) fun x2=>Ao (decide (1<(↑a0n:Int)))<|Ad .u8 (List.getD a0 1 .top) fun x3=>Aa (wrap .i64 x3) fun x4=>Ag (call 74 [.sc (.int .i64 x4)]) fun x5 x6=>Ac x6<|Ab x5 fun x7 x8=>Bk x7 fun x9=>Ac x8<|Ba x9 (some (Az.mk [.agg [.sc (.int .i64 0),.own 1 0 [],.own 1 0 []],.sc (.int .i64 2)] [])) (Ag (call 75 [.sc (.int .i64 x2),.sc (.int .i64 x4)]) fun Cr C5=>Ac C5<|Ab Cr fun Dw D5=>Bk Dw fun Ds=>Ac D5<|Ba Ds (some (Az.mk [.agg [.sc (.int .i64 0),.own 1 0 [],.own 1 0 []],.sc (.int .i64 2)] [])) (Aa (wrap .i64 (18+x4)) fun Eg=>Aa (wrap .i64 (8*Eg)) fun En=>Aa (wrap .i64 (2+En)) fun E9=>Ba ((↑a0n:Int) != E9) (some (Az.mk [.agg [.sc (.int .i64 0),.own 1 0 [],.own 1 0 []],.sc (.int .i64 2)] [])) (Ao (decide (146<=a0n))<|Aa (List.take 144 (List.drop 2 a0)) fun Fq=>Ag (call 92 [.lst false 1 144 Fq]) fun Fv F5=>Ac F5<|Ab Fv fun Id G6=>Ep 1 Id fun H7 D2=>Ac G6<|Ao (decide (146<=a0n)&&decide (a0n<=a0n))<|Aa (a0n-146) fun Do=>Aa (List.take (Do*1) (List.drop 146 a0)) fun Ga=>Ag (call 92 [.lst false 1 Do Ga]) fun Ia E1=>Ac E1<|Ab Ia fun Ji Mm=>Ep 1 Ji fun J5 M1=>Ac Mm<|Ao (decide (H7*1<=D2.length))<|Ao (decide (J5*1<=M1.length))<|some (Az.mk [.agg [.sc (.int .i64 x2),.own 1 H7 (List.take (H7*1) D2),.own 1 J5 (List.take (J5*1) M1)],.sc (.int .i64 0)] [])))))) (Ae (CX xs) Tryz.prog fu d):=by kernel_rfl
abbrev R6:FuncId:=41
noncomputable def F1 (fu:Nat)(call:Ai)(a0_0 a0_1:Int)(a1 MA:Int)(Vs:Nat)(NA:List PV)(Tv:Nat)(NE:List PV)(nn:Nat)(y0:Int)(y1:Nat)(y2:List PV)(y3 y4:Int)(y5 y6 y7:Int)(y8:Nat)(y9:List PV)(y10:Nat)(Jn:List PV):Option Az:=Cz CB Tryz.prog fu call 41 Tryz.f41 (Bq Tryz.f41) [.agg [.sc (.int .i64 a0_0),.sc (.int .u64 a0_1)],.sc (.int .u64 a1),.agg [.sc (.int .i64 MA),.lst false 1 Vs NA,.lst false 1 Tv NE]] [.r,.r,.r,.r,.r,.l,.r,.l] nn ⟨lk [(3,(.ptr 3 0)),(5,(.ptr 5 0)),(7,(.sc (.int .u64 y0))),(46,(.lst false 1 y1 y2)),(47,(.sc (.int .i64 y3))),(48,(.sc (.int .i64 y4)))],B5 [(3,(.st [(.sc (.int .i64 y5)),(.sc (.int .u64 y6))])),(5,(.st [(.sc (.int .i64 y7)),(.lst false 1 y8 y9),(.lst false 1 y10 Jn)]))]⟩
theorem M3 (fu:Nat)(call:Ai)(a0_0 a0_1:Int)(a1 MA:Int)(Vs:Nat)(NA:List PV)(Tv:Nat)(NE:List PV)(nn:Nat)(y0:Int)(y1:Nat)(y2:List PV)(y3 y4:Int)(y5 y6 y7:Int)(y8:Nat)(y9:List PV)(y10:Nat)(Jn:List PV):F1 fu call a0_0 a0_1 a1 MA Vs NA Tv NE (nn+1) y0 y1 y2 y3 y4 y5 y6 y7 y8 y9 y10 Jn=(Ba (decide (y4<y3)) (Ao (decide (0<=y4)&&decide (y4<(↑y1:Int)))<|Ad .u64 (List.getD y2 (Int.toNat y4*1) .top) fun Fv=>Ao (decide (0<=y4))<|Aa (D6 .i64 y7 y4) fun F5=>Aa (Ru .i64 F5 1) fun Id=>Ba (Id==0) (Aa (wrap .i64 (y4+1)) fun G6=>Ag (call 82 [.sc (.int .i64 G6),.sc (.int .u64 y0),.sc (.int .u64 Fv)]) fun H7 D2=>Ac D2<|Ab H7 fun Do Ga=>Ad .u64 Do fun Ia=>Ac Ga<|Aa (wrap .i64 (y4+1)) fun E1=>F1 fu call a0_0 a0_1 a1 MA Vs NA Tv NE (nn) Ia (y1) (y2) (y3) E1 (y5) (y6) (y7) (y8) (y9) (y10) (Jn)) (Aa (wrap .i64 (y4+1)) fun Ji=>Ag (call 82 [.sc (.int .i64 Ji),.sc (.int .u64 Fv),.sc (.int .u64 y0)]) fun Mm J5=>Ac J5<|Ab Mm fun M1 Ms=>Ad .u64 M1 fun Of=>Ac Ms<|Aa (wrap .i64 (y4+1)) fun P6=>F1 fu call a0_0 a0_1 a1 MA Vs NA Tv NE (nn) Of (y1) (y2) (y3) P6 (y5) (y6) (y7) (y8) (y9) (y10) (Jn))) (Ba (y0 != y6) (some (Az.mk [.sc (.int .i64 15)] [])) (some (Az.mk [.sc (.int .i64 0)] [])))):=by kernel_rfl
theorem DW {xs:FuncId->Option (List PV->Option Az)} (fu d:Nat)(a0_0 a0_1:Int)(a1 MA:Int)(Vs:Nat)(NA:List PV)(Tv:Nat)(NE:List PV):Ae (CX xs) Tryz.prog fu (d+1) R6 [.agg [.sc (.int .i64 a0_0),.sc (.int .u64 a0_1)],.sc (.int .u64 a1),.agg [.sc (.int .i64 MA),.lst false 1 Vs NA,.lst false 1 Tv NE]]=(fun (call:Ai)=>Ag (call 74 [.sc (.int .i64 a0_0)]) fun x1 x2=>Ac x2<|Ab x1 fun x3 x4=>Bk x3 fun x5=>Ac x4<|Ba x5 (some (Az.mk [.sc (.int .i64 9)] [])) (Ag (call 75 [.sc (.int .i64 MA),.sc (.int .i64 a0_0)]) fun x6 x7=>Ac x7<|Ab x6 fun x8 x9=>Bk x8 fun Cr=>Ac x9<|Ba Cr (some (Az.mk [.sc (.int .i64 9)] [])) (Ba ((↑Vs:Int) != 18) (some (Az.mk [.sc (.int .i64 4)] [])) (Ba ((↑Tv:Int) != a0_0) (some (Az.mk [.sc (.int .i64 4)] [])) (Ag (call 81 [.sc (.int .i64 MA),.sc (.int .u64 a1),.lst false 1 Vs NA]) fun C5 Dw=>Ac Dw<|Ab C5 fun D5 Ds=>Ad .u64 D5 fun Eg=>Ab Ds fun En E9=>Ad .i64 En fun Fq=>Ac E9<|Ba (Fq != 0) (some (Az.mk [.sc (.int .i64 Fq)] [])) (F1 fu call a0_0 a0_1 a1 MA Vs NA Tv NE (fu) Eg (Tv) (NE) ((↑Tv:Int)) 0 (a0_0) (a0_1) (MA) (Vs) (NA) (Tv) (NE))))))) (Ae (CX xs) Tryz.prog fu d):=by kernel_rfl
end
section
open Go.IntKind (wrap)
theorem Aqq {a m:Int}(h0:0<=m)(h1:m<=18446744073709551615):0<=Ru .u64 a m∧Ru .u64 a m<=m:=by
 have hle:(BitVec.ofInt 64 a &&& BitVec.ofInt 64 m).toNat<=m.toNat:=by
  rw [BitVec.toNat_and];refine Nat.le_trans Nat.and_le_right ?_;rw [BitVec.toNat_ofInt];omega
 have:Ru .u64 a m=((BitVec.ofInt 64 a &&& BitVec.ofInt 64 m).toNat:Int):=by
  unfold Ru;exact Cs (by omega) (by show ((BitVec.ofInt 64 a &&& BitVec.ofInt 64 m).toNat:Int)<=_;omega)
 rw [this];omega
theorem Jz (k:IntKind)(l:List Int)(i:Nat)(x:Int):(Af k l).set i (.sc (.int k x))=Af k (l.set i x):=by
 induction l generalizing i with
 |nil=>rfl
 |cons a l ih=>
  cases i with
  |zero=>rfl
  |succ i=>
   show (PV.sc (.int k a)::Af k l).set (i+1) _=PV.sc (.int k a)::Af k (l.set i x);rw [List.set_cons_succ,ih]
theorem TQ (w:Int)(k:Nat):0<=Da w k∧Da w k<=255:=by
 unfold Da;simp only [wrap,IntKind.signed,IntKind.bits];simp;omega
theorem Ab1 (w:Int):J4 (Dy w):=by
 intro x hx;obtain ⟨k,_,rfl⟩:=List.mem_map.1 hx;exact TQ w k
theorem R9 (ws:List Int):J4 (A5 ws):=by
 intro x hx;obtain ⟨w,_,hx⟩:=List.mem_flatMap.1 hx;exact Ab1 w x hx
theorem Di (ws:List Int):(A5 ws).length=8*ws.length:=by
 induction ws with
 |nil=>rfl
 |cons w ws ih=>
  show (Dy w++A5 ws).length=_;rw [J6,ih,Ew,Jj];omega
def Gd (m:Int)(k:Nat):Int:=wrap .i64 (Ru .u64 (D6 .u64 m (60-4*(k:Int))) 15)
theorem Qq (m:Int)(k:Nat):0<=Gd m k∧Gd m k<=15:=by
 have:=Aqq (a:=D6 .u64 m (60-4*(k:Int))) (m:=15) (by omega) (by omega)
 unfold Gd;rw [Aj (by omega) (by omega)]
 exact this
def Iy (m:Int):Nat->Int
 |0=>0
 |k+1=>Iy m k+(15-Gd m k)
theorem Jh (m:Int):∀k,0<=Iy m k∧Iy m k<=15*k
 |0=>by simp [Iy]
 |k+1=>by
  have h1:=Jh m k;have h2:=Qq m k;simp only [Iy];omega
def PD (m:Int):List Int:=(List.range 16).map (Gd m)++[Iy m 16 / 16,Iy m 16 % 16]
def dg (m:Int)(k:Nat):Int:=(PD m).getD k 0
theorem Ab4 (m:Int):(PD m).length=18:=rfl
theorem Aku {m x:Int}(h:x∈PD m):0<=x∧x<=15:=by
 have hs:=Jh m 16;unfold PD at h;rcases List.mem_append.1 h with h|h
 ·obtain ⟨k,_,rfl⟩:=List.mem_map.1 h;exact Qq m k
 ·simp at h;rcases h with rfl|rfl<;>omega
theorem V8 (m:Int)(k:Nat):0<=dg m k∧dg m k<=15:=by
 unfold dg;rw [List.getD_eq_getElem?_getD];cases h:(PD m)[k]? with
 |none=>simp
 |some x=>exact Aku (List.mem_of_getElem? h)
def dl (m:Int)(i:Nat):List Int:=(List.range i).map (Gd m)++List.replicate (18-i) 0
theorem ZJ (m:Int){i:Nat}(h:i<=18):(dl m i).length=18:=by simp [dl];omega
theorem As7 (m:Int){i:Nat}(h:i<18):(dl m (i+1))[i]?=some (Gd m i):=by
 unfold dl;rw [List.getElem?_append_left (by simp)]
 simp
theorem Aqd (m:Int){i:Nat}(h:i<18):(dl m i).set i (Gd m i)=dl m (i+1):=by
 unfold dl;rw [List.set_append_right _ _ (by simp),List.length_map,List.length_range,Nat.sub_self,show 18-i=(18-(i+1))+1 by omega,List.replicate_succ,List.set_cons_zero,List.range_succ,List.map_append,XE]
 rfl
def Qv (leaf chain:Int):Nat->Int->Int->Int
 |0,_,x=>x
 |k+1,p,x=>Qv leaf chain k (p+1) (Nf 1 (A5 [wrap .u64 leaf,wrap .u64 chain,wrap .u64 p,x]))
theorem TN (leaf chain:Int):∀(k j:Nat)(p x:Int),Qv leaf chain (k+j) p x=Qv leaf chain j (p+k) (Qv leaf chain k p x)
 |0,j,p,x=>by simp [Qv]
 |k+1,j,p,x=>by
  rw [show k+1+j=(k+j)+1 by omega]
  simp only [Qv];rw [TN leaf chain k j]
  congr 1
  omega
def Xs (leaf:Int)(E:List Int):Int:=Nf 2 (A5 (wrap .u64 leaf::E))
def XT (leaf m:Int)(s:List Int)(k:Nat):Int:=Qv leaf k (15-dg m k).toNat (dg m k) (s.getD k 0)
def JB (leaf m:Int)(s:List Int):List Int:=(List.range 18).map (XT leaf m s)
def Aee (leaf m:Int)(s:List Int):Int:=Xs leaf (JB leaf m s)
def el (leaf m:Int)(s:List Int)(i:Nat):List Int:=(List.range i).map (XT leaf m s)++List.replicate (18-i) 0
theorem Ah0 (leaf m:Int)(s:List Int){i:Nat}(h:i<=18):(el leaf m s i).length=18:=by simp [el];omega
theorem Are (leaf m:Int)(s:List Int){i:Nat}(h:i<18):(el leaf m s i).set i (XT leaf m s i)=el leaf m s (i+1):=by
 unfold el;rw [List.set_append_right _ _ (by simp),List.length_map,List.length_range,Nat.sub_self,show 18-i=(18-(i+1))+1 by omega,List.replicate_succ,List.set_cons_zero,List.range_succ,List.map_append,XE]
 rfl
theorem Asm (leaf m:Int)(s:List Int):el leaf m s 18=JB leaf m s:=by
 unfold el JB;simp
end
section
open Go.IntKind (wrap)
set_option maxRecDepth 20000
section
variable {fu d:Nat} {xs:FuncId->Option (List PV->Option Az)}
theorem Aik {ws:List Int}(hl:ws.length<=100)(hfu:1000<=fu)(dom:Int):Ae (CX xs) Tryz.prog fu (d+5) Qt [.sc (.int .i64 dom),.lst false 1 (A5 ws).length (Af .u8 (A5 ws))]=some ⟨[.sc (.int .u64 (Nf dom (A5 ws)))],[]⟩:=
 Abj (R9 ws) (by rw [Di];omega) (by omega) (by rw [Di];omega) dom
theorem WJ {leaf chain:Int}{a0 a1 a2 a3 a4:Int}(hfu:1000<=fu){t:Int}(ht:t<=15):∀(k nn:Nat)(p x:Int),(k:Int)=t-p->0<=p->k<nn ->
  Jr fu (Ae (CX xs) Tryz.prog fu (d+5)) a0 a1 a2 a3 a4 nn leaf chain x t p=some ⟨[.sc (.int .u64 (Qv leaf chain k p x))],[]⟩
 |_,0,_,_,_,_,h=>by omega
 |0,nn+1,p,x,hk,hp,hn=>by
  rw [R0,Dt _ _ _ (by omega)]
  rfl
 |k+1,nn+1,p,x,hk,hp,hn=>by
  have w:wrap .i64 (p+1)=p+1:=Aj (by omega) (by omega)
  have wd:Ae (CX xs) Tryz.prog fu (d+5) Fj [.lst false 1 4 [.sc (.int .u64 (wrap .u64 leaf)),.sc (.int .u64 (wrap .u64 chain)),.sc (.int .u64 (wrap .u64 p)),.sc (.int .u64 x)]]=_:=Ou (ws:=[wrap .u64 leaf,wrap .u64 chain,wrap .u64 p,x]) (by simp) (by omega) (by simp;omega)
  have hs:=Aik (xs:=xs) (fu:=fu) (d:=d) (ws:=[wrap .u64 leaf,wrap .u64 chain,wrap .u64 p,x]) (by simp) hfu 1
  have ih:=WJ (leaf:=leaf) (chain:=chain) (a0:=a0) (a1:=a1) (a2:=a2) (a3:=a3) (a4:=a4) hfu ht k nn (p+1) (Nf 1 (A5 [wrap .u64 leaf,wrap .u64 chain,wrap .u64 p,x])) (by omega) (by omega) (by omega)
  have L:=Ak .u8 (A5 [wrap .u64 leaf,wrap .u64 chain,wrap .u64 p,x]);have eR:Qv leaf chain (k+1) p x=Qv leaf chain k (p+1) (Nf 1 (A5 [wrap .u64 leaf,wrap .u64 chain,wrap .u64 p,x])):=rfl;rw [eR];generalize A5 [wrap .u64 leaf,wrap .u64 chain,wrap .u64 p,x]=W at wd hs ih L ⊢;rw [R0];simp (disch:=omega) only [B4,wd,Cb,Bw,Fa,Kc,L,hs,w];exact ih
theorem Aah {leaf chain:Int}(hfu:1000<=fu)(k:Nat)(f t x:Int)(hk:(k:Int)=t-f) (h0:0<=f)(h1:t<=15):Ae (CX xs) Tryz.prog fu (d+6) Xg [.sc (.int .i64 leaf),.sc (.int .i64 chain),.sc (.int .i64 f),.sc (.int .i64 t),.sc (.int .u64 x)]=some ⟨[.sc (.int .u64 (Qv leaf chain k f x))],[]⟩:=by
 rw [MW];simp only [G9];rw [A7 (by omega),A7 (by omega)]
 exact WJ hfu h1 k fu f x hk h0 (by omega)
theorem FV {call:Ai}{a0 m:Int}{y3:List PV}:∀(k i nn:Nat),i+k=16->k<nn ->
  F3 fu call a0 nn m (Iy m i) i y3 (Af .i64 (dl m i))=F3 fu call a0 (nn-k) m (Iy m 16) 16 y3 (Af .i64 (dl m 16))
 |_,_,0,_,h=>by omega
 |0,i,nn+1,hi,hn=>by
  have e:i=16:=by omega
  subst e;rfl
 |k+1,i,nn+1,hi,hn=>by
  have ih:=FV (call:=call) (a0:=a0) (y3:=y3) (m:=m) k (i+1) nn (by omega) (by omega)
  have hb:=Qq m i;have hs:=Jh m i;have w:wrap .i64 ((i:Int)+1)=((i+1:Nat):Int):=by rw [Aj (by omega) (by omega)];omega
  have w4:wrap .i64 (4*(i:Int))=4*(i:Int):=Aj (by omega) (by omega)
  have w60:wrap .i64 (60-4*(i:Int))=60-4*(i:Int):=Aj (by omega) (by omega)
  have hd:wrap .i64 (Ru .u64 (D6 .u64 m (60-4*(i:Int))) 15)=Gd m i:=rfl;have w15:wrap .i64 (15-Gd m i)=15-Gd m i:=Aj (by omega) (by omega)
  have ws:wrap .i64 (Iy m i+(15-Gd m i))=Iy m (i+1):=by rw [Aj (by omega) (by omega)];rfl
  have L:(Af .i64 (dl m i)).length=18:=by rw [Ak,ZJ m (by omega)]
  have hset:Bb (Af .i64 (dl m i)) [.sc (.int .i64 (Gd m i))] i=Af .i64 (dl m (i+1)):=by
   rw [Ey (by omega),Jz,Aqd m (by omega)]
  have hat:(Af .i64 (dl m (i+1))).getD i .top=.sc (.int .i64 (Gd m i)):=Xj (As7 m (by omega))
  rw [show nn+1-(k+1)=nn-k by omega,←ih,M5]
  simp (disch:=omega) only [B4,Gm,Cb,Bw,w,w4,w60,hd,L,hset,hat,w15,ws]
theorem NN (hfu:1000<=fu)(m:Int):Ae (CX xs) Tryz.prog fu (d+1) Sc [.sc (.int .u64 m)]=some ⟨[.agg (Af .i64 (PD m))],[]⟩:=by
 rw [DJ];have lp:=FV (fu:=fu) (call:=Ae (CX xs) Tryz.prog fu d) (a0:=m) (m:=m) (y3:=Af .i64 (List.replicate 18 0)) 16 0 fu (by omega) (by omega)
 obtain ⟨f',hf'⟩:∃f',fu-16=f'+1:=⟨fu-17,by omega⟩
 rw [hf'] at lp;refine Eq.trans lp ?_;have hs:=Jh m 16
 have wq:wrap .i64 (Int.tdiv (Iy m 16) 16)=Iy m 16 / 16:=by
  rw [Int.tdiv_eq_ediv_of_nonneg (by omega),Aj (by omega) (by omega)]
 have wm:Int.tmod (Iy m 16) 16=Iy m 16 % 16:=Int.tmod_eq_emod_of_nonneg (by omega)
 have L:(Af .i64 (dl m 16)).length=18:=by rw [Ak,ZJ m (by omega)]
 have h1:Bb (Af .i64 (dl m 16)) [.sc (.int .i64 (Iy m 16 / 16))] 16=Af .i64 ((dl m 16).set 16 (Iy m 16 / 16)):=by
  rw [Ey (by omega),Jz]
 have L2:(Af .i64 ((dl m 16).set 16 (Iy m 16 / 16))).length=18:=by rw [Ak,List.length_set,ZJ m (by omega)]
 have h2:Bb (Af .i64 ((dl m 16).set 16 (Iy m 16 / 16))) [.sc (.int .i64 (Iy m 16 % 16))] 17=Af .i64 (PD m):=by
  rw [Ey (by omega),Jz]
  rfl
 rw [M5,Dt _ _ _ (by omega)]
 simp only [G9,wq,wm,L,h1,L2,h2];generalize hq:Iy m 16 / 16=q at *
 generalize hr:Iy m 16 % 16=r at *
 have hD:Af .i64 (PD m)=[.sc (.int .i64 (Gd m 0)),.sc (.int .i64 (Gd m 1)),.sc (.int .i64 (Gd m 2)),.sc (.int .i64 (Gd m 3)),.sc (.int .i64 (Gd m 4)),.sc (.int .i64 (Gd m 5)),.sc (.int .i64 (Gd m 6)),.sc (.int .i64 (Gd m 7)),.sc (.int .i64 (Gd m 8)),.sc (.int .i64 (Gd m 9)),.sc (.int .i64 (Gd m 10)),.sc (.int .i64 (Gd m 11)),.sc (.int .i64 (Gd m 12)),.sc (.int .i64 (Gd m 13)),.sc (.int .i64 (Gd m 14)),.sc (.int .i64 (Gd m 15)),.sc (.int .i64 q),.sc (.int .i64 r)]:=by
  unfold PD;rw [hq,hr];rfl
 rw [hD];have hr18:(Af .i64 (List.replicate 18 0)).length=18:=rfl
 have hsp:∀c:List PV,c.length=18->Bb (Af .i64 (List.replicate 18 0)) c 0=c:=by
  intro c hc;unfold Bb;rw [hc,List.drop_of_length_le (by rw [hr18];omega)]
  simp
 rw [Wx (hnn:=by omega)]
 simp only [B4,List.getD_cons_zero,List.getD_cons_succ,hr18];rw [hsp _ rfl];simp (disch:=omega) only [B4,Wu,List.getD_cons_zero,List.getD_cons_succ]
theorem KP (hfu:1000<=fu)(leaf:Int){E:List Int}(hE:E.length=18):Ae (CX xs) Tryz.prog fu (d+6) Qm [.sc (.int .i64 leaf),.agg (Af .u64 E)]=some ⟨[.sc (.int .u64 (Xs leaf E))],[]⟩:=by
 match E,hE with
 |[e0,e1,e2,e3,e4,e5,e6,e7,e8,e9,e10,e11,e12,e13,e14,e15,e16,e17],_=>
  have wd:Ae (CX xs) Tryz.prog fu (d+5) Fj [.lst false 1 19 [.sc (.int .u64 (wrap .u64 leaf)),.sc (.int .u64 e0),.sc (.int .u64 e1),.sc (.int .u64 e2),.sc (.int .u64 e3),.sc (.int .u64 e4),.sc (.int .u64 e5),.sc (.int .u64 e6),.sc (.int .u64 e7),.sc (.int .u64 e8),.sc (.int .u64 e9),.sc (.int .u64 e10),.sc (.int .u64 e11),.sc (.int .u64 e12),.sc (.int .u64 e13),.sc (.int .u64 e14),.sc (.int .u64 e15),.sc (.int .u64 e16),.sc (.int .u64 e17)]]=_:=Ou (ws:=wrap .u64 leaf::[e0,e1,e2,e3,e4,e5,e6,e7,e8,e9,e10,e11,e12,e13,e14,e15,e16,e17]) (by simp) (by omega) (by simp;omega)
  have hs:=Aik (xs:=xs) (fu:=fu) (d:=d) (ws:=wrap .u64 leaf::[e0,e1,e2,e3,e4,e5,e6,e7,e8,e9,e10,e11,e12,e13,e14,e15,e16,e17]) (by simp) hfu 2
  have L:=Ak .u8 (A5 (wrap .u64 leaf::[e0,e1,e2,e3,e4,e5,e6,e7,e8,e9,e10,e11,e12,e13,e14,e15,e16,e17]));have eR:Xs leaf [e0,e1,e2,e3,e4,e5,e6,e7,e8,e9,e10,e11,e12,e13,e14,e15,e16,e17]=Nf 2 (A5 (wrap .u64 leaf::[e0,e1,e2,e3,e4,e5,e6,e7,e8,e9,e10,e11,e12,e13,e14,e15,e16,e17])):=rfl;rw [eR];generalize A5 (wrap .u64 leaf::[e0,e1,e2,e3,e4,e5,e6,e7,e8,e9,e10,e11,e12,e13,e14,e15,e16,e17])=W at wd hs L ⊢;refine (BD fu (d+5) leaf e0 e1 e2 e3 e4 e5 e6 e7 e8 e9 e10 e11 e12 e13 e14 e15 e16 e17).trans ?_;simp (disch:=omega) only [B4,wd,Cb,Bw,Fa,Kc,L,hs]
theorem Al2 (g:Nat->Int){i:Nat}(hi:i<18):List.getD [PV.sc (.int .i64 (g 0)),PV.sc (.int .i64 (g 1)),PV.sc (.int .i64 (g 2)),PV.sc (.int .i64 (g 3)),PV.sc (.int .i64 (g 4)),PV.sc (.int .i64 (g 5)),PV.sc (.int .i64 (g 6)),PV.sc (.int .i64 (g 7)),PV.sc (.int .i64 (g 8)),PV.sc (.int .i64 (g 9)),PV.sc (.int .i64 (g 10)),PV.sc (.int .i64 (g 11)),PV.sc (.int .i64 (g 12)),PV.sc (.int .i64 (g 13)),PV.sc (.int .i64 (g 14)),PV.sc (.int .i64 (g 15)),PV.sc (.int .i64 (g 16)),PV.sc (.int .i64 (g 17))] i PV.top=.sc (.int .i64 (g i)):=by
 have:((List.range 18).map g)[i]?=some (g i):=by simp [hi]
 exact Xj (k:=.i64) this
theorem BS {a0 a1:Int}{a2n:Nat}{a2:List PV}{leaf m:Int}{s:List Int}(hs:s.length=18)(hfu:1000<=fu)(g:Nat->Int)(hg:∀k,g k=dg m k):∀(k i nn:Nat),i+k=18->k<nn ->
  Ej fu (Ae (CX xs) Tryz.prog fu (d+6)) a0 a1 a2n a2 nn leaf s.length (Af .u64 s) (g 0) (g 1) (g 2) (g 3) (g 4) (g 5) (g 6) (g 7) (g 8) (g 9) (g 10) (g 11) (g 12) (g 13) (g 14) (g 15) (g 16) (g 17) i (Af .u64 (el leaf m s i)) =
   Ej fu (Ae (CX xs) Tryz.prog fu (d+6)) a0 a1 a2n a2 (nn-k) leaf s.length (Af .u64 s) (g 0) (g 1) (g 2) (g 3) (g 4) (g 5) (g 6) (g 7) (g 8) (g 9) (g 10) (g 11) (g 12) (g 13) (g 14) (g 15) (g 16) (g 17) 18 (Af .u64 (el leaf m s 18))
 |_,_,0,_,h=>by omega
 |0,i,nn+1,hi,hn=>by
  have e:i=18:=by omega
  subst e;rfl
 |k+1,i,nn+1,hi,hn=>by
  have ih:=BS (a0:=a0) (a1:=a1) (a2n:=a2n) (a2:=a2) (leaf:=leaf) (m:=m) hs hfu g hg k (i+1) nn (by omega) (by omega)
  obtain ⟨x,hx⟩:∃x,s[i]?=some x:=⟨_,List.getElem?_eq_getElem (by omega)⟩
  have hb:=V8 m i;have hgi:=Al2 g (i:=i) (by omega)
  have w:wrap .i64 ((i:Int)+1)=((i+1:Nat):Int):=by rw [Aj (by omega) (by omega)];omega
  have rn:=Aah (xs:=xs) (fu:=fu) (d:=d) (leaf:=leaf) (chain:=i) hfu (15-dg m i).toNat (g i) 15 x (by rw [hg];omega) (by rw [hg];omega) (by omega)
  have ev:Qv leaf i (15-dg m i).toNat (g i) x=XT leaf m s i:=by
   unfold XT;rw [List.getD_eq_getElem?_getD,hx,hg];rfl
  rw [ev] at rn;have L:(Af .u64 (el leaf m s i)).length=18:=by rw [Ak,Ah0 leaf m s (by omega)]
  have hset:Bb (Af .u64 (el leaf m s i)) [.sc (.int .u64 (XT leaf m s i))] i=Af .u64 (el leaf m s (i+1)):=by
   rw [Ey (by omega),Jz,Are leaf m s (by omega)]
  rw [show nn+1-(k+1)=nn-k by omega,←ih,Mc]
  simp (disch:=omega) only [B4,Gm,Cb,Bw,hgi,Xj hx,rn,L,hset,w]
theorem VT (hfu:1000<=fu){a0 a1 leaf:Int}{a2n n nn:Nat}{a2 c:List PV}{g:Nat->Int}{E:List Int}(hE:E.length=18):
  Ej fu (Ae (CX xs) Tryz.prog fu (d+6)) a0 a1 a2n a2 (nn+1) leaf n c (g 0) (g 1) (g 2) (g 3) (g 4) (g 5) (g 6) (g 7) (g 8) (g 9) (g 10) (g 11) (g 12) (g 13) (g 14) (g 15) (g 16) (g 17) 18 (Af .u64 E)=some ⟨[.sc (.int .u64 (Xs leaf E)),.sc (.int .i64 0)],[]⟩:=by
 match E,hE with
 |[e0,e1,e2,e3,e4,e5,e6,e7,e8,e9,e10,e11,e12,e13,e14,e15,e16,e17],hE=>
  have cb:=KP (xs:=xs) (fu:=fu) (d:=d) hfu leaf hE;have hc:Af .u64 [e0,e1,e2,e3,e4,e5,e6,e7,e8,e9,e10,e11,e12,e13,e14,e15,e16,e17]=[.sc (.int .u64 e0),.sc (.int .u64 e1),.sc (.int .u64 e2),.sc (.int .u64 e3),.sc (.int .u64 e4),.sc (.int .u64 e5),.sc (.int .u64 e6),.sc (.int .u64 e7),.sc (.int .u64 e8),.sc (.int .u64 e9),.sc (.int .u64 e10),.sc (.int .u64 e11),.sc (.int .u64 e12),.sc (.int .u64 e13),.sc (.int .u64 e14),.sc (.int .u64 e15),.sc (.int .u64 e16),.sc (.int .u64 e17)]:=rfl;rw [hc] at cb ⊢;generalize Xs leaf [e0,e1,e2,e3,e4,e5,e6,e7,e8,e9,e10,e11,e12,e13,e14,e15,e16,e17]=R at cb ⊢;rw [Mc,Dt _ _ _ (by omega)]
  simp (disch:=omega) only [B4,Vx,Ul,List.getD_cons_zero,List.getD_cons_succ,cb]
theorem ZF (hfu:1000<=fu)(leaf m:Int)(s:List Int):Ae (CX xs) Tryz.prog fu (d+7) Qf [.sc (.int .i64 leaf),.sc (.int .u64 m),.lst false 1 s.length (Af .u64 s)]=some ⟨(if s.length=18 then [.sc (.int .u64 (Aee leaf m s)),.sc (.int .i64 0)] else [.sc (.int .u64 0),.sc (.int .i64 4)]),[]⟩:=by
 rw [Z7];by_cases h:s.length=18
 ·have dq:=NN (xs:=xs) (fu:=fu) (d:=d+5) hfu m;have hD:Af .i64 (PD m)=[.sc (.int .i64 (dg m 0)),.sc (.int .i64 (dg m 1)),.sc (.int .i64 (dg m 2)),.sc (.int .i64 (dg m 3)),.sc (.int .i64 (dg m 4)),.sc (.int .i64 (dg m 5)),.sc (.int .i64 (dg m 6)),.sc (.int .i64 (dg m 7)),.sc (.int .i64 (dg m 8)),.sc (.int .i64 (dg m 9)),.sc (.int .i64 (dg m 10)),.sc (.int .i64 (dg m 11)),.sc (.int .i64 (dg m 12)),.sc (.int .i64 (dg m 13)),.sc (.int .i64 (dg m 14)),.sc (.int .i64 (dg m 15)),.sc (.int .i64 (dg m 16)),.sc (.int .i64 (dg m 17))]:=rfl;rw [hD] at dq;simp only [Fs];rw [B7 h,B7 (by omega)]
  simp only [B4,dq];have lp:=BS (xs:=xs) (fu:=fu) (d:=d) (a0:=leaf) (a1:=m) (a2n:=s.length) (a2:=Af .u64 s) (leaf:=leaf) (m:=m) h hfu (dg m) (fun _=>rfl) 18 0 fu (by omega) (by omega)
  obtain ⟨f',hf'⟩:∃f',fu-18=f'+1:=⟨fu-19,by omega⟩
  rw [hf'] at lp;refine Eq.trans lp ?_;have eE:el leaf m s 18=JB leaf m s:=Asm leaf m s;have hl:(JB leaf m s).length=18:=by rw [←eE,Ah0 leaf m s (by omega)]
  have eR:Aee leaf m s=Xs leaf (JB leaf m s):=rfl;rw [eE,eR];exact VT hfu hl
 ·simp only [Fs];rw [A7 h,A7 (by omega)]
end
end
section
open Go.IntKind (wrap)
structure Ky where
 h:Int
 root:Int
structure Sg where
 leaf:Int
 chains:List Int
 path:List Int
def Ky.cells (k:Ky):List PV:=[.sc (.int .i64 k.h),.sc (.int .u64 k.root)]
def Sg.cells (s:Sg):List PV:=[.sc (.int .i64 s.leaf),.lst false 1 s.chains.length (Af .u64 s.chains),.lst false 1 s.path.length (Af .u64 s.path)]
def Dg (h:Int):Bool:=decide (h<0)||decide (h>4)
def Ke (leaf h:Int):Bool:=decide (leaf<0)||decide (leaf>=G7 .i64 1 h)
def Ls (level a b:Int):Int:=Nf 3 (A5 [wrap .u64 level,a,b])
def Ys (leaf:Int):Nat->Int->List Int->Int
 |_,x,[]=>x
 |i,x,s::r=>Ys leaf (i+1) (if Ru .i64 (D6 .i64 leaf i) 1=0 then Ls ((i+1:Nat):Int) x s else Ls ((i+1:Nat):Int) s x) r
def okE (x root:Int):Int:=if x=root then 0 else 15
theorem XZ (leaf:Int)(i:Nat)(x:Int):Ys leaf i x []=x:=rfl
theorem GD (leaf:Int)(i:Nat)(x s:Int)(r:List Int):Ys leaf i x (s::r)=Ys leaf (i+1) (if Ru .i64 (D6 .i64 leaf i) 1=0 then Ls ((i+1:Nat):Int) x s else Ls ((i+1:Nat):Int) s x) r:=rfl
def WG (k:Ky)(m:Int)(s:Sg):Int:=
 if Dg k.h=true then 9 else if Ke s.leaf k.h=true then 9 else if s.chains.length≠18 then 4 else if (s.path.length:Int)≠k.h then 4 else
 okE (Ys s.leaf 0 (Aee s.leaf m s.chains) s.path) k.root
theorem H4 {h:Int}(hh:Dg h=false):0<=h∧h<=4:=by
 unfold Dg at hh;simp at hh;omega
section
variable {fu d:Nat} {xs:FuncId->Option (List PV->Option Az)}
theorem Sz (h:Int):Ae (CX xs) Tryz.prog fu (d+1) Jm [.sc (.int .i64 h)]=some ⟨[.sc (.bool (Dg h))],[]⟩:=by
 rw [IL];unfold Dg;by_cases h0:h<0
 ·simp only [B4,EB,h0,decide_true,Bool.true_or,if_true]
 ·simp only [B4,EB,h0,decide_false,Bool.false_or,if_false]
theorem O4 (leaf h:Int)(h0:0<=h):Ae (CX xs) Tryz.prog fu (d+1) Hi [.sc (.int .i64 leaf),.sc (.int .i64 h)]=some ⟨[.sc (.bool (Ke leaf h))],[]⟩:=by
 rw [AW];unfold Ke;by_cases hl:leaf<0
 ·simp only [B4,EB,hl,decide_true,Bool.true_or,if_true]
 ·simp (disch:=omega) only [B4,EB,hl,decide_false,Bool.false_or,if_false]
theorem DN (hfu:1000<=fu)(level a b:Int):Ae (CX xs) Tryz.prog fu (d+6) Lj [.sc (.int .i64 level),.sc (.int .u64 a),.sc (.int .u64 b)]=some ⟨[.sc (.int .u64 (Ls level a b))],[]⟩:=by
 have wd:Ae (CX xs) Tryz.prog fu (d+5) Fj [.lst false 1 3 [.sc (.int .u64 (wrap .u64 level)),.sc (.int .u64 a),.sc (.int .u64 b)]]=_:=Ou (ws:=[wrap .u64 level,a,b]) (by simp) (by omega) (by simp;omega)
 have hs:=Aik (xs:=xs) (fu:=fu) (d:=d) (ws:=[wrap .u64 level,a,b]) (by simp) hfu 3
 have L:=Ak .u8 (A5 [wrap .u64 level,a,b]);rw [DS];unfold Ls;generalize A5 [wrap .u64 level,a,b]=W at wd hs L ⊢;simp (disch:=omega) only [B4,wd,Cb,Bw,Fa,Kc,L,hs]
theorem FN {a0 a1 a2 a3:Int}{n1 n2 n3 n4:Nat}{c1 c2 c3 c4:List PV}{y5 root leaf:Int}{path:List Int}(hp:path.length<=100)(hfu:1000<=fu):∀(r:List Int)(i nn:Nat)(x:Int),path.drop i=r->r.length<nn->i<=path.length ->
  F1 fu (Ae (CX xs) Tryz.prog fu (d+6)) a0 a1 a2 a3 n1 c1 n2 c2 nn x path.length (Af .u64 path) path.length i y5 root leaf n3 c3 n4 c4=some ⟨[.sc (.int .i64 (okE (Ys leaf i x r) root))],[]⟩
 |_,_,0,_,_,h,_=>by omega
 |[],i,nn+1,x,h,hn,hi=>by
  have:=drop_nil h;rw [M3,Dt _ _ _ (by omega),Fs]
  rw [XZ];unfold okE;by_cases e:x=root
  ·rw [B7 e,B7 e]
  ·rw [A7 e,A7 e]
 |s::r,i,nn+1,x,h,hn,hi=>by
  obtain ⟨h1,h2,h3⟩:=Cg h;simp only [Jj] at hn;have w:wrap .i64 ((i:Int)+1)=((i+1:Nat):Int):=by rw [Aj (by omega) (by omega)];omega
  have ih:=fun x=>FN (a0:=a0) (a1:=a1) (a2:=a2) (a3:=a3) (n1:=n1) (n2:=n2) (n3:=n3) (n4:=n4) (c1:=c1) (c2:=c2) (c3:=c3) (c4:=c4) (y5:=y5) (root:=root) (leaf:=leaf) hp hfu r (i+1) nn x h3 (by omega) (by omega)
  have p1:=DN (xs:=xs) (fu:=fu) (d:=d) hfu ((i+1:Nat):Int) x s;have p2:=DN (xs:=xs) (fu:=fu) (d:=d) hfu ((i+1:Nat):Int) s x;rw [M3,GD];by_cases hb:Ru .i64 (D6 .i64 leaf i) 1=0
  ·rw [B7 hb,←ih];simp (disch:=omega) only [B4,Gm,Cb,Xj h2,Fc,hb,w,p1,if_true]
  ·rw [A7 hb,←ih];simp (disch:=omega) only [B4,Gm,Cb,Xj h2,Fc,hb,w,p2,if_false]
theorem Ad7 (hfu:1000<=fu)(k:Ky)(m:Int)(s:Sg):Ae (CX xs) Tryz.prog fu (d+8) R6 [.agg k.cells,.sc (.int .u64 m),.agg s.cells]=some ⟨[.sc (.int .i64 (WG k m s))],[]⟩:=by
 refine (DW fu (d+7) k.h k.root m s.leaf s.chains.length (Af .u64 s.chains) s.path.length (Af .u64 s.path)).trans ?_;have h1:=Sz (xs:=xs) (fu:=fu) (d:=d+6) k.h;unfold WG;cases c1:Dg k.h
 ·rw [c1] at h1;have hb:=H4 c1;have h2:=O4 (xs:=xs) (fu:=fu) (d:=d+6) s.leaf k.h hb.1;cases c2:Ke s.leaf k.h
  ·rw [c2] at h2;by_cases c3:s.chains.length=18
   ·by_cases c4:(s.path.length:Int)=k.h
    ·have rc:=ZF (xs:=xs) (fu:=fu) (d:=d) hfu s.leaf m s.chains;rw [B7 c3] at rc;have vl:=FN (xs:=xs) (fu:=fu) (d:=d+1) (a0:=k.h) (a1:=k.root) (a2:=m) (a3:=s.leaf) (n1:=s.chains.length) (n2:=s.path.length) (n3:=s.chains.length) (n4:=s.path.length) (c1:=Af .u64 s.chains) (c2:=Af .u64 s.path) (c3:=Af .u64 s.chains) (c4:=Af .u64 s.path) (y5:=k.h) (root:=k.root) (leaf:=s.leaf) (path:=s.path) (by omega) hfu s.path 0 fu (Aee s.leaf m s.chains) rfl (by omega) (by omega)
     rw [A7 (by simp),A7 (by simp),A7 (by omega),A7 (by omega),←vl]
     simp (disch:=omega) only [B4,h1,h2,Fs,rc,if_true,c4];rw [B7 (by omega)]
     rfl
    ·rw [A7 (by simp),A7 (by simp),A7 (by omega),B7 c4]
     simp (disch:=omega) only [B4,h1,h2,Fs,c4,if_false];rw [B7 (by omega)]
   ·rw [A7 (by simp),A7 (by simp),B7 c3]
    simp (disch:=omega) only [B4,h1,h2,Fs];rw [A7 (by omega)]
  ·rw [c2] at h2;rw [A7 (by simp),B7 rfl]
   simp (disch:=omega) only [B4,h1,h2]
 ·rw [c1] at h1;rw [B7 rfl];simp (disch:=omega) only [B4,h1]
def I3 (k:Ky):List Int:=wrap .u8 k.h::Dy k.root
def DE (s:Sg):List Int:=wrap .u8 s.leaf::wrap .u8 s.path.length::(A5 s.chains++A5 s.path)
theorem owd (hfu:1000<=fu)(w:Int):Ae (CX xs) Tryz.prog fu (d+1) Fj [.lst false 1 1 [.sc (.int .u64 w)]]=some ⟨[.own 1 8 (Af .u8 (Dy w))],[]⟩:=by
 have:=Ou (xs:=xs) (fu:=fu) (d:=d) (ws:=[w]) (by simp) (by omega) (by simp;omega)
 simp only [A5,List.flatMap_cons,List.flatMap_nil,List.append_nil,Jj,Xy,Ew] at this;exact this
theorem Aet (hfu:1000<=fu)(k:Ky):Ae (CX xs) Tryz.prog fu (d+2) M4 [.agg k.cells]=some ⟨(if Dg k.h=true then [.own 1 0 [],.sc (.int .i64 9)] else [.own 1 9 (Af .u8 (I3 k)),.sc (.int .i64 0)]),[]⟩:=by
 refine (Wp fu (d+1) k.h k.root).trans ?_;have h1:=Sz (xs:=xs) (fu:=fu) (d:=d) k.h;have wd:=owd (xs:=xs) (fu:=fu) (d:=d) hfu k.root;have L:=Ak .u8 (Dy k.root);rw [Ew] at L;have t8:List.take 8 (Af .u8 (Dy k.root))=Af .u8 (Dy k.root):=Sl (by omega)
 have t9:List.take 9 ([PV.sc (.int .u8 (wrap .u8 k.h))]++Af .u8 (Dy k.root))=Af .u8 (I3 k):=by
  rw [Sl (by rw [J6,L];simp)]
  rfl
 have L9:([PV.sc (.int .u8 (wrap .u8 k.h))]++Af .u8 (Dy k.root)).length=9:=by rw [J6,L];rfl
 cases c1:Dg k.h
 ·rw [c1] at h1;rw [A7 (by simp)]
  simp (disch:=omega) only [B4,h1,wd,Cb,Bw,Fa,L,t8,Nat.reduceAdd,L9,t9]
 ·rw [c1] at h1;rw [B7 rfl];simp (disch:=omega) only [B4,h1]
theorem Ad3 (hfu:1000<=fu)(s:Sg)(hp:s.path.length<=1000000000)(hf:s.path.length<fu):Ae (CX xs) Tryz.prog fu (d+2) Ib [.agg s.cells]=some ⟨(if Dg s.path.length=true then [.own 1 0 [],.sc (.int .i64 9)] else if Ke s.leaf s.path.length=true then [.own 1 0 [],.sc (.int .i64 9)] else if s.chains.length≠18 then [.own 1 0 [],.sc (.int .i64 4)] else [.own 1 (DE s).length (Af .u8 (DE s)),.sc (.int .i64 0)]),[]⟩:=by
 refine (Pt fu (d+1) s.leaf s.chains.length (Af .u64 s.chains) s.path.length (Af .u64 s.path)).trans ?_;have h1:=Sz (xs:=xs) (fu:=fu) (d:=d) s.path.length;cases c1:Dg s.path.length
 ·rw [c1] at h1;have hb:=H4 c1;have h2:=O4 (xs:=xs) (fu:=fu) (d:=d) s.leaf s.path.length hb.1;cases c2:Ke s.leaf s.path.length
  ·rw [c2] at h2;by_cases c3:s.chains.length=18
   ·have w1:=Ou (xs:=xs) (fu:=fu) (d:=d) (ws:=s.chains) (by omega) (by omega) (by omega)
    have w2:=Ou (xs:=xs) (fu:=fu) (d:=d) (ws:=s.path) (by omega) (by omega) (by omega)
    have l1:=Di s.chains;have l2:=Di s.path;have L1:=Ak .u8 (A5 s.chains);have L2:=Ak .u8 (A5 s.path)
    have eB:Af .u8 (DE s)=[PV.sc (.int .u8 (wrap .u8 s.leaf)),PV.sc (.int .u8 (wrap .u8 s.path.length))]++Af .u8 (A5 s.chains)++Af .u8 (A5 s.path):=by
     unfold DE;simp
    have eL:(DE s).length=2+(A5 s.chains).length+(A5 s.path).length:=by
     unfold DE;simp;omega
    rw [A7 (by simp),A7 (by simp),A7 (by omega),eB,eL]
    have t2:List.take (2+(A5 s.chains).length) ([PV.sc (.int .u8 (wrap .u8 s.leaf)),PV.sc (.int .u8 (wrap .u8 s.path.length))]++Af .u8 (A5 s.chains))=[PV.sc (.int .u8 (wrap .u8 s.leaf)),PV.sc (.int .u8 (wrap .u8 s.path.length))]++Af .u8 (A5 s.chains):=Sl (by rw [J6,L1];simp)
    have t3:List.take (2+(A5 s.chains).length+(A5 s.path).length) ([PV.sc (.int .u8 (wrap .u8 s.leaf)),PV.sc (.int .u8 (wrap .u8 s.path.length))]++Af .u8 (A5 s.chains)++Af .u8 (A5 s.path))=[PV.sc (.int .u8 (wrap .u8 s.leaf)),PV.sc (.int .u8 (wrap .u8 s.path.length))]++Af .u8 (A5 s.chains)++Af .u8 (A5 s.path):=Sl (by rw [J6,J6,L1,L2];simp)
    have k2:([PV.sc (.int .u8 (wrap .u8 s.leaf)),PV.sc (.int .u8 (wrap .u8 s.path.length))]++Af .u8 (A5 s.chains)).length=2+(A5 s.chains).length:=by rw [J6,L1];rfl
    have k3:([PV.sc (.int .u8 (wrap .u8 s.leaf)),PV.sc (.int .u8 (wrap .u8 s.path.length))]++Af .u8 (A5 s.chains)++Af .u8 (A5 s.path)).length=2+(A5 s.chains).length+(A5 s.path).length:=by rw [J6,k2,L2]
    simp (disch:=omega) only [B4,h1,h2,Fs,w1,w2,Cb,Bw,Fa,L1,L2,Kc,t2,t3,k2,k3];rw [B7 (by omega)]
   ·rw [A7 (by simp),A7 (by simp),B7 c3]
    simp (disch:=omega) only [B4,h1,h2,Fs];rw [A7 (by omega)]
  ·rw [c2] at h2;rw [A7 (by simp),B7 rfl]
   simp (disch:=omega) only [B4,h1,h2]
 ·rw [c1] at h1;rw [B7 rfl];simp (disch:=omega) only [B4,h1]
def Qs (l:List Int)(i:Nat):Int:=JZ ((l.drop (8*i)).take 8)
def Fm (l:List Int):List Int:=(List.range (l.length / 8)).map (Qs l)
def wl (l:List Int)(i:Nat):List Int:=(List.range i).map (Qs l)++List.replicate (l.length / 8-i) 0
theorem Ajb (l:List Int){i:Nat}(h:i<=l.length / 8):(wl l i).length=l.length / 8:=by simp [wl];omega
theorem Am6 (l:List Int){i:Nat}(h:i<l.length / 8):(wl l i).set i (Qs l i)=wl l (i+1):=by
 unfold wl;rw [List.set_append_right _ _ (by simp),List.length_map,List.length_range,Nat.sub_self,show l.length / 8-i=(l.length / 8-(i+1))+1 by omega,List.replicate_succ,List.set_cons_zero,List.range_succ,List.map_append,XE]
 rfl
theorem Alb (l:List Int){i:Nat}(h:i<l.length / 8):(wl l i).set i 0=wl l i:=by
 unfold wl;rw [List.set_append_right _ _ (by simp),List.length_map,List.length_range,Nat.sub_self,show l.length / 8-i=(l.length / 8-(i+1))+1 by omega,List.replicate_succ,List.set_cons_zero]
theorem NG {n m0:Nat}{c:List PV}{l:List Int}(hl:l.length<=1000000){i:Nat}(hi:i<l.length / 8){q:List Int}(hq:q.length<=8):∀(r:List Int)(j nn:Nat)(x:Int),q.drop j=r->r.length<nn->j<=q.length ->
  H5 fu (Ae (CX xs) Tryz.prog fu d) n c m0 nn l.length (Af .u8 l) (l.length / 8) i ((l.length / 8:Nat):Int) i q.length (Af .u8 q) q.length j (Af .u64 ((wl l i).set i x)) =
   Gv fu (Ae (CX xs) Tryz.prog fu d) n c m0 l.length (Af .u8 l) (l.length / 8) ((l.length / 8:Nat):Int) ((i+1:Nat):Int) (Af .u64 ((wl l i).set i (r.foldl Fe x)))
 |_,_,0,_,_,h,_=>by omega
 |[],j,nn+1,x,h,hn,hj=>by
  have:=drop_nil h;have w:wrap .i64 ((i:Int)+1)=((i+1:Nat):Int):=by rw [Aj (by omega) (by omega)];omega
  rw [O1,Dt _ _ _ (by omega)]
  simp only [G9,w,List.foldl_nil]
 |b::r,j,nn+1,x,h,hn,hj=>by
  obtain ⟨h1,h2,h3⟩:=Cg h;simp only [Jj] at hn;have w:wrap .i64 ((j:Int)+1)=((j+1:Nat):Int):=by rw [Aj (by omega) (by omega)];omega
  have L:(Af .u64 ((wl l i).set i x)).length=l.length / 8:=by rw [Ak,List.length_set,Ajb l (by omega)]
  have hat:(Af .u64 ((wl l i).set i x)).getD i .top=.sc (.int .u64 x):=Xj (by rw [List.getElem?_set_self (by rw [Ajb l (by omega)];omega)])
  have hset:Bb (Af .u64 ((wl l i).set i x)) [.sc (.int .u64 (Fe x b))] i=Af .u64 ((wl l i).set i (Fe x b)):=by
   rw [Ey (by omega),Jz,List.set_set]
  have ih:=NG (n:=n) (m0:=m0) (c:=c) hl hi hq r (j+1) nn (Fe x b) h3 (by omega) (by omega)
  rw [List.foldl_cons,←ih,O1];simp (disch:=omega) only [B4,Gm,Cb,Bw,Xj h2,hat,L,w];exact congrArg _ hset
theorem FI {n:Nat}{c:List PV}{l:List Int}(hl:l.length<=1000000)(hfu:100<=fu):∀(k i nn:Nat),i+k=l.length / 8->k<nn ->
  Gv fu (Ae (CX xs) Tryz.prog fu d) n c nn l.length (Af .u8 l) (l.length / 8) ((l.length / 8:Nat):Int) i (Af .u64 (wl l i))=some ⟨[.own 1 (l.length / 8) (Af .u64 (Fm l))],[]⟩
 |_,_,0,_,h=>by omega
 |0,i,nn+1,hi,hn=>by
  have e:i=l.length / 8:=by omega
  subst e;have e2:wl l (l.length / 8)=Fm l:=by unfold wl Fm;simp
  have L:(Af .u64 (Fm l)).length=l.length / 8:=by rw [Ak];simp [Fm]
  have tk:List.take (l.length / 8) (Af .u64 (Fm l))=Af .u64 (Fm l):=Sl (by omega)
  rw [Pm,Dt _ _ _ (by omega),e2]
  simp (disch:=omega) only [B4,Cb,L,tk]
 |k+1,i,nn+1,hi,hn=>by
  have ih:=FI (n:=n) (c:=c) hl hfu k (i+1) nn (by omega) (by omega)
  have w8:wrap .i64 (8*(i:Int))=((8*i:Nat):Int):=by rw [Aj (by omega) (by omega)];omega
  have w88:wrap .i64 (((8*i:Nat):Int)+8)=((8*i+8:Nat):Int):=by rw [Aj (by omega) (by omega)];omega
  have e8:8*i+8-8*i=8:=by omega
  have hdl:((l.drop (8*i)).take 8).length=8:=by rw [List.length_take,List.length_drop];omega
  have st:=NG (xs:=xs) (fu:=fu) (d:=d) (n:=n) (m0:=nn) (c:=c) hl (i:=i) (by omega) (q:=(l.drop (8*i)).take 8) (by omega) ((l.drop (8*i)).take 8) 0 fu 0 rfl (by omega) (by omega)
  rw [Alb l (by omega),hdl] at st
  have ew:((l.drop (8*i)).take 8).foldl Fe 0=Qs l i:=rfl;rw [ew,Am6 l (by omega),ih] at st
  rw [Pm];simp (disch:=omega) only [B4,Gm,Cb,w8,w88,e8,H6,Ob];exact st
theorem HO (n:Nat):Rl n [.sc (.int .u64 0)]=Af .u64 (List.replicate n 0):=by
 induction n with
 |zero=>rfl
 |succ n ih=>
  show ([PV.sc (.int .u64 0)]::List.replicate n [PV.sc (.int .u64 0)]).flatten=_;rw [List.flatten_cons,List.replicate_succ];show _++Rl n [.sc (.int .u64 0)]=PV.sc (.int .u64 0)::Af .u64 (List.replicate n 0);rw [ih];rfl
theorem DX {l:List Int}(hl:l.length<=1000000)(hfu:100<=fu)(hf:l.length<fu):Ae (CX xs) Tryz.prog fu (d+1) Tw [.lst false 1 l.length (Af .u8 l)]=some ⟨[.own 1 (l.length / 8) (Af .u64 (Fm l))],[]⟩:=by
 rw [GP]
 have w:wrap .i64 (Int.tdiv (l.length:Int) 8)=((l.length / 8:Nat):Int):=by
  rw [Int.tdiv_eq_ediv_of_nonneg (by omega),Aj (by omega) (by omega)]
  omega
 have lp:=FI (xs:=xs) (fu:=fu) (d:=d) (n:=l.length) (c:=Af .u8 l) hl hfu (l.length / 8) 0 fu (by omega) (by omega)
 have e0:wl l 0=List.replicate (l.length / 8) 0:=by unfold wl;simp
 rw [e0] at lp;simp (disch:=omega) only [B4,w,Gm,HO,Int.le_refl];exact lp
def JP (l:List Int):Option Ky:=if l.length=9∧Dg (l.getD 0 0)=false then some ⟨l.getD 0 0,Qs (l.drop 1) 0⟩ else none
def XP (o:Option Ky):List PV:=match o with|some k=>[.agg k.cells,.sc (.int .i64 0)]|none=>[.agg (Ky.mk 0 0).cells,.sc (.int .i64 2)]
theorem Ad2 (hfu:1000<=fu){l:List Int}(hb:J4 l):Ae (CX xs) Tryz.prog fu (d+2) Nd [.lst false 1 l.length (Af .u8 l)]=some ⟨XP (JP l),[]⟩:=by
 refine (Wo fu (d+1) l.length (Af .u8 l)).trans ?_;unfold JP;by_cases h9:l.length=9
 ·obtain ⟨x,hx⟩:∃x,l[0]?=some x:=⟨_,List.getElem?_eq_getElem (by omega)⟩
  have hxb:=hb x (List.mem_of_getElem? hx);have wx:wrap .i64 x=x:=Aj (by omega) (by omega)
  have gx:l.getD 0 0=x:=by rw [List.getD_eq_getElem?_getD,hx];rfl
  have h1:=Sz (xs:=xs) (fu:=fu) (d:=d) x;rw [gx];cases c1:Dg x
  ·rw [c1] at h1;have hdl:(l.drop 1).length=8:=by rw [List.length_drop];omega
   have dw:=DX (xs:=xs) (fu:=fu) (d:=d) (l:=l.drop 1) (by omega) (by omega) (by omega)
   rw [hdl] at dw;have hat:(Af .u64 (Fm (l.drop 1))).getD 0 .top=.sc (.int .u64 (Qs (l.drop 1) 0)):=Xj (by unfold Fm;rw [hdl];rfl)
   have e8:9-1=8:=rfl;have tk:List.take 8 (Af .u8 (l.drop 1))=Af .u8 (l.drop 1):=Sl (by rw [Ak];omega)
   rw [B7 ⟨h9,rfl⟩,h9];simp (disch:=omega) only [B4,Fs,Xj hx,wx,h1,Cb,H6,e8,tk,dw,hat];rfl
  ·rw [c1] at h1;rw [A7 (by simp),h9]
   simp (disch:=omega) only [B4,Fs,Xj hx,wx,h1];rfl
 ·rw [A7 (by simp [h9])]
  simp (disch:=omega) only [Fs];rw [A7 (by omega)]
  rfl
def sgD (l:List Int):Option Sg:=
 if 2<=l.length∧Dg (l.getD 1 0)=false∧Ke (l.getD 0 0) (l.getD 1 0)=false∧(l.length:Int)=2+8*(18+l.getD 1 0) then some ⟨l.getD 0 0,Fm ((l.drop 2).take 144),Fm (l.drop 146)⟩ else none
def Sg.owned (s:Sg):List PV:=[.sc (.int .i64 s.leaf),.own 1 s.chains.length (Af .u64 s.chains),.own 1 s.path.length (Af .u64 s.path)]
def Ab3 (o:Option Sg):List PV:=match o with|some s=>[.agg s.owned,.sc (.int .i64 0)]|none=>[.agg (Sg.mk 0 [] []).owned,.sc (.int .i64 2)]
theorem Pn (l:List Int):(Fm l).length=l.length / 8:=by simp [Fm]
theorem Afa (hfu:1000<=fu){l:List Int}(hb:J4 l):Ae (CX xs) Tryz.prog fu (d+2) Ic [.lst false 1 l.length (Af .u8 l)]=some ⟨Ab3 (sgD l),[]⟩:=by
 refine (Px fu (d+1) l.length (Af .u8 l)).trans ?_;unfold sgD;by_cases h2:2<=l.length
 ·obtain ⟨x,hx⟩:∃x,l[0]?=some x:=⟨_,List.getElem?_eq_getElem (by omega)⟩
  obtain ⟨y,hy⟩:∃y,l[1]?=some y:=⟨_,List.getElem?_eq_getElem (by omega)⟩
  have hxb:=hb x (List.mem_of_getElem? hx);have hyb:=hb y (List.mem_of_getElem? hy);have wx:wrap .i64 x=x:=Aj (by omega) (by omega)
  have wy:wrap .i64 y=y:=Aj (by omega) (by omega)
  have gx:l.getD 0 0=x:=by rw [List.getD_eq_getElem?_getD,hx];rfl
  have gy:l.getD 1 0=y:=by rw [List.getD_eq_getElem?_getD,hy];rfl
  have h1:=Sz (xs:=xs) (fu:=fu) (d:=d) y;have ho:=O4 (xs:=xs) (fu:=fu) (d:=d) x y (by omega)
  have w1:wrap .i64 (18+y)=18+y:=Aj (by omega) (by omega)
  have w2:wrap .i64 (8*(18+y))=8*(18+y):=Aj (by omega) (by omega)
  have w3:wrap .i64 (2+8*(18+y))=2+8*(18+y):=Aj (by omega) (by omega)
  rw [gx,gy];cases c1:Dg y
  ·rw [c1] at h1;cases c2:Ke x y
   ·rw [c2] at ho;by_cases c3:(l.length:Int)=2+8*(18+y)
    ·have hy4:=H4 c1;have d1:=DX (xs:=xs) (fu:=fu) (d:=d) (l:=(l.drop 2).take 144) (by rw [List.length_take,List.length_drop];omega) (by omega) (by rw [List.length_take,List.length_drop];omega)
     have d2:=DX (xs:=xs) (fu:=fu) (d:=d) (l:=l.drop 146) (by rw [List.length_drop];omega) (by omega) (by rw [List.length_drop];omega)
     have l1:((l.drop 2).take 144).length=144:=by rw [List.length_take,List.length_drop];omega
     have l2:(l.drop 146).length=l.length-146:=List.length_drop;rw [l1] at d1;have L1:(Af .u64 (Fm ((l.drop 2).take 144))).length=18:=by rw [Ak,Pn,l1]
     have L2:(Af .u64 (Fm (l.drop 146))).length=(l.length-146) / 8:=by rw [Ak,Pn,l2]
     rw [l2] at d2;have t1:List.take (144 / 8) (Af .u64 (Fm ((l.drop 2).take 144)))=Af .u64 (Fm ((l.drop 2).take 144)):=Sl (by omega)
     have t2:List.take ((l.length-146) / 8) (Af .u64 (Fm (l.drop 146)))=Af .u64 (Fm (l.drop 146)):=Sl (by omega)
     have t3:List.take (l.length-146) (l.drop 146)=l.drop 146:=Sl (by omega)
     rw [B7 ⟨h2,rfl,rfl,c3⟩];simp (disch:=omega) only [B4,Fs,Xj hx,Xj hy,wx,wy,h1,ho,w1,w2,w3,Cb,H6,Ob,d1,d2,t3,L1,L2,t1,t2];rw [B7 c3];simp only [Ab3,Sg.owned,Pn,l1,l2]
    ·rw [A7 (by simp [c3])]
     simp (disch:=omega) only [B4,Fs,Xj hx,Xj hy,wx,wy,h1,ho,w1,w2,w3];rw [A7 c3];rfl
   ·rw [c2] at ho;rw [A7 (by simp)]
    simp (disch:=omega) only [B4,Fs,Xj hx,Xj hy,wx,wy,h1,ho];rfl
  ·rw [c1] at h1;rw [A7 (by simp)]
   simp (disch:=omega) only [B4,Fs,Xj hx,Xj hy,wx,wy,h1];rfl
 ·rw [A7 (by simp [h2])]
  simp (disch:=omega) only [B4];rfl
end
end
section
open Go.IntKind (wrap)
def EH (seed leaf chain:Int):Int:=Ajk seed 1 (A5 [wrap .u64 leaf,wrap .u64 chain])
def Xa (seed leaf:Int)(c:Nat):Int:=Qv leaf c 15 0 (EH seed leaf c)
def Hx (seed leaf:Int):Int:=Xs leaf ((List.range 18).map (Xa seed leaf))
def Vf (seed leaf m:Int)(c:Nat):Int:=Qv leaf c (dg m c).toNat 0 (EH seed leaf c)
def Io (seed leaf m:Int):List Int:=(List.range 18).map (Vf seed leaf m)
def Bx (seed:Int):Nat->Int->Int
 |0,i=>Hx seed i
 |l+1,i=>Ls ((l+1:Nat):Int) (Bx seed l (2*i)) (Bx seed l (2*i+1))
def Gs (seed:Int)(h:Int):Ky:=if Dg h=true then ⟨0,0⟩ else ⟨h,Bx seed h.toNat 0⟩
def Fi (leaf:Int)(k:Nat):Int:=Dx .i64 (D6 .i64 leaf k) 1
def AV (seed:Int)(h leaf m:Int):Option Sg:=if Dg h=true then none else if Ke leaf h=true then none else some ⟨leaf,Io seed leaf m,(List.range h.toNat).map fun k=>Bx seed k (Fi leaf k)⟩
def QR (o:Option Sg):List PV:=match o with|some s=>[.agg s.owned,.sc (.int .i64 0)]|none=>[.agg (Sg.mk 0 [] []).owned,.sc (.int .i64 9)]
end
section
open Go.IntKind (wrap)
set_option maxRecDepth 20000
section
variable {fu d:Nat} {xs:FuncId->Option (List PV->Option Az)}
theorem Aql {l:List Int}(hb:J4 l)(hl:l.length<=1099511627776)(hfu:100<=fu)(hf:l.length<fu)(key dom:Int):Ae (CX xs) Tryz.prog fu (d+5) AQ [.sc (.int .u64 key),.sc (.int .i64 dom),.lst false 1 l.length (Af .u8 l)]=some ⟨[.sc (.int .u64 (Ajk key dom l))],[]⟩:=by
 rw [SE];have s:=Ahp (xs:=xs) (fu:=fu) (d:=d) hb hl hfu hf key (wrap .u64 (1+wrap .u64 dom));simp only [B4,s];rfl
theorem PW (hfu:1000<=fu)(seed leaf chain:Int):Ae (CX xs) Tryz.prog fu (d+6) Sf [.sc (.int .u64 seed),.sc (.int .i64 leaf),.sc (.int .i64 chain)]=some ⟨[.sc (.int .u64 (EH seed leaf chain))],[]⟩:=by
 have wd:Ae (CX xs) Tryz.prog fu (d+5) Fj [.lst false 1 2 [.sc (.int .u64 (wrap .u64 leaf)),.sc (.int .u64 (wrap .u64 chain))]]=_:=Ou (ws:=[wrap .u64 leaf,wrap .u64 chain]) (by simp) (by omega) (by simp;omega)
 have hs:=Aql (xs:=xs) (fu:=fu) (d:=d) (R9 [wrap .u64 leaf,wrap .u64 chain]) (by rw [Di];simp) (by omega) (by rw [Di];simp;omega) seed 1
 have L:=Ak .u8 (A5 [wrap .u64 leaf,wrap .u64 chain]);rw [DK];unfold EH;generalize A5 [wrap .u64 leaf,wrap .u64 chain]=W at wd hs L ⊢;simp (disch:=omega) only [B4,wd,Cb,Bw,Fa,Kc,L,hs]
def pl (g:Nat->Int)(i:Nat):List Int:=(List.range i).map g++List.replicate (18-i) 0
theorem XU (g:Nat->Int){i:Nat}(h:i<=18):(pl g i).length=18:=by simp [pl];omega
theorem Ahk (g:Nat->Int){i:Nat}(h:i<18):(pl g i).set i (g i)=pl g (i+1):=by
 unfold pl;rw [List.set_append_right _ _ (by simp),List.length_map,List.length_range,Nat.sub_self,show 18-i=(18-(i+1))+1 by omega,List.replicate_succ,List.set_cons_zero,List.range_succ,List.map_append,XE]
 rfl
theorem Al1 (g:Nat->Int):pl g 18=(List.range 18).map g:=by simp [pl]
theorem FY {a0 a1 seed leaf:Int}(hfu:1000<=fu):∀(k i nn:Nat),i+k=18->k<nn ->
  Ev fu (Ae (CX xs) Tryz.prog fu (d+6)) a0 a1 nn seed leaf i (Af .u64 (pl (Xa seed leaf) i))=Ev fu (Ae (CX xs) Tryz.prog fu (d+6)) a0 a1 (nn-k) seed leaf 18 (Af .u64 (pl (Xa seed leaf) 18))
 |_,_,0,_,h=>by omega
 |0,i,nn+1,hi,hn=>by
  have e:i=18:=by omega
  subst e;rfl
 |k+1,i,nn+1,hi,hn=>by
  have ih:=FY (a0:=a0) (a1:=a1) (seed:=seed) (leaf:=leaf) hfu k (i+1) nn (by omega) (by omega)
  have w:wrap .i64 ((i:Int)+1)=((i+1:Nat):Int):=by rw [Aj (by omega) (by omega)];omega
  have sc:=PW (xs:=xs) (fu:=fu) (d:=d) hfu seed leaf i;have rn:=Aah (xs:=xs) (fu:=fu) (d:=d) (leaf:=leaf) (chain:=i) hfu 15 0 15 (EH seed leaf i) (by omega) (by omega) (by omega)
  have ev:Qv leaf i 15 0 (EH seed leaf i)=Xa seed leaf i:=rfl;rw [ev] at rn;have L:(Af .u64 (pl (Xa seed leaf) i)).length=18:=by rw [Ak,XU _ (by omega)]
  have hset:Bb (Af .u64 (pl (Xa seed leaf) i)) [.sc (.int .u64 (Xa seed leaf i))] i=Af .u64 (pl (Xa seed leaf) (i+1)):=by
   rw [Ey (by omega),Jz,Ahk _ (by omega)]
  rw [show nn+1-(k+1)=nn-k by omega,←ih,Np]
  simp (disch:=omega) only [B4,Gm,Cb,Bw,sc,rn,L,hset,w]
theorem ZN (hfu:1000<=fu){a0 a1 seed leaf:Int}{nn:Nat}{E:List Int}(hE:E.length=18):
  Ev fu (Ae (CX xs) Tryz.prog fu (d+6)) a0 a1 (nn+1) seed leaf 18 (Af .u64 E)=some ⟨[.sc (.int .u64 (Xs leaf E))],[]⟩:=by
 match E,hE with
 |[e0,e1,e2,e3,e4,e5,e6,e7,e8,e9,e10,e11,e12,e13,e14,e15,e16,e17],hE=>
  have cb:=KP (xs:=xs) (fu:=fu) (d:=d) hfu leaf hE;have hc:Af .u64 [e0,e1,e2,e3,e4,e5,e6,e7,e8,e9,e10,e11,e12,e13,e14,e15,e16,e17]=[.sc (.int .u64 e0),.sc (.int .u64 e1),.sc (.int .u64 e2),.sc (.int .u64 e3),.sc (.int .u64 e4),.sc (.int .u64 e5),.sc (.int .u64 e6),.sc (.int .u64 e7),.sc (.int .u64 e8),.sc (.int .u64 e9),.sc (.int .u64 e10),.sc (.int .u64 e11),.sc (.int .u64 e12),.sc (.int .u64 e13),.sc (.int .u64 e14),.sc (.int .u64 e15),.sc (.int .u64 e16),.sc (.int .u64 e17)]:=rfl;rw [hc] at cb ⊢;generalize Xs leaf [e0,e1,e2,e3,e4,e5,e6,e7,e8,e9,e10,e11,e12,e13,e14,e15,e16,e17]=R at cb ⊢;rw [Np,Dt _ _ _ (by omega)]
  simp (disch:=omega) only [B4,Wz,Wr,List.getD_cons_zero,List.getD_cons_succ,cb]
theorem Afd (hfu:1000<=fu)(seed leaf:Int):Ae (CX xs) Tryz.prog fu (d+7) Lm [.sc (.int .u64 seed),.sc (.int .i64 leaf)]=some ⟨[.sc (.int .u64 (Hx seed leaf))],[]⟩:=by
 rw [DV];have lp:=FY (xs:=xs) (fu:=fu) (d:=d) (a0:=seed) (a1:=leaf) (seed:=seed) (leaf:=leaf) hfu 18 0 fu (by omega) (by omega)
 obtain ⟨f',hf'⟩:∃f',fu-18=f'+1:=⟨fu-19,by omega⟩
 rw [hf'] at lp;refine Eq.trans lp ?_;rw [Al1];exact ZN hfu (by simp)
theorem OV {a0 a1 a2:Int}{seed leaf m:Int}(hfu:1000<=fu)(g:Nat->Int)(hg:∀k,g k=dg m k):∀(k i nn:Nat),i+k=18->k<nn ->
  Is fu (Ae (CX xs) Tryz.prog fu (d+6)) a0 a1 a2 nn seed leaf (g 0) (g 1) (g 2) (g 3) (g 4) (g 5) (g 6) (g 7) (g 8) (g 9) (g 10) (g 11) (g 12) (g 13) (g 14) (g 15) (g 16) (g 17) i (Af .u64 (pl (Vf seed leaf m) i)) =
   some ⟨[.own 1 18 (Af .u64 (Io seed leaf m))],[]⟩
 |_,_,0,_,h=>by omega
 |0,i,nn+1,hi,hn=>by
  have e:i=18:=by omega
  subst e;have L:(Af .u64 (pl (Vf seed leaf m) 18)).length=18:=by rw [Ak,XU _ (by omega)]
  have T:List.take 18 (Af .u64 (pl (Vf seed leaf m) 18))=Af .u64 (Io seed leaf m):=by rw [Sl (by omega),Al1];rfl
  rw [P4,Dt _ _ _ (by omega)]
  simp (disch:=omega) only [B4,L,T]
 |k+1,i,nn+1,hi,hn=>by
  have ih:=OV (a0:=a0) (a1:=a1) (a2:=a2) (seed:=seed) (leaf:=leaf) (m:=m) hfu g hg k (i+1) nn (by omega) (by omega)
  have hb:=V8 m i;have hgi:=Al2 g (i:=i) (by omega)
  have w:wrap .i64 ((i:Int)+1)=((i+1:Nat):Int):=by rw [Aj (by omega) (by omega)];omega
  have sc:=PW (xs:=xs) (fu:=fu) (d:=d) hfu seed leaf i;have rn:=Aah (xs:=xs) (fu:=fu) (d:=d) (leaf:=leaf) (chain:=i) hfu (dg m i).toNat 0 (g i) (EH seed leaf i) (by rw [hg];omega) (by omega) (by rw [hg];omega)
  have ev:Qv leaf i (dg m i).toNat 0 (EH seed leaf i)=Vf seed leaf m i:=rfl;rw [ev] at rn;have L:(Af .u64 (pl (Vf seed leaf m) i)).length=18:=by rw [Ak,XU _ (by omega)]
  have hset:Bb (Af .u64 (pl (Vf seed leaf m) i)) [.sc (.int .u64 (Vf seed leaf m i))] i=Af .u64 (pl (Vf seed leaf m) (i+1)):=by
   rw [Ey (by omega),Jz,Ahk _ (by omega)]
  rw [P4];simp (disch:=omega) only [B4,Gm,Cb,Bw,hgi,sc,rn,L,hset,w];exact ih
theorem Aj3 (hfu:1000<=fu)(seed leaf m:Int):Ae (CX xs) Tryz.prog fu (d+7) Ok [.sc (.int .u64 seed),.sc (.int .i64 leaf),.sc (.int .u64 m)]=some ⟨[.own 1 18 (Af .u64 (Io seed leaf m))],[]⟩:=by
 rw [LZ];have dq:=NN (xs:=xs) (fu:=fu) (d:=d+5) hfu m;have hD:Af .i64 (PD m)=[.sc (.int .i64 (dg m 0)),.sc (.int .i64 (dg m 1)),.sc (.int .i64 (dg m 2)),.sc (.int .i64 (dg m 3)),.sc (.int .i64 (dg m 4)),.sc (.int .i64 (dg m 5)),.sc (.int .i64 (dg m 6)),.sc (.int .i64 (dg m 7)),.sc (.int .i64 (dg m 8)),.sc (.int .i64 (dg m 9)),.sc (.int .i64 (dg m 10)),.sc (.int .i64 (dg m 11)),.sc (.int .i64 (dg m 12)),.sc (.int .i64 (dg m 13)),.sc (.int .i64 (dg m 14)),.sc (.int .i64 (dg m 15)),.sc (.int .i64 (dg m 16)),.sc (.int .i64 (dg m 17))]:=rfl;rw [hD] at dq;simp only [B4,dq];exact OV (fu:=fu) (d:=d) (a0:=seed) (a1:=leaf) (a2:=m) hfu (dg m) (fun _=>rfl) 18 0 fu (by omega) (by omega)
end
end
section
open Go.IntKind (wrap)
def KO (h leaf:Int):Bool:=Dg h||Ke leaf h
def tkL (h leaf:Int):Int:=if KO h leaf=true then 0 else leaf
def tkC (seed h leaf m:Int):List Int:=if KO h leaf=true then [] else Io seed leaf m
def tkP (seed h leaf:Int):List Int:=if KO h leaf=true then [] else (List.range h.toNat).map fun k=>Bx seed k (Fi leaf k)
def tkE (h leaf:Int):Int:=if KO h leaf=true then 9 else 0
def An2 (args:List PV):Option Az:=
 match args with
 |[.sc (.int .u64 seed),.sc (.int .i64 h),.sc (.int .i64 leaf),.sc (.int .u64 m)]=>
  some ⟨[.agg [.sc (.int .i64 (tkL h leaf)),.lst false 1 (tkC seed h leaf m).length (Af .u64 (tkC seed h leaf m)),.lst false 1 (tkP seed h leaf).length (Af .u64 (tkP seed h leaf))],.sc (.int .i64 (tkE h leaf))],[]⟩
 |_=>none
def Ks (f:FuncId):Option (List PV->Option Az):=
 bif Nat.beq f 56 then some IJ else
 bif Nat.beq f 133 then some Vy else
 bif Nat.beq f 37 then some An2 else
 bif Nat.beq f 1000000 then some (fun _=>none) else none
abbrev C0:Hh:=CX Ks
end
section
open Go.IntKind (wrap)
set_option maxRecDepth 100000
abbrev Mi:FuncId:=38
theorem Vl (fu d:Nat)(a0:Int):Ae C0 Tryz.prog fu (d+1) Mi [.sc (.int .i64 a0)]=(fun (call:Ai)=>Ba (decide (a0>=0)) (some (Az.mk [.sc (.bool (decide (a0<=4)))] [])) (some (Az.mk [.sc (.bool false)] []))) (Ae C0 Tryz.prog fu d):=by kernel_rfl
abbrev M6:FuncId:=95
noncomputable def F4 (fu:Nat)(call:Ai)(a0:Int)(nn:Nat)(y0:Int)(y1:Nat)(y2 y3:Int)(y4:List PV):Option Az:=Cz CB Tryz.prog fu call 95 Tryz.f95 (Bq Tryz.f95) [.sc (.int .u64 a0)] [.r,.r,.r,.l,.r,.l] nn ⟨lk [(0,(.sc (.int .u64 y0))),(3,(.view 3 1 0 y1)),(4,(.sc (.int .i64 y2))),(5,(.sc (.int .i64 y3)))],B5 [(3,(.ar false y4))]⟩
theorem J0 (fu:Nat)(call:Ai)(a0:Int)(nn:Nat)(y0:Int)(y1:Nat)(y2 y3:Int)(y4:List PV):F4 fu call a0 (nn+1) y0 y1 y2 y3 y4=(Ba (decide (y3>=0)) (Aa (wrap .i64 (4*y3)) fun x1=>Aa (wrap .u64 x1) fun x2=>Ao (decide (0<=x2))<|Aa (D6 .u64 y0 x2) fun x3=>Aa (Ru .u64 x3 15) fun x4=>Aa (wrap .i64 x4) fun x5=>Ao (decide (y1*1<=y4.length)&&true&&decide ((y1+1)*8<=1099511627776)&&decide (y1+1<=1099511627776))<|Aa (y1+1) fun x6=>Aa (List.take (y1*1) y4++[.sc (.int .i64 x5)]) fun x7=>Aa (wrap .i64 (15-x5)) fun x8=>Aa (wrap .i64 (y2+x8)) fun x9=>Aa (wrap .i64 (y3-1)) fun Cr=>F4 fu call a0 (nn) (y0) x6 x9 Cr x7) (Aa (wrap .i64 (Int.tdiv y2 16)) fun C5=>Aa (Int.tmod y2 16) fun Dw=>Ao (decide (y1*1<=y4.length)&&true&&decide ((y1+2)*8<=1099511627776)&&decide (y1+2<=1099511627776))<|Aa (y1+2) fun D5=>Aa (List.take (y1*1) y4++[.sc (.int .i64 C5),.sc (.int .i64 Dw)]) fun Ds=>Ao (decide (D5*1<=Ds.length))<|some (Az.mk [.own 1 D5 (List.take (D5*1) Ds)] []))):=by kernel_rfl
theorem Wv (fu d:Nat)(a0:Int):Ae C0 Tryz.prog fu (d+1) M6 [.sc (.int .u64 a0)]=(fun (call:Ai)=>F4 fu call a0 (fu) (a0) 0 0 15 ([])) (Ae C0 Tryz.prog fu d):=by kernel_rfl
abbrev Qr:FuncId:=96
noncomputable def G5 (fu:Nat)(call:Ai)(a0 a1:Int)(a2 a3 a4:Int)(nn:Nat)(y0 y1:Int)(y2 y3 y4:Int):Option Az:=Cz CB Tryz.prog fu call 96 Tryz.f96 (Bq Tryz.f96) [.sc (.int .i64 a0),.sc (.int .i64 a1),.sc (.int .i64 a2),.sc (.int .i64 a3),.sc (.int .u64 a4)] [.r,.l,.r,.l] nn ⟨lk [(0,(.sc (.int .i64 y0))),(1,(.sc (.int .i64 y1))),(3,(.sc (.int .i64 y2))),(4,(.sc (.int .u64 y3))),(11,(.sc (.int .i64 y4)))],B5 []⟩
theorem L6 (fu:Nat)(call:Ai)(a0 a1:Int)(a2 a3 a4:Int)(nn:Nat)(y0 y1:Int)(y2 y3 y4:Int):G5 fu call a0 a1 a2 a3 a4 (nn+1) y0 y1 y2 y3 y4=(Aa (if 15<y2 then 15 else y2) fun x2=>Ba (decide (y4<x2)) (Aa (wrap .u64 y0) fun x3=>Aa (wrap .u64 y1) fun x4=>Aa (wrap .u64 y4) fun x5=>Ag (call 84 [.lst false 1 4 [.sc (.int .u64 x3),.sc (.int .u64 x4),.sc (.int .u64 x5),.sc (.int .u64 y3)]]) fun x6 x7=>Ac x7<|Ab x6 fun x8 x9=>Ep 1 x8 fun Cr C5=>Ac x9<|Ao (decide (0+Cr*1<=C5.length))<|Ag (call 34 [.sc (.int .i64 1),.lst false 1 Cr (List.take (Cr*1) (List.drop 0 C5))]) fun Dw D5=>Ac D5<|Ab Dw fun Ds Eg=>Ad .u64 Ds fun En=>Ac Eg<|Aa (wrap .i64 (y4+1)) fun E9=>G5 fu call a0 a1 a2 a3 a4 (nn) (y0) (y1) (y2) En E9) (some (Az.mk [.sc (.int .u64 y3)] []))):=by kernel_rfl
theorem Zv (fu d:Nat)(a0 a1:Int)(a2 a3 a4:Int):Ae C0 Tryz.prog fu (d+1) Qr [.sc (.int .i64 a0),.sc (.int .i64 a1),.sc (.int .i64 a2),.sc (.int .i64 a3),.sc (.int .u64 a4)]=(fun (call:Ai)=>Aa (if a2<0 then 0 else a2) fun x1=>G5 fu call a0 a1 a2 a3 a4 (fu) (a0) (a1) (a3) (a4) x1) (Ae C0 Tryz.prog fu d):=by kernel_rfl
abbrev Mp:FuncId:=97
theorem Vv (fu d:Nat)(a0 a1 a2:Int):Ae C0 Tryz.prog fu (d+1) Mp [.sc (.int .u64 a0),.sc (.int .i64 a1),.sc (.int .i64 a2)]=(fun (call:Ai)=>Aa (wrap .u64 a1) fun x1=>Aa (wrap .u64 a2) fun x2=>Ag (call 84 [.lst false 1 2 [.sc (.int .u64 x1),.sc (.int .u64 x2)]]) fun x3 x4=>Ac x4<|Ab x3 fun x5 x6=>Ep 1 x5 fun x7 x8=>Ac x6<|Ao (decide (0+x7*1<=x8.length))<|Ag (call 88 [.sc (.int .u64 a0),.sc (.int .i64 1),.lst false 1 x7 (List.take (x7*1) (List.drop 0 x8))]) fun x9 Cr=>Ac Cr<|Ab x9 fun C5 Dw=>Ad .u64 C5 fun D5=>Ac Dw<|some (Az.mk [.sc (.int .u64 D5)] [])) (Ae C0 Tryz.prog fu d):=by kernel_rfl
abbrev Pj:FuncId:=109
theorem Ze (fu d:Nat)(a0:Int)(a1n:Nat)(a1:List PV):Ae C0 Tryz.prog fu (d+1) Pj [.sc (.int .i64 a0),.lst false 1 a1n a1]=(fun (call:Ai)=>Aa (wrap .u64 a0) fun x1=>Ag (call 84 [.lst false 1 1 [.sc (.int .u64 x1)]]) fun x2 x3=>Ac x3<|Ab x2 fun x4 x5=>Ep 1 x4 fun x6 x7=>Ac x5<|Ag (call 84 [.lst false 1 a1n a1]) fun x8 x9=>Ac x9<|Ab x8 fun Cr C5=>Ep 1 Cr fun Dw D5=>Ac C5<|Ao (decide (0+Dw*1<=D5.length))<|Ao (decide (x6*1<=x7.length)&&decide (List.length (List.take (Dw*1) (List.drop 0 D5))=Dw*1)&&decide ((x6+Dw)*1<=1099511627776)&&decide (x6+Dw<=1099511627776))<|Aa (x6+Dw) fun Ds=>Aa (List.take (x6*1) x7++List.take (Dw*1) (List.drop 0 D5)) fun Eg=>Ao (decide (0+Ds*1<=Eg.length))<|Ag (call 34 [.sc (.int .i64 2),.lst false 1 Ds (List.take (Ds*1) (List.drop 0 Eg))]) fun En E9=>Ac E9<|Ab En fun Fq Fv=>Ad .u64 Fq fun F5=>Ac Fv<|some (Az.mk [.sc (.int .u64 F5)] [])) (Ae C0 Tryz.prog fu d):=by kernel_rfl
abbrev Pa:FuncId:=78
noncomputable def Gj (fu:Nat)(call:Ai)(a0 a1:Int)(nn:Nat)(y0 y1:Int)(y2:Nat)(y3:Int)(y4:List PV):Option Az:=Cz CB Tryz.prog fu call 78 Tryz.f78 (Bq Tryz.f78) [.sc (.int .u64 a0),.sc (.int .i64 a1)] [.r,.r,.l,.r,.l] nn ⟨lk [(0,(.sc (.int .u64 y0))),(1,(.sc (.int .i64 y1))),(5,(.view 5 1 0 y2)),(6,(.sc (.int .i64 y3)))],B5 [(5,(.ar false y4))]⟩
theorem Kk (fu:Nat)(call:Ai)(a0 a1:Int)(nn:Nat)(y0 y1:Int)(y2:Nat)(y3:Int)(y4:List PV):Gj fu call a0 a1 (nn+1) y0 y1 y2 y3 y4=(Ba (decide (y3<18)) (Ag (call 97 [.sc (.int .u64 y0),.sc (.int .i64 y1),.sc (.int .i64 y3)]) fun x1 x2=>Ac x2<|Ab x1 fun x3 x4=>Ad .u64 x3 fun x5=>Ac x4<|Ag (call 96 [.sc (.int .i64 y1),.sc (.int .i64 y3),.sc (.int .i64 0),.sc (.int .i64 15),.sc (.int .u64 x5)]) fun x6 x7=>Ac x7<|Ab x6 fun x8 x9=>Ad .u64 x8 fun Cr=>Ac x9<|Ao (decide (y2*1<=y4.length)&&true&&decide ((y2+1)*8<=1099511627776)&&decide (y2+1<=1099511627776))<|Aa (y2+1) fun C5=>Aa (List.take (y2*1) y4++[.sc (.int .u64 Cr)]) fun Dw=>Aa (wrap .i64 (y3+1)) fun D5=>Gj fu call a0 a1 (nn) (y0) (y1) C5 D5 Dw) (Ao (decide (0+y2*1<=y4.length))<|Ag (call 109 [.sc (.int .i64 y1),.lst false 1 y2 (List.take (y2*1) (List.drop 0 y4))]) fun Ds Eg=>Ac Eg<|Ab Ds fun En E9=>Ad .u64 En fun Fq=>Ac E9<|some (Az.mk [.sc (.int .u64 Fq)] []))):=by kernel_rfl
theorem Yl (fu d:Nat)(a0 a1:Int):Ae C0 Tryz.prog fu (d+1) Pa [.sc (.int .u64 a0),.sc (.int .i64 a1)]=(fun (call:Ai)=>Gj fu call a0 a1 (fu) (a0) (a1) 0 0 ([])) (Ae C0 Tryz.prog fu d):=by kernel_rfl
abbrev J2:FuncId:=64
noncomputable def Eu (fu:Nat)(call:Ai)(a0 a1 a2:Int)(nn:Nat)(y0 y1:Int)(y2 y3:Nat)(y4:Int)(y5 y6:List PV):Option Az:=Cz CB Tryz.prog fu call 64 Tryz.f64 (Bq Tryz.f64) [.sc (.int .u64 a0),.sc (.int .i64 a1),.sc (.int .u64 a2)] [.r,.r,.r,.l,.r,.l] nn ⟨lk [(0,(.sc (.int .u64 y0))),(1,(.sc (.int .i64 y1))),(7,(.view 7 1 0 y2)),(8,(.view 8 1 0 y3)),(9,(.sc (.int .i64 y4)))],B5 [(7,(.ar false y5)),(8,(.ar false y6))]⟩
theorem H9 (fu:Nat)(call:Ai)(a0 a1 a2:Int)(nn:Nat)(y0 y1:Int)(y2 y3:Nat)(y4:Int)(y5 y6:List PV):Eu fu call a0 a1 a2 (nn+1) y0 y1 y2 y3 y4 y5 y6=(Ba (decide (y4<18)) (Ao (decide (0<=y4)&&decide (y4<(↑y2:Int)))<|Ad .i64 (List.getD y5 (0+Int.toNat y4*1) .top) fun x7=>Ag (call 97 [.sc (.int .u64 y0),.sc (.int .i64 y1),.sc (.int .i64 y4)]) fun x8 x9=>Ac x9<|Ab x8 fun Cr C5=>Ad .u64 Cr fun Dw=>Ac C5<|Ag (call 96 [.sc (.int .i64 y1),.sc (.int .i64 y4),.sc (.int .i64 0),.sc (.int .i64 x7),.sc (.int .u64 Dw)]) fun D5 Ds=>Ac Ds<|Ab D5 fun Eg En=>Ad .u64 Eg fun E9=>Ac En<|Ao (decide (y3*1<=y6.length)&&true&&decide ((y3+1)*8<=1099511627776)&&decide (y3+1<=1099511627776))<|Aa (y3+1) fun Fq=>Aa (List.take (y3*1) y6++[.sc (.int .u64 E9)]) fun Fv=>Aa (wrap .i64 (y4+1)) fun F5=>Eu fu call a0 a1 a2 (nn) (y0) (y1) (y2) Fq F5 (y5) Fv) (Ao (decide (y3*1<=y6.length))<|some (Az.mk [.own 1 y3 (List.take (y3*1) y6)] []))):=by kernel_rfl
theorem Ss (fu d:Nat)(a0 a1 a2:Int):Ae C0 Tryz.prog fu (d+1) J2 [.sc (.int .u64 a0),.sc (.int .i64 a1),.sc (.int .u64 a2)]=(fun (call:Ai)=>Ag (call 95 [.sc (.int .u64 a2)]) fun x1 x2=>Ac x2<|Ab x1 fun x3 x4=>Ep 1 x3 fun x5 x6=>Ac x4<|Eu fu call a0 a1 a2 (fu) (a0) (a1) x5 0 0 x6 ([])) (Ae C0 Tryz.prog fu d):=by kernel_rfl
abbrev Lt:FuncId:=79
theorem Vw (fu d:Nat)(a0 a1 a2:Int):Ae C0 Tryz.prog fu (d+1) Lt [.sc (.int .i64 a0),.sc (.int .u64 a1),.sc (.int .u64 a2)]=(fun (call:Ai)=>Aa (wrap .u64 a0) fun x1=>Ag (call 84 [.lst false 1 3 [.sc (.int .u64 x1),.sc (.int .u64 a1),.sc (.int .u64 a2)]]) fun x2 x3=>Ac x3<|Ab x2 fun x4 x5=>Ep 1 x4 fun x6 x7=>Ac x5<|Ao (decide (0+x6*1<=x7.length))<|Ag (call 34 [.sc (.int .i64 3),.lst false 1 x6 (List.take (x6*1) (List.drop 0 x7))]) fun x8 x9=>Ac x9<|Ab x8 fun Cr C5=>Ad .u64 Cr fun Dw=>Ac C5<|some (Az.mk [.sc (.int .u64 Dw)] [])) (Ae C0 Tryz.prog fu d):=by kernel_rfl
abbrev Ox:FuncId:=39
theorem O7 (fu d:Nat)(a0 a1 a2:Int):Ae C0 Tryz.prog fu (d+1) Ox [.sc (.int .u64 a0),.sc (.int .i64 a1),.sc (.int .i64 a2)]=(fun (call:Ai)=>Ba (a1==0) (Ag (call 78 [.sc (.int .u64 a0),.sc (.int .i64 a2)]) fun x1 x2=>Ac x2<|Ab x1 fun x3 x4=>Ad .u64 x3 fun x5=>Ac x4<|some (Az.mk [.sc (.int .u64 x5)] [])) (Aa (wrap .i64 (a1-1)) fun x6=>Aa (wrap .i64 (2*a2)) fun x7=>Ag (call 39 [.sc (.int .u64 a0),.sc (.int .i64 x6),.sc (.int .i64 x7)]) fun x8 x9=>Ac x9<|Ab x8 fun Cr C5=>Ad .u64 Cr fun Dw=>Ac C5<|Aa (wrap .i64 (a1-1)) fun D5=>Aa (wrap .i64 (2*a2)) fun Ds=>Aa (wrap .i64 (Ds+1)) fun Eg=>Ag (call 39 [.sc (.int .u64 a0),.sc (.int .i64 D5),.sc (.int .i64 Eg)]) fun En E9=>Ac E9<|Ab En fun Fq Fv=>Ad .u64 Fq fun F5=>Ac Fv<|Ag (call 79 [.sc (.int .i64 a1),.sc (.int .u64 Dw),.sc (.int .u64 F5)]) fun Id G6=>Ac G6<|Ab Id fun H7 D2=>Ad .u64 H7 fun Do=>Ac D2<|some (Az.mk [.sc (.int .u64 Do)] []))) (Ae C0 Tryz.prog fu d):=by kernel_rfl
abbrev Mh:FuncId:=18
theorem Ux (fu d:Nat)(a0 a1:Int):Ae C0 Tryz.prog fu (d+1) Mh [.sc (.int .u64 a0),.sc (.int .i64 a1)]=(fun (call:Ai)=>Ag (call 38 [.sc (.int .i64 a1)]) fun x1 x2=>Ac x2<|Ab x1 fun x3 x4=>Bk x3 fun x5=>Ac x4<|Ba (!x5) (some (Az.mk [.agg [.sc (.int .i64 0),.sc (.int .u64 0)],.sc (.int .i64 9)] [])) (Ag (call 39 [.sc (.int .u64 a0),.sc (.int .i64 a1),.sc (.int .i64 0)]) fun x6 x7=>Ac x7<|Ab x6 fun x8 x9=>Ad .u64 x8 fun Cr=>Ac x9<|some (Az.mk [.agg [.sc (.int .i64 a1),.sc (.int .u64 Cr)],.sc (.int .i64 0)] []))) (Ae C0 Tryz.prog fu d):=by kernel_rfl
abbrev Ot:FuncId:=33
noncomputable def Gh (fu:Nat)(call:Ai)(a0 a1:Int)(a2 a3:Int)(nn:Nat)(y0 y1:Int)(y2 y3 y4:Int)(y5 y6:Nat)(y7 y8:List PV)(y9:Int)(y10 Jn:Nat)(Oc Tr:List PV):Option Az:=Cz CB Tryz.prog fu call 33 Tryz.f33 (Bq Tryz.f33) [.sc (.int .u64 a0),.sc (.int .i64 a1),.sc (.int .i64 a2),.sc (.int .u64 a3)] [.r,.r,.r,.l,.r,.l] nn ⟨lk [(0,(.sc (.int .u64 y0))),(1,(.sc (.int .i64 y1))),(2,(.sc (.int .i64 y2))),(8,(.ptr 8 0)),(10,(.ptr 10 0)),(11,(.sc (.int .i64 y3)))],B5 [(8,(.st [(.sc (.int .i64 y4)),(.view 112 1 0 y5),(.view 164 1 0 y6)])),(112,(.ar false y7)),(164,(.ar false y8)),(10,(.st [(.sc (.int .i64 y9)),(.view 114 1 0 y10),(.view 166 1 0 Jn)])),(114,(.ar false Oc)),(166,(.ar false Tr))]⟩
theorem Kj (fu:Nat)(call:Ai)(a0 a1:Int)(a2 a3:Int)(nn:Nat)(y0 y1:Int)(y2 y3 y4:Int)(y5 y6:Nat)(y7 y8:List PV)(y9:Int)(y10 Jn:Nat)(Oc Tr:List PV):Gh fu call a0 a1 a2 a3 (nn+1) y0 y1 y2 y3 y4 y5 y6 y7 y8 y9 y10 Jn Oc Tr=(Ba (decide (y3<y1)) (Aa (wrap .u64 y3) fun Ds=>Ao (decide (0<=Ds))<|Aa (D6 .i64 y2 Ds) fun Eg=>Aa (Dx .i64 Eg 1) fun En=>Ag (call 39 [.sc (.int .u64 y0),.sc (.int .i64 y3),.sc (.int .i64 En)]) fun E9 Fq=>Ac Fq<|Ab E9 fun Fv F5=>Ad .u64 Fv fun Id=>Ac F5<|Ao (decide (Jn*1<=Tr.length)&&true&&decide ((Jn+1)*8<=1099511627776)&&decide (Jn+1<=1099511627776))<|Aa (Jn+1) fun G6=>Aa (List.take (Jn*1) Tr++[.sc (.int .u64 Id)]) fun H7=>Aa (wrap .i64 (y3+1)) fun D2=>Gh fu call a0 a1 a2 a3 (nn) (y0) (y1) (y2) D2 (y4) (y5) (y6) (y7) (y8) (y9) (y10) G6 (Oc) H7) (Ao (decide (y10*1<=Oc.length))<|Ao (decide (Jn*1<=Tr.length))<|some (Az.mk [.agg [.sc (.int .i64 y9),.own 1 y10 (List.take (y10*1) Oc),.own 1 Jn (List.take (Jn*1) Tr)],.sc (.int .i64 0)] []))):=by kernel_rfl
theorem Y5 (fu d:Nat)(a0 a1:Int)(a2 a3:Int):Ae C0 Tryz.prog fu (d+1) Ot [.sc (.int .u64 a0),.sc (.int .i64 a1),.sc (.int .i64 a2),.sc (.int .u64 a3)]=(fun (call:Ai)=>Ag (call 38 [.sc (.int .i64 a1)]) fun x1 x2=>Ac x2<|Ab x1 fun x3 x4=>Bk x3 fun x5=>Ac x4<|Ba (!x5) (some (Az.mk [.agg [.sc (.int .i64 0),.own 1 0 [],.own 1 0 []],.sc (.int .i64 9)] [])) (Ba (decide (a2<0)) (some (Az.mk [.agg [.sc (.int .i64 0),.own 1 0 [],.own 1 0 []],.sc (.int .i64 9)] [])) (Aa (wrap .u64 a1) fun x6=>Ao (decide (0<=x6))<|Aa (G7 .i64 1 x6) fun x7=>Ba (decide (a2>=x7)) (some (Az.mk [.agg [.sc (.int .i64 0),.own 1 0 [],.own 1 0 []],.sc (.int .i64 9)] [])) (Ag (call 64 [.sc (.int .u64 a0),.sc (.int .i64 a2),.sc (.int .u64 a3)]) fun x8 x9=>Ac x9<|Ab x8 fun Cr C5=>Ep 1 Cr fun Dw D5=>Ac C5<|Gh fu call a0 a1 a2 a3 (fu) (a0) (a1) (a2) 0 0 0 0 ([]) ([]) (a2) Dw 0 D5 ([]))))) (Ae C0 Tryz.prog fu d):=by kernel_rfl
abbrev Jf:FuncId:=57
theorem Re (fu d:Nat)(a0_0 a0_1:Int):Ae C0 Tryz.prog fu (d+1) Jf [.agg [.sc (.int .i64 a0_0),.sc (.int .u64 a0_1)]]=(fun (call:Ai)=>Ag (call 38 [.sc (.int .i64 a0_0)]) fun x1 x2=>Ac x2<|Ab x1 fun x3 x4=>Bk x3 fun x5=>Ac x4<|Ba (!x5) (some (Az.mk [.own 1 0 [],.sc (.int .i64 9)] [])) (Aa (wrap .u8 a0_0) fun x6=>Ag (call 84 [.lst false 1 1 [.sc (.int .u64 a0_1)]]) fun x7 x8=>Ac x8<|Ab x7 fun x9 Cr=>Ep 1 x9 fun C5 Dw=>Ac Cr<|Ao (decide (0+C5*1<=Dw.length))<|Ao (decide (List.length (List.take (C5*1) (List.drop 0 Dw))=C5*1)&&decide ((1+C5)*1<=1099511627776)&&decide (1+C5<=1099511627776))<|Aa (1+C5) fun D5=>Aa ([.sc (.int .u8 x6)]++List.take (C5*1) (List.drop 0 Dw)) fun Ds=>Ao (decide (D5*1<=Ds.length))<|some (Az.mk [.own 1 D5 (List.take (D5*1) Ds),.sc (.int .i64 0)] []))) (Ae C0 Tryz.prog fu d):=by kernel_rfl
abbrev Ja:FuncId:=80
noncomputable def Em (fu:Nat)(call:Ai)(a0n:Nat)(a0:List PV)(a1n:Nat)(a1:List PV)(nn y0:Nat)(y1:List PV)(y2:Nat)(y3:List PV)(y4:Int):Option Az:=Cz CB Tryz.prog fu call 80 Tryz.f80 (Bq Tryz.f80) [.lst false 1 a0n a0,.lst false 1 a1n a1] [.r,.r,.l,.r,.l] nn ⟨lk [(0,(.lst false 1 y0 y1)),(1,(.lst false 1 y2 y3)),(5,(.sc (.int .i64 y4)))],B5 []⟩
theorem Ht (fu:Nat)(call:Ai)(a0n:Nat)(a0:List PV)(a1n:Nat)(a1:List PV)(nn y0:Nat)(y1:List PV)(y2:Nat)(y3:List PV)(y4:Int):Em fu call a0n a0 a1n a1 (nn+1) y0 y1 y2 y3 y4=(Ba (decide (y4<(↑y0:Int))) (Ao (decide (0<=y4)&&decide (y4<(↑y0:Int)))<|Ad .u64 (List.getD y1 (Int.toNat y4*1) .top) fun x1=>Ao (decide (0<=y4)&&decide (y4<(↑y2:Int)))<|Ad .u64 (List.getD y3 (Int.toNat y4*1) .top) fun x2=>Ba (x1 != x2) (some (Az.mk [.sc (.bool false)] [])) (Aa (wrap .i64 (y4+1)) fun x3=>Em fu call a0n a0 a1n a1 (nn) (y0) (y1) (y2) (y3) x3)) (some (Az.mk [.sc (.bool true)] []))):=by kernel_rfl
theorem Rc (fu d a0n:Nat)(a0:List PV)(a1n:Nat)(a1:List PV):Ae C0 Tryz.prog fu (d+1) Ja [.lst false 1 a0n a0,.lst false 1 a1n a1]=(fun (call:Ai)=>Ba ((↑a0n:Int) != (↑a1n:Int)) (some (Az.mk [.sc (.bool false)] [])) (Em fu call a0n a0 a1n a1 (fu) (a0n) (a0) (a1n) (a1) 0)) (Ae C0 Tryz.prog fu d):=by kernel_rfl
abbrev Hm:FuncId:=40
theorem Ny (fu d:Nat)(a0_0:Int)(OT:Nat)(a0_1:List PV)(Ff:Nat)(a0_2:List PV)(a1_0:Int)(Ame:Nat)(a1_1:List PV)(Al8:Nat)(a1_2:List PV):Ae C0 Tryz.prog fu (d+1) Hm [.agg [.sc (.int .i64 a0_0),.lst false 1 OT a0_1,.lst false 1 Ff a0_2],.agg [.sc (.int .i64 a1_0),.lst false 1 Ame a1_1,.lst false 1 Al8 a1_2]]=(fun (call:Ai)=>Ba (a0_0==a1_0) (Ag (call 80 [.lst false 1 OT a0_1,.lst false 1 Ame a1_1]) fun x1 x2=>Ac x2<|Ab x1 fun x3 x4=>Bk x3 fun x5=>Ac x4<|Ba x5 (Ag (call 80 [.lst false 1 Ff a0_2,.lst false 1 Al8 a1_2]) fun x6 x7=>Ac x7<|Ab x6 fun x8 x9=>Bk x8 fun Cr=>Ac x9<|some (Az.mk [.sc (.bool Cr)] [])) (some (Az.mk [.sc (.bool false)] []))) (some (Az.mk [.sc (.bool false)] []))) (Ae C0 Tryz.prog fu d):=by kernel_rfl
end
section
open Go.IntKind (wrap)
theorem So {α:Type}(f:Nat->α)(i:Nat):(List.range (i+1)).map f=(List.range i).map f++[f i]:=by
 rw [List.range_succ,List.map_append];rfl
section
variable {fu d:Nat}
theorem Y6 (h:Int):Ae C0 Tryz.prog fu (d+1) Mi [.sc (.int .i64 h)]=some ⟨[.sc (.bool (!Dg h))],[]⟩:=by
 rw [Vl];unfold Dg;by_cases h0:h<0
 ·simp (disch:=omega) only [B4,h0,decide_true,Bool.true_or,C7]
 ·have e:decide (h<=4) = !decide (h>4):=by
   by_cases c:h<=4
   ·have:¬h>4:=by omega
    simp [c,this]
   ·have:h>4:=by omega
    simp [c,this]
  simp (disch:=omega) only [B4,h0,decide_false,Bool.false_or,e]
theorem Aad {ws:List Int}(hl:ws.length<=100)(hfu:1000<=fu)(dom:Int):Ae C0 Tryz.prog fu (d+4) I1 [.sc (.int .i64 dom),.lst false 1 (A5 ws).length (Af .u8 (A5 ws))]=some ⟨[.sc (.int .u64 (Nf dom (A5 ws)))],[]⟩:=
 WQ (xs:=Ks) (R9 ws) (by rw [Di];omega) (by omega) (by rw [Di];omega) dom
theorem EU {call:Ai}{a0 m:Int}:∀(k nn:Nat)(i:Nat),i+k=16->k<nn ->
  F4 fu call a0 nn m ((List.range i).map (Gd m)).length (Iy m i) (15-(i:Int)) (Af .i64 ((List.range i).map (Gd m)))=some ⟨[.own 1 18 (Af .i64 (PD m))],[]⟩
 |_,0,_,_,h=>by omega
 |0,nn+1,i,hi,hn=>by
  have e:i=16:=by omega
  subst e;have hs:=Jh m 16
  have wq:wrap .i64 (Int.tdiv (Iy m 16) 16)=Iy m 16 / 16:=by
   rw [Int.tdiv_eq_ediv_of_nonneg (by omega),Aj (by omega) (by omega)]
  have wm:Int.tmod (Iy m 16) 16=Iy m 16 % 16:=Int.tmod_eq_emod_of_nonneg (by omega)
  have e2:Af .i64 ((List.range 16).map (Gd m))++[PV.sc (.int .i64 (Iy m 16 / 16)),PV.sc (.int .i64 (Iy m 16 % 16))]=Af .i64 (PD m):=by
   unfold PD;rw [Af,Af,List.flatMap_append];rfl
  have L:(Af .i64 (PD m)).length=18:=by rw [Ak,Ab4]
  have tk:List.take 18 (Af .i64 (PD m))=Af .i64 (PD m):=Sl (by omega)
  have l16:((List.range 16).map (Gd m)).length=16:=by simp
  have L16:=Ak .i64 ((List.range 16).map (Gd m));have t16:=Kc .i64 ((List.range 16).map (Gd m));rw [l16] at L16 t16 ⊢;rw [J0,Dt _ _ _ (by omega)]
  simp (disch:=omega) only [B4,wq,wm,Cb,t16,e2,L16,Nat.reduceAdd,L,tk]
 |k+1,nn+1,i,hi,hn=>by
  have ih:=EU (call:=call) (a0:=a0) (m:=m) k nn (i+1) (by omega) (by omega)
  have hb:=Qq m i;have hs:=Jh m i;have w1:wrap .i64 (4*(15-(i:Int)))=60-4*(i:Int):=by rw [Aj (by omega) (by omega)];omega
  have w2:wrap .u64 (60-4*(i:Int))=60-4*(i:Int):=Cs (by omega) (by omega)
  have hd:wrap .i64 (Ru .u64 (D6 .u64 m (60-4*(i:Int))) 15)=Gd m i:=rfl;have w15:wrap .i64 (15-Gd m i)=15-Gd m i:=Aj (by omega) (by omega)
  have ws:wrap .i64 (Iy m i+(15-Gd m i))=Iy m (i+1):=by rw [Aj (by omega) (by omega)];rfl
  have wi:wrap .i64 (15-(i:Int)-1)=15-((i+1:Nat):Int):=by rw [Aj (by omega) (by omega)];omega
  have L:=Ak .i64 ((List.range i).map (Gd m));have l16:((List.range i).map (Gd m)).length=i:=by simp
  rw [So,J6,List.length_singleton,←F0] at ih;rw [J0];simp (disch:=omega) only [B4,w1,w2,hd,w15,ws,wi,Cb,Kc,L];exact ih
theorem Aea (hfu:1000<=fu)(m:Int):Ae C0 Tryz.prog fu (d+1) M6 [.sc (.int .u64 m)]=some ⟨[.own 1 18 (Af .i64 (PD m))],[]⟩:=by
 rw [Wv];exact EU (fu:=fu) (a0:=m) (m:=m) 16 fu 0 (by omega) (by omega)
theorem OP {leaf chain:Int}{a0 a1 a2 a3 a4:Int}(hfu:1000<=fu){t:Int}(ht:t<=15):∀(k nn:Nat)(p x:Int),(k:Int)=t-p->0<=p->k<nn ->
  G5 fu (Ae C0 Tryz.prog fu (d+4)) a0 a1 a2 a3 a4 nn leaf chain t x p=some ⟨[.sc (.int .u64 (Qv leaf chain k p x))],[]⟩
 |_,0,_,_,_,_,h=>by omega
 |0,nn+1,p,x,hk,hp,hn=>by
  rw [L6];simp only [G9];rw [A7 (by omega),Dt _ _ _ (by omega)]
  rfl
 |k+1,nn+1,p,x,hk,hp,hn=>by
  have w:wrap .i64 (p+1)=p+1:=Aj (by omega) (by omega)
  have wd:Ae C0 Tryz.prog fu (d+4) D9 [.lst false 1 4 [.sc (.int .u64 (wrap .u64 leaf)),.sc (.int .u64 (wrap .u64 chain)),.sc (.int .u64 (wrap .u64 p)),.sc (.int .u64 x)]]=_:=Rw (xs:=Ks) (ws:=[wrap .u64 leaf,wrap .u64 chain,wrap .u64 p,x]) (by simp) (by omega) (by simp;omega)
  have hs:=Aad (fu:=fu) (d:=d) (ws:=[wrap .u64 leaf,wrap .u64 chain,wrap .u64 p,x]) (by simp) hfu 1
  have ih:=OP (leaf:=leaf) (chain:=chain) (a0:=a0) (a1:=a1) (a2:=a2) (a3:=a3) (a4:=a4) hfu ht k nn (p+1) (Nf 1 (A5 [wrap .u64 leaf,wrap .u64 chain,wrap .u64 p,x])) (by omega) (by omega) (by omega)
  have L:=Ak .u8 (A5 [wrap .u64 leaf,wrap .u64 chain,wrap .u64 p,x]);have eR:Qv leaf chain (k+1) p x=Qv leaf chain k (p+1) (Nf 1 (A5 [wrap .u64 leaf,wrap .u64 chain,wrap .u64 p,x])):=rfl;rw [eR];generalize A5 [wrap .u64 leaf,wrap .u64 chain,wrap .u64 p,x]=W at wd hs ih L ⊢;have e15:(if (15:Int)<t then 15 else t)=t:=A7 (by omega)
  rw [L6];simp (disch:=omega) only [B4,e15,wd,Cb,Bw,Fa,Kc,L,hs,w];exact ih
theorem Aa2 {leaf chain:Int}(hfu:1000<=fu)(k:Nat)(f t x:Int)(hk:(k:Int)=t-f) (h0:0<=f)(h1:t<=15):Ae C0 Tryz.prog fu (d+5) Qr [.sc (.int .i64 leaf),.sc (.int .i64 chain),.sc (.int .i64 f),.sc (.int .i64 t),.sc (.int .u64 x)]=some ⟨[.sc (.int .u64 (Qv leaf chain k f x))],[]⟩:=by
 rw [Zv];simp only [G9];rw [A7 (by omega)]
 exact OP hfu h1 k fu f x hk h0 (by omega)
theorem KQ (hfu:1000<=fu)(seed leaf chain:Int):Ae C0 Tryz.prog fu (d+5) Mp [.sc (.int .u64 seed),.sc (.int .i64 leaf),.sc (.int .i64 chain)]=some ⟨[.sc (.int .u64 (EH seed leaf chain))],[]⟩:=by
 have wd:Ae C0 Tryz.prog fu (d+4) D9 [.lst false 1 2 [.sc (.int .u64 (wrap .u64 leaf)),.sc (.int .u64 (wrap .u64 chain))]]=_:=Rw (xs:=Ks) (ws:=[wrap .u64 leaf,wrap .u64 chain]) (by simp) (by omega) (by simp;omega)
 have hs:=Alk (xs:=Ks) (fu:=fu) (d:=d) (R9 [wrap .u64 leaf,wrap .u64 chain]) (by rw [Di];simp) (by omega) (by rw [Di];simp;omega) seed 1
 have L:=Ak .u8 (A5 [wrap .u64 leaf,wrap .u64 chain]);rw [Vv];unfold EH;generalize A5 [wrap .u64 leaf,wrap .u64 chain]=W at wd hs L ⊢;simp (disch:=omega) only [B4,wd,Cb,Bw,Fa,Kc,L,hs]
theorem Art (hfu:1000<=fu)(w:Int):Ae C0 Tryz.prog fu (d+1) D9 [.lst false 1 1 [.sc (.int .u64 w)]]=some ⟨[.own 1 8 (Af .u8 (Dy w))],[]⟩:=by
 have:=Rw (xs:=Ks) (fu:=fu) (d:=d) (ws:=[w]) (by simp) (by omega) (by simp;omega)
 simp only [A5,List.flatMap_cons,List.flatMap_nil,List.append_nil,Jj,Xy,Ew] at this;exact this
theorem Aiu (hfu:1000<=fu)(leaf:Int){E:List Int}(hE:E.length<=50):Ae C0 Tryz.prog fu (d+5) Pj [.sc (.int .i64 leaf),.lst false 1 E.length (Af .u64 E)]=some ⟨[.sc (.int .u64 (Xs leaf E))],[]⟩:=by
 have w1:=Art (fu:=fu) (d:=d+3) hfu (wrap .u64 leaf);have w2:=Rw (xs:=Ks) (fu:=fu) (d:=d+3) (ws:=E) (by omega) (by omega) (by omega)
 have hs:=Aad (fu:=fu) (d:=d) (ws:=wrap .u64 leaf::E) (by simp;omega) hfu 2
 have eW:A5 (wrap .u64 leaf::E)=Dy (wrap .u64 leaf)++A5 E:=rfl
 have eC:Af .u8 (Dy (wrap .u64 leaf))++Af .u8 (A5 E)=Af .u8 (A5 (wrap .u64 leaf::E)):=by
  rw [eW,Af,Af,Af,List.flatMap_append]
 have l0:(Dy (wrap .u64 leaf)).length=8:=Ew _;have l1:=Di E;have l2:(A5 (wrap .u64 leaf::E)).length=8+(A5 E).length:=by rw [eW,J6,l0]
 have L0:=Ak .u8 (Dy (wrap .u64 leaf));rw [l0] at L0;have L1:=Ak .u8 (A5 E);have L2:=Ak .u8 (A5 (wrap .u64 leaf::E));have t8:List.take 8 (Af .u8 (Dy (wrap .u64 leaf)))=Af .u8 (Dy (wrap .u64 leaf)):=Sl (by omega)
 have tW:List.take (8+(A5 E).length) (Af .u8 (A5 (wrap .u64 leaf::E)))=Af .u8 (A5 (wrap .u64 leaf::E)):=Sl (by omega)
 rw [l2] at hs;rw [Ze];simp (disch:=omega) only [B4,w1,w2,Cb,Bw,Fa,Kc,t8,L0,L1,eC,L2,tW,hs];rfl
theorem LJ {a0 a1 seed leaf:Int}(hfu:1000<=fu):∀(k nn i:Nat),i+k=18->k<nn ->
  Gj fu (Ae C0 Tryz.prog fu (d+5)) a0 a1 nn seed leaf ((List.range i).map (Xa seed leaf)).length i (Af .u64 ((List.range i).map (Xa seed leaf)))=some ⟨[.sc (.int .u64 (Hx seed leaf))],[]⟩
 |_,0,_,_,h=>by omega
 |0,nn+1,i,hi,hn=>by
  have e:i=18:=by omega
  subst e;have l18:((List.range 18).map (Xa seed leaf)).length=18:=by simp
  have en:=Aiu (fu:=fu) (d:=d) hfu leaf (E:=(List.range 18).map (Xa seed leaf)) (by omega)
  have L:=Ak .u64 ((List.range 18).map (Xa seed leaf));rw [Kk,Dt _ _ _ (by omega)]
  simp (disch:=omega) only [B4,Cb,Bw,Fa,Kc,L,en];rfl
 |k+1,nn+1,i,hi,hn=>by
  have ih:=LJ (a0:=a0) (a1:=a1) (seed:=seed) (leaf:=leaf) hfu k nn (i+1) (by omega) (by omega)
  have sc:=KQ (fu:=fu) (d:=d) hfu seed leaf i;have rn:=Aa2 (fu:=fu) (d:=d) (leaf:=leaf) (chain:=i) hfu 15 0 15 (EH seed leaf i) (by omega) (by omega) (by omega)
  have w:wrap .i64 ((i:Int)+1)=((i+1:Nat):Int):=by rw [Aj (by omega) (by omega)];omega
  have L:=Ak .u64 ((List.range i).map (Xa seed leaf));have li:((List.range i).map (Xa seed leaf)).length=i:=by simp
  rw [So,J6,List.length_singleton,←F0] at ih;rw [Kk];simp (disch:=omega) only [B4,sc,rn,Cb,Kc,L,w];exact ih
theorem Ahq (hfu:1000<=fu)(seed leaf:Int):Ae C0 Tryz.prog fu (d+6) Pa [.sc (.int .u64 seed),.sc (.int .i64 leaf)]=some ⟨[.sc (.int .u64 (Hx seed leaf))],[]⟩:=by
 rw [Yl];exact LJ (fu:=fu) (d:=d) hfu 18 fu 0 (by omega) (by omega)
theorem Asx (m:Int){i:Nat}(h:i<18):(PD m)[i]?=some (dg m i):=by
 unfold dg;rw [List.getD_eq_getElem?_getD,List.getElem?_eq_getElem (by rw [Ab4];omega)]
 rfl
theorem V0 {a0 a1 a2 seed leaf m:Int}(hfu:1000<=fu):∀(k nn i:Nat),i+k=18->k<nn ->
  Eu fu (Ae C0 Tryz.prog fu (d+5)) a0 a1 a2 nn seed leaf 18 ((List.range i).map (Vf seed leaf m)).length i (Af .i64 (PD m)) (Af .u64 ((List.range i).map (Vf seed leaf m)))=some ⟨[.own 1 18 (Af .u64 (Io seed leaf m))],[]⟩
 |_,0,_,_,h=>by omega
 |0,nn+1,i,hi,hn=>by
  have e:i=18:=by omega
  subst e;have l18:((List.range 18).map (Vf seed leaf m)).length=18:=by simp
  have L:=Ak .u64 ((List.range 18).map (Vf seed leaf m));rw [H9,Dt _ _ _ (by omega)]
  simp (disch:=omega) only [B4,Cb,Kc,L];rw [l18];rfl
 |k+1,nn+1,i,hi,hn=>by
  have ih:=V0 (a0:=a0) (a1:=a1) (a2:=a2) (seed:=seed) (leaf:=leaf) (m:=m) hfu k nn (i+1) (by omega) (by omega)
  have hb:=V8 m i;have sc:=KQ (fu:=fu) (d:=d) hfu seed leaf i;have rn:=Aa2 (fu:=fu) (d:=d) (leaf:=leaf) (chain:=i) hfu (dg m i).toNat 0 (dg m i) (EH seed leaf i) (by omega) (by omega) (by omega)
  have w:wrap .i64 ((i:Int)+1)=((i+1:Nat):Int):=by rw [Aj (by omega) (by omega)];omega
  have L:=Ak .u64 ((List.range i).map (Vf seed leaf m));have li:((List.range i).map (Vf seed leaf m)).length=i:=by simp
  rw [So,J6,List.length_singleton,←F0] at ih;rw [H9];simp (disch:=omega) only [B4,Gm,Cb,Bw,Xj (Asx m (show i<18 by omega)),sc,rn,Kc,L,w]
  exact ih
theorem RM (hfu:1000<=fu)(seed leaf m:Int):Ae C0 Tryz.prog fu (d+6) J2 [.sc (.int .u64 seed),.sc (.int .i64 leaf),.sc (.int .u64 m)]=some ⟨[.own 1 18 (Af .u64 (Io seed leaf m))],[]⟩:=by
 rw [Ss];have sp:=Aea (fu:=fu) (d:=d+4) hfu m;simp only [B4,sp];exact V0 (fu:=fu) (d:=d) hfu 18 fu 0 (by omega) (by omega)
theorem YY (hfu:1000<=fu)(level a b:Int):Ae C0 Tryz.prog fu (d+5) Lt [.sc (.int .i64 level),.sc (.int .u64 a),.sc (.int .u64 b)]=some ⟨[.sc (.int .u64 (Ls level a b))],[]⟩:=by
 have wd:Ae C0 Tryz.prog fu (d+4) D9 [.lst false 1 3 [.sc (.int .u64 (wrap .u64 level)),.sc (.int .u64 a),.sc (.int .u64 b)]]=_:=Rw (xs:=Ks) (ws:=[wrap .u64 level,a,b]) (by simp) (by omega) (by simp;omega)
 have hs:=Aad (fu:=fu) (d:=d) (ws:=[wrap .u64 level,a,b]) (by simp) hfu 3
 have L:=Ak .u8 (A5 [wrap .u64 level,a,b]);rw [Vw];unfold Ls;generalize A5 [wrap .u64 level,a,b]=W at wd hs L ⊢;simp (disch:=omega) only [B4,wd,Cb,Bw,Fa,Kc,L,hs]
theorem Z3 (hfu:1000<=fu)(seed:Int):∀(l:Nat)(i B:Int),0<=i->i<=B->(2 ^ l:Nat)*(B+1)<=1000000000->l<=20->Ae C0 Tryz.prog fu (d+7+l) Ox [.sc (.int .u64 seed),.sc (.int .i64 l),.sc (.int .i64 i)]=some ⟨[.sc (.int .u64 (Bx seed l i))],[]⟩
 |0,i,B,h0,h1,h2,hl=>by
  have lf:=Ahq (fu:=fu) (d:=d) hfu seed i;refine (O7 fu (d+6) seed 0 i).trans ?_;simp only [B4,Fc,if_true,lf];rfl
 |l+1,i,B,h0,h1,h2,hl=>by
  have hq:(2 ^ (l+1):Nat)=2 ^ l*2:=Nat.pow_succ _ _;have hpos:0<2 ^ l:=Nat.pow_pos (by omega)
  rw [hq] at h2;generalize hQ:2 ^ l=q at h2 hpos
  have hb:((q*2:Nat):Int)*(B+1)=(q:Int)*(2*B+1+1):=by
   rw [Int.natCast_mul,Int.mul_assoc]
   congr 1
   omega
  rw [hb] at h2
  have hBq:2*B+1+1<=(q:Int)*(2*B+1+1):=by
   have:=Int.mul_le_mul_of_nonneg_right (show (1:Int)<=q by omega) (show (0:Int)<=2*B+1+1 by omega)
   omega
  have n1:=Z3 hfu seed l (2*i) (2*B+1) (by omega) (by omega) (by rw [hQ];exact h2) (by omega)
  have n2:=Z3 hfu seed l (2*i+1) (2*B+1) (by omega) (by omega) (by rw [hQ];exact h2) (by omega)
  have pr:=YY (fu:=fu) (d:=d+2+l) hfu ((l+1:Nat):Int) (Bx seed l (2*i)) (Bx seed l (2*i+1));rw [show d+2+l+5=d+7+l by omega] at pr
  have w1:wrap .i64 (((l+1:Nat):Int)-1)=(l:Int):=by rw [Aj (by omega) (by omega)];omega
  have w2:wrap .i64 (2*i)=2*i:=Aj (by omega) (by omega)
  have w3:wrap .i64 (2*i+1)=2*i+1:=Aj (by omega) (by omega)
  have ne:¬(((l+1:Nat):Int)=0):=by omega
  refine (O7 fu (d+7+l) seed ((l+1:Nat):Int) i).trans ?_;simp only [B4,Fc,ne,if_false,w1,w2,w3,n1,n2,pr];rfl
end
end
section
open Go.IntKind (wrap)
theorem wu {h:Int}(h0:0<=h)(h4:h<=4):wrap .u64 h=h:=Cs (by omega) (by omega)
theorem Aam {leaf h:Int}(h0:0<=h)(h4:h<=4)(ho:Ke leaf h=false):0<=leaf∧leaf<2 ^ h.toNat:=by
 unfold Ke at ho;simp only [Bool.or_eq_false_iff,decide_eq_false_iff_not] at ho;have:h=0∨h=1∨h=2∨h=3∨h=4:=by omega
 rcases this with rfl|rfl|rfl|rfl|rfl
 ·have e:G7 .i64 1 0=1:=by decide
  rw [e] at ho;exact ⟨by omega,by show leaf<1;omega⟩
 ·have e:G7 .i64 1 1=2:=by decide
  rw [e] at ho;exact ⟨by omega,by show leaf<2;omega⟩
 ·have e:G7 .i64 1 2=4:=by decide
  rw [e] at ho;exact ⟨by omega,by show leaf<4;omega⟩
 ·have e:G7 .i64 1 3=8:=by decide
  rw [e] at ho;exact ⟨by omega,by show leaf<8;omega⟩
 ·have e:G7 .i64 1 4=16:=by decide
  rw [e] at ho;exact ⟨by omega,by show leaf<16;omega⟩
theorem Arb {h:Int}(h0:0<=h)(h4:h<=4):(2:Int) ^ h.toNat<=16:=by
 have:h=0∨h=1∨h=2∨h=3∨h=4:=by omega
 rcases this with rfl|rfl|rfl|rfl|rfl<;>decide
theorem XW {leaf:Int}(h0:0<=leaf)(h1:leaf<16){k:Nat}(hk:k<4):0<=Fi leaf k∧Fi leaf k<=15:=by
 have H:∀n:Fin 16,∀k:Fin 4,0<=Fi (n.val:Int) k.val∧Fi (n.val:Int) k.val<=15:=by decide
 obtain ⟨n,rfl⟩:=Int.eq_ofNat_of_zero_le h0;exact H ⟨n,by omega⟩ ⟨k,hk⟩
section
variable {fu d:Nat}
theorem Aac (hfu:1000<=fu)(seed h:Int):Ae C0 Tryz.prog fu (d+12) Mh [.sc (.int .u64 seed),.sc (.int .i64 h)]=some ⟨[.agg (Gs seed h).cells,.sc (.int .i64 (if Dg h=true then 9 else 0))],[]⟩:=by
 refine (Ux fu (d+11) seed h).trans ?_;have h1:=Y6 (fu:=fu) (d:=d+10) h;unfold Gs;cases c1:Dg h
 ·rw [c1] at h1;have hb:=H4 c1
  have nd:=Z3 (fu:=fu) (d:=d+4-h.toNat) hfu seed h.toNat 0 0 (by omega) (by omega) (by
   have:h=0∨h=1∨h=2∨h=3∨h=4:=by omega
   rcases this with rfl|rfl|rfl|rfl|rfl<;>decide) (by omega)
  rw [show d+4-h.toNat+7+h.toNat=d+11 by omega,show ((h.toNat:Nat):Int)=h by omega] at nd
  simp only [B4,h1,nd];rfl
 ·rw [c1] at h1;simp only [B4,h1];rfl
theorem LG {a0 a1 a2 a3:Int}{seed leaf h:Int}(hh:0<=h∧h<=4)(hl:0<=leaf∧leaf<16)(hfu:1000<=fu){y4 y9:Int}{y5 y6:Nat}{y7 y8:List PV}{ch:List Int}:∀(k nn i:Nat),i+k=h.toNat->k<nn ->
  Gh fu (Ae C0 Tryz.prog fu (d+11)) a0 a1 a2 a3 nn seed h leaf i y4 y5 y6 y7 y8 leaf ch.length ((List.range i).map fun k=>Bx seed k (Fi leaf k)).length (Af .u64 ch) (Af .u64 ((List.range i).map fun k=>Bx seed k (Fi leaf k)))=some ⟨[.agg (Sg.mk leaf ch ((List.range h.toNat).map fun k=>Bx seed k (Fi leaf k))).owned,.sc (.int .i64 0)],[]⟩
 |_,0,_,_,h=>by omega
 |0,nn+1,i,hi,hn=>by
  have e:i=h.toNat:=by omega
  subst e;have L1:=Ak .u64 ch;have L2:=Ak .u64 ((List.range h.toNat).map fun k=>Bx seed k (Fi leaf k))
  rw [Kj,Dt _ _ _ (by omega)]
  simp (disch:=omega) only [B4,Cb,Kc,L1,L2];rfl
 |k+1,nn+1,i,hi,hn=>by
  have ih:=LG (a0:=a0) (a1:=a1) (a2:=a2) (a3:=a3) (seed:=seed) (y4:=y4) (y9:=y9) (y5:=y5) (y6:=y6) (y7:=y7) (y8:=y8) (ch:=ch) hh hl hfu k nn (i+1) (by omega) (by omega)
  have sb:=XW hl.1 hl.2 (k:=i) (by omega)
  have nd:=Z3 (fu:=fu) (d:=d+4-i) hfu seed i (Fi leaf i) 15 sb.1 sb.2 (by
   have:i=0∨i=1∨i=2∨i=3:=by omega
   rcases this with rfl|rfl|rfl|rfl<;>decide) (by omega)
  rw [show d+4-i+7+i=d+11 by omega] at nd
  have es:Dx .i64 (D6 .i64 leaf (i:Int)) 1=Fi leaf i:=rfl;have w:wrap .i64 ((i:Int)+1)=((i+1:Nat):Int):=by rw [Aj (by omega) (by omega)];omega
  have wi:wrap .u64 (i:Int)=i:=Cs (by omega) (by omega)
  have L:=Ak .u64 ((List.range i).map fun k=>Bx seed k (Fi leaf k))
  have li:((List.range i).map fun k=>Bx seed k (Fi leaf k)).length=i:=by simp
  rw [So,J6,List.length_singleton,←F0] at ih;rw [Kj];simp (disch:=omega) only [B4,wi,es,nd,Cb,Kc,L,w];exact ih
theorem Af1 (hfu:1000<=fu)(seed h leaf m:Int):Ae C0 Tryz.prog fu (d+12) Ot [.sc (.int .u64 seed),.sc (.int .i64 h),.sc (.int .i64 leaf),.sc (.int .u64 m)]=some ⟨QR (AV seed h leaf m),[]⟩:=by
 refine (Y5 fu (d+11) seed h leaf m).trans ?_;have h1:=Y6 (fu:=fu) (d:=d+10) h;unfold AV;cases c1:Dg h
 ·rw [c1] at h1;have hb:=H4 c1;have w:=wu hb.1 hb.2;rw [A7 (by simp)]
  by_cases hn:leaf<0
  ·have ho:Ke leaf h=true:=by unfold Ke;simp [hn]
   rw [B7 ho];simp (disch:=omega) only [B4,h1];rfl
  ·by_cases hg:leaf>=G7 .i64 1 h
   ·have ho:Ke leaf h=true:=by unfold Ke;simp [hg]
    rw [B7 ho];simp (disch:=first|omega|exact hg) only [B4,h1,w];rfl
   ·have ho:Ke leaf h=false:=by unfold Ke;simp only [Bool.or_eq_false_iff,decide_eq_false_iff_not];exact ⟨hn,hg⟩
    have hlt:=Aam hb.1 hb.2 ho;have h16:=Arb hb.1 hb.2;rw [A7 (by rw [ho];simp)]
    have sl:=RM (fu:=fu) (d:=d+5) hfu seed leaf m;have lp:=LG (fu:=fu) (d:=d) (a0:=seed) (a1:=h) (a2:=leaf) (a3:=m) (seed:=seed) (leaf:=leaf) (h:=h) hb (by omega) hfu (y4:=0) (y9:=0) (y5:=0) (y6:=0) (y7:=[]) (y8:=[]) (ch:=Io seed leaf m) h.toNat fu 0 (by omega) (by omega)
    have l18:(Io seed leaf m).length=18:=by simp [Io]
    rw [l18] at lp;simp (disch:=first|omega|exact hg) only [B4,h1,w,sl];exact lp
 ·rw [c1] at h1;rw [B7 rfl];simp (disch:=omega) only [B4,h1];rfl
theorem XV (hfu:1000<=fu)(k:Ky):Ae C0 Tryz.prog fu (d+2) Jf [.agg k.cells]=some ⟨(if Dg k.h=true then [.own 1 0 [],.sc (.int .i64 9)] else [.own 1 9 (Af .u8 (I3 k)),.sc (.int .i64 0)]),[]⟩:=by
 refine (Re fu (d+1) k.h k.root).trans ?_;have h1:=Y6 (fu:=fu) (d:=d) k.h;have wd:=Art (fu:=fu) (d:=d) hfu k.root;have L:=Ak .u8 (Dy k.root);rw [Ew] at L;have t8:List.take 8 (Af .u8 (Dy k.root))=Af .u8 (Dy k.root):=Sl (by omega)
 have t9:List.take 9 ([PV.sc (.int .u8 (wrap .u8 k.h))]++Af .u8 (Dy k.root))=Af .u8 (I3 k):=by
  rw [Sl (by rw [J6,L];simp)]
  rfl
 have L9:([PV.sc (.int .u8 (wrap .u8 k.h))]++Af .u8 (Dy k.root)).length=9:=by rw [J6,L];rfl
 cases c1:Dg k.h
 ·rw [c1] at h1;rw [A7 (by simp)]
  simp (disch:=omega) only [B4,h1,wd,Cb,Bw,Fa,L,t8,Nat.reduceAdd,L9,t9]
 ·rw [c1] at h1;rw [B7 rfl];simp (disch:=omega) only [B4,h1]
end
end
section
open Go.IntKind (wrap)
section
variable {fu d:Nat}
end
theorem Afs (seed leaf m:Int):Aee leaf m (Io seed leaf m)=Hx seed leaf:=by
 unfold Aee Hx JB
 congr 1
 refine List.map_congr_left fun i hi=>?_
 have hi:=List.mem_range.1 hi;have hb:=V8 m i;unfold XT Xa
 have e:(Io seed leaf m).getD i 0=Vf seed leaf m i:=by
  unfold Io;rw [List.getD_eq_getElem?_getD,List.getElem?_map,List.getElem?_range hi];rfl
 rw [e];unfold Vf;have:=TN leaf i (dg m i).toNat (15-dg m i).toNat 0 (EH seed leaf i);rw [show (dg m i).toNat+(15-dg m i).toNat=15 by omega,show (0:Int)+((dg m i).toNat:Nat)=dg m i by omega] at this
 exact this.symm
theorem Acs:∀n:Fin 16,∀k:Fin 4,
  (Ru .i64 (D6 .i64 (n.val:Int) k.val) 1=0∧D6 .i64 (n.val:Int) k.val=2*D6 .i64 (n.val:Int) ((k.val+1:Nat):Int)∧Fi n.val k.val=2*D6 .i64 (n.val:Int) ((k.val+1:Nat):Int)+1) ∨
  (Ru .i64 (D6 .i64 (n.val:Int) k.val) 1≠0∧D6 .i64 (n.val:Int) k.val=2*D6 .i64 (n.val:Int) ((k.val+1:Nat):Int)+1∧Fi n.val k.val=2*D6 .i64 (n.val:Int) ((k.val+1:Nat):Int)):=by decide
theorem JR (seed:Int){leaf:Int}(h0:0<=leaf)(h1:leaf<16):∀(k i:Nat),i+k<=4 ->
  Ys leaf i (Bx seed i (D6 .i64 leaf i)) ((List.range' i k).map fun j=>Bx seed j (Fi leaf j))=Bx seed (i+k) (D6 .i64 leaf ((i+k:Nat):Int))
 |0,i,_=>rfl
 |k+1,i,h=>by
  rw [List.range'_succ,Zzw,GD];obtain ⟨n,rfl⟩:=Int.eq_ofNat_of_zero_le h0;have ih:=JR seed h0 h1 k (i+1) (by omega)
  rw [show i+(k+1)=i+1+k by omega,←ih]
  congr 1
  rcases Acs ⟨n,by omega⟩ ⟨i,by omega⟩ with ⟨a,b,c⟩|⟨a,b,c⟩
  ·simp only at a b c;rw [B7 a,b,c];rfl
  ·simp only at a b c;rw [A7 a,b,c];rfl
theorem Agi {seed h leaf m:Int}(hh:Dg h=false)(ho:Ke leaf h=false):WG (Gs seed h) m ⟨leaf,Io seed leaf m,(List.range h.toNat).map fun k=>Bx seed k (Fi leaf k)⟩=0:=by
 have hb:=H4 hh;have hl:=Aam hb.1 hb.2 ho;have h16:=Arb hb.1 hb.2
 have eP:Gs seed h=⟨h,Bx seed h.toNat 0⟩:=by
  unfold Gs;rw [hh];rfl
 rw [eP];unfold WG;simp only;rw [A7 (show ¬Dg h=true by rw [hh];simp),A7 (show ¬Ke leaf h=true by rw [ho];simp),A7 (show ¬(Io seed leaf m).length≠18 by simp [Io]),A7 (by rw [List.length_map,List.length_range];omega),Afs]
 have c:=JR seed hl.1 (show leaf<16 by omega) h.toNat 0 (by omega)
 have e0:D6 .i64 leaf ((0:Nat):Int)=leaf:=by
  show leaf.fdiv (2 ^ (min ((0:Nat):Int).toNat IntKind.i64.bits))=leaf;have:(2:Int) ^ (min ((0:Nat):Int).toNat IntKind.i64.bits)=1:=by decide
  rw [this,Int.fdiv_one]
 have eh:D6 .i64 leaf ((0+h.toNat:Nat):Int)=0:=by
  have H:∀n:Fin 16,∀k:Fin 5,(n.val:Int)<2 ^ k.val->D6 .i64 (n.val:Int) ((0+k.val:Nat):Int)=0:=by decide
  obtain ⟨n,hn⟩:=Int.eq_ofNat_of_zero_le hl.1;have:=H ⟨n,by omega⟩ ⟨h.toNat,by omega⟩ (by simp only;rw [←hn];exact hl.2)
  rw [hn];exact this
 rw [e0,eh,Bw] at c;have er:List.range' 0 h.toNat=List.range h.toNat:=List.range_eq_range'.symm;rw [er] at c;have el:Bx seed 0 leaf=Hx seed leaf:=rfl;rw [el] at c;rw [c];unfold okE;rw [B7 rfl]
end
section
open Go.IntKind (wrap)
set_option maxRecDepth 100000
abbrev ER:FuncId:=68
theorem VB (fu d:Nat)(a0:ByteArray):Ae C0 Tryz.prog fu (d+1) ER [.sc (.string a0)]=(fun (call:Ai)=>some (Az.mk [.own 3 1 [.sc (.int .i64 4),.sc (.int .u64 0),.sc (.string a0)]] [])) (Ae C0 Tryz.prog fu d):=by kernel_rfl
abbrev FP:FuncId:=69
theorem VM (fu d:Nat)(a0:Int):Ae C0 Tryz.prog fu (d+1) FP [.sc (.int .u64 a0)]=(fun (call:Ai)=>some (Az.mk [.own 3 1 [.sc (.int .i64 1),.sc (.int .u64 a0),.sc (.string (ByteArray.mk #[]))]] [])) (Ae C0 Tryz.prog fu d):=by kernel_rfl
abbrev Z8:FuncId:=70
theorem QK (fu d a0n:Nat)(a0:List PV):Ae C0 Tryz.prog fu (d+1) Z8 [.lst false 1 a0n a0]=(fun (call:Ai)=>Ao (decide (a0.length=a0n))<|Et (bytesOf a0) fun x1=>some (Az.mk [.own 3 1 [.sc (.int .i64 3),.sc (.int .u64 0),.sc (.string (ByteArray.mk (List.toArray x1)))]] [])) (Ae C0 Tryz.prog fu d):=by kernel_rfl
abbrev EQ:FuncId:=71
theorem TX (fu d:Nat)(a0:Bool):Ae C0 Tryz.prog fu (d+1) EQ [.sc (.bool a0)]=(fun (call:Ai)=>Ba (a0) (some (Az.mk [.own 3 1 [.sc (.int .i64 7),.sc (.int .u64 1),.sc (.string (ByteArray.mk #[]))]] [])) (some (Az.mk [.own 3 1 [.sc (.int .i64 7),.sc (.int .u64 0),.sc (.string (ByteArray.mk #[]))]] []))) (Ae C0 Tryz.prog fu d):=by kernel_rfl
abbrev CA:FuncId:=127
theorem RI (fu d:Nat)(a0:Int):Ae C0 Tryz.prog fu (d+1) CA [.sc (.int .u64 a0)]=(fun (call:Ai)=>Ba (decide (a0<24)) (some (Az.mk [.sc (.int .i64 0)] [])) (Ba (decide (a0<256)) (some (Az.mk [.sc (.int .i64 1)] [])) (Ba (decide (a0<65536)) (some (Az.mk [.sc (.int .i64 2)] [])) (Ba (decide (a0<4294967296)) (some (Az.mk [.sc (.int .i64 4)] [])) (some (Az.mk [.sc (.int .i64 8)] [])))))) (Ae C0 Tryz.prog fu d):=by kernel_rfl
abbrev Xo:FuncId:=131
theorem NF (fu d:Nat)(a0_0 a0_1:Int)(a0_2:ByteArray):Ae C0 Tryz.prog fu (d+1) Xo [.agg [.sc (.int .i64 a0_0),.sc (.int .u64 a0_1),.sc (.string a0_2)]]=(fun (call:Ai)=>Ba (a0_0==3) (some (Az.mk [.sc (.bool (a0_1==0))] [])) (Ba (a0_0==4) (some (Az.mk [.sc (.bool (a0_1==0))] [])) (Ba (a0_0==8) (Ba (a0_1==0) (some (Az.mk [.sc (.bool (Array.toList (ByteArray.data a0_2)==Array.toList (ByteArray.data (ByteArray.mk #[]))))] [])) (some (Az.mk [.sc (.bool false)] []))) (Ba (a0_0==7) (Ba (decide (a0_1<=1)) (some (Az.mk [.sc (.bool (Array.toList (ByteArray.data a0_2)==Array.toList (ByteArray.data (ByteArray.mk #[]))))] [])) (some (Az.mk [.sc (.bool false)] []))) (some (Az.mk [.sc (.bool (Array.toList (ByteArray.data a0_2)==Array.toList (ByteArray.data (ByteArray.mk #[]))))] [])))))) (Ae C0 Tryz.prog fu d):=by kernel_rfl
abbrev Uv:FuncId:=129
theorem KR (fu d a0n:Nat)(a0:List PV)(a1n:Nat)(a1:List PV):Ae C0 Tryz.prog fu (d+1) Uv [.lst false 1 a0n a0,.lst false 1 a1n a1]=(fun (call:Ai)=>Ba ((↑a0n:Int) != (↑a1n:Int)) (some (Az.mk [.sc (.bool (decide ((↑a0n:Int)<(↑a1n:Int))))] [])) (Ag (call 133 [.lst false 1 a0n a0,.lst false 1 a1n a1]) fun x1 x2=>Ac x2<|Ab x1 fun x3 x4=>Ad .i64 x3 fun x5=>Ac x4<|some (Az.mk [.sc (.bool (decide (x5<0)))] []))) (Ae C0 Tryz.prog fu d):=by kernel_rfl
abbrev Jv:FuncId:=119
noncomputable def Dv (fu:Nat)(call:Ai)(a0n:Nat)(a0:List PV)(a1 a2:Int)(nn y0:Nat)(y1 y2:Int)(y3:List PV):Option Az:=Cz CB Tryz.prog fu call 119 Tryz.f119 (Bq Tryz.f119) [.own 1 a0n a0,.sc (.int .u8 a1),.sc (.int .u64 a2)] [.r,.r,.r,.r,.r,.l,.r,.l] nn ⟨lk [(0,(.view 0 1 0 y0)),(2,(.sc (.int .u64 y1))),(9,(.sc (.int .i64 y2)))],B5 [(0,(.ar false y3))]⟩
theorem Lw (fu:Nat)(call:Ai)(a0n:Nat)(a0:List PV)(a1 a2:Int)(nn y0:Nat)(y1 y2:Int)(y3:List PV):Dv fu call a0n a0 a1 a2 (nn+1) y0 y1 y2 y3=(Ba (decide (y2>=0)) (Aa (wrap .i64 (8*y2)) fun Fq=>Ao (decide (0<=Fq))<|Aa (D6 .u64 y1 Fq) fun Fv=>Aa (wrap .u8 Fv) fun F5=>Ao (decide (y0*1<=y3.length)&&true&&decide ((y0+1)*1<=1099511627776)&&decide (y0+1<=1099511627776))<|Aa (y0+1) fun Id=>Aa (List.take (y0*1) y3++[.sc (.int .u8 F5)]) fun G6=>Aa (wrap .i64 (y2-1)) fun H7=>Dv fu call a0n a0 a1 a2 (nn) Id (y1) H7 G6) (Ao (decide (y0*1<=y3.length))<|some (Az.mk [.own 1 y0 (List.take (y0*1) y3)] []))):=by kernel_rfl
theorem Zq (fu d a0n:Nat)(a0:List PV)(a1 a2:Int):Ae C0 Tryz.prog fu (d+1) Jv [.own 1 a0n a0,.sc (.int .u8 a1),.sc (.int .u64 a2)]=(fun (call:Ai)=>Aa (G7 .u8 a1 5) fun x1=>Ba (decide (a2<24)) (Aa (wrap .u8 a2) fun x2=>Aa (wrap .u8 (x1+x2)) fun x3=>Ao (decide (a0n*1<=a0.length)&&true&&decide ((a0n+1)*1<=1099511627776)&&decide (a0n+1<=1099511627776))<|Aa (a0n+1) fun x4=>Aa (List.take (a0n*1) a0++[.sc (.int .u8 x3)]) fun x5=>Ao (decide (x4*1<=x5.length))<|some (Az.mk [.own 1 x4 (List.take (x4*1) x5)] [])) (Ba (decide (a2<256)) (Aa (wrap .u8 (x1+24)) fun x6=>Ao (decide (a0n*1<=a0.length)&&true&&decide ((a0n+1)*1<=1099511627776)&&decide (a0n+1<=1099511627776))<|Aa (a0n+1) fun x7=>Aa (List.take (a0n*1) a0++[.sc (.int .u8 x6)]) fun x8=>Dv fu call a0n a0 a1 a2 (fu) x7 (a2) 0 x8) (Ba (decide (a2<65536)) (Aa (wrap .u8 (x1+25)) fun x9=>Ao (decide (a0n*1<=a0.length)&&true&&decide ((a0n+1)*1<=1099511627776)&&decide (a0n+1<=1099511627776))<|Aa (a0n+1) fun Cr=>Aa (List.take (a0n*1) a0++[.sc (.int .u8 x9)]) fun C5=>Dv fu call a0n a0 a1 a2 (fu) Cr (a2) 1 C5) (Ba (decide (a2<4294967296)) (Aa (wrap .u8 (x1+26)) fun Dw=>Ao (decide (a0n*1<=a0.length)&&true&&decide ((a0n+1)*1<=1099511627776)&&decide (a0n+1<=1099511627776))<|Aa (a0n+1) fun D5=>Aa (List.take (a0n*1) a0++[.sc (.int .u8 Dw)]) fun Ds=>Dv fu call a0n a0 a1 a2 (fu) D5 (a2) 3 Ds) (Aa (wrap .u8 (x1+27)) fun Eg=>Ao (decide (a0n*1<=a0.length)&&true&&decide ((a0n+1)*1<=1099511627776)&&decide (a0n+1<=1099511627776))<|Aa (a0n+1) fun En=>Aa (List.take (a0n*1) a0++[.sc (.int .u8 Eg)]) fun E9=>Dv fu call a0n a0 a1 a2 (fu) En (a2) 7 E9))))) (Ae C0 Tryz.prog fu d):=by kernel_rfl
abbrev P1:FuncId:=102
theorem CG (fu d a0n:Nat)(a0:List PV)(a1_0 a1_1:Int)(a1_2:ByteArray):Ae C0 Tryz.prog fu (d+1) P1 [.own 1 a0n a0,.agg [.sc (.int .i64 a1_0),.sc (.int .u64 a1_1),.sc (.string a1_2)]]=(fun (call:Ai)=>Ba (a1_0==7) (Aa (wrap .u8 a1_1) fun x1=>Aa (wrap .u8 (244+x1)) fun x2=>Ao (decide (a0n*1<=a0.length)&&true&&decide ((a0n+1)*1<=1099511627776)&&decide (a0n+1<=1099511627776))<|Aa (a0n+1) fun x3=>Aa (List.take (a0n*1) a0++[.sc (.int .u8 x2)]) fun x4=>Ao (decide (x3*1<=x4.length))<|some (Az.mk [.own 1 x3 (List.take (x3*1) x4)] [])) (Ba (a1_0==8) (Ao (decide (a0n*1<=a0.length)&&true&&decide ((a0n+1)*1<=1099511627776)&&decide (a0n+1<=1099511627776))<|Aa (a0n+1) fun x5=>Aa (List.take (a0n*1) a0++[.sc (.int .u8 246)]) fun x6=>Ao (decide (x5*1<=x6.length))<|some (Az.mk [.own 1 x5 (List.take (x5*1) x6)] [])) (Ba (a1_0==3) (Aa (wrap .i64 (a1_0-1)) fun x7=>Aa (wrap .u8 x7) fun x8=>Aa (wrap .u64 (↑(ByteArray.size a1_2):Int)) fun x9=>Ao (decide (a0n*1<=a0.length))<|Ag (call 119 [.own 1 a0n (List.take (a0n*1) a0),.sc (.int .u8 x8),.sc (.int .u64 x9)]) fun Cr C5=>Ab Cr fun Dw D5=>Ep 1 Dw fun Ds Eg=>Ac D5<|Ac C5<|Ao (decide (Ds*1<=Eg.length)&&decide (List.length (Dm a1_2)=ByteArray.size a1_2*1)&&decide ((Ds+ByteArray.size a1_2)*1<=1099511627776)&&decide (Ds+ByteArray.size a1_2<=1099511627776))<|Aa (Ds+ByteArray.size a1_2) fun En=>Aa (List.take (Ds*1) Eg++Dm a1_2) fun E9=>Ao (decide (En*1<=E9.length))<|some (Az.mk [.own 1 En (List.take (En*1) E9)] [])) (Ba (a1_0==4) (Aa (wrap .i64 (a1_0-1)) fun Fq=>Aa (wrap .u8 Fq) fun Fv=>Aa (wrap .u64 (↑(ByteArray.size a1_2):Int)) fun F5=>Ao (decide (a0n*1<=a0.length))<|Ag (call 119 [.own 1 a0n (List.take (a0n*1) a0),.sc (.int .u8 Fv),.sc (.int .u64 F5)]) fun Id G6=>Ab Id fun H7 D2=>Ep 1 H7 fun Do Ga=>Ac D2<|Ac G6<|Ao (decide (Do*1<=Ga.length)&&decide (List.length (Dm a1_2)=ByteArray.size a1_2*1)&&decide ((Do+ByteArray.size a1_2)*1<=1099511627776)&&decide (Do+ByteArray.size a1_2<=1099511627776))<|Aa (Do+ByteArray.size a1_2) fun Ia=>Aa (List.take (Do*1) Ga++Dm a1_2) fun E1=>Ao (decide (Ia*1<=E1.length))<|some (Az.mk [.own 1 Ia (List.take (Ia*1) E1)] [])) (Aa (wrap .i64 (a1_0-1)) fun Ji=>Aa (wrap .u8 Ji) fun Mm=>Ao (decide (a0n*1<=a0.length))<|Ag (call 119 [.own 1 a0n (List.take (a0n*1) a0),.sc (.int .u8 Mm),.sc (.int .u64 a1_1)]) fun J5 M1=>Ab J5 fun Ms Of=>Ep 1 Ms fun P6 Q2=>Ac Of<|Ac M1<|Ao (decide (P6*1<=Q2.length))<|some (Az.mk [.own 1 P6 (List.take (P6*1) Q2)] [])))))) (Ae C0 Tryz.prog fu d):=by kernel_rfl
abbrev R7:FuncId:=90
theorem DI (fu d a0_0n:Nat)(a0_0:List PV)(a0_1:Int):Ae C0 Tryz.prog fu (d+1) R7 [.pbox [.own 3 a0_0n a0_0,.sc (.int .i64 a0_1)]]=(fun (call:Ai)=>Ba (decide (a0_1>0)) (Ao (decide (a0_0n*3<=a0_0.length))<|some (Az.mk [.sc (.bool ((↑a0_0n:Int)==0))] [[.own 3 a0_0n (List.take (a0_0n*3) a0_0),.sc (.int .i64 a0_1)]])) (Ao (decide (a0_0n*3<=a0_0.length))<|some (Az.mk [.sc (.bool false)] [[.own 3 a0_0n (List.take (a0_0n*3) a0_0),.sc (.int .i64 a0_1)]]))) (Ae C0 Tryz.prog fu d):=by kernel_rfl
abbrev P9:FuncId:=128
theorem AM (fu d a0_0n:Nat)(a0_0:List PV)(a0_1:Int):Ae C0 Tryz.prog fu (d+1) P9 [.pbox [.own 3 a0_0n a0_0,.sc (.int .i64 a0_1)]]=(fun (call:Ai)=>Ba (decide ((↑a0_0n:Int)>0)) (Aa (wrap .i64 ((↑a0_0n:Int)-1)) fun x1=>Ao (decide (0<=x1)&&decide (x1<(↑a0_0n:Int)))<|Bk (List.getD a0_0 (0+Int.toNat x1*3+0) .top) fun x2=>Ba x2 (Aa (wrap .i64 ((↑a0_0n:Int)-1)) fun x3=>Ao (decide (0<=x3)&&decide (x3<(↑a0_0n:Int)))<|Ad .i64 (List.getD a0_0 (0+Int.toNat x3*3+1) .top) fun x4=>Aa (Int.tmod x4 2) fun x5=>Ao (decide (a0_0n*3<=a0_0.length))<|some (Az.mk [.sc (.bool (x5==0))] [[.own 3 a0_0n (List.take (a0_0n*3) a0_0),.sc (.int .i64 a0_1)]])) (Ao (decide (a0_0n*3<=a0_0.length))<|some (Az.mk [.sc (.bool false)] [[.own 3 a0_0n (List.take (a0_0n*3) a0_0),.sc (.int .i64 a0_1)]]))) (Ao (decide (a0_0n*3<=a0_0.length))<|some (Az.mk [.sc (.bool false)] [[.own 3 a0_0n (List.take (a0_0n*3) a0_0),.sc (.int .i64 a0_1)]]))) (Ae C0 Tryz.prog fu d):=by kernel_rfl
abbrev Qn:FuncId:=114
theorem BQ (fu d a0_0n:Nat)(a0_0:List PV)(a0_1 a1:Int):Ae C0 Tryz.prog fu (d+1) Qn [.pbox [.own 3 a0_0n a0_0,.sc (.int .i64 a0_1)],.sc (.int .i64 a1)]=(fun (call:Ai)=>Ba (decide (a0_1>=512)) (Ao (decide (a0_0n*3<=a0_0.length))<|some (Az.mk [.sc (.int .i64 8)] [[.own 3 a0_0n (List.take (a0_0n*3) a0_0),.sc (.int .i64 a0_1)]])) (Ba (decide (a1<1)) (Ao (decide (a0_0n*3<=a0_0.length))<|some (Az.mk [.sc (.int .i64 3)] [[.own 3 a0_0n (List.take (a0_0n*3) a0_0),.sc (.int .i64 a0_1)]])) (Ba (decide (a1>8)) (Ao (decide (a0_0n*3<=a0_0.length))<|some (Az.mk [.sc (.int .i64 3)] [[.own 3 a0_0n (List.take (a0_0n*3) a0_0),.sc (.int .i64 a0_1)]])) (Ao (decide (a0_0n*3<=a0_0.length))<|Ag (call 128 [.pbox [.own 3 a0_0n (List.take (a0_0n*3) a0_0),.sc (.int .i64 a0_1)]]) fun x1 x2=>Ab x1 fun x3 x4=>Bk x3 fun x5=>Ac x4<|Ab x2 fun x6 x7=>Ab x6 fun x8 x9=>Ep 3 x8 fun Cr C5=>Ab x9 fun Dw D5=>Ad .i64 Dw fun Ds=>Ac D5<|Ac x7<|Ba x5 (Ba (a1 != 1) (Ba (a1 != 2) (Ba (a1 != 4) (Ao (decide (Cr*3<=C5.length))<|some (Az.mk [.sc (.int .i64 3)] [[.own 3 Cr (List.take (Cr*3) C5),.sc (.int .i64 Ds)]])) (Ba (decide ((↑Cr:Int)>8)) (Ao (decide (Cr*3<=C5.length))<|some (Az.mk [.sc (.int .i64 5)] [[.own 3 Cr (List.take (Cr*3) C5),.sc (.int .i64 Ds)]])) (Ao (decide (Cr*3<=C5.length))<|some (Az.mk [.sc (.int .i64 0)] [[.own 3 Cr (List.take (Cr*3) C5),.sc (.int .i64 Ds)]])))) (Ba (decide ((↑Cr:Int)>8)) (Ao (decide (Cr*3<=C5.length))<|some (Az.mk [.sc (.int .i64 5)] [[.own 3 Cr (List.take (Cr*3) C5),.sc (.int .i64 Ds)]])) (Ao (decide (Cr*3<=C5.length))<|some (Az.mk [.sc (.int .i64 0)] [[.own 3 Cr (List.take (Cr*3) C5),.sc (.int .i64 Ds)]])))) (Ba (decide ((↑Cr:Int)>8)) (Ao (decide (Cr*3<=C5.length))<|some (Az.mk [.sc (.int .i64 5)] [[.own 3 Cr (List.take (Cr*3) C5),.sc (.int .i64 Ds)]])) (Ao (decide (Cr*3<=C5.length))<|some (Az.mk [.sc (.int .i64 0)] [[.own 3 Cr (List.take (Cr*3) C5),.sc (.int .i64 Ds)]])))) (Ba (decide ((↑Cr:Int)>8)) (Ao (decide (Cr*3<=C5.length))<|some (Az.mk [.sc (.int .i64 5)] [[.own 3 Cr (List.take (Cr*3) C5),.sc (.int .i64 Ds)]])) (Ao (decide (Cr*3<=C5.length))<|some (Az.mk [.sc (.int .i64 0)] [[.own 3 Cr (List.take (Cr*3) C5),.sc (.int .i64 Ds)]]))))))) (Ae C0 Tryz.prog fu d):=by kernel_rfl
abbrev Rr:FuncId:=130
noncomputable def A8 (fu:Nat)(call:Ai)(a0_0n:Nat)(a0_0:List PV)(a0_1 a1_0 a1_1:Int)(a1_2:ByteArray)(nn:Nat)(y0:Int)(y1:Nat)(y2:Int)(y3:List PV):Option Az:=Cz CB Tryz.prog fu call 130 Tryz.f130 (Bq Tryz.f130) [.pbox [.own 3 a0_0n a0_0,.sc (.int .i64 a0_1)],.agg [.sc (.int .i64 a1_0),.sc (.int .u64 a1_1),.sc (.string a1_2)]] [.r,.r,.r,.r,.r,.r,.l] nn ⟨lk [(0,(.ptr 212000 0)),(5,(.sc (.int .i64 y0)))],B5 [(212000,(.st [(.view 212106 3 0 y1),(.sc (.int .i64 y2))])),(212106,(.ar false y3))]⟩
theorem Nl (fu:Nat)(call:Ai)(a0_0n:Nat)(a0_0:List PV)(a0_1 a1_0 a1_1:Int)(a1_2:ByteArray)(nn:Nat)(y0:Int)(y1:Nat)(y2:Int)(y3:List PV):A8 fu call a0_0n a0_0 a0_1 a1_0 a1_1 a1_2 (nn+1) y0 y1 y2 y3=(Ba (decide (y0>0)) (Aa (wrap .i64 (y0-1)) fun Q2=>Ao (decide (0<=Q2)&&decide (Q2<(↑y1:Int)))<|Ad .i64 (List.getD y3 (0+Int.toNat Q2*3+1) .top) fun Ta=>Ba (Ta==0) (Aa (wrap .i64 (y0-1)) fun G8=>Ao (decide (0<=G8))<|Ao (decide (Int.toNat G8<=y1))<|Aa (Int.toNat G8-0) fun J7=>Aa (wrap .i64 (y0-1)) fun Uy=>A8 fu call a0_0n a0_0 a0_1 a1_0 a1_1 a1_2 (nn) Uy J7 (y2) (y3)) (Ao (decide (y1*3<=y3.length))<|some (Az.mk [] [[.own 3 y1 (List.take (y1*3) y3),.sc (.int .i64 y2)]]))) (Ao (decide (y1*3<=y3.length))<|some (Az.mk [] [[.own 3 y1 (List.take (y1*3) y3),.sc (.int .i64 y2)]]))):=by kernel_rfl
theorem EM (fu d a0_0n:Nat)(a0_0:List PV)(a0_1 a1_0 a1_1:Int)(a1_2:ByteArray):Ae C0 Tryz.prog fu (d+1) Rr [.pbox [.own 3 a0_0n a0_0,.sc (.int .i64 a0_1)],.agg [.sc (.int .i64 a1_0),.sc (.int .u64 a1_1),.sc (.string a1_2)]]=(fun (call:Ai)=>Aa (wrap .i64 (a0_1+1)) fun x1=>Ba (decide ((↑a0_0n:Int)>0)) (Aa (wrap .i64 ((↑a0_0n:Int)-1)) fun x2=>Ao (decide (0<=x2)&&decide (x2<(↑a0_0n:Int)))<|Ad .i64 (List.getD a0_0 (0+Int.toNat x2*3+1) .top) fun x3=>Aa (wrap .i64 (x3-1)) fun x4=>Ao (decide (0<=x2)&&decide (x2<(↑a0_0n:Int)))<|Ao (decide (0+Int.toNat x2*3+1+1<=a0_0.length))<|Aa (Bb a0_0 [.sc (.int .i64 x4)] (0+Int.toNat x2*3+1)) fun x5=>Ba (a1_0==5) (Ba (decide (a1_1>0)) (Aa (wrap .i64 a1_1) fun x6=>Ao (decide (a0_0n*3<=x5.length)&&true&&decide ((a0_0n+1)*40<=1099511627776)&&decide (a0_0n+1<=1099511627776))<|Aa (a0_0n+1) fun x7=>Aa (List.take (a0_0n*3) x5++[.sc (.bool false),.sc (.int .i64 x6),.lst false 1 0 []]) fun x8=>Ba (a1_0==6) (Ba (decide (a1_1>0)) (Aa (wrap .i64 a1_1) fun x9=>Aa (wrap .i64 (2*x9)) fun Cr=>Ao (decide (x7*3<=x8.length)&&true&&decide ((x7+1)*40<=1099511627776)&&decide (x7+1<=1099511627776))<|Aa (x7+1) fun C5=>Aa (List.take (x7*3) x8++[.sc (.bool true),.sc (.int .i64 Cr),.lst false 1 0 []]) fun Dw=>A8 fu call a0_0n a0_0 a0_1 a1_0 a1_1 a1_2 (fu) ((↑C5:Int)) C5 x1 Dw) (A8 fu call a0_0n a0_0 a0_1 a1_0 a1_1 a1_2 (fu) ((↑x7:Int)) x7 x1 x8)) (A8 fu call a0_0n a0_0 a0_1 a1_0 a1_1 a1_2 (fu) ((↑x7:Int)) x7 x1 x8)) (Ba (a1_0==6) (Ba (decide (a1_1>0)) (Aa (wrap .i64 a1_1) fun D5=>Aa (wrap .i64 (2*D5)) fun Ds=>Ao (decide (a0_0n*3<=x5.length)&&true&&decide ((a0_0n+1)*40<=1099511627776)&&decide (a0_0n+1<=1099511627776))<|Aa (a0_0n+1) fun Eg=>Aa (List.take (a0_0n*3) x5++[.sc (.bool true),.sc (.int .i64 Ds),.lst false 1 0 []]) fun En=>A8 fu call a0_0n a0_0 a0_1 a1_0 a1_1 a1_2 (fu) ((↑Eg:Int)) Eg x1 En) (A8 fu call a0_0n a0_0 a0_1 a1_0 a1_1 a1_2 (fu) ((↑a0_0n:Int)) (a0_0n) x1 x5)) (A8 fu call a0_0n a0_0 a0_1 a1_0 a1_1 a1_2 (fu) ((↑a0_0n:Int)) (a0_0n) x1 x5))) (Ba (a1_0==6) (Ba (decide (a1_1>0)) (Aa (wrap .i64 a1_1) fun E9=>Aa (wrap .i64 (2*E9)) fun Fq=>Ao (decide (a0_0n*3<=x5.length)&&true&&decide ((a0_0n+1)*40<=1099511627776)&&decide (a0_0n+1<=1099511627776))<|Aa (a0_0n+1) fun Fv=>Aa (List.take (a0_0n*3) x5++[.sc (.bool true),.sc (.int .i64 Fq),.lst false 1 0 []]) fun F5=>A8 fu call a0_0n a0_0 a0_1 a1_0 a1_1 a1_2 (fu) ((↑Fv:Int)) Fv x1 F5) (A8 fu call a0_0n a0_0 a0_1 a1_0 a1_1 a1_2 (fu) ((↑a0_0n:Int)) (a0_0n) x1 x5)) (A8 fu call a0_0n a0_0 a0_1 a1_0 a1_1 a1_2 (fu) ((↑a0_0n:Int)) (a0_0n) x1 x5))) (Ba (a1_0==5) (Ba (decide (a1_1>0)) (Aa (wrap .i64 a1_1) fun Id=>Ao (decide (a0_0n*3<=a0_0.length)&&true&&decide ((a0_0n+1)*40<=1099511627776)&&decide (a0_0n+1<=1099511627776))<|Aa (a0_0n+1) fun G6=>Aa (List.take (a0_0n*3) a0_0++[.sc (.bool false),.sc (.int .i64 Id),.lst false 1 0 []]) fun H7=>Ba (a1_0==6) (Ba (decide (a1_1>0)) (Aa (wrap .i64 a1_1) fun D2=>Aa (wrap .i64 (2*D2)) fun Do=>Ao (decide (G6*3<=H7.length)&&true&&decide ((G6+1)*40<=1099511627776)&&decide (G6+1<=1099511627776))<|Aa (G6+1) fun Ga=>Aa (List.take (G6*3) H7++[.sc (.bool true),.sc (.int .i64 Do),.lst false 1 0 []]) fun Ia=>A8 fu call a0_0n a0_0 a0_1 a1_0 a1_1 a1_2 (fu) ((↑Ga:Int)) Ga x1 Ia) (A8 fu call a0_0n a0_0 a0_1 a1_0 a1_1 a1_2 (fu) ((↑G6:Int)) G6 x1 H7)) (A8 fu call a0_0n a0_0 a0_1 a1_0 a1_1 a1_2 (fu) ((↑G6:Int)) G6 x1 H7)) (Ba (a1_0==6) (Ba (decide (a1_1>0)) (Aa (wrap .i64 a1_1) fun E1=>Aa (wrap .i64 (2*E1)) fun Ji=>Ao (decide (a0_0n*3<=a0_0.length)&&true&&decide ((a0_0n+1)*40<=1099511627776)&&decide (a0_0n+1<=1099511627776))<|Aa (a0_0n+1) fun Mm=>Aa (List.take (a0_0n*3) a0_0++[.sc (.bool true),.sc (.int .i64 Ji),.lst false 1 0 []]) fun J5=>A8 fu call a0_0n a0_0 a0_1 a1_0 a1_1 a1_2 (fu) ((↑Mm:Int)) Mm x1 J5) (A8 fu call a0_0n a0_0 a0_1 a1_0 a1_1 a1_2 (fu) ((↑a0_0n:Int)) (a0_0n) x1 (a0_0))) (A8 fu call a0_0n a0_0 a0_1 a1_0 a1_1 a1_2 (fu) ((↑a0_0n:Int)) (a0_0n) x1 (a0_0)))) (Ba (a1_0==6) (Ba (decide (a1_1>0)) (Aa (wrap .i64 a1_1) fun M1=>Aa (wrap .i64 (2*M1)) fun Ms=>Ao (decide (a0_0n*3<=a0_0.length)&&true&&decide ((a0_0n+1)*40<=1099511627776)&&decide (a0_0n+1<=1099511627776))<|Aa (a0_0n+1) fun Of=>Aa (List.take (a0_0n*3) a0_0++[.sc (.bool true),.sc (.int .i64 Ms),.lst false 1 0 []]) fun P6=>A8 fu call a0_0n a0_0 a0_1 a1_0 a1_1 a1_2 (fu) ((↑Of:Int)) Of x1 P6) (A8 fu call a0_0n a0_0 a0_1 a1_0 a1_1 a1_2 (fu) ((↑a0_0n:Int)) (a0_0n) x1 (a0_0))) (A8 fu call a0_0n a0_0 a0_1 a1_0 a1_1 a1_2 (fu) ((↑a0_0n:Int)) (a0_0n) x1 (a0_0))))) (Ae C0 Tryz.prog fu d):=by kernel_rfl
abbrev I2:FuncId:=115
theorem Iz (fu d a0_0n:Nat)(a0_0:List PV)(a0_1 a1_0 a1_1:Int)(a1_2:ByteArray):Ae C0 Tryz.prog fu (d+1) I2 [.pbox [.own 3 a0_0n a0_0,.sc (.int .i64 a0_1)],.agg [.sc (.int .i64 a1_0),.sc (.int .u64 a1_1),.sc (.string a1_2)]]=(fun (call:Ai)=>Ba (a1_0==4) (Ag (call 56 [.sc (.string a1_2)]) fun x1 x2=>Ac x2<|Ab x1 fun x3 x4=>Bk x3 fun x5=>Ac x4<|Ba (!x5) (Ao (decide (a0_0n*3<=a0_0.length))<|some (Az.mk [.sc (.int .i64 6)] [[.own 3 a0_0n (List.take (a0_0n*3) a0_0),.sc (.int .i64 a0_1)]])) (Ao (decide (a0_0n*3<=a0_0.length))<|Ag (call 128 [.pbox [.own 3 a0_0n (List.take (a0_0n*3) a0_0),.sc (.int .i64 a0_1)]]) fun x6 x7=>Ab x6 fun x8 x9=>Bk x8 fun Cr=>Ac x9<|Ab x7 fun C5 Dw=>Ab C5 fun D5 Ds=>Ep 3 D5 fun Eg En=>Ab Ds fun E9 Fq=>Ad .i64 E9 fun Fv=>Ac Fq<|Ac Dw<|Ba Cr (Aa (wrap .i64 ((↑Eg:Int)-1)) fun F5=>Ao (decide (0<=F5)&&decide (F5<(↑Eg:Int)))<|Ag (call 102 [.own 1 0 [],.agg [.sc (.int .i64 a1_0),.sc (.int .u64 a1_1),.sc (.string a1_2)]]) fun Id G6=>Ab Id fun H7 D2=>Ep 1 H7 fun Do Ga=>Ac D2<|Ac G6<|Fd 1 (List.getD En (0+Int.toNat F5*3+0+2) .top) fun Ia E1 Ji=>Ba (decide (0<E1)) (Fd 1 (List.getD En (0+Int.toNat F5*3+0+2) .top) fun Mm J5 M1=>Ao (decide (0+Do*1<=Ga.length))<|Ag (call 129 [.lst false 1 J5 M1,.lst false 1 Do (List.take (Do*1) (List.drop 0 Ga))]) fun Ms Of=>Ac Of<|Ab Ms fun P6 Q2=>Bk P6 fun Ta=>Ac Q2<|Ba (!Ta) (Ao (decide (Eg*3<=En.length))<|some (Az.mk [.sc (.int .i64 7)] [[.own 3 Eg (List.take (Eg*3) En),.sc (.int .i64 Fv)]])) (Ao (decide (0+Int.toNat F5*3+0+2+1<=En.length))<|Ao (decide (0+Do*1<=Ga.length))<|Aa (Bb En [.lst false 1 Do (List.take (Do*1) (List.drop 0 Ga))] (0+Int.toNat F5*3+0+2)) fun G8=>Ao (decide (Eg*3<=G8.length))<|Ag (call 130 [.pbox [.own 3 Eg (List.take (Eg*3) G8),.sc (.int .i64 Fv)],.agg [.sc (.int .i64 a1_0),.sc (.int .u64 a1_1),.sc (.string a1_2)]]) fun J7 Uy=>Ac J7<|Ab Uy fun Zh Ps=>Ab Zh fun Us Uc=>Ep 3 Us fun Sk Tp=>Ab Uc fun Xk X9=>Ad .i64 Xk fun Tb=>Ac X9<|Ac Ps<|Ao (decide (Sk*3<=Tp.length))<|some (Az.mk [.sc (.int .i64 0)] [[.own 3 Sk (List.take (Sk*3) Tp),.sc (.int .i64 Tb)]]))) (Xv (Fd 1 (List.getD En (0+Int.toNat F5*3+0+2) .top) fun V2 Xq Xf=>Ao (decide (0+Do*1<=Ga.length))<|Ag (call 129 [.lst false 1 Xq Xf,.lst false 1 Do (List.take (Do*1) (List.drop 0 Ga))]) fun Pk Y9=>Ac Y9<|Ab Pk fun CK CJ=>Bk CK fun Zj=>Ac CJ<|Ba (!Zj) (Ao (decide (Eg*3<=En.length))<|some (Az.mk [.sc (.int .i64 7)] [[.own 3 Eg (List.take (Eg*3) En),.sc (.int .i64 Fv)]])) (Ao (decide (0+Int.toNat F5*3+0+2+1<=En.length))<|Ao (decide (0+Do*1<=Ga.length))<|Aa (Bb En [.lst false 1 Do (List.take (Do*1) (List.drop 0 Ga))] (0+Int.toNat F5*3+0+2)) fun Ud=>Ao (decide (Eg*3<=Ud.length))<|Ag (call 130 [.pbox [.own 3 Eg (List.take (Eg*3) Ud),.sc (.int .i64 Fv)],.agg [.sc (.int .i64 a1_0),.sc (.int .u64 a1_1),.sc (.string a1_2)]]) fun Yn CI=>Ac Yn<|Ab CI fun Yq Zk=>Ab Yq fun Yb Zi=>Ep 3 Yb fun BO Va=>Ab Zi fun Xe CR=>Ad .i64 Xe fun CD=>Ac CR<|Ac Zk<|Ao (decide (BO*3<=Va.length))<|some (Az.mk [.sc (.int .i64 0)] [[.own 3 BO (List.take (BO*3) Va),.sc (.int .i64 CD)]]))) (Ao (decide (0+Int.toNat F5*3+0+2+1<=En.length))<|Ao (decide (0+Do*1<=Ga.length))<|Aa (Bb En [.lst false 1 Do (List.take (Do*1) (List.drop 0 Ga))] (0+Int.toNat F5*3+0+2)) fun Zo=>Ao (decide (Eg*3<=Zo.length))<|Ag (call 130 [.pbox [.own 3 Eg (List.take (Eg*3) Zo),.sc (.int .i64 Fv)],.agg [.sc (.int .i64 a1_0),.sc (.int .u64 a1_1),.sc (.string a1_2)]]) fun Y4 CF=>Ac Y4<|Ab CF fun HH AJ=>Ab HH fun EI HG=>Ep 3 EI fun CL FS=>Ab HG fun JJ II=>Ad .i64 JJ fun VJ=>Ac II<|Ac AJ<|Ao (decide (CL*3<=FS.length))<|some (Az.mk [.sc (.int .i64 0)] [[.own 3 CL (List.take (CL*3) FS),.sc (.int .i64 VJ)]])))) (Ao (decide (Eg*3<=En.length))<|Ag (call 130 [.pbox [.own 3 Eg (List.take (Eg*3) En),.sc (.int .i64 Fv)],.agg [.sc (.int .i64 a1_0),.sc (.int .u64 a1_1),.sc (.string a1_2)]]) fun SX QW=>Ac SX<|Ab QW fun SP XJ=>Ab SP fun WY SZ=>Ep 3 WY fun QX GR=>Ab SZ fun NU QN=>Ad .i64 NU fun WP=>Ac QN<|Ac XJ<|Ao (decide (QX*3<=GR.length))<|some (Az.mk [.sc (.int .i64 0)] [[.own 3 QX (List.take (QX*3) GR),.sc (.int .i64 WP)]])))) (Ao (decide (a0_0n*3<=a0_0.length))<|Ag (call 128 [.pbox [.own 3 a0_0n (List.take (a0_0n*3) a0_0),.sc (.int .i64 a0_1)]]) fun TJ ZS=>Ab TJ fun XN ZK=>Bk XN fun SU=>Ac ZK<|Ab ZS fun XF XK=>Ab XF fun Wn Vm=>Ep 3 Wn fun Hp D4=>Ab Vm fun Yy R5=>Ad .i64 Yy fun Q5=>Ac R5<|Ac XK<|Ba SU (Aa (wrap .i64 ((↑Hp:Int)-1)) fun Kd=>Ao (decide (0<=Kd)&&decide (Kd<(↑Hp:Int)))<|Ag (call 102 [.own 1 0 [],.agg [.sc (.int .i64 a1_0),.sc (.int .u64 a1_1),.sc (.string a1_2)]]) fun AB Yp=>Ab AB fun Yd AU=>Ep 1 Yd fun Ie Jw=>Ac AU<|Ac Yp<|Fd 1 (List.getD D4 (0+Int.toNat Kd*3+0+2) .top) fun X8 Yt Zc=>Ba (decide (0<Yt)) (Fd 1 (List.getD D4 (0+Int.toNat Kd*3+0+2) .top) fun DD S1 V5=>Ao (decide (0+Ie*1<=Jw.length))<|Ag (call 129 [.lst false 1 S1 V5,.lst false 1 Ie (List.take (Ie*1) (List.drop 0 Jw))]) fun Wy W5=>Ac W5<|Ab Wy fun X1 Zr=>Bk X1 fun Rf=>Ac Zr<|Ba (!Rf) (Ao (decide (Hp*3<=D4.length))<|some (Az.mk [.sc (.int .i64 7)] [[.own 3 Hp (List.take (Hp*3) D4),.sc (.int .i64 Q5)]])) (Ao (decide (0+Int.toNat Kd*3+0+2+1<=D4.length))<|Ao (decide (0+Ie*1<=Jw.length))<|Aa (Bb D4 [.lst false 1 Ie (List.take (Ie*1) (List.drop 0 Jw))] (0+Int.toNat Kd*3+0+2)) fun Q0=>Ao (decide (Hp*3<=Q0.length))<|Ag (call 130 [.pbox [.own 3 Hp (List.take (Hp*3) Q0),.sc (.int .i64 Q5)],.agg [.sc (.int .i64 a1_0),.sc (.int .u64 a1_1),.sc (.string a1_2)]]) fun Pr Sq=>Ac Pr<|Ab Sq fun Ra Wt=>Ab Ra fun V4 CV=>Ep 3 V4 fun X6 Uz=>Ab CV fun GI LD=>Ad .i64 GI fun IW=>Ac LD<|Ac Wt<|Ao (decide (X6*3<=Uz.length))<|some (Az.mk [.sc (.int .i64 0)] [[.own 3 X6 (List.take (X6*3) Uz),.sc (.int .i64 IW)]]))) (Xv (Fd 1 (List.getD D4 (0+Int.toNat Kd*3+0+2) .top) fun MT IB CW=>Ao (decide (0+Ie*1<=Jw.length))<|Ag (call 129 [.lst false 1 IB CW,.lst false 1 Ie (List.take (Ie*1) (List.drop 0 Jw))]) fun GY HW=>Ac HW<|Ab GY fun IM KE=>Bk IM fun CM=>Ac KE<|Ba (!CM) (Ao (decide (Hp*3<=D4.length))<|some (Az.mk [.sc (.int .i64 7)] [[.own 3 Hp (List.take (Hp*3) D4),.sc (.int .i64 Q5)]])) (Ao (decide (0+Int.toNat Kd*3+0+2+1<=D4.length))<|Ao (decide (0+Ie*1<=Jw.length))<|Aa (Bb D4 [.lst false 1 Ie (List.take (Ie*1) (List.drop 0 Jw))] (0+Int.toNat Kd*3+0+2)) fun GN=>Ao (decide (Hp*3<=GN.length))<|Ag (call 130 [.pbox [.own 3 Hp (List.take (Hp*3) GN),.sc (.int .i64 Q5)],.agg [.sc (.int .i64 a1_0),.sc (.int .u64 a1_1),.sc (.string a1_2)]]) fun GU GM=>Ac GU<|Ab GM fun KN RH=>Ab KN fun WO QM=>Ep 3 WO fun DP MN=>Ab QM fun SH Aas=>Ad .i64 SH fun ZP=>Ac Aas<|Ac RH<|Ao (decide (DP*3<=MN.length))<|some (Az.mk [.sc (.int .i64 0)] [[.own 3 DP (List.take (DP*3) MN),.sc (.int .i64 ZP)]]))) (Ao (decide (0+Int.toNat Kd*3+0+2+1<=D4.length))<|Ao (decide (0+Ie*1<=Jw.length))<|Aa (Bb D4 [.lst false 1 Ie (List.take (Ie*1) (List.drop 0 Jw))] (0+Int.toNat Kd*3+0+2)) fun UO=>Ao (decide (Hp*3<=UO.length))<|Ag (call 130 [.pbox [.own 3 Hp (List.take (Hp*3) UO),.sc (.int .i64 Q5)],.agg [.sc (.int .i64 a1_0),.sc (.int .u64 a1_1),.sc (.string a1_2)]]) fun SA VK=>Ac SA<|Ab VK fun Aai YO=>Ab Aai fun UN YK=>Ep 3 UN fun RS XO=>Ab YK fun XQ QV=>Ad .i64 XQ fun UR=>Ac QV<|Ac YO<|Ao (decide (RS*3<=XO.length))<|some (Az.mk [.sc (.int .i64 0)] [[.own 3 RS (List.take (RS*3) XO),.sc (.int .i64 UR)]])))) (Ao (decide (Hp*3<=D4.length))<|Ag (call 130 [.pbox [.own 3 Hp (List.take (Hp*3) D4),.sc (.int .i64 Q5)],.agg [.sc (.int .i64 a1_0),.sc (.int .u64 a1_1),.sc (.string a1_2)]]) fun XR ZV=>Ac XR<|Ab ZV fun ZT Ago=>Ab ZT fun Ahr Aft=>Ep 3 Ahr fun ZQ Aed=>Ab Aft fun Agt Ahh=>Ad .i64 Agt fun Aim=>Ac Ahh<|Ac Ago<|Ao (decide (ZQ*3<=Aed.length))<|some (Az.mk [.sc (.int .i64 0)] [[.own 3 ZQ (List.take (ZQ*3) Aed),.sc (.int .i64 Aim)]])))) (Ae C0 Tryz.prog fu d):=by kernel_rfl
abbrev Nn:FuncId:=118
theorem W7 (fu d a0_0n:Nat)(a0_0:List PV)(a0_1 a1_0 a1_1:Int)(a1_2:ByteArray):Ae C0 Tryz.prog fu (d+1) Nn [.pbox [.own 3 a0_0n a0_0,.sc (.int .i64 a0_1)],.agg [.sc (.int .i64 a1_0),.sc (.int .u64 a1_1),.sc (.string a1_2)]]=(fun (call:Ai)=>Ao (decide (a0_0n*3<=a0_0.length))<|Ag (call 90 [.pbox [.own 3 a0_0n (List.take (a0_0n*3) a0_0),.sc (.int .i64 a0_1)]]) fun x1 x2=>Ab x1 fun x3 x4=>Bk x3 fun x5=>Ac x4<|Ab x2 fun x6 x7=>Ab x6 fun x8 x9=>Ep 3 x8 fun Cr C5=>Ab x9 fun Dw D5=>Ad .i64 Dw fun Ds=>Ac D5<|Ac x7<|Ba x5 (Ao (decide (Cr*3<=C5.length))<|some (Az.mk [.sc (.int .i64 2)] [[.own 3 Cr (List.take (Cr*3) C5),.sc (.int .i64 Ds)]])) (Ao (decide (Cr*3<=C5.length))<|Ag (call 114 [.pbox [.own 3 Cr (List.take (Cr*3) C5),.sc (.int .i64 Ds)],.sc (.int .i64 a1_0)]) fun Eg En=>Ab Eg fun E9 Fq=>Ad .i64 E9 fun Fv=>Ac Fq<|Ab En fun F5 Id=>Ab F5 fun G6 H7=>Ep 3 G6 fun D2 Do=>Ab H7 fun Ga Ia=>Ad .i64 Ga fun E1=>Ac Ia<|Ac Id<|Ba (Fv != 0) (Ao (decide (D2*3<=Do.length))<|some (Az.mk [.sc (.int .i64 Fv)] [[.own 3 D2 (List.take (D2*3) Do),.sc (.int .i64 E1)]])) (Ag (call 131 [.agg [.sc (.int .i64 a1_0),.sc (.int .u64 a1_1),.sc (.string a1_2)]]) fun Ji Mm=>Ac Mm<|Ab Ji fun J5 M1=>Bk J5 fun Ms=>Ac M1<|Ba (!Ms) (Ao (decide (D2*3<=Do.length))<|some (Az.mk [.sc (.int .i64 4)] [[.own 3 D2 (List.take (D2*3) Do),.sc (.int .i64 E1)]])) (Ba (decide ((↑(ByteArray.size a1_2):Int)>1024)) (Ao (decide (D2*3<=Do.length))<|some (Az.mk [.sc (.int .i64 8)] [[.own 3 D2 (List.take (D2*3) Do),.sc (.int .i64 E1)]])) (Ba (a1_0==5) (Ba (decide (a1_1>512)) (Ao (decide (D2*3<=Do.length))<|some (Az.mk [.sc (.int .i64 8)] [[.own 3 D2 (List.take (D2*3) Do),.sc (.int .i64 E1)]])) (Ao (decide (D2*3<=Do.length))<|Ag (call 115 [.pbox [.own 3 D2 (List.take (D2*3) Do),.sc (.int .i64 E1)],.agg [.sc (.int .i64 a1_0),.sc (.int .u64 a1_1),.sc (.string a1_2)]]) fun Of P6=>Ab Of fun Q2 Ta=>Ad .i64 Q2 fun G8=>Ac Ta<|Ab P6 fun J7 Uy=>Ab J7 fun Zh Ps=>Ep 3 Zh fun Us Uc=>Ab Ps fun Sk Tp=>Ad .i64 Sk fun Xk=>Ac Tp<|Ac Uy<|Ao (decide (Us*3<=Uc.length))<|some (Az.mk [.sc (.int .i64 G8)] [[.own 3 Us (List.take (Us*3) Uc),.sc (.int .i64 Xk)]]))) (Ba (a1_0==6) (Ba (decide (a1_1>512)) (Ao (decide (D2*3<=Do.length))<|some (Az.mk [.sc (.int .i64 8)] [[.own 3 D2 (List.take (D2*3) Do),.sc (.int .i64 E1)]])) (Ao (decide (D2*3<=Do.length))<|Ag (call 115 [.pbox [.own 3 D2 (List.take (D2*3) Do),.sc (.int .i64 E1)],.agg [.sc (.int .i64 a1_0),.sc (.int .u64 a1_1),.sc (.string a1_2)]]) fun X9 Tb=>Ab X9 fun V2 Xq=>Ad .i64 V2 fun Xf=>Ac Xq<|Ab Tb fun Pk Y9=>Ab Pk fun CK CJ=>Ep 3 CK fun Zj Ud=>Ab CJ fun Yn CI=>Ad .i64 Yn fun Yq=>Ac CI<|Ac Y9<|Ao (decide (Zj*3<=Ud.length))<|some (Az.mk [.sc (.int .i64 Xf)] [[.own 3 Zj (List.take (Zj*3) Ud),.sc (.int .i64 Yq)]]))) (Ao (decide (D2*3<=Do.length))<|Ag (call 115 [.pbox [.own 3 D2 (List.take (D2*3) Do),.sc (.int .i64 E1)],.agg [.sc (.int .i64 a1_0),.sc (.int .u64 a1_1),.sc (.string a1_2)]]) fun Zk Yb=>Ab Zk fun Zi BO=>Ad .i64 Zi fun Va=>Ac BO<|Ab Yb fun Xe CR=>Ab Xe fun CD Zo=>Ep 3 CD fun Y4 CF=>Ab Zo fun HH AJ=>Ad .i64 HH fun EI=>Ac AJ<|Ac CR<|Ao (decide (Y4*3<=CF.length))<|some (Az.mk [.sc (.int .i64 Va)] [[.own 3 Y4 (List.take (Y4*3) CF),.sc (.int .i64 EI)]])))))))) (Ae C0 Tryz.prog fu d):=by kernel_rfl
abbrev Ts:FuncId:=101
noncomputable def H1 (fu:Nat)(call:Ai)(a0n:Nat)(a0:List PV)(nn y0:Nat)(y1:List PV)(y2 y3:Int)(y4:Nat)(y5:Int)(y6:List PV):Option Az:=Cz CB Tryz.prog fu call 101 Tryz.f101 (Bq Tryz.f101) [.lst false 3 a0n a0] [.r,.r,.l,.r,.l] nn ⟨lk [(3,(.ptr 3 0)),(7,(.lst false 3 y0 y1)),(8,(.sc (.int .i64 y2))),(9,(.sc (.int .i64 y3)))],B5 [(3,(.st [(.view 25 3 0 y4),(.sc (.int .i64 y5))])),(25,(.ar false y6))]⟩
theorem O6 (fu:Nat)(call:Ai)(a0n:Nat)(a0:List PV)(nn y0:Nat)(y1:List PV)(y2 y3:Int)(y4:Nat)(y5:Int)(y6:List PV):H1 fu call a0n a0 (nn+1) y0 y1 y2 y3 y4 y5 y6=(Ba (decide (y3<y2)) (Ao (decide (0<=y3)&&decide (y3<(↑y0:Int)))<|Ad .i64 (List.getD y1 (Int.toNat y3*3) .top) fun x1=>Ad .u64 (List.getD y1 (Int.toNat y3*3+1) .top) fun x2=>Cj (List.getD y1 (Int.toNat y3*3+1+1) .top) fun x3=>Ao (decide (y4*3<=y6.length))<|Ag (call 118 [.pbox [.own 3 y4 (List.take (y4*3) y6),.sc (.int .i64 y5)],.agg [.sc (.int .i64 x1),.sc (.int .u64 x2),.sc (.string x3)]]) fun x4 x5=>Ab x4 fun x6 x7=>Ad .i64 x6 fun x8=>Ac x7<|Ab x5 fun x9 Cr=>Ab x9 fun C5 Dw=>Ep 3 C5 fun D5 Ds=>Ab Dw fun Eg En=>Ad .i64 Eg fun E9=>Ac En<|Ac Cr<|Ba (x8 != 0) (some (Az.mk [.sc (.int .i64 x8)] [])) (Aa (wrap .i64 (y3+1)) fun Fq=>H1 fu call a0n a0 (nn) (y0) (y1) (y2) Fq D5 E9 Ds)) (Ao (decide (y4*3<=y6.length))<|Ag (call 90 [.pbox [.own 3 y4 (List.take (y4*3) y6),.sc (.int .i64 y5)]]) fun Fv F5=>Ab Fv fun Id G6=>Bk Id fun H7=>Ac G6<|Ab F5 fun D2 Do=>Ab D2 fun Ga Ia=>Ep 3 Ga fun E1 Ji=>Ab Ia fun Mm J5=>Ad .i64 Mm fun M1=>Ac J5<|Ac Do<|Ba (!H7) (some (Az.mk [.sc (.int .i64 1)] [])) (some (Az.mk [.sc (.int .i64 0)] [])))):=by kernel_rfl
theorem GT (fu d a0n:Nat)(a0:List PV):Ae C0 Tryz.prog fu (d+1) Ts [.lst false 3 a0n a0]=(fun (call:Ai)=>H1 fu call a0n a0 (fu) (a0n) (a0) ((↑a0n:Int)) 0 0 0 ([])) (Ae C0 Tryz.prog fu d):=by kernel_rfl
abbrev U8:FuncId:=100
theorem JW (fu d a0n:Nat)(a0:List PV):Ae C0 Tryz.prog fu (d+1) U8 [.own 3 a0n a0]=(fun (call:Ai)=>Ao (decide (0+a0n*3<=a0.length))<|Ag (call 101 [.lst false 3 a0n (List.take (a0n*3) (List.drop 0 a0))]) fun x1 x2=>Ac x2<|Ab x1 fun x3 x4=>Ad .i64 x3 fun x5=>Ac x4<|Ba (x5 != 0) (some (Az.mk [.own 3 0 [],.sc (.int .i64 x5)] [])) (Ao (decide (a0n*3<=a0.length))<|some (Az.mk [.own 3 a0n (List.take (a0n*3) a0),.sc (.int .i64 0)] []))) (Ae C0 Tryz.prog fu d):=by kernel_rfl
abbrev Xn:FuncId:=99
noncomputable def Jo (fu:Nat)(call:Ai)(a0n:Nat)(a0:List PV)(nn y0:Nat)(y1:List PV)(y2 y3:Int):Option Az:=Cz CB Tryz.prog fu call 99 Tryz.f99 (Bq Tryz.f99) [.lst false 1 a0n a0] [.r,.l,.r,.l] nn ⟨lk [(6,(.lst false 1 y0 y1)),(7,(.sc (.int .i64 y2))),(8,(.sc (.int .i64 y3)))],B5 []⟩
theorem R8 (fu:Nat)(call:Ai)(a0n:Nat)(a0:List PV)(nn y0:Nat)(y1:List PV)(y2 y3:Int):Jo fu call a0n a0 (nn+1) y0 y1 y2 y3=(Ba (decide (y3<y2)) (Ao (decide (0<=y3)&&decide (y3<(↑y0:Int)))<|Fd 3 (List.getD y1 (Int.toNat y3*1) .top) fun x1 x2 x3=>Ag (call 101 [.lst false 3 x2 x3]) fun x4 x5=>Ac x5<|Ab x4 fun x6 x7=>Ad .i64 x6 fun x8=>Ac x7<|Ba (x8 != 0) (some (Az.mk [.sc (.int .i64 x8)] [])) (Aa (wrap .i64 (y3+1)) fun x9=>Jo fu call a0n a0 (nn) (y0) (y1) (y2) x9)) (some (Az.mk [.sc (.int .i64 0)] []))):=by kernel_rfl
theorem MR (fu d a0n:Nat)(a0:List PV):Ae C0 Tryz.prog fu (d+1) Xn [.lst false 1 a0n a0]=(fun (call:Ai)=>Jo fu call a0n a0 (fu) (a0n) (a0) ((↑a0n:Int)) 0) (Ae C0 Tryz.prog fu d):=by kernel_rfl
abbrev Tg:FuncId:=67
noncomputable def Lq (fu:Nat)(call:Ai)(a0n:Nat)(a0:List PV)(nn y0 y1:Nat)(y2:List PV)(y3 y4:Int)(y5:List PV):Option Az:=Cz CB Tryz.prog fu call 67 Tryz.f67 (Bq Tryz.f67) [.lst false 1 a0n a0] [.r,.r,.r,.l,.r,.l] nn ⟨lk [(5,(.view 5 3 0 y0)),(18,(.lst false 1 y1 y2)),(19,(.sc (.int .i64 y3))),(20,(.sc (.int .i64 y4)))],B5 [(5,(.ar false y5))]⟩
theorem Tn (fu:Nat)(call:Ai)(a0n:Nat)(a0:List PV)(nn y0 y1:Nat)(y2:List PV)(y3 y4:Int)(y5:List PV):Lq fu call a0n a0 (nn+1) y0 y1 y2 y3 y4 y5=(Ba (decide (y4<y3)) (Ao (decide (0<=y4)&&decide (y4<(↑y1:Int)))<|Fd 3 (List.getD y2 (Int.toNat y4*1) .top) fun x7 x8 x9=>Ba (decide ((↑y0:Int)>512)) (Ao (decide (y0*3<=y5.length))<|Ag (call 100 [.own 3 y0 (List.take (y0*3) y5)]) fun Cr C5=>Ab Cr fun Dw D5=>Ep 3 Dw fun Ds Eg=>Ab D5 fun En E9=>Ad .i64 En fun Fq=>Ac E9<|Ac C5<|Ao (decide (Ds*3<=Eg.length))<|some (Az.mk [.own 3 Ds (List.take (Ds*3) Eg),.sc (.int .i64 Fq)] [])) (Ao (decide (y0*3<=y5.length)&&decide (x9.length=x8*3)&&decide ((y0+x8)*32<=1099511627776)&&decide (y0+x8<=1099511627776))<|Aa (y0+x8) fun Fv=>Aa (List.take (y0*3) y5++x9) fun F5=>Aa (wrap .i64 (y4+1)) fun Id=>Lq fu call a0n a0 (nn) Fv (y1) (y2) (y3) Id F5)) (Ao (decide (y0*3<=y5.length))<|Ag (call 100 [.own 3 y0 (List.take (y0*3) y5)]) fun G6 H7=>Ab G6 fun D2 Do=>Ep 3 D2 fun Ga Ia=>Ab Do fun E1 Ji=>Ad .i64 E1 fun Mm=>Ac Ji<|Ac H7<|Ao (decide (Ga*3<=Ia.length))<|some (Az.mk [.own 3 Ga (List.take (Ga*3) Ia),.sc (.int .i64 Mm)] []))):=by kernel_rfl
theorem QD (fu d a0n:Nat)(a0:List PV):Ae C0 Tryz.prog fu (d+1) Tg [.lst false 1 a0n a0]=(fun (call:Ai)=>Ag (call 99 [.lst false 1 a0n a0]) fun x1 x2=>Ac x2<|Ab x1 fun x3 x4=>Ad .i64 x3 fun x5=>Ac x4<|Ba (x5 != 0) (some (Az.mk [.own 3 0 [],.sc (.int .i64 x5)] [])) (Aa (wrap .u64 (↑a0n:Int)) fun x6=>Lq fu call a0n a0 (fu) 1 (a0n) (a0) ((↑a0n:Int)) 0 ([.sc (.int .i64 5),.sc (.int .u64 x6),.sc (.string (ByteArray.mk #[]))]))) (Ae C0 Tryz.prog fu d):=by kernel_rfl
abbrev Qx:FuncId:=72
noncomputable def Jq (fu:Nat)(call:Ai)(a0n:Nat)(a0:List PV)(nn y0 y1:Nat)(y2:List PV)(y3 y4:Int)(y5:List PV):Option Az:=Cz CB Tryz.prog fu call 72 Tryz.f72 (Bq Tryz.f72) [.lst false 3 a0n a0] [.r,.r,.r,.l,.r,.l] nn ⟨lk [(5,(.view 5 1 0 y0)),(13,(.lst false 3 y1 y2)),(14,(.sc (.int .i64 y3))),(15,(.sc (.int .i64 y4)))],B5 [(5,(.ar false y5))]⟩
theorem Q6 (fu:Nat)(call:Ai)(a0n:Nat)(a0:List PV)(nn y0 y1:Nat)(y2:List PV)(y3 y4:Int)(y5:List PV):Jq fu call a0n a0 (nn+1) y0 y1 y2 y3 y4 y5=(Ba (decide (y4<y3)) (Ao (decide (0<=y4)&&decide (y4<(↑y1:Int)))<|Ad .i64 (List.getD y2 (Int.toNat y4*3) .top) fun x6=>Ad .u64 (List.getD y2 (Int.toNat y4*3+1) .top) fun x7=>Cj (List.getD y2 (Int.toNat y4*3+1+1) .top) fun x8=>Ao (decide (y0*1<=y5.length))<|Ag (call 102 [.own 1 y0 (List.take (y0*1) y5),.agg [.sc (.int .i64 x6),.sc (.int .u64 x7),.sc (.string x8)]]) fun x9 Cr=>Ab x9 fun C5 Dw=>Ep 1 C5 fun D5 Ds=>Ac Dw<|Ac Cr<|Aa (wrap .i64 (y4+1)) fun Eg=>Jq fu call a0n a0 (nn) D5 (y1) (y2) (y3) Eg Ds) (Ao (decide (y0*1<=y5.length))<|some (Az.mk [.own 1 y0 (List.take (y0*1) y5),.sc (.int .i64 0)] []))):=by kernel_rfl
theorem MD (fu d a0n:Nat)(a0:List PV):Ae C0 Tryz.prog fu (d+1) Qx [.lst false 3 a0n a0]=(fun (call:Ai)=>Ag (call 101 [.lst false 3 a0n a0]) fun x1 x2=>Ac x2<|Ab x1 fun x3 x4=>Ad .i64 x3 fun x5=>Ac x4<|Ba (x5 != 0) (some (Az.mk [.own 1 0 [],.sc (.int .i64 x5)] [])) (Jq fu call a0n a0 (fu) 0 (a0n) (a0) ((↑a0n:Int)) 0 ([]))) (Ae C0 Tryz.prog fu d):=by kernel_rfl
end
section
open Go.IntKind (wrap)
set_option maxRecDepth 100000
abbrev Om:FuncId:=116
noncomputable def C8 (fu:Nat)(call:Ai)(a0_0 a0_1:Int)(a0_2:ByteArray)(nn:Nat)(y0 y1:Int):Option Az:=Cz CB Tryz.prog fu call 116 Tryz.f116 (Bq Tryz.f116) [.agg [.sc (.int .i64 a0_0),.sc (.int .u64 a0_1),.sc (.string a0_2)]] [.r,.r,.r] nn ⟨lk [(3,(.sc (.int .u64 y0))),(4,(.sc (.int .u8 y1)))],B5 []⟩
theorem Ug (fu:Nat)(call:Ai)(a0_0 a0_1:Int)(a0_2:ByteArray)(nn:Nat)(hnn:0<nn)(y0 y1:Int):C8 fu call a0_0 a0_1 a0_2 nn y0 y1=(Ba (decide (y0<24)) (Aa (wrap .u8 y0) fun x5=>Aa (wrap .u8 (y1+x5)) fun x6=>some (Az.mk [.own 1 1 [.sc (.int .u8 x6)]] [])) (Ba (decide (y0<256)) (Aa (wrap .u8 (y1+24)) fun x7=>Aa (wrap .u8 y0) fun x8=>some (Az.mk [.own 1 2 [.sc (.int .u8 x7),.sc (.int .u8 x8)]] [])) (Ba (decide (y0<65536)) (Aa (wrap .u8 (y1+25)) fun x9=>Aa (D6 .u64 y0 8) fun Cr=>Aa (wrap .u8 Cr) fun C5=>Aa (wrap .u8 y0) fun Dw=>some (Az.mk [.own 1 3 [.sc (.int .u8 x9),.sc (.int .u8 C5),.sc (.int .u8 Dw)]] [])) (Ba (decide (y0<4294967296)) (Aa (wrap .u8 (y1+26)) fun D5=>Aa (D6 .u64 y0 24) fun Ds=>Aa (wrap .u8 Ds) fun Eg=>Aa (D6 .u64 y0 16) fun En=>Aa (wrap .u8 En) fun E9=>Aa (D6 .u64 y0 8) fun Fq=>Aa (wrap .u8 Fq) fun Fv=>Aa (wrap .u8 y0) fun F5=>some (Az.mk [.own 1 5 [.sc (.int .u8 D5),.sc (.int .u8 Eg),.sc (.int .u8 E9),.sc (.int .u8 Fv),.sc (.int .u8 F5)]] [])) (Aa (wrap .u8 (y1+27)) fun Id=>Ag (call 84 [.lst false 1 1 [.sc (.int .u64 y0)]]) fun G6 H7=>Ac H7<|Ab G6 fun D2 Do=>Ep 1 D2 fun Ga Ia=>Ac Do<|Ao (decide (0+Ga*1<=Ia.length))<|Ao (decide (List.length (List.take (Ga*1) (List.drop 0 Ia))=Ga*1)&&decide ((1+Ga)*1<=1099511627776)&&decide (1+Ga<=1099511627776))<|Aa (1+Ga) fun E1=>Aa ([.sc (.int .u8 Id)]++List.take (Ga*1) (List.drop 0 Ia)) fun Ji=>Ao (decide (E1*1<=Ji.length))<|some (Az.mk [.own 1 E1 (List.take (E1*1) Ji)] [])))))):=by cases nn with|zero=>exact absurd hnn (Nat.lt_irrefl 0)|succ nn=>kernel_rfl
theorem Yu (fu d:Nat)(a0_0 a0_1:Int)(a0_2:ByteArray):Ae C0 Tryz.prog fu (d+1) Om [.agg [.sc (.int .i64 a0_0),.sc (.int .u64 a0_1),.sc (.string a0_2)]]=(fun (call:Ai)=>Ba (a0_0==7) (Aa (wrap .u8 a0_1) fun x1=>Aa (wrap .u8 (244+x1)) fun x2=>some (Az.mk [.own 1 1 [.sc (.int .u8 x2)]] [])) (Ba (a0_0==8) (some (Az.mk [.own 1 1 [.sc (.int .u8 246)]] [])) (Ba (a0_0==2) (C8 fu call a0_0 a0_1 a0_2 (fu) (a0_1) 32) (Ba (a0_0==3) (Aa (wrap .u64 (↑(ByteArray.size a0_2):Int)) fun x3=>C8 fu call a0_0 a0_1 a0_2 (fu) x3 64) (Ba (a0_0==4) (Aa (wrap .u64 (↑(ByteArray.size a0_2):Int)) fun x4=>C8 fu call a0_0 a0_1 a0_2 (fu) x4 96) (Ba (a0_0==5) (C8 fu call a0_0 a0_1 a0_2 (fu) (a0_1) 128) (Ba (a0_0==6) (C8 fu call a0_0 a0_1 a0_2 (fu) (a0_1) 160) (C8 fu call a0_0 a0_1 a0_2 (fu) (a0_1) 0)))))))) (Ae C0 Tryz.prog fu d):=by kernel_rfl
abbrev Nj:FuncId:=94
theorem Xb (fu d:Nat)(a0_0 a0_1:Int)(a0_2:ByteArray):Ae C0 Tryz.prog fu (d+1) Nj [.agg [.sc (.int .i64 a0_0),.sc (.int .u64 a0_1),.sc (.string a0_2)]]=(fun (call:Ai)=>Ag (call 116 [.agg [.sc (.int .i64 a0_0),.sc (.int .u64 a0_1),.sc (.string a0_2)]]) fun x1 x2=>Ac x2<|Ab x1 fun x3 x4=>Ep 1 x3 fun x5 x6=>Ac x4<|Ao (decide (0+x5*1<=x6.length))<|Ao (decide (List.length (List.take (x5*1) (List.drop 0 x6))=x5))<|Et (bytesOf (List.take (x5*1) (List.drop 0 x6))) fun x7=>Ao (decide (ByteArray.size (ByteArray.mk (List.toArray x7))+ByteArray.size a0_2<=9223372036854775807))<|Aa (ByteArray.mk (List.toArray x7)++a0_2) fun x8=>some (Az.mk [.sc (.string x8)] [])) (Ae C0 Tryz.prog fu d):=by kernel_rfl
end
section
open Go.IntKind (wrap)
def Ij (s:ByteArray):List Int:=s.data.toList.map fun b=>(b.toNat:Int)
def Cd (l:List Int):ByteArray:=⟨(l.map fun n=>n.toNat.toUInt8).toArray⟩
theorem Oy (s:ByteArray):(Ij s).length=s.size:=by
 unfold Ij;rw [List.length_map];rfl
theorem YV (s:ByteArray):J4 (Ij s):=by
 intro x hx;obtain ⟨b,_,rfl⟩:=List.mem_map.1 hx;have:=b.toNat_lt;omega
theorem Mg (s:ByteArray):Dm s=Af .u8 (Ij s):=by
 unfold Dm Ij
 induction s.data.toList with
 |nil=>rfl
 |cons b l ih=>rw [Zzw,Zzw,ih];rfl
theorem Fz (l:List Int):(Cd l).size=l.length:=by
 show (l.map fun n=>n.toNat.toUInt8).toArray.size=_
 simp
theorem Nt {l:List Int}(h:J4 l):Ij (Cd l)=l:=by
 unfold Ij Cd;simp only [List.map_map]
 have:∀l:List Int,J4 l->List.map ((fun b:UInt8=>(b.toNat:Int)) ∘ fun n:Int=>n.toNat.toUInt8) l=l:=by
  intro l
  induction l with
  |nil=>intro _;rfl
  |cons x l ih=>
   intro h;have hx:=h x (by simp)
   rw [Zzw,ih fun y hy=>h y (by simp [hy])]
   congr 1
   show ((x.toNat.toUInt8.toNat:Nat):Int)=x;rw [Nat.toUInt8,UInt8.toNat_ofNat'];omega
 exact this l h
theorem BI (s:ByteArray):Cd (Ij s)=s:=by
 unfold Cd Ij;simp only [List.map_map]
 have:∀l:List UInt8,List.map ((fun n:Int=>n.toNat.toUInt8) ∘ fun b:UInt8=>(b.toNat:Int)) l=l:=by
  intro l
  induction l with
  |nil=>rfl
  |cons x l ih=>
   rw [Zzw,ih]
   congr 1
   show ((x.toNat:Int).toNat).toUInt8=x;rw [Gm];simp
 rw [this]
theorem G2:∀l:List Int,bytesOf (Af .u8 l)=some (l.map fun n=>n.toNat.toUInt8)
 |[]=>rfl
 |x::l=>by
  show (bytesOf (Af .u8 l)).map (x.toNat.toUInt8 :: ·)=_
  rw [G2 l];rfl
theorem UA (l:List Int)(s:ByteArray):Cd l++s=Cd (l++Ij s):=by
 conv=>lhs;rw [←BI s]
 unfold Cd;apply ByteArray.ext;rw [ByteArray.data_append];simp
def tb (n:Int)(k:Nat):List Int:=(List.range' (8-k) k).map (Da n)
def C1 (mj n:Int):List Int:=
 if n<24 then [32*mj+n] else if n<256 then (32*mj+24)::tb n 1 else if n<65536 then (32*mj+25)::tb n 2 else if n<4294967296 then (32*mj+26)::tb n 4 else (32*mj+27)::tb n 8
structure It where
 k:Int
 n:Int
 s:ByteArray
def It.cells (x:It):List PV:=[.sc (.int .i64 x.k),.sc (.int .u64 x.n),.sc (.string x.s)]
def Br (x:It):List Int:=
 if x.k=7 then [wrap .u8 (244+wrap .u8 x.n)] else if x.k=8 then [246] else if x.k=3 then C1 2 x.s.size++Ij x.s else if x.k=4 then C1 3 x.s.size++Ij x.s else C1 (x.k-1) x.n
theorem Y8 (n:Int)(k:Nat):(tb n k).length=k:=by simp [tb]
theorem A19 (n:Int)(k:Nat):J4 (tb n k):=by
 intro x hx;obtain ⟨j,_,rfl⟩:=List.mem_map.1 hx;exact TQ n j
theorem Hc (mj n:Int):1<=(C1 mj n).length∧(C1 mj n).length<=9:=by
 unfold C1
 repeat' split
 all_goals simp [Y8]
theorem RO {mj n:Int}(h0:0<=mj)(h1:mj<=6)(hn:0<=n):J4 (C1 mj n):=by
 have hc:∀(a:Int) (l:List Int),0<=a∧a<=255->J4 l->J4 (a::l):=by
  intro a l ha hl x hx;rcases List.mem_cons.1 hx with rfl|hx
  ·exact ha
  ·exact hl x hx
 unfold C1
 repeat' split
 ·exact hc _ _ (by omega) (fun _ h=>by simp at h)
 all_goals exact hc _ _ (by omega) (A19 _ _)
theorem Abd {x:It}(h0:1<=x.k)(h1:x.k<=8)(hn:0<=x.n):J4 (Br x):=by
 have happ:∀(a b:List Int),J4 a->J4 b->J4 (a++b):=by
  intro a b ha hb y hy;rcases List.mem_append.1 hy with h|h
  ·exact ha y h
  ·exact hb y h
 unfold Br
 repeat' split
 ·intro y hy;simp at hy;subst hy;simp only [wrap,IntKind.signed,IntKind.bits];simp;omega
 ·intro y hy;simp at hy;omega
 ·exact happ _ _ (RO (by omega) (by omega) (by omega)) (YV _)
 ·exact happ _ _ (RO (by omega) (by omega) (by omega)) (YV _)
 ·exact RO (by omega) (by omega) hn
theorem Gu (x:It):(Br x).length<=9+x.s.size:=by
 unfold Br;have h2:=Hc 2 x.s.size;have h3:=Hc 3 x.s.size;have h4:=Hc (x.k-1) x.n;have hs:=Oy x.s
 repeat' split
 all_goals try simp only [J6,Jj,Xy]
 all_goals omega
section
variable {fu d:Nat}
theorem NI {call:Ai}{a0n:Nat}{a0:List PV}{a1 a2 n:Int}:∀(k nn:Nat)(l:List Int),k<=8->k<nn->l.length+k<=1000000 ->
  Dv fu call a0n a0 a1 a2 nn l.length n ((k:Int)-1) (Af .u8 l)=some ⟨[.own 1 (l++tb n k).length (Af .u8 (l++tb n k))],[]⟩
 |_,0,_,_,h,_=>by omega
 |0,nn+1,l,hk,hn,hl=>by
  have L:=Ak .u8 l;rw [Lw,Dt _ _ _ (by omega)]
  simp (disch:=omega) only [B4,Cb,Kc,L];simp [tb]
 |k+1,nn+1,l,hk,hn,hl=>by
  have ih:=NI (call:=call) (a0n:=a0n) (a0:=a0) (a1:=a1) (a2:=a2) (n:=n) k nn (l++[Da n (8-(k+1))]) (by omega) (by omega) (by simp;omega)
  have L:=Ak .u8 l;have w8:wrap .i64 (8*(((k+1:Nat):Int)-1))=8*(k:Int):=by rw [Aj (by omega) (by omega)];omega
  have w:wrap .i64 (((k+1:Nat):Int)-1-1)=(k:Int)-1:=by rw [Aj (by omega) (by omega)];omega
  have hb:wrap .u8 (D6 .u64 n (8*(k:Int)))=Da n (8-(k+1)):=by
   unfold Da;rw [show 56-8*((8-(k+1):Nat):Int)=8*(k:Int) by omega]
  have et:tb n (k+1)=Da n (8-(k+1))::tb n k:=by
   unfold tb;rw [List.range'_succ,Zzw,show 8-(k+1)+1=8-k by omega]
  have ea:l++tb n (k+1)=l++[Da n (8-(k+1))]++tb n k:=by rw [et];simp
  rw [ea,←ih,Lw];simp (disch:=omega) only [B4,w8,hb,w,Cb,Kc,L,F0,J6,Jj,Xy,Bw]
theorem A3g {mj:Int}(h0:0<=mj)(h1:mj<=7):G7 .u8 mj 5=32*mj:=by
 have:mj=0∨mj=1∨mj=2∨mj=3∨mj=4∨mj=5∨mj=6∨mj=7:=by omega
 rcases this with rfl|rfl|rfl|rfl|rfl|rfl|rfl|rfl<;>decide
theorem Abc (hfu:1000<=fu){l:List Int}(hl:l.length<=900000){mj n:Int}(h0:0<=mj)(h1:mj<=5)(hn:0<=n):Ae C0 Tryz.prog fu (d+1) Jv [.own 1 l.length (Af .u8 l),.sc (.int .u8 mj),.sc (.int .u64 n)]=some ⟨[.own 1 (l++C1 mj n).length (Af .u8 (l++C1 mj n))],[]⟩:=by
 rw [Zq];have s5:=A3g h0 (by omega)
 have L:=Ak .u8 l;have w24:wrap .u8 (32*mj+24)=32*mj+24:=Fu (by omega) (by omega)
 have w25:wrap .u8 (32*mj+25)=32*mj+25:=Fu (by omega) (by omega)
 have w26:wrap .u8 (32*mj+26)=32*mj+26:=Fu (by omega) (by omega)
 have w27:wrap .u8 (32*mj+27)=32*mj+27:=Fu (by omega) (by omega)
 have lp:=fun (k:Nat) (hk:k<=8) (b:Int)=>NI (fu:=fu) (call:=Ae C0 Tryz.prog fu d) (a0n:=l.length) (a0:=Af .u8 l) (a1:=mj) (a2:=n) (n:=n) k fu (l++[b]) hk (by omega) (by simp;omega)
 have ec:∀(b:Int) (t:List Int),l++b::t=l++[b]++t:=by intro b t;simp
 unfold C1;by_cases c1:n<24
 ·have wn:wrap .u8 n=n:=Fu (by omega) (by omega)
  have ws:wrap .u8 (32*mj+n)=32*mj+n:=Fu (by omega) (by omega)
  have L1:=Ak .u8 (l++[32*mj+n]);have t1:=Kc .u8 (l++[32*mj+n]);simp only [J6,Jj,Xy,Bw] at L1 t1;rw [B7 c1];simp (disch:=omega) only [B4,s5,wn,ws,Cb,Kc,L,F0,L1,t1,J6,Jj,Xy,Bw]
 ·by_cases c2:n<256
  ·have l1:=lp 1 (by omega) (32*mj+24)
   rw [show ((1:Nat):Int)-1=0 by omega] at l1
   rw [A7 c1,B7 c2,ec,←l1];simp (disch:=omega) only [B4,s5,w24,Cb,Kc,L,F0,J6,Jj,Xy,Bw]
  ·by_cases c3:n<65536
   ·have l1:=lp 2 (by omega) (32*mj+25)
    rw [show ((2:Nat):Int)-1=1 by omega] at l1
    rw [A7 c1,A7 c2,B7 c3,ec,←l1];simp (disch:=omega) only [B4,s5,w25,Cb,Kc,L,F0,J6,Jj,Xy,Bw]
   ·by_cases c4:n<4294967296
    ·have l1:=lp 4 (by omega) (32*mj+26)
     rw [show ((4:Nat):Int)-1=3 by omega] at l1
     rw [A7 c1,A7 c2,A7 c3,B7 c4,ec,←l1];simp (disch:=omega) only [B4,s5,w26,Cb,Kc,L,F0,J6,Jj,Xy,Bw]
    ·have l1:=lp 8 (by omega) (32*mj+27)
     rw [show ((8:Nat):Int)-1=7 by omega] at l1
     rw [A7 c1,A7 c2,A7 c3,A7 c4,ec,←l1];simp (disch:=omega) only [B4,s5,w27,Cb,Kc,L,F0,J6,Jj,Xy,Bw]
structure It.ok (x:It):Prop where
 k1:1<=x.k
 k8:x.k<=8
 n0:0<=x.n
 s0:x.s.size<=500000
theorem Abg (hfu:1000<=fu){l:List Int}(hl:l.length<=300000){x:It}(hx:x.ok):Ae C0 Tryz.prog fu (d+2) P1 [.own 1 l.length (Af .u8 l),.agg x.cells]=some ⟨[.own 1 (l++Br x).length (Af .u8 (l++Br x))],[]⟩:=by
 obtain ⟨k,n,s⟩:=x;obtain ⟨k1,k8,n0,s0⟩:=hx;simp only at k1 k8 n0 s0;refine (CG fu (d+1) l.length (Af .u8 l) k n s).trans ?_;have L:=Ak .u8 l;have hsl:=Oy s;unfold Br;simp only;by_cases c7:k=7
 ·subst c7;have L1:=Ak .u8 (l++[wrap .u8 (244+wrap .u8 n)]);have t1:=Kc .u8 (l++[wrap .u8 (244+wrap .u8 n)]);simp only [J6,Jj,Xy,Bw] at L1 t1;simp (disch:=omega) only [B4,Fc,if_true,Cb,Kc,L,F0,L1,t1,J6,Jj,Xy,Bw]
 ·by_cases c8:k=8
  ·subst c8;have L1:=Ak .u8 (l++[246]);have t1:=Kc .u8 (l++[246]);simp only [J6,Jj,Xy,Bw] at L1 t1;rw [A7 c7,B7 rfl];simp (disch:=omega) only [B4,Fc,c7,if_false,if_true,Cb,Kc,L,F0,L1,t1,J6,Jj,Xy,Bw]
  ·have dat:∀mj:Int,0<=mj->mj<=5->(Ae C0 Tryz.prog fu (d+1) Jv [.own 1 l.length (Af .u8 l),.sc (.int .u8 mj),.sc (.int .u64 s.size)]=some ⟨[.own 1 (l++C1 mj s.size).length (Af .u8 (l++C1 mj s.size))],[]⟩)∧(l++C1 mj s.size).length<=300009∧List.take (l++C1 mj s.size).length (Af .u8 (l++C1 mj s.size))=Af .u8 (l++C1 mj s.size)∧(Af .u8 (l++C1 mj s.size)).length=(l++C1 mj s.size).length∧Af .u8 (l++C1 mj s.size)++Dm s=Af .u8 (l++(C1 mj s.size++Ij s))∧(l++(C1 mj s.size++Ij s)).length=(l++C1 mj s.size).length+s.size∧(Af .u8 (l++(C1 mj s.size++Ij s))).length=(l++C1 mj s.size).length+s.size:=by
    intro mj h0 h1;have hh:=Hc mj s.size;refine ⟨Abc hfu (by omega) h0 h1 (by omega),by rw [J6];omega,Kc _ _,Ak _ _,?_,?_,?_⟩
    ·rw [Mg,←XE,Af,Af,Af,List.flatMap_append (xs:=l++C1 mj s.size)]
    ·rw [←XE,J6,hsl]
    ·rw [Ak,←XE,J6,hsl]
   have ss:(Dm s).length=s.size:=by rw [Mg,Ak,hsl]
   have wsz:wrap .u64 (s.size:Int)=s.size:=Cs (by omega) (by omega)
   rw [A7 c7,A7 c8];by_cases c3:k=3
   ·subst c3;obtain ⟨p1,p2,p3,p4,p5,p6,p7⟩:=dat 2 (by omega) (by omega)
    have w1:wrap .i64 ((3:Int)-1)=2:=by decide
    have w2:wrap .u8 (2:Int)=2:=by decide
    have t1:List.take ((l++C1 2 s.size).length+s.size) (Af .u8 (l++(C1 2 s.size++Ij s)))=Af .u8 (l++(C1 2 s.size++Ij s)):=Sl (by omega)
    rw [B7 rfl];simp (disch:=omega) only [B4,Fc,c7,c8,if_false,if_true,w1,w2,wsz,Cb,Kc,L,p1];generalize (l++C1 2 s.size).length=N at *
    simp (disch:=omega) only [B4,Cb,p3,p4,p5,p7,t1,ss];rw [p6]
   ·by_cases c4:k=4
    ·subst c4;obtain ⟨p1,p2,p3,p4,p5,p6,p7⟩:=dat 3 (by omega) (by omega)
     have w1:wrap .i64 ((4:Int)-1)=3:=by decide
     have w2:wrap .u8 (3:Int)=3:=by decide
     have t1:List.take ((l++C1 3 s.size).length+s.size) (Af .u8 (l++(C1 3 s.size++Ij s)))=Af .u8 (l++(C1 3 s.size++Ij s)):=Sl (by omega)
     rw [A7 c3,B7 rfl];simp (disch:=omega) only [B4,Fc,c7,c8,c3,if_false,if_true,w1,w2,wsz,Cb,Kc,L,p1];generalize (l++C1 3 s.size).length=N at *
     simp (disch:=omega) only [B4,Cb,p3,p4,p5,p7,t1,ss];rw [p6]
    ·have w1:wrap .i64 (k-1)=k-1:=Aj (by omega) (by omega)
     have w2:wrap .u8 (k-1)=k-1:=Fu (by omega) (by omega)
     have p1:=Abc (fu:=fu) (d:=d) hfu (l:=l) (by omega) (mj:=k-1) (n:=n) (by omega) (by omega) n0
     have L2:=Ak .u8 (l++C1 (k-1) n);have t2:=Kc .u8 (l++C1 (k-1) n);rw [A7 c3,A7 c4];simp (disch:=omega) only [B4,Fc,c7,c8,c3,c4,if_false,w1,w2,Cb,Kc,L,p1,L2,t2]
end
end
section
open Go.IntKind (wrap)
set_option maxRecDepth 100000
abbrev Kf:FuncId:=48
theorem Uf (fu d:Nat)(a0 a1 a2:Int):Ae C0 Tryz.prog fu (d+1) Kf [.sc (.int .i64 a0),.sc (.int .i64 a1),.sc (.int .i64 a2)]=(fun (call:Ai)=>Ba (decide (a0>=a1)) (some (Az.mk [.sc (.bool (decide (a0<=a2)))] [])) (some (Az.mk [.sc (.bool false)] []))) (Ae C0 Tryz.prog fu d):=by kernel_rfl
abbrev Mb:FuncId:=59
theorem Uu (fu d:Nat)(a0:Int):Ae C0 Tryz.prog fu (d+1) Mb [.sc (.int .i64 a0)]=(fun (call:Ai)=>Aa (wrap .u64 a0) fun x1=>some (Az.mk [.agg [.sc (.int .i64 5),.sc (.int .u64 x1),.sc (.string (ByteArray.mk #[]))]] [])) (Ae C0 Tryz.prog fu d):=by kernel_rfl
abbrev Ng:FuncId:=60
theorem W8 (fu d:Nat)(a0:ByteArray):Ae C0 Tryz.prog fu (d+1) Ng [.sc (.string a0)]=(fun (call:Ai)=>some (Az.mk [.agg [.sc (.int .i64 4),.sc (.int .u64 0),.sc (.string a0)]] [])) (Ae C0 Tryz.prog fu d):=by kernel_rfl
abbrev Kg:FuncId:=61
theorem Ue (fu d:Nat)(a0:Int):Ae C0 Tryz.prog fu (d+1) Kg [.sc (.int .u64 a0)]=(fun (call:Ai)=>some (Az.mk [.agg [.sc (.int .i64 1),.sc (.int .u64 a0),.sc (.string (ByteArray.mk #[]))]] [])) (Ae C0 Tryz.prog fu d):=by kernel_rfl
abbrev Nb:FuncId:=62
theorem Xc (fu d a0n:Nat)(a0:List PV):Ae C0 Tryz.prog fu (d+1) Nb [.lst false 1 a0n a0]=(fun (call:Ai)=>Ao (decide (a0.length=a0n))<|Et (bytesOf a0) fun x1=>some (Az.mk [.agg [.sc (.int .i64 3),.sc (.int .u64 0),.sc (.string (ByteArray.mk (List.toArray x1)))]] [])) (Ae C0 Tryz.prog fu d):=by kernel_rfl
abbrev Js:FuncId:=63
theorem S0 (fu d:Nat)(a0:Bool):Ae C0 Tryz.prog fu (d+1) Js [.sc (.bool a0)]=(fun (call:Ai)=>Ba (a0) (some (Az.mk [.agg [.sc (.int .i64 7),.sc (.int .u64 1),.sc (.string (ByteArray.mk #[]))]] [])) (some (Az.mk [.agg [.sc (.int .i64 7),.sc (.int .u64 0),.sc (.string (ByteArray.mk #[]))]] []))) (Ae C0 Tryz.prog fu d):=by kernel_rfl
abbrev L5:FuncId:=58
noncomputable def Fp (fu:Nat)(call:Ai)(a0n:Nat)(a0:List PV)(nn y0:Nat)(y1:List PV)(y2:Nat)(y3:Int)(y4:List PV):Option Az:=Cz CB Tryz.prog fu call 58 Tryz.f58 (Bq Tryz.f58) [.lst false 3 a0n a0] [.r,.r,.l,.r,.l] nn ⟨lk [(0,(.lst false 3 y0 y1)),(3,(.view 3 1 0 y2)),(4,(.sc (.int .i64 y3)))],B5 [(3,(.ar false y4))]⟩
theorem I7 (fu:Nat)(call:Ai)(a0n:Nat)(a0:List PV)(nn y0:Nat)(y1:List PV)(y2:Nat)(y3:Int)(y4:List PV):Fp fu call a0n a0 (nn+1) y0 y1 y2 y3 y4=(Ba (decide (y3<(↑y0:Int))) (Ao (decide (0<=y3)&&decide (y3<(↑y0:Int)))<|Ad .i64 (List.getD y1 (Int.toNat y3*3) .top) fun x1=>Ad .u64 (List.getD y1 (Int.toNat y3*3+1) .top) fun x2=>Cj (List.getD y1 (Int.toNat y3*3+1+1) .top) fun x3=>Ag (call 94 [.agg [.sc (.int .i64 x1),.sc (.int .u64 x2),.sc (.string x3)]]) fun x4 x5=>Ac x5<|Ab x4 fun x6 x7=>Cj x6 fun x8=>Ac x7<|Ao (decide (y2*1<=y4.length)&&decide (List.length (Dm x8)=ByteArray.size x8*1)&&decide ((y2+ByteArray.size x8)*1<=1099511627776)&&decide (y2+ByteArray.size x8<=1099511627776))<|Aa (y2+ByteArray.size x8) fun x9=>Aa (List.take (y2*1) y4++Dm x8) fun Cr=>Aa (wrap .i64 (y3+1)) fun C5=>Fp fu call a0n a0 (nn) (y0) (y1) x9 C5 Cr) (Ao (decide (y2*1<=y4.length))<|some (Az.mk [.own 1 y2 (List.take (y2*1) y4)] []))):=by kernel_rfl
theorem U5 (fu d a0n:Nat)(a0:List PV):Ae C0 Tryz.prog fu (d+1) L5 [.lst false 3 a0n a0]=(fun (call:Ai)=>Fp fu call a0n a0 (fu) (a0n) (a0) 0 0 ([])) (Ae C0 Tryz.prog fu d):=by kernel_rfl
abbrev Nc:FuncId:=32
theorem Wm (fu d:Nat)(a0_0 a0_1:ByteArray)(a0_2 a0_3:Int)(a0_4 a0_5 a0_6:Int)(a0_7:Bool)(a0_8 a0_9 a0_10:Int)(a0_11n:Nat)(a0_11:List PV)(a0_12n:Nat)(a0_12:List PV):Ae C0 Tryz.prog fu (d+1) Nc [.agg [.sc (.string a0_0),.sc (.string a0_1),.sc (.int .u64 a0_2),.sc (.int .i64 a0_3),.sc (.int .u64 a0_4),.sc (.int .i64 a0_5),.sc (.int .i64 a0_6),.sc (.bool a0_7),.sc (.int .i64 a0_8),.sc (.int .u64 a0_9),.sc (.int .i64 a0_10),.lst false 1 a0_11n a0_11,.lst false 1 a0_12n a0_12]]=(fun (call:Ai)=>Ag (call 48 [.sc (.int .i64 (↑(ByteArray.size a0_0):Int)),.sc (.int .i64 1),.sc (.int .i64 32)]) fun x1 x2=>Ac x2<|Ab x1 fun x3 x4=>Bk x3 fun x5=>Ac x4<|Ba (!x5) (some (Az.mk [.own 1 0 [],.sc (.int .i64 9)] [])) (Ag (call 48 [.sc (.int .i64 (↑(ByteArray.size a0_1):Int)),.sc (.int .i64 1),.sc (.int .i64 32)]) fun x6 x7=>Ac x7<|Ab x6 fun x8 x9=>Bk x8 fun Cr=>Ac x9<|Ba (!Cr) (some (Az.mk [.own 1 0 [],.sc (.int .i64 9)] [])) (Ag (call 56 [.sc (.string a0_0)]) fun C5 Dw=>Ac Dw<|Ab C5 fun D5 Ds=>Bk D5 fun Eg=>Ac Ds<|Ba (!Eg) (some (Az.mk [.own 1 0 [],.sc (.int .i64 6)] [])) (Ag (call 56 [.sc (.string a0_1)]) fun En E9=>Ac E9<|Ab En fun Fq Fv=>Bk Fq fun F5=>Ac Fv<|Ba (!F5) (some (Az.mk [.own 1 0 [],.sc (.int .i64 6)] [])) (Ag (call 57 [.agg [.sc (.int .i64 a0_3),.sc (.int .u64 a0_4)]]) fun Id G6=>Ac G6<|Ab Id fun H7 D2=>Ep 1 H7 fun Do Ga=>Ab D2 fun Ia E1=>Ad .i64 Ia fun Ji=>Ac E1<|Ba (Ji != 0) (some (Az.mk [.own 1 0 [],.sc (.int .i64 Ji)] [])) (Ba (decide (a0_5<0)) (some (Az.mk [.own 1 0 [],.sc (.int .i64 9)] [])) (Ba (decide (a0_6<a0_5)) (some (Az.mk [.own 1 0 [],.sc (.int .i64 9)] [])) (Ba (decide (a0_6>1099511627776)) (some (Az.mk [.own 1 0 [],.sc (.int .i64 9)] [])) (Ag (call 48 [.sc (.int .i64 a0_8),.sc (.int .i64 0),.sc (.int .i64 2)]) fun Mm J5=>Ac J5<|Ab Mm fun M1 Ms=>Bk M1 fun Of=>Ac Ms<|Ba (!Of) (some (Az.mk [.own 1 0 [],.sc (.int .i64 9)] [])) (Ba (a0_8 != 0) (Ba (!a0_7) (some (Az.mk [.own 1 0 [],.sc (.int .i64 4)] [])) (Ag (call 59 [.sc (.int .i64 9)]) fun P6 Q2=>Ac Q2<|Ab P6 fun Ta G8=>C2 Ta fun J7=>Ab J7 fun Uy Zh=>Ad .i64 Uy fun Ps=>Ab Zh fun Us Uc=>Ad .u64 Us fun Sk=>Ab Uc fun Tp Xk=>Cj Tp fun X9=>Ac Xk<|Ac G8<|Ag (call 60 [.sc (.string a0_0)]) fun Tb V2=>Ac V2<|Ab Tb fun Xq Xf=>C2 Xq fun Pk=>Ab Pk fun Y9 CK=>Ad .i64 Y9 fun CJ=>Ab CK fun Zj Ud=>Ad .u64 Zj fun Yn=>Ab Ud fun CI Yq=>Cj CI fun Zk=>Ac Yq<|Ac Xf<|Ag (call 60 [.sc (.string a0_1)]) fun Yb Zi=>Ac Zi<|Ab Yb fun BO Va=>C2 BO fun Xe=>Ab Xe fun CR CD=>Ad .i64 CR fun Zo=>Ab CD fun Y4 CF=>Ad .u64 Y4 fun HH=>Ab CF fun AJ EI=>Cj AJ fun HG=>Ac EI<|Ac Va<|Ag (call 61 [.sc (.int .u64 a0_2)]) fun CL FS=>Ac FS<|Ab CL fun JJ II=>C2 JJ fun VJ=>Ab VJ fun SX QW=>Ad .i64 SX fun SP=>Ab QW fun XJ WY=>Ad .u64 XJ fun SZ=>Ab WY fun QX GR=>Cj QX fun NU=>Ac GR<|Ac II<|Ao (decide (0+Do*1<=Ga.length))<|Ag (call 62 [.lst false 1 Do (List.take (Do*1) (List.drop 0 Ga))]) fun QN WP=>Ac WP<|Ab QN fun TJ ZS=>C2 TJ fun XN=>Ab XN fun ZK SU=>Ad .i64 ZK fun XF=>Ab SU fun XK Wn=>Ad .u64 XK fun Vm=>Ab Wn fun Hp D4=>Cj Hp fun Yy=>Ac D4<|Ac ZS<|Aa (wrap .u64 a0_5) fun R5=>Ag (call 61 [.sc (.int .u64 R5)]) fun Q5 Kd=>Ac Kd<|Ab Q5 fun AB Yp=>C2 AB fun Yd=>Ab Yd fun AU Ie=>Ad .i64 AU fun Jw=>Ab Ie fun X8 Yt=>Ad .u64 X8 fun Zc=>Ab Yt fun DD S1=>Cj DD fun V5=>Ac S1<|Ac Yp<|Aa (wrap .u64 a0_6) fun Wy=>Ag (call 61 [.sc (.int .u64 Wy)]) fun W5 X1=>Ac X1<|Ab W5 fun Zr Rf=>C2 Zr fun Q0=>Ab Q0 fun Pr Sq=>Ad .i64 Pr fun Ra=>Ab Sq fun Wt V4=>Ad .u64 Wt fun CV=>Ab V4 fun X6 Uz=>Cj X6 fun GI=>Ac Uz<|Ac Rf<|Ag (call 63 [.sc (.bool a0_7)]) fun LD IW=>Ac IW<|Ab LD fun MT IB=>C2 MT fun CW=>Ab CW fun GY HW=>Ad .i64 GY fun IM=>Ab HW fun KE CM=>Ad .u64 KE fun GN=>Ab CM fun GU GM=>Cj GU fun KN=>Ac GM<|Ac IB<|Aa (wrap .u64 a0_8) fun RH=>Ag (call 61 [.sc (.int .u64 RH)]) fun WO QM=>Ac QM<|Ab WO fun DP MN=>C2 DP fun SH=>Ab SH fun Aas ZP=>Ad .i64 Aas fun UO=>Ab ZP fun SA VK=>Ad .u64 SA fun Aai=>Ab VK fun YO UN=>Cj YO fun YK=>Ac UN<|Ac MN<|Ag (call 61 [.sc (.int .u64 a0_9)]) fun RS XO=>Ac XO<|Ab RS fun XQ QV=>C2 XQ fun UR=>Ab UR fun XR ZV=>Ad .i64 XR fun ZT=>Ab ZV fun Ago Ahr=>Ad .u64 Ago fun Aft=>Ab Ahr fun ZQ Aed=>Cj ZQ fun Agt=>Ac Aed<|Ac QV<|Ag (call 58 [.lst false 3 10 [.sc (.int .i64 Ps),.sc (.int .u64 Sk),.sc (.string X9),.sc (.int .i64 CJ),.sc (.int .u64 Yn),.sc (.string Zk),.sc (.int .i64 Zo),.sc (.int .u64 HH),.sc (.string HG),.sc (.int .i64 SP),.sc (.int .u64 SZ),.sc (.string NU),.sc (.int .i64 XF),.sc (.int .u64 Vm),.sc (.string Yy),.sc (.int .i64 Jw),.sc (.int .u64 Zc),.sc (.string V5),.sc (.int .i64 Ra),.sc (.int .u64 CV),.sc (.string GI),.sc (.int .i64 IM),.sc (.int .u64 GN),.sc (.string KN),.sc (.int .i64 UO),.sc (.int .u64 Aai),.sc (.string YK),.sc (.int .i64 ZT),.sc (.int .u64 Aft),.sc (.string Agt)]]) fun Ahh Aim=>Ac Aim<|Ab Ahh fun Ams Aoq=>Ep 1 Ams fun Agn Alc=>Ac Aoq<|Ao (decide (Agn*1<=Alc.length))<|some (Az.mk [.own 1 Agn (List.take (Agn*1) Alc),.sc (.int .i64 0)] []))) (Ag (call 59 [.sc (.int .i64 9)]) fun Aos Apj=>Ac Apj<|Ab Aos fun Ao4 Aqy=>C2 Ao4 fun Apn=>Ab Apn fun Arg Aoe=>Ad .i64 Arg fun Ao1=>Ab Aoe fun An9 Aqh=>Ad .u64 An9 fun Aoj=>Ab Aqh fun Anq Aq0=>Cj Anq fun Apx=>Ac Aq0<|Ac Aqy<|Ag (call 60 [.sc (.string a0_0)]) fun Ap9 Arr=>Ac Arr<|Ab Ap9 fun Ane Aqu=>C2 Ane fun Aqf=>Ab Aqf fun Ap0 Am8=>Ad .i64 Ap0 fun Aph=>Ab Am8 fun Aor Aoa=>Ad .u64 Aor fun Aqn=>Ab Aoa fun Aog Ans=>Cj Aog fun Ask=>Ac Ans<|Ac Aqu<|Ag (call 60 [.sc (.string a0_1)]) fun Ano Aoc=>Ac Aoc<|Ab Ano fun Aol Aoh=>C2 Aol fun As5=>Ab As5 fun Anj Aqi=>Ad .i64 Anj fun Aqz=>Ab Aqi fun Aoy Asp=>Ad .u64 Aoy fun Aq6=>Ab Asp fun Aou Anu=>Cj Aou fun Amu=>Ac Anu<|Ac Aoh<|Ag (call 61 [.sc (.int .u64 a0_2)]) fun Ara Apg=>Ac Apg<|Ab Ara fun Arp Am4=>C2 Arp fun And=>Ab And fun Ark Apm=>Ad .i64 Ark fun Ap7=>Ab Apm fun Am3 Asf=>Ad .u64 Am3 fun Apr=>Ab Asf fun Apa As1=>Cj Apa fun Aqt=>Ac As1<|Ac Am4<|Ao (decide (0+Do*1<=Ga.length))<|Ag (call 62 [.lst false 1 Do (List.take (Do*1) (List.drop 0 Ga))]) fun Apz Amv=>Ac Amv<|Ab Apz fun An0 Aqc=>C2 An0 fun Apt=>Ab Apt fun Aqo Amq=>Ad .i64 Aqo fun Ank=>Ab Amq fun Aqk Ap5=>Ad .u64 Aqk fun Ar9=>Ab Ap5 fun Amp Aov=>Cj Amp fun Anh=>Ac Aov<|Ac Aqc<|Aa (wrap .u64 a0_5) fun Aqm=>Ag (call 61 [.sc (.int .u64 Aqm)]) fun Arj Apw=>Ac Apw<|Ab Arj fun Anr An5=>C2 Anr fun Aq8=>Ab Aq8 fun Aoi Api=>Ad .i64 Aoi fun Anv=>Ab Api fun Apb Arl=>Ad .u64 Apb fun Arq=>Ab Arl fun Am0 Arc=>Cj Am0 fun Anw=>Ac Arc<|Ac An5<|Aa (wrap .u64 a0_6) fun Ape=>Ag (call 61 [.sc (.int .u64 Ape)]) fun Aml Aot=>Ac Aot<|Ab Aml fun Aqr Apv=>C2 Aqr fun Amy=>Ab Amy fun Aqg Aqb=>Ad .i64 Aqg fun Ao2=>Ab Aqb fun Aq1 Anb=>Ad .u64 Aq1 fun Ap6=>Ab Anb fun Amx An1=>Cj Amx fun Aob=>Ac An1<|Ac Apv<|Ag (call 63 [.sc (.bool a0_7)]) fun Aqe Ant=>Ac Ant<|Ab Aqe fun Am7 Ap1=>C2 Am7 fun Ao9=>Ab Ao9 fun Apo Ap3=>Ad .i64 Apo fun Apq=>Ab Ap3 fun Aok Amk=>Ad .u64 Aok fun Apy=>Ab Amk fun An8 As6=>Cj An8 fun Ann=>Ac As6<|Ac Ap1<|Aa (wrap .u64 a0_8) fun An4=>Ag (call 61 [.sc (.int .u64 An4)]) fun An7 Amn=>Ac Amn<|Ab An7 fun As3 Ap4=>C2 As3 fun Aro=>Ab Aro fun Apk Ard=>Ad .i64 Apk fun Asw=>Ab Ard fun Anx Aox=>Ad .u64 Anx fun Ari=>Ab Aox fun Aqw Anz=>Cj Aqw fun Aqj=>Ac Anz<|Ac Ap4<|Ag (call 61 [.sc (.int .u64 a0_9)]) fun Adr Ao0=>Ac Ao0<|Ab Adr fun Amt Ao8=>C2 Amt fun Am5=>Ab Am5 fun Asz ZE=>Ad .i64 Asz fun YS=>Ab ZE fun Apf Aqa=>Ad .u64 Apf fun ZB=>Ab Aqa fun Anf Aq3=>Cj Anf fun Apl=>Ac Aq3<|Ac Ao8<|Ag (call 58 [.lst false 3 10 [.sc (.int .i64 Ao1),.sc (.int .u64 Aoj),.sc (.string Apx),.sc (.int .i64 Aph),.sc (.int .u64 Aqn),.sc (.string Ask),.sc (.int .i64 Aqz),.sc (.int .u64 Aq6),.sc (.string Amu),.sc (.int .i64 Ap7),.sc (.int .u64 Apr),.sc (.string Aqt),.sc (.int .i64 Ank),.sc (.int .u64 Ar9),.sc (.string Anh),.sc (.int .i64 Anv),.sc (.int .u64 Arq),.sc (.string Anw),.sc (.int .i64 Ao2),.sc (.int .u64 Ap6),.sc (.string Aob),.sc (.int .i64 Apq),.sc (.int .u64 Apy),.sc (.string Ann),.sc (.int .i64 Asw),.sc (.int .u64 Ari),.sc (.string Aqj),.sc (.int .i64 YS),.sc (.int .u64 ZB),.sc (.string Apl)]]) fun Ao7 Apd=>Ac Apd<|Ab Ao7 fun Aps Amw=>Ep 1 Aps fun Ag8 Ak8=>Ac Amw<|Ao (decide (Ag8*1<=Ak8.length))<|some (Az.mk [.own 1 Ag8 (List.take (Ag8*1) Ak8),.sc (.int .i64 0)] [])))))))))))) (Ae C0 Tryz.prog fu d):=by kernel_rfl
abbrev Nm:FuncId:=13
theorem Ws (fu d:Nat)(a0_0 a0_1:ByteArray)(a0_2 a0_3:Int)(a0_4 a0_5 a0_6:Int)(a0_7:Bool)(a0_8 a0_9 a0_10:Int)(a0_11n:Nat)(a0_11:List PV)(a0_12n:Nat)(a0_12:List PV)(a1 a2 a3:Int):Ae C0 Tryz.prog fu (d+1) Nm [.agg [.sc (.string a0_0),.sc (.string a0_1),.sc (.int .u64 a0_2),.sc (.int .i64 a0_3),.sc (.int .u64 a0_4),.sc (.int .i64 a0_5),.sc (.int .i64 a0_6),.sc (.bool a0_7),.sc (.int .i64 a0_8),.sc (.int .u64 a0_9),.sc (.int .i64 a0_10),.lst false 1 a0_11n a0_11,.lst false 1 a0_12n a0_12],.sc (.int .u64 a1),.sc (.int .i64 a2),.sc (.int .i64 a3)]=(fun (call:Ai)=>Ag (call 32 [.agg [.sc (.string a0_0),.sc (.string a0_1),.sc (.int .u64 a0_2),.sc (.int .i64 a0_3),.sc (.int .u64 a0_4),.sc (.int .i64 a0_5),.sc (.int .i64 a0_6),.sc (.bool a0_7),.sc (.int .i64 a0_8),.sc (.int .u64 a0_9),.sc (.int .i64 a0_10),.lst false 1 a0_11n a0_11,.lst false 1 a0_12n a0_12]]) fun x1 x2=>Ac x2<|Ab x1 fun x3 x4=>Ep 1 x3 fun x5 x6=>Ab x4 fun x7 x8=>Ad .i64 x7 fun x9=>Ac x8<|Ba (x9 != 0) (some (Az.mk [.agg [.sc (.string (ByteArray.mk #[])),.sc (.string (ByteArray.mk #[])),.sc (.int .u64 0),.sc (.int .i64 0),.sc (.int .u64 0),.sc (.int .i64 0),.sc (.int .i64 0),.sc (.bool false),.sc (.int .i64 0),.sc (.int .u64 0),.sc (.int .i64 0),.lst false 1 0 [],.lst false 1 0 []],.sc (.int .i64 x9)] [])) (Ao (decide (0+x5*1<=x6.length))<|Ag (call 34 [.sc (.int .i64 14),.lst false 1 x5 (List.take (x5*1) (List.drop 0 x6))]) fun Cr C5=>Ac C5<|Ab Cr fun Dw D5=>Ad .u64 Dw fun Ds=>Ac D5<|Ag (call 33 [.sc (.int .u64 a1),.sc (.int .i64 a2),.sc (.int .i64 a3),.sc (.int .u64 Ds)]) fun Eg En=>Ac En<|Ab Eg fun E9 Fq=>C2 E9 fun Fv=>Ab Fv fun F5 Id=>Ad .i64 F5 fun G6=>Ab Id fun H7 D2=>Ep 1 H7 fun Do Ga=>Ab D2 fun Ia E1=>Ep 1 Ia fun Ji Mm=>Ac E1<|Ab Fq fun J5 M1=>Ad .i64 J5 fun Ms=>Ac M1<|Ba (Ms != 0) (some (Az.mk [.agg [.sc (.string (ByteArray.mk #[])),.sc (.string (ByteArray.mk #[])),.sc (.int .u64 0),.sc (.int .i64 0),.sc (.int .u64 0),.sc (.int .i64 0),.sc (.int .i64 0),.sc (.bool false),.sc (.int .i64 0),.sc (.int .u64 0),.sc (.int .i64 0),.lst false 1 0 [],.lst false 1 0 []],.sc (.int .i64 Ms)] [])) (Ao (decide (0+Do*1<=Ga.length))<|Ao (decide (0+Ji*1<=Mm.length))<|some (Az.mk [.agg [.sc (.string a0_0),.sc (.string a0_1),.sc (.int .u64 a0_2),.sc (.int .i64 a0_3),.sc (.int .u64 a0_4),.sc (.int .i64 a0_5),.sc (.int .i64 a0_6),.sc (.bool a0_7),.sc (.int .i64 a0_8),.sc (.int .u64 a0_9),.sc (.int .i64 G6),.lst false 1 Do (List.take (Do*1) (List.drop 0 Ga)),.lst false 1 Ji (List.take (Ji*1) (List.drop 0 Mm))],.sc (.int .i64 0)] [])))) (Ae C0 Tryz.prog fu d):=by kernel_rfl
abbrev Gx:FuncId:=19
theorem Lo (fu d:Nat)(a0_0 a0_1:ByteArray)(a0_2 a0_3:Int)(a0_4 a0_5 a0_6:Int)(a0_7:Bool)(a0_8 a0_9 a0_10:Int)(a0_11n:Nat)(a0_11:List PV)(a0_12n:Nat)(a0_12:List PV)(a1_0 a1_1:ByteArray)(a1_2 Ahd:Int)(Aje Ahe Ah9:Int)(Agv:Bool)(Agm Ah2 VF:Int)(Ah5:Nat)(TV:List PV)(Aiz:Nat)(VG:List PV):Ae C0 Tryz.prog fu (d+1) Gx [.agg [.sc (.string a0_0),.sc (.string a0_1),.sc (.int .u64 a0_2),.sc (.int .i64 a0_3),.sc (.int .u64 a0_4),.sc (.int .i64 a0_5),.sc (.int .i64 a0_6),.sc (.bool a0_7),.sc (.int .i64 a0_8),.sc (.int .u64 a0_9),.sc (.int .i64 a0_10),.lst false 1 a0_11n a0_11,.lst false 1 a0_12n a0_12],.agg [.sc (.string a1_0),.sc (.string a1_1),.sc (.int .u64 a1_2),.sc (.int .i64 Ahd),.sc (.int .u64 Aje),.sc (.int .i64 Ahe),.sc (.int .i64 Ah9),.sc (.bool Agv),.sc (.int .i64 Agm),.sc (.int .u64 Ah2),.sc (.int .i64 VF),.lst false 1 Ah5 TV,.lst false 1 Aiz VG]]=(fun (call:Ai)=>Ba (Array.toList (ByteArray.data a0_0)==Array.toList (ByteArray.data a1_0)) (Ba (Array.toList (ByteArray.data a0_1)==Array.toList (ByteArray.data a1_1)) (Ba (a0_2==a1_2) (Ba (a0_3==Ahd&&(a0_4==Aje&&true)) (Ba (a0_5==Ahe) (Ba (a0_6==Ah9) (Ba (a0_7==Agv) (Ba (a0_8==Agm) (Ba (a0_9==Ah2) (Ag (call 40 [.agg [.sc (.int .i64 a0_10),.lst false 1 a0_11n a0_11,.lst false 1 a0_12n a0_12],.agg [.sc (.int .i64 VF),.lst false 1 Ah5 TV,.lst false 1 Aiz VG]]) fun x1 x2=>Ac x2<|Ab x1 fun x3 x4=>Bk x3 fun x5=>Ac x4<|some (Az.mk [.sc (.bool x5)] [])) (some (Az.mk [.sc (.bool false)] []))) (some (Az.mk [.sc (.bool false)] []))) (some (Az.mk [.sc (.bool false)] []))) (some (Az.mk [.sc (.bool false)] []))) (some (Az.mk [.sc (.bool false)] []))) (some (Az.mk [.sc (.bool false)] []))) (some (Az.mk [.sc (.bool false)] []))) (some (Az.mk [.sc (.bool false)] []))) (some (Az.mk [.sc (.bool false)] []))) (Ae C0 Tryz.prog fu d):=by kernel_rfl
end
section
open Go.IntKind (wrap)
def Rk (x:It):List Int:=
 if x.k=7 then [wrap .u8 (244+wrap .u8 x.n)] else if x.k=8 then [246] else if x.k=3 then C1 2 x.s.size else if x.k=4 then C1 3 x.s.size else C1 (x.k-1) x.n
def It.dat (x:It):Prop:=x.k=3∨x.k=4∨Ij x.s=[]
theorem Ac2 {x:It}(h:x.dat):Br x=Rk x++Ij x.s:=by
 unfold Br Rk;by_cases c7:x.k=7
 ·rcases h with h|h|h
  ·omega
  ·omega
  ·simp [c7,h]
 ·by_cases c8:x.k=8
  ·rcases h with h|h|h
   ·omega
   ·omega
   ·simp [c8,h]
  ·by_cases c3:x.k=3
   ·simp [c3]
   ·by_cases c4:x.k=4
    ·simp [c4]
    ·rcases h with h|h|h
     ·omega
     ·omega
     ·simp [c7,c8,c3,c4,h]
theorem Aej (x:It):(Rk x).length<=9:=by
 have h2:=Hc 2 x.s.size;have h3:=Hc 3 x.s.size;have h4:=Hc (x.k-1) x.n;unfold Rk
 repeat' split
 all_goals try simp only [Jj,Xy]
 all_goals omega
theorem Afk (v:Int):D6 .u64 v 0=v:=by
 show v.fdiv (2 ^ (min (0:Int).toNat IntKind.u64.bits))=v;have:(2:Int) ^ (min (0:Int).toNat IntKind.u64.bits)=1:=by decide
 rw [this,Int.fdiv_one]
theorem tb1 (v:Int):tb v 1=[wrap .u8 v]:=by
 show [wrap .u8 (D6 .u64 v (56-8*((7:Nat):Int)))]=_;rw [show (56:Int)-8*((7:Nat):Int)=0 by omega,Afk]
theorem tb2 (v:Int):tb v 2=[wrap .u8 (D6 .u64 v 8),wrap .u8 v]:=by
 show [wrap .u8 (D6 .u64 v (56-8*((6:Nat):Int))),wrap .u8 (D6 .u64 v (56-8*((7:Nat):Int)))]=_;rw [show (56:Int)-8*((7:Nat):Int)=0 by omega,show (56:Int)-8*((6:Nat):Int)=8 by omega,Afk]
theorem tb4 (v:Int):tb v 4=[wrap .u8 (D6 .u64 v 24),wrap .u8 (D6 .u64 v 16),wrap .u8 (D6 .u64 v 8),wrap .u8 v]:=by
 show [wrap .u8 (D6 .u64 v (56-8*((4:Nat):Int))),wrap .u8 (D6 .u64 v (56-8*((5:Nat):Int))),wrap .u8 (D6 .u64 v (56-8*((6:Nat):Int))),wrap .u8 (D6 .u64 v (56-8*((7:Nat):Int)))]=_;rw [show (56:Int)-8*((7:Nat):Int)=0 by omega,show (56:Int)-8*((6:Nat):Int)=8 by omega,show (56:Int)-8*((5:Nat):Int)=16 by omega,show (56:Int)-8*((4:Nat):Int)=24 by omega,Afk]
theorem tb8 (v:Int):tb v 8=Dy v:=rfl
section
variable {fu d:Nat}
theorem Aiw (hfu:1000<=fu){k n:Int}{s:ByteArray}{nn:Nat}(hn:0<nn){mj v:Int}(h0:0<=mj)(h1:mj<=5)(hv:0<=v):
  C8 fu (Ae C0 Tryz.prog fu (d+1)) k n s nn v (32*mj)=some ⟨[.own 1 (C1 mj v).length (Af .u8 (C1 mj v))],[]⟩:=by
 rw [Ug (hnn:=hn)];have w24:wrap .u8 (32*mj+24)=32*mj+24:=Fu (by omega) (by omega)
 have w25:wrap .u8 (32*mj+25)=32*mj+25:=Fu (by omega) (by omega)
 have w26:wrap .u8 (32*mj+26)=32*mj+26:=Fu (by omega) (by omega)
 have w27:wrap .u8 (32*mj+27)=32*mj+27:=Fu (by omega) (by omega)
 unfold C1;by_cases c1:v<24
 ·have wn:wrap .u8 v=v:=Fu (by omega) (by omega)
  have ws:wrap .u8 (32*mj+v)=32*mj+v:=Fu (by omega) (by omega)
  rw [B7 c1];simp (disch:=omega) only [B4,wn,ws];rfl
 ·by_cases c2:v<256
  ·rw [A7 c1,B7 c2,tb1];simp (disch:=omega) only [B4,w24];rfl
  ·by_cases c3:v<65536
   ·rw [A7 c1,A7 c2,B7 c3,tb2];simp (disch:=omega) only [B4,w25];rfl
   ·by_cases c4:v<4294967296
    ·rw [A7 c1,A7 c2,A7 c3,B7 c4,tb4];simp (disch:=omega) only [B4,w26];rfl
    ·have wd:=Art (fu:=fu) (d:=d) hfu v;have L:=Ak .u8 (Dy v);rw [Ew] at L;have t8:List.take 8 (Af .u8 (Dy v))=Af .u8 (Dy v):=Sl (by omega)
     have eC:[PV.sc (.int .u8 (32*mj+27))]++Af .u8 (Dy v)=Af .u8 ((32*mj+27)::Dy v):=rfl;have L9:(Af .u8 ((32*mj+27)::Dy v)).length=9:=by rw [Ak,Jj,Ew]
     have t9:List.take 9 (Af .u8 ((32*mj+27)::Dy v))=Af .u8 ((32*mj+27)::Dy v):=Sl (by omega)
     rw [A7 c1,A7 c2,A7 c3,A7 c4,tb8,Jj,Ew];simp (disch:=omega) only [B4,w27,wd,Cb,Bw,Fa,L,t8,eC,Nat.reduceAdd,L9,t9]
theorem Agy (hfu:1000<=fu){x:It}(hx:x.ok):Ae C0 Tryz.prog fu (d+2) Om [.agg x.cells]=some ⟨[.own 1 (Rk x).length (Af .u8 (Rk x))],[]⟩:=by
 obtain ⟨k,n,s⟩:=x;obtain ⟨k1,k8,n0,s0⟩:=hx;simp only at k1 k8 n0 s0;refine (Yu fu (d+1) k n s).trans ?_;have wsz:wrap .u64 (s.size:Int)=s.size:=Cs (by omega) (by omega)
 have J:=fun (mj v:Int) (h0:0<=mj) (h1:mj<=5) (hv:0<=v)=>Aiw (fu:=fu) (d:=d) hfu (k:=k) (n:=n) (s:=s) (nn:=fu) (by omega) h0 h1 hv
 have j0:=J 0 n (by omega) (by omega) n0
 have j1:=J 1 n (by omega) (by omega) n0
 have j2:=J 2 s.size (by omega) (by omega) (by omega)
 have j3:=J 3 s.size (by omega) (by omega) (by omega)
 have j4:=J 4 n (by omega) (by omega) n0
 have j5:=J 5 n (by omega) (by omega) n0
 rw [show (32:Int)*0=0 by omega] at j0
 rw [show (32:Int)*1=32 by omega] at j1
 rw [show (32:Int)*2=64 by omega] at j2
 rw [show (32:Int)*3=96 by omega] at j3
 rw [show (32:Int)*4=128 by omega] at j4
 rw [show (32:Int)*5=160 by omega] at j5
 unfold Rk;simp only;have:k=1∨k=2∨k=3∨k=4∨k=5∨k=6∨k=7∨k=8:=by omega
 rcases this with rfl|rfl|rfl|rfl|rfl|rfl|rfl|rfl
 ·simp only [B4,Fc,Int.reduceEq,if_true,if_false,Int.reduceSub,j0]
 ·simp only [B4,Fc,Int.reduceEq,if_true,if_false,Int.reduceSub,j1]
 ·simp only [B4,Fc,Int.reduceEq,if_true,if_false,Int.reduceSub,wsz,j2]
 ·simp only [B4,Fc,Int.reduceEq,if_true,if_false,Int.reduceSub,wsz,j3]
 ·simp only [B4,Fc,Int.reduceEq,if_true,if_false,Int.reduceSub,j4]
 ·simp only [B4,Fc,Int.reduceEq,if_true,if_false,Int.reduceSub,j5]
 ·simp only [B4,Fc,Int.reduceEq,if_true,if_false];rfl
 ·simp only [B4,Fc,Int.reduceEq,if_true,if_false];rfl
theorem Ad1 (hfu:1000<=fu){x:It}(hx:x.ok)(hd:x.dat):Ae C0 Tryz.prog fu (d+3) Nj [.agg x.cells]=some ⟨[.sc (.string (Cd (Br x)))],[]⟩:=by
 refine (Xb fu (d+2) x.k x.n x.s).trans ?_;have hr:=Agy (fu:=fu) (d:=d) hfu hx;have L:=Ak .u8 (Rk x);have l9:=Aej x;have bo:=G2 (Rk x);have eA:ByteArray.mk (List.map (fun n:Int=>n.toNat.toUInt8) (Rk x)).toArray=Cd (Rk x):=rfl
 have sz:=Fz (Rk x);have s0:=hx.s0;have ap:Cd (Rk x)++x.s=Cd (Br x):=by rw [UA,Ac2 hd]
 simp only [It.cells] at hr;simp (disch:=omega) only [B4,hr,Cb,Bw,Fa,Kc,L,bo,eA,sz,ap]
def Ck (its:List It):List PV:=its.flatMap It.cells
theorem It.cells_len (x:It):x.cells.length=3:=rfl
def Bg (its:List It):List Int:=its.flatMap Br
theorem ES {a0n:Nat}{a0:List PV}{its:List It}(hk:∀x∈its,x.ok∧x.dat)(hl:its.length<=1000)(hfu:1000<=fu):∀(r:List It)(i nn:Nat)(b:List Int),its.drop i=r->r.length<nn->b.length+500010*r.length<=1000000000 ->
  Fp fu (Ae C0 Tryz.prog fu (d+3)) a0n a0 nn its.length (Ck its) b.length i (Af .u8 b)=some ⟨[.own 1 (b++Bg r).length (Af .u8 (b++Bg r))],[]⟩
 |_,_,0,_,_,h,_=>by omega
 |[],i,nn+1,b,h,hn,hb=>by
  have:=drop_nil h;have L:=Ak .u8 b;rw [I7,Dt _ _ _ (by omega)]
  simp (disch:=omega) only [B4,Cb,Kc,L];simp [Bg]
 |x::r,i,nn+1,b,h,hn,hb=>by
  obtain ⟨h1,h2,h3⟩:=Cg h;simp only [Jj] at hn hb;obtain ⟨ok,dt⟩:=hk x (List.mem_of_getElem? h2);have hil:=Gu x;have hs0:=ok.s0;have g0:(Ck its).getD (i*3) .top=.sc (.int .i64 x.k):=Ec It.cells_len h2 (j:=0) (by omega)
  have g1:(Ck its).getD (i*3+1) .top=.sc (.int .u64 x.n):=Ec It.cells_len h2 (j:=1) (by omega)
  have g2:(Ck its).getD (i*3+1+1) .top=.sc (.string x.s):=Ec It.cells_len h2 (j:=2) (by omega)
  have by_:=Ad1 (fu:=fu) (d:=d) hfu ok dt;simp only [It.cells] at by_;have ih:=ES (a0n:=a0n) (a0:=a0) hk hl hfu r (i+1) nn (b++Br x) h3 (by omega) (by rw [J6];omega)
  have w:wrap .i64 ((i:Int)+1)=((i+1:Nat):Int):=by rw [Aj (by omega) (by omega)];omega
  have L:=Ak .u8 b;have hB:=Abd ok.k1 ok.k8 ok.n0;have sc:Dm (Cd (Br x))=Af .u8 (Br x):=by rw [Mg,Nt hB]
  have sz:=Fz (Br x);have Li:=Ak .u8 (Br x);have ea:Af .u8 b++Af .u8 (Br x)=Af .u8 (b++Br x):=by rw [Af,Af,Af,List.flatMap_append]
  have ei:Bg (x::r)=Br x++Bg r:=rfl;rw [ei,←XE,←ih,I7];simp (disch:=omega) only [B4,Gm,g0,g1,g2,by_,sc,sz,Li,Cb,Kc,L,ea,w,J6]
theorem Aes {its:List It}(hk:∀x∈its,x.ok∧x.dat)(hl:its.length<=900)(hfu:1000<=fu):Ae C0 Tryz.prog fu (d+4) L5 [.lst false 3 its.length (Ck its)]=some ⟨[.own 1 (Bg its).length (Af .u8 (Bg its))],[]⟩:=by
 rw [U5];exact ES (fu:=fu) (d:=d) (a0n:=its.length) (a0:=Ck its) hk (by omega) hfu its 0 fu [] rfl (by omega) (by simp;omega)
end
end
section
open Go.IntKind (wrap)
structure Ce where
 subj:ByteArray
 iss:ByteArray
 serial:Int
 key:Ky
 fr:Int
 un:Int
 auth:Bool
 path:Int
 model:Int
 sig:Sg
def Ce.cells (c:Ce):List PV:=[.sc (.string c.subj),.sc (.string c.iss),.sc (.int .u64 c.serial),.sc (.int .i64 c.key.h),.sc (.int .u64 c.key.root),.sc (.int .i64 c.fr),.sc (.int .i64 c.un),.sc (.bool c.auth),.sc (.int .i64 c.path),.sc (.int .u64 c.model),.sc (.int .i64 c.sig.leaf),.lst false 1 c.sig.chains.length (Af .u64 c.sig.chains),.lst false 1 c.sig.path.length (Af .u64 c.sig.path)]
abbrev UY (s:ByteArray):Bool:=Lib.validD s.data.toList
abbrev Gc:ByteArray:=⟨#[]⟩
def A4 (c:Ce):Int:=
 if c.subj.size<1∨32<c.subj.size then 9 else if c.iss.size<1∨32<c.iss.size then 9 else if UY c.subj=false then 6 else if UY c.iss=false then 6 else
 if Dg c.key.h=true then 9 else if c.fr<0 then 9 else if c.un<c.fr then 9 else if c.un>1099511627776 then 9 else if c.path<0∨2<c.path then 9 else if c.path≠0∧c.auth=false then 4 else 0
def Bc (c:Ce):List It:=[⟨5,9,Gc⟩,⟨4,0,c.subj⟩,⟨4,0,c.iss⟩,⟨1,c.serial,Gc⟩,⟨3,0,Cd (I3 c.key)⟩,⟨1,c.fr,Gc⟩,⟨1,c.un,Gc⟩,⟨7,(if c.auth=true then 1 else 0),Gc⟩,⟨1,c.path,Gc⟩,⟨1,c.model,Gc⟩]
structure Ce.wf (c:Ce):Prop where
 ser:0<=c.serial
 mod:0<=c.model
def Hl (c:Ce):List PV:=if A4 c=0 then [.own 1 (Bg (Bc c)).length (Af .u8 (Bg (Bc c))),.sc (.int .i64 0)] else [.own 1 0 [],.sc (.int .i64 (A4 c))]
theorem Yo {c:Ce}(hw:c.wf)(h:A4 c=0):∀x∈Bc c,x.ok∧x.dat:=by
 unfold A4 at h;have kl:(Cd (I3 c.key)).size=9:=by rw [Fz];rfl
 have ns:Gc.size=0:=rfl;have hs:=hw.ser;have hm:=hw.mod
 repeat' (split at h;· cases h)
 intro x hx;simp only [Bc,List.mem_cons,List.not_mem_nil,or_false] at hx;rcases hx with rfl|rfl|rfl|rfl|rfl|rfl|rfl|rfl|rfl|rfl
 ·exact ⟨⟨by simp,by simp,by simp,by simp [ns]⟩,.inr (.inr rfl)⟩
 ·exact ⟨⟨by simp,by simp,by simp,by simp only;omega⟩,.inr (.inl rfl)⟩
 ·exact ⟨⟨by simp,by simp,by simp,by simp only;omega⟩,.inr (.inl rfl)⟩
 ·exact ⟨⟨by simp,by simp,hs,by simp [ns]⟩,.inr (.inr rfl)⟩
 ·exact ⟨⟨by simp,by simp,by simp,by simp only [kl];omega⟩,.inl rfl⟩
 ·exact ⟨⟨by simp,by simp,by simp only;omega,by simp [ns]⟩,.inr (.inr rfl)⟩
 ·exact ⟨⟨by simp,by simp,by simp only;omega,by simp [ns]⟩,.inr (.inr rfl)⟩
 ·exact ⟨⟨by simp,by simp,by simp only;split<;>omega,by simp [ns]⟩,.inr (.inr rfl)⟩
 ·exact ⟨⟨by simp,by simp,by simp only;omega,by simp [ns]⟩,.inr (.inr rfl)⟩
 ·exact ⟨⟨by simp,by simp,hm,by simp [ns]⟩,.inr (.inr rfl)⟩
section
variable {fu d:Nat}
theorem Po (s:ByteArray)(h:s.size<=9223372036854775807):Ae C0 Tryz.prog fu (d+1) 56 [.sc (.string s)]=some ⟨[.sc (.bool (UY s))],[]⟩:=by
 show IJ [.sc (.string s)]=_;unfold IJ;simp [h]
theorem ED (n lo hi:Int):Ae C0 Tryz.prog fu (d+1) Kf [.sc (.int .i64 n),.sc (.int .i64 lo),.sc (.int .i64 hi)]=some ⟨[.sc (.bool (decide (lo<=n)&&decide (n<=hi)))],[]⟩:=by
 rw [Uf];by_cases h:lo<=n
 ·simp (disch:=omega) only [B4,h,decide_true,Zzm]
 ·simp (disch:=omega) only [B4,h,decide_false,Bool.false_and]
theorem Adf (n:Int)(h0:0<=n)(h1:n<=1000):Ae C0 Tryz.prog fu (d+1) Mb [.sc (.int .i64 n)]=some ⟨[.agg [.sc (.int .i64 5),.sc (.int .u64 n),.sc (.string Gc)]],[]⟩:=by
 rw [Uu];have w:wrap .u64 n=n:=Cs (by omega) (by omega)
 simp only [B4,w]
theorem WH (s:ByteArray):Ae C0 Tryz.prog fu (d+1) Ng [.sc (.string s)]=some ⟨[.agg [.sc (.int .i64 4),.sc (.int .u64 0),.sc (.string s)]],[]⟩:=by
 rw [W8]
theorem YF (n:Int):Ae C0 Tryz.prog fu (d+1) Kg [.sc (.int .u64 n)]=some ⟨[.agg [.sc (.int .i64 1),.sc (.int .u64 n),.sc (.string Gc)]],[]⟩:=by
 rw [Ue]
theorem Afl (l:List Int):Ae C0 Tryz.prog fu (d+1) Nb [.lst false 1 l.length (Af .u8 l)]=some ⟨[.agg [.sc (.int .i64 3),.sc (.int .u64 0),.sc (.string (Cd l))]],[]⟩:=by
 rw [Xc];have L:=Ak .u8 l;have bo:=G2 l;simp (disch:=omega) only [B4,L,bo];rfl
theorem TS (b:Bool):Ae C0 Tryz.prog fu (d+1) Js [.sc (.bool b)]=some ⟨[.agg [.sc (.int .i64 7),.sc (.int .u64 (if b=true then 1 else 0)),.sc (.string Gc)]],[]⟩:=by
 rw [S0];cases b<;>rfl
theorem Aif (hfu:1000<=fu){c:Ce}(hw:c.wf)(hs1:c.subj.size<=9223372036854775807)(hs2:c.iss.size<=9223372036854775807):Ae C0 Tryz.prog fu (d+5) Nc [.agg c.cells]=some ⟨Hl c,[]⟩:=by
 refine (Wm fu (d+4) c.subj c.iss c.serial c.key.h c.key.root c.fr c.un c.auth c.path c.model c.sig.leaf c.sig.chains.length (Af .u64 c.sig.chains) c.sig.path.length (Af .u64 c.sig.path)).trans ?_;have n1:=ED (fu:=fu) (d:=d+3) c.subj.size 1 32;have n2:=ED (fu:=fu) (d:=d+3) c.iss.size 1 32;have n3:=ED (fu:=fu) (d:=d+3) c.path 0 2;have v1:=Po (fu:=fu) (d:=d+3) c.subj hs1;have v2:=Po (fu:=fu) (d:=d+3) c.iss hs2;have ek:=XV (fu:=fu) (d:=d+2) hfu c.key;have e90:((9:Int) != 0)=true:=rfl;have e00:((0:Int) != 0)=false:=rfl;simp only [Ky.cells] at ek;unfold Hl;by_cases e1:c.subj.size<1∨32<c.subj.size
 ·have hb:A4 c=9:=by unfold A4;rw [B7 e1]
  have:(decide ((1:Int)<=c.subj.size)&&decide ((c.subj.size:Int)<=32))=false:=by simp;omega
  rw [this] at n1;rw [hb,A7 (by omega)]
  try unfold Aa
  repeat first
   |((with_reducible first|apply As|apply Am|apply At|apply Aq|apply A3|apply Bi|apply Bz|apply Dh|apply Al);· first|with_reducible rfl|(simp (disch:=omega) only [n1,Int.reduceEq,C7,D1]<;>with_reducible rfl))
   |((with_reducible first|apply Av|apply Au);· first|with_reducible rfl|omega|(simp (disch:=omega) only [gT,n1,Int.reduceEq,C7,D1]<;>omega))
   |(with_reducible apply Aw;· first|with_reducible rfl|(simp (disch:=omega) only [gF,n1,Int.reduceEq,C7,D1]<;>omega))
  try simp (disch:=omega) only [n1,Int.reduceEq,C7,D1]
  all_goals rfl
 have q1:(decide ((1:Int)<=c.subj.size)&&decide ((c.subj.size:Int)<=32))=true:=by simp;omega
 rw [q1] at n1;by_cases e2:c.iss.size<1∨32<c.iss.size
 ·have hb:A4 c=9:=by unfold A4;rw [A7 e1,B7 e2]
  have:(decide ((1:Int)<=c.iss.size)&&decide ((c.iss.size:Int)<=32))=false:=by simp;omega
  rw [this] at n2;rw [hb,A7 (by omega)]
  try unfold Aa
  repeat first
   |((with_reducible first|apply As|apply Am|apply At|apply Aq|apply A3|apply Bi|apply Bz|apply Dh|apply Al);· first|with_reducible rfl|(simp (disch:=omega) only [n1,n2,Int.reduceEq,C7,D1]<;>with_reducible rfl))
   |((with_reducible first|apply Av|apply Au);· first|with_reducible rfl|omega|(simp (disch:=omega) only [gT,n1,n2,Int.reduceEq,C7,D1]<;>omega))
   |(with_reducible apply Aw;· first|with_reducible rfl|(simp (disch:=omega) only [gF,n1,n2,Int.reduceEq,C7,D1]<;>omega))
  try simp (disch:=omega) only [n1,n2,Int.reduceEq,C7,D1]
  all_goals rfl
 have q2:(decide ((1:Int)<=c.iss.size)&&decide ((c.iss.size:Int)<=32))=true:=by simp;omega
 rw [q2] at n2;cases e3:UY c.subj
 ·have hb:A4 c=6:=by unfold A4;rw [A7 e1,A7 e2,B7 e3]
  rw [e3] at v1;rw [hb,A7 (by omega)]
  try unfold Aa
  repeat first
   |((with_reducible first|apply As|apply Am|apply At|apply Aq|apply A3|apply Bi|apply Bz|apply Dh|apply Al);· first|with_reducible rfl|(simp (disch:=omega) only [n1,n2,v1,Int.reduceEq,C7,D1]<;>with_reducible rfl))
   |((with_reducible first|apply Av|apply Au);· first|with_reducible rfl|omega|(simp (disch:=omega) only [gT,n1,n2,v1,Int.reduceEq,C7,D1]<;>omega))
   |(with_reducible apply Aw;· first|with_reducible rfl|(simp (disch:=omega) only [gF,n1,n2,v1,Int.reduceEq,C7,D1]<;>omega))
  try simp (disch:=omega) only [n1,n2,v1,Int.reduceEq,C7,D1]
  all_goals rfl
 rw [e3] at v1;cases e4:UY c.iss
 ·have hb:A4 c=6:=by unfold A4;rw [A7 e1,A7 e2,A7 (by simp [e3]),B7 e4]
  rw [e4] at v2;rw [hb,A7 (by omega)]
  try unfold Aa
  repeat first
   |((with_reducible first|apply As|apply Am|apply At|apply Aq|apply A3|apply Bi|apply Bz|apply Dh|apply Al);· first|with_reducible rfl|(simp (disch:=omega) only [n1,n2,v1,v2,Int.reduceEq,C7,D1]<;>with_reducible rfl))
   |((with_reducible first|apply Av|apply Au);· first|with_reducible rfl|omega|(simp (disch:=omega) only [gT,n1,n2,v1,v2,Int.reduceEq,C7,D1]<;>omega))
   |(with_reducible apply Aw;· first|with_reducible rfl|(simp (disch:=omega) only [gF,n1,n2,v1,v2,Int.reduceEq,C7,D1]<;>omega))
  try simp (disch:=omega) only [n1,n2,v1,v2,Int.reduceEq,C7,D1]
  all_goals rfl
 rw [e4] at v2;cases e5:Dg c.key.h
 rotate_left
 ·have hb:A4 c=9:=by unfold A4;rw [A7 e1,A7 e2,A7 (by simp [e3]),A7 (by simp [e4]),B7 e5]
  rw [e5,B7 rfl] at ek;rw [hb,A7 (by omega)]
  try unfold Aa
  repeat first
   |((with_reducible first|apply As|apply Am|apply At|apply Aq|apply A3|apply Bi|apply Bz|apply Dh|apply Al);· first|with_reducible rfl|(simp (disch:=omega) only [n1,n2,v1,v2,ek,e90,e00,Int.reduceEq,C7,D1]<;>with_reducible rfl))
   |((with_reducible first|apply Av|apply Au);· first|with_reducible rfl|omega|(simp (disch:=omega) only [gT,n1,n2,v1,v2,ek,e90,e00,Int.reduceEq,C7,D1]<;>omega))
   |(with_reducible apply Aw;· first|with_reducible rfl|(simp (disch:=omega) only [gF,n1,n2,v1,v2,ek,e90,e00,Int.reduceEq,C7,D1]<;>omega))
  try simp (disch:=omega) only [n1,n2,v1,v2,ek,e90,e00,Int.reduceEq,C7,D1]
  all_goals rfl
 rw [e5,A7 (by simp)] at ek
 have B0:A4 c=if c.fr<0 then 9 else if c.un<c.fr then 9 else if c.un>1099511627776 then 9 else if c.path<0∨2<c.path then 9 else if c.path≠0∧c.auth=false then 4 else 0:=by
  unfold A4;rw [A7 e1,A7 e2,A7 (by simp [e3]),A7 (by simp [e4]),A7 (by simp [e5])]
 by_cases e6:c.fr<0
 ·have hb:A4 c=9:=by rw [B0,B7 e6]
  rw [hb,A7 (by omega)]
  try unfold Aa
  repeat first
   |((with_reducible first|apply As|apply Am|apply At|apply Aq|apply A3|apply Bi|apply Bz|apply Dh|apply Al);· first|with_reducible rfl|(simp (disch:=omega) only [n1,n2,v1,v2,ek,e90,e00,Int.reduceEq,C7,D1]<;>with_reducible rfl))
   |((with_reducible first|apply Av|apply Au);· first|with_reducible rfl|omega|(simp (disch:=omega) only [gT,n1,n2,v1,v2,ek,e90,e00,Int.reduceEq,C7,D1]<;>omega))
   |(with_reducible apply Aw;· first|with_reducible rfl|(simp (disch:=omega) only [gF,n1,n2,v1,v2,ek,e90,e00,Int.reduceEq,C7,D1]<;>omega))
  try simp (disch:=omega) only [n1,n2,v1,v2,ek,e90,e00,Int.reduceEq,C7,D1]
  all_goals rfl
 by_cases e7:c.un<c.fr
 ·have hb:A4 c=9:=by rw [B0,A7 e6,B7 e7]
  rw [hb,A7 (by omega)]
  try unfold Aa
  repeat first
   |((with_reducible first|apply As|apply Am|apply At|apply Aq|apply A3|apply Bi|apply Bz|apply Dh|apply Al);· first|with_reducible rfl|(simp (disch:=omega) only [n1,n2,v1,v2,ek,e90,e00,Int.reduceEq,C7,D1]<;>with_reducible rfl))
   |((with_reducible first|apply Av|apply Au);· first|with_reducible rfl|omega|(simp (disch:=omega) only [gT,n1,n2,v1,v2,ek,e90,e00,Int.reduceEq,C7,D1]<;>omega))
   |(with_reducible apply Aw;· first|with_reducible rfl|(simp (disch:=omega) only [gF,n1,n2,v1,v2,ek,e90,e00,Int.reduceEq,C7,D1]<;>omega))
  try simp (disch:=omega) only [n1,n2,v1,v2,ek,e90,e00,Int.reduceEq,C7,D1]
  all_goals rfl
 by_cases e8:c.un>1099511627776
 ·have hb:A4 c=9:=by rw [B0,A7 e6,A7 e7,B7 e8]
  rw [hb,A7 (by omega)]
  try unfold Aa
  repeat first
   |((with_reducible first|apply As|apply Am|apply At|apply Aq|apply A3|apply Bi|apply Bz|apply Dh|apply Al);· first|with_reducible rfl|(simp (disch:=omega) only [n1,n2,v1,v2,ek,e90,e00,Int.reduceEq,C7,D1]<;>with_reducible rfl))
   |((with_reducible first|apply Av|apply Au);· first|with_reducible rfl|omega|(simp (disch:=omega) only [gT,n1,n2,v1,v2,ek,e90,e00,Int.reduceEq,C7,D1]<;>omega))
   |(with_reducible apply Aw;· first|with_reducible rfl|(simp (disch:=omega) only [gF,n1,n2,v1,v2,ek,e90,e00,Int.reduceEq,C7,D1]<;>omega))
  try simp (disch:=omega) only [n1,n2,v1,v2,ek,e90,e00,Int.reduceEq,C7,D1]
  all_goals rfl
 by_cases e9:c.path<0∨2<c.path
 ·have hb:A4 c=9:=by rw [B0,A7 e6,A7 e7,A7 e8,B7 e9]
  have:(decide ((0:Int)<=c.path)&&decide (c.path<=2))=false:=by simp;omega
  rw [this] at n3;rw [hb,A7 (by omega)]
  try unfold Aa
  repeat first
   |((with_reducible first|apply As|apply Am|apply At|apply Aq|apply A3|apply Bi|apply Bz|apply Dh|apply Al);· first|with_reducible rfl|(simp (disch:=omega) only [n1,n2,v1,v2,ek,e90,e00,n3,Int.reduceEq,C7,D1]<;>with_reducible rfl))
   |((with_reducible first|apply Av|apply Au);· first|with_reducible rfl|omega|(simp (disch:=omega) only [gT,n1,n2,v1,v2,ek,e90,e00,n3,Int.reduceEq,C7,D1]<;>omega))
   |(with_reducible apply Aw;· first|with_reducible rfl|(simp (disch:=omega) only [gF,n1,n2,v1,v2,ek,e90,e00,n3,Int.reduceEq,C7,D1]<;>omega))
  try simp (disch:=omega) only [n1,n2,v1,v2,ek,e90,e00,n3,Int.reduceEq,C7,D1]
  all_goals rfl
 have q9:(decide ((0:Int)<=c.path)&&decide (c.path<=2))=true:=by simp;omega
 rw [q9] at n3;by_cases e10:c.path≠0∧c.auth=false
 ·have hb:A4 c=4:=by rw [B0,A7 e6,A7 e7,A7 e8,A7 e9,B7 e10]
  have ea:=e10.2;have ep:(c.path != 0)=true:=by simp [e10.1]
  rw [hb,A7 (by omega)]
  try unfold Aa
  repeat first
   |((with_reducible first|apply As|apply Am|apply At|apply Aq|apply A3|apply Bi|apply Bz|apply Dh|apply Al);· first|with_reducible rfl|(simp (disch:=omega) only [n1,n2,v1,v2,ek,e90,e00,n3,ep,ea,Int.reduceEq,C7,D1]<;>with_reducible rfl))
   |((with_reducible first|apply Av|apply Au);· first|with_reducible rfl|omega|(simp (disch:=omega) only [gT,n1,n2,v1,v2,ek,e90,e00,n3,ep,ea,Int.reduceEq,C7,D1]<;>omega))
   |(with_reducible apply Aw;· first|with_reducible rfl|(simp (disch:=omega) only [gF,n1,n2,v1,v2,ek,e90,e00,n3,ep,ea,Int.reduceEq,C7,D1]<;>omega))
  try simp (disch:=omega) only [n1,n2,v1,v2,ek,e90,e00,n3,ep,ea,Int.reduceEq,C7,D1]
  all_goals rfl
 have hb:A4 c=0:=by rw [B0,A7 e6,A7 e7,A7 e8,A7 e9,A7 e10]
 rw [hb,B7 rfl];have a0:=Adf (fu:=fu) (d:=d+3) 9 (by omega) (by omega)
 have t1:=WH (fu:=fu) (d:=d+3) c.subj;have t2:=WH (fu:=fu) (d:=d+3) c.iss;have nu:=fun n=>YF (fu:=fu) (d:=d+3) n
 have da:=Afl (fu:=fu) (d:=d+3) (I3 c.key);have k9:(I3 c.key).length=9:=rfl;rw [k9] at da;have bo:=TS (fu:=fu) (d:=d+3) c.auth;have wf:wrap .u64 c.fr=c.fr:=Cs (by omega) (by omega)
 have wu:wrap .u64 c.un=c.un:=Cs (by omega) (by omega)
 have wp:wrap .u64 c.path=c.path:=Cs (by omega) (by omega)
 have bi:=Aes (fu:=fu) (d:=d) (Yo hw hb) (by simp [Bc]) hfu
 have L9:=Ak .u8 (I3 c.key);rw [k9] at L9;have tk9:List.take 9 (Af .u8 (I3 c.key))=Af .u8 (I3 c.key):=Sl (by omega)
 have LB:=Ak .u8 (Bg (Bc c));have tB:=Kc .u8 (Bg (Bc c));generalize Bg (Bc c)=W at bi LB tB ⊢;simp only [Bc,Ck,List.flatMap_cons,List.flatMap_nil,It.cells,List.cons_append,Zzq,List.append_nil,Jj,Xy,Bw,Nat.reduceAdd] at bi;have w0:wrap .u64 (0:Int)=0:=rfl;by_cases ep:c.path=0
 ·rw [ep] at bi n3
  try unfold Aa
  repeat first
   |((with_reducible first|apply As|apply Am|apply At|apply Aq|apply A3|apply Bi|apply Bz|apply Dh|apply Al);· first|with_reducible rfl|(simp (disch:=omega) only [n1,n2,v1,v2,ek,e90,e00,n3,ep,w0,a0,t1,t2,nu,Cb,Bw,Fa,L9,tk9,da,wf,wu,bo,bi,LB,tB,Int.reduceEq,C7,D1]<;>with_reducible rfl))
   |((with_reducible first|apply Av|apply Au);· first|with_reducible rfl|omega|(simp (disch:=omega) only [gT,n1,n2,v1,v2,ek,e90,e00,n3,ep,w0,a0,t1,t2,nu,Cb,Bw,Fa,L9,tk9,da,wf,wu,bo,bi,LB,tB,Int.reduceEq,C7,D1]<;>omega))
   |(with_reducible apply Aw;· first|with_reducible rfl|(simp (disch:=omega) only [gF,n1,n2,v1,v2,ek,e90,e00,n3,ep,w0,a0,t1,t2,nu,Cb,Bw,Fa,L9,tk9,da,wf,wu,bo,bi,LB,tB,Int.reduceEq,C7,D1]<;>omega))
  try simp (disch:=omega) only [n1,n2,v1,v2,ek,e90,e00,n3,ep,w0,a0,t1,t2,nu,Cb,Bw,Fa,L9,tk9,da,wf,wu,bo,bi,LB,tB,Int.reduceEq,C7,D1]
  all_goals rfl
 ·have ea:c.auth=true:=by
   cases h:c.auth
   ·exact absurd ⟨ep,h⟩ e10
   ·rfl
  rw [ea,B7 rfl] at bo bi;have ep:(c.path != 0)=true:=by simp [ep]
  try unfold Aa
  repeat first
   |((with_reducible first|apply As|apply Am|apply At|apply Aq|apply A3|apply Bi|apply Bz|apply Dh|apply Al);· first|with_reducible rfl|(simp (disch:=omega) only [n1,n2,v1,v2,ek,e90,e00,n3,ep,ea,a0,t1,t2,nu,Cb,Bw,Fa,L9,tk9,da,wf,wu,wp,bo,bi,LB,tB,Int.reduceEq,C7,D1]<;>with_reducible rfl))
   |((with_reducible first|apply Av|apply Au);· first|with_reducible rfl|omega|(simp (disch:=omega) only [gT,n1,n2,v1,v2,ek,e90,e00,n3,ep,ea,a0,t1,t2,nu,Cb,Bw,Fa,L9,tk9,da,wf,wu,wp,bo,bi,LB,tB,Int.reduceEq,C7,D1]<;>omega))
   |(with_reducible apply Aw;· first|with_reducible rfl|(simp (disch:=omega) only [gF,n1,n2,v1,v2,ek,e90,e00,n3,ep,ea,a0,t1,t2,nu,Cb,Bw,Fa,L9,tk9,da,wf,wu,wp,bo,bi,LB,tB,Int.reduceEq,C7,D1]<;>omega))
  try simp (disch:=omega) only [n1,n2,v1,v2,ek,e90,e00,n3,ep,ea,a0,t1,t2,nu,Cb,Bw,Fa,L9,tk9,da,wf,wu,wp,bo,bi,LB,tB,Int.reduceEq,C7,D1]
  all_goals rfl
end
end
section
open Go.IntKind (wrap)
def IR (s:Sg):Int:=if Dg s.path.length=true then 9 else if Ke s.leaf s.path.length=true then 9 else if s.chains.length≠18 then 4 else 0
def Ex (c:Ce):Int:=if A4 c=0 then IR c.sig else A4 c
def Hq (c:Ce):List Int:=Bg (Bc c)++DE c.sig
def RW (c:Ce):List PV:=if Ex c=0 then [.own 1 (Hq c).length (Af .u8 (Hq c)),.sc (.int .i64 0)] else [.own 1 0 [],.sc (.int .i64 (Ex c))]
def Mn (c:Ce):Int:=Nf 14 (Bg (Bc c))
def Ro (c:Ce)(k:Ky):Int:=if A4 c=0 then WG k (Mn c) c.sig else A4 c
def XG:Ce:=⟨Gc,Gc,0,⟨0,0⟩,0,0,false,0,0,⟨0,[],[]⟩⟩
def Tz (c:Ce)(seed h leaf:Int):Ce × Int:=
 if A4 c=0 then (match AV seed h leaf (Mn c) with|some s=>({ c with sig:=s },0)|none=>(XG,9)) else (XG,A4 c)
theorem Mr {c:Ce}(h:A4 c=0):(Bg (Bc c)).length<=200:=by
 have k9:(Cd (I3 c.key)).size=9:=by rw [Fz];rfl
 have ns:Gc.size=0:=rfl;unfold A4 at h
 have hs:c.subj.size<=32∧c.iss.size<=32:=by
  split at h
  ·cases h
  ·split at h
   ·cases h
   ·omega
 have e:Bg (Bc c)=Br ⟨5,9,Gc⟩++(Br ⟨4,0,c.subj⟩++(Br ⟨4,0,c.iss⟩++(Br ⟨1,c.serial,Gc⟩++(Br ⟨3,0,Cd (I3 c.key)⟩++(Br ⟨1,c.fr,Gc⟩++(Br ⟨1,c.un,Gc⟩++(Br ⟨7,(if c.auth=true then 1 else 0),Gc⟩++(Br ⟨1,c.path,Gc⟩++(Br ⟨1,c.model,Gc⟩++[]))))))))):=rfl
 rw [e];simp only [J6,Xy];have i1:=Gu ⟨5,9,Gc⟩;have i2:=Gu ⟨4,0,c.subj⟩;have i3:=Gu ⟨4,0,c.iss⟩;have i4:=Gu ⟨1,c.serial,Gc⟩;have i5:=Gu ⟨3,0,Cd (I3 c.key)⟩;have i6:=Gu ⟨1,c.fr,Gc⟩;have i7:=Gu ⟨1,c.un,Gc⟩;have i8:=Gu ⟨7,(if c.auth=true then 1 else 0),Gc⟩
 have i9:=Gu ⟨1,c.path,Gc⟩;have i0:=Gu ⟨1,c.model,Gc⟩;simp only [ns,k9] at i1 i2 i3 i4 i5 i6 i7 i8 i9 i0;omega
theorem CY {c:Ce}(hw:c.wf)(h:A4 c=0):J4 (Bg (Bc c)):=by
 intro y hy;obtain ⟨x,hx,hy⟩:=List.mem_flatMap.1 hy;have:=(Yo hw h x hx).1;exact Abd this.k1 this.k8 this.n0 y hy
theorem CO {seed h leaf m:Int}{s:Sg}(e:AV seed h leaf m=some s):s.chains.length=18∧s.path.length<=4:=by
 unfold AV at e;split at e
 ·cases e
 ·rename_i hh;split at e
  ·cases e
  ·cases e;have:=H4 (by simpa using hh)
   simp [Io];omega
section
variable {fu d:Nat} {c:Ce}
theorem Ae9 (hfu:1000<=fu)(hw:c.wf)(hs1:c.subj.size<=9223372036854775807)(hs2:c.iss.size<=9223372036854775807)(seed h leaf:Int):Ae C0 Tryz.prog fu (d+13) Nm [.agg c.cells,.sc (.int .u64 seed),.sc (.int .i64 h),.sc (.int .i64 leaf)]=some ⟨[.agg (Tz c seed h leaf).1.cells,.sc (.int .i64 (Tz c seed h leaf).2)],[]⟩:=by
 refine (Ws fu (d+12) c.subj c.iss c.serial c.key.h c.key.root c.fr c.un c.auth c.path c.model c.sig.leaf c.sig.chains.length (Af .u64 c.sig.chains) c.sig.path.length (Af .u64 c.sig.path) seed h leaf).trans ?_;have bq:=Aif (fu:=fu) (d:=d+7) hfu hw hs1 hs2;simp only [Ce.cells] at bq;unfold Hl at bq;unfold Tz;by_cases h0:A4 c=0
 ·have lb:=Mr h0;rw [B7 h0] at bq;rw [B7 h0];have e00:((0:Int) != 0)=false:=rfl;have e90:((9:Int) != 0)=true:=rfl;have hh:=WQ (xs:=Ks) (fu:=fu) (d:=d+8) (CY hw h0) (by omega) (by omega) (by omega) 14
  have sg:=Af1 (fu:=fu) (d:=d) hfu seed h leaf (Mn c);have eW:Nf 14 (Bg (Bc c))=Mn c:=rfl;rw [eW] at hh;have L1:=Ak .u8 (Bg (Bc c));have t1:=Kc .u8 (Bg (Bc c));generalize (Bg (Bc c)).length=n1 at *
  generalize Af .u8 (Bg (Bc c))=c1 at *
  cases hs:AV seed h leaf (Mn c) with
  |none=>
   rw [hs] at sg;simp only [QR,Sg.owned,Xy] at sg
   try unfold Aa
   repeat first
    |((with_reducible first|apply As|apply Am|apply At|apply Bi|apply Bz|apply Al);· first|with_reducible rfl|(simp (disch:=omega) only [bq,e00,e90,Cb,Bw,Fa,L1,t1,hh,sg]<;>with_reducible rfl))
    |((with_reducible first|apply Av|apply Au);· first|with_reducible rfl|omega|(simp (disch:=omega) only [gT,bq,e00,e90,Cb,Bw,Fa,L1,t1,hh,sg]<;>omega))
    |(with_reducible apply Aw;· first|with_reducible rfl|(simp (disch:=omega) only [gF,bq,e00,e90,Cb,Bw,Fa,L1,t1,hh,sg]<;>omega))
   try simp (disch:=omega) only [bq,e00,e90,Cb,Bw,Fa,L1,t1,hh,sg]
   all_goals rfl
  |some s=>
   rw [hs] at sg;simp only [QR,Sg.owned] at sg;have hl:=CO hs;have La:=Ak .u64 s.chains;have Lb:=Ak .u64 s.path;have ta:=Kc .u64 s.chains;have tb:=Kc .u64 s.path
   try unfold Aa
   repeat first
    |((with_reducible first|apply As|apply Am|apply At|apply Bi|apply Bz|apply Al);· first|with_reducible rfl|(simp (disch:=omega) only [bq,e00,Cb,Bw,Fa,L1,t1,hh,sg,La,Lb,ta,tb]<;>with_reducible rfl))
    |((with_reducible first|apply Av|apply Au);· first|with_reducible rfl|omega|(simp (disch:=omega) only [gT,bq,e00,Cb,Bw,Fa,L1,t1,hh,sg,La,Lb,ta,tb]<;>omega))
    |(with_reducible apply Aw;· first|with_reducible rfl|(simp (disch:=omega) only [gF,bq,e00,Cb,Bw,Fa,L1,t1,hh,sg,La,Lb,ta,tb]<;>omega))
   try simp (disch:=omega) only [bq,e00,Cb,Bw,Fa,L1,t1,hh,sg,La,Lb,ta,tb]
   all_goals rfl
 ·have hne:(A4 c != 0)=true:=by simp [h0]
  rw [A7 h0] at bq;rw [A7 h0]
  try unfold Aa
  repeat first
   |((with_reducible first|apply As|apply Am|apply At|apply Bi|apply Bz|apply Al);· first|with_reducible rfl|(simp (disch:=omega) only [bq,hne]<;>with_reducible rfl))
   |((with_reducible first|apply Av|apply Au);· first|with_reducible rfl|omega|(simp (disch:=omega) only [gT,bq,hne]<;>omega))
   |(with_reducible apply Aw;· first|with_reducible rfl|(simp (disch:=omega) only [gF,bq,hne]<;>omega))
  try simp (disch:=omega) only [bq,hne]
  all_goals rfl
end
end
section
open Go.IntKind (wrap)
structure Gt where
 p:Bool
 left:Int
 last:List Int
def Gt.cells (f:Gt):List PV:=[.sc (.bool f.p),.sc (.int .i64 f.left),.lst false 1 f.last.length (Af .u8 f.last)]
def Eo (l:List Gt):List PV:=l.flatMap Gt.cells
theorem Gt.cells_len (f:Gt):f.cells.length=3:=rfl
theorem C4 (l:List Gt):(Eo l).length=l.length*3:=X4 Gt.cells_len l
theorem Df (l:List Gt):List.take (l.length*3) (Eo l)=Eo l:=Sl (by rw [C4];omega)
def Q3 (l:List Gt):Bool:=match l.getLast? with|some f=>f.p&&(Int.tmod f.left 2==0)|none=>false
def Iv (l:List Gt)(cnt k:Int):Int:=
 if cnt>=512 then 8 else if k<1 then 3 else if k>8 then 3 else if Q3 l=true∧k≠1∧k≠2∧k≠4 then 3 else if (l.length:Int)>8 then 5 else 0
abbrev Ka (l:List Gt)(cnt:Int):List PV:=[.own 3 l.length (Eo l),.sc (.int .i64 cnt)]
section
variable {fu d:Nat}
theorem SB (l:List Gt)(cnt:Int):Ae C0 Tryz.prog fu (d+1) R7 [.pbox (Ka l cnt)]=some ⟨[.sc (.bool (decide (cnt>0)&&((l.length:Int)==0)))],[Ka l cnt]⟩:=by
 rw [DI];have L:=C4 l;have t:=Df l;by_cases h:cnt>0
 ·simp (disch:=omega) only [B4,h,decide_true,Zzm,L,t]
 ·simp (disch:=omega) only [B4,h,decide_false,Bool.false_and,L,t]
theorem JG {l:List Gt}(hl:l.length<=1000000)(cnt:Int):Ae C0 Tryz.prog fu (d+1) P9 [.pbox (Ka l cnt)]=some ⟨[.sc (.bool (Q3 l))],[Ka l cnt]⟩:=by
 rw [AM];have L:=C4 l;have t:=Df l;unfold Q3;rcases List.eq_nil_or_concat l with rfl|⟨l',f,rfl⟩
 ·have e0:¬(((([]:List Gt).length:Nat):Int)>0):=by simp
  simp (disch:=first|assumption|omega) only [B4,L,t]
  first|done|rfl
 ·have hn:(l'.concat f).length=l'.length+1:=by simp
  have hx:(l'.concat f)[l'.length]?=some f:=by simp
  have gl:(l'.concat f).getLast?=some f:=by simp
  have w:wrap .i64 (((l'.concat f).length:Int)-1)=(l'.length:Int):=by rw [Aj (by omega) (by omega)];omega
  have g0:(Eo (l'.concat f)).getD (l'.length*3) .top=.sc (.bool f.p):=Ec Gt.cells_len hx (j:=0) (by omega)
  have g1:(Eo (l'.concat f)).getD (l'.length*3+1) .top=.sc (.int .i64 f.left):=Ec Gt.cells_len hx (j:=1) (by omega)
  rw [gl];cases hp:f.p
  ·rw [hp] at g0;simp (disch:=omega) only [B4,w,Gm,Bw,Og,g0,L,t,hp,Bool.false_and]
  ·rw [hp] at g0;simp (disch:=omega) only [B4,w,Gm,Bw,Og,g0,g1,L,t,hp,Zzm]
theorem WM {l:List Gt}(hl:l.length<=1000000)(cnt k:Int):Ae C0 Tryz.prog fu (d+2) Qn [.pbox (Ka l cnt),.sc (.int .i64 k)]=some ⟨[.sc (.int .i64 (Iv l cnt k))],[Ka l cnt]⟩:=by
 refine (BQ fu (d+1) l.length (Eo l) cnt k).trans ?_;have L:=C4 l;have t:=Df l;have ak:=JG (fu:=fu) (d:=d) hl cnt;unfold Ka at ak;unfold Iv;by_cases c1:cnt>=512
 ·rw [B7 c1];simp (disch:=omega) only [B4,L,t]
 rw [A7 c1];by_cases c2:k<1
 ·rw [B7 c2];simp (disch:=omega) only [B4,L,t]
 rw [A7 c2];by_cases c3:k>8
 ·rw [B7 c3];simp (disch:=omega) only [B4,L,t]
 rw [A7 c3];cases ha:Q3 l
 ·rw [ha] at ak;rw [A7 (by simp)]
  by_cases c5:(l.length:Int)>8
  ·rw [B7 c5];simp (disch:=omega) only [B4,L,t,ak]
  ·rw [A7 c5];simp (disch:=omega) only [B4,L,t,ak]
 ·rw [ha] at ak;by_cases c4:k≠1∧k≠2∧k≠4
  ·rw [B7 ⟨rfl,c4⟩];simp (disch:=omega) only [B4,L,t,ak,Fs];rw [A7 c4.1,A7 c4.2.1,A7 c4.2.2]
  ·rw [A7 (fun h=>c4 h.2)]
   have hk:k=1∨k=2∨k=4:=by omega
   by_cases c5:(l.length:Int)>8
   ·rw [B7 c5];rcases hk with rfl|rfl|rfl<;>simp (disch:=omega) only [B4,L,t,ak,Fs,Int.reduceEq,if_true,if_false]
   ·rw [A7 c5];rcases hk with rfl|rfl|rfl<;>simp (disch:=omega) only [B4,L,t,ak,Fs,Int.reduceEq,if_true,if_false]
end
end
section
open Go.IntKind (wrap)
theorem Lx (l:List Gt):l=[]∨∃l' f,l=l'++[f]:=by
 rcases List.eq_nil_or_concat l with h|⟨a,b,h⟩
 ·exact .inl h
 ·exact .inr ⟨a,b,by simpa using h⟩
def DB (l:List Gt):List Gt:=(l.reverse.dropWhile fun f=>f.left==0).reverse
theorem NR {l:List Gt}{f:Gt}(h:f.left=0):DB (l++[f])=DB l:=by
 unfold DB;rw [List.reverse_append,List.reverse_singleton,List.singleton_append,List.dropWhile_cons_of_pos (by simp [h])]
theorem LX {l:List Gt}{f:Gt}(h:f.left≠0):DB (l++[f])=l++[f]:=by
 unfold DB;rw [List.reverse_append,List.reverse_singleton,List.singleton_append,List.dropWhile_cons_of_neg (by simp [h])]
 simp
def IY (l:List Gt):List Gt:=match l.getLast? with|some f=>l.dropLast++[⟨f.p,wrap .i64 (f.left-1),f.last⟩]|none=>[]
def PO (l:List Gt)(x:It):List Gt:=
 if x.k=5∧x.n>0 then l++[⟨false,wrap .i64 x.n,[]⟩] else if x.k=6∧x.n>0 then l++[⟨true,wrap .i64 (2*wrap .i64 x.n),[]⟩] else l
def Fk (l:List Gt)(x:It):List Gt:=DB (PO (IY l) x)
theorem U9 (l:List Gt)(f:Gt):IY (l++[f])=l++[⟨f.p,wrap .i64 (f.left-1),f.last⟩]:=by
 unfold IY;simp
theorem KI (l:List Gt):(IY l).length=l.length:=by
 rcases Lx l with rfl|⟨l',f,rfl⟩
 ·rfl
 ·rw [U9];simp
theorem R3 (a b:List Gt):Eo (a++b)=Eo a++Eo b:=by
 unfold Eo;rw [List.flatMap_append]
theorem Q9 (f:Gt):Eo [f]=f.cells:=by
 unfold Eo;simp
section
variable {fu d:Nat}
theorem OS {call:Ai}{a0_0n:Nat}{a0_0:List PV}{a0_1 a1_0 a1_1:Int}{a1_2:ByteArray}{c:Int}:∀(n:Nat)(l:List Gt)(r:List PV)(nn:Nat),l.length=n->n<nn->n<=1000000 ->
  A8 fu call a0_0n a0_0 a0_1 a1_0 a1_1 a1_2 nn (l.length:Int) l.length c (Eo l++r)=some ⟨[],[Ka (DB l) c]⟩:=by
 intro n
 induction n with
 |zero=>
  intro l r nn hl hn _;obtain rfl:l=[]:=List.eq_nil_of_length_eq_zero hl;obtain ⟨m,rfl⟩:∃m,nn=m+1:=⟨nn-1,by omega⟩
  have e0:¬(((([]:List Gt).length:Nat):Int)>0):=by simp
  have e1:([]:List Gt).length*3<=(Eo []++r).length:=by simp
  rw [Nl];simp (disch:=first|assumption|omega) only [B4];rfl
 |succ n ih=>
  intro l r nn hl hn hm;obtain ⟨m,rfl⟩:∃m,nn=m+1:=⟨nn-1,by omega⟩
  rcases Lx l with rfl|⟨l',f,rfl⟩
  ·simp at hl
  have hn':(l'++[f]).length=l'.length+1:=by simp
  have hx:(l'++[f])[l'.length]?=some f:=by simp
  have w:wrap .i64 (((l'++[f]).length:Int)-1)=(l'.length:Int):=by rw [Aj (by omega) (by omega)];omega
  have L:=C4 (l'++[f]);have L2:(Eo (l'++[f])++r).length=(l'++[f]).length*3+r.length:=by rw [J6,L]
  have t:List.take ((l'++[f]).length*3) (Eo (l'++[f])++r)=Eo (l'++[f]):=by rw [←L,List.take_left'];rfl
  have g1:(Eo (l'++[f])++r).getD (l'.length*3+1) .top=.sc (.int .i64 f.left):=by
   have:=Ec (f:=Gt.cells) Gt.cells_len hx (j:=1) (by omega)
   rw [List.getD_eq_getElem?_getD,List.getElem?_append_left (by rw [L];omega),←List.getD_eq_getElem?_getD]
   exact this
  rw [Nl];by_cases hz:f.left=0
  ·have e:Eo (l'++[f])++r=Eo l'++(f.cells++r):=by rw [R3,Q9,XE]
   have q:=ih l' (f.cells++r) m (by omega) (by omega) (by omega)
   rw [←e] at q;rw [NR hz];have hb:(f.left==(0:Int))=true:=by simp [hz]
   simp (disch:=omega) only [B4,w,Gm,Bw,Nat.sub_zero,g1,hb,q]
  ·rw [LX hz];have hb:(f.left==(0:Int))=false:=by simp [hz]
   simp (disch:=omega) only [B4,w,Gm,Bw,g1,hb,L2,t]
theorem Abr {l:List Gt}{x:It}{cnt:Int}(hl:l.length<=100000)(hf:l.length+1<fu)(h0:0<=cnt)(h1:cnt<=1000000):
  Ae C0 Tryz.prog fu (d+1) Rr [.pbox (Ka l cnt),.agg x.cells]=some ⟨[],[Ka (Fk l x) (cnt+1)]⟩:=by
 obtain ⟨k,v,s⟩:=x;refine (EM fu d l.length (Eo l) cnt k v s).trans ?_;have w1:wrap .i64 (cnt+1)=cnt+1:=Aj (by omega) (by omega)
 unfold Fk PO;have DL:=KI l;generalize hD:IY l=l1 at DL ⊢;have L1:(Eo l1).length=l.length*3:=by rw [C4,DL]
 have t1:List.take (l.length*3) (Eo l1)=Eo l1:=Sl (by omega)
 have p5:∀b u,Eo l1++[.sc (.bool b),.sc (.int .i64 u),.lst false 1 0 []]=Eo (l1++[⟨b,u,[]⟩]):=by
  intro b u;rw [R3,Q9];rfl
 have lp0:∀call,A8 fu call l.length (Eo l) cnt k v s fu (l.length:Int) l.length (cnt+1) (Eo l1)=some ⟨[],[Ka (DB l1) (cnt+1)]⟩:=by
  intro call;have:=OS (fu:=fu) (call:=call) (a0_0n:=l.length) (a0_0:=Eo l) (a0_1:=cnt) (a1_0:=k) (a1_1:=v) (a1_2:=s) (c:=cnt+1) _ l1 [] fu rfl (by omega) (by omega)
  rw [List.append_nil,DL] at this;exact this
 have lp1:∀call f,A8 fu call l.length (Eo l) cnt k v s fu ((l.length+1:Nat):Int) (l.length+1) (cnt+1) (Eo (l1++[f]))=some ⟨[],[Ka (DB (l1++[f])) (cnt+1)]⟩:=by
  intro call f;have ll:(l1++[f]).length=l.length+1:=by simp [DL]
  have:=OS (fu:=fu) (call:=call) (a0_0n:=l.length) (a0_0:=Eo l) (a0_1:=cnt) (a1_0:=k) (a1_1:=v) (a1_2:=s) (c:=cnt+1) _ (l1++[f]) [] fu rfl (by omega) (by omega)
  rw [List.append_nil,ll] at this;exact this
 rcases Lx l with rfl|⟨l',f,rfl⟩
 ·have e0:¬(((([]:List Gt).length:Nat):Int)>0):=by simp
  obtain rfl:l1=[]:=by rw [←hD];rfl
  by_cases k5:k=5
  ·subst k5;by_cases hv:v>0
   ·rw [B7 ⟨rfl,hv⟩];simp (disch:=first|assumption|omega) only [B4,w1,L1,t1,p5,lp1,Int.reduceBEq]
   ·rw [A7 (fun h=>hv h.2),A7 (fun h=>hv h.2)]
    simp (disch:=first|assumption|omega) only [B4,w1,L1,t1,p5,lp0,Int.reduceBEq]
  ·have b5:(k==(5:Int))=false:=by simp [k5]
   rw [A7 (fun h=>k5 h.1)]
   by_cases k6:k=6
   ·subst k6;by_cases hv:v>0
    ·rw [B7 ⟨rfl,hv⟩];simp (disch:=first|assumption|omega) only [B4,w1,L1,t1,p5,lp1,Int.reduceBEq]
    ·rw [A7 (fun h=>hv h.2)]
     simp (disch:=first|assumption|omega) only [B4,w1,L1,t1,p5,lp0,Int.reduceBEq]
   ·have b6:(k==(6:Int))=false:=by simp [k6]
    rw [A7 (fun h=>k6 h.1)]
    simp (disch:=first|assumption|omega) only [B4,w1,L1,t1,p5,lp0,b5,b6]
 ·have hn':(l'++[f]).length=l'.length+1:=by simp
  have hx:(l'++[f])[l'.length]?=some f:=by simp
  have w:wrap .i64 (((l'++[f]).length:Int)-1)=(l'.length:Int):=by rw [Aj (by omega) (by omega)];omega
  have L:=C4 (l'++[f]);have g1:(Eo (l'++[f])).getD (l'.length*3+1) .top=.sc (.int .i64 f.left):=Ec Gt.cells_len hx (j:=1) (by omega)
  have sp:Bb (Eo (l'++[f])) [.sc (.int .i64 (wrap .i64 (f.left-1)))] (l'.length*3+1)=Eo l1:=by
   rw [Ey (by omega),←hD,U9,R3,R3,Q9,Q9]
   have:=C4 l';rw [List.set_append_right _ _ (by omega)]
   have:l'.length*3+1-(Eo l').length=1:=by omega
   rw [this];rfl
  by_cases k5:k=5
  ·subst k5;by_cases hv:v>0
   ·rw [B7 ⟨rfl,hv⟩];simp (disch:=first|assumption|omega) only [B4,w,w1,Gm,Bw,g1,sp,L1,t1,p5,lp1,Int.reduceBEq]
   ·rw [A7 (fun h=>hv h.2),A7 (fun h=>hv h.2)]
    simp (disch:=first|assumption|omega) only [B4,w,w1,Gm,Bw,g1,sp,L1,t1,p5,lp0,Int.reduceBEq]
  ·have b5:(k==(5:Int))=false:=by simp [k5]
   rw [A7 (fun h=>k5 h.1)]
   by_cases k6:k=6
   ·subst k6;by_cases hv:v>0
    ·rw [B7 ⟨rfl,hv⟩];simp (disch:=first|assumption|omega) only [B4,w,w1,Gm,Bw,g1,sp,L1,t1,p5,lp1,Int.reduceBEq]
    ·rw [A7 (fun h=>hv h.2)]
     simp (disch:=first|assumption|omega) only [B4,w,w1,Gm,Bw,g1,sp,L1,t1,p5,lp0,Int.reduceBEq]
   ·have b6:(k==(6:Int))=false:=by simp [k6]
    rw [A7 (fun h=>k6 h.1)]
    simp (disch:=first|assumption|omega) only [B4,w,w1,Gm,Bw,g1,sp,L1,t1,p5,lp0,b5,b6]
end
end
end Go.Proofs.YtdjihiphpgkfmaaGreatDoor.Pv
