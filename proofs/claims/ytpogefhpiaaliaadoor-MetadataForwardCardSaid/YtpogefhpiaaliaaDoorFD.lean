/-
  The proof of MetadataForward, part 4.
-/
import Derived.Test.YtpogefhpiaaliaaDoorFC
import Derived.Test.YtpogefhpiaaliaaDoorRows
import Derived.RangeFuncNested
import Derived.RangeFuncLeaves
import Derived.WalkKit
import Derived.LoopNIn
import Derived.OrdersIn
set_option linter.unusedSimpArgs false
set_option linter.unusedVariables false
namespace Go.Proofs.YtpogefhpiaaliaaDoor.Pv
section
open Go.Proofs.Tryd (prog)
open Go.IntKind (wrap)
section
variable {fu d:Nat} {xs:FuncId->Option (List PV->Option A5)}
theorem Anr {x k:Int}(hk:k=13∨k=16∨k=17∨k=21∨k=32):Ad (CX xs) prog fu (d+1) Pt [.sc (.int .u64 x),.sc (.int .i64 k)]=some ⟨[.sc (.int .u64 (rot x k))],[]⟩:=by
 rw[Zq];rcases hk with rfl|rfl|rfl|rfl|rfl<;>kernel_rfl
theorem An3 {x k:Int}(hk:k=13∨k=16∨k=17∨k=21∨k=32):Ad (CX xs) prog fu (d+1) Rg [.sc (.int .u64 x),.sc (.int .u64 k)]=some ⟨[.sc (.int .u64 (rot x k))],[]⟩:=by
 rw[BU];rcases hk with rfl|rfl|rfl|rfl|rfl<;>kernel_rfl
theorem JO {a0 a1 a2 a3 a4:Int}:∀(k i nn:Nat)(v:W4),k<nn->i+k<=100 ->
  Gd fu (Ad (CX xs) prog fu (d+1)) a0 a1 a2 a3 a4 nn ((i+k:Nat):Int) i v.a v.b v.c v.d=some ⟨[],[(Aff k v).cells]⟩
 |_,_,0,_,h,_=>by omega
 |0,i,nn+1,v,h,hi=>by
  rw[Kj,Fi _ _ _ (by omega)]
  rfl
 |k+1,i,nn+1,v,h,hi=>by
  have ih:=JO (a0:=a0) (a1:=a1) (a2:=a2) (a3:=a3) (a4:=a4) k (i+1) nn (SD v) (by omega) (by omega)
  have w:wrap .i64 ((i:Int)+1)=((i+1:Nat):Int):=by rw[Ak (by omega) (by omega)];omega
  have r13:=fun x=>Anr (xs:=xs) (fu:=fu) (d:=d) (x:=x) (k:=13) (by simp)
  have r16:=fun x=>Anr (xs:=xs) (fu:=fu) (d:=d) (x:=x) (k:=16) (by simp)
  have r17:=fun x=>Anr (xs:=xs) (fu:=fu) (d:=d) (x:=x) (k:=17) (by simp)
  have r21:=fun x=>Anr (xs:=xs) (fu:=fu) (d:=d) (x:=x) (k:=21) (by simp)
  have r32:=fun x=>Anr (xs:=xs) (fu:=fu) (d:=d) (x:=x) (k:=32) (by simp)
  rw[Kj];simp (disch:=omega) only[Cu,r13,r16,r17,r21,r32,w];rw[show i+(k+1)=i+1+k by omega]
  exact ih
theorem XF (k:Nat)(hk:k<=4)(Cb:100<=fu)(v:W4):Ad (CX xs) prog fu (d+2) Nb [.pbox [.sc (.int .u64 v.a),.sc (.int .u64 v.b),.sc (.int .u64 v.c),.sc (.int .u64 v.d)],.sc (.int .i64 k)]=some ⟨[],[(Aff k v).cells]⟩:=by
 rw[W0];have:=JO (xs:=xs) (fu:=fu) (d:=d) (a0:=v.a) (a1:=v.b) (a2:=v.c) (a3:=v.d) (a4:=k) k 0 fu v (by omega) (by omega)
 rw[C8] at this;exact this
theorem WP (Cb:100<=fu)(v:W4)(m:Int):Ad (CX xs) prog fu (d+3) Nf [.pbox [.sc (.int .u64 v.a),.sc (.int .u64 v.b),.sc (.int .u64 v.c),.sc (.int .u64 v.d)],.sc (.int .u64 m)]=some ⟨[],[(Uw v m).cells]⟩:=by
 rw[W8];have r2:=XF (xs:=xs) (fu:=fu) (d:=d) 2 (by omega) Cb ⟨v.a,v.b,v.c,Ev .u64 v.d m⟩
 have e2:((2:Nat):Int)=2:=rfl;rw[e2] at r2;unfold Uw;generalize Aff 2 ⟨v.a,v.b,v.c,Ev .u64 v.d m⟩=R at r2 ⊢;simp only[W4.cells] at r2;simp only[Cu,r2];rfl
theorem A4e {a b:Int}{k:Nat}(hk:k<8)(ha:0<=a)(ha':a<((2 ^ (8*k):Nat):Int)) (hb:0<=b)(Ip:b<=255):UF .u64 a (Jj .u64 b (8*(k:Int)))=a+((2 ^ (8*k):Nat):Int)*b:=by
 obtain⟨n,rfl⟩:=Int.eq_ofNat_of_zero_le hb;have e:(8*(k:Int)).toNat=8*k:=by omega
 have hp:n*2 ^ (8*k)<=255*2 ^ (8*k):=Nat.mul_le_mul_right _ (by omega)
 have h56:2 ^ (8*k)<=2 ^ 56:=Nat.pow_le_pow_right (by omega) (by omega)
 have e56:(2:Nat) ^ 56=72057594037927936:=by decide
 rw[e56] at h56;generalize hP:2 ^ (8*k)=p at *
 have Avg:n*p<=255*p:=hp
 have hs:Jj .u64 (n:Int) (8*(k:Int))=(n:Int)*((2 ^ (8*(k:Int)).toNat:Nat):Int):=Ah6 (by omega) (by omega) (by omega) (by
  rw[e,hP];have:((n*p:Nat):Int)<=((255*p:Nat):Int):=by omega
  rw[←Int.natCast_mul];omega)
 rw[hs,e,hP]
 have:=(ZE (a:=a) (c:=((n*p:Nat):Int)) (8*k) n ha (by rw[hP];exact ha') (by rw[hP]) (by
  have:((n*p:Nat):Int)<=((255*p:Nat):Int):=by omega
  omega)).1
 rw[←Int.natCast_mul,this,Int.mul_comm ((p:Nat):Int),←Int.natCast_mul]
theorem A4m (k:Nat):((2 ^ (8*k):Nat):Int)=256 ^ k:=by
 rw[Nat.pow_mul];simp
theorem JH {call:Ah}{n:Nat}{c:List PV}{l:List Int}(hb:Kg l)(hl:l.length<=8):∀(r:List Int)(i nn:Nat),l.drop i=r->r.length<nn->i<=l.length ->
  J1 fu call n c nn (Uy (l.take i)) l.length (Af .u8 l) l.length i=some ⟨[.sc (.int .u64 (Uy l))],[]⟩
 |_,_,0,_,h,_=>by omega
 |[],i,nn+1,h,hn,hi=>by
  have:=drop_nil h;rw[Ra,Fi _ _ _ (by omega),My (by omega)]
 |b::r,i,nn+1,h,hn,hi=>by
  obtain⟨h1,h2,h3⟩:=Dx h;simp only[Io] at hn;have ih:=JH (call:=call) (n:=n) (c:=c) hb hl r (i+1) nn h3 (by omega) (by omega)
  have hbb:=hb b (List.mem_of_getElem? h2);have w:wrap .i64 ((i:Int)+1)=((i+1:Nat):Int):=by rw[Ak (by omega) (by omega)];omega
  have w8:wrap .i64 (8*(i:Int))=8*(i:Int):=Ak (by omega) (by omega)
  have wb:wrap .u64 b=b:=Ea (by omega) (by omega)
  have A0g:=Vt (l:=l.take i) fun x hx=>hb x (List.mem_of_mem_take hx)
  have htl:(l.take i).length=i:=by rw[List.length_take];omega
  rw[htl] at A0g
  have hj:UF .u64 (Uy (l.take i)) (Jj .u64 b (8*(i:Int)))=Uy (l.take (i+1)):=by
   rw[A4e (by omega) A0g.1 (by rw[A4m];exact A0g.2) hbb.1 hbb.2,List.take_add_one,h2,CG,htl,A4m]
   simp[Uy]
  rw[Ra];simp (disch:=omega) only[Cu,Hs,Dp,BI h2,w,w8,wb,hj];exact ih
theorem XE {l:List Int}(hb:Kg l)(hl:l.length<=8)(Cb:100<=fu):Ad (CX xs) prog fu (d+1) Wh [.lst false 1 l.length (Af .u8 l)]=some ⟨[.sc (.int .u64 (Uy l))],[]⟩:=by
 rw[MC];exact JH hb hl l 0 fu rfl (by omega) (by omega)
theorem J6 (k:IntKind)(l:List Int)(i:Nat):List.drop i (Af k l)=Af k (l.drop i):=by
 have:=Aaf (FJ k) l i
 simpa using this
theorem Qg (k:IntKind)(l:List Int)(i:Nat):List.take i (Af k l)=Af k (l.take i):=by
 have:=Aik (FJ k) l i
 simpa using this
theorem Kg.drop {l:List Int}(h:Kg l)(i:Nat):Kg (l.drop i):=fun x hx=>h x (List.mem_of_mem_drop hx)
theorem Kg.take {l:List Int}(h:Kg l)(i:Nat):Kg (l.take i):=fun x hx=>h x (List.mem_of_mem_take hx)
theorem Aul {a0 a1:Int}{n:Nat}{c:List PV}{l:List Int}(hb:Kg l)(hl:l.length<=1099511627776)(Cb:100<=fu)(nn:Nat)(v:W4):
  Kk fu (Ad (CX xs) prog fu (d+3)) a0 a1 n c (nn+1) l.length (Af .u8 l) ((l.length / 8:Nat):Int) ((l.length / 8:Nat):Int) ((l.length / 8:Nat):Int) v.a v.b v.c v.d=some ⟨[.sc (.int .u64 (Ajv (Ajf (Uw v (Pj l)))))],[]⟩:=by
 have w8:wrap .i64 (8*((l.length / 8:Nat):Int))=((8*(l.length / 8):Nat):Int):=by rw[Ak (by omega) (by omega)];omega
 have wl:wrap .u64 (l.length:Int)=l.length:=Ea (by omega) (by omega)
 have hdl:(l.drop (8*(l.length / 8))).length=l.length-8*(l.length / 8):=List.length_drop;have li:=XE (xs:=xs) (fu:=fu) (d:=d+2) (hb.drop (8*(l.length / 8))) (by omega) Cb
 rw[hdl] at li;have tk:List.take (l.length-8*(l.length / 8)) (Af .u8 (l.drop (8*(l.length / 8))))=Af .u8 (l.drop (8*(l.length / 8))):=My (by rw[At,hdl];omega)
 have hbn:=Vt (hb.drop (8*(l.length / 8)));rw[hdl] at hbn
 have hp7:(256:Int) ^ (l.length-8*(l.length / 8))<=256 ^ 7:=by
  have:(256:Nat) ^ (l.length-8*(l.length / 8))<=256 ^ 7:=Nat.pow_le_pow_right (by omega) (by omega)
  have h2:(((256:Nat) ^ (l.length-8*(l.length / 8)):Nat):Int)<=((256 ^ 7:Nat):Int):=by omega
  simpa using h2
 have A22:UF .u64 (Uy (l.drop (8*(l.length / 8)))) (Jj .u64 (l.length:Int) 56)=Pj l:=by
  have hs:Jj .u64 (l.length:Int) 56=(((l.length % 256)*2 ^ 56:Nat):Int):=by
   show wrap .u64 ((l.length:Int)*2 ^ (min (56:Int).toNat IntKind.u64.bits))=_;have h2:(2:Int) ^ (min (56:Int).toNat IntKind.u64.bits)=72057594037927936:=by decide
   have h3:(2:Nat) ^ 56=72057594037927936:=by decide
   rw[h2,h3];simp only[wrap,IntKind.signed,IntKind.bits];simp;omega
  have h56:(256:Int) ^ 7=((2 ^ 56:Nat):Int):=by decide
  have h3:(2:Nat) ^ 56=72057594037927936:=by decide
  rw[hs,(ZE 56 (l.length % 256) hbn.1 (by omega) rfl (by omega)).1]
  unfold Pj;omega
 have ab:=WP (xs:=xs) (fu:=fu) (d:=d) Cb v (Pj l);have r4:=XF (xs:=xs) (fu:=fu) (d:=d+1) 4 (by omega) Cb ⟨(Uw v (Pj l)).a,(Uw v (Pj l)).b,Ev .u64 (Uw v (Pj l)).c 255,(Uw v (Pj l)).d⟩
 have e4:((4:Nat):Int)=4:=rfl;rw[e4] at r4;unfold Ajf;generalize Uw v (Pj l)=U at ab r4 ⊢;generalize Aff 4 ⟨U.a,U.b,Ev .u64 U.c 255,U.d⟩=R at r4 ⊢;simp only[W4.cells] at ab r4;rw[Wv];simp (disch:=omega) only[Cu,Hs,Dp,w8,wl,J6,tk,li,A22,ab,r4];rfl
theorem Ab0 {a0 a1:Int}{n:Nat}{c:List PV}{l:List Int}(hb:Kg l)(hl:l.length<=1099511627776)(Cb:100<=fu):∀(k i nn:Nat)(v:W4),i+k=l.length / 8->k<nn ->
  Kk fu (Ad (CX xs) prog fu (d+3)) a0 a1 n c nn l.length (Af .u8 l) ((l.length / 8:Nat):Int) ((l.length / 8:Nat):Int) i v.a v.b v.c v.d=some ⟨[.sc (.int .u64 (Ajv (Ajf (Uw (TK k v (l.drop (8*i))) (Pj l)))))],[]⟩
 |_,_,0,_,_,h=>by omega
 |0,i,nn+1,v,hi,hn=>by
  have e:i=l.length / 8:=by omega
  subst e;exact Aul hb hl Cb nn v
 |k+1,i,nn+1,v,hi,hn=>by
  have w:wrap .i64 ((i:Int)+1)=((i+1:Nat):Int):=by rw[Ak (by omega) (by omega)];omega
  have w8:wrap .i64 (8*(i:Int))=((8*i:Nat):Int):=by rw[Ak (by omega) (by omega)];omega
  have w88:wrap .i64 (((8*i:Nat):Int)+8)=((8*i+8:Nat):Int):=by rw[Ak (by omega) (by omega)];omega
  have hdl:((l.drop (8*i)).take 8).length=8:=by rw[List.length_take,List.length_drop];omega
  have li:=XE (xs:=xs) (fu:=fu) (d:=d+2) ((hb.drop (8*i)).take 8) (by omega) Cb
  rw[hdl] at li;have e8:8*i+8-8*i=8:=by omega
  have ab:=WP (xs:=xs) (fu:=fu) (d:=d) Cb v (Uy ((l.drop (8*i)).take 8));have ih:=Ab0 (a0:=a0) (a1:=a1) (n:=n) (c:=c) hb hl Cb k (i+1) nn (Uw v (Uy ((l.drop (8*i)).take 8))) (by omega) (by omega)
  have eN:TK (k+1) v (l.drop (8*i))=TK k (Uw v (Uy ((l.drop (8*i)).take 8))) (l.drop (8*(i+1))):=by
   rw[TK,List.drop_drop,show 8*i+8=8*(i+1) by omega]
  rw[eN];generalize Uw v (Uy ((l.drop (8*i)).take 8))=U at ab ih ⊢;simp only[W4.cells] at ab;rw[Wv];simp (disch:=omega) only[Cu,Hs,Dp,w,w8,w88,e8,J6,Qg,li,ab];exact ih
theorem Aot {l:List Int}(hb:Kg l)(hl:l.length<=1099511627776)(Cb:100<=fu)(hf:l.length<fu)(k0 k1:Int):Ad (CX xs) prog fu (d+4) FL [.sc (.int .u64 k0),.sc (.int .u64 k1),.lst false 1 l.length (Af .u8 l)]=some ⟨[.sc (.int .u64 (Auz k0 k1 l))],[]⟩:=by
 rw[YF]
 have w:wrap .i64 (Int.tdiv (l.length:Int) 8)=((l.length / 8:Nat):Int):=by
  rw[Int.tdiv_eq_ediv_of_nonneg (by omega),Ak (by omega) (by omega)]
  omega
 have lp:=Ab0 (xs:=xs) (fu:=fu) (d:=d) (a0:=k0) (a1:=k1) (n:=l.length) (c:=Af .u8 l) hb hl Cb (l.length / 8) 0 fu (Axy k0 k1) (by omega) (by omega)
 simp only[Js,w];exact lp
theorem Ahm {l:List Int}(hb:Kg l)(hl:l.length<=1099511627776)(Cb:100<=fu)(hf:l.length<fu)(dom:Int):Ad (CX xs) prog fu (d+5) Tg [.sc (.int .i64 dom),.lst false 1 l.length (Af .u8 l)]=some ⟨[.sc (.int .u64 (Q0 dom l))],[]⟩:=by
 rw[SN];have s:=Aot (xs:=xs) (fu:=fu) (d:=d) hb hl Cb hf (wrap .u64 dom) 0;simp only[Cu,s];rfl
theorem Qh (v:W4):Ad (CX xs) prog fu (d+2) Ph [.agg [.sc (.int .u64 v.a),.sc (.int .u64 v.b),.sc (.int .u64 v.c),.sc (.int .u64 v.d)]]=some ⟨[.agg (SD v).cells],[]⟩:=by
 have r13:=fun x=>An3 (xs:=xs) (fu:=fu) (d:=d) (x:=x) (k:=13) (by simp)
 have r16:=fun x=>An3 (xs:=xs) (fu:=fu) (d:=d) (x:=x) (k:=16) (by simp)
 have r17:=fun x=>An3 (xs:=xs) (fu:=fu) (d:=d) (x:=x) (k:=17) (by simp)
 have r21:=fun x=>An3 (xs:=xs) (fu:=fu) (d:=d) (x:=x) (k:=21) (by simp)
 have r32:=fun x=>An3 (xs:=xs) (fu:=fu) (d:=d) (x:=x) (k:=32) (by simp)
 rw[Z5];simp (disch:=omega) only[Cu,r13,r16,r17,r21,r32];rfl
def Wx (l:List Int)(i k:Nat):Int:=if i+k<l.length then l.getD (i+k) 0 else if k=7 then (l.length:Int) % 256 else 0
def pc (l:List Int)(i:Nat):List Int:=(List.range 8).map (Wx l i)
theorem A9l {l:List Int}(hb:Kg l)(i:Nat):Kg (pc l i):=by
 intro x hx;obtain⟨k,hk,rfl⟩:=List.mem_map.1 hx;unfold Wx;split
 ·rename_i h;rw[List.getD_eq_getElem?_getD,List.getElem?_eq_getElem h];exact hb _ (List.getElem_mem h)
 ·split<;>omega
theorem Ate {l:List Int}{i:Nat}(h:i+8<=l.length):pc l i=(l.drop i).take 8:=by
 refine List.ext_getElem (by simp[pc];omega) fun k h1 h2=>?_
 have hk:k<8:=by simpa [pc] using h1
 simp only[pc,List.getElem_map,List.getElem_range,List.getElem_take,List.getElem_drop,Wx];rw[Cy (by omega),List.getD_eq_getElem?_getD,List.getElem?_eq_getElem (by omega)]
 rfl
theorem VK (x:Int):∀n,Uy (List.replicate n 0++[x])=256 ^ n*x
 |0=>by simp[Uy]
 |n+1=>by
  rw[List.replicate_succ,Zzp,Uy,VK x n,Int.pow_succ,Int.mul_comm (256 ^ n) 256,Int.mul_assoc];omega
theorem Auo {l:List Int}:Uy (pc l (8*(l.length / 8)))=Pj l:=by
 have e:pc l (8*(l.length / 8))=l.drop (8*(l.length / 8))++(List.replicate (7-(l.length-8*(l.length / 8))) 0++[(l.length:Int) % 256]):=by
  refine List.ext_getElem (by simp[pc];omega) fun k h1 h2=>?_
  have hk:k<8:=by simpa [pc] using h1
  simp only[pc,List.getElem_map,List.getElem_range,Wx];by_cases hc:8*(l.length / 8)+k<l.length
  ·rw[Cy hc,List.getElem_append_left (by rw[List.length_drop];omega),List.getElem_drop,List.getD_eq_getElem?_getD,List.getElem?_eq_getElem hc]
   rfl
  ·rw[Bj hc,List.getElem_append_right (by rw[List.length_drop];omega)]
   by_cases h7:k=7
   ·rw[Cy h7,List.getElem_append_right (by simp;omega)]
    simp
   ·rw[Bj h7,List.getElem_append_left (by simp;omega)]
    simp
 rw[e,CG,VK];unfold Pj
 have:(256:Int) ^ (l.drop (8*(l.length / 8))).length*(256 ^ (7-(l.length-8*(l.length / 8)))*((l.length:Int) % 256))=72057594037927936*((l.length:Int) % 256):=by
  rw[←Int.mul_assoc,←Int.pow_add,List.length_drop];have:l.length-8*(l.length / 8)+(7-(l.length-8*(l.length / 8)))=7:=by omega
  rw[this];rfl
 rw[this]
theorem A21 {a b:Int}(ha:0<=a)(ha':a<72057594037927936)(hb:0<=b)(Ip:b<=255):UF .u64 (Jj .u64 a 8) b=b+256*a:=by
 obtain⟨n,rfl⟩:=Int.eq_ofNat_of_zero_le ha
 have hs:Jj .u64 (n:Int) 8=((n*2 ^ 8:Nat):Int):=by
  have:=Ah6 (a:=(n:Int)) (k:=8) (by omega) (by omega) (by omega) (by
   have:(2 ^ (8:Int).toNat:Nat)=256:=by decide
   rw[this];omega)
  rw[this];have:(2 ^ (8:Int).toNat:Nat)=256:=by decide
  rw[this];have:(2 ^ 8:Nat)=256:=by decide
  rw[this];omega
 have h8:(2 ^ 8:Nat)=256:=by decide
 rw[hs,(ZE (a:=b) 8 n hb (by rw[h8];omega) rfl (by rw[h8];omega)).2,h8]
 omega
theorem Aiu {a0 a1:Int}{n m0:Nat}{c:List PV}{l:List Int}(hb:Kg l)(hl:l.length<=1099511627776){i:Nat}(hi:i<=l.length)(v:W4):∀(j nn:Nat),j<=8->j<nn ->
  Fs fu (Ad (CX xs) prog fu (d+2)) a0 a1 n c m0 nn l.length (Af .u8 l) i (Uy ((pc l i).drop j)) ((j:Int)-1) v.cells =
   Gp fu (Ad (CX xs) prog fu (d+2)) a0 a1 n c m0 l.length (Af .u8 l) ((i+8:Nat):Int) (Uw v (Uy (pc l i))).cells
 |_,0,_,h=>by omega
 |0,nn+1,hj,hn=>by
  have w8:wrap .i64 ((i:Int)+8)=((i+8:Nat):Int):=by rw[Ak (by omega) (by omega)];omega
  have r1:=Qh (xs:=xs) (fu:=fu) (d:=d) ⟨v.a,v.b,v.c,Ev .u64 v.d (Uy (pc l i))⟩;have r2:=Qh (xs:=xs) (fu:=fu) (d:=d) (SD ⟨v.a,v.b,v.c,Ev .u64 v.d (Uy (pc l i))⟩);have eA:Uw v (Uy (pc l i))=A4f (SD (SD ⟨v.a,v.b,v.c,Ev .u64 v.d (Uy (pc l i))⟩)) (Uy (pc l i)):=rfl;rw[eA];generalize SD ⟨v.a,v.b,v.c,Ev .u64 v.d (Uy (pc l i))⟩=U at r1 r2 ⊢;generalize SD U=U2 at r2 ⊢;simp only[W4.cells] at r1 r2;rw[Ob,Fi _ _ _ (by omega),Fg]
  simp only[W4.cells,List.getD_cons_zero,List.getD_cons_succ,Aab,Js];simp (disch:=first|omega|(simp;done)) only[Cu,Bn,List.take_succ_cons,List.take_zero,List.drop_succ_cons,Fg,List.drop_nil,Zzp,Zzq,List.append_nil,Io,W5,List.getD_cons_zero,List.getD_cons_succ,r1,r2,w8,C8,Nat.reduceAdd,Nat.reduceLeDiff,List.append_eq]
  rfl
 |j+1,nn+1,hj,hn=>by
  have ih:=Aiu (a0:=a0) (a1:=a1) (n:=n) (m0:=m0) (c:=c) hb hl hi v j nn (by omega) (by omega)
  have hw:wrap .i64 ((i:Int)+(((j+1:Nat):Int)-1))=((i+j:Nat):Int):=by rw[Ak (by omega) (by omega)];omega
  have wj:wrap .i64 (((j+1:Nat):Int)-1-1)=(j:Int)-1:=by rw[Ak (by omega) (by omega)];omega
  have hd:(pc l i).drop j=Wx l i j::(pc l i).drop (j+1):=by
   rw[List.drop_eq_getElem_cons (by simp[pc];omega)]
   simp[pc]
  have hB:=A9l hb i;have hbn:=Vt (hB.drop (j+1))
  have hp7:(256:Int) ^ ((pc l i).drop (j+1)).length<=72057594037927936:=by
   have Gv:((pc l i).drop (j+1)).length<=7:=by simp[pc]
   have:(256:Nat) ^ ((pc l i).drop (j+1)).length<=256 ^ 7:=Nat.pow_le_pow_right (by omega) Gv
   have h2:(((256:Nat) ^ ((pc l i).drop (j+1)).length:Nat):Int)<=((256 ^ 7:Nat):Int):=by omega
   simpa using h2
  have hc0:0<=Wx l i j∧Wx l i j<=255:=hB _ (by rw[←Fg (l:=pc l i)];exact List.mem_of_mem_drop (i:=j) (by rw[Fg,hd];simp))
  have hj2:UF .u64 (Jj .u64 (Uy ((pc l i).drop (j+1))) 8) (Wx l i j)=Uy ((pc l i).drop j):=by
   rw[A21 hbn.1 (by omega) hc0.1 hc0.2,hd]
   rfl
  have wc:wrap .u64 (Wx l i j)=Wx l i j:=Ea (by omega) (by omega)
  rw[Ob,BP _ _ _ (by omega)]
  simp only[Js,hw];by_cases c1:i+j<l.length
  ·have e:Wx l i j=l.getD (i+j) 0:=by unfold Wx;rw[Cy c1]
   have e2:l[i+j]?=some (Wx l i j):=by rw[e,List.getD_eq_getElem?_getD,List.getElem?_eq_getElem c1];rfl
   rw[BP _ _ _ (by omega)]
   simp (disch:=omega) only[Cu,Hs,Dp,BI e2,wc,hj2,wj];exact ih
  ·rw[Fi _ _ _ (by omega)]
   by_cases h7:j=7
   ·subst h7;have e:Wx l i 7=(l.length:Int) % 256:=by unfold Wx;rw[Bj c1,Cy rfl]
    have e8:wrap .u8 (l.length:Int)=Wx l i 7:=by
     rw[e];simp only[wrap,IntKind.signed,IntKind.bits];simp
    rw[L7,Cy (by omega),e8,wc,hj2,wj]
    exact ih
   ·have e:Wx l i j=0:=by unfold Wx;rw[Bj c1,Bj h7]
    rw[e] at hj2;rw[L7,Bj (by omega),hj2,wj]
    exact ih
theorem WM {a0 a1:Int}{n:Nat}{c:List PV}{l:List Int}(hb:Kg l)(hl:l.length<=1099511627776)(Cb:100<=fu):∀(k i nn:Nat)(v:W4),i+k=l.length / 8->k+1<nn ->
  Gp fu (Ad (CX xs) prog fu (d+2)) a0 a1 n c nn l.length (Af .u8 l) ((8*i:Nat):Int) v.cells=some ⟨[.sc (.int .u64 (Ajv (Ajf (Uw (TK k v (l.drop (8*i))) (Pj l)))))],[]⟩
 |_,_,0,_,_,h=>by omega
 |k,i,nn+1,v,hi,hn=>by
  have step:=Aiu (xs:=xs) (fu:=fu) (d:=d) (a0:=a0) (a1:=a1) (n:=n) (m0:=nn) (c:=c) hb hl (i:=8*i) (by omega) v 8 fu (by omega) (by omega)
  have e0:Uy ((pc l (8*i)).drop 8)=0:=by rw[List.drop_of_length_le (by simp[pc])];rfl
  rw[e0] at step;rw[Oh,BP _ _ _ (by omega)]
  refine step.trans ?_;cases k with
  |zero=>
   have e:i=l.length / 8:=by omega
   subst e;rw[Auo];generalize hv:Uw v (Pj l)=u;obtain⟨nn',rfl⟩:∃nn',nn=nn'+1:=⟨nn-1,by omega⟩
   have r1:=Qh (xs:=xs) (fu:=fu) (d:=d) ⟨u.a,u.b,Ev .u64 u.c 255,u.d⟩;have r2:=Qh (xs:=xs) (fu:=fu) (d:=d) (SD ⟨u.a,u.b,Ev .u64 u.c 255,u.d⟩);have r3:=Qh (xs:=xs) (fu:=fu) (d:=d) (SD (SD ⟨u.a,u.b,Ev .u64 u.c 255,u.d⟩));have r4:=Qh (xs:=xs) (fu:=fu) (d:=d) (SD (SD (SD ⟨u.a,u.b,Ev .u64 u.c 255,u.d⟩)))
   have eF:Ajv (Ajf (Uw (TK 0 v (l.drop (8*(l.length / 8)))) (Pj l)))=Ajv (SD (SD (SD (SD ⟨u.a,u.b,Ev .u64 u.c 255,u.d⟩)))):=by
    rw[TK,hv];rfl
   rw[eF];clear eF;generalize SD ⟨u.a,u.b,Ev .u64 u.c 255,u.d⟩=U1 at r1 r2 r3 r4 ⊢;generalize SD U1=U2 at r2 r3 r4 ⊢;generalize SD U2=U3 at r3 r4 ⊢;generalize SD U3=U4 at r4 ⊢;simp only[W4.cells] at r1 r2 r3 r4;rw[Oh,Fi _ _ _ (by omega)]
   simp only[W4.cells,List.getD_cons_zero,List.getD_cons_succ,Aab,Js];simp (disch:=first|omega|(simp;done)) only[Cu,Bn,List.take_succ_cons,List.take_zero,List.drop_succ_cons,Fg,List.drop_nil,Zzp,Zzq,List.append_nil,Io,W5,List.getD_cons_zero,List.getD_cons_succ,r1,r2,r3,r4,C8,Nat.reduceAdd,Nat.reduceLeDiff,List.append_eq]
   rfl
  |succ k=>
   have ih:=WM (a0:=a0) (a1:=a1) (n:=n) (c:=c) hb hl Cb k (i+1) nn (Uw v (Uy (pc l (8*i)))) (by omega) (by omega)
   rw[show 8*i+8=8*(i+1) by omega,ih,Ate (by omega)]
   simp only[TK,List.drop_drop];rw[show 8*(i+1)=8*i+8 by omega]
theorem Ahs {l:List Int}(hb:Kg l)(hl:l.length<=1099511627776)(Cb:100<=fu)(hf:l.length<fu)(k0 k1:Int):Ad (CX xs) prog fu (d+3) Se [.sc (.int .u64 k0),.sc (.int .u64 k1),.lst false 1 l.length (Af .u8 l)]=some ⟨[.sc (.int .u64 (Auz k0 k1 l))],[]⟩:=by
 rw[ER];exact WM (xs:=xs) (fu:=fu) (d:=d) (a0:=k0) (a1:=k1) (n:=l.length) (c:=Af .u8 l) hb hl Cb (l.length / 8) 0 fu (Axy k0 k1) (by omega) (by omega)
theorem Apk {l:List Int}(hb:Kg l)(hl:l.length<=1099511627776)(Cb:100<=fu)(hf:l.length<fu)(dom:Int):Ad (CX xs) prog fu (d+4) Le [.sc (.int .i64 dom),.lst false 1 l.length (Af .u8 l)]=some ⟨[.sc (.int .u64 (Q0 dom l))],[]⟩:=by
 rw[AV];have s:=Ahs (xs:=xs) (fu:=fu) (d:=d) hb hl Cb hf (wrap .u64 dom) 0;simp only[Cu,s];rfl
theorem Avq {l:List Int}(hb:Kg l)(hl:l.length<=1099511627776)(Cb:100<=fu)(hf:l.length<fu)(key dom:Int):Ad (CX xs) prog fu (d+4) S7 [.sc (.int .u64 key),.sc (.int .i64 dom),.lst false 1 l.length (Af .u8 l)]=some ⟨[.sc (.int .u64 (Au7 key dom l))],[]⟩:=by
 rw[GK];have s:=Ahs (xs:=xs) (fu:=fu) (d:=d) hb hl Cb hf key (wrap .u64 (1+wrap .u64 dom));simp only[Cu,s];rfl
end
end
section
open Go.Proofs.Tryd (prog)
open Go.IntKind (wrap)
def Dv (w:Int)(k:Nat):Int:=wrap .u8 (Ik .u64 w (56-8*(k:Int)))
def Hz (w:Int):List Int:=(List.range' 0 8).map (Dv w)
def A7 (ws:List Int):List Int:=ws.flatMap Hz
theorem I0 (w:Int):(Hz w).length=8:=rfl
section
variable {fu d:Nat} {xs:FuncId->Option (List PV->Option A5)} {call:Ah} {n:Nat} {c:List PV}
theorem Aa7 {ws:List Int}{w:Int}{m0 l:Nat}{i k:Int}:∀(r j nn:Nat)(bs:List Int),8-j=r->r<nn->j<=8->bs.length+r<=34359738368 ->
  Kt fu call n c m0 nn bs.length w l (Af .u64 ws) k i j (Af .u8 bs) =
   Iw fu call n c m0 (bs++(List.range' j (8-j)).map (Dv w)).length l (Af .u64 ws) k (wrap .i64 (i+1)) (Af .u8 (bs++(List.range' j (8-j)).map (Dv w)))
 |r,j,0,bs,_,h,_,_=>by omega
 |0,j,nn+1,bs,hr,_,hj,_=>by
  have e:j=8:=by omega
  subst e;rw[Sv];simp (disch:=omega) only[Cu];simp
 |r+1,j,nn+1,bs,hr,hn,hj,hb=>by
  have ih:=Aa7 (ws:=ws) (w:=w) (m0:=m0) (l:=l) (i:=i) (k:=k) r (j+1) nn (bs++[Dv w j]) (by omega) (by omega) (by omega) (by simp;omega)
  have e8:=At .u8 bs;rw[Sv]
  have hx:wrap .u8 (Ik .u64 w (wrap .i64 (56-wrap .i64 (8*(j:Int)))))=Dv w j:=by
   rw[Ak (x:=8*(j:Int)) (by omega) (by omega),Ak (by omega) (by omega)]
   rfl
  have h0:0<=wrap .i64 (56-wrap .i64 (8*(j:Int))):=by
   rw[Ak (x:=8*(j:Int)) (by omega) (by omega),Ak (by omega) (by omega)]
   omega
  have Afa:List.range' j (8-j)=j::List.range' (j+1) (8-(j+1)):=by
   rw[show 8-j=(8-(j+1))+1 by omega]
   exact List.range'_succ
  simp (disch:=first|omega|exact h0) only[Cu,Dp,hx,Tl,Jl,Ak (x:=(j:Int)+1)];rw[Afa];simp only[Kb,Io,W5,C8,XX,VO,List.singleton_append] at ih ⊢;exact ih
theorem OD {ws:List Int}(hl:ws.length<=1073741824)(Cb:100<=fu):∀(r:List Int)(i nn:Nat)(bs:List Int),ws.drop i=r->r.length<nn->bs.length=8*i ->
  Iw fu call n c nn bs.length ws.length (Af .u64 ws) ws.length i (Af .u8 bs)=some ⟨[.own 1 (bs++A7 r).length (Af .u8 (bs++A7 r))],[]⟩
 |r,i,0,_,_,h,_=>by omega
 |[],i,nn+1,bs,h,_,_=>by
  have:=drop_nil h;have e8:=At .u8 bs;rw[Sy];simp (disch:=omega) only[Cu,Dp,Tl,A7,List.flatMap_nil,List.append_nil]
 |w::r,i,nn+1,bs,h,hn,hb=>by
  obtain⟨h1,h2,h3⟩:=Dx h;simp only[Io] at hn;rw[Sy];simp (disch:=omega) only[Cu,Hs,Dp,BI h2];rw[show (0:Int)=((0:Nat):Int) from rfl,Aa7 8 0 fu bs rfl (by omega) (by omega) (by omega),Ak (by omega) (by omega)]
  have ih:=OD hl Cb r (i+1) nn (bs++Hz w) h3 (by omega) (by simp[I0];omega)
  have e:bs++Hz w++A7 r=bs++A7 (w::r):=by simp[A7]
  rw[e] at ih;exact ih
theorem Q3 {ws:List Int}(hl:ws.length<=1073741824)(Cb:100<=fu)(hf:ws.length<fu):Ad (CX xs) prog fu (d+1) Gr [.lst false 1 ws.length (Af .u64 ws)]=some ⟨[.own 1 (A7 ws).length (Af .u8 (A7 ws))],[]⟩:=by
 rw[RM];simp (disch:=omega) only[Cu,Ak,Int.mul_one];exact OD hl Cb ws 0 fu [] rfl hf rfl
theorem UW {ws:List Int}{w:Int}{m0 i:Nat}(hw:ws[i]?=some w):∀(r nn:Nat)(j:Int)(bs:List Int),j=(r:Int)-1->r<=8->r<nn->bs.length+r<=34359738368 ->
  Hb fu call n c m0 nn ws.length (Af .u64 ws) bs.length i j (Af .u8 bs) =
   F1 fu call n c m0 ws.length (Af .u64 ws) (bs++(List.range' (8-r) r).map (Dv w)).length (wrap .i64 (i+1)) (Af .u8 (bs++(List.range' (8-r) r).map (Dv w)))
 |r,0,j,bs,_,_,h,_=>by omega
 |0,nn+1,j,bs,hr,_,_,_=>by
  rw[Mp];simp (disch:=omega) only[Cu];simp
 |r+1,nn+1,j,bs,hr,Xa,hn,hb=>by
  have hi:=Ayz hw;have ih:=UW (m0:=m0) hw r nn (j-1) (bs++[Dv w (8-(r+1))]) (by omega) (by omega) (by omega) (by simp;omega)
  have e8:=At .u8 bs
  have hx:wrap .u8 (Ik .u64 w (wrap .u64 (wrap .i64 (8*j))))=Dv w (8-(r+1)):=by
   rw[Ak (by omega) (by omega),Ea (by omega) (by omega)]
   unfold Dv;rw[show 56-8*((8-(r+1):Nat):Int)=8*j by omega]
  have h0:0<=wrap .u64 (wrap .i64 (8*j)):=by
   rw[Ak (by omega) (by omega),Ea (by omega) (by omega)]
   omega
  have Afa:List.range' (8-(r+1)) (r+1)=(8-(r+1))::List.range' (8-r) r:=by
   rw[List.range'_succ,show 8-(r+1)+1=8-r by omega]
  rw[Mp];simp (disch:=first|omega|exact h0) only[Cu,Hs,Dp,BI hw,hx,Tl,Jl,Ak (x:=j-1)];rw[Afa];simp only[Kb,Io,W5,C8,XX,VO,List.singleton_append] at ih ⊢;exact ih
theorem KF {ws:List Int}(hl:ws.length<=1073741824)(Cb:100<=fu):∀(r:List Int)(i nn:Nat)(bs:List Int),ws.drop i=r->r.length<nn->bs.length=8*i ->
  F1 fu call n c nn ws.length (Af .u64 ws) bs.length i (Af .u8 bs)=some ⟨[.own 1 (bs++A7 r).length (Af .u8 (bs++A7 r))],[]⟩
 |r,i,0,_,_,h,_=>by omega
 |[],i,nn+1,bs,h,_,_=>by
  have:=drop_nil h;have e8:=At .u8 bs;rw[Mf];simp (disch:=omega) only[Cu,Dp,Tl,A7,List.flatMap_nil,List.append_nil]
 |w::r,i,nn+1,bs,h,hn,hb=>by
  obtain⟨h1,h2,h3⟩:=Dx h;simp only[Io] at hn;rw[Mf];simp (disch:=omega) only[Cu];rw[UW h2 8 fu 7 bs rfl (by omega) (by omega) (by omega),Ak (by omega) (by omega)]
  have ih:=KF hl Cb r (i+1) nn (bs++Hz w) h3 (by omega) (by simp[I0];omega)
  have e:bs++Hz w++A7 r=bs++A7 (w::r):=by simp[A7]
  rw[e] at ih;exact ih
theorem U9 {ws:List Int}(hl:ws.length<=1073741824)(Cb:100<=fu)(hf:ws.length<fu):Ad (CX xs) prog fu (d+1) Fb [.lst false 1 ws.length (Af .u64 ws)]=some ⟨[.own 1 (A7 ws).length (Af .u8 (A7 ws))],[]⟩:=by
 rw[Zr];exact KF hl Cb ws 0 fu [] rfl hf rfl
end
abbrev Gj (a b:Int):Int:=UF .u64 (Jj .u64 a 8) (wrap .u64 b)
def PY (bs:List Int):Int:=bs.foldl Gj 0
theorem Avx {q:Int}(h0:0<=q)(h1:q<=18446744073709551615):Gj (q / 256) (wrap .u8 q)=q:=by
 have e1:Jj .u64 (q / 256) 8=q / 256*256:=by
  unfold Jj;have:((8:Int).toNat.min IntKind.u64.bits)=8:=by decide
  show wrap .u64 (q / 256*2 ^ (min (8:Int).toNat IntKind.u64.bits))=_;have h2:(2:Int) ^ (min (8:Int).toNat IntKind.u64.bits)=256:=by decide
  rw[h2,Ea (by omega) (by omega)]
 have e2:wrap .u8 q=q % 256:=by
  simp only[wrap,IntKind.signed,IntKind.bits];simp
 have e3:wrap .u64 (q % 256)=q % 256:=Ea (by omega) (by omega)
 unfold Gj;rw[e1,e2,e3];obtain⟨n,rfl⟩:=Int.eq_ofNat_of_zero_le h0;have hn:n<18446744073709551616:=by omega
 have e4:(BitVec.ofInt 64 ((n:Int) / 256*256)).toNat=n / 256*256:=by
  rw[BitVec.toNat_ofInt];omega
 have e5:(BitVec.ofInt 64 ((n:Int) % 256)).toNat=n % 256:=by
  rw[BitVec.toNat_ofInt];omega
 have e6:n / 256*256 ||| n % 256=n:=by
  have:=Nat.shiftLeft_add_eq_or_of_lt (show n % 256<2 ^ 8 by omega) (n / 256)
  rw[Nat.shiftLeft_eq] at this;rw[←this];omega
 unfold UF;show wrap .u64 ((BitVec.ofInt 64 ((n:Int) / 256*256) ||| BitVec.ofInt 64 ((n:Int) % 256)).toNat:Int)=n;rw[BitVec.toNat_or,e4,e5,e6,Ea (by omega) (by omega)]
theorem UI {w:Int}(k:Nat)(hk:k<8):Dv w k=wrap .u8 (w / 2 ^ (56-8*k)):=by
 unfold Dv Ik;have e:(56-8*(k:Int)).toNat=56-8*k:=by omega
 rw[e,Nat.min_eq_left (by show 56-8*k<=64;omega),Int.fdiv_eq_ediv_of_nonneg _ (Int.le_of_lt (Int.pow_pos (by omega)))]
theorem UQ {w:Int}(h0:0<=w)(h1:w<=18446744073709551615):PY (Hz w)=w:=by
 have st:∀(k:Nat) (D:Int),k<8->(2:Int) ^ (56-8*k)=D->0<D->Gj (w / D / 256) (Dv w k)=w / D:=by
  intro k D hk hD hp;rw[UI k hk,hD];exact Avx (Int.ediv_nonneg h0 (Int.le_of_lt hp)) (Int.le_trans (Int.ediv_le_self _ h0) h1)
 have s0:=st 0 72057594037927936 (by omega) (by decide) (by omega)
 have s1:=st 1 281474976710656 (by omega) (by decide) (by omega)
 have s2:=st 2 1099511627776 (by omega) (by decide) (by omega)
 have s3:=st 3 4294967296 (by omega) (by decide) (by omega)
 have s4:=st 4 16777216 (by omega) (by decide) (by omega)
 have s5:=st 5 65536 (by omega) (by decide) (by omega)
 have s6:=st 6 256 (by omega) (by decide) (by omega)
 have s7:=st 7 1 (by omega) (by decide) (by omega)
 rw[show w / 72057594037927936 / 256=0 by omega] at s0
 rw[show w / 281474976710656 / 256=w / 72057594037927936 by omega] at s1
 rw[show w / 1099511627776 / 256=w / 281474976710656 by omega] at s2
 rw[show w / 4294967296 / 256=w / 1099511627776 by omega] at s3
 rw[show w / 16777216 / 256=w / 4294967296 by omega] at s4
 rw[show w / 65536 / 256=w / 16777216 by omega] at s5
 rw[show w / 256 / 256=w / 65536 by omega] at s6
 rw[show w / 1 / 256=w / 256 by omega,show w / 1=w by omega] at s7
 show Gj (Gj (Gj (Gj (Gj (Gj (Gj (Gj 0 (Dv w 0)) (Dv w 1)) (Dv w 2)) (Dv w 3)) (Dv w 4)) (Dv w 5)) (Dv w 6)) (Dv w 7)=w;rw[s0,s1,s2,s3,s4,s5,s6,s7]
end
section
open Go.Proofs.Tryd (prog)
open Go.IntKind (wrap)
set_option maxRecDepth 100000
abbrev Ts:FuncId:=44
noncomputable def Hf (fu:Nat)(call:Ah)(a0:Int)(nn:Nat)(y0 y1 y2:Int)(y3 y4:List PV):Option A5:=Du CB prog fu call 44 Tryd.f44 (Ca Tryd.f44) [.sc (.int .u64 a0)] [.r,.r,.r,.l,.r,.l] nn ⟨lk [(0,(.sc (.int .u64 y0))),(2,(.ptr 2 0)),(3,(.ptr 3 0)),(4,(.sc (.int .i64 y1))),(6,(.sc (.int .i64 y2)))],Br [(2,(.ar false y3)),(3,(.ar false y4))]⟩
noncomputable def Sx (fu:Nat)(call:Ah)(a0:Int)(nn:Nat)(y0 y1:List PV):Option A5:=Du CB prog fu call 44 Tryd.f44 (Ca Tryd.f44) [.sc (.int .u64 a0)] [.r,.r,.r,.r,.r] nn ⟨lk [(2,(.ptr 2 0)),(3,(.ptr 3 0))],Br [(2,(.ar false y0)),(3,(.ar false y1))]⟩
noncomputable def Sb (fu:Nat)(call:Ah)(a0:Int)(nn:Nat)(y0:List PV):Option A5:=Du CB prog fu call 44 Tryd.f44 (Ca Tryd.f44) [.sc (.int .u64 a0)] [.r,.r,.r,.r,.r,.r] nn ⟨lk [(2,(.ptr 2 0))],Br [(2,(.ar false y0))]⟩
theorem Po (fu:Nat)(call:Ah)(a0:Int)(nn:Nat)(y0 y1 y2:Int)(y3 y4:List PV):Hf fu call a0 (nn+1) y0 y1 y2 y3 y4=(Bi (decide (y2<16)) (Aa (wrap .i64 (4*y2)) fun x1=>Aa (wrap .i64 (60-x1)) fun x2=>Ar (decide (0<=x2))<|Aa (Ik .u64 y0 x2) fun x3=>Aa (W7 .u64 x3 15) fun x4=>Aa (wrap .i64 x4) fun x5=>Ar (decide (0<=y2)&&decide (y2<18))<|Ar (decide (0+Int.toNat y2*1+1<=y4.length))<|Aa (Bn y4 [.sc (.int .i64 x5)] (0+Int.toNat y2*1)) fun x6=>Ar (decide (0<=y2)&&decide (y2<18))<|Ae .i64 (List.getD x6 (0+Int.toNat y2*1) .top) fun x7=>Aa (wrap .i64 (15-x7)) fun x8=>Aa (wrap .i64 (y1+x8)) fun x9=>Aa (wrap .i64 (y2+1)) fun C6=>Hf fu call a0 (nn) (y0) x9 C6 (y3) x6) (Aa (wrap .i64 (Int.tdiv y1 16)) fun Dr=>Ar (decide (17<=y4.length))<|Aa (Bn y4 [.sc (.int .i64 Dr)] 16) fun Eg=>Aa (Int.tmod y1 16) fun Ez=>Ar (decide (18<=Eg.length))<|Aa (Bn Eg [.sc (.int .i64 Ez)] 17) fun D7=>Sx fu call a0 (fu) (y3) D7)):=by kernel_rfl
theorem Zi (fu:Nat)(call:Ah)(a0:Int)(nn:Nat)(U7:0<nn)(y0 y1:List PV):Sx fu call a0 nn y0 y1=(Ae .i64 (List.getD y1 0 .top) fun Ew=>Ae .i64 (List.getD y1 1 .top) fun Fw=>Ae .i64 (List.getD y1 2 .top) fun Gm=>Ae .i64 (List.getD y1 3 .top) fun G4=>Ae .i64 (List.getD y1 4 .top) fun Gi=>Ae .i64 (List.getD y1 5 .top) fun Gy=>Ae .i64 (List.getD y1 6 .top) fun Jk=>Ae .i64 (List.getD y1 7 .top) fun Ia=>Ae .i64 (List.getD y1 8 .top) fun Je=>Ae .i64 (List.getD y1 9 .top) fun Fn=>Ae .i64 (List.getD y1 10 .top) fun Eu=>Ae .i64 (List.getD y1 11 .top) fun Hv=>Ae .i64 (List.getD y1 12 .top) fun J8=>Ae .i64 (List.getD y1 13 .top) fun G3=>Ae .i64 (List.getD y1 14 .top) fun O6=>Ae .i64 (List.getD y1 15 .top) fun M7=>Ae .i64 (List.getD y1 16 .top) fun Kw=>Ae .i64 (List.getD y1 17 .top) fun Mz=>Ar (decide (18<=y0.length))<|Aa (Bn y0 [.sc (.int .i64 Ew),.sc (.int .i64 Fw),.sc (.int .i64 Gm),.sc (.int .i64 G4),.sc (.int .i64 Gi),.sc (.int .i64 Gy),.sc (.int .i64 Jk),.sc (.int .i64 Ia),.sc (.int .i64 Je),.sc (.int .i64 Fn),.sc (.int .i64 Eu),.sc (.int .i64 Hv),.sc (.int .i64 J8),.sc (.int .i64 G3),.sc (.int .i64 O6),.sc (.int .i64 M7),.sc (.int .i64 Kw),.sc (.int .i64 Mz)] 0) fun O8=>Sb fu call a0 (fu) O8):=by cases nn with|zero=>exact absurd U7 (Nat.lt_irrefl 0)|succ nn=>kernel_rfl
theorem Zp (fu:Nat)(call:Ah)(a0:Int)(nn:Nat)(U7:0<nn)(y0:List PV):Sb fu call a0 nn y0=(Ae .i64 (List.getD y0 0 .top) fun Pn=>Ae .i64 (List.getD y0 1 .top) fun O5=>Ae .i64 (List.getD y0 2 .top) fun Ry=>Ae .i64 (List.getD y0 3 .top) fun Vb=>Ae .i64 (List.getD y0 4 .top) fun Ic=>Ae .i64 (List.getD y0 5 .top) fun Ln=>Ae .i64 (List.getD y0 6 .top) fun S4=>Ae .i64 (List.getD y0 7 .top) fun Xb=>Ae .i64 (List.getD y0 8 .top) fun R9=>Ae .i64 (List.getD y0 9 .top) fun Ye=>Ae .i64 (List.getD y0 10 .top) fun Za=>Ae .i64 (List.getD y0 11 .top) fun X6=>Ae .i64 (List.getD y0 12 .top) fun Xc=>Ae .i64 (List.getD y0 13 .top) fun Yd=>Ae .i64 (List.getD y0 14 .top) fun Yq=>Ae .i64 (List.getD y0 15 .top) fun Yu=>Ae .i64 (List.getD y0 16 .top) fun BD=>Ae .i64 (List.getD y0 17 .top) fun Zz=>some (A5.mk [.agg [.sc (.int .i64 Pn),.sc (.int .i64 O5),.sc (.int .i64 Ry),.sc (.int .i64 Vb),.sc (.int .i64 Ic),.sc (.int .i64 Ln),.sc (.int .i64 S4),.sc (.int .i64 Xb),.sc (.int .i64 R9),.sc (.int .i64 Ye),.sc (.int .i64 Za),.sc (.int .i64 X6),.sc (.int .i64 Xc),.sc (.int .i64 Yd),.sc (.int .i64 Yq),.sc (.int .i64 Yu),.sc (.int .i64 BD),.sc (.int .i64 Zz)]] [])):=by cases nn with|zero=>exact absurd U7 (Nat.lt_irrefl 0)|succ nn=>kernel_rfl
theorem GZ {xs:FuncId->Option (List PV->Option A5)} (fu d:Nat)(a0:Int):Ad (CX xs) prog fu (d+1) Ts [.sc (.int .u64 a0)]=(fun (call:Ah)=>Hf fu call a0 (fu) (a0) 0 0 ([.sc (.int .i64 0),.sc (.int .i64 0),.sc (.int .i64 0),.sc (.int .i64 0),.sc (.int .i64 0),.sc (.int .i64 0),.sc (.int .i64 0),.sc (.int .i64 0),.sc (.int .i64 0),.sc (.int .i64 0),.sc (.int .i64 0),.sc (.int .i64 0),.sc (.int .i64 0),.sc (.int .i64 0),.sc (.int .i64 0),.sc (.int .i64 0),.sc (.int .i64 0),.sc (.int .i64 0)]) ([.sc (.int .i64 0),.sc (.int .i64 0),.sc (.int .i64 0),.sc (.int .i64 0),.sc (.int .i64 0),.sc (.int .i64 0),.sc (.int .i64 0),.sc (.int .i64 0),.sc (.int .i64 0),.sc (.int .i64 0),.sc (.int .i64 0),.sc (.int .i64 0),.sc (.int .i64 0),.sc (.int .i64 0),.sc (.int .i64 0),.sc (.int .i64 0),.sc (.int .i64 0),.sc (.int .i64 0)])) (Ad (CX xs) prog fu d):=by kernel_rfl
abbrev Z9:FuncId:=45
noncomputable def Mu (fu:Nat)(call:Ah)(a0 a1:Int)(a2 a3 a4:Int)(nn:Nat)(y0 y1:Int)(y2 y3 y4:Int):Option A5:=Du CB prog fu call 45 Tryd.f45 (Ca Tryd.f45) [.sc (.int .i64 a0),.sc (.int .i64 a1),.sc (.int .i64 a2),.sc (.int .i64 a3),.sc (.int .u64 a4)] [.r,.r,.l,.r,.l] nn ⟨lk [(0,(.sc (.int .i64 y0))),(1,(.sc (.int .i64 y1))),(4,(.sc (.int .u64 y2))),(11,(.sc (.int .i64 y3))),(12,(.sc (.int .i64 y4)))],Br []⟩
theorem Ud (fu:Nat)(call:Ah)(a0 a1:Int)(a2 a3 a4:Int)(nn:Nat)(y0 y1:Int)(y2 y3 y4:Int):Mu fu call a0 a1 a2 a3 a4 (nn+1) y0 y1 y2 y3 y4=(Bi (decide (y4<y3)) (Aa (wrap .u64 y0) fun x3=>Aa (wrap .u64 y1) fun x4=>Aa (wrap .u64 y4) fun x5=>Ai (call 32 [.lst false 1 4 [.sc (.int .u64 x3),.sc (.int .u64 x4),.sc (.int .u64 x5),.sc (.int .u64 y2)]]) fun x6 x7=>Ac x7<|Ab x6 fun x8 x9=>Gl 1 x8 fun C6 Dr=>Ac x9<|Ar (decide (0+C6*1<=Dr.length))<|Ai (call 21 [.sc (.int .i64 1),.lst false 1 C6 (List.take (C6*1) (List.drop 0 Dr))]) fun Eg Ez=>Ac Ez<|Ab Eg fun D7 Ew=>Ae .u64 D7 fun Fw=>Ac Ew<|Aa (wrap .i64 (y4+1)) fun Gm=>Mu fu call a0 a1 a2 a3 a4 (nn) (y0) (y1) Fw (y3) Gm) (some (A5.mk [.sc (.int .u64 y2)] []))):=by kernel_rfl
theorem TP {xs:FuncId->Option (List PV->Option A5)} (fu d:Nat)(a0 a1:Int)(a2 a3 a4:Int):Ad (CX xs) prog fu (d+1) Z9 [.sc (.int .i64 a0),.sc (.int .i64 a1),.sc (.int .i64 a2),.sc (.int .i64 a3),.sc (.int .u64 a4)]=(fun (call:Ah)=>Aa (if 15<a3 then 15 else a3) fun x1=>Aa (if a2<0 then 0 else a2) fun x2=>Mu fu call a0 a1 a2 a3 a4 (fu) (a0) (a1) (a4) x1 x2) (Ad (CX xs) prog fu d):=by kernel_rfl
abbrev R6:FuncId:=70
theorem FZ {xs:FuncId->Option (List PV->Option A5)} (fu d:Nat)(a0 Cg:Int)(Cf Cm:Int)(Amh Aom:Int)(Aqy Ark:Int)(A29 A1o:Int)(A17 Av0:Int)(Av5 Aw4:Int)(Avv Awb:Int)(Axm Awu Avy:Int):Ad (CX xs) prog fu (d+1) R6 [.sc (.int .i64 a0),.agg [.sc (.int .u64 Cg),.sc (.int .u64 Cf),.sc (.int .u64 Cm),.sc (.int .u64 Amh),.sc (.int .u64 Aom),.sc (.int .u64 Aqy),.sc (.int .u64 Ark),.sc (.int .u64 A29),.sc (.int .u64 A1o),.sc (.int .u64 A17),.sc (.int .u64 Av0),.sc (.int .u64 Av5),.sc (.int .u64 Aw4),.sc (.int .u64 Avv),.sc (.int .u64 Awb),.sc (.int .u64 Axm),.sc (.int .u64 Awu),.sc (.int .u64 Avy)]]=(fun (call:Ah)=>Aa (wrap .u64 a0) fun x1=>Ai (call 32 [.lst false 1 19 [.sc (.int .u64 x1),.sc (.int .u64 Cg),.sc (.int .u64 Cf),.sc (.int .u64 Cm),.sc (.int .u64 Amh),.sc (.int .u64 Aom),.sc (.int .u64 Aqy),.sc (.int .u64 Ark),.sc (.int .u64 A29),.sc (.int .u64 A1o),.sc (.int .u64 A17),.sc (.int .u64 Av0),.sc (.int .u64 Av5),.sc (.int .u64 Aw4),.sc (.int .u64 Avv),.sc (.int .u64 Awb),.sc (.int .u64 Axm),.sc (.int .u64 Awu),.sc (.int .u64 Avy)]]) fun x2 x3=>Ac x3<|Ab x2 fun x4 x5=>Gl 1 x4 fun x6 x7=>Ac x5<|Ar (decide (0+x6*1<=x7.length))<|Ai (call 21 [.sc (.int .i64 2),.lst false 1 x6 (List.take (x6*1) (List.drop 0 x7))]) fun x8 x9=>Ac x9<|Ab x8 fun C6 Dr=>Ae .u64 C6 fun Eg=>Ac Dr<|some (A5.mk [.sc (.int .u64 Eg)] [])) (Ad (CX xs) prog fu d):=by kernel_rfl
abbrev Ss:FuncId:=61
noncomputable def Fv (fu:Nat)(call:Ah)(a0 a1:Int)(Ko:Nat)(a2:List PV)(nn:Nat)(y0:Int)(y1:Nat)(y2:List PV)(y3 y4:Int)(y5 y6:Int)(y7 y8:Int)(y9 y10:Int)(G5 Hq:Int)(J0 O7:Int)(M5 Vd:Int)(Wz LG:Int)(Zt To Sn:Int)(MZ:List PV):Option A5:=Du CB prog fu call 61 Tryd.f61 (Ca Tryd.f61) [.sc (.int .i64 a0),.sc (.int .u64 a1),.lst false 1 Ko a2] [.r,.r,.r,.l,.r,.l] nn ⟨lk [(0,(.sc (.int .i64 y0))),(2,(.lst false 1 y1 y2)),(8,(.ptr 8 0)),(15,(.agg [(.sc (.int .i64 y3)),(.sc (.int .i64 y4)),(.sc (.int .i64 y5)),(.sc (.int .i64 y6)),(.sc (.int .i64 y7)),(.sc (.int .i64 y8)),(.sc (.int .i64 y9)),(.sc (.int .i64 y10)),(.sc (.int .i64 G5)),(.sc (.int .i64 Hq)),(.sc (.int .i64 J0)),(.sc (.int .i64 O7)),(.sc (.int .i64 M5)),(.sc (.int .i64 Vd)),(.sc (.int .i64 Wz)),(.sc (.int .i64 LG)),(.sc (.int .i64 Zt)),(.sc (.int .i64 To))])),(16,(.sc (.int .i64 Sn)))],Br [(8,(.ar false MZ))]⟩
noncomputable def Q9 (fu:Nat)(call:Ah)(a0 a1:Int)(Ko:Nat)(a2:List PV)(nn:Nat)(y0:Int)(y1:List PV):Option A5:=Du CB prog fu call 61 Tryd.f61 (Ca Tryd.f61) [.sc (.int .i64 a0),.sc (.int .u64 a1),.lst false 1 Ko a2] [.r,.r,.r] nn ⟨lk [(0,(.sc (.int .i64 y0))),(8,(.ptr 8 0))],Br [(8,(.ar false y1))]⟩
noncomputable def Qn (fu:Nat)(call:Ah)(a0 a1:Int)(Ko:Nat)(a2:List PV)(nn:Nat)(y0 y1:Int):Option A5:=Du CB prog fu call 61 Tryd.f61 (Ca Tryd.f61) [.sc (.int .i64 a0),.sc (.int .u64 a1),.lst false 1 Ko a2] [.r,.r,.r,.r] nn ⟨lk [(6,(.sc (.int .u64 y0))),(7,(.sc (.int .i64 y1)))],Br []⟩
theorem Ox (fu:Nat)(call:Ah)(a0 a1:Int)(Ko:Nat)(a2:List PV)(nn:Nat)(y0:Int)(y1:Nat)(y2:List PV)(y3 y4:Int)(y5 y6:Int)(y7 y8:Int)(y9 y10:Int)(G5 Hq:Int)(J0 O7:Int)(M5 Vd:Int)(Wz LG:Int)(Zt To Sn:Int)(MZ:List PV):Fv fu call a0 a1 Ko a2 (nn+1) y0 y1 y2 y3 y4 y5 y6 y7 y8 y9 y10 G5 Hq J0 O7 M5 Vd Wz LG Zt To Sn MZ=(Bi (decide (Sn<18)) (Ar (decide (0<=Sn)&&decide (Sn<18)&&true)<|Ae .i64 (List.getD [.sc (.int .i64 y3),.sc (.int .i64 y4),.sc (.int .i64 y5),.sc (.int .i64 y6),.sc (.int .i64 y7),.sc (.int .i64 y8),.sc (.int .i64 y9),.sc (.int .i64 y10),.sc (.int .i64 G5),.sc (.int .i64 Hq),.sc (.int .i64 J0),.sc (.int .i64 O7),.sc (.int .i64 M5),.sc (.int .i64 Vd),.sc (.int .i64 Wz),.sc (.int .i64 LG),.sc (.int .i64 Zt),.sc (.int .i64 To)] (Int.toNat Sn*1) .top) fun AF=>Ar (decide (0<=Sn)&&decide (Sn<(↑y1:Int)))<|Ae .u64 (List.getD y2 (Int.toNat Sn*1) .top) fun CU=>Ai (call 45 [.sc (.int .i64 y0),.sc (.int .i64 Sn),.sc (.int .i64 AF),.sc (.int .i64 15),.sc (.int .u64 CU)]) fun FF DM=>Ac DM<|Ab FF fun AA Y9=>Ae .u64 AA fun Xd=>Ac Y9<|Ar (decide (0<=Sn)&&decide (Sn<18))<|Ar (decide (0+Int.toNat Sn*1+1<=MZ.length))<|Aa (Bn MZ [.sc (.int .u64 Xd)] (0+Int.toNat Sn*1)) fun EH=>Aa (wrap .i64 (Sn+1)) fun GU=>Fv fu call a0 a1 Ko a2 (nn) (y0) (y1) (y2) (y3) (y4) (y5) (y6) (y7) (y8) (y9) (y10) (G5) (Hq) (J0) (O7) (M5) (Vd) (Wz) (LG) (Zt) (To) GU EH) (Q9 fu call a0 a1 Ko a2 (fu) (y0) (MZ))):=by kernel_rfl
theorem X1 (fu:Nat)(call:Ah)(a0 a1:Int)(Ko:Nat)(a2:List PV)(nn:Nat)(U7:0<nn)(y0:Int)(y1:List PV):Q9 fu call a0 a1 Ko a2 nn y0 y1=(Ae .u64 (List.getD y1 0 .top) fun DN=>Ae .u64 (List.getD y1 1 .top) fun FH=>Ae .u64 (List.getD y1 2 .top) fun DJ=>Ae .u64 (List.getD y1 3 .top) fun FS=>Ae .u64 (List.getD y1 4 .top) fun GW=>Ae .u64 (List.getD y1 5 .top) fun AL=>Ae .u64 (List.getD y1 6 .top) fun KL=>Ae .u64 (List.getD y1 7 .top) fun MX=>Ae .u64 (List.getD y1 8 .top) fun DH=>Ae .u64 (List.getD y1 9 .top) fun LX=>Ae .u64 (List.getD y1 10 .top) fun QU=>Ae .u64 (List.getD y1 11 .top) fun RT=>Ae .u64 (List.getD y1 12 .top) fun OM=>Ae .u64 (List.getD y1 13 .top) fun TH=>Ae .u64 (List.getD y1 14 .top) fun x83=>Ae .u64 (List.getD y1 15 .top) fun VU=>Ae .u64 (List.getD y1 16 .top) fun x85=>Ae .u64 (List.getD y1 17 .top) fun YL=>Ai (call 70 [.sc (.int .i64 y0),.agg [.sc (.int .u64 DN),.sc (.int .u64 FH),.sc (.int .u64 DJ),.sc (.int .u64 FS),.sc (.int .u64 GW),.sc (.int .u64 AL),.sc (.int .u64 KL),.sc (.int .u64 MX),.sc (.int .u64 DH),.sc (.int .u64 LX),.sc (.int .u64 QU),.sc (.int .u64 RT),.sc (.int .u64 OM),.sc (.int .u64 TH),.sc (.int .u64 x83),.sc (.int .u64 VU),.sc (.int .u64 x85),.sc (.int .u64 YL)]]) fun x87 YA=>Ac YA<|Ab x87 fun NB RV=>Ae .u64 NB fun UR=>Ac RV<|Qn fu call a0 a1 Ko a2 (fu) UR 0):=by cases nn with|zero=>exact absurd U7 (Nat.lt_irrefl 0)|succ nn=>kernel_rfl
theorem Xi (fu:Nat)(call:Ah)(a0 a1:Int)(Ko:Nat)(a2:List PV)(nn:Nat)(U7:0<nn)(y0 y1:Int):Qn fu call a0 a1 Ko a2 nn y0 y1=(some (A5.mk [.sc (.int .u64 y0),.sc (.int .i64 y1)] [])):=by cases nn with|zero=>exact absurd U7 (Nat.lt_irrefl 0)|succ nn=>kernel_rfl
theorem EF {xs:FuncId->Option (List PV->Option A5)} (fu d:Nat)(a0 a1:Int)(Ko:Nat)(a2:List PV):Ad (CX xs) prog fu (d+1) Ss [.sc (.int .i64 a0),.sc (.int .u64 a1),.lst false 1 Ko a2]=(fun (call:Ah)=>Bi ((↑Ko:Int) != 18) (some (A5.mk [.sc (.int .u64 0),.sc (.int .i64 4)] [])) (Ai (call 44 [.sc (.int .u64 a1)]) fun x1 x2=>Ac x2<|Ab x1 fun x3 x4=>Fm x3 fun x5=>Ab x5 fun x6 x7=>Ae .i64 x6 fun x8=>Ab x7 fun x9 C6=>Ae .i64 x9 fun Dr=>Ab C6 fun Eg Ez=>Ae .i64 Eg fun D7=>Ab Ez fun Ew Fw=>Ae .i64 Ew fun Gm=>Ab Fw fun G4 Gi=>Ae .i64 G4 fun Gy=>Ab Gi fun Jk Ia=>Ae .i64 Jk fun Je=>Ab Ia fun Fn Eu=>Ae .i64 Fn fun Hv=>Ab Eu fun J8 G3=>Ae .i64 J8 fun O6=>Ab G3 fun M7 Kw=>Ae .i64 M7 fun Mz=>Ab Kw fun O8 Pn=>Ae .i64 O8 fun O5=>Ab Pn fun Ry Vb=>Ae .i64 Ry fun Ic=>Ab Vb fun Ln S4=>Ae .i64 Ln fun Xb=>Ab S4 fun R9 Ye=>Ae .i64 R9 fun Za=>Ab Ye fun X6 Xc=>Ae .i64 X6 fun Yd=>Ab Xc fun Yq Yu=>Ae .i64 Yq fun BD=>Ab Yu fun Zz Zg=>Ae .i64 Zz fun BX=>Ab Zg fun EJ DK=>Ae .i64 EJ fun CJ=>Ab DK fun CI Z3=>Ae .i64 CI fun GV=>Ac Z3<|Ac x4<|Fv fu call a0 a1 Ko a2 (fu) (a0) (Ko) (a2) x8 Dr D7 Gm Gy Je Hv O6 Mz O5 Ic Xb Za Yd BD BX CJ GV 0 ([.sc (.int .u64 0),.sc (.int .u64 0),.sc (.int .u64 0),.sc (.int .u64 0),.sc (.int .u64 0),.sc (.int .u64 0),.sc (.int .u64 0),.sc (.int .u64 0),.sc (.int .u64 0),.sc (.int .u64 0),.sc (.int .u64 0),.sc (.int .u64 0),.sc (.int .u64 0),.sc (.int .u64 0),.sc (.int .u64 0),.sc (.int .u64 0),.sc (.int .u64 0),.sc (.int .u64 0)]))) (Ad (CX xs) prog fu d):=by kernel_rfl
abbrev U6:FuncId:=46
theorem HE {xs:FuncId->Option (List PV->Option A5)} (fu d:Nat)(a0 a1 a2:Int):Ad (CX xs) prog fu (d+1) U6 [.sc (.int .u64 a0),.sc (.int .i64 a1),.sc (.int .i64 a2)]=(fun (call:Ah)=>Aa (wrap .u64 a1) fun x1=>Aa (wrap .u64 a2) fun x2=>Ai (call 32 [.lst false 1 2 [.sc (.int .u64 x1),.sc (.int .u64 x2)]]) fun x3 x4=>Ac x4<|Ab x3 fun x5 x6=>Gl 1 x5 fun x7 x8=>Ac x6<|Ar (decide (0+x7*1<=x8.length))<|Ai (call 69 [.sc (.int .u64 a0),.sc (.int .i64 1),.lst false 1 x7 (List.take (x7*1) (List.drop 0 x8))]) fun x9 C6=>Ac C6<|Ab x9 fun Dr Eg=>Ae .u64 Dr fun Ez=>Ac Eg<|some (A5.mk [.sc (.int .u64 Ez)] [])) (Ad (CX xs) prog fu d):=by kernel_rfl
abbrev Nt:FuncId:=48
noncomputable def F6 (fu:Nat)(call:Ah)(a0 a1:Int)(nn:Nat)(y0 y1 y2:Int)(y3:List PV):Option A5:=Du CB prog fu call 48 Tryd.f48 (Ca Tryd.f48) [.sc (.int .u64 a0),.sc (.int .i64 a1)] [.r,.r,.l,.r,.l] nn ⟨lk [(0,(.sc (.int .u64 y0))),(1,(.sc (.int .i64 y1))),(5,(.ptr 5 0)),(7,(.sc (.int .i64 y2)))],Br [(5,(.ar false y3))]⟩
noncomputable def Sd (fu:Nat)(call:Ah)(a0 a1:Int)(nn:Nat)(y0:Int)(y1:List PV):Option A5:=Du CB prog fu call 48 Tryd.f48 (Ca Tryd.f48) [.sc (.int .u64 a0),.sc (.int .i64 a1)] [.r,.r] nn ⟨lk [(1,(.sc (.int .i64 y0))),(5,(.ptr 5 0))],Br [(5,(.ar false y1))]⟩
noncomputable def Sr (fu:Nat)(call:Ah)(a0 a1:Int)(nn:Nat)(y0:Int):Option A5:=Du CB prog fu call 48 Tryd.f48 (Ca Tryd.f48) [.sc (.int .u64 a0),.sc (.int .i64 a1)] [.r,.r,.r] nn ⟨lk [(4,(.sc (.int .u64 y0)))],Br []⟩
theorem Pw (fu:Nat)(call:Ah)(a0 a1:Int)(nn:Nat)(y0 y1 y2:Int)(y3:List PV):F6 fu call a0 a1 (nn+1) y0 y1 y2 y3=(Bi (decide (y2<18)) (Ai (call 46 [.sc (.int .u64 y0),.sc (.int .i64 y1),.sc (.int .i64 y2)]) fun x1 x2=>Ac x2<|Ab x1 fun x3 x4=>Ae .u64 x3 fun x5=>Ac x4<|Ai (call 45 [.sc (.int .i64 y1),.sc (.int .i64 y2),.sc (.int .i64 0),.sc (.int .i64 15),.sc (.int .u64 x5)]) fun x6 x7=>Ac x7<|Ab x6 fun x8 x9=>Ae .u64 x8 fun C6=>Ac x9<|Ar (decide (0<=y2)&&decide (y2<18))<|Ar (decide (0+Int.toNat y2*1+1<=y3.length))<|Aa (Bn y3 [.sc (.int .u64 C6)] (0+Int.toNat y2*1)) fun Dr=>Aa (wrap .i64 (y2+1)) fun Eg=>F6 fu call a0 a1 (nn) (y0) (y1) Eg Dr) (Sd fu call a0 a1 (fu) (y1) (y3))):=by kernel_rfl
theorem Zl (fu:Nat)(call:Ah)(a0 a1:Int)(nn:Nat)(U7:0<nn)(y0:Int)(y1:List PV):Sd fu call a0 a1 nn y0 y1=(Ae .u64 (List.getD y1 0 .top) fun Ez=>Ae .u64 (List.getD y1 1 .top) fun D7=>Ae .u64 (List.getD y1 2 .top) fun Ew=>Ae .u64 (List.getD y1 3 .top) fun Fw=>Ae .u64 (List.getD y1 4 .top) fun Gm=>Ae .u64 (List.getD y1 5 .top) fun G4=>Ae .u64 (List.getD y1 6 .top) fun Gi=>Ae .u64 (List.getD y1 7 .top) fun Gy=>Ae .u64 (List.getD y1 8 .top) fun Jk=>Ae .u64 (List.getD y1 9 .top) fun Ia=>Ae .u64 (List.getD y1 10 .top) fun Je=>Ae .u64 (List.getD y1 11 .top) fun Fn=>Ae .u64 (List.getD y1 12 .top) fun Eu=>Ae .u64 (List.getD y1 13 .top) fun Hv=>Ae .u64 (List.getD y1 14 .top) fun J8=>Ae .u64 (List.getD y1 15 .top) fun G3=>Ae .u64 (List.getD y1 16 .top) fun O6=>Ae .u64 (List.getD y1 17 .top) fun M7=>Ai (call 70 [.sc (.int .i64 y0),.agg [.sc (.int .u64 Ez),.sc (.int .u64 D7),.sc (.int .u64 Ew),.sc (.int .u64 Fw),.sc (.int .u64 Gm),.sc (.int .u64 G4),.sc (.int .u64 Gi),.sc (.int .u64 Gy),.sc (.int .u64 Jk),.sc (.int .u64 Ia),.sc (.int .u64 Je),.sc (.int .u64 Fn),.sc (.int .u64 Eu),.sc (.int .u64 Hv),.sc (.int .u64 J8),.sc (.int .u64 G3),.sc (.int .u64 O6),.sc (.int .u64 M7)]]) fun Kw Mz=>Ac Mz<|Ab Kw fun O8 Pn=>Ae .u64 O8 fun O5=>Ac Pn<|Sr fu call a0 a1 (fu) O5):=by cases nn with|zero=>exact absurd U7 (Nat.lt_irrefl 0)|succ nn=>kernel_rfl
theorem Zo (fu:Nat)(call:Ah)(a0 a1:Int)(nn:Nat)(U7:0<nn)(y0:Int):Sr fu call a0 a1 nn y0=(some (A5.mk [.sc (.int .u64 y0)] [])):=by cases nn with|zero=>exact absurd U7 (Nat.lt_irrefl 0)|succ nn=>kernel_rfl
theorem HR {xs:FuncId->Option (List PV->Option A5)} (fu d:Nat)(a0 a1:Int):Ad (CX xs) prog fu (d+1) Nt [.sc (.int .u64 a0),.sc (.int .i64 a1)]=(fun (call:Ah)=>F6 fu call a0 a1 (fu) (a0) (a1) 0 ([.sc (.int .u64 0),.sc (.int .u64 0),.sc (.int .u64 0),.sc (.int .u64 0),.sc (.int .u64 0),.sc (.int .u64 0),.sc (.int .u64 0),.sc (.int .u64 0),.sc (.int .u64 0),.sc (.int .u64 0),.sc (.int .u64 0),.sc (.int .u64 0),.sc (.int .u64 0),.sc (.int .u64 0),.sc (.int .u64 0),.sc (.int .u64 0),.sc (.int .u64 0),.sc (.int .u64 0)])) (Ad (CX xs) prog fu d):=by kernel_rfl
abbrev Rm:FuncId:=24
noncomputable def Kr (fu:Nat)(call:Ah)(a0 a1 a2:Int)(nn:Nat)(y0 y1:Int)(y2 y3:Int)(y4 y5:Int)(y6 y7:Int)(y8 y9:Int)(y10 G5:Int)(Hq J0:Int)(O7 M5:Int)(Vd Wz:Int)(LG Zt To:Int)(Sn:List PV):Option A5:=Du CB prog fu call 24 Tryd.f24 (Ca Tryd.f24) [.sc (.int .u64 a0),.sc (.int .i64 a1),.sc (.int .u64 a2)] [.r,.r,.l,.r,.l] nn ⟨lk [(0,(.sc (.int .u64 y0))),(1,(.sc (.int .i64 y1))),(7,(.ptr 7 0)),(11,(.agg [(.sc (.int .i64 y2)),(.sc (.int .i64 y3)),(.sc (.int .i64 y4)),(.sc (.int .i64 y5)),(.sc (.int .i64 y6)),(.sc (.int .i64 y7)),(.sc (.int .i64 y8)),(.sc (.int .i64 y9)),(.sc (.int .i64 y10)),(.sc (.int .i64 G5)),(.sc (.int .i64 Hq)),(.sc (.int .i64 J0)),(.sc (.int .i64 O7)),(.sc (.int .i64 M5)),(.sc (.int .i64 Vd)),(.sc (.int .i64 Wz)),(.sc (.int .i64 LG)),(.sc (.int .i64 Zt))])),(12,(.sc (.int .i64 To)))],Br [(7,(.ar false Sn))]⟩
theorem Sz (fu:Nat)(call:Ah)(a0 a1 a2:Int)(nn:Nat)(y0 y1:Int)(y2 y3:Int)(y4 y5:Int)(y6 y7:Int)(y8 y9:Int)(y10 G5:Int)(Hq J0:Int)(O7 M5:Int)(Vd Wz:Int)(LG Zt To:Int)(Sn:List PV):Kr fu call a0 a1 a2 (nn+1) y0 y1 y2 y3 y4 y5 y6 y7 y8 y9 y10 G5 Hq J0 O7 M5 Vd Wz LG Zt To Sn=(Bi (decide (To<18)) (Ar (decide (0<=To)&&decide (To<18)&&true)<|Ae .i64 (List.getD [.sc (.int .i64 y2),.sc (.int .i64 y3),.sc (.int .i64 y4),.sc (.int .i64 y5),.sc (.int .i64 y6),.sc (.int .i64 y7),.sc (.int .i64 y8),.sc (.int .i64 y9),.sc (.int .i64 y10),.sc (.int .i64 G5),.sc (.int .i64 Hq),.sc (.int .i64 J0),.sc (.int .i64 O7),.sc (.int .i64 M5),.sc (.int .i64 Vd),.sc (.int .i64 Wz),.sc (.int .i64 LG),.sc (.int .i64 Zt)] (Int.toNat To*1) .top) fun AF=>Ai (call 46 [.sc (.int .u64 y0),.sc (.int .i64 y1),.sc (.int .i64 To)]) fun CU FF=>Ac FF<|Ab CU fun DM AA=>Ae .u64 DM fun Y9=>Ac AA<|Ai (call 45 [.sc (.int .i64 y1),.sc (.int .i64 To),.sc (.int .i64 0),.sc (.int .i64 AF),.sc (.int .u64 Y9)]) fun Xd EH=>Ac EH<|Ab Xd fun GU DN=>Ae .u64 GU fun FH=>Ac DN<|Ar (decide (0<=To)&&decide (To<18))<|Ar (decide (0+Int.toNat To*1+1<=Sn.length))<|Aa (Bn Sn [.sc (.int .u64 FH)] (0+Int.toNat To*1)) fun DJ=>Aa (wrap .i64 (To+1)) fun FS=>Kr fu call a0 a1 a2 (nn) (y0) (y1) (y2) (y3) (y4) (y5) (y6) (y7) (y8) (y9) (y10) (G5) (Hq) (J0) (O7) (M5) (Vd) (Wz) (LG) (Zt) FS DJ) (Ar (decide (18<=Sn.length))<|Ar (decide (18<=Sn.length))<|some (A5.mk [.own 1 18 (List.take 18 Sn)] []))):=by kernel_rfl
theorem OX {xs:FuncId->Option (List PV->Option A5)} (fu d:Nat)(a0 a1 a2:Int):Ad (CX xs) prog fu (d+1) Rm [.sc (.int .u64 a0),.sc (.int .i64 a1),.sc (.int .u64 a2)]=(fun (call:Ah)=>Ai (call 44 [.sc (.int .u64 a2)]) fun x1 x2=>Ac x2<|Ab x1 fun x3 x4=>Fm x3 fun x5=>Ab x5 fun x6 x7=>Ae .i64 x6 fun x8=>Ab x7 fun x9 C6=>Ae .i64 x9 fun Dr=>Ab C6 fun Eg Ez=>Ae .i64 Eg fun D7=>Ab Ez fun Ew Fw=>Ae .i64 Ew fun Gm=>Ab Fw fun G4 Gi=>Ae .i64 G4 fun Gy=>Ab Gi fun Jk Ia=>Ae .i64 Jk fun Je=>Ab Ia fun Fn Eu=>Ae .i64 Fn fun Hv=>Ab Eu fun J8 G3=>Ae .i64 J8 fun O6=>Ab G3 fun M7 Kw=>Ae .i64 M7 fun Mz=>Ab Kw fun O8 Pn=>Ae .i64 O8 fun O5=>Ab Pn fun Ry Vb=>Ae .i64 Ry fun Ic=>Ab Vb fun Ln S4=>Ae .i64 Ln fun Xb=>Ab S4 fun R9 Ye=>Ae .i64 R9 fun Za=>Ab Ye fun X6 Xc=>Ae .i64 X6 fun Yd=>Ab Xc fun Yq Yu=>Ae .i64 Yq fun BD=>Ab Yu fun Zz Zg=>Ae .i64 Zz fun BX=>Ab Zg fun EJ DK=>Ae .i64 EJ fun CJ=>Ab DK fun CI Z3=>Ae .i64 CI fun GV=>Ac Z3<|Ac x4<|Kr fu call a0 a1 a2 (fu) (a0) (a1) x8 Dr D7 Gm Gy Je Hv O6 Mz O5 Ic Xb Za Yd BD BX CJ GV 0 ([.sc (.int .u64 0),.sc (.int .u64 0),.sc (.int .u64 0),.sc (.int .u64 0),.sc (.int .u64 0),.sc (.int .u64 0),.sc (.int .u64 0),.sc (.int .u64 0),.sc (.int .u64 0),.sc (.int .u64 0),.sc (.int .u64 0),.sc (.int .u64 0),.sc (.int .u64 0),.sc (.int .u64 0),.sc (.int .u64 0),.sc (.int .u64 0),.sc (.int .u64 0),.sc (.int .u64 0)])) (Ad (CX xs) prog fu d):=by kernel_rfl
abbrev Mi:FuncId:=22
theorem OH {xs:FuncId->Option (List PV->Option A5)} (fu d:Nat)(a0:Int):Ad (CX xs) prog fu (d+1) Mi [.sc (.int .i64 a0)]=(fun (call:Ah)=>Bi (decide (a0<0)) (some (A5.mk [.sc (.bool true)] [])) (some (A5.mk [.sc (.bool (decide (a0>4)))] []))) (Ad (CX xs) prog fu d):=by kernel_rfl
abbrev Jh:FuncId:=23
theorem FB {xs:FuncId->Option (List PV->Option A5)} (fu d:Nat)(a0 a1:Int):Ad (CX xs) prog fu (d+1) Jh [.sc (.int .i64 a0),.sc (.int .i64 a1)]=(fun (call:Ah)=>Bi (decide (a0<0)) (some (A5.mk [.sc (.bool true)] [])) (Ar (decide (0<=a1))<|Aa (Jj .i64 1 a1) fun x1=>some (A5.mk [.sc (.bool (decide (a0>=x1)))] []))) (Ad (CX xs) prog fu d):=by kernel_rfl
abbrev Wq:FuncId:=60
noncomputable def H8 (fu:Nat)(call:Ah)(Bd:Nat)(a0:List PV)(nn y0:Nat)(y1:List PV)(y2:Nat)(y3 y4:Int)(y5:List PV):Option A5:=Du CB prog fu call 60 Tryd.f60 (Ca Tryd.f60) [.lst false 1 Bd a0] [.r,.r,.l,.r,.l] nn ⟨lk [(0,(.lst false 1 y0 y1)),(3,(.view 3 1 0 y2)),(12,(.sc (.int .i64 y3))),(13,(.sc (.int .i64 y4)))],Br [(3,(.ar false y5))]⟩
noncomputable def J4 (fu:Nat)(call:Ah)(Bd:Nat)(a0:List PV)(m0 nn y0:Nat)(y1:List PV)(y2:Nat)(y3 y4 y5:Int)(y6:Nat)(y7:List PV)(y8 y9:Int)(y10:List PV):Option A5:=Du CB prog fu call 60 Tryd.f60 (Ca Tryd.f60) [.lst false 1 Bd a0] [.r,.r,.l,.r,.l,.i m0,.r,.r,.l,.l,.r,.r,.l] nn ⟨lk [(0,(.lst false 1 y0 y1)),(3,(.view 3 1 0 y2)),(4,(.sc (.int .i64 y3))),(12,(.sc (.int .i64 y4))),(13,(.sc (.int .i64 y5))),(22,(.lst false 1 y6 y7)),(23,(.sc (.int .i64 y8))),(24,(.sc (.int .i64 y9)))],Br [(3,(.ar false y10))]⟩
theorem Rw (fu:Nat)(call:Ah)(Bd:Nat)(a0:List PV)(nn y0:Nat)(y1:List PV)(y2:Nat)(y3 y4:Int)(y5:List PV):H8 fu call Bd a0 (nn+1) y0 y1 y2 y3 y4 y5=(Bi (decide (y4<y3)) (Aa (wrap .i64 (8*y4)) fun x2=>Aa (wrap .i64 (8*y4)) fun x3=>Aa (wrap .i64 (x3+8)) fun x4=>Ar (decide (0<=x2))<|Ar (decide (0<=x4))<|Ar (decide (Int.toNat x2<=Int.toNat x4)&&decide (Int.toNat x4<=y0))<|Aa (Int.toNat x4-Int.toNat x2) fun x5=>Aa (List.take (x5*1) (List.drop (Int.toNat x2*1) y1)) fun x6=>J4 fu call Bd a0 nn (fu) (y0) (y1) (y2) (y4) (y3) (y4) x5 x6 ((↑x5:Int)) 0 (y5)) (Ar (decide (y2*1<=y5.length))<|some (A5.mk [.own 1 y2 (List.take (y2*1) y5)] []))):=by kernel_rfl
theorem Rc (fu:Nat)(call:Ah)(Bd:Nat)(a0:List PV)(m0 nn y0:Nat)(y1:List PV)(y2:Nat)(y3 y4 y5:Int)(y6:Nat)(y7:List PV)(y8 y9:Int)(y10:List PV):J4 fu call Bd a0 m0 (nn+1) y0 y1 y2 y3 y4 y5 y6 y7 y8 y9 y10=(Bi (decide (y9<y8)) (Ar (decide (0<=y9)&&decide (y9<(↑y6:Int)))<|Ae .u8 (List.getD y7 (Int.toNat y9*1) .top) fun x7=>Ar (decide (0<=y3)&&decide (y3<(↑y2:Int)))<|Ae .u64 (List.getD y10 (0+Int.toNat y3*1) .top) fun x8=>Aa (Jj .u64 x8 8) fun x9=>Aa (wrap .u64 x7) fun C6=>Aa (UF .u64 x9 C6) fun Dr=>Ar (decide (0<=y3)&&decide (y3<(↑y2:Int)))<|Ar (decide (0+Int.toNat y3*1+1<=y10.length))<|Aa (Bn y10 [.sc (.int .u64 Dr)] (0+Int.toNat y3*1)) fun Eg=>Aa (wrap .i64 (y9+1)) fun Ez=>J4 fu call Bd a0 m0 (nn) (y0) (y1) (y2) (y3) (y4) (y5) (y6) (y7) (y8) Ez Eg) (Aa (wrap .i64 (y5+1)) fun D7=>H8 fu call Bd a0 (m0) (y0) (y1) (y2) (y4) D7 (y10))):=by kernel_rfl
theorem LP {xs:FuncId->Option (List PV->Option A5)} (fu d Bd:Nat)(a0:List PV):Ad (CX xs) prog fu (d+1) Wq [.lst false 1 Bd a0]=(fun (call:Ah)=>Aa (wrap .i64 (Int.tdiv (↑Bd:Int) 8)) fun x1=>Ar (decide (0<=x1)&&decide (x1<=x1)&&decide (x1*8<=1099511627776)&&decide (x1<=1099511627776))<|H8 fu call Bd a0 (fu) (Bd) (a0) x1.toNat ((↑x1.toNat:Int)) 0 (Up x1.toNat [.sc (.int .u64 0)])) (Ad (CX xs) prog fu d):=by kernel_rfl
abbrev N5:FuncId:=49
theorem HP {xs:FuncId->Option (List PV->Option A5)} (fu d:Nat)(a0 a1 a2:Int):Ad (CX xs) prog fu (d+1) N5 [.sc (.int .i64 a0),.sc (.int .u64 a1),.sc (.int .u64 a2)]=(fun (call:Ah)=>Aa (wrap .u64 a0) fun x1=>Ai (call 32 [.lst false 1 3 [.sc (.int .u64 x1),.sc (.int .u64 a1),.sc (.int .u64 a2)]]) fun x2 x3=>Ac x3<|Ab x2 fun x4 x5=>Gl 1 x4 fun x6 x7=>Ac x5<|Ar (decide (0+x6*1<=x7.length))<|Ai (call 21 [.sc (.int .i64 3),.lst false 1 x6 (List.take (x6*1) (List.drop 0 x7))]) fun x8 x9=>Ac x9<|Ab x8 fun C6 Dr=>Ae .u64 C6 fun Eg=>Ac Dr<|some (A5.mk [.sc (.int .u64 Eg)] [])) (Ad (CX xs) prog fu d):=by kernel_rfl
abbrev Px:FuncId:=72
theorem Zy {xs:FuncId->Option (List PV->Option A5)} (fu d:Nat)(Aj Ao:Int):Ad (CX xs) prog fu (d+1) Px [.agg [.sc (.int .i64 Aj),.sc (.int .u64 Ao)]]=(fun (call:Ah)=>Ai (call 22 [.sc (.int .i64 Aj)]) fun x1 x2=>Ac x2<|Ab x1 fun x3 x4=>Bu x3 fun x5=>Ac x4<|Bi x5 (some (A5.mk [.own 1 0 [],.sc (.int .i64 9)] [])) (Aa (wrap .u8 Aj) fun x6=>Ai (call 32 [.lst false 1 1 [.sc (.int .u64 Ao)]]) fun x7 x8=>Ac x8<|Ab x7 fun x9 C6=>Gl 1 x9 fun Dr Eg=>Ac C6<|Ar (decide (0+Dr*1<=Eg.length))<|Ar (decide (List.length (List.take (Dr*1) (List.drop 0 Eg))=Dr*1)&&decide ((1+Dr)*1<=1099511627776)&&decide (1+Dr<=1099511627776))<|Aa (1+Dr) fun Ez=>Aa ([.sc (.int .u8 x6)]++List.take (Dr*1) (List.drop 0 Eg)) fun D7=>Ar (decide (Ez*1<=D7.length))<|some (A5.mk [.own 1 Ez (List.take (Ez*1) D7),.sc (.int .i64 0)] []))) (Ad (CX xs) prog fu d):=by kernel_rfl
abbrev Pg:FuncId:=81
theorem Zw {xs:FuncId->Option (List PV->Option A5)} (fu d Bd:Nat)(a0:List PV):Ad (CX xs) prog fu (d+1) Pg [.lst false 1 Bd a0]=(fun (call:Ah)=>Bi ((↑Bd:Int) != 9) (some (A5.mk [.agg [.sc (.int .i64 0),.sc (.int .u64 0)],.sc (.int .i64 2)] [])) (Ar (decide (0<(↑Bd:Int)))<|Ae .u8 (List.getD a0 0 .top) fun x1=>Aa (wrap .i64 x1) fun x2=>Ai (call 22 [.sc (.int .i64 x2)]) fun x3 x4=>Ac x4<|Ab x3 fun x5 x6=>Bu x5 fun x7=>Ac x6<|Bi x7 (some (A5.mk [.agg [.sc (.int .i64 0),.sc (.int .u64 0)],.sc (.int .i64 2)] [])) (Ar (decide (0<(↑Bd:Int)))<|Ae .u8 (List.getD a0 0 .top) fun x8=>Aa (wrap .i64 x8) fun x9=>Ar (decide (1<=Bd)&&decide (Bd<=Bd))<|Aa (Bd-1) fun C6=>Aa (List.take (C6*1) (List.drop 1 a0)) fun Dr=>Ai (call 60 [.lst false 1 C6 Dr]) fun Eg Ez=>Ac Ez<|Ab Eg fun D7 Ew=>Gl 1 D7 fun Fw Gm=>Ac Ew<|Ar (decide (0<(↑Fw:Int)))<|Ae .u64 (List.getD Gm 0 .top) fun G4=>some (A5.mk [.agg [.sc (.int .i64 x9),.sc (.int .u64 G4)],.sc (.int .i64 0)] [])))) (Ad (CX xs) prog fu d):=by kernel_rfl
abbrev Kc:FuncId:=14
theorem R0 {xs:FuncId->Option (List PV->Option A5)} (fu d:Nat)(Aj:Int)(Cc:Nat)(Ao:List PV)(Bm:Nat)(Bc:List PV):Ad (CX xs) prog fu (d+1) Kc [.agg [.sc (.int .i64 Aj),.lst false 1 Cc Ao,.lst false 1 Bm Bc]]=(fun (call:Ah)=>Ai (call 22 [.sc (.int .i64 (↑Bm:Int))]) fun x1 x2=>Ac x2<|Ab x1 fun x3 x4=>Bu x3 fun x5=>Ac x4<|Bi x5 (some (A5.mk [.own 1 0 [],.sc (.int .i64 9)] [])) (Ai (call 23 [.sc (.int .i64 Aj),.sc (.int .i64 (↑Bm:Int))]) fun x6 x7=>Ac x7<|Ab x6 fun x8 x9=>Bu x8 fun C6=>Ac x9<|Bi C6 (some (A5.mk [.own 1 0 [],.sc (.int .i64 9)] [])) (Bi ((↑Cc:Int) != 18) (some (A5.mk [.own 1 0 [],.sc (.int .i64 4)] [])) (Aa (wrap .u8 Aj) fun Dr=>Aa (wrap .u8 (↑Bm:Int)) fun Eg=>Ai (call 32 [.lst false 1 Cc Ao]) fun Ez D7=>Ac D7<|Ab Ez fun Ew Fw=>Gl 1 Ew fun Gm G4=>Ac Fw<|Ar (decide (0+Gm*1<=G4.length))<|Ar (decide (List.length (List.take (Gm*1) (List.drop 0 G4))=Gm*1)&&decide ((2+Gm)*1<=1099511627776)&&decide (2+Gm<=1099511627776))<|Aa (2+Gm) fun Gi=>Aa ([.sc (.int .u8 Dr),.sc (.int .u8 Eg)]++List.take (Gm*1) (List.drop 0 G4)) fun Gy=>Ai (call 32 [.lst false 1 Bm Bc]) fun Jk Ia=>Ac Ia<|Ab Jk fun Je Fn=>Gl 1 Je fun Eu Hv=>Ac Fn<|Ar (decide (0+Eu*1<=Hv.length))<|Ar (decide (Gi*1<=Gy.length)&&decide (List.length (List.take (Eu*1) (List.drop 0 Hv))=Eu*1)&&decide ((Gi+Eu)*1<=1099511627776)&&decide (Gi+Eu<=1099511627776))<|Aa (Gi+Eu) fun J8=>Aa (List.take (Gi*1) Gy++List.take (Eu*1) (List.drop 0 Hv)) fun G3=>Ar (decide (J8*1<=G3.length))<|some (A5.mk [.own 1 J8 (List.take (J8*1) G3),.sc (.int .i64 0)] []))))) (Ad (CX xs) prog fu d):=by kernel_rfl
abbrev Kd:FuncId:=35
theorem R4 {xs:FuncId->Option (List PV->Option A5)} (fu d Bd:Nat)(a0:List PV):Ad (CX xs) prog fu (d+1) Kd [.lst false 1 Bd a0]=(fun (call:Ah)=>Bi (decide ((↑Bd:Int)<2)) (some (A5.mk [.agg [.sc (.int .i64 0),.own 1 0 [],.own 1 0 []],.sc (.int .i64 2)] [])) (Ar (decide (0<(↑Bd:Int)))<|Ae .u8 (List.getD a0 0 .top) fun x1=>Aa (wrap .i64 x1) fun x2=>Ar (decide (1<(↑Bd:Int)))<|Ae .u8 (List.getD a0 1 .top) fun x3=>Aa (wrap .i64 x3) fun x4=>Ai (call 22 [.sc (.int .i64 x4)]) fun x5 x6=>Ac x6<|Ab x5 fun x7 x8=>Bu x7 fun x9=>Ac x8<|Bi x9 (some (A5.mk [.agg [.sc (.int .i64 0),.own 1 0 [],.own 1 0 []],.sc (.int .i64 2)] [])) (Ai (call 23 [.sc (.int .i64 x2),.sc (.int .i64 x4)]) fun C6 Dr=>Ac Dr<|Ab C6 fun Eg Ez=>Bu Eg fun D7=>Ac Ez<|Bi D7 (some (A5.mk [.agg [.sc (.int .i64 0),.own 1 0 [],.own 1 0 []],.sc (.int .i64 2)] [])) (Aa (wrap .i64 (18+x4)) fun Ew=>Aa (wrap .i64 (8*Ew)) fun Fw=>Aa (wrap .i64 (2+Fw)) fun Gm=>Bi ((↑Bd:Int) != Gm) (some (A5.mk [.agg [.sc (.int .i64 0),.own 1 0 [],.own 1 0 []],.sc (.int .i64 2)] [])) (Ar (decide (146<=Bd))<|Aa (List.take 144 (List.drop 2 a0)) fun G4=>Ai (call 60 [.lst false 1 144 G4]) fun Gi Gy=>Ac Gy<|Ab Gi fun Jk Ia=>Gl 1 Jk fun Je Fn=>Ac Ia<|Ar (decide (146<=Bd)&&decide (Bd<=Bd))<|Aa (Bd-146) fun Eu=>Aa (List.take (Eu*1) (List.drop 146 a0)) fun Hv=>Ai (call 60 [.lst false 1 Eu Hv]) fun J8 G3=>Ac G3<|Ab J8 fun O6 M7=>Gl 1 O6 fun Kw Mz=>Ac M7<|Ar (decide (Je*1<=Fn.length))<|Ar (decide (Kw*1<=Mz.length))<|some (A5.mk [.agg [.sc (.int .i64 x2),.own 1 Je (List.take (Je*1) Fn),.own 1 Kw (List.take (Kw*1) Mz)],.sc (.int .i64 0)] [])))))) (Ad (CX xs) prog fu d):=by kernel_rfl
abbrev Ux:FuncId:=37
noncomputable def Hh (fu:Nat)(call:Ah)(Aj Ao:Int)(a1 EV:Int)(X5:Nat)(HB:List PV)(Wl:Nat)(TU:List PV)(nn:Nat)(y0:Int)(y1:Nat)(y2:List PV)(y3 y4:Int)(y5 y6 y7:Int)(y8:Nat)(y9:List PV)(y10:Nat)(G5:List PV):Option A5:=Du CB prog fu call 37 Tryd.f37 (Ca Tryd.f37) [.agg [.sc (.int .i64 Aj),.sc (.int .u64 Ao)],.sc (.int .u64 a1),.agg [.sc (.int .i64 EV),.lst false 1 X5 HB,.lst false 1 Wl TU]] [.r,.r,.r,.r,.r,.l,.r,.l] nn ⟨lk [(3,(.ptr 3 0)),(5,(.ptr 5 0)),(7,(.sc (.int .u64 y0))),(46,(.lst false 1 y1 y2)),(47,(.sc (.int .i64 y3))),(48,(.sc (.int .i64 y4)))],Br [(3,(.st [(.sc (.int .i64 y5)),(.sc (.int .u64 y6))])),(5,(.st [(.sc (.int .i64 y7)),(.lst false 1 y8 y9),(.lst false 1 y10 G5)]))]⟩
theorem Pp (fu:Nat)(call:Ah)(Aj Ao:Int)(a1 EV:Int)(X5:Nat)(HB:List PV)(Wl:Nat)(TU:List PV)(nn:Nat)(y0:Int)(y1:Nat)(y2:List PV)(y3 y4:Int)(y5 y6 y7:Int)(y8:Nat)(y9:List PV)(y10:Nat)(G5:List PV):Hh fu call Aj Ao a1 EV X5 HB Wl TU (nn+1) y0 y1 y2 y3 y4 y5 y6 y7 y8 y9 y10 G5=(Bi (decide (y4<y3)) (Ar (decide (0<=y4)&&decide (y4<(↑y1:Int)))<|Ae .u64 (List.getD y2 (Int.toNat y4*1) .top) fun Gi=>Ar (decide (0<=y4))<|Aa (Ik .i64 y7 y4) fun Gy=>Aa (W7 .i64 Gy 1) fun Jk=>Bi (Jk==0) (Aa (wrap .i64 (y4+1)) fun Ia=>Ai (call 49 [.sc (.int .i64 Ia),.sc (.int .u64 y0),.sc (.int .u64 Gi)]) fun Je Fn=>Ac Fn<|Ab Je fun Eu Hv=>Ae .u64 Eu fun J8=>Ac Hv<|Aa (wrap .i64 (y4+1)) fun G3=>Hh fu call Aj Ao a1 EV X5 HB Wl TU (nn) J8 (y1) (y2) (y3) G3 (y5) (y6) (y7) (y8) (y9) (y10) (G5)) (Aa (wrap .i64 (y4+1)) fun O6=>Ai (call 49 [.sc (.int .i64 O6),.sc (.int .u64 Gi),.sc (.int .u64 y0)]) fun M7 Kw=>Ac Kw<|Ab M7 fun Mz O8=>Ae .u64 Mz fun Pn=>Ac O8<|Aa (wrap .i64 (y4+1)) fun O5=>Hh fu call Aj Ao a1 EV X5 HB Wl TU (nn) Pn (y1) (y2) (y3) O5 (y5) (y6) (y7) (y8) (y9) (y10) (G5))) (Bi (y0 != y6) (some (A5.mk [.sc (.int .i64 15)] [])) (some (A5.mk [.sc (.int .i64 0)] [])))):=by kernel_rfl
theorem HY {xs:FuncId->Option (List PV->Option A5)} (fu d:Nat)(Aj Ao:Int)(a1 EV:Int)(X5:Nat)(HB:List PV)(Wl:Nat)(TU:List PV):Ad (CX xs) prog fu (d+1) Ux [.agg [.sc (.int .i64 Aj),.sc (.int .u64 Ao)],.sc (.int .u64 a1),.agg [.sc (.int .i64 EV),.lst false 1 X5 HB,.lst false 1 Wl TU]]=(fun (call:Ah)=>Ai (call 22 [.sc (.int .i64 Aj)]) fun x1 x2=>Ac x2<|Ab x1 fun x3 x4=>Bu x3 fun x5=>Ac x4<|Bi x5 (some (A5.mk [.sc (.int .i64 9)] [])) (Ai (call 23 [.sc (.int .i64 EV),.sc (.int .i64 Aj)]) fun x6 x7=>Ac x7<|Ab x6 fun x8 x9=>Bu x8 fun C6=>Ac x9<|Bi C6 (some (A5.mk [.sc (.int .i64 9)] [])) (Bi ((↑X5:Int) != 18) (some (A5.mk [.sc (.int .i64 4)] [])) (Bi ((↑Wl:Int) != Aj) (some (A5.mk [.sc (.int .i64 4)] [])) (Ai (call 61 [.sc (.int .i64 EV),.sc (.int .u64 a1),.lst false 1 X5 HB]) fun Dr Eg=>Ac Eg<|Ab Dr fun Ez D7=>Ae .u64 Ez fun Ew=>Ab D7 fun Fw Gm=>Ae .i64 Fw fun G4=>Ac Gm<|Bi (G4 != 0) (some (A5.mk [.sc (.int .i64 G4)] [])) (Hh fu call Aj Ao a1 EV X5 HB Wl TU (fu) Ew (Wl) (TU) ((↑Wl:Int)) 0 (Aj) (Ao) (EV) (X5) (HB) (Wl) (TU))))))) (Ad (CX xs) prog fu d):=by kernel_rfl
end
section
open Go.IntKind (wrap)
theorem Azw {a m:Int}(h0:0<=m)(h1:m<=18446744073709551615):0<=W7 .u64 a m∧W7 .u64 a m<=m:=by
 have Xa:(BitVec.ofInt 64 a &&& BitVec.ofInt 64 m).toNat<=m.toNat:=by
  rw[BitVec.toNat_and];refine Nat.le_trans Nat.and_le_right ?_;rw[BitVec.toNat_ofInt];omega
 have:W7 .u64 a m=((BitVec.ofInt 64 a &&& BitVec.ofInt 64 m).toNat:Int):=by
  unfold W7;exact Ea (by omega) (by show ((BitVec.ofInt 64 a &&& BitVec.ofInt 64 m).toNat:Int)<=_;omega)
 rw[this];omega
theorem Lz (k:IntKind)(l:List Int)(i:Nat)(x:Int):(Af k l).set i (.sc (.int k x))=Af k (l.set i x):=by
 induction l generalizing i with
 |nil=>rfl
 |cons a l ih=>
  cases i with
  |zero=>rfl
  |succ i=>
   show (PV.sc (.int k a)::Af k l).set (i+1) _=PV.sc (.int k a)::Af k (l.set i x);rw[List.set_cons_succ,ih]
theorem Abe (w:Int)(k:Nat):0<=Dv w k∧Dv w k<=255:=by
 unfold Dv;simp only[wrap,IntKind.signed,IntKind.bits];simp;omega
theorem Ah2 (w:Int):Kg (Hz w):=by
 intro x hx;obtain⟨k,_,rfl⟩:=List.mem_map.1 hx;exact Abe w k
theorem Ut (ws:List Int):Kg (A7 ws):=by
 intro x hx;obtain⟨w,_,hx⟩:=List.mem_flatMap.1 hx;exact Ah2 w x hx
theorem Dz (ws:List Int):(A7 ws).length=8*ws.length:=by
 induction ws with
 |nil=>rfl
 |cons w ws ih=>
  show (Hz w++A7 ws).length=_;rw[Kb,ih,I0,Io];omega
def Ls (m:Int)(k:Nat):Int:=wrap .i64 (W7 .u64 (Ik .u64 m (60-4*(k:Int))) 15)
theorem Xs (m:Int)(k:Nat):0<=Ls m k∧Ls m k<=15:=by
 have:=Azw (a:=Ik .u64 m (60-4*(k:Int))) (m:=15) (by omega) (by omega)
 unfold Ls;rw[Ak (by omega) (by omega)]
 exact this
def R3 (m:Int):Nat->Int
 |0=>0
 |k+1=>R3 m k+(15-Ls m k)
theorem R5 (m:Int):∀k,0<=R3 m k∧R3 m k<=15*k
 |0=>by simp[R3]
 |k+1=>by
  have h1:=R5 m k;have h2:=Xs m k;simp only[R3];omega
def dgs (m:Int):List Int:=(List.range 16).map (Ls m)++[R3 m 16 / 16,R3 m 16 % 16]
def dg (m:Int)(k:Nat):Int:=(dgs m).getD k 0
theorem Atz {m x:Int}(h:x∈dgs m):0<=x∧x<=15:=by
 have hs:=R5 m 16;unfold dgs at h;rcases List.mem_append.1 h with h|h
 ·obtain⟨k,_,rfl⟩:=List.mem_map.1 h;exact Xs m k
 ·simp at h;rcases h with rfl|rfl<;>omega
theorem IA (m:Int)(k:Nat):0<=dg m k∧dg m k<=15:=by
 unfold dg;rw[List.getD_eq_getElem?_getD];cases h:(dgs m)[k]? with
 |none=>simp
 |some x=>exact Atz (List.mem_of_getElem? h)
def dl (m:Int)(i:Nat):List Int:=(List.range i).map (Ls m)++List.replicate (18-i) 0
theorem Aet (m:Int){i:Nat}(h:i<=18):(dl m i).length=18:=by simp[dl];omega
theorem A3n (m:Int){i:Nat}(h:i<18):(dl m (i+1))[i]?=some (Ls m i):=by
 unfold dl;rw[List.getElem?_append_left (by simp)]
 simp
theorem Ay7 (m:Int){i:Nat}(h:i<18):(dl m i).set i (Ls m i)=dl m (i+1):=by
 unfold dl;rw[List.set_append_right _ _ (by simp),List.length_map,List.length_range,Nat.sub_self,show 18-i=(18-(i+1))+1 by omega,List.replicate_succ,List.set_cons_zero,List.range_succ,List.map_append,XX]
 rfl
def Tj (leaf chain:Int):Nat->Int->Int->Int
 |0,_,x=>x
 |k+1,p,x=>Tj leaf chain k (p+1) (Q0 1 (A7 [wrap .u64 leaf,wrap .u64 chain,wrap .u64 p,x]))
theorem Abr (leaf chain:Int):∀(k j:Nat)(p x:Int),Tj leaf chain (k+j) p x=Tj leaf chain j (p+k) (Tj leaf chain k p x)
 |0,j,p,x=>by simp[Tj]
 |k+1,j,p,x=>by
  rw[show k+1+j=(k+j)+1 by omega]
  simp only[Tj];rw[Abr leaf chain k j]
  congr 1
  omega
def AE (leaf:Int)(E:List Int):Int:=Q0 2 (A7 (wrap .u64 leaf::E))
def Afx (leaf m:Int)(s:List Int)(k:Nat):Int:=Tj leaf k (15-dg m k).toNat (dg m k) (s.getD k 0)
def NZ (leaf m:Int)(s:List Int):List Int:=(List.range 18).map (Afx leaf m s)
def Ajg (leaf m:Int)(s:List Int):Int:=AE leaf (NZ leaf m s)
def el (leaf m:Int)(s:List Int)(i:Nat):List Int:=(List.range i).map (Afx leaf m s)++List.replicate (18-i) 0
theorem Anp (leaf m:Int)(s:List Int){i:Nat}(h:i<=18):(el leaf m s i).length=18:=by simp[el];omega
theorem Ay2 (leaf m:Int)(s:List Int){i:Nat}(h:i<18):(el leaf m s i).set i (Afx leaf m s i)=el leaf m s (i+1):=by
 unfold el;rw[List.set_append_right _ _ (by simp),List.length_map,List.length_range,Nat.sub_self,show 18-i=(18-(i+1))+1 by omega,List.replicate_succ,List.set_cons_zero,List.range_succ,List.map_append,XX]
 rfl
theorem A2l (leaf m:Int)(s:List Int):el leaf m s 18=NZ leaf m s:=by
 unfold el NZ;simp
end
section
open Go.Proofs.Tryd (prog)
open Go.IntKind (wrap)
set_option maxRecDepth 20000
section
variable {fu d:Nat} {xs:FuncId->Option (List PV->Option A5)}
theorem Aox {ws:List Int}(hl:ws.length<=100)(Cb:1000<=fu)(dom:Int):Ad (CX xs) prog fu (d+5) Tg [.sc (.int .i64 dom),.lst false 1 (A7 ws).length (Af .u8 (A7 ws))]=some ⟨[.sc (.int .u64 (Q0 dom (A7 ws)))],[]⟩:=
 Ahm (Ut ws) (by rw[Dz];omega) (by omega) (by rw[Dz];omega) dom
theorem Acl {leaf chain:Int}{a0 a1 a2 a3 a4:Int}(Cb:1000<=fu){t:Int}(ht:t<=15):∀(k nn:Nat)(p x:Int),(k:Int)=t-p->0<=p->k<nn ->
  Mu fu (Ad (CX xs) prog fu (d+5)) a0 a1 a2 a3 a4 nn leaf chain x t p=some ⟨[.sc (.int .u64 (Tj leaf chain k p x))],[]⟩
 |_,0,_,_,_,_,h=>by omega
 |0,nn+1,p,x,hk,hp,hn=>by
  rw[Ud,Fi _ _ _ (by omega)]
  rfl
 |k+1,nn+1,p,x,hk,hp,hn=>by
  have w:wrap .i64 (p+1)=p+1:=Ak (by omega) (by omega)
  have wd:Ad (CX xs) prog fu (d+5) Gr [.lst false 1 4 [.sc (.int .u64 (wrap .u64 leaf)),.sc (.int .u64 (wrap .u64 chain)),.sc (.int .u64 (wrap .u64 p)),.sc (.int .u64 x)]]=_:=Q3 (ws:=[wrap .u64 leaf,wrap .u64 chain,wrap .u64 p,x]) (by simp) (by omega) (by simp;omega)
  have hs:=Aox (xs:=xs) (fu:=fu) (d:=d) (ws:=[wrap .u64 leaf,wrap .u64 chain,wrap .u64 p,x]) (by simp) Cb 1
  have ih:=Acl (leaf:=leaf) (chain:=chain) (a0:=a0) (a1:=a1) (a2:=a2) (a3:=a3) (a4:=a4) Cb ht k nn (p+1) (Q0 1 (A7 [wrap .u64 leaf,wrap .u64 chain,wrap .u64 p,x])) (by omega) (by omega) (by omega)
  have L:=At .u8 (A7 [wrap .u64 leaf,wrap .u64 chain,wrap .u64 p,x]);have eR:Tj leaf chain (k+1) p x=Tj leaf chain k (p+1) (Q0 1 (A7 [wrap .u64 leaf,wrap .u64 chain,wrap .u64 p,x])):=rfl;rw[eR];generalize A7 [wrap .u64 leaf,wrap .u64 chain,wrap .u64 p,x]=W at wd hs ih L ⊢;rw[Ud];simp (disch:=omega) only[Cu,wd,Dp,C8,Fg,Tl,L,hs,w];exact ih
theorem Afi {leaf chain:Int}(Cb:1000<=fu)(k:Nat)(f t x:Int)(hk:(k:Int)=t-f) (h0:0<=f)(h1:t<=15):Ad (CX xs) prog fu (d+6) Z9 [.sc (.int .i64 leaf),.sc (.int .i64 chain),.sc (.int .i64 f),.sc (.int .i64 t),.sc (.int .u64 x)]=some ⟨[.sc (.int .u64 (Tj leaf chain k f x))],[]⟩:=by
 rw[TP];simp only[Js];rw[Bj (by omega),Bj (by omega)]
 exact Acl Cb h1 k fu f x hk h0 (by omega)
theorem IZ {call:Ah}{a0 m:Int}{y3:List PV}:∀(k i nn:Nat),i+k=16->k<nn ->
  Hf fu call a0 nn m (R3 m i) i y3 (Af .i64 (dl m i))=Hf fu call a0 (nn-k) m (R3 m 16) 16 y3 (Af .i64 (dl m 16))
 |_,_,0,_,h=>by omega
 |0,i,nn+1,hi,hn=>by
  have e:i=16:=by omega
  subst e;rfl
 |k+1,i,nn+1,hi,hn=>by
  have ih:=IZ (call:=call) (a0:=a0) (y3:=y3) (m:=m) k (i+1) nn (by omega) (by omega)
  have hb:=Xs m i;have hs:=R5 m i;have w:wrap .i64 ((i:Int)+1)=((i+1:Nat):Int):=by rw[Ak (by omega) (by omega)];omega
  have w4:wrap .i64 (4*(i:Int))=4*(i:Int):=Ak (by omega) (by omega)
  have w60:wrap .i64 (60-4*(i:Int))=60-4*(i:Int):=Ak (by omega) (by omega)
  have hd:wrap .i64 (W7 .u64 (Ik .u64 m (60-4*(i:Int))) 15)=Ls m i:=rfl;have w15:wrap .i64 (15-Ls m i)=15-Ls m i:=Ak (by omega) (by omega)
  have ws:wrap .i64 (R3 m i+(15-Ls m i))=R3 m (i+1):=by rw[Ak (by omega) (by omega)];rfl
  have L:(Af .i64 (dl m i)).length=18:=by rw[At,Aet m (by omega)]
  have Zk:Bn (Af .i64 (dl m i)) [.sc (.int .i64 (Ls m i))] i=Af .i64 (dl m (i+1)):=by
   rw[Gs (by omega),Lz,Ay7 m (by omega)]
  have hat:(Af .i64 (dl m (i+1))).getD i .top=.sc (.int .i64 (Ls m i)):=BI (A3n m (by omega))
  rw[show nn+1-(k+1)=nn-k by omega,←ih,Po]
  simp (disch:=omega) only[Cu,Hs,Dp,C8,w,w4,w60,hd,L,Zk,hat,w15,ws]
theorem XD (Cb:1000<=fu)(m:Int):Ad (CX xs) prog fu (d+1) Ts [.sc (.int .u64 m)]=some ⟨[.agg (Af .i64 (dgs m))],[]⟩:=by
 rw[GZ];have lp:=IZ (fu:=fu) (call:=Ad (CX xs) prog fu d) (a0:=m) (m:=m) (y3:=Af .i64 (List.replicate 18 0)) 16 0 fu (by omega) (by omega)
 obtain⟨f',XW⟩:∃f',fu-16=f'+1:=⟨fu-17,by omega⟩
 rw[XW] at lp;refine Eq.trans lp ?_;have hs:=R5 m 16
 have wq:wrap .i64 (Int.tdiv (R3 m 16) 16)=R3 m 16 / 16:=by
  rw[Int.tdiv_eq_ediv_of_nonneg (by omega),Ak (by omega) (by omega)]
 have wm:Int.tmod (R3 m 16) 16=R3 m 16 % 16:=Int.tmod_eq_emod_of_nonneg (by omega)
 have L:(Af .i64 (dl m 16)).length=18:=by rw[At,Aet m (by omega)]
 have h1:Bn (Af .i64 (dl m 16)) [.sc (.int .i64 (R3 m 16 / 16))] 16=Af .i64 ((dl m 16).set 16 (R3 m 16 / 16)):=by
  rw[Gs (by omega),Lz]
 have L2:(Af .i64 ((dl m 16).set 16 (R3 m 16 / 16))).length=18:=by rw[At,List.length_set,Aet m (by omega)]
 have h2:Bn (Af .i64 ((dl m 16).set 16 (R3 m 16 / 16))) [.sc (.int .i64 (R3 m 16 % 16))] 17=Af .i64 (dgs m):=by
  rw[Gs (by omega),Lz]
  rfl
 rw[Po,Fi _ _ _ (by omega)]
 simp only[Js,wq,wm,L,h1,L2,h2];generalize hq:R3 m 16 / 16=q at *
 generalize hr:R3 m 16 % 16=r at *
 have hD:Af .i64 (dgs m)=[.sc (.int .i64 (Ls m 0)),.sc (.int .i64 (Ls m 1)),.sc (.int .i64 (Ls m 2)),.sc (.int .i64 (Ls m 3)),.sc (.int .i64 (Ls m 4)),.sc (.int .i64 (Ls m 5)),.sc (.int .i64 (Ls m 6)),.sc (.int .i64 (Ls m 7)),.sc (.int .i64 (Ls m 8)),.sc (.int .i64 (Ls m 9)),.sc (.int .i64 (Ls m 10)),.sc (.int .i64 (Ls m 11)),.sc (.int .i64 (Ls m 12)),.sc (.int .i64 (Ls m 13)),.sc (.int .i64 (Ls m 14)),.sc (.int .i64 (Ls m 15)),.sc (.int .i64 q),.sc (.int .i64 r)]:=by
  unfold dgs;rw[hq,hr];rfl
 rw[hD];have A19:(Af .i64 (List.replicate 18 0)).length=18:=rfl
 have hsp:∀c:List PV,c.length=18->Bn (Af .i64 (List.replicate 18 0)) c 0=c:=by
  intro c hc;unfold Bn;rw[hc,List.drop_of_length_le (by rw[A19];omega)]
  simp
 rw[Zi (U7:=by omega)]
 simp only[Cu,List.getD_cons_zero,List.getD_cons_succ,A19];rw[hsp _ rfl];simp (disch:=omega) only[Cu,Zp,List.getD_cons_zero,List.getD_cons_succ]
theorem OV (Cb:1000<=fu)(leaf:Int){E:List Int}(hE:E.length=18):Ad (CX xs) prog fu (d+6) R6 [.sc (.int .i64 leaf),.agg (Af .u64 E)]=some ⟨[.sc (.int .u64 (AE leaf E))],[]⟩:=by
 match E,hE with
 |[e0,e1,e2,e3,e4,e5,e6,e7,e8,e9,e10,e11,e12,e13,e14,e15,e16,e17],_=>
  have wd:Ad (CX xs) prog fu (d+5) Gr [.lst false 1 19 [.sc (.int .u64 (wrap .u64 leaf)),.sc (.int .u64 e0),.sc (.int .u64 e1),.sc (.int .u64 e2),.sc (.int .u64 e3),.sc (.int .u64 e4),.sc (.int .u64 e5),.sc (.int .u64 e6),.sc (.int .u64 e7),.sc (.int .u64 e8),.sc (.int .u64 e9),.sc (.int .u64 e10),.sc (.int .u64 e11),.sc (.int .u64 e12),.sc (.int .u64 e13),.sc (.int .u64 e14),.sc (.int .u64 e15),.sc (.int .u64 e16),.sc (.int .u64 e17)]]=_:=Q3 (ws:=wrap .u64 leaf::[e0,e1,e2,e3,e4,e5,e6,e7,e8,e9,e10,e11,e12,e13,e14,e15,e16,e17]) (by simp) (by omega) (by simp;omega)
  have hs:=Aox (xs:=xs) (fu:=fu) (d:=d) (ws:=wrap .u64 leaf::[e0,e1,e2,e3,e4,e5,e6,e7,e8,e9,e10,e11,e12,e13,e14,e15,e16,e17]) (by simp) Cb 2
  have L:=At .u8 (A7 (wrap .u64 leaf::[e0,e1,e2,e3,e4,e5,e6,e7,e8,e9,e10,e11,e12,e13,e14,e15,e16,e17]));have eR:AE leaf [e0,e1,e2,e3,e4,e5,e6,e7,e8,e9,e10,e11,e12,e13,e14,e15,e16,e17]=Q0 2 (A7 (wrap .u64 leaf::[e0,e1,e2,e3,e4,e5,e6,e7,e8,e9,e10,e11,e12,e13,e14,e15,e16,e17])):=rfl;rw[eR];generalize A7 (wrap .u64 leaf::[e0,e1,e2,e3,e4,e5,e6,e7,e8,e9,e10,e11,e12,e13,e14,e15,e16,e17])=W at wd hs L ⊢;refine (FZ fu (d+5) leaf e0 e1 e2 e3 e4 e5 e6 e7 e8 e9 e10 e11 e12 e13 e14 e15 e16 e17).trans ?_;simp (disch:=omega) only[Cu,wd,Dp,C8,Fg,Tl,L,hs]
theorem Awi (g:Nat->Int){i:Nat}(hi:i<18):List.getD [PV.sc (.int .i64 (g 0)),PV.sc (.int .i64 (g 1)),PV.sc (.int .i64 (g 2)),PV.sc (.int .i64 (g 3)),PV.sc (.int .i64 (g 4)),PV.sc (.int .i64 (g 5)),PV.sc (.int .i64 (g 6)),PV.sc (.int .i64 (g 7)),PV.sc (.int .i64 (g 8)),PV.sc (.int .i64 (g 9)),PV.sc (.int .i64 (g 10)),PV.sc (.int .i64 (g 11)),PV.sc (.int .i64 (g 12)),PV.sc (.int .i64 (g 13)),PV.sc (.int .i64 (g 14)),PV.sc (.int .i64 (g 15)),PV.sc (.int .i64 (g 16)),PV.sc (.int .i64 (g 17))] i PV.top=.sc (.int .i64 (g i)):=by
 have:((List.range 18).map g)[i]?=some (g i):=by simp[hi]
 exact BI (k:=.i64) this
theorem GL {a0 a1:Int}{Ko:Nat}{a2:List PV}{leaf m:Int}{s:List Int}(hs:s.length=18)(Cb:1000<=fu)(g:Nat->Int)(hg:∀k,g k=dg m k):∀(k i nn:Nat),i+k=18->k<nn ->
  Fv fu (Ad (CX xs) prog fu (d+6)) a0 a1 Ko a2 nn leaf s.length (Af .u64 s) (g 0) (g 1) (g 2) (g 3) (g 4) (g 5) (g 6) (g 7) (g 8) (g 9) (g 10) (g 11) (g 12) (g 13) (g 14) (g 15) (g 16) (g 17) i (Af .u64 (el leaf m s i)) =
   Fv fu (Ad (CX xs) prog fu (d+6)) a0 a1 Ko a2 (nn-k) leaf s.length (Af .u64 s) (g 0) (g 1) (g 2) (g 3) (g 4) (g 5) (g 6) (g 7) (g 8) (g 9) (g 10) (g 11) (g 12) (g 13) (g 14) (g 15) (g 16) (g 17) 18 (Af .u64 (el leaf m s 18))
 |_,_,0,_,h=>by omega
 |0,i,nn+1,hi,hn=>by
  have e:i=18:=by omega
  subst e;rfl
 |k+1,i,nn+1,hi,hn=>by
  have ih:=GL (a0:=a0) (a1:=a1) (Ko:=Ko) (a2:=a2) (leaf:=leaf) (m:=m) hs Cb g hg k (i+1) nn (by omega) (by omega)
  obtain⟨x,hx⟩:∃x,s[i]?=some x:=⟨_,List.getElem?_eq_getElem (by omega)⟩
  have hb:=IA m i;have hgi:=Awi g (i:=i) (by omega)
  have w:wrap .i64 ((i:Int)+1)=((i+1:Nat):Int):=by rw[Ak (by omega) (by omega)];omega
  have rn:=Afi (xs:=xs) (fu:=fu) (d:=d) (leaf:=leaf) (chain:=i) Cb (15-dg m i).toNat (g i) 15 x (by rw[hg];omega) (by rw[hg];omega) (by omega)
  have ev:Tj leaf i (15-dg m i).toNat (g i) x=Afx leaf m s i:=by
   unfold Afx;rw[List.getD_eq_getElem?_getD,hx,hg];rfl
  rw[ev] at rn;have L:(Af .u64 (el leaf m s i)).length=18:=by rw[At,Anp leaf m s (by omega)]
  have Zk:Bn (Af .u64 (el leaf m s i)) [.sc (.int .u64 (Afx leaf m s i))] i=Af .u64 (el leaf m s (i+1)):=by
   rw[Gs (by omega),Lz,Ay2 leaf m s (by omega)]
  rw[show nn+1-(k+1)=nn-k by omega,←ih,Ox]
  simp (disch:=omega) only[Cu,Hs,Dp,C8,hgi,BI hx,rn,L,Zk,w]
theorem Abn (Cb:1000<=fu){a0 a1 leaf:Int}{Ko n nn:Nat}{a2 c:List PV}{g:Nat->Int}{E:List Int}(hE:E.length=18):
  Fv fu (Ad (CX xs) prog fu (d+6)) a0 a1 Ko a2 (nn+1) leaf n c (g 0) (g 1) (g 2) (g 3) (g 4) (g 5) (g 6) (g 7) (g 8) (g 9) (g 10) (g 11) (g 12) (g 13) (g 14) (g 15) (g 16) (g 17) 18 (Af .u64 E)=some ⟨[.sc (.int .u64 (AE leaf E)),.sc (.int .i64 0)],[]⟩:=by
 match E,hE with
 |[e0,e1,e2,e3,e4,e5,e6,e7,e8,e9,e10,e11,e12,e13,e14,e15,e16,e17],hE=>
  have cb:=OV (xs:=xs) (fu:=fu) (d:=d) Cb leaf hE;have hc:Af .u64 [e0,e1,e2,e3,e4,e5,e6,e7,e8,e9,e10,e11,e12,e13,e14,e15,e16,e17]=[.sc (.int .u64 e0),.sc (.int .u64 e1),.sc (.int .u64 e2),.sc (.int .u64 e3),.sc (.int .u64 e4),.sc (.int .u64 e5),.sc (.int .u64 e6),.sc (.int .u64 e7),.sc (.int .u64 e8),.sc (.int .u64 e9),.sc (.int .u64 e10),.sc (.int .u64 e11),.sc (.int .u64 e12),.sc (.int .u64 e13),.sc (.int .u64 e14),.sc (.int .u64 e15),.sc (.int .u64 e16),.sc (.int .u64 e17)]:=rfl;rw[hc] at cb ⊢;generalize AE leaf [e0,e1,e2,e3,e4,e5,e6,e7,e8,e9,e10,e11,e12,e13,e14,e15,e16,e17]=R at cb ⊢;rw[Ox,Fi _ _ _ (by omega)]
  simp (disch:=omega) only[Cu,X1,Xi,List.getD_cons_zero,List.getD_cons_succ,cb]
theorem Ae5 (Cb:1000<=fu)(leaf m:Int)(s:List Int):Ad (CX xs) prog fu (d+7) Ss [.sc (.int .i64 leaf),.sc (.int .u64 m),.lst false 1 s.length (Af .u64 s)]=some ⟨(if s.length=18 then [.sc (.int .u64 (Ajg leaf m s)),.sc (.int .i64 0)] else [.sc (.int .u64 0),.sc (.int .i64 4)]),[]⟩:=by
 rw[EF];by_cases h:s.length=18
 ·have dq:=XD (xs:=xs) (fu:=fu) (d:=d+5) Cb m;have hD:Af .i64 (dgs m)=[.sc (.int .i64 (dg m 0)),.sc (.int .i64 (dg m 1)),.sc (.int .i64 (dg m 2)),.sc (.int .i64 (dg m 3)),.sc (.int .i64 (dg m 4)),.sc (.int .i64 (dg m 5)),.sc (.int .i64 (dg m 6)),.sc (.int .i64 (dg m 7)),.sc (.int .i64 (dg m 8)),.sc (.int .i64 (dg m 9)),.sc (.int .i64 (dg m 10)),.sc (.int .i64 (dg m 11)),.sc (.int .i64 (dg m 12)),.sc (.int .i64 (dg m 13)),.sc (.int .i64 (dg m 14)),.sc (.int .i64 (dg m 15)),.sc (.int .i64 (dg m 16)),.sc (.int .i64 (dg m 17))]:=rfl;rw[hD] at dq;simp only[Gz];rw[Cy h,Cy (by omega)]
  simp only[Cu,dq];have lp:=GL (xs:=xs) (fu:=fu) (d:=d) (a0:=leaf) (a1:=m) (Ko:=s.length) (a2:=Af .u64 s) (leaf:=leaf) (m:=m) h Cb (dg m) (fun _=>rfl) 18 0 fu (by omega) (by omega)
  obtain⟨f',XW⟩:∃f',fu-18=f'+1:=⟨fu-19,by omega⟩
  rw[XW] at lp;refine Eq.trans lp ?_;have eE:el leaf m s 18=NZ leaf m s:=A2l leaf m s;have hl:(NZ leaf m s).length=18:=by rw[←eE,Anp leaf m s (by omega)]
  have eR:Ajg leaf m s=AE leaf (NZ leaf m s):=rfl;rw[eE,eR];exact Abn Cb hl
 ·simp only[Gz];rw[Bj h,Bj (by omega)]
end
end
section
open Go.Proofs.Tryd (prog)
open Go.IntKind (wrap)
structure Ky where
 h:Int
 root:Int
structure Sg where
 leaf:Int
 chains:List Int
 path:List Int
def Ky.cells (k:Ky):List PV:=[.sc (.int .i64 k.h),.sc (.int .u64 k.root)]
def Sg.cells (s:Sg):List PV:=[.sc (.int .i64 s.leaf),.lst false 1 s.chains.length (Af .u64 s.chains),.lst false 1 s.path.length (Af .u64 s.path)]
def Ey (h:Int):Bool:=decide (h<0)||decide (h>4)
def Qb (leaf h:Int):Bool:=decide (leaf<0)||decide (leaf>=Jj .i64 1 h)
def N7 (level a b:Int):Int:=Q0 3 (A7 [wrap .u64 level,a,b])
def BO (leaf:Int):Nat->Int->List Int->Int
 |_,x,[]=>x
 |i,x,s::r=>BO leaf (i+1) (if W7 .i64 (Ik .i64 leaf i) 1=0 then N7 ((i+1:Nat):Int) x s else N7 ((i+1:Nat):Int) s x) r
def okE (x root:Int):Int:=if x=root then 0 else 15
theorem Agn (leaf:Int)(i:Nat)(x:Int):BO leaf i x []=x:=rfl
theorem JN (leaf:Int)(i:Nat)(x s:Int)(r:List Int):BO leaf i x (s::r)=BO leaf (i+1) (if W7 .i64 (Ik .i64 leaf i) 1=0 then N7 ((i+1:Nat):Int) x s else N7 ((i+1:Nat):Int) s x) r:=rfl
def Aj1 (k:Ky)(m:Int)(s:Sg):Int:=
 if Ey k.h=true then 9 else if Qb s.leaf k.h=true then 9 else if s.chains.length≠18 then 4 else if (s.path.length:Int)≠k.h then 4 else
 okE (BO s.leaf 0 (Ajg s.leaf m s.chains) s.path) k.root
theorem Kv {h:Int}(hh:Ey h=false):0<=h∧h<=4:=by
 unfold Ey at hh;simp at hh;omega
section
variable {fu d:Nat} {xs:FuncId->Option (List PV->Option A5)}
theorem Vs (h:Int):Ad (CX xs) prog fu (d+1) Mi [.sc (.int .i64 h)]=some ⟨[.sc (.bool (Ey h))],[]⟩:=by
 rw[OH];unfold Ey;by_cases h0:h<0
 ·simp only[Cu,IX,h0,decide_true,Bool.true_or,if_true]
 ·simp only[Cu,IX,h0,decide_false,Bool.false_or,if_false]
theorem Q8 (leaf h:Int)(h0:0<=h):Ad (CX xs) prog fu (d+1) Jh [.sc (.int .i64 leaf),.sc (.int .i64 h)]=some ⟨[.sc (.bool (Qb leaf h))],[]⟩:=by
 rw[FB];unfold Qb;by_cases hl:leaf<0
 ·simp only[Cu,IX,hl,decide_true,Bool.true_or,if_true]
 ·simp (disch:=omega) only[Cu,IX,hl,decide_false,Bool.false_or,if_false]
theorem IB (Cb:1000<=fu)(level a b:Int):Ad (CX xs) prog fu (d+6) N5 [.sc (.int .i64 level),.sc (.int .u64 a),.sc (.int .u64 b)]=some ⟨[.sc (.int .u64 (N7 level a b))],[]⟩:=by
 have wd:Ad (CX xs) prog fu (d+5) Gr [.lst false 1 3 [.sc (.int .u64 (wrap .u64 level)),.sc (.int .u64 a),.sc (.int .u64 b)]]=_:=Q3 (ws:=[wrap .u64 level,a,b]) (by simp) (by omega) (by simp;omega)
 have hs:=Aox (xs:=xs) (fu:=fu) (d:=d) (ws:=[wrap .u64 level,a,b]) (by simp) Cb 3
 have L:=At .u8 (A7 [wrap .u64 level,a,b]);rw[HP];unfold N7;generalize A7 [wrap .u64 level,a,b]=W at wd hs L ⊢;simp (disch:=omega) only[Cu,wd,Dp,C8,Fg,Tl,L,hs]
theorem KS {a0 a1 a2 a3:Int}{n1 n2 n3 n4:Nat}{c1 c2 c3 c4:List PV}{y5 root leaf:Int}{path:List Int}(hp:path.length<=100)(Cb:1000<=fu):∀(r:List Int)(i nn:Nat)(x:Int),path.drop i=r->r.length<nn->i<=path.length ->
  Hh fu (Ad (CX xs) prog fu (d+6)) a0 a1 a2 a3 n1 c1 n2 c2 nn x path.length (Af .u64 path) path.length i y5 root leaf n3 c3 n4 c4=some ⟨[.sc (.int .i64 (okE (BO leaf i x r) root))],[]⟩
 |_,_,0,_,_,h,_=>by omega
 |[],i,nn+1,x,h,hn,hi=>by
  have:=drop_nil h;rw[Pp,Fi _ _ _ (by omega),Gz]
  rw[Agn];unfold okE;by_cases e:x=root
  ·rw[Cy e,Cy e]
  ·rw[Bj e,Bj e]
 |s::r,i,nn+1,x,h,hn,hi=>by
  obtain⟨h1,h2,h3⟩:=Dx h;simp only[Io] at hn;have w:wrap .i64 ((i:Int)+1)=((i+1:Nat):Int):=by rw[Ak (by omega) (by omega)];omega
  have ih:=fun x=>KS (a0:=a0) (a1:=a1) (a2:=a2) (a3:=a3) (n1:=n1) (n2:=n2) (n3:=n3) (n4:=n4) (c1:=c1) (c2:=c2) (c3:=c3) (c4:=c4) (y5:=y5) (root:=root) (leaf:=leaf) hp Cb r (i+1) nn x h3 (by omega) (by omega)
  have p1:=IB (xs:=xs) (fu:=fu) (d:=d) Cb ((i+1:Nat):Int) x s;have p2:=IB (xs:=xs) (fu:=fu) (d:=d) Cb ((i+1:Nat):Int) s x;rw[Pp,JN];by_cases hb:W7 .i64 (Ik .i64 leaf i) 1=0
  ·rw[Cy hb,←ih];simp (disch:=omega) only[Cu,Hs,Dp,BI h2,L7,hb,w,p1,if_true]
  ·rw[Bj hb,←ih];simp (disch:=omega) only[Cu,Hs,Dp,BI h2,L7,hb,w,p2,if_false]
theorem Al0 (Cb:1000<=fu)(k:Ky)(m:Int)(s:Sg):Ad (CX xs) prog fu (d+8) Ux [.agg k.cells,.sc (.int .u64 m),.agg s.cells]=some ⟨[.sc (.int .i64 (Aj1 k m s))],[]⟩:=by
 refine (HY fu (d+7) k.h k.root m s.leaf s.chains.length (Af .u64 s.chains) s.path.length (Af .u64 s.path)).trans ?_;have h1:=Vs (xs:=xs) (fu:=fu) (d:=d+6) k.h;unfold Aj1;cases c1:Ey k.h
 ·rw[c1] at h1;have hb:=Kv c1;have h2:=Q8 (xs:=xs) (fu:=fu) (d:=d+6) s.leaf k.h hb.1;cases c2:Qb s.leaf k.h
  ·rw[c2] at h2;by_cases c3:s.chains.length=18
   ·by_cases c4:(s.path.length:Int)=k.h
    ·have rc:=Ae5 (xs:=xs) (fu:=fu) (d:=d) Cb s.leaf m s.chains;rw[Cy c3] at rc;have vl:=KS (xs:=xs) (fu:=fu) (d:=d+1) (a0:=k.h) (a1:=k.root) (a2:=m) (a3:=s.leaf) (n1:=s.chains.length) (n2:=s.path.length) (n3:=s.chains.length) (n4:=s.path.length) (c1:=Af .u64 s.chains) (c2:=Af .u64 s.path) (c3:=Af .u64 s.chains) (c4:=Af .u64 s.path) (y5:=k.h) (root:=k.root) (leaf:=s.leaf) (path:=s.path) (by omega) Cb s.path 0 fu (Ajg s.leaf m s.chains) rfl (by omega) (by omega)
     rw[Bj (by simp),Bj (by simp),Bj (by omega),Bj (by omega),←vl]
     simp (disch:=omega) only[Cu,h1,h2,Gz,rc,if_true,c4];rw[Cy (by omega)]
     rfl
    ·rw[Bj (by simp),Bj (by simp),Bj (by omega),Cy c4]
     simp (disch:=omega) only[Cu,h1,h2,Gz,c4,if_false];rw[Cy (by omega)]
   ·rw[Bj (by simp),Bj (by simp),Cy c3]
    simp (disch:=omega) only[Cu,h1,h2,Gz];rw[Bj (by omega)]
  ·rw[c2] at h2;rw[Bj (by simp),Cy rfl]
   simp (disch:=omega) only[Cu,h1,h2]
 ·rw[c1] at h1;rw[Cy rfl];simp (disch:=omega) only[Cu,h1]
def Oz (k:Ky):List Int:=wrap .u8 k.h::Hz k.root
def AJ (s:Sg):List Int:=wrap .u8 s.leaf::wrap .u8 s.path.length::(A7 s.chains++A7 s.path)
theorem owd (Cb:1000<=fu)(w:Int):Ad (CX xs) prog fu (d+1) Gr [.lst false 1 1 [.sc (.int .u64 w)]]=some ⟨[.own 1 8 (Af .u8 (Hz w))],[]⟩:=by
 have:=Q3 (xs:=xs) (fu:=fu) (d:=d) (ws:=[w]) (by simp) (by omega) (by simp;omega)
 simp only[A7,List.flatMap_cons,List.flatMap_nil,List.append_nil,Io,W5,I0] at this;exact this
theorem Ajy (Cb:1000<=fu)(k:Ky):Ad (CX xs) prog fu (d+2) Px [.agg k.cells]=some ⟨(if Ey k.h=true then [.own 1 0 [],.sc (.int .i64 9)] else [.own 1 9 (Af .u8 (Oz k)),.sc (.int .i64 0)]),[]⟩:=by
 refine (Zy fu (d+1) k.h k.root).trans ?_;have h1:=Vs (xs:=xs) (fu:=fu) (d:=d) k.h;have wd:=owd (xs:=xs) (fu:=fu) (d:=d) Cb k.root;have L:=At .u8 (Hz k.root);rw[I0] at L;have t8:List.take 8 (Af .u8 (Hz k.root))=Af .u8 (Hz k.root):=My (by omega)
 have t9:List.take 9 ([PV.sc (.int .u8 (wrap .u8 k.h))]++Af .u8 (Hz k.root))=Af .u8 (Oz k):=by
  rw[My (by rw[Kb,L];simp)]
  rfl
 have L9:([PV.sc (.int .u8 (wrap .u8 k.h))]++Af .u8 (Hz k.root)).length=9:=by rw[Kb,L];rfl
 cases c1:Ey k.h
 ·rw[c1] at h1;rw[Bj (by simp)]
  simp (disch:=omega) only[Cu,h1,wd,Dp,C8,Fg,L,t8,Nat.reduceAdd,L9,t9]
 ·rw[c1] at h1;rw[Cy rfl];simp (disch:=omega) only[Cu,h1]
theorem Aj8 (Cb:1000<=fu)(s:Sg)(hp:s.path.length<=1000000000)(hf:s.path.length<fu):Ad (CX xs) prog fu (d+2) Kc [.agg s.cells]=some ⟨(if Ey s.path.length=true then [.own 1 0 [],.sc (.int .i64 9)] else if Qb s.leaf s.path.length=true then [.own 1 0 [],.sc (.int .i64 9)] else if s.chains.length≠18 then [.own 1 0 [],.sc (.int .i64 4)] else [.own 1 (AJ s).length (Af .u8 (AJ s)),.sc (.int .i64 0)]),[]⟩:=by
 refine (R0 fu (d+1) s.leaf s.chains.length (Af .u64 s.chains) s.path.length (Af .u64 s.path)).trans ?_;have h1:=Vs (xs:=xs) (fu:=fu) (d:=d) s.path.length;cases c1:Ey s.path.length
 ·rw[c1] at h1;have hb:=Kv c1;have h2:=Q8 (xs:=xs) (fu:=fu) (d:=d) s.leaf s.path.length hb.1;cases c2:Qb s.leaf s.path.length
  ·rw[c2] at h2;by_cases c3:s.chains.length=18
   ·have w1:=Q3 (xs:=xs) (fu:=fu) (d:=d) (ws:=s.chains) (by omega) (by omega) (by omega)
    have w2:=Q3 (xs:=xs) (fu:=fu) (d:=d) (ws:=s.path) (by omega) (by omega) (by omega)
    have l1:=Dz s.chains;have l2:=Dz s.path;have L1:=At .u8 (A7 s.chains);have L2:=At .u8 (A7 s.path)
    have eB:Af .u8 (AJ s)=[PV.sc (.int .u8 (wrap .u8 s.leaf)),PV.sc (.int .u8 (wrap .u8 s.path.length))]++Af .u8 (A7 s.chains)++Af .u8 (A7 s.path):=by
     unfold AJ;simp
    have eL:(AJ s).length=2+(A7 s.chains).length+(A7 s.path).length:=by
     unfold AJ;simp;omega
    rw[Bj (by simp),Bj (by simp),Bj (by omega),eB,eL]
    have t2:List.take (2+(A7 s.chains).length) ([PV.sc (.int .u8 (wrap .u8 s.leaf)),PV.sc (.int .u8 (wrap .u8 s.path.length))]++Af .u8 (A7 s.chains))=[PV.sc (.int .u8 (wrap .u8 s.leaf)),PV.sc (.int .u8 (wrap .u8 s.path.length))]++Af .u8 (A7 s.chains):=My (by rw[Kb,L1];simp)
    have t3:List.take (2+(A7 s.chains).length+(A7 s.path).length) ([PV.sc (.int .u8 (wrap .u8 s.leaf)),PV.sc (.int .u8 (wrap .u8 s.path.length))]++Af .u8 (A7 s.chains)++Af .u8 (A7 s.path))=[PV.sc (.int .u8 (wrap .u8 s.leaf)),PV.sc (.int .u8 (wrap .u8 s.path.length))]++Af .u8 (A7 s.chains)++Af .u8 (A7 s.path):=My (by rw[Kb,Kb,L1,L2];simp)
    have k2:([PV.sc (.int .u8 (wrap .u8 s.leaf)),PV.sc (.int .u8 (wrap .u8 s.path.length))]++Af .u8 (A7 s.chains)).length=2+(A7 s.chains).length:=by rw[Kb,L1];rfl
    have k3:([PV.sc (.int .u8 (wrap .u8 s.leaf)),PV.sc (.int .u8 (wrap .u8 s.path.length))]++Af .u8 (A7 s.chains)++Af .u8 (A7 s.path)).length=2+(A7 s.chains).length+(A7 s.path).length:=by rw[Kb,k2,L2]
    simp (disch:=omega) only[Cu,h1,h2,Gz,w1,w2,Dp,C8,Fg,L1,L2,Tl,t2,t3,k2,k3];rw[Cy (by omega)]
   ·rw[Bj (by simp),Bj (by simp),Cy c3]
    simp (disch:=omega) only[Cu,h1,h2,Gz];rw[Bj (by omega)]
  ·rw[c2] at h2;rw[Bj (by simp),Cy rfl]
   simp (disch:=omega) only[Cu,h1,h2]
 ·rw[c1] at h1;rw[Cy rfl];simp (disch:=omega) only[Cu,h1]
def Td (l:List Int)(i:Nat):Int:=PY ((l.drop (8*i)).take 8)
def Gu (l:List Int):List Int:=(List.range (l.length / 8)).map (Td l)
def wl (l:List Int)(i:Nat):List Int:=(List.range i).map (Td l)++List.replicate (l.length / 8-i) 0
theorem Am7 (l:List Int){i:Nat}(h:i<=l.length / 8):(wl l i).length=l.length / 8:=by simp[wl];omega
theorem Ayj (l:List Int){i:Nat}(h:i<l.length / 8):(wl l i).set i (Td l i)=wl l (i+1):=by
 unfold wl;rw[List.set_append_right _ _ (by simp),List.length_map,List.length_range,Nat.sub_self,show l.length / 8-i=(l.length / 8-(i+1))+1 by omega,List.replicate_succ,List.set_cons_zero,List.range_succ,List.map_append,XX]
 rfl
theorem Avl (l:List Int){i:Nat}(h:i<l.length / 8):(wl l i).set i 0=wl l i:=by
 unfold wl;rw[List.set_append_right _ _ (by simp),List.length_map,List.length_range,Nat.sub_self,show l.length / 8-i=(l.length / 8-(i+1))+1 by omega,List.replicate_succ,List.set_cons_zero]
theorem XA {n m0:Nat}{c:List PV}{l:List Int}(hl:l.length<=1000000){i:Nat}(hi:i<l.length / 8){q:List Int}(hq:q.length<=8):∀(r:List Int)(j nn:Nat)(x:Int),q.drop j=r->r.length<nn->j<=q.length ->
  J4 fu (Ad (CX xs) prog fu d) n c m0 nn l.length (Af .u8 l) (l.length / 8) i ((l.length / 8:Nat):Int) i q.length (Af .u8 q) q.length j (Af .u64 ((wl l i).set i x)) =
   H8 fu (Ad (CX xs) prog fu d) n c m0 l.length (Af .u8 l) (l.length / 8) ((l.length / 8:Nat):Int) ((i+1:Nat):Int) (Af .u64 ((wl l i).set i (r.foldl Gj x)))
 |_,_,0,_,_,h,_=>by omega
 |[],j,nn+1,x,h,hn,hj=>by
  have:=drop_nil h;have w:wrap .i64 ((i:Int)+1)=((i+1:Nat):Int):=by rw[Ak (by omega) (by omega)];omega
  rw[Rc,Fi _ _ _ (by omega)]
  simp only[Js,w,List.foldl_nil]
 |b::r,j,nn+1,x,h,hn,hj=>by
  obtain⟨h1,h2,h3⟩:=Dx h;simp only[Io] at hn;have w:wrap .i64 ((j:Int)+1)=((j+1:Nat):Int):=by rw[Ak (by omega) (by omega)];omega
  have L:(Af .u64 ((wl l i).set i x)).length=l.length / 8:=by rw[At,List.length_set,Am7 l (by omega)]
  have hat:(Af .u64 ((wl l i).set i x)).getD i .top=.sc (.int .u64 x):=BI (by rw[List.getElem?_set_self (by rw[Am7 l (by omega)];omega)])
  have Zk:Bn (Af .u64 ((wl l i).set i x)) [.sc (.int .u64 (Gj x b))] i=Af .u64 ((wl l i).set i (Gj x b)):=by
   rw[Gs (by omega),Lz,List.set_set]
  have ih:=XA (n:=n) (m0:=m0) (c:=c) hl hi hq r (j+1) nn (Gj x b) h3 (by omega) (by omega)
  rw[List.foldl_cons,←ih,Rc];simp (disch:=omega) only[Cu,Hs,Dp,C8,BI h2,hat,L,w];exact congrArg _ Zk
theorem JR {n:Nat}{c:List PV}{l:List Int}(hl:l.length<=1000000)(Cb:100<=fu):∀(k i nn:Nat),i+k=l.length / 8->k<nn ->
  H8 fu (Ad (CX xs) prog fu d) n c nn l.length (Af .u8 l) (l.length / 8) ((l.length / 8:Nat):Int) i (Af .u64 (wl l i))=some ⟨[.own 1 (l.length / 8) (Af .u64 (Gu l))],[]⟩
 |_,_,0,_,h=>by omega
 |0,i,nn+1,hi,hn=>by
  have e:i=l.length / 8:=by omega
  subst e;have e2:wl l (l.length / 8)=Gu l:=by unfold wl Gu;simp
  have L:(Af .u64 (Gu l)).length=l.length / 8:=by rw[At];simp[Gu]
  have tk:List.take (l.length / 8) (Af .u64 (Gu l))=Af .u64 (Gu l):=My (by omega)
  rw[Rw,Fi _ _ _ (by omega),e2]
  simp (disch:=omega) only[Cu,Dp,L,tk]
 |k+1,i,nn+1,hi,hn=>by
  have ih:=JR (n:=n) (c:=c) hl Cb k (i+1) nn (by omega) (by omega)
  have w8:wrap .i64 (8*(i:Int))=((8*i:Nat):Int):=by rw[Ak (by omega) (by omega)];omega
  have w88:wrap .i64 (((8*i:Nat):Int)+8)=((8*i+8:Nat):Int):=by rw[Ak (by omega) (by omega)];omega
  have e8:8*i+8-8*i=8:=by omega
  have hdl:((l.drop (8*i)).take 8).length=8:=by rw[List.length_take,List.length_drop];omega
  have st:=XA (xs:=xs) (fu:=fu) (d:=d) (n:=n) (m0:=nn) (c:=c) hl (i:=i) (by omega) (q:=(l.drop (8*i)).take 8) (by omega) ((l.drop (8*i)).take 8) 0 fu 0 rfl (by omega) (by omega)
  rw[Avl l (by omega),hdl] at st
  have ew:((l.drop (8*i)).take 8).foldl Gj 0=Td l i:=rfl;rw[ew,Ayj l (by omega),ih] at st
  rw[Rw];simp (disch:=omega) only[Cu,Hs,Dp,w8,w88,e8,J6,Qg];exact st
theorem RH (n:Nat):Up n [.sc (.int .u64 0)]=Af .u64 (List.replicate n 0):=by
 induction n with
 |zero=>rfl
 |succ n ih=>
  show ([PV.sc (.int .u64 0)]::List.replicate n [PV.sc (.int .u64 0)]).flatten=_;rw[List.flatten_cons,List.replicate_succ];show _++Up n [.sc (.int .u64 0)]=PV.sc (.int .u64 0)::Af .u64 (List.replicate n 0);rw[ih];rfl
theorem IF {l:List Int}(hl:l.length<=1000000)(Cb:100<=fu)(hf:l.length<fu):Ad (CX xs) prog fu (d+1) Wq [.lst false 1 l.length (Af .u8 l)]=some ⟨[.own 1 (l.length / 8) (Af .u64 (Gu l))],[]⟩:=by
 rw[LP]
 have w:wrap .i64 (Int.tdiv (l.length:Int) 8)=((l.length / 8:Nat):Int):=by
  rw[Int.tdiv_eq_ediv_of_nonneg (by omega),Ak (by omega) (by omega)]
  omega
 have lp:=JR (xs:=xs) (fu:=fu) (d:=d) (n:=l.length) (c:=Af .u8 l) hl Cb (l.length / 8) 0 fu (by omega) (by omega)
 have e0:wl l 0=List.replicate (l.length / 8) 0:=by unfold wl;simp
 rw[e0] at lp;simp (disch:=omega) only[Cu,w,Hs,RH,Int.le_refl];exact lp
def NP (l:List Int):Option Ky:=if l.length=9∧Ey (l.getD 0 0)=false then some ⟨l.getD 0 0,Td (l.drop 1) 0⟩ else none
def Afb (o:Option Ky):List PV:=match o with|some k=>[.agg k.cells,.sc (.int .i64 0)]|none=>[.agg (Ky.mk 0 0).cells,.sc (.int .i64 2)]
theorem Ajb (Cb:1000<=fu){l:List Int}(hb:Kg l):Ad (CX xs) prog fu (d+2) Pg [.lst false 1 l.length (Af .u8 l)]=some ⟨Afb (NP l),[]⟩:=by
 refine (Zw fu (d+1) l.length (Af .u8 l)).trans ?_;unfold NP;by_cases h9:l.length=9
 ·obtain⟨x,hx⟩:∃x,l[0]?=some x:=⟨_,List.getElem?_eq_getElem (by omega)⟩
  have hxb:=hb x (List.mem_of_getElem? hx);have wx:wrap .i64 x=x:=Ak (by omega) (by omega)
  have gx:l.getD 0 0=x:=by rw[List.getD_eq_getElem?_getD,hx];rfl
  have h1:=Vs (xs:=xs) (fu:=fu) (d:=d) x;rw[gx];cases c1:Ey x
  ·rw[c1] at h1;have hdl:(l.drop 1).length=8:=by rw[List.length_drop];omega
   have dw:=IF (xs:=xs) (fu:=fu) (d:=d) (l:=l.drop 1) (by omega) (by omega) (by omega)
   rw[hdl] at dw;have hat:(Af .u64 (Gu (l.drop 1))).getD 0 .top=.sc (.int .u64 (Td (l.drop 1) 0)):=BI (by unfold Gu;rw[hdl];rfl)
   have e8:9-1=8:=rfl;have tk:List.take 8 (Af .u8 (l.drop 1))=Af .u8 (l.drop 1):=My (by rw[At];omega)
   rw[Cy ⟨h9,rfl⟩,h9];simp (disch:=omega) only[Cu,Gz,BI hx,wx,h1,Dp,J6,e8,tk,dw,hat];rfl
  ·rw[c1] at h1;rw[Bj (by simp),h9]
   simp (disch:=omega) only[Cu,Gz,BI hx,wx,h1];rfl
 ·rw[Bj (by simp[h9])]
  simp (disch:=omega) only[Gz];rw[Bj (by omega)]
  rfl
def sgD (l:List Int):Option Sg:=
 if 2<=l.length∧Ey (l.getD 1 0)=false∧Qb (l.getD 0 0) (l.getD 1 0)=false∧(l.length:Int)=2+8*(18+l.getD 1 0) then some ⟨l.getD 0 0,Gu ((l.drop 2).take 144),Gu (l.drop 146)⟩ else none
def Sg.owned (s:Sg):List PV:=[.sc (.int .i64 s.leaf),.own 1 s.chains.length (Af .u64 s.chains),.own 1 s.path.length (Af .u64 s.path)]
def Ahp (o:Option Sg):List PV:=match o with|some s=>[.agg s.owned,.sc (.int .i64 0)]|none=>[.agg (Sg.mk 0 [] []).owned,.sc (.int .i64 2)]
theorem Qw (l:List Int):(Gu l).length=l.length / 8:=by simp[Gu]
theorem Alg (Cb:1000<=fu){l:List Int}(hb:Kg l):Ad (CX xs) prog fu (d+2) Kd [.lst false 1 l.length (Af .u8 l)]=some ⟨Ahp (sgD l),[]⟩:=by
 refine (R4 fu (d+1) l.length (Af .u8 l)).trans ?_;unfold sgD;by_cases h2:2<=l.length
 ·obtain⟨x,hx⟩:∃x,l[0]?=some x:=⟨_,List.getElem?_eq_getElem (by omega)⟩
  obtain⟨y,hy⟩:∃y,l[1]?=some y:=⟨_,List.getElem?_eq_getElem (by omega)⟩
  have hxb:=hb x (List.mem_of_getElem? hx);have hyb:=hb y (List.mem_of_getElem? hy);have wx:wrap .i64 x=x:=Ak (by omega) (by omega)
  have wy:wrap .i64 y=y:=Ak (by omega) (by omega)
  have gx:l.getD 0 0=x:=by rw[List.getD_eq_getElem?_getD,hx];rfl
  have gy:l.getD 1 0=y:=by rw[List.getD_eq_getElem?_getD,hy];rfl
  have h1:=Vs (xs:=xs) (fu:=fu) (d:=d) y;have ho:=Q8 (xs:=xs) (fu:=fu) (d:=d) x y (by omega)
  have w1:wrap .i64 (18+y)=18+y:=Ak (by omega) (by omega)
  have w2:wrap .i64 (8*(18+y))=8*(18+y):=Ak (by omega) (by omega)
  have w3:wrap .i64 (2+8*(18+y))=2+8*(18+y):=Ak (by omega) (by omega)
  rw[gx,gy];cases c1:Ey y
  ·rw[c1] at h1;cases c2:Qb x y
   ·rw[c2] at ho;by_cases c3:(l.length:Int)=2+8*(18+y)
    ·have hy4:=Kv c1;have d1:=IF (xs:=xs) (fu:=fu) (d:=d) (l:=(l.drop 2).take 144) (by rw[List.length_take,List.length_drop];omega) (by omega) (by rw[List.length_take,List.length_drop];omega)
     have d2:=IF (xs:=xs) (fu:=fu) (d:=d) (l:=l.drop 146) (by rw[List.length_drop];omega) (by omega) (by rw[List.length_drop];omega)
     have l1:((l.drop 2).take 144).length=144:=by rw[List.length_take,List.length_drop];omega
     have l2:(l.drop 146).length=l.length-146:=List.length_drop;rw[l1] at d1;have L1:(Af .u64 (Gu ((l.drop 2).take 144))).length=18:=by rw[At,Qw,l1]
     have L2:(Af .u64 (Gu (l.drop 146))).length=(l.length-146) / 8:=by rw[At,Qw,l2]
     rw[l2] at d2;have t1:List.take (144 / 8) (Af .u64 (Gu ((l.drop 2).take 144)))=Af .u64 (Gu ((l.drop 2).take 144)):=My (by omega)
     have t2:List.take ((l.length-146) / 8) (Af .u64 (Gu (l.drop 146)))=Af .u64 (Gu (l.drop 146)):=My (by omega)
     have t3:List.take (l.length-146) (l.drop 146)=l.drop 146:=My (by omega)
     rw[Cy ⟨h2,rfl,rfl,c3⟩];simp (disch:=omega) only[Cu,Gz,BI hx,BI hy,wx,wy,h1,ho,w1,w2,w3,Dp,J6,Qg,d1,d2,t3,L1,L2,t1,t2];rw[Cy c3];simp only[Ahp,Sg.owned,Qw,l1,l2]
    ·rw[Bj (by simp[c3])]
     simp (disch:=omega) only[Cu,Gz,BI hx,BI hy,wx,wy,h1,ho,w1,w2,w3];rw[Bj c3];rfl
   ·rw[c2] at ho;rw[Bj (by simp)]
    simp (disch:=omega) only[Cu,Gz,BI hx,BI hy,wx,wy,h1,ho];rfl
  ·rw[c1] at h1;rw[Bj (by simp)]
   simp (disch:=omega) only[Cu,Gz,BI hx,BI hy,wx,wy,h1];rfl
 ·rw[Bj (by simp[h2])]
  simp (disch:=omega) only[Cu];rfl
end
end
section
open Go.IntKind (wrap)
def LR (seed leaf chain:Int):Int:=Au7 seed 1 (A7 [wrap .u64 leaf,wrap .u64 chain])
def Zv (seed leaf:Int)(c:Nat):Int:=Tj leaf c 15 0 (LR seed leaf c)
def Jr (seed leaf:Int):Int:=AE leaf ((List.range 18).map (Zv seed leaf))
def RJ (seed leaf m:Int)(c:Nat):Int:=Tj leaf c (dg m c).toNat 0 (LR seed leaf c)
def Of (seed leaf m:Int):List Int:=(List.range 18).map (RJ seed leaf m)
def Cq (seed:Int):Nat->Int->Int
 |0,i=>Jr seed i
 |l+1,i=>N7 ((l+1:Nat):Int) (Cq seed l (2*i)) (Cq seed l (2*i+1))
def Rs (seed:Int)(h:Int):Ky:=if Ey h=true then ⟨0,0⟩ else ⟨h,Cq seed h.toNat 0⟩
def Jo (leaf:Int)(k:Nat):Int:=Ev .i64 (Ik .i64 leaf k) 1
def Ajx (seed:Int)(h leaf m:Int):Option Sg:=if Ey h=true then none else if Qb leaf h=true then none else some ⟨leaf,Of seed leaf m,(List.range h.toNat).map fun k=>Cq seed k (Jo leaf k)⟩
end
section
open Go.Proofs.Tryd (prog)
open Go.IntKind (wrap)
set_option maxRecDepth 20000
section
variable {fu d:Nat} {xs:FuncId->Option (List PV->Option A5)}
theorem Az5 {l:List Int}(hb:Kg l)(hl:l.length<=1099511627776)(Cb:100<=fu)(hf:l.length<fu)(key dom:Int):Ad (CX xs) prog fu (d+5) DQ [.sc (.int .u64 key),.sc (.int .i64 dom),.lst false 1 l.length (Af .u8 l)]=some ⟨[.sc (.int .u64 (Au7 key dom l))],[]⟩:=by
 rw[Aah];have s:=Aot (xs:=xs) (fu:=fu) (d:=d) hb hl Cb hf key (wrap .u64 (1+wrap .u64 dom));simp only[Cu,s];rfl
theorem US (Cb:1000<=fu)(seed leaf chain:Int):Ad (CX xs) prog fu (d+6) U6 [.sc (.int .u64 seed),.sc (.int .i64 leaf),.sc (.int .i64 chain)]=some ⟨[.sc (.int .u64 (LR seed leaf chain))],[]⟩:=by
 have wd:Ad (CX xs) prog fu (d+5) Gr [.lst false 1 2 [.sc (.int .u64 (wrap .u64 leaf)),.sc (.int .u64 (wrap .u64 chain))]]=_:=Q3 (ws:=[wrap .u64 leaf,wrap .u64 chain]) (by simp) (by omega) (by simp;omega)
 have hs:=Az5 (xs:=xs) (fu:=fu) (d:=d) (Ut [wrap .u64 leaf,wrap .u64 chain]) (by rw[Dz];simp) (by omega) (by rw[Dz];simp;omega) seed 1
 have L:=At .u8 (A7 [wrap .u64 leaf,wrap .u64 chain]);rw[HE];unfold LR;generalize A7 [wrap .u64 leaf,wrap .u64 chain]=W at wd hs L ⊢;simp (disch:=omega) only[Cu,wd,Dp,C8,Fg,Tl,L,hs]
def pl (g:Nat->Int)(i:Nat):List Int:=(List.range i).map g++List.replicate (18-i) 0
theorem Agp (g:Nat->Int){i:Nat}(h:i<=18):(pl g i).length=18:=by simp[pl];omega
theorem Aos (g:Nat->Int){i:Nat}(h:i<18):(pl g i).set i (g i)=pl g (i+1):=by
 unfold pl;rw[List.set_append_right _ _ (by simp),List.length_map,List.length_range,Nat.sub_self,show 18-i=(18-(i+1))+1 by omega,List.replicate_succ,List.set_cons_zero,List.range_succ,List.map_append,XX]
 rfl
theorem Av4 (g:Nat->Int):pl g 18=(List.range 18).map g:=by simp[pl]
theorem JM {a0 a1 seed leaf:Int}(Cb:1000<=fu):∀(k i nn:Nat),i+k=18->k<nn ->
  F6 fu (Ad (CX xs) prog fu (d+6)) a0 a1 nn seed leaf i (Af .u64 (pl (Zv seed leaf) i))=F6 fu (Ad (CX xs) prog fu (d+6)) a0 a1 (nn-k) seed leaf 18 (Af .u64 (pl (Zv seed leaf) 18))
 |_,_,0,_,h=>by omega
 |0,i,nn+1,hi,hn=>by
  have e:i=18:=by omega
  subst e;rfl
 |k+1,i,nn+1,hi,hn=>by
  have ih:=JM (a0:=a0) (a1:=a1) (seed:=seed) (leaf:=leaf) Cb k (i+1) nn (by omega) (by omega)
  have w:wrap .i64 ((i:Int)+1)=((i+1:Nat):Int):=by rw[Ak (by omega) (by omega)];omega
  have sc:=US (xs:=xs) (fu:=fu) (d:=d) Cb seed leaf i;have rn:=Afi (xs:=xs) (fu:=fu) (d:=d) (leaf:=leaf) (chain:=i) Cb 15 0 15 (LR seed leaf i) (by omega) (by omega) (by omega)
  have ev:Tj leaf i 15 0 (LR seed leaf i)=Zv seed leaf i:=rfl;rw[ev] at rn;have L:(Af .u64 (pl (Zv seed leaf) i)).length=18:=by rw[At,Agp _ (by omega)]
  have Zk:Bn (Af .u64 (pl (Zv seed leaf) i)) [.sc (.int .u64 (Zv seed leaf i))] i=Af .u64 (pl (Zv seed leaf) (i+1)):=by
   rw[Gs (by omega),Lz,Aos _ (by omega)]
  rw[show nn+1-(k+1)=nn-k by omega,←ih,Pw]
  simp (disch:=omega) only[Cu,Hs,Dp,C8,sc,rn,L,Zk,w]
theorem Ag7 (Cb:1000<=fu){a0 a1 seed leaf:Int}{nn:Nat}{E:List Int}(hE:E.length=18):
  F6 fu (Ad (CX xs) prog fu (d+6)) a0 a1 (nn+1) seed leaf 18 (Af .u64 E)=some ⟨[.sc (.int .u64 (AE leaf E))],[]⟩:=by
 match E,hE with
 |[e0,e1,e2,e3,e4,e5,e6,e7,e8,e9,e10,e11,e12,e13,e14,e15,e16,e17],hE=>
  have cb:=OV (xs:=xs) (fu:=fu) (d:=d) Cb leaf hE;have hc:Af .u64 [e0,e1,e2,e3,e4,e5,e6,e7,e8,e9,e10,e11,e12,e13,e14,e15,e16,e17]=[.sc (.int .u64 e0),.sc (.int .u64 e1),.sc (.int .u64 e2),.sc (.int .u64 e3),.sc (.int .u64 e4),.sc (.int .u64 e5),.sc (.int .u64 e6),.sc (.int .u64 e7),.sc (.int .u64 e8),.sc (.int .u64 e9),.sc (.int .u64 e10),.sc (.int .u64 e11),.sc (.int .u64 e12),.sc (.int .u64 e13),.sc (.int .u64 e14),.sc (.int .u64 e15),.sc (.int .u64 e16),.sc (.int .u64 e17)]:=rfl;rw[hc] at cb ⊢;generalize AE leaf [e0,e1,e2,e3,e4,e5,e6,e7,e8,e9,e10,e11,e12,e13,e14,e15,e16,e17]=R at cb ⊢;rw[Pw,Fi _ _ _ (by omega)]
  simp (disch:=omega) only[Cu,Zl,Zo,List.getD_cons_zero,List.getD_cons_succ,cb]
theorem Akv (Cb:1000<=fu)(seed leaf:Int):Ad (CX xs) prog fu (d+7) Nt [.sc (.int .u64 seed),.sc (.int .i64 leaf)]=some ⟨[.sc (.int .u64 (Jr seed leaf))],[]⟩:=by
 rw[HR];have lp:=JM (xs:=xs) (fu:=fu) (d:=d) (a0:=seed) (a1:=leaf) (seed:=seed) (leaf:=leaf) Cb 18 0 fu (by omega) (by omega)
 obtain⟨f',XW⟩:∃f',fu-18=f'+1:=⟨fu-19,by omega⟩
 rw[XW] at lp;refine Eq.trans lp ?_;rw[Av4];exact Ag7 Cb (by simp)
theorem WC {a0 a1 a2:Int}{seed leaf m:Int}(Cb:1000<=fu)(g:Nat->Int)(hg:∀k,g k=dg m k):∀(k i nn:Nat),i+k=18->k<nn ->
  Kr fu (Ad (CX xs) prog fu (d+6)) a0 a1 a2 nn seed leaf (g 0) (g 1) (g 2) (g 3) (g 4) (g 5) (g 6) (g 7) (g 8) (g 9) (g 10) (g 11) (g 12) (g 13) (g 14) (g 15) (g 16) (g 17) i (Af .u64 (pl (RJ seed leaf m) i)) =
   some ⟨[.own 1 18 (Af .u64 (Of seed leaf m))],[]⟩
 |_,_,0,_,h=>by omega
 |0,i,nn+1,hi,hn=>by
  have e:i=18:=by omega
  subst e;have L:(Af .u64 (pl (RJ seed leaf m) 18)).length=18:=by rw[At,Agp _ (by omega)]
  have T:List.take 18 (Af .u64 (pl (RJ seed leaf m) 18))=Af .u64 (Of seed leaf m):=by rw[My (by omega),Av4];rfl
  rw[Sz,Fi _ _ _ (by omega)]
  simp (disch:=omega) only[Cu,L,T]
 |k+1,i,nn+1,hi,hn=>by
  have ih:=WC (a0:=a0) (a1:=a1) (a2:=a2) (seed:=seed) (leaf:=leaf) (m:=m) Cb g hg k (i+1) nn (by omega) (by omega)
  have hb:=IA m i;have hgi:=Awi g (i:=i) (by omega)
  have w:wrap .i64 ((i:Int)+1)=((i+1:Nat):Int):=by rw[Ak (by omega) (by omega)];omega
  have sc:=US (xs:=xs) (fu:=fu) (d:=d) Cb seed leaf i;have rn:=Afi (xs:=xs) (fu:=fu) (d:=d) (leaf:=leaf) (chain:=i) Cb (dg m i).toNat 0 (g i) (LR seed leaf i) (by rw[hg];omega) (by omega) (by rw[hg];omega)
  have ev:Tj leaf i (dg m i).toNat 0 (LR seed leaf i)=RJ seed leaf m i:=rfl;rw[ev] at rn;have L:(Af .u64 (pl (RJ seed leaf m) i)).length=18:=by rw[At,Agp _ (by omega)]
  have Zk:Bn (Af .u64 (pl (RJ seed leaf m) i)) [.sc (.int .u64 (RJ seed leaf m i))] i=Af .u64 (pl (RJ seed leaf m) (i+1)):=by
   rw[Gs (by omega),Lz,Aos _ (by omega)]
  rw[Sz];simp (disch:=omega) only[Cu,Hs,Dp,C8,hgi,sc,rn,L,Zk,w];exact ih
theorem Atl (Cb:1000<=fu)(seed leaf m:Int):Ad (CX xs) prog fu (d+7) Rm [.sc (.int .u64 seed),.sc (.int .i64 leaf),.sc (.int .u64 m)]=some ⟨[.own 1 18 (Af .u64 (Of seed leaf m))],[]⟩:=by
 rw[OX];have dq:=XD (xs:=xs) (fu:=fu) (d:=d+5) Cb m;have hD:Af .i64 (dgs m)=[.sc (.int .i64 (dg m 0)),.sc (.int .i64 (dg m 1)),.sc (.int .i64 (dg m 2)),.sc (.int .i64 (dg m 3)),.sc (.int .i64 (dg m 4)),.sc (.int .i64 (dg m 5)),.sc (.int .i64 (dg m 6)),.sc (.int .i64 (dg m 7)),.sc (.int .i64 (dg m 8)),.sc (.int .i64 (dg m 9)),.sc (.int .i64 (dg m 10)),.sc (.int .i64 (dg m 11)),.sc (.int .i64 (dg m 12)),.sc (.int .i64 (dg m 13)),.sc (.int .i64 (dg m 14)),.sc (.int .i64 (dg m 15)),.sc (.int .i64 (dg m 16)),.sc (.int .i64 (dg m 17))]:=rfl;rw[hD] at dq;simp only[Cu,dq];exact WC (fu:=fu) (d:=d) (a0:=seed) (a1:=leaf) (a2:=m) Cb (dg m) (fun _=>rfl) 18 0 fu (by omega) (by omega)
end
end
section
open Go.IntKind (wrap)
def OU (h leaf:Int):Bool:=Ey h||Qb leaf h
def tkL (h leaf:Int):Int:=if OU h leaf=true then 0 else leaf
def tkC (seed h leaf m:Int):List Int:=if OU h leaf=true then [] else Of seed leaf m
def tkP (seed h leaf:Int):List Int:=if OU h leaf=true then [] else (List.range h.toNat).map fun k=>Cq seed k (Jo leaf k)
def tkE (h leaf:Int):Int:=if OU h leaf=true then 9 else 0
def Azk (args:List PV):Option A5:=
 match args with
 |[.sc (.int .u64 seed),.sc (.int .i64 h),.sc (.int .i64 leaf),.sc (.int .u64 m)]=>
  some ⟨[.agg [.sc (.int .i64 (tkL h leaf)),.lst false 1 (tkC seed h leaf m).length (Af .u64 (tkC seed h leaf m)),.lst false 1 (tkP seed h leaf).length (Af .u64 (tkP seed h leaf))],.sc (.int .i64 (tkE h leaf))],[]⟩
 |_=>none
structure En where
 k:Int
 na:Nat
 an:List PV
 ns:Nat
 st:List PV
def Ve:List PV->Option (List En)
 |[]=>some []
 |.sc (.int .u64 k) :: .lst false 3 na an :: .lst false 2 ns st::r=>bif Nat.beq an.length (na*3)&&Nat.beq st.length (ns*2)&&Nat.ble na 1000&&Nat.ble ns 1000 then (Ve r).map (⟨k,na,an,ns,st⟩ :: ·) else none
 |_=>none
def P1:List PV->Option (List (Int × Int))
 |[]=>some []
 |.sc (.int .i64 k) :: .sc (.int .i64 t)::r=>(P1 r).map ((k,t) :: ·)
 |_=>none
def Afh (model:Int)(es:List En):List PV:=match es.find? fun e=>e.k==model with|some e=>e.st|none=>[]
def G7 (now:Int)(l:List (Int × Int)):Int:=match l.reverse.find? fun p=>decide (p.2<=now) with|some p=>p.1|none=>0
def Ais (args:List PV):Option A5:=
  match args with
  |[.agg [.sc (.int .i64 _),.sc (.int .i64 _),.sc (.int .i64 _),.lst false 3 n c,.sc (.int .i64 _),.lst false 1 _ _,.lst false 1 _ _],.sc (.int .u64 model),.sc (.int .i64 now)]=>
    bif Nat.beq c.length (n*3)&&Nat.ble n 1000 then
      (match Ve c with
       |some es=>(match P1 (Afh model es) with|some l=>some ⟨[.sc (.int .i64 (G7 now l))],[]⟩|none=>none)
       |none=>none)
    else none
  |_=>none
def Oc (f:FuncId):Option (List PV->Option A5):=
 bif Nat.beq f 71 then some NS else
 bif Nat.beq f 96 then some X7 else
 bif Nat.beq f 11 then some Azk else
 bif Nat.beq f 8 then some Ais else
 bif Nat.beq f 1000000 then some (fun _=>none) else none
abbrev C0:I3:=CX Oc
end
section
open Go.Proofs.Tryd (prog)
open Go.IntKind (wrap)
set_option maxRecDepth 100000
abbrev I5:FuncId:=26
theorem M8 {xs:FuncId->Option (List PV->Option A5)} (fu d Bd:Nat)(a0:List PV):Ad (CX xs) prog fu (d+1) I5 [.lst false 3 Bd a0]=(fun (call:Ah)=>Bi (decide (0<Bd)) (Ar (decide (a0.length=Bd*3)&&decide ((0+Bd)*32<=1099511627776)&&decide (0+Bd<=1099511627776))<|Aa (0+Bd) fun x1=>Aa ([]++a0) fun x2=>Ar (decide (0+x1*3<=x2.length))<|some (A5.mk [.lst false 3 x1 (List.take (x1*3) (List.drop 0 x2))] [])) (Wp (some (A5.mk [.lst false 3 0 []] [])) (Ar (decide (a0.length=Bd*3)&&decide ((0+Bd)*32<=1099511627776)&&decide (0+Bd<=1099511627776))<|Aa (0+Bd) fun x3=>Aa ([]++a0) fun x4=>Ar (decide (0+x3*3<=x4.length))<|some (A5.mk [.lst false 3 x3 (List.take (x3*3) (List.drop 0 x4))] [])))) (Ad (CX xs) prog fu d):=by kernel_rfl
abbrev I6:FuncId:=27
theorem M9 {xs:FuncId->Option (List PV->Option A5)} (fu d Bd:Nat)(a0:List PV):Ad (CX xs) prog fu (d+1) I6 [.lst false 2 Bd a0]=(fun (call:Ah)=>Bi (decide (0<Bd)) (Ar (decide (a0.length=Bd*2)&&decide ((0+Bd)*16<=1099511627776)&&decide (0+Bd<=1099511627776))<|Aa (0+Bd) fun x1=>Aa ([]++a0) fun x2=>Ar (decide (0+x1*2<=x2.length))<|some (A5.mk [.lst false 2 x1 (List.take (x1*2) (List.drop 0 x2))] [])) (Wp (some (A5.mk [.lst false 2 0 []] [])) (Ar (decide (a0.length=Bd*2)&&decide ((0+Bd)*16<=1099511627776)&&decide (0+Bd<=1099511627776))<|Aa (0+Bd) fun x3=>Aa ([]++a0) fun x4=>Ar (decide (0+x3*2<=x4.length))<|some (A5.mk [.lst false 2 x3 (List.take (x3*2) (List.drop 0 x4))] [])))) (Ad (CX xs) prog fu d):=by kernel_rfl
abbrev Jm:FuncId:=12
theorem O3 {xs:FuncId->Option (List PV->Option A5)} (fu d:Nat)(Aj:Int)(Cc:Nat)(Ao:List PV)(Bm:Nat)(Bc:List PV):Ad (CX xs) prog fu (d+1) Jm [.agg [.sc (.int .u64 Aj),.lst false 3 Cc Ao,.lst false 2 Bm Bc]]=(fun (call:Ah)=>Ai (call 26 [.lst false 3 Cc Ao]) fun x1 x2=>Ac x2<|Ab x1 fun x3 x4=>Fq 3 x3 fun x5 x6 x7=>Ac x4<|Ai (call 27 [.lst false 2 Bm Bc]) fun x8 x9=>Ac x9<|Ab x8 fun C6 Dr=>Fq 2 C6 fun Eg Ez D7=>Ac Dr<|some (A5.mk [.agg [.sc (.int .u64 Aj),.lst false 3 x6 x7,.lst false 2 Ez D7]] [])) (Ad (CX xs) prog fu d):=by kernel_rfl
abbrev Lu:FuncId:=18
noncomputable def Il (fu:Nat)(call:Ah)(Aj Ao Bc:Int)(Cp:Nat)(Cv:List PV)(Fa:Int)(C3:Nat)(Fd:List PV)(C2:Nat)(Fc:List PV)(a1:Int)(nn:Nat)(y0:Int)(y1:Nat)(y2:List PV)(y3 y4 y5:Int)(y6 y7:Nat)(y8 y9:List PV):Option A5:=Du CB prog fu call 18 Tryd.f18 (Ca Tryd.f18) [.agg [.sc (.int .i64 Aj),.sc (.int .i64 Ao),.sc (.int .i64 Bc),.lst false 3 Cp Cv,.sc (.int .i64 Fa),.lst false 1 C3 Fd,.lst false 1 C2 Fc],.sc (.int .u64 a1)] [.r,.l,.r,.l] nn ⟨lk [(1,(.sc (.int .u64 y0))),(4,(.ptr 4 0)),(9,(.lst false 3 y1 y2)),(10,(.sc (.int .i64 y3))),(11,(.sc (.int .i64 y4)))],Br [(4,(.st [(.sc (.int .u64 y5)),(.view 50 3 0 y6),(.view 73 2 0 y7)])),(50,(.ar false y8)),(73,(.ar false y9))]⟩
theorem Ok (fu:Nat)(call:Ah)(Aj Ao Bc:Int)(Cp:Nat)(Cv:List PV)(Fa:Int)(C3:Nat)(Fd:List PV)(C2:Nat)(Fc:List PV)(a1:Int)(nn:Nat)(y0:Int)(y1:Nat)(y2:List PV)(y3 y4 y5:Int)(y6 y7:Nat)(y8 y9:List PV):Il fu call Aj Ao Bc Cp Cv Fa C3 Fd C2 Fc a1 (nn+1) y0 y1 y2 y3 y4 y5 y6 y7 y8 y9=(Bi (decide (y4<y3)) (Ar (decide (0<=y4)&&decide (y4<(↑y1:Int)))<|Ae .u64 (List.getD y2 (Int.toNat y4*3) .top) fun x1=>Fq 3 (List.getD y2 (Int.toNat y4*3+1) .top) fun x2 x3 x4=>Fq 2 (List.getD y2 (Int.toNat y4*3+1+1) .top) fun x5 x6 x7=>Bi (x1==y0) (Ai (call 12 [.agg [.sc (.int .u64 x1),.lst false 3 x3 x4,.lst false 2 x6 x7]]) fun x8 x9=>Ac x9<|Ab x8 fun C6 Dr=>Fm C6 fun Eg=>Ab Eg fun Ez D7=>Ae .u64 Ez fun Ew=>Ab D7 fun Fw Gm=>Fq 3 Fw fun G4 Gi Gy=>Ab Gm fun Jk Ia=>Fq 2 Jk fun Je Fn Eu=>Ac Ia<|Ac Dr<|some (A5.mk [.agg [.sc (.int .u64 Ew),.lst false 3 Gi Gy,.lst false 2 Fn Eu],.sc (.bool true)] [])) (Aa (wrap .i64 (y4+1)) fun Hv=>Il fu call Aj Ao Bc Cp Cv Fa C3 Fd C2 Fc a1 (nn) (y0) (y1) (y2) (y3) Hv (y5) (y6) (y7) (y8) (y9))) (some (A5.mk [.agg [.sc (.int .u64 0),.lst false 3 0 [],.lst false 2 0 []],.sc (.bool false)] []))):=by kernel_rfl
theorem GF {xs:FuncId->Option (List PV->Option A5)} (fu d:Nat)(Aj Ao Bc:Int)(Cp:Nat)(Cv:List PV)(Fa:Int)(C3:Nat)(Fd:List PV)(C2:Nat)(Fc:List PV)(a1:Int):Ad (CX xs) prog fu (d+1) Lu [.agg [.sc (.int .i64 Aj),.sc (.int .i64 Ao),.sc (.int .i64 Bc),.lst false 3 Cp Cv,.sc (.int .i64 Fa),.lst false 1 C3 Fd,.lst false 1 C2 Fc],.sc (.int .u64 a1)]=(fun (call:Ah)=>Il fu call Aj Ao Bc Cp Cv Fa C3 Fd C2 Fc a1 (fu) (a1) (Cp) (Cv) ((↑Cp:Int)) 0 0 0 0 ([]) ([])) (Ad (CX xs) prog fu d):=by kernel_rfl
end
section
open Go.IntKind (wrap)
open Go Go.RowKit
structure Qm (Z Z':Nat->Prop) (w w':World):Prop where
 os:w'.os=w.os
 tape:w'.tape=w.tape
 output:w'.output=w.output
 size:w.heap.size<=w'.heap.size
 keep:∀b,b<w.heap.size->¬Z b->w'.heap[b]?=w.heap[b]?
 sub:∀b,Z b->Z' b
 new:∀b,Z' b->Z b∨w.heap.size<=b
 lt:∀b,Z' b->b<w'.heap.size
 bs:∀b,b<w.heap.size->bsz w b<=bsz w' b
structure L5 (Z:Nat->Prop) (w w':World):Prop where
 os:w'.os=w.os
 tape:w'.tape=w.tape
 output:w'.output=w.output
 size:w.heap.size<=w'.heap.size
 same:∀b,Z b->w'.heap[b]?=w.heap[b]?
theorem L5.sub {Z Z':Nat->Prop}{w w':World}(h:L5 Z w w')(hs:∀b,Z' b->Z b):L5 Z' w w':=⟨h.os,h.tape,h.output,h.size,fun b hb=>h.same b (hs b hb)⟩
def Av9 {α:Type}(P:Program)(gf:Nat)(lb:Array Value)(M:List α->α->Array Value->(Nat->Prop)->World->Prop) (S Sp:List α->Prop)(Pre:(Nat->Prop)->World->Prop):Prop:=
 ∀(l:Nat) (J Jx:(Nat->Prop)->List α->World->Prop) (W:World) (Z0:Nat->Prop),(∀b,Z0 b->b<W.heap.size)->Pre Z0 W ->
  (∀Z pre A B,J Z pre A->L5 Z A B->J Z pre B)->(∀Z pre A B,Jx Z pre A->L5 Z A B->Jx Z pre B) ->
  (∀Z pre x args A,J Z pre A->M pre x args Z A->YieldAt Fence.wide 0 P l args A fun e B=>∃Z',Qm Z Z' A B ∧
   ((e=.returned (.bool true)∧J Z' (pre++[x]) B)∨(e=.returned (.bool false)∧Jx Z' (pre++[x]) B))) ->
  J Z0 [] W ->
  Calls P gf (#[.func (.yield l) #[] #[]]++lb) W fun e B=>(∃v,e=.returned v)∧∃Z xs,(S xs∧J Z xs B)∨(Sp xs∧Jx Z xs B)
theorem KQ {P:Program}{n m l:Nat}{f:FuncId}{tmps:Array Value}{assign body:Code}{w:World}{R:Ending->World->Prop}(h:RoundIn Fence.wide n P l f tmps assign body w R):RoundIn Fence.wide m P l f tmps assign body w R:=
 ⟨h.1,fun c cs _=>h.2 c cs (room_wide _)⟩
def IQ {α:Type}(D:Nat)(I:(Nat->Prop)->List α->World->Prop) (Ix:Code->(Nat->Prop)->List α->World->Prop) (Z:Nat->Prop)(xs:List α)(A:World):Exit->Act->World->Prop:=fun e _ B=>
 ∃Z',Qm Z Z' A B∧B.heap[D]?=A.heap[D]?∧B.heap[D+1]?=A.heap[D+1]? ∧
  match e with
  |.normal=>I Z' xs B
  |.ret=>Ix .ret Z' xs B
  |.exit id=>Ix (.exit id) Z' xs B
  |.goto t=>Ix (.goto t) Z' xs B
  |_=>False
theorem Aj4 {α:Type}{P:Program}{n:Nat}{g:Operand}{ps:Array Tmp}{assign body:Code}{Q:Exit->Act->World->Prop}{a:Act}{w:World}{gf:Nat}{lb:Array Value}
  (hg:a.eval g=.func (.func gf) #[] lb) (eg:∀args w,(callFunc gf args).run P w=.ok (.enter gf args) w)
  {M:List α->α->Array Value->(Nat->Prop)->World->Prop} {S Sp:List α->Prop} {Pre:(Nat->Prop)->World->Prop} (hit:Av9 P gf lb M S Sp Pre) {Z0:Nat->Prop} (hZ0:∀b,Z0 b->b<w.heap.size)
  (Anw:∀W:World,W.heap.size=w.heap.size+2->(∀b,b<w.heap.size->W.heap[b]?=w.heap[b]?)->Pre (fun b=>Z0 b∨b=w.heap.size∨b=w.heap.size+1) W)
  (hM:∀pre x args Z A B,M pre x args Z A->A.heap.size<=B.heap.size->(∀b,b<A.heap.size->¬Z b->B.heap[b]?=A.heap[b]?)->M pre x args Z B)
  (KX:∀pre x args Z A,M pre x args Z A->args.size=ps.size)
  (I:(Nat->Prop)->List α->World->Prop) (Ix:Code->(Nat->Prop)->List α->World->Prop)
  (hI:∀Z pre A B,I Z pre A->L5 (fun b=>Z b∧b≠w.heap.size∧b≠w.heap.size+1) A B->I Z pre B)
  (hIx:∀c Z pre A B,Ix c Z pre A->L5 (fun b=>Z b∧b≠w.heap.size∧b≠w.heap.size+1) A B->Ix c Z pre B)
  (h0:∀W,W.heap.size=w.heap.size+2->L5 (fun b=>b<w.heap.size) w W->I (fun b=>Z0 b∨b=w.heap.size∨b=w.heap.size+1) [] W)
  (a₁:Array Value->Act)
  (FC:∀pre x args Z A (K:Act->World->Prop),M pre x args Z A->K (a₁ args) A->assign.wpIn (Fence.wide.inRound (w.heap.size+1)) 0 P (Exit.then K (fun _ _ _=>False)) { tmps:=(ps.zip args).foldl (fun t (p,v)=>t.setIfInBounds p v) a.tmps,defers:=[] } A)
  (Adj:∀Z pre x args A,Z w.heap.size->Z (w.heap.size+1)->I Z pre A->M pre x args Z A->body.wpIn (Fence.wide.inRound (w.heap.size+1)) 0 P (IQ w.heap.size I Ix Z (pre++[x]) A) (a₁ args) A)
  (Acn:∀Z xs B,S xs->I Z xs B->B.heap[w.heap.size]?=some (.deferred (some []))->Q .normal { a with defers:={ target:=.collected w.heap.size,args:= #[] }::a.defers } B)
  (Ace:∀c Z xs B,Sp xs->Ix c Z xs B->B.heap[w.heap.size]?=some (.deferred (some []))->c.wpIn Fence.wide n P Q { a with defers:={ target:=.collected w.heap.size,args:= #[] }::a.defers } B):
  (Code.rangeFunc g ps assign body).wpIn Fence.wide n P Q a w:=by
 refine wpIn_rangeFunc ?_;intro fn hfn;obtain⟨rec,Wd⟩:∃rec:LoopState->Option Code->Loop,rec=fun st pe=>{ state:=st,pending:=pe,fn,tmps:=a.tmps,params:=ps,assign,body,defers:=w.heap.size }:=⟨_,rfl⟩
 obtain⟨D,hD⟩:∃D,w.heap.size=D:=⟨_,rfl⟩;rw[hD] at hI hIx h0 FC Adj Acn Ace hZ0 Anw;obtain⟨W1,hW1⟩:∃W1,(w.alloc (.deferred (some []))).alloc (.loop (rec .ready none))=W1:=⟨_,rfl⟩;have JA:W1.heap.size=D+2:=by rw[←hW1,World.size_alloc,World.size_alloc,hD]
 have hL1:W1.heap[D+1]?=some (.loop (rec .ready none)):=by
  rw[←hW1,←hD];have:=World.alloc_heap_new (w.alloc (.deferred (some []))) (.loop (rec .ready none));rwa [World.size_alloc] at this
 have hK1:W1.heap[D]?=some (.deferred (some [])):=by
  rw[←hW1,←hD];exact (Below.heap_alloc _ _ _ (by simp)).trans (World.alloc_heap_new w _)
 have Gk:L5 (fun b=>b<D) w W1:=by
  rw[←hW1,←hD];exact⟨rfl,rfl,rfl,by simp;omega,fun b hb=>(Below.heap_alloc _ _ _ (by simp;omega)).trans (Below.heap_alloc _ _ _ hb)⟩
 refine⟨D+1,[{ target:=.collected D,args:= #[] }],W1,{ target:=.fn (.func gf) lb,args:= #[.func (.yield (D+1)) #[] #[]] },W1,gf,
  #[.func (.yield (D+1)) #[] #[]]++lb,W1,?_,?_,fun _ _=>trivial,?_,(fun h=>by cases h),?_⟩
 ·rw[←hW1,Wd,←hD];exact run_enterLoop_outer _ _ _ _ _
 ·simp only[resolve,hg];simp[go_sem]
 ·simp[invoke,go_sem,eg]
 ·have put:∀{Z:Nat->Prop} {A:World} (o:Obj),L5 (fun b=>Z b∧b≠D∧b≠D+1) A (A.putObj (D+1) o):=fun o=>
   ⟨rfl,rfl,rfl,by simp,fun b hb=>World.putObj_heap_other hb.2.2⟩
  refine callsIn_wide.2 (Calls.mono (hit (D+1)
   (fun Z pre A=>(Z D∧Z (D+1))∧I Z pre A∧A.heap[D+1]?=some (.loop (rec .ready none))∧A.heap[D]?=some (.deferred (some [])))
   (fun Z pre A=>(Z D∧Z (D+1))∧∃c,Ix c Z pre A∧A.heap[D+1]?=some (.loop (rec .done (some c)))∧A.heap[D]?=some (.deferred (some [])))
   W1 (fun b=>Z0 b∨b=D∨b=D+1) (fun b hb=>by rw[JA];exact hb.elim (fun h=>by have:=hZ0 b h;omega) fun h=>by omega) (Anw W1 JA (fun b hb=>Gk.same b hb)) ?_ ?_ ?_ ?_) ?_)
  ·rintro Z pre A B ⟨hz,hi,hl,hk⟩ hs
   exact⟨hz,hI Z pre A B hi (hs.sub fun _ h=>h.1),(hs.same _ hz.2).trans hl,(hs.same _ hz.1).trans hk⟩
  ·rintro Z pre A B ⟨hz,c,hi,hl,hk⟩ hs
   exact⟨hz,c,hIx c Z pre A B hi (hs.sub fun _ h=>h.1),(hs.same _ hz.2).trans hl,(hs.same _ hz.1).trans hk⟩
  ·rintro Z pre x args A ⟨hz,hi,hl,hk⟩ hm
   have Cd:D+1<A.heap.size:=(Array.getElem?_eq_some_iff.1 hl).1;have hy:=run_yield (P:=P) (args:=args) hl (by rw[Wd];exact KX pre x args Z A hm)
   rw[Wd] at hy;refine⟨fn,_,assign,body,hy,roundIn_of_wpIn hfn (FC pre x args Z A _ hm ?_)⟩;refine⟨_,run_beginRound hl (by rw[Wd]),?_⟩
   obtain⟨A2,hA2⟩:∃A2,A.putObj (D+1) (.loop { rec .ready none with state:=.busy })=A2:=⟨_,rfl⟩;rw[hA2];have LZ:A2.heap[D+1]?=some (.loop { rec .ready none with state:=.busy }):=by rw[←hA2];exact World.putObj_heap_same Cd
   have Gc:A2.heap[D]?=some (.deferred (some [])):=by rw[←hA2];exact (World.putObj_heap_other (by omega)).trans hk
   have hz2:A2.heap.size=A.heap.size:=by rw[←hA2];simp
   have hi2:I Z pre A2:=by rw[←hA2];exact hI Z pre A _ hi (put _)
   have hm2:M pre x args Z A2:=by
    rw[←hA2];exact hM pre x args Z A _ hm (by simp) fun b _ hb=>World.putObj_heap_other fun e=>hb (e ▸ hz.2)
   refine wpIn_mono (Adj Z pre x args A2 hz.1 hz.2 hi2 hm2) ?_
   have fin:∀(jump:Option Code) (W3:World) (Z':Nat->Prop),Qm Z Z' A2 W3->W3.heap[D]?=A2.heap[D]?->W3.heap[D+1]?=A2.heap[D+1]? ->
     (Instr.endRound (D+1) jump).run P W3=.ok (.bool jump.isNone) (W3.putObj (D+1) (.loop (rec (if jump.isNone then .ready else .done) jump))) ∧
     (W3.putObj (D+1) (.loop (rec (if jump.isNone then .ready else .done) jump))).heap[D+1]?=some (.loop (rec (if jump.isNone then .ready else .done) jump)) ∧
     (W3.putObj (D+1) (.loop (rec (if jump.isNone then .ready else .done) jump))).heap[D]?=some (.deferred (some [])) ∧
     Qm Z Z' A (W3.putObj (D+1) (.loop (rec (if jump.isNone then .ready else .done) jump))):=fun jump W3 Z' ht e1 e2=>by
    have hl3:=e2.trans LZ;have:=run_endRound (P:=P) jump hl3;rw[Wd] at this ⊢;refine⟨this,World.putObj_heap_same (Array.getElem?_eq_some_iff.1 hl3).1,(World.putObj_heap_other (by omega)).trans (e1.trans Gc),?_⟩
    have hA:A2.os=A.os∧A2.tape=A.tape∧A2.output=A.output:=by rw[←hA2];exact⟨rfl,rfl,rfl⟩
    refine⟨ht.os.trans hA.1,ht.tape.trans hA.2.1,ht.output.trans hA.2.2,by have:=ht.size;simp;omega,fun b hb hn=>?_,ht.sub,fun b hb=>by have:=ht.new b hb;rw[hz2] at this;exact this,fun b hb=>by simpa using ht.lt b hb,fun b hb=>?_⟩
    ·have F9:b≠D+1:=fun e=>hn (e ▸ hz.2)
     rw[World.putObj_heap_other F9,ht.keep b (by omega) hn,←hA2,World.putObj_heap_other F9]
    ·by_cases F9:b=D+1
     ·subst F9;unfold bsz;rw[hl];exact Nat.zero_le _
     ·have h5:=ht.bs b (by omega)
      have h6:bsz A2 b=bsz A b:=by unfold bsz;rw[←hA2,World.putObj_heap_other F9]
      have h7:∀o,bsz (W3.putObj (D+1) o) b=bsz W3 b:=fun o=>by unfold bsz;rw[World.putObj_heap_other F9]
      rw[h7,←h6];exact h5
   rintro e a3 W3 ⟨Z',ht,e1,e2,hp⟩
   cases e with
   |normal=>
    obtain⟨hr,hl4,Tc,ht4⟩:=fin none W3 Z' ht e1 e2;exact⟨_,_,hr,Z',ht4,.inl ⟨rfl,⟨ht.sub _ hz.1,ht.sub _ hz.2⟩,hI Z' _ _ _ hp (put _),hl4,Tc⟩⟩
   |ret=>
    obtain⟨hr,hl4,Tc,ht4⟩:=fin (some .ret) W3 Z' ht e1 e2;exact⟨_,_,hr,Z',ht4,.inr ⟨rfl,⟨ht.sub _ hz.1,ht.sub _ hz.2⟩,.ret,hIx _ Z' _ _ _ hp (put _),hl4,Tc⟩⟩
   |exit id=>
    obtain⟨hr,hl4,Tc,ht4⟩:=fin (some (.exit id)) W3 Z' ht e1 e2;exact⟨_,_,hr,Z',ht4,.inr ⟨rfl,⟨ht.sub _ hz.1,ht.sub _ hz.2⟩,.exit id,hIx _ Z' _ _ _ hp (put _),hl4,Tc⟩⟩
   |goto t=>
    obtain⟨hr,hl4,Tc,ht4⟩:=fin (some (.goto t)) W3 Z' ht e1 e2;exact⟨_,_,hr,Z',ht4,.inr ⟨rfl,⟨ht.sub _ hz.1,ht.sub _ hz.2⟩,.goto t,hIx _ Z' _ _ _ hp (put _),hl4,Tc⟩⟩
   |panic ch=>exact hp.elim
   |outgrown=>exact hp.elim
  ·exact⟨⟨.inr (.inl rfl),.inr (.inr rfl)⟩,h0 W1 JA Gk,hL1,hK1⟩
  ·rintro e W2 ⟨⟨v,rfl⟩,Z,xs,(⟨hS,hz,hi,hl,hk⟩|⟨hSp,hz,c,hi,hl,hk⟩)⟩
   ·exact⟨none,_,by have:=run_endLoop (P:=P) hl (by rw[Wd];simp);rw[Wd] at this;exact this,Acn Z xs _ hS (hI Z _ _ _ hi (put _)) ((World.putObj_heap_other (by omega)).trans hk)⟩
   ·exact⟨some c,_,by have:=run_endLoop (P:=P) hl (by rw[Wd];simp);rw[Wd] at this;exact this,Ace c Z xs _ hSp (hIx c Z _ _ _ hi (put _)) ((World.putObj_heap_other (by omega)).trans hk)⟩
def Al1 (s:St)(β:Bt):Fp:={ X:=BZ s.hp β,L:=fun b _=>BZ s.hp β b,pn:=fun _=>False,pt:=fun _=>none,p8:=fun _ h=>h.elim }
theorem B4.rebase {N:Nat}{w0 w w':World}{X0:Fp}{Y Z':Nat->Prop}{β:Bt}{s:St}{a:Act}(h:B4 N w0 X0 Y β s a w)(ht:Qm Y Z' w w')(hns:∀id c,s.hp id≠some (.st c)):B4 N w' (Al1 s β) Z' β s a w':=by
 have hW:Co (Db s.hp β Y) w w':=⟨ht.size,fun b hb hn=>ht.keep b hb fun y=>hn (.inr y),ht.bs⟩
 have hA:∀b,b<w.heap.size->Db s.hp β Z' b->Db s.hp β Y b:=by
  rintro b hb (hx|hz)
  ·exact .inl hx
  ·rcases ht.new b hz with h1|h1
   ·exact .inr h1
   ·omega
 have Wi:∀b,b<w.heap.size->¬Y b->w'.heap[b]?=w.heap[b]?:=ht.keep
 refine⟨h.dfr,h.tsz,h.tmo,fun i hi=>(h.tms i hi).step hW hA fun _ _=>rfl,fun id bx Mx=>?_,h.inj,fun id b o h1 h2=>Nat.lt_of_lt_of_le (h.blt id b o h1 h2) ht.size,h.wfT,h.wfB,fun b hb=>.inl hb,
  fun id bx b o h1 h2 h3 _ j _=>⟨id,o,by rw[h1];exact h2,h3⟩,fun i hi=>hi.elim,fun id c b o h1=>absurd h1 (hns id c),fun b hz=>?_,ht.lt,⟨rfl,rfl,rfl,⟨Nat.le_refl _,fun _ _ _=>rfl,fun _ _=>Nat.le_refl _⟩,fun _ _ _ _=>⟨rfl,rfl⟩⟩⟩
 ·cases bx with
  |st c=>exact absurd Mx (hns id c)
  |mv=>trivial
  |ar fz cells=>
   rcases h.box id _ Mx with h1|⟨b,o,h1,h2,h3,h4⟩
   ·exact .inl h1
   ·have Cd:b<w.heap.size:=h.blt id b o (by rw[Mx];simp) h1
    have hnY:¬Y b:=by
     cases fz with
     |false=>exact fun y=>h.Yx b y ⟨id,o,by rw[Mx];trivial,h1⟩
     |true=>exact fun y=>h4 rfl (.inr y)
    have hh:=Wi b Cd hnY;have Ip:bsz w' b=bsz w b:=by unfold bsz;rw[hh]
    refine .inr ⟨b,o,h1,fun j c hj=>?_,fun hf j hj hjb=>?_,fun hf=>fun hA'=>h4 hf (hA b Cd hA')⟩
    ·obtain⟨v,hv,hv1,hv2⟩:=h2 j c hj;exact⟨v,(World.cell?_of_block (a:=(⟨b,o,none⟩:Addr).add j) (by rw[G9];exact hh)).trans hv,hv1,hv2.step hW hA⟩
    ·rw[Ip] at hjb;have:=h3 hf j hj hjb;rw[←this];unfold World.frozen?;simp only[hh]
 ·rintro⟨id,o,h1,h2⟩
  have Cd:b<w.heap.size:=h.blt id b o (Dg h1) h2;rcases ht.new b hz with h3|h3
  ·exact h.Yx b h3 ⟨id,o,h1,h2⟩
  ·omega
theorem B4.stay {N:Nat}{w0 w:World}{X0:Fp}{Y:Nat->Prop}{β:Bt}{s:St}{a:Act}(h:B4 N w0 X0 Y β s a w)(hd:∀b,Y b->¬X0.X b):L5 Y w0 w:=
 ⟨h.fr.os,h.fr.tape,h.fr.output,h.fr.step.size,fun b hb=>h.fr.step.keep b (h.Ylt b hb) (hd b hb)⟩
end
section
open Go.IntKind (wrap)
open Go Go.RowKit
abbrev WF (ro:Option Nat):Fence:={ fn:=fun _=>True,depth:=none,alive:=false,round:=ro }
def Aak (o:Oper):Bool:=
 match o.op with
 |.defer _=>false
 |_=>true
def okR:Code->Bool
 |.region _ ops _=>ops.toList.all Aak
 |.seq a b=>okR a&&okR b
 |.cond _ a b=>okR a&&okR b
 |.block _ c=>okR c
 |.loop c=>okR c
 |.skip=>true
 |.exit _=>true
 |.ret=>true
 |_=>false
theorem FI {P:Program}{o:Oper}{a:Act}{w:World}{next:Act->World->Prop}{Q:Exit->Act->World->Prop}{ro:Option Nat}{n:Nat}(hd:Aak o=true)(h:o.wp P a w next Q):o.wpIn (WF ro) n P a w next Q:=by
 refine⟨fun _ _=>trivial,?_⟩
 have e:o.semAt (WF ro).round a.eval=execOp a.eval o:=Oper.semAt_eq _ _ _ (by intro c hc;unfold Aak at hd;rw[hc] at hd;cases hd)
 rw[e];unfold Oper.wp at h
 revert h
 generalize (execOp a.eval o).run P w=q;intro h;cases q with
 |halt x w'=>cases x<;>first|exact h|exact h.elim
 |ok v w'=>
  cases v with
  |value v=>exact h
  |skip=>exact h
  |defer d=>exact h
  |enter f args=>exact⟨(fun h=>by cases h),(callsIn_wide.2 h:CallsIn Fence.wide (n-1) P f args w' _)⟩
  |row row args=>exact⟨(fun h=>by cases h),fun c cs _=>let ⟨v,w',r,s⟩:=h c cs;⟨v,w',r,stepsIn_wide.2 s⟩⟩
  |_=>exact h.elim
theorem YV {P:Program}{ops:Array Oper}{Q:Exit->Act->World->Prop}{K K':Act->World->Prop}{ro:Option Nat}{i n:Nat}{a:Act}{w:World}(CL:¬LetsOut Q)(SA:ops.toList.all Aak=true)(hK:∀a w,K a w->K' a w)(h:wpOp P ops Q i K a w):wpOpIn (WF ro) n P ops Q i K' a w:=by
 unfold wpOp at h;unfold wpOpIn;cases ho:ops[i]? with
 |none=>rw[ho] at h;exact hK _ _ h
 |some o=>
  rw[ho] at h;simp only at h ⊢;have hn:Aak o=true:=List.all_eq_true.1 SA o (Array.mem_toList_iff.2 (Array.mem_of_getElem? ho));by_cases hw:Region.wanted o (yielded ops a.tmps)=true
  ·rw[Cy hw] at h ⊢;rcases h with h|h
   ·exact FI hn (Oper.wp_mono hK h)
   ·exact absurd h.2 CL
  ·rw[Bj hw] at h ⊢;exact⟨fun _ _=>trivial,hK _ _ h⟩
theorem Tm {P:Program}{ops:Array Oper}{Q:Exit->Act->World->Prop}{ro:Option Nat}{n:Nat}{md:Region.Mode}(CL:¬LetsOut Q)(SA:ops.toList.all Aak=true):∀(fuel:Nat)(listed:Array Bool)(a:Act)(w:World),wpAny P md ops Q fuel listed a w->wpAnyIn (WF ro) n P md ops Q fuel listed a w
 |0,_,_,_,h=>h
 |fuel+1,_,_,_,h=>⟨h.1,fun i hi=>YV CL SA (fun a w=>Tm CL SA fuel _ a w) (h.2 i hi)⟩
section
variable {P:Program} {C:I3} {N:Nat} {call:Ah} {w0:World} {X0:Fp} {Y:Nat->Prop} {R:Type} {r:R} {β:Bt} {s:St} {a:Act} {w:World} {o:Oper} {ops:Array Oper} {K:St->Option R} {ro:Option Nat} {n:Nat}
theorem KY (h:B4 N w0 X0 Y β s a w){G:Us}(Ja:JJ P G w0 X0)(C4:∀f args res,call f args=some res->C7 G P f args res)(SA:Aak o=true)(hk:Ee C P N call ops o s K=some r):
  ∃s',K s'=some r∧∀(next:Act->World->Prop) (Q:Exit->Act->World->Prop),(∀a' w' β',B4 N w0 X0 Y β' s' a' w'->next a' w') ->
   if Region.wanted o (yielded ops a.tmps) then o.wpIn (WF ro) n P a w next Q else (∀f,o.about P w a.eval=some f->(WF ro).fn f)∧next (a.put o.dst undef) w:=by
 rw[NE] at hk
 have hw:∀b,Hx ops o s.tm=some b->Region.wanted o (yielded ops a.tmps)=b:=by
  intro b hb;unfold Hx at hb;unfold Region.wanted;cases hg:o.guard with
  |none=>rw[hg] at hb;simpa using hb
  |some q=>
   obtain⟨j,want⟩:=q;rw[hg] at hb;simp only at hb ⊢;cases hd:(ops[j]?).bind (·.dst) with
   |none=>rw[hd] at hb;cases hb
   |some d=>
    rw[hd] at hb;simp only at hb;split at hb
    ·rename_i b' ht;rw[Vw h hd ht];simp at hb;rw[←hb];cases b'<;>cases want<;>rfl
    ·rename_i ht;rw[Vw h hd ht];simp at hb;rw[hb];rfl
    ·cases hb
 split at hk
 ·cases hk
 ·rename_i hv;obtain⟨s',hs',hn⟩:=OO h Ja C4 hk;refine⟨s',hs',fun next Q PL=>?_⟩
  simp only[hw _ hv,if_true];exact FI SA (hn next Q PL)
 ·rename_i hv;obtain⟨hd,hk⟩:=As hk;refine⟨_,hk,fun next Q PL=>?_⟩
  simp only[hw _ hv];exact⟨fun _ _=>trivial,PL _ _ β (h.put hd (Aw.sc _) (by simp[B7,Cj,Av]))⟩
theorem AN {G:Us}(Ja:JJ P G w0 X0)(C4:∀f args res,call f args=some res->C7 G P f args res){Q:Exit->Act->World->Prop}(hQ:∀s' a' w' β',K s'=some r->B4 N w0 X0 Y β' s' a' w'->Q .normal a' w'):
  ∀(li:List Nat) (os:List Oper),li.length=os.length->(∀(k i:Nat),li[k]?=some i->ops[i]?=os[k]?)->os.all Aak=true->∀{s:St} {a:Act} {w:World} {β:Bt},B4 N w0 X0 Y β s a w->Ke C P N call ops os s K=some r->wpOpsIn (WF ro) n P ops Q li a w
 |[],[],_,_,_,s,a,w,β,h,hk=>by
  show Q .normal a w;exact hQ s a w β hk h
 |[],_::_,hl,_,_,_,_,_,_,_,_=>by cases hl
 |_::_,[],hl,_,_,_,_,_,_,_,_=>by cases hl
 |i::li,o::os,hl,hi,SA,s,a,w,β,h,hk=>by
  obtain⟨s1,hk,h⟩:=V0 h hk;rw[List.all_cons,Bool.and_eq_true] at SA;have hio:ops[i]?=some o:=by simpa using hi 0 i rfl
  obtain⟨s',hs',hn⟩:=KY (ro:=ro) (n:=n) h Ja C4 SA.1 hk;unfold wpOpsIn;rw[hio];exact hn _ _ fun a' w' β' h'=>AN Ja C4 hQ li os (by simpa using hl) (fun k j hj=>by simpa using hi (k+1) j (by simpa using hj)) SA.2 h' hs'
theorem KD {c:Code}{Q:Exit->Act->World->Prop}{F:(St->Option R)->St->Option R} {nm:St->(St->Option R)->Option R}
  (hnm:∀{β s a w} {K:St->Option R},B4 N w0 X0 Y β s a w->nm s K=some r->∃β' s',K s'=some r∧B4 N w0 X0 Y β' s' a w)
  (hF:∀{β s a w} {K:St->Option R}{Q':Act->World->Prop},B4 N w0 X0 Y β s a w->F K s=some r->(∀s' a' w' β',K s'=some r->B4 N w0 X0 Y β' s' a' w'->Q' a' w')->c.wpIn (WF ro) n P (Exit.then Q' Q) a w):
  ∀(m:Nat) {β s a w},B4 N w0 X0 Y β s a w->SJ F nm m s=some r->Code.roundsIn (WF ro) n P c Q m a w
 |0,_,_,_,_,_,hk=>by cases hk
 |m+1,β,s,a,w,h,hk=>by
  rw[roundsIn_succ];refine hF h hk fun s' a' w' β' Iu h'=>?_
  obtain⟨β1,s1,D4,h1⟩:=hnm h' Iu;exact KD hnm hF m h1 D4
theorem JX {G:Us}(Ja:JJ P G w0 X0)(C4:∀f args res,call f args=some res->C7 G P f args res)(hm:P.follows .mixedOrders=true){fu:Nat}:
  ∀(c:Code),okR c=true->∀{ln:Nat} {lx:Nat->Nat} {lr:Nat} {kn:St->Option R} {kx:Nat->St->Option R} {kr:St->Option R} {β:Bt} {s:St} {a:Act} {w:World} {Q:Exit->Act->World->Prop},(∀a w,¬Q .outgrown a w)->B4 N w0 X0 Y β s a w ->
   Mq C P fu N call c ln lx lr kn kx kr s=some r->(∀s' a' w' β',kn s'=some r->B4 N w0 X0 Y β' s' a' w'->Q .normal a' w') ->
   (∀id s' a' w' β',kx id s'=some r->B4 N w0 X0 Y β' s' a' w'->Q (.exit id) a' w')->(∀s' a' w' β',kr s'=some r->B4 N w0 X0 Y β' s' a' w'->Q .ret a' w')->c.wpIn (WF ro) n P Q a w:=by
 intro c
 induction c with
 |skip=>intro _ ln lx lr kn kx kr β s a w Q CL h hk hn hx hr;exact wpIn_skip (hn s a w β hk h)
 |region id ops draw=>
  intro ho ln lx lr kn kx kr β s a w Q CL h hk hn hx hr;unfold okR at ho;unfold Mq at hk;cases draw
  ·simp only[SI,Bool.false_and,cond_false] at hk;refine wpIn_region (AN Ja C4 hn (List.range ops.size) ops.toList (by simp) (fun k i hi=>?_) ho h hk)
   rw[List.getElem?_range] at hi
   ·simp at hi;subst hi;simp
   ·rcases Nat.lt_or_ge k ops.size with h'|h'
    ·exact h'
    ·rw[List.getElem?_eq_none (by simpa using h')] at hi;cases hi
  ·have hLo:¬LetsOut Q:=fun ⟨a,w,q⟩=>CL a w q
   simp only[SI,Aoi,Bool.true_and,cond_true] at hk;cases hb:NU C P ops<;>rw[hb] at hk
   ·obtain⟨Ip,D4⟩:=As (show Ar _ _=some r from hk)
    exact wpIn_region_any hm (Tm hLo ho _ _ _ _ (Wg h Ja C4 hm Ip D4 hn))
   ·exact wpIn_region_any hm (Tm hLo ho _ _ _ _ (Um h Ja C4 hm hb hk hn))
 |seq c1 c2 ih1 ih2=>
  intro ho ln lx lr kn kx kr β s a w Q CL h hk hn hx hr;unfold okR at ho;rw[Bool.and_eq_true] at ho;unfold Mq at hk
  refine wpIn_seq (ih1 ho.1 (fun a w=>CL a w) h hk (fun s' a' w' β' Iu h'=>by
    cases hc:Aho P c1 c2
    ·rw[hc] at Iu;exact ih2 ho.2 CL h' Iu hn hx hr
    ·rw[hc] at Iu;cases hq:FD c1 c2
     ·rw[hq] at Iu;obtain⟨β1,s1,D4,h1⟩:=B6 h' (show Ir _ _ _ _=some r from Iu)
      exact ih2 ho.2 CL h1 (Y6 D4) hn hx hr
     ·rw[hq] at Iu;obtain⟨β1,s1,D4,h1⟩:=LD h' (show Acb _ _ _ _=some r from Iu)
      exact ih2 ho.2 CL h1 (Y6 D4) hn hx hr) (fun id s' a' w' β' Iu h'=>hx id s' a' w' β' Iu h') (fun s' a' w' β' Iu h'=>hr s' a' w' β' Iu h'))
 |cond c c1 c2 ih1 ih2=>
  intro ho ln lx lr kn kx kr β s a w Q CL h hk hn hx hr;unfold okR at ho;rw[Bool.and_eq_true] at ho;unfold Mq at hk;rcases KH h hk with⟨hc,D4⟩|⟨hc,D4⟩
  ·exact wpIn_cond_true hc (ih1 ho.1 CL h D4 hn hx hr)
  ·exact wpIn_cond_false hc (ih2 ho.2 CL h D4 hn hx hr)
 |block id c ih=>
  intro ho ln lx lr kn kx kr β s a w Q CL h hk hn hx hr;unfold okR at ho;unfold Mq at hk;refine wpIn_block (ih ho (fun a w=>CL a w) h hk (fun s' a' w' β' Iu h'=>hn s' a' w' β' Iu h') (fun j s' a' w' β' Iu h'=>?_) (fun s' a' w' β' Iu h'=>hr s' a' w' β' Iu h'))
  show (if j=id then _ else _)
  by_cases e:j=id
  ·subst e;rw[Cy rfl];rw[Nat.beq_refl] at Iu;exact hn s' a' w' β' Iu h'
  ·rw[Bj e]
   have:Nat.beq j id=false:=by
    cases hb:Nat.beq j id
    ·rfl
    ·exact absurd (Nat.eq_of_beq_eq_true hb) e
   rw[this] at Iu;exact hx j s' a' w' β' Iu h'
 |loop c ih=>
  intro ho ln lx lr kn kx kr β s a w Q CL h hk hn hx hr;unfold okR at ho;unfold Mq at hk;obtain⟨β1,s1,D4,h1⟩:=B6 h hk;refine wpIn_loop_rounds fu (KD (fun h hk=>B6 h hk) (fun h hk hQ=>?_) fu h1 D4)
  exact ih ho (fun a w=>CL a w) h hk hQ (fun id s' a' w' β' Iu h'=>hx id s' a' w' β' Iu h') (fun s' a' w' β' Iu h'=>hr s' a' w' β' Iu h')
 |«exit» id=>intro _ ln lx lr kn kx kr β s a w Q CL h hk hn hx hr;exact wpIn_exit (hx id s a w β hk h)
 |ret=>intro _ ln lx lr kn kx kr β s a w Q CL h hk hn hx hr;exact wpIn_ret (hr s a w β hk h)
 |_=>intro ho;cases ho
end
end
section
open Go.IntKind (wrap)
open Go Go.RowKit
theorem P3:∀(l:List (Nat × PV)) (i:Nat),lk l i=.top∨∃q∈l,q.1=i∧lk l i=q.2
 |[],_=>.inl rfl
 |(j,p)::l,i=>by
  by_cases e:i=j
  ·subst e;refine .inr ⟨(i,p),by simp,rfl,?_⟩
   simp[lk,Nat.beq_refl]
  ·have hb:Nat.beq i j=false:=by
    cases h:Nat.beq i j
    ·rfl
    ·exact absurd (Nat.eq_of_beq_eq_true h) e
   have Ip:Nat.beq j i=false:=by
    cases h:Nat.beq j i
    ·rfl
    ·exact absurd (Nat.eq_of_beq_eq_true h).symm e
   have h1:lk ((j,p)::l) i=lk l i:=by simp[lk,hb,Ip]
   rw[h1];rcases P3 l i with h|⟨q,hq,h2,h3⟩
   ·exact .inl h
   ·exact .inr ⟨q,List.mem_cons_of_mem _ hq,h2,h3⟩
theorem Rb:∀(l:List (Nat × Bx)) (i:Nat),Br l i=none∨∃q∈l,q.1=i∧Br l i=some q.2
 |[],_=>.inl rfl
 |(j,p)::l,i=>by
  by_cases e:i=j
  ·subst e;refine .inr ⟨(i,p),by simp,rfl,?_⟩
   simp[Br,Nat.beq_refl]
  ·have hb:Nat.beq i j=false:=by
    cases h:Nat.beq i j
    ·rfl
    ·exact absurd (Nat.eq_of_beq_eq_true h) e
   have Ip:Nat.beq j i=false:=by
    cases h:Nat.beq j i
    ·rfl
    ·exact absurd (Nat.eq_of_beq_eq_true h).symm e
   have h1:Br ((j,p)::l) i=Br l i:=by simp[Br,hb,Ip]
   rw[h1];rcases Rb l i with h|⟨q,hq,h2,h3⟩
   ·exact .inl h
   ·exact .inr ⟨q,List.mem_cons_of_mem _ hq,h2,h3⟩
theorem WN {P:Program}{a:Act}{w:World}{o:Oper}{c:Call}{t l:Nat}(ho:o.op=.call c)(hc:c.callee=.value (.tmp t)) (ht:a.eval (.tmp t)=.func (.yield l) #[] #[]) {r:Result Next}(hy:(Instr.yield l (c.args.map a.eval)).run P w=r):
  (execOp a.eval o).run P w=r:=by
 unfold execOp;rw[ho];simp[resolve,hc,ht,Deferred.ofValue,invoke,hy]
section
variable {P:Program} {C:I3} {N:Nat} {call:Ah} {w0:World} {X0:Fp} {Y:Nat->Prop} {R:Type} {r:R} {β:Bt} {s:St} {a:Act} {w:World} {o:Oper} {ops:Array Oper} {K:St->Option R} {ro:Option Nat} {n:Nat}
theorem B4.part (h:B4 N w0 X0 Y β s a w)(tm':Nat->PV)(C1:Nat->Option Bx)(ht:∀i,tm' i=.top∨tm' i=s.tm i)(hh:∀id,C1 id=none∨C1 id=s.hp id)
  (hw:∀i,i<N->∀id∈B7 (tm' i),C1 id≠none) (hwB:∀id cells,C1 id=some (.st cells)->∀c∈cells,∀id'∈Av c,C1 id'≠none) (Xg:∀i,X0.pn i->C1 (Dh N i)≠none):B4 N w0 X0 Y β ⟨tm',C1⟩ a w:=by
 have hX:∀b,BZ C1 β b->BZ s.hp β b:=by
  rintro b ⟨id,o,h1,h2⟩
  rcases hh id with e|e
  ·rw[e] at h1;exact h1.elim
  ·rw[e] at h1;exact⟨id,o,h1,h2⟩
 have hA:∀b,Db C1 β Y b->Db s.hp β Y b:=fun b hb=>hb.elim (fun x=>.inl (hX b x)) .inr
 have hs:∀{id bx},C1 id=some bx->s.hp id=some bx:=by
  intro id bx e;rcases hh id with e'|e'
  ·rw[e'] at e;cases e
  ·rw[←e'];exact e
 have hn:∀{id},C1 id≠none->s.hp id≠none:=by
  intro id e;rcases hh id with e'|e'
  ·exact absurd e' e
  ·rw[←e'];exact e
 have hl:∀{id},Cs (C1 id)->Cs (s.hp id):=by
  intro id e;rcases hh id with e'|e'
  ·rw[e'] at e;exact e.elim
  ·rw[←e'];exact e
 have Gk:Co (Db s.hp β Y) w w:=⟨Nat.le_refl _,fun _ _ _=>rfl,fun _ _=>Nat.le_refl _⟩
 refine⟨h.dfr,h.tsz,fun i hi=>?_,fun i hi=>?_,fun id bx Mx=>?_,fun id id' b o o' h1 h2=>h.inj id id' b o o' (hl h1) (hl h2),fun id b o h1 h2=>h.blt id b o (hn h1) h2,hw,hwB,fun b hb=>h.ownd b (hX b hb),fun id bx b o h1 h2 h3 h4=>h.rngB id bx b o (hs h1) h2 h3 h4,
  fun i hi=>⟨Xg i hi,(h.pin i hi).2⟩,fun id c b o h1=>h.stp id c b o (hs h1),fun b hy hx=>h.Yx b hy (hX b hx),h.Ylt,h.fr⟩
 ·rcases ht i with e|e
  ·exact e
  ·exact e.trans (h.tmo i hi)
 ·show Ed w (Db C1 β Y) β (tm' i) _;rcases ht i with e|e
  ·rw[e];exact Aw.top _
  ·rw[e];exact (h.tms i hi).step Gk (fun b _=>hA b) fun _ _=>rfl
 ·have h0:=h.box id bx (hs Mx);exact h0.step' hA
theorem B4.pick (h:B4 N w0 X0 Y β s a w)(l:List (Nat × PV)) (bl:List (Nat × Bx)) (hl:∀q∈l,q.2=s.tm q.1)(hb:∀q∈bl,some q.2=s.hp q.1)
  (hw:∀q∈l,∀id∈B7 q.2,Br bl id≠none)(hwB:∀q∈bl,∀cells,q.2=.st cells->∀c∈cells,∀id'∈Av c,Br bl id'≠none)(Xg:∀i,X0.pn i->Br bl (Dh N i)≠none):B4 N w0 X0 Y β ⟨lk l,Br bl⟩ a w:=by
 refine h.part (lk l) (Br bl) (fun i=>?_) (fun id=>?_) (fun i _ id Bo=>?_) (fun id cells e=>?_) Xg
 ·rcases P3 l i with e|⟨q,hq,h1,h2⟩
  ·exact .inl e
  ·exact .inr (by rw[h2,hl q hq,h1])
 ·rcases Rb bl id with e|⟨q,hq,h1,h2⟩
  ·exact .inl e
  ·exact .inr (by rw[h2,hb q hq,h1])
 ·rcases P3 l i with e|⟨q,hq,h1,h2⟩
  ·rw[e] at Bo;simp[B7,Cj,Av] at Bo
  ·rw[h2] at Bo;exact hw q hq id Bo
 ·rcases Rb bl id with e'|⟨q,hq,h1,h2⟩
  ·rw[e'] at e;cases e
  ·rw[h2] at e;exact hwB q hq cells (by injection e)
theorem Gh {G:Us}(Ja:JJ P G w0 X0)(C4:∀f args res,call f args=some res->C7 G P f args res){Q:Exit->Act->World->Prop}{rest:List Nat}(hQ:∀s' a' w' β',K s'=some r->B4 N w0 X0 Y β' s' a' w'->wpOpsIn (WF ro) n P ops Q rest a' w'):
  ∀(li:List Nat) (os:List Oper),li.length=os.length->(∀(k i:Nat),li[k]?=some i->ops[i]?=os[k]?)->os.all Aak=true->∀{s:St} {a:Act} {w:World} {β:Bt},B4 N w0 X0 Y β s a w->Ke C P N call ops os s K=some r->wpOpsIn (WF ro) n P ops Q (li++rest) a w
 |[],[],_,_,_,s,a,w,β,h,hk=>hQ s a w β hk h
 |[],_::_,hl,_,_,_,_,_,_,_,_=>by cases hl
 |_::_,[],hl,_,_,_,_,_,_,_,_=>by cases hl
 |i::li,o::os,hl,hi,SA,s,a,w,β,h,hk=>by
  obtain⟨s1,hk,h⟩:=V0 h hk;rw[List.all_cons,Bool.and_eq_true] at SA;have hio:ops[i]?=some o:=by simpa using hi 0 i rfl
  obtain⟨s',hs',hn⟩:=KY (ro:=ro) (n:=n) h Ja C4 SA.1 hk;rw[Zzp];unfold wpOpsIn;rw[hio];exact hn _ _ fun a' w' β' h'=>Gh Ja C4 hQ li os (by simpa using hl) (fun k j hj=>by simpa using hi (k+1) j (by simpa using hj)) SA.2 h' hs'
end
end
section
open Go.IntKind (wrap)
open Go Go.RowKit
abbrev R1 (ds:List Deferred)(a:Act):Act:={ a with defers:=a.defers++ds }
def TD (ds:List Deferred)(Q:Exit->Act->World->Prop):Exit->Act->World->Prop:=fun e a w=>∃a0:Act,a=R1 ds a0∧Q e a0 w
section
variable {P:Program} {ops:Array Oper} {Q:Exit->Act->World->Prop} {ro:Option Nat} {n:Nat} {ds:List Deferred}
theorem Rk (a:Act)(d:Option Tmp)(v:Value):(R1 ds a).put d v=R1 ds (a.put d v):=by cases d<;>rfl
theorem Aqn (h:LetsOut Q):LetsOut (TD ds Q):=let ⟨a,w,q⟩:=h;⟨_,w,a,rfl,q⟩
theorem Ale {o:Oper}{a:Act}{w:World}{K K':Act->World->Prop}(hK:∀a w,K a w->K' (R1 ds a) w) (h:o.wpIn (WF ro) n P a w K Q):o.wpIn (WF ro) n P (R1 ds a) w K' (TD ds Q):=by
 refine⟨fun _ _=>trivial,?_⟩
 have h:=h.2;show o.uponIn _ _ _ _ _ _ ((o.semAt (WF ro).round a.eval).run P w);generalize (o.semAt (WF ro).round a.eval).run P w=q at h;cases q with
 |halt x w'=>cases x<;>first|exact⟨a,rfl,h⟩|exact h.elim
 |ok v w'=>
  cases v with
  |value v=>show K' ((R1 ds a).put o.dst v) w';rw[Rk];exact hK _ _ h
  |skip=>show K' ((R1 ds a).put o.dst undef) w';rw[Rk];exact hK _ _ h
  |defer d=>
   show K' (({ (R1 ds a) with defers:=d::(R1 ds a).defers }:Act).put o.dst undef) w';rw[show ({ (R1 ds a) with defers:=d::(R1 ds a).defers }:Act)=R1 ds { a with defers:=d::a.defers } from rfl,Rk]
   exact hK _ _ h
  |enter f args=>
   refine⟨h.1,h.2.mono ?_⟩;intro e w'' he;cases e with
   |returned v=>show K' ((R1 ds a).put o.dst v) w'';rw[Rk];exact hK _ _ he
   |panicked c=>exact⟨a,rfl,he⟩
   |outgrown=>exact Aqn he
  |row row args=>
   refine⟨h.1,h.2.mono ?_⟩;intro v w'' he;show K' ((R1 ds a).put o.dst v) w'';rw[Rk];exact hK _ _ he
  |round l f tmps assign body=>
   refine⟨h.1,h.2.mono ?_⟩;intro e w'' he;cases e with
   |returned v=>show K' ((R1 ds a).put o.dst v) w'';rw[Rk];exact hK _ _ he
   |panicked c=>exact⟨a,rfl,he⟩
   |outgrown=>exact Aqn he
  |_=>exact h.elim
theorem Vf:∀(li:List Nat){a:Act}{w:World},wpOpsIn (WF ro) n P ops Q li a w->wpOpsIn (WF ro) n P ops (TD ds Q) li (R1 ds a) w
 |[],a,w,h=>⟨a,rfl,h⟩
 |i::li,a,w,h=>by
  rw[wpOpsIn_cons] at h ⊢;unfold wpOpIn at h ⊢;cases ho:ops[i]? with
  |none=>rw[ho] at h;exact Vf li h
  |some o=>
   rw[ho] at h;simp only at h ⊢;by_cases hw:Region.wanted o (yielded ops a.tmps)=true
   ·rw[Cy hw] at h ⊢;exact Ale (fun a w=>Vf li) h
   ·rw[Bj hw] at h ⊢;refine⟨fun _ _=>trivial,?_⟩
    rw[Rk];exact Vf li h.2
end
structure Agb (w w':World):Prop where
 os:w'.os=w.os
 tape:w'.tape=w.tape
 output:w'.output=w.output
 size:w'.heap.size=w.heap.size
 cell:∀a,w'.cell? a=w.cell? a
 frz:∀a,w'.frozen? a=w.frozen? a
 bs:∀b,bsz w' b=bsz w b
theorem Aw.same {w w':World}{A:Nat->Prop}(h:Agb w w'){p:PV}{v:Value}(t:Aw w A p v):Aw w' A p v:=by
 induction t with
 |sc v=>exact .sc v
 |top v=>exact .top v
 |ub b=>exact .ub b
 |lnil z es=>exact .lnil z es
 |lemp es a cap=>exact .lemp es a cap
 |lst es n cells a cap f hs hb hA1 hn hc h1 hr ih=>exact .lst es n cells a cap f hs (by rw[h.size];exact hb) hA1 hn (fun j c hj=>by rw[h.cell];exact hc j c hj) h1 (fun j c hj=>ih j c hj)
theorem TN.same {w w':World}{A:Nat->Prop}(h:Agb w w'){a:Addr}{c:List PV}(t:TN w A a c):TN w' A a c:=fun j x hj=>by
 obtain⟨v,h1,h2,h3⟩:=t j x hj;exact⟨v,by rw[h.cell];exact h1,h2,h3.same h⟩
theorem Ci.same {w w':World}{A:Nat->Prop}{β:Nat->Option (Nat × Nat)} (h:Agb w w'){p:PV}{v:Value}(t:Ci w A β p v):Ci w' A β p v:=by
 cases p with
 |view id es off n=>
  rcases t with t|⟨b,o,x,cap,h1,h2,hx,h3,h4,h5⟩
  ·exact .inl t
  ·exact .inr ⟨b,o,x,cap,h1,h2,hx,h3,by rw[h.bs];exact h4,by rw[h.size];exact h5⟩
 |ptr id off=>exact t
 |iptr c off=>
  obtain⟨a,h1,h2,h3,h4,h5⟩:=t;exact⟨a,h1,h2,by rw[h.size];exact h3,h4,h5.same h⟩
 |_=>exact Aw.same h t
theorem Bw.imp' {α β:Type}{R S:α->β->Prop}{zs:List α}{bs:List β}(h:Bw R zs bs)(f:∀a b,R a b->S a b):Bw S zs bs:=h.mono f
theorem H2.same {w w':World}{A:Nat->Prop}{β:Nat->Option (Nat × Nat)} (h:Agb w w'){p:PV}{v:Value}(t:H2 w A β p v):H2 w' A β p v:=by
 cases p with
 |agg cs=>obtain⟨vs,h1,h2⟩:=t;exact⟨vs,h1,h2.imp' fun _ _=>Ci.same h⟩
 |_=>exact (V6 (by intro cs e;cases e)).2 (Ci.same h ((V6 (by intro cs e;cases e)).1 t))
theorem Ed.same {w w':World}{A:Nat->Prop}{β:Nat->Option (Nat × Nat)} (h:Agb w w'){p:PV}{v:Value}(t:Ed w A β p v):Ed w' A β p v:=by
 cases p with
 |tup cs=>obtain⟨vs,h1,h2⟩:=t;exact⟨vs,h1,h2.imp' fun _ _=>H2.same h⟩
 |_=>exact (Qc (by intro cs e;cases e)).2 (H2.same h ((Qc (by intro cs e;cases e)).1 t))
theorem B4.same {N:Nat}{w0 w w':World}{X0:Fp}{Y:Nat->Prop}{β:Bt}{s:St}{a:Act}(h:B4 N w0 X0 Y β s a w)(hs:Agb w w')(h0:∀b,b<w0.heap.size->w'.heap[b]?=w.heap[b]?):B4 N w0 X0 Y β s a w':=by
 refine⟨h.dfr,h.tsz,h.tmo,fun i hi=>(h.tms i hi).same hs,fun id bx e=>?_,h.inj,fun id b o h1 h2=>by rw[hs.size];exact h.blt id b o h1 h2,h.wfT,h.wfB,h.ownd,h.rngB,h.pin,h.stp,h.Yx,h.Ylt,
  ⟨hs.os.trans h.fr.os,hs.tape.trans h.fr.tape,hs.output.trans h.fr.output,⟨by rw[hs.size];exact h.fr.step.size,fun b hb hn=>(h0 b hb).trans (h.fr.step.keep b hb hn),fun b hb=>by rw[hs.bs];exact h.fr.step.bs b hb⟩,fun b j hb hn=>by rw[hs.cell,hs.frz];exact h.fr.rng b j hb hn⟩⟩
 have h1:=h.box id bx e;cases bx with
 |st c=>
  obtain⟨b,o,g1,g2,g3⟩:=h1;refine⟨b,o,g1,fun j c hj=>?_,fun j hj=>by rw[hs.frz];exact g3 j hj⟩
  obtain⟨v,k1,k2⟩:=g2 j c hj;exact⟨v,by rw[hs.cell];exact k1,k2.same hs⟩
 |ar fz c=>
  rcases h1 with h1|⟨b,o,g1,g2,g3,g4⟩
  ·exact .inl h1
  ·exact .inr ⟨b,o,g1,g2.same hs,fun hf j hj hjb=>by rw[hs.frz];exact g3 hf j hj (by rw[←hs.bs];exact hjb),g4⟩
 |mv=>trivial
theorem KP {w:World}{D:Nat}{x y:Option (List Deferred)} (h:w.heap[D]?=some (.deferred x)):Agb w (w.putObj D (.deferred y)):=by
 have hD:D<w.heap.size:=(Array.getElem?_eq_some_iff.1 h).1;have hs:(w.putObj D (.deferred y)).heap[D]?=some (.deferred y):=World.putObj_heap_same hD;refine⟨rfl,rfl,rfl,by simp,fun a=>?_,fun a=>?_,fun b=>?_⟩
 ·by_cases e:a.block=D
  ·unfold World.cell?;rw[e,hs,h]
  ·exact World.cell?_of_block (World.putObj_heap_other e)
 ·by_cases e:a.block=D
  ·unfold World.frozen?;rw[e,hs,h]
  ·unfold World.frozen?;rw[World.putObj_heap_other e]
 ·by_cases e:b=D
  ·subst e;unfold bsz;rw[hs,h]
  ·unfold bsz;rw[World.putObj_heap_other e]
end
section
open Go.Proofs.Tryd (prog)
open Go.IntKind (wrap)
set_option maxRecDepth 100000
abbrev O2:FuncId:=38
theorem Xq (fu d:Nat)(a0:Int):Ad C0 prog fu (d+1) O2 [.sc (.int .i64 a0)]=(fun (call:Ah)=>Bi (decide (a0>=0)) (some (A5.mk [.sc (.bool (decide (a0<=4)))] [])) (some (A5.mk [.sc (.bool false)] []))) (Ad C0 prog fu d):=by kernel_rfl
abbrev R8:FuncId:=82
noncomputable def Ij (fu:Nat)(call:Ah)(a0 a1:Int)(a2 a3 a4:Int)(nn:Nat)(y0 y1:Int)(y2 y3 y4:Int):Option A5:=Du CB prog fu call 82 Tryd.f82 (Ca Tryd.f82) [.sc (.int .i64 a0),.sc (.int .i64 a1),.sc (.int .i64 a2),.sc (.int .i64 a3),.sc (.int .u64 a4)] [.r,.l,.r,.l] nn ⟨lk [(0,(.sc (.int .i64 y0))),(1,(.sc (.int .i64 y1))),(3,(.sc (.int .i64 y2))),(4,(.sc (.int .u64 y3))),(11,(.sc (.int .i64 y4)))],Br []⟩
theorem Og (fu:Nat)(call:Ah)(a0 a1:Int)(a2 a3 a4:Int)(nn:Nat)(y0 y1:Int)(y2 y3 y4:Int):Ij fu call a0 a1 a2 a3 a4 (nn+1) y0 y1 y2 y3 y4=(Aa (if 15<y2 then 15 else y2) fun x2=>Bi (decide (y4<x2)) (Aa (wrap .u64 y0) fun x3=>Aa (wrap .u64 y1) fun x4=>Aa (wrap .u64 y4) fun x5=>Ai (call 86 [.lst false 1 4 [.sc (.int .u64 x3),.sc (.int .u64 x4),.sc (.int .u64 x5),.sc (.int .u64 y3)]]) fun x6 x7=>Ac x7<|Ab x6 fun x8 x9=>Gl 1 x8 fun C6 Dr=>Ac x9<|Ar (decide (0+C6*1<=Dr.length))<|Ai (call 85 [.sc (.int .i64 1),.lst false 1 C6 (List.take (C6*1) (List.drop 0 Dr))]) fun Eg Ez=>Ac Ez<|Ab Eg fun D7 Ew=>Ae .u64 D7 fun Fw=>Ac Ew<|Aa (wrap .i64 (y4+1)) fun Gm=>Ij fu call a0 a1 a2 a3 a4 (nn) (y0) (y1) (y2) Fw Gm) (some (A5.mk [.sc (.int .u64 y3)] []))):=by kernel_rfl
theorem GR (fu d:Nat)(a0 a1:Int)(a2 a3 a4:Int):Ad C0 prog fu (d+1) R8 [.sc (.int .i64 a0),.sc (.int .i64 a1),.sc (.int .i64 a2),.sc (.int .i64 a3),.sc (.int .u64 a4)]=(fun (call:Ah)=>Aa (if a2<0 then 0 else a2) fun x1=>Ij fu call a0 a1 a2 a3 a4 (fu) (a0) (a1) (a3) (a4) x1) (Ad C0 prog fu d):=by kernel_rfl
abbrev Ov:FuncId:=83
theorem Ya (fu d:Nat)(a0 a1 a2:Int):Ad C0 prog fu (d+1) Ov [.sc (.int .u64 a0),.sc (.int .i64 a1),.sc (.int .i64 a2)]=(fun (call:Ah)=>Aa (wrap .u64 a1) fun x1=>Aa (wrap .u64 a2) fun x2=>Ai (call 86 [.lst false 1 2 [.sc (.int .u64 x1),.sc (.int .u64 x2)]]) fun x3 x4=>Ac x4<|Ab x3 fun x5 x6=>Gl 1 x5 fun x7 x8=>Ac x6<|Ar (decide (0+x7*1<=x8.length))<|Ai (call 94 [.sc (.int .u64 a0),.sc (.int .i64 1),.lst false 1 x7 (List.take (x7*1) (List.drop 0 x8))]) fun x9 C6=>Ac C6<|Ab x9 fun Dr Eg=>Ae .u64 Dr fun Ez=>Ac Eg<|some (A5.mk [.sc (.int .u64 Ez)] [])) (Ad C0 prog fu d):=by kernel_rfl
abbrev Rn:FuncId:=84
theorem BF (fu d:Nat)(a0:Int)(P4:Nat)(a1:List PV):Ad C0 prog fu (d+1) Rn [.sc (.int .i64 a0),.lst false 1 P4 a1]=(fun (call:Ah)=>Aa (wrap .u64 a0) fun x1=>Ai (call 86 [.lst false 1 1 [.sc (.int .u64 x1)]]) fun x2 x3=>Ac x3<|Ab x2 fun x4 x5=>Gl 1 x4 fun x6 x7=>Ac x5<|Ai (call 86 [.lst false 1 P4 a1]) fun x8 x9=>Ac x9<|Ab x8 fun C6 Dr=>Gl 1 C6 fun Eg Ez=>Ac Dr<|Ar (decide (0+Eg*1<=Ez.length))<|Ar (decide (x6*1<=x7.length)&&decide (List.length (List.take (Eg*1) (List.drop 0 Ez))=Eg*1)&&decide ((x6+Eg)*1<=1099511627776)&&decide (x6+Eg<=1099511627776))<|Aa (x6+Eg) fun D7=>Aa (List.take (x6*1) x7++List.take (Eg*1) (List.drop 0 Ez)) fun Ew=>Ar (decide (0+D7*1<=Ew.length))<|Ai (call 85 [.sc (.int .i64 2),.lst false 1 D7 (List.take (D7*1) (List.drop 0 Ew))]) fun Fw Gm=>Ac Gm<|Ab Fw fun G4 Gi=>Ae .u64 G4 fun Gy=>Ac Gi<|some (A5.mk [.sc (.int .u64 Gy)] [])) (Ad C0 prog fu d):=by kernel_rfl
abbrev Q4:FuncId:=62
noncomputable def Hy (fu:Nat)(call:Ah)(a0 a1:Int)(nn:Nat)(y0 y1:Int)(y2:Nat)(y3:Int)(y4:List PV):Option A5:=Du CB prog fu call 62 Tryd.f62 (Ca Tryd.f62) [.sc (.int .u64 a0),.sc (.int .i64 a1)] [.r,.r,.l,.r,.l] nn ⟨lk [(0,(.sc (.int .u64 y0))),(1,(.sc (.int .i64 y1))),(5,(.view 5 1 0 y2)),(6,(.sc (.int .i64 y3)))],Br [(5,(.ar false y4))]⟩
theorem Nc (fu:Nat)(call:Ah)(a0 a1:Int)(nn:Nat)(y0 y1:Int)(y2:Nat)(y3:Int)(y4:List PV):Hy fu call a0 a1 (nn+1) y0 y1 y2 y3 y4=(Bi (decide (y3<18)) (Ai (call 83 [.sc (.int .u64 y0),.sc (.int .i64 y1),.sc (.int .i64 y3)]) fun x1 x2=>Ac x2<|Ab x1 fun x3 x4=>Ae .u64 x3 fun x5=>Ac x4<|Ai (call 82 [.sc (.int .i64 y1),.sc (.int .i64 y3),.sc (.int .i64 0),.sc (.int .i64 15),.sc (.int .u64 x5)]) fun x6 x7=>Ac x7<|Ab x6 fun x8 x9=>Ae .u64 x8 fun C6=>Ac x9<|Ar (decide (y2*1<=y4.length)&&true&&decide ((y2+1)*8<=1099511627776)&&decide (y2+1<=1099511627776))<|Aa (y2+1) fun Dr=>Aa (List.take (y2*1) y4++[.sc (.int .u64 C6)]) fun Eg=>Aa (wrap .i64 (y3+1)) fun Ez=>Hy fu call a0 a1 (nn) (y0) (y1) Dr Ez Eg) (Ar (decide (0+y2*1<=y4.length))<|Ai (call 84 [.sc (.int .i64 y1),.lst false 1 y2 (List.take (y2*1) (List.drop 0 y4))]) fun D7 Ew=>Ac Ew<|Ab D7 fun Fw Gm=>Ae .u64 Fw fun G4=>Ac Gm<|some (A5.mk [.sc (.int .u64 G4)] []))):=by kernel_rfl
theorem CW (fu d:Nat)(a0 a1:Int):Ad C0 prog fu (d+1) Q4 [.sc (.int .u64 a0),.sc (.int .i64 a1)]=(fun (call:Ah)=>Hy fu call a0 a1 (fu) (a0) (a1) 0 0 ([])) (Ad C0 prog fu d):=by kernel_rfl
abbrev Oe:FuncId:=63
theorem Xz (fu d:Nat)(a0 a1 a2:Int):Ad C0 prog fu (d+1) Oe [.sc (.int .i64 a0),.sc (.int .u64 a1),.sc (.int .u64 a2)]=(fun (call:Ah)=>Aa (wrap .u64 a0) fun x1=>Ai (call 86 [.lst false 1 3 [.sc (.int .u64 x1),.sc (.int .u64 a1),.sc (.int .u64 a2)]]) fun x2 x3=>Ac x3<|Ab x2 fun x4 x5=>Gl 1 x4 fun x6 x7=>Ac x5<|Ar (decide (0+x6*1<=x7.length))<|Ai (call 85 [.sc (.int .i64 3),.lst false 1 x6 (List.take (x6*1) (List.drop 0 x7))]) fun x8 x9=>Ac x9<|Ab x8 fun C6 Dr=>Ae .u64 C6 fun Eg=>Ac Dr<|some (A5.mk [.sc (.int .u64 Eg)] [])) (Ad C0 prog fu d):=by kernel_rfl
abbrev Qu:FuncId:=39
theorem Rl (fu d:Nat)(a0 a1 a2:Int):Ad C0 prog fu (d+1) Qu [.sc (.int .u64 a0),.sc (.int .i64 a1),.sc (.int .i64 a2)]=(fun (call:Ah)=>Bi (a1==0) (Ai (call 62 [.sc (.int .u64 a0),.sc (.int .i64 a2)]) fun x1 x2=>Ac x2<|Ab x1 fun x3 x4=>Ae .u64 x3 fun x5=>Ac x4<|some (A5.mk [.sc (.int .u64 x5)] [])) (Aa (wrap .i64 (a1-1)) fun x6=>Aa (wrap .i64 (2*a2)) fun x7=>Ai (call 39 [.sc (.int .u64 a0),.sc (.int .i64 x6),.sc (.int .i64 x7)]) fun x8 x9=>Ac x9<|Ab x8 fun C6 Dr=>Ae .u64 C6 fun Eg=>Ac Dr<|Aa (wrap .i64 (a1-1)) fun Ez=>Aa (wrap .i64 (2*a2)) fun D7=>Aa (wrap .i64 (D7+1)) fun Ew=>Ai (call 39 [.sc (.int .u64 a0),.sc (.int .i64 Ez),.sc (.int .i64 Ew)]) fun Fw Gm=>Ac Gm<|Ab Fw fun G4 Gi=>Ae .u64 G4 fun Gy=>Ac Gi<|Ai (call 63 [.sc (.int .i64 a1),.sc (.int .u64 Eg),.sc (.int .u64 Gy)]) fun Jk Ia=>Ac Ia<|Ab Jk fun Je Fn=>Ae .u64 Je fun Eu=>Ac Fn<|some (A5.mk [.sc (.int .u64 Eu)] []))) (Ad C0 prog fu d):=by kernel_rfl
abbrev Oi:FuncId:=17
theorem Xv (fu d:Nat)(a0 a1:Int):Ad C0 prog fu (d+1) Oi [.sc (.int .u64 a0),.sc (.int .i64 a1)]=(fun (call:Ah)=>Ai (call 38 [.sc (.int .i64 a1)]) fun x1 x2=>Ac x2<|Ab x1 fun x3 x4=>Bu x3 fun x5=>Ac x4<|Bi (!x5) (some (A5.mk [.agg [.sc (.int .i64 0),.sc (.int .u64 0)],.sc (.int .i64 9)] [])) (Ai (call 39 [.sc (.int .u64 a0),.sc (.int .i64 a1),.sc (.int .i64 0)]) fun x6 x7=>Ac x7<|Ab x6 fun x8 x9=>Ae .u64 x8 fun C6=>Ac x9<|some (A5.mk [.agg [.sc (.int .i64 a1),.sc (.int .u64 C6)],.sc (.int .i64 0)] []))) (Ad C0 prog fu d):=by kernel_rfl
abbrev Li:FuncId:=65
noncomputable def Fx (fu:Nat)(call:Ah)(Bd:Nat)(a0:List PV)(P4:Nat)(a1:List PV)(nn y0:Nat)(y1:List PV)(y2:Nat)(y3:List PV)(y4:Int):Option A5:=Du CB prog fu call 65 Tryd.f65 (Ca Tryd.f65) [.lst false 1 Bd a0,.lst false 1 P4 a1] [.r,.r,.l,.r,.l] nn ⟨lk [(0,(.lst false 1 y0 y1)),(1,(.lst false 1 y2 y3)),(5,(.sc (.int .i64 y4)))],Br []⟩
theorem Jz (fu:Nat)(call:Ah)(Bd:Nat)(a0:List PV)(P4:Nat)(a1:List PV)(nn y0:Nat)(y1:List PV)(y2:Nat)(y3:List PV)(y4:Int):Fx fu call Bd a0 P4 a1 (nn+1) y0 y1 y2 y3 y4=(Bi (decide (y4<(↑y0:Int))) (Ar (decide (0<=y4)&&decide (y4<(↑y0:Int)))<|Ae .u64 (List.getD y1 (Int.toNat y4*1) .top) fun x1=>Ar (decide (0<=y4)&&decide (y4<(↑y2:Int)))<|Ae .u64 (List.getD y3 (Int.toNat y4*1) .top) fun x2=>Bi (x1 != x2) (some (A5.mk [.sc (.bool false)] [])) (Aa (wrap .i64 (y4+1)) fun x3=>Fx fu call Bd a0 P4 a1 (nn) (y0) (y1) (y2) (y3) x3)) (some (A5.mk [.sc (.bool true)] []))):=by kernel_rfl
theorem Un (fu d Bd:Nat)(a0:List PV)(P4:Nat)(a1:List PV):Ad C0 prog fu (d+1) Li [.lst false 1 Bd a0,.lst false 1 P4 a1]=(fun (call:Ah)=>Bi ((↑Bd:Int) != (↑P4:Int)) (some (A5.mk [.sc (.bool false)] [])) (Fx fu call Bd a0 P4 a1 (fu) (Bd) (a0) (P4) (a1) 0)) (Ad C0 prog fu d):=by kernel_rfl
abbrev Jg:FuncId:=42
theorem P7 (fu d:Nat)(Aj:Int)(Cc:Nat)(Ao:List PV)(Bm:Nat)(Bc:List PV)(Cg:Int)(Hj:Nat)(Cf:List PV)(He:Nat)(Cm:List PV):Ad C0 prog fu (d+1) Jg [.agg [.sc (.int .i64 Aj),.lst false 1 Cc Ao,.lst false 1 Bm Bc],.agg [.sc (.int .i64 Cg),.lst false 1 Hj Cf,.lst false 1 He Cm]]=(fun (call:Ah)=>Bi (Aj==Cg) (Ai (call 65 [.lst false 1 Cc Ao,.lst false 1 Hj Cf]) fun x1 x2=>Ac x2<|Ab x1 fun x3 x4=>Bu x3 fun x5=>Ac x4<|Bi x5 (Ai (call 65 [.lst false 1 Bm Bc,.lst false 1 He Cm]) fun x6 x7=>Ac x7<|Ab x6 fun x8 x9=>Bu x8 fun C6=>Ac x9<|some (A5.mk [.sc (.bool C6)] [])) (some (A5.mk [.sc (.bool false)] []))) (some (A5.mk [.sc (.bool false)] []))) (Ad C0 prog fu d):=by kernel_rfl
end
section
open Go.Proofs.Tryd (prog)
open Go.IntKind (wrap)
theorem Afe {α:Type}(f:Nat->α)(i:Nat):(List.range (i+1)).map f=(List.range i).map f++[f i]:=by
 rw[List.range_succ,List.map_append];rfl
section
variable {fu d:Nat}
theorem Afq (h:Int):Ad C0 prog fu (d+1) O2 [.sc (.int .i64 h)]=some ⟨[.sc (.bool (!Ey h))],[]⟩:=by
 rw[Xq];unfold Ey;by_cases h0:h<0
 ·simp (disch:=omega) only[Cu,h0,decide_true,Bool.true_or,D2]
 ·have e:decide (h<=4) = !decide (h>4):=by
   by_cases c:h<=4
   ·have:¬h>4:=by omega
    simp[c,this]
   ·have:h>4:=by omega
    simp[c,this]
  simp (disch:=omega) only[Cu,h0,decide_false,Bool.false_or,e]
theorem Ag2 {ws:List Int}(hl:ws.length<=100)(Cb:1000<=fu)(dom:Int):Ad C0 prog fu (d+4) Le [.sc (.int .i64 dom),.lst false 1 (A7 ws).length (Af .u8 (A7 ws))]=some ⟨[.sc (.int .u64 (Q0 dom (A7 ws)))],[]⟩:=
 Apk (xs:=Oc) (Ut ws) (by rw[Dz];omega) (by omega) (by rw[Dz];omega) dom
theorem VF {leaf chain:Int}{a0 a1 a2 a3 a4:Int}(Cb:1000<=fu){t:Int}(ht:t<=15):∀(k nn:Nat)(p x:Int),(k:Int)=t-p->0<=p->k<nn ->
  Ij fu (Ad C0 prog fu (d+4)) a0 a1 a2 a3 a4 nn leaf chain t x p=some ⟨[.sc (.int .u64 (Tj leaf chain k p x))],[]⟩
 |_,0,_,_,_,_,h=>by omega
 |0,nn+1,p,x,hk,hp,hn=>by
  rw[Og];simp only[Js];rw[Bj (by omega),Fi _ _ _ (by omega)]
  rfl
 |k+1,nn+1,p,x,hk,hp,hn=>by
  have w:wrap .i64 (p+1)=p+1:=Ak (by omega) (by omega)
  have wd:Ad C0 prog fu (d+4) Fb [.lst false 1 4 [.sc (.int .u64 (wrap .u64 leaf)),.sc (.int .u64 (wrap .u64 chain)),.sc (.int .u64 (wrap .u64 p)),.sc (.int .u64 x)]]=_:=U9 (xs:=Oc) (ws:=[wrap .u64 leaf,wrap .u64 chain,wrap .u64 p,x]) (by simp) (by omega) (by simp;omega)
  have hs:=Ag2 (fu:=fu) (d:=d) (ws:=[wrap .u64 leaf,wrap .u64 chain,wrap .u64 p,x]) (by simp) Cb 1
  have ih:=VF (leaf:=leaf) (chain:=chain) (a0:=a0) (a1:=a1) (a2:=a2) (a3:=a3) (a4:=a4) Cb ht k nn (p+1) (Q0 1 (A7 [wrap .u64 leaf,wrap .u64 chain,wrap .u64 p,x])) (by omega) (by omega) (by omega)
  have L:=At .u8 (A7 [wrap .u64 leaf,wrap .u64 chain,wrap .u64 p,x]);have eR:Tj leaf chain (k+1) p x=Tj leaf chain k (p+1) (Q0 1 (A7 [wrap .u64 leaf,wrap .u64 chain,wrap .u64 p,x])):=rfl;rw[eR];generalize A7 [wrap .u64 leaf,wrap .u64 chain,wrap .u64 p,x]=W at wd hs ih L ⊢;have e15:(if (15:Int)<t then 15 else t)=t:=Bj (by omega)
  rw[Og];simp (disch:=omega) only[Cu,e15,wd,Dp,C8,Fg,Tl,L,hs,w];exact ih
theorem Auq {leaf chain:Int}(Cb:1000<=fu)(k:Nat)(f t x:Int)(hk:(k:Int)=t-f) (h0:0<=f)(h1:t<=15):Ad C0 prog fu (d+5) R8 [.sc (.int .i64 leaf),.sc (.int .i64 chain),.sc (.int .i64 f),.sc (.int .i64 t),.sc (.int .u64 x)]=some ⟨[.sc (.int .u64 (Tj leaf chain k f x))],[]⟩:=by
 rw[GR];simp only[Js];rw[Bj (by omega)]
 exact VF Cb h1 k fu f x hk h0 (by omega)
theorem Ag3 (Cb:1000<=fu)(seed leaf chain:Int):Ad C0 prog fu (d+5) Ov [.sc (.int .u64 seed),.sc (.int .i64 leaf),.sc (.int .i64 chain)]=some ⟨[.sc (.int .u64 (LR seed leaf chain))],[]⟩:=by
 have wd:Ad C0 prog fu (d+4) Fb [.lst false 1 2 [.sc (.int .u64 (wrap .u64 leaf)),.sc (.int .u64 (wrap .u64 chain))]]=_:=U9 (xs:=Oc) (ws:=[wrap .u64 leaf,wrap .u64 chain]) (by simp) (by omega) (by simp;omega)
 have hs:=Avq (xs:=Oc) (fu:=fu) (d:=d) (Ut [wrap .u64 leaf,wrap .u64 chain]) (by rw[Dz];simp) (by omega) (by rw[Dz];simp;omega) seed 1
 have L:=At .u8 (A7 [wrap .u64 leaf,wrap .u64 chain]);rw[Ya];unfold LR;generalize A7 [wrap .u64 leaf,wrap .u64 chain]=W at wd hs L ⊢;simp (disch:=omega) only[Cu,wd,Dp,C8,Fg,Tl,L,hs]
theorem A7v (Cb:1000<=fu)(w:Int):Ad C0 prog fu (d+1) Fb [.lst false 1 1 [.sc (.int .u64 w)]]=some ⟨[.own 1 8 (Af .u8 (Hz w))],[]⟩:=by
 have:=U9 (xs:=Oc) (fu:=fu) (d:=d) (ws:=[w]) (by simp) (by omega) (by simp;omega)
 simp only[A7,List.flatMap_cons,List.flatMap_nil,List.append_nil,Io,W5,I0] at this;exact this
theorem Aoa (Cb:1000<=fu)(leaf:Int){E:List Int}(hE:E.length<=50):Ad C0 prog fu (d+5) Rn [.sc (.int .i64 leaf),.lst false 1 E.length (Af .u64 E)]=some ⟨[.sc (.int .u64 (AE leaf E))],[]⟩:=by
 have w1:=A7v (fu:=fu) (d:=d+3) Cb (wrap .u64 leaf);have w2:=U9 (xs:=Oc) (fu:=fu) (d:=d+3) (ws:=E) (by omega) (by omega) (by omega)
 have hs:=Ag2 (fu:=fu) (d:=d) (ws:=wrap .u64 leaf::E) (by simp;omega) Cb 2
 have eW:A7 (wrap .u64 leaf::E)=Hz (wrap .u64 leaf)++A7 E:=rfl
 have eC:Af .u8 (Hz (wrap .u64 leaf))++Af .u8 (A7 E)=Af .u8 (A7 (wrap .u64 leaf::E)):=by
  rw[eW,Af,Af,Af,List.flatMap_append]
 have l0:(Hz (wrap .u64 leaf)).length=8:=I0 _;have l1:=Dz E;have l2:(A7 (wrap .u64 leaf::E)).length=8+(A7 E).length:=by rw[eW,Kb,l0]
 have L0:=At .u8 (Hz (wrap .u64 leaf));rw[l0] at L0;have L1:=At .u8 (A7 E);have L2:=At .u8 (A7 (wrap .u64 leaf::E));have t8:List.take 8 (Af .u8 (Hz (wrap .u64 leaf)))=Af .u8 (Hz (wrap .u64 leaf)):=My (by omega)
 have tW:List.take (8+(A7 E).length) (Af .u8 (A7 (wrap .u64 leaf::E)))=Af .u8 (A7 (wrap .u64 leaf::E)):=My (by omega)
 rw[l2] at hs;rw[BF];simp (disch:=omega) only[Cu,w1,w2,Dp,C8,Fg,Tl,t8,L0,L1,eC,L2,tW,hs];rfl
theorem RC {a0 a1 seed leaf:Int}(Cb:1000<=fu):∀(k nn i:Nat),i+k=18->k<nn ->
  Hy fu (Ad C0 prog fu (d+5)) a0 a1 nn seed leaf ((List.range i).map (Zv seed leaf)).length i (Af .u64 ((List.range i).map (Zv seed leaf)))=some ⟨[.sc (.int .u64 (Jr seed leaf))],[]⟩
 |_,0,_,_,h=>by omega
 |0,nn+1,i,hi,hn=>by
  have e:i=18:=by omega
  subst e;have l18:((List.range 18).map (Zv seed leaf)).length=18:=by simp
  have en:=Aoa (fu:=fu) (d:=d) Cb leaf (E:=(List.range 18).map (Zv seed leaf)) (by omega)
  have L:=At .u64 ((List.range 18).map (Zv seed leaf));rw[Nc,Fi _ _ _ (by omega)]
  simp (disch:=omega) only[Cu,Dp,C8,Fg,Tl,L,en];rfl
 |k+1,nn+1,i,hi,hn=>by
  have ih:=RC (a0:=a0) (a1:=a1) (seed:=seed) (leaf:=leaf) Cb k nn (i+1) (by omega) (by omega)
  have sc:=Ag3 (fu:=fu) (d:=d) Cb seed leaf i;have rn:=Auq (fu:=fu) (d:=d) (leaf:=leaf) (chain:=i) Cb 15 0 15 (LR seed leaf i) (by omega) (by omega) (by omega)
  have w:wrap .i64 ((i:Int)+1)=((i+1:Nat):Int):=by rw[Ak (by omega) (by omega)];omega
  have L:=At .u64 ((List.range i).map (Zv seed leaf));have li:((List.range i).map (Zv seed leaf)).length=i:=by simp
  rw[Afe,Kb,List.length_singleton,←Jl] at ih;rw[Nc];simp (disch:=omega) only[Cu,sc,rn,Dp,Tl,L,w];exact ih
theorem Ara (Cb:1000<=fu)(seed leaf:Int):Ad C0 prog fu (d+6) Q4 [.sc (.int .u64 seed),.sc (.int .i64 leaf)]=some ⟨[.sc (.int .u64 (Jr seed leaf))],[]⟩:=by
 rw[CW];exact RC (fu:=fu) (d:=d) Cb 18 fu 0 (by omega) (by omega)
theorem Agh (Cb:1000<=fu)(level a b:Int):Ad C0 prog fu (d+5) Oe [.sc (.int .i64 level),.sc (.int .u64 a),.sc (.int .u64 b)]=some ⟨[.sc (.int .u64 (N7 level a b))],[]⟩:=by
 have wd:Ad C0 prog fu (d+4) Fb [.lst false 1 3 [.sc (.int .u64 (wrap .u64 level)),.sc (.int .u64 a),.sc (.int .u64 b)]]=_:=U9 (xs:=Oc) (ws:=[wrap .u64 level,a,b]) (by simp) (by omega) (by simp;omega)
 have hs:=Ag2 (fu:=fu) (d:=d) (ws:=[wrap .u64 level,a,b]) (by simp) Cb 3
 have L:=At .u8 (A7 [wrap .u64 level,a,b]);rw[Xz];unfold N7;generalize A7 [wrap .u64 level,a,b]=W at wd hs L ⊢;simp (disch:=omega) only[Cu,wd,Dp,C8,Fg,Tl,L,hs]
theorem PO (Cb:1000<=fu)(seed:Int):∀(l:Nat)(i B:Int),0<=i->i<=B->(2 ^ l:Nat)*(B+1)<=1000000000->l<=20->Ad C0 prog fu (d+7+l) Qu [.sc (.int .u64 seed),.sc (.int .i64 l),.sc (.int .i64 i)]=some ⟨[.sc (.int .u64 (Cq seed l i))],[]⟩
 |0,i,B,h0,h1,h2,hl=>by
  have lf:=Ara (fu:=fu) (d:=d) Cb seed i;refine (Rl fu (d+6) seed 0 i).trans ?_;simp only[Cu,L7,if_true,lf];rfl
 |l+1,i,B,h0,h1,h2,hl=>by
  have hq:(2 ^ (l+1):Nat)=2 ^ l*2:=Nat.pow_succ _ _;have Avg:0<2 ^ l:=Nat.pow_pos (by omega)
  rw[hq] at h2;generalize hQ:2 ^ l=q at h2 Avg
  have hb:((q*2:Nat):Int)*(B+1)=(q:Int)*(2*B+1+1):=by
   rw[Int.natCast_mul,Int.mul_assoc]
   congr 1
   omega
  rw[hb] at h2
  have hBq:2*B+1+1<=(q:Int)*(2*B+1+1):=by
   have:=Int.mul_le_mul_of_nonneg_right (show (1:Int)<=q by omega) (show (0:Int)<=2*B+1+1 by omega)
   omega
  have n1:=PO Cb seed l (2*i) (2*B+1) (by omega) (by omega) (by rw[hQ];exact h2) (by omega)
  have n2:=PO Cb seed l (2*i+1) (2*B+1) (by omega) (by omega) (by rw[hQ];exact h2) (by omega)
  have pr:=Agh (fu:=fu) (d:=d+2+l) Cb ((l+1:Nat):Int) (Cq seed l (2*i)) (Cq seed l (2*i+1));rw[show d+2+l+5=d+7+l by omega] at pr
  have w1:wrap .i64 (((l+1:Nat):Int)-1)=(l:Int):=by rw[Ak (by omega) (by omega)];omega
  have w2:wrap .i64 (2*i)=2*i:=Ak (by omega) (by omega)
  have w3:wrap .i64 (2*i+1)=2*i+1:=Ak (by omega) (by omega)
  have ne:¬(((l+1:Nat):Int)=0):=by omega
  refine (Rl fu (d+7+l) seed ((l+1:Nat):Int) i).trans ?_;simp only[Cu,L7,ne,if_false,w1,w2,w3,n1,n2,pr];rfl
end
end
section
open Go.Proofs.Tryd (prog)
open Go.IntKind (wrap)
theorem Aqh {leaf h:Int}(h0:0<=h)(h4:h<=4)(ho:Qb leaf h=false):0<=leaf∧leaf<2 ^ h.toNat:=by
 unfold Qb at ho;simp only[Bool.or_eq_false_iff,decide_eq_false_iff_not] at ho;have:h=0∨h=1∨h=2∨h=3∨h=4:=by omega
 rcases this with rfl|rfl|rfl|rfl|rfl
 ·have e:Jj .i64 1 0=1:=by decide
  rw[e] at ho;exact⟨by omega,by show leaf<1;omega⟩
 ·have e:Jj .i64 1 1=2:=by decide
  rw[e] at ho;exact⟨by omega,by show leaf<2;omega⟩
 ·have e:Jj .i64 1 2=4:=by decide
  rw[e] at ho;exact⟨by omega,by show leaf<4;omega⟩
 ·have e:Jj .i64 1 3=8:=by decide
  rw[e] at ho;exact⟨by omega,by show leaf<8;omega⟩
 ·have e:Jj .i64 1 4=16:=by decide
  rw[e] at ho;exact⟨by omega,by show leaf<16;omega⟩
theorem A11 {h:Int}(h0:0<=h)(h4:h<=4):(2:Int) ^ h.toNat<=16:=by
 have:h=0∨h=1∨h=2∨h=3∨h=4:=by omega
 rcases this with rfl|rfl|rfl|rfl|rfl<;>decide
section
variable {fu d:Nat}
theorem Agk (Cb:1000<=fu)(seed h:Int):Ad C0 prog fu (d+12) Oi [.sc (.int .u64 seed),.sc (.int .i64 h)]=some ⟨[.agg (Rs seed h).cells,.sc (.int .i64 (if Ey h=true then 9 else 0))],[]⟩:=by
 refine (Xv fu (d+11) seed h).trans ?_;have h1:=Afq (fu:=fu) (d:=d+10) h;unfold Rs;cases c1:Ey h
 ·rw[c1] at h1;have hb:=Kv c1
  have nd:=PO (fu:=fu) (d:=d+4-h.toNat) Cb seed h.toNat 0 0 (by omega) (by omega) (by
   have:h=0∨h=1∨h=2∨h=3∨h=4:=by omega
   rcases this with rfl|rfl|rfl|rfl|rfl<;>decide) (by omega)
  rw[show d+4-h.toNat+7+h.toNat=d+11 by omega,show ((h.toNat:Nat):Int)=h by omega] at nd
  simp only[Cu,h1,nd];rfl
 ·rw[c1] at h1;simp only[Cu,h1];rfl
end
end
section
open Go.IntKind (wrap)
section
variable {fu d:Nat}
end
theorem Aop (seed leaf m:Int):Ajg leaf m (Of seed leaf m)=Jr seed leaf:=by
 unfold Ajg Jr NZ
 congr 1
 refine List.map_congr_left fun i hi=>?_
 have hi:=List.mem_range.1 hi;have hb:=IA m i;unfold Afx Zv
 have e:(Of seed leaf m).getD i 0=RJ seed leaf m i:=by
  unfold Of;rw[List.getD_eq_getElem?_getD,List.getElem?_map,List.getElem?_range hi];rfl
 rw[e];unfold RJ;have:=Abr leaf i (dg m i).toNat (15-dg m i).toNat 0 (LR seed leaf i);rw[show (dg m i).toNat+(15-dg m i).toNat=15 by omega,show (0:Int)+((dg m i).toNat:Nat)=dg m i by omega] at this
 exact this.symm
theorem Akm:∀n:Fin 16,∀k:Fin 4,
  (W7 .i64 (Ik .i64 (n.val:Int) k.val) 1=0∧Ik .i64 (n.val:Int) k.val=2*Ik .i64 (n.val:Int) ((k.val+1:Nat):Int)∧Jo n.val k.val=2*Ik .i64 (n.val:Int) ((k.val+1:Nat):Int)+1) ∨
  (W7 .i64 (Ik .i64 (n.val:Int) k.val) 1≠0∧Ik .i64 (n.val:Int) k.val=2*Ik .i64 (n.val:Int) ((k.val+1:Nat):Int)+1∧Jo n.val k.val=2*Ik .i64 (n.val:Int) ((k.val+1:Nat):Int)):=by decide
theorem QK (seed:Int){leaf:Int}(h0:0<=leaf)(h1:leaf<16):∀(k i:Nat),i+k<=4 ->
  BO leaf i (Cq seed i (Ik .i64 leaf i)) ((List.range' i k).map fun j=>Cq seed j (Jo leaf j))=Cq seed (i+k) (Ik .i64 leaf ((i+k:Nat):Int))
 |0,i,_=>rfl
 |k+1,i,h=>by
  rw[List.range'_succ,VO,JN];obtain⟨n,rfl⟩:=Int.eq_ofNat_of_zero_le h0;have ih:=QK seed h0 h1 k (i+1) (by omega)
  rw[show i+(k+1)=i+1+k by omega,←ih]
  congr 1
  rcases Akm ⟨n,by omega⟩ ⟨i,by omega⟩ with⟨a,b,c⟩|⟨a,b,c⟩
  ·simp only at a b c;rw[Cy a,b,c];rfl
  ·simp only at a b c;rw[Bj a,b,c];rfl
theorem Anv {seed h leaf m:Int}(hh:Ey h=false)(ho:Qb leaf h=false):Aj1 (Rs seed h) m ⟨leaf,Of seed leaf m,(List.range h.toNat).map fun k=>Cq seed k (Jo leaf k)⟩=0:=by
 have hb:=Kv hh;have hl:=Aqh hb.1 hb.2 ho;have h16:=A11 hb.1 hb.2
 have eP:Rs seed h=⟨h,Cq seed h.toNat 0⟩:=by
  unfold Rs;rw[hh];rfl
 rw[eP];unfold Aj1;simp only;rw[Bj (show ¬Ey h=true by rw[hh];simp),Bj (show ¬Qb leaf h=true by rw[ho];simp),Bj (show ¬(Of seed leaf m).length≠18 by simp[Of]),Bj (by rw[List.length_map,List.length_range];omega),Aop]
 have c:=QK seed hl.1 (show leaf<16 by omega) h.toNat 0 (by omega)
 have e0:Ik .i64 leaf ((0:Nat):Int)=leaf:=by
  show leaf.fdiv (2 ^ (min ((0:Nat):Int).toNat IntKind.i64.bits))=leaf;have:(2:Int) ^ (min ((0:Nat):Int).toNat IntKind.i64.bits)=1:=by decide
  rw[this,Int.fdiv_one]
 have eh:Ik .i64 leaf ((0+h.toNat:Nat):Int)=0:=by
  have H:∀n:Fin 16,∀k:Fin 5,(n.val:Int)<2 ^ k.val->Ik .i64 (n.val:Int) ((0+k.val:Nat):Int)=0:=by decide
  obtain⟨n,hn⟩:=Int.eq_ofNat_of_zero_le hl.1;have:=H ⟨n,by omega⟩ ⟨h.toNat,by omega⟩ (by simp only;rw[←hn];exact hl.2)
  rw[hn];exact this
 rw[e0,eh,C8] at c;have er:List.range' 0 h.toNat=List.range h.toNat:=List.range_eq_range'.symm;rw[er] at c;have el:Cq seed 0 leaf=Jr seed leaf:=rfl;rw[el] at c;rw[c];unfold okE;rw[Cy rfl]
end
section
open Go.Proofs.Tryd (prog)
open Go.IntKind (wrap)
set_option maxRecDepth 100000
abbrev JU:FuncId:=73
theorem Acu (fu d:Nat)(a0:ByteArray):Ad C0 prog fu (d+1) JU [.sc (.string a0)]=(fun (call:Ah)=>some (A5.mk [.own 3 1 [.sc (.int .i64 4),.sc (.int .u64 0),.sc (.string a0)]] [])) (Ad C0 prog fu d):=by kernel_rfl
abbrev JV:FuncId:=30
theorem Adb (fu d:Nat)(a0:Int):Ad C0 prog fu (d+1) JV [.sc (.int .u64 a0)]=(fun (call:Ah)=>some (A5.mk [.own 3 1 [.sc (.int .i64 1),.sc (.int .u64 a0),.sc (.string (ByteArray.mk #[]))]] [])) (Ad C0 prog fu d):=by kernel_rfl
abbrev FK:FuncId:=74
theorem ZA (fu d Bd:Nat)(a0:List PV):Ad C0 prog fu (d+1) FK [.lst false 1 Bd a0]=(fun (call:Ah)=>Ar (decide (a0.length=Bd))<|F8 (bytesOf a0) fun x1=>some (A5.mk [.own 3 1 [.sc (.int .i64 3),.sc (.int .u64 0),.sc (.string (ByteArray.mk (List.toArray x1)))]] [])) (Ad C0 prog fu d):=by kernel_rfl
abbrev GQ:FuncId:=90
theorem XP (fu d:Nat)(a0:Int):Ad C0 prog fu (d+1) GQ [.sc (.int .u64 a0)]=(fun (call:Ah)=>Bi (decide (a0<24)) (some (A5.mk [.sc (.int .i64 0)] [])) (Bi (decide (a0<256)) (some (A5.mk [.sc (.int .i64 1)] [])) (Bi (decide (a0<65536)) (some (A5.mk [.sc (.int .i64 2)] [])) (Bi (decide (a0<4294967296)) (some (A5.mk [.sc (.int .i64 4)] [])) (some (A5.mk [.sc (.int .i64 8)] [])))))) (Ad C0 prog fu d):=by kernel_rfl
abbrev AG:FuncId:=89
theorem UA (fu d:Nat)(Aj Ao:Int)(Bc:ByteArray):Ad C0 prog fu (d+1) AG [.agg [.sc (.int .i64 Aj),.sc (.int .u64 Ao),.sc (.string Bc)]]=(fun (call:Ah)=>Bi (Aj==3) (some (A5.mk [.sc (.bool (Ao==0))] [])) (Bi (Aj==4) (some (A5.mk [.sc (.bool (Ao==0))] [])) (Bi (Aj==8) (Bi (Ao==0) (some (A5.mk [.sc (.bool (Array.toList (ByteArray.data Bc)==Array.toList (ByteArray.data (ByteArray.mk #[]))))] [])) (some (A5.mk [.sc (.bool false)] []))) (Bi (Aj==7) (Bi (decide (Ao<=1)) (some (A5.mk [.sc (.bool (Array.toList (ByteArray.data Bc)==Array.toList (ByteArray.data (ByteArray.mk #[]))))] [])) (some (A5.mk [.sc (.bool false)] []))) (some (A5.mk [.sc (.bool (Array.toList (ByteArray.data Bc)==Array.toList (ByteArray.data (ByteArray.mk #[]))))] [])))))) (Ad C0 prog fu d):=by kernel_rfl
abbrev Xy:FuncId:=92
theorem RI (fu d Bd:Nat)(a0:List PV)(P4:Nat)(a1:List PV):Ad C0 prog fu (d+1) Xy [.lst false 1 Bd a0,.lst false 1 P4 a1]=(fun (call:Ah)=>Bi ((↑Bd:Int) != (↑P4:Int)) (some (A5.mk [.sc (.bool (decide ((↑Bd:Int)<(↑P4:Int))))] [])) (Ai (call 96 [.lst false 1 Bd a0,.lst false 1 P4 a1]) fun x1 x2=>Ac x2<|Ab x1 fun x3 x4=>Ae .i64 x3 fun x5=>Ac x4<|some (A5.mk [.sc (.bool (decide (x5<0)))] []))) (Ad C0 prog fu d):=by kernel_rfl
abbrev Mo:FuncId:=76
noncomputable def Eh (fu:Nat)(call:Ah)(Bd:Nat)(a0:List PV)(a1 a2:Int)(nn y0:Nat)(y1 y2:Int)(y3:List PV):Option A5:=Du CB prog fu call 76 Tryd.f76 (Ca Tryd.f76) [.own 1 Bd a0,.sc (.int .u8 a1),.sc (.int .u64 a2)] [.r,.r,.r,.r,.r,.l,.r,.l] nn ⟨lk [(0,(.view 0 1 0 y0)),(2,(.sc (.int .u64 y1))),(9,(.sc (.int .i64 y2)))],Br [(0,(.ar false y3))]⟩
theorem Oj (fu:Nat)(call:Ah)(Bd:Nat)(a0:List PV)(a1 a2:Int)(nn y0:Nat)(y1 y2:Int)(y3:List PV):Eh fu call Bd a0 a1 a2 (nn+1) y0 y1 y2 y3=(Bi (decide (y2>=0)) (Aa (wrap .i64 (8*y2)) fun G4=>Ar (decide (0<=G4))<|Aa (Ik .u64 y1 G4) fun Gi=>Aa (wrap .u8 Gi) fun Gy=>Ar (decide (y0*1<=y3.length)&&true&&decide ((y0+1)*1<=1099511627776)&&decide (y0+1<=1099511627776))<|Aa (y0+1) fun Jk=>Aa (List.take (y0*1) y3++[.sc (.int .u8 Gy)]) fun Ia=>Aa (wrap .i64 (y2-1)) fun Je=>Eh fu call Bd a0 a1 a2 (nn) Jk (y1) Je Ia) (Ar (decide (y0*1<=y3.length))<|some (A5.mk [.own 1 y0 (List.take (y0*1) y3)] []))):=by kernel_rfl
theorem GD (fu d Bd:Nat)(a0:List PV)(a1 a2:Int):Ad C0 prog fu (d+1) Mo [.own 1 Bd a0,.sc (.int .u8 a1),.sc (.int .u64 a2)]=(fun (call:Ah)=>Aa (Jj .u8 a1 5) fun x1=>Bi (decide (a2<24)) (Aa (wrap .u8 a2) fun x2=>Aa (wrap .u8 (x1+x2)) fun x3=>Ar (decide (Bd*1<=a0.length)&&true&&decide ((Bd+1)*1<=1099511627776)&&decide (Bd+1<=1099511627776))<|Aa (Bd+1) fun x4=>Aa (List.take (Bd*1) a0++[.sc (.int .u8 x3)]) fun x5=>Ar (decide (x4*1<=x5.length))<|some (A5.mk [.own 1 x4 (List.take (x4*1) x5)] [])) (Bi (decide (a2<256)) (Aa (wrap .u8 (x1+24)) fun x6=>Ar (decide (Bd*1<=a0.length)&&true&&decide ((Bd+1)*1<=1099511627776)&&decide (Bd+1<=1099511627776))<|Aa (Bd+1) fun x7=>Aa (List.take (Bd*1) a0++[.sc (.int .u8 x6)]) fun x8=>Eh fu call Bd a0 a1 a2 (fu) x7 (a2) 0 x8) (Bi (decide (a2<65536)) (Aa (wrap .u8 (x1+25)) fun x9=>Ar (decide (Bd*1<=a0.length)&&true&&decide ((Bd+1)*1<=1099511627776)&&decide (Bd+1<=1099511627776))<|Aa (Bd+1) fun C6=>Aa (List.take (Bd*1) a0++[.sc (.int .u8 x9)]) fun Dr=>Eh fu call Bd a0 a1 a2 (fu) C6 (a2) 1 Dr) (Bi (decide (a2<4294967296)) (Aa (wrap .u8 (x1+26)) fun Eg=>Ar (decide (Bd*1<=a0.length)&&true&&decide ((Bd+1)*1<=1099511627776)&&decide (Bd+1<=1099511627776))<|Aa (Bd+1) fun Ez=>Aa (List.take (Bd*1) a0++[.sc (.int .u8 Eg)]) fun D7=>Eh fu call Bd a0 a1 a2 (fu) Ez (a2) 3 D7) (Aa (wrap .u8 (x1+27)) fun Ew=>Ar (decide (Bd*1<=a0.length)&&true&&decide ((Bd+1)*1<=1099511627776)&&decide (Bd+1<=1099511627776))<|Aa (Bd+1) fun Fw=>Aa (List.take (Bd*1) a0++[.sc (.int .u8 Ew)]) fun Gm=>Eh fu call Bd a0 a1 a2 (fu) Fw (a2) 7 Gm))))) (Ad C0 prog fu d):=by kernel_rfl
abbrev Sc:FuncId:=54
theorem EQ (fu d Bd:Nat)(a0:List PV)(Cg Cf:Int)(Cm:ByteArray):Ad C0 prog fu (d+1) Sc [.own 1 Bd a0,.agg [.sc (.int .i64 Cg),.sc (.int .u64 Cf),.sc (.string Cm)]]=(fun (call:Ah)=>Bi (Cg==7) (Aa (wrap .u8 Cf) fun x1=>Aa (wrap .u8 (244+x1)) fun x2=>Ar (decide (Bd*1<=a0.length)&&true&&decide ((Bd+1)*1<=1099511627776)&&decide (Bd+1<=1099511627776))<|Aa (Bd+1) fun x3=>Aa (List.take (Bd*1) a0++[.sc (.int .u8 x2)]) fun x4=>Ar (decide (x3*1<=x4.length))<|some (A5.mk [.own 1 x3 (List.take (x3*1) x4)] [])) (Bi (Cg==8) (Ar (decide (Bd*1<=a0.length)&&true&&decide ((Bd+1)*1<=1099511627776)&&decide (Bd+1<=1099511627776))<|Aa (Bd+1) fun x5=>Aa (List.take (Bd*1) a0++[.sc (.int .u8 246)]) fun x6=>Ar (decide (x5*1<=x6.length))<|some (A5.mk [.own 1 x5 (List.take (x5*1) x6)] [])) (Bi (Cg==3) (Aa (wrap .i64 (Cg-1)) fun x7=>Aa (wrap .u8 x7) fun x8=>Aa (wrap .u64 (↑(ByteArray.size Cm):Int)) fun x9=>Ar (decide (Bd*1<=a0.length))<|Ai (call 76 [.own 1 Bd (List.take (Bd*1) a0),.sc (.int .u8 x8),.sc (.int .u64 x9)]) fun C6 Dr=>Ab C6 fun Eg Ez=>Gl 1 Eg fun D7 Ew=>Ac Ez<|Ac Dr<|Ar (decide (D7*1<=Ew.length)&&decide (List.length (Fo Cm)=ByteArray.size Cm*1)&&decide ((D7+ByteArray.size Cm)*1<=1099511627776)&&decide (D7+ByteArray.size Cm<=1099511627776))<|Aa (D7+ByteArray.size Cm) fun Fw=>Aa (List.take (D7*1) Ew++Fo Cm) fun Gm=>Ar (decide (Fw*1<=Gm.length))<|some (A5.mk [.own 1 Fw (List.take (Fw*1) Gm)] [])) (Bi (Cg==4) (Aa (wrap .i64 (Cg-1)) fun G4=>Aa (wrap .u8 G4) fun Gi=>Aa (wrap .u64 (↑(ByteArray.size Cm):Int)) fun Gy=>Ar (decide (Bd*1<=a0.length))<|Ai (call 76 [.own 1 Bd (List.take (Bd*1) a0),.sc (.int .u8 Gi),.sc (.int .u64 Gy)]) fun Jk Ia=>Ab Jk fun Je Fn=>Gl 1 Je fun Eu Hv=>Ac Fn<|Ac Ia<|Ar (decide (Eu*1<=Hv.length)&&decide (List.length (Fo Cm)=ByteArray.size Cm*1)&&decide ((Eu+ByteArray.size Cm)*1<=1099511627776)&&decide (Eu+ByteArray.size Cm<=1099511627776))<|Aa (Eu+ByteArray.size Cm) fun J8=>Aa (List.take (Eu*1) Hv++Fo Cm) fun G3=>Ar (decide (J8*1<=G3.length))<|some (A5.mk [.own 1 J8 (List.take (J8*1) G3)] [])) (Aa (wrap .i64 (Cg-1)) fun O6=>Aa (wrap .u8 O6) fun M7=>Ar (decide (Bd*1<=a0.length))<|Ai (call 76 [.own 1 Bd (List.take (Bd*1) a0),.sc (.int .u8 M7),.sc (.int .u64 Cf)]) fun Kw Mz=>Ab Kw fun O8 Pn=>Gl 1 O8 fun O5 Ry=>Ac Pn<|Ac Mz<|Ar (decide (O5*1<=Ry.length))<|some (A5.mk [.own 1 O5 (List.take (O5*1) Ry)] [])))))) (Ad C0 prog fu d):=by kernel_rfl
abbrev U8:FuncId:=55
theorem IY (fu d Al:Nat)(Aj:List PV)(Ao:Int):Ad C0 prog fu (d+1) U8 [.pbox [.own 3 Al Aj,.sc (.int .i64 Ao)]]=(fun (call:Ah)=>Bi (decide (Ao>0)) (Ar (decide (Al*3<=Aj.length))<|some (A5.mk [.sc (.bool ((↑Al:Int)==0))] [[.own 3 Al (List.take (Al*3) Aj),.sc (.int .i64 Ao)]])) (Ar (decide (Al*3<=Aj.length))<|some (A5.mk [.sc (.bool false)] [[.own 3 Al (List.take (Al*3) Aj),.sc (.int .i64 Ao)]]))) (Ad C0 prog fu d):=by kernel_rfl
abbrev So:FuncId:=91
theorem DT (fu d Al:Nat)(Aj:List PV)(Ao:Int):Ad C0 prog fu (d+1) So [.pbox [.own 3 Al Aj,.sc (.int .i64 Ao)]]=(fun (call:Ah)=>Bi (decide ((↑Al:Int)>0)) (Aa (wrap .i64 ((↑Al:Int)-1)) fun x1=>Ar (decide (0<=x1)&&decide (x1<(↑Al:Int)))<|Bu (List.getD Aj (0+Int.toNat x1*3+0) .top) fun x2=>Bi x2 (Aa (wrap .i64 ((↑Al:Int)-1)) fun x3=>Ar (decide (0<=x3)&&decide (x3<(↑Al:Int)))<|Ae .i64 (List.getD Aj (0+Int.toNat x3*3+1) .top) fun x4=>Aa (Int.tmod x4 2) fun x5=>Ar (decide (Al*3<=Aj.length))<|some (A5.mk [.sc (.bool (x5==0))] [[.own 3 Al (List.take (Al*3) Aj),.sc (.int .i64 Ao)]])) (Ar (decide (Al*3<=Aj.length))<|some (A5.mk [.sc (.bool false)] [[.own 3 Al (List.take (Al*3) Aj),.sc (.int .i64 Ao)]]))) (Ar (decide (Al*3<=Aj.length))<|some (A5.mk [.sc (.bool false)] [[.own 3 Al (List.take (Al*3) Aj),.sc (.int .i64 Ao)]]))) (Ad C0 prog fu d):=by kernel_rfl
abbrev Sl:FuncId:=78
theorem EY (fu d Al:Nat)(Aj:List PV)(Ao a1:Int):Ad C0 prog fu (d+1) Sl [.pbox [.own 3 Al Aj,.sc (.int .i64 Ao)],.sc (.int .i64 a1)]=(fun (call:Ah)=>Bi (decide (Ao>=512)) (Ar (decide (Al*3<=Aj.length))<|some (A5.mk [.sc (.int .i64 8)] [[.own 3 Al (List.take (Al*3) Aj),.sc (.int .i64 Ao)]])) (Bi (decide (a1<1)) (Ar (decide (Al*3<=Aj.length))<|some (A5.mk [.sc (.int .i64 3)] [[.own 3 Al (List.take (Al*3) Aj),.sc (.int .i64 Ao)]])) (Bi (decide (a1>8)) (Ar (decide (Al*3<=Aj.length))<|some (A5.mk [.sc (.int .i64 3)] [[.own 3 Al (List.take (Al*3) Aj),.sc (.int .i64 Ao)]])) (Ar (decide (Al*3<=Aj.length))<|Ai (call 91 [.pbox [.own 3 Al (List.take (Al*3) Aj),.sc (.int .i64 Ao)]]) fun x1 x2=>Ab x1 fun x3 x4=>Bu x3 fun x5=>Ac x4<|Ab x2 fun x6 x7=>Ab x6 fun x8 x9=>Gl 3 x8 fun C6 Dr=>Ab x9 fun Eg Ez=>Ae .i64 Eg fun D7=>Ac Ez<|Ac x7<|Bi x5 (Bi (a1 != 1) (Bi (a1 != 2) (Bi (a1 != 4) (Ar (decide (C6*3<=Dr.length))<|some (A5.mk [.sc (.int .i64 3)] [[.own 3 C6 (List.take (C6*3) Dr),.sc (.int .i64 D7)]])) (Bi (decide ((↑C6:Int)>8)) (Ar (decide (C6*3<=Dr.length))<|some (A5.mk [.sc (.int .i64 5)] [[.own 3 C6 (List.take (C6*3) Dr),.sc (.int .i64 D7)]])) (Ar (decide (C6*3<=Dr.length))<|some (A5.mk [.sc (.int .i64 0)] [[.own 3 C6 (List.take (C6*3) Dr),.sc (.int .i64 D7)]])))) (Bi (decide ((↑C6:Int)>8)) (Ar (decide (C6*3<=Dr.length))<|some (A5.mk [.sc (.int .i64 5)] [[.own 3 C6 (List.take (C6*3) Dr),.sc (.int .i64 D7)]])) (Ar (decide (C6*3<=Dr.length))<|some (A5.mk [.sc (.int .i64 0)] [[.own 3 C6 (List.take (C6*3) Dr),.sc (.int .i64 D7)]])))) (Bi (decide ((↑C6:Int)>8)) (Ar (decide (C6*3<=Dr.length))<|some (A5.mk [.sc (.int .i64 5)] [[.own 3 C6 (List.take (C6*3) Dr),.sc (.int .i64 D7)]])) (Ar (decide (C6*3<=Dr.length))<|some (A5.mk [.sc (.int .i64 0)] [[.own 3 C6 (List.take (C6*3) Dr),.sc (.int .i64 D7)]])))) (Bi (decide ((↑C6:Int)>8)) (Ar (decide (C6*3<=Dr.length))<|some (A5.mk [.sc (.int .i64 5)] [[.own 3 C6 (List.take (C6*3) Dr),.sc (.int .i64 D7)]])) (Ar (decide (C6*3<=Dr.length))<|some (A5.mk [.sc (.int .i64 0)] [[.own 3 C6 (List.take (C6*3) Dr),.sc (.int .i64 D7)]]))))))) (Ad C0 prog fu d):=by kernel_rfl
abbrev U5:FuncId:=93
noncomputable def Bb (fu:Nat)(call:Ah)(Al:Nat)(Aj:List PV)(Ao Cg Cf:Int)(Cm:ByteArray)(nn:Nat)(y0:Int)(y1:Nat)(y2:Int)(y3:List PV):Option A5:=Du CB prog fu call 93 Tryd.f93 (Ca Tryd.f93) [.pbox [.own 3 Al Aj,.sc (.int .i64 Ao)],.agg [.sc (.int .i64 Cg),.sc (.int .u64 Cf),.sc (.string Cm)]] [.r,.r,.r,.r,.r,.r,.l] nn ⟨lk [(0,(.ptr 212000 0)),(5,(.sc (.int .i64 y0)))],Br [(212000,(.st [(.view 212106 3 0 y1),(.sc (.int .i64 y2))])),(212106,(.ar false y3))]⟩
theorem Pm (fu:Nat)(call:Ah)(Al:Nat)(Aj:List PV)(Ao Cg Cf:Int)(Cm:ByteArray)(nn:Nat)(y0:Int)(y1:Nat)(y2:Int)(y3:List PV):Bb fu call Al Aj Ao Cg Cf Cm (nn+1) y0 y1 y2 y3=(Bi (decide (y0>0)) (Aa (wrap .i64 (y0-1)) fun Ry=>Ar (decide (0<=Ry)&&decide (Ry<(↑y1:Int)))<|Ae .i64 (List.getD y3 (0+Int.toNat Ry*3+1) .top) fun Vb=>Bi (Vb==0) (Aa (wrap .i64 (y0-1)) fun Ic=>Ar (decide (0<=Ic))<|Ar (decide (Int.toNat Ic<=y1))<|Aa (Int.toNat Ic-0) fun Ln=>Aa (wrap .i64 (y0-1)) fun S4=>Bb fu call Al Aj Ao Cg Cf Cm (nn) S4 Ln (y2) (y3)) (Ar (decide (y1*3<=y3.length))<|some (A5.mk [] [[.own 3 y1 (List.take (y1*3) y3),.sc (.int .i64 y2)]]))) (Ar (decide (y1*3<=y3.length))<|some (A5.mk [] [[.own 3 y1 (List.take (y1*3) y3),.sc (.int .i64 y2)]]))):=by kernel_rfl
theorem IM (fu d Al:Nat)(Aj:List PV)(Ao Cg Cf:Int)(Cm:ByteArray):Ad C0 prog fu (d+1) U5 [.pbox [.own 3 Al Aj,.sc (.int .i64 Ao)],.agg [.sc (.int .i64 Cg),.sc (.int .u64 Cf),.sc (.string Cm)]]=(fun (call:Ah)=>Aa (wrap .i64 (Ao+1)) fun x1=>Bi (decide ((↑Al:Int)>0)) (Aa (wrap .i64 ((↑Al:Int)-1)) fun x2=>Ar (decide (0<=x2)&&decide (x2<(↑Al:Int)))<|Ae .i64 (List.getD Aj (0+Int.toNat x2*3+1) .top) fun x3=>Aa (wrap .i64 (x3-1)) fun x4=>Ar (decide (0<=x2)&&decide (x2<(↑Al:Int)))<|Ar (decide (0+Int.toNat x2*3+1+1<=Aj.length))<|Aa (Bn Aj [.sc (.int .i64 x4)] (0+Int.toNat x2*3+1)) fun x5=>Bi (Cg==5) (Bi (decide (Cf>0)) (Aa (wrap .i64 Cf) fun x6=>Ar (decide (Al*3<=x5.length)&&true&&decide ((Al+1)*40<=1099511627776)&&decide (Al+1<=1099511627776))<|Aa (Al+1) fun x7=>Aa (List.take (Al*3) x5++[.sc (.bool false),.sc (.int .i64 x6),.lst false 1 0 []]) fun x8=>Bi (Cg==6) (Bi (decide (Cf>0)) (Aa (wrap .i64 Cf) fun x9=>Aa (wrap .i64 (2*x9)) fun C6=>Ar (decide (x7*3<=x8.length)&&true&&decide ((x7+1)*40<=1099511627776)&&decide (x7+1<=1099511627776))<|Aa (x7+1) fun Dr=>Aa (List.take (x7*3) x8++[.sc (.bool true),.sc (.int .i64 C6),.lst false 1 0 []]) fun Eg=>Bb fu call Al Aj Ao Cg Cf Cm (fu) ((↑Dr:Int)) Dr x1 Eg) (Bb fu call Al Aj Ao Cg Cf Cm (fu) ((↑x7:Int)) x7 x1 x8)) (Bb fu call Al Aj Ao Cg Cf Cm (fu) ((↑x7:Int)) x7 x1 x8)) (Bi (Cg==6) (Bi (decide (Cf>0)) (Aa (wrap .i64 Cf) fun Ez=>Aa (wrap .i64 (2*Ez)) fun D7=>Ar (decide (Al*3<=x5.length)&&true&&decide ((Al+1)*40<=1099511627776)&&decide (Al+1<=1099511627776))<|Aa (Al+1) fun Ew=>Aa (List.take (Al*3) x5++[.sc (.bool true),.sc (.int .i64 D7),.lst false 1 0 []]) fun Fw=>Bb fu call Al Aj Ao Cg Cf Cm (fu) ((↑Ew:Int)) Ew x1 Fw) (Bb fu call Al Aj Ao Cg Cf Cm (fu) ((↑Al:Int)) (Al) x1 x5)) (Bb fu call Al Aj Ao Cg Cf Cm (fu) ((↑Al:Int)) (Al) x1 x5))) (Bi (Cg==6) (Bi (decide (Cf>0)) (Aa (wrap .i64 Cf) fun Gm=>Aa (wrap .i64 (2*Gm)) fun G4=>Ar (decide (Al*3<=x5.length)&&true&&decide ((Al+1)*40<=1099511627776)&&decide (Al+1<=1099511627776))<|Aa (Al+1) fun Gi=>Aa (List.take (Al*3) x5++[.sc (.bool true),.sc (.int .i64 G4),.lst false 1 0 []]) fun Gy=>Bb fu call Al Aj Ao Cg Cf Cm (fu) ((↑Gi:Int)) Gi x1 Gy) (Bb fu call Al Aj Ao Cg Cf Cm (fu) ((↑Al:Int)) (Al) x1 x5)) (Bb fu call Al Aj Ao Cg Cf Cm (fu) ((↑Al:Int)) (Al) x1 x5))) (Bi (Cg==5) (Bi (decide (Cf>0)) (Aa (wrap .i64 Cf) fun Jk=>Ar (decide (Al*3<=Aj.length)&&true&&decide ((Al+1)*40<=1099511627776)&&decide (Al+1<=1099511627776))<|Aa (Al+1) fun Ia=>Aa (List.take (Al*3) Aj++[.sc (.bool false),.sc (.int .i64 Jk),.lst false 1 0 []]) fun Je=>Bi (Cg==6) (Bi (decide (Cf>0)) (Aa (wrap .i64 Cf) fun Fn=>Aa (wrap .i64 (2*Fn)) fun Eu=>Ar (decide (Ia*3<=Je.length)&&true&&decide ((Ia+1)*40<=1099511627776)&&decide (Ia+1<=1099511627776))<|Aa (Ia+1) fun Hv=>Aa (List.take (Ia*3) Je++[.sc (.bool true),.sc (.int .i64 Eu),.lst false 1 0 []]) fun J8=>Bb fu call Al Aj Ao Cg Cf Cm (fu) ((↑Hv:Int)) Hv x1 J8) (Bb fu call Al Aj Ao Cg Cf Cm (fu) ((↑Ia:Int)) Ia x1 Je)) (Bb fu call Al Aj Ao Cg Cf Cm (fu) ((↑Ia:Int)) Ia x1 Je)) (Bi (Cg==6) (Bi (decide (Cf>0)) (Aa (wrap .i64 Cf) fun G3=>Aa (wrap .i64 (2*G3)) fun O6=>Ar (decide (Al*3<=Aj.length)&&true&&decide ((Al+1)*40<=1099511627776)&&decide (Al+1<=1099511627776))<|Aa (Al+1) fun M7=>Aa (List.take (Al*3) Aj++[.sc (.bool true),.sc (.int .i64 O6),.lst false 1 0 []]) fun Kw=>Bb fu call Al Aj Ao Cg Cf Cm (fu) ((↑M7:Int)) M7 x1 Kw) (Bb fu call Al Aj Ao Cg Cf Cm (fu) ((↑Al:Int)) (Al) x1 (Aj))) (Bb fu call Al Aj Ao Cg Cf Cm (fu) ((↑Al:Int)) (Al) x1 (Aj)))) (Bi (Cg==6) (Bi (decide (Cf>0)) (Aa (wrap .i64 Cf) fun Mz=>Aa (wrap .i64 (2*Mz)) fun O8=>Ar (decide (Al*3<=Aj.length)&&true&&decide ((Al+1)*40<=1099511627776)&&decide (Al+1<=1099511627776))<|Aa (Al+1) fun Pn=>Aa (List.take (Al*3) Aj++[.sc (.bool true),.sc (.int .i64 O8),.lst false 1 0 []]) fun O5=>Bb fu call Al Aj Ao Cg Cf Cm (fu) ((↑Pn:Int)) Pn x1 O5) (Bb fu call Al Aj Ao Cg Cf Cm (fu) ((↑Al:Int)) (Al) x1 (Aj))) (Bb fu call Al Aj Ao Cg Cf Cm (fu) ((↑Al:Int)) (Al) x1 (Aj))))) (Ad C0 prog fu d):=by kernel_rfl
abbrev K4:FuncId:=79
theorem K7 (fu d Al:Nat)(Aj:List PV)(Ao Cg Cf:Int)(Cm:ByteArray):Ad C0 prog fu (d+1) K4 [.pbox [.own 3 Al Aj,.sc (.int .i64 Ao)],.agg [.sc (.int .i64 Cg),.sc (.int .u64 Cf),.sc (.string Cm)]]=(fun (call:Ah)=>Bi (Cg==4) (Ai (call 71 [.sc (.string Cm)]) fun x1 x2=>Ac x2<|Ab x1 fun x3 x4=>Bu x3 fun x5=>Ac x4<|Bi (!x5) (Ar (decide (Al*3<=Aj.length))<|some (A5.mk [.sc (.int .i64 6)] [[.own 3 Al (List.take (Al*3) Aj),.sc (.int .i64 Ao)]])) (Ar (decide (Al*3<=Aj.length))<|Ai (call 91 [.pbox [.own 3 Al (List.take (Al*3) Aj),.sc (.int .i64 Ao)]]) fun x6 x7=>Ab x6 fun x8 x9=>Bu x8 fun C6=>Ac x9<|Ab x7 fun Dr Eg=>Ab Dr fun Ez D7=>Gl 3 Ez fun Ew Fw=>Ab D7 fun Gm G4=>Ae .i64 Gm fun Gi=>Ac G4<|Ac Eg<|Bi C6 (Aa (wrap .i64 ((↑Ew:Int)-1)) fun Gy=>Ar (decide (0<=Gy)&&decide (Gy<(↑Ew:Int)))<|Ai (call 54 [.own 1 0 [],.agg [.sc (.int .i64 Cg),.sc (.int .u64 Cf),.sc (.string Cm)]]) fun Jk Ia=>Ab Jk fun Je Fn=>Gl 1 Je fun Eu Hv=>Ac Fn<|Ac Ia<|Fq 1 (List.getD Fw (0+Int.toNat Gy*3+0+2) .top) fun J8 G3 O6=>Bi (decide (0<G3)) (Fq 1 (List.getD Fw (0+Int.toNat Gy*3+0+2) .top) fun M7 Kw Mz=>Ar (decide (0+Eu*1<=Hv.length))<|Ai (call 92 [.lst false 1 Kw Mz,.lst false 1 Eu (List.take (Eu*1) (List.drop 0 Hv))]) fun O8 Pn=>Ac Pn<|Ab O8 fun O5 Ry=>Bu O5 fun Vb=>Ac Ry<|Bi (!Vb) (Ar (decide (Ew*3<=Fw.length))<|some (A5.mk [.sc (.int .i64 7)] [[.own 3 Ew (List.take (Ew*3) Fw),.sc (.int .i64 Gi)]])) (Ar (decide (0+Int.toNat Gy*3+0+2+1<=Fw.length))<|Ar (decide (0+Eu*1<=Hv.length))<|Aa (Bn Fw [.lst false 1 Eu (List.take (Eu*1) (List.drop 0 Hv))] (0+Int.toNat Gy*3+0+2)) fun Ic=>Ar (decide (Ew*3<=Ic.length))<|Ai (call 93 [.pbox [.own 3 Ew (List.take (Ew*3) Ic),.sc (.int .i64 Gi)],.agg [.sc (.int .i64 Cg),.sc (.int .u64 Cf),.sc (.string Cm)]]) fun Ln S4=>Ac Ln<|Ab S4 fun Xb R9=>Ab Xb fun Ye Za=>Gl 3 Ye fun X6 Xc=>Ab Za fun Yd Yq=>Ae .i64 Yd fun Yu=>Ac Yq<|Ac R9<|Ar (decide (X6*3<=Xc.length))<|some (A5.mk [.sc (.int .i64 0)] [[.own 3 X6 (List.take (X6*3) Xc),.sc (.int .i64 Yu)]]))) (Wp (Fq 1 (List.getD Fw (0+Int.toNat Gy*3+0+2) .top) fun BD Zz Zg=>Ar (decide (0+Eu*1<=Hv.length))<|Ai (call 92 [.lst false 1 Zz Zg,.lst false 1 Eu (List.take (Eu*1) (List.drop 0 Hv))]) fun BX EJ=>Ac EJ<|Ab BX fun DK CJ=>Bu DK fun CI=>Ac CJ<|Bi (!CI) (Ar (decide (Ew*3<=Fw.length))<|some (A5.mk [.sc (.int .i64 7)] [[.own 3 Ew (List.take (Ew*3) Fw),.sc (.int .i64 Gi)]])) (Ar (decide (0+Int.toNat Gy*3+0+2+1<=Fw.length))<|Ar (decide (0+Eu*1<=Hv.length))<|Aa (Bn Fw [.lst false 1 Eu (List.take (Eu*1) (List.drop 0 Hv))] (0+Int.toNat Gy*3+0+2)) fun Z3=>Ar (decide (Ew*3<=Z3.length))<|Ai (call 93 [.pbox [.own 3 Ew (List.take (Ew*3) Z3),.sc (.int .i64 Gi)],.agg [.sc (.int .i64 Cg),.sc (.int .u64 Cf),.sc (.string Cm)]]) fun GV AF=>Ac GV<|Ab AF fun CU FF=>Ab CU fun DM AA=>Gl 3 DM fun Y9 Xd=>Ab AA fun EH GU=>Ae .i64 EH fun DN=>Ac GU<|Ac FF<|Ar (decide (Y9*3<=Xd.length))<|some (A5.mk [.sc (.int .i64 0)] [[.own 3 Y9 (List.take (Y9*3) Xd),.sc (.int .i64 DN)]]))) (Ar (decide (0+Int.toNat Gy*3+0+2+1<=Fw.length))<|Ar (decide (0+Eu*1<=Hv.length))<|Aa (Bn Fw [.lst false 1 Eu (List.take (Eu*1) (List.drop 0 Hv))] (0+Int.toNat Gy*3+0+2)) fun FH=>Ar (decide (Ew*3<=FH.length))<|Ai (call 93 [.pbox [.own 3 Ew (List.take (Ew*3) FH),.sc (.int .i64 Gi)],.agg [.sc (.int .i64 Cg),.sc (.int .u64 Cf),.sc (.string Cm)]]) fun DJ FS=>Ac DJ<|Ab FS fun GW AL=>Ab GW fun KL MX=>Gl 3 KL fun DH LX=>Ab MX fun QU RT=>Ae .i64 QU fun OM=>Ac RT<|Ac AL<|Ar (decide (DH*3<=LX.length))<|some (A5.mk [.sc (.int .i64 0)] [[.own 3 DH (List.take (DH*3) LX),.sc (.int .i64 OM)]])))) (Ar (decide (Ew*3<=Fw.length))<|Ai (call 93 [.pbox [.own 3 Ew (List.take (Ew*3) Fw),.sc (.int .i64 Gi)],.agg [.sc (.int .i64 Cg),.sc (.int .u64 Cf),.sc (.string Cm)]]) fun TH x83=>Ac TH<|Ab x83 fun VU x85=>Ab VU fun YL x87=>Gl 3 YL fun YA NB=>Ab x87 fun RV UR=>Ae .i64 RV fun x92=>Ac UR<|Ac x85<|Ar (decide (YA*3<=NB.length))<|some (A5.mk [.sc (.int .i64 0)] [[.own 3 YA (List.take (YA*3) NB),.sc (.int .i64 x92)]])))) (Ar (decide (Al*3<=Aj.length))<|Ai (call 91 [.pbox [.own 3 Al (List.take (Al*3) Aj),.sc (.int .i64 Ao)]]) fun x93 x94=>Ab x93 fun x95 x96=>Bu x95 fun WG=>Ac x96<|Ab x94 fun SB x99=>Ab SB fun T0 ES=>Gl 3 T0 fun Jq M0=>Ab ES fun Z4 We=>Ae .i64 Z4 fun Ww=>Ac We<|Ac x99<|Bi WG (Aa (wrap .i64 ((↑Jq:Int)-1)) fun Qd=>Ar (decide (0<=Qd)&&decide (Qd<(↑Jq:Int)))<|Ai (call 54 [.own 1 0 [],.agg [.sc (.int .i64 Cg),.sc (.int .u64 Cf),.sc (.string Cm)]]) fun HM MD=>Ab HM fun PW QN=>Gl 1 PW fun Ma Q2=>Ac QN<|Ac MD<|Fq 1 (List.getD M0 (0+Int.toNat Qd*3+0+2) .top) fun SP SF MJ=>Bi (decide (0<SF)) (Fq 1 (List.getD M0 (0+Int.toNat Qd*3+0+2) .top) fun TZ SZ QW=>Ar (decide (0+Ma*1<=Q2.length))<|Ai (call 92 [.lst false 1 SZ QW,.lst false 1 Ma (List.take (Ma*1) (List.drop 0 Q2))]) fun TO LU=>Ac LU<|Ab TO fun EB SG=>Bu EB fun QE=>Ac SG<|Bi (!QE) (Ar (decide (Jq*3<=M0.length))<|some (A5.mk [.sc (.int .i64 7)] [[.own 3 Jq (List.take (Jq*3) M0),.sc (.int .i64 Ww)]])) (Ar (decide (0+Int.toNat Qd*3+0+2+1<=M0.length))<|Ar (decide (0+Ma*1<=Q2.length))<|Aa (Bn M0 [.lst false 1 Ma (List.take (Ma*1) (List.drop 0 Q2))] (0+Int.toNat Qd*3+0+2)) fun CO=>Ar (decide (Jq*3<=CO.length))<|Ai (call 93 [.pbox [.own 3 Jq (List.take (Jq*3) CO),.sc (.int .i64 Ww)],.agg [.sc (.int .i64 Cg),.sc (.int .u64 Cf),.sc (.string Cm)]]) fun DF IV=>Ac DF<|Ab IV fun HA QT=>Ab HA fun MK Ae1=>Gl 3 MK fun HF MI=>Ab Ae1 fun YX XZ=>Ae .i64 YX fun MO=>Ac XZ<|Ac QT<|Ar (decide (HF*3<=MI.length))<|some (A5.mk [.sc (.int .i64 0)] [[.own 3 HF (List.take (HF*3) MI),.sc (.int .i64 MO)]]))) (Wp (Fq 1 (List.getD M0 (0+Int.toNat Qd*3+0+2) .top) fun Abw Ac7 Ab5=>Ar (decide (0+Ma*1<=Q2.length))<|Ai (call 92 [.lst false 1 Ac7 Ab5,.lst false 1 Ma (List.take (Ma*1) (List.drop 0 Q2))]) fun MT ME=>Ac ME<|Ab MT fun ZV YG=>Bu ZV fun TT=>Ac YG<|Bi (!TT) (Ar (decide (Jq*3<=M0.length))<|some (A5.mk [.sc (.int .i64 7)] [[.own 3 Jq (List.take (Jq*3) M0),.sc (.int .i64 Ww)]])) (Ar (decide (0+Int.toNat Qd*3+0+2+1<=M0.length))<|Ar (decide (0+Ma*1<=Q2.length))<|Aa (Bn M0 [.lst false 1 Ma (List.take (Ma*1) (List.drop 0 Q2))] (0+Int.toNat Qd*3+0+2)) fun HN=>Ar (decide (Jq*3<=HN.length))<|Ai (call 93 [.pbox [.own 3 Jq (List.take (Jq*3) HN),.sc (.int .i64 Ww)],.agg [.sc (.int .i64 Cg),.sc (.int .u64 Cf),.sc (.string Cm)]]) fun MP YD=>Ac MP<|Ab YD fun ZU Adh=>Ab ZU fun Afn Af9=>Gl 3 Afn fun Af2 Arh=>Ab Af9 fun An6 Ard=>Ae .i64 An6 fun Am8=>Ac Ard<|Ac Adh<|Ar (decide (Af2*3<=Arh.length))<|some (A5.mk [.sc (.int .i64 0)] [[.own 3 Af2 (List.take (Af2*3) Arh),.sc (.int .i64 Am8)]]))) (Ar (decide (0+Int.toNat Qd*3+0+2+1<=M0.length))<|Ar (decide (0+Ma*1<=Q2.length))<|Aa (Bn M0 [.lst false 1 Ma (List.take (Ma*1) (List.drop 0 Q2))] (0+Int.toNat Qd*3+0+2)) fun Alv=>Ar (decide (Jq*3<=Alv.length))<|Ai (call 93 [.pbox [.own 3 Jq (List.take (Jq*3) Alv),.sc (.int .i64 Ww)],.agg [.sc (.int .i64 Cg),.sc (.int .u64 Cf),.sc (.string Cm)]]) fun Aj3 Apx=>Ac Aj3<|Ab Apx fun Amu Aml=>Ab Amu fun Aqb Au9=>Gl 3 Aqb fun Agv Ald=>Ab Au9 fun Amz Apu=>Ae .i64 Amz fun Aun=>Ac Apu<|Ac Aml<|Ar (decide (Agv*3<=Ald.length))<|some (A5.mk [.sc (.int .i64 0)] [[.own 3 Agv (List.take (Agv*3) Ald),.sc (.int .i64 Aun)]])))) (Ar (decide (Jq*3<=M0.length))<|Ai (call 93 [.pbox [.own 3 Jq (List.take (Jq*3) M0),.sc (.int .i64 Ww)],.agg [.sc (.int .i64 Cg),.sc (.int .u64 Cf),.sc (.string Cm)]]) fun Amv Api=>Ac Amv<|Ab Api fun Aq8 Aoh=>Ab Aq8 fun Apd Amy=>Gl 3 Apd fun Anf Auj=>Ab Amy fun Ax0 A0a=>Ae .i64 Ax0 fun Azz=>Ac A0a<|Ac Aoh<|Ar (decide (Anf*3<=Auj.length))<|some (A5.mk [.sc (.int .i64 0)] [[.own 3 Anf (List.take (Anf*3) Auj),.sc (.int .i64 Azz)]])))) (Ad C0 prog fu d):=by kernel_rfl
abbrev Ps:FuncId:=75
theorem Zm (fu d Al:Nat)(Aj:List PV)(Ao Cg Cf:Int)(Cm:ByteArray):Ad C0 prog fu (d+1) Ps [.pbox [.own 3 Al Aj,.sc (.int .i64 Ao)],.agg [.sc (.int .i64 Cg),.sc (.int .u64 Cf),.sc (.string Cm)]]=(fun (call:Ah)=>Ar (decide (Al*3<=Aj.length))<|Ai (call 55 [.pbox [.own 3 Al (List.take (Al*3) Aj),.sc (.int .i64 Ao)]]) fun x1 x2=>Ab x1 fun x3 x4=>Bu x3 fun x5=>Ac x4<|Ab x2 fun x6 x7=>Ab x6 fun x8 x9=>Gl 3 x8 fun C6 Dr=>Ab x9 fun Eg Ez=>Ae .i64 Eg fun D7=>Ac Ez<|Ac x7<|Bi x5 (Ar (decide (C6*3<=Dr.length))<|some (A5.mk [.sc (.int .i64 2)] [[.own 3 C6 (List.take (C6*3) Dr),.sc (.int .i64 D7)]])) (Ar (decide (C6*3<=Dr.length))<|Ai (call 78 [.pbox [.own 3 C6 (List.take (C6*3) Dr),.sc (.int .i64 D7)],.sc (.int .i64 Cg)]) fun Ew Fw=>Ab Ew fun Gm G4=>Ae .i64 Gm fun Gi=>Ac G4<|Ab Fw fun Gy Jk=>Ab Gy fun Ia Je=>Gl 3 Ia fun Fn Eu=>Ab Je fun Hv J8=>Ae .i64 Hv fun G3=>Ac J8<|Ac Jk<|Bi (Gi != 0) (Ar (decide (Fn*3<=Eu.length))<|some (A5.mk [.sc (.int .i64 Gi)] [[.own 3 Fn (List.take (Fn*3) Eu),.sc (.int .i64 G3)]])) (Ai (call 89 [.agg [.sc (.int .i64 Cg),.sc (.int .u64 Cf),.sc (.string Cm)]]) fun O6 M7=>Ac M7<|Ab O6 fun Kw Mz=>Bu Kw fun O8=>Ac Mz<|Bi (!O8) (Ar (decide (Fn*3<=Eu.length))<|some (A5.mk [.sc (.int .i64 4)] [[.own 3 Fn (List.take (Fn*3) Eu),.sc (.int .i64 G3)]])) (Bi (decide ((↑(ByteArray.size Cm):Int)>1024)) (Ar (decide (Fn*3<=Eu.length))<|some (A5.mk [.sc (.int .i64 8)] [[.own 3 Fn (List.take (Fn*3) Eu),.sc (.int .i64 G3)]])) (Bi (Cg==5) (Bi (decide (Cf>512)) (Ar (decide (Fn*3<=Eu.length))<|some (A5.mk [.sc (.int .i64 8)] [[.own 3 Fn (List.take (Fn*3) Eu),.sc (.int .i64 G3)]])) (Ar (decide (Fn*3<=Eu.length))<|Ai (call 79 [.pbox [.own 3 Fn (List.take (Fn*3) Eu),.sc (.int .i64 G3)],.agg [.sc (.int .i64 Cg),.sc (.int .u64 Cf),.sc (.string Cm)]]) fun Pn O5=>Ab Pn fun Ry Vb=>Ae .i64 Ry fun Ic=>Ac Vb<|Ab O5 fun Ln S4=>Ab Ln fun Xb R9=>Gl 3 Xb fun Ye Za=>Ab R9 fun X6 Xc=>Ae .i64 X6 fun Yd=>Ac Xc<|Ac S4<|Ar (decide (Ye*3<=Za.length))<|some (A5.mk [.sc (.int .i64 Ic)] [[.own 3 Ye (List.take (Ye*3) Za),.sc (.int .i64 Yd)]]))) (Bi (Cg==6) (Bi (decide (Cf>512)) (Ar (decide (Fn*3<=Eu.length))<|some (A5.mk [.sc (.int .i64 8)] [[.own 3 Fn (List.take (Fn*3) Eu),.sc (.int .i64 G3)]])) (Ar (decide (Fn*3<=Eu.length))<|Ai (call 79 [.pbox [.own 3 Fn (List.take (Fn*3) Eu),.sc (.int .i64 G3)],.agg [.sc (.int .i64 Cg),.sc (.int .u64 Cf),.sc (.string Cm)]]) fun Yq Yu=>Ab Yq fun BD Zz=>Ae .i64 BD fun Zg=>Ac Zz<|Ab Yu fun BX EJ=>Ab BX fun DK CJ=>Gl 3 DK fun CI Z3=>Ab CJ fun GV AF=>Ae .i64 GV fun CU=>Ac AF<|Ac EJ<|Ar (decide (CI*3<=Z3.length))<|some (A5.mk [.sc (.int .i64 Zg)] [[.own 3 CI (List.take (CI*3) Z3),.sc (.int .i64 CU)]]))) (Ar (decide (Fn*3<=Eu.length))<|Ai (call 79 [.pbox [.own 3 Fn (List.take (Fn*3) Eu),.sc (.int .i64 G3)],.agg [.sc (.int .i64 Cg),.sc (.int .u64 Cf),.sc (.string Cm)]]) fun FF DM=>Ab FF fun AA Y9=>Ae .i64 AA fun Xd=>Ac Y9<|Ab DM fun EH GU=>Ab EH fun DN FH=>Gl 3 DN fun DJ FS=>Ab FH fun GW AL=>Ae .i64 GW fun KL=>Ac AL<|Ac GU<|Ar (decide (DJ*3<=FS.length))<|some (A5.mk [.sc (.int .i64 Xd)] [[.own 3 DJ (List.take (DJ*3) FS),.sc (.int .i64 KL)]])))))))) (Ad C0 prog fu d):=by kernel_rfl
abbrev Wm:FuncId:=53
noncomputable def J9 (fu:Nat)(call:Ah)(Bd:Nat)(a0:List PV)(nn y0:Nat)(y1:List PV)(y2 y3:Int)(y4:Nat)(y5:Int)(y6:List PV):Option A5:=Du CB prog fu call 53 Tryd.f53 (Ca Tryd.f53) [.lst false 3 Bd a0] [.r,.r,.l,.r,.l] nn ⟨lk [(3,(.ptr 3 0)),(7,(.lst false 3 y0 y1)),(8,(.sc (.int .i64 y2))),(9,(.sc (.int .i64 y3)))],Br [(3,(.st [(.view 25 3 0 y4),(.sc (.int .i64 y5))])),(25,(.ar false y6))]⟩
theorem Rr (fu:Nat)(call:Ah)(Bd:Nat)(a0:List PV)(nn y0:Nat)(y1:List PV)(y2 y3:Int)(y4:Nat)(y5:Int)(y6:List PV):J9 fu call Bd a0 (nn+1) y0 y1 y2 y3 y4 y5 y6=(Bi (decide (y3<y2)) (Ar (decide (0<=y3)&&decide (y3<(↑y0:Int)))<|Ae .i64 (List.getD y1 (Int.toNat y3*3) .top) fun x1=>Ae .u64 (List.getD y1 (Int.toNat y3*3+1) .top) fun x2=>Iz (List.getD y1 (Int.toNat y3*3+1+1) .top) fun x3=>Ar (decide (y4*3<=y6.length))<|Ai (call 75 [.pbox [.own 3 y4 (List.take (y4*3) y6),.sc (.int .i64 y5)],.agg [.sc (.int .i64 x1),.sc (.int .u64 x2),.sc (.string x3)]]) fun x4 x5=>Ab x4 fun x6 x7=>Ae .i64 x6 fun x8=>Ac x7<|Ab x5 fun x9 C6=>Ab x9 fun Dr Eg=>Gl 3 Dr fun Ez D7=>Ab Eg fun Ew Fw=>Ae .i64 Ew fun Gm=>Ac Fw<|Ac C6<|Bi (x8 != 0) (some (A5.mk [.sc (.int .i64 x8)] [])) (Aa (wrap .i64 (y3+1)) fun G4=>J9 fu call Bd a0 (nn) (y0) (y1) (y2) G4 Ez Gm D7)) (Ar (decide (y4*3<=y6.length))<|Ai (call 55 [.pbox [.own 3 y4 (List.take (y4*3) y6),.sc (.int .i64 y5)]]) fun Gi Gy=>Ab Gi fun Jk Ia=>Bu Jk fun Je=>Ac Ia<|Ab Gy fun Fn Eu=>Ab Fn fun Hv J8=>Gl 3 Hv fun G3 O6=>Ab J8 fun M7 Kw=>Ae .i64 M7 fun Mz=>Ac Kw<|Ac Eu<|Bi (!Je) (some (A5.mk [.sc (.int .i64 1)] [])) (some (A5.mk [.sc (.int .i64 0)] [])))):=by kernel_rfl
theorem MH (fu d Bd:Nat)(a0:List PV):Ad C0 prog fu (d+1) Wm [.lst false 3 Bd a0]=(fun (call:Ah)=>J9 fu call Bd a0 (fu) (Bd) (a0) ((↑Bd:Int)) 0 0 0 ([])) (Ad C0 prog fu d):=by kernel_rfl
abbrev Xn:FuncId:=52
theorem OQ (fu d Bd:Nat)(a0:List PV):Ad C0 prog fu (d+1) Xn [.own 3 Bd a0]=(fun (call:Ah)=>Ar (decide (0+Bd*3<=a0.length))<|Ai (call 53 [.lst false 3 Bd (List.take (Bd*3) (List.drop 0 a0))]) fun x1 x2=>Ac x2<|Ab x1 fun x3 x4=>Ae .i64 x3 fun x5=>Ac x4<|Bi (x5 != 0) (some (A5.mk [.own 3 0 [],.sc (.int .i64 x5)] [])) (Ar (decide (Bd*3<=a0.length))<|some (A5.mk [.own 3 Bd (List.take (Bd*3) a0),.sc (.int .i64 0)] []))) (Ad C0 prog fu d):=by kernel_rfl
abbrev AU:FuncId:=51
noncomputable def Mk (fu:Nat)(call:Ah)(Bd:Nat)(a0:List PV)(nn y0:Nat)(y1:List PV)(y2 y3:Int):Option A5:=Du CB prog fu call 51 Tryd.f51 (Ca Tryd.f51) [.lst false 1 Bd a0] [.r,.l,.r,.l] nn ⟨lk [(6,(.lst false 1 y0 y1)),(7,(.sc (.int .i64 y2))),(8,(.sc (.int .i64 y3)))],Br []⟩
theorem Tt (fu:Nat)(call:Ah)(Bd:Nat)(a0:List PV)(nn y0:Nat)(y1:List PV)(y2 y3:Int):Mk fu call Bd a0 (nn+1) y0 y1 y2 y3=(Bi (decide (y3<y2)) (Ar (decide (0<=y3)&&decide (y3<(↑y0:Int)))<|Fq 3 (List.getD y1 (Int.toNat y3*1) .top) fun x1 x2 x3=>Ai (call 53 [.lst false 3 x2 x3]) fun x4 x5=>Ac x5<|Ab x4 fun x6 x7=>Ae .i64 x6 fun x8=>Ac x7<|Bi (x8 != 0) (some (A5.mk [.sc (.int .i64 x8)] [])) (Aa (wrap .i64 (y3+1)) fun x9=>Mk fu call Bd a0 (nn) (y0) (y1) (y2) x9)) (some (A5.mk [.sc (.int .i64 0)] []))):=by kernel_rfl
theorem SO (fu d Bd:Nat)(a0:List PV):Ad C0 prog fu (d+1) AU [.lst false 1 Bd a0]=(fun (call:Ah)=>Mk fu call Bd a0 (fu) (Bd) (a0) ((↑Bd:Int)) 0) (Ad C0 prog fu d):=by kernel_rfl
abbrev Ii:FuncId:=29
noncomputable def N8 (fu:Nat)(call:Ah)(Bd:Nat)(a0:List PV)(nn y0 y1:Nat)(y2:List PV)(y3 y4:Int)(y5:List PV):Option A5:=Du CB prog fu call 29 Tryd.f29 (Ca Tryd.f29) [.lst false 1 Bd a0] [.r,.r,.r,.l,.r,.l] nn ⟨lk [(5,(.view 5 3 0 y0)),(18,(.lst false 1 y1 y2)),(19,(.sc (.int .i64 y3))),(20,(.sc (.int .i64 y4)))],Br [(5,(.ar false y5))]⟩
theorem Wt (fu:Nat)(call:Ah)(Bd:Nat)(a0:List PV)(nn y0 y1:Nat)(y2:List PV)(y3 y4:Int)(y5:List PV):N8 fu call Bd a0 (nn+1) y0 y1 y2 y3 y4 y5=(Bi (decide (y4<y3)) (Ar (decide (0<=y4)&&decide (y4<(↑y1:Int)))<|Fq 3 (List.getD y2 (Int.toNat y4*1) .top) fun x7 x8 x9=>Bi (decide ((↑y0:Int)>512)) (Ar (decide (y0*3<=y5.length))<|Ai (call 52 [.own 3 y0 (List.take (y0*3) y5)]) fun C6 Dr=>Ab C6 fun Eg Ez=>Gl 3 Eg fun D7 Ew=>Ab Ez fun Fw Gm=>Ae .i64 Fw fun G4=>Ac Gm<|Ac Dr<|Ar (decide (D7*3<=Ew.length))<|some (A5.mk [.own 3 D7 (List.take (D7*3) Ew),.sc (.int .i64 G4)] [])) (Ar (decide (y0*3<=y5.length)&&decide (x9.length=x8*3)&&decide ((y0+x8)*32<=1099511627776)&&decide (y0+x8<=1099511627776))<|Aa (y0+x8) fun Gi=>Aa (List.take (y0*3) y5++x9) fun Gy=>Aa (wrap .i64 (y4+1)) fun Jk=>N8 fu call Bd a0 (nn) Gi (y1) (y2) (y3) Jk Gy)) (Ar (decide (y0*3<=y5.length))<|Ai (call 52 [.own 3 y0 (List.take (y0*3) y5)]) fun Ia Je=>Ab Ia fun Fn Eu=>Gl 3 Fn fun Hv J8=>Ab Eu fun G3 O6=>Ae .i64 G3 fun M7=>Ac O6<|Ac Je<|Ar (decide (Hv*3<=J8.length))<|some (A5.mk [.own 3 Hv (List.take (Hv*3) J8),.sc (.int .i64 M7)] []))):=by kernel_rfl
theorem ZR (fu d Bd:Nat)(a0:List PV):Ad C0 prog fu (d+1) Ii [.lst false 1 Bd a0]=(fun (call:Ah)=>Ai (call 51 [.lst false 1 Bd a0]) fun x1 x2=>Ac x2<|Ab x1 fun x3 x4=>Ae .i64 x3 fun x5=>Ac x4<|Bi (x5 != 0) (some (A5.mk [.own 3 0 [],.sc (.int .i64 x5)] [])) (Aa (wrap .u64 (↑Bd:Int)) fun x6=>N8 fu call Bd a0 (fu) 1 (Bd) (a0) ((↑Bd:Int)) 0 ([.sc (.int .i64 5),.sc (.int .u64 x6),.sc (.string (ByteArray.mk #[]))]))) (Ad C0 prog fu d):=by kernel_rfl
abbrev AQ:FuncId:=31
noncomputable def Mr (fu:Nat)(call:Ah)(Bd:Nat)(a0:List PV)(nn y0 y1:Nat)(y2:List PV)(y3 y4:Int)(y5:List PV):Option A5:=Du CB prog fu call 31 Tryd.f31 (Ca Tryd.f31) [.lst false 3 Bd a0] [.r,.r,.r,.l,.r,.l] nn ⟨lk [(5,(.view 5 1 0 y0)),(13,(.lst false 3 y1 y2)),(14,(.sc (.int .i64 y3))),(15,(.sc (.int .i64 y4)))],Br [(5,(.ar false y5))]⟩
theorem Tr (fu:Nat)(call:Ah)(Bd:Nat)(a0:List PV)(nn y0 y1:Nat)(y2:List PV)(y3 y4:Int)(y5:List PV):Mr fu call Bd a0 (nn+1) y0 y1 y2 y3 y4 y5=(Bi (decide (y4<y3)) (Ar (decide (0<=y4)&&decide (y4<(↑y1:Int)))<|Ae .i64 (List.getD y2 (Int.toNat y4*3) .top) fun x6=>Ae .u64 (List.getD y2 (Int.toNat y4*3+1) .top) fun x7=>Iz (List.getD y2 (Int.toNat y4*3+1+1) .top) fun x8=>Ar (decide (y0*1<=y5.length))<|Ai (call 54 [.own 1 y0 (List.take (y0*1) y5),.agg [.sc (.int .i64 x6),.sc (.int .u64 x7),.sc (.string x8)]]) fun x9 C6=>Ab x9 fun Dr Eg=>Gl 1 Dr fun Ez D7=>Ac Eg<|Ac C6<|Aa (wrap .i64 (y4+1)) fun Ew=>Mr fu call Bd a0 (nn) Ez (y1) (y2) (y3) Ew D7) (Ar (decide (y0*1<=y5.length))<|some (A5.mk [.own 1 y0 (List.take (y0*1) y5),.sc (.int .i64 0)] []))):=by kernel_rfl
theorem TW (fu d Bd:Nat)(a0:List PV):Ad C0 prog fu (d+1) AQ [.lst false 3 Bd a0]=(fun (call:Ah)=>Ai (call 53 [.lst false 3 Bd a0]) fun x1 x2=>Ac x2<|Ab x1 fun x3 x4=>Ae .i64 x3 fun x5=>Ac x4<|Bi (x5 != 0) (some (A5.mk [.own 1 0 [],.sc (.int .i64 x5)] [])) (Mr fu call Bd a0 (fu) 0 (Bd) (a0) ((↑Bd:Int)) 0 ([]))) (Ad C0 prog fu d):=by kernel_rfl
end
section
open Go.Proofs.Tryd (prog)
open Go.IntKind (wrap)
def Mb (s:ByteArray):List Int:=s.data.toList.map fun b=>(b.toNat:Int)
def Dq (l:List Int):ByteArray:=⟨(l.map fun n=>n.toNat.toUInt8).toArray⟩
theorem Re (s:ByteArray):(Mb s).length=s.size:=by
 unfold Mb;rw[List.length_map];rfl
theorem Aen (s:ByteArray):Kg (Mb s):=by
 intro x hx;obtain⟨b,_,rfl⟩:=List.mem_map.1 hx;have:=b.toNat_lt;omega
theorem S2 (s:ByteArray):Fo s=Af .u8 (Mb s):=by
 unfold Fo Mb
 induction s.data.toList with
 |nil=>rfl
 |cons b l ih=>rw[VO,VO,ih];rfl
theorem P8 (l:List Int):(Dq l).size=l.length:=by
 show (l.map fun n=>n.toNat.toUInt8).toArray.size=_
 simp
theorem Vk {l:List Int}(h:Kg l):Mb (Dq l)=l:=by
 unfold Mb Dq;simp only[List.map_map]
 have:∀l:List Int,Kg l->List.map ((fun b:UInt8=>(b.toNat:Int)) ∘ fun n:Int=>n.toNat.toUInt8) l=l:=by
  intro l
  induction l with
  |nil=>intro _;rfl
  |cons x l ih=>
   intro h;have hx:=h x (by simp)
   rw[VO,ih fun y hy=>h y (by simp[hy])]
   congr 1
   show ((x.toNat.toUInt8.toNat:Nat):Int)=x;rw[Nat.toUInt8,UInt8.toNat_ofNat'];omega
 exact this l h
theorem ZD (s:ByteArray):Dq (Mb s)=s:=by
 unfold Dq Mb;simp only[List.map_map]
 have:∀l:List UInt8,List.map ((fun n:Int=>n.toNat.toUInt8) ∘ fun b:UInt8=>(b.toNat:Int)) l=l:=by
  intro l
  induction l with
  |nil=>rfl
  |cons x l ih=>
   rw[VO,ih]
   congr 1
   show ((x.toNat:Int).toNat).toUInt8=x;rw[Hs];simp
 rw[this]
theorem Lh:∀l:List Int,bytesOf (Af .u8 l)=some (l.map fun n=>n.toNat.toUInt8)
 |[]=>rfl
 |x::l=>by
  show (bytesOf (Af .u8 l)).map (x.toNat.toUInt8 :: ·)=_
  rw[Lh l];rfl
def tb (n:Int)(k:Nat):List Int:=(List.range' (8-k) k).map (Dv n)
def D0 (mj n:Int):List Int:=
 if n<24 then [32*mj+n] else if n<256 then (32*mj+24)::tb n 1 else if n<65536 then (32*mj+25)::tb n 2 else if n<4294967296 then (32*mj+26)::tb n 4 else (32*mj+27)::tb n 8
structure It where
 k:Int
 n:Int
 s:ByteArray
def It.cells (x:It):List PV:=[.sc (.int .i64 x.k),.sc (.int .u64 x.n),.sc (.string x.s)]
def Do (x:It):List Int:=
 if x.k=7 then [wrap .u8 (244+wrap .u8 x.n)] else if x.k=8 then [246] else if x.k=3 then D0 2 x.s.size++Mb x.s else if x.k=4 then D0 3 x.s.size++Mb x.s else D0 (x.k-1) x.n
theorem CN (n:Int)(k:Nat):(tb n k).length=k:=by simp[tb]
theorem A6q (n:Int)(k:Nat):Kg (tb n k):=by
 intro x hx;obtain⟨j,_,rfl⟩:=List.mem_map.1 hx;exact Abe n j
theorem Nu (mj n:Int):1<=(D0 mj n).length∧(D0 mj n).length<=9:=by
 unfold D0
 repeat' split
 all_goals simp[CN]
theorem YQ {mj n:Int}(h0:0<=mj)(h1:mj<=6)(hn:0<=n):Kg (D0 mj n):=by
 have hc:∀(a:Int) (l:List Int),0<=a∧a<=255->Kg l->Kg (a::l):=by
  intro a l ha hl x hx;rcases List.mem_cons.1 hx with rfl|hx
  ·exact ha
  ·exact hl x hx
 unfold D0
 repeat' split
 ·exact hc _ _ (by omega) (fun _ h=>by simp at h)
 all_goals exact hc _ _ (by omega) (A6q _ _)
theorem Ato {x:It}(h0:1<=x.k)(h1:x.k<=8)(hn:0<=x.n):Kg (Do x):=by
 have A2p:∀(a b:List Int),Kg a->Kg b->Kg (a++b):=by
  intro a b ha hb y hy;rcases List.mem_append.1 hy with h|h
  ·exact ha y h
  ·exact hb y h
 unfold Do
 repeat' split
 ·intro y hy;simp at hy;subst hy;simp only[wrap,IntKind.signed,IntKind.bits];simp;omega
 ·intro y hy;simp at hy;omega
 ·exact A2p _ _ (YQ (by omega) (by omega) (by omega)) (Aen _)
 ·exact A2p _ _ (YQ (by omega) (by omega) (by omega)) (Aen _)
 ·exact YQ (by omega) (by omega) hn
theorem Alh (x:It):(Do x).length<=9+x.s.size:=by
 unfold Do;have h2:=Nu 2 x.s.size;have h3:=Nu 3 x.s.size;have h4:=Nu (x.k-1) x.n;have hs:=Re x.s
 repeat' split
 all_goals try simp only[Kb,Io,W5]
 all_goals omega
section
variable {fu d:Nat}
theorem UK {call:Ah}{Bd:Nat}{a0:List PV}{a1 a2 n:Int}:∀(k nn:Nat)(l:List Int),k<=8->k<nn->l.length+k<=1000000 ->
  Eh fu call Bd a0 a1 a2 nn l.length n ((k:Int)-1) (Af .u8 l)=some ⟨[.own 1 (l++tb n k).length (Af .u8 (l++tb n k))],[]⟩
 |_,0,_,_,h,_=>by omega
 |0,nn+1,l,hk,hn,hl=>by
  have L:=At .u8 l;rw[Oj,Fi _ _ _ (by omega)]
  simp (disch:=omega) only[Cu,Dp,Tl,L];simp[tb]
 |k+1,nn+1,l,hk,hn,hl=>by
  have ih:=UK (call:=call) (Bd:=Bd) (a0:=a0) (a1:=a1) (a2:=a2) (n:=n) k nn (l++[Dv n (8-(k+1))]) (by omega) (by omega) (by simp;omega)
  have L:=At .u8 l;have w8:wrap .i64 (8*(((k+1:Nat):Int)-1))=8*(k:Int):=by rw[Ak (by omega) (by omega)];omega
  have w:wrap .i64 (((k+1:Nat):Int)-1-1)=(k:Int)-1:=by rw[Ak (by omega) (by omega)];omega
  have hb:wrap .u8 (Ik .u64 n (8*(k:Int)))=Dv n (8-(k+1)):=by
   unfold Dv;rw[show 56-8*((8-(k+1):Nat):Int)=8*(k:Int) by omega]
  have et:tb n (k+1)=Dv n (8-(k+1))::tb n k:=by
   unfold tb;rw[List.range'_succ,VO,show 8-(k+1)+1=8-k by omega]
  have ea:l++tb n (k+1)=l++[Dv n (8-(k+1))]++tb n k:=by rw[et];simp
  rw[ea,←ih,Oj];simp (disch:=omega) only[Cu,w8,hb,w,Dp,Tl,L,Jl,Kb,Io,W5,C8]
theorem Bac {mj:Int}(h0:0<=mj)(h1:mj<=7):Jj .u8 mj 5=32*mj:=by
 have:mj=0∨mj=1∨mj=2∨mj=3∨mj=4∨mj=5∨mj=6∨mj=7:=by omega
 rcases this with rfl|rfl|rfl|rfl|rfl|rfl|rfl|rfl<;>decide
theorem Aht (Cb:1000<=fu){l:List Int}(hl:l.length<=900000){mj n:Int}(h0:0<=mj)(h1:mj<=5)(hn:0<=n):Ad C0 prog fu (d+1) Mo [.own 1 l.length (Af .u8 l),.sc (.int .u8 mj),.sc (.int .u64 n)]=some ⟨[.own 1 (l++D0 mj n).length (Af .u8 (l++D0 mj n))],[]⟩:=by
 rw[GD];have s5:=Bac h0 (by omega)
 have L:=At .u8 l;have w24:wrap .u8 (32*mj+24)=32*mj+24:=Kx (by omega) (by omega)
 have w25:wrap .u8 (32*mj+25)=32*mj+25:=Kx (by omega) (by omega)
 have w26:wrap .u8 (32*mj+26)=32*mj+26:=Kx (by omega) (by omega)
 have w27:wrap .u8 (32*mj+27)=32*mj+27:=Kx (by omega) (by omega)
 have lp:=fun (k:Nat) (hk:k<=8) (b:Int)=>UK (fu:=fu) (call:=Ad C0 prog fu d) (Bd:=l.length) (a0:=Af .u8 l) (a1:=mj) (a2:=n) (n:=n) k fu (l++[b]) hk (by omega) (by simp;omega)
 have ec:∀(b:Int) (t:List Int),l++b::t=l++[b]++t:=by intro b t;simp
 unfold D0;by_cases c1:n<24
 ·have wn:wrap .u8 n=n:=Kx (by omega) (by omega)
  have ws:wrap .u8 (32*mj+n)=32*mj+n:=Kx (by omega) (by omega)
  have L1:=At .u8 (l++[32*mj+n]);have t1:=Tl .u8 (l++[32*mj+n]);simp only[Kb,Io,W5,C8] at L1 t1;rw[Cy c1];simp (disch:=omega) only[Cu,s5,wn,ws,Dp,Tl,L,Jl,L1,t1,Kb,Io,W5,C8]
 ·by_cases c2:n<256
  ·have l1:=lp 1 (by omega) (32*mj+24)
   rw[show ((1:Nat):Int)-1=0 by omega] at l1
   rw[Bj c1,Cy c2,ec,←l1];simp (disch:=omega) only[Cu,s5,w24,Dp,Tl,L,Jl,Kb,Io,W5,C8]
  ·by_cases c3:n<65536
   ·have l1:=lp 2 (by omega) (32*mj+25)
    rw[show ((2:Nat):Int)-1=1 by omega] at l1
    rw[Bj c1,Bj c2,Cy c3,ec,←l1];simp (disch:=omega) only[Cu,s5,w25,Dp,Tl,L,Jl,Kb,Io,W5,C8]
   ·by_cases c4:n<4294967296
    ·have l1:=lp 4 (by omega) (32*mj+26)
     rw[show ((4:Nat):Int)-1=3 by omega] at l1
     rw[Bj c1,Bj c2,Bj c3,Cy c4,ec,←l1];simp (disch:=omega) only[Cu,s5,w26,Dp,Tl,L,Jl,Kb,Io,W5,C8]
    ·have l1:=lp 8 (by omega) (32*mj+27)
     rw[show ((8:Nat):Int)-1=7 by omega] at l1
     rw[Bj c1,Bj c2,Bj c3,Bj c4,ec,←l1];simp (disch:=omega) only[Cu,s5,w27,Dp,Tl,L,Jl,Kb,Io,W5,C8]
structure It.ok (x:It):Prop where
 k1:1<=x.k
 k8:x.k<=8
 n0:0<=x.n
 s0:x.s.size<=500000
theorem Ah1 (Cb:1000<=fu){l:List Int}(hl:l.length<=300000){x:It}(hx:x.ok):Ad C0 prog fu (d+2) Sc [.own 1 l.length (Af .u8 l),.agg x.cells]=some ⟨[.own 1 (l++Do x).length (Af .u8 (l++Do x))],[]⟩:=by
 obtain⟨k,n,s⟩:=x;obtain⟨k1,k8,n0,s0⟩:=hx;simp only at k1 k8 n0 s0;refine (EQ fu (d+1) l.length (Af .u8 l) k n s).trans ?_;have L:=At .u8 l;have NN:=Re s;unfold Do;simp only;by_cases c7:k=7
 ·subst c7;have L1:=At .u8 (l++[wrap .u8 (244+wrap .u8 n)]);have t1:=Tl .u8 (l++[wrap .u8 (244+wrap .u8 n)]);simp only[Kb,Io,W5,C8] at L1 t1;simp (disch:=omega) only[Cu,L7,if_true,Dp,Tl,L,Jl,L1,t1,Kb,Io,W5,C8]
 ·by_cases c8:k=8
  ·subst c8;have L1:=At .u8 (l++[246]);have t1:=Tl .u8 (l++[246]);simp only[Kb,Io,W5,C8] at L1 t1;rw[Bj c7,Cy rfl];simp (disch:=omega) only[Cu,L7,c7,if_false,if_true,Dp,Tl,L,Jl,L1,t1,Kb,Io,W5,C8]
  ·have dat:∀mj:Int,0<=mj->mj<=5->(Ad C0 prog fu (d+1) Mo [.own 1 l.length (Af .u8 l),.sc (.int .u8 mj),.sc (.int .u64 s.size)]=some ⟨[.own 1 (l++D0 mj s.size).length (Af .u8 (l++D0 mj s.size))],[]⟩)∧(l++D0 mj s.size).length<=300009∧List.take (l++D0 mj s.size).length (Af .u8 (l++D0 mj s.size))=Af .u8 (l++D0 mj s.size)∧(Af .u8 (l++D0 mj s.size)).length=(l++D0 mj s.size).length∧Af .u8 (l++D0 mj s.size)++Fo s=Af .u8 (l++(D0 mj s.size++Mb s))∧(l++(D0 mj s.size++Mb s)).length=(l++D0 mj s.size).length+s.size∧(Af .u8 (l++(D0 mj s.size++Mb s))).length=(l++D0 mj s.size).length+s.size:=by
    intro mj h0 h1;have hh:=Nu mj s.size;refine⟨Aht Cb (by omega) h0 h1 (by omega),by rw[Kb];omega,Tl _ _,At _ _,?_,?_,?_⟩
    ·rw[S2,←XX,Af,Af,Af,List.flatMap_append (xs:=l++D0 mj s.size)]
    ·rw[←XX,Kb,NN]
    ·rw[At,←XX,Kb,NN]
   have ss:(Fo s).length=s.size:=by rw[S2,At,NN]
   have wsz:wrap .u64 (s.size:Int)=s.size:=Ea (by omega) (by omega)
   rw[Bj c7,Bj c8];by_cases c3:k=3
   ·subst c3;obtain⟨p1,p2,p3,p4,p5,p6,p7⟩:=dat 2 (by omega) (by omega)
    have w1:wrap .i64 ((3:Int)-1)=2:=by decide
    have w2:wrap .u8 (2:Int)=2:=by decide
    have t1:List.take ((l++D0 2 s.size).length+s.size) (Af .u8 (l++(D0 2 s.size++Mb s)))=Af .u8 (l++(D0 2 s.size++Mb s)):=My (by omega)
    rw[Cy rfl];simp (disch:=omega) only[Cu,L7,c7,c8,if_false,if_true,w1,w2,wsz,Dp,Tl,L,p1];generalize (l++D0 2 s.size).length=N at *
    simp (disch:=omega) only[Cu,Dp,p3,p4,p5,p7,t1,ss];rw[p6]
   ·by_cases c4:k=4
    ·subst c4;obtain⟨p1,p2,p3,p4,p5,p6,p7⟩:=dat 3 (by omega) (by omega)
     have w1:wrap .i64 ((4:Int)-1)=3:=by decide
     have w2:wrap .u8 (3:Int)=3:=by decide
     have t1:List.take ((l++D0 3 s.size).length+s.size) (Af .u8 (l++(D0 3 s.size++Mb s)))=Af .u8 (l++(D0 3 s.size++Mb s)):=My (by omega)
     rw[Bj c3,Cy rfl];simp (disch:=omega) only[Cu,L7,c7,c8,c3,if_false,if_true,w1,w2,wsz,Dp,Tl,L,p1];generalize (l++D0 3 s.size).length=N at *
     simp (disch:=omega) only[Cu,Dp,p3,p4,p5,p7,t1,ss];rw[p6]
    ·have w1:wrap .i64 (k-1)=k-1:=Ak (by omega) (by omega)
     have w2:wrap .u8 (k-1)=k-1:=Kx (by omega) (by omega)
     have p1:=Aht (fu:=fu) (d:=d) Cb (l:=l) (by omega) (mj:=k-1) (n:=n) (by omega) (by omega) n0
     have L2:=At .u8 (l++D0 (k-1) n);have t2:=Tl .u8 (l++D0 (k-1) n);rw[Bj c3,Bj c4];simp (disch:=omega) only[Cu,L7,c7,c8,c3,c4,if_false,w1,w2,Dp,Tl,L,p1,L2,t2]
end
end
section
open Go.IntKind (wrap)
def It.dat (x:It):Prop:=x.k=3∨x.k=4∨Mb x.s=[]
section
variable {fu d:Nat}
def Bf (its:List It):List PV:=its.flatMap It.cells
theorem It.cells_len (x:It):x.cells.length=3:=rfl
def Ch (its:List It):List Int:=its.flatMap Do
end
end
section
open Go.Proofs.Tryd (prog)
open Go.IntKind (wrap)
structure Ce where
 subj:ByteArray
 iss:ByteArray
 serial:Int
 key:Ky
 fr:Int
 un:Int
 auth:Bool
 path:Int
 model:Int
 sig:Sg
def Ce.cells (c:Ce):List PV:=[.sc (.string c.subj),.sc (.string c.iss),.sc (.int .u64 c.serial),.sc (.int .i64 c.key.h),.sc (.int .u64 c.key.root),.sc (.int .i64 c.fr),.sc (.int .i64 c.un),.sc (.bool c.auth),.sc (.int .i64 c.path),.sc (.int .u64 c.model),.sc (.int .i64 c.sig.leaf),.lst false 1 c.sig.chains.length (Af .u64 c.sig.chains),.lst false 1 c.sig.path.length (Af .u64 c.sig.path)]
abbrev okS (s:ByteArray):Bool:=Lib.validD s.data.toList
abbrev Ug:ByteArray:=⟨#[]⟩
structure Ce.wf (c:Ce):Prop where
 ser:0<=c.serial
 mod:0<=c.model
section
variable {fu d:Nat}
theorem DY (s:ByteArray)(h:s.size<=9223372036854775807):Ad C0 prog fu (d+1) 71 [.sc (.string s)]=some ⟨[.sc (.bool (okS s))],[]⟩:=by
 show NS [.sc (.string s)]=_;unfold NS;simp[h]
end
end
section
open Go.IntKind (wrap)
def PP (s:Sg):Int:=if Ey s.path.length=true then 9 else if Qb s.leaf s.path.length=true then 9 else if s.chains.length≠18 then 4 else 0
section
variable {fu d:Nat} {c:Ce}
end
end
section
open Go.Proofs.Tryd (prog)
open Go.IntKind (wrap)
structure Ha where
 p:Bool
 left:Int
 last:List Int
def Ha.cells (f:Ha):List PV:=[.sc (.bool f.p),.sc (.int .i64 f.left),.lst false 1 f.last.length (Af .u8 f.last)]
def F2 (l:List Ha):List PV:=l.flatMap Ha.cells
theorem Ha.cells_len (f:Ha):f.cells.length=3:=rfl
theorem Dn (l:List Ha):(F2 l).length=l.length*3:=Te Ha.cells_len l
theorem D1 (l:List Ha):List.take (l.length*3) (F2 l)=F2 l:=My (by rw[Dn];omega)
def Rq (l:List Ha):Bool:=match l.getLast? with|some f=>f.p&&(Int.tmod f.left 2==0)|none=>false
def L6 (l:List Ha)(cnt k:Int):Int:=
 if cnt>=512 then 8 else if k<1 then 3 else if k>8 then 3 else if Rq l=true∧k≠1∧k≠2∧k≠4 then 3 else if (l.length:Int)>8 then 5 else 0
abbrev M1 (l:List Ha)(cnt:Int):List PV:=[.own 3 l.length (F2 l),.sc (.int .i64 cnt)]
section
variable {fu d:Nat}
theorem XK (l:List Ha)(cnt:Int):Ad C0 prog fu (d+1) U8 [.pbox (M1 l cnt)]=some ⟨[.sc (.bool (decide (cnt>0)&&((l.length:Int)==0)))],[M1 l cnt]⟩:=by
 rw[IY];have L:=Dn l;have t:=D1 l;by_cases h:cnt>0
 ·simp (disch:=omega) only[Cu,h,decide_true,Bool.true_and,L,t]
 ·simp (disch:=omega) only[Cu,h,decide_false,Bool.false_and,L,t]
theorem PT {l:List Ha}(hl:l.length<=1000000)(cnt:Int):Ad C0 prog fu (d+1) So [.pbox (M1 l cnt)]=some ⟨[.sc (.bool (Rq l))],[M1 l cnt]⟩:=by
 rw[DT];have L:=Dn l;have t:=D1 l;unfold Rq;rcases List.eq_nil_or_concat l with rfl|⟨l',f,rfl⟩
 ·have e0:¬(((([]:List Ha).length:Nat):Int)>0):=by simp
  simp (disch:=first|assumption|omega) only[Cu,L,t]
  first|done|rfl
 ·have hn:(l'.concat f).length=l'.length+1:=by simp
  have hx:(l'.concat f)[l'.length]?=some f:=by simp
  have gl:(l'.concat f).getLast?=some f:=by simp
  have w:wrap .i64 (((l'.concat f).length:Int)-1)=(l'.length:Int):=by rw[Ak (by omega) (by omega)];omega
  have g0:(F2 (l'.concat f)).getD (l'.length*3) .top=.sc (.bool f.p):=Ie Ha.cells_len hx (j:=0) (by omega)
  have g1:(F2 (l'.concat f)).getD (l'.length*3+1) .top=.sc (.int .i64 f.left):=Ie Ha.cells_len hx (j:=1) (by omega)
  rw[gl];cases hp:f.p
  ·rw[hp] at g0;simp (disch:=omega) only[Cu,w,Hs,C8,Nat.add_zero,g0,L,t,hp,Bool.false_and]
  ·rw[hp] at g0;simp (disch:=omega) only[Cu,w,Hs,C8,Nat.add_zero,g0,g1,L,t,hp,Bool.true_and]
theorem Abp {l:List Ha}(hl:l.length<=1000000)(cnt k:Int):Ad C0 prog fu (d+2) Sl [.pbox (M1 l cnt),.sc (.int .i64 k)]=some ⟨[.sc (.int .i64 (L6 l cnt k))],[M1 l cnt]⟩:=by
 refine (EY fu (d+1) l.length (F2 l) cnt k).trans ?_;have L:=Dn l;have t:=D1 l;have ak:=PT (fu:=fu) (d:=d) hl cnt;unfold M1 at ak;unfold L6;by_cases c1:cnt>=512
 ·rw[Cy c1];simp (disch:=omega) only[Cu,L,t]
 rw[Bj c1];by_cases c2:k<1
 ·rw[Cy c2];simp (disch:=omega) only[Cu,L,t]
 rw[Bj c2];by_cases c3:k>8
 ·rw[Cy c3];simp (disch:=omega) only[Cu,L,t]
 rw[Bj c3];cases ha:Rq l
 ·rw[ha] at ak;rw[Bj (by simp)]
  by_cases c5:(l.length:Int)>8
  ·rw[Cy c5];simp (disch:=omega) only[Cu,L,t,ak]
  ·rw[Bj c5];simp (disch:=omega) only[Cu,L,t,ak]
 ·rw[ha] at ak;by_cases c4:k≠1∧k≠2∧k≠4
  ·rw[Cy ⟨rfl,c4⟩];simp (disch:=omega) only[Cu,L,t,ak,Gz];rw[Bj c4.1,Bj c4.2.1,Bj c4.2.2]
  ·rw[Bj (fun h=>c4 h.2)]
   have hk:k=1∨k=2∨k=4:=by omega
   by_cases c5:(l.length:Int)>8
   ·rw[Cy c5];rcases hk with rfl|rfl|rfl<;>simp (disch:=omega) only[Cu,L,t,ak,Gz,Int.reduceEq,if_true,if_false]
   ·rw[Bj c5];rcases hk with rfl|rfl|rfl<;>simp (disch:=omega) only[Cu,L,t,ak,Gz,Int.reduceEq,if_true,if_false]
end
end
section
open Go.Proofs.Tryd (prog)
open Go.IntKind (wrap)
theorem Jp (l:List Ha):l=[]∨∃l' f,l=l'++[f]:=by
 rcases List.eq_nil_or_concat l with h|⟨a,b,h⟩
 ·exact .inl h
 ·exact .inr ⟨a,b,by simpa using h⟩
def FT (l:List Ha):List Ha:=(l.reverse.dropWhile fun f=>f.left==0).reverse
theorem UM {l:List Ha}{f:Ha}(h:f.left=0):FT (l++[f])=FT l:=by
 unfold FT;rw[List.reverse_append,List.reverse_singleton,List.singleton_append,List.dropWhile_cons_of_pos (by simp[h])]
theorem NQ {l:List Ha}{f:Ha}(h:f.left≠0):FT (l++[f])=l++[f]:=by
 unfold FT;rw[List.reverse_append,List.reverse_singleton,List.singleton_append,List.dropWhile_cons_of_neg (by simp[h])]
 simp
def Vy (l:List Ha):List Ha:=match l.getLast? with|some f=>l.dropLast++[⟨f.p,wrap .i64 (f.left-1),f.last⟩]|none=>[]
def RQ (l:List Ha)(x:It):List Ha:=
 if x.k=5∧x.n>0 then l++[⟨false,wrap .i64 x.n,[]⟩] else if x.k=6∧x.n>0 then l++[⟨true,wrap .i64 (2*wrap .i64 x.n),[]⟩] else l
def Gt (l:List Ha)(x:It):List Ha:=FT (RQ (Vy l) x)
theorem S5 (l:List Ha)(f:Ha):Vy (l++[f])=l++[⟨f.p,wrap .i64 (f.left-1),f.last⟩]:=by
 unfold Vy;simp
theorem BC (l:List Ha):(Vy l).length=l.length:=by
 rcases Jp l with rfl|⟨l',f,rfl⟩
 ·rfl
 ·rw[S5];simp
theorem Uk (a b:List Ha):F2 (a++b)=F2 a++F2 b:=by
 unfold F2;rw[List.flatMap_append]
theorem Va (f:Ha):F2 [f]=f.cells:=by
 unfold F2;simp
section
variable {fu d:Nat}
theorem VH {call:Ah}{Al:Nat}{Aj:List PV}{Ao Cg Cf:Int}{Cm:ByteArray}{c:Int}:∀(n:Nat)(l:List Ha)(r:List PV)(nn:Nat),l.length=n->n<nn->n<=1000000 ->
  Bb fu call Al Aj Ao Cg Cf Cm nn (l.length:Int) l.length c (F2 l++r)=some ⟨[],[M1 (FT l) c]⟩:=by
 intro n
 induction n with
 |zero=>
  intro l r nn hl hn _;obtain rfl:l=[]:=List.eq_nil_of_length_eq_zero hl;obtain⟨m,rfl⟩:∃m,nn=m+1:=⟨nn-1,by omega⟩
  have e0:¬(((([]:List Ha).length:Nat):Int)>0):=by simp
  have e1:([]:List Ha).length*3<=(F2 []++r).length:=by simp
  rw[Pm];simp (disch:=first|assumption|omega) only[Cu];rfl
 |succ n ih=>
  intro l r nn hl hn hm;obtain⟨m,rfl⟩:∃m,nn=m+1:=⟨nn-1,by omega⟩
  rcases Jp l with rfl|⟨l',f,rfl⟩
  ·simp at hl
  have hn':(l'++[f]).length=l'.length+1:=by simp
  have hx:(l'++[f])[l'.length]?=some f:=by simp
  have w:wrap .i64 (((l'++[f]).length:Int)-1)=(l'.length:Int):=by rw[Ak (by omega) (by omega)];omega
  have L:=Dn (l'++[f]);have L2:(F2 (l'++[f])++r).length=(l'++[f]).length*3+r.length:=by rw[Kb,L]
  have t:List.take ((l'++[f]).length*3) (F2 (l'++[f])++r)=F2 (l'++[f]):=by rw[←L,List.take_left'];rfl
  have g1:(F2 (l'++[f])++r).getD (l'.length*3+1) .top=.sc (.int .i64 f.left):=by
   have:=Ie (f:=Ha.cells) Ha.cells_len hx (j:=1) (by omega)
   rw[List.getD_eq_getElem?_getD,List.getElem?_append_left (by rw[L];omega),←List.getD_eq_getElem?_getD]
   exact this
  rw[Pm];by_cases hz:f.left=0
  ·have e:F2 (l'++[f])++r=F2 l'++(f.cells++r):=by rw[Uk,Va,XX]
   have q:=ih l' (f.cells++r) m (by omega) (by omega) (by omega)
   rw[←e] at q;rw[UM hz];have hb:(f.left==(0:Int))=true:=by simp[hz]
   simp (disch:=omega) only[Cu,w,Hs,C8,Nat.sub_zero,g1,hb,q]
  ·rw[NQ hz];have hb:(f.left==(0:Int))=false:=by simp[hz]
   simp (disch:=omega) only[Cu,w,Hs,C8,g1,hb,L2,t]
theorem Ahr {l:List Ha}{x:It}{cnt:Int}(hl:l.length<=100000)(hf:l.length+1<fu)(h0:0<=cnt)(h1:cnt<=1000000):
  Ad C0 prog fu (d+1) U5 [.pbox (M1 l cnt),.agg x.cells]=some ⟨[],[M1 (Gt l x) (cnt+1)]⟩:=by
 obtain⟨k,v,s⟩:=x;refine (IM fu d l.length (F2 l) cnt k v s).trans ?_;have w1:wrap .i64 (cnt+1)=cnt+1:=Ak (by omega) (by omega)
 unfold Gt RQ;have DL:=BC l;generalize hD:Vy l=l1 at DL ⊢;have L1:(F2 l1).length=l.length*3:=by rw[Dn,DL]
 have t1:List.take (l.length*3) (F2 l1)=F2 l1:=My (by omega)
 have p5:∀b u,F2 l1++[.sc (.bool b),.sc (.int .i64 u),.lst false 1 0 []]=F2 (l1++[⟨b,u,[]⟩]):=by
  intro b u;rw[Uk,Va];rfl
 have lp0:∀call,Bb fu call l.length (F2 l) cnt k v s fu (l.length:Int) l.length (cnt+1) (F2 l1)=some ⟨[],[M1 (FT l1) (cnt+1)]⟩:=by
  intro call;have:=VH (fu:=fu) (call:=call) (Al:=l.length) (Aj:=F2 l) (Ao:=cnt) (Cg:=k) (Cf:=v) (Cm:=s) (c:=cnt+1) _ l1 [] fu rfl (by omega) (by omega)
  rw[List.append_nil,DL] at this;exact this
 have lp1:∀call f,Bb fu call l.length (F2 l) cnt k v s fu ((l.length+1:Nat):Int) (l.length+1) (cnt+1) (F2 (l1++[f]))=some ⟨[],[M1 (FT (l1++[f])) (cnt+1)]⟩:=by
  intro call f;have ll:(l1++[f]).length=l.length+1:=by simp[DL]
  have:=VH (fu:=fu) (call:=call) (Al:=l.length) (Aj:=F2 l) (Ao:=cnt) (Cg:=k) (Cf:=v) (Cm:=s) (c:=cnt+1) _ (l1++[f]) [] fu rfl (by omega) (by omega)
  rw[List.append_nil,ll] at this;exact this
 rcases Jp l with rfl|⟨l',f,rfl⟩
 ·have e0:¬(((([]:List Ha).length:Nat):Int)>0):=by simp
  obtain rfl:l1=[]:=by rw[←hD];rfl
  by_cases k5:k=5
  ·subst k5;by_cases hv:v>0
   ·rw[Cy ⟨rfl,hv⟩];simp (disch:=first|assumption|omega) only[Cu,w1,L1,t1,p5,lp1,Int.reduceBEq]
   ·rw[Bj (fun h=>hv h.2),Bj (fun h=>hv h.2)]
    simp (disch:=first|assumption|omega) only[Cu,w1,L1,t1,p5,lp0,Int.reduceBEq]
  ·have b5:(k==(5:Int))=false:=by simp[k5]
   rw[Bj (fun h=>k5 h.1)]
   by_cases k6:k=6
   ·subst k6;by_cases hv:v>0
    ·rw[Cy ⟨rfl,hv⟩];simp (disch:=first|assumption|omega) only[Cu,w1,L1,t1,p5,lp1,Int.reduceBEq]
    ·rw[Bj (fun h=>hv h.2)]
     simp (disch:=first|assumption|omega) only[Cu,w1,L1,t1,p5,lp0,Int.reduceBEq]
   ·have b6:(k==(6:Int))=false:=by simp[k6]
    rw[Bj (fun h=>k6 h.1)]
    simp (disch:=first|assumption|omega) only[Cu,w1,L1,t1,p5,lp0,b5,b6]
 ·have hn':(l'++[f]).length=l'.length+1:=by simp
  have hx:(l'++[f])[l'.length]?=some f:=by simp
  have w:wrap .i64 (((l'++[f]).length:Int)-1)=(l'.length:Int):=by rw[Ak (by omega) (by omega)];omega
  have L:=Dn (l'++[f]);have g1:(F2 (l'++[f])).getD (l'.length*3+1) .top=.sc (.int .i64 f.left):=Ie Ha.cells_len hx (j:=1) (by omega)
  have sp:Bn (F2 (l'++[f])) [.sc (.int .i64 (wrap .i64 (f.left-1)))] (l'.length*3+1)=F2 l1:=by
   rw[Gs (by omega),←hD,S5,Uk,Uk,Va,Va]
   have:=Dn l';rw[List.set_append_right _ _ (by omega)]
   have:l'.length*3+1-(F2 l').length=1:=by omega
   rw[this];rfl
  by_cases k5:k=5
  ·subst k5;by_cases hv:v>0
   ·rw[Cy ⟨rfl,hv⟩];simp (disch:=first|assumption|omega) only[Cu,w,w1,Hs,C8,g1,sp,L1,t1,p5,lp1,Int.reduceBEq]
   ·rw[Bj (fun h=>hv h.2),Bj (fun h=>hv h.2)]
    simp (disch:=first|assumption|omega) only[Cu,w,w1,Hs,C8,g1,sp,L1,t1,p5,lp0,Int.reduceBEq]
  ·have b5:(k==(5:Int))=false:=by simp[k5]
   rw[Bj (fun h=>k5 h.1)]
   by_cases k6:k=6
   ·subst k6;by_cases hv:v>0
    ·rw[Cy ⟨rfl,hv⟩];simp (disch:=first|assumption|omega) only[Cu,w,w1,Hs,C8,g1,sp,L1,t1,p5,lp1,Int.reduceBEq]
    ·rw[Bj (fun h=>hv h.2)]
     simp (disch:=first|assumption|omega) only[Cu,w,w1,Hs,C8,g1,sp,L1,t1,p5,lp0,Int.reduceBEq]
   ·have b6:(k==(6:Int))=false:=by simp[k6]
    rw[Bj (fun h=>k6 h.1)]
    simp (disch:=first|assumption|omega) only[Cu,w,w1,Hs,C8,g1,sp,L1,t1,p5,lp0,b5,b6]
end
end
section
open Go.Proofs.Tryd (prog)
open Go.IntKind (wrap)
def Abo (s:ByteArray):Bool:=Array.toList (ByteArray.data s)==Array.toList (ByteArray.data (ByteArray.mk #[]))
def Kz (x:It):Bool:=
 if x.k=3 then x.n==0 else if x.k=4 then x.n==0 else if x.k=8 then (x.n==0)&&Abo x.s else if x.k=7 then decide (x.n<=1)&&Abo x.s else Abo x.s
section
variable {fu d:Nat}
theorem Ajd (x:It):Ad C0 prog fu (d+1) AG [.agg x.cells]=some ⟨[.sc (.bool (Kz x))],[]⟩:=by
 obtain⟨k,n,s⟩:=x;refine (UA fu d k n s).trans ?_;unfold Kz;show _=some (⟨[.sc (.bool (if k=3 then n==0 else if k=4 then n==0 else if k=8 then (n==0)&&Abo s else if k=7 then decide (n<=1)&&Abo s else Abo s))],[]⟩:A5)
 by_cases h3:k=3
 ·subst h3;simp only[Cu,Int.reduceBEq,if_true]
 by_cases h4:k=4
 ·subst h4;simp only[Cu,Int.reduceBEq,Int.reduceEq,if_true,if_false]
 have b3:(k==(3:Int))=false:=by simp[h3]
 have b4:(k==(4:Int))=false:=by simp[h4]
 by_cases h8:k=8
 ·subst h8;cases hn:n==0<;>simp only[Cu,Int.reduceBEq,Int.reduceEq,if_true,if_false,hn,Bool.true_and,Bool.false_and]<;>rfl
 have b8:(k==(8:Int))=false:=by simp[h8]
 by_cases h7:k=7
 ·subst h7;cases hn:decide (n<=1)<;>simp only[Cu,Int.reduceBEq,Int.reduceEq,if_true,if_false,hn,Bool.true_and,Bool.false_and]<;>rfl
 have b7:(k==(7:Int))=false:=by simp[h7]
 simp only[Cu,b3,b4,b8,b7,Bj h3,Bj h4,Bj h8,Bj h7];rfl
theorem JQ {l:List Ha}{x:It}{cnt:Int}(hl:l.length<=1000)(hf:l.length+1<fu)(h0:0<=cnt)(h1:cnt<=1000000)(ha:Rq l=false)
  (hs:x.s.size<=100000)(hv:x.k=4->Lib.validD x.s.data.toList=true):
  Ad C0 prog fu (d+2) K4 [.pbox (M1 l cnt),.agg x.cells]=some ⟨[.sc (.int .i64 0)],[M1 (Gt l x) (cnt+1)]⟩:=by
 have st:=Ahr (fu:=fu) (d:=d) (l:=l) (x:=x) (cnt:=cnt) (by omega) hf h0 h1
 have ak:=PT (fu:=fu) (d:=d) (l:=l) (by omega) cnt
 have L:=Dn l;have t:=D1 l;have L2:=Dn (Gt l x);have t2:=D1 (Gt l x);rw[ha] at ak;generalize hE:Gt l x=E at *
 obtain⟨k,n,s⟩:=x;have va:=DY (fu:=fu) (d:=d) s (Nat.le_trans hs (by omega))
 unfold okS at va;refine (K7 fu (d+1) l.length (F2 l) cnt k n s).trans ?_;unfold M1 It.cells at st;unfold M1 at ak;by_cases k4:k=4
 ·subst k4;rw[hv rfl] at va;simp (disch:=omega) only[Cu,Int.reduceBEq,va,D2,L,t,ak,st,L2,t2]
 ·have b4:(k==(4:Int))=false:=by simp[k4]
  simp (disch:=omega) only[Cu,b4,L,t,ak,st,L2,t2]
theorem Am4 {l:List Ha}{x:It}{cnt:Int}(hl:l.length<=1000)(hf:l.length+1<fu)(h0:0<=cnt)(h1:cnt<=1000000)(ha:Rq l=false)
  (hs:x.s.size<=1024)(hv:x.k=4->Lib.validD x.s.data.toList=true)(hd:(decide (cnt>0)&&((l.length:Int)==0))=false) (hm:L6 l cnt x.k=0)(hsh:Kz x=true)(hn:x.n<=512∨(x.k≠5∧x.k≠6)):
  Ad C0 prog fu (d+3) Ps [.pbox (M1 l cnt),.agg x.cells]=some ⟨[.sc (.int .i64 0)],[M1 (Gt l x) (cnt+1)]⟩:=by
 have ac:=JQ (fu:=fu) (d:=d) (l:=l) (x:=x) (cnt:=cnt) hl hf h0 h1 ha (by omega) hv
 have dn:=XK (fu:=fu) (d:=d+1) l cnt;have ad:=Abp (fu:=fu) (d:=d) (l:=l) (by omega) cnt x.k
 have sh:=Ajd (fu:=fu) (d:=d+1) x;rw[hd] at dn;rw[hm] at ad;rw[hsh] at sh;have L:=Dn l;have t:=D1 l;have L2:=Dn (Gt l x);have t2:=D1 (Gt l x);generalize hE:Gt l x=E at *
 obtain⟨k,n,s⟩:=x;have hs':¬((s.size:Int)>1024):=by have:s.size<=1024:=hs;omega
 refine (Zm fu (d+2) l.length (F2 l) cnt k n s).trans ?_;unfold M1 It.cells at ac;unfold M1 at dn ad;unfold It.cells at sh;by_cases k5:k=5
 ·subst k5;have hn':¬(n>512):=hn.elim (fun h=>Int.not_lt.2 h) (fun h=>absurd rfl h.1)
  simp (disch:=first|assumption|omega) only[Cu,Int.reduceBEq,dn,ad,sh,ac,D2,L,t,L2,t2,bne_self_eq_false]
 have b5:(k==(5:Int))=false:=by simp[k5]
 by_cases k6:k=6
 ·subst k6;have hn':¬(n>512):=hn.elim (fun h=>Int.not_lt.2 h) (fun h=>absurd rfl h.2)
  simp (disch:=first|assumption|omega) only[Cu,Int.reduceBEq,dn,ad,sh,ac,D2,L,t,L2,t2,bne_self_eq_false]
 have b6:(k==(6:Int))=false:=by simp[k6]
 simp (disch:=first|assumption|omega) only[Cu,b5,b6,dn,ad,sh,ac,D2,L,t,L2,t2,bne_self_eq_false]
end
end
section
open Go.Proofs.Tryd (prog)
open Go.IntKind (wrap)
theorem H0 (l:List It):(Bf l).length=l.length*3:=Te It.cells_len l
structure Awz (l:List Ha) (cnt:Int) (x:It):Prop where
 hl:l.length<=100
 h0:0<=cnt
 h1:cnt<=1000
 ha:Rq l=false
 hs:x.s.size<=1024
 hv:x.k=4->Lib.validD x.s.data.toList=true
 hd:(decide (cnt>0)&&((l.length:Int)==0))=false
 hm:L6 l cnt x.k=0
 hsh:Kz x=true
 hn:x.n<=512∨(x.k≠5∧x.k≠6)
def Pr:List Ha->Int->List It->Prop
 |l,cnt,[]=>l=[]∧cnt>0
 |l,cnt,x::r=>Awz l cnt x∧Pr (Gt l x) (cnt+1) r
section
variable {fu d:Nat}
theorem SY (Cb:200<=fu){l:List It}(hl:l.length<=100000){Bd:Nat}{a0:List PV}:∀(r:List It)(i:Nat)(fs:List Ha)(cnt:Int)(nn:Nat),l.drop i=r->i+r.length=l.length->r.length<nn->Pr fs cnt r ->
  J9 fu (Ad C0 prog fu (d+3)) Bd a0 nn l.length (Bf l) (l.length:Int) (i:Int) fs.length cnt (F2 fs)=some ⟨[.sc (.int .i64 0)],[]⟩:=by
 intro r
 induction r with
 |nil=>
  intro i fs cnt nn hd hi hn hg;obtain⟨rfl,hc⟩:=hg;obtain⟨m,rfl⟩:∃m,nn=m+1:=⟨nn-1,by omega⟩
  rw[W5,Nat.add_zero] at hi;rw[Rr];have dn:=XK (fu:=fu) (d:=d+2) [] cnt;have e:(decide (cnt>0)&&(((([]:List Ha).length:Nat):Int)==0))=true:=by simp[hc]
  rw[e] at dn;unfold M1 at dn;have L:=Dn [];have t:=D1 [];have c:¬((i:Int)<(l.length:Int)):=by omega
  simp (disch:=first|assumption|omega) only[Cu,L,t,dn,D2]
 |cons x r ih=>
  intro i fs cnt nn hd hi hn hg;obtain⟨g,hg⟩:=hg;obtain⟨m,rfl⟩:∃m,nn=m+1:=⟨nn-1,by omega⟩
  rw[Io] at hi hn
  have hx:l[i]?=some x:=by
   have:=congrArg (fun q=>q[0]?) hd
   simpa using this
  have hd':l.drop (i+1)=r:=by
   have:=congrArg (List.drop 1) hd;rw[List.drop_drop] at this
   simpa using this
  have q:=ih (i+1) (Gt fs x) (cnt+1) m hd' (by omega) (by omega) hg
  have ck:=Am4 (fu:=fu) (d:=d) (l:=fs) (x:=x) (cnt:=cnt) (by have:=g.hl;omega) (by have:=g.hl;omega) g.h0 (by have:=g.h1;omega) g.ha g.hs g.hv g.hd g.hm g.hsh g.hn
  generalize Gt fs x=E at *
  have g0:(Bf l).getD (i*3) .top=.sc (.int .i64 x.k):=Ie It.cells_len hx (j:=0) (by omega)
  have g1:(Bf l).getD (i*3+1) .top=.sc (.int .u64 x.n):=Ie It.cells_len hx (j:=1) (by omega)
  have g2:(Bf l).getD (i*3+1+1) .top=.sc (.string x.s):=Ie It.cells_len hx (j:=2) (by omega)
  have L:=Dn fs;have t:=D1 fs;have w:wrap .i64 ((i:Int)+1)=((i+1:Nat):Int):=by rw[Ak (by omega) (by omega)];omega
  rw[Rr];unfold M1 It.cells at ck;simp (disch:=first|assumption|omega) only[Cu,Hs,g0,g1,g2,L,t,ck,bne_self_eq_false,w,q]
theorem Ta (Cb:200<=fu){l:List It}(hl:l.length<=100000)(hf:l.length<fu)(hg:Pr [] 0 l):Ad C0 prog fu (d+4) Wm [.lst false 3 l.length (Bf l)]=some ⟨[.sc (.int .i64 0)],[]⟩:=by
 rw[MH];exact SY Cb hl l 0 [] 0 fu rfl (by omega) hf hg
end
end
section
open Go.Proofs.Tryd (prog)
open Go.IntKind (wrap)
section
variable {fu d:Nat}
theorem Ad6 (Cb:1000<=fu){l:List It}(hl:l.length<=100000){Bd:Nat}{a0:List PV}:∀(r:List It)(i:Nat)(o:List Int)(nn:Nat),l.drop i=r->i+r.length=l.length->r.length<nn->(∀x∈r,x.ok)->(o++Ch r).length<=300000 ->
  Mr fu (Ad C0 prog fu (d+2)) Bd a0 nn o.length l.length (Bf l) (l.length:Int) (i:Int) (Af .u8 o)=some ⟨[.own 1 (o++Ch r).length (Af .u8 (o++Ch r)),.sc (.int .i64 0)],[]⟩:=by
 intro r
 induction r with
 |nil=>
  intro i o nn hd hi hn hg hb;obtain⟨m,rfl⟩:∃m,nn=m+1:=⟨nn-1,by omega⟩
  rw[W5,Nat.add_zero] at hi;have e:o++Ch []=o:=by simp[Ch]
  rw[e,Tr];have L:(Af .u8 o).length=o.length:=At _ _;have t:List.take o.length (Af .u8 o)=Af .u8 o:=My (by omega)
  have c:¬((i:Int)<(l.length:Int)):=by omega
  simp (disch:=first|assumption|omega) only[Cu,Dp,L,t]
 |cons x r ih=>
  intro i o nn hd hi hn hg hb;obtain⟨m,rfl⟩:∃m,nn=m+1:=⟨nn-1,by omega⟩
  rw[Io] at hi hn
  have hx:l[i]?=some x:=by
   have:=congrArg (fun q=>q[0]?) hd
   simpa using this
  have hd':l.drop (i+1)=r:=by
   have:=congrArg (List.drop 1) hd;rw[List.drop_drop] at this
   simpa using this
  have e:o++Ch (x::r)=(o++Do x)++Ch r:=by simp[Ch]
  rw[e] at hb ⊢
  have ho:o.length<=300000:=by
   rw[Kb,Kb] at hb;omega
  have q:=ih (i+1) (o++Do x) m hd' (by omega) (by omega) (fun y hy=>hg y (List.mem_cons_of_mem _ hy)) hb
  have it:=Ah1 (fu:=fu) (d:=d) Cb (l:=o) ho (x:=x) (hg x (by simp))
  have g0:(Bf l).getD (i*3) .top=.sc (.int .i64 x.k):=Ie It.cells_len hx (j:=0) (by omega)
  have g1:(Bf l).getD (i*3+1) .top=.sc (.int .u64 x.n):=Ie It.cells_len hx (j:=1) (by omega)
  have g2:(Bf l).getD (i*3+1+1) .top=.sc (.string x.s):=Ie It.cells_len hx (j:=2) (by omega)
  have L:(Af .u8 o).length=o.length:=At _ _;have t:List.take o.length (Af .u8 o)=Af .u8 o:=My (by omega)
  have w:wrap .i64 ((i:Int)+1)=((i+1:Nat):Int):=by rw[Ak (by omega) (by omega)];omega
  rw[Tr];unfold It.cells at it;simp (disch:=first|assumption|omega) only[Cu,Hs,Dp,g0,g1,g2,L,t,it,w,q]
theorem Ad4 (Cb:1000<=fu){l:List It}(hl:l.length<=100000)(hf:l.length<fu)(hg:Pr [] 0 l) (hk:∀x∈l,x.ok)(hb:(Ch l).length<=300000):
  Ad C0 prog fu (d+5) AQ [.lst false 3 l.length (Bf l)]=some ⟨[.own 1 (Ch l).length (Af .u8 (Ch l)),.sc (.int .i64 0)],[]⟩:=by
 rw[TW];have v:=Ta (fu:=fu) (d:=d) (by omega) hl hf hg
 have q:=Ad6 (fu:=fu) (d:=d+2) Cb hl (Bd:=l.length) (a0:=Bf l) l 0 [] fu rfl (by omega) hf hk (by simpa using hb)
 rw[Zzq] at q;simp only[Cu,v,bne_self_eq_false];exact q
end
end
section
open Go.Proofs.Tryd (prog)
open Go.IntKind (wrap)
section
variable {fu d:Nat}
theorem Aaa (Cb:200<=fu){l:List It}(hl:l.length<=100000)(hf:l.length<fu)(hg:Pr [] 0 l):
  Ad C0 prog fu (d+5) Xn [.own 3 l.length (Bf l)]=some ⟨[.own 3 l.length (Bf l),.sc (.int .i64 0)],[]⟩:=by
 rw[OQ];have v:=Ta (fu:=fu) (d:=d) Cb hl hf hg;have L:=H0 l;have t:List.take (l.length*3) (Bf l)=Bf l:=My (by omega)
 simp (disch:=omega) only[Cu,L,t,Fg,v,bne_self_eq_false]
end
end
section
open Go.IntKind (wrap)
structure SH (x:It):Prop where
 kd:x.k=1∨x.k=2∨x.k=3∨x.k=4∨x.k=7∨x.k=8
 hs:x.s.size<=1024
 hv:x.k=4->Lib.validD x.s.data.toList=true
 hsh:Kz x=true
 n0:0<=x.n
theorem SH.ok {x:It}(h:SH x):x.ok:=by
 have:=h.kd;have:=h.hs;exact⟨by omega,by omega,h.n0,by omega⟩
theorem SH.push {x:It}(h:SH x)(l:List Ha):RQ l x=l:=by
 unfold RQ;have:=h.kd;rw[Bj (by omega),Bj (by omega)]
end
section
open Go.Proofs.Tryd (prog)
open Go.IntKind (wrap)
def Axa (v:List It):List PV:=[.lst false 3 v.length (Bf v)]
theorem UX (v:List It):(Axa v).length=1:=rfl
def F0 (l:List (List It)):List PV:=l.flatMap Axa
theorem atv {l:List (List It)} {i:Nat}{v:List It}(h:l[i]?=some v):(F0 l).getD (i*1) .top=.lst false 3 v.length (Bf v):=by
 exact Ie UX h (j:=0) (by omega)
section
variable {fu d:Nat}
theorem KW (Cb:1000<=fu){Bd:Nat}{a0:List PV}{vs:List (List It)} (hl:vs.length<=100000):∀(r:List (List It)) (i nn:Nat),vs.drop i=r->r.length<nn->(∀v∈r,Pr [] 0 v∧v.length<1000)->i<=vs.length ->
  Mk fu (Ad C0 prog fu (d+4)) Bd a0 nn vs.length (F0 vs) (vs.length:Int) (i:Int)=some ⟨[.sc (.int .i64 0)],[]⟩
 |_,_,0,_,h,_,_=>by omega
 |[],i,nn+1,h,hn,hg,hi=>by
  have:=drop_nil h;rw[Tt,Fi _ _ _ (by omega)]
 |v::r,i,nn+1,h,hn,hg,hi=>by
  obtain⟨h1,h2,h3⟩:=Dx h;simp only[Io] at hn;have w:wrap .i64 ((i:Int)+1)=((i+1:Nat):Int):=by rw[Ak (by omega) (by omega)];omega
  have ih:=KW Cb (Bd:=Bd) (a0:=a0) hl r (i+1) nn h3 (by omega) (fun v hv=>hg v (List.mem_cons_of_mem _ hv)) (by omega)
  obtain⟨g,gl⟩:=hg v (by simp)
  have vg:=Ta (fu:=fu) (d:=d) (by omega) (by omega) (by omega) g
  have g0:=atv h2;rw[Tt];simp (disch:=omega) only[Cu,Hs,g0,vg,bne_self_eq_false,w,ih]
theorem Abk (Cb:1000<=fu){vs:List (List It)} (hl:vs.length<1000)(hg:∀v∈vs,Pr [] 0 v∧v.length<1000):
  Ad C0 prog fu (d+5) AU [.lst false 1 vs.length (F0 vs)]=some ⟨[.sc (.int .i64 0)],[]⟩:=by
 rw[SO];exact KW Cb (by omega) vs 0 fu rfl (by omega) hg (by omega)
theorem Abs (a b:List It):Bf (a++b)=Bf a++Bf b:=by
 unfold Bf;rw[List.flatMap_append]
theorem OJ (Cb:1000<=fu){Bd:Nat}{a0:List PV}{vs:List (List It)} (hl:vs.length<=100000):∀(r:List (List It)) (i nn:Nat)(o:List It),vs.drop i=r->r.length<nn->Pr [] 0 (o++r.flatten)->(o++r.flatten).length<=500->i<=vs.length ->
  N8 fu (Ad C0 prog fu (d+5)) Bd a0 nn o.length vs.length (F0 vs) (vs.length:Int) (i:Int) (Bf o)=some ⟨[.own 3 (o++r.flatten).length (Bf (o++r.flatten)),.sc (.int .i64 0)],[]⟩
 |_,_,0,_,_,h,_,_,_=>by omega
 |[],i,nn+1,o,h,hn,hg,hb,hi=>by
  have:=drop_nil h;have e:o++([]:List (List It)).flatten=o:=by simp
  rw[e] at hg hb ⊢;have L:=H0 o;have t:List.take (o.length*3) (Bf o)=Bf o:=My (by omega)
  have ck:=Aaa (fu:=fu) (d:=d) (by omega) (by omega) (by omega) hg
  rw[Wt,Fi _ _ _ (by omega)]
  simp (disch:=omega) only[Cu,L,t,ck]
 |v::r,i,nn+1,o,h,hn,hg,hb,hi=>by
  obtain⟨h1,h2,h3⟩:=Dx h;simp only[Io] at hn;have w:wrap .i64 ((i:Int)+1)=((i+1:Nat):Int):=by rw[Ak (by omega) (by omega)];omega
  have e:o++(v::r).flatten=(o++v)++r.flatten:=by simp
  rw[e] at hg hb ⊢
  have Ip:o.length+v.length<=500:=by
   rw[Kb,Kb] at hb;omega
  have ih:=OJ Cb (Bd:=Bd) (a0:=a0) hl r (i+1) nn (o++v) h3 (by omega) hg hb (by omega)
  have g0:=atv h2;have L:=H0 o;have Lv:=H0 v;have t:List.take (o.length*3) (Bf o)=Bf o:=My (by omega)
  rw[Kb,Abs] at ih;rw[Wt];simp (disch:=omega) only[Cu,Hs,g0,L,Lv,t,w,ih]
theorem Ae7 (Cb:1000<=fu){vs:List (List It)} (hg:∀v∈vs,Pr [] 0 v∧v.length<1000) (hl:vs.length<=400)(ha:Pr [] 0 (⟨5,vs.length,⟨#[]⟩⟩::vs.flatten)) (hb:vs.flatten.length<=499):
  Ad C0 prog fu (d+6) Ii [.lst false 1 vs.length (F0 vs)]=some ⟨[.own 3 (vs.flatten.length+1) (Bf (⟨5,vs.length,⟨#[]⟩⟩::vs.flatten)),.sc (.int .i64 0)],[]⟩:=by
 rw[ZR];have f:=Abk (fu:=fu) (d:=d) Cb (by omega) hg
 have w:wrap .u64 (vs.length:Int)=vs.length:=Ea (by omega) (by omega)
 have q:=OJ (fu:=fu) (d:=d) Cb (Bd:=vs.length) (a0:=F0 vs) (by omega) vs 0 fu [⟨5,vs.length,⟨#[]⟩⟩] rfl (by omega) ha (by rw[Kb,List.length_singleton];omega) (by omega)
 simp only[Cu,f,bne_self_eq_false,w];exact q
end
end
section
open Go.Proofs.Tryd (prog)
open Go.IntKind (wrap)
def A30 (a b:List Int):Int:=Lib.compareBytes (a.map fun n=>n.toNat.toUInt8) (b.map fun n=>n.toNat.toUInt8)
def Ui (a b:List Int):Bool:=if a.length=b.length then decide (A30 a b<0) else decide (a.length<b.length)
def K6 (l:List Ha)(key:List Int):List Ha:=match l.getLast? with|some f=>l.dropLast++[⟨f.p,f.left,key⟩]|none=>l
theorem Om (l:List Ha)(f:Ha)(key:List Int):K6 (l++[f]) key=l++[⟨f.p,f.left,key⟩]:=by
 unfold K6;simp
def NK (l:List Ha):List Int:=match l.getLast? with|some f=>f.last|none=>[]
theorem YT (l:List Ha)(f:Ha):NK (l++[f])=f.last:=by
 unfold NK;simp
def Eo (l:List Ha)(x:It):Int × List Ha:=
 if x.k=4∧okS x.s=false then (6,l)
 else if Rq l=true then (if NK l≠[]∧Ui (NK l) (Do x)=false then (7,l) else (0,Gt (K6 l (Do x)) x))
 else (0,Gt l x)
theorem Alm (x:It):1<=(Do x).length:=by
 unfold Do;have h2:=Nu 2 x.s.size;have h3:=Nu 3 x.s.size;have h4:=Nu (x.k-1) x.n
 repeat' split
 all_goals try simp only[Kb,Io,W5]
 all_goals omega
section
variable {fu d:Nat}
theorem Agt (a b:List Int):Ad C0 prog fu (d+1) 96 [.lst false 1 a.length (Af .u8 a),.lst false 1 b.length (Af .u8 b)]=some ⟨[.sc (.int .i64 (A30 a b))],[]⟩:=by
 have h:Ad C0 prog fu (d+1) 96 [.lst false 1 a.length (Af .u8 a),.lst false 1 b.length (Af .u8 b)]=X7 [.lst false 1 a.length (Af .u8 a),.lst false 1 b.length (Af .u8 b)]:=by kernel_rfl
 rw[h];unfold X7;simp only[At,Nat.beq_refl,Bool.and_self,cond_true,Lh];rfl
theorem Afs (a b:List Int):Ad C0 prog fu (d+2) Xy [.lst false 1 a.length (Af .u8 a),.lst false 1 b.length (Af .u8 b)]=some ⟨[.sc (.bool (Ui a b))],[]⟩:=by
 refine (RI fu (d+1) _ _ _ _).trans ?_;have c:=Agt (fu:=fu) (d:=d) a b;unfold Ui;by_cases h:a.length=b.length
 ·have b0:((a.length:Int) != (b.length:Int))=false:=by simp[h]
  rw[Cy h];simp only[Cu,b0,c]
 ·have b0:((a.length:Int) != (b.length:Int))=true:=by simp;omega
  rw[Bj h];simp only[Cu,b0];simp
theorem VA {l:List Ha}{x:It}{cnt:Int}(Cb:1000<=fu)(hl:l.length<=900)(h0:0<=cnt)(h1:cnt<=1000000)(hx:x.ok)(hs:x.s.size<=100000):
  Ad C0 prog fu (d+3) K4 [.pbox (M1 l cnt),.agg x.cells]=some ⟨[.sc (.int .i64 (Eo l x).1)],[M1 (Eo l x).2 (if (Eo l x).1=0 then cnt+1 else cnt)]⟩:=by
 cases ha:Rq l with
 |false=>
  cases hv:(x.k==4) && !okS x.s with
  |false=>
   have e:Eo l x=(0,Gt l x):=by
    unfold Eo;rw[Bj,Bj (by simp[ha])]
    intro hh;simp[hh.1,hh.2] at hv
   have:=JQ (fu:=fu) (d:=d+1) (l:=l) (x:=x) (cnt:=cnt) (by omega) (by omega) h0 h1 ha hs (by
    intro hk;simp[hk] at hv;exact hv)
   rw[e,this];rfl
  |true=>
   simp at hv
   have e:Eo l x=(6,l):=by
    unfold Eo;rw[Cy hv]
   rw[e];obtain⟨k,n,s⟩:=x;have va:=DY (fu:=fu) (d:=d+1) s (Nat.le_trans hs (by omega))
   simp only at hv;obtain⟨rfl,hv⟩:=hv;rw[hv] at va;have L:=Dn l;have t:=D1 l;refine (K7 fu (d+2) l.length (F2 l) cnt 4 n s).trans ?_;simp (disch:=omega) only[Cu,Int.reduceBEq,va,L,t];rfl
 |true=>
  rcases Jp l with rfl|⟨l',f,rfl⟩
  ·exact absurd ha (by decide)
  have it:=Ah1 (fu:=fu) (d:=d) Cb (l:=[]) (by simp) hx
  rw[Zzq] at it;have hp:=Alm x;have sm:=Afs (fu:=fu) (d:=d) f.last (Do x);have ak:=PT (fu:=fu) (d:=d+1) (l:=l'++[f]) (by omega) cnt
  rw[ha] at ak;have st:=Ahr (fu:=fu) (d:=d+1) (l:=K6 (l'++[f]) (Do x)) (x:=x) (cnt:=cnt) (by rw[Om];simp at hl ⊢;omega) (by rw[Om];simp at hl ⊢;omega) h0 h1
  have E:Eo (l'++[f]) x=(if x.k=4∧okS x.s=false then (6,l'++[f]) else if f.last≠[]∧Ui f.last (Do x)=false then (7,l'++[f]) else (0,Gt (K6 (l'++[f]) (Do x)) x)):=by
   unfold Eo;rw[ha,YT];simp only[if_true]
  have hn':(l'++[f]).length=l'.length+1:=by simp
  have Z6:(l'++[f])[l'.length]?=some f:=by simp
  have w:wrap .i64 (((l'++[f]).length:Int)-1)=(l'.length:Int):=by rw[Ak (by omega) (by omega)];omega
  have L:=Dn (l'++[f]);have t:=D1 (l'++[f]);have g2:(F2 (l'++[f])).getD (l'.length*3+2) .top=.lst false 1 f.last.length (Af .u8 f.last):=Ie Ha.cells_len Z6 (j:=2) (by omega)
  have sp:Bn (F2 (l'++[f])) [.lst false 1 (Do x).length (Af .u8 (Do x))] (l'.length*3+2)=F2 (K6 (l'++[f]) (Do x)):=by
   rw[Gs (by omega),Om,Uk,Uk,Va,Va]
   have:=Dn l';rw[List.set_append_right _ _ (by omega)]
   have:l'.length*3+2-(F2 l').length=2:=by omega
   rw[this];rfl
  have LK:=Dn (K6 (l'++[f]) (Do x));have tK:=D1 (K6 (l'++[f]) (Do x));have nK:(K6 (l'++[f]) (Do x)).length=(l'++[f]).length:=by rw[Om];simp
  rw[nK] at LK tK;have L2:=Dn (Gt (K6 (l'++[f]) (Do x)) x);have t2:=D1 (Gt (K6 (l'++[f]) (Do x)) x);have Lk:=At .u8 (Do x);have tk:=Tl .u8 (Do x);unfold M1 at st ak ⊢;rw[nK] at st;rw[E];generalize Gt (K6 (l'++[f]) (Do x)) x=S at *
  generalize F2 (K6 (l'++[f]) (Do x))=K at *
  have hsm:f.last.length=0->Ui f.last (Do x)=true:=by
   intro hz;unfold Ui;rw[Bj (by omega)]
   simp;omega
  have ML:f.last≠[]↔0<f.last.length:=by rw[List.length_pos_iff]
  generalize hKe:Do x=key at *
  obtain⟨k,n,s⟩:=x;have va:=DY (fu:=fu) (d:=d+1) s (Nat.le_trans hs (by omega))
  unfold okS at va ⊢;unfold It.cells at st it ⊢;simp only at st it hs ⊢;refine (K7 fu (d+2) (l'++[f]).length (F2 (l'++[f])) cnt k n s).trans ?_;simp only[W5] at it;have it0:Af .u8 []=[]:=rfl;rw[it0] at it
  try unfold Aa
  repeat' first
   |((with_reducible first|apply Ax|apply Ap|apply Az|apply A9|apply Bq|apply Bv|apply Aq);· first|with_reducible rfl|(simp (disch:=first|with_reducible assumption|omega) only[va,L,t,ak,w,Hs,C8,Nat.add_zero,it,g2,Dp,Fg,Lk,tk,sm,sp,LK,tK,st,L2,t2]<;>with_reducible rfl))
   |((with_reducible first|apply A4|apply A3);· first|with_reducible rfl|with_reducible assumption|omega|(simp (disch:=first|with_reducible assumption|omega) only[gT,va,L,t,ak,w,Hs,C8,Nat.add_zero,it,g2,Dp,Fg,Lk,tk,sm,sp,LK,tK,st,L2,t2]<;>omega))
   |(with_reducible apply Ay;· first|with_reducible rfl|with_reducible assumption|(simp (disch:=first|with_reducible assumption|omega) only[gF,va,L,t,ak,w,Hs,C8,Nat.add_zero,it,g2,Dp,Fg,Lk,tk,sm,sp,LK,tK,st,L2,t2]<;>omega))
   |(with_reducible refine Apz ?_ ?_<;>intro hb<;>try simp only[decide_eq_true_eq,decide_eq_false_iff_not,beq_iff_eq,beq_eq_false_iff_ne,bne_iff_ne,bne_eq_false_iff_eq,ne_eq,Bool.not_eq_true',Bool.not_eq_false',Bool.not_eq_true,Bool.not_eq_false] at hb)
   |(with_reducible refine XV ?_ ?_)
  all_goals try simp (disch:=first|with_reducible assumption|omega) only[va,L,t,ak,w,Hs,C8,Nat.add_zero,it,g2,Dp,Fg,Lk,tk,sm,sp,LK,tK,st,L2,t2]
  all_goals clear st it ak va sm L t g2 sp LK tK L2 t2 Lk tk it0 E ha hKe
  all_goals repeat' split
  all_goals first
   |rfl
   |(exfalso;simp_all;done)
   |(exfalso;simp_all;omega)
end
end
end Go.Proofs.YtpogefhpiaaliaaDoor.Pv
