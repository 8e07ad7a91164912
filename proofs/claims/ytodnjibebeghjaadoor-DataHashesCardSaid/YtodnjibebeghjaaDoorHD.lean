/-
  The proof of DataHashes, part 4.
-/
import Derived.Test.YtodnjibebeghjaaDoorHC
import Derived.Lib.RuneBytes
import Derived.Lib.SlTrimSet
import Derived.Test.YtodnjibebeghjaaDoorRows
import Derived.Lib.BytesEntry
import Derived.Lib.Bytealg
import Derived.Lib.Walk
import Derived.WalkKit
import Derived.WalkMore
import Derived.Laws.Bits64b
import Derived.Shelf.Strings.BuilderRune
import Derived.Shelf.Strings.SlTrimAscii
import Derived.Shelf.RegionOpenPlain
import Derived.Lib.Overlaps
import Derived.Lib.AppendZerosOnto
import Derived.Lib.SliceRun
import Derived.Laws.Externs
import Derived.Laws.IdiomCopy
import Derived.Laws.NewBlocks
import Derived.Shelf.Unicode.ValidAny
import Derived.Lib.LaidU8T
set_option linter.unusedSimpArgs false
set_option linter.unusedVariables false
namespace Go.Proofs.YtodnjibebeghjaaDoor.Pv
section
open Go.Proofs.Tryd (prog)
open Go.IntKind (wrap)
section
variable {fu d:Nat} {xs:FuncId->Option (List PV->Option Ay)}
theorem Abw {x k:Int}(hk:k=13∨k=16∨k=17∨k=21∨k=32):Ae (CX xs) prog fu (d+1) Jp [.sc (.int .u64 x),.sc (.int .i64 k)]=some ⟨[.sc (.int .u64 (rot x k))],[]⟩:=by
 rw[Qt];rcases hk with rfl|rfl|rfl|rfl|rfl<;>kernel_rfl
theorem Aao {x k:Int}(hk:k=13∨k=16∨k=17∨k=21∨k=32):Ae (CX xs) prog fu (d+1) Kw [.sc (.int .u64 x),.sc (.int .u64 k)]=some ⟨[.sc (.int .u64 (rot x k))],[]⟩:=by
 rw[Ry];rcases hk with rfl|rfl|rfl|rfl|rfl<;>kernel_rfl
theorem Vs {a0 a1 a2 a3 a4:Int}:∀(k i nn:Nat)(v:W4),k<nn->i+k<=100 ->
  D7 fu (Ae (CX xs) prog fu (d+1)) a0 a1 a2 a3 a4 nn ((i+k:Nat):Int) i v.a v.b v.c v.d=some ⟨[],[(OO k v).cells]⟩
 |_,_,0,_,h,_=>by omega
 |0,i,nn+1,v,h,hi=>by
  rw[Gt,R6 _ _ _ (by omega)]
  rfl
 |k+1,i,nn+1,v,h,hi=>by
  have ih:=Vs (a0:=a0) (a1:=a1) (a2:=a2) (a3:=a3) (a4:=a4) k (i+1) nn (AY v) (by omega) (by omega)
  have w:wrap .i64 ((i:Int)+1)=((i+1:Nat):Int):=by rw[Bc (by omega) (by omega)];omega
  have r13:=fun x=>Abw (xs:=xs) (fu:=fu) (d:=d) (x:=x) (k:=13) (by simp)
  have r16:=fun x=>Abw (xs:=xs) (fu:=fu) (d:=d) (x:=x) (k:=16) (by simp)
  have r17:=fun x=>Abw (xs:=xs) (fu:=fu) (d:=d) (x:=x) (k:=17) (by simp)
  have r21:=fun x=>Abw (xs:=xs) (fu:=fu) (d:=d) (x:=x) (k:=21) (by simp)
  have r32:=fun x=>Abw (xs:=xs) (fu:=fu) (d:=d) (x:=x) (k:=32) (by simp)
  rw[Gt];simp (disch:=omega) only[Ek,r13,r16,r17,r21,r32,w];rw[show i+(k+1)=i+1+k by omega]
  exact ih
theorem FE (k:Nat)(hk:k<=4)(Ev:100<=fu)(v:W4):Ae (CX xs) prog fu (d+2) Hv [.pbox [.sc (.int .u64 v.a),.sc (.int .u64 v.b),.sc (.int .u64 v.c),.sc (.int .u64 v.d)],.sc (.int .i64 k)]=some ⟨[],[(OO k v).cells]⟩:=by
 rw[Oi];have:=Vs (xs:=xs) (fu:=fu) (d:=d) (a0:=v.a) (a1:=v.b) (a2:=v.c) (a3:=v.d) (a4:=k) k 0 fu v (by omega) (by omega)
 rw[Zzd] at this;exact this
theorem EU (Ev:100<=fu)(v:W4)(m:Int):Ae (CX xs) prog fu (d+3) Hu [.pbox [.sc (.int .u64 v.a),.sc (.int .u64 v.b),.sc (.int .u64 v.c),.sc (.int .u64 v.d)],.sc (.int .u64 m)]=some ⟨[],[(Mp v m).cells]⟩:=by
 rw[Od];have r2:=FE (xs:=xs) (fu:=fu) (d:=d) 2 (by omega) Ev ⟨v.a,v.b,v.c,Dp .u64 v.d m⟩
 have e2:((2:Nat):Int)=2:=rfl;rw[e2] at r2;unfold Mp;generalize OO 2 ⟨v.a,v.b,v.c,Dp .u64 v.d m⟩=R at r2 ⊢;simp only[W4.cells] at r2;simp only[Ek,r2];rfl
theorem Ao4 {a b:Int}{k:Nat}(hk:k<8)(ha:0<=a)(XX:a<((2 ^ (8*k):Nat):Int)) (hb:0<=b)(Gi:b<=255):JO .u64 a (G1 .u64 b (8*(k:Int)))=a+((2 ^ (8*k):Nat):Int)*b:=by
 obtain⟨n,rfl⟩:=Int.eq_ofNat_of_zero_le hb;have e:(8*(k:Int)).toNat=8*k:=by omega
 have hp:n*2 ^ (8*k)<=255*2 ^ (8*k):=Nat.mul_le_mul_right _ (by omega)
 have h56:2 ^ (8*k)<=2 ^ 56:=Nat.pow_le_pow_right (by omega) (by omega)
 have e56:(2:Nat) ^ 56=72057594037927936:=by decide
 rw[e56] at h56;generalize hP:2 ^ (8*k)=p at *
 have VE:n*p<=255*p:=hp
 have hs:G1 .u64 (n:Int) (8*(k:Int))=(n:Int)*((2 ^ (8*(k:Int)).toNat:Nat):Int):=RY (by omega) (by omega) (by omega) (by
  rw[e,hP];have:((n*p:Nat):Int)<=((255*p:Nat):Int):=by omega
  rw[←Int.natCast_mul];omega)
 rw[hs,e,hP]
 have:=(IK (a:=a) (c:=((n*p:Nat):Int)) (8*k) n ha (by rw[hP];exact XX) (by rw[hP]) (by
  have:((n*p:Nat):Int)<=((255*p:Nat):Int):=by omega
  omega)).1
 rw[←Int.natCast_mul,this,Int.mul_comm ((p:Nat):Int),←Int.natCast_mul]
theorem Aqd (k:Nat):((2 ^ (8*k):Nat):Int)=256 ^ k:=by
 rw[Nat.pow_mul];simp
theorem Vw {call:Ax}{n:Nat}{c:List PV}{l:List Int}(hb:Do l)(hl:l.length<=8):∀(r:List Int)(i nn:Nat),l.drop i=r->r.length<nn->i<=l.length ->
  Gg fu call n c nn (Mk (l.take i)) l.length (Dw .u8 l) l.length i=some ⟨[.sc (.int .u64 (Mk l))],[]⟩
 |_,_,0,_,h,_=>by omega
 |[],i,nn+1,h,hn,hi=>by
  have:=drop_nil h;rw[Ky,R6 _ _ _ (by omega),Zzf (by omega)]
 |b::r,i,nn+1,h,hn,hi=>by
  obtain⟨h1,h2,h3⟩:=Qd h;simp only[QI] at hn;have ih:=Vw (call:=call) (n:=n) (c:=c) hb hl r (i+1) nn h3 (by omega) (by omega)
  have TC:=hb b (List.mem_of_getElem? h2);have w:wrap .i64 ((i:Int)+1)=((i+1:Nat):Int):=by rw[Bc (by omega) (by omega)];omega
  have w8:wrap .i64 (8*(i:Int))=8*(i:Int):=Bc (by omega) (by omega)
  have wb:wrap .u64 b=b:=Ms (by omega) (by omega)
  have Al3:=Nx (l:=l.take i) fun x hx=>hb x (List.mem_of_mem_take hx)
  have htl:(l.take i).length=i:=by rw[List.length_take];omega
  rw[htl] at Al3
  have hj:JO .u64 (Mk (l.take i)) (G1 .u64 b (8*(i:Int)))=Mk (l.take (i+1)):=by
   rw[Ao4 (by omega) Al3.1 (by rw[Aqd];exact Al3.2) TC.1 TC.2,List.take_add_one,h2,Rp,htl,Aqd]
   simp[Mk]
  rw[Ky];simp (disch:=omega) only[Ek,Oo,Nat.mul_one,ati h2,w,w8,wb,hj];exact ih
theorem EH {l:List Int}(hb:Do l)(hl:l.length<=8)(Ev:100<=fu):Ae (CX xs) prog fu (d+1) N1 [.lst false 1 l.length (Dw .u8 l)]=some ⟨[.sc (.int .u64 (Mk l))],[]⟩:=by
 rw[Wo];exact Vw hb hl l 0 fu rfl (by omega) (by omega)
theorem EZ (k:IntKind)(l:List Int)(i:Nat):List.drop i (Dw k l)=Dw k (l.drop i):=by
 have:=IG (Sq k) l i
 simpa using this
theorem WL (k:IntKind)(l:List Int)(i:Nat):List.take i (Dw k l)=Dw k (l.take i):=by
 have:=TB (Sq k) l i
 simpa using this
theorem Do.drop {l:List Int}(h:Do l)(i:Nat):Do (l.drop i):=fun x hx=>h x (List.mem_of_mem_drop hx)
theorem Do.take {l:List Int}(h:Do l)(i:Nat):Do (l.take i):=fun x hx=>h x (List.mem_of_mem_take hx)
theorem Ad6 {a0 a1:Int}{n:Nat}{c:List PV}{l:List Int}(hb:Do l)(hl:l.length<=1099511627776)(Ev:100<=fu)(nn:Nat)(v:W4):
  Gu fu (Ae (CX xs) prog fu (d+3)) a0 a1 n c (nn+1) l.length (Dw .u8 l) ((l.length / 8:Nat):Int) ((l.length / 8:Nat):Int) ((l.length / 8:Nat):Int) v.a v.b v.c v.d=some ⟨[.sc (.int .u64 (VP (VD (Mp v (Jo l)))))],[]⟩:=by
 have w8:wrap .i64 (8*((l.length / 8:Nat):Int))=((8*(l.length / 8):Nat):Int):=by rw[Bc (by omega) (by omega)];omega
 have wl:wrap .u64 (l.length:Int)=l.length:=Ms (by omega) (by omega)
 have hdl:(l.drop (8*(l.length / 8))).length=l.length-8*(l.length / 8):=List.length_drop;have li:=EH (xs:=xs) (fu:=fu) (d:=d+2) (hb.drop (8*(l.length / 8))) (by omega) Ev
 rw[hdl] at li;have tk:List.take (l.length-8*(l.length / 8)) (Dw .u8 (l.drop (8*(l.length / 8))))=Dw .u8 (l.drop (8*(l.length / 8))):=Zzf (by rw[Kn,hdl];omega)
 have hbn:=Nx (hb.drop (8*(l.length / 8)));rw[hdl] at hbn
 have hp7:(256:Int) ^ (l.length-8*(l.length / 8))<=256 ^ 7:=by
  have:(256:Nat) ^ (l.length-8*(l.length / 8))<=256 ^ 7:=Nat.pow_le_pow_right (by omega) (by omega)
  have h2:(((256:Nat) ^ (l.length-8*(l.length / 8)):Nat):Int)<=((256 ^ 7:Nat):Int):=by omega
  simpa using h2
 have SA:JO .u64 (Mk (l.drop (8*(l.length / 8)))) (G1 .u64 (l.length:Int) 56)=Jo l:=by
  have hs:G1 .u64 (l.length:Int) 56=(((l.length % 256)*2 ^ 56:Nat):Int):=by
   show wrap .u64 ((l.length:Int)*2 ^ (min (56:Int).toNat IntKind.u64.bits))=_;have h2:(2:Int) ^ (min (56:Int).toNat IntKind.u64.bits)=72057594037927936:=by decide
   have h3:(2:Nat) ^ 56=72057594037927936:=by decide
   rw[h2,h3];simp only[wrap,IntKind.signed,IntKind.bits];simp;omega
  have h56:(256:Int) ^ 7=((2 ^ 56:Nat):Int):=by decide
  have h3:(2:Nat) ^ 56=72057594037927936:=by decide
  rw[hs,(IK 56 (l.length % 256) hbn.1 (by omega) rfl (by omega)).1]
  unfold Jo;omega
 have ab:=EU (xs:=xs) (fu:=fu) (d:=d) Ev v (Jo l);have r4:=FE (xs:=xs) (fu:=fu) (d:=d+1) 4 (by omega) Ev ⟨(Mp v (Jo l)).a,(Mp v (Jo l)).b,Dp .u64 (Mp v (Jo l)).c 255,(Mp v (Jo l)).d⟩
 have e4:((4:Nat):Int)=4:=rfl;rw[e4] at r4;unfold VD;generalize Mp v (Jo l)=U at ab r4 ⊢;generalize OO 4 ⟨U.a,U.b,Dp .u64 U.c 255,U.d⟩=R at r4 ⊢;simp only[W4.cells] at ab r4;rw[N3];simp (disch:=omega) only[Ek,Oo,Nat.mul_one,w8,wl,EZ,tk,li,SA,ab,r4];rfl
theorem KT {a0 a1:Int}{n:Nat}{c:List PV}{l:List Int}(hb:Do l)(hl:l.length<=1099511627776)(Ev:100<=fu):∀(k i nn:Nat)(v:W4),i+k=l.length / 8->k<nn ->
  Gu fu (Ae (CX xs) prog fu (d+3)) a0 a1 n c nn l.length (Dw .u8 l) ((l.length / 8:Nat):Int) ((l.length / 8:Nat):Int) i v.a v.b v.c v.d=some ⟨[.sc (.int .u64 (VP (VD (Mp (BG k v (l.drop (8*i))) (Jo l)))))],[]⟩
 |_,_,0,_,_,h=>by omega
 |0,i,nn+1,v,hi,hn=>by
  have e:i=l.length / 8:=by omega
  subst e;exact Ad6 hb hl Ev nn v
 |k+1,i,nn+1,v,hi,hn=>by
  have w:wrap .i64 ((i:Int)+1)=((i+1:Nat):Int):=by rw[Bc (by omega) (by omega)];omega
  have w8:wrap .i64 (8*(i:Int))=((8*i:Nat):Int):=by rw[Bc (by omega) (by omega)];omega
  have w88:wrap .i64 (((8*i:Nat):Int)+8)=((8*i+8:Nat):Int):=by rw[Bc (by omega) (by omega)];omega
  have hdl:((l.drop (8*i)).take 8).length=8:=by rw[List.length_take,List.length_drop];omega
  have li:=EH (xs:=xs) (fu:=fu) (d:=d+2) ((hb.drop (8*i)).take 8) (by omega) Ev
  rw[hdl] at li;have e8:8*i+8-8*i=8:=by omega
  have ab:=EU (xs:=xs) (fu:=fu) (d:=d) Ev v (Mk ((l.drop (8*i)).take 8));have ih:=KT (a0:=a0) (a1:=a1) (n:=n) (c:=c) hb hl Ev k (i+1) nn (Mp v (Mk ((l.drop (8*i)).take 8))) (by omega) (by omega)
  have eN:BG (k+1) v (l.drop (8*i))=BG k (Mp v (Mk ((l.drop (8*i)).take 8))) (l.drop (8*(i+1))):=by
   rw[BG,List.drop_drop,show 8*i+8=8*(i+1) by omega]
  rw[eN];generalize Mp v (Mk ((l.drop (8*i)).take 8))=U at ab ih ⊢;simp only[W4.cells] at ab;rw[N3];simp (disch:=omega) only[Ek,Oo,Nat.mul_one,w,w8,w88,e8,EZ,WL,li,ab];exact ih
theorem Ake {l:List Int}(hb:Do l)(hl:l.length<=1099511627776)(Ev:100<=fu)(hf:l.length<fu)(k0 k1:Int):Ae (CX xs) prog fu (d+4) T7 [.sc (.int .u64 k0),.sc (.int .u64 k1),.lst false 1 l.length (Dw .u8 l)]=some ⟨[.sc (.int .u64 (Ajb k0 k1 l))],[]⟩:=by
 rw[GX]
 have w:wrap .i64 (Int.tdiv (l.length:Int) 8)=((l.length / 8:Nat):Int):=by
  rw[Int.tdiv_eq_ediv_of_nonneg (by omega),Bc (by omega) (by omega)]
  omega
 have lp:=KT (xs:=xs) (fu:=fu) (d:=d) (a0:=k0) (a1:=k1) (n:=l.length) (c:=Dw .u8 l) hb hl Ev (l.length / 8) 0 fu (Amo k0 k1) (by omega) (by omega)
 simp only[Mr,w];exact lp
theorem Adr {l:List Int}(hb:Do l)(hl:l.length<=1099511627776)(Ev:100<=fu)(hf:l.length<fu)(dom:Int):Ae (CX xs) prog fu (d+5) Q4 [.sc (.int .i64 dom),.lst false 1 l.length (Dw .u8 l)]=some ⟨[.sc (.int .u64 (V8 dom l))],[]⟩:=by
 rw[BI];have s:=Ake (xs:=xs) (fu:=fu) (d:=d) hb hl Ev hf (wrap .u64 dom) 0;simp only[Ek,s];rfl
theorem J4 (v:W4):Ae (CX xs) prog fu (d+2) Jg [.agg [.sc (.int .u64 v.a),.sc (.int .u64 v.b),.sc (.int .u64 v.c),.sc (.int .u64 v.d)]]=some ⟨[.agg (AY v).cells],[]⟩:=by
 have r13:=fun x=>Aao (xs:=xs) (fu:=fu) (d:=d) (x:=x) (k:=13) (by simp)
 have r16:=fun x=>Aao (xs:=xs) (fu:=fu) (d:=d) (x:=x) (k:=16) (by simp)
 have r17:=fun x=>Aao (xs:=xs) (fu:=fu) (d:=d) (x:=x) (k:=17) (by simp)
 have r21:=fun x=>Aao (xs:=xs) (fu:=fu) (d:=d) (x:=x) (k:=21) (by simp)
 have r32:=fun x=>Aao (xs:=xs) (fu:=fu) (d:=d) (x:=x) (k:=32) (by simp)
 rw[Qs];simp (disch:=omega) only[Ek,r13,r16,r17,r21,r32];rfl
def Oh (l:List Int)(i k:Nat):Int:=if i+k<l.length then l.getD (i+k) 0 else if k=7 then (l.length:Int) % 256 else 0
def pc (l:List Int)(i:Nat):List Int:=(List.range 8).map (Oh l i)
theorem A1h {l:List Int}(hb:Do l)(i:Nat):Do (pc l i):=by
 intro x hx;obtain⟨k,hk,rfl⟩:=List.mem_map.1 hx;unfold Oh;split
 ·rename_i h;rw[List.getD_eq_getElem?_getD,List.getElem?_eq_getElem h];exact hb _ (List.getElem_mem h)
 ·split<;>omega
theorem Age {l:List Int}{i:Nat}(h:i+8<=l.length):pc l i=(l.drop i).take 8:=by
 refine List.ext_getElem (by simp[pc];omega) fun k h1 h2=>?_
 have hk:k<8:=by simpa [pc] using h1
 simp only[pc,List.getElem_map,List.getElem_range,List.getElem_take,List.getElem_drop,Oh];rw[E7 (by omega),List.getD_eq_getElem?_getD,List.getElem?_eq_getElem (by omega)]
 rfl
theorem FC (x:Int):∀n,Mk (List.replicate n 0++[x])=256 ^ n*x
 |0=>by simp[Mk]
 |n+1=>by
  rw[List.replicate_succ,List.cons_append,Mk,FC x n,Int.pow_succ,Int.mul_comm (256 ^ n) 256,Int.mul_assoc];omega
theorem Afd {l:List Int}:Mk (pc l (8*(l.length / 8)))=Jo l:=by
 have e:pc l (8*(l.length / 8))=l.drop (8*(l.length / 8))++(List.replicate (7-(l.length-8*(l.length / 8))) 0++[(l.length:Int) % 256]):=by
  refine List.ext_getElem (by simp[pc];omega) fun k h1 h2=>?_
  have hk:k<8:=by simpa [pc] using h1
  simp only[pc,List.getElem_map,List.getElem_range,Oh];by_cases hc:8*(l.length / 8)+k<l.length
  ·rw[E7 hc,List.getElem_append_left (by rw[List.length_drop];omega),List.getElem_drop,List.getD_eq_getElem?_getD,List.getElem?_eq_getElem hc]
   rfl
  ·rw[Dz hc,List.getElem_append_right (by rw[List.length_drop];omega)]
   by_cases h7:k=7
   ·rw[E7 h7,List.getElem_append_right (by simp;omega)]
    simp
   ·rw[Dz h7,List.getElem_append_left (by simp;omega)]
    simp
 rw[e,Rp,FC];unfold Jo
 have:(256:Int) ^ (l.drop (8*(l.length / 8))).length*(256 ^ (7-(l.length-8*(l.length / 8)))*((l.length:Int) % 256))=72057594037927936*((l.length:Int) % 256):=by
  rw[←Int.mul_assoc,←Int.pow_add,List.length_drop];have:l.length-8*(l.length / 8)+(7-(l.length-8*(l.length / 8)))=7:=by omega
  rw[this];rfl
 rw[this]
theorem Aqy {a b:Int}(ha:0<=a)(XX:a<72057594037927936)(hb:0<=b)(Gi:b<=255):JO .u64 (G1 .u64 a 8) b=b+256*a:=by
 obtain⟨n,rfl⟩:=Int.eq_ofNat_of_zero_le ha
 have hs:G1 .u64 (n:Int) 8=((n*2 ^ 8:Nat):Int):=by
  have:=RY (a:=(n:Int)) (k:=8) (by omega) (by omega) (by omega) (by
   have:(2 ^ (8:Int).toNat:Nat)=256:=by decide
   rw[this];omega)
  rw[this];have:(2 ^ (8:Int).toNat:Nat)=256:=by decide
  rw[this];have:(2 ^ 8:Nat)=256:=by decide
  rw[this];omega
 have h8:(2 ^ 8:Nat)=256:=by decide
 rw[hs,(IK (a:=b) 8 n hb (by rw[h8];omega) rfl (by rw[h8];omega)).2,h8]
 omega
theorem SU {a0 a1:Int}{n m0:Nat}{c:List PV}{l:List Int}(hb:Do l)(hl:l.length<=1099511627776){i:Nat}(hi:i<=l.length)(v:W4):∀(j nn:Nat),j<=8->j<nn ->
  Ds fu (Ae (CX xs) prog fu (d+2)) a0 a1 n c m0 nn l.length (Dw .u8 l) i (Mk ((pc l i).drop j)) ((j:Int)-1) v.cells =
   Ei fu (Ae (CX xs) prog fu (d+2)) a0 a1 n c m0 l.length (Dw .u8 l) ((i+8:Nat):Int) (Mp v (Mk (pc l i))).cells
 |_,0,_,h=>by omega
 |0,nn+1,hj,hn=>by
  have w8:wrap .i64 ((i:Int)+8)=((i+8:Nat):Int):=by rw[Bc (by omega) (by omega)];omega
  have r1:=J4 (xs:=xs) (fu:=fu) (d:=d) ⟨v.a,v.b,v.c,Dp .u64 v.d (Mk (pc l i))⟩;have r2:=J4 (xs:=xs) (fu:=fu) (d:=d) (AY ⟨v.a,v.b,v.c,Dp .u64 v.d (Mk (pc l i))⟩);have eA:Mp v (Mk (pc l i))=Asi (AY (AY ⟨v.a,v.b,v.c,Dp .u64 v.d (Mk (pc l i))⟩)) (Mk (pc l i)):=rfl;rw[eA];generalize AY ⟨v.a,v.b,v.c,Dp .u64 v.d (Mk (pc l i))⟩=U at r1 r2 ⊢;generalize AY U=U2 at r2 ⊢;simp only[W4.cells] at r1 r2;rw[Io,R6 _ _ _ (by omega),List.drop_zero]
  simp only[W4.cells,List.getD_cons_zero,List.getD_cons_succ,HE,Mr];simp (disch:=first|omega|(simp;done)) only[Ek,B8,List.take_succ_cons,List.take_zero,List.drop_succ_cons,List.drop_zero,List.drop_nil,List.cons_append,List.nil_append,List.append_nil,QI,List.length_nil,List.getD_cons_zero,List.getD_cons_succ,r1,r2,w8,Zzd,Nat.reduceAdd,Nat.reduceLeDiff,List.append_eq]
  rfl
 |j+1,nn+1,hj,hn=>by
  have ih:=SU (a0:=a0) (a1:=a1) (n:=n) (m0:=m0) (c:=c) hb hl hi v j nn (by omega) (by omega)
  have hw:wrap .i64 ((i:Int)+(((j+1:Nat):Int)-1))=((i+j:Nat):Int):=by rw[Bc (by omega) (by omega)];omega
  have wj:wrap .i64 (((j+1:Nat):Int)-1-1)=(j:Int)-1:=by rw[Bc (by omega) (by omega)];omega
  have hd:(pc l i).drop j=Oh l i j::(pc l i).drop (j+1):=by
   rw[List.drop_eq_getElem_cons (by simp[pc];omega)]
   simp[pc]
  have hB:=A1h hb i;have hbn:=Nx (hB.drop (j+1))
  have hp7:(256:Int) ^ ((pc l i).drop (j+1)).length<=72057594037927936:=by
   have Dc:((pc l i).drop (j+1)).length<=7:=by simp[pc]
   have:(256:Nat) ^ ((pc l i).drop (j+1)).length<=256 ^ 7:=Nat.pow_le_pow_right (by omega) Dc
   have h2:(((256:Nat) ^ ((pc l i).drop (j+1)).length:Nat):Int)<=((256 ^ 7:Nat):Int):=by omega
   simpa using h2
  have VJ:0<=Oh l i j∧Oh l i j<=255:=hB _ (by rw[←List.drop_zero (l:=pc l i)];exact List.mem_of_mem_drop (i:=j) (by rw[List.drop_zero,hd];simp))
  have hj2:JO .u64 (G1 .u64 (Mk ((pc l i).drop (j+1))) 8) (Oh l i j)=Mk ((pc l i).drop j):=by
   rw[Aqy hbn.1 (by omega) VJ.1 VJ.2,hd]
   rfl
  have wc:wrap .u64 (Oh l i j)=Oh l i j:=Ms (by omega) (by omega)
  rw[Io,Z7 _ _ _ (by omega)]
  simp only[Mr,hw];by_cases c1:i+j<l.length
  ·have e:Oh l i j=l.getD (i+j) 0:=by unfold Oh;rw[E7 c1]
   have e2:l[i+j]?=some (Oh l i j):=by rw[e,List.getD_eq_getElem?_getD,List.getElem?_eq_getElem c1];rfl
   rw[Z7 _ _ _ (by omega)]
   simp (disch:=omega) only[Ek,Oo,Nat.mul_one,ati e2,wc,hj2,wj];exact ih
  ·rw[R6 _ _ _ (by omega)]
   by_cases h7:j=7
   ·subst h7;have e:Oh l i 7=(l.length:Int) % 256:=by unfold Oh;rw[Dz c1,E7 rfl]
    have e8:wrap .u8 (l.length:Int)=Oh l i 7:=by
     rw[e];simp only[wrap,IntKind.signed,IntKind.bits];simp
    rw[RR,E7 (by omega),e8,wc,hj2,wj]
    exact ih
   ·have e:Oh l i j=0:=by unfold Oh;rw[Dz c1,Dz h7]
    rw[e] at hj2;rw[RR,Dz (by omega),hj2,wj]
    exact ih
theorem DB {a0 a1:Int}{n:Nat}{c:List PV}{l:List Int}(hb:Do l)(hl:l.length<=1099511627776)(Ev:100<=fu):∀(k i nn:Nat)(v:W4),i+k=l.length / 8->k+1<nn ->
  Ei fu (Ae (CX xs) prog fu (d+2)) a0 a1 n c nn l.length (Dw .u8 l) ((8*i:Nat):Int) v.cells=some ⟨[.sc (.int .u64 (VP (VD (Mp (BG k v (l.drop (8*i))) (Jo l)))))],[]⟩
 |_,_,0,_,_,h=>by omega
 |k,i,nn+1,v,hi,hn=>by
  have step:=SU (xs:=xs) (fu:=fu) (d:=d) (a0:=a0) (a1:=a1) (n:=n) (m0:=nn) (c:=c) hb hl (i:=8*i) (by omega) v 8 fu (by omega) (by omega)
  have e0:Mk ((pc l (8*i)).drop 8)=0:=by rw[List.drop_of_length_le (by simp[pc])];rfl
  rw[e0] at step;rw[Is,Z7 _ _ _ (by omega)]
  refine step.trans ?_;cases k with
  |zero=>
   have e:i=l.length / 8:=by omega
   subst e;rw[Afd];generalize hv:Mp v (Jo l)=u;obtain⟨nn',rfl⟩:∃nn',nn=nn'+1:=⟨nn-1,by omega⟩
   have r1:=J4 (xs:=xs) (fu:=fu) (d:=d) ⟨u.a,u.b,Dp .u64 u.c 255,u.d⟩;have r2:=J4 (xs:=xs) (fu:=fu) (d:=d) (AY ⟨u.a,u.b,Dp .u64 u.c 255,u.d⟩);have r3:=J4 (xs:=xs) (fu:=fu) (d:=d) (AY (AY ⟨u.a,u.b,Dp .u64 u.c 255,u.d⟩));have r4:=J4 (xs:=xs) (fu:=fu) (d:=d) (AY (AY (AY ⟨u.a,u.b,Dp .u64 u.c 255,u.d⟩)))
   have eF:VP (VD (Mp (BG 0 v (l.drop (8*(l.length / 8)))) (Jo l)))=VP (AY (AY (AY (AY ⟨u.a,u.b,Dp .u64 u.c 255,u.d⟩)))):=by
    rw[BG,hv];rfl
   rw[eF];clear eF;generalize AY ⟨u.a,u.b,Dp .u64 u.c 255,u.d⟩=U1 at r1 r2 r3 r4 ⊢;generalize AY U1=U2 at r2 r3 r4 ⊢;generalize AY U2=U3 at r3 r4 ⊢;generalize AY U3=U4 at r4 ⊢;simp only[W4.cells] at r1 r2 r3 r4;rw[Is,R6 _ _ _ (by omega)]
   simp only[W4.cells,List.getD_cons_zero,List.getD_cons_succ,HE,Mr];simp (disch:=first|omega|(simp;done)) only[Ek,B8,List.take_succ_cons,List.take_zero,List.drop_succ_cons,List.drop_zero,List.drop_nil,List.cons_append,List.nil_append,List.append_nil,QI,List.length_nil,List.getD_cons_zero,List.getD_cons_succ,r1,r2,r3,r4,Zzd,Nat.reduceAdd,Nat.reduceLeDiff,List.append_eq]
   rfl
  |succ k=>
   have ih:=DB (a0:=a0) (a1:=a1) (n:=n) (c:=c) hb hl Ev k (i+1) nn (Mp v (Mk (pc l (8*i)))) (by omega) (by omega)
   rw[show 8*i+8=8*(i+1) by omega,ih,Age (by omega)]
   simp only[BG,List.drop_drop];rw[show 8*(i+1)=8*i+8 by omega]
theorem Afq {l:List Int}(hb:Do l)(hl:l.length<=1099511627776)(Ev:100<=fu)(hf:l.length<fu)(k0 k1:Int):Ae (CX xs) prog fu (d+3) La [.sc (.int .u64 k0),.sc (.int .u64 k1),.lst false 1 l.length (Dw .u8 l)]=some ⟨[.sc (.int .u64 (Ajb k0 k1 l))],[]⟩:=by
 rw[Sm];exact DB (xs:=xs) (fu:=fu) (d:=d) (a0:=k0) (a1:=k1) (n:=l.length) (c:=Dw .u8 l) hb hl Ev (l.length / 8) 0 fu (Amo k0 k1) (by omega) (by omega)
theorem Abd {l:List Int}(hb:Do l)(hl:l.length<=1099511627776)(Ev:100<=fu)(hf:l.length<fu)(dom:Int):Ae (CX xs) prog fu (d+4) Kz [.sc (.int .i64 dom),.lst false 1 l.length (Dw .u8 l)]=some ⟨[.sc (.int .u64 (V8 dom l))],[]⟩:=by
 rw[Rh];have s:=Afq (xs:=xs) (fu:=fu) (d:=d) hb hl Ev hf (wrap .u64 dom) 0;simp only[Ek,s];rfl
end
end
section
open Go.IntKind (wrap)
def D2 (s:ByteArray):List Int:=s.data.toList.map fun b=>(b.toNat:Int)
def Ac (l:List Int):ByteArray:=⟨(l.map fun n=>n.toNat.toUInt8).toArray⟩
theorem En (s:ByteArray):(D2 s).length=s.size:=by
 unfold D2;rw[List.length_map];rfl
theorem GW (s:ByteArray):Do (D2 s):=by
 intro x hx;obtain⟨b,_,rfl⟩:=List.mem_map.1 hx;have:=b.toNat_lt;omega
theorem Wf (s:ByteArray):Es s=Dw .u8 (D2 s):=by
 unfold Es D2
 induction s.data.toList with
 |nil=>rfl
 |cons b l ih=>rw[List.map_cons,List.map_cons,ih];rfl
theorem Aw (l:List Int):(Ac l).size=l.length:=by
 show (l.map fun n=>n.toNat.toUInt8).toArray.size=_
 simp
theorem C9 {l:List Int}(h:Do l):D2 (Ac l)=l:=by
 unfold D2 Ac;simp only[List.map_map]
 have:∀l:List Int,Do l->List.map ((fun b:UInt8=>(b.toNat:Int)) ∘ fun n:Int=>n.toNat.toUInt8) l=l:=by
  intro l
  induction l with
  |nil=>intro _;rfl
  |cons x l ih=>
   intro h;have hx:=h x (by simp)
   rw[List.map_cons,ih fun y hy=>h y (by simp[hy])]
   congr 1
   show ((x.toNat.toUInt8.toNat:Nat):Int)=x;rw[Nat.toUInt8,UInt8.toNat_ofNat'];omega
 exact this l h
theorem N0 (s:ByteArray):Ac (D2 s)=s:=by
 unfold Ac D2;simp only[List.map_map]
 have:∀l:List UInt8,List.map ((fun n:Int=>n.toNat.toUInt8) ∘ fun b:UInt8=>(b.toNat:Int)) l=l:=by
  intro l
  induction l with
  |nil=>rfl
  |cons x l ih=>
   rw[List.map_cons,ih]
   congr 1
   show ((x.toNat:Int).toNat).toUInt8=x;rw[Oo];simp
 rw[this]
end
section
open Go.IntKind (wrap)
def Hi (v:Int):Int:=if v<26 then 65+v else if v<52 then 71+v else if v<62 then v-4 else if v<63 then 45 else 95
def Bs (c:Int):Int:=if 65<=c∧c<=90 then c-65 else if 97<=c∧c<=122 then c-71 else if 48<=c∧c<=57 then c+4 else if c=45 then 62 else if c=95 then 63 else 64
theorem L2 (c:Int):0<=Bs c∧Bs c<=64:=by
 unfold Bs;split
 ·omega
 split
 ·omega
 split
 ·omega
 split
 ·omega
 split<;>omega
def Wp:List Int->List Int
 |[]=>[]
 |[a]=>[Hi (a / 4),Hi (a % 4*16)]
 |[a,b]=>[Hi (a / 4),Hi (a % 4*16+b / 16),Hi (b % 16*4)]
 |a::b::c::r=>Hi (a / 4)::Hi (a % 4*16+b / 16)::Hi (b % 16*4+c / 64)::Hi (c % 64)::Wp r
def Na:List Int->Option (List Int)
 |[]=>some []
 |[_]=>none
 |[p,q]=>if Bs p<64∧Bs q<64∧Bs q % 16=0 then some [Bs p*4+Bs q / 16] else none
 |[p,q,r]=>if Bs p<64∧Bs q<64∧Bs r<64∧Bs r % 4=0 then some [Bs p*4+Bs q / 16,Bs q % 16*16+Bs r / 4] else none
 |p::q::r::s::t=>if Bs p<64∧Bs q<64∧Bs r<64∧Bs s<64 then (Na t).map (fun l=>(Bs p*4+Bs q / 16)::(Bs q % 16*16+Bs r / 4)::(Bs r % 4*64+Bs s)::l) else none
theorem C5 {a:Int}{l:List Int}(h:Do (a::l)):(0<=a∧a<=255)∧Do l:=⟨h a (by simp),fun x hx=>h x (by simp[hx])⟩
end
section
open Go.IntKind (wrap)
def VW (c:Int):Bool:=c==32||c==9||c==10||c==13
def Bd:List Int->List Int
 |[]=>[]
 |c::r=>if VW c=true then Bd r else c::r
def RE (c:Int):Option Int:=if 48<=c∧c<=57 then some (c-48) else if 97<=c∧c<=102 then some (c-87) else if 65<=c∧c<=70 then some (c-55) else none
abbrev PR (α:Type):=Option α × List Int
def Qo:Nat->Int->List Int->PR Int
 |0,x,l=>(some x,l)
 |_+1,_,[]=>(none,[])
 |n+1,x,c::r=>match RE c with
  |some v=>Qo n (x*16+v) r
  |none=>(none,c::r)
def JI (x:Int):Bool:=decide (56320<=x)&&decide (x<=57343)
def SI (x:Int)(l:List Int):PR Int:=
 match Qo 4 0 l with
 |(some y,r)=>if JI y=true then (some (65536+(x-55296)*1024+(y-56320)),r) else (none,r)
 |(none,r)=>(none,r)
def Aa2:List Int->Bool
 |92::117::_=>true
 |_=>false
def Mf (l:List Int):PR Int:=
 match Qo 4 0 l with
 |(none,r)=>(none,r)
 |(some x,r)=>if JI x=true then (none,r) else if x<55296∨56319<x then (some x,r) else if Aa2 r=true then SI x (r.drop 2) else (none,r)
def R4 (c:Int):Option Int:=if c=34∨c=92∨c=47 then some c else if c=98 then some 8 else if c=102 then some 12 else if c=110 then some 10 else if c=114 then some 13 else if c=116 then some 9 else none
def Lt:List Int->PR Int
 |[]=>(none,[])
 |c::r=>if c=117 then Mf r else match R4 c with
  |some x=>(some x,r)
  |none=>(none,c::r)
def Jb:Nat->List Int->List Int->PR (List Int)
  |0,_,l=>(none,l)
  |_+1,_,[]=>(none,[])
  |n+1,out,c::r=>if c<32 then (none,c::r) else if c=34 then (some out,r) else if c=92 then
      (match Lt r with
       |(some x,r')=>Jb n (out++Lib.encodeRuneZ x) r'
       |(none,r')=>(none,r'))
    else Jb n (out++[c]) r
def Er:List Int->PR (List Int)
 |[]=>(none,[])
 |c::r=>if c=34 then Jb (r.length+1) [] r else (none,c::r)
def FH (l:List Int):Option (List Int × List Int):=match Er l with|(some s,r)=>some (s,r)|_=>none
def UF (c:Int):Bool:=decide (48<=c)&&decide (c<=57)
def Ip:List Int->List Int
 |[]=>[]
 |c::r=>if UF c=true then Ip r else c::r
def Cd:List Int->Option (List Int)
 |[]=>none
 |c::r=>if UF c=true then some (Ip r) else none
def Abe (c:Int):List Int->List Int
 |[]=>[]
 |d::r=>if d=c then r else d::r
def Re:List Int->Option (List Int)
 |[]=>some []
 |c::r=>if c=101∨c=69 then (match r with
   |43::r'=>Cd r'
   |r=>Cd (Abe 45 r)) else some (c::r)
def Yg:List Int->Option (List Int)
 |[]=>some []
 |c::r=>if c=46 then (Cd r).bind Re else Re (c::r)
def Afi:List Int->Option (List Int)
 |[]=>none
 |c::r=>if c=48 then some r else Cd (c::r)
def E9 (l:List Int):Option (List Int):=(Afi (Abe 45 l)).bind Yg
abbrev JV:=Int × List Int × Bool
abbrev JR (α:Type):=Except Int α
def HY (V:List Int->JR (JV × List Int)):Nat->List Int->JR (List Int)
 |0,_=>.error 2
 |n+1,l=>match V l with
  |.error e=>.error e
  |.ok (_,r)=>match Bd r with
   |93::r'=>.ok r'
   |44::r'=>HY V n (Bd r')
   |_=>.error 2
def XG (V:List Int->JR (JV × List Int)) (l:List Int):JR (List Int):=
 match Bd l with
 |93::r=>.ok r
 |l'=>HY V (l'.length+1) l'
def Ah4 (V:List Int->JR (JV × List Int)) (dup:List Int->Bool)(l:List Int):JR ((List Int × JV) × List Int):=
 match FH l with
 |none=>.error 2
 |some (nm,r)=>if dup nm=true then .error 10 else
  match Bd r with
  |58::r'=>(match V (Bd r') with
   |.error e=>.error e
   |.ok (v,r'')=>.ok ((nm,v),r''))
  |_=>.error 2
def Qk (V:List Int->JR (JV × List Int)) (kp:Bool):Nat->List (List Int × JV)->List Int->JR (List (List Int × JV) × List Int)
 |0,_,_=>.error 2
 |n+1,ms,l=>match Ah4 V (fun nm=>kp&&ms.any fun m=>m.1==nm) l with
  |.error e=>.error e
  |.ok (m,r)=>match Bd r with
   |125::r'=>.ok (ms++[m],r')
   |44::r'=>Qk V kp n (ms++[m]) (Bd r')
   |_=>.error 2
def Ss (V:List Int->JR (JV × List Int)) (kp:Bool)(l:List Int):JR (List (List Int × JV) × List Int):=
 match Bd l with
 |125::r=>.ok ([],r)
 |l'=>Qk V kp (l'.length+1) [] l'
def Ap (w l:List Int):Option (List Int):=if w.isPrefixOf l=true then some (l.drop w.length) else none
def Fg:Nat->List Int->JR (JV × List Int)
 |k,l=>match l with
  |123::r=>(match k with
   |0=>.error 5
   |k+1=>(match Ss (Fg k) false r with
    |.error e=>.error e
    |.ok (_,r')=>.ok ((6,[],false),r')))
  |91::r=>(match k with
   |0=>.error 5
   |k+1=>(match XG (Fg k) r with
    |.error e=>.error e
    |.ok r'=>.ok ((5,[],false),r')))
  |34::r=>(match FH (34::r) with
   |none=>.error 2
   |some (s,r')=>.ok ((4,s,false),r'))
  |l=>match Ap [116,114,117,101] l with
   |some r=>.ok ((2,[],true),r)
   |none=>match Ap [102,97,108,115,101] l with
    |some r=>.ok ((2,[],false),r)
    |none=>match Ap [110,117,108,108] l with
     |some r=>.ok ((1,[],false),r)
     |none=>match E9 l with
      |some r=>.ok ((3,[],false),r)
      |none=>.error 2
def PX (k:Nat)(l:List Int):JR (List (List Int × JV)):=
 match Bd l with
 |123::r=>(match Ss (Fg k) true r with
  |.error e=>.error e
  |.ok (ms,r')=>if Bd r'=[] then .ok ms else .error 2)
 |_=>.error 2
end
section
open Go.IntKind (wrap)
def LT:List PV->Option (List Int)
 |[]=>some []
 |.sc (.int .u8 n)::r=>bif decide (0<=n)&&decide (n<=255) then (LT r).map (n :: ·) else none
 |_=>none
def Aka (args:List PV):Option Ay:=
 match args with
 |[.lst _ 1 n c]=>bif Nat.beq c.length n&&Nat.ble n 100000000 then (match LT c with|some l=>some ⟨[.sc (.string (Ac (Wp l)))],[]⟩|none=>none) else none
 |_=>none
def Aba (args:List PV):Option Ay:=
  match args with
  |[.pbox [.sc (.string t),.sc (.int .i64 p)]]=>bif decide (0<=p)&&decide (p<=t.size)&&Nat.ble t.size 1000000 then
      (match Er ((D2 t).drop p.toNat) with
       |(some s,r)=>some ⟨[.sc (.string (Ac s)),.sc (.bool true)],[[.sc (.string t),.sc (.int .i64 (t.size-r.length:Int))]]⟩
       |(none,r)=>some ⟨[.sc (.string ⟨#[]⟩),.sc (.bool false)],[[.sc (.string t),.sc (.int .i64 (t.size-r.length:Int))]]⟩) else none
  |_=>none
def Ams (args:List PV):Option Ay:=
 match args with
 |[.sc (.string s),.sc (.int .u8 c)]=>some ⟨[.sc (.int .i64 (Lib.indexByte s.data.toList c.toNat.toUInt8))],[]⟩
 |_=>none
def Ak5 (args:List PV):Option Ay:=
 match args with
 |[.sc (.string s),.sc (.string p)]=>bif Nat.beq p.size 1 then some ⟨[.sc (.int .i64 (Lib.countByte s.data.toList p[0]!))],[]⟩ else none
 |_=>none
def KX (args:List PV):Option Ay:=
 match args with
 |[.sc (.string s),.sc (.string p)]=>bif Nat.ble p.size 1000&&p.data.toList.all (fun b=>decide (b.toNat<128))&&decide (s.size<=1000000000) then some ⟨[.sc (.string ⟨(Lib.trimS s.data.toList p.data.toList).toArray⟩)],[]⟩ else none
 |_=>none
def Aab (f:FuncId):Option (List PV->Option Ay):=
 bif Nat.beq f 33 then some PE else
 bif Nat.beq f 40 then some Ams else
 bif Nat.beq f 99 then some Ak5 else
 bif Nat.beq f 66 then some KX else
 bif Nat.beq f 12 then some Aka else
 bif Nat.beq f 68 then some Aba else
 bif Nat.beq f 1000000 then some (fun _=>none) else none
def PY (p:Option (List PV->Option Ay)) (f:FuncId):Option (List PV->Option Ay):=bif Nat.beq f 19 then p else Aab f
abbrev CP (p:Option (List PV->Option Ay)):Fu:=CX (PY p)
abbrev C0:Fu:=CP none
abbrev xs0:=PY none
end
section
open Go.IntKind (wrap)
open Go.RowKit
def AJ (p:PV)(u:Value):Prop:=p=.sc u∨∃vs:List Value,p=.agg (vs.map .sc)∧u=.agg ⟨vs⟩
theorem Px {w:World}{A:Nat->Prop}{own:Bt}:∀{vs us:List Value}{j:Nat},D6 w A own j (vs.map .sc) us->us=vs
 |[],[],_,_=>rfl
 |[],_::_,_,h=>h.elim
 |_::_,[],_,h=>h.elim
 |v::vs,u::us,j,h=>by
  have h1:Ar w A (.sc v) u:=h.1;rw[h1.val,Px h.2]
theorem Qc {w:World}{A:Nat->Prop}{own:Bt}:∀{vs:List Value}{j:Nat},D6 w A own j (vs.map .sc) vs
 |[],_=>trivial
 |v::vs,j=>⟨show Ar w A (.sc v) v from .sc v,Qc⟩
theorem Yy {w:World}{A:Nat->Prop}{own:Bt}{z:Nat}:∀{vals:List PV}{us us':List Value}{j:Nat},Bb AJ vals us->DV w A own z j vals us'->us'=us
 |[],[],[],_,_,_=>rfl
 |[],[],_::_,_,_,h=>h.elim
 |[],_::_,_,_,h,_=>h.elim
 |_::_,[],_,_,h,_=>h.elim
 |_::_,_::_,[],_,_,h=>h.elim
 |p::ps,u::us,u'::us',j,hs,h=>by
  rw[Yy hs.2 h.2]
  congr 1
  rcases hs.1 with rfl|⟨vs,rfl,rfl⟩
  ·exact Ar.val (show Ar w A (.sc u) u' from h.1)
  ·obtain⟨vs',rfl,h2⟩:=h.1;rw[Px h2]
structure D9 (w w':World) (b o n:Nat):Prop where
 os:w'.os=w.os
 tape:w'.tape=w.tape
 output:w'.output=w.output
 size:w.heap.size<=w'.heap.size
 grow:F1 w w' b
 other:∀k,k<w.heap.size->k≠b->w'.heap[k]?=w.heap[k]?
 cells:∀j,(j<o∨o+n<=j)->w'.cell? ⟨b,j,none⟩=w.cell? ⟨b,j,none⟩
 frz:∀j,(j<o∨o+n<=j)->w'.frozen? ⟨b,j,none⟩=w.frozen? ⟨b,j,none⟩
def YX (b o:Nat):Ud:=fun i j=>match i,j with|0,0=>some (b,o)|_,_=>none
theorem ZI {b o k:Nat}(h:UR (YX b o) k):k=b:=by
 obtain⟨i,j,o',h⟩:=h;unfold YX at h;split at h
 ·cases h;rfl
 ·cases h
theorem S7 {w:World}{A:Nat->Prop}{bt:Ud}:∀{i:Nat}{ps:List PV}{us:List Value},Bb AJ ps us->Il w A bt i ps us
 |_,[],[],_=>trivial
 |_,[],_::_,h=>h.elim
 |_,_::_,[],h=>h.elim
 |i,p::ps,u::us,h=>by
  refine⟨?_,S7 h.2⟩;rcases h.1 with rfl|⟨vs,rfl,rfl⟩
  ·exact⟨.inl trivial,show Ar w A (.sc u) u from .sc u⟩
  ·refine⟨vs,rfl,fun p hp=>?_,Qc⟩
   obtain⟨v,_,rfl⟩:=List.mem_map.1 hp;exact .inl trivial
theorem ES {G:Rx}{P:Program}{f:FuncId}{vs vs':List Value}{args vals:List PV}{us rs:List Value}(hs:Cw G P f (.pbox (vs.map .sc)::args) ⟨vals,[vs'.map .sc]⟩) (ha:Bb AJ args us)(hr:Bb AJ vals rs)
  {w:World} {b o:Nat} (hG:G.ok w) (hGl:∀k,G.bl k->k<w.heap.size∧k≠b) (hb:b<w.heap.size) (hc:∀j v,vs[j]?=some v->w.cell? ⟨b,o+j,none⟩=some v) (hf:∀j,j<vs.length->w.frozen? ⟨b,o+j,none⟩=false):
  Calls P f (.pointer (some ⟨b,o,none⟩)::us).toArray w fun e w'=>e=.returned (Gn rs)∧vs'.length=vs.length∧(∀j v,vs'[j]?=some v->w'.cell? ⟨b,o+j,none⟩=some v)∧(∀j,j<vs.length->w'.frozen? ⟨b,o+j,none⟩=false)∧D9 w w' b o vs.length:=by
 have hi:Ins w (fun _=>False) (YX b o) (.pbox (vs.map .sc)::args) (.pointer (some ⟨b,o,none⟩)::us):=by
  refine⟨fun _ h=>h.elim,fun _ h=>h.elim,fun k h=>by rw[ZI h];exact hb,fun i j i' j' k x x' h h'=>?_,fun i q h=>?_,?_,S7 ha⟩
  ·unfold YX at h h';split at h
   ·split at h'
    ·exact⟨rfl,rfl⟩
    ·cases h'
   ·cases h
  ·unfold YX at h;split at h
   ·exact⟨_,rfl,rfl⟩
   ·cases h
  ·refine⟨b,o,rfl,rfl,fun p hp=>?_,vs,Qc,hc,fun k hk=>hf k (by simpa using hk)⟩
   obtain⟨v,_,rfl⟩:=List.mem_map.1 hp;exact .inl trivial
 have Dc:∀i,∀q,(YX b o) i 0=some q->i=0∧q=(b,o):=by
  intro i q h;unfold YX at h;split at h
  ·cases h;exact⟨rfl,rfl⟩
  ·cases h
 refine (hs.2 w _ _ _ hi hG (fun k hk=>⟨(hGl k hk).1,fun hx=>(hGl k hk).2 (ZI hx)⟩)).mono ?_
 rintro e w' ⟨ws,own,rfl,out⟩
 have hv:=Yy hr out.vals;subst hv;have ho:=out.outs;obtain⟨⟨b',o',h1,h2,zs,h3,h4,h5⟩,_⟩:=(show (∃b' o',(YX b o) 0 0=some (b',o')∧(vs'.map PV.sc).length=(vs.map PV.sc).length∧Aag w' (Zr (YX b o) own (fun _=>False)) own (I6 vals) b' o' (vs'.map .sc))∧_ from ho)
 cases h1;have hz:=Px h3;subst hz;simp only[List.length_map] at h2 h5
 have hL:∀k j,k<w.heap.size->(k≠b∨j<o∨o+vs.length<=j)->¬Yr (YX b o) (.pbox (vs.map .sc)::args) k j:=by
  rintro k j hk Ec ⟨i,p,hp,hq⟩
  rcases hq with⟨x,y,hq,_⟩|⟨y,ps,hq,hy,J5⟩
  ·unfold YX at hq;split at hq
   ·rename_i h;cases h
   ·cases hq
  ·obtain⟨rfl,h⟩:=Dc i _ hq;cases h;have:p=.pbox (vs.map .sc):=by simpa using hp.symm
   subst this;rcases J5 with⟨e,B4⟩|e
   ·injection e with e;subst e;rw[List.length_map] at B4;rcases Ec with h|h|h
    ·exact h rfl
    ·omega
    ·omega
   ·cases e
 refine⟨rfl,h2,h4,fun j hj=>h5 j (by omega),out.os,out.tape,out.output,out.ext.size,out.ext.bs b hb,fun k hk Ec=>out.ext.keep k hk fun hx=>Ec (ZI hx),fun j hj=>(out.rng b j hb (hL b j hb (.inr hj))).1,fun j hj=>(out.rng b j hb (hL b j hb (.inr hj))).2⟩
end
section
open Go.IntKind (wrap)
open Go.RowKit
theorem Mn {w w':World}{Y:Nat->Prop}{bt:Ud}{args:List PV}{v:Value}(hb:Below w.heap.size w w')(ho:Q1 w' (Zr bt (fun _=>none) Y) (fun _=>none) bt (I6 [.sc v]) 0 args []):
  Out w w' Y bt args (fun _=>none) ⟨[.sc v],[]⟩ [v] where
 os:=hb.os
 tape:=hb.tape
 output:=hb.output
 ext:=⟨hb.size,fun b h _=>hb.block b h,fun b h=>F1.same (hb.block b h)⟩
 rng:=fun b j h _=>⟨by unfold World.cell?;simp only[hb.block b h],by unfold World.frozen?;simp only[hb.block b h]⟩
 vals:=⟨Ar.sc v,trivial⟩
 outs:=ho
 fresh:=fun j b o h=>by cases h
 inj:=fun j j' b o o' h=>by cases h
end
section
open Go.Proofs.Tryd (prog)
open Go.IntKind (wrap)
set_option maxRecDepth 1000000
open Go.RowKit
theorem VN (G:Rx)(args:List PV)(res:Ay)(h:Ams args=some res):Cw G prog 40 args res:=by
 refine⟨⟨_,Tryd.func40,by kernel_rfl⟩,fun w Y bt us hi _ _=>?_⟩
 unfold Ams at h;split at h
 rotate_left
 ·cases h
 rename_i s c;cases h;have ps:=hi.args
 match us,ps with
 |[u1,u2],ps=>
  obtain⟨⟨_,p1⟩,⟨_,p2⟩,_⟩:=ps;have e1:u1=.string s:=Ar.val (show Ar w _ (.sc (.string s)) u1 from p1)
  have e2:u2=.int .u8 c:=Ar.val (show Ar w _ (.sc (.int .u8 c)) u2 from p2)
  subst e1 e2
  have walk:Calls prog 40 #[.string s,.int .u8 c] w fun e w'=>e=.returned (.int .i64 (Lib.indexByte s.data.toList c.toNat.toUInt8))∧w'=w:=by
   go_enter Tryd.func40,Tryd.ntmps40
   go_wp2
   rw[run_callFunc_extern Tryd.func55 (by kernel_rfl) (by kernel_rfl) (by kernel_rfl) (e:=Extern.BytealgIndexByte.indexByte) (by kernel_rfl),Lib.run_indexByteString]
   simp only[Result.andThen];rw[Oper.upon_value]
   go_wp2
   go_ret
   exact⟨rfl,rfl⟩
  refine walk.mono ?_
  rintro e w' ⟨rfl,rfl⟩
  exact⟨[.int .i64 (Lib.indexByte s.data.toList c.toNat.toUInt8)],fun _=>none,rfl,Mn (Below.refl _ _) rfl⟩
 |[],ps=>exact ps.elim
 |[_],ps=>exact ps.2.elim
 |_::_::_::_,ps=>exact ps.2.2.elim
theorem Acm {p:ByteArray}(h:p.size=1):p=⟨#[p[0]!]⟩:=by
 obtain⟨⟨l⟩⟩:=p
 match l,h with
 |[x],_=>rfl
theorem WW (G:Rx)(args:List PV)(res:Ay)(h:Ak5 args=some res):Cw G prog 99 args res:=by
 refine⟨⟨_,Tryd.func99,by kernel_rfl⟩,fun w Y bt us hi _ _=>?_⟩
 unfold Ak5 at h;split at h
 rotate_left
 ·cases h
 rename_i s p;cases hq:Nat.beq p.size 1
 ·rw[hq] at h;cases h
 rw[hq,cond_true] at h;cases h;have hp:=Acm (Nat.eq_of_beq_eq_true hq);generalize (p[0]!)=c at hp ⊢;subst hp;have ps:=hi.args
 match us,ps with
 |[u1,u2],ps=>
  obtain⟨⟨_,p1⟩,⟨_,p2⟩,_⟩:=ps;have e1:u1=.string s:=Ar.val (show Ar w _ (.sc (.string s)) u1 from p1)
  have e2:u2=.string ⟨#[c]⟩:=Ar.val (show Ar w _ (.sc (.string ⟨#[c]⟩)) u2 from p2)
  subst e1 e2
  have walk:Calls prog 99 #[.string s,.string ⟨#[c]⟩] w fun e w'=>e=.returned (.int .i64 (Lib.countByte s.data.toList c))∧w'=w:=by
   go_enter Tryd.func99,Tryd.ntmps99
   go_wp2
   rw[run_callFunc_extern Tryd.func110 (by kernel_rfl) (by kernel_rfl) (by kernel_rfl) (e:=Extern.BytealgCount.count) (by kernel_rfl),Lib.run_countString]
   simp only[Result.andThen];rw[Oper.upon_value]
   go_wp2
   go_ret
   exact⟨rfl,rfl⟩
  refine walk.mono ?_
  rintro e w' ⟨rfl,rfl⟩
  exact⟨[.int .i64 (Lib.countByte s.data.toList c)],fun _=>none,rfl,Mn (Below.refl _ _) rfl⟩
 |[],ps=>exact ps.elim
 |[_],ps=>exact ps.2.elim
 |_::_::_::_,ps=>exact ps.2.2.elim
end
section
open Go.IntKind (wrap)
set_option maxRecDepth 100000
theorem Akj (a b:Nat)(ha:a<4294967296)(hb:b<4294967296):bits .or .u32 ((a:Nat):Int) ((b:Nat):Int)=((a ||| b:Nat):Int):=by
 have hx:a ||| b<2 ^ 32:=Nat.or_lt_two_pow (by omega) (by omega)
 have h1:(BitVec.ofInt 32 (a:Int)).toNat=a:=by
  rw[BitVec.ofInt_natCast,BitVec.toNat_ofNat];exact Nat.mod_eq_of_lt (by omega)
 have h2:(BitVec.ofInt 32 (b:Int)).toNat=b:=by
  rw[BitVec.ofInt_natCast,BitVec.toNat_ofNat];exact Nat.mod_eq_of_lt (by omega)
 show IntKind.u32.wrap ((BitVec.ofInt 32 (a:Int) ||| BitVec.ofInt 32 (b:Int)).toNat:Int)=_;rw[BitVec.toNat_or,h1,h2];simp only[wrap,IntKind.bits,IntKind.signed,Zzs,Bool.false_eq_true,if_false];omega
theorem Ass (a b:Nat)(ha:a<4294967296)(hb:b<4294967296):bits .and .u32 ((a:Nat):Int) ((b:Nat):Int)=((a &&& b:Nat):Int):=by
 have hx:a &&& b<2 ^ 32:=Nat.and_lt_two_pow _ (by omega)
 have h1:(BitVec.ofInt 32 (a:Int)).toNat=a:=by
  rw[BitVec.ofInt_natCast,BitVec.toNat_ofNat];exact Nat.mod_eq_of_lt (by omega)
 have h2:(BitVec.ofInt 32 (b:Int)).toNat=b:=by
  rw[BitVec.ofInt_natCast,BitVec.toNat_ofNat];exact Nat.mod_eq_of_lt (by omega)
 show IntKind.u32.wrap ((BitVec.ofInt 32 (a:Int) &&& BitVec.ofInt 32 (b:Int)).toNat:Int)=_;rw[BitVec.toNat_and,h1,h2];simp only[wrap,IntKind.bits,IntKind.signed,Zzs,Bool.false_eq_true,if_false];omega
def Sp (a b c:Int):List Int:=[Hi (a / 4),Hi (a % 4*16+b / 16),Hi (b % 16*4+c / 64),Hi (c % 64)]
abbrev Ahq (a b c:Int):Int:=bits .or .u32 (bits .or .u32 (a % 4294967296*65536 % 4294967296) (b % 4294967296*256 % 4294967296)) (c % 4294967296)
theorem Abq {a b c:Int}(h:Do [a,b,c]):Ahq a b c=a*65536+b*256+c:=by
 obtain⟨ha,h⟩:=C5 h;obtain⟨hb,h⟩:=C5 h;obtain⟨hc,h⟩:=C5 h;obtain⟨a,rfl⟩:=Int.eq_ofNat_of_zero_le ha.1;obtain⟨b,rfl⟩:=Int.eq_ofNat_of_zero_le hb.1;obtain⟨c,rfl⟩:=Int.eq_ofNat_of_zero_le hc.1;have e1:(a:Int) % 4294967296*65536 % 4294967296=((a*65536:Nat):Int):=by omega
 have e2:(b:Int) % 4294967296*256 % 4294967296=((b*256:Nat):Int):=by omega
 have e3:(c:Int) % 4294967296=(c:Int):=by omega
 show bits .or .u32 (bits .or .u32 _ _) _=_;rw[e1,e2,e3,Akj _ _ (by omega) (by omega)]
 have h1:a*65536 ||| b*256=a*65536+b*256:=by
  have:=Nat.shiftLeft_add_eq_or_of_lt (show b*256<2 ^ 16 by omega) a
  rw[Nat.shiftLeft_eq,show (2:Nat) ^ 16=65536 from rfl] at this
  exact this.symm
 rw[h1,Akj _ _ (by omega) (by omega)]
 have h2:a*65536+b*256 ||| c=a*65536+b*256+c:=by
  have:=Nat.shiftLeft_add_eq_or_of_lt (show c<2 ^ 8 by omega) (a*256+b)
  rw[Nat.shiftLeft_eq] at this;have e:(a*256+b)*2 ^ 8=a*65536+b*256:=by omega
  rw[e] at this;exact this.symm
 rw[h2];omega
theorem A22 {a b c:Int}(h:Do [a,b,c]) (j:Nat)(hj:j<4):∃q,0<=q∧q<64∧bits .and .u32 (Ahq a b c / 2 ^ (18-6*j)) 63=q∧(Sp a b c)[j]?=some (Hi q):=by
 rw[Abq h];obtain⟨ha,h⟩:=C5 h;obtain⟨hb,h⟩:=C5 h;obtain⟨hc,h⟩:=C5 h
 have key:∀x:Int,0<=x->x<4294967296->bits .and .u32 x 63=x % 64:=by
  intro x h0 h1;obtain⟨n,rfl⟩:=Int.eq_ofNat_of_zero_le h0;have:=Ass n 63 (by omega) (by omega)
  rw[show ((63:Nat):Int)=63 from rfl] at this
  show bits BinOp.and IntKind.u32 (n:Int) 63=(n:Int) % 64;rw[this,show (63:Nat)=2 ^ 6-1 by decide,Nat.and_two_pow_sub_one_eq_mod n 6]
  omega
 match j,hj with
 |0,_=>
  refine⟨_,?_,?_,key _ ?_ ?_,?_⟩
  ·show 0<=(a*65536+b*256+c) / 262144 % 64;omega
  ·show (a*65536+b*256+c) / 262144 % 64<64;omega
  ·show 0<=(a*65536+b*256+c) / 262144;omega
  ·show (a*65536+b*256+c) / 262144<_;omega
  ·show some (Hi _)=some (Hi ((a*65536+b*256+c) / 262144 % 64))
   congr 2;omega
 |1,_=>
  refine⟨_,?_,?_,key _ ?_ ?_,?_⟩
  ·show 0<=(a*65536+b*256+c) / 4096 % 64;omega
  ·show (a*65536+b*256+c) / 4096 % 64<64;omega
  ·show 0<=(a*65536+b*256+c) / 4096;omega
  ·show (a*65536+b*256+c) / 4096<_;omega
  ·show some (Hi _)=some (Hi ((a*65536+b*256+c) / 4096 % 64))
   congr 2;omega
 |2,_=>
  refine⟨_,?_,?_,key _ ?_ ?_,?_⟩
  ·show 0<=(a*65536+b*256+c) / 64 % 64;omega
  ·show (a*65536+b*256+c) / 64 % 64<64;omega
  ·show 0<=(a*65536+b*256+c) / 64;omega
  ·show (a*65536+b*256+c) / 64<_;omega
  ·show some (Hi _)=some (Hi ((a*65536+b*256+c) / 64 % 64))
   congr 2;omega
 |3,_=>
  refine⟨_,?_,?_,key _ ?_ ?_,?_⟩
  ·show 0<=(a*65536+b*256+c) / 1 % 64;omega
  ·show (a*65536+b*256+c) / 1 % 64<64;omega
  ·show 0<=(a*65536+b*256+c) / 1;omega
  ·show (a*65536+b*256+c) / 1<_;omega
  ·show some (Hi _)=some (Hi ((a*65536+b*256+c) / 1 % 64))
   congr 2;omega
def CN:ByteArray:=⟨#[65,66,67,68,69,70,71,72,73,74,75,76,77,78,79,80,81,82,83,84,85,86,87,88,89,90,97,98,99,100,101,102,103,104,105,106,107,108,109,110,111,112,113,114,115,116,117,118,119,120,121,122,48,49,50,51,52,53,54,55,56,57,45,95]⟩
theorem XD:CN.size=64:=rfl
theorem ZR:∀n:Fin 64,((CN[n.val]'n.isLt).toNat:Int)=Hi (n.val:Int):=by decide +kernel
theorem Afh {q:Int}(h0:0<=q)(h1:q<64)(h:q.toNat<CN.size):((CN[q.toNat]'(h)).toNat:Int)=Hi q:=by
 have:=ZR ⟨q.toNat,h⟩;refine this.trans (congrArg Hi ?_);show (q.toNat:Int)=q;omega
theorem Arw {q:Int}(h0:0<=q)(h1:q<64):0<=Hi q∧Hi q<=255:=by
 unfold Hi;split
 ·omega
 split
 ·omega
 split
 ·omega
 split<;>omega
theorem Ah8 {a b c:Int}(h:Do [a,b,c]):Do (Sp a b c):=by
 obtain⟨ha,h⟩:=C5 h;obtain⟨hb,h⟩:=C5 h;obtain⟨hc,h⟩:=C5 h;intro x hx;simp[Sp] at hx;rcases hx with rfl|rfl|rfl|rfl<;>apply Arw<;>omega
theorem Kd {a b:List Int}(ha:Do a)(hb:Do b):Do (a++b):=by
 intro x hx;rcases List.mem_append.1 hx with h|h
 ·exact ha x h
 ·exact hb x h
theorem Aaj {a:List Int}(ha:Do a)(k:Nat):Do (a.take k):=fun x hx=>ha x (List.mem_of_mem_take hx)
theorem ZM {a:List Int}(ha:Do a)(k:Nat):Do (a.drop k):=fun x hx=>ha x (List.mem_of_mem_drop hx)
theorem WE:∀(l:List Int),Do l->l≠[]->∃a b c,Do [a,b,c]∧Wp l=(Sp a b c).take (min l.length 3+1)++Wp (l.drop (min l.length 3))∧[a,b,c].take (min l.length 3)=l.take (min l.length 3)∧(l.length<3->c=0)∧(l.length<2->b=0)
 |[],_,h=>absurd rfl h
 |[a],h,_=>by
  have:=C5 h;refine⟨a,0,0,?_,?_,rfl,fun _=>rfl,fun _=>rfl⟩
  ·intro x hx;simp at hx;rcases hx with rfl|rfl<;>omega
  ·simp[Wp,Sp]
 |[a,b],h,_=>by
  have h1:=C5 h;have h2:=C5 h1.2;refine⟨a,b,0,?_,?_,rfl,fun _=>rfl,fun h=>?_⟩
  ·intro x hx;simp at hx;rcases hx with rfl|rfl|rfl<;>omega
  ·simp[Wp,Sp]
  ·simp at h
 |a::b::c::r,h,_=>by
  have e:min (a::b::c::r).length 3=3:=by simp
  rw[e];refine⟨a,b,c,?_,?_,rfl,fun h=>?_,fun h=>?_⟩
  ·intro x hx;refine h x ?_;simp at hx ⊢;rcases hx with rfl|rfl|rfl<;>simp
  ·simp[Wp,Sp]
  ·simp at h;omega
  ·simp at h;omega
end
section
open Go.Proofs.Tryd (prog)
open Go.IntKind (wrap)
set_option maxRecDepth 1000000
open Go.Shelf Go.RowKit Go.Lib
def LX:Go.Shelf.Ren:=⟨fun|119=>117|120=>113|137=>27|151=>103|152=>112|160=>66|167=>24|168=>89|169=>25|197=>102|217=>40|224=>96|225=>95|227=>82|228=>101|231=>80|232=>81|233=>83|234=>84|235=>85|236=>86|240=>38|242=>106|260=>111|266=>55|271=>104|276=>54|278=>116|n=>n,fun|0=>0|3=>3|4=>4|5=>5|9=>9|20=>20|21=>21|37=>22|46=>56|51=>55|70=>51|72=>53|75=>58|80=>60|105=>139|116=>124|117=>125|119=>86|124=>128|127=>73|138=>88|139=>89|164=>97|n=>n,fun|3=>0|4=>1|n=>n⟩
theorem Yo:Lays.n167 prog LX:={
 mixed:=by kernel_rfl
 f167:=Tryd.func24.trans (congrArg some (by kernel_rfl))
 f240:=Tryd.func38.trans (congrArg some (by kernel_rfl))
 f276:=Tryd.func54.trans (congrArg some (by kernel_rfl))
 t0:=Tryd.underlying0
 a0:=Tryd.isAgg0
 z0:=Tryd.sizeOf0
 v0:=Tryd.zeroValue0
 t4:=Tryd.underlying4
 a4:=Tryd.isAgg4
 z4:=Tryd.sizeOf4
 v4:=Tryd.zeroValue4
 t5:=Tryd.underlying5
 a5:=Tryd.isAgg5
 z5:=Tryd.sizeOf5
 v5:=Tryd.zeroValue5
 t9:=Tryd.underlying9
 a9:=Tryd.isAgg9
 z9:=Tryd.sizeOf9
 v9:=Tryd.zeroValue9
 t20:=Tryd.underlying20
 a20:=Tryd.isAgg20
 z20:=Tryd.sizeOf20
 v20:=Tryd.zeroValue20
 t37:=Tryd.underlying22
 a37:=Tryd.isAgg22
 z37:=Tryd.sizeOf22
 v37:=Tryd.zeroValue22
 t70:=Tryd.underlying51
 a70:=Tryd.isAgg51
 z70:=Tryd.sizeOf51
 v70:=Tryd.zeroValue51
 t72:=Tryd.underlying53
 a72:=Tryd.isAgg53
 z72:=Tryd.sizeOf53
 v72:=Tryd.zeroValue53
 t75:=Tryd.underlying58
 a75:=Tryd.isAgg58
 z75:=Tryd.sizeOf58
 v75:=Tryd.zeroValue58
 t164:=Tryd.underlying97
 a164:=Tryd.isAgg97
 z164:=Tryd.sizeOf97
 v164:=Tryd.zeroValue97 }
theorem RH:Lays.n168 prog LX:={
 mixed:=by kernel_rfl
 f168:=Tryd.func89.trans (congrArg some (by kernel_rfl))
 f240:=Tryd.func38.trans (congrArg some (by kernel_rfl))
 f242:=Tryd.func106.trans (congrArg some (by kernel_rfl))
 f276:=Tryd.func54.trans (congrArg some (by kernel_rfl))
 f278:=Tryd.func116.trans (congrArg some (by kernel_rfl))
 t0:=Tryd.underlying0
 a0:=Tryd.isAgg0
 z0:=Tryd.sizeOf0
 v0:=Tryd.zeroValue0
 t3:=Tryd.underlying3
 a3:=Tryd.isAgg3
 z3:=Tryd.sizeOf3
 v3:=Tryd.zeroValue3
 t4:=Tryd.underlying4
 a4:=Tryd.isAgg4
 z4:=Tryd.sizeOf4
 v4:=Tryd.zeroValue4
 t5:=Tryd.underlying5
 a5:=Tryd.isAgg5
 z5:=Tryd.sizeOf5
 v5:=Tryd.zeroValue5
 t9:=Tryd.underlying9
 a9:=Tryd.isAgg9
 z9:=Tryd.sizeOf9
 v9:=Tryd.zeroValue9
 t20:=Tryd.underlying20
 a20:=Tryd.isAgg20
 z20:=Tryd.sizeOf20
 v20:=Tryd.zeroValue20
 t21:=Tryd.underlying21
 a21:=Tryd.isAgg21
 z21:=Tryd.sizeOf21
 v21:=Tryd.zeroValue21
 t37:=Tryd.underlying22
 a37:=Tryd.isAgg22
 z37:=Tryd.sizeOf22
 v37:=Tryd.zeroValue22
 t46:=Tryd.underlying56
 a46:=Tryd.isAgg56
 z46:=Tryd.sizeOf56
 v46:=Tryd.zeroValue56
 t51:=Tryd.underlying55
 a51:=Tryd.isAgg55
 z51:=Tryd.sizeOf55
 v51:=Tryd.zeroValue55
 t70:=Tryd.underlying51
 a70:=Tryd.isAgg51
 z70:=Tryd.sizeOf51
 v70:=Tryd.zeroValue51
 t72:=Tryd.underlying53
 a72:=Tryd.isAgg53
 z72:=Tryd.sizeOf53
 v72:=Tryd.zeroValue53
 t75:=Tryd.underlying58
 a75:=Tryd.isAgg58
 z75:=Tryd.sizeOf58
 v75:=Tryd.zeroValue58
 t164:=Tryd.underlying97
 a164:=Tryd.isAgg97
 z164:=Tryd.sizeOf97
 v164:=Tryd.zeroValue97 }
theorem Zx:Lays.n169 prog LX:={
 mixed:=by kernel_rfl
 f169:=Tryd.func25.trans (congrArg some (by kernel_rfl))
 t0:=Tryd.underlying0
 a0:=Tryd.isAgg0
 z0:=Tryd.sizeOf0
 v0:=Tryd.zeroValue0
 t3:=Tryd.underlying3
 a3:=Tryd.isAgg3
 z3:=Tryd.sizeOf3
 v3:=Tryd.zeroValue3
 t9:=Tryd.underlying9
 a9:=Tryd.isAgg9
 z9:=Tryd.sizeOf9
 v9:=Tryd.zeroValue9
 t37:=Tryd.underlying22
 a37:=Tryd.isAgg22
 z37:=Tryd.sizeOf22
 v37:=Tryd.zeroValue22
 t70:=Tryd.underlying51
 a70:=Tryd.isAgg51
 z70:=Tryd.sizeOf51
 v70:=Tryd.zeroValue51
 t72:=Tryd.underlying53
 a72:=Tryd.isAgg53
 z72:=Tryd.sizeOf53
 v72:=Tryd.zeroValue53
 t127:=Tryd.underlying73
 a127:=Tryd.isAgg73
 z127:=Tryd.sizeOf73
 v127:=Tryd.zeroValue73 }
theorem PK:Lays.n160 prog LX:={
 mixed:=by kernel_rfl
 f119:=Tryd.func117.trans (congrArg some (by kernel_rfl))
 f120:=Tryd.func113.trans (congrArg some (by kernel_rfl))
 f137:=Tryd.func27.trans (congrArg some (by kernel_rfl))
 f151:=Tryd.func103.trans (congrArg some (by kernel_rfl))
 f152:=Tryd.func112.trans (congrArg some (by kernel_rfl))
 f160:=Tryd.func66.trans (congrArg some (by kernel_rfl))
 f197:=Tryd.func102.trans (congrArg some (by kernel_rfl))
 f217:=Tryd.func40.trans (congrArg some (by kernel_rfl))
 f224:=Tryd.func96.trans (congrArg some (by kernel_rfl))
 f225:=Tryd.func95.trans (congrArg some (by kernel_rfl))
 f227:=Tryd.func82.trans (congrArg some (by kernel_rfl))
 f228:=Tryd.func101.trans (congrArg some (by kernel_rfl))
 f231:=Tryd.func80.trans (congrArg some (by kernel_rfl))
 f232:=Tryd.func81.trans (congrArg some (by kernel_rfl))
 f233:=Tryd.func83.trans (congrArg some (by kernel_rfl))
 f234:=Tryd.func84.trans (congrArg some (by kernel_rfl))
 f235:=Tryd.func85.trans (congrArg some (by kernel_rfl))
 f236:=Tryd.func86.trans (congrArg some (by kernel_rfl))
 f260:=Tryd.func111.trans (congrArg some (by kernel_rfl))
 f266:=Tryd.func55.trans (congrArg some (by kernel_rfl))
 f271:=Tryd.func104.trans (congrArg some (by kernel_rfl))
 t0:=Tryd.underlying0
 a0:=Tryd.isAgg0
 z0:=Tryd.sizeOf0
 v0:=Tryd.zeroValue0
 t3:=Tryd.underlying3
 a3:=Tryd.isAgg3
 z3:=Tryd.sizeOf3
 v3:=Tryd.zeroValue3
 t4:=Tryd.underlying4
 a4:=Tryd.isAgg4
 z4:=Tryd.sizeOf4
 v4:=Tryd.zeroValue4
 t5:=Tryd.underlying5
 a5:=Tryd.isAgg5
 z5:=Tryd.sizeOf5
 v5:=Tryd.zeroValue5
 t9:=Tryd.underlying9
 a9:=Tryd.isAgg9
 z9:=Tryd.sizeOf9
 v9:=Tryd.zeroValue9
 t21:=Tryd.underlying21
 a21:=Tryd.isAgg21
 z21:=Tryd.sizeOf21
 v21:=Tryd.zeroValue21
 t46:=Tryd.underlying56
 a46:=Tryd.isAgg56
 z46:=Tryd.sizeOf56
 v46:=Tryd.zeroValue56
 t105:=Tryd.underlying139
 a105:=Tryd.isAgg139
 z105:=Tryd.sizeOf139
 v105:=Tryd.zeroValue139
 t116:=Tryd.underlying124
 a116:=Tryd.isAgg124
 z116:=Tryd.sizeOf124
 t117:=Tryd.underlying125
 a117:=Tryd.isAgg125
 z117:=Tryd.sizeOf125
 v117:=Tryd.zeroValue125
 t119:=Tryd.underlying86
 a119:=Tryd.isAgg86
 z119:=Tryd.sizeOf86
 t124:=Tryd.underlying128
 a124:=Tryd.isAgg128
 z124:=Tryd.sizeOf128
 v124:=Tryd.zeroValue128
 t138:=Tryd.underlying88
 a138:=Tryd.isAgg88
 z138:=Tryd.sizeOf88
 v138:=Tryd.zeroValue88
 t139:=Tryd.underlying89
 a139:=Tryd.isAgg89
 z139:=Tryd.sizeOf89
 v139:=Tryd.zeroValue89
 g3:=by kernel_rfl
 g4:=by kernel_rfl }
theorem Qh:Builder.Extra prog LX:={
 sizeBuilder:=by kernel_rfl
 liesBuilder:=by kernel_rfl
 t5:=Tryd.underlying5
 a5:=Tryd.isAgg5
 z5:=Tryd.sizeOf5
 v5:=Tryd.zeroValue5
 infoByte:=by kernel_rfl
 cellsByte:=by kernel_rfl
 sizeByte:=by kernel_rfl
 neB5:=by decide }
end
section
open Go.IntKind (wrap)
open Go.RowKit Go.Lib
section
variable {P:Program}
theorem WC (w:World)(dT sT ty elem:TypeId)(i:TypeInfo)(b o dLen dCap:Nat)(a:Addr)(sLen sCap k:Nat)(cs:List Value)
  (hu:P.underlying dT=some (.slice elem)) (hq:P.info? elem=some i)(hk:k=Nat.min sLen dLen)(hn:cs.length=k*i.size)
  (Sj:∀j v,cs[j]?=some v->w.cell? (a.add j)=some v) (hc:∀j,j<cs.length->(w.cell? ⟨b,o+j,none⟩).isSome=true) (hf:∀j,j<cs.length->w.frozen? ⟨b,o+j,none⟩=false)(h1:∀v∈cs,v.oneCell'=true):
  (Builtin.copy_ #[dT,sT] ty #[.slice (some ⟨b,o,none⟩) dLen dCap,.slice (some a) sLen sCap]).run P w=.ok (goInt k) (w.setCells b o cs):=by
 have hl:=run_loadCells_list (P:=P) w a cs Sj;have E8:=run_storeCells_cells (P:=P) b o cs 0 w (by simpa using hc) (by simpa using hf) h1
 simp[Builtin.copy_,run_underlying hu,Builtin.lenOf,Builtin.firstCells,sizeOf,typeInfo,hq,←hk,←hn,hl,E8]
end
end
section
open Go.Proofs.Tryd (prog)
open Go.IntKind (wrap)
set_option maxRecDepth 1000000
open Go.RowKit Go.Lib
abbrev KJ (l:List Int):List Value:=l.map (Value.int .u8)
theorem IH (a b:List Int):KJ (a++b)=KJ a++KJ b:=List.map_append
theorem Afr (x:Int):KJ [x]=[Value.int .u8 x]:=rfl
theorem U6:∀{l:List Int},Do l->KJ l=Lib.byteCells (l.map fun n=>n.toNat.toUInt8)
 |[],_=>rfl
 |x::l,h=>by
  obtain⟨hx,h⟩:=C5 h;show Value.int .u8 x::KJ l=Value.int .u8 ((x.toNat.toUInt8).toNat:Int)::Lib.byteCells (l.map fun n=>n.toNat.toUInt8)
  rw[U6 h]
  congr 2
  have:(x.toNat.toUInt8).toNat=x.toNat:=by
   show x.toNat % 256=x.toNat;omega
  rw[this];omega
def QN (w:World)(l:List Int)(v:Value):Prop:=∃ad cap,v=.slice ad l.length cap∧l.length<=cap∧(l≠[]->∃b o,ad=some ⟨b,o,none⟩∧b<w.heap.size∧∀j x,l[j]?=some x->w.cell? ⟨b,o+j,none⟩=some (.int .u8 x))
theorem CC {T e:TypeId}{B b:Nat}{bs:List Value}{W W':World}(h:Lib.IsBuilderF T e B b bs W)(hb:Below W.heap.size W W'):Lib.IsBuilderF T e B b bs W':=by
 rcases h with h|h
 ·have B4:=h.lt;obtain⟨hB,v,hv,Fa,Ec⟩:=h;exact .inl ⟨hB,v,(hb.block b B4).trans hv,Fa.kept (row:=none) ⟨hb.os,hb.tape,hb.output,hb.size,fun k hk _=>hb.block k hk⟩ (Classical.em _),Ec⟩
 ·have B4:=h.lt;obtain⟨hB,v,hv,Fa,Ec⟩:=h;exact .inr ⟨hB,v,(hb.block b B4).trans hv,Fa.kept (row:=none) ⟨hb.os,hb.tape,hb.output,hb.size,fun k hk _=>hb.block k hk⟩ (Classical.em _),Ec⟩
theorem Kc {B:Nat}{a:World}(b:Nat)(hb:B<=b):∀(vs:List Value)(o:Nat){w:World},Below B a w->Below B a (w.setCells b o vs)
 |[],_,_,h=>h
 |v::r,o,w,h=>Kc b hb r (o+1) (h.setCell (p:=⟨b,o,none⟩) hb v)
theorem QQ (wr:World)(b o cap:Nat)(l:List Int)(Ec:l≠[]) (hb:b<wr.heap.size)(hc:∀j x,l[j]?=some x->wr.cell? ⟨b,o+j,none⟩=some (.int .u8 x)) (a' b' c':Int)(k:Nat)(hk:k=min l.length 3)(ht:[a',b',c'].take k=l.take k) (h3:l.length<3->c'=0)(h2:l.length<2->b'=0):
  ∃W2,(∀ty,(Builtin.copy_ #[22,22] ty #[.slice (some ⟨wr.heap.size,0,none⟩) 3 3,.slice (some ⟨b,o,none⟩) l.length cap]).run prog (wr.alloc (.cells #[.int .u8 0,.int .u8 0,.int .u8 0] 54))=.ok (goInt k) W2)∧Below wr.heap.size wr W2∧wr.heap.size<W2.heap.size ∧
   W2.cell? ⟨wr.heap.size,0,none⟩=some (.int .u8 a')∧W2.cell? ⟨wr.heap.size,1,none⟩=some (.int .u8 b')∧W2.cell? ⟨wr.heap.size,2,none⟩=some (.int .u8 c'):=by
 obtain⟨i0,hi0,Fx,OD⟩:=info_parts Qh.infoByte;have Dc:(l.take k).length=k:=by simp;omega
 have VJ:∀k,k<3->(wr.alloc (.cells #[.int .u8 0,.int .u8 0,.int .u8 0] 54)).cell? ⟨wr.heap.size,k,none⟩=some (.int .u8 0):=by
  intro k hk;simp only[World.cell?,World.alloc];simp
  match k,hk with
  |0,_=>rfl
  |1,_=>rfl
  |2,_=>rfl
 refine⟨(wr.alloc (.cells #[.int .u8 0,.int .u8 0,.int .u8 0] 54)).setCells wr.heap.size 0 (KJ (l.take k)),fun ty=>?_,?_,?_,?_⟩
 ·refine WC _ _ _ ty 5 i0 wr.heap.size 0 3 3 ⟨b,o,none⟩ l.length cap k (KJ (l.take k)) ?_ hi0 ?_ ?_ ?_ ?_ ?_ ?_
  ·exact Tryd.underlying22
  ·exact hk
  ·rw[OD.1];simp;omega
  ·intro j v hv
   have e0:(⟨b,o,none⟩:Addr).add j=⟨b,o+j,none⟩:=by
    unfold Addr.add;split
    ·subst j;rfl
    ·rfl
   rw[e0];rw[List.getElem?_map] at hv;obtain⟨x,hx,rfl⟩:=Option.map_eq_some_iff.1 hv
   have Ok:l[j]?=some x:=by
    rw[List.getElem?_take] at hx;split at hx
    ·exact hx
    ·cases hx
   exact Lib.cell?_alloc_some _ (hc j x Ok)
  ·intro j hj;rw[List.length_map,Dc] at hj;rw[VJ _ (by omega)]
   rfl
  ·intro j hj;exact World.frozen?_alloc_new wr _ _ _
  ·intro v hv;obtain⟨x,_,rfl⟩:=List.mem_map.1 hv;rfl
 ·exact Kc _ (Nat.le_refl _) _ _ ((Below.refl _ wr).alloc (Nat.le_refl _) _)
 ·have:=(Kc (B:=0) wr.heap.size (Nat.zero_le _) (KJ (l.take k)) 0 (Below.refl 0 (wr.alloc (.cells #[.int .u8 0,.int .u8 0,.int .u8 0] 54)))).size;have e:(wr.alloc (.cells #[.int .u8 0,.int .u8 0,.int .u8 0] 54)).heap.size=wr.heap.size+1:=Array.size_push _;rw[e] at this;omega
 ·have D8:k=1∨k=2∨k=3:=by
   have:=List.length_pos_iff.2 Ec;omega
  have Y1:∀i,i<k->∀x,[a',b',c'][i]?=some x->((wr.alloc (.cells #[.int .u8 0,.int .u8 0,.int .u8 0] 54)).setCells wr.heap.size 0 (KJ (l.take k))).cell? ⟨wr.heap.size,i,none⟩=some (.int .u8 x):=by
   intro i hi x hx
   have h:=World.cell?_setCells_in wr.heap.size (KJ (l.take k)) 0 (wr.alloc (.cells #[.int .u8 0,.int .u8 0,.int .u8 0] 54)) (fun j hj=>by
    rw[List.length_map,Dc] at hj;rw[VJ _ (by omega)]
    rfl) i (by rw[List.length_map,Dc];exact hi)
   rw[Zzd] at h;rw[h]
   have e:(KJ (l.take k))[i]?=some (.int .u8 x):=by
    rw[←ht,List.getElem?_map,List.getElem?_take_of_lt hi,hx];rfl
   rw[List.getElem?_eq_getElem (by rw[List.length_map,Dc];exact hi)] at e
   exact e
  have Rf:∀i,k<=i->i<3->((wr.alloc (.cells #[.int .u8 0,.int .u8 0,.int .u8 0] 54)).setCells wr.heap.size 0 (KJ (l.take k))).cell? ⟨wr.heap.size,i,none⟩=some (.int .u8 0):=by
   intro i hi h3;rw[World.cell?_setCells_out _ _ _ _ _ (fun _ _=>Or.inr (by rw[List.length_map,Dc];show 0+k<=i;omega))]
   exact VJ i h3
  refine⟨Y1 0 (by omega) _ rfl,?_,?_⟩
  ·by_cases h:1<k
   ·exact Y1 1 h _ rfl
   ·rw[h2 (by omega)];exact Rf 1 (by omega) (by omega)
  ·by_cases h:2<k
   ·exact Y1 2 h _ rfl
   ·rw[h3 (by omega)];exact Rf 2 (by omega) (by omega)
set_option maxHeartbeats 4000000 in
theorem TV (l:List Int)(hb:Do l)(hl:l.length<=100000000)(u:Value)(w:World)(hu:QN w l u):
  Calls prog 12 #[u] w fun e w'=>e=.returned (.string (Ac (Wp l)))∧Below w.heap.size w w':=by
 have mixed:prog.follows Departure.mixedOrders=true:=by kernel_rfl
 go_enter Tryd.func12,Tryd.ntmps12
 go_wp2
 go_loopw [0] (fun v0 wr=>∃done rest,Wp l=done++Wp rest∧Do done∧Do rest∧rest.length<=l.length∧done.length+2*rest.length<=2*l.length∧QN w rest v0∧Lib.IsBuilderF 53 5 w.heap.size w.heap.size (KJ done) wr∧Below w.heap.size w wr) (fun v0 _=>match v0 with | .slice _ n _=>n|_=>0)
 case atStart=>
  exact⟨[],l,rfl,(fun x hx=>by cases hx),hb,Nat.le_refl _,by simp,hu,Lib.IsBuilderF.of (Lib.fresh_isBuilder 53 5 w),(Below.refl _ w).alloc (Nat.le_refl _) _⟩
 case round=>
  obtain⟨done,rest,he,hd,hr,hrl,hdl,⟨ad,cap,rfl,Ru,Cm⟩,hI,hbw⟩:=hrel;have K1:w.heap.size<=wr.heap.size:=hbw.size;by_cases hz:rest=[]
  ·subst hz
   go_wp2_with (go_at_call 25;refine (Any.Builder_String_any_k Zx Qh w.heap.size w.heap.size (done.map fun n=>n.toNat.toUInt8) _ (by rw[←U6 hd];exact hI) (by omega)).mono ?_)
   rintro e W1 ⟨rfl,_,b1,_⟩
   go_wp2
   go_ret
   refine⟨?_,hbw.trans b1⟩;rw[he];simp[Wp,Ac]
  ·obtain⟨b,o,rfl,CS,Cm⟩:=Cm hz;have VE:(0:Int)<rest.length:=by have:=List.length_pos_iff.2 hz;omega
   obtain⟨a',b',c',hB3,hen,htk,VJ,BU⟩:=WE rest hr hz;obtain⟨k,hk⟩:∃k,k=min rest.length 3:=⟨_,rfl⟩;rw[←hk] at hen htk;have Dn:(0:Int)<=k∧(k:Int)<=3∧(k:Int)<=rest.length:=by omega
   obtain⟨W2,hcp,hbc,hgs,g0,g1,g2⟩:=QQ wr b o cap rest hz (by omega) (fun j x hx=>by rw[hbw.cell (p:=⟨b,o+j,none⟩) CS];exact Cm j x hx) a' b' c' k hk htk VJ BU
   have hkl:k<=rest.length:=by omega
   have hkp:1<=k:=by have:=List.length_pos_iff.2 hz;omega
   clear hk
   go_wp2
   all_goals
    go_loopw [32] (fun v32 W=>∃j:Nat,v32=.int .i64 j∧j<=k+1∧Lib.IsBuilderF 53 5 w.heap.size w.heap.size (KJ (done++(Sp a' b' c').take j)) W∧Below w.heap.size w W) (fun v32 _=>match v32 with | .int _ n=>(4-n).toNat|_=>0)
    case atStart=>
     exact⟨0,rfl,by omega,by simpa using CC hI hbc,hbw.trans (hbc.mono K1)⟩
    case round=>
     obtain⟨j,rfl,hj,hIj,hbj⟩:=hrel;by_cases hjk:j<k+1
     ·have hj1:(j:Int)<k+1:=by omega
      obtain⟨q,Qq,Qw,hq,hqq⟩:=A22 hB3 j (by omega)
      have ha:=Afh Qq Qw (by rw[XD];omega)
      have Aui:(done++(Sp a' b' c').take j).length+1<=140737488355328:=by
       have:=List.length_take_le j (Sp a' b' c');rw[List.length_append];omega
      have Azb:=hbj.size
      go_wp2_with (go_at_call 24;refine (Any.Builder_WriteByte_k Yo Qh w.heap.size w.heap.size _ _ _ hIj (by rw[List.length_map];exact Aui) Azb).mono ?_)
      rintro e W1 ⟨rfl,h1,b1,k1⟩
      go_wp2
      go_roundw
      case rel=>
       refine⟨j+1,by simp,by omega,?_,hbj.trans b1⟩
       have e1:(Sp a' b' c').take (j+1)=(Sp a' b' c').take j++[Hi q]:=by
        rw[List.take_add_one,hqq];rfl
       rw[e1,←List.append_assoc,IH,Afr,←ha];exact Or.inr h1
      case measure=>
       simp;omega
     ·have hj1:¬((j:Int)<k+1):=by omega
      have A2g:j=k+1:=by omega
      subst A2g
      go_wp2
      refine⟨⟨done++(Sp a' b' c').take (k+1),rest.drop k,?_,Kd hd (Aaj (Ah8 hB3) _),ZM hr _,?_,?_,?_,hIj,hbj⟩,?_⟩
      ·rw[List.append_assoc,←hen];exact he
      ·simp;omega
      ·have:=List.length_take_le (k+1) (Sp a' b' c');rw[List.length_append,List.length_drop];omega
      ·refine⟨_,_,by rw[List.length_drop],?_,fun Ec=>?_⟩
       ·rw[List.length_drop];omega
       have:k<rest.length:=by
        rcases Nat.lt_or_ge k rest.length with h|h
        ·exact h
        ·exact absurd (List.drop_eq_nil_iff.2 h) Ec
       first
        |(exfalso;omega)
        |(refine⟨b,o+k,rfl,CS,fun i x hx=>?_⟩;rw[List.getElem?_drop] at hx;rw[Nat.add_assoc];exact Cm _ _ hx)
      ·simp;omega
end
section
open Go.Proofs.Tryd (prog)
open Go.IntKind (wrap)
set_option maxRecDepth 1000000
open Go.RowKit
theorem EM:∀{c:List PV}{l:List Int},LT c=some l->c=Dw .u8 l∧Do l
 |[],l,h=>by
  cases h;exact⟨rfl,fun x hx=>by cases hx⟩
 |p::c,l,h=>by
  unfold LT at h;split at h
  ·rename_i e;cases e
  ·rename_i n r e;cases e;cases hb:(decide (0<=n)&&decide (n<=255))
   ·rw[hb] at h;cases h
   ·rw[hb,cond_true] at h;simp only[Bool.and_eq_true,decide_eq_true_eq] at hb;cases hr:LT c with
    |none=>rw[hr] at h;cases h
    |some l'=>
     rw[hr] at h;cases h;obtain⟨rfl,h2⟩:=EM hr;refine⟨rfl,fun x hx=>?_⟩
     rcases List.mem_cons.1 hx with rfl|hx
     ·exact hb
     ·exact h2 x hx
  ·cases h
theorem Ml (k:IntKind):∀l:List Int,Dw k l=l.map fun n=>.sc (.int k n)
 |[]=>rfl
 |x::l=>by
  show PV.sc (.int k x)::Dw k l=_;rw[Ml k l];rfl
theorem UT {w:World}{A:Nat->Prop}{bt:Bt}{z:Bool}{l:List Int}{u:Value}(h:NP w A bt (.lst z 1 l.length (Dw .u8 l)) u):QN w l u:=by
 have ht:Ar w A (.lst z 1 l.length (Dw .u8 l)) u:=h.2;generalize hc:Dw .u8 l=c at ht;generalize hn:l.length=n at ht;cases ht with
 |lnil=>exact⟨none,0,by rw[hn],by omega,fun Ec=>absurd (List.eq_nil_of_length_eq_zero hn) Ec⟩
 |lemp _ a cap=>exact⟨some a,cap,by rw[hn],by omega,fun Ec=>absurd (List.eq_nil_of_length_eq_zero hn) Ec⟩
 |lst _ _ _ a cap f hs hb hA hn' Cm h1 hr=>
  obtain⟨b,o,s⟩:=a;cases hs;refine⟨some ⟨b,o,none⟩,cap,by rw[hn],by omega,fun _=>⟨b,o,rfl,hb,fun j x hx=>?_⟩⟩
  have e:c[j]?=some (.sc (.int .u8 x)):=by rw[←hc,Ml,List.getElem?_map,hx];rfl
  have h2:=Cm j _ e;rw[(hr j _ e).val] at h2
  have e0:(⟨b,o,none⟩:Addr).add j=⟨b,o+j,none⟩:=by
   unfold Addr.add;split
   ·subst j;rfl
   ·rfl
  rw[e0] at h2;exact h2
theorem VS (G:Rx)(args:List PV)(res:Ay)(h:Aka args=some res):Cw G prog 12 args res:=by
 refine⟨⟨_,Tryd.func12,by kernel_rfl⟩,fun w Y bt us hi _ _=>?_⟩
 unfold Aka at h;split at h
 rotate_left
 ·cases h
 rename_i z n c;cases hq:(Nat.beq c.length n&&Nat.ble n 100000000)
 ·rw[hq] at h;cases h
 rw[hq,cond_true] at h;simp only[Bool.and_eq_true] at hq;have hn:=Nat.eq_of_beq_eq_true hq.1;have hm:=Nat.le_of_ble_eq_true hq.2;split at h
 rotate_left
 ·cases h
 rename_i l hl;cases h;obtain⟨rfl,hB⟩:=EM hl
 have Dc:l.length=n:=by
  rw[←hn,Ml,List.length_map]
 subst Dc;have ps:=hi.args
 match us,ps with
 |[u1],ps=>
  refine (TV l hB hm u1 w (UT ps.1)).mono ?_
  rintro e w' ⟨rfl,hb⟩
  exact⟨[.string (Ac (Wp l))],fun _=>none,rfl,Mn hb rfl⟩
 |[],ps=>exact ps.elim
 |_::_::_,ps=>exact ps.2.elim
end
section
open Go.Proofs.Tryd (prog)
open Go.IntKind (wrap)
set_option maxRecDepth 100000
abbrev E2:FuncId:=77
theorem My {xs:FuncId->Option (List PV->Option Ay)} (fu d:Nat)(a0 a1:ByteArray):Ae (CX xs) prog fu (d+1) E2 [.sc (.string a0),.sc (.string a1)]=(fun (call:Ax)=>Bh (decide ((↑(ByteArray.size a0):Int)>=(↑(ByteArray.size a1):Int))) (Bi (decide (Int.toNat (↑(ByteArray.size a1):Int)<=ByteArray.size a0))<|Ab (ByteArray.extract a0 0 (Int.toNat (↑(ByteArray.size a1):Int))) fun x1=>some (Ay.mk [.sc (.bool (Array.toList (ByteArray.data x1)==Array.toList (ByteArray.data a1)))] [])) (some (Ay.mk [.sc (.bool false)] []))) (Ae (CX xs) prog fu d):=by kernel_rfl
abbrev Jf:FuncId:=87
theorem Q0 {xs:FuncId->Option (List PV->Option Ay)} (fu d:Nat)(a0 a1:ByteArray):Ae (CX xs) prog fu (d+1) Jf [.sc (.string a0),.sc (.string a1)]=(fun (call:Ax)=>Ah (call 77 [.sc (.string a0),.sc (.string a1)]) fun x1 x2=>Ad x2<|Aa x1 fun x3 x4=>Aq x3 fun x5=>Ad x4<|some (Ay.mk [.sc (.bool x5)] [])) (Ae (CX xs) prog fu d):=by kernel_rfl
abbrev Gv:FuncId:=90
theorem Lu {xs:FuncId->Option (List PV->Option Ay)} (fu d:Nat)(Br:ByteArray)(Bl:Int):Ae (CX xs) prog fu (d+1) Gv [.pbox [.sc (.string Br),.sc (.int .i64 Bl)]]=(fun (call:Ax)=>Bh (decide (Bl<(↑(ByteArray.size Br):Int))) (Bi (decide (0<=Bl))<|Dk ((Array.toList (ByteArray.data Br))[Int.toNat Bl]?) fun x1=>some (Ay.mk [.sc (.int .u8 (↑(UInt8.toNat x1):Int))] [[.sc (.string Br),.sc (.int .i64 Bl)]])) (some (Ay.mk [.sc (.int .u8 0)] [[.sc (.string Br),.sc (.int .i64 Bl)]]))) (Ae (CX xs) prog fu d):=by kernel_rfl
abbrev F4:FuncId:=67
theorem Kp {xs:FuncId->Option (List PV->Option Ay)} (fu d:Nat)(Br:ByteArray)(Bl:Int)(a1:ByteArray):Ae (CX xs) prog fu (d+1) F4 [.pbox [.sc (.string Br),.sc (.int .i64 Bl)],.sc (.string a1)]=(fun (call:Ax)=>Bi (decide (0<=Bl))<|Bi (decide (Int.toNat Bl<=ByteArray.size Br)&&decide (ByteArray.size Br<=ByteArray.size Br))<|Ab (ByteArray.extract Br Bl.toNat (ByteArray.size Br)) fun x1=>Ah (call 87 [.sc (.string x1),.sc (.string a1)]) fun x2 x3=>Ad x3<|Aa x2 fun x4 x5=>Aq x4 fun x6=>Ad x5<|Bh (!x6) (some (Ay.mk [.sc (.bool false)] [[.sc (.string Br),.sc (.int .i64 Bl)]])) (Ab (wrap .i64 (Bl+(↑(ByteArray.size a1):Int))) fun x7=>some (Ay.mk [.sc (.bool true)] [[.sc (.string Br),.sc (.int .i64 x7)]]))) (Ae (CX xs) prog fu d):=by kernel_rfl
abbrev Kq:FuncId:=115
theorem Rw {xs:FuncId->Option (List PV->Option Ay)} (fu d:Nat)(a0:Int):Ae (CX xs) prog fu (d+1) Kq [.sc (.int .i32 a0)]=(fun (call:Ax)=>Bh (decide (a0>=56320)) (some (Ay.mk [.sc (.bool (decide (a0<=57343)))] [])) (some (Ay.mk [.sc (.bool false)] []))) (Ae (CX xs) prog fu d):=by kernel_rfl
abbrev Fv:FuncId:=114
noncomputable def Ba (fu:Nat)(call:Ax)(Br:ByteArray)(Bl:Int)(nn:Nat)(y0 y1:Int)(y2:ByteArray)(y3:Int):Option Ay:=Iy CB prog fu call 114 Tryd.f114 (F5 Tryd.f114) [.pbox [.sc (.string Br),.sc (.int .i64 Bl)]] [.r,.r,.l,.r,.l] nn ⟨lk [(0,(.ptr 120000 0)),(4,(.sc (.int .i32 y0))),(6,(.sc (.int .i64 y1)))],Jl [(120000,(.st [(.sc (.string y2)),(.sc (.int .i64 y3))]))]⟩
theorem E1 (fu:Nat)(call:Ax)(Br:ByteArray)(Bl:Int)(nn:Nat)(y0 y1:Int)(y2:ByteArray)(y3:Int):Ba fu call Br Bl (nn+1) y0 y1 y2 y3=(Bh (decide (y1<4)) (Ah (call 90 [.pbox [.sc (.string y2),.sc (.int .i64 y3)]]) fun x1 x2=>Aa x1 fun x3 x4=>Ak .u8 x3 fun x5=>Ad x4<|Aa x2 fun x6 x7=>Aa x6 fun x8 x9=>Az x8 fun Ft=>Aa x9 fun Lr L4=>Ak .i64 Lr fun Fc=>Ad L4<|Ad x7<|Bh (decide (x5>=48)) (Bh (decide (x5<=57)) (Ab (G1 .i32 y0 4) fun Jh=>Ab (wrap .u8 (x5-48)) fun M4=>Ab (wrap .i32 M4) fun K2=>Ab (wrap .i32 (Jh+K2)) fun I7=>Ab (wrap .i64 (Fc+1)) fun Lq=>Ab (wrap .i64 (y1+1)) fun L5=>Ba fu call Br Bl (nn) I7 L5 Ft Lq) (Bh (decide (x5>=97)) (Bh (decide (x5<=102)) (Ab (G1 .i32 y0 4) fun Mj=>Ab (wrap .u8 (x5-97)) fun Mm=>Ab (wrap .i32 Mm) fun N2=>Ab (wrap .i32 (Mj+N2)) fun K8=>Ab (wrap .i32 (K8+10)) fun M9=>Ab (wrap .i64 (Fc+1)) fun Lx=>Ab (wrap .i64 (y1+1)) fun L3=>Ba fu call Br Bl (nn) M9 L3 Ft Lx) (Bh (decide (x5>=65)) (Bh (decide (x5<=70)) (Ab (G1 .i32 y0 4) fun Mc=>Ab (wrap .u8 (x5-65)) fun Oc=>Ab (wrap .i32 Oc) fun Md=>Ab (wrap .i32 (Mc+Md)) fun N9=>Ab (wrap .i32 (N9+10)) fun Ol=>Ab (wrap .i64 (Fc+1)) fun Og=>Ab (wrap .i64 (y1+1)) fun Np=>Ba fu call Br Bl (nn) Ol Np Ft Og) (some (Ay.mk [.sc (.int .i32 0),.sc (.bool false)] [[.sc (.string Ft),.sc (.int .i64 Fc)]]))) (some (Ay.mk [.sc (.int .i32 0),.sc (.bool false)] [[.sc (.string Ft),.sc (.int .i64 Fc)]])))) (Bh (decide (x5>=65)) (Bh (decide (x5<=70)) (Ab (G1 .i32 y0 4) fun Oj=>Ab (wrap .u8 (x5-65)) fun O8=>Ab (wrap .i32 O8) fun Rd=>Ab (wrap .i32 (Oj+Rd)) fun Se=>Ab (wrap .i32 (Se+10)) fun Tu=>Ab (wrap .i64 (Fc+1)) fun Pr=>Ab (wrap .i64 (y1+1)) fun BD=>Ba fu call Br Bl (nn) Tu BD Ft Pr) (some (Ay.mk [.sc (.int .i32 0),.sc (.bool false)] [[.sc (.string Ft),.sc (.int .i64 Fc)]]))) (some (Ay.mk [.sc (.int .i32 0),.sc (.bool false)] [[.sc (.string Ft),.sc (.int .i64 Fc)]]))))) (Bh (decide (x5>=97)) (Bh (decide (x5<=102)) (Ab (G1 .i32 y0 4) fun BA=>Ab (wrap .u8 (x5-97)) fun Qn=>Ab (wrap .i32 Qn) fun P4=>Ab (wrap .i32 (BA+P4)) fun X3=>Ab (wrap .i32 (X3+10)) fun Xh=>Ab (wrap .i64 (Fc+1)) fun BL=>Ab (wrap .i64 (y1+1)) fun AV=>Ba fu call Br Bl (nn) Xh AV Ft BL) (Bh (decide (x5>=65)) (Bh (decide (x5<=70)) (Ab (G1 .i32 y0 4) fun BS=>Ab (wrap .u8 (x5-65)) fun Yh=>Ab (wrap .i32 Yh) fun Xj=>Ab (wrap .i32 (BS+Xj)) fun BC=>Ab (wrap .i32 (BC+10)) fun AR=>Ab (wrap .i64 (Fc+1)) fun CE=>Ab (wrap .i64 (y1+1)) fun Yw=>Ba fu call Br Bl (nn) AR Yw Ft CE) (some (Ay.mk [.sc (.int .i32 0),.sc (.bool false)] [[.sc (.string Ft),.sc (.int .i64 Fc)]]))) (some (Ay.mk [.sc (.int .i32 0),.sc (.bool false)] [[.sc (.string Ft),.sc (.int .i64 Fc)]])))) (Bh (decide (x5>=65)) (Bh (decide (x5<=70)) (Ab (G1 .i32 y0 4) fun HB=>Ab (wrap .u8 (x5-65)) fun HR=>Ab (wrap .i32 HR) fun EX=>Ab (wrap .i32 (HB+EX)) fun EJ=>Ab (wrap .i32 (EJ+10)) fun HF=>Ab (wrap .i64 (Fc+1)) fun GN=>Ab (wrap .i64 (y1+1)) fun HL=>Ba fu call Br Bl (nn) HF HL Ft GN) (some (Ay.mk [.sc (.int .i32 0),.sc (.bool false)] [[.sc (.string Ft),.sc (.int .i64 Fc)]]))) (some (Ay.mk [.sc (.int .i32 0),.sc (.bool false)] [[.sc (.string Ft),.sc (.int .i64 Fc)]]))))) (some (Ay.mk [.sc (.int .i32 y0),.sc (.bool true)] [[.sc (.string y2),.sc (.int .i64 y3)]]))):=by kernel_rfl
theorem Jt {xs:FuncId->Option (List PV->Option Ay)} (fu d:Nat)(Br:ByteArray)(Bl:Int):Ae (CX xs) prog fu (d+1) Fv [.pbox [.sc (.string Br),.sc (.int .i64 Bl)]]=(fun (call:Ax)=>Ba fu call Br Bl (fu) 0 0 (Br) (Bl)) (Ae (CX xs) prog fu d):=by kernel_rfl
abbrev Fk:FuncId:=105
theorem Jc {xs:FuncId->Option (List PV->Option Ay)} (fu d:Nat)(Br:ByteArray)(Bl:Int):Ae (CX xs) prog fu (d+1) Fk [.pbox [.sc (.string Br),.sc (.int .i64 Bl)]]=(fun (call:Ax)=>Ah (call 114 [.pbox [.sc (.string Br),.sc (.int .i64 Bl)]]) fun x1 x2=>Aa x1 fun x3 x4=>Ak .i32 x3 fun x5=>Aa x4 fun x6 x7=>Aq x6 fun x8=>Ad x7<|Aa x2 fun x9 Ft=>Aa x9 fun Lr L4=>Az Lr fun Fc=>Aa L4 fun Jh M4=>Ak .i64 Jh fun K2=>Ad M4<|Ad Ft<|Bh (!x8) (some (Ay.mk [.sc (.int .i32 0),.sc (.bool false)] [[.sc (.string Fc),.sc (.int .i64 K2)]])) (Ah (call 115 [.sc (.int .i32 x5)]) fun I7 Lq=>Ad Lq<|Aa I7 fun L5 Mj=>Aq L5 fun Mm=>Ad Mj<|Bh Mm (some (Ay.mk [.sc (.int .i32 0),.sc (.bool false)] [[.sc (.string Fc),.sc (.int .i64 K2)]])) (Bh (decide (x5<55296)) (some (Ay.mk [.sc (.int .i32 x5),.sc (.bool true)] [[.sc (.string Fc),.sc (.int .i64 K2)]])) (Bh (decide (x5>56319)) (some (Ay.mk [.sc (.int .i32 x5),.sc (.bool true)] [[.sc (.string Fc),.sc (.int .i64 K2)]])) (Ah (call 67 [.pbox [.sc (.string Fc),.sc (.int .i64 K2)],.sc (.string (ByteArray.mk #[92,117]))]) fun N2 K8=>Aa N2 fun M9 Lx=>Aq M9 fun L3=>Ad Lx<|Aa K8 fun Mc Oc=>Aa Mc fun Md N9=>Az Md fun Ol=>Aa N9 fun Og Np=>Ak .i64 Og fun Oj=>Ad Np<|Ad Oc<|Bh (!L3) (some (Ay.mk [.sc (.int .i32 0),.sc (.bool false)] [[.sc (.string Ol),.sc (.int .i64 Oj)]])) (Ah (call 114 [.pbox [.sc (.string Ol),.sc (.int .i64 Oj)]]) fun O8 Rd=>Aa O8 fun Se Tu=>Ak .i32 Se fun Pr=>Aa Tu fun BD BA=>Aq BD fun Qn=>Ad BA<|Aa Rd fun P4 X3=>Aa P4 fun Xh BL=>Az Xh fun AV=>Aa BL fun BS Yh=>Ak .i64 BS fun Xj=>Ad Yh<|Ad X3<|Bh (!Qn) (some (Ay.mk [.sc (.int .i32 0),.sc (.bool false)] [[.sc (.string AV),.sc (.int .i64 Xj)]])) (Ah (call 115 [.sc (.int .i32 Pr)]) fun BC AR=>Ad AR<|Aa BC fun CE Yw=>Aq CE fun HB=>Ad Yw<|Bh (!HB) (some (Ay.mk [.sc (.int .i32 0),.sc (.bool false)] [[.sc (.string AV),.sc (.int .i64 Xj)]])) (Ab (wrap .i32 (x5-55296)) fun HR=>Ab (G1 .i32 HR 10) fun EX=>Ab (wrap .i32 (65536+EX)) fun EJ=>Ab (wrap .i32 (Pr-56320)) fun HF=>Ab (wrap .i32 (EJ+HF)) fun GN=>some (Ay.mk [.sc (.int .i32 GN),.sc (.bool true)] [[.sc (.string AV),.sc (.int .i64 Xj)]]))))))))) (Ae (CX xs) prog fu d):=by kernel_rfl
abbrev E5:FuncId:=88
theorem Id {xs:FuncId->Option (List PV->Option Ay)} (fu d:Nat)(Br:ByteArray)(Bl:Int):Ae (CX xs) prog fu (d+1) E5 [.pbox [.sc (.string Br),.sc (.int .i64 Bl)]]=(fun (call:Ax)=>Ah (call 67 [.pbox [.sc (.string Br),.sc (.int .i64 Bl)],.sc (.string (ByteArray.mk #[117]))]) fun x1 x2=>Aa x1 fun x3 x4=>Aq x3 fun x5=>Ad x4<|Aa x2 fun x6 x7=>Aa x6 fun x8 x9=>Az x8 fun Ft=>Aa x9 fun Lr L4=>Ak .i64 Lr fun Fc=>Ad L4<|Ad x7<|Bh x5 (Ah (call 105 [.pbox [.sc (.string Ft),.sc (.int .i64 Fc)]]) fun Jh M4=>Aa Jh fun K2 I7=>Ak .i32 K2 fun Lq=>Aa I7 fun L5 Mj=>Aq L5 fun Mm=>Ad Mj<|Aa M4 fun N2 K8=>Aa N2 fun M9 Lx=>Az M9 fun L3=>Aa Lx fun Mc Oc=>Ak .i64 Mc fun Md=>Ad Oc<|Ad K8<|some (Ay.mk [.sc (.int .i32 Lq),.sc (.bool Mm)] [[.sc (.string L3),.sc (.int .i64 Md)]])) (Ah (call 90 [.pbox [.sc (.string Ft),.sc (.int .i64 Fc)]]) fun N9 Ol=>Aa N9 fun Og Np=>Ak .u8 Og fun Oj=>Ad Np<|Aa Ol fun O8 Rd=>Aa O8 fun Se Tu=>Az Se fun Pr=>Aa Tu fun BD BA=>Ak .i64 BD fun Qn=>Ad BA<|Ad Rd<|Ab (wrap .i32 Oj) fun P4=>Bh (P4==34) (Ab (wrap .i64 (Qn+1)) fun X3=>some (Ay.mk [.sc (.int .i32 P4),.sc (.bool true)] [[.sc (.string Pr),.sc (.int .i64 X3)]])) (Bh (P4==92) (Ab (wrap .i64 (Qn+1)) fun Xh=>some (Ay.mk [.sc (.int .i32 P4),.sc (.bool true)] [[.sc (.string Pr),.sc (.int .i64 Xh)]])) (Bh (P4==47) (Ab (wrap .i64 (Qn+1)) fun BL=>some (Ay.mk [.sc (.int .i32 P4),.sc (.bool true)] [[.sc (.string Pr),.sc (.int .i64 BL)]])) (Bh (P4==98) (Ab (wrap .i64 (Qn+1)) fun AV=>some (Ay.mk [.sc (.int .i32 8),.sc (.bool true)] [[.sc (.string Pr),.sc (.int .i64 AV)]])) (Bh (P4==102) (Ab (wrap .i64 (Qn+1)) fun BS=>some (Ay.mk [.sc (.int .i32 12),.sc (.bool true)] [[.sc (.string Pr),.sc (.int .i64 BS)]])) (Bh (P4==110) (Ab (wrap .i64 (Qn+1)) fun Yh=>some (Ay.mk [.sc (.int .i32 10),.sc (.bool true)] [[.sc (.string Pr),.sc (.int .i64 Yh)]])) (Bh (P4==114) (Ab (wrap .i64 (Qn+1)) fun Xj=>some (Ay.mk [.sc (.int .i32 13),.sc (.bool true)] [[.sc (.string Pr),.sc (.int .i64 Xj)]])) (Bh (P4==116) (Ab (wrap .i64 (Qn+1)) fun BC=>some (Ay.mk [.sc (.int .i32 9),.sc (.bool true)] [[.sc (.string Pr),.sc (.int .i64 BC)]])) (some (Ay.mk [.sc (.int .i32 0),.sc (.bool false)] [[.sc (.string Pr),.sc (.int .i64 Qn)]]))))))))))) (Ae (CX xs) prog fu d):=by kernel_rfl
end
section
open Go.Proofs.Tryd (prog)
open Go.IntKind (wrap)
def Cz (t:ByteArray)(r:List Int):Prop:=∃pre,D2 t=pre++r
theorem Cz.all (t:ByteArray):Cz t (D2 t):=⟨[],rfl⟩
theorem Cz.len {t:ByteArray}{r:List Int}(h:Cz t r):r.length<=t.size:=by
 obtain⟨pre,h⟩:=h;have:=congrArg List.length h;rw[En,List.length_append] at this;omega
theorem Cz.app {t:ByteArray}{a r:List Int}(h:Cz t (a++r)):Cz t r:=by
 obtain⟨pre,h⟩:=h;exact⟨pre++a,by rw[h,List.append_assoc]⟩
theorem Cz.tail {t:ByteArray}{c:Int}{r:List Int}(h:Cz t (c::r)):Cz t r:=Cz.app (a:=[c]) h
theorem Cz.drop {t:ByteArray}{r:List Int}(h:Cz t r)(k:Nat):Cz t (r.drop k):=by
 rw[←List.take_append_drop k r] at h;exact h.app
def Bp (t:ByteArray)(r:List Int):Nat:=t.size-r.length
theorem Cz.eq {t:ByteArray}{r:List Int}(h:Cz t r):r=(D2 t).drop (Bp t r):=by
 have hl:=h.len;obtain⟨pre,h⟩:=h
 have e:Bp t r=pre.length:=by
  have:=congrArg List.length h;rw[En,List.length_append] at this;unfold Bp;omega
 rw[e,h,List.drop_left]
theorem Cz.B {t:ByteArray}{r:List Int}(h:Cz t r):Do r:=by
 obtain⟨pre,h⟩:=h;exact fun x hx=>GW t x (by rw[h];exact List.mem_append_right _ hx)
theorem Cz.at {t:ByteArray}{c:Int}{r:List Int}(h:Cz t (c::r)):∃b:UInt8,(Array.toList t.data)[Bp t (c::r)]?=some b∧(b.toNat:Int)=c:=by
 have he:=h.eq
 have:(D2 t)[Bp t (c::r)]?=some c:=by
  have:=congrArg (fun l=>l[0]?) he
  rw[List.getElem?_drop] at this;exact this.symm
 unfold D2 at this;rw[List.getElem?_map] at this;obtain⟨b,hb,rfl⟩:=Option.map_eq_some_iff.1 this;exact⟨b,hb,rfl⟩
theorem J7 {t:ByteArray}{c:Int}{r:List Int}(h:Cz t (c::r)):Bp t r=Bp t (c::r)+1:=by
 have:=h.len;unfold Bp;rw[QI] at this ⊢;omega
theorem Th (t:ByteArray):Bp t []=t.size:=rfl
abbrev Bw (t:ByteArray)(r:List Int):List PV:=[.sc (.string t),.sc (.int .i64 (Bp t r:Int))]
def JM:List Int->Int
 |[]=>0
 |c::_=>c
section
variable {fu d:Nat} {xs:FuncId->Option (List PV->Option Ay)}
theorem Kh {t:ByteArray}{r:List Int}(h:Cz t r):Ae (CX xs) prog fu (d+1) Gv [.pbox (Bw t r)]=some ⟨[.sc (.int .u8 (JM r))],[Bw t r]⟩:=by
 rw[Lu];cases r with
 |nil=>
  show _=some (Ay.mk [.sc (.int .u8 0)] [[.sc (.string t),.sc (.int .i64 (Bp t []:Int))]]);rw[Th];have e:decide ((t.size:Int)<(t.size:Int))=false:=by simp
  simp only[Ek,e]
 |cons c r=>
  have hl:=h.len;obtain⟨b,hb,rfl⟩:=h.at
  have hp:Bp t ((b.toNat:Int)::r)<t.size:=by
   unfold Bp;rw[QI] at hl ⊢;omega
  have e:decide ((Bp t ((b.toNat:Int)::r):Int)<(t.size:Int))=true:=by simp;omega
  have e2:decide ((0:Int)<=(Bp t ((b.toNat:Int)::r):Int))=true:=by simp
  rw[←Oo (Bp t ((b.toNat:Int)::r))] at hb;simp only[Ek,e,e2,hb,JM]
theorem V3 {s:ByteArray}{a:Nat}:s.extract a s.size=Ac ((D2 s).drop a):=by
 rw[←N0 (s.extract a s.size)]
 congr 1
 unfold D2;rw[ByteArray.data_extract,Array.toList_extract,List.extract_eq_take_drop,←List.map_drop,Zzf];rw[List.length_drop];exact Nat.le_refl _
theorem Tg {s:ByteArray}{n:Nat}:s.extract 0 n=Ac ((D2 s).take n):=by
 rw[←N0 (s.extract 0 n)]
 congr 1
 unfold D2;rw[ByteArray.data_extract,Array.toList_extract,List.extract_eq_take_drop,Nat.sub_zero,List.drop_zero,List.map_take]
theorem Ahi {a w:List Int}(ha:Do a)(hw:Do w):Ae (CX xs) prog fu (d+1) E2 [.sc (.string (Ac a)),.sc (.string (Ac w))]=some ⟨[.sc (.bool (w.isPrefixOf a))],[]⟩:=by
 rw[My,Aw,Aw];by_cases hl:w.length<=a.length
 ·have e1:decide ((a.length:Int)>=(w.length:Int))=true:=by simp;omega
  have e2:decide (Int.toNat (w.length:Int)<=a.length)=true:=by rw[Oo];simp;exact hl
  have e3:(Ac a).extract 0 (Int.toNat (w.length:Int))=Ac (a.take w.length):=by
   rw[Oo,Tg,C9 ha]
  have e4:(Array.toList (Ac (a.take w.length)).data==Array.toList (Ac w).data)=w.isPrefixOf a:=by
   rw[Bool.eq_iff_iff,List.isPrefixOf_iff_prefix,beq_iff_eq];constructor
   ·intro h
    have h2:Ac (a.take w.length)=Ac w:=by
     cases hx:Ac (a.take w.length);cases hy:Ac w;rw[hx,hy] at h;exact congrArg ByteArray.mk (Array.toList_inj.1 h)
    have h3:=congrArg D2 h2;rw[C9 hw,C9 (fun x hx=>ha x (List.mem_of_mem_take hx))] at h3
    exact List.prefix_iff_eq_take.2 h3.symm
   ·intro h;rw[←List.prefix_iff_eq_take.1 h]
  simp only[Ek,e1,e2,e3,e4]
 ·have e1:decide ((a.length:Int)>=(w.length:Int))=false:=by simp;omega
  have e4:w.isPrefixOf a=false:=by
   rw[Bool.eq_false_iff,ne_eq,List.isPrefixOf_iff_prefix];exact fun h=>hl h.length_le
  simp only[Ek,e1,e4]
theorem A0z {a w:List Int}(ha:Do a)(hw:Do w):Ae (CX xs) prog fu (d+2) Jf [.sc (.string (Ac a)),.sc (.string (Ac w))]=some ⟨[.sc (.bool (w.isPrefixOf a))],[]⟩:=by
 rw[Q0];have e:Ae (CX xs) prog fu (d+1) E2 [.sc (.string (Ac a)),.sc (.string (Ac w))]=_:=Ahi ha hw;simp only[Ek,e]
theorem O5 {t:ByteArray}{r w:List Int}(h:Cz t r)(ht:t.size<=1000000)(hw:Do w)(hw2:w.length<=100):Ae (CX xs) prog fu (d+3) F4 [.pbox (Bw t r),.sc (.string (Ac w))]=some (match Ap w r with|some r'=>⟨[.sc (.bool true)],[Bw t r']⟩|none=>⟨[.sc (.bool false)],[Bw t r]⟩):=by
 have hl:=h.len;have he:=h.eq;have hp:Bp t r<=t.size:=Nat.sub_le _ _;have hh:=A0z (fu:=fu) (d:=d) (xs:=xs) h.B hw;have e1:decide ((0:Int)<=(Bp t r:Int))=true:=by simp
 have e2:(decide (Int.toNat (Bp t r:Int)<=t.size)&&decide (t.size<=t.size))=true:=by
  rw[Oo];simp;exact hp
 have e3:t.extract (Int.toNat (Bp t r:Int)) t.size=Ac r:=by rw[Oo,V3,←he]
 rw[Kp];unfold Ap;by_cases hq:w.isPrefixOf r=true
 ·rw[E7 hq];rw[hq] at hh
  have hwl:w.length<=r.length:=by
   have:=List.IsPrefix.length_le (List.isPrefixOf_iff_prefix.1 hq);exact this
  have e4:wrap .i64 ((Bp t r:Int)+((Ac w).size:Int))=(Bp t (r.drop w.length):Int):=by
   rw[Aw,Bc (by omega) (by omega)]
   unfold Bp;rw[List.length_drop];omega
  simp only[Ek,e1,e2,e3,hh,e4,Db]
 ·rw[Dz hq];have J5:w.isPrefixOf r=false:=Bool.eq_false_iff.2 hq;rw[J5] at hh;simp only[Ek,e1,e2,e3,hh,D1]
theorem Afy (x:Int):Ae (CX xs) prog fu (d+1) Kq [.sc (.int .i32 x)]=some ⟨[.sc (.bool (JI x))],[]⟩:=by
 rw[Rw];unfold JI;by_cases h:56320<=x
 ·have e:decide (x>=56320)=true:=by simp;omega
  have e2:decide (56320<=x)=true:=by simp;omega
  simp only[Ek,e,e2,Bool.true_and]
 ·have e:decide (x>=56320)=false:=by simp;omega
  have e2:decide (56320<=x)=false:=by simp;omega
  simp only[Ek,e,e2,Zzs]
def Af9 (t:ByteArray)(o:PR Int):Ay:=⟨[.sc (.int .i32 (o.1.getD 0)),.sc (.bool o.1.isSome)],[Bw t o.2]⟩
theorem DN (c:Int):(48<=c∧c<=57∧RE c=some (c-48))∨(97<=c∧c<=102∧RE c=some (c-87))∨(65<=c∧c<=70∧RE c=some (c-55))∨(¬(48<=c∧c<=57)∧¬(97<=c∧c<=102)∧¬(65<=c∧c<=70)∧RE c=none):=by
 unfold RE;by_cases h1:48<=c∧c<=57
 ·exact .inl ⟨h1.1,h1.2,E7 h1⟩
 ·by_cases h2:97<=c∧c<=102
  ·exact .inr (.inl ⟨h2.1,h2.2,by rw[Dz h1,E7 h2]⟩)
  ·by_cases h3:65<=c∧c<=70
   ·exact .inr (.inr (.inl ⟨h3.1,h3.2,by rw[Dz h1,Dz h2,E7 h3]⟩))
   ·exact .inr (.inr (.inr ⟨h1,h2,h3,by rw[Dz h1,Dz h2,Dz h3]⟩))
theorem Ed {x:Int}(h1: -2147483648<=x)(h2:x<=2147483647):wrap .i32 x=x:=by
 have:=IntWalk.i32_in x (by omega)
 exact this
theorem Asq {x:Int}(h0:0<=x)(h1:x<65536):G1 .i32 x 4=x*16:=by
 show wrap .i32 (x*2 ^ (min (4:Int).toNat IntKind.i32.bits))=_;rw[show min (4:Int).toNat IntKind.i32.bits=4 from rfl]
 exact Ed (by omega) (by omega)
theorem Sx {t s0:ByteArray}{p0:Int}(ht:t.size<=1000000):∀(n:Nat)(nn:Nat)(x:Int)(r:List Int),n<=4->n+1<=nn->0<=x->x<16 ^ (4-n)->Cz t r ->
  Ba fu (Ae (CX xs) prog fu (d+1)) s0 p0 nn x ((4-n:Nat):Int) t (Bp t r:Int)=some (Af9 t (Qo n x r))
 |0,nn,x,r,_,Rb,h0,h1,h=>by
  obtain⟨k,rfl⟩:∃k,nn=k+1:=⟨nn-1,by omega⟩
  rw[E1];simp only[Ek,show decide (((4-0:Nat):Int)<4)=false from rfl]
  rfl
 |n+1,nn,x,r,hn,Rb,h0,h1,h=>by
  obtain⟨k,rfl⟩:∃k,nn=k+1:=⟨nn-1,by omega⟩
  have pk:=Kh (fu:=fu) (d:=d) (xs:=xs) h;have hl:=h.len
  have hx:x<4096:=by
   have:n+1=1∨n+1=2∨n+1=3∨n+1=4:=by omega
   rcases this with e|e|e|e<;>rw[e] at h1<;>simp at h1<;>omega
  have Ok:∀v,0<=v->v<=15->x*16+v<16 ^ (4-n):=by
   intro v hv0 hv1;have e:4-n=(4-(n+1))+1:=by omega
   rw[e,Int.pow_succ];omega
  have e4:decide (((4-(n+1):Nat):Int)<4)=true:=by simp;omega
  have e5:wrap .i64 (((4-(n+1):Nat):Int)+1)=((4-n:Nat):Int):=by rw[Bc (by omega) (by omega)];omega
  have sh:=Asq h0 (by omega)
  rw[E1];cases r with
  |nil=>
   have pk2:Ae (CX xs) prog fu (d+1) 90 [.pbox (Bw t [])]=some ⟨[.sc (.int .u8 0)],[Bw t []]⟩:=pk
   try unfold Ab
   repeat first
    |((with_reducible first|apply A1|apply As|apply A3|apply Au|apply A4|apply Dr|apply At|apply A0|apply A2);· first|with_reducible rfl|(simp (disch:=omega) only[gT,e4,pk2,Int.reduceGE,decide_false,decide_true]<;>first|with_reducible rfl|omega)|omega)
    |(with_reducible apply A5;· first|with_reducible rfl|(simp (disch:=omega) only[gF,e4,pk2,Int.reduceGE,decide_false,decide_true]<;>omega))
   try simp (disch:=omega) only[e4,pk2,Int.reduceGE,decide_false,decide_true]
   rfl
  |cons c r=>
   have hc:=h.B c (by simp)
   have hp:=J7 h
   have e6:wrap .i64 ((Bp t (c::r):Int)+1)=(Bp t r:Int):=by
    rw[hp,Bc (by unfold Bp;omega) (by unfold Bp;omega)];omega
   have pk2:Ae (CX xs) prog fu (d+1) 90 [.pbox (Bw t (c::r))]=some ⟨[.sc (.int .u8 c)],[Bw t (c::r)]⟩:=pk;unfold Qo;rcases DN c with⟨g1,g2,g3⟩|⟨g1,g2,g3⟩|⟨g1,g2,g3⟩|⟨g1,g2,g3,g4⟩
   ·rw[g3];have ih:=Sx (s0:=s0) (p0:=p0) ht n k (x*16+(c-48)) r (by omega) (by omega) (by omega) (Ok _ (by omega) (by omega)) h.tail
    have w1:wrap .u8 (c-48)=c-48:=Xn (by omega) (by omega)
    have w2:wrap .i32 (c-48)=c-48:=Ed (by omega) (by omega)
    have w3:wrap .i32 (x*16+(c-48))=x*16+(c-48):=Ed (by omega) (by omega)
    try unfold Ab
    repeat first
     |((with_reducible first|apply A1|apply As|apply A3|apply Au|apply A4|apply Dr|apply At|apply A0|apply A2);· first|with_reducible rfl|(simp (disch:=omega) only[gT,e4,pk2,sh,w1,w2,w3,e5,e6,ih]<;>first|with_reducible rfl|omega)|omega)
     |(with_reducible apply A5;· first|with_reducible rfl|(simp (disch:=omega) only[gF,e4,pk2,sh,w1,w2,w3,e5,e6,ih]<;>omega))
    try simp (disch:=omega) only[e4,pk2,sh,w1,w2,w3,e5,e6,ih]
   ·rw[g3];have ih:=Sx (s0:=s0) (p0:=p0) ht n k (x*16+(c-87)) r (by omega) (by omega) (by omega) (Ok _ (by omega) (by omega)) h.tail
    have w1:wrap .u8 (c-97)=c-97:=Xn (by omega) (by omega)
    have w2:wrap .i32 (c-97)=c-97:=Ed (by omega) (by omega)
    have w3:wrap .i32 (x*16+(c-97))=x*16+(c-97):=Ed (by omega) (by omega)
    have w4:wrap .i32 (x*16+(c-97)+10)=x*16+(c-87):=by rw[Ed (by omega) (by omega)];omega
    try unfold Ab
    repeat first
     |((with_reducible first|apply A1|apply As|apply A3|apply Au|apply A4|apply Dr|apply At|apply A0|apply A2);· first|with_reducible rfl|(simp (disch:=omega) only[gT,e4,pk2,sh,w1,w2,w3,w4,e5,e6,ih]<;>first|with_reducible rfl|omega)|omega)
     |(with_reducible apply A5;· first|with_reducible rfl|(simp (disch:=omega) only[gF,e4,pk2,sh,w1,w2,w3,w4,e5,e6,ih]<;>omega))
    try simp (disch:=omega) only[e4,pk2,sh,w1,w2,w3,w4,e5,e6,ih]
   ·rw[g3];have ih:=Sx (s0:=s0) (p0:=p0) ht n k (x*16+(c-55)) r (by omega) (by omega) (by omega) (Ok _ (by omega) (by omega)) h.tail
    have w1:wrap .u8 (c-65)=c-65:=Xn (by omega) (by omega)
    have w2:wrap .i32 (c-65)=c-65:=Ed (by omega) (by omega)
    have w3:wrap .i32 (x*16+(c-65))=x*16+(c-65):=Ed (by omega) (by omega)
    have w4:wrap .i32 (x*16+(c-65)+10)=x*16+(c-55):=by rw[Ed (by omega) (by omega)];omega
    try unfold Ab
    repeat first
     |((with_reducible first|apply A1|apply As|apply A3|apply Au|apply A4|apply Dr|apply At|apply A0|apply A2);· first|with_reducible rfl|(simp (disch:=omega) only[gT,e4,pk2,sh,w1,w2,w3,w4,e5,e6,ih]<;>first|with_reducible rfl|omega)|omega)
     |(with_reducible apply A5;· first|with_reducible rfl|(simp (disch:=omega) only[gF,e4,pk2,sh,w1,w2,w3,w4,e5,e6,ih]<;>omega))
    try simp (disch:=omega) only[e4,pk2,sh,w1,w2,w3,w4,e5,e6,ih]
   ·rw[g4];by_cases k1:48<=c
    ·by_cases k2:97<=c
     ·skip
      try unfold Ab
      repeat first
       |((with_reducible first|apply A1|apply As|apply A3|apply Au|apply A4|apply Dr|apply At|apply A0|apply A2);· first|with_reducible rfl|(simp (disch:=omega) only[gT,e4,pk2]<;>first|with_reducible rfl|omega)|omega)
       |(with_reducible apply A5;· first|with_reducible rfl|(simp (disch:=omega) only[gF,e4,pk2]<;>omega))
      try simp (disch:=omega) only[e4,pk2]
      rfl
     ·by_cases k3:65<=c
      ·skip
       try unfold Ab
       repeat first
        |((with_reducible first|apply A1|apply As|apply A3|apply Au|apply A4|apply Dr|apply At|apply A0|apply A2);· first|with_reducible rfl|(simp (disch:=omega) only[gT,e4,pk2]<;>first|with_reducible rfl|omega)|omega)
        |(with_reducible apply A5;· first|with_reducible rfl|(simp (disch:=omega) only[gF,e4,pk2]<;>omega))
       try simp (disch:=omega) only[e4,pk2]
       rfl
      ·skip
       try unfold Ab
       repeat first
        |((with_reducible first|apply A1|apply As|apply A3|apply Au|apply A4|apply Dr|apply At|apply A0|apply A2);· first|with_reducible rfl|(simp (disch:=omega) only[gT,e4,pk2]<;>first|with_reducible rfl|omega)|omega)
        |(with_reducible apply A5;· first|with_reducible rfl|(simp (disch:=omega) only[gF,e4,pk2]<;>omega))
       try simp (disch:=omega) only[e4,pk2]
       rfl
    ·skip
     try unfold Ab
     repeat first
      |((with_reducible first|apply A1|apply As|apply A3|apply Au|apply A4|apply Dr|apply At|apply A0|apply A2);· first|with_reducible rfl|(simp (disch:=omega) only[gT,e4,pk2]<;>first|with_reducible rfl|omega)|omega)
      |(with_reducible apply A5;· first|with_reducible rfl|(simp (disch:=omega) only[gF,e4,pk2]<;>omega))
     try simp (disch:=omega) only[e4,pk2]
     rfl
theorem Ag0 {t:ByteArray}{r:List Int}(Ev:10<=fu)(h:Cz t r)(ht:t.size<=1000000):Ae (CX xs) prog fu (d+2) Fv [.pbox (Bw t r)]=some (Af9 t (Qo 4 0 r)):=by
 rw[Jt];exact Sx ht 4 fu 0 r (by omega) (by omega) (by omega) (by decide) h
theorem Fz:∀(n:Nat)(x:Int)(l:List Int)(y:Int)(r:List Int),Qo n x l=(some y,r)->0<=x->0<=y∧y<(x+1)*16 ^ n
 |0,x,l,y,r,h,h0=>by
  cases h;omega
 |n+1,x,[],y,r,h,h0=>by cases h
 |n+1,x,c::l,y,r,h,h0=>by
  unfold Qo at h;rcases DN c with⟨g1,g2,g3⟩|⟨g1,g2,g3⟩|⟨g1,g2,g3⟩|⟨g1,g2,g3,g4⟩
  ·rw[g3] at h;have:=Fz n _ l y r h (by omega)
   have e:(x*16+(c-48)+1)*16 ^ n<=(x+1)*16 ^ (n+1):=by
    rw[Int.pow_succ,Int.mul_comm (16 ^ n) 16,←Int.mul_assoc];exact Int.mul_le_mul_of_nonneg_right (by omega) (Int.pow_nonneg (by omega))
   omega
  ·rw[g3] at h;have:=Fz n _ l y r h (by omega)
   have e:(x*16+(c-87)+1)*16 ^ n<=(x+1)*16 ^ (n+1):=by
    rw[Int.pow_succ,Int.mul_comm (16 ^ n) 16,←Int.mul_assoc];exact Int.mul_le_mul_of_nonneg_right (by omega) (Int.pow_nonneg (by omega))
   omega
  ·rw[g3] at h;have:=Fz n _ l y r h (by omega)
   have e:(x*16+(c-55)+1)*16 ^ n<=(x+1)*16 ^ (n+1):=by
    rw[Int.pow_succ,Int.mul_comm (16 ^ n) 16,←Int.mul_assoc];exact Int.mul_le_mul_of_nonneg_right (by omega) (Int.pow_nonneg (by omega))
   omega
  ·rw[g4] at h;cases h
theorem Sg {t:ByteArray}:∀(n:Nat)(x:Int)(l:List Int),Cz t l->Cz t (Qo n x l).2
 |0,x,l,h=>h
 |n+1,x,[],h=>h
 |n+1,x,c::l,h=>by
  unfold Qo;cases RE c with
  |none=>exact h
  |some v=>exact Sg n _ l h.tail
theorem YL (l:List Int):Aa2 l=List.isPrefixOf [92,117] l:=by
 match l with
 |[]=>rfl
 |[a]=>
  unfold Aa2;split
  ·rename_i e;cases e
  ·simp[List.isPrefixOf]
 |a::b::r=>
  unfold Aa2;split
  ·rename_i e;cases e;rfl
  ·rename_i h
   symm
   rw[Bool.eq_false_iff];intro hp;simp[List.isPrefixOf] at hp;exact h r (by rw[←hp.1,←hp.2])
theorem Amy {x:Int}(h0:0<=x)(h1:x<2097152):G1 .i32 x 10=x*1024:=by
 show wrap .i32 (x*2 ^ (min (10:Int).toNat IntKind.i32.bits))=_;rw[show min (10:Int).toNat IntKind.i32.bits=10 from rfl]
 exact Ed (by omega) (by omega)
theorem Akq {t:ByteArray}{r:List Int}(Ev:10<=fu)(h:Cz t r)(ht:t.size<=1000000):Ae (CX xs) prog fu (d+4) Fk [.pbox (Bw t r)]=some (Af9 t (Mf r)):=by
 have hx:=Ag0 (d:=d+1) (xs:=xs) Ev h ht;have hs:=Sg 4 0 r h;have hb:=Fz 4 0 r;rw[Jc];unfold Mf;rcases hq:Qo 4 0 r with⟨o,r1⟩;rw[hq] at hx hs;simp only at hs;cases o with
 |none=>
  have Ok:Ae (CX xs) prog fu (d+3) 114 [.pbox (Bw t r)]=some ⟨[.sc (.int .i32 0),.sc (.bool false)],[Bw t r1]⟩:=hx
  try unfold Ab
  repeat first
   |((with_reducible first|apply A1|apply As|apply A3|apply Au|apply A4|apply Dr|apply At|apply A0|apply A2);· first|with_reducible rfl|(simp (disch:=omega) only[gT,Ok,D1]<;>first|with_reducible rfl|omega)|omega)
   |(with_reducible apply A5;· first|with_reducible rfl|(simp (disch:=omega) only[gF,Ok,D1]<;>omega))
  try simp (disch:=omega) only[Ok,D1]
  rfl
 |some x=>
  have Ok:Ae (CX xs) prog fu (d+3) 114 [.pbox (Bw t r)]=some ⟨[.sc (.int .i32 x),.sc (.bool true)],[Bw t r1]⟩:=hx;have bx:=hb x r1 hq (by omega)
  have lw:∀x,Ae (CX xs) prog fu (d+3) 115 [.sc (.int .i32 x)]=some ⟨[.sc (.bool (JI x))],[]⟩:=fun x=>Afy (d:=d+2) x
  cases hl:JI x
  ·simp only[hl,Bool.false_eq_true,if_false];by_cases c1:x<55296
   ·rw[E7 (Or.inl c1)]
    try unfold Ab
    repeat first
     |((with_reducible first|apply A1|apply As|apply A3|apply Au|apply A4|apply Dr|apply At|apply A0|apply A2);· first|with_reducible rfl|(simp (disch:=omega) only[gT,Ok,lw,hl,Db]<;>first|with_reducible rfl|omega)|omega)
     |(with_reducible apply A5;· first|with_reducible rfl|(simp (disch:=omega) only[gF,Ok,lw,hl,Db]<;>omega))
    try simp (disch:=omega) only[Ok,lw,hl,Db]
    rfl
   ·by_cases c2:56319<x
    ·rw[E7 (Or.inr c2)]
     try unfold Ab
     repeat first
      |((with_reducible first|apply A1|apply As|apply A3|apply Au|apply A4|apply Dr|apply At|apply A0|apply A2);· first|with_reducible rfl|(simp (disch:=omega) only[gT,Ok,lw,hl,Db]<;>first|with_reducible rfl|omega)|omega)
      |(with_reducible apply A5;· first|with_reducible rfl|(simp (disch:=omega) only[gF,Ok,lw,hl,Db]<;>omega))
     try simp (disch:=omega) only[Ok,lw,hl,Db]
     rfl
    ·rw[Dz (by omega)]
     have ha:=O5 (fu:=fu) (d:=d) (xs:=xs) hs ht (w:=[92,117]) (fun x hx=>by simp at hx;rcases hx with rfl|rfl<;>omega) (by decide)
     unfold Ap at ha;rw[←YL] at ha;cases hB:Aa2 r1
     ·rw[hB,Dz (by simp)] at ha
      simp only[Bool.false_eq_true,if_false];have H6:Ae (CX xs) prog fu (d+3) 67 [.pbox (Bw t r1),.sc (.string (ByteArray.mk #[(92:UInt8),(117:UInt8)]))]=some ⟨[.sc (.bool false)],[Bw t r1]⟩:=ha
      try unfold Ab
      repeat first
       |((with_reducible first|apply A1|apply As|apply A3|apply Au|apply A4|apply Dr|apply At|apply A0|apply A2);· first|with_reducible rfl|(simp (disch:=omega) only[gT,Ok,lw,hl,H6,Db,D1]<;>first|with_reducible rfl|omega)|omega)
       |(with_reducible apply A5;· first|with_reducible rfl|(simp (disch:=omega) only[gF,Ok,lw,hl,H6,Db,D1]<;>omega))
      try simp (disch:=omega) only[Ok,lw,hl,H6,Db,D1]
      rfl
     ·rw[hB,E7 rfl] at ha;simp only[if_true];have H6:Ae (CX xs) prog fu (d+3) 67 [.pbox (Bw t r1),.sc (.string (ByteArray.mk #[(92:UInt8),(117:UInt8)]))]=some ⟨[.sc (.bool true)],[Bw t (r1.drop 2)]⟩:=ha;have hy:=Ag0 (d:=d+1) (xs:=xs) Ev (hs.drop 2) ht;have XE:=Fz 4 0 (r1.drop 2);unfold SI;rcases J5:Qo 4 0 (r1.drop 2) with⟨o2,r2⟩;rw[J5] at hy;cases o2 with
      |none=>
       have XP:Ae (CX xs) prog fu (d+3) 114 [.pbox (Bw t (r1.drop 2))]=some ⟨[.sc (.int .i32 0),.sc (.bool false)],[Bw t r2]⟩:=hy
       try unfold Ab
       repeat first
        |((with_reducible first|apply A1|apply As|apply A3|apply Au|apply A4|apply Dr|apply At|apply A0|apply A2);· first|with_reducible rfl|(simp (disch:=omega) only[gT,Ok,lw,hl,H6,XP,Db,D1]<;>first|with_reducible rfl|omega)|omega)
        |(with_reducible apply A5;· first|with_reducible rfl|(simp (disch:=omega) only[gF,Ok,lw,hl,H6,XP,Db,D1]<;>omega))
       try simp (disch:=omega) only[Ok,lw,hl,H6,XP,Db,D1]
       rfl
      |some y=>
       have XP:Ae (CX xs) prog fu (d+3) 114 [.pbox (Bw t (r1.drop 2))]=some ⟨[.sc (.int .i32 y),.sc (.bool true)],[Bw t r2]⟩:=hy;have by_:=XE y r2 J5 (by omega)
       cases On:JI y
       ·simp only[Bool.false_eq_true,if_false]
        try unfold Ab
        repeat first
         |((with_reducible first|apply A1|apply As|apply A3|apply Au|apply A4|apply Dr|apply At|apply A0|apply A2);· first|with_reducible rfl|(simp (disch:=omega) only[gT,Ok,lw,hl,On,H6,XP,Db,D1]<;>first|with_reducible rfl|omega)|omega)
         |(with_reducible apply A5;· first|with_reducible rfl|(simp (disch:=omega) only[gF,Ok,lw,hl,On,H6,XP,Db,D1]<;>omega))
        try simp (disch:=omega) only[Ok,lw,hl,On,H6,XP,Db,D1]
        rfl
       ·simp only[if_true]
        have ly:56320<=y∧y<=57343:=by
         unfold JI at On
         simpa using On
        have w1:wrap .i32 (x-55296)=x-55296:=Ed (by omega) (by omega)
        have w2:=Amy (x:=x-55296) (by omega) (by omega)
        have w3:wrap .i32 (65536+(x-55296)*1024)=65536+(x-55296)*1024:=Ed (by omega) (by omega)
        have w4:wrap .i32 (y-56320)=y-56320:=Ed (by omega) (by omega)
        have w5:wrap .i32 (65536+(x-55296)*1024+(y-56320))=65536+(x-55296)*1024+(y-56320):=Ed (by omega) (by omega)
        try unfold Ab
        repeat first
         |((with_reducible first|apply A1|apply As|apply A3|apply Au|apply A4|apply Dr|apply At|apply A0|apply A2);· first|with_reducible rfl|(simp (disch:=omega) only[gT,Ok,lw,hl,On,H6,XP,w1,w2,w3,w4,w5,Db,D1]<;>first|with_reducible rfl|omega)|omega)
         |(with_reducible apply A5;· first|with_reducible rfl|(simp (disch:=omega) only[gF,Ok,lw,hl,On,H6,XP,w1,w2,w3,w4,w5,Db,D1]<;>omega))
        try simp (disch:=omega) only[Ok,lw,hl,On,H6,XP,w1,w2,w3,w4,w5,Db,D1]
        rfl
  ·simp only[if_true]
   try unfold Ab
   repeat first
    |((with_reducible first|apply A1|apply As|apply A3|apply Au|apply A4|apply Dr|apply At|apply A0|apply A2);· first|with_reducible rfl|(simp (disch:=omega) only[gT,Ok,lw,hl,Db]<;>first|with_reducible rfl|omega)|omega)
    |(with_reducible apply A5;· first|with_reducible rfl|(simp (disch:=omega) only[gF,Ok,lw,hl,Db]<;>omega))
   try simp (disch:=omega) only[Ok,lw,hl,Db]
   rfl
theorem EB (c:Int):(c=34∧R4 c=some 34)∨(c=92∧R4 c=some 92)∨(c=47∧R4 c=some 47)∨(c=98∧R4 c=some 8)∨(c=102∧R4 c=some 12)∨(c=110∧R4 c=some 10)∨(c=114∧R4 c=some 13)∨(c=116∧R4 c=some 9) ∨
  ((c≠34∧c≠92∧c≠47∧c≠98∧c≠102∧c≠110∧c≠114∧c≠116)∧R4 c=none):=by
 by_cases h1:c=34
 ·subst h1;exact .inl ⟨rfl,rfl⟩
 by_cases h2:c=92
 ·subst h2;exact .inr (.inl ⟨rfl,rfl⟩)
 by_cases h3:c=47
 ·subst h3;exact .inr (.inr (.inl ⟨rfl,rfl⟩))
 by_cases h4:c=98
 ·subst h4;exact .inr (.inr (.inr (.inl ⟨rfl,rfl⟩)))
 by_cases h5:c=102
 ·subst h5;exact .inr (.inr (.inr (.inr (.inl ⟨rfl,rfl⟩))))
 by_cases h6:c=110
 ·subst h6;exact .inr (.inr (.inr (.inr (.inr (.inl ⟨rfl,rfl⟩)))))
 by_cases h7:c=114
 ·subst h7;exact .inr (.inr (.inr (.inr (.inr (.inr (.inl ⟨rfl,rfl⟩))))))
 by_cases h8:c=116
 ·subst h8;exact .inr (.inr (.inr (.inr (.inr (.inr (.inr (.inl ⟨rfl,rfl⟩)))))))
 refine .inr (.inr (.inr (.inr (.inr (.inr (.inr (.inr ⟨⟨h1,h2,h3,h4,h5,h6,h7,h8⟩,?_⟩)))))));unfold R4;rw[Dz (by omega),Dz h4,Dz h5,Dz h6,Dz h7,Dz h8]
theorem Arg {t:ByteArray}{r:List Int}(Ev:10<=fu)(h:Cz t r)(ht:t.size<=1000000):Ae (CX xs) prog fu (d+5) E5 [.pbox (Bw t r)]=some (Af9 t (Lt r)):=by
 have ha:=O5 (fu:=fu) (d:=d+1) (xs:=xs) h ht (w:=[117]) (fun x hx=>by simp at hx;omega) (by decide)
 have hl:=h.len;rw[Id];cases r with
 |nil=>
  have H6:Ae (CX xs) prog fu (d+4) 67 [.pbox (Bw t []),.sc (.string (ByteArray.mk #[(117:UInt8)]))]=some ⟨[.sc (.bool false)],[Bw t []]⟩:=ha;have pk:Ae (CX xs) prog fu (d+4) 90 [.pbox (Bw t [])]=some ⟨[.sc (.int .u8 0)],[Bw t []]⟩:=Kh (d:=d+3) h;have w0:wrap .i32 0=0:=rfl
  try unfold Ab
  repeat first
   |((with_reducible first|apply A1|apply As|apply A3|apply Au|apply A4|apply Dr|apply At|apply A0|apply A2);· first|with_reducible rfl|(simp (disch:=omega) only[gT,H6,pk,w0,Int.reduceBEq]<;>first|with_reducible rfl|omega)|omega)
   |(with_reducible apply A5;· first|with_reducible rfl|(simp (disch:=omega) only[gF,H6,pk,w0,Int.reduceBEq]<;>omega))
  try simp (disch:=omega) only[H6,pk,w0,Int.reduceBEq]
  rfl
 |cons c r=>
  have hc:=h.B c (by simp)
  have hp:=J7 h
  have e6:wrap .i64 ((Bp t (c::r):Int)+1)=(Bp t r:Int):=by
   rw[hp,Bc (by unfold Bp;omega) (by unfold Bp;omega)];omega
  have w0:wrap .i32 c=c:=Ed (by omega) (by omega)
  have pk:Ae (CX xs) prog fu (d+4) 90 [.pbox (Bw t (c::r))]=some ⟨[.sc (.int .u8 c)],[Bw t (c::r)]⟩:=Kh (d:=d+3) h;have he:Lt (c::r)=if c=117 then Mf r else match R4 c with|some x=>(some x,r)|none=>(none,c::r):=rfl
  rw[he];unfold Ap at ha;by_cases hu:c=117
  ·subst hu;rw[E7 rfl];have H6:Ae (CX xs) prog fu (d+4) 67 [.pbox (Bw t (117::r)),.sc (.string (ByteArray.mk #[(117:UInt8)]))]=some ⟨[.sc (.bool true)],[Bw t r]⟩:=ha;have hcd:Ae (CX xs) prog fu (d+4) 105 [.pbox (Bw t r)]=some ⟨[.sc (.int .i32 ((Mf r).1.getD 0)),.sc (.bool (Mf r).1.isSome)],[Bw t (Mf r).2]⟩:=Akq Ev h.tail ht
   try unfold Ab
   repeat first
    |((with_reducible first|apply A1|apply As|apply A3|apply Au|apply A4|apply Dr|apply At|apply A0|apply A2);· first|with_reducible rfl|(simp (disch:=omega) only[gT,H6,hcd]<;>first|with_reducible rfl|omega)|omega)
    |(with_reducible apply A5;· first|with_reducible rfl|(simp (disch:=omega) only[gF,H6,hcd]<;>omega))
   try simp (disch:=omega) only[H6,hcd]
   rfl
  ·rw[Dz hu]
   have hb:(List.isPrefixOf [117] (c::r))=false:=by
    rw[Bool.eq_false_iff];intro hp;simp[List.isPrefixOf] at hp;exact hu hp.symm
   rw[hb,Dz (by simp)] at ha
   have H6:Ae (CX xs) prog fu (d+4) 67 [.pbox (Bw t (c::r)),.sc (.string (ByteArray.mk #[(117:UInt8)]))]=some ⟨[.sc (.bool false)],[Bw t (c::r)]⟩:=ha;rcases EB c with⟨rfl,g⟩|⟨rfl,g⟩|⟨rfl,g⟩|⟨rfl,g⟩|⟨rfl,g⟩|⟨rfl,g⟩|⟨rfl,g⟩|⟨rfl,g⟩|⟨g1,g⟩
   ·rw[g]
    try unfold Ab
    repeat first
     |((with_reducible first|apply A1|apply As|apply A3|apply Au|apply A4|apply Dr|apply At|apply A0|apply A2);· first|with_reducible rfl|(simp (disch:=omega) only[gT,H6,pk,w0,e6,Int.reduceBEq]<;>first|with_reducible rfl|omega)|omega)
     |(with_reducible apply A5;· first|with_reducible rfl|(simp (disch:=omega) only[gF,H6,pk,w0,e6,Int.reduceBEq]<;>omega))
    try simp (disch:=omega) only[H6,pk,w0,e6,Int.reduceBEq]
    rfl
   ·rw[g]
    try unfold Ab
    repeat first
     |((with_reducible first|apply A1|apply As|apply A3|apply Au|apply A4|apply Dr|apply At|apply A0|apply A2);· first|with_reducible rfl|(simp (disch:=omega) only[gT,H6,pk,w0,e6,Int.reduceBEq]<;>first|with_reducible rfl|omega)|omega)
     |(with_reducible apply A5;· first|with_reducible rfl|(simp (disch:=omega) only[gF,H6,pk,w0,e6,Int.reduceBEq]<;>omega))
    try simp (disch:=omega) only[H6,pk,w0,e6,Int.reduceBEq]
    rfl
   ·rw[g]
    try unfold Ab
    repeat first
     |((with_reducible first|apply A1|apply As|apply A3|apply Au|apply A4|apply Dr|apply At|apply A0|apply A2);· first|with_reducible rfl|(simp (disch:=omega) only[gT,H6,pk,w0,e6,Int.reduceBEq]<;>first|with_reducible rfl|omega)|omega)
     |(with_reducible apply A5;· first|with_reducible rfl|(simp (disch:=omega) only[gF,H6,pk,w0,e6,Int.reduceBEq]<;>omega))
    try simp (disch:=omega) only[H6,pk,w0,e6,Int.reduceBEq]
    rfl
   ·rw[g]
    try unfold Ab
    repeat first
     |((with_reducible first|apply A1|apply As|apply A3|apply Au|apply A4|apply Dr|apply At|apply A0|apply A2);· first|with_reducible rfl|(simp (disch:=omega) only[gT,H6,pk,w0,e6,Int.reduceBEq]<;>first|with_reducible rfl|omega)|omega)
     |(with_reducible apply A5;· first|with_reducible rfl|(simp (disch:=omega) only[gF,H6,pk,w0,e6,Int.reduceBEq]<;>omega))
    try simp (disch:=omega) only[H6,pk,w0,e6,Int.reduceBEq]
    rfl
   ·rw[g]
    try unfold Ab
    repeat first
     |((with_reducible first|apply A1|apply As|apply A3|apply Au|apply A4|apply Dr|apply At|apply A0|apply A2);· first|with_reducible rfl|(simp (disch:=omega) only[gT,H6,pk,w0,e6,Int.reduceBEq]<;>first|with_reducible rfl|omega)|omega)
     |(with_reducible apply A5;· first|with_reducible rfl|(simp (disch:=omega) only[gF,H6,pk,w0,e6,Int.reduceBEq]<;>omega))
    try simp (disch:=omega) only[H6,pk,w0,e6,Int.reduceBEq]
    rfl
   ·rw[g]
    try unfold Ab
    repeat first
     |((with_reducible first|apply A1|apply As|apply A3|apply Au|apply A4|apply Dr|apply At|apply A0|apply A2);· first|with_reducible rfl|(simp (disch:=omega) only[gT,H6,pk,w0,e6,Int.reduceBEq]<;>first|with_reducible rfl|omega)|omega)
     |(with_reducible apply A5;· first|with_reducible rfl|(simp (disch:=omega) only[gF,H6,pk,w0,e6,Int.reduceBEq]<;>omega))
    try simp (disch:=omega) only[H6,pk,w0,e6,Int.reduceBEq]
    rfl
   ·rw[g]
    try unfold Ab
    repeat first
     |((with_reducible first|apply A1|apply As|apply A3|apply Au|apply A4|apply Dr|apply At|apply A0|apply A2);· first|with_reducible rfl|(simp (disch:=omega) only[gT,H6,pk,w0,e6,Int.reduceBEq]<;>first|with_reducible rfl|omega)|omega)
     |(with_reducible apply A5;· first|with_reducible rfl|(simp (disch:=omega) only[gF,H6,pk,w0,e6,Int.reduceBEq]<;>omega))
    try simp (disch:=omega) only[H6,pk,w0,e6,Int.reduceBEq]
    rfl
   ·rw[g]
    try unfold Ab
    repeat first
     |((with_reducible first|apply A1|apply As|apply A3|apply Au|apply A4|apply Dr|apply At|apply A0|apply A2);· first|with_reducible rfl|(simp (disch:=omega) only[gT,H6,pk,w0,e6,Int.reduceBEq]<;>first|with_reducible rfl|omega)|omega)
     |(with_reducible apply A5;· first|with_reducible rfl|(simp (disch:=omega) only[gF,H6,pk,w0,e6,Int.reduceBEq]<;>omega))
    try simp (disch:=omega) only[H6,pk,w0,e6,Int.reduceBEq]
    rfl
   ·rw[g];obtain⟨n1,n2,n3,n4,n5,n6,n7,n8⟩:=g1;have m1:(c==(34:Int))=false:=by simp[n1]
    have m2:(c==(92:Int))=false:=by simp[n2]
    have m3:(c==(47:Int))=false:=by simp[n3]
    have m4:(c==(98:Int))=false:=by simp[n4]
    have m5:(c==(102:Int))=false:=by simp[n5]
    have m6:(c==(110:Int))=false:=by simp[n6]
    have m7:(c==(114:Int))=false:=by simp[n7]
    have m8:(c==(116:Int))=false:=by simp[n8]
    try unfold Ab
    repeat first
     |((with_reducible first|apply A1|apply As|apply A3|apply Au|apply A4|apply Dr|apply At|apply A0|apply A2);· first|with_reducible rfl|(simp (disch:=omega) only[gT,H6,pk,w0,e6,m1,m2,m3,m4,m5,m6,m7,m8]<;>first|with_reducible rfl|omega)|omega)
     |(with_reducible apply A5;· first|with_reducible rfl|(simp (disch:=omega) only[gF,H6,pk,w0,e6,m1,m2,m3,m4,m5,m6,m7,m8]<;>omega))
    try simp (disch:=omega) only[H6,pk,w0,e6,m1,m2,m3,m4,m5,m6,m7,m8]
    rfl
theorem Pk {t:ByteArray}{l:List Int}(h:Cz t l):Cz t (Lt l).2:=by
 have Arv:∀l,Cz t l->Cz t (Mf l).2:=by
  intro l h;have h1:=Sg 4 0 l h;unfold Mf;rcases hq:Qo 4 0 l with⟨o,r⟩;rw[hq] at h1;cases o with
  |none=>exact h1
  |some x=>
   simp only;split
   ·exact h1
   split
   ·exact h1
   split
   ·have h2:=Sg 4 0 (r.drop 2) (Cz.drop h1 2);unfold SI;rcases J5:Qo 4 0 (r.drop 2) with⟨o2,r2⟩;rw[J5] at h2;cases o2 with
    |none=>exact h2
    |some y=>
     simp only;split<;>exact h2
   ·exact h1
 cases l with
 |nil=>exact h
 |cons c r=>
  have he:Lt (c::r)=if c=117 then Mf r else match R4 c with|some x=>(some x,r)|none=>(none,c::r):=rfl
  rw[he];split
  ·exact Arv r h.tail
  ·cases R4 c with
   |none=>exact h
   |some x=>exact h.tail
end
end
section
open Go.Proofs.Tryd (prog)
open Go.IntKind (wrap)
set_option maxRecDepth 20000
open Go Go.RowKit
theorem D9.refl (w:World)(b o n:Nat):D9 w w b o n:=⟨rfl,rfl,rfl,Nat.le_refl _,F1.refl _ _,fun _ _ _=>rfl,fun _ _=>rfl,fun _ _=>rfl⟩
theorem D9.trans {w w' w'':World}{b o n:Nat}(h:D9 w w' b o n)(k:D9 w' w'' b o n):D9 w w'' b o n:=
 ⟨k.os.trans h.os,k.tape.trans h.tape,k.output.trans h.output,Nat.le_trans h.size k.size,h.grow.trans k.grow,fun i hi Ec=>(k.other i (Nat.lt_of_lt_of_le hi h.size) Ec).trans (h.other i hi Ec),fun j hj=>(k.cells j hj).trans (h.cells j hj),fun j hj=>(k.frz j hj).trans (h.frz j hj)⟩
theorem D9.below {w w' w'':World}{b o n:Nat}(h:D9 w w' b o n)(k:Below w.heap.size w' w'')(hb:b<w.heap.size):D9 w w'' b o n:=
 ⟨k.os.trans h.os,k.tape.trans h.tape,k.output.trans h.output,Nat.le_trans h.size k.size,h.grow.trans (F1.same (k.block b hb)),fun i hi Ec=>(k.block i hi).trans (h.other i hi Ec),fun j hj=>(k.cell (p:=⟨b,j,none⟩) hb).trans (h.cells j hj),fun j hj=>(k.frozen (p:=⟨b,j,none⟩) hb).trans (h.frz j hj)⟩
theorem D9.drew {w w':World}{b o n:Nat}(h:D9 w w' b o n):D9 w w'.drew b o n:=⟨h.os,h.tape,h.output,h.size,h.grow,h.other,h.cells,h.frz⟩
theorem D9.setCell (w:World)(b o n j:Nat)(v:Value)(hj:o<=j)(hj2:j<o+n)(hb:b<w.heap.size):D9 w (w.setCell ⟨b,j,none⟩ v) b o n:=by
 have hw:De b w (w.setCell ⟨b,j,none⟩ v):=De.setCells b [v] j w;refine⟨hw.os,hw.tape,hw.output,Nat.le_of_eq hw.size.symm,hw.grow b,fun k hk Ec=>hw.other k Ec,fun i hi=>?_,fun i _=>hw.frz i⟩
 exact World.cell?_setCell_other _ _ _ _ (by intro e;injection e;omega)
theorem Ta {T e:TypeId}{B c:Nat}{bs:List Value}{W W':World}{b o n:Nat}(h:Lib.IsBuilderF T e B c bs W)(hk:D9 W W' b o n)(hb:b<B):Lib.IsBuilderF T e B c bs W':=by
 have key:∀p,Lib.BuilderAtF T e B c p bs W->Lib.BuilderAtF T e B c p bs W':=by
  intro p h;have B4:=h.lt;obtain⟨hB,v,hv,Fa,Ec⟩:=h;refine⟨hB,v,(hk.other c B4 (by omega)).trans hv,Fa.kept (row:=some b) ⟨hk.os,hk.tape,hk.output,hk.size,fun k I3 Aln=>hk.other k I3 (fun e=>Aln (by rw[e]))⟩ ?_,Ec⟩
  rcases Fa.2 with⟨rfl,_⟩|⟨g,cap,cur,fz,rfl,hg,_⟩
  ·exact .inl rfl
  ·refine .inr (fun e=>?_)
   simp[Value.ownBlock] at e;omega
 exact h.imp (key _) (key _)
def GR:Rx:=⟨fun _=>False,fun _=>True,fun _ _ _ _=>trivial⟩
def noR:FuncId->Option (List PV->Option Ay):=fun _=>none
theorem Amx:DC GR prog (CX noR):=by
 intro f g args res h _;have h':(bif To.any (Nat.beq f) then none else (none:Option (List PV->Option Ay)))=some g:=h;cases hb:To.any (Nat.beq f)<;>rw[hb] at h'<;>cases h'
theorem ngR:NoNG prog:=by
 have h:(prog.funcs.toList.all fun fn=> !(fn.name == "runtime.NumGoroutine"))=true:=by kernel_rfl
 intro f fn hf;have:=List.all_eq_true.1 h fn (Array.mem_toList_iff.2 (Array.mem_of_getElem? hf))
 simpa using this
theorem mxR:prog.follows .mixedOrders=true:=by kernel_rfl
structure Tt (w:World) (b o:Nat) (t:ByteArray) (r:List Int):Prop where
 lt:b<w.heap.size
 c0:w.cell? ⟨b,o,none⟩=some (.string t)
 c1:w.cell? ⟨b,o+1,none⟩=some (.int .i64 (Bp t r:Int))
 f0:w.frozen? ⟨b,o,none⟩=false
 f1:w.frozen? ⟨b,o+1,none⟩=false
theorem HN {f:FuncId}{t:ByteArray}{r r':List Int}{args vals:List PV}{us rs:List Value}{d:Nat}(e:Ae (CX noR) prog 2000 d f (.pbox (Bw t r)::args)=some ⟨vals,[Bw t r']⟩) (ha:Bb AJ args us)(hr:Bb AJ vals rs)
  {w:World} {b o:Nat} (h:Tt w b o t r):Calls prog f (.pointer (some ⟨b,o,none⟩)::us).toArray w fun e w'=>e=.returned (Gn rs)∧Tt w' b o t r'∧D9 w w' b o 2:=by
 have hs:Cw GR prog f (.pbox ([Value.string t,.int .i64 (Bp t r:Int)].map .sc)::args) ⟨vals,[[Value.string t,.int .i64 (Bp t r':Int)].map .sc]⟩:=G9 ngR mxR Amx d f _ _ e;refine (ES hs ha hr (w:=w) (b:=b) (o:=o) trivial (fun _ h=>h.elim) h.lt ?_ ?_).mono ?_
 ·intro j v hv
  match j,hv with
  |0,hv=>cases hv;exact h.c0
  |1,hv=>cases hv;exact h.c1
 ·intro j hj
  match j,hj with
  |0,_=>exact h.f0
  |1,_=>exact h.f1
 ·rintro e w' ⟨rfl,_,h4,h5,hk⟩
  exact⟨rfl,⟨Nat.lt_of_lt_of_le h.lt hk.size,h4 0 _ rfl,h4 1 _ rfl,h5 0 (Nat.zero_lt_succ _),h5 1 (Nat.succ_lt_succ (Nat.zero_lt_succ _))⟩,hk⟩
theorem Ge {t:ByteArray}{r w0:List Int}(hS:Cz t r)(ht:t.size<=1000000)(hw:Do w0)(hw2:w0.length<=100){w:World}{b o:Nat}(h:Tt w b o t r):
  Calls prog 67 #[.pointer (some ⟨b,o,none⟩),.string (Ac w0)] w fun e w'=>e=.returned (.bool (Ap w0 r).isSome)∧Tt w' b o t ((Ap w0 r).getD r)∧D9 w w' b o 2:=by
 have e:=O5 (fu:=2000) (d:=0) (xs:=noR) hS ht hw hw2;cases hq:Ap w0 r with
 |none=>
  rw[hq] at e;exact HN (us:=[.string (Ac w0)]) (rs:=[.bool false]) e ⟨.inl rfl,trivial⟩ ⟨.inl rfl,trivial⟩ h
 |some r'=>
  rw[hq] at e;exact HN (us:=[.string (Ac w0)]) (rs:=[.bool true]) e ⟨.inl rfl,trivial⟩ ⟨.inl rfl,trivial⟩ h
theorem VC {t:ByteArray}{r:List Int}(hS:Cz t r)(ht:t.size<=1000000){w:World}{b o:Nat}(h:Tt w b o t r):
  Calls prog 88 #[.pointer (some ⟨b,o,none⟩)] w fun e w'=>e=.returned (.tuple #[.int .i32 ((Lt r).1.getD 0),.bool (Lt r).1.isSome])∧Tt w' b o t (Lt r).2∧D9 w w' b o 2:=by
 have e:=Arg (fu:=2000) (d:=0) (xs:=noR) (by omega) hS ht
 exact HN (us:=[]) (rs:=[.int .i32 ((Lt r).1.getD 0),.bool (Lt r).1.isSome]) e trivial ⟨.inl rfl,.inl rfl,trivial⟩ h
end
section
open Go.Proofs.Tryd (prog)
open Go.IntKind (wrap)
set_option maxRecDepth 1000000
open Go Go.RowKit Go.Lib
def A1z (o:Option (List Int)):Value:=.tuple #[.string (Ac (o.getD [])),.bool o.isSome]
theorem Tt.below {B:Nat}{w w':World}{b o:Nat}{t:ByteArray}{r:List Int}(h:Tt w b o t r)(hb:Below B w w')(hB:b<B):Tt w' b o t r:=
 ⟨Nat.lt_of_lt_of_le h.lt hb.size,(hb.cell (p:=⟨b,o,none⟩) hB).trans h.c0,(hb.cell (p:=⟨b,o+1,none⟩) hB).trans h.c1,(hb.frozen (p:=⟨b,o,none⟩) hB).trans h.f0,(hb.frozen (p:=⟨b,o+1,none⟩) hB).trans h.f1⟩
theorem Aac {l:List Int}(h:Do l):(Lt l).2.length<=l.length:=by
 have h1:Cz (Ac l) l:=⟨[],by rw[C9 h];rfl⟩
 have:=(Pk h1).len
 rwa [Aw] at this
theorem HH {l r:List Int}{x:Int}(h:Mf l=(some x,r)):0<=x∧x<=1114111:=by
 have hb:=Fz 4 0 l;unfold Mf at h;rcases hq:Qo 4 0 l with⟨o,r1⟩;rw[hq] at h;cases o with
 |none=>cases h
 |some y=>
  have by_:=hb y r1 hq (by omega)
  simp only at h;split at h
  ·cases h
  split at h
  ·cases h;omega
  split at h
  ·have Gw:=Fz 4 0 (r1.drop 2);unfold SI at h;rcases J5:Qo 4 0 (r1.drop 2) with⟨o2,r2⟩;rw[J5] at h;cases o2 with
   |none=>cases h
   |some z=>
    have bz:=Gw z r2 J5 (by omega)
    simp only at h;split at h
    ·rename_i hz
     have lz:56320<=z∧z<=57343:=by
      unfold JI at hz
      simpa using hz
     cases h;omega
    ·cases h
  ·cases h
theorem KK {l r:List Int}{x:Int}(h:Lt l=(some x,r)):0<=x∧x<=1114111:=by
 cases l with
 |nil=>cases h
 |cons c l=>
  have he:Lt (c::l)=if c=117 then Mf l else match R4 c with|some x=>(some x,l)|none=>(none,c::l):=rfl
  rw[he] at h;split at h
  ·exact HH h
  ·rcases EB c with⟨rfl,g⟩|⟨rfl,g⟩|⟨rfl,g⟩|⟨rfl,g⟩|⟨rfl,g⟩|⟨rfl,g⟩|⟨rfl,g⟩|⟨rfl,g⟩|⟨g1,g⟩<;>rw[g] at h<;>cases h<;>omega
set_option maxHeartbeats 4000000 in
theorem MS {t:ByteArray}{r:List Int}(hS:Cz t r)(ht:t.size<=1000000){w:World}{b o:Nat}(h:Tt w b o t r):
    Calls prog 68 #[.pointer (some ⟨b,o,none⟩)] w fun e w'=>e=.returned (A1z (Er r).1)∧Tt w' b o t (Er r).2∧D9 w w' b o 2:=by
  have mixed:prog.follows Departure.mixedOrders=true:=by kernel_rfl
  have hac:=Ge hS ht (w0:=[34]) (fun x hx=>by simp at hx;omega) (by decide) h
  go_enter Tryd.func68,Tryd.ntmps68
  go_wp2_with (go_at_call 67;refine hac.mono ?_)
  rintro e W1 ⟨rfl,h1,k1⟩
  cases hq:Ap [34] r with
  |none=>
    rw[hq] at h1
    go_wp2
    go_ret2
    have e:Er r=(none,r):=by
      cases r with
      |nil=>rfl
      |cons c l=>
        have hc:c≠34:=by
          rintro rfl
          unfold Ap at hq
          rw[E7 (by simp[List.isPrefixOf])] at hq
          cases hq
        show (if c=34 then _ else (none,c::l))=_
        rw[Dz hc]
    rw[e]
    exact⟨rfl,h1,k1⟩
  |some r1=>
    rw[hq] at h1
    have AX:r=34::r1:=by
      unfold Ap at hq
      split at hq
      · rename_i hp
        obtain⟨s,hs⟩:=List.isPrefixOf_iff_prefix.1 hp
        rw[←hs] at hq ⊢
        cases hq
        rfl
      · cases hq
    subst AX
    have e:Er (34::r1)=Jb (r1.length+1) [] r1:=by
      show (if (34:Int)=34 then Jb (r1.length+1) [] r1 else (none,34::r1))=_
      exact E7 rfl
    have UV:Cz t r1:=hS.tail
    have h2:Tt (W1.alloc (.cells #[.pointer none,.slice none 0 0] 53)) b o t r1:=by
      have hb:Below W1.heap.size W1 (W1.alloc (.cells #[.pointer none,.slice none 0 0] 53)):=(Below.refl _ W1).alloc (Nat.le_refl _) _
      exact⟨Nat.lt_of_lt_of_le h1.lt hb.size,(hb.cell (p:=⟨b,o,none⟩) h1.lt).trans h1.c0,(hb.cell (p:=⟨b,o+1,none⟩) h1.lt).trans h1.c1,(hb.frozen (p:=⟨b,o,none⟩) h1.lt).trans h1.f0,(hb.frozen (p:=⟨b,o+1,none⟩) h1.lt).trans h1.f1⟩
    have k2:D9 w (W1.alloc (.cells #[.pointer none,.slice none 0 0] 53)) b o 2:=k1.below ((Below.refl _ W1).alloc (Nat.le_refl _) _ |>.mono k1.size) h.lt
    have hB1:b<W1.heap.size:=h1.lt
    have hw1:w.heap.size<=W1.heap.size:=k1.size
    go_wp2
    go_loopw [] (fun wr=>∃(n:Nat) (out l:List Int),Jb (r1.length+1) [] r1=Jb n out l∧l.length<n∧Do out∧out.length+4*l.length<=4*t.size∧Cz t l∧Tt wr b o t l∧D9 w wr b o 2∧W1.heap.size<=wr.heap.size∧Lib.IsBuilderF 53 5 W1.heap.size W1.heap.size (KJ out) wr) (fun wr=>match wr.cell? ⟨b,o+1,none⟩ with|some (.int _ p)=>t.size-p.toNat|_=>0)
    case atStart=>
      exact⟨r1.length+1,[],r1,rfl,Nat.lt_succ_self _,(fun x hx=>by cases hx),(by have:=UV.len;simp;omega),UV,h2,k2,((Below.refl W1.heap.size W1).alloc (Nat.le_refl _) _).size,Lib.IsBuilderF.of (Lib.fresh_isBuilder 53 5 W1)⟩
    case round=>
      obtain⟨n,out,l,E8,hn,hoB,hol,hSl,hat,hk,hws,hI⟩:=hrel
      obtain⟨B4,VJ,AU,hf0,hf1⟩:=hat
      cases l with
      |nil=>
        rw[Th] at AU
        go_wp2
        go_region_o
        go_wp2
        go_ret2
        rw[e,E8]
        obtain⟨m,rfl⟩:∃m,n=m+1:=⟨n-1,by omega⟩
        exact⟨rfl,⟨B4,VJ,AU,hf0,hf1⟩,hk.drew⟩
      |cons c l=>
        obtain⟨m,rfl⟩:∃m,n=m+1:=⟨n-1,by omega⟩
        obtain⟨bb,TC,rfl⟩:=hSl.at
        have hll:=hSl.len
        have Sd:Bp t ((bb.toNat:Int)::l)<t.size:=by
          unfold Bp
          rw[QI] at hll ⊢
          omega
        have TO:=J7 hSl
        have NN:t[Bp t ((bb.toNat:Int)::l)]'(Sd)=bb:=by
          rw[Array.getElem?_toList,Array.getElem?_eq_getElem Sd] at TC
          exact Option.some.inj TC
        have hcb:=bb.toNat_lt
        generalize hp:Bp t ((bb.toNat:Int)::l)=p at *
        have A7n:(p:Int)<t.size:=by omega
        have kw:D9 wr (wr.setCell ⟨b,o+1,none⟩ (.int .i64 ((p:Int)+1))).drew.drew b o 2:=((D9.setCell wr b o 2 (o+1) _ (by omega) (by omega) B4).drew).drew
        have D8:=hk.trans kw
        have PC:=Ta hI kw hB1
        have FU:Tt (wr.setCell ⟨b,o+1,none⟩ (.int .i64 ((p:Int)+1))).drew.drew b o t l:=by
          refine⟨Nat.lt_of_lt_of_le B4 kw.size,?_,?_,?_,?_⟩
          · exact (World.cell?_setCell_other _ _ _ _ (by intro e;injection e;omega)).trans VJ
          · have:(Bp t l:Int)=(p:Int)+1:=by omega
            rw[this]
            exact World.cell?_setCell_same _ _ _ AU
          · exact (World.frozen?_setCell _ _ _ _).trans hf0
          · exact (World.frozen?_setCell _ _ _ _).trans hf1
        have Afp:W1.heap.size<=(wr.setCell ⟨b,o+1,none⟩ (.int .i64 ((p:Int)+1))).drew.drew.heap.size:=Nat.le_trans hws kw.size
        have XS:Jb (m+1) out ((bb.toNat:Int)::l)=if (bb.toNat:Int)<32 then (none,(bb.toNat:Int)::l) else if (bb.toNat:Int)=34 then (some out,l) else if (bb.toNat:Int)=92 then
            (match Lt l with
             |(some x,r')=>Jb m (out++Lib.encodeRuneZ x) r'
             |(none,r')=>(none,r')) else Jb m (out++[(bb.toNat:Int)]) l:=rfl
        rw[XS] at E8
        have A49:(KJ out).length+4<=140737488355328:=by
          rw[List.length_map]
          omega
        by_cases Apo:(bb.toNat:Int)<32
        · rw[E7 Apo] at E8
          go_wp2
          go_region_o
          go_wp2
          go_region_o
          go_wp2
          go_ret2
          rw[e,E8]
          exact⟨rfl,⟨B4,VJ,by rw[hp];exact AU,hf0,hf1⟩,hk.drew.drew⟩
        · rw[Dz Apo] at E8
          by_cases Arx:(bb.toNat:Int)=34
          · rw[E7 Arx] at E8
            go_wp2
            go_region_o
            go_wp2
            go_region_o
            go_wp2_with (go_at_call 25;refine (Any.Builder_String_any_k Zx Qh W1.heap.size W1.heap.size (out.map fun n=>n.toNat.toUInt8) _ (by rw[←U6 hoB];exact PC) Afp).mono ?_)
            rintro e2 W3 ⟨rfl,_,b3,_⟩
            go_wp2
            go_ret2
            rw[e,E8]
            exact⟨rfl,FU.below b3 hB1,D8.below (b3.mono hw1) h.lt⟩
          · rw[Dz Arx] at E8
            by_cases Aos:(bb.toNat:Int)=92
            · rw[E7 Aos] at E8
              have Df:=VC hSl.tail ht FU
              go_wp2
              go_region_o
              go_wp2
              go_region_o
              go_wp2_with (go_at_call 88;refine Df.mono ?_)
              rintro e2 W3 ⟨rfl,WH,k3⟩
              have I1:=D8.trans k3
              have hI3:=Ta PC k3 hB1
              have Aqf:=Nat.le_trans Afp k3.size
              have hel:=Aac (l:=l) hSl.tail.B
              have Qp:=Pk hSl.tail
              rcases hqe:Lt l with⟨oe,le⟩
              rw[hqe] at WH E8 hel Qp
              cases oe with
              |none=>
                go_wp2
                go_ret2
                rw[e,E8]
                exact⟨rfl,WH,I1⟩
              |some x=>
                have I2:=KK hqe
                go_wp2_with (go_at_call 89;refine (Any.Builder_WriteRune_k RH Qh W1.heap.size W1.heap.size _ x (by omega) (by omega) _ hI3 (by omega) Aqf).mono ?_)
                rintro e3 W4 ⟨rfl,i4,b4,_⟩
                go_wp2
                have Aq2:=WH.below b4 hB1
                have hrl:=Lib.encodeRuneZ_length x
                refine⟨⟨m,out++Lib.encodeRuneZ x,le,E8,by simp at hn hel;omega,Kd hoB (fun y hy=>by have:=Lib.encodeRuneZ_byte x y hy;omega),by simp at hol hel ⊢;omega,Qp,Aq2,I1.below (b4.mono hw1) h.lt,Nat.le_trans Aqf b4.size,by rw[IH];exact Or.inr i4⟩,?_⟩
                have Xc:=Qp.len
                have HX:Bp t l<=Bp t le:=by unfold Bp;omega
                have hp4:Bp t le<=t.size:=Nat.sub_le _ _
                simp only[Aq2.c1,AU,Oo]
                omega
            · rw[Dz Aos] at E8
              go_wp2
              go_region_o
              go_wp2
              go_region_o
              go_wp2_with (go_at_call 24;refine (Any.Builder_WriteByte_k Yo Qh W1.heap.size W1.heap.size _ _ _ PC (by omega) Afp).mono ?_)
              rintro e2 W3 ⟨rfl,i3,b3,_⟩
              go_wp2
              have WH:=FU.below b3 hB1
              refine⟨⟨m,out++[(bb.toNat:Int)],l,E8,by simp at hn;omega,Kd hoB (fun x hx=>by simp at hx;omega),by simp at hol ⊢;omega,hSl.tail,WH,D8.below (b3.mono hw1) h.lt,Nat.le_trans Afp b3.size,by rw[IH];exact Or.inr i3⟩,?_⟩
              simp only[WH.c1,AU,Oo]
              omega
end
section
open Go.Proofs.Tryd (prog)
open Go.IntKind (wrap)
set_option maxRecDepth 100000
open Go Go.RowKit
theorem Za {t:ByteArray}:∀(n:Nat)(out l:List Int),Cz t l->Cz t (Jb n out l).2
  |0,_,_,h=>h
  |_+1,_,[],h=>h
  |n+1,out,c::l,h=>by
    have e:Jb (n+1) out (c::l)=if c<32 then (none,c::l) else if c=34 then (some out,l) else if c=92 then
        (match Lt l with
         |(some x,r')=>Jb n (out++Lib.encodeRuneZ x) r'
         |(none,r')=>(none,r')) else Jb n (out++[c]) l:=rfl
    rw[e]
    split
    · exact h
    split
    · exact h.tail
    split
    · have h2:=Pk h.tail
      rcases hq:Lt l with⟨o,r⟩
      rw[hq] at h2
      cases o with
      |none=>exact h2
      |some x=>exact Za n _ r h2
    · exact Za n _ l h.tail
theorem Gf {t:ByteArray}{l:List Int}(h:Cz t l):Cz t (Er l).2:=by
 cases l with
 |nil=>exact h
 |cons c l=>
  have e:Er (c::l)=if c=34 then Jb (l.length+1) [] l else (none,c::l):=rfl
  rw[e];split
  ·exact Za _ _ _ h.tail
  ·exact h
theorem Abz {w w':World}{Y:Nat->Prop}{bt:Ud}{vs vs':List Value}{us:List Value}{b o:Nat}{a c:Value}(hi:Ins w Y bt [.pbox (vs.map .sc)] us) (hb:bt 0 0=some (b,o)) (hk:D9 w w' b o vs.length)(hl:vs'.length=vs.length)
  (hc:∀j v,vs'[j]?=some v->w'.cell? ⟨b,o+j,none⟩=some v) (hf:∀j,j<vs.length->w'.frozen? ⟨b,o+j,none⟩=false):
  Out w w' Y bt [.pbox (vs.map .sc)] (fun _=>none) ⟨[.sc a,.sc c],[vs'.map .sc]⟩ [a,c] where
 os:=hk.os
 tape:=hk.tape
 output:=hk.output
 ext:=⟨hk.size,fun k h Ec=>hk.other k h (fun e=>Ec (by rw[e];exact⟨0,0,o,hb⟩)),fun k h=>by
  by_cases e:k=b
  ·rw[e];exact hk.grow
  ·exact F1.same (hk.other k h e)⟩
 rng:=fun k j h hn=>by
  by_cases e:k=b
  ·subst e
   have hj:j<o∨o+vs.length<=j:=by
    rcases Nat.lt_or_ge j o with h1|h1
    ·exact .inl h1
    ·rcases Nat.lt_or_ge j (o+vs.length) with h2|h2
     ·exact absurd ⟨0,_,rfl,.inr ⟨o,vs.map .sc,hb,h1,.inl ⟨rfl,by rw[List.length_map];exact h2⟩⟩⟩ hn
     ·exact .inr h2
   exact⟨hk.cells j hj,hk.frz j hj⟩
  ·have:=hk.other k h e;exact⟨by unfold World.cell?;simp only[this],by unfold World.frozen?;simp only[this]⟩
 vals:=⟨Ar.sc a,Ar.sc c,trivial⟩
 outs:=⟨⟨b,o,hb,by rw[List.length_map,List.length_map,hl],vs',Qc,hc,fun k h=>hf k (by rw[List.length_map,hl] at h;exact h)⟩,rfl⟩
 fresh:=fun j b o h=>by cases h
 inj:=fun j j' b o o' h=>by cases h
theorem TW (G:Rx)(args:List PV)(res:Ay)(h:Aba args=some res):Cw G prog 68 args res:=by
 refine⟨⟨_,Tryd.func68,by kernel_rfl⟩,fun w Y bt us hi _ _=>?_⟩
 unfold Aba at h;split at h
 rotate_left
 ·cases h
 rename_i t p;cases hq:(decide (0<=p)&&decide (p<=t.size)&&Nat.ble t.size 1000000)
 ·rw[hq] at h;cases h
 rw[hq,cond_true] at h;simp only[Bool.and_eq_true,decide_eq_true_eq] at hq;obtain⟨⟨Gm,Cb⟩,hm⟩:=hq;have hm:=Nat.le_of_ble_eq_true hm;obtain⟨p,rfl⟩:=Int.eq_ofNat_of_zero_le Gm;rw[Oo] at h;have hS:Cz t ((D2 t).drop p):=(Cz.all t).drop p
 have VE:(Bp t ((D2 t).drop p):Int)=(p:Int):=by
  unfold Bp;rw[List.length_drop,En];omega
 have ps:=hi.args
 match us,ps with
 |[u1],ps=>
  obtain⟨b,o,hb,rfl,_,vs,Xt,Cm,XZ⟩:=ps.1;have Of:=Px (vs:=[.string t,.int .i64 (p:Int)]) Xt;subst Of;have hat:Tt w b o t ((D2 t).drop p):=⟨hi.lt b ⟨0,0,o,hb⟩,Cm 0 _ rfl,by rw[VE];exact Cm 1 _ rfl,XZ 0 (Nat.zero_lt_succ _),XZ 1 (Nat.succ_lt_succ (Nat.zero_lt_succ _))⟩
  refine (MS hS hm hat).mono ?_
  rintro e w' ⟨rfl,FU,hk⟩
  rcases hx:Er ((D2 t).drop p) with⟨o2,r2⟩;rw[hx] at h FU
  have FR:r2.length<=t.size:=by
   have:=Gf hS;rw[hx] at this;exact this.len
  have Aq4:(Bp t r2:Int)=(t.size:Int)-r2.length:=by
   unfold Bp;omega
  have Rf:∀a c:Value,Out w w' Y bt [.pbox ([Value.string t,.int .i64 (p:Int)].map .sc)] (fun _=>none) ⟨[.sc a,.sc c],[[Value.string t,.int .i64 ((t.size:Int)-r2.length)].map .sc]⟩ [a,c]:=by
   intro a c;refine Abz hi hb hk rfl ?_ ?_
   ·intro j v hv
    match j,hv with
    |0,hv=>cases hv;exact FU.c0
    |1,hv=>cases hv;rw[←Aq4];exact FU.c1
   ·intro j hj
    match j,hj with
    |0,_=>exact FU.f0
    |1,_=>exact FU.f1
  cases o2 with
  |none=>
   cases h;exact⟨[.string ⟨#[]⟩,.bool false],fun _=>none,rfl,Rf _ _⟩
  |some s=>
   cases h;exact⟨[.string (Ac s),.bool true],fun _=>none,rfl,Rf _ _⟩
 |[],ps=>exact ps.elim
 |_::_::_,ps=>exact ps.2.elim
end
section
open Go.Proofs.Tryd (prog)
open Go.IntKind (wrap)
set_option maxRecDepth 100000
abbrev Jj:FuncId:=27
theorem Jm {p:Option (List PV->Option Ay)} (fu d:Nat)(a0:ByteArray)(a1:Int):Ae (CP p) prog fu (d+1) Jj [.sc (.string a0),.sc (.int .u8 a1)]=(fun (call:Ax)=>Ah (call 40 [.sc (.string a0),.sc (.int .u8 a1)]) fun x1 x2=>Ad x2<|Aa x1 fun x3 x4=>Ak .i64 x3 fun x5=>Ad x4<|some (Ay.mk [.sc (.int .i64 x5)] [])) (Ae (CP p) prog fu d):=by kernel_rfl
abbrev Fb:FuncId:=50
noncomputable def Cx (fu:Nat)(call:Ax)(Br:ByteArray)(Bl:Int)(nn:Nat)(y0:ByteArray)(y1:Int):Option Ay:=Iy CB prog fu call 50 Tryd.f50 (F5 Tryd.f50) [.pbox [.sc (.string Br),.sc (.int .i64 Bl)]] [.l] nn ⟨lk [(0,(.ptr 64000 0))],Jl [(64000,(.st [(.sc (.string y0)),(.sc (.int .i64 y1))]))]⟩
theorem Eo (fu:Nat)(call:Ax)(Br:ByteArray)(Bl:Int)(nn:Nat)(y0:ByteArray)(y1:Int):Cx fu call Br Bl (nn+1) y0 y1=(Bh (decide (y1<(↑(ByteArray.size y0):Int))) (Bi (decide (0<=y1))<|Dk ((Array.toList (ByteArray.data y0))[Int.toNat y1]?) fun x1=>Ah (call 27 [.sc (.string (ByteArray.mk #[32,9,10,13])),.sc (.int .u8 (↑(UInt8.toNat x1):Int))]) fun x2 x3=>Ad x3<|Aa x2 fun x4 x5=>Ak .i64 x4 fun x6=>Ad x5<|Bh (decide (x6>=0)) (Ab (wrap .i64 (y1+1)) fun x7=>Cx fu call Br Bl (nn) (y0) x7) (some (Ay.mk [] [[.sc (.string y0),.sc (.int .i64 y1)]]))) (some (Ay.mk [] [[.sc (.string y0),.sc (.int .i64 y1)]]))):=by kernel_rfl
theorem Iq {p:Option (List PV->Option Ay)} (fu d:Nat)(Br:ByteArray)(Bl:Int):Ae (CP p) prog fu (d+1) Fb [.pbox [.sc (.string Br),.sc (.int .i64 Bl)]]=(fun (call:Ax)=>Cx fu call Br Bl (fu) (Br) (Bl)) (Ae (CP p) prog fu d):=by kernel_rfl
abbrev E0:FuncId:=107
noncomputable def Co (fu:Nat)(call:Ax)(Br:ByteArray)(Bl:Int)(nn:Nat)(y0:Int)(y1:ByteArray)(y2:Int):Option Ay:=Iy CB prog fu call 107 Tryd.f107 (F5 Tryd.f107) [.pbox [.sc (.string Br),.sc (.int .i64 Bl)]] [.r,.r,.l,.l] nn ⟨lk [(0,(.ptr 58000 0)),(3,(.sc (.int .i64 y0)))],Jl [(58000,(.st [(.sc (.string y1)),(.sc (.int .i64 y2))]))]⟩
theorem El (fu:Nat)(call:Ax)(Br:ByteArray)(Bl:Int)(nn:Nat)(y0:Int)(y1:ByteArray)(y2:Int):Co fu call Br Bl (nn+1) y0 y1 y2=(Ah (call 90 [.pbox [.sc (.string y1),.sc (.int .i64 y2)]]) fun x1 x2=>Aa x1 fun x3 x4=>Ak .u8 x3 fun x5=>Ad x4<|Aa x2 fun x6 x7=>Aa x6 fun x8 x9=>Az x8 fun Ft=>Aa x9 fun Lr L4=>Ak .i64 Lr fun Fc=>Ad L4<|Ad x7<|Bh (decide (x5>=48)) (Ah (call 90 [.pbox [.sc (.string Ft),.sc (.int .i64 Fc)]]) fun Jh M4=>Aa Jh fun K2 I7=>Ak .u8 K2 fun Lq=>Ad I7<|Aa M4 fun L5 Mj=>Aa L5 fun Mm N2=>Az Mm fun K8=>Aa N2 fun M9 Lx=>Ak .i64 M9 fun L3=>Ad Lx<|Ad Mj<|Bh (decide (Lq<=57)) (Ab (wrap .i64 (L3+1)) fun Mc=>Co fu call Br Bl (nn) (y0) K8 Mc) (some (Ay.mk [.sc (.bool (decide (L3>y0)))] [[.sc (.string K8),.sc (.int .i64 L3)]]))) (some (Ay.mk [.sc (.bool (decide (Fc>y0)))] [[.sc (.string Ft),.sc (.int .i64 Fc)]]))):=by kernel_rfl
theorem H1 {p:Option (List PV->Option Ay)} (fu d:Nat)(Br:ByteArray)(Bl:Int):Ae (CP p) prog fu (d+1) E0 [.pbox [.sc (.string Br),.sc (.int .i64 Bl)]]=(fun (call:Ax)=>Co fu call Br Bl (fu) (Bl) (Br) (Bl)) (Ae (CP p) prog fu d):=by kernel_rfl
abbrev E3:FuncId:=92
theorem Ag {p:Option (List PV->Option Ay)} (fu d:Nat)(Br:ByteArray)(Bl:Int):Ae (CP p) prog fu (d+1) E3 [.pbox [.sc (.string Br),.sc (.int .i64 Bl)]]=(fun (call:Ax)=>Ah (call 67 [.pbox [.sc (.string Br),.sc (.int .i64 Bl)],.sc (.string (ByteArray.mk #[45]))]) fun x1 x2=>Aa x1 fun x3 x4=>Aq x3 fun x5=>Ad x4<|Aa x2 fun x6 x7=>Aa x6 fun x8 x9=>Az x8 fun Ft=>Aa x9 fun Lr L4=>Ak .i64 Lr fun Fc=>Ad L4<|Ad x7<|Ah (call 67 [.pbox [.sc (.string Ft),.sc (.int .i64 Fc)],.sc (.string (ByteArray.mk #[48]))]) fun Jh M4=>Aa Jh fun K2 I7=>Aq K2 fun Lq=>Ad I7<|Aa M4 fun L5 Mj=>Aa L5 fun Mm N2=>Az Mm fun K8=>Aa N2 fun M9 Lx=>Ak .i64 M9 fun L3=>Ad Lx<|Ad Mj<|Bh (!Lq) (Ah (call 107 [.pbox [.sc (.string K8),.sc (.int .i64 L3)]]) fun Mc Oc=>Aa Mc fun Md N9=>Aq Md fun Ol=>Ad N9<|Aa Oc fun Og Np=>Aa Og fun Oj O8=>Az Oj fun Rd=>Aa O8 fun Se Tu=>Ak .i64 Se fun Pr=>Ad Tu<|Ad Np<|Bh (!Ol) (some (Ay.mk [.sc (.bool false)] [[.sc (.string Rd),.sc (.int .i64 Pr)]])) (Ah (call 67 [.pbox [.sc (.string Rd),.sc (.int .i64 Pr)],.sc (.string (ByteArray.mk #[46]))]) fun BD BA=>Aa BD fun Qn P4=>Aq Qn fun X3=>Ad P4<|Aa BA fun Xh BL=>Aa Xh fun AV BS=>Az AV fun Yh=>Aa BS fun Xj BC=>Ak .i64 Xj fun AR=>Ad BC<|Ad BL<|Bh X3 (Ah (call 107 [.pbox [.sc (.string Yh),.sc (.int .i64 AR)]]) fun CE Yw=>Aa CE fun HB HR=>Aq HB fun EX=>Ad HR<|Aa Yw fun EJ HF=>Aa EJ fun GN HL=>Az GN fun NX=>Aa HL fun SH QB=>Ak .i64 SH fun NV=>Ad QB<|Ad HF<|Bh (!EX) (some (Ay.mk [.sc (.bool false)] [[.sc (.string NX),.sc (.int .i64 NV)]])) (Ah (call 67 [.pbox [.sc (.string NX),.sc (.int .i64 NV)],.sc (.string (ByteArray.mk #[101]))]) fun QY OJ=>Aa QY fun OZ ST=>Aq OZ fun OG=>Ad ST<|Aa OJ fun OI KR=>Aa OI fun NY OH=>Az NY fun QW=>Aa OH fun XA UI=>Ak .i64 XA fun RT=>Ad UI<|Ad KR<|Bh OG (Ah (call 67 [.pbox [.sc (.string QW),.sc (.int .i64 RT)],.sc (.string (ByteArray.mk #[43]))]) fun XN RK=>Aa XN fun YF ZS=>Aq YF fun x83=>Ad ZS<|Aa RK fun XV x85=>Aa XV fun x86 ZH=>Az x86 fun YD=>Aa ZH fun YB x90=>Ak .i64 YB fun XO=>Ad x90<|Ad x85<|Bh (!x83) (Ah (call 67 [.pbox [.sc (.string YD),.sc (.int .i64 XO)],.sc (.string (ByteArray.mk #[45]))]) fun YC x93=>Aa YC fun XR x95=>Aq XR fun x96=>Ad x95<|Aa x93 fun WJ YA=>Aa WJ fun x99 Te=>Az x99 fun Yp=>Aa Te fun Wi Yf=>Ak .i64 Wi fun Z3=>Ad Yf<|Ad YA<|Ah (call 107 [.pbox [.sc (.string Yp),.sc (.int .i64 Z3)]]) fun Qx Xd=>Aa Qx fun Wk IA=>Aq Wk fun IY=>Ad IA<|Aa Xd fun CW GA=>Aa CW fun MP HA=>Az MP fun JD=>Aa HA fun MW IZ=>Ak .i64 MW fun FV=>Ad IZ<|Ad GA<|some (Ay.mk [.sc (.bool IY)] [[.sc (.string JD),.sc (.int .i64 FV)]])) (Ah (call 107 [.pbox [.sc (.string YD),.sc (.int .i64 XO)]]) fun CQ BH=>Aa CQ fun BV GI=>Aq BV fun GL=>Ad GI<|Aa BH fun IB GE=>Aa IB fun IJ BO=>Az IJ fun BW=>Aa BO fun BQ Ws=>Ak .i64 BQ fun CR=>Ad Ws<|Ad GE<|some (Ay.mk [.sc (.bool GL)] [[.sc (.string BW),.sc (.int .i64 CR)]]))) (Ah (call 67 [.pbox [.sc (.string QW),.sc (.int .i64 RT)],.sc (.string (ByteArray.mk #[69]))]) fun HU IV=>Aa HU fun CK HQ=>Aq CK fun IU=>Ad HQ<|Aa IV fun HZ GG=>Aa HZ fun LN ID=>Az LN fun CI=>Aa ID fun NL HO=>Ak .i64 NL fun AP=>Ad HO<|Ad GG<|Bh IU (Ah (call 67 [.pbox [.sc (.string CI),.sc (.int .i64 AP)],.sc (.string (ByteArray.mk #[43]))]) fun BE JC=>Aa BE fun BJ BP=>Aq BJ fun BK=>Ad BP<|Aa JC fun ML MX=>Aa ML fun Aa8 Aaw=>Az Aa8 fun QG=>Aa Aaw fun ZJ YI=>Ak .i64 ZJ fun UC=>Ad YI<|Ad MX<|Bh (!BK) (Ah (call 67 [.pbox [.sc (.string QG),.sc (.int .i64 UC)],.sc (.string (ByteArray.mk #[45]))]) fun Al5 Akc=>Aa Al5 fun Akm Ah9=>Aq Akm fun Ar3=>Ad Ah9<|Aa Akc fun Amk Af1=>Aa Amk fun Anc Ajr=>Az Anc fun Adm=>Aa Ajr fun Amc Aig=>Ak .i64 Amc fun Ajl=>Ad Aig<|Ad Af1<|Ah (call 107 [.pbox [.sc (.string Adm),.sc (.int .i64 Ajl)]]) fun Ak0 Al7=>Aa Ak0 fun Akw Al9=>Aq Akw fun Am8=>Ad Al9<|Aa Al7 fun Ajt Adn=>Aa Ajt fun Am9 Ai6=>Az Am9 fun Afn=>Aa Ai6 fun Anq Ai0=>Ak .i64 Anq fun Ald=>Ad Ai0<|Ad Adn<|some (Ay.mk [.sc (.bool Am8)] [[.sc (.string Afn),.sc (.int .i64 Ald)]])) (Ah (call 107 [.pbox [.sc (.string QG),.sc (.int .i64 UC)]]) fun Aj4 Akv=>Aa Aj4 fun Akh And=>Aq Akh fun Ajj=>Ad And<|Aa Akv fun Ai5 Ads=>Aa Ai5 fun Akg Aju=>Az Akg fun Aet=>Aa Aju fun Aj2 Ajh=>Ak .i64 Aj2 fun Anf=>Ad Ajh<|Ad Ads<|some (Ay.mk [.sc (.bool Ajj)] [[.sc (.string Aet),.sc (.int .i64 Anf)]]))) (some (Ay.mk [.sc (.bool true)] [[.sc (.string CI),.sc (.int .i64 AP)]]))))) (Ah (call 67 [.pbox [.sc (.string Yh),.sc (.int .i64 AR)],.sc (.string (ByteArray.mk #[101]))]) fun Ait Ani=>Aa Ait fun Alc Ako=>Aq Alc fun Ak6=>Ad Ako<|Aa Ani fun Anm Adw=>Aa Anm fun Am2 Ann=>Az Am2 fun ZB=>Aa Ann fun Ame Aj5=>Ak .i64 Ame fun Ad1=>Ad Aj5<|Ad Adw<|Bh Ak6 (Ah (call 67 [.pbox [.sc (.string ZB),.sc (.int .i64 Ad1)],.sc (.string (ByteArray.mk #[43]))]) fun Alj Alo=>Aa Alj fun Alh Al1=>Aq Alh fun Aiz=>Ad Al1<|Aa Alo fun Aky Aml=>Aa Aky fun Amp Aik=>Az Amp fun Aej=>Aa Aik fun Anj Am3=>Ak .i64 Anj fun Ae1=>Ad Am3<|Ad Aml<|Bh (!Aiz) (Ah (call 67 [.pbox [.sc (.string Aej),.sc (.int .i64 Ae1)],.sc (.string (ByteArray.mk #[45]))]) fun Am0 Aly=>Aa Am0 fun Aj1 Aki=>Aq Aj1 fun Ao7=>Ad Aki<|Aa Aly fun Ajs Aie=>Aa Ajs fun Alk Ajm=>Az Alk fun Ano=>Aa Ajm fun Anl Amv=>Ak .i64 Anl fun Air=>Ad Amv<|Ad Aie<|Ah (call 107 [.pbox [.sc (.string Ano),.sc (.int .i64 Air)]]) fun Ai2 Amr=>Aa Ai2 fun Aix Ajd=>Aq Aix fun Ajp=>Ad Ajd<|Aa Amr fun Ah5 Ai3=>Aa Ah5 fun Ain Aji=>Az Ain fun Amu=>Aa Aji fun Alu Adt=>Ak .i64 Alu fun Ah6=>Ad Adt<|Ad Ai3<|some (Ay.mk [.sc (.bool Ajp)] [[.sc (.string Amu),.sc (.int .i64 Ah6)]])) (Ah (call 107 [.pbox [.sc (.string Aej),.sc (.int .i64 Ae1)]]) fun Aim Aey=>Aa Aim fun Aj7 Amq=>Aq Aj7 fun Ala=>Ad Amq<|Aa Aey fun Aj3 Ama=>Aa Aj3 fun Amh Ajy=>Az Amh fun Alb=>Aa Ajy fun Aip Agc=>Ak .i64 Aip fun Amm=>Ad Agc<|Ad Ama<|some (Ay.mk [.sc (.bool Ala)] [[.sc (.string Alb),.sc (.int .i64 Amm)]]))) (Ah (call 67 [.pbox [.sc (.string ZB),.sc (.int .i64 Ad1)],.sc (.string (ByteArray.mk #[69]))]) fun Aj9 Afx=>Aa Aj9 fun Akp Amb=>Aq Akp fun Aiy=>Ad Amb<|Aa Afx fun Akn Aiu=>Aa Akn fun Amz Akt=>Az Amz fun Ae6=>Aa Akt fun Aje Ad0=>Ak .i64 Aje fun Aff=>Ad Ad0<|Ad Aiu<|Bh Aiy (Ah (call 67 [.pbox [.sc (.string Ae6),.sc (.int .i64 Aff)],.sc (.string (ByteArray.mk #[43]))]) fun Alp Adx=>Aa Alp fun Ai9 Ajf=>Aq Ai9 fun Ajk=>Ad Ajf<|Aa Adx fun Amf Ai7=>Aa Amf fun Aid Ali=>Az Aid fun Ae7=>Aa Ali fun Aia Aes=>Ak .i64 Aia fun Aeu=>Ad Aes<|Ad Ai7<|Bh (!Ajk) (Ah (call 67 [.pbox [.sc (.string Ae7),.sc (.int .i64 Aeu)],.sc (.string (ByteArray.mk #[45]))]) fun Alr Adz=>Aa Alr fun Aib Al8=>Aq Aib fun Aoz=>Ad Al8<|Aa Adz fun Alg Ak2=>Aa Alg fun Ana Anp=>Az Ana fun Aj0=>Aa Anp fun Akb Afa=>Ak .i64 Akb fun Ai4=>Ad Afa<|Ad Ak2<|Ah (call 107 [.pbox [.sc (.string Aj0),.sc (.int .i64 Ai4)]]) fun Alm Agh=>Aa Alm fun Ayc A0w=>Aq Ayc fun Ava=>Ad A0w<|Aa Agh fun At8 A15=>Aa At8 fun Axd A0q=>Az Axd fun Axi=>Aa A0q fun Atv A02=>Ak .i64 Atv fun Avb=>Ad A02<|Ad A15<|some (Ay.mk [.sc (.bool Ava)] [[.sc (.string Axi),.sc (.int .i64 Avb)]])) (Ah (call 107 [.pbox [.sc (.string Ae7),.sc (.int .i64 Aeu)]]) fun Az1 Ayo=>Aa Az1 fun Aup A28=>Aq Aup fun A10=>Ad A28<|Aa Ayo fun Av3 Av6=>Aa Av3 fun A2u Azq=>Az A2u fun Azc=>Aa Azq fun Ay8 Aur=>Ak .i64 Ay8 fun Av2=>Ad Aur<|Ad Av6<|some (Ay.mk [.sc (.bool A10)] [[.sc (.string Azc),.sc (.int .i64 Av2)]]))) (some (Ay.mk [.sc (.bool true)] [[.sc (.string Ae6),.sc (.int .i64 Aff)]])))))) (Ah (call 67 [.pbox [.sc (.string K8),.sc (.int .i64 L3)],.sc (.string (ByteArray.mk #[46]))]) fun Aya A26=>Aa Aya fun Aug A2a=>Aq Aug fun Avo=>Ad A2a<|Aa A26 fun Azl Ax4=>Aa Azl fun Auu A1o=>Az Auu fun Asg=>Aa A1o fun A24 Az2=>Ak .i64 A24 fun Asj=>Ad Az2<|Ad Ax4<|Bh Avo (Ah (call 107 [.pbox [.sc (.string Asg),.sc (.int .i64 Asj)]]) fun Ayp A0d=>Aa Ayp fun Atn A3x=>Aq Atn fun At5=>Ad A3x<|Aa A0d fun Atu Att=>Aa Atu fun A0v A4c=>Az A0v fun Ap5=>Aa A4c fun A4g Avk=>Ak .i64 A4g fun Apw=>Ad Avk<|Ad Att<|Bh (!At5) (some (Ay.mk [.sc (.bool false)] [[.sc (.string Ap5),.sc (.int .i64 Apw)]])) (Ah (call 67 [.pbox [.sc (.string Ap5),.sc (.int .i64 Apw)],.sc (.string (ByteArray.mk #[101]))]) fun Atw Ato=>Aa Atw fun Av8 Avz=>Aq Av8 fun Ayn=>Ad Avz<|Aa Ato fun Az3 A3y=>Aa Az3 fun Auz A3o=>Az Auz fun Ari=>Aa A3o fun Axu A3b=>Ak .i64 Axu fun Ao3=>Ad A3b<|Ad A3y<|Bh Ayn (Ah (call 67 [.pbox [.sc (.string Ari),.sc (.int .i64 Ao3)],.sc (.string (ByteArray.mk #[43]))]) fun A1b Axp=>Aa A1b fun Aub Awk=>Aq Aub fun Awb=>Ad Awk<|Aa Axp fun Azy Awt=>Aa Azy fun Ay7 A4y=>Az Ay7 fun Asm=>Aa A4y fun Ax7 Av9=>Ak .i64 Ax7 fun Aqc=>Ad Av9<|Ad Awt<|Bh (!Awb) (Ah (call 67 [.pbox [.sc (.string Asm),.sc (.int .i64 Aqc)],.sc (.string (ByteArray.mk #[45]))]) fun A09 A2n=>Aa A09 fun A1r A2q=>Aq A1r fun A73=>Ad A2q<|Aa A2n fun Azw Avi=>Aa Azw fun Axs Auh=>Az Axs fun A1g=>Aa Auh fun A4v Au3=>Ak .i64 A4v fun A3w=>Ad Au3<|Ad Avi<|Ah (call 107 [.pbox [.sc (.string A1g),.sc (.int .i64 A3w)]]) fun Axv Avs=>Aa Axv fun A4o A1i=>Aq A4o fun A4b=>Ad A1i<|Aa Avs fun A27 At9=>Aa A27 fun A08 A0n=>Az A08 fun Ayt=>Aa A0n fun Au6 Axz=>Ak .i64 Au6 fun Axl=>Ad Axz<|Ad At9<|some (Ay.mk [.sc (.bool A4b)] [[.sc (.string Ayt),.sc (.int .i64 Axl)]])) (Ah (call 107 [.pbox [.sc (.string Asm),.sc (.int .i64 Aqc)]]) fun Ayg A0o=>Aa Ayg fun Aun A2w=>Aq Aun fun Av0=>Ad A2w<|Aa A0o fun A4e Ay4=>Aa A4e fun A2m Awi=>Az A2m fun A17=>Aa Awi fun A3f Aze=>Ak .i64 A3f fun Ax1=>Ad Aze<|Ad Ay4<|some (Ay.mk [.sc (.bool Av0)] [[.sc (.string A17),.sc (.int .i64 Ax1)]]))) (Ah (call 67 [.pbox [.sc (.string Ari),.sc (.int .i64 Ao3)],.sc (.string (ByteArray.mk #[69]))]) fun Aw8 At0=>Aa Aw8 fun A01 Avj=>Aq A01 fun At1=>Ad Avj<|Aa At0 fun Atz Azf=>Aa Atz fun A00 Awj=>Az A00 fun Ao5=>Aa Awj fun A37 Awm=>Ak .i64 A37 fun Aqm=>Ad Awm<|Ad Azf<|Bh At1 (Ah (call 67 [.pbox [.sc (.string Ao5),.sc (.int .i64 Aqm)],.sc (.string (ByteArray.mk #[43]))]) fun Aw7 A0b=>Aa Aw7 fun Aul A36=>Aq Aul fun Awe=>Ad A36<|Aa A0b fun A4m A4q=>Aa A4m fun Axc Awa=>Az Axc fun Arf=>Aa Awa fun A2i Aus=>Ak .i64 A2i fun Api=>Ad Aus<|Ad A4q<|Bh (!Awe) (Ah (call 67 [.pbox [.sc (.string Arf),.sc (.int .i64 Api)],.sc (.string (ByteArray.mk #[45]))]) fun Azr A4p=>Aa Azr fun Axh Awq=>Aq Axh fun A8x=>Ad Awq<|Aa A4p fun A19 Axf=>Aa A19 fun A4n Axa=>Az A4n fun Awc=>Aa Axa fun A1a Az6=>Ak .i64 A1a fun A0l=>Ad Az6<|Ad Axf<|Ah (call 107 [.pbox [.sc (.string Awc),.sc (.int .i64 A0l)]]) fun Au0 Avx=>Aa Au0 fun A35 Auw=>Aq A35 fun Avn=>Ad Auw<|Aa Avx fun A16 Axx=>Aa A16 fun Axk Au4=>Az Axk fun A1u=>Aa Au4 fun A3i Awr=>Ak .i64 A3i fun A1j=>Ad Awr<|Ad Axx<|some (Ay.mk [.sc (.bool Avn)] [[.sc (.string A1u),.sc (.int .i64 A1j)]])) (Ah (call 107 [.pbox [.sc (.string Arf),.sc (.int .i64 Api)]]) fun Azv A0k=>Aa Azv fun Avd Awv=>Aq Avd fun Axm=>Ad Awv<|Aa A0k fun Auq A0e=>Aa Auq fun A2e Az5=>Az A2e fun Ats=>Aa Az5 fun A3d A4f=>Ak .i64 A3d fun A0x=>Ad A4f<|Ad A0e<|some (Ay.mk [.sc (.bool Axm)] [[.sc (.string Ats),.sc (.int .i64 A0x)]]))) (some (Ay.mk [.sc (.bool true)] [[.sc (.string Ao5),.sc (.int .i64 Aqm)]]))))) (Ah (call 67 [.pbox [.sc (.string Asg),.sc (.int .i64 Asj)],.sc (.string (ByteArray.mk #[101]))]) fun Azi A3l=>Aa Azi fun A39 Atp=>Aq A39 fun Aw1=>Ad Atp<|Aa A3l fun Avy Awp=>Aa Avy fun Ayu A4l=>Az Ayu fun Apy=>Aa A4l fun Avv A0y=>Ak .i64 Avv fun Aqu=>Ad A0y<|Ad Awp<|Bh Aw1 (Ah (call 67 [.pbox [.sc (.string Apy),.sc (.int .i64 Aqu)],.sc (.string (ByteArray.mk #[43]))]) fun Ave Aw3=>Aa Ave fun Axy A0s=>Aq Axy fun Aue=>Ad A0s<|Aa Aw3 fun Az0 At3=>Aa Az0 fun Ax9 Avf=>Az Ax9 fun Apf=>Aa Avf fun A33 Az4=>Ak .i64 A33 fun Asl=>Ad Az4<|Ad At3<|Bh (!Aue) (Ah (call 67 [.pbox [.sc (.string Apf),.sc (.int .i64 Asl)],.sc (.string (ByteArray.mk #[45]))]) fun Az8 A0p=>Aa Az8 fun Ayx Azm=>Aq Ayx fun A72=>Ad Azm<|Aa A0p fun A3a A2c=>Aa A3a fun A30 Auj=>Az A30 fun Auc=>Aa Auj fun Aye Axg=>Ak .i64 Aye fun A3g=>Ad Axg<|Ad A2c<|Ah (call 107 [.pbox [.sc (.string Auc),.sc (.int .i64 A3g)]]) fun A4u A06=>Aa A4u fun Auf Azn=>Aq Auf fun A4k=>Ad Azn<|Aa A06 fun A3z Azu=>Aa A3z fun A4h Ax2=>Az A4h fun Aut=>Aa Ax2 fun Aux Ayd=>Ak .i64 Aux fun A0m=>Ad Ayd<|Ad Azu<|some (Ay.mk [.sc (.bool A4k)] [[.sc (.string Aut),.sc (.int .i64 A0m)]])) (Ah (call 107 [.pbox [.sc (.string Apf),.sc (.int .i64 Asl)]]) fun A3h A23=>Aa A3h fun Azo Au1=>Aq Azo fun A1y=>Ad Au1<|Aa A23 fun Ay6 A0f=>Aa Ay6 fun A3q A4d=>Az A3q fun Ay0=>Aa A4d fun Au9 Axj=>Ak .i64 Au9 fun A1m=>Ad Axj<|Ad A0f<|some (Ay.mk [.sc (.bool A1y)] [[.sc (.string Ay0),.sc (.int .i64 A1m)]]))) (Ah (call 67 [.pbox [.sc (.string Apy),.sc (.int .i64 Aqu)],.sc (.string (ByteArray.mk #[69]))]) fun Aym A32=>Aa Aym fun A3c Ayh=>Aq A3c fun Aw2=>Ad Ayh<|Aa A32 fun A18 At2=>Aa A18 fun A25 Awf=>Az A25 fun Arl=>Aa Awf fun Auv Avh=>Ak .i64 Auv fun Ara=>Ad Avh<|Ad At2<|Bh Aw2 (Ah (call 67 [.pbox [.sc (.string Arl),.sc (.int .i64 Ara)],.sc (.string (ByteArray.mk #[43]))]) fun Atq Avl=>Aa Atq fun Awo A1f=>Aq Awo fun Ayf=>Ad A1f<|Aa Avl fun A4j Aw5=>Aa A4j fun Av7 Ayk=>Az Av7 fun Ao8=>Aa Ayk fun Awy Az9=>Ak .i64 Awy fun Ar9=>Ad Az9<|Ad Aw5<|Bh (!Ayf) (Ah (call 67 [.pbox [.sc (.string Ao8),.sc (.int .i64 Ar9)],.sc (.string (ByteArray.mk #[45]))]) fun A1l A4i=>Aa A1l fun Ay3 A1s=>Aq Ay3 fun A8f=>Ad A1s<|Aa A4i fun Awu Aw6=>Aa Awu fun A03 A34=>Az A03 fun A3v=>Aa A34 fun Ays Azp=>Ak .i64 Ays fun A1v=>Ad Azp<|Ad Aw6<|Ah (call 107 [.pbox [.sc (.string A3v),.sc (.int .i64 A1v)]]) fun A21 A2p=>Aa A21 fun A1x Au7=>Aq A1x fun Azs=>Ad Au7<|Aa A2p fun Aww A2z=>Aa Aww fun Azh Awz=>Az Azh fun Awg=>Aa Awz fun At6 Au8=>Ak .i64 At6 fun Aty=>Ad Au8<|Ad A2z<|some (Ay.mk [.sc (.bool Azs)] [[.sc (.string Awg),.sc (.int .i64 Aty)]])) (Ah (call 107 [.pbox [.sc (.string Ao8),.sc (.int .i64 Ar9)]]) fun Auk A1p=>Aa Auk fun Ayl Au2=>Aq Ayl fun Axq=>Ad Au2<|Aa A1p fun A3j A2k=>Aa A3j fun A2b Azj=>Az A2b fun Awx=>Aa Azj fun A4w A20=>Ak .i64 A4w fun Aws=>Ad A20<|Ad A2k<|some (Ay.mk [.sc (.bool Axq)] [[.sc (.string Awx),.sc (.int .i64 Aws)]]))) (some (Ay.mk [.sc (.bool true)] [[.sc (.string Arl),.sc (.int .i64 Ara)]])))))) (Ae (CP p) prog fu d):=by kernel_rfl
abbrev Iz:FuncId:=91
noncomputable def Cy (fu:Nat)(call:Ax)(Br:ByteArray)(Bl a1:Int)(nn:Nat)(y0:Int)(y1:ByteArray)(y2:Int):Option Ay:=Iy CB prog fu call 91 Tryd.f91 (F5 Tryd.f91) [.pbox [.sc (.string Br),.sc (.int .i64 Bl)],.sc (.int .i64 a1)] [.r,.r,.r,.r,.l] nn ⟨lk [(0,(.ptr 64000 0)),(1,(.sc (.int .i64 y0)))],Jl [(64000,(.st [(.sc (.string y1)),(.sc (.int .i64 y2))]))]⟩
theorem Hf (fu:Nat)(call:Ax)(Br:ByteArray)(Bl a1:Int)(nn:Nat)(y0:Int)(y1:ByteArray)(y2:Int):Cy fu call Br Bl a1 (nn+1) y0 y1 y2=(Ah (call 69 [.pbox [.sc (.string y1),.sc (.int .i64 y2)],.sc (.int .i64 y0)]) fun Se Tu=>Aa Se fun Pr BD=>Fo Pr fun BA=>Aa BA fun Qn P4=>Ak .i64 Qn fun X3=>Aa P4 fun Xh BL=>Az Xh fun AV=>Aa BL fun BS Yh=>Aq BS fun Xj=>Ad Yh<|Aa BD fun BC AR=>Ak .i64 BC fun CE=>Ad AR<|Aa Tu fun Yw HB=>Aa Yw fun HR EX=>Az HR fun EJ=>Aa EX fun HF GN=>Ak .i64 HF fun HL=>Ad GN<|Ad HB<|Bh (CE != 0) (some (Ay.mk [.sc (.int .i64 CE)] [[.sc (.string EJ),.sc (.int .i64 HL)]])) (Ah (call 50 [.pbox [.sc (.string EJ),.sc (.int .i64 HL)]]) fun NX SH=>Ad NX<|Aa SH fun QB NV=>Aa QB fun QY OJ=>Az QY fun OZ=>Aa OJ fun ST OG=>Ak .i64 ST fun OI=>Ad OG<|Ad NV<|Ah (call 67 [.pbox [.sc (.string OZ),.sc (.int .i64 OI)],.sc (.string (ByteArray.mk #[93]))]) fun KR NY=>Aa KR fun OH QW=>Aq OH fun XA=>Ad QW<|Aa NY fun UI RT=>Aa UI fun XN RK=>Az XN fun YF=>Aa RK fun ZS x83=>Ak .i64 ZS fun XV=>Ad x83<|Ad RT<|Bh XA (some (Ay.mk [.sc (.int .i64 0)] [[.sc (.string YF),.sc (.int .i64 XV)]])) (Ah (call 67 [.pbox [.sc (.string YF),.sc (.int .i64 XV)],.sc (.string (ByteArray.mk #[44]))]) fun x85 x86=>Aa x85 fun ZH YD=>Aq ZH fun YB=>Ad YD<|Aa x86 fun x90 XO=>Aa x90 fun YC x93=>Az YC fun XR=>Aa x93 fun x95 x96=>Ak .i64 x95 fun WJ=>Ad x96<|Ad XO<|Bh (!YB) (some (Ay.mk [.sc (.int .i64 2)] [[.sc (.string XR),.sc (.int .i64 WJ)]])) (Ah (call 50 [.pbox [.sc (.string XR),.sc (.int .i64 WJ)]]) fun YA x99=>Ad YA<|Aa x99 fun Te Yp=>Aa Te fun Wi Yf=>Az Wi fun Z3=>Aa Yf fun Qx Xd=>Ak .i64 Qx fun Wk=>Ad Xd<|Ad Yp<|Cy fu call Br Bl a1 (nn) (y0) Z3 Wk)))):=by kernel_rfl
theorem Im {p:Option (List PV->Option Ay)} (fu d:Nat)(Br:ByteArray)(Bl a1:Int):Ae (CP p) prog fu (d+1) Iz [.pbox [.sc (.string Br),.sc (.int .i64 Bl)],.sc (.int .i64 a1)]=(fun (call:Ax)=>Ah (call 67 [.pbox [.sc (.string Br),.sc (.int .i64 Bl)],.sc (.string (ByteArray.mk #[91]))]) fun x1 x2=>Aa x1 fun x3 x4=>Aq x3 fun x5=>Ad x4<|Aa x2 fun x6 x7=>Aa x6 fun x8 x9=>Az x8 fun Ft=>Aa x9 fun Lr L4=>Ak .i64 Lr fun Fc=>Ad L4<|Ad x7<|Bh (!x5) (some (Ay.mk [.sc (.int .i64 2)] [[.sc (.string Ft),.sc (.int .i64 Fc)]])) (Ah (call 50 [.pbox [.sc (.string Ft),.sc (.int .i64 Fc)]]) fun Jh M4=>Ad Jh<|Aa M4 fun K2 I7=>Aa K2 fun Lq L5=>Az Lq fun Mj=>Aa L5 fun Mm N2=>Ak .i64 Mm fun K8=>Ad N2<|Ad I7<|Ah (call 67 [.pbox [.sc (.string Mj),.sc (.int .i64 K8)],.sc (.string (ByteArray.mk #[93]))]) fun M9 Lx=>Aa M9 fun L3 Mc=>Aq L3 fun Oc=>Ad Mc<|Aa Lx fun Md N9=>Aa Md fun Ol Og=>Az Ol fun Np=>Aa Og fun Oj O8=>Ak .i64 Oj fun Rd=>Ad O8<|Ad N9<|Bh Oc (some (Ay.mk [.sc (.int .i64 0)] [[.sc (.string Np),.sc (.int .i64 Rd)]])) (Cy fu call Br Bl a1 (fu) (a1) Np Rd))) (Ae (CP p) prog fu d):=by kernel_rfl
abbrev Hx:FuncId:=51
noncomputable def Cq (fu:Nat)(call:Ax)(Br:ByteArray)(Bl a1:Int)(nn:Nat)(y0:Int)(y1:ByteArray)(y2:Int):Option Ay:=Iy CB prog fu call 51 Tryd.f51 (F5 Tryd.f51) [.pbox [.sc (.string Br),.sc (.int .i64 Bl)],.sc (.int .i64 a1),.sc (Value.map none)] [.r,.r,.r,.r,.l] nn ⟨lk [(0,(.ptr 128000 0)),(1,(.sc (.int .i64 y0))),(2,(.sc (Value.map none)))],Jl [(128000,(.st [(.sc (.string y1)),(.sc (.int .i64 y2))]))]⟩
theorem Hb (fu:Nat)(call:Ax)(Br:ByteArray)(Bl a1:Int)(nn:Nat)(y0:Int)(y1:ByteArray)(y2:Int):Cq fu call Br Bl a1 (nn+1) y0 y1 y2=(Ah (call 68 [.pbox [.sc (.string y1),.sc (.int .i64 y2)]]) fun Se Tu=>Aa Se fun Pr BD=>Az Pr fun BA=>Aa BD fun Qn P4=>Aq Qn fun X3=>Ad P4<|Aa Tu fun Xh BL=>Aa Xh fun AV BS=>Az AV fun Yh=>Aa BS fun Xj BC=>Ak .i64 Xj fun AR=>Ad BC<|Ad BL<|Bh (!X3) (some (Ay.mk [.sc (.int .i64 2)] [[.sc (.string Yh),.sc (.int .i64 AR)]])) (Ah (call 50 [.pbox [.sc (.string Yh),.sc (.int .i64 AR)]]) fun CE Yw=>Ad CE<|Aa Yw fun HB HR=>Aa HB fun EX EJ=>Az EX fun HF=>Aa EJ fun GN HL=>Ak .i64 GN fun NX=>Ad HL<|Ad HR<|Ah (call 67 [.pbox [.sc (.string HF),.sc (.int .i64 NX)],.sc (.string (ByteArray.mk #[58]))]) fun SH QB=>Aa SH fun NV QY=>Aq NV fun OJ=>Ad QY<|Aa QB fun OZ ST=>Aa OZ fun OG OI=>Az OG fun KR=>Aa OI fun NY OH=>Ak .i64 NY fun QW=>Ad OH<|Ad ST<|Bh (!OJ) (some (Ay.mk [.sc (.int .i64 2)] [[.sc (.string KR),.sc (.int .i64 QW)]])) (Ah (call 50 [.pbox [.sc (.string KR),.sc (.int .i64 QW)]]) fun XA UI=>Ad XA<|Aa UI fun RT XN=>Aa RT fun RK YF=>Az RK fun ZS=>Aa YF fun x83 XV=>Ak .i64 x83 fun x85=>Ad XV<|Ad XN<|Ah (call 69 [.pbox [.sc (.string ZS),.sc (.int .i64 x85)],.sc (.int .i64 y0)]) fun x86 ZH=>Aa x86 fun YD YB=>Fo YD fun x90=>Aa x90 fun XO YC=>Ak .i64 XO fun x93=>Aa YC fun XR x95=>Az XR fun x96=>Aa x95 fun WJ YA=>Aq WJ fun x99=>Ad YA<|Aa YB fun Te Yp=>Ak .i64 Te fun Wi=>Ad Yp<|Aa ZH fun Yf Z3=>Aa Yf fun Qx Xd=>Az Qx fun Wk=>Aa Xd fun IA IY=>Ak .i64 IA fun CW=>Ad IY<|Ad Z3<|Bh (Wi != 0) (some (Ay.mk [.sc (.int .i64 Wi)] [[.sc (.string Wk),.sc (.int .i64 CW)]])) (Ah (call 50 [.pbox [.sc (.string Wk),.sc (.int .i64 CW)]]) fun GA MP=>Ad GA<|Aa MP fun HA JD=>Aa HA fun MW IZ=>Az MW fun FV=>Aa IZ fun CQ BH=>Ak .i64 CQ fun BV=>Ad BH<|Ad JD<|Ah (call 67 [.pbox [.sc (.string FV),.sc (.int .i64 BV)],.sc (.string (ByteArray.mk #[125]))]) fun GI GL=>Aa GI fun IB GE=>Aq IB fun IJ=>Ad GE<|Aa GL fun BO BW=>Aa BO fun BQ Ws=>Az BQ fun CR=>Aa Ws fun HU IV=>Ak .i64 HU fun CK=>Ad IV<|Ad BW<|Bh IJ (some (Ay.mk [.sc (.int .i64 0)] [[.sc (.string CR),.sc (.int .i64 CK)]])) (Ah (call 67 [.pbox [.sc (.string CR),.sc (.int .i64 CK)],.sc (.string (ByteArray.mk #[44]))]) fun HQ IU=>Aa HQ fun HZ GG=>Aq HZ fun LN=>Ad GG<|Aa IU fun ID CI=>Aa ID fun NL HO=>Az NL fun AP=>Aa HO fun BE JC=>Ak .i64 BE fun BJ=>Ad JC<|Ad CI<|Bh (!LN) (some (Ay.mk [.sc (.int .i64 2)] [[.sc (.string AP),.sc (.int .i64 BJ)]])) (Ah (call 50 [.pbox [.sc (.string AP),.sc (.int .i64 BJ)]]) fun BP BK=>Ad BP<|Aa BK fun ML MX=>Aa ML fun Aa8 Aaw=>Az Aa8 fun QG=>Aa Aaw fun ZJ YI=>Ak .i64 ZJ fun UC=>Ad YI<|Ad MX<|Cq fu call Br Bl a1 (nn) (y0) QG UC)))))):=by kernel_rfl
theorem Hy {p:Option (List PV->Option Ay)} (fu d:Nat)(Br:ByteArray)(Bl a1:Int):Ae (CP p) prog fu (d+1) Hx [.pbox [.sc (.string Br),.sc (.int .i64 Bl)],.sc (.int .i64 a1),.sc (Value.map none)]=(fun (call:Ax)=>Ah (call 67 [.pbox [.sc (.string Br),.sc (.int .i64 Bl)],.sc (.string (ByteArray.mk #[123]))]) fun x1 x2=>Aa x1 fun x3 x4=>Aq x3 fun x5=>Ad x4<|Aa x2 fun x6 x7=>Aa x6 fun x8 x9=>Az x8 fun Ft=>Aa x9 fun Lr L4=>Ak .i64 Lr fun Fc=>Ad L4<|Ad x7<|Bh (!x5) (some (Ay.mk [.sc (.int .i64 2)] [[.sc (.string Ft),.sc (.int .i64 Fc)]])) (Ah (call 50 [.pbox [.sc (.string Ft),.sc (.int .i64 Fc)]]) fun Jh M4=>Ad Jh<|Aa M4 fun K2 I7=>Aa K2 fun Lq L5=>Az Lq fun Mj=>Aa L5 fun Mm N2=>Ak .i64 Mm fun K8=>Ad N2<|Ad I7<|Ah (call 67 [.pbox [.sc (.string Mj),.sc (.int .i64 K8)],.sc (.string (ByteArray.mk #[125]))]) fun M9 Lx=>Aa M9 fun L3 Mc=>Aq L3 fun Oc=>Ad Mc<|Aa Lx fun Md N9=>Aa Md fun Ol Og=>Az Ol fun Np=>Aa Og fun Oj O8=>Ak .i64 Oj fun Rd=>Ad O8<|Ad N9<|Bh Oc (some (Ay.mk [.sc (.int .i64 0)] [[.sc (.string Np),.sc (.int .i64 Rd)]])) (Cq fu call Br Bl a1 (fu) (a1) Np Rd))) (Ae (CP p) prog fu d):=by kernel_rfl
abbrev I0:FuncId:=69
theorem Bz {p:Option (List PV->Option Ay)} (fu d:Nat)(Br:ByteArray)(Bl a1:Int):Ae (CP p) prog fu (d+1) I0 [.pbox [.sc (.string Br),.sc (.int .i64 Bl)],.sc (.int .i64 a1)]=(fun (call:Ax)=>Ah (call 90 [.pbox [.sc (.string Br),.sc (.int .i64 Bl)]]) fun x1 x2=>Aa x1 fun x3 x4=>Ak .u8 x3 fun x5=>Ad x4<|Aa x2 fun x6 x7=>Aa x6 fun x8 x9=>Az x8 fun Ft=>Aa x9 fun Lr L4=>Ak .i64 Lr fun Fc=>Ad L4<|Ad x7<|Bh (x5==123) (Bh (decide (a1>8)) (some (Ay.mk [.agg [.sc (.int .i64 0),.sc (.string (ByteArray.mk #[])),.sc (.bool false)],.sc (.int .i64 5)] [[.sc (.string Ft),.sc (.int .i64 Fc)]])) (Bh (x5==123) (Ab (wrap .i64 (a1+1)) fun Jh=>Ah (call 51 [.pbox [.sc (.string Ft),.sc (.int .i64 Fc)],.sc (.int .i64 Jh),.sc (Value.map none)]) fun M4 K2=>Aa M4 fun I7 Lq=>Ak .i64 I7 fun L5=>Ad Lq<|Aa K2 fun Mj Mm=>Aa Mj fun N2 K8=>Az N2 fun M9=>Aa K8 fun Lx L3=>Ak .i64 Lx fun Mc=>Ad L3<|Ad Mm<|some (Ay.mk [.agg [.sc (.int .i64 6),.sc (.string (ByteArray.mk #[])),.sc (.bool false)],.sc (.int .i64 L5)] [[.sc (.string M9),.sc (.int .i64 Mc)]])) (Bh (x5==91) (Ab (wrap .i64 (a1+1)) fun Oc=>Ah (call 91 [.pbox [.sc (.string Ft),.sc (.int .i64 Fc)],.sc (.int .i64 Oc)]) fun Md N9=>Aa Md fun Ol Og=>Ak .i64 Ol fun Np=>Ad Og<|Aa N9 fun Oj O8=>Aa Oj fun Rd Se=>Az Rd fun Tu=>Aa Se fun Pr BD=>Ak .i64 Pr fun BA=>Ad BD<|Ad O8<|some (Ay.mk [.agg [.sc (.int .i64 5),.sc (.string (ByteArray.mk #[])),.sc (.bool false)],.sc (.int .i64 Np)] [[.sc (.string Tu),.sc (.int .i64 BA)]])) (Bh (x5==34) (Ah (call 68 [.pbox [.sc (.string Ft),.sc (.int .i64 Fc)]]) fun Qn P4=>Aa Qn fun X3 Xh=>Az X3 fun BL=>Aa Xh fun AV BS=>Aq AV fun Yh=>Ad BS<|Aa P4 fun Xj BC=>Aa Xj fun AR CE=>Az AR fun Yw=>Aa CE fun HB HR=>Ak .i64 HB fun EX=>Ad HR<|Ad BC<|Bh Yh (some (Ay.mk [.agg [.sc (.int .i64 4),.sc (.string BL),.sc (.bool false)],.sc (.int .i64 0)] [[.sc (.string Yw),.sc (.int .i64 EX)]])) (some (Ay.mk [.agg [.sc (.int .i64 0),.sc (.string (ByteArray.mk #[])),.sc (.bool false)],.sc (.int .i64 2)] [[.sc (.string Yw),.sc (.int .i64 EX)]]))) (Ah (call 67 [.pbox [.sc (.string Ft),.sc (.int .i64 Fc)],.sc (.string (ByteArray.mk #[116,114,117,101]))]) fun EJ HF=>Aa EJ fun GN HL=>Aq GN fun NX=>Ad HL<|Aa HF fun SH QB=>Aa SH fun NV QY=>Az NV fun OJ=>Aa QY fun OZ ST=>Ak .i64 OZ fun OG=>Ad ST<|Ad QB<|Bh NX (some (Ay.mk [.agg [.sc (.int .i64 2),.sc (.string (ByteArray.mk #[])),.sc (.bool true)],.sc (.int .i64 0)] [[.sc (.string OJ),.sc (.int .i64 OG)]])) (Ah (call 67 [.pbox [.sc (.string OJ),.sc (.int .i64 OG)],.sc (.string (ByteArray.mk #[102,97,108,115,101]))]) fun OI KR=>Aa OI fun NY OH=>Aq NY fun QW=>Ad OH<|Aa KR fun XA UI=>Aa XA fun RT XN=>Az RT fun RK=>Aa XN fun YF ZS=>Ak .i64 YF fun x83=>Ad ZS<|Ad UI<|Bh QW (some (Ay.mk [.agg [.sc (.int .i64 2),.sc (.string (ByteArray.mk #[])),.sc (.bool false)],.sc (.int .i64 0)] [[.sc (.string RK),.sc (.int .i64 x83)]])) (Ah (call 67 [.pbox [.sc (.string RK),.sc (.int .i64 x83)],.sc (.string (ByteArray.mk #[110,117,108,108]))]) fun XV x85=>Aa XV fun x86 ZH=>Aq x86 fun YD=>Ad ZH<|Aa x85 fun YB x90=>Aa YB fun XO YC=>Az XO fun x93=>Aa YC fun XR x95=>Ak .i64 XR fun x96=>Ad x95<|Ad x90<|Bh YD (some (Ay.mk [.agg [.sc (.int .i64 1),.sc (.string (ByteArray.mk #[])),.sc (.bool false)],.sc (.int .i64 0)] [[.sc (.string x93),.sc (.int .i64 x96)]])) (Ah (call 92 [.pbox [.sc (.string x93),.sc (.int .i64 x96)]]) fun WJ YA=>Aa WJ fun x99 Te=>Aq x99 fun Yp=>Ad Te<|Aa YA fun Wi Yf=>Aa Wi fun Z3 Qx=>Az Z3 fun Xd=>Aa Qx fun Wk IA=>Ak .i64 Wk fun IY=>Ad IA<|Ad Yf<|Bh Yp (some (Ay.mk [.agg [.sc (.int .i64 3),.sc (.string (ByteArray.mk #[])),.sc (.bool false)],.sc (.int .i64 0)] [[.sc (.string Xd),.sc (.int .i64 IY)]])) (some (Ay.mk [.agg [.sc (.int .i64 0),.sc (.string (ByteArray.mk #[])),.sc (.bool false)],.sc (.int .i64 2)] [[.sc (.string Xd),.sc (.int .i64 IY)]])))))))))) (Bh (x5==91) (Bh (decide (a1>8)) (some (Ay.mk [.agg [.sc (.int .i64 0),.sc (.string (ByteArray.mk #[])),.sc (.bool false)],.sc (.int .i64 5)] [[.sc (.string Ft),.sc (.int .i64 Fc)]])) (Bh (x5==123) (Ab (wrap .i64 (a1+1)) fun CW=>Ah (call 51 [.pbox [.sc (.string Ft),.sc (.int .i64 Fc)],.sc (.int .i64 CW),.sc (Value.map none)]) fun GA MP=>Aa GA fun HA JD=>Ak .i64 HA fun MW=>Ad JD<|Aa MP fun IZ FV=>Aa IZ fun CQ BH=>Az CQ fun BV=>Aa BH fun GI GL=>Ak .i64 GI fun IB=>Ad GL<|Ad FV<|some (Ay.mk [.agg [.sc (.int .i64 6),.sc (.string (ByteArray.mk #[])),.sc (.bool false)],.sc (.int .i64 MW)] [[.sc (.string BV),.sc (.int .i64 IB)]])) (Bh (x5==91) (Ab (wrap .i64 (a1+1)) fun GE=>Ah (call 91 [.pbox [.sc (.string Ft),.sc (.int .i64 Fc)],.sc (.int .i64 GE)]) fun IJ BO=>Aa IJ fun BW BQ=>Ak .i64 BW fun Ws=>Ad BQ<|Aa BO fun CR HU=>Aa CR fun IV CK=>Az IV fun HQ=>Aa CK fun IU HZ=>Ak .i64 IU fun GG=>Ad HZ<|Ad HU<|some (Ay.mk [.agg [.sc (.int .i64 5),.sc (.string (ByteArray.mk #[])),.sc (.bool false)],.sc (.int .i64 Ws)] [[.sc (.string HQ),.sc (.int .i64 GG)]])) (Bh (x5==34) (Ah (call 68 [.pbox [.sc (.string Ft),.sc (.int .i64 Fc)]]) fun LN ID=>Aa LN fun CI NL=>Az CI fun HO=>Aa NL fun AP BE=>Aq AP fun JC=>Ad BE<|Aa ID fun BJ BP=>Aa BJ fun BK ML=>Az BK fun MX=>Aa ML fun Aa8 Aaw=>Ak .i64 Aa8 fun QG=>Ad Aaw<|Ad BP<|Bh JC (some (Ay.mk [.agg [.sc (.int .i64 4),.sc (.string HO),.sc (.bool false)],.sc (.int .i64 0)] [[.sc (.string MX),.sc (.int .i64 QG)]])) (some (Ay.mk [.agg [.sc (.int .i64 0),.sc (.string (ByteArray.mk #[])),.sc (.bool false)],.sc (.int .i64 2)] [[.sc (.string MX),.sc (.int .i64 QG)]]))) (Ah (call 67 [.pbox [.sc (.string Ft),.sc (.int .i64 Fc)],.sc (.string (ByteArray.mk #[116,114,117,101]))]) fun ZJ YI=>Aa ZJ fun UC Al5=>Aq UC fun Akc=>Ad Al5<|Aa YI fun Akm Ah9=>Aa Akm fun Ar3 Amk=>Az Ar3 fun Af1=>Aa Amk fun Anc Ajr=>Ak .i64 Anc fun Adm=>Ad Ajr<|Ad Ah9<|Bh Akc (some (Ay.mk [.agg [.sc (.int .i64 2),.sc (.string (ByteArray.mk #[])),.sc (.bool true)],.sc (.int .i64 0)] [[.sc (.string Af1),.sc (.int .i64 Adm)]])) (Ah (call 67 [.pbox [.sc (.string Af1),.sc (.int .i64 Adm)],.sc (.string (ByteArray.mk #[102,97,108,115,101]))]) fun Amc Aig=>Aa Amc fun Ajl Ak0=>Aq Ajl fun Al7=>Ad Ak0<|Aa Aig fun Akw Al9=>Aa Akw fun Am8 Ajt=>Az Am8 fun Adn=>Aa Ajt fun Am9 Ai6=>Ak .i64 Am9 fun Afn=>Ad Ai6<|Ad Al9<|Bh Al7 (some (Ay.mk [.agg [.sc (.int .i64 2),.sc (.string (ByteArray.mk #[])),.sc (.bool false)],.sc (.int .i64 0)] [[.sc (.string Adn),.sc (.int .i64 Afn)]])) (Ah (call 67 [.pbox [.sc (.string Adn),.sc (.int .i64 Afn)],.sc (.string (ByteArray.mk #[110,117,108,108]))]) fun Anq Ai0=>Aa Anq fun Ald Aj4=>Aq Ald fun Akv=>Ad Aj4<|Aa Ai0 fun Akh And=>Aa Akh fun Ajj Ai5=>Az Ajj fun Ads=>Aa Ai5 fun Akg Aju=>Ak .i64 Akg fun Aet=>Ad Aju<|Ad And<|Bh Akv (some (Ay.mk [.agg [.sc (.int .i64 1),.sc (.string (ByteArray.mk #[])),.sc (.bool false)],.sc (.int .i64 0)] [[.sc (.string Ads),.sc (.int .i64 Aet)]])) (Ah (call 92 [.pbox [.sc (.string Ads),.sc (.int .i64 Aet)]]) fun Aj2 Ajh=>Aa Aj2 fun Anf Ait=>Aq Anf fun Ani=>Ad Ait<|Aa Ajh fun Alc Ako=>Aa Alc fun Ak6 Anm=>Az Ak6 fun Adw=>Aa Anm fun Am2 Ann=>Ak .i64 Am2 fun ZB=>Ad Ann<|Ad Ako<|Bh Ani (some (Ay.mk [.agg [.sc (.int .i64 3),.sc (.string (ByteArray.mk #[])),.sc (.bool false)],.sc (.int .i64 0)] [[.sc (.string Adw),.sc (.int .i64 ZB)]])) (some (Ay.mk [.agg [.sc (.int .i64 0),.sc (.string (ByteArray.mk #[])),.sc (.bool false)],.sc (.int .i64 2)] [[.sc (.string Adw),.sc (.int .i64 ZB)]])))))))))) (Bh (x5==123) (Ab (wrap .i64 (a1+1)) fun Ame=>Ah (call 51 [.pbox [.sc (.string Ft),.sc (.int .i64 Fc)],.sc (.int .i64 Ame),.sc (Value.map none)]) fun Aj5 Ad1=>Aa Aj5 fun Alj Alo=>Ak .i64 Alj fun Alh=>Ad Alo<|Aa Ad1 fun Al1 Aiz=>Aa Al1 fun Aky Aml=>Az Aky fun Amp=>Aa Aml fun Aik Aej=>Ak .i64 Aik fun Anj=>Ad Aej<|Ad Aiz<|some (Ay.mk [.agg [.sc (.int .i64 6),.sc (.string (ByteArray.mk #[])),.sc (.bool false)],.sc (.int .i64 Alh)] [[.sc (.string Amp),.sc (.int .i64 Anj)]])) (Bh (x5==91) (Ab (wrap .i64 (a1+1)) fun Am3=>Ah (call 91 [.pbox [.sc (.string Ft),.sc (.int .i64 Fc)],.sc (.int .i64 Am3)]) fun Ae1 Am0=>Aa Ae1 fun Aly Aj1=>Ak .i64 Aly fun Aki=>Ad Aj1<|Aa Am0 fun Ao7 Ajs=>Aa Ao7 fun Aie Alk=>Az Aie fun Ajm=>Aa Alk fun Ano Anl=>Ak .i64 Ano fun Amv=>Ad Anl<|Ad Ajs<|some (Ay.mk [.agg [.sc (.int .i64 5),.sc (.string (ByteArray.mk #[])),.sc (.bool false)],.sc (.int .i64 Aki)] [[.sc (.string Ajm),.sc (.int .i64 Amv)]])) (Bh (x5==34) (Ah (call 68 [.pbox [.sc (.string Ft),.sc (.int .i64 Fc)]]) fun Air Ai2=>Aa Air fun Amr Aix=>Az Amr fun Ajd=>Aa Aix fun Ajp Ah5=>Aq Ajp fun Ai3=>Ad Ah5<|Aa Ai2 fun Ain Aji=>Aa Ain fun Amu Alu=>Az Amu fun Adt=>Aa Alu fun Ah6 Aim=>Ak .i64 Ah6 fun Aey=>Ad Aim<|Ad Aji<|Bh Ai3 (some (Ay.mk [.agg [.sc (.int .i64 4),.sc (.string Ajd),.sc (.bool false)],.sc (.int .i64 0)] [[.sc (.string Adt),.sc (.int .i64 Aey)]])) (some (Ay.mk [.agg [.sc (.int .i64 0),.sc (.string (ByteArray.mk #[])),.sc (.bool false)],.sc (.int .i64 2)] [[.sc (.string Adt),.sc (.int .i64 Aey)]]))) (Ah (call 67 [.pbox [.sc (.string Ft),.sc (.int .i64 Fc)],.sc (.string (ByteArray.mk #[116,114,117,101]))]) fun Aj7 Amq=>Aa Aj7 fun Ala Aj3=>Aq Ala fun Ama=>Ad Aj3<|Aa Amq fun Amh Ajy=>Aa Amh fun Alb Aip=>Az Alb fun Agc=>Aa Aip fun Amm Aj9=>Ak .i64 Amm fun Afx=>Ad Aj9<|Ad Ajy<|Bh Ama (some (Ay.mk [.agg [.sc (.int .i64 2),.sc (.string (ByteArray.mk #[])),.sc (.bool true)],.sc (.int .i64 0)] [[.sc (.string Agc),.sc (.int .i64 Afx)]])) (Ah (call 67 [.pbox [.sc (.string Agc),.sc (.int .i64 Afx)],.sc (.string (ByteArray.mk #[102,97,108,115,101]))]) fun Akp Amb=>Aa Akp fun Aiy Akn=>Aq Aiy fun Aiu=>Ad Akn<|Aa Amb fun Amz Akt=>Aa Amz fun Ae6 Aje=>Az Ae6 fun Ad0=>Aa Aje fun Aff Alp=>Ak .i64 Aff fun Adx=>Ad Alp<|Ad Akt<|Bh Aiu (some (Ay.mk [.agg [.sc (.int .i64 2),.sc (.string (ByteArray.mk #[])),.sc (.bool false)],.sc (.int .i64 0)] [[.sc (.string Ad0),.sc (.int .i64 Adx)]])) (Ah (call 67 [.pbox [.sc (.string Ad0),.sc (.int .i64 Adx)],.sc (.string (ByteArray.mk #[110,117,108,108]))]) fun Ai9 Ajf=>Aa Ai9 fun Ajk Amf=>Aq Ajk fun Ai7=>Ad Amf<|Aa Ajf fun Aid Ali=>Aa Aid fun Ae7 Aia=>Az Ae7 fun Aes=>Aa Aia fun Aeu Alr=>Ak .i64 Aeu fun Adz=>Ad Alr<|Ad Ali<|Bh Ai7 (some (Ay.mk [.agg [.sc (.int .i64 1),.sc (.string (ByteArray.mk #[])),.sc (.bool false)],.sc (.int .i64 0)] [[.sc (.string Aes),.sc (.int .i64 Adz)]])) (Ah (call 92 [.pbox [.sc (.string Aes),.sc (.int .i64 Adz)]]) fun Aib Al8=>Aa Aib fun Aoz Alg=>Aq Aoz fun Ak2=>Ad Alg<|Aa Al8 fun Ana Anp=>Aa Ana fun Aj0 Akb=>Az Aj0 fun Afa=>Aa Akb fun Ai4 Alm=>Ak .i64 Ai4 fun Agh=>Ad Alm<|Ad Anp<|Bh Ak2 (some (Ay.mk [.agg [.sc (.int .i64 3),.sc (.string (ByteArray.mk #[])),.sc (.bool false)],.sc (.int .i64 0)] [[.sc (.string Afa),.sc (.int .i64 Agh)]])) (some (Ay.mk [.agg [.sc (.int .i64 0),.sc (.string (ByteArray.mk #[])),.sc (.bool false)],.sc (.int .i64 2)] [[.sc (.string Afa),.sc (.int .i64 Agh)]]))))))))))) (Ae (CP p) prog fu d):=by kernel_rfl
end
section
open Go.Proofs.Tryd (prog)
open Go.IntKind (wrap)
theorem Ale:∀n:Fin 256,decide (Lib.indexByte [32,9,10,13] (n.val:Int).toNat.toUInt8>=0)=VW (n.val:Int):=by decide +kernel
theorem Aqo {c:Int}(h0:0<=c)(h1:c<=255):decide (Lib.indexByte [32,9,10,13] c.toNat.toUInt8>=0)=VW c:=by
 obtain⟨n,rfl⟩:=Int.eq_ofNat_of_zero_le h0;exact Ale ⟨n,by omega⟩
theorem Bm {t:ByteArray}:∀{l:List Int},Cz t l->Cz t (Bd l)
 |[],h=>h
 |c::l,h=>by
  unfold Bd;split
  ·exact Bm h.tail
  ·exact h
theorem Pf:∀(l:List Int),(Bd l).length<=l.length
 |[]=>Nat.le_refl _
 |c::l=>by
  unfold Bd;split
  ·exact Nat.le_succ_of_le (Pf l)
  ·exact Nat.le_refl _
section
variable {fu d:Nat}
theorem Aqt (s:ByteArray)(c:Int):Ae C0 prog fu (d+2) Jj [.sc (.string s),.sc (.int .u8 c)]=some ⟨[.sc (.int .i64 (Lib.indexByte s.data.toList c.toNat.toUInt8))],[]⟩:=by
 have e:Ae C0 prog fu (d+1) 40 [.sc (.string s),.sc (.int .u8 c)]=some ⟨[.sc (.int .i64 (Lib.indexByte s.data.toList c.toNat.toUInt8))],[]⟩:=rfl;rw[Jm];simp only[Ek,e]
theorem DR {t s0:ByteArray}{p0:Int}(ht:t.size<=1000000):∀(r:List Int)(nn:Nat),r.length+1<=nn->Cz t r ->
  Cx fu (Ae C0 prog fu (d+2)) s0 p0 nn t (Bp t r:Int)=some ⟨[],[Bw t (Bd r)]⟩
 |[],nn,Rb,h=>by
  obtain⟨k,rfl⟩:∃k,nn=k+1:=⟨nn-1,by omega⟩
  have e:decide ((Bp t []:Int)<(t.size:Int))=false:=by simp[Th]
  rw[Eo];simp only[Ek,e];rfl
 |c::r,nn,Rb,h=>by
  obtain⟨k,rfl⟩:∃k,nn=k+1:=⟨nn-1,by omega⟩
  have ih:=DR (s0:=s0) (p0:=p0) ht r k (by simp at Rb;omega) h.tail
  have hc:=h.B c (by simp)
  have hl:=h.len;have hp:=J7 h
  have e6:wrap .i64 ((Bp t (c::r):Int)+1)=(Bp t r:Int):=by
   rw[hp,Bc (by unfold Bp;omega) (by unfold Bp;omega)];omega
  have Sd:Bp t (c::r)<t.size:=by
   unfold Bp;rw[QI] at hl ⊢;omega
  obtain⟨b,hb,rfl⟩:=h.at;have e:decide ((Bp t ((b.toNat:Int)::r):Int)<(t.size:Int))=true:=by simp;omega
  have e2:decide ((0:Int)<=(Bp t ((b.toNat:Int)::r):Int))=true:=by simp
  rw[←Oo (Bp t ((b.toNat:Int)::r))] at hb;have ix:Ae C0 prog fu (d+2) 27 [.sc (.string (ByteArray.mk #[(32:UInt8),(9:UInt8),(10:UInt8),(13:UInt8)])),.sc (.int .u8 (b.toNat:Int))]=some ⟨[.sc (.int .i64 (Lib.indexByte [32,9,10,13] (b.toNat:Int).toNat.toUInt8))],[]⟩:=Aqt _ _;have hw:=Aqo hc.1 hc.2;rw[Eo];cases hq:VW (b.toNat:Int)
  ·rw[hq] at hw
   have es:Bd ((b.toNat:Int)::r)=(b.toNat:Int)::r:=by
    show (if VW _=true then _ else _)=_
    rw[hq];rfl
   rw[es];simp only[Ek,e,e2,hb,ix,hw]
  ·rw[hq] at hw
   have es:Bd ((b.toNat:Int)::r)=Bd r:=by
    show (if VW _=true then _ else _)=_
    rw[hq];rfl
   rw[es];simp only[Ek,e,e2,hb,ix,hw,e6,ih]
theorem Ni {t:ByteArray}{r:List Int}(h:Cz t r)(ht:t.size<=1000000)(Ev:t.size+1<=fu):Ae C0 prog fu (d+3) Fb [.pbox (Bw t r)]=some ⟨[],[Bw t (Bd r)]⟩:=by
 rw[Iq];exact DR ht r fu (by have:=h.len;omega) h
theorem DL {t:ByteArray}:∀{l:List Int},Cz t l->Cz t (Ip l)
 |[],h=>h
 |c::l,h=>by
  unfold Ip;split
  ·exact DL h.tail
  ·exact h
theorem DE:∀(l:List Int),(Ip l).length<=l.length
 |[]=>Nat.le_refl _
 |c::l=>by
  unfold Ip;split
  ·exact Nat.le_succ_of_le (DE l)
  ·exact Nat.le_refl _
theorem V4 {t s0:ByteArray}{p0 y0:Int}(ht:t.size<=1000000):∀(r:List Int)(nn:Nat),r.length+1<=nn->Cz t r ->
  Co fu (Ae C0 prog fu (d+1)) s0 p0 nn y0 t (Bp t r:Int)=some ⟨[.sc (.bool (decide ((Bp t (Ip r):Int)>y0)))],[Bw t (Ip r)]⟩
 |[],nn,Rb,h=>by
  obtain⟨k,rfl⟩:∃k,nn=k+1:=⟨nn-1,by omega⟩
  have pk:Ae C0 prog fu (d+1) 90 [.pbox (Bw t [])]=some ⟨[.sc (.int .u8 0)],[Bw t []]⟩:=Kh (xs:=xs0) h;have e:decide ((0:Int)>=48)=false:=rfl;rw[El];simp only[Ek,pk,e];rfl
 |c::r,nn,Rb,h=>by
  obtain⟨k,rfl⟩:∃k,nn=k+1:=⟨nn-1,by omega⟩
  have ih:=V4 (s0:=s0) (p0:=p0) (y0:=y0) ht r k (by simp at Rb;omega) h.tail
  have hc:=h.B c (by simp)
  have hl:=h.len;have hp:=J7 h
  have e6:wrap .i64 ((Bp t (c::r):Int)+1)=(Bp t r:Int):=by
   rw[hp,Bc (by unfold Bp;omega) (by unfold Bp;omega)];omega
  have pk:Ae C0 prog fu (d+1) 90 [.pbox (Bw t (c::r))]=some ⟨[.sc (.int .u8 c)],[Bw t (c::r)]⟩:=Kh (xs:=xs0) h;have ed:Ip (c::r)=if UF c=true then Ip r else c::r:=rfl
  rw[El,ed];by_cases h1:48<=c
  ·have e1:decide (c>=48)=true:=by simp;omega
   by_cases h2:c<=57
   ·have e2:decide (c<=57)=true:=by simp;omega
    have e3:UF c=true:=by simp[UF];omega
    rw[E7 e3];simp only[Ek,pk,e1,e2,e6,ih]
   ·have e2:decide (c<=57)=false:=by simp;omega
    have e3:¬UF c=true:=by simp[UF];omega
    rw[Dz e3];simp only[Ek,pk,e1,e2]
  ·have e1:decide (c>=48)=false:=by simp;omega
   have e3:¬UF c=true:=by simp[UF];omega
   rw[Dz e3];simp only[Ek,pk,e1]
def Arn (t:ByteArray)(r:List Int)(o:Option (List Int)):Ay:=⟨[.sc (.bool o.isSome)],[Bw t (o.getD r)]⟩
theorem Dg {t:ByteArray}{r:List Int}(h:Cz t r)(ht:t.size<=1000000)(Ev:t.size+1<=fu):Ae C0 prog fu (d+2) E0 [.pbox (Bw t r)]=some (Arn t r (Cd r)):=by
 rw[H1];refine (V4 ht r fu (by have:=h.len;omega) h).trans ?_
 cases r with
 |nil=>
  have e:decide ((Bp t (Ip []):Int)>(Bp t []:Int))=false:=by simp[Ip]
  rw[e];rfl
 |cons c r=>
  have hl:=h.len;have hp:=J7 h;have ed:Ip (c::r)=if UF c=true then Ip r else c::r:=rfl
  have eg:Cd (c::r)=if UF c=true then some (Ip r) else none:=rfl
  rw[ed,eg];have hd:=DE r;by_cases q:UF c=true
  ·rw[E7 q,E7 q]
   have e:decide ((Bp t (Ip r):Int)>(Bp t (c::r):Int))=true:=by
    rw[QI] at hl;simp only[gt_iff_lt,decide_eq_true_eq];unfold Bp;rw[QI];omega
   rw[e];rfl
  ·rw[Dz q,Dz q];have e:decide ((Bp t (c::r):Int)>(Bp t (c::r):Int))=false:=by simp
   rw[e];rfl
theorem PP {t:ByteArray}{r:List Int}(c:UInt8)(h:Cz t r)(ht:t.size<=1000000):Ae C0 prog fu (d+3) 67 [.pbox (Bw t r),.sc (.string (ByteArray.mk #[c]))]=some (Arn t r (Ap [(c.toNat:Int)] r)):=by
 have hc:=c.toNat_lt;have e:=O5 (fu:=fu) (d:=d) (xs:=xs0) h ht (w:=[(c.toNat:Int)]) (fun x hx=>by simp at hx;omega) (show 1<=100 by decide)
 have e2:Ac [(c.toNat:Int)]=ByteArray.mk #[c]:=by
  show ByteArray.mk #[((c.toNat:Int)).toNat.toUInt8]=_;rw[Oo];simp
 rw[e2] at e;refine e.trans ?_;cases Ap [(c.toNat:Int)] r<;>rfl
theorem Fi (c:Int):∀r:List Int,Ap [c] r=match r with|[]=>none|x::r'=>if x=c then some r' else none
 |[]=>rfl
 |x::r=>by
  unfold Ap;by_cases h:x=c
  ·subst h;rw[E7 (by simp[List.isPrefixOf])]
   simp
  ·rw[Dz (by simp[List.isPrefixOf];exact fun e=>h e.symm)]
   simp[h]
theorem Ao {t:ByteArray}{w r r':List Int}(h:Cz t r)(e:Ap w r=some r'):Cz t r':=by
 unfold Ap at e;split at e
 ·cases e;exact h.drop _
 ·cases e
theorem U0 (c:Int)(r:List Int):Abe c r=(Ap [c] r).getD r:=by
 rw[Fi];cases r with
 |nil=>rfl
 |cons x r=>
  show (if x=c then r else x::r)=_
  split<;>simp_all
theorem DG (r:List Int):Afi r=match Ap [48] r with|some q=>some q|none=>Cd r:=by
 rw[Fi];cases r with
 |nil=>rfl
 |cons x r=>
  show (if x=48 then some r else Cd (x::r))=_
  by_cases h:x=48
  ·rw[E7 h];simp[h]
  ·rw[Dz h];simp[h]
theorem Ri (r:List Int):Yg r=match Ap [46] r with|some q=>(Cd q).bind Re|none=>Re r:=by
 rw[Fi];cases r with
 |nil=>rfl
 |cons x r=>
  show (if x=46 then (Cd r).bind Re else Re (x::r))=_
  by_cases h:x=46
  ·rw[E7 h];simp[h]
  ·rw[Dz h];simp[h]
def Ks (r:List Int):Option (List Int):=match Ap [43] r with|some q=>Cd q|none=>Cd ((Ap [45] r).getD r)
theorem Ad5 (r:List Int):(match r with|43::r'=>Cd r'|r=>Cd (Abe 45 r))=Ks r:=by
 unfold Ks;rw[Fi 43,←U0];split
 ·simp
 ·rename_i Ec;cases r with
  |nil=>rfl
  |cons x r=>
   by_cases h:x=43
   ·exact absurd (by rw[h]) (Ec r)
   ·simp[h]
theorem L9 (r:List Int):Re r=match Ap [101] r with|some q=>Ks q|none=>match Ap [69] r with|some q=>Ks q|none=>some r:=by
 rw[Fi,Fi];cases r with
 |nil=>rfl
 |cons x r=>
  have e:Re (x::r)=if x=101∨x=69 then Ks r else some (x::r):=by
   rw[←Ad5];rfl
  rw[e];by_cases h:x=101
  ·rw[E7 (Or.inl h)];simp[h]
  ·by_cases h2:x=69
   ·rw[E7 (Or.inr h2)];simp[h2]
   ·rw[Dz (by omega)];simp[h,h2]
theorem Cr {t:ByteArray}{r r':List Int}(h:Cz t r)(e:Cd r=some r'):Cz t r':=by
 cases r with
 |nil=>cases e
 |cons c r=>
  have eg:Cd (c::r)=if UF c=true then some (Ip r) else none:=rfl
  rw[eg] at e;split at e
  ·cases e;exact DL h.tail
  ·cases e
theorem Ce {t:ByteArray}{r:List Int}{o:Option (List Int)} (h:Cz t r)(ho:∀q,o=some q->Cz t q):Cz t (o.getD r):=by
 cases o with
 |none=>exact h
 |some q=>exact ho q rfl
end
end
section
open Go.Proofs.Tryd (prog)
open Go.IntKind (wrap)
section
variable {fu d:Nat}
theorem Dy {t:ByteArray}{r:List Int}(c:UInt8)(n:Int)(hn:(c.toNat:Int)=n) (h:Cz t r)(ht:t.size<=1000000)(hq:Ap [n] r=none):Ae C0 prog fu (d+3) 67 [.pbox (Bw t r),.sc (.string (ByteArray.mk #[c]))]=some ⟨[.sc (.bool false)],[Bw t r]⟩:=by
 subst hn;have e:=PP (fu:=fu) (d:=d) c h ht;rw[hq] at e;exact e
theorem Cp {t:ByteArray}{r q:List Int}(c:UInt8)(n:Int)(hn:(c.toNat:Int)=n) (h:Cz t r)(ht:t.size<=1000000)(hq:Ap [n] r=some q):Ae C0 prog fu (d+3) 67 [.pbox (Bw t r),.sc (.string (ByteArray.mk #[c]))]=some ⟨[.sc (.bool true)],[Bw t q]⟩:=by
 subst hn;have e:=PP (fu:=fu) (d:=d) c h ht;rw[hq] at e;exact e
theorem J1 {t:ByteArray}{r:List Int}(c:UInt8)(n:Int)(hn:(c.toNat:Int)=n) (h:Cz t r)(ht:t.size<=1000000):Ae C0 prog fu (d+3) 67 [.pbox (Bw t r),.sc (.string (ByteArray.mk #[c]))]=some ⟨[.sc (.bool (Ap [n] r).isSome)],[Bw t ((Ap [n] r).getD r)]⟩:=by
 subst hn;exact PP (fu:=fu) (d:=d) c h ht
set_option maxHeartbeats 2000000 in
theorem YS {t:ByteArray}{r:List Int}(h:Cz t r)(ht:t.size<=1000000)(Ev:t.size+1<=fu):∃r',Cz t r'∧Ae C0 prog fu (d+4) E3 [.pbox (Bw t r)]=some ⟨[.sc (.bool (E9 r).isSome)],[Bw t r']⟩∧∀q,E9 r=some q->r'=q:=by
 have a0:=J1 (fu:=fu) (d:=d) 45 45 rfl h ht;have UV:Cz t ((Ap [45] r).getD r):=Ce h fun q e=>Ao h e
 have Ub:E9 r=(Afi ((Ap [45] r).getD r)).bind Yg:=by rw[←U0];rfl
 generalize (Ap [45] r).getD r=r1 at a0 UV Ub;generalize (Ap [45] r).isSome=b0 at a0;rw[DG] at Ub;rcases hz:Ap [48] r1 with _|r2
 ·have Fx:=Dy (fu:=fu) (d:=d) 48 48 rfl UV ht hz;rw[hz] at Ub;have OD:=Dg (d:=d+1) UV ht Ev;rcases hzd:Cd r1 with _|r2
  ·simp only[hzd] at OD Ub;have Lk:Ae C0 prog fu (d+3) 107 [.pbox (Bw t r1)]=some ⟨[.sc (.bool false)],[Bw t r1]⟩:=OD;have hn:E9 r=none:=Ub;refine⟨r1,UV,?_,?_⟩
   ·rw[hn,Ag]
    try unfold Ab
    repeat first
     |((with_reducible first|apply A1|apply As|apply A3|apply Au|apply A4|apply At|apply A0|apply A2);· first|with_reducible rfl|(simp (disch:=omega) only[gT,a0,Fx,Lk,Db,D1]<;>first|with_reducible rfl|omega)|omega)
     |(with_reducible apply A5;· first|with_reducible rfl|(simp (disch:=omega) only[gF,a0,Fx,Lk,Db,D1]<;>omega))
    try simp (disch:=omega) only[a0,Fx,Lk,Db,D1]
    try rfl
   ·rw[hn];intro q e;cases e
  ·simp only[hzd] at OD Ub;have Lk:Ae C0 prog fu (d+3) 107 [.pbox (Bw t r1)]=some ⟨[.sc (.bool true)],[Bw t r2]⟩:=OD;have Rn:=Cr UV hzd;have BF:E9 r=Yg r2:=Ub;rw[Ri] at BF;rcases hdt:Ap [46] r2 with _|r3
   ·have Gc:=Dy (fu:=fu) (d:=d) 46 46 rfl Rn ht hdt;rw[hdt] at BF;have Ko:E9 r=Re r2:=BF;rw[L9] at Ko;rcases he:Ap [101] r2 with _|r5
    ·have Gp:=Dy (fu:=fu) (d:=d) 101 101 rfl Rn ht he;rw[he] at Ko;rcases hE:Ap [69] r2 with _|r5
     ·have Lp:=Dy (fu:=fu) (d:=d) 69 69 rfl Rn ht hE;have hn:E9 r=some r2:=by rw[Ko,hE]
      refine⟨r2,Rn,?_,?_⟩
      ·rw[hn,Ag]
       try unfold Ab
       repeat first
        |((with_reducible first|apply A1|apply As|apply A3|apply Au|apply A4|apply At|apply A0|apply A2);· first|with_reducible rfl|(simp (disch:=omega) only[gT,a0,Fx,Lk,Gc,Gp,Lp,Db,D1]<;>first|with_reducible rfl|omega)|omega)
        |(with_reducible apply A5;· first|with_reducible rfl|(simp (disch:=omega) only[gF,a0,Fx,Lk,Gc,Gp,Lp,Db,D1]<;>omega))
       try simp (disch:=omega) only[a0,Fx,Lk,Gc,Gp,Lp,Db,D1]
       try rfl
      ·rw[hn];intro q e;cases e;rfl
     ·have Lp:=Cp (fu:=fu) (d:=d) 69 69 rfl Rn ht hE;have Hr:=Ao Rn hE;rw[hE] at Ko;simp only at Ko;rcases hp:Ap [43] r5 with _|r6
      ·have Gm:=Dy (fu:=fu) (d:=d) 43 43 rfl Hr ht hp;have Cb:=J1 (fu:=fu) (d:=d) 45 45 rfl Hr ht;have Fq:Cz t ((Ap [45] r5).getD r5):=Ce Hr fun q e=>Ao Hr e
       have hn:E9 r=Cd ((Ap [45] r5).getD r5):=by rw[Ko];unfold Ks;rw[hp]
       generalize (Ap [45] r5).getD r5=r6 at Cb Fq hn;generalize (Ap [45] r5).isSome=b1 at Cb;have hg:Ae C0 prog fu (d+3) 107 [.pbox (Bw t r6)]=some ⟨[.sc (.bool (Cd r6).isSome)],[Bw t ((Cd r6).getD r6)]⟩:=Dg (d:=d+1) Fq ht Ev;refine⟨(Cd r6).getD r6,Ce Fq fun q e=>Cr Fq e,?_,?_⟩
       ·rw[hn,Ag]
        try unfold Ab
        repeat first
         |((with_reducible first|apply A1|apply As|apply A3|apply Au|apply A4|apply At|apply A0|apply A2);· first|with_reducible rfl|(simp (disch:=omega) only[gT,a0,Fx,Lk,Gc,Gp,Lp,Gm,Cb,hg,Db,D1]<;>first|with_reducible rfl|omega)|omega)
         |(with_reducible apply A5;· first|with_reducible rfl|(simp (disch:=omega) only[gF,a0,Fx,Lk,Gc,Gp,Lp,Gm,Cb,hg,Db,D1]<;>omega))
        try simp (disch:=omega) only[a0,Fx,Lk,Gc,Gp,Lp,Gm,Cb,hg,Db,D1]
        try rfl
       ·rw[hn];intro q e;rw[e];rfl
      ·have Gm:=Cp (fu:=fu) (d:=d) 43 43 rfl Hr ht hp;have Fq:=Ao Hr hp;have hn:E9 r=Cd r6:=by rw[Ko];unfold Ks;rw[hp]
       have hg:Ae C0 prog fu (d+3) 107 [.pbox (Bw t r6)]=some ⟨[.sc (.bool (Cd r6).isSome)],[Bw t ((Cd r6).getD r6)]⟩:=Dg (d:=d+1) Fq ht Ev;refine⟨(Cd r6).getD r6,Ce Fq fun q e=>Cr Fq e,?_,?_⟩
       ·rw[hn,Ag]
        try unfold Ab
        repeat first
         |((with_reducible first|apply A1|apply As|apply A3|apply Au|apply A4|apply At|apply A0|apply A2);· first|with_reducible rfl|(simp (disch:=omega) only[gT,a0,Fx,Lk,Gc,Gp,Lp,Gm,hg,Db,D1]<;>first|with_reducible rfl|omega)|omega)
         |(with_reducible apply A5;· first|with_reducible rfl|(simp (disch:=omega) only[gF,a0,Fx,Lk,Gc,Gp,Lp,Gm,hg,Db,D1]<;>omega))
        try simp (disch:=omega) only[a0,Fx,Lk,Gc,Gp,Lp,Gm,hg,Db,D1]
        try rfl
       ·rw[hn];intro q e;rw[e];rfl
    ·have Gp:=Cp (fu:=fu) (d:=d) 101 101 rfl Rn ht he;have Hr:=Ao Rn he;rw[he] at Ko;simp only at Ko;rcases hp:Ap [43] r5 with _|r6
     ·have Gm:=Dy (fu:=fu) (d:=d) 43 43 rfl Hr ht hp;have Cb:=J1 (fu:=fu) (d:=d) 45 45 rfl Hr ht;have Fq:Cz t ((Ap [45] r5).getD r5):=Ce Hr fun q e=>Ao Hr e
      have hn:E9 r=Cd ((Ap [45] r5).getD r5):=by rw[Ko];unfold Ks;rw[hp]
      generalize (Ap [45] r5).getD r5=r6 at Cb Fq hn;generalize (Ap [45] r5).isSome=b1 at Cb;have hg:Ae C0 prog fu (d+3) 107 [.pbox (Bw t r6)]=some ⟨[.sc (.bool (Cd r6).isSome)],[Bw t ((Cd r6).getD r6)]⟩:=Dg (d:=d+1) Fq ht Ev;refine⟨(Cd r6).getD r6,Ce Fq fun q e=>Cr Fq e,?_,?_⟩
      ·rw[hn,Ag]
       try unfold Ab
       repeat first
        |((with_reducible first|apply A1|apply As|apply A3|apply Au|apply A4|apply At|apply A0|apply A2);· first|with_reducible rfl|(simp (disch:=omega) only[gT,a0,Fx,Lk,Gc,Gp,Gm,Cb,hg,Db,D1]<;>first|with_reducible rfl|omega)|omega)
        |(with_reducible apply A5;· first|with_reducible rfl|(simp (disch:=omega) only[gF,a0,Fx,Lk,Gc,Gp,Gm,Cb,hg,Db,D1]<;>omega))
       try simp (disch:=omega) only[a0,Fx,Lk,Gc,Gp,Gm,Cb,hg,Db,D1]
       try rfl
      ·rw[hn];intro q e;rw[e];rfl
     ·have Gm:=Cp (fu:=fu) (d:=d) 43 43 rfl Hr ht hp;have Fq:=Ao Hr hp;have hn:E9 r=Cd r6:=by rw[Ko];unfold Ks;rw[hp]
      have hg:Ae C0 prog fu (d+3) 107 [.pbox (Bw t r6)]=some ⟨[.sc (.bool (Cd r6).isSome)],[Bw t ((Cd r6).getD r6)]⟩:=Dg (d:=d+1) Fq ht Ev;refine⟨(Cd r6).getD r6,Ce Fq fun q e=>Cr Fq e,?_,?_⟩
      ·rw[hn,Ag]
       try unfold Ab
       repeat first
        |((with_reducible first|apply A1|apply As|apply A3|apply Au|apply A4|apply At|apply A0|apply A2);· first|with_reducible rfl|(simp (disch:=omega) only[gT,a0,Fx,Lk,Gc,Gp,Gm,hg,Db,D1]<;>first|with_reducible rfl|omega)|omega)
        |(with_reducible apply A5;· first|with_reducible rfl|(simp (disch:=omega) only[gF,a0,Fx,Lk,Gc,Gp,Gm,hg,Db,D1]<;>omega))
       try simp (disch:=omega) only[a0,Fx,Lk,Gc,Gp,Gm,hg,Db,D1]
       try rfl
      ·rw[hn];intro q e;rw[e];rfl
   ·have Gc:=Cp (fu:=fu) (d:=d) 46 46 rfl Rn ht hdt;have hS3:=Ao Rn hdt;rw[hdt] at BF;have BF:E9 r=(Cd r3).bind Re:=BF;have hd1:=Dg (d:=d+1) hS3 ht Ev;rcases EV:Cd r3 with _|r4
    ·rw[EV] at hd1 BF;have K3:Ae C0 prog fu (d+3) 107 [.pbox (Bw t r3)]=some ⟨[.sc (.bool false)],[Bw t r3]⟩:=hd1;have hn:E9 r=none:=BF;refine⟨r3,hS3,?_,?_⟩
     ·rw[hn,Ag]
      try unfold Ab
      repeat first
       |((with_reducible first|apply A1|apply As|apply A3|apply Au|apply A4|apply At|apply A0|apply A2);· first|with_reducible rfl|(simp (disch:=omega) only[gT,a0,Fx,Lk,Gc,K3,Db,D1]<;>first|with_reducible rfl|omega)|omega)
       |(with_reducible apply A5;· first|with_reducible rfl|(simp (disch:=omega) only[gF,a0,Fx,Lk,Gc,K3,Db,D1]<;>omega))
      try simp (disch:=omega) only[a0,Fx,Lk,Gc,K3,Db,D1]
      try rfl
     ·rw[hn];intro q e;cases e
    ·rw[EV] at hd1 BF;have K3:Ae C0 prog fu (d+3) 107 [.pbox (Bw t r3)]=some ⟨[.sc (.bool true)],[Bw t r4]⟩:=hd1;have Xw:=Cr hS3 EV;have Ko:E9 r=Re r4:=BF;rw[L9] at Ko;rcases he:Ap [101] r4 with _|r5
     ·have Gp:=Dy (fu:=fu) (d:=d) 101 101 rfl Xw ht he;rw[he] at Ko;rcases hE:Ap [69] r4 with _|r5
      ·have Lp:=Dy (fu:=fu) (d:=d) 69 69 rfl Xw ht hE;have hn:E9 r=some r4:=by rw[Ko,hE]
       refine⟨r4,Xw,?_,?_⟩
       ·rw[hn,Ag]
        try unfold Ab
        repeat first
         |((with_reducible first|apply A1|apply As|apply A3|apply Au|apply A4|apply At|apply A0|apply A2);· first|with_reducible rfl|(simp (disch:=omega) only[gT,a0,Fx,Lk,Gc,K3,Gp,Lp,Db,D1]<;>first|with_reducible rfl|omega)|omega)
         |(with_reducible apply A5;· first|with_reducible rfl|(simp (disch:=omega) only[gF,a0,Fx,Lk,Gc,K3,Gp,Lp,Db,D1]<;>omega))
        try simp (disch:=omega) only[a0,Fx,Lk,Gc,K3,Gp,Lp,Db,D1]
        try rfl
       ·rw[hn];intro q e;cases e;rfl
      ·have Lp:=Cp (fu:=fu) (d:=d) 69 69 rfl Xw ht hE;have Hr:=Ao Xw hE;rw[hE] at Ko;simp only at Ko;rcases hp:Ap [43] r5 with _|r6
       ·have Gm:=Dy (fu:=fu) (d:=d) 43 43 rfl Hr ht hp;have Cb:=J1 (fu:=fu) (d:=d) 45 45 rfl Hr ht;have Fq:Cz t ((Ap [45] r5).getD r5):=Ce Hr fun q e=>Ao Hr e
        have hn:E9 r=Cd ((Ap [45] r5).getD r5):=by rw[Ko];unfold Ks;rw[hp]
        generalize (Ap [45] r5).getD r5=r6 at Cb Fq hn;generalize (Ap [45] r5).isSome=b1 at Cb;have hg:Ae C0 prog fu (d+3) 107 [.pbox (Bw t r6)]=some ⟨[.sc (.bool (Cd r6).isSome)],[Bw t ((Cd r6).getD r6)]⟩:=Dg (d:=d+1) Fq ht Ev;refine⟨(Cd r6).getD r6,Ce Fq fun q e=>Cr Fq e,?_,?_⟩
        ·rw[hn,Ag]
         try unfold Ab
         repeat first
          |((with_reducible first|apply A1|apply As|apply A3|apply Au|apply A4|apply At|apply A0|apply A2);· first|with_reducible rfl|(simp (disch:=omega) only[gT,a0,Fx,Lk,Gc,K3,Gp,Lp,Gm,Cb,hg,Db,D1]<;>first|with_reducible rfl|omega)|omega)
          |(with_reducible apply A5;· first|with_reducible rfl|(simp (disch:=omega) only[gF,a0,Fx,Lk,Gc,K3,Gp,Lp,Gm,Cb,hg,Db,D1]<;>omega))
         try simp (disch:=omega) only[a0,Fx,Lk,Gc,K3,Gp,Lp,Gm,Cb,hg,Db,D1]
         try rfl
        ·rw[hn];intro q e;rw[e];rfl
       ·have Gm:=Cp (fu:=fu) (d:=d) 43 43 rfl Hr ht hp;have Fq:=Ao Hr hp;have hn:E9 r=Cd r6:=by rw[Ko];unfold Ks;rw[hp]
        have hg:Ae C0 prog fu (d+3) 107 [.pbox (Bw t r6)]=some ⟨[.sc (.bool (Cd r6).isSome)],[Bw t ((Cd r6).getD r6)]⟩:=Dg (d:=d+1) Fq ht Ev;refine⟨(Cd r6).getD r6,Ce Fq fun q e=>Cr Fq e,?_,?_⟩
        ·rw[hn,Ag]
         try unfold Ab
         repeat first
          |((with_reducible first|apply A1|apply As|apply A3|apply Au|apply A4|apply At|apply A0|apply A2);· first|with_reducible rfl|(simp (disch:=omega) only[gT,a0,Fx,Lk,Gc,K3,Gp,Lp,Gm,hg,Db,D1]<;>first|with_reducible rfl|omega)|omega)
          |(with_reducible apply A5;· first|with_reducible rfl|(simp (disch:=omega) only[gF,a0,Fx,Lk,Gc,K3,Gp,Lp,Gm,hg,Db,D1]<;>omega))
         try simp (disch:=omega) only[a0,Fx,Lk,Gc,K3,Gp,Lp,Gm,hg,Db,D1]
         try rfl
        ·rw[hn];intro q e;rw[e];rfl
     ·have Gp:=Cp (fu:=fu) (d:=d) 101 101 rfl Xw ht he;have Hr:=Ao Xw he;rw[he] at Ko;simp only at Ko;rcases hp:Ap [43] r5 with _|r6
      ·have Gm:=Dy (fu:=fu) (d:=d) 43 43 rfl Hr ht hp;have Cb:=J1 (fu:=fu) (d:=d) 45 45 rfl Hr ht;have Fq:Cz t ((Ap [45] r5).getD r5):=Ce Hr fun q e=>Ao Hr e
       have hn:E9 r=Cd ((Ap [45] r5).getD r5):=by rw[Ko];unfold Ks;rw[hp]
       generalize (Ap [45] r5).getD r5=r6 at Cb Fq hn;generalize (Ap [45] r5).isSome=b1 at Cb;have hg:Ae C0 prog fu (d+3) 107 [.pbox (Bw t r6)]=some ⟨[.sc (.bool (Cd r6).isSome)],[Bw t ((Cd r6).getD r6)]⟩:=Dg (d:=d+1) Fq ht Ev;refine⟨(Cd r6).getD r6,Ce Fq fun q e=>Cr Fq e,?_,?_⟩
       ·rw[hn,Ag]
        try unfold Ab
        repeat first
         |((with_reducible first|apply A1|apply As|apply A3|apply Au|apply A4|apply At|apply A0|apply A2);· first|with_reducible rfl|(simp (disch:=omega) only[gT,a0,Fx,Lk,Gc,K3,Gp,Gm,Cb,hg,Db,D1]<;>first|with_reducible rfl|omega)|omega)
         |(with_reducible apply A5;· first|with_reducible rfl|(simp (disch:=omega) only[gF,a0,Fx,Lk,Gc,K3,Gp,Gm,Cb,hg,Db,D1]<;>omega))
        try simp (disch:=omega) only[a0,Fx,Lk,Gc,K3,Gp,Gm,Cb,hg,Db,D1]
        try rfl
       ·rw[hn];intro q e;rw[e];rfl
      ·have Gm:=Cp (fu:=fu) (d:=d) 43 43 rfl Hr ht hp;have Fq:=Ao Hr hp;have hn:E9 r=Cd r6:=by rw[Ko];unfold Ks;rw[hp]
       have hg:Ae C0 prog fu (d+3) 107 [.pbox (Bw t r6)]=some ⟨[.sc (.bool (Cd r6).isSome)],[Bw t ((Cd r6).getD r6)]⟩:=Dg (d:=d+1) Fq ht Ev;refine⟨(Cd r6).getD r6,Ce Fq fun q e=>Cr Fq e,?_,?_⟩
       ·rw[hn,Ag]
        try unfold Ab
        repeat first
         |((with_reducible first|apply A1|apply As|apply A3|apply Au|apply A4|apply At|apply A0|apply A2);· first|with_reducible rfl|(simp (disch:=omega) only[gT,a0,Fx,Lk,Gc,K3,Gp,Gm,hg,Db,D1]<;>first|with_reducible rfl|omega)|omega)
         |(with_reducible apply A5;· first|with_reducible rfl|(simp (disch:=omega) only[gF,a0,Fx,Lk,Gc,K3,Gp,Gm,hg,Db,D1]<;>omega))
        try simp (disch:=omega) only[a0,Fx,Lk,Gc,K3,Gp,Gm,hg,Db,D1]
        try rfl
       ·rw[hn];intro q e;rw[e];rfl
 ·have Fx:=Cp (fu:=fu) (d:=d) 48 48 rfl UV ht hz;rw[hz] at Ub;have Rn:=Ao UV hz;have BF:E9 r=Yg r2:=Ub;rw[Ri] at BF;rcases hdt:Ap [46] r2 with _|r3
  ·have Gc:=Dy (fu:=fu) (d:=d) 46 46 rfl Rn ht hdt;rw[hdt] at BF;have Ko:E9 r=Re r2:=BF;rw[L9] at Ko;rcases he:Ap [101] r2 with _|r5
   ·have Gp:=Dy (fu:=fu) (d:=d) 101 101 rfl Rn ht he;rw[he] at Ko;rcases hE:Ap [69] r2 with _|r5
    ·have Lp:=Dy (fu:=fu) (d:=d) 69 69 rfl Rn ht hE;have hn:E9 r=some r2:=by rw[Ko,hE]
     refine⟨r2,Rn,?_,?_⟩
     ·rw[hn,Ag]
      try unfold Ab
      repeat first
       |((with_reducible first|apply A1|apply As|apply A3|apply Au|apply A4|apply At|apply A0|apply A2);· first|with_reducible rfl|(simp (disch:=omega) only[gT,a0,Fx,Gc,Gp,Lp,Db,D1]<;>first|with_reducible rfl|omega)|omega)
       |(with_reducible apply A5;· first|with_reducible rfl|(simp (disch:=omega) only[gF,a0,Fx,Gc,Gp,Lp,Db,D1]<;>omega))
      try simp (disch:=omega) only[a0,Fx,Gc,Gp,Lp,Db,D1]
      try rfl
     ·rw[hn];intro q e;cases e;rfl
    ·have Lp:=Cp (fu:=fu) (d:=d) 69 69 rfl Rn ht hE;have Hr:=Ao Rn hE;rw[hE] at Ko;simp only at Ko;rcases hp:Ap [43] r5 with _|r6
     ·have Gm:=Dy (fu:=fu) (d:=d) 43 43 rfl Hr ht hp;have Cb:=J1 (fu:=fu) (d:=d) 45 45 rfl Hr ht;have Fq:Cz t ((Ap [45] r5).getD r5):=Ce Hr fun q e=>Ao Hr e
      have hn:E9 r=Cd ((Ap [45] r5).getD r5):=by rw[Ko];unfold Ks;rw[hp]
      generalize (Ap [45] r5).getD r5=r6 at Cb Fq hn;generalize (Ap [45] r5).isSome=b1 at Cb;have hg:Ae C0 prog fu (d+3) 107 [.pbox (Bw t r6)]=some ⟨[.sc (.bool (Cd r6).isSome)],[Bw t ((Cd r6).getD r6)]⟩:=Dg (d:=d+1) Fq ht Ev;refine⟨(Cd r6).getD r6,Ce Fq fun q e=>Cr Fq e,?_,?_⟩
      ·rw[hn,Ag]
       try unfold Ab
       repeat first
        |((with_reducible first|apply A1|apply As|apply A3|apply Au|apply A4|apply At|apply A0|apply A2);· first|with_reducible rfl|(simp (disch:=omega) only[gT,a0,Fx,Gc,Gp,Lp,Gm,Cb,hg,Db,D1]<;>first|with_reducible rfl|omega)|omega)
        |(with_reducible apply A5;· first|with_reducible rfl|(simp (disch:=omega) only[gF,a0,Fx,Gc,Gp,Lp,Gm,Cb,hg,Db,D1]<;>omega))
       try simp (disch:=omega) only[a0,Fx,Gc,Gp,Lp,Gm,Cb,hg,Db,D1]
       try rfl
      ·rw[hn];intro q e;rw[e];rfl
     ·have Gm:=Cp (fu:=fu) (d:=d) 43 43 rfl Hr ht hp;have Fq:=Ao Hr hp;have hn:E9 r=Cd r6:=by rw[Ko];unfold Ks;rw[hp]
      have hg:Ae C0 prog fu (d+3) 107 [.pbox (Bw t r6)]=some ⟨[.sc (.bool (Cd r6).isSome)],[Bw t ((Cd r6).getD r6)]⟩:=Dg (d:=d+1) Fq ht Ev;refine⟨(Cd r6).getD r6,Ce Fq fun q e=>Cr Fq e,?_,?_⟩
      ·rw[hn,Ag]
       try unfold Ab
       repeat first
        |((with_reducible first|apply A1|apply As|apply A3|apply Au|apply A4|apply At|apply A0|apply A2);· first|with_reducible rfl|(simp (disch:=omega) only[gT,a0,Fx,Gc,Gp,Lp,Gm,hg,Db,D1]<;>first|with_reducible rfl|omega)|omega)
        |(with_reducible apply A5;· first|with_reducible rfl|(simp (disch:=omega) only[gF,a0,Fx,Gc,Gp,Lp,Gm,hg,Db,D1]<;>omega))
       try simp (disch:=omega) only[a0,Fx,Gc,Gp,Lp,Gm,hg,Db,D1]
       try rfl
      ·rw[hn];intro q e;rw[e];rfl
   ·have Gp:=Cp (fu:=fu) (d:=d) 101 101 rfl Rn ht he;have Hr:=Ao Rn he;rw[he] at Ko;simp only at Ko;rcases hp:Ap [43] r5 with _|r6
    ·have Gm:=Dy (fu:=fu) (d:=d) 43 43 rfl Hr ht hp;have Cb:=J1 (fu:=fu) (d:=d) 45 45 rfl Hr ht;have Fq:Cz t ((Ap [45] r5).getD r5):=Ce Hr fun q e=>Ao Hr e
     have hn:E9 r=Cd ((Ap [45] r5).getD r5):=by rw[Ko];unfold Ks;rw[hp]
     generalize (Ap [45] r5).getD r5=r6 at Cb Fq hn;generalize (Ap [45] r5).isSome=b1 at Cb;have hg:Ae C0 prog fu (d+3) 107 [.pbox (Bw t r6)]=some ⟨[.sc (.bool (Cd r6).isSome)],[Bw t ((Cd r6).getD r6)]⟩:=Dg (d:=d+1) Fq ht Ev;refine⟨(Cd r6).getD r6,Ce Fq fun q e=>Cr Fq e,?_,?_⟩
     ·rw[hn,Ag]
      try unfold Ab
      repeat first
       |((with_reducible first|apply A1|apply As|apply A3|apply Au|apply A4|apply At|apply A0|apply A2);· first|with_reducible rfl|(simp (disch:=omega) only[gT,a0,Fx,Gc,Gp,Gm,Cb,hg,Db,D1]<;>first|with_reducible rfl|omega)|omega)
       |(with_reducible apply A5;· first|with_reducible rfl|(simp (disch:=omega) only[gF,a0,Fx,Gc,Gp,Gm,Cb,hg,Db,D1]<;>omega))
      try simp (disch:=omega) only[a0,Fx,Gc,Gp,Gm,Cb,hg,Db,D1]
      try rfl
     ·rw[hn];intro q e;rw[e];rfl
    ·have Gm:=Cp (fu:=fu) (d:=d) 43 43 rfl Hr ht hp;have Fq:=Ao Hr hp;have hn:E9 r=Cd r6:=by rw[Ko];unfold Ks;rw[hp]
     have hg:Ae C0 prog fu (d+3) 107 [.pbox (Bw t r6)]=some ⟨[.sc (.bool (Cd r6).isSome)],[Bw t ((Cd r6).getD r6)]⟩:=Dg (d:=d+1) Fq ht Ev;refine⟨(Cd r6).getD r6,Ce Fq fun q e=>Cr Fq e,?_,?_⟩
     ·rw[hn,Ag]
      try unfold Ab
      repeat first
       |((with_reducible first|apply A1|apply As|apply A3|apply Au|apply A4|apply At|apply A0|apply A2);· first|with_reducible rfl|(simp (disch:=omega) only[gT,a0,Fx,Gc,Gp,Gm,hg,Db,D1]<;>first|with_reducible rfl|omega)|omega)
       |(with_reducible apply A5;· first|with_reducible rfl|(simp (disch:=omega) only[gF,a0,Fx,Gc,Gp,Gm,hg,Db,D1]<;>omega))
      try simp (disch:=omega) only[a0,Fx,Gc,Gp,Gm,hg,Db,D1]
      try rfl
     ·rw[hn];intro q e;rw[e];rfl
  ·have Gc:=Cp (fu:=fu) (d:=d) 46 46 rfl Rn ht hdt;have hS3:=Ao Rn hdt;rw[hdt] at BF;have BF:E9 r=(Cd r3).bind Re:=BF;have hd1:=Dg (d:=d+1) hS3 ht Ev;rcases EV:Cd r3 with _|r4
   ·rw[EV] at hd1 BF;have K3:Ae C0 prog fu (d+3) 107 [.pbox (Bw t r3)]=some ⟨[.sc (.bool false)],[Bw t r3]⟩:=hd1;have hn:E9 r=none:=BF;refine⟨r3,hS3,?_,?_⟩
    ·rw[hn,Ag]
     try unfold Ab
     repeat first
      |((with_reducible first|apply A1|apply As|apply A3|apply Au|apply A4|apply At|apply A0|apply A2);· first|with_reducible rfl|(simp (disch:=omega) only[gT,a0,Fx,Gc,K3,Db,D1]<;>first|with_reducible rfl|omega)|omega)
      |(with_reducible apply A5;· first|with_reducible rfl|(simp (disch:=omega) only[gF,a0,Fx,Gc,K3,Db,D1]<;>omega))
     try simp (disch:=omega) only[a0,Fx,Gc,K3,Db,D1]
     try rfl
    ·rw[hn];intro q e;cases e
   ·rw[EV] at hd1 BF;have K3:Ae C0 prog fu (d+3) 107 [.pbox (Bw t r3)]=some ⟨[.sc (.bool true)],[Bw t r4]⟩:=hd1;have Xw:=Cr hS3 EV;have Ko:E9 r=Re r4:=BF;rw[L9] at Ko;rcases he:Ap [101] r4 with _|r5
    ·have Gp:=Dy (fu:=fu) (d:=d) 101 101 rfl Xw ht he;rw[he] at Ko;rcases hE:Ap [69] r4 with _|r5
     ·have Lp:=Dy (fu:=fu) (d:=d) 69 69 rfl Xw ht hE;have hn:E9 r=some r4:=by rw[Ko,hE]
      refine⟨r4,Xw,?_,?_⟩
      ·rw[hn,Ag]
       try unfold Ab
       repeat first
        |((with_reducible first|apply A1|apply As|apply A3|apply Au|apply A4|apply At|apply A0|apply A2);· first|with_reducible rfl|(simp (disch:=omega) only[gT,a0,Fx,Gc,K3,Gp,Lp,Db,D1]<;>first|with_reducible rfl|omega)|omega)
        |(with_reducible apply A5;· first|with_reducible rfl|(simp (disch:=omega) only[gF,a0,Fx,Gc,K3,Gp,Lp,Db,D1]<;>omega))
       try simp (disch:=omega) only[a0,Fx,Gc,K3,Gp,Lp,Db,D1]
       try rfl
      ·rw[hn];intro q e;cases e;rfl
     ·have Lp:=Cp (fu:=fu) (d:=d) 69 69 rfl Xw ht hE;have Hr:=Ao Xw hE;rw[hE] at Ko;simp only at Ko;rcases hp:Ap [43] r5 with _|r6
      ·have Gm:=Dy (fu:=fu) (d:=d) 43 43 rfl Hr ht hp;have Cb:=J1 (fu:=fu) (d:=d) 45 45 rfl Hr ht;have Fq:Cz t ((Ap [45] r5).getD r5):=Ce Hr fun q e=>Ao Hr e
       have hn:E9 r=Cd ((Ap [45] r5).getD r5):=by rw[Ko];unfold Ks;rw[hp]
       generalize (Ap [45] r5).getD r5=r6 at Cb Fq hn;generalize (Ap [45] r5).isSome=b1 at Cb;have hg:Ae C0 prog fu (d+3) 107 [.pbox (Bw t r6)]=some ⟨[.sc (.bool (Cd r6).isSome)],[Bw t ((Cd r6).getD r6)]⟩:=Dg (d:=d+1) Fq ht Ev;refine⟨(Cd r6).getD r6,Ce Fq fun q e=>Cr Fq e,?_,?_⟩
       ·rw[hn,Ag]
        try unfold Ab
        repeat first
         |((with_reducible first|apply A1|apply As|apply A3|apply Au|apply A4|apply At|apply A0|apply A2);· first|with_reducible rfl|(simp (disch:=omega) only[gT,a0,Fx,Gc,K3,Gp,Lp,Gm,Cb,hg,Db,D1]<;>first|with_reducible rfl|omega)|omega)
         |(with_reducible apply A5;· first|with_reducible rfl|(simp (disch:=omega) only[gF,a0,Fx,Gc,K3,Gp,Lp,Gm,Cb,hg,Db,D1]<;>omega))
        try simp (disch:=omega) only[a0,Fx,Gc,K3,Gp,Lp,Gm,Cb,hg,Db,D1]
        try rfl
       ·rw[hn];intro q e;rw[e];rfl
      ·have Gm:=Cp (fu:=fu) (d:=d) 43 43 rfl Hr ht hp;have Fq:=Ao Hr hp;have hn:E9 r=Cd r6:=by rw[Ko];unfold Ks;rw[hp]
       have hg:Ae C0 prog fu (d+3) 107 [.pbox (Bw t r6)]=some ⟨[.sc (.bool (Cd r6).isSome)],[Bw t ((Cd r6).getD r6)]⟩:=Dg (d:=d+1) Fq ht Ev;refine⟨(Cd r6).getD r6,Ce Fq fun q e=>Cr Fq e,?_,?_⟩
       ·rw[hn,Ag]
        try unfold Ab
        repeat first
         |((with_reducible first|apply A1|apply As|apply A3|apply Au|apply A4|apply At|apply A0|apply A2);· first|with_reducible rfl|(simp (disch:=omega) only[gT,a0,Fx,Gc,K3,Gp,Lp,Gm,hg,Db,D1]<;>first|with_reducible rfl|omega)|omega)
         |(with_reducible apply A5;· first|with_reducible rfl|(simp (disch:=omega) only[gF,a0,Fx,Gc,K3,Gp,Lp,Gm,hg,Db,D1]<;>omega))
        try simp (disch:=omega) only[a0,Fx,Gc,K3,Gp,Lp,Gm,hg,Db,D1]
        try rfl
       ·rw[hn];intro q e;rw[e];rfl
    ·have Gp:=Cp (fu:=fu) (d:=d) 101 101 rfl Xw ht he;have Hr:=Ao Xw he;rw[he] at Ko;simp only at Ko;rcases hp:Ap [43] r5 with _|r6
     ·have Gm:=Dy (fu:=fu) (d:=d) 43 43 rfl Hr ht hp;have Cb:=J1 (fu:=fu) (d:=d) 45 45 rfl Hr ht;have Fq:Cz t ((Ap [45] r5).getD r5):=Ce Hr fun q e=>Ao Hr e
      have hn:E9 r=Cd ((Ap [45] r5).getD r5):=by rw[Ko];unfold Ks;rw[hp]
      generalize (Ap [45] r5).getD r5=r6 at Cb Fq hn;generalize (Ap [45] r5).isSome=b1 at Cb;have hg:Ae C0 prog fu (d+3) 107 [.pbox (Bw t r6)]=some ⟨[.sc (.bool (Cd r6).isSome)],[Bw t ((Cd r6).getD r6)]⟩:=Dg (d:=d+1) Fq ht Ev;refine⟨(Cd r6).getD r6,Ce Fq fun q e=>Cr Fq e,?_,?_⟩
      ·rw[hn,Ag]
       try unfold Ab
       repeat first
        |((with_reducible first|apply A1|apply As|apply A3|apply Au|apply A4|apply At|apply A0|apply A2);· first|with_reducible rfl|(simp (disch:=omega) only[gT,a0,Fx,Gc,K3,Gp,Gm,Cb,hg,Db,D1]<;>first|with_reducible rfl|omega)|omega)
        |(with_reducible apply A5;· first|with_reducible rfl|(simp (disch:=omega) only[gF,a0,Fx,Gc,K3,Gp,Gm,Cb,hg,Db,D1]<;>omega))
       try simp (disch:=omega) only[a0,Fx,Gc,K3,Gp,Gm,Cb,hg,Db,D1]
       try rfl
      ·rw[hn];intro q e;rw[e];rfl
     ·have Gm:=Cp (fu:=fu) (d:=d) 43 43 rfl Hr ht hp;have Fq:=Ao Hr hp;have hn:E9 r=Cd r6:=by rw[Ko];unfold Ks;rw[hp]
      have hg:Ae C0 prog fu (d+3) 107 [.pbox (Bw t r6)]=some ⟨[.sc (.bool (Cd r6).isSome)],[Bw t ((Cd r6).getD r6)]⟩:=Dg (d:=d+1) Fq ht Ev;refine⟨(Cd r6).getD r6,Ce Fq fun q e=>Cr Fq e,?_,?_⟩
      ·rw[hn,Ag]
       try unfold Ab
       repeat first
        |((with_reducible first|apply A1|apply As|apply A3|apply Au|apply A4|apply At|apply A0|apply A2);· first|with_reducible rfl|(simp (disch:=omega) only[gT,a0,Fx,Gc,K3,Gp,Gm,hg,Db,D1]<;>first|with_reducible rfl|omega)|omega)
        |(with_reducible apply A5;· first|with_reducible rfl|(simp (disch:=omega) only[gF,a0,Fx,Gc,K3,Gp,Gm,hg,Db,D1]<;>omega))
       try simp (disch:=omega) only[a0,Fx,Gc,K3,Gp,Gm,hg,Db,D1]
       try rfl
      ·rw[hn];intro q e;rw[e];rfl
end
end
section
open Go.Proofs.Tryd (prog)
open Go.IntKind (wrap)
theorem Cz.trans {t:ByteArray}{r q:List Int}(h:Cz t r)(k:Cz (Ac r) q):Cz t q:=by
 obtain⟨pre,k⟩:=k;rw[C9 h.B] at k;rw[k] at h;exact h.app
theorem Cz.self {l:List Int}(h:Do l):Cz (Ac l) l:=⟨[],by rw[C9 h];rfl⟩
theorem Cz.le {l q:List Int}(h:Cz (Ac l) q):q.length<=l.length:=by
 have:=h.len
 rwa [Aw] at this
def QX (t:ByteArray)(l:List Int)(x:JR (JV × List Int)) (res:Ay):Prop:=
 match x with
 |.ok (v,q)=>Cz (Ac l) q∧res=⟨[.agg [.sc (.int .i64 v.1),.sc (.string (Ac v.2.1)),.sc (.bool v.2.2)],.sc (.int .i64 0)],[Bw t q]⟩
 |.error e=>e≠0∧∃c1 c2 c3 q,Cz t q∧res=⟨[.agg [.sc (.int .i64 c1),.sc (.string c2),.sc (.bool c3)],.sc (.int .i64 e)],[Bw t q]⟩
def Asu (t:ByteArray)(l:List Int)(x:JR (List Int)) (res:Ay):Prop:=
 match x with
 |.ok q=>Cz (Ac l) q∧res=⟨[.sc (.int .i64 0)],[Bw t q]⟩
 |.error e=>e≠0∧∃q,Cz t q∧res=⟨[.sc (.int .i64 e)],[Bw t q]⟩
theorem Acc {α:Type}(a b:Int)(Lw:a≠b)(A B:List Int->α)(C:α)(x:List Int):
  (match Ap [a] x with|some r=>A r|none=>match Ap [b] x with|some r=>B r|none=>C)=(match x with|[]=>C|y::r=>if y=a then A r else if y=b then B r else C):=by
 rw[Fi,Fi];cases x with
 |nil=>rfl
 |cons y r=>
  by_cases h:y=a
  ·simp[h]
  ·by_cases h2:y=b
   ·subst h2;simp[h]
   ·simp[h,h2]
theorem Aal (V:List Int->JR (JV × List Int)) (n:Nat)(l:List Int):HY V (n+1) l=match V l with
  |.error e=>.error e
  |.ok (_,r)=>match Ap [93] (Bd r) with
   |some r'=>.ok r'
   |none=>match Ap [44] (Bd r) with
    |some r'=>HY V n (Bd r')
    |none=>.error 2:=by
 show (match V l with | .error e=>_ | .ok (_,r)=>_)=_
 cases V l with
 |error e=>rfl
 |ok x=>
  obtain⟨v,r⟩:=x;simp only;rw[Acc 93 44 (by decide) (fun r'=>Except.ok r') (fun r'=>HY V n (Bd r')) (Except.error 2)]
  cases Bd r with
  |nil=>rfl
  |cons y r=>
   by_cases h:y=93
   ·subst h;rfl
   ·by_cases h2:y=44
    ·subst h2;rfl
    ·simp only[Dz h,Dz h2];split
     ·rename_i e;injection e with e1 _;exact absurd e1 h
     ·rename_i e;injection e with e1 _;exact absurd e1 h2
     ·rfl
section
variable {fu d:Nat}
theorem Ab7 {t s0:ByteArray}{p0 D0 D:Int}(ht:t.size<=1000000)(Ev:t.size+1<=fu)(V:List Int->JR (JV × List Int)) (HV:∀r,Cz t r->∃res,Ae C0 prog fu (d+3) 69 [.pbox (Bw t r),.sc (.int .i64 D)]=some res∧QX t r (V r) res):∀(n nn:Nat)(l:List Int),l.length+1<=n->l.length+1<=nn->Cz t l ->
  ∃res,Cy fu (Ae C0 prog fu (d+3)) s0 p0 D0 nn D t (Bp t l:Int)=some res∧Asu t l (HY V n l) res:=by
 intro n
 induction n with
 |zero=>intro nn l h1;omega
 |succ n ih=>
  intro nn l hn Rb h;obtain⟨k,rfl⟩:∃k,nn=k+1:=⟨nn-1,by omega⟩
  obtain⟨rv,ev,hv⟩:=HV l h;rw[Aal,Hf];cases hV:V l with
  |error e=>
   rw[hV] at hv;obtain⟨he,c1,c2,c3,q,hq,rfl⟩:=hv;have hb:(e != (0:Int))=true:=by simp[he]
   refine⟨⟨[.sc (.int .i64 e)],[Bw t q]⟩,?_,he,q,hq,rfl⟩
   try unfold Ab
   repeat first
    |((with_reducible first|apply A1|apply As|apply A3|apply Au|apply A4|apply I5|apply At|apply A0|apply A2);· first|with_reducible rfl|(simp (disch:=omega) only[gT,ev,hb]<;>first|with_reducible rfl|omega)|omega)
    |(with_reducible apply A5;· first|with_reducible rfl|(simp (disch:=omega) only[gF,ev,hb]<;>omega))
   try simp (disch:=omega) only[ev,hb]
  |ok x=>
   obtain⟨v,q⟩:=x;rw[hV] at hv;obtain⟨hq,rfl⟩:=hv;have hqt:=h.trans hq;have hs:=Ni (fu:=fu) (d:=d) hqt ht Ev;have Q9:Ae C0 prog fu (d+3) 50 [.pbox (Bw t q)]=some ⟨[],[Bw t (Bd q)]⟩:=hs;have hqs:=Bm hqt;have Apk:=Bm hq;have hb:((0:Int) != (0:Int))=false:=rfl;simp only;cases h1:Ap [93] (Bd q) with
   |some r'=>
    have a1:=Cp (fu:=fu) (d:=d) 93 93 rfl hqs ht h1;refine⟨⟨[.sc (.int .i64 0)],[Bw t r']⟩,?_,Ao Apk h1,rfl⟩
    try unfold Ab
    repeat first
     |((with_reducible first|apply A1|apply As|apply A3|apply Au|apply A4|apply I5|apply At|apply A0|apply A2);· first|with_reducible rfl|(simp (disch:=omega) only[gT,ev,hb,Q9,a1]<;>first|with_reducible rfl|omega)|omega)
     |(with_reducible apply A5;· first|with_reducible rfl|(simp (disch:=omega) only[gF,ev,hb,Q9,a1]<;>omega))
    try simp (disch:=omega) only[ev,hb,Q9,a1]
   |none=>
    have a1:=Dy (fu:=fu) (d:=d) 93 93 rfl hqs ht h1;cases h2:Ap [44] (Bd q) with
    |none=>
     have a2:=Dy (fu:=fu) (d:=d) 44 44 rfl hqs ht h2;refine⟨⟨[.sc (.int .i64 2)],[Bw t (Bd q)]⟩,?_,by decide,Bd q,hqs,rfl⟩
     try unfold Ab
     repeat first
      |((with_reducible first|apply A1|apply As|apply A3|apply Au|apply A4|apply I5|apply At|apply A0|apply A2);· first|with_reducible rfl|(simp (disch:=omega) only[gT,ev,hb,Q9,a1,a2,D1]<;>first|with_reducible rfl|omega)|omega)
      |(with_reducible apply A5;· first|with_reducible rfl|(simp (disch:=omega) only[gF,ev,hb,Q9,a1,a2,D1]<;>omega))
     try simp (disch:=omega) only[ev,hb,Q9,a1,a2,D1]
    |some r'=>
     have a2:=Cp (fu:=fu) (d:=d) 44 44 rfl hqs ht h2;have hr:=Ao hqs h2;have FR:=Ao Apk h2;have JN:Ae C0 prog fu (d+3) 50 [.pbox (Bw t r')]=some ⟨[],[Bw t (Bd r')]⟩:=Ni (fu:=fu) (d:=d) hr ht Ev
     have hlr:(Bd r').length+1<=l.length:=by
      have e1:=hq.le;have e2:=Pf q;have e3:=Pf r'
      have e4:r'.length+1<=(Bd q).length:=by
       rw[Fi] at h2
       revert h2
       cases Bd q with
       |nil=>intro h2;cases h2
       |cons y s=>
        intro h2;simp only at h2;split at h2
        ·cases h2;simp
        ·cases h2
      omega
     obtain⟨res,e5,h5⟩:=ih k (Bd r') (by omega) (by omega) (Bm hr)
     refine⟨res,?_,?_⟩
     ·skip
      try unfold Ab
      repeat first
       |((with_reducible first|apply A1|apply As|apply A3|apply Au|apply A4|apply I5|apply At|apply A0|apply A2);· first|with_reducible rfl|(simp (disch:=omega) only[gT,ev,hb,Q9,a1,a2,JN,Db]<;>first|with_reducible rfl|omega)|omega)
       |(with_reducible apply A5;· first|with_reducible rfl|(simp (disch:=omega) only[gF,ev,hb,Q9,a1,a2,JN,Db]<;>omega))
      try simp (disch:=omega) only[ev,hb,Q9,a1,a2,JN,Db]
      exact e5
     ·simp only;have hup:Cz (Ac l) (Bd r'):=Bm FR
      revert h5
      cases HY V n (Bd r') with
      |error e=>exact id
      |ok q2=>exact fun h5=>⟨hup.trans h5.1,h5.2⟩
end
end
section
open Go.Proofs.Tryd (prog)
open Go.IntKind (wrap)
set_option maxRecDepth 100000
theorem MV {c:Int}{x r:List Int}(h:Ap [c] x=some r):r.length+1<=x.length:=by
 rw[Fi] at h
 revert h
 cases x with
 |nil=>intro h;cases h
 |cons y s=>
  intro h;simp only at h;split at h
  ·cases h;simp
  ·cases h
theorem AM (V:List Int->JR (JV × List Int)) (kp:Bool)(n:Nat)(ms:List (List Int × JV)) (l:List Int):Qk V kp (n+1) ms l=match Er l with
  |(none,_)=>.error 2
  |(some nm,r)=>if (kp&&ms.any fun m=>m.1==nm)=true then .error 10 else match Ap [58] (Bd r) with
   |none=>.error 2
   |some r1=>match V (Bd r1) with
    |.error e=>.error e
    |.ok (v,r2)=>match Ap [125] (Bd r2) with
     |some r3=>.ok (ms++[(nm,v)],r3)
     |none=>match Ap [44] (Bd r2) with
      |some r3=>Qk V kp n (ms++[(nm,v)]) (Bd r3)
      |none=>.error 2:=by
 show (match Ah4 V (fun nm=>kp&&ms.any fun m=>m.1==nm) l with | .error e=>_ | .ok (m,r)=>_)=_
 unfold Ah4 FH;rcases Er l with⟨o,r⟩;cases o with
 |none=>rfl
 |some nm=>
  simp only;by_cases hd:(kp&&ms.any fun m=>m.1==nm)=true
  rotate_left
  ·simp only[Dz hd];rw[Fi];cases Bd r with
   |nil=>rfl
   |cons y s=>
    by_cases h:y=58
    ·subst h;simp only[if_true];cases V (Bd s) with
     |error e=>rfl
     |ok x=>
      obtain⟨v,r2⟩:=x;simp only;rw[Fi,Fi];cases Bd r2 with
      |nil=>rfl
      |cons y s=>
       by_cases h:y=125
       ·subst h;simp
       ·by_cases h2:y=44
        ·subst h2;simp
        ·simp only[Dz h,Dz h2];split
         ·rename_i e;injection e with e1 _;exact absurd e1 h
         ·rename_i e;injection e with e1 _;exact absurd e1 h2
         ·rfl
    ·simp only[Dz h];split
     ·rename_i e;split at e
      ·rename_i e2;injection e2 with e1 _;exact absurd e1 h
      ·cases e;rfl
     ·rename_i e;split at e
      ·rename_i e2;injection e2 with e1 _;exact absurd e1 h
      ·cases e
  ·simp only[E7 hd]
def Apt {α:Type}(t:ByteArray)(l:List Int)(x:JR (α × List Int)) (res:Ay):Prop:=
 match x with
 |.ok (_,q)=>Cz (Ac l) q∧res=⟨[.sc (.int .i64 0)],[Bw t q]⟩
 |.error e=>e≠0∧∃q,Cz t q∧res=⟨[.sc (.int .i64 e)],[Bw t q]⟩
section
variable {fu d:Nat}
theorem Ag8 {t:ByteArray}{r:List Int}(h:Cz t r)(ht:t.size<=1000000):Ae C0 prog fu (d+1) 68 [.pbox (Bw t r)]=some ⟨[.sc (.string (Ac ((Er r).1.getD []))),.sc (.bool (Er r).1.isSome)],[Bw t (Er r).2]⟩:=by
 have e0:Ae C0 prog fu (d+1) 68 [.pbox (Bw t r)]=Aba [.pbox (Bw t r)]:=rfl;have hl:=h.len
 have e1:(decide ((0:Int)<=(Bp t r:Int))&&decide ((Bp t r:Int)<=t.size)&&Nat.ble t.size 1000000)=true:=by
  simp only[Bool.and_eq_true,decide_eq_true_eq,Nat.ble_eq];unfold Bp;omega
 have e2:(D2 t).drop (Bp t r:Int).toNat=r:=by rw[Oo];exact h.eq.symm
 have hq:=(Gf h).len;rw[e0];unfold Aba;simp only[e1,cond_true,e2];rcases hx:Er r with⟨o,q⟩;rw[hx] at hq;have e3:(t.size:Int)-q.length=(Bp t q:Int):=by unfold Bp;simp only at hq;omega
 cases o with
 |none=>simp only[e3];rfl
 |some s=>simp only[e3];rfl
theorem Aqq {t:ByteArray}{D:Int}(ht:t.size<=1000000)(Ev:t.size+1<=fu)(V:List Int->JR (JV × List Int)) (HV:∀r,Cz t r->∃res,Ae C0 prog fu (d+3) 69 [.pbox (Bw t r),.sc (.int .i64 D)]=some res∧QX t r (V r) res) {l:List Int}(h:Cz t (91::l)):
  ∃res,Ae C0 prog fu (d+4) 91 [.pbox (Bw t (91::l)),.sc (.int .i64 D)]=some res∧Asu t l (XG V l) res:=by
 have a0:=Cp (fu:=fu) (d:=d) (q:=l) 91 91 rfl h ht (by rw[Fi];rfl)
 have hs:Ae C0 prog fu (d+3) 50 [.pbox (Bw t l)]=some ⟨[],[Bw t (Bd l)]⟩:=Ni (fu:=fu) (d:=d) h.tail ht Ev;have hS:=Bm h.tail;have Rn:=Bm (Cz.self h.tail.B)
 have eA:XG V l=match Ap [93] (Bd l) with|some r=>.ok r|none=>HY V ((Bd l).length+1) (Bd l):=by
  unfold XG;rw[Fi];cases Bd l with
  |nil=>rfl
  |cons y s=>
   by_cases hy:y=93
   ·subst hy;rfl
   ·simp only[Dz hy];split
    ·rename_i e;injection e with e1 _;exact absurd e1 hy
    ·rfl
 have er:=Im (p:=none) fu (d+3) t (Bp t (91::l):Int) D;rw[eA];cases h1:Ap [93] (Bd l) with
 |some r=>
  have a1:=Cp (fu:=fu) (d:=d) 93 93 rfl hS ht h1;refine⟨⟨[.sc (.int .i64 0)],[Bw t r]⟩,er.trans ?_,Ao Rn h1,rfl⟩
  try unfold Ab
  repeat first
   |((with_reducible first|apply A1|apply As|apply A3|apply Au|apply A4|apply At|apply A0|apply A2);· first|with_reducible rfl|(simp (disch:=omega) only[gT,a0,hs,a1,Db]<;>first|with_reducible rfl|omega)|omega)
   |(with_reducible apply A5;· first|with_reducible rfl|(simp (disch:=omega) only[gF,a0,hs,a1,Db]<;>omega))
  try simp (disch:=omega) only[a0,hs,a1,Db]
 |none=>
  have a1:=Dy (fu:=fu) (d:=d) 93 93 rfl hS ht h1;obtain⟨res,e5,h5⟩:=Ab7 (fu:=fu) (d:=d) (s0:=t) (p0:=(Bp t (91::l):Int)) (D0:=D) ht Ev V HV ((Bd l).length+1) fu (Bd l) (Nat.le_refl _) (by have:=hS.len;omega) hS
  refine⟨res,er.trans ?_,?_⟩
  ·skip
   try unfold Ab
   repeat first
    |((with_reducible first|apply A1|apply As|apply A3|apply Au|apply A4|apply At|apply A0|apply A2);· first|with_reducible rfl|(simp (disch:=omega) only[gT,a0,hs,a1,Db]<;>first|with_reducible rfl|omega)|omega)
    |(with_reducible apply A5;· first|with_reducible rfl|(simp (disch:=omega) only[gF,a0,hs,a1,Db]<;>omega))
   try simp (disch:=omega) only[a0,hs,a1,Db]
   exact e5
  ·simp only
   revert h5
   cases HY V ((Bd l).length+1) (Bd l) with
   |error e=>exact id
   |ok q2=>exact fun h5=>⟨Rn.trans h5.1,h5.2⟩
end
end
section
open Go.Proofs.Tryd (prog)
open Go.IntKind (wrap)
set_option maxRecDepth 100000
section
variable {fu d:Nat}
theorem Aa6 {t s0:ByteArray}{p0 D0 D:Int}(ht:t.size<=1000000)(Ev:t.size+1<=fu)(V:List Int->JR (JV × List Int)) (HV:∀r,Cz t r->∃res,Ae C0 prog fu (d+3) 69 [.pbox (Bw t r),.sc (.int .i64 D)]=some res∧QX t r (V r) res):∀(n nn:Nat)(ms:List (List Int × JV)) (l:List Int),l.length+1<=n->l.length+1<=nn->Cz t l ->
  ∃res,Cq fu (Ae C0 prog fu (d+3)) s0 p0 D0 nn D t (Bp t l:Int)=some res∧Apt t l (Qk V false n ms l) res:=by
 intro n
 induction n with
 |zero=>intro nn ms l h1;omega
 |succ n ih=>
  intro nn ms l hn Rb h;obtain⟨k,rfl⟩:∃k,nn=k+1:=⟨nn-1,by omega⟩
  have er:Ae C0 prog fu (d+3) 68 [.pbox (Bw t l)]=_:=Ag8 (d:=d+2) h ht;have JS:=Gf h;have IM:=Gf (Cz.self h.B);rw[AM,Hb];rcases hx:Er l with⟨o,q⟩;rw[hx] at er JS IM;cases o with
  |none=>
   have er2:Ae C0 prog fu (d+3) 68 [.pbox (Bw t l)]=some ⟨[.sc (.string (Ac [])),.sc (.bool false)],[Bw t q]⟩:=er;refine⟨⟨[.sc (.int .i64 2)],[Bw t q]⟩,?_,by decide,q,JS,rfl⟩
   try unfold Ab
   repeat first
    |((with_reducible first|apply A1|apply As|apply A3|apply Au|apply A4|apply I5|apply At|apply A0|apply A2);· first|with_reducible rfl|(simp (disch:=omega) only[gT,er2,D1]<;>first|with_reducible rfl|omega)|omega)
    |(with_reducible apply A5;· first|with_reducible rfl|(simp (disch:=omega) only[gF,er2,D1]<;>omega))
   try simp (disch:=omega) only[er2,D1]
  |some nm=>
   have er2:Ae C0 prog fu (d+3) 68 [.pbox (Bw t l)]=some ⟨[.sc (.string (Ac nm)),.sc (.bool true)],[Bw t q]⟩:=er;simp only at JS IM;have Q9:Ae C0 prog fu (d+3) 50 [.pbox (Bw t q)]=some ⟨[],[Bw t (Bd q)]⟩:=Ni (fu:=fu) (d:=d) JS ht Ev;have Qw:=Bm JS;have J5:=Bm IM;simp only[Zzs,Bool.false_eq_true,if_false];cases h1:Ap [58] (Bd q) with
   |none=>
    have a1:=Dy (fu:=fu) (d:=d) 58 58 rfl Qw ht h1;refine⟨⟨[.sc (.int .i64 2)],[Bw t (Bd q)]⟩,?_,by decide,Bd q,Qw,rfl⟩
    try unfold Ab
    repeat first
     |((with_reducible first|apply A1|apply As|apply A3|apply Au|apply A4|apply I5|apply At|apply A0|apply A2);· first|with_reducible rfl|(simp (disch:=omega) only[gT,er2,Q9,a1,Db,D1]<;>first|with_reducible rfl|omega)|omega)
     |(with_reducible apply A5;· first|with_reducible rfl|(simp (disch:=omega) only[gF,er2,Q9,a1,Db,D1]<;>omega))
    try simp (disch:=omega) only[er2,Q9,a1,Db,D1]
   |some r1=>
    have a1:=Cp (fu:=fu) (d:=d) 58 58 rfl Qw ht h1;have AX:=Ao Qw h1;have FR:=Ao J5 h1;have JN:Ae C0 prog fu (d+3) 50 [.pbox (Bw t r1)]=some ⟨[],[Bw t (Bd r1)]⟩:=Ni (fu:=fu) (d:=d) AX ht Ev;have hv1:=Bm AX;have hv2:=Bm FR;obtain⟨rv,ev,hv⟩:=HV (Bd r1) hv1;simp only;cases hV:V (Bd r1) with
    |error e=>
     rw[hV] at hv;obtain⟨he,c1,c2,c3,q3,hq3,rfl⟩:=hv;have hb:(e != (0:Int))=true:=by simp[he]
     refine⟨⟨[.sc (.int .i64 e)],[Bw t q3]⟩,?_,he,q3,hq3,rfl⟩
     try unfold Ab
     repeat first
      |((with_reducible first|apply A1|apply As|apply A3|apply Au|apply A4|apply I5|apply At|apply A0|apply A2);· first|with_reducible rfl|(simp (disch:=omega) only[gT,er2,Q9,a1,JN,ev,hb,Db]<;>first|with_reducible rfl|omega)|omega)
      |(with_reducible apply A5;· first|with_reducible rfl|(simp (disch:=omega) only[gF,er2,Q9,a1,JN,ev,hb,Db]<;>omega))
     try simp (disch:=omega) only[er2,Q9,a1,JN,ev,hb,Db]
    |ok x=>
     obtain⟨v,r2⟩:=x;rw[hV] at hv;obtain⟨hq3,rfl⟩:=hv;have hb:((0:Int) != (0:Int))=false:=rfl;have hw1:=hv1.trans hq3;have hw2:=hv2.trans hq3;have GC:Ae C0 prog fu (d+3) 50 [.pbox (Bw t r2)]=some ⟨[],[Bw t (Bd r2)]⟩:=Ni (fu:=fu) (d:=d) hw1 ht Ev;have OD:=Bm hw1;have Lk:=Bm hw2;simp only;cases h2:Ap [125] (Bd r2) with
     |some r3=>
      have a2:=Cp (fu:=fu) (d:=d) 125 125 rfl OD ht h2;refine⟨⟨[.sc (.int .i64 0)],[Bw t r3]⟩,?_,Ao Lk h2,rfl⟩
      try unfold Ab
      repeat first
       |((with_reducible first|apply A1|apply As|apply A3|apply Au|apply A4|apply I5|apply At|apply A0|apply A2);· first|with_reducible rfl|(simp (disch:=omega) only[gT,er2,Q9,a1,JN,ev,hb,GC,a2,Db]<;>first|with_reducible rfl|omega)|omega)
       |(with_reducible apply A5;· first|with_reducible rfl|(simp (disch:=omega) only[gF,er2,Q9,a1,JN,ev,hb,GC,a2,Db]<;>omega))
      try simp (disch:=omega) only[er2,Q9,a1,JN,ev,hb,GC,a2,Db]
     |none=>
      have a2:=Dy (fu:=fu) (d:=d) 125 125 rfl OD ht h2;cases h3:Ap [44] (Bd r2) with
      |none=>
       have a3:=Dy (fu:=fu) (d:=d) 44 44 rfl OD ht h3;refine⟨⟨[.sc (.int .i64 2)],[Bw t (Bd r2)]⟩,?_,by decide,Bd r2,OD,rfl⟩
       try unfold Ab
       repeat first
        |((with_reducible first|apply A1|apply As|apply A3|apply Au|apply A4|apply I5|apply At|apply A0|apply A2);· first|with_reducible rfl|(simp (disch:=omega) only[gT,er2,Q9,a1,JN,ev,hb,GC,a2,a3,Db,D1]<;>first|with_reducible rfl|omega)|omega)
        |(with_reducible apply A5;· first|with_reducible rfl|(simp (disch:=omega) only[gF,er2,Q9,a1,JN,ev,hb,GC,a2,a3,Db,D1]<;>omega))
       try simp (disch:=omega) only[er2,Q9,a1,JN,ev,hb,GC,a2,a3,Db,D1]
      |some r3=>
       have a3:=Cp (fu:=fu) (d:=d) 44 44 rfl OD ht h3;have hy1:=Ao OD h3;have XP:=Ao Lk h3;have hs5:Ae C0 prog fu (d+3) 50 [.pbox (Bw t r3)]=some ⟨[],[Bw t (Bd r3)]⟩:=Ni (fu:=fu) (d:=d) hy1 ht Ev
       have hlr:(Bd r3).length+1<=l.length:=by
        have e1:=Lk.le;have e2:=Pf r3;have e3:=MV h3;omega
       obtain⟨res,e5,h5⟩:=ih k (ms++[(nm,v)]) (Bd r3) (by omega) (by omega) (Bm hy1)
       refine⟨res,?_,?_⟩
       ·skip
        try unfold Ab
        repeat first
         |((with_reducible first|apply A1|apply As|apply A3|apply Au|apply A4|apply I5|apply At|apply A0|apply A2);· first|with_reducible rfl|(simp (disch:=omega) only[gT,er2,Q9,a1,JN,ev,hb,GC,a2,a3,hs5,Db]<;>first|with_reducible rfl|omega)|omega)
         |(with_reducible apply A5;· first|with_reducible rfl|(simp (disch:=omega) only[gF,er2,Q9,a1,JN,ev,hb,GC,a2,a3,hs5,Db]<;>omega))
        try simp (disch:=omega) only[er2,Q9,a1,JN,ev,hb,GC,a2,a3,hs5,Db]
        exact e5
       ·simp only;have hup:Cz (Ac l) (Bd r3):=Bm XP
        revert h5
        cases Qk V false n (ms++[(nm,v)]) (Bd r3) with
        |error e=>exact id
        |ok q2=>exact fun h5=>⟨hup.trans h5.1,h5.2⟩
theorem Ao0 {t:ByteArray}{D:Int}(ht:t.size<=1000000)(Ev:t.size+1<=fu)(V:List Int->JR (JV × List Int)) (HV:∀r,Cz t r->∃res,Ae C0 prog fu (d+3) 69 [.pbox (Bw t r),.sc (.int .i64 D)]=some res∧QX t r (V r) res) {l:List Int}(h:Cz t (123::l)):
  ∃res,Ae C0 prog fu (d+4) 51 [.pbox (Bw t (123::l)),.sc (.int .i64 D),.sc (.map none)]=some res∧Apt t l (Ss V false l) res:=by
 have a0:=Cp (fu:=fu) (d:=d) (q:=l) 123 123 rfl h ht (by rw[Fi];rfl)
 have hs:Ae C0 prog fu (d+3) 50 [.pbox (Bw t l)]=some ⟨[],[Bw t (Bd l)]⟩:=Ni (fu:=fu) (d:=d) h.tail ht Ev;have hS:=Bm h.tail;have Rn:=Bm (Cz.self h.tail.B)
 have eA:Ss V false l=match Ap [125] (Bd l) with|some r=>.ok ([],r)|none=>Qk V false ((Bd l).length+1) [] (Bd l):=by
  unfold Ss;rw[Fi];cases Bd l with
  |nil=>rfl
  |cons y s=>
   by_cases hy:y=125
   ·subst hy;rfl
   ·simp only[Dz hy];split
    ·rename_i e;injection e with e1 _;exact absurd e1 hy
    ·rfl
 have er:=Hy (p:=none) fu (d+3) t (Bp t (123::l):Int) D;rw[eA];cases h1:Ap [125] (Bd l) with
 |some r=>
  have a1:=Cp (fu:=fu) (d:=d) 125 125 rfl hS ht h1;refine⟨⟨[.sc (.int .i64 0)],[Bw t r]⟩,er.trans ?_,Ao Rn h1,rfl⟩
  try unfold Ab
  repeat first
   |((with_reducible first|apply A1|apply As|apply A3|apply Au|apply A4|apply I5|apply At|apply A0|apply A2);· first|with_reducible rfl|(simp (disch:=omega) only[gT,a0,hs,a1,Db]<;>first|with_reducible rfl|omega)|omega)
   |(with_reducible apply A5;· first|with_reducible rfl|(simp (disch:=omega) only[gF,a0,hs,a1,Db]<;>omega))
  try simp (disch:=omega) only[a0,hs,a1,Db]
 |none=>
  have a1:=Dy (fu:=fu) (d:=d) 125 125 rfl hS ht h1;obtain⟨res,e5,h5⟩:=Aa6 (fu:=fu) (d:=d) (s0:=t) (p0:=(Bp t (123::l):Int)) (D0:=D) ht Ev V HV ((Bd l).length+1) fu [] (Bd l) (Nat.le_refl _) (by have:=hS.len;omega) hS
  refine⟨res,er.trans ?_,?_⟩
  ·skip
   try unfold Ab
   repeat first
    |((with_reducible first|apply A1|apply As|apply A3|apply Au|apply A4|apply I5|apply At|apply A0|apply A2);· first|with_reducible rfl|(simp (disch:=omega) only[gT,a0,hs,a1,Db]<;>first|with_reducible rfl|omega)|omega)
    |(with_reducible apply A5;· first|with_reducible rfl|(simp (disch:=omega) only[gF,a0,hs,a1,Db]<;>omega))
   try simp (disch:=omega) only[a0,hs,a1,Db]
   exact e5
  ·simp only
   revert h5
   cases Qk V false ((Bd l).length+1) [] (Bd l) with
   |error e=>exact id
   |ok q2=>exact fun h5=>⟨Rn.trans h5.1,h5.2⟩
end
end
section
open Go.Proofs.Tryd (prog)
open Go.IntKind (wrap)
set_option maxRecDepth 100000
def Ajo (l:List Int):JR (JV × List Int):=
 match Ap [116,114,117,101] l with
 |some r=>.ok ((2,[],true),r)
 |none=>match Ap [102,97,108,115,101] l with
  |some r=>.ok ((2,[],false),r)
  |none=>match Ap [110,117,108,108] l with
   |some r=>.ok ((1,[],false),r)
   |none=>match E9 l with
    |some r=>.ok ((3,[],false),r)
    |none=>.error 2
theorem FN (k:Nat){l:List Int}(h1:JM l≠123)(h2:JM l≠91)(h3:JM l≠34):Fg k l=Ajo l:=by
 unfold Fg;split
 ·exact absurd rfl h1
 ·exact absurd rfl h2
 ·exact absurd rfl h3
 ·rfl
theorem ZN {l r:List Int}(h:Do l)(e:E9 l=some r):Cz (Ac l) r:=by
 have h0:=Cz.self h;have e0:E9 l=(Afi (Abe 45 l)).bind Yg:=rfl;rw[e0,U0,DG] at e;have h1:Cz (Ac l) ((Ap [45] l).getD l):=Ce h0 fun q e=>Ao h0 e
 have hE:∀x q,Cz (Ac l) x->Re x=some q->Cz (Ac l) q:=by
  have hT:∀x q,Cz (Ac l) x->Ks x=some q->Cz (Ac l) q:=by
   intro x q hx e;unfold Ks at e;split at e
   ·rename_i hw;exact Cr (Ao hx hw) e
   ·exact Cr (Ce hx fun q e=>Ao hx e) e
  intro x q hx e;rw[L9] at e;split at e
  ·rename_i hw;exact hT _ _ (Ao hx hw) e
  ·split at e
   ·rename_i hw;exact hT _ _ (Ao hx hw) e
   ·cases e;exact hx
 have hF:∀x q,Cz (Ac l) x->Yg x=some q->Cz (Ac l) q:=by
  intro x q hx e;rw[Ri] at e;split at e
  ·rename_i hw;obtain⟨y,hy,e⟩:=Option.bind_eq_some_iff.1 e;exact hE _ _ (Cr (Ao hx hw) hy) e
  ·exact hE _ _ hx e
 obtain⟨y,hy,e⟩:=Option.bind_eq_some_iff.1 e;split at hy
 ·rename_i hw;cases hy;exact hF _ _ (Ao h1 hw) e
 ·exact hF _ _ (Cr h1 hy) e
section
variable {fu d:Nat}
theorem Akr {t:ByteArray}{r:List Int}(w:List Int)(lit:ByteArray)(hw:Ac w=lit)(hB:Do w)(hl:w.length<=100)(h:Cz t r)(ht:t.size<=1000000):Ae C0 prog fu (d+3) 67 [.pbox (Bw t r),.sc (.string lit)]=some ⟨[.sc (.bool (Ap w r).isSome)],[Bw t ((Ap w r).getD r)]⟩:=by
 subst hw;have e:=O5 (fu:=fu) (d:=d) (xs:=xs0) h ht (w:=w) hB hl;refine e.trans ?_;cases Ap w r<;>rfl
theorem ZY {t:ByteArray}(ht:t.size<=1000000)(Ev:t.size+1<=fu){D:Int}{l:List Int}(h:Cz t l)(h1:JM l≠123)(h2:JM l≠91)(h3:JM l≠34):∃res,Ae C0 prog fu (d+5) 69 [.pbox (Bw t l),.sc (.int .i64 D)]=some res∧QX t l (Ajo l) res:=by
 have er:=Bz (p:=none) fu (d+4) t (Bp t l:Int) D;have pk:Ae C0 prog fu (d+4) 90 [.pbox (Bw t l)]=some ⟨[.sc (.int .u8 (JM l))],[Bw t l]⟩:=Kh (xs:=xs0) (d:=d+3) h;have b1:(JM l==(123:Int))=false:=by simp[h1]
 have b2:(JM l==(91:Int))=false:=by simp[h2]
 have b3:(JM l==(34:Int))=false:=by simp[h3]
 have Abj:=Cz.self h.B;have a1:=Akr (fu:=fu) (d:=d+1) [116,114,117,101] (ByteArray.mk #[(116:UInt8),(114:UInt8),(117:UInt8),(101:UInt8)]) rfl (fun x hx=>by simp at hx;omega) (by decide) h ht
 have a2:=Akr (fu:=fu) (d:=d+1) [102,97,108,115,101] (ByteArray.mk #[(102:UInt8),(97:UInt8),(108:UInt8),(115:UInt8),(101:UInt8)]) rfl (fun x hx=>by simp at hx;omega) (by decide) h ht
 have a3:=Akr (fu:=fu) (d:=d+1) [110,117,108,108] (ByteArray.mk #[(110:UInt8),(117:UInt8),(108:UInt8),(108:UInt8)]) rfl (fun x hx=>by simp at hx;omega) (by decide) h ht
 obtain⟨rn,hrn,en,hn⟩:=YS (fu:=fu) (d:=d) h ht Ev;have en2:Ae C0 prog fu (d+4) 92 [.pbox (Bw t l)]=some ⟨[.sc (.bool (E9 l).isSome)],[Bw t rn]⟩:=en;unfold Ajo;cases q1:Ap [116,114,117,101] l with
 |some r=>
  rw[q1] at a1;have a1':Ae C0 prog fu (d+4) 67 [.pbox (Bw t l),.sc (.string (ByteArray.mk #[(116:UInt8),(114:UInt8),(117:UInt8),(101:UInt8)]))]=some ⟨[.sc (.bool true)],[Bw t r]⟩:=a1;refine⟨_,er.trans ?_,Ao Abj q1,rfl⟩
  try unfold Ab
  repeat first
   |((with_reducible first|apply A1|apply As|apply A3|apply Au|apply A4|apply At|apply A0|apply A2);· first|with_reducible rfl|(simp (disch:=omega) only[gT,pk,b1,b2,b3,a1']<;>first|with_reducible rfl|omega)|omega)
   |(with_reducible apply A5;· first|with_reducible rfl|(simp (disch:=omega) only[gF,pk,b1,b2,b3,a1']<;>omega))
  try simp (disch:=omega) only[pk,b1,b2,b3,a1']
  rfl
 |none=>
  rw[q1] at a1;have a1':Ae C0 prog fu (d+4) 67 [.pbox (Bw t l),.sc (.string (ByteArray.mk #[(116:UInt8),(114:UInt8),(117:UInt8),(101:UInt8)]))]=some ⟨[.sc (.bool false)],[Bw t l]⟩:=a1;cases q2:Ap [102,97,108,115,101] l with
  |some r=>
   rw[q2] at a2;have a2':Ae C0 prog fu (d+4) 67 [.pbox (Bw t l),.sc (.string (ByteArray.mk #[(102:UInt8),(97:UInt8),(108:UInt8),(115:UInt8),(101:UInt8)]))]=some ⟨[.sc (.bool true)],[Bw t r]⟩:=a2;refine⟨_,er.trans ?_,Ao Abj q2,rfl⟩
   try unfold Ab
   repeat first
    |((with_reducible first|apply A1|apply As|apply A3|apply Au|apply A4|apply At|apply A0|apply A2);· first|with_reducible rfl|(simp (disch:=omega) only[gT,pk,b1,b2,b3,a1',a2']<;>first|with_reducible rfl|omega)|omega)
    |(with_reducible apply A5;· first|with_reducible rfl|(simp (disch:=omega) only[gF,pk,b1,b2,b3,a1',a2']<;>omega))
   try simp (disch:=omega) only[pk,b1,b2,b3,a1',a2']
   rfl
  |none=>
   rw[q2] at a2;have a2':Ae C0 prog fu (d+4) 67 [.pbox (Bw t l),.sc (.string (ByteArray.mk #[(102:UInt8),(97:UInt8),(108:UInt8),(115:UInt8),(101:UInt8)]))]=some ⟨[.sc (.bool false)],[Bw t l]⟩:=a2;cases q3:Ap [110,117,108,108] l with
   |some r=>
    rw[q3] at a3;have a3':Ae C0 prog fu (d+4) 67 [.pbox (Bw t l),.sc (.string (ByteArray.mk #[(110:UInt8),(117:UInt8),(108:UInt8),(108:UInt8)]))]=some ⟨[.sc (.bool true)],[Bw t r]⟩:=a3;refine⟨_,er.trans ?_,Ao Abj q3,rfl⟩
    try unfold Ab
    repeat first
     |((with_reducible first|apply A1|apply As|apply A3|apply Au|apply A4|apply At|apply A0|apply A2);· first|with_reducible rfl|(simp (disch:=omega) only[gT,pk,b1,b2,b3,a1',a2',a3']<;>first|with_reducible rfl|omega)|omega)
     |(with_reducible apply A5;· first|with_reducible rfl|(simp (disch:=omega) only[gF,pk,b1,b2,b3,a1',a2',a3']<;>omega))
    try simp (disch:=omega) only[pk,b1,b2,b3,a1',a2',a3']
    rfl
   |none=>
    rw[q3] at a3;have a3':Ae C0 prog fu (d+4) 67 [.pbox (Bw t l),.sc (.string (ByteArray.mk #[(110:UInt8),(117:UInt8),(108:UInt8),(108:UInt8)]))]=some ⟨[.sc (.bool false)],[Bw t l]⟩:=a3;cases q4:E9 l with
    |some r=>
     rw[q4] at en2;have:=hn r q4;subst this;have en3:Ae C0 prog fu (d+4) 92 [.pbox (Bw t l)]=some ⟨[.sc (.bool true)],[Bw t rn]⟩:=en2;refine⟨_,er.trans ?_,ZN h.B q4,rfl⟩
     try unfold Ab
     repeat first
      |((with_reducible first|apply A1|apply As|apply A3|apply Au|apply A4|apply At|apply A0|apply A2);· first|with_reducible rfl|(simp (disch:=omega) only[gT,pk,b1,b2,b3,a1',a2',a3',en3]<;>first|with_reducible rfl|omega)|omega)
      |(with_reducible apply A5;· first|with_reducible rfl|(simp (disch:=omega) only[gF,pk,b1,b2,b3,a1',a2',a3',en3]<;>omega))
     try simp (disch:=omega) only[pk,b1,b2,b3,a1',a2',a3',en3]
     rfl
    |none=>
     rw[q4] at en2;have en3:Ae C0 prog fu (d+4) 92 [.pbox (Bw t l)]=some ⟨[.sc (.bool false)],[Bw t rn]⟩:=en2;refine⟨_,er.trans ?_,by decide,0,⟨#[]⟩,false,rn,hrn,rfl⟩
     try unfold Ab
     repeat first
      |((with_reducible first|apply A1|apply As|apply A3|apply Au|apply A4|apply At|apply A0|apply A2);· first|with_reducible rfl|(simp (disch:=omega) only[gT,pk,b1,b2,b3,a1',a2',a3',en3]<;>first|with_reducible rfl|omega)|omega)
      |(with_reducible apply A5;· first|with_reducible rfl|(simp (disch:=omega) only[gF,pk,b1,b2,b3,a1',a2',a3',en3]<;>omega))
     try simp (disch:=omega) only[pk,b1,b2,b3,a1',a2',a3',en3]
theorem Ae8 (k:Nat)(r:List Int):Fg k (34::r)=match Er (34::r) with|(some s,q)=>.ok ((4,s,false),q)|(none,_)=>.error 2:=by
 have e:Fg k (34::r)=match FH (34::r) with|none=>.error 2|some (s,r')=>.ok ((4,s,false),r'):=by
  cases k<;>rfl
 rw[e];unfold FH;rcases Er (34::r) with⟨o,q⟩;cases o<;>rfl
theorem LZ {t:ByteArray}(ht:t.size<=1000000)(k:Nat){D:Int}{l:List Int}(h:Cz t (34::l)):∃res,Ae C0 prog fu (d+5) 69 [.pbox (Bw t (34::l)),.sc (.int .i64 D)]=some res∧QX t (34::l) (Fg k (34::l)) res:=by
 have er:=Bz (p:=none) fu (d+4) t (Bp t (34::l):Int) D;have pk:Ae C0 prog fu (d+4) 90 [.pbox (Bw t (34::l))]=some ⟨[.sc (.int .u8 34)],[Bw t (34::l)]⟩:=Kh (xs:=xs0) (d:=d+3) h;have E8:Ae C0 prog fu (d+4) 68 [.pbox (Bw t (34::l))]=_:=Ag8 (d:=d+3) h ht;have JS:=Gf h;have IM:=Gf (Cz.self h.B);have b1:((34:Int)==(123:Int))=false:=rfl;have b2:((34:Int)==(91:Int))=false:=rfl;have b3:((34:Int)==(34:Int))=true:=rfl;rw[Ae8];rcases hx:Er (34::l) with⟨o,q⟩;rw[hx] at E8 JS IM;cases o with
 |none=>
  have PA:Ae C0 prog fu (d+4) 68 [.pbox (Bw t (34::l))]=some ⟨[.sc (.string (Ac [])),.sc (.bool false)],[Bw t q]⟩:=E8;refine⟨_,er.trans ?_,by decide,0,⟨#[]⟩,false,q,JS,rfl⟩
  try unfold Ab
  repeat first
   |((with_reducible first|apply A1|apply As|apply A3|apply Au|apply A4|apply At|apply A0|apply A2);· first|with_reducible rfl|(simp (disch:=omega) only[gT,pk,b1,b2,b3,PA]<;>first|with_reducible rfl|omega)|omega)
   |(with_reducible apply A5;· first|with_reducible rfl|(simp (disch:=omega) only[gF,pk,b1,b2,b3,PA]<;>omega))
  try simp (disch:=omega) only[pk,b1,b2,b3,PA]
 |some s=>
  have PA:Ae C0 prog fu (d+4) 68 [.pbox (Bw t (34::l))]=some ⟨[.sc (.string (Ac s)),.sc (.bool true)],[Bw t q]⟩:=E8;refine⟨_,er.trans ?_,IM,rfl⟩
  try unfold Ab
  repeat first
   |((with_reducible first|apply A1|apply As|apply A3|apply Au|apply A4|apply At|apply A0|apply A2);· first|with_reducible rfl|(simp (disch:=omega) only[gT,pk,b1,b2,b3,PA]<;>first|with_reducible rfl|omega)|omega)
   |(with_reducible apply A5;· first|with_reducible rfl|(simp (disch:=omega) only[gF,pk,b1,b2,b3,PA]<;>omega))
  try simp (disch:=omega) only[pk,b1,b2,b3,PA]
theorem Ahe {t:ByteArray}(ht:t.size<=1000000)(Ev:t.size+1<=fu):∀(k:Nat)(D:Int),D+k=9->1<=D->∀l,Cz t l->∃res,Ae C0 prog fu (d+2*k+5) 69 [.pbox (Bw t l),.sc (.int .i64 D)]=some res∧QX t l (Fg k l) res:=by
 intro k
 induction k with
 |zero=>
  intro D hD h1 l h;by_cases g1:JM l=123
  ·cases l with
   |nil=>cases g1
   |cons c l=>
    have g2:c=123:=g1;subst g2;have er:=Bz (p:=none) fu (d+4) t (Bp t (123::l):Int) D;have pk:Ae C0 prog fu (d+4) 90 [.pbox (Bw t (123::l))]=some ⟨[.sc (.int .u8 123)],[Bw t (123::l)]⟩:=Kh (xs:=xs0) (d:=d+3) h;have b1:((123:Int)==(123:Int))=true:=rfl;have b2:decide (D>8)=true:=by simp;omega
    refine⟨_,er.trans ?_,(by decide:(5:Int)≠0),0,⟨#[]⟩,false,123::l,h,rfl⟩
    try unfold Ab
    repeat first
     |((with_reducible first|apply A1|apply As|apply A3|apply Au|apply A4|apply At|apply A0|apply A2);· first|with_reducible rfl|(simp (disch:=omega) only[gT,pk,b1,b2]<;>first|with_reducible rfl|omega)|omega)
     |(with_reducible apply A5;· first|with_reducible rfl|(simp (disch:=omega) only[gF,pk,b1,b2]<;>omega))
    try simp (disch:=omega) only[pk,b1,b2]
  ·by_cases g2:JM l=91
   ·cases l with
    |nil=>cases g2
    |cons c l=>
     have g3:c=91:=g2;subst g3;have er:=Bz (p:=none) fu (d+4) t (Bp t (91::l):Int) D;have pk:Ae C0 prog fu (d+4) 90 [.pbox (Bw t (91::l))]=some ⟨[.sc (.int .u8 91)],[Bw t (91::l)]⟩:=Kh (xs:=xs0) (d:=d+3) h;have b0:((91:Int)==(123:Int))=false:=rfl;have b1:((91:Int)==(91:Int))=true:=rfl;have b2:decide (D>8)=true:=by simp;omega
     refine⟨_,er.trans ?_,(by decide:(5:Int)≠0),0,⟨#[]⟩,false,91::l,h,rfl⟩
     try unfold Ab
     repeat first
      |((with_reducible first|apply A1|apply As|apply A3|apply Au|apply A4|apply At|apply A0|apply A2);· first|with_reducible rfl|(simp (disch:=omega) only[gT,pk,b0,b1,b2]<;>first|with_reducible rfl|omega)|omega)
      |(with_reducible apply A5;· first|with_reducible rfl|(simp (disch:=omega) only[gF,pk,b0,b1,b2]<;>omega))
     try simp (disch:=omega) only[pk,b0,b1,b2]
   ·by_cases g3:JM l=34
    ·cases l with
     |nil=>cases g3
     |cons c l=>
      have g4:c=34:=g3;subst g4;exact LZ ht 0 h
    ·rw[FN 0 g1 g2 g3];exact ZY ht Ev h g1 g2 g3
 |succ k ih=>
  intro D hD h1 l h;have HV:=ih (D+1) (by omega) (by omega)
  by_cases g1:JM l=123
  ·cases l with
   |nil=>cases g1
   |cons c l=>
    have g2:c=123:=g1;subst g2;have er:=Bz (p:=none) fu (d+2*(k+1)+4) t (Bp t (123::l):Int) D;have pk:Ae C0 prog fu (d+2*(k+1)+4) 90 [.pbox (Bw t (123::l))]=some ⟨[.sc (.int .u8 123)],[Bw t (123::l)]⟩:=Kh (xs:=xs0) (d:=d+2*(k+1)+3) h;have b1:((123:Int)==(123:Int))=true:=rfl;have b2:decide (D>8)=false:=by simp;omega
    have w1:wrap .i64 (D+1)=D+1:=Bc (by omega) (by omega)
    obtain⟨res,e5,h5⟩:=Ao0 (fu:=fu) (d:=d+2*k+2) (D:=D+1) ht Ev (Fg k) HV h;have e6:Ae C0 prog fu (d+2*(k+1)+4) 51 [.pbox (Bw t (123::l)),.sc (.int .i64 (D+1)),.sc (.map none)]=some res:=e5;have ev:Fg (k+1) (123::l)=match Ss (Fg k) false l with | .error e=>.error e | .ok (_,r')=>.ok ((6,[],false),r'):=rfl
    rw[ev];cases ho:Ss (Fg k) false l with
    |error e=>
     rw[ho] at h5;obtain⟨he,q,hq,rfl⟩:=h5;refine⟨_,er.trans ?_,he,6,⟨#[]⟩,false,q,hq,rfl⟩
     try unfold Ab
     repeat first
      |((with_reducible first|apply A1|apply As|apply A3|apply Au|apply A4|apply At|apply A0|apply A2);· first|with_reducible rfl|(simp (disch:=omega) only[gT,pk,b1,b2,w1,e6]<;>first|with_reducible rfl|omega)|omega)
      |(with_reducible apply A5;· first|with_reducible rfl|(simp (disch:=omega) only[gF,pk,b1,b2,w1,e6]<;>omega))
     try simp (disch:=omega) only[pk,b1,b2,w1,e6]
    |ok x=>
     obtain⟨ms,q⟩:=x;rw[ho] at h5;obtain⟨hq,rfl⟩:=h5;refine⟨_,er.trans ?_,(Cz.self h.B).tail.trans hq,rfl⟩
     try unfold Ab
     repeat first
      |((with_reducible first|apply A1|apply As|apply A3|apply Au|apply A4|apply At|apply A0|apply A2);· first|with_reducible rfl|(simp (disch:=omega) only[gT,pk,b1,b2,w1,e6]<;>first|with_reducible rfl|omega)|omega)
      |(with_reducible apply A5;· first|with_reducible rfl|(simp (disch:=omega) only[gF,pk,b1,b2,w1,e6]<;>omega))
     try simp (disch:=omega) only[pk,b1,b2,w1,e6]
     rfl
  ·by_cases g2:JM l=91
   ·cases l with
    |nil=>cases g2
    |cons c l=>
     have g3:c=91:=g2;subst g3;have er:=Bz (p:=none) fu (d+2*(k+1)+4) t (Bp t (91::l):Int) D;have pk:Ae C0 prog fu (d+2*(k+1)+4) 90 [.pbox (Bw t (91::l))]=some ⟨[.sc (.int .u8 91)],[Bw t (91::l)]⟩:=Kh (xs:=xs0) (d:=d+2*(k+1)+3) h;have b0:((91:Int)==(123:Int))=false:=rfl;have b1:((91:Int)==(91:Int))=true:=rfl;have b2:decide (D>8)=false:=by simp;omega
     have w1:wrap .i64 (D+1)=D+1:=Bc (by omega) (by omega)
     obtain⟨res,e5,h5⟩:=Aqq (fu:=fu) (d:=d+2*k+2) (D:=D+1) ht Ev (Fg k) HV h;have e6:Ae C0 prog fu (d+2*(k+1)+4) 91 [.pbox (Bw t (91::l)),.sc (.int .i64 (D+1))]=some res:=e5;have ev:Fg (k+1) (91::l)=match XG (Fg k) l with | .error e=>.error e | .ok r'=>.ok ((5,[],false),r'):=rfl
     rw[ev];cases ho:XG (Fg k) l with
     |error e=>
      rw[ho] at h5;obtain⟨he,q,hq,rfl⟩:=h5;refine⟨_,er.trans ?_,he,5,⟨#[]⟩,false,q,hq,rfl⟩
      try unfold Ab
      repeat first
       |((with_reducible first|apply A1|apply As|apply A3|apply Au|apply A4|apply At|apply A0|apply A2);· first|with_reducible rfl|(simp (disch:=omega) only[gT,pk,b0,b1,b2,w1,e6]<;>first|with_reducible rfl|omega)|omega)
       |(with_reducible apply A5;· first|with_reducible rfl|(simp (disch:=omega) only[gF,pk,b0,b1,b2,w1,e6]<;>omega))
      try simp (disch:=omega) only[pk,b0,b1,b2,w1,e6]
     |ok q=>
      rw[ho] at h5;obtain⟨hq,rfl⟩:=h5;refine⟨_,er.trans ?_,(Cz.self h.B).tail.trans hq,rfl⟩
      try unfold Ab
      repeat first
       |((with_reducible first|apply A1|apply As|apply A3|apply Au|apply A4|apply At|apply A0|apply A2);· first|with_reducible rfl|(simp (disch:=omega) only[gT,pk,b0,b1,b2,w1,e6]<;>first|with_reducible rfl|omega)|omega)
       |(with_reducible apply A5;· first|with_reducible rfl|(simp (disch:=omega) only[gF,pk,b0,b1,b2,w1,e6]<;>omega))
      try simp (disch:=omega) only[pk,b0,b1,b2,w1,e6]
      rfl
   ·by_cases g3:JM l=34
    ·cases l with
     |nil=>cases g3
     |cons c l=>
      have g4:c=34:=g3;subst g4;exact LZ (d:=d+2*(k+1)) ht (k+1) h
    ·rw[FN (k+1) g1 g2 g3];exact ZY (d:=d+2*(k+1)) ht Ev h g1 g2 g3
end
end
section
open Go.Proofs.Tryd (prog)
open Go.IntKind (wrap)
set_option maxRecDepth 1000000
open Go.Shelf Go.RowKit Go.Lib
theorem RF (G:Rx)(args:List PV)(res:Ay)(h:KX args=some res):Cw G prog 66 args res:=by
 refine⟨⟨_,Tryd.func66,by kernel_rfl⟩,fun w Y bt us hi _ _=>?_⟩
 unfold KX at h;split at h
 rotate_left
 ·cases h
 rename_i s p;cases hq:(Nat.ble p.size 1000&&p.data.toList.all (fun b=>decide (b.toNat<128))&&decide (s.size<=1000000000))
 ·rw[hq] at h;cases h
 rw[hq,cond_true] at h;cases h;rw[Bool.and_eq_true,Bool.and_eq_true] at hq;obtain⟨⟨h1,h2⟩,h3⟩:=hq;have h1:=Nat.le_of_ble_eq_true h1;have h3:=of_decide_eq_true h3;have ps:=hi.args
 match us,ps with
 |[u1,u2],ps=>
  obtain⟨⟨_,p1⟩,⟨_,p2⟩,_⟩:=ps;have e1:u1=.string s:=Ar.val (show Ar w _ (.sc (.string s)) u1 from p1)
  have e2:u2=.string p:=Ar.val (show Ar w _ (.sc (.string p)) u2 from p2)
  subst e1 e2;refine (Any.strings_Trim_laid PK (by kernel_rfl) s p w (by omega) (by omega) (ascii_of_all h2)).mono ?_
  rintro e w' ⟨rfl,hb⟩
  exact⟨[.string ⟨(Lib.trimS s.data.toList p.data.toList).toArray⟩],fun _=>none,rfl,Mn hb rfl⟩
 |[],ps=>exact ps.elim
 |[_],ps=>exact ps.2.elim
 |_::_::_::_,ps=>exact ps.2.2.elim
end
section
open Go.Proofs.Tryd (prog)
open Go.IntKind (wrap)
set_option maxRecDepth 1000000
open Go.Shelf Go.RowKit Go.Lib
def Asd:Go.Shelf.Ren:=⟨fun|196=>33|259=>49|n=>n,fun|0=>0|3=>3|4=>4|5=>5|9=>9|12=>12|46=>56|53=>46|119=>86|138=>88|139=>89|n=>n,fun|3=>0|4=>1|n=>n⟩
theorem laysVS:Lays.n196 prog Asd:={
 mixed:=by kernel_rfl
 f196:=Tryd.func33.trans (congrArg some (by kernel_rfl))
 f259:=Tryd.func49.trans (congrArg some (by kernel_rfl))
 t0:=Tryd.underlying0
 a0:=Tryd.isAgg0
 z0:=Tryd.sizeOf0
 v0:=Tryd.zeroValue0
 t3:=Tryd.underlying3
 a3:=Tryd.isAgg3
 z3:=Tryd.sizeOf3
 v3:=Tryd.zeroValue3
 t4:=Tryd.underlying4
 a4:=Tryd.isAgg4
 z4:=Tryd.sizeOf4
 v4:=Tryd.zeroValue4
 t5:=Tryd.underlying5
 a5:=Tryd.isAgg5
 z5:=Tryd.sizeOf5
 v5:=Tryd.zeroValue5
 t9:=Tryd.underlying9
 a9:=Tryd.isAgg9
 z9:=Tryd.sizeOf9
 v9:=Tryd.zeroValue9
 t12:=Tryd.underlying12
 a12:=Tryd.isAgg12
 z12:=Tryd.sizeOf12
 v12:=Tryd.zeroValue12
 t46:=Tryd.underlying56
 a46:=Tryd.isAgg56
 z46:=Tryd.sizeOf56
 v46:=Tryd.zeroValue56
 t53:=Tryd.underlying46
 a53:=Tryd.isAgg46
 z53:=Tryd.sizeOf46
 v53:=Tryd.zeroValue46
 t119:=Tryd.underlying86
 a119:=Tryd.isAgg86
 z119:=Tryd.sizeOf86
 t138:=Tryd.underlying88
 a138:=Tryd.isAgg88
 z138:=Tryd.sizeOf88
 v138:=Tryd.zeroValue88
 t139:=Tryd.underlying89
 a139:=Tryd.isAgg89
 z139:=Tryd.sizeOf89
 v139:=Tryd.zeroValue89
 g3:=by kernel_rfl
 g4:=by kernel_rfl }
def gU:Rx:=⟨fun b=>b=0∨b=1,fun w=>0<w.heap.size∧1<w.heap.size∧Lib.Utf8Tabs 0 1 w,fun w w' h ⟨s1,s2,h1,h2⟩=>by
 have e1:=h _ (.inl rfl) s1;have e2:=h _ (.inr rfl) s2
 have hs:∀b,b<w.heap.size->w'.heap[b]?=w.heap[b]?->b<w'.heap.size:=by
  intro b hb he;rw[Array.getElem?_eq_getElem hb] at he;rcases Nat.lt_or_ge b w'.heap.size with q|q
  ·exact q
  ·rw[Array.getElem?_eq_none q] at he;cases he
 refine⟨hs _ s1 e1,hs _ s2 e2,fun c hc=>?_,fun i hi=>?_⟩
 ·have:=h1 c hc;unfold World.cell? at this ⊢;simp only[e1] at this ⊢;exact this
 ·obtain⟨a,b⟩:=h2 i hi;unfold World.cell? at a b ⊢;simp only[e2] at a b ⊢;exact⟨a,b⟩⟩
theorem LV (args:List PV)(res:Ay)(h:PE args=some res):Cw gU prog 33 args res:=by
 refine⟨⟨_,Tryd.func33,by kernel_rfl⟩,fun w Y bt us hi hok _=>?_⟩
 unfold PE at h;split at h
 rotate_left
 ·cases h
 rename_i s;cases hq:decide (s.size<=9223372036854775807)
 ·rw[hq] at h;cases h
 rw[hq] at h;cases h;have hs:=of_decide_eq_true hq;have ps:=hi.args
 match us,ps with
 |[u],ps=>
  have hu:u=.string s:=by
   have:Ar w _ (.sc (.string s)) u:=ps.1.2;exact this.val
  subst hu;refine (Any.utf8_ValidString laysVS s w hs hok.2.2).mono ?_
  rintro e w' ⟨rfl,hb⟩
  exact⟨[.bool (Lib.validD s.data.toList)],fun _=>none,rfl,Mn hb rfl⟩
 |[],ps=>exact ps.elim
 |_::_::_,ps=>exact ps.2.elim
theorem Ah0 {p:Option (List PV->Option Ay)} (hp:∀g,p=some g->∀args res,g args=some res->Cw gU prog 19 args res):DC gU prog (CP p):=by
 intro f g args res hx hg;have hx0:(bif To.any (Nat.beq f) then none else PY p f)=some g:=hx;cases hb:To.any (Nat.beq f)
 rotate_left
 ·rw[hb,cond_true] at hx0;cases hx0
 rw[hb,cond_false] at hx0;unfold PY at hx0;cases hP:Nat.beq f 19
 rotate_left
 ·rw[hP,cond_true] at hx0;rw[Nat.eq_of_beq_eq_true hP];exact hp g hx0 args res hg
 rw[hP,cond_false] at hx0;have Pn:Aab f=some g:=hx0;unfold Aab at Pn;cases h1:Nat.beq f 33
 rotate_left
 ·rw[h1,cond_true] at Pn;cases Pn;rw[Nat.eq_of_beq_eq_true h1];exact LV args res hg
 rw[h1,cond_false] at Pn;cases h6:Nat.beq f 40
 rotate_left
 ·rw[h6,cond_true] at Pn;cases Pn;rw[Nat.eq_of_beq_eq_true h6];exact VN gU args res hg
 rw[h6,cond_false] at Pn;cases h7:Nat.beq f 99
 rotate_left
 ·rw[h7,cond_true] at Pn;cases Pn;rw[Nat.eq_of_beq_eq_true h7];exact WW gU args res hg
 rw[h7,cond_false] at Pn;cases hA:Nat.beq f 66
 rotate_left
 ·rw[hA,cond_true] at Pn;cases Pn;rw[Nat.eq_of_beq_eq_true hA];exact RF gU args res hg
 rw[hA,cond_false] at Pn;cases h8:Nat.beq f 12
 rotate_left
 ·rw[h8,cond_true] at Pn;cases Pn;rw[Nat.eq_of_beq_eq_true h8];exact VS gU args res hg
 rw[h8,cond_false] at Pn;cases h9:Nat.beq f 68
 rotate_left
 ·rw[h9,cond_true] at Pn;cases Pn;rw[Nat.eq_of_beq_eq_true h9];exact TW gU args res hg
 rw[h9,cond_false] at Pn;cases h3:Nat.beq f 1000000
 ·rw[h3,cond_false] at Pn;cases Pn
 ·rw[h3,cond_true] at Pn;cases Pn;cases hg
theorem Alx:DC gU prog C0:=Ah0 (fun _ h=>by cases h)
end
section
open Go.Proofs.Tryd (prog)
open Go.IntKind (wrap)
open Go Go.RowKit
def Ph (v:JV):Value:=.agg #[.int .i64 v.1,.string (Ac v.2.1),.bool v.2.2]
def Hj:Nat->List (List Int × JV)->List MapEntry
 |_,[]=>[]
 |i,m::r=>{ key:=.string (Ac m.1),val:=Ph m.2,born:=i }::Hj (i+1) r
theorem FP:∀(i:Nat)(a b:List (List Int × JV)),Hj i (a++b)=Hj i a++Hj (i+a.length) b
 |_,[],_=>rfl
 |i,m::r,b=>by
  show _::Hj (i+1) (r++b)=_;rw[FP (i+1) r b];show _=_::(Hj (i+1) r++Hj (i+(r.length+1)) b);rw[show i+1+r.length=i+(r.length+1) by omega]
def Js (nm:List Int)(ms:List (List Int × JV)):Option JV:=(ms.find? fun m=>m.1==nm).map (·.2)
theorem Vo {a b:List Int}(ha:Do a)(hb:Do b)(h:Ac a=Ac b):a=b:=by
 have:=congrArg D2 h
 rwa [C9 ha,C9 hb] at this
theorem ZZ (a b:ByteArray):(a==b)=decide (a=b):=by
 have e:(a==b)=(a.data==b.data):=by
  cases a;cases b;rfl
 rw[e,Bool.eq_iff_iff,beq_iff_eq,decide_eq_true_iff];constructor
 ·intro h;cases a;cases b;exact congrArg ByteArray.mk h
 ·intro h;rw[h]
theorem Oy {nm:List Int}(hn:Do nm):∀(ms:List (List Int × JV)) (i j:Nat),(∀m∈ms,Do m.1)->∃r,Instr.findNow .string (.string (Ac nm)) (Hj i ms) j=some r∧(match Js nm ms with|none=>r=none|some v=>∃k,r=some (k,Ph v))
 |[],_,_,_=>⟨none,rfl,rfl⟩
 |m::r,i,j,hB=>by
  by_cases h:m.1=nm
  ·refine⟨some (j,Ph m.2),?_,?_⟩
   ·show (match Instr.sameNow .string (.string (Ac nm)) (.string (Ac m.1)) with|some true=>some (some (j,Ph m.2))|some false=>Instr.findNow .string (.string (Ac nm)) (Hj (i+1) r) (j+1)|none=>none)=_
    have e:Instr.sameNow .string (.string (Ac nm)) (.string (Ac m.1))=some true:=by
     show some (Ac nm==Ac m.1)=some true;rw[h,ZZ];simp
    rw[e]
   ·have e:Js nm (m::r)=some m.2:=by
     unfold Js;rw[List.find?_cons_of_pos (by simp[h])]
     rfl
    rw[e];exact⟨j,rfl⟩
  ·obtain⟨q,hq,hl⟩:=Oy hn r (i+1) (j+1) fun m hm=>hB m (List.mem_cons_of_mem _ hm)
   refine⟨q,?_,?_⟩
   ·show (match Instr.sameNow .string (.string (Ac nm)) (.string (Ac m.1)) with|some true=>some (some (j,Ph m.2))|some false=>Instr.findNow .string (.string (Ac nm)) (Hj (i+1) r) (j+1)|none=>none)=_
    have e:Instr.sameNow .string (.string (Ac nm)) (.string (Ac m.1))=some false:=by
     show some (Ac nm==Ac m.1)=some false;have:Ac nm≠Ac m.1:=fun e=>h (Vo hn (hB m (List.mem_cons_self ..)) e).symm
     rw[ZZ];simp[this]
    rw[e];exact hq
   ·have e:Js nm (m::r)=Js nm r:=by
     unfold Js;rw[List.find?_cons_of_neg (by simp[h])]
    rw[e];exact hl
def Yj (w:World)(b:Nat)(ms:List (List Int × JV)):Prop:=w.heap[b]?=some (.map (Hj 0 ms).toArray ms.length)
theorem Y3 {w:World}{b:Nat}{ms:List (List Int × JV)} (h:Yj w b ms):(getObj b).run prog w=.ok (.map (Hj 0 ms).toArray ms.length) w:=by
 simp[getObj,Sem.run,show w.heap[b]?=_ from h]
def LC (nm:List Int)(ms:List (List Int × JV)):Value:=match Js nm ms with|some v=>Ph v|none=>Ph (0,[],false)
theorem Yt {w:World}{b:Nat}{ms:List (List Int × JV)} (h:Yj w b ms)(hB:∀m∈ms,Do m.1){nm:List Int}(hn:Do nm)(ok:Bool):(Instr.lookup 68 (.map (some b)) (.string (Ac nm)) ok).run prog w=.ok (if ok then .tuple #[LC nm ms,.bool (Js nm ms).isSome] else LC nm ms) w:=by
 have hu:=run_underlying (w:=w) Tryd.underlying68;have hk:=run_underlying (w:=w) Tryd.underlying9;have hck:∀c (n:Nat),(Instr.checkKey c (n+1) 9 (.string (Ac nm))).run prog w=.ok () w:=fun c n=>by simp[Instr.checkKey,hk]
 have hc:∀c,(Instr.checkKey c 10000 9 (.string (Ac nm))).run prog w=.ok () w:=fun c=>hck c 9999
 obtain⟨r,hr,hl⟩:=Oy hn ms 0 0 hB;have hz:(zeroValue 95).run prog w=.ok (Ph (0,[],false)) w:=Tryd.zeroValue95 w;unfold LC;cases hq:Js nm ms with
 |none=>
  rw[hq] at hl;simp only at hl;subst hl;cases ok<;>simp[Instr.lookup,hu,hk,Y3 h,hc,Instr.findKey,hr,hz]<;>rfl
 |some v=>
  rw[hq] at hl;obtain⟨k,hl⟩:=hl;subst hl;cases ok<;>simp[Instr.lookup,hu,hk,Y3 h,hc,Instr.findKey,hr]
theorem PU {w:World}{b:Nat}{ms:List (List Int × JV)} (h:Yj w b ms)(hB:∀m∈ms,Do m.1){nm:List Int}(hn:Do nm)(GT:Js nm ms=none)(v:JV):(Instr.mapUpdate 68 (.map (some b)) (.string (Ac nm)) (Ph v)).run prog w=.ok () { w with heap:=w.heap.setIfInBounds b (.map (Hj 0 (ms++[(nm,v)])).toArray (ms++[(nm,v)]).length) }:=by
 have hu:=run_underlying (w:=w) Tryd.underlying68;have hk:=run_underlying (w:=w) Tryd.underlying9;have hck:∀c (n:Nat),(Instr.checkKey c (n+1) 9 (.string (Ac nm))).run prog w=.ok () w:=fun c n=>by simp[Instr.checkKey,hk]
 have hc:∀c,(Instr.checkKey c 10000 9 (.string (Ac nm))).run prog w=.ok () w:=fun c=>hck c 9999
 obtain⟨r,hr,hl⟩:=Oy hn ms 0 0 hB;rw[GT] at hl;simp only at hl;subst hl
 have e:Hj 0 (ms++[(nm,v)])=Hj 0 ms++[{ key:=.string (Ac nm),val:=Ph v,born:=ms.length }]:=by
  rw[FP];show _++[_]=_;rw[Zzd]
 have hs:∀o,(setObj b o).run prog w=.ok () { w with heap:=w.heap.setIfInBounds b o }:=fun o=>by
  simp[setObj,Sem.run,show w.heap[b]?=_ from h]
 rw[e];simp[Instr.mapUpdate,hu,hk,Y3 h,hc,Instr.findKey,hr,hs]
end
section
open Go.Proofs.Tryd (prog)
open Go.IntKind (wrap)
set_option maxRecDepth 20000
open Go Go.RowKit
structure Je (w:World) (b:Nat):Prop where
 ok:gU.ok w
 bl:∀k,gU.bl k->k<w.heap.size∧k≠b
theorem Yd {f:FuncId}{t:ByteArray}{r r':List Int}{args vals:List PV}{us rs:List Value}{fu d:Nat}(e:Ae C0 prog fu d f (.pbox (Bw t r)::args)=some ⟨vals,[Bw t r']⟩) (ha:Bb AJ args us)(hr:Bb AJ vals rs)
  {w:World} {b o:Nat} (hU:Je w b) (h:Tt w b o t r):Calls prog f (.pointer (some ⟨b,o,none⟩)::us).toArray w fun e w'=>e=.returned (Gn rs)∧Tt w' b o t r'∧D9 w w' b o 2:=by
 have hs:Cw gU prog f (.pbox ([Value.string t,.int .i64 (Bp t r:Int)].map .sc)::args) ⟨vals,[[Value.string t,.int .i64 (Bp t r':Int)].map .sc]⟩:=G9 ngR mxR Alx d f _ _ e;refine (ES hs ha hr (w:=w) (b:=b) (o:=o) hU.ok hU.bl h.lt ?_ ?_).mono ?_
 ·intro j v hv
  match j,hv with
  |0,hv=>cases hv;exact h.c0
  |1,hv=>cases hv;exact h.c1
 ·intro j hj
  match j,hj with
  |0,_=>exact h.f0
  |1,_=>exact h.f1
 ·rintro e w' ⟨rfl,_,h4,h5,hk⟩
  exact⟨rfl,⟨Nat.lt_of_lt_of_le h.lt hk.size,h4 0 _ rfl,h4 1 _ rfl,h5 0 (Nat.zero_lt_succ _),h5 1 (Nat.succ_lt_succ (Nat.zero_lt_succ _))⟩,hk⟩
theorem Gy {t:ByteArray}{r:List Int}(hS:Cz t r)(ht:t.size<=1000000){w:World}{b o:Nat}(hU:Je w b)(h:Tt w b o t r):
  Calls prog 50 #[.pointer (some ⟨b,o,none⟩)] w fun e w'=>e=.returned (.tuple #[])∧Tt w' b o t (Bd r)∧D9 w w' b o 2:=by
 have e:=Ni (fu:=1000001) (d:=0) hS ht (by omega)
 exact Yd (us:=[]) (rs:=[]) e trivial trivial hU h
def Anb (t:ByteArray)(r r':List Int)(e:Ending):Prop:=
 match Fg 8 r with
 |.ok (v,q)=>r'=q∧Cz (Ac r) q∧e=.returned (.tuple #[Ph v,.int .i64 0])
 |.error er=>er≠0∧Cz t r'∧∃u:JV,e=.returned (.tuple #[Ph u,.int .i64 er])
theorem XC {t:ByteArray}{r:List Int}(hS:Cz t r)(ht:t.size<=1000000){w:World}{b o:Nat}(hU:Je w b)(h:Tt w b o t r):
  Calls prog 69 #[.pointer (some ⟨b,o,none⟩),.int .i64 1] w fun e w'=>∃r',Tt w' b o t r'∧D9 w w' b o 2 ∧
   Anb t r r' e:=by
 unfold Anb;obtain⟨res,e,hr⟩:=Ahe (fu:=1000001) (d:=0) ht (by omega) 8 1 (by omega) (by omega) r hS
 cases hv:Fg 8 r with
 |error er=>
  rw[hv] at hr;obtain⟨he,c1,c2,c3,q,hq,rfl⟩:=hr;refine (Yd (us:=[.int .i64 1]) (rs:=[.agg #[.int .i64 c1,.string c2,.bool c3],.int .i64 er]) e ⟨.inl rfl,trivial⟩ ⟨.inr ⟨[.int .i64 c1,.string c2,.bool c3],rfl,rfl⟩,.inl rfl,trivial⟩ hU h).mono ?_
  rintro e w' ⟨rfl,ha,hk⟩
  exact⟨q,ha,hk,he,hq,(c1,D2 c2,c3),by unfold Ph;simp only[N0];rfl⟩
 |ok x=>
  obtain⟨v,q⟩:=x;rw[hv] at hr;obtain⟨hq,rfl⟩:=hr;refine (Yd (us:=[.int .i64 1]) (rs:=[Ph v,.int .i64 0]) e ⟨.inl rfl,trivial⟩ ⟨.inr ⟨[.int .i64 v.1,.string (Ac v.2.1),.bool v.2.2],rfl,rfl⟩,.inl rfl,trivial⟩ hU h).mono ?_
  rintro e w' ⟨rfl,ha,hk⟩
  exact⟨q,ha,hk,rfl,hq,rfl⟩
end
end Go.Proofs.YtodnjibebeghjaaDoor.Pv
