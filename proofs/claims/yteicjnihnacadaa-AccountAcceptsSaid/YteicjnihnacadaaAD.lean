/-
  The proof of AccountAccepts, part 4.
-/
import Derived.Test.YteicjnihnacadaaAC
import Derived.Test.YteicjnihnacadaaRows
import Derived.Sort.Walk0
import Derived.Lib.BytesEntry
import Derived.Lib.Bytealg
import Derived.Lib.Walk
import Derived.WalkKit
import Derived.WalkMore
import Derived.Shelf.RegionOpenPlain
import Derived.Lib.Overlaps
import Derived.Lib.AppendZerosOnto
import Derived.Lib.SliceRun
import Derived.Laws.Externs
import Derived.Laws.IdiomCopy
import Derived.Laws.NewBlocks
set_option linter.unusedSimpArgs false
set_option linter.unusedVariables false
namespace Go.Proofs.Yteicjnihnacadaa.Pv
section
open Go.Proofs.Try (prog)
open Go.IntKind (wrap)
section
variable {fu d:Nat} {xs:FuncId->Option (List PV->Option A7)}
theorem VK {x k:Int}(hk:k=13∨k=16∨k=17∨k=21∨k=32):Ai (CX xs) prog fu (d+1) I6 [.sc (.int .u64 x),.sc (.int .i64 k)]=some ⟨[.sc (.int .u64 (rot x k))],[]⟩:=by
 rw[Pm];rcases hk with rfl|rfl|rfl|rfl|rfl<;>kernel_rfl
theorem WF {x k:Int}(hk:k=13∨k=16∨k=17∨k=21∨k=32):Ai (CX xs) prog fu (d+1) Ka [.sc (.int .u64 x),.sc (.int .u64 k)]=some ⟨[.sc (.int .u64 (rot x k))],[]⟩:=by
 rw[Q0];rcases hk with rfl|rfl|rfl|rfl|rfl<;>kernel_rfl
theorem Uj {a0 a1 a2 a3 a4:Int}:∀(k i nn:Nat)(v:W4),k<nn->i+k<=100 ->
  Da fu (Ai (CX xs) prog fu (d+1)) a0 a1 a2 a3 a4 nn ((i+k:Nat):Int) i v.a v.b v.c v.d=some ⟨[],[(KK k v).cells]⟩
 |_,_,0,_,h,_=>by omega
 |0,i,nn+1,v,h,hi=>by
  rw[F0,Nd _ _ _ (by omega)]
  rfl
 |k+1,i,nn+1,v,h,hi=>by
  have ih:=Uj (a0:=a0) (a1:=a1) (a2:=a2) (a3:=a3) (a4:=a4) k (i+1) nn (X8 v) (by omega) (by omega)
  have w:wrap .i64 ((i:Int)+1)=((i+1:Nat):Int):=by rw[wrap_i64 (by omega) (by omega)];omega
  have r13:=fun x=>VK (xs:=xs) (fu:=fu) (d:=d) (x:=x) (k:=13) (by simp)
  have r16:=fun x=>VK (xs:=xs) (fu:=fu) (d:=d) (x:=x) (k:=16) (by simp)
  have r17:=fun x=>VK (xs:=xs) (fu:=fu) (d:=d) (x:=x) (k:=17) (by simp)
  have r21:=fun x=>VK (xs:=xs) (fu:=fu) (d:=d) (x:=x) (k:=21) (by simp)
  have r32:=fun x=>VK (xs:=xs) (fu:=fu) (d:=d) (x:=x) (k:=32) (by simp)
  rw[F0];simp (disch:=omega) only[Ds,r13,r16,r17,r21,r32,w];rw[show i+(k+1)=i+1+k by omega]
  exact ih
theorem AA (k:Nat)(hk:k<=4)(D9:100<=fu)(v:W4):Ai (CX xs) prog fu (d+2) Hg [.pbox [.sc (.int .u64 v.a),.sc (.int .u64 v.b),.sc (.int .u64 v.c),.sc (.int .u64 v.d)],.sc (.int .i64 k)]=some ⟨[],[(KK k v).cells]⟩:=by
 rw[Nl];have:=Uj (xs:=xs) (fu:=fu) (d:=d) (a0:=v.a) (a1:=v.b) (a2:=v.c) (a3:=v.d) (a4:=k) k 0 fu v (by omega) (by omega)
 rw[Vq] at this;exact this
theorem Y0 (D9:100<=fu)(v:W4)(m:Int):Ai (CX xs) prog fu (d+3) Hi [.pbox [.sc (.int .u64 v.a),.sc (.int .u64 v.b),.sc (.int .u64 v.c),.sc (.int .u64 v.d)],.sc (.int .u64 m)]=some ⟨[],[(Me v m).cells]⟩:=by
 rw[Nn];have r2:=AA (xs:=xs) (fu:=fu) (d:=d) 2 (by omega) D9 ⟨v.a,v.b,v.c,Ct .u64 v.d m⟩
 have e2:((2:Nat):Int)=2:=rfl;rw[e2] at r2;unfold Me;generalize KK 2 ⟨v.a,v.b,v.c,Ct .u64 v.d m⟩=R at r2 ⊢;simp only[W4.cells] at r2;simp only[Ds,r2];rfl
theorem Ajt {a b:Int}{k:Nat}(hk:k<8)(ha:0<=a)(RG:a<((2 ^ (8*k):Nat):Int)) (hb:0<=b)(Fs:b<=255):Sh .u64 a (Fk .u64 b (8*(k:Int)))=a+((2 ^ (8*k):Nat):Int)*b:=by
 obtain⟨n,rfl⟩:=Int.eq_ofNat_of_zero_le hb;have e:(8*(k:Int)).toNat=8*k:=by omega
 have hp:n*2 ^ (8*k)<=255*2 ^ (8*k):=Nat.mul_le_mul_right _ (by omega)
 have h56:2 ^ (8*k)<=2 ^ 56:=Nat.pow_le_pow_right (by omega) (by omega)
 have e56:(2:Nat) ^ 56=72057594037927936:=by decide
 rw[e56] at h56;generalize hP:2 ^ (8*k)=p at *
 have Aks:n*p<=255*p:=hp
 have hs:Fk .u64 (n:Int) (8*(k:Int))=(n:Int)*((2 ^ (8*(k:Int)).toNat:Nat):Int):=NG (by omega) (by omega) (by omega) (by
  rw[e,hP];have:((n*p:Nat):Int)<=((255*p:Nat):Int):=by omega
  rw[←Int.natCast_mul];omega)
 rw[hs,e,hP]
 have:=(AX (a:=a) (c:=((n*p:Nat):Int)) (8*k) n ha (by rw[hP];exact RG) (by rw[hP]) (by
  have:((n*p:Nat):Int)<=((255*p:Nat):Int):=by omega
  omega)).1
 rw[←Int.natCast_mul,this,Int.mul_comm ((p:Nat):Int),←Int.natCast_mul]
theorem Akx (k:Nat):((2 ^ (8*k):Nat):Int)=256 ^ k:=by
 rw[Nat.pow_mul];simp
theorem U0 {call:Aj}{n:Nat}{c:List PV}{l:List Int}(hb:Sx l)(hl:l.length<=8):∀(r:List Int)(i nn:Nat),l.drop i=r->r.length<nn->i<=l.length ->
  Fi fu call n c nn (Md (l.take i)) l.length (Au .u8 l) l.length i=some ⟨[.sc (.int .u64 (Md l))],[]⟩
 |_,_,0,_,h,_=>by omega
 |[],i,nn+1,h,hn,hi=>by
  have:=drop_nil h;rw[J4,Nd _ _ _ (by omega),N1 (by omega)]
 |b::r,i,nn+1,h,hn,hi=>by
  obtain⟨h1,h2,h3⟩:=Fj h;simp only[OW] at hn;have ih:=U0 (call:=call) (n:=n) (c:=c) hb hl r (i+1) nn h3 (by omega) (by omega)
  have hbb:=hb b (List.mem_of_getElem? h2);have w:wrap .i64 ((i:Int)+1)=((i+1:Nat):Int):=by rw[wrap_i64 (by omega) (by omega)];omega
  have w8:wrap .i64 (8*(i:Int))=8*(i:Int):=wrap_i64 (by omega) (by omega)
  have wb:wrap .u64 b=b:=Ca (by omega) (by omega)
  have Aft:=Nc (l:=l.take i) fun x hx=>hb x (List.mem_of_mem_take hx)
  have htl:(l.take i).length=i:=by rw[List.length_take];omega
  rw[htl] at Aft
  have hj:Sh .u64 (Md (l.take i)) (Fk .u64 b (8*(i:Int)))=Md (l.take (i+1)):=by
   rw[Ajt (by omega) Aft.1 (by rw[Akx];exact Aft.2) hbb.1 hbb.2,List.take_add_one,h2,Qk,htl,Akx]
   simp[Md]
  rw[J4];simp (disch:=omega) only[Ds,AP,O6,ati h2,w,w8,wb,hj];exact ih
theorem Zw {l:List Int}(hb:Sx l)(hl:l.length<=8)(D9:100<=fu):Ai (CX xs) prog fu (d+1) Nh [.lst false 1 l.length (Au .u8 l)]=some ⟨[.sc (.int .u64 (Md l))],[]⟩:=by
 rw[U9];exact U0 hb hl l 0 fu rfl (by omega) (by omega)
theorem Zs (k:IntKind)(l:List Int)(i:Nat):List.drop i (Au k l)=Au k (l.drop i):=by
 have:=Vs (Ro k) l i
 simpa using this
theorem Hw (k:IntKind)(l:List Int)(i:Nat):List.take i (Au k l)=Au k (l.take i):=by
 have:=AU (Ro k) l i
 simpa using this
theorem Sx.drop {l:List Int}(h:Sx l)(i:Nat):Sx (l.drop i):=fun x hx=>h x (List.mem_of_mem_drop hx)
theorem Sx.take {l:List Int}(h:Sx l)(i:Nat):Sx (l.take i):=fun x hx=>h x (List.mem_of_mem_take hx)
theorem YY {a0 a1:Int}{n:Nat}{c:List PV}{l:List Int}(hb:Sx l)(hl:l.length<=1099511627776)(D9:100<=fu)(nn:Nat)(v:W4):
  F2 fu (Ai (CX xs) prog fu (d+3)) a0 a1 n c (nn+1) l.length (Au .u8 l) ((l.length / 8:Nat):Int) ((l.length / 8:Nat):Int) ((l.length / 8:Nat):Int) v.a v.b v.c v.d=some ⟨[.sc (.int .u64 (PP (PQ (Me v (I9 l)))))],[]⟩:=by
 have w8:wrap .i64 (8*((l.length / 8:Nat):Int))=((8*(l.length / 8):Nat):Int):=by rw[wrap_i64 (by omega) (by omega)];omega
 have wl:wrap .u64 (l.length:Int)=l.length:=Ca (by omega) (by omega)
 have WJ:(l.drop (8*(l.length / 8))).length=l.length-8*(l.length / 8):=List.length_drop;have li:=Zw (xs:=xs) (fu:=fu) (d:=d+2) (hb.drop (8*(l.length / 8))) (by omega) D9
 rw[WJ] at li;have tk:List.take (l.length-8*(l.length / 8)) (Au .u8 (l.drop (8*(l.length / 8))))=Au .u8 (l.drop (8*(l.length / 8))):=N1 (by rw[Bf,WJ];omega)
 have hbn:=Nc (hb.drop (8*(l.length / 8)));rw[WJ] at hbn
 have hp7:(256:Int) ^ (l.length-8*(l.length / 8))<=256 ^ 7:=by
  have:(256:Nat) ^ (l.length-8*(l.length / 8))<=256 ^ 7:=Nat.pow_le_pow_right (by omega) (by omega)
  have h2:(((256:Nat) ^ (l.length-8*(l.length / 8)):Nat):Int)<=((256 ^ 7:Nat):Int):=by omega
  simpa using h2
 have Akp:Sh .u64 (Md (l.drop (8*(l.length / 8)))) (Fk .u64 (l.length:Int) 56)=I9 l:=by
  have hs:Fk .u64 (l.length:Int) 56=(((l.length % 256)*2 ^ 56:Nat):Int):=by
   show wrap .u64 ((l.length:Int)*2 ^ (min (56:Int).toNat IntKind.u64.bits))=_;have h2:(2:Int) ^ (min (56:Int).toNat IntKind.u64.bits)=72057594037927936:=by decide
   have h3:(2:Nat) ^ 56=72057594037927936:=by decide
   rw[h2,h3];simp only[wrap,IntKind.signed,IntKind.bits];simp;omega
  have h56:(256:Int) ^ 7=((2 ^ 56:Nat):Int):=by decide
  have h3:(2:Nat) ^ 56=72057594037927936:=by decide
  rw[hs,(AX 56 (l.length % 256) hbn.1 (by omega) rfl (by omega)).1]
  unfold I9;omega
 have ab:=Y0 (xs:=xs) (fu:=fu) (d:=d) D9 v (I9 l);have r4:=AA (xs:=xs) (fu:=fu) (d:=d+1) 4 (by omega) D9 ⟨(Me v (I9 l)).a,(Me v (I9 l)).b,Ct .u64 (Me v (I9 l)).c 255,(Me v (I9 l)).d⟩
 have e4:((4:Nat):Int)=4:=rfl;rw[e4] at r4;unfold PQ;generalize Me v (I9 l)=U at ab r4 ⊢;generalize KK 4 ⟨U.a,U.b,Ct .u64 U.c 255,U.d⟩=R at r4 ⊢;simp only[W4.cells] at ab r4;rw[Ng];simp (disch:=omega) only[Ds,AP,O6,w8,wl,Zs,tk,li,Akp,ab,r4];rfl
theorem GV {a0 a1:Int}{n:Nat}{c:List PV}{l:List Int}(hb:Sx l)(hl:l.length<=1099511627776)(D9:100<=fu):∀(k i nn:Nat)(v:W4),i+k=l.length / 8->k<nn ->
  F2 fu (Ai (CX xs) prog fu (d+3)) a0 a1 n c nn l.length (Au .u8 l) ((l.length / 8:Nat):Int) ((l.length / 8:Nat):Int) i v.a v.b v.c v.d=some ⟨[.sc (.int .u64 (PP (PQ (Me (Yw k v (l.drop (8*i))) (I9 l)))))],[]⟩
 |_,_,0,_,_,h=>by omega
 |0,i,nn+1,v,hi,hn=>by
  have e:i=l.length / 8:=by omega
  subst e;exact YY hb hl D9 nn v
 |k+1,i,nn+1,v,hi,hn=>by
  have w:wrap .i64 ((i:Int)+1)=((i+1:Nat):Int):=by rw[wrap_i64 (by omega) (by omega)];omega
  have w8:wrap .i64 (8*(i:Int))=((8*i:Nat):Int):=by rw[wrap_i64 (by omega) (by omega)];omega
  have w88:wrap .i64 (((8*i:Nat):Int)+8)=((8*i+8:Nat):Int):=by rw[wrap_i64 (by omega) (by omega)];omega
  have WJ:((l.drop (8*i)).take 8).length=8:=by rw[List.length_take,List.length_drop];omega
  have li:=Zw (xs:=xs) (fu:=fu) (d:=d+2) ((hb.drop (8*i)).take 8) (by omega) D9
  rw[WJ] at li;have e8:8*i+8-8*i=8:=by omega
  have ab:=Y0 (xs:=xs) (fu:=fu) (d:=d) D9 v (Md ((l.drop (8*i)).take 8));have ih:=GV (a0:=a0) (a1:=a1) (n:=n) (c:=c) hb hl D9 k (i+1) nn (Me v (Md ((l.drop (8*i)).take 8))) (by omega) (by omega)
  have eN:Yw (k+1) v (l.drop (8*i))=Yw k (Me v (Md ((l.drop (8*i)).take 8))) (l.drop (8*(i+1))):=by
   rw[Yw,List.drop_drop,show 8*i+8=8*(i+1) by omega]
  rw[eN];generalize Me v (Md ((l.drop (8*i)).take 8))=U at ab ih ⊢;simp only[W4.cells] at ab;rw[Ng];simp (disch:=omega) only[Ds,AP,O6,w,w8,w88,e8,Zs,Hw,li,ab];exact ih
theorem Aeu {l:List Int}(hb:Sx l)(hl:l.length<=1099511627776)(D9:100<=fu)(hf:l.length<fu)(k0 k1:Int):Ai (CX xs) prog fu (d+4) Rk [.sc (.int .u64 k0),.sc (.int .u64 k1),.lst false 1 l.length (Au .u8 l)]=some ⟨[.sc (.int .u64 (Ahu k0 k1 l))],[]⟩:=by
 rw[AV]
 have w:wrap .i64 (Int.tdiv (l.length:Int) 8)=((l.length / 8:Nat):Int):=by
  rw[Int.tdiv_eq_ediv_of_nonneg (by omega),wrap_i64 (by omega) (by omega)]
  omega
 have lp:=GV (xs:=xs) (fu:=fu) (d:=d) (a0:=k0) (a1:=k1) (n:=l.length) (c:=Au .u8 l) hb hl D9 (l.length / 8) 0 fu (Agb k0 k1) (by omega) (by omega)
 simp only[Ie,w];exact lp
theorem Jr (v:W4):Ai (CX xs) prog fu (d+2) I7 [.agg [.sc (.int .u64 v.a),.sc (.int .u64 v.b),.sc (.int .u64 v.c),.sc (.int .u64 v.d)]]=some ⟨[.agg (X8 v).cells],[]⟩:=by
 have r13:=fun x=>WF (xs:=xs) (fu:=fu) (d:=d) (x:=x) (k:=13) (by simp)
 have r16:=fun x=>WF (xs:=xs) (fu:=fu) (d:=d) (x:=x) (k:=16) (by simp)
 have r17:=fun x=>WF (xs:=xs) (fu:=fu) (d:=d) (x:=x) (k:=17) (by simp)
 have r21:=fun x=>WF (xs:=xs) (fu:=fu) (d:=d) (x:=x) (k:=21) (by simp)
 have r32:=fun x=>WF (xs:=xs) (fu:=fu) (d:=d) (x:=x) (k:=32) (by simp)
 rw[Po];simp (disch:=omega) only[Ds,r13,r16,r17,r21,r32];rfl
def Nq (l:List Int)(i k:Nat):Int:=if i+k<l.length then l.getD (i+k) 0 else if k=7 then (l.length:Int) % 256 else 0
def pc (l:List Int)(i:Nat):List Int:=(List.range 8).map (Nq l i)
theorem Aqg {l:List Int}(hb:Sx l)(i:Nat):Sx (pc l i):=by
 intro x hx;obtain⟨k,hk,rfl⟩:=List.mem_map.1 hx;unfold Nq;split
 ·rename_i h;rw[List.getD_eq_getElem?_getD,List.getElem?_eq_getElem h];exact hb _ (List.getElem_mem h)
 ·split<;>omega
theorem YD {l:List Int}{i:Nat}(h:i+8<=l.length):pc l i=(l.drop i).take 8:=by
 refine List.ext_getElem (by simp[pc];omega) fun k h1 h2=>?_
 have hk:k<8:=by simpa [pc] using h1
 simp only[pc,List.getElem_map,List.getElem_range,List.getElem_take,List.getElem_drop,Nq];rw[Oj (by omega),List.getD_eq_getElem?_getD,List.getElem?_eq_getElem (by omega)]
 rfl
theorem Y9 (x:Int):∀n,Md (List.replicate n 0++[x])=256 ^ n*x
 |0=>by simp[Md]
 |n+1=>by
  rw[List.replicate_succ,List.cons_append,Md,Y9 x n,Int.pow_succ,Int.mul_comm (256 ^ n) 256,Int.mul_assoc];omega
theorem Aal {l:List Int}:Md (pc l (8*(l.length / 8)))=I9 l:=by
 have e:pc l (8*(l.length / 8))=l.drop (8*(l.length / 8))++(List.replicate (7-(l.length-8*(l.length / 8))) 0++[(l.length:Int) % 256]):=by
  refine List.ext_getElem (by simp[pc];omega) fun k h1 h2=>?_
  have hk:k<8:=by simpa [pc] using h1
  simp only[pc,List.getElem_map,List.getElem_range,Nq];by_cases hc:8*(l.length / 8)+k<l.length
  ·rw[Oj hc,List.getElem_append_left (by rw[List.length_drop];omega),List.getElem_drop,List.getD_eq_getElem?_getD,List.getElem?_eq_getElem hc]
   rfl
  ·rw[Om hc,List.getElem_append_right (by rw[List.length_drop];omega)]
   by_cases h7:k=7
   ·rw[Oj h7,List.getElem_append_right (by simp;omega)]
    simp
   ·rw[Om h7,List.getElem_append_left (by simp;omega)]
    simp
 rw[e,Qk,Y9];unfold I9
 have:(256:Int) ^ (l.drop (8*(l.length / 8))).length*(256 ^ (7-(l.length-8*(l.length / 8)))*((l.length:Int) % 256))=72057594037927936*((l.length:Int) % 256):=by
  rw[←Int.mul_assoc,←Int.pow_add,List.length_drop];have:l.length-8*(l.length / 8)+(7-(l.length-8*(l.length / 8)))=7:=by omega
  rw[this];rfl
 rw[this]
theorem Alt {a b:Int}(ha:0<=a)(RG:a<72057594037927936)(hb:0<=b)(Fs:b<=255):Sh .u64 (Fk .u64 a 8) b=b+256*a:=by
 obtain⟨n,rfl⟩:=Int.eq_ofNat_of_zero_le ha
 have hs:Fk .u64 (n:Int) 8=((n*2 ^ 8:Nat):Int):=by
  have:=NG (a:=(n:Int)) (k:=8) (by omega) (by omega) (by omega) (by
   have:(2 ^ (8:Int).toNat:Nat)=256:=by decide
   rw[this];omega)
  rw[this];have:(2 ^ (8:Int).toNat:Nat)=256:=by decide
  rw[this];have:(2 ^ 8:Nat)=256:=by decide
  rw[this];omega
 have h8:(2 ^ 8:Nat)=256:=by decide
 rw[hs,(AX (a:=b) 8 n hb (by rw[h8];omega) rfl (by rw[h8];omega)).2,h8]
 omega
theorem LR {a0 a1:Int}{n m0:Nat}{c:List PV}{l:List Int}(hb:Sx l)(hl:l.length<=1099511627776){i:Nat}(hi:i<=l.length)(v:W4):∀(j nn:Nat),j<=8->j<nn ->
  Cx fu (Ai (CX xs) prog fu (d+2)) a0 a1 n c m0 nn l.length (Au .u8 l) i (Md ((pc l i).drop j)) ((j:Int)-1) v.cells =
   De fu (Ai (CX xs) prog fu (d+2)) a0 a1 n c m0 l.length (Au .u8 l) ((i+8:Nat):Int) (Me v (Md (pc l i))).cells
 |_,0,_,h=>by omega
 |0,nn+1,hj,hn=>by
  have w8:wrap .i64 ((i:Int)+8)=((i+8:Nat):Int):=by rw[wrap_i64 (by omega) (by omega)];omega
  have r1:=Jr (xs:=xs) (fu:=fu) (d:=d) ⟨v.a,v.b,v.c,Ct .u64 v.d (Md (pc l i))⟩;have r2:=Jr (xs:=xs) (fu:=fu) (d:=d) (X8 ⟨v.a,v.b,v.c,Ct .u64 v.d (Md (pc l i))⟩);have eA:Me v (Md (pc l i))=Alp (X8 (X8 ⟨v.a,v.b,v.c,Ct .u64 v.d (Md (pc l i))⟩)) (Md (pc l i)):=rfl;rw[eA];generalize X8 ⟨v.a,v.b,v.c,Ct .u64 v.d (Md (pc l i))⟩=U at r1 r2 ⊢;generalize X8 U=U2 at r2 ⊢;simp only[W4.cells] at r1 r2;rw[Ir,Nd _ _ _ (by omega),Sy]
  simp only[W4.cells,List.getD_cons_zero,List.getD_cons_succ,BJ,Ie];simp (disch:=first|omega|(simp;done)) only[Ds,A4,List.take_succ_cons,List.take_zero,List.drop_succ_cons,Sy,List.drop_nil,List.cons_append,Zzq,List.append_nil,OW,List.length_nil,List.getD_cons_zero,List.getD_cons_succ,r1,r2,w8,Vq,Nat.reduceAdd,Nat.reduceLeDiff,List.append_eq]
  rfl
 |j+1,nn+1,hj,hn=>by
  have ih:=LR (a0:=a0) (a1:=a1) (n:=n) (m0:=m0) (c:=c) hb hl hi v j nn (by omega) (by omega)
  have hw:wrap .i64 ((i:Int)+(((j+1:Nat):Int)-1))=((i+j:Nat):Int):=by rw[wrap_i64 (by omega) (by omega)];omega
  have wj:wrap .i64 (((j+1:Nat):Int)-1-1)=(j:Int)-1:=by rw[wrap_i64 (by omega) (by omega)];omega
  have hd:(pc l i).drop j=Nq l i j::(pc l i).drop (j+1):=by
   rw[List.drop_eq_getElem_cons (by simp[pc];omega)]
   simp[pc]
  have hB:=Aqg hb i;have hbn:=Nc (hB.drop (j+1))
  have hp7:(256:Int) ^ ((pc l i).drop (j+1)).length<=72057594037927936:=by
   have Dc:((pc l i).drop (j+1)).length<=7:=by simp[pc]
   have:(256:Nat) ^ ((pc l i).drop (j+1)).length<=256 ^ 7:=Nat.pow_le_pow_right (by omega) Dc
   have h2:(((256:Nat) ^ ((pc l i).drop (j+1)).length:Nat):Int)<=((256 ^ 7:Nat):Int):=by omega
   simpa using h2
  have hc0:0<=Nq l i j∧Nq l i j<=255:=hB _ (by rw[←Sy (l:=pc l i)];exact List.mem_of_mem_drop (i:=j) (by rw[Sy,hd];simp))
  have hj2:Sh .u64 (Fk .u64 (Md ((pc l i).drop (j+1))) 8) (Nq l i j)=Md ((pc l i).drop j):=by
   rw[Alt hbn.1 (by omega) hc0.1 hc0.2,hd]
   rfl
  have wc:wrap .u64 (Nq l i j)=Nq l i j:=Ca (by omega) (by omega)
  rw[Ir,Qt _ _ _ (by omega)]
  simp only[Ie,hw];by_cases c1:i+j<l.length
  ·have e:Nq l i j=l.getD (i+j) 0:=by unfold Nq;rw[Oj c1]
   have e2:l[i+j]?=some (Nq l i j):=by rw[e,List.getD_eq_getElem?_getD,List.getElem?_eq_getElem c1];rfl
   rw[Qt _ _ _ (by omega)]
   simp (disch:=omega) only[Ds,AP,O6,ati e2,wc,hj2,wj];exact ih
  ·rw[Nd _ _ _ (by omega)]
   by_cases h7:j=7
   ·subst h7;have e:Nq l i 7=(l.length:Int) % 256:=by unfold Nq;rw[Om c1,Oj rfl]
    have e8:wrap .u8 (l.length:Int)=Nq l i 7:=by
     rw[e];simp only[wrap,IntKind.signed,IntKind.bits];simp
    rw[ME,Oj (by omega),e8,wc,hj2,wj]
    exact ih
   ·have e:Nq l i j=0:=by unfold Nq;rw[Om c1,Om h7]
    rw[e] at hj2;rw[ME,Om (by omega),hj2,wj]
    exact ih
theorem Zb {a0 a1:Int}{n:Nat}{c:List PV}{l:List Int}(hb:Sx l)(hl:l.length<=1099511627776)(D9:100<=fu):∀(k i nn:Nat)(v:W4),i+k=l.length / 8->k+1<nn ->
  De fu (Ai (CX xs) prog fu (d+2)) a0 a1 n c nn l.length (Au .u8 l) ((8*i:Nat):Int) v.cells=some ⟨[.sc (.int .u64 (PP (PQ (Me (Yw k v (l.drop (8*i))) (I9 l)))))],[]⟩
 |_,_,0,_,_,h=>by omega
 |k,i,nn+1,v,hi,hn=>by
  have step:=LR (xs:=xs) (fu:=fu) (d:=d) (a0:=a0) (a1:=a1) (n:=n) (m0:=nn) (c:=c) hb hl (i:=8*i) (by omega) v 8 fu (by omega) (by omega)
  have e0:Md ((pc l (8*i)).drop 8)=0:=by rw[List.drop_of_length_le (by simp[pc])];rfl
  rw[e0] at step;rw[In,Qt _ _ _ (by omega)]
  refine step.trans ?_;cases k with
  |zero=>
   have e:i=l.length / 8:=by omega
   subst e;rw[Aal];generalize hv:Me v (I9 l)=u;obtain⟨nn',rfl⟩:∃nn',nn=nn'+1:=⟨nn-1,by omega⟩
   have r1:=Jr (xs:=xs) (fu:=fu) (d:=d) ⟨u.a,u.b,Ct .u64 u.c 255,u.d⟩;have r2:=Jr (xs:=xs) (fu:=fu) (d:=d) (X8 ⟨u.a,u.b,Ct .u64 u.c 255,u.d⟩);have r3:=Jr (xs:=xs) (fu:=fu) (d:=d) (X8 (X8 ⟨u.a,u.b,Ct .u64 u.c 255,u.d⟩));have r4:=Jr (xs:=xs) (fu:=fu) (d:=d) (X8 (X8 (X8 ⟨u.a,u.b,Ct .u64 u.c 255,u.d⟩)))
   have eF:PP (PQ (Me (Yw 0 v (l.drop (8*(l.length / 8)))) (I9 l)))=PP (X8 (X8 (X8 (X8 ⟨u.a,u.b,Ct .u64 u.c 255,u.d⟩)))):=by
    rw[Yw,hv];rfl
   rw[eF];clear eF;generalize X8 ⟨u.a,u.b,Ct .u64 u.c 255,u.d⟩=U1 at r1 r2 r3 r4 ⊢;generalize X8 U1=U2 at r2 r3 r4 ⊢;generalize X8 U2=U3 at r3 r4 ⊢;generalize X8 U3=U4 at r4 ⊢;simp only[W4.cells] at r1 r2 r3 r4;rw[In,Nd _ _ _ (by omega)]
   simp only[W4.cells,List.getD_cons_zero,List.getD_cons_succ,BJ,Ie];simp (disch:=first|omega|(simp;done)) only[Ds,A4,List.take_succ_cons,List.take_zero,List.drop_succ_cons,Sy,List.drop_nil,List.cons_append,Zzq,List.append_nil,OW,List.length_nil,List.getD_cons_zero,List.getD_cons_succ,r1,r2,r3,r4,Vq,Nat.reduceAdd,Nat.reduceLeDiff,List.append_eq]
   rfl
  |succ k=>
   have ih:=Zb (a0:=a0) (a1:=a1) (n:=n) (c:=c) hb hl D9 k (i+1) nn (Me v (Md (pc l (8*i)))) (by omega) (by omega)
   rw[show 8*i+8=8*(i+1) by omega,ih,YD (by omega)]
   simp only[Yw,List.drop_drop];rw[show 8*(i+1)=8*i+8 by omega]
theorem Abr {l:List Int}(hb:Sx l)(hl:l.length<=1099511627776)(D9:100<=fu)(hf:l.length<fu)(k0 k1:Int):Ai (CX xs) prog fu (d+3) K0 [.sc (.int .u64 k0),.sc (.int .u64 k1),.lst false 1 l.length (Au .u8 l)]=some ⟨[.sc (.int .u64 (Ahu k0 k1 l))],[]⟩:=by
 rw[R6];exact Zb (xs:=xs) (fu:=fu) (d:=d) (a0:=k0) (a1:=k1) (n:=l.length) (c:=Au .u8 l) hb hl D9 (l.length / 8) 0 fu (Agb k0 k1) (by omega) (by omega)
theorem ZW {l:List Int}(hb:Sx l)(hl:l.length<=1099511627776)(D9:100<=fu)(hf:l.length<fu)(key dom:Int):Ai (CX xs) prog fu (d+4) La [.sc (.int .u64 key),.sc (.int .i64 dom),.lst false 1 l.length (Au .u8 l)]=some ⟨[.sc (.int .u64 (BV key dom l))],[]⟩:=by
 rw[Rc];have s:=Abr (xs:=xs) (fu:=fu) (d:=d) hb hl D9 hf key (wrap .u64 (1+wrap .u64 dom));simp only[Ds,s];rfl
end
end
section
open Go.Proofs.Try (prog)
open Go.IntKind (wrap)
def H2 (w:Int)(k:Nat):Int:=wrap .u8 (Te .u64 w (56-8*(k:Int)))
def E9 (w:Int):List Int:=(List.range' 0 8).map (H2 w)
def Bg (ws:List Int):List Int:=ws.flatMap E9
theorem Dn (w:Int):(E9 w).length=8:=rfl
section
variable {fu d:Nat} {xs:FuncId->Option (List PV->Option A7)} {call:Aj} {n:Nat} {c:List PV}
theorem GX {ws:List Int}{w:Int}{m0 l:Nat}{i k:Int}:∀(r j nn:Nat)(bs:List Int),8-j=r->r<nn->j<=8->bs.length+r<=34359738368 ->
  F4 fu call n c m0 nn bs.length w l (Au .u64 ws) k i j (Au .u8 bs) =
   Ew fu call n c m0 (bs++(List.range' j (8-j)).map (H2 w)).length l (Au .u64 ws) k (wrap .i64 (i+1)) (Au .u8 (bs++(List.range' j (8-j)).map (H2 w)))
 |r,j,0,bs,_,h,_,_=>by omega
 |0,j,nn+1,bs,hr,_,hj,_=>by
  have e:j=8:=by omega
  subst e;rw[K3];simp (disch:=omega) only[Ds];simp
 |r+1,j,nn+1,bs,hr,hn,hj,hb=>by
  have ih:=GX (ws:=ws) (w:=w) (m0:=m0) (l:=l) (i:=i) (k:=k) r (j+1) nn (bs++[H2 w j]) (by omega) (by omega) (by omega) (by simp;omega)
  have e8:=Bf .u8 bs;rw[K3]
  have hx:wrap .u8 (Te .u64 w (wrap .i64 (56-wrap .i64 (8*(j:Int)))))=H2 w j:=by
   rw[wrap_i64 (x:=8*(j:Int)) (by omega) (by omega),wrap_i64 (by omega) (by omega)]
   rfl
  have h0:0<=wrap .i64 (56-wrap .i64 (8*(j:Int))):=by
   rw[wrap_i64 (x:=8*(j:Int)) (by omega) (by omega),wrap_i64 (by omega) (by omega)]
   omega
  have IJ:List.range' j (8-j)=j::List.range' (j+1) (8-(j+1)):=by
   rw[show 8-j=(8-(j+1))+1 by omega]
   exact List.range'_succ
  simp (disch:=first|omega|exact h0) only[Ds,O6,hx,ZZ,FT,wrap_i64 (x:=(j:Int)+1)];rw[IJ];simp only[UE,OW,List.length_nil,Vq,OK,List.map_cons,List.singleton_append] at ih ⊢;exact ih
theorem Xm {ws:List Int}(hl:ws.length<=1073741824)(D9:100<=fu):∀(r:List Int)(i nn:Nat)(bs:List Int),ws.drop i=r->r.length<nn->bs.length=8*i ->
  Ew fu call n c nn bs.length ws.length (Au .u64 ws) ws.length i (Au .u8 bs)=some ⟨[.own 1 (bs++Bg r).length (Au .u8 (bs++Bg r))],[]⟩
 |r,i,0,_,_,h,_=>by omega
 |[],i,nn+1,bs,h,_,_=>by
  have:=drop_nil h;have e8:=Bf .u8 bs;rw[Ky];simp (disch:=omega) only[Ds,O6,ZZ,Bg,List.flatMap_nil,List.append_nil]
 |w::r,i,nn+1,bs,h,hn,hb=>by
  obtain⟨h1,h2,h3⟩:=Fj h;simp only[OW] at hn;rw[Ky];simp (disch:=omega) only[Ds,AP,O6,ati h2];rw[show (0:Int)=((0:Nat):Int) from rfl,GX 8 0 fu bs rfl (by omega) (by omega) (by omega),wrap_i64 (by omega) (by omega)]
  have ih:=Xm hl D9 r (i+1) nn (bs++E9 w) h3 (by omega) (by simp[Dn];omega)
  have e:bs++E9 w++Bg r=bs++Bg (w::r):=by simp[Bg]
  rw[e] at ih;exact ih
theorem GK {ws:List Int}(hl:ws.length<=1073741824)(D9:100<=fu)(hf:ws.length<fu):Ai (CX xs) prog fu (d+1) G4 [.lst false 1 ws.length (Au .u64 ws)]=some ⟨[.own 1 (Bg ws).length (Au .u8 (Bg ws))],[]⟩:=by
 rw[Xv];simp (disch:=omega) only[Ds,wrap_i64,Int.mul_one];exact Xm hl D9 ws 0 fu [] rfl hf rfl
theorem Z7 {ws:List Int}{w:Int}{m0 i:Nat}(hw:ws[i]?=some w):∀(r nn:Nat)(j:Int)(bs:List Int),j=(r:Int)-1->r<=8->r<nn->bs.length+r<=34359738368 ->
  Du fu call n c m0 nn ws.length (Au .u64 ws) bs.length i j (Au .u8 bs) =
   C6 fu call n c m0 ws.length (Au .u64 ws) (bs++(List.range' (8-r) r).map (H2 w)).length (wrap .i64 (i+1)) (Au .u8 (bs++(List.range' (8-r) r).map (H2 w)))
 |r,0,j,bs,_,_,h,_=>by omega
 |0,nn+1,j,bs,hr,_,_,_=>by
  rw[G7];simp (disch:=omega) only[Ds];simp
 |r+1,nn+1,j,bs,hr,Sv,hn,hb=>by
  have hi:=Lh hw;have ih:=Z7 (m0:=m0) hw r nn (j-1) (bs++[H2 w (8-(r+1))]) (by omega) (by omega) (by omega) (by simp;omega)
  have e8:=Bf .u8 bs
  have hx:wrap .u8 (Te .u64 w (wrap .u64 (wrap .i64 (8*j))))=H2 w (8-(r+1)):=by
   rw[wrap_i64 (by omega) (by omega),Ca (by omega) (by omega)]
   unfold H2;rw[show 56-8*((8-(r+1):Nat):Int)=8*j by omega]
  have h0:0<=wrap .u64 (wrap .i64 (8*j)):=by
   rw[wrap_i64 (by omega) (by omega),Ca (by omega) (by omega)]
   omega
  have IJ:List.range' (8-(r+1)) (r+1)=(8-(r+1))::List.range' (8-r) r:=by
   rw[List.range'_succ,show 8-(r+1)+1=8-r by omega]
  rw[G7];simp (disch:=first|omega|exact h0) only[Ds,AP,O6,ati hw,hx,ZZ,FT,wrap_i64 (x:=j-1)];rw[IJ];simp only[UE,OW,List.length_nil,Vq,OK,List.map_cons,List.singleton_append] at ih ⊢;exact ih
theorem Um {ws:List Int}(hl:ws.length<=1073741824)(D9:100<=fu):∀(r:List Int)(i nn:Nat)(bs:List Int),ws.drop i=r->r.length<nn->bs.length=8*i ->
  C6 fu call n c nn ws.length (Au .u64 ws) bs.length i (Au .u8 bs)=some ⟨[.own 1 (bs++Bg r).length (Au .u8 (bs++Bg r))],[]⟩
 |r,i,0,_,_,h,_=>by omega
 |[],i,nn+1,bs,h,_,_=>by
  have:=drop_nil h;have e8:=Bf .u8 bs;rw[Gw];simp (disch:=omega) only[Ds,O6,ZZ,Bg,List.flatMap_nil,List.append_nil]
 |w::r,i,nn+1,bs,h,hn,hb=>by
  obtain⟨h1,h2,h3⟩:=Fj h;simp only[OW] at hn;rw[Gw];simp (disch:=omega) only[Ds];rw[Z7 h2 8 fu 7 bs rfl (by omega) (by omega) (by omega),wrap_i64 (by omega) (by omega)]
  have ih:=Um hl D9 r (i+1) nn (bs++E9 w) h3 (by omega) (by simp[Dn];omega)
  have e:bs++E9 w++Bg r=bs++Bg (w::r):=by simp[Bg]
  rw[e] at ih;exact ih
theorem Zd {ws:List Int}(hl:ws.length<=1073741824)(D9:100<=fu)(hf:ws.length<fu):Ai (CX xs) prog fu (d+1) Ea [.lst false 1 ws.length (Au .u64 ws)]=some ⟨[.own 1 (Bg ws).length (Au .u8 (Bg ws))],[]⟩:=by
 rw[Pp];exact Um hl D9 ws 0 fu [] rfl hf rfl
end
end
section
open Go.IntKind (wrap)
theorem WY (w:Int)(k:Nat):0<=H2 w k∧H2 w k<=255:=by
 unfold H2;simp only[wrap,IntKind.signed,IntKind.bits];simp;omega
theorem NI (w:Int):Sx (E9 w):=by
 intro x hx;obtain⟨k,_,rfl⟩:=List.mem_map.1 hx;exact WY w k
theorem EG (ws:List Int):Sx (Bg ws):=by
 intro x hx;obtain⟨w,_,hx⟩:=List.mem_flatMap.1 hx;exact NI w x hx
theorem Mm (ws:List Int):(Bg ws).length=8*ws.length:=by
 induction ws with
 |nil=>rfl
 |cons w ws ih=>
  show (E9 w++Bg ws).length=_;rw[UE,ih,Dn,OW];omega
end
section
open Go.IntKind (wrap)
def Xf:PV->Bool
 |.sc (.int .i64 _)=>true
 |_=>false
def UG (args:List PV):Option A7:=
 match args with
 |[.own 2 n c,.sc (.int .i64 i),.tup [.own 2 1 [.sc (.int .i64 f),.sc (.int .i64 l)]]]=>
  bif Nat.beq c.length (n*2)&&decide (0<=i)&&decide (i<=n)&&Nat.ble n 100000&&c.all Xf then
   some ⟨[.own 2 (n+1) (c.take (i.toNat*2)++(.sc (.int .i64 f) :: .sc (.int .i64 l)::c.drop (i.toNat*2)))],[[.sc (.int .i64 f),.sc (.int .i64 l)]]⟩
  else none
 |_=>none
def Gl (f:FuncId):Option (List PV->Option A7):=
 bif Nat.beq f 44 then some Oe else
 bif Nat.beq f 45 then some UG else
 bif Nat.beq f 1000000 then some (fun _=>none) else none
abbrev C0:Fd:=CX Gl
end
section
open Go.Proofs.Try (prog)
open Go.IntKind (wrap)
set_option maxRecDepth 100000
abbrev P8:FuncId:=40
theorem Yl {xs:FuncId->Option (List PV->Option A7)} (fu d Bv:Nat)(a0:List PV):Ai (CX xs) prog fu (d+1) P8 [.lst false 1 Bv a0]=(fun (call:Aj)=>Bu (decide (0<Bv)) (Ar (decide (a0.length=Bv*1)&&decide ((0+Bv)*1<=1099511627776)&&decide (0+Bv<=1099511627776))<|Ab (0+Bv) fun x1=>Ab ([]++a0) fun x2=>Ar (decide (x1*1<=x2.length))<|some (A7.mk [.own 1 x1 (List.take (x1*1) x2)] [])) (Uy (some (A7.mk [.own 1 0 []] [])) (Ar (decide (a0.length=Bv*1)&&decide ((0+Bv)*1<=1099511627776)&&decide (0+Bv<=1099511627776))<|Ab (0+Bv) fun x3=>Ab ([]++a0) fun x4=>Ar (decide (x3*1<=x4.length))<|some (A7.mk [.own 1 x3 (List.take (x3*1) x4)] [])))) (Ai (CX xs) prog fu d):=by kernel_rfl
abbrev Ii:FuncId:=57
theorem Oc {xs:FuncId->Option (List PV->Option A7)} (fu d Bv:Nat)(a0:List PV):Ai (CX xs) prog fu (d+1) Ii [.lst false 2 Bv a0]=(fun (call:Aj)=>Bu (decide (0<Bv)) (Ar (decide (a0.length=Bv*2)&&decide ((0+Bv)*16<=1099511627776)&&decide (0+Bv<=1099511627776))<|Ab (0+Bv) fun x1=>Ab ([]++a0) fun x2=>Ar (decide (x1*2<=x2.length))<|some (A7.mk [.own 2 x1 (List.take (x1*2) x2)] [])) (Uy (some (A7.mk [.own 2 0 []] [])) (Ar (decide (a0.length=Bv*2)&&decide ((0+Bv)*16<=1099511627776)&&decide (0+Bv<=1099511627776))<|Ab (0+Bv) fun x3=>Ab ([]++a0) fun x4=>Ar (decide (x3*2<=x4.length))<|some (A7.mk [.own 2 x3 (List.take (x3*2) x4)] [])))) (Ai (CX xs) prog fu d):=by kernel_rfl
abbrev Ij:FuncId:=39
theorem Of {xs:FuncId->Option (List PV->Option A7)} (fu d Bm:Nat)(B5:List PV)(B2 Co:Int)(Cm Dz:Int)(D0:Bool)(Dy:Int)(B9:Nat)(D1:List PV)(D4:Bool)(D2 B8:Int):Ai (CX xs) prog fu (d+1) Ij [.agg [.lst false 1 Bm B5,.sc (.int .i64 B2),.sc (.int .u64 Co),.sc (.int .u64 Cm),.sc (.int .i64 Dz),.sc (.bool D0),.sc (.int .u64 Dy),.lst false 2 B9 D1,.sc (.bool D4),.sc (.int .i64 D2),.sc (.int .i64 B8)]]=(fun (call:Aj)=>Ao (call 40 [.lst false 1 Bm B5]) fun x1 x2=>Af x2<|Aa x1 fun x3 x4=>Ov 1 x3 fun x5 x6=>Af x4<|Ao (call 57 [.lst false 2 B9 D1]) fun x7 x8=>Af x8<|Aa x7 fun x9 Lj=>Ov 2 x9 fun Kg Ji=>Af Lj<|Ar (decide (x5*1<=x6.length))<|Ar (decide (Kg*2<=Ji.length))<|some (A7.mk [.agg [.own 1 x5 (List.take (x5*1) x6),.sc (.int .i64 B2),.sc (.int .u64 Co),.sc (.int .u64 Cm),.sc (.int .i64 Dz),.sc (.bool D0),.sc (.int .u64 Dy),.own 2 Kg (List.take (Kg*2) Ji),.sc (.bool D4),.sc (.int .i64 D2),.sc (.int .i64 B8)]] [])) (Ai (CX xs) prog fu d):=by kernel_rfl
abbrev Mw:FuncId:=38
noncomputable def Gj (fu:Nat)(call:Aj)(Bv:Nat)(a0:List PV)(nn y0 y1:Nat)(y2:List PV)(y3 y4:Int)(y5:List PV):Option A7:=C5 CB prog fu call 38 Try.f38 (Bz Try.f38) [.lst false 3 Bv a0] [.r,.r,.l,.r,.l] nn ⟨lk [(3,(.view 3 3 0 y0)),(13,(.lst false 3 y1 y2)),(14,(.sc (.int .i64 y3))),(15,(.sc (.int .i64 y4)))],Fo [(3,(.ar false y5))]⟩
noncomputable def Mg (fu:Nat)(call:Aj)(Bv:Nat)(a0:List PV)(m0 nn:Nat)(y0 y1 y2:Nat)(y3:List PV)(y4 y5:Int)(y6:Nat)(y7:List PV)(y8 y9:Int)(Dq:List PV)(D6 Cy:ByteArray)(D8:Nat)(Eh Fh:List PV):Option A7:=C5 CB prog fu call 38 Try.f38 (Bz Try.f38) [.lst false 3 Bv a0] [.r,.r,.l,.r,.l,.i m0,.r,.r,.l,.l,.r,.r,.l,.r,.l] nn ⟨lk [(3,(.view 3 3 0 y0)),(5,(.ptr 5 0)),(6,(.view 6 11 0 y1)),(13,(.lst false 3 y2 y3)),(14,(.sc (.int .i64 y4))),(15,(.sc (.int .i64 y5))),(25,(.lst false 11 y6 y7)),(26,(.sc (.int .i64 y8))),(27,(.sc (.int .i64 y9)))],Fo [(3,(.ar false Dq)),(5,(.st [(.sc (.string D6)),(.sc (.string Cy)),(.lst false 11 D8 Eh)])),(6,(.ar false Fh))]⟩
theorem Kp (fu:Nat)(call:Aj)(Bv:Nat)(a0:List PV)(nn y0 y1:Nat)(y2:List PV)(y3 y4:Int)(y5:List PV):Gj fu call Bv a0 (nn+1) y0 y1 y2 y3 y4 y5=(Bu (decide (y4<y3)) (Ar (decide (0<=y4)&&decide (y4<(↑y1:Int)))<|Fx (List.getD y2 (Int.toNat y4*3) .top) fun x2=>Fx (List.getD y2 (Int.toNat y4*3+1) .top) fun x3=>Eu 11 (List.getD y2 (Int.toNat y4*3+1+1) .top) fun x4 x5 x6=>Ab (wrap .i64 ((↑x5:Int)+1)) fun x7=>Ar (decide (0<=x7)&&decide (x7*120<=1099511627776)&&decide (x7<=1099511627776))<|Mg fu call Bv a0 nn (fu) (y0) 0 (y1) (y2) (y3) (y4) x5 x6 ((↑x5:Int)) 0 (y5) x2 x3 x5 x6 ([])) (Ar (decide (y0*3<=y5.length))<|some (A7.mk [.own 3 y0 (List.take (y0*3) y5)] []))):=by kernel_rfl
theorem Mu {xs:FuncId->Option (List PV->Option A7)} (fu d Bv:Nat)(a0:List PV):Ai (CX xs) prog fu (d+1) Mw [.lst false 3 Bv a0]=(fun (call:Aj)=>Ab (wrap .i64 ((↑Bv:Int)+1)) fun x1=>Ar (decide (0<=x1)&&decide (x1*56<=1099511627776)&&decide (x1<=1099511627776))<|Gj fu call Bv a0 (fu) 0 (Bv) (a0) ((↑Bv:Int)) 0 ([])) (Ai (CX xs) prog fu d):=by kernel_rfl
abbrev Nw:FuncId:=18
noncomputable def F6 (fu:Nat)(call:Aj)(Bv:Nat)(a0:List PV)(a1:ByteArray)(nn:Nat)(y0:ByteArray)(y1:Nat)(y2:List PV)(y3 y4:Int):Option A7:=C5 CB prog fu call 18 Try.f18 (Bz Try.f18) [.lst false 3 Bv a0,.sc (.string a1)] [.r,.l,.r,.l] nn ⟨lk [(1,(.sc (.string y0))),(8,(.lst false 3 y1 y2)),(9,(.sc (.int .i64 y3))),(10,(.sc (.int .i64 y4)))],Fo []⟩
theorem K2 (fu:Nat)(call:Aj)(Bv:Nat)(a0:List PV)(a1:ByteArray)(nn:Nat)(y0:ByteArray)(y1:Nat)(y2:List PV)(y3 y4:Int):F6 fu call Bv a0 a1 (nn+1) y0 y1 y2 y3 y4=(Bu (decide (y4<y3)) (Ar (decide (0<=y4)&&decide (y4<(↑y1:Int)))<|Fx (List.getD y2 (Int.toNat y4*3) .top) fun x1=>Fx (List.getD y2 (Int.toNat y4*3+1) .top) fun x2=>Eu 11 (List.getD y2 (Int.toNat y4*3+1+1) .top) fun x3 x4 x5=>Bu (Array.toList (ByteArray.data x1)==Array.toList (ByteArray.data y0)) (some (A7.mk [.sc (.int .i64 y4),.sc (.bool true)] [])) (Ab (wrap .i64 (y4+1)) fun x6=>F6 fu call Bv a0 a1 (nn) (y0) (y1) (y2) (y3) x6)) (some (A7.mk [.sc (.int .i64 0),.sc (.bool false)] []))):=by kernel_rfl
theorem Wz {xs:FuncId->Option (List PV->Option A7)} (fu d Bv:Nat)(a0:List PV)(a1:ByteArray):Ai (CX xs) prog fu (d+1) Nw [.lst false 3 Bv a0,.sc (.string a1)]=(fun (call:Aj)=>F6 fu call Bv a0 a1 (fu) (a1) (Bv) (a0) ((↑Bv:Int)) 0) (Ai (CX xs) prog fu d):=by kernel_rfl
abbrev Vh:FuncId:=35
noncomputable def Hr (fu:Nat)(call:Aj)(Bv:Nat)(a0:List PV)(DK:Nat)(a1:List PV)(nn y0:Nat)(y1:List PV)(y2:Nat)(y3:List PV)(y4 y5:Int):Option A7:=C5 CB prog fu call 35 Try.f35 (Bz Try.f35) [.lst false 3 Bv a0,.lst false 1 DK a1] [.r,.l,.r,.l] nn ⟨lk [(1,(.lst false 1 y0 y1)),(11,(.lst false 3 y2 y3)),(12,(.sc (.int .i64 y4))),(13,(.sc (.int .i64 y5)))],Fo []⟩
theorem Q2 (fu:Nat)(call:Aj)(Bv:Nat)(a0:List PV)(DK:Nat)(a1:List PV)(nn y0:Nat)(y1:List PV)(y2:Nat)(y3:List PV)(y4 y5:Int):Hr fu call Bv a0 DK a1 (nn+1) y0 y1 y2 y3 y4 y5=(Bu (decide (y5<y4)) (Ar (decide (0<=y5)&&decide (y5<(↑y2:Int)))<|Fx (List.getD y3 (Int.toNat y5*3) .top) fun x1=>Fx (List.getD y3 (Int.toNat y5*3+1) .top) fun x2=>Eu 11 (List.getD y3 (Int.toNat y5*3+1+1) .top) fun x3 x4 x5=>Ao (call 55 [.agg [.sc (.string x1),.sc (.string x2),.lst false 11 x4 x5],.lst false 1 y0 y1]) fun x6 x7=>Af x7<|Aa x6 fun x8 x9=>Ad .i64 x8 fun Lj=>Aa x9 fun Kg Ji=>A0 Kg fun Ph=>Af Ji<|Bu Ph (some (A7.mk [.sc (.int .i64 y5),.sc (.int .i64 Lj),.sc (.bool true)] [])) (Ab (wrap .i64 (y5+1)) fun Mj=>Hr fu call Bv a0 DK a1 (nn) (y0) (y1) (y2) (y3) (y4) Mj)) (some (A7.mk [.sc (.int .i64 0),.sc (.int .i64 0),.sc (.bool false)] []))):=by kernel_rfl
theorem Vj {xs:FuncId->Option (List PV->Option A7)} (fu d Bv:Nat)(a0:List PV)(DK:Nat)(a1:List PV):Ai (CX xs) prog fu (d+1) Vh [.lst false 3 Bv a0,.lst false 1 DK a1]=(fun (call:Aj)=>Hr fu call Bv a0 DK a1 (fu) (DK) (a1) (Bv) (a0) ((↑Bv:Int)) 0) (Ai (CX xs) prog fu d):=by kernel_rfl
end
section
open Go.Proofs.Try (prog)
open Go.IntKind (wrap)
set_option maxRecDepth 100000
abbrev Cg:FuncId:=70
noncomputable def Az (fu:Nat)(call:Aj)(n:Nat)(c:List PV)(a1 a2:Int)(nn y0:Nat)(y1 y2 y3:Int)(y4:List PV):Option A7:=C5 CB prog fu call 70 Try.f70 (Bz Try.f70) [PV.tup [.own 1 n c],.sc (.int .i64 a1),.sc (.int .i64 a2),.sc (Value.func (Fn.func (44:FuncId)) #[] #[])] [.r,.l] nn ⟨lk [(0,(.view 106000 1 0 y0)),(1,(.sc (.int .i64 y1))),(2,(.sc (.int .i64 y2))),(3,(.sc (Value.func (Fn.func (44:FuncId)) #[] #[]))),(8,(.sc (.int .i64 y3)))],Fo [(106000,(.ar false y4))]⟩
noncomputable def Bj (fu:Nat)(call:Aj)(n:Nat)(c:List PV)(a1 a2:Int)(m0 nn y0:Nat)(y1 y2:Int)(y3 y4:Int)(y5:List PV):Option A7:=C5 CB prog fu call 70 Try.f70 (Bz Try.f70) [PV.tup [.own 1 n c],.sc (.int .i64 a1),.sc (.int .i64 a2),.sc (Value.func (Fn.func (44:FuncId)) #[] #[])] [.r,.l,.i m0,.r,.l,.l,.r,.l] nn ⟨lk [(0,(.view 106000 1 0 y0)),(1,(.sc (.int .i64 y1))),(2,(.sc (.int .i64 y2))),(3,(.sc (Value.func (Fn.func (44:FuncId)) #[] #[]))),(8,(.sc (.int .i64 y3))),(9,(.sc (.int .i64 y4)))],Fo [(106000,(.ar false y5))]⟩
theorem C8 (fu:Nat)(call:Aj)(n:Nat)(c:List PV)(a1 a2:Int)(nn y0:Nat)(y1 y2 y3:Int)(y4:List PV):Az fu call n c a1 a2 (nn+1) y0 y1 y2 y3 y4=(Bu (decide (y3<y2)) (Bj fu call n c a1 a2 nn (fu) (y0) (y1) (y2) (y3) (y3) (y4)) (some (A7.mk [] [y4]))):=by kernel_rfl
theorem C7 (fu:Nat)(call:Aj)(n:Nat)(c:List PV)(a1 a2:Int)(m0 nn y0:Nat)(y1 y2:Int)(y3 y4:Int)(y5:List PV):Bj fu call n c a1 a2 m0 (nn+1) y0 y1 y2 y3 y4 y5=(Bu (decide (y4>y1)) (Ar (decide (0<=y4)&&decide (y4<(↑y0:Int)))<|Eu 1 (List.getD y5 (0+Int.toNat y4*1) .top) fun x2 x3 x4=>Ab (wrap .i64 (y4-1)) fun x5=>Ar (decide (0<=x5)&&decide (x5<(↑y0:Int)))<|Eu 1 (List.getD y5 (0+Int.toNat x5*1) .top) fun x6 x7 x8=>Ao (call (44:FuncId) [.lst false 1 x3 x4,.lst false 1 x7 x8]) fun x9 Lj=>Af Lj<|Aa x9 fun Kg Ji=>Ad .i64 Kg fun Ph=>Af Ji<|Bu (decide (Ph<0)) (Ab (wrap .i64 (y4-1)) fun Mj=>Ab (wrap .i64 (y4-1)) fun Ns=>Ar (decide (0<=Ns)&&decide (Ns<(↑y0:Int)))<|Eu 1 (List.getD y5 (0+Int.toNat Ns*1) .top) fun Qm Sw Pe=>Ar (decide (0<=y4)&&decide (y4<(↑y0:Int)))<|Eu 1 (List.getD y5 (0+Int.toNat y4*1) .top) fun Iu Pi Qz=>Ar (decide (0<=y4)&&decide (y4<(↑y0:Int)))<|Ar (decide (0+Int.toNat y4*1+1<=y5.length))<|Ab (A4 y5 [.lst false 1 Sw Pe] (0+Int.toNat y4*1)) fun Sr=>Ar (decide (0<=Mj)&&decide (Mj<(↑y0:Int)))<|Ar (decide (0+Int.toNat Mj*1+1<=Sr.length))<|Ab (A4 Sr [.lst false 1 Pi Qz] (0+Int.toNat Mj*1)) fun Q7=>Ab (wrap .i64 (y4-1)) fun Iy=>Bj fu call n c a1 a2 m0 (nn) (y0) (y1) (y2) (y3) Iy Q7) (Ab (wrap .i64 (y3+1)) fun T8=>Az fu call n c a1 a2 (m0) (y0) (y1) (y2) T8 (y5))) (Ab (wrap .i64 (y3+1)) fun Uo=>Az fu call n c a1 a2 (m0) (y0) (y1) (y2) Uo (y5))):=by kernel_rfl
theorem F7 (fu d n:Nat)(c:List PV)(a1 a2:Int):Ai C0 prog fu (d+1) Cg [PV.tup [.own 1 n c],.sc (.int .i64 a1),.sc (.int .i64 a2),.sc (Value.func (Fn.func (44:FuncId)) #[] #[])]=(fun (call:Aj)=>Ab (wrap .i64 (a1+1)) fun x1=>Az fu call n c a1 a2 (fu) (n) (a1) (a2) x1 (c)) (Ai C0 prog fu d):=by kernel_rfl
abbrev Ey:FuncId:=60
noncomputable def Ei (fu:Nat)(call:Aj)(n:Nat)(c:List PV)(a1 a2 a3:Int)(nn y0:Nat)(y1 y2 y3:Int)(y4 y5:Bool)(y6:List PV):Option A7:=C5 CB prog fu call 60 Try.f60 (Bz Try.f60) [PV.tup [.own 1 n c],.sc (.int .i64 a1),.sc (.int .i64 a2),.sc (.int .i64 a3),.sc (Value.func (Fn.func (44:FuncId)) #[] #[])] [.r,.r,.l] nn ⟨lk [(0,(.view 296000 1 0 y0)),(1,(.sc (.int .i64 y1))),(2,(.sc (.int .i64 y2))),(3,(.sc (.int .i64 y3))),(4,(.sc (Value.func (Fn.func (44:FuncId)) #[] #[]))),(10,(.sc (.bool y4))),(11,(.sc (.bool y5)))],Fo [(296000,(.ar false y6))]⟩
noncomputable def Am (fu:Nat)(call:Aj)(n:Nat)(c:List PV)(a1 a2 a3:Int)(m0 nn y0:Nat)(y1 y2 y3:Int)(y4 y5:Bool)(y6 y7:Int)(y8:List PV):Option A7:=C5 CB prog fu call 60 Try.f60 (Bz Try.f60) [PV.tup [.own 1 n c],.sc (.int .i64 a1),.sc (.int .i64 a2),.sc (.int .i64 a3),.sc (Value.func (Fn.func (44:FuncId)) #[] #[])] [.r,.r,.l,.i m0,.l,.r,.r,.r,.r,.r,.r] nn ⟨lk [(0,(.view 296000 1 0 y0)),(1,(.sc (.int .i64 y1))),(2,(.sc (.int .i64 y2))),(3,(.sc (.int .i64 y3))),(4,(.sc (Value.func (Fn.func (44:FuncId)) #[] #[]))),(10,(.sc (.bool y4))),(11,(.sc (.bool y5))),(12,(.sc (.int .i64 y6))),(13,(.sc (.int .i64 y7)))],Fo [(296000,(.ar false y8))]⟩
theorem Hb (fu:Nat)(call:Aj)(n:Nat)(c:List PV)(a1 a2 a3:Int)(nn y0:Nat)(y1 y2 y3:Int)(y4 y5:Bool)(y6:List PV):Ei fu call n c a1 a2 a3 (nn+1) y0 y1 y2 y3 y4 y5 y6=(Ab (wrap .i64 (y2-y1)) fun x1=>Bu (decide (x1<=12)) (Ao (call 70 [PV.tup [.own 1 y0 y6],.sc (.int .i64 y1),.sc (.int .i64 y2),.sc (Value.func (Fn.func (44:FuncId)) #[] #[])]) fun x2 x3=>Af x2<|Aa x3 fun x4 x5=>Af x5<|some (A7.mk [] [x4])) (Bu (y3==0) (Ao (call 71 [PV.tup [.own 1 y0 y6],.sc (.int .i64 y1),.sc (.int .i64 y2),.sc (Value.func (Fn.func (44:FuncId)) #[] #[])]) fun x6 x7=>Af x6<|Aa x7 fun x8 x9=>Af x9<|some (A7.mk [] [x8])) (Bu (!y4) (Ao (call 72 [PV.tup [.own 1 y0 y6],.sc (.int .i64 y1),.sc (.int .i64 y2),.sc (Value.func (Fn.func (44:FuncId)) #[] #[])]) fun Lj Kg=>Af Lj<|Aa Kg fun Ji Ph=>Af Ph<|Ab (wrap .i64 (y3-1)) fun Mj=>Ao (call 73 [PV.tup [.own 1 y0 Ji],.sc (.int .i64 y1),.sc (.int .i64 y2),.sc (Value.func (Fn.func (44:FuncId)) #[] #[])]) fun Ns Qm=>Aa Ns fun Sw Pe=>Ad .i64 Sw fun Iu=>Aa Pe fun Pi Qz=>Ad .i64 Pi fun Sr=>Af Qz<|Aa Qm fun Q7 Iy=>Af Iy<|Bu (Sr==2) (Ao (call 74 [PV.tup [.own 1 y0 Q7],.sc (.int .i64 y1),.sc (.int .i64 y2),.sc (Value.func (Fn.func (44:FuncId)) #[] #[])]) fun T8 Uo=>Af T8<|Aa Uo fun Qn Z3=>Af Z3<|Ab (wrap .i64 (y2-1)) fun CK=>Ab (wrap .i64 (Iu-y1)) fun Nt=>Ab (wrap .i64 (CK-Nt)) fun P7=>Bu (y4) (Bu (y5) (Ao (call 75 [PV.tup [.own 1 y0 Qn],.sc (.int .i64 y1),.sc (.int .i64 y2),.sc (Value.func (Fn.func (44:FuncId)) #[] #[])]) fun Ya Vr=>Aa Ya fun Tl Wo=>A0 Tl fun Xw=>Af Wo<|Aa Vr fun Su Yu=>Af Yu<|Bu Xw (some (A7.mk [] [Su])) (Am fu call n c a1 a2 a3 nn (fu) (y0) (y1) (y2) Mj (y4) (y5) x1 P7 Su)) (Am fu call n c a1 a2 a3 nn (fu) (y0) (y1) (y2) Mj (y4) (y5) x1 P7 Qn)) (Am fu call n c a1 a2 a3 nn (fu) (y0) (y1) (y2) Mj (y4) (y5) x1 P7 Qn)) (Bu (y4) (Bu (y5) (Bu (Sr==1) (Ao (call 75 [PV.tup [.own 1 y0 Q7],.sc (.int .i64 y1),.sc (.int .i64 y2),.sc (Value.func (Fn.func (44:FuncId)) #[] #[])]) fun DA Zu=>Aa DA fun KW HJ=>A0 KW fun MT=>Af HJ<|Aa Zu fun EK HW=>Af HW<|Bu MT (some (A7.mk [] [EK])) (Am fu call n c a1 a2 a3 nn (fu) (y0) (y1) (y2) Mj (y4) (y5) x1 Iu EK)) (Am fu call n c a1 a2 a3 nn (fu) (y0) (y1) (y2) Mj (y4) (y5) x1 Iu Q7)) (Am fu call n c a1 a2 a3 nn (fu) (y0) (y1) (y2) Mj (y4) (y5) x1 Iu Q7)) (Am fu call n c a1 a2 a3 nn (fu) (y0) (y1) (y2) Mj (y4) (y5) x1 Iu Q7))) (Ao (call 73 [PV.tup [.own 1 y0 y6],.sc (.int .i64 y1),.sc (.int .i64 y2),.sc (Value.func (Fn.func (44:FuncId)) #[] #[])]) fun KU JK=>Aa KU fun HR IB=>Ad .i64 HR fun Ys=>Aa IB fun FM LU=>Ad .i64 FM fun HS=>Af LU<|Aa JK fun Wc HN=>Af HN<|Bu (HS==2) (Ao (call 74 [PV.tup [.own 1 y0 Wc],.sc (.int .i64 y1),.sc (.int .i64 y2),.sc (Value.func (Fn.func (44:FuncId)) #[] #[])]) fun KQ HK=>Af KQ<|Aa HK fun EX IR=>Af IR<|Ab (wrap .i64 (y2-1)) fun DL=>Ab (wrap .i64 (Ys-y1)) fun Zj=>Ab (wrap .i64 (DL-Zj)) fun DE=>Bu (y4) (Bu (y5) (Ao (call 75 [PV.tup [.own 1 y0 EX],.sc (.int .i64 y1),.sc (.int .i64 y2),.sc (Value.func (Fn.func (44:FuncId)) #[] #[])]) fun OS NS=>Aa OS fun MI RI=>A0 MI fun LO=>Af RI<|Aa NS fun HL QX=>Af QX<|Bu LO (some (A7.mk [] [HL])) (Am fu call n c a1 a2 a3 nn (fu) (y0) (y1) (y2) (y3) (y4) (y5) x1 DE HL)) (Am fu call n c a1 a2 a3 nn (fu) (y0) (y1) (y2) (y3) (y4) (y5) x1 DE EX)) (Am fu call n c a1 a2 a3 nn (fu) (y0) (y1) (y2) (y3) (y4) (y5) x1 DE EX)) (Bu (y4) (Bu (y5) (Bu (HS==1) (Ao (call 75 [PV.tup [.own 1 y0 Wc],.sc (.int .i64 y1),.sc (.int .i64 y2),.sc (Value.func (Fn.func (44:FuncId)) #[] #[])]) fun OI JE=>Aa OI fun OP UJ=>A0 OP fun HV=>Af UJ<|Aa JE fun JO RU=>Af RU<|Bu HV (some (A7.mk [] [JO])) (Am fu call n c a1 a2 a3 nn (fu) (y0) (y1) (y2) (y3) (y4) (y5) x1 Ys JO)) (Am fu call n c a1 a2 a3 nn (fu) (y0) (y1) (y2) (y3) (y4) (y5) x1 Ys Wc)) (Am fu call n c a1 a2 a3 nn (fu) (y0) (y1) (y2) (y3) (y4) (y5) x1 Ys Wc)) (Am fu call n c a1 a2 a3 nn (fu) (y0) (y1) (y2) (y3) (y4) (y5) x1 Ys Wc)))))):=by kernel_rfl
theorem Ix (fu d n:Nat)(c:List PV)(a1 a2 a3:Int):Ai C0 prog fu (d+1) Ey [PV.tup [.own 1 n c],.sc (.int .i64 a1),.sc (.int .i64 a2),.sc (.int .i64 a3),.sc (Value.func (Fn.func (44:FuncId)) #[] #[])]=(fun (call:Aj)=>Ei fu call n c a1 a2 a3 (fu) (n) (a1) (a2) (a3) (true) (true) (c)) (Ai C0 prog fu d):=by kernel_rfl
abbrev El:FuncId:=43
theorem Ml (fu d n:Nat)(c:List PV):Ai C0 prog fu (d+1) El [PV.tup [.own 1 n c],.sc (Value.func (Fn.func (44:FuncId)) #[] #[])]=(fun (call:Aj)=>Ab (wrap .u64 (↑n:Int)) fun x1=>Ao (call 61 [.sc (.int .u64 x1)]) fun x2 x3=>Af x3<|Aa x2 fun x4 x5=>Ad .i64 x4 fun x6=>Af x5<|Ao (call 60 [PV.tup [.own 1 n c],.sc (.int .i64 0),.sc (.int .i64 (↑n:Int)),.sc (.int .i64 x6),.sc (Value.func (Fn.func (44:FuncId)) #[] #[])]) fun x7 x8=>Af x7<|Aa x8 fun x9 Lj=>Af Lj<|some (A7.mk [] [x9])) (Ai C0 prog fu d):=by kernel_rfl
end
section
open Go.Proofs.Try (prog)
open Go.IntKind (wrap)
set_option maxRecDepth 100000
abbrev Lk:FuncId:=42
noncomputable def Gz (fu:Nat)(call:Aj)(a0 a1 a2:Int)(nn:Nat)(y0 y1 y2:Int)(y3:Nat)(y4:Int)(y5:List PV):Option A7:=C5 CB prog fu call 42 Try.f42 (Bz Try.f42) [.sc (.int .u64 a0),.sc (.int .u64 a1),.sc (.int .i64 a2)] [.r,.r,.r,.l,.r,.l] nn ⟨lk [(0,(.sc (.int .u64 y0))),(1,(.sc (.int .u64 y1))),(2,(.sc (.int .i64 y2))),(7,(.view 7 1 0 y3)),(8,(.sc (.int .u64 y4)))],Fo [(7,(.ar false y5))]⟩
theorem Lw (fu:Nat)(call:Aj)(a0 a1 a2:Int)(nn:Nat)(y0 y1 y2:Int)(y3:Nat)(y4:Int)(y5:List PV):Gz fu call a0 a1 a2 (nn+1) y0 y1 y2 y3 y4 y5=(Bu (decide ((↑y3:Int)<y2)) (Ao (call 59 [.lst false 1 2 [.sc (.int .u64 y1),.sc (.int .u64 y4)]]) fun x4 x5=>Af x5<|Aa x4 fun x6 x7=>Ov 1 x6 fun x8 x9=>Af x7<|Ar (decide (0+x8*1<=x9.length))<|Ao (call 41 [.sc (.int .u64 y0),.sc (.int .i64 5),.lst false 1 x8 (List.take (x8*1) (List.drop 0 x9))]) fun Lj Kg=>Af Kg<|Aa Lj fun Ji Ph=>Ad .u64 Ji fun Mj=>Af Ph<|Ao (call 59 [.lst false 1 1 [.sc (.int .u64 Mj)]]) fun Ns Qm=>Af Qm<|Aa Ns fun Sw Pe=>Ov 1 Sw fun Iu Pi=>Af Pe<|Ar (decide (0+Iu*1<=Pi.length))<|Ar (decide (y3*1<=y5.length)&&decide (List.length (List.take (Iu*1) (List.drop 0 Pi))=Iu*1)&&decide ((y3+Iu)*1<=1099511627776)&&decide (y3+Iu<=1099511627776))<|Ab (y3+Iu) fun Qz=>Ab (List.take (y3*1) y5++List.take (Iu*1) (List.drop 0 Pi)) fun Sr=>Ab (wrap .u64 (y4+1)) fun Q7=>Gz fu call a0 a1 a2 (nn) (y0) (y1) (y2) Qz Q7 Sr) (Ar (decide (0<=y2))<|Ar (decide (Int.toNat y2<=y3))<|Ab (Int.toNat y2-0) fun Iy=>Ar (decide (Iy*1<=y5.length))<|some (A7.mk [.own 1 Iy (List.take (Iy*1) y5)] []))):=by kernel_rfl
theorem Yj (fu d:Nat)(a0 a1 a2:Int):Ai C0 prog fu (d+1) Lk [.sc (.int .u64 a0),.sc (.int .u64 a1),.sc (.int .i64 a2)]=(fun (call:Aj)=>Ab (if a2<0 then 0 else a2) fun x1=>Ab (if 1024<x1 then 1024 else x1) fun x2=>Ab (wrap .i64 (x2+8)) fun x3=>Ar (decide (0<=x3)&&decide (x3*1<=1099511627776)&&decide (x3<=1099511627776))<|Gz fu call a0 a1 a2 (fu) (a0) (a1) x2 0 0 ([])) (Ai C0 prog fu d):=by kernel_rfl
abbrev Ih:FuncId:=37
noncomputable def Di (fu:Nat)(call:Aj)(a0 a1 a2:Int)(nn:Nat)(y0 y1 y2:Int)(y3:Nat)(y4:Int)(y5:List PV):Option A7:=C5 CB prog fu call 37 Try.f37 (Bz Try.f37) [.sc (.int .u64 a0),.sc (.int .u64 a1),.sc (.int .i64 a2)] [.r,.r,.r,.l,.r,.l] nn ⟨lk [(0,(.sc (.int .u64 y0))),(1,(.sc (.int .u64 y1))),(2,(.sc (.int .i64 y2))),(7,(.view 7 1 0 y3)),(8,(.sc (.int .i64 y4)))],Fo [(7,(.ar false y5))]⟩
theorem Gq (fu:Nat)(call:Aj)(a0 a1 a2:Int)(nn:Nat)(y0 y1 y2:Int)(y3:Nat)(y4:Int)(y5:List PV):Di fu call a0 a1 a2 (nn+1) y0 y1 y2 y3 y4 y5=(Bu (decide ((↑y3:Int)<y2)) (Ab (wrap .u64 y4) fun x3=>Ao (call 56 [.lst false 1 2 [.sc (.int .u64 y1),.sc (.int .u64 x3)]]) fun x4 x5=>Af x5<|Aa x4 fun x6 x7=>Ov 1 x6 fun x8 x9=>Af x7<|Ar (decide (0+x8*1<=x9.length))<|Ao (call 48 [.sc (.int .u64 y0),.sc (.int .i64 5),.lst false 1 x8 (List.take (x8*1) (List.drop 0 x9))]) fun Lj Kg=>Af Kg<|Aa Lj fun Ji Ph=>Ad .u64 Ji fun Mj=>Af Ph<|Ao (call 56 [.lst false 1 1 [.sc (.int .u64 Mj)]]) fun Ns Qm=>Af Qm<|Aa Ns fun Sw Pe=>Ov 1 Sw fun Iu Pi=>Af Pe<|Ar (decide (0+Iu*1<=Pi.length))<|Ar (decide (y3*1<=y5.length)&&decide (List.length (List.take (Iu*1) (List.drop 0 Pi))=Iu*1)&&decide ((y3+Iu)*1<=1099511627776)&&decide (y3+Iu<=1099511627776))<|Ab (y3+Iu) fun Qz=>Ab (List.take (y3*1) y5++List.take (Iu*1) (List.drop 0 Pi)) fun Sr=>Ab (wrap .i64 (y4+1)) fun Q7=>Di fu call a0 a1 a2 (nn) (y0) (y1) (y2) Qz Q7 Sr) (Ar (decide (0<=y2))<|Ar (decide (Int.toNat y2<=y3))<|Ab (Int.toNat y2-0) fun Iy=>Ar (decide (Iy*1<=y5.length))<|some (A7.mk [.own 1 Iy (List.take (Iy*1) y5)] []))):=by kernel_rfl
theorem N2 (fu d:Nat)(a0 a1 a2:Int):Ai C0 prog fu (d+1) Ih [.sc (.int .u64 a0),.sc (.int .u64 a1),.sc (.int .i64 a2)]=(fun (call:Aj)=>Ab (if a2<0 then 0 else a2) fun x1=>Ab (if 1024<x1 then 1024 else x1) fun x2=>Di fu call a0 a1 a2 (fu) (a0) (a1) x2 0 0 ([])) (Ai C0 prog fu d):=by kernel_rfl
abbrev Fu:FuncId:=13
theorem Pq (fu d:Nat)(a0 a1:Int):Ai C0 prog fu (d+1) Fu [.sc (.int .i64 a0),.sc (.int .i64 a1)]=(fun (call:Aj)=>Ab (wrap .u64 a0) fun x1=>Ab (wrap .u64 (x1+1)) fun x2=>Ab (if 1024<a1 then 1024 else a1) fun x3=>Ab (if x3<0 then 0 else x3) fun x4=>Ao (call 37 [.sc (.int .u64 x2),.sc (.int .u64 7),.sc (.int .i64 x4)]) fun x5 x6=>Af x6<|Aa x5 fun x7 x8=>Ov 1 x7 fun x9 Lj=>Af x8<|Ar (decide (x9*1<=Lj.length))<|some (A7.mk [.own 1 x9 (List.take (x9*1) Lj)] [])) (Ai C0 prog fu d):=by kernel_rfl
abbrev Hd:FuncId:=46
theorem Nr (fu d:Nat)(a0 a1 a2:Int):Ai C0 prog fu (d+1) Hd [.sc (.int .i64 a0),.sc (.int .i64 a1),.sc (.int .i64 a2)]=(fun (call:Aj)=>Bu (decide (a0>=a1)) (some (A7.mk [.sc (.bool (decide (a0<=a2)))] [])) (some (A7.mk [.sc (.bool false)] []))) (Ai C0 prog fu d):=by kernel_rfl
abbrev L5:FuncId:=21
noncomputable def K5 (fu:Nat)(call:Aj)(Bm:Nat)(B5:List PV)(B2 Co:Int)(Cm Dz:Int)(D0:Bool)(Dy:Int)(B9:Nat)(D1:List PV)(D4:Bool)(D2 B8:Int)(a1 a2 a3:Int)(nn:Nat)(y0 y1 y2:Int)(y3:Nat)(y4 y5:Int)(y6 y7:Int)(y8:Bool)(y9:Int)(Dq:Nat)(D6:Bool)(Cy D8:Int)(Eh Fh:List PV)(Et:Nat)(Ep H3:Int)(Jo Jq:Int)(Ju:Bool)(Jn:Int)(Jt:Nat)(Jv:Bool)(Jp Jk:Int)(Jj Jm:List PV):Option A7:=C5 CB prog fu call 21 Try.f21 (Bz Try.f21) [.agg [.lst false 1 Bm B5,.sc (.int .i64 B2),.sc (.int .u64 Co),.sc (.int .u64 Cm),.sc (.int .i64 Dz),.sc (.bool D0),.sc (.int .u64 Dy),.lst false 2 B9 D1,.sc (.bool D4),.sc (.int .i64 D2),.sc (.int .i64 B8)],.sc (.int .i64 a1),.sc (.int .i64 a2),.sc (.int .i64 a3)] [.r,.r,.r] nn ⟨lk [(1,(.sc (.int .i64 y0))),(2,(.sc (.int .i64 y1))),(3,(.sc (.int .i64 y2))),(4,(.ptr 4 0)),(8,(.ptr 8 0))],Fo [(4,(.st [(.view 120 1 0 y3),(.sc (.int .i64 y4)),(.sc (.int .u64 y5)),(.sc (.int .u64 y6)),(.sc (.int .i64 y7)),(.sc (.bool y8)),(.sc (.int .u64 y9)),(.view 932 2 0 Dq),(.sc (.bool D6)),(.sc (.int .i64 Cy)),(.sc (.int .i64 D8))])),(120,(.ar false Eh)),(932,(.ar false Fh)),(8,(.st [(.view 124 1 0 Et),(.sc (.int .i64 Ep)),(.sc (.int .u64 H3)),(.sc (.int .u64 Jo)),(.sc (.int .i64 Jq)),(.sc (.bool Ju)),(.sc (.int .u64 Jn)),(.view 936 2 0 Jt),(.sc (.bool Jv)),(.sc (.int .i64 Jp)),(.sc (.int .i64 Jk))])),(124,(.ar false Jj)),(936,(.ar false Jm))]⟩
noncomputable def E8 (fu:Nat)(call:Aj)(Bm:Nat)(B5:List PV)(B2 Co:Int)(Cm Dz:Int)(D0:Bool)(Dy:Int)(B9:Nat)(D1:List PV)(D4:Bool)(D2 B8:Int)(a1 a2 a3:Int)(nn:Nat)(y0 y1:Int)(y2 y3 y4:Int)(y5:Nat)(y6 y7:Int)(y8 y9:Int)(Dq:Bool)(D6:Int)(Cy:Nat)(D8:Bool)(Eh Fh:Int)(Et Ep:List PV)(H3:Nat)(Jo Jq:Int)(Ju Jn:Int)(Jt:Bool)(Jv:Int)(Jp:Nat)(Jk:Bool)(Jj Jm:Int)(Ni Tu:List PV):Option A7:=C5 CB prog fu call 21 Try.f21 (Bz Try.f21) [.agg [.lst false 1 Bm B5,.sc (.int .i64 B2),.sc (.int .u64 Co),.sc (.int .u64 Cm),.sc (.int .i64 Dz),.sc (.bool D0),.sc (.int .u64 Dy),.lst false 2 B9 D1,.sc (.bool D4),.sc (.int .i64 D2),.sc (.int .i64 B8)],.sc (.int .i64 a1),.sc (.int .i64 a2),.sc (.int .i64 a3)] [.r,.r,.r,.r,.r,.r,.r,.r,.l,.l] nn ⟨lk [(1,(.sc (.int .i64 y0))),(2,(.sc (.int .i64 y1))),(3,(.sc (.int .i64 y2))),(4,(.ptr 4 0)),(8,(.ptr 8 0)),(11,(.sc (.int .u64 y3))),(12,(.sc (.int .i64 y4)))],Fo [(4,(.st [(.view 120 1 0 y5),(.sc (.int .i64 y6)),(.sc (.int .u64 y7)),(.sc (.int .u64 y8)),(.sc (.int .i64 y9)),(.sc (.bool Dq)),(.sc (.int .u64 D6)),(.view 932 2 0 Cy),(.sc (.bool D8)),(.sc (.int .i64 Eh)),(.sc (.int .i64 Fh))])),(120,(.ar false Et)),(932,(.ar false Ep)),(8,(.st [(.view 124 1 0 H3),(.sc (.int .i64 Jo)),(.sc (.int .u64 Jq)),(.sc (.int .u64 Ju)),(.sc (.int .i64 Jn)),(.sc (.bool Jt)),(.sc (.int .u64 Jv)),(.view 936 2 0 Jp),(.sc (.bool Jk)),(.sc (.int .i64 Jj)),(.sc (.int .i64 Jm))])),(124,(.ar false Ni)),(936,(.ar false Tu))]⟩
theorem Pk (fu:Nat)(call:Aj)(Bm:Nat)(B5:List PV)(B2 Co:Int)(Cm Dz:Int)(D0:Bool)(Dy:Int)(B9:Nat)(D1:List PV)(D4:Bool)(D2 B8:Int)(a1 a2 a3:Int)(nn:Nat)(Es:0<nn)(y0 y1 y2:Int)(y3:Nat)(y4 y5:Int)(y6 y7:Int)(y8:Bool)(y9:Int)(Dq:Nat)(D6:Bool)(Cy D8:Int)(Eh Fh:List PV)(Et:Nat)(Ep H3:Int)(Jo Jq:Int)(Ju:Bool)(Jn:Int)(Jt:Nat)(Jv:Bool)(Jp Jk:Int)(Jj Jm:List PV):K5 fu call Bm B5 B2 Co Cm Dz D0 Dy B9 D1 D4 D2 B8 a1 a2 a3 nn y0 y1 y2 y3 y4 y5 y6 y7 y8 y9 Dq D6 Cy D8 Eh Fh Et Ep H3 Jo Jq Ju Jn Jt Jv Jp Jk Jj Jm=(Bu (D6) (Ar (decide (0+y3*1<=Eh.length))<|Ar (decide (0+Dq*2<=Fh.length))<|some (A7.mk [.agg [.lst false 1 y3 (List.take (y3*1) (List.drop 0 Eh)),.sc (.int .i64 y4),.sc (.int .u64 y5),.sc (.int .u64 y6),.sc (.int .i64 y7),.sc (.bool y8),.sc (.int .u64 y9),.lst false 2 Dq (List.take (Dq*2) (List.drop 0 Fh)),.sc (.bool D6),.sc (.int .i64 Cy),.sc (.int .i64 D8)],.sc (.int .i64 39)] [])) (Ar (decide (0<=y0))<|Ab (Fk .u64 1 y0) fun HJ=>Ab (DW .u64 y9 HJ) fun MT=>Bu (MT != 0) (Ar (decide (0+y3*1<=Eh.length))<|Ar (decide (0+Dq*2<=Fh.length))<|some (A7.mk [.agg [.lst false 1 y3 (List.take (y3*1) (List.drop 0 Eh)),.sc (.int .i64 y4),.sc (.int .u64 y5),.sc (.int .u64 y6),.sc (.int .i64 y7),.sc (.bool y8),.sc (.int .u64 y9),.lst false 2 Dq (List.take (Dq*2) (List.drop 0 Fh)),.sc (.bool true),.sc (.int .i64 Cy),.sc (.int .i64 D8)],.sc (.int .i64 37)] [])) (E8 fu call Bm B5 B2 Co Cm Dz D0 Dy B9 D1 D4 D2 B8 a1 a2 a3 (fu) (y0) (y1) (y2) HJ 0 (y3) (y4) (y5) (y6) (y7) (y8) (y9) (Dq) (D6) (Cy) (D8) (Eh) (Fh) (Et) (Ep) (H3) (Jo) (Jq) (Ju) (Jn) (Jt) (Jv) (Jp) (Jk) (Jj) (Jm)))):=by cases nn with|zero=>exact absurd Es (Nat.lt_irrefl 0)|succ nn=>kernel_rfl
theorem I8 (fu:Nat)(call:Aj)(Bm:Nat)(B5:List PV)(B2 Co:Int)(Cm Dz:Int)(D0:Bool)(Dy:Int)(B9:Nat)(D1:List PV)(D4:Bool)(D2 B8:Int)(a1 a2 a3:Int)(nn:Nat)(y0 y1:Int)(y2 y3 y4:Int)(y5:Nat)(y6 y7:Int)(y8 y9:Int)(Dq:Bool)(D6:Int)(Cy:Nat)(D8:Bool)(Eh Fh:Int)(Et Ep:List PV)(H3:Nat)(Jo Jq:Int)(Ju Jn:Int)(Jt:Bool)(Jv:Int)(Jp:Nat)(Jk:Bool)(Jj Jm:Int)(Ni Tu:List PV):E8 fu call Bm B5 B2 Co Cm Dz D0 Dy B9 D1 D4 D2 B8 a1 a2 a3 (nn+1) y0 y1 y2 y3 y4 y5 y6 y7 y8 y9 Dq D6 Cy D8 Eh Fh Et Ep H3 Jo Jq Ju Jn Jt Jv Jp Jk Jj Jm Ni Tu=(Bu (decide (y4<(↑Cy:Int))) (Ar (decide (0<=y4)&&decide (y4<(↑Cy:Int)))<|Ad .i64 (List.getD Ep (0+Int.toNat y4*2+0) .top) fun EK=>Bu (decide (EK<y1)) (Ab (wrap .i64 (y4+1)) fun HW=>E8 fu call Bm B5 B2 Co Cm Dz D0 Dy B9 D1 D4 D2 B8 a1 a2 a3 (nn) (y0) (y1) (y2) (y3) HW (y5) (y6) (y7) (y8) (y9) (Dq) (D6) (Cy) (D8) (Eh) (Fh) (Et) (Ep) (H3) (Jo) (Jq) (Ju) (Jn) (Jt) (Jv) (Jp) (Jk) (Jj) (Jm) (Ni) (Tu)) (Bu (y4==(↑Cy:Int)) (Ar (decide (Cy*2<=Ep.length))<|Ao (call 45 [.own 2 Cy (List.take (Cy*2) Ep),.sc (.int .i64 y4),PV.tup [.own 2 1 [.sc (.int .i64 y1),.sc (.int .i64 y0)]]]) fun KU JK=>Aa KU fun HR IB=>Ov 2 HR fun Ys FM=>Af IB<|Aa JK fun LU HS=>Af HS<|Ar (decide (0<=y4)&&decide (y4<(↑Ys:Int)))<|Ar (decide (0+Int.toNat y4*2+1+1<=FM.length))<|Ab (A4 FM [.sc (.int .i64 y0)] (0+Int.toNat y4*2+1)) fun Wc=>Ab (Sh .u64 D6 y3) fun HN=>Ar (decide (0+y5*1<=Et.length))<|Ar (decide (0+Ys*2<=Wc.length))<|some (A7.mk [.agg [.lst false 1 y5 (List.take (y5*1) (List.drop 0 Et)),.sc (.int .i64 y6),.sc (.int .u64 y7),.sc (.int .u64 y8),.sc (.int .i64 y9),.sc (.bool Dq),.sc (.int .u64 HN),.lst false 2 Ys (List.take (Ys*2) (List.drop 0 Wc)),.sc (.bool D8),.sc (.int .i64 Eh),.sc (.int .i64 y2)],.sc (.int .i64 0)] [])) (Ar (decide (0<=y4)&&decide (y4<(↑Cy:Int)))<|Ad .i64 (List.getD Ep (0+Int.toNat y4*2+0) .top) fun KQ=>Bu (KQ != y1) (Ar (decide (Cy*2<=Ep.length))<|Ao (call 45 [.own 2 Cy (List.take (Cy*2) Ep),.sc (.int .i64 y4),PV.tup [.own 2 1 [.sc (.int .i64 y1),.sc (.int .i64 y0)]]]) fun HK EX=>Aa HK fun IR DL=>Ov 2 IR fun Zj DE=>Af DL<|Aa EX fun OS NS=>Af NS<|Ar (decide (0<=y4)&&decide (y4<(↑Zj:Int)))<|Ar (decide (0+Int.toNat y4*2+1+1<=DE.length))<|Ab (A4 DE [.sc (.int .i64 y0)] (0+Int.toNat y4*2+1)) fun MI=>Ab (Sh .u64 D6 y3) fun RI=>Ar (decide (0+y5*1<=Et.length))<|Ar (decide (0+Zj*2<=MI.length))<|some (A7.mk [.agg [.lst false 1 y5 (List.take (y5*1) (List.drop 0 Et)),.sc (.int .i64 y6),.sc (.int .u64 y7),.sc (.int .u64 y8),.sc (.int .i64 y9),.sc (.bool Dq),.sc (.int .u64 RI),.lst false 2 Zj (List.take (Zj*2) (List.drop 0 MI)),.sc (.bool D8),.sc (.int .i64 Eh),.sc (.int .i64 y2)],.sc (.int .i64 0)] [])) (Ar (decide (0<=y4)&&decide (y4<(↑Cy:Int)))<|Ad .i64 (List.getD Ep (0+Int.toNat y4*2+1) .top) fun LO=>Bu (decide (LO>=y0)) (Ar (decide (0+y5*1<=Et.length))<|Ar (decide (0+Cy*2<=Ep.length))<|some (A7.mk [.agg [.lst false 1 y5 (List.take (y5*1) (List.drop 0 Et)),.sc (.int .i64 y6),.sc (.int .u64 y7),.sc (.int .u64 y8),.sc (.int .i64 y9),.sc (.bool Dq),.sc (.int .u64 D6),.lst false 2 Cy (List.take (Cy*2) (List.drop 0 Ep)),.sc (.bool D8),.sc (.int .i64 Eh),.sc (.int .i64 Fh)],.sc (.int .i64 37)] [])) (Ar (decide (0<=y4)&&decide (y4<(↑Cy:Int)))<|Ar (decide (0+Int.toNat y4*2+1+1<=Ep.length))<|Ab (A4 Ep [.sc (.int .i64 y0)] (0+Int.toNat y4*2+1)) fun HL=>Ab (Sh .u64 D6 y3) fun QX=>Ar (decide (0+y5*1<=Et.length))<|Ar (decide (0+Cy*2<=HL.length))<|some (A7.mk [.agg [.lst false 1 y5 (List.take (y5*1) (List.drop 0 Et)),.sc (.int .i64 y6),.sc (.int .u64 y7),.sc (.int .u64 y8),.sc (.int .i64 y9),.sc (.bool Dq),.sc (.int .u64 QX),.lst false 2 Cy (List.take (Cy*2) (List.drop 0 HL)),.sc (.bool D8),.sc (.int .i64 Eh),.sc (.int .i64 y2)],.sc (.int .i64 0)] [])))))) (Bu (y4==(↑Cy:Int)) (Ar (decide (Cy*2<=Ep.length))<|Ao (call 45 [.own 2 Cy (List.take (Cy*2) Ep),.sc (.int .i64 y4),PV.tup [.own 2 1 [.sc (.int .i64 y1),.sc (.int .i64 y0)]]]) fun OI JE=>Aa OI fun OP UJ=>Ov 2 OP fun HV JO=>Af UJ<|Aa JE fun RU RP=>Af RP<|Ar (decide (0<=y4)&&decide (y4<(↑HV:Int)))<|Ar (decide (0+Int.toNat y4*2+1+1<=JO.length))<|Ab (A4 JO [.sc (.int .i64 y0)] (0+Int.toNat y4*2+1)) fun RF=>Ab (Sh .u64 D6 y3) fun XE=>Ar (decide (0+y5*1<=Et.length))<|Ar (decide (0+HV*2<=RF.length))<|some (A7.mk [.agg [.lst false 1 y5 (List.take (y5*1) (List.drop 0 Et)),.sc (.int .i64 y6),.sc (.int .u64 y7),.sc (.int .u64 y8),.sc (.int .i64 y9),.sc (.bool Dq),.sc (.int .u64 XE),.lst false 2 HV (List.take (HV*2) (List.drop 0 RF)),.sc (.bool D8),.sc (.int .i64 Eh),.sc (.int .i64 y2)],.sc (.int .i64 0)] [])) (Ar (decide (0<=y4)&&decide (y4<(↑Cy:Int)))<|Ad .i64 (List.getD Ep (0+Int.toNat y4*2+0) .top) fun RM=>Bu (RM != y1) (Ar (decide (Cy*2<=Ep.length))<|Ao (call 45 [.own 2 Cy (List.take (Cy*2) Ep),.sc (.int .i64 y4),PV.tup [.own 2 1 [.sc (.int .i64 y1),.sc (.int .i64 y0)]]]) fun x81 WO=>Aa x81 fun XR x84=>Ov 2 XR fun TH UI=>Af x84<|Aa WO fun x87 x88=>Af x88<|Ar (decide (0<=y4)&&decide (y4<(↑TH:Int)))<|Ar (decide (0+Int.toNat y4*2+1+1<=UI.length))<|Ab (A4 UI [.sc (.int .i64 y0)] (0+Int.toNat y4*2+1)) fun RE=>Ab (Sh .u64 D6 y3) fun XX=>Ar (decide (0+y5*1<=Et.length))<|Ar (decide (0+TH*2<=RE.length))<|some (A7.mk [.agg [.lst false 1 y5 (List.take (y5*1) (List.drop 0 Et)),.sc (.int .i64 y6),.sc (.int .u64 y7),.sc (.int .u64 y8),.sc (.int .i64 y9),.sc (.bool Dq),.sc (.int .u64 XX),.lst false 2 TH (List.take (TH*2) (List.drop 0 RE)),.sc (.bool D8),.sc (.int .i64 Eh),.sc (.int .i64 y2)],.sc (.int .i64 0)] [])) (Ar (decide (0<=y4)&&decide (y4<(↑Cy:Int)))<|Ad .i64 (List.getD Ep (0+Int.toNat y4*2+1) .top) fun YT=>Bu (decide (YT>=y0)) (Ar (decide (0+y5*1<=Et.length))<|Ar (decide (0+Cy*2<=Ep.length))<|some (A7.mk [.agg [.lst false 1 y5 (List.take (y5*1) (List.drop 0 Et)),.sc (.int .i64 y6),.sc (.int .u64 y7),.sc (.int .u64 y8),.sc (.int .i64 y9),.sc (.bool Dq),.sc (.int .u64 D6),.lst false 2 Cy (List.take (Cy*2) (List.drop 0 Ep)),.sc (.bool D8),.sc (.int .i64 Eh),.sc (.int .i64 Fh)],.sc (.int .i64 37)] [])) (Ar (decide (0<=y4)&&decide (y4<(↑Cy:Int)))<|Ar (decide (0+Int.toNat y4*2+1+1<=Ep.length))<|Ab (A4 Ep [.sc (.int .i64 y0)] (0+Int.toNat y4*2+1)) fun XS=>Ab (Sh .u64 D6 y3) fun XQ=>Ar (decide (0+y5*1<=Et.length))<|Ar (decide (0+Cy*2<=XS.length))<|some (A7.mk [.agg [.lst false 1 y5 (List.take (y5*1) (List.drop 0 Et)),.sc (.int .i64 y6),.sc (.int .u64 y7),.sc (.int .u64 y8),.sc (.int .i64 y9),.sc (.bool Dq),.sc (.int .u64 XQ),.lst false 2 Cy (List.take (Cy*2) (List.drop 0 XS)),.sc (.bool D8),.sc (.int .i64 Eh),.sc (.int .i64 y2)],.sc (.int .i64 0)] [])))))):=by kernel_rfl
theorem T0 (fu d Bm:Nat)(B5:List PV)(B2 Co:Int)(Cm Dz:Int)(D0:Bool)(Dy:Int)(B9:Nat)(D1:List PV)(D4:Bool)(D2 B8:Int)(a1 a2 a3:Int):Ai C0 prog fu (d+1) L5 [.agg [.lst false 1 Bm B5,.sc (.int .i64 B2),.sc (.int .u64 Co),.sc (.int .u64 Cm),.sc (.int .i64 Dz),.sc (.bool D0),.sc (.int .u64 Dy),.lst false 2 B9 D1,.sc (.bool D4),.sc (.int .i64 D2),.sc (.int .i64 B8)],.sc (.int .i64 a1),.sc (.int .i64 a2),.sc (.int .i64 a3)]=(fun (call:Aj)=>Ao (call 39 [.agg [.lst false 1 Bm B5,.sc (.int .i64 B2),.sc (.int .u64 Co),.sc (.int .u64 Cm),.sc (.int .i64 Dz),.sc (.bool D0),.sc (.int .u64 Dy),.lst false 2 B9 D1,.sc (.bool D4),.sc (.int .i64 D2),.sc (.int .i64 B8)]]) fun x1 x2=>Af x2<|Aa x1 fun x3 x4=>Dv x3 fun x5=>Aa x5 fun x6 x7=>Ov 1 x6 fun x8 x9=>Aa x7 fun Lj Kg=>Ad .i64 Lj fun Ji=>Aa Kg fun Ph Mj=>Ad .u64 Ph fun Ns=>Aa Mj fun Qm Sw=>Ad .u64 Qm fun Pe=>Aa Sw fun Iu Pi=>Ad .i64 Iu fun Qz=>Aa Pi fun Sr Q7=>A0 Sr fun Iy=>Aa Q7 fun T8 Uo=>Ad .u64 T8 fun Qn=>Aa Uo fun Z3 CK=>Ov 2 Z3 fun Nt P7=>Aa CK fun Ya Vr=>A0 Ya fun Tl=>Aa Vr fun Wo Xw=>Ad .i64 Wo fun Su=>Aa Xw fun Yu DA=>Ad .i64 Yu fun Zu=>Af DA<|Af x4<|Bu (decide (Ji<0)) (Ar (decide (0+x8*1<=x9.length))<|Ar (decide (0+Nt*2<=P7.length))<|some (A7.mk [.agg [.lst false 1 x8 (List.take (x8*1) (List.drop 0 x9)),.sc (.int .i64 Ji),.sc (.int .u64 Ns),.sc (.int .u64 Pe),.sc (.int .i64 Qz),.sc (.bool Iy),.sc (.int .u64 Qn),.lst false 2 Nt (List.take (Nt*2) (List.drop 0 P7)),.sc (.bool Tl),.sc (.int .i64 Su),.sc (.int .i64 Zu)],.sc (.int .i64 9)] [])) (Bu (decide (Ji>4)) (Ar (decide (0+x8*1<=x9.length))<|Ar (decide (0+Nt*2<=P7.length))<|some (A7.mk [.agg [.lst false 1 x8 (List.take (x8*1) (List.drop 0 x9)),.sc (.int .i64 Ji),.sc (.int .u64 Ns),.sc (.int .u64 Pe),.sc (.int .i64 Qz),.sc (.bool Iy),.sc (.int .u64 Qn),.lst false 2 Nt (List.take (Nt*2) (List.drop 0 P7)),.sc (.bool Tl),.sc (.int .i64 Su),.sc (.int .i64 Zu)],.sc (.int .i64 9)] [])) (Bu (decide (a2<0)) (Ar (decide (0+x8*1<=x9.length))<|Ar (decide (0+Nt*2<=P7.length))<|some (A7.mk [.agg [.lst false 1 x8 (List.take (x8*1) (List.drop 0 x9)),.sc (.int .i64 Ji),.sc (.int .u64 Ns),.sc (.int .u64 Pe),.sc (.int .i64 Qz),.sc (.bool Iy),.sc (.int .u64 Qn),.lst false 2 Nt (List.take (Nt*2) (List.drop 0 P7)),.sc (.bool Tl),.sc (.int .i64 Su),.sc (.int .i64 Zu)],.sc (.int .i64 9)] [])) (Bu (decide (a2>a1)) (Ar (decide (0+x8*1<=x9.length))<|Ar (decide (0+Nt*2<=P7.length))<|some (A7.mk [.agg [.lst false 1 x8 (List.take (x8*1) (List.drop 0 x9)),.sc (.int .i64 Ji),.sc (.int .u64 Ns),.sc (.int .u64 Pe),.sc (.int .i64 Qz),.sc (.bool Iy),.sc (.int .u64 Qn),.lst false 2 Nt (List.take (Nt*2) (List.drop 0 P7)),.sc (.bool Tl),.sc (.int .i64 Su),.sc (.int .i64 Zu)],.sc (.int .i64 9)] [])) (Ar (decide (0<=Ji))<|Ab (Fk .i64 1 Ji) fun KW=>Bu (decide (a1>=KW)) (Ar (decide (0+x8*1<=x9.length))<|Ar (decide (0+Nt*2<=P7.length))<|some (A7.mk [.agg [.lst false 1 x8 (List.take (x8*1) (List.drop 0 x9)),.sc (.int .i64 Ji),.sc (.int .u64 Ns),.sc (.int .u64 Pe),.sc (.int .i64 Qz),.sc (.bool Iy),.sc (.int .u64 Qn),.lst false 2 Nt (List.take (Nt*2) (List.drop 0 P7)),.sc (.bool Tl),.sc (.int .i64 Su),.sc (.int .i64 Zu)],.sc (.int .i64 9)] [])) (K5 fu call Bm B5 B2 Co Cm Dz D0 Dy B9 D1 D4 D2 B8 a1 a2 a3 (fu) (a1) (a2) (a3) x8 Ji Ns Pe Qz Iy Qn Nt Tl Su Zu x9 P7 0 0 0 0 0 (false) 0 0 (false) 0 0 ([]) ([]))))))) (Ai C0 prog fu d):=by kernel_rfl
abbrev Ku:FuncId:=17
noncomputable def Cw (fu:Nat)(call:Aj)(Bv:Nat)(a0:List PV)(a1:Int)(a2:ByteArray)(nn:Nat)(y0:Int)(y1:ByteArray)(y2 y3:Nat)(y4:List PV)(y5 y6:Int)(y7:List PV):Option A7:=C5 CB prog fu call 17 Try.f17 (Bz Try.f17) [.lst false 3 Bv a0,.sc (.int .u64 a1),.sc (.string a2)] [.r,.r,.l,.r,.r,.l,.r,.l] nn ⟨lk [(1,(.sc (.int .u64 y0))),(2,(.sc (.string y1))),(7,(.view 7 1 0 y2)),(25,(.lst false 11 y3 y4)),(26,(.sc (.int .i64 y5))),(27,(.sc (.int .i64 y6)))],Fo [(7,(.ar false y7))]⟩
noncomputable def Dd (fu:Nat)(call:Aj)(Bv:Nat)(a0:List PV)(a1:Int)(a2:ByteArray)(nn y0:Nat)(y1 y2 y3:Int)(y4:List PV):Option A7:=C5 CB prog fu call 17 Try.f17 (Bz Try.f17) [.lst false 3 Bv a0,.sc (.int .u64 a1),.sc (.string a2)] [.r,.r,.r,.r,.l,.r,.l] nn ⟨lk [(7,(.view 7 1 0 y0)),(12,(.sc (.int .u64 y1))),(52,(.sc (.int .i64 y2))),(53,(.sc (.int .i64 y3)))],Fo [(7,(.ar false y4))]⟩
theorem Is (fu:Nat)(call:Aj)(Bv:Nat)(a0:List PV)(a1:Int)(a2:ByteArray)(nn:Nat)(y0:Int)(y1:ByteArray)(y2 y3:Nat)(y4:List PV)(y5 y6:Int)(y7:List PV):Cw fu call Bv a0 a1 a2 (nn+1) y0 y1 y2 y3 y4 y5 y6 y7=(Bu (decide (y6<y5)) (Ar (decide (0<=y6)&&decide (y6<(↑y3:Int)))<|Eu 1 (List.getD y4 (Int.toNat y6*11) .top) fun Sw Pe Iu=>Ad .i64 (List.getD y4 (Int.toNat y6*11+1) .top) fun Pi=>Ad .u64 (List.getD y4 (Int.toNat y6*11+1+1) .top) fun Qz=>Ad .u64 (List.getD y4 (Int.toNat y6*11+1+1+1) .top) fun Sr=>Ad .i64 (List.getD y4 (Int.toNat y6*11+1+1+1+1) .top) fun Q7=>A0 (List.getD y4 (Int.toNat y6*11+1+1+1+1+1) .top) fun Iy=>Ad .u64 (List.getD y4 (Int.toNat y6*11+1+1+1+1+1+1) .top) fun T8=>Eu 2 (List.getD y4 (Int.toNat y6*11+1+1+1+1+1+1+1) .top) fun Uo Qn Z3=>A0 (List.getD y4 (Int.toNat y6*11+1+1+1+1+1+1+1+1) .top) fun CK=>Ad .i64 (List.getD y4 (Int.toNat y6*11+1+1+1+1+1+1+1+1+1) .top) fun Nt=>Ad .i64 (List.getD y4 (Int.toNat y6*11+1+1+1+1+1+1+1+1+1+1) .top) fun P7=>Bu (!CK) (Bu (decide ((↑y2:Int)<4)) (Ao (call 40 [.lst false 1 Pe Iu]) fun Ya Vr=>Af Vr<|Aa Ya fun Tl Wo=>Ov 1 Tl fun Xw Su=>Af Wo<|Ar (decide (0+Xw*1<=Su.length))<|Ar (decide (y2*1<=y7.length)&&true&&decide ((y2+1)*24<=1099511627776)&&decide (y2+1<=1099511627776))<|Ab (y2+1) fun Yu=>Ab (List.take (y2*1) y7++[.lst false 1 Xw (List.take (Xw*1) (List.drop 0 Su))]) fun DA=>Ab (wrap .i64 (y6+1)) fun Zu=>Cw fu call Bv a0 a1 a2 (nn) (y0) (y1) Yu (y3) (y4) (y5) Zu DA) (Ab (wrap .i64 (y6+1)) fun KW=>Cw fu call Bv a0 a1 a2 (nn) (y0) (y1) (y2) (y3) (y4) (y5) KW (y7))) (Ab (wrap .i64 (y6+1)) fun HJ=>Cw fu call Bv a0 a1 a2 (nn) (y0) (y1) (y2) (y3) (y4) (y5) HJ (y7))) (Ar (decide (ByteArray.size y1<=1099511627776))<|Ar (decide (0+ByteArray.size y1*1<=List.length (Ex y1)))<|Ao (call 41 [.sc (.int .u64 y0),.sc (.int .i64 20),.lst false 1 (ByteArray.size y1) (List.take (ByteArray.size y1*1) (List.drop 0 (Ex y1)))]) fun MT EK=>Af EK<|Aa MT fun HW KU=>Ad .u64 HW fun JK=>Af KU<|Ab (wrap .i64 (4-(↑y2:Int))) fun HR=>Dd fu call Bv a0 a1 a2 (fu) (y2) JK HR 0 (y7))):=by kernel_rfl
theorem Iq (fu:Nat)(call:Aj)(Bv:Nat)(a0:List PV)(a1:Int)(a2:ByteArray)(nn y0:Nat)(y1 y2 y3:Int)(y4:List PV):Dd fu call Bv a0 a1 a2 (nn+1) y0 y1 y2 y3 y4=(Bu (decide (y3<y2)) (Ab (wrap .u64 y3) fun IB=>Ao (call 42 [.sc (.int .u64 y1),.sc (.int .u64 IB),.sc (.int .i64 176)]) fun Ys FM=>Af FM<|Aa Ys fun LU HS=>Ov 1 LU fun Wc HN=>Af HS<|Ar (decide (0+Wc*1<=HN.length))<|Ar (decide (y0*1<=y4.length)&&true&&decide ((y0+1)*24<=1099511627776)&&decide (y0+1<=1099511627776))<|Ab (y0+1) fun KQ=>Ab (List.take (y0*1) y4++[.lst false 1 Wc (List.take (Wc*1) (List.drop 0 HN))]) fun HK=>Ab (wrap .i64 (y3+1)) fun EX=>Dd fu call Bv a0 a1 a2 (nn) KQ (y1) (y2) EX HK) (Ao (call 43 [PV.tup [.own 1 y0 y4],.sc (Value.func (Fn.func 44) #[] #[])]) fun IR DL=>Af IR<|Aa DL fun Zj DE=>Af DE<|Ar (decide (y0*1<=Zj.length))<|some (A7.mk [.own 1 y0 (List.take (y0*1) Zj)] []))):=by kernel_rfl
theorem Sj (fu d Bv:Nat)(a0:List PV)(a1:Int)(a2:ByteArray):Ai C0 prog fu (d+1) Ku [.lst false 3 Bv a0,.sc (.int .u64 a1),.sc (.string a2)]=(fun (call:Aj)=>Ao (call 18 [.lst false 3 Bv a0,.sc (.string a2)]) fun x1 x2=>Af x2<|Aa x1 fun x3 x4=>Ad .i64 x3 fun x5=>Aa x4 fun x6 x7=>A0 x6 fun x8=>Af x7<|Bu x8 (Ar (decide (0<=x5)&&decide (x5<(↑Bv:Int)))<|Eu 11 (List.getD a0 (Int.toNat x5*3+2) .top) fun x9 Lj Kg=>Cw fu call Bv a0 a1 a2 (fu) (a1) (a2) 0 Lj Kg ((↑Lj:Int)) 0 ([])) (Ar (decide (ByteArray.size a2<=1099511627776))<|Ar (decide (0+ByteArray.size a2*1<=List.length (Ex a2)))<|Ao (call 41 [.sc (.int .u64 a1),.sc (.int .i64 20),.lst false 1 (ByteArray.size a2) (List.take (ByteArray.size a2*1) (List.drop 0 (Ex a2)))]) fun Ji Ph=>Af Ph<|Aa Ji fun Mj Ns=>Ad .u64 Mj fun Qm=>Af Ns<|Dd fu call Bv a0 a1 a2 (fu) 0 Qm 4 0 ([]))) (Ai C0 prog fu d):=by kernel_rfl
end
section
open Go.Proofs.Try (prog)
open Go.IntKind (wrap)
set_option maxRecDepth 100000
abbrev Hj:FuncId:=22
noncomputable def B3 (fu:Nat)(call:Aj)(Bm:Nat)(B5:List PV)(B2 Co:Int)(Cm Dz:Int)(D0:Bool)(Dy:Int)(B9:Nat)(D1:List PV)(D4:Bool)(D2 B8:Int)(a1 a2 a3:Int)(nn:Nat)(y0 y1 y2:Int)(y3:Bool)(y4:Nat)(y5:List PV)(y6 y7:Int)(y8 y9:Int)(Dq:Bool)(D6:Int)(Cy:Nat)(D8:List PV)(Eh:Bool)(Fh Et:Int)(Ep:Nat)(H3 Jo:Int)(Jq Ju:Int)(Jn:Bool)(Jt:Int)(Jv:Nat)(Jp:Bool)(Jk Jj:Int)(Jm Ni:List PV):Option A7:=C5 CB prog fu call 22 Try.f22 (Bz Try.f22) [.agg [.lst false 1 Bm B5,.sc (.int .i64 B2),.sc (.int .u64 Co),.sc (.int .u64 Cm),.sc (.int .i64 Dz),.sc (.bool D0),.sc (.int .u64 Dy),.lst false 2 B9 D1,.sc (.bool D4),.sc (.int .i64 D2),.sc (.int .i64 B8)],.sc (.int .i64 a1),.sc (.int .i64 a2),.sc (.int .i64 a3)] [.r,.l,.l] nn ⟨lk [(1,(.sc (.int .i64 y0))),(2,(.sc (.int .i64 y1))),(3,(.sc (.int .i64 y2))),(4,(.ptr 4 0)),(8,(.ptr 8 0)),(14,(.sc (.bool y3)))],Fo [(4,(.st [(.lst false 1 y4 y5),(.sc (.int .i64 y6)),(.sc (.int .u64 y7)),(.sc (.int .u64 y8)),(.sc (.int .i64 y9)),(.sc (.bool Dq)),(.sc (.int .u64 D6)),(.lst false 2 Cy D8),(.sc (.bool Eh)),(.sc (.int .i64 Fh)),(.sc (.int .i64 Et))])),(8,(.st [(.view 122 1 0 Ep),(.sc (.int .i64 H3)),(.sc (.int .u64 Jo)),(.sc (.int .u64 Jq)),(.sc (.int .i64 Ju)),(.sc (.bool Jn)),(.sc (.int .u64 Jt)),(.view 920 2 0 Jv),(.sc (.bool Jp)),(.sc (.int .i64 Jk)),(.sc (.int .i64 Jj))])),(122,(.ar false Jm)),(920,(.ar false Ni))]⟩
noncomputable def A5 (fu:Nat)(call:Aj)(Bm:Nat)(B5:List PV)(B2 Co:Int)(Cm Dz:Int)(D0:Bool)(Dy:Int)(B9:Nat)(D1:List PV)(D4:Bool)(D2 B8:Int)(a1 a2 a3:Int)(nn:Nat)(y0 y1 y2:Int)(y3:Nat)(y4:Bool)(y5:Int)(y6:Nat)(y7:List PV)(y8 y9:Int)(Dq D6:Int)(Cy:Bool)(D8:Int)(Eh:Nat)(Fh:List PV)(Et:Bool)(Ep H3:Int)(Jo:Nat)(Jq Ju:Int)(Jn Jt:Int)(Jv:Bool)(Jp:Int)(Jk:Nat)(Jj:Bool)(Jm Ni:Int)(Tu X7 Pw:List PV):Option A7:=C5 CB prog fu call 22 Try.f22 (Bz Try.f22) [.agg [.lst false 1 Bm B5,.sc (.int .i64 B2),.sc (.int .u64 Co),.sc (.int .u64 Cm),.sc (.int .i64 Dz),.sc (.bool D0),.sc (.int .u64 Dy),.lst false 2 B9 D1,.sc (.bool D4),.sc (.int .i64 D2),.sc (.int .i64 B8)],.sc (.int .i64 a1),.sc (.int .i64 a2),.sc (.int .i64 a3)] [.r,.r,.r,.r,.l,.r,.l] nn ⟨lk [(1,(.sc (.int .i64 y0))),(2,(.sc (.int .i64 y1))),(3,(.sc (.int .i64 y2))),(4,(.ptr 4 0)),(8,(.ptr 8 0)),(10,(.view 10 2 0 y3)),(11,(.sc (.bool y4))),(12,(.sc (.int .i64 y5)))],Fo [(4,(.st [(.lst false 1 y6 y7),(.sc (.int .i64 y8)),(.sc (.int .u64 y9)),(.sc (.int .u64 Dq)),(.sc (.int .i64 D6)),(.sc (.bool Cy)),(.sc (.int .u64 D8)),(.lst false 2 Eh Fh),(.sc (.bool Et)),(.sc (.int .i64 Ep)),(.sc (.int .i64 H3))])),(8,(.st [(.view 122 1 0 Jo),(.sc (.int .i64 Jq)),(.sc (.int .u64 Ju)),(.sc (.int .u64 Jn)),(.sc (.int .i64 Jt)),(.sc (.bool Jv)),(.sc (.int .u64 Jp)),(.view 920 2 0 Jk),(.sc (.bool Jj)),(.sc (.int .i64 Jm)),(.sc (.int .i64 Ni))])),(122,(.ar false Tu)),(920,(.ar false X7)),(10,(.ar false Pw))]⟩
theorem F3 (fu:Nat)(call:Aj)(Bm:Nat)(B5:List PV)(B2 Co:Int)(Cm Dz:Int)(D0:Bool)(Dy:Int)(B9:Nat)(D1:List PV)(D4:Bool)(D2 B8:Int)(a1 a2 a3:Int)(nn:Nat)(Es:0<nn)(y0 y1 y2:Int)(y3:Bool)(y4:Nat)(y5:List PV)(y6 y7:Int)(y8 y9:Int)(Dq:Bool)(D6:Int)(Cy:Nat)(D8:List PV)(Eh:Bool)(Fh Et:Int)(Ep:Nat)(H3 Jo:Int)(Jq Ju:Int)(Jn:Bool)(Jt:Int)(Jv:Nat)(Jp:Bool)(Jk Jj:Int)(Jm Ni:List PV):B3 fu call Bm B5 B2 Co Cm Dz D0 Dy B9 D1 D4 D2 B8 a1 a2 a3 nn y0 y1 y2 y3 y4 y5 y6 y7 y8 y9 Dq D6 Cy D8 Eh Fh Et Ep H3 Jo Jq Ju Jn Jt Jv Jp Jk Jj Jm Ni=(Bu (y3) (some (A7.mk [.agg [.lst false 1 y4 y5,.sc (.int .i64 y6),.sc (.int .u64 y7),.sc (.int .u64 y8),.sc (.int .i64 y9),.sc (.bool Dq),.sc (.int .u64 D6),.lst false 2 Cy D8,.sc (.bool Eh),.sc (.int .i64 Fh),.sc (.int .i64 Et)],.sc (.int .i64 9)] [])) (Bu (Eh) (some (A7.mk [.agg [.lst false 1 y4 y5,.sc (.int .i64 y6),.sc (.int .u64 y7),.sc (.int .u64 y8),.sc (.int .i64 y9),.sc (.bool Dq),.sc (.int .u64 D6),.lst false 2 Cy D8,.sc (.bool Eh),.sc (.int .i64 Fh),.sc (.int .i64 Et)],.sc (.int .i64 39)] [])) (Ab (wrap .u64 y0) fun x8=>Ar (decide (0<=x8))<|Ab (Te .u64 D6 x8) fun x9=>Ab (DW .u64 x9 1) fun Lj=>Bu (Lj==1) (some (A7.mk [.agg [.lst false 1 y4 y5,.sc (.int .i64 y6),.sc (.int .u64 y7),.sc (.int .u64 y8),.sc (.int .i64 y9),.sc (.bool Dq),.sc (.int .u64 D6),.lst false 2 Cy D8,.sc (.bool true),.sc (.int .i64 Fh),.sc (.int .i64 Et)],.sc (.int .i64 37)] [])) (A5 fu call Bm B5 B2 Co Cm Dz D0 Dy B9 D1 D4 D2 B8 a1 a2 a3 (fu) (y0) (y1) (y2) 0 (false) 0 (y4) (y5) (y6) (y7) (y8) (y9) (Dq) (D6) (Cy) (D8) (Eh) (Fh) (Et) (Ep) (H3) (Jo) (Jq) (Ju) (Jn) (Jt) (Jv) (Jp) (Jk) (Jj) (Jm) (Ni) ([]))))):=by cases nn with|zero=>exact absurd Es (Nat.lt_irrefl 0)|succ nn=>kernel_rfl
theorem Cz (fu:Nat)(call:Aj)(Bm:Nat)(B5:List PV)(B2 Co:Int)(Cm Dz:Int)(D0:Bool)(Dy:Int)(B9:Nat)(D1:List PV)(D4:Bool)(D2 B8:Int)(a1 a2 a3:Int)(nn:Nat)(y0 y1 y2:Int)(y3:Nat)(y4:Bool)(y5:Int)(y6:Nat)(y7:List PV)(y8 y9:Int)(Dq D6:Int)(Cy:Bool)(D8:Int)(Eh:Nat)(Fh:List PV)(Et:Bool)(Ep H3:Int)(Jo:Nat)(Jq Ju:Int)(Jn Jt:Int)(Jv:Bool)(Jp:Int)(Jk:Nat)(Jj:Bool)(Jm Ni:Int)(Tu X7 Pw:List PV):A5 fu call Bm B5 B2 Co Cm Dz D0 Dy B9 D1 D4 D2 B8 a1 a2 a3 (nn+1) y0 y1 y2 y3 y4 y5 y6 y7 y8 y9 Dq D6 Cy D8 Eh Fh Et Ep H3 Jo Jq Ju Jn Jt Jv Jp Jk Jj Jm Ni Tu X7 Pw=(Bu (decide (y5<(↑Eh:Int))) (Ar (decide (0<=y5)&&decide (y5<(↑Eh:Int)))<|Ad .i64 (List.getD Fh (Int.toNat y5*2) .top) fun Kg=>Ad .i64 (List.getD Fh (Int.toNat y5*2+1) .top) fun Ji=>Bu (Kg==y1) (Bu (decide (Ji>=y0)) (some (A7.mk [.agg [.lst false 1 y6 y7,.sc (.int .i64 y8),.sc (.int .u64 y9),.sc (.int .u64 Dq),.sc (.int .i64 D6),.sc (.bool Cy),.sc (.int .u64 D8),.lst false 2 Eh Fh,.sc (.bool Et),.sc (.int .i64 Ep),.sc (.int .i64 H3)],.sc (.int .i64 37)] [])) (Bu (decide (Kg>y1)) (Ar (decide (y3*2<=Pw.length)&&true&&decide ((y3+1)*16<=1099511627776)&&decide (y3+1<=1099511627776))<|Ab (y3+1) fun Ph=>Ab (List.take (y3*2) Pw++[.sc (.int .i64 Kg),.sc (.int .i64 y0)]) fun Mj=>Ab (wrap .i64 (y5+1)) fun Ns=>A5 fu call Bm B5 B2 Co Cm Dz D0 Dy B9 D1 D4 D2 B8 a1 a2 a3 (nn) (y0) (y1) (y2) Ph (true) Ns (y6) (y7) (y8) (y9) (Dq) (D6) (Cy) (D8) (Eh) (Fh) (Et) (Ep) (H3) (Jo) (Jq) (Ju) (Jn) (Jt) (Jv) (Jp) (Jk) (Jj) (Jm) (Ni) (Tu) (X7) Mj) (Ar (decide (y3*2<=Pw.length)&&true&&decide ((y3+1)*16<=1099511627776)&&decide (y3+1<=1099511627776))<|Ab (y3+1) fun Qm=>Ab (List.take (y3*2) Pw++[.sc (.int .i64 Kg),.sc (.int .i64 y0)]) fun Sw=>Ab (wrap .i64 (y5+1)) fun Pe=>A5 fu call Bm B5 B2 Co Cm Dz D0 Dy B9 D1 D4 D2 B8 a1 a2 a3 (nn) (y0) (y1) (y2) Qm (true) Pe (y6) (y7) (y8) (y9) (Dq) (D6) (Cy) (D8) (Eh) (Fh) (Et) (Ep) (H3) (Jo) (Jq) (Ju) (Jn) (Jt) (Jv) (Jp) (Jk) (Jj) (Jm) (Ni) (Tu) (X7) Sw))) (Bu (decide (Kg>y1)) (Bu (!y4) (Ar (decide (y3*2<=Pw.length)&&true&&decide ((y3+1)*16<=1099511627776)&&decide (y3+1<=1099511627776))<|Ab (y3+1) fun Iu=>Ab (List.take (y3*2) Pw++[.sc (.int .i64 y1),.sc (.int .i64 y0)]) fun Pi=>Ar (decide (Iu*2<=Pi.length)&&true&&decide ((Iu+1)*16<=1099511627776)&&decide (Iu+1<=1099511627776))<|Ab (Iu+1) fun Qz=>Ab (List.take (Iu*2) Pi++[.sc (.int .i64 Kg),.sc (.int .i64 Ji)]) fun Sr=>Ab (wrap .i64 (y5+1)) fun Q7=>A5 fu call Bm B5 B2 Co Cm Dz D0 Dy B9 D1 D4 D2 B8 a1 a2 a3 (nn) (y0) (y1) (y2) Qz (true) Q7 (y6) (y7) (y8) (y9) (Dq) (D6) (Cy) (D8) (Eh) (Fh) (Et) (Ep) (H3) (Jo) (Jq) (Ju) (Jn) (Jt) (Jv) (Jp) (Jk) (Jj) (Jm) (Ni) (Tu) (X7) Sr) (Ar (decide (y3*2<=Pw.length)&&true&&decide ((y3+1)*16<=1099511627776)&&decide (y3+1<=1099511627776))<|Ab (y3+1) fun Iy=>Ab (List.take (y3*2) Pw++[.sc (.int .i64 Kg),.sc (.int .i64 Ji)]) fun T8=>Ab (wrap .i64 (y5+1)) fun Uo=>A5 fu call Bm B5 B2 Co Cm Dz D0 Dy B9 D1 D4 D2 B8 a1 a2 a3 (nn) (y0) (y1) (y2) Iy (y4) Uo (y6) (y7) (y8) (y9) (Dq) (D6) (Cy) (D8) (Eh) (Fh) (Et) (Ep) (H3) (Jo) (Jq) (Ju) (Jn) (Jt) (Jv) (Jp) (Jk) (Jj) (Jm) (Ni) (Tu) (X7) T8)) (Ar (decide (y3*2<=Pw.length)&&true&&decide ((y3+1)*16<=1099511627776)&&decide (y3+1<=1099511627776))<|Ab (y3+1) fun Qn=>Ab (List.take (y3*2) Pw++[.sc (.int .i64 Kg),.sc (.int .i64 Ji)]) fun Z3=>Ab (wrap .i64 (y5+1)) fun CK=>A5 fu call Bm B5 B2 Co Cm Dz D0 Dy B9 D1 D4 D2 B8 a1 a2 a3 (nn) (y0) (y1) (y2) Qn (y4) CK (y6) (y7) (y8) (y9) (Dq) (D6) (Cy) (D8) (Eh) (Fh) (Et) (Ep) (H3) (Jo) (Jq) (Ju) (Jn) (Jt) (Jv) (Jp) (Jk) (Jj) (Jm) (Ni) (Tu) (X7) Z3))) (Bu (!y4) (Ar (decide (y3*2<=Pw.length)&&true&&decide ((y3+1)*16<=1099511627776)&&decide (y3+1<=1099511627776))<|Ab (y3+1) fun Nt=>Ab (List.take (y3*2) Pw++[.sc (.int .i64 y1),.sc (.int .i64 y0)]) fun P7=>Ab (wrap .u64 y0) fun Ya=>Ar (decide (0<=Ya))<|Ab (Fk .u64 1 Ya) fun Vr=>Ab (Sh .u64 D8 Vr) fun Tl=>Ar (decide (0+Nt*2<=P7.length))<|some (A7.mk [.agg [.lst false 1 y6 y7,.sc (.int .i64 y8),.sc (.int .u64 y9),.sc (.int .u64 Dq),.sc (.int .i64 D6),.sc (.bool Cy),.sc (.int .u64 Tl),.lst false 2 Nt (List.take (Nt*2) (List.drop 0 P7)),.sc (.bool Et),.sc (.int .i64 Ep),.sc (.int .i64 y2)],.sc (.int .i64 0)] [])) (Ab (wrap .u64 y0) fun Wo=>Ar (decide (0<=Wo))<|Ab (Fk .u64 1 Wo) fun Xw=>Ab (Sh .u64 D8 Xw) fun Su=>Ar (decide (0+y3*2<=Pw.length))<|some (A7.mk [.agg [.lst false 1 y6 y7,.sc (.int .i64 y8),.sc (.int .u64 y9),.sc (.int .u64 Dq),.sc (.int .i64 D6),.sc (.bool Cy),.sc (.int .u64 Su),.lst false 2 y3 (List.take (y3*2) (List.drop 0 Pw)),.sc (.bool Et),.sc (.int .i64 Ep),.sc (.int .i64 y2)],.sc (.int .i64 0)] [])))):=by kernel_rfl
theorem Nm (fu d Bm:Nat)(B5:List PV)(B2 Co:Int)(Cm Dz:Int)(D0:Bool)(Dy:Int)(B9:Nat)(D1:List PV)(D4:Bool)(D2 B8:Int)(a1 a2 a3:Int):Ai C0 prog fu (d+1) Hj [.agg [.lst false 1 Bm B5,.sc (.int .i64 B2),.sc (.int .u64 Co),.sc (.int .u64 Cm),.sc (.int .i64 Dz),.sc (.bool D0),.sc (.int .u64 Dy),.lst false 2 B9 D1,.sc (.bool D4),.sc (.int .i64 D2),.sc (.int .i64 B8)],.sc (.int .i64 a1),.sc (.int .i64 a2),.sc (.int .i64 a3)]=(fun (call:Aj)=>Ao (call 46 [.sc (.int .i64 B2),.sc (.int .i64 0),.sc (.int .i64 4)]) fun x1 x2=>Af x2<|Aa x1 fun x3 x4=>A0 x3 fun x5=>Af x4<|Bu (!x5) (B3 fu call Bm B5 B2 Co Cm Dz D0 Dy B9 D1 D4 D2 B8 a1 a2 a3 (fu) (a1) (a2) (a3) (true) (Bm) (B5) (B2) (Co) (Cm) (Dz) (D0) (Dy) (B9) (D1) (D4) (D2) (B8) 0 0 0 0 0 (false) 0 0 (false) 0 0 ([]) ([])) (Bu (decide (a2<0)) (B3 fu call Bm B5 B2 Co Cm Dz D0 Dy B9 D1 D4 D2 B8 a1 a2 a3 (fu) (a1) (a2) (a3) (true) (Bm) (B5) (B2) (Co) (Cm) (Dz) (D0) (Dy) (B9) (D1) (D4) (D2) (B8) 0 0 0 0 0 (false) 0 0 (false) 0 0 ([]) ([])) (Bu (decide (a1<a2)) (B3 fu call Bm B5 B2 Co Cm Dz D0 Dy B9 D1 D4 D2 B8 a1 a2 a3 (fu) (a1) (a2) (a3) (true) (Bm) (B5) (B2) (Co) (Cm) (Dz) (D0) (Dy) (B9) (D1) (D4) (D2) (B8) 0 0 0 0 0 (false) 0 0 (false) 0 0 ([]) ([])) (Ab (wrap .u64 B2) fun x6=>Ar (decide (0<=x6))<|Ab (Fk .i64 1 x6) fun x7=>B3 fu call Bm B5 B2 Co Cm Dz D0 Dy B9 D1 D4 D2 B8 a1 a2 a3 (fu) (a1) (a2) (a3) (decide (a1>=x7)) (Bm) (B5) (B2) (Co) (Cm) (Dz) (D0) (Dy) (B9) (D1) (D4) (D2) (B8) 0 0 0 0 0 (false) 0 0 (false) 0 0 ([]) ([]))))) (Ai C0 prog fu d):=by kernel_rfl
abbrev Fq:FuncId:=47
noncomputable def Cl (fu:Nat)(call:Aj)(Bv:Nat)(a0:List PV)(DK:Nat)(a1:List PV)(nn y0:Nat)(y1:List PV)(y2:Nat)(y3:List PV)(y4:Int):Option A7:=C5 CB prog fu call 47 Try.f47 (Bz Try.f47) [.lst false 2 Bv a0,.lst false 2 DK a1] [.r,.r,.l,.r,.l] nn ⟨lk [(0,(.lst false 2 y0 y1)),(1,(.lst false 2 y2 y3)),(5,(.sc (.int .i64 y4)))],Fo []⟩
theorem Ev (fu:Nat)(call:Aj)(Bv:Nat)(a0:List PV)(DK:Nat)(a1:List PV)(nn y0:Nat)(y1:List PV)(y2:Nat)(y3:List PV)(y4:Int):Cl fu call Bv a0 DK a1 (nn+1) y0 y1 y2 y3 y4=(Bu (decide (y4<(↑y0:Int))) (Ar (decide (0<=y4)&&decide (y4<(↑y0:Int)))<|Ad .i64 (List.getD y1 (Int.toNat y4*2) .top) fun x1=>Ad .i64 (List.getD y1 (Int.toNat y4*2+1) .top) fun x2=>Ar (decide (0<=y4)&&decide (y4<(↑y2:Int)))<|Ad .i64 (List.getD y3 (Int.toNat y4*2) .top) fun x3=>Ad .i64 (List.getD y3 (Int.toNat y4*2+1) .top) fun x4=>Bu (!(x1==x3&&(x2==x4&&true))) (some (A7.mk [.sc (.bool false)] [])) (Ab (wrap .i64 (y4+1)) fun x5=>Cl fu call Bv a0 DK a1 (nn) (y0) (y1) (y2) (y3) x5)) (some (A7.mk [.sc (.bool true)] []))):=by kernel_rfl
theorem Kj (fu d Bv:Nat)(a0:List PV)(DK:Nat)(a1:List PV):Ai C0 prog fu (d+1) Fq [.lst false 2 Bv a0,.lst false 2 DK a1]=(fun (call:Aj)=>Bu ((↑Bv:Int) != (↑DK:Int)) (some (A7.mk [.sc (.bool false)] [])) (Cl fu call Bv a0 DK a1 (fu) (Bv) (a0) (DK) (a1) 0)) (Ai C0 prog fu d):=by kernel_rfl
abbrev Fp:FuncId:=23
theorem Kq (fu d Bm:Nat)(B5:List PV)(B2 Co:Int)(Cm Dz:Int)(D0:Bool)(Dy:Int)(B9:Nat)(D1:List PV)(D4:Bool)(D2 B8:Int)(Ad3:Nat)(Ahb:List PV)(Akm Ajr:Int)(Ajm Als:Int)(Ake:Bool)(Ale:Int)(Adn:Nat)(Ald:List PV)(Ak8:Bool)(Ajq Adk:Int):Ai C0 prog fu (d+1) Fp [.agg [.lst false 1 Bm B5,.sc (.int .i64 B2),.sc (.int .u64 Co),.sc (.int .u64 Cm),.sc (.int .i64 Dz),.sc (.bool D0),.sc (.int .u64 Dy),.lst false 2 B9 D1,.sc (.bool D4),.sc (.int .i64 D2),.sc (.int .i64 B8)],.agg [.lst false 1 Ad3 Ahb,.sc (.int .i64 Akm),.sc (.int .u64 Ajr),.sc (.int .u64 Ajm),.sc (.int .i64 Als),.sc (.bool Ake),.sc (.int .u64 Ale),.lst false 2 Adn Ald,.sc (.bool Ak8),.sc (.int .i64 Ajq),.sc (.int .i64 Adk)]]=(fun (call:Aj)=>Ar (decide (B5.length=Bm))<|Db (bytesOf B5) fun x1=>Ar (decide (Ahb.length=Ad3))<|Db (bytesOf Ahb) fun x2=>Bu (Array.toList (ByteArray.data (ByteArray.mk (List.toArray x1)))==Array.toList (ByteArray.data (ByteArray.mk (List.toArray x2)))) (Bu (B2==Akm&&(Co==Ajr&&true)) (Bu (Cm==Ajm) (Bu (Dz==Als) (Bu (D0==Ake) (Bu (Dy==Ale) (Ao (call 47 [.lst false 2 B9 D1,.lst false 2 Adn Ald]) fun x3 x4=>Af x4<|Aa x3 fun x5 x6=>A0 x5 fun x7=>Af x6<|Bu x7 (Bu (D4==Ak8) (Bu (D2==Ajq) (some (A7.mk [.sc (.bool (B8==Adk))] [])) (some (A7.mk [.sc (.bool false)] []))) (some (A7.mk [.sc (.bool false)] []))) (some (A7.mk [.sc (.bool false)] []))) (some (A7.mk [.sc (.bool false)] []))) (some (A7.mk [.sc (.bool false)] []))) (some (A7.mk [.sc (.bool false)] []))) (some (A7.mk [.sc (.bool false)] []))) (some (A7.mk [.sc (.bool false)] []))) (some (A7.mk [.sc (.bool false)] []))) (Ai C0 prog fu d):=by kernel_rfl
abbrev Hh:FuncId:=12
theorem Np (fu d:Nat)(a0 a1:Int):Ai C0 prog fu (d+1) Hh [.sc (.int .i64 a0),.sc (.int .i64 a1)]=(fun (call:Aj)=>Ao (call 20 [.sc (.int .i64 a0),.sc (.int .i64 12)]) fun x1 x2=>Af x2<|Aa x1 fun x3 x4=>Ad .i64 x3 fun x5=>Af x4<|Ab (wrap .i64 (600+x5)) fun x6=>Ao (call 13 [.sc (.int .i64 x6),.sc (.int .i64 176)]) fun x7 x8=>Af x8<|Aa x7 fun x9 Lj=>Ov 1 x9 fun Kg Ji=>Af Lj<|Ar (decide (0+Kg*1<=Ji.length))<|some (A7.mk [.agg [.lst false 1 Kg (List.take (Kg*1) (List.drop 0 Ji)),.sc (.int .i64 a1),.sc (.int .u64 5),.sc (.int .u64 0),.sc (.int .i64 0),.sc (.bool false),.sc (.int .u64 0),.lst false 2 0 [],.sc (.bool false),.sc (.int .i64 3),.sc (.int .i64 0)]] [])) (Ai C0 prog fu d):=by kernel_rfl
end
section
open Go.Proofs.Try (prog)
open Go.IntKind (wrap)
set_option maxRecDepth 100000
abbrev Tx:FuncId:=15
noncomputable def Gv (fu:Nat)(call:Aj)(nm us:ByteArray)(n1:Nat)(c1:List PV)(k1 k2:Int)(k3 k4:Int)(k5:Bool)(k6:Int)(n2:Nat)(c2:List PV)(k7:Bool)(k8 k9:Int)(nn y0:Nat)(y1:List PV)(y2 y3:ByteArray)(y4:Int)(y5:Bool)(y6:Nat)(y7:List PV)(y8 y9:Int)(Dq D6:Int)(Cy:Bool)(D8:Int)(Eh:Nat)(Fh:List PV)(Et:Bool)(Ep H3:Int):Option A7:=C5 CB prog fu call 15 Try.f15 (Bz Try.f15) [.lst false 3 0 [],.sc (.string nm),.sc (.string us),.agg [.lst false 1 n1 c1,.sc (.int .i64 k1),.sc (.int .u64 k2),.sc (.int .u64 k3),.sc (.int .i64 k4),.sc (.bool k5),.sc (.int .u64 k6),.lst false 2 n2 c2,.sc (.bool k7),.sc (.int .i64 k8),.sc (.int .i64 k9)]] [.r,.r,.r,.r,.r] nn ⟨lk [(0,(.lst false 3 y0 y1)),(1,(.sc (.string y2))),(2,(.sc (.string y3))),(7,(.ptr 7 0)),(13,(.sc (.int .i64 y4))),(14,(.sc (.bool y5)))],Fo [(7,(.st [(.lst false 1 y6 y7),(.sc (.int .i64 y8)),(.sc (.int .u64 y9)),(.sc (.int .u64 Dq)),(.sc (.int .i64 D6)),(.sc (.bool Cy)),(.sc (.int .u64 D8)),(.lst false 2 Eh Fh),(.sc (.bool Et)),(.sc (.int .i64 Ep)),(.sc (.int .i64 H3))]))]⟩
theorem Pj (fu:Nat)(call:Aj)(nm us:ByteArray)(n1:Nat)(c1:List PV)(k1 k2:Int)(k3 k4:Int)(k5:Bool)(k6:Int)(n2:Nat)(c2:List PV)(k7:Bool)(k8 k9:Int)(nn:Nat)(Es:0<nn)(y0:Nat)(y1:List PV)(y2 y3:ByteArray)(y4:Int)(y5:Bool)(y6:Nat)(y7:List PV)(y8 y9:Int)(Dq D6:Int)(Cy:Bool)(D8:Int)(Eh:Nat)(Fh:List PV)(Et:Bool)(Ep H3:Int):Gv fu call nm us n1 c1 k1 k2 k3 k4 k5 k6 n2 c2 k7 k8 k9 nn y0 y1 y2 y3 y4 y5 y6 y7 y8 y9 Dq D6 Cy D8 Eh Fh Et Ep H3=(Ao (call 38 [.lst false 3 y0 y1]) fun Pi Qz=>Af Qz<|Aa Pi fun Sr Q7=>Ov 3 Sr fun Iy T8=>Af Q7<|Bu (!y5) (Ar (decide (Iy*3<=T8.length)&&true&&decide ((Iy+1)*56<=1099511627776)&&decide (Iy+1<=1099511627776))<|Ab (Iy+1) fun Uo=>Ab (List.take (Iy*3) T8++[.sc (.string y2),.sc (.string y3),.lst true 11 0 []]) fun Qn=>Ar (decide ((↑Iy:Int)<(↑Uo:Int)))<|Eu 11 (List.getD Qn (0+Int.toNat (↑Iy:Int)*3+2) .top) fun Z3 CK Nt=>Ao (call 39 [.agg [.lst false 1 y6 y7,.sc (.int .i64 y8),.sc (.int .u64 y9),.sc (.int .u64 Dq),.sc (.int .i64 D6),.sc (.bool Cy),.sc (.int .u64 D8),.lst false 2 Eh Fh,.sc (.bool Et),.sc (.int .i64 Ep),.sc (.int .i64 H3)]]) fun P7 Ya=>Af Ya<|Aa P7 fun Vr Tl=>Dv Vr fun Wo=>Aa Wo fun Xw Su=>Ov 1 Xw fun Yu DA=>Aa Su fun Zu KW=>Ad .i64 Zu fun HJ=>Aa KW fun MT EK=>Ad .u64 MT fun HW=>Aa EK fun KU JK=>Ad .u64 KU fun HR=>Aa JK fun IB Ys=>Ad .i64 IB fun FM=>Aa Ys fun LU HS=>A0 LU fun Wc=>Aa HS fun HN KQ=>Ad .u64 HN fun HK=>Aa KQ fun EX IR=>Ov 2 EX fun DL Zj=>Aa IR fun DE OS=>A0 DE fun NS=>Aa OS fun MI RI=>Ad .i64 MI fun LO=>Aa RI fun HL QX=>Ad .i64 HL fun OI=>Af QX<|Af Tl<|Ar (decide (0+Yu*1<=DA.length))<|Ar (decide (0+DL*2<=Zj.length))<|Ar (Z3&&true&&true&&true&&true&&true)<|Ar (decide ((↑Iy:Int)<(↑Uo:Int)))<|Ar (decide (0+Int.toNat (↑Iy:Int)*3+2+1<=Qn.length))<|Ab (A4 Qn [.lst false 11 1 [.lst false 1 Yu (List.take (Yu*1) (List.drop 0 DA)),.sc (.int .i64 HJ),.sc (.int .u64 HW),.sc (.int .u64 HR),.sc (.int .i64 FM),.sc (.bool Wc),.sc (.int .u64 HK),.lst false 2 DL (List.take (DL*2) (List.drop 0 Zj)),.sc (.bool NS),.sc (.int .i64 LO),.sc (.int .i64 OI)]] (0+Int.toNat (↑Iy:Int)*3+2)) fun JE=>Ar (decide (0+Uo*3<=JE.length))<|some (A7.mk [.lst false 3 Uo (List.take (Uo*3) (List.drop 0 JE)),.sc (.int .i64 0)] [])) (Ar (decide (0<=y4)&&decide (y4<(↑Iy:Int)))<|Eu 11 (List.getD T8 (0+Int.toNat y4*3+2) .top) fun OP UJ HV=>Ao (call 39 [.agg [.lst false 1 y6 y7,.sc (.int .i64 y8),.sc (.int .u64 y9),.sc (.int .u64 Dq),.sc (.int .i64 D6),.sc (.bool Cy),.sc (.int .u64 D8),.lst false 2 Eh Fh,.sc (.bool Et),.sc (.int .i64 Ep),.sc (.int .i64 H3)]]) fun JO RU=>Af RU<|Aa JO fun RP RF=>Dv RP fun XE=>Aa XE fun RM x81=>Ov 1 RM fun WO XR=>Aa x81 fun x84 TH=>Ad .i64 x84 fun UI=>Aa TH fun x87 x88=>Ad .u64 x87 fun RE=>Aa x88 fun XX YT=>Ad .u64 XX fun XS=>Aa YT fun XQ x94=>Ad .i64 XQ fun x95=>Aa x94 fun x96 x97=>A0 x96 fun x98=>Aa x97 fun x99 JI=>Ad .u64 x99 fun JF=>Aa JI fun FV KZ=>Ov 2 FV fun BK Rx=>Aa KZ fun IZ KL=>A0 IZ fun OE=>Aa KL fun EH GA=>Ad .i64 EH fun IE=>Aa GA fun KJ GE=>Ad .i64 KJ fun KM=>Af GE<|Af RF<|Ar (decide (0+WO*1<=XR.length))<|Ar (decide (0+BK*2<=Rx.length))<|Ar (OP&&true&&true&&true&&true&&true)<|Ar (decide (0<=y4)&&decide (y4<(↑Iy:Int)))<|Ar (decide (0+Int.toNat y4*3+2+1<=T8.length))<|Ab (A4 T8 [.lst false 11 1 [.lst false 1 WO (List.take (WO*1) (List.drop 0 XR)),.sc (.int .i64 UI),.sc (.int .u64 RE),.sc (.int .u64 XS),.sc (.int .i64 x95),.sc (.bool x98),.sc (.int .u64 JF),.lst false 2 BK (List.take (BK*2) (List.drop 0 Rx)),.sc (.bool OE),.sc (.int .i64 IE),.sc (.int .i64 KM)]] (0+Int.toNat y4*3+2)) fun FW=>Ar (decide (0+Iy*3<=FW.length))<|some (A7.mk [.lst false 3 Iy (List.take (Iy*3) (List.drop 0 FW)),.sc (.int .i64 0)] []))):=by cases nn with|zero=>exact absurd Es (Nat.lt_irrefl 0)|succ nn=>kernel_rfl
theorem Tr (fu d:Nat)(nm us:ByteArray)(n1:Nat)(c1:List PV)(k1 k2:Int)(k3 k4:Int)(k5:Bool)(k6:Int)(n2:Nat)(c2:List PV)(k7:Bool)(k8 k9:Int):Ai C0 prog fu (d+1) Tx [.lst false 3 0 [],.sc (.string nm),.sc (.string us),.agg [.lst false 1 n1 c1,.sc (.int .i64 k1),.sc (.int .u64 k2),.sc (.int .u64 k3),.sc (.int .i64 k4),.sc (.bool k5),.sc (.int .u64 k6),.lst false 2 n2 c2,.sc (.bool k7),.sc (.int .i64 k8),.sc (.int .i64 k9)]]=(fun (call:Aj)=>Bu (decide ((↑(ByteArray.size nm):Int)<1)) (some (A7.mk [.lst false 3 0 [],.sc (.int .i64 9)] [])) (Bu (decide ((↑(ByteArray.size nm):Int)>32)) (some (A7.mk [.lst false 3 0 [],.sc (.int .i64 9)] [])) (Bu ((↑n1:Int) != 176) (some (A7.mk [.lst false 3 0 [],.sc (.int .i64 4)] [])) (Ao (call 35 [.lst false 3 0 [],.lst false 1 n1 c1]) fun x1 x2=>Af x2<|Aa x1 fun x3 x4=>Ad .i64 x3 fun x5=>Aa x4 fun x6 x7=>Ad .i64 x6 fun x8=>Aa x7 fun x9 Lj=>A0 x9 fun Kg=>Af Lj<|Bu Kg (some (A7.mk [.lst false 3 0 [],.sc (.int .i64 10)] [])) (Ao (call 18 [.lst false 3 0 [],.sc (.string nm)]) fun Ji Ph=>Af Ph<|Aa Ji fun Mj Ns=>Ad .i64 Mj fun Qm=>Aa Ns fun Sw Pe=>A0 Sw fun Iu=>Af Pe<|Bu Iu (Ar (decide (0<=Qm)&&decide (Qm<0))<|none) (Bu (!Iu) (Gv fu call nm us n1 c1 k1 k2 k3 k4 k5 k6 n2 c2 k7 k8 k9 (fu) 0 ([]) (nm) (us) Qm Iu (n1) (c1) (k1) (k2) (k3) (k4) (k5) (k6) (n2) (c2) (k7) (k8) (k9)) (Gv fu call nm us n1 c1 k1 k2 k3 k4 k5 k6 n2 c2 k7 k8 k9 (fu) 0 ([]) (nm) (us) Qm Iu (n1) (c1) (k1) (k2) (k3) (k4) (k5) (k6) (n2) (c2) (k7) (k8) (k9)))))))) (Ai C0 prog fu d):=by kernel_rfl
end
section
open Go.Proofs.Try (prog)
open Go.IntKind (wrap)
set_option maxRecDepth 100000
abbrev Id:FuncId:=9
noncomputable def E6 (fu:Nat)(call:Aj)(nn:Nat):Option A7:=C5 CB prog fu call 9 Try.f9 (Bz Try.f9) [] [] nn ⟨lk [],Fo []⟩
noncomputable def Hk (fu:Nat)(call:Aj)(nn:Nat)(y0:Int)(y1:Nat)(y2:List PV)(y3 y4:Int)(y5 y6:Int)(y7:Bool)(y8:Int)(y9:Nat)(Dq:List PV)(D6:Bool)(Cy D8:Int):Option A7:=C5 CB prog fu call 9 Try.f9 (Bz Try.f9) [] [.r] nn ⟨lk [(1,(.ptr 1 0)),(2,(.sc (.int .i64 y0)))],Fo [(1,(.st [(.lst false 1 y1 y2),(.sc (.int .i64 y3)),(.sc (.int .u64 y4)),(.sc (.int .u64 y5)),(.sc (.int .i64 y6)),(.sc (.bool y7)),(.sc (.int .u64 y8)),(.lst false 2 y9 Dq),(.sc (.bool D6)),(.sc (.int .i64 Cy)),(.sc (.int .i64 D8))]))]⟩
noncomputable def Hn (fu:Nat)(call:Aj)(nn:Nat)(y0 y1:Int)(y2:Nat)(y3:List PV)(y4 y5:Int)(y6 y7:Int)(y8:Bool)(y9:Int)(Dq:Nat)(D6:List PV)(Cy:Bool)(D8 Eh:Int):Option A7:=C5 CB prog fu call 9 Try.f9 (Bz Try.f9) [] [.r,.r] nn ⟨lk [(1,(.ptr 1 0)),(2,(.sc (.int .i64 y0))),(3,(.sc (.int .i64 y1)))],Fo [(1,(.st [(.lst false 1 y2 y3),(.sc (.int .i64 y4)),(.sc (.int .u64 y5)),(.sc (.int .u64 y6)),(.sc (.int .i64 y7)),(.sc (.bool y8)),(.sc (.int .u64 y9)),(.lst false 2 Dq D6),(.sc (.bool Cy)),(.sc (.int .i64 D8)),(.sc (.int .i64 Eh))]))]⟩
noncomputable def Hf (fu:Nat)(call:Aj)(nn:Nat)(y0 y1 y2:Int)(y3:Nat)(y4:List PV)(y5 y6:Int)(y7 y8:Int)(y9:Bool)(Dq:Int)(D6:Nat)(Cy:List PV)(D8:Bool)(Eh Fh:Int)(Et:Nat)(Ep:List PV)(H3 Jo:Int)(Jq Ju:Int)(Jn:Bool)(Jt:Int)(Jv:Nat)(Jp:List PV)(Jk:Bool)(Jj Jm:Int):Option A7:=C5 CB prog fu call 9 Try.f9 (Bz Try.f9) [] [.r,.r,.r] nn ⟨lk [(1,(.ptr 1 0)),(2,(.sc (.int .i64 y0))),(3,(.sc (.int .i64 y1))),(4,(.ptr 4 0)),(5,(.sc (.int .i64 y2)))],Fo [(1,(.st [(.lst false 1 y3 y4),(.sc (.int .i64 y5)),(.sc (.int .u64 y6)),(.sc (.int .u64 y7)),(.sc (.int .i64 y8)),(.sc (.bool y9)),(.sc (.int .u64 Dq)),(.lst false 2 D6 Cy),(.sc (.bool D8)),(.sc (.int .i64 Eh)),(.sc (.int .i64 Fh))])),(4,(.st [(.lst false 1 Et Ep),(.sc (.int .i64 H3)),(.sc (.int .u64 Jo)),(.sc (.int .u64 Jq)),(.sc (.int .i64 Ju)),(.sc (.bool Jn)),(.sc (.int .u64 Jt)),(.lst false 2 Jv Jp),(.sc (.bool Jk)),(.sc (.int .i64 Jj)),(.sc (.int .i64 Jm))]))]⟩
noncomputable def Hm (fu:Nat)(call:Aj)(nn:Nat)(y0 y1:Int)(y2 y3:Int)(y4:Nat)(y5:List PV)(y6 y7:Int)(y8 y9:Int)(Dq:Bool)(D6:Int)(Cy:Nat)(D8:List PV)(Eh:Bool)(Fh Et:Int)(Ep:Nat)(H3:List PV)(Jo Jq:Int)(Ju Jn:Int)(Jt:Bool)(Jv:Int)(Jp:Nat)(Jk:List PV)(Jj:Bool)(Jm Ni:Int)(Tu:Nat)(X7:List PV)(Pw OC:Int)(QM NL:Int)(OB:Bool)(OG:Int)(PT:Nat)(QC:List PV)(QV:Bool)(NO PW:Int):Option A7:=C5 CB prog fu call 9 Try.f9 (Bz Try.f9) [] [.r,.r,.r,.r] nn ⟨lk [(1,(.ptr 1 0)),(2,(.sc (.int .i64 y0))),(3,(.sc (.int .i64 y1))),(4,(.ptr 4 0)),(5,(.sc (.int .i64 y2))),(6,(.ptr 6 0)),(7,(.sc (.int .i64 y3)))],Fo [(1,(.st [(.lst false 1 y4 y5),(.sc (.int .i64 y6)),(.sc (.int .u64 y7)),(.sc (.int .u64 y8)),(.sc (.int .i64 y9)),(.sc (.bool Dq)),(.sc (.int .u64 D6)),(.lst false 2 Cy D8),(.sc (.bool Eh)),(.sc (.int .i64 Fh)),(.sc (.int .i64 Et))])),(4,(.st [(.lst false 1 Ep H3),(.sc (.int .i64 Jo)),(.sc (.int .u64 Jq)),(.sc (.int .u64 Ju)),(.sc (.int .i64 Jn)),(.sc (.bool Jt)),(.sc (.int .u64 Jv)),(.lst false 2 Jp Jk),(.sc (.bool Jj)),(.sc (.int .i64 Jm)),(.sc (.int .i64 Ni))])),(6,(.st [(.lst false 1 Tu X7),(.sc (.int .i64 Pw)),(.sc (.int .u64 OC)),(.sc (.int .u64 QM)),(.sc (.int .i64 NL)),(.sc (.bool OB)),(.sc (.int .u64 OG)),(.lst false 2 PT QC),(.sc (.bool QV)),(.sc (.int .i64 NO)),(.sc (.int .i64 PW))]))]⟩
noncomputable def Hp (fu:Nat)(call:Aj)(nn:Nat)(y0 y1:Int)(y2 y3:Int)(y4:Nat)(y5:List PV)(y6:Int)(y7:Nat)(y8:List PV)(y9 Dq:Int)(D6 Cy:Int)(D8:Bool)(Eh:Int)(Fh:Nat)(Et:List PV)(Ep:Bool)(H3 Jo:Int)(Jq:Nat)(Ju:List PV)(Jn Jt:Int)(Jv Jp:Int)(Jk:Bool)(Jj:Int)(Jm:Nat)(Ni:List PV)(Tu:Bool)(X7 Pw:Int)(OC:Nat)(QM:List PV)(NL OB:Int)(OG PT:Int)(QC:Bool)(QV:Int)(NO:Nat)(PW:List PV)(y43:Bool)(y44 ZV:Int):Option A7:=C5 CB prog fu call 9 Try.f9 (Bz Try.f9) [] [.r,.r,.r,.r,.r] nn ⟨lk [(1,(.ptr 1 0)),(2,(.sc (.int .i64 y0))),(3,(.sc (.int .i64 y1))),(4,(.ptr 4 0)),(5,(.sc (.int .i64 y2))),(6,(.ptr 6 0)),(7,(.sc (.int .i64 y3))),(8,(.lst false 3 y4 y5)),(9,(.sc (.int .i64 y6)))],Fo [(1,(.st [(.lst false 1 y7 y8),(.sc (.int .i64 y9)),(.sc (.int .u64 Dq)),(.sc (.int .u64 D6)),(.sc (.int .i64 Cy)),(.sc (.bool D8)),(.sc (.int .u64 Eh)),(.lst false 2 Fh Et),(.sc (.bool Ep)),(.sc (.int .i64 H3)),(.sc (.int .i64 Jo))])),(4,(.st [(.lst false 1 Jq Ju),(.sc (.int .i64 Jn)),(.sc (.int .u64 Jt)),(.sc (.int .u64 Jv)),(.sc (.int .i64 Jp)),(.sc (.bool Jk)),(.sc (.int .u64 Jj)),(.lst false 2 Jm Ni),(.sc (.bool Tu)),(.sc (.int .i64 X7)),(.sc (.int .i64 Pw))])),(6,(.st [(.lst false 1 OC QM),(.sc (.int .i64 NL)),(.sc (.int .u64 OB)),(.sc (.int .u64 OG)),(.sc (.int .i64 PT)),(.sc (.bool QC)),(.sc (.int .u64 QV)),(.lst false 2 NO PW),(.sc (.bool y43)),(.sc (.int .i64 y44)),(.sc (.int .i64 ZV))]))]⟩
noncomputable def He (fu:Nat)(call:Aj)(nn:Nat)(y0 y1:Int)(y2 y3:Int)(y4:Nat)(y5:List PV)(y6 y7:Int)(y8:Bool)(y9:Nat)(Dq:List PV)(D6 Cy:Int)(D8 Eh:Int)(Fh:Bool)(Et:Int)(Ep:Nat)(H3:List PV)(Jo:Bool)(Jq Ju:Int)(Jn:Nat)(Jt:List PV)(Jv Jp:Int)(Jk Jj:Int)(Jm:Bool)(Ni:Int)(Tu:Nat)(X7:List PV)(Pw:Bool)(OC QM:Int)(NL:Nat)(OB:List PV)(OG PT:Int)(QC QV:Int)(NO:Bool)(PW:Int)(y43:Nat)(y44:List PV)(ZV:Bool)(y46 y47:Int):Option A7:=C5 CB prog fu call 9 Try.f9 (Bz Try.f9) [] [.r,.r,.r,.r,.r,.r] nn ⟨lk [(1,(.ptr 1 0)),(2,(.sc (.int .i64 y0))),(3,(.sc (.int .i64 y1))),(4,(.ptr 4 0)),(5,(.sc (.int .i64 y2))),(6,(.ptr 6 0)),(7,(.sc (.int .i64 y3))),(8,(.lst false 3 y4 y5)),(9,(.sc (.int .i64 y6))),(10,(.sc (.int .i64 y7))),(11,(.sc (.bool y8)))],Fo [(1,(.st [(.lst false 1 y9 Dq),(.sc (.int .i64 D6)),(.sc (.int .u64 Cy)),(.sc (.int .u64 D8)),(.sc (.int .i64 Eh)),(.sc (.bool Fh)),(.sc (.int .u64 Et)),(.lst false 2 Ep H3),(.sc (.bool Jo)),(.sc (.int .i64 Jq)),(.sc (.int .i64 Ju))])),(4,(.st [(.lst false 1 Jn Jt),(.sc (.int .i64 Jv)),(.sc (.int .u64 Jp)),(.sc (.int .u64 Jk)),(.sc (.int .i64 Jj)),(.sc (.bool Jm)),(.sc (.int .u64 Ni)),(.lst false 2 Tu X7),(.sc (.bool Pw)),(.sc (.int .i64 OC)),(.sc (.int .i64 QM))])),(6,(.st [(.lst false 1 NL OB),(.sc (.int .i64 OG)),(.sc (.int .u64 PT)),(.sc (.int .u64 QC)),(.sc (.int .i64 QV)),(.sc (.bool NO)),(.sc (.int .u64 PW)),(.lst false 2 y43 y44),(.sc (.bool ZV)),(.sc (.int .i64 y46)),(.sc (.int .i64 y47))]))]⟩
theorem Lt (fu:Nat)(call:Aj)(nn:Nat)(Es:0<nn):E6 fu call nn=(Ao (call 12 [.sc (.int .i64 1),.sc (.int .i64 2)]) fun x1 x2=>Af x2<|Aa x1 fun x3 x4=>Dv x3 fun x5=>Aa x5 fun x6 x7=>Eu 1 x6 fun x8 x9 Lj=>Aa x7 fun Kg Ji=>Ad .i64 Kg fun Ph=>Aa Ji fun Mj Ns=>Ad .u64 Mj fun Qm=>Aa Ns fun Sw Pe=>Ad .u64 Sw fun Iu=>Aa Pe fun Pi Qz=>Ad .i64 Pi fun Sr=>Aa Qz fun Q7 Iy=>A0 Q7 fun T8=>Aa Iy fun Uo Qn=>Ad .u64 Uo fun Z3=>Aa Qn fun CK Nt=>Eu 2 CK fun P7 Ya Vr=>Aa Nt fun Tl Wo=>A0 Tl fun Xw=>Aa Wo fun Su Yu=>Ad .i64 Su fun DA=>Aa Yu fun Zu KW=>Ad .i64 Zu fun HJ=>Af KW<|Af x4<|Ao (call 21 [.agg [.lst false 1 x9 Lj,.sc (.int .i64 Ph),.sc (.int .u64 Qm),.sc (.int .u64 Iu),.sc (.int .i64 Sr),.sc (.bool T8),.sc (.int .u64 Z3),.lst false 2 Ya Vr,.sc (.bool Xw),.sc (.int .i64 DA),.sc (.int .i64 HJ)],.sc (.int .i64 1),.sc (.int .i64 0),.sc (.int .i64 7)]) fun MT EK=>Af EK<|Aa MT fun HW KU=>Dv HW fun JK=>Aa JK fun HR IB=>Eu 1 HR fun Ys FM LU=>Aa IB fun HS Wc=>Ad .i64 HS fun HN=>Aa Wc fun KQ HK=>Ad .u64 KQ fun EX=>Aa HK fun IR DL=>Ad .u64 IR fun Zj=>Aa DL fun DE OS=>Ad .i64 DE fun NS=>Aa OS fun MI RI=>A0 MI fun LO=>Aa RI fun HL QX=>Ad .u64 HL fun OI=>Aa QX fun JE OP=>Eu 2 JE fun UJ HV JO=>Aa OP fun RU RP=>A0 RU fun RF=>Aa RP fun XE RM=>Ad .i64 XE fun x81=>Aa RM fun WO XR=>Ad .i64 WO fun x84=>Af XR<|Aa KU fun TH UI=>Ad .i64 TH fun x87=>Af UI<|Hk fu call (fu) x87 FM LU HN EX Zj NS LO OI HV JO RF x81 x84):=by cases nn with|zero=>exact absurd Es (Nat.lt_irrefl 0)|succ nn=>kernel_rfl
theorem Ly (fu:Nat)(call:Aj)(nn:Nat)(Es:0<nn)(y0:Int)(y1:Nat)(y2:List PV)(y3 y4:Int)(y5 y6:Int)(y7:Bool)(y8:Int)(y9:Nat)(Dq:List PV)(D6:Bool)(Cy D8:Int):Hk fu call nn y0 y1 y2 y3 y4 y5 y6 y7 y8 y9 Dq D6 Cy D8=(Ao (call 21 [.agg [.lst false 1 y1 y2,.sc (.int .i64 y3),.sc (.int .u64 y4),.sc (.int .u64 y5),.sc (.int .i64 y6),.sc (.bool y7),.sc (.int .u64 y8),.lst false 2 y9 Dq,.sc (.bool D6),.sc (.int .i64 Cy),.sc (.int .i64 D8)],.sc (.int .i64 3),.sc (.int .i64 2),.sc (.int .i64 8)]) fun x88 RE=>Af RE<|Aa x88 fun XX YT=>Dv XX fun XS=>Aa XS fun XQ x94=>Eu 1 XQ fun x95 x96 x97=>Aa x94 fun x98 x99=>Ad .i64 x98 fun JI=>Aa x99 fun JF FV=>Ad .u64 JF fun KZ=>Aa FV fun BK Rx=>Ad .u64 BK fun IZ=>Aa Rx fun KL OE=>Ad .i64 KL fun EH=>Aa OE fun GA IE=>A0 GA fun KJ=>Aa IE fun GE KM=>Ad .u64 GE fun FW=>Aa KM fun NV RZ=>Eu 2 NV fun Ach NK TJ=>Aa RZ fun TU XH=>A0 TU fun UT=>Aa XH fun WD WG=>Ad .i64 WD fun SB=>Aa WG fun ZB TV=>Ad .i64 ZB fun UB=>Af TV<|Aa YT fun WK SH=>Ad .i64 WK fun TN=>Af SH<|Hn fu call (fu) (y0) TN x96 x97 JI KZ IZ EH KJ FW NK TJ UT SB UB):=by cases nn with|zero=>exact absurd Es (Nat.lt_irrefl 0)|succ nn=>kernel_rfl
theorem Lx (fu:Nat)(call:Aj)(nn:Nat)(Es:0<nn)(y0 y1:Int)(y2:Nat)(y3:List PV)(y4 y5:Int)(y6 y7:Int)(y8:Bool)(y9:Int)(Dq:Nat)(D6:List PV)(Cy:Bool)(D8 Eh:Int):Hn fu call nn y0 y1 y2 y3 y4 y5 y6 y7 y8 y9 Dq D6 Cy D8 Eh=(Ao (call 21 [.agg [.lst false 1 y2 y3,.sc (.int .i64 y4),.sc (.int .u64 y5),.sc (.int .u64 y6),.sc (.int .i64 y7),.sc (.bool y8),.sc (.int .u64 y9),.lst false 2 Dq D6,.sc (.bool Cy),.sc (.int .i64 D8),.sc (.int .i64 Eh)],.sc (.int .i64 0),.sc (.int .i64 0),.sc (.int .i64 9)]) fun UD TG=>Af TG<|Aa UD fun WA TM=>Dv WA fun VW=>Aa VW fun SW TO=>Eu 1 SW fun Ab5 RX RY=>Aa TO fun WN II=>Ad .i64 WN fun RV=>Aa II fun UQ TX=>Ad .u64 UQ fun UZ=>Aa TX fun Aer Akh=>Ad .u64 Aer fun Afx=>Aa Akh fun Afs Agx=>Ad .i64 Afs fun Agh=>Aa Agx fun Ag8 Af0=>A0 Ag8 fun Agj=>Aa Af0 fun Ah6 Ahe=>Ad .u64 Ah6 fun Af6=>Aa Ahe fun Ahy Ahi=>Eu 2 Ahy fun Aj6 Ae9 Ag2=>Aa Ahi fun Ad4 Agk=>A0 Ad4 fun Ae6=>Aa Agk fun Aec Ag3=>Ad .i64 Aec fun Aev=>Aa Ag3 fun All Ae7=>Ad .i64 All fun Afy=>Af Ae7<|Aa TM fun Aeo Aex=>Ad .i64 Aeo fun Afq=>Af Aex<|Hf fu call (fu) (y0) (y1) Afq (y2) (y3) (y4) (y5) (y6) (y7) (y8) (y9) (Dq) (D6) (Cy) (D8) (Eh) RX RY RV UZ Afx Agh Agj Af6 Ae9 Ag2 Ae6 Aev Afy):=by cases nn with|zero=>exact absurd Es (Nat.lt_irrefl 0)|succ nn=>kernel_rfl
theorem Lo (fu:Nat)(call:Aj)(nn:Nat)(Es:0<nn)(y0 y1 y2:Int)(y3:Nat)(y4:List PV)(y5 y6:Int)(y7 y8:Int)(y9:Bool)(Dq:Int)(D6:Nat)(Cy:List PV)(D8:Bool)(Eh Fh:Int)(Et:Nat)(Ep:List PV)(H3 Jo:Int)(Jq Ju:Int)(Jn:Bool)(Jt:Int)(Jv:Nat)(Jp:List PV)(Jk:Bool)(Jj Jm:Int):Hf fu call nn y0 y1 y2 y3 y4 y5 y6 y7 y8 y9 Dq D6 Cy D8 Eh Fh Et Ep H3 Jo Jq Ju Jn Jt Jv Jp Jk Jj Jm=(Ao (call 21 [.agg [.lst false 1 y3 y4,.sc (.int .i64 y5),.sc (.int .u64 y6),.sc (.int .u64 y7),.sc (.int .i64 y8),.sc (.bool y9),.sc (.int .u64 Dq),.lst false 2 D6 Cy,.sc (.bool D8),.sc (.int .i64 Eh),.sc (.int .i64 Fh)],.sc (.int .i64 3),.sc (.int .i64 2),.sc (.int .i64 9)]) fun Ah0 Ae0=>Af Ae0<|Aa Ah0 fun Aia Ahz=>Dv Aia fun Ae5=>Aa Ae5 fun Afh Aet=>Eu 1 Afh fun Alm Aez Aff=>Aa Aet fun Ahl Ah3=>Ad .i64 Ahl fun Ah4=>Aa Ah3 fun Ad6 Agd=>Ad .u64 Ad6 fun Af9=>Aa Agd fun Ahh Aj9=>Ad .u64 Ahh fun Afj=>Aa Aj9 fun Aek Ahm=>Ad .i64 Aek fun Aic=>Aa Ahm fun Af7 Ae3=>A0 Af7 fun Aew=>Aa Ae3 fun Aib Ad9=>Ad .u64 Aib fun Aes=>Aa Ad9 fun Afg Ah8=>Eu 2 Afg fun Ajn Agt Ags=>Aa Ah8 fun Ahv Ahj=>A0 Ahv fun Aii=>Aa Ahj fun Ag7 Afa=>Ad .i64 Ag7 fun Afl=>Aa Afa fun Aei Ahc=>Ad .i64 Aei fun Ag9=>Af Ahc<|Aa Ahz fun Ael Agp=>Ad .i64 Ael fun Aep=>Af Agp<|Hm fu call (fu) (y0) (y1) (y2) Aep (y3) (y4) (y5) (y6) (y7) (y8) (y9) (Dq) (D6) (Cy) (D8) (Eh) (Fh) (Et) (Ep) (H3) (Jo) (Jq) (Ju) (Jn) (Jt) (Jv) (Jp) (Jk) (Jj) (Jm) Aez Aff Ah4 Af9 Afj Aic Aew Aes Agt Ags Aii Afl Ag9):=by cases nn with|zero=>exact absurd Es (Nat.lt_irrefl 0)|succ nn=>kernel_rfl
theorem Mc (fu:Nat)(call:Aj)(nn:Nat)(Es:0<nn)(y0 y1:Int)(y2 y3:Int)(y4:Nat)(y5:List PV)(y6 y7:Int)(y8 y9:Int)(Dq:Bool)(D6:Int)(Cy:Nat)(D8:List PV)(Eh:Bool)(Fh Et:Int)(Ep:Nat)(H3:List PV)(Jo Jq:Int)(Ju Jn:Int)(Jt:Bool)(Jv:Int)(Jp:Nat)(Jk:List PV)(Jj:Bool)(Jm Ni:Int)(Tu:Nat)(X7:List PV)(Pw OC:Int)(QM NL:Int)(OB:Bool)(OG:Int)(PT:Nat)(QC:List PV)(QV:Bool)(NO PW:Int):Hm fu call nn y0 y1 y2 y3 y4 y5 y6 y7 y8 y9 Dq D6 Cy D8 Eh Fh Et Ep H3 Jo Jq Ju Jn Jt Jv Jp Jk Jj Jm Ni Tu X7 Pw OC QM NL OB OG PT QC QV NO PW=(Ao (call 15 [.lst false 3 0 [],.sc (.string (ByteArray.mk #[97,108,105,99,101])),.sc (.string (ByteArray.mk #[117])),.agg [.lst false 1 y4 y5,.sc (.int .i64 y6),.sc (.int .u64 y7),.sc (.int .u64 y8),.sc (.int .i64 y9),.sc (.bool Dq),.sc (.int .u64 D6),.lst false 2 Cy D8,.sc (.bool Eh),.sc (.int .i64 Fh),.sc (.int .i64 Et)]]) fun Age Aln=>Af Aln<|Aa Age fun Ae2 Aht=>Eu 3 Ae2 fun Alz Agl Ahf=>Aa Aht fun Af8 Afm=>Ad .i64 Af8 fun Afe=>Af Afm<|Hp fu call (fu) (y0) (y1) (y2) (y3) Agl Ahf Afe (y4) (y5) (y6) (y7) (y8) (y9) (Dq) (D6) (Cy) (D8) (Eh) (Fh) (Et) (Ep) (H3) (Jo) (Jq) (Ju) (Jn) (Jt) (Jv) (Jp) (Jk) (Jj) (Jm) (Ni) (Tu) (X7) (Pw) (OC) (QM) (NL) (OB) (OG) (PT) (QC) (QV) (NO) (PW)):=by cases nn with|zero=>exact absurd Es (Nat.lt_irrefl 0)|succ nn=>kernel_rfl
theorem L7 (fu:Nat)(call:Aj)(nn:Nat)(Es:0<nn)(y0 y1:Int)(y2 y3:Int)(y4:Nat)(y5:List PV)(y6:Int)(y7:Nat)(y8:List PV)(y9 Dq:Int)(D6 Cy:Int)(D8:Bool)(Eh:Int)(Fh:Nat)(Et:List PV)(Ep:Bool)(H3 Jo:Int)(Jq:Nat)(Ju:List PV)(Jn Jt:Int)(Jv Jp:Int)(Jk:Bool)(Jj:Int)(Jm:Nat)(Ni:List PV)(Tu:Bool)(X7 Pw:Int)(OC:Nat)(QM:List PV)(NL OB:Int)(OG PT:Int)(QC:Bool)(QV:Int)(NO:Nat)(PW:List PV)(y43:Bool)(y44 ZV:Int):Hp fu call nn y0 y1 y2 y3 y4 y5 y6 y7 y8 y9 Dq D6 Cy D8 Eh Fh Et Ep H3 Jo Jq Ju Jn Jt Jv Jp Jk Jj Jm Ni Tu X7 Pw OC QM NL OB OG PT QC QV NO PW y43 y44 ZV=(Ao (call 18 [.lst false 3 y4 y5,.sc (.string (ByteArray.mk #[97,108,105,99,101]))]) fun Ad7 Ahx=>Af Ahx<|Aa Ad7 fun Agu Agz=>Ad .i64 Agu fun Aie=>Aa Agz fun Agc Alq=>A0 Agc fun Ag0=>Af Alq<|He fu call (fu) (y0) (y1) (y2) (y3) (y4) (y5) (y6) Aie Ag0 (y7) (y8) (y9) (Dq) (D6) (Cy) (D8) (Eh) (Fh) (Et) (Ep) (H3) (Jo) (Jq) (Ju) (Jn) (Jt) (Jv) (Jp) (Jk) (Jj) (Jm) (Ni) (Tu) (X7) (Pw) (OC) (QM) (NL) (OB) (OG) (PT) (QC) (QV) (NO) (PW) (y43) (y44) (ZV)):=by cases nn with|zero=>exact absurd Es (Nat.lt_irrefl 0)|succ nn=>kernel_rfl
theorem Mh (fu:Nat)(call:Aj)(nn:Nat)(Es:0<nn)(y0 y1:Int)(y2 y3:Int)(y4:Nat)(y5:List PV)(y6 y7:Int)(y8:Bool)(y9:Nat)(Dq:List PV)(D6 Cy:Int)(D8 Eh:Int)(Fh:Bool)(Et:Int)(Ep:Nat)(H3:List PV)(Jo:Bool)(Jq Ju:Int)(Jn:Nat)(Jt:List PV)(Jv Jp:Int)(Jk Jj:Int)(Jm:Bool)(Ni:Int)(Tu:Nat)(X7:List PV)(Pw:Bool)(OC QM:Int)(NL:Nat)(OB:List PV)(OG PT:Int)(QC QV:Int)(NO:Bool)(PW:Int)(y43:Nat)(y44:List PV)(ZV:Bool)(y46 y47:Int):He fu call nn y0 y1 y2 y3 y4 y5 y6 y7 y8 y9 Dq D6 Cy D8 Eh Fh Et Ep H3 Jo Jq Ju Jn Jt Jv Jp Jk Jj Jm Ni Tu X7 Pw OC QM NL OB OG PT QC QV NO PW y43 y44 ZV y46 y47=(Bu (y0==0) (Bu (y1==0) (Bu (y2==37) (Bu (y3==37) (Bu (y6==0) (Bu (!Pw) (Bu (ZV) (Bu (Et==10) (Bu ((↑Ep:Int)==2) (Bu (y8) (Bu (y7==0) (Ao (call 17 [.lst false 3 y4 y5,.sc (.int .u64 1),.sc (.string (ByteArray.mk #[98,111,98]))]) fun Af3 Ahg=>Af Ahg<|Aa Af3 fun Agg Aig=>Ov 1 Agg fun OL Ajj=>Af Aig<|some (A7.mk [.sc (.bool ((↑OL:Int)==4))] [])) (some (A7.mk [.sc (.bool false)] []))) (some (A7.mk [.sc (.bool false)] []))) (some (A7.mk [.sc (.bool false)] []))) (some (A7.mk [.sc (.bool false)] []))) (some (A7.mk [.sc (.bool false)] []))) (some (A7.mk [.sc (.bool false)] []))) (some (A7.mk [.sc (.bool false)] []))) (some (A7.mk [.sc (.bool false)] []))) (some (A7.mk [.sc (.bool false)] []))) (some (A7.mk [.sc (.bool false)] []))) (some (A7.mk [.sc (.bool false)] []))):=by cases nn with|zero=>exact absurd Es (Nat.lt_irrefl 0)|succ nn=>kernel_rfl
theorem Oi (fu d:Nat):Ai C0 prog fu (d+1) Id []=(fun (call:Aj)=>E6 fu call (fu)) (Ai C0 prog fu d):=by kernel_rfl
end
section
open Go.Proofs.Try (prog)
open Go.IntKind (wrap)
set_option maxRecDepth 100000
abbrev K4:FuncId:=10
theorem Q9 (fu d Bv:Nat)(a0:List PV):Ai C0 prog fu (d+1) K4 [.lst false 1 Bv a0]=(fun (call:Aj)=>some (A7.mk [.pbox [.lst false 1 Bv a0,.sc (.int .i64 0)]] [])) (Ai C0 prog fu d):=by kernel_rfl
abbrev G6:FuncId:=20
theorem K6 (fu d:Nat)(a0 a1:Int):Ai C0 prog fu (d+1) G6 [.sc (.int .i64 a0),.sc (.int .i64 a1)]=(fun (call:Aj)=>Ab (wrap .u64 a0) fun x1=>Ab (wrap .u64 a1) fun x2=>Ar (decide (x2≠0))<|Ab (Int.tmod x1 x2) fun x3=>Ab (wrap .i64 x3) fun x4=>some (A7.mk [.sc (.int .i64 x4)] [])) (Ai C0 prog fu d):=by kernel_rfl
abbrev Gr:FuncId:=14
theorem Gk (fu d Bm:Nat)(B5:List PV)(B2 a1:Int):Ai C0 prog fu (d+1) Gr [.pbox [.lst false 1 Bm B5,.sc (.int .i64 B2)],.sc (.int .i64 a1)]=(fun (call:Aj)=>Bu (decide (B2>=(↑Bm:Int))) (some (A7.mk [.sc (.int .i64 0)] [[.lst false 1 Bm B5,.sc (.int .i64 B2)]])) (Ab (wrap .i64 (B2+1)) fun x1=>Ab (wrap .i64 (x1-1)) fun x2=>Ar (decide (0<=x2)&&decide (x2<(↑Bm:Int)))<|Ad .i64 (List.getD B5 (Int.toNat x2*1) .top) fun x3=>Ao (call 20 [.sc (.int .i64 x3),.sc (.int .i64 a1)]) fun x4 x5=>Af x5<|Aa x4 fun x6 x7=>Ad .i64 x6 fun x8=>Af x7<|some (A7.mk [.sc (.int .i64 x8)] [[.lst false 1 Bm B5,.sc (.int .i64 x1)]]))) (Ai C0 prog fu d):=by kernel_rfl
end
section
open Go.IntKind (wrap)
structure Sd where
 id:List Int
 ht:Int
 root:Int
 model:Int
 fmt:Int
 sh:Bool
 used:Int
 rg:List (Int × Int)
 sus:Bool
 since:Int
 last:Int
def Eg (l:List (Int × Int)):List PV:=l.flatMap fun p=>[.sc (.int .i64 p.1),.sc (.int .i64 p.2)]
theorem Dt (l:List (Int × Int)):(Eg l).length=l.length*2:=by
 induction l with
 |nil=>rfl
 |cons p r ih=>show ([_,_]++Eg r).length=_;rw[UE,ih,OW];simp;omega
theorem TC (p:Int × Int)(r:List (Int × Int)):Eg (p::r)=.sc (.int .i64 p.1) :: .sc (.int .i64 p.2)::Eg r:=rfl
theorem K8 (l r:List (Int × Int)):Eg (l++r)=Eg l++Eg r:=List.flatMap_append
def Sd.cells (x:Sd):List PV:=[.lst false 1 x.id.length (Au .u8 x.id),.sc (.int .i64 x.ht),.sc (.int .u64 x.root),.sc (.int .u64 x.model),.sc (.int .i64 x.fmt),.sc (.bool x.sh),.sc (.int .u64 x.used),.lst false 2 x.rg.length (Eg x.rg),.sc (.bool x.sus),.sc (.int .i64 x.since),.sc (.int .i64 x.last)]
def KP (used leaf:Int):Bool:=used.toNat.testBit leaf.toNat
theorem FF {a b:Int}(ha:0<=a)(YW:a<=18446744073709551615)(hb:0<=b)(D7:b<=18446744073709551615):DW .u64 a b=((a.toNat &&& b.toNat:Nat):Int):=by
 have e:(BitVec.ofInt 64 a &&& BitVec.ofInt 64 b).toNat=a.toNat &&& b.toNat:=by
  rw[BitVec.toNat_and,BitVec.toNat_ofInt,BitVec.toNat_ofInt]
  congr 1<;>omega
 have Sv:a.toNat &&& b.toNat<=a.toNat:=Nat.and_le_left;show wrap .u64 ((BitVec.ofInt 64 a &&& BitVec.ofInt 64 b).toNat:Int)=_;rw[e];exact Ca (by omega) (by omega)
theorem Aav {a b:Int}(ha:0<=a)(YW:a<=18446744073709551615)(hb:0<=b)(D7:b<=18446744073709551615):Sh .u64 a b=((a.toNat ||| b.toNat:Nat):Int):=by
 have e:(BitVec.ofInt 64 a ||| BitVec.ofInt 64 b).toNat=a.toNat ||| b.toNat:=by
  rw[BitVec.toNat_or,BitVec.toNat_ofInt,BitVec.toNat_ofInt]
  congr 1<;>omega
 have Bl:a.toNat ||| b.toNat<2 ^ 64:=Nat.or_lt_two_pow (by omega) (by omega)
 show wrap .u64 ((BitVec.ofInt 64 a ||| BitVec.ofInt 64 b).toNat:Int)=_;rw[e];exact Ca (by omega) (by omega)
theorem Sc {n:Nat}(h:n<=15):(2:Nat) ^ n<=32768:=Nat.le_trans (Nat.pow_le_pow_right (by omega) h) (by decide)
theorem Ak2 {k:Int}(h0:0<=k)(h1:k<=15):Fk .u64 1 k=((2 ^ k.toNat:Nat):Int):=by
 have hp:=Sc (n:=k.toNat) (by omega)
 have e:min k.toNat IntKind.u64.bits=k.toNat:=Nat.min_eq_left (by show k.toNat<=64;omega)
 show wrap .u64 (1*2 ^ (min k.toNat IntKind.u64.bits))=_;rw[e,Int.one_mul,show (2:Int) ^ k.toNat=((2 ^ k.toNat:Nat):Int) by simp]
 generalize 2 ^ k.toNat=m at hp ⊢;exact Ca (by omega) (by omega)
theorem Akk {k:Int}(h0:0<=k)(h1:k<=15):Fk .i64 1 k=((2 ^ k.toNat:Nat):Int):=by
 have hp:=Sc (n:=k.toNat) (by omega)
 have e:min k.toNat IntKind.i64.bits=k.toNat:=Nat.min_eq_left (by show k.toNat<=64;omega)
 show wrap .i64 (1*2 ^ (min k.toNat IntKind.i64.bits))=_;rw[e,Int.one_mul,show (2:Int) ^ k.toNat=((2 ^ k.toNat:Nat):Int) by simp]
 generalize 2 ^ k.toNat=m at hp ⊢;exact wrap_i64 (by omega) (by omega)
theorem ZN (a k:Nat):(a &&& 2 ^ k≠0)↔a.testBit k=true:=by
 constructor
 ·intro h;cases hb:a.testBit k
  ·refine absurd (Nat.eq_of_testBit_eq fun i=>?_) h
   rw[Nat.testBit_and,Nat.testBit_two_pow,Nat.zero_testBit];by_cases e:k=i
   ·subst e;simp[hb]
   ·simp[e]
  ·rfl
 ·intro h e;have:=Nat.testBit_and a (2 ^ k) k;rw[e,Nat.zero_testBit,h,Nat.testBit_two_pow] at this;simp at this
theorem QR {u k:Int}(hu:0<=u)(XM:u<=18446744073709551615)(h0:0<=k)(h1:k<=15):(DW .u64 u (Fk .u64 1 k) != 0)=KP u k:=by
 have hp:=Sc (n:=k.toNat) (by omega)
 have:=ZN u.toNat k.toNat;unfold KP;rw[Ak2 h0 h1];generalize 2 ^ k.toNat=m at hp this ⊢;rw[FF hu XM (by omega) (by omega),AP]
 cases hb:u.toNat.testBit k.toNat
 ·rw[hb] at this;simp only[ne_eq,Bool.false_eq_true,iff_false,Decidable.not_not] at this;rw[this];rfl
 ·rw[hb] at this;simp only[ne_eq,iff_true] at this;simp only[bne_iff_ne,ne_eq];omega
theorem JH {u k:Int}(hu:0<=u)(XM:u<=18446744073709551615)(h0:0<=k)(h1:k<=15):(DW .u64 (Te .u64 u k) 1==1)=KP u k:=by
 have e:Te .u64 u k=((u.toNat >>> k.toNat:Nat):Int):=by
  unfold Te;rw[Nat.shiftRight_eq_div_pow];obtain⟨n,rfl⟩:=Int.eq_ofNat_of_zero_le hu;rw[Int.fdiv_eq_ediv_of_nonneg _ (by exact Int.le_of_lt (Int.pow_pos (by omega))),Nat.min_eq_left (by show k.toNat<=64;omega)]
  simp
 have Sv:u.toNat >>> k.toNat<=u.toNat:=by rw[Nat.shiftRight_eq_div_pow];exact Nat.div_le_self _ _
 have e2:DW .u64 ((u.toNat >>> k.toNat:Nat):Int) 1=((u.toNat >>> k.toNat % 2:Nat):Int):=by
  generalize u.toNat >>> k.toNat=m at Sv ⊢;rw[FF (by omega) (by omega) (by omega) (by omega),AP,show Int.toNat 1=1 from rfl,Nat.and_one_is_mod]
 rw[e,e2];unfold KP;rw[Nat.testBit_eq_decide_div_mod_eq,Nat.shiftRight_eq_div_pow];rw[Bool.eq_iff_iff];simp only[beq_iff_eq,decide_eq_true_eq];generalize u.toNat / 2 ^ k.toNat=m;omega
def HI (u k:Int):Int:=Sh .u64 u (Fk .u64 1 k)
theorem Ahp {u k:Int}(hu:0<=u)(XM:u<=18446744073709551615)(h0:0<=k)(h1:k<=15):0<=HI u k∧HI u k<=18446744073709551615:=by
 have hp:=Sc (n:=k.toNat) (by omega)
 unfold HI;rw[Ak2 h0 h1];generalize 2 ^ k.toNat=m at hp ⊢;rw[Aav hu XM (by omega) (by omega)]
 have Bl:u.toNat ||| ((m:Nat):Int).toNat<2 ^ 64:=Nat.or_lt_two_pow (by omega) (by omega)
 omega
def put (f lf:Int):List (Int × Int)->Option (List (Int × Int))
 |[]=>some [(f,lf)]
 |p::r=>if p.1<f then (put f lf r).map (p :: ·) else if p.1=f then (if lf<=p.2 then none else some ((f,lf)::r)) else some ((f,lf)::p::r)
def Asc:List (Int × Int)->Prop
 |[]=>True
 |p::r=>(∀q∈r,p.1<q.1)∧Asc r
theorem MU {f lf:Int}:∀{l r:List (Int × Int)},put f lf l=some r->∀q∈r,q=(f,lf)∨q∈l
 |[],r,h,q,hq=>by cases h;simp at hq;exact .inl hq
 |p::l,r,h,q,hq=>by
  unfold put at h;split at h
  ·cases hp:put f lf l with
   |none=>rw[hp] at h;cases h
   |some r'=>
    rw[hp] at h;cases h;rcases List.mem_cons.1 hq with rfl|hq
    ·exact .inr (by simp)
    ·exact (MU hp q hq).imp id fun h=>by simp[h]
  ·split at h
   ·split at h
    ·cases h
    ·cases h;rcases List.mem_cons.1 hq with rfl|hq
     ·exact .inl rfl
     ·exact .inr (by simp[hq])
   ·cases h;rcases List.mem_cons.1 hq with rfl|hq
    ·exact .inl rfl
    ·exact .inr hq
theorem LZ {f lf:Int}:∀{l r:List (Int × Int)},Asc l->put f lf l=some r->Asc r
 |[],r,_,h=>by cases h;exact⟨by simp,trivial⟩
 |p::l,r,ha,h=>by
  unfold put at h;split at h
  ·rename_i h1;cases hp:put f lf l with
   |none=>rw[hp] at h;cases h
   |some r'=>
    rw[hp] at h;cases h;refine⟨fun q hq=>?_,LZ ha.2 hp⟩
    rcases MU hp q hq with rfl|hq
    ·exact h1
    ·exact ha.1 q hq
  ·split at h
   ·rename_i h2;split at h
    ·cases h
    ·cases h;exact⟨fun q hq=>by have:=ha.1 q hq;simp only;omega,ha.2⟩
   ·cases h;refine⟨fun q hq=>?_,ha⟩
    rcases List.mem_cons.1 hq with rfl|hq
    ·simp only;omega
    ·have:=ha.1 q hq;simp only;omega
def J0 (c:Sd)(leaf from_:Int):Bool:=decide (c.ht<0)||decide (c.ht>4)||decide (from_<0)||decide (from_>leaf)||decide (leaf>=Fk .i64 1 c.ht)
def Ig (c:Sd)(leaf from_ now:Int):Sd × Int:=
 if J0 c leaf from_=true then (c,9)
 else if c.sus=true then (c,39)
 else if KP c.used leaf=true then ({ c with sus:=true },37)
 else match put from_ leaf c.rg with
  |none=>(c,37)
  |some r=>({ c with used:=HI c.used leaf,rg:=r,last:=now },0)
structure Sd.ok (c:Sd):Prop where
 idB:Sx c.id
 idL:c.id.length<=1000000
 u0:0<=c.used
 u1:c.used<=18446744073709551615
 asc:Asc c.rg
 rgn:c.rg.length<=1000
theorem CM {f lf:Int}:∀{l r:List (Int × Int)},put f lf l=some r->r.length<=l.length+1
 |[],r,h=>by cases h;simp
 |p::l,r,h=>by
  unfold put at h;split at h
  ·cases hp:put f lf l with
   |none=>rw[hp] at h;cases h
   |some r'=>
    rw[hp] at h;cases h;have:=CM hp;simp;omega
  ·split at h
   ·split at h
    ·cases h
    ·cases h;simp
   ·cases h;simp
theorem Qp {c:Sd}{leaf from_:Int}(h:J0 c leaf from_=false):0<=from_∧from_<=leaf∧leaf<=15∧0<=c.ht∧c.ht<=4∧leaf<((2 ^ c.ht.toNat:Nat):Int):=by
 unfold J0 at h;simp only[Bool.or_eq_false_iff,decide_eq_false_iff_not] at h;obtain⟨⟨⟨⟨h1,h2⟩,h3⟩,h4⟩,h5⟩:=h;rw[Akk (by omega) (by omega)] at h5
 have hp:(2:Nat) ^ c.ht.toNat<=2 ^ 4:=Nat.pow_le_pow_right (by omega) (by omega)
 have h16:(2:Nat) ^ 4=16:=by decide
 omega
end
section
open Go.Proofs.Try (prog)
open Go.IntKind (wrap)
set_option maxRecDepth 100000
theorem GM {α:Type}{l:List α}{i:Nat}{a:α}(h:l[i]?=some a):l.set i a=l:=by
 refine List.ext_getElem? fun j=>?_
 rw[List.getElem?_set];by_cases hj:i=j
 ·subst hj;rw[Oj rfl,Oj (Lh h),h]
 ·rw[Om hj]
section
variable {xs:FuncId->Option (List PV->Option A7)} {fu d:Nat}
theorem Zt {n:Nat}{c:List PV}(hc:c.length=n)(hn:n<=1000000):Ai (CX xs) prog fu (d+1) P8 [.lst false 1 n c]=some ⟨[.own 1 n c],[]⟩:=by
 rw[Yl];have t1:List.take n c=c:=N1 (by omega)
 by_cases h:0<n
 ·simp (disch:=omega) only[Ds,Vq,Zzq,t1,hc,O6]
 ·have h0:n=0:=by omega
  subst h0;have:=List.length_eq_zero_iff.1 hc;subst this;simp (disch:=omega) only[Ds,Vq,Zzq,List.length_nil,O6,Nat.zero_mul,List.take_nil]
theorem RC {n:Nat}{c:List PV}(hc:c.length=n*2)(hn:n<=1000000):Ai (CX xs) prog fu (d+1) Ii [.lst false 2 n c]=some ⟨[.own 2 n c],[]⟩:=by
 rw[Oc];have t1:List.take (n*2) c=c:=N1 (by omega)
 by_cases h:0<n
 ·simp (disch:=omega) only[Ds,Vq,Zzq,t1,hc]
 ·have h0:n=0:=by omega
  subst h0;have:=List.length_eq_zero_iff.1 hc;subst this;simp (disch:=omega) only[Ds,Vq,Zzq,List.length_nil,Nat.zero_mul,List.take_nil]
def Sd.ocells (x:Sd):List PV:=[.own 1 x.id.length (Au .u8 x.id),.sc (.int .i64 x.ht),.sc (.int .u64 x.root),.sc (.int .u64 x.model),.sc (.int .i64 x.fmt),.sc (.bool x.sh),.sc (.int .u64 x.used),.own 2 x.rg.length (Eg x.rg),.sc (.bool x.sus),.sc (.int .i64 x.since),.sc (.int .i64 x.last)]
theorem P2 {c:Sd}(h1:c.id.length<=1000000)(h2:c.rg.length<=1000000):Ai (CX xs) prog fu (d+2) Ij [.agg c.cells]=some ⟨[.agg c.ocells],[]⟩:=by
 refine (Of fu (d+1) c.id.length (Au .u8 c.id) c.ht c.root c.model c.fmt c.sh c.used c.rg.length (Eg c.rg) c.sus c.since c.last).trans ?_;have q1:=Zt (xs:=xs) (fu:=fu) (d:=d) (Bf .u8 c.id) h1;have q2:=RC (xs:=xs) (fu:=fu) (d:=d) (Dt c.rg) h2;have l1:=Bf .u8 c.id;have l2:=Dt c.rg;have t1:List.take (c.id.length*1) (Au .u8 c.id)=Au .u8 c.id:=N1 (by omega)
 have t2:List.take (c.rg.length*2) (Eg c.rg)=Eg c.rg:=N1 (by omega)
 simp (disch:=omega) only[Ds,q1,q2,t1,t2];rfl
end
section
variable {fu d:Nat}
theorem PX {c:List PV}{n:Nat}{i f l:Int}(hc:c.length=n*2)(h0:0<=i)(h1:i<=n)(hn:n<=100000)(ha:c.all Xf=true):
  Ai C0 prog fu (d+1) 45 [.own 2 n c,.sc (.int .i64 i),.tup [.own 2 1 [.sc (.int .i64 f),.sc (.int .i64 l)]]] =
   some ⟨[.own 2 (n+1) (c.take (i.toNat*2)++(.sc (.int .i64 f) :: .sc (.int .i64 l)::c.drop (i.toNat*2)))],[[.sc (.int .i64 f),.sc (.int .i64 l)]]⟩:=by
 have h:Ai C0 prog fu (d+1) 45 [.own 2 n c,.sc (.int .i64 i),.tup [.own 2 1 [.sc (.int .i64 f),.sc (.int .i64 l)]]]=UG [.own 2 n c,.sc (.int .i64 i),.tup [.own 2 1 [.sc (.int .i64 f),.sc (.int .i64 l)]]]:=by kernel_rfl
 rw[h];unfold UG
 have e:(Nat.beq c.length (n*2)&&decide (0<=i)&&decide (i<=n)&&Nat.ble n 100000&&c.all Xf)=true:=by
  simp[ha,hc,h0,h1,hn]
 simp only[e,cond_true]
theorem Aa9 (l:List (Int × Int)):(Eg l).all Xf=true:=by
 rw[List.all_eq_true];intro x hx;obtain⟨p,_,hp⟩:=List.mem_flatMap.1 hx;rcases List.mem_cons.1 hp with rfl|hp
 ·rfl
 ·rw[List.mem_singleton] at hp;subst hp;rfl
theorem YJ {l:List (Int × Int)} {i:Nat}{p:Int × Int}(h:l[i]?=some p):(Eg l).getD (i*2) .top=.sc (.int .i64 p.1):=by
 have:=Y2 (f:=fun p:Int × Int=>[PV.sc (.int .i64 p.1),.sc (.int .i64 p.2)]) (k:=2) (fun _=>rfl) h (j:=0) (by omega)
 exact this
theorem Acm {l:List (Int × Int)} {i:Nat}{p:Int × Int}(h:l[i]?=some p):(Eg l).getD (i*2+1) .top=.sc (.int .i64 p.2):=by
 have:=Y2 (f:=fun p:Int × Int=>[PV.sc (.int .i64 p.1),.sc (.int .i64 p.2)]) (k:=2) (fun _=>rfl) h (j:=1) (by omega)
 exact this
def Q3 (c:Sd)(leaf now:Int):Option (List (Int × Int))->A7
 |none=>⟨[.agg c.cells,.sc (.int .i64 37)],[]⟩
 |some r=>⟨[.agg ({ c with used:=HI c.used leaf,rg:=r,last:=now }:Sd).cells,.sc (.int .i64 0)],[]⟩
theorem UH {c:Sd}{leaf from_ now:Int}(hl:0<=leaf∧leaf<=15)(hr:c.rg.length<=1000)(Ay:c.id.length<=1000000){call:Aj}
  (Abb:∀i:Nat,i<=c.rg.length->call 45 [.own 2 c.rg.length (Eg c.rg),.sc (.int .i64 (i:Int)),.tup [.own 2 1 [.sc (.int .i64 from_),.sc (.int .i64 leaf)]]]=some ⟨[.own 2 (c.rg.length+1) ((Eg c.rg).take (i*2)++(.sc (.int .i64 from_) :: .sc (.int .i64 leaf)::(Eg c.rg).drop (i*2)))],[[.sc (.int .i64 from_),.sc (.int .i64 leaf)]]⟩)
  {Bv:Nat} {a0:List PV} {a1 a2 a3 a4 a6 a9 a10 b1 b2 b3:Int} {a5 a8:Bool} {ZA:Nat} {a7:List PV} {z1:Nat} {z2 z3 z4 z5 z7 z10 z11:Int} {z6 z9:Bool} {z8:Nat} {z12 z13:List PV}:
  ∀(r:List (Int × Int)) (i nn:Nat),c.rg.drop i=r->r.length<nn->i<=c.rg.length->(∀p∈c.rg.take i,p.1<from_) ->
   E8 fu call Bv a0 a1 a2 a3 a4 a5 a6 ZA a7 a8 a9 a10 b1 b2 b3 nn leaf from_ now (Fk .u64 1 leaf) (i:Int) c.id.length c.ht c.root c.model c.fmt c.sh c.used c.rg.length c.sus c.since c.last (Au .u8 c.id) (Eg c.rg) z1 z2 z3 z4 z5 z6 z7 z8 z9 z10 z11 z12 z13 =
    some (Q3 c leaf now ((put from_ leaf r).map (c.rg.take i ++ ·))):=by
 intro r;have l1:=Bf .u8 c.id;have l2:=Dt c.rg;have t1:List.take (c.id.length*1) (Au .u8 c.id)=Au .u8 c.id:=N1 (by omega)
 have t2:List.take (c.rg.length*2) (Eg c.rg)=Eg c.rg:=N1 (by omega)
 have eS:Sh .u64 c.used (Fk .u64 1 leaf)=HI c.used leaf:=rfl
 have insR:∀(i:Nat) (s:List (Int × Int)),i<=c.rg.length->c.rg.drop i=s->(Eg c.rg).take (i*2)++(.sc (.int .i64 from_) :: .sc (.int .i64 leaf)::(Eg c.rg).drop (i*2))=Eg (c.rg.take i++(from_,leaf)::s):=by
  intro i s hi hs;have e1:=AU (f:=fun p:Int × Int=>[PV.sc (.int .i64 p.1),.sc (.int .i64 p.2)]) (k:=2) (fun _=>rfl) c.rg i
  have e2:=Vs (f:=fun p:Int × Int=>[PV.sc (.int .i64 p.1),.sc (.int .i64 p.2)]) (k:=2) (fun _=>rfl) c.rg i
  rw[K8,TC,←hs];unfold Eg;rw[e1,e2]
 have setR:∀(i:Nat) (l:List (Int × Int)) (p:Int × Int),l[i]?=some p->A4 (Eg l) [.sc (.int .i64 leaf)] (0+i*2+1)=Eg (l.set i (p.1,leaf)):=by
  intro i l p h;have Bl:=Lh h;have DD:=Dt l;rw[Xx (by omega)]
  have:=JC (f:=fun p:Int × Int=>[PV.sc (.int .i64 p.1),.sc (.int .i64 p.2)]) (k:=2) (fun _=>rfl) (p:=.sc (.int .i64 leaf)) (j:=1) (by omega) (y:=(p.1,leaf)) h rfl
  unfold Eg;rw[←this]
  congr 1
  omega
 induction r with
 |nil=>
  intro i nn hd Es hi hp;have X9:i=c.rg.length:=by have:=drop_nil hd;omega
  obtain⟨nn,rfl⟩:∃k,nn=k+1:=⟨nn-1,by omega⟩
  rw[I8];have q:=Abb i hi;have eI:=insR i [] hi hd;rw[eI] at q;have ht:c.rg.take i=c.rg:=N1 (by omega)
  rw[ht] at q;have eG:(c.rg++[(from_,leaf)])[i]?=some (from_,leaf):=by rw[X9];simp
  have eS2:=setR i _ _ eG;have eS3:=GM eG;rw[eS3] at eS2;have lR:=Dt (c.rg++[(from_,leaf)]);have lA:(c.rg++[(from_,leaf)]).length=c.rg.length+1:=by simp
  have tR:List.take ((c.rg.length+1)*2) (Eg (c.rg++[(from_,leaf)]))=Eg (c.rg++[(from_,leaf)]):=N1 (by omega)
  have eq1:((i:Int)==(c.rg.length:Int))=true:=by simp[X9]
  have tn:Int.toNat (i:Int)=i:=rfl;have eX:put from_ leaf []=some [(from_,leaf)]:=rfl;rw[eX];simp only[Option.map_some,ht]
  try unfold Ab
  repeat first
   |((with_reducible first|apply Gb|apply Er|apply Gc|apply G5|apply EU|apply Jx|apply Em|apply F9|apply Gd);· first|with_reducible rfl|(simp (disch:=omega) only[gT,q,t1,t2,tR,eS,eS2,eq1,tn,Sy,lR,lA]<;>first|with_reducible rfl|omega)|omega)
   |(with_reducible apply Ge;· first|with_reducible rfl|(simp (disch:=omega) only[gF,q,t1,t2,tR,eS,eS2,eq1,tn,Sy,lR,lA]<;>omega))
  try simp (disch:=omega) only[q,t1,t2,tR,eS,eS2,eq1,tn,Sy,lR,lA]
  simp only[Q3,Sd.cells,lA]
 |cons p r ih=>
  intro i nn hd Es hi hp;obtain⟨Bl,Eo,hd'⟩:=Fj hd;obtain⟨nn,rfl⟩:∃k,nn=k+1:=⟨nn-1,by omega⟩
  rw[I8];have eF:=YJ Eo;have eL:=Acm Eo;have tn:Int.toNat (i:Int)=i:=rfl;have a0':(0:Nat)+i*2+0=i*2:=by omega
  have a1':(0:Nat)+i*2+1=i*2+1:=by omega
  have lt1:decide ((i:Int)<(c.rg.length:Int))=true:=by simp;omega
  have ne1:((i:Int)==(c.rg.length:Int))=false:=by simp;omega
  have w1:wrap .i64 ((i:Int)+1)=((i+1:Nat):Int):=by rw[wrap_i64 (by omega) (by omega)];omega
  have tk:c.rg.take (i+1)=c.rg.take i++[p]:=by rw[List.take_add_one,Eo];rfl
  unfold put;by_cases c1:p.1<from_
  ·rw[Oj c1]
   have ihh:=ih (i+1) nn hd' (by simp at Es;omega) (by omega) (by
    intro q hq;rw[tk] at hq;rcases List.mem_append.1 hq with hq|hq
    ·exact hp q hq
    ·rw[List.mem_singleton] at hq;subst hq;exact c1)
   have e:((put from_ leaf r).map (p :: ·)).map (c.rg.take i ++ ·)=(put from_ leaf r).map (c.rg.take (i+1) ++ ·):=by
    rw[Option.map_map,tk]
    congr 1
    funext x
    simp
   rw[e,←ihh];have d1:decide (p.1<from_)=true:=by simp[c1]
   simp (disch:=omega) only[Ds,tn,a0',eF,w1,lt1,d1]
  ·rw[Om c1];have d1:decide (p.1<from_)=false:=by simp;omega
   by_cases c2:p.1=from_
   ·rw[Oj c2];have d2:(p.1 != from_)=false:=by simp[c2]
    by_cases c3:leaf<=p.2
    ·rw[Oj c3];have d3:decide (p.2>=leaf)=true:=by simp;omega
     simp (disch:=omega) only[Ds,tn,a0',a1',eF,eL,lt1,d1,ne1,d2,d3,t1,t2,Sy,Option.map_none];rfl
    ·rw[Om c3];have d3:decide (p.2>=leaf)=false:=by simp;omega
     have eS2:=setR i _ _ Eo;have lR:=Dt (c.rg.set i (p.1,leaf));have lA:(c.rg.set i (p.1,leaf)).length=c.rg.length:=by simp
     have eA:c.rg.set i (p.1,leaf)=c.rg.take i++(from_,leaf)::r:=by
      rw[List.set_eq_take_append_cons_drop,Oj Bl,hd',c2]
     have tR:List.take (c.rg.length*2) (Eg (c.rg.set i (p.1,leaf)))=Eg (c.rg.set i (p.1,leaf)):=N1 (by omega)
     rw[a1'] at eS2;have hS3:i*2+1+1<=(Eg c.rg).length:=by omega
     simp (disch:=omega) only[Ds,tn,a0',a1',eF,eL,lt1,d1,ne1,d2,d3,t1,tR,Sy,Option.map_some,eS2,eS,lR,lA];simp only[Q3,Sd.cells,←eA,lA]
   ·rw[Om c2];have d2:(p.1 != from_)=true:=by simp[c2]
    have q:=Abb i hi;have eI:=insR i (p::r) hi hd;rw[eI] at q
    have eG:(c.rg.take i++(from_,leaf)::p::r)[i]?=some (from_,leaf):=by
     rw[List.getElem?_append_right (by rw[List.length_take];omega),List.length_take,Nat.min_eq_left (by omega),Nat.sub_self];rfl
    have eS2:=setR i _ _ eG;have eS3:=GM eG;rw[eS3] at eS2
    have lA:(c.rg.take i++(from_,leaf)::p::r).length=c.rg.length+1:=by
     have:=congrArg List.length hd;simp at this ⊢;omega
    have lR:=Dt (c.rg.take i++(from_,leaf)::p::r);rw[Option.map_some];generalize hL:c.rg.take i++(from_,leaf)::p::r=L at *
    have tR:List.take ((c.rg.length+1)*2) (Eg L)=Eg L:=N1 (by omega)
    rw[a1'] at eS2;have hS3:i*2+1+1<=(Eg L).length:=by omega
    simp (disch:=omega) only[Ds,tn,a0',a1',eF,lt1,d1,ne1,d2,t1,t2,q,tR,Sy,eS2,eS,lR,lA];simp only[Q3,Sd.cells,lA]
theorem H4 {c:Sd}(hk:c.ok)(D9:2000<=fu)(leaf from_ now:Int):Ai C0 prog fu (d+4) L5 [.agg c.cells,.sc (.int .i64 leaf),.sc (.int .i64 from_),.sc (.int .i64 now)]=some ⟨[.agg (Ig c leaf from_ now).1.cells,.sc (.int .i64 (Ig c leaf from_ now).2)],[]⟩:=by
 refine (T0 fu (d+3) c.id.length (Au .u8 c.id) c.ht c.root c.model c.fmt c.sh c.used c.rg.length (Eg c.rg) c.sus c.since c.last leaf from_ now).trans ?_;have q:=P2 (xs:=Gl) (fu:=fu) (d:=d+1) hk.idL (Nat.le_trans hk.rgn (by omega))
 simp only[Sd.cells,Sd.ocells] at q;have l1:=Bf .u8 c.id;have l2:=Dt c.rg;have t1:List.take (c.id.length*1) (Au .u8 c.id)=Au .u8 c.id:=N1 (by omega)
 have t2:List.take (c.rg.length*2) (Eg c.rg)=Eg c.rg:=N1 (by omega)
 simp (disch:=omega) only[Ds,q,t1,t2,Sy,l1,l2];by_cases h1:c.ht<0
 ·have hb:J0 c leaf from_=true:=by simp[J0,h1]
  unfold Ig;rw[Oj hb];simp (disch:=omega) only[Ds];rfl
 by_cases h2:c.ht>4
 ·have hb:J0 c leaf from_=true:=by simp[J0,h2]
  unfold Ig;rw[Oj hb];simp (disch:=omega) only[Ds];rfl
 by_cases h3:from_<0
 ·have hb:J0 c leaf from_=true:=by simp[J0,h3]
  unfold Ig;rw[Oj hb];simp (disch:=omega) only[Ds];rfl
 by_cases h4:from_>leaf
 ·have hb:J0 c leaf from_=true:=by simp[J0,h4]
  unfold Ig;rw[Oj hb];simp (disch:=omega) only[Ds];rfl
 by_cases h5:leaf>=Fk .i64 1 c.ht
 ·have hb:J0 c leaf from_=true:=by simp[J0,h5]
  unfold Ig;rw[Oj hb];simp (disch:=omega) only[Ds];rfl
 have hb:J0 c leaf from_=false:=by simp[J0,h1,h2,h3,h4,h5]
 obtain⟨r1,r2,r3,r4,r5,r6⟩:=Qp hb;unfold Ig;rw[Om (by rw[hb];simp)]
 simp (disch:=omega) only[Ds];rw[Pk (Es:=by omega)]
 have ub:=QR hk.u0 hk.u1 (k:=leaf) (by omega) (by omega)
 by_cases hs:c.sus=true
 ·have hsT:∀x y:Option A7,Bu c.sus x y=x:=fun x y=>by rw[hs];rfl
  rw[Oj hs];simp (disch:=omega) only[Ds,hsT,t1,t2,Sy];rfl
 ·have hsF:∀x y:Option A7,Bu c.sus x y=y:=fun x y=>by rw[Bool.not_eq_true] at hs;rw[hs];rfl
  rw[Om hs];by_cases Km:KP c.used leaf=true
  ·rw[Km] at ub;rw[Oj Km];simp (disch:=omega) only[Ds,hsF,ub,t1,t2,Sy];rfl
  ·rw[Bool.not_eq_true] at Km;rw[Km] at ub;rw[Om (by simp[Km])]
   simp (disch:=omega) only[Ds,hsF,ub];refine (UH (c:=c) (leaf:=leaf) (from_:=from_) (now:=now) (by omega) hk.rgn hk.idL (fun i hi=>PX (Dt _) (by omega) (by omega) (by have:=hk.rgn;omega) (Aa9 _)) c.rg 0 fu rfl (by have:=hk.rgn;omega) (by omega) (by simp)).trans ?_
   have e0:(Option.map (List.take 0 c.rg ++ ·) (put from_ leaf c.rg))=put from_ leaf c.rg:=by
    rw[List.take_zero];cases put from_ leaf c.rg<;>rfl
   rw[e0];cases put from_ leaf c.rg<;>rfl
end
end
section
open Go.Proofs.Try (prog)
open Go.IntKind (wrap)
set_option maxRecDepth 100000
section
variable {fu d:Nat}
theorem IM (a b c:Int):Ai C0 prog fu (d+1) Hd [.sc (.int .i64 a),.sc (.int .i64 b),.sc (.int .i64 c)]=some ⟨[.sc (.bool (decide (b<=a)&&decide (a<=c)))],[]⟩:=by
 rw[Nr];by_cases h1:b<=a
 ·simp (disch:=omega) only[Ds,h1,decide_true,Bool.true_and]
 ·have U6:¬a>=b:=by omega
  simp[Bu,h1,U6]
theorem Y6 {c:Sd}{leaf from_ now:Int}(hl:0<=leaf∧leaf<=15)(hr:c.rg.length<=1000){call:Aj}
  {Bv:Nat} {a0:List PV} {a1 a2 a3 a4 a6 a9 a10 b1 b2 b3:Int} {a5 a8:Bool} {ZA:Nat} {a7:List PV} {z1 z8:Nat} {z2 z3 z4 z5 z7 z10 z11:Int} {z6 z9:Bool} {z12 z13:List PV}:
  ∀(r:List (Int × Int)) (i nn:Nat) (out:List (Int × Int)),c.rg.drop i=r->r.length<nn->i<=c.rg.length->out.length<=i+1->(∀p∈r,from_<p.1) ->
   A5 fu call Bv a0 a1 a2 a3 a4 a5 a6 ZA a7 a8 a9 a10 b1 b2 b3 nn leaf from_ now out.length true (i:Int) c.id.length (Au .u8 c.id) c.ht c.root c.model c.fmt c.sh c.used c.rg.length (Eg c.rg) c.sus c.since c.last z1 z2 z3 z4 z5 z6 z7 z8 z9 z10 z11 z12 z13 (Eg out) =
    some (Q3 c leaf now (some (out++r))):=by
 intro r;have l2:=Dt c.rg;have w0:wrap .u64 leaf=leaf:=Ca (by omega) (by omega)
 have eS:Sh .u64 c.used (Fk .u64 1 leaf)=HI c.used leaf:=rfl
 induction r with
 |nil=>
  intro i nn out hd Es hi ho hp;have X9:i=c.rg.length:=by have:=drop_nil hd;omega
  obtain⟨nn,rfl⟩:∃k,nn=k+1:=⟨nn-1,by omega⟩
  rw[Cz];have lO:=Dt out;have tO:List.take (out.length*2) (Eg out)=Eg out:=N1 (by omega)
  simp (disch:=omega) only[Ds,Bool.not_true,w0,eS,tO,Sy,List.append_nil,lO];rfl
 |cons p r ih=>
  intro i nn out hd Es hi ho hp;obtain⟨Bl,Eo,hd'⟩:=Fj hd;obtain⟨nn,rfl⟩:∃k,nn=k+1:=⟨nn-1,by omega⟩
  rw[Cz];have eF:=YJ Eo;have eL:=Acm Eo;have tn:Int.toNat (i:Int)=i:=rfl;have lO:=Dt out;have tO:List.take (out.length*2) (Eg out)=Eg out:=N1 (by omega)
  have w1:wrap .i64 ((i:Int)+1)=((i+1:Nat):Int):=by rw[wrap_i64 (by omega) (by omega)];omega
  have Ch:=hp p (by simp)
  have d1:(p.1==from_)=false:=by simp;omega
  have d2:decide (p.1>from_)=true:=by simp;omega
  have ihh:=ih (i+1) nn (out++[p]) hd' (by simp at Es;omega) (by omega) (by simp;omega) (fun q hq=>hp q (by simp[hq]))
  rw[OK,List.singleton_append] at ihh;have eO:Eg out++[.sc (.int .i64 p.1),.sc (.int .i64 p.2)]=Eg (out++[p]):=by rw[K8];rfl
  have lO1:(out++[p]).length=out.length+1:=by simp
  rw[lO1] at ihh;simp (disch:=omega) only[Ds,tn,eF,eL,d1,d2,Bool.not_true,w1,tO,eO,ihh]
theorem QK {c:Sd}{leaf from_ now:Int}(hl:0<=leaf∧leaf<=15)(hr:c.rg.length<=1000){call:Aj}
  {Bv:Nat} {a0:List PV} {a1 a2 a3 a4 a6 a9 a10 b1 b2 b3:Int} {a5 a8:Bool} {ZA:Nat} {a7:List PV} {z1 z8:Nat} {z2 z3 z4 z5 z7 z10 z11:Int} {z6 z9:Bool} {z12 z13:List PV}:
  ∀(r:List (Int × Int)) (i nn:Nat),c.rg.drop i=r->r.length<nn->i<=c.rg.length->Asc r ->
   A5 fu call Bv a0 a1 a2 a3 a4 a5 a6 ZA a7 a8 a9 a10 b1 b2 b3 nn leaf from_ now i false (i:Int) c.id.length (Au .u8 c.id) c.ht c.root c.model c.fmt c.sh c.used c.rg.length (Eg c.rg) c.sus c.since c.last z1 z2 z3 z4 z5 z6 z7 z8 z9 z10 z11 z12 z13 (Eg (c.rg.take i)) =
    some (Q3 c leaf now ((put from_ leaf r).map (c.rg.take i ++ ·))):=by
 intro r;have l2:=Dt c.rg;have w0:wrap .u64 leaf=leaf:=Ca (by omega) (by omega)
 have eS:Sh .u64 c.used (Fk .u64 1 leaf)=HI c.used leaf:=rfl
 induction r with
 |nil=>
  intro i nn hd Es hi ha;have X9:i=c.rg.length:=by have:=drop_nil hd;omega
  obtain⟨nn,rfl⟩:∃k,nn=k+1:=⟨nn-1,by omega⟩
  rw[Cz];have ht:c.rg.take i=c.rg:=N1 (by omega)
  rw[ht];have tO:List.take (i*2) (Eg c.rg)=Eg c.rg:=N1 (by omega)
  have eO:Eg c.rg++[.sc (.int .i64 from_),.sc (.int .i64 leaf)]=Eg (c.rg++[(from_,leaf)]):=by rw[K8];rfl
  have lN:=Dt (c.rg++[(from_,leaf)]);have lN1:(c.rg++[(from_,leaf)]).length=i+1:=by simp[X9]
  have tN:List.take ((i+1)*2) (Eg (c.rg++[(from_,leaf)]))=Eg (c.rg++[(from_,leaf)]):=N1 (by omega)
  simp (disch:=omega) only[Ds,Bool.not_false,w0,eS,tO,eO,tN,Sy,put,Option.map_some];simp only[Q3,Sd.cells,lN1]
 |cons p r ih=>
  intro i nn hd Es hi ha;obtain⟨Bl,Eo,hd'⟩:=Fj hd;obtain⟨nn,rfl⟩:∃k,nn=k+1:=⟨nn-1,by omega⟩
  rw[Cz];have eF:=YJ Eo;have eL:=Acm Eo;have tn:Int.toNat (i:Int)=i:=rfl;have lO:=Dt (c.rg.take i);have lT:(c.rg.take i).length=i:=by rw[List.length_take];omega
  have tO:List.take (i*2) (Eg (c.rg.take i))=Eg (c.rg.take i):=N1 (by omega)
  have w1:wrap .i64 ((i:Int)+1)=((i+1:Nat):Int):=by rw[wrap_i64 (by omega) (by omega)];omega
  have tk:c.rg.take (i+1)=c.rg.take i++[p]:=by rw[List.take_add_one,Eo];rfl
  unfold put;by_cases c1:p.1<from_
  ·rw[Oj c1];have ihh:=ih (i+1) nn hd' (by simp at Es;omega) (by omega) ha.2
   have e:((put from_ leaf r).map (p :: ·)).map (c.rg.take i ++ ·)=(put from_ leaf r).map (c.rg.take (i+1) ++ ·):=by
    rw[Option.map_map,tk]
    congr 1
    funext x
    simp
   rw[e,←ihh];have d1:(p.1==from_)=false:=by simp;omega
   have d2:decide (p.1>from_)=false:=by simp;omega
   have eO:Eg (c.rg.take i)++[.sc (.int .i64 p.1),.sc (.int .i64 p.2)]=Eg (c.rg.take (i+1)):=by rw[tk,K8];rfl
   simp (disch:=omega) only[Ds,tn,eF,eL,d1,d2,w1,tO,eO]
  ·rw[Om c1];by_cases c2:p.1=from_
   ·rw[Oj c2];have d1:(p.1==from_)=true:=by simp[c2]
    by_cases c3:leaf<=p.2
    ·rw[Oj c3];have d3:decide (p.2>=leaf)=true:=by simp;omega
     simp (disch:=omega) only[Ds,tn,eF,eL,d1,d3,Option.map_none];rfl
    ·rw[Om c3];have d3:decide (p.2>=leaf)=false:=by simp;omega
     have d2:decide (p.1>from_)=false:=by simp;omega
     have dn:=Y6 (fu:=fu) (c:=c) (leaf:=leaf) (from_:=from_) (now:=now) hl hr (call:=call) (Bv:=Bv) (a0:=a0) (a1:=a1) (a2:=a2) (a3:=a3) (a4:=a4) (a6:=a6) (a9:=a9) (a10:=a10) (b1:=b1) (b2:=b2) (b3:=b3) (a5:=a5) (a8:=a8) (ZA:=ZA) (a7:=a7) (z1:=z1) (z2:=z2) (z3:=z3) (z4:=z4) (z5:=z5) (z6:=z6) (z7:=z7) (z8:=z8) (z9:=z9) (z10:=z10) (z11:=z11) (z12:=z12) (z13:=z13) r (i+1) nn (c.rg.take i++[(from_,leaf)]) hd' (by simp at Es;omega) (by omega) (by simp;omega) (fun q hq=>by have:=ha.1 q hq;omega)
     have lN1:(c.rg.take i++[(from_,leaf)]).length=i+1:=by simp[lT]
     rw[lN1,OK,List.singleton_append] at dn;have eO:Eg (c.rg.take i)++[.sc (.int .i64 p.1),.sc (.int .i64 leaf)]=Eg (c.rg.take i++[(from_,leaf)]):=by rw[K8,c2];rfl
     simp (disch:=omega) only[Ds,tn,eF,eL,d1,d2,d3,w1,tO,eO,dn,Option.map_some]
   ·rw[Om c2];have d1:(p.1==from_)=false:=by simp[c2]
    have d2:decide (p.1>from_)=true:=by simp;omega
    have dn:=Y6 (fu:=fu) (c:=c) (leaf:=leaf) (from_:=from_) (now:=now) hl hr (call:=call) (Bv:=Bv) (a0:=a0) (a1:=a1) (a2:=a2) (a3:=a3) (a4:=a4) (a6:=a6) (a9:=a9) (a10:=a10) (b1:=b1) (b2:=b2) (b3:=b3) (a5:=a5) (a8:=a8) (ZA:=ZA) (a7:=a7) (z1:=z1) (z2:=z2) (z3:=z3) (z4:=z4) (z5:=z5) (z6:=z6) (z7:=z7) (z8:=z8) (z9:=z9) (z10:=z10) (z11:=z11) (z12:=z12) (z13:=z13) r (i+1) nn (c.rg.take i++[(from_,leaf),p]) hd' (by simp at Es;omega) (by omega) (by simp;omega) (fun q hq=>by have:=ha.1 q hq;omega)
    have lN1:(c.rg.take i++[(from_,leaf),p]).length=i+1+1:=by simp[lT]
    rw[lN1,OK] at dn;have eO:Eg (c.rg.take i)++[.sc (.int .i64 from_),.sc (.int .i64 leaf)]=Eg (c.rg.take i++[(from_,leaf)]):=by rw[K8];rfl
    have eO2:Eg (c.rg.take i++[(from_,leaf)])++[.sc (.int .i64 p.1),.sc (.int .i64 p.2)]=Eg (c.rg.take i++[(from_,leaf),p]):=by rw[K8,K8,OK];rfl
    have lN:=Dt (c.rg.take i++[(from_,leaf)]);have lN2:(c.rg.take i++[(from_,leaf)]).length=i+1:=by simp[lT]
    have tN:List.take ((i+1)*2) (Eg (c.rg.take i++[(from_,leaf)]))=Eg (c.rg.take i++[(from_,leaf)]):=N1 (by omega)
    simp (disch:=omega) only[Ds,tn,eF,eL,d1,d2,Bool.not_false,w1,tO,eO,tN,eO2,dn,Option.map_some];rfl
theorem Qe {c:Sd}(hk:c.ok)(D9:2000<=fu)(leaf from_ now:Int):Ai C0 prog fu (d+2) Hj [.agg c.cells,.sc (.int .i64 leaf),.sc (.int .i64 from_),.sc (.int .i64 now)]=some ⟨[.agg (Ig c leaf from_ now).1.cells,.sc (.int .i64 (Ig c leaf from_ now).2)],[]⟩:=by
 refine (Nm fu (d+1) c.id.length (Au .u8 c.id) c.ht c.root c.model c.fmt c.sh c.used c.rg.length (Eg c.rg) c.sus c.since c.last leaf from_ now).trans ?_;have q:=IM (fu:=fu) (d:=d) c.ht 0 4;simp only[Ds,q]
 have badT:∀(hb:J0 c leaf from_=true),B3 fu (Ai C0 prog fu (d+1)) c.id.length (Au .u8 c.id) c.ht c.root c.model c.fmt c.sh c.used c.rg.length (Eg c.rg) c.sus c.since c.last leaf from_ now fu leaf from_ now true c.id.length (Au .u8 c.id) c.ht c.root c.model c.fmt c.sh c.used c.rg.length (Eg c.rg) c.sus c.since c.last 0 0 0 0 0 false 0 0 false 0 0 [] []=some ⟨[.agg (Ig c leaf from_ now).1.cells,.sc (.int .i64 (Ig c leaf from_ now).2)],[]⟩:=by
  intro hb;unfold Ig;rw[Oj hb,F3 (Es:=by omega)]
  rfl
 by_cases h12:(decide (0<=c.ht)&&decide (c.ht<=4))=true
 rotate_left
 ·have hb:J0 c leaf from_=true:=by
   simp only[Bool.and_eq_true,decide_eq_true_eq] at h12;unfold J0;by_cases h1:c.ht<0
   ·simp[h1]
   ·have:c.ht>4:=by omega
    simp[this]
  rw[Bool.not_eq_true] at h12;rw[h12];exact badT hb
 rw[h12];simp only[Bool.and_eq_true,decide_eq_true_eq] at h12;have bF:∀x y:Option A7,Bu (!true) x y=y:=fun _ _=>rfl
 rw[bF];by_cases h3:from_<0
 ·rw[Qt _ _ _ h3];exact badT (by simp[J0,h3])
 rw[Nd _ _ _ h3];by_cases h4:leaf<from_
 ·rw[Qt _ _ _ h4];exact badT (by have:from_>leaf:=h4;simp[J0,this])
 rw[Nd _ _ _ h4];have w0:wrap .u64 c.ht=c.ht:=Ca (by omega) (by omega)
 rw[w0,Sb _ _ h12.1];by_cases h5:leaf>=Fk .i64 1 c.ht
 ·rw[decide_eq_true h5];exact badT (by simp[J0,h5])
 rw[decide_eq_false h5]
 have hb:J0 c leaf from_=false:=by
  have h1:¬c.ht<0:=by omega
  have h2:¬c.ht>4:=by omega
  have h4':¬from_>leaf:=by omega
  simp[J0,h1,h2,h3,h4',h5]
 obtain⟨r1,r2,r3,r4,r5,r6⟩:=Qp hb;unfold Ig;rw[Om (by rw[hb];simp)]
 rw[F3 (Es:=by omega)]
 have ub:=JH hk.u0 hk.u1 (k:=leaf) (by omega) (by omega)
 have w1:wrap .u64 leaf=leaf:=Ca (by omega) (by omega)
 have fF:∀x y:Option A7,Bu false x y=y:=fun _ _=>rfl
 rw[fF];by_cases hs:c.sus=true
 ·have hsT:∀x y:Option A7,Bu c.sus x y=x:=fun x y=>by rw[hs];rfl
  rw[Oj hs];simp (disch:=omega) only[Ds,hsT];rfl
 ·have hsF:∀x y:Option A7,Bu c.sus x y=y:=fun x y=>by rw[Bool.not_eq_true] at hs;rw[hs];rfl
  rw[Om hs];by_cases Km:KP c.used leaf=true
  ·rw[Km] at ub;rw[Oj Km];simp (disch:=omega) only[Ds,hsF,w1,ub];rfl
  ·rw[Bool.not_eq_true] at Km;rw[Km] at ub;rw[Om (by simp[Km])]
   simp (disch:=omega) only[Ds,hsF,w1,ub];refine (QK (fu:=fu) (c:=c) (leaf:=leaf) (from_:=from_) (now:=now) (by omega) hk.rgn c.rg 0 fu rfl (by have:=hk.rgn;omega) (by omega) hk.asc).trans ?_
   have e0:(Option.map (List.take 0 c.rg ++ ·) (put from_ leaf c.rg))=put from_ leaf c.rg:=by
    rw[List.take_zero];cases put from_ leaf c.rg<;>rfl
   rw[e0];cases put from_ leaf c.rg<;>rfl
end
end
section
open Go.Proofs.Try (prog)
open Go.IntKind (wrap)
abbrev VX (l:List Int)(a:Nat):List PV:=[.lst false 1 l.length (Au .i64 l),.sc (.int .i64 (a:Int))]
theorem Af5 {fu d:Nat}{l:List Int}:Ai C0 prog fu (d+1) K4 [.lst false 1 l.length (Au .i64 l)]=some ⟨[.pbox (VX l 0)],[]⟩:=by
 rw[Q9];rfl
theorem UY (v n:Int)(hn:0<n)(hm:n<=9223372036854775807):∃r,0<=r∧r<n∧∀{fu d:Nat},Ai C0 prog fu (d+1) G6 [.sc (.int .i64 v),.sc (.int .i64 n)]=some ⟨[.sc (.int .i64 r)],[]⟩:=by
 have h1:=V1 v;have h2:wrap .u64 n=n:=Ca (by omega) (by omega)
 have h3:0<=Int.tmod (wrap .u64 v) n:=Int.tmod_nonneg _ h1.1;have h4:Int.tmod (wrap .u64 v) n<n:=Int.tmod_lt_of_pos _ hn;refine⟨_,h3,h4,fun {fu d}=>?_⟩
 rw[K6];simp only[Ie,h2];rw[Sb _ _ (by omega),wrap_i64 (by omega) (by omega)]
theorem Nb {l:List Int}(hl:l.length<=maxLen)(a:Nat)(n:Int)(hn:0<n)(hm:n<=9223372036854775807):∃(v:Int)(a':Nat),0<=v∧v<n ∧
  ∀{fu d:Nat},Ai C0 prog fu (d+2) Gr [.pbox (VX l a),.sc (.int .i64 n)]=some ⟨[.sc (.int .i64 v)],[VX l a']⟩:=by
 simp only[maxLen] at hl;by_cases h:a<l.length
 ·obtain⟨r,h1,h2,h3⟩:=UY l[a] n hn hm;refine⟨r,a+1,h1,h2,fun {fu d}=>?_⟩
  rw[Gk]
  have hg:(Au .i64 l).getD (Int.toNat ((a:Int)+1-1)*1) .top=.sc (.int .i64 l[a]):=by
   have:=ati (k:=.i64) (List.getElem?_eq_getElem h);rw[show Int.toNat ((a:Int)+1-1)*1=a by omega]
   exact this
  simp (disch:=omega) only[Ds,wrap_i64,hg,h3];rfl
 ·refine⟨0,a,by omega,hn,fun {fu d}=>?_⟩
  rw[Gk];simp (disch:=omega) only[Ds]
end
section
open Go.Proofs.Try (prog)
open Go.IntKind (wrap)
set_option maxRecDepth 100000
theorem ZH {a b:List Int}(ha:Sx a)(hb:Sx b):Sx (a++b):=by
 intro x hx;rcases List.mem_append.1 hx with hx|hx
 ·exact ha x hx
 ·exact hb x hx
def Yv (key nonce:Int):Nat->Nat->List Int
 |_,0=>[]
 |i,k+1=>E9 (BV key 5 (Bg [nonce,(i:Int)]))++Yv key nonce (i+1) k
def Q5 (key nonce:Int)(n:Nat):List Int:=(Yv key nonce 0 ((n+7) / 8)).take n
theorem EA (key nonce:Int):∀(k i:Nat),(Yv key nonce i k).length=8*k
 |0,_=>rfl
 |k+1,i=>by show (E9 _++_).length=_;rw[UE,Dn,EA key nonce k];omega
theorem UO (key nonce:Int):∀(k i:Nat),Sx (Yv key nonce i k)
 |0,_=>fun x hx=>by cases hx
 |k+1,i=>ZH (NI _) (UO key nonce k _)
theorem Kc (key nonce:Int)(n:Nat):(Q5 key nonce n).length=n:=by
 unfold Q5;rw[List.length_take,EA];omega
theorem Aed (key nonce:Int)(n:Nat):Sx (Q5 key nonce n):=(UO key nonce _ _).take n
section
variable {fu d:Nat}
theorem JG {xs:FuncId->Option (List PV->Option A7)} {l:List Int}(hb:Sx l)(hl:l.length<=1099511627776)(D9:100<=fu)(hf:l.length<fu)(key dom:Int):Ai (CX xs) prog fu (d+5) Rt [.sc (.int .u64 key),.sc (.int .i64 dom),.lst false 1 l.length (Au .u8 l)]=some ⟨[.sc (.int .u64 (BV key dom l))],[]⟩:=by
 rw[CN];have s:=Aeu (xs:=xs) (fu:=fu) (d:=d) hb hl D9 hf key (wrap .u64 (1+wrap .u64 dom));simp only[Ds,s];rfl
theorem PD (D9:1000<=fu){a0 a1 a2:Int}{key nonce:Int}{n:Nat}(hn:n<=1024):∀(k nn i:Nat)(l:List Int),n<=8*(i+k)->8*(i+k)<n+8->k<nn->l.length=8*i ->
  Gz fu (Ai C0 prog fu (d+5)) a0 a1 a2 nn key nonce (n:Int) l.length i (Au .u8 l)=some ⟨[.own 1 n (Au .u8 ((l++Yv key nonce i k).take n))],[]⟩:=by
 intro k
 induction k with
 |zero=>
  intro nn i l h1 U6 h2 h3;obtain⟨m,rfl⟩:∃m,nn=m+1:=⟨nn-1,by omega⟩
  have L:=Bf .u8 l;have nt:Int.toNat (n:Int)=n:=AP _;rw[Lw,Yv,List.append_nil]
  try unfold Ab
  repeat first
   |((with_reducible first|apply Gb|apply Er|apply Gc|apply EU|apply Em|apply F9|apply Gd);· first|with_reducible rfl|(simp (disch:=omega) only[gT,L,nt,Nat.sub_zero,O6,Hw]<;>first|with_reducible rfl|omega)|omega)
   |(with_reducible apply Ge;· first|with_reducible rfl|(simp (disch:=omega) only[gF,L,nt,Nat.sub_zero,O6,Hw]<;>omega))
  try simp (disch:=omega) only[L,nt,Nat.sub_zero,O6,Hw]
 |succ k ih=>
  intro nn i l h1 U6 h2 h3;obtain⟨m,rfl⟩:∃m,nn=m+1:=⟨nn-1,by omega⟩
  have L:=Bf .u8 l;have nt:Int.toNat (n:Int)=n:=AP _;have Bl:l.length<n:=by omega
  have w2:wrap .u64 ((i:Int)+1)=((i+1:Nat):Int):=by rw[Ca (by omega) (by omega)];omega
  have wd:Ai C0 prog fu (d+5) G4 [.lst false 1 2 [.sc (.int .u64 nonce),.sc (.int .u64 i)]]=some ⟨[.own 1 (Bg [nonce,(i:Int)]).length (Au .u8 (Bg [nonce,(i:Int)]))],[]⟩:=GK (xs:=Gl) (ws:=[nonce,i]) (by simp) (by omega) (by simp;omega)
  have mc:=JG (xs:=Gl) (fu:=fu) (d:=d) (l:=Bg [nonce,i]) (EG _) (by rw[Mm];simp) (by omega) (by rw[Mm];simp;omega) key 5
  have L2:=Bf .u8 (Bg [nonce,i]);have t2:=ZZ .u8 (Bg [nonce,i]);rw[Yv];generalize BV key 5 (Bg [nonce,i])=q at mc ⊢;have ow:Ai C0 prog fu (d+5) G4 [.lst false 1 1 [.sc (.int .u64 q)]]=some ⟨[.own 1 (Bg [q]).length (Au .u8 (Bg [q]))],[]⟩:=GK (xs:=Gl) (ws:=[q]) (by simp) (by omega) (by simp;omega)
  have eq1:Bg [q]=E9 q:=by simp[Bg]
  rw[eq1,Dn] at ow;have Lq:(Au .u8 (E9 q)).length=8:=by rw[Bf,Dn]
  have tq:List.take 8 (Au .u8 (E9 q))=Au .u8 (E9 q):=N1 (by omega)
  have tl:=ZZ .u8 l;have ea:Au .u8 l++Au .u8 (E9 q)=Au .u8 (l++E9 q):=by rw[Au,Au,Au,List.flatMap_append]
  have r3:=ih m (i+1) (l++E9 q) (by omega) (by omega) (by omega) (by rw[UE,Dn];omega)
  rw[UE,Dn,OK] at r3;rw[←r3,Lw];generalize Bg [nonce,(i:Int)]=W at *
  generalize W.length=wn at *
  try unfold Ab
  repeat first
   |((with_reducible first|apply Gb|apply Er|apply Gc|apply EU|apply Em|apply F9|apply Gd);· first|with_reducible rfl|(simp (disch:=omega) only[gT,w2,wd,Sy,Vq,O6,L,L2,t2,mc,ow,Lq,tq,tl,ea]<;>first|with_reducible rfl|omega)|omega)
   |(with_reducible apply Ge;· first|with_reducible rfl|(simp (disch:=omega) only[gF,w2,wd,Sy,Vq,O6,L,L2,t2,mc,ow,Lq,tq,tl,ea]<;>omega))
  try simp (disch:=omega) only[w2,wd,Sy,Vq,O6,L,L2,t2,mc,ow,Lq,tq,tl,ea]
  all_goals rfl
theorem Aae (D9:1000<=fu)(key nonce:Int){n:Nat}(hn:n<=1024):Ai C0 prog fu (d+6) Lk [.sc (.int .u64 key),.sc (.int .u64 nonce),.sc (.int .i64 n)]=some ⟨[.own 1 n (Au .u8 (Q5 key nonce n))],[]⟩:=by
 rw[Yj];have f1:(if (n:Int)<0 then (0:Int) else (n:Int))=n:=Om (by omega)
 have f2:(if (1024:Int)<(n:Int) then (1024:Int) else (n:Int))=n:=Om (by omega)
 have w:wrap .i64 ((n:Int)+8)=(n:Int)+8:=wrap_i64 (by omega) (by omega)
 simp (disch:=omega) only[Ds,f1,f2,w];exact PD D9 hn ((n+7) / 8) fu 0 [] (by omega) (by omega) (by omega) rfl
theorem KX (D9:1000<=fu){a0 a1 a2:Int}{key nonce:Int}{n:Nat}(hn:n<=1024):∀(k nn i:Nat)(l:List Int),n<=8*(i+k)->8*(i+k)<n+8->k<nn->l.length=8*i ->
  Di fu (Ai C0 prog fu (d+4)) a0 a1 a2 nn key nonce (n:Int) l.length i (Au .u8 l)=some ⟨[.own 1 n (Au .u8 ((l++Yv key nonce i k).take n))],[]⟩:=by
 intro k
 induction k with
 |zero=>
  intro nn i l h1 U6 h2 h3;obtain⟨m,rfl⟩:∃m,nn=m+1:=⟨nn-1,by omega⟩
  have L:=Bf .u8 l;have nt:Int.toNat (n:Int)=n:=AP _;rw[Gq,Yv,List.append_nil]
  try unfold Ab
  repeat first
   |((with_reducible first|apply Gb|apply Er|apply Gc|apply EU|apply Em|apply F9|apply Gd);· first|with_reducible rfl|(simp (disch:=omega) only[gT,L,nt,Nat.sub_zero,O6,Hw]<;>first|with_reducible rfl|omega)|omega)
   |(with_reducible apply Ge;· first|with_reducible rfl|(simp (disch:=omega) only[gF,L,nt,Nat.sub_zero,O6,Hw]<;>omega))
  try simp (disch:=omega) only[L,nt,Nat.sub_zero,O6,Hw]
 |succ k ih=>
  intro nn i l h1 U6 h2 h3;obtain⟨m,rfl⟩:∃m,nn=m+1:=⟨nn-1,by omega⟩
  have L:=Bf .u8 l;have nt:Int.toNat (n:Int)=n:=AP _;have Bl:l.length<n:=by omega
  have w1:wrap .u64 (i:Int)=(i:Int):=Ca (by omega) (by omega)
  have w2:wrap .i64 ((i:Int)+1)=((i+1:Nat):Int):=by rw[wrap_i64 (by omega) (by omega)];omega
  have wd:Ai C0 prog fu (d+4) Ea [.lst false 1 2 [.sc (.int .u64 nonce),.sc (.int .u64 i)]]=some ⟨[.own 1 (Bg [nonce,(i:Int)]).length (Au .u8 (Bg [nonce,(i:Int)]))],[]⟩:=Zd (xs:=Gl) (ws:=[nonce,i]) (by simp) (by omega) (by simp;omega)
  have mc:=ZW (xs:=Gl) (fu:=fu) (d:=d) (l:=Bg [nonce,i]) (EG _) (by rw[Mm];simp) (by omega) (by rw[Mm];simp;omega) key 5
  have L2:=Bf .u8 (Bg [nonce,i]);have t2:=ZZ .u8 (Bg [nonce,i]);rw[Yv];generalize BV key 5 (Bg [nonce,i])=q at mc ⊢;have ow:Ai C0 prog fu (d+4) Ea [.lst false 1 1 [.sc (.int .u64 q)]]=some ⟨[.own 1 (Bg [q]).length (Au .u8 (Bg [q]))],[]⟩:=Zd (xs:=Gl) (ws:=[q]) (by simp) (by omega) (by simp;omega)
  have eq1:Bg [q]=E9 q:=by simp[Bg]
  rw[eq1,Dn] at ow;have Lq:(Au .u8 (E9 q)).length=8:=by rw[Bf,Dn]
  have tq:List.take 8 (Au .u8 (E9 q))=Au .u8 (E9 q):=N1 (by omega)
  have tl:=ZZ .u8 l;have ea:Au .u8 l++Au .u8 (E9 q)=Au .u8 (l++E9 q):=by rw[Au,Au,Au,List.flatMap_append]
  have r3:=ih m (i+1) (l++E9 q) (by omega) (by omega) (by omega) (by rw[UE,Dn];omega)
  rw[UE,Dn,OK] at r3;rw[←r3,Gq];generalize Bg [nonce,(i:Int)]=W at *
  generalize W.length=wn at *
  try unfold Ab
  repeat first
   |((with_reducible first|apply Gb|apply Er|apply Gc|apply EU|apply Em|apply F9|apply Gd);· first|with_reducible rfl|(simp (disch:=omega) only[gT,w1,w2,wd,Sy,Vq,O6,L,L2,t2,mc,ow,Lq,tq,tl,ea]<;>first|with_reducible rfl|omega)|omega)
   |(with_reducible apply Ge;· first|with_reducible rfl|(simp (disch:=omega) only[gF,w1,w2,wd,Sy,Vq,O6,L,L2,t2,mc,ow,Lq,tq,tl,ea]<;>omega))
  try simp (disch:=omega) only[w1,w2,wd,Sy,Vq,O6,L,L2,t2,mc,ow,Lq,tq,tl,ea]
  all_goals rfl
theorem ST (D9:1000<=fu)(key nonce:Int){n:Nat}(hn:n<=1024):Ai C0 prog fu (d+5) Ih [.sc (.int .u64 key),.sc (.int .u64 nonce),.sc (.int .i64 n)]=some ⟨[.own 1 n (Au .u8 (Q5 key nonce n))],[]⟩:=by
 rw[N2];have f1:(if (n:Int)<0 then (0:Int) else (n:Int))=n:=Om (by omega)
 have f2:(if (1024:Int)<(n:Int) then (1024:Int) else (n:Int))=n:=Om (by omega)
 simp (disch:=omega) only[Ds,f1,f2];exact KX D9 hn ((n+7) / 8) fu 0 [] (by omega) (by omega) (by omega) rfl
def Pg (seed:Int)(n:Nat):List Int:=Q5 (wrap .u64 (wrap .u64 seed+1)) 7 n
theorem XA (D9:1000<=fu)(seed:Int){n:Nat}(hn:n<=1024):Ai C0 prog fu (d+6) Fu [.sc (.int .i64 seed),.sc (.int .i64 n)]=some ⟨[.own 1 n (Au .u8 (Pg seed n))],[]⟩:=by
 have e:=ST (fu:=fu) (d:=d) D9 (wrap .u64 (wrap .u64 seed+1)) 7 hn;have f1:(if (n:Int)<0 then (0:Int) else (n:Int))=n:=Om (by omega)
 have f2:(if (1024:Int)<(n:Int) then (1024:Int) else (n:Int))=n:=Om (by omega)
 have L:(Au .u8 (Pg seed n)).length=n:=by rw[Bf,Pg,Kc]
 have t:List.take n (Au .u8 (Pg seed n))=Au .u8 (Pg seed n):=N1 (by omega)
 rw[Pq];unfold Pg at *
 simp (disch:=omega) only[Ds,f1,f2,e,O6,L,t]
def XC (k h:Int):Sd:=⟨Pg (600+k) 176,h,5,0,0,false,0,[],false,3,0⟩
theorem Tb (k h:Int):(XC k h).ok:=⟨Aed _ _ _,by show (Q5 _ _ _).length<=_;rw[Kc];omega,by show (0:Int)<=0;omega,by show (0:Int)<=_;omega,trivial,by show 0<=_;omega⟩
theorem Agy {v n:Int}(h0:0<=v)(h1:v<n)(hn:n<=9223372036854775807):Ai C0 prog fu (d+1) G6 [.sc (.int .i64 v),.sc (.int .i64 n)]=some ⟨[.sc (.int .i64 v)],[]⟩:=by
 rw[K6];have w1:wrap .u64 v=v:=Ca h0 (by omega)
 have w2:wrap .u64 n=n:=Ca (by omega) (by omega)
 have e:Int.tmod v n=v:=Int.tmod_eq_of_lt h0 h1;simp only[Ie,w1,w2,e];rw[Sb _ _ (by omega),wrap_i64 (by omega) (by omega)]
theorem Zk (D9:1000<=fu){k:Int}(h0:0<=k)(h1:k<12)(h:Int):Ai C0 prog fu (d+7) Hh [.sc (.int .i64 k),.sc (.int .i64 h)]=some ⟨[.agg (XC k h).cells],[]⟩:=by
 rw[Np];have m:=Agy (fu:=fu) (d:=d+5) h0 h1 (by omega)
 have w:wrap .i64 (600+k)=600+k:=wrap_i64 (by omega) (by omega)
 have b:Ai C0 prog fu (d+6) Fu [.sc (.int .i64 (600+k)),.sc (.int .i64 176)]=_:=XA (fu:=fu) (d:=d) D9 (600+k) (n:=176) (by omega)
 have L:(Au .u8 (Pg (600+k) 176)).length=176:=by rw[Bf,Pg,Kc]
 have L1:(Pg (600+k) 176).length=176:=by rw[Pg,Kc]
 have t:List.take 176 (Au .u8 (Pg (600+k) 176))=Au .u8 (Pg (600+k) 176):=N1 (by omega)
 simp (disch:=omega) only[Ds,m,w,b,O6,Vq,Sy,L,t];simp only[Sd.cells,XC,L1];rfl
end
end
section
open Go.IntKind (wrap)
def Nu (s:ByteArray):List Int:=s.data.toList.map fun b=>(b.toNat:Int)
theorem DS (s:ByteArray):(Nu s).length=s.size:=by
 unfold Nu;rw[List.length_map];rfl
theorem WE (s:ByteArray):Sx (Nu s):=by
 intro x hx;obtain⟨b,_,rfl⟩:=List.mem_map.1 hx;have:=b.toNat_lt;omega
theorem Ur (s:ByteArray):Ex s=Au .u8 (Nu s):=by
 unfold Ex Nu
 induction s.data.toList with
 |nil=>rfl
 |cons b l ih=>rw[List.map_cons,List.map_cons,ih];rfl
theorem Od:∀l:List Int,bytesOf (Au .u8 l)=some (l.map fun n=>n.toNat.toUInt8)
 |[]=>rfl
 |x::l=>by
  show (bytesOf (Au .u8 l)).map (x.toNat.toUInt8 :: ·)=_
  rw[Od l];rfl
end
section
open Go.Proofs.Try (prog)
open Go.IntKind (wrap)
set_option maxRecDepth 100000
def bu (l:List Int):List UInt8:=l.map fun n=>n.toNat.toUInt8
def MP (a b:List Int):Bool:=Op.bytesLess (bu a) (bu b)||bu a==bu b
def Ahq (a b:List Int):Int:=Lib.compareBytes (bu a) (bu b)
theorem Adp:∀x y:List UInt8,(Lib.compareBytes x y<0)↔Op.bytesLess x y=true
 |[],[]=>by simp[Lib.compareBytes,Op.bytesLess]
 |[],_::_=>by simp[Lib.compareBytes,Op.bytesLess]
 |_::_,[]=>by simp[Lib.compareBytes,Op.bytesLess]
 |a::x,b::y=>by
  have ih:=Adp x y;unfold Lib.compareBytes Op.bytesLess;by_cases h1:a<b
  ·simp[h1]
  ·rw[Om h1];by_cases h2:b<a
   ·have:¬a=b:=fun e=>by subst e;exact h1 h2
    simp[h1,h2,this]
   ·have:a=b:=UInt8.le_antisymm (UInt8.not_lt.1 h2) (UInt8.not_lt.1 h1);rw[Om h2,ih];simp[h1,this]
theorem Vp (a b:List Int):MP a b=true↔bu a<=bu b:=by
 unfold MP;rw[bytesLess_eq];simp only[Bool.or_eq_true,decide_eq_true_eq,beq_iff_eq];exact List.le_iff_lt_or_eq.symm
theorem Agf (a b:List Int):decide (Ahq a b<0) = !MP b a:=by
 rw[Bool.eq_iff_iff,decide_eq_true_eq,Bool.not_eq_true',←Bool.not_eq_true,Vp];unfold Ahq;rw[Adp,bytesLess_eq,decide_eq_true_eq];exact List.not_le.symm
theorem Zo {a b c:List Int}(h1:MP a b=true)(h2:MP b c=true):MP a c=true:=by
 rw[Vp] at *
 exact List.le_trans h1 h2
theorem QU {a b:List Int}(h:MP a b=false):MP b a=true:=by
 rw[Vp];rw[←Bool.not_eq_true,Vp,List.not_le] at h;exact List.le_of_lt h
def V2 (x:List Int):List (List Int)->List (List Int)
 |[]=>[x]
 |y::r=>if MP y x=true then y::V2 x r else x::y::r
theorem Vy (x:List Int):∀l:List (List Int),(V2 x l).length=l.length+1
 |[]=>rfl
 |y::r=>by
  unfold V2;split
  ·rw[OW,Vy x r];rfl
  ·rfl
theorem NH {x y:List Int}:∀{l:List (List Int)},y∈V2 x l↔y=x∨y∈l
 |[]=>by simp[V2]
 |z::r=>by
  unfold V2;split
  ·rw[List.mem_cons,NH,List.mem_cons];constructor
   ·rintro (h|h|h)
    ·exact .inr (.inl h)
    ·exact .inl h
    ·exact .inr (.inr h)
   ·rintro (h|h|h)
    ·exact .inr (.inl h)
    ·exact .inl h
    ·exact .inr (.inr h)
  ·simp
abbrev Srt (l:List (List Int)):Prop:=l.Pairwise fun a b=>MP a b=true
theorem LV {x:List Int}:∀{l:List (List Int)},Srt l->Srt (V2 x l)
 |[],_=>by simp[V2,Srt]
 |y::r,h=>by
  obtain⟨h1,h2⟩:=List.pairwise_cons.1 h;unfold V2;split
  ·rename_i hy;refine List.pairwise_cons.2 ⟨fun z hz=>?_,LV h2⟩
   rcases NH.1 hz with rfl|hz
   ·exact hy
   ·exact h1 z hz
  ·rename_i hy;rw[Bool.not_eq_true] at hy;have hxy:=QU hy;refine List.pairwise_cons.2 ⟨fun z hz=>?_,h⟩
   rcases List.mem_cons.1 hz with rfl|hz
   ·exact hxy
   ·exact Zo hxy (h1 z hz)
theorem HA {x y:List Int}:∀{l:List (List Int)},Srt (l++[y])->V2 x (l++[y])=if MP y x=true then l++[y,x] else V2 x l++[y]
 |[],_=>by
  show V2 x [y]=_;unfold V2;split<;>rfl
 |z::r,h=>by
  obtain⟨h1,h2⟩:=List.pairwise_cons.1 (show Srt (z::(r++[y])) from h)
  have ih:=HA (x:=x) h2;have hzy:=h1 y (by simp)
  show V2 x (z::(r++[y]))=_;by_cases hy:MP y x=true
  ·rw[Oj hy] at ih ⊢;rw[V2,Oj (Zo hzy hy),ih];rfl
  ·rw[Om hy] at ih ⊢;rw[V2,ih];by_cases hz:MP z x=true
   ·rw[Oj hz,V2,Oj hz];rfl
   ·rw[Om hz,V2,Om hz];rfl
def So (s l:List (List Int)):List (List Int):=l.foldl (fun s x=>V2 x s) s
theorem FB:∀(l s:List (List Int)),(So s l).length=s.length+l.length
 |[],_=>rfl
 |x::l,s=>by
  show (So (V2 x s) l).length=_;rw[FB l,Vy,OW];omega
abbrev Aee (b:List Int):List PV:=[PV.lst false 1 b.length (Au .u8 b)]
abbrev E5 (L:List (List Int)):List PV:=L.flatMap Aee
theorem Lu (L:List (List Int)):(E5 L).length=L.length:=by rw[JD (k:=1) (fun _=>rfl)];omega
theorem LP {L:List (List Int)} {i:Nat}{b:List Int}(h:L[i]?=some b):(E5 L).getD i .top=.lst false 1 b.length (Au .u8 b):=by
 have:=Y2 (f:=Aee) (k:=1) (fun _=>rfl) h (j:=0) (by omega)
 rwa [O6,Nat.add_zero] at this
theorem EW {L:List (List Int)} {i:Nat}{b y:List Int}(h:L[i]?=some b):A4 (E5 L) [.lst false 1 y.length (Au .u8 y)] i=E5 (L.set i y):=by
 have hl:=Lu L;have:=Lh h;rw[Xx (by omega)]
 have e:=JC (f:=Aee) (k:=1) (fun _=>rfl) (p:=.lst false 1 y.length (Au .u8 y)) (j:=0) (by omega) (y:=y) h rfl
 rw[O6,Nat.add_zero] at e;exact e
section
variable {fu d:Nat}
theorem JY (a b:List Int):Ai C0 prog fu (d+1) 44 [.lst false 1 a.length (Au .u8 a),.lst false 1 b.length (Au .u8 b)]=some ⟨[.sc (.int .i64 (Ahq a b))],[]⟩:=by
 have h:Ai C0 prog fu (d+1) 44 [.lst false 1 a.length (Au .u8 a),.lst false 1 b.length (Au .u8 b)]=Oe [.lst false 1 a.length (Au .u8 a),.lst false 1 b.length (Au .u8 b)]:=by kernel_rfl
 rw[h];unfold Oe;simp only[Bf,Nat.beq_refl,Bool.and_self,cond_true,Od];rfl
theorem Aa1 {n:Nat}{c:List PV}{a1 a2:Int}{m0 i N:Nat}{x:List Int}(hN:N<=100000)(hi:i<=100000):
  ∀(S:List (List Int)) (R:List (List Int)) (nn:Nat),S.length<nn->(S.reverse++x::R).length=N->Srt S.reverse ->
   Bj fu (Ai C0 prog fu (d+1)) n c a1 a2 m0 nn N 0 (N:Int) (i:Int) (S.length:Int) (E5 (S.reverse++x::R)) =
    Az fu (Ai C0 prog fu (d+1)) n c a1 a2 m0 N 0 (N:Int) ((i+1:Nat):Int) (E5 (V2 x S.reverse++R)):=by
 intro S;have wi:wrap .i64 ((i:Int)+1)=((i+1:Nat):Int):=by rw[wrap_i64 (by omega) (by omega)];omega
 induction S with
 |nil=>
  intro R nn Es hl hs;obtain⟨nn,rfl⟩:∃k,nn=k+1:=⟨nn-1,by omega⟩
  rw[C7];simp (disch:=omega) only[Ds,List.length_nil,wi,List.reverse_nil,Zzq,V2,List.cons_append]
 |cons y S ih=>
  intro R nn Es hl hs;obtain⟨nn,rfl⟩:∃k,nn=k+1:=⟨nn-1,by omega⟩
  rw[C7];rw[List.reverse_cons] at hl hs ⊢;have hS:S.reverse.length=S.length:=List.length_reverse;have G9:S.length+1+R.length+1=N:=by simp at hl;omega
  have lS:(y::S).length=S.length+1:=rfl
  have gx:((S.reverse++[y])++x::R)[S.length+1]?=some x:=by
   rw[List.getElem?_append_right (by simp)];simp
  have gy:((S.reverse++[y])++x::R)[S.length]?=some y:=by
   rw[OK,List.getElem?_append_right (by simp)];simp
  have ax:=LP gx;have ay:=LP gy;have w1:wrap .i64 (((S.length+1:Nat):Int)-1)=(S.length:Int):=by rw[wrap_i64 (by omega) (by omega)];omega
  have n1:Int.toNat ((S.length+1:Nat):Int)=S.length+1:=AP _;have n2:Int.toNat (S.length:Int)=S.length:=AP _;have cq:=JY (fu:=fu) (d:=d) x y;have cl:=Agf x y;have lR:=Lu ((S.reverse++[y])++x::R);have lRR:((S.reverse++[y])++x::R).length=N:=hl;rw[HA hs];by_cases hy:MP y x=true
  ·rw[hy] at cl;rw[Oj hy];have eL:S.reverse++[y,x]++R=(S.reverse++[y])++x::R:=by simp
   rw[eL];simp (disch:=omega) only[Ds,lS,w1,n1,n2,Vq,O6,ax,ay,cq,cl,Bool.not_true,wi]
  ·rw[Bool.not_eq_true] at hy;rw[hy] at cl;rw[Om (by simp[hy])]
   have s1:=EW (y:=y) gx
   have gy2:(((S.reverse++[y])++x::R).set (S.length+1) y)[S.length]?=some y:=by
    rw[List.getElem?_set,Om (by omega)];exact gy
   have s2:=EW (y:=x) gy2;have l2:=Lu (((S.reverse++[y])++x::R).set (S.length+1) y);rw[List.length_set] at l2
   have eL:(((S.reverse++[y])++x::R).set (S.length+1) y).set S.length x=S.reverse++x::(y::R):=by
    rw[List.set_append_right _ _ (by simp),List.set_append_left _ _ (by simp),List.set_append_right _ _ (by simp)]
    simp
   rw[eL] at s2;have hs':Srt S.reverse:=(List.pairwise_append.1 hs).1;have r:=ih (y::R) nn (by simp at Es;omega) (by simp;omega) hs'
   simp (disch:=omega) only[Ds,lS,w1,n1,n2,Vq,O6,ax,ay,cq,cl,Bool.not_false,s1,s2];rw[r];simp
theorem WW {n:Nat}{c:List PV}{a1 a2:Int}{N:Nat}(D9:N<fu)(hN:N<=10000):∀(R S:List (List Int)) (nn:Nat),R.length<nn->(S++R).length=N->Srt S ->
  Az fu (Ai C0 prog fu (d+1)) n c a1 a2 nn N 0 (N:Int) (S.length:Int) (E5 (S++R))=some ⟨[],[E5 (So S R)]⟩:=by
 intro R
 induction R with
 |nil=>
  intro S nn Es hl hs;obtain⟨nn,rfl⟩:∃k,nn=k+1:=⟨nn-1,by omega⟩
  rw[List.append_nil] at hl ⊢;rw[C8];simp (disch:=omega) only[Ds];rfl
 |cons x R ih=>
  intro S nn Es hl hs;obtain⟨nn,rfl⟩:∃k,nn=k+1:=⟨nn-1,by omega⟩
  have G9:S.length+(R.length+1)=N:=by simp at hl;omega
  rw[C8];simp (disch:=omega) only[Ds];have q:=Aa1 (fu:=fu) (d:=d) (n:=n) (c:=c) (a1:=a1) (a2:=a2) (m0:=nn) (i:=S.length) (N:=N) (x:=x) (by omega) (by omega) S.reverse R fu (by simp;omega) (by simp;omega) (by simpa using hs)
  rw[List.reverse_reverse,List.length_reverse] at q;rw[q];have r:=ih (V2 x S) nn (by simp at Es;omega) (by rw[UE,Vy];omega) (LV hs)
  rw[Vy] at r;exact r
theorem KO {x:List Int}{R:List (List Int)} (D9:(x::R).length<fu) (hN:(x::R).length<=10000):
  Ai C0 prog fu (d+2) Cg [.tup [.own 1 (x::R).length (E5 (x::R))],.sc (.int .i64 0),.sc (.int .i64 (x::R).length),.sc (.func (.func 44) #[] #[])]=some ⟨[],[E5 (So [] (x::R))]⟩:=by
 rw[F7];have w:wrap .i64 (0+1)=(([x]:List (List Int)).length:Int):=rfl;simp only[Ds,w];exact WW D9 hN R [x] fu (by simp at D9;omega) rfl (by simp[Srt])
theorem UR {a b c e:List Int}(D9:100<=fu):Ai C0 prog fu (d+4) El [.tup [.own 1 4 (E5 [a,b,c,e])],.sc (.func (.func 44) #[] #[])]=some ⟨[],[E5 (So [] [a,b,c,e])]⟩:=by
 rw[Ml];have w:wrap .u64 4=4:=rfl;have bl:Ai C0 prog fu (d+3) 61 [.sc (.int .u64 4)]=some ⟨[.sc (.int .i64 3)],[]⟩:=by kernel_rfl
 obtain⟨m,rfl⟩:∃m,fu=m+1:=⟨fu-1,by omega⟩
 have q:Ai C0 prog (m+1) (d+2) Cg [.tup [.own 1 4 (E5 [a,b,c,e])],.sc (.int .i64 0),.sc (.int .i64 4),.sc (.func (.func 44) #[] #[])]=some ⟨[],[E5 (So [] [a,b,c,e])]⟩:=KO (x:=a) (R:=[b,c,e]) (by simp;omega) (by simp)
 have w2:wrap .i64 (4-0)=4:=rfl
 have p:Ai C0 prog (m+1) (d+3) Ey [.tup [.own 1 4 (E5 [a,b,c,e])],.sc (.int .i64 0),.sc (.int .i64 4),.sc (.int .i64 3),.sc (.func (.func 44) #[] #[])]=some ⟨[],[E5 (So [] [a,b,c,e])]⟩:=by
  rw[Ix];dsimp only;rw[Hb];simp (disch:=omega) only[Ds,w2,q]
 have e4:((4:Nat):Int)=4:=rfl;simp (disch:=omega) only[Ds,w,bl,e4,p]
end
end
section
open Go.Proofs.Try (prog)
open Go.IntKind (wrap)
set_option maxRecDepth 100000
structure DI where
 nm:ByteArray
 us:ByteArray
 cr:List Sd
abbrev HY (l:List Sd):List PV:=l.flatMap Sd.cells
def DI.cells (a:DI):List PV:=[.sc (.string a.nm),.sc (.string a.us),.lst false 11 a.cr.length (HY a.cr)]
abbrev Vc (l:List DI):List PV:=l.flatMap DI.cells
theorem Nz {l:List Sd}{i:Nat}{c:Sd}(h:l[i]?=some c) {j:Nat}(hj:j<11):(HY l).getD (i*11+j) .top=c.cells.getD j .top:=Y2 (f:=Sd.cells) (k:=11) (fun _=>rfl) h hj
theorem CZ {l:List DI}{i:Nat}{c:DI}(h:l[i]?=some c) {j:Nat}(hj:j<3):(Vc l).getD (i*3+j) .top=c.cells.getD j .top:=Y2 (f:=DI.cells) (k:=3) (fun _=>rfl) h hj
def MD (a b:ByteArray):Bool:=Array.toList a.data==Array.toList b.data
def fnd (nm:ByteArray):Nat->List DI->Option Nat
 |_,[]=>none
 |i,a::r=>if MD a.nm nm=true then some i else fnd nm (i+1) r
def NZ (o:Option Nat):List PV:=match o with|some i=>[.sc (.int .i64 (i:Int)),.sc (.bool true)]|none=>[.sc (.int .i64 0),.sc (.bool false)]
theorem VU {nm:ByteArray}:∀{l:List DI}{i k:Nat},fnd nm i l=some k->i<=k∧k<i+l.length∧∃a,l[k-i]?=some a∧MD a.nm nm=true
 |[],_,_,h=>by cases h
 |a::r,i,k,h=>by
  unfold fnd at h;split at h
  ·rename_i ha;cases h;exact⟨Nat.le_refl _,by simp,a,by simp,ha⟩
  ·obtain⟨h1,h2,b,h3,h4⟩:=VU h;refine⟨by omega,by simp;omega,b,?_,h4⟩
   rw[show k-i=(k-(i+1))+1 by omega]
   exact h3
def pick:List (List Int)->List Sd->List (List Int)
 |s,[]=>s
 |s,c::r=>if c.sus=false∧s.length<4 then pick (s++[c.id]) r else pick s r
def dec (key:Int):Nat->Nat->List (List Int)
 |_,0=>[]
 |i,k+1=>Q5 key i 176::dec key (i+1) k
def Akd (o:Option Nat)(l:List DI):List (List Int):=match o with|some i=>(match l[i]? with|some a=>pick [] a.cr|none=>[])|none=>[]
def Ak1 (key:Int)(ids:List (List Int)):List (List Int):=ids++dec key 0 (4-ids.length)
def Aho (l:List DI)(secret:Int)(nm:ByteArray):List (List Int):=So [] (Ak1 (BV secret 20 (Nu nm)) (Akd (fnd nm 0 l) l))
structure DI.ok (a:DI):Prop where
 cn:a.cr.length<=1000
 cs:∀c∈a.cr,c.ok
section
variable {fu d:Nat}
theorem OV {xs:FuncId->Option (List PV->Option A7)} {n:Nat}{c:List PV}{s nm:ByteArray}{l:List DI}(hl:l.length<=100000):∀(r:List DI)(i nn:Nat),l.drop i=r->r.length<nn->i<=l.length ->
  F6 fu (Ai (CX xs) prog fu d) n c s nn nm l.length (Vc l) (l.length:Int) (i:Int)=some ⟨NZ (fnd nm i r),[]⟩:=by
 intro r
 induction r with
 |nil=>
  intro i nn hd Es hi;have:=drop_nil hd;obtain⟨nn,rfl⟩:∃k,nn=k+1:=⟨nn-1,by omega⟩
  rw[K2];simp (disch:=omega) only[Ds];rfl
 |cons a r ih=>
  intro i nn hd Es hi;obtain⟨Bl,Eo,hd'⟩:=Fj hd;obtain⟨nn,rfl⟩:∃k,nn=k+1:=⟨nn-1,by omega⟩
  rw[K2];have g0:(Vc l).getD (i*3) .top=.sc (.string a.nm):=CZ Eo (j:=0) (by omega)
  have g1:(Vc l).getD (i*3+1) .top=.sc (.string a.us):=CZ Eo (j:=1) (by omega)
  have g2:(Vc l).getD (i*3+1+1) .top=.lst false 11 a.cr.length (HY a.cr):=CZ Eo (j:=2) (by omega)
  have n1:Int.toNat (i:Int)=i:=AP _;have w1:wrap .i64 ((i:Int)+1)=((i+1:Nat):Int):=by rw[wrap_i64 (by omega) (by omega)];omega
  have eB:(Array.toList a.nm.data==Array.toList nm.data)=MD a.nm nm:=rfl;unfold fnd;cases h:MD a.nm nm
  ·rw[Om (by simp)]
   have q:=ih (i+1) nn hd' (by simp at Es;omega) (by omega)
   rw[h] at eB;simp (disch:=omega) only[Ds,n1,g0,g1,g2,eB,w1,q]
  ·rw[Oj rfl];rw[h] at eB;simp (disch:=omega) only[Ds,n1,g0,g1,g2,eB,NZ]
theorem BP {xs:FuncId->Option (List PV->Option A7)} {l:List DI}{nm:ByteArray}(hl:l.length<=100000)(hf:l.length<fu):Ai (CX xs) prog fu (d+1) Nw [.lst false 3 l.length (Vc l),.sc (.string nm)]=some ⟨NZ (fnd nm 0 l),[]⟩:=by
 rw[Wz];exact OV hl l 0 fu rfl hf (by omega)
theorem Agn {L:List (List Int)} (hL:L.length=4)(D9:100<=fu):Ai C0 prog fu (d+4) El [.tup [.own 1 4 (E5 L)],.sc (.func (.func 44) #[] #[])]=some ⟨[],[E5 (So [] L)]⟩:=by
 match L,hL with
 |[a,b,c,e],_=>exact UR D9
theorem MF (D9:1000<=fu){n:Nat}{c:List PV}{a1:Int}{a2:ByteArray}{key cnt:Int}:∀(k nn i:Nat)(ids:List (List Int)),ids.length+k=4->k<nn->(i:Int)+k=cnt->cnt<=4 ->
  Dd fu (Ai C0 prog fu (d+6)) n c a1 a2 nn ids.length key cnt (i:Int) (E5 ids)=some ⟨[.own 1 4 (E5 (So [] (ids++dec key i k)))],[]⟩:=by
 intro k
 induction k with
 |zero=>
  intro nn i ids h1 h2 h3 h4;obtain⟨nn,rfl⟩:∃k,nn=k+1:=⟨nn-1,by omega⟩
  rw[Iq];have q:=Agn (fu:=fu) (d:=d+2) (L:=ids) (by omega) (by omega)
  have h4':ids.length=4:=by omega
  have lR':(E5 (So [] ids)).length=4:=by rw[Lu,FB,h4'];rfl
  have t:List.take 4 (E5 (So [] ids))=E5 (So [] ids):=N1 (by omega)
  rw[h4'];simp (disch:=omega) only[Ds,q,O6,t,dec,List.append_nil]
 |succ k ih=>
  intro nn i ids h1 h2 h3 h4;obtain⟨nn,rfl⟩:∃k,nn=k+1:=⟨nn-1,by omega⟩
  rw[Iq];have w0:wrap .u64 (i:Int)=(i:Int):=Ca (by omega) (by omega)
  have w1:wrap .i64 ((i:Int)+1)=((i+1:Nat):Int):=by rw[wrap_i64 (by omega) (by omega)];omega
  have q:Ai C0 prog fu (d+6) Lk [.sc (.int .u64 key),.sc (.int .u64 (i:Int)),.sc (.int .i64 176)]=_:=Aae (fu:=fu) (d:=d) D9 key (i:Int) (n:=176) (by omega)
  have lS:(Au .u8 (Q5 key (i:Int) 176)).length=176:=by rw[Bf,Kc]
  have tS:List.take 176 (Au .u8 (Q5 key (i:Int) 176))=Au .u8 (Q5 key (i:Int) 176):=N1 (by omega)
  have lI:=Lu ids;have tI:List.take ids.length (E5 ids)=E5 ids:=N1 (by omega)
  have r:=ih nn (i+1) (ids++[Q5 key (i:Int) 176]) (by simp;omega) (by omega) (by omega) h4
  have lA:(ids++[Q5 key (i:Int) 176]).length=ids.length+1:=by simp
  have eA:E5 ids++[PV.lst false 1 176 (Au .u8 (Q5 key (i:Int) 176))]=E5 (ids++[Q5 key (i:Int) 176]):=by
   unfold E5;rw[List.flatMap_append];simp[Kc]
  rw[lA,OK,List.singleton_append] at r;simp (disch:=omega) only[Ds,w0,w1,q,O6,Vq,Sy,lS,tS,tI,eA,r];rfl
theorem ZQ (D9:1000<=fu){n:Nat}{c:List PV}{a1:Int}{a2:ByteArray}{secret:Int}{nm:ByteArray}(DF:nm.size<=500){cr:List Sd}(DG:cr.length<=1000)(Kh:∀c∈cr,c.ok):∀(r:List Sd)(i nn:Nat)(ids:List (List Int)),cr.drop i=r->r.length<nn->i<=cr.length->ids.length<=4 ->
  Cw fu (Ai C0 prog fu (d+6)) n c a1 a2 nn secret nm ids.length cr.length (HY cr) (cr.length:Int) (i:Int) (E5 ids)=some ⟨[.own 1 4 (E5 (So [] (Ak1 (BV secret 20 (Nu nm)) (pick ids r))))],[]⟩:=by
 intro r;have lN:=DS nm;have mc:=JG (xs:=Gl) (fu:=fu) (d:=d+1) (l:=Nu nm) (WE nm) (by omega) (by omega) (by omega) secret 20
 rw[lN] at mc;have sc:=Ur nm;have lS:(Au .u8 (Nu nm)).length=nm.size:=by rw[Bf,lN]
 have tS:List.take nm.size (Au .u8 (Nu nm))=Au .u8 (Nu nm):=N1 (by omega)
 induction r with
 |nil=>
  intro i nn ids hd Es hi h4;have:=drop_nil hd;obtain⟨nn,rfl⟩:∃k,nn=k+1:=⟨nn-1,by omega⟩
  rw[Is];have q:=MF (fu:=fu) (d:=d) D9 (n:=n) (c:=c) (a1:=a1) (a2:=a2) (key:=BV secret 20 (Nu nm)) (cnt:=4-(ids.length:Int)) (4-ids.length) fu 0 ids (by omega) (by omega) (by omega) (by omega)
  have w:wrap .i64 (4-(ids.length:Int))=4-(ids.length:Int):=wrap_i64 (by omega) (by omega)
  simp (disch:=omega) only[Ds,sc,lS,Vq,O6,Sy,tS,mc,w];exact q
 |cons x r ih=>
  intro i nn ids hd Es hi h4;obtain⟨Bl,Eo,hd'⟩:=Fj hd;obtain⟨nn,rfl⟩:∃k,nn=k+1:=⟨nn-1,by omega⟩
  rw[Is];have g0:(HY cr).getD (i*11) .top=.lst false 1 x.id.length (Au .u8 x.id):=Nz Eo (j:=0) (by omega)
  have g1:(HY cr).getD (i*11+1) .top=.sc (.int .i64 x.ht):=Nz Eo (j:=1) (by omega)
  have g2:(HY cr).getD (i*11+1+1) .top=.sc (.int .u64 x.root):=Nz Eo (j:=2) (by omega)
  have g3:(HY cr).getD (i*11+1+1+1) .top=.sc (.int .u64 x.model):=Nz Eo (j:=3) (by omega)
  have g4:(HY cr).getD (i*11+1+1+1+1) .top=.sc (.int .i64 x.fmt):=Nz Eo (j:=4) (by omega)
  have g5:(HY cr).getD (i*11+1+1+1+1+1) .top=.sc (.bool x.sh):=Nz Eo (j:=5) (by omega)
  have g6:(HY cr).getD (i*11+1+1+1+1+1+1) .top=.sc (.int .u64 x.used):=Nz Eo (j:=6) (by omega)
  have g7:(HY cr).getD (i*11+1+1+1+1+1+1+1) .top=.lst false 2 x.rg.length (Eg x.rg):=Nz Eo (j:=7) (by omega)
  have g8:(HY cr).getD (i*11+1+1+1+1+1+1+1+1) .top=.sc (.bool x.sus):=Nz Eo (j:=8) (by omega)
  have g9:(HY cr).getD (i*11+1+1+1+1+1+1+1+1+1) .top=.sc (.int .i64 x.since):=Nz Eo (j:=9) (by omega)
  have g10:(HY cr).getD (i*11+1+1+1+1+1+1+1+1+1+1) .top=.sc (.int .i64 x.last):=Nz Eo (j:=10) (by omega)
  have n1:Int.toNat (i:Int)=i:=AP _;have w1:wrap .i64 ((i:Int)+1)=((i+1:Nat):Int):=by rw[wrap_i64 (by omega) (by omega)];omega
  have xk:=Kh x (List.mem_of_getElem? Eo);have cb:=Zt (xs:=Gl) (fu:=fu) (d:=d+5) (Bf .u8 x.id) xk.idL;have lX:=Bf .u8 x.id;have tX:=ZZ .u8 x.id;have lI:=Lu ids;have tI:List.take ids.length (E5 ids)=E5 ids:=N1 (by omega)
  unfold pick;by_cases hs:x.sus=false
  ·have bT:∀a b:Option A7,Bu (!x.sus) a b=a:=fun a b=>by rw[hs];rfl
   by_cases hl:ids.length<4
   ·rw[Oj ⟨hs,hl⟩];have r:=ih (i+1) nn (ids++[x.id]) hd' (by simp at Es;omega) (by omega) (by simp;omega)
    have lA:(ids++[x.id]).length=ids.length+1:=by simp
    have eA:E5 ids++[PV.lst false 1 x.id.length (Au .u8 x.id)]=E5 (ids++[x.id]):=by
     unfold E5;rw[List.flatMap_append];rfl
    rw[lA] at r;simp (disch:=omega) only[Ds,n1,g0,g1,g2,g3,g4,g5,g6,g7,g8,g9,g10,bT,cb,Vq,O6,Sy,lX,tX,tI,eA,w1,r]
   ·rw[Om fun h=>hl h.2]
    have r:=ih (i+1) nn ids hd' (by simp at Es;omega) (by omega) h4
    simp (disch:=omega) only[Ds,n1,g0,g1,g2,g3,g4,g5,g6,g7,g8,g9,g10,bT,w1,r]
  ·rw[Om fun h=>hs h.1]
   have bF:∀a b:Option A7,Bu (!x.sus) a b=b:=fun a b=>by rw[Bool.not_eq_false] at hs;rw[hs];rfl
   have r:=ih (i+1) nn ids hd' (by simp at Es;omega) (by omega) h4
   simp (disch:=omega) only[Ds,n1,g0,g1,g2,g3,g4,g5,g6,g7,g8,g9,g10,bF,w1,r]
theorem JV (D9:2000<=fu){l:List DI}(hl:l.length<=1000)(Kh:∀a∈l,a.ok)(secret:Int){nm:ByteArray}(DF:nm.size<=500):
  Ai C0 prog fu (d+7) Ku [.lst false 3 l.length (Vc l),.sc (.int .u64 secret),.sc (.string nm)]=some ⟨[.own 1 4 (E5 (Aho l secret nm))],[]⟩:=by
 rw[Sj];have f:=BP (xs:=Gl) (fu:=fu) (d:=d+5) (l:=l) (nm:=nm) (by omega) (by omega)
 unfold Aho;cases h:fnd nm 0 l with
 |none=>
  rw[h] at f;have lN:=DS nm;have mc:=JG (xs:=Gl) (fu:=fu) (d:=d+1) (l:=Nu nm) (WE nm) (by omega) (by omega) (by omega) secret 20
  rw[lN] at mc;have sc:=Ur nm;have lS:(Au .u8 (Nu nm)).length=nm.size:=by rw[Bf,lN]
  have tS:List.take nm.size (Au .u8 (Nu nm))=Au .u8 (Nu nm):=N1 (by omega)
  have q:=MF (fu:=fu) (d:=d) (by omega) (n:=l.length) (c:=Vc l) (a1:=secret) (a2:=nm) (key:=BV secret 20 (Nu nm)) (cnt:=4) 4 fu 0 [] rfl (by omega) (by omega) (by omega)
  simp only[NZ] at f;simp (disch:=omega) only[Ds,f,sc,lS,Vq,O6,Sy,tS,mc];exact q
 |some i=>
  rw[h] at f;obtain⟨_,h2,a,h3,_⟩:=VU h;rw[Nat.sub_zero] at h3;have g2:(Vc l).getD (i*3+2) .top=.lst false 11 a.cr.length (HY a.cr):=CZ h3 (j:=2) (by omega)
  have n1:Int.toNat (i:Int)=i:=AP _;have ak:=Kh a (List.mem_of_getElem? h3);have q:=ZQ (fu:=fu) (d:=d) (by omega) (n:=l.length) (c:=Vc l) (a1:=secret) (a2:=nm) (secret:=secret) DF ak.cn ak.cs a.cr 0 fu [] rfl (by have:=ak.cn;omega) (by omega) (by simp)
  simp only[NZ] at f;simp (disch:=omega) only[Ds,f,n1,g2];refine q.trans ?_;simp only[Akd,h3]
end
end
section
open Go.Proofs.Try (prog)
open Go.IntKind (wrap)
set_option maxRecDepth 100000
def Ny:ByteArray:=ByteArray.mk #[(97:UInt8),(108:UInt8),(105:UInt8),(99:UInt8),(101:UInt8)]
def Ag6:ByteArray:=ByteArray.mk #[(98:UInt8),(111:UInt8),(98:UInt8)]
def uuN:ByteArray:=ByteArray.mk #[(117:UInt8)]
section
variable {fu d:Nat}
theorem TY (D9:2000<=fu)(nm:ByteArray):Ai C0 prog fu (d+1) 18 [.lst false 3 0 [],.sc (.string nm)]=some ⟨[.sc (.int .i64 0),.sc (.bool false)],[]⟩:=BP (xs:=Gl) (l:=[]) (nm:=nm) (by simp) (by simp;omega)
theorem QD (D9:2000<=fu){n:Nat}{c:List PV}:Ai C0 prog fu (d+1) 35 [.lst false 3 0 [],.lst false 1 n c]=some ⟨[.sc (.int .i64 0),.sc (.int .i64 0),.sc (.bool false)],[]⟩:=by
 obtain⟨m,rfl⟩:∃m,fu=m+1:=⟨fu-1,by omega⟩
 rw[Vj (xs:=Gl)];dsimp only;rw[Q2];rfl
theorem PM (D9:2000<=fu):Ai C0 prog fu (d+1) 38 [.lst false 3 0 []]=some ⟨[.own 3 0 []],[]⟩:=by
 obtain⟨m,rfl⟩:∃m,fu=m+1:=⟨fu-1,by omega⟩
 rw[Mu (xs:=Gl)];have w:wrap .i64 (((0:Nat):Int)+1)=1:=rfl;simp (disch:=omega) only[Ds,w];rw[Kp];rfl
theorem IP (D9:2000<=fu){nm us:ByteArray}{c:Sd}(h1:1<=nm.size)(h2:nm.size<=32)(Ay:c.id.length=176)(hr:c.rg.length<=1000):
  Ai C0 prog fu (d+3) 15 [.lst false 3 0 [],.sc (.string nm),.sc (.string us),.agg c.cells]=some ⟨[.lst false 3 1 (Vc [⟨nm,us,[c]⟩]),.sc (.int .i64 0)],[]⟩:=by
 refine (Tr fu (d+2) nm us c.id.length (Au .u8 c.id) c.ht c.root c.model c.fmt c.sh c.used c.rg.length (Eg c.rg) c.sus c.since c.last).trans ?_;have q1:=QD (fu:=fu) (d:=d+1) D9 (n:=c.id.length) (c:=Au .u8 c.id);have q2:=TY (fu:=fu) (d:=d+1) D9 nm;have q3:=PM (fu:=fu) (d:=d+1) D9;have q4:=P2 (xs:=Gl) (fu:=fu) (d:=d) (c:=c) (by omega) (by omega)
 simp only[Sd.cells,Sd.ocells] at q4;have l1:=Bf .u8 c.id;have l2:=Dt c.rg;have t1:List.take (c.id.length*1) (Au .u8 c.id)=Au .u8 c.id:=N1 (by omega)
 have t2:List.take (c.rg.length*2) (Eg c.rg)=Eg c.rg:=N1 (by omega)
 have b1:((c.id.length:Int) != 176)=false:=by simp[Ay]
 have b2:(!false)=true:=rfl;simp (disch:=omega) only[Ds,b1,q1,q2,b2];rw[Pj (Es:=by omega)]
 simp (disch:=omega) only[Ds,q3,q4,b2,t1,t2,Sy,Nat.zero_mul,List.take_zero,Zzq,Vq];rfl
end
def aw1:Sd:={ XC 1 2 with used:=2,rg:=[(0,1)],last:=7 }
def HO:Sd:={ XC 1 2 with used:=10,rg:=[(0,1),(2,3)],last:=8 }
def aw4:Sd:={ HO with sus:=true }
theorem Aja:Ig (XC 1 2) 1 0 7=(aw1,0):=rfl
theorem Ala:Ig aw1 3 2 8=(HO,0):=rfl
theorem Ajl:Ig HO 0 0 9=(HO,37):=rfl
theorem Ajf:Ig HO 3 2 9=(aw4,37):=rfl
theorem Ah7:aw1.ok:=⟨(Tb 1 2).idB,(Tb 1 2).idL,by decide,by decide,by simp[aw1,Asc],by decide⟩
theorem IH:HO.ok:=⟨(Tb 1 2).idB,(Tb 1 2).idL,by decide,by decide,by simp[HO,Asc],by decide⟩
section
variable {fu d:Nat}
theorem TI (D9:2000<=fu):Ai C0 prog fu (d+8) Id []=some ⟨[.sc (.bool true)],[]⟩:=by
 refine (Oi fu (d+7)).trans ?_;have s:=Zk (fu:=fu) (d:=d) (by omega) (k:=1) (by omega) (by omega) 2
 have q1:=H4 (fu:=fu) (d:=d+3) (Tb 1 2) D9 1 0 7;have q2:=H4 (fu:=fu) (d:=d+3) Ah7 D9 3 2 8;have q3:=H4 (fu:=fu) (d:=d+3) IH D9 0 0 9;have q4:=H4 (fu:=fu) (d:=d+3) IH D9 3 2 9;rw[Aja] at q1;rw[Ala] at q2;rw[Ajl] at q3;rw[Ajf] at q4;have i1:HO.id.length=176:=by show (Pg _ 176).length=176;rw[Pg,Kc]
 have q5:=IP (fu:=fu) (d:=d+4) D9 (nm:=Ny) (us:=uuN) (c:=HO) (by decide) (by decide) i1 (by decide)
 have q6:=BP (xs:=Gl) (fu:=fu) (d:=d+6) (l:=[⟨Ny,uuN,[HO]⟩]) (nm:=Ny) (by simp) (by simp;omega)
 have e6:fnd Ny 0 [⟨Ny,uuN,[HO]⟩]=some 0:=rfl;rw[e6] at q6
 have q7:=JV (fu:=fu) (d:=d) D9 (l:=[⟨Ny,uuN,[HO]⟩]) (by simp) (by
  intro a ha;rw[List.mem_singleton] at ha;subst ha
  exact⟨by simp,by
   intro c hc;rw[List.mem_singleton] at hc;subst hc;exact IH⟩) 1 (nm:=Ag6) (by decide)
 have lL:([⟨Ny,uuN,[HO]⟩]:List DI).length=1:=rfl;rw[lL] at q6 q7;simp only[NZ] at q6;generalize Vc [⟨Ny,uuN,[HO]⟩]=A at q5 q6 q7;generalize E5 (Aho [⟨Ny,uuN,[HO]⟩] 1 Ag6)=R at q7;simp only[Sd.cells,XC,aw1,HO,aw4] at s q1 q2 q3 q4 q5;simp only[Ny,uuN] at q5;simp only[Ny] at q6;simp only[Ag6] at q7;generalize Pg (600+1) 176=id at *
 have e1:((0:Int)==0)=true:=rfl;have e2:((37:Int)==37)=true:=rfl;have e3:((10:Int)==10)=true:=rfl;have e4:((([(0,1),(2,3)]:List (Int × Int)).length:Int)==2)=true:=rfl;have e5:(((4:Nat):Int)==4)=true:=rfl;have e0:((0:Nat):Int)=0:=rfl;rw[e0] at q6;show E6 fu (Ai C0 prog fu (d+7)) fu=_;rw[Lt (Es:=by omega)]
 simp only[Ds,s,q1];rw[Ly (Es:=by omega)]
 simp only[Ds,q2];rw[Lx (Es:=by omega)]
 simp only[Ds,q3];rw[Lo (Es:=by omega)]
 simp only[Ds,q4];rw[Mc (Es:=by omega)]
 simp only[Ds,q5];rw[L7 (Es:=by omega)]
 simp only[Ds,q6];rw[Mh (Es:=by omega)]
 simp only[Ds,e1,e2,e3,e4,e5,Bool.not_false,q7]
end
end
section
open Go.Proofs.Try (prog)
open Go.IntKind (wrap)
set_option maxRecDepth 100000
abbrev Gn:FuncId:=11
theorem Lz (fu d Bm:Nat)(B5:List PV)(B2:Int):Ai C0 prog fu (d+1) Gn [.pbox [.lst false 1 Bm B5,.sc (.int .i64 B2)]]=(fun (call:Aj)=>some (A7.mk [.sc (.bool (decide (B2<(↑Bm:Int))))] [[.lst false 1 Bm B5,.sc (.int .i64 B2)]])) (Ai C0 prog fu d):=by kernel_rfl
end
section
open Go.Proofs.Try (prog)
open Go.IntKind (wrap)
set_option maxRecDepth 100000
abbrev Ek:FuncId:=4
noncomputable def At (fu:Nat)(call:Aj)(Bv:Nat)(a0:List PV)(a1 a2:Int)(a3 a4:Int)(nn:Nat)(y0:Int)(y1:Nat)(y2:List PV)(y3:Int)(y4:Nat)(y5:List PV)(y6 y7:Int)(y8 y9:Int)(Dq:Bool)(D6:Int)(Cy:Nat)(D8:List PV)(Eh:Bool)(Fh Et:Int)(Ep:Nat)(H3:List PV)(Jo Jq:Int)(Ju Jn:Int)(Jt:Bool)(Jv:Int)(Jp:Nat)(Jk:List PV)(Jj:Bool)(Jm Ni:Int):Option A7:=C5 CB prog fu call 4 Try.f4 (Bz Try.f4) [.lst false 1 Bv a0,.sc (.int .i64 a1),.sc (.int .i64 a2),.sc (.int .i64 a3),.sc (.int .i64 a4)] [.r,.r,.r,.r,.r,.r,.r,.l,.r,.l] nn ⟨lk [(11,(.ptr 11 0)),(13,(.ptr 13 0)),(14,(.ptr 14 0)),(19,(.sc (.int .i64 y0)))],Fo [(11,(.st [(.lst false 1 y1 y2),(.sc (.int .i64 y3))])),(13,(.st [(.lst false 1 y4 y5),(.sc (.int .i64 y6)),(.sc (.int .u64 y7)),(.sc (.int .u64 y8)),(.sc (.int .i64 y9)),(.sc (.bool Dq)),(.sc (.int .u64 D6)),(.lst false 2 Cy D8),(.sc (.bool Eh)),(.sc (.int .i64 Fh)),(.sc (.int .i64 Et))])),(14,(.st [(.lst false 1 Ep H3),(.sc (.int .i64 Jo)),(.sc (.int .u64 Jq)),(.sc (.int .u64 Ju)),(.sc (.int .i64 Jn)),(.sc (.bool Jt)),(.sc (.int .u64 Jv)),(.lst false 2 Jp Jk),(.sc (.bool Jj)),(.sc (.int .i64 Jm)),(.sc (.int .i64 Ni))]))]⟩
theorem Dw (fu:Nat)(call:Aj)(Bv:Nat)(a0:List PV)(a1 a2:Int)(a3 a4:Int)(nn:Nat)(y0:Int)(y1:Nat)(y2:List PV)(y3:Int)(y4:Nat)(y5:List PV)(y6 y7:Int)(y8 y9:Int)(Dq:Bool)(D6:Int)(Cy:Nat)(D8:List PV)(Eh:Bool)(Fh Et:Int)(Ep:Nat)(H3:List PV)(Jo Jq:Int)(Ju Jn:Int)(Jt:Bool)(Jv:Int)(Jp:Nat)(Jk:List PV)(Jj:Bool)(Jm Ni:Int):At fu call Bv a0 a1 a2 a3 a4 (nn+1) y0 y1 y2 y3 y4 y5 y6 y7 y8 y9 Dq D6 Cy D8 Eh Fh Et Ep H3 Jo Jq Ju Jn Jt Jv Jp Jk Jj Jm Ni=(Bu (decide (y0<40)) (Ao (call 11 [.pbox [.lst false 1 y1 y2,.sc (.int .i64 y3)]]) fun Afa Afl=>Aa Afa fun Aei Ahc=>A0 Aei fun Ag9=>Af Ahc<|Aa Afl fun Ael Agp=>Aa Ael fun Aep Age=>Eu 1 Aep fun Aln Ae2 Aht=>Aa Age fun Alz Agl=>Ad .i64 Alz fun Ahf=>Af Agl<|Af Agp<|Bu Ag9 (Ao (call 14 [.pbox [.lst false 1 Ae2 Aht,.sc (.int .i64 Ahf)],.sc (.int .i64 18)]) fun Af8 Afm=>Aa Af8 fun Afe Ad7=>Ad .i64 Afe fun Ahx=>Af Ad7<|Aa Afm fun Agu Agz=>Aa Agu fun Aie Agc=>Eu 1 Aie fun Alq Ag0 Af3=>Aa Agc fun Ahg Agg=>Ad .i64 Ahg fun Aig=>Af Agg<|Af Agz<|Ab (wrap .i64 (Ahx-1)) fun OL=>Ao (call 14 [.pbox [.lst false 1 Ag0 Af3,.sc (.int .i64 Aig)],.sc (.int .i64 18)]) fun Ajj Aoy=>Aa Ajj fun Aoc Ana=>Ad .i64 Aoc fun Atn=>Af Ana<|Aa Aoy fun Anl Anf=>Aa Anl fun Atq Am4=>Eu 1 Atq fun Awz Aph Asf=>Aa Am4 fun Ato At7=>Ad .i64 Ato fun Apt=>Af At7<|Af Anf<|Ab (wrap .i64 (Atn-1)) fun Aka=>Ao (call 14 [.pbox [.lst false 1 Aph Asf,.sc (.int .i64 Apt)],.sc (.int .i64 3)]) fun At9 Aoa=>Aa At9 fun Arh Ari=>Ad .i64 Arh fun Aue=>Af Ari<|Aa Aoa fun Aod As3=>Aa Aod fun At0 Apf=>Eu 1 At0 fun Awc Ad5 Ah5=>Aa Apf fun Aqa Anp=>Ad .i64 Aqa fun Afp=>Af Anp<|Af As3<|Bu (decide (Aue>0)) (Ao (call 14 [.pbox [.lst false 1 Ad5 Ah5,.sc (.int .i64 Afp)],.sc (.int .i64 3)]) fun Ar8 At5=>Aa Ar8 fun Atk Anh=>Ad .i64 Atk fun Afc=>Af Anh<|Aa At5 fun Apo Aqv=>Aa Apo fun Ass Amu=>Eu 1 Ass fun Ax0 Akz Ajk=>Aa Amu fun Atb Am2=>Ad .i64 Atb fun Ajo=>Af Am2<|Af Aqv<|Ar (decide (0<=Afc)&&decide (Afc<3))<|Ad .i64 (List.getD [.sc (.int .i64 0),.sc (.int .i64 8),.sc (.int .i64 4)] (0+Int.toNat Afc*1) .top) fun Ai6=>Ao (call 21 [.agg [.lst false 1 y4 y5,.sc (.int .i64 y6),.sc (.int .u64 y7),.sc (.int .u64 y8),.sc (.int .i64 y9),.sc (.bool Dq),.sc (.int .u64 D6),.lst false 2 Cy D8,.sc (.bool Eh),.sc (.int .i64 Fh),.sc (.int .i64 Et)],.sc (.int .i64 OL),.sc (.int .i64 Ai6),.sc (.int .i64 y0)]) fun Are And=>Af And<|Aa Are fun Asl Apu=>Dv Asl fun Apm=>Aa Apm fun At4 Ats=>Eu 1 At4 fun Av7 ZD Abl=>Aa Ats fun Aub Apw=>Ad .i64 Aub fun Abc=>Aa Apw fun Anx Aqp=>Ad .u64 Anx fun Aa6=>Aa Aqp fun Aqz Anb=>Ad .u64 Aqz fun Aa7=>Aa Anb fun Arv As5=>Ad .i64 Arv fun Ab6=>Aa As5 fun Arc As1=>A0 Arc fun Acg=>Aa As1 fun Am1 Aok=>Ad .u64 Am1 fun Aa4=>Aa Aok fun Aq1 Anu=>Eu 2 Aq1 fun Axu Abw YK=>Aa Anu fun Aoo Amw=>A0 Aoo fun Ahn=>Aa Amw fun Apx Apv=>Ad .i64 Apx fun Acj=>Aa Apv fun Ars At8=>Ad .i64 Ars fun Aai=>Af At8<|Aa Apu fun Aoe As2=>Ad .i64 Aoe fun Aqk=>Af As2<|Ao (call 22 [.agg [.lst false 1 Ep H3,.sc (.int .i64 Jo),.sc (.int .u64 Jq),.sc (.int .u64 Ju),.sc (.int .i64 Jn),.sc (.bool Jt),.sc (.int .u64 Jv),.lst false 2 Jp Jk,.sc (.bool Jj),.sc (.int .i64 Jm),.sc (.int .i64 Ni)],.sc (.int .i64 OL),.sc (.int .i64 Ai6),.sc (.int .i64 y0)]) fun Aq7 Atv=>Af Atv<|Aa Aq7 fun Amt Ar5=>Dv Amt fun Apn=>Aa Apn fun Am8 Art=>Eu 1 Am8 fun Ax2 Acd YS=>Aa Art fun Anr Amv=>Ad .i64 Anr fun Ab7=>Aa Amv fun As9 At3=>Ad .u64 As9 fun ZC=>Aa At3 fun Ao4 Ark=>Ad .u64 Ao4 fun ZU=>Aa Ark fun Aqw Am3=>Ad .i64 Aqw fun ZR=>Aa Am3 fun Asb An3=>A0 Asb fun Abo=>Aa An3 fun As7 Atx=>Ad .u64 As7 fun Acn=>Aa Atx fun At6 Ams=>Eu 2 At6 fun Awq Aan YP=>Aa Ams fun Asu Ar7=>A0 Asu fun Aah=>Aa Ar7 fun Aot Ao2=>Ad .i64 Aot fun ZT=>Aa Ao2 fun Arw An2=>Ad .i64 Arw fun Aaq=>Af An2<|Aa Ar5 fun Auk Aqn=>Ad .i64 Auk fun Anv=>Af Aqn<|Bu (Aqk != Anv) (some (A7.mk [.sc (.bool false)] [])) (Ao (call 23 [.agg [.lst false 1 ZD Abl,.sc (.int .i64 Abc),.sc (.int .u64 Aa6),.sc (.int .u64 Aa7),.sc (.int .i64 Ab6),.sc (.bool Acg),.sc (.int .u64 Aa4),.lst false 2 Abw YK,.sc (.bool Ahn),.sc (.int .i64 Acj),.sc (.int .i64 Aai)],.agg [.lst false 1 Acd YS,.sc (.int .i64 Ab7),.sc (.int .u64 ZC),.sc (.int .u64 ZU),.sc (.int .i64 ZR),.sc (.bool Abo),.sc (.int .u64 Acn),.lst false 2 Aan YP,.sc (.bool Aah),.sc (.int .i64 ZT),.sc (.int .i64 Aaq)]]) fun Asv Aou=>Af Aou<|Aa Asv fun An9 Ao7=>A0 An9 fun Anj=>Af Ao7<|Bu (!Anj) (some (A7.mk [.sc (.bool false)] [])) (Bu Aah (Ao (call 14 [.pbox [.lst false 1 Akz Ajk,.sc (.int .i64 Ajo)],.sc (.int .i64 2)]) fun Ap8 Ar4=>Aa Ap8 fun Aum Aov=>Ad .i64 Aum fun Aor=>Af Aov<|Aa Ar4 fun An8 Ap1=>Aa An8 fun Auc As0=>Eu 1 Auc fun Awn Ak0 Ajw=>Aa As0 fun Ar9 Apd=>Ad .i64 Ar9 fun Ak6=>Af Apd<|Af Ap1<|Bu (Aor==1) (Ab (wrap .i64 (y0+1)) fun Apc=>At fu call Bv a0 a1 a2 a3 a4 (nn) Apc Ak0 Ajw Ak6 ZD Abl Abc Aa6 Aa7 Ab6 Acg Aa4 Abw YK (false) Acj Aai Acd YS Ab7 ZC ZU ZR Abo Acn Aan YP (false) ZT Aaq) (Ab (wrap .i64 (y0+1)) fun Ar6=>At fu call Bv a0 a1 a2 a3 a4 (nn) Ar6 Ak0 Ajw Ak6 ZD Abl Abc Aa6 Aa7 Ab6 Acg Aa4 Abw YK Ahn Acj Aai Acd YS Ab7 ZC ZU ZR Abo Acn Aan YP Aah ZT Aaq)) (Ab (wrap .i64 (y0+1)) fun Ar2=>At fu call Bv a0 a1 a2 a3 a4 (nn) Ar2 Akz Ajk Ajo ZD Abl Abc Aa6 Aa7 Ab6 Acg Aa4 Abw YK Ahn Acj Aai Acd YS Ab7 ZC ZU ZR Abo Acn Aan YP Aah ZT Aaq)))) (Ao (call 21 [.agg [.lst false 1 y4 y5,.sc (.int .i64 y6),.sc (.int .u64 y7),.sc (.int .u64 y8),.sc (.int .i64 y9),.sc (.bool Dq),.sc (.int .u64 D6),.lst false 2 Cy D8,.sc (.bool Eh),.sc (.int .i64 Fh),.sc (.int .i64 Et)],.sc (.int .i64 OL),.sc (.int .i64 Aka),.sc (.int .i64 y0)]) fun Aq8 Auo=>Af Auo<|Aa Aq8 fun Ase Ao8=>Dv Ase fun Apj=>Aa Apj fun Ang Att=>Eu 1 Ang fun Avy YN Aci=>Aa Att fun An0 Atz=>Ad .i64 An0 fun Abn=>Aa Atz fun Aqo Asd=>Ad .u64 Aqo fun ZJ=>Aa Asd fun Aq5 Ao0=>Ad .u64 Aq5 fun Aar=>Aa Ao0 fun Aow Aug=>Ad .i64 Aow fun Aay=>Aa Aug fun Arp Aob=>A0 Arp fun Ace=>Aa Aob fun Auf Arm=>Ad .u64 Auf fun YQ=>Aa Arm fun Aoj Atj=>Eu 2 Aoj fun Awl ZX Aba=>Aa Atj fun Aq4 Ata=>A0 Aq4 fun Afu=>Aa Ata fun An5 Aol=>Ad .i64 An5 fun Ab8=>Aa Aol fun At2 An6=>Ad .i64 At2 fun Aaf=>Af An6<|Aa Ao8 fun Arf Atf=>Ad .i64 Arf fun Aui=>Af Atf<|Ao (call 22 [.agg [.lst false 1 Ep H3,.sc (.int .i64 Jo),.sc (.int .u64 Jq),.sc (.int .u64 Ju),.sc (.int .i64 Jn),.sc (.bool Jt),.sc (.int .u64 Jv),.lst false 2 Jp Jk,.sc (.bool Jj),.sc (.int .i64 Jm),.sc (.int .i64 Ni)],.sc (.int .i64 OL),.sc (.int .i64 Aka),.sc (.int .i64 y0)]) fun Aua Ash=>Af Ash<|Aa Aua fun Aoz Arj=>Dv Aoz fun Ap3=>Aa Ap3 fun Aso Arn=>Eu 1 Aso fun Axn Aa8 Abq=>Aa Arn fun Aqy Aqu=>Ad .i64 Aqy fun Abz=>Aa Aqu fun Aon As6=>Ad .u64 Aon fun ZM=>Aa As6 fun Asq Auh=>Ad .u64 Asq fun YG=>Aa Auh fun Ape Aqs=>Ad .i64 Ape fun Aas=>Aa Aqs fun Aqj Ar3=>A0 Aqj fun Acl=>Aa Ar3 fun Ar1 Anz=>Ad .u64 Ar1 fun Aa0=>Aa Anz fun Aqm An4=>Eu 2 Aqm fun Axv Aa5 Abx=>Aa An4 fun Apr Aoi=>A0 Apr fun Abv=>Aa Aoi fun Apq Atw=>Ad .i64 Apq fun Aad=>Aa Atw fun Aql Aom=>Ad .i64 Aql fun Abj=>Af Aom<|Aa Arj fun Aqt Ara=>Ad .i64 Aqt fun Atd=>Af Ara<|Bu (Aui != Atd) (some (A7.mk [.sc (.bool false)] [])) (Ao (call 23 [.agg [.lst false 1 YN Aci,.sc (.int .i64 Abn),.sc (.int .u64 ZJ),.sc (.int .u64 Aar),.sc (.int .i64 Aay),.sc (.bool Ace),.sc (.int .u64 YQ),.lst false 2 ZX Aba,.sc (.bool Afu),.sc (.int .i64 Ab8),.sc (.int .i64 Aaf)],.agg [.lst false 1 Aa8 Abq,.sc (.int .i64 Abz),.sc (.int .u64 ZM),.sc (.int .u64 YG),.sc (.int .i64 Aas),.sc (.bool Acl),.sc (.int .u64 Aa0),.lst false 2 Aa5 Abx,.sc (.bool Abv),.sc (.int .i64 Aad),.sc (.int .i64 Abj)]]) fun Ast Api=>Af Api<|Aa Ast fun Aq3 Anm=>A0 Aq3 fun Ap4=>Af Anm<|Bu (!Ap4) (some (A7.mk [.sc (.bool false)] [])) (Bu Abv (Ao (call 14 [.pbox [.lst false 1 Ad5 Ah5,.sc (.int .i64 Afp)],.sc (.int .i64 2)]) fun Arq Asz=>Aa Arq fun Am5 Am6=>Ad .i64 Am5 fun At1=>Af Am6<|Aa Asz fun Aro Aoq=>Aa Aro fun Aqq Ar0=>Eu 1 Aqq fun Ax7 Alc Ai7=>Aa Ar0 fun Ard Ant=>Ad .i64 Ard fun Ak9=>Af Ant<|Af Aoq<|Bu (At1==1) (Ab (wrap .i64 (y0+1)) fun Asa=>At fu call Bv a0 a1 a2 a3 a4 (nn) Asa Alc Ai7 Ak9 YN Aci Abn ZJ Aar Aay Ace YQ ZX Aba (false) Ab8 Aaf Aa8 Abq Abz ZM YG Aas Acl Aa0 Aa5 Abx (false) Aad Abj) (Ab (wrap .i64 (y0+1)) fun Ane=>At fu call Bv a0 a1 a2 a3 a4 (nn) Ane Alc Ai7 Ak9 YN Aci Abn ZJ Aar Aay Ace YQ ZX Aba Afu Ab8 Aaf Aa8 Abq Abz ZM YG Aas Acl Aa0 Aa5 Abx Abv Aad Abj)) (Ab (wrap .i64 (y0+1)) fun Apg=>At fu call Bv a0 a1 a2 a3 a4 (nn) Apg Ad5 Ah5 Afp YN Aci Abn ZJ Aar Aay Ace YQ ZX Aba Afu Ab8 Aaf Aa8 Abq Abz ZM YG Aas Acl Aa0 Aa5 Abx Abv Aad Abj))))) (Ao (call 9 []) fun Ao9 Aqc=>Af Aqc<|Aa Ao9 fun Anc Ary=>A0 Anc fun Ap5=>Af Ary<|some (A7.mk [.sc (.bool Ap5)] []))) (Ao (call 9 []) fun Aps Ate=>Af Ate<|Aa Aps fun Aup Asp=>A0 Aup fun Arb=>Af Asp<|some (A7.mk [.sc (.bool Arb)] []))):=by kernel_rfl
theorem Ip (fu d Bv:Nat)(a0:List PV)(a1 a2:Int)(a3 a4:Int):Ai C0 prog fu (d+1) Ek [.lst false 1 Bv a0,.sc (.int .i64 a1),.sc (.int .i64 a2),.sc (.int .i64 a3),.sc (.int .i64 a4)]=(fun (call:Aj)=>Ao (call 10 [.lst false 1 Bv a0]) fun x1 x2=>Af x2<|Aa x1 fun x3 x4=>Pz x3 fun x5=>Aa x5 fun x6 x7=>Eu 1 x6 fun x8 x9 Lj=>Aa x7 fun Kg Ji=>Ad .i64 Kg fun Ph=>Af Ji<|Af x4<|Ao (call 20 [.sc (.int .i64 a1),.sc (.int .i64 7)]) fun Mj Ns=>Af Ns<|Aa Mj fun Qm Sw=>Ad .i64 Qm fun Pe=>Af Sw<|Ab (wrap .i64 (Pe-1)) fun Iu=>Ao (call 14 [.pbox [.lst false 1 x9 Lj,.sc (.int .i64 Ph)],.sc (.int .i64 4)]) fun Pi Qz=>Aa Pi fun Sr Q7=>Ad .i64 Sr fun Iy=>Af Q7<|Aa Qz fun T8 Uo=>Aa T8 fun Qn Z3=>Eu 1 Qn fun CK Nt P7=>Aa Z3 fun Ya Vr=>Ad .i64 Ya fun Tl=>Af Vr<|Af Uo<|Ar (decide (0<=Iy)&&decide (Iy<4))<|Ad .i64 (List.getD [.sc (.int .i64 a1),.sc (.int .i64 Iu),.sc (.int .i64 4),.sc (.int .i64 3)] (0+Int.toNat Iy*1) .top) fun Wo=>Ao (call 12 [.sc (.int .i64 1),.sc (.int .i64 Wo)]) fun Xw Su=>Af Su<|Aa Xw fun Yu DA=>Dv Yu fun Zu=>Aa Zu fun KW HJ=>Eu 1 KW fun MT EK HW=>Aa HJ fun KU JK=>Ad .i64 KU fun HR=>Aa JK fun IB Ys=>Ad .u64 IB fun FM=>Aa Ys fun LU HS=>Ad .u64 LU fun Wc=>Aa HS fun HN KQ=>Ad .i64 HN fun HK=>Aa KQ fun EX IR=>A0 EX fun DL=>Aa IR fun Zj DE=>Ad .u64 Zj fun OS=>Aa DE fun NS MI=>Eu 2 NS fun RI LO HL=>Aa MI fun QX OI=>A0 QX fun JE=>Aa OI fun OP UJ=>Ad .i64 OP fun HV=>Aa UJ fun JO RU=>Ad .i64 JO fun RP=>Af RU<|Af DA<|Ao (call 12 [.sc (.int .i64 1),.sc (.int .i64 Wo)]) fun RF XE=>Af XE<|Aa RF fun RM x81=>Dv RM fun WO=>Aa WO fun XR x84=>Eu 1 XR fun TH UI x87=>Aa x84 fun x88 RE=>Ad .i64 x88 fun XX=>Aa RE fun YT XS=>Ad .u64 YT fun XQ=>Aa XS fun x94 x95=>Ad .u64 x94 fun x96=>Aa x95 fun x97 x98=>Ad .i64 x97 fun x99=>Aa x98 fun JI JF=>A0 JI fun FV=>Aa JF fun KZ BK=>Ad .u64 KZ fun Rx=>Aa BK fun IZ KL=>Eu 2 IZ fun OE EH GA=>Aa KL fun IE KJ=>A0 IE fun GE=>Aa KJ fun KM FW=>Ad .i64 KM fun NV=>Aa FW fun RZ Ach=>Ad .i64 RZ fun NK=>Af Ach<|Af x81<|Ao (call 21 [.agg [.lst false 1 EK HW,.sc (.int .i64 HR),.sc (.int .u64 FM),.sc (.int .u64 Wc),.sc (.int .i64 HK),.sc (.bool DL),.sc (.int .u64 OS),.lst false 2 LO HL,.sc (.bool JE),.sc (.int .i64 HV),.sc (.int .i64 RP)],.sc (.int .i64 a2),.sc (.int .i64 a3),.sc (.int .i64 a4)]) fun TJ TU=>Af TU<|Aa TJ fun XH UT=>Dv XH fun WD=>Aa WD fun WG SB=>Eu 1 WG fun ZB TV UB=>Aa SB fun WK SH=>Ad .i64 WK fun TN=>Aa SH fun UD TG=>Ad .u64 UD fun WA=>Aa TG fun TM VW=>Ad .u64 TM fun SW=>Aa VW fun TO Ab5=>Ad .i64 TO fun RX=>Aa Ab5 fun RY WN=>A0 RY fun II=>Aa WN fun RV UQ=>Ad .u64 RV fun TX=>Aa UQ fun UZ Aer=>Eu 2 UZ fun Akh Afx Afs=>Aa Aer fun Agx Agh=>A0 Agx fun Ag8=>Aa Agh fun Af0 Agj=>Ad .i64 Af0 fun Ah6=>Aa Agj fun Ahe Af6=>Ad .i64 Ahe fun Ahy=>Af Af6<|Aa UT fun Ahi Aj6=>Ad .i64 Ahi fun Ae9=>Af Aj6<|Ao (call 22 [.agg [.lst false 1 UI x87,.sc (.int .i64 XX),.sc (.int .u64 XQ),.sc (.int .u64 x96),.sc (.int .i64 x99),.sc (.bool FV),.sc (.int .u64 Rx),.lst false 2 EH GA,.sc (.bool GE),.sc (.int .i64 NV),.sc (.int .i64 NK)],.sc (.int .i64 a2),.sc (.int .i64 a3),.sc (.int .i64 a4)]) fun Ag2 Ad4=>Af Ad4<|Aa Ag2 fun Agk Ae6=>Dv Agk fun Aec=>Aa Aec fun Ag3 Aev=>Eu 1 Ag3 fun All Ae7 Afy=>Aa Aev fun Aeo Aex=>Ad .i64 Aeo fun Afq=>Aa Aex fun Ah0 Ae0=>Ad .u64 Ah0 fun Aia=>Aa Ae0 fun Ahz Ae5=>Ad .u64 Ahz fun Afh=>Aa Ae5 fun Aet Alm=>Ad .i64 Aet fun Aez=>Aa Alm fun Aff Ahl=>A0 Aff fun Ah3=>Aa Ahl fun Ah4 Ad6=>Ad .u64 Ah4 fun Agd=>Aa Ad6 fun Af9 Ahh=>Eu 2 Af9 fun Aj9 Afj Aek=>Aa Ahh fun Ahm Aic=>A0 Ahm fun Af7=>Aa Aic fun Ae3 Aew=>Ad .i64 Ae3 fun Aib=>Aa Aew fun Ad9 Aes=>Ad .i64 Ad9 fun Afg=>Af Aes<|Aa Ae6 fun Ah8 Ajn=>Ad .i64 Ah8 fun Agt=>Af Ajn<|Bu (Ae9 != Agt) (some (A7.mk [.sc (.bool false)] [])) (Ao (call 23 [.agg [.lst false 1 TV UB,.sc (.int .i64 TN),.sc (.int .u64 WA),.sc (.int .u64 SW),.sc (.int .i64 RX),.sc (.bool II),.sc (.int .u64 TX),.lst false 2 Afx Afs,.sc (.bool Ag8),.sc (.int .i64 Ah6),.sc (.int .i64 Ahy)],.agg [.lst false 1 Ae7 Afy,.sc (.int .i64 Afq),.sc (.int .u64 Aia),.sc (.int .u64 Afh),.sc (.int .i64 Aez),.sc (.bool Ah3),.sc (.int .u64 Agd),.lst false 2 Afj Aek,.sc (.bool Af7),.sc (.int .i64 Aib),.sc (.int .i64 Afg)]]) fun Ags Ahv=>Af Ahv<|Aa Ags fun Ahj Aii=>A0 Ahj fun Ag7=>Af Aii<|Bu (!Ag7) (some (A7.mk [.sc (.bool false)] [])) (At fu call Bv a0 a1 a2 a3 a4 (fu) 0 Nt P7 Tl EK HW HR FM Wc HK DL OS LO HL JE HV RP UI x87 XX XQ x96 x99 FV Rx EH GA GE NV NK))) (Ai C0 prog fu d):=by kernel_rfl
end
section
open Go.Proofs.Try (prog)
open Go.IntKind (wrap)
set_option maxRecDepth 100000
theorem YX (c:Sd)(leaf f now:Int):(Ig c leaf f now).1.rg.length<=c.rg.length+1:=by
 unfold Ig;split
 ·simp
 split
 ·simp
 split
 ·simp
 split
 ·simp
 ·rename_i r h;exact CM h
theorem NE {c:Sd}(h:c.ok)(hr:c.rg.length<1000)(leaf f now:Int):(Ig c leaf f now).1.ok:=by
 unfold Ig;split
 ·exact h
 rename_i hb;rw[Bool.not_eq_true] at hb;obtain⟨r1,r2,r3,_⟩:=Qp hb;split
 ·exact h
 split
 ·exact⟨h.idB,h.idL,h.u0,h.u1,h.asc,h.rgn⟩
 split
 ·exact h
 ·rename_i r hp;have sB:=Ahp h.u0 h.u1 (k:=leaf) (by omega) (by omega)
  have:=CM hp;exact⟨h.idB,h.idL,sB.1,sB.2,LZ h.asc hp,by show r.length<=1000;omega⟩
section
variable {fu d:Nat}
theorem HF {n m:Nat}{a b:List PV}{call:Aj}{l:List (Int × Int)} (hl:l.length<=100000):∀(r:List (Int × Int)) (i nn:Nat),l.drop i=r->r.length<nn->i<=l.length ->
  Cl fu call n a m b nn l.length (Eg l) l.length (Eg l) (i:Int)=some ⟨[.sc (.bool true)],[]⟩:=by
 intro r
 induction r with
 |nil=>
  intro i nn hd Es hi;have:=drop_nil hd;obtain⟨nn,rfl⟩:∃k,nn=k+1:=⟨nn-1,by omega⟩
  rw[Ev];simp (disch:=omega) only[Ds]
 |cons p r ih=>
  intro i nn hd Es hi;obtain⟨Bl,Eo,hd'⟩:=Fj hd;obtain⟨nn,rfl⟩:∃k,nn=k+1:=⟨nn-1,by omega⟩
  rw[Ev];have eF:=YJ Eo;have eL:=Acm Eo;have n1:Int.toNat (i:Int)=i:=AP _;have w1:wrap .i64 ((i:Int)+1)=((i+1:Nat):Int):=by rw[wrap_i64 (by omega) (by omega)];omega
  have q:=ih (i+1) nn hd' (by simp at Es;omega) (by omega)
  have b1:(!(p.1==p.1&&p.2==p.2))=false:=by simp
  simp (disch:=omega) only[Ds,n1,eF,eL,Bool.and_true,b1,w1,q]
theorem OU {l:List (Int × Int)} (hl:l.length<=100000)(D9:l.length<fu):Ai C0 prog fu (d+1) Fq [.lst false 2 l.length (Eg l),.lst false 2 l.length (Eg l)]=some ⟨[.sc (.bool true)],[]⟩:=by
 rw[Kj];have b1:((l.length:Int) != (l.length:Int))=false:=by simp
 simp (disch:=omega) only[Ds,b1];exact HF hl l 0 fu rfl D9 (by omega)
theorem S1 {c:Sd}(hk:c.ok)(D9:2000<=fu):Ai C0 prog fu (d+2) Fp [.agg c.cells,.agg c.cells]=some ⟨[.sc (.bool true)],[]⟩:=by
 refine (Kq fu (d+1) c.id.length (Au .u8 c.id) c.ht c.root c.model c.fmt c.sh c.used c.rg.length (Eg c.rg) c.sus c.since c.last c.id.length (Au .u8 c.id) c.ht c.root c.model c.fmt c.sh c.used c.rg.length (Eg c.rg) c.sus c.since c.last).trans ?_;have l1:=Bf .u8 c.id;have q:=OU (fu:=fu) (d:=d) (l:=c.rg) (by have:=hk.rgn;omega) (by have:=hk.rgn;omega)
 have bb:=Od c.id;have b0:∀l:List UInt8,(l==l)=true:=fun l=>by simp
 have b1:∀x:Int,(x==x)=true:=fun x=>by simp
 have b2:∀x:Bool,(x==x)=true:=fun x=>by cases x<;>rfl
 try unfold Ab
 repeat first
  |((with_reducible first|apply Gb|apply Er|apply Gc|apply G5|apply P9|apply Jx|apply Ia|apply Lf|apply Em|apply F9|apply Gd);· first|with_reducible rfl|(simp (disch:=omega) only[gT,l1,bb,b0,b1,b2,q,Bool.and_true]<;>first|with_reducible rfl|omega)|omega)
  |(with_reducible apply Ge;· first|with_reducible rfl|(simp (disch:=omega) only[gF,l1,bb,b0,b1,b2,q,Bool.and_true]<;>omega))
 try simp (disch:=omega) only[l1,bb,b0,b1,b2,q,Bool.and_true]
theorem Ab4 (l:List Int)(a:Nat):Ai C0 prog fu (d+1) Gn [.pbox (VX l a)]=some ⟨[.sc (.bool (decide ((a:Int)<(l.length:Int))))],[VX l a]⟩:=by
 unfold VX;rw[Lz]
noncomputable abbrev YA (fu:Nat)(call:Aj)(l:List Int)(a1 a2 a3 a4:Int)(nn i p:Nat)(c:Sd):Option A7:=
 At fu call l.length (Au .i64 l) a1 a2 a3 a4 nn (i:Int) l.length (Au .i64 l) (p:Int) c.id.length (Au .u8 c.id) c.ht c.root c.model c.fmt c.sh c.used c.rg.length (Eg c.rg) c.sus c.since c.last c.id.length (Au .u8 c.id) c.ht c.root c.model c.fmt c.sh c.used c.rg.length (Eg c.rg) c.sus c.since c.last
set_option maxHeartbeats 2000000 in
theorem ZS (D9:2000<=fu){l:List Int}(hll:l.length<=maxLen){a1 a2 a3 a4:Int}:∀(k i nn p:Nat)(c:Sd),i+k=40->k<nn->c.ok->c.rg.length<=i+1 ->
  YA fu (Ai C0 prog fu (d+8)) l a1 a2 a3 a4 nn i p c=some ⟨[.sc (.bool true)],[]⟩:=by
 have aw:=TI (fu:=fu) (d:=d) D9;have QY:=hll;simp only[maxLen] at hll;intro k
 induction k with
 |zero=>
  intro i nn p c h1 h2 hk hr;obtain⟨nn,rfl⟩:∃k,nn=k+1:=⟨nn-1,by omega⟩
  unfold YA;rw[Dw];have h40:¬((i:Int)<40):=by omega
  try unfold Ab
  repeat first
   |((with_reducible first|apply Gb|apply Er|apply Gc|apply G5|apply P9|apply Jx|apply Ia|apply Lf|apply Em|apply F9|apply Gd);· first|with_reducible rfl|(simp (disch:=omega) only[gT,aw]<;>first|with_reducible rfl|omega)|omega)
   |(with_reducible apply Ge;· first|with_reducible rfl|(simp (disch:=omega) only[gF,aw]<;>omega))
  try simp (disch:=omega) only[aw]
 |succ k ih=>
  intro i nn p c h1 h2 hk hr;obtain⟨nn,rfl⟩:∃k,nn=k+1:=⟨nn-1,by omega⟩
  unfold YA;rw[Dw];have lf:=Ab4 (fu:=fu) (d:=d+7) l p;by_cases hp:(p:Int)<(l.length:Int)
  rotate_left
  ·rw[decide_eq_false hp] at lf;simp only[VX] at lf
   try unfold Ab
   repeat first
    |((with_reducible first|apply Gb|apply Er|apply Gc|apply G5|apply P9|apply Jx|apply Ia|apply Lf|apply Em|apply F9|apply Gd);· first|with_reducible rfl|(simp (disch:=omega) only[gT,lf,aw]<;>first|with_reducible rfl|omega)|omega)
    |(with_reducible apply Ge;· first|with_reducible rfl|(simp (disch:=omega) only[gF,lf,aw]<;>omega))
   try simp (disch:=omega) only[lf,aw]
  rw[decide_eq_true hp] at lf;obtain⟨v1,p1,b1,c1,n1⟩:=Nb QY p 18 (by omega) (by omega)
  obtain⟨v2,p2,b2,c2,n2⟩:=Nb QY p1 18 (by omega) (by omega)
  obtain⟨v3,p3,b3,c3,n3⟩:=Nb QY p2 3 (by omega) (by omega)
  obtain⟨v4,p4,b4,c4,n4⟩:=Nb QY p3 3 (by omega) (by omega)
  have m1:=n1 (fu:=fu) (d:=d+6);have m2:=n2 (fu:=fu) (d:=d+6);have m3:=n3 (fu:=fu) (d:=d+6);have m4:=n4 (fu:=fu) (d:=d+6);clear n1 n2 n3 n4;simp only[VX] at lf m1 m2 m3 m4;have w1:wrap .i64 ((i:Int)+1)=((i+1:Nat):Int):=by rw[wrap_i64 (by omega) (by omega)];omega
  have bS:∀x y:Option A7,Bu true x y=x:=fun _ _=>rfl
  have bF:∀x y:Option A7,Bu false x y=y:=fun _ _=>rfl
  have fin:∀(f:Int) (q:Nat) (o2:List PV),∃c':Sd,(∃e:Int,Ig c (wrap .i64 (v1-1)) f (i:Int)=(c',e))∧c'.ok∧c'.rg.length<=i+2:=by
   intro f q o2;refine⟨(Ig c (wrap .i64 (v1-1)) f i).1,⟨_,rfl⟩,NE hk (by omega) _ _ _,?_⟩
   have:=YX c (wrap .i64 (v1-1)) f i;omega
  by_cases h3:v3>0
  ·obtain⟨f,hf⟩:∃f:Int,List.getD [PV.sc (Value.int IntKind.i64 (0:Int)),PV.sc (Value.int IntKind.i64 (8:Int)),PV.sc (Value.int IntKind.i64 (4:Int))] ((0:Nat)+Int.toNat v4*(1:Nat)) PV.top=.sc (.int .i64 f):=by
    have:v4=0∨v4=1∨v4=2:=by omega
    rcases this with rfl|rfl|rfl
    ·exact⟨0,rfl⟩
    ·exact⟨8,rfl⟩
    ·exact⟨4,rfl⟩
   obtain⟨c',⟨e,hc⟩,Fc,MZ⟩:=fin f 0 [];have ac:=H4 (fu:=fu) (d:=d+4) hk D9 (wrap .i64 (v1-1)) f (i:Int);have ar:=Qe (fu:=fu) (d:=d+6) hk D9 (wrap .i64 (v1-1)) f (i:Int);have ss:=S1 (fu:=fu) (d:=d+6) Fc D9;rw[hc] at ac ar;simp only[Sd.cells] at ac ar ss;have b1':(e != e)=false:=by simp
   have b2':(!true)=false:=rfl;obtain⟨v5,p5,b5,c5,n5⟩:=Nb QY p4 2 (by omega) (by omega)
   have m5:=n5 (fu:=fu) (d:=d+6);simp only[VX] at m5;cases hs:c'.sus
   ·rw[hs] at ss;have q1:=ih (i+1) nn p4 c' (by omega) (by omega) Fc MZ
    unfold YA at q1;rw[hs] at q1
    try unfold Ab
    repeat first
     |((with_reducible first|apply Gb|apply Er|apply Gc|apply G5|apply P9|apply Jx|apply Ia|apply Lf|apply Em|apply F9|apply Gd);· first|with_reducible rfl|(simp (disch:=omega) only[gT,lf,m1,m2,m3,m4,hf,ac,ar,b1',ss,b2',hs,w1,q1]<;>first|with_reducible rfl|omega)|omega)
     |(with_reducible apply Ge;· first|with_reducible rfl|(simp (disch:=omega) only[gF,lf,m1,m2,m3,m4,hf,ac,ar,b1',ss,b2',hs,w1,q1]<;>omega))
    try simp (disch:=omega) only[lf,m1,m2,m3,m4,hf,ac,ar,b1',ss,b2',hs,w1,q1]
   ·rw[hs] at ss;by_cases h5:v5=1
    ·have q1:=ih (i+1) nn p5 { c' with sus:=false } (by omega) (by omega) ⟨Fc.idB,Fc.idL,Fc.u0,Fc.u1,Fc.asc,Fc.rgn⟩ MZ
     unfold YA at q1;have e5:(v5==1)=true:=by simp[h5]
     try unfold Ab
     repeat first
      |((with_reducible first|apply Gb|apply Er|apply Gc|apply G5|apply P9|apply Jx|apply Ia|apply Lf|apply Em|apply F9|apply Gd);· first|with_reducible rfl|(simp (disch:=omega) only[gT,lf,m1,m2,m3,m4,hf,ac,ar,b1',ss,b2',hs,m5,e5,w1,q1]<;>first|with_reducible rfl|omega)|omega)
      |(with_reducible apply Ge;· first|with_reducible rfl|(simp (disch:=omega) only[gF,lf,m1,m2,m3,m4,hf,ac,ar,b1',ss,b2',hs,m5,e5,w1,q1]<;>omega))
     try simp (disch:=omega) only[lf,m1,m2,m3,m4,hf,ac,ar,b1',ss,b2',hs,m5,e5,w1,q1]
    ·have q1:=ih (i+1) nn p5 c' (by omega) (by omega) Fc MZ
     unfold YA at q1;rw[hs] at q1;have e5:(v5==1)=false:=by simp[h5]
     try unfold Ab
     repeat first
      |((with_reducible first|apply Gb|apply Er|apply Gc|apply G5|apply P9|apply Jx|apply Ia|apply Lf|apply Em|apply F9|apply Gd);· first|with_reducible rfl|(simp (disch:=omega) only[gT,lf,m1,m2,m3,m4,hf,ac,ar,b1',ss,b2',hs,m5,e5,w1,q1]<;>first|with_reducible rfl|omega)|omega)
      |(with_reducible apply Ge;· first|with_reducible rfl|(simp (disch:=omega) only[gF,lf,m1,m2,m3,m4,hf,ac,ar,b1',ss,b2',hs,m5,e5,w1,q1]<;>omega))
     try simp (disch:=omega) only[lf,m1,m2,m3,m4,hf,ac,ar,b1',ss,b2',hs,m5,e5,w1,q1]
  ·obtain⟨f,hf⟩:∃f:Int,wrap .i64 (v2-1)=f:=⟨_,rfl⟩;obtain⟨c',⟨e,hc⟩,Fc,MZ⟩:=fin f 0 [];have ac:=H4 (fu:=fu) (d:=d+4) hk D9 (wrap .i64 (v1-1)) f (i:Int);have ar:=Qe (fu:=fu) (d:=d+6) hk D9 (wrap .i64 (v1-1)) f (i:Int);have ss:=S1 (fu:=fu) (d:=d+6) Fc D9;rw[hc] at ac ar;simp only[Sd.cells] at ac ar ss;have b1':(e != e)=false:=by simp
   have b2':(!true)=false:=rfl;obtain⟨v5,p5,b5,c5,n5⟩:=Nb QY p3 2 (by omega) (by omega)
   have m5:=n5 (fu:=fu) (d:=d+6);simp only[VX] at m5;cases hs:c'.sus
   ·rw[hs] at ss;have q1:=ih (i+1) nn p3 c' (by omega) (by omega) Fc MZ
    unfold YA at q1;rw[hs] at q1
    try unfold Ab
    repeat first
     |((with_reducible first|apply Gb|apply Er|apply Gc|apply G5|apply P9|apply Jx|apply Ia|apply Lf|apply Em|apply F9|apply Gd);· first|with_reducible rfl|(simp (disch:=omega) only[gT,lf,m1,m2,m3,hf,ac,ar,b1',ss,b2',hs,w1,q1]<;>first|with_reducible rfl|omega)|omega)
     |(with_reducible apply Ge;· first|with_reducible rfl|(simp (disch:=omega) only[gF,lf,m1,m2,m3,hf,ac,ar,b1',ss,b2',hs,w1,q1]<;>omega))
    try simp (disch:=omega) only[lf,m1,m2,m3,hf,ac,ar,b1',ss,b2',hs,w1,q1]
   ·rw[hs] at ss;by_cases h5:v5=1
    ·have q1:=ih (i+1) nn p5 { c' with sus:=false } (by omega) (by omega) ⟨Fc.idB,Fc.idL,Fc.u0,Fc.u1,Fc.asc,Fc.rgn⟩ MZ
     unfold YA at q1;have e5:(v5==1)=true:=by simp[h5]
     try unfold Ab
     repeat first
      |((with_reducible first|apply Gb|apply Er|apply Gc|apply G5|apply P9|apply Jx|apply Ia|apply Lf|apply Em|apply F9|apply Gd);· first|with_reducible rfl|(simp (disch:=omega) only[gT,lf,m1,m2,m3,hf,ac,ar,b1',ss,b2',hs,m5,e5,w1,q1]<;>first|with_reducible rfl|omega)|omega)
      |(with_reducible apply Ge;· first|with_reducible rfl|(simp (disch:=omega) only[gF,lf,m1,m2,m3,hf,ac,ar,b1',ss,b2',hs,m5,e5,w1,q1]<;>omega))
     try simp (disch:=omega) only[lf,m1,m2,m3,hf,ac,ar,b1',ss,b2',hs,m5,e5,w1,q1]
    ·have q1:=ih (i+1) nn p5 c' (by omega) (by omega) Fc MZ
     unfold YA at q1;rw[hs] at q1;have e5:(v5==1)=false:=by simp[h5]
     try unfold Ab
     repeat first
      |((with_reducible first|apply Gb|apply Er|apply Gc|apply G5|apply P9|apply Jx|apply Ia|apply Lf|apply Em|apply F9|apply Gd);· first|with_reducible rfl|(simp (disch:=omega) only[gT,lf,m1,m2,m3,hf,ac,ar,b1',ss,b2',hs,m5,e5,w1,q1]<;>first|with_reducible rfl|omega)|omega)
      |(with_reducible apply Ge;· first|with_reducible rfl|(simp (disch:=omega) only[gF,lf,m1,m2,m3,hf,ac,ar,b1',ss,b2',hs,m5,e5,w1,q1]<;>omega))
     try simp (disch:=omega) only[lf,m1,m2,m3,hf,ac,ar,b1',ss,b2',hs,m5,e5,w1,q1]
end
theorem accountAccepts_plain (qs:List PV)(h:Av (WTv prog) [22,3,3,3,3] qs):∃fu d,Ai C0 prog fu d Ek qs=some ⟨[.sc (.bool true)],[]⟩:=by
 obtain⟨q0,_,rfl,h0,g⟩:=h.cons_inv;obtain⟨q1,_,rfl,h1,g⟩:=g.cons_inv;obtain⟨q2,_,rfl,h2,g⟩:=g.cons_inv;obtain⟨q3,_,rfl,h3,g⟩:=g.cons_inv;obtain⟨q4,_,rfl,h4,g⟩:=g.cons_inv;obtain rfl:=g.nil_inv;clear h g;obtain⟨l,rfl,hll,hlw⟩:=WL (k:=.i64) (e:=3) (by kernel_rfl) (by kernel_rfl) (by kernel_rfl) (by kernel_rfl) h0
 obtain⟨a1,rfl,_⟩:=Vv (P:=prog) (k:=.i64) (by kernel_rfl) (by kernel_rfl) h1
 obtain⟨a2,rfl,_⟩:=Vv (P:=prog) (k:=.i64) (by kernel_rfl) (by kernel_rfl) h2
 obtain⟨a3,rfl,_⟩:=Vv (P:=prog) (k:=.i64) (by kernel_rfl) (by kernel_rfl) h3
 obtain⟨a4,rfl,_⟩:=Vv (P:=prog) (k:=.i64) (by kernel_rfl) (by kernel_rfl) h4
 clear h0 h1 h2 h3 h4 hlw;obtain⟨fu,Av5⟩:∃fu,fu=2000:=⟨_,rfl⟩;have D9:2000<=fu:=by omega
 refine⟨fu,9,?_⟩;refine (Ip fu 8 l.length (Au .i64 l) a1 a2 a3 a4).trans ?_;have nw:=Af5 (fu:=fu) (d:=7) (l:=l);obtain⟨v0,c0,d0,m0⟩:=UY a1 7 (by omega) (by omega)
 have m0:=m0 (fu:=fu) (d:=7);obtain⟨v1,p1,b1,c1,n1⟩:=Nb hll 0 4 (by omega) (by omega)
 have m1:=n1 (fu:=fu) (d:=6);clear n1;simp only[VX] at nw m1
 obtain⟨ht,hht⟩:∃f:Int,List.getD [PV.sc (Value.int IntKind.i64 a1),PV.sc (Value.int IntKind.i64 (wrap .i64 (v0-1))),PV.sc (Value.int IntKind.i64 (4:Int)),PV.sc (Value.int IntKind.i64 (3:Int))] ((0:Nat)+Int.toNat v1*(1:Nat)) PV.top=.sc (.int .i64 f):=by
  have:v1=0∨v1=1∨v1=2∨v1=3:=by omega
  rcases this with rfl|rfl|rfl|rfl<;>exact⟨_,rfl⟩
 have s:=Zk (fu:=fu) (d:=1) (by omega) (k:=1) (by omega) (by omega) ht
 have hk:=Tb 1 ht;have ac:=H4 (fu:=fu) (d:=4) hk D9 a2 a3 a4;have ar:=Qe (fu:=fu) (d:=6) hk D9 a2 a3 a4;have ss:=S1 (fu:=fu) (d:=6) (NE hk (by show 0<1000;omega) a2 a3 a4) D9
 have lp:=ZS (fu:=fu) (d:=0) D9 hll (a1:=a1) (a2:=a2) (a3:=a3) (a4:=a4) 40 0 fu p1 (XC 1 ht) rfl (by omega) hk (by show 0<=1;omega)
 unfold YA at lp;simp only[Sd.cells] at s ac ar ss;have e0:((0:Nat):Int)=0:=rfl;rw[e0] at nw m1 lp;have b2':(!true)=false:=rfl;generalize (Ig (XC 1 ht) a2 a3 a4).2=e at *
 generalize (Ig (XC 1 ht) a2 a3 a4).1=c' at *
 generalize XC 1 ht=c at *
 have b1':(e != e)=false:=by simp
 try unfold Ab
 repeat first
  |((with_reducible first|apply Gb|apply Er|apply Gc|apply G5|apply P9|apply Jx|apply Ia|apply Lf|apply Em|apply F9|apply Gd);· first|with_reducible rfl|(simp (disch:=omega) only[gT,nw,m0,m1,hht,s,ac,ar,b1',ss,b2']<;>first|with_reducible rfl|omega)|omega)
  |(with_reducible apply Ge;· first|with_reducible rfl|(simp (disch:=omega) only[gF,nw,m0,m1,hht,s,ac,ar,b1',ss,b2']<;>omega))
 try simp (disch:=omega) only[nw,m0,m1,hht,s,ac,ar,b1',ss,b2']
 exact lp
end
section
open Go.Proofs.Try (prog)
open Go.IntKind (wrap)
open Go.RowKit
theorem QW {w w':World}{Y:Nat->Prop}{bt:Va}{args:List PV}{v:Value}(hb:Below w.heap.size w w')(ho:Gy w' (T7 bt (fun _=>none) Y) (fun _=>none) bt (Le [.sc v]) 0 args []):
  Out w w' Y bt args (fun _=>none) ⟨[.sc v],[]⟩ [v] where
 os:=hb.os
 tape:=hb.tape
 output:=hb.output
 ext:=⟨hb.size,fun b h _=>hb.block b h,fun b h=>Gt.same (hb.block b h)⟩
 rng:=fun b j h _=>⟨by unfold World.cell?;simp only[hb.block b h],by unfold World.frozen?;simp only[hb.block b h]⟩
 vals:=⟨Ap.sc v,trivial⟩
 outs:=ho
 fresh:=fun j b o h=>by cases h
 inj:=fun j j' b o o' h=>by cases h
theorem Uf {P:Program}{w:World}{A:Nat->Prop}{bt:Bt}{z:Bool}{n:Nat}{c:List PV}{u:Value}{l:List UInt8}(h:GR w A bt (.lst z 1 n c) u) (hl:bytesOf c=some l)(hn:c.length=n):
  (Extern.Bytes.bytesOf u).run P w=.ok ⟨l.toArray⟩ w:=by
 obtain⟨ns,rfl,rfl⟩:=N5 hl;have ht:Ap w A (.lst z 1 n (ns.map fun n=>.sc (.int .u8 n))) u:=h.2
 generalize hc:(ns.map fun n=>PV.sc (.int .u8 n))=c at ht
 cases ht with
 |lnil=>
  have:ns=[]:=by simpa using hc
  subst this;rfl
 |lemp=>
  have:ns=[]:=by simpa using hc
  subst this;rfl
 |lst _ _ _ a cap f hs hb hA hn' hcell h1 hr=>
  subst hc;rw[List.length_map] at hn;subst hn;show (Extern.Bytes.loadBytes a ns.length .empty).run P w=_;rw[Lib.run_loadBytesX w ns a .empty fun j x hj=>?_]
  ·simp[Lib.bytesOf,Nat.toUInt8]
  ·have e:(ns.map fun n=>PV.sc (.int .u8 n))[j]?=some (.sc (.int .u8 x)):=by rw[List.getElem?_map,hj];rfl
   rw[hcell j _ e,(hr j _ e).val]
set_option maxRecDepth 1000000 in
theorem CW (u1 u2:Value)(a b:List UInt8)(w:World)(h1:(Extern.Bytes.bytesOf u1).run prog w=.ok ⟨a.toArray⟩ w) (h2:(Extern.Bytes.bytesOf u2).run prog w=.ok ⟨b.toArray⟩ w):
  Calls prog 44 #[u1,u2] w fun e w'=>e=.returned (.int .i64 (Lib.compareBytes a b))∧w'=w:=by
 have hr:(Extern.BytealgCompare.compare #[u1,u2]).run prog w=.ok (.int .i64 (Lib.compareBytes a b)) w:=by
  change Sem.run prog (do pure (goInt (Extern.BytealgCompare.cmp (←Extern.Bytes.bytesOf u1) (←Extern.Bytes.bytesOf u2)))) w=_
  simp only[Sem.run_bind,Sem.run_pure,Result.andThen,h1,h2];rw[Lib.cmp_eq];rfl
 go_enter Try.func44,Try.ntmps44
 go_wp2
 rw[run_callFunc_extern Try.func62 (by kernel_rfl) (by kernel_rfl) (by kernel_rfl) (e:=Extern.BytealgCompare.compare) (by kernel_rfl),hr]
 simp only[Result.andThen];rw[Oper.upon_value]
 go_wp2
 go_ret
 exact⟨rfl,rfl⟩
theorem Ye (G:Glo)(args:List PV)(res:A7)(h:Oe args=some res):Dl G prog 44 args res:=by
 refine⟨⟨_,Try.func44,by kernel_rfl⟩,fun w Y bt us hi _ _=>?_⟩
 unfold Oe at h;split at h
 rotate_left
 ·cases h
 rename_i z n c z' m c';cases hq:(Nat.beq c.length n&&Nat.beq c'.length m)
 ·rw[hq] at h;cases h
 rw[hq] at h;simp only[Bool.and_eq_true] at hq;have hn:=Nat.eq_of_beq_eq_true hq.1;have hm:=Nat.eq_of_beq_eq_true hq.2;simp only[cond_true] at h;split at h
 rotate_left
 ·cases h
 rename_i a b ha hb;cases h;have ps:=hi.args
 match us,ps with
 |[u1,u2],ps=>
  refine (CW u1 u2 a b w (Uf ps.1 ha hn) (Uf ps.2.1 hb hm)).mono ?_
  rintro e w' ⟨rfl,rfl⟩
  exact⟨[.int .i64 (Lib.compareBytes a b)],fun _=>none,rfl,QW (Below.refl _ _) rfl⟩
 |[],ps=>exact ps.elim
 |[_],ps=>exact ps.2.elim
 |_::_::_::_,ps=>exact ps.2.2.elim
end
section
open Go.Proofs.Try (prog)
open Go.IntKind (wrap)
open Go.RowKit Go.Lib
section
variable {P:Program}
theorem Pc (w:World)(dT sT ty elem:TypeId)(i:TypeInfo)(b o dLen dCap:Nat)(a:Addr)(sLen sCap k:Nat)(cs:List Value)
  (hu:P.underlying dT=some (.slice elem)) (hq:P.info? elem=some i)(hk:k=Nat.min sLen dLen)(hn:cs.length=k*i.size)
  (Mf:∀j v,cs[j]?=some v->w.cell? (a.add j)=some v) (hc:∀j,j<cs.length->(w.cell? ⟨b,o+j,none⟩).isSome=true) (hf:∀j,j<cs.length->w.frozen? ⟨b,o+j,none⟩=false)(h1:∀v∈cs,v.oneCell'=true):
  (Builtin.copy_ #[dT,sT] ty #[.slice (some ⟨b,o,none⟩) dLen dCap,.slice (some a) sLen sCap]).run P w=.ok (goInt k) (w.setCells b o cs):=by
 have hl:=run_loadCells_list (P:=P) w a cs Mf;have Kf:=run_storeCells_cells (P:=P) b o cs 0 w (by simpa using hc) (by simpa using hf) h1
 simp[Builtin.copy_,run_underlying hu,Builtin.lenOf,Builtin.firstCells,sizeOf,typeInfo,hq,←hk,←hn,hl,Kf]
theorem Iw (b:Nat)(vs:List Value)(o:Nat)(w:World)(k:Nat)(hk:(w.cell? ⟨b,k,none⟩).isSome=true):((w.setCells b o vs).cell? ⟨b,k,none⟩).isSome=true:=by
 have h:=(Be.setCells b vs o w).bs;obtain⟨v,hv⟩:=Option.isSome_iff_exists.1 hk;have h1:=Rv hv;exact N6 (by omega)
theorem BC (w:World){o:Oper}{a:Act}{K:Act->World->Prop}{Q:Exit->Act->World->Prop}(d s:Operand)(t t':TypeId)
  (ho:o.op=.call { callee:=.builtin .copy,args:= #[d,s],argTypes:= #[t,t'] }) (v u:Value)(hd:a.eval d=v)(hs:a.eval s=u){v':Value}{w':World}
  (hr:(Builtin.copy_ #[t,t'] o.type #[v,u]).run P w=.ok v' w') (h:K (a.put o.dst v') w'):o.wp P a w K Q:=by
 unfold Oper.wp execOp;simp only[ho,resolve,invoke,builtin,Sem.run_bind,Sem.run_pure,Result.andThen_ok,List.map_toArray,List.map_cons,List.map_nil,hd,hs,hr];exact h
theorem H1 (w:World){ops:Array Oper}{rest:List Oper}{o:Oper}{a:Act}{Q:Exit->Act->World->Prop}(hgd:o.guard=none)(d s:Operand)(t t':TypeId)
  (ho:o.op=.call { callee:=.builtin .copy,args:= #[d,s],argTypes:= #[t,t'] }) (v u:Value)(hd:a.eval d=v)(hs:a.eval s=u){v':Value}{w':World}
  (hr:(Builtin.copy_ #[t,t'] o.type #[v,u]).run P w=.ok v' w') (h:wpList P ops Q rest (a.put o.dst v') w'):wpList P ops Q (o::rest) a w:=
 wpList_plain hgd fun _ hK=>BC w d s t t' ho v u hd hs hr (hK _ _ h)
theorem Oa {ops:Array Oper}{o:Oper}{a:Act}{w:World}{K:Act->World->Prop}{Q:Exit->Act->World->Prop}{E:Prop}
  (hg:o.guard=none)(d x:Operand)(dT sT:TypeId)(RH:o.op=Op.call { callee:=Callee.builtin Builtin.copy,args:= #[d,x],argTypes:= #[dT,sT] })
  (v u:Value)(hd:a.eval d=v)(hx:a.eval x=u){v':Value}{w':World}(hr:(Builtin.copy_ #[dT,sT] o.type #[v,u]).run P w=.ok v' w') (hK:K (a.put o.dst v') w'):
  if Region.wanted o (yielded ops a.tmps)=true then Oper.wp P o a w K Q else E:=by
 have hw:Region.wanted o (yielded ops a.tmps)=true:=by simp[Region.wanted,hg]
 rw[Oj hw];unfold Oper.wp;simp[execOp,RH,resolve,invoke,builtin,hd,hx,hr,Result.andThen];exact hK
end
theorem CE:(prog.info? 82).map (fun i=>(i.zero,i.size,i.bytes))=some (some (.agg #[.int .i64 0,.int .i64 0]),2,16):=by kernel_rfl
theorem Pu:prog.underlying 31=some (.slice 82):=by kernel_rfl
theorem Af2:prog.underlying 3=some (.int .i64):=by kernel_rfl
set_option maxHeartbeats 4000000 in
set_option maxRecDepth 100000 in
theorem NP (b off n c i vb voff vc:Nat)(cs vs:List Value)(w:World)(hi:i<n)(K9:n+1<=c)(Ajs:n<=100000)(hvb:vb≠b)
  (Lc:cs.length=n*2)(R2:vs.length=2)
  (P6:∀j v,cs[j]?=some v->w.cell? ⟨b,off+j,none⟩=some v) (RN:∀j,j<(n+1)*2->(w.cell? ⟨b,off+j,none⟩).isSome=true) (Nk:∀j,j<(n+1)*2->w.frozen? ⟨b,off+j,none⟩=false)
  (G8:∀j v,vs[j]?=some v->w.cell? ⟨vb,voff+j,none⟩=some v) (h1c:∀v∈cs,v.oneCell'=true)(XO:∀v∈vs,v.oneCell'=true)
  (tA tB:TypeId)(kA kB:Nat)(hsa:w.shape? vb=some (tA,kA)) (hsb:w.shape? b=some (tB,kB)) (hkB:kB≠0)(hfa:w.frozen? ⟨vb,voff,none⟩=false)(hfe:w.frozen? ⟨vb,kA,none⟩=false):
  Calls prog 45 #[.slice (some ⟨b,off,none⟩) n c,.int .i64 i,.slice (some ⟨vb,voff,none⟩) 1 vc] w fun e w'=>
   e=.returned (.slice (some ⟨b,off,none⟩) (n+1) c)∧w'=(w.drew.setCells b (off+(i+1)*2) (cs.drop (i*2))).setCells b (off+i*2) vs:=by
 obtain⟨i0,KS,hz0,Xs,hzb⟩:=info_parts CE;have hz2:¬((i:Int)=(n:Int)):=by omega
 have hov:∀lb cb,(callFunc 63 #[.slice (some ⟨vb,voff,none⟩) 1 vc,.slice (some ⟨b,off+(i+1)*2,none⟩) lb cb]).run prog w=.ok (.value (.bool false)) w:=fun lb cb=>by
  rw[run_callFunc_extern Try.func63 (by kernel_rfl) (by kernel_rfl) (by kernel_rfl) (e:=Extern.SlicesOverlaps.overlaps #[31,31] #[4]) (by kernel_rfl),
   Lib.run_overlaps_apart w 31 4 82 Pu 2 (fun w=>by simp[sizeOf,typeInfo,KS,Xs]) ⟨vb,voff,none⟩ ⟨b,off+(i+1)*2,none⟩ 1 vc lb cb hvb tA tB kA kB hsa hsb hkB hfa hfe]
  rfl
 have WJ:(cs.drop (i*2)).length=(n-i)*2:=by rw[List.length_drop,Lc];omega
 have hw1:IntKind.i64.wrap ((i:Int)+1)=(i:Int)+1:=by rw[IntKind.wrap_i64];omega
 have hw2:IntKind.i64.wrap ((n:Int)+1)=(n:Int)+1:=by rw[IntKind.wrap_i64];omega
 have mixed:prog.follows Departure.mixedOrders=true:=by kernel_rfl
 have D7:(0:Int)<=(i:Int)+1:=by omega
 have DB:i<=n:=by omega
 have htn:((i:Int)+1).toNat=i+1:=by omega
 have It:¬(c=i+1):=by omega
 have CY:(i:Int)<=(n:Int)+1:=by omega
 have hb4:¬(c=i):=by omega
 have Ak3:∀ty dc sc,(Builtin.copy_ #[31,31] ty #[.slice (some ⟨b,off+(i+1)*2,none⟩) (n-i) dc,.slice (some ⟨b,off+i*2,none⟩) (n+1-i) sc]).run prog w.drew=.ok (goInt ((n-i:Nat):Int)) (w.drew.setCells b (off+(i+1)*2) (cs.drop (i*2))):=fun ty dc sc=>
  Pc w.drew _ _ ty 82 i0 b (off+(i+1)*2) (n-i) dc ⟨b,off+i*2,none⟩ (n+1-i) sc (n-i) (cs.drop (i*2)) Pu KS (by simp only[Nat.min_def];split<;>omega) (by rw[Xs];exact WJ)
   (fun j v hj=>by rw[Addr.add_lit,Nat.add_assoc];exact P6 (i*2+j) v (by rwa [List.getElem?_drop] at hj))
   (fun j hj=>by rw[Nat.add_assoc];exact RN _ (by omega)) (fun j hj=>by rw[Nat.add_assoc];exact Nk _ (by omega)) (fun v hv=>h1c v (List.mem_of_mem_drop hv))
 obtain⟨W1,HM⟩:∃W1,W1=w.drew.setCells b (off+(i+1)*2) (cs.drop (i*2)):=⟨_,rfl⟩
 have Amz:∀k,k<(n+1)*2->(W1.cell? ⟨b,off+k,none⟩).isSome=true:=fun k hk=>by
  rw[HM];exact Iw b _ _ _ _ (RN k hk)
 have Arr:∀(W:World),(∀x,W.cell? x=W1.cell? x)->(∀x,W.frozen? x=W1.frozen? x)->∀ty dc,(Builtin.copy_ #[31,31] ty #[.slice (some ⟨b,off+i*2,none⟩) (n+1-i) dc,.slice (some ⟨vb,voff,none⟩) 1 vc]).run prog W=.ok (goInt 1) (W.setCells b (off+i*2) vs):=fun W hWc hWf ty dc=>
  Pc W _ _ ty 82 i0 b (off+i*2) (n+1-i) dc ⟨vb,voff,none⟩ 1 vc 1 vs Pu KS (by simp only[Nat.min_def];split<;>omega) (by rw[R2,Xs])
   (fun j v hj=>by
    rw[Addr.add_lit,hWc,HM,World.cell?_setCells_out b _ _ _ _ (fun h _=>absurd h hvb)]
    exact G8 j v hj)
   (fun j hj=>by rw[hWc,Nat.add_assoc];exact Amz _ (by omega)) (fun j hj=>by rw[hWf,HM,World.frozen?_setCells,Nat.add_assoc];exact Nk _ (by omega)) XO
 rw[←HM] at Ak3
 go_enter Try.func45,Try.ntmps45
 go_wp2_with (simp only[hov])
 go_region_law_o (refine Oa rfl _ _ 31 31 rfl _ _ (by simp[Act.eval,Act.put]) (by simp[Act.eval,Act.put]) (Ak3 _ _ _) ?_)
 go_wp2_with (at_builtin;refine H1 _ rfl _ _ 31 31 rfl _ _ rfl rfl (Arr _ (fun _=>rfl) (fun _=>rfl) _ _) ?_)
 go_ret
 first|exact⟨rfl,rfl⟩|exact⟨rfl,by rw[HM]⟩
theorem TL {w:World}{vb voff vc:Nat}{vs:List Value}(R2:vs.length=2)(G8:∀j v,vs[j]?=some v->w.cell? ⟨vb,voff+j,none⟩=some v) (XO:∀v∈vs,v.oneCell'=true):
  Pv.Src prog w (fun _=>False) 2 (.slice (some ⟨vb,voff,none⟩) 1 vc) 1 (vs.map .sc) vs where
 len:=fun w'=>by simp[Builtin.lenOf]
 cells:=fun w' hw=>by
  refine Pv.run_first_slice (w:=w') (.inr ⟨_,rfl,by omega,fun j v hj=>?_⟩)
  have hv:=G8 j v hj;rw[Addr.add_lit,World.cell?_of_block (w:=w) (hw vb (block_lt_of_cell hv))];exact hv
 part:=fun k hk=>by
  refine run_firstCells_some w 2 k ⟨vb,voff,none⟩ 1 vc _ (by rw[List.length_take];omega) fun j v hj=>?_
  rw[List.getElem?_take] at hj;split at hj
  ·rw[Addr.add_lit];exact G8 j v hj
  ·cases hj
 one:=XO
 rep:=by
  clear G8 XO R2
  induction vs with
  |nil=>trivial
  |cons v vs ih=>exact⟨.sc v,ih⟩
set_option maxHeartbeats 4000000 in
set_option maxRecDepth 100000 in
theorem CQ (b off n c vb voff vc:Nat)(vs:List Value)(w:World)(K9:n+1<=c)
  (R2:vs.length=2)(RN:∀j,j<2->(w.cell? ⟨b,off+n*2+j,none⟩).isSome=true) (Nk:∀j,j<2->w.frozen? ⟨b,off+n*2+j,none⟩=false)
  (G8:∀j v,vs[j]?=some v->w.cell? ⟨vb,voff+j,none⟩=some v) (XO:∀v∈vs,v.oneCell'=true):
  Calls prog 45 #[.slice (some ⟨b,off,none⟩) n c,.int .i64 n,.slice (some ⟨vb,voff,none⟩) 1 vc] w fun e w'=>
   e=.returned (.slice (some ⟨b,off,none⟩) (n+1) c)∧w'=w.setCells b (off+n*2) vs:=by
 obtain⟨i0,KS,hz0,Xs,hzb⟩:=info_parts CE;have Mf:=TL (vc:=vc) R2 G8 XO;rw[←Xs] at Mf RN Nk ⊢
 have hr:∀ty,(Builtin.append_ #[31,31] ty #[.slice (some ⟨b,off,none⟩) n c,.slice (some ⟨vb,voff,none⟩) 1 vc]).run prog w=_:=fun ty=>
  Pv.append_room_run (P:=prog) (w:=w) (t:=31) (tx:=31) (ty:=ty) (ts:=[]) (b:=b) (ob:=off) (n:=n) (cap:=c) Pu Pu (fun k=>by simp) KS Mf (by rw[R2,Xs]) (fun k hk=>RN k (by rw[Xs];omega)) (fun k hk=>Nk k (by rw[Xs];omega)) K9
 have mixed:prog.follows Departure.mixedOrders=true:=by kernel_rfl
 go_enter Try.func45,Try.ntmps45
 go_wp2_with (at_builtin;refine Lib.wpList_append_run _ rfl _ _ _ _ rfl _ _ rfl rfl _ _ (hr _) ?_)
 go_ret
 exact⟨rfl,by rw[Xs]⟩
set_option maxHeartbeats 4000000 in
set_option maxRecDepth 100000 in
theorem CL (base:Option Addr)(n c vb voff vc:Nat)(cs vs:List Value)(w:World)(hnc:n<=c)(K9:c<n+1)(Ajs:n<=100000)
  (Lc:cs.length=n*2)(R2:vs.length=2)(P6:(base=none∧cs=[])∨∃p,base=some p∧∀j v,cs[j]?=some v->w.cell? (p.add j)=some v)
  (G8:∀j v,vs[j]?=some v->w.cell? ⟨vb,voff+j,none⟩=some v) (XO:∀v∈vs,v.oneCell'=true):
  Calls prog 45 #[.slice base n c,.int .i64 n,.slice (some ⟨vb,voff,none⟩) 1 vc] w fun e w'=>
   e=.returned (.slice (some ⟨w.heap.size,0,none⟩) (n+1) (grownCap w (n+1) c 82)) ∧
   w'=w.drew.alloc (.cells (cs.toArray++vs.toArray++Builtin.zeroCells #[.int .i64 0,.int .i64 0] (grownCap w (n+1) c 82-(n+1))) 82):=by
 obtain⟨i0,KS,hz0,Xs,hzb⟩:=info_parts CE;have Mf:=TL (vc:=vc) R2 G8 XO;rw[←Xs] at Mf
 have hr:∀ty,(Builtin.append_ #[31,31] ty #[.slice base n c,.slice (some ⟨vb,voff,none⟩) 1 vc]).run prog w=_:=fun ty=>
  Pv.append_grow_run (P:=prog) (w:=w) (t:=31) (tx:=31) (ty:=ty) (ts:=[]) (ad:=base) (n:=n) (cap:=c) (olds:=cs) Pu Pu (fun k=>by simp) KS hz0 Mf (by
   rcases P6 with h|⟨p,h,g⟩
   ·exact .inl h
   ·exact .inr ⟨p,h,by rw[Xs];exact Lc,g⟩) K9 (by rw[hzb];omega) (by omega)
 have Tc:base=none->n=0:=by
  rintro rfl
  rcases P6 with⟨_,rfl⟩|⟨p,h,_⟩
  ·simp at Lc;omega
  ·cases h
 have mixed:prog.follows Departure.mixedOrders=true:=by kernel_rfl
 clear P6
 go_enter Try.func45,Try.ntmps45
 cases base with
 |none=>
  have h0:=Tc rfl;subst h0
  go_wp2_with (at_builtin;refine Lib.wpList_append_run _ rfl _ _ _ _ rfl _ _ rfl rfl _ _ (hr _) ?_)
  go_ret
  exact⟨rfl,rfl⟩
 |some a=>
  go_wp2_with (at_builtin;refine Lib.wpList_append_run _ rfl _ _ _ _ rfl _ _ rfl rfl _ _ (hr _) ?_)
  go_ret
  exact⟨rfl,rfl⟩
set_option maxHeartbeats 4000000 in
set_option maxRecDepth 100000 in
theorem SN (b off n c i vb voff vc:Nat)(cs vs:List Value)(w:World)(hi:i<n)(hnc:n<=c)(K9:c<n+1)(Ajs:n<=100000)
  (Lc:cs.length=n*2)(R2:vs.length=2)
  (P6:∀j v,cs[j]?=some v->w.cell? ⟨b,off+j,none⟩=some v)
  (G8:∀j v,vs[j]?=some v->w.cell? ⟨vb,voff+j,none⟩=some v) (h1c:∀v∈cs,v.oneCell'=true)(XO:∀v∈vs,v.oneCell'=true):
  Calls prog 45 #[.slice (some ⟨b,off,none⟩) n c,.int .i64 i,.slice (some ⟨vb,voff,none⟩) 1 vc] w fun e w'=>
   e=.returned (.slice (some ⟨w.heap.size,0,none⟩) (n+1) (grownCap w (n+1) c 82)) ∧
   w'=(((w.alloc (.cells ((cs.take (i*2)).toArray++Builtin.zeroCells #[.int .i64 0,.int .i64 0] (n+1-i)++Builtin.zeroCells #[.int .i64 0,.int .i64 0] (grownCap w (n+1) c 82-(n+1))) 82)).drew.setCells w.heap.size (i*2) vs).drew).setCells w.heap.size ((i+1)*2) (cs.drop (i*2)):=by
 obtain⟨i0,KS,hz0,Xs,hzb⟩:=info_parts CE;have hz2:¬((i:Int)=(n:Int)):=by omega
 have hz3:(c:Int)<(n:Int)+1:=by omega
 have hbw:b<w.heap.size:=block_lt_of_cell (P6 0 _ (List.getElem?_eq_getElem (by omega)))
 have hvw:vb<w.heap.size:=block_lt_of_cell (G8 0 _ (List.getElem?_eq_getElem (by omega)))
 have hkk:(n:Int)+1-(i:Int)=((n+1-i:Nat):Int):=by omega
 have hik:i+(n+1-i)=n+1:=by omega
 have hold:(Builtin.firstCells i0.size i (.slice (some ⟨b,off,none⟩) i c)).run prog w.drew=.ok (cs.take (i*2)).toArray w.drew:=by
  rw[Xs]
  exact run_firstCells_some w.drew 2 i ⟨b,off,none⟩ i c (cs.take (i*2)) (by rw[List.length_take];omega) (fun j v hj=>by
   rw[Addr.add_lit];rw[List.getElem?_take] at hj;split at hj
   ·exact P6 j v hj
   ·cases hj)
 have hrz:∀ty,(Builtin.append_ #[31,3] ty #[.slice (some ⟨b,off,none⟩) i c,.int .i64 ((n:Int)+1-(i:Int))]).run prog w =
   .ok (.slice (some ⟨w.heap.size,0,none⟩) (n+1) (grownCap w (n+1) c 82)) (w.drew.alloc (.cells ((cs.take (i*2)).toArray++Builtin.zeroCells #[.int .i64 0,.int .i64 0] (n+1-i)++Builtin.zeroCells #[.int .i64 0,.int .i64 0] (grownCap w (n+1) c 82-(n+1))) 82)):=fun ty=>by
  have h:=Lib.run_append_grow_zeros w 31 3 ty 82 i0 _ .i64 .i64 Pu Af2 KS hz0 (some ⟨b,off,none⟩) i c (cs.take (i*2)) hold (n+1-i) (by omega) (by omega) (by omega) (by omega) (by rw[hzb];omega) (by rw[hzb,hik];exact growslice_fits K9 (by omega))
  rw[hik] at h;rw[hkk];exact h
 obtain⟨G,hG⟩:∃G,G=grownCap w (n+1) c 82:=⟨_,rfl⟩;obtain⟨ROW,FU⟩:∃ROW:Array Value,ROW=(cs.take (i*2)).toArray++Builtin.zeroCells #[.int .i64 0,.int .i64 0] (n+1-i)++Builtin.zeroCells #[.int .i64 0,.int .i64 0] (G-(n+1)):=⟨_,rfl⟩;rw[←hG] at hrz ⊢;rw[←FU] at hrz ⊢
 have hRl:(n+1)*2<=ROW.size:=by
  rw[FU];simp[Builtin.zeroCells];omega
 obtain⟨W1,HM⟩:∃W1,W1=w.drew.alloc (.cells ROW 82):=⟨_,rfl⟩;rw[←HM] at hrz
 have hN:∀j,j<(n+1)*2->(W1.cell? ⟨w.heap.size,j,none⟩).isSome=true:=fun j hj=>by
  rw[HM,World.cell?_alloc_at (w:=w.drew) ROW _ w.heap.size j rfl,Array.getElem?_eq_getElem (by omega)];rfl
 have hNf:∀j,W1.frozen? ⟨w.heap.size,j,none⟩=false:=fun j=>by rw[HM];exact World.frozen?_alloc_at (w:=w.drew) ROW _ w.heap.size j rfl
 have hOb:∀j v,w.cell? ⟨b,j,none⟩=some v->W1.cell? ⟨b,j,none⟩=some v:=fun j v h=>by rw[HM,World.cell?_alloc_past (w:=w.drew) _ b j hbw];exact h
 have hOv:∀j v,w.cell? ⟨vb,j,none⟩=some v->W1.cell? ⟨vb,j,none⟩=some v:=fun j v h=>by rw[HM,World.cell?_alloc_past (w:=w.drew) _ vb j hvw];exact h
 have Asr:∀(W:World),(∀x,W.cell? x=W1.cell? x)->(∀x,W.frozen? x=W1.frozen? x)->∀ty dc,(Builtin.copy_ #[31,31] ty #[.slice (some ⟨w.heap.size,i*2,none⟩) (n+1-i) dc,.slice (some ⟨vb,voff,none⟩) 1 vc]).run prog W=.ok (goInt 1) (W.setCells w.heap.size (i*2) vs):=fun W hWc hWf ty dc=>
  Pc W _ _ ty 82 i0 w.heap.size (i*2) (n+1-i) dc ⟨vb,voff,none⟩ 1 vc 1 vs Pu KS (by simp only[Nat.min_def];split<;>omega) (by rw[R2,Xs])
   (fun j v hj=>by rw[Addr.add_lit,hWc];exact hOv _ v (G8 j v hj))
   (fun j hj=>by rw[hWc];exact hN _ (by omega)) (fun j hj=>by rw[hWf];exact hNf _) XO
 have hGn:n+1<=G:=by rw[hG];exact grownCap_ge w _ _ _
 have Aw3:G<=9223372036854775807:=by
  have:=grownCap_le_maxLen w (n+1) c 82 (by unfold maxLen;omega)
  rw[←hG] at this;unfold maxLen at this;omega
 have hGi:¬(G=i):=by omega
 have Aw9:¬(G=i+1):=by omega
 have hci:¬(c=i):=by omega
 have hbN:b≠w.heap.size:=by omega
 have WJ:(cs.drop (i*2)).length=(n-i)*2:=by rw[List.length_drop,Lc];omega
 have Ai5:∀(W:World),(∀x,W.cell? x=(W1.setCells w.heap.size (i*2) vs).cell? x)->(∀x,W.frozen? x=(W1.setCells w.heap.size (i*2) vs).frozen? x)->∀ty dc sc,(Builtin.copy_ #[31,31] ty #[.slice (some ⟨w.heap.size,(i+1)*2,none⟩) (n-i) dc,.slice (some ⟨b,off+i*2,none⟩) (n-i) sc]).run prog W=.ok (goInt ((n-i:Nat):Int)) (W.setCells w.heap.size ((i+1)*2) (cs.drop (i*2))):=fun W hWc hWf ty dc sc=>
  Pc W _ _ ty 82 i0 w.heap.size ((i+1)*2) (n-i) dc ⟨b,off+i*2,none⟩ (n-i) sc (n-i) (cs.drop (i*2)) Pu KS (by simp only[Nat.min_def];split<;>omega) (by rw[Xs];exact WJ)
   (fun j v hj=>by
    rw[Addr.add_lit,hWc,World.cell?_setCells_out _ _ _ _ _ (fun h _=>absurd h hbN),Nat.add_assoc]
    exact hOb _ v (P6 (i*2+j) v (by rwa [List.getElem?_drop] at hj)))
   (fun j hj=>by rw[hWc];exact Iw _ _ _ _ _ (hN _ (by omega)))
   (fun j hj=>by rw[hWf,World.frozen?_setCells];exact hNf _) (fun v hv=>h1c v (List.mem_of_mem_drop hv))
 subst HM;have hE1:∀x,((w.alloc (.cells ROW 82)).drew).cell? x=(w.drew.alloc (.cells ROW 82)).cell? x:=fun x=>rfl
 have hE2:∀x,((w.alloc (.cells ROW 82)).drew).frozen? x=(w.drew.alloc (.cells ROW 82)).frozen? x:=fun x=>rfl
 have hF1:∀x,(((w.alloc (.cells ROW 82)).drew.setCells w.heap.size (i*2) vs).drew).cell? x=((w.drew.alloc (.cells ROW 82)).setCells w.heap.size (i*2) vs).cell? x:=fun x=>rfl
 have hF2:∀x,(((w.alloc (.cells ROW 82)).drew.setCells w.heap.size (i*2) vs).drew).frozen? x=((w.drew.alloc (.cells ROW 82)).setCells w.heap.size (i*2) vs).frozen? x:=fun x=>rfl
 have hw1:IntKind.i64.wrap ((i:Int)+1)=(i:Int)+1:=by rw[IntKind.wrap_i64];omega
 have hw2:IntKind.i64.wrap ((n:Int)+1)=(n:Int)+1:=by rw[IntKind.wrap_i64];omega
 have hw3:IntKind.i64.wrap ((n:Int)+1-(i:Int))=(n:Int)+1-(i:Int):=by rw[IntKind.wrap_i64];omega
 have D7:(0:Int)<=(i:Int)+1:=by omega
 have DB:i<=n:=by omega
 have htn:((i:Int)+1).toNat=i+1:=by omega
 have CY:(i:Int)<=(n:Int):=by omega
 have mixed:prog.follows Departure.mixedOrders=true:=by kernel_rfl
 clear hkk hik hold FU hG hRl
 go_enter Try.func45,Try.ntmps45
 go_wp2_with (first
  |(at_builtin;refine Lib.wpList_append_run _ rfl _ _ _ _ rfl _ _ rfl rfl _ _ (hrz _) ?_)
  |(at_builtin;refine H1 _ rfl _ _ 31 31 rfl _ _ rfl rfl (Asr _ hE1 hE2 _ _) ?_)
  |(at_builtin;refine H1 _ rfl _ _ 31 31 rfl _ _ rfl rfl (Ai5 _ (fun _=>rfl) (fun _=>rfl) _ _ _) ?_))
 go_region_law_o (refine Oa rfl _ _ 31 31 rfl (.slice (some ⟨w.heap.size,(i+1)*2,none⟩) (n-i) (G-(i+1))) (.slice (some ⟨b,off+i*2,none⟩) (n-i) (c-i)) (by simp[Act.eval,Act.put]) (by simp[Act.eval,Act.put]) (Ai5 _ hF1 hF2 3 (G-(i+1)) (c-i)) ?_)
 go_wp2
 go_ret
 exact⟨rfl,rfl⟩
end
section
open Go.Proofs.Try (prog)
open Go.IntKind (wrap)
open Go.RowKit Go.Lib
structure Tk (w w':World):Prop where
 os:w'.os=w.os
 tape:w'.tape=w.tape
 output:w'.output=w.output
 old:∀k,k<w.heap.size->w'.heap[k]?=w.heap[k]?
 size:w'.heap.size=w.heap.size+1
 frz:∀j,w'.frozen? ⟨w.heap.size,j,none⟩=false
theorem Tk.alloc (w:World)(c:Array Value)(e:TypeId):Tk w (w.alloc (.cells c e)):=
 ⟨rfl,rfl,rfl,fun b hb=>Below.heap_alloc w _ b hb,by show (w.heap.push _).size=_;simp,fun j=>World.frozen?_alloc_at (w:=w) c e w.heap.size j rfl⟩
theorem Tk.allocD (w:World)(c:Array Value)(e:TypeId):Tk w (w.drew.alloc (.cells c e)):=by
 have h:=Tk.alloc w.drew c e;exact⟨h.os,h.tape,h.output,h.old,h.size,h.frz⟩
theorem Tk.wrote {w w' w'':World}(h:Tk w w')(g:Be w.heap.size w' w''):Tk w w'':=
 ⟨g.os.trans h.os,g.tape.trans h.tape,g.output.trans h.output,fun k hk=>(g.other k (by omega)).trans (h.old k hk),g.size.trans h.size,fun j=>(g.frz j).trans (h.frz j)⟩
theorem Be.drew (b:Nat)(w:World):Be b w w.drew:=⟨rfl,rfl,rfl,rfl,fun _ _=>rfl,rfl,fun _=>rfl⟩
theorem WS {w:World}{A:Nat->Prop}{a:Addr}:∀{cs:List Value},DH w A a (cs.map .sc)->∀j v,cs[j]?=some v->w.cell? (a.add j)=some v∧v.oneCell'=true:=by
 intro cs h j v hj;obtain⟨u,h1,h2,h3⟩:=h j (.sc v) (by rw[List.getElem?_map,hj];rfl)
 cases h3;exact⟨h1,h2⟩
theorem BH {w:World}{A:Nat->Prop}{a:Addr}{cs:List Value}(h:∀j v,cs[j]?=some v->w.cell? (a.add j)=some v) (h1:∀v∈cs,v.oneCell'=true):DH w A a (cs.map .sc):=by
 intro j p hp;rw[List.getElem?_map] at hp;cases hv:cs[j]? with
 |none=>rw[hv] at hp;cases hp
 |some v=>
  rw[hv] at hp;cases hp;exact⟨v,h j v hv,h1 v (List.mem_of_getElem? hv),.sc v⟩
theorem ML:∀{c:List PV},c.all Xf=true->∃cs:List Value,c=cs.map .sc
 |[],_=>⟨[],rfl⟩
 |p::c,h=>by
  simp only[List.all_cons,Bool.and_eq_true] at h;obtain⟨cs,rfl⟩:=ML h.2;have hp:=h.1;unfold Xf at hp;split at hp
  ·exact⟨_::cs,rfl⟩
  ·cases hp
def Sq (q:Nat × Nat):Bt:=fun j=>match j with|0=>some q|_=>none
def Pn (i:Nat)(cs vs:List Value):List Value:=cs.take (i*2)++vs++cs.drop (i*2)
theorem EC {i n j:Nat}{cs vs:List Value}{v:Value}(hi:i<=n)(hc:cs.length=n*2)(hv:vs.length=2)(h:(Pn i cs vs)[j]?=some v):
  (j<i*2∧cs[j]?=some v)∨(i*2<=j∧j<i*2+2∧vs[j-i*2]?=some v)∨((i+1)*2<=j∧(cs.drop (i*2))[j-(i+1)*2]?=some v):=by
 unfold Pn at h;have lt:(cs.take (i*2)).length=i*2:=by rw[List.length_take];omega
 by_cases h1:j<i*2
 ·rw[OK,List.getElem?_append_left (by omega),List.getElem?_take,Oj h1] at h
  exact .inl ⟨h1,h⟩
 ·by_cases h2:j<i*2+2
  ·rw[OK,List.getElem?_append_right (by omega),lt,List.getElem?_append_left (by omega)] at h
   exact .inr (.inl ⟨by omega,h2,h⟩)
  ·rw[List.getElem?_append_right (by simp;omega)] at h
   refine .inr (.inr ⟨by omega,?_⟩)
   rw[UE,lt,hv] at h;rw[←h]
   congr 1
   omega
section
variable {w w':World} {Y:Nat->Prop} {bt:Va} {args:List PV} {L vs:List Value} {n cap b o vb vo:Nat} {x1:PV} {x0:PV}
theorem RD (hb:bt 0 1=some (b,o)) (hv:bt 2 0=some (vb,vo)) (H7:vb≠b)(Sk:b<w.heap.size)(R2:vb<w.heap.size)(hw:Be b w w')
  (Ae1:∀j,j<o->w'.cell? ⟨b,j,none⟩=w.cell? ⟨b,j,none⟩)(hn:n<=cap)(hF:Fit w 2 b (o+cap*2)) (Nk:∀j,o<=j->j<bsz w b->w.frozen? ⟨b,j,none⟩=false)
  (hL:∀j v,L[j]?=some v->w'.cell? ⟨b,o+j,none⟩=some v) (h1:∀v∈L,v.oneCell'=true)
  (G8:∀j v,vs[j]?=some v->w.cell? ⟨vb,vo+j,none⟩=some v) (h2:∀v∈vs,v.oneCell'=true)(hvf:∀j,vo<=j->j<bsz w vb->w.frozen? ⟨vb,j,none⟩=false)
  (e0:∀ps,x0 ≠ .pbox ps)(e0':∀ps,x0 ≠ .tup ps)(e1:∀ps,x1 ≠ .pbox ps)(e1':∀ps,x1 ≠ .tup ps){q:List PV}:
  Out w w' Y bt [x0,x1,.tup q] (Sq (b,o)) ⟨[.own 2 n (L.map .sc)],[vs.map .sc]⟩ [.slice (some ⟨b,o,none⟩) n cap] where
 os:=hw.os
 tape:=hw.tape
 output:=hw.output
 ext:=⟨by rw[hw.size];exact Nat.le_refl _,fun k _ hk=>hw.other k (fun e=>hk (e ▸ ⟨0,1,o,hb⟩)),fun k _=>hw.grow k⟩
 rng:=fun k j hk hX=>by
  by_cases e:k=b
  ·subst e
   have hj:j<o:=by
    refine Nat.lt_of_not_le fun Sv=>hX ⟨0,x0,rfl,Or.inl ⟨0,o,hb,Sv⟩⟩
   exact⟨Ae1 j hj,hw.frz j⟩
  ·exact⟨by unfold World.cell?;simp only[hw.other k e],by unfold World.frozen?;simp only[hw.other k e]⟩
 vals:=⟨.inr ⟨b,o,cap,rfl,rfl,hn,hF.step (hw.grow b),by rw[hw.size];exact Sk,BH (fun j v hj=>by rw[Cf];exact hL j v hj) h1,fun j hj Kk=>by rw[hw.frz];exact Nk j hj (by rw[hw.bs] at Kk;exact Kk)⟩,trivial⟩
 outs:=by
  have ZP:w'.heap[vb]?=w.heap[vb]?:=hw.other vb H7;have Yb:bsz w' vb=bsz w vb:=by unfold bsz;rw[ZP]
  have h:Gy w' (T7 bt (Sq (b,o)) Y) (Sq (b,o)) bt 1 2 [.tup q] [vs.map .sc]:=by
   refine⟨.inr ⟨vb,vo,hv,BH (fun j v hj=>?_) h2,fun j hj Kk=>?_⟩,rfl⟩
   ·rw[Cf,World.cell?_of_block (w:=w) ZP];exact G8 j v hj
   ·rw[World.frozen?_of_block (w:=w) ZP];exact hvf j hj (by rw[Yb] at Kk;exact Kk)
  have h':Gy w' (T7 bt (Sq (b,o)) Y) (Sq (b,o)) bt 1 1 [x1,.tup q] [vs.map .sc]:=by
   unfold Gy;cases x1<;>first|exact h|exact absurd rfl (e1 _)|exact absurd rfl (e1' _)
  show Gy w' (T7 bt (Sq (b,o)) Y) (Sq (b,o)) bt 1 0 [x0,x1,.tup q] [vs.map .sc];unfold Gy;cases x0<;>first|exact h'|exact absurd rfl (e0 _)|exact absurd rfl (e0' _)
 fresh:=fun j k y h=>by
  cases j with
  |zero=>
   cases h;refine⟨by rw[hw.size];exact Sk,fun _=>⟨⟨0,0,o,hb⟩,fun x hx=>⟨0,x0,rfl,Or.inl ⟨0,o,hb,hx⟩⟩⟩⟩
  |succ j=>cases h
 inj:=fun j j' k y y' h h'=>by
  cases j with
  |zero=>cases j' with
   |zero=>rfl
   |succ j'=>cases h'
  |succ j=>cases h
theorem YM (hv:bt 2 0=some (vb,vo)) (R2:vb<w.heap.size)(hw:Tk w w')
  (hn:n<=cap)(hF:cap*2<=bsz w' w.heap.size)
  (hL:∀j v,L[j]?=some v->w'.cell? ⟨w.heap.size,j,none⟩=some v) (h1:∀v∈L,v.oneCell'=true)
  (G8:∀j v,vs[j]?=some v->w.cell? ⟨vb,vo+j,none⟩=some v) (h2:∀v∈vs,v.oneCell'=true)(hvf:∀j,vo<=j->j<bsz w vb->w.frozen? ⟨vb,j,none⟩=false)
  (e0:∀ps,x0 ≠ .pbox ps)(e0':∀ps,x0 ≠ .tup ps)(e1:∀ps,x1 ≠ .pbox ps)(e1':∀ps,x1 ≠ .tup ps){q:List PV}:
  Out w w' Y bt [x0,x1,.tup q] (Sq (w.heap.size,0)) ⟨[.own 2 n (L.map .sc)],[vs.map .sc]⟩ [.slice (some ⟨w.heap.size,0,none⟩) n cap] where
 os:=hw.os
 tape:=hw.tape
 output:=hw.output
 ext:=⟨by rw[hw.size];omega,fun k hk _=>hw.old k hk,fun k hk=>Gt.same (hw.old k hk)⟩
 rng:=fun k j hk _=>⟨by unfold World.cell?;simp only[hw.old k hk],by unfold World.frozen?;simp only[hw.old k hk]⟩
 vals:=⟨.inr ⟨w.heap.size,0,cap,rfl,rfl,hn,⟨by omega,.inr (hw.frz _)⟩,by rw[hw.size];omega,BH (fun j v hj=>by rw[Cf,Vq];exact hL j v hj) h1,fun j _ _=>hw.frz j⟩,trivial⟩
 outs:=by
  have ZP:w'.heap[vb]?=w.heap[vb]?:=hw.old vb R2;have Yb:bsz w' vb=bsz w vb:=by unfold bsz;rw[ZP]
  have h:Gy w' (T7 bt (Sq (w.heap.size,0)) Y) (Sq (w.heap.size,0)) bt 1 2 [.tup q] [vs.map .sc]:=by
   refine⟨.inr ⟨vb,vo,hv,BH (fun j v hj=>?_) h2,fun j hj Kk=>?_⟩,rfl⟩
   ·rw[Cf,World.cell?_of_block (w:=w) ZP];exact G8 j v hj
   ·rw[World.frozen?_of_block (w:=w) ZP];exact hvf j hj (by rw[Yb] at Kk;exact Kk)
  have h':Gy w' (T7 bt (Sq (w.heap.size,0)) Y) (Sq (w.heap.size,0)) bt 1 1 [x1,.tup q] [vs.map .sc]:=by
   unfold Gy;cases x1<;>first|exact h|exact absurd rfl (e1 _)|exact absurd rfl (e1' _)
  show Gy w' (T7 bt (Sq (w.heap.size,0)) Y) (Sq (w.heap.size,0)) bt 1 0 [x0,x1,.tup q] [vs.map .sc];unfold Gy;cases x0<;>first|exact h'|exact absurd rfl (e0 _)|exact absurd rfl (e0' _)
 fresh:=fun j k y h=>by
  cases j with
  |zero=>cases h;exact⟨by rw[hw.size];omega,fun Bl=>absurd Bl (Nat.lt_irrefl _)⟩
  |succ j=>cases h
 inj:=fun j j' k y y' h h'=>by
  cases j with
  |zero=>cases j' with
   |zero=>rfl
   |succ j'=>cases h'
  |succ j=>cases h
end
theorem PA (G:Glo)(args:List PV)(res:A7)(h:UG args=some res):Dl G prog 45 args res:=by
 refine⟨⟨_,Try.func45,by kernel_rfl⟩,fun w Y bt us hi _ _=>?_⟩
 unfold UG at h;split at h
 rotate_left
 ·cases h
 rename_i n c i f l;cases hq:(Nat.beq c.length (n*2)&&decide (0<=i)&&decide (i<=n)&&Nat.ble n 100000&&c.all Xf)
 ·rw[hq] at h;cases h
 rw[hq] at h;simp only[Bool.and_eq_true,decide_eq_true_eq] at hq;obtain⟨⟨⟨⟨hc,h0⟩,h1⟩,hn⟩,Ko⟩:=hq;have hc:=Nat.eq_of_beq_eq_true hc;have hn:=Nat.le_of_ble_eq_true hn;simp only[cond_true] at h;cases h;obtain⟨k,rfl⟩:=Int.eq_ofNat_of_zero_le h0;have hk:k<=n:=by omega
 obtain⟨cs,rfl⟩:=ML Ko;rw[List.length_map] at hc
 have eL:List.take (Int.toNat (k:Int)*2) (cs.map PV.sc)++(PV.sc (.int .i64 f)::PV.sc (.int .i64 l)::List.drop (Int.toNat (k:Int)*2) (cs.map PV.sc))=(Pn k cs [.int .i64 f,.int .i64 l]).map .sc:=by
  unfold Pn;rw[AP,List.map_append,List.map_append,List.map_take,List.map_drop,OK];rfl
 rw[eL];clear h0 h1 Ko eL;obtain⟨vs,YR⟩:∃vs:List Value,vs=[.int .i64 f,.int .i64 l]:=⟨_,rfl⟩;have R2:vs.length=2:=by rw[YR];rfl
 have XY:∀v∈vs,v.oneCell'=true:=by
  intro v hv;rw[YR] at hv;rcases List.mem_cons.1 hv with rfl|hv
  ·rfl
  ·rw[List.mem_singleton] at hv;subst hv;rfl
 have evm:[PV.sc (.int .i64 f),PV.sc (.int .i64 l)]=vs.map .sc:=by rw[YR];rfl
 rw[←YR];have ps:=hi.args;rw[evm] at ps ⊢
 match us,ps with
 |[u0,u1,u2],ps=>
  obtain⟨⟨_,p0⟩,⟨_,p1⟩,⟨es2,n2,c2,e2,p2⟩,_⟩:=ps;simp only[List.cons.injEq,PV.own.injEq,and_true] at e2;obtain⟨rfl,rfl,rfl⟩:=e2;have XM:u1=.int .i64 k:=Ap.val (show Ap w _ (.sc (.int .i64 k)) u1 from p1)
  subst XM;rcases p2 with⟨_,hz,_⟩|⟨vb,vo,vc,hvb,rfl,hvn,hvF,Aey,hvR,hvf⟩
  ·cases hz
  have hvr:=WS hvR
  have G8:∀j v,vs[j]?=some v->w.cell? ⟨vb,vo+j,none⟩=some v:=fun j v hj=>by
   have:=(hvr j v hj).1
   rwa [Cf] at this
  have fin_new:∀(u0:Value) (w':World) (cap:Nat),Tk w w'->n+1<=cap->cap*2<=bsz w' w.heap.size->(∀j v,(Pn k cs vs)[j]?=some v->w'.cell? ⟨w.heap.size,j,none⟩=some v)->(∀v∈Pn k cs vs,v.oneCell'=true) ->
    ∃us own,Ending.returned (Value.slice (some ⟨w.heap.size,0,none⟩) (n+1) cap)=.returned (F8 us)∧Out w w' Y bt [.own 2 n (cs.map .sc),.sc (.int .i64 k),.tup [.own 2 1 (vs.map .sc)]] own ⟨[.own 2 (n+1) ((Pn k cs vs).map .sc)],[vs.map .sc]⟩ us:=by
   intro u0 w' cap hw Ps hF hL h1;exact⟨_,_,rfl,YM hvb Aey hw Ps hF hL h1 G8 XY hvf (by simp) (by simp) (by simp) (by simp)⟩
  have one:(∀v∈cs,v.oneCell'=true)->∀v∈Pn k cs vs,v.oneCell'=true:=by
   intro AL v hv;unfold Pn at hv;rcases List.mem_append.1 hv with hv|hv
   ·rcases List.mem_append.1 hv with hv|hv
    ·exact AL v (List.mem_of_mem_take hv)
    ·exact XY v hv
   ·exact AL v (List.mem_of_mem_drop hv)
  have grow_end:∀(base:Option Addr) (cap0:Nat),n<=cap0->cap0<n+1->k=n->((base=none∧cs=[])∨∃p,base=some p∧∀j v,cs[j]?=some v->w.cell? (p.add j)=some v)->(∀v∈cs,v.oneCell'=true) ->
    Calls prog 45 #[.slice base n cap0,.int .i64 k,.slice (some ⟨vb,vo,none⟩) 1 vc] w fun e w'=>
     ∃us own,e=.returned (F8 us)∧Out w w' Y bt [.own 2 n (cs.map .sc),.sc (.int .i64 k),.tup [.own 2 1 (vs.map .sc)]] own ⟨[.own 2 (n+1) ((Pn k cs vs).map .sc)],[vs.map .sc]⟩ us:=by
   intro base cap0 AL hc2 hkn hb IW;subst hkn;refine (CL base k cap0 vb vo vc cs vs w AL hc2 hn hc R2 hb G8 XY).mono ?_
   rintro e w' ⟨rfl,rfl⟩
   obtain⟨G,hG⟩:∃G,G=grownCap w (k+1) cap0 82:=⟨_,rfl⟩;rw[←hG];have hGn:k+1<=G:=by rw[hG];exact grownCap_ge w _ _ _
   have eI:Pn k cs vs=cs++vs:=by
    unfold Pn;rw[N1 (by omega),List.drop_of_length_le (by omega),List.append_nil]
   refine fin_new undef _ G (Tk.allocD w _ _) hGn ?_ (fun j v hj=>?_) (one IW)
   ·have:bsz (w.drew.alloc (.cells (cs.toArray++vs.toArray++Builtin.zeroCells #[.int .i64 0,.int .i64 0] (G-(k+1))) 82)) w.heap.size=_:=(Dr.alloc w.drew _ _).bsz;rw[this];simp[Builtin.zeroCells];omega
   ·rw[eI] at hj;have Bl:=Lh hj;rw[World.cell?_alloc_at (w:=w.drew) _ _ w.heap.size j rfl,Array.getElem?_append_left (by simpa using Bl)]
    simpa using hj
  rcases p0 with⟨_,rfl,hc0,ad,rfl⟩|⟨b,o,cap,hb,rfl,MV,hF,SY,hR,Nk⟩
  ·have P6:cs=[]:=by simpa using hc0
   subst P6;have hk0:k=0:=by omega
   refine grow_end ad 0 (Nat.le_refl _) (by omega) hk0 ?_ (by simp)
   cases ad with
   |none=>exact .inl ⟨rfl,rfl⟩
   |some p=>exact .inr ⟨p,rfl,fun j v hj=>by cases hj⟩
  have hr:=WS hR
  have VL:∀j v,cs[j]?=some v->w.cell? ⟨b,o+j,none⟩=some v:=fun j v hj=>by
   have:=(hr j v hj).1
   rwa [Cf] at this
  have AL:∀v∈cs,v.oneCell'=true:=fun v hv=>by
   obtain⟨j,hj⟩:=List.mem_iff_getElem?.1 hv;exact (hr j v hj).2
  have H7:vb≠b:=by
   rintro rfl
   have:=(hi.inj 0 1 2 0 vb o vo hb hvb).1;omega
  have Jl:∀j,j<cap*2->(w.cell? ⟨b,o+j,none⟩).isSome=true:=fun j hj=>N6 (by have:=hF.1;omega)
  have XZ:∀j,j<cap*2->w.frozen? ⟨b,o+j,none⟩=false:=fun j hj=>Nk _ (by omega) (by have:=hF.1;omega)
  by_cases K9:n+1<=cap
  ·-- in E0
   have hX:cap*2<=bsz w b:=by have:=hF.1;omega
   have hwB:∀w':World,Be b w w'->(∀j,j<o->w'.cell? ⟨b,j,none⟩=w.cell? ⟨b,j,none⟩)->(∀j v,(Pn k cs vs)[j]?=some v->w'.cell? ⟨b,o+j,none⟩=some v) ->
     ∃us own,Ending.returned (Value.slice (some ⟨b,o,none⟩) (n+1) cap)=.returned (F8 us)∧Out w w' Y bt [.own 2 n (cs.map .sc),.sc (.int .i64 k),.tup [.own 2 1 (vs.map .sc)]] own ⟨[.own 2 (n+1) ((Pn k cs vs).map .sc)],[vs.map .sc]⟩ us:=by
    intro w' hw Ae1 hL;exact⟨_,_,rfl,RD hb hvb H7 SY Aey hw Ae1 K9 hF Nk hL (one AL) G8 XY hvf (by simp) (by simp) (by simp) (by simp)⟩
   by_cases hkn:k=n
   ·subst hkn
    have eI:Pn k cs vs=cs++vs:=by
     unfold Pn;rw[N1 (by omega),List.drop_of_length_le (by omega),List.append_nil]
    refine (CQ b o k cap vb vo vc vs w K9 R2 (fun j hj=>by rw[Nat.add_assoc];exact Jl _ (by omega)) (fun j hj=>by rw[Nat.add_assoc];exact XZ _ (by omega)) G8 XY).mono ?_
    rintro e w' ⟨rfl,rfl⟩
    refine hwB _ (Be.setCells b _ _ w) (fun j hj=>World.cell?_setCells_out b _ _ w ⟨b,j,none⟩ (fun _ _=>.inl (by show j<o+k*2;omega))) (fun j v hj=>?_)
    rw[eI] at hj;by_cases Bl:j<cs.length
    ·rw[List.getElem?_append_left Bl] at hj;rw[World.cell?_setCells_out b _ _ w ⟨b,o+j,none⟩ (fun _ _=>.inl (by show o+j<o+k*2;omega))]
     exact VL j v hj
    ·rw[List.getElem?_append_right (by omega)] at hj
     have hl:=Lh hj;have:=World.cell?_setCells_in b vs (o+k*2) w (fun t ht=>by rw[Nat.add_assoc];exact Jl _ (by omega)) (j-cs.length) hl
     rw[show o+k*2+(j-cs.length)=o+j by omega] at this
     rw[this,←hj,List.getElem?_eq_getElem hl]
   ·have Fc:k<n:=by omega
    have RJ:∀q:Nat,q<w.heap.size->∃t,w.shape? q=some (t,bsz w q)∨bsz w q=0:=by
     intro q hq;unfold World.shape? bsz;cases w.heap[q]? with
     |none=>exact⟨0,.inr rfl⟩
     |some x=>cases x<;>first|exact⟨_,.inl rfl⟩|exact⟨0,.inr rfl⟩
    obtain⟨tA,hA⟩:=RJ vb Aey;obtain⟨tB,hB⟩:=RJ b SY;have Awd:=hvF.1
    have hvE:w.frozen? ⟨vb,bsz w vb,none⟩=false:=by
     rcases hvF.2 with h|h
     ·omega
     ·exact h
    have hA:w.shape? vb=some (tA,bsz w vb):=hA.resolve_right (by omega)
    have hB:w.shape? b=some (tB,bsz w b):=hB.resolve_right (by omega)
    refine (NP b o n cap k vb vo vc cs vs w Fc K9 hn H7 hc R2 VL (fun j hj=>Jl j (by omega)) (fun j hj=>XZ j (by omega)) G8 AL XY tA tB _ _ hA hB (by omega) (hvf vo (Nat.le_refl _) (by omega)) hvE).mono ?_
    rintro e w' ⟨rfl,rfl⟩
    have WJ:(cs.drop (k*2)).length=(n-k)*2:=by rw[List.length_drop,hc];omega
    have hw1:=(Be.drew b w).trans (Be.setCells b (cs.drop (k*2)) (o+(k+1)*2) w.drew);refine hwB _ (hw1.trans (Be.setCells b vs (o+k*2) _)) (fun j hj=>?_) (fun j v hj=>?_)
    ·rw[World.cell?_setCells_out b _ _ _ ⟨b,j,none⟩ (fun _ _=>.inl (by show j<o+k*2;omega)),World.cell?_setCells_out b _ _ _ ⟨b,j,none⟩ (fun _ _=>.inl (by show j<o+(k+1)*2;omega))]
     rfl
    ·have XU:∀t,t<cap*2->((w.drew.setCells b (o+(k+1)*2) (cs.drop (k*2))).cell? ⟨b,o+t,none⟩).isSome=true:=fun t ht=>Iw b _ _ _ _ (Jl t ht)
     rcases EC hk hc R2 hj with⟨h1,h2⟩|⟨h1,h2,h3⟩|⟨h1,h2⟩
     ·rw[World.cell?_setCells_out b _ _ _ ⟨b,o+j,none⟩ (fun _ _=>.inl (by show o+j<o+k*2;omega)),World.cell?_setCells_out b _ _ _ ⟨b,o+j,none⟩ (fun _ _=>.inl (by show o+j<o+(k+1)*2;omega))]
      exact VL j v h2
     ·have hl:=Lh h3;have:=World.cell?_setCells_in b vs (o+k*2) (w.drew.setCells b (o+(k+1)*2) (cs.drop (k*2))) (fun t ht=>by rw[Nat.add_assoc];exact XU _ (by omega)) (j-k*2) hl
      rw[show o+k*2+(j-k*2)=o+j by omega] at this
      rw[this,←h3,List.getElem?_eq_getElem hl]
     ·have hl:=Lh h2;rw[World.cell?_setCells_out b _ _ _ ⟨b,o+j,none⟩ (fun _ _=>.inr (by show o+k*2+vs.length<=o+j;omega))]
      have:=World.cell?_setCells_in b (cs.drop (k*2)) (o+(k+1)*2) w.drew (fun t ht=>by rw[Nat.add_assoc];exact Jl _ (by omega)) (j-(k+1)*2) hl
      rw[show o+(k+1)*2+(j-(k+1)*2)=o+j by omega] at this
      rw[this,←h2,List.getElem?_eq_getElem hl]
  ·by_cases hkn:k=n
   ·exact grow_end _ cap MV (by omega) hkn (.inr ⟨_,rfl,fun j v hj=>by rw[Cf];exact VL j v hj⟩) AL
   ·refine (SN b o n cap k vb vo vc cs vs w (by omega) MV (by omega) hn hc R2 VL G8 AL XY).mono ?_
    rintro e w' ⟨rfl,rfl⟩
    obtain⟨G,hG⟩:∃G,G=grownCap w (n+1) cap 82:=⟨_,rfl⟩;rw[←hG];have hGn:n+1<=G:=by rw[hG];exact grownCap_ge w _ _ _
    obtain⟨ROW,FU⟩:∃ROW:Array Value,ROW=(cs.take (k*2)).toArray++Builtin.zeroCells #[.int .i64 0,.int .i64 0] (n+1-k)++Builtin.zeroCells #[.int .i64 0,.int .i64 0] (G-(n+1)):=⟨_,rfl⟩;rw[←FU]
    have hRl:ROW.size=G*2:=by
     rw[FU];simp[Builtin.zeroCells];omega
    have hR0:∀(j:Nat) v,j<k*2->cs[j]?=some v->ROW[j]?=some v:=by
     intro j v hj hv;rw[FU,Array.getElem?_append_left (by simp;omega),Array.getElem?_append_left (by simp;omega)]
     simp only[List.getElem?_toArray];rw[List.getElem?_take,Oj hj];exact hv
    clear FU;obtain⟨W0,hW0⟩:∃W0,W0=w.alloc (.cells ROW 82):=⟨_,rfl⟩;have hN0:Tk w W0:=by rw[hW0];exact Tk.alloc w ROW _
    have hB0:bsz W0 w.heap.size=G*2:=by rw[hW0,(Dr.alloc w ROW 82).bsz,hRl]
    have hC0:∀j,W0.cell? ⟨w.heap.size,j,none⟩=ROW[j]?:=fun j=>by rw[hW0];exact (Dr.alloc w ROW 82).cell j
    rw[←hW0];have WJ:(cs.drop (k*2)).length=(n-k)*2:=by rw[List.length_drop,hc];omega
    have Atl:∀j,j<G*2->(W0.cell? ⟨w.heap.size,j,none⟩).isSome=true:=fun j hj=>N6 (by omega)
    obtain⟨W1,HM⟩:∃W1,W1=(W0.drew.setCells w.heap.size (k*2) vs).drew:=⟨_,rfl⟩;have hw1:Be w.heap.size W0 W1:=by rw[HM];exact ((Be.drew _ W0).trans (Be.setCells _ vs (k*2) W0.drew)).trans (Be.drew _ _)
    have hC1:∀j,W1.cell? ⟨w.heap.size,j,none⟩=(W0.drew.setCells w.heap.size (k*2) vs).cell? ⟨w.heap.size,j,none⟩:=fun j=>by rw[HM];rfl
    have An1:∀j,j<G*2->(W1.cell? ⟨w.heap.size,j,none⟩).isSome=true:=fun j hj=>N6 (by rw[hw1.bs];omega)
    rw[←HM];have hw2:=hw1.trans (Be.setCells w.heap.size (cs.drop (k*2)) ((k+1)*2) W1);refine fin_new undef _ G (hN0.wrote hw2) hGn (by rw[hw2.bs,hB0];exact Nat.le_refl _) (fun j v hj=>?_) (one AL)
    rcases EC hk hc R2 hj with⟨h1,h2⟩|⟨h1,h2,h3⟩|⟨h1,h2⟩
    ·rw[World.cell?_setCells_out _ _ _ _ ⟨w.heap.size,j,none⟩ (fun _ _=>.inl (by show j<(k+1)*2;omega)),hC1,World.cell?_setCells_out _ _ _ _ ⟨w.heap.size,j,none⟩ (fun _ _=>.inl (by show j<k*2;omega))]
     show W0.cell? _=_;rw[hC0];exact hR0 j v h1 h2
    ·have hl:=Lh h3;rw[World.cell?_setCells_out _ _ _ _ ⟨w.heap.size,j,none⟩ (fun _ _=>.inl (by show j<(k+1)*2;omega)),hC1]
     have:=World.cell?_setCells_in w.heap.size vs (k*2) W0.drew (fun t ht=>Atl _ (by omega)) (j-k*2) hl
     rw[show k*2+(j-k*2)=j by omega] at this
     rw[this,←h3,List.getElem?_eq_getElem hl]
    ·have hl:=Lh h2;have:=World.cell?_setCells_in w.heap.size (cs.drop (k*2)) ((k+1)*2) W1 (fun t ht=>An1 _ (by omega)) (j-(k+1)*2) hl
     rw[show (k+1)*2+(j-(k+1)*2)=j by omega] at this
     rw[this,←h2,List.getElem?_eq_getElem hl]
 |[],ps=>exact ps.elim
 |[_],ps=>exact ps.2.elim
 |[_,_],ps=>exact ps.2.2.elim
 |_::_::_::_::_,ps=>exact ps.2.2.2.elim
end
section
open Go.Proofs.Try (prog)
open Go.IntKind (wrap)
theorem extA (G:Glo):ExtOk G prog C0:=by
 intro f g args res hx hg;have hx0:(bif BM.any (Nat.beq f) then none else Gl f)=some g:=hx;cases hb:BM.any (Nat.beq f)
 rotate_left
 ·rw[hb,cond_true] at hx0;cases hx0
 rw[hb,cond_false] at hx0;have Wh:Gl f=some g:=hx0;unfold Gl at Wh;cases h2:Nat.beq f 44
 rotate_left
 ·rw[h2,cond_true] at Wh;cases Wh;rw[Nat.eq_of_beq_eq_true h2];exact Ye G args res hg
 rw[h2,cond_false] at Wh;cases h4:Nat.beq f 45
 rotate_left
 ·rw[h4,cond_true] at Wh;cases Wh;rw[Nat.eq_of_beq_eq_true h4];exact PA G args res hg
 rw[h4,cond_false] at Wh;cases h3:Nat.beq f 1000000
 ·rw[h3,cond_false] at Wh;cases Wh
 ·rw[h3,cond_true] at Wh;cases Wh;cases hg
end
end Go.Proofs.Yteicjnihnacadaa.Pv
