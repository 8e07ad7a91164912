/-
  The proof of DataHashes, part 4.
-/
import Derived.Test.YtodnjibebeghjaaDoorHC
import Derived.Lib.RuneBytes
import Derived.Lib.SlTrimSet
import Derived.Test.YtodnjibebeghjaaDoorRows
import Derived.Lib.BytesEntry
import Derived.Lib.Bytealg
import Derived.Lib.Walk
import Derived.WalkKit
import Derived.WalkMore
import Derived.Laws.Bits64b
import Derived.Shelf.Strings.BuilderRune
import Derived.Shelf.Strings.SlTrimAscii
import Derived.Shelf.RegionOpenPlain
import Derived.Lib.Overlaps
import Derived.Lib.AppendZerosOnto
import Derived.Lib.SliceRun
import Derived.Laws.Externs
import Derived.Laws.IdiomCopy
import Derived.Laws.NewBlocks
import Derived.Shelf.Unicode.ValidAny
import Derived.Lib.LaidU8T
set_option linter.unusedSimpArgs false
set_option linter.unusedVariables false
namespace Go.Proofs.YtodnjibebeghjaaDoor.Pv
section
open Go.Proofs.Tryd (prog)
open Go.IntKind (wrap)
section
variable {fu d:Nat} {xs:FuncId->Option (List PV->Option Ay)}
theorem Aba {x k:Int}(hk:k=13∨k=16∨k=17∨k=21∨k=32):Ae (CX xs) prog fu (d+1) Jp [.sc (.int .u64 x),.sc (.int .i64 k)]=some ⟨[.sc (.int .u64 (rot x k))],[]⟩:=by
 rw[Qv];rcases hk with rfl|rfl|rfl|rfl|rfl<;>kernel_rfl
theorem ZH {x k:Int}(hk:k=13∨k=16∨k=17∨k=21∨k=32):Ae (CX xs) prog fu (d+1) Ks [.sc (.int .u64 x),.sc (.int .u64 k)]=some ⟨[.sc (.int .u64 (rot x k))],[]⟩:=by
 rw[R3];rcases hk with rfl|rfl|rfl|rfl|rfl<;>kernel_rfl
theorem Vp {a0 a1 a2 a3 a4:Int}:∀(k i nn:Nat)(v:W4),k<nn->i+k<=100 ->
  D7 fu (Ae (CX xs) prog fu (d+1)) a0 a1 a2 a3 a4 nn ((i+k:Nat):Int) i v.a v.b v.c v.d=some ⟨[],[(QE k v).cells]⟩
 |_,_,0,_,h,_=>by omega
 |0,i,nn+1,v,h,hi=>by
  rw[Gs,Rr _ _ _ (by omega)]
  rfl
 |k+1,i,nn+1,v,h,hi=>by
  have ih:=Vp (a0:=a0) (a1:=a1) (a2:=a2) (a3:=a3) (a4:=a4) k (i+1) nn (AU v) (by omega) (by omega)
  have w:wrap .i64 ((i:Int)+1)=((i+1:Nat):Int):=by rw[Bc (by omega) (by omega)];omega
  have r13:=fun x=>Aba (xs:=xs) (fu:=fu) (d:=d) (x:=x) (k:=13) (by simp)
  have r16:=fun x=>Aba (xs:=xs) (fu:=fu) (d:=d) (x:=x) (k:=16) (by simp)
  have r17:=fun x=>Aba (xs:=xs) (fu:=fu) (d:=d) (x:=x) (k:=17) (by simp)
  have r21:=fun x=>Aba (xs:=xs) (fu:=fu) (d:=d) (x:=x) (k:=21) (by simp)
  have r32:=fun x=>Aba (xs:=xs) (fu:=fu) (d:=d) (x:=x) (k:=32) (by simp)
  rw[Gs];simp (disch:=omega) only[Ej,r13,r16,r17,r21,r32,w];rw[show i+(k+1)=i+1+k by omega]
  exact ih
theorem DW (k:Nat)(hk:k<=4)(Ev:100<=fu)(v:W4):Ae (CX xs) prog fu (d+2) Hu [.pbox [.sc (.int .u64 v.a),.sc (.int .u64 v.b),.sc (.int .u64 v.c),.sc (.int .u64 v.d)],.sc (.int .i64 k)]=some ⟨[],[(QE k v).cells]⟩:=by
 rw[Og];have:=Vp (xs:=xs) (fu:=fu) (d:=d) (a0:=v.a) (a1:=v.b) (a2:=v.c) (a3:=v.d) (a4:=k) k 0 fu v (by omega) (by omega)
 rw[Zzd] at this;exact this
theorem EE (Ev:100<=fu)(v:W4)(m:Int):Ae (CX xs) prog fu (d+3) Hs [.pbox [.sc (.int .u64 v.a),.sc (.int .u64 v.b),.sc (.int .u64 v.c),.sc (.int .u64 v.d)],.sc (.int .u64 m)]=some ⟨[],[(M5 v m).cells]⟩:=by
 rw[Oh];have r2:=DW (xs:=xs) (fu:=fu) (d:=d) 2 (by omega) Ev ⟨v.a,v.b,v.c,Do .u64 v.d m⟩
 have e2:((2:Nat):Int)=2:=rfl;rw[e2] at r2;unfold M5;generalize QE 2 ⟨v.a,v.b,v.c,Do .u64 v.d m⟩=R at r2 ⊢;simp only[W4.cells] at r2;simp only[Ej,r2];rfl
theorem Asb {a b:Int}{k:Nat}(hk:k<8)(ha:0<=a)(YD:a<((2 ^ (8*k):Nat):Int)) (hb:0<=b)(Gi:b<=255):JL .u64 a (Gz .u64 b (8*(k:Int)))=a+((2 ^ (8*k):Nat):Int)*b:=by
 obtain⟨n,rfl⟩:=Int.eq_ofNat_of_zero_le hb;have e:(8*(k:Int)).toNat=8*k:=by omega
 have hp:n*2 ^ (8*k)<=255*2 ^ (8*k):=Nat.mul_le_mul_right _ (by omega)
 have h56:2 ^ (8*k)<=2 ^ 56:=Nat.pow_le_pow_right (by omega) (by omega)
 have e56:(2:Nat) ^ 56=72057594037927936:=by decide
 rw[e56] at h56;generalize hP:2 ^ (8*k)=p at *
 have UL:n*p<=255*p:=hp
 have hs:Gz .u64 (n:Int) (8*(k:Int))=(n:Int)*((2 ^ (8*(k:Int)).toNat:Nat):Int):=SE (by omega) (by omega) (by omega) (by
  rw[e,hP];have:((n*p:Nat):Int)<=((255*p:Nat):Int):=by omega
  rw[←Int.natCast_mul];omega)
 rw[hs,e,hP]
 have:=(JA (a:=a) (c:=((n*p:Nat):Int)) (8*k) n ha (by rw[hP];exact YD) (by rw[hP]) (by
  have:((n*p:Nat):Int)<=((255*p:Nat):Int):=by omega
  omega)).1
 rw[←Int.natCast_mul,this,Int.mul_comm ((p:Nat):Int),←Int.natCast_mul]
theorem Arc (k:Nat):((2 ^ (8*k):Nat):Int)=256 ^ k:=by
 rw[Nat.pow_mul];simp
theorem Vx {call:Ax}{n:Nat}{c:List PV}{l:List Int}(hb:Dq l)(hl:l.length<=8):∀(r:List Int)(i nn:Nat),l.drop i=r->r.length<nn->i<=l.length ->
  Gh fu call n c nn (Mn (l.take i)) l.length (Dv .u8 l) l.length i=some ⟨[.sc (.int .u64 (Mn l))],[]⟩
 |_,_,0,_,h,_=>by omega
 |[],i,nn+1,h,hn,hi=>by
  have:=drop_nil h;rw[Kq,Rr _ _ _ (by omega),Zzf (by omega)]
 |b::r,i,nn+1,h,hn,hi=>by
  obtain⟨h1,h2,h3⟩:=P8 h;simp only[PG] at hn;have ih:=Vx (call:=call) (n:=n) (c:=c) hb hl r (i+1) nn h3 (by omega) (by omega)
  have TU:=hb b (List.mem_of_getElem? h2);have w:wrap .i64 ((i:Int)+1)=((i+1:Nat):Int):=by rw[Bc (by omega) (by omega)];omega
  have w8:wrap .i64 (8*(i:Int))=8*(i:Int):=Bc (by omega) (by omega)
  have wb:wrap .u64 b=b:=M4 (by omega) (by omega)
  have Ai4:=Nz (l:=l.take i) fun x hx=>hb x (List.mem_of_mem_take hx)
  have htl:(l.take i).length=i:=by rw[List.length_take];omega
  rw[htl] at Ai4
  have hj:JL .u64 (Mn (l.take i)) (Gz .u64 b (8*(i:Int)))=Mn (l.take (i+1)):=by
   rw[Asb (by omega) Ai4.1 (by rw[Arc];exact Ai4.2) TU.1 TU.2,List.take_add_one,h2,Rh,htl,Arc]
   simp[Mn]
  rw[Kq];simp (disch:=omega) only[Ej,Oj,Nat.mul_one,ati h2,w,w8,wb,hj];exact ih
theorem FB {l:List Int}(hb:Dq l)(hl:l.length<=8)(Ev:100<=fu):Ae (CX xs) prog fu (d+1) N3 [.lst false 1 l.length (Dv .u8 l)]=some ⟨[.sc (.int .u64 (Mn l))],[]⟩:=by
 rw[Wl];exact Vx hb hl l 0 fu rfl (by omega) (by omega)
theorem FK (k:IntKind)(l:List Int)(i:Nat):List.drop i (Dv k l)=Dv k (l.drop i):=by
 have:=HE (Ts k) l i
 simpa using this
theorem XD (k:IntKind)(l:List Int)(i:Nat):List.take i (Dv k l)=Dv k (l.take i):=by
 have:=TI (Ts k) l i
 simpa using this
theorem Dq.drop {l:List Int}(h:Dq l)(i:Nat):Dq (l.drop i):=fun x hx=>h x (List.mem_of_mem_drop hx)
theorem Dq.take {l:List Int}(h:Dq l)(i:Nat):Dq (l.take i):=fun x hx=>h x (List.mem_of_mem_take hx)
theorem Adv {a0 a1:Int}{n:Nat}{c:List PV}{l:List Int}(hb:Dq l)(hl:l.length<=1099511627776)(Ev:100<=fu)(nn:Nat)(v:W4):
  Gv fu (Ae (CX xs) prog fu (d+3)) a0 a1 n c (nn+1) l.length (Dv .u8 l) ((l.length / 8:Nat):Int) ((l.length / 8:Nat):Int) ((l.length / 8:Nat):Int) v.a v.b v.c v.d=some ⟨[.sc (.int .u64 (WO (UT (M5 v (Jg l)))))],[]⟩:=by
 have w8:wrap .i64 (8*((l.length / 8:Nat):Int))=((8*(l.length / 8):Nat):Int):=by rw[Bc (by omega) (by omega)];omega
 have wl:wrap .u64 (l.length:Int)=l.length:=M4 (by omega) (by omega)
 have hdl:(l.drop (8*(l.length / 8))).length=l.length-8*(l.length / 8):=List.length_drop;have li:=FB (xs:=xs) (fu:=fu) (d:=d+2) (hb.drop (8*(l.length / 8))) (by omega) Ev
 rw[hdl] at li;have tk:List.take (l.length-8*(l.length / 8)) (Dv .u8 (l.drop (8*(l.length / 8))))=Dv .u8 (l.drop (8*(l.length / 8))):=Zzf (by rw[Ky,hdl];omega)
 have hbn:=Nz (hb.drop (8*(l.length / 8)));rw[hdl] at hbn
 have hp7:(256:Int) ^ (l.length-8*(l.length / 8))<=256 ^ 7:=by
  have:(256:Nat) ^ (l.length-8*(l.length / 8))<=256 ^ 7:=Nat.pow_le_pow_right (by omega) (by omega)
  have h2:(((256:Nat) ^ (l.length-8*(l.length / 8)):Nat):Int)<=((256 ^ 7:Nat):Int):=by omega
  simpa using h2
 have SH:JL .u64 (Mn (l.drop (8*(l.length / 8)))) (Gz .u64 (l.length:Int) 56)=Jg l:=by
  have hs:Gz .u64 (l.length:Int) 56=(((l.length % 256)*2 ^ 56:Nat):Int):=by
   show wrap .u64 ((l.length:Int)*2 ^ (min (56:Int).toNat IntKind.u64.bits))=_;have h2:(2:Int) ^ (min (56:Int).toNat IntKind.u64.bits)=72057594037927936:=by decide
   have h3:(2:Nat) ^ 56=72057594037927936:=by decide
   rw[h2,h3];simp only[wrap,IntKind.signed,IntKind.bits];simp;omega
  have h56:(256:Int) ^ 7=((2 ^ 56:Nat):Int):=by decide
  have h3:(2:Nat) ^ 56=72057594037927936:=by decide
  rw[hs,(JA 56 (l.length % 256) hbn.1 (by omega) rfl (by omega)).1]
  unfold Jg;omega
 have ab:=EE (xs:=xs) (fu:=fu) (d:=d) Ev v (Jg l);have r4:=DW (xs:=xs) (fu:=fu) (d:=d+1) 4 (by omega) Ev ⟨(M5 v (Jg l)).a,(M5 v (Jg l)).b,Do .u64 (M5 v (Jg l)).c 255,(M5 v (Jg l)).d⟩
 have e4:((4:Nat):Int)=4:=rfl;rw[e4] at r4;unfold UT;generalize M5 v (Jg l)=U at ab r4 ⊢;generalize QE 4 ⟨U.a,U.b,Do .u64 U.c 255,U.d⟩=R at r4 ⊢;simp only[W4.cells] at ab r4;rw[N7];simp (disch:=omega) only[Ej,Oj,Nat.mul_one,w8,wl,FK,tk,li,SH,ab,r4];rfl
theorem KM {a0 a1:Int}{n:Nat}{c:List PV}{l:List Int}(hb:Dq l)(hl:l.length<=1099511627776)(Ev:100<=fu):∀(k i nn:Nat)(v:W4),i+k=l.length / 8->k<nn ->
  Gv fu (Ae (CX xs) prog fu (d+3)) a0 a1 n c nn l.length (Dv .u8 l) ((l.length / 8:Nat):Int) ((l.length / 8:Nat):Int) i v.a v.b v.c v.d=some ⟨[.sc (.int .u64 (WO (UT (M5 (BM k v (l.drop (8*i))) (Jg l)))))],[]⟩
 |_,_,0,_,_,h=>by omega
 |0,i,nn+1,v,hi,hn=>by
  have e:i=l.length / 8:=by omega
  subst e;exact Adv hb hl Ev nn v
 |k+1,i,nn+1,v,hi,hn=>by
  have w:wrap .i64 ((i:Int)+1)=((i+1:Nat):Int):=by rw[Bc (by omega) (by omega)];omega
  have w8:wrap .i64 (8*(i:Int))=((8*i:Nat):Int):=by rw[Bc (by omega) (by omega)];omega
  have w88:wrap .i64 (((8*i:Nat):Int)+8)=((8*i+8:Nat):Int):=by rw[Bc (by omega) (by omega)];omega
  have hdl:((l.drop (8*i)).take 8).length=8:=by rw[List.length_take,List.length_drop];omega
  have li:=FB (xs:=xs) (fu:=fu) (d:=d+2) ((hb.drop (8*i)).take 8) (by omega) Ev
  rw[hdl] at li;have e8:8*i+8-8*i=8:=by omega
  have ab:=EE (xs:=xs) (fu:=fu) (d:=d) Ev v (Mn ((l.drop (8*i)).take 8));have ih:=KM (a0:=a0) (a1:=a1) (n:=n) (c:=c) hb hl Ev k (i+1) nn (M5 v (Mn ((l.drop (8*i)).take 8))) (by omega) (by omega)
  have eN:BM (k+1) v (l.drop (8*i))=BM k (M5 v (Mn ((l.drop (8*i)).take 8))) (l.drop (8*(i+1))):=by
   rw[BM,List.drop_drop,show 8*i+8=8*(i+1) by omega]
  rw[eN];generalize M5 v (Mn ((l.drop (8*i)).take 8))=U at ab ih ⊢;simp only[W4.cells] at ab;rw[N7];simp (disch:=omega) only[Ej,Oj,Nat.mul_one,w,w8,w88,e8,FK,XD,li,ab];exact ih
theorem Ain {l:List Int}(hb:Dq l)(hl:l.length<=1099511627776)(Ev:100<=fu)(hf:l.length<fu)(k0 k1:Int):Ae (CX xs) prog fu (d+4) Te [.sc (.int .u64 k0),.sc (.int .u64 k1),.lst false 1 l.length (Dv .u8 l)]=some ⟨[.sc (.int .u64 (Ais k0 k1 l))],[]⟩:=by
 rw[FX]
 have w:wrap .i64 (Int.tdiv (l.length:Int) 8)=((l.length / 8:Nat):Int):=by
  rw[Int.tdiv_eq_ediv_of_nonneg (by omega),Bc (by omega) (by omega)]
  omega
 have lp:=KM (xs:=xs) (fu:=fu) (d:=d) (a0:=k0) (a1:=k1) (n:=l.length) (c:=Dv .u8 l) hb hl Ev (l.length / 8) 0 fu (Am1 k0 k1) (by omega) (by omega)
 simp only[Mu,w];exact lp
theorem Af3 {l:List Int}(hb:Dq l)(hl:l.length<=1099511627776)(Ev:100<=fu)(hf:l.length<fu)(dom:Int):Ae (CX xs) prog fu (d+5) Q6 [.sc (.int .i64 dom),.lst false 1 l.length (Dv .u8 l)]=some ⟨[.sc (.int .u64 (Wc dom l))],[]⟩:=by
 rw[BJ];have s:=Ain (xs:=xs) (fu:=fu) (d:=d) hb hl Ev hf (wrap .u64 dom) 0;simp only[Ej,s];rfl
theorem J3 (v:W4):Ae (CX xs) prog fu (d+2) Jq [.agg [.sc (.int .u64 v.a),.sc (.int .u64 v.b),.sc (.int .u64 v.c),.sc (.int .u64 v.d)]]=some ⟨[.agg (AU v).cells],[]⟩:=by
 have r13:=fun x=>ZH (xs:=xs) (fu:=fu) (d:=d) (x:=x) (k:=13) (by simp)
 have r16:=fun x=>ZH (xs:=xs) (fu:=fu) (d:=d) (x:=x) (k:=16) (by simp)
 have r17:=fun x=>ZH (xs:=xs) (fu:=fu) (d:=d) (x:=x) (k:=17) (by simp)
 have r21:=fun x=>ZH (xs:=xs) (fu:=fu) (d:=d) (x:=x) (k:=21) (by simp)
 have r32:=fun x=>ZH (xs:=xs) (fu:=fu) (d:=d) (x:=x) (k:=32) (by simp)
 rw[Qz];simp (disch:=omega) only[Ej,r13,r16,r17,r21,r32];rfl
def Od (l:List Int)(i k:Nat):Int:=if i+k<l.length then l.getD (i+k) 0 else if k=7 then (l.length:Int) % 256 else 0
def pc (l:List Int)(i:Nat):List Int:=(List.range 8).map (Od l i)
theorem A0x {l:List Int}(hb:Dq l)(i:Nat):Dq (pc l i):=by
 intro x hx;obtain⟨k,hk,rfl⟩:=List.mem_map.1 hx;unfold Od;split
 ·rename_i h;rw[List.getD_eq_getElem?_getD,List.getElem?_eq_getElem h];exact hb _ (List.getElem_mem h)
 ·split<;>omega
theorem Ae9 {l:List Int}{i:Nat}(h:i+8<=l.length):pc l i=(l.drop i).take 8:=by
 refine List.ext_getElem (by simp[pc];omega) fun k h1 h2=>?_
 have hk:k<8:=by simpa [pc] using h1
 simp only[pc,List.getElem_map,List.getElem_range,List.getElem_take,List.getElem_drop,Od];rw[E7 (by omega),List.getD_eq_getElem?_getD,List.getElem?_eq_getElem (by omega)]
 rfl
theorem EQ (x:Int):∀n,Mn (List.replicate n 0++[x])=256 ^ n*x
 |0=>by simp[Mn]
 |n+1=>by
  rw[List.replicate_succ,List.cons_append,Mn,EQ x n,Int.pow_succ,Int.mul_comm (256 ^ n) 256,Int.mul_assoc];omega
theorem Adk {l:List Int}:Mn (pc l (8*(l.length / 8)))=Jg l:=by
 have e:pc l (8*(l.length / 8))=l.drop (8*(l.length / 8))++(List.replicate (7-(l.length-8*(l.length / 8))) 0++[(l.length:Int) % 256]):=by
  refine List.ext_getElem (by simp[pc];omega) fun k h1 h2=>?_
  have hk:k<8:=by simpa [pc] using h1
  simp only[pc,List.getElem_map,List.getElem_range,Od];by_cases hc:8*(l.length / 8)+k<l.length
  ·rw[E7 hc,List.getElem_append_left (by rw[List.length_drop];omega),List.getElem_drop,List.getD_eq_getElem?_getD,List.getElem?_eq_getElem hc]
   rfl
  ·rw[Dz hc,List.getElem_append_right (by rw[List.length_drop];omega)]
   by_cases h7:k=7
   ·rw[E7 h7,List.getElem_append_right (by simp;omega)]
    simp
   ·rw[Dz h7,List.getElem_append_left (by simp;omega)]
    simp
 rw[e,Rh,EQ];unfold Jg
 have:(256:Int) ^ (l.drop (8*(l.length / 8))).length*(256 ^ (7-(l.length-8*(l.length / 8)))*((l.length:Int) % 256))=72057594037927936*((l.length:Int) % 256):=by
  rw[←Int.mul_assoc,←Int.pow_add,List.length_drop];have:l.length-8*(l.length / 8)+(7-(l.length-8*(l.length / 8)))=7:=by omega
  rw[this];rfl
 rw[this]
theorem Ao1 {a b:Int}(ha:0<=a)(YD:a<72057594037927936)(hb:0<=b)(Gi:b<=255):JL .u64 (Gz .u64 a 8) b=b+256*a:=by
 obtain⟨n,rfl⟩:=Int.eq_ofNat_of_zero_le ha
 have hs:Gz .u64 (n:Int) 8=((n*2 ^ 8:Nat):Int):=by
  have:=SE (a:=(n:Int)) (k:=8) (by omega) (by omega) (by omega) (by
   have:(2 ^ (8:Int).toNat:Nat)=256:=by decide
   rw[this];omega)
  rw[this];have:(2 ^ (8:Int).toNat:Nat)=256:=by decide
  rw[this];have:(2 ^ 8:Nat)=256:=by decide
  rw[this];omega
 have h8:(2 ^ 8:Nat)=256:=by decide
 rw[hs,(JA (a:=b) 8 n hb (by rw[h8];omega) rfl (by rw[h8];omega)).2,h8]
 omega
theorem RV {a0 a1:Int}{n m0:Nat}{c:List PV}{l:List Int}(hb:Dq l)(hl:l.length<=1099511627776){i:Nat}(hi:i<=l.length)(v:W4):∀(j nn:Nat),j<=8->j<nn ->
  Ds fu (Ae (CX xs) prog fu (d+2)) a0 a1 n c m0 nn l.length (Dv .u8 l) i (Mn ((pc l i).drop j)) ((j:Int)-1) v.cells =
   Ed fu (Ae (CX xs) prog fu (d+2)) a0 a1 n c m0 l.length (Dv .u8 l) ((i+8:Nat):Int) (M5 v (Mn (pc l i))).cells
 |_,0,_,h=>by omega
 |0,nn+1,hj,hn=>by
  have w8:wrap .i64 ((i:Int)+8)=((i+8:Nat):Int):=by rw[Bc (by omega) (by omega)];omega
  have r1:=J3 (xs:=xs) (fu:=fu) (d:=d) ⟨v.a,v.b,v.c,Do .u64 v.d (Mn (pc l i))⟩;have r2:=J3 (xs:=xs) (fu:=fu) (d:=d) (AU ⟨v.a,v.b,v.c,Do .u64 v.d (Mn (pc l i))⟩);have eA:M5 v (Mn (pc l i))=Apz (AU (AU ⟨v.a,v.b,v.c,Do .u64 v.d (Mn (pc l i))⟩)) (Mn (pc l i)):=rfl;rw[eA];generalize AU ⟨v.a,v.b,v.c,Do .u64 v.d (Mn (pc l i))⟩=U at r1 r2 ⊢;generalize AU U=U2 at r2 ⊢;simp only[W4.cells] at r1 r2;rw[It,Rr _ _ _ (by omega),List.drop_zero]
  simp only[W4.cells,List.getD_cons_zero,List.getD_cons_succ,IC,Mu];simp (disch:=first|omega|(simp;done)) only[Ej,B8,List.take_succ_cons,List.take_zero,List.drop_succ_cons,List.drop_zero,List.drop_nil,List.cons_append,List.nil_append,List.append_nil,PG,List.length_nil,List.getD_cons_zero,List.getD_cons_succ,r1,r2,w8,Zzd,Nat.reduceAdd,Nat.reduceLeDiff,List.append_eq]
  rfl
 |j+1,nn+1,hj,hn=>by
  have ih:=RV (a0:=a0) (a1:=a1) (n:=n) (m0:=m0) (c:=c) hb hl hi v j nn (by omega) (by omega)
  have hw:wrap .i64 ((i:Int)+(((j+1:Nat):Int)-1))=((i+j:Nat):Int):=by rw[Bc (by omega) (by omega)];omega
  have wj:wrap .i64 (((j+1:Nat):Int)-1-1)=(j:Int)-1:=by rw[Bc (by omega) (by omega)];omega
  have hd:(pc l i).drop j=Od l i j::(pc l i).drop (j+1):=by
   rw[List.drop_eq_getElem_cons (by simp[pc];omega)]
   simp[pc]
  have hB:=A0x hb i;have hbn:=Nz (hB.drop (j+1))
  have hp7:(256:Int) ^ ((pc l i).drop (j+1)).length<=72057594037927936:=by
   have Dd:((pc l i).drop (j+1)).length<=7:=by simp[pc]
   have:(256:Nat) ^ ((pc l i).drop (j+1)).length<=256 ^ 7:=Nat.pow_le_pow_right (by omega) Dd
   have h2:(((256:Nat) ^ ((pc l i).drop (j+1)).length:Nat):Int)<=((256 ^ 7:Nat):Int):=by omega
   simpa using h2
  have VJ:0<=Od l i j∧Od l i j<=255:=hB _ (by rw[←List.drop_zero (l:=pc l i)];exact List.mem_of_mem_drop (i:=j) (by rw[List.drop_zero,hd];simp))
  have hj2:JL .u64 (Gz .u64 (Mn ((pc l i).drop (j+1))) 8) (Od l i j)=Mn ((pc l i).drop j):=by
   rw[Ao1 hbn.1 (by omega) VJ.1 VJ.2,hd]
   rfl
  have wc:wrap .u64 (Od l i j)=Od l i j:=M4 (by omega) (by omega)
  rw[It,Zb _ _ _ (by omega)]
  simp only[Mu,hw];by_cases c1:i+j<l.length
  ·have e:Od l i j=l.getD (i+j) 0:=by unfold Od;rw[E7 c1]
   have e2:l[i+j]?=some (Od l i j):=by rw[e,List.getD_eq_getElem?_getD,List.getElem?_eq_getElem c1];rfl
   rw[Zb _ _ _ (by omega)]
   simp (disch:=omega) only[Ej,Oj,Nat.mul_one,ati e2,wc,hj2,wj];exact ih
  ·rw[Rr _ _ _ (by omega)]
   by_cases h7:j=7
   ·subst h7;have e:Od l i 7=(l.length:Int) % 256:=by unfold Od;rw[Dz c1,E7 rfl]
    have e8:wrap .u8 (l.length:Int)=Od l i 7:=by
     rw[e];simp only[wrap,IntKind.signed,IntKind.bits];simp
    rw[TK,E7 (by omega),e8,wc,hj2,wj]
    exact ih
   ·have e:Od l i j=0:=by unfold Od;rw[Dz c1,Dz h7]
    rw[e] at hj2;rw[TK,Dz (by omega),hj2,wj]
    exact ih
theorem FQ {a0 a1:Int}{n:Nat}{c:List PV}{l:List Int}(hb:Dq l)(hl:l.length<=1099511627776)(Ev:100<=fu):∀(k i nn:Nat)(v:W4),i+k=l.length / 8->k+1<nn ->
  Ed fu (Ae (CX xs) prog fu (d+2)) a0 a1 n c nn l.length (Dv .u8 l) ((8*i:Nat):Int) v.cells=some ⟨[.sc (.int .u64 (WO (UT (M5 (BM k v (l.drop (8*i))) (Jg l)))))],[]⟩
 |_,_,0,_,_,h=>by omega
 |k,i,nn+1,v,hi,hn=>by
  have step:=RV (xs:=xs) (fu:=fu) (d:=d) (a0:=a0) (a1:=a1) (n:=n) (m0:=nn) (c:=c) hb hl (i:=8*i) (by omega) v 8 fu (by omega) (by omega)
  have e0:Mn ((pc l (8*i)).drop 8)=0:=by rw[List.drop_of_length_le (by simp[pc])];rfl
  rw[e0] at step;rw[Iw,Zb _ _ _ (by omega)]
  refine step.trans ?_;cases k with
  |zero=>
   have e:i=l.length / 8:=by omega
   subst e;rw[Adk];generalize hv:M5 v (Jg l)=u;obtain⟨nn',rfl⟩:∃nn',nn=nn'+1:=⟨nn-1,by omega⟩
   have r1:=J3 (xs:=xs) (fu:=fu) (d:=d) ⟨u.a,u.b,Do .u64 u.c 255,u.d⟩;have r2:=J3 (xs:=xs) (fu:=fu) (d:=d) (AU ⟨u.a,u.b,Do .u64 u.c 255,u.d⟩);have r3:=J3 (xs:=xs) (fu:=fu) (d:=d) (AU (AU ⟨u.a,u.b,Do .u64 u.c 255,u.d⟩));have r4:=J3 (xs:=xs) (fu:=fu) (d:=d) (AU (AU (AU ⟨u.a,u.b,Do .u64 u.c 255,u.d⟩)))
   have eF:WO (UT (M5 (BM 0 v (l.drop (8*(l.length / 8)))) (Jg l)))=WO (AU (AU (AU (AU ⟨u.a,u.b,Do .u64 u.c 255,u.d⟩)))):=by
    rw[BM,hv];rfl
   rw[eF];clear eF;generalize AU ⟨u.a,u.b,Do .u64 u.c 255,u.d⟩=U1 at r1 r2 r3 r4 ⊢;generalize AU U1=U2 at r2 r3 r4 ⊢;generalize AU U2=U3 at r3 r4 ⊢;generalize AU U3=U4 at r4 ⊢;simp only[W4.cells] at r1 r2 r3 r4;rw[Iw,Rr _ _ _ (by omega)]
   simp only[W4.cells,List.getD_cons_zero,List.getD_cons_succ,IC,Mu];simp (disch:=first|omega|(simp;done)) only[Ej,B8,List.take_succ_cons,List.take_zero,List.drop_succ_cons,List.drop_zero,List.drop_nil,List.cons_append,List.nil_append,List.append_nil,PG,List.length_nil,List.getD_cons_zero,List.getD_cons_succ,r1,r2,r3,r4,Zzd,Nat.reduceAdd,Nat.reduceLeDiff,List.append_eq]
   rfl
  |succ k=>
   have ih:=FQ (a0:=a0) (a1:=a1) (n:=n) (c:=c) hb hl Ev k (i+1) nn (M5 v (Mn (pc l (8*i)))) (by omega) (by omega)
   rw[show 8*i+8=8*(i+1) by omega,ih,Ae9 (by omega)]
   simp only[BM,List.drop_drop];rw[show 8*(i+1)=8*i+8 by omega]
theorem Aez {l:List Int}(hb:Dq l)(hl:l.length<=1099511627776)(Ev:100<=fu)(hf:l.length<fu)(k0 k1:Int):Ae (CX xs) prog fu (d+3) La [.sc (.int .u64 k0),.sc (.int .u64 k1),.lst false 1 l.length (Dv .u8 l)]=some ⟨[.sc (.int .u64 (Ais k0 k1 l))],[]⟩:=by
 rw[Tt];exact FQ (xs:=xs) (fu:=fu) (d:=d) (a0:=k0) (a1:=k1) (n:=l.length) (c:=Dv .u8 l) hb hl Ev (l.length / 8) 0 fu (Am1 k0 k1) (by omega) (by omega)
theorem Ab5 {l:List Int}(hb:Dq l)(hl:l.length<=1099511627776)(Ev:100<=fu)(hf:l.length<fu)(dom:Int):Ae (CX xs) prog fu (d+4) Kn [.sc (.int .i64 dom),.lst false 1 l.length (Dv .u8 l)]=some ⟨[.sc (.int .u64 (Wc dom l))],[]⟩:=by
 rw[Ro];have s:=Aez (xs:=xs) (fu:=fu) (d:=d) hb hl Ev hf (wrap .u64 dom) 0;simp only[Ej,s];rfl
end
end
section
open Go.IntKind (wrap)
def D1 (s:ByteArray):List Int:=s.data.toList.map fun b=>(b.toNat:Int)
def Ac (l:List Int):ByteArray:=⟨(l.map fun n=>n.toNat.toUInt8).toArray⟩
theorem Es (s:ByteArray):(D1 s).length=s.size:=by
 unfold D1;rw[List.length_map];rfl
theorem HI (s:ByteArray):Dq (D1 s):=by
 intro x hx;obtain⟨b,_,rfl⟩:=List.mem_map.1 hx;have:=b.toNat_lt;omega
theorem Vr (s:ByteArray):Eu s=Dv .u8 (D1 s):=by
 unfold Eu D1
 induction s.data.toList with
 |nil=>rfl
 |cons b l ih=>rw[List.map_cons,List.map_cons,ih];rfl
theorem Aw (l:List Int):(Ac l).size=l.length:=by
 show (l.map fun n=>n.toNat.toUInt8).toArray.size=_
 simp
theorem C9 {l:List Int}(h:Dq l):D1 (Ac l)=l:=by
 unfold D1 Ac;simp only[List.map_map]
 have:∀l:List Int,Dq l->List.map ((fun b:UInt8=>(b.toNat:Int)) ∘ fun n:Int=>n.toNat.toUInt8) l=l:=by
  intro l
  induction l with
  |nil=>intro _;rfl
  |cons x l ih=>
   intro h;have hx:=h x (by simp)
   rw[List.map_cons,ih fun y hy=>h y (by simp[hy])]
   congr 1
   show ((x.toNat.toUInt8.toNat:Nat):Int)=x;rw[Nat.toUInt8,UInt8.toNat_ofNat'];omega
 exact this l h
theorem Nd (s:ByteArray):Ac (D1 s)=s:=by
 unfold Ac D1;simp only[List.map_map]
 have:∀l:List UInt8,List.map ((fun n:Int=>n.toNat.toUInt8) ∘ fun b:UInt8=>(b.toNat:Int)) l=l:=by
  intro l
  induction l with
  |nil=>rfl
  |cons x l ih=>
   rw[List.map_cons,ih]
   congr 1
   show ((x.toNat:Int).toNat).toUInt8=x;rw[Oj];simp
 rw[this]
end
section
open Go.IntKind (wrap)
def Ho (v:Int):Int:=if v<26 then 65+v else if v<52 then 71+v else if v<62 then v-4 else if v<63 then 45 else 95
def Bs (c:Int):Int:=if 65<=c∧c<=90 then c-65 else if 97<=c∧c<=122 then c-71 else if 48<=c∧c<=57 then c+4 else if c=45 then 62 else if c=95 then 63 else 64
theorem Lu (c:Int):0<=Bs c∧Bs c<=64:=by
 unfold Bs;split
 ·omega
 split
 ·omega
 split
 ·omega
 split
 ·omega
 split<;>omega
def Wu:List Int->List Int
 |[]=>[]
 |[a]=>[Ho (a / 4),Ho (a % 4*16)]
 |[a,b]=>[Ho (a / 4),Ho (a % 4*16+b / 16),Ho (b % 16*4)]
 |a::b::c::r=>Ho (a / 4)::Ho (a % 4*16+b / 16)::Ho (b % 16*4+c / 64)::Ho (c % 64)::Wu r
def Nc:List Int->Option (List Int)
 |[]=>some []
 |[_]=>none
 |[p,q]=>if Bs p<64∧Bs q<64∧Bs q % 16=0 then some [Bs p*4+Bs q / 16] else none
 |[p,q,r]=>if Bs p<64∧Bs q<64∧Bs r<64∧Bs r % 4=0 then some [Bs p*4+Bs q / 16,Bs q % 16*16+Bs r / 4] else none
 |p::q::r::s::t=>if Bs p<64∧Bs q<64∧Bs r<64∧Bs s<64 then (Nc t).map (fun l=>(Bs p*4+Bs q / 16)::(Bs q % 16*16+Bs r / 4)::(Bs r % 4*64+Bs s)::l) else none
theorem C7 {a:Int}{l:List Int}(h:Dq (a::l)):(0<=a∧a<=255)∧Dq l:=⟨h a (by simp),fun x hx=>h x (by simp[hx])⟩
end
section
open Go.IntKind (wrap)
def VS (c:Int):Bool:=c==32||c==9||c==10||c==13
def Bd:List Int->List Int
 |[]=>[]
 |c::r=>if VS c=true then Bd r else c::r
def PS (c:Int):Option Int:=if 48<=c∧c<=57 then some (c-48) else if 97<=c∧c<=102 then some (c-87) else if 65<=c∧c<=70 then some (c-55) else none
abbrev PR (α:Type):=Option α × List Int
def Qx:Nat->Int->List Int->PR Int
 |0,x,l=>(some x,l)
 |_+1,_,[]=>(none,[])
 |n+1,x,c::r=>match PS c with
  |some v=>Qx n (x*16+v) r
  |none=>(none,c::r)
def GX (x:Int):Bool:=decide (56320<=x)&&decide (x<=57343)
def TQ (x:Int)(l:List Int):PR Int:=
 match Qx 4 0 l with
 |(some y,r)=>if GX y=true then (some (65536+(x-55296)*1024+(y-56320)),r) else (none,r)
 |(none,r)=>(none,r)
def Acw:List Int->Bool
 |92::117::_=>true
 |_=>false
def Mv (l:List Int):PR Int:=
 match Qx 4 0 l with
 |(none,r)=>(none,r)
 |(some x,r)=>if GX x=true then (none,r) else if x<55296∨56319<x then (some x,r) else if Acw r=true then TQ x (r.drop 2) else (none,r)
def Rl (c:Int):Option Int:=if c=34∨c=92∨c=47 then some c else if c=98 then some 8 else if c=102 then some 12 else if c=110 then some 10 else if c=114 then some 13 else if c=116 then some 9 else none
def Lv:List Int->PR Int
 |[]=>(none,[])
 |c::r=>if c=117 then Mv r else match Rl c with
  |some x=>(some x,r)
  |none=>(none,c::r)
def Jd:Nat->List Int->List Int->PR (List Int)
  |0,_,l=>(none,l)
  |_+1,_,[]=>(none,[])
  |n+1,out,c::r=>if c<32 then (none,c::r) else if c=34 then (some out,r) else if c=92 then
      (match Lv r with
       |(some x,r')=>Jd n (out++Lib.encodeRuneZ x) r'
       |(none,r')=>(none,r'))
    else Jd n (out++[c]) r
def Eo:List Int->PR (List Int)
 |[]=>(none,[])
 |c::r=>if c=34 then Jd (r.length+1) [] r else (none,c::r)
def EM (l:List Int):Option (List Int × List Int):=match Eo l with|(some s,r)=>some (s,r)|_=>none
def XL (c:Int):Bool:=decide (48<=c)&&decide (c<=57)
def Io:List Int->List Int
 |[]=>[]
 |c::r=>if XL c=true then Io r else c::r
def Cd:List Int->Option (List Int)
 |[]=>none
 |c::r=>if XL c=true then some (Io r) else none
def Abz (c:Int):List Int->List Int
 |[]=>[]
 |d::r=>if d=c then r else d::r
def Rx:List Int->Option (List Int)
 |[]=>some []
 |c::r=>if c=101∨c=69 then (match r with
   |43::r'=>Cd r'
   |r=>Cd (Abz 45 r)) else some (c::r)
def Yu:List Int->Option (List Int)
 |[]=>some []
 |c::r=>if c=46 then (Cd r).bind Rx else Rx (c::r)
def Agb:List Int->Option (List Int)
 |[]=>none
 |c::r=>if c=48 then some r else Cd (c::r)
def E9 (l:List Int):Option (List Int):=(Agb (Abz 45 l)).bind Yu
abbrev JV:=Int × List Int × Bool
abbrev JR (α:Type):=Except Int α
def GO (V:List Int->JR (JV × List Int)):Nat->List Int->JR (List Int)
 |0,_=>.error 2
 |n+1,l=>match V l with
  |.error e=>.error e
  |.ok (_,r)=>match Bd r with
   |93::r'=>.ok r'
   |44::r'=>GO V n (Bd r')
   |_=>.error 2
def XM (V:List Int->JR (JV × List Int)) (l:List Int):JR (List Int):=
 match Bd l with
 |93::r=>.ok r
 |l'=>GO V (l'.length+1) l'
def Ajx (V:List Int->JR (JV × List Int)) (dup:List Int->Bool)(l:List Int):JR ((List Int × JV) × List Int):=
 match EM l with
 |none=>.error 2
 |some (nm,r)=>if dup nm=true then .error 10 else
  match Bd r with
  |58::r'=>(match V (Bd r') with
   |.error e=>.error e
   |.ok (v,r'')=>.ok ((nm,v),r''))
  |_=>.error 2
def Qq (V:List Int->JR (JV × List Int)) (kp:Bool):Nat->List (List Int × JV)->List Int->JR (List (List Int × JV) × List Int)
 |0,_,_=>.error 2
 |n+1,ms,l=>match Ajx V (fun nm=>kp&&ms.any fun m=>m.1==nm) l with
  |.error e=>.error e
  |.ok (m,r)=>match Bd r with
   |125::r'=>.ok (ms++[m],r')
   |44::r'=>Qq V kp n (ms++[m]) (Bd r')
   |_=>.error 2
def S7 (V:List Int->JR (JV × List Int)) (kp:Bool)(l:List Int):JR (List (List Int × JV) × List Int):=
 match Bd l with
 |125::r=>.ok ([],r)
 |l'=>Qq V kp (l'.length+1) [] l'
def Ap (w l:List Int):Option (List Int):=if w.isPrefixOf l=true then some (l.drop w.length) else none
def Fh:Nat->List Int->JR (JV × List Int)
 |k,l=>match l with
  |123::r=>(match k with
   |0=>.error 5
   |k+1=>(match S7 (Fh k) false r with
    |.error e=>.error e
    |.ok (_,r')=>.ok ((6,[],false),r')))
  |91::r=>(match k with
   |0=>.error 5
   |k+1=>(match XM (Fh k) r with
    |.error e=>.error e
    |.ok r'=>.ok ((5,[],false),r')))
  |34::r=>(match EM (34::r) with
   |none=>.error 2
   |some (s,r')=>.ok ((4,s,false),r'))
  |l=>match Ap [116,114,117,101] l with
   |some r=>.ok ((2,[],true),r)
   |none=>match Ap [102,97,108,115,101] l with
    |some r=>.ok ((2,[],false),r)
    |none=>match Ap [110,117,108,108] l with
     |some r=>.ok ((1,[],false),r)
     |none=>match E9 l with
      |some r=>.ok ((3,[],false),r)
      |none=>.error 2
def OU (k:Nat)(l:List Int):JR (List (List Int × JV)):=
 match Bd l with
 |123::r=>(match S7 (Fh k) true r with
  |.error e=>.error e
  |.ok (ms,r')=>if Bd r'=[] then .ok ms else .error 2)
 |_=>.error 2
end
section
open Go.IntKind (wrap)
def LS:List PV->Option (List Int)
 |[]=>some []
 |.sc (.int .u8 n)::r=>bif decide (0<=n)&&decide (n<=255) then (LS r).map (n :: ·) else none
 |_=>none
def Al2 (args:List PV):Option Ay:=
 match args with
 |[.lst _ 1 n c]=>bif Nat.beq c.length n&&Nat.ble n 100000000 then (match LS c with|some l=>some ⟨[.sc (.string (Ac (Wu l)))],[]⟩|none=>none) else none
 |_=>none
def ZV (args:List PV):Option Ay:=
  match args with
  |[.pbox [.sc (.string t),.sc (.int .i64 p)]]=>bif decide (0<=p)&&decide (p<=t.size)&&Nat.ble t.size 1000000 then
      (match Eo ((D1 t).drop p.toNat) with
       |(some s,r)=>some ⟨[.sc (.string (Ac s)),.sc (.bool true)],[[.sc (.string t),.sc (.int .i64 (t.size-r.length:Int))]]⟩
       |(none,r)=>some ⟨[.sc (.string ⟨#[]⟩),.sc (.bool false)],[[.sc (.string t),.sc (.int .i64 (t.size-r.length:Int))]]⟩) else none
  |_=>none
def Alf (args:List PV):Option Ay:=
 match args with
 |[.sc (.string s),.sc (.int .u8 c)]=>some ⟨[.sc (.int .i64 (Lib.indexByte s.data.toList c.toNat.toUInt8))],[]⟩
 |_=>none
def Ajo (args:List PV):Option Ay:=
 match args with
 |[.sc (.string s),.sc (.string p)]=>bif Nat.beq p.size 1 then some ⟨[.sc (.int .i64 (Lib.countByte s.data.toList p[0]!))],[]⟩ else none
 |_=>none
def LN (args:List PV):Option Ay:=
 match args with
 |[.sc (.string s),.sc (.string p)]=>bif Nat.ble p.size 1000&&p.data.toList.all (fun b=>decide (b.toNat<128))&&decide (s.size<=1000000000) then some ⟨[.sc (.string ⟨(Lib.trimS s.data.toList p.data.toList).toArray⟩)],[]⟩ else none
 |_=>none
def Aad (f:FuncId):Option (List PV->Option Ay):=
 bif Nat.beq f 33 then some OR else
 bif Nat.beq f 40 then some Alf else
 bif Nat.beq f 99 then some Ajo else
 bif Nat.beq f 66 then some LN else
 bif Nat.beq f 12 then some Al2 else
 bif Nat.beq f 68 then some ZV else
 bif Nat.beq f 1000000 then some (fun _=>none) else none
def RG (p:Option (List PV->Option Ay)) (f:FuncId):Option (List PV->Option Ay):=bif Nat.beq f 19 then p else Aad f
abbrev CP (p:Option (List PV->Option Ay)):Ft:=CX (RG p)
abbrev C0:Ft:=CP none
abbrev xs0:=RG none
end
section
open Go.IntKind (wrap)
open Go.RowKit
def Yo (p:PV)(u:Value):Prop:=p=.sc u∨∃vs:List Value,p=.agg (vs.map .sc)∧u=.agg ⟨vs⟩
theorem Py {w:World}{A:Nat->Prop}{own:Bt}:∀{vs us:List Value}{j:Nat},D8 w A own j (vs.map .sc) us->us=vs
 |[],[],_,_=>rfl
 |[],_::_,_,h=>h.elim
 |_::_,[],_,h=>h.elim
 |v::vs,u::us,j,h=>by
  have h1:Ar w A (.sc v) u:=h.1;rw[h1.val,Py h.2]
theorem Pz {w:World}{A:Nat->Prop}{own:Bt}:∀{vs:List Value}{j:Nat},D8 w A own j (vs.map .sc) vs
 |[],_=>trivial
 |v::vs,j=>⟨show Ar w A (.sc v) v from .sc v,Pz⟩
theorem Zu {w:World}{A:Nat->Prop}{own:Bt}{z:Nat}:∀{vals:List PV}{us us':List Value}{j:Nat},Bb Yo vals us->EL w A own z j vals us'->us'=us
 |[],[],[],_,_,_=>rfl
 |[],[],_::_,_,_,h=>h.elim
 |[],_::_,_,_,h,_=>h.elim
 |_::_,[],_,_,h,_=>h.elim
 |_::_,_::_,[],_,_,h=>h.elim
 |p::ps,u::us,u'::us',j,hs,h=>by
  rw[Zu hs.2 h.2]
  congr 1
  rcases hs.1 with rfl|⟨vs,rfl,rfl⟩
  ·exact Ar.val (show Ar w A (.sc u) u' from h.1)
  ·obtain⟨vs',rfl,h2⟩:=h.1;rw[Py h2]
structure D9 (w w':World) (b o n:Nat):Prop where
 os:w'.os=w.os
 tape:w'.tape=w.tape
 output:w'.output=w.output
 size:w.heap.size<=w'.heap.size
 grow:Fz w w' b
 other:∀k,k<w.heap.size->k≠b->w'.heap[k]?=w.heap[k]?
 cells:∀j,(j<o∨o+n<=j)->w'.cell? ⟨b,j,none⟩=w.cell? ⟨b,j,none⟩
 frz:∀j,(j<o∨o+n<=j)->w'.frozen? ⟨b,j,none⟩=w.frozen? ⟨b,j,none⟩
def bt1 (b o:Nat):Ud:=fun i j=>match i,j with|0,0=>some (b,o)|_,_=>none
theorem Ab3 {b o k:Nat}(h:VA (bt1 b o) k):k=b:=by
 obtain⟨i,j,o',h⟩:=h;unfold bt1 at h;split at h
 ·cases h;rfl
 ·cases h
theorem Sq {w:World}{A:Nat->Prop}{bt:Ud}:∀{i:Nat}{ps:List PV}{us:List Value},Bb Yo ps us->Iu w A bt i ps us
 |_,[],[],_=>trivial
 |_,[],_::_,h=>h.elim
 |_,_::_,[],h=>h.elim
 |i,p::ps,u::us,h=>by
  refine⟨?_,Sq h.2⟩;rcases h.1 with rfl|⟨vs,rfl,rfl⟩
  ·exact⟨.inl trivial,show Ar w A (.sc u) u from .sc u⟩
  ·refine⟨vs,rfl,fun p hp=>?_,Pz⟩
   obtain⟨v,_,rfl⟩:=List.mem_map.1 hp;exact .inl trivial
theorem DV {G:R0}{P:Program}{f:FuncId}{vs vs':List Value}{args vals:List PV}{us rs:List Value}(hs:Cy G P f (.pbox (vs.map .sc)::args) ⟨vals,[vs'.map .sc]⟩) (ha:Bb Yo args us)(hr:Bb Yo vals rs)
  {w:World} {b o:Nat} (hG:G.ok w) (hGl:∀k,G.bl k->k<w.heap.size∧k≠b) (hb:b<w.heap.size) (hc:∀j v,vs[j]?=some v->w.cell? ⟨b,o+j,none⟩=some v) (hf:∀j,j<vs.length->w.frozen? ⟨b,o+j,none⟩=false):
  Calls P f (.pointer (some ⟨b,o,none⟩)::us).toArray w fun e w'=>e=.returned (Gq rs)∧vs'.length=vs.length∧(∀j v,vs'[j]?=some v->w'.cell? ⟨b,o+j,none⟩=some v)∧(∀j,j<vs.length->w'.frozen? ⟨b,o+j,none⟩=false)∧D9 w w' b o vs.length:=by
 have hi:Ins w (fun _=>False) (bt1 b o) (.pbox (vs.map .sc)::args) (.pointer (some ⟨b,o,none⟩)::us):=by
  refine⟨fun _ h=>h.elim,fun _ h=>h.elim,fun k h=>by rw[Ab3 h];exact hb,fun i j i' j' k x x' h h'=>?_,fun i q h=>?_,?_,Sq ha⟩
  ·unfold bt1 at h h';split at h
   ·split at h'
    ·exact⟨rfl,rfl⟩
    ·cases h'
   ·cases h
  ·unfold bt1 at h;split at h
   ·exact⟨_,rfl,rfl⟩
   ·cases h
  ·refine⟨b,o,rfl,rfl,fun p hp=>?_,vs,Pz,hc,fun k hk=>hf k (by simpa using hk)⟩
   obtain⟨v,_,rfl⟩:=List.mem_map.1 hp;exact .inl trivial
 have Dd:∀i,∀q,(bt1 b o) i 0=some q->i=0∧q=(b,o):=by
  intro i q h;unfold bt1 at h;split at h
  ·cases h;exact⟨rfl,rfl⟩
  ·cases h
 refine (hs.2 w _ _ _ hi hG (fun k hk=>⟨(hGl k hk).1,fun hx=>(hGl k hk).2 (Ab3 hx)⟩)).mono ?_
 rintro e w' ⟨ws,own,rfl,out⟩
 have hv:=Zu hr out.vals;subst hv;have ho:=out.outs;obtain⟨⟨b',o',h1,h2,zs,h3,h4,h5⟩,_⟩:=(show (∃b' o',(bt1 b o) 0 0=some (b',o')∧(vs'.map PV.sc).length=(vs.map PV.sc).length∧Abl w' (AA (bt1 b o) own (fun _=>False)) own (Ja vals) b' o' (vs'.map .sc))∧_ from ho)
 cases h1;have hz:=Py h3;subst hz;simp only[List.length_map] at h2 h5
 have hL:∀k j,k<w.heap.size->(k≠b∨j<o∨o+vs.length<=j)->¬Yi (bt1 b o) (.pbox (vs.map .sc)::args) k j:=by
  rintro k j hk Ee ⟨i,p,hp,hq⟩
  rcases hq with⟨x,y,hq,_⟩|⟨y,ps,hq,hy,J5⟩
  ·unfold bt1 at hq;split at hq
   ·rename_i h;cases h
   ·cases hq
  ·obtain⟨rfl,h⟩:=Dd i _ hq;cases h;have:p=.pbox (vs.map .sc):=by simpa using hp.symm
   subst this;rcases J5 with⟨e,B4⟩|e
   ·injection e with e;subst e;rw[List.length_map] at B4;rcases Ee with h|h|h
    ·exact h rfl
    ·omega
    ·omega
   ·cases e
 refine⟨rfl,h2,h4,fun j hj=>h5 j (by omega),out.os,out.tape,out.output,out.ext.size,out.ext.bs b hb,fun k hk Ee=>out.ext.keep k hk fun hx=>Ee (Ab3 hx),fun j hj=>(out.rng b j hb (hL b j hb (.inr hj))).1,fun j hj=>(out.rng b j hb (hL b j hb (.inr hj))).2⟩
end
section
open Go.IntKind (wrap)
open Go.RowKit
theorem Md {w w':World}{Y:Nat->Prop}{bt:Ud}{args:List PV}{v:Value}(hb:Below w.heap.size w w')(ho:Q4 w' (AA bt (fun _=>none) Y) (fun _=>none) bt (Ja [.sc v]) 0 args []):
  Out w w' Y bt args (fun _=>none) ⟨[.sc v],[]⟩ [v] where
 os:=hb.os
 tape:=hb.tape
 output:=hb.output
 ext:=⟨hb.size,fun b h _=>hb.block b h,fun b h=>Fz.same (hb.block b h)⟩
 rng:=fun b j h _=>⟨by unfold World.cell?;simp only[hb.block b h],by unfold World.frozen?;simp only[hb.block b h]⟩
 vals:=⟨Ar.sc v,trivial⟩
 outs:=ho
 fresh:=fun j b o h=>by cases h
 inj:=fun j j' b o o' h=>by cases h
end
section
open Go.Proofs.Tryd (prog)
open Go.IntKind (wrap)
set_option maxRecDepth 1000000
open Go.RowKit
theorem UH (G:R0)(args:List PV)(res:Ay)(h:Alf args=some res):Cy G prog 40 args res:=by
 refine⟨⟨_,Tryd.func40,by kernel_rfl⟩,fun w Y bt us hi _ _=>?_⟩
 unfold Alf at h;split at h
 rotate_left
 ·cases h
 rename_i s c;cases h;have ps:=hi.args
 match us,ps with
 |[u1,u2],ps=>
  obtain⟨⟨_,p1⟩,⟨_,p2⟩,_⟩:=ps;have e1:u1=.string s:=Ar.val (show Ar w _ (.sc (.string s)) u1 from p1)
  have e2:u2=.int .u8 c:=Ar.val (show Ar w _ (.sc (.int .u8 c)) u2 from p2)
  subst e1 e2
  have walk:Calls prog 40 #[.string s,.int .u8 c] w fun e w'=>e=.returned (.int .i64 (Lib.indexByte s.data.toList c.toNat.toUInt8))∧w'=w:=by
   go_enter Tryd.func40,Tryd.ntmps40
   go_wp2
   rw[run_callFunc_extern Tryd.func55 (by kernel_rfl) (by kernel_rfl) (by kernel_rfl) (e:=Extern.BytealgIndexByte.indexByte) (by kernel_rfl),Lib.run_indexByteString]
   simp only[Result.andThen];rw[Oper.upon_value]
   go_wp2
   go_ret
   exact⟨rfl,rfl⟩
  refine walk.mono ?_
  rintro e w' ⟨rfl,rfl⟩
  exact⟨[.int .i64 (Lib.indexByte s.data.toList c.toNat.toUInt8)],fun _=>none,rfl,Md (Below.refl _ _) rfl⟩
 |[],ps=>exact ps.elim
 |[_],ps=>exact ps.2.elim
 |_::_::_::_,ps=>exact ps.2.2.elim
theorem Aap {p:ByteArray}(h:p.size=1):p=⟨#[p[0]!]⟩:=by
 obtain⟨⟨l⟩⟩:=p
 match l,h with
 |[x],_=>rfl
theorem VU (G:R0)(args:List PV)(res:Ay)(h:Ajo args=some res):Cy G prog 99 args res:=by
 refine⟨⟨_,Tryd.func99,by kernel_rfl⟩,fun w Y bt us hi _ _=>?_⟩
 unfold Ajo at h;split at h
 rotate_left
 ·cases h
 rename_i s p;cases hq:Nat.beq p.size 1
 ·rw[hq] at h;cases h
 rw[hq,cond_true] at h;cases h;have hp:=Aap (Nat.eq_of_beq_eq_true hq);generalize p[0]!=c at hp ⊢;subst hp;have ps:=hi.args
 match us,ps with
 |[u1,u2],ps=>
  obtain⟨⟨_,p1⟩,⟨_,p2⟩,_⟩:=ps;have e1:u1=.string s:=Ar.val (show Ar w _ (.sc (.string s)) u1 from p1)
  have e2:u2=.string ⟨#[c]⟩:=Ar.val (show Ar w _ (.sc (.string ⟨#[c]⟩)) u2 from p2)
  subst e1 e2
  have walk:Calls prog 99 #[.string s,.string ⟨#[c]⟩] w fun e w'=>e=.returned (.int .i64 (Lib.countByte s.data.toList c))∧w'=w:=by
   go_enter Tryd.func99,Tryd.ntmps99
   go_wp2
   rw[run_callFunc_extern Tryd.func110 (by kernel_rfl) (by kernel_rfl) (by kernel_rfl) (e:=Extern.BytealgCount.count) (by kernel_rfl),Lib.run_countString]
   simp only[Result.andThen];rw[Oper.upon_value]
   go_wp2
   go_ret
   exact⟨rfl,rfl⟩
  refine walk.mono ?_
  rintro e w' ⟨rfl,rfl⟩
  exact⟨[.int .i64 (Lib.countByte s.data.toList c)],fun _=>none,rfl,Md (Below.refl _ _) rfl⟩
 |[],ps=>exact ps.elim
 |[_],ps=>exact ps.2.elim
 |_::_::_::_,ps=>exact ps.2.2.elim
end
section
open Go.IntKind (wrap)
set_option maxRecDepth 100000
theorem Amv (a b:Nat)(ha:a<4294967296)(hb:b<4294967296):bits .or .u32 (a:Int)(b:Int)=((a ||| b:Nat):Int):=by
 have hx:a ||| b<2 ^ 32:=Nat.or_lt_two_pow (by omega) (by omega)
 have h1:(BitVec.ofInt 32 (a:Int)).toNat=a:=by
  rw[BitVec.ofInt_natCast,BitVec.toNat_ofNat];exact Nat.mod_eq_of_lt (by omega)
 have h2:(BitVec.ofInt 32 (b:Int)).toNat=b:=by
  rw[BitVec.ofInt_natCast,BitVec.toNat_ofNat];exact Nat.mod_eq_of_lt (by omega)
 show IntKind.u32.wrap ((BitVec.ofInt 32 (a:Int) ||| BitVec.ofInt 32 (b:Int)).toNat:Int)=_;rw[BitVec.toNat_or,h1,h2];simp only[wrap,IntKind.bits,IntKind.signed,Zzs,Bool.false_eq_true,if_false];omega
theorem Asd (a b:Nat)(ha:a<4294967296)(hb:b<4294967296):bits .and .u32 (a:Int)(b:Int)=((a &&& b:Nat):Int):=by
 have hx:a &&& b<2 ^ 32:=Nat.and_lt_two_pow _ (by omega)
 have h1:(BitVec.ofInt 32 (a:Int)).toNat=a:=by
  rw[BitVec.ofInt_natCast,BitVec.toNat_ofNat];exact Nat.mod_eq_of_lt (by omega)
 have h2:(BitVec.ofInt 32 (b:Int)).toNat=b:=by
  rw[BitVec.ofInt_natCast,BitVec.toNat_ofNat];exact Nat.mod_eq_of_lt (by omega)
 show IntKind.u32.wrap ((BitVec.ofInt 32 (a:Int) &&& BitVec.ofInt 32 (b:Int)).toNat:Int)=_;rw[BitVec.toNat_and,h1,h2];simp only[wrap,IntKind.bits,IntKind.signed,Zzs,Bool.false_eq_true,if_false];omega
def Tl (a b c:Int):List Int:=[Ho (a / 4),Ho (a % 4*16+b / 16),Ho (b % 16*4+c / 64),Ho (c % 64)]
abbrev Agu (a b c:Int):Int:=bits .or .u32 (bits .or .u32 (a % 4294967296*65536 % 4294967296) (b % 4294967296*256 % 4294967296)) (c % 4294967296)
theorem YI {a b c:Int}(h:Dq [a,b,c]):Agu a b c=a*65536+b*256+c:=by
 obtain⟨ha,h⟩:=C7 h;obtain⟨hb,h⟩:=C7 h;obtain⟨hc,h⟩:=C7 h;obtain⟨a,rfl⟩:=Int.eq_ofNat_of_zero_le ha.1;obtain⟨b,rfl⟩:=Int.eq_ofNat_of_zero_le hb.1;obtain⟨c,rfl⟩:=Int.eq_ofNat_of_zero_le hc.1;have e1:(a:Int) % 4294967296*65536 % 4294967296=((a*65536:Nat):Int):=by omega
 have e2:(b:Int) % 4294967296*256 % 4294967296=((b*256:Nat):Int):=by omega
 have e3:(c:Int) % 4294967296=(c:Int):=by omega
 show bits .or .u32 (bits .or .u32 _ _) _=_;rw[e1,e2,e3,Amv _ _ (by omega) (by omega)]
 have h1:a*65536 ||| b*256=a*65536+b*256:=by
  have:=Nat.shiftLeft_add_eq_or_of_lt (show b*256<2 ^ 16 by omega) a
  rw[Nat.shiftLeft_eq,show (2:Nat) ^ 16=65536 from rfl] at this
  exact this.symm
 rw[h1,Amv _ _ (by omega) (by omega)]
 have h2:a*65536+b*256 ||| c=a*65536+b*256+c:=by
  have:=Nat.shiftLeft_add_eq_or_of_lt (show c<2 ^ 8 by omega) (a*256+b)
  rw[Nat.shiftLeft_eq] at this;have e:(a*256+b)*2 ^ 8=a*65536+b*256:=by omega
  rw[e] at this;exact this.symm
 rw[h2];omega
theorem A1q {a b c:Int}(h:Dq [a,b,c]) (j:Nat)(hj:j<4):∃q,0<=q∧q<64∧bits .and .u32 (Agu a b c / 2 ^ (18-6*j)) 63=q∧(Tl a b c)[j]?=some (Ho q):=by
 rw[YI h];obtain⟨ha,h⟩:=C7 h;obtain⟨hb,h⟩:=C7 h;obtain⟨hc,h⟩:=C7 h
 have key:∀x:Int,0<=x->x<4294967296->bits .and .u32 x 63=x % 64:=by
  intro x h0 h1;obtain⟨n,rfl⟩:=Int.eq_ofNat_of_zero_le h0;have:=Asd n 63 (by omega) (by omega)
  rw[show ((63:Nat):Int)=63 from rfl] at this
  show bits BinOp.and IntKind.u32 (n:Int) 63=(n:Int) % 64;rw[this,show (63:Nat)=2 ^ 6-1 by decide,Nat.and_two_pow_sub_one_eq_mod n 6]
  omega
 match j,hj with
 |0,_=>
  refine⟨_,?_,?_,key _ ?_ ?_,?_⟩
  ·show 0<=(a*65536+b*256+c) / 262144 % 64;omega
  ·show (a*65536+b*256+c) / 262144 % 64<64;omega
  ·show 0<=(a*65536+b*256+c) / 262144;omega
  ·show (a*65536+b*256+c) / 262144<_;omega
  ·show some (Ho _)=some (Ho ((a*65536+b*256+c) / 262144 % 64))
   congr 2;omega
 |1,_=>
  refine⟨_,?_,?_,key _ ?_ ?_,?_⟩
  ·show 0<=(a*65536+b*256+c) / 4096 % 64;omega
  ·show (a*65536+b*256+c) / 4096 % 64<64;omega
  ·show 0<=(a*65536+b*256+c) / 4096;omega
  ·show (a*65536+b*256+c) / 4096<_;omega
  ·show some (Ho _)=some (Ho ((a*65536+b*256+c) / 4096 % 64))
   congr 2;omega
 |2,_=>
  refine⟨_,?_,?_,key _ ?_ ?_,?_⟩
  ·show 0<=(a*65536+b*256+c) / 64 % 64;omega
  ·show (a*65536+b*256+c) / 64 % 64<64;omega
  ·show 0<=(a*65536+b*256+c) / 64;omega
  ·show (a*65536+b*256+c) / 64<_;omega
  ·show some (Ho _)=some (Ho ((a*65536+b*256+c) / 64 % 64))
   congr 2;omega
 |3,_=>
  refine⟨_,?_,?_,key _ ?_ ?_,?_⟩
  ·show 0<=(a*65536+b*256+c) / 1 % 64;omega
  ·show (a*65536+b*256+c) / 1 % 64<64;omega
  ·show 0<=(a*65536+b*256+c) / 1;omega
  ·show (a*65536+b*256+c) / 1<_;omega
  ·show some (Ho _)=some (Ho ((a*65536+b*256+c) / 1 % 64))
   congr 2;omega
def BU:ByteArray:=⟨#[65,66,67,68,69,70,71,72,73,74,75,76,77,78,79,80,81,82,83,84,85,86,87,88,89,90,97,98,99,100,101,102,103,104,105,106,107,108,109,110,111,112,113,114,115,116,117,118,119,120,121,122,48,49,50,51,52,53,54,55,56,57,45,95]⟩
theorem UQ:BU.size=64:=rfl
theorem Aal:∀n:Fin 64,((BU[n.val]'n.isLt).toNat:Int)=Ho (n.val:Int):=by decide +kernel
theorem Adz {q:Int}(h0:0<=q)(h1:q<64)(h:q.toNat<BU.size):((BU[q.toNat]'h).toNat:Int)=Ho q:=by
 have:=Aal ⟨q.toNat,h⟩;refine this.trans (congrArg Ho ?_);show (q.toNat:Int)=q;omega
theorem Asc {q:Int}(h0:0<=q)(h1:q<64):0<=Ho q∧Ho q<=255:=by
 unfold Ho;split
 ·omega
 split
 ·omega
 split
 ·omega
 split<;>omega
theorem Ak4 {a b c:Int}(h:Dq [a,b,c]):Dq (Tl a b c):=by
 obtain⟨ha,h⟩:=C7 h;obtain⟨hb,h⟩:=C7 h;obtain⟨hc,h⟩:=C7 h;intro x hx;simp[Tl] at hx;rcases hx with rfl|rfl|rfl|rfl<;>apply Asc<;>omega
theorem Kc {a b:List Int}(ha:Dq a)(hb:Dq b):Dq (a++b):=by
 intro x hx;rcases List.mem_append.1 hx with h|h
 ·exact ha x h
 ·exact hb x h
theorem Ab2 {a:List Int}(ha:Dq a)(k:Nat):Dq (a.take k):=fun x hx=>ha x (List.mem_of_mem_take hx)
theorem Acv {a:List Int}(ha:Dq a)(k:Nat):Dq (a.drop k):=fun x hx=>ha x (List.mem_of_mem_drop hx)
theorem UF:∀(l:List Int),Dq l->l≠[]->∃a b c,Dq [a,b,c]∧Wu l=(Tl a b c).take (min l.length 3+1)++Wu (l.drop (min l.length 3))∧[a,b,c].take (min l.length 3)=l.take (min l.length 3)∧(l.length<3->c=0)∧(l.length<2->b=0)
 |[],_,h=>absurd rfl h
 |[a],h,_=>by
  have:=C7 h;refine⟨a,0,0,?_,?_,rfl,fun _=>rfl,fun _=>rfl⟩
  ·intro x hx;simp at hx;rcases hx with rfl|rfl<;>omega
  ·simp[Wu,Tl]
 |[a,b],h,_=>by
  have h1:=C7 h;have h2:=C7 h1.2;refine⟨a,b,0,?_,?_,rfl,fun _=>rfl,fun h=>?_⟩
  ·intro x hx;simp at hx;rcases hx with rfl|rfl|rfl<;>omega
  ·simp[Wu,Tl]
  ·simp at h
 |a::b::c::r,h,_=>by
  have e:min (a::b::c::r).length 3=3:=by simp
  rw[e];refine⟨a,b,c,?_,?_,rfl,fun h=>?_,fun h=>?_⟩
  ·intro x hx;refine h x ?_;simp at hx ⊢;rcases hx with rfl|rfl|rfl<;>simp
  ·simp[Wu,Tl]
  ·simp at h;omega
  ·simp at h;omega
end
section
open Go.Proofs.Tryd (prog)
open Go.IntKind (wrap)
set_option maxRecDepth 1000000
open Go.Shelf Go.RowKit Go.Lib
def LR:Go.Shelf.Ren:=⟨fun|119=>117|120=>113|137=>27|151=>103|152=>112|160=>66|167=>24|168=>89|169=>25|197=>102|217=>40|224=>96|225=>95|227=>82|228=>101|231=>80|232=>81|233=>83|234=>84|235=>85|236=>86|240=>38|242=>106|260=>111|266=>55|271=>104|276=>54|278=>116|n=>n,fun|0=>0|3=>3|4=>4|5=>5|9=>9|20=>20|21=>21|37=>22|46=>56|51=>55|70=>51|72=>53|75=>58|80=>60|105=>139|116=>124|117=>125|119=>86|124=>128|127=>73|138=>88|139=>89|164=>97|n=>n,fun|3=>0|4=>1|n=>n⟩
theorem Yg:Lays.n167 prog LR:={
 mixed:=by kernel_rfl
 f167:=Tryd.func24.trans (congrArg some (by kernel_rfl))
 f240:=Tryd.func38.trans (congrArg some (by kernel_rfl))
 f276:=Tryd.func54.trans (congrArg some (by kernel_rfl))
 t0:=Tryd.underlying0
 a0:=Tryd.isAgg0
 z0:=Tryd.sizeOf0
 v0:=Tryd.zeroValue0
 t4:=Tryd.underlying4
 a4:=Tryd.isAgg4
 z4:=Tryd.sizeOf4
 v4:=Tryd.zeroValue4
 t5:=Tryd.underlying5
 a5:=Tryd.isAgg5
 z5:=Tryd.sizeOf5
 v5:=Tryd.zeroValue5
 t9:=Tryd.underlying9
 a9:=Tryd.isAgg9
 z9:=Tryd.sizeOf9
 v9:=Tryd.zeroValue9
 t20:=Tryd.underlying20
 a20:=Tryd.isAgg20
 z20:=Tryd.sizeOf20
 v20:=Tryd.zeroValue20
 t37:=Tryd.underlying22
 a37:=Tryd.isAgg22
 z37:=Tryd.sizeOf22
 v37:=Tryd.zeroValue22
 t70:=Tryd.underlying51
 a70:=Tryd.isAgg51
 z70:=Tryd.sizeOf51
 v70:=Tryd.zeroValue51
 t72:=Tryd.underlying53
 a72:=Tryd.isAgg53
 z72:=Tryd.sizeOf53
 v72:=Tryd.zeroValue53
 t75:=Tryd.underlying58
 a75:=Tryd.isAgg58
 z75:=Tryd.sizeOf58
 v75:=Tryd.zeroValue58
 t164:=Tryd.underlying97
 Azk:=Tryd.isAgg97
 z164:=Tryd.sizeOf97
 v164:=Tryd.zeroValue97 }
theorem RI:Lays.n168 prog LR:={
 mixed:=by kernel_rfl
 f168:=Tryd.func89.trans (congrArg some (by kernel_rfl))
 f240:=Tryd.func38.trans (congrArg some (by kernel_rfl))
 f242:=Tryd.func106.trans (congrArg some (by kernel_rfl))
 f276:=Tryd.func54.trans (congrArg some (by kernel_rfl))
 f278:=Tryd.func116.trans (congrArg some (by kernel_rfl))
 t0:=Tryd.underlying0
 a0:=Tryd.isAgg0
 z0:=Tryd.sizeOf0
 v0:=Tryd.zeroValue0
 t3:=Tryd.underlying3
 a3:=Tryd.isAgg3
 z3:=Tryd.sizeOf3
 v3:=Tryd.zeroValue3
 t4:=Tryd.underlying4
 a4:=Tryd.isAgg4
 z4:=Tryd.sizeOf4
 v4:=Tryd.zeroValue4
 t5:=Tryd.underlying5
 a5:=Tryd.isAgg5
 z5:=Tryd.sizeOf5
 v5:=Tryd.zeroValue5
 t9:=Tryd.underlying9
 a9:=Tryd.isAgg9
 z9:=Tryd.sizeOf9
 v9:=Tryd.zeroValue9
 t20:=Tryd.underlying20
 a20:=Tryd.isAgg20
 z20:=Tryd.sizeOf20
 v20:=Tryd.zeroValue20
 t21:=Tryd.underlying21
 a21:=Tryd.isAgg21
 z21:=Tryd.sizeOf21
 v21:=Tryd.zeroValue21
 t37:=Tryd.underlying22
 a37:=Tryd.isAgg22
 z37:=Tryd.sizeOf22
 v37:=Tryd.zeroValue22
 t46:=Tryd.underlying56
 a46:=Tryd.isAgg56
 z46:=Tryd.sizeOf56
 v46:=Tryd.zeroValue56
 t51:=Tryd.underlying55
 a51:=Tryd.isAgg55
 z51:=Tryd.sizeOf55
 v51:=Tryd.zeroValue55
 t70:=Tryd.underlying51
 a70:=Tryd.isAgg51
 z70:=Tryd.sizeOf51
 v70:=Tryd.zeroValue51
 t72:=Tryd.underlying53
 a72:=Tryd.isAgg53
 z72:=Tryd.sizeOf53
 v72:=Tryd.zeroValue53
 t75:=Tryd.underlying58
 a75:=Tryd.isAgg58
 z75:=Tryd.sizeOf58
 v75:=Tryd.zeroValue58
 t164:=Tryd.underlying97
 Azk:=Tryd.isAgg97
 z164:=Tryd.sizeOf97
 v164:=Tryd.zeroValue97 }
theorem Zg:Lays.n169 prog LR:={
 mixed:=by kernel_rfl
 f169:=Tryd.func25.trans (congrArg some (by kernel_rfl))
 t0:=Tryd.underlying0
 a0:=Tryd.isAgg0
 z0:=Tryd.sizeOf0
 v0:=Tryd.zeroValue0
 t3:=Tryd.underlying3
 a3:=Tryd.isAgg3
 z3:=Tryd.sizeOf3
 v3:=Tryd.zeroValue3
 t9:=Tryd.underlying9
 a9:=Tryd.isAgg9
 z9:=Tryd.sizeOf9
 v9:=Tryd.zeroValue9
 t37:=Tryd.underlying22
 a37:=Tryd.isAgg22
 z37:=Tryd.sizeOf22
 v37:=Tryd.zeroValue22
 t70:=Tryd.underlying51
 a70:=Tryd.isAgg51
 z70:=Tryd.sizeOf51
 v70:=Tryd.zeroValue51
 t72:=Tryd.underlying53
 a72:=Tryd.isAgg53
 z72:=Tryd.sizeOf53
 v72:=Tryd.zeroValue53
 t127:=Tryd.underlying73
 A7b:=Tryd.isAgg73
 z127:=Tryd.sizeOf73
 v127:=Tryd.zeroValue73 }
theorem OY:Lays.n160 prog LR:={
 mixed:=by kernel_rfl
 f119:=Tryd.func117.trans (congrArg some (by kernel_rfl))
 f120:=Tryd.func113.trans (congrArg some (by kernel_rfl))
 f137:=Tryd.func27.trans (congrArg some (by kernel_rfl))
 f151:=Tryd.func103.trans (congrArg some (by kernel_rfl))
 f152:=Tryd.func112.trans (congrArg some (by kernel_rfl))
 f160:=Tryd.func66.trans (congrArg some (by kernel_rfl))
 f197:=Tryd.func102.trans (congrArg some (by kernel_rfl))
 f217:=Tryd.func40.trans (congrArg some (by kernel_rfl))
 f224:=Tryd.func96.trans (congrArg some (by kernel_rfl))
 f225:=Tryd.func95.trans (congrArg some (by kernel_rfl))
 f227:=Tryd.func82.trans (congrArg some (by kernel_rfl))
 f228:=Tryd.func101.trans (congrArg some (by kernel_rfl))
 f231:=Tryd.func80.trans (congrArg some (by kernel_rfl))
 f232:=Tryd.func81.trans (congrArg some (by kernel_rfl))
 f233:=Tryd.func83.trans (congrArg some (by kernel_rfl))
 f234:=Tryd.func84.trans (congrArg some (by kernel_rfl))
 f235:=Tryd.func85.trans (congrArg some (by kernel_rfl))
 f236:=Tryd.func86.trans (congrArg some (by kernel_rfl))
 f260:=Tryd.func111.trans (congrArg some (by kernel_rfl))
 f266:=Tryd.func55.trans (congrArg some (by kernel_rfl))
 f271:=Tryd.func104.trans (congrArg some (by kernel_rfl))
 t0:=Tryd.underlying0
 a0:=Tryd.isAgg0
 z0:=Tryd.sizeOf0
 v0:=Tryd.zeroValue0
 t3:=Tryd.underlying3
 a3:=Tryd.isAgg3
 z3:=Tryd.sizeOf3
 v3:=Tryd.zeroValue3
 t4:=Tryd.underlying4
 a4:=Tryd.isAgg4
 z4:=Tryd.sizeOf4
 v4:=Tryd.zeroValue4
 t5:=Tryd.underlying5
 a5:=Tryd.isAgg5
 z5:=Tryd.sizeOf5
 v5:=Tryd.zeroValue5
 t9:=Tryd.underlying9
 a9:=Tryd.isAgg9
 z9:=Tryd.sizeOf9
 v9:=Tryd.zeroValue9
 t21:=Tryd.underlying21
 a21:=Tryd.isAgg21
 z21:=Tryd.sizeOf21
 v21:=Tryd.zeroValue21
 t46:=Tryd.underlying56
 a46:=Tryd.isAgg56
 z46:=Tryd.sizeOf56
 v46:=Tryd.zeroValue56
 t105:=Tryd.underlying139
 A7n:=Tryd.isAgg139
 z105:=Tryd.sizeOf139
 v105:=Tryd.zeroValue139
 t116:=Tryd.underlying124
 A77:=Tryd.isAgg124
 z116:=Tryd.sizeOf124
 t117:=Tryd.underlying125
 A7y:=Tryd.isAgg125
 z117:=Tryd.sizeOf125
 v117:=Tryd.zeroValue125
 t119:=Tryd.underlying86
 a119:=Tryd.isAgg86
 z119:=Tryd.sizeOf86
 t124:=Tryd.underlying128
 A7s:=Tryd.isAgg128
 z124:=Tryd.sizeOf128
 v124:=Tryd.zeroValue128
 t138:=Tryd.underlying88
 a138:=Tryd.isAgg88
 z138:=Tryd.sizeOf88
 v138:=Tryd.zeroValue88
 t139:=Tryd.underlying89
 a139:=Tryd.isAgg89
 z139:=Tryd.sizeOf89
 v139:=Tryd.zeroValue89
 g3:=by kernel_rfl
 g4:=by kernel_rfl }
theorem Qa:Builder.Extra prog LR:={
 sizeBuilder:=by kernel_rfl
 liesBuilder:=by kernel_rfl
 t5:=Tryd.underlying5
 a5:=Tryd.isAgg5
 z5:=Tryd.sizeOf5
 v5:=Tryd.zeroValue5
 infoByte:=by kernel_rfl
 cellsByte:=by kernel_rfl
 sizeByte:=by kernel_rfl
 neB5:=by decide }
end
section
open Go.IntKind (wrap)
open Go.RowKit Go.Lib
section
variable {P:Program}
theorem VX (w:World)(dT sT ty elem:TypeId)(i:TypeInfo)(b o dLen dCap:Nat)(a:Addr)(sLen sCap k:Nat)(cs:List Value)
  (hu:P.underlying dT=some (.slice elem)) (hq:P.info? elem=some i)(hk:k=Nat.min sLen dLen)(hn:cs.length=k*i.size)
  (S5:∀j v,cs[j]?=some v->w.cell? (a.add j)=some v) (hc:∀j,j<cs.length->(w.cell? ⟨b,o+j,none⟩).isSome=true) (hf:∀j,j<cs.length->w.frozen? ⟨b,o+j,none⟩=false)(h1:∀v∈cs,v.oneCell'=true):
  (Builtin.copy_ #[dT,sT] ty #[.slice (some ⟨b,o,none⟩) dLen dCap,.slice (some a) sLen sCap]).run P w=.ok (goInt k) (w.setCells b o cs):=by
 have hl:=run_loadCells_list (P:=P) w a cs S5;have E8:=run_storeCells_cells (P:=P) b o cs 0 w (by simpa using hc) (by simpa using hf) h1
 simp[Builtin.copy_,run_underlying hu,Builtin.lenOf,Builtin.firstCells,sizeOf,typeInfo,hq,←hk,←hn,hl,E8]
end
end
section
open Go.Proofs.Tryd (prog)
open Go.IntKind (wrap)
set_option maxRecDepth 1000000
open Go.RowKit Go.Lib
abbrev LZ (l:List Int):List Value:=l.map (Value.int .u8)
theorem GQ (a b:List Int):LZ (a++b)=LZ a++LZ b:=List.map_append
theorem Af9 (x:Int):LZ [x]=[Value.int .u8 x]:=rfl
theorem Vl:∀{l:List Int},Dq l->LZ l=Lib.byteCells (l.map fun n=>n.toNat.toUInt8)
 |[],_=>rfl
 |x::l,h=>by
  obtain⟨hx,h⟩:=C7 h;show Value.int .u8 x::LZ l=Value.int .u8 ((x.toNat.toUInt8).toNat:Int)::Lib.byteCells (l.map fun n=>n.toNat.toUInt8)
  rw[Vl h]
  congr 2
  have:(x.toNat.toUInt8).toNat=x.toNat:=by
   show x.toNat % 256=x.toNat;omega
  rw[this];omega
def QO (w:World)(l:List Int)(v:Value):Prop:=∃ad cap,v=.slice ad l.length cap∧l.length<=cap∧(l≠[]->∃b o,ad=some ⟨b,o,none⟩∧b<w.heap.size∧∀j x,l[j]?=some x->w.cell? ⟨b,o+j,none⟩=some (.int .u8 x))
theorem CK {T e:TypeId}{B b:Nat}{bs:List Value}{W W':World}(h:Lib.IsBuilderF T e B b bs W)(hb:Below W.heap.size W W'):Lib.IsBuilderF T e B b bs W':=by
 rcases h with h|h
 ·have B4:=h.lt;obtain⟨hB,v,hv,Fa,Ee⟩:=h;exact .inl ⟨hB,v,(hb.block b B4).trans hv,Fa.kept (row:=none) ⟨hb.os,hb.tape,hb.output,hb.size,fun k hk _=>hb.block k hk⟩ (Classical.em _),Ee⟩
 ·have B4:=h.lt;obtain⟨hB,v,hv,Fa,Ee⟩:=h;exact .inr ⟨hB,v,(hb.block b B4).trans hv,Fa.kept (row:=none) ⟨hb.os,hb.tape,hb.output,hb.size,fun k hk _=>hb.block k hk⟩ (Classical.em _),Ee⟩
theorem Kb {B:Nat}{a:World}(b:Nat)(hb:B<=b):∀(vs:List Value)(o:Nat){w:World},Below B a w->Below B a (w.setCells b o vs)
 |[],_,_,h=>h
 |v::r,o,w,h=>Kb b hb r (o+1) (h.setCell (p:=⟨b,o,none⟩) hb v)
theorem PI (wr:World)(b o cap:Nat)(l:List Int)(Ee:l≠[]) (hb:b<wr.heap.size)(hc:∀j x,l[j]?=some x->wr.cell? ⟨b,o+j,none⟩=some (.int .u8 x)) (a' b' c':Int)(k:Nat)(hk:k=min l.length 3)(ht:[a',b',c'].take k=l.take k) (h3:l.length<3->c'=0)(h2:l.length<2->b'=0):
  ∃W2,(∀ty,(Builtin.copy_ #[22,22] ty #[.slice (some ⟨wr.heap.size,0,none⟩) 3 3,.slice (some ⟨b,o,none⟩) l.length cap]).run prog (wr.alloc (.cells #[.int .u8 0,.int .u8 0,.int .u8 0] 54))=.ok (goInt k) W2)∧Below wr.heap.size wr W2∧wr.heap.size<W2.heap.size ∧
   W2.cell? ⟨wr.heap.size,0,none⟩=some (.int .u8 a')∧W2.cell? ⟨wr.heap.size,1,none⟩=some (.int .u8 b')∧W2.cell? ⟨wr.heap.size,2,none⟩=some (.int .u8 c'):=by
 obtain⟨i0,hi0,Fu,OG⟩:=info_parts Qa.infoByte;have Dd:(l.take k).length=k:=by simp;omega
 have VJ:∀k,k<3->(wr.alloc (.cells #[.int .u8 0,.int .u8 0,.int .u8 0] 54)).cell? ⟨wr.heap.size,k,none⟩=some (.int .u8 0):=by
  intro k hk;simp only[World.cell?,World.alloc];simp
  match k,hk with
  |0,_=>rfl
  |1,_=>rfl
  |2,_=>rfl
 refine⟨(wr.alloc (.cells #[.int .u8 0,.int .u8 0,.int .u8 0] 54)).setCells wr.heap.size 0 (LZ (l.take k)),fun ty=>?_,?_,?_,?_⟩
 ·refine VX _ _ _ ty 5 i0 wr.heap.size 0 3 3 ⟨b,o,none⟩ l.length cap k (LZ (l.take k)) ?_ hi0 ?_ ?_ ?_ ?_ ?_ ?_
  ·exact Tryd.underlying22
  ·exact hk
  ·rw[OG.1];simp;omega
  ·intro j v hv
   have e0:(⟨b,o,none⟩:Addr).add j=⟨b,o+j,none⟩:=by
    unfold Addr.add;split
    ·subst j;rfl
    ·rfl
   rw[e0];rw[List.getElem?_map] at hv;obtain⟨x,hx,rfl⟩:=Option.map_eq_some_iff.1 hv
   have Oq:l[j]?=some x:=by
    rw[List.getElem?_take] at hx;split at hx
    ·exact hx
    ·cases hx
   exact Lib.cell?_alloc_some _ (hc j x Oq)
  ·intro j hj;rw[List.length_map,Dd] at hj;rw[VJ _ (by omega)]
   rfl
  ·intro j hj;exact World.frozen?_alloc_new wr _ _ _
  ·intro v hv;obtain⟨x,_,rfl⟩:=List.mem_map.1 hv;rfl
 ·exact Kb _ (Nat.le_refl _) _ _ ((Below.refl _ wr).alloc (Nat.le_refl _) _)
 ·have:=(Kb (B:=0) wr.heap.size (Nat.zero_le _) (LZ (l.take k)) 0 (Below.refl 0 (wr.alloc (.cells #[.int .u8 0,.int .u8 0,.int .u8 0] 54)))).size;have e:(wr.alloc (.cells #[.int .u8 0,.int .u8 0,.int .u8 0] 54)).heap.size=wr.heap.size+1:=Array.size_push _;rw[e] at this;omega
 ·have D6:k=1∨k=2∨k=3:=by
   have:=List.length_pos_iff.2 Ee;omega
  have Z2:∀i,i<k->∀x,[a',b',c'][i]?=some x->((wr.alloc (.cells #[.int .u8 0,.int .u8 0,.int .u8 0] 54)).setCells wr.heap.size 0 (LZ (l.take k))).cell? ⟨wr.heap.size,i,none⟩=some (.int .u8 x):=by
   intro i hi x hx
   have h:=World.cell?_setCells_in wr.heap.size (LZ (l.take k)) 0 (wr.alloc (.cells #[.int .u8 0,.int .u8 0,.int .u8 0] 54)) (fun j hj=>by
    rw[List.length_map,Dd] at hj;rw[VJ _ (by omega)]
    rfl) i (by rw[List.length_map,Dd];exact hi)
   rw[Zzd] at h;rw[h]
   have e:(LZ (l.take k))[i]?=some (.int .u8 x):=by
    rw[←ht,List.getElem?_map,List.getElem?_take_of_lt hi,hx];rfl
   rw[List.getElem?_eq_getElem (by rw[List.length_map,Dd];exact hi)] at e
   exact e
  have Rq:∀i,k<=i->i<3->((wr.alloc (.cells #[.int .u8 0,.int .u8 0,.int .u8 0] 54)).setCells wr.heap.size 0 (LZ (l.take k))).cell? ⟨wr.heap.size,i,none⟩=some (.int .u8 0):=by
   intro i hi h3;rw[World.cell?_setCells_out _ _ _ _ _ (fun _ _=>Or.inr (by rw[List.length_map,Dd];show 0+k<=i;omega))]
   exact VJ i h3
  refine⟨Z2 0 (by omega) _ rfl,?_,?_⟩
  ·by_cases h:1<k
   ·exact Z2 1 h _ rfl
   ·rw[h2 (by omega)];exact Rq 1 (by omega) (by omega)
  ·by_cases h:2<k
   ·exact Z2 2 h _ rfl
   ·rw[h3 (by omega)];exact Rq 2 (by omega) (by omega)
set_option maxHeartbeats 4000000 in
theorem UY (l:List Int)(hb:Dq l)(hl:l.length<=100000000)(u:Value)(w:World)(hu:QO w l u):
    Calls prog 12 #[u] w fun e w'=>e=.returned (.string (Ac (Wu l)))∧Below w.heap.size w w':=by
  have mixed:prog.follows Departure.mixedOrders=true:=by kernel_rfl
  go_enter Tryd.func12,Tryd.ntmps12
  go_wp2
  go_loopw [0] (fun v0 wr=>∃done rest,Wu l=done++Wu rest∧Dq done∧Dq rest∧rest.length<=l.length∧done.length+2*rest.length<=2*l.length∧QO w rest v0∧Lib.IsBuilderF 53 5 w.heap.size w.heap.size (LZ done) wr∧Below w.heap.size w wr) (fun v0 _=>match v0 with | .slice _ n _=>n|_=>0)
  case atStart=>
    exact⟨[],l,rfl,(fun x hx=>by cases hx),hb,Nat.le_refl _,by simp,hu,Lib.IsBuilderF.of (Lib.fresh_isBuilder 53 5 w),(Below.refl _ w).alloc (Nat.le_refl _) _⟩
  case round=>
    obtain⟨done,rest,he,hd,hr,hrl,hdl,⟨ad,cap,rfl,Rj,Cm⟩,hI,hbw⟩:=Alk
    have K1:w.heap.size<=wr.heap.size:=hbw.size
    by_cases hz:rest=[]
    · subst hz
      go_wp2_with (go_at_call 25;refine (Any.Builder_String_any_k Zg Qa w.heap.size w.heap.size (done.map fun n=>n.toNat.toUInt8) _ (by rw[←Vl hd];exact hI) (by omega)).mono ?_)
      rintro e W1 ⟨rfl,_,b1,_⟩
      go_wp2
      go_ret
      refine⟨?_,hbw.trans b1⟩
      rw[he]
      simp[Wu,Ac]
    · obtain⟨b,o,rfl,CZ,Cm⟩:=Cm hz
      have UL:(0:Int)<rest.length:=by have:=List.length_pos_iff.2 hz;omega
      obtain⟨a',b',c',hB3,hen,htk,VJ,CY⟩:=UF rest hr hz
      obtain⟨k,hk⟩:∃k,k=min rest.length 3:=⟨_,rfl⟩
      rw[←hk] at hen htk
      have Dn:(0:Int)<=k∧(k:Int)<=3∧(k:Int)<=rest.length:=by omega
      obtain⟨W2,hcp,hbc,hgs,g0,g1,g2⟩:=PI wr b o cap rest hz (by omega) (fun j x hx=>by rw[hbw.cell (p:=⟨b,o+j,none⟩) CZ];exact Cm j x hx) a' b' c' k hk htk VJ CY
      have hkl:k<=rest.length:=by omega
      have hkp:1<=k:=by have:=List.length_pos_iff.2 hz;omega
      clear hk
      go_wp2
      all_goals
        go_loopw [32] (fun v32 W=>∃j:Nat,v32=.int .i64 j∧j<=k+1∧Lib.IsBuilderF 53 5 w.heap.size w.heap.size (LZ (done++(Tl a' b' c').take j)) W∧Below w.heap.size w W) (fun v32 _=>match v32 with | .int _ n=>(4-n).toNat|_=>0)
        case atStart=>
          exact⟨0,rfl,by omega,by simpa using CK hI hbc,hbw.trans (hbc.mono K1)⟩
        case round=>
          obtain⟨j,rfl,hj,hIj,hbj⟩:=Alk
          by_cases hjk:j<k+1
          · have hj1:(j:Int)<k+1:=by omega
            obtain⟨q,Qt,Q0,hq,hqq⟩:=A1q hB3 j (by omega)
            have ha:=Adz Qt Q0 (by rw[UQ];omega)
            have A4w:(done++(Tl a' b' c').take j).length+1<=140737488355328:=by
              have:=List.length_take_le j (Tl a' b' c')
              rw[List.length_append]
              omega
            have Av4:=hbj.size
            go_wp2_with (go_at_call 24;refine (Any.Builder_WriteByte_k Yg Qa w.heap.size w.heap.size _ _ _ hIj (by rw[List.length_map];exact A4w) Av4).mono ?_)
            rintro e W1 ⟨rfl,h1,b1,k1⟩
            go_wp2
            go_roundw
            case rel=>
              refine⟨j+1,by simp,by omega,?_,hbj.trans b1⟩
              have e1:(Tl a' b' c').take (j+1)=(Tl a' b' c').take j++[Ho q]:=by
                rw[List.take_add_one,hqq];rfl
              rw[e1,←List.append_assoc,GQ,Af9,←ha]
              exact Or.inr h1
            case measure=>
              simp
              omega
          · have hj1:¬((j:Int)<k+1):=by omega
            have A1p:j=k+1:=by omega
            subst A1p
            go_wp2
            refine⟨⟨done++(Tl a' b' c').take (k+1),rest.drop k,?_,Kc hd (Ab2 (Ak4 hB3) _),Acv hr _,?_,?_,?_,hIj,hbj⟩,?_⟩
            · rw[List.append_assoc,←hen];exact he
            · simp;omega
            · have:=List.length_take_le (k+1) (Tl a' b' c')
              rw[List.length_append,List.length_drop]
              omega
            · refine⟨_,_,by rw[List.length_drop],?_,fun Ee=>?_⟩
              · rw[List.length_drop];omega
              have:k<rest.length:=by
                rcases Nat.lt_or_ge k rest.length with h|h
                · exact h
                · exact absurd (List.drop_eq_nil_iff.2 h) Ee
              first
                |(exfalso;omega)
                |(refine⟨b,o+k,rfl,CZ,fun i x hx=>?_⟩
                   rw[List.getElem?_drop] at hx
                   rw[Nat.add_assoc]
                   exact Cm _ _ hx)
            · simp;omega
end
section
open Go.Proofs.Tryd (prog)
open Go.IntKind (wrap)
set_option maxRecDepth 1000000
open Go.RowKit
theorem DE:∀{c:List PV}{l:List Int},LS c=some l->c=Dv .u8 l∧Dq l
 |[],l,h=>by
  cases h;exact⟨rfl,fun x hx=>by cases hx⟩
 |p::c,l,h=>by
  unfold LS at h;split at h
  ·rename_i e;cases e
  ·rename_i n r e;cases e;cases hb:(decide (0<=n)&&decide (n<=255))
   ·rw[hb] at h;cases h
   ·rw[hb,cond_true] at h;simp only[Bool.and_eq_true,decide_eq_true_eq] at hb;cases hr:LS c with
    |none=>rw[hr] at h;cases h
    |some l'=>
     rw[hr] at h;cases h;obtain⟨rfl,h2⟩:=DE hr;refine⟨rfl,fun x hx=>?_⟩
     rcases List.mem_cons.1 hx with rfl|hx
     ·exact hb
     ·exact h2 x hx
  ·cases h
theorem Mw (k:IntKind):∀l:List Int,Dv k l=l.map fun n=>.sc (.int k n)
 |[]=>rfl
 |x::l=>by
  show PV.sc (.int k x)::Dv k l=_;rw[Mw k l];rfl
theorem US {w:World}{A:Nat->Prop}{bt:Bt}{z:Bool}{l:List Int}{u:Value}(h:MD w A bt (.lst z 1 l.length (Dv .u8 l)) u):QO w l u:=by
 have ht:Ar w A (.lst z 1 l.length (Dv .u8 l)) u:=h.2;generalize hc:Dv .u8 l=c at ht;generalize hn:l.length=n at ht;cases ht with
 |lnil=>exact⟨none,0,by rw[hn],by omega,fun Ee=>absurd (List.eq_nil_of_length_eq_zero hn) Ee⟩
 |lemp _ a cap=>exact⟨some a,cap,by rw[hn],by omega,fun Ee=>absurd (List.eq_nil_of_length_eq_zero hn) Ee⟩
 |lst _ _ _ a cap f hs hb hA hn' Cm h1 hr=>
  obtain⟨b,o,s⟩:=a;cases hs;refine⟨some ⟨b,o,none⟩,cap,by rw[hn],by omega,fun _=>⟨b,o,rfl,hb,fun j x hx=>?_⟩⟩
  have e:c[j]?=some (.sc (.int .u8 x)):=by rw[←hc,Mw,List.getElem?_map,hx];rfl
  have h2:=Cm j _ e;rw[(hr j _ e).val] at h2
  have e0:(⟨b,o,none⟩:Addr).add j=⟨b,o+j,none⟩:=by
   unfold Addr.add;split
   ·subst j;rfl
   ·rfl
  rw[e0] at h2;exact h2
theorem UC (G:R0)(args:List PV)(res:Ay)(h:Al2 args=some res):Cy G prog 12 args res:=by
 refine⟨⟨_,Tryd.func12,by kernel_rfl⟩,fun w Y bt us hi _ _=>?_⟩
 unfold Al2 at h;split at h
 rotate_left
 ·cases h
 rename_i z n c;cases hq:(Nat.beq c.length n&&Nat.ble n 100000000)
 ·rw[hq] at h;cases h
 rw[hq,cond_true] at h;simp only[Bool.and_eq_true] at hq;have hn:=Nat.eq_of_beq_eq_true hq.1;have hm:=Nat.le_of_ble_eq_true hq.2;split at h
 rotate_left
 ·cases h
 rename_i l hl;cases h;obtain⟨rfl,hB⟩:=DE hl
 have Dd:l.length=n:=by
  rw[←hn,Mw,List.length_map]
 subst Dd;have ps:=hi.args
 match us,ps with
 |[u1],ps=>
  refine (UY l hB hm u1 w (US ps.1)).mono ?_
  rintro e w' ⟨rfl,hb⟩
  exact⟨[.string (Ac (Wu l))],fun _=>none,rfl,Md hb rfl⟩
 |[],ps=>exact ps.elim
 |_::_::_,ps=>exact ps.2.elim
end
section
open Go.Proofs.Tryd (prog)
open Go.IntKind (wrap)
set_option maxRecDepth 100000
abbrev E1:FuncId:=77
theorem Mc {xs:FuncId->Option (List PV->Option Ay)} (fu d:Nat)(a0 a1:ByteArray):Ae (CX xs) prog fu (d+1) E1 [.sc (.string a0),.sc (.string a1)]=(fun (call:Ax)=>Bh (decide ((↑(ByteArray.size a0):Int)>=(↑(ByteArray.size a1):Int))) (Bi (decide (Int.toNat (↑(ByteArray.size a1):Int)<=ByteArray.size a0))<|Ab (ByteArray.extract a0 0 (Int.toNat (↑(ByteArray.size a1):Int))) fun x1=>some (Ay.mk [.sc (.bool (Array.toList (ByteArray.data x1)==Array.toList (ByteArray.data a1)))] [])) (some (Ay.mk [.sc (.bool false)] []))) (Ae (CX xs) prog fu d):=by kernel_rfl
abbrev Jm:FuncId:=87
theorem Qk {xs:FuncId->Option (List PV->Option Ay)} (fu d:Nat)(a0 a1:ByteArray):Ae (CX xs) prog fu (d+1) Jm [.sc (.string a0),.sc (.string a1)]=(fun (call:Ax)=>Ah (call 77 [.sc (.string a0),.sc (.string a1)]) fun x1 x2=>Ad x2<|Aa x1 fun x3 x4=>Aq x3 fun x5=>Ad x4<|some (Ay.mk [.sc (.bool x5)] [])) (Ae (CX xs) prog fu d):=by kernel_rfl
abbrev Gt:FuncId:=90
theorem L0 {xs:FuncId->Option (List PV->Option Ay)} (fu d:Nat)(Br:ByteArray)(Bl:Int):Ae (CX xs) prog fu (d+1) Gt [.pbox [.sc (.string Br),.sc (.int .i64 Bl)]]=(fun (call:Ax)=>Bh (decide (Bl<(↑(ByteArray.size Br):Int))) (Bi (decide (0<=Bl))<|Dk ((Array.toList (ByteArray.data Br))[Int.toNat Bl]?) fun x1=>some (Ay.mk [.sc (.int .u8 (↑(UInt8.toNat x1):Int))] [[.sc (.string Br),.sc (.int .i64 Bl)]])) (some (Ay.mk [.sc (.int .u8 0)] [[.sc (.string Br),.sc (.int .i64 Bl)]]))) (Ae (CX xs) prog fu d):=by kernel_rfl
abbrev Ga:FuncId:=67
theorem K0 {xs:FuncId->Option (List PV->Option Ay)} (fu d:Nat)(Br:ByteArray)(Bl:Int)(a1:ByteArray):Ae (CX xs) prog fu (d+1) Ga [.pbox [.sc (.string Br),.sc (.int .i64 Bl)],.sc (.string a1)]=(fun (call:Ax)=>Bi (decide (0<=Bl))<|Bi (decide (Int.toNat Bl<=ByteArray.size Br)&&decide (ByteArray.size Br<=ByteArray.size Br))<|Ab (ByteArray.extract Br Bl.toNat (ByteArray.size Br)) fun x1=>Ah (call 87 [.sc (.string x1),.sc (.string a1)]) fun x2 x3=>Ad x3<|Aa x2 fun x4 x5=>Aq x4 fun x6=>Ad x5<|Bh (!x6) (some (Ay.mk [.sc (.bool false)] [[.sc (.string Br),.sc (.int .i64 Bl)]])) (Ab (wrap .i64 (Bl+(↑(ByteArray.size a1):Int))) fun x7=>some (Ay.mk [.sc (.bool true)] [[.sc (.string Br),.sc (.int .i64 x7)]]))) (Ae (CX xs) prog fu d):=by kernel_rfl
abbrev Kp:FuncId:=115
theorem R8 {xs:FuncId->Option (List PV->Option Ay)} (fu d:Nat)(a0:Int):Ae (CX xs) prog fu (d+1) Kp [.sc (.int .i32 a0)]=(fun (call:Ax)=>Bh (decide (a0>=56320)) (some (Ay.mk [.sc (.bool (decide (a0<=57343)))] [])) (some (Ay.mk [.sc (.bool false)] []))) (Ae (CX xs) prog fu d):=by kernel_rfl
abbrev Fx:FuncId:=114
noncomputable def Ba (fu:Nat)(call:Ax)(Br:ByteArray)(Bl:Int)(nn:Nat)(y0 y1:Int)(y2:ByteArray)(y3:Int):Option Ay:=Is CB prog fu call 114 Tryd.f114 (F4 Tryd.f114) [.pbox [.sc (.string Br),.sc (.int .i64 Bl)]] [.r,.r,.l,.r,.l] nn ⟨lk [(0,(.ptr 120000 0)),(4,(.sc (.int .i32 y0))),(6,(.sc (.int .i64 y1)))],Jh [(120000,(.st [(.sc (.string y2)),(.sc (.int .i64 y3))]))]⟩
theorem Ez (fu:Nat)(call:Ax)(Br:ByteArray)(Bl:Int)(nn:Nat)(y0 y1:Int)(y2:ByteArray)(y3:Int):Ba fu call Br Bl (nn+1) y0 y1 y2 y3=(Bh (decide (y1<4)) (Ah (call 90 [.pbox [.sc (.string y2),.sc (.int .i64 y3)]]) fun x1 x2=>Aa x1 fun x3 x4=>Ak .u8 x3 fun x5=>Ad x4<|Aa x2 fun x6 x7=>Aa x6 fun x8 x9=>Az x8 fun Fv=>Aa x9 fun Lr L3=>Ak .i64 Lr fun Ff=>Ad L3<|Ad x7<|Bh (decide (x5>=48)) (Bh (decide (x5<=57)) (Ab (Gz .i32 y0 4) fun Je=>Ab (wrap .u8 (x5-48)) fun Mb=>Ab (wrap .i32 Mb) fun K2=>Ab (wrap .i32 (Je+K2)) fun I4=>Ab (wrap .i64 (Ff+1)) fun Lw=>Ab (wrap .i64 (y1+1)) fun L4=>Ba fu call Br Bl (nn) I4 L4 Fv Lw) (Bh (decide (x5>=97)) (Bh (decide (x5<=102)) (Ab (Gz .i32 y0 4) fun Ml=>Ab (wrap .u8 (x5-97)) fun Mi=>Ab (wrap .i32 Mi) fun N6=>Ab (wrap .i32 (Ml+N6)) fun K4=>Ab (wrap .i32 (K4+10)) fun Nq=>Ab (wrap .i64 (Ff+1)) fun L1=>Ab (wrap .i64 (y1+1)) fun L5=>Ba fu call Br Bl (nn) Nq L5 Fv L1) (Bh (decide (x5>=65)) (Bh (decide (x5<=70)) (Ab (Gz .i32 y0 4) fun Mk=>Ab (wrap .u8 (x5-65)) fun Oi=>Ab (wrap .i32 Oi) fun Me=>Ab (wrap .i32 (Mk+Me)) fun Oa=>Ab (wrap .i32 (Oa+10)) fun Om=>Ab (wrap .i64 (Ff+1)) fun Oc=>Ab (wrap .i64 (y1+1)) fun M9=>Ba fu call Br Bl (nn) Om M9 Fv Oc) (some (Ay.mk [.sc (.int .i32 0),.sc (.bool false)] [[.sc (.string Fv),.sc (.int .i64 Ff)]]))) (some (Ay.mk [.sc (.int .i32 0),.sc (.bool false)] [[.sc (.string Fv),.sc (.int .i64 Ff)]])))) (Bh (decide (x5>=65)) (Bh (decide (x5<=70)) (Ab (Gz .i32 y0 4) fun Ol=>Ab (wrap .u8 (x5-65)) fun Pj=>Ab (wrap .i32 Pj) fun Q7=>Ab (wrap .i32 (Ol+Q7)) fun Se=>Ab (wrap .i32 (Se+10)) fun S1=>Ab (wrap .i64 (Ff+1)) fun Pu=>Ab (wrap .i64 (y1+1)) fun AZ=>Ba fu call Br Bl (nn) S1 AZ Fv Pu) (some (Ay.mk [.sc (.int .i32 0),.sc (.bool false)] [[.sc (.string Fv),.sc (.int .i64 Ff)]]))) (some (Ay.mk [.sc (.int .i32 0),.sc (.bool false)] [[.sc (.string Fv),.sc (.int .i64 Ff)]]))))) (Bh (decide (x5>=97)) (Bh (decide (x5<=102)) (Ab (Gz .i32 y0 4) fun BA=>Ab (wrap .u8 (x5-97)) fun Qm=>Ab (wrap .i32 Qm) fun Qj=>Ab (wrap .i32 (BA+Qj)) fun Zo=>Ab (wrap .i32 (Zo+10)) fun Xh=>Ab (wrap .i64 (Ff+1)) fun BP=>Ab (wrap .i64 (y1+1)) fun AY=>Ba fu call Br Bl (nn) Xh AY Fv BP) (Bh (decide (x5>=65)) (Bh (decide (x5<=70)) (Ab (Gz .i32 y0 4) fun BH=>Ab (wrap .u8 (x5-65)) fun X6=>Ab (wrap .i32 X6) fun Xl=>Ab (wrap .i32 (BH+Xl)) fun AX=>Ab (wrap .i32 (AX+10)) fun BC=>Ab (wrap .i64 (Ff+1)) fun CU=>Ab (wrap .i64 (y1+1)) fun Z7=>Ba fu call Br Bl (nn) BC Z7 Fv CU) (some (Ay.mk [.sc (.int .i32 0),.sc (.bool false)] [[.sc (.string Fv),.sc (.int .i64 Ff)]]))) (some (Ay.mk [.sc (.int .i32 0),.sc (.bool false)] [[.sc (.string Fv),.sc (.int .i64 Ff)]])))) (Bh (decide (x5>=65)) (Bh (decide (x5<=70)) (Ab (Gz .i32 y0 4) fun GI=>Ab (wrap .u8 (x5-65)) fun JJ=>Ab (wrap .i32 JJ) fun EN=>Ab (wrap .i32 (GI+EN)) fun EU=>Ab (wrap .i32 (EU+10)) fun GW=>Ab (wrap .i64 (Ff+1)) fun IL=>Ab (wrap .i64 (y1+1)) fun HT=>Ba fu call Br Bl (nn) GW HT Fv IL) (some (Ay.mk [.sc (.int .i32 0),.sc (.bool false)] [[.sc (.string Fv),.sc (.int .i64 Ff)]]))) (some (Ay.mk [.sc (.int .i32 0),.sc (.bool false)] [[.sc (.string Fv),.sc (.int .i64 Ff)]]))))) (some (Ay.mk [.sc (.int .i32 y0),.sc (.bool true)] [[.sc (.string y2),.sc (.int .i64 y3)]]))):=by kernel_rfl
theorem Jv {xs:FuncId->Option (List PV->Option Ay)} (fu d:Nat)(Br:ByteArray)(Bl:Int):Ae (CX xs) prog fu (d+1) Fx [.pbox [.sc (.string Br),.sc (.int .i64 Bl)]]=(fun (call:Ax)=>Ba fu call Br Bl (fu) 0 0 (Br) (Bl)) (Ae (CX xs) prog fu d):=by kernel_rfl
abbrev Fj:FuncId:=105
theorem Jc {xs:FuncId->Option (List PV->Option Ay)} (fu d:Nat)(Br:ByteArray)(Bl:Int):Ae (CX xs) prog fu (d+1) Fj [.pbox [.sc (.string Br),.sc (.int .i64 Bl)]]=(fun (call:Ax)=>Ah (call 114 [.pbox [.sc (.string Br),.sc (.int .i64 Bl)]]) fun x1 x2=>Aa x1 fun x3 x4=>Ak .i32 x3 fun x5=>Aa x4 fun x6 x7=>Aq x6 fun x8=>Ad x7<|Aa x2 fun x9 Fv=>Aa x9 fun Lr L3=>Az Lr fun Ff=>Aa L3 fun Je Mb=>Ak .i64 Je fun K2=>Ad Mb<|Ad Fv<|Bh (!x8) (some (Ay.mk [.sc (.int .i32 0),.sc (.bool false)] [[.sc (.string Ff),.sc (.int .i64 K2)]])) (Ah (call 115 [.sc (.int .i32 x5)]) fun I4 Lw=>Ad Lw<|Aa I4 fun L4 Ml=>Aq L4 fun Mi=>Ad Ml<|Bh Mi (some (Ay.mk [.sc (.int .i32 0),.sc (.bool false)] [[.sc (.string Ff),.sc (.int .i64 K2)]])) (Bh (decide (x5<55296)) (some (Ay.mk [.sc (.int .i32 x5),.sc (.bool true)] [[.sc (.string Ff),.sc (.int .i64 K2)]])) (Bh (decide (x5>56319)) (some (Ay.mk [.sc (.int .i32 x5),.sc (.bool true)] [[.sc (.string Ff),.sc (.int .i64 K2)]])) (Ah (call 67 [.pbox [.sc (.string Ff),.sc (.int .i64 K2)],.sc (.string (ByteArray.mk #[92,117]))]) fun N6 K4=>Aa N6 fun Nq L1=>Aq Nq fun L5=>Ad L1<|Aa K4 fun Mk Oi=>Aa Mk fun Me Oa=>Az Me fun Om=>Aa Oa fun Oc M9=>Ak .i64 Oc fun Ol=>Ad M9<|Ad Oi<|Bh (!L5) (some (Ay.mk [.sc (.int .i32 0),.sc (.bool false)] [[.sc (.string Om),.sc (.int .i64 Ol)]])) (Ah (call 114 [.pbox [.sc (.string Om),.sc (.int .i64 Ol)]]) fun Pj Q7=>Aa Pj fun Se S1=>Ak .i32 Se fun Pu=>Aa S1 fun AZ BA=>Aq AZ fun Qm=>Ad BA<|Aa Q7 fun Qj Zo=>Aa Qj fun Xh BP=>Az Xh fun AY=>Aa BP fun BH X6=>Ak .i64 BH fun Xl=>Ad X6<|Ad Zo<|Bh (!Qm) (some (Ay.mk [.sc (.int .i32 0),.sc (.bool false)] [[.sc (.string AY),.sc (.int .i64 Xl)]])) (Ah (call 115 [.sc (.int .i32 Pu)]) fun AX BC=>Ad BC<|Aa AX fun CU Z7=>Aq CU fun GI=>Ad Z7<|Bh (!GI) (some (Ay.mk [.sc (.int .i32 0),.sc (.bool false)] [[.sc (.string AY),.sc (.int .i64 Xl)]])) (Ab (wrap .i32 (x5-55296)) fun JJ=>Ab (Gz .i32 JJ 10) fun EN=>Ab (wrap .i32 (65536+EN)) fun EU=>Ab (wrap .i32 (Pu-56320)) fun GW=>Ab (wrap .i32 (EU+GW)) fun IL=>some (Ay.mk [.sc (.int .i32 IL),.sc (.bool true)] [[.sc (.string AY),.sc (.int .i64 Xl)]]))))))))) (Ae (CX xs) prog fu d):=by kernel_rfl
abbrev E4:FuncId:=88
theorem Ic {xs:FuncId->Option (List PV->Option Ay)} (fu d:Nat)(Br:ByteArray)(Bl:Int):Ae (CX xs) prog fu (d+1) E4 [.pbox [.sc (.string Br),.sc (.int .i64 Bl)]]=(fun (call:Ax)=>Ah (call 67 [.pbox [.sc (.string Br),.sc (.int .i64 Bl)],.sc (.string (ByteArray.mk #[117]))]) fun x1 x2=>Aa x1 fun x3 x4=>Aq x3 fun x5=>Ad x4<|Aa x2 fun x6 x7=>Aa x6 fun x8 x9=>Az x8 fun Fv=>Aa x9 fun Lr L3=>Ak .i64 Lr fun Ff=>Ad L3<|Ad x7<|Bh x5 (Ah (call 105 [.pbox [.sc (.string Fv),.sc (.int .i64 Ff)]]) fun Je Mb=>Aa Je fun K2 I4=>Ak .i32 K2 fun Lw=>Aa I4 fun L4 Ml=>Aq L4 fun Mi=>Ad Ml<|Aa Mb fun N6 K4=>Aa N6 fun Nq L1=>Az Nq fun L5=>Aa L1 fun Mk Oi=>Ak .i64 Mk fun Me=>Ad Oi<|Ad K4<|some (Ay.mk [.sc (.int .i32 Lw),.sc (.bool Mi)] [[.sc (.string L5),.sc (.int .i64 Me)]])) (Ah (call 90 [.pbox [.sc (.string Fv),.sc (.int .i64 Ff)]]) fun Oa Om=>Aa Oa fun Oc M9=>Ak .u8 Oc fun Ol=>Ad M9<|Aa Om fun Pj Q7=>Aa Pj fun Se S1=>Az Se fun Pu=>Aa S1 fun AZ BA=>Ak .i64 AZ fun Qm=>Ad BA<|Ad Q7<|Ab (wrap .i32 Ol) fun Qj=>Bh (Qj==34) (Ab (wrap .i64 (Qm+1)) fun Zo=>some (Ay.mk [.sc (.int .i32 Qj),.sc (.bool true)] [[.sc (.string Pu),.sc (.int .i64 Zo)]])) (Bh (Qj==92) (Ab (wrap .i64 (Qm+1)) fun Xh=>some (Ay.mk [.sc (.int .i32 Qj),.sc (.bool true)] [[.sc (.string Pu),.sc (.int .i64 Xh)]])) (Bh (Qj==47) (Ab (wrap .i64 (Qm+1)) fun BP=>some (Ay.mk [.sc (.int .i32 Qj),.sc (.bool true)] [[.sc (.string Pu),.sc (.int .i64 BP)]])) (Bh (Qj==98) (Ab (wrap .i64 (Qm+1)) fun AY=>some (Ay.mk [.sc (.int .i32 8),.sc (.bool true)] [[.sc (.string Pu),.sc (.int .i64 AY)]])) (Bh (Qj==102) (Ab (wrap .i64 (Qm+1)) fun BH=>some (Ay.mk [.sc (.int .i32 12),.sc (.bool true)] [[.sc (.string Pu),.sc (.int .i64 BH)]])) (Bh (Qj==110) (Ab (wrap .i64 (Qm+1)) fun X6=>some (Ay.mk [.sc (.int .i32 10),.sc (.bool true)] [[.sc (.string Pu),.sc (.int .i64 X6)]])) (Bh (Qj==114) (Ab (wrap .i64 (Qm+1)) fun Xl=>some (Ay.mk [.sc (.int .i32 13),.sc (.bool true)] [[.sc (.string Pu),.sc (.int .i64 Xl)]])) (Bh (Qj==116) (Ab (wrap .i64 (Qm+1)) fun AX=>some (Ay.mk [.sc (.int .i32 9),.sc (.bool true)] [[.sc (.string Pu),.sc (.int .i64 AX)]])) (some (Ay.mk [.sc (.int .i32 0),.sc (.bool false)] [[.sc (.string Pu),.sc (.int .i64 Qm)]]))))))))))) (Ae (CX xs) prog fu d):=by kernel_rfl
end
section
open Go.Proofs.Tryd (prog)
open Go.IntKind (wrap)
def Cz (t:ByteArray)(r:List Int):Prop:=∃pre,D1 t=pre++r
theorem Cz.all (t:ByteArray):Cz t (D1 t):=⟨[],rfl⟩
theorem Cz.len {t:ByteArray}{r:List Int}(h:Cz t r):r.length<=t.size:=by
 obtain⟨pre,h⟩:=h;have:=congrArg List.length h;rw[Es,List.length_append] at this;omega
theorem Cz.app {t:ByteArray}{a r:List Int}(h:Cz t (a++r)):Cz t r:=by
 obtain⟨pre,h⟩:=h;exact⟨pre++a,by rw[h,List.append_assoc]⟩
theorem Cz.tail {t:ByteArray}{c:Int}{r:List Int}(h:Cz t (c::r)):Cz t r:=Cz.app (a:=[c]) h
theorem Cz.drop {t:ByteArray}{r:List Int}(h:Cz t r)(k:Nat):Cz t (r.drop k):=by
 rw[←List.take_append_drop k r] at h;exact h.app
def Bp (t:ByteArray)(r:List Int):Nat:=t.size-r.length
theorem Cz.eq {t:ByteArray}{r:List Int}(h:Cz t r):r=(D1 t).drop (Bp t r):=by
 have hl:=h.len;obtain⟨pre,h⟩:=h
 have e:Bp t r=pre.length:=by
  have:=congrArg List.length h;rw[Es,List.length_append] at this;unfold Bp;omega
 rw[e,h,List.drop_left]
theorem Cz.B {t:ByteArray}{r:List Int}(h:Cz t r):Dq r:=by
 obtain⟨pre,h⟩:=h;exact fun x hx=>HI t x (by rw[h];exact List.mem_append_right _ hx)
theorem Cz.at {t:ByteArray}{c:Int}{r:List Int}(h:Cz t (c::r)):∃b:UInt8,(Array.toList t.data)[Bp t (c::r)]?=some b∧(b.toNat:Int)=c:=by
 have he:=h.eq
 have:(D1 t)[Bp t (c::r)]?=some c:=by
  have:=congrArg (fun l=>l[0]?) he
  rw[List.getElem?_drop] at this;exact this.symm
 unfold D1 at this;rw[List.getElem?_map] at this;obtain⟨b,hb,rfl⟩:=Option.map_eq_some_iff.1 this;exact⟨b,hb,rfl⟩
theorem J8 {t:ByteArray}{c:Int}{r:List Int}(h:Cz t (c::r)):Bp t r=Bp t (c::r)+1:=by
 have:=h.len;unfold Bp;rw[PG] at this ⊢;omega
theorem So (t:ByteArray):Bp t []=t.size:=rfl
abbrev Bw (t:ByteArray)(r:List Int):List PV:=[.sc (.string t),.sc (.int .i64 (Bp t r:Int))]
def JO:List Int->Int
 |[]=>0
 |c::_=>c
section
variable {fu d:Nat} {xs:FuncId->Option (List PV->Option Ay)}
theorem Km {t:ByteArray}{r:List Int}(h:Cz t r):Ae (CX xs) prog fu (d+1) Gt [.pbox (Bw t r)]=some ⟨[.sc (.int .u8 (JO r))],[Bw t r]⟩:=by
 rw[L0];cases r with
 |nil=>
  show _=some (Ay.mk [.sc (.int .u8 0)] [[.sc (.string t),.sc (.int .i64 (Bp t []:Int))]]);rw[So];have e:decide ((t.size:Int)<(t.size:Int))=false:=by simp
  simp only[Ej,e]
 |cons c r=>
  have hl:=h.len;obtain⟨b,hb,rfl⟩:=h.at
  have hp:Bp t ((b.toNat:Int)::r)<t.size:=by
   unfold Bp;rw[PG] at hl ⊢;omega
  have e:decide ((Bp t ((b.toNat:Int)::r):Int)<(t.size:Int))=true:=by simp;omega
  have e2:decide ((0:Int)<=(Bp t ((b.toNat:Int)::r):Int))=true:=by simp
  rw[←Oj (Bp t ((b.toNat:Int)::r))] at hb;simp only[Ej,e,e2,hb,JO]
theorem Vz {s:ByteArray}{a:Nat}:s.extract a s.size=Ac ((D1 s).drop a):=by
 rw[←Nd (s.extract a s.size)]
 congr 1
 unfold D1;rw[ByteArray.data_extract,Array.toList_extract,List.extract_eq_take_drop,←List.map_drop,Zzf];rw[List.length_drop];exact Nat.le_refl _
theorem Tg {s:ByteArray}{n:Nat}:s.extract 0 n=Ac ((D1 s).take n):=by
 rw[←Nd (s.extract 0 n)]
 congr 1
 unfold D1;rw[ByteArray.data_extract,Array.toList_extract,List.extract_eq_take_drop,Nat.sub_zero,List.drop_zero,List.map_take]
theorem Ag9 {a w:List Int}(ha:Dq a)(hw:Dq w):Ae (CX xs) prog fu (d+1) E1 [.sc (.string (Ac a)),.sc (.string (Ac w))]=some ⟨[.sc (.bool (w.isPrefixOf a))],[]⟩:=by
 rw[Mc,Aw,Aw];by_cases hl:w.length<=a.length
 ·have e1:decide ((a.length:Int)>=(w.length:Int))=true:=by simp;omega
  have e2:decide (Int.toNat (w.length:Int)<=a.length)=true:=by rw[Oj];simp;exact hl
  have e3:(Ac a).extract 0 (Int.toNat (w.length:Int))=Ac (a.take w.length):=by
   rw[Oj,Tg,C9 ha]
  have e4:(Array.toList (Ac (a.take w.length)).data==Array.toList (Ac w).data)=w.isPrefixOf a:=by
   rw[Bool.eq_iff_iff,List.isPrefixOf_iff_prefix,beq_iff_eq];constructor
   ·intro h
    have h2:Ac (a.take w.length)=Ac w:=by
     cases hx:Ac (a.take w.length);cases hy:Ac w;rw[hx,hy] at h;exact congrArg ByteArray.mk (Array.toList_inj.1 h)
    have h3:=congrArg D1 h2;rw[C9 hw,C9 (fun x hx=>ha x (List.mem_of_mem_take hx))] at h3
    exact List.prefix_iff_eq_take.2 h3.symm
   ·intro h;rw[←List.prefix_iff_eq_take.1 h]
  simp only[Ej,e1,e2,e3,e4]
 ·have e1:decide ((a.length:Int)>=(w.length:Int))=false:=by simp;omega
  have e4:w.isPrefixOf a=false:=by
   rw[Bool.eq_false_iff,ne_eq,List.isPrefixOf_iff_prefix];exact fun h=>hl h.length_le
  simp only[Ej,e1,e4]
theorem A1c {a w:List Int}(ha:Dq a)(hw:Dq w):Ae (CX xs) prog fu (d+2) Jm [.sc (.string (Ac a)),.sc (.string (Ac w))]=some ⟨[.sc (.bool (w.isPrefixOf a))],[]⟩:=by
 rw[Qk];have e:Ae (CX xs) prog fu (d+1) E1 [.sc (.string (Ac a)),.sc (.string (Ac w))]=_:=Ag9 ha hw;simp only[Ej,e]
theorem Pb {t:ByteArray}{r w:List Int}(h:Cz t r)(ht:t.size<=1000000)(hw:Dq w)(hw2:w.length<=100):Ae (CX xs) prog fu (d+3) Ga [.pbox (Bw t r),.sc (.string (Ac w))]=some (match Ap w r with|some r'=>⟨[.sc (.bool true)],[Bw t r']⟩|none=>⟨[.sc (.bool false)],[Bw t r]⟩):=by
 have hl:=h.len;have he:=h.eq;have hp:Bp t r<=t.size:=Nat.sub_le _ _;have hh:=A1c (fu:=fu) (d:=d) (xs:=xs) h.B hw;have e1:decide ((0:Int)<=(Bp t r:Int))=true:=by simp
 have e2:(decide (Int.toNat (Bp t r:Int)<=t.size)&&decide (t.size<=t.size))=true:=by
  rw[Oj];simp;exact hp
 have e3:t.extract (Int.toNat (Bp t r:Int)) t.size=Ac r:=by rw[Oj,Vz,←he]
 rw[K0];unfold Ap;by_cases hq:w.isPrefixOf r=true
 ·rw[E7 hq];rw[hq] at hh
  have hwl:w.length<=r.length:=by
   have:=List.IsPrefix.length_le (List.isPrefixOf_iff_prefix.1 hq);exact this
  have e4:wrap .i64 ((Bp t r:Int)+((Ac w).size:Int))=(Bp t (r.drop w.length):Int):=by
   rw[Aw,Bc (by omega) (by omega)]
   unfold Bp;rw[List.length_drop];omega
  simp only[Ej,e1,e2,e3,hh,e4,Db]
 ·rw[Dz hq];have J5:w.isPrefixOf r=false:=Bool.eq_false_iff.2 hq;rw[J5] at hh;simp only[Ej,e1,e2,e3,hh,D2]
theorem Ae0 (x:Int):Ae (CX xs) prog fu (d+1) Kp [.sc (.int .i32 x)]=some ⟨[.sc (.bool (GX x))],[]⟩:=by
 rw[R8];unfold GX;by_cases h:56320<=x
 ·have e:decide (x>=56320)=true:=by simp;omega
  have e2:decide (56320<=x)=true:=by simp;omega
  simp only[Ej,e,e2,Bool.true_and]
 ·have e:decide (x>=56320)=false:=by simp;omega
  have e2:decide (56320<=x)=false:=by simp;omega
  simp only[Ej,e,e2,Zzs]
def Aec (t:ByteArray)(o:PR Int):Ay:=⟨[.sc (.int .i32 (o.1.getD 0)),.sc (.bool o.1.isSome)],[Bw t o.2]⟩
theorem FO (c:Int):(48<=c∧c<=57∧PS c=some (c-48))∨(97<=c∧c<=102∧PS c=some (c-87))∨(65<=c∧c<=70∧PS c=some (c-55))∨(¬(48<=c∧c<=57)∧¬(97<=c∧c<=102)∧¬(65<=c∧c<=70)∧PS c=none):=by
 unfold PS;by_cases h1:48<=c∧c<=57
 ·exact .inl ⟨h1.1,h1.2,E7 h1⟩
 ·by_cases h2:97<=c∧c<=102
  ·exact .inr (.inl ⟨h2.1,h2.2,by rw[Dz h1,E7 h2]⟩)
  ·by_cases h3:65<=c∧c<=70
   ·exact .inr (.inr (.inl ⟨h3.1,h3.2,by rw[Dz h1,Dz h2,E7 h3]⟩))
   ·exact .inr (.inr (.inr ⟨h1,h2,h3,by rw[Dz h1,Dz h2,Dz h3]⟩))
theorem Eg {x:Int}(h1: -2147483648<=x)(h2:x<=2147483647):wrap .i32 x=x:=by
 have:=IntWalk.i32_in x (by omega)
 exact this
theorem Arn {x:Int}(h0:0<=x)(h1:x<65536):Gz .i32 x 4=x*16:=by
 show wrap .i32 (x*2 ^ (min (4:Int).toNat IntKind.i32.bits))=_;rw[show min (4:Int).toNat IntKind.i32.bits=4 from rfl]
 exact Eg (by omega) (by omega)
theorem Su {t s0:ByteArray}{p0:Int}(ht:t.size<=1000000):∀(n:Nat)(nn:Nat)(x:Int)(r:List Int),n<=4->n+1<=nn->0<=x->x<16 ^ (4-n)->Cz t r ->
  Ba fu (Ae (CX xs) prog fu (d+1)) s0 p0 nn x ((4-n:Nat):Int) t (Bp t r:Int)=some (Aec t (Qx n x r))
 |0,nn,x,r,_,Q8,h0,h1,h=>by
  obtain⟨k,rfl⟩:∃k,nn=k+1:=⟨nn-1,by omega⟩
  rw[Ez];simp only[Ej,show decide (((4-0:Nat):Int)<4)=false from rfl]
  rfl
 |n+1,nn,x,r,hn,Q8,h0,h1,h=>by
  obtain⟨k,rfl⟩:∃k,nn=k+1:=⟨nn-1,by omega⟩
  have pk:=Km (fu:=fu) (d:=d) (xs:=xs) h;have hl:=h.len
  have hx:x<4096:=by
   have:n+1=1∨n+1=2∨n+1=3∨n+1=4:=by omega
   rcases this with e|e|e|e<;>rw[e] at h1<;>simp at h1<;>omega
  have Oq:∀v,0<=v->v<=15->x*16+v<16 ^ (4-n):=by
   intro v hv0 hv1;have e:4-n=(4-(n+1))+1:=by omega
   rw[e,Int.pow_succ];omega
  have e4:decide (((4-(n+1):Nat):Int)<4)=true:=by simp;omega
  have e5:wrap .i64 (((4-(n+1):Nat):Int)+1)=((4-n:Nat):Int):=by rw[Bc (by omega) (by omega)];omega
  have sh:=Arn h0 (by omega)
  rw[Ez];cases r with
  |nil=>
   have pk2:Ae (CX xs) prog fu (d+1) 90 [.pbox (Bw t [])]=some ⟨[.sc (.int .u8 0)],[Bw t []]⟩:=pk
   try unfold Ab
   repeat first
    |((with_reducible first|apply A5|apply As|apply A2|apply At|apply A0|apply Dr|apply Au|apply A3|apply A1);· first|with_reducible rfl|(simp (disch:=omega) only[gT,e4,pk2,Int.reduceGE,decide_false,decide_true]<;>first|with_reducible rfl|omega)|omega)
    |(with_reducible apply A4;· first|with_reducible rfl|(simp (disch:=omega) only[gF,e4,pk2,Int.reduceGE,decide_false,decide_true]<;>omega))
   try simp (disch:=omega) only[e4,pk2,Int.reduceGE,decide_false,decide_true]
   rfl
  |cons c r=>
   have hc:=h.B c (by simp)
   have hp:=J8 h
   have e6:wrap .i64 ((Bp t (c::r):Int)+1)=(Bp t r:Int):=by
    rw[hp,Bc (by unfold Bp;omega) (by unfold Bp;omega)];omega
   have pk2:Ae (CX xs) prog fu (d+1) 90 [.pbox (Bw t (c::r))]=some ⟨[.sc (.int .u8 c)],[Bw t (c::r)]⟩:=pk;unfold Qx;rcases FO c with⟨g1,g2,g3⟩|⟨g1,g2,g3⟩|⟨g1,g2,g3⟩|⟨g1,g2,g3,g4⟩
   ·rw[g3];have ih:=Su (s0:=s0) (p0:=p0) ht n k (x*16+(c-48)) r (by omega) (by omega) (by omega) (Oq _ (by omega) (by omega)) h.tail
    have w1:wrap .u8 (c-48)=c-48:=Xj (by omega) (by omega)
    have w2:wrap .i32 (c-48)=c-48:=Eg (by omega) (by omega)
    have w3:wrap .i32 (x*16+(c-48))=x*16+(c-48):=Eg (by omega) (by omega)
    try unfold Ab
    repeat first
     |((with_reducible first|apply A5|apply As|apply A2|apply At|apply A0|apply Dr|apply Au|apply A3|apply A1);· first|with_reducible rfl|(simp (disch:=omega) only[gT,e4,pk2,sh,w1,w2,w3,e5,e6,ih]<;>first|with_reducible rfl|omega)|omega)
     |(with_reducible apply A4;· first|with_reducible rfl|(simp (disch:=omega) only[gF,e4,pk2,sh,w1,w2,w3,e5,e6,ih]<;>omega))
    try simp (disch:=omega) only[e4,pk2,sh,w1,w2,w3,e5,e6,ih]
   ·rw[g3];have ih:=Su (s0:=s0) (p0:=p0) ht n k (x*16+(c-87)) r (by omega) (by omega) (by omega) (Oq _ (by omega) (by omega)) h.tail
    have w1:wrap .u8 (c-97)=c-97:=Xj (by omega) (by omega)
    have w2:wrap .i32 (c-97)=c-97:=Eg (by omega) (by omega)
    have w3:wrap .i32 (x*16+(c-97))=x*16+(c-97):=Eg (by omega) (by omega)
    have w4:wrap .i32 (x*16+(c-97)+10)=x*16+(c-87):=by rw[Eg (by omega) (by omega)];omega
    try unfold Ab
    repeat first
     |((with_reducible first|apply A5|apply As|apply A2|apply At|apply A0|apply Dr|apply Au|apply A3|apply A1);· first|with_reducible rfl|(simp (disch:=omega) only[gT,e4,pk2,sh,w1,w2,w3,w4,e5,e6,ih]<;>first|with_reducible rfl|omega)|omega)
     |(with_reducible apply A4;· first|with_reducible rfl|(simp (disch:=omega) only[gF,e4,pk2,sh,w1,w2,w3,w4,e5,e6,ih]<;>omega))
    try simp (disch:=omega) only[e4,pk2,sh,w1,w2,w3,w4,e5,e6,ih]
   ·rw[g3];have ih:=Su (s0:=s0) (p0:=p0) ht n k (x*16+(c-55)) r (by omega) (by omega) (by omega) (Oq _ (by omega) (by omega)) h.tail
    have w1:wrap .u8 (c-65)=c-65:=Xj (by omega) (by omega)
    have w2:wrap .i32 (c-65)=c-65:=Eg (by omega) (by omega)
    have w3:wrap .i32 (x*16+(c-65))=x*16+(c-65):=Eg (by omega) (by omega)
    have w4:wrap .i32 (x*16+(c-65)+10)=x*16+(c-55):=by rw[Eg (by omega) (by omega)];omega
    try unfold Ab
    repeat first
     |((with_reducible first|apply A5|apply As|apply A2|apply At|apply A0|apply Dr|apply Au|apply A3|apply A1);· first|with_reducible rfl|(simp (disch:=omega) only[gT,e4,pk2,sh,w1,w2,w3,w4,e5,e6,ih]<;>first|with_reducible rfl|omega)|omega)
     |(with_reducible apply A4;· first|with_reducible rfl|(simp (disch:=omega) only[gF,e4,pk2,sh,w1,w2,w3,w4,e5,e6,ih]<;>omega))
    try simp (disch:=omega) only[e4,pk2,sh,w1,w2,w3,w4,e5,e6,ih]
   ·rw[g4];by_cases k1:48<=c
    ·by_cases k2:97<=c
     ·skip
      try unfold Ab
      repeat first
       |((with_reducible first|apply A5|apply As|apply A2|apply At|apply A0|apply Dr|apply Au|apply A3|apply A1);· first|with_reducible rfl|(simp (disch:=omega) only[gT,e4,pk2]<;>first|with_reducible rfl|omega)|omega)
       |(with_reducible apply A4;· first|with_reducible rfl|(simp (disch:=omega) only[gF,e4,pk2]<;>omega))
      try simp (disch:=omega) only[e4,pk2]
      rfl
     ·by_cases k3:65<=c
      ·skip
       try unfold Ab
       repeat first
        |((with_reducible first|apply A5|apply As|apply A2|apply At|apply A0|apply Dr|apply Au|apply A3|apply A1);· first|with_reducible rfl|(simp (disch:=omega) only[gT,e4,pk2]<;>first|with_reducible rfl|omega)|omega)
        |(with_reducible apply A4;· first|with_reducible rfl|(simp (disch:=omega) only[gF,e4,pk2]<;>omega))
       try simp (disch:=omega) only[e4,pk2]
       rfl
      ·skip
       try unfold Ab
       repeat first
        |((with_reducible first|apply A5|apply As|apply A2|apply At|apply A0|apply Dr|apply Au|apply A3|apply A1);· first|with_reducible rfl|(simp (disch:=omega) only[gT,e4,pk2]<;>first|with_reducible rfl|omega)|omega)
        |(with_reducible apply A4;· first|with_reducible rfl|(simp (disch:=omega) only[gF,e4,pk2]<;>omega))
       try simp (disch:=omega) only[e4,pk2]
       rfl
    ·skip
     try unfold Ab
     repeat first
      |((with_reducible first|apply A5|apply As|apply A2|apply At|apply A0|apply Dr|apply Au|apply A3|apply A1);· first|with_reducible rfl|(simp (disch:=omega) only[gT,e4,pk2]<;>first|with_reducible rfl|omega)|omega)
      |(with_reducible apply A4;· first|with_reducible rfl|(simp (disch:=omega) only[gF,e4,pk2]<;>omega))
     try simp (disch:=omega) only[e4,pk2]
     rfl
theorem Ahg {t:ByteArray}{r:List Int}(Ev:10<=fu)(h:Cz t r)(ht:t.size<=1000000):Ae (CX xs) prog fu (d+2) Fx [.pbox (Bw t r)]=some (Aec t (Qx 4 0 r)):=by
 rw[Jv];exact Su ht 4 fu 0 r (by omega) (by omega) (by omega) (by decide) h
theorem F7:∀(n:Nat)(x:Int)(l:List Int)(y:Int)(r:List Int),Qx n x l=(some y,r)->0<=x->0<=y∧y<(x+1)*16 ^ n
 |0,x,l,y,r,h,h0=>by
  cases h;omega
 |n+1,x,[],y,r,h,h0=>by cases h
 |n+1,x,c::l,y,r,h,h0=>by
  unfold Qx at h;rcases FO c with⟨g1,g2,g3⟩|⟨g1,g2,g3⟩|⟨g1,g2,g3⟩|⟨g1,g2,g3,g4⟩
  ·rw[g3] at h;have:=F7 n _ l y r h (by omega)
   have e:(x*16+(c-48)+1)*16 ^ n<=(x+1)*16 ^ (n+1):=by
    rw[Int.pow_succ,Int.mul_comm (16 ^ n) 16,←Int.mul_assoc];exact Int.mul_le_mul_of_nonneg_right (by omega) (Int.pow_nonneg (by omega))
   omega
  ·rw[g3] at h;have:=F7 n _ l y r h (by omega)
   have e:(x*16+(c-87)+1)*16 ^ n<=(x+1)*16 ^ (n+1):=by
    rw[Int.pow_succ,Int.mul_comm (16 ^ n) 16,←Int.mul_assoc];exact Int.mul_le_mul_of_nonneg_right (by omega) (Int.pow_nonneg (by omega))
   omega
  ·rw[g3] at h;have:=F7 n _ l y r h (by omega)
   have e:(x*16+(c-55)+1)*16 ^ n<=(x+1)*16 ^ (n+1):=by
    rw[Int.pow_succ,Int.mul_comm (16 ^ n) 16,←Int.mul_assoc];exact Int.mul_le_mul_of_nonneg_right (by omega) (Int.pow_nonneg (by omega))
   omega
  ·rw[g4] at h;cases h
theorem Si {t:ByteArray}:∀(n:Nat)(x:Int)(l:List Int),Cz t l->Cz t (Qx n x l).2
 |0,x,l,h=>h
 |n+1,x,[],h=>h
 |n+1,x,c::l,h=>by
  unfold Qx;cases PS c with
  |none=>exact h
  |some v=>exact Si n _ l h.tail
theorem Ab4 (l:List Int):Acw l=List.isPrefixOf [92,117] l:=by
 match l with
 |[]=>rfl
 |[a]=>
  unfold Acw;split
  ·rename_i e;cases e
  ·simp[List.isPrefixOf]
 |a::b::r=>
  unfold Acw;split
  ·rename_i e;cases e;rfl
  ·rename_i h
   symm
   rw[Bool.eq_false_iff];intro hp;simp[List.isPrefixOf] at hp;exact h r (by rw[←hp.1,←hp.2])
theorem Am7 {x:Int}(h0:0<=x)(h1:x<2097152):Gz .i32 x 10=x*1024:=by
 show wrap .i32 (x*2 ^ (min (10:Int).toNat IntKind.i32.bits))=_;rw[show min (10:Int).toNat IntKind.i32.bits=10 from rfl]
 exact Eg (by omega) (by omega)
theorem Ajh {t:ByteArray}{r:List Int}(Ev:10<=fu)(h:Cz t r)(ht:t.size<=1000000):Ae (CX xs) prog fu (d+4) Fj [.pbox (Bw t r)]=some (Aec t (Mv r)):=by
 have hx:=Ahg (d:=d+1) (xs:=xs) Ev h ht;have hs:=Si 4 0 r h;have hb:=F7 4 0 r;rw[Jc];unfold Mv;rcases hq:Qx 4 0 r with⟨o,r1⟩;rw[hq] at hx hs;simp only at hs;cases o with
 |none=>
  have Oq:Ae (CX xs) prog fu (d+3) 114 [.pbox (Bw t r)]=some ⟨[.sc (.int .i32 0),.sc (.bool false)],[Bw t r1]⟩:=hx
  try unfold Ab
  repeat first
   |((with_reducible first|apply A5|apply As|apply A2|apply At|apply A0|apply Dr|apply Au|apply A3|apply A1);· first|with_reducible rfl|(simp (disch:=omega) only[gT,Oq,D2]<;>first|with_reducible rfl|omega)|omega)
   |(with_reducible apply A4;· first|with_reducible rfl|(simp (disch:=omega) only[gF,Oq,D2]<;>omega))
  try simp (disch:=omega) only[Oq,D2]
  rfl
 |some x=>
  have Oq:Ae (CX xs) prog fu (d+3) 114 [.pbox (Bw t r)]=some ⟨[.sc (.int .i32 x),.sc (.bool true)],[Bw t r1]⟩:=hx;have bx:=hb x r1 hq (by omega)
  have lw:∀x,Ae (CX xs) prog fu (d+3) 115 [.sc (.int .i32 x)]=some ⟨[.sc (.bool (GX x))],[]⟩:=fun x=>Ae0 (d:=d+2) x
  cases hl:GX x
  ·simp only[hl,Bool.false_eq_true,if_false];by_cases c1:x<55296
   ·rw[E7 (Or.inl c1)]
    try unfold Ab
    repeat first
     |((with_reducible first|apply A5|apply As|apply A2|apply At|apply A0|apply Dr|apply Au|apply A3|apply A1);· first|with_reducible rfl|(simp (disch:=omega) only[gT,Oq,lw,hl,Db]<;>first|with_reducible rfl|omega)|omega)
     |(with_reducible apply A4;· first|with_reducible rfl|(simp (disch:=omega) only[gF,Oq,lw,hl,Db]<;>omega))
    try simp (disch:=omega) only[Oq,lw,hl,Db]
    rfl
   ·by_cases c2:56319<x
    ·rw[E7 (Or.inr c2)]
     try unfold Ab
     repeat first
      |((with_reducible first|apply A5|apply As|apply A2|apply At|apply A0|apply Dr|apply Au|apply A3|apply A1);· first|with_reducible rfl|(simp (disch:=omega) only[gT,Oq,lw,hl,Db]<;>first|with_reducible rfl|omega)|omega)
      |(with_reducible apply A4;· first|with_reducible rfl|(simp (disch:=omega) only[gF,Oq,lw,hl,Db]<;>omega))
     try simp (disch:=omega) only[Oq,lw,hl,Db]
     rfl
    ·rw[Dz (by omega)]
     have ha:=Pb (fu:=fu) (d:=d) (xs:=xs) hs ht (w:=[92,117]) (fun x hx=>by simp at hx;rcases hx with rfl|rfl<;>omega) (by decide)
     unfold Ap at ha;rw[←Ab4] at ha;cases hB:Acw r1
     ·rw[hB,Dz (by simp)] at ha
      simp only[Bool.false_eq_true,if_false];have H8:Ae (CX xs) prog fu (d+3) 67 [.pbox (Bw t r1),.sc (.string (ByteArray.mk #[(92:UInt8),(117:UInt8)]))]=some ⟨[.sc (.bool false)],[Bw t r1]⟩:=ha
      try unfold Ab
      repeat first
       |((with_reducible first|apply A5|apply As|apply A2|apply At|apply A0|apply Dr|apply Au|apply A3|apply A1);· first|with_reducible rfl|(simp (disch:=omega) only[gT,Oq,lw,hl,H8,Db,D2]<;>first|with_reducible rfl|omega)|omega)
       |(with_reducible apply A4;· first|with_reducible rfl|(simp (disch:=omega) only[gF,Oq,lw,hl,H8,Db,D2]<;>omega))
      try simp (disch:=omega) only[Oq,lw,hl,H8,Db,D2]
      rfl
     ·rw[hB,E7 rfl] at ha;simp only[if_true];have H8:Ae (CX xs) prog fu (d+3) 67 [.pbox (Bw t r1),.sc (.string (ByteArray.mk #[(92:UInt8),(117:UInt8)]))]=some ⟨[.sc (.bool true)],[Bw t (r1.drop 2)]⟩:=ha;have hy:=Ahg (d:=d+1) (xs:=xs) Ev (hs.drop 2) ht;have WE:=F7 4 0 (r1.drop 2);unfold TQ;rcases J5:Qx 4 0 (r1.drop 2) with⟨o2,r2⟩;rw[J5] at hy;cases o2 with
      |none=>
       have YA:Ae (CX xs) prog fu (d+3) 114 [.pbox (Bw t (r1.drop 2))]=some ⟨[.sc (.int .i32 0),.sc (.bool false)],[Bw t r2]⟩:=hy
       try unfold Ab
       repeat first
        |((with_reducible first|apply A5|apply As|apply A2|apply At|apply A0|apply Dr|apply Au|apply A3|apply A1);· first|with_reducible rfl|(simp (disch:=omega) only[gT,Oq,lw,hl,H8,YA,Db,D2]<;>first|with_reducible rfl|omega)|omega)
        |(with_reducible apply A4;· first|with_reducible rfl|(simp (disch:=omega) only[gF,Oq,lw,hl,H8,YA,Db,D2]<;>omega))
       try simp (disch:=omega) only[Oq,lw,hl,H8,YA,Db,D2]
       rfl
      |some y=>
       have YA:Ae (CX xs) prog fu (d+3) 114 [.pbox (Bw t (r1.drop 2))]=some ⟨[.sc (.int .i32 y),.sc (.bool true)],[Bw t r2]⟩:=hy;have by_:=WE y r2 J5 (by omega)
       cases On:GX y
       ·simp only[Bool.false_eq_true,if_false]
        try unfold Ab
        repeat first
         |((with_reducible first|apply A5|apply As|apply A2|apply At|apply A0|apply Dr|apply Au|apply A3|apply A1);· first|with_reducible rfl|(simp (disch:=omega) only[gT,Oq,lw,hl,On,H8,YA,Db,D2]<;>first|with_reducible rfl|omega)|omega)
         |(with_reducible apply A4;· first|with_reducible rfl|(simp (disch:=omega) only[gF,Oq,lw,hl,On,H8,YA,Db,D2]<;>omega))
        try simp (disch:=omega) only[Oq,lw,hl,On,H8,YA,Db,D2]
        rfl
       ·simp only[if_true]
        have ly:56320<=y∧y<=57343:=by
         unfold GX at On
         simpa using On
        have w1:wrap .i32 (x-55296)=x-55296:=Eg (by omega) (by omega)
        have w2:=Am7 (x:=x-55296) (by omega) (by omega)
        have w3:wrap .i32 (65536+(x-55296)*1024)=65536+(x-55296)*1024:=Eg (by omega) (by omega)
        have w4:wrap .i32 (y-56320)=y-56320:=Eg (by omega) (by omega)
        have w5:wrap .i32 (65536+(x-55296)*1024+(y-56320))=65536+(x-55296)*1024+(y-56320):=Eg (by omega) (by omega)
        try unfold Ab
        repeat first
         |((with_reducible first|apply A5|apply As|apply A2|apply At|apply A0|apply Dr|apply Au|apply A3|apply A1);· first|with_reducible rfl|(simp (disch:=omega) only[gT,Oq,lw,hl,On,H8,YA,w1,w2,w3,w4,w5,Db,D2]<;>first|with_reducible rfl|omega)|omega)
         |(with_reducible apply A4;· first|with_reducible rfl|(simp (disch:=omega) only[gF,Oq,lw,hl,On,H8,YA,w1,w2,w3,w4,w5,Db,D2]<;>omega))
        try simp (disch:=omega) only[Oq,lw,hl,On,H8,YA,w1,w2,w3,w4,w5,Db,D2]
        rfl
  ·simp only[if_true]
   try unfold Ab
   repeat first
    |((with_reducible first|apply A5|apply As|apply A2|apply At|apply A0|apply Dr|apply Au|apply A3|apply A1);· first|with_reducible rfl|(simp (disch:=omega) only[gT,Oq,lw,hl,Db]<;>first|with_reducible rfl|omega)|omega)
    |(with_reducible apply A4;· first|with_reducible rfl|(simp (disch:=omega) only[gF,Oq,lw,hl,Db]<;>omega))
   try simp (disch:=omega) only[Oq,lw,hl,Db]
   rfl
theorem EF (c:Int):(c=34∧Rl c=some 34)∨(c=92∧Rl c=some 92)∨(c=47∧Rl c=some 47)∨(c=98∧Rl c=some 8)∨(c=102∧Rl c=some 12)∨(c=110∧Rl c=some 10)∨(c=114∧Rl c=some 13)∨(c=116∧Rl c=some 9) ∨
  ((c≠34∧c≠92∧c≠47∧c≠98∧c≠102∧c≠110∧c≠114∧c≠116)∧Rl c=none):=by
 by_cases h1:c=34
 ·subst h1;exact .inl ⟨rfl,rfl⟩
 by_cases h2:c=92
 ·subst h2;exact .inr (.inl ⟨rfl,rfl⟩)
 by_cases h3:c=47
 ·subst h3;exact .inr (.inr (.inl ⟨rfl,rfl⟩))
 by_cases h4:c=98
 ·subst h4;exact .inr (.inr (.inr (.inl ⟨rfl,rfl⟩)))
 by_cases h5:c=102
 ·subst h5;exact .inr (.inr (.inr (.inr (.inl ⟨rfl,rfl⟩))))
 by_cases h6:c=110
 ·subst h6;exact .inr (.inr (.inr (.inr (.inr (.inl ⟨rfl,rfl⟩)))))
 by_cases h7:c=114
 ·subst h7;exact .inr (.inr (.inr (.inr (.inr (.inr (.inl ⟨rfl,rfl⟩))))))
 by_cases h8:c=116
 ·subst h8;exact .inr (.inr (.inr (.inr (.inr (.inr (.inr (.inl ⟨rfl,rfl⟩)))))))
 refine .inr (.inr (.inr (.inr (.inr (.inr (.inr (.inr ⟨⟨h1,h2,h3,h4,h5,h6,h7,h8⟩,?_⟩)))))));unfold Rl;rw[Dz (by omega),Dz h4,Dz h5,Dz h6,Dz h7,Dz h8]
theorem Arm {t:ByteArray}{r:List Int}(Ev:10<=fu)(h:Cz t r)(ht:t.size<=1000000):Ae (CX xs) prog fu (d+5) E4 [.pbox (Bw t r)]=some (Aec t (Lv r)):=by
 have ha:=Pb (fu:=fu) (d:=d+1) (xs:=xs) h ht (w:=[117]) (fun x hx=>by simp at hx;omega) (by decide)
 have hl:=h.len;rw[Ic];cases r with
 |nil=>
  have H8:Ae (CX xs) prog fu (d+4) 67 [.pbox (Bw t []),.sc (.string (ByteArray.mk #[(117:UInt8)]))]=some ⟨[.sc (.bool false)],[Bw t []]⟩:=ha;have pk:Ae (CX xs) prog fu (d+4) 90 [.pbox (Bw t [])]=some ⟨[.sc (.int .u8 0)],[Bw t []]⟩:=Km (d:=d+3) h;have w0:wrap .i32 0=0:=rfl
  try unfold Ab
  repeat first
   |((with_reducible first|apply A5|apply As|apply A2|apply At|apply A0|apply Dr|apply Au|apply A3|apply A1);· first|with_reducible rfl|(simp (disch:=omega) only[gT,H8,pk,w0,Int.reduceBEq]<;>first|with_reducible rfl|omega)|omega)
   |(with_reducible apply A4;· first|with_reducible rfl|(simp (disch:=omega) only[gF,H8,pk,w0,Int.reduceBEq]<;>omega))
  try simp (disch:=omega) only[H8,pk,w0,Int.reduceBEq]
  rfl
 |cons c r=>
  have hc:=h.B c (by simp)
  have hp:=J8 h
  have e6:wrap .i64 ((Bp t (c::r):Int)+1)=(Bp t r:Int):=by
   rw[hp,Bc (by unfold Bp;omega) (by unfold Bp;omega)];omega
  have w0:wrap .i32 c=c:=Eg (by omega) (by omega)
  have pk:Ae (CX xs) prog fu (d+4) 90 [.pbox (Bw t (c::r))]=some ⟨[.sc (.int .u8 c)],[Bw t (c::r)]⟩:=Km (d:=d+3) h;have he:Lv (c::r)=if c=117 then Mv r else match Rl c with|some x=>(some x,r)|none=>(none,c::r):=rfl
  rw[he];unfold Ap at ha;by_cases hu:c=117
  ·subst hu;rw[E7 rfl];have H8:Ae (CX xs) prog fu (d+4) 67 [.pbox (Bw t (117::r)),.sc (.string (ByteArray.mk #[(117:UInt8)]))]=some ⟨[.sc (.bool true)],[Bw t r]⟩:=ha;have hcd:Ae (CX xs) prog fu (d+4) 105 [.pbox (Bw t r)]=some ⟨[.sc (.int .i32 ((Mv r).1.getD 0)),.sc (.bool (Mv r).1.isSome)],[Bw t (Mv r).2]⟩:=Ajh Ev h.tail ht
   try unfold Ab
   repeat first
    |((with_reducible first|apply A5|apply As|apply A2|apply At|apply A0|apply Dr|apply Au|apply A3|apply A1);· first|with_reducible rfl|(simp (disch:=omega) only[gT,H8,hcd]<;>first|with_reducible rfl|omega)|omega)
    |(with_reducible apply A4;· first|with_reducible rfl|(simp (disch:=omega) only[gF,H8,hcd]<;>omega))
   try simp (disch:=omega) only[H8,hcd]
   rfl
  ·rw[Dz hu]
   have hb:(List.isPrefixOf [117] (c::r))=false:=by
    rw[Bool.eq_false_iff];intro hp;simp[List.isPrefixOf] at hp;exact hu hp.symm
   rw[hb,Dz (by simp)] at ha
   have H8:Ae (CX xs) prog fu (d+4) 67 [.pbox (Bw t (c::r)),.sc (.string (ByteArray.mk #[(117:UInt8)]))]=some ⟨[.sc (.bool false)],[Bw t (c::r)]⟩:=ha;rcases EF c with⟨rfl,g⟩|⟨rfl,g⟩|⟨rfl,g⟩|⟨rfl,g⟩|⟨rfl,g⟩|⟨rfl,g⟩|⟨rfl,g⟩|⟨rfl,g⟩|⟨g1,g⟩
   ·rw[g]
    try unfold Ab
    repeat first
     |((with_reducible first|apply A5|apply As|apply A2|apply At|apply A0|apply Dr|apply Au|apply A3|apply A1);· first|with_reducible rfl|(simp (disch:=omega) only[gT,H8,pk,w0,e6,Int.reduceBEq]<;>first|with_reducible rfl|omega)|omega)
     |(with_reducible apply A4;· first|with_reducible rfl|(simp (disch:=omega) only[gF,H8,pk,w0,e6,Int.reduceBEq]<;>omega))
    try simp (disch:=omega) only[H8,pk,w0,e6,Int.reduceBEq]
    rfl
   ·rw[g]
    try unfold Ab
    repeat first
     |((with_reducible first|apply A5|apply As|apply A2|apply At|apply A0|apply Dr|apply Au|apply A3|apply A1);· first|with_reducible rfl|(simp (disch:=omega) only[gT,H8,pk,w0,e6,Int.reduceBEq]<;>first|with_reducible rfl|omega)|omega)
     |(with_reducible apply A4;· first|with_reducible rfl|(simp (disch:=omega) only[gF,H8,pk,w0,e6,Int.reduceBEq]<;>omega))
    try simp (disch:=omega) only[H8,pk,w0,e6,Int.reduceBEq]
    rfl
   ·rw[g]
    try unfold Ab
    repeat first
     |((with_reducible first|apply A5|apply As|apply A2|apply At|apply A0|apply Dr|apply Au|apply A3|apply A1);· first|with_reducible rfl|(simp (disch:=omega) only[gT,H8,pk,w0,e6,Int.reduceBEq]<;>first|with_reducible rfl|omega)|omega)
     |(with_reducible apply A4;· first|with_reducible rfl|(simp (disch:=omega) only[gF,H8,pk,w0,e6,Int.reduceBEq]<;>omega))
    try simp (disch:=omega) only[H8,pk,w0,e6,Int.reduceBEq]
    rfl
   ·rw[g]
    try unfold Ab
    repeat first
     |((with_reducible first|apply A5|apply As|apply A2|apply At|apply A0|apply Dr|apply Au|apply A3|apply A1);· first|with_reducible rfl|(simp (disch:=omega) only[gT,H8,pk,w0,e6,Int.reduceBEq]<;>first|with_reducible rfl|omega)|omega)
     |(with_reducible apply A4;· first|with_reducible rfl|(simp (disch:=omega) only[gF,H8,pk,w0,e6,Int.reduceBEq]<;>omega))
    try simp (disch:=omega) only[H8,pk,w0,e6,Int.reduceBEq]
    rfl
   ·rw[g]
    try unfold Ab
    repeat first
     |((with_reducible first|apply A5|apply As|apply A2|apply At|apply A0|apply Dr|apply Au|apply A3|apply A1);· first|with_reducible rfl|(simp (disch:=omega) only[gT,H8,pk,w0,e6,Int.reduceBEq]<;>first|with_reducible rfl|omega)|omega)
     |(with_reducible apply A4;· first|with_reducible rfl|(simp (disch:=omega) only[gF,H8,pk,w0,e6,Int.reduceBEq]<;>omega))
    try simp (disch:=omega) only[H8,pk,w0,e6,Int.reduceBEq]
    rfl
   ·rw[g]
    try unfold Ab
    repeat first
     |((with_reducible first|apply A5|apply As|apply A2|apply At|apply A0|apply Dr|apply Au|apply A3|apply A1);· first|with_reducible rfl|(simp (disch:=omega) only[gT,H8,pk,w0,e6,Int.reduceBEq]<;>first|with_reducible rfl|omega)|omega)
     |(with_reducible apply A4;· first|with_reducible rfl|(simp (disch:=omega) only[gF,H8,pk,w0,e6,Int.reduceBEq]<;>omega))
    try simp (disch:=omega) only[H8,pk,w0,e6,Int.reduceBEq]
    rfl
   ·rw[g]
    try unfold Ab
    repeat first
     |((with_reducible first|apply A5|apply As|apply A2|apply At|apply A0|apply Dr|apply Au|apply A3|apply A1);· first|with_reducible rfl|(simp (disch:=omega) only[gT,H8,pk,w0,e6,Int.reduceBEq]<;>first|with_reducible rfl|omega)|omega)
     |(with_reducible apply A4;· first|with_reducible rfl|(simp (disch:=omega) only[gF,H8,pk,w0,e6,Int.reduceBEq]<;>omega))
    try simp (disch:=omega) only[H8,pk,w0,e6,Int.reduceBEq]
    rfl
   ·rw[g]
    try unfold Ab
    repeat first
     |((with_reducible first|apply A5|apply As|apply A2|apply At|apply A0|apply Dr|apply Au|apply A3|apply A1);· first|with_reducible rfl|(simp (disch:=omega) only[gT,H8,pk,w0,e6,Int.reduceBEq]<;>first|with_reducible rfl|omega)|omega)
     |(with_reducible apply A4;· first|with_reducible rfl|(simp (disch:=omega) only[gF,H8,pk,w0,e6,Int.reduceBEq]<;>omega))
    try simp (disch:=omega) only[H8,pk,w0,e6,Int.reduceBEq]
    rfl
   ·rw[g];obtain⟨n1,n2,n3,n4,n5,n6,n7,n8⟩:=g1;have m1:(c==(34:Int))=false:=by simp[n1]
    have m2:(c==(92:Int))=false:=by simp[n2]
    have m3:(c==(47:Int))=false:=by simp[n3]
    have m4:(c==(98:Int))=false:=by simp[n4]
    have m5:(c==(102:Int))=false:=by simp[n5]
    have m6:(c==(110:Int))=false:=by simp[n6]
    have m7:(c==(114:Int))=false:=by simp[n7]
    have m8:(c==(116:Int))=false:=by simp[n8]
    try unfold Ab
    repeat first
     |((with_reducible first|apply A5|apply As|apply A2|apply At|apply A0|apply Dr|apply Au|apply A3|apply A1);· first|with_reducible rfl|(simp (disch:=omega) only[gT,H8,pk,w0,e6,m1,m2,m3,m4,m5,m6,m7,m8]<;>first|with_reducible rfl|omega)|omega)
     |(with_reducible apply A4;· first|with_reducible rfl|(simp (disch:=omega) only[gF,H8,pk,w0,e6,m1,m2,m3,m4,m5,m6,m7,m8]<;>omega))
    try simp (disch:=omega) only[H8,pk,w0,e6,m1,m2,m3,m4,m5,m6,m7,m8]
    rfl
theorem O7 {t:ByteArray}{l:List Int}(h:Cz t l):Cz t (Lv l).2:=by
 have Apu:∀l,Cz t l->Cz t (Mv l).2:=by
  intro l h;have h1:=Si 4 0 l h;unfold Mv;rcases hq:Qx 4 0 l with⟨o,r⟩;rw[hq] at h1;cases o with
  |none=>exact h1
  |some x=>
   simp only;split
   ·exact h1
   split
   ·exact h1
   split
   ·have h2:=Si 4 0 (r.drop 2) (Cz.drop h1 2);unfold TQ;rcases J5:Qx 4 0 (r.drop 2) with⟨o2,r2⟩;rw[J5] at h2;cases o2 with
    |none=>exact h2
    |some y=>
     simp only;split<;>exact h2
   ·exact h1
 cases l with
 |nil=>exact h
 |cons c r=>
  have he:Lv (c::r)=if c=117 then Mv r else match Rl c with|some x=>(some x,r)|none=>(none,c::r):=rfl
  rw[he];split
  ·exact Apu r h.tail
  ·cases Rl c with
   |none=>exact h
   |some x=>exact h.tail
end
end
section
open Go.Proofs.Tryd (prog)
open Go.IntKind (wrap)
set_option maxRecDepth 20000
open Go Go.RowKit
theorem D9.refl (w:World)(b o n:Nat):D9 w w b o n:=⟨rfl,rfl,rfl,Nat.le_refl _,Fz.refl _ _,fun _ _ _=>rfl,fun _ _=>rfl,fun _ _=>rfl⟩
theorem D9.trans {w w' w'':World}{b o n:Nat}(h:D9 w w' b o n)(k:D9 w' w'' b o n):D9 w w'' b o n:=
 ⟨k.os.trans h.os,k.tape.trans h.tape,k.output.trans h.output,Nat.le_trans h.size k.size,h.grow.trans k.grow,fun i hi Ee=>(k.other i (Nat.lt_of_lt_of_le hi h.size) Ee).trans (h.other i hi Ee),fun j hj=>(k.cells j hj).trans (h.cells j hj),fun j hj=>(k.frz j hj).trans (h.frz j hj)⟩
theorem D9.below {w w' w'':World}{b o n:Nat}(h:D9 w w' b o n)(k:Below w.heap.size w' w'')(hb:b<w.heap.size):D9 w w'' b o n:=
 ⟨k.os.trans h.os,k.tape.trans h.tape,k.output.trans h.output,Nat.le_trans h.size k.size,h.grow.trans (Fz.same (k.block b hb)),fun i hi Ee=>(k.block i hi).trans (h.other i hi Ee),fun j hj=>(k.cell (p:=⟨b,j,none⟩) hb).trans (h.cells j hj),fun j hj=>(k.frozen (p:=⟨b,j,none⟩) hb).trans (h.frz j hj)⟩
theorem D9.drew {w w':World}{b o n:Nat}(h:D9 w w' b o n):D9 w w'.drew b o n:=⟨h.os,h.tape,h.output,h.size,h.grow,h.other,h.cells,h.frz⟩
theorem D9.setCell (w:World)(b o n j:Nat)(v:Value)(hj:o<=j)(hj2:j<o+n)(hb:b<w.heap.size):D9 w (w.setCell ⟨b,j,none⟩ v) b o n:=by
 have hw:De b w (w.setCell ⟨b,j,none⟩ v):=De.setCells b [v] j w;refine⟨hw.os,hw.tape,hw.output,Nat.le_of_eq hw.size.symm,hw.grow b,fun k hk Ee=>hw.other k Ee,fun i hi=>?_,fun i _=>hw.frz i⟩
 exact World.cell?_setCell_other _ _ _ _ (by intro e;injection e;omega)
theorem Tr {T e:TypeId}{B c:Nat}{bs:List Value}{W W':World}{b o n:Nat}(h:Lib.IsBuilderF T e B c bs W)(hk:D9 W W' b o n)(hb:b<B):Lib.IsBuilderF T e B c bs W':=by
 have key:∀p,Lib.BuilderAtF T e B c p bs W->Lib.BuilderAtF T e B c p bs W':=by
  intro p h;have B4:=h.lt;obtain⟨hB,v,hv,Fa,Ee⟩:=h;refine⟨hB,v,(hk.other c B4 (by omega)).trans hv,Fa.kept (row:=some b) ⟨hk.os,hk.tape,hk.output,hk.size,fun k I1 Alo=>hk.other k I1 (fun e=>Alo (by rw[e]))⟩ ?_,Ee⟩
  rcases Fa.2 with⟨rfl,_⟩|⟨g,cap,cur,fz,rfl,hg,_⟩
  ·exact .inl rfl
  ·refine .inr (fun e=>?_)
   simp[Value.ownBlock] at e;omega
 exact h.imp (key _) (key _)
def GR:R0:=⟨fun _=>False,fun _=>True,fun _ _ _ _=>trivial⟩
def noR:FuncId->Option (List PV->Option Ay):=fun _=>none
theorem Anj:DY GR prog (CX noR):=by
 intro f g args res h _;have h':(bif T7.any (Nat.beq f) then none else (none:Option (List PV->Option Ay)))=some g:=h;cases hb:T7.any (Nat.beq f)<;>rw[hb] at h'<;>cases h'
theorem ngR:NoNG prog:=by
 have h:(prog.funcs.toList.all fun fn=> !(fn.name == "runtime.NumGoroutine"))=true:=by kernel_rfl
 intro f fn hf;have:=List.all_eq_true.1 h fn (Array.mem_toList_iff.2 (Array.mem_of_getElem? hf))
 simpa using this
theorem mxR:prog.follows .mixedOrders=true:=by kernel_rfl
structure Sr (w:World) (b o:Nat) (t:ByteArray) (r:List Int):Prop where
 lt:b<w.heap.size
 c0:w.cell? ⟨b,o,none⟩=some (.string t)
 c1:w.cell? ⟨b,o+1,none⟩=some (.int .i64 (Bp t r:Int))
 f0:w.frozen? ⟨b,o,none⟩=false
 f1:w.frozen? ⟨b,o+1,none⟩=false
theorem GK {f:FuncId}{t:ByteArray}{r r':List Int}{args vals:List PV}{us rs:List Value}{d:Nat}(e:Ae (CX noR) prog 2000 d f (.pbox (Bw t r)::args)=some ⟨vals,[Bw t r']⟩) (ha:Bb Yo args us)(hr:Bb Yo vals rs)
  {w:World} {b o:Nat} (h:Sr w b o t r):Calls prog f (.pointer (some ⟨b,o,none⟩)::us).toArray w fun e w'=>e=.returned (Gq rs)∧Sr w' b o t r'∧D9 w w' b o 2:=by
 have hs:Cy GR prog f (.pbox ([Value.string t,.int .i64 (Bp t r:Int)].map .sc)::args) ⟨vals,[[Value.string t,.int .i64 (Bp t r':Int)].map .sc]⟩:=G6 ngR mxR Anj d f _ _ e;refine (DV hs ha hr (w:=w) (b:=b) (o:=o) trivial (fun _ h=>h.elim) h.lt ?_ ?_).mono ?_
 ·intro j v hv
  match j,hv with
  |0,hv=>cases hv;exact h.c0
  |1,hv=>cases hv;exact h.c1
 ·intro j hj
  match j,hj with
  |0,_=>exact h.f0
  |1,_=>exact h.f1
 ·rintro e w' ⟨rfl,_,h4,h5,hk⟩
  exact⟨rfl,⟨Nat.lt_of_lt_of_le h.lt hk.size,h4 0 _ rfl,h4 1 _ rfl,h5 0 (Nat.zero_lt_succ _),h5 1 (Nat.succ_lt_succ (Nat.zero_lt_succ _))⟩,hk⟩
theorem Gc {t:ByteArray}{r w0:List Int}(hS:Cz t r)(ht:t.size<=1000000)(hw:Dq w0)(hw2:w0.length<=100){w:World}{b o:Nat}(h:Sr w b o t r):
  Calls prog 67 #[.pointer (some ⟨b,o,none⟩),.string (Ac w0)] w fun e w'=>e=.returned (.bool (Ap w0 r).isSome)∧Sr w' b o t ((Ap w0 r).getD r)∧D9 w w' b o 2:=by
 have e:=Pb (fu:=2000) (d:=0) (xs:=noR) hS ht hw hw2;cases hq:Ap w0 r with
 |none=>
  rw[hq] at e;exact GK (us:=[.string (Ac w0)]) (rs:=[.bool false]) e ⟨.inl rfl,trivial⟩ ⟨.inl rfl,trivial⟩ h
 |some r'=>
  rw[hq] at e;exact GK (us:=[.string (Ac w0)]) (rs:=[.bool true]) e ⟨.inl rfl,trivial⟩ ⟨.inl rfl,trivial⟩ h
theorem UZ {t:ByteArray}{r:List Int}(hS:Cz t r)(ht:t.size<=1000000){w:World}{b o:Nat}(h:Sr w b o t r):
  Calls prog 88 #[.pointer (some ⟨b,o,none⟩)] w fun e w'=>e=.returned (.tuple #[.int .i32 ((Lv r).1.getD 0),.bool (Lv r).1.isSome])∧Sr w' b o t (Lv r).2∧D9 w w' b o 2:=by
 have e:=Arm (fu:=2000) (d:=0) (xs:=noR) (by omega) hS ht
 exact GK (us:=[]) (rs:=[.int .i32 ((Lv r).1.getD 0),.bool (Lv r).1.isSome]) e trivial ⟨.inl rfl,.inl rfl,trivial⟩ h
end
section
open Go.Proofs.Tryd (prog)
open Go.IntKind (wrap)
set_option maxRecDepth 1000000
open Go Go.RowKit Go.Lib
def Aua (o:Option (List Int)):Value:=.tuple #[.string (Ac (o.getD [])),.bool o.isSome]
theorem Sr.below {B:Nat}{w w':World}{b o:Nat}{t:ByteArray}{r:List Int}(h:Sr w b o t r)(hb:Below B w w')(hB:b<B):Sr w' b o t r:=
 ⟨Nat.lt_of_lt_of_le h.lt hb.size,(hb.cell (p:=⟨b,o,none⟩) hB).trans h.c0,(hb.cell (p:=⟨b,o+1,none⟩) hB).trans h.c1,(hb.frozen (p:=⟨b,o,none⟩) hB).trans h.f0,(hb.frozen (p:=⟨b,o+1,none⟩) hB).trans h.f1⟩
theorem Aa2 {l:List Int}(h:Dq l):(Lv l).2.length<=l.length:=by
 have h1:Cz (Ac l) l:=⟨[],by rw[C9 h];rfl⟩
 have:=(O7 h1).len
 rwa [Aw] at this
theorem FU {l r:List Int}{x:Int}(h:Mv l=(some x,r)):0<=x∧x<=1114111:=by
 have hb:=F7 4 0 l;unfold Mv at h;rcases hq:Qx 4 0 l with⟨o,r1⟩;rw[hq] at h;cases o with
 |none=>cases h
 |some y=>
  have by_:=hb y r1 hq (by omega)
  simp only at h;split at h
  ·cases h
  split at h
  ·cases h;omega
  split at h
  ·have Gw:=F7 4 0 (r1.drop 2);unfold TQ at h;rcases J5:Qx 4 0 (r1.drop 2) with⟨o2,r2⟩;rw[J5] at h;cases o2 with
   |none=>cases h
   |some z=>
    have bz:=Gw z r2 J5 (by omega)
    simp only at h;split at h
    ·rename_i hz
     have lz:56320<=z∧z<=57343:=by
      unfold GX at hz
      simpa using hz
     cases h;omega
    ·cases h
  ·cases h
theorem KY {l r:List Int}{x:Int}(h:Lv l=(some x,r)):0<=x∧x<=1114111:=by
 cases l with
 |nil=>cases h
 |cons c l=>
  have he:Lv (c::l)=if c=117 then Mv l else match Rl c with|some x=>(some x,l)|none=>(none,c::l):=rfl
  rw[he] at h;split at h
  ·exact FU h
  ·rcases EF c with⟨rfl,g⟩|⟨rfl,g⟩|⟨rfl,g⟩|⟨rfl,g⟩|⟨rfl,g⟩|⟨rfl,g⟩|⟨rfl,g⟩|⟨rfl,g⟩|⟨g1,g⟩<;>rw[g] at h<;>cases h<;>omega
set_option maxHeartbeats 4000000 in
theorem LG {t:ByteArray}{r:List Int}(hS:Cz t r)(ht:t.size<=1000000){w:World}{b o:Nat}(h:Sr w b o t r):
    Calls prog 68 #[.pointer (some ⟨b,o,none⟩)] w fun e w'=>e=.returned (Aua (Eo r).1)∧Sr w' b o t (Eo r).2∧D9 w w' b o 2:=by
  have mixed:prog.follows Departure.mixedOrders=true:=by kernel_rfl
  have hac:=Gc hS ht (w0:=[34]) (fun x hx=>by simp at hx;omega) (by decide) h
  go_enter Tryd.func68,Tryd.ntmps68
  go_wp2_with (go_at_call 67;refine hac.mono ?_)
  rintro e W1 ⟨rfl,h1,k1⟩
  cases hq:Ap [34] r with
  |none=>
    rw[hq] at h1
    go_wp2
    go_ret2
    have e:Eo r=(none,r):=by
      cases r with
      |nil=>rfl
      |cons c l=>
        have hc:c≠34:=by
          rintro rfl
          unfold Ap at hq
          rw[E7 (by simp[List.isPrefixOf])] at hq
          cases hq
        show (if c=34 then _ else (none,c::l))=_
        rw[Dz hc]
    rw[e]
    exact⟨rfl,h1,k1⟩
  |some r1=>
    rw[hq] at h1
    have BB:r=34::r1:=by
      unfold Ap at hq
      split at hq
      · rename_i hp
        obtain⟨s,hs⟩:=List.isPrefixOf_iff_prefix.1 hp
        rw[←hs] at hq ⊢
        cases hq
        rfl
      · cases hq
    subst BB
    have e:Eo (34::r1)=Jd (r1.length+1) [] r1:=by
      show (if (34:Int)=34 then Jd (r1.length+1) [] r1 else (none,34::r1))=_
      exact E7 rfl
    have VO:Cz t r1:=hS.tail
    have h2:Sr (W1.alloc (.cells #[.pointer none,.slice none 0 0] 53)) b o t r1:=by
      have hb:Below W1.heap.size W1 (W1.alloc (.cells #[.pointer none,.slice none 0 0] 53)):=(Below.refl _ W1).alloc (Nat.le_refl _) _
      exact⟨Nat.lt_of_lt_of_le h1.lt hb.size,(hb.cell (p:=⟨b,o,none⟩) h1.lt).trans h1.c0,(hb.cell (p:=⟨b,o+1,none⟩) h1.lt).trans h1.c1,(hb.frozen (p:=⟨b,o,none⟩) h1.lt).trans h1.f0,(hb.frozen (p:=⟨b,o+1,none⟩) h1.lt).trans h1.f1⟩
    have k2:D9 w (W1.alloc (.cells #[.pointer none,.slice none 0 0] 53)) b o 2:=k1.below ((Below.refl _ W1).alloc (Nat.le_refl _) _ |>.mono k1.size) h.lt
    have hB1:b<W1.heap.size:=h1.lt
    have hw1:w.heap.size<=W1.heap.size:=k1.size
    go_wp2
    go_loopw [] (fun wr=>∃(n:Nat) (out l:List Int),Jd (r1.length+1) [] r1=Jd n out l∧l.length<n∧Dq out∧out.length+4*l.length<=4*t.size∧Cz t l∧Sr wr b o t l∧D9 w wr b o 2∧W1.heap.size<=wr.heap.size∧Lib.IsBuilderF 53 5 W1.heap.size W1.heap.size (LZ out) wr) (fun wr=>match wr.cell? ⟨b,o+1,none⟩ with|some (.int _ p)=>t.size-p.toNat|_=>0)
    case atStart=>
      exact⟨r1.length+1,[],r1,rfl,Nat.lt_succ_self _,(fun x hx=>by cases hx),(by have:=VO.len;simp;omega),VO,h2,k2,((Below.refl W1.heap.size W1).alloc (Nat.le_refl _) _).size,Lib.IsBuilderF.of (Lib.fresh_isBuilder 53 5 W1)⟩
    case round=>
      obtain⟨n,out,l,E8,hn,hoB,hol,hSl,hat,hk,hws,hI⟩:=Alk
      obtain⟨B4,VJ,BD,hf0,hf1⟩:=hat
      cases l with
      |nil=>
        rw[So] at BD
        go_wp2
        go_region_o
        go_wp2
        go_ret2
        rw[e,E8]
        obtain⟨m,rfl⟩:∃m,n=m+1:=⟨n-1,by omega⟩
        exact⟨rfl,⟨B4,VJ,BD,hf0,hf1⟩,hk.drew⟩
      |cons c l=>
        obtain⟨m,rfl⟩:∃m,n=m+1:=⟨n-1,by omega⟩
        obtain⟨bb,TU,rfl⟩:=hSl.at
        have hll:=hSl.len
        have Sd:Bp t ((bb.toNat:Int)::l)<t.size:=by
          unfold Bp
          rw[PG] at hll ⊢
          omega
        have SI:=J8 hSl
        have MP:t[Bp t ((bb.toNat:Int)::l)]'hpl=bb:=by
          rw[Array.getElem?_toList,Array.getElem?_eq_getElem Sd] at TU
          exact Option.some.inj TU
        have hcb:=bb.toNat_lt
        generalize hp:Bp t ((bb.toNat:Int)::l)=p at *
        have A7q:(p:Int)<t.size:=by omega
        have kw:D9 wr (wr.setCell ⟨b,o+1,none⟩ (.int .i64 ((p:Int)+1))).drew.drew b o 2:=((D9.setCell wr b o 2 (o+1) _ (by omega) (by omega) B4).drew).drew
        have D6:=hk.trans kw
        have OZ:=Tr hI kw hB1
        have IH:Sr (wr.setCell ⟨b,o+1,none⟩ (.int .i64 ((p:Int)+1))).drew.drew b o t l:=by
          refine⟨Nat.lt_of_lt_of_le B4 kw.size,?_,?_,?_,?_⟩
          · exact (World.cell?_setCell_other _ _ _ _ (by intro e;injection e;omega)).trans VJ
          · have:(Bp t l:Int)=(p:Int)+1:=by omega
            rw[this]
            exact World.cell?_setCell_same _ _ _ BD
          · exact (World.frozen?_setCell _ _ _ _).trans hf0
          · exact (World.frozen?_setCell _ _ _ _).trans hf1
        have Afb:W1.heap.size<=(wr.setCell ⟨b,o+1,none⟩ (.int .i64 ((p:Int)+1))).drew.drew.heap.size:=Nat.le_trans hws kw.size
        have XU:Jd (m+1) out ((bb.toNat:Int)::l)=if (bb.toNat:Int)<32 then (none,(bb.toNat:Int)::l) else if (bb.toNat:Int)=34 then (some out,l) else if (bb.toNat:Int)=92 then
            (match Lv l with
             |(some x,r')=>Jd m (out++Lib.encodeRuneZ x) r'
             |(none,r')=>(none,r')) else Jd m (out++[(bb.toNat:Int)]) l:=rfl
        rw[XU] at E8
        have A44:(LZ out).length+4<=140737488355328:=by
          rw[List.length_map]
          omega
        by_cases Asq:(bb.toNat:Int)<32
        · rw[E7 Asq] at E8
          go_wp2
          go_region_o
          go_wp2
          go_region_o
          go_wp2
          go_ret2
          rw[e,E8]
          exact⟨rfl,⟨B4,VJ,by rw[hp];exact BD,hf0,hf1⟩,hk.drew.drew⟩
        · rw[Dz Asq] at E8
          by_cases Ar1:(bb.toNat:Int)=34
          · rw[E7 Ar1] at E8
            go_wp2
            go_region_o
            go_wp2
            go_region_o
            go_wp2_with (go_at_call 25;refine (Any.Builder_String_any_k Zg Qa W1.heap.size W1.heap.size (out.map fun n=>n.toNat.toUInt8) _ (by rw[←Vl hoB];exact OZ) Afb).mono ?_)
            rintro e2 W3 ⟨rfl,_,b3,_⟩
            go_wp2
            go_ret2
            rw[e,E8]
            exact⟨rfl,IH.below b3 hB1,D6.below (b3.mono hw1) h.lt⟩
          · rw[Dz Ar1] at E8
            by_cases Aow:(bb.toNat:Int)=92
            · rw[E7 Aow] at E8
              have Df:=UZ hSl.tail ht IH
              go_wp2
              go_region_o
              go_wp2
              go_region_o
              go_wp2_with (go_at_call 88;refine Df.mono ?_)
              rintro e2 W3 ⟨rfl,XF,k3⟩
              have I2:=D6.trans k3
              have hI3:=Tr OZ k3 hB1
              have Ase:=Nat.le_trans Afb k3.size
              have hel:=Aa2 (l:=l) hSl.tail.B
              have Qp:=O7 hSl.tail
              rcases hqe:Lv l with⟨oe,le⟩
              rw[hqe] at XF E8 hel Qp
              cases oe with
              |none=>
                go_wp2
                go_ret2
                rw[e,E8]
                exact⟨rfl,XF,I2⟩
              |some x=>
                have I3:=KY hqe
                go_wp2_with (go_at_call 89;refine (Any.Builder_WriteRune_k RI Qa W1.heap.size W1.heap.size _ x (by omega) (by omega) _ hI3 (by omega) Ase).mono ?_)
                rintro e3 W4 ⟨rfl,i4,b4,_⟩
                go_wp2
                have Aqd:=XF.below b4 hB1
                have hrl:=Lib.encodeRuneZ_length x
                refine⟨⟨m,out++Lib.encodeRuneZ x,le,E8,by simp at hn hel;omega,Kc hoB (fun y hy=>by have:=Lib.encodeRuneZ_byte x y hy;omega),by simp at hol hel ⊢;omega,Qp,Aqd,I2.below (b4.mono hw1) h.lt,Nat.le_trans Ase b4.size,by rw[GQ];exact Or.inr i4⟩,?_⟩
                have Wv:=Qp.len
                have GC:Bp t l<=Bp t le:=by unfold Bp;omega
                have hp4:Bp t le<=t.size:=Nat.sub_le _ _
                simp only[Aqd.c1,BD,Oj]
                omega
            · rw[Dz Aow] at E8
              go_wp2
              go_region_o
              go_wp2
              go_region_o
              go_wp2_with (go_at_call 24;refine (Any.Builder_WriteByte_k Yg Qa W1.heap.size W1.heap.size _ _ _ OZ (by omega) Afb).mono ?_)
              rintro e2 W3 ⟨rfl,i3,b3,_⟩
              go_wp2
              have XF:=IH.below b3 hB1
              refine⟨⟨m,out++[(bb.toNat:Int)],l,E8,by simp at hn;omega,Kc hoB (fun x hx=>by simp at hx;omega),by simp at hol ⊢;omega,hSl.tail,XF,D6.below (b3.mono hw1) h.lt,Nat.le_trans Afb b3.size,by rw[GQ];exact Or.inr i3⟩,?_⟩
              simp only[XF.c1,BD,Oj]
              omega
end
section
open Go.Proofs.Tryd (prog)
open Go.IntKind (wrap)
set_option maxRecDepth 100000
open Go Go.RowKit
theorem AN {t:ByteArray}:∀(n:Nat)(out l:List Int),Cz t l->Cz t (Jd n out l).2
  |0,_,_,h=>h
  |_+1,_,[],h=>h
  |n+1,out,c::l,h=>by
    have e:Jd (n+1) out (c::l)=if c<32 then (none,c::l) else if c=34 then (some out,l) else if c=92 then
        (match Lv l with
         |(some x,r')=>Jd n (out++Lib.encodeRuneZ x) r'
         |(none,r')=>(none,r')) else Jd n (out++[c]) l:=rfl
    rw[e]
    split
    · exact h
    split
    · exact h.tail
    split
    · have h2:=O7 h.tail
      rcases hq:Lv l with⟨o,r⟩
      rw[hq] at h2
      cases o with
      |none=>exact h2
      |some x=>exact AN n _ r h2
    · exact AN n _ l h.tail
theorem Ge {t:ByteArray}{l:List Int}(h:Cz t l):Cz t (Eo l).2:=by
 cases l with
 |nil=>exact h
 |cons c l=>
  have e:Eo (c::l)=if c=34 then Jd (l.length+1) [] l else (none,c::l):=rfl
  rw[e];split
  ·exact AN _ _ _ h.tail
  ·exact h
theorem Acq {w w':World}{Y:Nat->Prop}{bt:Ud}{vs vs':List Value}{us:List Value}{b o:Nat}{a c:Value}(hi:Ins w Y bt [.pbox (vs.map .sc)] us) (hb:bt 0 0=some (b,o)) (hk:D9 w w' b o vs.length)(hl:vs'.length=vs.length)
  (hc:∀j v,vs'[j]?=some v->w'.cell? ⟨b,o+j,none⟩=some v) (hf:∀j,j<vs.length->w'.frozen? ⟨b,o+j,none⟩=false):
  Out w w' Y bt [.pbox (vs.map .sc)] (fun _=>none) ⟨[.sc a,.sc c],[vs'.map .sc]⟩ [a,c] where
 os:=hk.os
 tape:=hk.tape
 output:=hk.output
 ext:=⟨hk.size,fun k h Ee=>hk.other k h (fun e=>Ee (by rw[e];exact⟨0,0,o,hb⟩)),fun k h=>by
  by_cases e:k=b
  ·rw[e];exact hk.grow
  ·exact Fz.same (hk.other k h e)⟩
 rng:=fun k j h hn=>by
  by_cases e:k=b
  ·subst e
   have hj:j<o∨o+vs.length<=j:=by
    rcases Nat.lt_or_ge j o with h1|h1
    ·exact .inl h1
    ·rcases Nat.lt_or_ge j (o+vs.length) with h2|h2
     ·exact absurd ⟨0,_,rfl,.inr ⟨o,vs.map .sc,hb,h1,.inl ⟨rfl,by rw[List.length_map];exact h2⟩⟩⟩ hn
     ·exact .inr h2
   exact⟨hk.cells j hj,hk.frz j hj⟩
  ·have:=hk.other k h e;exact⟨by unfold World.cell?;simp only[this],by unfold World.frozen?;simp only[this]⟩
 vals:=⟨Ar.sc a,Ar.sc c,trivial⟩
 outs:=⟨⟨b,o,hb,by rw[List.length_map,List.length_map,hl],vs',Pz,hc,fun k h=>hf k (by rw[List.length_map,hl] at h;exact h)⟩,rfl⟩
 fresh:=fun j b o h=>by cases h
 inj:=fun j j' b o o' h=>by cases h
theorem VM (G:R0)(args:List PV)(res:Ay)(h:ZV args=some res):Cy G prog 68 args res:=by
 refine⟨⟨_,Tryd.func68,by kernel_rfl⟩,fun w Y bt us hi _ _=>?_⟩
 unfold ZV at h;split at h
 rotate_left
 ·cases h
 rename_i t p;cases hq:(decide (0<=p)&&decide (p<=t.size)&&Nat.ble t.size 1000000)
 ·rw[hq] at h;cases h
 rw[hq,cond_true] at h;simp only[Bool.and_eq_true,decide_eq_true_eq] at hq;obtain⟨⟨Gn,Cb⟩,hm⟩:=hq;have hm:=Nat.le_of_ble_eq_true hm;obtain⟨p,rfl⟩:=Int.eq_ofNat_of_zero_le Gn;rw[Oj] at h;have hS:Cz t ((D1 t).drop p):=(Cz.all t).drop p
 have UL:(Bp t ((D1 t).drop p):Int)=(p:Int):=by
  unfold Bp;rw[List.length_drop,Es];omega
 have ps:=hi.args
 match us,ps with
 |[u1],ps=>
  obtain⟨b,o,hb,rfl,_,vs,Xx,Cm,YE⟩:=ps.1;have Ob:=Py (vs:=[.string t,.int .i64 (p:Int)]) Xx;subst Ob;have hat:Sr w b o t ((D1 t).drop p):=⟨hi.lt b ⟨0,0,o,hb⟩,Cm 0 _ rfl,by rw[UL];exact Cm 1 _ rfl,YE 0 (Nat.zero_lt_succ _),YE 1 (Nat.succ_lt_succ (Nat.zero_lt_succ _))⟩
  refine (LG hS hm hat).mono ?_
  rintro e w' ⟨rfl,IH,hk⟩
  rcases hx:Eo ((D1 t).drop p) with⟨o2,r2⟩;rw[hx] at h IH
  have EZ:r2.length<=t.size:=by
   have:=Ge hS;rw[hx] at this;exact this.len
  have Aps:(Bp t r2:Int)=(t.size:Int)-r2.length:=by
   unfold Bp;omega
  have Rq:∀a c:Value,Out w w' Y bt [.pbox ([Value.string t,.int .i64 (p:Int)].map .sc)] (fun _=>none) ⟨[.sc a,.sc c],[[Value.string t,.int .i64 ((t.size:Int)-r2.length)].map .sc]⟩ [a,c]:=by
   intro a c;refine Acq hi hb hk rfl ?_ ?_
   ·intro j v hv
    match j,hv with
    |0,hv=>cases hv;exact IH.c0
    |1,hv=>cases hv;rw[←Aps];exact IH.c1
   ·intro j hj
    match j,hj with
    |0,_=>exact IH.f0
    |1,_=>exact IH.f1
  cases o2 with
  |none=>
   cases h;exact⟨[.string ⟨#[]⟩,.bool false],fun _=>none,rfl,Rq _ _⟩
  |some s=>
   cases h;exact⟨[.string (Ac s),.bool true],fun _=>none,rfl,Rq _ _⟩
 |[],ps=>exact ps.elim
 |_::_::_,ps=>exact ps.2.elim
end
section
open Go.Proofs.Tryd (prog)
open Go.IntKind (wrap)
set_option maxRecDepth 100000
abbrev Jk:FuncId:=27
theorem Jo {p:Option (List PV->Option Ay)} (fu d:Nat)(a0:ByteArray)(a1:Int):Ae (CP p) prog fu (d+1) Jk [.sc (.string a0),.sc (.int .u8 a1)]=(fun (call:Ax)=>Ah (call 40 [.sc (.string a0),.sc (.int .u8 a1)]) fun x1 x2=>Ad x2<|Aa x1 fun x3 x4=>Ak .i64 x3 fun x5=>Ad x4<|some (Ay.mk [.sc (.int .i64 x5)] [])) (Ae (CP p) prog fu d):=by kernel_rfl
abbrev Fb:FuncId:=50
noncomputable def Cw (fu:Nat)(call:Ax)(Br:ByteArray)(Bl:Int)(nn:Nat)(y0:ByteArray)(y1:Int):Option Ay:=Is CB prog fu call 50 Tryd.f50 (F4 Tryd.f50) [.pbox [.sc (.string Br),.sc (.int .i64 Bl)]] [.l] nn ⟨lk [(0,(.ptr 64000 0))],Jh [(64000,(.st [(.sc (.string y0)),(.sc (.int .i64 y1))]))]⟩
theorem Ep (fu:Nat)(call:Ax)(Br:ByteArray)(Bl:Int)(nn:Nat)(y0:ByteArray)(y1:Int):Cw fu call Br Bl (nn+1) y0 y1=(Bh (decide (y1<(↑(ByteArray.size y0):Int))) (Bi (decide (0<=y1))<|Dk ((Array.toList (ByteArray.data y0))[Int.toNat y1]?) fun x1=>Ah (call 27 [.sc (.string (ByteArray.mk #[32,9,10,13])),.sc (.int .u8 (↑(UInt8.toNat x1):Int))]) fun x2 x3=>Ad x3<|Aa x2 fun x4 x5=>Ak .i64 x4 fun x6=>Ad x5<|Bh (decide (x6>=0)) (Ab (wrap .i64 (y1+1)) fun x7=>Cw fu call Br Bl (nn) (y0) x7) (some (Ay.mk [] [[.sc (.string y0),.sc (.int .i64 y1)]]))) (some (Ay.mk [] [[.sc (.string y0),.sc (.int .i64 y1)]]))):=by kernel_rfl
theorem Il {p:Option (List PV->Option Ay)} (fu d:Nat)(Br:ByteArray)(Bl:Int):Ae (CP p) prog fu (d+1) Fb [.pbox [.sc (.string Br),.sc (.int .i64 Bl)]]=(fun (call:Ax)=>Cw fu call Br Bl (fu) (Br) (Bl)) (Ae (CP p) prog fu d):=by kernel_rfl
abbrev E6:FuncId:=107
noncomputable def Cq (fu:Nat)(call:Ax)(Br:ByteArray)(Bl:Int)(nn:Nat)(y0:Int)(y1:ByteArray)(y2:Int):Option Ay:=Is CB prog fu call 107 Tryd.f107 (F4 Tryd.f107) [.pbox [.sc (.string Br),.sc (.int .i64 Bl)]] [.r,.r,.l,.l] nn ⟨lk [(0,(.ptr 58000 0)),(3,(.sc (.int .i64 y0)))],Jh [(58000,(.st [(.sc (.string y1)),(.sc (.int .i64 y2))]))]⟩
theorem El (fu:Nat)(call:Ax)(Br:ByteArray)(Bl:Int)(nn:Nat)(y0:Int)(y1:ByteArray)(y2:Int):Cq fu call Br Bl (nn+1) y0 y1 y2=(Ah (call 90 [.pbox [.sc (.string y1),.sc (.int .i64 y2)]]) fun x1 x2=>Aa x1 fun x3 x4=>Ak .u8 x3 fun x5=>Ad x4<|Aa x2 fun x6 x7=>Aa x6 fun x8 x9=>Az x8 fun Fv=>Aa x9 fun Lr L3=>Ak .i64 Lr fun Ff=>Ad L3<|Ad x7<|Bh (decide (x5>=48)) (Ah (call 90 [.pbox [.sc (.string Fv),.sc (.int .i64 Ff)]]) fun Je Mb=>Aa Je fun K2 I4=>Ak .u8 K2 fun Lw=>Ad I4<|Aa Mb fun L4 Ml=>Aa L4 fun Mi N6=>Az Mi fun K4=>Aa N6 fun Nq L1=>Ak .i64 Nq fun L5=>Ad L1<|Ad Ml<|Bh (decide (Lw<=57)) (Ab (wrap .i64 (L5+1)) fun Mk=>Cq fu call Br Bl (nn) (y0) K4 Mk) (some (Ay.mk [.sc (.bool (decide (L5>y0)))] [[.sc (.string K4),.sc (.int .i64 L5)]]))) (some (Ay.mk [.sc (.bool (decide (Ff>y0)))] [[.sc (.string Fv),.sc (.int .i64 Ff)]]))):=by kernel_rfl
theorem H5 {p:Option (List PV->Option Ay)} (fu d:Nat)(Br:ByteArray)(Bl:Int):Ae (CP p) prog fu (d+1) E6 [.pbox [.sc (.string Br),.sc (.int .i64 Bl)]]=(fun (call:Ax)=>Cq fu call Br Bl (fu) (Bl) (Br) (Bl)) (Ae (CP p) prog fu d):=by kernel_rfl
abbrev E3:FuncId:=92
theorem Ag {p:Option (List PV->Option Ay)} (fu d:Nat)(Br:ByteArray)(Bl:Int):Ae (CP p) prog fu (d+1) E3 [.pbox [.sc (.string Br),.sc (.int .i64 Bl)]]=(fun (call:Ax)=>Ah (call 67 [.pbox [.sc (.string Br),.sc (.int .i64 Bl)],.sc (.string (ByteArray.mk #[45]))]) fun x1 x2=>Aa x1 fun x3 x4=>Aq x3 fun x5=>Ad x4<|Aa x2 fun x6 x7=>Aa x6 fun x8 x9=>Az x8 fun Fv=>Aa x9 fun Lr L3=>Ak .i64 Lr fun Ff=>Ad L3<|Ad x7<|Ah (call 67 [.pbox [.sc (.string Fv),.sc (.int .i64 Ff)],.sc (.string (ByteArray.mk #[48]))]) fun Je Mb=>Aa Je fun K2 I4=>Aq K2 fun Lw=>Ad I4<|Aa Mb fun L4 Ml=>Aa L4 fun Mi N6=>Az Mi fun K4=>Aa N6 fun Nq L1=>Ak .i64 Nq fun L5=>Ad L1<|Ad Ml<|Bh (!Lw) (Ah (call 107 [.pbox [.sc (.string K4),.sc (.int .i64 L5)]]) fun Mk Oi=>Aa Mk fun Me Oa=>Aq Me fun Om=>Ad Oa<|Aa Oi fun Oc M9=>Aa Oc fun Ol Pj=>Az Ol fun Q7=>Aa Pj fun Se S1=>Ak .i64 Se fun Pu=>Ad S1<|Ad M9<|Bh (!Om) (some (Ay.mk [.sc (.bool false)] [[.sc (.string Q7),.sc (.int .i64 Pu)]])) (Ah (call 67 [.pbox [.sc (.string Q7),.sc (.int .i64 Pu)],.sc (.string (ByteArray.mk #[46]))]) fun AZ BA=>Aa AZ fun Qm Qj=>Aq Qm fun Zo=>Ad Qj<|Aa BA fun Xh BP=>Aa Xh fun AY BH=>Az AY fun X6=>Aa BH fun Xl AX=>Ak .i64 Xl fun BC=>Ad AX<|Ad BP<|Bh Zo (Ah (call 107 [.pbox [.sc (.string X6),.sc (.int .i64 BC)]]) fun CU Z7=>Aa CU fun GI JJ=>Aq GI fun EN=>Ad JJ<|Aa Z7 fun EU GW=>Aa EU fun IL HT=>Az IL fun NZ=>Aa HT fun TG PQ=>Ak .i64 TG fun OB=>Ad PQ<|Ad GW<|Bh (!EN) (some (Ay.mk [.sc (.bool false)] [[.sc (.string NZ),.sc (.int .i64 OB)]])) (Ah (call 67 [.pbox [.sc (.string NZ),.sc (.int .i64 OB)],.sc (.string (ByteArray.mk #[101]))]) fun PN OD=>Aa PN fun PU SU=>Aq PU fun OH=>Ad SU<|Aa OD fun NU LX=>Aa NU fun NW NV=>Az NW fun RK=>Aa NV fun TZ WS=>Ak .i64 TZ fun RP=>Ad WS<|Ad LX<|Bh OH (Ah (call 67 [.pbox [.sc (.string RK),.sc (.int .i64 RP)],.sc (.string (ByteArray.mk #[43]))]) fun WH PH=>Aa WH fun YF ZX=>Aq YF fun ZA=>Ad ZX<|Aa PH fun XT x85=>Aa XT fun x86 YR=>Az x86 fun XW=>Aa YR fun XO x90=>Ak .i64 XO fun XS=>Ad x90<|Ad x85<|Bh (!ZA) (Ah (call 67 [.pbox [.sc (.string XW),.sc (.int .i64 XS)],.sc (.string (ByteArray.mk #[45]))]) fun XY x93=>Aa XY fun XZ x95=>Aq XZ fun x96=>Ad x95<|Aa x93 fun VK YB=>Aa VK fun x99 Tb=>Az x99 fun Z3=>Aa Tb fun Wm Yk=>Ak .i64 Wm fun AL=>Ad Yk<|Ad YB<|Ah (call 107 [.pbox [.sc (.string Z3),.sc (.int .i64 AL)]]) fun Qn Xe=>Aa Qn fun Xc IG=>Aq Xc fun GB=>Ad IG<|Aa Xe fun BZ HD=>Aa BZ fun KD IA=>Az KD fun IW=>Aa IA fun LQ GS=>Ak .i64 LQ fun HY=>Ad GS<|Ad HD<|some (Ay.mk [.sc (.bool GB)] [[.sc (.string IW),.sc (.int .i64 HY)]])) (Ah (call 107 [.pbox [.sc (.string XW),.sc (.int .i64 XS)]]) fun CM CR=>Aa CM fun CF IP=>Aq CF fun HN=>Ad IP<|Aa CR fun ID JI=>Aa ID fun HB BO=>Az HB fun CL=>Aa BO fun CI Wy=>Ak .i64 CI fun CS=>Ad Wy<|Ad JI<|some (Ay.mk [.sc (.bool HN)] [[.sc (.string CL),.sc (.int .i64 CS)]]))) (Ah (call 67 [.pbox [.sc (.string RK),.sc (.int .i64 RP)],.sc (.string (ByteArray.mk #[69]))]) fun IM IR=>Aa IM fun CG JG=>Aq CG fun HM=>Ad JG<|Aa IR fun JF HC=>Aa JF fun KC GL=>Az KC fun CJ=>Aa GL fun KG HF=>Ak .i64 KG fun AK=>Ad HF<|Ad HC<|Bh HM (Ah (call 67 [.pbox [.sc (.string CJ),.sc (.int .i64 AK)],.sc (.string (ByteArray.mk #[43]))]) fun BG HW=>Aa BG fun BQ CE=>Aq BQ fun BX=>Ad CE<|Aa HW fun KZ MQ=>Aa KZ fun YZ YH=>Az YZ fun QL=>Aa YH fun Abu Acm=>Ak .i64 Abu fun TY=>Ad Acm<|Ad MQ<|Bh (!BX) (Ah (call 67 [.pbox [.sc (.string QL),.sc (.int .i64 TY)],.sc (.string (ByteArray.mk #[45]))]) fun Ano Am9=>Aa Ano fun Ale Al4=>Aq Ale fun Ao7=>Ad Al4<|Aa Am9 fun Ai3 Ae6=>Aa Ai3 fun Aj5 And=>Az Aj5 fun Ad9=>Aa And fun Al6 Amh=>Ak .i64 Al6 fun Al0=>Ad Amh<|Ad Ae6<|Ah (call 107 [.pbox [.sc (.string Ad9),.sc (.int .i64 Al0)]]) fun Ak1 Ajr=>Aa Ak1 fun Ams Al5=>Aq Ams fun Am3=>Ad Al5<|Aa Ajr fun Akq Add=>Aa Akq fun Aju Ake=>Az Aju fun Ade=>Aa Ake fun Ajn Aie=>Ak .i64 Ajn fun Ani=>Ad Aie<|Ad Add<|some (Ay.mk [.sc (.bool Am3)] [[.sc (.string Ade),.sc (.int .i64 Ani)]])) (Ah (call 107 [.pbox [.sc (.string QL),.sc (.int .i64 TY)]]) fun Ajc Aj4=>Aa Ajc fun Ai5 Ami=>Aq Ai5 fun Aic=>Ad Ami<|Aa Aj4 fun Alg Agc=>Aa Alg fun Amg Aiq=>Az Amg fun Aeo=>Aa Aiq fun Ajv Aku=>Ak .i64 Ajv fun Ann=>Ad Aku<|Ad Agc<|some (Ay.mk [.sc (.bool Aic)] [[.sc (.string Aeo),.sc (.int .i64 Ann)]]))) (some (Ay.mk [.sc (.bool true)] [[.sc (.string CJ),.sc (.int .i64 AK)]]))))) (Ah (call 67 [.pbox [.sc (.string X6),.sc (.int .i64 BC)],.sc (.string (ByteArray.mk #[101]))]) fun Amy Aii=>Aa Amy fun Ak8 Anm=>Aq Ak8 fun Ajt=>Ad Anm<|Aa Aii fun Aif Af4=>Aa Aif fun Ak6 Ame=>Az Ak6 fun YY=>Aa Ame fun Akl Amo=>Ak .i64 Akl fun Ae3=>Ad Amo<|Ad Af4<|Bh Ajt (Ah (call 67 [.pbox [.sc (.string YY),.sc (.int .i64 Ae3)],.sc (.string (ByteArray.mk #[43]))]) fun Am4 Akc=>Aa Am4 fun Aj8 Alm=>Aq Aj8 fun Ah7=>Ad Alm<|Aa Akc fun Akx Amr=>Aa Akx fun Aij Amt=>Az Aij fun Aef=>Aa Amt fun Aig Alj=>Ak .i64 Aig fun Adh=>Ad Alj<|Ad Amr<|Bh (!Ah7) (Ah (call 67 [.pbox [.sc (.string Aef),.sc (.int .i64 Adh)],.sc (.string (ByteArray.mk #[45]))]) fun Aib Ai1=>Aa Aib fun Anq Akp=>Aq Anq fun Apt=>Ad Akp<|Aa Ai1 fun Ajq Ajm=>Aa Ajq fun Ak3 Ajl=>Az Ak3 fun Alv=>Aa Ajl fun Ail Am8=>Ak .i64 Ail fun Aip=>Ad Am8<|Ad Ajm<|Ah (call 107 [.pbox [.sc (.string Alv),.sc (.int .i64 Aip)]]) fun Ajw Aj1=>Aa Ajw fun Ai8 Ank=>Aq Ai8 fun Anf=>Ad Ank<|Aa Aj1 fun Aln Al8=>Aa Aln fun Aiu Ajs=>Az Aiu fun Ajg=>Aa Ajs fun Alu Aek=>Ak .i64 Alu fun Akk=>Ad Aek<|Ad Al8<|some (Ay.mk [.sc (.bool Anf)] [[.sc (.string Ajg),.sc (.int .i64 Akk)]])) (Ah (call 107 [.pbox [.sc (.string Aef),.sc (.int .i64 Adh)]]) fun Aih Ac9=>Aa Aih fun Amf Amd=>Aq Amf fun Akb=>Ad Amd<|Aa Ac9 fun Am0 Akn=>Aa Am0 fun Aiv Aml=>Az Aiv fun Alc=>Aa Aml fun Amk Afv=>Ak .i64 Amk fun Ane=>Ad Afv<|Ad Akn<|some (Ay.mk [.sc (.bool Akb)] [[.sc (.string Alc),.sc (.int .i64 Ane)]]))) (Ah (call 67 [.pbox [.sc (.string YY),.sc (.int .i64 Ae3)],.sc (.string (ByteArray.mk #[69]))]) fun Ak9 Aes=>Aa Ak9 fun Ai6 Alp=>Aq Ai6 fun Alx=>Ad Alp<|Aa Aes fun Aly Aj0=>Aa Aly fun Amu Aka=>Az Amu fun Agj=>Aa Aka fun Ak7 Adb=>Ak .i64 Ak7 fun Aei=>Ad Adb<|Ad Aj0<|Bh Alx (Ah (call 67 [.pbox [.sc (.string Agj),.sc (.int .i64 Aei)],.sc (.string (ByteArray.mk #[43]))]) fun Ak5 Agk=>Aa Ak5 fun Al1 Amz=>Aq Al1 fun Amn=>Ad Amz<|Aa Agk fun Al9 Al3=>Aa Al9 fun Al7 Amc=>Az Al7 fun Afx=>Aa Amc fun Ang Agn=>Ak .i64 Ang fun Ae4=>Ad Agn<|Ad Al3<|Bh (!Amn) (Ah (call 67 [.pbox [.sc (.string Afx),.sc (.int .i64 Ae4)],.sc (.string (ByteArray.mk #[45]))]) fun Ans Aew=>Aa Ans fun Als Ajk=>Aq Als fun Ap2=>Ad Ajk<|Aa Aew fun Ajy Amx=>Aa Ajy fun Anp Akw=>Az Anp fun Anc=>Aa Akw fun Aks Ae8=>Ak .i64 Aks fun Akf=>Ad Ae8<|Ad Amx<|Ah (call 107 [.pbox [.sc (.string Anc),.sc (.int .i64 Akf)]]) fun Aj9 Afs=>Aa Aj9 fun Axm A4t=>Aq Axm fun Att=>Ad A4t<|Aa Afs fun Atu A2e=>Aa Atu fun A1w Au6=>Az A1w fun A01=>Aa Au6 fun A1l Aws=>Ak .i64 A1l fun Aug=>Ad Aws<|Ad A2e<|some (Ay.mk [.sc (.bool Att)] [[.sc (.string A01),.sc (.int .i64 Aug)]])) (Ah (call 107 [.pbox [.sc (.string Afx),.sc (.int .i64 Ae4)]]) fun Avb A2w=>Aa Avb fun A29 Awh=>Aq A29 fun A07=>Ad Awh<|Aa A2w fun A3t Azr=>Aa A3t fun Aun Awp=>Az Aun fun Axw=>Aa Awp fun A04 A10=>Ak .i64 A04 fun Auz=>Ad A10<|Ad Azr<|some (Ay.mk [.sc (.bool A07)] [[.sc (.string Axw),.sc (.int .i64 Auz)]]))) (some (Ay.mk [.sc (.bool true)] [[.sc (.string Agj),.sc (.int .i64 Aei)]])))))) (Ah (call 67 [.pbox [.sc (.string K4),.sc (.int .i64 L5)],.sc (.string (ByteArray.mk #[46]))]) fun A18 A14=>Aa A18 fun A2m A4r=>Aq A2m fun A2v=>Ad A4r<|Aa A14 fun Avs A3n=>Aa Avs fun A4f A4h=>Az A4f fun Aqs=>Aa A4h fun Auv Awk=>Ak .i64 Auv fun Asi=>Ad Awk<|Ad A3n<|Bh A2v (Ah (call 107 [.pbox [.sc (.string Aqs),.sc (.int .i64 Asi)]]) fun A1x A30=>Aa A1x fun A0e Avq=>Aq A0e fun A1a=>Ad Avq<|Aa A30 fun A3i A0f=>Aa A3i fun A1u Awj=>Az A1u fun Aqg=>Aa Awj fun Azh A4j=>Ak .i64 Azh fun Aqk=>Ad A4j<|Ad A0f<|Bh (!A1a) (some (Ay.mk [.sc (.bool false)] [[.sc (.string Aqg),.sc (.int .i64 Aqk)]])) (Ah (call 67 [.pbox [.sc (.string Aqg),.sc (.int .i64 Aqk)],.sc (.string (ByteArray.mk #[101]))]) fun A4g Avu=>Aa A4g fun A0b A4l=>Aq A0b fun A4y=>Ad A4l<|Aa Avu fun Ayv A05=>Aa Ayv fun Atp Ax7=>Az Atp fun Ar9=>Aa Ax7 fun A3g Atr=>Ak .i64 A3g fun Aox=>Ad Atr<|Ad A05<|Bh A4y (Ah (call 67 [.pbox [.sc (.string Ar9),.sc (.int .i64 Aox)],.sc (.string (ByteArray.mk #[43]))]) fun Ax9 A2o=>Aa Ax9 fun Aub A0q=>Aq Aub fun Avy=>Ad A0q<|Aa A2o fun Atq Av1=>Aa Atq fun A2c At0=>Az A2c fun Arg=>Aa At0 fun A00 Axj=>Ak .i64 A00 fun Apn=>Ad Axj<|Ad Av1<|Bh (!Avy) (Ah (call 67 [.pbox [.sc (.string Arg),.sc (.int .i64 Apn)],.sc (.string (ByteArray.mk #[45]))]) fun Avk A06=>Aa Avk fun Ayk A2k=>Aq Ayk fun A8j=>Ad A2k<|Aa A06 fun Az4 Auj=>Aa Az4 fun A16 Avf=>Az A16 fun A3h=>Aa Avf fun Ayj A2y=>Ak .i64 Ayj fun Avr=>Ad A2y<|Ad Auj<|Ah (call 107 [.pbox [.sc (.string A3h),.sc (.int .i64 Avr)]]) fun A3c A0m=>Aa A3c fun A13 A2q=>Aq A13 fun Awo=>Ad A2q<|Aa A0m fun Awe Auo=>Aa Awe fun A4n Azp=>Az A4n fun Ax6=>Aa Azp fun Awl A4p=>Ak .i64 Awl fun A3b=>Ad A4p<|Ad Auo<|some (Ay.mk [.sc (.bool Awo)] [[.sc (.string Ax6),.sc (.int .i64 A3b)]])) (Ah (call 107 [.pbox [.sc (.string Arg),.sc (.int .i64 Apn)]]) fun A40 Aza=>Aa A40 fun A1m A1y=>Aq A1m fun A3z=>Ad A1y<|Aa Aza fun Awz Aw9=>Aa Awz fun Axu Atv=>Az Axu fun A4a=>Aa Atv fun A19 A39=>Ak .i64 A19 fun Au2=>Ad A39<|Ad Aw9<|some (Ay.mk [.sc (.bool A3z)] [[.sc (.string A4a),.sc (.int .i64 Au2)]]))) (Ah (call 67 [.pbox [.sc (.string Ar9),.sc (.int .i64 Aox)],.sc (.string (ByteArray.mk #[69]))]) fun At2 A0p=>Aa At2 fun Azn Azs=>Aq Azn fun Av3=>Ad Azs<|Aa A0p fun Avl Auk=>Aa Avl fun A0c Avv=>Az A0c fun Ar0=>Aa Avv fun A02 Aty=>Ak .i64 A02 fun Arz=>Ad Aty<|Ad Auk<|Bh Av3 (Ah (call 67 [.pbox [.sc (.string Ar0),.sc (.int .i64 Arz)],.sc (.string (ByteArray.mk #[43]))]) fun A3v Avw=>Aa A3v fun Aul Awv=>Aq Aul fun Awc=>Ad Awv<|Aa Avw fun Aup Ayz=>Aa Aup fun A3a A37=>Az A3a fun Ar6=>Aa A37 fun Ay6 Azy=>Ak .i64 Ay6 fun Asj=>Ad Azy<|Ad Ayz<|Bh (!Awc) (Ah (call 67 [.pbox [.sc (.string Ar6),.sc (.int .i64 Asj)],.sc (.string (ByteArray.mk #[45]))]) fun Ayi Awi=>Aa Ayi fun Axl Aw7=>Aq Axl fun A81=>Ad Aw7<|Aa Awi fun Ay9 A36=>Aa Ay9 fun Auy Axr=>Az Auy fun A1h=>Aa Axr fun A4s Au9=>Ak .i64 A4s fun Azb=>Ad Au9<|Ad A36<|Ah (call 107 [.pbox [.sc (.string A1h),.sc (.int .i64 Azb)]]) fun A2i A3m=>Aa A2i fun Axf Ay3=>Aq Axf fun Ayx=>Ad Ay3<|Aa A3m fun At3 At5=>Aa At3 fun A15 Aw0=>Az A15 fun A0k=>Aa Aw0 fun Awr Azw=>Ak .i64 Awr fun Avp=>Ad Azw<|Ad At5<|some (Ay.mk [.sc (.bool Ayx)] [[.sc (.string A0k),.sc (.int .i64 Avp)]])) (Ah (call 107 [.pbox [.sc (.string Ar6),.sc (.int .i64 Asj)]]) fun Avh Ax2=>Aa Avh fun Ax8 Ayw=>Aq Ax8 fun Atz=>Ad Ayw<|Aa Ax2 fun Atw Awa=>Aa Atw fun Azo Azx=>Az Azo fun A2p=>Aa Azx fun Azd Ave=>Ak .i64 Azd fun A3u=>Ad Ave<|Ad Awa<|some (Ay.mk [.sc (.bool Atz)] [[.sc (.string A2p),.sc (.int .i64 A3u)]]))) (some (Ay.mk [.sc (.bool true)] [[.sc (.string Ar0),.sc (.int .i64 Arz)]]))))) (Ah (call 67 [.pbox [.sc (.string Aqs),.sc (.int .i64 Asi)],.sc (.string (ByteArray.mk #[101]))]) fun A3y Azq=>Aa A3y fun A0s Azm=>Aq A0s fun A1k=>Ad Azm<|Aa Azq fun A1d A1n=>Aa A1d fun A3f Ay4=>Az A3f fun Arw=>Aa Ay4 fun A0z A35=>Ak .i64 A0z fun Aq0=>Ad A35<|Ad A1n<|Bh A1k (Ah (call 67 [.pbox [.sc (.string Arw),.sc (.int .i64 Aq0)],.sc (.string (ByteArray.mk #[43]))]) fun Ay8 Aym=>Aa Ay8 fun Axy Aus=>Aq Axy fun Aw2=>Ad Aus<|Aa Aym fun A33 Avt=>Aa A33 fun A4v A1v=>Az A4v fun Asa=>Aa A1v fun Avd Ayr=>Ak .i64 Avd fun Aq9=>Ad Ayr<|Ad Avt<|Bh (!Aw2) (Ah (call 67 [.pbox [.sc (.string Asa),.sc (.int .i64 Aq9)],.sc (.string (ByteArray.mk #[45]))]) fun Aw3 Azz=>Aa Aw3 fun A0t Av8=>Aq A0t fun A9b=>Ad Av8<|Aa Azz fun A23 A26=>Aa A23 fun A3s Au4=>Az A3s fun Aui=>Aa Au4 fun A2f At1=>Ak .i64 A2f fun A3e=>Ad At1<|Ad A26<|Ah (call 107 [.pbox [.sc (.string Aui),.sc (.int .i64 A3e)]]) fun A2s A4z=>Aa A2s fun A2r A0i=>Aq A2r fun Axe=>Ad A0i<|Aa A4z fun Au0 Awn=>Aa Au0 fun Azi A3x=>Az Azi fun Avx=>Aa A3x fun Axx Azc=>Ak .i64 Axx fun A1t=>Ad Azc<|Ad Awn<|some (Ay.mk [.sc (.bool Axe)] [[.sc (.string Avx),.sc (.int .i64 A1t)]])) (Ah (call 107 [.pbox [.sc (.string Asa),.sc (.int .i64 Aq9)]]) fun A3l A2l=>Aa A3l fun A2z A28=>Aq A2z fun A1i=>Ad A28<|Aa A2l fun Azu A0v=>Aa Azu fun Aw6 Auh=>Az Aw6 fun Aud=>Aa Auh fun Ayd Av2=>Ak .i64 Ayd fun Ayl=>Ad Av2<|Ad A0v<|some (Ay.mk [.sc (.bool A1i)] [[.sc (.string Aud),.sc (.int .i64 Ayl)]]))) (Ah (call 67 [.pbox [.sc (.string Arw),.sc (.int .i64 Aq0)],.sc (.string (ByteArray.mk #[69]))]) fun Auc Axz=>Aa Auc fun Ayu Azt=>Aq Ayu fun A0g=>Ad Azt<|Aa Axz fun Az8 A4c=>Aa Az8 fun Ax1 A27=>Az Ax1 fun Asl=>Aa A27 fun Axk At4=>Ak .i64 Axk fun Ap4=>Ad At4<|Ad A4c<|Bh A0g (Ah (call 67 [.pbox [.sc (.string Asl),.sc (.int .i64 Ap4)],.sc (.string (ByteArray.mk #[43]))]) fun Au1 A41=>Aa Au1 fun A03 Aux=>Aq A03 fun Ava=>Ad Aux<|Aa A41 fun A2b Av9=>Aa A2b fun Axi A1f=>Az Axi fun Aqy=>Aa A1f fun A1r Axc=>Ak .i64 A1r fun Apm=>Ad Axc<|Ad Av9<|Bh (!Ava) (Ah (call 67 [.pbox [.sc (.string Aqy),.sc (.int .i64 Apm)],.sc (.string (ByteArray.mk #[45]))]) fun At6 A0w=>Aa At6 fun A1z Az0=>Aq A1z fun A7e=>Ad Az0<|Aa A0w fun A0y Au5=>Aa A0y fun Avz A4k=>Az Avz fun Axv=>Aa A4k fun A3p Ayg=>Ak .i64 A3p fun Avi=>Ad Ayg<|Ad Au5<|Ah (call 107 [.pbox [.sc (.string Axv),.sc (.int .i64 Avi)]]) fun A2d A1e=>Aa A2d fun Aw1 Axq=>Aq Aw1 fun Azv=>Ad Axq<|Aa A1e fun Au7 Avn=>Aa Au7 fun A0r Az2=>Az A0r fun A17=>Aa Az2 fun Awg Az6=>Ak .i64 Awg fun A2u=>Ad Az6<|Ad Avn<|some (Ay.mk [.sc (.bool Azv)] [[.sc (.string A17),.sc (.int .i64 A2u)]])) (Ah (call 107 [.pbox [.sc (.string Aqy),.sc (.int .i64 Apm)]]) fun A2x A3r=>Aa A2x fun Ayp A3k=>Aq Ayp fun A0j=>Ad A3k<|Aa A3r fun A32 Ax5=>Aa A32 fun Av6 Aya=>Az Av6 fun Ayb=>Aa Aya fun Azf Auf=>Ak .i64 Azf fun A3o=>Ad Auf<|Ad Ax5<|some (Ay.mk [.sc (.bool A0j)] [[.sc (.string Ayb),.sc (.int .i64 A3o)]]))) (some (Ay.mk [.sc (.bool true)] [[.sc (.string Asl),.sc (.int .i64 Ap4)]])))))) (Ae (CP p) prog fu d):=by kernel_rfl
abbrev Iy:FuncId:=91
noncomputable def Cx (fu:Nat)(call:Ax)(Br:ByteArray)(Bl a1:Int)(nn:Nat)(y0:Int)(y1:ByteArray)(y2:Int):Option Ay:=Is CB prog fu call 91 Tryd.f91 (F4 Tryd.f91) [.pbox [.sc (.string Br),.sc (.int .i64 Bl)],.sc (.int .i64 a1)] [.r,.r,.r,.r,.l] nn ⟨lk [(0,(.ptr 64000 0)),(1,(.sc (.int .i64 y0)))],Jh [(64000,(.st [(.sc (.string y1)),(.sc (.int .i64 y2))]))]⟩
theorem Hj (fu:Nat)(call:Ax)(Br:ByteArray)(Bl a1:Int)(nn:Nat)(y0:Int)(y1:ByteArray)(y2:Int):Cx fu call Br Bl a1 (nn+1) y0 y1 y2=(Ah (call 69 [.pbox [.sc (.string y1),.sc (.int .i64 y2)],.sc (.int .i64 y0)]) fun Se S1=>Aa Se fun Pu AZ=>Fq Pu fun BA=>Aa BA fun Qm Qj=>Ak .i64 Qm fun Zo=>Aa Qj fun Xh BP=>Az Xh fun AY=>Aa BP fun BH X6=>Aq BH fun Xl=>Ad X6<|Aa AZ fun AX BC=>Ak .i64 AX fun CU=>Ad BC<|Aa S1 fun Z7 GI=>Aa Z7 fun JJ EN=>Az JJ fun EU=>Aa EN fun GW IL=>Ak .i64 GW fun HT=>Ad IL<|Ad GI<|Bh (CU != 0) (some (Ay.mk [.sc (.int .i64 CU)] [[.sc (.string EU),.sc (.int .i64 HT)]])) (Ah (call 50 [.pbox [.sc (.string EU),.sc (.int .i64 HT)]]) fun NZ TG=>Ad NZ<|Aa TG fun PQ OB=>Aa PQ fun PN OD=>Az PN fun PU=>Aa OD fun SU OH=>Ak .i64 SU fun NU=>Ad OH<|Ad OB<|Ah (call 67 [.pbox [.sc (.string PU),.sc (.int .i64 NU)],.sc (.string (ByteArray.mk #[93]))]) fun LX NW=>Aa LX fun NV RK=>Aq NV fun TZ=>Ad RK<|Aa NW fun WS RP=>Aa WS fun WH PH=>Az WH fun YF=>Aa PH fun ZX ZA=>Ak .i64 ZX fun XT=>Ad ZA<|Ad RP<|Bh TZ (some (Ay.mk [.sc (.int .i64 0)] [[.sc (.string YF),.sc (.int .i64 XT)]])) (Ah (call 67 [.pbox [.sc (.string YF),.sc (.int .i64 XT)],.sc (.string (ByteArray.mk #[44]))]) fun x85 x86=>Aa x85 fun YR XW=>Aq YR fun XO=>Ad XW<|Aa x86 fun x90 XS=>Aa x90 fun XY x93=>Az XY fun XZ=>Aa x93 fun x95 x96=>Ak .i64 x95 fun VK=>Ad x96<|Ad XS<|Bh (!XO) (some (Ay.mk [.sc (.int .i64 2)] [[.sc (.string XZ),.sc (.int .i64 VK)]])) (Ah (call 50 [.pbox [.sc (.string XZ),.sc (.int .i64 VK)]]) fun YB x99=>Ad YB<|Aa x99 fun Tb Z3=>Aa Tb fun Wm Yk=>Az Wm fun AL=>Aa Yk fun Qn Xe=>Ak .i64 Qn fun Xc=>Ad Xe<|Ad Z3<|Cx fu call Br Bl a1 (nn) (y0) AL Xc)))):=by kernel_rfl
theorem Iv {p:Option (List PV->Option Ay)} (fu d:Nat)(Br:ByteArray)(Bl a1:Int):Ae (CP p) prog fu (d+1) Iy [.pbox [.sc (.string Br),.sc (.int .i64 Bl)],.sc (.int .i64 a1)]=(fun (call:Ax)=>Ah (call 67 [.pbox [.sc (.string Br),.sc (.int .i64 Bl)],.sc (.string (ByteArray.mk #[91]))]) fun x1 x2=>Aa x1 fun x3 x4=>Aq x3 fun x5=>Ad x4<|Aa x2 fun x6 x7=>Aa x6 fun x8 x9=>Az x8 fun Fv=>Aa x9 fun Lr L3=>Ak .i64 Lr fun Ff=>Ad L3<|Ad x7<|Bh (!x5) (some (Ay.mk [.sc (.int .i64 2)] [[.sc (.string Fv),.sc (.int .i64 Ff)]])) (Ah (call 50 [.pbox [.sc (.string Fv),.sc (.int .i64 Ff)]]) fun Je Mb=>Ad Je<|Aa Mb fun K2 I4=>Aa K2 fun Lw L4=>Az Lw fun Ml=>Aa L4 fun Mi N6=>Ak .i64 Mi fun K4=>Ad N6<|Ad I4<|Ah (call 67 [.pbox [.sc (.string Ml),.sc (.int .i64 K4)],.sc (.string (ByteArray.mk #[93]))]) fun Nq L1=>Aa Nq fun L5 Mk=>Aq L5 fun Oi=>Ad Mk<|Aa L1 fun Me Oa=>Aa Me fun Om Oc=>Az Om fun M9=>Aa Oc fun Ol Pj=>Ak .i64 Ol fun Q7=>Ad Pj<|Ad Oa<|Bh Oi (some (Ay.mk [.sc (.int .i64 0)] [[.sc (.string M9),.sc (.int .i64 Q7)]])) (Cx fu call Br Bl a1 (fu) (a1) M9 Q7))) (Ae (CP p) prog fu d):=by kernel_rfl
abbrev Hy:FuncId:=51
noncomputable def Cp (fu:Nat)(call:Ax)(Br:ByteArray)(Bl a1:Int)(nn:Nat)(y0:Int)(y1:ByteArray)(y2:Int):Option Ay:=Is CB prog fu call 51 Tryd.f51 (F4 Tryd.f51) [.pbox [.sc (.string Br),.sc (.int .i64 Bl)],.sc (.int .i64 a1),.sc (Value.map none)] [.r,.r,.r,.r,.l] nn ⟨lk [(0,(.ptr 128000 0)),(1,(.sc (.int .i64 y0))),(2,(.sc (Value.map none)))],Jh [(128000,(.st [(.sc (.string y1)),(.sc (.int .i64 y2))]))]⟩
theorem Hb (fu:Nat)(call:Ax)(Br:ByteArray)(Bl a1:Int)(nn:Nat)(y0:Int)(y1:ByteArray)(y2:Int):Cp fu call Br Bl a1 (nn+1) y0 y1 y2=(Ah (call 68 [.pbox [.sc (.string y1),.sc (.int .i64 y2)]]) fun Se S1=>Aa Se fun Pu AZ=>Az Pu fun BA=>Aa AZ fun Qm Qj=>Aq Qm fun Zo=>Ad Qj<|Aa S1 fun Xh BP=>Aa Xh fun AY BH=>Az AY fun X6=>Aa BH fun Xl AX=>Ak .i64 Xl fun BC=>Ad AX<|Ad BP<|Bh (!Zo) (some (Ay.mk [.sc (.int .i64 2)] [[.sc (.string X6),.sc (.int .i64 BC)]])) (Ah (call 50 [.pbox [.sc (.string X6),.sc (.int .i64 BC)]]) fun CU Z7=>Ad CU<|Aa Z7 fun GI JJ=>Aa GI fun EN EU=>Az EN fun GW=>Aa EU fun IL HT=>Ak .i64 IL fun NZ=>Ad HT<|Ad JJ<|Ah (call 67 [.pbox [.sc (.string GW),.sc (.int .i64 NZ)],.sc (.string (ByteArray.mk #[58]))]) fun TG PQ=>Aa TG fun OB PN=>Aq OB fun OD=>Ad PN<|Aa PQ fun PU SU=>Aa PU fun OH NU=>Az OH fun LX=>Aa NU fun NW NV=>Ak .i64 NW fun RK=>Ad NV<|Ad SU<|Bh (!OD) (some (Ay.mk [.sc (.int .i64 2)] [[.sc (.string LX),.sc (.int .i64 RK)]])) (Ah (call 50 [.pbox [.sc (.string LX),.sc (.int .i64 RK)]]) fun TZ WS=>Ad TZ<|Aa WS fun RP WH=>Aa RP fun PH YF=>Az PH fun ZX=>Aa YF fun ZA XT=>Ak .i64 ZA fun x85=>Ad XT<|Ad WH<|Ah (call 69 [.pbox [.sc (.string ZX),.sc (.int .i64 x85)],.sc (.int .i64 y0)]) fun x86 YR=>Aa x86 fun XW XO=>Fq XW fun x90=>Aa x90 fun XS XY=>Ak .i64 XS fun x93=>Aa XY fun XZ x95=>Az XZ fun x96=>Aa x95 fun VK YB=>Aq VK fun x99=>Ad YB<|Aa XO fun Tb Z3=>Ak .i64 Tb fun Wm=>Ad Z3<|Aa YR fun Yk AL=>Aa Yk fun Qn Xe=>Az Qn fun Xc=>Aa Xe fun IG GB=>Ak .i64 IG fun BZ=>Ad GB<|Ad AL<|Bh (Wm != 0) (some (Ay.mk [.sc (.int .i64 Wm)] [[.sc (.string Xc),.sc (.int .i64 BZ)]])) (Ah (call 50 [.pbox [.sc (.string Xc),.sc (.int .i64 BZ)]]) fun HD KD=>Ad HD<|Aa KD fun IA IW=>Aa IA fun LQ GS=>Az LQ fun HY=>Aa GS fun CM CR=>Ak .i64 CM fun CF=>Ad CR<|Ad IW<|Ah (call 67 [.pbox [.sc (.string HY),.sc (.int .i64 CF)],.sc (.string (ByteArray.mk #[125]))]) fun IP HN=>Aa IP fun ID JI=>Aq ID fun HB=>Ad JI<|Aa HN fun BO CL=>Aa BO fun CI Wy=>Az CI fun CS=>Aa Wy fun IM IR=>Ak .i64 IM fun CG=>Ad IR<|Ad CL<|Bh HB (some (Ay.mk [.sc (.int .i64 0)] [[.sc (.string CS),.sc (.int .i64 CG)]])) (Ah (call 67 [.pbox [.sc (.string CS),.sc (.int .i64 CG)],.sc (.string (ByteArray.mk #[44]))]) fun JG HM=>Aa JG fun JF HC=>Aq JF fun KC=>Ad HC<|Aa HM fun GL CJ=>Aa GL fun KG HF=>Az KG fun AK=>Aa HF fun BG HW=>Ak .i64 BG fun BQ=>Ad HW<|Ad CJ<|Bh (!KC) (some (Ay.mk [.sc (.int .i64 2)] [[.sc (.string AK),.sc (.int .i64 BQ)]])) (Ah (call 50 [.pbox [.sc (.string AK),.sc (.int .i64 BQ)]]) fun CE BX=>Ad CE<|Aa BX fun KZ MQ=>Aa KZ fun YZ YH=>Az YZ fun QL=>Aa YH fun Abu Acm=>Ak .i64 Abu fun TY=>Ad Acm<|Ad MQ<|Cp fu call Br Bl a1 (nn) (y0) QL TY)))))):=by kernel_rfl
theorem Hx {p:Option (List PV->Option Ay)} (fu d:Nat)(Br:ByteArray)(Bl a1:Int):Ae (CP p) prog fu (d+1) Hy [.pbox [.sc (.string Br),.sc (.int .i64 Bl)],.sc (.int .i64 a1),.sc (Value.map none)]=(fun (call:Ax)=>Ah (call 67 [.pbox [.sc (.string Br),.sc (.int .i64 Bl)],.sc (.string (ByteArray.mk #[123]))]) fun x1 x2=>Aa x1 fun x3 x4=>Aq x3 fun x5=>Ad x4<|Aa x2 fun x6 x7=>Aa x6 fun x8 x9=>Az x8 fun Fv=>Aa x9 fun Lr L3=>Ak .i64 Lr fun Ff=>Ad L3<|Ad x7<|Bh (!x5) (some (Ay.mk [.sc (.int .i64 2)] [[.sc (.string Fv),.sc (.int .i64 Ff)]])) (Ah (call 50 [.pbox [.sc (.string Fv),.sc (.int .i64 Ff)]]) fun Je Mb=>Ad Je<|Aa Mb fun K2 I4=>Aa K2 fun Lw L4=>Az Lw fun Ml=>Aa L4 fun Mi N6=>Ak .i64 Mi fun K4=>Ad N6<|Ad I4<|Ah (call 67 [.pbox [.sc (.string Ml),.sc (.int .i64 K4)],.sc (.string (ByteArray.mk #[125]))]) fun Nq L1=>Aa Nq fun L5 Mk=>Aq L5 fun Oi=>Ad Mk<|Aa L1 fun Me Oa=>Aa Me fun Om Oc=>Az Om fun M9=>Aa Oc fun Ol Pj=>Ak .i64 Ol fun Q7=>Ad Pj<|Ad Oa<|Bh Oi (some (Ay.mk [.sc (.int .i64 0)] [[.sc (.string M9),.sc (.int .i64 Q7)]])) (Cp fu call Br Bl a1 (fu) (a1) M9 Q7))) (Ae (CP p) prog fu d):=by kernel_rfl
abbrev Ih:FuncId:=69
theorem Bz {p:Option (List PV->Option Ay)} (fu d:Nat)(Br:ByteArray)(Bl a1:Int):Ae (CP p) prog fu (d+1) Ih [.pbox [.sc (.string Br),.sc (.int .i64 Bl)],.sc (.int .i64 a1)]=(fun (call:Ax)=>Ah (call 90 [.pbox [.sc (.string Br),.sc (.int .i64 Bl)]]) fun x1 x2=>Aa x1 fun x3 x4=>Ak .u8 x3 fun x5=>Ad x4<|Aa x2 fun x6 x7=>Aa x6 fun x8 x9=>Az x8 fun Fv=>Aa x9 fun Lr L3=>Ak .i64 Lr fun Ff=>Ad L3<|Ad x7<|Bh (x5==123) (Bh (decide (a1>8)) (some (Ay.mk [.agg [.sc (.int .i64 0),.sc (.string (ByteArray.mk #[])),.sc (.bool false)],.sc (.int .i64 5)] [[.sc (.string Fv),.sc (.int .i64 Ff)]])) (Bh (x5==123) (Ab (wrap .i64 (a1+1)) fun Je=>Ah (call 51 [.pbox [.sc (.string Fv),.sc (.int .i64 Ff)],.sc (.int .i64 Je),.sc (Value.map none)]) fun Mb K2=>Aa Mb fun I4 Lw=>Ak .i64 I4 fun L4=>Ad Lw<|Aa K2 fun Ml Mi=>Aa Ml fun N6 K4=>Az N6 fun Nq=>Aa K4 fun L1 L5=>Ak .i64 L1 fun Mk=>Ad L5<|Ad Mi<|some (Ay.mk [.agg [.sc (.int .i64 6),.sc (.string (ByteArray.mk #[])),.sc (.bool false)],.sc (.int .i64 L4)] [[.sc (.string Nq),.sc (.int .i64 Mk)]])) (Bh (x5==91) (Ab (wrap .i64 (a1+1)) fun Oi=>Ah (call 91 [.pbox [.sc (.string Fv),.sc (.int .i64 Ff)],.sc (.int .i64 Oi)]) fun Me Oa=>Aa Me fun Om Oc=>Ak .i64 Om fun M9=>Ad Oc<|Aa Oa fun Ol Pj=>Aa Ol fun Q7 Se=>Az Q7 fun S1=>Aa Se fun Pu AZ=>Ak .i64 Pu fun BA=>Ad AZ<|Ad Pj<|some (Ay.mk [.agg [.sc (.int .i64 5),.sc (.string (ByteArray.mk #[])),.sc (.bool false)],.sc (.int .i64 M9)] [[.sc (.string S1),.sc (.int .i64 BA)]])) (Bh (x5==34) (Ah (call 68 [.pbox [.sc (.string Fv),.sc (.int .i64 Ff)]]) fun Qm Qj=>Aa Qm fun Zo Xh=>Az Zo fun BP=>Aa Xh fun AY BH=>Aq AY fun X6=>Ad BH<|Aa Qj fun Xl AX=>Aa Xl fun BC CU=>Az BC fun Z7=>Aa CU fun GI JJ=>Ak .i64 GI fun EN=>Ad JJ<|Ad AX<|Bh X6 (some (Ay.mk [.agg [.sc (.int .i64 4),.sc (.string BP),.sc (.bool false)],.sc (.int .i64 0)] [[.sc (.string Z7),.sc (.int .i64 EN)]])) (some (Ay.mk [.agg [.sc (.int .i64 0),.sc (.string (ByteArray.mk #[])),.sc (.bool false)],.sc (.int .i64 2)] [[.sc (.string Z7),.sc (.int .i64 EN)]]))) (Ah (call 67 [.pbox [.sc (.string Fv),.sc (.int .i64 Ff)],.sc (.string (ByteArray.mk #[116,114,117,101]))]) fun EU GW=>Aa EU fun IL HT=>Aq IL fun NZ=>Ad HT<|Aa GW fun TG PQ=>Aa TG fun OB PN=>Az OB fun OD=>Aa PN fun PU SU=>Ak .i64 PU fun OH=>Ad SU<|Ad PQ<|Bh NZ (some (Ay.mk [.agg [.sc (.int .i64 2),.sc (.string (ByteArray.mk #[])),.sc (.bool true)],.sc (.int .i64 0)] [[.sc (.string OD),.sc (.int .i64 OH)]])) (Ah (call 67 [.pbox [.sc (.string OD),.sc (.int .i64 OH)],.sc (.string (ByteArray.mk #[102,97,108,115,101]))]) fun NU LX=>Aa NU fun NW NV=>Aq NW fun RK=>Ad NV<|Aa LX fun TZ WS=>Aa TZ fun RP WH=>Az RP fun PH=>Aa WH fun YF ZX=>Ak .i64 YF fun ZA=>Ad ZX<|Ad WS<|Bh RK (some (Ay.mk [.agg [.sc (.int .i64 2),.sc (.string (ByteArray.mk #[])),.sc (.bool false)],.sc (.int .i64 0)] [[.sc (.string PH),.sc (.int .i64 ZA)]])) (Ah (call 67 [.pbox [.sc (.string PH),.sc (.int .i64 ZA)],.sc (.string (ByteArray.mk #[110,117,108,108]))]) fun XT x85=>Aa XT fun x86 YR=>Aq x86 fun XW=>Ad YR<|Aa x85 fun XO x90=>Aa XO fun XS XY=>Az XS fun x93=>Aa XY fun XZ x95=>Ak .i64 XZ fun x96=>Ad x95<|Ad x90<|Bh XW (some (Ay.mk [.agg [.sc (.int .i64 1),.sc (.string (ByteArray.mk #[])),.sc (.bool false)],.sc (.int .i64 0)] [[.sc (.string x93),.sc (.int .i64 x96)]])) (Ah (call 92 [.pbox [.sc (.string x93),.sc (.int .i64 x96)]]) fun VK YB=>Aa VK fun x99 Tb=>Aq x99 fun Z3=>Ad Tb<|Aa YB fun Wm Yk=>Aa Wm fun AL Qn=>Az AL fun Xe=>Aa Qn fun Xc IG=>Ak .i64 Xc fun GB=>Ad IG<|Ad Yk<|Bh Z3 (some (Ay.mk [.agg [.sc (.int .i64 3),.sc (.string (ByteArray.mk #[])),.sc (.bool false)],.sc (.int .i64 0)] [[.sc (.string Xe),.sc (.int .i64 GB)]])) (some (Ay.mk [.agg [.sc (.int .i64 0),.sc (.string (ByteArray.mk #[])),.sc (.bool false)],.sc (.int .i64 2)] [[.sc (.string Xe),.sc (.int .i64 GB)]])))))))))) (Bh (x5==91) (Bh (decide (a1>8)) (some (Ay.mk [.agg [.sc (.int .i64 0),.sc (.string (ByteArray.mk #[])),.sc (.bool false)],.sc (.int .i64 5)] [[.sc (.string Fv),.sc (.int .i64 Ff)]])) (Bh (x5==123) (Ab (wrap .i64 (a1+1)) fun BZ=>Ah (call 51 [.pbox [.sc (.string Fv),.sc (.int .i64 Ff)],.sc (.int .i64 BZ),.sc (Value.map none)]) fun HD KD=>Aa HD fun IA IW=>Ak .i64 IA fun LQ=>Ad IW<|Aa KD fun GS HY=>Aa GS fun CM CR=>Az CM fun CF=>Aa CR fun IP HN=>Ak .i64 IP fun ID=>Ad HN<|Ad HY<|some (Ay.mk [.agg [.sc (.int .i64 6),.sc (.string (ByteArray.mk #[])),.sc (.bool false)],.sc (.int .i64 LQ)] [[.sc (.string CF),.sc (.int .i64 ID)]])) (Bh (x5==91) (Ab (wrap .i64 (a1+1)) fun JI=>Ah (call 91 [.pbox [.sc (.string Fv),.sc (.int .i64 Ff)],.sc (.int .i64 JI)]) fun HB BO=>Aa HB fun CL CI=>Ak .i64 CL fun Wy=>Ad CI<|Aa BO fun CS IM=>Aa CS fun IR CG=>Az IR fun JG=>Aa CG fun HM JF=>Ak .i64 HM fun HC=>Ad JF<|Ad IM<|some (Ay.mk [.agg [.sc (.int .i64 5),.sc (.string (ByteArray.mk #[])),.sc (.bool false)],.sc (.int .i64 Wy)] [[.sc (.string JG),.sc (.int .i64 HC)]])) (Bh (x5==34) (Ah (call 68 [.pbox [.sc (.string Fv),.sc (.int .i64 Ff)]]) fun KC GL=>Aa KC fun CJ KG=>Az CJ fun HF=>Aa KG fun AK BG=>Aq AK fun HW=>Ad BG<|Aa GL fun BQ CE=>Aa BQ fun BX KZ=>Az BX fun MQ=>Aa KZ fun YZ YH=>Ak .i64 YZ fun QL=>Ad YH<|Ad CE<|Bh HW (some (Ay.mk [.agg [.sc (.int .i64 4),.sc (.string HF),.sc (.bool false)],.sc (.int .i64 0)] [[.sc (.string MQ),.sc (.int .i64 QL)]])) (some (Ay.mk [.agg [.sc (.int .i64 0),.sc (.string (ByteArray.mk #[])),.sc (.bool false)],.sc (.int .i64 2)] [[.sc (.string MQ),.sc (.int .i64 QL)]]))) (Ah (call 67 [.pbox [.sc (.string Fv),.sc (.int .i64 Ff)],.sc (.string (ByteArray.mk #[116,114,117,101]))]) fun Abu Acm=>Aa Abu fun TY Ano=>Aq TY fun Am9=>Ad Ano<|Aa Acm fun Ale Al4=>Aa Ale fun Ao7 Ai3=>Az Ao7 fun Ae6=>Aa Ai3 fun Aj5 And=>Ak .i64 Aj5 fun Ad9=>Ad And<|Ad Al4<|Bh Am9 (some (Ay.mk [.agg [.sc (.int .i64 2),.sc (.string (ByteArray.mk #[])),.sc (.bool true)],.sc (.int .i64 0)] [[.sc (.string Ae6),.sc (.int .i64 Ad9)]])) (Ah (call 67 [.pbox [.sc (.string Ae6),.sc (.int .i64 Ad9)],.sc (.string (ByteArray.mk #[102,97,108,115,101]))]) fun Al6 Amh=>Aa Al6 fun Al0 Ak1=>Aq Al0 fun Ajr=>Ad Ak1<|Aa Amh fun Ams Al5=>Aa Ams fun Am3 Akq=>Az Am3 fun Add=>Aa Akq fun Aju Ake=>Ak .i64 Aju fun Ade=>Ad Ake<|Ad Al5<|Bh Ajr (some (Ay.mk [.agg [.sc (.int .i64 2),.sc (.string (ByteArray.mk #[])),.sc (.bool false)],.sc (.int .i64 0)] [[.sc (.string Add),.sc (.int .i64 Ade)]])) (Ah (call 67 [.pbox [.sc (.string Add),.sc (.int .i64 Ade)],.sc (.string (ByteArray.mk #[110,117,108,108]))]) fun Ajn Aie=>Aa Ajn fun Ani Ajc=>Aq Ani fun Aj4=>Ad Ajc<|Aa Aie fun Ai5 Ami=>Aa Ai5 fun Aic Alg=>Az Aic fun Agc=>Aa Alg fun Amg Aiq=>Ak .i64 Amg fun Aeo=>Ad Aiq<|Ad Ami<|Bh Aj4 (some (Ay.mk [.agg [.sc (.int .i64 1),.sc (.string (ByteArray.mk #[])),.sc (.bool false)],.sc (.int .i64 0)] [[.sc (.string Agc),.sc (.int .i64 Aeo)]])) (Ah (call 92 [.pbox [.sc (.string Agc),.sc (.int .i64 Aeo)]]) fun Ajv Aku=>Aa Ajv fun Ann Amy=>Aq Ann fun Aii=>Ad Amy<|Aa Aku fun Ak8 Anm=>Aa Ak8 fun Ajt Aif=>Az Ajt fun Af4=>Aa Aif fun Ak6 Ame=>Ak .i64 Ak6 fun YY=>Ad Ame<|Ad Anm<|Bh Aii (some (Ay.mk [.agg [.sc (.int .i64 3),.sc (.string (ByteArray.mk #[])),.sc (.bool false)],.sc (.int .i64 0)] [[.sc (.string Af4),.sc (.int .i64 YY)]])) (some (Ay.mk [.agg [.sc (.int .i64 0),.sc (.string (ByteArray.mk #[])),.sc (.bool false)],.sc (.int .i64 2)] [[.sc (.string Af4),.sc (.int .i64 YY)]])))))))))) (Bh (x5==123) (Ab (wrap .i64 (a1+1)) fun Akl=>Ah (call 51 [.pbox [.sc (.string Fv),.sc (.int .i64 Ff)],.sc (.int .i64 Akl),.sc (Value.map none)]) fun Amo Ae3=>Aa Amo fun Am4 Akc=>Ak .i64 Am4 fun Aj8=>Ad Akc<|Aa Ae3 fun Alm Ah7=>Aa Alm fun Akx Amr=>Az Akx fun Aij=>Aa Amr fun Amt Aef=>Ak .i64 Amt fun Aig=>Ad Aef<|Ad Ah7<|some (Ay.mk [.agg [.sc (.int .i64 6),.sc (.string (ByteArray.mk #[])),.sc (.bool false)],.sc (.int .i64 Aj8)] [[.sc (.string Aij),.sc (.int .i64 Aig)]])) (Bh (x5==91) (Ab (wrap .i64 (a1+1)) fun Alj=>Ah (call 91 [.pbox [.sc (.string Fv),.sc (.int .i64 Ff)],.sc (.int .i64 Alj)]) fun Adh Aib=>Aa Adh fun Ai1 Anq=>Ak .i64 Ai1 fun Akp=>Ad Anq<|Aa Aib fun Apt Ajq=>Aa Apt fun Ajm Ak3=>Az Ajm fun Ajl=>Aa Ak3 fun Alv Ail=>Ak .i64 Alv fun Am8=>Ad Ail<|Ad Ajq<|some (Ay.mk [.agg [.sc (.int .i64 5),.sc (.string (ByteArray.mk #[])),.sc (.bool false)],.sc (.int .i64 Akp)] [[.sc (.string Ajl),.sc (.int .i64 Am8)]])) (Bh (x5==34) (Ah (call 68 [.pbox [.sc (.string Fv),.sc (.int .i64 Ff)]]) fun Aip Ajw=>Aa Aip fun Aj1 Ai8=>Az Aj1 fun Ank=>Aa Ai8 fun Anf Aln=>Aq Anf fun Al8=>Ad Aln<|Aa Ajw fun Aiu Ajs=>Aa Aiu fun Ajg Alu=>Az Ajg fun Aek=>Aa Alu fun Akk Aih=>Ak .i64 Akk fun Ac9=>Ad Aih<|Ad Ajs<|Bh Al8 (some (Ay.mk [.agg [.sc (.int .i64 4),.sc (.string Ank),.sc (.bool false)],.sc (.int .i64 0)] [[.sc (.string Aek),.sc (.int .i64 Ac9)]])) (some (Ay.mk [.agg [.sc (.int .i64 0),.sc (.string (ByteArray.mk #[])),.sc (.bool false)],.sc (.int .i64 2)] [[.sc (.string Aek),.sc (.int .i64 Ac9)]]))) (Ah (call 67 [.pbox [.sc (.string Fv),.sc (.int .i64 Ff)],.sc (.string (ByteArray.mk #[116,114,117,101]))]) fun Amf Amd=>Aa Amf fun Akb Am0=>Aq Akb fun Akn=>Ad Am0<|Aa Amd fun Aiv Aml=>Aa Aiv fun Alc Amk=>Az Alc fun Afv=>Aa Amk fun Ane Ak9=>Ak .i64 Ane fun Aes=>Ad Ak9<|Ad Aml<|Bh Akn (some (Ay.mk [.agg [.sc (.int .i64 2),.sc (.string (ByteArray.mk #[])),.sc (.bool true)],.sc (.int .i64 0)] [[.sc (.string Afv),.sc (.int .i64 Aes)]])) (Ah (call 67 [.pbox [.sc (.string Afv),.sc (.int .i64 Aes)],.sc (.string (ByteArray.mk #[102,97,108,115,101]))]) fun Ai6 Alp=>Aa Ai6 fun Alx Aly=>Aq Alx fun Aj0=>Ad Aly<|Aa Alp fun Amu Aka=>Aa Amu fun Agj Ak7=>Az Agj fun Adb=>Aa Ak7 fun Aei Ak5=>Ak .i64 Aei fun Agk=>Ad Ak5<|Ad Aka<|Bh Aj0 (some (Ay.mk [.agg [.sc (.int .i64 2),.sc (.string (ByteArray.mk #[])),.sc (.bool false)],.sc (.int .i64 0)] [[.sc (.string Adb),.sc (.int .i64 Agk)]])) (Ah (call 67 [.pbox [.sc (.string Adb),.sc (.int .i64 Agk)],.sc (.string (ByteArray.mk #[110,117,108,108]))]) fun Al1 Amz=>Aa Al1 fun Amn Al9=>Aq Amn fun Al3=>Ad Al9<|Aa Amz fun Al7 Amc=>Aa Al7 fun Afx Ang=>Az Afx fun Agn=>Aa Ang fun Ae4 Ans=>Ak .i64 Ae4 fun Aew=>Ad Ans<|Ad Amc<|Bh Al3 (some (Ay.mk [.agg [.sc (.int .i64 1),.sc (.string (ByteArray.mk #[])),.sc (.bool false)],.sc (.int .i64 0)] [[.sc (.string Agn),.sc (.int .i64 Aew)]])) (Ah (call 92 [.pbox [.sc (.string Agn),.sc (.int .i64 Aew)]]) fun Als Ajk=>Aa Als fun Ap2 Ajy=>Aq Ap2 fun Amx=>Ad Ajy<|Aa Ajk fun Anp Akw=>Aa Anp fun Anc Aks=>Az Anc fun Ae8=>Aa Aks fun Akf Aj9=>Ak .i64 Akf fun Afs=>Ad Aj9<|Ad Akw<|Bh Amx (some (Ay.mk [.agg [.sc (.int .i64 3),.sc (.string (ByteArray.mk #[])),.sc (.bool false)],.sc (.int .i64 0)] [[.sc (.string Ae8),.sc (.int .i64 Afs)]])) (some (Ay.mk [.agg [.sc (.int .i64 0),.sc (.string (ByteArray.mk #[])),.sc (.bool false)],.sc (.int .i64 2)] [[.sc (.string Ae8),.sc (.int .i64 Afs)]]))))))))))) (Ae (CP p) prog fu d):=by kernel_rfl
end
section
open Go.Proofs.Tryd (prog)
open Go.IntKind (wrap)
theorem Amq:∀n:Fin 256,decide (Lib.indexByte [32,9,10,13] (n.val:Int).toNat.toUInt8>=0)=VS (n.val:Int):=by decide +kernel
theorem Asu {c:Int}(h0:0<=c)(h1:c<=255):decide (Lib.indexByte [32,9,10,13] c.toNat.toUInt8>=0)=VS c:=by
 obtain⟨n,rfl⟩:=Int.eq_ofNat_of_zero_le h0;exact Amq ⟨n,by omega⟩
theorem Bm {t:ByteArray}:∀{l:List Int},Cz t l->Cz t (Bd l)
 |[],h=>h
 |c::l,h=>by
  unfold Bd;split
  ·exact Bm h.tail
  ·exact h
theorem Pw:∀(l:List Int),(Bd l).length<=l.length
 |[]=>Nat.le_refl _
 |c::l=>by
  unfold Bd;split
  ·exact Nat.le_succ_of_le (Pw l)
  ·exact Nat.le_refl _
section
variable {fu d:Nat}
theorem Api (s:ByteArray)(c:Int):Ae C0 prog fu (d+2) Jk [.sc (.string s),.sc (.int .u8 c)]=some ⟨[.sc (.int .i64 (Lib.indexByte s.data.toList c.toNat.toUInt8))],[]⟩:=by
 have e:Ae C0 prog fu (d+1) 40 [.sc (.string s),.sc (.int .u8 c)]=some ⟨[.sc (.int .i64 (Lib.indexByte s.data.toList c.toNat.toUInt8))],[]⟩:=rfl;rw[Jo];simp only[Ej,e]
theorem ET {t s0:ByteArray}{p0:Int}(ht:t.size<=1000000):∀(r:List Int)(nn:Nat),r.length+1<=nn->Cz t r ->
  Cw fu (Ae C0 prog fu (d+2)) s0 p0 nn t (Bp t r:Int)=some ⟨[],[Bw t (Bd r)]⟩
 |[],nn,Q8,h=>by
  obtain⟨k,rfl⟩:∃k,nn=k+1:=⟨nn-1,by omega⟩
  have e:decide ((Bp t []:Int)<(t.size:Int))=false:=by simp[So]
  rw[Ep];simp only[Ej,e];rfl
 |c::r,nn,Q8,h=>by
  obtain⟨k,rfl⟩:∃k,nn=k+1:=⟨nn-1,by omega⟩
  have ih:=ET (s0:=s0) (p0:=p0) ht r k (by simp at Q8;omega) h.tail
  have hc:=h.B c (by simp)
  have hl:=h.len;have hp:=J8 h
  have e6:wrap .i64 ((Bp t (c::r):Int)+1)=(Bp t r:Int):=by
   rw[hp,Bc (by unfold Bp;omega) (by unfold Bp;omega)];omega
  have Sd:Bp t (c::r)<t.size:=by
   unfold Bp;rw[PG] at hl ⊢;omega
  obtain⟨b,hb,rfl⟩:=h.at;have e:decide ((Bp t ((b.toNat:Int)::r):Int)<(t.size:Int))=true:=by simp;omega
  have e2:decide ((0:Int)<=(Bp t ((b.toNat:Int)::r):Int))=true:=by simp
  rw[←Oj (Bp t ((b.toNat:Int)::r))] at hb;have ix:Ae C0 prog fu (d+2) 27 [.sc (.string (ByteArray.mk #[(32:UInt8),(9:UInt8),(10:UInt8),(13:UInt8)])),.sc (.int .u8 (b.toNat:Int))]=some ⟨[.sc (.int .i64 (Lib.indexByte [32,9,10,13] (b.toNat:Int).toNat.toUInt8))],[]⟩:=Api _ _;have hw:=Asu hc.1 hc.2;rw[Ep];cases hq:VS (b.toNat:Int)
  ·rw[hq] at hw
   have es:Bd ((b.toNat:Int)::r)=(b.toNat:Int)::r:=by
    show (if VS _=true then _ else _)=_
    rw[hq];rfl
   rw[es];simp only[Ej,e,e2,hb,ix,hw]
  ·rw[hq] at hw
   have es:Bd ((b.toNat:Int)::r)=Bd r:=by
    show (if VS _=true then _ else _)=_
    rw[hq];rfl
   rw[es];simp only[Ej,e,e2,hb,ix,hw,e6,ih]
theorem Nx {t:ByteArray}{r:List Int}(h:Cz t r)(ht:t.size<=1000000)(Ev:t.size+1<=fu):Ae C0 prog fu (d+3) Fb [.pbox (Bw t r)]=some ⟨[],[Bw t (Bd r)]⟩:=by
 rw[Il];exact ET ht r fu (by have:=h.len;omega) h
theorem EW {t:ByteArray}:∀{l:List Int},Cz t l->Cz t (Io l)
 |[],h=>h
 |c::l,h=>by
  unfold Io;split
  ·exact EW h.tail
  ·exact h
theorem EJ:∀(l:List Int),(Io l).length<=l.length
 |[]=>Nat.le_refl _
 |c::l=>by
  unfold Io;split
  ·exact Nat.le_succ_of_le (EJ l)
  ·exact Nat.le_refl _
theorem Wa {t s0:ByteArray}{p0 y0:Int}(ht:t.size<=1000000):∀(r:List Int)(nn:Nat),r.length+1<=nn->Cz t r ->
  Cq fu (Ae C0 prog fu (d+1)) s0 p0 nn y0 t (Bp t r:Int)=some ⟨[.sc (.bool (decide ((Bp t (Io r):Int)>y0)))],[Bw t (Io r)]⟩
 |[],nn,Q8,h=>by
  obtain⟨k,rfl⟩:∃k,nn=k+1:=⟨nn-1,by omega⟩
  have pk:Ae C0 prog fu (d+1) 90 [.pbox (Bw t [])]=some ⟨[.sc (.int .u8 0)],[Bw t []]⟩:=Km (xs:=xs0) h;have e:decide ((0:Int)>=48)=false:=rfl;rw[El];simp only[Ej,pk,e];rfl
 |c::r,nn,Q8,h=>by
  obtain⟨k,rfl⟩:∃k,nn=k+1:=⟨nn-1,by omega⟩
  have ih:=Wa (s0:=s0) (p0:=p0) (y0:=y0) ht r k (by simp at Q8;omega) h.tail
  have hc:=h.B c (by simp)
  have hl:=h.len;have hp:=J8 h
  have e6:wrap .i64 ((Bp t (c::r):Int)+1)=(Bp t r:Int):=by
   rw[hp,Bc (by unfold Bp;omega) (by unfold Bp;omega)];omega
  have pk:Ae C0 prog fu (d+1) 90 [.pbox (Bw t (c::r))]=some ⟨[.sc (.int .u8 c)],[Bw t (c::r)]⟩:=Km (xs:=xs0) h;have ed:Io (c::r)=if XL c=true then Io r else c::r:=rfl
  rw[El,ed];by_cases h1:48<=c
  ·have e1:decide (c>=48)=true:=by simp;omega
   by_cases h2:c<=57
   ·have e2:decide (c<=57)=true:=by simp;omega
    have e3:XL c=true:=by simp[XL];omega
    rw[E7 e3];simp only[Ej,pk,e1,e2,e6,ih]
   ·have e2:decide (c<=57)=false:=by simp;omega
    have e3:¬XL c=true:=by simp[XL];omega
    rw[Dz e3];simp only[Ej,pk,e1,e2]
  ·have e1:decide (c>=48)=false:=by simp;omega
   have e3:¬XL c=true:=by simp[XL];omega
   rw[Dz e3];simp only[Ej,pk,e1]
def Apk (t:ByteArray)(r:List Int)(o:Option (List Int)):Ay:=⟨[.sc (.bool o.isSome)],[Bw t (o.getD r)]⟩
theorem Dg {t:ByteArray}{r:List Int}(h:Cz t r)(ht:t.size<=1000000)(Ev:t.size+1<=fu):Ae C0 prog fu (d+2) E6 [.pbox (Bw t r)]=some (Apk t r (Cd r)):=by
 rw[H5];refine (Wa ht r fu (by have:=h.len;omega) h).trans ?_
 cases r with
 |nil=>
  have e:decide ((Bp t (Io []):Int)>(Bp t []:Int))=false:=by simp[Io]
  rw[e];rfl
 |cons c r=>
  have hl:=h.len;have hp:=J8 h;have ed:Io (c::r)=if XL c=true then Io r else c::r:=rfl
  have eg:Cd (c::r)=if XL c=true then some (Io r) else none:=rfl
  rw[ed,eg];have hd:=EJ r;by_cases q:XL c=true
  ·rw[E7 q,E7 q]
   have e:decide ((Bp t (Io r):Int)>(Bp t (c::r):Int))=true:=by
    rw[PG] at hl;simp only[gt_iff_lt,decide_eq_true_eq];unfold Bp;rw[PG];omega
   rw[e];rfl
  ·rw[Dz q,Dz q];have e:decide ((Bp t (c::r):Int)>(Bp t (c::r):Int))=false:=by simp
   rw[e];rfl
theorem OQ {t:ByteArray}{r:List Int}(c:UInt8)(h:Cz t r)(ht:t.size<=1000000):Ae C0 prog fu (d+3) 67 [.pbox (Bw t r),.sc (.string (ByteArray.mk #[c]))]=some (Apk t r (Ap [(c.toNat:Int)] r)):=by
 have hc:=c.toNat_lt;have e:=Pb (fu:=fu) (d:=d) (xs:=xs0) h ht (w:=[(c.toNat:Int)]) (fun x hx=>by simp at hx;omega) (show 1<=100 by decide)
 have e2:Ac [(c.toNat:Int)]=ByteArray.mk #[c]:=by
  show ByteArray.mk #[((c.toNat:Int)).toNat.toUInt8]=_;rw[Oj];simp
 rw[e2] at e;refine e.trans ?_;cases Ap [(c.toNat:Int)] r<;>rfl
theorem Fg (c:Int):∀r:List Int,Ap [c] r=match r with|[]=>none|x::r'=>if x=c then some r' else none
 |[]=>rfl
 |x::r=>by
  unfold Ap;by_cases h:x=c
  ·subst h;rw[E7 (by simp[List.isPrefixOf])]
   simp
  ·rw[Dz (by simp[List.isPrefixOf];exact fun e=>h e.symm)]
   simp[h]
theorem Ao {t:ByteArray}{w r r':List Int}(h:Cz t r)(e:Ap w r=some r'):Cz t r':=by
 unfold Ap at e;split at e
 ·cases e;exact h.drop _
 ·cases e
theorem Ur (c:Int)(r:List Int):Abz c r=(Ap [c] r).getD r:=by
 rw[Fg];cases r with
 |nil=>rfl
 |cons x r=>
  show (if x=c then r else x::r)=_
  split<;>simp_all
theorem DJ (r:List Int):Agb r=match Ap [48] r with|some q=>some q|none=>Cd r:=by
 rw[Fg];cases r with
 |nil=>rfl
 |cons x r=>
  show (if x=48 then some r else Cd (x::r))=_
  by_cases h:x=48
  ·rw[E7 h];simp[h]
  ·rw[Dz h];simp[h]
theorem R9 (r:List Int):Yu r=match Ap [46] r with|some q=>(Cd q).bind Rx|none=>Rx r:=by
 rw[Fg];cases r with
 |nil=>rfl
 |cons x r=>
  show (if x=46 then (Cd r).bind Rx else Rx (x::r))=_
  by_cases h:x=46
  ·rw[E7 h];simp[h]
  ·rw[Dz h];simp[h]
def Ke (r:List Int):Option (List Int):=match Ap [43] r with|some q=>Cd q|none=>Cd ((Ap [45] r).getD r)
theorem Adj (r:List Int):(match r with|43::r'=>Cd r'|r=>Cd (Abz 45 r))=Ke r:=by
 unfold Ke;rw[Fg 43,←Ur];split
 ·simp
 ·rename_i Ee;cases r with
  |nil=>rfl
  |cons x r=>
   by_cases h:x=43
   ·exact absurd (by rw[h]) (Ee r)
   ·simp[h]
theorem Mr (r:List Int):Rx r=match Ap [101] r with|some q=>Ke q|none=>match Ap [69] r with|some q=>Ke q|none=>some r:=by
 rw[Fg,Fg];cases r with
 |nil=>rfl
 |cons x r=>
  have e:Rx (x::r)=if x=101∨x=69 then Ke r else some (x::r):=by
   rw[←Adj];rfl
  rw[e];by_cases h:x=101
  ·rw[E7 (Or.inl h)];simp[h]
  ·by_cases h2:x=69
   ·rw[E7 (Or.inr h2)];simp[h2]
   ·rw[Dz (by omega)];simp[h,h2]
theorem Cr {t:ByteArray}{r r':List Int}(h:Cz t r)(e:Cd r=some r'):Cz t r':=by
 cases r with
 |nil=>cases e
 |cons c r=>
  have eg:Cd (c::r)=if XL c=true then some (Io r) else none:=rfl
  rw[eg] at e;split at e
  ·cases e;exact EW h.tail
  ·cases e
theorem Ce {t:ByteArray}{r:List Int}{o:Option (List Int)} (h:Cz t r)(ho:∀q,o=some q->Cz t q):Cz t (o.getD r):=by
 cases o with
 |none=>exact h
 |some q=>exact ho q rfl
end
end
section
open Go.Proofs.Tryd (prog)
open Go.IntKind (wrap)
section
variable {fu d:Nat}
theorem Dw {t:ByteArray}{r:List Int}(c:UInt8)(n:Int)(hn:(c.toNat:Int)=n) (h:Cz t r)(ht:t.size<=1000000)(hq:Ap [n] r=none):Ae C0 prog fu (d+3) 67 [.pbox (Bw t r),.sc (.string (ByteArray.mk #[c]))]=some ⟨[.sc (.bool false)],[Bw t r]⟩:=by
 subst hn;have e:=OQ (fu:=fu) (d:=d) c h ht;rw[hq] at e;exact e
theorem Co {t:ByteArray}{r q:List Int}(c:UInt8)(n:Int)(hn:(c.toNat:Int)=n) (h:Cz t r)(ht:t.size<=1000000)(hq:Ap [n] r=some q):Ae C0 prog fu (d+3) 67 [.pbox (Bw t r),.sc (.string (ByteArray.mk #[c]))]=some ⟨[.sc (.bool true)],[Bw t q]⟩:=by
 subst hn;have e:=OQ (fu:=fu) (d:=d) c h ht;rw[hq] at e;exact e
theorem J0 {t:ByteArray}{r:List Int}(c:UInt8)(n:Int)(hn:(c.toNat:Int)=n) (h:Cz t r)(ht:t.size<=1000000):Ae C0 prog fu (d+3) 67 [.pbox (Bw t r),.sc (.string (ByteArray.mk #[c]))]=some ⟨[.sc (.bool (Ap [n] r).isSome)],[Bw t ((Ap [n] r).getD r)]⟩:=by
 subst hn;exact OQ (fu:=fu) (d:=d) c h ht
set_option maxHeartbeats 2000000 in
theorem ZJ {t:ByteArray}{r:List Int}(h:Cz t r)(ht:t.size<=1000000)(Ev:t.size+1<=fu):∃r',Cz t r'∧Ae C0 prog fu (d+4) E3 [.pbox (Bw t r)]=some ⟨[.sc (.bool (E9 r).isSome)],[Bw t r']⟩∧∀q,E9 r=some q->r'=q:=by
 have a0:=J0 (fu:=fu) (d:=d) 45 45 rfl h ht;have VO:Cz t ((Ap [45] r).getD r):=Ce h fun q e=>Ao h e
 have Uc:E9 r=(Agb ((Ap [45] r).getD r)).bind Yu:=by rw[←Ur];rfl
 generalize (Ap [45] r).getD r=r1 at a0 VO Uc;generalize (Ap [45] r).isSome=b0 at a0;rw[DJ] at Uc;rcases hz:Ap [48] r1 with _|r2
 ·have Fu:=Dw (fu:=fu) (d:=d) 48 48 rfl VO ht hz;rw[hz] at Uc;have OG:=Dg (d:=d+1) VO ht Ev;rcases hzd:Cd r1 with _|r2
  ·simp only[hzd] at OG Uc;have Lo:Ae C0 prog fu (d+3) 107 [.pbox (Bw t r1)]=some ⟨[.sc (.bool false)],[Bw t r1]⟩:=OG;have hn:E9 r=none:=Uc;refine⟨r1,VO,?_,?_⟩
   ·rw[hn,Ag]
    try unfold Ab
    repeat first
     |((with_reducible first|apply A5|apply As|apply A2|apply At|apply A0|apply Au|apply A3|apply A1);· first|with_reducible rfl|(simp (disch:=omega) only[gT,a0,Fu,Lo,Db,D2]<;>first|with_reducible rfl|omega)|omega)
     |(with_reducible apply A4;· first|with_reducible rfl|(simp (disch:=omega) only[gF,a0,Fu,Lo,Db,D2]<;>omega))
    try simp (disch:=omega) only[a0,Fu,Lo,Db,D2]
    try rfl
   ·rw[hn];intro q e;cases e
  ·simp only[hzd] at OG Uc;have Lo:Ae C0 prog fu (d+3) 107 [.pbox (Bw t r1)]=some ⟨[.sc (.bool true)],[Bw t r2]⟩:=OG;have Rm:=Cr VO hzd;have BT:E9 r=Yu r2:=Uc;rw[R9] at BT;rcases YU:Ap [46] r2 with _|r3
   ·have Gf:=Dw (fu:=fu) (d:=d) 46 46 rfl Rm ht YU;rw[YU] at BT;have Kj:E9 r=Rx r2:=BT;rw[Mr] at Kj;rcases he:Ap [101] r2 with _|r5
    ·have Gp:=Dw (fu:=fu) (d:=d) 101 101 rfl Rm ht he;rw[he] at Kj;rcases hE:Ap [69] r2 with _|r5
     ·have Lz:=Dw (fu:=fu) (d:=d) 69 69 rfl Rm ht hE;have hn:E9 r=some r2:=by rw[Kj,hE]
      refine⟨r2,Rm,?_,?_⟩
      ·rw[hn,Ag]
       try unfold Ab
       repeat first
        |((with_reducible first|apply A5|apply As|apply A2|apply At|apply A0|apply Au|apply A3|apply A1);· first|with_reducible rfl|(simp (disch:=omega) only[gT,a0,Fu,Lo,Gf,Gp,Lz,Db,D2]<;>first|with_reducible rfl|omega)|omega)
        |(with_reducible apply A4;· first|with_reducible rfl|(simp (disch:=omega) only[gF,a0,Fu,Lo,Gf,Gp,Lz,Db,D2]<;>omega))
       try simp (disch:=omega) only[a0,Fu,Lo,Gf,Gp,Lz,Db,D2]
       try rfl
      ·rw[hn];intro q e;cases e;rfl
     ·have Lz:=Co (fu:=fu) (d:=d) 69 69 rfl Rm ht hE;have Hq:=Ao Rm hE;rw[hE] at Kj;simp only at Kj;rcases hp:Ap [43] r5 with _|r6
      ·have Gn:=Dw (fu:=fu) (d:=d) 43 43 rfl Hq ht hp;have Cb:=J0 (fu:=fu) (d:=d) 45 45 rfl Hq ht;have Fo:Cz t ((Ap [45] r5).getD r5):=Ce Hq fun q e=>Ao Hq e
       have hn:E9 r=Cd ((Ap [45] r5).getD r5):=by rw[Kj];unfold Ke;rw[hp]
       generalize (Ap [45] r5).getD r5=r6 at Cb Fo hn;generalize (Ap [45] r5).isSome=b1 at Cb;have hg:Ae C0 prog fu (d+3) 107 [.pbox (Bw t r6)]=some ⟨[.sc (.bool (Cd r6).isSome)],[Bw t ((Cd r6).getD r6)]⟩:=Dg (d:=d+1) Fo ht Ev;refine⟨(Cd r6).getD r6,Ce Fo fun q e=>Cr Fo e,?_,?_⟩
       ·rw[hn,Ag]
        try unfold Ab
        repeat first
         |((with_reducible first|apply A5|apply As|apply A2|apply At|apply A0|apply Au|apply A3|apply A1);· first|with_reducible rfl|(simp (disch:=omega) only[gT,a0,Fu,Lo,Gf,Gp,Lz,Gn,Cb,hg,Db,D2]<;>first|with_reducible rfl|omega)|omega)
         |(with_reducible apply A4;· first|with_reducible rfl|(simp (disch:=omega) only[gF,a0,Fu,Lo,Gf,Gp,Lz,Gn,Cb,hg,Db,D2]<;>omega))
        try simp (disch:=omega) only[a0,Fu,Lo,Gf,Gp,Lz,Gn,Cb,hg,Db,D2]
        try rfl
       ·rw[hn];intro q e;rw[e];rfl
      ·have Gn:=Co (fu:=fu) (d:=d) 43 43 rfl Hq ht hp;have Fo:=Ao Hq hp;have hn:E9 r=Cd r6:=by rw[Kj];unfold Ke;rw[hp]
       have hg:Ae C0 prog fu (d+3) 107 [.pbox (Bw t r6)]=some ⟨[.sc (.bool (Cd r6).isSome)],[Bw t ((Cd r6).getD r6)]⟩:=Dg (d:=d+1) Fo ht Ev;refine⟨(Cd r6).getD r6,Ce Fo fun q e=>Cr Fo e,?_,?_⟩
       ·rw[hn,Ag]
        try unfold Ab
        repeat first
         |((with_reducible first|apply A5|apply As|apply A2|apply At|apply A0|apply Au|apply A3|apply A1);· first|with_reducible rfl|(simp (disch:=omega) only[gT,a0,Fu,Lo,Gf,Gp,Lz,Gn,hg,Db,D2]<;>first|with_reducible rfl|omega)|omega)
         |(with_reducible apply A4;· first|with_reducible rfl|(simp (disch:=omega) only[gF,a0,Fu,Lo,Gf,Gp,Lz,Gn,hg,Db,D2]<;>omega))
        try simp (disch:=omega) only[a0,Fu,Lo,Gf,Gp,Lz,Gn,hg,Db,D2]
        try rfl
       ·rw[hn];intro q e;rw[e];rfl
    ·have Gp:=Co (fu:=fu) (d:=d) 101 101 rfl Rm ht he;have Hq:=Ao Rm he;rw[he] at Kj;simp only at Kj;rcases hp:Ap [43] r5 with _|r6
     ·have Gn:=Dw (fu:=fu) (d:=d) 43 43 rfl Hq ht hp;have Cb:=J0 (fu:=fu) (d:=d) 45 45 rfl Hq ht;have Fo:Cz t ((Ap [45] r5).getD r5):=Ce Hq fun q e=>Ao Hq e
      have hn:E9 r=Cd ((Ap [45] r5).getD r5):=by rw[Kj];unfold Ke;rw[hp]
      generalize (Ap [45] r5).getD r5=r6 at Cb Fo hn;generalize (Ap [45] r5).isSome=b1 at Cb;have hg:Ae C0 prog fu (d+3) 107 [.pbox (Bw t r6)]=some ⟨[.sc (.bool (Cd r6).isSome)],[Bw t ((Cd r6).getD r6)]⟩:=Dg (d:=d+1) Fo ht Ev;refine⟨(Cd r6).getD r6,Ce Fo fun q e=>Cr Fo e,?_,?_⟩
      ·rw[hn,Ag]
       try unfold Ab
       repeat first
        |((with_reducible first|apply A5|apply As|apply A2|apply At|apply A0|apply Au|apply A3|apply A1);· first|with_reducible rfl|(simp (disch:=omega) only[gT,a0,Fu,Lo,Gf,Gp,Gn,Cb,hg,Db,D2]<;>first|with_reducible rfl|omega)|omega)
        |(with_reducible apply A4;· first|with_reducible rfl|(simp (disch:=omega) only[gF,a0,Fu,Lo,Gf,Gp,Gn,Cb,hg,Db,D2]<;>omega))
       try simp (disch:=omega) only[a0,Fu,Lo,Gf,Gp,Gn,Cb,hg,Db,D2]
       try rfl
      ·rw[hn];intro q e;rw[e];rfl
     ·have Gn:=Co (fu:=fu) (d:=d) 43 43 rfl Hq ht hp;have Fo:=Ao Hq hp;have hn:E9 r=Cd r6:=by rw[Kj];unfold Ke;rw[hp]
      have hg:Ae C0 prog fu (d+3) 107 [.pbox (Bw t r6)]=some ⟨[.sc (.bool (Cd r6).isSome)],[Bw t ((Cd r6).getD r6)]⟩:=Dg (d:=d+1) Fo ht Ev;refine⟨(Cd r6).getD r6,Ce Fo fun q e=>Cr Fo e,?_,?_⟩
      ·rw[hn,Ag]
       try unfold Ab
       repeat first
        |((with_reducible first|apply A5|apply As|apply A2|apply At|apply A0|apply Au|apply A3|apply A1);· first|with_reducible rfl|(simp (disch:=omega) only[gT,a0,Fu,Lo,Gf,Gp,Gn,hg,Db,D2]<;>first|with_reducible rfl|omega)|omega)
        |(with_reducible apply A4;· first|with_reducible rfl|(simp (disch:=omega) only[gF,a0,Fu,Lo,Gf,Gp,Gn,hg,Db,D2]<;>omega))
       try simp (disch:=omega) only[a0,Fu,Lo,Gf,Gp,Gn,hg,Db,D2]
       try rfl
      ·rw[hn];intro q e;rw[e];rfl
   ·have Gf:=Co (fu:=fu) (d:=d) 46 46 rfl Rm ht YU;have hS3:=Ao Rm YU;rw[YU] at BT;have BT:E9 r=(Cd r3).bind Rx:=BT;have hd1:=Dg (d:=d+1) hS3 ht Ev;rcases EV:Cd r3 with _|r4
    ·rw[EV] at hd1 BT;have K5:Ae C0 prog fu (d+3) 107 [.pbox (Bw t r3)]=some ⟨[.sc (.bool false)],[Bw t r3]⟩:=hd1;have hn:E9 r=none:=BT;refine⟨r3,hS3,?_,?_⟩
     ·rw[hn,Ag]
      try unfold Ab
      repeat first
       |((with_reducible first|apply A5|apply As|apply A2|apply At|apply A0|apply Au|apply A3|apply A1);· first|with_reducible rfl|(simp (disch:=omega) only[gT,a0,Fu,Lo,Gf,K5,Db,D2]<;>first|with_reducible rfl|omega)|omega)
       |(with_reducible apply A4;· first|with_reducible rfl|(simp (disch:=omega) only[gF,a0,Fu,Lo,Gf,K5,Db,D2]<;>omega))
      try simp (disch:=omega) only[a0,Fu,Lo,Gf,K5,Db,D2]
      try rfl
     ·rw[hn];intro q e;cases e
    ·rw[EV] at hd1 BT;have K5:Ae C0 prog fu (d+3) 107 [.pbox (Bw t r3)]=some ⟨[.sc (.bool true)],[Bw t r4]⟩:=hd1;have Xt:=Cr hS3 EV;have Kj:E9 r=Rx r4:=BT;rw[Mr] at Kj;rcases he:Ap [101] r4 with _|r5
     ·have Gp:=Dw (fu:=fu) (d:=d) 101 101 rfl Xt ht he;rw[he] at Kj;rcases hE:Ap [69] r4 with _|r5
      ·have Lz:=Dw (fu:=fu) (d:=d) 69 69 rfl Xt ht hE;have hn:E9 r=some r4:=by rw[Kj,hE]
       refine⟨r4,Xt,?_,?_⟩
       ·rw[hn,Ag]
        try unfold Ab
        repeat first
         |((with_reducible first|apply A5|apply As|apply A2|apply At|apply A0|apply Au|apply A3|apply A1);· first|with_reducible rfl|(simp (disch:=omega) only[gT,a0,Fu,Lo,Gf,K5,Gp,Lz,Db,D2]<;>first|with_reducible rfl|omega)|omega)
         |(with_reducible apply A4;· first|with_reducible rfl|(simp (disch:=omega) only[gF,a0,Fu,Lo,Gf,K5,Gp,Lz,Db,D2]<;>omega))
        try simp (disch:=omega) only[a0,Fu,Lo,Gf,K5,Gp,Lz,Db,D2]
        try rfl
       ·rw[hn];intro q e;cases e;rfl
      ·have Lz:=Co (fu:=fu) (d:=d) 69 69 rfl Xt ht hE;have Hq:=Ao Xt hE;rw[hE] at Kj;simp only at Kj;rcases hp:Ap [43] r5 with _|r6
       ·have Gn:=Dw (fu:=fu) (d:=d) 43 43 rfl Hq ht hp;have Cb:=J0 (fu:=fu) (d:=d) 45 45 rfl Hq ht;have Fo:Cz t ((Ap [45] r5).getD r5):=Ce Hq fun q e=>Ao Hq e
        have hn:E9 r=Cd ((Ap [45] r5).getD r5):=by rw[Kj];unfold Ke;rw[hp]
        generalize (Ap [45] r5).getD r5=r6 at Cb Fo hn;generalize (Ap [45] r5).isSome=b1 at Cb;have hg:Ae C0 prog fu (d+3) 107 [.pbox (Bw t r6)]=some ⟨[.sc (.bool (Cd r6).isSome)],[Bw t ((Cd r6).getD r6)]⟩:=Dg (d:=d+1) Fo ht Ev;refine⟨(Cd r6).getD r6,Ce Fo fun q e=>Cr Fo e,?_,?_⟩
        ·rw[hn,Ag]
         try unfold Ab
         repeat first
          |((with_reducible first|apply A5|apply As|apply A2|apply At|apply A0|apply Au|apply A3|apply A1);· first|with_reducible rfl|(simp (disch:=omega) only[gT,a0,Fu,Lo,Gf,K5,Gp,Lz,Gn,Cb,hg,Db,D2]<;>first|with_reducible rfl|omega)|omega)
          |(with_reducible apply A4;· first|with_reducible rfl|(simp (disch:=omega) only[gF,a0,Fu,Lo,Gf,K5,Gp,Lz,Gn,Cb,hg,Db,D2]<;>omega))
         try simp (disch:=omega) only[a0,Fu,Lo,Gf,K5,Gp,Lz,Gn,Cb,hg,Db,D2]
         try rfl
        ·rw[hn];intro q e;rw[e];rfl
       ·have Gn:=Co (fu:=fu) (d:=d) 43 43 rfl Hq ht hp;have Fo:=Ao Hq hp;have hn:E9 r=Cd r6:=by rw[Kj];unfold Ke;rw[hp]
        have hg:Ae C0 prog fu (d+3) 107 [.pbox (Bw t r6)]=some ⟨[.sc (.bool (Cd r6).isSome)],[Bw t ((Cd r6).getD r6)]⟩:=Dg (d:=d+1) Fo ht Ev;refine⟨(Cd r6).getD r6,Ce Fo fun q e=>Cr Fo e,?_,?_⟩
        ·rw[hn,Ag]
         try unfold Ab
         repeat first
          |((with_reducible first|apply A5|apply As|apply A2|apply At|apply A0|apply Au|apply A3|apply A1);· first|with_reducible rfl|(simp (disch:=omega) only[gT,a0,Fu,Lo,Gf,K5,Gp,Lz,Gn,hg,Db,D2]<;>first|with_reducible rfl|omega)|omega)
          |(with_reducible apply A4;· first|with_reducible rfl|(simp (disch:=omega) only[gF,a0,Fu,Lo,Gf,K5,Gp,Lz,Gn,hg,Db,D2]<;>omega))
         try simp (disch:=omega) only[a0,Fu,Lo,Gf,K5,Gp,Lz,Gn,hg,Db,D2]
         try rfl
        ·rw[hn];intro q e;rw[e];rfl
     ·have Gp:=Co (fu:=fu) (d:=d) 101 101 rfl Xt ht he;have Hq:=Ao Xt he;rw[he] at Kj;simp only at Kj;rcases hp:Ap [43] r5 with _|r6
      ·have Gn:=Dw (fu:=fu) (d:=d) 43 43 rfl Hq ht hp;have Cb:=J0 (fu:=fu) (d:=d) 45 45 rfl Hq ht;have Fo:Cz t ((Ap [45] r5).getD r5):=Ce Hq fun q e=>Ao Hq e
       have hn:E9 r=Cd ((Ap [45] r5).getD r5):=by rw[Kj];unfold Ke;rw[hp]
       generalize (Ap [45] r5).getD r5=r6 at Cb Fo hn;generalize (Ap [45] r5).isSome=b1 at Cb;have hg:Ae C0 prog fu (d+3) 107 [.pbox (Bw t r6)]=some ⟨[.sc (.bool (Cd r6).isSome)],[Bw t ((Cd r6).getD r6)]⟩:=Dg (d:=d+1) Fo ht Ev;refine⟨(Cd r6).getD r6,Ce Fo fun q e=>Cr Fo e,?_,?_⟩
       ·rw[hn,Ag]
        try unfold Ab
        repeat first
         |((with_reducible first|apply A5|apply As|apply A2|apply At|apply A0|apply Au|apply A3|apply A1);· first|with_reducible rfl|(simp (disch:=omega) only[gT,a0,Fu,Lo,Gf,K5,Gp,Gn,Cb,hg,Db,D2]<;>first|with_reducible rfl|omega)|omega)
         |(with_reducible apply A4;· first|with_reducible rfl|(simp (disch:=omega) only[gF,a0,Fu,Lo,Gf,K5,Gp,Gn,Cb,hg,Db,D2]<;>omega))
        try simp (disch:=omega) only[a0,Fu,Lo,Gf,K5,Gp,Gn,Cb,hg,Db,D2]
        try rfl
       ·rw[hn];intro q e;rw[e];rfl
      ·have Gn:=Co (fu:=fu) (d:=d) 43 43 rfl Hq ht hp;have Fo:=Ao Hq hp;have hn:E9 r=Cd r6:=by rw[Kj];unfold Ke;rw[hp]
       have hg:Ae C0 prog fu (d+3) 107 [.pbox (Bw t r6)]=some ⟨[.sc (.bool (Cd r6).isSome)],[Bw t ((Cd r6).getD r6)]⟩:=Dg (d:=d+1) Fo ht Ev;refine⟨(Cd r6).getD r6,Ce Fo fun q e=>Cr Fo e,?_,?_⟩
       ·rw[hn,Ag]
        try unfold Ab
        repeat first
         |((with_reducible first|apply A5|apply As|apply A2|apply At|apply A0|apply Au|apply A3|apply A1);· first|with_reducible rfl|(simp (disch:=omega) only[gT,a0,Fu,Lo,Gf,K5,Gp,Gn,hg,Db,D2]<;>first|with_reducible rfl|omega)|omega)
         |(with_reducible apply A4;· first|with_reducible rfl|(simp (disch:=omega) only[gF,a0,Fu,Lo,Gf,K5,Gp,Gn,hg,Db,D2]<;>omega))
        try simp (disch:=omega) only[a0,Fu,Lo,Gf,K5,Gp,Gn,hg,Db,D2]
        try rfl
       ·rw[hn];intro q e;rw[e];rfl
 ·have Fu:=Co (fu:=fu) (d:=d) 48 48 rfl VO ht hz;rw[hz] at Uc;have Rm:=Ao VO hz;have BT:E9 r=Yu r2:=Uc;rw[R9] at BT;rcases YU:Ap [46] r2 with _|r3
  ·have Gf:=Dw (fu:=fu) (d:=d) 46 46 rfl Rm ht YU;rw[YU] at BT;have Kj:E9 r=Rx r2:=BT;rw[Mr] at Kj;rcases he:Ap [101] r2 with _|r5
   ·have Gp:=Dw (fu:=fu) (d:=d) 101 101 rfl Rm ht he;rw[he] at Kj;rcases hE:Ap [69] r2 with _|r5
    ·have Lz:=Dw (fu:=fu) (d:=d) 69 69 rfl Rm ht hE;have hn:E9 r=some r2:=by rw[Kj,hE]
     refine⟨r2,Rm,?_,?_⟩
     ·rw[hn,Ag]
      try unfold Ab
      repeat first
       |((with_reducible first|apply A5|apply As|apply A2|apply At|apply A0|apply Au|apply A3|apply A1);· first|with_reducible rfl|(simp (disch:=omega) only[gT,a0,Fu,Gf,Gp,Lz,Db,D2]<;>first|with_reducible rfl|omega)|omega)
       |(with_reducible apply A4;· first|with_reducible rfl|(simp (disch:=omega) only[gF,a0,Fu,Gf,Gp,Lz,Db,D2]<;>omega))
      try simp (disch:=omega) only[a0,Fu,Gf,Gp,Lz,Db,D2]
      try rfl
     ·rw[hn];intro q e;cases e;rfl
    ·have Lz:=Co (fu:=fu) (d:=d) 69 69 rfl Rm ht hE;have Hq:=Ao Rm hE;rw[hE] at Kj;simp only at Kj;rcases hp:Ap [43] r5 with _|r6
     ·have Gn:=Dw (fu:=fu) (d:=d) 43 43 rfl Hq ht hp;have Cb:=J0 (fu:=fu) (d:=d) 45 45 rfl Hq ht;have Fo:Cz t ((Ap [45] r5).getD r5):=Ce Hq fun q e=>Ao Hq e
      have hn:E9 r=Cd ((Ap [45] r5).getD r5):=by rw[Kj];unfold Ke;rw[hp]
      generalize (Ap [45] r5).getD r5=r6 at Cb Fo hn;generalize (Ap [45] r5).isSome=b1 at Cb;have hg:Ae C0 prog fu (d+3) 107 [.pbox (Bw t r6)]=some ⟨[.sc (.bool (Cd r6).isSome)],[Bw t ((Cd r6).getD r6)]⟩:=Dg (d:=d+1) Fo ht Ev;refine⟨(Cd r6).getD r6,Ce Fo fun q e=>Cr Fo e,?_,?_⟩
      ·rw[hn,Ag]
       try unfold Ab
       repeat first
        |((with_reducible first|apply A5|apply As|apply A2|apply At|apply A0|apply Au|apply A3|apply A1);· first|with_reducible rfl|(simp (disch:=omega) only[gT,a0,Fu,Gf,Gp,Lz,Gn,Cb,hg,Db,D2]<;>first|with_reducible rfl|omega)|omega)
        |(with_reducible apply A4;· first|with_reducible rfl|(simp (disch:=omega) only[gF,a0,Fu,Gf,Gp,Lz,Gn,Cb,hg,Db,D2]<;>omega))
       try simp (disch:=omega) only[a0,Fu,Gf,Gp,Lz,Gn,Cb,hg,Db,D2]
       try rfl
      ·rw[hn];intro q e;rw[e];rfl
     ·have Gn:=Co (fu:=fu) (d:=d) 43 43 rfl Hq ht hp;have Fo:=Ao Hq hp;have hn:E9 r=Cd r6:=by rw[Kj];unfold Ke;rw[hp]
      have hg:Ae C0 prog fu (d+3) 107 [.pbox (Bw t r6)]=some ⟨[.sc (.bool (Cd r6).isSome)],[Bw t ((Cd r6).getD r6)]⟩:=Dg (d:=d+1) Fo ht Ev;refine⟨(Cd r6).getD r6,Ce Fo fun q e=>Cr Fo e,?_,?_⟩
      ·rw[hn,Ag]
       try unfold Ab
       repeat first
        |((with_reducible first|apply A5|apply As|apply A2|apply At|apply A0|apply Au|apply A3|apply A1);· first|with_reducible rfl|(simp (disch:=omega) only[gT,a0,Fu,Gf,Gp,Lz,Gn,hg,Db,D2]<;>first|with_reducible rfl|omega)|omega)
        |(with_reducible apply A4;· first|with_reducible rfl|(simp (disch:=omega) only[gF,a0,Fu,Gf,Gp,Lz,Gn,hg,Db,D2]<;>omega))
       try simp (disch:=omega) only[a0,Fu,Gf,Gp,Lz,Gn,hg,Db,D2]
       try rfl
      ·rw[hn];intro q e;rw[e];rfl
   ·have Gp:=Co (fu:=fu) (d:=d) 101 101 rfl Rm ht he;have Hq:=Ao Rm he;rw[he] at Kj;simp only at Kj;rcases hp:Ap [43] r5 with _|r6
    ·have Gn:=Dw (fu:=fu) (d:=d) 43 43 rfl Hq ht hp;have Cb:=J0 (fu:=fu) (d:=d) 45 45 rfl Hq ht;have Fo:Cz t ((Ap [45] r5).getD r5):=Ce Hq fun q e=>Ao Hq e
     have hn:E9 r=Cd ((Ap [45] r5).getD r5):=by rw[Kj];unfold Ke;rw[hp]
     generalize (Ap [45] r5).getD r5=r6 at Cb Fo hn;generalize (Ap [45] r5).isSome=b1 at Cb;have hg:Ae C0 prog fu (d+3) 107 [.pbox (Bw t r6)]=some ⟨[.sc (.bool (Cd r6).isSome)],[Bw t ((Cd r6).getD r6)]⟩:=Dg (d:=d+1) Fo ht Ev;refine⟨(Cd r6).getD r6,Ce Fo fun q e=>Cr Fo e,?_,?_⟩
     ·rw[hn,Ag]
      try unfold Ab
      repeat first
       |((with_reducible first|apply A5|apply As|apply A2|apply At|apply A0|apply Au|apply A3|apply A1);· first|with_reducible rfl|(simp (disch:=omega) only[gT,a0,Fu,Gf,Gp,Gn,Cb,hg,Db,D2]<;>first|with_reducible rfl|omega)|omega)
       |(with_reducible apply A4;· first|with_reducible rfl|(simp (disch:=omega) only[gF,a0,Fu,Gf,Gp,Gn,Cb,hg,Db,D2]<;>omega))
      try simp (disch:=omega) only[a0,Fu,Gf,Gp,Gn,Cb,hg,Db,D2]
      try rfl
     ·rw[hn];intro q e;rw[e];rfl
    ·have Gn:=Co (fu:=fu) (d:=d) 43 43 rfl Hq ht hp;have Fo:=Ao Hq hp;have hn:E9 r=Cd r6:=by rw[Kj];unfold Ke;rw[hp]
     have hg:Ae C0 prog fu (d+3) 107 [.pbox (Bw t r6)]=some ⟨[.sc (.bool (Cd r6).isSome)],[Bw t ((Cd r6).getD r6)]⟩:=Dg (d:=d+1) Fo ht Ev;refine⟨(Cd r6).getD r6,Ce Fo fun q e=>Cr Fo e,?_,?_⟩
     ·rw[hn,Ag]
      try unfold Ab
      repeat first
       |((with_reducible first|apply A5|apply As|apply A2|apply At|apply A0|apply Au|apply A3|apply A1);· first|with_reducible rfl|(simp (disch:=omega) only[gT,a0,Fu,Gf,Gp,Gn,hg,Db,D2]<;>first|with_reducible rfl|omega)|omega)
       |(with_reducible apply A4;· first|with_reducible rfl|(simp (disch:=omega) only[gF,a0,Fu,Gf,Gp,Gn,hg,Db,D2]<;>omega))
      try simp (disch:=omega) only[a0,Fu,Gf,Gp,Gn,hg,Db,D2]
      try rfl
     ·rw[hn];intro q e;rw[e];rfl
  ·have Gf:=Co (fu:=fu) (d:=d) 46 46 rfl Rm ht YU;have hS3:=Ao Rm YU;rw[YU] at BT;have BT:E9 r=(Cd r3).bind Rx:=BT;have hd1:=Dg (d:=d+1) hS3 ht Ev;rcases EV:Cd r3 with _|r4
   ·rw[EV] at hd1 BT;have K5:Ae C0 prog fu (d+3) 107 [.pbox (Bw t r3)]=some ⟨[.sc (.bool false)],[Bw t r3]⟩:=hd1;have hn:E9 r=none:=BT;refine⟨r3,hS3,?_,?_⟩
    ·rw[hn,Ag]
     try unfold Ab
     repeat first
      |((with_reducible first|apply A5|apply As|apply A2|apply At|apply A0|apply Au|apply A3|apply A1);· first|with_reducible rfl|(simp (disch:=omega) only[gT,a0,Fu,Gf,K5,Db,D2]<;>first|with_reducible rfl|omega)|omega)
      |(with_reducible apply A4;· first|with_reducible rfl|(simp (disch:=omega) only[gF,a0,Fu,Gf,K5,Db,D2]<;>omega))
     try simp (disch:=omega) only[a0,Fu,Gf,K5,Db,D2]
     try rfl
    ·rw[hn];intro q e;cases e
   ·rw[EV] at hd1 BT;have K5:Ae C0 prog fu (d+3) 107 [.pbox (Bw t r3)]=some ⟨[.sc (.bool true)],[Bw t r4]⟩:=hd1;have Xt:=Cr hS3 EV;have Kj:E9 r=Rx r4:=BT;rw[Mr] at Kj;rcases he:Ap [101] r4 with _|r5
    ·have Gp:=Dw (fu:=fu) (d:=d) 101 101 rfl Xt ht he;rw[he] at Kj;rcases hE:Ap [69] r4 with _|r5
     ·have Lz:=Dw (fu:=fu) (d:=d) 69 69 rfl Xt ht hE;have hn:E9 r=some r4:=by rw[Kj,hE]
      refine⟨r4,Xt,?_,?_⟩
      ·rw[hn,Ag]
       try unfold Ab
       repeat first
        |((with_reducible first|apply A5|apply As|apply A2|apply At|apply A0|apply Au|apply A3|apply A1);· first|with_reducible rfl|(simp (disch:=omega) only[gT,a0,Fu,Gf,K5,Gp,Lz,Db,D2]<;>first|with_reducible rfl|omega)|omega)
        |(with_reducible apply A4;· first|with_reducible rfl|(simp (disch:=omega) only[gF,a0,Fu,Gf,K5,Gp,Lz,Db,D2]<;>omega))
       try simp (disch:=omega) only[a0,Fu,Gf,K5,Gp,Lz,Db,D2]
       try rfl
      ·rw[hn];intro q e;cases e;rfl
     ·have Lz:=Co (fu:=fu) (d:=d) 69 69 rfl Xt ht hE;have Hq:=Ao Xt hE;rw[hE] at Kj;simp only at Kj;rcases hp:Ap [43] r5 with _|r6
      ·have Gn:=Dw (fu:=fu) (d:=d) 43 43 rfl Hq ht hp;have Cb:=J0 (fu:=fu) (d:=d) 45 45 rfl Hq ht;have Fo:Cz t ((Ap [45] r5).getD r5):=Ce Hq fun q e=>Ao Hq e
       have hn:E9 r=Cd ((Ap [45] r5).getD r5):=by rw[Kj];unfold Ke;rw[hp]
       generalize (Ap [45] r5).getD r5=r6 at Cb Fo hn;generalize (Ap [45] r5).isSome=b1 at Cb;have hg:Ae C0 prog fu (d+3) 107 [.pbox (Bw t r6)]=some ⟨[.sc (.bool (Cd r6).isSome)],[Bw t ((Cd r6).getD r6)]⟩:=Dg (d:=d+1) Fo ht Ev;refine⟨(Cd r6).getD r6,Ce Fo fun q e=>Cr Fo e,?_,?_⟩
       ·rw[hn,Ag]
        try unfold Ab
        repeat first
         |((with_reducible first|apply A5|apply As|apply A2|apply At|apply A0|apply Au|apply A3|apply A1);· first|with_reducible rfl|(simp (disch:=omega) only[gT,a0,Fu,Gf,K5,Gp,Lz,Gn,Cb,hg,Db,D2]<;>first|with_reducible rfl|omega)|omega)
         |(with_reducible apply A4;· first|with_reducible rfl|(simp (disch:=omega) only[gF,a0,Fu,Gf,K5,Gp,Lz,Gn,Cb,hg,Db,D2]<;>omega))
        try simp (disch:=omega) only[a0,Fu,Gf,K5,Gp,Lz,Gn,Cb,hg,Db,D2]
        try rfl
       ·rw[hn];intro q e;rw[e];rfl
      ·have Gn:=Co (fu:=fu) (d:=d) 43 43 rfl Hq ht hp;have Fo:=Ao Hq hp;have hn:E9 r=Cd r6:=by rw[Kj];unfold Ke;rw[hp]
       have hg:Ae C0 prog fu (d+3) 107 [.pbox (Bw t r6)]=some ⟨[.sc (.bool (Cd r6).isSome)],[Bw t ((Cd r6).getD r6)]⟩:=Dg (d:=d+1) Fo ht Ev;refine⟨(Cd r6).getD r6,Ce Fo fun q e=>Cr Fo e,?_,?_⟩
       ·rw[hn,Ag]
        try unfold Ab
        repeat first
         |((with_reducible first|apply A5|apply As|apply A2|apply At|apply A0|apply Au|apply A3|apply A1);· first|with_reducible rfl|(simp (disch:=omega) only[gT,a0,Fu,Gf,K5,Gp,Lz,Gn,hg,Db,D2]<;>first|with_reducible rfl|omega)|omega)
         |(with_reducible apply A4;· first|with_reducible rfl|(simp (disch:=omega) only[gF,a0,Fu,Gf,K5,Gp,Lz,Gn,hg,Db,D2]<;>omega))
        try simp (disch:=omega) only[a0,Fu,Gf,K5,Gp,Lz,Gn,hg,Db,D2]
        try rfl
       ·rw[hn];intro q e;rw[e];rfl
    ·have Gp:=Co (fu:=fu) (d:=d) 101 101 rfl Xt ht he;have Hq:=Ao Xt he;rw[he] at Kj;simp only at Kj;rcases hp:Ap [43] r5 with _|r6
     ·have Gn:=Dw (fu:=fu) (d:=d) 43 43 rfl Hq ht hp;have Cb:=J0 (fu:=fu) (d:=d) 45 45 rfl Hq ht;have Fo:Cz t ((Ap [45] r5).getD r5):=Ce Hq fun q e=>Ao Hq e
      have hn:E9 r=Cd ((Ap [45] r5).getD r5):=by rw[Kj];unfold Ke;rw[hp]
      generalize (Ap [45] r5).getD r5=r6 at Cb Fo hn;generalize (Ap [45] r5).isSome=b1 at Cb;have hg:Ae C0 prog fu (d+3) 107 [.pbox (Bw t r6)]=some ⟨[.sc (.bool (Cd r6).isSome)],[Bw t ((Cd r6).getD r6)]⟩:=Dg (d:=d+1) Fo ht Ev;refine⟨(Cd r6).getD r6,Ce Fo fun q e=>Cr Fo e,?_,?_⟩
      ·rw[hn,Ag]
       try unfold Ab
       repeat first
        |((with_reducible first|apply A5|apply As|apply A2|apply At|apply A0|apply Au|apply A3|apply A1);· first|with_reducible rfl|(simp (disch:=omega) only[gT,a0,Fu,Gf,K5,Gp,Gn,Cb,hg,Db,D2]<;>first|with_reducible rfl|omega)|omega)
        |(with_reducible apply A4;· first|with_reducible rfl|(simp (disch:=omega) only[gF,a0,Fu,Gf,K5,Gp,Gn,Cb,hg,Db,D2]<;>omega))
       try simp (disch:=omega) only[a0,Fu,Gf,K5,Gp,Gn,Cb,hg,Db,D2]
       try rfl
      ·rw[hn];intro q e;rw[e];rfl
     ·have Gn:=Co (fu:=fu) (d:=d) 43 43 rfl Hq ht hp;have Fo:=Ao Hq hp;have hn:E9 r=Cd r6:=by rw[Kj];unfold Ke;rw[hp]
      have hg:Ae C0 prog fu (d+3) 107 [.pbox (Bw t r6)]=some ⟨[.sc (.bool (Cd r6).isSome)],[Bw t ((Cd r6).getD r6)]⟩:=Dg (d:=d+1) Fo ht Ev;refine⟨(Cd r6).getD r6,Ce Fo fun q e=>Cr Fo e,?_,?_⟩
      ·rw[hn,Ag]
       try unfold Ab
       repeat first
        |((with_reducible first|apply A5|apply As|apply A2|apply At|apply A0|apply Au|apply A3|apply A1);· first|with_reducible rfl|(simp (disch:=omega) only[gT,a0,Fu,Gf,K5,Gp,Gn,hg,Db,D2]<;>first|with_reducible rfl|omega)|omega)
        |(with_reducible apply A4;· first|with_reducible rfl|(simp (disch:=omega) only[gF,a0,Fu,Gf,K5,Gp,Gn,hg,Db,D2]<;>omega))
       try simp (disch:=omega) only[a0,Fu,Gf,K5,Gp,Gn,hg,Db,D2]
       try rfl
      ·rw[hn];intro q e;rw[e];rfl
end
end
section
open Go.Proofs.Tryd (prog)
open Go.IntKind (wrap)
theorem Cz.trans {t:ByteArray}{r q:List Int}(h:Cz t r)(k:Cz (Ac r) q):Cz t q:=by
 obtain⟨pre,k⟩:=k;rw[C9 h.B] at k;rw[k] at h;exact h.app
theorem Cz.self {l:List Int}(h:Dq l):Cz (Ac l) l:=⟨[],by rw[C9 h];rfl⟩
theorem Cz.le {l q:List Int}(h:Cz (Ac l) q):q.length<=l.length:=by
 have:=h.len
 rwa [Aw] at this
def PY (t:ByteArray)(l:List Int)(x:JR (JV × List Int)) (res:Ay):Prop:=
 match x with
 |.ok (v,q)=>Cz (Ac l) q∧res=⟨[.agg [.sc (.int .i64 v.1),.sc (.string (Ac v.2.1)),.sc (.bool v.2.2)],.sc (.int .i64 0)],[Bw t q]⟩
 |.error e=>e≠0∧∃c1 c2 c3 q,Cz t q∧res=⟨[.agg [.sc (.int .i64 c1),.sc (.string c2),.sc (.bool c3)],.sc (.int .i64 e)],[Bw t q]⟩
def Arf (t:ByteArray)(l:List Int)(x:JR (List Int)) (res:Ay):Prop:=
 match x with
 |.ok q=>Cz (Ac l) q∧res=⟨[.sc (.int .i64 0)],[Bw t q]⟩
 |.error e=>e≠0∧∃q,Cz t q∧res=⟨[.sc (.int .i64 e)],[Bw t q]⟩
theorem Aah {α:Type}(a b:Int)(Lq:a≠b)(A B:List Int->α)(C:α)(x:List Int):
  (match Ap [a] x with|some r=>A r|none=>match Ap [b] x with|some r=>B r|none=>C)=(match x with|[]=>C|y::r=>if y=a then A r else if y=b then B r else C):=by
 rw[Fg,Fg];cases x with
 |nil=>rfl
 |cons y r=>
  by_cases h:y=a
  ·simp[h]
  ·by_cases h2:y=b
   ·subst h2;simp[h]
   ·simp[h,h2]
theorem Acs (V:List Int->JR (JV × List Int)) (n:Nat)(l:List Int):GO V (n+1) l=match V l with
  |.error e=>.error e
  |.ok (_,r)=>match Ap [93] (Bd r) with
   |some r'=>.ok r'
   |none=>match Ap [44] (Bd r) with
    |some r'=>GO V n (Bd r')
    |none=>.error 2:=by
 show (match V l with | .error e=>_ | .ok (_,r)=>_)=_
 cases V l with
 |error e=>rfl
 |ok x=>
  obtain⟨v,r⟩:=x;simp only;rw[Aah 93 44 (by decide) (fun r'=>Except.ok r') (fun r'=>GO V n (Bd r')) (Except.error 2)]
  cases Bd r with
  |nil=>rfl
  |cons y r=>
   by_cases h:y=93
   ·subst h;rfl
   ·by_cases h2:y=44
    ·subst h2;rfl
    ·simp only[Dz h,Dz h2];split
     ·rename_i e;injection e with e1 _;exact absurd e1 h
     ·rename_i e;injection e with e1 _;exact absurd e1 h2
     ·rfl
section
variable {fu d:Nat}
theorem Aa9 {t s0:ByteArray}{p0 D0 D:Int}(ht:t.size<=1000000)(Ev:t.size+1<=fu)(V:List Int->JR (JV × List Int)) (HV:∀r,Cz t r->∃res,Ae C0 prog fu (d+3) 69 [.pbox (Bw t r),.sc (.int .i64 D)]=some res∧PY t r (V r) res):∀(n nn:Nat)(l:List Int),l.length+1<=n->l.length+1<=nn->Cz t l ->
  ∃res,Cx fu (Ae C0 prog fu (d+3)) s0 p0 D0 nn D t (Bp t l:Int)=some res∧Arf t l (GO V n l) res:=by
 intro n
 induction n with
 |zero=>intro nn l h1;omega
 |succ n ih=>
  intro nn l hn Q8 h;obtain⟨k,rfl⟩:∃k,nn=k+1:=⟨nn-1,by omega⟩
  obtain⟨rv,ev,hv⟩:=HV l h;rw[Acs,Hj];cases hV:V l with
  |error e=>
   rw[hV] at hv;obtain⟨he,c1,c2,c3,q,hq,rfl⟩:=hv;have hb:(e != (0:Int))=true:=by simp[he]
   refine⟨⟨[.sc (.int .i64 e)],[Bw t q]⟩,?_,he,q,hq,rfl⟩
   try unfold Ab
   repeat first
    |((with_reducible first|apply A5|apply As|apply A2|apply At|apply A0|apply I5|apply Au|apply A3|apply A1);· first|with_reducible rfl|(simp (disch:=omega) only[gT,ev,hb]<;>first|with_reducible rfl|omega)|omega)
    |(with_reducible apply A4;· first|with_reducible rfl|(simp (disch:=omega) only[gF,ev,hb]<;>omega))
   try simp (disch:=omega) only[ev,hb]
  |ok x=>
   obtain⟨v,q⟩:=x;rw[hV] at hv;obtain⟨hq,rfl⟩:=hv;have hqt:=h.trans hq;have hs:=Nx (fu:=fu) (d:=d) hqt ht Ev;have Ra:Ae C0 prog fu (d+3) 50 [.pbox (Bw t q)]=some ⟨[],[Bw t (Bd q)]⟩:=hs;have hqs:=Bm hqt;have Ast:=Bm hq;have hb:((0:Int) != (0:Int))=false:=rfl;simp only;cases h1:Ap [93] (Bd q) with
   |some r'=>
    have a1:=Co (fu:=fu) (d:=d) 93 93 rfl hqs ht h1;refine⟨⟨[.sc (.int .i64 0)],[Bw t r']⟩,?_,Ao Ast h1,rfl⟩
    try unfold Ab
    repeat first
     |((with_reducible first|apply A5|apply As|apply A2|apply At|apply A0|apply I5|apply Au|apply A3|apply A1);· first|with_reducible rfl|(simp (disch:=omega) only[gT,ev,hb,Ra,a1]<;>first|with_reducible rfl|omega)|omega)
     |(with_reducible apply A4;· first|with_reducible rfl|(simp (disch:=omega) only[gF,ev,hb,Ra,a1]<;>omega))
    try simp (disch:=omega) only[ev,hb,Ra,a1]
   |none=>
    have a1:=Dw (fu:=fu) (d:=d) 93 93 rfl hqs ht h1;cases h2:Ap [44] (Bd q) with
    |none=>
     have a2:=Dw (fu:=fu) (d:=d) 44 44 rfl hqs ht h2;refine⟨⟨[.sc (.int .i64 2)],[Bw t (Bd q)]⟩,?_,by decide,Bd q,hqs,rfl⟩
     try unfold Ab
     repeat first
      |((with_reducible first|apply A5|apply As|apply A2|apply At|apply A0|apply I5|apply Au|apply A3|apply A1);· first|with_reducible rfl|(simp (disch:=omega) only[gT,ev,hb,Ra,a1,a2,D2]<;>first|with_reducible rfl|omega)|omega)
      |(with_reducible apply A4;· first|with_reducible rfl|(simp (disch:=omega) only[gF,ev,hb,Ra,a1,a2,D2]<;>omega))
     try simp (disch:=omega) only[ev,hb,Ra,a1,a2,D2]
    |some r'=>
     have a2:=Co (fu:=fu) (d:=d) 44 44 rfl hqs ht h2;have hr:=Ao hqs h2;have EZ:=Ao Ast h2;have JT:Ae C0 prog fu (d+3) 50 [.pbox (Bw t r')]=some ⟨[],[Bw t (Bd r')]⟩:=Nx (fu:=fu) (d:=d) hr ht Ev
     have hlr:(Bd r').length+1<=l.length:=by
      have e1:=hq.le;have e2:=Pw q;have e3:=Pw r'
      have e4:r'.length+1<=(Bd q).length:=by
       rw[Fg] at h2
       revert h2
       cases Bd q with
       |nil=>intro h2;cases h2
       |cons y s=>
        intro h2;simp only at h2;split at h2
        ·cases h2;simp
        ·cases h2
      omega
     obtain⟨res,e5,h5⟩:=ih k (Bd r') (by omega) (by omega) (Bm hr)
     refine⟨res,?_,?_⟩
     ·skip
      try unfold Ab
      repeat first
       |((with_reducible first|apply A5|apply As|apply A2|apply At|apply A0|apply I5|apply Au|apply A3|apply A1);· first|with_reducible rfl|(simp (disch:=omega) only[gT,ev,hb,Ra,a1,a2,JT,Db]<;>first|with_reducible rfl|omega)|omega)
       |(with_reducible apply A4;· first|with_reducible rfl|(simp (disch:=omega) only[gF,ev,hb,Ra,a1,a2,JT,Db]<;>omega))
      try simp (disch:=omega) only[ev,hb,Ra,a1,a2,JT,Db]
      exact e5
     ·simp only;have hup:Cz (Ac l) (Bd r'):=Bm EZ
      revert h5
      cases GO V n (Bd r') with
      |error e=>exact id
      |ok q2=>exact fun h5=>⟨hup.trans h5.1,h5.2⟩
end
end
section
open Go.Proofs.Tryd (prog)
open Go.IntKind (wrap)
set_option maxRecDepth 100000
theorem KJ {c:Int}{x r:List Int}(h:Ap [c] x=some r):r.length+1<=x.length:=by
 rw[Fg] at h
 revert h
 cases x with
 |nil=>intro h;cases h
 |cons y s=>
  intro h;simp only at h;split at h
  ·cases h;simp
  ·cases h
theorem Ye (V:List Int->JR (JV × List Int)) (kp:Bool)(n:Nat)(ms:List (List Int × JV)) (l:List Int):Qq V kp (n+1) ms l=match Eo l with
  |(none,_)=>.error 2
  |(some nm,r)=>if (kp&&ms.any fun m=>m.1==nm)=true then .error 10 else match Ap [58] (Bd r) with
   |none=>.error 2
   |some r1=>match V (Bd r1) with
    |.error e=>.error e
    |.ok (v,r2)=>match Ap [125] (Bd r2) with
     |some r3=>.ok (ms++[(nm,v)],r3)
     |none=>match Ap [44] (Bd r2) with
      |some r3=>Qq V kp n (ms++[(nm,v)]) (Bd r3)
      |none=>.error 2:=by
 show (match Ajx V (fun nm=>kp&&ms.any fun m=>m.1==nm) l with | .error e=>_ | .ok (m,r)=>_)=_
 unfold Ajx EM;rcases Eo l with⟨o,r⟩;cases o with
 |none=>rfl
 |some nm=>
  simp only;by_cases hd:(kp&&ms.any fun m=>m.1==nm)=true
  rotate_left
  ·simp only[Dz hd];rw[Fg];cases Bd r with
   |nil=>rfl
   |cons y s=>
    by_cases h:y=58
    ·subst h;simp only[if_true];cases V (Bd s) with
     |error e=>rfl
     |ok x=>
      obtain⟨v,r2⟩:=x;simp only;rw[Fg,Fg];cases Bd r2 with
      |nil=>rfl
      |cons y s=>
       by_cases h:y=125
       ·subst h;simp
       ·by_cases h2:y=44
        ·subst h2;simp
        ·simp only[Dz h,Dz h2];split
         ·rename_i e;injection e with e1 _;exact absurd e1 h
         ·rename_i e;injection e with e1 _;exact absurd e1 h2
         ·rfl
    ·simp only[Dz h];split
     ·rename_i e;split at e
      ·rename_i e2;injection e2 with e1 _;exact absurd e1 h
      ·cases e;rfl
     ·rename_i e;split at e
      ·rename_i e2;injection e2 with e1 _;exact absurd e1 h
      ·cases e
  ·simp only[E7 hd]
def Ap7 {α:Type}(t:ByteArray)(l:List Int)(x:JR (α × List Int)) (res:Ay):Prop:=
 match x with
 |.ok (_,q)=>Cz (Ac l) q∧res=⟨[.sc (.int .i64 0)],[Bw t q]⟩
 |.error e=>e≠0∧∃q,Cz t q∧res=⟨[.sc (.int .i64 e)],[Bw t q]⟩
section
variable {fu d:Nat}
theorem Ahh {t:ByteArray}{r:List Int}(h:Cz t r)(ht:t.size<=1000000):Ae C0 prog fu (d+1) 68 [.pbox (Bw t r)]=some ⟨[.sc (.string (Ac ((Eo r).1.getD []))),.sc (.bool (Eo r).1.isSome)],[Bw t (Eo r).2]⟩:=by
 have e0:Ae C0 prog fu (d+1) 68 [.pbox (Bw t r)]=ZV [.pbox (Bw t r)]:=rfl;have hl:=h.len
 have e1:(decide ((0:Int)<=(Bp t r:Int))&&decide ((Bp t r:Int)<=t.size)&&Nat.ble t.size 1000000)=true:=by
  simp only[Bool.and_eq_true,decide_eq_true_eq,Nat.ble_eq];unfold Bp;omega
 have e2:(D1 t).drop (Bp t r:Int).toNat=r:=by rw[Oj];exact h.eq.symm
 have hq:=(Ge h).len;rw[e0];unfold ZV;simp only[e1,cond_true,e2];rcases hx:Eo r with⟨o,q⟩;rw[hx] at hq;have e3:(t.size:Int)-q.length=(Bp t q:Int):=by unfold Bp;simp only at hq;omega
 cases o with
 |none=>simp only[e3];rfl
 |some s=>simp only[e3];rfl
theorem Ao6 {t:ByteArray}{D:Int}(ht:t.size<=1000000)(Ev:t.size+1<=fu)(V:List Int->JR (JV × List Int)) (HV:∀r,Cz t r->∃res,Ae C0 prog fu (d+3) 69 [.pbox (Bw t r),.sc (.int .i64 D)]=some res∧PY t r (V r) res) {l:List Int}(h:Cz t (91::l)):
  ∃res,Ae C0 prog fu (d+4) 91 [.pbox (Bw t (91::l)),.sc (.int .i64 D)]=some res∧Arf t l (XM V l) res:=by
 have a0:=Co (fu:=fu) (d:=d) (q:=l) 91 91 rfl h ht (by rw[Fg];rfl)
 have hs:Ae C0 prog fu (d+3) 50 [.pbox (Bw t l)]=some ⟨[],[Bw t (Bd l)]⟩:=Nx (fu:=fu) (d:=d) h.tail ht Ev;have hS:=Bm h.tail;have Rm:=Bm (Cz.self h.tail.B)
 have eA:XM V l=match Ap [93] (Bd l) with|some r=>.ok r|none=>GO V ((Bd l).length+1) (Bd l):=by
  unfold XM;rw[Fg];cases Bd l with
  |nil=>rfl
  |cons y s=>
   by_cases hy:y=93
   ·subst hy;rfl
   ·simp only[Dz hy];split
    ·rename_i e;injection e with e1 _;exact absurd e1 hy
    ·rfl
 have er:=Iv (p:=none) fu (d+3) t (Bp t (91::l):Int) D;rw[eA];cases h1:Ap [93] (Bd l) with
 |some r=>
  have a1:=Co (fu:=fu) (d:=d) 93 93 rfl hS ht h1;refine⟨⟨[.sc (.int .i64 0)],[Bw t r]⟩,er.trans ?_,Ao Rm h1,rfl⟩
  try unfold Ab
  repeat first
   |((with_reducible first|apply A5|apply As|apply A2|apply At|apply A0|apply Au|apply A3|apply A1);· first|with_reducible rfl|(simp (disch:=omega) only[gT,a0,hs,a1,Db]<;>first|with_reducible rfl|omega)|omega)
   |(with_reducible apply A4;· first|with_reducible rfl|(simp (disch:=omega) only[gF,a0,hs,a1,Db]<;>omega))
  try simp (disch:=omega) only[a0,hs,a1,Db]
 |none=>
  have a1:=Dw (fu:=fu) (d:=d) 93 93 rfl hS ht h1;obtain⟨res,e5,h5⟩:=Aa9 (fu:=fu) (d:=d) (s0:=t) (p0:=(Bp t (91::l):Int)) (D0:=D) ht Ev V HV ((Bd l).length+1) fu (Bd l) (Nat.le_refl _) (by have:=hS.len;omega) hS
  refine⟨res,er.trans ?_,?_⟩
  ·skip
   try unfold Ab
   repeat first
    |((with_reducible first|apply A5|apply As|apply A2|apply At|apply A0|apply Au|apply A3|apply A1);· first|with_reducible rfl|(simp (disch:=omega) only[gT,a0,hs,a1,Db]<;>first|with_reducible rfl|omega)|omega)
    |(with_reducible apply A4;· first|with_reducible rfl|(simp (disch:=omega) only[gF,a0,hs,a1,Db]<;>omega))
   try simp (disch:=omega) only[a0,hs,a1,Db]
   exact e5
  ·simp only
   revert h5
   cases GO V ((Bd l).length+1) (Bd l) with
   |error e=>exact id
   |ok q2=>exact fun h5=>⟨Rm.trans h5.1,h5.2⟩
end
end
section
open Go.Proofs.Tryd (prog)
open Go.IntKind (wrap)
set_option maxRecDepth 100000
section
variable {fu d:Nat}
theorem Ab6 {t s0:ByteArray}{p0 D0 D:Int}(ht:t.size<=1000000)(Ev:t.size+1<=fu)(V:List Int->JR (JV × List Int)) (HV:∀r,Cz t r->∃res,Ae C0 prog fu (d+3) 69 [.pbox (Bw t r),.sc (.int .i64 D)]=some res∧PY t r (V r) res):∀(n nn:Nat)(ms:List (List Int × JV)) (l:List Int),l.length+1<=n->l.length+1<=nn->Cz t l ->
  ∃res,Cp fu (Ae C0 prog fu (d+3)) s0 p0 D0 nn D t (Bp t l:Int)=some res∧Ap7 t l (Qq V false n ms l) res:=by
 intro n
 induction n with
 |zero=>intro nn ms l h1;omega
 |succ n ih=>
  intro nn ms l hn Q8 h;obtain⟨k,rfl⟩:∃k,nn=k+1:=⟨nn-1,by omega⟩
  have er:Ae C0 prog fu (d+3) 68 [.pbox (Bw t l)]=_:=Ahh (d:=d+2) h ht;have JN:=Ge h;have HO:=Ge (Cz.self h.B);rw[Ye,Hb];rcases hx:Eo l with⟨o,q⟩;rw[hx] at er JN HO;cases o with
  |none=>
   have er2:Ae C0 prog fu (d+3) 68 [.pbox (Bw t l)]=some ⟨[.sc (.string (Ac [])),.sc (.bool false)],[Bw t q]⟩:=er;refine⟨⟨[.sc (.int .i64 2)],[Bw t q]⟩,?_,by decide,q,JN,rfl⟩
   try unfold Ab
   repeat first
    |((with_reducible first|apply A5|apply As|apply A2|apply At|apply A0|apply I5|apply Au|apply A3|apply A1);· first|with_reducible rfl|(simp (disch:=omega) only[gT,er2,D2]<;>first|with_reducible rfl|omega)|omega)
    |(with_reducible apply A4;· first|with_reducible rfl|(simp (disch:=omega) only[gF,er2,D2]<;>omega))
   try simp (disch:=omega) only[er2,D2]
  |some nm=>
   have er2:Ae C0 prog fu (d+3) 68 [.pbox (Bw t l)]=some ⟨[.sc (.string (Ac nm)),.sc (.bool true)],[Bw t q]⟩:=er;simp only at JN HO;have Ra:Ae C0 prog fu (d+3) 50 [.pbox (Bw t q)]=some ⟨[],[Bw t (Bd q)]⟩:=Nx (fu:=fu) (d:=d) JN ht Ev;have Q0:=Bm JN;have J5:=Bm HO;simp only[Zzs,Bool.false_eq_true,if_false];cases h1:Ap [58] (Bd q) with
   |none=>
    have a1:=Dw (fu:=fu) (d:=d) 58 58 rfl Q0 ht h1;refine⟨⟨[.sc (.int .i64 2)],[Bw t (Bd q)]⟩,?_,by decide,Bd q,Q0,rfl⟩
    try unfold Ab
    repeat first
     |((with_reducible first|apply A5|apply As|apply A2|apply At|apply A0|apply I5|apply Au|apply A3|apply A1);· first|with_reducible rfl|(simp (disch:=omega) only[gT,er2,Ra,a1,Db,D2]<;>first|with_reducible rfl|omega)|omega)
     |(with_reducible apply A4;· first|with_reducible rfl|(simp (disch:=omega) only[gF,er2,Ra,a1,Db,D2]<;>omega))
    try simp (disch:=omega) only[er2,Ra,a1,Db,D2]
   |some r1=>
    have a1:=Co (fu:=fu) (d:=d) 58 58 rfl Q0 ht h1;have BB:=Ao Q0 h1;have EZ:=Ao J5 h1;have JT:Ae C0 prog fu (d+3) 50 [.pbox (Bw t r1)]=some ⟨[],[Bw t (Bd r1)]⟩:=Nx (fu:=fu) (d:=d) BB ht Ev;have hv1:=Bm BB;have hv2:=Bm EZ;obtain⟨rv,ev,hv⟩:=HV (Bd r1) hv1;simp only;cases hV:V (Bd r1) with
    |error e=>
     rw[hV] at hv;obtain⟨he,c1,c2,c3,q3,hq3,rfl⟩:=hv;have hb:(e != (0:Int))=true:=by simp[he]
     refine⟨⟨[.sc (.int .i64 e)],[Bw t q3]⟩,?_,he,q3,hq3,rfl⟩
     try unfold Ab
     repeat first
      |((with_reducible first|apply A5|apply As|apply A2|apply At|apply A0|apply I5|apply Au|apply A3|apply A1);· first|with_reducible rfl|(simp (disch:=omega) only[gT,er2,Ra,a1,JT,ev,hb,Db]<;>first|with_reducible rfl|omega)|omega)
      |(with_reducible apply A4;· first|with_reducible rfl|(simp (disch:=omega) only[gF,er2,Ra,a1,JT,ev,hb,Db]<;>omega))
     try simp (disch:=omega) only[er2,Ra,a1,JT,ev,hb,Db]
    |ok x=>
     obtain⟨v,r2⟩:=x;rw[hV] at hv;obtain⟨hq3,rfl⟩:=hv;have hb:((0:Int) != (0:Int))=false:=rfl;have hw1:=hv1.trans hq3;have hw2:=hv2.trans hq3;have IV:Ae C0 prog fu (d+3) 50 [.pbox (Bw t r2)]=some ⟨[],[Bw t (Bd r2)]⟩:=Nx (fu:=fu) (d:=d) hw1 ht Ev;have OG:=Bm hw1;have Lo:=Bm hw2;simp only;cases h2:Ap [125] (Bd r2) with
     |some r3=>
      have a2:=Co (fu:=fu) (d:=d) 125 125 rfl OG ht h2;refine⟨⟨[.sc (.int .i64 0)],[Bw t r3]⟩,?_,Ao Lo h2,rfl⟩
      try unfold Ab
      repeat first
       |((with_reducible first|apply A5|apply As|apply A2|apply At|apply A0|apply I5|apply Au|apply A3|apply A1);· first|with_reducible rfl|(simp (disch:=omega) only[gT,er2,Ra,a1,JT,ev,hb,IV,a2,Db]<;>first|with_reducible rfl|omega)|omega)
       |(with_reducible apply A4;· first|with_reducible rfl|(simp (disch:=omega) only[gF,er2,Ra,a1,JT,ev,hb,IV,a2,Db]<;>omega))
      try simp (disch:=omega) only[er2,Ra,a1,JT,ev,hb,IV,a2,Db]
     |none=>
      have a2:=Dw (fu:=fu) (d:=d) 125 125 rfl OG ht h2;cases h3:Ap [44] (Bd r2) with
      |none=>
       have a3:=Dw (fu:=fu) (d:=d) 44 44 rfl OG ht h3;refine⟨⟨[.sc (.int .i64 2)],[Bw t (Bd r2)]⟩,?_,by decide,Bd r2,OG,rfl⟩
       try unfold Ab
       repeat first
        |((with_reducible first|apply A5|apply As|apply A2|apply At|apply A0|apply I5|apply Au|apply A3|apply A1);· first|with_reducible rfl|(simp (disch:=omega) only[gT,er2,Ra,a1,JT,ev,hb,IV,a2,a3,Db,D2]<;>first|with_reducible rfl|omega)|omega)
        |(with_reducible apply A4;· first|with_reducible rfl|(simp (disch:=omega) only[gF,er2,Ra,a1,JT,ev,hb,IV,a2,a3,Db,D2]<;>omega))
       try simp (disch:=omega) only[er2,Ra,a1,JT,ev,hb,IV,a2,a3,Db,D2]
      |some r3=>
       have a3:=Co (fu:=fu) (d:=d) 44 44 rfl OG ht h3;have hy1:=Ao OG h3;have YA:=Ao Lo h3;have hs5:Ae C0 prog fu (d+3) 50 [.pbox (Bw t r3)]=some ⟨[],[Bw t (Bd r3)]⟩:=Nx (fu:=fu) (d:=d) hy1 ht Ev
       have hlr:(Bd r3).length+1<=l.length:=by
        have e1:=Lo.le;have e2:=Pw r3;have e3:=KJ h3;omega
       obtain⟨res,e5,h5⟩:=ih k (ms++[(nm,v)]) (Bd r3) (by omega) (by omega) (Bm hy1)
       refine⟨res,?_,?_⟩
       ·skip
        try unfold Ab
        repeat first
         |((with_reducible first|apply A5|apply As|apply A2|apply At|apply A0|apply I5|apply Au|apply A3|apply A1);· first|with_reducible rfl|(simp (disch:=omega) only[gT,er2,Ra,a1,JT,ev,hb,IV,a2,a3,hs5,Db]<;>first|with_reducible rfl|omega)|omega)
         |(with_reducible apply A4;· first|with_reducible rfl|(simp (disch:=omega) only[gF,er2,Ra,a1,JT,ev,hb,IV,a2,a3,hs5,Db]<;>omega))
        try simp (disch:=omega) only[er2,Ra,a1,JT,ev,hb,IV,a2,a3,hs5,Db]
        exact e5
       ·simp only;have hup:Cz (Ac l) (Bd r3):=Bm YA
        revert h5
        cases Qq V false n (ms++[(nm,v)]) (Bd r3) with
        |error e=>exact id
        |ok q2=>exact fun h5=>⟨hup.trans h5.1,h5.2⟩
theorem Ary {t:ByteArray}{D:Int}(ht:t.size<=1000000)(Ev:t.size+1<=fu)(V:List Int->JR (JV × List Int)) (HV:∀r,Cz t r->∃res,Ae C0 prog fu (d+3) 69 [.pbox (Bw t r),.sc (.int .i64 D)]=some res∧PY t r (V r) res) {l:List Int}(h:Cz t (123::l)):
  ∃res,Ae C0 prog fu (d+4) 51 [.pbox (Bw t (123::l)),.sc (.int .i64 D),.sc (.map none)]=some res∧Ap7 t l (S7 V false l) res:=by
 have a0:=Co (fu:=fu) (d:=d) (q:=l) 123 123 rfl h ht (by rw[Fg];rfl)
 have hs:Ae C0 prog fu (d+3) 50 [.pbox (Bw t l)]=some ⟨[],[Bw t (Bd l)]⟩:=Nx (fu:=fu) (d:=d) h.tail ht Ev;have hS:=Bm h.tail;have Rm:=Bm (Cz.self h.tail.B)
 have eA:S7 V false l=match Ap [125] (Bd l) with|some r=>.ok ([],r)|none=>Qq V false ((Bd l).length+1) [] (Bd l):=by
  unfold S7;rw[Fg];cases Bd l with
  |nil=>rfl
  |cons y s=>
   by_cases hy:y=125
   ·subst hy;rfl
   ·simp only[Dz hy];split
    ·rename_i e;injection e with e1 _;exact absurd e1 hy
    ·rfl
 have er:=Hx (p:=none) fu (d+3) t (Bp t (123::l):Int) D;rw[eA];cases h1:Ap [125] (Bd l) with
 |some r=>
  have a1:=Co (fu:=fu) (d:=d) 125 125 rfl hS ht h1;refine⟨⟨[.sc (.int .i64 0)],[Bw t r]⟩,er.trans ?_,Ao Rm h1,rfl⟩
  try unfold Ab
  repeat first
   |((with_reducible first|apply A5|apply As|apply A2|apply At|apply A0|apply I5|apply Au|apply A3|apply A1);· first|with_reducible rfl|(simp (disch:=omega) only[gT,a0,hs,a1,Db]<;>first|with_reducible rfl|omega)|omega)
   |(with_reducible apply A4;· first|with_reducible rfl|(simp (disch:=omega) only[gF,a0,hs,a1,Db]<;>omega))
  try simp (disch:=omega) only[a0,hs,a1,Db]
 |none=>
  have a1:=Dw (fu:=fu) (d:=d) 125 125 rfl hS ht h1;obtain⟨res,e5,h5⟩:=Ab6 (fu:=fu) (d:=d) (s0:=t) (p0:=(Bp t (123::l):Int)) (D0:=D) ht Ev V HV ((Bd l).length+1) fu [] (Bd l) (Nat.le_refl _) (by have:=hS.len;omega) hS
  refine⟨res,er.trans ?_,?_⟩
  ·skip
   try unfold Ab
   repeat first
    |((with_reducible first|apply A5|apply As|apply A2|apply At|apply A0|apply I5|apply Au|apply A3|apply A1);· first|with_reducible rfl|(simp (disch:=omega) only[gT,a0,hs,a1,Db]<;>first|with_reducible rfl|omega)|omega)
    |(with_reducible apply A4;· first|with_reducible rfl|(simp (disch:=omega) only[gF,a0,hs,a1,Db]<;>omega))
   try simp (disch:=omega) only[a0,hs,a1,Db]
   exact e5
  ·simp only
   revert h5
   cases Qq V false ((Bd l).length+1) [] (Bd l) with
   |error e=>exact id
   |ok q2=>exact fun h5=>⟨Rm.trans h5.1,h5.2⟩
end
end
section
open Go.Proofs.Tryd (prog)
open Go.IntKind (wrap)
set_option maxRecDepth 100000
def Akg (l:List Int):JR (JV × List Int):=
 match Ap [116,114,117,101] l with
 |some r=>.ok ((2,[],true),r)
 |none=>match Ap [102,97,108,115,101] l with
  |some r=>.ok ((2,[],false),r)
  |none=>match Ap [110,117,108,108] l with
   |some r=>.ok ((1,[],false),r)
   |none=>match E9 l with
    |some r=>.ok ((3,[],false),r)
    |none=>.error 2
theorem EH (k:Nat){l:List Int}(h1:JO l≠123)(h2:JO l≠91)(h3:JO l≠34):Fh k l=Akg l:=by
 unfold Fh;split
 ·exact absurd rfl h1
 ·exact absurd rfl h2
 ·exact absurd rfl h3
 ·rfl
theorem YJ {l r:List Int}(h:Dq l)(e:E9 l=some r):Cz (Ac l) r:=by
 have h0:=Cz.self h;have e0:E9 l=(Agb (Abz 45 l)).bind Yu:=rfl;rw[e0,Ur,DJ] at e;have h1:Cz (Ac l) ((Ap [45] l).getD l):=Ce h0 fun q e=>Ao h0 e
 have hE:∀x q,Cz (Ac l) x->Rx x=some q->Cz (Ac l) q:=by
  have hT:∀x q,Cz (Ac l) x->Ke x=some q->Cz (Ac l) q:=by
   intro x q hx e;unfold Ke at e;split at e
   ·rename_i hw;exact Cr (Ao hx hw) e
   ·exact Cr (Ce hx fun q e=>Ao hx e) e
  intro x q hx e;rw[Mr] at e;split at e
  ·rename_i hw;exact hT _ _ (Ao hx hw) e
  ·split at e
   ·rename_i hw;exact hT _ _ (Ao hx hw) e
   ·cases e;exact hx
 have hF:∀x q,Cz (Ac l) x->Yu x=some q->Cz (Ac l) q:=by
  intro x q hx e;rw[R9] at e;split at e
  ·rename_i hw;obtain⟨y,hy,e⟩:=Option.bind_eq_some_iff.1 e;exact hE _ _ (Cr (Ao hx hw) hy) e
  ·exact hE _ _ hx e
 obtain⟨y,hy,e⟩:=Option.bind_eq_some_iff.1 e;split at hy
 ·rename_i hw;cases hy;exact hF _ _ (Ao h1 hw) e
 ·exact hF _ _ (Cr h1 hy) e
section
variable {fu d:Nat}
theorem Amp {t:ByteArray}{r:List Int}(w:List Int)(lit:ByteArray)(hw:Ac w=lit)(hB:Dq w)(hl:w.length<=100)(h:Cz t r)(ht:t.size<=1000000):Ae C0 prog fu (d+3) 67 [.pbox (Bw t r),.sc (.string lit)]=some ⟨[.sc (.bool (Ap w r).isSome)],[Bw t ((Ap w r).getD r)]⟩:=by
 subst hw;have e:=Pb (fu:=fu) (d:=d) (xs:=xs0) h ht (w:=w) hB hl;refine e.trans ?_;cases Ap w r<;>rfl
theorem Acd {t:ByteArray}(ht:t.size<=1000000)(Ev:t.size+1<=fu){D:Int}{l:List Int}(h:Cz t l)(h1:JO l≠123)(h2:JO l≠91)(h3:JO l≠34):∃res,Ae C0 prog fu (d+5) 69 [.pbox (Bw t l),.sc (.int .i64 D)]=some res∧PY t l (Akg l) res:=by
 have er:=Bz (p:=none) fu (d+4) t (Bp t l:Int) D;have pk:Ae C0 prog fu (d+4) 90 [.pbox (Bw t l)]=some ⟨[.sc (.int .u8 (JO l))],[Bw t l]⟩:=Km (xs:=xs0) (d:=d+3) h;have b1:(JO l==(123:Int))=false:=by simp[h1]
 have b2:(JO l==(91:Int))=false:=by simp[h2]
 have b3:(JO l==(34:Int))=false:=by simp[h3]
 have Aak:=Cz.self h.B;have a1:=Amp (fu:=fu) (d:=d+1) [116,114,117,101] (ByteArray.mk #[(116:UInt8),(114:UInt8),(117:UInt8),(101:UInt8)]) rfl (fun x hx=>by simp at hx;omega) (by decide) h ht
 have a2:=Amp (fu:=fu) (d:=d+1) [102,97,108,115,101] (ByteArray.mk #[(102:UInt8),(97:UInt8),(108:UInt8),(115:UInt8),(101:UInt8)]) rfl (fun x hx=>by simp at hx;omega) (by decide) h ht
 have a3:=Amp (fu:=fu) (d:=d+1) [110,117,108,108] (ByteArray.mk #[(110:UInt8),(117:UInt8),(108:UInt8),(108:UInt8)]) rfl (fun x hx=>by simp at hx;omega) (by decide) h ht
 obtain⟨rn,hrn,en,hn⟩:=ZJ (fu:=fu) (d:=d) h ht Ev;have en2:Ae C0 prog fu (d+4) 92 [.pbox (Bw t l)]=some ⟨[.sc (.bool (E9 l).isSome)],[Bw t rn]⟩:=en;unfold Akg;cases q1:Ap [116,114,117,101] l with
 |some r=>
  rw[q1] at a1;have a1':Ae C0 prog fu (d+4) 67 [.pbox (Bw t l),.sc (.string (ByteArray.mk #[(116:UInt8),(114:UInt8),(117:UInt8),(101:UInt8)]))]=some ⟨[.sc (.bool true)],[Bw t r]⟩:=a1;refine⟨_,er.trans ?_,Ao Aak q1,rfl⟩
  try unfold Ab
  repeat first
   |((with_reducible first|apply A5|apply As|apply A2|apply At|apply A0|apply Au|apply A3|apply A1);· first|with_reducible rfl|(simp (disch:=omega) only[gT,pk,b1,b2,b3,a1']<;>first|with_reducible rfl|omega)|omega)
   |(with_reducible apply A4;· first|with_reducible rfl|(simp (disch:=omega) only[gF,pk,b1,b2,b3,a1']<;>omega))
  try simp (disch:=omega) only[pk,b1,b2,b3,a1']
  rfl
 |none=>
  rw[q1] at a1;have a1':Ae C0 prog fu (d+4) 67 [.pbox (Bw t l),.sc (.string (ByteArray.mk #[(116:UInt8),(114:UInt8),(117:UInt8),(101:UInt8)]))]=some ⟨[.sc (.bool false)],[Bw t l]⟩:=a1;cases q2:Ap [102,97,108,115,101] l with
  |some r=>
   rw[q2] at a2;have a2':Ae C0 prog fu (d+4) 67 [.pbox (Bw t l),.sc (.string (ByteArray.mk #[(102:UInt8),(97:UInt8),(108:UInt8),(115:UInt8),(101:UInt8)]))]=some ⟨[.sc (.bool true)],[Bw t r]⟩:=a2;refine⟨_,er.trans ?_,Ao Aak q2,rfl⟩
   try unfold Ab
   repeat first
    |((with_reducible first|apply A5|apply As|apply A2|apply At|apply A0|apply Au|apply A3|apply A1);· first|with_reducible rfl|(simp (disch:=omega) only[gT,pk,b1,b2,b3,a1',a2']<;>first|with_reducible rfl|omega)|omega)
    |(with_reducible apply A4;· first|with_reducible rfl|(simp (disch:=omega) only[gF,pk,b1,b2,b3,a1',a2']<;>omega))
   try simp (disch:=omega) only[pk,b1,b2,b3,a1',a2']
   rfl
  |none=>
   rw[q2] at a2;have a2':Ae C0 prog fu (d+4) 67 [.pbox (Bw t l),.sc (.string (ByteArray.mk #[(102:UInt8),(97:UInt8),(108:UInt8),(115:UInt8),(101:UInt8)]))]=some ⟨[.sc (.bool false)],[Bw t l]⟩:=a2;cases q3:Ap [110,117,108,108] l with
   |some r=>
    rw[q3] at a3;have a3':Ae C0 prog fu (d+4) 67 [.pbox (Bw t l),.sc (.string (ByteArray.mk #[(110:UInt8),(117:UInt8),(108:UInt8),(108:UInt8)]))]=some ⟨[.sc (.bool true)],[Bw t r]⟩:=a3;refine⟨_,er.trans ?_,Ao Aak q3,rfl⟩
    try unfold Ab
    repeat first
     |((with_reducible first|apply A5|apply As|apply A2|apply At|apply A0|apply Au|apply A3|apply A1);· first|with_reducible rfl|(simp (disch:=omega) only[gT,pk,b1,b2,b3,a1',a2',a3']<;>first|with_reducible rfl|omega)|omega)
     |(with_reducible apply A4;· first|with_reducible rfl|(simp (disch:=omega) only[gF,pk,b1,b2,b3,a1',a2',a3']<;>omega))
    try simp (disch:=omega) only[pk,b1,b2,b3,a1',a2',a3']
    rfl
   |none=>
    rw[q3] at a3;have a3':Ae C0 prog fu (d+4) 67 [.pbox (Bw t l),.sc (.string (ByteArray.mk #[(110:UInt8),(117:UInt8),(108:UInt8),(108:UInt8)]))]=some ⟨[.sc (.bool false)],[Bw t l]⟩:=a3;cases q4:E9 l with
    |some r=>
     rw[q4] at en2;have:=hn r q4;subst this;have en3:Ae C0 prog fu (d+4) 92 [.pbox (Bw t l)]=some ⟨[.sc (.bool true)],[Bw t rn]⟩:=en2;refine⟨_,er.trans ?_,YJ h.B q4,rfl⟩
     try unfold Ab
     repeat first
      |((with_reducible first|apply A5|apply As|apply A2|apply At|apply A0|apply Au|apply A3|apply A1);· first|with_reducible rfl|(simp (disch:=omega) only[gT,pk,b1,b2,b3,a1',a2',a3',en3]<;>first|with_reducible rfl|omega)|omega)
      |(with_reducible apply A4;· first|with_reducible rfl|(simp (disch:=omega) only[gF,pk,b1,b2,b3,a1',a2',a3',en3]<;>omega))
     try simp (disch:=omega) only[pk,b1,b2,b3,a1',a2',a3',en3]
     rfl
    |none=>
     rw[q4] at en2;have en3:Ae C0 prog fu (d+4) 92 [.pbox (Bw t l)]=some ⟨[.sc (.bool false)],[Bw t rn]⟩:=en2;refine⟨_,er.trans ?_,by decide,0,⟨#[]⟩,false,rn,hrn,rfl⟩
     try unfold Ab
     repeat first
      |((with_reducible first|apply A5|apply As|apply A2|apply At|apply A0|apply Au|apply A3|apply A1);· first|with_reducible rfl|(simp (disch:=omega) only[gT,pk,b1,b2,b3,a1',a2',a3',en3]<;>first|with_reducible rfl|omega)|omega)
      |(with_reducible apply A4;· first|with_reducible rfl|(simp (disch:=omega) only[gF,pk,b1,b2,b3,a1',a2',a3',en3]<;>omega))
     try simp (disch:=omega) only[pk,b1,b2,b3,a1',a2',a3',en3]
theorem Adc (k:Nat)(r:List Int):Fh k (34::r)=match Eo (34::r) with|(some s,q)=>.ok ((4,s,false),q)|(none,_)=>.error 2:=by
 have e:Fh k (34::r)=match EM (34::r) with|none=>.error 2|some (s,r')=>.ok ((4,s,false),r'):=by
  cases k<;>rfl
 rw[e];unfold EM;rcases Eo (34::r) with⟨o,q⟩;cases o<;>rfl
theorem KB {t:ByteArray}(ht:t.size<=1000000)(k:Nat){D:Int}{l:List Int}(h:Cz t (34::l)):∃res,Ae C0 prog fu (d+5) 69 [.pbox (Bw t (34::l)),.sc (.int .i64 D)]=some res∧PY t (34::l) (Fh k (34::l)) res:=by
 have er:=Bz (p:=none) fu (d+4) t (Bp t (34::l):Int) D;have pk:Ae C0 prog fu (d+4) 90 [.pbox (Bw t (34::l))]=some ⟨[.sc (.int .u8 34)],[Bw t (34::l)]⟩:=Km (xs:=xs0) (d:=d+3) h;have E8:Ae C0 prog fu (d+4) 68 [.pbox (Bw t (34::l))]=_:=Ahh (d:=d+3) h ht;have JN:=Ge h;have HO:=Ge (Cz.self h.B);have b1:((34:Int)==(123:Int))=false:=rfl;have b2:((34:Int)==(91:Int))=false:=rfl;have b3:((34:Int)==(34:Int))=true:=rfl;rw[Adc];rcases hx:Eo (34::l) with⟨o,q⟩;rw[hx] at E8 JN HO;cases o with
 |none=>
  have QH:Ae C0 prog fu (d+4) 68 [.pbox (Bw t (34::l))]=some ⟨[.sc (.string (Ac [])),.sc (.bool false)],[Bw t q]⟩:=E8;refine⟨_,er.trans ?_,by decide,0,⟨#[]⟩,false,q,JN,rfl⟩
  try unfold Ab
  repeat first
   |((with_reducible first|apply A5|apply As|apply A2|apply At|apply A0|apply Au|apply A3|apply A1);· first|with_reducible rfl|(simp (disch:=omega) only[gT,pk,b1,b2,b3,QH]<;>first|with_reducible rfl|omega)|omega)
   |(with_reducible apply A4;· first|with_reducible rfl|(simp (disch:=omega) only[gF,pk,b1,b2,b3,QH]<;>omega))
  try simp (disch:=omega) only[pk,b1,b2,b3,QH]
 |some s=>
  have QH:Ae C0 prog fu (d+4) 68 [.pbox (Bw t (34::l))]=some ⟨[.sc (.string (Ac s)),.sc (.bool true)],[Bw t q]⟩:=E8;refine⟨_,er.trans ?_,HO,rfl⟩
  try unfold Ab
  repeat first
   |((with_reducible first|apply A5|apply As|apply A2|apply At|apply A0|apply Au|apply A3|apply A1);· first|with_reducible rfl|(simp (disch:=omega) only[gT,pk,b1,b2,b3,QH]<;>first|with_reducible rfl|omega)|omega)
   |(with_reducible apply A4;· first|with_reducible rfl|(simp (disch:=omega) only[gF,pk,b1,b2,b3,QH]<;>omega))
  try simp (disch:=omega) only[pk,b1,b2,b3,QH]
theorem Ah2 {t:ByteArray}(ht:t.size<=1000000)(Ev:t.size+1<=fu):∀(k:Nat)(D:Int),D+k=9->1<=D->∀l,Cz t l->∃res,Ae C0 prog fu (d+2*k+5) 69 [.pbox (Bw t l),.sc (.int .i64 D)]=some res∧PY t l (Fh k l) res:=by
 intro k
 induction k with
 |zero=>
  intro D hD h1 l h;by_cases g1:JO l=123
  ·cases l with
   |nil=>cases g1
   |cons c l=>
    have g2:c=123:=g1;subst g2;have er:=Bz (p:=none) fu (d+4) t (Bp t (123::l):Int) D;have pk:Ae C0 prog fu (d+4) 90 [.pbox (Bw t (123::l))]=some ⟨[.sc (.int .u8 123)],[Bw t (123::l)]⟩:=Km (xs:=xs0) (d:=d+3) h;have b1:((123:Int)==(123:Int))=true:=rfl;have b2:decide (D>8)=true:=by simp;omega
    refine⟨_,er.trans ?_,(by decide:(5:Int)≠0),0,⟨#[]⟩,false,123::l,h,rfl⟩
    try unfold Ab
    repeat first
     |((with_reducible first|apply A5|apply As|apply A2|apply At|apply A0|apply Au|apply A3|apply A1);· first|with_reducible rfl|(simp (disch:=omega) only[gT,pk,b1,b2]<;>first|with_reducible rfl|omega)|omega)
     |(with_reducible apply A4;· first|with_reducible rfl|(simp (disch:=omega) only[gF,pk,b1,b2]<;>omega))
    try simp (disch:=omega) only[pk,b1,b2]
  ·by_cases g2:JO l=91
   ·cases l with
    |nil=>cases g2
    |cons c l=>
     have g3:c=91:=g2;subst g3;have er:=Bz (p:=none) fu (d+4) t (Bp t (91::l):Int) D;have pk:Ae C0 prog fu (d+4) 90 [.pbox (Bw t (91::l))]=some ⟨[.sc (.int .u8 91)],[Bw t (91::l)]⟩:=Km (xs:=xs0) (d:=d+3) h;have b0:((91:Int)==(123:Int))=false:=rfl;have b1:((91:Int)==(91:Int))=true:=rfl;have b2:decide (D>8)=true:=by simp;omega
     refine⟨_,er.trans ?_,(by decide:(5:Int)≠0),0,⟨#[]⟩,false,91::l,h,rfl⟩
     try unfold Ab
     repeat first
      |((with_reducible first|apply A5|apply As|apply A2|apply At|apply A0|apply Au|apply A3|apply A1);· first|with_reducible rfl|(simp (disch:=omega) only[gT,pk,b0,b1,b2]<;>first|with_reducible rfl|omega)|omega)
      |(with_reducible apply A4;· first|with_reducible rfl|(simp (disch:=omega) only[gF,pk,b0,b1,b2]<;>omega))
     try simp (disch:=omega) only[pk,b0,b1,b2]
   ·by_cases g3:JO l=34
    ·cases l with
     |nil=>cases g3
     |cons c l=>
      have g4:c=34:=g3;subst g4;exact KB ht 0 h
    ·rw[EH 0 g1 g2 g3];exact Acd ht Ev h g1 g2 g3
 |succ k ih=>
  intro D hD h1 l h;have HV:=ih (D+1) (by omega) (by omega)
  by_cases g1:JO l=123
  ·cases l with
   |nil=>cases g1
   |cons c l=>
    have g2:c=123:=g1;subst g2;have er:=Bz (p:=none) fu (d+2*(k+1)+4) t (Bp t (123::l):Int) D;have pk:Ae C0 prog fu (d+2*(k+1)+4) 90 [.pbox (Bw t (123::l))]=some ⟨[.sc (.int .u8 123)],[Bw t (123::l)]⟩:=Km (xs:=xs0) (d:=d+2*(k+1)+3) h;have b1:((123:Int)==(123:Int))=true:=rfl;have b2:decide (D>8)=false:=by simp;omega
    have w1:wrap .i64 (D+1)=D+1:=Bc (by omega) (by omega)
    obtain⟨res,e5,h5⟩:=Ary (fu:=fu) (d:=d+2*k+2) (D:=D+1) ht Ev (Fh k) HV h;have e6:Ae C0 prog fu (d+2*(k+1)+4) 51 [.pbox (Bw t (123::l)),.sc (.int .i64 (D+1)),.sc (.map none)]=some res:=e5;have ev:Fh (k+1) (123::l)=match S7 (Fh k) false l with | .error e=>.error e | .ok (_,r')=>.ok ((6,[],false),r'):=rfl
    rw[ev];cases ho:S7 (Fh k) false l with
    |error e=>
     rw[ho] at h5;obtain⟨he,q,hq,rfl⟩:=h5;refine⟨_,er.trans ?_,he,6,⟨#[]⟩,false,q,hq,rfl⟩
     try unfold Ab
     repeat first
      |((with_reducible first|apply A5|apply As|apply A2|apply At|apply A0|apply Au|apply A3|apply A1);· first|with_reducible rfl|(simp (disch:=omega) only[gT,pk,b1,b2,w1,e6]<;>first|with_reducible rfl|omega)|omega)
      |(with_reducible apply A4;· first|with_reducible rfl|(simp (disch:=omega) only[gF,pk,b1,b2,w1,e6]<;>omega))
     try simp (disch:=omega) only[pk,b1,b2,w1,e6]
    |ok x=>
     obtain⟨ms,q⟩:=x;rw[ho] at h5;obtain⟨hq,rfl⟩:=h5;refine⟨_,er.trans ?_,(Cz.self h.B).tail.trans hq,rfl⟩
     try unfold Ab
     repeat first
      |((with_reducible first|apply A5|apply As|apply A2|apply At|apply A0|apply Au|apply A3|apply A1);· first|with_reducible rfl|(simp (disch:=omega) only[gT,pk,b1,b2,w1,e6]<;>first|with_reducible rfl|omega)|omega)
      |(with_reducible apply A4;· first|with_reducible rfl|(simp (disch:=omega) only[gF,pk,b1,b2,w1,e6]<;>omega))
     try simp (disch:=omega) only[pk,b1,b2,w1,e6]
     rfl
  ·by_cases g2:JO l=91
   ·cases l with
    |nil=>cases g2
    |cons c l=>
     have g3:c=91:=g2;subst g3;have er:=Bz (p:=none) fu (d+2*(k+1)+4) t (Bp t (91::l):Int) D;have pk:Ae C0 prog fu (d+2*(k+1)+4) 90 [.pbox (Bw t (91::l))]=some ⟨[.sc (.int .u8 91)],[Bw t (91::l)]⟩:=Km (xs:=xs0) (d:=d+2*(k+1)+3) h;have b0:((91:Int)==(123:Int))=false:=rfl;have b1:((91:Int)==(91:Int))=true:=rfl;have b2:decide (D>8)=false:=by simp;omega
     have w1:wrap .i64 (D+1)=D+1:=Bc (by omega) (by omega)
     obtain⟨res,e5,h5⟩:=Ao6 (fu:=fu) (d:=d+2*k+2) (D:=D+1) ht Ev (Fh k) HV h;have e6:Ae C0 prog fu (d+2*(k+1)+4) 91 [.pbox (Bw t (91::l)),.sc (.int .i64 (D+1))]=some res:=e5;have ev:Fh (k+1) (91::l)=match XM (Fh k) l with | .error e=>.error e | .ok r'=>.ok ((5,[],false),r'):=rfl
     rw[ev];cases ho:XM (Fh k) l with
     |error e=>
      rw[ho] at h5;obtain⟨he,q,hq,rfl⟩:=h5;refine⟨_,er.trans ?_,he,5,⟨#[]⟩,false,q,hq,rfl⟩
      try unfold Ab
      repeat first
       |((with_reducible first|apply A5|apply As|apply A2|apply At|apply A0|apply Au|apply A3|apply A1);· first|with_reducible rfl|(simp (disch:=omega) only[gT,pk,b0,b1,b2,w1,e6]<;>first|with_reducible rfl|omega)|omega)
       |(with_reducible apply A4;· first|with_reducible rfl|(simp (disch:=omega) only[gF,pk,b0,b1,b2,w1,e6]<;>omega))
      try simp (disch:=omega) only[pk,b0,b1,b2,w1,e6]
     |ok q=>
      rw[ho] at h5;obtain⟨hq,rfl⟩:=h5;refine⟨_,er.trans ?_,(Cz.self h.B).tail.trans hq,rfl⟩
      try unfold Ab
      repeat first
       |((with_reducible first|apply A5|apply As|apply A2|apply At|apply A0|apply Au|apply A3|apply A1);· first|with_reducible rfl|(simp (disch:=omega) only[gT,pk,b0,b1,b2,w1,e6]<;>first|with_reducible rfl|omega)|omega)
       |(with_reducible apply A4;· first|with_reducible rfl|(simp (disch:=omega) only[gF,pk,b0,b1,b2,w1,e6]<;>omega))
      try simp (disch:=omega) only[pk,b0,b1,b2,w1,e6]
      rfl
   ·by_cases g3:JO l=34
    ·cases l with
     |nil=>cases g3
     |cons c l=>
      have g4:c=34:=g3;subst g4;exact KB (d:=d+2*(k+1)) ht (k+1) h
    ·rw[EH (k+1) g1 g2 g3];exact Acd (d:=d+2*(k+1)) ht Ev h g1 g2 g3
end
end
section
open Go.Proofs.Tryd (prog)
open Go.IntKind (wrap)
set_option maxRecDepth 1000000
open Go.Shelf Go.RowKit Go.Lib
theorem OX (G:R0)(args:List PV)(res:Ay)(h:LN args=some res):Cy G prog 66 args res:=by
 refine⟨⟨_,Tryd.func66,by kernel_rfl⟩,fun w Y bt us hi _ _=>?_⟩
 unfold LN at h;split at h
 rotate_left
 ·cases h
 rename_i s p;cases hq:(Nat.ble p.size 1000&&p.data.toList.all (fun b=>decide (b.toNat<128))&&decide (s.size<=1000000000))
 ·rw[hq] at h;cases h
 rw[hq,cond_true] at h;cases h;rw[Bool.and_eq_true,Bool.and_eq_true] at hq;obtain⟨⟨h1,h2⟩,h3⟩:=hq;have h1:=Nat.le_of_ble_eq_true h1;have h3:=of_decide_eq_true h3;have ps:=hi.args
 match us,ps with
 |[u1,u2],ps=>
  obtain⟨⟨_,p1⟩,⟨_,p2⟩,_⟩:=ps;have e1:u1=.string s:=Ar.val (show Ar w _ (.sc (.string s)) u1 from p1)
  have e2:u2=.string p:=Ar.val (show Ar w _ (.sc (.string p)) u2 from p2)
  subst e1 e2;refine (Any.strings_Trim_laid OY (by kernel_rfl) s p w (by omega) (by omega) (ascii_of_all h2)).mono ?_
  rintro e w' ⟨rfl,hb⟩
  exact⟨[.string ⟨(Lib.trimS s.data.toList p.data.toList).toArray⟩],fun _=>none,rfl,Md hb rfl⟩
 |[],ps=>exact ps.elim
 |[_],ps=>exact ps.2.elim
 |_::_::_::_,ps=>exact ps.2.2.elim
end
section
open Go.Proofs.Tryd (prog)
open Go.IntKind (wrap)
set_option maxRecDepth 1000000
open Go.Shelf Go.RowKit Go.Lib
def Apd:Go.Shelf.Ren:=⟨fun|196=>33|259=>49|n=>n,fun|0=>0|3=>3|4=>4|5=>5|9=>9|12=>12|46=>56|53=>46|119=>86|138=>88|139=>89|n=>n,fun|3=>0|4=>1|n=>n⟩
theorem laysVS:Lays.n196 prog Apd:={
 mixed:=by kernel_rfl
 f196:=Tryd.func33.trans (congrArg some (by kernel_rfl))
 f259:=Tryd.func49.trans (congrArg some (by kernel_rfl))
 t0:=Tryd.underlying0
 a0:=Tryd.isAgg0
 z0:=Tryd.sizeOf0
 v0:=Tryd.zeroValue0
 t3:=Tryd.underlying3
 a3:=Tryd.isAgg3
 z3:=Tryd.sizeOf3
 v3:=Tryd.zeroValue3
 t4:=Tryd.underlying4
 a4:=Tryd.isAgg4
 z4:=Tryd.sizeOf4
 v4:=Tryd.zeroValue4
 t5:=Tryd.underlying5
 a5:=Tryd.isAgg5
 z5:=Tryd.sizeOf5
 v5:=Tryd.zeroValue5
 t9:=Tryd.underlying9
 a9:=Tryd.isAgg9
 z9:=Tryd.sizeOf9
 v9:=Tryd.zeroValue9
 t12:=Tryd.underlying12
 a12:=Tryd.isAgg12
 z12:=Tryd.sizeOf12
 v12:=Tryd.zeroValue12
 t46:=Tryd.underlying56
 a46:=Tryd.isAgg56
 z46:=Tryd.sizeOf56
 v46:=Tryd.zeroValue56
 t53:=Tryd.underlying46
 a53:=Tryd.isAgg46
 z53:=Tryd.sizeOf46
 v53:=Tryd.zeroValue46
 t119:=Tryd.underlying86
 a119:=Tryd.isAgg86
 z119:=Tryd.sizeOf86
 t138:=Tryd.underlying88
 a138:=Tryd.isAgg88
 z138:=Tryd.sizeOf88
 v138:=Tryd.zeroValue88
 t139:=Tryd.underlying89
 a139:=Tryd.isAgg89
 z139:=Tryd.sizeOf89
 v139:=Tryd.zeroValue89
 g3:=by kernel_rfl
 g4:=by kernel_rfl }
def gU:R0:=⟨fun b=>b=0∨b=1,fun w=>0<w.heap.size∧1<w.heap.size∧Lib.Utf8Tabs 0 1 w,fun w w' h ⟨s1,s2,h1,h2⟩=>by
 have e1:=h _ (.inl rfl) s1;have e2:=h _ (.inr rfl) s2
 have hs:∀b,b<w.heap.size->w'.heap[b]?=w.heap[b]?->b<w'.heap.size:=by
  intro b hb he;rw[Array.getElem?_eq_getElem hb] at he;rcases Nat.lt_or_ge b w'.heap.size with q|q
  ·exact q
  ·rw[Array.getElem?_eq_none q] at he;cases he
 refine⟨hs _ s1 e1,hs _ s2 e2,fun c hc=>?_,fun i hi=>?_⟩
 ·have:=h1 c hc;unfold World.cell? at this ⊢;simp only[e1] at this ⊢;exact this
 ·obtain⟨a,b⟩:=h2 i hi;unfold World.cell? at a b ⊢;simp only[e2] at a b ⊢;exact⟨a,b⟩⟩
theorem NJ (args:List PV)(res:Ay)(h:OR args=some res):Cy gU prog 33 args res:=by
 refine⟨⟨_,Tryd.func33,by kernel_rfl⟩,fun w Y bt us hi hok _=>?_⟩
 unfold OR at h;split at h
 rotate_left
 ·cases h
 rename_i s;cases hq:decide (s.size<=9223372036854775807)
 ·rw[hq] at h;cases h
 rw[hq] at h;cases h;have hs:=of_decide_eq_true hq;have ps:=hi.args
 match us,ps with
 |[u],ps=>
  have hu:u=.string s:=by
   have:Ar w _ (.sc (.string s)) u:=ps.1.2;exact this.val
  subst hu;refine (Any.utf8_ValidString laysVS s w hs hok.2.2).mono ?_
  rintro e w' ⟨rfl,hb⟩
  exact⟨[.bool (Lib.validD s.data.toList)],fun _=>none,rfl,Md hb rfl⟩
 |[],ps=>exact ps.elim
 |_::_::_,ps=>exact ps.2.elim
theorem Ags {p:Option (List PV->Option Ay)} (hp:∀g,p=some g->∀args res,g args=some res->Cy gU prog 19 args res):DY gU prog (CP p):=by
 intro f g args res hx hg;have hx0:(bif T7.any (Nat.beq f) then none else RG p f)=some g:=hx;cases hb:T7.any (Nat.beq f)
 rotate_left
 ·rw[hb,cond_true] at hx0;cases hx0
 rw[hb,cond_false] at hx0;unfold RG at hx0;cases hP:Nat.beq f 19
 rotate_left
 ·rw[hP,cond_true] at hx0;rw[Nat.eq_of_beq_eq_true hP];exact hp g hx0 args res hg
 rw[hP,cond_false] at hx0;have Oy:Aad f=some g:=hx0;unfold Aad at Oy;cases h1:Nat.beq f 33
 rotate_left
 ·rw[h1,cond_true] at Oy;cases Oy;rw[Nat.eq_of_beq_eq_true h1];exact NJ args res hg
 rw[h1,cond_false] at Oy;cases h6:Nat.beq f 40
 rotate_left
 ·rw[h6,cond_true] at Oy;cases Oy;rw[Nat.eq_of_beq_eq_true h6];exact UH gU args res hg
 rw[h6,cond_false] at Oy;cases h7:Nat.beq f 99
 rotate_left
 ·rw[h7,cond_true] at Oy;cases Oy;rw[Nat.eq_of_beq_eq_true h7];exact VU gU args res hg
 rw[h7,cond_false] at Oy;cases hA:Nat.beq f 66
 rotate_left
 ·rw[hA,cond_true] at Oy;cases Oy;rw[Nat.eq_of_beq_eq_true hA];exact OX gU args res hg
 rw[hA,cond_false] at Oy;cases h8:Nat.beq f 12
 rotate_left
 ·rw[h8,cond_true] at Oy;cases Oy;rw[Nat.eq_of_beq_eq_true h8];exact UC gU args res hg
 rw[h8,cond_false] at Oy;cases h9:Nat.beq f 68
 rotate_left
 ·rw[h9,cond_true] at Oy;cases Oy;rw[Nat.eq_of_beq_eq_true h9];exact VM gU args res hg
 rw[h9,cond_false] at Oy;cases h3:Nat.beq f 1000000
 ·rw[h3,cond_false] at Oy;cases Oy
 ·rw[h3,cond_true] at Oy;cases Oy;cases hg
theorem Alb:DY gU prog C0:=Ags (fun _ h=>by cases h)
end
section
open Go.Proofs.Tryd (prog)
open Go.IntKind (wrap)
open Go Go.RowKit
def O9 (v:JV):Value:=.agg #[.int .i64 v.1,.string (Ac v.2.1),.bool v.2.2]
def Hg:Nat->List (List Int × JV)->List MapEntry
 |_,[]=>[]
 |i,m::r=>{ key:=.string (Ac m.1),val:=O9 m.2,born:=i }::Hg (i+1) r
theorem DN:∀(i:Nat)(a b:List (List Int × JV)),Hg i (a++b)=Hg i a++Hg (i+a.length) b
 |_,[],_=>rfl
 |i,m::r,b=>by
  show _::Hg (i+1) (r++b)=_;rw[DN (i+1) r b];show _=_::(Hg (i+1) r++Hg (i+(r.length+1)) b);rw[show i+1+r.length=i+(r.length+1) by omega]
def Js (nm:List Int)(ms:List (List Int × JV)):Option JV:=(ms.find? fun m=>m.1==nm).map (·.2)
theorem V3 {a b:List Int}(ha:Dq a)(hb:Dq b)(h:Ac a=Ac b):a=b:=by
 have:=congrArg D1 h
 rwa [C9 ha,C9 hb] at this
theorem Aaf (a b:ByteArray):(a==b)=decide (a=b):=by
 have e:(a==b)=(a.data==b.data):=by
  cases a;cases b;rfl
 rw[e,Bool.eq_iff_iff,beq_iff_eq,decide_eq_true_iff];constructor
 ·intro h;cases a;cases b;exact congrArg ByteArray.mk h
 ·intro h;rw[h]
theorem O4 {nm:List Int}(hn:Dq nm):∀(ms:List (List Int × JV)) (i j:Nat),(∀m∈ms,Dq m.1)->∃r,Instr.findNow .string (.string (Ac nm)) (Hg i ms) j=some r∧(match Js nm ms with|none=>r=none|some v=>∃k,r=some (k,O9 v))
 |[],_,_,_=>⟨none,rfl,rfl⟩
 |m::r,i,j,hB=>by
  by_cases h:m.1=nm
  ·refine⟨some (j,O9 m.2),?_,?_⟩
   ·show (match Instr.sameNow .string (.string (Ac nm)) (.string (Ac m.1)) with|some true=>some (some (j,O9 m.2))|some false=>Instr.findNow .string (.string (Ac nm)) (Hg (i+1) r) (j+1)|none=>none)=_
    have e:Instr.sameNow .string (.string (Ac nm)) (.string (Ac m.1))=some true:=by
     show some (Ac nm==Ac m.1)=some true;rw[h,Aaf];simp
    rw[e]
   ·have e:Js nm (m::r)=some m.2:=by
     unfold Js;rw[List.find?_cons_of_pos (by simp[h])]
     rfl
    rw[e];exact⟨j,rfl⟩
  ·obtain⟨q,hq,hl⟩:=O4 hn r (i+1) (j+1) fun m hm=>hB m (List.mem_cons_of_mem _ hm)
   refine⟨q,?_,?_⟩
   ·show (match Instr.sameNow .string (.string (Ac nm)) (.string (Ac m.1)) with|some true=>some (some (j,O9 m.2))|some false=>Instr.findNow .string (.string (Ac nm)) (Hg (i+1) r) (j+1)|none=>none)=_
    have e:Instr.sameNow .string (.string (Ac nm)) (.string (Ac m.1))=some false:=by
     show some (Ac nm==Ac m.1)=some false;have:Ac nm≠Ac m.1:=fun e=>h (V3 hn (hB m (List.mem_cons_self ..)) e).symm
     rw[Aaf];simp[this]
    rw[e];exact hq
   ·have e:Js nm (m::r)=Js nm r:=by
     unfold Js;rw[List.find?_cons_of_neg (by simp[h])]
    rw[e];exact hl
def AD (w:World)(b:Nat)(ms:List (List Int × JV)):Prop:=w.heap[b]?=some (.map (Hg 0 ms).toArray ms.length)
theorem X8 {w:World}{b:Nat}{ms:List (List Int × JV)} (h:AD w b ms):(getObj b).run prog w=.ok (.map (Hg 0 ms).toArray ms.length) w:=by
 simp[getObj,Sem.run,show w.heap[b]?=_ from h]
def LI (nm:List Int)(ms:List (List Int × JV)):Value:=match Js nm ms with|some v=>O9 v|none=>O9 (0,[],false)
theorem Zj {w:World}{b:Nat}{ms:List (List Int × JV)} (h:AD w b ms)(hB:∀m∈ms,Dq m.1){nm:List Int}(hn:Dq nm)(ok:Bool):(Instr.lookup 68 (.map (some b)) (.string (Ac nm)) ok).run prog w=.ok (if ok then .tuple #[LI nm ms,.bool (Js nm ms).isSome] else LI nm ms) w:=by
 have hu:=run_underlying (w:=w) Tryd.underlying68;have hk:=run_underlying (w:=w) Tryd.underlying9;have hck:∀c (n:Nat),(Instr.checkKey c (n+1) 9 (.string (Ac nm))).run prog w=.ok () w:=fun c n=>by simp[Instr.checkKey,hk]
 have hc:∀c,(Instr.checkKey c 10000 9 (.string (Ac nm))).run prog w=.ok () w:=fun c=>hck c 9999
 obtain⟨r,hr,hl⟩:=O4 hn ms 0 0 hB;have hz:(zeroValue 95).run prog w=.ok (O9 (0,[],false)) w:=Tryd.zeroValue95 w;unfold LI;cases hq:Js nm ms with
 |none=>
  rw[hq] at hl;simp only at hl;subst hl;cases ok<;>simp[Instr.lookup,hu,hk,X8 h,hc,Instr.findKey,hr,hz]<;>rfl
 |some v=>
  rw[hq] at hl;obtain⟨k,hl⟩:=hl;subst hl;cases ok<;>simp[Instr.lookup,hu,hk,X8 h,hc,Instr.findKey,hr]
theorem QR {w:World}{b:Nat}{ms:List (List Int × JV)} (h:AD w b ms)(hB:∀m∈ms,Dq m.1){nm:List Int}(hn:Dq nm)(FW:Js nm ms=none)(v:JV):(Instr.mapUpdate 68 (.map (some b)) (.string (Ac nm)) (O9 v)).run prog w=.ok () { w with heap:=w.heap.setIfInBounds b (.map (Hg 0 (ms++[(nm,v)])).toArray (ms++[(nm,v)]).length) }:=by
 have hu:=run_underlying (w:=w) Tryd.underlying68;have hk:=run_underlying (w:=w) Tryd.underlying9;have hck:∀c (n:Nat),(Instr.checkKey c (n+1) 9 (.string (Ac nm))).run prog w=.ok () w:=fun c n=>by simp[Instr.checkKey,hk]
 have hc:∀c,(Instr.checkKey c 10000 9 (.string (Ac nm))).run prog w=.ok () w:=fun c=>hck c 9999
 obtain⟨r,hr,hl⟩:=O4 hn ms 0 0 hB;rw[FW] at hl;simp only at hl;subst hl
 have e:Hg 0 (ms++[(nm,v)])=Hg 0 ms++[{ key:=.string (Ac nm),val:=O9 v,born:=ms.length }]:=by
  rw[DN];show _++[_]=_;rw[Zzd]
 have hs:∀o,(setObj b o).run prog w=.ok () { w with heap:=w.heap.setIfInBounds b o }:=fun o=>by
  simp[setObj,Sem.run,show w.heap[b]?=_ from h]
 rw[e];simp[Instr.mapUpdate,hu,hk,X8 h,hc,Instr.findKey,hr,hs]
end
section
open Go.Proofs.Tryd (prog)
open Go.IntKind (wrap)
set_option maxRecDepth 20000
open Go Go.RowKit
structure Jr (w:World) (b:Nat):Prop where
 ok:gU.ok w
 bl:∀k,gU.bl k->k<w.heap.size∧k≠b
theorem X5 {f:FuncId}{t:ByteArray}{r r':List Int}{args vals:List PV}{us rs:List Value}{fu d:Nat}(e:Ae C0 prog fu d f (.pbox (Bw t r)::args)=some ⟨vals,[Bw t r']⟩) (ha:Bb Yo args us)(hr:Bb Yo vals rs)
  {w:World} {b o:Nat} (hU:Jr w b) (h:Sr w b o t r):Calls prog f (.pointer (some ⟨b,o,none⟩)::us).toArray w fun e w'=>e=.returned (Gq rs)∧Sr w' b o t r'∧D9 w w' b o 2:=by
 have hs:Cy gU prog f (.pbox ([Value.string t,.int .i64 (Bp t r:Int)].map .sc)::args) ⟨vals,[[Value.string t,.int .i64 (Bp t r':Int)].map .sc]⟩:=G6 ngR mxR Alb d f _ _ e;refine (DV hs ha hr (w:=w) (b:=b) (o:=o) hU.ok hU.bl h.lt ?_ ?_).mono ?_
 ·intro j v hv
  match j,hv with
  |0,hv=>cases hv;exact h.c0
  |1,hv=>cases hv;exact h.c1
 ·intro j hj
  match j,hj with
  |0,_=>exact h.f0
  |1,_=>exact h.f1
 ·rintro e w' ⟨rfl,_,h4,h5,hk⟩
  exact⟨rfl,⟨Nat.lt_of_lt_of_le h.lt hk.size,h4 0 _ rfl,h4 1 _ rfl,h5 0 (Nat.zero_lt_succ _),h5 1 (Nat.succ_lt_succ (Nat.zero_lt_succ _))⟩,hk⟩
theorem G0 {t:ByteArray}{r:List Int}(hS:Cz t r)(ht:t.size<=1000000){w:World}{b o:Nat}(hU:Jr w b)(h:Sr w b o t r):
  Calls prog 50 #[.pointer (some ⟨b,o,none⟩)] w fun e w'=>e=.returned (.tuple #[])∧Sr w' b o t (Bd r)∧D9 w w' b o 2:=by
 have e:=Nx (fu:=1000001) (d:=0) hS ht (by omega)
 exact X5 (us:=[]) (rs:=[]) e trivial trivial hU h
def Alw (t:ByteArray)(r r':List Int)(e:Ending):Prop:=
 match Fh 8 r with
 |.ok (v,q)=>r'=q∧Cz (Ac r) q∧e=.returned (.tuple #[O9 v,.int .i64 0])
 |.error er=>er≠0∧Cz t r'∧∃u:JV,e=.returned (.tuple #[O9 u,.int .i64 er])
theorem VE {t:ByteArray}{r:List Int}(hS:Cz t r)(ht:t.size<=1000000){w:World}{b o:Nat}(hU:Jr w b)(h:Sr w b o t r):
  Calls prog 69 #[.pointer (some ⟨b,o,none⟩),.int .i64 1] w fun e w'=>∃r',Sr w' b o t r'∧D9 w w' b o 2 ∧
   Alw t r r' e:=by
 unfold Alw;obtain⟨res,e,hr⟩:=Ah2 (fu:=1000001) (d:=0) ht (by omega) 8 1 (by omega) (by omega) r hS
 cases hv:Fh 8 r with
 |error er=>
  rw[hv] at hr;obtain⟨he,c1,c2,c3,q,hq,rfl⟩:=hr;refine (X5 (us:=[.int .i64 1]) (rs:=[.agg #[.int .i64 c1,.string c2,.bool c3],.int .i64 er]) e ⟨.inl rfl,trivial⟩ ⟨.inr ⟨[.int .i64 c1,.string c2,.bool c3],rfl,rfl⟩,.inl rfl,trivial⟩ hU h).mono ?_
  rintro e w' ⟨rfl,ha,hk⟩
  exact⟨q,ha,hk,he,hq,(c1,D1 c2,c3),by unfold O9;simp only[Nd];rfl⟩
 |ok x=>
  obtain⟨v,q⟩:=x;rw[hv] at hr;obtain⟨hq,rfl⟩:=hr;refine (X5 (us:=[.int .i64 1]) (rs:=[O9 v,.int .i64 0]) e ⟨.inl rfl,trivial⟩ ⟨.inr ⟨[.int .i64 v.1,.string (Ac v.2.1),.bool v.2.2],rfl,rfl⟩,.inl rfl,trivial⟩ hU h).mono ?_
  rintro e w' ⟨rfl,ha,hk⟩
  exact⟨q,ha,hk,rfl,hq,rfl⟩
end
end Go.Proofs.YtodnjibebeghjaaDoor.Pv
