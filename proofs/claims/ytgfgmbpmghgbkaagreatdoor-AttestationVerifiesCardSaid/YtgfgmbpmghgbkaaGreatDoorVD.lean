/-
  The proof of AttestationVerifies, part 4.
-/
import Derived.Test.YtgfgmbpmghgbkaaGreatDoorVC
import Derived.Test.YtgfgmbpmghgbkaaGreatDoorRows
set_option linter.unusedSimpArgs false
namespace Go.Proofs.YtgfgmbpmghgbkaaGreatDoor.Pv
section
open Go.IntKind (wrap)
section
variable {fu d:Nat}
theorem Ant {x k:Int}(hk:k=13∨k=16∨k=17∨k=21∨k=32):Ae C0 Tryz.prog fu (d+1) Qz [.sc (.int .u64 x),.sc (.int .i64 k)]=some ⟨[.sc (.int .u64 (rot x k))],[]⟩:=by
 rw [DI];rcases hk with rfl|rfl|rfl|rfl|rfl<;>kernel_rfl
theorem Al3 {x k:Int}(hk:k=13∨k=16∨k=17∨k=21∨k=32):Ae C0 Tryz.prog fu (d+1) Sr [.sc (.int .u64 x),.sc (.int .u64 k)]=some ⟨[.sc (.int .u64 (rot x k))],[]⟩:=by
 rw [GG];rcases hk with rfl|rfl|rfl|rfl|rfl<;>kernel_rfl
theorem MO {a0 a1 a2 a3 a4:Int}:∀(k i nn:Nat)(v:W4),k<nn->i+k<=100 ->
  Ga fu (Ae C0 Tryz.prog fu (d+1)) a0 a1 a2 a3 a4 nn ((i+k:Nat):Int) i v.a v.b v.c v.d=some ⟨[],[(Ae0 k v).cells]⟩
 |_,_,0,_,h,_=>by omega
 |0,i,nn+1,v,h,hi=>by
  rw [Kg,Dt _ _ _ (by omega)]
  rfl
 |k+1,i,nn+1,v,h,hi=>by
  have ih:=MO (a0:=a0) (a1:=a1) (a2:=a2) (a3:=a3) (a4:=a4) k (i+1) nn (TG v) (by omega) (by omega)
  have w:wrap .i64 ((i:Int)+1)=((i+1:Nat):Int):=by rw [At (by omega) (by omega)];omega
  have r13:=fun x=>Ant (fu:=fu) (d:=d) (x:=x) (k:=13) (by simp)
  have r16:=fun x=>Ant (fu:=fu) (d:=d) (x:=x) (k:=16) (by simp)
  have r17:=fun x=>Ant (fu:=fu) (d:=d) (x:=x) (k:=17) (by simp)
  have r21:=fun x=>Ant (fu:=fu) (d:=d) (x:=x) (k:=21) (by simp)
  have r32:=fun x=>Ant (fu:=fu) (d:=d) (x:=x) (k:=32) (by simp)
  rw [Kg];simp (disch:=omega) only [B6,r13,r16,r17,r21,r32,w];rw [show i+(k+1)=i+1+k by omega]
  exact ih
theorem VV (k:Nat)(hk:k<=4)(hfu:100<=fu)(v:W4):Ae C0 Tryz.prog fu (d+2) Nd [.pbox [.sc (.int .u64 v.a),.sc (.int .u64 v.b),.sc (.int .u64 v.c),.sc (.int .u64 v.d)],.sc (.int .i64 k)]=some ⟨[],[(Ae0 k v).cells]⟩:=by
 rw [Yh];have:=MO (fu:=fu) (d:=d) (a0:=v.a) (a1:=v.b) (a2:=v.c) (a3:=v.d) (a4:=k) k 0 fu v (by omega) (by omega)
 rw [Bv] at this;exact this
theorem WL (hfu:100<=fu)(v:W4)(m:Int):Ae C0 Tryz.prog fu (d+3) Nq [.pbox [.sc (.int .u64 v.a),.sc (.int .u64 v.b),.sc (.int .u64 v.c),.sc (.int .u64 v.d)],.sc (.int .u64 m)]=some ⟨[],[(V9 v m).cells]⟩:=by
 rw [Y0];have r2:=VV (fu:=fu) (d:=d) 2 (by omega) hfu ⟨v.a,v.b,v.c,Er .u64 v.d m⟩
 have e2:((2:Nat):Int)=2:=rfl;rw [e2] at r2;unfold V9;generalize Ae0 2 ⟨v.a,v.b,v.c,Er .u64 v.d m⟩=R at r2 ⊢;simp only [W4.cells] at r2;simp only [B6,r2];rfl
theorem At3 {a b:Int}{k:Nat}(hk:k<8)(ha:0<=a)(ha':a<((2 ^ (8*k):Nat):Int)) (hb:0<=b)(hb':b<=255):CH .u64 a (Ff .u64 b (8*(k:Int)))=a+((2 ^ (8*k):Nat):Int)*b:=by
 obtain ⟨n,rfl⟩:=Int.eq_ofNat_of_zero_le hb;have e:(8*(k:Int)).toNat=8*k:=by omega
 have hp:n*2 ^ (8*k)<=255*2 ^ (8*k):=Nat.mul_le_mul_right _ (by omega)
 have h56:2 ^ (8*k)<=2 ^ 56:=Nat.pow_le_pow_right (by omega) (by omega)
 have e56:(2:Nat) ^ 56=72057594037927936:=by decide
 rw [e56] at h56;generalize hP:2 ^ (8*k)=p at *
 have hpos:n*p<=255*p:=hp
 have hs:Ff .u64 (n:Int) (8*(k:Int))=(n:Int)*((2 ^ (8*(k:Int)).toNat:Nat):Int):=Ag3 (by omega) (by omega) (by omega) (by
  rw [e,hP];have:((n*p:Nat):Int)<=((255*p:Nat):Int):=by omega
  rw [←Int.natCast_mul];omega)
 rw [hs,e,hP]
 have:=(YR (a:=a) (c:=((n*p:Nat):Int)) (8*k) n ha (by rw [hP];exact ha') (by rw [hP]) (by
  have:((n*p:Nat):Int)<=((255*p:Nat):Int):=by omega
  omega)).1
 rw [←Int.natCast_mul,this,Int.mul_comm ((p:Nat):Int),←Int.natCast_mul]
theorem At4 (k:Nat):((2 ^ (8*k):Nat):Int)=256 ^ k:=by
 rw [Nat.pow_mul];simp
theorem NN {call:Ar}{n:Nat}{c:List PV}{l:List Int}(hb:G9 l)(hl:l.length<=8):∀(r:List Int)(i nn:Nat),l.drop i=r->r.length<nn->i<=l.length ->
  Jm fu call n c nn (Wg (l.take i)) l.length (Ai .u8 l) l.length i=some ⟨[.sc (.int .u64 (Wg l))],[]⟩
 |_,_,0,_,h,_=>by omega
 |[],i,nn+1,h,hn,hi=>by
  have:=drop_nil h;rw [Sw,Dt _ _ _ (by omega),I0 (by omega)]
 |b::r,i,nn+1,h,hn,hi=>by
  obtain ⟨h1,h2,h3⟩:=Cg h;simp only [Ib] at hn;have ih:=NN (call:=call) (n:=n) (c:=c) hb hl r (i+1) nn h3 (by omega) (by omega)
  have hbb:=hb b (List.mem_of_getElem? h2);have w:wrap .i64 ((i:Int)+1)=((i+1:Nat):Int):=by rw [At (by omega) (by omega)];omega
  have w8:wrap .i64 (8*(i:Int))=8*(i:Int):=At (by omega) (by omega)
  have wb:wrap .u64 b=b:=B5 (by omega) (by omega)
  have hbnd:=Xv (l:=l.take i) fun x hx=>hb x (List.mem_of_mem_take hx)
  have htl:(l.take i).length=i:=by rw [List.length_take];omega
  rw [htl] at hbnd
  have hj:CH .u64 (Wg (l.take i)) (Ff .u64 b (8*(i:Int)))=Wg (l.take (i+1)):=by
   rw [At3 (by omega) hbnd.1 (by rw [At4];exact hbnd.2) hbb.1 hbb.2,List.take_add_one,h2,EW,htl,At4]
   simp [Wg]
  rw [Sw];simp (disch:=omega) only [B6,Hc,Bj,Qb h2,w,w8,wb,hj];exact ih
theorem UW {l:List Int}(hb:G9 l)(hl:l.length<=8)(hfu:100<=fu):Ae C0 Tryz.prog fu (d+1) X3 [.lst false 1 l.length (Ai .u8 l)]=some ⟨[.sc (.int .u64 (Wg l))],[]⟩:=by
 rw [NZ];exact NN hb hl l 0 fu rfl (by omega) (by omega)
theorem E2 (k:IntKind)(l:List Int)(i:Nat):List.drop i (Ai k l)=Ai k (l.drop i):=by
 have:=YU (Zo k) l i
 simpa using this
theorem D3 (k:IntKind)(l:List Int)(i:Nat):List.take i (Ai k l)=Ai k (l.take i):=by
 have:=Agc (Zo k) l i
 simpa using this
theorem G9.drop {l:List Int}(h:G9 l)(i:Nat):G9 (l.drop i):=fun x hx=>h x (List.mem_of_mem_drop hx)
theorem G9.take {l:List Int}(h:G9 l)(i:Nat):G9 (l.take i):=fun x hx=>h x (List.mem_of_mem_take hx)
theorem Ap3 {a0 a1:Int}{n:Nat}{c:List PV}{l:List Int}(hb:G9 l)(hl:l.length<=1099511627776)(hfu:100<=fu)(nn:Nat)(v:W4):
  Kj fu (Ae C0 Tryz.prog fu (d+3)) a0 a1 n c (nn+1) l.length (Ai .u8 l) ((l.length / 8:Nat):Int) ((l.length / 8:Nat):Int) ((l.length / 8:Nat):Int) v.a v.b v.c v.d=some ⟨[.sc (.int .u64 (Ajp (Ah7 (V9 v (Qg l)))))],[]⟩:=by
 have w8:wrap .i64 (8*((l.length / 8:Nat):Int))=((8*(l.length / 8):Nat):Int):=by rw [At (by omega) (by omega)];omega
 have wl:wrap .u64 (l.length:Int)=l.length:=B5 (by omega) (by omega)
 have hdl:(l.drop (8*(l.length / 8))).length=l.length-8*(l.length / 8):=List.length_drop;have li:=UW (fu:=fu) (d:=d+2) (hb.drop (8*(l.length / 8))) (by omega) hfu
 rw [hdl] at li;have tk:List.take (l.length-8*(l.length / 8)) (Ai .u8 (l.drop (8*(l.length / 8))))=Ai .u8 (l.drop (8*(l.length / 8))):=I0 (by rw [Aq,hdl];omega)
 have hbn:=Xv (hb.drop (8*(l.length / 8)));rw [hdl] at hbn
 have hp7:(256:Int) ^ (l.length-8*(l.length / 8))<=256 ^ 7:=by
  have:(256:Nat) ^ (l.length-8*(l.length / 8))<=256 ^ 7:=Nat.pow_le_pow_right (by omega) (by omega)
  have h2:(((256:Nat) ^ (l.length-8*(l.length / 8)):Nat):Int)<=((256 ^ 7:Nat):Int):=by omega
  simpa using h2
 have hlast:CH .u64 (Wg (l.drop (8*(l.length / 8)))) (Ff .u64 (l.length:Int) 56)=Qg l:=by
  have hs:Ff .u64 (l.length:Int) 56=(((l.length % 256)*2 ^ 56:Nat):Int):=by
   show wrap .u64 ((l.length:Int)*2 ^ (min (56:Int).toNat IntKind.u64.bits))=_;have h2:(2:Int) ^ (min (56:Int).toNat IntKind.u64.bits)=72057594037927936:=by decide
   have h3:(2:Nat) ^ 56=72057594037927936:=by decide
   rw [h2,h3];simp only [wrap,IntKind.signed,IntKind.bits];simp;omega
  have h56:(256:Int) ^ 7=((2 ^ 56:Nat):Int):=by decide
  have h3:(2:Nat) ^ 56=72057594037927936:=by decide
  rw [hs,(YR 56 (l.length % 256) hbn.1 (by omega) rfl (by omega)).1]
  unfold Qg;omega
 have ab:=WL (fu:=fu) (d:=d) hfu v (Qg l);have r4:=VV (fu:=fu) (d:=d+1) 4 (by omega) hfu ⟨(V9 v (Qg l)).a,(V9 v (Qg l)).b,Er .u64 (V9 v (Qg l)).c 255,(V9 v (Qg l)).d⟩
 have e4:((4:Nat):Int)=4:=rfl;rw [e4] at r4;unfold Ah7;generalize V9 v (Qg l)=U at ab r4 ⊢;generalize Ae0 4 ⟨U.a,U.b,Er .u64 U.c 255,U.d⟩=R at r4 ⊢;simp only [W4.cells] at ab r4;rw [X4];simp (disch:=omega) only [B6,Hc,Bj,w8,wl,E2,tk,li,hlast,ab,r4];rfl
theorem Abp {a0 a1:Int}{n:Nat}{c:List PV}{l:List Int}(hb:G9 l)(hl:l.length<=1099511627776)(hfu:100<=fu):∀(k i nn:Nat)(v:W4),i+k=l.length / 8->k<nn ->
  Kj fu (Ae C0 Tryz.prog fu (d+3)) a0 a1 n c nn l.length (Ai .u8 l) ((l.length / 8:Nat):Int) ((l.length / 8:Nat):Int) i v.a v.b v.c v.d=some ⟨[.sc (.int .u64 (Ajp (Ah7 (V9 (UE k v (l.drop (8*i))) (Qg l)))))],[]⟩
 |_,_,0,_,_,h=>by omega
 |0,i,nn+1,v,hi,hn=>by
  have e:i=l.length / 8:=by omega
  subst e;exact Ap3 hb hl hfu nn v
 |k+1,i,nn+1,v,hi,hn=>by
  have w:wrap .i64 ((i:Int)+1)=((i+1:Nat):Int):=by rw [At (by omega) (by omega)];omega
  have w8:wrap .i64 (8*(i:Int))=((8*i:Nat):Int):=by rw [At (by omega) (by omega)];omega
  have w88:wrap .i64 (((8*i:Nat):Int)+8)=((8*i+8:Nat):Int):=by rw [At (by omega) (by omega)];omega
  have hdl:((l.drop (8*i)).take 8).length=8:=by rw [List.length_take,List.length_drop];omega
  have li:=UW (fu:=fu) (d:=d+2) ((hb.drop (8*i)).take 8) (by omega) hfu
  rw [hdl] at li;have e8:8*i+8-8*i=8:=by omega
  have ab:=WL (fu:=fu) (d:=d) hfu v (Wg ((l.drop (8*i)).take 8));have ih:=Abp (a0:=a0) (a1:=a1) (n:=n) (c:=c) hb hl hfu k (i+1) nn (V9 v (Wg ((l.drop (8*i)).take 8))) (by omega) (by omega)
  have eN:UE (k+1) v (l.drop (8*i))=UE k (V9 v (Wg ((l.drop (8*i)).take 8))) (l.drop (8*(i+1))):=by
   rw [UE,List.drop_drop,show 8*i+8=8*(i+1) by omega]
  rw [eN];generalize V9 v (Wg ((l.drop (8*i)).take 8))=U at ab ih ⊢;simp only [W4.cells] at ab;rw [X4];simp (disch:=omega) only [B6,Hc,Bj,w,w8,w88,e8,E2,D3,li,ab];exact ih
theorem Aq5 {l:List Int}(hb:G9 l)(hl:l.length<=1099511627776)(hfu:100<=fu)(hf:l.length<fu)(k0 k1:Int):Ae C0 Tryz.prog fu (d+4) HG [.sc (.int .u64 k0),.sc (.int .u64 k1),.lst false 1 l.length (Ai .u8 l)]=some ⟨[.sc (.int .u64 (Apz k0 k1 l))],[]⟩:=by
 rw [XP]
 have w:wrap .i64 (Int.tdiv (l.length:Int) 8)=((l.length / 8:Nat):Int):=by
  rw [Int.tdiv_eq_ediv_of_nonneg (by omega),At (by omega) (by omega)]
  omega
 have lp:=Abp (fu:=fu) (d:=d) (a0:=k0) (a1:=k1) (n:=l.length) (c:=Ai .u8 l) hb hl hfu (l.length / 8) 0 fu (Arh k0 k1) (by omega) (by omega)
 simp only [Hr,w];exact lp
theorem Ag4 {l:List Int}(hb:G9 l)(hl:l.length<=1099511627776)(hfu:100<=fu)(hf:l.length<fu)(dom:Int):Ae C0 Tryz.prog fu (d+5) Ux [.sc (.int .i64 dom),.lst false 1 l.length (Ai .u8 l)]=some ⟨[.sc (.int .u64 (Em dom l))],[]⟩:=by
 rw [UA];have s:=Aq5 (fu:=fu) (d:=d) hb hl hfu hf (wrap .u64 dom) 0;simp only [B6,s];rfl
theorem Rn (v:W4):Ae C0 Tryz.prog fu (d+2) Qo [.agg [.sc (.int .u64 v.a),.sc (.int .u64 v.b),.sc (.int .u64 v.c),.sc (.int .u64 v.d)]]=some ⟨[.agg (TG v).cells],[]⟩:=by
 have r13:=fun x=>Al3 (fu:=fu) (d:=d) (x:=x) (k:=13) (by simp)
 have r16:=fun x=>Al3 (fu:=fu) (d:=d) (x:=x) (k:=16) (by simp)
 have r17:=fun x=>Al3 (fu:=fu) (d:=d) (x:=x) (k:=17) (by simp)
 have r21:=fun x=>Al3 (fu:=fu) (d:=d) (x:=x) (k:=21) (by simp)
 have r32:=fun x=>Al3 (fu:=fu) (d:=d) (x:=x) (k:=32) (by simp)
 rw [CO];simp (disch:=omega) only [B6,r13,r16,r17,r21,r32];rfl
def Yj (l:List Int)(i k:Nat):Int:=if i+k<l.length then l.getD (i+k) 0 else if k=7 then (l.length:Int) % 256 else 0
def pc (l:List Int)(i:Nat):List Int:=(List.range 8).map (Yj l i)
theorem Auz {l:List Int}(hb:G9 l)(i:Nat):G9 (pc l i):=by
 intro x hx;obtain ⟨k,hk,rfl⟩:=List.mem_map.1 hx;unfold Yj;split
 ·rename_i h;rw [List.getD_eq_getElem?_getD,List.getElem?_eq_getElem h];exact hb _ (List.getElem_mem h)
 ·split<;>omega
theorem Ao3 {l:List Int}{i:Nat}(h:i+8<=l.length):pc l i=(l.drop i).take 8:=by
 refine List.ext_getElem (by simp [pc];omega) fun k h1 h2=>?_
 have hk:k<8:=by simpa [pc] using h1
 simp only [pc,List.getElem_map,List.getElem_range,List.getElem_take,List.getElem_drop,Yj];rw [Bl (by omega),List.getD_eq_getElem?_getD,List.getElem?_eq_getElem (by omega)]
 rfl
theorem VQ (x:Int):∀n,Wg (List.replicate n 0++[x])=256 ^ n*x
 |0=>by simp [Wg]
 |n+1=>by
  rw [List.replicate_succ,List.cons_append,Wg,VQ x n,Int.pow_succ,Int.mul_comm (256 ^ n) 256,Int.mul_assoc];omega
theorem Aoz {l:List Int}:Wg (pc l (8*(l.length / 8)))=Qg l:=by
 have e:pc l (8*(l.length / 8))=l.drop (8*(l.length / 8))++(List.replicate (7-(l.length-8*(l.length / 8))) 0++[(l.length:Int) % 256]):=by
  refine List.ext_getElem (by simp [pc];omega) fun k h1 h2=>?_
  have hk:k<8:=by simpa [pc] using h1
  simp only [pc,List.getElem_map,List.getElem_range,Yj];by_cases hc:8*(l.length / 8)+k<l.length
  ·rw [Bl hc,List.getElem_append_left (by rw [List.length_drop];omega),List.getElem_drop,List.getD_eq_getElem?_getD,List.getElem?_eq_getElem hc]
   rfl
  ·rw [A3 hc,List.getElem_append_right (by rw [List.length_drop];omega)]
   by_cases h7:k=7
   ·rw [Bl h7,List.getElem_append_right (by simp;omega)]
    simp
   ·rw [A3 h7,List.getElem_append_left (by simp;omega)]
    simp
 rw [e,EW,VQ];unfold Qg
 have:(256:Int) ^ (l.drop (8*(l.length / 8))).length*(256 ^ (7-(l.length-8*(l.length / 8)))*((l.length:Int) % 256))=72057594037927936*((l.length:Int) % 256):=by
  rw [←Int.mul_assoc,←Int.pow_add,List.length_drop];have:l.length-8*(l.length / 8)+(7-(l.length-8*(l.length / 8)))=7:=by omega
  rw [this];rfl
 rw [this]
theorem Atr {a b:Int}(ha:0<=a)(ha':a<72057594037927936)(hb:0<=b)(hb':b<=255):CH .u64 (Ff .u64 a 8) b=b+256*a:=by
 obtain ⟨n,rfl⟩:=Int.eq_ofNat_of_zero_le ha
 have hs:Ff .u64 (n:Int) 8=((n*2 ^ 8:Nat):Int):=by
  have:=Ag3 (a:=(n:Int)) (k:=8) (by omega) (by omega) (by omega) (by
   have:(2 ^ (8:Int).toNat:Nat)=256:=by decide
   rw [this];omega)
  rw [this];have:(2 ^ (8:Int).toNat:Nat)=256:=by decide
  rw [this];have:(2 ^ 8:Nat)=256:=by decide
  rw [this];omega
 have h8:(2 ^ 8:Nat)=256:=by decide
 rw [hs,(YR (a:=b) 8 n hb (by rw [h8];omega) rfl (by rw [h8];omega)).2,h8]
 omega
theorem Afz {a0 a1:Int}{n m0:Nat}{c:List PV}{l:List Int}(hb:G9 l)(hl:l.length<=1099511627776){i:Nat}(hi:i<=l.length)(v:W4):∀(j nn:Nat),j<=8->j<nn ->
  Fm fu (Ae C0 Tryz.prog fu (d+2)) a0 a1 n c m0 nn l.length (Ai .u8 l) i (Wg ((pc l i).drop j)) ((j:Int)-1) v.cells =
   Gi fu (Ae C0 Tryz.prog fu (d+2)) a0 a1 n c m0 l.length (Ai .u8 l) ((i+8:Nat):Int) (V9 v (Wg (pc l i))).cells
 |_,0,_,h=>by omega
 |0,nn+1,hj,hn=>by
  have w8:wrap .i64 ((i:Int)+8)=((i+8:Nat):Int):=by rw [At (by omega) (by omega)];omega
  have r1:=Rn (fu:=fu) (d:=d) ⟨v.a,v.b,v.c,Er .u64 v.d (Wg (pc l i))⟩;have r2:=Rn (fu:=fu) (d:=d) (TG ⟨v.a,v.b,v.c,Er .u64 v.d (Wg (pc l i))⟩);have eA:V9 v (Wg (pc l i))=Atv (TG (TG ⟨v.a,v.b,v.c,Er .u64 v.d (Wg (pc l i))⟩)) (Wg (pc l i)):=rfl;rw [eA];generalize TG ⟨v.a,v.b,v.c,Er .u64 v.d (Wg (pc l i))⟩=U at r1 r2 ⊢;generalize TG U=U2 at r2 ⊢;simp only [W4.cells] at r1 r2;rw [Oy,Dt _ _ _ (by omega),B8]
  simp only [W4.cells,List.getD_cons_zero,List.getD_cons_succ,XJ,Hr];simp (disch:=first|omega|(simp;done)) only [B6,B7,List.take_succ_cons,List.take_zero,List.drop_succ_cons,B8,List.drop_nil,List.cons_append,Zzq,List.append_nil,Ib,Y4,List.getD_cons_zero,List.getD_cons_succ,r1,r2,w8,Bv,Nat.reduceAdd,Nat.reduceLeDiff,List.append_eq]
  rfl
 |j+1,nn+1,hj,hn=>by
  have ih:=Afz (a0:=a0) (a1:=a1) (n:=n) (m0:=m0) (c:=c) hb hl hi v j nn (by omega) (by omega)
  have hw:wrap .i64 ((i:Int)+(((j+1:Nat):Int)-1))=((i+j:Nat):Int):=by rw [At (by omega) (by omega)];omega
  have wj:wrap .i64 (((j+1:Nat):Int)-1-1)=(j:Int)-1:=by rw [At (by omega) (by omega)];omega
  have hd:(pc l i).drop j=Yj l i j::(pc l i).drop (j+1):=by
   rw [List.drop_eq_getElem_cons (by simp [pc];omega)]
   simp [pc]
  have hB:=Auz hb i;have hbn:=Xv (hB.drop (j+1))
  have hp7:(256:Int) ^ ((pc l i).drop (j+1)).length<=72057594037927936:=by
   have hlen:((pc l i).drop (j+1)).length<=7:=by simp [pc]
   have:(256:Nat) ^ ((pc l i).drop (j+1)).length<=256 ^ 7:=Nat.pow_le_pow_right (by omega) hlen
   have h2:(((256:Nat) ^ ((pc l i).drop (j+1)).length:Nat):Int)<=((256 ^ 7:Nat):Int):=by omega
   simpa using h2
  have hc0:0<=Yj l i j∧Yj l i j<=255:=hB _ (by rw [←B8 (l:=pc l i)];exact List.mem_of_mem_drop (i:=j) (by rw [B8,hd];simp))
  have hj2:CH .u64 (Ff .u64 (Wg ((pc l i).drop (j+1))) 8) (Yj l i j)=Wg ((pc l i).drop j):=by
   rw [Atr hbn.1 (by omega) hc0.1 hc0.2,hd]
   rfl
  have wc:wrap .u64 (Yj l i j)=Yj l i j:=B5 (by omega) (by omega)
  rw [Oy,RN _ _ _ (by omega)]
  simp only [Hr,hw];by_cases c1:i+j<l.length
  ·have e:Yj l i j=l.getD (i+j) 0:=by unfold Yj;rw [Bl c1]
   have e2:l[i+j]?=some (Yj l i j):=by rw [e,List.getD_eq_getElem?_getD,List.getElem?_eq_getElem c1];rfl
   rw [RN _ _ _ (by omega)]
   simp (disch:=omega) only [B6,Hc,Bj,Qb e2,wc,hj2,wj];exact ih
  ·rw [Dt _ _ _ (by omega)]
   by_cases h7:j=7
   ·subst h7;have e:Yj l i 7=(l.length:Int) % 256:=by unfold Yj;rw [A3 c1,Bl rfl]
    have e8:wrap .u8 (l.length:Int)=Yj l i 7:=by
     rw [e];simp only [wrap,IntKind.signed,IntKind.bits];simp
    rw [Fo,Bl (by omega),e8,wc,hj2,wj]
    exact ih
   ·have e:Yj l i j=0:=by unfold Yj;rw [A3 c1,A3 h7]
    rw [e] at hj2;rw [Fo,A3 (by omega),hj2,wj]
    exact ih
theorem VP {a0 a1:Int}{n:Nat}{c:List PV}{l:List Int}(hb:G9 l)(hl:l.length<=1099511627776)(hfu:100<=fu):∀(k i nn:Nat)(v:W4),i+k=l.length / 8->k+1<nn ->
  Gi fu (Ae C0 Tryz.prog fu (d+2)) a0 a1 n c nn l.length (Ai .u8 l) ((8*i:Nat):Int) v.cells=some ⟨[.sc (.int .u64 (Ajp (Ah7 (V9 (UE k v (l.drop (8*i))) (Qg l)))))],[]⟩
 |_,_,0,_,_,h=>by omega
 |k,i,nn+1,v,hi,hn=>by
  have step:=Afz (fu:=fu) (d:=d) (a0:=a0) (a1:=a1) (n:=n) (m0:=nn) (c:=c) hb hl (i:=8*i) (by omega) v 8 fu (by omega) (by omega)
  have e0:Wg ((pc l (8*i)).drop 8)=0:=by rw [List.drop_of_length_le (by simp [pc])];rfl
  rw [e0] at step;rw [Pb,RN _ _ _ (by omega)]
  refine step.trans ?_;cases k with
  |zero=>
   have e:i=l.length / 8:=by omega
   subst e;rw [Aoz];generalize hv:V9 v (Qg l)=u;obtain ⟨nn',rfl⟩:∃nn',nn=nn'+1:=⟨nn-1,by omega⟩
   have r1:=Rn (fu:=fu) (d:=d) ⟨u.a,u.b,Er .u64 u.c 255,u.d⟩;have r2:=Rn (fu:=fu) (d:=d) (TG ⟨u.a,u.b,Er .u64 u.c 255,u.d⟩);have r3:=Rn (fu:=fu) (d:=d) (TG (TG ⟨u.a,u.b,Er .u64 u.c 255,u.d⟩));have r4:=Rn (fu:=fu) (d:=d) (TG (TG (TG ⟨u.a,u.b,Er .u64 u.c 255,u.d⟩)))
   have eF:Ajp (Ah7 (V9 (UE 0 v (l.drop (8*(l.length / 8)))) (Qg l)))=Ajp (TG (TG (TG (TG ⟨u.a,u.b,Er .u64 u.c 255,u.d⟩)))):=by
    rw [UE,hv];rfl
   rw [eF];clear eF;generalize TG ⟨u.a,u.b,Er .u64 u.c 255,u.d⟩=U1 at r1 r2 r3 r4 ⊢;generalize TG U1=U2 at r2 r3 r4 ⊢;generalize TG U2=U3 at r3 r4 ⊢;generalize TG U3=U4 at r4 ⊢;simp only [W4.cells] at r1 r2 r3 r4;rw [Pb,Dt _ _ _ (by omega)]
   simp only [W4.cells,List.getD_cons_zero,List.getD_cons_succ,XJ,Hr];simp (disch:=first|omega|(simp;done)) only [B6,B7,List.take_succ_cons,List.take_zero,List.drop_succ_cons,B8,List.drop_nil,List.cons_append,Zzq,List.append_nil,Ib,Y4,List.getD_cons_zero,List.getD_cons_succ,r1,r2,r3,r4,Bv,Nat.reduceAdd,Nat.reduceLeDiff,List.append_eq]
   rfl
  |succ k=>
   have ih:=VP (a0:=a0) (a1:=a1) (n:=n) (c:=c) hb hl hfu k (i+1) nn (V9 v (Wg (pc l (8*i)))) (by omega) (by omega)
   rw [show 8*i+8=8*(i+1) by omega,ih,Ao3 (by omega)]
   simp only [UE,List.drop_drop];rw [show 8*(i+1)=8*i+8 by omega]
theorem Ago {l:List Int}(hb:G9 l)(hl:l.length<=1099511627776)(hfu:100<=fu)(hf:l.length<fu)(k0 k1:Int):Ae C0 Tryz.prog fu (d+3) Us [.sc (.int .u64 k0),.sc (.int .u64 k1),.lst false 1 l.length (Ai .u8 l)]=some ⟨[.sc (.int .u64 (Apz k0 k1 l))],[]⟩:=by
 rw [JU];exact VP (fu:=fu) (d:=d) (a0:=k0) (a1:=k1) (n:=l.length) (c:=Ai .u8 l) hb hl hfu (l.length / 8) 0 fu (Arh k0 k1) (by omega) (by omega)
theorem Vq {l:List Int}(hb:G9 l)(hl:l.length<=1099511627776)(hfu:100<=fu)(hf:l.length<fu)(dom:Int):Ae C0 Tryz.prog fu (d+4) Lf [.sc (.int .i64 dom),.lst false 1 l.length (Ai .u8 l)]=some ⟨[.sc (.int .u64 (Em dom l))],[]⟩:=by
 rw [FF];have s:=Ago (fu:=fu) (d:=d) hb hl hfu hf (wrap .u64 dom) 0;simp only [B6,s];rfl
theorem Afq {l:List Int}(hb:G9 l)(hl:l.length<=1099511627776)(hfu:100<=fu)(hf:l.length<fu)(key dom:Int):Ae C0 Tryz.prog fu (d+4) Tt [.sc (.int .u64 key),.sc (.int .i64 dom),.lst false 1 l.length (Ai .u8 l)]=some ⟨[.sc (.int .u64 (Aps key dom l))],[]⟩:=by
 rw [HU];have s:=Ago (fu:=fu) (d:=d) hb hl hfu hf key (wrap .u64 (1+wrap .u64 dom));simp only [B6,s];rfl
end
end
section
open Go.IntKind (wrap)
def Dw (w:Int)(k:Nat):Int:=wrap .u8 (El .u64 w (56-8*(k:Int)))
def Ci (w:Int):List Int:=(List.range' 0 8).map (Dw w)
def A7 (ws:List Int):List Int:=ws.flatMap Ci
theorem C3 (w:Int):(Ci w).length=8:=rfl
section
variable {fu d:Nat} {call:Ar} {n:Nat} {c:List PV}
theorem Aa9 {ws:List Int}{w:Int}{m0 l:Nat}{i k:Int}:∀(r j nn:Nat)(bs:List Int),8-j=r->r<nn->j<=8->bs.length+r<=34359738368 ->
  Kt fu call n c m0 nn bs.length w l (Ai .u64 ws) k i j (Ai .u8 bs) =
   Ii fu call n c m0 (bs++(List.range' j (8-j)).map (Dw w)).length l (Ai .u64 ws) k (wrap .i64 (i+1)) (Ai .u8 (bs++(List.range' j (8-j)).map (Dw w)))
 |r,j,0,bs,_,h,_,_=>by omega
 |0,j,nn+1,bs,hr,_,hj,_=>by
  have e:j=8:=by omega
  subst e;rw [Uk];simp (disch:=omega) only [B6];simp
 |r+1,j,nn+1,bs,hr,hn,hj,hb=>by
  have ih:=Aa9 (ws:=ws) (w:=w) (m0:=m0) (l:=l) (i:=i) (k:=k) r (j+1) nn (bs++[Dw w j]) (by omega) (by omega) (by omega) (by simp;omega)
  have e8:=Aq .u8 bs;rw [Uk]
  have hx:wrap .u8 (El .u64 w (wrap .i64 (56-wrap .i64 (8*(j:Int)))))=Dw w j:=by
   rw [At (x:=8*(j:Int)) (by omega) (by omega),At (by omega) (by omega)]
   rfl
  have h0:0<=wrap .i64 (56-wrap .i64 (8*(j:Int))):=by
   rw [At (x:=8*(j:Int)) (by omega) (by omega),At (by omega) (by omega)]
   omega
  have hrange:List.range' j (8-j)=j::List.range' (j+1) (8-(j+1)):=by
   rw [show 8-j=(8-(j+1))+1 by omega]
   exact List.range'_succ
  simp (disch:=first|omega|exact h0) only [B6,Bj,hx,Gd,Fv,At (x:=(j:Int)+1)];rw [hrange];simp only [H1,Ib,Y4,Bv,Zzv,Zzw,List.singleton_append] at ih ⊢;exact ih
theorem PY {ws:List Int}(hl:ws.length<=1073741824)(hfu:100<=fu):∀(r:List Int)(i nn:Nat)(bs:List Int),ws.drop i=r->r.length<nn->bs.length=8*i ->
  Ii fu call n c nn bs.length ws.length (Ai .u64 ws) ws.length i (Ai .u8 bs)=some ⟨[.own 1 (bs++A7 r).length (Ai .u8 (bs++A7 r))],[]⟩
 |r,i,0,_,_,h,_=>by omega
 |[],i,nn+1,bs,h,_,_=>by
  have:=drop_nil h;have e8:=Aq .u8 bs;rw [Uh];simp (disch:=omega) only [B6,Bj,Gd,A7,List.flatMap_nil,List.append_nil]
 |w::r,i,nn+1,bs,h,hn,hb=>by
  obtain ⟨h1,h2,h3⟩:=Cg h;simp only [Ib] at hn;rw [Uh];simp (disch:=omega) only [B6,Hc,Bj,Qb h2];rw [show (0:Int)=((0:Nat):Int) from rfl,Aa9 8 0 fu bs rfl (by omega) (by omega) (by omega),At (by omega) (by omega)]
  have ih:=PY hl hfu r (i+1) nn (bs++Ci w) h3 (by omega) (by simp [C3];omega)
  have e:bs++Ci w++A7 r=bs++A7 (w::r):=by simp [A7]
  rw [e] at ih;exact ih
theorem Vu {ws:List Int}(hl:ws.length<=1073741824)(hfu:100<=fu)(hf:ws.length<fu):Ae C0 Tryz.prog fu (d+1) Hu [.lst false 1 ws.length (Ai .u64 ws)]=some ⟨[.own 1 (A7 ws).length (Ai .u8 (A7 ws))],[]⟩:=by
 rw [SM];simp (disch:=omega) only [B6,At,Int.mul_one];exact PY hl hfu ws 0 fu [] rfl hf rfl
theorem XA {ws:List Int}{w:Int}{m0 i:Nat}(hw:ws[i]?=some w):∀(r nn:Nat)(j:Int)(bs:List Int),j=(r:Int)-1->r<=8->r<nn->bs.length+r<=34359738368 ->
  G1 fu call n c m0 nn ws.length (Ai .u64 ws) bs.length i j (Ai .u8 bs) =
   Fu fu call n c m0 ws.length (Ai .u64 ws) (bs++(List.range' (8-r) r).map (Dw w)).length (wrap .i64 (i+1)) (Ai .u8 (bs++(List.range' (8-r) r).map (Dw w)))
 |r,0,j,bs,_,_,h,_=>by omega
 |0,nn+1,j,bs,hr,_,_,_=>by
  rw [Mo];simp (disch:=omega) only [B6];simp
 |r+1,nn+1,j,bs,hr,hle,hn,hb=>by
  have hi:=Ame hw;have ih:=XA (m0:=m0) hw r nn (j-1) (bs++[Dw w (8-(r+1))]) (by omega) (by omega) (by omega) (by simp;omega)
  have e8:=Aq .u8 bs
  have hx:wrap .u8 (El .u64 w (wrap .u64 (wrap .i64 (8*j))))=Dw w (8-(r+1)):=by
   rw [At (by omega) (by omega),B5 (by omega) (by omega)]
   unfold Dw;rw [show 56-8*((8-(r+1):Nat):Int)=8*j by omega]
  have h0:0<=wrap .u64 (wrap .i64 (8*j)):=by
   rw [At (by omega) (by omega),B5 (by omega) (by omega)]
   omega
  have hrange:List.range' (8-(r+1)) (r+1)=(8-(r+1))::List.range' (8-r) r:=by
   rw [List.range'_succ,show 8-(r+1)+1=8-r by omega]
  rw [Mo];simp (disch:=first|omega|exact h0) only [B6,Hc,Bj,Qb hw,hx,Gd,Fv,At (x:=j-1)];rw [hrange];simp only [H1,Ib,Y4,Bv,Zzv,Zzw,List.singleton_append] at ih ⊢;exact ih
theorem NF {ws:List Int}(hl:ws.length<=1073741824)(hfu:100<=fu):∀(r:List Int)(i nn:Nat)(bs:List Int),ws.drop i=r->r.length<nn->bs.length=8*i ->
  Fu fu call n c nn ws.length (Ai .u64 ws) bs.length i (Ai .u8 bs)=some ⟨[.own 1 (bs++A7 r).length (Ai .u8 (bs++A7 r))],[]⟩
 |r,i,0,_,_,h,_=>by omega
 |[],i,nn+1,bs,h,_,_=>by
  have:=drop_nil h;have e8:=Aq .u8 bs;rw [Ms];simp (disch:=omega) only [B6,Bj,Gd,A7,List.flatMap_nil,List.append_nil]
 |w::r,i,nn+1,bs,h,hn,hb=>by
  obtain ⟨h1,h2,h3⟩:=Cg h;simp only [Ib] at hn;rw [Ms];simp (disch:=omega) only [B6];rw [XA h2 8 fu 7 bs rfl (by omega) (by omega) (by omega),At (by omega) (by omega)]
  have ih:=NF hl hfu r (i+1) nn (bs++Ci w) h3 (by omega) (by simp [C3];omega)
  have e:bs++Ci w++A7 r=bs++A7 (w::r):=by simp [A7]
  rw [e] at ih;exact ih
theorem Lr {ws:List Int}(hl:ws.length<=1073741824)(hfu:100<=fu)(hf:ws.length<fu):Ae C0 Tryz.prog fu (d+1) Ea [.lst false 1 ws.length (Ai .u64 ws)]=some ⟨[.own 1 (A7 ws).length (Ai .u8 (A7 ws))],[]⟩:=by
 rw [DF];exact NF hl hfu ws 0 fu [] rfl hf rfl
end
abbrev Fc (a b:Int):Int:=CH .u64 (Ff .u64 a 8) (wrap .u64 b)
def CK (bs:List Int):Int:=bs.foldl Fc 0
theorem Aqn {q:Int}(h0:0<=q)(h1:q<=18446744073709551615):Fc (q / 256) (wrap .u8 q)=q:=by
 have e1:Ff .u64 (q / 256) 8=q / 256*256:=by
  unfold Ff;have:((8:Int).toNat.min IntKind.u64.bits)=8:=by decide
  show wrap .u64 (q / 256*2 ^ (min (8:Int).toNat IntKind.u64.bits))=_;have h2:(2:Int) ^ (min (8:Int).toNat IntKind.u64.bits)=256:=by decide
  rw [h2,B5 (by omega) (by omega)]
 have e2:wrap .u8 q=q % 256:=by
  simp only [wrap,IntKind.signed,IntKind.bits];simp
 have e3:wrap .u64 (q % 256)=q % 256:=B5 (by omega) (by omega)
 unfold Fc;rw [e1,e2,e3];obtain ⟨n,rfl⟩:=Int.eq_ofNat_of_zero_le h0;have hn:n<18446744073709551616:=by omega
 have e4:(BitVec.ofInt 64 ((n:Int) / 256*256)).toNat=n / 256*256:=by
  rw [BitVec.toNat_ofInt];omega
 have e5:(BitVec.ofInt 64 ((n:Int) % 256)).toNat=n % 256:=by
  rw [BitVec.toNat_ofInt];omega
 have e6:n / 256*256 ||| n % 256=n:=by
  have:=Nat.shiftLeft_add_eq_or_of_lt (show n % 256<2 ^ 8 by omega) (n / 256)
  rw [Nat.shiftLeft_eq] at this;rw [←this];omega
 unfold CH;show wrap .u64 ((BitVec.ofInt 64 ((n:Int) / 256*256) ||| BitVec.ofInt 64 ((n:Int) % 256)).toNat:Int)=n;rw [BitVec.toNat_or,e4,e5,e6,B5 (by omega) (by omega)]
theorem WA {w:Int}(k:Nat)(hk:k<8):Dw w k=wrap .u8 (w / 2 ^ (56-8*k)):=by
 unfold Dw El;have e:(56-8*(k:Int)).toNat=56-8*k:=by omega
 rw [e,Nat.min_eq_left (by show 56-8*k<=64;omega),Int.fdiv_eq_ediv_of_nonneg _ (Int.le_of_lt (Int.pow_pos (by omega)))]
theorem CD {w:Int}(h0:0<=w)(h1:w<=18446744073709551615):CK (Ci w)=w:=by
 have st:∀(k:Nat) (D:Int),k<8->(2:Int) ^ (56-8*k)=D->0<D->Fc (w / D / 256) (Dw w k)=w / D:=by
  intro k D hk hD hp;rw [WA k hk,hD];exact Aqn (Int.ediv_nonneg h0 (Int.le_of_lt hp)) (Int.le_trans (Int.ediv_le_self _ h0) h1)
 have s0:=st 0 72057594037927936 (by omega) (by decide) (by omega)
 have s1:=st 1 281474976710656 (by omega) (by decide) (by omega)
 have s2:=st 2 1099511627776 (by omega) (by decide) (by omega)
 have s3:=st 3 4294967296 (by omega) (by decide) (by omega)
 have s4:=st 4 16777216 (by omega) (by decide) (by omega)
 have s5:=st 5 65536 (by omega) (by decide) (by omega)
 have s6:=st 6 256 (by omega) (by decide) (by omega)
 have s7:=st 7 1 (by omega) (by decide) (by omega)
 rw [show w / 72057594037927936 / 256=0 by omega] at s0
 rw [show w / 281474976710656 / 256=w / 72057594037927936 by omega] at s1
 rw [show w / 1099511627776 / 256=w / 281474976710656 by omega] at s2
 rw [show w / 4294967296 / 256=w / 1099511627776 by omega] at s3
 rw [show w / 16777216 / 256=w / 4294967296 by omega] at s4
 rw [show w / 65536 / 256=w / 16777216 by omega] at s5
 rw [show w / 256 / 256=w / 65536 by omega] at s6
 rw [show w / 1 / 256=w / 256 by omega,show w / 1=w by omega] at s7
 show Fc (Fc (Fc (Fc (Fc (Fc (Fc (Fc 0 (Dw w 0)) (Dw w 1)) (Dw w 2)) (Dw w 3)) (Dw w 4)) (Dw w 5)) (Dw w 6)) (Dw w 7)=w;rw [s0,s1,s2,s3,s4,s5,s6,s7]
end
section
open Go.IntKind (wrap)
set_option maxRecDepth 100000
abbrev Wd:FuncId:=104
noncomputable def G2 (fu:Nat)(call:Ar)(a0:Int)(nn:Nat)(y0 y1 y2:Int)(y3 y4:List PV):Option A0:=Cz C0 Tryz.prog fu call 104 Tryz.f104 (B9 Tryz.f104) [.sc (.int .u64 a0)] [.r,.r,.r,.l,.r,.l] nn ⟨lk [(0,(.sc (.int .u64 y0))),(2,(.ptr 2 0)),(3,(.ptr 3 0)),(4,(.sc (.int .i64 y1))),(6,(.sc (.int .i64 y2)))],Gl [(2,(.ar false y3)),(3,(.ar false y4))]⟩
noncomputable def Um (fu:Nat)(call:Ar)(a0:Int)(nn:Nat)(y0 y1:List PV):Option A0:=Cz C0 Tryz.prog fu call 104 Tryz.f104 (B9 Tryz.f104) [.sc (.int .u64 a0)] [.r,.r,.r,.r,.r] nn ⟨lk [(2,(.ptr 2 0)),(3,(.ptr 3 0))],Gl [(2,(.ar false y0)),(3,(.ar false y1))]⟩
noncomputable def Ut (fu:Nat)(call:Ar)(a0:Int)(nn:Nat)(y0:List PV):Option A0:=Cz C0 Tryz.prog fu call 104 Tryz.f104 (B9 Tryz.f104) [.sc (.int .u64 a0)] [.r,.r,.r,.r,.r,.r] nn ⟨lk [(2,(.ptr 2 0))],Gl [(2,(.ar false y0))]⟩
theorem Qa (fu:Nat)(call:Ar)(a0:Int)(nn:Nat)(y0 y1 y2:Int)(y3 y4:List PV):G2 fu call a0 (nn+1) y0 y1 y2 y3 y4=(A4 (decide (y2<16)) (Aa (wrap .i64 (4*y2)) fun x1=>Aa (wrap .i64 (60-x1)) fun x2=>Ay (decide (0<=x2))<|Aa (El .u64 y0 x2) fun x3=>Aa (Ed .u64 x3 15) fun x4=>Aa (wrap .i64 x4) fun x5=>Ay (decide (0<=y2)&&decide (y2<18))<|Ay (decide (0+Int.toNat y2*1+1<=y4.length))<|Aa (B7 y4 [.sc (.int .i64 x5)] (0+Int.toNat y2*1)) fun x6=>Ay (decide (0<=y2)&&decide (y2<18))<|Af .i64 (List.getD x6 (0+Int.toNat y2*1) .top) fun x7=>Aa (wrap .i64 (15-x7)) fun x8=>Aa (wrap .i64 (y1+x8)) fun x9=>Aa (wrap .i64 (y2+1)) fun Ck=>G2 fu call a0 (nn) (y0) x9 Ck (y3) x6) (Aa (wrap .i64 (Int.tdiv y1 16)) fun Bn=>Ay (decide (17<=y4.length))<|Aa (B7 y4 [.sc (.int .i64 Bn)] 16) fun Cw=>Aa (Int.tmod y1 16) fun Da=>Ay (decide (18<=Cw.length))<|Aa (B7 Cw [.sc (.int .i64 Da)] 17) fun Cq=>Um fu call a0 (fu) (y3) Cq)):=by kernel_rfl
theorem CX (fu:Nat)(call:Ar)(a0:Int)(nn:Nat)(hnn:0<nn)(y0 y1:List PV):Um fu call a0 nn y0 y1=(Af .i64 (List.getD y1 0 .top) fun Cy=>Af .i64 (List.getD y1 1 .top) fun Db=>Af .i64 (List.getD y1 2 .top) fun Dq=>Af .i64 (List.getD y1 3 .top) fun D2=>Af .i64 (List.getD y1 4 .top) fun D0=>Af .i64 (List.getD y1 5 .top) fun D9=>Af .i64 (List.getD y1 6 .top) fun Fj=>Af .i64 (List.getD y1 7 .top) fun Cn=>Af .i64 (List.getD y1 8 .top) fun Fn=>Af .i64 (List.getD y1 9 .top) fun Dj=>Af .i64 (List.getD y1 10 .top) fun B3=>Af .i64 (List.getD y1 11 .top) fun Et=>Af .i64 (List.getD y1 12 .top) fun F1=>Af .i64 (List.getD y1 13 .top) fun Bm=>Af .i64 (List.getD y1 14 .top) fun Cj=>Af .i64 (List.getD y1 15 .top) fun Gt=>Af .i64 (List.getD y1 16 .top) fun Gu=>Af .i64 (List.getD y1 17 .top) fun Hz=>Ay (decide (18<=y0.length))<|Aa (B7 y0 [.sc (.int .i64 Cy),.sc (.int .i64 Db),.sc (.int .i64 Dq),.sc (.int .i64 D2),.sc (.int .i64 D0),.sc (.int .i64 D9),.sc (.int .i64 Fj),.sc (.int .i64 Cn),.sc (.int .i64 Fn),.sc (.int .i64 Dj),.sc (.int .i64 B3),.sc (.int .i64 Et),.sc (.int .i64 F1),.sc (.int .i64 Bm),.sc (.int .i64 Cj),.sc (.int .i64 Gt),.sc (.int .i64 Gu),.sc (.int .i64 Hz)] 0) fun Ha=>Ut fu call a0 (fu) Ha):=by cases nn with|zero=>exact absurd hnn (Nat.lt_irrefl 0)|succ nn=>kernel_rfl
theorem DM (fu:Nat)(call:Ar)(a0:Int)(nn:Nat)(hnn:0<nn)(y0:List PV):Ut fu call a0 nn y0=(Af .i64 (List.getD y0 0 .top) fun Il=>Af .i64 (List.getD y0 1 .top) fun G4=>Af .i64 (List.getD y0 2 .top) fun Ir=>Af .i64 (List.getD y0 3 .top) fun Kr=>Af .i64 (List.getD y0 4 .top) fun F0=>Af .i64 (List.getD y0 5 .top) fun H2=>Af .i64 (List.getD y0 6 .top) fun Nc=>Af .i64 (List.getD y0 7 .top) fun Ot=>Af .i64 (List.getD y0 8 .top) fun Kc=>Af .i64 (List.getD y0 9 .top) fun J5=>Af .i64 (List.getD y0 10 .top) fun Nk=>Af .i64 (List.getD y0 11 .top) fun Md=>Af .i64 (List.getD y0 12 .top) fun Oo=>Af .i64 (List.getD y0 13 .top) fun Py=>Af .i64 (List.getD y0 14 .top) fun Pw=>Af .i64 (List.getD y0 15 .top) fun Ox=>Af .i64 (List.getD y0 16 .top) fun Rb=>Af .i64 (List.getD y0 17 .top) fun Q5=>some (A0.mk [.agg [.sc (.int .i64 Il),.sc (.int .i64 G4),.sc (.int .i64 Ir),.sc (.int .i64 Kr),.sc (.int .i64 F0),.sc (.int .i64 H2),.sc (.int .i64 Nc),.sc (.int .i64 Ot),.sc (.int .i64 Kc),.sc (.int .i64 J5),.sc (.int .i64 Nk),.sc (.int .i64 Md),.sc (.int .i64 Oo),.sc (.int .i64 Py),.sc (.int .i64 Pw),.sc (.int .i64 Ox),.sc (.int .i64 Rb),.sc (.int .i64 Q5)]] [])):=by cases nn with|zero=>exact absurd hnn (Nat.lt_irrefl 0)|succ nn=>kernel_rfl
theorem KR (fu d:Nat)(a0:Int):Ae C0 Tryz.prog fu (d+1) Wd [.sc (.int .u64 a0)]=(fun (call:Ar)=>G2 fu call a0 (fu) (a0) 0 0 ([.sc (.int .i64 0),.sc (.int .i64 0),.sc (.int .i64 0),.sc (.int .i64 0),.sc (.int .i64 0),.sc (.int .i64 0),.sc (.int .i64 0),.sc (.int .i64 0),.sc (.int .i64 0),.sc (.int .i64 0),.sc (.int .i64 0),.sc (.int .i64 0),.sc (.int .i64 0),.sc (.int .i64 0),.sc (.int .i64 0),.sc (.int .i64 0),.sc (.int .i64 0),.sc (.int .i64 0)]) ([.sc (.int .i64 0),.sc (.int .i64 0),.sc (.int .i64 0),.sc (.int .i64 0),.sc (.int .i64 0),.sc (.int .i64 0),.sc (.int .i64 0),.sc (.int .i64 0),.sc (.int .i64 0),.sc (.int .i64 0),.sc (.int .i64 0),.sc (.int .i64 0),.sc (.int .i64 0),.sc (.int .i64 0),.sc (.int .i64 0),.sc (.int .i64 0),.sc (.int .i64 0),.sc (.int .i64 0)])) (Ae C0 Tryz.prog fu d):=by kernel_rfl
abbrev DX:FuncId:=105
noncomputable def Mv (fu:Nat)(call:Ar)(a0 a1:Int)(a2 a3 a4:Int)(nn:Nat)(y0 y1:Int)(y2 y3 y4:Int):Option A0:=Cz C0 Tryz.prog fu call 105 Tryz.f105 (B9 Tryz.f105) [.sc (.int .i64 a0),.sc (.int .i64 a1),.sc (.int .i64 a2),.sc (.int .i64 a3),.sc (.int .u64 a4)] [.r,.r,.l,.r,.l] nn ⟨lk [(0,(.sc (.int .i64 y0))),(1,(.sc (.int .i64 y1))),(4,(.sc (.int .u64 y2))),(11,(.sc (.int .i64 y3))),(12,(.sc (.int .i64 y4)))],Gl []⟩
theorem We (fu:Nat)(call:Ar)(a0 a1:Int)(a2 a3 a4:Int)(nn:Nat)(y0 y1:Int)(y2 y3 y4:Int):Mv fu call a0 a1 a2 a3 a4 (nn+1) y0 y1 y2 y3 y4=(A4 (decide (y4<y3)) (Aa (wrap .u64 y0) fun x3=>Aa (wrap .u64 y1) fun x4=>Aa (wrap .u64 y4) fun x5=>Aj (call 108 [.lst false 1 4 [.sc (.int .u64 x3),.sc (.int .u64 x4),.sc (.int .u64 x5),.sc (.int .u64 y2)]]) fun x6 x7=>Ac x7<|Ab x6 fun x8 x9=>Dc 1 x8 fun Ck Bn=>Ac x9<|Ay (decide (0+Ck*1<=Bn.length))<|Aj (call 107 [.sc (.int .i64 1),.lst false 1 Ck (List.take (Ck*1) (List.drop 0 Bn))]) fun Cw Da=>Ac Da<|Ab Cw fun Cq Cy=>Af .u64 Cq fun Db=>Ac Cy<|Aa (wrap .i64 (y4+1)) fun Dq=>Mv fu call a0 a1 a2 a3 a4 (nn) (y0) (y1) Db (y3) Dq) (some (A0.mk [.sc (.int .u64 y2)] []))):=by kernel_rfl
theorem UF (fu d:Nat)(a0 a1:Int)(a2 a3 a4:Int):Ae C0 Tryz.prog fu (d+1) DX [.sc (.int .i64 a0),.sc (.int .i64 a1),.sc (.int .i64 a2),.sc (.int .i64 a3),.sc (.int .u64 a4)]=(fun (call:Ar)=>Aa (if 15<a3 then 15 else a3) fun x1=>Aa (if a2<0 then 0 else a2) fun x2=>Mv fu call a0 a1 a2 a3 a4 (fu) (a0) (a1) (a4) x1 x2) (Ae C0 Tryz.prog fu d):=by kernel_rfl
abbrev Tz:FuncId:=106
theorem JB (fu d:Nat)(a0 a1_0:Int)(a1_1 a1_2:Int)(a1_3 a1_4:Int)(a1_5 a1_6:Int)(a1_7 Atk:Int)(At6 Ap7:Int)(Aql Aqd:Int)(Aqe Ap6:Int)(Aqs Aqg Aqa:Int):Ae C0 Tryz.prog fu (d+1) Tz [.sc (.int .i64 a0),.agg [.sc (.int .u64 a1_0),.sc (.int .u64 a1_1),.sc (.int .u64 a1_2),.sc (.int .u64 a1_3),.sc (.int .u64 a1_4),.sc (.int .u64 a1_5),.sc (.int .u64 a1_6),.sc (.int .u64 a1_7),.sc (.int .u64 Atk),.sc (.int .u64 At6),.sc (.int .u64 Ap7),.sc (.int .u64 Aql),.sc (.int .u64 Aqd),.sc (.int .u64 Aqe),.sc (.int .u64 Ap6),.sc (.int .u64 Aqs),.sc (.int .u64 Aqg),.sc (.int .u64 Aqa)]]=(fun (call:Ar)=>Aa (wrap .u64 a0) fun x1=>Aj (call 108 [.lst false 1 19 [.sc (.int .u64 x1),.sc (.int .u64 a1_0),.sc (.int .u64 a1_1),.sc (.int .u64 a1_2),.sc (.int .u64 a1_3),.sc (.int .u64 a1_4),.sc (.int .u64 a1_5),.sc (.int .u64 a1_6),.sc (.int .u64 a1_7),.sc (.int .u64 Atk),.sc (.int .u64 At6),.sc (.int .u64 Ap7),.sc (.int .u64 Aql),.sc (.int .u64 Aqd),.sc (.int .u64 Aqe),.sc (.int .u64 Ap6),.sc (.int .u64 Aqs),.sc (.int .u64 Aqg),.sc (.int .u64 Aqa)]]) fun x2 x3=>Ac x3<|Ab x2 fun x4 x5=>Dc 1 x4 fun x6 x7=>Ac x5<|Ay (decide (0+x6*1<=x7.length))<|Aj (call 107 [.sc (.int .i64 2),.lst false 1 x6 (List.take (x6*1) (List.drop 0 x7))]) fun x8 x9=>Ac x9<|Ab x8 fun Ck Bn=>Af .u64 Ck fun Cw=>Ac Bn<|some (A0.mk [.sc (.int .u64 Cw)] [])) (Ae C0 Tryz.prog fu d):=by kernel_rfl
abbrev Tx:FuncId:=84
noncomputable def Fk (fu:Nat)(call:Ar)(a0 a1:Int)(a2n:Nat)(a2:List PV)(nn:Nat)(y0:Int)(y1:Nat)(y2:List PV)(y3 y4:Int)(y5 y6:Int)(y7 y8:Int)(y9 y10:Int)(Ej E5:Int)(Ic J1:Int)(I1 I2:Int)(Jk Ov:Int)(P4 Ty Oa:Int)(Tq:List PV):Option A0:=Cz C0 Tryz.prog fu call 84 Tryz.f84 (B9 Tryz.f84) [.sc (.int .i64 a0),.sc (.int .u64 a1),.lst false 1 a2n a2] [.r,.r,.r,.l,.r,.l] nn ⟨lk [(0,(.sc (.int .i64 y0))),(2,(.lst false 1 y1 y2)),(8,(.ptr 8 0)),(15,(.agg [(.sc (.int .i64 y3)),(.sc (.int .i64 y4)),(.sc (.int .i64 y5)),(.sc (.int .i64 y6)),(.sc (.int .i64 y7)),(.sc (.int .i64 y8)),(.sc (.int .i64 y9)),(.sc (.int .i64 y10)),(.sc (.int .i64 Ej)),(.sc (.int .i64 E5)),(.sc (.int .i64 Ic)),(.sc (.int .i64 J1)),(.sc (.int .i64 I1)),(.sc (.int .i64 I2)),(.sc (.int .i64 Jk)),(.sc (.int .i64 Ov)),(.sc (.int .i64 P4)),(.sc (.int .i64 Ty))])),(16,(.sc (.int .i64 Oa)))],Gl [(8,(.ar false Tq))]⟩
noncomputable def R8 (fu:Nat)(call:Ar)(a0 a1:Int)(a2n:Nat)(a2:List PV)(nn:Nat)(y0:Int)(y1:List PV):Option A0:=Cz C0 Tryz.prog fu call 84 Tryz.f84 (B9 Tryz.f84) [.sc (.int .i64 a0),.sc (.int .u64 a1),.lst false 1 a2n a2] [.r,.r,.r] nn ⟨lk [(0,(.sc (.int .i64 y0))),(8,(.ptr 8 0))],Gl [(8,(.ar false y1))]⟩
noncomputable def Se (fu:Nat)(call:Ar)(a0 a1:Int)(a2n:Nat)(a2:List PV)(nn:Nat)(y0 y1:Int):Option A0:=Cz C0 Tryz.prog fu call 84 Tryz.f84 (B9 Tryz.f84) [.sc (.int .i64 a0),.sc (.int .u64 a1),.lst false 1 a2n a2] [.r,.r,.r,.r] nn ⟨lk [(6,(.sc (.int .u64 y0))),(7,(.sc (.int .i64 y1)))],Gl []⟩
theorem Pa (fu:Nat)(call:Ar)(a0 a1:Int)(a2n:Nat)(a2:List PV)(nn:Nat)(y0:Int)(y1:Nat)(y2:List PV)(y3 y4:Int)(y5 y6:Int)(y7 y8:Int)(y9 y10:Int)(Ej E5:Int)(Ic J1:Int)(I1 I2:Int)(Jk Ov:Int)(P4 Ty Oa:Int)(Tq:List PV):Fk fu call a0 a1 a2n a2 (nn+1) y0 y1 y2 y3 y4 y5 y6 y7 y8 y9 y10 Ej E5 Ic J1 I1 I2 Jk Ov P4 Ty Oa Tq=(A4 (decide (Oa<18)) (Ay (decide (0<=Oa)&&decide (Oa<18)&&true)<|Af .i64 (List.getD [.sc (.int .i64 y3),.sc (.int .i64 y4),.sc (.int .i64 y5),.sc (.int .i64 y6),.sc (.int .i64 y7),.sc (.int .i64 y8),.sc (.int .i64 y9),.sc (.int .i64 y10),.sc (.int .i64 Ej),.sc (.int .i64 E5),.sc (.int .i64 Ic),.sc (.int .i64 J1),.sc (.int .i64 I1),.sc (.int .i64 I2),.sc (.int .i64 Jk),.sc (.int .i64 Ov),.sc (.int .i64 P4),.sc (.int .i64 Ty)] (Int.toNat Oa*1) .top) fun Rk=>Ay (decide (0<=Oa)&&decide (Oa<(↑y1:Int)))<|Af .u64 (List.getD y2 (Int.toNat Oa*1) .top) fun Pr=>Aj (call 105 [.sc (.int .i64 y0),.sc (.int .i64 Oa),.sc (.int .i64 Rk),.sc (.int .i64 15),.sc (.int .u64 Pr)]) fun Te Uv=>Ac Uv<|Ab Te fun S7 Rz=>Af .u64 S7 fun Ro=>Ac Rz<|Ay (decide (0<=Oa)&&decide (Oa<18))<|Ay (decide (0+Int.toNat Oa*1+1<=Tq.length))<|Aa (B7 Tq [.sc (.int .u64 Ro)] (0+Int.toNat Oa*1)) fun Q7=>Aa (wrap .i64 (Oa+1)) fun Vv=>Fk fu call a0 a1 a2n a2 (nn) (y0) (y1) (y2) (y3) (y4) (y5) (y6) (y7) (y8) (y9) (y10) (Ej) (E5) (Ic) (J1) (I1) (I2) (Jk) (Ov) (P4) (Ty) Vv Q7) (R8 fu call a0 a1 a2n a2 (fu) (y0) (Tq))):=by kernel_rfl
theorem Zy (fu:Nat)(call:Ar)(a0 a1:Int)(a2n:Nat)(a2:List PV)(nn:Nat)(hnn:0<nn)(y0:Int)(y1:List PV):R8 fu call a0 a1 a2n a2 nn y0 y1=(Af .u64 (List.getD y1 0 .top) fun Tn=>Af .u64 (List.getD y1 1 .top) fun S5=>Af .u64 (List.getD y1 2 .top) fun Tj=>Af .u64 (List.getD y1 3 .top) fun Uz=>Af .u64 (List.getD y1 4 .top) fun Tm=>Af .u64 (List.getD y1 5 .top) fun S8=>Af .u64 (List.getD y1 6 .top) fun Rr=>Af .u64 (List.getD y1 7 .top) fun Vg=>Af .u64 (List.getD y1 8 .top) fun T0=>Af .u64 (List.getD y1 9 .top) fun Vl=>Af .u64 (List.getD y1 10 .top) fun W8=>Af .u64 (List.getD y1 11 .top) fun Wv=>Af .u64 (List.getD y1 12 .top) fun Yq=>Af .u64 (List.getD y1 13 .top) fun Wu=>Af .u64 (List.getD y1 14 .top) fun X5=>Af .u64 (List.getD y1 15 .top) fun Xq=>Af .u64 (List.getD y1 16 .top) fun Y5=>Af .u64 (List.getD y1 17 .top) fun Z3=>Aj (call 106 [.sc (.int .i64 y0),.agg [.sc (.int .u64 Tn),.sc (.int .u64 S5),.sc (.int .u64 Tj),.sc (.int .u64 Uz),.sc (.int .u64 Tm),.sc (.int .u64 S8),.sc (.int .u64 Rr),.sc (.int .u64 Vg),.sc (.int .u64 T0),.sc (.int .u64 Vl),.sc (.int .u64 W8),.sc (.int .u64 Wv),.sc (.int .u64 Yq),.sc (.int .u64 Wu),.sc (.int .u64 X5),.sc (.int .u64 Xq),.sc (.int .u64 Y5),.sc (.int .u64 Z3)]]) fun AL Re=>Ac Re<|Ab AL fun S6 Uc=>Af .u64 S6 fun GO=>Ac Uc<|Se fu call a0 a1 a2n a2 (fu) GO 0):=by cases nn with|zero=>exact absurd hnn (Nat.lt_irrefl 0)|succ nn=>kernel_rfl
theorem Y7 (fu:Nat)(call:Ar)(a0 a1:Int)(a2n:Nat)(a2:List PV)(nn:Nat)(hnn:0<nn)(y0 y1:Int):Se fu call a0 a1 a2n a2 nn y0 y1=(some (A0.mk [.sc (.int .u64 y0),.sc (.int .i64 y1)] [])):=by cases nn with|zero=>exact absurd hnn (Nat.lt_irrefl 0)|succ nn=>kernel_rfl
theorem HV (fu d:Nat)(a0 a1:Int)(a2n:Nat)(a2:List PV):Ae C0 Tryz.prog fu (d+1) Tx [.sc (.int .i64 a0),.sc (.int .u64 a1),.lst false 1 a2n a2]=(fun (call:Ar)=>A4 ((↑a2n:Int) != 18) (some (A0.mk [.sc (.int .u64 0),.sc (.int .i64 4)] [])) (Aj (call 104 [.sc (.int .u64 a1)]) fun x1 x2=>Ac x2<|Ab x1 fun x3 x4=>C2 x3 fun x5=>Ab x5 fun x6 x7=>Af .i64 x6 fun x8=>Ab x7 fun x9 Ck=>Af .i64 x9 fun Bn=>Ab Ck fun Cw Da=>Af .i64 Cw fun Cq=>Ab Da fun Cy Db=>Af .i64 Cy fun Dq=>Ab Db fun D2 D0=>Af .i64 D2 fun D9=>Ab D0 fun Fj Cn=>Af .i64 Fj fun Fn=>Ab Cn fun Dj B3=>Af .i64 Dj fun Et=>Ab B3 fun F1 Bm=>Af .i64 F1 fun Cj=>Ab Bm fun Gt Gu=>Af .i64 Gt fun Hz=>Ab Gu fun Ha Il=>Af .i64 Ha fun G4=>Ab Il fun Ir Kr=>Af .i64 Ir fun F0=>Ab Kr fun H2 Nc=>Af .i64 H2 fun Ot=>Ab Nc fun Kc J5=>Af .i64 Kc fun Nk=>Ab J5 fun Md Oo=>Af .i64 Md fun Py=>Ab Oo fun Pw Ox=>Af .i64 Pw fun Rb=>Ab Ox fun Q5 Q0=>Af .i64 Q5 fun Ks=>Ab Q0 fun S9 Ql=>Af .i64 S9 fun Ru=>Ab Ql fun Nz Pz=>Af .i64 Nz fun Q9=>Ac Pz<|Ac x4<|Fk fu call a0 a1 a2n a2 (fu) (a0) (a2n) (a2) x8 Bn Cq Dq D9 Fn Et Cj Hz G4 F0 Ot Nk Py Rb Ks Ru Q9 0 ([.sc (.int .u64 0),.sc (.int .u64 0),.sc (.int .u64 0),.sc (.int .u64 0),.sc (.int .u64 0),.sc (.int .u64 0),.sc (.int .u64 0),.sc (.int .u64 0),.sc (.int .u64 0),.sc (.int .u64 0),.sc (.int .u64 0),.sc (.int .u64 0),.sc (.int .u64 0),.sc (.int .u64 0),.sc (.int .u64 0),.sc (.int .u64 0),.sc (.int .u64 0),.sc (.int .u64 0)]))) (Ae C0 Tryz.prog fu d):=by kernel_rfl
abbrev Z1:FuncId:=81
theorem SQ (fu d:Nat)(a0:Int):Ae C0 Tryz.prog fu (d+1) Z1 [.sc (.int .i64 a0)]=(fun (call:Ar)=>A4 (decide (a0<0)) (some (A0.mk [.sc (.bool true)] [])) (some (A0.mk [.sc (.bool (decide (a0>4)))] []))) (Ae C0 Tryz.prog fu d):=by kernel_rfl
abbrev Un:FuncId:=82
theorem JQ (fu d:Nat)(a0 a1:Int):Ae C0 Tryz.prog fu (d+1) Un [.sc (.int .i64 a0),.sc (.int .i64 a1)]=(fun (call:Ar)=>A4 (decide (a0<0)) (some (A0.mk [.sc (.bool true)] [])) (Ay (decide (0<=a1))<|Aa (Ff .i64 1 a1) fun x1=>some (A0.mk [.sc (.bool (decide (a0>=x1)))] []))) (Ae C0 Tryz.prog fu d):=by kernel_rfl
abbrev X6:FuncId:=83
noncomputable def H0 (fu:Nat)(call:Ar)(a0n:Nat)(a0:List PV)(nn y0:Nat)(y1:List PV)(y2:Nat)(y3 y4:Int)(y5:List PV):Option A0:=Cz C0 Tryz.prog fu call 83 Tryz.f83 (B9 Tryz.f83) [.lst false 1 a0n a0] [.r,.r,.l,.r,.l] nn ⟨lk [(0,(.lst false 1 y0 y1)),(3,(.view 3 1 0 y2)),(12,(.sc (.int .i64 y3))),(13,(.sc (.int .i64 y4)))],Gl [(3,(.ar false y5))]⟩
noncomputable def Js (fu:Nat)(call:Ar)(a0n:Nat)(a0:List PV)(m0 nn y0:Nat)(y1:List PV)(y2:Nat)(y3 y4 y5:Int)(y6:Nat)(y7:List PV)(y8 y9:Int)(y10:List PV):Option A0:=Cz C0 Tryz.prog fu call 83 Tryz.f83 (B9 Tryz.f83) [.lst false 1 a0n a0] [.r,.r,.l,.r,.l,.i m0,.r,.r,.l,.l,.r,.r,.l] nn ⟨lk [(0,(.lst false 1 y0 y1)),(3,(.view 3 1 0 y2)),(4,(.sc (.int .i64 y3))),(12,(.sc (.int .i64 y4))),(13,(.sc (.int .i64 y5))),(22,(.lst false 1 y6 y7)),(23,(.sc (.int .i64 y8))),(24,(.sc (.int .i64 y9)))],Gl [(3,(.ar false y10))]⟩
theorem Sy (fu:Nat)(call:Ar)(a0n:Nat)(a0:List PV)(nn y0:Nat)(y1:List PV)(y2:Nat)(y3 y4:Int)(y5:List PV):H0 fu call a0n a0 (nn+1) y0 y1 y2 y3 y4 y5=(A4 (decide (y4<y3)) (Aa (wrap .i64 (8*y4)) fun x2=>Aa (wrap .i64 (8*y4)) fun x3=>Aa (wrap .i64 (x3+8)) fun x4=>Ay (decide (0<=x2))<|Ay (decide (0<=x4))<|Ay (decide (Int.toNat x2<=Int.toNat x4)&&decide (Int.toNat x4<=y0))<|Aa (Int.toNat x4-Int.toNat x2) fun x5=>Aa (List.take (x5*1) (List.drop (Int.toNat x2*1) y1)) fun x6=>Js fu call a0n a0 nn (fu) (y0) (y1) (y2) (y4) (y3) (y4) x5 x6 ((↑x5:Int)) 0 (y5)) (Ay (decide (y2*1<=y5.length))<|some (A0.mk [.own 1 y2 (List.take (y2*1) y5)] []))):=by kernel_rfl
theorem R4 (fu:Nat)(call:Ar)(a0n:Nat)(a0:List PV)(m0 nn y0:Nat)(y1:List PV)(y2:Nat)(y3 y4 y5:Int)(y6:Nat)(y7:List PV)(y8 y9:Int)(y10:List PV):Js fu call a0n a0 m0 (nn+1) y0 y1 y2 y3 y4 y5 y6 y7 y8 y9 y10=(A4 (decide (y9<y8)) (Ay (decide (0<=y9)&&decide (y9<(↑y6:Int)))<|Af .u8 (List.getD y7 (Int.toNat y9*1) .top) fun x7=>Ay (decide (0<=y3)&&decide (y3<(↑y2:Int)))<|Af .u64 (List.getD y10 (0+Int.toNat y3*1) .top) fun x8=>Aa (Ff .u64 x8 8) fun x9=>Aa (wrap .u64 x7) fun Ck=>Aa (CH .u64 x9 Ck) fun Bn=>Ay (decide (0<=y3)&&decide (y3<(↑y2:Int)))<|Ay (decide (0+Int.toNat y3*1+1<=y10.length))<|Aa (B7 y10 [.sc (.int .u64 Bn)] (0+Int.toNat y3*1)) fun Cw=>Aa (wrap .i64 (y9+1)) fun Da=>Js fu call a0n a0 m0 (nn) (y0) (y1) (y2) (y3) (y4) (y5) (y6) (y7) (y8) Da Cw) (Aa (wrap .i64 (y5+1)) fun Cq=>H0 fu call a0n a0 (m0) (y0) (y1) (y2) (y4) Cq (y10))):=by kernel_rfl
theorem OR (fu d a0n:Nat)(a0:List PV):Ae C0 Tryz.prog fu (d+1) X6 [.lst false 1 a0n a0]=(fun (call:Ar)=>Aa (wrap .i64 (Int.tdiv (↑a0n:Int) 8)) fun x1=>Ay (decide (0<=x1)&&decide (x1<=x1)&&decide (x1*8<=1099511627776)&&decide (x1<=1099511627776))<|H0 fu call a0n a0 (fu) (a0n) (a0) x1.toNat ((↑x1.toNat:Int)) 0 (Yk x1.toNat [.sc (.int .u64 0)])) (Ae C0 Tryz.prog fu d):=by kernel_rfl
abbrev Wp:FuncId:=85
theorem KL (fu d:Nat)(a0 a1 a2:Int):Ae C0 Tryz.prog fu (d+1) Wp [.sc (.int .i64 a0),.sc (.int .u64 a1),.sc (.int .u64 a2)]=(fun (call:Ar)=>Aa (wrap .u64 a0) fun x1=>Aj (call 108 [.lst false 1 3 [.sc (.int .u64 x1),.sc (.int .u64 a1),.sc (.int .u64 a2)]]) fun x2 x3=>Ac x3<|Ab x2 fun x4 x5=>Dc 1 x4 fun x6 x7=>Ac x5<|Ay (decide (0+x6*1<=x7.length))<|Aj (call 107 [.sc (.int .i64 3),.lst false 1 x6 (List.take (x6*1) (List.drop 0 x7))]) fun x8 x9=>Ac x9<|Ab x8 fun Ck Bn=>Af .u64 Ck fun Cw=>Ac Bn<|some (A0.mk [.sc (.int .u64 Cw)] [])) (Ae C0 Tryz.prog fu d):=by kernel_rfl
abbrev Qw:FuncId:=123
theorem CY (fu d:Nat)(a0_0 a0_1:Int):Ae C0 Tryz.prog fu (d+1) Qw [.agg [.sc (.int .i64 a0_0),.sc (.int .u64 a0_1)]]=(fun (call:Ar)=>Aj (call 81 [.sc (.int .i64 a0_0)]) fun x1 x2=>Ac x2<|Ab x1 fun x3 x4=>Bx x3 fun x5=>Ac x4<|A4 x5 (some (A0.mk [.own 1 0 [],.sc (.int .i64 9)] [])) (Aa (wrap .u8 a0_0) fun x6=>Aj (call 108 [.lst false 1 1 [.sc (.int .u64 a0_1)]]) fun x7 x8=>Ac x8<|Ab x7 fun x9 Ck=>Dc 1 x9 fun Bn Cw=>Ac Ck<|Ay (decide (0+Bn*1<=Cw.length))<|Ay (decide (List.length (List.take (Bn*1) (List.drop 0 Cw))=Bn*1)&&decide ((1+Bn)*1<=1099511627776)&&decide (1+Bn<=1099511627776))<|Aa (1+Bn) fun Da=>Aa ([.sc (.int .u8 x6)]++List.take (Bn*1) (List.drop 0 Cw)) fun Cq=>Ay (decide (Da*1<=Cq.length))<|some (A0.mk [.own 1 Da (List.take (Da*1) Cq),.sc (.int .i64 0)] []))) (Ae C0 Tryz.prog fu d):=by kernel_rfl
abbrev Qu:FuncId:=88
theorem CS (fu d a0n:Nat)(a0:List PV):Ae C0 Tryz.prog fu (d+1) Qu [.lst false 1 a0n a0]=(fun (call:Ar)=>A4 ((↑a0n:Int) != 9) (some (A0.mk [.agg [.sc (.int .i64 0),.sc (.int .u64 0)],.sc (.int .i64 2)] [])) (Ay (decide (0<(↑a0n:Int)))<|Af .u8 (List.getD a0 0 .top) fun x1=>Aa (wrap .i64 x1) fun x2=>Aj (call 81 [.sc (.int .i64 x2)]) fun x3 x4=>Ac x4<|Ab x3 fun x5 x6=>Bx x5 fun x7=>Ac x6<|A4 x7 (some (A0.mk [.agg [.sc (.int .i64 0),.sc (.int .u64 0)],.sc (.int .i64 2)] [])) (Ay (decide (0<(↑a0n:Int)))<|Af .u8 (List.getD a0 0 .top) fun x8=>Aa (wrap .i64 x8) fun x9=>Ay (decide (1<=a0n)&&decide (a0n<=a0n))<|Aa (a0n-1) fun Ck=>Aa (List.take (Ck*1) (List.drop 1 a0)) fun Bn=>Aj (call 83 [.lst false 1 Ck Bn]) fun Cw Da=>Ac Da<|Ab Cw fun Cq Cy=>Dc 1 Cq fun Db Dq=>Ac Cy<|Ay (decide (0<(↑Db:Int)))<|Af .u64 (List.getD Dq 0 .top) fun D2=>some (A0.mk [.agg [.sc (.int .i64 x9),.sc (.int .u64 D2)],.sc (.int .i64 0)] [])))) (Ae C0 Tryz.prog fu d):=by kernel_rfl
abbrev Jw:FuncId:=112
theorem Tg (fu d:Nat)(a0_0:Int)(X9:Nat)(a0_1:List PV)(a0_2n:Nat)(a0_2:List PV):Ae C0 Tryz.prog fu (d+1) Jw [.agg [.sc (.int .i64 a0_0),.lst false 1 X9 a0_1,.lst false 1 a0_2n a0_2]]=(fun (call:Ar)=>Aj (call 81 [.sc (.int .i64 (↑a0_2n:Int))]) fun x1 x2=>Ac x2<|Ab x1 fun x3 x4=>Bx x3 fun x5=>Ac x4<|A4 x5 (some (A0.mk [.own 1 0 [],.sc (.int .i64 9)] [])) (Aj (call 82 [.sc (.int .i64 a0_0),.sc (.int .i64 (↑a0_2n:Int))]) fun x6 x7=>Ac x7<|Ab x6 fun x8 x9=>Bx x8 fun Ck=>Ac x9<|A4 Ck (some (A0.mk [.own 1 0 [],.sc (.int .i64 9)] [])) (A4 ((↑X9:Int) != 18) (some (A0.mk [.own 1 0 [],.sc (.int .i64 4)] [])) (Aa (wrap .u8 a0_0) fun Bn=>Aa (wrap .u8 (↑a0_2n:Int)) fun Cw=>Aj (call 108 [.lst false 1 X9 a0_1]) fun Da Cq=>Ac Cq<|Ab Da fun Cy Db=>Dc 1 Cy fun Dq D2=>Ac Db<|Ay (decide (0+Dq*1<=D2.length))<|Ay (decide (List.length (List.take (Dq*1) (List.drop 0 D2))=Dq*1)&&decide ((2+Dq)*1<=1099511627776)&&decide (2+Dq<=1099511627776))<|Aa (2+Dq) fun D0=>Aa ([.sc (.int .u8 Bn),.sc (.int .u8 Cw)]++List.take (Dq*1) (List.drop 0 D2)) fun D9=>Aj (call 108 [.lst false 1 a0_2n a0_2]) fun Fj Cn=>Ac Cn<|Ab Fj fun Fn Dj=>Dc 1 Fn fun B3 Et=>Ac Dj<|Ay (decide (0+B3*1<=Et.length))<|Ay (decide (D0*1<=D9.length)&&decide (List.length (List.take (B3*1) (List.drop 0 Et))=B3*1)&&decide ((D0+B3)*1<=1099511627776)&&decide (D0+B3<=1099511627776))<|Aa (D0+B3) fun F1=>Aa (List.take (D0*1) D9++List.take (B3*1) (List.drop 0 Et)) fun Bm=>Ay (decide (F1*1<=Bm.length))<|some (A0.mk [.own 1 F1 (List.take (F1*1) Bm),.sc (.int .i64 0)] []))))) (Ae C0 Tryz.prog fu d):=by kernel_rfl
abbrev J2:FuncId:=55
theorem Th (fu d a0n:Nat)(a0:List PV):Ae C0 Tryz.prog fu (d+1) J2 [.lst false 1 a0n a0]=(fun (call:Ar)=>A4 (decide ((↑a0n:Int)<2)) (some (A0.mk [.agg [.sc (.int .i64 0),.own 1 0 [],.own 1 0 []],.sc (.int .i64 2)] [])) (Ay (decide (0<(↑a0n:Int)))<|Af .u8 (List.getD a0 0 .top) fun x1=>Aa (wrap .i64 x1) fun x2=>Ay (decide (1<(↑a0n:Int)))<|Af .u8 (List.getD a0 1 .top) fun x3=>Aa (wrap .i64 x3) fun x4=>Aj (call 81 [.sc (.int .i64 x4)]) fun x5 x6=>Ac x6<|Ab x5 fun x7 x8=>Bx x7 fun x9=>Ac x8<|A4 x9 (some (A0.mk [.agg [.sc (.int .i64 0),.own 1 0 [],.own 1 0 []],.sc (.int .i64 2)] [])) (Aj (call 82 [.sc (.int .i64 x2),.sc (.int .i64 x4)]) fun Ck Bn=>Ac Bn<|Ab Ck fun Cw Da=>Bx Cw fun Cq=>Ac Da<|A4 Cq (some (A0.mk [.agg [.sc (.int .i64 0),.own 1 0 [],.own 1 0 []],.sc (.int .i64 2)] [])) (Aa (wrap .i64 (18+x4)) fun Cy=>Aa (wrap .i64 (8*Cy)) fun Db=>Aa (wrap .i64 (2+Db)) fun Dq=>A4 ((↑a0n:Int) != Dq) (some (A0.mk [.agg [.sc (.int .i64 0),.own 1 0 [],.own 1 0 []],.sc (.int .i64 2)] [])) (Ay (decide (146<=a0n))<|Aa (List.take 144 (List.drop 2 a0)) fun D2=>Aj (call 83 [.lst false 1 144 D2]) fun D0 D9=>Ac D9<|Ab D0 fun Fj Cn=>Dc 1 Fj fun Fn Dj=>Ac Cn<|Ay (decide (146<=a0n)&&decide (a0n<=a0n))<|Aa (a0n-146) fun B3=>Aa (List.take (B3*1) (List.drop 146 a0)) fun Et=>Aj (call 83 [.lst false 1 B3 Et]) fun F1 Bm=>Ac Bm<|Ab F1 fun Cj Gt=>Dc 1 Cj fun Gu Hz=>Ac Gt<|Ay (decide (Fn*1<=Dj.length))<|Ay (decide (Gu*1<=Hz.length))<|some (A0.mk [.agg [.sc (.int .i64 x2),.own 1 Fn (List.take (Fn*1) Dj),.own 1 Gu (List.take (Gu*1) Hz)],.sc (.int .i64 0)] [])))))) (Ae C0 Tryz.prog fu d):=by kernel_rfl
abbrev Vr:FuncId:=56
noncomputable def Gy (fu:Nat)(call:Ar)(a0_0 a0_1:Int)(a1 Rf:Int)(I6:Nat)(U5:List PV)(Je:Nat)(Wc:List PV)(nn:Nat)(y0:Int)(y1:Nat)(y2:List PV)(y3 y4:Int)(y5 y6 y7:Int)(y8:Nat)(y9:List PV)(y10:Nat)(Ej:List PV):Option A0:=Cz C0 Tryz.prog fu call 56 Tryz.f56 (B9 Tryz.f56) [.agg [.sc (.int .i64 a0_0),.sc (.int .u64 a0_1)],.sc (.int .u64 a1),.agg [.sc (.int .i64 Rf),.lst false 1 I6 U5,.lst false 1 Je Wc]] [.r,.r,.r,.r,.r,.l,.r,.l] nn ⟨lk [(3,(.ptr 3 0)),(5,(.ptr 5 0)),(7,(.sc (.int .u64 y0))),(46,(.lst false 1 y1 y2)),(47,(.sc (.int .i64 y3))),(48,(.sc (.int .i64 y4)))],Gl [(3,(.st [(.sc (.int .i64 y5)),(.sc (.int .u64 y6))])),(5,(.st [(.sc (.int .i64 y7)),(.lst false 1 y8 y9),(.lst false 1 y10 Ej)]))]⟩
theorem Qk (fu:Nat)(call:Ar)(a0_0 a0_1:Int)(a1 Rf:Int)(I6:Nat)(U5:List PV)(Je:Nat)(Wc:List PV)(nn:Nat)(y0:Int)(y1:Nat)(y2:List PV)(y3 y4:Int)(y5 y6 y7:Int)(y8:Nat)(y9:List PV)(y10:Nat)(Ej:List PV):Gy fu call a0_0 a0_1 a1 Rf I6 U5 Je Wc (nn+1) y0 y1 y2 y3 y4 y5 y6 y7 y8 y9 y10 Ej=(A4 (decide (y4<y3)) (Ay (decide (0<=y4)&&decide (y4<(↑y1:Int)))<|Af .u64 (List.getD y2 (Int.toNat y4*1) .top) fun D0=>Ay (decide (0<=y4))<|Aa (El .i64 y7 y4) fun D9=>Aa (Ed .i64 D9 1) fun Fj=>A4 (Fj==0) (Aa (wrap .i64 (y4+1)) fun Cn=>Aj (call 85 [.sc (.int .i64 Cn),.sc (.int .u64 y0),.sc (.int .u64 D0)]) fun Fn Dj=>Ac Dj<|Ab Fn fun B3 Et=>Af .u64 B3 fun F1=>Ac Et<|Aa (wrap .i64 (y4+1)) fun Bm=>Gy fu call a0_0 a0_1 a1 Rf I6 U5 Je Wc (nn) F1 (y1) (y2) (y3) Bm (y5) (y6) (y7) (y8) (y9) (y10) (Ej)) (Aa (wrap .i64 (y4+1)) fun Cj=>Aj (call 85 [.sc (.int .i64 Cj),.sc (.int .u64 D0),.sc (.int .u64 y0)]) fun Gt Gu=>Ac Gu<|Ab Gt fun Hz Ha=>Af .u64 Hz fun Il=>Ac Ha<|Aa (wrap .i64 (y4+1)) fun G4=>Gy fu call a0_0 a0_1 a1 Rf I6 U5 Je Wc (nn) Il (y1) (y2) (y3) G4 (y5) (y6) (y7) (y8) (y9) (y10) (Ej))) (A4 (y0 != y6) (some (A0.mk [.sc (.int .i64 15)] [])) (some (A0.mk [.sc (.int .i64 0)] [])))):=by kernel_rfl
theorem KA (fu d:Nat)(a0_0 a0_1:Int)(a1 Rf:Int)(I6:Nat)(U5:List PV)(Je:Nat)(Wc:List PV):Ae C0 Tryz.prog fu (d+1) Vr [.agg [.sc (.int .i64 a0_0),.sc (.int .u64 a0_1)],.sc (.int .u64 a1),.agg [.sc (.int .i64 Rf),.lst false 1 I6 U5,.lst false 1 Je Wc]]=(fun (call:Ar)=>Aj (call 81 [.sc (.int .i64 a0_0)]) fun x1 x2=>Ac x2<|Ab x1 fun x3 x4=>Bx x3 fun x5=>Ac x4<|A4 x5 (some (A0.mk [.sc (.int .i64 9)] [])) (Aj (call 82 [.sc (.int .i64 Rf),.sc (.int .i64 a0_0)]) fun x6 x7=>Ac x7<|Ab x6 fun x8 x9=>Bx x8 fun Ck=>Ac x9<|A4 Ck (some (A0.mk [.sc (.int .i64 9)] [])) (A4 ((↑I6:Int) != 18) (some (A0.mk [.sc (.int .i64 4)] [])) (A4 ((↑Je:Int) != a0_0) (some (A0.mk [.sc (.int .i64 4)] [])) (Aj (call 84 [.sc (.int .i64 Rf),.sc (.int .u64 a1),.lst false 1 I6 U5]) fun Bn Cw=>Ac Cw<|Ab Bn fun Da Cq=>Af .u64 Da fun Cy=>Ab Cq fun Db Dq=>Af .i64 Db fun D2=>Ac Dq<|A4 (D2 != 0) (some (A0.mk [.sc (.int .i64 D2)] [])) (Gy fu call a0_0 a0_1 a1 Rf I6 U5 Je Wc (fu) Cy (Je) (Wc) ((↑Je:Int)) 0 (a0_0) (a0_1) (Rf) (I6) (U5) (Je) (Wc))))))) (Ae C0 Tryz.prog fu d):=by kernel_rfl
end
section
open Go.IntKind (wrap)
theorem Alj {a m:Int}(h0:0<=m)(h1:m<=18446744073709551615):0<=Ed .u64 a m∧Ed .u64 a m<=m:=by
 have hle:(BitVec.ofInt 64 a &&& BitVec.ofInt 64 m).toNat<=m.toNat:=by
  rw [BitVec.toNat_and];refine Nat.le_trans Nat.and_le_right ?_;rw [BitVec.toNat_ofInt];omega
 have:Ed .u64 a m=((BitVec.ofInt 64 a &&& BitVec.ofInt 64 m).toNat:Int):=by
  unfold Ed;exact B5 (by omega) (by show ((BitVec.ofInt 64 a &&& BitVec.ofInt 64 m).toNat:Int)<=_;omega)
 rw [this];omega
theorem AB (k:IntKind)(l:List Int)(i:Nat)(x:Int):(Ai k l).set i (.sc (.int k x))=Ai k (l.set i x):=by
 induction l generalizing i with
 |nil=>rfl
 |cons a l ih=>
  cases i with
  |zero=>rfl
  |succ i=>
   show (PV.sc (.int k a)::Ai k l).set (i+1) _=PV.sc (.int k a)::Ai k (l.set i x);rw [List.set_cons_succ,ih]
theorem Aab (w:Int)(k:Nat):0<=Dw w k∧Dw w k<=255:=by
 unfold Dw;simp only [wrap,IntKind.signed,IntKind.bits];simp;omega
theorem CI (w:Int):G9 (Ci w):=by
 intro x hx;obtain ⟨k,_,rfl⟩:=List.mem_map.1 hx;exact Aab w k
theorem Wh (ws:List Int):G9 (A7 ws):=by
 intro x hx;obtain ⟨w,_,hx⟩:=List.mem_flatMap.1 hx;exact CI w x hx
theorem Dd (ws:List Int):(A7 ws).length=8*ws.length:=by
 induction ws with
 |nil=>rfl
 |cons w ws ih=>
  show (Ci w++A7 ws).length=_;rw [H1,ih,C3,Ib];omega
def Hb (m:Int)(k:Nat):Int:=wrap .i64 (Ed .u64 (El .u64 m (60-4*(k:Int))) 15)
theorem Ts (m:Int)(k:Nat):0<=Hb m k∧Hb m k<=15:=by
 have:=Alj (a:=El .u64 m (60-4*(k:Int))) (m:=15) (by omega) (by omega)
 unfold Hb;rw [At (by omega) (by omega)]
 exact this
def K0 (m:Int):Nat->Int
 |0=>0
 |k+1=>K0 m k+(15-Hb m k)
theorem L8 (m:Int):∀k,0<=K0 m k∧K0 m k<=15*k
 |0=>by simp [K0]
 |k+1=>by
  have h1:=L8 m k;have h2:=Ts m k;simp only [K0];omega
def UT (m:Int):List Int:=(List.range 16).map (Hb m)++[K0 m 16 / 16,K0 m 16 % 16]
def dg (m:Int)(k:Nat):Int:=(UT m).getD k 0
theorem Af2 (m:Int):(UT m).length=18:=rfl
theorem Ap0 {m x:Int}(h:x∈UT m):0<=x∧x<=15:=by
 have hs:=L8 m 16;unfold UT at h;rcases List.mem_append.1 h with h|h
 ·obtain ⟨k,_,rfl⟩:=List.mem_map.1 h;exact Ts m k
 ·simp at h;rcases h with rfl|rfl<;>omega
theorem BK (m:Int)(k:Nat):0<=dg m k∧dg m k<=15:=by
 unfold dg;rw [List.getD_eq_getElem?_getD];cases h:(UT m)[k]? with
 |none=>simp
 |some x=>exact Ap0 (List.mem_of_getElem? h)
def dl (m:Int)(i:Nat):List Int:=(List.range i).map (Hb m)++List.replicate (18-i) 0
theorem Ae1 (m:Int){i:Nat}(h:i<=18):(dl m i).length=18:=by simp [dl];omega
theorem Atz (m:Int){i:Nat}(h:i<18):(dl m (i+1))[i]?=some (Hb m i):=by
 unfold dl;rw [List.getElem?_append_left (by simp)]
 simp
theorem As3 (m:Int){i:Nat}(h:i<18):(dl m i).set i (Hb m i)=dl m (i+1):=by
 unfold dl;rw [List.set_append_right _ _ (by simp),List.length_map,List.length_range,Nat.sub_self,show 18-i=(18-(i+1))+1 by omega,List.replicate_succ,List.set_cons_zero,List.range_succ,List.map_append,Zzv]
 rfl
def Wl (leaf chain:Int):Nat->Int->Int->Int
 |0,_,x=>x
 |k+1,p,x=>Wl leaf chain k (p+1) (Em 1 (A7 [wrap .u64 leaf,wrap .u64 chain,wrap .u64 p,x]))
theorem Ace (leaf chain:Int):∀(k j:Nat)(p x:Int),Wl leaf chain (k+j) p x=Wl leaf chain j (p+k) (Wl leaf chain k p x)
 |0,j,p,x=>by simp [Wl]
 |k+1,j,p,x=>by
  rw [show k+1+j=(k+j)+1 by omega]
  simp only [Wl];rw [Ace leaf chain k j]
  congr 1
  omega
def NP (leaf:Int)(E:List Int):Int:=Em 2 (A7 (wrap .u64 leaf::E))
def CN (leaf m:Int)(s:List Int)(k:Nat):Int:=Wl leaf k (15-dg m k).toNat (dg m k) (s.getD k 0)
def RR (leaf m:Int)(s:List Int):List Int:=(List.range 18).map (CN leaf m s)
def TS (leaf m:Int)(s:List Int):Int:=NP leaf (RR leaf m s)
def el (leaf m:Int)(s:List Int)(i:Nat):List Int:=(List.range i).map (CN leaf m s)++List.replicate (18-i) 0
theorem Anb (leaf m:Int)(s:List Int){i:Nat}(h:i<=18):(el leaf m s i).length=18:=by simp [el];omega
theorem Asy (leaf m:Int)(s:List Int){i:Nat}(h:i<18):(el leaf m s i).set i (CN leaf m s i)=el leaf m s (i+1):=by
 unfold el;rw [List.set_append_right _ _ (by simp),List.length_map,List.length_range,Nat.sub_self,show 18-i=(18-(i+1))+1 by omega,List.replicate_succ,List.set_cons_zero,List.range_succ,List.map_append,Zzv]
 rfl
theorem Att (leaf m:Int)(s:List Int):el leaf m s 18=RR leaf m s:=by
 unfold el RR;simp
end
section
open Go.IntKind (wrap)
set_option maxRecDepth 20000
section
variable {fu d:Nat}
theorem Alp {ws:List Int}(hl:ws.length<=100)(hfu:1000<=fu)(dom:Int):Ae C0 Tryz.prog fu (d+5) Ux [.sc (.int .i64 dom),.lst false 1 (A7 ws).length (Ai .u8 (A7 ws))]=some ⟨[.sc (.int .u64 (Em dom (A7 ws)))],[]⟩:=
 Ag4 (Wh ws) (by rw [Dd];omega) (by omega) (by rw [Dd];omega) dom
theorem Acc {leaf chain:Int}{a0 a1 a2 a3 a4:Int}(hfu:1000<=fu){t:Int}(ht:t<=15):∀(k nn:Nat)(p x:Int),(k:Int)=t-p->0<=p->k<nn ->
  Mv fu (Ae C0 Tryz.prog fu (d+5)) a0 a1 a2 a3 a4 nn leaf chain x t p=some ⟨[.sc (.int .u64 (Wl leaf chain k p x))],[]⟩
 |_,0,_,_,_,_,h=>by omega
 |0,nn+1,p,x,hk,hp,hn=>by
  rw [We,Dt _ _ _ (by omega)]
  rfl
 |k+1,nn+1,p,x,hk,hp,hn=>by
  have w:wrap .i64 (p+1)=p+1:=At (by omega) (by omega)
  have wd:Ae C0 Tryz.prog fu (d+5) Hu [.lst false 1 4 [.sc (.int .u64 (wrap .u64 leaf)),.sc (.int .u64 (wrap .u64 chain)),.sc (.int .u64 (wrap .u64 p)),.sc (.int .u64 x)]]=_:=Vu (ws:=[wrap .u64 leaf,wrap .u64 chain,wrap .u64 p,x]) (by simp) (by omega) (by simp;omega)
  have hs:=Alp (fu:=fu) (d:=d) (ws:=[wrap .u64 leaf,wrap .u64 chain,wrap .u64 p,x]) (by simp) hfu 1
  have ih:=Acc (leaf:=leaf) (chain:=chain) (a0:=a0) (a1:=a1) (a2:=a2) (a3:=a3) (a4:=a4) hfu ht k nn (p+1) (Em 1 (A7 [wrap .u64 leaf,wrap .u64 chain,wrap .u64 p,x])) (by omega) (by omega) (by omega)
  have L:=Aq .u8 (A7 [wrap .u64 leaf,wrap .u64 chain,wrap .u64 p,x]);have eR:Wl leaf chain (k+1) p x=Wl leaf chain k (p+1) (Em 1 (A7 [wrap .u64 leaf,wrap .u64 chain,wrap .u64 p,x])):=rfl;rw [eR];generalize A7 [wrap .u64 leaf,wrap .u64 chain,wrap .u64 p,x]=W at wd hs ih L ⊢;rw [We];simp (disch:=omega) only [B6,wd,Bj,Bv,B8,Gd,L,hs,w];exact ih
theorem Arn {leaf chain:Int}(hfu:1000<=fu)(k:Nat)(f t x:Int)(hk:(k:Int)=t-f) (h0:0<=f)(h1:t<=15):Ae C0 Tryz.prog fu (d+6) DX [.sc (.int .i64 leaf),.sc (.int .i64 chain),.sc (.int .i64 f),.sc (.int .i64 t),.sc (.int .u64 x)]=some ⟨[.sc (.int .u64 (Wl leaf chain k f x))],[]⟩:=by
 rw [UF];simp only [Hr];rw [A3 (by omega),A3 (by omega)]
 exact Acc hfu h1 k fu f x hk h0 (by omega)
theorem MH {call:Ar}{a0 m:Int}{y3:List PV}:∀(k i nn:Nat),i+k=16->k<nn ->
  G2 fu call a0 nn m (K0 m i) i y3 (Ai .i64 (dl m i))=G2 fu call a0 (nn-k) m (K0 m 16) 16 y3 (Ai .i64 (dl m 16))
 |_,_,0,_,h=>by omega
 |0,i,nn+1,hi,hn=>by
  have e:i=16:=by omega
  subst e;rfl
 |k+1,i,nn+1,hi,hn=>by
  have ih:=MH (call:=call) (a0:=a0) (y3:=y3) (m:=m) k (i+1) nn (by omega) (by omega)
  have hb:=Ts m i;have hs:=L8 m i;have w:wrap .i64 ((i:Int)+1)=((i+1:Nat):Int):=by rw [At (by omega) (by omega)];omega
  have w4:wrap .i64 (4*(i:Int))=4*(i:Int):=At (by omega) (by omega)
  have w60:wrap .i64 (60-4*(i:Int))=60-4*(i:Int):=At (by omega) (by omega)
  have hd:wrap .i64 (Ed .u64 (El .u64 m (60-4*(i:Int))) 15)=Hb m i:=rfl;have w15:wrap .i64 (15-Hb m i)=15-Hb m i:=At (by omega) (by omega)
  have ws:wrap .i64 (K0 m i+(15-Hb m i))=K0 m (i+1):=by rw [At (by omega) (by omega)];rfl
  have L:(Ai .i64 (dl m i)).length=18:=by rw [Aq,Ae1 m (by omega)]
  have hset:B7 (Ai .i64 (dl m i)) [.sc (.int .i64 (Hb m i))] i=Ai .i64 (dl m (i+1)):=by
   rw [Jg (by omega),AB,As3 m (by omega)]
  have hat:(Ai .i64 (dl m (i+1))).getD i .top=.sc (.int .i64 (Hb m i)):=Qb (Atz m (by omega))
  rw [show nn+1-(k+1)=nn-k by omega,←ih,Qa]
  simp (disch:=omega) only [B6,Hc,Bj,Bv,w,w4,w60,hd,L,hset,hat,w15,ws]
theorem Ai7 (hfu:1000<=fu)(m:Int):Ae C0 Tryz.prog fu (d+1) Wd [.sc (.int .u64 m)]=some ⟨[.agg (Ai .i64 (UT m))],[]⟩:=by
 rw [KR];have lp:=MH (fu:=fu) (call:=Ae C0 Tryz.prog fu d) (a0:=m) (m:=m) (y3:=Ai .i64 (List.replicate 18 0)) 16 0 fu (by omega) (by omega)
 obtain ⟨f',hf'⟩:∃f',fu-16=f'+1:=⟨fu-17,by omega⟩
 rw [hf'] at lp;refine Eq.trans lp ?_;have hs:=L8 m 16
 have wq:wrap .i64 (Int.tdiv (K0 m 16) 16)=K0 m 16 / 16:=by
  rw [Int.tdiv_eq_ediv_of_nonneg (by omega),At (by omega) (by omega)]
 have wm:Int.tmod (K0 m 16) 16=K0 m 16 % 16:=Int.tmod_eq_emod_of_nonneg (by omega)
 have L:(Ai .i64 (dl m 16)).length=18:=by rw [Aq,Ae1 m (by omega)]
 have h1:B7 (Ai .i64 (dl m 16)) [.sc (.int .i64 (K0 m 16 / 16))] 16=Ai .i64 ((dl m 16).set 16 (K0 m 16 / 16)):=by
  rw [Jg (by omega),AB]
 have L2:(Ai .i64 ((dl m 16).set 16 (K0 m 16 / 16))).length=18:=by rw [Aq,List.length_set,Ae1 m (by omega)]
 have h2:B7 (Ai .i64 ((dl m 16).set 16 (K0 m 16 / 16))) [.sc (.int .i64 (K0 m 16 % 16))] 17=Ai .i64 (UT m):=by
  rw [Jg (by omega),AB]
  rfl
 rw [Qa,Dt _ _ _ (by omega)]
 simp only [Hr,wq,wm,L,h1,L2,h2];generalize hq:K0 m 16 / 16=q at *
 generalize hr:K0 m 16 % 16=r at *
 have hD:Ai .i64 (UT m)=[.sc (.int .i64 (Hb m 0)),.sc (.int .i64 (Hb m 1)),.sc (.int .i64 (Hb m 2)),.sc (.int .i64 (Hb m 3)),.sc (.int .i64 (Hb m 4)),.sc (.int .i64 (Hb m 5)),.sc (.int .i64 (Hb m 6)),.sc (.int .i64 (Hb m 7)),.sc (.int .i64 (Hb m 8)),.sc (.int .i64 (Hb m 9)),.sc (.int .i64 (Hb m 10)),.sc (.int .i64 (Hb m 11)),.sc (.int .i64 (Hb m 12)),.sc (.int .i64 (Hb m 13)),.sc (.int .i64 (Hb m 14)),.sc (.int .i64 (Hb m 15)),.sc (.int .i64 q),.sc (.int .i64 r)]:=by
  unfold UT;rw [hq,hr];rfl
 rw [hD];have hr18:(Ai .i64 (List.replicate 18 0)).length=18:=rfl
 have hsp:∀c:List PV,c.length=18->B7 (Ai .i64 (List.replicate 18 0)) c 0=c:=by
  intro c hc;unfold B7;rw [hc,List.drop_of_length_le (by rw [hr18];omega)]
  simp
 rw [CX (hnn:=by omega)]
 simp only [B6,List.getD_cons_zero,List.getD_cons_succ,hr18];rw [hsp _ rfl];simp (disch:=omega) only [B6,DM,List.getD_cons_zero,List.getD_cons_succ]
theorem Adx (hfu:1000<=fu)(leaf:Int){E:List Int}(hE:E.length=18):Ae C0 Tryz.prog fu (d+6) Tz [.sc (.int .i64 leaf),.agg (Ai .u64 E)]=some ⟨[.sc (.int .u64 (NP leaf E))],[]⟩:=by
 match E,hE with
 |[e0,e1,e2,e3,e4,e5,e6,e7,e8,e9,e10,e11,e12,e13,e14,e15,e16,e17],_=>
  have wd:Ae C0 Tryz.prog fu (d+5) Hu [.lst false 1 19 [.sc (.int .u64 (wrap .u64 leaf)),.sc (.int .u64 e0),.sc (.int .u64 e1),.sc (.int .u64 e2),.sc (.int .u64 e3),.sc (.int .u64 e4),.sc (.int .u64 e5),.sc (.int .u64 e6),.sc (.int .u64 e7),.sc (.int .u64 e8),.sc (.int .u64 e9),.sc (.int .u64 e10),.sc (.int .u64 e11),.sc (.int .u64 e12),.sc (.int .u64 e13),.sc (.int .u64 e14),.sc (.int .u64 e15),.sc (.int .u64 e16),.sc (.int .u64 e17)]]=_:=Vu (ws:=wrap .u64 leaf::[e0,e1,e2,e3,e4,e5,e6,e7,e8,e9,e10,e11,e12,e13,e14,e15,e16,e17]) (by simp) (by omega) (by simp;omega)
  have hs:=Alp (fu:=fu) (d:=d) (ws:=wrap .u64 leaf::[e0,e1,e2,e3,e4,e5,e6,e7,e8,e9,e10,e11,e12,e13,e14,e15,e16,e17]) (by simp) hfu 2
  have L:=Aq .u8 (A7 (wrap .u64 leaf::[e0,e1,e2,e3,e4,e5,e6,e7,e8,e9,e10,e11,e12,e13,e14,e15,e16,e17]));have eR:NP leaf [e0,e1,e2,e3,e4,e5,e6,e7,e8,e9,e10,e11,e12,e13,e14,e15,e16,e17]=Em 2 (A7 (wrap .u64 leaf::[e0,e1,e2,e3,e4,e5,e6,e7,e8,e9,e10,e11,e12,e13,e14,e15,e16,e17])):=rfl;rw [eR];generalize A7 (wrap .u64 leaf::[e0,e1,e2,e3,e4,e5,e6,e7,e8,e9,e10,e11,e12,e13,e14,e15,e16,e17])=W at wd hs L ⊢;refine (JB fu (d+5) leaf e0 e1 e2 e3 e4 e5 e6 e7 e8 e9 e10 e11 e12 e13 e14 e15 e16 e17).trans ?_;simp (disch:=omega) only [B6,wd,Bj,Bv,B8,Gd,L,hs]
theorem Aty (g:Nat->Int){i:Nat}(hi:i<18):List.getD [PV.sc (.int .i64 (g 0)),PV.sc (.int .i64 (g 1)),PV.sc (.int .i64 (g 2)),PV.sc (.int .i64 (g 3)),PV.sc (.int .i64 (g 4)),PV.sc (.int .i64 (g 5)),PV.sc (.int .i64 (g 6)),PV.sc (.int .i64 (g 7)),PV.sc (.int .i64 (g 8)),PV.sc (.int .i64 (g 9)),PV.sc (.int .i64 (g 10)),PV.sc (.int .i64 (g 11)),PV.sc (.int .i64 (g 12)),PV.sc (.int .i64 (g 13)),PV.sc (.int .i64 (g 14)),PV.sc (.int .i64 (g 15)),PV.sc (.int .i64 (g 16)),PV.sc (.int .i64 (g 17))] i PV.top=.sc (.int .i64 (g i)):=by
 have:((List.range 18).map g)[i]?=some (g i):=by simp [hi]
 exact Qb (k:=.i64) this
theorem JI {a0 a1:Int}{a2n:Nat}{a2:List PV}{leaf m:Int}{s:List Int}(hs:s.length=18)(hfu:1000<=fu)(g:Nat->Int)(hg:∀k,g k=dg m k):∀(k i nn:Nat),i+k=18->k<nn ->
  Fk fu (Ae C0 Tryz.prog fu (d+6)) a0 a1 a2n a2 nn leaf s.length (Ai .u64 s) (g 0) (g 1) (g 2) (g 3) (g 4) (g 5) (g 6) (g 7) (g 8) (g 9) (g 10) (g 11) (g 12) (g 13) (g 14) (g 15) (g 16) (g 17) i (Ai .u64 (el leaf m s i)) =
   Fk fu (Ae C0 Tryz.prog fu (d+6)) a0 a1 a2n a2 (nn-k) leaf s.length (Ai .u64 s) (g 0) (g 1) (g 2) (g 3) (g 4) (g 5) (g 6) (g 7) (g 8) (g 9) (g 10) (g 11) (g 12) (g 13) (g 14) (g 15) (g 16) (g 17) 18 (Ai .u64 (el leaf m s 18))
 |_,_,0,_,h=>by omega
 |0,i,nn+1,hi,hn=>by
  have e:i=18:=by omega
  subst e;rfl
 |k+1,i,nn+1,hi,hn=>by
  have ih:=JI (a0:=a0) (a1:=a1) (a2n:=a2n) (a2:=a2) (leaf:=leaf) (m:=m) hs hfu g hg k (i+1) nn (by omega) (by omega)
  obtain ⟨x,hx⟩:∃x,s[i]?=some x:=⟨_,List.getElem?_eq_getElem (by omega)⟩
  have hb:=BK m i;have hgi:=Aty g (i:=i) (by omega)
  have w:wrap .i64 ((i:Int)+1)=((i+1:Nat):Int):=by rw [At (by omega) (by omega)];omega
  have rn:=Arn (fu:=fu) (d:=d) (leaf:=leaf) (chain:=i) hfu (15-dg m i).toNat (g i) 15 x (by rw [hg];omega) (by rw [hg];omega) (by omega)
  have ev:Wl leaf i (15-dg m i).toNat (g i) x=CN leaf m s i:=by
   unfold CN;rw [List.getD_eq_getElem?_getD,hx,hg];rfl
  rw [ev] at rn;have L:(Ai .u64 (el leaf m s i)).length=18:=by rw [Aq,Anb leaf m s (by omega)]
  have hset:B7 (Ai .u64 (el leaf m s i)) [.sc (.int .u64 (CN leaf m s i))] i=Ai .u64 (el leaf m s (i+1)):=by
   rw [Jg (by omega),AB,Asy leaf m s (by omega)]
  rw [show nn+1-(k+1)=nn-k by omega,←ih,Pa]
  simp (disch:=omega) only [B6,Hc,Bj,Bv,hgi,Qb hx,rn,L,hset,w]
theorem Aay (hfu:1000<=fu){a0 a1 leaf:Int}{a2n n nn:Nat}{a2 c:List PV}{g:Nat->Int}{E:List Int}(hE:E.length=18):
  Fk fu (Ae C0 Tryz.prog fu (d+6)) a0 a1 a2n a2 (nn+1) leaf n c (g 0) (g 1) (g 2) (g 3) (g 4) (g 5) (g 6) (g 7) (g 8) (g 9) (g 10) (g 11) (g 12) (g 13) (g 14) (g 15) (g 16) (g 17) 18 (Ai .u64 E)=some ⟨[.sc (.int .u64 (NP leaf E)),.sc (.int .i64 0)],[]⟩:=by
 match E,hE with
 |[e0,e1,e2,e3,e4,e5,e6,e7,e8,e9,e10,e11,e12,e13,e14,e15,e16,e17],hE=>
  have cb:=Adx (fu:=fu) (d:=d) hfu leaf hE;have hc:Ai .u64 [e0,e1,e2,e3,e4,e5,e6,e7,e8,e9,e10,e11,e12,e13,e14,e15,e16,e17]=[.sc (.int .u64 e0),.sc (.int .u64 e1),.sc (.int .u64 e2),.sc (.int .u64 e3),.sc (.int .u64 e4),.sc (.int .u64 e5),.sc (.int .u64 e6),.sc (.int .u64 e7),.sc (.int .u64 e8),.sc (.int .u64 e9),.sc (.int .u64 e10),.sc (.int .u64 e11),.sc (.int .u64 e12),.sc (.int .u64 e13),.sc (.int .u64 e14),.sc (.int .u64 e15),.sc (.int .u64 e16),.sc (.int .u64 e17)]:=rfl;rw [hc] at cb ⊢;generalize NP leaf [e0,e1,e2,e3,e4,e5,e6,e7,e8,e9,e10,e11,e12,e13,e14,e15,e16,e17]=R at cb ⊢;rw [Pa,Dt _ _ _ (by omega)]
  simp (disch:=omega) only [B6,Zy,Y7,List.getD_cons_zero,List.getD_cons_succ,cb]
theorem Aeu (hfu:1000<=fu)(leaf m:Int)(s:List Int):Ae C0 Tryz.prog fu (d+7) Tx [.sc (.int .i64 leaf),.sc (.int .u64 m),.lst false 1 s.length (Ai .u64 s)]=some ⟨(if s.length=18 then [.sc (.int .u64 (TS leaf m s)),.sc (.int .i64 0)] else [.sc (.int .u64 0),.sc (.int .i64 4)]),[]⟩:=by
 rw [HV];by_cases h:s.length=18
 ·have dq:=Ai7 (fu:=fu) (d:=d+5) hfu m;have hD:Ai .i64 (UT m)=[.sc (.int .i64 (dg m 0)),.sc (.int .i64 (dg m 1)),.sc (.int .i64 (dg m 2)),.sc (.int .i64 (dg m 3)),.sc (.int .i64 (dg m 4)),.sc (.int .i64 (dg m 5)),.sc (.int .i64 (dg m 6)),.sc (.int .i64 (dg m 7)),.sc (.int .i64 (dg m 8)),.sc (.int .i64 (dg m 9)),.sc (.int .i64 (dg m 10)),.sc (.int .i64 (dg m 11)),.sc (.int .i64 (dg m 12)),.sc (.int .i64 (dg m 13)),.sc (.int .i64 (dg m 14)),.sc (.int .i64 (dg m 15)),.sc (.int .i64 (dg m 16)),.sc (.int .i64 (dg m 17))]:=rfl;rw [hD] at dq;simp only [Dp];rw [Bl h,Bl (by omega)]
  simp only [B6,dq];have lp:=JI (fu:=fu) (d:=d) (a0:=leaf) (a1:=m) (a2n:=s.length) (a2:=Ai .u64 s) (leaf:=leaf) (m:=m) h hfu (dg m) (fun _=>rfl) 18 0 fu (by omega) (by omega)
  obtain ⟨f',hf'⟩:∃f',fu-18=f'+1:=⟨fu-19,by omega⟩
  rw [hf'] at lp;refine Eq.trans lp ?_;have eE:el leaf m s 18=RR leaf m s:=Att leaf m s;have hl:(RR leaf m s).length=18:=by rw [←eE,Anb leaf m s (by omega)]
  have eR:TS leaf m s=NP leaf (RR leaf m s):=rfl;rw [eE,eR];exact Aay hfu hl
 ·simp only [Dp];rw [A3 h,A3 (by omega)]
end
end
section
open Go.IntKind (wrap)
structure Ky where
 h:Int
 root:Int
structure Sg where
 leaf:Int
 chains:List Int
 path:List Int
def Ky.cells (k:Ky):List PV:=[.sc (.int .i64 k.h),.sc (.int .u64 k.root)]
def Sg.cells (s:Sg):List PV:=[.sc (.int .i64 s.leaf),.lst false 1 s.chains.length (Ai .u64 s.chains),.lst false 1 s.path.length (Ai .u64 s.path)]
def Df (h:Int):Bool:=decide (h<0)||decide (h>4)
def Gc (leaf h:Int):Bool:=decide (leaf<0)||decide (leaf>=Ff .i64 1 h)
def Oq (level a b:Int):Int:=Em 3 (A7 [wrap .u64 level,a,b])
def Xf (leaf:Int):Nat->Int->List Int->Int
 |_,x,[]=>x
 |i,x,s::r=>Xf leaf (i+1) (if Ed .i64 (El .i64 leaf i) 1=0 then Oq ((i+1:Nat):Int) x s else Oq ((i+1:Nat):Int) s x) r
def okE (x root:Int):Int:=if x=root then 0 else 15
theorem TC (leaf:Int)(i:Nat)(x:Int):Xf leaf i x []=x:=rfl
theorem Y9 (leaf:Int)(i:Nat)(x s:Int)(r:List Int):Xf leaf i x (s::r)=Xf leaf (i+1) (if Ed .i64 (El .i64 leaf i) 1=0 then Oq ((i+1:Nat):Int) x s else Oq ((i+1:Nat):Int) s x) r:=rfl
def Jp (k:Ky)(m:Int)(s:Sg):Int:=
 if Df k.h=true then 9 else if Gc s.leaf k.h=true then 9 else if s.chains.length≠18 then 4 else if (s.path.length:Int)≠k.h then 4 else
 okE (Xf s.leaf 0 (TS s.leaf m s.chains) s.path) k.root
theorem Gr {h:Int}(hh:Df h=false):0<=h∧h<=4:=by
 unfold Df at hh;simp at hh;omega
section
variable {fu d:Nat}
theorem GX (h:Int):Ae C0 Tryz.prog fu (d+1) Z1 [.sc (.int .i64 h)]=some ⟨[.sc (.bool (Df h))],[]⟩:=by
 rw [SQ];unfold Df;by_cases h0:h<0
 ·simp only [B6,KE,h0,decide_true,Bool.true_or,if_true]
 ·simp only [B6,KE,h0,decide_false,Bool.false_or,if_false]
theorem EV (leaf h:Int)(h0:0<=h):Ae C0 Tryz.prog fu (d+1) Un [.sc (.int .i64 leaf),.sc (.int .i64 h)]=some ⟨[.sc (.bool (Gc leaf h))],[]⟩:=by
 rw [JQ];unfold Gc;by_cases hl:leaf<0
 ·simp only [B6,KE,hl,decide_true,Bool.true_or,if_true]
 ·simp (disch:=omega) only [B6,KE,hl,decide_false,Bool.false_or,if_false]
theorem VF (hfu:1000<=fu)(level a b:Int):Ae C0 Tryz.prog fu (d+6) Wp [.sc (.int .i64 level),.sc (.int .u64 a),.sc (.int .u64 b)]=some ⟨[.sc (.int .u64 (Oq level a b))],[]⟩:=by
 have wd:Ae C0 Tryz.prog fu (d+5) Hu [.lst false 1 3 [.sc (.int .u64 (wrap .u64 level)),.sc (.int .u64 a),.sc (.int .u64 b)]]=_:=Vu (ws:=[wrap .u64 level,a,b]) (by simp) (by omega) (by simp;omega)
 have hs:=Alp (fu:=fu) (d:=d) (ws:=[wrap .u64 level,a,b]) (by simp) hfu 3
 have L:=Aq .u8 (A7 [wrap .u64 level,a,b]);rw [KL];unfold Oq;generalize A7 [wrap .u64 level,a,b]=W at wd hs L ⊢;simp (disch:=omega) only [B6,wd,Bj,Bv,B8,Gd,L,hs]
theorem NK {a0 a1 a2 a3:Int}{n1 n2 n3 n4:Nat}{c1 c2 c3 c4:List PV}{y5 root leaf:Int}{path:List Int}(hp:path.length<=100)(hfu:1000<=fu):∀(r:List Int)(i nn:Nat)(x:Int),path.drop i=r->r.length<nn->i<=path.length ->
  Gy fu (Ae C0 Tryz.prog fu (d+6)) a0 a1 a2 a3 n1 c1 n2 c2 nn x path.length (Ai .u64 path) path.length i y5 root leaf n3 c3 n4 c4=some ⟨[.sc (.int .i64 (okE (Xf leaf i x r) root))],[]⟩
 |_,_,0,_,_,h,_=>by omega
 |[],i,nn+1,x,h,hn,hi=>by
  have:=drop_nil h;rw [Qk,Dt _ _ _ (by omega),Dp]
  rw [TC];unfold okE;by_cases e:x=root
  ·rw [Bl e,Bl e]
  ·rw [A3 e,A3 e]
 |s::r,i,nn+1,x,h,hn,hi=>by
  obtain ⟨h1,h2,h3⟩:=Cg h;simp only [Ib] at hn;have w:wrap .i64 ((i:Int)+1)=((i+1:Nat):Int):=by rw [At (by omega) (by omega)];omega
  have ih:=fun x=>NK (a0:=a0) (a1:=a1) (a2:=a2) (a3:=a3) (n1:=n1) (n2:=n2) (n3:=n3) (n4:=n4) (c1:=c1) (c2:=c2) (c3:=c3) (c4:=c4) (y5:=y5) (root:=root) (leaf:=leaf) hp hfu r (i+1) nn x h3 (by omega) (by omega)
  have p1:=VF (fu:=fu) (d:=d) hfu ((i+1:Nat):Int) x s;have p2:=VF (fu:=fu) (d:=d) hfu ((i+1:Nat):Int) s x;rw [Qk,Y9];by_cases hb:Ed .i64 (El .i64 leaf i) 1=0
  ·rw [Bl hb,←ih];simp (disch:=omega) only [B6,Hc,Bj,Qb h2,Fo,hb,w,p1,if_true]
  ·rw [A3 hb,←ih];simp (disch:=omega) only [B6,Hc,Bj,Qb h2,Fo,hb,w,p2,if_false]
theorem LF (hfu:1000<=fu)(k:Ky)(m:Int)(s:Sg):Ae C0 Tryz.prog fu (d+8) Vr [.agg k.cells,.sc (.int .u64 m),.agg s.cells]=some ⟨[.sc (.int .i64 (Jp k m s))],[]⟩:=by
 refine (KA fu (d+7) k.h k.root m s.leaf s.chains.length (Ai .u64 s.chains) s.path.length (Ai .u64 s.path)).trans ?_;have h1:=GX (fu:=fu) (d:=d+6) k.h;unfold Jp;cases c1:Df k.h
 ·rw [c1] at h1;have hb:=Gr c1;have h2:=EV (fu:=fu) (d:=d+6) s.leaf k.h hb.1;cases c2:Gc s.leaf k.h
  ·rw [c2] at h2;by_cases c3:s.chains.length=18
   ·by_cases c4:(s.path.length:Int)=k.h
    ·have rc:=Aeu (fu:=fu) (d:=d) hfu s.leaf m s.chains;rw [Bl c3] at rc;have vl:=NK (fu:=fu) (d:=d+1) (a0:=k.h) (a1:=k.root) (a2:=m) (a3:=s.leaf) (n1:=s.chains.length) (n2:=s.path.length) (n3:=s.chains.length) (n4:=s.path.length) (c1:=Ai .u64 s.chains) (c2:=Ai .u64 s.path) (c3:=Ai .u64 s.chains) (c4:=Ai .u64 s.path) (y5:=k.h) (root:=k.root) (leaf:=s.leaf) (path:=s.path) (by omega) hfu s.path 0 fu (TS s.leaf m s.chains) rfl (by omega) (by omega)
     rw [A3 (by simp),A3 (by simp),A3 (by omega),A3 (by omega),←vl]
     simp (disch:=omega) only [B6,h1,h2,Dp,rc,if_true,c4];rw [Bl (by omega)]
     rfl
    ·rw [A3 (by simp),A3 (by simp),A3 (by omega),Bl c4]
     simp (disch:=omega) only [B6,h1,h2,Dp,c4,if_false];rw [Bl (by omega)]
   ·rw [A3 (by simp),A3 (by simp),Bl c3]
    simp (disch:=omega) only [B6,h1,h2,Dp];rw [A3 (by omega)]
  ·rw [c2] at h2;rw [A3 (by simp),Bl rfl]
   simp (disch:=omega) only [B6,h1,h2]
 ·rw [c1] at h1;rw [Bl rfl];simp (disch:=omega) only [B6,h1]
def G0 (k:Ky):List Int:=wrap .u8 k.h::Ci k.root
def M6 (s:Sg):List Int:=wrap .u8 s.leaf::wrap .u8 s.path.length::(A7 s.chains++A7 s.path)
theorem owd (hfu:1000<=fu)(w:Int):Ae C0 Tryz.prog fu (d+1) Hu [.lst false 1 1 [.sc (.int .u64 w)]]=some ⟨[.own 1 8 (Ai .u8 (Ci w))],[]⟩:=by
 have:=Vu (fu:=fu) (d:=d) (ws:=[w]) (by simp) (by omega) (by simp;omega)
 simp only [A7,List.flatMap_cons,List.flatMap_nil,List.append_nil,Ib,Y4,C3] at this;exact this
theorem Ahc (hfu:1000<=fu)(k:Ky):Ae C0 Tryz.prog fu (d+2) Qw [.agg k.cells]=some ⟨(if Df k.h=true then [.own 1 0 [],.sc (.int .i64 9)] else [.own 1 9 (Ai .u8 (G0 k)),.sc (.int .i64 0)]),[]⟩:=by
 refine (CY fu (d+1) k.h k.root).trans ?_;have h1:=GX (fu:=fu) (d:=d) k.h;have wd:=owd (fu:=fu) (d:=d) hfu k.root;have L:=Aq .u8 (Ci k.root);rw [C3] at L;have t8:List.take 8 (Ai .u8 (Ci k.root))=Ai .u8 (Ci k.root):=I0 (by omega)
 have t9:List.take 9 ([PV.sc (.int .u8 (wrap .u8 k.h))]++Ai .u8 (Ci k.root))=Ai .u8 (G0 k):=by
  rw [I0 (by rw [H1,L];simp)]
  rfl
 have L9:([PV.sc (.int .u8 (wrap .u8 k.h))]++Ai .u8 (Ci k.root)).length=9:=by rw [H1,L];rfl
 cases c1:Df k.h
 ·rw [c1] at h1;rw [A3 (by simp)]
  simp (disch:=omega) only [B6,h1,wd,Bj,Bv,B8,L,t8,Nat.reduceAdd,L9,t9]
 ·rw [c1] at h1;rw [Bl rfl];simp (disch:=omega) only [B6,h1]
theorem Ah0 (hfu:1000<=fu)(s:Sg)(hp:s.path.length<=1000000000)(hf:s.path.length<fu):Ae C0 Tryz.prog fu (d+2) Jw [.agg s.cells]=some ⟨(if Df s.path.length=true then [.own 1 0 [],.sc (.int .i64 9)] else if Gc s.leaf s.path.length=true then [.own 1 0 [],.sc (.int .i64 9)] else if s.chains.length≠18 then [.own 1 0 [],.sc (.int .i64 4)] else [.own 1 (M6 s).length (Ai .u8 (M6 s)),.sc (.int .i64 0)]),[]⟩:=by
 refine (Tg fu (d+1) s.leaf s.chains.length (Ai .u64 s.chains) s.path.length (Ai .u64 s.path)).trans ?_;have h1:=GX (fu:=fu) (d:=d) s.path.length;cases c1:Df s.path.length
 ·rw [c1] at h1;have hb:=Gr c1;have h2:=EV (fu:=fu) (d:=d) s.leaf s.path.length hb.1;cases c2:Gc s.leaf s.path.length
  ·rw [c2] at h2;by_cases c3:s.chains.length=18
   ·have w1:=Vu (fu:=fu) (d:=d) (ws:=s.chains) (by omega) (by omega) (by omega)
    have w2:=Vu (fu:=fu) (d:=d) (ws:=s.path) (by omega) (by omega) (by omega)
    have l1:=Dd s.chains;have l2:=Dd s.path;have L1:=Aq .u8 (A7 s.chains);have L2:=Aq .u8 (A7 s.path)
    have eB:Ai .u8 (M6 s)=[PV.sc (.int .u8 (wrap .u8 s.leaf)),PV.sc (.int .u8 (wrap .u8 s.path.length))]++Ai .u8 (A7 s.chains)++Ai .u8 (A7 s.path):=by
     unfold M6;simp
    have eL:(M6 s).length=2+(A7 s.chains).length+(A7 s.path).length:=by
     unfold M6;simp;omega
    rw [A3 (by simp),A3 (by simp),A3 (by omega),eB,eL]
    have t2:List.take (2+(A7 s.chains).length) ([PV.sc (.int .u8 (wrap .u8 s.leaf)),PV.sc (.int .u8 (wrap .u8 s.path.length))]++Ai .u8 (A7 s.chains))=[PV.sc (.int .u8 (wrap .u8 s.leaf)),PV.sc (.int .u8 (wrap .u8 s.path.length))]++Ai .u8 (A7 s.chains):=I0 (by rw [H1,L1];simp)
    have t3:List.take (2+(A7 s.chains).length+(A7 s.path).length) ([PV.sc (.int .u8 (wrap .u8 s.leaf)),PV.sc (.int .u8 (wrap .u8 s.path.length))]++Ai .u8 (A7 s.chains)++Ai .u8 (A7 s.path))=[PV.sc (.int .u8 (wrap .u8 s.leaf)),PV.sc (.int .u8 (wrap .u8 s.path.length))]++Ai .u8 (A7 s.chains)++Ai .u8 (A7 s.path):=I0 (by rw [H1,H1,L1,L2];simp)
    have k2:([PV.sc (.int .u8 (wrap .u8 s.leaf)),PV.sc (.int .u8 (wrap .u8 s.path.length))]++Ai .u8 (A7 s.chains)).length=2+(A7 s.chains).length:=by rw [H1,L1];rfl
    have k3:([PV.sc (.int .u8 (wrap .u8 s.leaf)),PV.sc (.int .u8 (wrap .u8 s.path.length))]++Ai .u8 (A7 s.chains)++Ai .u8 (A7 s.path)).length=2+(A7 s.chains).length+(A7 s.path).length:=by rw [H1,k2,L2]
    simp (disch:=omega) only [B6,h1,h2,Dp,w1,w2,Bj,Bv,B8,L1,L2,Gd,t2,t3,k2,k3];rw [Bl (by omega)]
   ·rw [A3 (by simp),A3 (by simp),Bl c3]
    simp (disch:=omega) only [B6,h1,h2,Dp];rw [A3 (by omega)]
  ·rw [c2] at h2;rw [A3 (by simp),Bl rfl]
   simp (disch:=omega) only [B6,h1,h2]
 ·rw [c1] at h1;rw [Bl rfl];simp (disch:=omega) only [B6,h1]
def Kb (l:List Int)(i:Nat):Int:=CK ((l.drop (8*i)).take 8)
def Fl (l:List Int):List Int:=(List.range (l.length / 8)).map (Kb l)
def wl (l:List Int)(i:Nat):List Int:=(List.range i).map (Kb l)++List.replicate (l.length / 8-i) 0
theorem Akl (l:List Int){i:Nat}(h:i<=l.length / 8):(wl l i).length=l.length / 8:=by simp [wl];omega
theorem Ar2 (l:List Int){i:Nat}(h:i<l.length / 8):(wl l i).set i (Kb l i)=wl l (i+1):=by
 unfold wl;rw [List.set_append_right _ _ (by simp),List.length_map,List.length_range,Nat.sub_self,show l.length / 8-i=(l.length / 8-(i+1))+1 by omega,List.replicate_succ,List.set_cons_zero,List.range_succ,List.map_append,Zzv]
 rfl
theorem Ao5 (l:List Int){i:Nat}(h:i<l.length / 8):(wl l i).set i 0=wl l i:=by
 unfold wl;rw [List.set_append_right _ _ (by simp),List.length_map,List.length_range,Nat.sub_self,show l.length / 8-i=(l.length / 8-(i+1))+1 by omega,List.replicate_succ,List.set_cons_zero]
theorem WX {n m0:Nat}{c:List PV}{l:List Int}(hl:l.length<=1000000){i:Nat}(hi:i<l.length / 8){q:List Int}(hq:q.length<=8):∀(r:List Int)(j nn:Nat)(x:Int),q.drop j=r->r.length<nn->j<=q.length ->
  Js fu (Ae C0 Tryz.prog fu d) n c m0 nn l.length (Ai .u8 l) (l.length / 8) i ((l.length / 8:Nat):Int) i q.length (Ai .u8 q) q.length j (Ai .u64 ((wl l i).set i x)) =
   H0 fu (Ae C0 Tryz.prog fu d) n c m0 l.length (Ai .u8 l) (l.length / 8) ((l.length / 8:Nat):Int) ((i+1:Nat):Int) (Ai .u64 ((wl l i).set i (r.foldl Fc x)))
 |_,_,0,_,_,h,_=>by omega
 |[],j,nn+1,x,h,hn,hj=>by
  have:=drop_nil h;have w:wrap .i64 ((i:Int)+1)=((i+1:Nat):Int):=by rw [At (by omega) (by omega)];omega
  rw [R4,Dt _ _ _ (by omega)]
  simp only [Hr,w,List.foldl_nil]
 |b::r,j,nn+1,x,h,hn,hj=>by
  obtain ⟨h1,h2,h3⟩:=Cg h;simp only [Ib] at hn;have w:wrap .i64 ((j:Int)+1)=((j+1:Nat):Int):=by rw [At (by omega) (by omega)];omega
  have L:(Ai .u64 ((wl l i).set i x)).length=l.length / 8:=by rw [Aq,List.length_set,Akl l (by omega)]
  have hat:(Ai .u64 ((wl l i).set i x)).getD i .top=.sc (.int .u64 x):=Qb (by rw [List.getElem?_set_self (by rw [Akl l (by omega)];omega)])
  have hset:B7 (Ai .u64 ((wl l i).set i x)) [.sc (.int .u64 (Fc x b))] i=Ai .u64 ((wl l i).set i (Fc x b)):=by
   rw [Jg (by omega),AB,List.set_set]
  have ih:=WX (n:=n) (m0:=m0) (c:=c) hl hi hq r (j+1) nn (Fc x b) h3 (by omega) (by omega)
  rw [List.foldl_cons,←ih,R4];simp (disch:=omega) only [B6,Hc,Bj,Bv,Qb h2,hat,L,w];exact congrArg _ hset
theorem NI {n:Nat}{c:List PV}{l:List Int}(hl:l.length<=1000000)(hfu:100<=fu):∀(k i nn:Nat),i+k=l.length / 8->k<nn ->
  H0 fu (Ae C0 Tryz.prog fu d) n c nn l.length (Ai .u8 l) (l.length / 8) ((l.length / 8:Nat):Int) i (Ai .u64 (wl l i))=some ⟨[.own 1 (l.length / 8) (Ai .u64 (Fl l))],[]⟩
 |_,_,0,_,h=>by omega
 |0,i,nn+1,hi,hn=>by
  have e:i=l.length / 8:=by omega
  subst e;have e2:wl l (l.length / 8)=Fl l:=by unfold wl Fl;simp
  have L:(Ai .u64 (Fl l)).length=l.length / 8:=by rw [Aq];simp [Fl]
  have tk:List.take (l.length / 8) (Ai .u64 (Fl l))=Ai .u64 (Fl l):=I0 (by omega)
  rw [Sy,Dt _ _ _ (by omega),e2]
  simp (disch:=omega) only [B6,Bj,L,tk]
 |k+1,i,nn+1,hi,hn=>by
  have ih:=NI (n:=n) (c:=c) hl hfu k (i+1) nn (by omega) (by omega)
  have w8:wrap .i64 (8*(i:Int))=((8*i:Nat):Int):=by rw [At (by omega) (by omega)];omega
  have w88:wrap .i64 (((8*i:Nat):Int)+8)=((8*i+8:Nat):Int):=by rw [At (by omega) (by omega)];omega
  have e8:8*i+8-8*i=8:=by omega
  have hdl:((l.drop (8*i)).take 8).length=8:=by rw [List.length_take,List.length_drop];omega
  have st:=WX (fu:=fu) (d:=d) (n:=n) (m0:=nn) (c:=c) hl (i:=i) (by omega) (q:=(l.drop (8*i)).take 8) (by omega) ((l.drop (8*i)).take 8) 0 fu 0 rfl (by omega) (by omega)
  rw [Ao5 l (by omega),hdl] at st
  have ew:((l.drop (8*i)).take 8).foldl Fc 0=Kb l i:=rfl;rw [ew,Ar2 l (by omega),ih] at st
  rw [Sy];simp (disch:=omega) only [B6,Hc,Bj,w8,w88,e8,E2,D3];exact st
theorem Alv (n:Nat):Yk n [.sc (.int .u64 0)]=Ai .u64 (List.replicate n 0):=by
 induction n with
 |zero=>rfl
 |succ n ih=>
  show ([PV.sc (.int .u64 0)]::List.replicate n [PV.sc (.int .u64 0)]).flatten=_;rw [List.flatten_cons,List.replicate_succ];show _++Yk n [.sc (.int .u64 0)]=PV.sc (.int .u64 0)::Ai .u64 (List.replicate n 0);rw [ih];rfl
theorem KT {l:List Int}(hl:l.length<=1000000)(hfu:100<=fu)(hf:l.length<fu):Ae C0 Tryz.prog fu (d+1) X6 [.lst false 1 l.length (Ai .u8 l)]=some ⟨[.own 1 (l.length / 8) (Ai .u64 (Fl l))],[]⟩:=by
 rw [OR]
 have w:wrap .i64 (Int.tdiv (l.length:Int) 8)=((l.length / 8:Nat):Int):=by
  rw [Int.tdiv_eq_ediv_of_nonneg (by omega),At (by omega) (by omega)]
  omega
 have lp:=NI (fu:=fu) (d:=d) (n:=l.length) (c:=Ai .u8 l) hl hfu (l.length / 8) 0 fu (by omega) (by omega)
 have e0:wl l 0=List.replicate (l.length / 8) 0:=by unfold wl;simp
 rw [e0] at lp;simp (disch:=omega) only [B6,w,Hc,Alv,Int.le_refl];exact lp
def DK (l:List Int):Option Ky:=if l.length=9∧Df (l.getD 0 0)=false then some ⟨l.getD 0 0,Kb (l.drop 1) 0⟩ else none
def FT (o:Option Ky):List PV:=match o with|some k=>[.agg k.cells,.sc (.int .i64 0)]|none=>[.agg (Ky.mk 0 0).cells,.sc (.int .i64 2)]
theorem Aja (hfu:1000<=fu){l:List Int}(hb:G9 l):Ae C0 Tryz.prog fu (d+2) Qu [.lst false 1 l.length (Ai .u8 l)]=some ⟨FT (DK l),[]⟩:=by
 refine (CS fu (d+1) l.length (Ai .u8 l)).trans ?_;unfold DK;by_cases h9:l.length=9
 ·obtain ⟨x,hx⟩:∃x,l[0]?=some x:=⟨_,List.getElem?_eq_getElem (by omega)⟩
  have hxb:=hb x (List.mem_of_getElem? hx);have wx:wrap .i64 x=x:=At (by omega) (by omega)
  have gx:l.getD 0 0=x:=by rw [List.getD_eq_getElem?_getD,hx];rfl
  have h1:=GX (fu:=fu) (d:=d) x;rw [gx];cases c1:Df x
  ·rw [c1] at h1;have hdl:(l.drop 1).length=8:=by rw [List.length_drop];omega
   have dw:=KT (fu:=fu) (d:=d) (l:=l.drop 1) (by omega) (by omega) (by omega)
   rw [hdl] at dw;have hat:(Ai .u64 (Fl (l.drop 1))).getD 0 .top=.sc (.int .u64 (Kb (l.drop 1) 0)):=Qb (by unfold Fl;rw [hdl];rfl)
   have e8:9-1=8:=rfl;have tk:List.take 8 (Ai .u8 (l.drop 1))=Ai .u8 (l.drop 1):=I0 (by rw [Aq];omega)
   rw [Bl ⟨h9,rfl⟩,h9];simp (disch:=omega) only [B6,Dp,Qb hx,wx,h1,Bj,E2,e8,tk,dw,hat];rfl
  ·rw [c1] at h1;rw [A3 (by simp),h9]
   simp (disch:=omega) only [B6,Dp,Qb hx,wx,h1];rfl
 ·rw [A3 (by simp [h9])]
  simp (disch:=omega) only [Dp];rw [A3 (by omega)]
  rfl
def OG (l:List Int):Option Sg:=
 if 2<=l.length∧Df (l.getD 1 0)=false∧Gc (l.getD 0 0) (l.getD 1 0)=false∧(l.length:Int)=2+8*(18+l.getD 1 0) then some ⟨l.getD 0 0,Fl ((l.drop 2).take 144),Fl (l.drop 146)⟩ else none
def Sg.owned (s:Sg):List PV:=[.sc (.int .i64 s.leaf),.own 1 s.chains.length (Ai .u64 s.chains),.own 1 s.path.length (Ai .u64 s.path)]
def Si (o:Option Sg):List PV:=match o with|some s=>[.agg s.owned,.sc (.int .i64 0)]|none=>[.agg (Sg.mk 0 [] []).owned,.sc (.int .i64 2)]
theorem Sp (l:List Int):(Fl l).length=l.length / 8:=by simp [Fl]
theorem LU (hfu:1000<=fu){l:List Int}(hb:G9 l):Ae C0 Tryz.prog fu (d+2) J2 [.lst false 1 l.length (Ai .u8 l)]=some ⟨Si (OG l),[]⟩:=by
 refine (Th fu (d+1) l.length (Ai .u8 l)).trans ?_;unfold OG;by_cases h2:2<=l.length
 ·obtain ⟨x,hx⟩:∃x,l[0]?=some x:=⟨_,List.getElem?_eq_getElem (by omega)⟩
  obtain ⟨y,hy⟩:∃y,l[1]?=some y:=⟨_,List.getElem?_eq_getElem (by omega)⟩
  have hxb:=hb x (List.mem_of_getElem? hx);have hyb:=hb y (List.mem_of_getElem? hy);have wx:wrap .i64 x=x:=At (by omega) (by omega)
  have wy:wrap .i64 y=y:=At (by omega) (by omega)
  have gx:l.getD 0 0=x:=by rw [List.getD_eq_getElem?_getD,hx];rfl
  have gy:l.getD 1 0=y:=by rw [List.getD_eq_getElem?_getD,hy];rfl
  have h1:=GX (fu:=fu) (d:=d) y;have ho:=EV (fu:=fu) (d:=d) x y (by omega)
  have w1:wrap .i64 (18+y)=18+y:=At (by omega) (by omega)
  have w2:wrap .i64 (8*(18+y))=8*(18+y):=At (by omega) (by omega)
  have w3:wrap .i64 (2+8*(18+y))=2+8*(18+y):=At (by omega) (by omega)
  rw [gx,gy];cases c1:Df y
  ·rw [c1] at h1;cases c2:Gc x y
   ·rw [c2] at ho;by_cases c3:(l.length:Int)=2+8*(18+y)
    ·have hy4:=Gr c1;have d1:=KT (fu:=fu) (d:=d) (l:=(l.drop 2).take 144) (by rw [List.length_take,List.length_drop];omega) (by omega) (by rw [List.length_take,List.length_drop];omega)
     have d2:=KT (fu:=fu) (d:=d) (l:=l.drop 146) (by rw [List.length_drop];omega) (by omega) (by rw [List.length_drop];omega)
     have l1:((l.drop 2).take 144).length=144:=by rw [List.length_take,List.length_drop];omega
     have l2:(l.drop 146).length=l.length-146:=List.length_drop;rw [l1] at d1;have L1:(Ai .u64 (Fl ((l.drop 2).take 144))).length=18:=by rw [Aq,Sp,l1]
     have L2:(Ai .u64 (Fl (l.drop 146))).length=(l.length-146) / 8:=by rw [Aq,Sp,l2]
     rw [l2] at d2;have t1:List.take (144 / 8) (Ai .u64 (Fl ((l.drop 2).take 144)))=Ai .u64 (Fl ((l.drop 2).take 144)):=I0 (by omega)
     have t2:List.take ((l.length-146) / 8) (Ai .u64 (Fl (l.drop 146)))=Ai .u64 (Fl (l.drop 146)):=I0 (by omega)
     have t3:List.take (l.length-146) (l.drop 146)=l.drop 146:=I0 (by omega)
     rw [Bl ⟨h2,rfl,rfl,c3⟩];simp (disch:=omega) only [B6,Dp,Qb hx,Qb hy,wx,wy,h1,ho,w1,w2,w3,Bj,E2,D3,d1,d2,t3,L1,L2,t1,t2];rw [Bl c3];simp only [Si,Sg.owned,Sp,l1,l2]
    ·rw [A3 (by simp [c3])]
     simp (disch:=omega) only [B6,Dp,Qb hx,Qb hy,wx,wy,h1,ho,w1,w2,w3];rw [A3 c3];rfl
   ·rw [c2] at ho;rw [A3 (by simp)]
    simp (disch:=omega) only [B6,Dp,Qb hx,Qb hy,wx,wy,h1,ho];rfl
  ·rw [c1] at h1;rw [A3 (by simp)]
   simp (disch:=omega) only [B6,Dp,Qb hx,Qb hy,wx,wy,h1];rfl
 ·rw [A3 (by simp [h2])]
  simp (disch:=omega) only [B6];rfl
end
end
section
open Go.IntKind (wrap)
set_option maxRecDepth 100000
abbrev Pq:FuncId:=35
theorem Z8 (fu d:Nat)(a0:Int):Ae C0 Tryz.prog fu (d+1) Pq [.sc (.int .i64 a0)]=(fun (call:Ar)=>A4 (decide (a0>=0)) (some (A0.mk [.sc (.bool (decide (a0<=4)))] [])) (some (A0.mk [.sc (.bool false)] []))) (Ae C0 Tryz.prog fu d):=by kernel_rfl
abbrev Qt:FuncId:=61
noncomputable def G5 (fu:Nat)(call:Ar)(a0:Int)(nn:Nat)(y0:Int)(y1:Nat)(y2 y3:Int)(y4:List PV):Option A0:=Cz C0 Tryz.prog fu call 61 Tryz.f61 (B9 Tryz.f61) [.sc (.int .u64 a0)] [.r,.r,.r,.l,.r,.l] nn ⟨lk [(0,(.sc (.int .u64 y0))),(3,(.view 3 1 0 y1)),(4,(.sc (.int .i64 y2))),(5,(.sc (.int .i64 y3)))],Gl [(3,(.ar false y4))]⟩
theorem Me (fu:Nat)(call:Ar)(a0:Int)(nn:Nat)(y0:Int)(y1:Nat)(y2 y3:Int)(y4:List PV):G5 fu call a0 (nn+1) y0 y1 y2 y3 y4=(A4 (decide (y3>=0)) (Aa (wrap .i64 (4*y3)) fun x1=>Aa (wrap .u64 x1) fun x2=>Ay (decide (0<=x2))<|Aa (El .u64 y0 x2) fun x3=>Aa (Ed .u64 x3 15) fun x4=>Aa (wrap .i64 x4) fun x5=>Ay (decide (y1*1<=y4.length)&&true&&decide ((y1+1)*8<=1099511627776)&&decide (y1+1<=1099511627776))<|Aa (y1+1) fun x6=>Aa (List.take (y1*1) y4++[.sc (.int .i64 x5)]) fun x7=>Aa (wrap .i64 (15-x5)) fun x8=>Aa (wrap .i64 (y2+x8)) fun x9=>Aa (wrap .i64 (y3-1)) fun Ck=>G5 fu call a0 (nn) (y0) x6 x9 Ck x7) (Aa (wrap .i64 (Int.tdiv y2 16)) fun Bn=>Aa (Int.tmod y2 16) fun Cw=>Ay (decide (y1*1<=y4.length)&&true&&decide ((y1+2)*8<=1099511627776)&&decide (y1+2<=1099511627776))<|Aa (y1+2) fun Da=>Aa (List.take (y1*1) y4++[.sc (.int .i64 Bn),.sc (.int .i64 Cw)]) fun Cq=>Ay (decide (Da*1<=Cq.length))<|some (A0.mk [.own 1 Da (List.take (Da*1) Cq)] []))):=by kernel_rfl
theorem DC (fu d:Nat)(a0:Int):Ae C0 Tryz.prog fu (d+1) Qt [.sc (.int .u64 a0)]=(fun (call:Ar)=>G5 fu call a0 (fu) (a0) 0 0 15 ([])) (Ae C0 Tryz.prog fu d):=by kernel_rfl
abbrev Ud:FuncId:=62
noncomputable def H8 (fu:Nat)(call:Ar)(a0 a1:Int)(a2 a3 a4:Int)(nn:Nat)(y0 y1:Int)(y2 y3 y4:Int):Option A0:=Cz C0 Tryz.prog fu call 62 Tryz.f62 (B9 Tryz.f62) [.sc (.int .i64 a0),.sc (.int .i64 a1),.sc (.int .i64 a2),.sc (.int .i64 a3),.sc (.int .u64 a4)] [.r,.l,.r,.l] nn ⟨lk [(0,(.sc (.int .i64 y0))),(1,(.sc (.int .i64 y1))),(3,(.sc (.int .i64 y2))),(4,(.sc (.int .u64 y3))),(11,(.sc (.int .i64 y4)))],Gl []⟩
theorem O6 (fu:Nat)(call:Ar)(a0 a1:Int)(a2 a3 a4:Int)(nn:Nat)(y0 y1:Int)(y2 y3 y4:Int):H8 fu call a0 a1 a2 a3 a4 (nn+1) y0 y1 y2 y3 y4=(Aa (if 15<y2 then 15 else y2) fun x2=>A4 (decide (y4<x2)) (Aa (wrap .u64 y0) fun x3=>Aa (wrap .u64 y1) fun x4=>Aa (wrap .u64 y4) fun x5=>Aj (call 38 [.lst false 1 4 [.sc (.int .u64 x3),.sc (.int .u64 x4),.sc (.int .u64 x5),.sc (.int .u64 y3)]]) fun x6 x7=>Ac x7<|Ab x6 fun x8 x9=>Dc 1 x8 fun Ck Bn=>Ac x9<|Ay (decide (0+Ck*1<=Bn.length))<|Aj (call 46 [.sc (.int .i64 1),.lst false 1 Ck (List.take (Ck*1) (List.drop 0 Bn))]) fun Cw Da=>Ac Da<|Ab Cw fun Cq Cy=>Af .u64 Cq fun Db=>Ac Cy<|Aa (wrap .i64 (y4+1)) fun Dq=>H8 fu call a0 a1 a2 a3 a4 (nn) (y0) (y1) (y2) Db Dq) (some (A0.mk [.sc (.int .u64 y3)] []))):=by kernel_rfl
theorem GR (fu d:Nat)(a0 a1:Int)(a2 a3 a4:Int):Ae C0 Tryz.prog fu (d+1) Ud [.sc (.int .i64 a0),.sc (.int .i64 a1),.sc (.int .i64 a2),.sc (.int .i64 a3),.sc (.int .u64 a4)]=(fun (call:Ar)=>Aa (if a2<0 then 0 else a2) fun x1=>H8 fu call a0 a1 a2 a3 a4 (fu) (a0) (a1) (a3) (a4) x1) (Ae C0 Tryz.prog fu d):=by kernel_rfl
abbrev O1:FuncId:=63
theorem Zm (fu d:Nat)(a0 a1 a2:Int):Ae C0 Tryz.prog fu (d+1) O1 [.sc (.int .u64 a0),.sc (.int .i64 a1),.sc (.int .i64 a2)]=(fun (call:Ar)=>Aa (wrap .u64 a1) fun x1=>Aa (wrap .u64 a2) fun x2=>Aj (call 38 [.lst false 1 2 [.sc (.int .u64 x1),.sc (.int .u64 x2)]]) fun x3 x4=>Ac x4<|Ab x3 fun x5 x6=>Dc 1 x5 fun x7 x8=>Ac x6<|Ay (decide (0+x7*1<=x8.length))<|Aj (call 79 [.sc (.int .u64 a0),.sc (.int .i64 1),.lst false 1 x7 (List.take (x7*1) (List.drop 0 x8))]) fun x9 Ck=>Ac Ck<|Ab x9 fun Bn Cw=>Af .u64 Bn fun Da=>Ac Cw<|some (A0.mk [.sc (.int .u64 Da)] [])) (Ae C0 Tryz.prog fu d):=by kernel_rfl
abbrev Sq:FuncId:=65
theorem EU (fu d:Nat)(a0:Int)(a1n:Nat)(a1:List PV):Ae C0 Tryz.prog fu (d+1) Sq [.sc (.int .i64 a0),.lst false 1 a1n a1]=(fun (call:Ar)=>Aa (wrap .u64 a0) fun x1=>Aj (call 38 [.lst false 1 1 [.sc (.int .u64 x1)]]) fun x2 x3=>Ac x3<|Ab x2 fun x4 x5=>Dc 1 x4 fun x6 x7=>Ac x5<|Aj (call 38 [.lst false 1 a1n a1]) fun x8 x9=>Ac x9<|Ab x8 fun Ck Bn=>Dc 1 Ck fun Cw Da=>Ac Bn<|Ay (decide (0+Cw*1<=Da.length))<|Ay (decide (x6*1<=x7.length)&&decide (List.length (List.take (Cw*1) (List.drop 0 Da))=Cw*1)&&decide ((x6+Cw)*1<=1099511627776)&&decide (x6+Cw<=1099511627776))<|Aa (x6+Cw) fun Cq=>Aa (List.take (x6*1) x7++List.take (Cw*1) (List.drop 0 Da)) fun Cy=>Ay (decide (0+Cq*1<=Cy.length))<|Aj (call 46 [.sc (.int .i64 2),.lst false 1 Cq (List.take (Cq*1) (List.drop 0 Cy))]) fun Db Dq=>Ac Dq<|Ab Db fun D2 D0=>Af .u64 D2 fun D9=>Ac D0<|some (A0.mk [.sc (.int .u64 D9)] [])) (Ae C0 Tryz.prog fu d):=by kernel_rfl
abbrev R9:FuncId:=64
noncomputable def Hm (fu:Nat)(call:Ar)(a0 a1:Int)(nn:Nat)(y0 y1:Int)(y2:Nat)(y3:Int)(y4:List PV):Option A0:=Cz C0 Tryz.prog fu call 64 Tryz.f64 (B9 Tryz.f64) [.sc (.int .u64 a0),.sc (.int .i64 a1)] [.r,.r,.l,.r,.l] nn ⟨lk [(0,(.sc (.int .u64 y0))),(1,(.sc (.int .i64 y1))),(5,(.view 5 1 0 y2)),(6,(.sc (.int .i64 y3)))],Gl [(5,(.ar false y4))]⟩
theorem Nj (fu:Nat)(call:Ar)(a0 a1:Int)(nn:Nat)(y0 y1:Int)(y2:Nat)(y3:Int)(y4:List PV):Hm fu call a0 a1 (nn+1) y0 y1 y2 y3 y4=(A4 (decide (y3<18)) (Aj (call 63 [.sc (.int .u64 y0),.sc (.int .i64 y1),.sc (.int .i64 y3)]) fun x1 x2=>Ac x2<|Ab x1 fun x3 x4=>Af .u64 x3 fun x5=>Ac x4<|Aj (call 62 [.sc (.int .i64 y1),.sc (.int .i64 y3),.sc (.int .i64 0),.sc (.int .i64 15),.sc (.int .u64 x5)]) fun x6 x7=>Ac x7<|Ab x6 fun x8 x9=>Af .u64 x8 fun Ck=>Ac x9<|Ay (decide (y2*1<=y4.length)&&true&&decide ((y2+1)*8<=1099511627776)&&decide (y2+1<=1099511627776))<|Aa (y2+1) fun Bn=>Aa (List.take (y2*1) y4++[.sc (.int .u64 Ck)]) fun Cw=>Aa (wrap .i64 (y3+1)) fun Da=>Hm fu call a0 a1 (nn) (y0) (y1) Bn Da Cw) (Ay (decide (0+y2*1<=y4.length))<|Aj (call 65 [.sc (.int .i64 y1),.lst false 1 y2 (List.take (y2*1) (List.drop 0 y4))]) fun Cq Cy=>Ac Cy<|Ab Cq fun Db Dq=>Af .u64 Db fun D2=>Ac Dq<|some (A0.mk [.sc (.int .u64 D2)] []))):=by kernel_rfl
theorem EH (fu d:Nat)(a0 a1:Int):Ae C0 Tryz.prog fu (d+1) R9 [.sc (.int .u64 a0),.sc (.int .i64 a1)]=(fun (call:Ar)=>Hm fu call a0 a1 (fu) (a0) (a1) 0 0 ([])) (Ae C0 Tryz.prog fu d):=by kernel_rfl
abbrev Mj:FuncId:=36
noncomputable def F2 (fu:Nat)(call:Ar)(a0 a1 a2:Int)(nn:Nat)(y0 y1:Int)(y2 y3:Nat)(y4:Int)(y5 y6:List PV):Option A0:=Cz C0 Tryz.prog fu call 36 Tryz.f36 (B9 Tryz.f36) [.sc (.int .u64 a0),.sc (.int .i64 a1),.sc (.int .u64 a2)] [.r,.r,.r,.l,.r,.l] nn ⟨lk [(0,(.sc (.int .u64 y0))),(1,(.sc (.int .i64 y1))),(7,(.view 7 1 0 y2)),(8,(.view 8 1 0 y3)),(9,(.sc (.int .i64 y4)))],Gl [(7,(.ar false y5)),(8,(.ar false y6))]⟩
theorem J4 (fu:Nat)(call:Ar)(a0 a1 a2:Int)(nn:Nat)(y0 y1:Int)(y2 y3:Nat)(y4:Int)(y5 y6:List PV):F2 fu call a0 a1 a2 (nn+1) y0 y1 y2 y3 y4 y5 y6=(A4 (decide (y4<18)) (Ay (decide (0<=y4)&&decide (y4<(↑y2:Int)))<|Af .i64 (List.getD y5 (0+Int.toNat y4*1) .top) fun x7=>Aj (call 63 [.sc (.int .u64 y0),.sc (.int .i64 y1),.sc (.int .i64 y4)]) fun x8 x9=>Ac x9<|Ab x8 fun Ck Bn=>Af .u64 Ck fun Cw=>Ac Bn<|Aj (call 62 [.sc (.int .i64 y1),.sc (.int .i64 y4),.sc (.int .i64 0),.sc (.int .i64 x7),.sc (.int .u64 Cw)]) fun Da Cq=>Ac Cq<|Ab Da fun Cy Db=>Af .u64 Cy fun Dq=>Ac Db<|Ay (decide (y3*1<=y6.length)&&true&&decide ((y3+1)*8<=1099511627776)&&decide (y3+1<=1099511627776))<|Aa (y3+1) fun D2=>Aa (List.take (y3*1) y6++[.sc (.int .u64 Dq)]) fun D0=>Aa (wrap .i64 (y4+1)) fun D9=>F2 fu call a0 a1 a2 (nn) (y0) (y1) (y2) D2 D9 (y5) D0) (Ay (decide (y3*1<=y6.length))<|some (A0.mk [.own 1 y3 (List.take (y3*1) y6)] []))):=by kernel_rfl
theorem Xk (fu d:Nat)(a0 a1 a2:Int):Ae C0 Tryz.prog fu (d+1) Mj [.sc (.int .u64 a0),.sc (.int .i64 a1),.sc (.int .u64 a2)]=(fun (call:Ar)=>Aj (call 61 [.sc (.int .u64 a2)]) fun x1 x2=>Ac x2<|Ab x1 fun x3 x4=>Dc 1 x3 fun x5 x6=>Ac x4<|F2 fu call a0 a1 a2 (fu) (a0) (a1) x5 0 0 x6 ([])) (Ae C0 Tryz.prog fu d):=by kernel_rfl
abbrev Ni:FuncId:=39
noncomputable def F9 (fu:Nat)(call:Ar)(a0 a1:Int)(a2n:Nat)(a2:List PV)(nn:Nat)(y0:Int)(y1:Nat)(y2:List PV)(y3 y4:Nat)(y5:Int)(y6 y7:List PV):Option A0:=Cz C0 Tryz.prog fu call 39 Tryz.f39 (B9 Tryz.f39) [.sc (.int .i64 a0),.sc (.int .u64 a1),.lst false 1 a2n a2] [.r,.r,.r,.r,.l,.r,.l] nn ⟨lk [(0,(.sc (.int .i64 y0))),(2,(.lst false 1 y1 y2)),(8,(.view 8 1 0 y3)),(9,(.view 9 1 0 y4)),(10,(.sc (.int .i64 y5)))],Gl [(8,(.ar false y6)),(9,(.ar false y7))]⟩
theorem Kp (fu:Nat)(call:Ar)(a0 a1:Int)(a2n:Nat)(a2:List PV)(nn:Nat)(y0:Int)(y1:Nat)(y2:List PV)(y3 y4:Nat)(y5:Int)(y6 y7:List PV):F9 fu call a0 a1 a2n a2 (nn+1) y0 y1 y2 y3 y4 y5 y6 y7=(A4 (decide (y5<18)) (Ay (decide (0<=y5)&&decide (y5<(↑y3:Int)))<|Af .i64 (List.getD y6 (0+Int.toNat y5*1) .top) fun x7=>Ay (decide (0<=y5)&&decide (y5<(↑y1:Int)))<|Af .u64 (List.getD y2 (Int.toNat y5*1) .top) fun x8=>Aj (call 62 [.sc (.int .i64 y0),.sc (.int .i64 y5),.sc (.int .i64 x7),.sc (.int .i64 15),.sc (.int .u64 x8)]) fun x9 Ck=>Ac Ck<|Ab x9 fun Bn Cw=>Af .u64 Bn fun Da=>Ac Cw<|Ay (decide (y4*1<=y7.length)&&true&&decide ((y4+1)*8<=1099511627776)&&decide (y4+1<=1099511627776))<|Aa (y4+1) fun Cq=>Aa (List.take (y4*1) y7++[.sc (.int .u64 Da)]) fun Cy=>Aa (wrap .i64 (y5+1)) fun Db=>F9 fu call a0 a1 a2n a2 (nn) (y0) (y1) (y2) (y3) Cq Db (y6) Cy) (Ay (decide (0+y4*1<=y7.length))<|Aj (call 65 [.sc (.int .i64 y0),.lst false 1 y4 (List.take (y4*1) (List.drop 0 y7))]) fun Dq D2=>Ac D2<|Ab Dq fun D0 D9=>Af .u64 D0 fun Fj=>Ac D9<|some (A0.mk [.sc (.int .u64 Fj),.sc (.int .i64 0)] []))):=by kernel_rfl
theorem Yo (fu d:Nat)(a0 a1:Int)(a2n:Nat)(a2:List PV):Ae C0 Tryz.prog fu (d+1) Ni [.sc (.int .i64 a0),.sc (.int .u64 a1),.lst false 1 a2n a2]=(fun (call:Ar)=>A4 ((↑a2n:Int) != 18) (some (A0.mk [.sc (.int .u64 0),.sc (.int .i64 4)] [])) (Aj (call 61 [.sc (.int .u64 a1)]) fun x1 x2=>Ac x2<|Ab x1 fun x3 x4=>Dc 1 x3 fun x5 x6=>Ac x4<|F9 fu call a0 a1 a2n a2 (fu) (a0) (a2n) (a2) x5 0 0 x6 ([]))) (Ae C0 Tryz.prog fu d):=by kernel_rfl
abbrev Pk:FuncId:=40
theorem Zh (fu d:Nat)(a0 a1 a2:Int):Ae C0 Tryz.prog fu (d+1) Pk [.sc (.int .i64 a0),.sc (.int .u64 a1),.sc (.int .u64 a2)]=(fun (call:Ar)=>Aa (wrap .u64 a0) fun x1=>Aj (call 38 [.lst false 1 3 [.sc (.int .u64 x1),.sc (.int .u64 a1),.sc (.int .u64 a2)]]) fun x2 x3=>Ac x3<|Ab x2 fun x4 x5=>Dc 1 x4 fun x6 x7=>Ac x5<|Ay (decide (0+x6*1<=x7.length))<|Aj (call 46 [.sc (.int .i64 3),.lst false 1 x6 (List.take (x6*1) (List.drop 0 x7))]) fun x8 x9=>Ac x9<|Ab x8 fun Ck Bn=>Af .u64 Ck fun Cw=>Ac Bn<|some (A0.mk [.sc (.int .u64 Cw)] [])) (Ae C0 Tryz.prog fu d):=by kernel_rfl
abbrev S3:FuncId:=37
theorem Sn (fu d:Nat)(a0 a1 a2:Int):Ae C0 Tryz.prog fu (d+1) S3 [.sc (.int .u64 a0),.sc (.int .i64 a1),.sc (.int .i64 a2)]=(fun (call:Ar)=>A4 (a1==0) (Aj (call 64 [.sc (.int .u64 a0),.sc (.int .i64 a2)]) fun x1 x2=>Ac x2<|Ab x1 fun x3 x4=>Af .u64 x3 fun x5=>Ac x4<|some (A0.mk [.sc (.int .u64 x5)] [])) (Aa (wrap .i64 (a1-1)) fun x6=>Aa (wrap .i64 (2*a2)) fun x7=>Aj (call 37 [.sc (.int .u64 a0),.sc (.int .i64 x6),.sc (.int .i64 x7)]) fun x8 x9=>Ac x9<|Ab x8 fun Ck Bn=>Af .u64 Ck fun Cw=>Ac Bn<|Aa (wrap .i64 (a1-1)) fun Da=>Aa (wrap .i64 (2*a2)) fun Cq=>Aa (wrap .i64 (Cq+1)) fun Cy=>Aj (call 37 [.sc (.int .u64 a0),.sc (.int .i64 Da),.sc (.int .i64 Cy)]) fun Db Dq=>Ac Dq<|Ab Db fun D2 D0=>Af .u64 D2 fun D9=>Ac D0<|Aj (call 40 [.sc (.int .i64 a1),.sc (.int .u64 Cw),.sc (.int .u64 D9)]) fun Fj Cn=>Ac Cn<|Ab Fj fun Fn Dj=>Af .u64 Fn fun B3=>Ac Dj<|some (A0.mk [.sc (.int .u64 B3)] []))) (Ae C0 Tryz.prog fu d):=by kernel_rfl
abbrev Pd:FuncId:=34
theorem AJ (fu d:Nat)(a0 a1:Int):Ae C0 Tryz.prog fu (d+1) Pd [.sc (.int .u64 a0),.sc (.int .i64 a1)]=(fun (call:Ar)=>Aj (call 35 [.sc (.int .i64 a1)]) fun x1 x2=>Ac x2<|Ab x1 fun x3 x4=>Bx x3 fun x5=>Ac x4<|A4 (!x5) (some (A0.mk [.agg [.sc (.int .i64 0),.sc (.int .u64 0)],.sc (.int .i64 9)] [])) (Aj (call 37 [.sc (.int .u64 a0),.sc (.int .i64 a1),.sc (.int .i64 0)]) fun x6 x7=>Ac x7<|Ab x6 fun x8 x9=>Af .u64 x8 fun Ck=>Ac x9<|some (A0.mk [.agg [.sc (.int .i64 a1),.sc (.int .u64 Ck)],.sc (.int .i64 0)] []))) (Ae C0 Tryz.prog fu d):=by kernel_rfl
abbrev S2:FuncId:=17
noncomputable def Hl (fu:Nat)(call:Ar)(a0 a1:Int)(a2 a3:Int)(nn:Nat)(y0 y1:Int)(y2 y3 y4:Int)(y5 y6:Nat)(y7 y8:List PV)(y9:Int)(y10 Ej:Nat)(E5 Ic:List PV):Option A0:=Cz C0 Tryz.prog fu call 17 Tryz.f17 (B9 Tryz.f17) [.sc (.int .u64 a0),.sc (.int .i64 a1),.sc (.int .i64 a2),.sc (.int .u64 a3)] [.r,.r,.r,.l,.r,.l] nn ⟨lk [(0,(.sc (.int .u64 y0))),(1,(.sc (.int .i64 y1))),(2,(.sc (.int .i64 y2))),(8,(.ptr 8 0)),(10,(.ptr 10 0)),(11,(.sc (.int .i64 y3)))],Gl [(8,(.st [(.sc (.int .i64 y4)),(.view 112 1 0 y5),(.view 164 1 0 y6)])),(112,(.ar false y7)),(164,(.ar false y8)),(10,(.st [(.sc (.int .i64 y9)),(.view 114 1 0 y10),(.view 166 1 0 Ej)])),(114,(.ar false E5)),(166,(.ar false Ic))]⟩
theorem Nv (fu:Nat)(call:Ar)(a0 a1:Int)(a2 a3:Int)(nn:Nat)(y0 y1:Int)(y2 y3 y4:Int)(y5 y6:Nat)(y7 y8:List PV)(y9:Int)(y10 Ej:Nat)(E5 Ic:List PV):Hl fu call a0 a1 a2 a3 (nn+1) y0 y1 y2 y3 y4 y5 y6 y7 y8 y9 y10 Ej E5 Ic=(A4 (decide (y3<y1)) (Aa (wrap .u64 y3) fun Cq=>Ay (decide (0<=Cq))<|Aa (El .i64 y2 Cq) fun Cy=>Aa (Er .i64 Cy 1) fun Db=>Aj (call 37 [.sc (.int .u64 y0),.sc (.int .i64 y3),.sc (.int .i64 Db)]) fun Dq D2=>Ac D2<|Ab Dq fun D0 D9=>Af .u64 D0 fun Fj=>Ac D9<|Ay (decide (Ej*1<=Ic.length)&&true&&decide ((Ej+1)*8<=1099511627776)&&decide (Ej+1<=1099511627776))<|Aa (Ej+1) fun Cn=>Aa (List.take (Ej*1) Ic++[.sc (.int .u64 Fj)]) fun Fn=>Aa (wrap .i64 (y3+1)) fun Dj=>Hl fu call a0 a1 a2 a3 (nn) (y0) (y1) (y2) Dj (y4) (y5) (y6) (y7) (y8) (y9) (y10) Cn (E5) Fn) (Ay (decide (y10*1<=E5.length))<|Ay (decide (Ej*1<=Ic.length))<|some (A0.mk [.agg [.sc (.int .i64 y9),.own 1 y10 (List.take (y10*1) E5),.own 1 Ej (List.take (Ej*1) Ic)],.sc (.int .i64 0)] []))):=by kernel_rfl
theorem EG (fu d:Nat)(a0 a1:Int)(a2 a3:Int):Ae C0 Tryz.prog fu (d+1) S2 [.sc (.int .u64 a0),.sc (.int .i64 a1),.sc (.int .i64 a2),.sc (.int .u64 a3)]=(fun (call:Ar)=>Aj (call 35 [.sc (.int .i64 a1)]) fun x1 x2=>Ac x2<|Ab x1 fun x3 x4=>Bx x3 fun x5=>Ac x4<|A4 (!x5) (some (A0.mk [.agg [.sc (.int .i64 0),.own 1 0 [],.own 1 0 []],.sc (.int .i64 9)] [])) (A4 (decide (a2<0)) (some (A0.mk [.agg [.sc (.int .i64 0),.own 1 0 [],.own 1 0 []],.sc (.int .i64 9)] [])) (Aa (wrap .u64 a1) fun x6=>Ay (decide (0<=x6))<|Aa (Ff .i64 1 x6) fun x7=>A4 (decide (a2>=x7)) (some (A0.mk [.agg [.sc (.int .i64 0),.own 1 0 [],.own 1 0 []],.sc (.int .i64 9)] [])) (Aj (call 36 [.sc (.int .u64 a0),.sc (.int .i64 a2),.sc (.int .u64 a3)]) fun x8 x9=>Ac x9<|Ab x8 fun Ck Bn=>Dc 1 Ck fun Cw Da=>Ac Bn<|Hl fu call a0 a1 a2 a3 (fu) (a0) (a1) (a2) 0 0 0 0 ([]) ([]) (a2) Cw 0 Da ([]))))) (Ae C0 Tryz.prog fu d):=by kernel_rfl
abbrev O8:FuncId:=19
noncomputable def Fg (fu:Nat)(call:Ar)(a0_0 a0_1:Int)(a1 Rf:Int)(I6:Nat)(U5:List PV)(Je:Nat)(Wc:List PV)(nn:Nat)(y0 y1:Int)(y2 y3 y4:Int)(y5:Nat)(y6:List PV)(y7:Nat)(y8:List PV):Option A0:=Cz C0 Tryz.prog fu call 19 Tryz.f19 (B9 Tryz.f19) [.agg [.sc (.int .i64 a0_0),.sc (.int .u64 a0_1)],.sc (.int .u64 a1),.agg [.sc (.int .i64 Rf),.lst false 1 I6 U5,.lst false 1 Je Wc]] [.r,.r,.r,.r,.l,.r,.l] nn ⟨lk [(3,(.ptr 3 0)),(5,(.ptr 5 0)),(7,(.sc (.int .u64 y0))),(9,(.sc (.int .i64 y1)))],Gl [(3,(.st [(.sc (.int .i64 y2)),(.sc (.int .u64 y3))])),(5,(.st [(.sc (.int .i64 y4)),(.lst false 1 y5 y6),(.lst false 1 y7 y8)]))]⟩
theorem Mb (fu:Nat)(call:Ar)(a0_0 a0_1:Int)(a1 Rf:Int)(I6:Nat)(U5:List PV)(Je:Nat)(Wc:List PV)(nn:Nat)(y0 y1:Int)(y2 y3 y4:Int)(y5:Nat)(y6:List PV)(y7:Nat)(y8:List PV):Fg fu call a0_0 a0_1 a1 Rf I6 U5 Je Wc (nn+1) y0 y1 y2 y3 y4 y5 y6 y7 y8=(A4 (decide (y1<y2)) (Aa (wrap .u64 y1) fun Db=>Ay (decide (0<=Db))<|Aa (El .i64 y4 Db) fun Dq=>Aa (Ed .i64 Dq 1) fun D2=>A4 (D2==0) (Aa (wrap .i64 (y1+1)) fun D0=>Ay (decide (0<=y1)&&decide (y1<(↑y7:Int)))<|Af .u64 (List.getD y8 (Int.toNat y1*1) .top) fun D9=>Aj (call 40 [.sc (.int .i64 D0),.sc (.int .u64 y0),.sc (.int .u64 D9)]) fun Fj Cn=>Ac Cn<|Ab Fj fun Fn Dj=>Af .u64 Fn fun B3=>Ac Dj<|Aa (wrap .i64 (y1+1)) fun Et=>Fg fu call a0_0 a0_1 a1 Rf I6 U5 Je Wc (nn) B3 Et (y2) (y3) (y4) (y5) (y6) (y7) (y8)) (Aa (wrap .i64 (y1+1)) fun F1=>Ay (decide (0<=y1)&&decide (y1<(↑y7:Int)))<|Af .u64 (List.getD y8 (Int.toNat y1*1) .top) fun Bm=>Aj (call 40 [.sc (.int .i64 F1),.sc (.int .u64 Bm),.sc (.int .u64 y0)]) fun Cj Gt=>Ac Gt<|Ab Cj fun Gu Hz=>Af .u64 Gu fun Ha=>Ac Hz<|Aa (wrap .i64 (y1+1)) fun Il=>Fg fu call a0_0 a0_1 a1 Rf I6 U5 Je Wc (nn) Ha Il (y2) (y3) (y4) (y5) (y6) (y7) (y8))) (A4 (y0 != y3) (some (A0.mk [.sc (.int .i64 15)] [])) (some (A0.mk [.sc (.int .i64 0)] [])))):=by kernel_rfl
theorem AZ (fu d:Nat)(a0_0 a0_1:Int)(a1 Rf:Int)(I6:Nat)(U5:List PV)(Je:Nat)(Wc:List PV):Ae C0 Tryz.prog fu (d+1) O8 [.agg [.sc (.int .i64 a0_0),.sc (.int .u64 a0_1)],.sc (.int .u64 a1),.agg [.sc (.int .i64 Rf),.lst false 1 I6 U5,.lst false 1 Je Wc]]=(fun (call:Ar)=>Aj (call 35 [.sc (.int .i64 a0_0)]) fun x1 x2=>Ac x2<|Ab x1 fun x3 x4=>Bx x3 fun x5=>Ac x4<|A4 (!x5) (some (A0.mk [.sc (.int .i64 9)] [])) (A4 (decide (Rf<0)) (some (A0.mk [.sc (.int .i64 9)] [])) (Aa (wrap .u64 a0_0) fun x6=>Ay (decide (0<=x6))<|Aa (Ff .i64 1 x6) fun x7=>A4 (decide (Rf>=x7)) (some (A0.mk [.sc (.int .i64 9)] [])) (A4 ((↑I6:Int) != 18) (some (A0.mk [.sc (.int .i64 4)] [])) (A4 ((↑Je:Int) != a0_0) (some (A0.mk [.sc (.int .i64 4)] [])) (Aj (call 39 [.sc (.int .i64 Rf),.sc (.int .u64 a1),.lst false 1 I6 U5]) fun x8 x9=>Ac x9<|Ab x8 fun Ck Bn=>Af .u64 Ck fun Cw=>Ab Bn fun Da Cq=>Af .i64 Da fun Cy=>Ac Cq<|Fg fu call a0_0 a0_1 a1 Rf I6 U5 Je Wc (fu) Cw 0 (a0_0) (a0_1) (Rf) (I6) (U5) (Je) (Wc))))))) (Ae C0 Tryz.prog fu d):=by kernel_rfl
abbrev Ll:FuncId:=68
theorem Vo (fu d:Nat)(a0_0 a0_1:Int):Ae C0 Tryz.prog fu (d+1) Ll [.agg [.sc (.int .i64 a0_0),.sc (.int .u64 a0_1)]]=(fun (call:Ar)=>Aj (call 35 [.sc (.int .i64 a0_0)]) fun x1 x2=>Ac x2<|Ab x1 fun x3 x4=>Bx x3 fun x5=>Ac x4<|A4 (!x5) (some (A0.mk [.own 1 0 [],.sc (.int .i64 9)] [])) (Aa (wrap .u8 a0_0) fun x6=>Aj (call 38 [.lst false 1 1 [.sc (.int .u64 a0_1)]]) fun x7 x8=>Ac x8<|Ab x7 fun x9 Ck=>Dc 1 x9 fun Bn Cw=>Ac Ck<|Ay (decide (0+Bn*1<=Cw.length))<|Ay (decide (List.length (List.take (Bn*1) (List.drop 0 Cw))=Bn*1)&&decide ((1+Bn)*1<=1099511627776)&&decide (1+Bn<=1099511627776))<|Aa (1+Bn) fun Da=>Aa ([.sc (.int .u8 x6)]++List.take (Bn*1) (List.drop 0 Cw)) fun Cq=>Ay (decide (Da*1<=Cq.length))<|some (A0.mk [.own 1 Da (List.take (Da*1) Cq),.sc (.int .i64 0)] []))) (Ae C0 Tryz.prog fu d):=by kernel_rfl
abbrev Ln:FuncId:=43
theorem V1 (fu d a0n:Nat)(a0:List PV):Ae C0 Tryz.prog fu (d+1) Ln [.lst false 1 a0n a0]=(fun (call:Ar)=>A4 ((↑a0n:Int) != 9) (some (A0.mk [.agg [.sc (.int .i64 0),.sc (.int .u64 0)],.sc (.int .i64 2)] [])) (Ay (decide (0<(↑a0n:Int)))<|Af .u8 (List.getD a0 0 .top) fun x1=>Aa (wrap .i64 x1) fun x2=>Aj (call 35 [.sc (.int .i64 x2)]) fun x3 x4=>Ac x4<|Ab x3 fun x5 x6=>Bx x5 fun x7=>Ac x6<|A4 (!x7) (some (A0.mk [.agg [.sc (.int .i64 0),.sc (.int .u64 0)],.sc (.int .i64 2)] [])) (Ay (decide (0<(↑a0n:Int)))<|Af .u8 (List.getD a0 0 .top) fun x8=>Aa (wrap .i64 x8) fun x9=>Ay (decide (1<=a0n)&&decide (a0n<=a0n))<|Aa (a0n-1) fun Ck=>Aa (List.take (Ck*1) (List.drop 1 a0)) fun Bn=>Aj (call 53 [.lst false 1 Ck Bn]) fun Cw Da=>Ac Da<|Ab Cw fun Cq Cy=>Af .u64 Cq fun Db=>Ac Cy<|some (A0.mk [.agg [.sc (.int .i64 x9),.sc (.int .u64 Db)],.sc (.int .i64 0)] [])))) (Ae C0 Tryz.prog fu d):=by kernel_rfl
abbrev H3:FuncId:=18
theorem O9 (fu d:Nat)(a0_0:Int)(X9:Nat)(a0_1:List PV)(a0_2n:Nat)(a0_2:List PV):Ae C0 Tryz.prog fu (d+1) H3 [.agg [.sc (.int .i64 a0_0),.lst false 1 X9 a0_1,.lst false 1 a0_2n a0_2]]=(fun (call:Ar)=>A4 (decide ((↑a0_2n:Int)>4)) (some (A0.mk [.own 1 0 [],.sc (.int .i64 9)] [])) (A4 (decide (a0_0<0)) (some (A0.mk [.own 1 0 [],.sc (.int .i64 9)] [])) (Aa (wrap .u64 (↑a0_2n:Int)) fun x1=>Ay (decide (0<=x1))<|Aa (Ff .i64 1 x1) fun x2=>A4 (decide (a0_0>=x2)) (some (A0.mk [.own 1 0 [],.sc (.int .i64 9)] [])) (A4 ((↑X9:Int) != 18) (some (A0.mk [.own 1 0 [],.sc (.int .i64 4)] [])) (Aa (wrap .u8 a0_0) fun x3=>Aa (wrap .u8 (↑a0_2n:Int)) fun x4=>Aj (call 38 [.lst false 1 X9 a0_1]) fun x5 x6=>Ac x6<|Ab x5 fun x7 x8=>Dc 1 x7 fun x9 Ck=>Ac x8<|Ay (decide (0+x9*1<=Ck.length))<|Ay (decide (List.length (List.take (x9*1) (List.drop 0 Ck))=x9*1)&&decide ((2+x9)*1<=1099511627776)&&decide (2+x9<=1099511627776))<|Aa (2+x9) fun Bn=>Aa ([.sc (.int .u8 x3),.sc (.int .u8 x4)]++List.take (x9*1) (List.drop 0 Ck)) fun Cw=>Aj (call 38 [.lst false 1 a0_2n a0_2]) fun Da Cq=>Ac Cq<|Ab Da fun Cy Db=>Dc 1 Cy fun Dq D2=>Ac Db<|Ay (decide (0+Dq*1<=D2.length))<|Ay (decide (Bn*1<=Cw.length)&&decide (List.length (List.take (Dq*1) (List.drop 0 D2))=Dq*1)&&decide ((Bn+Dq)*1<=1099511627776)&&decide (Bn+Dq<=1099511627776))<|Aa (Bn+Dq) fun D0=>Aa (List.take (Bn*1) Cw++List.take (Dq*1) (List.drop 0 D2)) fun D9=>Ay (decide (D0*1<=D9.length))<|some (A0.mk [.own 1 D0 (List.take (D0*1) D9),.sc (.int .i64 0)] [])))))) (Ae C0 Tryz.prog fu d):=by kernel_rfl
abbrev H5:FuncId:=32
noncomputable def Hw (fu:Nat)(call:Ar)(a0n:Nat)(a0:List PV)(nn y0:Nat)(y1:List PV)(y2:Int)(y3 y4:Nat)(y5 y6:List PV):Option A0:=Cz C0 Tryz.prog fu call 32 Tryz.f32 (B9 Tryz.f32) [.lst false 1 a0n a0] [.r] nn ⟨lk [(0,(.lst false 1 y0 y1)),(2,(.ptr 2 0))],Gl [(2,(.st [(.sc (.int .i64 y2)),(.view 162 1 0 y3),(.view 242 1 0 y4)])),(162,(.ar false y5)),(242,(.ar false y6))]⟩
noncomputable def De (fu:Nat)(call:Ar)(a0n:Nat)(a0:List PV)(nn y0:Nat)(y1:List PV)(y2 y3:Int)(y4 y5:Nat)(y6 y7:List PV)(y8:Int)(y9 y10:Nat)(Ej E5:List PV):Option A0:=Cz C0 Tryz.prog fu call 32 Tryz.f32 (B9 Tryz.f32) [.lst false 1 a0n a0] [.r,.r,.r,.l,.r,.l] nn ⟨lk [(0,(.lst false 1 y0 y1)),(2,(.ptr 2 0)),(4,(.ptr 4 0)),(5,(.sc (.int .i64 y2)))],Gl [(2,(.st [(.sc (.int .i64 y3)),(.view 162 1 0 y4),(.view 242 1 0 y5)])),(162,(.ar false y6)),(242,(.ar false y7)),(4,(.st [(.sc (.int .i64 y8)),(.view 164 1 0 y9),(.view 244 1 0 y10)])),(164,(.ar false Ej)),(244,(.ar false E5))]⟩
theorem Mp (fu:Nat)(call:Ar)(a0n:Nat)(a0:List PV)(nn:Nat)(hnn:0<nn)(y0:Nat)(y1:List PV)(y2:Int)(y3 y4:Nat)(y5 y6:List PV):Hw fu call a0n a0 nn y0 y1 y2 y3 y4 y5 y6=(Ay (decide (0<(↑y0:Int)))<|Af .u8 (List.getD y1 0 .top) fun Da=>Aa (wrap .i64 Da) fun Cq=>De fu call a0n a0 (fu) (y0) (y1) 0 (y2) (y3) (y4) (y5) (y6) Cq 0 0 ([]) ([])):=by cases nn with|zero=>exact absurd hnn (Nat.lt_irrefl 0)|succ nn=>kernel_rfl
theorem Mx (fu:Nat)(call:Ar)(a0n:Nat)(a0:List PV)(nn y0:Nat)(y1:List PV)(y2 y3:Int)(y4 y5:Nat)(y6 y7:List PV)(y8:Int)(y9 y10:Nat)(Ej E5:List PV):De fu call a0n a0 (nn+1) y0 y1 y2 y3 y4 y5 y6 y7 y8 y9 y10 Ej E5=(Ay (decide (1<(↑y0:Int)))<|Af .u8 (List.getD y1 1 .top) fun Cy=>Aa (wrap .i64 Cy) fun Db=>Aa (wrap .i64 (18+Db)) fun Dq=>A4 (decide (y2<Dq)) (Aa (wrap .i64 (8*y2)) fun D2=>Aa (wrap .i64 (2+D2)) fun D0=>Aa (wrap .i64 (8*y2)) fun D9=>Aa (wrap .i64 (10+D9)) fun Fj=>Ay (decide (0<=D0))<|Ay (decide (0<=Fj))<|Ay (decide (Int.toNat D0<=Int.toNat Fj)&&decide (Int.toNat Fj<=y0))<|Aa (Int.toNat Fj-Int.toNat D0) fun Cn=>Aa (List.take (Cn*1) (List.drop (Int.toNat D0*1) y1)) fun Fn=>Aj (call 53 [.lst false 1 Cn Fn]) fun Dj B3=>Ac B3<|Ab Dj fun Et F1=>Af .u64 Et fun Bm=>Ac F1<|A4 (decide (y2<18)) (Ay (decide (y9*1<=Ej.length)&&true&&decide ((y9+1)*8<=1099511627776)&&decide (y9+1<=1099511627776))<|Aa (y9+1) fun Cj=>Aa (List.take (y9*1) Ej++[.sc (.int .u64 Bm)]) fun Gt=>Aa (wrap .i64 (y2+1)) fun Gu=>De fu call a0n a0 (nn) (y0) (y1) Gu (y3) (y4) (y5) (y6) (y7) (y8) Cj (y10) Gt (E5)) (Ay (decide (y10*1<=E5.length)&&true&&decide ((y10+1)*8<=1099511627776)&&decide (y10+1<=1099511627776))<|Aa (y10+1) fun Hz=>Aa (List.take (y10*1) E5++[.sc (.int .u64 Bm)]) fun Ha=>Aa (wrap .i64 (y2+1)) fun Il=>De fu call a0n a0 (nn) (y0) (y1) Il (y3) (y4) (y5) (y6) (y7) (y8) (y9) Hz (Ej) Ha)) (Ay (decide (y9*1<=Ej.length))<|Ay (decide (y10*1<=E5.length))<|some (A0.mk [.agg [.sc (.int .i64 y8),.own 1 y9 (List.take (y9*1) Ej),.own 1 y10 (List.take (y10*1) E5)],.sc (.int .i64 0)] []))):=by kernel_rfl
theorem Pe (fu d a0n:Nat)(a0:List PV):Ae C0 Tryz.prog fu (d+1) H5 [.lst false 1 a0n a0]=(fun (call:Ar)=>A4 (decide ((↑a0n:Int)<2)) (some (A0.mk [.agg [.sc (.int .i64 0),.own 1 0 [],.own 1 0 []],.sc (.int .i64 2)] [])) (Ay (decide (1<(↑a0n:Int)))<|Af .u8 (List.getD a0 1 .top) fun x1=>Aa (wrap .i64 x1) fun x2=>A4 (decide (x2>4)) (some (A0.mk [.agg [.sc (.int .i64 0),.own 1 0 [],.own 1 0 []],.sc (.int .i64 2)] [])) (Ay (decide (0<(↑a0n:Int)))<|Af .u8 (List.getD a0 0 .top) fun x3=>Aa (wrap .i64 x3) fun x4=>Ay (decide (1<(↑a0n:Int)))<|Af .u8 (List.getD a0 1 .top) fun x5=>Aa (wrap .u64 x5) fun x6=>Ay (decide (0<=x6))<|Aa (Ff .i64 1 x6) fun x7=>A4 (decide (x4>=x7)) (some (A0.mk [.agg [.sc (.int .i64 0),.own 1 0 [],.own 1 0 []],.sc (.int .i64 2)] [])) (Ay (decide (1<(↑a0n:Int)))<|Af .u8 (List.getD a0 1 .top) fun x8=>Aa (wrap .i64 x8) fun x9=>Aa (wrap .i64 (18+x9)) fun Ck=>Aa (wrap .i64 (8*Ck)) fun Bn=>Aa (wrap .i64 (2+Bn)) fun Cw=>A4 ((↑a0n:Int) != Cw) (some (A0.mk [.agg [.sc (.int .i64 0),.own 1 0 [],.own 1 0 []],.sc (.int .i64 2)] [])) (Hw fu call a0n a0 (fu) (a0n) (a0) 0 0 0 ([]) ([])))))) (Ae C0 Tryz.prog fu d):=by kernel_rfl
abbrev Pc:FuncId:=52
noncomputable def Gp (fu:Nat)(call:Ar)(a0 a1 a2:Int)(nn:Nat)(y0 y1 y2:Int)(y3:Nat)(y4:Int)(y5:List PV):Option A0:=Cz C0 Tryz.prog fu call 52 Tryz.f52 (B9 Tryz.f52) [.sc (.int .u64 a0),.sc (.int .u64 a1),.sc (.int .i64 a2)] [.r,.r,.r,.l,.r,.l] nn ⟨lk [(0,(.sc (.int .u64 y0))),(1,(.sc (.int .u64 y1))),(2,(.sc (.int .i64 y2))),(7,(.view 7 1 0 y3)),(8,(.sc (.int .i64 y4)))],Gl [(7,(.ar false y5))]⟩
theorem Hn (fu:Nat)(call:Ar)(a0 a1 a2:Int)(nn:Nat)(y0 y1 y2:Int)(y3:Nat)(y4:Int)(y5:List PV):Gp fu call a0 a1 a2 (nn+1) y0 y1 y2 y3 y4 y5=(A4 (decide ((↑y3:Int)<y2)) (Aa (wrap .u64 y4) fun x3=>Aj (call 38 [.lst false 1 2 [.sc (.int .u64 y1),.sc (.int .u64 x3)]]) fun x4 x5=>Ac x5<|Ab x4 fun x6 x7=>Dc 1 x6 fun x8 x9=>Ac x7<|Ay (decide (0+x8*1<=x9.length))<|Aj (call 79 [.sc (.int .u64 y0),.sc (.int .i64 5),.lst false 1 x8 (List.take (x8*1) (List.drop 0 x9))]) fun Ck Bn=>Ac Bn<|Ab Ck fun Cw Da=>Af .u64 Cw fun Cq=>Ac Da<|Aj (call 38 [.lst false 1 1 [.sc (.int .u64 Cq)]]) fun Cy Db=>Ac Db<|Ab Cy fun Dq D2=>Dc 1 Dq fun D0 D9=>Ac D2<|Ay (decide (0+D0*1<=D9.length))<|Ay (decide (y3*1<=y5.length)&&decide (List.length (List.take (D0*1) (List.drop 0 D9))=D0*1)&&decide ((y3+D0)*1<=1099511627776)&&decide (y3+D0<=1099511627776))<|Aa (y3+D0) fun Fj=>Aa (List.take (y3*1) y5++List.take (D0*1) (List.drop 0 D9)) fun Cn=>Aa (wrap .i64 (y4+1)) fun Fn=>Gp fu call a0 a1 a2 (nn) (y0) (y1) (y2) Fj Fn Cn) (Ay (decide (0<=y2))<|Ay (decide (Int.toNat y2<=y3))<|Aa (Int.toNat y2-0) fun Dj=>Ay (decide (Dj*1<=y5.length))<|some (A0.mk [.own 1 Dj (List.take (Dj*1) y5)] []))):=by kernel_rfl
theorem BG (fu d:Nat)(a0 a1 a2:Int):Ae C0 Tryz.prog fu (d+1) Pc [.sc (.int .u64 a0),.sc (.int .u64 a1),.sc (.int .i64 a2)]=(fun (call:Ar)=>Aa (if a2<0 then 0 else a2) fun x1=>Aa (if 1024<x1 then 1024 else x1) fun x2=>Gp fu call a0 a1 a2 (fu) (a0) (a1) x2 0 0 ([])) (Ae C0 Tryz.prog fu d):=by kernel_rfl
end
section
open Go.IntKind (wrap)
def Aec (seed leaf chain:Int):Int:=Aps seed 1 (A7 [wrap .u64 leaf,wrap .u64 chain])
def XT (seed leaf:Int)(c:Nat):Int:=Wl leaf c 15 0 (Aec seed leaf c)
def Pt (seed leaf:Int):Int:=NP leaf ((List.range 18).map (XT seed leaf))
def ZR (seed leaf m:Int)(c:Nat):Int:=Wl leaf c (dg m c).toNat 0 (Aec seed leaf c)
def CP (seed leaf m:Int):List Int:=(List.range 18).map (ZR seed leaf m)
def Kn (seed:Int):Nat->Int->Int
 |0,i=>Pt seed i
 |l+1,i=>Oq ((l+1:Nat):Int) (Kn seed l (2*i)) (Kn seed l (2*i+1))
theorem Lg {α:Type}(f:Nat->α)(i:Nat):(List.range (i+1)).map f=(List.range i).map f++[f i]:=by
 rw [List.range_succ,List.map_append];rfl
section
variable {fu d:Nat}
theorem R3 (h:Int):Ae C0 Tryz.prog fu (d+1) Pq [.sc (.int .i64 h)]=some ⟨[.sc (.bool (!Df h))],[]⟩:=by
 rw [Z8];unfold Df;by_cases h0:h<0
 ·simp (disch:=omega) only [B6,h0,decide_true,Bool.true_or,Bp]
 ·have e:decide (h<=4) = !decide (h>4):=by
   by_cases c:h<=4
   ·have:¬h>4:=by omega
    simp [c,this]
   ·have:h>4:=by omega
    simp [c,this]
  simp (disch:=omega) only [B6,h0,decide_false,Bool.false_or,e]
theorem Aez {ws:List Int}(hl:ws.length<=100)(hfu:1000<=fu)(dom:Int):Ae C0 Tryz.prog fu (d+4) Lf [.sc (.int .i64 dom),.lst false 1 (A7 ws).length (Ai .u8 (A7 ws))]=some ⟨[.sc (.int .u64 (Em dom (A7 ws)))],[]⟩:=
 Vq (Wh ws) (by rw [Dd];omega) (by omega) (by rw [Dd];omega) dom
theorem MW {call:Ar}{a0 m:Int}:∀(k nn:Nat)(i:Nat),i+k=16->k<nn ->
  G5 fu call a0 nn m ((List.range i).map (Hb m)).length (K0 m i) (15-(i:Int)) (Ai .i64 ((List.range i).map (Hb m)))=some ⟨[.own 1 18 (Ai .i64 (UT m))],[]⟩
 |_,0,_,_,h=>by omega
 |0,nn+1,i,hi,hn=>by
  have e:i=16:=by omega
  subst e;have hs:=L8 m 16
  have wq:wrap .i64 (Int.tdiv (K0 m 16) 16)=K0 m 16 / 16:=by
   rw [Int.tdiv_eq_ediv_of_nonneg (by omega),At (by omega) (by omega)]
  have wm:Int.tmod (K0 m 16) 16=K0 m 16 % 16:=Int.tmod_eq_emod_of_nonneg (by omega)
  have e2:Ai .i64 ((List.range 16).map (Hb m))++[PV.sc (.int .i64 (K0 m 16 / 16)),PV.sc (.int .i64 (K0 m 16 % 16))]=Ai .i64 (UT m):=by
   unfold UT;rw [Ai,Ai,List.flatMap_append];rfl
  have L:(Ai .i64 (UT m)).length=18:=by rw [Aq,Af2]
  have tk:List.take 18 (Ai .i64 (UT m))=Ai .i64 (UT m):=I0 (by omega)
  have l16:((List.range 16).map (Hb m)).length=16:=by simp
  have L16:=Aq .i64 ((List.range 16).map (Hb m));have t16:=Gd .i64 ((List.range 16).map (Hb m));rw [l16] at L16 t16 ⊢;rw [Me,Dt _ _ _ (by omega)]
  simp (disch:=omega) only [B6,wq,wm,Bj,t16,e2,L16,Nat.reduceAdd,L,tk]
 |k+1,nn+1,i,hi,hn=>by
  have ih:=MW (call:=call) (a0:=a0) (m:=m) k nn (i+1) (by omega) (by omega)
  have hb:=Ts m i;have hs:=L8 m i;have w1:wrap .i64 (4*(15-(i:Int)))=60-4*(i:Int):=by rw [At (by omega) (by omega)];omega
  have w2:wrap .u64 (60-4*(i:Int))=60-4*(i:Int):=B5 (by omega) (by omega)
  have hd:wrap .i64 (Ed .u64 (El .u64 m (60-4*(i:Int))) 15)=Hb m i:=rfl;have w15:wrap .i64 (15-Hb m i)=15-Hb m i:=At (by omega) (by omega)
  have ws:wrap .i64 (K0 m i+(15-Hb m i))=K0 m (i+1):=by rw [At (by omega) (by omega)];rfl
  have wi:wrap .i64 (15-(i:Int)-1)=15-((i+1:Nat):Int):=by rw [At (by omega) (by omega)];omega
  have L:=Aq .i64 ((List.range i).map (Hb m));have l16:((List.range i).map (Hb m)).length=i:=by simp
  rw [Lg,H1,List.length_singleton,←Fv] at ih;rw [Me];simp (disch:=omega) only [B6,w1,w2,hd,w15,ws,wi,Bj,Gd,L];exact ih
theorem VD (hfu:1000<=fu)(m:Int):Ae C0 Tryz.prog fu (d+1) Qt [.sc (.int .u64 m)]=some ⟨[.own 1 18 (Ai .i64 (UT m))],[]⟩:=by
 rw [DC];exact MW (fu:=fu) (a0:=m) (m:=m) 16 fu 0 (by omega) (by omega)
theorem UM {leaf chain:Int}{a0 a1 a2 a3 a4:Int}(hfu:1000<=fu){t:Int}(ht:t<=15):∀(k nn:Nat)(p x:Int),(k:Int)=t-p->0<=p->k<nn ->
  H8 fu (Ae C0 Tryz.prog fu (d+4)) a0 a1 a2 a3 a4 nn leaf chain t x p=some ⟨[.sc (.int .u64 (Wl leaf chain k p x))],[]⟩
 |_,0,_,_,_,_,h=>by omega
 |0,nn+1,p,x,hk,hp,hn=>by
  rw [O6];simp only [Hr];rw [A3 (by omega),Dt _ _ _ (by omega)]
  rfl
 |k+1,nn+1,p,x,hk,hp,hn=>by
  have w:wrap .i64 (p+1)=p+1:=At (by omega) (by omega)
  have wd:Ae C0 Tryz.prog fu (d+4) Ea [.lst false 1 4 [.sc (.int .u64 (wrap .u64 leaf)),.sc (.int .u64 (wrap .u64 chain)),.sc (.int .u64 (wrap .u64 p)),.sc (.int .u64 x)]]=_:=Lr (ws:=[wrap .u64 leaf,wrap .u64 chain,wrap .u64 p,x]) (by simp) (by omega) (by simp;omega)
  have hs:=Aez (fu:=fu) (d:=d) (ws:=[wrap .u64 leaf,wrap .u64 chain,wrap .u64 p,x]) (by simp) hfu 1
  have ih:=UM (leaf:=leaf) (chain:=chain) (a0:=a0) (a1:=a1) (a2:=a2) (a3:=a3) (a4:=a4) hfu ht k nn (p+1) (Em 1 (A7 [wrap .u64 leaf,wrap .u64 chain,wrap .u64 p,x])) (by omega) (by omega) (by omega)
  have L:=Aq .u8 (A7 [wrap .u64 leaf,wrap .u64 chain,wrap .u64 p,x]);have eR:Wl leaf chain (k+1) p x=Wl leaf chain k (p+1) (Em 1 (A7 [wrap .u64 leaf,wrap .u64 chain,wrap .u64 p,x])):=rfl;rw [eR];generalize A7 [wrap .u64 leaf,wrap .u64 chain,wrap .u64 p,x]=W at wd hs ih L ⊢;have e15:(if (15:Int)<t then 15 else t)=t:=A3 (by omega)
  rw [O6];simp (disch:=omega) only [B6,e15,wd,Bj,Bv,B8,Gd,L,hs,w];exact ih
theorem YI {leaf chain:Int}(hfu:1000<=fu)(k:Nat)(f t x:Int)(hk:(k:Int)=t-f) (h0:0<=f)(h1:t<=15):Ae C0 Tryz.prog fu (d+5) Ud [.sc (.int .i64 leaf),.sc (.int .i64 chain),.sc (.int .i64 f),.sc (.int .i64 t),.sc (.int .u64 x)]=some ⟨[.sc (.int .u64 (Wl leaf chain k f x))],[]⟩:=by
 rw [GR];simp only [Hr];rw [A3 (by omega)]
 exact UM hfu h1 k fu f x hk h0 (by omega)
theorem RS (hfu:1000<=fu)(seed leaf chain:Int):Ae C0 Tryz.prog fu (d+5) O1 [.sc (.int .u64 seed),.sc (.int .i64 leaf),.sc (.int .i64 chain)]=some ⟨[.sc (.int .u64 (Aec seed leaf chain))],[]⟩:=by
 have wd:Ae C0 Tryz.prog fu (d+4) Ea [.lst false 1 2 [.sc (.int .u64 (wrap .u64 leaf)),.sc (.int .u64 (wrap .u64 chain))]]=_:=Lr (ws:=[wrap .u64 leaf,wrap .u64 chain]) (by simp) (by omega) (by simp;omega)
 have hs:=Afq (fu:=fu) (d:=d) (Wh [wrap .u64 leaf,wrap .u64 chain]) (by rw [Dd];simp) (by omega) (by rw [Dd];simp;omega) seed 1
 have L:=Aq .u8 (A7 [wrap .u64 leaf,wrap .u64 chain]);rw [Zm];unfold Aec;generalize A7 [wrap .u64 leaf,wrap .u64 chain]=W at wd hs L ⊢;simp (disch:=omega) only [B6,wd,Bj,Bv,B8,Gd,L,hs]
theorem Aex (hfu:1000<=fu)(w:Int):Ae C0 Tryz.prog fu (d+1) Ea [.lst false 1 1 [.sc (.int .u64 w)]]=some ⟨[.own 1 8 (Ai .u8 (Ci w))],[]⟩:=by
 have:=Lr (fu:=fu) (d:=d) (ws:=[w]) (by simp) (by omega) (by simp;omega)
 simp only [A7,List.flatMap_cons,List.flatMap_nil,List.append_nil,Ib,Y4,C3] at this;exact this
theorem Aaq (hfu:1000<=fu)(leaf:Int){E:List Int}(hE:E.length<=50):Ae C0 Tryz.prog fu (d+5) Sq [.sc (.int .i64 leaf),.lst false 1 E.length (Ai .u64 E)]=some ⟨[.sc (.int .u64 (NP leaf E))],[]⟩:=by
 have w1:=Aex (fu:=fu) (d:=d+3) hfu (wrap .u64 leaf);have w2:=Lr (fu:=fu) (d:=d+3) (ws:=E) (by omega) (by omega) (by omega)
 have hs:=Aez (fu:=fu) (d:=d) (ws:=wrap .u64 leaf::E) (by simp;omega) hfu 2
 have eW:A7 (wrap .u64 leaf::E)=Ci (wrap .u64 leaf)++A7 E:=rfl
 have eC:Ai .u8 (Ci (wrap .u64 leaf))++Ai .u8 (A7 E)=Ai .u8 (A7 (wrap .u64 leaf::E)):=by
  rw [eW,Ai,Ai,Ai,List.flatMap_append]
 have l0:(Ci (wrap .u64 leaf)).length=8:=C3 _;have l1:=Dd E;have l2:(A7 (wrap .u64 leaf::E)).length=8+(A7 E).length:=by rw [eW,H1,l0]
 have L0:=Aq .u8 (Ci (wrap .u64 leaf));rw [l0] at L0;have L1:=Aq .u8 (A7 E);have L2:=Aq .u8 (A7 (wrap .u64 leaf::E));have t8:List.take 8 (Ai .u8 (Ci (wrap .u64 leaf)))=Ai .u8 (Ci (wrap .u64 leaf)):=I0 (by omega)
 have tW:List.take (8+(A7 E).length) (Ai .u8 (A7 (wrap .u64 leaf::E)))=Ai .u8 (A7 (wrap .u64 leaf::E)):=I0 (by omega)
 rw [l2] at hs;rw [EU];simp (disch:=omega) only [B6,w1,w2,Bj,Bv,B8,Gd,t8,L0,L1,eC,L2,tW,hs];rfl
theorem PP {a0 a1 seed leaf:Int}(hfu:1000<=fu):∀(k nn i:Nat),i+k=18->k<nn ->
  Hm fu (Ae C0 Tryz.prog fu (d+5)) a0 a1 nn seed leaf ((List.range i).map (XT seed leaf)).length i (Ai .u64 ((List.range i).map (XT seed leaf)))=some ⟨[.sc (.int .u64 (Pt seed leaf))],[]⟩
 |_,0,_,_,h=>by omega
 |0,nn+1,i,hi,hn=>by
  have e:i=18:=by omega
  subst e;have l18:((List.range 18).map (XT seed leaf)).length=18:=by simp
  have en:=Aaq (fu:=fu) (d:=d) hfu leaf (E:=(List.range 18).map (XT seed leaf)) (by omega)
  have L:=Aq .u64 ((List.range 18).map (XT seed leaf));rw [Nj,Dt _ _ _ (by omega)]
  simp (disch:=omega) only [B6,Bj,Bv,B8,Gd,L,en];rfl
 |k+1,nn+1,i,hi,hn=>by
  have ih:=PP (a0:=a0) (a1:=a1) (seed:=seed) (leaf:=leaf) hfu k nn (i+1) (by omega) (by omega)
  have sc:=RS (fu:=fu) (d:=d) hfu seed leaf i;have rn:=YI (fu:=fu) (d:=d) (leaf:=leaf) (chain:=i) hfu 15 0 15 (Aec seed leaf i) (by omega) (by omega) (by omega)
  have w:wrap .i64 ((i:Int)+1)=((i+1:Nat):Int):=by rw [At (by omega) (by omega)];omega
  have L:=Aq .u64 ((List.range i).map (XT seed leaf));have li:((List.range i).map (XT seed leaf)).length=i:=by simp
  rw [Lg,H1,List.length_singleton,←Fv] at ih;rw [Nj];simp (disch:=omega) only [B6,sc,rn,Bj,Gd,L,w];exact ih
theorem Akq (hfu:1000<=fu)(seed leaf:Int):Ae C0 Tryz.prog fu (d+6) R9 [.sc (.int .u64 seed),.sc (.int .i64 leaf)]=some ⟨[.sc (.int .u64 (Pt seed leaf))],[]⟩:=by
 rw [EH];exact PP (fu:=fu) (d:=d) hfu 18 fu 0 (by omega) (by omega)
theorem Aqj (m:Int){i:Nat}(h:i<18):(UT m)[i]?=some (dg m i):=by
 unfold dg;rw [List.getD_eq_getElem?_getD,List.getElem?_eq_getElem (by rw [Af2];omega)]
 rfl
theorem AH {a0 a1 a2 seed leaf m:Int}(hfu:1000<=fu):∀(k nn i:Nat),i+k=18->k<nn ->
  F2 fu (Ae C0 Tryz.prog fu (d+5)) a0 a1 a2 nn seed leaf 18 ((List.range i).map (ZR seed leaf m)).length i (Ai .i64 (UT m)) (Ai .u64 ((List.range i).map (ZR seed leaf m)))=some ⟨[.own 1 18 (Ai .u64 (CP seed leaf m))],[]⟩
 |_,0,_,_,h=>by omega
 |0,nn+1,i,hi,hn=>by
  have e:i=18:=by omega
  subst e;have l18:((List.range 18).map (ZR seed leaf m)).length=18:=by simp
  have L:=Aq .u64 ((List.range 18).map (ZR seed leaf m));rw [J4,Dt _ _ _ (by omega)]
  simp (disch:=omega) only [B6,Bj,Gd,L];rw [l18];rfl
 |k+1,nn+1,i,hi,hn=>by
  have ih:=AH (a0:=a0) (a1:=a1) (a2:=a2) (seed:=seed) (leaf:=leaf) (m:=m) hfu k nn (i+1) (by omega) (by omega)
  have hb:=BK m i;have sc:=RS (fu:=fu) (d:=d) hfu seed leaf i;have rn:=YI (fu:=fu) (d:=d) (leaf:=leaf) (chain:=i) hfu (dg m i).toNat 0 (dg m i) (Aec seed leaf i) (by omega) (by omega) (by omega)
  have w:wrap .i64 ((i:Int)+1)=((i+1:Nat):Int):=by rw [At (by omega) (by omega)];omega
  have L:=Aq .u64 ((List.range i).map (ZR seed leaf m));have li:((List.range i).map (ZR seed leaf m)).length=i:=by simp
  rw [Lg,H1,List.length_singleton,←Fv] at ih;rw [J4];simp (disch:=omega) only [B6,Hc,Bj,Bv,Qb (Aqj m (show i<18 by omega)),sc,rn,Gd,L,w]
  exact ih
theorem YG (hfu:1000<=fu)(seed leaf m:Int):Ae C0 Tryz.prog fu (d+6) Mj [.sc (.int .u64 seed),.sc (.int .i64 leaf),.sc (.int .u64 m)]=some ⟨[.own 1 18 (Ai .u64 (CP seed leaf m))],[]⟩:=by
 rw [Xk];have sp:=VD (fu:=fu) (d:=d+4) hfu m;simp only [B6,sp];exact AH (fu:=fu) (d:=d) hfu 18 fu 0 (by omega) (by omega)
theorem DU {a0 a1:Int}{n:Nat}{c:List PV}{leaf m:Int}{s:List Int}(hs:s.length=18)(hfu:1000<=fu):∀(k nn i:Nat),i+k=18->k<nn ->
  F9 fu (Ae C0 Tryz.prog fu (d+5)) a0 a1 n c nn leaf s.length (Ai .u64 s) 18 ((List.range i).map (CN leaf m s)).length i (Ai .i64 (UT m)) (Ai .u64 ((List.range i).map (CN leaf m s)))=some ⟨[.sc (.int .u64 (TS leaf m s)),.sc (.int .i64 0)],[]⟩
 |_,0,_,_,h=>by omega
 |0,nn+1,i,hi,hn=>by
  have e:i=18:=by omega
  subst e;have l18:((List.range 18).map (CN leaf m s)).length=18:=by simp
  have en:=Aaq (fu:=fu) (d:=d) hfu leaf (E:=(List.range 18).map (CN leaf m s)) (by omega)
  have L:=Aq .u64 ((List.range 18).map (CN leaf m s));rw [Kp,Dt _ _ _ (by omega)]
  simp (disch:=omega) only [B6,Bj,Bv,B8,Gd,L,en];rfl
 |k+1,nn+1,i,hi,hn=>by
  have ih:=DU (a0:=a0) (a1:=a1) (n:=n) (c:=c) (leaf:=leaf) (m:=m) hs hfu k nn (i+1) (by omega) (by omega)
  obtain ⟨x,hx⟩:∃x,s[i]?=some x:=⟨_,List.getElem?_eq_getElem (by omega)⟩
  have hb:=BK m i;have rn:=YI (fu:=fu) (d:=d) (leaf:=leaf) (chain:=i) hfu (15-dg m i).toNat (dg m i) 15 x (by omega) (by omega) (by omega)
  have ev:Wl leaf i (15-dg m i).toNat (dg m i) x=CN leaf m s i:=by
   unfold CN;rw [List.getD_eq_getElem?_getD,hx];rfl
  rw [ev] at rn;have w:wrap .i64 ((i:Int)+1)=((i+1:Nat):Int):=by rw [At (by omega) (by omega)];omega
  have L:=Aq .u64 ((List.range i).map (CN leaf m s));have li:((List.range i).map (CN leaf m s)).length=i:=by simp
  rw [Lg,H1,List.length_singleton,←Fv] at ih;rw [Kp];simp (disch:=omega) only [B6,Hc,Bj,Bv,Qb (Aqj m (show i<18 by omega)),Qb hx,rn,Gd,L,w]
  exact ih
theorem Acn (hfu:1000<=fu)(leaf m:Int)(s:List Int):Ae C0 Tryz.prog fu (d+6) Ni [.sc (.int .i64 leaf),.sc (.int .u64 m),.lst false 1 s.length (Ai .u64 s)]=some ⟨(if s.length=18 then [.sc (.int .u64 (TS leaf m s)),.sc (.int .i64 0)] else [.sc (.int .u64 0),.sc (.int .i64 4)]),[]⟩:=by
 refine (Yo fu (d+5) leaf m s.length (Ai .u64 s)).trans ?_;by_cases h:s.length=18
 ·have sp:=VD (fu:=fu) (d:=d+4) hfu m;have lp:=DU (fu:=fu) (d:=d) (a0:=leaf) (a1:=m) (n:=s.length) (c:=Ai .u64 s) (leaf:=leaf) (m:=m) h hfu 18 fu 0 (by omega) (by omega)
  simp only [Dp];rw [Bl h,Bl (by omega)]
  simp only [B6,sp];exact lp
 ·simp only [Dp];rw [A3 h,A3 (by omega)]
theorem FV (hfu:1000<=fu)(level a b:Int):Ae C0 Tryz.prog fu (d+5) Pk [.sc (.int .i64 level),.sc (.int .u64 a),.sc (.int .u64 b)]=some ⟨[.sc (.int .u64 (Oq level a b))],[]⟩:=by
 have wd:Ae C0 Tryz.prog fu (d+4) Ea [.lst false 1 3 [.sc (.int .u64 (wrap .u64 level)),.sc (.int .u64 a),.sc (.int .u64 b)]]=_:=Lr (ws:=[wrap .u64 level,a,b]) (by simp) (by omega) (by simp;omega)
 have hs:=Aez (fu:=fu) (d:=d) (ws:=[wrap .u64 level,a,b]) (by simp) hfu 3
 have L:=Aq .u8 (A7 [wrap .u64 level,a,b]);rw [Zh];unfold Oq;generalize A7 [wrap .u64 level,a,b]=W at wd hs L ⊢;simp (disch:=omega) only [B6,wd,Bj,Bv,B8,Gd,L,hs]
theorem JP (hfu:1000<=fu)(seed:Int):∀(l:Nat)(i B:Int),0<=i->i<=B->(2 ^ l:Nat)*(B+1)<=1000000000->l<=20->Ae C0 Tryz.prog fu (d+7+l) S3 [.sc (.int .u64 seed),.sc (.int .i64 l),.sc (.int .i64 i)]=some ⟨[.sc (.int .u64 (Kn seed l i))],[]⟩
 |0,i,B,h0,h1,h2,hl=>by
  have lf:=Akq (fu:=fu) (d:=d) hfu seed i;refine (Sn fu (d+6) seed 0 i).trans ?_;simp only [B6,Fo,if_true,lf];rfl
 |l+1,i,B,h0,h1,h2,hl=>by
  have hq:(2 ^ (l+1):Nat)=2 ^ l*2:=Nat.pow_succ _ _;have hpos:0<2 ^ l:=Nat.pow_pos (by omega)
  rw [hq] at h2;generalize hQ:2 ^ l=q at h2 hpos
  have hb:((q*2:Nat):Int)*(B+1)=(q:Int)*(2*B+1+1):=by
   rw [Int.natCast_mul,Int.mul_assoc]
   congr 1
   omega
  rw [hb] at h2
  have hBq:2*B+1+1<=(q:Int)*(2*B+1+1):=by
   have:=Int.mul_le_mul_of_nonneg_right (show (1:Int)<=q by omega) (show (0:Int)<=2*B+1+1 by omega)
   omega
  have n1:=JP hfu seed l (2*i) (2*B+1) (by omega) (by omega) (by rw [hQ];exact h2) (by omega)
  have n2:=JP hfu seed l (2*i+1) (2*B+1) (by omega) (by omega) (by rw [hQ];exact h2) (by omega)
  have pr:=FV (fu:=fu) (d:=d+2+l) hfu ((l+1:Nat):Int) (Kn seed l (2*i)) (Kn seed l (2*i+1));rw [show d+2+l+5=d+7+l by omega] at pr
  have w1:wrap .i64 (((l+1:Nat):Int)-1)=(l:Int):=by rw [At (by omega) (by omega)];omega
  have w2:wrap .i64 (2*i)=2*i:=At (by omega) (by omega)
  have w3:wrap .i64 (2*i+1)=2*i+1:=At (by omega) (by omega)
  have ne:¬(((l+1:Nat):Int)=0):=by omega
  refine (Sn fu (d+7+l) seed ((l+1:Nat):Int) i).trans ?_;simp only [B6,Fo,ne,if_false,w1,w2,w3,n1,n2,pr];rfl
end
end
section
open Go.IntKind (wrap)
def Ey (seed:Int)(h:Int):Ky:=if Df h=true then ⟨0,0⟩ else ⟨h,Kn seed h.toNat 0⟩
def Y2 (leaf:Int)(k:Nat):Int:=Er .i64 (El .i64 leaf k) 1
def TQ (seed:Int)(h leaf m:Int):Option Sg:=if Df h=true then none else if Gc leaf h=true then none else some ⟨leaf,CP seed leaf m,(List.range h.toNat).map fun k=>Kn seed k (Y2 leaf k)⟩
def GP (o:Option Sg):List PV:=match o with|some s=>[.agg s.owned,.sc (.int .i64 0)]|none=>[.agg (Sg.mk 0 [] []).owned,.sc (.int .i64 9)]
theorem wu {h:Int}(h0:0<=h)(h4:h<=4):wrap .u64 h=h:=B5 (by omega) (by omega)
theorem Aen {leaf h:Int}(h0:0<=h)(h4:h<=4)(ho:Gc leaf h=false):0<=leaf∧leaf<2 ^ h.toNat:=by
 unfold Gc at ho;simp only [Bool.or_eq_false_iff,decide_eq_false_iff_not] at ho;have:h=0∨h=1∨h=2∨h=3∨h=4:=by omega
 rcases this with rfl|rfl|rfl|rfl|rfl
 ·have e:Ff .i64 1 0=1:=by decide
  rw [e] at ho;exact ⟨by omega,by show leaf<1;omega⟩
 ·have e:Ff .i64 1 1=2:=by decide
  rw [e] at ho;exact ⟨by omega,by show leaf<2;omega⟩
 ·have e:Ff .i64 1 2=4:=by decide
  rw [e] at ho;exact ⟨by omega,by show leaf<4;omega⟩
 ·have e:Ff .i64 1 3=8:=by decide
  rw [e] at ho;exact ⟨by omega,by show leaf<8;omega⟩
 ·have e:Ff .i64 1 4=16:=by decide
  rw [e] at ho;exact ⟨by omega,by show leaf<16;omega⟩
theorem Arg {h:Int}(h0:0<=h)(h4:h<=4):(2:Int) ^ h.toNat<=16:=by
 have:h=0∨h=1∨h=2∨h=3∨h=4:=by omega
 rcases this with rfl|rfl|rfl|rfl|rfl<;>decide
theorem Aek {leaf:Int}(h0:0<=leaf)(h1:leaf<16){k:Nat}(hk:k<4):0<=Y2 leaf k∧Y2 leaf k<=15:=by
 have H:∀n:Fin 16,∀k:Fin 4,0<=Y2 (n.val:Int) k.val∧Y2 (n.val:Int) k.val<=15:=by decide
 obtain ⟨n,rfl⟩:=Int.eq_ofNat_of_zero_le h0;exact H ⟨n,by omega⟩ ⟨k,hk⟩
section
variable {fu d:Nat}
theorem Adw (hfu:1000<=fu)(seed h:Int):Ae C0 Tryz.prog fu (d+12) Pd [.sc (.int .u64 seed),.sc (.int .i64 h)]=some ⟨[.agg (Ey seed h).cells,.sc (.int .i64 (if Df h=true then 9 else 0))],[]⟩:=by
 refine (AJ fu (d+11) seed h).trans ?_;have h1:=R3 (fu:=fu) (d:=d+10) h;unfold Ey;cases c1:Df h
 ·rw [c1] at h1;have hb:=Gr c1
  have nd:=JP (fu:=fu) (d:=d+4-h.toNat) hfu seed h.toNat 0 0 (by omega) (by omega) (by
   have:h=0∨h=1∨h=2∨h=3∨h=4:=by omega
   rcases this with rfl|rfl|rfl|rfl|rfl<;>decide) (by omega)
  rw [show d+4-h.toNat+7+h.toNat=d+11 by omega,show ((h.toNat:Nat):Int)=h by omega] at nd
  simp only [B6,h1,nd];rfl
 ·rw [c1] at h1;simp only [B6,h1];rfl
theorem QU {a0 a1 a2 a3:Int}{seed leaf h:Int}(hh:0<=h∧h<=4)(hl:0<=leaf∧leaf<16)(hfu:1000<=fu){y4 y9:Int}{y5 y6:Nat}{y7 y8:List PV}{ch:List Int}:∀(k nn i:Nat),i+k=h.toNat->k<nn ->
  Hl fu (Ae C0 Tryz.prog fu (d+11)) a0 a1 a2 a3 nn seed h leaf i y4 y5 y6 y7 y8 leaf ch.length ((List.range i).map fun k=>Kn seed k (Y2 leaf k)).length (Ai .u64 ch) (Ai .u64 ((List.range i).map fun k=>Kn seed k (Y2 leaf k)))=some ⟨[.agg (Sg.mk leaf ch ((List.range h.toNat).map fun k=>Kn seed k (Y2 leaf k))).owned,.sc (.int .i64 0)],[]⟩
 |_,0,_,_,h=>by omega
 |0,nn+1,i,hi,hn=>by
  have e:i=h.toNat:=by omega
  subst e;have L1:=Aq .u64 ch;have L2:=Aq .u64 ((List.range h.toNat).map fun k=>Kn seed k (Y2 leaf k))
  rw [Nv,Dt _ _ _ (by omega)]
  simp (disch:=omega) only [B6,Bj,Gd,L1,L2];rfl
 |k+1,nn+1,i,hi,hn=>by
  have ih:=QU (a0:=a0) (a1:=a1) (a2:=a2) (a3:=a3) (seed:=seed) (y4:=y4) (y9:=y9) (y5:=y5) (y6:=y6) (y7:=y7) (y8:=y8) (ch:=ch) hh hl hfu k nn (i+1) (by omega) (by omega)
  have sb:=Aek hl.1 hl.2 (k:=i) (by omega)
  have nd:=JP (fu:=fu) (d:=d+4-i) hfu seed i (Y2 leaf i) 15 sb.1 sb.2 (by
   have:i=0∨i=1∨i=2∨i=3:=by omega
   rcases this with rfl|rfl|rfl|rfl<;>decide) (by omega)
  rw [show d+4-i+7+i=d+11 by omega] at nd
  have es:Er .i64 (El .i64 leaf (i:Int)) 1=Y2 leaf i:=rfl;have w:wrap .i64 ((i:Int)+1)=((i+1:Nat):Int):=by rw [At (by omega) (by omega)];omega
  have wi:wrap .u64 (i:Int)=i:=B5 (by omega) (by omega)
  have L:=Aq .u64 ((List.range i).map fun k=>Kn seed k (Y2 leaf k))
  have li:((List.range i).map fun k=>Kn seed k (Y2 leaf k)).length=i:=by simp
  rw [Lg,H1,List.length_singleton,←Fv] at ih;rw [Nv];simp (disch:=omega) only [B6,wi,es,nd,Bj,Gd,L,w];exact ih
theorem SF (hfu:1000<=fu)(seed h leaf m:Int):Ae C0 Tryz.prog fu (d+12) S2 [.sc (.int .u64 seed),.sc (.int .i64 h),.sc (.int .i64 leaf),.sc (.int .u64 m)]=some ⟨GP (TQ seed h leaf m),[]⟩:=by
 refine (EG fu (d+11) seed h leaf m).trans ?_;have h1:=R3 (fu:=fu) (d:=d+10) h;unfold TQ;cases c1:Df h
 ·rw [c1] at h1;have hb:=Gr c1;have w:=wu hb.1 hb.2;rw [A3 (by simp)]
  by_cases hn:leaf<0
  ·have ho:Gc leaf h=true:=by unfold Gc;simp [hn]
   rw [Bl ho];simp (disch:=omega) only [B6,h1];rfl
  ·by_cases hg:leaf>=Ff .i64 1 h
   ·have ho:Gc leaf h=true:=by unfold Gc;simp [hg]
    rw [Bl ho];simp (disch:=first|omega|exact hg) only [B6,h1,w];rfl
   ·have ho:Gc leaf h=false:=by unfold Gc;simp only [Bool.or_eq_false_iff,decide_eq_false_iff_not];exact ⟨hn,hg⟩
    have hlt:=Aen hb.1 hb.2 ho;have h16:=Arg hb.1 hb.2;rw [A3 (by rw [ho];simp)]
    have sl:=YG (fu:=fu) (d:=d+5) hfu seed leaf m;have lp:=QU (fu:=fu) (d:=d) (a0:=seed) (a1:=h) (a2:=leaf) (a3:=m) (seed:=seed) (leaf:=leaf) (h:=h) hb (by omega) hfu (y4:=0) (y9:=0) (y5:=0) (y6:=0) (y7:=[]) (y8:=[]) (ch:=CP seed leaf m) h.toNat fu 0 (by omega) (by omega)
    have l18:(CP seed leaf m).length=18:=by simp [CP]
    rw [l18] at lp;simp (disch:=first|omega|exact hg) only [B6,h1,w,sl];exact lp
 ·rw [c1] at h1;rw [Bl rfl];simp (disch:=omega) only [B6,h1];rfl
theorem HD {a0 a1 a2 a3:Int}{n1 n2 n3:Nat}{c1 c2 c3:List PV}{root leaf:Int}{path:List Int}(hp:path.length<=100)(hfu:1000<=fu):∀(r:List Int)(i nn:Nat)(x:Int),path.drop i=r->r.length<nn->i<=path.length ->
  Fg fu (Ae C0 Tryz.prog fu (d+5)) a0 a1 a2 a3 n1 c1 n2 c2 nn x i path.length root leaf n3 c3 path.length (Ai .u64 path)=some ⟨[.sc (.int .i64 (okE (Xf leaf i x r) root))],[]⟩
 |_,_,0,_,_,h,_=>by omega
 |[],i,nn+1,x,h,hn,hi=>by
  have:=drop_nil h;rw [Mb,Dt _ _ _ (by omega),Dp]
  rw [TC];unfold okE;by_cases e:x=root
  ·rw [Bl e,Bl e]
  ·rw [A3 e,A3 e]
 |s::r,i,nn+1,x,h,hn,hi=>by
  obtain ⟨h1,h2,h3⟩:=Cg h;simp only [Ib] at hn;have w:wrap .i64 ((i:Int)+1)=((i+1:Nat):Int):=by rw [At (by omega) (by omega)];omega
  have wi:wrap .u64 (i:Int)=i:=B5 (by omega) (by omega)
  have ih:=fun x=>HD (a0:=a0) (a1:=a1) (a2:=a2) (a3:=a3) (n1:=n1) (n2:=n2) (n3:=n3) (c1:=c1) (c2:=c2) (c3:=c3) (root:=root) (leaf:=leaf) hp hfu r (i+1) nn x h3 (by omega) (by omega)
  have p1:=FV (fu:=fu) (d:=d) hfu ((i+1:Nat):Int) x s;have p2:=FV (fu:=fu) (d:=d) hfu ((i+1:Nat):Int) s x;rw [Mb,Y9];by_cases hb:Ed .i64 (El .i64 leaf i) 1=0
  ·rw [Bl hb,←ih];simp (disch:=omega) only [B6,Hc,Bj,Qb h2,Fo,wi,hb,w,p1,if_true]
  ·rw [A3 hb,←ih];simp (disch:=omega) only [B6,Hc,Bj,Qb h2,Fo,wi,hb,w,p2,if_false]
theorem FJ (hfu:1000<=fu)(k:Ky)(m:Int)(s:Sg):Ae C0 Tryz.prog fu (d+7) O8 [.agg k.cells,.sc (.int .u64 m),.agg s.cells]=some ⟨[.sc (.int .i64 (Jp k m s))],[]⟩:=by
 refine (AZ fu (d+6) k.h k.root m s.leaf s.chains.length (Ai .u64 s.chains) s.path.length (Ai .u64 s.path)).trans ?_;have h1:=R3 (fu:=fu) (d:=d+5) k.h;unfold Jp;cases c1:Df k.h
 ·rw [c1] at h1;have hb:=Gr c1;have w:=wu hb.1 hb.2;rw [A3 (by simp)]
  by_cases hn:s.leaf<0
  ·have ho:Gc s.leaf k.h=true:=by unfold Gc;simp [hn]
   rw [Bl ho];simp (disch:=omega) only [B6,h1]
  ·by_cases hg:s.leaf>=Ff .i64 1 k.h
   ·have ho:Gc s.leaf k.h=true:=by unfold Gc;simp [hg]
    rw [Bl ho];simp (disch:=first|omega|exact hg) only [B6,h1,w]
   ·have ho:Gc s.leaf k.h=false:=by unfold Gc;simp only [Bool.or_eq_false_iff,decide_eq_false_iff_not];exact ⟨hn,hg⟩
    rw [A3 (by rw [ho];simp)]
    by_cases c3:s.chains.length=18
    ·by_cases c4:(s.path.length:Int)=k.h
     ·have rc:=Acn (fu:=fu) (d:=d) hfu s.leaf m s.chains;rw [Bl c3] at rc;have vl:=HD (fu:=fu) (d:=d+1) (a0:=k.h) (a1:=k.root) (a2:=m) (a3:=s.leaf) (n1:=s.chains.length) (n2:=s.path.length) (n3:=s.chains.length) (c1:=Ai .u64 s.chains) (c2:=Ai .u64 s.path) (c3:=Ai .u64 s.chains) (root:=k.root) (leaf:=s.leaf) (path:=s.path) (by omega) hfu s.path 0 fu (TS s.leaf m s.chains) rfl (by omega) (by omega)
      rw [A3 (by omega),A3 (by omega),←vl]
      simp (disch:=first|omega|exact hg) only [B6,h1,w,Dp,rc,c4,if_true];rw [Bl (by omega)]
      rfl
     ·rw [A3 (by omega),Bl c4]
      simp (disch:=first|omega|exact hg) only [B6,h1,w,Dp,c4,if_false];rw [Bl (by omega)]
    ·rw [Bl c3];simp (disch:=first|omega|exact hg) only [B6,h1,w,Dp];rw [A3 (by omega)]
 ·rw [c1] at h1;rw [Bl rfl];simp (disch:=omega) only [B6,h1]
theorem FN (hfu:1000<=fu)(k:Ky):Ae C0 Tryz.prog fu (d+2) Ll [.agg k.cells]=some ⟨(if Df k.h=true then [.own 1 0 [],.sc (.int .i64 9)] else [.own 1 9 (Ai .u8 (G0 k)),.sc (.int .i64 0)]),[]⟩:=by
 refine (Vo fu (d+1) k.h k.root).trans ?_;have h1:=R3 (fu:=fu) (d:=d) k.h;have wd:=Aex (fu:=fu) (d:=d) hfu k.root;have L:=Aq .u8 (Ci k.root);rw [C3] at L;have t8:List.take 8 (Ai .u8 (Ci k.root))=Ai .u8 (Ci k.root):=I0 (by omega)
 have t9:List.take 9 ([PV.sc (.int .u8 (wrap .u8 k.h))]++Ai .u8 (Ci k.root))=Ai .u8 (G0 k):=by
  rw [I0 (by rw [H1,L];simp)]
  rfl
 have L9:([PV.sc (.int .u8 (wrap .u8 k.h))]++Ai .u8 (Ci k.root)).length=9:=by rw [H1,L];rfl
 cases c1:Df k.h
 ·rw [c1] at h1;rw [A3 (by simp)]
  simp (disch:=omega) only [B6,h1,wd,Bj,Bv,B8,L,t8,Nat.reduceAdd,L9,t9]
 ·rw [c1] at h1;rw [Bl rfl];simp (disch:=omega) only [B6,h1]
theorem RC {call:Ar}{n:Nat}{c:List PV}{l:List Int}(hl:l.length=8):∀(r:List Int)(j nn:Nat)(x:Int),l.drop j=r->r.length<nn->j<=8 ->
  Hk fu call n c nn l.length (Ai .u8 l) x j=some ⟨[.sc (.int .u64 (r.foldl Fc x))],[]⟩
 |_,_,0,_,_,h,_=>by omega
 |[],j,nn+1,x,h,hn,hj=>by
  have:=drop_nil h;rw [Nw,Dt _ _ _ (by omega)]
  rfl
 |b::r,j,nn+1,x,h,hn,hj=>by
  obtain ⟨h1,h2,h3⟩:=Cg h;simp only [Ib] at hn;have w:wrap .i64 ((j:Int)+1)=((j+1:Nat):Int):=by rw [At (by omega) (by omega)];omega
  have ih:=RC (call:=call) (n:=n) (c:=c) hl r (j+1) nn (Fc x b) h3 (by omega) (by omega)
  rw [List.foldl_cons,←ih,Nw];simp (disch:=omega) only [B6,Hc,Bj,Qb h2,w]
theorem JT (hfu:1000<=fu){l:List Int}(hl:l.length=8):Ae C0 Tryz.prog fu (d+1) Sx [.lst false 1 8 (Ai .u8 l)]=some ⟨[.sc (.int .u64 (CK l))],[]⟩:=by
 rw [ED];have:=RC (fu:=fu) (call:=Ae C0 Tryz.prog fu d) (n:=8) (c:=Ai .u8 l) hl l 0 fu 0 rfl (by omega) (by omega)
 rw [hl] at this;exact this
theorem RW (hfu:1000<=fu){l:List Int}(hb:G9 l):Ae C0 Tryz.prog fu (d+2) Ln [.lst false 1 l.length (Ai .u8 l)]=some ⟨FT (DK l),[]⟩:=by
 refine (V1 fu (d+1) l.length (Ai .u8 l)).trans ?_;unfold DK;by_cases h9:l.length=9
 ·obtain ⟨x,hx⟩:∃x,l[0]?=some x:=⟨_,List.getElem?_eq_getElem (by omega)⟩
  have hxb:=hb x (List.mem_of_getElem? hx);have wx:wrap .i64 x=x:=At (by omega) (by omega)
  have gx:l.getD 0 0=x:=by rw [List.getD_eq_getElem?_getD,hx];rfl
  have h1:=R3 (fu:=fu) (d:=d) x;rw [gx];cases c1:Df x
  ·rw [c1] at h1;have hdl:(l.drop 1).length=8:=by rw [List.length_drop];omega
   have dw:=JT (fu:=fu) (d:=d) hfu hdl
   have ew:CK (l.drop 1)=Kb (l.drop 1) 0:=by
    unfold Kb;rw [Nat.mul_zero,B8,I0 (by omega)]
   rw [ew] at dw;have e8:9-1=8:=rfl;have tk:List.take 8 (Ai .u8 (l.drop 1))=Ai .u8 (l.drop 1):=I0 (by rw [Aq];omega)
   rw [Bl ⟨h9,rfl⟩,h9];simp (disch:=omega) only [B6,Dp,Qb hx,wx,h1,Bj,E2,e8,tk,dw];rfl
  ·rw [c1] at h1;rw [A3 (by simp),h9]
   simp (disch:=omega) only [B6,Dp,Qb hx,wx,h1];rfl
 ·rw [A3 (by simp [h9])]
  simp (disch:=omega) only [Dp];rw [A3 (by omega)]
  rfl
end
end
section
open Go.IntKind (wrap)
section
variable {fu d:Nat}
theorem Als (n:Nat):Df (n:Int)=decide ((n:Int)>4):=by
 unfold Df;have:¬((n:Int)<0):=by omega
 simp [this]
theorem EX (hfu:1000<=fu)(s:Sg)(hp:s.path.length<=1000000000):Ae C0 Tryz.prog fu (d+2) H3 [.agg s.cells]=some ⟨(if Df s.path.length=true then [.own 1 0 [],.sc (.int .i64 9)] else if Gc s.leaf s.path.length=true then [.own 1 0 [],.sc (.int .i64 9)] else if s.chains.length≠18 then [.own 1 0 [],.sc (.int .i64 4)] else [.own 1 (M6 s).length (Ai .u8 (M6 s)),.sc (.int .i64 0)]),[]⟩:=by
 refine (O9 fu (d+1) s.leaf s.chains.length (Ai .u64 s.chains) s.path.length (Ai .u64 s.path)).trans ?_;rw [Als];by_cases c1:(s.path.length:Int)>4
 ·rw [Bl (by simp [c1])]
  simp (disch:=omega) only [B6]
 ·rw [A3 (by simp [c1])]
  have w:=wu (h:=s.path.length) (by omega) (by omega)
  by_cases hn:s.leaf<0
  ·have ho:Gc s.leaf s.path.length=true:=by unfold Gc;simp [hn]
   rw [Bl ho];simp (disch:=omega) only [B6]
  ·by_cases hg:s.leaf>=Ff .i64 1 s.path.length
   ·have ho:Gc s.leaf s.path.length=true:=by unfold Gc;simp [hg]
    rw [Bl ho];simp (disch:=first|omega|exact hg) only [B6,w]
   ·have ho:Gc s.leaf s.path.length=false:=by unfold Gc;simp only [Bool.or_eq_false_iff,decide_eq_false_iff_not];exact ⟨hn,hg⟩
    rw [A3 (by rw [ho];simp)]
    by_cases c3:s.chains.length=18
    ·have w1:=Lr (fu:=fu) (d:=d) (ws:=s.chains) (by omega) (by omega) (by omega)
     have w2:=Lr (fu:=fu) (d:=d) (ws:=s.path) (by omega) (by omega) (by omega)
     have l1:=Dd s.chains;have l2:=Dd s.path;have L1:=Aq .u8 (A7 s.chains);have L2:=Aq .u8 (A7 s.path)
     have eB:Ai .u8 (M6 s)=[PV.sc (.int .u8 (wrap .u8 s.leaf)),PV.sc (.int .u8 (wrap .u8 s.path.length))]++Ai .u8 (A7 s.chains)++Ai .u8 (A7 s.path):=by
      unfold M6;simp
     have eL:(M6 s).length=2+(A7 s.chains).length+(A7 s.path).length:=by
      unfold M6;simp;omega
     rw [A3 (by omega),eB,eL]
     have t2:List.take (2+(A7 s.chains).length) ([PV.sc (.int .u8 (wrap .u8 s.leaf)),PV.sc (.int .u8 (wrap .u8 s.path.length))]++Ai .u8 (A7 s.chains))=[PV.sc (.int .u8 (wrap .u8 s.leaf)),PV.sc (.int .u8 (wrap .u8 s.path.length))]++Ai .u8 (A7 s.chains):=I0 (by rw [H1,L1];simp)
     have t3:List.take (2+(A7 s.chains).length+(A7 s.path).length) ([PV.sc (.int .u8 (wrap .u8 s.leaf)),PV.sc (.int .u8 (wrap .u8 s.path.length))]++Ai .u8 (A7 s.chains)++Ai .u8 (A7 s.path))=[PV.sc (.int .u8 (wrap .u8 s.leaf)),PV.sc (.int .u8 (wrap .u8 s.path.length))]++Ai .u8 (A7 s.chains)++Ai .u8 (A7 s.path):=I0 (by rw [H1,H1,L1,L2];simp)
     have k2:([PV.sc (.int .u8 (wrap .u8 s.leaf)),PV.sc (.int .u8 (wrap .u8 s.path.length))]++Ai .u8 (A7 s.chains)).length=2+(A7 s.chains).length:=by rw [H1,L1];rfl
     have k3:([PV.sc (.int .u8 (wrap .u8 s.leaf)),PV.sc (.int .u8 (wrap .u8 s.path.length))]++Ai .u8 (A7 s.chains)++Ai .u8 (A7 s.path)).length=2+(A7 s.chains).length+(A7 s.path).length:=by rw [H1,k2,L2]
     simp (disch:=first|omega|exact hg) only [B6,w,Dp,w1,w2,Bj,Bv,B8,L1,L2,Gd,t2,t3,k2,k3];rw [Bl (by omega)]
    ·rw [Bl c3];simp (disch:=first|omega|exact hg) only [B6,w,Dp];rw [A3 (by omega)]
def Z6 (l:List Int)(i:Nat):Int:=CK ((l.drop (2+8*i)).take 8)
theorem Apo {l:List Int}{i:Nat}(hi:i<18):Kb ((l.drop 2).take 144) i=Z6 l i:=by
 unfold Kb Z6;rw [List.drop_take,List.take_take,List.drop_drop,Nat.min_eq_left (by omega)]
theorem Aop {l:List Int}{i:Nat}:Kb (l.drop 146) i=Z6 l (18+i):=by
 unfold Kb Z6;rw [List.drop_drop,show 146+8*i=2+8*(18+i) by omega]
theorem GW {n:Nat}{c:List PV}{l:List Int}(hl:l.length<=1000){y:Int}(hy1:l[1]?=some y) (hy:0<=y∧y<=4)(hlen:(l.length:Int)=2+8*(18+y)) (hfu:1000<=fu){y3 y4:Int}{n5 n6 n7:Nat}{c5 c6:List PV}{x:Int}:∀(k nn i:Nat),i+k=18+y.toNat->k<nn ->
  De fu (Ae C0 Tryz.prog fu (d+1)) n c nn l.length (Ai .u8 l) i y3 n5 n6 c5 c6 x ((List.range (min i 18)).map (Z6 l)).length ((List.range (i-18)).map fun j=>Z6 l (18+j)).length (Ai .u64 ((List.range (min i 18)).map (Z6 l))) (Ai .u64 ((List.range (i-18)).map fun j=>Z6 l (18+j)))=some ⟨[.agg (Sg.mk x ((List.range 18).map (Z6 l)) ((List.range y.toNat).map fun j=>Z6 l (18+j))).owned,.sc (.int .i64 0)],[]⟩
 |_,0,_,_,h=>by omega
 |k,nn+1,i,hi,hn=>by
  have wy:wrap .i64 y=y:=At (by omega) (by omega)
  have w18:wrap .i64 (18+y)=18+y:=At (by omega) (by omega)
  have L1:=Aq .u64 ((List.range (min i 18)).map (Z6 l));have L2:=Aq .u64 ((List.range (i-18)).map fun j=>Z6 l (18+j))
  have m1:((List.range (min i 18)).map (Z6 l)).length=min i 18:=by simp
  have m2:((List.range (i-18)).map fun j=>Z6 l (18+j)).length=i-18:=by simp
  rw [Mx];cases k with
  |zero=>
   have e:i=18+y.toNat:=by omega
   have e1:min i 18=18:=by omega
   have e2:i-18=y.toNat:=by omega
   simp (disch:=omega) only [B6,Qb hy1,wy,w18,Bj,Gd,L1,L2];rw [e1,e2];rfl
  |succ k=>
   have ih:=GW (n:=n) (c:=c) hl hy1 hy hlen hfu (y3:=y3) (y4:=y4) (n5:=n5) (n6:=n6) (n7:=n7) (c5:=c5) (c6:=c6) (x:=x) k nn (i+1) (by omega) (by omega)
   have w8:wrap .i64 (8*(i:Int))=((8*i:Nat):Int):=by rw [At (by omega) (by omega)];omega
   have w2:wrap .i64 (2+((8*i:Nat):Int))=((2+8*i:Nat):Int):=by rw [At (by omega) (by omega)];omega
   have w10:wrap .i64 (10+((8*i:Nat):Int))=((10+8*i:Nat):Int):=by rw [At (by omega) (by omega)];omega
   have w:wrap .i64 ((i:Int)+1)=((i+1:Nat):Int):=by rw [At (by omega) (by omega)];omega
   have e8:10+8*i-(2+8*i)=8:=by omega
   have hdl:((l.drop (2+8*i)).take 8).length=8:=by rw [List.length_take,List.length_drop];omega
   have wd:=JT (fu:=fu) (d:=d) hfu hdl;have ew:CK ((l.drop (2+8*i)).take 8)=Z6 l i:=rfl;rw [ew] at wd;by_cases c18:i<18
   ·have a1:min (i+1) 18=min i 18+1:=by omega
    have a2:min i 18=i:=by omega
    have a3:i+1-18=i-18:=by omega
    rw [a1,a3,Lg,H1,List.length_singleton,←Fv,a2] at ih;rw [a2] at L1 m1 ⊢;simp (disch:=omega) only [B6,Qb hy1,wy,w18,w8,w2,w10,Hc,Bj,e8,E2,D3,List.take_length,wd,L1,L2,w];exact ih
   ·have a1:min (i+1) 18=min i 18:=by omega
    have a3:i+1-18=(i-18)+1:=by omega
    rw [a1,a3,Lg,H1,List.length_singleton,←Fv,show 18+(i-18)=i by omega] at ih
    simp (disch:=omega) only [B6,Qb hy1,wy,w18,w8,w2,w10,Hc,Bj,e8,E2,D3,List.take_length,wd,L1,L2,w];exact ih
theorem FO (hfu:1000<=fu){l:List Int}(hb:G9 l):Ae C0 Tryz.prog fu (d+2) H5 [.lst false 1 l.length (Ai .u8 l)]=some ⟨Si (OG l),[]⟩:=by
 refine (Pe fu (d+1) l.length (Ai .u8 l)).trans ?_;unfold OG;by_cases h2:2<=l.length
 ·obtain ⟨x,hx⟩:∃x,l[0]?=some x:=⟨_,List.getElem?_eq_getElem (by omega)⟩
  obtain ⟨y,hy⟩:∃y,l[1]?=some y:=⟨_,List.getElem?_eq_getElem (by omega)⟩
  have hxb:=hb x (List.mem_of_getElem? hx);have hyb:=hb y (List.mem_of_getElem? hy);have wx:wrap .i64 x=x:=At (by omega) (by omega)
  have wy:wrap .i64 y=y:=At (by omega) (by omega)
  have wyu:wrap .u64 y=y:=B5 (by omega) (by omega)
  have gx:l.getD 0 0=x:=by rw [List.getD_eq_getElem?_getD,hx];rfl
  have gy:l.getD 1 0=y:=by rw [List.getD_eq_getElem?_getD,hy];rfl
  have w1:wrap .i64 (18+y)=18+y:=At (by omega) (by omega)
  have w2:wrap .i64 (8*(18+y))=8*(18+y):=At (by omega) (by omega)
  have w3:wrap .i64 (2+8*(18+y))=2+8*(18+y):=At (by omega) (by omega)
  rw [gx,gy]
  have ehi:Df y=decide (y>4):=by
   unfold Df;have:¬(y<0):=by omega
   simp [this]
  have eou:Gc x y=decide (x>=Ff .i64 1 y):=by
   unfold Gc;have:¬(x<0):=by omega
   simp [this]
  rw [ehi,eou];by_cases c1:y>4
  ·rw [A3 (by simp [c1])]
   simp (disch:=omega) only [B6,Qb hx,Qb hy,wx,wy];rfl
  ·by_cases c2:x>=Ff .i64 1 y
   ·rw [A3 (by simp [c2])]
    simp (disch:=first|omega|exact c2) only [B6,Qb hx,Qb hy,wx,wy,wyu];rfl
   ·by_cases c3:(l.length:Int)=2+8*(18+y)
    ·rw [Bl ⟨h2,by simp [c1],by simp [c2],c3⟩]
     have lp:=GW (fu:=fu) (d:=d) (n:=l.length) (c:=Ai .u8 l) (l:=l) (by omega) hy (by omega) c3 hfu (y3:=0) (y4:=0) (n5:=0) (n6:=0) (n7:=0) (c5:=[]) (c6:=[]) (x:=x) (18+y.toNat) fu 0 (by omega) (by omega)
     simp (disch:=first|omega|exact c2) only [B6,Dp,Qb hx,Qb hy,wx,wy,wyu,w1,w2,w3];rw [Bl c3];simp (disch:=omega) only [B6,Mp,Qb hx,wx];refine Eq.trans lp ?_
     have e1:Fl ((l.drop 2).take 144)=(List.range 18).map (Z6 l):=by
      unfold Fl;rw [show ((l.drop 2).take 144).length / 8=18 by rw [List.length_take,List.length_drop];omega]
      exact List.map_congr_left fun i hi=>Apo (List.mem_range.1 hi)
     have e2:Fl (l.drop 146)=(List.range y.toNat).map fun j=>Z6 l (18+j):=by
      unfold Fl;rw [show (l.drop 146).length / 8=y.toNat by rw [List.length_drop];omega]
      exact List.map_congr_left fun i hi=>Aop
     rw [e1,e2];rfl
    ·rw [A3 (by simp [c3])]
     simp (disch:=first|omega|exact c2) only [B6,Dp,Qb hx,Qb hy,wx,wy,wyu,w1,w2,w3];rw [A3 c3];rfl
 ·rw [A3 (by simp [h2])]
  simp (disch:=omega) only [B6];rfl
end
theorem Al6 (seed leaf m:Int):TS leaf m (CP seed leaf m)=Pt seed leaf:=by
 unfold TS Pt RR
 congr 1
 refine List.map_congr_left fun i hi=>?_
 have hi:=List.mem_range.1 hi;have hb:=BK m i;unfold CN XT
 have e:(CP seed leaf m).getD i 0=ZR seed leaf m i:=by
  unfold CP;rw [List.getD_eq_getElem?_getD,List.getElem?_map,List.getElem?_range hi];rfl
 rw [e];unfold ZR;have:=Ace leaf i (dg m i).toNat (15-dg m i).toNat 0 (Aec seed leaf i);rw [show (dg m i).toNat+(15-dg m i).toNat=15 by omega,show (0:Int)+((dg m i).toNat:Nat)=dg m i by omega] at this
 exact this.symm
theorem Ahz:∀n:Fin 16,∀k:Fin 4,
  (Ed .i64 (El .i64 (n.val:Int) k.val) 1=0∧El .i64 (n.val:Int) k.val=2*El .i64 (n.val:Int) ((k.val+1:Nat):Int)∧Y2 n.val k.val=2*El .i64 (n.val:Int) ((k.val+1:Nat):Int)+1) ∨
  (Ed .i64 (El .i64 (n.val:Int) k.val) 1≠0∧El .i64 (n.val:Int) k.val=2*El .i64 (n.val:Int) ((k.val+1:Nat):Int)+1∧Y2 n.val k.val=2*El .i64 (n.val:Int) ((k.val+1:Nat):Int)):=by decide
theorem PJ (seed:Int){leaf:Int}(h0:0<=leaf)(h1:leaf<16):∀(k i:Nat),i+k<=4 ->
  Xf leaf i (Kn seed i (El .i64 leaf i)) ((List.range' i k).map fun j=>Kn seed j (Y2 leaf j))=Kn seed (i+k) (El .i64 leaf ((i+k:Nat):Int))
 |0,i,_=>rfl
 |k+1,i,h=>by
  rw [List.range'_succ,Zzw,Y9];obtain ⟨n,rfl⟩:=Int.eq_ofNat_of_zero_le h0;have ih:=PJ seed h0 h1 k (i+1) (by omega)
  rw [show i+(k+1)=i+1+k by omega,←ih]
  congr 1
  rcases Ahz ⟨n,by omega⟩ ⟨i,by omega⟩ with ⟨a,b,c⟩|⟨a,b,c⟩
  ·simp only at a b c;rw [Bl a,b,c];rfl
  ·simp only at a b c;rw [A3 a,b,c];rfl
theorem Ake {seed h leaf m:Int}(hh:Df h=false)(ho:Gc leaf h=false):Jp (Ey seed h) m ⟨leaf,CP seed leaf m,(List.range h.toNat).map fun k=>Kn seed k (Y2 leaf k)⟩=0:=by
 have hb:=Gr hh;have hl:=Aen hb.1 hb.2 ho;have h16:=Arg hb.1 hb.2
 have eP:Ey seed h=⟨h,Kn seed h.toNat 0⟩:=by
  unfold Ey;rw [hh];rfl
 rw [eP];unfold Jp;simp only;rw [A3 (show ¬Df h=true by rw [hh];simp),A3 (show ¬Gc leaf h=true by rw [ho];simp),A3 (show ¬(CP seed leaf m).length≠18 by simp [CP]),A3 (by rw [List.length_map,List.length_range];omega),Al6]
 have c:=PJ seed hl.1 (show leaf<16 by omega) h.toNat 0 (by omega)
 have e0:El .i64 leaf ((0:Nat):Int)=leaf:=by
  show leaf.fdiv (2 ^ (min ((0:Nat):Int).toNat IntKind.i64.bits))=leaf;have:(2:Int) ^ (min ((0:Nat):Int).toNat IntKind.i64.bits)=1:=by decide
  rw [this,Int.fdiv_one]
 have eh:El .i64 leaf ((0+h.toNat:Nat):Int)=0:=by
  have H:∀n:Fin 16,∀k:Fin 5,(n.val:Int)<2 ^ k.val->El .i64 (n.val:Int) ((0+k.val:Nat):Int)=0:=by decide
  obtain ⟨n,hn⟩:=Int.eq_ofNat_of_zero_le hl.1;have:=H ⟨n,by omega⟩ ⟨h.toNat,by omega⟩ (by simp only;rw [←hn];exact hl.2)
  rw [hn];exact this
 rw [e0,eh,Bv] at c;have er:List.range' 0 h.toNat=List.range h.toNat:=List.range_eq_range'.symm;rw [er] at c;have el:Kn seed 0 leaf=Pt seed leaf:=rfl;rw [el] at c;rw [c];unfold okE;rw [Bl rfl]
end
section
open Go.IntKind (wrap)
set_option maxRecDepth 100000
abbrev NQ:FuncId:=125
theorem Aav (fu d:Nat)(a0:ByteArray):Ae C0 Tryz.prog fu (d+1) NQ [.sc (.string a0)]=(fun (call:Ar)=>some (A0.mk [.own 3 1 [.sc (.int .i64 4),.sc (.int .u64 0),.sc (.string a0)]] [])) (Ae C0 Tryz.prog fu d):=by kernel_rfl
abbrev MX:FuncId:=126
theorem Abz (fu d:Nat)(a0:Int):Ae C0 Tryz.prog fu (d+1) MX [.sc (.int .u64 a0)]=(fun (call:Ar)=>some (A0.mk [.own 3 1 [.sc (.int .i64 1),.sc (.int .u64 a0),.sc (.string (ByteArray.mk #[]))]] [])) (Ae C0 Tryz.prog fu d):=by kernel_rfl
abbrev JL:FuncId:=127
theorem ZJ (fu d a0n:Nat)(a0:List PV):Ae C0 Tryz.prog fu (d+1) JL [.lst false 1 a0n a0]=(fun (call:Ar)=>Ay (decide (a0.length=a0n))<|Fd (bytesOf a0) fun x1=>some (A0.mk [.own 3 1 [.sc (.int .i64 3),.sc (.int .u64 0),.sc (.string (ByteArray.mk (List.toArray x1)))]] [])) (Ae C0 Tryz.prog fu d):=by kernel_rfl
abbrev ML:FuncId:=128
theorem Ab2 (fu d:Nat)(a0:Bool):Ae C0 Tryz.prog fu (d+1) ML [.sc (.bool a0)]=(fun (call:Ar)=>A4 (a0) (some (A0.mk [.own 3 1 [.sc (.int .i64 7),.sc (.int .u64 1),.sc (.string (ByteArray.mk #[]))]] [])) (some (A0.mk [.own 3 1 [.sc (.int .i64 7),.sc (.int .u64 0),.sc (.string (ByteArray.mk #[]))]] []))) (Ae C0 Tryz.prog fu d):=by kernel_rfl
abbrev HH:FuncId:=133
theorem ZC (fu d:Nat)(a0:Int):Ae C0 Tryz.prog fu (d+1) HH [.sc (.int .u64 a0)]=(fun (call:Ar)=>A4 (decide (a0<24)) (some (A0.mk [.sc (.int .i64 0)] [])) (A4 (decide (a0<256)) (some (A0.mk [.sc (.int .i64 1)] [])) (A4 (decide (a0<65536)) (some (A0.mk [.sc (.int .i64 2)] [])) (A4 (decide (a0<4294967296)) (some (A0.mk [.sc (.int .i64 4)] [])) (some (A0.mk [.sc (.int .i64 8)] [])))))) (Ae C0 Tryz.prog fu d):=by kernel_rfl
abbrev DT:FuncId:=146
theorem TT (fu d:Nat)(a0_0 a0_1:Int)(a0_2:ByteArray):Ae C0 Tryz.prog fu (d+1) DT [.agg [.sc (.int .i64 a0_0),.sc (.int .u64 a0_1),.sc (.string a0_2)]]=(fun (call:Ar)=>A4 (a0_0==3) (some (A0.mk [.sc (.bool (a0_1==0))] [])) (A4 (a0_0==4) (some (A0.mk [.sc (.bool (a0_1==0))] [])) (A4 (a0_0==8) (A4 (a0_1==0) (some (A0.mk [.sc (.bool (Array.toList (ByteArray.data a0_2)==Array.toList (ByteArray.data (ByteArray.mk #[]))))] [])) (some (A0.mk [.sc (.bool false)] []))) (A4 (a0_0==7) (A4 (decide (a0_1<=1)) (some (A0.mk [.sc (.bool (Array.toList (ByteArray.data a0_2)==Array.toList (ByteArray.data (ByteArray.mk #[]))))] [])) (some (A0.mk [.sc (.bool false)] []))) (some (A0.mk [.sc (.bool (Array.toList (ByteArray.data a0_2)==Array.toList (ByteArray.data (ByteArray.mk #[]))))] [])))))) (Ae C0 Tryz.prog fu d):=by kernel_rfl
abbrev Zr:FuncId:=136
theorem RG (fu d a0n:Nat)(a0:List PV)(a1n:Nat)(a1:List PV):Ae C0 Tryz.prog fu (d+1) Zr [.lst false 1 a0n a0,.lst false 1 a1n a1]=(fun (call:Ar)=>A4 ((↑a0n:Int) != (↑a1n:Int)) (some (A0.mk [.sc (.bool (decide ((↑a0n:Int)<(↑a1n:Int))))] [])) (Aj (call 143 [.lst false 1 a0n a0,.lst false 1 a1n a1]) fun x1 x2=>Ac x2<|Ab x1 fun x3 x4=>Af .i64 x3 fun x5=>Ac x4<|some (A0.mk [.sc (.bool (decide (x5<0)))] []))) (Ae C0 Tryz.prog fu d):=by kernel_rfl
abbrev Mz:FuncId:=142
noncomputable def Ek (fu:Nat)(call:Ar)(a0n:Nat)(a0:List PV)(a1 a2:Int)(nn y0:Nat)(y1 y2:Int)(y3:List PV):Option A0:=Cz C0 Tryz.prog fu call 142 Tryz.f142 (B9 Tryz.f142) [.own 1 a0n a0,.sc (.int .u8 a1),.sc (.int .u64 a2)] [.r,.r,.r,.r,.r,.l,.r,.l] nn ⟨lk [(0,(.view 0 1 0 y0)),(2,(.sc (.int .u64 y1))),(9,(.sc (.int .i64 y2)))],Gl [(0,(.ar false y3))]⟩
theorem Pg (fu:Nat)(call:Ar)(a0n:Nat)(a0:List PV)(a1 a2:Int)(nn y0:Nat)(y1 y2:Int)(y3:List PV):Ek fu call a0n a0 a1 a2 (nn+1) y0 y1 y2 y3=(A4 (decide (y2>=0)) (Aa (wrap .i64 (8*y2)) fun D2=>Ay (decide (0<=D2))<|Aa (El .u64 y1 D2) fun D0=>Aa (wrap .u8 D0) fun D9=>Ay (decide (y0*1<=y3.length)&&true&&decide ((y0+1)*1<=1099511627776)&&decide (y0+1<=1099511627776))<|Aa (y0+1) fun Fj=>Aa (List.take (y0*1) y3++[.sc (.int .u8 D9)]) fun Cn=>Aa (wrap .i64 (y2-1)) fun Fn=>Ek fu call a0n a0 a1 a2 (nn) Fj (y1) Fn Cn) (Ay (decide (y0*1<=y3.length))<|some (A0.mk [.own 1 y0 (List.take (y0*1) y3)] []))):=by kernel_rfl
theorem JK (fu d a0n:Nat)(a0:List PV)(a1 a2:Int):Ae C0 Tryz.prog fu (d+1) Mz [.own 1 a0n a0,.sc (.int .u8 a1),.sc (.int .u64 a2)]=(fun (call:Ar)=>Aa (Ff .u8 a1 5) fun x1=>A4 (decide (a2<24)) (Aa (wrap .u8 a2) fun x2=>Aa (wrap .u8 (x1+x2)) fun x3=>Ay (decide (a0n*1<=a0.length)&&true&&decide ((a0n+1)*1<=1099511627776)&&decide (a0n+1<=1099511627776))<|Aa (a0n+1) fun x4=>Aa (List.take (a0n*1) a0++[.sc (.int .u8 x3)]) fun x5=>Ay (decide (x4*1<=x5.length))<|some (A0.mk [.own 1 x4 (List.take (x4*1) x5)] [])) (A4 (decide (a2<256)) (Aa (wrap .u8 (x1+24)) fun x6=>Ay (decide (a0n*1<=a0.length)&&true&&decide ((a0n+1)*1<=1099511627776)&&decide (a0n+1<=1099511627776))<|Aa (a0n+1) fun x7=>Aa (List.take (a0n*1) a0++[.sc (.int .u8 x6)]) fun x8=>Ek fu call a0n a0 a1 a2 (fu) x7 (a2) 0 x8) (A4 (decide (a2<65536)) (Aa (wrap .u8 (x1+25)) fun x9=>Ay (decide (a0n*1<=a0.length)&&true&&decide ((a0n+1)*1<=1099511627776)&&decide (a0n+1<=1099511627776))<|Aa (a0n+1) fun Ck=>Aa (List.take (a0n*1) a0++[.sc (.int .u8 x9)]) fun Bn=>Ek fu call a0n a0 a1 a2 (fu) Ck (a2) 1 Bn) (A4 (decide (a2<4294967296)) (Aa (wrap .u8 (x1+26)) fun Cw=>Ay (decide (a0n*1<=a0.length)&&true&&decide ((a0n+1)*1<=1099511627776)&&decide (a0n+1<=1099511627776))<|Aa (a0n+1) fun Da=>Aa (List.take (a0n*1) a0++[.sc (.int .u8 Cw)]) fun Cq=>Ek fu call a0n a0 a1 a2 (fu) Da (a2) 3 Cq) (Aa (wrap .u8 (x1+27)) fun Cy=>Ay (decide (a0n*1<=a0.length)&&true&&decide ((a0n+1)*1<=1099511627776)&&decide (a0n+1<=1099511627776))<|Aa (a0n+1) fun Db=>Aa (List.take (a0n*1) a0++[.sc (.int .u8 Cy)]) fun Dq=>Ek fu call a0n a0 a1 a2 (fu) Db (a2) 7 Dq))))) (Ae C0 Tryz.prog fu d):=by kernel_rfl
abbrev Ug:FuncId:=135
theorem IA (fu d a0n:Nat)(a0:List PV)(a1_0 a1_1:Int)(a1_2:ByteArray):Ae C0 Tryz.prog fu (d+1) Ug [.own 1 a0n a0,.agg [.sc (.int .i64 a1_0),.sc (.int .u64 a1_1),.sc (.string a1_2)]]=(fun (call:Ar)=>A4 (a1_0==7) (Aa (wrap .u8 a1_1) fun x1=>Aa (wrap .u8 (244+x1)) fun x2=>Ay (decide (a0n*1<=a0.length)&&true&&decide ((a0n+1)*1<=1099511627776)&&decide (a0n+1<=1099511627776))<|Aa (a0n+1) fun x3=>Aa (List.take (a0n*1) a0++[.sc (.int .u8 x2)]) fun x4=>Ay (decide (x3*1<=x4.length))<|some (A0.mk [.own 1 x3 (List.take (x3*1) x4)] [])) (A4 (a1_0==8) (Ay (decide (a0n*1<=a0.length)&&true&&decide ((a0n+1)*1<=1099511627776)&&decide (a0n+1<=1099511627776))<|Aa (a0n+1) fun x5=>Aa (List.take (a0n*1) a0++[.sc (.int .u8 246)]) fun x6=>Ay (decide (x5*1<=x6.length))<|some (A0.mk [.own 1 x5 (List.take (x5*1) x6)] [])) (A4 (a1_0==3) (Aa (wrap .i64 (a1_0-1)) fun x7=>Aa (wrap .u8 x7) fun x8=>Aa (wrap .u64 (↑(ByteArray.size a1_2):Int)) fun x9=>Ay (decide (a0n*1<=a0.length))<|Aj (call 142 [.own 1 a0n (List.take (a0n*1) a0),.sc (.int .u8 x8),.sc (.int .u64 x9)]) fun Ck Bn=>Ab Ck fun Cw Da=>Dc 1 Cw fun Cq Cy=>Ac Da<|Ac Bn<|Ay (decide (Cq*1<=Cy.length)&&decide (List.length (Ct a1_2)=ByteArray.size a1_2*1)&&decide ((Cq+ByteArray.size a1_2)*1<=1099511627776)&&decide (Cq+ByteArray.size a1_2<=1099511627776))<|Aa (Cq+ByteArray.size a1_2) fun Db=>Aa (List.take (Cq*1) Cy++Ct a1_2) fun Dq=>Ay (decide (Db*1<=Dq.length))<|some (A0.mk [.own 1 Db (List.take (Db*1) Dq)] [])) (A4 (a1_0==4) (Aa (wrap .i64 (a1_0-1)) fun D2=>Aa (wrap .u8 D2) fun D0=>Aa (wrap .u64 (↑(ByteArray.size a1_2):Int)) fun D9=>Ay (decide (a0n*1<=a0.length))<|Aj (call 142 [.own 1 a0n (List.take (a0n*1) a0),.sc (.int .u8 D0),.sc (.int .u64 D9)]) fun Fj Cn=>Ab Fj fun Fn Dj=>Dc 1 Fn fun B3 Et=>Ac Dj<|Ac Cn<|Ay (decide (B3*1<=Et.length)&&decide (List.length (Ct a1_2)=ByteArray.size a1_2*1)&&decide ((B3+ByteArray.size a1_2)*1<=1099511627776)&&decide (B3+ByteArray.size a1_2<=1099511627776))<|Aa (B3+ByteArray.size a1_2) fun F1=>Aa (List.take (B3*1) Et++Ct a1_2) fun Bm=>Ay (decide (F1*1<=Bm.length))<|some (A0.mk [.own 1 F1 (List.take (F1*1) Bm)] [])) (Aa (wrap .i64 (a1_0-1)) fun Cj=>Aa (wrap .u8 Cj) fun Gt=>Ay (decide (a0n*1<=a0.length))<|Aj (call 142 [.own 1 a0n (List.take (a0n*1) a0),.sc (.int .u8 Gt),.sc (.int .u64 a1_1)]) fun Gu Hz=>Ab Gu fun Ha Il=>Dc 1 Ha fun G4 Ir=>Ac Il<|Ac Hz<|Ay (decide (G4*1<=Ir.length))<|some (A0.mk [.own 1 G4 (List.take (G4*1) Ir)] [])))))) (Ae C0 Tryz.prog fu d):=by kernel_rfl
abbrev Wi:FuncId:=109
theorem LQ (fu d a0_0n:Nat)(a0_0:List PV)(a0_1:Int):Ae C0 Tryz.prog fu (d+1) Wi [.pbox [.own 3 a0_0n a0_0,.sc (.int .i64 a0_1)]]=(fun (call:Ar)=>A4 (decide (a0_1>0)) (Ay (decide (a0_0n*3<=a0_0.length))<|some (A0.mk [.sc (.bool ((↑a0_0n:Int)==0))] [[.own 3 a0_0n (List.take (a0_0n*3) a0_0),.sc (.int .i64 a0_1)]])) (Ay (decide (a0_0n*3<=a0_0.length))<|some (A0.mk [.sc (.bool false)] [[.own 3 a0_0n (List.take (a0_0n*3) a0_0),.sc (.int .i64 a0_1)]]))) (Ae C0 Tryz.prog fu d):=by kernel_rfl
abbrev Tr:FuncId:=134
theorem HA (fu d a0_0n:Nat)(a0_0:List PV)(a0_1:Int):Ae C0 Tryz.prog fu (d+1) Tr [.pbox [.own 3 a0_0n a0_0,.sc (.int .i64 a0_1)]]=(fun (call:Ar)=>A4 (decide ((↑a0_0n:Int)>0)) (Aa (wrap .i64 ((↑a0_0n:Int)-1)) fun x1=>Ay (decide (0<=x1)&&decide (x1<(↑a0_0n:Int)))<|Bx (List.getD a0_0 (0+Int.toNat x1*3+0) .top) fun x2=>A4 x2 (Aa (wrap .i64 ((↑a0_0n:Int)-1)) fun x3=>Ay (decide (0<=x3)&&decide (x3<(↑a0_0n:Int)))<|Af .i64 (List.getD a0_0 (0+Int.toNat x3*3+1) .top) fun x4=>Aa (Int.tmod x4 2) fun x5=>Ay (decide (a0_0n*3<=a0_0.length))<|some (A0.mk [.sc (.bool (x5==0))] [[.own 3 a0_0n (List.take (a0_0n*3) a0_0),.sc (.int .i64 a0_1)]])) (Ay (decide (a0_0n*3<=a0_0.length))<|some (A0.mk [.sc (.bool false)] [[.own 3 a0_0n (List.take (a0_0n*3) a0_0),.sc (.int .i64 a0_1)]]))) (Ay (decide (a0_0n*3<=a0_0.length))<|some (A0.mk [.sc (.bool false)] [[.own 3 a0_0n (List.take (a0_0n*3) a0_0),.sc (.int .i64 a0_1)]]))) (Ae C0 Tryz.prog fu d):=by kernel_rfl
abbrev Uj:FuncId:=121
theorem JJ (fu d a0_0n:Nat)(a0_0:List PV)(a0_1 a1:Int):Ae C0 Tryz.prog fu (d+1) Uj [.pbox [.own 3 a0_0n a0_0,.sc (.int .i64 a0_1)],.sc (.int .i64 a1)]=(fun (call:Ar)=>A4 (decide (a0_1>=512)) (Ay (decide (a0_0n*3<=a0_0.length))<|some (A0.mk [.sc (.int .i64 8)] [[.own 3 a0_0n (List.take (a0_0n*3) a0_0),.sc (.int .i64 a0_1)]])) (A4 (decide (a1<1)) (Ay (decide (a0_0n*3<=a0_0.length))<|some (A0.mk [.sc (.int .i64 3)] [[.own 3 a0_0n (List.take (a0_0n*3) a0_0),.sc (.int .i64 a0_1)]])) (A4 (decide (a1>8)) (Ay (decide (a0_0n*3<=a0_0.length))<|some (A0.mk [.sc (.int .i64 3)] [[.own 3 a0_0n (List.take (a0_0n*3) a0_0),.sc (.int .i64 a0_1)]])) (Ay (decide (a0_0n*3<=a0_0.length))<|Aj (call 134 [.pbox [.own 3 a0_0n (List.take (a0_0n*3) a0_0),.sc (.int .i64 a0_1)]]) fun x1 x2=>Ab x1 fun x3 x4=>Bx x3 fun x5=>Ac x4<|Ab x2 fun x6 x7=>Ab x6 fun x8 x9=>Dc 3 x8 fun Ck Bn=>Ab x9 fun Cw Da=>Af .i64 Cw fun Cq=>Ac Da<|Ac x7<|A4 x5 (A4 (a1 != 1) (A4 (a1 != 2) (A4 (a1 != 4) (Ay (decide (Ck*3<=Bn.length))<|some (A0.mk [.sc (.int .i64 3)] [[.own 3 Ck (List.take (Ck*3) Bn),.sc (.int .i64 Cq)]])) (A4 (decide ((↑Ck:Int)>8)) (Ay (decide (Ck*3<=Bn.length))<|some (A0.mk [.sc (.int .i64 5)] [[.own 3 Ck (List.take (Ck*3) Bn),.sc (.int .i64 Cq)]])) (Ay (decide (Ck*3<=Bn.length))<|some (A0.mk [.sc (.int .i64 0)] [[.own 3 Ck (List.take (Ck*3) Bn),.sc (.int .i64 Cq)]])))) (A4 (decide ((↑Ck:Int)>8)) (Ay (decide (Ck*3<=Bn.length))<|some (A0.mk [.sc (.int .i64 5)] [[.own 3 Ck (List.take (Ck*3) Bn),.sc (.int .i64 Cq)]])) (Ay (decide (Ck*3<=Bn.length))<|some (A0.mk [.sc (.int .i64 0)] [[.own 3 Ck (List.take (Ck*3) Bn),.sc (.int .i64 Cq)]])))) (A4 (decide ((↑Ck:Int)>8)) (Ay (decide (Ck*3<=Bn.length))<|some (A0.mk [.sc (.int .i64 5)] [[.own 3 Ck (List.take (Ck*3) Bn),.sc (.int .i64 Cq)]])) (Ay (decide (Ck*3<=Bn.length))<|some (A0.mk [.sc (.int .i64 0)] [[.own 3 Ck (List.take (Ck*3) Bn),.sc (.int .i64 Cq)]])))) (A4 (decide ((↑Ck:Int)>8)) (Ay (decide (Ck*3<=Bn.length))<|some (A0.mk [.sc (.int .i64 5)] [[.own 3 Ck (List.take (Ck*3) Bn),.sc (.int .i64 Cq)]])) (Ay (decide (Ck*3<=Bn.length))<|some (A0.mk [.sc (.int .i64 0)] [[.own 3 Ck (List.take (Ck*3) Bn),.sc (.int .i64 Cq)]]))))))) (Ae C0 Tryz.prog fu d):=by kernel_rfl
abbrev Wj:FuncId:=137
noncomputable def Bi (fu:Nat)(call:Ar)(a0_0n:Nat)(a0_0:List PV)(a0_1 a1_0 a1_1:Int)(a1_2:ByteArray)(nn:Nat)(y0:Int)(y1:Nat)(y2:Int)(y3:List PV):Option A0:=Cz C0 Tryz.prog fu call 137 Tryz.f137 (B9 Tryz.f137) [.pbox [.own 3 a0_0n a0_0,.sc (.int .i64 a0_1)],.agg [.sc (.int .i64 a1_0),.sc (.int .u64 a1_1),.sc (.string a1_2)]] [.r,.r,.r,.r,.r,.r,.l] nn ⟨lk [(0,(.ptr 212000 0)),(5,(.sc (.int .i64 y0)))],Gl [(212000,(.st [(.view 212106 3 0 y1),(.sc (.int .i64 y2))])),(212106,(.ar false y3))]⟩
theorem Qd (fu:Nat)(call:Ar)(a0_0n:Nat)(a0_0:List PV)(a0_1 a1_0 a1_1:Int)(a1_2:ByteArray)(nn:Nat)(y0:Int)(y1:Nat)(y2:Int)(y3:List PV):Bi fu call a0_0n a0_0 a0_1 a1_0 a1_1 a1_2 (nn+1) y0 y1 y2 y3=(A4 (decide (y0>0)) (Aa (wrap .i64 (y0-1)) fun Ir=>Ay (decide (0<=Ir)&&decide (Ir<(↑y1:Int)))<|Af .i64 (List.getD y3 (0+Int.toNat Ir*3+1) .top) fun Kr=>A4 (Kr==0) (Aa (wrap .i64 (y0-1)) fun F0=>Ay (decide (0<=F0))<|Ay (decide (Int.toNat F0<=y1))<|Aa (Int.toNat F0-0) fun H2=>Aa (wrap .i64 (y0-1)) fun Nc=>Bi fu call a0_0n a0_0 a0_1 a1_0 a1_1 a1_2 (nn) Nc H2 (y2) (y3)) (Ay (decide (y1*3<=y3.length))<|some (A0.mk [] [[.own 3 y1 (List.take (y1*3) y3),.sc (.int .i64 y2)]]))) (Ay (decide (y1*3<=y3.length))<|some (A0.mk [] [[.own 3 y1 (List.take (y1*3) y3),.sc (.int .i64 y2)]]))):=by kernel_rfl
theorem KI (fu d a0_0n:Nat)(a0_0:List PV)(a0_1 a1_0 a1_1:Int)(a1_2:ByteArray):Ae C0 Tryz.prog fu (d+1) Wj [.pbox [.own 3 a0_0n a0_0,.sc (.int .i64 a0_1)],.agg [.sc (.int .i64 a1_0),.sc (.int .u64 a1_1),.sc (.string a1_2)]]=(fun (call:Ar)=>Aa (wrap .i64 (a0_1+1)) fun x1=>A4 (decide ((↑a0_0n:Int)>0)) (Aa (wrap .i64 ((↑a0_0n:Int)-1)) fun x2=>Ay (decide (0<=x2)&&decide (x2<(↑a0_0n:Int)))<|Af .i64 (List.getD a0_0 (0+Int.toNat x2*3+1) .top) fun x3=>Aa (wrap .i64 (x3-1)) fun x4=>Ay (decide (0<=x2)&&decide (x2<(↑a0_0n:Int)))<|Ay (decide (0+Int.toNat x2*3+1+1<=a0_0.length))<|Aa (B7 a0_0 [.sc (.int .i64 x4)] (0+Int.toNat x2*3+1)) fun x5=>A4 (a1_0==5) (A4 (decide (a1_1>0)) (Aa (wrap .i64 a1_1) fun x6=>Ay (decide (a0_0n*3<=x5.length)&&true&&decide ((a0_0n+1)*40<=1099511627776)&&decide (a0_0n+1<=1099511627776))<|Aa (a0_0n+1) fun x7=>Aa (List.take (a0_0n*3) x5++[.sc (.bool false),.sc (.int .i64 x6),.lst false 1 0 []]) fun x8=>A4 (a1_0==6) (A4 (decide (a1_1>0)) (Aa (wrap .i64 a1_1) fun x9=>Aa (wrap .i64 (2*x9)) fun Ck=>Ay (decide (x7*3<=x8.length)&&true&&decide ((x7+1)*40<=1099511627776)&&decide (x7+1<=1099511627776))<|Aa (x7+1) fun Bn=>Aa (List.take (x7*3) x8++[.sc (.bool true),.sc (.int .i64 Ck),.lst false 1 0 []]) fun Cw=>Bi fu call a0_0n a0_0 a0_1 a1_0 a1_1 a1_2 (fu) ((↑Bn:Int)) Bn x1 Cw) (Bi fu call a0_0n a0_0 a0_1 a1_0 a1_1 a1_2 (fu) ((↑x7:Int)) x7 x1 x8)) (Bi fu call a0_0n a0_0 a0_1 a1_0 a1_1 a1_2 (fu) ((↑x7:Int)) x7 x1 x8)) (A4 (a1_0==6) (A4 (decide (a1_1>0)) (Aa (wrap .i64 a1_1) fun Da=>Aa (wrap .i64 (2*Da)) fun Cq=>Ay (decide (a0_0n*3<=x5.length)&&true&&decide ((a0_0n+1)*40<=1099511627776)&&decide (a0_0n+1<=1099511627776))<|Aa (a0_0n+1) fun Cy=>Aa (List.take (a0_0n*3) x5++[.sc (.bool true),.sc (.int .i64 Cq),.lst false 1 0 []]) fun Db=>Bi fu call a0_0n a0_0 a0_1 a1_0 a1_1 a1_2 (fu) ((↑Cy:Int)) Cy x1 Db) (Bi fu call a0_0n a0_0 a0_1 a1_0 a1_1 a1_2 (fu) ((↑a0_0n:Int)) (a0_0n) x1 x5)) (Bi fu call a0_0n a0_0 a0_1 a1_0 a1_1 a1_2 (fu) ((↑a0_0n:Int)) (a0_0n) x1 x5))) (A4 (a1_0==6) (A4 (decide (a1_1>0)) (Aa (wrap .i64 a1_1) fun Dq=>Aa (wrap .i64 (2*Dq)) fun D2=>Ay (decide (a0_0n*3<=x5.length)&&true&&decide ((a0_0n+1)*40<=1099511627776)&&decide (a0_0n+1<=1099511627776))<|Aa (a0_0n+1) fun D0=>Aa (List.take (a0_0n*3) x5++[.sc (.bool true),.sc (.int .i64 D2),.lst false 1 0 []]) fun D9=>Bi fu call a0_0n a0_0 a0_1 a1_0 a1_1 a1_2 (fu) ((↑D0:Int)) D0 x1 D9) (Bi fu call a0_0n a0_0 a0_1 a1_0 a1_1 a1_2 (fu) ((↑a0_0n:Int)) (a0_0n) x1 x5)) (Bi fu call a0_0n a0_0 a0_1 a1_0 a1_1 a1_2 (fu) ((↑a0_0n:Int)) (a0_0n) x1 x5))) (A4 (a1_0==5) (A4 (decide (a1_1>0)) (Aa (wrap .i64 a1_1) fun Fj=>Ay (decide (a0_0n*3<=a0_0.length)&&true&&decide ((a0_0n+1)*40<=1099511627776)&&decide (a0_0n+1<=1099511627776))<|Aa (a0_0n+1) fun Cn=>Aa (List.take (a0_0n*3) a0_0++[.sc (.bool false),.sc (.int .i64 Fj),.lst false 1 0 []]) fun Fn=>A4 (a1_0==6) (A4 (decide (a1_1>0)) (Aa (wrap .i64 a1_1) fun Dj=>Aa (wrap .i64 (2*Dj)) fun B3=>Ay (decide (Cn*3<=Fn.length)&&true&&decide ((Cn+1)*40<=1099511627776)&&decide (Cn+1<=1099511627776))<|Aa (Cn+1) fun Et=>Aa (List.take (Cn*3) Fn++[.sc (.bool true),.sc (.int .i64 B3),.lst false 1 0 []]) fun F1=>Bi fu call a0_0n a0_0 a0_1 a1_0 a1_1 a1_2 (fu) ((↑Et:Int)) Et x1 F1) (Bi fu call a0_0n a0_0 a0_1 a1_0 a1_1 a1_2 (fu) ((↑Cn:Int)) Cn x1 Fn)) (Bi fu call a0_0n a0_0 a0_1 a1_0 a1_1 a1_2 (fu) ((↑Cn:Int)) Cn x1 Fn)) (A4 (a1_0==6) (A4 (decide (a1_1>0)) (Aa (wrap .i64 a1_1) fun Bm=>Aa (wrap .i64 (2*Bm)) fun Cj=>Ay (decide (a0_0n*3<=a0_0.length)&&true&&decide ((a0_0n+1)*40<=1099511627776)&&decide (a0_0n+1<=1099511627776))<|Aa (a0_0n+1) fun Gt=>Aa (List.take (a0_0n*3) a0_0++[.sc (.bool true),.sc (.int .i64 Cj),.lst false 1 0 []]) fun Gu=>Bi fu call a0_0n a0_0 a0_1 a1_0 a1_1 a1_2 (fu) ((↑Gt:Int)) Gt x1 Gu) (Bi fu call a0_0n a0_0 a0_1 a1_0 a1_1 a1_2 (fu) ((↑a0_0n:Int)) (a0_0n) x1 (a0_0))) (Bi fu call a0_0n a0_0 a0_1 a1_0 a1_1 a1_2 (fu) ((↑a0_0n:Int)) (a0_0n) x1 (a0_0)))) (A4 (a1_0==6) (A4 (decide (a1_1>0)) (Aa (wrap .i64 a1_1) fun Hz=>Aa (wrap .i64 (2*Hz)) fun Ha=>Ay (decide (a0_0n*3<=a0_0.length)&&true&&decide ((a0_0n+1)*40<=1099511627776)&&decide (a0_0n+1<=1099511627776))<|Aa (a0_0n+1) fun Il=>Aa (List.take (a0_0n*3) a0_0++[.sc (.bool true),.sc (.int .i64 Ha),.lst false 1 0 []]) fun G4=>Bi fu call a0_0n a0_0 a0_1 a1_0 a1_1 a1_2 (fu) ((↑Il:Int)) Il x1 G4) (Bi fu call a0_0n a0_0 a0_1 a1_0 a1_1 a1_2 (fu) ((↑a0_0n:Int)) (a0_0n) x1 (a0_0))) (Bi fu call a0_0n a0_0 a0_1 a1_0 a1_1 a1_2 (fu) ((↑a0_0n:Int)) (a0_0n) x1 (a0_0))))) (Ae C0 Tryz.prog fu d):=by kernel_rfl
abbrev Kw:FuncId:=122
theorem Le (fu d a0_0n:Nat)(a0_0:List PV)(a0_1 a1_0 a1_1:Int)(a1_2:ByteArray):Ae C0 Tryz.prog fu (d+1) Kw [.pbox [.own 3 a0_0n a0_0,.sc (.int .i64 a0_1)],.agg [.sc (.int .i64 a1_0),.sc (.int .u64 a1_1),.sc (.string a1_2)]]=(fun (call:Ar)=>A4 (a1_0==4) (Aj (call 67 [.sc (.string a1_2)]) fun x1 x2=>Ac x2<|Ab x1 fun x3 x4=>Bx x3 fun x5=>Ac x4<|A4 (!x5) (Ay (decide (a0_0n*3<=a0_0.length))<|some (A0.mk [.sc (.int .i64 6)] [[.own 3 a0_0n (List.take (a0_0n*3) a0_0),.sc (.int .i64 a0_1)]])) (Ay (decide (a0_0n*3<=a0_0.length))<|Aj (call 134 [.pbox [.own 3 a0_0n (List.take (a0_0n*3) a0_0),.sc (.int .i64 a0_1)]]) fun x6 x7=>Ab x6 fun x8 x9=>Bx x8 fun Ck=>Ac x9<|Ab x7 fun Bn Cw=>Ab Bn fun Da Cq=>Dc 3 Da fun Cy Db=>Ab Cq fun Dq D2=>Af .i64 Dq fun D0=>Ac D2<|Ac Cw<|A4 Ck (Aa (wrap .i64 ((↑Cy:Int)-1)) fun D9=>Ay (decide (0<=D9)&&decide (D9<(↑Cy:Int)))<|Aj (call 135 [.own 1 0 [],.agg [.sc (.int .i64 a1_0),.sc (.int .u64 a1_1),.sc (.string a1_2)]]) fun Fj Cn=>Ab Fj fun Fn Dj=>Dc 1 Fn fun B3 Et=>Ac Dj<|Ac Cn<|F8 1 (List.getD Db (0+Int.toNat D9*3+0+2) .top) fun F1 Bm Cj=>A4 (decide (0<Bm)) (F8 1 (List.getD Db (0+Int.toNat D9*3+0+2) .top) fun Gt Gu Hz=>Ay (decide (0+B3*1<=Et.length))<|Aj (call 136 [.lst false 1 Gu Hz,.lst false 1 B3 (List.take (B3*1) (List.drop 0 Et))]) fun Ha Il=>Ac Il<|Ab Ha fun G4 Ir=>Bx G4 fun Kr=>Ac Ir<|A4 (!Kr) (Ay (decide (Cy*3<=Db.length))<|some (A0.mk [.sc (.int .i64 7)] [[.own 3 Cy (List.take (Cy*3) Db),.sc (.int .i64 D0)]])) (Ay (decide (0+Int.toNat D9*3+0+2+1<=Db.length))<|Ay (decide (0+B3*1<=Et.length))<|Aa (B7 Db [.lst false 1 B3 (List.take (B3*1) (List.drop 0 Et))] (0+Int.toNat D9*3+0+2)) fun F0=>Ay (decide (Cy*3<=F0.length))<|Aj (call 137 [.pbox [.own 3 Cy (List.take (Cy*3) F0),.sc (.int .i64 D0)],.agg [.sc (.int .i64 a1_0),.sc (.int .u64 a1_1),.sc (.string a1_2)]]) fun H2 Nc=>Ac H2<|Ab Nc fun Ot Kc=>Ab Ot fun J5 Nk=>Dc 3 J5 fun Md Oo=>Ab Nk fun Py Pw=>Af .i64 Py fun Ox=>Ac Pw<|Ac Kc<|Ay (decide (Md*3<=Oo.length))<|some (A0.mk [.sc (.int .i64 0)] [[.own 3 Md (List.take (Md*3) Oo),.sc (.int .i64 Ox)]]))) (DW (F8 1 (List.getD Db (0+Int.toNat D9*3+0+2) .top) fun Rb Q5 Q0=>Ay (decide (0+B3*1<=Et.length))<|Aj (call 136 [.lst false 1 Q5 Q0,.lst false 1 B3 (List.take (B3*1) (List.drop 0 Et))]) fun Ks S9=>Ac S9<|Ab Ks fun Ql Ru=>Bx Ql fun Nz=>Ac Ru<|A4 (!Nz) (Ay (decide (Cy*3<=Db.length))<|some (A0.mk [.sc (.int .i64 7)] [[.own 3 Cy (List.take (Cy*3) Db),.sc (.int .i64 D0)]])) (Ay (decide (0+Int.toNat D9*3+0+2+1<=Db.length))<|Ay (decide (0+B3*1<=Et.length))<|Aa (B7 Db [.lst false 1 B3 (List.take (B3*1) (List.drop 0 Et))] (0+Int.toNat D9*3+0+2)) fun Pz=>Ay (decide (Cy*3<=Pz.length))<|Aj (call 137 [.pbox [.own 3 Cy (List.take (Cy*3) Pz),.sc (.int .i64 D0)],.agg [.sc (.int .i64 a1_0),.sc (.int .u64 a1_1),.sc (.string a1_2)]]) fun Q9 Rk=>Ac Q9<|Ab Rk fun Pr Te=>Ab Pr fun Uv S7=>Dc 3 Uv fun Rz Ro=>Ab S7 fun Q7 Vv=>Af .i64 Q7 fun Tn=>Ac Vv<|Ac Te<|Ay (decide (Rz*3<=Ro.length))<|some (A0.mk [.sc (.int .i64 0)] [[.own 3 Rz (List.take (Rz*3) Ro),.sc (.int .i64 Tn)]]))) (Ay (decide (0+Int.toNat D9*3+0+2+1<=Db.length))<|Ay (decide (0+B3*1<=Et.length))<|Aa (B7 Db [.lst false 1 B3 (List.take (B3*1) (List.drop 0 Et))] (0+Int.toNat D9*3+0+2)) fun S5=>Ay (decide (Cy*3<=S5.length))<|Aj (call 137 [.pbox [.own 3 Cy (List.take (Cy*3) S5),.sc (.int .i64 D0)],.agg [.sc (.int .i64 a1_0),.sc (.int .u64 a1_1),.sc (.string a1_2)]]) fun Tj Uz=>Ac Tj<|Ab Uz fun Tm S8=>Ab Tm fun Rr Vg=>Dc 3 Rr fun T0 Vl=>Ab Vg fun W8 Wv=>Af .i64 W8 fun Yq=>Ac Wv<|Ac S8<|Ay (decide (T0*3<=Vl.length))<|some (A0.mk [.sc (.int .i64 0)] [[.own 3 T0 (List.take (T0*3) Vl),.sc (.int .i64 Yq)]])))) (Ay (decide (Cy*3<=Db.length))<|Aj (call 137 [.pbox [.own 3 Cy (List.take (Cy*3) Db),.sc (.int .i64 D0)],.agg [.sc (.int .i64 a1_0),.sc (.int .u64 a1_1),.sc (.string a1_2)]]) fun Wu X5=>Ac Wu<|Ab X5 fun Xq Y5=>Ab Xq fun Z3 AL=>Dc 3 Z3 fun Re S6=>Ab AL fun Uc GO=>Af .i64 Uc fun DV=>Ac GO<|Ac Y5<|Ay (decide (Re*3<=S6.length))<|some (A0.mk [.sc (.int .i64 0)] [[.own 3 Re (List.take (Re*3) S6),.sc (.int .i64 DV)]])))) (Ay (decide (a0_0n*3<=a0_0.length))<|Aj (call 134 [.pbox [.own 3 a0_0n (List.take (a0_0n*3) a0_0),.sc (.int .i64 a0_1)]]) fun FL JV=>Ab FL fun MP OZ=>Bx MP fun NC=>Ac OZ<|Ab JV fun OC NL=>Ab OC fun S0 Px=>Dc 3 S0 fun Gw Iz=>Ab Px fun Vh P6=>Af .i64 Vh fun Oh=>Ac P6<|Ac NL<|A4 NC (Aa (wrap .i64 ((↑Gw:Int)-1)) fun J9=>Ay (decide (0<=J9)&&decide (J9<(↑Gw:Int)))<|Aj (call 135 [.own 1 0 [],.agg [.sc (.int .i64 a1_0),.sc (.int .u64 a1_1),.sc (.string a1_2)]]) fun Vk Xx=>Ab Vk fun Ve Vj=>Dc 1 Ve fun Ig Ko=>Ac Vj<|Ac Xx<|F8 1 (List.getD Iz (0+Int.toNat J9*3+0+2) .top) fun Zp Y8 M8=>A4 (decide (0<Y8)) (F8 1 (List.getD Iz (0+Int.toNat J9*3+0+2) .top) fun Q6 Zn Xh=>Ay (decide (0+Ig*1<=Ko.length))<|Aj (call 136 [.lst false 1 Zn Xh,.lst false 1 Ig (List.take (Ig*1) (List.drop 0 Ko))]) fun Ym Yz=>Ac Yz<|Ab Ym fun AG Yy=>Bx AG fun Zb=>Ac Yy<|A4 (!Zb) (Ay (decide (Gw*3<=Iz.length))<|some (A0.mk [.sc (.int .i64 7)] [[.own 3 Gw (List.take (Gw*3) Iz),.sc (.int .i64 Oh)]])) (Ay (decide (0+Int.toNat J9*3+0+2+1<=Iz.length))<|Ay (decide (0+Ig*1<=Ko.length))<|Aa (B7 Iz [.lst false 1 Ig (List.take (Ig*1) (List.drop 0 Ko))] (0+Int.toNat J9*3+0+2)) fun Yg=>Ay (decide (Gw*3<=Yg.length))<|Aj (call 137 [.pbox [.own 3 Gw (List.take (Gw*3) Yg),.sc (.int .i64 Oh)],.agg [.sc (.int .i64 a1_0),.sc (.int .u64 a1_1),.sc (.string a1_2)]]) fun P5 U0=>Ac P5<|Ab U0 fun Zx Zz=>Ab Zx fun Xo FZ=>Dc 3 Xo fun Yu W1=>Ab FZ fun Z5 GB=>Af .i64 Z5 fun EM=>Ac GB<|Ac Zz<|Ay (decide (Yu*3<=W1.length))<|some (A0.mk [.sc (.int .i64 0)] [[.own 3 Yu (List.take (Yu*3) W1),.sc (.int .i64 EM)]]))) (DW (F8 1 (List.getD Iz (0+Int.toNat J9*3+0+2) .top) fun FM GI Xd=>Ay (decide (0+Ig*1<=Ko.length))<|Aj (call 136 [.lst false 1 GI Xd,.lst false 1 Ig (List.take (Ig*1) (List.drop 0 Ko))]) fun Ys BD=>Ac BD<|Ab Ys fun DG FC=>Bx DG fun AM=>Ac FC<|A4 (!AM) (Ay (decide (Gw*3<=Iz.length))<|some (A0.mk [.sc (.int .i64 7)] [[.own 3 Gw (List.take (Gw*3) Iz),.sc (.int .i64 Oh)]])) (Ay (decide (0+Int.toNat J9*3+0+2+1<=Iz.length))<|Ay (decide (0+Ig*1<=Ko.length))<|Aa (B7 Iz [.lst false 1 Ig (List.take (Ig*1) (List.drop 0 Ko))] (0+Int.toNat J9*3+0+2)) fun V3=>Ay (decide (Gw*3<=V3.length))<|Aj (call 137 [.pbox [.own 3 Gw (List.take (Gw*3) V3),.sc (.int .i64 Oh)],.agg [.sc (.int .i64 a1_0),.sc (.int .u64 a1_1),.sc (.string a1_2)]]) fun Yr DN=>Ac Yr<|Ab DN fun GK OA=>Ab GK fun OT LH=>Dc 3 OT fun Z2 FI=>Ab LH fun GC GQ=>Af .i64 GC fun MB=>Ac GQ<|Ac OA<|Ay (decide (Z2*3<=FI.length))<|some (A0.mk [.sc (.int .i64 0)] [[.own 3 Z2 (List.take (Z2*3) FI),.sc (.int .i64 MB)]]))) (Ay (decide (0+Int.toNat J9*3+0+2+1<=Iz.length))<|Ay (decide (0+Ig*1<=Ko.length))<|Aa (B7 Iz [.lst false 1 Ig (List.take (Ig*1) (List.drop 0 Ko))] (0+Int.toNat J9*3+0+2)) fun GT=>Ay (decide (Gw*3<=GT.length))<|Aj (call 137 [.pbox [.own 3 Gw (List.take (Gw*3) GT),.sc (.int .i64 Oh)],.agg [.sc (.int .i64 a1_0),.sc (.int .u64 a1_1),.sc (.string a1_2)]]) fun IJ HQ=>Ac IJ<|Ab HQ fun LJ KY=>Ab LJ fun JM KG=>Dc 3 JM fun EK IC=>Ab KG fun OK FR=>Af .i64 OK fun HN=>Ac FR<|Ac KY<|Ay (decide (EK*3<=IC.length))<|some (A0.mk [.sc (.int .i64 0)] [[.own 3 EK (List.take (EK*3) IC),.sc (.int .i64 HN)]])))) (Ay (decide (Gw*3<=Iz.length))<|Aj (call 137 [.pbox [.own 3 Gw (List.take (Gw*3) Iz),.sc (.int .i64 Oh)],.agg [.sc (.int .i64 a1_0),.sc (.int .u64 a1_1),.sc (.string a1_2)]]) fun EN GM=>Ac EN<|Ab GM fun KU QA=>Ab KU fun KD OS=>Dc 3 KD fun JG HO=>Ab OS fun PQ HB=>Af .i64 PQ fun OE=>Ac HB<|Ac QA<|Ay (decide (JG*3<=HO.length))<|some (A0.mk [.sc (.int .i64 0)] [[.own 3 JG (List.take (JG*3) HO),.sc (.int .i64 OE)]])))) (Ae C0 Tryz.prog fu d):=by kernel_rfl
abbrev Qx:FuncId:=144
theorem CV (fu d a0_0n:Nat)(a0_0:List PV)(a0_1 a1_0 a1_1:Int)(a1_2:ByteArray):Ae C0 Tryz.prog fu (d+1) Qx [.pbox [.own 3 a0_0n a0_0,.sc (.int .i64 a0_1)],.agg [.sc (.int .i64 a1_0),.sc (.int .u64 a1_1),.sc (.string a1_2)]]=(fun (call:Ar)=>Ay (decide (a0_0n*3<=a0_0.length))<|Aj (call 109 [.pbox [.own 3 a0_0n (List.take (a0_0n*3) a0_0),.sc (.int .i64 a0_1)]]) fun x1 x2=>Ab x1 fun x3 x4=>Bx x3 fun x5=>Ac x4<|Ab x2 fun x6 x7=>Ab x6 fun x8 x9=>Dc 3 x8 fun Ck Bn=>Ab x9 fun Cw Da=>Af .i64 Cw fun Cq=>Ac Da<|Ac x7<|A4 x5 (Ay (decide (Ck*3<=Bn.length))<|some (A0.mk [.sc (.int .i64 2)] [[.own 3 Ck (List.take (Ck*3) Bn),.sc (.int .i64 Cq)]])) (Ay (decide (Ck*3<=Bn.length))<|Aj (call 121 [.pbox [.own 3 Ck (List.take (Ck*3) Bn),.sc (.int .i64 Cq)],.sc (.int .i64 a1_0)]) fun Cy Db=>Ab Cy fun Dq D2=>Af .i64 Dq fun D0=>Ac D2<|Ab Db fun D9 Fj=>Ab D9 fun Cn Fn=>Dc 3 Cn fun Dj B3=>Ab Fn fun Et F1=>Af .i64 Et fun Bm=>Ac F1<|Ac Fj<|A4 (D0 != 0) (Ay (decide (Dj*3<=B3.length))<|some (A0.mk [.sc (.int .i64 D0)] [[.own 3 Dj (List.take (Dj*3) B3),.sc (.int .i64 Bm)]])) (Aj (call 146 [.agg [.sc (.int .i64 a1_0),.sc (.int .u64 a1_1),.sc (.string a1_2)]]) fun Cj Gt=>Ac Gt<|Ab Cj fun Gu Hz=>Bx Gu fun Ha=>Ac Hz<|A4 (!Ha) (Ay (decide (Dj*3<=B3.length))<|some (A0.mk [.sc (.int .i64 4)] [[.own 3 Dj (List.take (Dj*3) B3),.sc (.int .i64 Bm)]])) (A4 (decide ((↑(ByteArray.size a1_2):Int)>1024)) (Ay (decide (Dj*3<=B3.length))<|some (A0.mk [.sc (.int .i64 8)] [[.own 3 Dj (List.take (Dj*3) B3),.sc (.int .i64 Bm)]])) (A4 (a1_0==5) (A4 (decide (a1_1>512)) (Ay (decide (Dj*3<=B3.length))<|some (A0.mk [.sc (.int .i64 8)] [[.own 3 Dj (List.take (Dj*3) B3),.sc (.int .i64 Bm)]])) (Ay (decide (Dj*3<=B3.length))<|Aj (call 122 [.pbox [.own 3 Dj (List.take (Dj*3) B3),.sc (.int .i64 Bm)],.agg [.sc (.int .i64 a1_0),.sc (.int .u64 a1_1),.sc (.string a1_2)]]) fun Il G4=>Ab Il fun Ir Kr=>Af .i64 Ir fun F0=>Ac Kr<|Ab G4 fun H2 Nc=>Ab H2 fun Ot Kc=>Dc 3 Ot fun J5 Nk=>Ab Kc fun Md Oo=>Af .i64 Md fun Py=>Ac Oo<|Ac Nc<|Ay (decide (J5*3<=Nk.length))<|some (A0.mk [.sc (.int .i64 F0)] [[.own 3 J5 (List.take (J5*3) Nk),.sc (.int .i64 Py)]]))) (A4 (a1_0==6) (A4 (decide (a1_1>512)) (Ay (decide (Dj*3<=B3.length))<|some (A0.mk [.sc (.int .i64 8)] [[.own 3 Dj (List.take (Dj*3) B3),.sc (.int .i64 Bm)]])) (Ay (decide (Dj*3<=B3.length))<|Aj (call 122 [.pbox [.own 3 Dj (List.take (Dj*3) B3),.sc (.int .i64 Bm)],.agg [.sc (.int .i64 a1_0),.sc (.int .u64 a1_1),.sc (.string a1_2)]]) fun Pw Ox=>Ab Pw fun Rb Q5=>Af .i64 Rb fun Q0=>Ac Q5<|Ab Ox fun Ks S9=>Ab Ks fun Ql Ru=>Dc 3 Ql fun Nz Pz=>Ab Ru fun Q9 Rk=>Af .i64 Q9 fun Pr=>Ac Rk<|Ac S9<|Ay (decide (Nz*3<=Pz.length))<|some (A0.mk [.sc (.int .i64 Q0)] [[.own 3 Nz (List.take (Nz*3) Pz),.sc (.int .i64 Pr)]]))) (Ay (decide (Dj*3<=B3.length))<|Aj (call 122 [.pbox [.own 3 Dj (List.take (Dj*3) B3),.sc (.int .i64 Bm)],.agg [.sc (.int .i64 a1_0),.sc (.int .u64 a1_1),.sc (.string a1_2)]]) fun Te Uv=>Ab Te fun S7 Rz=>Af .i64 S7 fun Ro=>Ac Rz<|Ab Uv fun Q7 Vv=>Ab Q7 fun Tn S5=>Dc 3 Tn fun Tj Uz=>Ab S5 fun Tm S8=>Af .i64 Tm fun Rr=>Ac S8<|Ac Vv<|Ay (decide (Tj*3<=Uz.length))<|some (A0.mk [.sc (.int .i64 Ro)] [[.own 3 Tj (List.take (Tj*3) Uz),.sc (.int .i64 Rr)]])))))))) (Ae C0 Tryz.prog fu d):=by kernel_rfl
abbrev X8:FuncId:=140
noncomputable def Jq (fu:Nat)(call:Ar)(a0n:Nat)(a0:List PV)(nn y0:Nat)(y1:List PV)(y2 y3:Int)(y4:Nat)(y5:Int)(y6:List PV):Option A0:=Cz C0 Tryz.prog fu call 140 Tryz.f140 (B9 Tryz.f140) [.lst false 3 a0n a0] [.r,.r,.l,.r,.l] nn ⟨lk [(3,(.ptr 3 0)),(7,(.lst false 3 y0 y1)),(8,(.sc (.int .i64 y2))),(9,(.sc (.int .i64 y3)))],Gl [(3,(.st [(.view 25 3 0 y4),(.sc (.int .i64 y5))])),(25,(.ar false y6))]⟩
theorem Sv (fu:Nat)(call:Ar)(a0n:Nat)(a0:List PV)(nn y0:Nat)(y1:List PV)(y2 y3:Int)(y4:Nat)(y5:Int)(y6:List PV):Jq fu call a0n a0 (nn+1) y0 y1 y2 y3 y4 y5 y6=(A4 (decide (y3<y2)) (Ay (decide (0<=y3)&&decide (y3<(↑y0:Int)))<|Af .i64 (List.getD y1 (Int.toNat y3*3) .top) fun x1=>Af .u64 (List.getD y1 (Int.toNat y3*3+1) .top) fun x2=>Co (List.getD y1 (Int.toNat y3*3+1+1) .top) fun x3=>Ay (decide (y4*3<=y6.length))<|Aj (call 144 [.pbox [.own 3 y4 (List.take (y4*3) y6),.sc (.int .i64 y5)],.agg [.sc (.int .i64 x1),.sc (.int .u64 x2),.sc (.string x3)]]) fun x4 x5=>Ab x4 fun x6 x7=>Af .i64 x6 fun x8=>Ac x7<|Ab x5 fun x9 Ck=>Ab x9 fun Bn Cw=>Dc 3 Bn fun Da Cq=>Ab Cw fun Cy Db=>Af .i64 Cy fun Dq=>Ac Db<|Ac Ck<|A4 (x8 != 0) (some (A0.mk [.sc (.int .i64 x8)] [])) (Aa (wrap .i64 (y3+1)) fun D2=>Jq fu call a0n a0 (nn) (y0) (y1) (y2) D2 Da Dq Cq)) (Ay (decide (y4*3<=y6.length))<|Aj (call 109 [.pbox [.own 3 y4 (List.take (y4*3) y6),.sc (.int .i64 y5)]]) fun D0 D9=>Ab D0 fun Fj Cn=>Bx Fj fun Fn=>Ac Cn<|Ab D9 fun Dj B3=>Ab Dj fun Et F1=>Dc 3 Et fun Bm Cj=>Ab F1 fun Gt Gu=>Af .i64 Gt fun Hz=>Ac Gu<|Ac B3<|A4 (!Fn) (some (A0.mk [.sc (.int .i64 1)] [])) (some (A0.mk [.sc (.int .i64 0)] [])))):=by kernel_rfl
theorem NX (fu d a0n:Nat)(a0:List PV):Ae C0 Tryz.prog fu (d+1) X8 [.lst false 3 a0n a0]=(fun (call:Ar)=>Jq fu call a0n a0 (fu) (a0n) (a0) ((↑a0n:Int)) 0 0 0 ([])) (Ae C0 Tryz.prog fu d):=by kernel_rfl
abbrev AU:FuncId:=139
theorem SH (fu d a0n:Nat)(a0:List PV):Ae C0 Tryz.prog fu (d+1) AU [.own 3 a0n a0]=(fun (call:Ar)=>Ay (decide (0+a0n*3<=a0.length))<|Aj (call 140 [.lst false 3 a0n (List.take (a0n*3) (List.drop 0 a0))]) fun x1 x2=>Ac x2<|Ab x1 fun x3 x4=>Af .i64 x3 fun x5=>Ac x4<|A4 (x5 != 0) (some (A0.mk [.own 3 0 [],.sc (.int .i64 x5)] [])) (Ay (decide (a0n*3<=a0.length))<|some (A0.mk [.own 3 a0n (List.take (a0n*3) a0),.sc (.int .i64 0)] []))) (Ae C0 Tryz.prog fu d):=by kernel_rfl
abbrev DS:FuncId:=138
noncomputable def Mh (fu:Nat)(call:Ar)(a0n:Nat)(a0:List PV)(nn y0:Nat)(y1:List PV)(y2 y3:Int):Option A0:=Cz C0 Tryz.prog fu call 138 Tryz.f138 (B9 Tryz.f138) [.lst false 1 a0n a0] [.r,.l,.r,.l] nn ⟨lk [(6,(.lst false 1 y0 y1)),(7,(.sc (.int .i64 y2))),(8,(.sc (.int .i64 y3)))],Gl []⟩
theorem V7 (fu:Nat)(call:Ar)(a0n:Nat)(a0:List PV)(nn y0:Nat)(y1:List PV)(y2 y3:Int):Mh fu call a0n a0 (nn+1) y0 y1 y2 y3=(A4 (decide (y3<y2)) (Ay (decide (0<=y3)&&decide (y3<(↑y0:Int)))<|F8 3 (List.getD y1 (Int.toNat y3*1) .top) fun x1 x2 x3=>Aj (call 140 [.lst false 3 x2 x3]) fun x4 x5=>Ac x5<|Ab x4 fun x6 x7=>Af .i64 x6 fun x8=>Ac x7<|A4 (x8 != 0) (some (A0.mk [.sc (.int .i64 x8)] [])) (Aa (wrap .i64 (y3+1)) fun x9=>Mh fu call a0n a0 (nn) (y0) (y1) (y2) x9)) (some (A0.mk [.sc (.int .i64 0)] []))):=by kernel_rfl
theorem TX (fu d a0n:Nat)(a0:List PV):Ae C0 Tryz.prog fu (d+1) DS [.lst false 1 a0n a0]=(fun (call:Ar)=>Mh fu call a0n a0 (fu) (a0n) (a0) ((↑a0n:Int)) 0) (Ae C0 Tryz.prog fu d):=by kernel_rfl
abbrev Xb:FuncId:=124
noncomputable def On (fu:Nat)(call:Ar)(a0n:Nat)(a0:List PV)(nn y0 y1:Nat)(y2:List PV)(y3 y4:Int)(y5:List PV):Option A0:=Cz C0 Tryz.prog fu call 124 Tryz.f124 (B9 Tryz.f124) [.lst false 1 a0n a0] [.r,.r,.r,.l,.r,.l] nn ⟨lk [(5,(.view 5 3 0 y0)),(18,(.lst false 1 y1 y2)),(19,(.sc (.int .i64 y3))),(20,(.sc (.int .i64 y4)))],Gl [(5,(.ar false y5))]⟩
theorem X2 (fu:Nat)(call:Ar)(a0n:Nat)(a0:List PV)(nn y0 y1:Nat)(y2:List PV)(y3 y4:Int)(y5:List PV):On fu call a0n a0 (nn+1) y0 y1 y2 y3 y4 y5=(A4 (decide (y4<y3)) (Ay (decide (0<=y4)&&decide (y4<(↑y1:Int)))<|F8 3 (List.getD y2 (Int.toNat y4*1) .top) fun x7 x8 x9=>A4 (decide ((↑y0:Int)>512)) (Ay (decide (y0*3<=y5.length))<|Aj (call 139 [.own 3 y0 (List.take (y0*3) y5)]) fun Ck Bn=>Ab Ck fun Cw Da=>Dc 3 Cw fun Cq Cy=>Ab Da fun Db Dq=>Af .i64 Db fun D2=>Ac Dq<|Ac Bn<|Ay (decide (Cq*3<=Cy.length))<|some (A0.mk [.own 3 Cq (List.take (Cq*3) Cy),.sc (.int .i64 D2)] [])) (Ay (decide (y0*3<=y5.length)&&decide (x9.length=x8*3)&&decide ((y0+x8)*32<=1099511627776)&&decide (y0+x8<=1099511627776))<|Aa (y0+x8) fun D0=>Aa (List.take (y0*3) y5++x9) fun D9=>Aa (wrap .i64 (y4+1)) fun Fj=>On fu call a0n a0 (nn) D0 (y1) (y2) (y3) Fj D9)) (Ay (decide (y0*3<=y5.length))<|Aj (call 139 [.own 3 y0 (List.take (y0*3) y5)]) fun Cn Fn=>Ab Cn fun Dj B3=>Dc 3 Dj fun Et F1=>Ab B3 fun Bm Cj=>Af .i64 Bm fun Gt=>Ac Cj<|Ac Fn<|Ay (decide (Et*3<=F1.length))<|some (A0.mk [.own 3 Et (List.take (Et*3) F1),.sc (.int .i64 Gt)] []))):=by kernel_rfl
theorem YJ (fu d a0n:Nat)(a0:List PV):Ae C0 Tryz.prog fu (d+1) Xb [.lst false 1 a0n a0]=(fun (call:Ar)=>Aj (call 138 [.lst false 1 a0n a0]) fun x1 x2=>Ac x2<|Ab x1 fun x3 x4=>Af .i64 x3 fun x5=>Ac x4<|A4 (x5 != 0) (some (A0.mk [.own 3 0 [],.sc (.int .i64 x5)] [])) (Aa (wrap .u64 (↑a0n:Int)) fun x6=>On fu call a0n a0 (fu) 1 (a0n) (a0) ((↑a0n:Int)) 0 ([.sc (.int .i64 5),.sc (.int .u64 x6),.sc (.string (ByteArray.mk #[]))]))) (Ae C0 Tryz.prog fu d):=by kernel_rfl
abbrev U6:FuncId:=129
noncomputable def My (fu:Nat)(call:Ar)(a0n:Nat)(a0:List PV)(nn y0 y1:Nat)(y2:List PV)(y3 y4:Int)(y5:List PV):Option A0:=Cz C0 Tryz.prog fu call 129 Tryz.f129 (B9 Tryz.f129) [.lst false 3 a0n a0] [.r,.r,.r,.l,.r,.l] nn ⟨lk [(5,(.view 5 1 0 y0)),(13,(.lst false 3 y1 y2)),(14,(.sc (.int .i64 y3))),(15,(.sc (.int .i64 y4)))],Gl [(5,(.ar false y5))]⟩
theorem Vn (fu:Nat)(call:Ar)(a0n:Nat)(a0:List PV)(nn y0 y1:Nat)(y2:List PV)(y3 y4:Int)(y5:List PV):My fu call a0n a0 (nn+1) y0 y1 y2 y3 y4 y5=(A4 (decide (y4<y3)) (Ay (decide (0<=y4)&&decide (y4<(↑y1:Int)))<|Af .i64 (List.getD y2 (Int.toNat y4*3) .top) fun x6=>Af .u64 (List.getD y2 (Int.toNat y4*3+1) .top) fun x7=>Co (List.getD y2 (Int.toNat y4*3+1+1) .top) fun x8=>Ay (decide (y0*1<=y5.length))<|Aj (call 135 [.own 1 y0 (List.take (y0*1) y5),.agg [.sc (.int .i64 x6),.sc (.int .u64 x7),.sc (.string x8)]]) fun x9 Ck=>Ab x9 fun Bn Cw=>Dc 1 Bn fun Da Cq=>Ac Cw<|Ac Ck<|Aa (wrap .i64 (y4+1)) fun Cy=>My fu call a0n a0 (nn) Da (y1) (y2) (y3) Cy Cq) (Ay (decide (y0*1<=y5.length))<|some (A0.mk [.own 1 y0 (List.take (y0*1) y5),.sc (.int .i64 0)] []))):=by kernel_rfl
theorem TK (fu d a0n:Nat)(a0:List PV):Ae C0 Tryz.prog fu (d+1) U6 [.lst false 3 a0n a0]=(fun (call:Ar)=>Aj (call 140 [.lst false 3 a0n a0]) fun x1 x2=>Ac x2<|Ab x1 fun x3 x4=>Af .i64 x3 fun x5=>Ac x4<|A4 (x5 != 0) (some (A0.mk [.own 1 0 [],.sc (.int .i64 x5)] [])) (My fu call a0n a0 (fu) 0 (a0n) (a0) ((↑a0n:Int)) 0 ([]))) (Ae C0 Tryz.prog fu d):=by kernel_rfl
end
section
open Go.IntKind (wrap)
set_option maxRecDepth 100000
abbrev Rs:FuncId:=96
theorem EZ (fu d:Nat)(a0 a1:ByteArray):Ae C0 Tryz.prog fu (d+1) Rs [.sc (.string a0),.sc (.string a1)]=(fun (call:Ar)=>A4 ((↑(ByteArray.size a0):Int) != (↑(ByteArray.size a1):Int)) (some (A0.mk [.sc (.bool (decide ((↑(ByteArray.size a0):Int)<(↑(ByteArray.size a1):Int))))] [])) (some (A0.mk [.sc (.bool (Op.bytesLess (Array.toList (ByteArray.data a0)) (Array.toList (ByteArray.data a1))))] []))) (Ae C0 Tryz.prog fu d):=by kernel_rfl
abbrev Qp:FuncId:=95
theorem DQ (fu d:Nat)(a0:Int):Ae C0 Tryz.prog fu (d+1) Qp [.sc (.int .i64 a0)]=(fun (call:Ar)=>A4 (a0==1) (some (A0.mk [.sc (.bool true)] [])) (A4 (a0==2) (some (A0.mk [.sc (.bool true)] [])) (some (A0.mk [.sc (.bool (a0==4))] [])))) (Ae C0 Tryz.prog fu d):=by kernel_rfl
abbrev So:FuncId:=114
noncomputable def Dv (fu:Nat)(call:Ar)(a0_0 a0_1:Int)(a0_2:ByteArray)(nn:Nat)(y0 y1:Int):Option A0:=Cz C0 Tryz.prog fu call 114 Tryz.f114 (B9 Tryz.f114) [.agg [.sc (.int .i64 a0_0),.sc (.int .u64 a0_1),.sc (.string a0_2)]] [.r,.r,.r] nn ⟨lk [(3,(.sc (.int .u64 y0))),(4,(.sc (.int .u8 y1)))],Gl []⟩
theorem Yw (fu:Nat)(call:Ar)(a0_0 a0_1:Int)(a0_2:ByteArray)(nn:Nat)(hnn:0<nn)(y0 y1:Int):Dv fu call a0_0 a0_1 a0_2 nn y0 y1=(A4 (decide (y0<24)) (Aa (wrap .u8 y0) fun x5=>Aa (wrap .u8 (y1+x5)) fun x6=>some (A0.mk [.own 1 1 [.sc (.int .u8 x6)]] [])) (A4 (decide (y0<256)) (Aa (wrap .u8 (y1+24)) fun x7=>Aa (wrap .u8 y0) fun x8=>some (A0.mk [.own 1 2 [.sc (.int .u8 x7),.sc (.int .u8 x8)]] [])) (A4 (decide (y0<65536)) (Aa (wrap .u8 (y1+25)) fun x9=>Aa (El .u64 y0 8) fun Ck=>Aa (wrap .u8 Ck) fun Bn=>Aa (wrap .u8 y0) fun Cw=>some (A0.mk [.own 1 3 [.sc (.int .u8 x9),.sc (.int .u8 Bn),.sc (.int .u8 Cw)]] [])) (A4 (decide (y0<4294967296)) (Aa (wrap .u8 (y1+26)) fun Da=>Aa (El .u64 y0 24) fun Cq=>Aa (wrap .u8 Cq) fun Cy=>Aa (El .u64 y0 16) fun Db=>Aa (wrap .u8 Db) fun Dq=>Aa (El .u64 y0 8) fun D2=>Aa (wrap .u8 D2) fun D0=>Aa (wrap .u8 y0) fun D9=>some (A0.mk [.own 1 5 [.sc (.int .u8 Da),.sc (.int .u8 Cy),.sc (.int .u8 Dq),.sc (.int .u8 D0),.sc (.int .u8 D9)]] [])) (Aa (wrap .u8 (y1+27)) fun Fj=>Aj (call 38 [.lst false 1 1 [.sc (.int .u64 y0)]]) fun Cn Fn=>Ac Fn<|Ab Cn fun Dj B3=>Dc 1 Dj fun Et F1=>Ac B3<|Ay (decide (0+Et*1<=F1.length))<|Ay (decide (List.length (List.take (Et*1) (List.drop 0 F1))=Et*1)&&decide ((1+Et)*1<=1099511627776)&&decide (1+Et<=1099511627776))<|Aa (1+Et) fun Bm=>Aa ([.sc (.int .u8 Fj)]++List.take (Et*1) (List.drop 0 F1)) fun Cj=>Ay (decide (Bm*1<=Cj.length))<|some (A0.mk [.own 1 Bm (List.take (Bm*1) Cj)] [])))))):=by cases nn with|zero=>exact absurd hnn (Nat.lt_irrefl 0)|succ nn=>kernel_rfl
theorem FG (fu d:Nat)(a0_0 a0_1:Int)(a0_2:ByteArray):Ae C0 Tryz.prog fu (d+1) So [.agg [.sc (.int .i64 a0_0),.sc (.int .u64 a0_1),.sc (.string a0_2)]]=(fun (call:Ar)=>A4 (a0_0==7) (Aa (wrap .u8 a0_1) fun x1=>Aa (wrap .u8 (244+x1)) fun x2=>some (A0.mk [.own 1 1 [.sc (.int .u8 x2)]] [])) (A4 (a0_0==8) (some (A0.mk [.own 1 1 [.sc (.int .u8 246)]] [])) (A4 (a0_0==2) (Dv fu call a0_0 a0_1 a0_2 (fu) (a0_1) 32) (A4 (a0_0==3) (Aa (wrap .u64 (↑(ByteArray.size a0_2):Int)) fun x3=>Dv fu call a0_0 a0_1 a0_2 (fu) x3 64) (A4 (a0_0==4) (Aa (wrap .u64 (↑(ByteArray.size a0_2):Int)) fun x4=>Dv fu call a0_0 a0_1 a0_2 (fu) x4 96) (A4 (a0_0==5) (Dv fu call a0_0 a0_1 a0_2 (fu) (a0_1) 128) (A4 (a0_0==6) (Dv fu call a0_0 a0_1 a0_2 (fu) (a0_1) 160) (Dv fu call a0_0 a0_1 a0_2 (fu) (a0_1) 0)))))))) (Ae C0 Tryz.prog fu d):=by kernel_rfl
abbrev Qr:FuncId:=97
theorem DB (fu d:Nat)(a0_0 a0_1:Int)(a0_2:ByteArray):Ae C0 Tryz.prog fu (d+1) Qr [.agg [.sc (.int .i64 a0_0),.sc (.int .u64 a0_1),.sc (.string a0_2)]]=(fun (call:Ar)=>Aj (call 114 [.agg [.sc (.int .i64 a0_0),.sc (.int .u64 a0_1),.sc (.string a0_2)]]) fun x1 x2=>Ac x2<|Ab x1 fun x3 x4=>Dc 1 x3 fun x5 x6=>Ac x4<|Ay (decide (0+x5*1<=x6.length))<|Ay (decide (List.length (List.take (x5*1) (List.drop 0 x6))=x5))<|Fd (bytesOf (List.take (x5*1) (List.drop 0 x6))) fun x7=>Ay (decide (ByteArray.size (ByteArray.mk (List.toArray x7))+ByteArray.size a0_2<=9223372036854775807))<|Aa (ByteArray.mk (List.toArray x7)++a0_2) fun x8=>some (A0.mk [.sc (.string x8)] [])) (Ae C0 Tryz.prog fu d):=by kernel_rfl
abbrev Jy:FuncId:=94
noncomputable def Dg (fu:Nat)(call:Ar)(a0_0:ByteArray)(a0_1:Int)(a0_2n:Nat)(a0_2:List PV)(nn:Nat)(y0 y1:Int)(y2 y3:Int)(y4:ByteArray)(y5:Int)(y6:Nat)(y7:List PV)(y8 y9:Int)(y10:ByteArray):Option A0:=Cz C0 Tryz.prog fu call 94 Tryz.f94 (B9 Tryz.f94) [.pbox [.sc (.string a0_0),.sc (.int .i64 a0_1),.own 3 a0_2n a0_2]] [.r,.r,.r,.r,.r,.r,.r,.r,.r,.r,.r,.l,.r,.l] nn ⟨lk [(0,(.ptr 274000 0)),(2,(.ptr 2 0)),(5,(.sc (.int .i64 y0))),(7,(.sc (.int .i64 y1))),(8,(.sc (.int .u64 y2))),(9,(.sc (.int .i64 y3)))],Gl [(274000,(.st [(.sc (.string y4)),(.sc (.int .i64 y5)),(.view 274411 3 0 y6)])),(274411,(.ar false y7)),(2,(.st [(.sc (.int .i64 y8)),(.sc (.int .u64 y9)),(.sc (.string y10))]))]⟩
theorem Ie (fu:Nat)(call:Ar)(a0_0:ByteArray)(a0_1:Int)(a0_2n:Nat)(a0_2:List PV)(nn:Nat)(y0 y1:Int)(y2 y3:Int)(y4:ByteArray)(y5:Int)(y6:Nat)(y7:List PV)(y8 y9:Int)(y10:ByteArray):Dg fu call a0_0 a0_1 a0_2n a0_2 (nn+1) y0 y1 y2 y3 y4 y5 y6 y7 y8 y9 y10=(A4 (decide (y3<y1)) (Aa (Ff .u64 y2 8) fun Cn=>Aa (wrap .i64 (y5+1)) fun Fn=>Aa (wrap .i64 (Fn+y3)) fun Dj=>Ay (decide (0<=Dj))<|Fd ((Array.toList (ByteArray.data y4))[Int.toNat Dj]?) fun B3=>Aa (wrap .u64 (↑(UInt8.toNat B3):Int)) fun Et=>Aa (CH .u64 Cn Et) fun F1=>Aa (wrap .i64 (y3+1)) fun Bm=>Dg fu call a0_0 a0_1 a0_2n a0_2 (nn) (y0) (y1) F1 Bm (y4) (y5) (y6) (y7) (y8) (y9) (y10)) (Ay (decide (0<=y1)&&decide (y1<9))<|Af .u64 (List.getD [.sc (.int .u64 0),.sc (.int .u64 24),.sc (.int .u64 256),.sc (.int .u64 0),.sc (.int .u64 65536),.sc (.int .u64 0),.sc (.int .u64 0),.sc (.int .u64 0),.sc (.int .u64 4294967296)] (0+Int.toNat y1*1) .top) fun Cj=>A4 (decide (y2<Cj)) (Ay (decide (y6*3<=y7.length))<|some (A0.mk [.agg [.sc (.int .i64 0),.sc (.int .u64 0),.sc (.string (ByteArray.mk #[]))],.sc (.int .i64 2)] [[.sc (.string y4),.sc (.int .i64 y5),.own 3 y6 (List.take (y6*3) y7)]])) (Aa (wrap .i64 (1+y1)) fun Gt=>Aa (wrap .i64 (y5+Gt)) fun Gu=>Ay (decide (0<=y0)&&decide (y0<6))<|Af .i64 (List.getD [.sc (.int .i64 1),.sc (.int .i64 2),.sc (.int .i64 3),.sc (.int .i64 4),.sc (.int .i64 5),.sc (.int .i64 6)] (0+Int.toNat y0*1) .top) fun Hz=>Ay (decide (y6*3<=y7.length))<|some (A0.mk [.agg [.sc (.int .i64 Hz),.sc (.int .u64 y2),.sc (.string (ByteArray.mk #[]))],.sc (.int .i64 0)] [[.sc (.string y4),.sc (.int .i64 Gu),.own 3 y6 (List.take (y6*3) y7)]])))):=by kernel_rfl
theorem Tc (fu d:Nat)(a0_0:ByteArray)(a0_1:Int)(a0_2n:Nat)(a0_2:List PV):Ae C0 Tryz.prog fu (d+1) Jy [.pbox [.sc (.string a0_0),.sc (.int .i64 a0_1),.own 3 a0_2n a0_2]]=(fun (call:Ar)=>A4 (decide (a0_1>=(↑(ByteArray.size a0_0):Int))) (Ay (decide (a0_2n*3<=a0_2.length))<|some (A0.mk [.agg [.sc (.int .i64 0),.sc (.int .u64 0),.sc (.string (ByteArray.mk #[]))],.sc (.int .i64 1)] [[.sc (.string a0_0),.sc (.int .i64 a0_1),.own 3 a0_2n (List.take (a0_2n*3) a0_2)]])) (Ay (decide (0<=a0_1))<|Fd ((Array.toList (ByteArray.data a0_0))[Int.toNat a0_1]?) fun x1=>A4 ((↑(UInt8.toNat x1):Int)==244) (Aa (wrap .i64 (a0_1+1)) fun x2=>Aa (wrap .u8 ((↑(UInt8.toNat x1):Int)-244)) fun x3=>Aa (wrap .u64 x3) fun x4=>Ay (decide (a0_2n*3<=a0_2.length))<|some (A0.mk [.agg [.sc (.int .i64 7),.sc (.int .u64 x4),.sc (.string (ByteArray.mk #[]))],.sc (.int .i64 0)] [[.sc (.string a0_0),.sc (.int .i64 x2),.own 3 a0_2n (List.take (a0_2n*3) a0_2)]])) (A4 ((↑(UInt8.toNat x1):Int)==245) (Aa (wrap .i64 (a0_1+1)) fun x5=>Aa (wrap .u8 ((↑(UInt8.toNat x1):Int)-244)) fun x6=>Aa (wrap .u64 x6) fun x7=>Ay (decide (a0_2n*3<=a0_2.length))<|some (A0.mk [.agg [.sc (.int .i64 7),.sc (.int .u64 x7),.sc (.string (ByteArray.mk #[]))],.sc (.int .i64 0)] [[.sc (.string a0_0),.sc (.int .i64 x5),.own 3 a0_2n (List.take (a0_2n*3) a0_2)]])) (A4 ((↑(UInt8.toNat x1):Int)==246) (Aa (wrap .i64 (a0_1+1)) fun x8=>Ay (decide (a0_2n*3<=a0_2.length))<|some (A0.mk [.agg [.sc (.int .i64 8),.sc (.int .u64 0),.sc (.string (ByteArray.mk #[]))],.sc (.int .i64 0)] [[.sc (.string a0_0),.sc (.int .i64 x8),.own 3 a0_2n (List.take (a0_2n*3) a0_2)]])) (Aa (El .u8 (↑(UInt8.toNat x1):Int) 5) fun x9=>Aa (wrap .i64 x9) fun Ck=>Aa (Ed .u8 (↑(UInt8.toNat x1):Int) 31) fun Bn=>Aa (wrap .i64 Bn) fun Cw=>A4 (decide (Ck>5)) (Ay (decide (a0_2n*3<=a0_2.length))<|some (A0.mk [.agg [.sc (.int .i64 0),.sc (.int .u64 0),.sc (.string (ByteArray.mk #[]))],.sc (.int .i64 2)] [[.sc (.string a0_0),.sc (.int .i64 a0_1),.own 3 a0_2n (List.take (a0_2n*3) a0_2)]])) (A4 (decide (Cw>27)) (Ay (decide (a0_2n*3<=a0_2.length))<|some (A0.mk [.agg [.sc (.int .i64 0),.sc (.int .u64 0),.sc (.string (ByteArray.mk #[]))],.sc (.int .i64 2)] [[.sc (.string a0_0),.sc (.int .i64 a0_1),.own 3 a0_2n (List.take (a0_2n*3) a0_2)]])) (A4 (decide (Cw>=24)) (Aa (wrap .i64 (Cw-24)) fun Da=>Aa (wrap .u64 Da) fun Cq=>Ay (decide (0<=Cq))<|Aa (Ff .i64 1 Cq) fun Cy=>Aa (wrap .i64 ((↑(ByteArray.size a0_0):Int)-a0_1)) fun Db=>Aa (wrap .i64 (Db-1)) fun Dq=>A4 (decide (Dq<Cy)) (Ay (decide (a0_2n*3<=a0_2.length))<|some (A0.mk [.agg [.sc (.int .i64 0),.sc (.int .u64 0),.sc (.string (ByteArray.mk #[]))],.sc (.int .i64 1)] [[.sc (.string a0_0),.sc (.int .i64 a0_1),.own 3 a0_2n (List.take (a0_2n*3) a0_2)]])) (Aa (wrap .u64 Cw) fun D2=>A4 (decide (Cy>0)) (Dg fu call a0_0 a0_1 a0_2n a0_2 (fu) Ck Cy 0 0 (a0_0) (a0_1) (a0_2n) (a0_2) 0 0 (ByteArray.mk #[])) (Dg fu call a0_0 a0_1 a0_2n a0_2 (fu) Ck Cy D2 0 (a0_0) (a0_1) (a0_2n) (a0_2) 0 0 (ByteArray.mk #[])))) (Aa (wrap .i64 ((↑(ByteArray.size a0_0):Int)-a0_1)) fun D0=>Aa (wrap .i64 (D0-1)) fun D9=>A4 (decide (D9<0)) (Ay (decide (a0_2n*3<=a0_2.length))<|some (A0.mk [.agg [.sc (.int .i64 0),.sc (.int .u64 0),.sc (.string (ByteArray.mk #[]))],.sc (.int .i64 1)] [[.sc (.string a0_0),.sc (.int .i64 a0_1),.own 3 a0_2n (List.take (a0_2n*3) a0_2)]])) (Aa (wrap .u64 Cw) fun Fj=>Dg fu call a0_0 a0_1 a0_2n a0_2 (fu) Ck 0 Fj 0 (a0_0) (a0_1) (a0_2n) (a0_2) 0 0 (ByteArray.mk #[])))))))))) (Ae C0 Tryz.prog fu d):=by kernel_rfl
abbrev Dn:FuncId:=66
noncomputable def Au (fu:Nat)(call:Ar)(a0_0:ByteArray)(a0_1:Int)(a0_2n:Nat)(a0_2:List PV)(a1:Int)(a2:Bool)(a3:ByteArray)(nn:Nat)(y0:Int)(y1:Bool)(y2:ByteArray)(y3:Int)(y4 y5:Bool)(y6:ByteArray)(y7:Int)(y8:Nat)(y9:List PV)(y10 Ej:Int)(E5:ByteArray):Option A0:=Cz C0 Tryz.prog fu call 66 Tryz.f66 (B9 Tryz.f66) [.pbox [.sc (.string a0_0),.sc (.int .i64 a0_1),.own 3 a0_2n a0_2],.sc (.int .i64 a1),.sc (.bool a2),.sc (.string a3)] [.r,.r,.r,.r,.r,.r] nn ⟨lk [(0,(.ptr 382000 0)),(1,(.sc (.int .i64 y0))),(2,(.sc (.bool y1))),(3,(.sc (.string y2))),(9,(.ptr 9 0)),(11,(.sc (.int .u64 y3))),(12,(.sc (.bool y4))),(13,(.sc (.bool y5)))],Gl [(382000,(.st [(.sc (.string y6)),(.sc (.int .i64 y7)),(.view 382573 3 0 y8)])),(382573,(.ar false y9)),(9,(.st [(.sc (.int .i64 y10)),(.sc (.int .u64 Ej)),(.sc (.string E5))]))]⟩
noncomputable def Ba (fu:Nat)(call:Ar)(a0_0:ByteArray)(a0_1:Int)(a0_2n:Nat)(a0_2:List PV)(a1:Int)(a2:Bool)(a3:ByteArray)(nn:Nat)(y0 y1:Int)(y2:Bool)(y3:ByteArray)(y4:Int)(y5:ByteArray)(y6:Int)(y7:Nat)(y8:List PV)(y9 y10:Int)(Ej:ByteArray):Option A0:=Cz C0 Tryz.prog fu call 66 Tryz.f66 (B9 Tryz.f66) [.pbox [.sc (.string a0_0),.sc (.int .i64 a0_1),.own 3 a0_2n a0_2],.sc (.int .i64 a1),.sc (.bool a2),.sc (.string a3)] [.r,.r,.r,.r,.r,.r,.r,.r,.r,.r,.r,.r,.l,.r,.l] nn ⟨lk [(0,(.ptr 382000 0)),(1,(.sc (.int .i64 y0))),(9,(.ptr 9 0)),(11,(.sc (.int .u64 y1))),(13,(.sc (.bool y2))),(14,(.sc (.string y3))),(15,(.sc (.int .u64 y4)))],Gl [(382000,(.st [(.sc (.string y5)),(.sc (.int .i64 y6)),(.view 382573 3 0 y7)])),(382573,(.ar false y8)),(9,(.st [(.sc (.int .i64 y9)),(.sc (.int .u64 y10)),(.sc (.string Ej))]))]⟩
theorem Ih (fu:Nat)(call:Ar)(a0_0:ByteArray)(a0_1:Int)(a0_2n:Nat)(a0_2:List PV)(a1:Int)(a2:Bool)(a3:ByteArray)(nn:Nat)(hnn:0<nn)(y0:Int)(y1:Bool)(y2:ByteArray)(y3:Int)(y4 y5:Bool)(y6:ByteArray)(y7:Int)(y8:Nat)(y9:List PV)(y10 Ej:Int)(E5:ByteArray):Au fu call a0_0 a0_1 a0_2n a0_2 a1 a2 a3 nn y0 y1 y2 y3 y4 y5 y6 y7 y8 y9 y10 Ej E5=(A4 (y4) (Aa (wrap .i64 y3) fun Z3=>Aa (wrap .i64 (y7+Z3)) fun AL=>Ay (decide (0<=y7))<|Ay (decide (0<=AL))<|Ay (decide (Int.toNat y7<=Int.toNat AL)&&decide (Int.toNat AL<=ByteArray.size y6))<|Aa (ByteArray.extract y6 y7.toNat AL.toNat) fun Re=>Aa (wrap .i64 y3) fun S6=>Aa (wrap .i64 (y7+S6)) fun Uc=>A4 (y10==4) (Aj (call 67 [.sc (.string Re)]) fun GO DV=>Ac DV<|Ab GO fun FL JV=>Bx FL fun MP=>Ac JV<|A4 (!MP) (Ay (decide (y8*3<=y9.length))<|some (A0.mk [.sc (.int .i64 6)] [[.sc (.string y6),.sc (.int .i64 Uc),.own 3 y8 (List.take (y8*3) y9)]])) (A4 (y1) (A4 (!Array.toList (ByteArray.data y2)==Array.toList (ByteArray.data (ByteArray.mk #[]))) (Aj (call 97 [.agg [.sc (.int .i64 y10),.sc (.int .u64 0),.sc (.string Re)]]) fun OZ NC=>Ac NC<|Ab OZ fun OC NL=>Co OC fun S0=>Ac NL<|Aj (call 96 [.sc (.string y2),.sc (.string S0)]) fun Px Gw=>Ac Gw<|Ab Px fun Iz Vh=>Bx Iz fun P6=>Ac Vh<|A4 (!P6) (Ay (decide (y8*3<=y9.length))<|some (A0.mk [.sc (.int .i64 7)] [[.sc (.string y6),.sc (.int .i64 Uc),.own 3 y8 (List.take (y8*3) y9)]])) (Ay (decide (y8*3<=y9.length)&&true&&decide ((y8+1)*32<=1099511627776)&&decide (y8+1<=1099511627776))<|Aa (y8+1) fun Oh=>Aa (List.take (y8*3) y9++[.sc (.int .i64 y10),.sc (.int .u64 0),.sc (.string Re)]) fun J9=>Ba fu call a0_0 a0_1 a0_2n a0_2 a1 a2 a3 (fu) (y0) (y3) (y5) (ByteArray.mk #[]) 0 (y6) Uc Oh J9 (y10) 0 Re)) (Ay (decide (y8*3<=y9.length)&&true&&decide ((y8+1)*32<=1099511627776)&&decide (y8+1<=1099511627776))<|Aa (y8+1) fun Vk=>Aa (List.take (y8*3) y9++[.sc (.int .i64 y10),.sc (.int .u64 0),.sc (.string Re)]) fun Xx=>Ba fu call a0_0 a0_1 a0_2n a0_2 a1 a2 a3 (fu) (y0) (y3) (y5) (ByteArray.mk #[]) 0 (y6) Uc Vk Xx (y10) 0 Re)) (Ay (decide (y8*3<=y9.length)&&true&&decide ((y8+1)*32<=1099511627776)&&decide (y8+1<=1099511627776))<|Aa (y8+1) fun Ve=>Aa (List.take (y8*3) y9++[.sc (.int .i64 y10),.sc (.int .u64 0),.sc (.string Re)]) fun Vj=>Ba fu call a0_0 a0_1 a0_2n a0_2 a1 a2 a3 (fu) (y0) (y3) (y5) (ByteArray.mk #[]) 0 (y6) Uc Ve Vj (y10) 0 Re))) (A4 (y1) (A4 (!Array.toList (ByteArray.data y2)==Array.toList (ByteArray.data (ByteArray.mk #[]))) (Aj (call 97 [.agg [.sc (.int .i64 y10),.sc (.int .u64 0),.sc (.string Re)]]) fun Ig Ko=>Ac Ko<|Ab Ig fun Zp Y8=>Co Zp fun M8=>Ac Y8<|Aj (call 96 [.sc (.string y2),.sc (.string M8)]) fun Q6 Zn=>Ac Zn<|Ab Q6 fun Xh Ym=>Bx Xh fun Yz=>Ac Ym<|A4 (!Yz) (Ay (decide (y8*3<=y9.length))<|some (A0.mk [.sc (.int .i64 7)] [[.sc (.string y6),.sc (.int .i64 Uc),.own 3 y8 (List.take (y8*3) y9)]])) (Ay (decide (y8*3<=y9.length)&&true&&decide ((y8+1)*32<=1099511627776)&&decide (y8+1<=1099511627776))<|Aa (y8+1) fun AG=>Aa (List.take (y8*3) y9++[.sc (.int .i64 y10),.sc (.int .u64 0),.sc (.string Re)]) fun Yy=>Ba fu call a0_0 a0_1 a0_2n a0_2 a1 a2 a3 (fu) (y0) (y3) (y5) (ByteArray.mk #[]) 0 (y6) Uc AG Yy (y10) 0 Re)) (Ay (decide (y8*3<=y9.length)&&true&&decide ((y8+1)*32<=1099511627776)&&decide (y8+1<=1099511627776))<|Aa (y8+1) fun Zb=>Aa (List.take (y8*3) y9++[.sc (.int .i64 y10),.sc (.int .u64 0),.sc (.string Re)]) fun Yg=>Ba fu call a0_0 a0_1 a0_2n a0_2 a1 a2 a3 (fu) (y0) (y3) (y5) (ByteArray.mk #[]) 0 (y6) Uc Zb Yg (y10) 0 Re)) (Ay (decide (y8*3<=y9.length)&&true&&decide ((y8+1)*32<=1099511627776)&&decide (y8+1<=1099511627776))<|Aa (y8+1) fun P5=>Aa (List.take (y8*3) y9++[.sc (.int .i64 y10),.sc (.int .u64 0),.sc (.string Re)]) fun U0=>Ba fu call a0_0 a0_1 a0_2n a0_2 a1 a2 a3 (fu) (y0) (y3) (y5) (ByteArray.mk #[]) 0 (y6) Uc P5 U0 (y10) 0 Re))) (A4 (y10==4) (Aj (call 67 [.sc (.string E5)]) fun Zx Zz=>Ac Zz<|Ab Zx fun Xo FZ=>Bx Xo fun Yu=>Ac FZ<|A4 (!Yu) (Ay (decide (y8*3<=y9.length))<|some (A0.mk [.sc (.int .i64 6)] [[.sc (.string y6),.sc (.int .i64 y7),.own 3 y8 (List.take (y8*3) y9)]])) (A4 (y1) (A4 (!Array.toList (ByteArray.data y2)==Array.toList (ByteArray.data (ByteArray.mk #[]))) (Aj (call 97 [.agg [.sc (.int .i64 y10),.sc (.int .u64 Ej),.sc (.string E5)]]) fun W1 Z5=>Ac Z5<|Ab W1 fun GB EM=>Co GB fun FM=>Ac EM<|Aj (call 96 [.sc (.string y2),.sc (.string FM)]) fun GI Xd=>Ac Xd<|Ab GI fun Ys BD=>Bx Ys fun DG=>Ac BD<|A4 (!DG) (Ay (decide (y8*3<=y9.length))<|some (A0.mk [.sc (.int .i64 7)] [[.sc (.string y6),.sc (.int .i64 y7),.own 3 y8 (List.take (y8*3) y9)]])) (Ay (decide (y8*3<=y9.length)&&true&&decide ((y8+1)*32<=1099511627776)&&decide (y8+1<=1099511627776))<|Aa (y8+1) fun FC=>Aa (List.take (y8*3) y9++[.sc (.int .i64 y10),.sc (.int .u64 Ej),.sc (.string E5)]) fun AM=>Ba fu call a0_0 a0_1 a0_2n a0_2 a1 a2 a3 (fu) (y0) (y3) (y5) (ByteArray.mk #[]) 0 (y6) (y7) FC AM (y10) (Ej) (E5))) (Ay (decide (y8*3<=y9.length)&&true&&decide ((y8+1)*32<=1099511627776)&&decide (y8+1<=1099511627776))<|Aa (y8+1) fun V3=>Aa (List.take (y8*3) y9++[.sc (.int .i64 y10),.sc (.int .u64 Ej),.sc (.string E5)]) fun Yr=>Ba fu call a0_0 a0_1 a0_2n a0_2 a1 a2 a3 (fu) (y0) (y3) (y5) (ByteArray.mk #[]) 0 (y6) (y7) V3 Yr (y10) (Ej) (E5))) (Ay (decide (y8*3<=y9.length)&&true&&decide ((y8+1)*32<=1099511627776)&&decide (y8+1<=1099511627776))<|Aa (y8+1) fun DN=>Aa (List.take (y8*3) y9++[.sc (.int .i64 y10),.sc (.int .u64 Ej),.sc (.string E5)]) fun GK=>Ba fu call a0_0 a0_1 a0_2n a0_2 a1 a2 a3 (fu) (y0) (y3) (y5) (ByteArray.mk #[]) 0 (y6) (y7) DN GK (y10) (Ej) (E5)))) (A4 (y1) (A4 (!Array.toList (ByteArray.data y2)==Array.toList (ByteArray.data (ByteArray.mk #[]))) (Aj (call 97 [.agg [.sc (.int .i64 y10),.sc (.int .u64 Ej),.sc (.string E5)]]) fun OA OT=>Ac OT<|Ab OA fun LH Z2=>Co LH fun FI=>Ac Z2<|Aj (call 96 [.sc (.string y2),.sc (.string FI)]) fun GC GQ=>Ac GQ<|Ab GC fun MB GT=>Bx MB fun IJ=>Ac GT<|A4 (!IJ) (Ay (decide (y8*3<=y9.length))<|some (A0.mk [.sc (.int .i64 7)] [[.sc (.string y6),.sc (.int .i64 y7),.own 3 y8 (List.take (y8*3) y9)]])) (Ay (decide (y8*3<=y9.length)&&true&&decide ((y8+1)*32<=1099511627776)&&decide (y8+1<=1099511627776))<|Aa (y8+1) fun HQ=>Aa (List.take (y8*3) y9++[.sc (.int .i64 y10),.sc (.int .u64 Ej),.sc (.string E5)]) fun LJ=>Ba fu call a0_0 a0_1 a0_2n a0_2 a1 a2 a3 (fu) (y0) (y3) (y5) (ByteArray.mk #[]) 0 (y6) (y7) HQ LJ (y10) (Ej) (E5))) (Ay (decide (y8*3<=y9.length)&&true&&decide ((y8+1)*32<=1099511627776)&&decide (y8+1<=1099511627776))<|Aa (y8+1) fun KY=>Aa (List.take (y8*3) y9++[.sc (.int .i64 y10),.sc (.int .u64 Ej),.sc (.string E5)]) fun JM=>Ba fu call a0_0 a0_1 a0_2n a0_2 a1 a2 a3 (fu) (y0) (y3) (y5) (ByteArray.mk #[]) 0 (y6) (y7) KY JM (y10) (Ej) (E5))) (Ay (decide (y8*3<=y9.length)&&true&&decide ((y8+1)*32<=1099511627776)&&decide (y8+1<=1099511627776))<|Aa (y8+1) fun KG=>Aa (List.take (y8*3) y9++[.sc (.int .i64 y10),.sc (.int .u64 Ej),.sc (.string E5)]) fun EK=>Ba fu call a0_0 a0_1 a0_2n a0_2 a1 a2 a3 (fu) (y0) (y3) (y5) (ByteArray.mk #[]) 0 (y6) (y7) KG EK (y10) (Ej) (E5))))):=by cases nn with|zero=>exact absurd hnn (Nat.lt_irrefl 0)|succ nn=>kernel_rfl
theorem Eg (fu:Nat)(call:Ar)(a0_0:ByteArray)(a0_1:Int)(a0_2n:Nat)(a0_2:List PV)(a1:Int)(a2:Bool)(a3:ByteArray)(nn:Nat)(y0 y1:Int)(y2:Bool)(y3:ByteArray)(y4:Int)(y5:ByteArray)(y6:Int)(y7:Nat)(y8:List PV)(y9 y10:Int)(Ej:ByteArray):Ba fu call a0_0 a0_1 a0_2n a0_2 a1 a2 a3 (nn+1) y0 y1 y2 y3 y4 y5 y6 y7 y8 y9 y10 Ej=(A4 (y2) (A4 (decide (y4<y1)) (A4 (y9==6) (Aa (wrap .i64 (y0+1)) fun IC=>Ay (decide (y7*3<=y8.length))<|Aj (call 66 [.pbox [.sc (.string y5),.sc (.int .i64 y6),.own 3 y7 (List.take (y7*3) y8)],.sc (.int .i64 IC),.sc (.bool true),.sc (.string y3)]) fun OK FR=>Ab OK fun HN EN=>Af .i64 HN fun GM=>Ac EN<|Ab FR fun KU QA=>Ab KU fun KD OS=>Co KD fun JG=>Ab OS fun HO PQ=>Af .i64 HO fun HB=>Ab PQ fun OE Acx=>Dc 3 OE fun EI W2=>Ac Acx<|Ac QA<|A4 (GM != 0) (Ay (decide (EI*3<=W2.length))<|some (A0.mk [.sc (.int .i64 GM)] [[.sc (.string JG),.sc (.int .i64 HB),.own 3 EI (List.take (EI*3) W2)]])) (Ay (decide ((↑y7:Int)<(↑EI:Int)))<|Af .i64 (List.getD W2 (0+Int.toNat (↑y7:Int)*3) .top) fun QY=>Af .u64 (List.getD W2 (0+Int.toNat (↑y7:Int)*3+1) .top) fun XZ=>Co (List.getD W2 (0+Int.toNat (↑y7:Int)*3+1+1) .top) fun Ac2=>Aj (call 97 [.agg [.sc (.int .i64 QY),.sc (.int .u64 XZ),.sc (.string Ac2)]]) fun Abo YC=>Ac YC<|Ab Abo fun YQ XN=>Co YQ fun XE=>Ac XN<|Aa (wrap .i64 (y0+1)) fun PX=>Ay (decide (EI*3<=W2.length))<|Aj (call 66 [.pbox [.sc (.string JG),.sc (.int .i64 HB),.own 3 EI (List.take (EI*3) W2)],.sc (.int .i64 PX),.sc (.bool false),.sc (.string (ByteArray.mk #[]))]) fun YS Aeb=>Ab YS fun Afj XY=>Af .i64 Afj fun Aar=>Ac XY<|Ab Aeb fun Adr Adm=>Ab Adr fun Aet Ag9=>Co Aet fun QP=>Ab Ag9 fun NW Aag=>Af .i64 NW fun Aid=>Ab Aag fun Ab8 Alk=>Dc 3 Ab8 fun Aan Afa=>Ac Alk<|Ac Adm<|A4 (Aar != 0) (Ay (decide (Aan*3<=Afa.length))<|some (A0.mk [.sc (.int .i64 Aar)] [[.sc (.string QP),.sc (.int .i64 Aid),.own 3 Aan (List.take (Aan*3) Afa)]])) (Aa (wrap .u64 (y4+1)) fun Anl=>Ba fu call a0_0 a0_1 a0_2n a0_2 a1 a2 a3 (nn) (y0) (y1) (y2) XE Anl QP Aid Aan Afa (y9) (y10) (Ej)))) (Aa (wrap .i64 (y0+1)) fun Amo=>Ay (decide (y7*3<=y8.length))<|Aj (call 66 [.pbox [.sc (.string y5),.sc (.int .i64 y6),.own 3 y7 (List.take (y7*3) y8)],.sc (.int .i64 Amo),.sc (.bool false),.sc (.string (ByteArray.mk #[]))]) fun Akx Anw=>Ab Akx fun An0 Aoe=>Af .i64 An0 fun Air=>Ac Aoe<|Ab Anw fun Am8 Aln=>Ab Am8 fun Aom Amd=>Co Aom fun Ah1=>Ab Amd fun Alz Akw=>Af .i64 Alz fun Aje=>Ab Akw fun Aji Ane=>Dc 3 Aji fun Aa5 Afc=>Ac Ane<|Ac Aln<|A4 (Air != 0) (Ay (decide (Aa5*3<=Afc.length))<|some (A0.mk [.sc (.int .i64 Air)] [[.sc (.string Ah1),.sc (.int .i64 Aje),.own 3 Aa5 (List.take (Aa5*3) Afc)]])) (Aa (wrap .u64 (y4+1)) fun Ak3=>Ba fu call a0_0 a0_1 a0_2n a0_2 a1 a2 a3 (nn) (y0) (y1) (y2) (y3) Ak3 Ah1 Aje Aa5 Afc (y9) (y10) (Ej)))) (Ay (decide (y7*3<=y8.length))<|some (A0.mk [.sc (.int .i64 0)] [[.sc (.string y5),.sc (.int .i64 y6),.own 3 y7 (List.take (y7*3) y8)]]))) (Ay (decide (y7*3<=y8.length))<|some (A0.mk [.sc (.int .i64 0)] [[.sc (.string y5),.sc (.int .i64 y6),.own 3 y7 (List.take (y7*3) y8)]]))):=by kernel_rfl
theorem Ti (fu d:Nat)(a0_0:ByteArray)(a0_1:Int)(a0_2n:Nat)(a0_2:List PV)(a1:Int)(a2:Bool)(a3:ByteArray):Ae C0 Tryz.prog fu (d+1) Dn [.pbox [.sc (.string a0_0),.sc (.int .i64 a0_1),.own 3 a0_2n a0_2],.sc (.int .i64 a1),.sc (.bool a2),.sc (.string a3)]=(fun (call:Ar)=>Ay (decide (a0_2n*3<=a0_2.length))<|Aj (call 94 [.pbox [.sc (.string a0_0),.sc (.int .i64 a0_1),.own 3 a0_2n (List.take (a0_2n*3) a0_2)]]) fun x1 x2=>Ab x1 fun x3 x4=>C2 x3 fun x5=>Ab x5 fun x6 x7=>Af .i64 x6 fun x8=>Ab x7 fun x9 Ck=>Af .u64 x9 fun Bn=>Ab Ck fun Cw Da=>Co Cw fun Cq=>Ac Da<|Ab x4 fun Cy Db=>Af .i64 Cy fun Dq=>Ac Db<|Ab x2 fun D2 D0=>Ab D2 fun D9 Fj=>Co D9 fun Cn=>Ab Fj fun Fn Dj=>Af .i64 Fn fun B3=>Ab Dj fun Et F1=>Dc 3 Et fun Bm Cj=>Ac F1<|Ac D0<|A4 (Dq != 0) (Ay (decide (Bm*3<=Cj.length))<|some (A0.mk [.sc (.int .i64 Dq)] [[.sc (.string Cn),.sc (.int .i64 B3),.own 3 Bm (List.take (Bm*3) Cj)]])) (A4 (x8==3) (A4 (x8==5) (A4 (decide ((↑Bm:Int)>=512)) (Ay (decide (Bm*3<=Cj.length))<|some (A0.mk [.sc (.int .i64 8)] [[.sc (.string Cn),.sc (.int .i64 B3),.own 3 Bm (List.take (Bm*3) Cj)]])) (A4 (a2) (Aj (call 95 [.sc (.int .i64 x8)]) fun Gt Gu=>Ac Gu<|Ab Gt fun Hz Ha=>Bx Hz fun Il=>Ac Ha<|A4 (!Il) (Ay (decide (Bm*3<=Cj.length))<|some (A0.mk [.sc (.int .i64 3)] [[.sc (.string Cn),.sc (.int .i64 B3),.own 3 Bm (List.take (Bm*3) Cj)]])) (A4 (decide (a1>8)) (Ay (decide (Bm*3<=Cj.length))<|some (A0.mk [.sc (.int .i64 5)] [[.sc (.string Cn),.sc (.int .i64 B3),.own 3 Bm (List.take (Bm*3) Cj)]])) (A4 (decide (Bn>1024)) (Ay (decide (Bm*3<=Cj.length))<|some (A0.mk [.sc (.int .i64 8)] [[.sc (.string Cn),.sc (.int .i64 B3),.own 3 Bm (List.take (Bm*3) Cj)]])) (A4 (decide (Bn>512)) (Ay (decide (Bm*3<=Cj.length))<|some (A0.mk [.sc (.int .i64 8)] [[.sc (.string Cn),.sc (.int .i64 B3),.own 3 Bm (List.take (Bm*3) Cj)]])) (Aa (wrap .i64 ((↑(ByteArray.size Cn):Int)-B3)) fun G4=>Aa (wrap .u64 G4) fun Ir=>A4 (decide (Ir<Bn)) (Ay (decide (Bm*3<=Cj.length))<|some (A0.mk [.sc (.int .i64 1)] [[.sc (.string Cn),.sc (.int .i64 B3),.own 3 Bm (List.take (Bm*3) Cj)]])) (Au fu call a0_0 a0_1 a0_2n a0_2 a1 a2 a3 (fu) (a1) (a2) (a3) Bn (true) (true) Cn B3 Bm Cj x8 Bn Cq)))))) (A4 (decide (a1>8)) (Ay (decide (Bm*3<=Cj.length))<|some (A0.mk [.sc (.int .i64 5)] [[.sc (.string Cn),.sc (.int .i64 B3),.own 3 Bm (List.take (Bm*3) Cj)]])) (A4 (decide (Bn>1024)) (Ay (decide (Bm*3<=Cj.length))<|some (A0.mk [.sc (.int .i64 8)] [[.sc (.string Cn),.sc (.int .i64 B3),.own 3 Bm (List.take (Bm*3) Cj)]])) (A4 (decide (Bn>512)) (Ay (decide (Bm*3<=Cj.length))<|some (A0.mk [.sc (.int .i64 8)] [[.sc (.string Cn),.sc (.int .i64 B3),.own 3 Bm (List.take (Bm*3) Cj)]])) (Aa (wrap .i64 ((↑(ByteArray.size Cn):Int)-B3)) fun Kr=>Aa (wrap .u64 Kr) fun F0=>A4 (decide (F0<Bn)) (Ay (decide (Bm*3<=Cj.length))<|some (A0.mk [.sc (.int .i64 1)] [[.sc (.string Cn),.sc (.int .i64 B3),.own 3 Bm (List.take (Bm*3) Cj)]])) (Au fu call a0_0 a0_1 a0_2n a0_2 a1 a2 a3 (fu) (a1) (a2) (a3) Bn (true) (true) Cn B3 Bm Cj x8 Bn Cq))))))) (A4 (decide ((↑Bm:Int)>=512)) (Ay (decide (Bm*3<=Cj.length))<|some (A0.mk [.sc (.int .i64 8)] [[.sc (.string Cn),.sc (.int .i64 B3),.own 3 Bm (List.take (Bm*3) Cj)]])) (A4 (a2) (Aj (call 95 [.sc (.int .i64 x8)]) fun H2 Nc=>Ac Nc<|Ab H2 fun Ot Kc=>Bx Ot fun J5=>Ac Kc<|A4 (!J5) (Ay (decide (Bm*3<=Cj.length))<|some (A0.mk [.sc (.int .i64 3)] [[.sc (.string Cn),.sc (.int .i64 B3),.own 3 Bm (List.take (Bm*3) Cj)]])) (A4 (decide (a1>8)) (Ay (decide (Bm*3<=Cj.length))<|some (A0.mk [.sc (.int .i64 5)] [[.sc (.string Cn),.sc (.int .i64 B3),.own 3 Bm (List.take (Bm*3) Cj)]])) (A4 (decide (Bn>1024)) (Ay (decide (Bm*3<=Cj.length))<|some (A0.mk [.sc (.int .i64 8)] [[.sc (.string Cn),.sc (.int .i64 B3),.own 3 Bm (List.take (Bm*3) Cj)]])) (A4 (x8==6) (A4 (decide (Bn>512)) (Ay (decide (Bm*3<=Cj.length))<|some (A0.mk [.sc (.int .i64 8)] [[.sc (.string Cn),.sc (.int .i64 B3),.own 3 Bm (List.take (Bm*3) Cj)]])) (Aa (wrap .i64 ((↑(ByteArray.size Cn):Int)-B3)) fun Nk=>Aa (wrap .u64 Nk) fun Md=>A4 (decide (Md<Bn)) (Ay (decide (Bm*3<=Cj.length))<|some (A0.mk [.sc (.int .i64 1)] [[.sc (.string Cn),.sc (.int .i64 B3),.own 3 Bm (List.take (Bm*3) Cj)]])) (Au fu call a0_0 a0_1 a0_2n a0_2 a1 a2 a3 (fu) (a1) (a2) (a3) Bn (true) (x8==6) Cn B3 Bm Cj x8 Bn Cq))) (Aa (wrap .i64 ((↑(ByteArray.size Cn):Int)-B3)) fun Oo=>Aa (wrap .u64 Oo) fun Py=>A4 (decide (Py<Bn)) (Ay (decide (Bm*3<=Cj.length))<|some (A0.mk [.sc (.int .i64 1)] [[.sc (.string Cn),.sc (.int .i64 B3),.own 3 Bm (List.take (Bm*3) Cj)]])) (Au fu call a0_0 a0_1 a0_2n a0_2 a1 a2 a3 (fu) (a1) (a2) (a3) Bn (true) (x8==6) Cn B3 Bm Cj x8 Bn Cq)))))) (A4 (decide (a1>8)) (Ay (decide (Bm*3<=Cj.length))<|some (A0.mk [.sc (.int .i64 5)] [[.sc (.string Cn),.sc (.int .i64 B3),.own 3 Bm (List.take (Bm*3) Cj)]])) (A4 (decide (Bn>1024)) (Ay (decide (Bm*3<=Cj.length))<|some (A0.mk [.sc (.int .i64 8)] [[.sc (.string Cn),.sc (.int .i64 B3),.own 3 Bm (List.take (Bm*3) Cj)]])) (A4 (x8==6) (A4 (decide (Bn>512)) (Ay (decide (Bm*3<=Cj.length))<|some (A0.mk [.sc (.int .i64 8)] [[.sc (.string Cn),.sc (.int .i64 B3),.own 3 Bm (List.take (Bm*3) Cj)]])) (Aa (wrap .i64 ((↑(ByteArray.size Cn):Int)-B3)) fun Pw=>Aa (wrap .u64 Pw) fun Ox=>A4 (decide (Ox<Bn)) (Ay (decide (Bm*3<=Cj.length))<|some (A0.mk [.sc (.int .i64 1)] [[.sc (.string Cn),.sc (.int .i64 B3),.own 3 Bm (List.take (Bm*3) Cj)]])) (Au fu call a0_0 a0_1 a0_2n a0_2 a1 a2 a3 (fu) (a1) (a2) (a3) Bn (true) (x8==6) Cn B3 Bm Cj x8 Bn Cq))) (Aa (wrap .i64 ((↑(ByteArray.size Cn):Int)-B3)) fun Rb=>Aa (wrap .u64 Rb) fun Q5=>A4 (decide (Q5<Bn)) (Ay (decide (Bm*3<=Cj.length))<|some (A0.mk [.sc (.int .i64 1)] [[.sc (.string Cn),.sc (.int .i64 B3),.own 3 Bm (List.take (Bm*3) Cj)]])) (Au fu call a0_0 a0_1 a0_2n a0_2 a1 a2 a3 (fu) (a1) (a2) (a3) Bn (true) (x8==6) Cn B3 Bm Cj x8 Bn Cq)))))))) (A4 (x8==5) (A4 (decide ((↑Bm:Int)>=512)) (Ay (decide (Bm*3<=Cj.length))<|some (A0.mk [.sc (.int .i64 8)] [[.sc (.string Cn),.sc (.int .i64 B3),.own 3 Bm (List.take (Bm*3) Cj)]])) (A4 (a2) (Aj (call 95 [.sc (.int .i64 x8)]) fun Q0 Ks=>Ac Ks<|Ab Q0 fun S9 Ql=>Bx S9 fun Ru=>Ac Ql<|A4 (!Ru) (Ay (decide (Bm*3<=Cj.length))<|some (A0.mk [.sc (.int .i64 3)] [[.sc (.string Cn),.sc (.int .i64 B3),.own 3 Bm (List.take (Bm*3) Cj)]])) (A4 (decide (a1>8)) (Ay (decide (Bm*3<=Cj.length))<|some (A0.mk [.sc (.int .i64 5)] [[.sc (.string Cn),.sc (.int .i64 B3),.own 3 Bm (List.take (Bm*3) Cj)]])) (A4 (x8==4) (A4 (decide (Bn>1024)) (Ay (decide (Bm*3<=Cj.length))<|some (A0.mk [.sc (.int .i64 8)] [[.sc (.string Cn),.sc (.int .i64 B3),.own 3 Bm (List.take (Bm*3) Cj)]])) (A4 (decide (Bn>512)) (Ay (decide (Bm*3<=Cj.length))<|some (A0.mk [.sc (.int .i64 8)] [[.sc (.string Cn),.sc (.int .i64 B3),.own 3 Bm (List.take (Bm*3) Cj)]])) (A4 (x8==4) (Aa (wrap .i64 ((↑(ByteArray.size Cn):Int)-B3)) fun Nz=>Aa (wrap .u64 Nz) fun Pz=>A4 (decide (Pz<Bn)) (Ay (decide (Bm*3<=Cj.length))<|some (A0.mk [.sc (.int .i64 1)] [[.sc (.string Cn),.sc (.int .i64 B3),.own 3 Bm (List.take (Bm*3) Cj)]])) (Au fu call a0_0 a0_1 a0_2n a0_2 a1 a2 a3 (fu) (a1) (a2) (a3) Bn (x8==4) (true) Cn B3 Bm Cj x8 Bn Cq)) (Au fu call a0_0 a0_1 a0_2n a0_2 a1 a2 a3 (fu) (a1) (a2) (a3) Bn (x8==4) (true) Cn B3 Bm Cj x8 Bn Cq)))) (A4 (decide (Bn>512)) (Ay (decide (Bm*3<=Cj.length))<|some (A0.mk [.sc (.int .i64 8)] [[.sc (.string Cn),.sc (.int .i64 B3),.own 3 Bm (List.take (Bm*3) Cj)]])) (A4 (x8==4) (Aa (wrap .i64 ((↑(ByteArray.size Cn):Int)-B3)) fun Q9=>Aa (wrap .u64 Q9) fun Rk=>A4 (decide (Rk<Bn)) (Ay (decide (Bm*3<=Cj.length))<|some (A0.mk [.sc (.int .i64 1)] [[.sc (.string Cn),.sc (.int .i64 B3),.own 3 Bm (List.take (Bm*3) Cj)]])) (Au fu call a0_0 a0_1 a0_2n a0_2 a1 a2 a3 (fu) (a1) (a2) (a3) Bn (x8==4) (true) Cn B3 Bm Cj x8 Bn Cq)) (Au fu call a0_0 a0_1 a0_2n a0_2 a1 a2 a3 (fu) (a1) (a2) (a3) Bn (x8==4) (true) Cn B3 Bm Cj x8 Bn Cq)))))) (A4 (decide (a1>8)) (Ay (decide (Bm*3<=Cj.length))<|some (A0.mk [.sc (.int .i64 5)] [[.sc (.string Cn),.sc (.int .i64 B3),.own 3 Bm (List.take (Bm*3) Cj)]])) (A4 (x8==4) (A4 (decide (Bn>1024)) (Ay (decide (Bm*3<=Cj.length))<|some (A0.mk [.sc (.int .i64 8)] [[.sc (.string Cn),.sc (.int .i64 B3),.own 3 Bm (List.take (Bm*3) Cj)]])) (A4 (decide (Bn>512)) (Ay (decide (Bm*3<=Cj.length))<|some (A0.mk [.sc (.int .i64 8)] [[.sc (.string Cn),.sc (.int .i64 B3),.own 3 Bm (List.take (Bm*3) Cj)]])) (A4 (x8==4) (Aa (wrap .i64 ((↑(ByteArray.size Cn):Int)-B3)) fun Pr=>Aa (wrap .u64 Pr) fun Te=>A4 (decide (Te<Bn)) (Ay (decide (Bm*3<=Cj.length))<|some (A0.mk [.sc (.int .i64 1)] [[.sc (.string Cn),.sc (.int .i64 B3),.own 3 Bm (List.take (Bm*3) Cj)]])) (Au fu call a0_0 a0_1 a0_2n a0_2 a1 a2 a3 (fu) (a1) (a2) (a3) Bn (x8==4) (true) Cn B3 Bm Cj x8 Bn Cq)) (Au fu call a0_0 a0_1 a0_2n a0_2 a1 a2 a3 (fu) (a1) (a2) (a3) Bn (x8==4) (true) Cn B3 Bm Cj x8 Bn Cq)))) (A4 (decide (Bn>512)) (Ay (decide (Bm*3<=Cj.length))<|some (A0.mk [.sc (.int .i64 8)] [[.sc (.string Cn),.sc (.int .i64 B3),.own 3 Bm (List.take (Bm*3) Cj)]])) (A4 (x8==4) (Aa (wrap .i64 ((↑(ByteArray.size Cn):Int)-B3)) fun Uv=>Aa (wrap .u64 Uv) fun S7=>A4 (decide (S7<Bn)) (Ay (decide (Bm*3<=Cj.length))<|some (A0.mk [.sc (.int .i64 1)] [[.sc (.string Cn),.sc (.int .i64 B3),.own 3 Bm (List.take (Bm*3) Cj)]])) (Au fu call a0_0 a0_1 a0_2n a0_2 a1 a2 a3 (fu) (a1) (a2) (a3) Bn (x8==4) (true) Cn B3 Bm Cj x8 Bn Cq)) (Au fu call a0_0 a0_1 a0_2n a0_2 a1 a2 a3 (fu) (a1) (a2) (a3) Bn (x8==4) (true) Cn B3 Bm Cj x8 Bn Cq))))))) (A4 (decide ((↑Bm:Int)>=512)) (Ay (decide (Bm*3<=Cj.length))<|some (A0.mk [.sc (.int .i64 8)] [[.sc (.string Cn),.sc (.int .i64 B3),.own 3 Bm (List.take (Bm*3) Cj)]])) (A4 (a2) (Aj (call 95 [.sc (.int .i64 x8)]) fun Rz Ro=>Ac Ro<|Ab Rz fun Q7 Vv=>Bx Q7 fun Tn=>Ac Vv<|A4 (!Tn) (Ay (decide (Bm*3<=Cj.length))<|some (A0.mk [.sc (.int .i64 3)] [[.sc (.string Cn),.sc (.int .i64 B3),.own 3 Bm (List.take (Bm*3) Cj)]])) (A4 (decide (a1>8)) (Ay (decide (Bm*3<=Cj.length))<|some (A0.mk [.sc (.int .i64 5)] [[.sc (.string Cn),.sc (.int .i64 B3),.own 3 Bm (List.take (Bm*3) Cj)]])) (A4 (x8==4) (A4 (decide (Bn>1024)) (Ay (decide (Bm*3<=Cj.length))<|some (A0.mk [.sc (.int .i64 8)] [[.sc (.string Cn),.sc (.int .i64 B3),.own 3 Bm (List.take (Bm*3) Cj)]])) (A4 (x8==6) (A4 (decide (Bn>512)) (Ay (decide (Bm*3<=Cj.length))<|some (A0.mk [.sc (.int .i64 8)] [[.sc (.string Cn),.sc (.int .i64 B3),.own 3 Bm (List.take (Bm*3) Cj)]])) (A4 (x8==4) (Aa (wrap .i64 ((↑(ByteArray.size Cn):Int)-B3)) fun S5=>Aa (wrap .u64 S5) fun Tj=>A4 (decide (Tj<Bn)) (Ay (decide (Bm*3<=Cj.length))<|some (A0.mk [.sc (.int .i64 1)] [[.sc (.string Cn),.sc (.int .i64 B3),.own 3 Bm (List.take (Bm*3) Cj)]])) (Au fu call a0_0 a0_1 a0_2n a0_2 a1 a2 a3 (fu) (a1) (a2) (a3) Bn (x8==4) (x8==6) Cn B3 Bm Cj x8 Bn Cq)) (Au fu call a0_0 a0_1 a0_2n a0_2 a1 a2 a3 (fu) (a1) (a2) (a3) Bn (x8==4) (x8==6) Cn B3 Bm Cj x8 Bn Cq))) (A4 (x8==4) (Aa (wrap .i64 ((↑(ByteArray.size Cn):Int)-B3)) fun Uz=>Aa (wrap .u64 Uz) fun Tm=>A4 (decide (Tm<Bn)) (Ay (decide (Bm*3<=Cj.length))<|some (A0.mk [.sc (.int .i64 1)] [[.sc (.string Cn),.sc (.int .i64 B3),.own 3 Bm (List.take (Bm*3) Cj)]])) (Au fu call a0_0 a0_1 a0_2n a0_2 a1 a2 a3 (fu) (a1) (a2) (a3) Bn (x8==4) (x8==6) Cn B3 Bm Cj x8 Bn Cq)) (Au fu call a0_0 a0_1 a0_2n a0_2 a1 a2 a3 (fu) (a1) (a2) (a3) Bn (x8==4) (x8==6) Cn B3 Bm Cj x8 Bn Cq)))) (A4 (x8==6) (A4 (decide (Bn>512)) (Ay (decide (Bm*3<=Cj.length))<|some (A0.mk [.sc (.int .i64 8)] [[.sc (.string Cn),.sc (.int .i64 B3),.own 3 Bm (List.take (Bm*3) Cj)]])) (A4 (x8==4) (Aa (wrap .i64 ((↑(ByteArray.size Cn):Int)-B3)) fun S8=>Aa (wrap .u64 S8) fun Rr=>A4 (decide (Rr<Bn)) (Ay (decide (Bm*3<=Cj.length))<|some (A0.mk [.sc (.int .i64 1)] [[.sc (.string Cn),.sc (.int .i64 B3),.own 3 Bm (List.take (Bm*3) Cj)]])) (Au fu call a0_0 a0_1 a0_2n a0_2 a1 a2 a3 (fu) (a1) (a2) (a3) Bn (x8==4) (x8==6) Cn B3 Bm Cj x8 Bn Cq)) (Au fu call a0_0 a0_1 a0_2n a0_2 a1 a2 a3 (fu) (a1) (a2) (a3) Bn (x8==4) (x8==6) Cn B3 Bm Cj x8 Bn Cq))) (A4 (x8==4) (Aa (wrap .i64 ((↑(ByteArray.size Cn):Int)-B3)) fun Vg=>Aa (wrap .u64 Vg) fun T0=>A4 (decide (T0<Bn)) (Ay (decide (Bm*3<=Cj.length))<|some (A0.mk [.sc (.int .i64 1)] [[.sc (.string Cn),.sc (.int .i64 B3),.own 3 Bm (List.take (Bm*3) Cj)]])) (Au fu call a0_0 a0_1 a0_2n a0_2 a1 a2 a3 (fu) (a1) (a2) (a3) Bn (x8==4) (x8==6) Cn B3 Bm Cj x8 Bn Cq)) (Au fu call a0_0 a0_1 a0_2n a0_2 a1 a2 a3 (fu) (a1) (a2) (a3) Bn (x8==4) (x8==6) Cn B3 Bm Cj x8 Bn Cq)))))) (A4 (decide (a1>8)) (Ay (decide (Bm*3<=Cj.length))<|some (A0.mk [.sc (.int .i64 5)] [[.sc (.string Cn),.sc (.int .i64 B3),.own 3 Bm (List.take (Bm*3) Cj)]])) (A4 (x8==4) (A4 (decide (Bn>1024)) (Ay (decide (Bm*3<=Cj.length))<|some (A0.mk [.sc (.int .i64 8)] [[.sc (.string Cn),.sc (.int .i64 B3),.own 3 Bm (List.take (Bm*3) Cj)]])) (A4 (x8==6) (A4 (decide (Bn>512)) (Ay (decide (Bm*3<=Cj.length))<|some (A0.mk [.sc (.int .i64 8)] [[.sc (.string Cn),.sc (.int .i64 B3),.own 3 Bm (List.take (Bm*3) Cj)]])) (A4 (x8==4) (Aa (wrap .i64 ((↑(ByteArray.size Cn):Int)-B3)) fun Vl=>Aa (wrap .u64 Vl) fun W8=>A4 (decide (W8<Bn)) (Ay (decide (Bm*3<=Cj.length))<|some (A0.mk [.sc (.int .i64 1)] [[.sc (.string Cn),.sc (.int .i64 B3),.own 3 Bm (List.take (Bm*3) Cj)]])) (Au fu call a0_0 a0_1 a0_2n a0_2 a1 a2 a3 (fu) (a1) (a2) (a3) Bn (x8==4) (x8==6) Cn B3 Bm Cj x8 Bn Cq)) (Au fu call a0_0 a0_1 a0_2n a0_2 a1 a2 a3 (fu) (a1) (a2) (a3) Bn (x8==4) (x8==6) Cn B3 Bm Cj x8 Bn Cq))) (A4 (x8==4) (Aa (wrap .i64 ((↑(ByteArray.size Cn):Int)-B3)) fun Wv=>Aa (wrap .u64 Wv) fun Yq=>A4 (decide (Yq<Bn)) (Ay (decide (Bm*3<=Cj.length))<|some (A0.mk [.sc (.int .i64 1)] [[.sc (.string Cn),.sc (.int .i64 B3),.own 3 Bm (List.take (Bm*3) Cj)]])) (Au fu call a0_0 a0_1 a0_2n a0_2 a1 a2 a3 (fu) (a1) (a2) (a3) Bn (x8==4) (x8==6) Cn B3 Bm Cj x8 Bn Cq)) (Au fu call a0_0 a0_1 a0_2n a0_2 a1 a2 a3 (fu) (a1) (a2) (a3) Bn (x8==4) (x8==6) Cn B3 Bm Cj x8 Bn Cq)))) (A4 (x8==6) (A4 (decide (Bn>512)) (Ay (decide (Bm*3<=Cj.length))<|some (A0.mk [.sc (.int .i64 8)] [[.sc (.string Cn),.sc (.int .i64 B3),.own 3 Bm (List.take (Bm*3) Cj)]])) (A4 (x8==4) (Aa (wrap .i64 ((↑(ByteArray.size Cn):Int)-B3)) fun Wu=>Aa (wrap .u64 Wu) fun X5=>A4 (decide (X5<Bn)) (Ay (decide (Bm*3<=Cj.length))<|some (A0.mk [.sc (.int .i64 1)] [[.sc (.string Cn),.sc (.int .i64 B3),.own 3 Bm (List.take (Bm*3) Cj)]])) (Au fu call a0_0 a0_1 a0_2n a0_2 a1 a2 a3 (fu) (a1) (a2) (a3) Bn (x8==4) (x8==6) Cn B3 Bm Cj x8 Bn Cq)) (Au fu call a0_0 a0_1 a0_2n a0_2 a1 a2 a3 (fu) (a1) (a2) (a3) Bn (x8==4) (x8==6) Cn B3 Bm Cj x8 Bn Cq))) (A4 (x8==4) (Aa (wrap .i64 ((↑(ByteArray.size Cn):Int)-B3)) fun Xq=>Aa (wrap .u64 Xq) fun Y5=>A4 (decide (Y5<Bn)) (Ay (decide (Bm*3<=Cj.length))<|some (A0.mk [.sc (.int .i64 1)] [[.sc (.string Cn),.sc (.int .i64 B3),.own 3 Bm (List.take (Bm*3) Cj)]])) (Au fu call a0_0 a0_1 a0_2n a0_2 a1 a2 a3 (fu) (a1) (a2) (a3) Bn (x8==4) (x8==6) Cn B3 Bm Cj x8 Bn Cq)) (Au fu call a0_0 a0_1 a0_2n a0_2 a1 a2 a3 (fu) (a1) (a2) (a3) Bn (x8==4) (x8==6) Cn B3 Bm Cj x8 Bn Cq)))))))))) (Ae C0 Tryz.prog fu d):=by kernel_rfl
abbrev O7:FuncId:=41
theorem AC (fu d a0n:Nat)(a0:List PV):Ae C0 Tryz.prog fu (d+1) O7 [.lst false 1 a0n a0]=(fun (call:Ar)=>Ay (decide (a0.length=a0n))<|Fd (bytesOf a0) fun x1=>Aj (call 66 [.pbox [.sc (.string (ByteArray.mk (List.toArray x1))),.sc (.int .i64 0),.own 3 0 []],.sc (.int .i64 0),.sc (.bool false),.sc (.string (ByteArray.mk #[]))]) fun x2 x3=>Ab x2 fun x4 x5=>Af .i64 x4 fun x6=>Ac x5<|Ab x3 fun x7 x8=>Ab x7 fun x9 Ck=>Co x9 fun Bn=>Ab Ck fun Cw Da=>Af .i64 Cw fun Cq=>Ab Da fun Cy Db=>Dc 3 Cy fun Dq D2=>Ac Db<|Ac x8<|A4 (x6 != 0) (some (A0.mk [.own 3 0 [],.sc (.int .i64 0),.sc (.int .i64 x6)] [])) (Ay (decide (Dq*3<=D2.length))<|some (A0.mk [.own 3 Dq (List.take (Dq*3) D2),.sc (.int .i64 Cq),.sc (.int .i64 0)] []))) (Ae C0 Tryz.prog fu d):=by kernel_rfl
end
section
open Go.IntKind (wrap)
def B4 (s:ByteArray):List Int:=s.data.toList.map fun b=>(b.toNat:Int)
def Bo (l:List Int):ByteArray:=⟨(l.map fun n=>n.toNat.toUInt8).toArray⟩
theorem C9 (s:ByteArray):(B4 s).length=s.size:=by
 unfold B4;rw [List.length_map];rfl
theorem Sl (s:ByteArray):G9 (B4 s):=by
 intro x hx;obtain ⟨b,_,rfl⟩:=List.mem_map.1 hx;have:=b.toNat_lt;omega
theorem Fw (s:ByteArray):Ct s=Ai .u8 (B4 s):=by
 unfold Ct B4
 induction s.data.toList with
 |nil=>rfl
 |cons b l ih=>rw [Zzw,Zzw,ih];rfl
theorem Ez (l:List Int):(Bo l).size=l.length:=by
 show (l.map fun n=>n.toNat.toUInt8).toArray.size=_
 simp
theorem Mn {l:List Int}(h:G9 l):B4 (Bo l)=l:=by
 unfold B4 Bo;simp only [List.map_map]
 have:∀l:List Int,G9 l->List.map ((fun b:UInt8=>(b.toNat:Int)) ∘ fun n:Int=>n.toNat.toUInt8) l=l:=by
  intro l
  induction l with
  |nil=>intro _;rfl
  |cons x l ih=>
   intro h;have hx:=h x (by simp)
   rw [Zzw,ih fun y hy=>h y (by simp [hy])]
   congr 1
   show ((x.toNat.toUInt8.toNat:Nat):Int)=x;rw [Nat.toUInt8,UInt8.toNat_ofNat'];omega
 exact this l h
theorem Q8 (s:ByteArray):Bo (B4 s)=s:=by
 unfold Bo B4;simp only [List.map_map]
 have:∀l:List UInt8,List.map ((fun n:Int=>n.toNat.toUInt8) ∘ fun b:UInt8=>(b.toNat:Int)) l=l:=by
  intro l
  induction l with
  |nil=>rfl
  |cons x l ih=>
   rw [Zzw,ih]
   congr 1
   show ((x.toNat:Int).toNat).toUInt8=x;rw [Hc];simp
 rw [this]
theorem Ft:∀l:List Int,bytesOf (Ai .u8 l)=some (l.map fun n=>n.toNat.toUInt8)
 |[]=>rfl
 |x::l=>by
  show (bytesOf (Ai .u8 l)).map (x.toNat.toUInt8 :: ·)=_
  rw [Ft l];rfl
theorem Aah (l:List Int)(s:ByteArray):Bo l++s=Bo (l++B4 s):=by
 conv=>lhs;rw [←Q8 s]
 unfold Bo;apply ByteArray.ext;rw [ByteArray.data_append];simp
def tb (n:Int)(k:Nat):List Int:=(List.range' (8-k) k).map (Dw n)
def Dr (mj n:Int):List Int:=
 if n<24 then [32*mj+n] else if n<256 then (32*mj+24)::tb n 1 else if n<65536 then (32*mj+25)::tb n 2 else if n<4294967296 then (32*mj+26)::tb n 4 else (32*mj+27)::tb n 8
structure It where
 k:Int
 n:Int
 s:ByteArray
def It.cells (x:It):List PV:=[.sc (.int .i64 x.k),.sc (.int .u64 x.n),.sc (.string x.s)]
def Bw (x:It):List Int:=
 if x.k=7 then [wrap .u8 (244+wrap .u8 x.n)] else if x.k=8 then [246] else if x.k=3 then Dr 2 x.s.size++B4 x.s else if x.k=4 then Dr 3 x.s.size++B4 x.s else Dr (x.k-1) x.n
theorem GJ (n:Int)(k:Nat):(tb n k).length=k:=by simp [tb]
theorem Au8 (n:Int)(k:Nat):G9 (tb n k):=by
 intro x hx;obtain ⟨j,_,rfl⟩:=List.mem_map.1 hx;exact Aab n j
theorem Im (mj n:Int):1<=(Dr mj n).length∧(Dr mj n).length<=9:=by
 unfold Dr
 repeat' split
 all_goals simp [GJ]
theorem ZL {mj n:Int}(h0:0<=mj)(h1:mj<=6)(hn:0<=n):G9 (Dr mj n):=by
 have hc:∀(a:Int) (l:List Int),0<=a∧a<=255->G9 l->G9 (a::l):=by
  intro a l ha hl x hx;rcases List.mem_cons.1 hx with rfl|hx
  ·exact ha
  ·exact hl x hx
 unfold Dr
 repeat' split
 ·exact hc _ _ (by omega) (fun _ h=>by simp at h)
 all_goals exact hc _ _ (by omega) (Au8 _ _)
theorem Afv {x:It}(h0:1<=x.k)(h1:x.k<=8)(hn:0<=x.n):G9 (Bw x):=by
 have happ:∀(a b:List Int),G9 a->G9 b->G9 (a++b):=by
  intro a b ha hb y hy;rcases List.mem_append.1 hy with h|h
  ·exact ha y h
  ·exact hb y h
 unfold Bw
 repeat' split
 ·intro y hy;simp at hy;subst hy;simp only [wrap,IntKind.signed,IntKind.bits];simp;omega
 ·intro y hy;simp at hy;omega
 ·exact happ _ _ (ZL (by omega) (by omega) (by omega)) (Sl _)
 ·exact happ _ _ (ZL (by omega) (by omega) (by omega)) (Sl _)
 ·exact ZL (by omega) (by omega) hn
theorem Hy (x:It):(Bw x).length<=9+x.s.size:=by
 unfold Bw;have h2:=Im 2 x.s.size;have h3:=Im 3 x.s.size;have h4:=Im (x.k-1) x.n;have hs:=C9 x.s
 repeat' split
 all_goals try simp only [H1,Ib,Y4]
 all_goals omega
section
variable {fu d:Nat}
theorem VS {call:Ar}{a0n:Nat}{a0:List PV}{a1 a2 n:Int}:∀(k nn:Nat)(l:List Int),k<=8->k<nn->l.length+k<=1000000 ->
  Ek fu call a0n a0 a1 a2 nn l.length n ((k:Int)-1) (Ai .u8 l)=some ⟨[.own 1 (l++tb n k).length (Ai .u8 (l++tb n k))],[]⟩
 |_,0,_,_,h,_=>by omega
 |0,nn+1,l,hk,hn,hl=>by
  have L:=Aq .u8 l;rw [Pg,Dt _ _ _ (by omega)]
  simp (disch:=omega) only [B6,Bj,Gd,L];simp [tb]
 |k+1,nn+1,l,hk,hn,hl=>by
  have ih:=VS (call:=call) (a0n:=a0n) (a0:=a0) (a1:=a1) (a2:=a2) (n:=n) k nn (l++[Dw n (8-(k+1))]) (by omega) (by omega) (by simp;omega)
  have L:=Aq .u8 l;have w8:wrap .i64 (8*(((k+1:Nat):Int)-1))=8*(k:Int):=by rw [At (by omega) (by omega)];omega
  have w:wrap .i64 (((k+1:Nat):Int)-1-1)=(k:Int)-1:=by rw [At (by omega) (by omega)];omega
  have hb:wrap .u8 (El .u64 n (8*(k:Int)))=Dw n (8-(k+1)):=by
   unfold Dw;rw [show 56-8*((8-(k+1):Nat):Int)=8*(k:Int) by omega]
  have et:tb n (k+1)=Dw n (8-(k+1))::tb n k:=by
   unfold tb;rw [List.range'_succ,Zzw,show 8-(k+1)+1=8-k by omega]
  have ea:l++tb n (k+1)=l++[Dw n (8-(k+1))]++tb n k:=by rw [et];simp
  rw [ea,←ih,Pg];simp (disch:=omega) only [B6,w8,hb,w,Bj,Gd,L,Fv,H1,Ib,Y4,Bv]
theorem Avb {mj:Int}(h0:0<=mj)(h1:mj<=7):Ff .u8 mj 5=32*mj:=by
 have:mj=0∨mj=1∨mj=2∨mj=3∨mj=4∨mj=5∨mj=6∨mj=7:=by omega
 rcases this with rfl|rfl|rfl|rfl|rfl|rfl|rfl|rfl<;>decide
theorem Agt (hfu:1000<=fu){l:List Int}(hl:l.length<=900000){mj n:Int}(h0:0<=mj)(h1:mj<=5)(hn:0<=n):Ae C0 Tryz.prog fu (d+1) Mz [.own 1 l.length (Ai .u8 l),.sc (.int .u8 mj),.sc (.int .u64 n)]=some ⟨[.own 1 (l++Dr mj n).length (Ai .u8 (l++Dr mj n))],[]⟩:=by
 rw [JK];have s5:=Avb h0 (by omega)
 have L:=Aq .u8 l;have w24:wrap .u8 (32*mj+24)=32*mj+24:=Gn (by omega) (by omega)
 have w25:wrap .u8 (32*mj+25)=32*mj+25:=Gn (by omega) (by omega)
 have w26:wrap .u8 (32*mj+26)=32*mj+26:=Gn (by omega) (by omega)
 have w27:wrap .u8 (32*mj+27)=32*mj+27:=Gn (by omega) (by omega)
 have lp:=fun (k:Nat) (hk:k<=8) (b:Int)=>VS (fu:=fu) (call:=Ae C0 Tryz.prog fu d) (a0n:=l.length) (a0:=Ai .u8 l) (a1:=mj) (a2:=n) (n:=n) k fu (l++[b]) hk (by omega) (by simp;omega)
 have ec:∀(b:Int) (t:List Int),l++b::t=l++[b]++t:=by intro b t;simp
 unfold Dr;by_cases c1:n<24
 ·have wn:wrap .u8 n=n:=Gn (by omega) (by omega)
  have ws:wrap .u8 (32*mj+n)=32*mj+n:=Gn (by omega) (by omega)
  have L1:=Aq .u8 (l++[32*mj+n]);have t1:=Gd .u8 (l++[32*mj+n]);simp only [H1,Ib,Y4,Bv] at L1 t1;rw [Bl c1];simp (disch:=omega) only [B6,s5,wn,ws,Bj,Gd,L,Fv,L1,t1,H1,Ib,Y4,Bv]
 ·by_cases c2:n<256
  ·have l1:=lp 1 (by omega) (32*mj+24)
   rw [show ((1:Nat):Int)-1=0 by omega] at l1
   rw [A3 c1,Bl c2,ec,←l1];simp (disch:=omega) only [B6,s5,w24,Bj,Gd,L,Fv,H1,Ib,Y4,Bv]
  ·by_cases c3:n<65536
   ·have l1:=lp 2 (by omega) (32*mj+25)
    rw [show ((2:Nat):Int)-1=1 by omega] at l1
    rw [A3 c1,A3 c2,Bl c3,ec,←l1];simp (disch:=omega) only [B6,s5,w25,Bj,Gd,L,Fv,H1,Ib,Y4,Bv]
   ·by_cases c4:n<4294967296
    ·have l1:=lp 4 (by omega) (32*mj+26)
     rw [show ((4:Nat):Int)-1=3 by omega] at l1
     rw [A3 c1,A3 c2,A3 c3,Bl c4,ec,←l1];simp (disch:=omega) only [B6,s5,w26,Bj,Gd,L,Fv,H1,Ib,Y4,Bv]
    ·have l1:=lp 8 (by omega) (32*mj+27)
     rw [show ((8:Nat):Int)-1=7 by omega] at l1
     rw [A3 c1,A3 c2,A3 c3,A3 c4,ec,←l1];simp (disch:=omega) only [B6,s5,w27,Bj,Gd,L,Fv,H1,Ib,Y4,Bv]
structure It.ok (x:It):Prop where
 k1:1<=x.k
 k8:x.k<=8
 n0:0<=x.n
 s0:x.s.size<=500000
theorem Agu (hfu:1000<=fu){l:List Int}(hl:l.length<=300000){x:It}(hx:x.ok):Ae C0 Tryz.prog fu (d+2) Ug [.own 1 l.length (Ai .u8 l),.agg x.cells]=some ⟨[.own 1 (l++Bw x).length (Ai .u8 (l++Bw x))],[]⟩:=by
 obtain ⟨k,n,s⟩:=x;obtain ⟨k1,k8,n0,s0⟩:=hx;simp only at k1 k8 n0 s0;refine (IA fu (d+1) l.length (Ai .u8 l) k n s).trans ?_;have L:=Aq .u8 l;have hsl:=C9 s;unfold Bw;simp only;by_cases c7:k=7
 ·subst c7;have L1:=Aq .u8 (l++[wrap .u8 (244+wrap .u8 n)]);have t1:=Gd .u8 (l++[wrap .u8 (244+wrap .u8 n)]);simp only [H1,Ib,Y4,Bv] at L1 t1;simp (disch:=omega) only [B6,Fo,if_true,Bj,Gd,L,Fv,L1,t1,H1,Ib,Y4,Bv]
 ·by_cases c8:k=8
  ·subst c8;have L1:=Aq .u8 (l++[246]);have t1:=Gd .u8 (l++[246]);simp only [H1,Ib,Y4,Bv] at L1 t1;rw [A3 c7,Bl rfl];simp (disch:=omega) only [B6,Fo,c7,if_false,if_true,Bj,Gd,L,Fv,L1,t1,H1,Ib,Y4,Bv]
  ·have dat:∀mj:Int,0<=mj->mj<=5->(Ae C0 Tryz.prog fu (d+1) Mz [.own 1 l.length (Ai .u8 l),.sc (.int .u8 mj),.sc (.int .u64 s.size)]=some ⟨[.own 1 (l++Dr mj s.size).length (Ai .u8 (l++Dr mj s.size))],[]⟩)∧(l++Dr mj s.size).length<=300009∧List.take (l++Dr mj s.size).length (Ai .u8 (l++Dr mj s.size))=Ai .u8 (l++Dr mj s.size)∧(Ai .u8 (l++Dr mj s.size)).length=(l++Dr mj s.size).length∧Ai .u8 (l++Dr mj s.size)++Ct s=Ai .u8 (l++(Dr mj s.size++B4 s))∧(l++(Dr mj s.size++B4 s)).length=(l++Dr mj s.size).length+s.size∧(Ai .u8 (l++(Dr mj s.size++B4 s))).length=(l++Dr mj s.size).length+s.size:=by
    intro mj h0 h1;have hh:=Im mj s.size;refine ⟨Agt hfu (by omega) h0 h1 (by omega),by rw [H1];omega,Gd _ _,Aq _ _,?_,?_,?_⟩
    ·rw [Fw,←Zzv,Ai,Ai,Ai,List.flatMap_append (xs:=l++Dr mj s.size)]
    ·rw [←Zzv,H1,hsl]
    ·rw [Aq,←Zzv,H1,hsl]
   have ss:(Ct s).length=s.size:=by rw [Fw,Aq,hsl]
   have wsz:wrap .u64 (s.size:Int)=s.size:=B5 (by omega) (by omega)
   rw [A3 c7,A3 c8];by_cases c3:k=3
   ·subst c3;obtain ⟨p1,p2,p3,p4,p5,p6,p7⟩:=dat 2 (by omega) (by omega)
    have w1:wrap .i64 ((3:Int)-1)=2:=by decide
    have w2:wrap .u8 (2:Int)=2:=by decide
    have t1:List.take ((l++Dr 2 s.size).length+s.size) (Ai .u8 (l++(Dr 2 s.size++B4 s)))=Ai .u8 (l++(Dr 2 s.size++B4 s)):=I0 (by omega)
    rw [Bl rfl];simp (disch:=omega) only [B6,Fo,c7,c8,if_false,if_true,w1,w2,wsz,Bj,Gd,L,p1];generalize (l++Dr 2 s.size).length=N at *
    simp (disch:=omega) only [B6,Bj,p3,p4,p5,p7,t1,ss];rw [p6]
   ·by_cases c4:k=4
    ·subst c4;obtain ⟨p1,p2,p3,p4,p5,p6,p7⟩:=dat 3 (by omega) (by omega)
     have w1:wrap .i64 ((4:Int)-1)=3:=by decide
     have w2:wrap .u8 (3:Int)=3:=by decide
     have t1:List.take ((l++Dr 3 s.size).length+s.size) (Ai .u8 (l++(Dr 3 s.size++B4 s)))=Ai .u8 (l++(Dr 3 s.size++B4 s)):=I0 (by omega)
     rw [A3 c3,Bl rfl];simp (disch:=omega) only [B6,Fo,c7,c8,c3,if_false,if_true,w1,w2,wsz,Bj,Gd,L,p1];generalize (l++Dr 3 s.size).length=N at *
     simp (disch:=omega) only [B6,Bj,p3,p4,p5,p7,t1,ss];rw [p6]
    ·have w1:wrap .i64 (k-1)=k-1:=At (by omega) (by omega)
     have w2:wrap .u8 (k-1)=k-1:=Gn (by omega) (by omega)
     have p1:=Agt (fu:=fu) (d:=d) hfu (l:=l) (by omega) (mj:=k-1) (n:=n) (by omega) (by omega) n0
     have L2:=Aq .u8 (l++Dr (k-1) n);have t2:=Gd .u8 (l++Dr (k-1) n);rw [A3 c3,A3 c4];simp (disch:=omega) only [B6,Fo,c7,c8,c3,c4,if_false,w1,w2,Bj,Gd,L,p1,L2,t2]
end
end
end Go.Proofs.YtgfgmbpmghgbkaaGreatDoor.Pv
