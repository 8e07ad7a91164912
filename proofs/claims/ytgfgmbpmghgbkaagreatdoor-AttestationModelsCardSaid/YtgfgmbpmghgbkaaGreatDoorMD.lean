/-
  The proof of AttestationModels, part 4 (texts Dg1 Wd2 GnB Ke0 Ke1 Ke2 GnR Ke3 Ke4 Ke5 GnF GnI Cb1).
-/
import Derived.Test.YtgfgmbpmghgbkaaGreatDoorMC
import Derived.Test.YtgfgmbpmghgbkaaGreatDoorRows
set_option linter.unusedSimpArgs false
set_option linter.unusedVariables false
namespace Go.Proofs.YtgfgmbpmghgbkaaGreatDoor.Pv
section
section
variable {fu d:Nat}
theorem A1k {x k:Int}(hk:k=13∨k=16∨k=17∨k=21∨k=32):Ae C0 Tryz.prog fu (d+1) Ov [.sc (.int .u64 x),.sc (.int .i64 k)]=some ⟨[.sc (.int .u64 (rot x k))],[]⟩:=by
 rw [Zo];rcases hk with rfl|rfl|rfl|rfl|rfl<;>kernel_rfl
theorem A2e {x k:Int}(hk:k=13∨k=16∨k=17∨k=21∨k=32):Ae C0 Tryz.prog fu (d+1) Qs [.sc (.int .u64 x),.sc (.int .u64 k)]=some ⟨[.sc (.int .u64 (rot x k))],[]⟩:=by
 rw [Abe];rcases hk with rfl|rfl|rfl|rfl|rfl<;>kernel_rfl
theorem Agd {a0 a1 a2 a3 a4:Int}:∀(k i nn:Nat)(v:W4),k<nn->i+k<=100 ->
  Fw fu (Ae C0 Tryz.prog fu (d+1)) a0 a1 a2 a3 a4 nn ((i+k:Nat):Int) i v.a v.b v.c v.d=some ⟨[],[(As4 k v).cells]⟩
 |_,_,0,_,h,_=>by omega
 |0,i,nn+1,v,h,hi=>by
  rw [Jp,Dw _ _ _ (by omega)]
  rfl
 |k+1,i,nn+1,v,h,hi=>by
  have ih:=Agd (a0:=a0) (a1:=a1) (a2:=a2) (a3:=a3) (a4:=a4) k (i+1) nn (rnd v) (by omega) (by omega)
  have w:IntKind.wrap .i64 ((i:Int)+1)=((i+1:Nat):Int):=by rw [Ap (by omega) (by omega)];omega
  have r13:=fun x=>A1k (fu:=fu) (d:=d) (x:=x) (k:=13) (by simp)
  have r16:=fun x=>A1k (fu:=fu) (d:=d) (x:=x) (k:=16) (by simp)
  have r17:=fun x=>A1k (fu:=fu) (d:=d) (x:=x) (k:=17) (by simp)
  have r21:=fun x=>A1k (fu:=fu) (d:=d) (x:=x) (k:=21) (by simp)
  have r32:=fun x=>A1k (fu:=fu) (d:=d) (x:=x) (k:=32) (by simp)
  rw [Jp];simp (disch:=omega) only [B3,r13,r16,r17,r21,r32,w];rw [show i+(k+1)=i+1+k by omega]
  exact ih
theorem Amb (k:Nat)(hk:k<=4)(hfu:100<=fu)(v:W4):Ae C0 Tryz.prog fu (d+2) Mo [.pbox [.sc (.int .u64 v.a),.sc (.int .u64 v.b),.sc (.int .u64 v.c),.sc (.int .u64 v.d)],.sc (.int .i64 k)]=some ⟨[],[(As4 k v).cells]⟩:=by
 rw [Wm];have:=Agd (fu:=fu) (d:=d) (a0:=v.a) (a1:=v.b) (a2:=v.c) (a3:=v.d) (a4:=k) k 0 fu v (by omega) (by omega)
 rw [Bw] at this;exact this
theorem Am1 (hfu:100<=fu)(v:W4)(m:Int):Ae C0 Tryz.prog fu (d+3) Mh [.pbox [.sc (.int .u64 v.a),.sc (.int .u64 v.b),.sc (.int .u64 v.c),.sc (.int .u64 v.d)],.sc (.int .u64 m)]=some ⟨[],[(Uj v m).cells]⟩:=by
 rw [Wh];have r2:=Amb (fu:=fu) (d:=d) 2 (by omega) hfu ⟨v.a,v.b,v.c,Em .u64 v.d m⟩
 have e2:((2:Nat):Int)=2:=rfl;rw [e2] at r2;unfold Uj;generalize As4 2 ⟨v.a,v.b,v.c,Em .u64 v.d m⟩=R at r2 ⊢;simp only [W4.cells] at r2;simp only [B3,r2];rfl
theorem A94 {a b:Int}{k:Nat}(hk:k<8)(ha:0<=a)(ha':a<((2 ^ (8*k):Nat):Int)) (hb:0<=b)(hb':b<=255):Y9 .u64 a (Fb .u64 b (8*(k:Int)))=a+((2 ^ (8*k):Nat):Int)*b:=by
 obtain ⟨n,rfl⟩:=Int.eq_ofNat_of_zero_le hb;have e:(8*(k:Int)).toNat=8*k:=by omega
 have hp:n*2 ^ (8*k)<=255*2 ^ (8*k):=Nat.mul_le_mul_right _ (by omega)
 have h56:2 ^ (8*k)<=2 ^ 56:=Nat.pow_le_pow_right (by omega) (by omega)
 have e56:(2:Nat) ^ 56=72057594037927936:=by decide
 rw [e56] at h56;generalize hP:2 ^ (8*k)=p at *
 have hpos:n*p<=255*p:=hp
 have hs:Fb .u64 (n:Int) (8*(k:Int))=(n:Int)*((2 ^ (8*(k:Int)).toNat:Nat):Int):=Avj (by omega) (by omega) (by omega) (by
  rw [e,hP];have:((n*p:Nat):Int)<=((255*p:Nat):Int):=by omega
  rw [←Int.natCast_mul];omega)
 rw [hs,e,hP]
 have:=(Aoe (a:=a) (c:=((n*p:Nat):Int)) (8*k) n ha (by rw [hP];exact ha') (by rw [hP]) (by
  have:((n*p:Nat):Int)<=((255*p:Nat):Int):=by omega
  omega)).1
 rw [←Int.natCast_mul,this,Int.mul_comm ((p:Nat):Int),←Int.natCast_mul]
theorem Bak (k:Nat):((2 ^ (8*k):Nat):Int)=256 ^ k:=by
 rw [Nat.pow_mul];simp
theorem Af6 {call:Am}{n:Nat}{c:List PV}{l:List Int}(hb:Hf l)(hl:l.length<=8):∀(r:List Int)(i nn:Nat),l.drop i=r->r.length<nn->i<=l.length ->
  Iy fu call n c nn (Tc (l.take i)) l.length (Ah .u8 l) l.length i=some ⟨[.sc (.int .u64 (Tc l))],[]⟩
 |_,_,0,_,h,_=>by omega
 |[],i,nn+1,h,hn,hi=>by
  have:=drop_nil h;rw [Qe,Dw _ _ _ (by omega),Iv (by omega)]
 |b::r,i,nn+1,h,hn,hi=>by
  obtain ⟨h1,h2,h3⟩:=Ct h;simp only [Iw] at hn;have ih:=Af6 (call:=call) (n:=n) (c:=c) hb hl r (i+1) nn h3 (by omega) (by omega)
  have hbb:=hb b (List.mem_of_getElem? h2);have w:IntKind.wrap .i64 ((i:Int)+1)=((i+1:Nat):Int):=by rw [Ap (by omega) (by omega)];omega
  have w8:IntKind.wrap .i64 (8*(i:Int))=8*(i:Int):=Ap (by omega) (by omega)
  have wb:IntKind.wrap .u64 b=b:=B6 (by omega) (by omega)
  have hbnd:=Uy (l:=l.take i) fun x hx=>hb x (List.mem_of_mem_take hx)
  have htl:(l.take i).length=i:=by rw [List.length_take];omega
  rw [htl] at hbnd
  have hj:Y9 .u64 (Tc (l.take i)) (Fb .u64 b (8*(i:Int)))=Tc (l.take (i+1)):=by
   rw [A94 (by omega) hbnd.1 (by rw [Bak];exact hbnd.2) hbb.1 hbb.2,List.take_add_one,h2,Abo,htl,Bak]
   simp [Tc]
  rw [Qe];simp (disch:=omega) only [B3,Hr,Bj,Ps h2,w,w8,wb,hj];exact ih
theorem Ana {l:List Int}(hb:Hf l)(hl:l.length<=8)(hfu:100<=fu):Ae C0 Tryz.prog fu (d+1) Vv [.lst false 1 l.length (Ah .u8 l)]=some ⟨[.sc (.int .u64 (Tc l))],[]⟩:=by
 rw [Ahw];exact Af6 hb hl l 0 fu rfl (by omega) (by omega)
theorem Et (k:IntKind)(l:List Int)(i:Nat):List.drop i (Ah k l)=Ah k (l.drop i):=by
 have:=Aop (Acr k) l i
 simpa using this
theorem Dx (k:IntKind)(l:List Int)(i:Nat):List.take i (Ah k l)=Ah k (l.take i):=by
 have:=Awm (Acr k) l i
 simpa using this
theorem Hf.drop {l:List Int}(h:Hf l)(i:Nat):Hf (l.drop i):=fun x hx=>h x (List.mem_of_mem_drop hx)
theorem Hf.take {l:List Int}(h:Hf l)(i:Nat):Hf (l.take i):=fun x hx=>h x (List.mem_of_mem_take hx)
theorem A4w {a0 a1:Int}{n:Nat}{c:List PV}{l:List Int}(hb:Hf l)(hl:l.length<=1099511627776)(hfu:100<=fu)(nn:Nat)(v:W4):
  Jj fu (Ae C0 Tryz.prog fu (d+3)) a0 a1 n c (nn+1) l.length (Ah .u8 l) ((l.length / 8:Nat):Int) ((l.length / 8:Nat):Int) ((l.length / 8:Nat):Int) v.a v.b v.c v.d=some ⟨[.sc (.int .u64 (Ayr (Axu (Uj v (Oo l)))))],[]⟩:=by
 have w8:IntKind.wrap .i64 (8*((l.length / 8:Nat):Int))=((8*(l.length / 8):Nat):Int):=by rw [Ap (by omega) (by omega)];omega
 have wl:IntKind.wrap .u64 (l.length:Int)=l.length:=B6 (by omega) (by omega)
 have hdl:(l.drop (8*(l.length / 8))).length=l.length-8*(l.length / 8):=List.length_drop;have li:=Ana (fu:=fu) (d:=d+2) (hb.drop (8*(l.length / 8))) (by omega) hfu
 rw [hdl] at li;have tk:List.take (l.length-8*(l.length / 8)) (Ah .u8 (l.drop (8*(l.length / 8))))=Ah .u8 (l.drop (8*(l.length / 8))):=Iv (by rw [Al,hdl];omega)
 have hbn:=Uy (hb.drop (8*(l.length / 8)));rw [hdl] at hbn
 have hp7:(256:Int) ^ (l.length-8*(l.length / 8))<=256 ^ 7:=by
  have:(256:Nat) ^ (l.length-8*(l.length / 8))<=256 ^ 7:=Nat.pow_le_pow_right (by omega) (by omega)
  have h2:(((256:Nat) ^ (l.length-8*(l.length / 8)):Nat):Int)<=((256 ^ 7:Nat):Int):=by omega
  simpa using h2
 have hlast:Y9 .u64 (Tc (l.drop (8*(l.length / 8)))) (Fb .u64 (l.length:Int) 56)=Oo l:=by
  have hs:Fb .u64 (l.length:Int) 56=(((l.length % 256)*2 ^ 56:Nat):Int):=by
   show IntKind.wrap .u64 ((l.length:Int)*2 ^ (min (56:Int).toNat IntKind.u64.bits))=_;have h2:(2:Int) ^ (min (56:Int).toNat IntKind.u64.bits)=72057594037927936:=by decide
   have h3:(2:Nat) ^ 56=72057594037927936:=by decide
   rw [h2,h3];simp only [IntKind.wrap,IntKind.signed,IntKind.bits];simp;omega
  have h56:(256:Int) ^ 7=((2 ^ 56:Nat):Int):=by decide
  have h3:(2:Nat) ^ 56=72057594037927936:=by decide
  rw [hs,(Aoe 56 (l.length % 256) hbn.1 (by omega) rfl (by omega)).1]
  unfold Oo;omega
 have ab:=Am1 (fu:=fu) (d:=d) hfu v (Oo l);have r4:=Amb (fu:=fu) (d:=d+1) 4 (by omega) hfu ⟨(Uj v (Oo l)).a,(Uj v (Oo l)).b,Em .u64 (Uj v (Oo l)).c 255,(Uj v (Oo l)).d⟩
 have e4:((4:Nat):Int)=4:=rfl;rw [e4] at r4;unfold Axu;generalize Uj v (Oo l)=U at ab r4 ⊢;generalize As4 4 ⟨U.a,U.b,Em .u64 U.c 255,U.d⟩=R at r4 ⊢;simp only [W4.cells] at ab r4;rw [V0];simp (disch:=omega) only [B3,Hr,Bj,w8,wl,Et,tk,li,hlast,ab,r4];rfl
theorem Aqt {a0 a1:Int}{n:Nat}{c:List PV}{l:List Int}(hb:Hf l)(hl:l.length<=1099511627776)(hfu:100<=fu):∀(k i nn:Nat)(v:W4),i+k=l.length / 8->k<nn ->
  Jj fu (Ae C0 Tryz.prog fu (d+3)) a0 a1 n c nn l.length (Ah .u8 l) ((l.length / 8:Nat):Int) ((l.length / 8:Nat):Int) i v.a v.b v.c v.d=some ⟨[.sc (.int .u64 (Ayr (Axu (Uj (Alt k v (l.drop (8*i))) (Oo l)))))],[]⟩
 |_,_,0,_,_,h=>by omega
 |0,i,nn+1,v,hi,hn=>by
  have e:i=l.length / 8:=by omega
  subst e;exact A4w hb hl hfu nn v
 |k+1,i,nn+1,v,hi,hn=>by
  have w:IntKind.wrap .i64 ((i:Int)+1)=((i+1:Nat):Int):=by rw [Ap (by omega) (by omega)];omega
  have w8:IntKind.wrap .i64 (8*(i:Int))=((8*i:Nat):Int):=by rw [Ap (by omega) (by omega)];omega
  have w88:IntKind.wrap .i64 (((8*i:Nat):Int)+8)=((8*i+8:Nat):Int):=by rw [Ap (by omega) (by omega)];omega
  have hdl:((l.drop (8*i)).take 8).length=8:=by rw [List.length_take,List.length_drop];omega
  have li:=Ana (fu:=fu) (d:=d+2) ((hb.drop (8*i)).take 8) (by omega) hfu
  rw [hdl] at li;have e8:8*i+8-8*i=8:=by omega
  have ab:=Am1 (fu:=fu) (d:=d) hfu v (Tc ((l.drop (8*i)).take 8));have ih:=Aqt (a0:=a0) (a1:=a1) (n:=n) (c:=c) hb hl hfu k (i+1) nn (Uj v (Tc ((l.drop (8*i)).take 8))) (by omega) (by omega)
  have eN:Alt (k+1) v (l.drop (8*i))=Alt k (Uj v (Tc ((l.drop (8*i)).take 8))) (l.drop (8*(i+1))):=by
   rw [Alt,List.drop_drop,show 8*i+8=8*(i+1) by omega]
  rw [eN];generalize Uj v (Tc ((l.drop (8*i)).take 8))=U at ab ih ⊢;simp only [W4.cells] at ab;rw [V0];simp (disch:=omega) only [B3,Hr,Bj,w,w8,w88,e8,Et,Dx,li,ab];exact ih
theorem A9j {l:List Int}(hb:Hf l)(hl:l.length<=1099511627776)(hfu:100<=fu)(hf:l.length<fu)(k0 k1:Int):Ae C0 Tryz.prog fu (d+4) Adh [.sc (.int .u64 k0),.sc (.int .u64 k1),.lst false 1 l.length (Ah .u8 l)]=some ⟨[.sc (.int .u64 (A5a k0 k1 l))],[]⟩:=by
 rw [Aoi]
 have w:IntKind.wrap .i64 (Int.tdiv (l.length:Int) 8)=((l.length / 8:Nat):Int):=by
  rw [Int.tdiv_eq_ediv_of_nonneg (by omega),Ap (by omega) (by omega)]
  omega
 have lp:=Aqt (fu:=fu) (d:=d) (a0:=k0) (a1:=k1) (n:=l.length) (c:=Ah .u8 l) hb hl hfu (l.length / 8) 0 fu (A8h k0 k1) (by omega) (by omega)
 simp only [Hj,w];exact lp
theorem Av1 {l:List Int}(hb:Hf l)(hl:l.length<=1099511627776)(hfu:100<=fu)(hf:l.length<fu)(dom:Int):Ae C0 Tryz.prog fu (d+5) S3 [.sc (.int .i64 dom),.lst false 1 l.length (Ah .u8 l)]=some ⟨[.sc (.int .u64 (D8 dom l))],[]⟩:=by
 rw [Ale];have s:=A9j (fu:=fu) (d:=d) hb hl hfu hf (IntKind.wrap .u64 dom) 0;simp only [B3,s];rfl
theorem Pt (v:W4):Ae C0 Tryz.prog fu (d+2) O2 [.agg [.sc (.int .u64 v.a),.sc (.int .u64 v.b),.sc (.int .u64 v.c),.sc (.int .u64 v.d)]]=some ⟨[.agg (rnd v).cells],[]⟩:=by
 have r13:=fun x=>A2e (fu:=fu) (d:=d) (x:=x) (k:=13) (by simp)
 have r16:=fun x=>A2e (fu:=fu) (d:=d) (x:=x) (k:=16) (by simp)
 have r17:=fun x=>A2e (fu:=fu) (d:=d) (x:=x) (k:=17) (by simp)
 have r21:=fun x=>A2e (fu:=fu) (d:=d) (x:=x) (k:=21) (by simp)
 have r32:=fun x=>A2e (fu:=fu) (d:=d) (x:=x) (k:=32) (by simp)
 rw [Zi];simp (disch:=omega) only [B3,r13,r16,r17,r21,r32];rfl
def Wc (l:List Int)(i k:Nat):Int:=if i+k<l.length then l.getD (i+k) 0 else if k=7 then (l.length:Int) % 256 else 0
def pc (l:List Int)(i:Nat):List Int:=(List.range 8).map (Wc l i)
theorem Bbc {l:List Int}(hb:Hf l)(i:Nat):Hf (pc l i):=by
 intro x hx;obtain ⟨k,hk,rfl⟩:=List.mem_map.1 hx;unfold Wc;split
 ·rename_i h;rw [List.getD_eq_getElem?_getD,List.getElem?_eq_getElem h];exact hb _ (List.getElem_mem h)
 ·split<;>omega
theorem A5g {l:List Int}{i:Nat}(h:i+8<=l.length):pc l i=(l.drop i).take 8:=by
 refine List.ext_getElem (by simp [pc];omega) fun k h1 h2=>?_
 have hk:k<8:=by simpa [pc] using h1
 simp only [pc,List.getElem_map,List.getElem_range,List.getElem_take,List.getElem_drop,Wc];rw [Bm (by omega),List.getD_eq_getElem?_getD,List.getElem?_eq_getElem (by omega)]
 rfl
theorem Amn (x:Int):∀n,Tc (List.replicate n 0++[x])=256 ^ n*x
 |0=>by simp [Tc]
 |n+1=>by
  rw [List.replicate_succ,List.cons_append,Tc,Amn x n,Int.pow_succ,Int.mul_comm (256 ^ n) 256,Int.mul_assoc];omega
theorem A4s {l:List Int}:Tc (pc l (8*(l.length / 8)))=Oo l:=by
 have e:pc l (8*(l.length / 8))=l.drop (8*(l.length / 8))++(List.replicate (7-(l.length-8*(l.length / 8))) 0++[(l.length:Int) % 256]):=by
  refine List.ext_getElem (by simp [pc];omega) fun k h1 h2=>?_
  have hk:k<8:=by simpa [pc] using h1
  simp only [pc,List.getElem_map,List.getElem_range,Wc];by_cases hc:8*(l.length / 8)+k<l.length
  ·rw [Bm hc,List.getElem_append_left (by rw [List.length_drop];omega),List.getElem_drop,List.getD_eq_getElem?_getD,List.getElem?_eq_getElem hc]
   rfl
  ·rw [A0 hc,List.getElem_append_right (by rw [List.length_drop];omega)]
   by_cases h7:k=7
   ·rw [Bm h7,List.getElem_append_right (by simp;omega)]
    simp
   ·rw [A0 h7,List.getElem_append_left (by simp;omega)]
    simp
 rw [e,Abo,Amn];unfold Oo
 have:(256:Int) ^ (l.drop (8*(l.length / 8))).length*(256 ^ (7-(l.length-8*(l.length / 8)))*((l.length:Int) % 256))=72057594037927936*((l.length:Int) % 256):=by
  rw [←Int.mul_assoc,←Int.pow_add,List.length_drop];have:l.length-8*(l.length / 8)+(7-(l.length-8*(l.length / 8)))=7:=by omega
  rw [this];rfl
 rw [this]
theorem A98 {a b:Int}(ha:0<=a)(ha':a<72057594037927936)(hb:0<=b)(hb':b<=255):Y9 .u64 (Fb .u64 a 8) b=b+256*a:=by
 obtain ⟨n,rfl⟩:=Int.eq_ofNat_of_zero_le ha
 have hs:Fb .u64 (n:Int) 8=((n*2 ^ 8:Nat):Int):=by
  have:=Avj (a:=(n:Int)) (k:=8) (by omega) (by omega) (by omega) (by
   have:(2 ^ (8:Int).toNat:Nat)=256:=by decide
   rw [this];omega)
  rw [this];have:(2 ^ (8:Int).toNat:Nat)=256:=by decide
  rw [this];have:(2 ^ 8:Nat)=256:=by decide
  rw [this];omega
 have h8:(2 ^ 8:Nat)=256:=by decide
 rw [hs,(Aoe (a:=b) 8 n hb (by rw [h8];omega) rfl (by rw [h8];omega)).2,h8]
 omega
theorem Awc {a0 a1:Int}{n m0:Nat}{c:List PV}{l:List Int}(hb:Hf l)(hl:l.length<=1099511627776){i:Nat}(hi:i<=l.length)(v:W4):∀(j nn:Nat),j<=8->j<nn ->
  Fa fu (Ae C0 Tryz.prog fu (d+2)) a0 a1 n c m0 nn l.length (Ah .u8 l) i (Tc ((pc l i).drop j)) ((j:Int)-1) v.cells =
   F1 fu (Ae C0 Tryz.prog fu (d+2)) a0 a1 n c m0 l.length (Ah .u8 l) ((i+8:Nat):Int) (Uj v (Tc (pc l i))).cells
 |_,0,_,h=>by omega
 |0,nn+1,hj,hn=>by
  have w8:IntKind.wrap .i64 ((i:Int)+8)=((i+8:Nat):Int):=by rw [Ap (by omega) (by omega)];omega
  have r1:=Pt (fu:=fu) (d:=d) ⟨v.a,v.b,v.c,Em .u64 v.d (Tc (pc l i))⟩;have r2:=Pt (fu:=fu) (d:=d) (rnd ⟨v.a,v.b,v.c,Em .u64 v.d (Tc (pc l i))⟩);have eA:Uj v (Tc (pc l i))=A99 (rnd (rnd ⟨v.a,v.b,v.c,Em .u64 v.d (Tc (pc l i))⟩)) (Tc (pc l i)):=rfl;rw [eA];generalize rnd ⟨v.a,v.b,v.c,Em .u64 v.d (Tc (pc l i))⟩=U at r1 r2 ⊢;generalize rnd U=U2 at r2 ⊢;simp only [W4.cells] at r1 r2;rw [Nu,Dw _ _ _ (by omega),Cf]
  simp only [W4.cells,List.getD_cons_zero,List.getD_cons_succ,Apz,Hj];simp (disch:=first|omega|(simp;done)) only [B3,B8,List.take_succ_cons,List.take_zero,List.drop_succ_cons,Cf,List.drop_nil,List.cons_append,Zzq,List.append_nil,Iw,Y6,List.getD_cons_zero,List.getD_cons_succ,r1,r2,w8,Bw,Nat.reduceAdd,Nat.reduceLeDiff,List.append_eq]
  rfl
 |j+1,nn+1,hj,hn=>by
  have ih:=Awc (a0:=a0) (a1:=a1) (n:=n) (m0:=m0) (c:=c) hb hl hi v j nn (by omega) (by omega)
  have hw:IntKind.wrap .i64 ((i:Int)+(((j+1:Nat):Int)-1))=((i+j:Nat):Int):=by rw [Ap (by omega) (by omega)];omega
  have wj:IntKind.wrap .i64 (((j+1:Nat):Int)-1-1)=(j:Int)-1:=by rw [Ap (by omega) (by omega)];omega
  have hd:(pc l i).drop j=Wc l i j::(pc l i).drop (j+1):=by
   rw [List.drop_eq_getElem_cons (by simp [pc];omega)]
   simp [pc]
  have hB:=Bbc hb i;have hbn:=Uy (hB.drop (j+1))
  have hp7:(256:Int) ^ ((pc l i).drop (j+1)).length<=72057594037927936:=by
   have hlen:((pc l i).drop (j+1)).length<=7:=by simp [pc]
   have:(256:Nat) ^ ((pc l i).drop (j+1)).length<=256 ^ 7:=Nat.pow_le_pow_right (by omega) hlen
   have h2:(((256:Nat) ^ ((pc l i).drop (j+1)).length:Nat):Int)<=((256 ^ 7:Nat):Int):=by omega
   simpa using h2
  have hc0:0<=Wc l i j∧Wc l i j<=255:=hB _ (by rw [←Cf (l:=pc l i)];exact List.mem_of_mem_drop (i:=j) (by rw [Cf,hd];simp))
  have hj2:Y9 .u64 (Fb .u64 (Tc ((pc l i).drop (j+1))) 8) (Wc l i j)=Tc ((pc l i).drop j):=by
   rw [A98 hbn.1 (by omega) hc0.1 hc0.2,hd]
   rfl
  have wc:IntKind.wrap .u64 (Wc l i j)=Wc l i j:=B6 (by omega) (by omega)
  rw [Nu,Aj3 _ _ _ (by omega)]
  simp only [Hj,hw];by_cases c1:i+j<l.length
  ·have e:Wc l i j=l.getD (i+j) 0:=by unfold Wc;rw [Bm c1]
   have e2:l[i+j]?=some (Wc l i j):=by rw [e,List.getD_eq_getElem?_getD,List.getElem?_eq_getElem c1];rfl
   rw [Aj3 _ _ _ (by omega)]
   simp (disch:=omega) only [B3,Hr,Bj,Ps e2,wc,hj2,wj];exact ih
  ·rw [Dw _ _ _ (by omega)]
   by_cases h7:j=7
   ·subst h7;have e:Wc l i 7=(l.length:Int) % 256:=by unfold Wc;rw [A0 c1,Bm rfl]
    have e8:IntKind.wrap .u8 (l.length:Int)=Wc l i 7:=by
     rw [e];simp only [IntKind.wrap,IntKind.signed,IntKind.bits];simp
    rw [Fd,Bm (by omega),e8,wc,hj2,wj]
    exact ih
   ·have e:Wc l i j=0:=by unfold Wc;rw [A0 c1,A0 h7]
    rw [e] at hj2;rw [Fd,A0 (by omega),hj2,wj]
    exact ih
theorem Amf {a0 a1:Int}{n:Nat}{c:List PV}{l:List Int}(hb:Hf l)(hl:l.length<=1099511627776)(hfu:100<=fu):∀(k i nn:Nat)(v:W4),i+k=l.length / 8->k+1<nn ->
  F1 fu (Ae C0 Tryz.prog fu (d+2)) a0 a1 n c nn l.length (Ah .u8 l) ((8*i:Nat):Int) v.cells=some ⟨[.sc (.int .u64 (Ayr (Axu (Uj (Alt k v (l.drop (8*i))) (Oo l)))))],[]⟩
 |_,_,0,_,_,h=>by omega
 |k,i,nn+1,v,hi,hn=>by
  have step:=Awc (fu:=fu) (d:=d) (a0:=a0) (a1:=a1) (n:=n) (m0:=nn) (c:=c) hb hl (i:=8*i) (by omega) v 8 fu (by omega) (by omega)
  have e0:Tc ((pc l (8*i)).drop 8)=0:=by rw [List.drop_of_length_le (by simp [pc])];rfl
  rw [e0] at step;rw [M9,Aj3 _ _ _ (by omega)]
  refine step.trans ?_;cases k with
  |zero=>
   have e:i=l.length / 8:=by omega
   subst e;rw [A4s];generalize hv:Uj v (Oo l)=u;obtain ⟨nn',rfl⟩:∃nn',nn=nn'+1:=⟨nn-1,by omega⟩
   have r1:=Pt (fu:=fu) (d:=d) ⟨u.a,u.b,Em .u64 u.c 255,u.d⟩;have r2:=Pt (fu:=fu) (d:=d) (rnd ⟨u.a,u.b,Em .u64 u.c 255,u.d⟩);have r3:=Pt (fu:=fu) (d:=d) (rnd (rnd ⟨u.a,u.b,Em .u64 u.c 255,u.d⟩));have r4:=Pt (fu:=fu) (d:=d) (rnd (rnd (rnd ⟨u.a,u.b,Em .u64 u.c 255,u.d⟩)))
   have eF:Ayr (Axu (Uj (Alt 0 v (l.drop (8*(l.length / 8)))) (Oo l)))=Ayr (rnd (rnd (rnd (rnd ⟨u.a,u.b,Em .u64 u.c 255,u.d⟩)))):=by
    rw [Alt,hv];rfl
   rw [eF];clear eF;generalize rnd ⟨u.a,u.b,Em .u64 u.c 255,u.d⟩=U1 at r1 r2 r3 r4 ⊢;generalize rnd U1=U2 at r2 r3 r4 ⊢;generalize rnd U2=U3 at r3 r4 ⊢;generalize rnd U3=U4 at r4 ⊢;simp only [W4.cells] at r1 r2 r3 r4;rw [M9,Dw _ _ _ (by omega)]
   simp only [W4.cells,List.getD_cons_zero,List.getD_cons_succ,Apz,Hj];simp (disch:=first|omega|(simp;done)) only [B3,B8,List.take_succ_cons,List.take_zero,List.drop_succ_cons,Cf,List.drop_nil,List.cons_append,Zzq,List.append_nil,Iw,Y6,List.getD_cons_zero,List.getD_cons_succ,r1,r2,r3,r4,Bw,Nat.reduceAdd,Nat.reduceLeDiff,List.append_eq]
   rfl
  |succ k=>
   have ih:=Amf (a0:=a0) (a1:=a1) (n:=n) (c:=c) hb hl hfu k (i+1) nn (Uj v (Tc (pc l (8*i)))) (by omega) (by omega)
   rw [show 8*i+8=8*(i+1) by omega,ih,A5g (by omega)]
   simp only [Alt,List.drop_drop];rw [show 8*(i+1)=8*i+8 by omega]
theorem Avl {l:List Int}(hb:Hf l)(hl:l.length<=1099511627776)(hfu:100<=fu)(hf:l.length<fu)(k0 k1:Int):Ae C0 Tryz.prog fu (d+3) Sa [.sc (.int .u64 k0),.sc (.int .u64 k1),.lst false 1 l.length (Ah .u8 l)]=some ⟨[.sc (.int .u64 (A5a k0 k1 l))],[]⟩:=by
 rw [Acx];exact Amf (fu:=fu) (d:=d) (a0:=k0) (a1:=k1) (n:=l.length) (c:=Ah .u8 l) hb hl hfu (l.length / 8) 0 fu (A8h k0 k1) (by omega) (by omega)
theorem Tx {l:List Int}(hb:Hf l)(hl:l.length<=1099511627776)(hfu:100<=fu)(hf:l.length<fu)(dom:Int):Ae C0 Tryz.prog fu (d+4) Jt [.sc (.int .i64 dom),.lst false 1 l.length (Ah .u8 l)]=some ⟨[.sc (.int .u64 (D8 dom l))],[]⟩:=by
 rw [Aar];have s:=Avl (fu:=fu) (d:=d) hb hl hfu hf (IntKind.wrap .u64 dom) 0;simp only [B3,s];rfl
theorem Avf {l:List Int}(hb:Hf l)(hl:l.length<=1099511627776)(hfu:100<=fu)(hf:l.length<fu)(key dom:Int):Ae C0 Tryz.prog fu (d+4) Si [.sc (.int .u64 key),.sc (.int .i64 dom),.lst false 1 l.length (Ah .u8 l)]=some ⟨[.sc (.int .u64 (A4a key dom l))],[]⟩:=by
 rw [Ads];have s:=Avl (fu:=fu) (d:=d) hb hl hfu hf key (IntKind.wrap .u64 (1+IntKind.wrap .u64 dom));simp only [B3,s];rfl
end
end
section
def Dt (w:Int)(k:Nat):Int:=IntKind.wrap .u8 (Eg .u64 w (56-8*(k:Int)))
def Ca (w:Int):List Int:=(List.range' 0 8).map (Dt w)
def A6 (ws:List Int):List Int:=ws.flatMap Ca
theorem Cw (w:Int):(Ca w).length=8:=rfl
section
variable {fu d:Nat} {call:Am} {n:Nat} {c:List PV}
theorem Asn {ws:List Int}{w:Int}{m0 l:Nat}{i k:Int}:∀(r j nn:Nat)(bs:List Int),8-j=r->r<nn->j<=8->bs.length+r<=34359738368 ->
  Jr fu call n c m0 nn bs.length w l (Ah .u64 ws) k i j (Ah .u8 bs) =
   Hu fu call n c m0 (bs++(List.range' j (8-j)).map (Dt w)).length l (Ah .u64 ws) k (IntKind.wrap .i64 (i+1)) (Ah .u8 (bs++(List.range' j (8-j)).map (Dt w)))
 |r,j,0,bs,_,h,_,_=>by omega
 |0,j,nn+1,bs,hr,_,hj,_=>by
  have e:j=8:=by omega
  subst e;rw [Sm];simp (disch:=omega) only [B3];simp
 |r+1,j,nn+1,bs,hr,hn,hj,hb=>by
  have ih:=Asn (ws:=ws) (w:=w) (m0:=m0) (l:=l) (i:=i) (k:=k) r (j+1) nn (bs++[Dt w j]) (by omega) (by omega) (by omega) (by simp;omega)
  have e8:=Al .u8 bs;rw [Sm]
  have hx:IntKind.wrap .u8 (Eg .u64 w (IntKind.wrap .i64 (56-IntKind.wrap .i64 (8*(j:Int)))))=Dt w j:=by
   rw [Ap (x:=8*(j:Int)) (by omega) (by omega),Ap (by omega) (by omega)]
   rfl
  have h0:0<=IntKind.wrap .i64 (56-IntKind.wrap .i64 (8*(j:Int))):=by
   rw [Ap (x:=8*(j:Int)) (by omega) (by omega),Ap (by omega) (by omega)]
   omega
  have hrange:List.range' j (8-j)=j::List.range' (j+1) (8-(j+1)):=by
   rw [show 8-j=(8-(j+1))+1 by omega]
   exact List.range'_succ
  simp (disch:=first|omega|exact h0) only [B3,Bj,hx,Gs,Fg,Ap (x:=(j:Int)+1)];rw [hrange];simp only [Hz,Iw,Y6,Bw,Zzv,Zzw,List.singleton_append] at ih ⊢;exact ih
theorem Akf {ws:List Int}(hl:ws.length<=1073741824)(hfu:100<=fu):∀(r:List Int)(i nn:Nat)(bs:List Int),ws.drop i=r->r.length<nn->bs.length=8*i ->
  Hu fu call n c nn bs.length ws.length (Ah .u64 ws) ws.length i (Ah .u8 bs)=some ⟨[.own 1 (bs++A6 r).length (Ah .u8 (bs++A6 r))],[]⟩
 |r,i,0,_,_,h,_=>by omega
 |[],i,nn+1,bs,h,_,_=>by
  have:=drop_nil h;have e8:=Al .u8 bs;rw [Ru];simp (disch:=omega) only [B3,Bj,Gs,A6,List.flatMap_nil,List.append_nil]
 |w::r,i,nn+1,bs,h,hn,hb=>by
  obtain ⟨h1,h2,h3⟩:=Ct h;simp only [Iw] at hn;rw [Ru];simp (disch:=omega) only [B3,Hr,Bj,Ps h2];rw [show (0:Int)=((0:Nat):Int) from rfl,Asn 8 0 fu bs rfl (by omega) (by omega) (by omega),Ap (by omega) (by omega)]
  have ih:=Akf hl hfu r (i+1) nn (bs++Ca w) h3 (by omega) (by simp [Cw];omega)
  have e:bs++Ca w++A6 r=bs++A6 (w::r):=by simp [A6]
  rw [e] at ih;exact ih
theorem Um {ws:List Int}(hl:ws.length<=1073741824)(hfu:100<=fu)(hf:ws.length<fu):Ae C0 Tryz.prog fu (d+1) He [.lst false 1 ws.length (Ah .u64 ws)]=some ⟨[.own 1 (A6 ws).length (Ah .u8 (A6 ws))],[]⟩:=by
 rw [Aja];simp (disch:=omega) only [B3,Ap,Int.mul_one];exact Akf hl hfu ws 0 fu [] rfl hf rfl
theorem Ane {ws:List Int}{w:Int}{m0 i:Nat}(hw:ws[i]?=some w):∀(r nn:Nat)(j:Int)(bs:List Int),j=(r:Int)-1->r<=8->r<nn->bs.length+r<=34359738368 ->
  Gk fu call n c m0 nn ws.length (Ah .u64 ws) bs.length i j (Ah .u8 bs) =
   Fi fu call n c m0 ws.length (Ah .u64 ws) (bs++(List.range' (8-r) r).map (Dt w)).length (IntKind.wrap .i64 (i+1)) (Ah .u8 (bs++(List.range' (8-r) r).map (Dt w)))
 |r,0,j,bs,_,_,h,_=>by omega
 |0,nn+1,j,bs,hr,_,_,_=>by
  rw [Ll];simp (disch:=omega) only [B3];simp
 |r+1,nn+1,j,bs,hr,hle,hn,hb=>by
  have hi:=A6l hw;have ih:=Ane (m0:=m0) hw r nn (j-1) (bs++[Dt w (8-(r+1))]) (by omega) (by omega) (by omega) (by simp;omega)
  have e8:=Al .u8 bs
  have hx:IntKind.wrap .u8 (Eg .u64 w (IntKind.wrap .u64 (IntKind.wrap .i64 (8*j))))=Dt w (8-(r+1)):=by
   rw [Ap (by omega) (by omega),B6 (by omega) (by omega)]
   unfold Dt;rw [show 56-8*((8-(r+1):Nat):Int)=8*j by omega]
  have h0:0<=IntKind.wrap .u64 (IntKind.wrap .i64 (8*j)):=by
   rw [Ap (by omega) (by omega),B6 (by omega) (by omega)]
   omega
  have hrange:List.range' (8-(r+1)) (r+1)=(8-(r+1))::List.range' (8-r) r:=by
   rw [List.range'_succ,show 8-(r+1)+1=8-r by omega]
  rw [Ll];simp (disch:=first|omega|exact h0) only [B3,Hr,Bj,Ps hw,hx,Gs,Fg,Ap (x:=j-1)];rw [hrange];simp only [Hz,Iw,Y6,Bw,Zzv,Zzw,List.singleton_append] at ih ⊢;exact ih
theorem Ag5 {ws:List Int}(hl:ws.length<=1073741824)(hfu:100<=fu):∀(r:List Int)(i nn:Nat)(bs:List Int),ws.drop i=r->r.length<nn->bs.length=8*i ->
  Fi fu call n c nn ws.length (Ah .u64 ws) bs.length i (Ah .u8 bs)=some ⟨[.own 1 (bs++A6 r).length (Ah .u8 (bs++A6 r))],[]⟩
 |r,i,0,_,_,h,_=>by omega
 |[],i,nn+1,bs,h,_,_=>by
  have:=drop_nil h;have e8:=Al .u8 bs;rw [Ln];simp (disch:=omega) only [B3,Bj,Gs,A6,List.flatMap_nil,List.append_nil]
 |w::r,i,nn+1,bs,h,hn,hb=>by
  obtain ⟨h1,h2,h3⟩:=Ct h;simp only [Iw] at hn;rw [Ln];simp (disch:=omega) only [B3];rw [Ane h2 8 fu 7 bs rfl (by omega) (by omega) (by omega),Ap (by omega) (by omega)]
  have ih:=Ag5 hl hfu r (i+1) nn (bs++Ca w) h3 (by omega) (by simp [Cw];omega)
  have e:bs++Ca w++A6 r=bs++A6 (w::r):=by simp [A6]
  rw [e] at ih;exact ih
theorem J6 {ws:List Int}(hl:ws.length<=1073741824)(hfu:100<=fu)(hf:ws.length<fu):Ae C0 Tryz.prog fu (d+1) D6 [.lst false 1 ws.length (Ah .u64 ws)]=some ⟨[.own 1 (A6 ws).length (Ah .u8 (A6 ws))],[]⟩:=by
 rw [Z3];exact Ag5 hl hfu ws 0 fu [] rfl hf rfl
end
abbrev Ev (a b:Int):Int:=Y9 .u64 (Fb .u64 a 8) (IntKind.wrap .u64 b)
def Zu (bs:List Int):Int:=bs.foldl Ev 0
theorem A6a {q:Int}(h0:0<=q)(h1:q<=18446744073709551615):Ev (q / 256) (IntKind.wrap .u8 q)=q:=by
 have e1:Fb .u64 (q / 256) 8=q / 256*256:=by
  unfold Fb;have:((8:Int).toNat.min IntKind.u64.bits)=8:=by decide
  show IntKind.wrap .u64 (q / 256*2 ^ (min (8:Int).toNat IntKind.u64.bits))=_;have h2:(2:Int) ^ (min (8:Int).toNat IntKind.u64.bits)=256:=by decide
  rw [h2,B6 (by omega) (by omega)]
 have e2:IntKind.wrap .u8 q=q % 256:=by
  simp only [IntKind.wrap,IntKind.signed,IntKind.bits];simp
 have e3:IntKind.wrap .u64 (q % 256)=q % 256:=B6 (by omega) (by omega)
 unfold Ev;rw [e1,e2,e3];obtain ⟨n,rfl⟩:=Int.eq_ofNat_of_zero_le h0;have hn:n<18446744073709551616:=by omega
 have e4:(BitVec.ofInt 64 ((n:Int) / 256*256)).toNat=n / 256*256:=by
  rw [BitVec.toNat_ofInt];omega
 have e5:(BitVec.ofInt 64 ((n:Int) % 256)).toNat=n % 256:=by
  rw [BitVec.toNat_ofInt];omega
 have e6:n / 256*256 ||| n % 256=n:=by
  have:=Nat.shiftLeft_add_eq_or_of_lt (show n % 256<2 ^ 8 by omega) (n / 256)
  rw [Nat.shiftLeft_eq] at this;rw [←this];omega
 unfold Y9;show IntKind.wrap .u64 ((BitVec.ofInt 64 ((n:Int) / 256*256) ||| BitVec.ofInt 64 ((n:Int) % 256)).toNat:Int)=n;rw [BitVec.toNat_or,e4,e5,e6,B6 (by omega) (by omega)]
theorem An2 {w:Int}(k:Nat)(hk:k<8):Dt w k=IntKind.wrap .u8 (w / 2 ^ (56-8*k)):=by
 unfold Dt Eg;have e:(56-8*(k:Int)).toNat=56-8*k:=by omega
 rw [e,Nat.min_eq_left (by show 56-8*k<=64;omega),Int.fdiv_eq_ediv_of_nonneg _ (Int.le_of_lt (Int.pow_pos (by omega)))]
theorem Yt {w:Int}(h0:0<=w)(h1:w<=18446744073709551615):Zu (Ca w)=w:=by
 have st:∀(k:Nat) (D:Int),k<8->(2:Int) ^ (56-8*k)=D->0<D->Ev (w / D / 256) (Dt w k)=w / D:=by
  intro k D hk hD hp;rw [An2 k hk,hD];exact A6a (Int.ediv_nonneg h0 (Int.le_of_lt hp)) (Int.le_trans (Int.ediv_le_self _ h0) h1)
 have s0:=st 0 72057594037927936 (by omega) (by decide) (by omega)
 have s1:=st 1 281474976710656 (by omega) (by decide) (by omega)
 have s2:=st 2 1099511627776 (by omega) (by decide) (by omega)
 have s3:=st 3 4294967296 (by omega) (by decide) (by omega)
 have s4:=st 4 16777216 (by omega) (by decide) (by omega)
 have s5:=st 5 65536 (by omega) (by decide) (by omega)
 have s6:=st 6 256 (by omega) (by decide) (by omega)
 have s7:=st 7 1 (by omega) (by decide) (by omega)
 rw [show w / 72057594037927936 / 256=0 by omega] at s0
 rw [show w / 281474976710656 / 256=w / 72057594037927936 by omega] at s1
 rw [show w / 1099511627776 / 256=w / 281474976710656 by omega] at s2
 rw [show w / 4294967296 / 256=w / 1099511627776 by omega] at s3
 rw [show w / 16777216 / 256=w / 4294967296 by omega] at s4
 rw [show w / 65536 / 256=w / 16777216 by omega] at s5
 rw [show w / 256 / 256=w / 65536 by omega] at s6
 rw [show w / 1 / 256=w / 256 by omega,show w / 1=w by omega] at s7
 show Ev (Ev (Ev (Ev (Ev (Ev (Ev (Ev 0 (Dt w 0)) (Dt w 1)) (Dt w 2)) (Dt w 3)) (Dt w 4)) (Dt w 5)) (Dt w 6)) (Dt w 7)=w;rw [s0,s1,s2,s3,s4,s5,s6,s7]
end
section
set_option maxRecDepth 100000
abbrev Uc:FuncId:=104
noncomputable def Gh (fu:Nat)(call:Am)(a0:Int)(nn:Nat)(y0 y1 y2:Int)(y3 y4:List PV):Option Ay:=Db C0 Tryz.prog fu call 104 Tryz.f104 (Ch Tryz.f104) [.sc (.int .u64 a0)] [.r,.r,.r,.l,.r,.l] nn ⟨lk [(0,(.sc (.int .u64 y0))),(2,(.ptr 2 0)),(3,(.ptr 3 0)),(4,(.sc (.int .i64 y1))),(6,(.sc (.int .i64 y2)))],Gn [(2,(.ar false y3)),(3,(.ar false y4))]⟩
noncomputable def R0 (fu:Nat)(call:Am)(a0:Int)(nn:Nat)(y0 y1:List PV):Option Ay:=Db C0 Tryz.prog fu call 104 Tryz.f104 (Ch Tryz.f104) [.sc (.int .u64 a0)] [.r,.r,.r,.r,.r] nn ⟨lk [(2,(.ptr 2 0)),(3,(.ptr 3 0))],Gn [(2,(.ar false y0)),(3,(.ar false y1))]⟩
noncomputable def Sf (fu:Nat)(call:Am)(a0:Int)(nn:Nat)(y0:List PV):Option Ay:=Db C0 Tryz.prog fu call 104 Tryz.f104 (Ch Tryz.f104) [.sc (.int .u64 a0)] [.r,.r,.r,.r,.r,.r] nn ⟨lk [(2,(.ptr 2 0))],Gn [(2,(.ar false y0))]⟩
theorem Pc (fu:Nat)(call:Am)(a0:Int)(nn:Nat)(y0 y1 y2:Int)(y3 y4:List PV):Gh fu call a0 (nn+1) y0 y1 y2 y3 y4=(A4 (decide (y2<16)) (Aa (IntKind.wrap .i64 (4*y2)) fun x1=>Aa (IntKind.wrap .i64 (60-x1)) fun x2=>Aq (decide (0<=x2))<|Aa (Eg .u64 y0 x2) fun x3=>Aa (E9 .u64 x3 15) fun x4=>Aa (IntKind.wrap .i64 x4) fun x5=>Aq (decide (0<=y2)&&decide (y2<18))<|Aq (decide (0+Int.toNat y2*1+1<=List.length y4))<|Aa (B8 y4 [.sc (.int .i64 x5)] (0+Int.toNat y2*1)) fun x6=>Aq (decide (0<=y2)&&decide (y2<18))<|Af .i64 (List.getD x6 (0+Int.toNat y2*1) .top) fun x7=>Aa (IntKind.wrap .i64 (15-x7)) fun x8=>Aa (IntKind.wrap .i64 (y1+x8)) fun x9=>Aa (IntKind.wrap .i64 (y2+1)) fun Cd=>Gh fu call a0 (nn) (y0) x9 Cd (y3) x6) (Aa (IntKind.wrap .i64 (Int.tdiv y1 16)) fun Bp=>Aq (decide (17<=List.length y4))<|Aa (B8 y4 [.sc (.int .i64 Bp)] 16) fun C4=>Aa (Int.tmod y1 16) fun Da=>Aq (decide (18<=List.length C4))<|Aa (B8 C4 [.sc (.int .i64 Da)] 17) fun Cq=>R0 fu call a0 (fu) (y3) Cq)):=by kernel_rfl
theorem Z4 (fu:Nat)(call:Am)(a0:Int)(nn:Nat)(hnn:0<nn)(y0 y1:List PV):R0 fu call a0 nn y0 y1=(Af .i64 (List.getD y1 0 .top) fun C9=>Af .i64 (List.getD y1 1 .top) fun Do=>Af .i64 (List.getD y1 2 .top) fun Du=>Af .i64 (List.getD y1 3 .top) fun D5=>Af .i64 (List.getD y1 4 .top) fun D7=>Af .i64 (List.getD y1 5 .top) fun Eh=>Af .i64 (List.getD y1 6 .top) fun Fy=>Af .i64 (List.getD y1 7 .top) fun Ci=>Af .i64 (List.getD y1 8 .top) fun Fn=>Af .i64 (List.getD y1 9 .top) fun Ds=>Af .i64 (List.getD y1 10 .top) fun Bx=>Af .i64 (List.getD y1 11 .top) fun Fc=>Af .i64 (List.getD y1 12 .top) fun Ft=>Af .i64 (List.getD y1 13 .top) fun Bk=>Af .i64 (List.getD y1 14 .top) fun Cg=>Af .i64 (List.getD y1 15 .top) fun Hg=>Af .i64 (List.getD y1 16 .top) fun Gf=>Af .i64 (List.getD y1 17 .top) fun Ie=>Aq (decide (18<=List.length y0))<|Aa (B8 y0 [.sc (.int .i64 C9),.sc (.int .i64 Do),.sc (.int .i64 Du),.sc (.int .i64 D5),.sc (.int .i64 D7),.sc (.int .i64 Eh),.sc (.int .i64 Fy),.sc (.int .i64 Ci),.sc (.int .i64 Fn),.sc (.int .i64 Ds),.sc (.int .i64 Bx),.sc (.int .i64 Fc),.sc (.int .i64 Ft),.sc (.int .i64 Bk),.sc (.int .i64 Cg),.sc (.int .i64 Hg),.sc (.int .i64 Gf),.sc (.int .i64 Ie)] 0) fun H0=>Sf fu call a0 (fu) H0):=by cases nn with|zero=>exact absurd hnn (Nat.lt_irrefl 0)|succ nn=>kernel_rfl
theorem Zg (fu:Nat)(call:Am)(a0:Int)(nn:Nat)(hnn:0<nn)(y0:List PV):Sf fu call a0 nn y0=(Af .i64 (List.getD y0 0 .top) fun Jn=>Af .i64 (List.getD y0 1 .top) fun Gt=>Af .i64 (List.getD y0 2 .top) fun Ix=>Af .i64 (List.getD y0 3 .top) fun M5=>Af .i64 (List.getD y0 4 .top) fun F0=>Af .i64 (List.getD y0 5 .top) fun H5=>Af .i64 (List.getD y0 6 .top) fun Rh=>Af .i64 (List.getD y0 7 .top) fun R6=>Af .i64 (List.getD y0 8 .top) fun L6=>Af .i64 (List.getD y0 9 .top) fun Rl=>Af .i64 (List.getD y0 10 .top) fun Pu=>Af .i64 (List.getD y0 11 .top) fun Lx=>Af .i64 (List.getD y0 12 .top) fun Q6=>Af .i64 (List.getD y0 13 .top) fun Rj=>Af .i64 (List.getD y0 14 .top) fun Oc=>Af .i64 (List.getD y0 15 .top) fun Pw=>Af .i64 (List.getD y0 16 .top) fun Sd=>Af .i64 (List.getD y0 17 .top) fun Pq=>some (Ay.mk [.agg [.sc (.int .i64 Jn),.sc (.int .i64 Gt),.sc (.int .i64 Ix),.sc (.int .i64 M5),.sc (.int .i64 F0),.sc (.int .i64 H5),.sc (.int .i64 Rh),.sc (.int .i64 R6),.sc (.int .i64 L6),.sc (.int .i64 Rl),.sc (.int .i64 Pu),.sc (.int .i64 Lx),.sc (.int .i64 Q6),.sc (.int .i64 Rj),.sc (.int .i64 Oc),.sc (.int .i64 Pw),.sc (.int .i64 Sd),.sc (.int .i64 Pq)]] [])):=by cases nn with|zero=>exact absurd hnn (Nat.lt_irrefl 0)|succ nn=>kernel_rfl
theorem Afl (fu d:Nat)(a0:Int):Ae C0 Tryz.prog fu (d+1) Uc [.sc (.int .u64 a0)]=(fun (call:Am)=>Gh fu call a0 (fu) (a0) 0 0 ([.sc (.int .i64 0),.sc (.int .i64 0),.sc (.int .i64 0),.sc (.int .i64 0),.sc (.int .i64 0),.sc (.int .i64 0),.sc (.int .i64 0),.sc (.int .i64 0),.sc (.int .i64 0),.sc (.int .i64 0),.sc (.int .i64 0),.sc (.int .i64 0),.sc (.int .i64 0),.sc (.int .i64 0),.sc (.int .i64 0),.sc (.int .i64 0),.sc (.int .i64 0),.sc (.int .i64 0)]) ([.sc (.int .i64 0),.sc (.int .i64 0),.sc (.int .i64 0),.sc (.int .i64 0),.sc (.int .i64 0),.sc (.int .i64 0),.sc (.int .i64 0),.sc (.int .i64 0),.sc (.int .i64 0),.sc (.int .i64 0),.sc (.int .i64 0),.sc (.int .i64 0),.sc (.int .i64 0),.sc (.int .i64 0),.sc (.int .i64 0),.sc (.int .i64 0),.sc (.int .i64 0),.sc (.int .i64 0)])) (Ae C0 Tryz.prog fu d):=by kernel_rfl
abbrev Aai:FuncId:=105
noncomputable def Ko (fu:Nat)(call:Am)(a0 a1:Int)(a2 a3 a4:Int)(nn:Nat)(y0 y1:Int)(y2 y3 y4:Int):Option Ay:=Db C0 Tryz.prog fu call 105 Tryz.f105 (Ch Tryz.f105) [.sc (.int .i64 a0),.sc (.int .i64 a1),.sc (.int .i64 a2),.sc (.int .i64 a3),.sc (.int .u64 a4)] [.r,.r,.l,.r,.l] nn ⟨lk [(0,(.sc (.int .i64 y0))),(1,(.sc (.int .i64 y1))),(4,(.sc (.int .u64 y2))),(11,(.sc (.int .i64 y3))),(12,(.sc (.int .i64 y4)))],Gn []⟩
theorem Ua (fu:Nat)(call:Am)(a0 a1:Int)(a2 a3 a4:Int)(nn:Nat)(y0 y1:Int)(y2 y3 y4:Int):Ko fu call a0 a1 a2 a3 a4 (nn+1) y0 y1 y2 y3 y4=(A4 (decide (y4<y3)) (Aa (IntKind.wrap .u64 y0) fun x3=>Aa (IntKind.wrap .u64 y1) fun x4=>Aa (IntKind.wrap .u64 y4) fun x5=>Ag (call 108 [.lst false 1 4 [.sc (.int .u64 x3),.sc (.int .u64 x4),.sc (.int .u64 x5),.sc (.int .u64 y2)]]) fun x6 x7=>Ac x7<|Ab x6 fun x8 x9=>Dk 1 x8 fun Cd Bp=>Ac x9<|Aq (decide (0+Cd*1<=List.length Bp))<|Ag (call 107 [.sc (.int .i64 1),.lst false 1 Cd (List.take (Cd*1) (List.drop 0 Bp))]) fun C4 Da=>Ac Da<|Ab C4 fun Cq C9=>Af .u64 Cq fun Do=>Ac C9<|Aa (IntKind.wrap .i64 (y4+1)) fun Du=>Ko fu call a0 a1 a2 a3 a4 (nn) (y0) (y1) Do (y3) Du) (some (Ay.mk [.sc (.int .u64 y2)] []))):=by kernel_rfl
theorem Alg (fu d:Nat)(a0 a1:Int)(a2 a3 a4:Int):Ae C0 Tryz.prog fu (d+1) Aai [.sc (.int .i64 a0),.sc (.int .i64 a1),.sc (.int .i64 a2),.sc (.int .i64 a3),.sc (.int .u64 a4)]=(fun (call:Am)=>Aa (if 15<a3 then 15 else a3) fun x1=>Aa (if a2<0 then 0 else a2) fun x2=>Ko fu call a0 a1 a2 a3 a4 (fu) (a0) (a1) (a4) x1 x2) (Ae C0 Tryz.prog fu d):=by kernel_rfl
abbrev Rz:FuncId:=106
theorem Acj (fu d:Nat)(a0 a1_0:Int)(a1_1 a1_2:Int)(a1_3 a1_4:Int)(a1_5 a1_6:Int)(a1_7 Bal:Int)(A90 A57:Int)(A54 A5t:Int)(A5r A5w:Int)(A52 A5n A5v:Int):Ae C0 Tryz.prog fu (d+1) Rz [.sc (.int .i64 a0),.agg [.sc (.int .u64 a1_0),.sc (.int .u64 a1_1),.sc (.int .u64 a1_2),.sc (.int .u64 a1_3),.sc (.int .u64 a1_4),.sc (.int .u64 a1_5),.sc (.int .u64 a1_6),.sc (.int .u64 a1_7),.sc (.int .u64 Bal),.sc (.int .u64 A90),.sc (.int .u64 A57),.sc (.int .u64 A54),.sc (.int .u64 A5t),.sc (.int .u64 A5r),.sc (.int .u64 A5w),.sc (.int .u64 A52),.sc (.int .u64 A5n),.sc (.int .u64 A5v)]]=(fun (call:Am)=>Aa (IntKind.wrap .u64 a0) fun x1=>Ag (call 108 [.lst false 1 19 [.sc (.int .u64 x1),.sc (.int .u64 a1_0),.sc (.int .u64 a1_1),.sc (.int .u64 a1_2),.sc (.int .u64 a1_3),.sc (.int .u64 a1_4),.sc (.int .u64 a1_5),.sc (.int .u64 a1_6),.sc (.int .u64 a1_7),.sc (.int .u64 Bal),.sc (.int .u64 A90),.sc (.int .u64 A57),.sc (.int .u64 A54),.sc (.int .u64 A5t),.sc (.int .u64 A5r),.sc (.int .u64 A5w),.sc (.int .u64 A52),.sc (.int .u64 A5n),.sc (.int .u64 A5v)]]) fun x2 x3=>Ac x3<|Ab x2 fun x4 x5=>Dk 1 x4 fun x6 x7=>Ac x5<|Aq (decide (0+x6*1<=List.length x7))<|Ag (call 107 [.sc (.int .i64 2),.lst false 1 x6 (List.take (x6*1) (List.drop 0 x7))]) fun x8 x9=>Ac x9<|Ab x8 fun Cd Bp=>Af .u64 Cd fun C4=>Ac Bp<|some (Ay.mk [.sc (.int .u64 C4)] [])) (Ae C0 Tryz.prog fu d):=by kernel_rfl
abbrev Sc:FuncId:=84
noncomputable def E6 (fu:Nat)(call:Am)(a0 a1:Int)(a2n:Nat)(a2:List PV)(nn:Nat)(y0:Int)(y1:Nat)(y2:List PV)(y3 y4:Int)(y5 y6:Int)(y7 y8:Int)(y9 y10:Int)(Gc H4:Int)(Wq y14:Int)(y15 y16:Int)(y17 y18:Int)(y19 y20 y21:Int)(y22:List PV):Option Ay:=Db C0 Tryz.prog fu call 84 Tryz.f84 (Ch Tryz.f84) [.sc (.int .i64 a0),.sc (.int .u64 a1),.lst false 1 a2n a2] [.r,.r,.r,.l,.r,.l] nn ⟨lk [(0,(.sc (.int .i64 y0))),(2,(.lst false 1 y1 y2)),(8,(.ptr 8 0)),(15,(.agg [(.sc (.int .i64 y3)),(.sc (.int .i64 y4)),(.sc (.int .i64 y5)),(.sc (.int .i64 y6)),(.sc (.int .i64 y7)),(.sc (.int .i64 y8)),(.sc (.int .i64 y9)),(.sc (.int .i64 y10)),(.sc (.int .i64 Gc)),(.sc (.int .i64 H4)),(.sc (.int .i64 Wq)),(.sc (.int .i64 y14)),(.sc (.int .i64 y15)),(.sc (.int .i64 y16)),(.sc (.int .i64 y17)),(.sc (.int .i64 y18)),(.sc (.int .i64 y19)),(.sc (.int .i64 y20))])),(16,(.sc (.int .i64 y21)))],Gn [(8,(.ar false y22))]⟩
noncomputable def Qf (fu:Nat)(call:Am)(a0 a1:Int)(a2n:Nat)(a2:List PV)(nn:Nat)(y0:Int)(y1:List PV):Option Ay:=Db C0 Tryz.prog fu call 84 Tryz.f84 (Ch Tryz.f84) [.sc (.int .i64 a0),.sc (.int .u64 a1),.lst false 1 a2n a2] [.r,.r,.r] nn ⟨lk [(0,(.sc (.int .i64 y0))),(8,(.ptr 8 0))],Gn [(8,(.ar false y1))]⟩
noncomputable def Ql (fu:Nat)(call:Am)(a0 a1:Int)(a2n:Nat)(a2:List PV)(nn:Nat)(y0 y1:Int):Option Ay:=Db C0 Tryz.prog fu call 84 Tryz.f84 (Ch Tryz.f84) [.sc (.int .i64 a0),.sc (.int .u64 a1),.lst false 1 a2n a2] [.r,.r,.r,.r] nn ⟨lk [(6,(.sc (.int .u64 y0))),(7,(.sc (.int .i64 y1)))],Gn []⟩
theorem Nk (fu:Nat)(call:Am)(a0 a1:Int)(a2n:Nat)(a2:List PV)(nn:Nat)(y0:Int)(y1:Nat)(y2:List PV)(y3 y4:Int)(y5 y6:Int)(y7 y8:Int)(y9 y10:Int)(Gc H4:Int)(Wq y14:Int)(y15 y16:Int)(y17 y18:Int)(y19 y20 y21:Int)(y22:List PV):E6 fu call a0 a1 a2n a2 (nn+1) y0 y1 y2 y3 y4 y5 y6 y7 y8 y9 y10 Gc H4 Wq y14 y15 y16 y17 y18 y19 y20 y21 y22=(A4 (decide (y21<18)) (Aq (decide (0<=y21)&&decide (y21<18)&&true)<|Af .i64 (List.getD [.sc (.int .i64 y3),.sc (.int .i64 y4),.sc (.int .i64 y5),.sc (.int .i64 y6),.sc (.int .i64 y7),.sc (.int .i64 y8),.sc (.int .i64 y9),.sc (.int .i64 y10),.sc (.int .i64 Gc),.sc (.int .i64 H4),.sc (.int .i64 Wq),.sc (.int .i64 y14),.sc (.int .i64 y15),.sc (.int .i64 y16),.sc (.int .i64 y17),.sc (.int .i64 y18),.sc (.int .i64 y19),.sc (.int .i64 y20)] (Int.toNat y21*1) .top) fun Uv=>Aq (decide (0<=y21)&&decide (y21<(↑y1:Int)))<|Af .u64 (List.getD y2 (Int.toNat y21*1) .top) fun Oe=>Ag (call 105 [.sc (.int .i64 y0),.sc (.int .i64 y21),.sc (.int .i64 Uv),.sc (.int .i64 15),.sc (.int .u64 Oe)]) fun Ro V9=>Ac V9<|Ab Ro fun Uq Q7=>Af .u64 Uq fun S6=>Ac Q7<|Aq (decide (0<=y21)&&decide (y21<18))<|Aq (decide (0+Int.toNat y21*1+1<=List.length y22))<|Aa (B8 y22 [.sc (.int .u64 S6)] (0+Int.toNat y21*1)) fun S1=>Aa (IntKind.wrap .i64 (y21+1)) fun Ty=>E6 fu call a0 a1 a2n a2 (nn) (y0) (y1) (y2) (y3) (y4) (y5) (y6) (y7) (y8) (y9) (y10) (Gc) (H4) (Wq) (y14) (y15) (y16) (y17) (y18) (y19) (y20) Ty S1) (Qf fu call a0 a1 a2n a2 (fu) (y0) (y22))):=by kernel_rfl
theorem Ya (fu:Nat)(call:Am)(a0 a1:Int)(a2n:Nat)(a2:List PV)(nn:Nat)(hnn:0<nn)(y0:Int)(y1:List PV):Qf fu call a0 a1 a2n a2 nn y0 y1=(Af .u64 (List.getD y1 0 .top) fun Up=>Af .u64 (List.getD y1 1 .top) fun Us=>Af .u64 (List.getD y1 2 .top) fun Q8=>Af .u64 (List.getD y1 3 .top) fun Ws=>Af .u64 (List.getD y1 4 .top) fun Wj=>Af .u64 (List.getD y1 5 .top) fun Ur=>Af .u64 (List.getD y1 6 .top) fun V1=>Af .u64 (List.getD y1 7 .top) fun Wu=>Af .u64 (List.getD y1 8 .top) fun V7=>Af .u64 (List.getD y1 9 .top) fun Wt=>Af .u64 (List.getD y1 10 .top) fun Za=>Af .u64 (List.getD y1 11 .top) fun x80=>Af .u64 (List.getD y1 12 .top) fun x81=>Af .u64 (List.getD y1 13 .top) fun x82=>Af .u64 (List.getD y1 14 .top) fun x83=>Af .u64 (List.getD y1 15 .top) fun Z9=>Af .u64 (List.getD y1 16 .top) fun x85=>Af .u64 (List.getD y1 17 .top) fun x86=>Ag (call 106 [.sc (.int .i64 y0),.agg [.sc (.int .u64 Up),.sc (.int .u64 Us),.sc (.int .u64 Q8),.sc (.int .u64 Ws),.sc (.int .u64 Wj),.sc (.int .u64 Ur),.sc (.int .u64 V1),.sc (.int .u64 Wu),.sc (.int .u64 V7),.sc (.int .u64 Wt),.sc (.int .u64 Za),.sc (.int .u64 x80),.sc (.int .u64 x81),.sc (.int .u64 x82),.sc (.int .u64 x83),.sc (.int .u64 Z9),.sc (.int .u64 x85),.sc (.int .u64 x86)]]) fun x87 Rm=>Ac Rm<|Ab x87 fun S9 Vx=>Af .u64 S9 fun x91=>Ac Vx<|Ql fu call a0 a1 a2n a2 (fu) x91 0):=by cases nn with|zero=>exact absurd hnn (Nat.lt_irrefl 0)|succ nn=>kernel_rfl
theorem W1 (fu:Nat)(call:Am)(a0 a1:Int)(a2n:Nat)(a2:List PV)(nn:Nat)(hnn:0<nn)(y0 y1:Int):Ql fu call a0 a1 a2n a2 nn y0 y1=(some (Ay.mk [.sc (.int .u64 y0),.sc (.int .i64 y1)] [])):=by cases nn with|zero=>exact absurd hnn (Nat.lt_irrefl 0)|succ nn=>kernel_rfl
theorem Ac7 (fu d:Nat)(a0 a1:Int)(a2n:Nat)(a2:List PV):Ae C0 Tryz.prog fu (d+1) Sc [.sc (.int .i64 a0),.sc (.int .u64 a1),.lst false 1 a2n a2]=(fun (call:Am)=>A4 ((↑a2n:Int) != 18) (some (Ay.mk [.sc (.int .u64 0),.sc (.int .i64 4)] [])) (Ag (call 104 [.sc (.int .u64 a1)]) fun x1 x2=>Ac x2<|Ab x1 fun x3 x4=>Cu x3 fun x5=>Ab x5 fun x6 x7=>Af .i64 x6 fun x8=>Ab x7 fun x9 Cd=>Af .i64 x9 fun Bp=>Ab Cd fun C4 Da=>Af .i64 C4 fun Cq=>Ab Da fun C9 Do=>Af .i64 C9 fun Du=>Ab Do fun D5 D7=>Af .i64 D5 fun Eh=>Ab D7 fun Fy Ci=>Af .i64 Fy fun Fn=>Ab Ci fun Ds Bx=>Af .i64 Ds fun Fc=>Ab Bx fun Ft Bk=>Af .i64 Ft fun Cg=>Ab Bk fun Hg Gf=>Af .i64 Hg fun Ie=>Ab Gf fun H0 Jn=>Af .i64 H0 fun Gt=>Ab Jn fun Ix M5=>Af .i64 Ix fun F0=>Ab M5 fun H5 Rh=>Af .i64 H5 fun R6=>Ab Rh fun L6 Rl=>Af .i64 L6 fun Pu=>Ab Rl fun Lx Q6=>Af .i64 Lx fun Rj=>Ab Q6 fun Oc Pw=>Af .i64 Oc fun Sd=>Ab Pw fun Pq Rx=>Af .i64 Pq fun Lz=>Ab Rx fun Py Rr=>Af .i64 Py fun Ts=>Ab Rr fun Pi Q9=>Af .i64 Pi fun S5=>Ac Q9<|Ac x4<|E6 fu call a0 a1 a2n a2 (fu) (a0) (a2n) (a2) x8 Bp Cq Du Eh Fn Fc Cg Ie Gt F0 R6 Pu Rj Sd Lz Ts S5 0 ([.sc (.int .u64 0),.sc (.int .u64 0),.sc (.int .u64 0),.sc (.int .u64 0),.sc (.int .u64 0),.sc (.int .u64 0),.sc (.int .u64 0),.sc (.int .u64 0),.sc (.int .u64 0),.sc (.int .u64 0),.sc (.int .u64 0),.sc (.int .u64 0),.sc (.int .u64 0),.sc (.int .u64 0),.sc (.int .u64 0),.sc (.int .u64 0),.sc (.int .u64 0),.sc (.int .u64 0)]))) (Ae C0 Tryz.prog fu d):=by kernel_rfl
abbrev Yj:FuncId:=81
theorem Ajj (fu d:Nat)(a0:Int):Ae C0 Tryz.prog fu (d+1) Yj [.sc (.int .i64 a0)]=(fun (call:Am)=>A4 (decide (a0<0)) (some (Ay.mk [.sc (.bool true)] [])) (some (Ay.mk [.sc (.bool (decide (a0>4)))] []))) (Ae C0 Tryz.prog fu d):=by kernel_rfl
abbrev Rw:FuncId:=82
theorem Adp (fu d:Nat)(a0 a1:Int):Ae C0 Tryz.prog fu (d+1) Rw [.sc (.int .i64 a0),.sc (.int .i64 a1)]=(fun (call:Am)=>A4 (decide (a0<0)) (some (Ay.mk [.sc (.bool true)] [])) (Aq (decide (0<=a1))<|Aa (Fb .i64 1 a1) fun x1=>some (Ay.mk [.sc (.bool (decide (a0>=x1)))] []))) (Ae C0 Tryz.prog fu d):=by kernel_rfl
abbrev V3:FuncId:=83
noncomputable def Hc (fu:Nat)(call:Am)(a0n:Nat)(a0:List PV)(nn y0:Nat)(y1:List PV)(y2:Nat)(y3 y4:Int)(y5:List PV):Option Ay:=Db C0 Tryz.prog fu call 83 Tryz.f83 (Ch Tryz.f83) [.lst false 1 a0n a0] [.r,.r,.l,.r,.l] nn ⟨lk [(0,(.lst false 1 y0 y1)),(3,(.view 3 1 0 y2)),(12,(.sc (.int .i64 y3))),(13,(.sc (.int .i64 y4)))],Gn [(3,(.ar false y5))]⟩
noncomputable def I1 (fu:Nat)(call:Am)(a0n:Nat)(a0:List PV)(m0 nn y0:Nat)(y1:List PV)(y2:Nat)(y3 y4 y5:Int)(y6:Nat)(y7:List PV)(y8 y9:Int)(y10:List PV):Option Ay:=Db C0 Tryz.prog fu call 83 Tryz.f83 (Ch Tryz.f83) [.lst false 1 a0n a0] [.r,.r,.l,.r,.l,.i m0,.r,.r,.l,.l,.r,.r,.l] nn ⟨lk [(0,(.lst false 1 y0 y1)),(3,(.view 3 1 0 y2)),(4,(.sc (.int .i64 y3))),(12,(.sc (.int .i64 y4))),(13,(.sc (.int .i64 y5))),(22,(.lst false 1 y6 y7)),(23,(.sc (.int .i64 y8))),(24,(.sc (.int .i64 y9)))],Gn [(3,(.ar false y10))]⟩
theorem Qt (fu:Nat)(call:Am)(a0n:Nat)(a0:List PV)(nn y0:Nat)(y1:List PV)(y2:Nat)(y3 y4:Int)(y5:List PV):Hc fu call a0n a0 (nn+1) y0 y1 y2 y3 y4 y5=(A4 (decide (y4<y3)) (Aa (IntKind.wrap .i64 (8*y4)) fun x2=>Aa (IntKind.wrap .i64 (8*y4)) fun x3=>Aa (IntKind.wrap .i64 (x3+8)) fun x4=>Aq (decide (0<=x2))<|Aq (decide (0<=x4))<|Aq (decide (Int.toNat x2<=Int.toNat x4)&&decide (Int.toNat x4<=y0))<|Aa (Int.toNat x4-Int.toNat x2) fun x5=>Aa (List.take (x5*1) (List.drop (Int.toNat x2*1) y1)) fun x6=>I1 fu call a0n a0 nn (fu) (y0) (y1) (y2) (y4) (y3) (y4) x5 x6 ((↑x5:Int)) 0 (y5)) (Aq (decide (y2*1<=List.length y5))<|some (Ay.mk [.own 1 y2 (List.take (y2*1) y5)] []))):=by kernel_rfl
theorem Qk (fu:Nat)(call:Am)(a0n:Nat)(a0:List PV)(m0 nn y0:Nat)(y1:List PV)(y2:Nat)(y3 y4 y5:Int)(y6:Nat)(y7:List PV)(y8 y9:Int)(y10:List PV):I1 fu call a0n a0 m0 (nn+1) y0 y1 y2 y3 y4 y5 y6 y7 y8 y9 y10=(A4 (decide (y9<y8)) (Aq (decide (0<=y9)&&decide (y9<(↑y6:Int)))<|Af .u8 (List.getD y7 (Int.toNat y9*1) .top) fun x7=>Aq (decide (0<=y3)&&decide (y3<(↑y2:Int)))<|Af .u64 (List.getD y10 (0+Int.toNat y3*1) .top) fun x8=>Aa (Fb .u64 x8 8) fun x9=>Aa (IntKind.wrap .u64 x7) fun Cd=>Aa (Y9 .u64 x9 Cd) fun Bp=>Aq (decide (0<=y3)&&decide (y3<(↑y2:Int)))<|Aq (decide (0+Int.toNat y3*1+1<=List.length y10))<|Aa (B8 y10 [.sc (.int .u64 Bp)] (0+Int.toNat y3*1)) fun C4=>Aa (IntKind.wrap .i64 (y9+1)) fun Da=>I1 fu call a0n a0 m0 (nn) (y0) (y1) (y2) (y3) (y4) (y5) (y6) (y7) (y8) Da C4) (Aa (IntKind.wrap .i64 (y5+1)) fun Cq=>Hc fu call a0n a0 (m0) (y0) (y1) (y2) (y4) Cq (y10))):=by kernel_rfl
theorem Ahl (fu d a0n:Nat)(a0:List PV):Ae C0 Tryz.prog fu (d+1) V3 [.lst false 1 a0n a0]=(fun (call:Am)=>Aa (IntKind.wrap .i64 (Int.tdiv (↑a0n:Int) 8)) fun x1=>Aq (decide (0<=x1)&&decide (x1<=x1)&&decide (x1*8<=1099511627776)&&decide (x1<=1099511627776))<|Hc fu call a0n a0 (fu) (a0n) (a0) (Int.toNat x1) ((↑(Int.toNat x1):Int)) 0 (Wr (Int.toNat x1) [.sc (.int .u64 0)])) (Ae C0 Tryz.prog fu d):=by kernel_rfl
abbrev Td:FuncId:=85
theorem Ae7 (fu d:Nat)(a0 a1 a2:Int):Ae C0 Tryz.prog fu (d+1) Td [.sc (.int .i64 a0),.sc (.int .u64 a1),.sc (.int .u64 a2)]=(fun (call:Am)=>Aa (IntKind.wrap .u64 a0) fun x1=>Ag (call 108 [.lst false 1 3 [.sc (.int .u64 x1),.sc (.int .u64 a1),.sc (.int .u64 a2)]]) fun x2 x3=>Ac x3<|Ab x2 fun x4 x5=>Dk 1 x4 fun x6 x7=>Ac x5<|Aq (decide (0+x6*1<=List.length x7))<|Ag (call 107 [.sc (.int .i64 3),.lst false 1 x6 (List.take (x6*1) (List.drop 0 x7))]) fun x8 x9=>Ac x9<|Ab x8 fun Cd Bp=>Af .u64 Cd fun C4=>Ac Bp<|some (Ay.mk [.sc (.int .u64 C4)] [])) (Ae C0 Tryz.prog fu d):=by kernel_rfl
abbrev Ow:FuncId:=123
theorem Zs (fu d:Nat)(a0_0 a0_1:Int):Ae C0 Tryz.prog fu (d+1) Ow [.agg [.sc (.int .i64 a0_0),.sc (.int .u64 a0_1)]]=(fun (call:Am)=>Ag (call 81 [.sc (.int .i64 a0_0)]) fun x1 x2=>Ac x2<|Ab x1 fun x3 x4=>Bz x3 fun x5=>Ac x4<|A4 x5 (some (Ay.mk [.own 1 0 [],.sc (.int .i64 9)] [])) (Aa (IntKind.wrap .u8 a0_0) fun x6=>Ag (call 108 [.lst false 1 1 [.sc (.int .u64 a0_1)]]) fun x7 x8=>Ac x8<|Ab x7 fun x9 Cd=>Dk 1 x9 fun Bp C4=>Ac Cd<|Aq (decide (0+Bp*1<=List.length C4))<|Aq (decide (List.length (List.take (Bp*1) (List.drop 0 C4))=Bp*1)&&decide ((1+Bp)*1<=1099511627776)&&decide (1+Bp<=1099511627776))<|Aa (1+Bp) fun Da=>Aa ([.sc (.int .u8 x6)]++List.take (Bp*1) (List.drop 0 C4)) fun Cq=>Aq (decide (Da*1<=List.length Cq))<|some (Ay.mk [.own 1 Da (List.take (Da*1) Cq),.sc (.int .i64 0)] []))) (Ae C0 Tryz.prog fu d):=by kernel_rfl
abbrev O6:FuncId:=88
theorem Zv (fu d a0n:Nat)(a0:List PV):Ae C0 Tryz.prog fu (d+1) O6 [.lst false 1 a0n a0]=(fun (call:Am)=>A4 ((↑a0n:Int) != 9) (some (Ay.mk [.agg [.sc (.int .i64 0),.sc (.int .u64 0)],.sc (.int .i64 2)] [])) (Aq (decide (0<(↑a0n:Int)))<|Af .u8 (List.getD a0 0 .top) fun x1=>Aa (IntKind.wrap .i64 x1) fun x2=>Ag (call 81 [.sc (.int .i64 x2)]) fun x3 x4=>Ac x4<|Ab x3 fun x5 x6=>Bz x5 fun x7=>Ac x6<|A4 x7 (some (Ay.mk [.agg [.sc (.int .i64 0),.sc (.int .u64 0)],.sc (.int .i64 2)] [])) (Aq (decide (0<(↑a0n:Int)))<|Af .u8 (List.getD a0 0 .top) fun x8=>Aa (IntKind.wrap .i64 x8) fun x9=>Aq (decide (1<=a0n)&&decide (a0n<=a0n))<|Aa (a0n-1) fun Cd=>Aa (List.take (Cd*1) (List.drop 1 a0)) fun Bp=>Ag (call 83 [.lst false 1 Cd Bp]) fun C4 Da=>Ac Da<|Ab C4 fun Cq C9=>Dk 1 Cq fun Do Du=>Ac C9<|Aq (decide (0<(↑Do:Int)))<|Af .u64 (List.getD Du 0 .top) fun D5=>some (Ay.mk [.agg [.sc (.int .i64 x9),.sc (.int .u64 D5)],.sc (.int .i64 0)] [])))) (Ae C0 Tryz.prog fu d):=by kernel_rfl
abbrev I3:FuncId:=112
theorem Rt (fu d:Nat)(a0_0:Int)(V2:Nat)(a0_1:List PV)(a0_2n:Nat)(a0_2:List PV):Ae C0 Tryz.prog fu (d+1) I3 [.agg [.sc (.int .i64 a0_0),.lst false 1 V2 a0_1,.lst false 1 a0_2n a0_2]]=(fun (call:Am)=>Ag (call 81 [.sc (.int .i64 (↑a0_2n:Int))]) fun x1 x2=>Ac x2<|Ab x1 fun x3 x4=>Bz x3 fun x5=>Ac x4<|A4 x5 (some (Ay.mk [.own 1 0 [],.sc (.int .i64 9)] [])) (Ag (call 82 [.sc (.int .i64 a0_0),.sc (.int .i64 (↑a0_2n:Int))]) fun x6 x7=>Ac x7<|Ab x6 fun x8 x9=>Bz x8 fun Cd=>Ac x9<|A4 Cd (some (Ay.mk [.own 1 0 [],.sc (.int .i64 9)] [])) (A4 ((↑V2:Int) != 18) (some (Ay.mk [.own 1 0 [],.sc (.int .i64 4)] [])) (Aa (IntKind.wrap .u8 a0_0) fun Bp=>Aa (IntKind.wrap .u8 (↑a0_2n:Int)) fun C4=>Ag (call 108 [.lst false 1 V2 a0_1]) fun Da Cq=>Ac Cq<|Ab Da fun C9 Do=>Dk 1 C9 fun Du D5=>Ac Do<|Aq (decide (0+Du*1<=List.length D5))<|Aq (decide (List.length (List.take (Du*1) (List.drop 0 D5))=Du*1)&&decide ((2+Du)*1<=1099511627776)&&decide (2+Du<=1099511627776))<|Aa (2+Du) fun D7=>Aa ([.sc (.int .u8 Bp),.sc (.int .u8 C4)]++List.take (Du*1) (List.drop 0 D5)) fun Eh=>Ag (call 108 [.lst false 1 a0_2n a0_2]) fun Fy Ci=>Ac Ci<|Ab Fy fun Fn Ds=>Dk 1 Fn fun Bx Fc=>Ac Ds<|Aq (decide (0+Bx*1<=List.length Fc))<|Aq (decide (D7*1<=List.length Eh)&&decide (List.length (List.take (Bx*1) (List.drop 0 Fc))=Bx*1)&&decide ((D7+Bx)*1<=1099511627776)&&decide (D7+Bx<=1099511627776))<|Aa (D7+Bx) fun Ft=>Aa (List.take (D7*1) Eh++List.take (Bx*1) (List.drop 0 Fc)) fun Bk=>Aq (decide (Ft*1<=List.length Bk))<|some (Ay.mk [.own 1 Ft (List.take (Ft*1) Bk),.sc (.int .i64 0)] []))))) (Ae C0 Tryz.prog fu d):=by kernel_rfl
abbrev I5:FuncId:=55
theorem Rb (fu d a0n:Nat)(a0:List PV):Ae C0 Tryz.prog fu (d+1) I5 [.lst false 1 a0n a0]=(fun (call:Am)=>A4 (decide ((↑a0n:Int)<2)) (some (Ay.mk [.agg [.sc (.int .i64 0),.own 1 0 [],.own 1 0 []],.sc (.int .i64 2)] [])) (Aq (decide (0<(↑a0n:Int)))<|Af .u8 (List.getD a0 0 .top) fun x1=>Aa (IntKind.wrap .i64 x1) fun x2=>Aq (decide (1<(↑a0n:Int)))<|Af .u8 (List.getD a0 1 .top) fun x3=>Aa (IntKind.wrap .i64 x3) fun x4=>Ag (call 81 [.sc (.int .i64 x4)]) fun x5 x6=>Ac x6<|Ab x5 fun x7 x8=>Bz x7 fun x9=>Ac x8<|A4 x9 (some (Ay.mk [.agg [.sc (.int .i64 0),.own 1 0 [],.own 1 0 []],.sc (.int .i64 2)] [])) (Ag (call 82 [.sc (.int .i64 x2),.sc (.int .i64 x4)]) fun Cd Bp=>Ac Bp<|Ab Cd fun C4 Da=>Bz C4 fun Cq=>Ac Da<|A4 Cq (some (Ay.mk [.agg [.sc (.int .i64 0),.own 1 0 [],.own 1 0 []],.sc (.int .i64 2)] [])) (Aa (IntKind.wrap .i64 (18+x4)) fun C9=>Aa (IntKind.wrap .i64 (8*C9)) fun Do=>Aa (IntKind.wrap .i64 (2+Do)) fun Du=>A4 ((↑a0n:Int) != Du) (some (Ay.mk [.agg [.sc (.int .i64 0),.own 1 0 [],.own 1 0 []],.sc (.int .i64 2)] [])) (Aq (decide (146<=a0n))<|Aa (List.take 144 (List.drop 2 a0)) fun D5=>Ag (call 83 [.lst false 1 144 D5]) fun D7 Eh=>Ac Eh<|Ab D7 fun Fy Ci=>Dk 1 Fy fun Fn Ds=>Ac Ci<|Aq (decide (146<=a0n)&&decide (a0n<=a0n))<|Aa (a0n-146) fun Bx=>Aa (List.take (Bx*1) (List.drop 146 a0)) fun Fc=>Ag (call 83 [.lst false 1 Bx Fc]) fun Ft Bk=>Ac Bk<|Ab Ft fun Cg Hg=>Dk 1 Cg fun Gf Ie=>Ac Hg<|Aq (decide (Fn*1<=List.length Ds))<|Aq (decide (Gf*1<=List.length Ie))<|some (Ay.mk [.agg [.sc (.int .i64 x2),.own 1 Fn (List.take (Fn*1) Ds),.own 1 Gf (List.take (Gf*1) Ie)],.sc (.int .i64 0)] [])))))) (Ae C0 Tryz.prog fu d):=by kernel_rfl
abbrev Ug:FuncId:=56
noncomputable def Gi (fu:Nat)(call:Am)(a0_0 a0_1:Int)(a1 Pj:Int)(Io:Nat)(Su:List PV)(Ii:Nat)(Tn:List PV)(nn:Nat)(y0:Int)(y1:Nat)(y2:List PV)(y3 y4:Int)(y5 y6 y7:Int)(y8:Nat)(y9:List PV)(y10:Nat)(Gc:List PV):Option Ay:=Db C0 Tryz.prog fu call 56 Tryz.f56 (Ch Tryz.f56) [.agg [.sc (.int .i64 a0_0),.sc (.int .u64 a0_1)],.sc (.int .u64 a1),.agg [.sc (.int .i64 Pj),.lst false 1 Io Su,.lst false 1 Ii Tn]] [.r,.r,.r,.r,.r,.l,.r,.l] nn ⟨lk [(3,(.ptr 3 0)),(5,(.ptr 5 0)),(7,(.sc (.int .u64 y0))),(46,(.lst false 1 y1 y2)),(47,(.sc (.int .i64 y3))),(48,(.sc (.int .i64 y4)))],Gn [(3,(.st [(.sc (.int .i64 y5)),(.sc (.int .u64 y6))])),(5,(.st [(.sc (.int .i64 y7)),(.lst false 1 y8 y9),(.lst false 1 y10 Gc)]))]⟩
theorem Ot (fu:Nat)(call:Am)(a0_0 a0_1:Int)(a1 Pj:Int)(Io:Nat)(Su:List PV)(Ii:Nat)(Tn:List PV)(nn:Nat)(y0:Int)(y1:Nat)(y2:List PV)(y3 y4:Int)(y5 y6 y7:Int)(y8:Nat)(y9:List PV)(y10:Nat)(Gc:List PV):Gi fu call a0_0 a0_1 a1 Pj Io Su Ii Tn (nn+1) y0 y1 y2 y3 y4 y5 y6 y7 y8 y9 y10 Gc=(A4 (decide (y4<y3)) (Aq (decide (0<=y4)&&decide (y4<(↑y1:Int)))<|Af .u64 (List.getD y2 (Int.toNat y4*1) .top) fun D7=>Aq (decide (0<=y4))<|Aa (Eg .i64 y7 y4) fun Eh=>Aa (E9 .i64 Eh 1) fun Fy=>A4 (Fy==0) (Aa (IntKind.wrap .i64 (y4+1)) fun Ci=>Ag (call 85 [.sc (.int .i64 Ci),.sc (.int .u64 y0),.sc (.int .u64 D7)]) fun Fn Ds=>Ac Ds<|Ab Fn fun Bx Fc=>Af .u64 Bx fun Ft=>Ac Fc<|Aa (IntKind.wrap .i64 (y4+1)) fun Bk=>Gi fu call a0_0 a0_1 a1 Pj Io Su Ii Tn (nn) Ft (y1) (y2) (y3) Bk (y5) (y6) (y7) (y8) (y9) (y10) (Gc)) (Aa (IntKind.wrap .i64 (y4+1)) fun Cg=>Ag (call 85 [.sc (.int .i64 Cg),.sc (.int .u64 D7),.sc (.int .u64 y0)]) fun Hg Gf=>Ac Gf<|Ab Hg fun Ie H0=>Af .u64 Ie fun Jn=>Ac H0<|Aa (IntKind.wrap .i64 (y4+1)) fun Gt=>Gi fu call a0_0 a0_1 a1 Pj Io Su Ii Tn (nn) Jn (y1) (y2) (y3) Gt (y5) (y6) (y7) (y8) (y9) (y10) (Gc))) (A4 (y0 != y6) (some (Ay.mk [.sc (.int .i64 15)] [])) (some (Ay.mk [.sc (.int .i64 0)] [])))):=by kernel_rfl
theorem Aer (fu d:Nat)(a0_0 a0_1:Int)(a1 Pj:Int)(Io:Nat)(Su:List PV)(Ii:Nat)(Tn:List PV):Ae C0 Tryz.prog fu (d+1) Ug [.agg [.sc (.int .i64 a0_0),.sc (.int .u64 a0_1)],.sc (.int .u64 a1),.agg [.sc (.int .i64 Pj),.lst false 1 Io Su,.lst false 1 Ii Tn]]=(fun (call:Am)=>Ag (call 81 [.sc (.int .i64 a0_0)]) fun x1 x2=>Ac x2<|Ab x1 fun x3 x4=>Bz x3 fun x5=>Ac x4<|A4 x5 (some (Ay.mk [.sc (.int .i64 9)] [])) (Ag (call 82 [.sc (.int .i64 Pj),.sc (.int .i64 a0_0)]) fun x6 x7=>Ac x7<|Ab x6 fun x8 x9=>Bz x8 fun Cd=>Ac x9<|A4 Cd (some (Ay.mk [.sc (.int .i64 9)] [])) (A4 ((↑Io:Int) != 18) (some (Ay.mk [.sc (.int .i64 4)] [])) (A4 ((↑Ii:Int) != a0_0) (some (Ay.mk [.sc (.int .i64 4)] [])) (Ag (call 84 [.sc (.int .i64 Pj),.sc (.int .u64 a1),.lst false 1 Io Su]) fun Bp C4=>Ac C4<|Ab Bp fun Da Cq=>Af .u64 Da fun C9=>Ab Cq fun Do Du=>Af .i64 Do fun D5=>Ac Du<|A4 (D5 != 0) (some (Ay.mk [.sc (.int .i64 D5)] [])) (Gi fu call a0_0 a0_1 a1 Pj Io Su Ii Tn (fu) C9 (Ii) (Tn) ((↑Ii:Int)) 0 (a0_0) (a0_1) (Pj) (Io) (Su) (Ii) (Tn))))))) (Ae C0 Tryz.prog fu d):=by kernel_rfl
end
section
theorem Az8 {a m:Int}(h0:0<=m)(h1:m<=18446744073709551615):0<=E9 .u64 a m∧E9 .u64 a m<=m:=by
 have hle:(BitVec.ofInt 64 a &&& BitVec.ofInt 64 m).toNat<=m.toNat:=by
  rw [BitVec.toNat_and];refine Nat.le_trans Nat.and_le_right ?_;rw [BitVec.toNat_ofInt];omega
 have:E9 .u64 a m=((BitVec.ofInt 64 a &&& BitVec.ofInt 64 m).toNat:Int):=by
  unfold E9;exact B6 (by omega) (by show ((BitVec.ofInt 64 a &&& BitVec.ofInt 64 m).toNat:Int)<=_;omega)
 rw [this];omega
theorem Xg (k:IntKind)(l:List Int)(i:Nat)(x:Int):(Ah k l).set i (.sc (.int k x))=Ah k (l.set i x):=by
 induction l generalizing i with
 |nil=>rfl
 |cons a l ih=>
  cases i with
  |zero=>rfl
  |succ i=>
   show (PV.sc (.int k a)::Ah k l).set (i+1) _=PV.sc (.int k a)::Ah k (l.set i x);rw [List.set_cons_succ,ih]
theorem Ar3 (w:Int)(k:Nat):0<=Dt w k∧Dt w k<=255:=by
 unfold Dt;simp only [IntKind.wrap,IntKind.signed,IntKind.bits];simp;omega
theorem Y0 (w:Int):Hf (Ca w):=by
 intro x hx;obtain ⟨k,_,rfl⟩:=List.mem_map.1 hx;exact Ar3 w k
theorem Tr (ws:List Int):Hf (A6 ws):=by
 intro x hx;obtain ⟨w,_,hx⟩:=List.mem_flatMap.1 hx;exact Y0 w x hx
theorem C7 (ws:List Int):(A6 ws).length=8*ws.length:=by
 induction ws with
 |nil=>rfl
 |cons w ws ih=>
  show (Ca w++A6 ws).length=_;rw [Hz,ih,Cw,Iw];omega
def Gr (m:Int)(k:Nat):Int:=IntKind.wrap .i64 (E9 .u64 (Eg .u64 m (60-4*(k:Int))) 15)
theorem Se (m:Int)(k:Nat):0<=Gr m k∧Gr m k<=15:=by
 have:=Az8 (a:=Eg .u64 m (60-4*(k:Int))) (m:=15) (by omega) (by omega)
 unfold Gr;rw [Ap (by omega) (by omega)]
 exact this
def J2 (m:Int):Nat->Int
 |0=>0
 |k+1=>J2 m k+(15-Gr m k)
theorem J4 (m:Int):∀k,0<=J2 m k∧J2 m k<=15*k
 |0=>by simp [J2]
 |k+1=>by
  have h1:=J4 m k;have h2:=Se m k;simp only [J2];omega
def dgs (m:Int):List Int:=(List.range 16).map (Gr m)++[J2 m 16 / 16,J2 m 16 % 16]
def dg (m:Int)(k:Nat):Int:=(dgs m).getD k 0
theorem Av0 (m:Int):(dgs m).length=18:=rfl
theorem A3x {m x:Int}(h:x∈dgs m):0<=x∧x<=15:=by
 have hs:=J4 m 16;unfold dgs at h;rcases List.mem_append.1 h with h|h
 ·obtain ⟨k,_,rfl⟩:=List.mem_map.1 h;exact Se m k
 ·simp at h;rcases h with rfl|rfl<;>omega
theorem Yr (m:Int)(k:Nat):0<=dg m k∧dg m k<=15:=by
 unfold dg;rw [List.getD_eq_getElem?_getD];cases h:(dgs m)[k]? with
 |none=>simp
 |some x=>exact A3x (List.mem_of_getElem? h)
def dl (m:Int)(i:Nat):List Int:=(List.range i).map (Gr m)++List.replicate (18-i) 0
theorem Au9 (m:Int){i:Nat}(h:i<=18):(dl m i).length=18:=by simp [dl];omega
theorem Bao (m:Int){i:Nat}(h:i<18):(dl m (i+1))[i]?=some (Gr m i):=by
 unfold dl;rw [List.getElem?_append_left (by simp)]
 simp
theorem A9e (m:Int){i:Nat}(h:i<18):(dl m i).set i (Gr m i)=dl m (i+1):=by
 unfold dl;rw [List.set_append_right _ _ (by simp),List.length_map,List.length_range,Nat.sub_self,show 18-i=(18-(i+1))+1 by omega,List.replicate_succ,List.set_cons_zero,List.range_succ,List.map_append,Zzv]
 rfl
def Tb (leaf chain:Int):Nat->Int->Int->Int
 |0,_,x=>x
 |k+1,p,x=>Tb leaf chain k (p+1) (D8 1 (A6 [IntKind.wrap .u64 leaf,IntKind.wrap .u64 chain,IntKind.wrap .u64 p,x]))
theorem Ar9 (leaf chain:Int):∀(k j:Nat)(p x:Int),Tb leaf chain (k+j) p x=Tb leaf chain j (p+k) (Tb leaf chain k p x)
 |0,j,p,x=>by simp [Tb]
 |k+1,j,p,x=>by
  rw [show k+1+j=(k+j)+1 by omega]
  simp only [Tb];rw [Ar9 leaf chain k j]
  congr 1
  omega
def Agf (leaf:Int)(E:List Int):Int:=D8 2 (A6 (IntKind.wrap .u64 leaf::E))
def Zq (leaf m:Int)(s:List Int)(k:Nat):Int:=Tb leaf k (15-dg m k).toNat (dg m k) (s.getD k 0)
def Ai5 (leaf m:Int)(s:List Int):List Int:=(List.range 18).map (Zq leaf m s)
def Alv (leaf m:Int)(s:List Int):Int:=Agf leaf (Ai5 leaf m s)
def el (leaf m:Int)(s:List Int)(i:Nat):List Int:=(List.range i).map (Zq leaf m s)++List.replicate (18-i) 0
theorem A2h (leaf m:Int)(s:List Int){i:Nat}(h:i<=18):(el leaf m s i).length=18:=by simp [el];omega
theorem A83 (leaf m:Int)(s:List Int){i:Nat}(h:i<18):(el leaf m s i).set i (Zq leaf m s i)=el leaf m s (i+1):=by
 unfold el;rw [List.set_append_right _ _ (by simp),List.length_map,List.length_range,Nat.sub_self,show 18-i=(18-(i+1))+1 by omega,List.replicate_succ,List.set_cons_zero,List.range_succ,List.map_append,Zzv]
 rfl
theorem Bae (leaf m:Int)(s:List Int):el leaf m s 18=Ai5 leaf m s:=by
 unfold el Ai5;simp
end
section
set_option maxRecDepth 20000
section
variable {fu d:Nat}
theorem A1n {ws:List Int}(hl:ws.length<=100)(hfu:1000<=fu)(dom:Int):Ae C0 Tryz.prog fu (d+5) S3 [.sc (.int .i64 dom),.lst false 1 (A6 ws).length (Ah .u8 (A6 ws))]=some ⟨[.sc (.int .u64 (D8 dom (A6 ws)))],[]⟩:=
 Av1 (Tr ws) (by rw [C7];omega) (by omega) (by rw [C7];omega) dom
theorem Asg {leaf chain:Int}{a0 a1 a2 a3 a4:Int}(hfu:1000<=fu){t:Int}(ht:t<=15):∀(k nn:Nat)(p x:Int),(k:Int)=t-p->0<=p->k<nn ->
  Ko fu (Ae C0 Tryz.prog fu (d+5)) a0 a1 a2 a3 a4 nn leaf chain x t p=some ⟨[.sc (.int .u64 (Tb leaf chain k p x))],[]⟩
 |_,0,_,_,_,_,h=>by omega
 |0,nn+1,p,x,hk,hp,hn=>by
  rw [Ua,Dw _ _ _ (by omega)]
  rfl
 |k+1,nn+1,p,x,hk,hp,hn=>by
  have w:IntKind.wrap .i64 (p+1)=p+1:=Ap (by omega) (by omega)
  have wd:Ae C0 Tryz.prog fu (d+5) He [.lst false 1 4 [.sc (.int .u64 (IntKind.wrap .u64 leaf)),.sc (.int .u64 (IntKind.wrap .u64 chain)),.sc (.int .u64 (IntKind.wrap .u64 p)),.sc (.int .u64 x)]]=_:=Um (ws:=[IntKind.wrap .u64 leaf,IntKind.wrap .u64 chain,IntKind.wrap .u64 p,x]) (by simp) (by omega) (by simp;omega)
  have hs:=A1n (fu:=fu) (d:=d) (ws:=[IntKind.wrap .u64 leaf,IntKind.wrap .u64 chain,IntKind.wrap .u64 p,x]) (by simp) hfu 1
  have ih:=Asg (leaf:=leaf) (chain:=chain) (a0:=a0) (a1:=a1) (a2:=a2) (a3:=a3) (a4:=a4) hfu ht k nn (p+1) (D8 1 (A6 [IntKind.wrap .u64 leaf,IntKind.wrap .u64 chain,IntKind.wrap .u64 p,x])) (by omega) (by omega) (by omega)
  have L:=Al .u8 (A6 [IntKind.wrap .u64 leaf,IntKind.wrap .u64 chain,IntKind.wrap .u64 p,x]);have eR:Tb leaf chain (k+1) p x=Tb leaf chain k (p+1) (D8 1 (A6 [IntKind.wrap .u64 leaf,IntKind.wrap .u64 chain,IntKind.wrap .u64 p,x])):=rfl;rw [eR];generalize A6 [IntKind.wrap .u64 leaf,IntKind.wrap .u64 chain,IntKind.wrap .u64 p,x]=W at wd hs ih L ⊢;rw [Ua];simp (disch:=omega) only [B3,wd,Bj,Bw,Cf,Gs,L,hs,w];exact ih
theorem A8k {leaf chain:Int}(hfu:1000<=fu)(k:Nat)(f t x:Int)(hk:(k:Int)=t-f) (h0:0<=f)(h1:t<=15):Ae C0 Tryz.prog fu (d+6) Aai [.sc (.int .i64 leaf),.sc (.int .i64 chain),.sc (.int .i64 f),.sc (.int .i64 t),.sc (.int .u64 x)]=some ⟨[.sc (.int .u64 (Tb leaf chain k f x))],[]⟩:=by
 rw [Alg];simp only [Hj];rw [A0 (by omega),A0 (by omega)]
 exact Asg hfu h1 k fu f x hk h0 (by omega)
theorem Agu {call:Am}{a0 m:Int}{y3:List PV}:∀(k i nn:Nat),i+k=16->k<nn ->
  Gh fu call a0 nn m (J2 m i) i y3 (Ah .i64 (dl m i))=Gh fu call a0 (nn-k) m (J2 m 16) 16 y3 (Ah .i64 (dl m 16))
 |_,_,0,_,h=>by omega
 |0,i,nn+1,hi,hn=>by
  have e:i=16:=by omega
  subst e;rfl
 |k+1,i,nn+1,hi,hn=>by
  have ih:=Agu (call:=call) (a0:=a0) (y3:=y3) (m:=m) k (i+1) nn (by omega) (by omega)
  have hb:=Se m i;have hs:=J4 m i;have w:IntKind.wrap .i64 ((i:Int)+1)=((i+1:Nat):Int):=by rw [Ap (by omega) (by omega)];omega
  have w4:IntKind.wrap .i64 (4*(i:Int))=4*(i:Int):=Ap (by omega) (by omega)
  have w60:IntKind.wrap .i64 (60-4*(i:Int))=60-4*(i:Int):=Ap (by omega) (by omega)
  have hd:IntKind.wrap .i64 (E9 .u64 (Eg .u64 m (60-4*(i:Int))) 15)=Gr m i:=rfl;have w15:IntKind.wrap .i64 (15-Gr m i)=15-Gr m i:=Ap (by omega) (by omega)
  have ws:IntKind.wrap .i64 (J2 m i+(15-Gr m i))=J2 m (i+1):=by rw [Ap (by omega) (by omega)];rfl
  have L:(Ah .i64 (dl m i)).length=18:=by rw [Al,Au9 m (by omega)]
  have hset:B8 (Ah .i64 (dl m i)) [.sc (.int .i64 (Gr m i))] i=Ah .i64 (dl m (i+1)):=by
   rw [J1 (by omega),Xg,A9e m (by omega)]
  have hat:(Ah .i64 (dl m (i+1))).getD i .top=.sc (.int .i64 (Gr m i)):=Ps (Bao m (by omega))
  rw [show nn+1-(k+1)=nn-k by omega,←ih,Pc]
  simp (disch:=omega) only [B3,Hr,Bj,Bw,w,w4,w60,hd,L,hset,hat,w15,ws]
theorem Axa (hfu:1000<=fu)(m:Int):Ae C0 Tryz.prog fu (d+1) Uc [.sc (.int .u64 m)]=some ⟨[.agg (Ah .i64 (dgs m))],[]⟩:=by
 rw [Afl];have lp:=Agu (fu:=fu) (call:=Ae C0 Tryz.prog fu d) (a0:=m) (m:=m) (y3:=Ah .i64 (List.replicate 18 0)) 16 0 fu (by omega) (by omega)
 obtain ⟨f',hf'⟩:∃f',fu-16=f'+1:=⟨fu-17,by omega⟩
 rw [hf'] at lp;refine Eq.trans lp ?_;have hs:=J4 m 16
 have wq:IntKind.wrap .i64 (Int.tdiv (J2 m 16) 16)=J2 m 16 / 16:=by
  rw [Int.tdiv_eq_ediv_of_nonneg (by omega),Ap (by omega) (by omega)]
 have wm:Int.tmod (J2 m 16) 16=J2 m 16 % 16:=Int.tmod_eq_emod_of_nonneg (by omega)
 have L:(Ah .i64 (dl m 16)).length=18:=by rw [Al,Au9 m (by omega)]
 have h1:B8 (Ah .i64 (dl m 16)) [.sc (.int .i64 (J2 m 16 / 16))] 16=Ah .i64 ((dl m 16).set 16 (J2 m 16 / 16)):=by
  rw [J1 (by omega),Xg]
 have L2:(Ah .i64 ((dl m 16).set 16 (J2 m 16 / 16))).length=18:=by rw [Al,List.length_set,Au9 m (by omega)]
 have h2:B8 (Ah .i64 ((dl m 16).set 16 (J2 m 16 / 16))) [.sc (.int .i64 (J2 m 16 % 16))] 17=Ah .i64 (dgs m):=by
  rw [J1 (by omega),Xg]
  rfl
 rw [Pc,Dw _ _ _ (by omega)]
 simp only [Hj,wq,wm,L,h1,L2,h2];generalize hq:J2 m 16 / 16=q at *
 generalize hr:J2 m 16 % 16=r at *
 have hD:Ah .i64 (dgs m)=[.sc (.int .i64 (Gr m 0)),.sc (.int .i64 (Gr m 1)),.sc (.int .i64 (Gr m 2)),.sc (.int .i64 (Gr m 3)),.sc (.int .i64 (Gr m 4)),.sc (.int .i64 (Gr m 5)),.sc (.int .i64 (Gr m 6)),.sc (.int .i64 (Gr m 7)),.sc (.int .i64 (Gr m 8)),.sc (.int .i64 (Gr m 9)),.sc (.int .i64 (Gr m 10)),.sc (.int .i64 (Gr m 11)),.sc (.int .i64 (Gr m 12)),.sc (.int .i64 (Gr m 13)),.sc (.int .i64 (Gr m 14)),.sc (.int .i64 (Gr m 15)),.sc (.int .i64 q),.sc (.int .i64 r)]:=by
  unfold dgs;rw [hq,hr];rfl
 rw [hD];have hr18:(Ah .i64 (List.replicate 18 0)).length=18:=rfl
 have hsp:∀c:List PV,c.length=18->B8 (Ah .i64 (List.replicate 18 0)) c 0=c:=by
  intro c hc;unfold B8;rw [hc,List.drop_of_length_le (by rw [hr18];omega)]
  simp
 rw [Z4 (hnn:=by omega)]
 simp only [B3,List.getD_cons_zero,List.getD_cons_succ,hr18];rw [hsp _ rfl];simp (disch:=omega) only [B3,Zg,List.getD_cons_zero,List.getD_cons_succ]
theorem Auj (hfu:1000<=fu)(leaf:Int){E:List Int}(hE:E.length=18):Ae C0 Tryz.prog fu (d+6) Rz [.sc (.int .i64 leaf),.agg (Ah .u64 E)]=some ⟨[.sc (.int .u64 (Agf leaf E))],[]⟩:=by
 match E,hE with
 |[e0,e1,e2,e3,e4,e5,e6,e7,e8,e9,e10,e11,e12,e13,e14,e15,e16,e17],_=>
  have wd:Ae C0 Tryz.prog fu (d+5) He [.lst false 1 19 [.sc (.int .u64 (IntKind.wrap .u64 leaf)),.sc (.int .u64 e0),.sc (.int .u64 e1),.sc (.int .u64 e2),.sc (.int .u64 e3),.sc (.int .u64 e4),.sc (.int .u64 e5),.sc (.int .u64 e6),.sc (.int .u64 e7),.sc (.int .u64 e8),.sc (.int .u64 e9),.sc (.int .u64 e10),.sc (.int .u64 e11),.sc (.int .u64 e12),.sc (.int .u64 e13),.sc (.int .u64 e14),.sc (.int .u64 e15),.sc (.int .u64 e16),.sc (.int .u64 e17)]]=_:=Um (ws:=IntKind.wrap .u64 leaf::[e0,e1,e2,e3,e4,e5,e6,e7,e8,e9,e10,e11,e12,e13,e14,e15,e16,e17]) (by simp) (by omega) (by simp;omega)
  have hs:=A1n (fu:=fu) (d:=d) (ws:=IntKind.wrap .u64 leaf::[e0,e1,e2,e3,e4,e5,e6,e7,e8,e9,e10,e11,e12,e13,e14,e15,e16,e17]) (by simp) hfu 2
  have L:=Al .u8 (A6 (IntKind.wrap .u64 leaf::[e0,e1,e2,e3,e4,e5,e6,e7,e8,e9,e10,e11,e12,e13,e14,e15,e16,e17]));have eR:Agf leaf [e0,e1,e2,e3,e4,e5,e6,e7,e8,e9,e10,e11,e12,e13,e14,e15,e16,e17]=D8 2 (A6 (IntKind.wrap .u64 leaf::[e0,e1,e2,e3,e4,e5,e6,e7,e8,e9,e10,e11,e12,e13,e14,e15,e16,e17])):=rfl;rw [eR];generalize A6 (IntKind.wrap .u64 leaf::[e0,e1,e2,e3,e4,e5,e6,e7,e8,e9,e10,e11,e12,e13,e14,e15,e16,e17])=W at wd hs L ⊢;refine (Acj fu (d+5) leaf e0 e1 e2 e3 e4 e5 e6 e7 e8 e9 e10 e11 e12 e13 e14 e15 e16 e17).trans ?_;simp (disch:=omega) only [B3,wd,Bj,Bw,Cf,Gs,L,hs]
theorem A96 (g:Nat->Int){i:Nat}(hi:i<18):List.getD [PV.sc (.int .i64 (g 0)),PV.sc (.int .i64 (g 1)),PV.sc (.int .i64 (g 2)),PV.sc (.int .i64 (g 3)),PV.sc (.int .i64 (g 4)),PV.sc (.int .i64 (g 5)),PV.sc (.int .i64 (g 6)),PV.sc (.int .i64 (g 7)),PV.sc (.int .i64 (g 8)),PV.sc (.int .i64 (g 9)),PV.sc (.int .i64 (g 10)),PV.sc (.int .i64 (g 11)),PV.sc (.int .i64 (g 12)),PV.sc (.int .i64 (g 13)),PV.sc (.int .i64 (g 14)),PV.sc (.int .i64 (g 15)),PV.sc (.int .i64 (g 16)),PV.sc (.int .i64 (g 17))] i PV.top=.sc (.int .i64 (g i)):=by
 have:((List.range 18).map g)[i]?=some (g i):=by simp [hi]
 exact Ps (k:=.i64) this
theorem Adt {a0 a1:Int}{a2n:Nat}{a2:List PV}{leaf m:Int}{s:List Int}(hs:s.length=18)(hfu:1000<=fu)(g:Nat->Int)(hg:∀k,g k=dg m k):∀(k i nn:Nat),i+k=18->k<nn ->
  E6 fu (Ae C0 Tryz.prog fu (d+6)) a0 a1 a2n a2 nn leaf s.length (Ah .u64 s) (g 0) (g 1) (g 2) (g 3) (g 4) (g 5) (g 6) (g 7) (g 8) (g 9) (g 10) (g 11) (g 12) (g 13) (g 14) (g 15) (g 16) (g 17) i (Ah .u64 (el leaf m s i)) =
   E6 fu (Ae C0 Tryz.prog fu (d+6)) a0 a1 a2n a2 (nn-k) leaf s.length (Ah .u64 s) (g 0) (g 1) (g 2) (g 3) (g 4) (g 5) (g 6) (g 7) (g 8) (g 9) (g 10) (g 11) (g 12) (g 13) (g 14) (g 15) (g 16) (g 17) 18 (Ah .u64 (el leaf m s 18))
 |_,_,0,_,h=>by omega
 |0,i,nn+1,hi,hn=>by
  have e:i=18:=by omega
  subst e;rfl
 |k+1,i,nn+1,hi,hn=>by
  have ih:=Adt (a0:=a0) (a1:=a1) (a2n:=a2n) (a2:=a2) (leaf:=leaf) (m:=m) hs hfu g hg k (i+1) nn (by omega) (by omega)
  obtain ⟨x,hx⟩:∃x,s[i]?=some x:=⟨_,List.getElem?_eq_getElem (by omega)⟩
  have hb:=Yr m i;have hgi:=A96 g (i:=i) (by omega)
  have w:IntKind.wrap .i64 ((i:Int)+1)=((i+1:Nat):Int):=by rw [Ap (by omega) (by omega)];omega
  have rn:=A8k (fu:=fu) (d:=d) (leaf:=leaf) (chain:=i) hfu (15-dg m i).toNat (g i) 15 x (by rw [hg];omega) (by rw [hg];omega) (by omega)
  have ev:Tb leaf i (15-dg m i).toNat (g i) x=Zq leaf m s i:=by
   unfold Zq;rw [List.getD_eq_getElem?_getD,hx,hg];rfl
  rw [ev] at rn;have L:(Ah .u64 (el leaf m s i)).length=18:=by rw [Al,A2h leaf m s (by omega)]
  have hset:B8 (Ah .u64 (el leaf m s i)) [.sc (.int .u64 (Zq leaf m s i))] i=Ah .u64 (el leaf m s (i+1)):=by
   rw [J1 (by omega),Xg,A83 leaf m s (by omega)]
  rw [show nn+1-(k+1)=nn-k by omega,←ih,Nk]
  simp (disch:=omega) only [B3,Hr,Bj,Bw,hgi,Ps hx,rn,L,hset,w]
theorem Asp (hfu:1000<=fu){a0 a1 leaf:Int}{a2n n nn:Nat}{a2 c:List PV}{g:Nat->Int}{E:List Int}(hE:E.length=18):
  E6 fu (Ae C0 Tryz.prog fu (d+6)) a0 a1 a2n a2 (nn+1) leaf n c (g 0) (g 1) (g 2) (g 3) (g 4) (g 5) (g 6) (g 7) (g 8) (g 9) (g 10) (g 11) (g 12) (g 13) (g 14) (g 15) (g 16) (g 17) 18 (Ah .u64 E)=some ⟨[.sc (.int .u64 (Agf leaf E)),.sc (.int .i64 0)],[]⟩:=by
 match E,hE with
 |[e0,e1,e2,e3,e4,e5,e6,e7,e8,e9,e10,e11,e12,e13,e14,e15,e16,e17],hE=>
  have cb:=Auj (fu:=fu) (d:=d) hfu leaf hE;have hc:Ah .u64 [e0,e1,e2,e3,e4,e5,e6,e7,e8,e9,e10,e11,e12,e13,e14,e15,e16,e17]=[.sc (.int .u64 e0),.sc (.int .u64 e1),.sc (.int .u64 e2),.sc (.int .u64 e3),.sc (.int .u64 e4),.sc (.int .u64 e5),.sc (.int .u64 e6),.sc (.int .u64 e7),.sc (.int .u64 e8),.sc (.int .u64 e9),.sc (.int .u64 e10),.sc (.int .u64 e11),.sc (.int .u64 e12),.sc (.int .u64 e13),.sc (.int .u64 e14),.sc (.int .u64 e15),.sc (.int .u64 e16),.sc (.int .u64 e17)]:=rfl;rw [hc] at cb ⊢;generalize Agf leaf [e0,e1,e2,e3,e4,e5,e6,e7,e8,e9,e10,e11,e12,e13,e14,e15,e16,e17]=R at cb ⊢;rw [Nk,Dw _ _ _ (by omega)]
  simp (disch:=omega) only [B3,Ya,W1,List.getD_cons_zero,List.getD_cons_succ,cb]
theorem Atq (hfu:1000<=fu)(leaf m:Int)(s:List Int):Ae C0 Tryz.prog fu (d+7) Sc [.sc (.int .i64 leaf),.sc (.int .u64 m),.lst false 1 s.length (Ah .u64 s)]=some ⟨(if s.length=18 then [.sc (.int .u64 (Alv leaf m s)),.sc (.int .i64 0)] else [.sc (.int .u64 0),.sc (.int .i64 4)]),[]⟩:=by
 rw [Ac7];by_cases h:s.length=18
 ·have dq:=Axa (fu:=fu) (d:=d+5) hfu m;have hD:Ah .i64 (dgs m)=[.sc (.int .i64 (dg m 0)),.sc (.int .i64 (dg m 1)),.sc (.int .i64 (dg m 2)),.sc (.int .i64 (dg m 3)),.sc (.int .i64 (dg m 4)),.sc (.int .i64 (dg m 5)),.sc (.int .i64 (dg m 6)),.sc (.int .i64 (dg m 7)),.sc (.int .i64 (dg m 8)),.sc (.int .i64 (dg m 9)),.sc (.int .i64 (dg m 10)),.sc (.int .i64 (dg m 11)),.sc (.int .i64 (dg m 12)),.sc (.int .i64 (dg m 13)),.sc (.int .i64 (dg m 14)),.sc (.int .i64 (dg m 15)),.sc (.int .i64 (dg m 16)),.sc (.int .i64 (dg m 17))]:=rfl;rw [hD] at dq;simp only [Di];rw [Bm h,Bm (by omega)]
  simp only [B3,dq];have lp:=Adt (fu:=fu) (d:=d) (a0:=leaf) (a1:=m) (a2n:=s.length) (a2:=Ah .u64 s) (leaf:=leaf) (m:=m) h hfu (dg m) (fun _=>rfl) 18 0 fu (by omega) (by omega)
  obtain ⟨f',hf'⟩:∃f',fu-18=f'+1:=⟨fu-19,by omega⟩
  rw [hf'] at lp;refine Eq.trans lp ?_;have eE:el leaf m s 18=Ai5 leaf m s:=Bae leaf m s;have hl:(Ai5 leaf m s).length=18:=by rw [←eE,A2h leaf m s (by omega)]
  have eR:Alv leaf m s=Agf leaf (Ai5 leaf m s):=rfl;rw [eE,eR];exact Asp hfu hl
 ·simp only [Di];rw [A0 h,A0 (by omega)]
end
end
section
structure Ky where
 h:Int
 root:Int
structure Sg where
 leaf:Int
 chains:List Int
 path:List Int
def Ky.cells (k:Ky):List PV:=[.sc (.int .i64 k.h),.sc (.int .u64 k.root)]
def Sg.cells (s:Sg):List PV:=[.sc (.int .i64 s.leaf),.lst false 1 s.chains.length (Ah .u64 s.chains),.lst false 1 s.path.length (Ah .u64 s.path)]
def Dd (h:Int):Bool:=decide (h<0)||decide (h>4)
def F4 (leaf h:Int):Bool:=decide (leaf<0)||decide (leaf>=Fb .i64 1 h)
def M3 (level a b:Int):Int:=D8 3 (A6 [IntKind.wrap .u64 level,a,b])
def Vg (leaf:Int):Nat->Int->List Int->Int
 |_,x,[]=>x
 |i,x,s::r=>Vg leaf (i+1) (if E9 .i64 (Eg .i64 leaf i) 1=0 then M3 ((i+1:Nat):Int) x s else M3 ((i+1:Nat):Int) s x) r
def okE (x root:Int):Int:=if x=root then 0 else 15
theorem Aiv (leaf:Int)(i:Nat)(x:Int):Vg leaf i x []=x:=rfl
theorem X5 (leaf:Int)(i:Nat)(x s:Int)(r:List Int):Vg leaf i x (s::r)=Vg leaf (i+1) (if E9 .i64 (Eg .i64 leaf i) 1=0 then M3 ((i+1:Nat):Int) x s else M3 ((i+1:Nat):Int) s x) r:=rfl
def L8 (k:Ky)(m:Int)(s:Sg):Int:=
 if Dd k.h=true then 9 else if F4 s.leaf k.h=true then 9 else if s.chains.length≠18 then 4 else if (s.path.length:Int)≠k.h then 4 else
 okE (Vg s.leaf 0 (Alv s.leaf m s.chains) s.path) k.root
theorem Ga {h:Int}(hh:Dd h=false):0<=h∧h<=4:=by
 unfold Dd at hh;simp at hh;omega
section
variable {fu d:Nat}
theorem Ad9 (h:Int):Ae C0 Tryz.prog fu (d+1) Yj [.sc (.int .i64 h)]=some ⟨[.sc (.bool (Dd h))],[]⟩:=by
 rw [Ajj];unfold Dd;by_cases h0:h<0
 ·simp only [B3,Afq,h0,decide_true,Bool.true_or,if_true]
 ·simp only [B3,Afq,h0,decide_false,Bool.false_or,if_false]
theorem Aa0 (leaf h:Int)(h0:0<=h):Ae C0 Tryz.prog fu (d+1) Rw [.sc (.int .i64 leaf),.sc (.int .i64 h)]=some ⟨[.sc (.bool (F4 leaf h))],[]⟩:=by
 rw [Adp];unfold F4;by_cases hl:leaf<0
 ·simp only [B3,Afq,hl,decide_true,Bool.true_or,if_true]
 ·simp (disch:=omega) only [B3,Afq,hl,decide_false,Bool.false_or,if_false]
theorem Amy (hfu:1000<=fu)(level a b:Int):Ae C0 Tryz.prog fu (d+6) Td [.sc (.int .i64 level),.sc (.int .u64 a),.sc (.int .u64 b)]=some ⟨[.sc (.int .u64 (M3 level a b))],[]⟩:=by
 have wd:Ae C0 Tryz.prog fu (d+5) He [.lst false 1 3 [.sc (.int .u64 (IntKind.wrap .u64 level)),.sc (.int .u64 a),.sc (.int .u64 b)]]=_:=Um (ws:=[IntKind.wrap .u64 level,a,b]) (by simp) (by omega) (by simp;omega)
 have hs:=A1n (fu:=fu) (d:=d) (ws:=[IntKind.wrap .u64 level,a,b]) (by simp) hfu 3
 have L:=Al .u8 (A6 [IntKind.wrap .u64 level,a,b]);rw [Ae7];unfold M3;generalize A6 [IntKind.wrap .u64 level,a,b]=W at wd hs L ⊢;simp (disch:=omega) only [B3,wd,Bj,Bw,Cf,Gs,L,hs]
theorem Ago {a0 a1 a2 a3:Int}{n1 n2 n3 n4:Nat}{c1 c2 c3 c4:List PV}{y5 root leaf:Int}{path:List Int}(hp:path.length<=100)(hfu:1000<=fu):∀(r:List Int)(i nn:Nat)(x:Int),path.drop i=r->r.length<nn->i<=path.length ->
  Gi fu (Ae C0 Tryz.prog fu (d+6)) a0 a1 a2 a3 n1 c1 n2 c2 nn x path.length (Ah .u64 path) path.length i y5 root leaf n3 c3 n4 c4=some ⟨[.sc (.int .i64 (okE (Vg leaf i x r) root))],[]⟩
 |_,_,0,_,_,h,_=>by omega
 |[],i,nn+1,x,h,hn,hi=>by
  have:=drop_nil h;rw [Ot,Dw _ _ _ (by omega),Di]
  rw [Aiv];unfold okE;by_cases e:x=root
  ·rw [Bm e,Bm e]
  ·rw [A0 e,A0 e]
 |s::r,i,nn+1,x,h,hn,hi=>by
  obtain ⟨h1,h2,h3⟩:=Ct h;simp only [Iw] at hn;have w:IntKind.wrap .i64 ((i:Int)+1)=((i+1:Nat):Int):=by rw [Ap (by omega) (by omega)];omega
  have ih:=fun x=>Ago (a0:=a0) (a1:=a1) (a2:=a2) (a3:=a3) (n1:=n1) (n2:=n2) (n3:=n3) (n4:=n4) (c1:=c1) (c2:=c2) (c3:=c3) (c4:=c4) (y5:=y5) (root:=root) (leaf:=leaf) hp hfu r (i+1) nn x h3 (by omega) (by omega)
  have p1:=Amy (fu:=fu) (d:=d) hfu ((i+1:Nat):Int) x s;have p2:=Amy (fu:=fu) (d:=d) hfu ((i+1:Nat):Int) s x;rw [Ot,X5];by_cases hb:E9 .i64 (Eg .i64 leaf i) 1=0
  ·rw [Bm hb,←ih];simp (disch:=omega) only [B3,Hr,Bj,Ps h2,Fd,hb,w,p1,if_true]
  ·rw [A0 hb,←ih];simp (disch:=omega) only [B3,Hr,Bj,Ps h2,Fd,hb,w,p2,if_false]
theorem Af1 (hfu:1000<=fu)(k:Ky)(m:Int)(s:Sg):Ae C0 Tryz.prog fu (d+8) Ug [.agg k.cells,.sc (.int .u64 m),.agg s.cells]=some ⟨[.sc (.int .i64 (L8 k m s))],[]⟩:=by
 refine (Aer fu (d+7) k.h k.root m s.leaf s.chains.length (Ah .u64 s.chains) s.path.length (Ah .u64 s.path)).trans ?_;have h1:=Ad9 (fu:=fu) (d:=d+6) k.h;unfold L8;cases c1:Dd k.h
 ·rw [c1] at h1;have hb:=Ga c1;have h2:=Aa0 (fu:=fu) (d:=d+6) s.leaf k.h hb.1;cases c2:F4 s.leaf k.h
  ·rw [c2] at h2;by_cases c3:s.chains.length=18
   ·by_cases c4:(s.path.length:Int)=k.h
    ·have rc:=Atq (fu:=fu) (d:=d) hfu s.leaf m s.chains;rw [Bm c3] at rc;have vl:=Ago (fu:=fu) (d:=d+1) (a0:=k.h) (a1:=k.root) (a2:=m) (a3:=s.leaf) (n1:=s.chains.length) (n2:=s.path.length) (n3:=s.chains.length) (n4:=s.path.length) (c1:=Ah .u64 s.chains) (c2:=Ah .u64 s.path) (c3:=Ah .u64 s.chains) (c4:=Ah .u64 s.path) (y5:=k.h) (root:=k.root) (leaf:=s.leaf) (path:=s.path) (by omega) hfu s.path 0 fu (Alv s.leaf m s.chains) rfl (by omega) (by omega)
     rw [A0 (by simp),A0 (by simp),A0 (by omega),A0 (by omega),←vl]
     simp (disch:=omega) only [B3,h1,h2,Di,rc,if_true,c4];rw [Bm (by omega)]
     rfl
    ·rw [A0 (by simp),A0 (by simp),A0 (by omega),Bm c4]
     simp (disch:=omega) only [B3,h1,h2,Di,c4,if_false];rw [Bm (by omega)]
   ·rw [A0 (by simp),A0 (by simp),Bm c3]
    simp (disch:=omega) only [B3,h1,h2,Di];rw [A0 (by omega)]
  ·rw [c2] at h2;rw [A0 (by simp),Bm rfl]
   simp (disch:=omega) only [B3,h1,h2]
 ·rw [c1] at h1;rw [Bm rfl];simp (disch:=omega) only [B3,h1]
def Gl (k:Ky):List Int:=IntKind.wrap .u8 k.h::Ca k.root
def Ly (s:Sg):List Int:=IntKind.wrap .u8 s.leaf::IntKind.wrap .u8 s.path.length::(A6 s.chains++A6 s.path)
theorem owd (hfu:1000<=fu)(w:Int):Ae C0 Tryz.prog fu (d+1) He [.lst false 1 1 [.sc (.int .u64 w)]]=some ⟨[.own 1 8 (Ah .u8 (Ca w))],[]⟩:=by
 have:=Um (fu:=fu) (d:=d) (ws:=[w]) (by simp) (by omega) (by simp;omega)
 simp only [A6,List.flatMap_cons,List.flatMap_nil,List.append_nil,Iw,Y6,Cw] at this;exact this
theorem Axv (hfu:1000<=fu)(k:Ky):Ae C0 Tryz.prog fu (d+2) Ow [.agg k.cells]=some ⟨(if Dd k.h=true then [.own 1 0 [],.sc (.int .i64 9)] else [.own 1 9 (Ah .u8 (Gl k)),.sc (.int .i64 0)]),[]⟩:=by
 refine (Zs fu (d+1) k.h k.root).trans ?_;have h1:=Ad9 (fu:=fu) (d:=d) k.h;have wd:=owd (fu:=fu) (d:=d) hfu k.root;have L:=Al .u8 (Ca k.root);rw [Cw] at L;have t8:List.take 8 (Ah .u8 (Ca k.root))=Ah .u8 (Ca k.root):=Iv (by omega)
 have t9:List.take 9 ([PV.sc (.int .u8 (IntKind.wrap .u8 k.h))]++Ah .u8 (Ca k.root))=Ah .u8 (Gl k):=by
  rw [Iv (by rw [Hz,L];simp)]
  rfl
 have L9:([PV.sc (.int .u8 (IntKind.wrap .u8 k.h))]++Ah .u8 (Ca k.root)).length=9:=by rw [Hz,L];rfl
 cases c1:Dd k.h
 ·rw [c1] at h1;rw [A0 (by simp)]
  simp (disch:=omega) only [B3,h1,wd,Bj,Bw,Cf,L,t8,Nat.reduceAdd,L9,t9]
 ·rw [c1] at h1;rw [Bm rfl];simp (disch:=omega) only [B3,h1]
theorem Ay9 (hfu:1000<=fu)(s:Sg)(hp:s.path.length<=1000000000)(hf:s.path.length<fu):Ae C0 Tryz.prog fu (d+2) I3 [.agg s.cells]=some ⟨(if Dd s.path.length=true then [.own 1 0 [],.sc (.int .i64 9)] else if F4 s.leaf s.path.length=true then [.own 1 0 [],.sc (.int .i64 9)] else if s.chains.length≠18 then [.own 1 0 [],.sc (.int .i64 4)] else [.own 1 (Ly s).length (Ah .u8 (Ly s)),.sc (.int .i64 0)]),[]⟩:=by
 refine (Rt fu (d+1) s.leaf s.chains.length (Ah .u64 s.chains) s.path.length (Ah .u64 s.path)).trans ?_;have h1:=Ad9 (fu:=fu) (d:=d) s.path.length;cases c1:Dd s.path.length
 ·rw [c1] at h1;have hb:=Ga c1;have h2:=Aa0 (fu:=fu) (d:=d) s.leaf s.path.length hb.1;cases c2:F4 s.leaf s.path.length
  ·rw [c2] at h2;by_cases c3:s.chains.length=18
   ·have w1:=Um (fu:=fu) (d:=d) (ws:=s.chains) (by omega) (by omega) (by omega)
    have w2:=Um (fu:=fu) (d:=d) (ws:=s.path) (by omega) (by omega) (by omega)
    have l1:=C7 s.chains;have l2:=C7 s.path;have L1:=Al .u8 (A6 s.chains);have L2:=Al .u8 (A6 s.path)
    have eB:Ah .u8 (Ly s)=[PV.sc (.int .u8 (IntKind.wrap .u8 s.leaf)),PV.sc (.int .u8 (IntKind.wrap .u8 s.path.length))]++Ah .u8 (A6 s.chains)++Ah .u8 (A6 s.path):=by
     unfold Ly;simp
    have eL:(Ly s).length=2+(A6 s.chains).length+(A6 s.path).length:=by
     unfold Ly;simp;omega
    rw [A0 (by simp),A0 (by simp),A0 (by omega),eB,eL]
    have t2:List.take (2+(A6 s.chains).length) ([PV.sc (.int .u8 (IntKind.wrap .u8 s.leaf)),PV.sc (.int .u8 (IntKind.wrap .u8 s.path.length))]++Ah .u8 (A6 s.chains))=[PV.sc (.int .u8 (IntKind.wrap .u8 s.leaf)),PV.sc (.int .u8 (IntKind.wrap .u8 s.path.length))]++Ah .u8 (A6 s.chains):=Iv (by rw [Hz,L1];simp)
    have t3:List.take (2+(A6 s.chains).length+(A6 s.path).length) ([PV.sc (.int .u8 (IntKind.wrap .u8 s.leaf)),PV.sc (.int .u8 (IntKind.wrap .u8 s.path.length))]++Ah .u8 (A6 s.chains)++Ah .u8 (A6 s.path))=[PV.sc (.int .u8 (IntKind.wrap .u8 s.leaf)),PV.sc (.int .u8 (IntKind.wrap .u8 s.path.length))]++Ah .u8 (A6 s.chains)++Ah .u8 (A6 s.path):=Iv (by rw [Hz,Hz,L1,L2];simp)
    have k2:([PV.sc (.int .u8 (IntKind.wrap .u8 s.leaf)),PV.sc (.int .u8 (IntKind.wrap .u8 s.path.length))]++Ah .u8 (A6 s.chains)).length=2+(A6 s.chains).length:=by rw [Hz,L1];rfl
    have k3:([PV.sc (.int .u8 (IntKind.wrap .u8 s.leaf)),PV.sc (.int .u8 (IntKind.wrap .u8 s.path.length))]++Ah .u8 (A6 s.chains)++Ah .u8 (A6 s.path)).length=2+(A6 s.chains).length+(A6 s.path).length:=by rw [Hz,k2,L2]
    simp (disch:=omega) only [B3,h1,h2,Di,w1,w2,Bj,Bw,Cf,L1,L2,Gs,t2,t3,k2,k3];rw [Bm (by omega)]
   ·rw [A0 (by simp),A0 (by simp),Bm c3]
    simp (disch:=omega) only [B3,h1,h2,Di];rw [A0 (by omega)]
  ·rw [c2] at h2;rw [A0 (by simp),Bm rfl]
   simp (disch:=omega) only [B3,h1,h2]
 ·rw [c1] at h1;rw [Bm rfl];simp (disch:=omega) only [B3,h1]
def Je (l:List Int)(i:Nat):Int:=Zu ((l.drop (8*i)).take 8)
def E5 (l:List Int):List Int:=(List.range (l.length / 8)).map (Je l)
def wl (l:List Int)(i:Nat):List Int:=(List.range i).map (Je l)++List.replicate (l.length / 8-i) 0
theorem A0p (l:List Int){i:Nat}(h:i<=l.length / 8):(wl l i).length=l.length / 8:=by simp [wl];omega
theorem A6x (l:List Int){i:Nat}(h:i<l.length / 8):(wl l i).set i (Je l i)=wl l (i+1):=by
 unfold wl;rw [List.set_append_right _ _ (by simp),List.length_map,List.length_range,Nat.sub_self,show l.length / 8-i=(l.length / 8-(i+1))+1 by omega,List.replicate_succ,List.set_cons_zero,List.range_succ,List.map_append,Zzv]
 rfl
theorem A5l (l:List Int){i:Nat}(h:i<l.length / 8):(wl l i).set i 0=wl l i:=by
 unfold wl;rw [List.set_append_right _ _ (by simp),List.length_map,List.length_range,Nat.sub_self,show l.length / 8-i=(l.length / 8-(i+1))+1 by omega,List.replicate_succ,List.set_cons_zero]
theorem Ans {n m0:Nat}{c:List PV}{l:List Int}(hl:l.length<=1000000){i:Nat}(hi:i<l.length / 8){q:List Int}(hq:q.length<=8):∀(r:List Int)(j nn:Nat)(x:Int),q.drop j=r->r.length<nn->j<=q.length ->
  I1 fu (Ae C0 Tryz.prog fu d) n c m0 nn l.length (Ah .u8 l) (l.length / 8) i ((l.length / 8:Nat):Int) i q.length (Ah .u8 q) q.length j (Ah .u64 ((wl l i).set i x)) =
   Hc fu (Ae C0 Tryz.prog fu d) n c m0 l.length (Ah .u8 l) (l.length / 8) ((l.length / 8:Nat):Int) ((i+1:Nat):Int) (Ah .u64 ((wl l i).set i (r.foldl Ev x)))
 |_,_,0,_,_,h,_=>by omega
 |[],j,nn+1,x,h,hn,hj=>by
  have:=drop_nil h;have w:IntKind.wrap .i64 ((i:Int)+1)=((i+1:Nat):Int):=by rw [Ap (by omega) (by omega)];omega
  rw [Qk,Dw _ _ _ (by omega)]
  simp only [Hj,w,List.foldl_nil]
 |b::r,j,nn+1,x,h,hn,hj=>by
  obtain ⟨h1,h2,h3⟩:=Ct h;simp only [Iw] at hn;have w:IntKind.wrap .i64 ((j:Int)+1)=((j+1:Nat):Int):=by rw [Ap (by omega) (by omega)];omega
  have L:(Ah .u64 ((wl l i).set i x)).length=l.length / 8:=by rw [Al,List.length_set,A0p l (by omega)]
  have hat:(Ah .u64 ((wl l i).set i x)).getD i .top=.sc (.int .u64 x):=Ps (by rw [List.getElem?_set_self (by rw [A0p l (by omega)];omega)])
  have hset:B8 (Ah .u64 ((wl l i).set i x)) [.sc (.int .u64 (Ev x b))] i=Ah .u64 ((wl l i).set i (Ev x b)):=by
   rw [J1 (by omega),Xg,List.set_set]
  have ih:=Ans (n:=n) (m0:=m0) (c:=c) hl hi hq r (j+1) nn (Ev x b) h3 (by omega) (by omega)
  rw [List.foldl_cons,←ih,Qk];simp (disch:=omega) only [B3,Hr,Bj,Bw,Ps h2,hat,L,w];exact congrArg _ hset
theorem Agg {n:Nat}{c:List PV}{l:List Int}(hl:l.length<=1000000)(hfu:100<=fu):∀(k i nn:Nat),i+k=l.length / 8->k<nn ->
  Hc fu (Ae C0 Tryz.prog fu d) n c nn l.length (Ah .u8 l) (l.length / 8) ((l.length / 8:Nat):Int) i (Ah .u64 (wl l i))=some ⟨[.own 1 (l.length / 8) (Ah .u64 (E5 l))],[]⟩
 |_,_,0,_,h=>by omega
 |0,i,nn+1,hi,hn=>by
  have e:i=l.length / 8:=by omega
  subst e;have e2:wl l (l.length / 8)=E5 l:=by unfold wl E5;simp
  have L:(Ah .u64 (E5 l)).length=l.length / 8:=by rw [Al];simp [E5]
  have tk:List.take (l.length / 8) (Ah .u64 (E5 l))=Ah .u64 (E5 l):=Iv (by omega)
  rw [Qt,Dw _ _ _ (by omega),e2]
  simp (disch:=omega) only [B3,Bj,L,tk]
 |k+1,i,nn+1,hi,hn=>by
  have ih:=Agg (n:=n) (c:=c) hl hfu k (i+1) nn (by omega) (by omega)
  have w8:IntKind.wrap .i64 (8*(i:Int))=((8*i:Nat):Int):=by rw [Ap (by omega) (by omega)];omega
  have w88:IntKind.wrap .i64 (((8*i:Nat):Int)+8)=((8*i+8:Nat):Int):=by rw [Ap (by omega) (by omega)];omega
  have e8:8*i+8-8*i=8:=by omega
  have hdl:((l.drop (8*i)).take 8).length=8:=by rw [List.length_take,List.length_drop];omega
  have st:=Ans (fu:=fu) (d:=d) (n:=n) (m0:=nn) (c:=c) hl (i:=i) (by omega) (q:=(l.drop (8*i)).take 8) (by omega) ((l.drop (8*i)).take 8) 0 fu 0 rfl (by omega) (by omega)
  rw [A5l l (by omega),hdl] at st
  have ew:((l.drop (8*i)).take 8).foldl Ev 0=Je l i:=rfl;rw [ew,A6x l (by omega),ih] at st
  rw [Qt];simp (disch:=omega) only [B3,Hr,Bj,w8,w88,e8,Et,Dx];exact st
theorem A10 (n:Nat):Wr n [.sc (.int .u64 0)]=Ah .u64 (List.replicate n 0):=by
 induction n with
 |zero=>rfl
 |succ n ih=>
  show ([PV.sc (.int .u64 0)]::List.replicate n [PV.sc (.int .u64 0)]).flatten=_;rw [List.flatten_cons,List.replicate_succ];show _++Wr n [.sc (.int .u64 0)]=PV.sc (.int .u64 0)::Ah .u64 (List.replicate n 0);rw [ih];rfl
theorem Ae0 {l:List Int}(hl:l.length<=1000000)(hfu:100<=fu)(hf:l.length<fu):Ae C0 Tryz.prog fu (d+1) V3 [.lst false 1 l.length (Ah .u8 l)]=some ⟨[.own 1 (l.length / 8) (Ah .u64 (E5 l))],[]⟩:=by
 rw [Ahl]
 have w:IntKind.wrap .i64 (Int.tdiv (l.length:Int) 8)=((l.length / 8:Nat):Int):=by
  rw [Int.tdiv_eq_ediv_of_nonneg (by omega),Ap (by omega) (by omega)]
  omega
 have lp:=Agg (fu:=fu) (d:=d) (n:=l.length) (c:=Ah .u8 l) hl hfu (l.length / 8) 0 fu (by omega) (by omega)
 have e0:wl l 0=List.replicate (l.length / 8) 0:=by unfold wl;simp
 rw [e0] at lp;simp (disch:=omega) only [B3,w,Hr,A10,Int.le_refl];exact lp
def Zj (l:List Int):Option Ky:=if l.length=9∧Dd (l.getD 0 0)=false then some ⟨l.getD 0 0,Je (l.drop 1) 0⟩ else none
def Abl (o:Option Ky):List PV:=match o with|some k=>[.agg k.cells,.sc (.int .i64 0)]|none=>[.agg (Ky.mk 0 0).cells,.sc (.int .i64 2)]
theorem Azc (hfu:1000<=fu){l:List Int}(hb:Hf l):Ae C0 Tryz.prog fu (d+2) O6 [.lst false 1 l.length (Ah .u8 l)]=some ⟨Abl (Zj l),[]⟩:=by
 refine (Zv fu (d+1) l.length (Ah .u8 l)).trans ?_;unfold Zj;by_cases h9:l.length=9
 ·obtain ⟨x,hx⟩:∃x,l[0]?=some x:=⟨_,List.getElem?_eq_getElem (by omega)⟩
  have hxb:=hb x (List.mem_of_getElem? hx);have wx:IntKind.wrap .i64 x=x:=Ap (by omega) (by omega)
  have gx:l.getD 0 0=x:=by rw [List.getD_eq_getElem?_getD,hx];rfl
  have h1:=Ad9 (fu:=fu) (d:=d) x;rw [gx];cases c1:Dd x
  ·rw [c1] at h1;have hdl:(l.drop 1).length=8:=by rw [List.length_drop];omega
   have dw:=Ae0 (fu:=fu) (d:=d) (l:=l.drop 1) (by omega) (by omega) (by omega)
   rw [hdl] at dw;have hat:(Ah .u64 (E5 (l.drop 1))).getD 0 .top=.sc (.int .u64 (Je (l.drop 1) 0)):=Ps (by unfold E5;rw [hdl];rfl)
   have e8:9-1=8:=rfl;have tk:List.take 8 (Ah .u8 (l.drop 1))=Ah .u8 (l.drop 1):=Iv (by rw [Al];omega)
   rw [Bm ⟨h9,rfl⟩,h9];simp (disch:=omega) only [B3,Di,Ps hx,wx,h1,Bj,Et,e8,tk,dw,hat];rfl
  ·rw [c1] at h1;rw [A0 (by simp),h9]
   simp (disch:=omega) only [B3,Di,Ps hx,wx,h1];rfl
 ·rw [A0 (by simp [h9])]
  simp (disch:=omega) only [Di];rw [A0 (by omega)]
  rfl
def sgD (l:List Int):Option Sg:=
 if 2<=l.length∧Dd (l.getD 1 0)=false∧F4 (l.getD 0 0) (l.getD 1 0)=false∧(l.length:Int)=2+8*(18+l.getD 1 0) then some ⟨l.getD 0 0,E5 ((l.drop 2).take 144),E5 (l.drop 146)⟩ else none
def Sg.owned (s:Sg):List PV:=[.sc (.int .i64 s.leaf),.own 1 s.chains.length (Ah .u64 s.chains),.own 1 s.path.length (Ah .u64 s.path)]
def Xe (o:Option Sg):List PV:=match o with|some s=>[.agg s.owned,.sc (.int .i64 0)]|none=>[.agg (Sg.mk 0 [] []).owned,.sc (.int .i64 2)]
theorem P7 (l:List Int):(E5 l).length=l.length / 8:=by simp [E5]
theorem Afs (hfu:1000<=fu){l:List Int}(hb:Hf l):Ae C0 Tryz.prog fu (d+2) I5 [.lst false 1 l.length (Ah .u8 l)]=some ⟨Xe (sgD l),[]⟩:=by
 refine (Rb fu (d+1) l.length (Ah .u8 l)).trans ?_;unfold sgD;by_cases h2:2<=l.length
 ·obtain ⟨x,hx⟩:∃x,l[0]?=some x:=⟨_,List.getElem?_eq_getElem (by omega)⟩
  obtain ⟨y,hy⟩:∃y,l[1]?=some y:=⟨_,List.getElem?_eq_getElem (by omega)⟩
  have hxb:=hb x (List.mem_of_getElem? hx);have hyb:=hb y (List.mem_of_getElem? hy);have wx:IntKind.wrap .i64 x=x:=Ap (by omega) (by omega)
  have wy:IntKind.wrap .i64 y=y:=Ap (by omega) (by omega)
  have gx:l.getD 0 0=x:=by rw [List.getD_eq_getElem?_getD,hx];rfl
  have gy:l.getD 1 0=y:=by rw [List.getD_eq_getElem?_getD,hy];rfl
  have h1:=Ad9 (fu:=fu) (d:=d) y;have ho:=Aa0 (fu:=fu) (d:=d) x y (by omega)
  have w1:IntKind.wrap .i64 (18+y)=18+y:=Ap (by omega) (by omega)
  have w2:IntKind.wrap .i64 (8*(18+y))=8*(18+y):=Ap (by omega) (by omega)
  have w3:IntKind.wrap .i64 (2+8*(18+y))=2+8*(18+y):=Ap (by omega) (by omega)
  rw [gx,gy];cases c1:Dd y
  ·rw [c1] at h1;cases c2:F4 x y
   ·rw [c2] at ho;by_cases c3:(l.length:Int)=2+8*(18+y)
    ·have hy4:=Ga c1;have d1:=Ae0 (fu:=fu) (d:=d) (l:=(l.drop 2).take 144) (by rw [List.length_take,List.length_drop];omega) (by omega) (by rw [List.length_take,List.length_drop];omega)
     have d2:=Ae0 (fu:=fu) (d:=d) (l:=l.drop 146) (by rw [List.length_drop];omega) (by omega) (by rw [List.length_drop];omega)
     have l1:((l.drop 2).take 144).length=144:=by rw [List.length_take,List.length_drop];omega
     have l2:(l.drop 146).length=l.length-146:=List.length_drop;rw [l1] at d1;have L1:(Ah .u64 (E5 ((l.drop 2).take 144))).length=18:=by rw [Al,P7,l1]
     have L2:(Ah .u64 (E5 (l.drop 146))).length=(l.length-146) / 8:=by rw [Al,P7,l2]
     rw [l2] at d2;have t1:List.take (144 / 8) (Ah .u64 (E5 ((l.drop 2).take 144)))=Ah .u64 (E5 ((l.drop 2).take 144)):=Iv (by omega)
     have t2:List.take ((l.length-146) / 8) (Ah .u64 (E5 (l.drop 146)))=Ah .u64 (E5 (l.drop 146)):=Iv (by omega)
     have t3:List.take (l.length-146) (l.drop 146)=l.drop 146:=Iv (by omega)
     rw [Bm ⟨h2,rfl,rfl,c3⟩];simp (disch:=omega) only [B3,Di,Ps hx,Ps hy,wx,wy,h1,ho,w1,w2,w3,Bj,Et,Dx,d1,d2,t3,L1,L2,t1,t2];rw [Bm c3];simp only [Xe,Sg.owned,P7,l1,l2]
    ·rw [A0 (by simp [c3])]
     simp (disch:=omega) only [B3,Di,Ps hx,Ps hy,wx,wy,h1,ho,w1,w2,w3];rw [A0 c3];rfl
   ·rw [c2] at ho;rw [A0 (by simp)]
    simp (disch:=omega) only [B3,Di,Ps hx,Ps hy,wx,wy,h1,ho];rfl
  ·rw [c1] at h1;rw [A0 (by simp)]
   simp (disch:=omega) only [B3,Di,Ps hx,Ps hy,wx,wy,h1];rfl
 ·rw [A0 (by simp [h2])]
  simp (disch:=omega) only [B3];rfl
end
end
section
set_option maxRecDepth 100000
abbrev Ng:FuncId:=35
theorem Yf (fu d:Nat)(a0:Int):Ae C0 Tryz.prog fu (d+1) Ng [.sc (.int .i64 a0)]=(fun (call:Am)=>A4 (decide (a0>=0)) (some (Ay.mk [.sc (.bool (decide (a0<=4)))] [])) (some (Ay.mk [.sc (.bool false)] []))) (Ae C0 Tryz.prog fu d):=by kernel_rfl
abbrev O3:FuncId:=61
noncomputable def Gj (fu:Nat)(call:Am)(a0:Int)(nn:Nat)(y0:Int)(y1:Nat)(y2 y3:Int)(y4:List PV):Option Ay:=Db C0 Tryz.prog fu call 61 Tryz.f61 (Ch Tryz.f61) [.sc (.int .u64 a0)] [.r,.r,.r,.l,.r,.l] nn ⟨lk [(0,(.sc (.int .u64 y0))),(3,(.view 3 1 0 y1)),(4,(.sc (.int .i64 y2))),(5,(.sc (.int .i64 y3)))],Gn [(3,(.ar false y4))]⟩
theorem Kw (fu:Nat)(call:Am)(a0:Int)(nn:Nat)(y0:Int)(y1:Nat)(y2 y3:Int)(y4:List PV):Gj fu call a0 (nn+1) y0 y1 y2 y3 y4=(A4 (decide (y3>=0)) (Aa (IntKind.wrap .i64 (4*y3)) fun x1=>Aa (IntKind.wrap .u64 x1) fun x2=>Aq (decide (0<=x2))<|Aa (Eg .u64 y0 x2) fun x3=>Aa (E9 .u64 x3 15) fun x4=>Aa (IntKind.wrap .i64 x4) fun x5=>Aq (decide (y1*1<=List.length y4)&&true&&decide ((y1+1)*8<=1099511627776)&&decide (y1+1<=1099511627776))<|Aa (y1+1) fun x6=>Aa (List.take (y1*1) y4++[.sc (.int .i64 x5)]) fun x7=>Aa (IntKind.wrap .i64 (15-x5)) fun x8=>Aa (IntKind.wrap .i64 (y2+x8)) fun x9=>Aa (IntKind.wrap .i64 (y3-1)) fun Cd=>Gj fu call a0 (nn) (y0) x6 x9 Cd x7) (Aa (IntKind.wrap .i64 (Int.tdiv y2 16)) fun Bp=>Aa (Int.tmod y2 16) fun C4=>Aq (decide (y1*1<=List.length y4)&&true&&decide ((y1+2)*8<=1099511627776)&&decide (y1+2<=1099511627776))<|Aa (y1+2) fun Da=>Aa (List.take (y1*1) y4++[.sc (.int .i64 Bp),.sc (.int .i64 C4)]) fun Cq=>Aq (decide (Da*1<=List.length Cq))<|some (Ay.mk [.own 1 Da (List.take (Da*1) Cq)] []))):=by kernel_rfl
theorem Zr (fu d:Nat)(a0:Int):Ae C0 Tryz.prog fu (d+1) O3 [.sc (.int .u64 a0)]=(fun (call:Am)=>Gj fu call a0 (fu) (a0) 0 0 15 ([])) (Ae C0 Tryz.prog fu d):=by kernel_rfl
abbrev R5:FuncId:=62
noncomputable def Hq (fu:Nat)(call:Am)(a0 a1:Int)(a2 a3 a4:Int)(nn:Nat)(y0 y1:Int)(y2 y3 y4:Int):Option Ay:=Db C0 Tryz.prog fu call 62 Tryz.f62 (Ch Tryz.f62) [.sc (.int .i64 a0),.sc (.int .i64 a1),.sc (.int .i64 a2),.sc (.int .i64 a3),.sc (.int .u64 a4)] [.r,.l,.r,.l] nn ⟨lk [(0,(.sc (.int .i64 y0))),(1,(.sc (.int .i64 y1))),(3,(.sc (.int .i64 y2))),(4,(.sc (.int .u64 y3))),(11,(.sc (.int .i64 y4)))],Gn []⟩
theorem Np (fu:Nat)(call:Am)(a0 a1:Int)(a2 a3 a4:Int)(nn:Nat)(y0 y1:Int)(y2 y3 y4:Int):Hq fu call a0 a1 a2 a3 a4 (nn+1) y0 y1 y2 y3 y4=(Aa (if 15<y2 then 15 else y2) fun x2=>A4 (decide (y4<x2)) (Aa (IntKind.wrap .u64 y0) fun x3=>Aa (IntKind.wrap .u64 y1) fun x4=>Aa (IntKind.wrap .u64 y4) fun x5=>Ag (call 38 [.lst false 1 4 [.sc (.int .u64 x3),.sc (.int .u64 x4),.sc (.int .u64 x5),.sc (.int .u64 y3)]]) fun x6 x7=>Ac x7<|Ab x6 fun x8 x9=>Dk 1 x8 fun Cd Bp=>Ac x9<|Aq (decide (0+Cd*1<=List.length Bp))<|Ag (call 46 [.sc (.int .i64 1),.lst false 1 Cd (List.take (Cd*1) (List.drop 0 Bp))]) fun C4 Da=>Ac Da<|Ab C4 fun Cq C9=>Af .u64 Cq fun Do=>Ac C9<|Aa (IntKind.wrap .i64 (y4+1)) fun Du=>Hq fu call a0 a1 a2 a3 a4 (nn) (y0) (y1) (y2) Do Du) (some (Ay.mk [.sc (.int .u64 y3)] []))):=by kernel_rfl
theorem Aef (fu d:Nat)(a0 a1:Int)(a2 a3 a4:Int):Ae C0 Tryz.prog fu (d+1) R5 [.sc (.int .i64 a0),.sc (.int .i64 a1),.sc (.int .i64 a2),.sc (.int .i64 a3),.sc (.int .u64 a4)]=(fun (call:Am)=>Aa (if a2<0 then 0 else a2) fun x1=>Hq fu call a0 a1 a2 a3 a4 (fu) (a0) (a1) (a3) (a4) x1) (Ae C0 Tryz.prog fu d):=by kernel_rfl
abbrev Ns:FuncId:=63
theorem Xc (fu d:Nat)(a0 a1 a2:Int):Ae C0 Tryz.prog fu (d+1) Ns [.sc (.int .u64 a0),.sc (.int .i64 a1),.sc (.int .i64 a2)]=(fun (call:Am)=>Aa (IntKind.wrap .u64 a1) fun x1=>Aa (IntKind.wrap .u64 a2) fun x2=>Ag (call 38 [.lst false 1 2 [.sc (.int .u64 x1),.sc (.int .u64 x2)]]) fun x3 x4=>Ac x4<|Ab x3 fun x5 x6=>Dk 1 x5 fun x7 x8=>Ac x6<|Aq (decide (0+x7*1<=List.length x8))<|Ag (call 79 [.sc (.int .u64 a0),.sc (.int .i64 1),.lst false 1 x7 (List.take (x7*1) (List.drop 0 x8))]) fun x9 Cd=>Ac Cd<|Ab x9 fun Bp C4=>Af .u64 Bp fun Da=>Ac C4<|some (Ay.mk [.sc (.int .u64 Da)] [])) (Ae C0 Tryz.prog fu d):=by kernel_rfl
abbrev Qu:FuncId:=65
theorem Aav (fu d:Nat)(a0:Int)(a1n:Nat)(a1:List PV):Ae C0 Tryz.prog fu (d+1) Qu [.sc (.int .i64 a0),.lst false 1 a1n a1]=(fun (call:Am)=>Aa (IntKind.wrap .u64 a0) fun x1=>Ag (call 38 [.lst false 1 1 [.sc (.int .u64 x1)]]) fun x2 x3=>Ac x3<|Ab x2 fun x4 x5=>Dk 1 x4 fun x6 x7=>Ac x5<|Ag (call 38 [.lst false 1 a1n a1]) fun x8 x9=>Ac x9<|Ab x8 fun Cd Bp=>Dk 1 Cd fun C4 Da=>Ac Bp<|Aq (decide (0+C4*1<=List.length Da))<|Aq (decide (x6*1<=List.length x7)&&decide (List.length (List.take (C4*1) (List.drop 0 Da))=C4*1)&&decide ((x6+C4)*1<=1099511627776)&&decide (x6+C4<=1099511627776))<|Aa (x6+C4) fun Cq=>Aa (List.take (x6*1) x7++List.take (C4*1) (List.drop 0 Da)) fun C9=>Aq (decide (0+Cq*1<=List.length C9))<|Ag (call 46 [.sc (.int .i64 2),.lst false 1 Cq (List.take (Cq*1) (List.drop 0 C9))]) fun Do Du=>Ac Du<|Ab Do fun D5 D7=>Af .u64 D5 fun Eh=>Ac D7<|some (Ay.mk [.sc (.int .u64 Eh)] [])) (Ae C0 Tryz.prog fu d):=by kernel_rfl
abbrev Qz:FuncId:=64
noncomputable def Gy (fu:Nat)(call:Am)(a0 a1:Int)(nn:Nat)(y0 y1:Int)(y2:Nat)(y3:Int)(y4:List PV):Option Ay:=Db C0 Tryz.prog fu call 64 Tryz.f64 (Ch Tryz.f64) [.sc (.int .u64 a0),.sc (.int .i64 a1)] [.r,.r,.l,.r,.l] nn ⟨lk [(0,(.sc (.int .u64 y0))),(1,(.sc (.int .i64 y1))),(5,(.view 5 1 0 y2)),(6,(.sc (.int .i64 y3)))],Gn [(5,(.ar false y4))]⟩
theorem Mr (fu:Nat)(call:Am)(a0 a1:Int)(nn:Nat)(y0 y1:Int)(y2:Nat)(y3:Int)(y4:List PV):Gy fu call a0 a1 (nn+1) y0 y1 y2 y3 y4=(A4 (decide (y3<18)) (Ag (call 63 [.sc (.int .u64 y0),.sc (.int .i64 y1),.sc (.int .i64 y3)]) fun x1 x2=>Ac x2<|Ab x1 fun x3 x4=>Af .u64 x3 fun x5=>Ac x4<|Ag (call 62 [.sc (.int .i64 y1),.sc (.int .i64 y3),.sc (.int .i64 0),.sc (.int .i64 15),.sc (.int .u64 x5)]) fun x6 x7=>Ac x7<|Ab x6 fun x8 x9=>Af .u64 x8 fun Cd=>Ac x9<|Aq (decide (y2*1<=List.length y4)&&true&&decide ((y2+1)*8<=1099511627776)&&decide (y2+1<=1099511627776))<|Aa (y2+1) fun Bp=>Aa (List.take (y2*1) y4++[.sc (.int .u64 Cd)]) fun C4=>Aa (IntKind.wrap .i64 (y3+1)) fun Da=>Gy fu call a0 a1 (nn) (y0) (y1) Bp Da C4) (Aq (decide (0+y2*1<=List.length y4))<|Ag (call 65 [.sc (.int .i64 y1),.lst false 1 y2 (List.take (y2*1) (List.drop 0 y4))]) fun Cq C9=>Ac C9<|Ab Cq fun Do Du=>Af .u64 Do fun D5=>Ac Du<|some (Ay.mk [.sc (.int .u64 D5)] []))):=by kernel_rfl
theorem Aaw (fu d:Nat)(a0 a1:Int):Ae C0 Tryz.prog fu (d+1) Qz [.sc (.int .u64 a0),.sc (.int .i64 a1)]=(fun (call:Am)=>Gy fu call a0 a1 (fu) (a0) (a1) 0 0 ([])) (Ae C0 Tryz.prog fu d):=by kernel_rfl
abbrev Lt:FuncId:=36
noncomputable def Fo (fu:Nat)(call:Am)(a0 a1 a2:Int)(nn:Nat)(y0 y1:Int)(y2 y3:Nat)(y4:Int)(y5 y6:List PV):Option Ay:=Db C0 Tryz.prog fu call 36 Tryz.f36 (Ch Tryz.f36) [.sc (.int .u64 a0),.sc (.int .i64 a1),.sc (.int .u64 a2)] [.r,.r,.r,.l,.r,.l] nn ⟨lk [(0,(.sc (.int .u64 y0))),(1,(.sc (.int .i64 y1))),(7,(.view 7 1 0 y2)),(8,(.view 8 1 0 y3)),(9,(.sc (.int .i64 y4)))],Gn [(7,(.ar false y5)),(8,(.ar false y6))]⟩
theorem Jb (fu:Nat)(call:Am)(a0 a1 a2:Int)(nn:Nat)(y0 y1:Int)(y2 y3:Nat)(y4:Int)(y5 y6:List PV):Fo fu call a0 a1 a2 (nn+1) y0 y1 y2 y3 y4 y5 y6=(A4 (decide (y4<18)) (Aq (decide (0<=y4)&&decide (y4<(↑y2:Int)))<|Af .i64 (List.getD y5 (0+Int.toNat y4*1) .top) fun x7=>Ag (call 63 [.sc (.int .u64 y0),.sc (.int .i64 y1),.sc (.int .i64 y4)]) fun x8 x9=>Ac x9<|Ab x8 fun Cd Bp=>Af .u64 Cd fun C4=>Ac Bp<|Ag (call 62 [.sc (.int .i64 y1),.sc (.int .i64 y4),.sc (.int .i64 0),.sc (.int .i64 x7),.sc (.int .u64 C4)]) fun Da Cq=>Ac Cq<|Ab Da fun C9 Do=>Af .u64 C9 fun Du=>Ac Do<|Aq (decide (y3*1<=List.length y6)&&true&&decide ((y3+1)*8<=1099511627776)&&decide (y3+1<=1099511627776))<|Aa (y3+1) fun D5=>Aa (List.take (y3*1) y6++[.sc (.int .u64 Du)]) fun D7=>Aa (IntKind.wrap .i64 (y4+1)) fun Eh=>Fo fu call a0 a1 a2 (nn) (y0) (y1) (y2) D5 Eh (y5) D7) (Aq (decide (y3*1<=List.length y6))<|some (Ay.mk [.own 1 y3 (List.take (y3*1) y6)] []))):=by kernel_rfl
theorem Vh (fu d:Nat)(a0 a1 a2:Int):Ae C0 Tryz.prog fu (d+1) Lt [.sc (.int .u64 a0),.sc (.int .i64 a1),.sc (.int .u64 a2)]=(fun (call:Am)=>Ag (call 61 [.sc (.int .u64 a2)]) fun x1 x2=>Ac x2<|Ab x1 fun x3 x4=>Dk 1 x3 fun x5 x6=>Ac x4<|Fo fu call a0 a1 a2 (fu) (a0) (a1) x5 0 0 x6 ([])) (Ae C0 Tryz.prog fu d):=by kernel_rfl
abbrev Mn:FuncId:=39
noncomputable def Fx (fu:Nat)(call:Am)(a0 a1:Int)(a2n:Nat)(a2:List PV)(nn:Nat)(y0:Int)(y1:Nat)(y2:List PV)(y3 y4:Nat)(y5:Int)(y6 y7:List PV):Option Ay:=Db C0 Tryz.prog fu call 39 Tryz.f39 (Ch Tryz.f39) [.sc (.int .i64 a0),.sc (.int .u64 a1),.lst false 1 a2n a2] [.r,.r,.r,.r,.l,.r,.l] nn ⟨lk [(0,(.sc (.int .i64 y0))),(2,(.lst false 1 y1 y2)),(8,(.view 8 1 0 y3)),(9,(.view 9 1 0 y4)),(10,(.sc (.int .i64 y5)))],Gn [(8,(.ar false y6)),(9,(.ar false y7))]⟩
theorem Jo (fu:Nat)(call:Am)(a0 a1:Int)(a2n:Nat)(a2:List PV)(nn:Nat)(y0:Int)(y1:Nat)(y2:List PV)(y3 y4:Nat)(y5:Int)(y6 y7:List PV):Fx fu call a0 a1 a2n a2 (nn+1) y0 y1 y2 y3 y4 y5 y6 y7=(A4 (decide (y5<18)) (Aq (decide (0<=y5)&&decide (y5<(↑y3:Int)))<|Af .i64 (List.getD y6 (0+Int.toNat y5*1) .top) fun x7=>Aq (decide (0<=y5)&&decide (y5<(↑y1:Int)))<|Af .u64 (List.getD y2 (Int.toNat y5*1) .top) fun x8=>Ag (call 62 [.sc (.int .i64 y0),.sc (.int .i64 y5),.sc (.int .i64 x7),.sc (.int .i64 15),.sc (.int .u64 x8)]) fun x9 Cd=>Ac Cd<|Ab x9 fun Bp C4=>Af .u64 Bp fun Da=>Ac C4<|Aq (decide (y4*1<=List.length y7)&&true&&decide ((y4+1)*8<=1099511627776)&&decide (y4+1<=1099511627776))<|Aa (y4+1) fun Cq=>Aa (List.take (y4*1) y7++[.sc (.int .u64 Da)]) fun C9=>Aa (IntKind.wrap .i64 (y5+1)) fun Do=>Fx fu call a0 a1 a2n a2 (nn) (y0) (y1) (y2) (y3) Cq Do (y6) C9) (Aq (decide (0+y4*1<=List.length y7))<|Ag (call 65 [.sc (.int .i64 y0),.lst false 1 y4 (List.take (y4*1) (List.drop 0 y7))]) fun Du D5=>Ac D5<|Ab Du fun D7 Eh=>Af .u64 D7 fun Fy=>Ac Eh<|some (Ay.mk [.sc (.int .u64 Fy),.sc (.int .i64 0)] []))):=by kernel_rfl
theorem Wn (fu d:Nat)(a0 a1:Int)(a2n:Nat)(a2:List PV):Ae C0 Tryz.prog fu (d+1) Mn [.sc (.int .i64 a0),.sc (.int .u64 a1),.lst false 1 a2n a2]=(fun (call:Am)=>A4 ((↑a2n:Int) != 18) (some (Ay.mk [.sc (.int .u64 0),.sc (.int .i64 4)] [])) (Ag (call 61 [.sc (.int .u64 a1)]) fun x1 x2=>Ac x2<|Ab x1 fun x3 x4=>Dk 1 x3 fun x5 x6=>Ac x4<|Fx fu call a0 a1 a2n a2 (fu) (a0) (a2n) (a2) x5 0 0 x6 ([]))) (Ae C0 Tryz.prog fu d):=by kernel_rfl
abbrev Nb:FuncId:=40
theorem Xt (fu d:Nat)(a0 a1 a2:Int):Ae C0 Tryz.prog fu (d+1) Nb [.sc (.int .i64 a0),.sc (.int .u64 a1),.sc (.int .u64 a2)]=(fun (call:Am)=>Aa (IntKind.wrap .u64 a0) fun x1=>Ag (call 38 [.lst false 1 3 [.sc (.int .u64 x1),.sc (.int .u64 a1),.sc (.int .u64 a2)]]) fun x2 x3=>Ac x3<|Ab x2 fun x4 x5=>Dk 1 x4 fun x6 x7=>Ac x5<|Aq (decide (0+x6*1<=List.length x7))<|Ag (call 46 [.sc (.int .i64 3),.lst false 1 x6 (List.take (x6*1) (List.drop 0 x7))]) fun x8 x9=>Ac x9<|Ab x8 fun Cd Bp=>Af .u64 Cd fun C4=>Ac Bp<|some (Ay.mk [.sc (.int .u64 C4)] [])) (Ae C0 Tryz.prog fu d):=by kernel_rfl
abbrev Qv:FuncId:=37
theorem Qm (fu d:Nat)(a0 a1 a2:Int):Ae C0 Tryz.prog fu (d+1) Qv [.sc (.int .u64 a0),.sc (.int .i64 a1),.sc (.int .i64 a2)]=(fun (call:Am)=>A4 (a1==0) (Ag (call 64 [.sc (.int .u64 a0),.sc (.int .i64 a2)]) fun x1 x2=>Ac x2<|Ab x1 fun x3 x4=>Af .u64 x3 fun x5=>Ac x4<|some (Ay.mk [.sc (.int .u64 x5)] [])) (Aa (IntKind.wrap .i64 (a1-1)) fun x6=>Aa (IntKind.wrap .i64 (2*a2)) fun x7=>Ag (call 37 [.sc (.int .u64 a0),.sc (.int .i64 x6),.sc (.int .i64 x7)]) fun x8 x9=>Ac x9<|Ab x8 fun Cd Bp=>Af .u64 Cd fun C4=>Ac Bp<|Aa (IntKind.wrap .i64 (a1-1)) fun Da=>Aa (IntKind.wrap .i64 (2*a2)) fun Cq=>Aa (IntKind.wrap .i64 (Cq+1)) fun C9=>Ag (call 37 [.sc (.int .u64 a0),.sc (.int .i64 Da),.sc (.int .i64 C9)]) fun Do Du=>Ac Du<|Ab Do fun D5 D7=>Af .u64 D5 fun Eh=>Ac D7<|Ag (call 40 [.sc (.int .i64 a1),.sc (.int .u64 C4),.sc (.int .u64 Eh)]) fun Fy Ci=>Ac Ci<|Ab Fy fun Fn Ds=>Af .u64 Fn fun Bx=>Ac Ds<|some (Ay.mk [.sc (.int .u64 Bx)] []))) (Ae C0 Tryz.prog fu d):=by kernel_rfl
abbrev Nd:FuncId:=34
theorem Ye (fu d:Nat)(a0 a1:Int):Ae C0 Tryz.prog fu (d+1) Nd [.sc (.int .u64 a0),.sc (.int .i64 a1)]=(fun (call:Am)=>Ag (call 35 [.sc (.int .i64 a1)]) fun x1 x2=>Ac x2<|Ab x1 fun x3 x4=>Bz x3 fun x5=>Ac x4<|A4 (!x5) (some (Ay.mk [.agg [.sc (.int .i64 0),.sc (.int .u64 0)],.sc (.int .i64 9)] [])) (Ag (call 37 [.sc (.int .u64 a0),.sc (.int .i64 a1),.sc (.int .i64 0)]) fun x6 x7=>Ac x7<|Ab x6 fun x8 x9=>Af .u64 x8 fun Cd=>Ac x9<|some (Ay.mk [.agg [.sc (.int .i64 a1),.sc (.int .u64 Cd)],.sc (.int .i64 0)] []))) (Ae C0 Tryz.prog fu d):=by kernel_rfl
abbrev P1:FuncId:=17
noncomputable def G1 (fu:Nat)(call:Am)(a0 a1:Int)(a2 a3:Int)(nn:Nat)(y0 y1:Int)(y2 y3 y4:Int)(y5 y6:Nat)(y7 y8:List PV)(y9:Int)(y10 Gc:Nat)(H4 Wq:List PV):Option Ay:=Db C0 Tryz.prog fu call 17 Tryz.f17 (Ch Tryz.f17) [.sc (.int .u64 a0),.sc (.int .i64 a1),.sc (.int .i64 a2),.sc (.int .u64 a3)] [.r,.r,.r,.l,.r,.l] nn ⟨lk [(0,(.sc (.int .u64 y0))),(1,(.sc (.int .i64 y1))),(2,(.sc (.int .i64 y2))),(8,(.ptr 8 0)),(10,(.ptr 10 0)),(11,(.sc (.int .i64 y3)))],Gn [(8,(.st [(.sc (.int .i64 y4)),(.view 112 1 0 y5),(.view 164 1 0 y6)])),(112,(.ar false y7)),(164,(.ar false y8)),(10,(.st [(.sc (.int .i64 y9)),(.view 114 1 0 y10),(.view 166 1 0 Gc)])),(114,(.ar false H4)),(166,(.ar false Wq))]⟩
theorem Md (fu:Nat)(call:Am)(a0 a1:Int)(a2 a3:Int)(nn:Nat)(y0 y1:Int)(y2 y3 y4:Int)(y5 y6:Nat)(y7 y8:List PV)(y9:Int)(y10 Gc:Nat)(H4 Wq:List PV):G1 fu call a0 a1 a2 a3 (nn+1) y0 y1 y2 y3 y4 y5 y6 y7 y8 y9 y10 Gc H4 Wq=(A4 (decide (y3<y1)) (Aa (IntKind.wrap .u64 y3) fun Cq=>Aq (decide (0<=Cq))<|Aa (Eg .i64 y2 Cq) fun C9=>Aa (Em .i64 C9 1) fun Do=>Ag (call 37 [.sc (.int .u64 y0),.sc (.int .i64 y3),.sc (.int .i64 Do)]) fun Du D5=>Ac D5<|Ab Du fun D7 Eh=>Af .u64 D7 fun Fy=>Ac Eh<|Aq (decide (Gc*1<=List.length Wq)&&true&&decide ((Gc+1)*8<=1099511627776)&&decide (Gc+1<=1099511627776))<|Aa (Gc+1) fun Ci=>Aa (List.take (Gc*1) Wq++[.sc (.int .u64 Fy)]) fun Fn=>Aa (IntKind.wrap .i64 (y3+1)) fun Ds=>G1 fu call a0 a1 a2 a3 (nn) (y0) (y1) (y2) Ds (y4) (y5) (y6) (y7) (y8) (y9) (y10) Ci (H4) Fn) (Aq (decide (y10*1<=List.length H4))<|Aq (decide (Gc*1<=List.length Wq))<|some (Ay.mk [.agg [.sc (.int .i64 y9),.own 1 y10 (List.take (y10*1) H4),.own 1 Gc (List.take (Gc*1) Wq)],.sc (.int .i64 0)] []))):=by kernel_rfl
theorem Ab2 (fu d:Nat)(a0 a1:Int)(a2 a3:Int):Ae C0 Tryz.prog fu (d+1) P1 [.sc (.int .u64 a0),.sc (.int .i64 a1),.sc (.int .i64 a2),.sc (.int .u64 a3)]=(fun (call:Am)=>Ag (call 35 [.sc (.int .i64 a1)]) fun x1 x2=>Ac x2<|Ab x1 fun x3 x4=>Bz x3 fun x5=>Ac x4<|A4 (!x5) (some (Ay.mk [.agg [.sc (.int .i64 0),.own 1 0 [],.own 1 0 []],.sc (.int .i64 9)] [])) (A4 (decide (a2<0)) (some (Ay.mk [.agg [.sc (.int .i64 0),.own 1 0 [],.own 1 0 []],.sc (.int .i64 9)] [])) (Aa (IntKind.wrap .u64 a1) fun x6=>Aq (decide (0<=x6))<|Aa (Fb .i64 1 x6) fun x7=>A4 (decide (a2>=x7)) (some (Ay.mk [.agg [.sc (.int .i64 0),.own 1 0 [],.own 1 0 []],.sc (.int .i64 9)] [])) (Ag (call 36 [.sc (.int .u64 a0),.sc (.int .i64 a2),.sc (.int .u64 a3)]) fun x8 x9=>Ac x9<|Ab x8 fun Cd Bp=>Dk 1 Cd fun C4 Da=>Ac Bp<|G1 fu call a0 a1 a2 a3 (fu) (a0) (a1) (a2) 0 0 0 0 ([]) ([]) (a2) C4 0 Da ([]))))) (Ae C0 Tryz.prog fu d):=by kernel_rfl
abbrev Nl:FuncId:=19
noncomputable def E2 (fu:Nat)(call:Am)(a0_0 a0_1:Int)(a1 Pj:Int)(Io:Nat)(Su:List PV)(Ii:Nat)(Tn:List PV)(nn:Nat)(y0 y1:Int)(y2 y3 y4:Int)(y5:Nat)(y6:List PV)(y7:Nat)(y8:List PV):Option Ay:=Db C0 Tryz.prog fu call 19 Tryz.f19 (Ch Tryz.f19) [.agg [.sc (.int .i64 a0_0),.sc (.int .u64 a0_1)],.sc (.int .u64 a1),.agg [.sc (.int .i64 Pj),.lst false 1 Io Su,.lst false 1 Ii Tn]] [.r,.r,.r,.r,.l,.r,.l] nn ⟨lk [(3,(.ptr 3 0)),(5,(.ptr 5 0)),(7,(.sc (.int .u64 y0))),(9,(.sc (.int .i64 y1)))],Gn [(3,(.st [(.sc (.int .i64 y2)),(.sc (.int .u64 y3))])),(5,(.st [(.sc (.int .i64 y4)),(.lst false 1 y5 y6),(.lst false 1 y7 y8)]))]⟩
theorem J9 (fu:Nat)(call:Am)(a0_0 a0_1:Int)(a1 Pj:Int)(Io:Nat)(Su:List PV)(Ii:Nat)(Tn:List PV)(nn:Nat)(y0 y1:Int)(y2 y3 y4:Int)(y5:Nat)(y6:List PV)(y7:Nat)(y8:List PV):E2 fu call a0_0 a0_1 a1 Pj Io Su Ii Tn (nn+1) y0 y1 y2 y3 y4 y5 y6 y7 y8=(A4 (decide (y1<y2)) (Aa (IntKind.wrap .u64 y1) fun Do=>Aq (decide (0<=Do))<|Aa (Eg .i64 y4 Do) fun Du=>Aa (E9 .i64 Du 1) fun D5=>A4 (D5==0) (Aa (IntKind.wrap .i64 (y1+1)) fun D7=>Aq (decide (0<=y1)&&decide (y1<(↑y7:Int)))<|Af .u64 (List.getD y8 (Int.toNat y1*1) .top) fun Eh=>Ag (call 40 [.sc (.int .i64 D7),.sc (.int .u64 y0),.sc (.int .u64 Eh)]) fun Fy Ci=>Ac Ci<|Ab Fy fun Fn Ds=>Af .u64 Fn fun Bx=>Ac Ds<|Aa (IntKind.wrap .i64 (y1+1)) fun Fc=>E2 fu call a0_0 a0_1 a1 Pj Io Su Ii Tn (nn) Bx Fc (y2) (y3) (y4) (y5) (y6) (y7) (y8)) (Aa (IntKind.wrap .i64 (y1+1)) fun Ft=>Aq (decide (0<=y1)&&decide (y1<(↑y7:Int)))<|Af .u64 (List.getD y8 (Int.toNat y1*1) .top) fun Bk=>Ag (call 40 [.sc (.int .i64 Ft),.sc (.int .u64 Bk),.sc (.int .u64 y0)]) fun Cg Hg=>Ac Hg<|Ab Cg fun Gf Ie=>Af .u64 Gf fun H0=>Ac Ie<|Aa (IntKind.wrap .i64 (y1+1)) fun Jn=>E2 fu call a0_0 a0_1 a1 Pj Io Su Ii Tn (nn) H0 Jn (y2) (y3) (y4) (y5) (y6) (y7) (y8))) (A4 (y0 != y3) (some (Ay.mk [.sc (.int .i64 15)] [])) (some (Ay.mk [.sc (.int .i64 0)] [])))):=by kernel_rfl
theorem Ww (fu d:Nat)(a0_0 a0_1:Int)(a1 Pj:Int)(Io:Nat)(Su:List PV)(Ii:Nat)(Tn:List PV):Ae C0 Tryz.prog fu (d+1) Nl [.agg [.sc (.int .i64 a0_0),.sc (.int .u64 a0_1)],.sc (.int .u64 a1),.agg [.sc (.int .i64 Pj),.lst false 1 Io Su,.lst false 1 Ii Tn]]=(fun (call:Am)=>Ag (call 35 [.sc (.int .i64 a0_0)]) fun x1 x2=>Ac x2<|Ab x1 fun x3 x4=>Bz x3 fun x5=>Ac x4<|A4 (!x5) (some (Ay.mk [.sc (.int .i64 9)] [])) (A4 (decide (Pj<0)) (some (Ay.mk [.sc (.int .i64 9)] [])) (Aa (IntKind.wrap .u64 a0_0) fun x6=>Aq (decide (0<=x6))<|Aa (Fb .i64 1 x6) fun x7=>A4 (decide (Pj>=x7)) (some (Ay.mk [.sc (.int .i64 9)] [])) (A4 ((↑Io:Int) != 18) (some (Ay.mk [.sc (.int .i64 4)] [])) (A4 ((↑Ii:Int) != a0_0) (some (Ay.mk [.sc (.int .i64 4)] [])) (Ag (call 39 [.sc (.int .i64 Pj),.sc (.int .u64 a1),.lst false 1 Io Su]) fun x8 x9=>Ac x9<|Ab x8 fun Cd Bp=>Af .u64 Cd fun C4=>Ab Bp fun Da Cq=>Af .i64 Da fun C9=>Ac Cq<|E2 fu call a0_0 a0_1 a1 Pj Io Su Ii Tn (fu) C4 0 (a0_0) (a0_1) (Pj) (Io) (Su) (Ii) (Tn))))))) (Ae C0 Tryz.prog fu d):=by kernel_rfl
abbrev J7:FuncId:=68
theorem Tf (fu d:Nat)(a0_0 a0_1:Int):Ae C0 Tryz.prog fu (d+1) J7 [.agg [.sc (.int .i64 a0_0),.sc (.int .u64 a0_1)]]=(fun (call:Am)=>Ag (call 35 [.sc (.int .i64 a0_0)]) fun x1 x2=>Ac x2<|Ab x1 fun x3 x4=>Bz x3 fun x5=>Ac x4<|A4 (!x5) (some (Ay.mk [.own 1 0 [],.sc (.int .i64 9)] [])) (Aa (IntKind.wrap .u8 a0_0) fun x6=>Ag (call 38 [.lst false 1 1 [.sc (.int .u64 a0_1)]]) fun x7 x8=>Ac x8<|Ab x7 fun x9 Cd=>Dk 1 x9 fun Bp C4=>Ac Cd<|Aq (decide (0+Bp*1<=List.length C4))<|Aq (decide (List.length (List.take (Bp*1) (List.drop 0 C4))=Bp*1)&&decide ((1+Bp)*1<=1099511627776)&&decide (1+Bp<=1099511627776))<|Aa (1+Bp) fun Da=>Aa ([.sc (.int .u8 x6)]++List.take (Bp*1) (List.drop 0 C4)) fun Cq=>Aq (decide (Da*1<=List.length Cq))<|some (Ay.mk [.own 1 Da (List.take (Da*1) Cq),.sc (.int .i64 0)] []))) (Ae C0 Tryz.prog fu d):=by kernel_rfl
abbrev Ke:FuncId:=43
theorem Tw (fu d a0n:Nat)(a0:List PV):Ae C0 Tryz.prog fu (d+1) Ke [.lst false 1 a0n a0]=(fun (call:Am)=>A4 ((↑a0n:Int) != 9) (some (Ay.mk [.agg [.sc (.int .i64 0),.sc (.int .u64 0)],.sc (.int .i64 2)] [])) (Aq (decide (0<(↑a0n:Int)))<|Af .u8 (List.getD a0 0 .top) fun x1=>Aa (IntKind.wrap .i64 x1) fun x2=>Ag (call 35 [.sc (.int .i64 x2)]) fun x3 x4=>Ac x4<|Ab x3 fun x5 x6=>Bz x5 fun x7=>Ac x6<|A4 (!x7) (some (Ay.mk [.agg [.sc (.int .i64 0),.sc (.int .u64 0)],.sc (.int .i64 2)] [])) (Aq (decide (0<(↑a0n:Int)))<|Af .u8 (List.getD a0 0 .top) fun x8=>Aa (IntKind.wrap .i64 x8) fun x9=>Aq (decide (1<=a0n)&&decide (a0n<=a0n))<|Aa (a0n-1) fun Cd=>Aa (List.take (Cd*1) (List.drop 1 a0)) fun Bp=>Ag (call 53 [.lst false 1 Cd Bp]) fun C4 Da=>Ac Da<|Ab C4 fun Cq C9=>Af .u64 Cq fun Do=>Ac C9<|some (Ay.mk [.agg [.sc (.int .i64 x9),.sc (.int .u64 Do)],.sc (.int .i64 0)] [])))) (Ae C0 Tryz.prog fu d):=by kernel_rfl
abbrev Hl:FuncId:=18
theorem Nf (fu d:Nat)(a0_0:Int)(V2:Nat)(a0_1:List PV)(a0_2n:Nat)(a0_2:List PV):Ae C0 Tryz.prog fu (d+1) Hl [.agg [.sc (.int .i64 a0_0),.lst false 1 V2 a0_1,.lst false 1 a0_2n a0_2]]=(fun (call:Am)=>A4 (decide ((↑a0_2n:Int)>4)) (some (Ay.mk [.own 1 0 [],.sc (.int .i64 9)] [])) (A4 (decide (a0_0<0)) (some (Ay.mk [.own 1 0 [],.sc (.int .i64 9)] [])) (Aa (IntKind.wrap .u64 (↑a0_2n:Int)) fun x1=>Aq (decide (0<=x1))<|Aa (Fb .i64 1 x1) fun x2=>A4 (decide (a0_0>=x2)) (some (Ay.mk [.own 1 0 [],.sc (.int .i64 9)] [])) (A4 ((↑V2:Int) != 18) (some (Ay.mk [.own 1 0 [],.sc (.int .i64 4)] [])) (Aa (IntKind.wrap .u8 a0_0) fun x3=>Aa (IntKind.wrap .u8 (↑a0_2n:Int)) fun x4=>Ag (call 38 [.lst false 1 V2 a0_1]) fun x5 x6=>Ac x6<|Ab x5 fun x7 x8=>Dk 1 x7 fun x9 Cd=>Ac x8<|Aq (decide (0+x9*1<=List.length Cd))<|Aq (decide (List.length (List.take (x9*1) (List.drop 0 Cd))=x9*1)&&decide ((2+x9)*1<=1099511627776)&&decide (2+x9<=1099511627776))<|Aa (2+x9) fun Bp=>Aa ([.sc (.int .u8 x3),.sc (.int .u8 x4)]++List.take (x9*1) (List.drop 0 Cd)) fun C4=>Ag (call 38 [.lst false 1 a0_2n a0_2]) fun Da Cq=>Ac Cq<|Ab Da fun C9 Do=>Dk 1 C9 fun Du D5=>Ac Do<|Aq (decide (0+Du*1<=List.length D5))<|Aq (decide (Bp*1<=List.length C4)&&decide (List.length (List.take (Du*1) (List.drop 0 D5))=Du*1)&&decide ((Bp+Du)*1<=1099511627776)&&decide (Bp+Du<=1099511627776))<|Aa (Bp+Du) fun D7=>Aa (List.take (Bp*1) C4++List.take (Du*1) (List.drop 0 D5)) fun Eh=>Aq (decide (D7*1<=List.length Eh))<|some (Ay.mk [.own 1 D7 (List.take (D7*1) Eh),.sc (.int .i64 0)] [])))))) (Ae C0 Tryz.prog fu d):=by kernel_rfl
abbrev Hn:FuncId:=32
noncomputable def G6 (fu:Nat)(call:Am)(a0n:Nat)(a0:List PV)(nn y0:Nat)(y1:List PV)(y2:Int)(y3 y4:Nat)(y5 y6:List PV):Option Ay:=Db C0 Tryz.prog fu call 32 Tryz.f32 (Ch Tryz.f32) [.lst false 1 a0n a0] [.r] nn ⟨lk [(0,(.lst false 1 y0 y1)),(2,(.ptr 2 0))],Gn [(2,(.st [(.sc (.int .i64 y2)),(.view 162 1 0 y3),(.view 242 1 0 y4)])),(162,(.ar false y5)),(242,(.ar false y6))]⟩
noncomputable def C6 (fu:Nat)(call:Am)(a0n:Nat)(a0:List PV)(nn y0:Nat)(y1:List PV)(y2 y3:Int)(y4 y5:Nat)(y6 y7:List PV)(y8:Int)(y9 y10:Nat)(Gc H4:List PV):Option Ay:=Db C0 Tryz.prog fu call 32 Tryz.f32 (Ch Tryz.f32) [.lst false 1 a0n a0] [.r,.r,.r,.l,.r,.l] nn ⟨lk [(0,(.lst false 1 y0 y1)),(2,(.ptr 2 0)),(4,(.ptr 4 0)),(5,(.sc (.int .i64 y2)))],Gn [(2,(.st [(.sc (.int .i64 y3)),(.view 162 1 0 y4),(.view 242 1 0 y5)])),(162,(.ar false y6)),(242,(.ar false y7)),(4,(.st [(.sc (.int .i64 y8)),(.view 164 1 0 y9),(.view 244 1 0 y10)])),(164,(.ar false Gc)),(244,(.ar false H4))]⟩
theorem K0 (fu:Nat)(call:Am)(a0n:Nat)(a0:List PV)(nn:Nat)(hnn:0<nn)(y0:Nat)(y1:List PV)(y2:Int)(y3 y4:Nat)(y5 y6:List PV):G6 fu call a0n a0 nn y0 y1 y2 y3 y4 y5 y6=(Aq (decide (0<(↑y0:Int)))<|Af .u8 (List.getD y1 0 .top) fun Da=>Aa (IntKind.wrap .i64 Da) fun Cq=>C6 fu call a0n a0 (fu) (y0) (y1) 0 (y2) (y3) (y4) (y5) (y6) Cq 0 0 ([]) ([])):=by cases nn with|zero=>exact absurd hnn (Nat.lt_irrefl 0)|succ nn=>kernel_rfl
theorem Kt (fu:Nat)(call:Am)(a0n:Nat)(a0:List PV)(nn y0:Nat)(y1:List PV)(y2 y3:Int)(y4 y5:Nat)(y6 y7:List PV)(y8:Int)(y9 y10:Nat)(Gc H4:List PV):C6 fu call a0n a0 (nn+1) y0 y1 y2 y3 y4 y5 y6 y7 y8 y9 y10 Gc H4=(Aq (decide (1<(↑y0:Int)))<|Af .u8 (List.getD y1 1 .top) fun C9=>Aa (IntKind.wrap .i64 C9) fun Do=>Aa (IntKind.wrap .i64 (18+Do)) fun Du=>A4 (decide (y2<Du)) (Aa (IntKind.wrap .i64 (8*y2)) fun D5=>Aa (IntKind.wrap .i64 (2+D5)) fun D7=>Aa (IntKind.wrap .i64 (8*y2)) fun Eh=>Aa (IntKind.wrap .i64 (10+Eh)) fun Fy=>Aq (decide (0<=D7))<|Aq (decide (0<=Fy))<|Aq (decide (Int.toNat D7<=Int.toNat Fy)&&decide (Int.toNat Fy<=y0))<|Aa (Int.toNat Fy-Int.toNat D7) fun Ci=>Aa (List.take (Ci*1) (List.drop (Int.toNat D7*1) y1)) fun Fn=>Ag (call 53 [.lst false 1 Ci Fn]) fun Ds Bx=>Ac Bx<|Ab Ds fun Fc Ft=>Af .u64 Fc fun Bk=>Ac Ft<|A4 (decide (y2<18)) (Aq (decide (y9*1<=List.length Gc)&&true&&decide ((y9+1)*8<=1099511627776)&&decide (y9+1<=1099511627776))<|Aa (y9+1) fun Cg=>Aa (List.take (y9*1) Gc++[.sc (.int .u64 Bk)]) fun Hg=>Aa (IntKind.wrap .i64 (y2+1)) fun Gf=>C6 fu call a0n a0 (nn) (y0) (y1) Gf (y3) (y4) (y5) (y6) (y7) (y8) Cg (y10) Hg (H4)) (Aq (decide (y10*1<=List.length H4)&&true&&decide ((y10+1)*8<=1099511627776)&&decide (y10+1<=1099511627776))<|Aa (y10+1) fun Ie=>Aa (List.take (y10*1) H4++[.sc (.int .u64 Bk)]) fun H0=>Aa (IntKind.wrap .i64 (y2+1)) fun Jn=>C6 fu call a0n a0 (nn) (y0) (y1) Jn (y3) (y4) (y5) (y6) (y7) (y8) (y9) Ie (Gc) H0)) (Aq (decide (y9*1<=List.length Gc))<|Aq (decide (y10*1<=List.length H4))<|some (Ay.mk [.agg [.sc (.int .i64 y8),.own 1 y9 (List.take (y9*1) Gc),.own 1 y10 (List.take (y10*1) H4)],.sc (.int .i64 0)] []))):=by kernel_rfl
theorem Nx (fu d a0n:Nat)(a0:List PV):Ae C0 Tryz.prog fu (d+1) Hn [.lst false 1 a0n a0]=(fun (call:Am)=>A4 (decide ((↑a0n:Int)<2)) (some (Ay.mk [.agg [.sc (.int .i64 0),.own 1 0 [],.own 1 0 []],.sc (.int .i64 2)] [])) (Aq (decide (1<(↑a0n:Int)))<|Af .u8 (List.getD a0 1 .top) fun x1=>Aa (IntKind.wrap .i64 x1) fun x2=>A4 (decide (x2>4)) (some (Ay.mk [.agg [.sc (.int .i64 0),.own 1 0 [],.own 1 0 []],.sc (.int .i64 2)] [])) (Aq (decide (0<(↑a0n:Int)))<|Af .u8 (List.getD a0 0 .top) fun x3=>Aa (IntKind.wrap .i64 x3) fun x4=>Aq (decide (1<(↑a0n:Int)))<|Af .u8 (List.getD a0 1 .top) fun x5=>Aa (IntKind.wrap .u64 x5) fun x6=>Aq (decide (0<=x6))<|Aa (Fb .i64 1 x6) fun x7=>A4 (decide (x4>=x7)) (some (Ay.mk [.agg [.sc (.int .i64 0),.own 1 0 [],.own 1 0 []],.sc (.int .i64 2)] [])) (Aq (decide (1<(↑a0n:Int)))<|Af .u8 (List.getD a0 1 .top) fun x8=>Aa (IntKind.wrap .i64 x8) fun x9=>Aa (IntKind.wrap .i64 (18+x9)) fun Cd=>Aa (IntKind.wrap .i64 (8*Cd)) fun Bp=>Aa (IntKind.wrap .i64 (2+Bp)) fun C4=>A4 ((↑a0n:Int) != C4) (some (Ay.mk [.agg [.sc (.int .i64 0),.own 1 0 [],.own 1 0 []],.sc (.int .i64 2)] [])) (G6 fu call a0n a0 (fu) (a0n) (a0) 0 0 0 ([]) ([])))))) (Ae C0 Tryz.prog fu d):=by kernel_rfl
abbrev Nh:FuncId:=52
noncomputable def F8 (fu:Nat)(call:Am)(a0 a1 a2:Int)(nn:Nat)(y0 y1 y2:Int)(y3:Nat)(y4:Int)(y5:List PV):Option Ay:=Db C0 Tryz.prog fu call 52 Tryz.f52 (Ch Tryz.f52) [.sc (.int .u64 a0),.sc (.int .u64 a1),.sc (.int .i64 a2)] [.r,.r,.r,.l,.r,.l] nn ⟨lk [(0,(.sc (.int .u64 y0))),(1,(.sc (.int .u64 y1))),(2,(.sc (.int .i64 y2))),(7,(.view 7 1 0 y3)),(8,(.sc (.int .i64 y4)))],Gn [(7,(.ar false y5))]⟩
theorem Ha (fu:Nat)(call:Am)(a0 a1 a2:Int)(nn:Nat)(y0 y1 y2:Int)(y3:Nat)(y4:Int)(y5:List PV):F8 fu call a0 a1 a2 (nn+1) y0 y1 y2 y3 y4 y5=(A4 (decide ((↑y3:Int)<y2)) (Aa (IntKind.wrap .u64 y4) fun x3=>Ag (call 38 [.lst false 1 2 [.sc (.int .u64 y1),.sc (.int .u64 x3)]]) fun x4 x5=>Ac x5<|Ab x4 fun x6 x7=>Dk 1 x6 fun x8 x9=>Ac x7<|Aq (decide (0+x8*1<=List.length x9))<|Ag (call 79 [.sc (.int .u64 y0),.sc (.int .i64 5),.lst false 1 x8 (List.take (x8*1) (List.drop 0 x9))]) fun Cd Bp=>Ac Bp<|Ab Cd fun C4 Da=>Af .u64 C4 fun Cq=>Ac Da<|Ag (call 38 [.lst false 1 1 [.sc (.int .u64 Cq)]]) fun C9 Do=>Ac Do<|Ab C9 fun Du D5=>Dk 1 Du fun D7 Eh=>Ac D5<|Aq (decide (0+D7*1<=List.length Eh))<|Aq (decide (y3*1<=List.length y5)&&decide (List.length (List.take (D7*1) (List.drop 0 Eh))=D7*1)&&decide ((y3+D7)*1<=1099511627776)&&decide (y3+D7<=1099511627776))<|Aa (y3+D7) fun Fy=>Aa (List.take (y3*1) y5++List.take (D7*1) (List.drop 0 Eh)) fun Ci=>Aa (IntKind.wrap .i64 (y4+1)) fun Fn=>F8 fu call a0 a1 a2 (nn) (y0) (y1) (y2) Fy Fn Ci) (Aq (decide (0<=y2))<|Aq (decide (Int.toNat y2<=y3))<|Aa (Int.toNat y2-0) fun Ds=>Aq (decide (Ds*1<=List.length y5))<|some (Ay.mk [.own 1 Ds (List.take (Ds*1) y5)] []))):=by kernel_rfl
theorem W9 (fu d:Nat)(a0 a1 a2:Int):Ae C0 Tryz.prog fu (d+1) Nh [.sc (.int .u64 a0),.sc (.int .u64 a1),.sc (.int .i64 a2)]=(fun (call:Am)=>Aa (if a2<0 then 0 else a2) fun x1=>Aa (if 1024<x1 then 1024 else x1) fun x2=>F8 fu call a0 a1 a2 (fu) (a0) (a1) x2 0 0 ([])) (Ae C0 Tryz.prog fu d):=by kernel_rfl
end
section
def Atw (seed leaf chain:Int):Int:=A4a seed 1 (A6 [IntKind.wrap .u64 leaf,IntKind.wrap .u64 chain])
def Apc (seed leaf:Int)(c:Nat):Int:=Tb leaf c 15 0 (Atw seed leaf c)
def Of (seed leaf:Int):Int:=Agf leaf ((List.range 18).map (Apc seed leaf))
def Aos (seed leaf m:Int)(c:Nat):Int:=Tb leaf c (dg m c).toNat 0 (Atw seed leaf c)
def Zf (seed leaf m:Int):List Int:=(List.range 18).map (Aos seed leaf m)
def Jq (seed:Int):Nat->Int->Int
 |0,i=>Of seed i
 |l+1,i=>M3 ((l+1:Nat):Int) (Jq seed l (2*i)) (Jq seed l (2*i+1))
theorem J0 {α:Type}(f:Nat->α)(i:Nat):(List.range (i+1)).map f=(List.range i).map f++[f i]:=by
 rw [List.range_succ,List.map_append];rfl
section
variable {fu d:Nat}
theorem Qj (h:Int):Ae C0 Tryz.prog fu (d+1) Ng [.sc (.int .i64 h)]=some ⟨[.sc (.bool (!Dd h))],[]⟩:=by
 rw [Yf];unfold Dd;by_cases h0:h<0
 ·simp (disch:=omega) only [B3,h0,decide_true,Bool.true_or,Bs]
 ·have e:decide (h<=4) = !decide (h>4):=by
   by_cases c:h<=4
   ·have:¬h>4:=by omega
    simp [c,this]
   ·have:h>4:=by omega
    simp [c,this]
  simp (disch:=omega) only [B3,h0,decide_false,Bool.false_or,e]
theorem Aui {ws:List Int}(hl:ws.length<=100)(hfu:1000<=fu)(dom:Int):Ae C0 Tryz.prog fu (d+4) Jt [.sc (.int .i64 dom),.lst false 1 (A6 ws).length (Ah .u8 (A6 ws))]=some ⟨[.sc (.int .u64 (D8 dom (A6 ws)))],[]⟩:=
 Tx (Tr ws) (by rw [C7];omega) (by omega) (by rw [C7];omega) dom
theorem Agj {call:Am}{a0 m:Int}:∀(k nn:Nat)(i:Nat),i+k=16->k<nn ->
  Gj fu call a0 nn m ((List.range i).map (Gr m)).length (J2 m i) (15-(i:Int)) (Ah .i64 ((List.range i).map (Gr m)))=some ⟨[.own 1 18 (Ah .i64 (dgs m))],[]⟩
 |_,0,_,_,h=>by omega
 |0,nn+1,i,hi,hn=>by
  have e:i=16:=by omega
  subst e;have hs:=J4 m 16
  have wq:IntKind.wrap .i64 (Int.tdiv (J2 m 16) 16)=J2 m 16 / 16:=by
   rw [Int.tdiv_eq_ediv_of_nonneg (by omega),Ap (by omega) (by omega)]
  have wm:Int.tmod (J2 m 16) 16=J2 m 16 % 16:=Int.tmod_eq_emod_of_nonneg (by omega)
  have e2:Ah .i64 ((List.range 16).map (Gr m))++[PV.sc (.int .i64 (J2 m 16 / 16)),PV.sc (.int .i64 (J2 m 16 % 16))]=Ah .i64 (dgs m):=by
   unfold dgs;rw [Ah,Ah,List.flatMap_append];rfl
  have L:(Ah .i64 (dgs m)).length=18:=by rw [Al,Av0]
  have tk:List.take 18 (Ah .i64 (dgs m))=Ah .i64 (dgs m):=Iv (by omega)
  have l16:((List.range 16).map (Gr m)).length=16:=by simp
  have L16:=Al .i64 ((List.range 16).map (Gr m));have t16:=Gs .i64 ((List.range 16).map (Gr m));rw [l16] at L16 t16 ⊢;rw [Kw,Dw _ _ _ (by omega)]
  simp (disch:=omega) only [B3,wq,wm,Bj,t16,e2,L16,Nat.reduceAdd,L,tk]
 |k+1,nn+1,i,hi,hn=>by
  have ih:=Agj (call:=call) (a0:=a0) (m:=m) k nn (i+1) (by omega) (by omega)
  have hb:=Se m i;have hs:=J4 m i;have w1:IntKind.wrap .i64 (4*(15-(i:Int)))=60-4*(i:Int):=by rw [Ap (by omega) (by omega)];omega
  have w2:IntKind.wrap .u64 (60-4*(i:Int))=60-4*(i:Int):=B6 (by omega) (by omega)
  have hd:IntKind.wrap .i64 (E9 .u64 (Eg .u64 m (60-4*(i:Int))) 15)=Gr m i:=rfl;have w15:IntKind.wrap .i64 (15-Gr m i)=15-Gr m i:=Ap (by omega) (by omega)
  have ws:IntKind.wrap .i64 (J2 m i+(15-Gr m i))=J2 m (i+1):=by rw [Ap (by omega) (by omega)];rfl
  have wi:IntKind.wrap .i64 (15-(i:Int)-1)=15-((i+1:Nat):Int):=by rw [Ap (by omega) (by omega)];omega
  have L:=Al .i64 ((List.range i).map (Gr m));have l16:((List.range i).map (Gr m)).length=i:=by simp
  rw [J0,Hz,List.length_singleton,←Fg] at ih;rw [Kw];simp (disch:=omega) only [B3,w1,w2,hd,w15,ws,wi,Bj,Gs,L];exact ih
theorem Am7 (hfu:1000<=fu)(m:Int):Ae C0 Tryz.prog fu (d+1) O3 [.sc (.int .u64 m)]=some ⟨[.own 1 18 (Ah .i64 (dgs m))],[]⟩:=by
 rw [Zr];exact Agj (fu:=fu) (a0:=m) (m:=m) 16 fu 0 (by omega) (by omega)
theorem An9 {leaf chain:Int}{a0 a1 a2 a3 a4:Int}(hfu:1000<=fu){t:Int}(ht:t<=15):∀(k nn:Nat)(p x:Int),(k:Int)=t-p->0<=p->k<nn ->
  Hq fu (Ae C0 Tryz.prog fu (d+4)) a0 a1 a2 a3 a4 nn leaf chain t x p=some ⟨[.sc (.int .u64 (Tb leaf chain k p x))],[]⟩
 |_,0,_,_,_,_,h=>by omega
 |0,nn+1,p,x,hk,hp,hn=>by
  rw [Np];simp only [Hj];rw [A0 (by omega),Dw _ _ _ (by omega)]
  rfl
 |k+1,nn+1,p,x,hk,hp,hn=>by
  have w:IntKind.wrap .i64 (p+1)=p+1:=Ap (by omega) (by omega)
  have wd:Ae C0 Tryz.prog fu (d+4) D6 [.lst false 1 4 [.sc (.int .u64 (IntKind.wrap .u64 leaf)),.sc (.int .u64 (IntKind.wrap .u64 chain)),.sc (.int .u64 (IntKind.wrap .u64 p)),.sc (.int .u64 x)]]=_:=J6 (ws:=[IntKind.wrap .u64 leaf,IntKind.wrap .u64 chain,IntKind.wrap .u64 p,x]) (by simp) (by omega) (by simp;omega)
  have hs:=Aui (fu:=fu) (d:=d) (ws:=[IntKind.wrap .u64 leaf,IntKind.wrap .u64 chain,IntKind.wrap .u64 p,x]) (by simp) hfu 1
  have ih:=An9 (leaf:=leaf) (chain:=chain) (a0:=a0) (a1:=a1) (a2:=a2) (a3:=a3) (a4:=a4) hfu ht k nn (p+1) (D8 1 (A6 [IntKind.wrap .u64 leaf,IntKind.wrap .u64 chain,IntKind.wrap .u64 p,x])) (by omega) (by omega) (by omega)
  have L:=Al .u8 (A6 [IntKind.wrap .u64 leaf,IntKind.wrap .u64 chain,IntKind.wrap .u64 p,x]);have eR:Tb leaf chain (k+1) p x=Tb leaf chain k (p+1) (D8 1 (A6 [IntKind.wrap .u64 leaf,IntKind.wrap .u64 chain,IntKind.wrap .u64 p,x])):=rfl;rw [eR];generalize A6 [IntKind.wrap .u64 leaf,IntKind.wrap .u64 chain,IntKind.wrap .u64 p,x]=W at wd hs ih L ⊢;have e15:(if (15:Int)<t then 15 else t)=t:=A0 (by omega)
  rw [Np];simp (disch:=omega) only [B3,e15,wd,Bj,Bw,Cf,Gs,L,hs,w];exact ih
theorem Ap9 {leaf chain:Int}(hfu:1000<=fu)(k:Nat)(f t x:Int)(hk:(k:Int)=t-f) (h0:0<=f)(h1:t<=15):Ae C0 Tryz.prog fu (d+5) R5 [.sc (.int .i64 leaf),.sc (.int .i64 chain),.sc (.int .i64 f),.sc (.int .i64 t),.sc (.int .u64 x)]=some ⟨[.sc (.int .u64 (Tb leaf chain k f x))],[]⟩:=by
 rw [Aef];simp only [Hj];rw [A0 (by omega)]
 exact An9 hfu h1 k fu f x hk h0 (by omega)
theorem Aix (hfu:1000<=fu)(seed leaf chain:Int):Ae C0 Tryz.prog fu (d+5) Ns [.sc (.int .u64 seed),.sc (.int .i64 leaf),.sc (.int .i64 chain)]=some ⟨[.sc (.int .u64 (Atw seed leaf chain))],[]⟩:=by
 have wd:Ae C0 Tryz.prog fu (d+4) D6 [.lst false 1 2 [.sc (.int .u64 (IntKind.wrap .u64 leaf)),.sc (.int .u64 (IntKind.wrap .u64 chain))]]=_:=J6 (ws:=[IntKind.wrap .u64 leaf,IntKind.wrap .u64 chain]) (by simp) (by omega) (by simp;omega)
 have hs:=Avf (fu:=fu) (d:=d) (Tr [IntKind.wrap .u64 leaf,IntKind.wrap .u64 chain]) (by rw [C7];simp) (by omega) (by rw [C7];simp;omega) seed 1
 have L:=Al .u8 (A6 [IntKind.wrap .u64 leaf,IntKind.wrap .u64 chain]);rw [Xc];unfold Atw;generalize A6 [IntKind.wrap .u64 leaf,IntKind.wrap .u64 chain]=W at wd hs L ⊢;simp (disch:=omega) only [B3,wd,Bj,Bw,Cf,Gs,L,hs]
theorem Aua (hfu:1000<=fu)(w:Int):Ae C0 Tryz.prog fu (d+1) D6 [.lst false 1 1 [.sc (.int .u64 w)]]=some ⟨[.own 1 8 (Ah .u8 (Ca w))],[]⟩:=by
 have:=J6 (fu:=fu) (d:=d) (ws:=[w]) (by simp) (by omega) (by simp;omega)
 simp only [A6,List.flatMap_cons,List.flatMap_nil,List.append_nil,Iw,Y6,Cw] at this;exact this
theorem Aqv (hfu:1000<=fu)(leaf:Int){E:List Int}(hE:E.length<=50):Ae C0 Tryz.prog fu (d+5) Qu [.sc (.int .i64 leaf),.lst false 1 E.length (Ah .u64 E)]=some ⟨[.sc (.int .u64 (Agf leaf E))],[]⟩:=by
 have w1:=Aua (fu:=fu) (d:=d+3) hfu (IntKind.wrap .u64 leaf);have w2:=J6 (fu:=fu) (d:=d+3) (ws:=E) (by omega) (by omega) (by omega)
 have hs:=Aui (fu:=fu) (d:=d) (ws:=IntKind.wrap .u64 leaf::E) (by simp;omega) hfu 2
 have eW:A6 (IntKind.wrap .u64 leaf::E)=Ca (IntKind.wrap .u64 leaf)++A6 E:=rfl
 have eC:Ah .u8 (Ca (IntKind.wrap .u64 leaf))++Ah .u8 (A6 E)=Ah .u8 (A6 (IntKind.wrap .u64 leaf::E)):=by
  rw [eW,Ah,Ah,Ah,List.flatMap_append]
 have l0:(Ca (IntKind.wrap .u64 leaf)).length=8:=Cw _;have l1:=C7 E;have l2:(A6 (IntKind.wrap .u64 leaf::E)).length=8+(A6 E).length:=by rw [eW,Hz,l0]
 have L0:=Al .u8 (Ca (IntKind.wrap .u64 leaf));rw [l0] at L0;have L1:=Al .u8 (A6 E);have L2:=Al .u8 (A6 (IntKind.wrap .u64 leaf::E));have t8:List.take 8 (Ah .u8 (Ca (IntKind.wrap .u64 leaf)))=Ah .u8 (Ca (IntKind.wrap .u64 leaf)):=Iv (by omega)
 have tW:List.take (8+(A6 E).length) (Ah .u8 (A6 (IntKind.wrap .u64 leaf::E)))=Ah .u8 (A6 (IntKind.wrap .u64 leaf::E)):=Iv (by omega)
 rw [l2] at hs;rw [Aav];simp (disch:=omega) only [B3,w1,w2,Bj,Bw,Cf,Gs,t8,L0,L1,eC,L2,tW,hs];rfl
theorem Aj9 {a0 a1 seed leaf:Int}(hfu:1000<=fu):∀(k nn i:Nat),i+k=18->k<nn ->
  Gy fu (Ae C0 Tryz.prog fu (d+5)) a0 a1 nn seed leaf ((List.range i).map (Apc seed leaf)).length i (Ah .u64 ((List.range i).map (Apc seed leaf)))=some ⟨[.sc (.int .u64 (Of seed leaf))],[]⟩
 |_,0,_,_,h=>by omega
 |0,nn+1,i,hi,hn=>by
  have e:i=18:=by omega
  subst e;have l18:((List.range 18).map (Apc seed leaf)).length=18:=by simp
  have en:=Aqv (fu:=fu) (d:=d) hfu leaf (E:=(List.range 18).map (Apc seed leaf)) (by omega)
  have L:=Al .u64 ((List.range 18).map (Apc seed leaf));rw [Mr,Dw _ _ _ (by omega)]
  simp (disch:=omega) only [B3,Bj,Bw,Cf,Gs,L,en];rfl
 |k+1,nn+1,i,hi,hn=>by
  have ih:=Aj9 (a0:=a0) (a1:=a1) (seed:=seed) (leaf:=leaf) hfu k nn (i+1) (by omega) (by omega)
  have sc:=Aix (fu:=fu) (d:=d) hfu seed leaf i;have rn:=Ap9 (fu:=fu) (d:=d) (leaf:=leaf) (chain:=i) hfu 15 0 15 (Atw seed leaf i) (by omega) (by omega) (by omega)
  have w:IntKind.wrap .i64 ((i:Int)+1)=((i+1:Nat):Int):=by rw [Ap (by omega) (by omega)];omega
  have L:=Al .u64 ((List.range i).map (Apc seed leaf));have li:((List.range i).map (Apc seed leaf)).length=i:=by simp
  rw [J0,Hz,List.length_singleton,←Fg] at ih;rw [Mr];simp (disch:=omega) only [B3,sc,rn,Bj,Gs,L,w];exact ih
theorem A0a (hfu:1000<=fu)(seed leaf:Int):Ae C0 Tryz.prog fu (d+6) Qz [.sc (.int .u64 seed),.sc (.int .i64 leaf)]=some ⟨[.sc (.int .u64 (Of seed leaf))],[]⟩:=by
 rw [Aaw];exact Aj9 (fu:=fu) (d:=d) hfu 18 fu 0 (by omega) (by omega)
theorem A53 (m:Int){i:Nat}(h:i<18):(dgs m)[i]?=some (dg m i):=by
 unfold dg;rw [List.getD_eq_getElem?_getD,List.getElem?_eq_getElem (by rw [Av0];omega)]
 rfl
theorem Wz {a0 a1 a2 seed leaf m:Int}(hfu:1000<=fu):∀(k nn i:Nat),i+k=18->k<nn ->
  Fo fu (Ae C0 Tryz.prog fu (d+5)) a0 a1 a2 nn seed leaf 18 ((List.range i).map (Aos seed leaf m)).length i (Ah .i64 (dgs m)) (Ah .u64 ((List.range i).map (Aos seed leaf m)))=some ⟨[.own 1 18 (Ah .u64 (Zf seed leaf m))],[]⟩
 |_,0,_,_,h=>by omega
 |0,nn+1,i,hi,hn=>by
  have e:i=18:=by omega
  subst e;have l18:((List.range 18).map (Aos seed leaf m)).length=18:=by simp
  have L:=Al .u64 ((List.range 18).map (Aos seed leaf m));rw [Jb,Dw _ _ _ (by omega)]
  simp (disch:=omega) only [B3,Bj,Gs,L];rw [l18];rfl
 |k+1,nn+1,i,hi,hn=>by
  have ih:=Wz (a0:=a0) (a1:=a1) (a2:=a2) (seed:=seed) (leaf:=leaf) (m:=m) hfu k nn (i+1) (by omega) (by omega)
  have hb:=Yr m i;have sc:=Aix (fu:=fu) (d:=d) hfu seed leaf i;have rn:=Ap9 (fu:=fu) (d:=d) (leaf:=leaf) (chain:=i) hfu (dg m i).toNat 0 (dg m i) (Atw seed leaf i) (by omega) (by omega) (by omega)
  have w:IntKind.wrap .i64 ((i:Int)+1)=((i+1:Nat):Int):=by rw [Ap (by omega) (by omega)];omega
  have L:=Al .u64 ((List.range i).map (Aos seed leaf m));have li:((List.range i).map (Aos seed leaf m)).length=i:=by simp
  rw [J0,Hz,List.length_singleton,←Fg] at ih;rw [Jb];simp (disch:=omega) only [B3,Hr,Bj,Bw,Ps (A53 m (show i<18 by omega)),sc,rn,Gs,L,w]
  exact ih
theorem Ap3 (hfu:1000<=fu)(seed leaf m:Int):Ae C0 Tryz.prog fu (d+6) Lt [.sc (.int .u64 seed),.sc (.int .i64 leaf),.sc (.int .u64 m)]=some ⟨[.own 1 18 (Ah .u64 (Zf seed leaf m))],[]⟩:=by
 rw [Vh];have sp:=Am7 (fu:=fu) (d:=d+4) hfu m;simp only [B3,sp];exact Wz (fu:=fu) (d:=d) hfu 18 fu 0 (by omega) (by omega)
theorem Aal {a0 a1:Int}{n:Nat}{c:List PV}{leaf m:Int}{s:List Int}(hs:s.length=18)(hfu:1000<=fu):∀(k nn i:Nat),i+k=18->k<nn ->
  Fx fu (Ae C0 Tryz.prog fu (d+5)) a0 a1 n c nn leaf s.length (Ah .u64 s) 18 ((List.range i).map (Zq leaf m s)).length i (Ah .i64 (dgs m)) (Ah .u64 ((List.range i).map (Zq leaf m s)))=some ⟨[.sc (.int .u64 (Alv leaf m s)),.sc (.int .i64 0)],[]⟩
 |_,0,_,_,h=>by omega
 |0,nn+1,i,hi,hn=>by
  have e:i=18:=by omega
  subst e;have l18:((List.range 18).map (Zq leaf m s)).length=18:=by simp
  have en:=Aqv (fu:=fu) (d:=d) hfu leaf (E:=(List.range 18).map (Zq leaf m s)) (by omega)
  have L:=Al .u64 ((List.range 18).map (Zq leaf m s));rw [Jo,Dw _ _ _ (by omega)]
  simp (disch:=omega) only [B3,Bj,Bw,Cf,Gs,L,en];rfl
 |k+1,nn+1,i,hi,hn=>by
  have ih:=Aal (a0:=a0) (a1:=a1) (n:=n) (c:=c) (leaf:=leaf) (m:=m) hs hfu k nn (i+1) (by omega) (by omega)
  obtain ⟨x,hx⟩:∃x,s[i]?=some x:=⟨_,List.getElem?_eq_getElem (by omega)⟩
  have hb:=Yr m i;have rn:=Ap9 (fu:=fu) (d:=d) (leaf:=leaf) (chain:=i) hfu (15-dg m i).toNat (dg m i) 15 x (by omega) (by omega) (by omega)
  have ev:Tb leaf i (15-dg m i).toNat (dg m i) x=Zq leaf m s i:=by
   unfold Zq;rw [List.getD_eq_getElem?_getD,hx];rfl
  rw [ev] at rn;have w:IntKind.wrap .i64 ((i:Int)+1)=((i+1:Nat):Int):=by rw [Ap (by omega) (by omega)];omega
  have L:=Al .u64 ((List.range i).map (Zq leaf m s));have li:((List.range i).map (Zq leaf m s)).length=i:=by simp
  rw [J0,Hz,List.length_singleton,←Fg] at ih;rw [Jo];simp (disch:=omega) only [B3,Hr,Bj,Bw,Ps (A53 m (show i<18 by omega)),Ps hx,rn,Gs,L,w]
  exact ih
theorem Arx (hfu:1000<=fu)(leaf m:Int)(s:List Int):Ae C0 Tryz.prog fu (d+6) Mn [.sc (.int .i64 leaf),.sc (.int .u64 m),.lst false 1 s.length (Ah .u64 s)]=some ⟨(if s.length=18 then [.sc (.int .u64 (Alv leaf m s)),.sc (.int .i64 0)] else [.sc (.int .u64 0),.sc (.int .i64 4)]),[]⟩:=by
 refine (Wn fu (d+5) leaf m s.length (Ah .u64 s)).trans ?_;by_cases h:s.length=18
 ·have sp:=Am7 (fu:=fu) (d:=d+4) hfu m;have lp:=Aal (fu:=fu) (d:=d) (a0:=leaf) (a1:=m) (n:=s.length) (c:=Ah .u64 s) (leaf:=leaf) (m:=m) h hfu 18 fu 0 (by omega) (by omega)
  simp only [Di];rw [Bm h,Bm (by omega)]
  simp only [B3,sp];exact lp
 ·simp only [Di];rw [A0 h,A0 (by omega)]
theorem Aa1 (hfu:1000<=fu)(level a b:Int):Ae C0 Tryz.prog fu (d+5) Nb [.sc (.int .i64 level),.sc (.int .u64 a),.sc (.int .u64 b)]=some ⟨[.sc (.int .u64 (M3 level a b))],[]⟩:=by
 have wd:Ae C0 Tryz.prog fu (d+4) D6 [.lst false 1 3 [.sc (.int .u64 (IntKind.wrap .u64 level)),.sc (.int .u64 a),.sc (.int .u64 b)]]=_:=J6 (ws:=[IntKind.wrap .u64 level,a,b]) (by simp) (by omega) (by simp;omega)
 have hs:=Aui (fu:=fu) (d:=d) (ws:=[IntKind.wrap .u64 level,a,b]) (by simp) hfu 3
 have L:=Al .u8 (A6 [IntKind.wrap .u64 level,a,b]);rw [Xt];unfold M3;generalize A6 [IntKind.wrap .u64 level,a,b]=W at wd hs L ⊢;simp (disch:=omega) only [B3,wd,Bj,Bw,Cf,Gs,L,hs]
theorem Adu (hfu:1000<=fu)(seed:Int):∀(l:Nat)(i B:Int),0<=i->i<=B->(2 ^ l:Nat)*(B+1)<=1000000000->l<=20->Ae C0 Tryz.prog fu (d+7+l) Qv [.sc (.int .u64 seed),.sc (.int .i64 l),.sc (.int .i64 i)]=some ⟨[.sc (.int .u64 (Jq seed l i))],[]⟩
 |0,i,B,h0,h1,h2,hl=>by
  have lf:=A0a (fu:=fu) (d:=d) hfu seed i;refine (Qm fu (d+6) seed 0 i).trans ?_;simp only [B3,Fd,if_true,lf];rfl
 |l+1,i,B,h0,h1,h2,hl=>by
  have hq:(2 ^ (l+1):Nat)=2 ^ l*2:=Nat.pow_succ _ _;have hpos:0<2 ^ l:=Nat.pow_pos (by omega)
  rw [hq] at h2;generalize hQ:2 ^ l=q at h2 hpos
  have hb:((q*2:Nat):Int)*(B+1)=(q:Int)*(2*B+1+1):=by
   rw [Int.natCast_mul,Int.mul_assoc]
   congr 1
   omega
  rw [hb] at h2
  have hBq:2*B+1+1<=(q:Int)*(2*B+1+1):=by
   have:=Int.mul_le_mul_of_nonneg_right (show (1:Int)<=q by omega) (show (0:Int)<=2*B+1+1 by omega)
   omega
  have n1:=Adu hfu seed l (2*i) (2*B+1) (by omega) (by omega) (by rw [hQ];exact h2) (by omega)
  have n2:=Adu hfu seed l (2*i+1) (2*B+1) (by omega) (by omega) (by rw [hQ];exact h2) (by omega)
  have pr:=Aa1 (fu:=fu) (d:=d+2+l) hfu ((l+1:Nat):Int) (Jq seed l (2*i)) (Jq seed l (2*i+1));rw [show d+2+l+5=d+7+l by omega] at pr
  have w1:IntKind.wrap .i64 (((l+1:Nat):Int)-1)=(l:Int):=by rw [Ap (by omega) (by omega)];omega
  have w2:IntKind.wrap .i64 (2*i)=2*i:=Ap (by omega) (by omega)
  have w3:IntKind.wrap .i64 (2*i+1)=2*i+1:=Ap (by omega) (by omega)
  have ne:¬(((l+1:Nat):Int)=0):=by omega
  refine (Qm fu (d+7+l) seed ((l+1:Nat):Int) i).trans ?_;simp only [B3,Fd,ne,if_false,w1,w2,w3,n1,n2,pr];rfl
end
end
section
def Eo (seed:Int)(h:Int):Ky:=if Dd h=true then ⟨0,0⟩ else ⟨h,Jq seed h.toNat 0⟩
def Wi (leaf:Int)(k:Nat):Int:=Em .i64 (Eg .i64 leaf k) 1
def Al7 (seed:Int)(h leaf m:Int):Option Sg:=if Dd h=true then none else if F4 leaf h=true then none else some ⟨leaf,Zf seed leaf m,(List.range h.toNat).map fun k=>Jq seed k (Wi leaf k)⟩
def Ac1 (o:Option Sg):List PV:=match o with|some s=>[.agg s.owned,.sc (.int .i64 0)]|none=>[.agg (Sg.mk 0 [] []).owned,.sc (.int .i64 9)]
theorem wu {h:Int}(h0:0<=h)(h4:h<=4):IntKind.wrap .u64 h=h:=B6 (by omega) (by omega)
theorem Ato {leaf h:Int}(h0:0<=h)(h4:h<=4)(ho:F4 leaf h=false):0<=leaf∧leaf<2 ^ h.toNat:=by
 unfold F4 at ho;simp only [Bool.or_eq_false_iff,decide_eq_false_iff_not] at ho;have:h=0∨h=1∨h=2∨h=3∨h=4:=by omega
 rcases this with rfl|rfl|rfl|rfl|rfl
 ·have e:Fb .i64 1 0=1:=by decide
  rw [e] at ho;exact ⟨by omega,by show leaf<1;omega⟩
 ·have e:Fb .i64 1 1=2:=by decide
  rw [e] at ho;exact ⟨by omega,by show leaf<2;omega⟩
 ·have e:Fb .i64 1 2=4:=by decide
  rw [e] at ho;exact ⟨by omega,by show leaf<4;omega⟩
 ·have e:Fb .i64 1 3=8:=by decide
  rw [e] at ho;exact ⟨by omega,by show leaf<8;omega⟩
 ·have e:Fb .i64 1 4=16:=by decide
  rw [e] at ho;exact ⟨by omega,by show leaf<16;omega⟩
theorem A7s {h:Int}(h0:0<=h)(h4:h<=4):(2:Int) ^ h.toNat<=16:=by
 have:h=0∨h=1∨h=2∨h=3∨h=4:=by omega
 rcases this with rfl|rfl|rfl|rfl|rfl<;>decide
theorem Au7 {leaf:Int}(h0:0<=leaf)(h1:leaf<16){k:Nat}(hk:k<4):0<=Wi leaf k∧Wi leaf k<=15:=by
 have H:∀n:Fin 16,∀k:Fin 4,0<=Wi (n.val:Int) k.val∧Wi (n.val:Int) k.val<=15:=by decide
 obtain ⟨n,rfl⟩:=Int.eq_ofNat_of_zero_le h0;exact H ⟨n,by omega⟩ ⟨k,hk⟩
section
variable {fu d:Nat}
theorem Atc (hfu:1000<=fu)(seed h:Int):Ae C0 Tryz.prog fu (d+12) Nd [.sc (.int .u64 seed),.sc (.int .i64 h)]=some ⟨[.agg (Eo seed h).cells,.sc (.int .i64 (if Dd h=true then 9 else 0))],[]⟩:=by
 refine (Ye fu (d+11) seed h).trans ?_;have h1:=Qj (fu:=fu) (d:=d+10) h;unfold Eo;cases c1:Dd h
 ·rw [c1] at h1;have hb:=Ga c1
  have nd:=Adu (fu:=fu) (d:=d+4-h.toNat) hfu seed h.toNat 0 0 (by omega) (by omega) (by
   have:h=0∨h=1∨h=2∨h=3∨h=4:=by omega
   rcases this with rfl|rfl|rfl|rfl|rfl<;>decide) (by omega)
  rw [show d+4-h.toNat+7+h.toNat=d+11 by omega,show ((h.toNat:Nat):Int)=h by omega] at nd
  simp only [B3,h1,nd];rfl
 ·rw [c1] at h1;simp only [B3,h1];rfl
theorem Ajh {a0 a1 a2 a3:Int}{seed leaf h:Int}(hh:0<=h∧h<=4)(hl:0<=leaf∧leaf<16)(hfu:1000<=fu){y4 y9:Int}{y5 y6:Nat}{y7 y8:List PV}{ch:List Int}:∀(k nn i:Nat),i+k=h.toNat->k<nn ->
  G1 fu (Ae C0 Tryz.prog fu (d+11)) a0 a1 a2 a3 nn seed h leaf i y4 y5 y6 y7 y8 leaf ch.length ((List.range i).map fun k=>Jq seed k (Wi leaf k)).length (Ah .u64 ch) (Ah .u64 ((List.range i).map fun k=>Jq seed k (Wi leaf k)))=some ⟨[.agg (Sg.mk leaf ch ((List.range h.toNat).map fun k=>Jq seed k (Wi leaf k))).owned,.sc (.int .i64 0)],[]⟩
 |_,0,_,_,h=>by omega
 |0,nn+1,i,hi,hn=>by
  have e:i=h.toNat:=by omega
  subst e;have L1:=Al .u64 ch;have L2:=Al .u64 ((List.range h.toNat).map fun k=>Jq seed k (Wi leaf k))
  rw [Md,Dw _ _ _ (by omega)]
  simp (disch:=omega) only [B3,Bj,Gs,L1,L2];rfl
 |k+1,nn+1,i,hi,hn=>by
  have ih:=Ajh (a0:=a0) (a1:=a1) (a2:=a2) (a3:=a3) (seed:=seed) (y4:=y4) (y9:=y9) (y5:=y5) (y6:=y6) (y7:=y7) (y8:=y8) (ch:=ch) hh hl hfu k nn (i+1) (by omega) (by omega)
  have sb:=Au7 hl.1 hl.2 (k:=i) (by omega)
  have nd:=Adu (fu:=fu) (d:=d+4-i) hfu seed i (Wi leaf i) 15 sb.1 sb.2 (by
   have:i=0∨i=1∨i=2∨i=3:=by omega
   rcases this with rfl|rfl|rfl|rfl<;>decide) (by omega)
  rw [show d+4-i+7+i=d+11 by omega] at nd
  have es:Em .i64 (Eg .i64 leaf (i:Int)) 1=Wi leaf i:=rfl;have w:IntKind.wrap .i64 ((i:Int)+1)=((i+1:Nat):Int):=by rw [Ap (by omega) (by omega)];omega
  have wi:IntKind.wrap .u64 (i:Int)=i:=B6 (by omega) (by omega)
  have L:=Al .u64 ((List.range i).map fun k=>Jq seed k (Wi leaf k))
  have li:((List.range i).map fun k=>Jq seed k (Wi leaf k)).length=i:=by simp
  rw [J0,Hz,List.length_singleton,←Fg] at ih;rw [Md];simp (disch:=omega) only [B3,wi,es,nd,Bj,Gs,L,w];exact ih
theorem Akj (hfu:1000<=fu)(seed h leaf m:Int):Ae C0 Tryz.prog fu (d+12) P1 [.sc (.int .u64 seed),.sc (.int .i64 h),.sc (.int .i64 leaf),.sc (.int .u64 m)]=some ⟨Ac1 (Al7 seed h leaf m),[]⟩:=by
 refine (Ab2 fu (d+11) seed h leaf m).trans ?_;have h1:=Qj (fu:=fu) (d:=d+10) h;unfold Al7;cases c1:Dd h
 ·rw [c1] at h1;have hb:=Ga c1;have w:=wu hb.1 hb.2;rw [A0 (by simp)]
  by_cases hn:leaf<0
  ·have ho:F4 leaf h=true:=by unfold F4;simp [hn]
   rw [Bm ho];simp (disch:=omega) only [B3,h1];rfl
  ·by_cases hg:leaf>=Fb .i64 1 h
   ·have ho:F4 leaf h=true:=by unfold F4;simp [hg]
    rw [Bm ho];simp (disch:=first|omega|exact hg) only [B3,h1,w];rfl
   ·have ho:F4 leaf h=false:=by unfold F4;simp only [Bool.or_eq_false_iff,decide_eq_false_iff_not];exact ⟨hn,hg⟩
    have hlt:=Ato hb.1 hb.2 ho;have h16:=A7s hb.1 hb.2;rw [A0 (by rw [ho];simp)]
    have sl:=Ap3 (fu:=fu) (d:=d+5) hfu seed leaf m;have lp:=Ajh (fu:=fu) (d:=d) (a0:=seed) (a1:=h) (a2:=leaf) (a3:=m) (seed:=seed) (leaf:=leaf) (h:=h) hb (by omega) hfu (y4:=0) (y9:=0) (y5:=0) (y6:=0) (y7:=[]) (y8:=[]) (ch:=Zf seed leaf m) h.toNat fu 0 (by omega) (by omega)
    have l18:(Zf seed leaf m).length=18:=by simp [Zf]
    rw [l18] at lp;simp (disch:=first|omega|exact hg) only [B3,h1,w,sl];exact lp
 ·rw [c1] at h1;rw [Bm rfl];simp (disch:=omega) only [B3,h1];rfl
theorem Adg {a0 a1 a2 a3:Int}{n1 n2 n3:Nat}{c1 c2 c3:List PV}{root leaf:Int}{path:List Int}(hp:path.length<=100)(hfu:1000<=fu):∀(r:List Int)(i nn:Nat)(x:Int),path.drop i=r->r.length<nn->i<=path.length ->
  E2 fu (Ae C0 Tryz.prog fu (d+5)) a0 a1 a2 a3 n1 c1 n2 c2 nn x i path.length root leaf n3 c3 path.length (Ah .u64 path)=some ⟨[.sc (.int .i64 (okE (Vg leaf i x r) root))],[]⟩
 |_,_,0,_,_,h,_=>by omega
 |[],i,nn+1,x,h,hn,hi=>by
  have:=drop_nil h;rw [J9,Dw _ _ _ (by omega),Di]
  rw [Aiv];unfold okE;by_cases e:x=root
  ·rw [Bm e,Bm e]
  ·rw [A0 e,A0 e]
 |s::r,i,nn+1,x,h,hn,hi=>by
  obtain ⟨h1,h2,h3⟩:=Ct h;simp only [Iw] at hn;have w:IntKind.wrap .i64 ((i:Int)+1)=((i+1:Nat):Int):=by rw [Ap (by omega) (by omega)];omega
  have wi:IntKind.wrap .u64 (i:Int)=i:=B6 (by omega) (by omega)
  have ih:=fun x=>Adg (a0:=a0) (a1:=a1) (a2:=a2) (a3:=a3) (n1:=n1) (n2:=n2) (n3:=n3) (c1:=c1) (c2:=c2) (c3:=c3) (root:=root) (leaf:=leaf) hp hfu r (i+1) nn x h3 (by omega) (by omega)
  have p1:=Aa1 (fu:=fu) (d:=d) hfu ((i+1:Nat):Int) x s;have p2:=Aa1 (fu:=fu) (d:=d) hfu ((i+1:Nat):Int) s x;rw [J9,X5];by_cases hb:E9 .i64 (Eg .i64 leaf i) 1=0
  ·rw [Bm hb,←ih];simp (disch:=omega) only [B3,Hr,Bj,Ps h2,Fd,wi,hb,w,p1,if_true]
  ·rw [A0 hb,←ih];simp (disch:=omega) only [B3,Hr,Bj,Ps h2,Fd,wi,hb,w,p2,if_false]
theorem Au3 (hfu:1000<=fu)(k:Ky)(m:Int)(s:Sg):Ae C0 Tryz.prog fu (d+7) Nl [.agg k.cells,.sc (.int .u64 m),.agg s.cells]=some ⟨[.sc (.int .i64 (L8 k m s))],[]⟩:=by
 refine (Ww fu (d+6) k.h k.root m s.leaf s.chains.length (Ah .u64 s.chains) s.path.length (Ah .u64 s.path)).trans ?_;have h1:=Qj (fu:=fu) (d:=d+5) k.h;unfold L8;cases c1:Dd k.h
 ·rw [c1] at h1;have hb:=Ga c1;have w:=wu hb.1 hb.2;rw [A0 (by simp)]
  by_cases hn:s.leaf<0
  ·have ho:F4 s.leaf k.h=true:=by unfold F4;simp [hn]
   rw [Bm ho];simp (disch:=omega) only [B3,h1]
  ·by_cases hg:s.leaf>=Fb .i64 1 k.h
   ·have ho:F4 s.leaf k.h=true:=by unfold F4;simp [hg]
    rw [Bm ho];simp (disch:=first|omega|exact hg) only [B3,h1,w]
   ·have ho:F4 s.leaf k.h=false:=by unfold F4;simp only [Bool.or_eq_false_iff,decide_eq_false_iff_not];exact ⟨hn,hg⟩
    rw [A0 (by rw [ho];simp)]
    by_cases c3:s.chains.length=18
    ·by_cases c4:(s.path.length:Int)=k.h
     ·have rc:=Arx (fu:=fu) (d:=d) hfu s.leaf m s.chains;rw [Bm c3] at rc;have vl:=Adg (fu:=fu) (d:=d+1) (a0:=k.h) (a1:=k.root) (a2:=m) (a3:=s.leaf) (n1:=s.chains.length) (n2:=s.path.length) (n3:=s.chains.length) (c1:=Ah .u64 s.chains) (c2:=Ah .u64 s.path) (c3:=Ah .u64 s.chains) (root:=k.root) (leaf:=s.leaf) (path:=s.path) (by omega) hfu s.path 0 fu (Alv s.leaf m s.chains) rfl (by omega) (by omega)
      rw [A0 (by omega),A0 (by omega),←vl]
      simp (disch:=first|omega|exact hg) only [B3,h1,w,Di,rc,c4,if_true];rw [Bm (by omega)]
      rfl
     ·rw [A0 (by omega),Bm c4]
      simp (disch:=first|omega|exact hg) only [B3,h1,w,Di,c4,if_false];rw [Bm (by omega)]
    ·rw [Bm c3];simp (disch:=first|omega|exact hg) only [B3,h1,w,Di];rw [A0 (by omega)]
 ·rw [c1] at h1;rw [Bm rfl];simp (disch:=omega) only [B3,h1]
theorem Abs (hfu:1000<=fu)(k:Ky):Ae C0 Tryz.prog fu (d+2) J7 [.agg k.cells]=some ⟨(if Dd k.h=true then [.own 1 0 [],.sc (.int .i64 9)] else [.own 1 9 (Ah .u8 (Gl k)),.sc (.int .i64 0)]),[]⟩:=by
 refine (Tf fu (d+1) k.h k.root).trans ?_;have h1:=Qj (fu:=fu) (d:=d) k.h;have wd:=Aua (fu:=fu) (d:=d) hfu k.root;have L:=Al .u8 (Ca k.root);rw [Cw] at L;have t8:List.take 8 (Ah .u8 (Ca k.root))=Ah .u8 (Ca k.root):=Iv (by omega)
 have t9:List.take 9 ([PV.sc (.int .u8 (IntKind.wrap .u8 k.h))]++Ah .u8 (Ca k.root))=Ah .u8 (Gl k):=by
  rw [Iv (by rw [Hz,L];simp)]
  rfl
 have L9:([PV.sc (.int .u8 (IntKind.wrap .u8 k.h))]++Ah .u8 (Ca k.root)).length=9:=by rw [Hz,L];rfl
 cases c1:Dd k.h
 ·rw [c1] at h1;rw [A0 (by simp)]
  simp (disch:=omega) only [B3,h1,wd,Bj,Bw,Cf,L,t8,Nat.reduceAdd,L9,t9]
 ·rw [c1] at h1;rw [Bm rfl];simp (disch:=omega) only [B3,h1]
theorem Akv {call:Am}{n:Nat}{c:List PV}{l:List Int}(hl:l.length=8):∀(r:List Int)(j nn:Nat)(x:Int),l.drop j=r->r.length<nn->j<=8 ->
  G3 fu call n c nn l.length (Ah .u8 l) x j=some ⟨[.sc (.int .u64 (r.foldl Ev x))],[]⟩
 |_,_,0,_,_,h,_=>by omega
 |[],j,nn+1,x,h,hn,hj=>by
  have:=drop_nil h;rw [Mm,Dw _ _ _ (by omega)]
  rfl
 |b::r,j,nn+1,x,h,hn,hj=>by
  obtain ⟨h1,h2,h3⟩:=Ct h;simp only [Iw] at hn;have w:IntKind.wrap .i64 ((j:Int)+1)=((j+1:Nat):Int):=by rw [Ap (by omega) (by omega)];omega
  have ih:=Akv (call:=call) (n:=n) (c:=c) hl r (j+1) nn (Ev x b) h3 (by omega) (by omega)
  rw [List.foldl_cons,←ih,Mm];simp (disch:=omega) only [B3,Hr,Bj,Ps h2,w]
theorem Adi (hfu:1000<=fu){l:List Int}(hl:l.length=8):Ae C0 Tryz.prog fu (d+1) Q2 [.lst false 1 8 (Ah .u8 l)]=some ⟨[.sc (.int .u64 (Zu l))],[]⟩:=by
 rw [Aa5];have:=Akv (fu:=fu) (call:=Ae C0 Tryz.prog fu d) (n:=8) (c:=Ah .u8 l) hl l 0 fu 0 rfl (by omega) (by omega)
 rw [hl] at this;exact this
theorem Aif (hfu:1000<=fu){l:List Int}(hb:Hf l):Ae C0 Tryz.prog fu (d+2) Ke [.lst false 1 l.length (Ah .u8 l)]=some ⟨Abl (Zj l),[]⟩:=by
 refine (Tw fu (d+1) l.length (Ah .u8 l)).trans ?_;unfold Zj;by_cases h9:l.length=9
 ·obtain ⟨x,hx⟩:∃x,l[0]?=some x:=⟨_,List.getElem?_eq_getElem (by omega)⟩
  have hxb:=hb x (List.mem_of_getElem? hx);have wx:IntKind.wrap .i64 x=x:=Ap (by omega) (by omega)
  have gx:l.getD 0 0=x:=by rw [List.getD_eq_getElem?_getD,hx];rfl
  have h1:=Qj (fu:=fu) (d:=d) x;rw [gx];cases c1:Dd x
  ·rw [c1] at h1;have hdl:(l.drop 1).length=8:=by rw [List.length_drop];omega
   have dw:=Adi (fu:=fu) (d:=d) hfu hdl
   have ew:Zu (l.drop 1)=Je (l.drop 1) 0:=by
    unfold Je;rw [Nat.mul_zero,Cf,Iv (by omega)]
   rw [ew] at dw;have e8:9-1=8:=rfl;have tk:List.take 8 (Ah .u8 (l.drop 1))=Ah .u8 (l.drop 1):=Iv (by rw [Al];omega)
   rw [Bm ⟨h9,rfl⟩,h9];simp (disch:=omega) only [B3,Di,Ps hx,wx,h1,Bj,Et,e8,tk,dw];rfl
  ·rw [c1] at h1;rw [A0 (by simp),h9]
   simp (disch:=omega) only [B3,Di,Ps hx,wx,h1];rfl
 ·rw [A0 (by simp [h9])]
  simp (disch:=omega) only [Di];rw [A0 (by omega)]
  rfl
end
end
section
section
variable {fu d:Nat}
theorem A0r (n:Nat):Dd (n:Int)=decide ((n:Int)>4):=by
 unfold Dd;have:¬((n:Int)<0):=by omega
 simp [this]
theorem Abn (hfu:1000<=fu)(s:Sg)(hp:s.path.length<=1000000000):Ae C0 Tryz.prog fu (d+2) Hl [.agg s.cells]=some ⟨(if Dd s.path.length=true then [.own 1 0 [],.sc (.int .i64 9)] else if F4 s.leaf s.path.length=true then [.own 1 0 [],.sc (.int .i64 9)] else if s.chains.length≠18 then [.own 1 0 [],.sc (.int .i64 4)] else [.own 1 (Ly s).length (Ah .u8 (Ly s)),.sc (.int .i64 0)]),[]⟩:=by
 refine (Nf fu (d+1) s.leaf s.chains.length (Ah .u64 s.chains) s.path.length (Ah .u64 s.path)).trans ?_;rw [A0r];by_cases c1:(s.path.length:Int)>4
 ·rw [Bm (by simp [c1])]
  simp (disch:=omega) only [B3]
 ·rw [A0 (by simp [c1])]
  have w:=wu (h:=s.path.length) (by omega) (by omega)
  by_cases hn:s.leaf<0
  ·have ho:F4 s.leaf s.path.length=true:=by unfold F4;simp [hn]
   rw [Bm ho];simp (disch:=omega) only [B3]
  ·by_cases hg:s.leaf>=Fb .i64 1 s.path.length
   ·have ho:F4 s.leaf s.path.length=true:=by unfold F4;simp [hg]
    rw [Bm ho];simp (disch:=first|omega|exact hg) only [B3,w]
   ·have ho:F4 s.leaf s.path.length=false:=by unfold F4;simp only [Bool.or_eq_false_iff,decide_eq_false_iff_not];exact ⟨hn,hg⟩
    rw [A0 (by rw [ho];simp)]
    by_cases c3:s.chains.length=18
    ·have w1:=J6 (fu:=fu) (d:=d) (ws:=s.chains) (by omega) (by omega) (by omega)
     have w2:=J6 (fu:=fu) (d:=d) (ws:=s.path) (by omega) (by omega) (by omega)
     have l1:=C7 s.chains;have l2:=C7 s.path;have L1:=Al .u8 (A6 s.chains);have L2:=Al .u8 (A6 s.path)
     have eB:Ah .u8 (Ly s)=[PV.sc (.int .u8 (IntKind.wrap .u8 s.leaf)),PV.sc (.int .u8 (IntKind.wrap .u8 s.path.length))]++Ah .u8 (A6 s.chains)++Ah .u8 (A6 s.path):=by
      unfold Ly;simp
     have eL:(Ly s).length=2+(A6 s.chains).length+(A6 s.path).length:=by
      unfold Ly;simp;omega
     rw [A0 (by omega),eB,eL]
     have t2:List.take (2+(A6 s.chains).length) ([PV.sc (.int .u8 (IntKind.wrap .u8 s.leaf)),PV.sc (.int .u8 (IntKind.wrap .u8 s.path.length))]++Ah .u8 (A6 s.chains))=[PV.sc (.int .u8 (IntKind.wrap .u8 s.leaf)),PV.sc (.int .u8 (IntKind.wrap .u8 s.path.length))]++Ah .u8 (A6 s.chains):=Iv (by rw [Hz,L1];simp)
     have t3:List.take (2+(A6 s.chains).length+(A6 s.path).length) ([PV.sc (.int .u8 (IntKind.wrap .u8 s.leaf)),PV.sc (.int .u8 (IntKind.wrap .u8 s.path.length))]++Ah .u8 (A6 s.chains)++Ah .u8 (A6 s.path))=[PV.sc (.int .u8 (IntKind.wrap .u8 s.leaf)),PV.sc (.int .u8 (IntKind.wrap .u8 s.path.length))]++Ah .u8 (A6 s.chains)++Ah .u8 (A6 s.path):=Iv (by rw [Hz,Hz,L1,L2];simp)
     have k2:([PV.sc (.int .u8 (IntKind.wrap .u8 s.leaf)),PV.sc (.int .u8 (IntKind.wrap .u8 s.path.length))]++Ah .u8 (A6 s.chains)).length=2+(A6 s.chains).length:=by rw [Hz,L1];rfl
     have k3:([PV.sc (.int .u8 (IntKind.wrap .u8 s.leaf)),PV.sc (.int .u8 (IntKind.wrap .u8 s.path.length))]++Ah .u8 (A6 s.chains)++Ah .u8 (A6 s.path)).length=2+(A6 s.chains).length+(A6 s.path).length:=by rw [Hz,k2,L2]
     simp (disch:=first|omega|exact hg) only [B3,w,Di,w1,w2,Bj,Bw,Cf,L1,L2,Gs,t2,t3,k2,k3];rw [Bm (by omega)]
    ·rw [Bm c3];simp (disch:=first|omega|exact hg) only [B3,w,Di];rw [A0 (by omega)]
def Xo (l:List Int)(i:Nat):Int:=Zu ((l.drop (2+8*i)).take 8)
theorem A45 {l:List Int}{i:Nat}(hi:i<18):Je ((l.drop 2).take 144) i=Xo l i:=by
 unfold Je Xo;rw [List.drop_take,List.take_take,List.drop_drop,Nat.min_eq_left (by omega)]
theorem A30 {l:List Int}{i:Nat}:Je (l.drop 146) i=Xo l (18+i):=by
 unfold Je Xo;rw [List.drop_drop,show 146+8*i=2+8*(18+i) by omega]
theorem Acz {n:Nat}{c:List PV}{l:List Int}(hl:l.length<=1000){y:Int}(hy1:l[1]?=some y) (hy:0<=y∧y<=4)(hlen:(l.length:Int)=2+8*(18+y)) (hfu:1000<=fu){y3 y4:Int}{n5 n6 n7:Nat}{c5 c6:List PV}{x:Int}:∀(k nn i:Nat),i+k=18+y.toNat->k<nn ->
  C6 fu (Ae C0 Tryz.prog fu (d+1)) n c nn l.length (Ah .u8 l) i y3 n5 n6 c5 c6 x ((List.range (min i 18)).map (Xo l)).length ((List.range (i-18)).map fun j=>Xo l (18+j)).length (Ah .u64 ((List.range (min i 18)).map (Xo l))) (Ah .u64 ((List.range (i-18)).map fun j=>Xo l (18+j)))=some ⟨[.agg (Sg.mk x ((List.range 18).map (Xo l)) ((List.range y.toNat).map fun j=>Xo l (18+j))).owned,.sc (.int .i64 0)],[]⟩
 |_,0,_,_,h=>by omega
 |k,nn+1,i,hi,hn=>by
  have wy:IntKind.wrap .i64 y=y:=Ap (by omega) (by omega)
  have w18:IntKind.wrap .i64 (18+y)=18+y:=Ap (by omega) (by omega)
  have L1:=Al .u64 ((List.range (min i 18)).map (Xo l));have L2:=Al .u64 ((List.range (i-18)).map fun j=>Xo l (18+j))
  have m1:((List.range (min i 18)).map (Xo l)).length=min i 18:=by simp
  have m2:((List.range (i-18)).map fun j=>Xo l (18+j)).length=i-18:=by simp
  rw [Kt];cases k with
  |zero=>
   have e:i=18+y.toNat:=by omega
   have e1:min i 18=18:=by omega
   have e2:i-18=y.toNat:=by omega
   simp (disch:=omega) only [B3,Ps hy1,wy,w18,Bj,Gs,L1,L2];rw [e1,e2];rfl
  |succ k=>
   have ih:=Acz (n:=n) (c:=c) hl hy1 hy hlen hfu (y3:=y3) (y4:=y4) (n5:=n5) (n6:=n6) (n7:=n7) (c5:=c5) (c6:=c6) (x:=x) k nn (i+1) (by omega) (by omega)
   have w8:IntKind.wrap .i64 (8*(i:Int))=((8*i:Nat):Int):=by rw [Ap (by omega) (by omega)];omega
   have w2:IntKind.wrap .i64 (2+((8*i:Nat):Int))=((2+8*i:Nat):Int):=by rw [Ap (by omega) (by omega)];omega
   have w10:IntKind.wrap .i64 (10+((8*i:Nat):Int))=((10+8*i:Nat):Int):=by rw [Ap (by omega) (by omega)];omega
   have w:IntKind.wrap .i64 ((i:Int)+1)=((i+1:Nat):Int):=by rw [Ap (by omega) (by omega)];omega
   have e8:10+8*i-(2+8*i)=8:=by omega
   have hdl:((l.drop (2+8*i)).take 8).length=8:=by rw [List.length_take,List.length_drop];omega
   have wd:=Adi (fu:=fu) (d:=d) hfu hdl;have ew:Zu ((l.drop (2+8*i)).take 8)=Xo l i:=rfl;rw [ew] at wd;by_cases c18:i<18
   ·have a1:min (i+1) 18=min i 18+1:=by omega
    have a2:min i 18=i:=by omega
    have a3:i+1-18=i-18:=by omega
    rw [a1,a3,J0,Hz,List.length_singleton,←Fg,a2] at ih;rw [a2] at L1 m1 ⊢;simp (disch:=omega) only [B3,Ps hy1,wy,w18,w8,w2,w10,Hr,Bj,e8,Et,Dx,List.take_length,wd,L1,L2,w];exact ih
   ·have a1:min (i+1) 18=min i 18:=by omega
    have a3:i+1-18=(i-18)+1:=by omega
    rw [a1,a3,J0,Hz,List.length_singleton,←Fg,show 18+(i-18)=i by omega] at ih
    simp (disch:=omega) only [B3,Ps hy1,wy,w18,w8,w2,w10,Hr,Bj,e8,Et,Dx,List.take_length,wd,L1,L2,w];exact ih
theorem Auh (hfu:1000<=fu){l:List Int}(hb:Hf l):Ae C0 Tryz.prog fu (d+2) Hn [.lst false 1 l.length (Ah .u8 l)]=some ⟨Xe (sgD l),[]⟩:=by
 refine (Nx fu (d+1) l.length (Ah .u8 l)).trans ?_;unfold sgD;by_cases h2:2<=l.length
 ·obtain ⟨x,hx⟩:∃x,l[0]?=some x:=⟨_,List.getElem?_eq_getElem (by omega)⟩
  obtain ⟨y,hy⟩:∃y,l[1]?=some y:=⟨_,List.getElem?_eq_getElem (by omega)⟩
  have hxb:=hb x (List.mem_of_getElem? hx);have hyb:=hb y (List.mem_of_getElem? hy);have wx:IntKind.wrap .i64 x=x:=Ap (by omega) (by omega)
  have wy:IntKind.wrap .i64 y=y:=Ap (by omega) (by omega)
  have wyu:IntKind.wrap .u64 y=y:=B6 (by omega) (by omega)
  have gx:l.getD 0 0=x:=by rw [List.getD_eq_getElem?_getD,hx];rfl
  have gy:l.getD 1 0=y:=by rw [List.getD_eq_getElem?_getD,hy];rfl
  have w1:IntKind.wrap .i64 (18+y)=18+y:=Ap (by omega) (by omega)
  have w2:IntKind.wrap .i64 (8*(18+y))=8*(18+y):=Ap (by omega) (by omega)
  have w3:IntKind.wrap .i64 (2+8*(18+y))=2+8*(18+y):=Ap (by omega) (by omega)
  rw [gx,gy]
  have ehi:Dd y=decide (y>4):=by
   unfold Dd;have:¬(y<0):=by omega
   simp [this]
  have eou:F4 x y=decide (x>=Fb .i64 1 y):=by
   unfold F4;have:¬(x<0):=by omega
   simp [this]
  rw [ehi,eou];by_cases c1:y>4
  ·rw [A0 (by simp [c1])]
   simp (disch:=omega) only [B3,Ps hx,Ps hy,wx,wy];rfl
  ·by_cases c2:x>=Fb .i64 1 y
   ·rw [A0 (by simp [c2])]
    simp (disch:=first|omega|exact c2) only [B3,Ps hx,Ps hy,wx,wy,wyu];rfl
   ·by_cases c3:(l.length:Int)=2+8*(18+y)
    ·rw [Bm ⟨h2,by simp [c1],by simp [c2],c3⟩]
     have lp:=Acz (fu:=fu) (d:=d) (n:=l.length) (c:=Ah .u8 l) (l:=l) (by omega) hy (by omega) c3 hfu (y3:=0) (y4:=0) (n5:=0) (n6:=0) (n7:=0) (c5:=[]) (c6:=[]) (x:=x) (18+y.toNat) fu 0 (by omega) (by omega)
     simp (disch:=first|omega|exact c2) only [B3,Di,Ps hx,Ps hy,wx,wy,wyu,w1,w2,w3];rw [Bm c3];simp (disch:=omega) only [B3,K0,Ps hx,wx];refine Eq.trans lp ?_
     have e1:E5 ((l.drop 2).take 144)=(List.range 18).map (Xo l):=by
      unfold E5;rw [show ((l.drop 2).take 144).length / 8=18 by rw [List.length_take,List.length_drop];omega]
      exact List.map_congr_left fun i hi=>A45 (List.mem_range.1 hi)
     have e2:E5 (l.drop 146)=(List.range y.toNat).map fun j=>Xo l (18+j):=by
      unfold E5;rw [show (l.drop 146).length / 8=y.toNat by rw [List.length_drop];omega]
      exact List.map_congr_left fun i hi=>A30
     rw [e1,e2];rfl
    ·rw [A0 (by simp [c3])]
     simp (disch:=first|omega|exact c2) only [B3,Di,Ps hx,Ps hy,wx,wy,wyu,w1,w2,w3];rw [A0 c3];rfl
 ·rw [A0 (by simp [h2])]
  simp (disch:=omega) only [B3];rfl
end
theorem A0f (seed leaf m:Int):Alv leaf m (Zf seed leaf m)=Of seed leaf:=by
 unfold Alv Of Ai5
 congr 1
 refine List.map_congr_left fun i hi=>?_
 have hi:=List.mem_range.1 hi;have hb:=Yr m i;unfold Zq Apc
 have e:(Zf seed leaf m).getD i 0=Aos seed leaf m i:=by
  unfold Zf;rw [List.getD_eq_getElem?_getD,List.getElem?_map,List.getElem?_range hi];rfl
 rw [e];unfold Aos;have:=Ar9 leaf i (dg m i).toNat (15-dg m i).toNat 0 (Atw seed leaf i);rw [show (dg m i).toNat+(15-dg m i).toNat=15 by omega,show (0:Int)+((dg m i).toNat:Nat)=dg m i by omega] at this
 exact this.symm
theorem Aym:∀n:Fin 16,∀k:Fin 4,
  (E9 .i64 (Eg .i64 (n.val:Int) k.val) 1=0∧Eg .i64 (n.val:Int) k.val=2*Eg .i64 (n.val:Int) ((k.val+1:Nat):Int)∧Wi n.val k.val=2*Eg .i64 (n.val:Int) ((k.val+1:Nat):Int)+1) ∨
  (E9 .i64 (Eg .i64 (n.val:Int) k.val) 1≠0∧Eg .i64 (n.val:Int) k.val=2*Eg .i64 (n.val:Int) ((k.val+1:Nat):Int)+1∧Wi n.val k.val=2*Eg .i64 (n.val:Int) ((k.val+1:Nat):Int)):=by decide
theorem Ak6 (seed:Int){leaf:Int}(h0:0<=leaf)(h1:leaf<16):∀(k i:Nat),i+k<=4 ->
  Vg leaf i (Jq seed i (Eg .i64 leaf i)) ((List.range' i k).map fun j=>Jq seed j (Wi leaf j))=Jq seed (i+k) (Eg .i64 leaf ((i+k:Nat):Int))
 |0,i,_=>rfl
 |k+1,i,h=>by
  rw [List.range'_succ,Zzw,X5];obtain ⟨n,rfl⟩:=Int.eq_ofNat_of_zero_le h0;have ih:=Ak6 seed h0 h1 k (i+1) (by omega)
  rw [show i+(k+1)=i+1+k by omega,←ih]
  congr 1
  rcases Aym ⟨n,by omega⟩ ⟨i,by omega⟩ with ⟨a,b,c⟩|⟨a,b,c⟩
  ·simp only at a b c;rw [Bm a,b,c];rfl
  ·simp only at a b c;rw [A0 a,b,c];rfl
theorem A0n {seed h leaf m:Int}(hh:Dd h=false)(ho:F4 leaf h=false):L8 (Eo seed h) m ⟨leaf,Zf seed leaf m,(List.range h.toNat).map fun k=>Jq seed k (Wi leaf k)⟩=0:=by
 have hb:=Ga hh;have hl:=Ato hb.1 hb.2 ho;have h16:=A7s hb.1 hb.2
 have eP:Eo seed h=⟨h,Jq seed h.toNat 0⟩:=by
  unfold Eo;rw [hh];rfl
 rw [eP];unfold L8;simp only;rw [A0 (show ¬Dd h=true by rw [hh];simp),A0 (show ¬F4 leaf h=true by rw [ho];simp),A0 (show ¬(Zf seed leaf m).length≠18 by simp [Zf]),A0 (by rw [List.length_map,List.length_range];omega),A0f]
 have c:=Ak6 seed hl.1 (show leaf<16 by omega) h.toNat 0 (by omega)
 have e0:Eg .i64 leaf ((0:Nat):Int)=leaf:=by
  show leaf.fdiv (2 ^ (min ((0:Nat):Int).toNat IntKind.i64.bits))=leaf;have:(2:Int) ^ (min ((0:Nat):Int).toNat IntKind.i64.bits)=1:=by decide
  rw [this,Int.fdiv_one]
 have eh:Eg .i64 leaf ((0+h.toNat:Nat):Int)=0:=by
  have H:∀n:Fin 16,∀k:Fin 5,(n.val:Int)<2 ^ k.val->Eg .i64 (n.val:Int) ((0+k.val:Nat):Int)=0:=by decide
  obtain ⟨n,hn⟩:=Int.eq_ofNat_of_zero_le hl.1;have:=H ⟨n,by omega⟩ ⟨h.toNat,by omega⟩ (by simp only;rw [←hn];exact hl.2)
  rw [hn];exact this
 rw [e0,eh,Bw] at c;have er:List.range' 0 h.toNat=List.range h.toNat:=List.range_eq_range'.symm;rw [er] at c;have el:Jq seed 0 leaf=Of seed leaf:=rfl;rw [el] at c;rw [c];unfold okE;rw [Bm rfl]
end
section
set_option maxRecDepth 100000
abbrev Age:FuncId:=125
theorem Ask (fu d:Nat)(a0:ByteArray):Ae C0 Tryz.prog fu (d+1) Age [.sc (.string a0)]=(fun (call:Am)=>some (Ay.mk [.own 3 1 [.sc (.int .i64 4),.sc (.int .u64 0),.sc (.string a0)]] [])) (Ae C0 Tryz.prog fu d):=by kernel_rfl
abbrev Agw:FuncId:=126
theorem Aqy (fu d:Nat)(a0:Int):Ae C0 Tryz.prog fu (d+1) Agw [.sc (.int .u64 a0)]=(fun (call:Am)=>some (Ay.mk [.own 3 1 [.sc (.int .i64 1),.sc (.int .u64 a0),.sc (.string (ByteArray.mk #[]))]] [])) (Ae C0 Tryz.prog fu d):=by kernel_rfl
abbrev Aem:FuncId:=127
theorem Aoq (fu d a0n:Nat)(a0:List PV):Ae C0 Tryz.prog fu (d+1) Aem [.lst false 1 a0n a0]=(fun (call:Am)=>Aq (decide (List.length a0=a0n))<|Ez (bytesOf a0) fun x1=>some (Ay.mk [.own 3 1 [.sc (.int .i64 3),.sc (.int .u64 0),.sc (.string (ByteArray.mk (List.toArray x1)))]] [])) (Ae C0 Tryz.prog fu d):=by kernel_rfl
abbrev Agl:FuncId:=128
theorem Ar5 (fu d:Nat)(a0:Bool):Ae C0 Tryz.prog fu (d+1) Agl [.sc (.bool a0)]=(fun (call:Am)=>A4 (a0) (some (Ay.mk [.own 3 1 [.sc (.int .i64 7),.sc (.int .u64 1),.sc (.string (ByteArray.mk #[]))]] [])) (some (Ay.mk [.own 3 1 [.sc (.int .i64 7),.sc (.int .u64 0),.sc (.string (ByteArray.mk #[]))]] []))) (Ae C0 Tryz.prog fu d):=by kernel_rfl
abbrev Ael:FuncId:=133
theorem Aog (fu d:Nat)(a0:Int):Ae C0 Tryz.prog fu (d+1) Ael [.sc (.int .u64 a0)]=(fun (call:Am)=>A4 (decide (a0<24)) (some (Ay.mk [.sc (.int .i64 0)] [])) (A4 (decide (a0<256)) (some (Ay.mk [.sc (.int .i64 1)] [])) (A4 (decide (a0<65536)) (some (Ay.mk [.sc (.int .i64 2)] [])) (A4 (decide (a0<4294967296)) (some (Ay.mk [.sc (.int .i64 4)] [])) (some (Ay.mk [.sc (.int .i64 8)] [])))))) (Ae C0 Tryz.prog fu d):=by kernel_rfl
abbrev Aan:FuncId:=146
theorem Alz (fu d:Nat)(a0_0 a0_1:Int)(a0_2:ByteArray):Ae C0 Tryz.prog fu (d+1) Aan [.agg [.sc (.int .i64 a0_0),.sc (.int .u64 a0_1),.sc (.string a0_2)]]=(fun (call:Am)=>A4 (a0_0==3) (some (Ay.mk [.sc (.bool (a0_1==0))] [])) (A4 (a0_0==4) (some (Ay.mk [.sc (.bool (a0_1==0))] [])) (A4 (a0_0==8) (A4 (a0_1==0) (some (Ay.mk [.sc (.bool (Array.toList (ByteArray.data a0_2)==Array.toList (ByteArray.data (ByteArray.mk #[]))))] [])) (some (Ay.mk [.sc (.bool false)] []))) (A4 (a0_0==7) (A4 (decide (a0_1<=1)) (some (Ay.mk [.sc (.bool (Array.toList (ByteArray.data a0_2)==Array.toList (ByteArray.data (ByteArray.mk #[]))))] [])) (some (Ay.mk [.sc (.bool false)] []))) (some (Ay.mk [.sc (.bool (Array.toList (ByteArray.data a0_2)==Array.toList (ByteArray.data (ByteArray.mk #[]))))] [])))))) (Ae C0 Tryz.prog fu d):=by kernel_rfl
abbrev Xf:FuncId:=136
theorem Akx (fu d a0n:Nat)(a0:List PV)(a1n:Nat)(a1:List PV):Ae C0 Tryz.prog fu (d+1) Xf [.lst false 1 a0n a0,.lst false 1 a1n a1]=(fun (call:Am)=>A4 ((↑a0n:Int) != (↑a1n:Int)) (some (Ay.mk [.sc (.bool (decide ((↑a0n:Int)<(↑a1n:Int))))] [])) (Ag (call 143 [.lst false 1 a0n a0,.lst false 1 a1n a1]) fun x1 x2=>Ac x2<|Ab x1 fun x3 x4=>Af .i64 x3 fun x5=>Ac x4<|some (Ay.mk [.sc (.bool (decide (x5<0)))] []))) (Ae C0 Tryz.prog fu d):=by kernel_rfl
abbrev Kp:FuncId:=142
noncomputable def Ef (fu:Nat)(call:Am)(a0n:Nat)(a0:List PV)(a1 a2:Int)(nn y0:Nat)(y1 y2:Int)(y3:List PV):Option Ay:=Db C0 Tryz.prog fu call 142 Tryz.f142 (Ch Tryz.f142) [.own 1 a0n a0,.sc (.int .u8 a1),.sc (.int .u64 a2)] [.r,.r,.r,.r,.r,.l,.r,.l] nn ⟨lk [(0,(.view 0 1 0 y0)),(2,(.sc (.int .u64 y1))),(9,(.sc (.int .i64 y2)))],Gn [(0,(.ar false y3))]⟩
theorem M7 (fu:Nat)(call:Am)(a0n:Nat)(a0:List PV)(a1 a2:Int)(nn y0:Nat)(y1 y2:Int)(y3:List PV):Ef fu call a0n a0 a1 a2 (nn+1) y0 y1 y2 y3=(A4 (decide (y2>=0)) (Aa (IntKind.wrap .i64 (8*y2)) fun D5=>Aq (decide (0<=D5))<|Aa (Eg .u64 y1 D5) fun D7=>Aa (IntKind.wrap .u8 D7) fun Eh=>Aq (decide (y0*1<=List.length y3)&&true&&decide ((y0+1)*1<=1099511627776)&&decide (y0+1<=1099511627776))<|Aa (y0+1) fun Fy=>Aa (List.take (y0*1) y3++[.sc (.int .u8 Eh)]) fun Ci=>Aa (IntKind.wrap .i64 (y2-1)) fun Fn=>Ef fu call a0n a0 a1 a2 (nn) Fy (y1) Fn Ci) (Aq (decide (y0*1<=List.length y3))<|some (Ay.mk [.own 1 y0 (List.take (y0*1) y3)] []))):=by kernel_rfl
theorem Ad3 (fu d a0n:Nat)(a0:List PV)(a1 a2:Int):Ae C0 Tryz.prog fu (d+1) Kp [.own 1 a0n a0,.sc (.int .u8 a1),.sc (.int .u64 a2)]=(fun (call:Am)=>Aa (Fb .u8 a1 5) fun x1=>A4 (decide (a2<24)) (Aa (IntKind.wrap .u8 a2) fun x2=>Aa (IntKind.wrap .u8 (x1+x2)) fun x3=>Aq (decide (a0n*1<=List.length a0)&&true&&decide ((a0n+1)*1<=1099511627776)&&decide (a0n+1<=1099511627776))<|Aa (a0n+1) fun x4=>Aa (List.take (a0n*1) a0++[.sc (.int .u8 x3)]) fun x5=>Aq (decide (x4*1<=List.length x5))<|some (Ay.mk [.own 1 x4 (List.take (x4*1) x5)] [])) (A4 (decide (a2<256)) (Aa (IntKind.wrap .u8 (x1+24)) fun x6=>Aq (decide (a0n*1<=List.length a0)&&true&&decide ((a0n+1)*1<=1099511627776)&&decide (a0n+1<=1099511627776))<|Aa (a0n+1) fun x7=>Aa (List.take (a0n*1) a0++[.sc (.int .u8 x6)]) fun x8=>Ef fu call a0n a0 a1 a2 (fu) x7 (a2) 0 x8) (A4 (decide (a2<65536)) (Aa (IntKind.wrap .u8 (x1+25)) fun x9=>Aq (decide (a0n*1<=List.length a0)&&true&&decide ((a0n+1)*1<=1099511627776)&&decide (a0n+1<=1099511627776))<|Aa (a0n+1) fun Cd=>Aa (List.take (a0n*1) a0++[.sc (.int .u8 x9)]) fun Bp=>Ef fu call a0n a0 a1 a2 (fu) Cd (a2) 1 Bp) (A4 (decide (a2<4294967296)) (Aa (IntKind.wrap .u8 (x1+26)) fun C4=>Aq (decide (a0n*1<=List.length a0)&&true&&decide ((a0n+1)*1<=1099511627776)&&decide (a0n+1<=1099511627776))<|Aa (a0n+1) fun Da=>Aa (List.take (a0n*1) a0++[.sc (.int .u8 C4)]) fun Cq=>Ef fu call a0n a0 a1 a2 (fu) Da (a2) 3 Cq) (Aa (IntKind.wrap .u8 (x1+27)) fun C9=>Aq (decide (a0n*1<=List.length a0)&&true&&decide ((a0n+1)*1<=1099511627776)&&decide (a0n+1<=1099511627776))<|Aa (a0n+1) fun Do=>Aa (List.take (a0n*1) a0++[.sc (.int .u8 C9)]) fun Du=>Ef fu call a0n a0 a1 a2 (fu) Do (a2) 7 Du))))) (Ae C0 Tryz.prog fu d):=by kernel_rfl
abbrev Sj:FuncId:=135
theorem Acl (fu d a0n:Nat)(a0:List PV)(a1_0 a1_1:Int)(a1_2:ByteArray):Ae C0 Tryz.prog fu (d+1) Sj [.own 1 a0n a0,.agg [.sc (.int .i64 a1_0),.sc (.int .u64 a1_1),.sc (.string a1_2)]]=(fun (call:Am)=>A4 (a1_0==7) (Aa (IntKind.wrap .u8 a1_1) fun x1=>Aa (IntKind.wrap .u8 (244+x1)) fun x2=>Aq (decide (a0n*1<=List.length a0)&&true&&decide ((a0n+1)*1<=1099511627776)&&decide (a0n+1<=1099511627776))<|Aa (a0n+1) fun x3=>Aa (List.take (a0n*1) a0++[.sc (.int .u8 x2)]) fun x4=>Aq (decide (x3*1<=List.length x4))<|some (Ay.mk [.own 1 x3 (List.take (x3*1) x4)] [])) (A4 (a1_0==8) (Aq (decide (a0n*1<=List.length a0)&&true&&decide ((a0n+1)*1<=1099511627776)&&decide (a0n+1<=1099511627776))<|Aa (a0n+1) fun x5=>Aa (List.take (a0n*1) a0++[.sc (.int .u8 246)]) fun x6=>Aq (decide (x5*1<=List.length x6))<|some (Ay.mk [.own 1 x5 (List.take (x5*1) x6)] [])) (A4 (a1_0==3) (Aa (IntKind.wrap .i64 (a1_0-1)) fun x7=>Aa (IntKind.wrap .u8 x7) fun x8=>Aa (IntKind.wrap .u64 (↑(ByteArray.size a1_2):Int)) fun x9=>Aq (decide (a0n*1<=List.length a0))<|Ag (call 142 [.own 1 a0n (List.take (a0n*1) a0),.sc (.int .u8 x8),.sc (.int .u64 x9)]) fun Cd Bp=>Ab Cd fun C4 Da=>Dk 1 C4 fun Cq C9=>Ac Da<|Ac Bp<|Aq (decide (Cq*1<=List.length C9)&&decide (List.length (Co a1_2)=ByteArray.size a1_2*1)&&decide ((Cq+ByteArray.size a1_2)*1<=1099511627776)&&decide (Cq+ByteArray.size a1_2<=1099511627776))<|Aa (Cq+ByteArray.size a1_2) fun Do=>Aa (List.take (Cq*1) C9++Co a1_2) fun Du=>Aq (decide (Do*1<=List.length Du))<|some (Ay.mk [.own 1 Do (List.take (Do*1) Du)] [])) (A4 (a1_0==4) (Aa (IntKind.wrap .i64 (a1_0-1)) fun D5=>Aa (IntKind.wrap .u8 D5) fun D7=>Aa (IntKind.wrap .u64 (↑(ByteArray.size a1_2):Int)) fun Eh=>Aq (decide (a0n*1<=List.length a0))<|Ag (call 142 [.own 1 a0n (List.take (a0n*1) a0),.sc (.int .u8 D7),.sc (.int .u64 Eh)]) fun Fy Ci=>Ab Fy fun Fn Ds=>Dk 1 Fn fun Bx Fc=>Ac Ds<|Ac Ci<|Aq (decide (Bx*1<=List.length Fc)&&decide (List.length (Co a1_2)=ByteArray.size a1_2*1)&&decide ((Bx+ByteArray.size a1_2)*1<=1099511627776)&&decide (Bx+ByteArray.size a1_2<=1099511627776))<|Aa (Bx+ByteArray.size a1_2) fun Ft=>Aa (List.take (Bx*1) Fc++Co a1_2) fun Bk=>Aq (decide (Ft*1<=List.length Bk))<|some (Ay.mk [.own 1 Ft (List.take (Ft*1) Bk)] [])) (Aa (IntKind.wrap .i64 (a1_0-1)) fun Cg=>Aa (IntKind.wrap .u8 Cg) fun Hg=>Aq (decide (a0n*1<=List.length a0))<|Ag (call 142 [.own 1 a0n (List.take (a0n*1) a0),.sc (.int .u8 Hg),.sc (.int .u64 a1_1)]) fun Gf Ie=>Ab Gf fun H0 Jn=>Dk 1 H0 fun Gt Ix=>Ac Jn<|Ac Ie<|Aq (decide (Gt*1<=List.length Ix))<|some (Ay.mk [.own 1 Gt (List.take (Gt*1) Ix)] [])))))) (Ae C0 Tryz.prog fu d):=by kernel_rfl
abbrev Ul:FuncId:=109
theorem Aet (fu d a0_0n:Nat)(a0_0:List PV)(a0_1:Int):Ae C0 Tryz.prog fu (d+1) Ul [.pbox [.own 3 a0_0n a0_0,.sc (.int .i64 a0_1)]]=(fun (call:Am)=>A4 (decide (a0_1>0)) (Aq (decide (a0_0n*3<=List.length a0_0))<|some (Ay.mk [.sc (.bool ((↑a0_0n:Int)==0))] [[.own 3 a0_0n (List.take (a0_0n*3) a0_0),.sc (.int .i64 a0_1)]])) (Aq (decide (a0_0n*3<=List.length a0_0))<|some (Ay.mk [.sc (.bool false)] [[.own 3 a0_0n (List.take (a0_0n*3) a0_0),.sc (.int .i64 a0_1)]]))) (Ae C0 Tryz.prog fu d):=by kernel_rfl
abbrev Sp:FuncId:=134
theorem Aec (fu d a0_0n:Nat)(a0_0:List PV)(a0_1:Int):Ae C0 Tryz.prog fu (d+1) Sp [.pbox [.own 3 a0_0n a0_0,.sc (.int .i64 a0_1)]]=(fun (call:Am)=>A4 (decide ((↑a0_0n:Int)>0)) (Aa (IntKind.wrap .i64 ((↑a0_0n:Int)-1)) fun x1=>Aq (decide (0<=x1)&&decide (x1<(↑a0_0n:Int)))<|Bz (List.getD a0_0 (0+Int.toNat x1*3+0) .top) fun x2=>A4 x2 (Aa (IntKind.wrap .i64 ((↑a0_0n:Int)-1)) fun x3=>Aq (decide (0<=x3)&&decide (x3<(↑a0_0n:Int)))<|Af .i64 (List.getD a0_0 (0+Int.toNat x3*3+1) .top) fun x4=>Aa (Int.tmod x4 2) fun x5=>Aq (decide (a0_0n*3<=List.length a0_0))<|some (Ay.mk [.sc (.bool (x5==0))] [[.own 3 a0_0n (List.take (a0_0n*3) a0_0),.sc (.int .i64 a0_1)]])) (Aq (decide (a0_0n*3<=List.length a0_0))<|some (Ay.mk [.sc (.bool false)] [[.own 3 a0_0n (List.take (a0_0n*3) a0_0),.sc (.int .i64 a0_1)]]))) (Aq (decide (a0_0n*3<=List.length a0_0))<|some (Ay.mk [.sc (.bool false)] [[.own 3 a0_0n (List.take (a0_0n*3) a0_0),.sc (.int .i64 a0_1)]]))) (Ae C0 Tryz.prog fu d):=by kernel_rfl
abbrev Sn:FuncId:=121
theorem Ac3 (fu d a0_0n:Nat)(a0_0:List PV)(a0_1 a1:Int):Ae C0 Tryz.prog fu (d+1) Sn [.pbox [.own 3 a0_0n a0_0,.sc (.int .i64 a0_1)],.sc (.int .i64 a1)]=(fun (call:Am)=>A4 (decide (a0_1>=512)) (Aq (decide (a0_0n*3<=List.length a0_0))<|some (Ay.mk [.sc (.int .i64 8)] [[.own 3 a0_0n (List.take (a0_0n*3) a0_0),.sc (.int .i64 a0_1)]])) (A4 (decide (a1<1)) (Aq (decide (a0_0n*3<=List.length a0_0))<|some (Ay.mk [.sc (.int .i64 3)] [[.own 3 a0_0n (List.take (a0_0n*3) a0_0),.sc (.int .i64 a0_1)]])) (A4 (decide (a1>8)) (Aq (decide (a0_0n*3<=List.length a0_0))<|some (Ay.mk [.sc (.int .i64 3)] [[.own 3 a0_0n (List.take (a0_0n*3) a0_0),.sc (.int .i64 a0_1)]])) (Aq (decide (a0_0n*3<=List.length a0_0))<|Ag (call 134 [.pbox [.own 3 a0_0n (List.take (a0_0n*3) a0_0),.sc (.int .i64 a0_1)]]) fun x1 x2=>Ab x1 fun x3 x4=>Bz x3 fun x5=>Ac x4<|Ab x2 fun x6 x7=>Ab x6 fun x8 x9=>Dk 3 x8 fun Cd Bp=>Ab x9 fun C4 Da=>Af .i64 C4 fun Cq=>Ac Da<|Ac x7<|A4 x5 (A4 (a1 != 1) (A4 (a1 != 2) (A4 (a1 != 4) (Aq (decide (Cd*3<=List.length Bp))<|some (Ay.mk [.sc (.int .i64 3)] [[.own 3 Cd (List.take (Cd*3) Bp),.sc (.int .i64 Cq)]])) (A4 (decide ((↑Cd:Int)>8)) (Aq (decide (Cd*3<=List.length Bp))<|some (Ay.mk [.sc (.int .i64 5)] [[.own 3 Cd (List.take (Cd*3) Bp),.sc (.int .i64 Cq)]])) (Aq (decide (Cd*3<=List.length Bp))<|some (Ay.mk [.sc (.int .i64 0)] [[.own 3 Cd (List.take (Cd*3) Bp),.sc (.int .i64 Cq)]])))) (A4 (decide ((↑Cd:Int)>8)) (Aq (decide (Cd*3<=List.length Bp))<|some (Ay.mk [.sc (.int .i64 5)] [[.own 3 Cd (List.take (Cd*3) Bp),.sc (.int .i64 Cq)]])) (Aq (decide (Cd*3<=List.length Bp))<|some (Ay.mk [.sc (.int .i64 0)] [[.own 3 Cd (List.take (Cd*3) Bp),.sc (.int .i64 Cq)]])))) (A4 (decide ((↑Cd:Int)>8)) (Aq (decide (Cd*3<=List.length Bp))<|some (Ay.mk [.sc (.int .i64 5)] [[.own 3 Cd (List.take (Cd*3) Bp),.sc (.int .i64 Cq)]])) (Aq (decide (Cd*3<=List.length Bp))<|some (Ay.mk [.sc (.int .i64 0)] [[.own 3 Cd (List.take (Cd*3) Bp),.sc (.int .i64 Cq)]])))) (A4 (decide ((↑Cd:Int)>8)) (Aq (decide (Cd*3<=List.length Bp))<|some (Ay.mk [.sc (.int .i64 5)] [[.own 3 Cd (List.take (Cd*3) Bp),.sc (.int .i64 Cq)]])) (Aq (decide (Cd*3<=List.length Bp))<|some (Ay.mk [.sc (.int .i64 0)] [[.own 3 Cd (List.take (Cd*3) Bp),.sc (.int .i64 Cq)]]))))))) (Ae C0 Tryz.prog fu d):=by kernel_rfl
abbrev Tm:FuncId:=137
noncomputable def Bh (fu:Nat)(call:Am)(a0_0n:Nat)(a0_0:List PV)(a0_1 a1_0 a1_1:Int)(a1_2:ByteArray)(nn:Nat)(y0:Int)(y1:Nat)(y2:Int)(y3:List PV):Option Ay:=Db C0 Tryz.prog fu call 137 Tryz.f137 (Ch Tryz.f137) [.pbox [.own 3 a0_0n a0_0,.sc (.int .i64 a0_1)],.agg [.sc (.int .i64 a1_0),.sc (.int .u64 a1_1),.sc (.string a1_2)]] [.r,.r,.r,.r,.r,.r,.l] nn ⟨lk [(0,(.ptr 212000 0)),(5,(.sc (.int .i64 y0)))],Gn [(212000,(.st [(.view 212106 3 0 y1),(.sc (.int .i64 y2))])),(212106,(.ar false y3))]⟩
theorem O8 (fu:Nat)(call:Am)(a0_0n:Nat)(a0_0:List PV)(a0_1 a1_0 a1_1:Int)(a1_2:ByteArray)(nn:Nat)(y0:Int)(y1:Nat)(y2:Int)(y3:List PV):Bh fu call a0_0n a0_0 a0_1 a1_0 a1_1 a1_2 (nn+1) y0 y1 y2 y3=(A4 (decide (y0>0)) (Aa (IntKind.wrap .i64 (y0-1)) fun Ix=>Aq (decide (0<=Ix)&&decide (Ix<(↑y1:Int)))<|Af .i64 (List.getD y3 (0+Int.toNat Ix*3+1) .top) fun M5=>A4 (M5==0) (Aa (IntKind.wrap .i64 (y0-1)) fun F0=>Aq (decide (0<=F0))<|Aq (decide (Int.toNat F0<=y1))<|Aa (Int.toNat F0-0) fun H5=>Aa (IntKind.wrap .i64 (y0-1)) fun Rh=>Bh fu call a0_0n a0_0 a0_1 a1_0 a1_1 a1_2 (nn) Rh H5 (y2) (y3)) (Aq (decide (y1*3<=List.length y3))<|some (Ay.mk [] [[.own 3 y1 (List.take (y1*3) y3),.sc (.int .i64 y2)]]))) (Aq (decide (y1*3<=List.length y3))<|some (Ay.mk [] [[.own 3 y1 (List.take (y1*3) y3),.sc (.int .i64 y2)]]))):=by kernel_rfl
theorem Af0 (fu d a0_0n:Nat)(a0_0:List PV)(a0_1 a1_0 a1_1:Int)(a1_2:ByteArray):Ae C0 Tryz.prog fu (d+1) Tm [.pbox [.own 3 a0_0n a0_0,.sc (.int .i64 a0_1)],.agg [.sc (.int .i64 a1_0),.sc (.int .u64 a1_1),.sc (.string a1_2)]]=(fun (call:Am)=>Aa (IntKind.wrap .i64 (a0_1+1)) fun x1=>A4 (decide ((↑a0_0n:Int)>0)) (Aa (IntKind.wrap .i64 ((↑a0_0n:Int)-1)) fun x2=>Aq (decide (0<=x2)&&decide (x2<(↑a0_0n:Int)))<|Af .i64 (List.getD a0_0 (0+Int.toNat x2*3+1) .top) fun x3=>Aa (IntKind.wrap .i64 (x3-1)) fun x4=>Aq (decide (0<=x2)&&decide (x2<(↑a0_0n:Int)))<|Aq (decide (0+Int.toNat x2*3+1+1<=List.length a0_0))<|Aa (B8 a0_0 [.sc (.int .i64 x4)] (0+Int.toNat x2*3+1)) fun x5=>A4 (a1_0==5) (A4 (decide (a1_1>0)) (Aa (IntKind.wrap .i64 a1_1) fun x6=>Aq (decide (a0_0n*3<=List.length x5)&&true&&decide ((a0_0n+1)*40<=1099511627776)&&decide (a0_0n+1<=1099511627776))<|Aa (a0_0n+1) fun x7=>Aa (List.take (a0_0n*3) x5++[.sc (.bool false),.sc (.int .i64 x6),.lst false 1 0 []]) fun x8=>A4 (a1_0==6) (A4 (decide (a1_1>0)) (Aa (IntKind.wrap .i64 a1_1) fun x9=>Aa (IntKind.wrap .i64 (2*x9)) fun Cd=>Aq (decide (x7*3<=List.length x8)&&true&&decide ((x7+1)*40<=1099511627776)&&decide (x7+1<=1099511627776))<|Aa (x7+1) fun Bp=>Aa (List.take (x7*3) x8++[.sc (.bool true),.sc (.int .i64 Cd),.lst false 1 0 []]) fun C4=>Bh fu call a0_0n a0_0 a0_1 a1_0 a1_1 a1_2 (fu) ((↑Bp:Int)) Bp x1 C4) (Bh fu call a0_0n a0_0 a0_1 a1_0 a1_1 a1_2 (fu) ((↑x7:Int)) x7 x1 x8)) (Bh fu call a0_0n a0_0 a0_1 a1_0 a1_1 a1_2 (fu) ((↑x7:Int)) x7 x1 x8)) (A4 (a1_0==6) (A4 (decide (a1_1>0)) (Aa (IntKind.wrap .i64 a1_1) fun Da=>Aa (IntKind.wrap .i64 (2*Da)) fun Cq=>Aq (decide (a0_0n*3<=List.length x5)&&true&&decide ((a0_0n+1)*40<=1099511627776)&&decide (a0_0n+1<=1099511627776))<|Aa (a0_0n+1) fun C9=>Aa (List.take (a0_0n*3) x5++[.sc (.bool true),.sc (.int .i64 Cq),.lst false 1 0 []]) fun Do=>Bh fu call a0_0n a0_0 a0_1 a1_0 a1_1 a1_2 (fu) ((↑C9:Int)) C9 x1 Do) (Bh fu call a0_0n a0_0 a0_1 a1_0 a1_1 a1_2 (fu) ((↑a0_0n:Int)) (a0_0n) x1 x5)) (Bh fu call a0_0n a0_0 a0_1 a1_0 a1_1 a1_2 (fu) ((↑a0_0n:Int)) (a0_0n) x1 x5))) (A4 (a1_0==6) (A4 (decide (a1_1>0)) (Aa (IntKind.wrap .i64 a1_1) fun Du=>Aa (IntKind.wrap .i64 (2*Du)) fun D5=>Aq (decide (a0_0n*3<=List.length x5)&&true&&decide ((a0_0n+1)*40<=1099511627776)&&decide (a0_0n+1<=1099511627776))<|Aa (a0_0n+1) fun D7=>Aa (List.take (a0_0n*3) x5++[.sc (.bool true),.sc (.int .i64 D5),.lst false 1 0 []]) fun Eh=>Bh fu call a0_0n a0_0 a0_1 a1_0 a1_1 a1_2 (fu) ((↑D7:Int)) D7 x1 Eh) (Bh fu call a0_0n a0_0 a0_1 a1_0 a1_1 a1_2 (fu) ((↑a0_0n:Int)) (a0_0n) x1 x5)) (Bh fu call a0_0n a0_0 a0_1 a1_0 a1_1 a1_2 (fu) ((↑a0_0n:Int)) (a0_0n) x1 x5))) (A4 (a1_0==5) (A4 (decide (a1_1>0)) (Aa (IntKind.wrap .i64 a1_1) fun Fy=>Aq (decide (a0_0n*3<=List.length a0_0)&&true&&decide ((a0_0n+1)*40<=1099511627776)&&decide (a0_0n+1<=1099511627776))<|Aa (a0_0n+1) fun Ci=>Aa (List.take (a0_0n*3) a0_0++[.sc (.bool false),.sc (.int .i64 Fy),.lst false 1 0 []]) fun Fn=>A4 (a1_0==6) (A4 (decide (a1_1>0)) (Aa (IntKind.wrap .i64 a1_1) fun Ds=>Aa (IntKind.wrap .i64 (2*Ds)) fun Bx=>Aq (decide (Ci*3<=List.length Fn)&&true&&decide ((Ci+1)*40<=1099511627776)&&decide (Ci+1<=1099511627776))<|Aa (Ci+1) fun Fc=>Aa (List.take (Ci*3) Fn++[.sc (.bool true),.sc (.int .i64 Bx),.lst false 1 0 []]) fun Ft=>Bh fu call a0_0n a0_0 a0_1 a1_0 a1_1 a1_2 (fu) ((↑Fc:Int)) Fc x1 Ft) (Bh fu call a0_0n a0_0 a0_1 a1_0 a1_1 a1_2 (fu) ((↑Ci:Int)) Ci x1 Fn)) (Bh fu call a0_0n a0_0 a0_1 a1_0 a1_1 a1_2 (fu) ((↑Ci:Int)) Ci x1 Fn)) (A4 (a1_0==6) (A4 (decide (a1_1>0)) (Aa (IntKind.wrap .i64 a1_1) fun Bk=>Aa (IntKind.wrap .i64 (2*Bk)) fun Cg=>Aq (decide (a0_0n*3<=List.length a0_0)&&true&&decide ((a0_0n+1)*40<=1099511627776)&&decide (a0_0n+1<=1099511627776))<|Aa (a0_0n+1) fun Hg=>Aa (List.take (a0_0n*3) a0_0++[.sc (.bool true),.sc (.int .i64 Cg),.lst false 1 0 []]) fun Gf=>Bh fu call a0_0n a0_0 a0_1 a1_0 a1_1 a1_2 (fu) ((↑Hg:Int)) Hg x1 Gf) (Bh fu call a0_0n a0_0 a0_1 a1_0 a1_1 a1_2 (fu) ((↑a0_0n:Int)) (a0_0n) x1 (a0_0))) (Bh fu call a0_0n a0_0 a0_1 a1_0 a1_1 a1_2 (fu) ((↑a0_0n:Int)) (a0_0n) x1 (a0_0)))) (A4 (a1_0==6) (A4 (decide (a1_1>0)) (Aa (IntKind.wrap .i64 a1_1) fun Ie=>Aa (IntKind.wrap .i64 (2*Ie)) fun H0=>Aq (decide (a0_0n*3<=List.length a0_0)&&true&&decide ((a0_0n+1)*40<=1099511627776)&&decide (a0_0n+1<=1099511627776))<|Aa (a0_0n+1) fun Jn=>Aa (List.take (a0_0n*3) a0_0++[.sc (.bool true),.sc (.int .i64 H0),.lst false 1 0 []]) fun Gt=>Bh fu call a0_0n a0_0 a0_1 a1_0 a1_1 a1_2 (fu) ((↑Jn:Int)) Jn x1 Gt) (Bh fu call a0_0n a0_0 a0_1 a1_0 a1_1 a1_2 (fu) ((↑a0_0n:Int)) (a0_0n) x1 (a0_0))) (Bh fu call a0_0n a0_0 a0_1 a1_0 a1_1 a1_2 (fu) ((↑a0_0n:Int)) (a0_0n) x1 (a0_0))))) (Ae C0 Tryz.prog fu d):=by kernel_rfl
abbrev Jz:FuncId:=122
theorem Js (fu d a0_0n:Nat)(a0_0:List PV)(a0_1 a1_0 a1_1:Int)(a1_2:ByteArray):Ae C0 Tryz.prog fu (d+1) Jz [.pbox [.own 3 a0_0n a0_0,.sc (.int .i64 a0_1)],.agg [.sc (.int .i64 a1_0),.sc (.int .u64 a1_1),.sc (.string a1_2)]]=(fun (call:Am)=>A4 (a1_0==4) (Ag (call 67 [.sc (.string a1_2)]) fun x1 x2=>Ac x2<|Ab x1 fun x3 x4=>Bz x3 fun x5=>Ac x4<|A4 (!x5) (Aq (decide (a0_0n*3<=List.length a0_0))<|some (Ay.mk [.sc (.int .i64 6)] [[.own 3 a0_0n (List.take (a0_0n*3) a0_0),.sc (.int .i64 a0_1)]])) (Aq (decide (a0_0n*3<=List.length a0_0))<|Ag (call 134 [.pbox [.own 3 a0_0n (List.take (a0_0n*3) a0_0),.sc (.int .i64 a0_1)]]) fun x6 x7=>Ab x6 fun x8 x9=>Bz x8 fun Cd=>Ac x9<|Ab x7 fun Bp C4=>Ab Bp fun Da Cq=>Dk 3 Da fun C9 Do=>Ab Cq fun Du D5=>Af .i64 Du fun D7=>Ac D5<|Ac C4<|A4 Cd (Aa (IntKind.wrap .i64 ((↑C9:Int)-1)) fun Eh=>Aq (decide (0<=Eh)&&decide (Eh<(↑C9:Int)))<|Ag (call 135 [.own 1 0 [],.agg [.sc (.int .i64 a1_0),.sc (.int .u64 a1_1),.sc (.string a1_2)]]) fun Fy Ci=>Ab Fy fun Fn Ds=>Dk 1 Fn fun Bx Fc=>Ac Ds<|Ac Ci<|Ih 1 (List.getD Do (0+Int.toNat Eh*3+0+2) .top) fun Ft Bk Cg=>A4 (decide (0<Bk)) (Ih 1 (List.getD Do (0+Int.toNat Eh*3+0+2) .top) fun Hg Gf Ie=>Aq (decide (0+Bx*1<=List.length Fc))<|Ag (call 136 [.lst false 1 Gf Ie,.lst false 1 Bx (List.take (Bx*1) (List.drop 0 Fc))]) fun H0 Jn=>Ac Jn<|Ab H0 fun Gt Ix=>Bz Gt fun M5=>Ac Ix<|A4 (!M5) (Aq (decide (C9*3<=List.length Do))<|some (Ay.mk [.sc (.int .i64 7)] [[.own 3 C9 (List.take (C9*3) Do),.sc (.int .i64 D7)]])) (Aq (decide (0+Int.toNat Eh*3+0+2+1<=List.length Do))<|Aq (decide (0+Bx*1<=List.length Fc))<|Aa (B8 Do [.lst false 1 Bx (List.take (Bx*1) (List.drop 0 Fc))] (0+Int.toNat Eh*3+0+2)) fun F0=>Aq (decide (C9*3<=List.length F0))<|Ag (call 137 [.pbox [.own 3 C9 (List.take (C9*3) F0),.sc (.int .i64 D7)],.agg [.sc (.int .i64 a1_0),.sc (.int .u64 a1_1),.sc (.string a1_2)]]) fun H5 Rh=>Ac H5<|Ab Rh fun R6 L6=>Ab R6 fun Rl Pu=>Dk 3 Rl fun Lx Q6=>Ab Pu fun Rj Oc=>Af .i64 Rj fun Pw=>Ac Oc<|Ac L6<|Aq (decide (Lx*3<=List.length Q6))<|some (Ay.mk [.sc (.int .i64 0)] [[.own 3 Lx (List.take (Lx*3) Q6),.sc (.int .i64 Pw)]]))) (Aaa (Ih 1 (List.getD Do (0+Int.toNat Eh*3+0+2) .top) fun Sd Pq Rx=>Aq (decide (0+Bx*1<=List.length Fc))<|Ag (call 136 [.lst false 1 Pq Rx,.lst false 1 Bx (List.take (Bx*1) (List.drop 0 Fc))]) fun Lz Py=>Ac Py<|Ab Lz fun Rr Ts=>Bz Rr fun Pi=>Ac Ts<|A4 (!Pi) (Aq (decide (C9*3<=List.length Do))<|some (Ay.mk [.sc (.int .i64 7)] [[.own 3 C9 (List.take (C9*3) Do),.sc (.int .i64 D7)]])) (Aq (decide (0+Int.toNat Eh*3+0+2+1<=List.length Do))<|Aq (decide (0+Bx*1<=List.length Fc))<|Aa (B8 Do [.lst false 1 Bx (List.take (Bx*1) (List.drop 0 Fc))] (0+Int.toNat Eh*3+0+2)) fun Q9=>Aq (decide (C9*3<=List.length Q9))<|Ag (call 137 [.pbox [.own 3 C9 (List.take (C9*3) Q9),.sc (.int .i64 D7)],.agg [.sc (.int .i64 a1_0),.sc (.int .u64 a1_1),.sc (.string a1_2)]]) fun S5 Uv=>Ac S5<|Ab Uv fun Oe Ro=>Ab Oe fun V9 Uq=>Dk 3 V9 fun Q7 S6=>Ab Uq fun S1 Ty=>Af .i64 S1 fun Up=>Ac Ty<|Ac Ro<|Aq (decide (Q7*3<=List.length S6))<|some (Ay.mk [.sc (.int .i64 0)] [[.own 3 Q7 (List.take (Q7*3) S6),.sc (.int .i64 Up)]]))) (Aq (decide (0+Int.toNat Eh*3+0+2+1<=List.length Do))<|Aq (decide (0+Bx*1<=List.length Fc))<|Aa (B8 Do [.lst false 1 Bx (List.take (Bx*1) (List.drop 0 Fc))] (0+Int.toNat Eh*3+0+2)) fun Us=>Aq (decide (C9*3<=List.length Us))<|Ag (call 137 [.pbox [.own 3 C9 (List.take (C9*3) Us),.sc (.int .i64 D7)],.agg [.sc (.int .i64 a1_0),.sc (.int .u64 a1_1),.sc (.string a1_2)]]) fun Q8 Ws=>Ac Q8<|Ab Ws fun Wj Ur=>Ab Wj fun V1 Wu=>Dk 3 V1 fun V7 Wt=>Ab Wu fun Za x80=>Af .i64 Za fun x81=>Ac x80<|Ac Ur<|Aq (decide (V7*3<=List.length Wt))<|some (Ay.mk [.sc (.int .i64 0)] [[.own 3 V7 (List.take (V7*3) Wt),.sc (.int .i64 x81)]])))) (Aq (decide (C9*3<=List.length Do))<|Ag (call 137 [.pbox [.own 3 C9 (List.take (C9*3) Do),.sc (.int .i64 D7)],.agg [.sc (.int .i64 a1_0),.sc (.int .u64 a1_1),.sc (.string a1_2)]]) fun x82 x83=>Ac x82<|Ab x83 fun Z9 x85=>Ab Z9 fun x86 x87=>Dk 3 x86 fun Rm S9=>Ab x87 fun Vx x91=>Af .i64 Vx fun x92=>Ac x91<|Ac x85<|Aq (decide (Rm*3<=List.length S9))<|some (Ay.mk [.sc (.int .i64 0)] [[.own 3 Rm (List.take (Rm*3) S9),.sc (.int .i64 x92)]])))) (Aq (decide (a0_0n*3<=List.length a0_0))<|Ag (call 134 [.pbox [.own 3 a0_0n (List.take (a0_0n*3) a0_0),.sc (.int .i64 a0_1)]]) fun x93 x94=>Ab x93 fun x95 x96=>Bz x95 fun x97=>Ac x96<|Ab x94 fun x98 x99=>Ab x98 fun Tt Qd=>Dk 3 Tt fun G5 Jm=>Ab Qd fun S0 Pn=>Af .i64 S0 fun Oh=>Ac Pn<|Ac x99<|A4 x97 (Aa (IntKind.wrap .i64 ((↑G5:Int)-1)) fun Kl=>Aq (decide (0<=Kl)&&decide (Kl<(↑G5:Int)))<|Ag (call 135 [.own 1 0 [],.agg [.sc (.int .i64 a1_0),.sc (.int .u64 a1_1),.sc (.string a1_2)]]) fun Wd Xr=>Ab Wd fun Vu Wo=>Dk 1 Vu fun Ig Km=>Ac Wo<|Ac Xr<|Ih 1 (List.getD Jm (0+Int.toNat Kl*3+0+2) .top) fun Abb Aa3 Om=>A4 (decide (0<Aa3)) (Ih 1 (List.getD Jm (0+Int.toNat Kl*3+0+2) .top) fun S2 Aba Zm=>Aq (decide (0+Ig*1<=List.length Km))<|Ag (call 136 [.lst false 1 Aba Zm,.lst false 1 Ig (List.take (Ig*1) (List.drop 0 Km))]) fun Abj Z7=>Ac Z7<|Ab Abj fun Zp Abu=>Bz Zp fun Aa8=>Ac Abu<|A4 (!Aa8) (Aq (decide (G5*3<=List.length Jm))<|some (Ay.mk [.sc (.int .i64 7)] [[.own 3 G5 (List.take (G5*3) Jm),.sc (.int .i64 Oh)]])) (Aq (decide (0+Int.toNat Kl*3+0+2+1<=List.length Jm))<|Aq (decide (0+Ig*1<=List.length Km))<|Aa (B8 Jm [.lst false 1 Ig (List.take (Ig*1) (List.drop 0 Km))] (0+Int.toNat Kl*3+0+2)) fun Zk=>Aq (decide (G5*3<=List.length Zk))<|Ag (call 137 [.pbox [.own 3 G5 (List.take (G5*3) Zk),.sc (.int .i64 Oh)],.agg [.sc (.int .i64 a1_0),.sc (.int .u64 a1_1),.sc (.string a1_2)]]) fun Rc Ut=>Ac Rc<|Ab Ut fun Acc Abk=>Ab Acc fun Zl Afe=>Dk 3 Zl fun Aaz Ab3=>Ab Afe fun Ac8 Ae6=>Af .i64 Ac8 fun Ahu=>Ac Ae6<|Ac Abk<|Aq (decide (Aaz*3<=List.length Ab3))<|some (Ay.mk [.sc (.int .i64 0)] [[.own 3 Aaz (List.take (Aaz*3) Ab3),.sc (.int .i64 Ahu)]]))) (Aaa (Ih 1 (List.getD Jm (0+Int.toNat Kl*3+0+2) .top) fun Ahf Aex Z2=>Aq (decide (0+Ig*1<=List.length Km))<|Ag (call 136 [.lst false 1 Aex Z2,.lst false 1 Ig (List.take (Ig*1) (List.drop 0 Km))]) fun Ac6 Abx=>Ac Abx<|Ab Ac6 fun Adl Afa=>Bz Adl fun Abf=>Ac Afa<|A4 (!Abf) (Aq (decide (G5*3<=List.length Jm))<|some (Ay.mk [.sc (.int .i64 7)] [[.own 3 G5 (List.take (G5*3) Jm),.sc (.int .i64 Oh)]])) (Aq (decide (0+Int.toNat Kl*3+0+2+1<=List.length Jm))<|Aq (decide (0+Ig*1<=List.length Km))<|Aa (B8 Jm [.lst false 1 Ig (List.take (Ig*1) (List.drop 0 Km))] (0+Int.toNat Kl*3+0+2)) fun Z6=>Aq (decide (G5*3<=List.length Z6))<|Ag (call 137 [.pbox [.own 3 G5 (List.take (G5*3) Z6),.sc (.int .i64 Oh)],.agg [.sc (.int .i64 a1_0),.sc (.int .u64 a1_1),.sc (.string a1_2)]]) fun Zt Ae1=>Ac Zt<|Ab Ae1 fun Aeu Alj=>Ab Aeu fun Al4 Aia=>Dk 3 Al4 fun Abh Aha=>Ab Aia fun Aff Ahb=>Af .i64 Aff fun Ahk=>Ac Ahb<|Ac Alj<|Aq (decide (Abh*3<=List.length Aha))<|some (Ay.mk [.sc (.int .i64 0)] [[.own 3 Abh (List.take (Abh*3) Aha),.sc (.int .i64 Ahk)]]))) (Aq (decide (0+Int.toNat Kl*3+0+2+1<=List.length Jm))<|Aq (decide (0+Ig*1<=List.length Km))<|Aa (B8 Jm [.lst false 1 Ig (List.take (Ig*1) (List.drop 0 Km))] (0+Int.toNat Kl*3+0+2)) fun Ahg=>Aq (decide (G5*3<=List.length Ahg))<|Ag (call 137 [.pbox [.own 3 G5 (List.take (G5*3) Ahg),.sc (.int .i64 Oh)],.agg [.sc (.int .i64 a1_0),.sc (.int .u64 a1_1),.sc (.string a1_2)]]) fun Aht Ag9=>Ac Aht<|Ab Ag9 fun Ajy Aio=>Ab Ajy fun Ajg Ak4=>Dk 3 Ajg fun Afr Aho=>Ab Ak4 fun Ajz Afg=>Af .i64 Ajz fun Ahx=>Ac Afg<|Ac Aio<|Aq (decide (Afr*3<=List.length Aho))<|some (Ay.mk [.sc (.int .i64 0)] [[.own 3 Afr (List.take (Afr*3) Aho),.sc (.int .i64 Ahx)]])))) (Aq (decide (G5*3<=List.length Jm))<|Ag (call 137 [.pbox [.own 3 G5 (List.take (G5*3) Jm),.sc (.int .i64 Oh)],.agg [.sc (.int .i64 a1_0),.sc (.int .u64 a1_1),.sc (.string a1_2)]]) fun Afx Ae3=>Ac Afx<|Ab Ae3 fun Ajr Aoa=>Ab Ajr fun Aii Ala=>Dk 3 Aii fun Ahp Al6=>Ab Ala fun Aso Alu=>Af .i64 Aso fun Apg=>Ac Alu<|Ac Aoa<|Aq (decide (Ahp*3<=List.length Al6))<|some (Ay.mk [.sc (.int .i64 0)] [[.own 3 Ahp (List.take (Ahp*3) Al6),.sc (.int .i64 Apg)]])))) (Ae C0 Tryz.prog fu d):=by kernel_rfl
abbrev O1:FuncId:=144
theorem Zc (fu d a0_0n:Nat)(a0_0:List PV)(a0_1 a1_0 a1_1:Int)(a1_2:ByteArray):Ae C0 Tryz.prog fu (d+1) O1 [.pbox [.own 3 a0_0n a0_0,.sc (.int .i64 a0_1)],.agg [.sc (.int .i64 a1_0),.sc (.int .u64 a1_1),.sc (.string a1_2)]]=(fun (call:Am)=>Aq (decide (a0_0n*3<=List.length a0_0))<|Ag (call 109 [.pbox [.own 3 a0_0n (List.take (a0_0n*3) a0_0),.sc (.int .i64 a0_1)]]) fun x1 x2=>Ab x1 fun x3 x4=>Bz x3 fun x5=>Ac x4<|Ab x2 fun x6 x7=>Ab x6 fun x8 x9=>Dk 3 x8 fun Cd Bp=>Ab x9 fun C4 Da=>Af .i64 C4 fun Cq=>Ac Da<|Ac x7<|A4 x5 (Aq (decide (Cd*3<=List.length Bp))<|some (Ay.mk [.sc (.int .i64 2)] [[.own 3 Cd (List.take (Cd*3) Bp),.sc (.int .i64 Cq)]])) (Aq (decide (Cd*3<=List.length Bp))<|Ag (call 121 [.pbox [.own 3 Cd (List.take (Cd*3) Bp),.sc (.int .i64 Cq)],.sc (.int .i64 a1_0)]) fun C9 Do=>Ab C9 fun Du D5=>Af .i64 Du fun D7=>Ac D5<|Ab Do fun Eh Fy=>Ab Eh fun Ci Fn=>Dk 3 Ci fun Ds Bx=>Ab Fn fun Fc Ft=>Af .i64 Fc fun Bk=>Ac Ft<|Ac Fy<|A4 (D7 != 0) (Aq (decide (Ds*3<=List.length Bx))<|some (Ay.mk [.sc (.int .i64 D7)] [[.own 3 Ds (List.take (Ds*3) Bx),.sc (.int .i64 Bk)]])) (Ag (call 146 [.agg [.sc (.int .i64 a1_0),.sc (.int .u64 a1_1),.sc (.string a1_2)]]) fun Cg Hg=>Ac Hg<|Ab Cg fun Gf Ie=>Bz Gf fun H0=>Ac Ie<|A4 (!H0) (Aq (decide (Ds*3<=List.length Bx))<|some (Ay.mk [.sc (.int .i64 4)] [[.own 3 Ds (List.take (Ds*3) Bx),.sc (.int .i64 Bk)]])) (A4 (decide ((↑(ByteArray.size a1_2):Int)>1024)) (Aq (decide (Ds*3<=List.length Bx))<|some (Ay.mk [.sc (.int .i64 8)] [[.own 3 Ds (List.take (Ds*3) Bx),.sc (.int .i64 Bk)]])) (A4 (a1_0==5) (A4 (decide (a1_1>512)) (Aq (decide (Ds*3<=List.length Bx))<|some (Ay.mk [.sc (.int .i64 8)] [[.own 3 Ds (List.take (Ds*3) Bx),.sc (.int .i64 Bk)]])) (Aq (decide (Ds*3<=List.length Bx))<|Ag (call 122 [.pbox [.own 3 Ds (List.take (Ds*3) Bx),.sc (.int .i64 Bk)],.agg [.sc (.int .i64 a1_0),.sc (.int .u64 a1_1),.sc (.string a1_2)]]) fun Jn Gt=>Ab Jn fun Ix M5=>Af .i64 Ix fun F0=>Ac M5<|Ab Gt fun H5 Rh=>Ab H5 fun R6 L6=>Dk 3 R6 fun Rl Pu=>Ab L6 fun Lx Q6=>Af .i64 Lx fun Rj=>Ac Q6<|Ac Rh<|Aq (decide (Rl*3<=List.length Pu))<|some (Ay.mk [.sc (.int .i64 F0)] [[.own 3 Rl (List.take (Rl*3) Pu),.sc (.int .i64 Rj)]]))) (A4 (a1_0==6) (A4 (decide (a1_1>512)) (Aq (decide (Ds*3<=List.length Bx))<|some (Ay.mk [.sc (.int .i64 8)] [[.own 3 Ds (List.take (Ds*3) Bx),.sc (.int .i64 Bk)]])) (Aq (decide (Ds*3<=List.length Bx))<|Ag (call 122 [.pbox [.own 3 Ds (List.take (Ds*3) Bx),.sc (.int .i64 Bk)],.agg [.sc (.int .i64 a1_0),.sc (.int .u64 a1_1),.sc (.string a1_2)]]) fun Oc Pw=>Ab Oc fun Sd Pq=>Af .i64 Sd fun Rx=>Ac Pq<|Ab Pw fun Lz Py=>Ab Lz fun Rr Ts=>Dk 3 Rr fun Pi Q9=>Ab Ts fun S5 Uv=>Af .i64 S5 fun Oe=>Ac Uv<|Ac Py<|Aq (decide (Pi*3<=List.length Q9))<|some (Ay.mk [.sc (.int .i64 Rx)] [[.own 3 Pi (List.take (Pi*3) Q9),.sc (.int .i64 Oe)]]))) (Aq (decide (Ds*3<=List.length Bx))<|Ag (call 122 [.pbox [.own 3 Ds (List.take (Ds*3) Bx),.sc (.int .i64 Bk)],.agg [.sc (.int .i64 a1_0),.sc (.int .u64 a1_1),.sc (.string a1_2)]]) fun Ro V9=>Ab Ro fun Uq Q7=>Af .i64 Uq fun S6=>Ac Q7<|Ab V9 fun S1 Ty=>Ab S1 fun Up Us=>Dk 3 Up fun Q8 Ws=>Ab Us fun Wj Ur=>Af .i64 Wj fun V1=>Ac Ur<|Ac Ty<|Aq (decide (Q8*3<=List.length Ws))<|some (Ay.mk [.sc (.int .i64 S6)] [[.own 3 Q8 (List.take (Q8*3) Ws),.sc (.int .i64 V1)]])))))))) (Ae C0 Tryz.prog fu d):=by kernel_rfl
abbrev Vy:FuncId:=140
noncomputable def Iz (fu:Nat)(call:Am)(a0n:Nat)(a0:List PV)(nn y0:Nat)(y1:List PV)(y2 y3:Int)(y4:Nat)(y5:Int)(y6:List PV):Option Ay:=Db C0 Tryz.prog fu call 140 Tryz.f140 (Ch Tryz.f140) [.lst false 3 a0n a0] [.r,.r,.l,.r,.l] nn ⟨lk [(3,(.ptr 3 0)),(7,(.lst false 3 y0 y1)),(8,(.sc (.int .i64 y2))),(9,(.sc (.int .i64 y3)))],Gn [(3,(.st [(.view 25 3 0 y4),(.sc (.int .i64 y5))])),(25,(.ar false y6))]⟩
theorem Qr (fu:Nat)(call:Am)(a0n:Nat)(a0:List PV)(nn y0:Nat)(y1:List PV)(y2 y3:Int)(y4:Nat)(y5:Int)(y6:List PV):Iz fu call a0n a0 (nn+1) y0 y1 y2 y3 y4 y5 y6=(A4 (decide (y3<y2)) (Aq (decide (0<=y3)&&decide (y3<(↑y0:Int)))<|Af .i64 (List.getD y1 (Int.toNat y3*3) .top) fun x1=>Af .u64 (List.getD y1 (Int.toNat y3*3+1) .top) fun x2=>Cn (List.getD y1 (Int.toNat y3*3+1+1) .top) fun x3=>Aq (decide (y4*3<=List.length y6))<|Ag (call 144 [.pbox [.own 3 y4 (List.take (y4*3) y6),.sc (.int .i64 y5)],.agg [.sc (.int .i64 x1),.sc (.int .u64 x2),.sc (.string x3)]]) fun x4 x5=>Ab x4 fun x6 x7=>Af .i64 x6 fun x8=>Ac x7<|Ab x5 fun x9 Cd=>Ab x9 fun Bp C4=>Dk 3 Bp fun Da Cq=>Ab C4 fun C9 Do=>Af .i64 C9 fun Du=>Ac Do<|Ac Cd<|A4 (x8 != 0) (some (Ay.mk [.sc (.int .i64 x8)] [])) (Aa (IntKind.wrap .i64 (y3+1)) fun D5=>Iz fu call a0n a0 (nn) (y0) (y1) (y2) D5 Da Du Cq)) (Aq (decide (y4*3<=List.length y6))<|Ag (call 109 [.pbox [.own 3 y4 (List.take (y4*3) y6),.sc (.int .i64 y5)]]) fun D7 Eh=>Ab D7 fun Fy Ci=>Bz Fy fun Fn=>Ac Ci<|Ab Eh fun Ds Bx=>Ab Ds fun Fc Ft=>Dk 3 Fc fun Bk Cg=>Ab Ft fun Hg Gf=>Af .i64 Hg fun Ie=>Ac Gf<|Ac Bx<|A4 (!Fn) (some (Ay.mk [.sc (.int .i64 1)] [])) (some (Ay.mk [.sc (.int .i64 0)] [])))):=by kernel_rfl
theorem Ahc (fu d a0n:Nat)(a0:List PV):Ae C0 Tryz.prog fu (d+1) Vy [.lst false 3 a0n a0]=(fun (call:Am)=>Iz fu call a0n a0 (fu) (a0n) (a0) ((↑a0n:Int)) 0 0 0 ([])) (Ae C0 Tryz.prog fu d):=by kernel_rfl
abbrev Xu:FuncId:=139
theorem Akm (fu d a0n:Nat)(a0:List PV):Ae C0 Tryz.prog fu (d+1) Xu [.own 3 a0n a0]=(fun (call:Am)=>Aq (decide (0+a0n*3<=List.length a0))<|Ag (call 140 [.lst false 3 a0n (List.take (a0n*3) (List.drop 0 a0))]) fun x1 x2=>Ac x2<|Ab x1 fun x3 x4=>Af .i64 x3 fun x5=>Ac x4<|A4 (x5 != 0) (some (Ay.mk [.own 3 0 [],.sc (.int .i64 x5)] [])) (Aq (decide (a0n*3<=List.length a0))<|some (Ay.mk [.own 3 a0n (List.take (a0n*3) a0),.sc (.int .i64 0)] []))) (Ae C0 Tryz.prog fu d):=by kernel_rfl
abbrev Aag:FuncId:=138
noncomputable def Lr (fu:Nat)(call:Am)(a0n:Nat)(a0:List PV)(nn y0:Nat)(y1:List PV)(y2 y3:Int):Option Ay:=Db C0 Tryz.prog fu call 138 Tryz.f138 (Ch Tryz.f138) [.lst false 1 a0n a0] [.r,.l,.r,.l] nn ⟨lk [(6,(.lst false 1 y0 y1)),(7,(.sc (.int .i64 y2))),(8,(.sc (.int .i64 y3)))],Gn []⟩
theorem Tq (fu:Nat)(call:Am)(a0n:Nat)(a0:List PV)(nn y0:Nat)(y1:List PV)(y2 y3:Int):Lr fu call a0n a0 (nn+1) y0 y1 y2 y3=(A4 (decide (y3<y2)) (Aq (decide (0<=y3)&&decide (y3<(↑y0:Int)))<|Ih 3 (List.getD y1 (Int.toNat y3*1) .top) fun x1 x2 x3=>Ag (call 140 [.lst false 3 x2 x3]) fun x4 x5=>Ac x5<|Ab x4 fun x6 x7=>Af .i64 x6 fun x8=>Ac x7<|A4 (x8 != 0) (some (Ay.mk [.sc (.int .i64 x8)] [])) (Aa (IntKind.wrap .i64 (y3+1)) fun x9=>Lr fu call a0n a0 (nn) (y0) (y1) (y2) x9)) (some (Ay.mk [.sc (.int .i64 0)] []))):=by kernel_rfl
theorem Alc (fu d a0n:Nat)(a0:List PV):Ae C0 Tryz.prog fu (d+1) Aag [.lst false 1 a0n a0]=(fun (call:Am)=>Lr fu call a0n a0 (fu) (a0n) (a0) ((↑a0n:Int)) 0) (Ae C0 Tryz.prog fu d):=by kernel_rfl
abbrev Vk:FuncId:=124
noncomputable def M6 (fu:Nat)(call:Am)(a0n:Nat)(a0:List PV)(nn y0 y1:Nat)(y2:List PV)(y3 y4:Int)(y5:List PV):Option Ay:=Db C0 Tryz.prog fu call 124 Tryz.f124 (Ch Tryz.f124) [.lst false 1 a0n a0] [.r,.r,.r,.l,.r,.l] nn ⟨lk [(5,(.view 5 3 0 y0)),(18,(.lst false 1 y1 y2)),(19,(.sc (.int .i64 y3))),(20,(.sc (.int .i64 y4)))],Gn [(5,(.ar false y5))]⟩
theorem Vw (fu:Nat)(call:Am)(a0n:Nat)(a0:List PV)(nn y0 y1:Nat)(y2:List PV)(y3 y4:Int)(y5:List PV):M6 fu call a0n a0 (nn+1) y0 y1 y2 y3 y4 y5=(A4 (decide (y4<y3)) (Aq (decide (0<=y4)&&decide (y4<(↑y1:Int)))<|Ih 3 (List.getD y2 (Int.toNat y4*1) .top) fun x7 x8 x9=>A4 (decide ((↑y0:Int)>512)) (Aq (decide (y0*3<=List.length y5))<|Ag (call 139 [.own 3 y0 (List.take (y0*3) y5)]) fun Cd Bp=>Ab Cd fun C4 Da=>Dk 3 C4 fun Cq C9=>Ab Da fun Do Du=>Af .i64 Do fun D5=>Ac Du<|Ac Bp<|Aq (decide (Cq*3<=List.length C9))<|some (Ay.mk [.own 3 Cq (List.take (Cq*3) C9),.sc (.int .i64 D5)] [])) (Aq (decide (y0*3<=List.length y5)&&decide (List.length x9=x8*3)&&decide ((y0+x8)*32<=1099511627776)&&decide (y0+x8<=1099511627776))<|Aa (y0+x8) fun D7=>Aa (List.take (y0*3) y5++x9) fun Eh=>Aa (IntKind.wrap .i64 (y4+1)) fun Fy=>M6 fu call a0n a0 (nn) D7 (y1) (y2) (y3) Fy Eh)) (Aq (decide (y0*3<=List.length y5))<|Ag (call 139 [.own 3 y0 (List.take (y0*3) y5)]) fun Ci Fn=>Ab Ci fun Ds Bx=>Dk 3 Ds fun Fc Ft=>Ab Bx fun Bk Cg=>Af .i64 Bk fun Hg=>Ac Cg<|Ac Fn<|Aq (decide (Fc*3<=List.length Ft))<|some (Ay.mk [.own 3 Fc (List.take (Fc*3) Ft),.sc (.int .i64 Hg)] []))):=by kernel_rfl
theorem Ao9 (fu d a0n:Nat)(a0:List PV):Ae C0 Tryz.prog fu (d+1) Vk [.lst false 1 a0n a0]=(fun (call:Am)=>Ag (call 138 [.lst false 1 a0n a0]) fun x1 x2=>Ac x2<|Ab x1 fun x3 x4=>Af .i64 x3 fun x5=>Ac x4<|A4 (x5 != 0) (some (Ay.mk [.own 3 0 [],.sc (.int .i64 x5)] [])) (Aa (IntKind.wrap .u64 (↑a0n:Int)) fun x6=>M6 fu call a0n a0 (fu) 1 (a0n) (a0) ((↑a0n:Int)) 0 ([.sc (.int .i64 5),.sc (.int .u64 x6),.sc (.string (ByteArray.mk #[]))]))) (Ae C0 Tryz.prog fu d):=by kernel_rfl
abbrev Sw:FuncId:=129
noncomputable def Lo (fu:Nat)(call:Am)(a0n:Nat)(a0:List PV)(nn y0 y1:Nat)(y2:List PV)(y3 y4:Int)(y5:List PV):Option Ay:=Db C0 Tryz.prog fu call 129 Tryz.f129 (Ch Tryz.f129) [.lst false 3 a0n a0] [.r,.r,.r,.l,.r,.l] nn ⟨lk [(5,(.view 5 1 0 y0)),(13,(.lst false 3 y1 y2)),(14,(.sc (.int .i64 y3))),(15,(.sc (.int .i64 y4)))],Gn [(5,(.ar false y5))]⟩
theorem Uh (fu:Nat)(call:Am)(a0n:Nat)(a0:List PV)(nn y0 y1:Nat)(y2:List PV)(y3 y4:Int)(y5:List PV):Lo fu call a0n a0 (nn+1) y0 y1 y2 y3 y4 y5=(A4 (decide (y4<y3)) (Aq (decide (0<=y4)&&decide (y4<(↑y1:Int)))<|Af .i64 (List.getD y2 (Int.toNat y4*3) .top) fun x6=>Af .u64 (List.getD y2 (Int.toNat y4*3+1) .top) fun x7=>Cn (List.getD y2 (Int.toNat y4*3+1+1) .top) fun x8=>Aq (decide (y0*1<=List.length y5))<|Ag (call 135 [.own 1 y0 (List.take (y0*1) y5),.agg [.sc (.int .i64 x6),.sc (.int .u64 x7),.sc (.string x8)]]) fun x9 Cd=>Ab x9 fun Bp C4=>Dk 1 Bp fun Da Cq=>Ac C4<|Ac Cd<|Aa (IntKind.wrap .i64 (y4+1)) fun C9=>Lo fu call a0n a0 (nn) Da (y1) (y2) (y3) C9 Cq) (Aq (decide (y0*1<=List.length y5))<|some (Ay.mk [.own 1 y0 (List.take (y0*1) y5),.sc (.int .i64 0)] []))):=by kernel_rfl
theorem Al1 (fu d a0n:Nat)(a0:List PV):Ae C0 Tryz.prog fu (d+1) Sw [.lst false 3 a0n a0]=(fun (call:Am)=>Ag (call 140 [.lst false 3 a0n a0]) fun x1 x2=>Ac x2<|Ab x1 fun x3 x4=>Af .i64 x3 fun x5=>Ac x4<|A4 (x5 != 0) (some (Ay.mk [.own 1 0 [],.sc (.int .i64 x5)] [])) (Lo fu call a0n a0 (fu) 0 (a0n) (a0) ((↑a0n:Int)) 0 ([]))) (Ae C0 Tryz.prog fu d):=by kernel_rfl
end
section
set_option maxRecDepth 100000
abbrev Q3:FuncId:=96
theorem Abg (fu d:Nat)(a0 a1:ByteArray):Ae C0 Tryz.prog fu (d+1) Q3 [.sc (.string a0),.sc (.string a1)]=(fun (call:Am)=>A4 ((↑(ByteArray.size a0):Int) != (↑(ByteArray.size a1):Int)) (some (Ay.mk [.sc (.bool (decide ((↑(ByteArray.size a0):Int)<(↑(ByteArray.size a1):Int))))] [])) (some (Ay.mk [.sc (.bool (Op.bytesLess (Array.toList (ByteArray.data a0)) (Array.toList (ByteArray.data a1))))] []))) (Ae C0 Tryz.prog fu d):=by kernel_rfl
abbrev O0:FuncId:=95
theorem Zh (fu d:Nat)(a0:Int):Ae C0 Tryz.prog fu (d+1) O0 [.sc (.int .i64 a0)]=(fun (call:Am)=>A4 (a0==1) (some (Ay.mk [.sc (.bool true)] [])) (A4 (a0==2) (some (Ay.mk [.sc (.bool true)] [])) (some (Ay.mk [.sc (.bool (a0==4))] [])))) (Ae C0 Tryz.prog fu d):=by kernel_rfl
abbrev Qn:FuncId:=114
noncomputable def Dn (fu:Nat)(call:Am)(a0_0 a0_1:Int)(a0_2:ByteArray)(nn:Nat)(y0 y1:Int):Option Ay:=Db C0 Tryz.prog fu call 114 Tryz.f114 (Ch Tryz.f114) [.agg [.sc (.int .i64 a0_0),.sc (.int .u64 a0_1),.sc (.string a0_2)]] [.r,.r,.r] nn ⟨lk [(3,(.sc (.int .u64 y0))),(4,(.sc (.int .u8 y1)))],Gn []⟩
theorem Wf (fu:Nat)(call:Am)(a0_0 a0_1:Int)(a0_2:ByteArray)(nn:Nat)(hnn:0<nn)(y0 y1:Int):Dn fu call a0_0 a0_1 a0_2 nn y0 y1=(A4 (decide (y0<24)) (Aa (IntKind.wrap .u8 y0) fun x5=>Aa (IntKind.wrap .u8 (y1+x5)) fun x6=>some (Ay.mk [.own 1 1 [.sc (.int .u8 x6)]] [])) (A4 (decide (y0<256)) (Aa (IntKind.wrap .u8 (y1+24)) fun x7=>Aa (IntKind.wrap .u8 y0) fun x8=>some (Ay.mk [.own 1 2 [.sc (.int .u8 x7),.sc (.int .u8 x8)]] [])) (A4 (decide (y0<65536)) (Aa (IntKind.wrap .u8 (y1+25)) fun x9=>Aa (Eg .u64 y0 8) fun Cd=>Aa (IntKind.wrap .u8 Cd) fun Bp=>Aa (IntKind.wrap .u8 y0) fun C4=>some (Ay.mk [.own 1 3 [.sc (.int .u8 x9),.sc (.int .u8 Bp),.sc (.int .u8 C4)]] [])) (A4 (decide (y0<4294967296)) (Aa (IntKind.wrap .u8 (y1+26)) fun Da=>Aa (Eg .u64 y0 24) fun Cq=>Aa (IntKind.wrap .u8 Cq) fun C9=>Aa (Eg .u64 y0 16) fun Do=>Aa (IntKind.wrap .u8 Do) fun Du=>Aa (Eg .u64 y0 8) fun D5=>Aa (IntKind.wrap .u8 D5) fun D7=>Aa (IntKind.wrap .u8 y0) fun Eh=>some (Ay.mk [.own 1 5 [.sc (.int .u8 Da),.sc (.int .u8 C9),.sc (.int .u8 Du),.sc (.int .u8 D7),.sc (.int .u8 Eh)]] [])) (Aa (IntKind.wrap .u8 (y1+27)) fun Fy=>Ag (call 38 [.lst false 1 1 [.sc (.int .u64 y0)]]) fun Ci Fn=>Ac Fn<|Ab Ci fun Ds Bx=>Dk 1 Ds fun Fc Ft=>Ac Bx<|Aq (decide (0+Fc*1<=List.length Ft))<|Aq (decide (List.length (List.take (Fc*1) (List.drop 0 Ft))=Fc*1)&&decide ((1+Fc)*1<=1099511627776)&&decide (1+Fc<=1099511627776))<|Aa (1+Fc) fun Bk=>Aa ([.sc (.int .u8 Fy)]++List.take (Fc*1) (List.drop 0 Ft)) fun Cg=>Aq (decide (Bk*1<=List.length Cg))<|some (Ay.mk [.own 1 Bk (List.take (Bk*1) Cg)] [])))))):=by cases nn with|zero=>exact absurd hnn (Nat.lt_irrefl 0)|succ nn=>kernel_rfl
theorem Abm (fu d:Nat)(a0_0 a0_1:Int)(a0_2:ByteArray):Ae C0 Tryz.prog fu (d+1) Qn [.agg [.sc (.int .i64 a0_0),.sc (.int .u64 a0_1),.sc (.string a0_2)]]=(fun (call:Am)=>A4 (a0_0==7) (Aa (IntKind.wrap .u8 a0_1) fun x1=>Aa (IntKind.wrap .u8 (244+x1)) fun x2=>some (Ay.mk [.own 1 1 [.sc (.int .u8 x2)]] [])) (A4 (a0_0==8) (some (Ay.mk [.own 1 1 [.sc (.int .u8 246)]] [])) (A4 (a0_0==2) (Dn fu call a0_0 a0_1 a0_2 (fu) (a0_1) 32) (A4 (a0_0==3) (Aa (IntKind.wrap .u64 (↑(ByteArray.size a0_2):Int)) fun x3=>Dn fu call a0_0 a0_1 a0_2 (fu) x3 64) (A4 (a0_0==4) (Aa (IntKind.wrap .u64 (↑(ByteArray.size a0_2):Int)) fun x4=>Dn fu call a0_0 a0_1 a0_2 (fu) x4 96) (A4 (a0_0==5) (Dn fu call a0_0 a0_1 a0_2 (fu) (a0_1) 128) (A4 (a0_0==6) (Dn fu call a0_0 a0_1 a0_2 (fu) (a0_1) 160) (Dn fu call a0_0 a0_1 a0_2 (fu) (a0_1) 0)))))))) (Ae C0 Tryz.prog fu d):=by kernel_rfl
abbrev Pa:FuncId:=97
theorem Zz (fu d:Nat)(a0_0 a0_1:Int)(a0_2:ByteArray):Ae C0 Tryz.prog fu (d+1) Pa [.agg [.sc (.int .i64 a0_0),.sc (.int .u64 a0_1),.sc (.string a0_2)]]=(fun (call:Am)=>Ag (call 114 [.agg [.sc (.int .i64 a0_0),.sc (.int .u64 a0_1),.sc (.string a0_2)]]) fun x1 x2=>Ac x2<|Ab x1 fun x3 x4=>Dk 1 x3 fun x5 x6=>Ac x4<|Aq (decide (0+x5*1<=List.length x6))<|Aq (decide (List.length (List.take (x5*1) (List.drop 0 x6))=x5))<|Ez (bytesOf (List.take (x5*1) (List.drop 0 x6))) fun x7=>Aq (decide (ByteArray.size (ByteArray.mk (List.toArray x7))+ByteArray.size a0_2<=9223372036854775807))<|Aa (ByteArray.mk (List.toArray x7)++a0_2) fun x8=>some (Ay.mk [.sc (.string x8)] [])) (Ae C0 Tryz.prog fu d):=by kernel_rfl
abbrev I8:FuncId:=94
noncomputable def C5 (fu:Nat)(call:Am)(a0_0:ByteArray)(a0_1:Int)(a0_2n:Nat)(a0_2:List PV)(nn:Nat)(y0 y1:Int)(y2 y3:Int)(y4:ByteArray)(y5:Int)(y6:Nat)(y7:List PV)(y8 y9:Int)(y10:ByteArray):Option Ay:=Db C0 Tryz.prog fu call 94 Tryz.f94 (Ch Tryz.f94) [.pbox [.sc (.string a0_0),.sc (.int .i64 a0_1),.own 3 a0_2n a0_2]] [.r,.r,.r,.r,.r,.r,.r,.r,.r,.r,.r,.l,.r,.l] nn ⟨lk [(0,(.ptr 274000 0)),(2,(.ptr 2 0)),(5,(.sc (.int .i64 y0))),(7,(.sc (.int .i64 y1))),(8,(.sc (.int .u64 y2))),(9,(.sc (.int .i64 y3)))],Gn [(274000,(.st [(.sc (.string y4)),(.sc (.int .i64 y5)),(.view 274411 3 0 y6)])),(274411,(.ar false y7)),(2,(.st [(.sc (.int .i64 y8)),(.sc (.int .u64 y9)),(.sc (.string y10))]))]⟩
theorem Ht (fu:Nat)(call:Am)(a0_0:ByteArray)(a0_1:Int)(a0_2n:Nat)(a0_2:List PV)(nn:Nat)(y0 y1:Int)(y2 y3:Int)(y4:ByteArray)(y5:Int)(y6:Nat)(y7:List PV)(y8 y9:Int)(y10:ByteArray):C5 fu call a0_0 a0_1 a0_2n a0_2 (nn+1) y0 y1 y2 y3 y4 y5 y6 y7 y8 y9 y10=(A4 (decide (y3<y1)) (Aa (Fb .u64 y2 8) fun Ci=>Aa (IntKind.wrap .i64 (y5+1)) fun Fn=>Aa (IntKind.wrap .i64 (Fn+y3)) fun Ds=>Aq (decide (0<=Ds))<|Ez ((Array.toList (ByteArray.data y4))[Int.toNat Ds]?) fun Bx=>Aa (IntKind.wrap .u64 (↑(UInt8.toNat Bx):Int)) fun Fc=>Aa (Y9 .u64 Ci Fc) fun Ft=>Aa (IntKind.wrap .i64 (y3+1)) fun Bk=>C5 fu call a0_0 a0_1 a0_2n a0_2 (nn) (y0) (y1) Ft Bk (y4) (y5) (y6) (y7) (y8) (y9) (y10)) (Aq (decide (0<=y1)&&decide (y1<9))<|Af .u64 (List.getD [.sc (.int .u64 0),.sc (.int .u64 24),.sc (.int .u64 256),.sc (.int .u64 0),.sc (.int .u64 65536),.sc (.int .u64 0),.sc (.int .u64 0),.sc (.int .u64 0),.sc (.int .u64 4294967296)] (0+Int.toNat y1*1) .top) fun Cg=>A4 (decide (y2<Cg)) (Aq (decide (y6*3<=List.length y7))<|some (Ay.mk [.agg [.sc (.int .i64 0),.sc (.int .u64 0),.sc (.string (ByteArray.mk #[]))],.sc (.int .i64 2)] [[.sc (.string y4),.sc (.int .i64 y5),.own 3 y6 (List.take (y6*3) y7)]])) (Aa (IntKind.wrap .i64 (1+y1)) fun Hg=>Aa (IntKind.wrap .i64 (y5+Hg)) fun Gf=>Aq (decide (0<=y0)&&decide (y0<6))<|Af .i64 (List.getD [.sc (.int .i64 1),.sc (.int .i64 2),.sc (.int .i64 3),.sc (.int .i64 4),.sc (.int .i64 5),.sc (.int .i64 6)] (0+Int.toNat y0*1) .top) fun Ie=>Aq (decide (y6*3<=List.length y7))<|some (Ay.mk [.agg [.sc (.int .i64 Ie),.sc (.int .u64 y2),.sc (.string (ByteArray.mk #[]))],.sc (.int .i64 0)] [[.sc (.string y4),.sc (.int .i64 Gf),.own 3 y6 (List.take (y6*3) y7)]])))):=by kernel_rfl
theorem Ri (fu d:Nat)(a0_0:ByteArray)(a0_1:Int)(a0_2n:Nat)(a0_2:List PV):Ae C0 Tryz.prog fu (d+1) I8 [.pbox [.sc (.string a0_0),.sc (.int .i64 a0_1),.own 3 a0_2n a0_2]]=(fun (call:Am)=>A4 (decide (a0_1>=(↑(ByteArray.size a0_0):Int))) (Aq (decide (a0_2n*3<=List.length a0_2))<|some (Ay.mk [.agg [.sc (.int .i64 0),.sc (.int .u64 0),.sc (.string (ByteArray.mk #[]))],.sc (.int .i64 1)] [[.sc (.string a0_0),.sc (.int .i64 a0_1),.own 3 a0_2n (List.take (a0_2n*3) a0_2)]])) (Aq (decide (0<=a0_1))<|Ez ((Array.toList (ByteArray.data a0_0))[Int.toNat a0_1]?) fun x1=>A4 ((↑(UInt8.toNat x1):Int)==244) (Aa (IntKind.wrap .i64 (a0_1+1)) fun x2=>Aa (IntKind.wrap .u8 ((↑(UInt8.toNat x1):Int)-244)) fun x3=>Aa (IntKind.wrap .u64 x3) fun x4=>Aq (decide (a0_2n*3<=List.length a0_2))<|some (Ay.mk [.agg [.sc (.int .i64 7),.sc (.int .u64 x4),.sc (.string (ByteArray.mk #[]))],.sc (.int .i64 0)] [[.sc (.string a0_0),.sc (.int .i64 x2),.own 3 a0_2n (List.take (a0_2n*3) a0_2)]])) (A4 ((↑(UInt8.toNat x1):Int)==245) (Aa (IntKind.wrap .i64 (a0_1+1)) fun x5=>Aa (IntKind.wrap .u8 ((↑(UInt8.toNat x1):Int)-244)) fun x6=>Aa (IntKind.wrap .u64 x6) fun x7=>Aq (decide (a0_2n*3<=List.length a0_2))<|some (Ay.mk [.agg [.sc (.int .i64 7),.sc (.int .u64 x7),.sc (.string (ByteArray.mk #[]))],.sc (.int .i64 0)] [[.sc (.string a0_0),.sc (.int .i64 x5),.own 3 a0_2n (List.take (a0_2n*3) a0_2)]])) (A4 ((↑(UInt8.toNat x1):Int)==246) (Aa (IntKind.wrap .i64 (a0_1+1)) fun x8=>Aq (decide (a0_2n*3<=List.length a0_2))<|some (Ay.mk [.agg [.sc (.int .i64 8),.sc (.int .u64 0),.sc (.string (ByteArray.mk #[]))],.sc (.int .i64 0)] [[.sc (.string a0_0),.sc (.int .i64 x8),.own 3 a0_2n (List.take (a0_2n*3) a0_2)]])) (Aa (Eg .u8 (↑(UInt8.toNat x1):Int) 5) fun x9=>Aa (IntKind.wrap .i64 x9) fun Cd=>Aa (E9 .u8 (↑(UInt8.toNat x1):Int) 31) fun Bp=>Aa (IntKind.wrap .i64 Bp) fun C4=>A4 (decide (Cd>5)) (Aq (decide (a0_2n*3<=List.length a0_2))<|some (Ay.mk [.agg [.sc (.int .i64 0),.sc (.int .u64 0),.sc (.string (ByteArray.mk #[]))],.sc (.int .i64 2)] [[.sc (.string a0_0),.sc (.int .i64 a0_1),.own 3 a0_2n (List.take (a0_2n*3) a0_2)]])) (A4 (decide (C4>27)) (Aq (decide (a0_2n*3<=List.length a0_2))<|some (Ay.mk [.agg [.sc (.int .i64 0),.sc (.int .u64 0),.sc (.string (ByteArray.mk #[]))],.sc (.int .i64 2)] [[.sc (.string a0_0),.sc (.int .i64 a0_1),.own 3 a0_2n (List.take (a0_2n*3) a0_2)]])) (A4 (decide (C4>=24)) (Aa (IntKind.wrap .i64 (C4-24)) fun Da=>Aa (IntKind.wrap .u64 Da) fun Cq=>Aq (decide (0<=Cq))<|Aa (Fb .i64 1 Cq) fun C9=>Aa (IntKind.wrap .i64 ((↑(ByteArray.size a0_0):Int)-a0_1)) fun Do=>Aa (IntKind.wrap .i64 (Do-1)) fun Du=>A4 (decide (Du<C9)) (Aq (decide (a0_2n*3<=List.length a0_2))<|some (Ay.mk [.agg [.sc (.int .i64 0),.sc (.int .u64 0),.sc (.string (ByteArray.mk #[]))],.sc (.int .i64 1)] [[.sc (.string a0_0),.sc (.int .i64 a0_1),.own 3 a0_2n (List.take (a0_2n*3) a0_2)]])) (Aa (IntKind.wrap .u64 C4) fun D5=>A4 (decide (C9>0)) (C5 fu call a0_0 a0_1 a0_2n a0_2 (fu) Cd C9 0 0 (a0_0) (a0_1) (a0_2n) (a0_2) 0 0 (ByteArray.mk #[])) (C5 fu call a0_0 a0_1 a0_2n a0_2 (fu) Cd C9 D5 0 (a0_0) (a0_1) (a0_2n) (a0_2) 0 0 (ByteArray.mk #[])))) (Aa (IntKind.wrap .i64 ((↑(ByteArray.size a0_0):Int)-a0_1)) fun D7=>Aa (IntKind.wrap .i64 (D7-1)) fun Eh=>A4 (decide (Eh<0)) (Aq (decide (a0_2n*3<=List.length a0_2))<|some (Ay.mk [.agg [.sc (.int .i64 0),.sc (.int .u64 0),.sc (.string (ByteArray.mk #[]))],.sc (.int .i64 1)] [[.sc (.string a0_0),.sc (.int .i64 a0_1),.own 3 a0_2n (List.take (a0_2n*3) a0_2)]])) (Aa (IntKind.wrap .u64 C4) fun Fy=>C5 fu call a0_0 a0_1 a0_2n a0_2 (fu) Cd 0 Fy 0 (a0_0) (a0_1) (a0_2n) (a0_2) 0 0 (ByteArray.mk #[])))))))))) (Ae C0 Tryz.prog fu d):=by kernel_rfl
abbrev Dh:FuncId:=66
noncomputable def Ak (fu:Nat)(call:Am)(a0_0:ByteArray)(a0_1:Int)(a0_2n:Nat)(a0_2:List PV)(a1:Int)(a2:Bool)(a3:ByteArray)(nn:Nat)(y0:Int)(y1:Bool)(y2:ByteArray)(y3:Int)(y4 y5:Bool)(y6:ByteArray)(y7:Int)(y8:Nat)(y9:List PV)(y10 Gc:Int)(H4:ByteArray):Option Ay:=Db C0 Tryz.prog fu call 66 Tryz.f66 (Ch Tryz.f66) [.pbox [.sc (.string a0_0),.sc (.int .i64 a0_1),.own 3 a0_2n a0_2],.sc (.int .i64 a1),.sc (.bool a2),.sc (.string a3)] [.r,.r,.r,.r,.r,.r] nn ⟨lk [(0,(.ptr 382000 0)),(1,(.sc (.int .i64 y0))),(2,(.sc (.bool y1))),(3,(.sc (.string y2))),(9,(.ptr 9 0)),(11,(.sc (.int .u64 y3))),(12,(.sc (.bool y4))),(13,(.sc (.bool y5)))],Gn [(382000,(.st [(.sc (.string y6)),(.sc (.int .i64 y7)),(.view 382573 3 0 y8)])),(382573,(.ar false y9)),(9,(.st [(.sc (.int .i64 y10)),(.sc (.int .u64 Gc)),(.sc (.string H4))]))]⟩
noncomputable def A9 (fu:Nat)(call:Am)(a0_0:ByteArray)(a0_1:Int)(a0_2n:Nat)(a0_2:List PV)(a1:Int)(a2:Bool)(a3:ByteArray)(nn:Nat)(y0 y1:Int)(y2:Bool)(y3:ByteArray)(y4:Int)(y5:ByteArray)(y6:Int)(y7:Nat)(y8:List PV)(y9 y10:Int)(Gc:ByteArray):Option Ay:=Db C0 Tryz.prog fu call 66 Tryz.f66 (Ch Tryz.f66) [.pbox [.sc (.string a0_0),.sc (.int .i64 a0_1),.own 3 a0_2n a0_2],.sc (.int .i64 a1),.sc (.bool a2),.sc (.string a3)] [.r,.r,.r,.r,.r,.r,.r,.r,.r,.r,.r,.r,.l,.r,.l] nn ⟨lk [(0,(.ptr 382000 0)),(1,(.sc (.int .i64 y0))),(9,(.ptr 9 0)),(11,(.sc (.int .u64 y1))),(13,(.sc (.bool y2))),(14,(.sc (.string y3))),(15,(.sc (.int .u64 y4)))],Gn [(382000,(.st [(.sc (.string y5)),(.sc (.int .i64 y6)),(.view 382573 3 0 y7)])),(382573,(.ar false y8)),(9,(.st [(.sc (.int .i64 y9)),(.sc (.int .u64 y10)),(.sc (.string Gc))]))]⟩
theorem Hs (fu:Nat)(call:Am)(a0_0:ByteArray)(a0_1:Int)(a0_2n:Nat)(a0_2:List PV)(a1:Int)(a2:Bool)(a3:ByteArray)(nn:Nat)(hnn:0<nn)(y0:Int)(y1:Bool)(y2:ByteArray)(y3:Int)(y4 y5:Bool)(y6:ByteArray)(y7:Int)(y8:Nat)(y9:List PV)(y10 Gc:Int)(H4:ByteArray):Ak fu call a0_0 a0_1 a0_2n a0_2 a1 a2 a3 nn y0 y1 y2 y3 y4 y5 y6 y7 y8 y9 y10 Gc H4=(A4 (y4) (Aa (IntKind.wrap .i64 y3) fun x86=>Aa (IntKind.wrap .i64 (y7+x86)) fun x87=>Aq (decide (0<=y7))<|Aq (decide (0<=x87))<|Aq (decide (Int.toNat y7<=Int.toNat x87)&&decide (Int.toNat x87<=ByteArray.size y6))<|Aa (ByteArray.extract y6 (Int.toNat y7) (Int.toNat x87)) fun Rm=>Aa (IntKind.wrap .i64 y3) fun S9=>Aa (IntKind.wrap .i64 (y7+S9)) fun Vx=>A4 (y10==4) (Ag (call 67 [.sc (.string Rm)]) fun x91 x92=>Ac x92<|Ab x91 fun x93 x94=>Bz x93 fun x95=>Ac x94<|A4 (!x95) (Aq (decide (y8*3<=List.length y9))<|some (Ay.mk [.sc (.int .i64 6)] [[.sc (.string y6),.sc (.int .i64 Vx),.own 3 y8 (List.take (y8*3) y9)]])) (A4 (y1) (A4 (!Array.toList (ByteArray.data y2)==Array.toList (ByteArray.data (ByteArray.mk #[]))) (Ag (call 97 [.agg [.sc (.int .i64 y10),.sc (.int .u64 0),.sc (.string Rm)]]) fun x96 x97=>Ac x97<|Ab x96 fun x98 x99=>Cn x98 fun Tt=>Ac x99<|Ag (call 96 [.sc (.string y2),.sc (.string Tt)]) fun Qd G5=>Ac G5<|Ab Qd fun Jm S0=>Bz Jm fun Pn=>Ac S0<|A4 (!Pn) (Aq (decide (y8*3<=List.length y9))<|some (Ay.mk [.sc (.int .i64 7)] [[.sc (.string y6),.sc (.int .i64 Vx),.own 3 y8 (List.take (y8*3) y9)]])) (Aq (decide (y8*3<=List.length y9)&&true&&decide ((y8+1)*32<=1099511627776)&&decide (y8+1<=1099511627776))<|Aa (y8+1) fun Oh=>Aa (List.take (y8*3) y9++[.sc (.int .i64 y10),.sc (.int .u64 0),.sc (.string Rm)]) fun Kl=>A9 fu call a0_0 a0_1 a0_2n a0_2 a1 a2 a3 (fu) (y0) (y3) (y5) (ByteArray.mk #[]) 0 (y6) Vx Oh Kl (y10) 0 Rm)) (Aq (decide (y8*3<=List.length y9)&&true&&decide ((y8+1)*32<=1099511627776)&&decide (y8+1<=1099511627776))<|Aa (y8+1) fun Wd=>Aa (List.take (y8*3) y9++[.sc (.int .i64 y10),.sc (.int .u64 0),.sc (.string Rm)]) fun Xr=>A9 fu call a0_0 a0_1 a0_2n a0_2 a1 a2 a3 (fu) (y0) (y3) (y5) (ByteArray.mk #[]) 0 (y6) Vx Wd Xr (y10) 0 Rm)) (Aq (decide (y8*3<=List.length y9)&&true&&decide ((y8+1)*32<=1099511627776)&&decide (y8+1<=1099511627776))<|Aa (y8+1) fun Vu=>Aa (List.take (y8*3) y9++[.sc (.int .i64 y10),.sc (.int .u64 0),.sc (.string Rm)]) fun Wo=>A9 fu call a0_0 a0_1 a0_2n a0_2 a1 a2 a3 (fu) (y0) (y3) (y5) (ByteArray.mk #[]) 0 (y6) Vx Vu Wo (y10) 0 Rm))) (A4 (y1) (A4 (!Array.toList (ByteArray.data y2)==Array.toList (ByteArray.data (ByteArray.mk #[]))) (Ag (call 97 [.agg [.sc (.int .i64 y10),.sc (.int .u64 0),.sc (.string Rm)]]) fun Ig Km=>Ac Km<|Ab Ig fun Abb Aa3=>Cn Abb fun Om=>Ac Aa3<|Ag (call 96 [.sc (.string y2),.sc (.string Om)]) fun S2 Aba=>Ac Aba<|Ab S2 fun Zm Abj=>Bz Zm fun Z7=>Ac Abj<|A4 (!Z7) (Aq (decide (y8*3<=List.length y9))<|some (Ay.mk [.sc (.int .i64 7)] [[.sc (.string y6),.sc (.int .i64 Vx),.own 3 y8 (List.take (y8*3) y9)]])) (Aq (decide (y8*3<=List.length y9)&&true&&decide ((y8+1)*32<=1099511627776)&&decide (y8+1<=1099511627776))<|Aa (y8+1) fun Zp=>Aa (List.take (y8*3) y9++[.sc (.int .i64 y10),.sc (.int .u64 0),.sc (.string Rm)]) fun Abu=>A9 fu call a0_0 a0_1 a0_2n a0_2 a1 a2 a3 (fu) (y0) (y3) (y5) (ByteArray.mk #[]) 0 (y6) Vx Zp Abu (y10) 0 Rm)) (Aq (decide (y8*3<=List.length y9)&&true&&decide ((y8+1)*32<=1099511627776)&&decide (y8+1<=1099511627776))<|Aa (y8+1) fun Aa8=>Aa (List.take (y8*3) y9++[.sc (.int .i64 y10),.sc (.int .u64 0),.sc (.string Rm)]) fun Zk=>A9 fu call a0_0 a0_1 a0_2n a0_2 a1 a2 a3 (fu) (y0) (y3) (y5) (ByteArray.mk #[]) 0 (y6) Vx Aa8 Zk (y10) 0 Rm)) (Aq (decide (y8*3<=List.length y9)&&true&&decide ((y8+1)*32<=1099511627776)&&decide (y8+1<=1099511627776))<|Aa (y8+1) fun Rc=>Aa (List.take (y8*3) y9++[.sc (.int .i64 y10),.sc (.int .u64 0),.sc (.string Rm)]) fun Ut=>A9 fu call a0_0 a0_1 a0_2n a0_2 a1 a2 a3 (fu) (y0) (y3) (y5) (ByteArray.mk #[]) 0 (y6) Vx Rc Ut (y10) 0 Rm))) (A4 (y10==4) (Ag (call 67 [.sc (.string H4)]) fun Acc Abk=>Ac Abk<|Ab Acc fun Zl Afe=>Bz Zl fun Aaz=>Ac Afe<|A4 (!Aaz) (Aq (decide (y8*3<=List.length y9))<|some (Ay.mk [.sc (.int .i64 6)] [[.sc (.string y6),.sc (.int .i64 y7),.own 3 y8 (List.take (y8*3) y9)]])) (A4 (y1) (A4 (!Array.toList (ByteArray.data y2)==Array.toList (ByteArray.data (ByteArray.mk #[]))) (Ag (call 97 [.agg [.sc (.int .i64 y10),.sc (.int .u64 Gc),.sc (.string H4)]]) fun Ab3 Ac8=>Ac Ac8<|Ab Ab3 fun Ae6 Ahu=>Cn Ae6 fun Ahf=>Ac Ahu<|Ag (call 96 [.sc (.string y2),.sc (.string Ahf)]) fun Aex Z2=>Ac Z2<|Ab Aex fun Ac6 Abx=>Bz Ac6 fun Adl=>Ac Abx<|A4 (!Adl) (Aq (decide (y8*3<=List.length y9))<|some (Ay.mk [.sc (.int .i64 7)] [[.sc (.string y6),.sc (.int .i64 y7),.own 3 y8 (List.take (y8*3) y9)]])) (Aq (decide (y8*3<=List.length y9)&&true&&decide ((y8+1)*32<=1099511627776)&&decide (y8+1<=1099511627776))<|Aa (y8+1) fun Afa=>Aa (List.take (y8*3) y9++[.sc (.int .i64 y10),.sc (.int .u64 Gc),.sc (.string H4)]) fun Abf=>A9 fu call a0_0 a0_1 a0_2n a0_2 a1 a2 a3 (fu) (y0) (y3) (y5) (ByteArray.mk #[]) 0 (y6) (y7) Afa Abf (y10) (Gc) (H4))) (Aq (decide (y8*3<=List.length y9)&&true&&decide ((y8+1)*32<=1099511627776)&&decide (y8+1<=1099511627776))<|Aa (y8+1) fun Z6=>Aa (List.take (y8*3) y9++[.sc (.int .i64 y10),.sc (.int .u64 Gc),.sc (.string H4)]) fun Zt=>A9 fu call a0_0 a0_1 a0_2n a0_2 a1 a2 a3 (fu) (y0) (y3) (y5) (ByteArray.mk #[]) 0 (y6) (y7) Z6 Zt (y10) (Gc) (H4))) (Aq (decide (y8*3<=List.length y9)&&true&&decide ((y8+1)*32<=1099511627776)&&decide (y8+1<=1099511627776))<|Aa (y8+1) fun Ae1=>Aa (List.take (y8*3) y9++[.sc (.int .i64 y10),.sc (.int .u64 Gc),.sc (.string H4)]) fun Aeu=>A9 fu call a0_0 a0_1 a0_2n a0_2 a1 a2 a3 (fu) (y0) (y3) (y5) (ByteArray.mk #[]) 0 (y6) (y7) Ae1 Aeu (y10) (Gc) (H4)))) (A4 (y1) (A4 (!Array.toList (ByteArray.data y2)==Array.toList (ByteArray.data (ByteArray.mk #[]))) (Ag (call 97 [.agg [.sc (.int .i64 y10),.sc (.int .u64 Gc),.sc (.string H4)]]) fun Alj Al4=>Ac Al4<|Ab Alj fun Aia Abh=>Cn Aia fun Aha=>Ac Abh<|Ag (call 96 [.sc (.string y2),.sc (.string Aha)]) fun Aff Ahb=>Ac Ahb<|Ab Aff fun Ahk Ahg=>Bz Ahk fun Aht=>Ac Ahg<|A4 (!Aht) (Aq (decide (y8*3<=List.length y9))<|some (Ay.mk [.sc (.int .i64 7)] [[.sc (.string y6),.sc (.int .i64 y7),.own 3 y8 (List.take (y8*3) y9)]])) (Aq (decide (y8*3<=List.length y9)&&true&&decide ((y8+1)*32<=1099511627776)&&decide (y8+1<=1099511627776))<|Aa (y8+1) fun Ag9=>Aa (List.take (y8*3) y9++[.sc (.int .i64 y10),.sc (.int .u64 Gc),.sc (.string H4)]) fun Ajy=>A9 fu call a0_0 a0_1 a0_2n a0_2 a1 a2 a3 (fu) (y0) (y3) (y5) (ByteArray.mk #[]) 0 (y6) (y7) Ag9 Ajy (y10) (Gc) (H4))) (Aq (decide (y8*3<=List.length y9)&&true&&decide ((y8+1)*32<=1099511627776)&&decide (y8+1<=1099511627776))<|Aa (y8+1) fun Aio=>Aa (List.take (y8*3) y9++[.sc (.int .i64 y10),.sc (.int .u64 Gc),.sc (.string H4)]) fun Ajg=>A9 fu call a0_0 a0_1 a0_2n a0_2 a1 a2 a3 (fu) (y0) (y3) (y5) (ByteArray.mk #[]) 0 (y6) (y7) Aio Ajg (y10) (Gc) (H4))) (Aq (decide (y8*3<=List.length y9)&&true&&decide ((y8+1)*32<=1099511627776)&&decide (y8+1<=1099511627776))<|Aa (y8+1) fun Ak4=>Aa (List.take (y8*3) y9++[.sc (.int .i64 y10),.sc (.int .u64 Gc),.sc (.string H4)]) fun Afr=>A9 fu call a0_0 a0_1 a0_2n a0_2 a1 a2 a3 (fu) (y0) (y3) (y5) (ByteArray.mk #[]) 0 (y6) (y7) Ak4 Afr (y10) (Gc) (H4))))):=by cases nn with|zero=>exact absurd hnn (Nat.lt_irrefl 0)|succ nn=>kernel_rfl
theorem Ed (fu:Nat)(call:Am)(a0_0:ByteArray)(a0_1:Int)(a0_2n:Nat)(a0_2:List PV)(a1:Int)(a2:Bool)(a3:ByteArray)(nn:Nat)(y0 y1:Int)(y2:Bool)(y3:ByteArray)(y4:Int)(y5:ByteArray)(y6:Int)(y7:Nat)(y8:List PV)(y9 y10:Int)(Gc:ByteArray):A9 fu call a0_0 a0_1 a0_2n a0_2 a1 a2 a3 (nn+1) y0 y1 y2 y3 y4 y5 y6 y7 y8 y9 y10 Gc=(A4 (y2) (A4 (decide (y4<y1)) (A4 (y9==6) (Aa (IntKind.wrap .i64 (y0+1)) fun Aho=>Aq (decide (y7*3<=List.length y8))<|Ag (call 66 [.pbox [.sc (.string y5),.sc (.int .i64 y6),.own 3 y7 (List.take (y7*3) y8)],.sc (.int .i64 Aho),.sc (.bool true),.sc (.string y3)]) fun Ajz Afg=>Ab Ajz fun Ahx Afx=>Af .i64 Ahx fun Ae3=>Ac Afx<|Ab Afg fun Ajr Aoa=>Ab Ajr fun Aii Ala=>Cn Aii fun Ahp=>Ab Ala fun Al6 Aso=>Af .i64 Al6 fun Alu=>Ab Aso fun Apg As9=>Dk 3 Apg fun Af5 X4=>Ac As9<|Ac Aoa<|A4 (Ae3 != 0) (Aq (decide (Af5*3<=List.length X4))<|some (Ay.mk [.sc (.int .i64 Ae3)] [[.sc (.string Ahp),.sc (.int .i64 Alu),.own 3 Af5 (List.take (Af5*3) X4)]])) (Aq (decide ((↑y7:Int)<(↑Af5:Int)))<|Af .i64 (List.getD X4 (0+Int.toNat (↑y7:Int)*3) .top) fun Apu=>Af .u64 (List.getD X4 (0+Int.toNat (↑y7:Int)*3+1) .top) fun Aut=>Cn (List.getD X4 (0+Int.toNat (↑y7:Int)*3+1+1) .top) fun Au6=>Ag (call 97 [.agg [.sc (.int .i64 Apu),.sc (.int .u64 Aut),.sc (.string Au6)]]) fun Ay6 Auy=>Ac Auy<|Ab Ay6 fun As5 Auw=>Cn As5 fun Ats=>Ac Auw<|Aa (IntKind.wrap .i64 (y0+1)) fun Aqa=>Aq (decide (Af5*3<=List.length X4))<|Ag (call 66 [.pbox [.sc (.string Ahp),.sc (.int .i64 Alu),.own 3 Af5 (List.take (Af5*3) X4)],.sc (.int .i64 Aqa),.sc (.bool false),.sc (.string (ByteArray.mk #[]))]) fun Arq A0g=>Ab Arq fun A28 A3s=>Af .i64 A28 fun Ayg=>Ac A3s<|Ab A0g fun Az2 A22=>Ab Az2 fun A01 Az4=>Cn A01 fun Aw3=>Ab Az4 fun Azw A2b=>Af .i64 Azw fun Ayk=>Ab A2b fun A36 A0x=>Dk 3 A36 fun Aqr Ava=>Ac A0x<|Ac A22<|A4 (Ayg != 0) (Aq (decide (Aqr*3<=List.length Ava))<|some (Ay.mk [.sc (.int .i64 Ayg)] [[.sc (.string Aw3),.sc (.int .i64 Ayk),.own 3 Aqr (List.take (Aqr*3) Ava)]])) (Aa (IntKind.wrap .u64 (y4+1)) fun Azy=>A9 fu call a0_0 a0_1 a0_2n a0_2 a1 a2 a3 (nn) (y0) (y1) (y2) Ats Azy Aw3 Ayk Aqr Ava (y9) (y10) (Gc)))) (Aa (IntKind.wrap .i64 (y0+1)) fun A4f=>Aq (decide (y7*3<=List.length y8))<|Ag (call 66 [.pbox [.sc (.string y5),.sc (.int .i64 y6),.own 3 y7 (List.take (y7*3) y8)],.sc (.int .i64 A4f),.sc (.bool false),.sc (.string (ByteArray.mk #[]))]) fun A16 A1u=>Ab A16 fun A1i Azr=>Af .i64 A1i fun A1l=>Ac Azr<|Ab A1u fun Az1 A2g=>Ab Az1 fun A1t A0c=>Cn A1t fun Ay2=>Ab A0c fun A2s A1p=>Af .i64 A2s fun Axj=>Ab A1p fun A2y A3b=>Dk 3 A2y fun Ary At7=>Ac A3b<|Ac A2g<|A4 (A1l != 0) (Aq (decide (Ary*3<=List.length At7))<|some (Ay.mk [.sc (.int .i64 A1l)] [[.sc (.string Ay2),.sc (.int .i64 Axj),.own 3 Ary (List.take (Ary*3) At7)]])) (Aa (IntKind.wrap .u64 (y4+1)) fun A3j=>A9 fu call a0_0 a0_1 a0_2n a0_2 a1 a2 a3 (nn) (y0) (y1) (y2) (y3) A3j Ay2 Axj Ary At7 (y9) (y10) (Gc)))) (Aq (decide (y7*3<=List.length y8))<|some (Ay.mk [.sc (.int .i64 0)] [[.sc (.string y5),.sc (.int .i64 y6),.own 3 y7 (List.take (y7*3) y8)]]))) (Aq (decide (y7*3<=List.length y8))<|some (Ay.mk [.sc (.int .i64 0)] [[.sc (.string y5),.sc (.int .i64 y6),.own 3 y7 (List.take (y7*3) y8)]]))):=by kernel_rfl
theorem Rs (fu d:Nat)(a0_0:ByteArray)(a0_1:Int)(a0_2n:Nat)(a0_2:List PV)(a1:Int)(a2:Bool)(a3:ByteArray):Ae C0 Tryz.prog fu (d+1) Dh [.pbox [.sc (.string a0_0),.sc (.int .i64 a0_1),.own 3 a0_2n a0_2],.sc (.int .i64 a1),.sc (.bool a2),.sc (.string a3)]=(fun (call:Am)=>Aq (decide (a0_2n*3<=List.length a0_2))<|Ag (call 94 [.pbox [.sc (.string a0_0),.sc (.int .i64 a0_1),.own 3 a0_2n (List.take (a0_2n*3) a0_2)]]) fun x1 x2=>Ab x1 fun x3 x4=>Cu x3 fun x5=>Ab x5 fun x6 x7=>Af .i64 x6 fun x8=>Ab x7 fun x9 Cd=>Af .u64 x9 fun Bp=>Ab Cd fun C4 Da=>Cn C4 fun Cq=>Ac Da<|Ab x4 fun C9 Do=>Af .i64 C9 fun Du=>Ac Do<|Ab x2 fun D5 D7=>Ab D5 fun Eh Fy=>Cn Eh fun Ci=>Ab Fy fun Fn Ds=>Af .i64 Fn fun Bx=>Ab Ds fun Fc Ft=>Dk 3 Fc fun Bk Cg=>Ac Ft<|Ac D7<|A4 (Du != 0) (Aq (decide (Bk*3<=List.length Cg))<|some (Ay.mk [.sc (.int .i64 Du)] [[.sc (.string Ci),.sc (.int .i64 Bx),.own 3 Bk (List.take (Bk*3) Cg)]])) (A4 (x8==3) (A4 (x8==5) (A4 (decide ((↑Bk:Int)>=512)) (Aq (decide (Bk*3<=List.length Cg))<|some (Ay.mk [.sc (.int .i64 8)] [[.sc (.string Ci),.sc (.int .i64 Bx),.own 3 Bk (List.take (Bk*3) Cg)]])) (A4 (a2) (Ag (call 95 [.sc (.int .i64 x8)]) fun Hg Gf=>Ac Gf<|Ab Hg fun Ie H0=>Bz Ie fun Jn=>Ac H0<|A4 (!Jn) (Aq (decide (Bk*3<=List.length Cg))<|some (Ay.mk [.sc (.int .i64 3)] [[.sc (.string Ci),.sc (.int .i64 Bx),.own 3 Bk (List.take (Bk*3) Cg)]])) (A4 (decide (a1>8)) (Aq (decide (Bk*3<=List.length Cg))<|some (Ay.mk [.sc (.int .i64 5)] [[.sc (.string Ci),.sc (.int .i64 Bx),.own 3 Bk (List.take (Bk*3) Cg)]])) (A4 (decide (Bp>1024)) (Aq (decide (Bk*3<=List.length Cg))<|some (Ay.mk [.sc (.int .i64 8)] [[.sc (.string Ci),.sc (.int .i64 Bx),.own 3 Bk (List.take (Bk*3) Cg)]])) (A4 (decide (Bp>512)) (Aq (decide (Bk*3<=List.length Cg))<|some (Ay.mk [.sc (.int .i64 8)] [[.sc (.string Ci),.sc (.int .i64 Bx),.own 3 Bk (List.take (Bk*3) Cg)]])) (Aa (IntKind.wrap .i64 ((↑(ByteArray.size Ci):Int)-Bx)) fun Gt=>Aa (IntKind.wrap .u64 Gt) fun Ix=>A4 (decide (Ix<Bp)) (Aq (decide (Bk*3<=List.length Cg))<|some (Ay.mk [.sc (.int .i64 1)] [[.sc (.string Ci),.sc (.int .i64 Bx),.own 3 Bk (List.take (Bk*3) Cg)]])) (Ak fu call a0_0 a0_1 a0_2n a0_2 a1 a2 a3 (fu) (a1) (a2) (a3) Bp (true) (true) Ci Bx Bk Cg x8 Bp Cq)))))) (A4 (decide (a1>8)) (Aq (decide (Bk*3<=List.length Cg))<|some (Ay.mk [.sc (.int .i64 5)] [[.sc (.string Ci),.sc (.int .i64 Bx),.own 3 Bk (List.take (Bk*3) Cg)]])) (A4 (decide (Bp>1024)) (Aq (decide (Bk*3<=List.length Cg))<|some (Ay.mk [.sc (.int .i64 8)] [[.sc (.string Ci),.sc (.int .i64 Bx),.own 3 Bk (List.take (Bk*3) Cg)]])) (A4 (decide (Bp>512)) (Aq (decide (Bk*3<=List.length Cg))<|some (Ay.mk [.sc (.int .i64 8)] [[.sc (.string Ci),.sc (.int .i64 Bx),.own 3 Bk (List.take (Bk*3) Cg)]])) (Aa (IntKind.wrap .i64 ((↑(ByteArray.size Ci):Int)-Bx)) fun M5=>Aa (IntKind.wrap .u64 M5) fun F0=>A4 (decide (F0<Bp)) (Aq (decide (Bk*3<=List.length Cg))<|some (Ay.mk [.sc (.int .i64 1)] [[.sc (.string Ci),.sc (.int .i64 Bx),.own 3 Bk (List.take (Bk*3) Cg)]])) (Ak fu call a0_0 a0_1 a0_2n a0_2 a1 a2 a3 (fu) (a1) (a2) (a3) Bp (true) (true) Ci Bx Bk Cg x8 Bp Cq))))))) (A4 (decide ((↑Bk:Int)>=512)) (Aq (decide (Bk*3<=List.length Cg))<|some (Ay.mk [.sc (.int .i64 8)] [[.sc (.string Ci),.sc (.int .i64 Bx),.own 3 Bk (List.take (Bk*3) Cg)]])) (A4 (a2) (Ag (call 95 [.sc (.int .i64 x8)]) fun H5 Rh=>Ac Rh<|Ab H5 fun R6 L6=>Bz R6 fun Rl=>Ac L6<|A4 (!Rl) (Aq (decide (Bk*3<=List.length Cg))<|some (Ay.mk [.sc (.int .i64 3)] [[.sc (.string Ci),.sc (.int .i64 Bx),.own 3 Bk (List.take (Bk*3) Cg)]])) (A4 (decide (a1>8)) (Aq (decide (Bk*3<=List.length Cg))<|some (Ay.mk [.sc (.int .i64 5)] [[.sc (.string Ci),.sc (.int .i64 Bx),.own 3 Bk (List.take (Bk*3) Cg)]])) (A4 (decide (Bp>1024)) (Aq (decide (Bk*3<=List.length Cg))<|some (Ay.mk [.sc (.int .i64 8)] [[.sc (.string Ci),.sc (.int .i64 Bx),.own 3 Bk (List.take (Bk*3) Cg)]])) (A4 (x8==6) (A4 (decide (Bp>512)) (Aq (decide (Bk*3<=List.length Cg))<|some (Ay.mk [.sc (.int .i64 8)] [[.sc (.string Ci),.sc (.int .i64 Bx),.own 3 Bk (List.take (Bk*3) Cg)]])) (Aa (IntKind.wrap .i64 ((↑(ByteArray.size Ci):Int)-Bx)) fun Pu=>Aa (IntKind.wrap .u64 Pu) fun Lx=>A4 (decide (Lx<Bp)) (Aq (decide (Bk*3<=List.length Cg))<|some (Ay.mk [.sc (.int .i64 1)] [[.sc (.string Ci),.sc (.int .i64 Bx),.own 3 Bk (List.take (Bk*3) Cg)]])) (Ak fu call a0_0 a0_1 a0_2n a0_2 a1 a2 a3 (fu) (a1) (a2) (a3) Bp (true) (x8==6) Ci Bx Bk Cg x8 Bp Cq))) (Aa (IntKind.wrap .i64 ((↑(ByteArray.size Ci):Int)-Bx)) fun Q6=>Aa (IntKind.wrap .u64 Q6) fun Rj=>A4 (decide (Rj<Bp)) (Aq (decide (Bk*3<=List.length Cg))<|some (Ay.mk [.sc (.int .i64 1)] [[.sc (.string Ci),.sc (.int .i64 Bx),.own 3 Bk (List.take (Bk*3) Cg)]])) (Ak fu call a0_0 a0_1 a0_2n a0_2 a1 a2 a3 (fu) (a1) (a2) (a3) Bp (true) (x8==6) Ci Bx Bk Cg x8 Bp Cq)))))) (A4 (decide (a1>8)) (Aq (decide (Bk*3<=List.length Cg))<|some (Ay.mk [.sc (.int .i64 5)] [[.sc (.string Ci),.sc (.int .i64 Bx),.own 3 Bk (List.take (Bk*3) Cg)]])) (A4 (decide (Bp>1024)) (Aq (decide (Bk*3<=List.length Cg))<|some (Ay.mk [.sc (.int .i64 8)] [[.sc (.string Ci),.sc (.int .i64 Bx),.own 3 Bk (List.take (Bk*3) Cg)]])) (A4 (x8==6) (A4 (decide (Bp>512)) (Aq (decide (Bk*3<=List.length Cg))<|some (Ay.mk [.sc (.int .i64 8)] [[.sc (.string Ci),.sc (.int .i64 Bx),.own 3 Bk (List.take (Bk*3) Cg)]])) (Aa (IntKind.wrap .i64 ((↑(ByteArray.size Ci):Int)-Bx)) fun Oc=>Aa (IntKind.wrap .u64 Oc) fun Pw=>A4 (decide (Pw<Bp)) (Aq (decide (Bk*3<=List.length Cg))<|some (Ay.mk [.sc (.int .i64 1)] [[.sc (.string Ci),.sc (.int .i64 Bx),.own 3 Bk (List.take (Bk*3) Cg)]])) (Ak fu call a0_0 a0_1 a0_2n a0_2 a1 a2 a3 (fu) (a1) (a2) (a3) Bp (true) (x8==6) Ci Bx Bk Cg x8 Bp Cq))) (Aa (IntKind.wrap .i64 ((↑(ByteArray.size Ci):Int)-Bx)) fun Sd=>Aa (IntKind.wrap .u64 Sd) fun Pq=>A4 (decide (Pq<Bp)) (Aq (decide (Bk*3<=List.length Cg))<|some (Ay.mk [.sc (.int .i64 1)] [[.sc (.string Ci),.sc (.int .i64 Bx),.own 3 Bk (List.take (Bk*3) Cg)]])) (Ak fu call a0_0 a0_1 a0_2n a0_2 a1 a2 a3 (fu) (a1) (a2) (a3) Bp (true) (x8==6) Ci Bx Bk Cg x8 Bp Cq)))))))) (A4 (x8==5) (A4 (decide ((↑Bk:Int)>=512)) (Aq (decide (Bk*3<=List.length Cg))<|some (Ay.mk [.sc (.int .i64 8)] [[.sc (.string Ci),.sc (.int .i64 Bx),.own 3 Bk (List.take (Bk*3) Cg)]])) (A4 (a2) (Ag (call 95 [.sc (.int .i64 x8)]) fun Rx Lz=>Ac Lz<|Ab Rx fun Py Rr=>Bz Py fun Ts=>Ac Rr<|A4 (!Ts) (Aq (decide (Bk*3<=List.length Cg))<|some (Ay.mk [.sc (.int .i64 3)] [[.sc (.string Ci),.sc (.int .i64 Bx),.own 3 Bk (List.take (Bk*3) Cg)]])) (A4 (decide (a1>8)) (Aq (decide (Bk*3<=List.length Cg))<|some (Ay.mk [.sc (.int .i64 5)] [[.sc (.string Ci),.sc (.int .i64 Bx),.own 3 Bk (List.take (Bk*3) Cg)]])) (A4 (x8==4) (A4 (decide (Bp>1024)) (Aq (decide (Bk*3<=List.length Cg))<|some (Ay.mk [.sc (.int .i64 8)] [[.sc (.string Ci),.sc (.int .i64 Bx),.own 3 Bk (List.take (Bk*3) Cg)]])) (A4 (decide (Bp>512)) (Aq (decide (Bk*3<=List.length Cg))<|some (Ay.mk [.sc (.int .i64 8)] [[.sc (.string Ci),.sc (.int .i64 Bx),.own 3 Bk (List.take (Bk*3) Cg)]])) (A4 (x8==4) (Aa (IntKind.wrap .i64 ((↑(ByteArray.size Ci):Int)-Bx)) fun Pi=>Aa (IntKind.wrap .u64 Pi) fun Q9=>A4 (decide (Q9<Bp)) (Aq (decide (Bk*3<=List.length Cg))<|some (Ay.mk [.sc (.int .i64 1)] [[.sc (.string Ci),.sc (.int .i64 Bx),.own 3 Bk (List.take (Bk*3) Cg)]])) (Ak fu call a0_0 a0_1 a0_2n a0_2 a1 a2 a3 (fu) (a1) (a2) (a3) Bp (x8==4) (true) Ci Bx Bk Cg x8 Bp Cq)) (Ak fu call a0_0 a0_1 a0_2n a0_2 a1 a2 a3 (fu) (a1) (a2) (a3) Bp (x8==4) (true) Ci Bx Bk Cg x8 Bp Cq)))) (A4 (decide (Bp>512)) (Aq (decide (Bk*3<=List.length Cg))<|some (Ay.mk [.sc (.int .i64 8)] [[.sc (.string Ci),.sc (.int .i64 Bx),.own 3 Bk (List.take (Bk*3) Cg)]])) (A4 (x8==4) (Aa (IntKind.wrap .i64 ((↑(ByteArray.size Ci):Int)-Bx)) fun S5=>Aa (IntKind.wrap .u64 S5) fun Uv=>A4 (decide (Uv<Bp)) (Aq (decide (Bk*3<=List.length Cg))<|some (Ay.mk [.sc (.int .i64 1)] [[.sc (.string Ci),.sc (.int .i64 Bx),.own 3 Bk (List.take (Bk*3) Cg)]])) (Ak fu call a0_0 a0_1 a0_2n a0_2 a1 a2 a3 (fu) (a1) (a2) (a3) Bp (x8==4) (true) Ci Bx Bk Cg x8 Bp Cq)) (Ak fu call a0_0 a0_1 a0_2n a0_2 a1 a2 a3 (fu) (a1) (a2) (a3) Bp (x8==4) (true) Ci Bx Bk Cg x8 Bp Cq)))))) (A4 (decide (a1>8)) (Aq (decide (Bk*3<=List.length Cg))<|some (Ay.mk [.sc (.int .i64 5)] [[.sc (.string Ci),.sc (.int .i64 Bx),.own 3 Bk (List.take (Bk*3) Cg)]])) (A4 (x8==4) (A4 (decide (Bp>1024)) (Aq (decide (Bk*3<=List.length Cg))<|some (Ay.mk [.sc (.int .i64 8)] [[.sc (.string Ci),.sc (.int .i64 Bx),.own 3 Bk (List.take (Bk*3) Cg)]])) (A4 (decide (Bp>512)) (Aq (decide (Bk*3<=List.length Cg))<|some (Ay.mk [.sc (.int .i64 8)] [[.sc (.string Ci),.sc (.int .i64 Bx),.own 3 Bk (List.take (Bk*3) Cg)]])) (A4 (x8==4) (Aa (IntKind.wrap .i64 ((↑(ByteArray.size Ci):Int)-Bx)) fun Oe=>Aa (IntKind.wrap .u64 Oe) fun Ro=>A4 (decide (Ro<Bp)) (Aq (decide (Bk*3<=List.length Cg))<|some (Ay.mk [.sc (.int .i64 1)] [[.sc (.string Ci),.sc (.int .i64 Bx),.own 3 Bk (List.take (Bk*3) Cg)]])) (Ak fu call a0_0 a0_1 a0_2n a0_2 a1 a2 a3 (fu) (a1) (a2) (a3) Bp (x8==4) (true) Ci Bx Bk Cg x8 Bp Cq)) (Ak fu call a0_0 a0_1 a0_2n a0_2 a1 a2 a3 (fu) (a1) (a2) (a3) Bp (x8==4) (true) Ci Bx Bk Cg x8 Bp Cq)))) (A4 (decide (Bp>512)) (Aq (decide (Bk*3<=List.length Cg))<|some (Ay.mk [.sc (.int .i64 8)] [[.sc (.string Ci),.sc (.int .i64 Bx),.own 3 Bk (List.take (Bk*3) Cg)]])) (A4 (x8==4) (Aa (IntKind.wrap .i64 ((↑(ByteArray.size Ci):Int)-Bx)) fun V9=>Aa (IntKind.wrap .u64 V9) fun Uq=>A4 (decide (Uq<Bp)) (Aq (decide (Bk*3<=List.length Cg))<|some (Ay.mk [.sc (.int .i64 1)] [[.sc (.string Ci),.sc (.int .i64 Bx),.own 3 Bk (List.take (Bk*3) Cg)]])) (Ak fu call a0_0 a0_1 a0_2n a0_2 a1 a2 a3 (fu) (a1) (a2) (a3) Bp (x8==4) (true) Ci Bx Bk Cg x8 Bp Cq)) (Ak fu call a0_0 a0_1 a0_2n a0_2 a1 a2 a3 (fu) (a1) (a2) (a3) Bp (x8==4) (true) Ci Bx Bk Cg x8 Bp Cq))))))) (A4 (decide ((↑Bk:Int)>=512)) (Aq (decide (Bk*3<=List.length Cg))<|some (Ay.mk [.sc (.int .i64 8)] [[.sc (.string Ci),.sc (.int .i64 Bx),.own 3 Bk (List.take (Bk*3) Cg)]])) (A4 (a2) (Ag (call 95 [.sc (.int .i64 x8)]) fun Q7 S6=>Ac S6<|Ab Q7 fun S1 Ty=>Bz S1 fun Up=>Ac Ty<|A4 (!Up) (Aq (decide (Bk*3<=List.length Cg))<|some (Ay.mk [.sc (.int .i64 3)] [[.sc (.string Ci),.sc (.int .i64 Bx),.own 3 Bk (List.take (Bk*3) Cg)]])) (A4 (decide (a1>8)) (Aq (decide (Bk*3<=List.length Cg))<|some (Ay.mk [.sc (.int .i64 5)] [[.sc (.string Ci),.sc (.int .i64 Bx),.own 3 Bk (List.take (Bk*3) Cg)]])) (A4 (x8==4) (A4 (decide (Bp>1024)) (Aq (decide (Bk*3<=List.length Cg))<|some (Ay.mk [.sc (.int .i64 8)] [[.sc (.string Ci),.sc (.int .i64 Bx),.own 3 Bk (List.take (Bk*3) Cg)]])) (A4 (x8==6) (A4 (decide (Bp>512)) (Aq (decide (Bk*3<=List.length Cg))<|some (Ay.mk [.sc (.int .i64 8)] [[.sc (.string Ci),.sc (.int .i64 Bx),.own 3 Bk (List.take (Bk*3) Cg)]])) (A4 (x8==4) (Aa (IntKind.wrap .i64 ((↑(ByteArray.size Ci):Int)-Bx)) fun Us=>Aa (IntKind.wrap .u64 Us) fun Q8=>A4 (decide (Q8<Bp)) (Aq (decide (Bk*3<=List.length Cg))<|some (Ay.mk [.sc (.int .i64 1)] [[.sc (.string Ci),.sc (.int .i64 Bx),.own 3 Bk (List.take (Bk*3) Cg)]])) (Ak fu call a0_0 a0_1 a0_2n a0_2 a1 a2 a3 (fu) (a1) (a2) (a3) Bp (x8==4) (x8==6) Ci Bx Bk Cg x8 Bp Cq)) (Ak fu call a0_0 a0_1 a0_2n a0_2 a1 a2 a3 (fu) (a1) (a2) (a3) Bp (x8==4) (x8==6) Ci Bx Bk Cg x8 Bp Cq))) (A4 (x8==4) (Aa (IntKind.wrap .i64 ((↑(ByteArray.size Ci):Int)-Bx)) fun Ws=>Aa (IntKind.wrap .u64 Ws) fun Wj=>A4 (decide (Wj<Bp)) (Aq (decide (Bk*3<=List.length Cg))<|some (Ay.mk [.sc (.int .i64 1)] [[.sc (.string Ci),.sc (.int .i64 Bx),.own 3 Bk (List.take (Bk*3) Cg)]])) (Ak fu call a0_0 a0_1 a0_2n a0_2 a1 a2 a3 (fu) (a1) (a2) (a3) Bp (x8==4) (x8==6) Ci Bx Bk Cg x8 Bp Cq)) (Ak fu call a0_0 a0_1 a0_2n a0_2 a1 a2 a3 (fu) (a1) (a2) (a3) Bp (x8==4) (x8==6) Ci Bx Bk Cg x8 Bp Cq)))) (A4 (x8==6) (A4 (decide (Bp>512)) (Aq (decide (Bk*3<=List.length Cg))<|some (Ay.mk [.sc (.int .i64 8)] [[.sc (.string Ci),.sc (.int .i64 Bx),.own 3 Bk (List.take (Bk*3) Cg)]])) (A4 (x8==4) (Aa (IntKind.wrap .i64 ((↑(ByteArray.size Ci):Int)-Bx)) fun Ur=>Aa (IntKind.wrap .u64 Ur) fun V1=>A4 (decide (V1<Bp)) (Aq (decide (Bk*3<=List.length Cg))<|some (Ay.mk [.sc (.int .i64 1)] [[.sc (.string Ci),.sc (.int .i64 Bx),.own 3 Bk (List.take (Bk*3) Cg)]])) (Ak fu call a0_0 a0_1 a0_2n a0_2 a1 a2 a3 (fu) (a1) (a2) (a3) Bp (x8==4) (x8==6) Ci Bx Bk Cg x8 Bp Cq)) (Ak fu call a0_0 a0_1 a0_2n a0_2 a1 a2 a3 (fu) (a1) (a2) (a3) Bp (x8==4) (x8==6) Ci Bx Bk Cg x8 Bp Cq))) (A4 (x8==4) (Aa (IntKind.wrap .i64 ((↑(ByteArray.size Ci):Int)-Bx)) fun Wu=>Aa (IntKind.wrap .u64 Wu) fun V7=>A4 (decide (V7<Bp)) (Aq (decide (Bk*3<=List.length Cg))<|some (Ay.mk [.sc (.int .i64 1)] [[.sc (.string Ci),.sc (.int .i64 Bx),.own 3 Bk (List.take (Bk*3) Cg)]])) (Ak fu call a0_0 a0_1 a0_2n a0_2 a1 a2 a3 (fu) (a1) (a2) (a3) Bp (x8==4) (x8==6) Ci Bx Bk Cg x8 Bp Cq)) (Ak fu call a0_0 a0_1 a0_2n a0_2 a1 a2 a3 (fu) (a1) (a2) (a3) Bp (x8==4) (x8==6) Ci Bx Bk Cg x8 Bp Cq)))))) (A4 (decide (a1>8)) (Aq (decide (Bk*3<=List.length Cg))<|some (Ay.mk [.sc (.int .i64 5)] [[.sc (.string Ci),.sc (.int .i64 Bx),.own 3 Bk (List.take (Bk*3) Cg)]])) (A4 (x8==4) (A4 (decide (Bp>1024)) (Aq (decide (Bk*3<=List.length Cg))<|some (Ay.mk [.sc (.int .i64 8)] [[.sc (.string Ci),.sc (.int .i64 Bx),.own 3 Bk (List.take (Bk*3) Cg)]])) (A4 (x8==6) (A4 (decide (Bp>512)) (Aq (decide (Bk*3<=List.length Cg))<|some (Ay.mk [.sc (.int .i64 8)] [[.sc (.string Ci),.sc (.int .i64 Bx),.own 3 Bk (List.take (Bk*3) Cg)]])) (A4 (x8==4) (Aa (IntKind.wrap .i64 ((↑(ByteArray.size Ci):Int)-Bx)) fun Wt=>Aa (IntKind.wrap .u64 Wt) fun Za=>A4 (decide (Za<Bp)) (Aq (decide (Bk*3<=List.length Cg))<|some (Ay.mk [.sc (.int .i64 1)] [[.sc (.string Ci),.sc (.int .i64 Bx),.own 3 Bk (List.take (Bk*3) Cg)]])) (Ak fu call a0_0 a0_1 a0_2n a0_2 a1 a2 a3 (fu) (a1) (a2) (a3) Bp (x8==4) (x8==6) Ci Bx Bk Cg x8 Bp Cq)) (Ak fu call a0_0 a0_1 a0_2n a0_2 a1 a2 a3 (fu) (a1) (a2) (a3) Bp (x8==4) (x8==6) Ci Bx Bk Cg x8 Bp Cq))) (A4 (x8==4) (Aa (IntKind.wrap .i64 ((↑(ByteArray.size Ci):Int)-Bx)) fun x80=>Aa (IntKind.wrap .u64 x80) fun x81=>A4 (decide (x81<Bp)) (Aq (decide (Bk*3<=List.length Cg))<|some (Ay.mk [.sc (.int .i64 1)] [[.sc (.string Ci),.sc (.int .i64 Bx),.own 3 Bk (List.take (Bk*3) Cg)]])) (Ak fu call a0_0 a0_1 a0_2n a0_2 a1 a2 a3 (fu) (a1) (a2) (a3) Bp (x8==4) (x8==6) Ci Bx Bk Cg x8 Bp Cq)) (Ak fu call a0_0 a0_1 a0_2n a0_2 a1 a2 a3 (fu) (a1) (a2) (a3) Bp (x8==4) (x8==6) Ci Bx Bk Cg x8 Bp Cq)))) (A4 (x8==6) (A4 (decide (Bp>512)) (Aq (decide (Bk*3<=List.length Cg))<|some (Ay.mk [.sc (.int .i64 8)] [[.sc (.string Ci),.sc (.int .i64 Bx),.own 3 Bk (List.take (Bk*3) Cg)]])) (A4 (x8==4) (Aa (IntKind.wrap .i64 ((↑(ByteArray.size Ci):Int)-Bx)) fun x82=>Aa (IntKind.wrap .u64 x82) fun x83=>A4 (decide (x83<Bp)) (Aq (decide (Bk*3<=List.length Cg))<|some (Ay.mk [.sc (.int .i64 1)] [[.sc (.string Ci),.sc (.int .i64 Bx),.own 3 Bk (List.take (Bk*3) Cg)]])) (Ak fu call a0_0 a0_1 a0_2n a0_2 a1 a2 a3 (fu) (a1) (a2) (a3) Bp (x8==4) (x8==6) Ci Bx Bk Cg x8 Bp Cq)) (Ak fu call a0_0 a0_1 a0_2n a0_2 a1 a2 a3 (fu) (a1) (a2) (a3) Bp (x8==4) (x8==6) Ci Bx Bk Cg x8 Bp Cq))) (A4 (x8==4) (Aa (IntKind.wrap .i64 ((↑(ByteArray.size Ci):Int)-Bx)) fun Z9=>Aa (IntKind.wrap .u64 Z9) fun x85=>A4 (decide (x85<Bp)) (Aq (decide (Bk*3<=List.length Cg))<|some (Ay.mk [.sc (.int .i64 1)] [[.sc (.string Ci),.sc (.int .i64 Bx),.own 3 Bk (List.take (Bk*3) Cg)]])) (Ak fu call a0_0 a0_1 a0_2n a0_2 a1 a2 a3 (fu) (a1) (a2) (a3) Bp (x8==4) (x8==6) Ci Bx Bk Cg x8 Bp Cq)) (Ak fu call a0_0 a0_1 a0_2n a0_2 a1 a2 a3 (fu) (a1) (a2) (a3) Bp (x8==4) (x8==6) Ci Bx Bk Cg x8 Bp Cq)))))))))) (Ae C0 Tryz.prog fu d):=by kernel_rfl
abbrev Nw:FuncId:=41
theorem Wx (fu d a0n:Nat)(a0:List PV):Ae C0 Tryz.prog fu (d+1) Nw [.lst false 1 a0n a0]=(fun (call:Am)=>Aq (decide (List.length a0=a0n))<|Ez (bytesOf a0) fun x1=>Ag (call 66 [.pbox [.sc (.string (ByteArray.mk (List.toArray x1))),.sc (.int .i64 0),.own 3 0 []],.sc (.int .i64 0),.sc (.bool false),.sc (.string (ByteArray.mk #[]))]) fun x2 x3=>Ab x2 fun x4 x5=>Af .i64 x4 fun x6=>Ac x5<|Ab x3 fun x7 x8=>Ab x7 fun x9 Cd=>Cn x9 fun Bp=>Ab Cd fun C4 Da=>Af .i64 C4 fun Cq=>Ab Da fun C9 Do=>Dk 3 C9 fun Du D5=>Ac Do<|Ac x8<|A4 (x6 != 0) (some (Ay.mk [.own 3 0 [],.sc (.int .i64 0),.sc (.int .i64 x6)] [])) (Aq (decide (Du*3<=List.length D5))<|some (Ay.mk [.own 3 Du (List.take (Du*3) D5),.sc (.int .i64 Cq),.sc (.int .i64 0)] []))) (Ae C0 Tryz.prog fu d):=by kernel_rfl
end
section
def Bv (s:ByteArray):List Int:=s.data.toList.map fun b=>(b.toNat:Int)
def Bl (l:List Int):ByteArray:=⟨(l.map fun n=>n.toNat.toUInt8).toArray⟩
theorem C3 (s:ByteArray):(Bv s).length=s.size:=by
 unfold Bv;rw [List.length_map];rfl
theorem Q5 (s:ByteArray):Hf (Bv s):=by
 intro x hx;obtain ⟨b,_,rfl⟩:=List.mem_map.1 hx;have:=b.toNat_lt;omega
theorem Fh (s:ByteArray):Co s=Ah .u8 (Bv s):=by
 unfold Co Bv
 induction s.data.toList with
 |nil=>rfl
 |cons b l ih=>rw [Zzw,Zzw,ih];rfl
theorem Er (l:List Int):(Bl l).size=l.length:=by
 show (l.map fun n=>n.toNat.toUInt8).toArray.size=_
 simp
theorem Ks {l:List Int}(h:Hf l):Bv (Bl l)=l:=by
 unfold Bv Bl;simp only [List.map_map]
 have:∀l:List Int,Hf l->List.map ((fun b:UInt8=>(b.toNat:Int)) ∘ fun n:Int=>n.toNat.toUInt8) l=l:=by
  intro l
  induction l with
  |nil=>intro _;rfl
  |cons x l ih=>
   intro h;have hx:=h x (by simp)
   rw [Zzw,ih fun y hy=>h y (by simp [hy])]
   congr 1
   show ((x.toNat.toUInt8.toNat:Nat):Int)=x;rw [Nat.toUInt8,UInt8.toNat_ofNat'];omega
 exact this l h
theorem Pg (s:ByteArray):Bl (Bv s)=s:=by
 unfold Bl Bv;simp only [List.map_map]
 have:∀l:List UInt8,List.map ((fun n:Int=>n.toNat.toUInt8) ∘ fun b:UInt8=>(b.toNat:Int)) l=l:=by
  intro l
  induction l with
  |nil=>rfl
  |cons x l ih=>
   rw [Zzw,ih]
   congr 1
   show ((x.toNat:Int).toNat).toUInt8=x;rw [Hr];simp
 rw [this]
theorem Fk:∀l:List Int,bytesOf (Ah .u8 l)=some (l.map fun n=>n.toNat.toUInt8)
 |[]=>rfl
 |x::l=>by
  show (bytesOf (Ah .u8 l)).map (x.toNat.toUInt8 :: ·)=_
  rw [Fk l];rfl
theorem Asl (l:List Int)(s:ByteArray):Bl l++s=Bl (l++Bv s):=by
 conv=>lhs;rw [←Pg s]
 unfold Bl;apply ByteArray.ext;rw [ByteArray.data_append];simp
def tb (n:Int)(k:Nat):List Int:=(List.range' (8-k) k).map (Dt n)
def Dj (mj n:Int):List Int:=
 if n<24 then [32*mj+n] else if n<256 then (32*mj+24)::tb n 1 else if n<65536 then (32*mj+25)::tb n 2 else if n<4294967296 then (32*mj+26)::tb n 4 else (32*mj+27)::tb n 8
structure It where
 k:Int
 n:Int
 s:ByteArray
def It.cells (x:It):List PV:=[.sc (.int .i64 x.k),.sc (.int .u64 x.n),.sc (.string x.s)]
def Br (x:It):List Int:=
 if x.k=7 then [IntKind.wrap .u8 (244+IntKind.wrap .u8 x.n)] else if x.k=8 then [246] else if x.k=3 then Dj 2 x.s.size++Bv x.s else if x.k=4 then Dj 3 x.s.size++Bv x.s else Dj (x.k-1) x.n
theorem Ab5 (n:Int)(k:Nat):(tb n k).length=k:=by simp [tb]
theorem Bbi (n:Int)(k:Nat):Hf (tb n k):=by
 intro x hx;obtain ⟨j,_,rfl⟩:=List.mem_map.1 hx;exact Ar3 n j
theorem Hy (mj n:Int):1<=(Dj mj n).length∧(Dj mj n).length<=9:=by
 unfold Dj
 repeat' split
 all_goals simp [Ab5]
theorem Apy {mj n:Int}(h0:0<=mj)(h1:mj<=6)(hn:0<=n):Hf (Dj mj n):=by
 have hc:∀(a:Int) (l:List Int),0<=a∧a<=255->Hf l->Hf (a::l):=by
  intro a l ha hl x hx;rcases List.mem_cons.1 hx with rfl|hx
  ·exact ha
  ·exact hl x hx
 unfold Dj
 repeat' split
 ·exact hc _ _ (by omega) (fun _ h=>by simp at h)
 all_goals exact hc _ _ (by omega) (Bbi _ _)
theorem Av6 {x:It}(h0:1<=x.k)(h1:x.k<=8)(hn:0<=x.n):Hf (Br x):=by
 have happ:∀(a b:List Int),Hf a->Hf b->Hf (a++b):=by
  intro a b ha hb y hy;rcases List.mem_append.1 hy with h|h
  ·exact ha y h
  ·exact hb y h
 unfold Br
 repeat' split
 ·intro y hy;simp at hy;subst hy;simp only [IntKind.wrap,IntKind.signed,IntKind.bits];simp;omega
 ·intro y hy;simp at hy;omega
 ·exact happ _ _ (Apy (by omega) (by omega) (by omega)) (Q5 _)
 ·exact happ _ _ (Apy (by omega) (by omega) (by omega)) (Q5 _)
 ·exact Apy (by omega) (by omega) hn
theorem Hi (x:It):(Br x).length<=9+x.s.size:=by
 unfold Br;have h2:=Hy 2 x.s.size;have h3:=Hy 3 x.s.size;have h4:=Hy (x.k-1) x.n;have hs:=C3 x.s
 repeat' split
 all_goals try simp only [Hz,Iw,Y6]
 all_goals omega
section
variable {fu d:Nat}
theorem Ami {call:Am}{a0n:Nat}{a0:List PV}{a1 a2 n:Int}:∀(k nn:Nat)(l:List Int),k<=8->k<nn->l.length+k<=1000000 ->
  Ef fu call a0n a0 a1 a2 nn l.length n ((k:Int)-1) (Ah .u8 l)=some ⟨[.own 1 (l++tb n k).length (Ah .u8 (l++tb n k))],[]⟩
 |_,0,_,_,h,_=>by omega
 |0,nn+1,l,hk,hn,hl=>by
  have L:=Al .u8 l;rw [M7,Dw _ _ _ (by omega)]
  simp (disch:=omega) only [B3,Bj,Gs,L];simp [tb]
 |k+1,nn+1,l,hk,hn,hl=>by
  have ih:=Ami (call:=call) (a0n:=a0n) (a0:=a0) (a1:=a1) (a2:=a2) (n:=n) k nn (l++[Dt n (8-(k+1))]) (by omega) (by omega) (by simp;omega)
  have L:=Al .u8 l;have w8:IntKind.wrap .i64 (8*(((k+1:Nat):Int)-1))=8*(k:Int):=by rw [Ap (by omega) (by omega)];omega
  have w:IntKind.wrap .i64 (((k+1:Nat):Int)-1-1)=(k:Int)-1:=by rw [Ap (by omega) (by omega)];omega
  have hb:IntKind.wrap .u8 (Eg .u64 n (8*(k:Int)))=Dt n (8-(k+1)):=by
   unfold Dt;rw [show 56-8*((8-(k+1):Nat):Int)=8*(k:Int) by omega]
  have et:tb n (k+1)=Dt n (8-(k+1))::tb n k:=by
   unfold tb;rw [List.range'_succ,Zzw,show 8-(k+1)+1=8-k by omega]
  have ea:l++tb n (k+1)=l++[Dt n (8-(k+1))]++tb n k:=by rw [et];simp
  rw [ea,←ih,M7];simp (disch:=omega) only [B3,w8,hb,w,Bj,Gs,L,Fg,Hz,Iw,Y6,Bw]
theorem Bbq {mj:Int}(h0:0<=mj)(h1:mj<=7):Fb .u8 mj 5=32*mj:=by
 have:mj=0∨mj=1∨mj=2∨mj=3∨mj=4∨mj=5∨mj=6∨mj=7:=by omega
 rcases this with rfl|rfl|rfl|rfl|rfl|rfl|rfl|rfl<;>decide
theorem Awl (hfu:1000<=fu){l:List Int}(hl:l.length<=900000){mj n:Int}(h0:0<=mj)(h1:mj<=5)(hn:0<=n):Ae C0 Tryz.prog fu (d+1) Kp [.own 1 l.length (Ah .u8 l),.sc (.int .u8 mj),.sc (.int .u64 n)]=some ⟨[.own 1 (l++Dj mj n).length (Ah .u8 (l++Dj mj n))],[]⟩:=by
 rw [Ad3];have s5:=Bbq h0 (by omega)
 have L:=Al .u8 l;have w24:IntKind.wrap .u8 (32*mj+24)=32*mj+24:=F7 (by omega) (by omega)
 have w25:IntKind.wrap .u8 (32*mj+25)=32*mj+25:=F7 (by omega) (by omega)
 have w26:IntKind.wrap .u8 (32*mj+26)=32*mj+26:=F7 (by omega) (by omega)
 have w27:IntKind.wrap .u8 (32*mj+27)=32*mj+27:=F7 (by omega) (by omega)
 have lp:=fun (k:Nat) (hk:k<=8) (b:Int)=>Ami (fu:=fu) (call:=Ae C0 Tryz.prog fu d) (a0n:=l.length) (a0:=Ah .u8 l) (a1:=mj) (a2:=n) (n:=n) k fu (l++[b]) hk (by omega) (by simp;omega)
 have ec:∀(b:Int) (t:List Int),l++b::t=l++[b]++t:=by intro b t;simp
 unfold Dj;by_cases c1:n<24
 ·have wn:IntKind.wrap .u8 n=n:=F7 (by omega) (by omega)
  have ws:IntKind.wrap .u8 (32*mj+n)=32*mj+n:=F7 (by omega) (by omega)
  have L1:=Al .u8 (l++[32*mj+n]);have t1:=Gs .u8 (l++[32*mj+n]);simp only [Hz,Iw,Y6,Bw] at L1 t1;rw [Bm c1];simp (disch:=omega) only [B3,s5,wn,ws,Bj,Gs,L,Fg,L1,t1,Hz,Iw,Y6,Bw]
 ·by_cases c2:n<256
  ·have l1:=lp 1 (by omega) (32*mj+24)
   rw [show ((1:Nat):Int)-1=0 by omega] at l1
   rw [A0 c1,Bm c2,ec,←l1];simp (disch:=omega) only [B3,s5,w24,Bj,Gs,L,Fg,Hz,Iw,Y6,Bw]
  ·by_cases c3:n<65536
   ·have l1:=lp 2 (by omega) (32*mj+25)
    rw [show ((2:Nat):Int)-1=1 by omega] at l1
    rw [A0 c1,A0 c2,Bm c3,ec,←l1];simp (disch:=omega) only [B3,s5,w25,Bj,Gs,L,Fg,Hz,Iw,Y6,Bw]
   ·by_cases c4:n<4294967296
    ·have l1:=lp 4 (by omega) (32*mj+26)
     rw [show ((4:Nat):Int)-1=3 by omega] at l1
     rw [A0 c1,A0 c2,A0 c3,Bm c4,ec,←l1];simp (disch:=omega) only [B3,s5,w26,Bj,Gs,L,Fg,Hz,Iw,Y6,Bw]
    ·have l1:=lp 8 (by omega) (32*mj+27)
     rw [show ((8:Nat):Int)-1=7 by omega] at l1
     rw [A0 c1,A0 c2,A0 c3,A0 c4,ec,←l1];simp (disch:=omega) only [B3,s5,w27,Bj,Gs,L,Fg,Hz,Iw,Y6,Bw]
structure It.ok (x:It):Prop where
 k1:1<=x.k
 k8:x.k<=8
 n0:0<=x.n
 s0:x.s.size<=500000
theorem Av2 (hfu:1000<=fu){l:List Int}(hl:l.length<=300000){x:It}(hx:x.ok):Ae C0 Tryz.prog fu (d+2) Sj [.own 1 l.length (Ah .u8 l),.agg x.cells]=some ⟨[.own 1 (l++Br x).length (Ah .u8 (l++Br x))],[]⟩:=by
 obtain ⟨k,n,s⟩:=x;obtain ⟨k1,k8,n0,s0⟩:=hx;simp only at k1 k8 n0 s0;refine (Acl fu (d+1) l.length (Ah .u8 l) k n s).trans ?_;have L:=Al .u8 l;have hsl:=C3 s;unfold Br;simp only;by_cases c7:k=7
 ·subst c7;have L1:=Al .u8 (l++[IntKind.wrap .u8 (244+IntKind.wrap .u8 n)]);have t1:=Gs .u8 (l++[IntKind.wrap .u8 (244+IntKind.wrap .u8 n)]);simp only [Hz,Iw,Y6,Bw] at L1 t1;simp (disch:=omega) only [B3,Fd,if_true,Bj,Gs,L,Fg,L1,t1,Hz,Iw,Y6,Bw]
 ·by_cases c8:k=8
  ·subst c8;have L1:=Al .u8 (l++[246]);have t1:=Gs .u8 (l++[246]);simp only [Hz,Iw,Y6,Bw] at L1 t1;rw [A0 c7,Bm rfl];simp (disch:=omega) only [B3,Fd,c7,if_false,if_true,Bj,Gs,L,Fg,L1,t1,Hz,Iw,Y6,Bw]
  ·have dat:∀mj:Int,0<=mj->mj<=5->(Ae C0 Tryz.prog fu (d+1) Kp [.own 1 l.length (Ah .u8 l),.sc (.int .u8 mj),.sc (.int .u64 s.size)]=some ⟨[.own 1 (l++Dj mj s.size).length (Ah .u8 (l++Dj mj s.size))],[]⟩)∧(l++Dj mj s.size).length<=300009∧List.take (l++Dj mj s.size).length (Ah .u8 (l++Dj mj s.size))=Ah .u8 (l++Dj mj s.size)∧(Ah .u8 (l++Dj mj s.size)).length=(l++Dj mj s.size).length∧Ah .u8 (l++Dj mj s.size)++Co s=Ah .u8 (l++(Dj mj s.size++Bv s))∧(l++(Dj mj s.size++Bv s)).length=(l++Dj mj s.size).length+s.size∧(Ah .u8 (l++(Dj mj s.size++Bv s))).length=(l++Dj mj s.size).length+s.size:=by
    intro mj h0 h1;have hh:=Hy mj s.size;refine ⟨Awl hfu (by omega) h0 h1 (by omega),by rw [Hz];omega,Gs _ _,Al _ _,?_,?_,?_⟩
    ·rw [Fh,←Zzv,Ah,Ah,Ah,List.flatMap_append (xs:=l++Dj mj s.size)]
    ·rw [←Zzv,Hz,hsl]
    ·rw [Al,←Zzv,Hz,hsl]
   have ss:(Co s).length=s.size:=by rw [Fh,Al,hsl]
   have wsz:IntKind.wrap .u64 (s.size:Int)=s.size:=B6 (by omega) (by omega)
   rw [A0 c7,A0 c8];by_cases c3:k=3
   ·subst c3;obtain ⟨p1,p2,p3,p4,p5,p6,p7⟩:=dat 2 (by omega) (by omega)
    have w1:IntKind.wrap .i64 ((3:Int)-1)=2:=by decide
    have w2:IntKind.wrap .u8 (2:Int)=2:=by decide
    have t1:List.take ((l++Dj 2 s.size).length+s.size) (Ah .u8 (l++(Dj 2 s.size++Bv s)))=Ah .u8 (l++(Dj 2 s.size++Bv s)):=Iv (by omega)
    rw [Bm rfl];simp (disch:=omega) only [B3,Fd,c7,c8,if_false,if_true,w1,w2,wsz,Bj,Gs,L,p1];generalize (l++Dj 2 s.size).length=N at *
    simp (disch:=omega) only [B3,Bj,p3,p4,p5,p7,t1,ss];rw [p6]
   ·by_cases c4:k=4
    ·subst c4;obtain ⟨p1,p2,p3,p4,p5,p6,p7⟩:=dat 3 (by omega) (by omega)
     have w1:IntKind.wrap .i64 ((4:Int)-1)=3:=by decide
     have w2:IntKind.wrap .u8 (3:Int)=3:=by decide
     have t1:List.take ((l++Dj 3 s.size).length+s.size) (Ah .u8 (l++(Dj 3 s.size++Bv s)))=Ah .u8 (l++(Dj 3 s.size++Bv s)):=Iv (by omega)
     rw [A0 c3,Bm rfl];simp (disch:=omega) only [B3,Fd,c7,c8,c3,if_false,if_true,w1,w2,wsz,Bj,Gs,L,p1];generalize (l++Dj 3 s.size).length=N at *
     simp (disch:=omega) only [B3,Bj,p3,p4,p5,p7,t1,ss];rw [p6]
    ·have w1:IntKind.wrap .i64 (k-1)=k-1:=Ap (by omega) (by omega)
     have w2:IntKind.wrap .u8 (k-1)=k-1:=F7 (by omega) (by omega)
     have p1:=Awl (fu:=fu) (d:=d) hfu (l:=l) (by omega) (mj:=k-1) (n:=n) (by omega) (by omega) n0
     have L2:=Al .u8 (l++Dj (k-1) n);have t2:=Gs .u8 (l++Dj (k-1) n);rw [A0 c3,A0 c4];simp (disch:=omega) only [B3,Fd,c7,c8,c3,c4,if_false,w1,w2,Bj,Gs,L,p1,L2,t2]
end
end
end Go.Proofs.YtgfgmbpmghgbkaaGreatDoor.Pv
