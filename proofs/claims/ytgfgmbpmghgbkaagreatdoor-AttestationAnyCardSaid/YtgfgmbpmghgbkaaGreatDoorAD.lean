/-
  The proof of AttestationAny, part 4 (texts Dg1 Wd2 GnB Ke0 Ke1 Ke2 GnR Ke3 Ke4 Ke5 GnF GnI Cb1).
-/
import Derived.Test.YtgfgmbpmghgbkaaGreatDoorAC
import Derived.Test.YtgfgmbpmghgbkaaGreatDoorRows
set_option linter.unusedSimpArgs false
set_option linter.unusedVariables false
namespace Go.Proofs.YtgfgmbpmghgbkaaGreatDoor.Pv
section
section
variable {fu d:Nat}
theorem A3t {x k:Int}(hk:k=13∨k=16∨k=17∨k=21∨k=32):Ae C0 Tryz.prog fu (d+1) Pr [.sc (.int .u64 x),.sc (.int .i64 k)]=some ⟨[.sc (.int .u64 (rot x k))],[]⟩:=by
 rw [Aa8];rcases hk with rfl|rfl|rfl|rfl|rfl<;>kernel_rfl
theorem A2g {x k:Int}(hk:k=13∨k=16∨k=17∨k=21∨k=32):Ae C0 Tryz.prog fu (d+1) Se [.sc (.int .u64 x),.sc (.int .u64 k)]=some ⟨[.sc (.int .u64 (rot x k))],[]⟩:=by
 rw [Ab7];rcases hk with rfl|rfl|rfl|rfl|rfl<;>kernel_rfl
theorem Aho {a0 a1 a2 a3 a4:Int}:∀(k i nn:Nat)(v:W4),k<nn->i+k<=100 ->
  F9 fu (Ae C0 Tryz.prog fu (d+1)) a0 a1 a2 a3 a4 nn ((i+k:Nat):Int) i v.a v.b v.c v.d=some ⟨[],[(Avp k v).cells]⟩
 |_,_,0,_,h,_=>by omega
 |0,i,nn+1,v,h,hi=>by
  rw [J5,Dj _ _ _ (by omega)]
  rfl
 |k+1,i,nn+1,v,h,hi=>by
  have ih:=Aho (a0:=a0) (a1:=a1) (a2:=a2) (a3:=a3) (a4:=a4) k (i+1) nn (rnd v) (by omega) (by omega)
  have w:IntKind.wrap .i64 ((i:Int)+1)=((i+1:Nat):Int):=by rw [Au (by omega) (by omega)];omega
  have r13:=fun x=>A3t (fu:=fu) (d:=d) (x:=x) (k:=13) (by simp)
  have r16:=fun x=>A3t (fu:=fu) (d:=d) (x:=x) (k:=16) (by simp)
  have r17:=fun x=>A3t (fu:=fu) (d:=d) (x:=x) (k:=17) (by simp)
  have r21:=fun x=>A3t (fu:=fu) (d:=d) (x:=x) (k:=21) (by simp)
  have r32:=fun x=>A3t (fu:=fu) (d:=d) (x:=x) (k:=32) (by simp)
  rw [J5];simp (disch:=omega) only [B6,r13,r16,r17,r21,r32,w];rw [show i+(k+1)=i+1+k by omega]
  exact ih
theorem Am2 (k:Nat)(hk:k<=4)(hfu:100<=fu)(v:W4):Ae C0 Tryz.prog fu (d+2) M0 [.pbox [.sc (.int .u64 v.a),.sc (.int .u64 v.b),.sc (.int .u64 v.c),.sc (.int .u64 v.d)],.sc (.int .i64 k)]=some ⟨[],[(Avp k v).cells]⟩:=by
 rw [Xg];have:=Aho (fu:=fu) (d:=d) (a0:=v.a) (a1:=v.b) (a2:=v.c) (a3:=v.d) (a4:=k) k 0 fu v (by omega) (by omega)
 rw [B4] at this;exact this
theorem Aoh (hfu:100<=fu)(v:W4)(m:Int):Ae C0 Tryz.prog fu (d+3) M2 [.pbox [.sc (.int .u64 v.a),.sc (.int .u64 v.b),.sc (.int .u64 v.c),.sc (.int .u64 v.d)],.sc (.int .u64 m)]=some ⟨[],[(Vb v m).cells]⟩:=by
 rw [Xx];have r2:=Am2 (fu:=fu) (d:=d) 2 (by omega) hfu ⟨v.a,v.b,v.c,Eu .u64 v.d m⟩
 have e2:((2:Nat):Int)=2:=rfl;rw [e2] at r2;unfold Vb;generalize Avp 2 ⟨v.a,v.b,v.c,Eu .u64 v.d m⟩=R at r2 ⊢;simp only [W4.cells] at r2;simp only [B6,r2];rfl
theorem A8p {a b:Int}{k:Nat}(hk:k<8)(ha:0<=a)(ha':a<((2 ^ (8*k):Nat):Int)) (hb:0<=b)(hb':b<=255):Xz .u64 a (Fk .u64 b (8*(k:Int)))=a+((2 ^ (8*k):Nat):Int)*b:=by
 obtain ⟨n,rfl⟩:=Int.eq_ofNat_of_zero_le hb;have e:(8*(k:Int)).toNat=8*k:=by omega
 have hp:n*2 ^ (8*k)<=255*2 ^ (8*k):=Nat.mul_le_mul_right _ (by omega)
 have h56:2 ^ (8*k)<=2 ^ 56:=Nat.pow_le_pow_right (by omega) (by omega)
 have e56:(2:Nat) ^ 56=72057594037927936:=by decide
 rw [e56] at h56;generalize hP:2 ^ (8*k)=p at *
 have hpos:n*p<=255*p:=hp
 have hs:Fk .u64 (n:Int) (8*(k:Int))=(n:Int)*((2 ^ (8*(k:Int)).toNat:Nat):Int):=Axk (by omega) (by omega) (by omega) (by
  rw [e,hP];have:((n*p:Nat):Int)<=((255*p:Nat):Int):=by omega
  rw [←Int.natCast_mul];omega)
 rw [hs,e,hP]
 have:=(Ao7 (a:=a) (c:=((n*p:Nat):Int)) (8*k) n ha (by rw [hP];exact ha') (by rw [hP]) (by
  have:((n*p:Nat):Int)<=((255*p:Nat):Int):=by omega
  omega)).1
 rw [←Int.natCast_mul,this,Int.mul_comm ((p:Nat):Int),←Int.natCast_mul]
theorem A8o (k:Nat):((2 ^ (8*k):Nat):Int)=256 ^ k:=by
 rw [Nat.pow_mul];simp
theorem Ahr {call:Aq}{n:Nat}{c:List PV}{l:List Int}(hb:Gn l)(hl:l.length<=8):∀(r:List Int)(i nn:Nat),l.drop i=r->r.length<nn->i<=l.length ->
  Jl fu call n c nn (Uw (l.take i)) l.length (Ai .u8 l) l.length i=some ⟨[.sc (.int .u64 (Uw l))],[]⟩
 |_,_,0,_,h,_=>by omega
 |[],i,nn+1,h,hn,hi=>by
  have:=drop_nil h;rw [Rw,Dj _ _ _ (by omega),I2 (by omega)]
 |b::r,i,nn+1,h,hn,hi=>by
  obtain ⟨h1,h2,h3⟩:=Ca h;simp only [H0] at hn;have ih:=Ahr (call:=call) (n:=n) (c:=c) hb hl r (i+1) nn h3 (by omega) (by omega)
  have hbb:=hb b (List.mem_of_getElem? h2);have w:IntKind.wrap .i64 ((i:Int)+1)=((i+1:Nat):Int):=by rw [Au (by omega) (by omega)];omega
  have w8:IntKind.wrap .i64 (8*(i:Int))=8*(i:Int):=Au (by omega) (by omega)
  have wb:IntKind.wrap .u64 b=b:=B7 (by omega) (by omega)
  have hbnd:=W1 (l:=l.take i) fun x hx=>hb x (List.mem_of_mem_take hx)
  have htl:(l.take i).length=i:=by rw [List.length_take];omega
  rw [htl] at hbnd
  have hj:Xz .u64 (Uw (l.take i)) (Fk .u64 b (8*(i:Int)))=Uw (l.take (i+1)):=by
   rw [A8p (by omega) hbnd.1 (by rw [A8o];exact hbnd.2) hbb.1 hbb.2,List.take_add_one,h2,Abx,htl,A8o]
   simp [Uw]
  rw [Rw];simp (disch:=omega) only [B6,G6,Bl,Qz h2,w,w8,wb,hj];exact ih
theorem Anf {l:List Int}(hb:Gn l)(hl:l.length<=8)(hfu:100<=fu):Ae C0 Tryz.prog fu (d+1) Xd [.lst false 1 l.length (Ai .u8 l)]=some ⟨[.sc (.int .u64 (Uw l))],[]⟩:=by
 rw [Ah4];exact Ahr hb hl l 0 fu rfl (by omega) (by omega)
theorem E6 (k:IntKind)(l:List Int)(i:Nat):List.drop i (Ai k l)=Ai k (l.drop i):=by
 have:=Aqf (Ads k) l i
 simpa using this
theorem Dz (k:IntKind)(l:List Int)(i:Nat):List.take i (Ai k l)=Ai k (l.take i):=by
 have:=Awl (Ads k) l i
 simpa using this
theorem Gn.drop {l:List Int}(h:Gn l)(i:Nat):Gn (l.drop i):=fun x hx=>h x (List.mem_of_mem_drop hx)
theorem Gn.take {l:List Int}(h:Gn l)(i:Nat):Gn (l.take i):=fun x hx=>h x (List.mem_of_mem_take hx)
theorem A5j {a0 a1:Int}{n:Nat}{c:List PV}{l:List Int}(hb:Gn l)(hl:l.length<=1099511627776)(hfu:100<=fu)(nn:Nat)(v:W4):
  J7 fu (Ae C0 Tryz.prog fu (d+3)) a0 a1 n c (nn+1) l.length (Ai .u8 l) ((l.length / 8:Nat):Int) ((l.length / 8:Nat):Int) ((l.length / 8:Nat):Int) v.a v.b v.c v.d=some ⟨[.sc (.int .u64 (Ax4 (Ayc (Vb v (P3 l)))))],[]⟩:=by
 have w8:IntKind.wrap .i64 (8*((l.length / 8:Nat):Int))=((8*(l.length / 8):Nat):Int):=by rw [Au (by omega) (by omega)];omega
 have wl:IntKind.wrap .u64 (l.length:Int)=l.length:=B7 (by omega) (by omega)
 have hdl:(l.drop (8*(l.length / 8))).length=l.length-8*(l.length / 8):=List.length_drop;have li:=Anf (fu:=fu) (d:=d+2) (hb.drop (8*(l.length / 8))) (by omega) hfu
 rw [hdl] at li;have tk:List.take (l.length-8*(l.length / 8)) (Ai .u8 (l.drop (8*(l.length / 8))))=Ai .u8 (l.drop (8*(l.length / 8))):=I2 (by rw [As,hdl];omega)
 have hbn:=W1 (hb.drop (8*(l.length / 8)));rw [hdl] at hbn
 have hp7:(256:Int) ^ (l.length-8*(l.length / 8))<=256 ^ 7:=by
  have:(256:Nat) ^ (l.length-8*(l.length / 8))<=256 ^ 7:=Nat.pow_le_pow_right (by omega) (by omega)
  have h2:(((256:Nat) ^ (l.length-8*(l.length / 8)):Nat):Int)<=((256 ^ 7:Nat):Int):=by omega
  simpa using h2
 have hlast:Xz .u64 (Uw (l.drop (8*(l.length / 8)))) (Fk .u64 (l.length:Int) 56)=P3 l:=by
  have hs:Fk .u64 (l.length:Int) 56=(((l.length % 256)*2 ^ 56:Nat):Int):=by
   show IntKind.wrap .u64 ((l.length:Int)*2 ^ (min (56:Int).toNat IntKind.u64.bits))=_;have h2:(2:Int) ^ (min (56:Int).toNat IntKind.u64.bits)=72057594037927936:=by decide
   have h3:(2:Nat) ^ 56=72057594037927936:=by decide
   rw [h2,h3];simp only [IntKind.wrap,IntKind.signed,IntKind.bits];simp;omega
  have h56:(256:Int) ^ 7=((2 ^ 56:Nat):Int):=by decide
  have h3:(2:Nat) ^ 56=72057594037927936:=by decide
  rw [hs,(Ao7 56 (l.length % 256) hbn.1 (by omega) rfl (by omega)).1]
  unfold P3;omega
 have ab:=Aoh (fu:=fu) (d:=d) hfu v (P3 l);have r4:=Am2 (fu:=fu) (d:=d+1) 4 (by omega) hfu ⟨(Vb v (P3 l)).a,(Vb v (P3 l)).b,Eu .u64 (Vb v (P3 l)).c 255,(Vb v (P3 l)).d⟩
 have e4:((4:Nat):Int)=4:=rfl;rw [e4] at r4;unfold Ayc;generalize Vb v (P3 l)=U at ab r4 ⊢;generalize Avp 4 ⟨U.a,U.b,Eu .u64 U.c 255,U.d⟩=R at r4 ⊢;simp only [W4.cells] at ab r4;rw [W3];simp (disch:=omega) only [B6,G6,Bl,w8,wl,E6,tk,li,hlast,ab,r4];rfl
theorem Atx {a0 a1:Int}{n:Nat}{c:List PV}{l:List Int}(hb:Gn l)(hl:l.length<=1099511627776)(hfu:100<=fu):∀(k i nn:Nat)(v:W4),i+k=l.length / 8->k<nn ->
  J7 fu (Ae C0 Tryz.prog fu (d+3)) a0 a1 n c nn l.length (Ai .u8 l) ((l.length / 8:Nat):Int) ((l.length / 8:Nat):Int) i v.a v.b v.c v.d=some ⟨[.sc (.int .u64 (Ax4 (Ayc (Vb (Ama k v (l.drop (8*i))) (P3 l)))))],[]⟩
 |_,_,0,_,_,h=>by omega
 |0,i,nn+1,v,hi,hn=>by
  have e:i=l.length / 8:=by omega
  subst e;exact A5j hb hl hfu nn v
 |k+1,i,nn+1,v,hi,hn=>by
  have w:IntKind.wrap .i64 ((i:Int)+1)=((i+1:Nat):Int):=by rw [Au (by omega) (by omega)];omega
  have w8:IntKind.wrap .i64 (8*(i:Int))=((8*i:Nat):Int):=by rw [Au (by omega) (by omega)];omega
  have w88:IntKind.wrap .i64 (((8*i:Nat):Int)+8)=((8*i+8:Nat):Int):=by rw [Au (by omega) (by omega)];omega
  have hdl:((l.drop (8*i)).take 8).length=8:=by rw [List.length_take,List.length_drop];omega
  have li:=Anf (fu:=fu) (d:=d+2) ((hb.drop (8*i)).take 8) (by omega) hfu
  rw [hdl] at li;have e8:8*i+8-8*i=8:=by omega
  have ab:=Aoh (fu:=fu) (d:=d) hfu v (Uw ((l.drop (8*i)).take 8));have ih:=Atx (a0:=a0) (a1:=a1) (n:=n) (c:=c) hb hl hfu k (i+1) nn (Vb v (Uw ((l.drop (8*i)).take 8))) (by omega) (by omega)
  have eN:Ama (k+1) v (l.drop (8*i))=Ama k (Vb v (Uw ((l.drop (8*i)).take 8))) (l.drop (8*(i+1))):=by
   rw [Ama,List.drop_drop,show 8*i+8=8*(i+1) by omega]
  rw [eN];generalize Vb v (Uw ((l.drop (8*i)).take 8))=U at ab ih ⊢;simp only [W4.cells] at ab;rw [W3];simp (disch:=omega) only [B6,G6,Bl,w,w8,w88,e8,E6,Dz,li,ab];exact ih
theorem A7j {l:List Int}(hb:Gn l)(hl:l.length<=1099511627776)(hfu:100<=fu)(hf:l.length<fu)(k0 k1:Int):Ae C0 Tryz.prog fu (d+4) Ady [.sc (.int .u64 k0),.sc (.int .u64 k1),.lst false 1 l.length (Ai .u8 l)]=some ⟨[.sc (.int .u64 (A56 k0 k1 l))],[]⟩:=by
 rw [Apq]
 have w:IntKind.wrap .i64 (Int.tdiv (l.length:Int) 8)=((l.length / 8:Nat):Int):=by
  rw [Int.tdiv_eq_ediv_of_nonneg (by omega),Au (by omega) (by omega)]
  omega
 have lp:=Atx (fu:=fu) (d:=d) (a0:=k0) (a1:=k1) (n:=l.length) (c:=Ai .u8 l) hb hl hfu (l.length / 8) 0 fu (A77 k0 k1) (by omega) (by omega)
 simp only [Hw,w];exact lp
theorem Axg {l:List Int}(hb:Gn l)(hl:l.length<=1099511627776)(hfu:100<=fu)(hf:l.length<fu)(dom:Int):Ae C0 Tryz.prog fu (d+5) Ua [.sc (.int .i64 dom),.lst false 1 l.length (Ai .u8 l)]=some ⟨[.sc (.int .u64 (Et dom l))],[]⟩:=by
 rw [Ams];have s:=A7j (fu:=fu) (d:=d) hb hl hfu hf (IntKind.wrap .u64 dom) 0;simp only [B6,s];rfl
theorem Qy (v:W4):Ae C0 Tryz.prog fu (d+2) Qc [.agg [.sc (.int .u64 v.a),.sc (.int .u64 v.b),.sc (.int .u64 v.c),.sc (.int .u64 v.d)]]=some ⟨[.agg (rnd v).cells],[]⟩:=by
 have r13:=fun x=>A2g (fu:=fu) (d:=d) (x:=x) (k:=13) (by simp)
 have r16:=fun x=>A2g (fu:=fu) (d:=d) (x:=x) (k:=16) (by simp)
 have r17:=fun x=>A2g (fu:=fu) (d:=d) (x:=x) (k:=17) (by simp)
 have r21:=fun x=>A2g (fu:=fu) (d:=d) (x:=x) (k:=21) (by simp)
 have r32:=fun x=>A2g (fu:=fu) (d:=d) (x:=x) (k:=32) (by simp)
 rw [Aat];simp (disch:=omega) only [B6,r13,r16,r17,r21,r32];rfl
def Xt (l:List Int)(i k:Nat):Int:=if i+k<l.length then l.getD (i+k) 0 else if k=7 then (l.length:Int) % 256 else 0
def pc (l:List Int)(i:Nat):List Int:=(List.range 8).map (Xt l i)
theorem Ban {l:List Int}(hb:Gn l)(i:Nat):Gn (pc l i):=by
 intro x hx;obtain ⟨k,hk,rfl⟩:=List.mem_map.1 hx;unfold Xt;split
 ·rename_i h;rw [List.getD_eq_getElem?_getD,List.getElem?_eq_getElem h];exact hb _ (List.getElem_mem h)
 ·split<;>omega
theorem A5a {l:List Int}{i:Nat}(h:i+8<=l.length):pc l i=(l.drop i).take 8:=by
 refine List.ext_getElem (by simp [pc];omega) fun k h1 h2=>?_
 have hk:k<8:=by simpa [pc] using h1
 simp only [pc,List.getElem_map,List.getElem_range,List.getElem_take,List.getElem_drop,Xt];rw [Bk (by omega),List.getD_eq_getElem?_getD,List.getElem?_eq_getElem (by omega)]
 rfl
theorem Aox (x:Int):∀n,Uw (List.replicate n 0++[x])=256 ^ n*x
 |0=>by simp [Uw]
 |n+1=>by
  rw [List.replicate_succ,List.cons_append,Uw,Aox x n,Int.pow_succ,Int.mul_comm (256 ^ n) 256,Int.mul_assoc];omega
theorem A5z {l:List Int}:Uw (pc l (8*(l.length / 8)))=P3 l:=by
 have e:pc l (8*(l.length / 8))=l.drop (8*(l.length / 8))++(List.replicate (7-(l.length-8*(l.length / 8))) 0++[(l.length:Int) % 256]):=by
  refine List.ext_getElem (by simp [pc];omega) fun k h1 h2=>?_
  have hk:k<8:=by simpa [pc] using h1
  simp only [pc,List.getElem_map,List.getElem_range,Xt];by_cases hc:8*(l.length / 8)+k<l.length
  ·rw [Bk hc,List.getElem_append_left (by rw [List.length_drop];omega),List.getElem_drop,List.getD_eq_getElem?_getD,List.getElem?_eq_getElem hc]
   rfl
  ·rw [A3 hc,List.getElem_append_right (by rw [List.length_drop];omega)]
   by_cases h7:k=7
   ·rw [Bk h7,List.getElem_append_right (by simp;omega)]
    simp
   ·rw [A3 h7,List.getElem_append_left (by simp;omega)]
    simp
 rw [e,Abx,Aox];unfold P3
 have:(256:Int) ^ (l.drop (8*(l.length / 8))).length*(256 ^ (7-(l.length-8*(l.length / 8)))*((l.length:Int) % 256))=72057594037927936*((l.length:Int) % 256):=by
  rw [←Int.mul_assoc,←Int.pow_add,List.length_drop];have:l.length-8*(l.length / 8)+(7-(l.length-8*(l.length / 8)))=7:=by omega
  rw [this];rfl
 rw [this]
theorem A8q {a b:Int}(ha:0<=a)(ha':a<72057594037927936)(hb:0<=b)(hb':b<=255):Xz .u64 (Fk .u64 a 8) b=b+256*a:=by
 obtain ⟨n,rfl⟩:=Int.eq_ofNat_of_zero_le ha
 have hs:Fk .u64 (n:Int) 8=((n*2 ^ 8:Nat):Int):=by
  have:=Axk (a:=(n:Int)) (k:=8) (by omega) (by omega) (by omega) (by
   have:(2 ^ (8:Int).toNat:Nat)=256:=by decide
   rw [this];omega)
  rw [this];have:(2 ^ (8:Int).toNat:Nat)=256:=by decide
  rw [this];have:(2 ^ 8:Nat)=256:=by decide
  rw [this];omega
 have h8:(2 ^ 8:Nat)=256:=by decide
 rw [hs,(Ao7 (a:=b) 8 n hb (by rw [h8];omega) rfl (by rw [h8];omega)).2,h8]
 omega
theorem Axm {a0 a1:Int}{n m0:Nat}{c:List PV}{l:List Int}(hb:Gn l)(hl:l.length<=1099511627776){i:Nat}(hi:i<=l.length)(v:W4):∀(j nn:Nat),j<=8->j<nn ->
  Fi fu (Ae C0 Tryz.prog fu (d+2)) a0 a1 n c m0 nn l.length (Ai .u8 l) i (Uw ((pc l i).drop j)) ((j:Int)-1) v.cells =
   Gg fu (Ae C0 Tryz.prog fu (d+2)) a0 a1 n c m0 l.length (Ai .u8 l) ((i+8:Nat):Int) (Vb v (Uw (pc l i))).cells
 |_,0,_,h=>by omega
 |0,nn+1,hj,hn=>by
  have w8:IntKind.wrap .i64 ((i:Int)+8)=((i+8:Nat):Int):=by rw [Au (by omega) (by omega)];omega
  have r1:=Qy (fu:=fu) (d:=d) ⟨v.a,v.b,v.c,Eu .u64 v.d (Uw (pc l i))⟩;have r2:=Qy (fu:=fu) (d:=d) (rnd ⟨v.a,v.b,v.c,Eu .u64 v.d (Uw (pc l i))⟩);have eA:Vb v (Uw (pc l i))=A87 (rnd (rnd ⟨v.a,v.b,v.c,Eu .u64 v.d (Uw (pc l i))⟩)) (Uw (pc l i)):=rfl;rw [eA];generalize rnd ⟨v.a,v.b,v.c,Eu .u64 v.d (Uw (pc l i))⟩=U at r1 r2 ⊢;generalize rnd U=U2 at r2 ⊢;simp only [W4.cells] at r1 r2;rw [Of,Dj _ _ _ (by omega),Cm]
  simp only [W4.cells,List.getD_cons_zero,List.getD_cons_succ,Ao9,Hw];simp (disch:=first|omega|(simp;done)) only [B6,Cb,List.take_succ_cons,List.take_zero,List.drop_succ_cons,Cm,List.drop_nil,List.cons_append,Zzq,List.append_nil,H0,X2,List.getD_cons_zero,List.getD_cons_succ,r1,r2,w8,B4,Nat.reduceAdd,Nat.reduceLeDiff,List.append_eq]
  rfl
 |j+1,nn+1,hj,hn=>by
  have ih:=Axm (a0:=a0) (a1:=a1) (n:=n) (m0:=m0) (c:=c) hb hl hi v j nn (by omega) (by omega)
  have hw:IntKind.wrap .i64 ((i:Int)+(((j+1:Nat):Int)-1))=((i+j:Nat):Int):=by rw [Au (by omega) (by omega)];omega
  have wj:IntKind.wrap .i64 (((j+1:Nat):Int)-1-1)=(j:Int)-1:=by rw [Au (by omega) (by omega)];omega
  have hd:(pc l i).drop j=Xt l i j::(pc l i).drop (j+1):=by
   rw [List.drop_eq_getElem_cons (by simp [pc];omega)]
   simp [pc]
  have hB:=Ban hb i;have hbn:=W1 (hB.drop (j+1))
  have hp7:(256:Int) ^ ((pc l i).drop (j+1)).length<=72057594037927936:=by
   have hlen:((pc l i).drop (j+1)).length<=7:=by simp [pc]
   have:(256:Nat) ^ ((pc l i).drop (j+1)).length<=256 ^ 7:=Nat.pow_le_pow_right (by omega) hlen
   have h2:(((256:Nat) ^ ((pc l i).drop (j+1)).length:Nat):Int)<=((256 ^ 7:Nat):Int):=by omega
   simpa using h2
  have hc0:0<=Xt l i j∧Xt l i j<=255:=hB _ (by rw [←Cm (l:=pc l i)];exact List.mem_of_mem_drop (i:=j) (by rw [Cm,hd];simp))
  have hj2:Xz .u64 (Fk .u64 (Uw ((pc l i).drop (j+1))) 8) (Xt l i j)=Uw ((pc l i).drop j):=by
   rw [A8q hbn.1 (by omega) hc0.1 hc0.2,hd]
   rfl
  have wc:IntKind.wrap .u64 (Xt l i j)=Xt l i j:=B7 (by omega) (by omega)
  rw [Of,Ai7 _ _ _ (by omega)]
  simp only [Hw,hw];by_cases c1:i+j<l.length
  ·have e:Xt l i j=l.getD (i+j) 0:=by unfold Xt;rw [Bk c1]
   have e2:l[i+j]?=some (Xt l i j):=by rw [e,List.getD_eq_getElem?_getD,List.getElem?_eq_getElem c1];rfl
   rw [Ai7 _ _ _ (by omega)]
   simp (disch:=omega) only [B6,G6,Bl,Qz e2,wc,hj2,wj];exact ih
  ·rw [Dj _ _ _ (by omega)]
   by_cases h7:j=7
   ·subst h7;have e:Xt l i 7=(l.length:Int) % 256:=by unfold Xt;rw [A3 c1,Bk rfl]
    have e8:IntKind.wrap .u8 (l.length:Int)=Xt l i 7:=by
     rw [e];simp only [IntKind.wrap,IntKind.signed,IntKind.bits];simp
    rw [Fm,Bk (by omega),e8,wc,hj2,wj]
    exact ih
   ·have e:Xt l i j=0:=by unfold Xt;rw [A3 c1,A3 h7]
    rw [e] at hj2;rw [Fm,A3 (by omega),hj2,wj]
    exact ih
theorem Anh {a0 a1:Int}{n:Nat}{c:List PV}{l:List Int}(hb:Gn l)(hl:l.length<=1099511627776)(hfu:100<=fu):∀(k i nn:Nat)(v:W4),i+k=l.length / 8->k+1<nn ->
  Gg fu (Ae C0 Tryz.prog fu (d+2)) a0 a1 n c nn l.length (Ai .u8 l) ((8*i:Nat):Int) v.cells=some ⟨[.sc (.int .u64 (Ax4 (Ayc (Vb (Ama k v (l.drop (8*i))) (P3 l)))))],[]⟩
 |_,_,0,_,_,h=>by omega
 |k,i,nn+1,v,hi,hn=>by
  have step:=Axm (fu:=fu) (d:=d) (a0:=a0) (a1:=a1) (n:=n) (m0:=nn) (c:=c) hb hl (i:=8*i) (by omega) v 8 fu (by omega) (by omega)
  have e0:Uw ((pc l (8*i)).drop 8)=0:=by rw [List.drop_of_length_le (by simp [pc])];rfl
  rw [e0] at step;rw [Ov,Ai7 _ _ _ (by omega)]
  refine step.trans ?_;cases k with
  |zero=>
   have e:i=l.length / 8:=by omega
   subst e;rw [A5z];generalize hv:Vb v (P3 l)=u;obtain ⟨nn',rfl⟩:∃nn',nn=nn'+1:=⟨nn-1,by omega⟩
   have r1:=Qy (fu:=fu) (d:=d) ⟨u.a,u.b,Eu .u64 u.c 255,u.d⟩;have r2:=Qy (fu:=fu) (d:=d) (rnd ⟨u.a,u.b,Eu .u64 u.c 255,u.d⟩);have r3:=Qy (fu:=fu) (d:=d) (rnd (rnd ⟨u.a,u.b,Eu .u64 u.c 255,u.d⟩));have r4:=Qy (fu:=fu) (d:=d) (rnd (rnd (rnd ⟨u.a,u.b,Eu .u64 u.c 255,u.d⟩)))
   have eF:Ax4 (Ayc (Vb (Ama 0 v (l.drop (8*(l.length / 8)))) (P3 l)))=Ax4 (rnd (rnd (rnd (rnd ⟨u.a,u.b,Eu .u64 u.c 255,u.d⟩)))):=by
    rw [Ama,hv];rfl
   rw [eF];clear eF;generalize rnd ⟨u.a,u.b,Eu .u64 u.c 255,u.d⟩=U1 at r1 r2 r3 r4 ⊢;generalize rnd U1=U2 at r2 r3 r4 ⊢;generalize rnd U2=U3 at r3 r4 ⊢;generalize rnd U3=U4 at r4 ⊢;simp only [W4.cells] at r1 r2 r3 r4;rw [Ov,Dj _ _ _ (by omega)]
   simp only [W4.cells,List.getD_cons_zero,List.getD_cons_succ,Ao9,Hw];simp (disch:=first|omega|(simp;done)) only [B6,Cb,List.take_succ_cons,List.take_zero,List.drop_succ_cons,Cm,List.drop_nil,List.cons_append,Zzq,List.append_nil,H0,X2,List.getD_cons_zero,List.getD_cons_succ,r1,r2,r3,r4,B4,Nat.reduceAdd,Nat.reduceLeDiff,List.append_eq]
   rfl
  |succ k=>
   have ih:=Anh (a0:=a0) (a1:=a1) (n:=n) (c:=c) hb hl hfu k (i+1) nn (Vb v (Uw (pc l (8*i)))) (by omega) (by omega)
   rw [show 8*i+8=8*(i+1) by omega,ih,A5a (by omega)]
   simp only [Ama,List.drop_drop];rw [show 8*(i+1)=8*i+8 by omega]
theorem Aww {l:List Int}(hb:Gn l)(hl:l.length<=1099511627776)(hfu:100<=fu)(hf:l.length<fu)(k0 k1:Int):Ae C0 Tryz.prog fu (d+3) Tq [.sc (.int .u64 k0),.sc (.int .u64 k1),.lst false 1 l.length (Ai .u8 l)]=some ⟨[.sc (.int .u64 (A56 k0 k1 l))],[]⟩:=by
 rw [Ad2];exact Anh (fu:=fu) (d:=d) (a0:=k0) (a1:=k1) (n:=l.length) (c:=Ai .u8 l) hb hl hfu (l.length / 8) 0 fu (A77 k0 k1) (by omega) (by omega)
theorem Uv {l:List Int}(hb:Gn l)(hl:l.length<=1099511627776)(hfu:100<=fu)(hf:l.length<fu)(dom:Int):Ae C0 Tryz.prog fu (d+4) Kl [.sc (.int .i64 dom),.lst false 1 l.length (Ai .u8 l)]=some ⟨[.sc (.int .u64 (Et dom l))],[]⟩:=by
 rw [Ack];have s:=Aww (fu:=fu) (d:=d) hb hl hfu hf (IntKind.wrap .u64 dom) 0;simp only [B6,s];rfl
theorem Axl {l:List Int}(hb:Gn l)(hl:l.length<=1099511627776)(hfu:100<=fu)(hf:l.length<fu)(key dom:Int):Ae C0 Tryz.prog fu (d+4) S6 [.sc (.int .u64 key),.sc (.int .i64 dom),.lst false 1 l.length (Ai .u8 l)]=some ⟨[.sc (.int .u64 (A4w key dom l))],[]⟩:=by
 rw [Aeb];have s:=Aww (fu:=fu) (d:=d) hb hl hfu hf key (IntKind.wrap .u64 (1+IntKind.wrap .u64 dom));simp only [B6,s];rfl
end
end
section
def Dx (w:Int)(k:Nat):Int:=IntKind.wrap .u8 (El .u64 w (56-8*(k:Int)))
def Cg (w:Int):List Int:=(List.range' 0 8).map (Dx w)
def A7 (ws:List Int):List Int:=ws.flatMap Cg
theorem Cy (w:Int):(Cg w).length=8:=rfl
section
variable {fu d:Nat} {call:Aq} {n:Nat} {c:List PV}
theorem Asu {ws:List Int}{w:Int}{m0 l:Nat}{i k:Int}:∀(r j nn:Nat)(bs:List Int),8-j=r->r<nn->j<=8->bs.length+r<=34359738368 ->
  Kg fu call n c m0 nn bs.length w l (Ai .u64 ws) k i j (Ai .u8 bs) =
   Ig fu call n c m0 (bs++(List.range' j (8-j)).map (Dx w)).length l (Ai .u64 ws) k (IntKind.wrap .i64 (i+1)) (Ai .u8 (bs++(List.range' j (8-j)).map (Dx w)))
 |r,j,0,bs,_,h,_,_=>by omega
 |0,j,nn+1,bs,hr,_,hj,_=>by
  have e:j=8:=by omega
  subst e;rw [Te];simp (disch:=omega) only [B6];simp
 |r+1,j,nn+1,bs,hr,hn,hj,hb=>by
  have ih:=Asu (ws:=ws) (w:=w) (m0:=m0) (l:=l) (i:=i) (k:=k) r (j+1) nn (bs++[Dx w j]) (by omega) (by omega) (by omega) (by simp;omega)
  have e8:=As .u8 bs;rw [Te]
  have hx:IntKind.wrap .u8 (El .u64 w (IntKind.wrap .i64 (56-IntKind.wrap .i64 (8*(j:Int)))))=Dx w j:=by
   rw [Au (x:=8*(j:Int)) (by omega) (by omega),Au (by omega) (by omega)]
   rfl
  have h0:0<=IntKind.wrap .i64 (56-IntKind.wrap .i64 (8*(j:Int))):=by
   rw [Au (x:=8*(j:Int)) (by omega) (by omega),Au (by omega) (by omega)]
   omega
  have hrange:List.range' j (8-j)=j::List.range' (j+1) (8-(j+1)):=by
   rw [show 8-j=(8-(j+1))+1 by omega]
   exact List.range'_succ
  simp (disch:=first|omega|exact h0) only [B6,Bl,hx,G4,Fs,Au (x:=(j:Int)+1)];rw [hrange];simp only [Ic,H0,X2,B4,Zzv,Zzw,List.singleton_append] at ih ⊢;exact ih
theorem Aku {ws:List Int}(hl:ws.length<=1073741824)(hfu:100<=fu):∀(r:List Int)(i nn:Nat)(bs:List Int),ws.drop i=r->r.length<nn->bs.length=8*i ->
  Ig fu call n c nn bs.length ws.length (Ai .u64 ws) ws.length i (Ai .u8 bs)=some ⟨[.own 1 (bs++A7 r).length (Ai .u8 (bs++A7 r))],[]⟩
 |r,i,0,_,_,h,_=>by omega
 |[],i,nn+1,bs,h,_,_=>by
  have:=drop_nil h;have e8:=As .u8 bs;rw [Ti];simp (disch:=omega) only [B6,Bl,G4,A7,List.flatMap_nil,List.append_nil]
 |w::r,i,nn+1,bs,h,hn,hb=>by
  obtain ⟨h1,h2,h3⟩:=Ca h;simp only [H0] at hn;rw [Ti];simp (disch:=omega) only [B6,G6,Bl,Qz h2];rw [show (0:Int)=((0:Nat):Int) from rfl,Asu 8 0 fu bs rfl (by omega) (by omega) (by omega),Au (by omega) (by omega)]
  have ih:=Aku hl hfu r (i+1) nn (bs++Cg w) h3 (by omega) (by simp [Cy];omega)
  have e:bs++Cg w++A7 r=bs++A7 (w::r):=by simp [A7]
  rw [e] at ih;exact ih
theorem Vz {ws:List Int}(hl:ws.length<=1073741824)(hfu:100<=fu)(hf:ws.length<fu):Ae C0 Tryz.prog fu (d+1) Ht [.lst false 1 ws.length (Ai .u64 ws)]=some ⟨[.own 1 (A7 ws).length (Ai .u8 (A7 ws))],[]⟩:=by
 rw [Ai5];simp (disch:=omega) only [B6,Au,Int.mul_one];exact Aku hl hfu ws 0 fu [] rfl hf rfl
theorem An1 {ws:List Int}{w:Int}{m0 i:Nat}(hw:ws[i]?=some w):∀(r nn:Nat)(j:Int)(bs:List Int),j=(r:Int)-1->r<=8->r<nn->bs.length+r<=34359738368 ->
  Gv fu call n c m0 nn ws.length (Ai .u64 ws) bs.length i j (Ai .u8 bs) =
   Fv fu call n c m0 ws.length (Ai .u64 ws) (bs++(List.range' (8-r) r).map (Dx w)).length (IntKind.wrap .i64 (i+1)) (Ai .u8 (bs++(List.range' (8-r) r).map (Dx w)))
 |r,0,j,bs,_,_,h,_=>by omega
 |0,nn+1,j,bs,hr,_,_,_=>by
  rw [L7];simp (disch:=omega) only [B6];simp
 |r+1,nn+1,j,bs,hr,hle,hn,hb=>by
  have hi:=A2x hw;have ih:=An1 (m0:=m0) hw r nn (j-1) (bs++[Dx w (8-(r+1))]) (by omega) (by omega) (by omega) (by simp;omega)
  have e8:=As .u8 bs
  have hx:IntKind.wrap .u8 (El .u64 w (IntKind.wrap .u64 (IntKind.wrap .i64 (8*j))))=Dx w (8-(r+1)):=by
   rw [Au (by omega) (by omega),B7 (by omega) (by omega)]
   unfold Dx;rw [show 56-8*((8-(r+1):Nat):Int)=8*j by omega]
  have h0:0<=IntKind.wrap .u64 (IntKind.wrap .i64 (8*j)):=by
   rw [Au (by omega) (by omega),B7 (by omega) (by omega)]
   omega
  have hrange:List.range' (8-(r+1)) (r+1)=(8-(r+1))::List.range' (8-r) r:=by
   rw [List.range'_succ,show 8-(r+1)+1=8-r by omega]
  rw [L7];simp (disch:=first|omega|exact h0) only [B6,G6,Bl,Qz hw,hx,G4,Fs,Au (x:=j-1)];rw [hrange];simp only [Ic,H0,X2,B4,Zzv,Zzw,List.singleton_append] at ih ⊢;exact ih
theorem Ag0 {ws:List Int}(hl:ws.length<=1073741824)(hfu:100<=fu):∀(r:List Int)(i nn:Nat)(bs:List Int),ws.drop i=r->r.length<nn->bs.length=8*i ->
  Fv fu call n c nn ws.length (Ai .u64 ws) bs.length i (Ai .u8 bs)=some ⟨[.own 1 (bs++A7 r).length (Ai .u8 (bs++A7 r))],[]⟩
 |r,i,0,_,_,h,_=>by omega
 |[],i,nn+1,bs,h,_,_=>by
  have:=drop_nil h;have e8:=As .u8 bs;rw [Mi];simp (disch:=omega) only [B6,Bl,G4,A7,List.flatMap_nil,List.append_nil]
 |w::r,i,nn+1,bs,h,hn,hb=>by
  obtain ⟨h1,h2,h3⟩:=Ca h;simp only [H0] at hn;rw [Mi];simp (disch:=omega) only [B6];rw [An1 h2 8 fu 7 bs rfl (by omega) (by omega) (by omega),Au (by omega) (by omega)]
  have ih:=Ag0 hl hfu r (i+1) nn (bs++Cg w) h3 (by omega) (by simp [Cy];omega)
  have e:bs++Cg w++A7 r=bs++A7 (w::r):=by simp [A7]
  rw [e] at ih;exact ih
theorem Lm {ws:List Int}(hl:ws.length<=1073741824)(hfu:100<=fu)(hf:ws.length<fu):Ae C0 Tryz.prog fu (d+1) Ec [.lst false 1 ws.length (Ai .u64 ws)]=some ⟨[.own 1 (A7 ws).length (Ai .u8 (A7 ws))],[]⟩:=by
 rw [Aan];exact Ag0 hl hfu ws 0 fu [] rfl hf rfl
end
abbrev Fc (a b:Int):Int:=Xz .u64 (Fk .u64 a 8) (IntKind.wrap .u64 b)
def Aah (bs:List Int):Int:=bs.foldl Fc 0
theorem A6s {q:Int}(h0:0<=q)(h1:q<=18446744073709551615):Fc (q / 256) (IntKind.wrap .u8 q)=q:=by
 have e1:Fk .u64 (q / 256) 8=q / 256*256:=by
  unfold Fk;have:((8:Int).toNat.min IntKind.u64.bits)=8:=by decide
  show IntKind.wrap .u64 (q / 256*2 ^ (min (8:Int).toNat IntKind.u64.bits))=_;have h2:(2:Int) ^ (min (8:Int).toNat IntKind.u64.bits)=256:=by decide
  rw [h2,B7 (by omega) (by omega)]
 have e2:IntKind.wrap .u8 q=q % 256:=by
  simp only [IntKind.wrap,IntKind.signed,IntKind.bits];simp
 have e3:IntKind.wrap .u64 (q % 256)=q % 256:=B7 (by omega) (by omega)
 unfold Fc;rw [e1,e2,e3];obtain ⟨n,rfl⟩:=Int.eq_ofNat_of_zero_le h0;have hn:n<18446744073709551616:=by omega
 have e4:(BitVec.ofInt 64 ((n:Int) / 256*256)).toNat=n / 256*256:=by
  rw [BitVec.toNat_ofInt];omega
 have e5:(BitVec.ofInt 64 ((n:Int) % 256)).toNat=n % 256:=by
  rw [BitVec.toNat_ofInt];omega
 have e6:n / 256*256 ||| n % 256=n:=by
  have:=Nat.shiftLeft_add_eq_or_of_lt (show n % 256<2 ^ 8 by omega) (n / 256)
  rw [Nat.shiftLeft_eq] at this;rw [←this];omega
 unfold Xz;show IntKind.wrap .u64 ((BitVec.ofInt 64 ((n:Int) / 256*256) ||| BitVec.ofInt 64 ((n:Int) % 256)).toNat:Int)=n;rw [BitVec.toNat_or,e4,e5,e6,B7 (by omega) (by omega)]
theorem Am3 {w:Int}(k:Nat)(hk:k<8):Dx w k=IntKind.wrap .u8 (w / 2 ^ (56-8*k)):=by
 unfold Dx El;have e:(56-8*(k:Int)).toNat=56-8*k:=by omega
 rw [e,Nat.min_eq_left (by show 56-8*k<=64;omega),Int.fdiv_eq_ediv_of_nonneg _ (Int.le_of_lt (Int.pow_pos (by omega)))]
theorem Zx {w:Int}(h0:0<=w)(h1:w<=18446744073709551615):Aah (Cg w)=w:=by
 have st:∀(k:Nat) (D:Int),k<8->(2:Int) ^ (56-8*k)=D->0<D->Fc (w / D / 256) (Dx w k)=w / D:=by
  intro k D hk hD hp;rw [Am3 k hk,hD];exact A6s (Int.ediv_nonneg h0 (Int.le_of_lt hp)) (Int.le_trans (Int.ediv_le_self _ h0) h1)
 have s0:=st 0 72057594037927936 (by omega) (by decide) (by omega)
 have s1:=st 1 281474976710656 (by omega) (by decide) (by omega)
 have s2:=st 2 1099511627776 (by omega) (by decide) (by omega)
 have s3:=st 3 4294967296 (by omega) (by decide) (by omega)
 have s4:=st 4 16777216 (by omega) (by decide) (by omega)
 have s5:=st 5 65536 (by omega) (by decide) (by omega)
 have s6:=st 6 256 (by omega) (by decide) (by omega)
 have s7:=st 7 1 (by omega) (by decide) (by omega)
 rw [show w / 72057594037927936 / 256=0 by omega] at s0
 rw [show w / 281474976710656 / 256=w / 72057594037927936 by omega] at s1
 rw [show w / 1099511627776 / 256=w / 281474976710656 by omega] at s2
 rw [show w / 4294967296 / 256=w / 1099511627776 by omega] at s3
 rw [show w / 16777216 / 256=w / 4294967296 by omega] at s4
 rw [show w / 65536 / 256=w / 16777216 by omega] at s5
 rw [show w / 256 / 256=w / 65536 by omega] at s6
 rw [show w / 1 / 256=w / 256 by omega,show w / 1=w by omega] at s7
 show Fc (Fc (Fc (Fc (Fc (Fc (Fc (Fc 0 (Dx w 0)) (Dx w 1)) (Dx w 2)) (Dx w 3)) (Dx w 4)) (Dx w 5)) (Dx w 6)) (Dx w 7)=w;rw [s0,s1,s2,s3,s4,s5,s6,s7]
end
section
set_option maxRecDepth 100000
abbrev Vx:FuncId:=104
noncomputable def G1 (fu:Nat)(call:Aq)(a0:Int)(nn:Nat)(y0 y1 y2:Int)(y3 y4:List PV):Option A0:=Cw C0 Tryz.prog fu call 104 Tryz.f104 (B5 Tryz.f104) [.sc (.int .u64 a0)] [.r,.r,.r,.l,.r,.l] nn ⟨lk [(0,(.sc (.int .u64 y0))),(2,(.ptr 2 0)),(3,(.ptr 3 0)),(4,(.sc (.int .i64 y1))),(6,(.sc (.int .i64 y2)))],Gf [(2,(.ar false y3)),(3,(.ar false y4))]⟩
noncomputable def S5 (fu:Nat)(call:Aq)(a0:Int)(nn:Nat)(y0 y1:List PV):Option A0:=Cw C0 Tryz.prog fu call 104 Tryz.f104 (B5 Tryz.f104) [.sc (.int .u64 a0)] [.r,.r,.r,.r,.r] nn ⟨lk [(2,(.ptr 2 0)),(3,(.ptr 3 0))],Gf [(2,(.ar false y0)),(3,(.ar false y1))]⟩
noncomputable def Tk (fu:Nat)(call:Aq)(a0:Int)(nn:Nat)(y0:List PV):Option A0:=Cw C0 Tryz.prog fu call 104 Tryz.f104 (B5 Tryz.f104) [.sc (.int .u64 a0)] [.r,.r,.r,.r,.r,.r] nn ⟨lk [(2,(.ptr 2 0))],Gf [(2,(.ar false y0))]⟩
theorem P7 (fu:Nat)(call:Aq)(a0:Int)(nn:Nat)(y0 y1 y2:Int)(y3 y4:List PV):G1 fu call a0 (nn+1) y0 y1 y2 y3 y4=(A4 (decide (y2<16)) (Aa (IntKind.wrap .i64 (4*y2)) fun x1=>Aa (IntKind.wrap .i64 (60-x1)) fun x2=>Ay (decide (0<=x2))<|Aa (El .u64 y0 x2) fun x3=>Aa (Ez .u64 x3 15) fun x4=>Aa (IntKind.wrap .i64 x4) fun x5=>Ay (decide (0<=y2)&&decide (y2<18))<|Ay (decide (0+Int.toNat y2*1+1<=List.length y4))<|Aa (Cb y4 [.sc (.int .i64 x5)] (0+Int.toNat y2*1)) fun x6=>Ay (decide (0<=y2)&&decide (y2<18))<|Af .i64 (List.getD x6 (0+Int.toNat y2*1) .top) fun x7=>Aa (IntKind.wrap .i64 (15-x7)) fun x8=>Aa (IntKind.wrap .i64 (y1+x8)) fun x9=>Aa (IntKind.wrap .i64 (y2+1)) fun Cj=>G1 fu call a0 (nn) (y0) x9 Cj (y3) x6) (Aa (IntKind.wrap .i64 (Int.tdiv y1 16)) fun Bp=>Ay (decide (17<=List.length y4))<|Aa (Cb y4 [.sc (.int .i64 Bp)] 16) fun Cz=>Aa (Int.tmod y1 16) fun C9=>Ay (decide (18<=List.length Cz))<|Aa (Cb Cz [.sc (.int .i64 C9)] 17) fun Cq=>S5 fu call a0 (fu) (y3) Cq)):=by kernel_rfl
theorem Aax (fu:Nat)(call:Aq)(a0:Int)(nn:Nat)(hnn:0<nn)(y0 y1:List PV):S5 fu call a0 nn y0 y1=(Af .i64 (List.getD y1 0 .top) fun C8=>Af .i64 (List.getD y1 1 .top) fun Dh=>Af .i64 (List.getD y1 2 .top) fun Dt=>Af .i64 (List.getD y1 3 .top) fun D6=>Af .i64 (List.getD y1 4 .top) fun D1=>Af .i64 (List.getD y1 5 .top) fun Ee=>Af .i64 (List.getD y1 6 .top) fun Fq=>Af .i64 (List.getD y1 7 .top) fun Cl=>Af .i64 (List.getD y1 8 .top) fun Fy=>Af .i64 (List.getD y1 9 .top) fun Dn=>Af .i64 (List.getD y1 10 .top) fun B3=>Af .i64 (List.getD y1 11 .top) fun Ew=>Af .i64 (List.getD y1 12 .top) fun F4=>Af .i64 (List.getD y1 13 .top) fun Bm=>Af .i64 (List.getD y1 14 .top) fun Ci=>Af .i64 (List.getD y1 15 .top) fun Gx=>Af .i64 (List.getD y1 16 .top) fun G2=>Af .i64 (List.getD y1 17 .top) fun Ib=>Ay (decide (18<=List.length y0))<|Aa (Cb y0 [.sc (.int .i64 C8),.sc (.int .i64 Dh),.sc (.int .i64 Dt),.sc (.int .i64 D6),.sc (.int .i64 D1),.sc (.int .i64 Ee),.sc (.int .i64 Fq),.sc (.int .i64 Cl),.sc (.int .i64 Fy),.sc (.int .i64 Dn),.sc (.int .i64 B3),.sc (.int .i64 Ew),.sc (.int .i64 F4),.sc (.int .i64 Bm),.sc (.int .i64 Ci),.sc (.int .i64 Gx),.sc (.int .i64 G2),.sc (.int .i64 Ib)] 0) fun Hz=>Tk fu call a0 (fu) Hz):=by cases nn with|zero=>exact absurd hnn (Nat.lt_irrefl 0)|succ nn=>kernel_rfl
theorem Aaw (fu:Nat)(call:Aq)(a0:Int)(nn:Nat)(hnn:0<nn)(y0:List PV):Tk fu call a0 nn y0=(Af .i64 (List.getD y0 0 .top) fun I4=>Af .i64 (List.getD y0 1 .top) fun G8=>Af .i64 (List.getD y0 2 .top) fun I5=>Af .i64 (List.getD y0 3 .top) fun Ls=>Af .i64 (List.getD y0 4 .top) fun F5=>Af .i64 (List.getD y0 5 .top) fun Il=>Af .i64 (List.getD y0 6 .top) fun Pc=>Af .i64 (List.getD y0 7 .top) fun Qi=>Af .i64 (List.getD y0 8 .top) fun Ke=>Af .i64 (List.getD y0 9 .top) fun Kf=>Af .i64 (List.getD y0 10 .top) fun Ph=>Af .i64 (List.getD y0 11 .top) fun Mw=>Af .i64 (List.getD y0 12 .top) fun Pi=>Af .i64 (List.getD y0 13 .top) fun Ps=>Af .i64 (List.getD y0 14 .top) fun Qx=>Af .i64 (List.getD y0 15 .top) fun Pd=>Af .i64 (List.getD y0 16 .top) fun Qk=>Af .i64 (List.getD y0 17 .top) fun Q3=>some (A0.mk [.agg [.sc (.int .i64 I4),.sc (.int .i64 G8),.sc (.int .i64 I5),.sc (.int .i64 Ls),.sc (.int .i64 F5),.sc (.int .i64 Il),.sc (.int .i64 Pc),.sc (.int .i64 Qi),.sc (.int .i64 Ke),.sc (.int .i64 Kf),.sc (.int .i64 Ph),.sc (.int .i64 Mw),.sc (.int .i64 Pi),.sc (.int .i64 Ps),.sc (.int .i64 Qx),.sc (.int .i64 Pd),.sc (.int .i64 Qk),.sc (.int .i64 Q3)]] [])):=by cases nn with|zero=>exact absurd hnn (Nat.lt_irrefl 0)|succ nn=>kernel_rfl
theorem Afp (fu d:Nat)(a0:Int):Ae C0 Tryz.prog fu (d+1) Vx [.sc (.int .u64 a0)]=(fun (call:Aq)=>G1 fu call a0 (fu) (a0) 0 0 ([.sc (.int .i64 0),.sc (.int .i64 0),.sc (.int .i64 0),.sc (.int .i64 0),.sc (.int .i64 0),.sc (.int .i64 0),.sc (.int .i64 0),.sc (.int .i64 0),.sc (.int .i64 0),.sc (.int .i64 0),.sc (.int .i64 0),.sc (.int .i64 0),.sc (.int .i64 0),.sc (.int .i64 0),.sc (.int .i64 0),.sc (.int .i64 0),.sc (.int .i64 0),.sc (.int .i64 0)]) ([.sc (.int .i64 0),.sc (.int .i64 0),.sc (.int .i64 0),.sc (.int .i64 0),.sc (.int .i64 0),.sc (.int .i64 0),.sc (.int .i64 0),.sc (.int .i64 0),.sc (.int .i64 0),.sc (.int .i64 0),.sc (.int .i64 0),.sc (.int .i64 0),.sc (.int .i64 0),.sc (.int .i64 0),.sc (.int .i64 0),.sc (.int .i64 0),.sc (.int .i64 0),.sc (.int .i64 0)])) (Ae C0 Tryz.prog fu d):=by kernel_rfl
abbrev Abn:FuncId:=105
noncomputable def Mj (fu:Nat)(call:Aq)(a0 a1:Int)(a2 a3 a4:Int)(nn:Nat)(y0 y1:Int)(y2 y3 y4:Int):Option A0:=Cw C0 Tryz.prog fu call 105 Tryz.f105 (B5 Tryz.f105) [.sc (.int .i64 a0),.sc (.int .i64 a1),.sc (.int .i64 a2),.sc (.int .i64 a3),.sc (.int .u64 a4)] [.r,.r,.l,.r,.l] nn ⟨lk [(0,(.sc (.int .i64 y0))),(1,(.sc (.int .i64 y1))),(4,(.sc (.int .u64 y2))),(11,(.sc (.int .i64 y3))),(12,(.sc (.int .i64 y4)))],Gf []⟩
theorem Vj (fu:Nat)(call:Aq)(a0 a1:Int)(a2 a3 a4:Int)(nn:Nat)(y0 y1:Int)(y2 y3 y4:Int):Mj fu call a0 a1 a2 a3 a4 (nn+1) y0 y1 y2 y3 y4=(A4 (decide (y4<y3)) (Aa (IntKind.wrap .u64 y0) fun x3=>Aa (IntKind.wrap .u64 y1) fun x4=>Aa (IntKind.wrap .u64 y4) fun x5=>Aj (call 108 [.lst false 1 4 [.sc (.int .u64 x3),.sc (.int .u64 x4),.sc (.int .u64 x5),.sc (.int .u64 y2)]]) fun x6 x7=>Ac x7<|Ab x6 fun x8 x9=>Dp 1 x8 fun Cj Bp=>Ac x9<|Ay (decide (0+Cj*1<=List.length Bp))<|Aj (call 107 [.sc (.int .i64 1),.lst false 1 Cj (List.take (Cj*1) (List.drop 0 Bp))]) fun Cz C9=>Ac C9<|Ab Cz fun Cq C8=>Af .u64 Cq fun Dh=>Ac C8<|Aa (IntKind.wrap .i64 (y4+1)) fun Dt=>Mj fu call a0 a1 a2 a3 a4 (nn) (y0) (y1) Dh (y3) Dt) (some (A0.mk [.sc (.int .u64 y2)] []))):=by kernel_rfl
theorem Al0 (fu d:Nat)(a0 a1:Int)(a2 a3 a4:Int):Ae C0 Tryz.prog fu (d+1) Abn [.sc (.int .i64 a0),.sc (.int .i64 a1),.sc (.int .i64 a2),.sc (.int .i64 a3),.sc (.int .u64 a4)]=(fun (call:Aq)=>Aa (if 15<a3 then 15 else a3) fun x1=>Aa (if a2<0 then 0 else a2) fun x2=>Mj fu call a0 a1 a2 a3 a4 (fu) (a0) (a1) (a4) x1 x2) (Ae C0 Tryz.prog fu d):=by kernel_rfl
abbrev Ts:FuncId:=106
theorem Adw (fu d:Nat)(a0 a1_0:Int)(a1_1 a1_2:Int)(a1_3 a1_4:Int)(a1_5 a1_6:Int)(a1_7 A84:Int)(A8y A6r:Int)(A6w A6c:Int)(A6u A6j:Int)(A6p A6e A6f:Int):Ae C0 Tryz.prog fu (d+1) Ts [.sc (.int .i64 a0),.agg [.sc (.int .u64 a1_0),.sc (.int .u64 a1_1),.sc (.int .u64 a1_2),.sc (.int .u64 a1_3),.sc (.int .u64 a1_4),.sc (.int .u64 a1_5),.sc (.int .u64 a1_6),.sc (.int .u64 a1_7),.sc (.int .u64 A84),.sc (.int .u64 A8y),.sc (.int .u64 A6r),.sc (.int .u64 A6w),.sc (.int .u64 A6c),.sc (.int .u64 A6u),.sc (.int .u64 A6j),.sc (.int .u64 A6p),.sc (.int .u64 A6e),.sc (.int .u64 A6f)]]=(fun (call:Aq)=>Aa (IntKind.wrap .u64 a0) fun x1=>Aj (call 108 [.lst false 1 19 [.sc (.int .u64 x1),.sc (.int .u64 a1_0),.sc (.int .u64 a1_1),.sc (.int .u64 a1_2),.sc (.int .u64 a1_3),.sc (.int .u64 a1_4),.sc (.int .u64 a1_5),.sc (.int .u64 a1_6),.sc (.int .u64 a1_7),.sc (.int .u64 A84),.sc (.int .u64 A8y),.sc (.int .u64 A6r),.sc (.int .u64 A6w),.sc (.int .u64 A6c),.sc (.int .u64 A6u),.sc (.int .u64 A6j),.sc (.int .u64 A6p),.sc (.int .u64 A6e),.sc (.int .u64 A6f)]]) fun x2 x3=>Ac x3<|Ab x2 fun x4 x5=>Dp 1 x4 fun x6 x7=>Ac x5<|Ay (decide (0+x6*1<=List.length x7))<|Aj (call 107 [.sc (.int .i64 2),.lst false 1 x6 (List.take (x6*1) (List.drop 0 x7))]) fun x8 x9=>Ac x9<|Ab x8 fun Cj Bp=>Af .u64 Cj fun Cz=>Ac Bp<|some (A0.mk [.sc (.int .u64 Cz)] [])) (Ae C0 Tryz.prog fu d):=by kernel_rfl
abbrev S8:FuncId:=84
noncomputable def Fl (fu:Nat)(call:Aq)(a0 a1:Int)(a2n:Nat)(a2:List PV)(nn:Nat)(y0:Int)(y1:Nat)(y2:List PV)(y3 y4:Int)(y5 y6:Int)(y7 y8:Int)(y9 y10:Int)(Eb Ev:Int)(Hf Ik:Int)(Iq Iv:Int)(I3 J0:Int)(Sh Ws P0:Int)(V3:List PV):Option A0:=Cw C0 Tryz.prog fu call 84 Tryz.f84 (B5 Tryz.f84) [.sc (.int .i64 a0),.sc (.int .u64 a1),.lst false 1 a2n a2] [.r,.r,.r,.l,.r,.l] nn ⟨lk [(0,(.sc (.int .i64 y0))),(2,(.lst false 1 y1 y2)),(8,(.ptr 8 0)),(15,(.agg [(.sc (.int .i64 y3)),(.sc (.int .i64 y4)),(.sc (.int .i64 y5)),(.sc (.int .i64 y6)),(.sc (.int .i64 y7)),(.sc (.int .i64 y8)),(.sc (.int .i64 y9)),(.sc (.int .i64 y10)),(.sc (.int .i64 Eb)),(.sc (.int .i64 Ev)),(.sc (.int .i64 Hf)),(.sc (.int .i64 Ik)),(.sc (.int .i64 Iq)),(.sc (.int .i64 Iv)),(.sc (.int .i64 I3)),(.sc (.int .i64 J0)),(.sc (.int .i64 Sh)),(.sc (.int .i64 Ws))])),(16,(.sc (.int .i64 P0)))],Gf [(8,(.ar false V3))]⟩
noncomputable def Rf (fu:Nat)(call:Aq)(a0 a1:Int)(a2n:Nat)(a2:List PV)(nn:Nat)(y0:Int)(y1:List PV):Option A0:=Cw C0 Tryz.prog fu call 84 Tryz.f84 (B5 Tryz.f84) [.sc (.int .i64 a0),.sc (.int .u64 a1),.lst false 1 a2n a2] [.r,.r,.r] nn ⟨lk [(0,(.sc (.int .i64 y0))),(8,(.ptr 8 0))],Gf [(8,(.ar false y1))]⟩
noncomputable def Rk (fu:Nat)(call:Aq)(a0 a1:Int)(a2n:Nat)(a2:List PV)(nn:Nat)(y0 y1:Int):Option A0:=Cw C0 Tryz.prog fu call 84 Tryz.f84 (B5 Tryz.f84) [.sc (.int .i64 a0),.sc (.int .u64 a1),.lst false 1 a2n a2] [.r,.r,.r,.r] nn ⟨lk [(6,(.sc (.int .u64 y0))),(7,(.sc (.int .i64 y1)))],Gf []⟩
theorem Oz (fu:Nat)(call:Aq)(a0 a1:Int)(a2n:Nat)(a2:List PV)(nn:Nat)(y0:Int)(y1:Nat)(y2:List PV)(y3 y4:Int)(y5 y6:Int)(y7 y8:Int)(y9 y10:Int)(Eb Ev:Int)(Hf Ik:Int)(Iq Iv:Int)(I3 J0:Int)(Sh Ws P0:Int)(V3:List PV):Fl fu call a0 a1 a2n a2 (nn+1) y0 y1 y2 y3 y4 y5 y6 y7 y8 y9 y10 Eb Ev Hf Ik Iq Iv I3 J0 Sh Ws P0 V3=(A4 (decide (P0<18)) (Ay (decide (0<=P0)&&decide (P0<18)&&true)<|Af .i64 (List.getD [.sc (.int .i64 y3),.sc (.int .i64 y4),.sc (.int .i64 y5),.sc (.int .i64 y6),.sc (.int .i64 y7),.sc (.int .i64 y8),.sc (.int .i64 y9),.sc (.int .i64 y10),.sc (.int .i64 Eb),.sc (.int .i64 Ev),.sc (.int .i64 Hf),.sc (.int .i64 Ik),.sc (.int .i64 Iq),.sc (.int .i64 Iv),.sc (.int .i64 I3),.sc (.int .i64 J0),.sc (.int .i64 Sh),.sc (.int .i64 Ws)] (Int.toNat P0*1) .top) fun S3=>Ay (decide (0<=P0)&&decide (P0<(↑y1:Int)))<|Af .u64 (List.getD y2 (Int.toNat P0*1) .top) fun Qm=>Aj (call 105 [.sc (.int .i64 y0),.sc (.int .i64 P0),.sc (.int .i64 S3),.sc (.int .i64 15),.sc (.int .u64 Qm)]) fun Tw Vs=>Ac Vs<|Ab Tw fun Sy Su=>Af .u64 Sy fun Sf=>Ac Su<|Ay (decide (0<=P0)&&decide (P0<18))<|Ay (decide (0+Int.toNat P0*1+1<=List.length V3))<|Aa (Cb V3 [.sc (.int .u64 Sf)] (0+Int.toNat P0*1)) fun Sa=>Aa (IntKind.wrap .i64 (P0+1)) fun Wo=>Fl fu call a0 a1 a2n a2 (nn) (y0) (y1) (y2) (y3) (y4) (y5) (y6) (y7) (y8) (y9) (y10) (Eb) (Ev) (Hf) (Ik) (Iq) (Iv) (I3) (J0) (Sh) (Ws) Wo Sa) (Rf fu call a0 a1 a2n a2 (fu) (y0) (V3))):=by kernel_rfl
theorem Yt (fu:Nat)(call:Aq)(a0 a1:Int)(a2n:Nat)(a2:List PV)(nn:Nat)(hnn:0<nn)(y0:Int)(y1:List PV):Rf fu call a0 a1 a2n a2 nn y0 y1=(Af .u64 (List.getD y1 0 .top) fun Tf=>Af .u64 (List.getD y1 1 .top) fun Td=>Af .u64 (List.getD y1 2 .top) fun Th=>Af .u64 (List.getD y1 3 .top) fun Vh=>Af .u64 (List.getD y1 4 .top) fun Uh=>Af .u64 (List.getD y1 5 .top) fun Tc=>Af .u64 (List.getD y1 6 .top) fun So=>Af .u64 (List.getD y1 7 .top) fun Vr=>Af .u64 (List.getD y1 8 .top) fun Uk=>Af .u64 (List.getD y1 9 .top) fun V2=>Af .u64 (List.getD y1 10 .top) fun Xu=>Af .u64 (List.getD y1 11 .top) fun Xa=>Af .u64 (List.getD y1 12 .top) fun x81=>Af .u64 (List.getD y1 13 .top) fun X3=>Af .u64 (List.getD y1 14 .top) fun X4=>Af .u64 (List.getD y1 15 .top) fun Xo=>Af .u64 (List.getD y1 16 .top) fun x85=>Af .u64 (List.getD y1 17 .top) fun x86=>Aj (call 106 [.sc (.int .i64 y0),.agg [.sc (.int .u64 Tf),.sc (.int .u64 Td),.sc (.int .u64 Th),.sc (.int .u64 Vh),.sc (.int .u64 Uh),.sc (.int .u64 Tc),.sc (.int .u64 So),.sc (.int .u64 Vr),.sc (.int .u64 Uk),.sc (.int .u64 V2),.sc (.int .u64 Xu),.sc (.int .u64 Xa),.sc (.int .u64 x81),.sc (.int .u64 X3),.sc (.int .u64 X4),.sc (.int .u64 Xo),.sc (.int .u64 x85),.sc (.int .u64 x86)]]) fun x87 Ro=>Ac Ro<|Ab x87 fun Uf Uo=>Af .u64 Uf fun x91=>Ac Uo<|Rk fu call a0 a1 a2n a2 (fu) x91 0):=by cases nn with|zero=>exact absurd hnn (Nat.lt_irrefl 0)|succ nn=>kernel_rfl
theorem X7 (fu:Nat)(call:Aq)(a0 a1:Int)(a2n:Nat)(a2:List PV)(nn:Nat)(hnn:0<nn)(y0 y1:Int):Rk fu call a0 a1 a2n a2 nn y0 y1=(some (A0.mk [.sc (.int .u64 y0),.sc (.int .i64 y1)] [])):=by cases nn with|zero=>exact absurd hnn (Nat.lt_irrefl 0)|succ nn=>kernel_rfl
theorem Add (fu d:Nat)(a0 a1:Int)(a2n:Nat)(a2:List PV):Ae C0 Tryz.prog fu (d+1) S8 [.sc (.int .i64 a0),.sc (.int .u64 a1),.lst false 1 a2n a2]=(fun (call:Aq)=>A4 ((↑a2n:Int) != 18) (some (A0.mk [.sc (.int .u64 0),.sc (.int .i64 4)] [])) (Aj (call 104 [.sc (.int .u64 a1)]) fun x1 x2=>Ac x2<|Ab x1 fun x3 x4=>C3 x3 fun x5=>Ab x5 fun x6 x7=>Af .i64 x6 fun x8=>Ab x7 fun x9 Cj=>Af .i64 x9 fun Bp=>Ab Cj fun Cz C9=>Af .i64 Cz fun Cq=>Ab C9 fun C8 Dh=>Af .i64 C8 fun Dt=>Ab Dh fun D6 D1=>Af .i64 D6 fun Ee=>Ab D1 fun Fq Cl=>Af .i64 Fq fun Fy=>Ab Cl fun Dn B3=>Af .i64 Dn fun Ew=>Ab B3 fun F4 Bm=>Af .i64 F4 fun Ci=>Ab Bm fun Gx G2=>Af .i64 Gx fun Ib=>Ab G2 fun Hz I4=>Af .i64 Hz fun G8=>Ab I4 fun I5 Ls=>Af .i64 I5 fun F5=>Ab Ls fun Il Pc=>Af .i64 Il fun Qi=>Ab Pc fun Ke Kf=>Af .i64 Ke fun Ph=>Ab Kf fun Mw Pi=>Af .i64 Mw fun Ps=>Ab Pi fun Qx Pd=>Af .i64 Qx fun Qk=>Ab Pd fun Q3 Q4=>Af .i64 Q3 fun Kx=>Ab Q4 fun Sk Qw=>Af .i64 Sk fun Sx=>Ab Qw fun Ow Qu=>Af .i64 Ow fun R5=>Ac Qu<|Ac x4<|Fl fu call a0 a1 a2n a2 (fu) (a0) (a2n) (a2) x8 Bp Cq Dt Ee Fy Ew Ci Ib G8 F5 Qi Ph Ps Qk Kx Sx R5 0 ([.sc (.int .u64 0),.sc (.int .u64 0),.sc (.int .u64 0),.sc (.int .u64 0),.sc (.int .u64 0),.sc (.int .u64 0),.sc (.int .u64 0),.sc (.int .u64 0),.sc (.int .u64 0),.sc (.int .u64 0),.sc (.int .u64 0),.sc (.int .u64 0),.sc (.int .u64 0),.sc (.int .u64 0),.sc (.int .u64 0),.sc (.int .u64 0),.sc (.int .u64 0),.sc (.int .u64 0)]))) (Ae C0 Tryz.prog fu d):=by kernel_rfl
abbrev Y0:FuncId:=81
theorem Ajl (fu d:Nat)(a0:Int):Ae C0 Tryz.prog fu (d+1) Y0 [.sc (.int .i64 a0)]=(fun (call:Aq)=>A4 (decide (a0<0)) (some (A0.mk [.sc (.bool true)] [])) (some (A0.mk [.sc (.bool (decide (a0>4)))] []))) (Ae C0 Tryz.prog fu d):=by kernel_rfl
abbrev Tm:FuncId:=82
theorem Ae5 (fu d:Nat)(a0 a1:Int):Ae C0 Tryz.prog fu (d+1) Tm [.sc (.int .i64 a0),.sc (.int .i64 a1)]=(fun (call:Aq)=>A4 (decide (a0<0)) (some (A0.mk [.sc (.bool true)] [])) (Ay (decide (0<=a1))<|Aa (Fk .i64 1 a1) fun x1=>some (A0.mk [.sc (.bool (decide (a0>=x1)))] []))) (Ae C0 Tryz.prog fu d):=by kernel_rfl
abbrev W6:FuncId:=83
noncomputable def Hn (fu:Nat)(call:Aq)(a0n:Nat)(a0:List PV)(nn y0:Nat)(y1:List PV)(y2:Nat)(y3 y4:Int)(y5:List PV):Option A0:=Cw C0 Tryz.prog fu call 83 Tryz.f83 (B5 Tryz.f83) [.lst false 1 a0n a0] [.r,.r,.l,.r,.l] nn ⟨lk [(0,(.lst false 1 y0 y1)),(3,(.view 3 1 0 y2)),(12,(.sc (.int .i64 y3))),(13,(.sc (.int .i64 y4)))],Gf [(3,(.ar false y5))]⟩
noncomputable def Jh (fu:Nat)(call:Aq)(a0n:Nat)(a0:List PV)(m0 nn y0:Nat)(y1:List PV)(y2:Nat)(y3 y4 y5:Int)(y6:Nat)(y7:List PV)(y8 y9:Int)(y10:List PV):Option A0:=Cw C0 Tryz.prog fu call 83 Tryz.f83 (B5 Tryz.f83) [.lst false 1 a0n a0] [.r,.r,.l,.r,.l,.i m0,.r,.r,.l,.l,.r,.r,.l] nn ⟨lk [(0,(.lst false 1 y0 y1)),(3,(.view 3 1 0 y2)),(4,(.sc (.int .i64 y3))),(12,(.sc (.int .i64 y4))),(13,(.sc (.int .i64 y5))),(22,(.lst false 1 y6 y7)),(23,(.sc (.int .i64 y8))),(24,(.sc (.int .i64 y9)))],Gf [(3,(.ar false y10))]⟩
theorem Rz (fu:Nat)(call:Aq)(a0n:Nat)(a0:List PV)(nn y0:Nat)(y1:List PV)(y2:Nat)(y3 y4:Int)(y5:List PV):Hn fu call a0n a0 (nn+1) y0 y1 y2 y3 y4 y5=(A4 (decide (y4<y3)) (Aa (IntKind.wrap .i64 (8*y4)) fun x2=>Aa (IntKind.wrap .i64 (8*y4)) fun x3=>Aa (IntKind.wrap .i64 (x3+8)) fun x4=>Ay (decide (0<=x2))<|Ay (decide (0<=x4))<|Ay (decide (Int.toNat x2<=Int.toNat x4)&&decide (Int.toNat x4<=y0))<|Aa (Int.toNat x4-Int.toNat x2) fun x5=>Aa (List.take (x5*1) (List.drop (Int.toNat x2*1) y1)) fun x6=>Jh fu call a0n a0 nn (fu) (y0) (y1) (y2) (y4) (y3) (y4) x5 x6 ((↑x5:Int)) 0 (y5)) (Ay (decide (y2*1<=List.length y5))<|some (A0.mk [.own 1 y2 (List.take (y2*1) y5)] []))):=by kernel_rfl
theorem Q6 (fu:Nat)(call:Aq)(a0n:Nat)(a0:List PV)(m0 nn y0:Nat)(y1:List PV)(y2:Nat)(y3 y4 y5:Int)(y6:Nat)(y7:List PV)(y8 y9:Int)(y10:List PV):Jh fu call a0n a0 m0 (nn+1) y0 y1 y2 y3 y4 y5 y6 y7 y8 y9 y10=(A4 (decide (y9<y8)) (Ay (decide (0<=y9)&&decide (y9<(↑y6:Int)))<|Af .u8 (List.getD y7 (Int.toNat y9*1) .top) fun x7=>Ay (decide (0<=y3)&&decide (y3<(↑y2:Int)))<|Af .u64 (List.getD y10 (0+Int.toNat y3*1) .top) fun x8=>Aa (Fk .u64 x8 8) fun x9=>Aa (IntKind.wrap .u64 x7) fun Cj=>Aa (Xz .u64 x9 Cj) fun Bp=>Ay (decide (0<=y3)&&decide (y3<(↑y2:Int)))<|Ay (decide (0+Int.toNat y3*1+1<=List.length y10))<|Aa (Cb y10 [.sc (.int .u64 Bp)] (0+Int.toNat y3*1)) fun Cz=>Aa (IntKind.wrap .i64 (y9+1)) fun C9=>Jh fu call a0n a0 m0 (nn) (y0) (y1) (y2) (y3) (y4) (y5) (y6) (y7) (y8) C9 Cz) (Aa (IntKind.wrap .i64 (y5+1)) fun Cq=>Hn fu call a0n a0 (m0) (y0) (y1) (y2) (y4) Cq (y10))):=by kernel_rfl
theorem Aid (fu d a0n:Nat)(a0:List PV):Ae C0 Tryz.prog fu (d+1) W6 [.lst false 1 a0n a0]=(fun (call:Aq)=>Aa (IntKind.wrap .i64 (Int.tdiv (↑a0n:Int) 8)) fun x1=>Ay (decide (0<=x1)&&decide (x1<=x1)&&decide (x1*8<=1099511627776)&&decide (x1<=1099511627776))<|Hn fu call a0n a0 (fu) (a0n) (a0) (Int.toNat x1) ((↑(Int.toNat x1):Int)) 0 (Xj (Int.toNat x1) [.sc (.int .u64 0)])) (Ae C0 Tryz.prog fu d):=by kernel_rfl
abbrev Uy:FuncId:=85
theorem Afs (fu d:Nat)(a0 a1 a2:Int):Ae C0 Tryz.prog fu (d+1) Uy [.sc (.int .i64 a0),.sc (.int .u64 a1),.sc (.int .u64 a2)]=(fun (call:Aq)=>Aa (IntKind.wrap .u64 a0) fun x1=>Aj (call 108 [.lst false 1 3 [.sc (.int .u64 x1),.sc (.int .u64 a1),.sc (.int .u64 a2)]]) fun x2 x3=>Ac x3<|Ab x2 fun x4 x5=>Dp 1 x4 fun x6 x7=>Ac x5<|Ay (decide (0+x6*1<=List.length x7))<|Aj (call 107 [.sc (.int .i64 3),.lst false 1 x6 (List.take (x6*1) (List.drop 0 x7))]) fun x8 x9=>Ac x9<|Ab x8 fun Cj Bp=>Af .u64 Cj fun Cz=>Ac Bp<|some (A0.mk [.sc (.int .u64 Cz)] [])) (Ae C0 Tryz.prog fu d):=by kernel_rfl
abbrev Po:FuncId:=123
theorem Aao (fu d:Nat)(a0_0 a0_1:Int):Ae C0 Tryz.prog fu (d+1) Po [.agg [.sc (.int .i64 a0_0),.sc (.int .u64 a0_1)]]=(fun (call:Aq)=>Aj (call 81 [.sc (.int .i64 a0_0)]) fun x1 x2=>Ac x2<|Ab x1 fun x3 x4=>Bw x3 fun x5=>Ac x4<|A4 x5 (some (A0.mk [.own 1 0 [],.sc (.int .i64 9)] [])) (Aa (IntKind.wrap .u8 a0_0) fun x6=>Aj (call 108 [.lst false 1 1 [.sc (.int .u64 a0_1)]]) fun x7 x8=>Ac x8<|Ab x7 fun x9 Cj=>Dp 1 x9 fun Bp Cz=>Ac Cj<|Ay (decide (0+Bp*1<=List.length Cz))<|Ay (decide (List.length (List.take (Bp*1) (List.drop 0 Cz))=Bp*1)&&decide ((1+Bp)*1<=1099511627776)&&decide (1+Bp<=1099511627776))<|Aa (1+Bp) fun C9=>Aa ([.sc (.int .u8 x6)]++List.take (Bp*1) (List.drop 0 Cz)) fun Cq=>Ay (decide (C9*1<=List.length Cq))<|some (A0.mk [.own 1 C9 (List.take (C9*1) Cq),.sc (.int .i64 0)] []))) (Ae C0 Tryz.prog fu d):=by kernel_rfl
abbrev Qf:FuncId:=88
theorem Aa7 (fu d a0n:Nat)(a0:List PV):Ae C0 Tryz.prog fu (d+1) Qf [.lst false 1 a0n a0]=(fun (call:Aq)=>A4 ((↑a0n:Int) != 9) (some (A0.mk [.agg [.sc (.int .i64 0),.sc (.int .u64 0)],.sc (.int .i64 2)] [])) (Ay (decide (0<(↑a0n:Int)))<|Af .u8 (List.getD a0 0 .top) fun x1=>Aa (IntKind.wrap .i64 x1) fun x2=>Aj (call 81 [.sc (.int .i64 x2)]) fun x3 x4=>Ac x4<|Ab x3 fun x5 x6=>Bw x5 fun x7=>Ac x6<|A4 x7 (some (A0.mk [.agg [.sc (.int .i64 0),.sc (.int .u64 0)],.sc (.int .i64 2)] [])) (Ay (decide (0<(↑a0n:Int)))<|Af .u8 (List.getD a0 0 .top) fun x8=>Aa (IntKind.wrap .i64 x8) fun x9=>Ay (decide (1<=a0n)&&decide (a0n<=a0n))<|Aa (a0n-1) fun Cj=>Aa (List.take (Cj*1) (List.drop 1 a0)) fun Bp=>Aj (call 83 [.lst false 1 Cj Bp]) fun Cz C9=>Ac C9<|Ab Cz fun Cq C8=>Dp 1 Cq fun Dh Dt=>Ac C8<|Ay (decide (0<(↑Dh:Int)))<|Af .u64 (List.getD Dt 0 .top) fun D6=>some (A0.mk [.agg [.sc (.int .i64 x9),.sc (.int .u64 D6)],.sc (.int .i64 0)] [])))) (Ae C0 Tryz.prog fu d):=by kernel_rfl
abbrev Jo:FuncId:=112
theorem Sl (fu d:Nat)(a0_0:Int)(Xb:Nat)(a0_1:List PV)(a0_2n:Nat)(a0_2:List PV):Ae C0 Tryz.prog fu (d+1) Jo [.agg [.sc (.int .i64 a0_0),.lst false 1 Xb a0_1,.lst false 1 a0_2n a0_2]]=(fun (call:Aq)=>Aj (call 81 [.sc (.int .i64 (↑a0_2n:Int))]) fun x1 x2=>Ac x2<|Ab x1 fun x3 x4=>Bw x3 fun x5=>Ac x4<|A4 x5 (some (A0.mk [.own 1 0 [],.sc (.int .i64 9)] [])) (Aj (call 82 [.sc (.int .i64 a0_0),.sc (.int .i64 (↑a0_2n:Int))]) fun x6 x7=>Ac x7<|Ab x6 fun x8 x9=>Bw x8 fun Cj=>Ac x9<|A4 Cj (some (A0.mk [.own 1 0 [],.sc (.int .i64 9)] [])) (A4 ((↑Xb:Int) != 18) (some (A0.mk [.own 1 0 [],.sc (.int .i64 4)] [])) (Aa (IntKind.wrap .u8 a0_0) fun Bp=>Aa (IntKind.wrap .u8 (↑a0_2n:Int)) fun Cz=>Aj (call 108 [.lst false 1 Xb a0_1]) fun C9 Cq=>Ac Cq<|Ab C9 fun C8 Dh=>Dp 1 C8 fun Dt D6=>Ac Dh<|Ay (decide (0+Dt*1<=List.length D6))<|Ay (decide (List.length (List.take (Dt*1) (List.drop 0 D6))=Dt*1)&&decide ((2+Dt)*1<=1099511627776)&&decide (2+Dt<=1099511627776))<|Aa (2+Dt) fun D1=>Aa ([.sc (.int .u8 Bp),.sc (.int .u8 Cz)]++List.take (Dt*1) (List.drop 0 D6)) fun Ee=>Aj (call 108 [.lst false 1 a0_2n a0_2]) fun Fq Cl=>Ac Cl<|Ab Fq fun Fy Dn=>Dp 1 Fy fun B3 Ew=>Ac Dn<|Ay (decide (0+B3*1<=List.length Ew))<|Ay (decide (D1*1<=List.length Ee)&&decide (List.length (List.take (B3*1) (List.drop 0 Ew))=B3*1)&&decide ((D1+B3)*1<=1099511627776)&&decide (D1+B3<=1099511627776))<|Aa (D1+B3) fun F4=>Aa (List.take (D1*1) Ee++List.take (B3*1) (List.drop 0 Ew)) fun Bm=>Ay (decide (F4*1<=List.length Bm))<|some (A0.mk [.own 1 F4 (List.take (F4*1) Bm),.sc (.int .i64 0)] []))))) (Ae C0 Tryz.prog fu d):=by kernel_rfl
abbrev Ju:FuncId:=55
theorem Ss (fu d a0n:Nat)(a0:List PV):Ae C0 Tryz.prog fu (d+1) Ju [.lst false 1 a0n a0]=(fun (call:Aq)=>A4 (decide ((↑a0n:Int)<2)) (some (A0.mk [.agg [.sc (.int .i64 0),.own 1 0 [],.own 1 0 []],.sc (.int .i64 2)] [])) (Ay (decide (0<(↑a0n:Int)))<|Af .u8 (List.getD a0 0 .top) fun x1=>Aa (IntKind.wrap .i64 x1) fun x2=>Ay (decide (1<(↑a0n:Int)))<|Af .u8 (List.getD a0 1 .top) fun x3=>Aa (IntKind.wrap .i64 x3) fun x4=>Aj (call 81 [.sc (.int .i64 x4)]) fun x5 x6=>Ac x6<|Ab x5 fun x7 x8=>Bw x7 fun x9=>Ac x8<|A4 x9 (some (A0.mk [.agg [.sc (.int .i64 0),.own 1 0 [],.own 1 0 []],.sc (.int .i64 2)] [])) (Aj (call 82 [.sc (.int .i64 x2),.sc (.int .i64 x4)]) fun Cj Bp=>Ac Bp<|Ab Cj fun Cz C9=>Bw Cz fun Cq=>Ac C9<|A4 Cq (some (A0.mk [.agg [.sc (.int .i64 0),.own 1 0 [],.own 1 0 []],.sc (.int .i64 2)] [])) (Aa (IntKind.wrap .i64 (18+x4)) fun C8=>Aa (IntKind.wrap .i64 (8*C8)) fun Dh=>Aa (IntKind.wrap .i64 (2+Dh)) fun Dt=>A4 ((↑a0n:Int) != Dt) (some (A0.mk [.agg [.sc (.int .i64 0),.own 1 0 [],.own 1 0 []],.sc (.int .i64 2)] [])) (Ay (decide (146<=a0n))<|Aa (List.take 144 (List.drop 2 a0)) fun D6=>Aj (call 83 [.lst false 1 144 D6]) fun D1 Ee=>Ac Ee<|Ab D1 fun Fq Cl=>Dp 1 Fq fun Fy Dn=>Ac Cl<|Ay (decide (146<=a0n)&&decide (a0n<=a0n))<|Aa (a0n-146) fun B3=>Aa (List.take (B3*1) (List.drop 146 a0)) fun Ew=>Aj (call 83 [.lst false 1 B3 Ew]) fun F4 Bm=>Ac Bm<|Ab F4 fun Ci Gx=>Dp 1 Ci fun G2 Ib=>Ac Gx<|Ay (decide (Fy*1<=List.length Dn))<|Ay (decide (G2*1<=List.length Ib))<|some (A0.mk [.agg [.sc (.int .i64 x2),.own 1 Fy (List.take (Fy*1) Dn),.own 1 G2 (List.take (G2*1) Ib)],.sc (.int .i64 0)] [])))))) (Ae C0 Tryz.prog fu d):=by kernel_rfl
abbrev Va:FuncId:=56
noncomputable def Gs (fu:Nat)(call:Aq)(a0_0 a0_1:Int)(a1 Ql:Int)(Jg:Nat)(Tv:List PV)(I8:Nat)(V1:List PV)(nn:Nat)(y0:Int)(y1:Nat)(y2:List PV)(y3 y4:Int)(y5 y6 y7:Int)(y8:Nat)(y9:List PV)(y10:Nat)(Eb:List PV):Option A0:=Cw C0 Tryz.prog fu call 56 Tryz.f56 (B5 Tryz.f56) [.agg [.sc (.int .i64 a0_0),.sc (.int .u64 a0_1)],.sc (.int .u64 a1),.agg [.sc (.int .i64 Ql),.lst false 1 Jg Tv,.lst false 1 I8 V1]] [.r,.r,.r,.r,.r,.l,.r,.l] nn ⟨lk [(3,(.ptr 3 0)),(5,(.ptr 5 0)),(7,(.sc (.int .u64 y0))),(46,(.lst false 1 y1 y2)),(47,(.sc (.int .i64 y3))),(48,(.sc (.int .i64 y4)))],Gf [(3,(.st [(.sc (.int .i64 y5)),(.sc (.int .u64 y6))])),(5,(.st [(.sc (.int .i64 y7)),(.lst false 1 y8 y9),(.lst false 1 y10 Eb)]))]⟩
theorem Pw (fu:Nat)(call:Aq)(a0_0 a0_1:Int)(a1 Ql:Int)(Jg:Nat)(Tv:List PV)(I8:Nat)(V1:List PV)(nn:Nat)(y0:Int)(y1:Nat)(y2:List PV)(y3 y4:Int)(y5 y6 y7:Int)(y8:Nat)(y9:List PV)(y10:Nat)(Eb:List PV):Gs fu call a0_0 a0_1 a1 Ql Jg Tv I8 V1 (nn+1) y0 y1 y2 y3 y4 y5 y6 y7 y8 y9 y10 Eb=(A4 (decide (y4<y3)) (Ay (decide (0<=y4)&&decide (y4<(↑y1:Int)))<|Af .u64 (List.getD y2 (Int.toNat y4*1) .top) fun D1=>Ay (decide (0<=y4))<|Aa (El .i64 y7 y4) fun Ee=>Aa (Ez .i64 Ee 1) fun Fq=>A4 (Fq==0) (Aa (IntKind.wrap .i64 (y4+1)) fun Cl=>Aj (call 85 [.sc (.int .i64 Cl),.sc (.int .u64 y0),.sc (.int .u64 D1)]) fun Fy Dn=>Ac Dn<|Ab Fy fun B3 Ew=>Af .u64 B3 fun F4=>Ac Ew<|Aa (IntKind.wrap .i64 (y4+1)) fun Bm=>Gs fu call a0_0 a0_1 a1 Ql Jg Tv I8 V1 (nn) F4 (y1) (y2) (y3) Bm (y5) (y6) (y7) (y8) (y9) (y10) (Eb)) (Aa (IntKind.wrap .i64 (y4+1)) fun Ci=>Aj (call 85 [.sc (.int .i64 Ci),.sc (.int .u64 D1),.sc (.int .u64 y0)]) fun Gx G2=>Ac G2<|Ab Gx fun Ib Hz=>Af .u64 Ib fun I4=>Ac Hz<|Aa (IntKind.wrap .i64 (y4+1)) fun G8=>Gs fu call a0_0 a0_1 a1 Ql Jg Tv I8 V1 (nn) I4 (y1) (y2) (y3) G8 (y5) (y6) (y7) (y8) (y9) (y10) (Eb))) (A4 (y0 != y6) (some (A0.mk [.sc (.int .i64 15)] [])) (some (A0.mk [.sc (.int .i64 0)] [])))):=by kernel_rfl
theorem Afz (fu d:Nat)(a0_0 a0_1:Int)(a1 Ql:Int)(Jg:Nat)(Tv:List PV)(I8:Nat)(V1:List PV):Ae C0 Tryz.prog fu (d+1) Va [.agg [.sc (.int .i64 a0_0),.sc (.int .u64 a0_1)],.sc (.int .u64 a1),.agg [.sc (.int .i64 Ql),.lst false 1 Jg Tv,.lst false 1 I8 V1]]=(fun (call:Aq)=>Aj (call 81 [.sc (.int .i64 a0_0)]) fun x1 x2=>Ac x2<|Ab x1 fun x3 x4=>Bw x3 fun x5=>Ac x4<|A4 x5 (some (A0.mk [.sc (.int .i64 9)] [])) (Aj (call 82 [.sc (.int .i64 Ql),.sc (.int .i64 a0_0)]) fun x6 x7=>Ac x7<|Ab x6 fun x8 x9=>Bw x8 fun Cj=>Ac x9<|A4 Cj (some (A0.mk [.sc (.int .i64 9)] [])) (A4 ((↑Jg:Int) != 18) (some (A0.mk [.sc (.int .i64 4)] [])) (A4 ((↑I8:Int) != a0_0) (some (A0.mk [.sc (.int .i64 4)] [])) (Aj (call 84 [.sc (.int .i64 Ql),.sc (.int .u64 a1),.lst false 1 Jg Tv]) fun Bp Cz=>Ac Cz<|Ab Bp fun C9 Cq=>Af .u64 C9 fun C8=>Ab Cq fun Dh Dt=>Af .i64 Dh fun D6=>Ac Dt<|A4 (D6 != 0) (some (A0.mk [.sc (.int .i64 D6)] [])) (Gs fu call a0_0 a0_1 a1 Ql Jg Tv I8 V1 (fu) C8 (I8) (V1) ((↑I8:Int)) 0 (a0_0) (a0_1) (Ql) (Jg) (Tv) (I8) (V1))))))) (Ae C0 Tryz.prog fu d):=by kernel_rfl
end
section
theorem A0o {a m:Int}(h0:0<=m)(h1:m<=18446744073709551615):0<=Ez .u64 a m∧Ez .u64 a m<=m:=by
 have hle:(BitVec.ofInt 64 a &&& BitVec.ofInt 64 m).toNat<=m.toNat:=by
  rw [BitVec.toNat_and];refine Nat.le_trans Nat.and_le_right ?_;rw [BitVec.toNat_ofInt];omega
 have:Ez .u64 a m=((BitVec.ofInt 64 a &&& BitVec.ofInt 64 m).toNat:Int):=by
  unfold Ez;exact B7 (by omega) (by show ((BitVec.ofInt 64 a &&& BitVec.ofInt 64 m).toNat:Int)<=_;omega)
 rw [this];omega
theorem Y9 (k:IntKind)(l:List Int)(i:Nat)(x:Int):(Ai k l).set i (.sc (.int k x))=Ai k (l.set i x):=by
 induction l generalizing i with
 |nil=>rfl
 |cons a l ih=>
  cases i with
  |zero=>rfl
  |succ i=>
   show (PV.sc (.int k a)::Ai k l).set (i+1) _=PV.sc (.int k a)::Ai k (l.set i x);rw [List.set_cons_succ,ih]
theorem Ari (w:Int)(k:Nat):0<=Dx w k∧Dx w k<=255:=by
 unfold Dx;simp only [IntKind.wrap,IntKind.signed,IntKind.bits];simp;omega
theorem Aad (w:Int):Gn (Cg w):=by
 intro x hx;obtain ⟨k,_,rfl⟩:=List.mem_map.1 hx;exact Ari w k
theorem Vc (ws:List Int):Gn (A7 ws):=by
 intro x hx;obtain ⟨w,_,hx⟩:=List.mem_flatMap.1 hx;exact Aad w x hx
theorem Db (ws:List Int):(A7 ws).length=8*ws.length:=by
 induction ws with
 |nil=>rfl
 |cons w ws ih=>
  show (Cg w++A7 ws).length=_;rw [Ic,ih,Cy,H0];omega
def G9 (m:Int)(k:Nat):Int:=IntKind.wrap .i64 (Ez .u64 (El .u64 m (60-4*(k:Int))) 15)
theorem Tb (m:Int)(k:Nat):0<=G9 m k∧G9 m k<=15:=by
 have:=A0o (a:=El .u64 m (60-4*(k:Int))) (m:=15) (by omega) (by omega)
 unfold G9;rw [Au (by omega) (by omega)]
 exact this
def Km (m:Int):Nat->Int
 |0=>0
 |k+1=>Km m k+(15-G9 m k)
theorem Ll (m:Int):∀k,0<=Km m k∧Km m k<=15*k
 |0=>by simp [Km]
 |k+1=>by
  have h1:=Ll m k;have h2:=Tb m k;simp only [Km];omega
def dgs (m:Int):List Int:=(List.range 16).map (G9 m)++[Km m 16 / 16,Km m 16 % 16]
def dg (m:Int)(k:Nat):Int:=(dgs m).getD k 0
theorem Awo (m:Int):(dgs m).length=18:=rfl
theorem A5r {m x:Int}(h:x∈dgs m):0<=x∧x<=15:=by
 have hs:=Ll m 16;unfold dgs at h;rcases List.mem_append.1 h with h|h
 ·obtain ⟨k,_,rfl⟩:=List.mem_map.1 h;exact Tb m k
 ·simp at h;rcases h with rfl|rfl<;>omega
theorem Aaa (m:Int)(k:Nat):0<=dg m k∧dg m k<=15:=by
 unfold dg;rw [List.getD_eq_getElem?_getD];cases h:(dgs m)[k]? with
 |none=>simp
 |some x=>exact A5r (List.mem_of_getElem? h)
def dl (m:Int)(i:Nat):List Int:=(List.range i).map (G9 m)++List.replicate (18-i) 0
theorem Ave (m:Int){i:Nat}(h:i<=18):(dl m i).length=18:=by simp [dl];omega
theorem A8u (m:Int){i:Nat}(h:i<18):(dl m (i+1))[i]?=some (G9 m i):=by
 unfold dl;rw [List.getElem?_append_left (by simp)]
 simp
theorem A67 (m:Int){i:Nat}(h:i<18):(dl m i).set i (G9 m i)=dl m (i+1):=by
 unfold dl;rw [List.set_append_right _ _ (by simp),List.length_map,List.length_range,Nat.sub_self,show 18-i=(18-(i+1))+1 by omega,List.replicate_succ,List.set_cons_zero,List.range_succ,List.map_append,Zzv]
 rfl
def Vv (leaf chain:Int):Nat->Int->Int->Int
 |0,_,x=>x
 |k+1,p,x=>Vv leaf chain k (p+1) (Et 1 (A7 [IntKind.wrap .u64 leaf,IntKind.wrap .u64 chain,IntKind.wrap .u64 p,x]))
theorem Asy (leaf chain:Int):∀(k j:Nat)(p x:Int),Vv leaf chain (k+j) p x=Vv leaf chain j (p+k) (Vv leaf chain k p x)
 |0,j,p,x=>by simp [Vv]
 |k+1,j,p,x=>by
  rw [show k+1+j=(k+j)+1 by omega]
  simp only [Vv];rw [Asy leaf chain k j]
  congr 1
  omega
def Ahv (leaf:Int)(E:List Int):Int:=Et 2 (A7 (IntKind.wrap .u64 leaf::E))
def Aaq (leaf m:Int)(s:List Int)(k:Nat):Int:=Vv leaf k (15-dg m k).toNat (dg m k) (s.getD k 0)
def Alk (leaf m:Int)(s:List Int):List Int:=(List.range 18).map (Aaq leaf m s)
def Aly (leaf m:Int)(s:List Int):Int:=Ahv leaf (Alk leaf m s)
def el (leaf m:Int)(s:List Int)(i:Nat):List Int:=(List.range i).map (Aaq leaf m s)++List.replicate (18-i) 0
theorem A0w (leaf m:Int)(s:List Int){i:Nat}(h:i<=18):(el leaf m s i).length=18:=by simp [el];omega
theorem A7e (leaf m:Int)(s:List Int){i:Nat}(h:i<18):(el leaf m s i).set i (Aaq leaf m s i)=el leaf m s (i+1):=by
 unfold el;rw [List.set_append_right _ _ (by simp),List.length_map,List.length_range,Nat.sub_self,show 18-i=(18-(i+1))+1 by omega,List.replicate_succ,List.set_cons_zero,List.range_succ,List.map_append,Zzv]
 rfl
theorem A8t (leaf m:Int)(s:List Int):el leaf m s 18=Alk leaf m s:=by
 unfold el Alk;simp
end
section
set_option maxRecDepth 20000
section
variable {fu d:Nat}
theorem A2i {ws:List Int}(hl:ws.length<=100)(hfu:1000<=fu)(dom:Int):Ae C0 Tryz.prog fu (d+5) Ua [.sc (.int .i64 dom),.lst false 1 (A7 ws).length (Ai .u8 (A7 ws))]=some ⟨[.sc (.int .u64 (Et dom (A7 ws)))],[]⟩:=
 Axg (Vc ws) (by rw [Db];omega) (by omega) (by rw [Db];omega) dom
theorem Asw {leaf chain:Int}{a0 a1 a2 a3 a4:Int}(hfu:1000<=fu){t:Int}(ht:t<=15):∀(k nn:Nat)(p x:Int),(k:Int)=t-p->0<=p->k<nn ->
  Mj fu (Ae C0 Tryz.prog fu (d+5)) a0 a1 a2 a3 a4 nn leaf chain x t p=some ⟨[.sc (.int .u64 (Vv leaf chain k p x))],[]⟩
 |_,0,_,_,_,_,h=>by omega
 |0,nn+1,p,x,hk,hp,hn=>by
  rw [Vj,Dj _ _ _ (by omega)]
  rfl
 |k+1,nn+1,p,x,hk,hp,hn=>by
  have w:IntKind.wrap .i64 (p+1)=p+1:=Au (by omega) (by omega)
  have wd:Ae C0 Tryz.prog fu (d+5) Ht [.lst false 1 4 [.sc (.int .u64 (IntKind.wrap .u64 leaf)),.sc (.int .u64 (IntKind.wrap .u64 chain)),.sc (.int .u64 (IntKind.wrap .u64 p)),.sc (.int .u64 x)]]=_:=Vz (ws:=[IntKind.wrap .u64 leaf,IntKind.wrap .u64 chain,IntKind.wrap .u64 p,x]) (by simp) (by omega) (by simp;omega)
  have hs:=A2i (fu:=fu) (d:=d) (ws:=[IntKind.wrap .u64 leaf,IntKind.wrap .u64 chain,IntKind.wrap .u64 p,x]) (by simp) hfu 1
  have ih:=Asw (leaf:=leaf) (chain:=chain) (a0:=a0) (a1:=a1) (a2:=a2) (a3:=a3) (a4:=a4) hfu ht k nn (p+1) (Et 1 (A7 [IntKind.wrap .u64 leaf,IntKind.wrap .u64 chain,IntKind.wrap .u64 p,x])) (by omega) (by omega) (by omega)
  have L:=As .u8 (A7 [IntKind.wrap .u64 leaf,IntKind.wrap .u64 chain,IntKind.wrap .u64 p,x]);have eR:Vv leaf chain (k+1) p x=Vv leaf chain k (p+1) (Et 1 (A7 [IntKind.wrap .u64 leaf,IntKind.wrap .u64 chain,IntKind.wrap .u64 p,x])):=rfl;rw [eR];generalize A7 [IntKind.wrap .u64 leaf,IntKind.wrap .u64 chain,IntKind.wrap .u64 p,x]=W at wd hs ih L ⊢;rw [Vj];simp (disch:=omega) only [B6,wd,Bl,B4,Cm,G4,L,hs,w];exact ih
theorem A7i {leaf chain:Int}(hfu:1000<=fu)(k:Nat)(f t x:Int)(hk:(k:Int)=t-f) (h0:0<=f)(h1:t<=15):Ae C0 Tryz.prog fu (d+6) Abn [.sc (.int .i64 leaf),.sc (.int .i64 chain),.sc (.int .i64 f),.sc (.int .i64 t),.sc (.int .u64 x)]=some ⟨[.sc (.int .u64 (Vv leaf chain k f x))],[]⟩:=by
 rw [Al0];simp only [Hw];rw [A3 (by omega),A3 (by omega)]
 exact Asw hfu h1 k fu f x hk h0 (by omega)
theorem Ahe {call:Aq}{a0 m:Int}{y3:List PV}:∀(k i nn:Nat),i+k=16->k<nn ->
  G1 fu call a0 nn m (Km m i) i y3 (Ai .i64 (dl m i))=G1 fu call a0 (nn-k) m (Km m 16) 16 y3 (Ai .i64 (dl m 16))
 |_,_,0,_,h=>by omega
 |0,i,nn+1,hi,hn=>by
  have e:i=16:=by omega
  subst e;rfl
 |k+1,i,nn+1,hi,hn=>by
  have ih:=Ahe (call:=call) (a0:=a0) (y3:=y3) (m:=m) k (i+1) nn (by omega) (by omega)
  have hb:=Tb m i;have hs:=Ll m i;have w:IntKind.wrap .i64 ((i:Int)+1)=((i+1:Nat):Int):=by rw [Au (by omega) (by omega)];omega
  have w4:IntKind.wrap .i64 (4*(i:Int))=4*(i:Int):=Au (by omega) (by omega)
  have w60:IntKind.wrap .i64 (60-4*(i:Int))=60-4*(i:Int):=Au (by omega) (by omega)
  have hd:IntKind.wrap .i64 (Ez .u64 (El .u64 m (60-4*(i:Int))) 15)=G9 m i:=rfl;have w15:IntKind.wrap .i64 (15-G9 m i)=15-G9 m i:=Au (by omega) (by omega)
  have ws:IntKind.wrap .i64 (Km m i+(15-G9 m i))=Km m (i+1):=by rw [Au (by omega) (by omega)];rfl
  have L:(Ai .i64 (dl m i)).length=18:=by rw [As,Ave m (by omega)]
  have hset:Cb (Ai .i64 (dl m i)) [.sc (.int .i64 (G9 m i))] i=Ai .i64 (dl m (i+1)):=by
   rw [Kp (by omega),Y9,A67 m (by omega)]
  have hat:(Ai .i64 (dl m (i+1))).getD i .top=.sc (.int .i64 (G9 m i)):=Qz (A8u m (by omega))
  rw [show nn+1-(k+1)=nn-k by omega,←ih,P7]
  simp (disch:=omega) only [B6,G6,Bl,B4,w,w4,w60,hd,L,hset,hat,w15,ws]
theorem A0d (hfu:1000<=fu)(m:Int):Ae C0 Tryz.prog fu (d+1) Vx [.sc (.int .u64 m)]=some ⟨[.agg (Ai .i64 (dgs m))],[]⟩:=by
 rw [Afp];have lp:=Ahe (fu:=fu) (call:=Ae C0 Tryz.prog fu d) (a0:=m) (m:=m) (y3:=Ai .i64 (List.replicate 18 0)) 16 0 fu (by omega) (by omega)
 obtain ⟨f',hf'⟩:∃f',fu-16=f'+1:=⟨fu-17,by omega⟩
 rw [hf'] at lp;refine Eq.trans lp ?_;have hs:=Ll m 16
 have wq:IntKind.wrap .i64 (Int.tdiv (Km m 16) 16)=Km m 16 / 16:=by
  rw [Int.tdiv_eq_ediv_of_nonneg (by omega),Au (by omega) (by omega)]
 have wm:Int.tmod (Km m 16) 16=Km m 16 % 16:=Int.tmod_eq_emod_of_nonneg (by omega)
 have L:(Ai .i64 (dl m 16)).length=18:=by rw [As,Ave m (by omega)]
 have h1:Cb (Ai .i64 (dl m 16)) [.sc (.int .i64 (Km m 16 / 16))] 16=Ai .i64 ((dl m 16).set 16 (Km m 16 / 16)):=by
  rw [Kp (by omega),Y9]
 have L2:(Ai .i64 ((dl m 16).set 16 (Km m 16 / 16))).length=18:=by rw [As,List.length_set,Ave m (by omega)]
 have h2:Cb (Ai .i64 ((dl m 16).set 16 (Km m 16 / 16))) [.sc (.int .i64 (Km m 16 % 16))] 17=Ai .i64 (dgs m):=by
  rw [Kp (by omega),Y9]
  rfl
 rw [P7,Dj _ _ _ (by omega)]
 simp only [Hw,wq,wm,L,h1,L2,h2];generalize hq:Km m 16 / 16=q at *
 generalize hr:Km m 16 % 16=r at *
 have hD:Ai .i64 (dgs m)=[.sc (.int .i64 (G9 m 0)),.sc (.int .i64 (G9 m 1)),.sc (.int .i64 (G9 m 2)),.sc (.int .i64 (G9 m 3)),.sc (.int .i64 (G9 m 4)),.sc (.int .i64 (G9 m 5)),.sc (.int .i64 (G9 m 6)),.sc (.int .i64 (G9 m 7)),.sc (.int .i64 (G9 m 8)),.sc (.int .i64 (G9 m 9)),.sc (.int .i64 (G9 m 10)),.sc (.int .i64 (G9 m 11)),.sc (.int .i64 (G9 m 12)),.sc (.int .i64 (G9 m 13)),.sc (.int .i64 (G9 m 14)),.sc (.int .i64 (G9 m 15)),.sc (.int .i64 q),.sc (.int .i64 r)]:=by
  unfold dgs;rw [hq,hr];rfl
 rw [hD];have hr18:(Ai .i64 (List.replicate 18 0)).length=18:=rfl
 have hsp:∀c:List PV,c.length=18->Cb (Ai .i64 (List.replicate 18 0)) c 0=c:=by
  intro c hc;unfold Cb;rw [hc,List.drop_of_length_le (by rw [hr18];omega)]
  simp
 rw [Aax (hnn:=by omega)]
 simp only [B6,List.getD_cons_zero,List.getD_cons_succ,hr18];rw [hsp _ rfl];simp (disch:=omega) only [B6,Aaw,List.getD_cons_zero,List.getD_cons_succ]
theorem Awa (hfu:1000<=fu)(leaf:Int){E:List Int}(hE:E.length=18):Ae C0 Tryz.prog fu (d+6) Ts [.sc (.int .i64 leaf),.agg (Ai .u64 E)]=some ⟨[.sc (.int .u64 (Ahv leaf E))],[]⟩:=by
 match E,hE with
 |[e0,e1,e2,e3,e4,e5,e6,e7,e8,e9,e10,e11,e12,e13,e14,e15,e16,e17],_=>
  have wd:Ae C0 Tryz.prog fu (d+5) Ht [.lst false 1 19 [.sc (.int .u64 (IntKind.wrap .u64 leaf)),.sc (.int .u64 e0),.sc (.int .u64 e1),.sc (.int .u64 e2),.sc (.int .u64 e3),.sc (.int .u64 e4),.sc (.int .u64 e5),.sc (.int .u64 e6),.sc (.int .u64 e7),.sc (.int .u64 e8),.sc (.int .u64 e9),.sc (.int .u64 e10),.sc (.int .u64 e11),.sc (.int .u64 e12),.sc (.int .u64 e13),.sc (.int .u64 e14),.sc (.int .u64 e15),.sc (.int .u64 e16),.sc (.int .u64 e17)]]=_:=Vz (ws:=IntKind.wrap .u64 leaf::[e0,e1,e2,e3,e4,e5,e6,e7,e8,e9,e10,e11,e12,e13,e14,e15,e16,e17]) (by simp) (by omega) (by simp;omega)
  have hs:=A2i (fu:=fu) (d:=d) (ws:=IntKind.wrap .u64 leaf::[e0,e1,e2,e3,e4,e5,e6,e7,e8,e9,e10,e11,e12,e13,e14,e15,e16,e17]) (by simp) hfu 2
  have L:=As .u8 (A7 (IntKind.wrap .u64 leaf::[e0,e1,e2,e3,e4,e5,e6,e7,e8,e9,e10,e11,e12,e13,e14,e15,e16,e17]));have eR:Ahv leaf [e0,e1,e2,e3,e4,e5,e6,e7,e8,e9,e10,e11,e12,e13,e14,e15,e16,e17]=Et 2 (A7 (IntKind.wrap .u64 leaf::[e0,e1,e2,e3,e4,e5,e6,e7,e8,e9,e10,e11,e12,e13,e14,e15,e16,e17])):=rfl;rw [eR];generalize A7 (IntKind.wrap .u64 leaf::[e0,e1,e2,e3,e4,e5,e6,e7,e8,e9,e10,e11,e12,e13,e14,e15,e16,e17])=W at wd hs L ⊢;refine (Adw fu (d+5) leaf e0 e1 e2 e3 e4 e5 e6 e7 e8 e9 e10 e11 e12 e13 e14 e15 e16 e17).trans ?_;simp (disch:=omega) only [B6,wd,Bl,B4,Cm,G4,L,hs]
theorem A9a (g:Nat->Int){i:Nat}(hi:i<18):List.getD [PV.sc (.int .i64 (g 0)),PV.sc (.int .i64 (g 1)),PV.sc (.int .i64 (g 2)),PV.sc (.int .i64 (g 3)),PV.sc (.int .i64 (g 4)),PV.sc (.int .i64 (g 5)),PV.sc (.int .i64 (g 6)),PV.sc (.int .i64 (g 7)),PV.sc (.int .i64 (g 8)),PV.sc (.int .i64 (g 9)),PV.sc (.int .i64 (g 10)),PV.sc (.int .i64 (g 11)),PV.sc (.int .i64 (g 12)),PV.sc (.int .i64 (g 13)),PV.sc (.int .i64 (g 14)),PV.sc (.int .i64 (g 15)),PV.sc (.int .i64 (g 16)),PV.sc (.int .i64 (g 17))] i PV.top=.sc (.int .i64 (g i)):=by
 have:((List.range 18).map g)[i]?=some (g i):=by simp [hi]
 exact Qz (k:=.i64) this
theorem Adm {a0 a1:Int}{a2n:Nat}{a2:List PV}{leaf m:Int}{s:List Int}(hs:s.length=18)(hfu:1000<=fu)(g:Nat->Int)(hg:∀k,g k=dg m k):∀(k i nn:Nat),i+k=18->k<nn ->
  Fl fu (Ae C0 Tryz.prog fu (d+6)) a0 a1 a2n a2 nn leaf s.length (Ai .u64 s) (g 0) (g 1) (g 2) (g 3) (g 4) (g 5) (g 6) (g 7) (g 8) (g 9) (g 10) (g 11) (g 12) (g 13) (g 14) (g 15) (g 16) (g 17) i (Ai .u64 (el leaf m s i)) =
   Fl fu (Ae C0 Tryz.prog fu (d+6)) a0 a1 a2n a2 (nn-k) leaf s.length (Ai .u64 s) (g 0) (g 1) (g 2) (g 3) (g 4) (g 5) (g 6) (g 7) (g 8) (g 9) (g 10) (g 11) (g 12) (g 13) (g 14) (g 15) (g 16) (g 17) 18 (Ai .u64 (el leaf m s 18))
 |_,_,0,_,h=>by omega
 |0,i,nn+1,hi,hn=>by
  have e:i=18:=by omega
  subst e;rfl
 |k+1,i,nn+1,hi,hn=>by
  have ih:=Adm (a0:=a0) (a1:=a1) (a2n:=a2n) (a2:=a2) (leaf:=leaf) (m:=m) hs hfu g hg k (i+1) nn (by omega) (by omega)
  obtain ⟨x,hx⟩:∃x,s[i]?=some x:=⟨_,List.getElem?_eq_getElem (by omega)⟩
  have hb:=Aaa m i;have hgi:=A9a g (i:=i) (by omega)
  have w:IntKind.wrap .i64 ((i:Int)+1)=((i+1:Nat):Int):=by rw [Au (by omega) (by omega)];omega
  have rn:=A7i (fu:=fu) (d:=d) (leaf:=leaf) (chain:=i) hfu (15-dg m i).toNat (g i) 15 x (by rw [hg];omega) (by rw [hg];omega) (by omega)
  have ev:Vv leaf i (15-dg m i).toNat (g i) x=Aaq leaf m s i:=by
   unfold Aaq;rw [List.getD_eq_getElem?_getD,hx,hg];rfl
  rw [ev] at rn;have L:(Ai .u64 (el leaf m s i)).length=18:=by rw [As,A0w leaf m s (by omega)]
  have hset:Cb (Ai .u64 (el leaf m s i)) [.sc (.int .u64 (Aaq leaf m s i))] i=Ai .u64 (el leaf m s (i+1)):=by
   rw [Kp (by omega),Y9,A7e leaf m s (by omega)]
  rw [show nn+1-(k+1)=nn-k by omega,←ih,Oz]
  simp (disch:=omega) only [B6,G6,Bl,B4,hgi,Qz hx,rn,L,hset,w]
theorem As3 (hfu:1000<=fu){a0 a1 leaf:Int}{a2n n nn:Nat}{a2 c:List PV}{g:Nat->Int}{E:List Int}(hE:E.length=18):
  Fl fu (Ae C0 Tryz.prog fu (d+6)) a0 a1 a2n a2 (nn+1) leaf n c (g 0) (g 1) (g 2) (g 3) (g 4) (g 5) (g 6) (g 7) (g 8) (g 9) (g 10) (g 11) (g 12) (g 13) (g 14) (g 15) (g 16) (g 17) 18 (Ai .u64 E)=some ⟨[.sc (.int .u64 (Ahv leaf E)),.sc (.int .i64 0)],[]⟩:=by
 match E,hE with
 |[e0,e1,e2,e3,e4,e5,e6,e7,e8,e9,e10,e11,e12,e13,e14,e15,e16,e17],hE=>
  have cb:=Awa (fu:=fu) (d:=d) hfu leaf hE;have hc:Ai .u64 [e0,e1,e2,e3,e4,e5,e6,e7,e8,e9,e10,e11,e12,e13,e14,e15,e16,e17]=[.sc (.int .u64 e0),.sc (.int .u64 e1),.sc (.int .u64 e2),.sc (.int .u64 e3),.sc (.int .u64 e4),.sc (.int .u64 e5),.sc (.int .u64 e6),.sc (.int .u64 e7),.sc (.int .u64 e8),.sc (.int .u64 e9),.sc (.int .u64 e10),.sc (.int .u64 e11),.sc (.int .u64 e12),.sc (.int .u64 e13),.sc (.int .u64 e14),.sc (.int .u64 e15),.sc (.int .u64 e16),.sc (.int .u64 e17)]:=rfl;rw [hc] at cb ⊢;generalize Ahv leaf [e0,e1,e2,e3,e4,e5,e6,e7,e8,e9,e10,e11,e12,e13,e14,e15,e16,e17]=R at cb ⊢;rw [Oz,Dj _ _ _ (by omega)]
  simp (disch:=omega) only [B6,Yt,X7,List.getD_cons_zero,List.getD_cons_succ,cb]
theorem Av4 (hfu:1000<=fu)(leaf m:Int)(s:List Int):Ae C0 Tryz.prog fu (d+7) S8 [.sc (.int .i64 leaf),.sc (.int .u64 m),.lst false 1 s.length (Ai .u64 s)]=some ⟨(if s.length=18 then [.sc (.int .u64 (Aly leaf m s)),.sc (.int .i64 0)] else [.sc (.int .u64 0),.sc (.int .i64 4)]),[]⟩:=by
 rw [Add];by_cases h:s.length=18
 ·have dq:=A0d (fu:=fu) (d:=d+5) hfu m;have hD:Ai .i64 (dgs m)=[.sc (.int .i64 (dg m 0)),.sc (.int .i64 (dg m 1)),.sc (.int .i64 (dg m 2)),.sc (.int .i64 (dg m 3)),.sc (.int .i64 (dg m 4)),.sc (.int .i64 (dg m 5)),.sc (.int .i64 (dg m 6)),.sc (.int .i64 (dg m 7)),.sc (.int .i64 (dg m 8)),.sc (.int .i64 (dg m 9)),.sc (.int .i64 (dg m 10)),.sc (.int .i64 (dg m 11)),.sc (.int .i64 (dg m 12)),.sc (.int .i64 (dg m 13)),.sc (.int .i64 (dg m 14)),.sc (.int .i64 (dg m 15)),.sc (.int .i64 (dg m 16)),.sc (.int .i64 (dg m 17))]:=rfl;rw [hD] at dq;simp only [Do];rw [Bk h,Bk (by omega)]
  simp only [B6,dq];have lp:=Adm (fu:=fu) (d:=d) (a0:=leaf) (a1:=m) (a2n:=s.length) (a2:=Ai .u64 s) (leaf:=leaf) (m:=m) h hfu (dg m) (fun _=>rfl) 18 0 fu (by omega) (by omega)
  obtain ⟨f',hf'⟩:∃f',fu-18=f'+1:=⟨fu-19,by omega⟩
  rw [hf'] at lp;refine Eq.trans lp ?_;have eE:el leaf m s 18=Alk leaf m s:=A8t leaf m s;have hl:(Alk leaf m s).length=18:=by rw [←eE,A0w leaf m s (by omega)]
  have eR:Aly leaf m s=Ahv leaf (Alk leaf m s):=rfl;rw [eE,eR];exact As3 hfu hl
 ·simp only [Do];rw [A3 h,A3 (by omega)]
end
end
section
structure Ky where
 h:Int
 root:Int
structure Sg where
 leaf:Int
 chains:List Int
 path:List Int
def Ky.cells (k:Ky):List PV:=[.sc (.int .i64 k.h),.sc (.int .u64 k.root)]
def Sg.cells (s:Sg):List PV:=[.sc (.int .i64 s.leaf),.lst false 1 s.chains.length (Ai .u64 s.chains),.lst false 1 s.path.length (Ai .u64 s.path)]
def Df (h:Int):Bool:=decide (h<0)||decide (h>4)
def Ga (leaf h:Int):Bool:=decide (leaf<0)||decide (leaf>=Fk .i64 1 h)
def Ob (level a b:Int):Int:=Et 3 (A7 [IntKind.wrap .u64 level,a,b])
def Wy (leaf:Int):Nat->Int->List Int->Int
 |_,x,[]=>x
 |i,x,s::r=>Wy leaf (i+1) (if Ez .i64 (El .i64 leaf i) 1=0 then Ob ((i+1:Nat):Int) x s else Ob ((i+1:Nat):Int) s x) r
def okE (x root:Int):Int:=if x=root then 0 else 15
theorem Akv (leaf:Int)(i:Nat)(x:Int):Wy leaf i x []=x:=rfl
theorem Yn (leaf:Int)(i:Nat)(x s:Int)(r:List Int):Wy leaf i x (s::r)=Wy leaf (i+1) (if Ez .i64 (El .i64 leaf i) 1=0 then Ob ((i+1:Nat):Int) x s else Ob ((i+1:Nat):Int) s x) r:=rfl
def Jj (k:Ky)(m:Int)(s:Sg):Int:=
 if Df k.h=true then 9 else if Ga s.leaf k.h=true then 9 else if s.chains.length≠18 then 4 else if (s.path.length:Int)≠k.h then 4 else
 okE (Wy s.leaf 0 (Aly s.leaf m s.chains) s.path) k.root
theorem Gi {h:Int}(hh:Df h=false):0<=h∧h<=4:=by
 unfold Df at hh;simp at hh;omega
section
variable {fu d:Nat}
theorem Adv (h:Int):Ae C0 Tryz.prog fu (d+1) Y0 [.sc (.int .i64 h)]=some ⟨[.sc (.bool (Df h))],[]⟩:=by
 rw [Ajl];unfold Df;by_cases h0:h<0
 ·simp only [B6,Agt,h0,decide_true,Bool.true_or,if_true]
 ·simp only [B6,Agt,h0,decide_false,Bool.false_or,if_false]
theorem Aca (leaf h:Int)(h0:0<=h):Ae C0 Tryz.prog fu (d+1) Tm [.sc (.int .i64 leaf),.sc (.int .i64 h)]=some ⟨[.sc (.bool (Ga leaf h))],[]⟩:=by
 rw [Ae5];unfold Ga;by_cases hl:leaf<0
 ·simp only [B6,Agt,hl,decide_true,Bool.true_or,if_true]
 ·simp (disch:=omega) only [B6,Agt,hl,decide_false,Bool.false_or,if_false]
theorem Ao3 (hfu:1000<=fu)(level a b:Int):Ae C0 Tryz.prog fu (d+6) Uy [.sc (.int .i64 level),.sc (.int .u64 a),.sc (.int .u64 b)]=some ⟨[.sc (.int .u64 (Ob level a b))],[]⟩:=by
 have wd:Ae C0 Tryz.prog fu (d+5) Ht [.lst false 1 3 [.sc (.int .u64 (IntKind.wrap .u64 level)),.sc (.int .u64 a),.sc (.int .u64 b)]]=_:=Vz (ws:=[IntKind.wrap .u64 level,a,b]) (by simp) (by omega) (by simp;omega)
 have hs:=A2i (fu:=fu) (d:=d) (ws:=[IntKind.wrap .u64 level,a,b]) (by simp) hfu 3
 have L:=As .u8 (A7 [IntKind.wrap .u64 level,a,b]);rw [Afs];unfold Ob;generalize A7 [IntKind.wrap .u64 level,a,b]=W at wd hs L ⊢;simp (disch:=omega) only [B6,wd,Bl,B4,Cm,G4,L,hs]
theorem Agy {a0 a1 a2 a3:Int}{n1 n2 n3 n4:Nat}{c1 c2 c3 c4:List PV}{y5 root leaf:Int}{path:List Int}(hp:path.length<=100)(hfu:1000<=fu):∀(r:List Int)(i nn:Nat)(x:Int),path.drop i=r->r.length<nn->i<=path.length ->
  Gs fu (Ae C0 Tryz.prog fu (d+6)) a0 a1 a2 a3 n1 c1 n2 c2 nn x path.length (Ai .u64 path) path.length i y5 root leaf n3 c3 n4 c4=some ⟨[.sc (.int .i64 (okE (Wy leaf i x r) root))],[]⟩
 |_,_,0,_,_,h,_=>by omega
 |[],i,nn+1,x,h,hn,hi=>by
  have:=drop_nil h;rw [Pw,Dj _ _ _ (by omega),Do]
  rw [Akv];unfold okE;by_cases e:x=root
  ·rw [Bk e,Bk e]
  ·rw [A3 e,A3 e]
 |s::r,i,nn+1,x,h,hn,hi=>by
  obtain ⟨h1,h2,h3⟩:=Ca h;simp only [H0] at hn;have w:IntKind.wrap .i64 ((i:Int)+1)=((i+1:Nat):Int):=by rw [Au (by omega) (by omega)];omega
  have ih:=fun x=>Agy (a0:=a0) (a1:=a1) (a2:=a2) (a3:=a3) (n1:=n1) (n2:=n2) (n3:=n3) (n4:=n4) (c1:=c1) (c2:=c2) (c3:=c3) (c4:=c4) (y5:=y5) (root:=root) (leaf:=leaf) hp hfu r (i+1) nn x h3 (by omega) (by omega)
  have p1:=Ao3 (fu:=fu) (d:=d) hfu ((i+1:Nat):Int) x s;have p2:=Ao3 (fu:=fu) (d:=d) hfu ((i+1:Nat):Int) s x;rw [Pw,Yn];by_cases hb:Ez .i64 (El .i64 leaf i) 1=0
  ·rw [Bk hb,←ih];simp (disch:=omega) only [B6,G6,Bl,Qz h2,Fm,hb,w,p1,if_true]
  ·rw [A3 hb,←ih];simp (disch:=omega) only [B6,G6,Bl,Qz h2,Fm,hb,w,p2,if_false]
theorem Afj (hfu:1000<=fu)(k:Ky)(m:Int)(s:Sg):Ae C0 Tryz.prog fu (d+8) Va [.agg k.cells,.sc (.int .u64 m),.agg s.cells]=some ⟨[.sc (.int .i64 (Jj k m s))],[]⟩:=by
 refine (Afz fu (d+7) k.h k.root m s.leaf s.chains.length (Ai .u64 s.chains) s.path.length (Ai .u64 s.path)).trans ?_;have h1:=Adv (fu:=fu) (d:=d+6) k.h;unfold Jj;cases c1:Df k.h
 ·rw [c1] at h1;have hb:=Gi c1;have h2:=Aca (fu:=fu) (d:=d+6) s.leaf k.h hb.1;cases c2:Ga s.leaf k.h
  ·rw [c2] at h2;by_cases c3:s.chains.length=18
   ·by_cases c4:(s.path.length:Int)=k.h
    ·have rc:=Av4 (fu:=fu) (d:=d) hfu s.leaf m s.chains;rw [Bk c3] at rc;have vl:=Agy (fu:=fu) (d:=d+1) (a0:=k.h) (a1:=k.root) (a2:=m) (a3:=s.leaf) (n1:=s.chains.length) (n2:=s.path.length) (n3:=s.chains.length) (n4:=s.path.length) (c1:=Ai .u64 s.chains) (c2:=Ai .u64 s.path) (c3:=Ai .u64 s.chains) (c4:=Ai .u64 s.path) (y5:=k.h) (root:=k.root) (leaf:=s.leaf) (path:=s.path) (by omega) hfu s.path 0 fu (Aly s.leaf m s.chains) rfl (by omega) (by omega)
     rw [A3 (by simp),A3 (by simp),A3 (by omega),A3 (by omega),←vl]
     simp (disch:=omega) only [B6,h1,h2,Do,rc,if_true,c4];rw [Bk (by omega)]
     rfl
    ·rw [A3 (by simp),A3 (by simp),A3 (by omega),Bk c4]
     simp (disch:=omega) only [B6,h1,h2,Do,c4,if_false];rw [Bk (by omega)]
   ·rw [A3 (by simp),A3 (by simp),Bk c3]
    simp (disch:=omega) only [B6,h1,h2,Do];rw [A3 (by omega)]
  ·rw [c2] at h2;rw [A3 (by simp),Bk rfl]
   simp (disch:=omega) only [B6,h1,h2]
 ·rw [c1] at h1;rw [Bk rfl];simp (disch:=omega) only [B6,h1]
def G3 (k:Ky):List Int:=IntKind.wrap .u8 k.h::Cg k.root
def Mv (s:Sg):List Int:=IntKind.wrap .u8 s.leaf::IntKind.wrap .u8 s.path.length::(A7 s.chains++A7 s.path)
theorem owd (hfu:1000<=fu)(w:Int):Ae C0 Tryz.prog fu (d+1) Ht [.lst false 1 1 [.sc (.int .u64 w)]]=some ⟨[.own 1 8 (Ai .u8 (Cg w))],[]⟩:=by
 have:=Vz (fu:=fu) (d:=d) (ws:=[w]) (by simp) (by omega) (by simp;omega)
 simp only [A7,List.flatMap_cons,List.flatMap_nil,List.append_nil,H0,X2,Cy] at this;exact this
theorem A0h (hfu:1000<=fu)(k:Ky):Ae C0 Tryz.prog fu (d+2) Po [.agg k.cells]=some ⟨(if Df k.h=true then [.own 1 0 [],.sc (.int .i64 9)] else [.own 1 9 (Ai .u8 (G3 k)),.sc (.int .i64 0)]),[]⟩:=by
 refine (Aao fu (d+1) k.h k.root).trans ?_;have h1:=Adv (fu:=fu) (d:=d) k.h;have wd:=owd (fu:=fu) (d:=d) hfu k.root;have L:=As .u8 (Cg k.root);rw [Cy] at L;have t8:List.take 8 (Ai .u8 (Cg k.root))=Ai .u8 (Cg k.root):=I2 (by omega)
 have t9:List.take 9 ([PV.sc (.int .u8 (IntKind.wrap .u8 k.h))]++Ai .u8 (Cg k.root))=Ai .u8 (G3 k):=by
  rw [I2 (by rw [Ic,L];simp)]
  rfl
 have L9:([PV.sc (.int .u8 (IntKind.wrap .u8 k.h))]++Ai .u8 (Cg k.root)).length=9:=by rw [Ic,L];rfl
 cases c1:Df k.h
 ·rw [c1] at h1;rw [A3 (by simp)]
  simp (disch:=omega) only [B6,h1,wd,Bl,B4,Cm,L,t8,Nat.reduceAdd,L9,t9]
 ·rw [c1] at h1;rw [Bk rfl];simp (disch:=omega) only [B6,h1]
theorem Azk (hfu:1000<=fu)(s:Sg)(hp:s.path.length<=1000000000)(hf:s.path.length<fu):Ae C0 Tryz.prog fu (d+2) Jo [.agg s.cells]=some ⟨(if Df s.path.length=true then [.own 1 0 [],.sc (.int .i64 9)] else if Ga s.leaf s.path.length=true then [.own 1 0 [],.sc (.int .i64 9)] else if s.chains.length≠18 then [.own 1 0 [],.sc (.int .i64 4)] else [.own 1 (Mv s).length (Ai .u8 (Mv s)),.sc (.int .i64 0)]),[]⟩:=by
 refine (Sl fu (d+1) s.leaf s.chains.length (Ai .u64 s.chains) s.path.length (Ai .u64 s.path)).trans ?_;have h1:=Adv (fu:=fu) (d:=d) s.path.length;cases c1:Df s.path.length
 ·rw [c1] at h1;have hb:=Gi c1;have h2:=Aca (fu:=fu) (d:=d) s.leaf s.path.length hb.1;cases c2:Ga s.leaf s.path.length
  ·rw [c2] at h2;by_cases c3:s.chains.length=18
   ·have w1:=Vz (fu:=fu) (d:=d) (ws:=s.chains) (by omega) (by omega) (by omega)
    have w2:=Vz (fu:=fu) (d:=d) (ws:=s.path) (by omega) (by omega) (by omega)
    have l1:=Db s.chains;have l2:=Db s.path;have L1:=As .u8 (A7 s.chains);have L2:=As .u8 (A7 s.path)
    have eB:Ai .u8 (Mv s)=[PV.sc (.int .u8 (IntKind.wrap .u8 s.leaf)),PV.sc (.int .u8 (IntKind.wrap .u8 s.path.length))]++Ai .u8 (A7 s.chains)++Ai .u8 (A7 s.path):=by
     unfold Mv;simp
    have eL:(Mv s).length=2+(A7 s.chains).length+(A7 s.path).length:=by
     unfold Mv;simp;omega
    rw [A3 (by simp),A3 (by simp),A3 (by omega),eB,eL]
    have t2:List.take (2+(A7 s.chains).length) ([PV.sc (.int .u8 (IntKind.wrap .u8 s.leaf)),PV.sc (.int .u8 (IntKind.wrap .u8 s.path.length))]++Ai .u8 (A7 s.chains))=[PV.sc (.int .u8 (IntKind.wrap .u8 s.leaf)),PV.sc (.int .u8 (IntKind.wrap .u8 s.path.length))]++Ai .u8 (A7 s.chains):=I2 (by rw [Ic,L1];simp)
    have t3:List.take (2+(A7 s.chains).length+(A7 s.path).length) ([PV.sc (.int .u8 (IntKind.wrap .u8 s.leaf)),PV.sc (.int .u8 (IntKind.wrap .u8 s.path.length))]++Ai .u8 (A7 s.chains)++Ai .u8 (A7 s.path))=[PV.sc (.int .u8 (IntKind.wrap .u8 s.leaf)),PV.sc (.int .u8 (IntKind.wrap .u8 s.path.length))]++Ai .u8 (A7 s.chains)++Ai .u8 (A7 s.path):=I2 (by rw [Ic,Ic,L1,L2];simp)
    have k2:([PV.sc (.int .u8 (IntKind.wrap .u8 s.leaf)),PV.sc (.int .u8 (IntKind.wrap .u8 s.path.length))]++Ai .u8 (A7 s.chains)).length=2+(A7 s.chains).length:=by rw [Ic,L1];rfl
    have k3:([PV.sc (.int .u8 (IntKind.wrap .u8 s.leaf)),PV.sc (.int .u8 (IntKind.wrap .u8 s.path.length))]++Ai .u8 (A7 s.chains)++Ai .u8 (A7 s.path)).length=2+(A7 s.chains).length+(A7 s.path).length:=by rw [Ic,k2,L2]
    simp (disch:=omega) only [B6,h1,h2,Do,w1,w2,Bl,B4,Cm,L1,L2,G4,t2,t3,k2,k3];rw [Bk (by omega)]
   ·rw [A3 (by simp),A3 (by simp),Bk c3]
    simp (disch:=omega) only [B6,h1,h2,Do];rw [A3 (by omega)]
  ·rw [c2] at h2;rw [A3 (by simp),Bk rfl]
   simp (disch:=omega) only [B6,h1,h2]
 ·rw [c1] at h1;rw [Bk rfl];simp (disch:=omega) only [B6,h1]
def J2 (l:List Int)(i:Nat):Int:=Aah ((l.drop (8*i)).take 8)
def Fj (l:List Int):List Int:=(List.range (l.length / 8)).map (J2 l)
def wl (l:List Int)(i:Nat):List Int:=(List.range i).map (J2 l)++List.replicate (l.length / 8-i) 0
theorem A09 (l:List Int){i:Nat}(h:i<=l.length / 8):(wl l i).length=l.length / 8:=by simp [wl];omega
theorem A8b (l:List Int){i:Nat}(h:i<l.length / 8):(wl l i).set i (J2 l i)=wl l (i+1):=by
 unfold wl;rw [List.set_append_right _ _ (by simp),List.length_map,List.length_range,Nat.sub_self,show l.length / 8-i=(l.length / 8-(i+1))+1 by omega,List.replicate_succ,List.set_cons_zero,List.range_succ,List.map_append,Zzv]
 rfl
theorem A57 (l:List Int){i:Nat}(h:i<l.length / 8):(wl l i).set i 0=wl l i:=by
 unfold wl;rw [List.set_append_right _ _ (by simp),List.length_map,List.length_range,Nat.sub_self,show l.length / 8-i=(l.length / 8-(i+1))+1 by omega,List.replicate_succ,List.set_cons_zero]
theorem Aom {n m0:Nat}{c:List PV}{l:List Int}(hl:l.length<=1000000){i:Nat}(hi:i<l.length / 8){q:List Int}(hq:q.length<=8):∀(r:List Int)(j nn:Nat)(x:Int),q.drop j=r->r.length<nn->j<=q.length ->
  Jh fu (Ae C0 Tryz.prog fu d) n c m0 nn l.length (Ai .u8 l) (l.length / 8) i ((l.length / 8:Nat):Int) i q.length (Ai .u8 q) q.length j (Ai .u64 ((wl l i).set i x)) =
   Hn fu (Ae C0 Tryz.prog fu d) n c m0 l.length (Ai .u8 l) (l.length / 8) ((l.length / 8:Nat):Int) ((i+1:Nat):Int) (Ai .u64 ((wl l i).set i (r.foldl Fc x)))
 |_,_,0,_,_,h,_=>by omega
 |[],j,nn+1,x,h,hn,hj=>by
  have:=drop_nil h;have w:IntKind.wrap .i64 ((i:Int)+1)=((i+1:Nat):Int):=by rw [Au (by omega) (by omega)];omega
  rw [Q6,Dj _ _ _ (by omega)]
  simp only [Hw,w,List.foldl_nil]
 |b::r,j,nn+1,x,h,hn,hj=>by
  obtain ⟨h1,h2,h3⟩:=Ca h;simp only [H0] at hn;have w:IntKind.wrap .i64 ((j:Int)+1)=((j+1:Nat):Int):=by rw [Au (by omega) (by omega)];omega
  have L:(Ai .u64 ((wl l i).set i x)).length=l.length / 8:=by rw [As,List.length_set,A09 l (by omega)]
  have hat:(Ai .u64 ((wl l i).set i x)).getD i .top=.sc (.int .u64 x):=Qz (by rw [List.getElem?_set_self (by rw [A09 l (by omega)];omega)])
  have hset:Cb (Ai .u64 ((wl l i).set i x)) [.sc (.int .u64 (Fc x b))] i=Ai .u64 ((wl l i).set i (Fc x b)):=by
   rw [Kp (by omega),Y9,List.set_set]
  have ih:=Aom (n:=n) (m0:=m0) (c:=c) hl hi hq r (j+1) nn (Fc x b) h3 (by omega) (by omega)
  rw [List.foldl_cons,←ih,Q6];simp (disch:=omega) only [B6,G6,Bl,B4,Qz h2,hat,L,w];exact congrArg _ hset
theorem Ag6 {n:Nat}{c:List PV}{l:List Int}(hl:l.length<=1000000)(hfu:100<=fu):∀(k i nn:Nat),i+k=l.length / 8->k<nn ->
  Hn fu (Ae C0 Tryz.prog fu d) n c nn l.length (Ai .u8 l) (l.length / 8) ((l.length / 8:Nat):Int) i (Ai .u64 (wl l i))=some ⟨[.own 1 (l.length / 8) (Ai .u64 (Fj l))],[]⟩
 |_,_,0,_,h=>by omega
 |0,i,nn+1,hi,hn=>by
  have e:i=l.length / 8:=by omega
  subst e;have e2:wl l (l.length / 8)=Fj l:=by unfold wl Fj;simp
  have L:(Ai .u64 (Fj l)).length=l.length / 8:=by rw [As];simp [Fj]
  have tk:List.take (l.length / 8) (Ai .u64 (Fj l))=Ai .u64 (Fj l):=I2 (by omega)
  rw [Rz,Dj _ _ _ (by omega),e2]
  simp (disch:=omega) only [B6,Bl,L,tk]
 |k+1,i,nn+1,hi,hn=>by
  have ih:=Ag6 (n:=n) (c:=c) hl hfu k (i+1) nn (by omega) (by omega)
  have w8:IntKind.wrap .i64 (8*(i:Int))=((8*i:Nat):Int):=by rw [Au (by omega) (by omega)];omega
  have w88:IntKind.wrap .i64 (((8*i:Nat):Int)+8)=((8*i+8:Nat):Int):=by rw [Au (by omega) (by omega)];omega
  have e8:8*i+8-8*i=8:=by omega
  have hdl:((l.drop (8*i)).take 8).length=8:=by rw [List.length_take,List.length_drop];omega
  have st:=Aom (fu:=fu) (d:=d) (n:=n) (m0:=nn) (c:=c) hl (i:=i) (by omega) (q:=(l.drop (8*i)).take 8) (by omega) ((l.drop (8*i)).take 8) 0 fu 0 rfl (by omega) (by omega)
  rw [A57 l (by omega),hdl] at st
  have ew:((l.drop (8*i)).take 8).foldl Fc 0=J2 l i:=rfl;rw [ew,A8b l (by omega),ih] at st
  rw [Rz];simp (disch:=omega) only [B6,G6,Bl,w8,w88,e8,E6,Dz];exact st
theorem A13 (n:Nat):Xj n [.sc (.int .u64 0)]=Ai .u64 (List.replicate n 0):=by
 induction n with
 |zero=>rfl
 |succ n ih=>
  show ([PV.sc (.int .u64 0)]::List.replicate n [PV.sc (.int .u64 0)]).flatten=_;rw [List.flatten_cons,List.replicate_succ];show _++Xj n [.sc (.int .u64 0)]=PV.sc (.int .u64 0)::Ai .u64 (List.replicate n 0);rw [ih];rfl
theorem Afy {l:List Int}(hl:l.length<=1000000)(hfu:100<=fu)(hf:l.length<fu):Ae C0 Tryz.prog fu (d+1) W6 [.lst false 1 l.length (Ai .u8 l)]=some ⟨[.own 1 (l.length / 8) (Ai .u64 (Fj l))],[]⟩:=by
 rw [Aid]
 have w:IntKind.wrap .i64 (Int.tdiv (l.length:Int) 8)=((l.length / 8:Nat):Int):=by
  rw [Int.tdiv_eq_ediv_of_nonneg (by omega),Au (by omega) (by omega)]
  omega
 have lp:=Ag6 (fu:=fu) (d:=d) (n:=l.length) (c:=Ai .u8 l) hl hfu (l.length / 8) 0 fu (by omega) (by omega)
 have e0:wl l 0=List.replicate (l.length / 8) 0:=by unfold wl;simp
 rw [e0] at lp;simp (disch:=omega) only [B6,w,G6,A13,Int.le_refl];exact lp
def Aa0 (l:List Int):Option Ky:=if l.length=9∧Df (l.getD 0 0)=false then some ⟨l.getD 0 0,J2 (l.drop 1) 0⟩ else none
def Acp (o:Option Ky):List PV:=match o with|some k=>[.agg k.cells,.sc (.int .i64 0)]|none=>[.agg (Ky.mk 0 0).cells,.sc (.int .i64 2)]
theorem A0i (hfu:1000<=fu){l:List Int}(hb:Gn l):Ae C0 Tryz.prog fu (d+2) Qf [.lst false 1 l.length (Ai .u8 l)]=some ⟨Acp (Aa0 l),[]⟩:=by
 refine (Aa7 fu (d+1) l.length (Ai .u8 l)).trans ?_;unfold Aa0;by_cases h9:l.length=9
 ·obtain ⟨x,hx⟩:∃x,l[0]?=some x:=⟨_,List.getElem?_eq_getElem (by omega)⟩
  have hxb:=hb x (List.mem_of_getElem? hx);have wx:IntKind.wrap .i64 x=x:=Au (by omega) (by omega)
  have gx:l.getD 0 0=x:=by rw [List.getD_eq_getElem?_getD,hx];rfl
  have h1:=Adv (fu:=fu) (d:=d) x;rw [gx];cases c1:Df x
  ·rw [c1] at h1;have hdl:(l.drop 1).length=8:=by rw [List.length_drop];omega
   have dw:=Afy (fu:=fu) (d:=d) (l:=l.drop 1) (by omega) (by omega) (by omega)
   rw [hdl] at dw;have hat:(Ai .u64 (Fj (l.drop 1))).getD 0 .top=.sc (.int .u64 (J2 (l.drop 1) 0)):=Qz (by unfold Fj;rw [hdl];rfl)
   have e8:9-1=8:=rfl;have tk:List.take 8 (Ai .u8 (l.drop 1))=Ai .u8 (l.drop 1):=I2 (by rw [As];omega)
   rw [Bk ⟨h9,rfl⟩,h9];simp (disch:=omega) only [B6,Do,Qz hx,wx,h1,Bl,E6,e8,tk,dw,hat];rfl
  ·rw [c1] at h1;rw [A3 (by simp),h9]
   simp (disch:=omega) only [B6,Do,Qz hx,wx,h1];rfl
 ·rw [A3 (by simp [h9])]
  simp (disch:=omega) only [Do];rw [A3 (by omega)]
  rfl
def sgD (l:List Int):Option Sg:=
 if 2<=l.length∧Df (l.getD 1 0)=false∧Ga (l.getD 0 0) (l.getD 1 0)=false∧(l.length:Int)=2+8*(18+l.getD 1 0) then some ⟨l.getD 0 0,Fj ((l.drop 2).take 144),Fj (l.drop 146)⟩ else none
def Sg.owned (s:Sg):List PV:=[.sc (.int .i64 s.leaf),.own 1 s.chains.length (Ai .u64 s.chains),.own 1 s.path.length (Ai .u64 s.path)]
def Q8 (o:Option Sg):List PV:=match o with|some s=>[.agg s.owned,.sc (.int .i64 0)]|none=>[.agg (Sg.mk 0 [] []).owned,.sc (.int .i64 2)]
theorem R7 (l:List Int):(Fj l).length=l.length / 8:=by simp [Fj]
theorem Ago (hfu:1000<=fu){l:List Int}(hb:Gn l):Ae C0 Tryz.prog fu (d+2) Ju [.lst false 1 l.length (Ai .u8 l)]=some ⟨Q8 (sgD l),[]⟩:=by
 refine (Ss fu (d+1) l.length (Ai .u8 l)).trans ?_;unfold sgD;by_cases h2:2<=l.length
 ·obtain ⟨x,hx⟩:∃x,l[0]?=some x:=⟨_,List.getElem?_eq_getElem (by omega)⟩
  obtain ⟨y,hy⟩:∃y,l[1]?=some y:=⟨_,List.getElem?_eq_getElem (by omega)⟩
  have hxb:=hb x (List.mem_of_getElem? hx);have hyb:=hb y (List.mem_of_getElem? hy);have wx:IntKind.wrap .i64 x=x:=Au (by omega) (by omega)
  have wy:IntKind.wrap .i64 y=y:=Au (by omega) (by omega)
  have gx:l.getD 0 0=x:=by rw [List.getD_eq_getElem?_getD,hx];rfl
  have gy:l.getD 1 0=y:=by rw [List.getD_eq_getElem?_getD,hy];rfl
  have h1:=Adv (fu:=fu) (d:=d) y;have ho:=Aca (fu:=fu) (d:=d) x y (by omega)
  have w1:IntKind.wrap .i64 (18+y)=18+y:=Au (by omega) (by omega)
  have w2:IntKind.wrap .i64 (8*(18+y))=8*(18+y):=Au (by omega) (by omega)
  have w3:IntKind.wrap .i64 (2+8*(18+y))=2+8*(18+y):=Au (by omega) (by omega)
  rw [gx,gy];cases c1:Df y
  ·rw [c1] at h1;cases c2:Ga x y
   ·rw [c2] at ho;by_cases c3:(l.length:Int)=2+8*(18+y)
    ·have hy4:=Gi c1;have d1:=Afy (fu:=fu) (d:=d) (l:=(l.drop 2).take 144) (by rw [List.length_take,List.length_drop];omega) (by omega) (by rw [List.length_take,List.length_drop];omega)
     have d2:=Afy (fu:=fu) (d:=d) (l:=l.drop 146) (by rw [List.length_drop];omega) (by omega) (by rw [List.length_drop];omega)
     have l1:((l.drop 2).take 144).length=144:=by rw [List.length_take,List.length_drop];omega
     have l2:(l.drop 146).length=l.length-146:=List.length_drop;rw [l1] at d1;have L1:(Ai .u64 (Fj ((l.drop 2).take 144))).length=18:=by rw [As,R7,l1]
     have L2:(Ai .u64 (Fj (l.drop 146))).length=(l.length-146) / 8:=by rw [As,R7,l2]
     rw [l2] at d2;have t1:List.take (144 / 8) (Ai .u64 (Fj ((l.drop 2).take 144)))=Ai .u64 (Fj ((l.drop 2).take 144)):=I2 (by omega)
     have t2:List.take ((l.length-146) / 8) (Ai .u64 (Fj (l.drop 146)))=Ai .u64 (Fj (l.drop 146)):=I2 (by omega)
     have t3:List.take (l.length-146) (l.drop 146)=l.drop 146:=I2 (by omega)
     rw [Bk ⟨h2,rfl,rfl,c3⟩];simp (disch:=omega) only [B6,Do,Qz hx,Qz hy,wx,wy,h1,ho,w1,w2,w3,Bl,E6,Dz,d1,d2,t3,L1,L2,t1,t2];rw [Bk c3];simp only [Q8,Sg.owned,R7,l1,l2]
    ·rw [A3 (by simp [c3])]
     simp (disch:=omega) only [B6,Do,Qz hx,Qz hy,wx,wy,h1,ho,w1,w2,w3];rw [A3 c3];rfl
   ·rw [c2] at ho;rw [A3 (by simp)]
    simp (disch:=omega) only [B6,Do,Qz hx,Qz hy,wx,wy,h1,ho];rfl
  ·rw [c1] at h1;rw [A3 (by simp)]
   simp (disch:=omega) only [B6,Do,Qz hx,Qz hy,wx,wy,h1];rfl
 ·rw [A3 (by simp [h2])]
  simp (disch:=omega) only [B6];rfl
end
end
section
set_option maxRecDepth 100000
abbrev Ou:FuncId:=35
theorem Ys (fu d:Nat)(a0:Int):Ae C0 Tryz.prog fu (d+1) Ou [.sc (.int .i64 a0)]=(fun (call:Aq)=>A4 (decide (a0>=0)) (some (A0.mk [.sc (.bool (decide (a0<=4)))] [])) (some (A0.mk [.sc (.bool false)] []))) (Ae C0 Tryz.prog fu d):=by kernel_rfl
abbrev P9:FuncId:=61
noncomputable def Gy (fu:Nat)(call:Aq)(a0:Int)(nn:Nat)(y0:Int)(y1:Nat)(y2 y3:Int)(y4:List PV):Option A0:=Cw C0 Tryz.prog fu call 61 Tryz.f61 (B5 Tryz.f61) [.sc (.int .u64 a0)] [.r,.r,.r,.l,.r,.l] nn ⟨lk [(0,(.sc (.int .u64 y0))),(3,(.view 3 1 0 y1)),(4,(.sc (.int .i64 y2))),(5,(.sc (.int .i64 y3)))],Gf [(3,(.ar false y4))]⟩
theorem Mf (fu:Nat)(call:Aq)(a0:Int)(nn:Nat)(y0:Int)(y1:Nat)(y2 y3:Int)(y4:List PV):Gy fu call a0 (nn+1) y0 y1 y2 y3 y4=(A4 (decide (y3>=0)) (Aa (IntKind.wrap .i64 (4*y3)) fun x1=>Aa (IntKind.wrap .u64 x1) fun x2=>Ay (decide (0<=x2))<|Aa (El .u64 y0 x2) fun x3=>Aa (Ez .u64 x3 15) fun x4=>Aa (IntKind.wrap .i64 x4) fun x5=>Ay (decide (y1*1<=List.length y4)&&true&&decide ((y1+1)*8<=1099511627776)&&decide (y1+1<=1099511627776))<|Aa (y1+1) fun x6=>Aa (List.take (y1*1) y4++[.sc (.int .i64 x5)]) fun x7=>Aa (IntKind.wrap .i64 (15-x5)) fun x8=>Aa (IntKind.wrap .i64 (y2+x8)) fun x9=>Aa (IntKind.wrap .i64 (y3-1)) fun Cj=>Gy fu call a0 (nn) (y0) x6 x9 Cj x7) (Aa (IntKind.wrap .i64 (Int.tdiv y2 16)) fun Bp=>Aa (Int.tmod y2 16) fun Cz=>Ay (decide (y1*1<=List.length y4)&&true&&decide ((y1+2)*8<=1099511627776)&&decide (y1+2<=1099511627776))<|Aa (y1+2) fun C9=>Aa (List.take (y1*1) y4++[.sc (.int .i64 Bp),.sc (.int .i64 Cz)]) fun Cq=>Ay (decide (C9*1<=List.length Cq))<|some (A0.mk [.own 1 C9 (List.take (C9*1) Cq)] []))):=by kernel_rfl
theorem Aav (fu d:Nat)(a0:Int):Ae C0 Tryz.prog fu (d+1) P9 [.sc (.int .u64 a0)]=(fun (call:Aq)=>Gy fu call a0 (fu) (a0) 0 0 15 ([])) (Ae C0 Tryz.prog fu d):=by kernel_rfl
abbrev Ta:FuncId:=62
noncomputable def H7 (fu:Nat)(call:Aq)(a0 a1:Int)(a2 a3 a4:Int)(nn:Nat)(y0 y1:Int)(y2 y3 y4:Int):Option A0:=Cw C0 Tryz.prog fu call 62 Tryz.f62 (B5 Tryz.f62) [.sc (.int .i64 a0),.sc (.int .i64 a1),.sc (.int .i64 a2),.sc (.int .i64 a3),.sc (.int .u64 a4)] [.r,.l,.r,.l] nn ⟨lk [(0,(.sc (.int .i64 y0))),(1,(.sc (.int .i64 y1))),(3,(.sc (.int .i64 y2))),(4,(.sc (.int .u64 y3))),(11,(.sc (.int .i64 y4)))],Gf []⟩
theorem Ot (fu:Nat)(call:Aq)(a0 a1:Int)(a2 a3 a4:Int)(nn:Nat)(y0 y1:Int)(y2 y3 y4:Int):H7 fu call a0 a1 a2 a3 a4 (nn+1) y0 y1 y2 y3 y4=(Aa (if 15<y2 then 15 else y2) fun x2=>A4 (decide (y4<x2)) (Aa (IntKind.wrap .u64 y0) fun x3=>Aa (IntKind.wrap .u64 y1) fun x4=>Aa (IntKind.wrap .u64 y4) fun x5=>Aj (call 38 [.lst false 1 4 [.sc (.int .u64 x3),.sc (.int .u64 x4),.sc (.int .u64 x5),.sc (.int .u64 y3)]]) fun x6 x7=>Ac x7<|Ab x6 fun x8 x9=>Dp 1 x8 fun Cj Bp=>Ac x9<|Ay (decide (0+Cj*1<=List.length Bp))<|Aj (call 46 [.sc (.int .i64 1),.lst false 1 Cj (List.take (Cj*1) (List.drop 0 Bp))]) fun Cz C9=>Ac C9<|Ab Cz fun Cq C8=>Af .u64 Cq fun Dh=>Ac C8<|Aa (IntKind.wrap .i64 (y4+1)) fun Dt=>H7 fu call a0 a1 a2 a3 a4 (nn) (y0) (y1) (y2) Dh Dt) (some (A0.mk [.sc (.int .u64 y3)] []))):=by kernel_rfl
theorem Ae3 (fu d:Nat)(a0 a1:Int)(a2 a3 a4:Int):Ae C0 Tryz.prog fu (d+1) Ta [.sc (.int .i64 a0),.sc (.int .i64 a1),.sc (.int .i64 a2),.sc (.int .i64 a3),.sc (.int .u64 a4)]=(fun (call:Aq)=>Aa (if a2<0 then 0 else a2) fun x1=>H7 fu call a0 a1 a2 a3 a4 (fu) (a0) (a1) (a3) (a4) x1) (Ae C0 Tryz.prog fu d):=by kernel_rfl
abbrev On:FuncId:=63
theorem Y2 (fu d:Nat)(a0 a1 a2:Int):Ae C0 Tryz.prog fu (d+1) On [.sc (.int .u64 a0),.sc (.int .i64 a1),.sc (.int .i64 a2)]=(fun (call:Aq)=>Aa (IntKind.wrap .u64 a1) fun x1=>Aa (IntKind.wrap .u64 a2) fun x2=>Aj (call 38 [.lst false 1 2 [.sc (.int .u64 x1),.sc (.int .u64 x2)]]) fun x3 x4=>Ac x4<|Ab x3 fun x5 x6=>Dp 1 x5 fun x7 x8=>Ac x6<|Ay (decide (0+x7*1<=List.length x8))<|Aj (call 79 [.sc (.int .u64 a0),.sc (.int .i64 1),.lst false 1 x7 (List.take (x7*1) (List.drop 0 x8))]) fun x9 Cj=>Ac Cj<|Ab x9 fun Bp Cz=>Af .u64 Bp fun C9=>Ac Cz<|some (A0.mk [.sc (.int .u64 C9)] [])) (Ae C0 Tryz.prog fu d):=by kernel_rfl
abbrev Re:FuncId:=65
theorem Abp (fu d:Nat)(a0:Int)(a1n:Nat)(a1:List PV):Ae C0 Tryz.prog fu (d+1) Re [.sc (.int .i64 a0),.lst false 1 a1n a1]=(fun (call:Aq)=>Aa (IntKind.wrap .u64 a0) fun x1=>Aj (call 38 [.lst false 1 1 [.sc (.int .u64 x1)]]) fun x2 x3=>Ac x3<|Ab x2 fun x4 x5=>Dp 1 x4 fun x6 x7=>Ac x5<|Aj (call 38 [.lst false 1 a1n a1]) fun x8 x9=>Ac x9<|Ab x8 fun Cj Bp=>Dp 1 Cj fun Cz C9=>Ac Bp<|Ay (decide (0+Cz*1<=List.length C9))<|Ay (decide (x6*1<=List.length x7)&&decide (List.length (List.take (Cz*1) (List.drop 0 C9))=Cz*1)&&decide ((x6+Cz)*1<=1099511627776)&&decide (x6+Cz<=1099511627776))<|Aa (x6+Cz) fun Cq=>Aa (List.take (x6*1) x7++List.take (Cz*1) (List.drop 0 C9)) fun C8=>Ay (decide (0+Cq*1<=List.length C8))<|Aj (call 46 [.sc (.int .i64 2),.lst false 1 Cq (List.take (Cq*1) (List.drop 0 C8))]) fun Dh Dt=>Ac Dt<|Ab Dh fun D6 D1=>Af .u64 D6 fun Ee=>Ac D1<|some (A0.mk [.sc (.int .u64 Ee)] [])) (Ae C0 Tryz.prog fu d):=by kernel_rfl
abbrev Sd:FuncId:=64
noncomputable def Hb (fu:Nat)(call:Aq)(a0 a1:Int)(nn:Nat)(y0 y1:Int)(y2:Nat)(y3:Int)(y4:List PV):Option A0:=Cw C0 Tryz.prog fu call 64 Tryz.f64 (B5 Tryz.f64) [.sc (.int .u64 a0),.sc (.int .i64 a1)] [.r,.r,.l,.r,.l] nn ⟨lk [(0,(.sc (.int .u64 y0))),(1,(.sc (.int .i64 y1))),(5,(.view 5 1 0 y2)),(6,(.sc (.int .i64 y3)))],Gf [(5,(.ar false y4))]⟩
theorem Nk (fu:Nat)(call:Aq)(a0 a1:Int)(nn:Nat)(y0 y1:Int)(y2:Nat)(y3:Int)(y4:List PV):Hb fu call a0 a1 (nn+1) y0 y1 y2 y3 y4=(A4 (decide (y3<18)) (Aj (call 63 [.sc (.int .u64 y0),.sc (.int .i64 y1),.sc (.int .i64 y3)]) fun x1 x2=>Ac x2<|Ab x1 fun x3 x4=>Af .u64 x3 fun x5=>Ac x4<|Aj (call 62 [.sc (.int .i64 y1),.sc (.int .i64 y3),.sc (.int .i64 0),.sc (.int .i64 15),.sc (.int .u64 x5)]) fun x6 x7=>Ac x7<|Ab x6 fun x8 x9=>Af .u64 x8 fun Cj=>Ac x9<|Ay (decide (y2*1<=List.length y4)&&true&&decide ((y2+1)*8<=1099511627776)&&decide (y2+1<=1099511627776))<|Aa (y2+1) fun Bp=>Aa (List.take (y2*1) y4++[.sc (.int .u64 Cj)]) fun Cz=>Aa (IntKind.wrap .i64 (y3+1)) fun C9=>Hb fu call a0 a1 (nn) (y0) (y1) Bp C9 Cz) (Ay (decide (0+y2*1<=List.length y4))<|Aj (call 65 [.sc (.int .i64 y1),.lst false 1 y2 (List.take (y2*1) (List.drop 0 y4))]) fun Cq C8=>Ac C8<|Ab Cq fun Dh Dt=>Af .u64 Dh fun D6=>Ac Dt<|some (A0.mk [.sc (.int .u64 D6)] []))):=by kernel_rfl
theorem Acd (fu d:Nat)(a0 a1:Int):Ae C0 Tryz.prog fu (d+1) Sd [.sc (.int .u64 a0),.sc (.int .i64 a1)]=(fun (call:Aq)=>Hb fu call a0 a1 (fu) (a0) (a1) 0 0 ([])) (Ae C0 Tryz.prog fu d):=by kernel_rfl
abbrev Mh:FuncId:=36
noncomputable def Fz (fu:Nat)(call:Aq)(a0 a1 a2:Int)(nn:Nat)(y0 y1:Int)(y2 y3:Nat)(y4:Int)(y5 y6:List PV):Option A0:=Cw C0 Tryz.prog fu call 36 Tryz.f36 (B5 Tryz.f36) [.sc (.int .u64 a0),.sc (.int .i64 a1),.sc (.int .u64 a2)] [.r,.r,.r,.l,.r,.l] nn ⟨lk [(0,(.sc (.int .u64 y0))),(1,(.sc (.int .i64 y1))),(7,(.view 7 1 0 y2)),(8,(.view 8 1 0 y3)),(9,(.sc (.int .i64 y4)))],Gf [(7,(.ar false y5)),(8,(.ar false y6))]⟩
theorem Jv (fu:Nat)(call:Aq)(a0 a1 a2:Int)(nn:Nat)(y0 y1:Int)(y2 y3:Nat)(y4:Int)(y5 y6:List PV):Fz fu call a0 a1 a2 (nn+1) y0 y1 y2 y3 y4 y5 y6=(A4 (decide (y4<18)) (Ay (decide (0<=y4)&&decide (y4<(↑y2:Int)))<|Af .i64 (List.getD y5 (0+Int.toNat y4*1) .top) fun x7=>Aj (call 63 [.sc (.int .u64 y0),.sc (.int .i64 y1),.sc (.int .i64 y4)]) fun x8 x9=>Ac x9<|Ab x8 fun Cj Bp=>Af .u64 Cj fun Cz=>Ac Bp<|Aj (call 62 [.sc (.int .i64 y1),.sc (.int .i64 y4),.sc (.int .i64 0),.sc (.int .i64 x7),.sc (.int .u64 Cz)]) fun C9 Cq=>Ac Cq<|Ab C9 fun C8 Dh=>Af .u64 C8 fun Dt=>Ac Dh<|Ay (decide (y3*1<=List.length y6)&&true&&decide ((y3+1)*8<=1099511627776)&&decide (y3+1<=1099511627776))<|Aa (y3+1) fun D6=>Aa (List.take (y3*1) y6++[.sc (.int .u64 Dt)]) fun D1=>Aa (IntKind.wrap .i64 (y4+1)) fun Ee=>Fz fu call a0 a1 a2 (nn) (y0) (y1) (y2) D6 Ee (y5) D1) (Ay (decide (y3*1<=List.length y6))<|some (A0.mk [.own 1 y3 (List.take (y3*1) y6)] []))):=by kernel_rfl
theorem V5 (fu d:Nat)(a0 a1 a2:Int):Ae C0 Tryz.prog fu (d+1) Mh [.sc (.int .u64 a0),.sc (.int .i64 a1),.sc (.int .u64 a2)]=(fun (call:Aq)=>Aj (call 61 [.sc (.int .u64 a2)]) fun x1 x2=>Ac x2<|Ab x1 fun x3 x4=>Dp 1 x3 fun x5 x6=>Ac x4<|Fz fu call a0 a1 a2 (fu) (a0) (a1) x5 0 0 x6 ([])) (Ae C0 Tryz.prog fu d):=by kernel_rfl
abbrev M1:FuncId:=39
noncomputable def F8 (fu:Nat)(call:Aq)(a0 a1:Int)(a2n:Nat)(a2:List PV)(nn:Nat)(y0:Int)(y1:Nat)(y2:List PV)(y3 y4:Nat)(y5:Int)(y6 y7:List PV):Option A0:=Cw C0 Tryz.prog fu call 39 Tryz.f39 (B5 Tryz.f39) [.sc (.int .i64 a0),.sc (.int .u64 a1),.lst false 1 a2n a2] [.r,.r,.r,.r,.l,.r,.l] nn ⟨lk [(0,(.sc (.int .i64 y0))),(2,(.lst false 1 y1 y2)),(8,(.view 8 1 0 y3)),(9,(.view 9 1 0 y4)),(10,(.sc (.int .i64 y5)))],Gf [(8,(.ar false y6)),(9,(.ar false y7))]⟩
theorem J9 (fu:Nat)(call:Aq)(a0 a1:Int)(a2n:Nat)(a2:List PV)(nn:Nat)(y0:Int)(y1:Nat)(y2:List PV)(y3 y4:Nat)(y5:Int)(y6 y7:List PV):F8 fu call a0 a1 a2n a2 (nn+1) y0 y1 y2 y3 y4 y5 y6 y7=(A4 (decide (y5<18)) (Ay (decide (0<=y5)&&decide (y5<(↑y3:Int)))<|Af .i64 (List.getD y6 (0+Int.toNat y5*1) .top) fun x7=>Ay (decide (0<=y5)&&decide (y5<(↑y1:Int)))<|Af .u64 (List.getD y2 (Int.toNat y5*1) .top) fun x8=>Aj (call 62 [.sc (.int .i64 y0),.sc (.int .i64 y5),.sc (.int .i64 x7),.sc (.int .i64 15),.sc (.int .u64 x8)]) fun x9 Cj=>Ac Cj<|Ab x9 fun Bp Cz=>Af .u64 Bp fun C9=>Ac Cz<|Ay (decide (y4*1<=List.length y7)&&true&&decide ((y4+1)*8<=1099511627776)&&decide (y4+1<=1099511627776))<|Aa (y4+1) fun Cq=>Aa (List.take (y4*1) y7++[.sc (.int .u64 C9)]) fun C8=>Aa (IntKind.wrap .i64 (y5+1)) fun Dh=>F8 fu call a0 a1 a2n a2 (nn) (y0) (y1) (y2) (y3) Cq Dh (y6) C8) (Ay (decide (0+y4*1<=List.length y7))<|Aj (call 65 [.sc (.int .i64 y0),.lst false 1 y4 (List.take (y4*1) (List.drop 0 y7))]) fun Dt D6=>Ac D6<|Ab Dt fun D1 Ee=>Af .u64 D1 fun Fq=>Ac Ee<|some (A0.mk [.sc (.int .u64 Fq),.sc (.int .i64 0)] []))):=by kernel_rfl
theorem Xs (fu d:Nat)(a0 a1:Int)(a2n:Nat)(a2:List PV):Ae C0 Tryz.prog fu (d+1) M1 [.sc (.int .i64 a0),.sc (.int .u64 a1),.lst false 1 a2n a2]=(fun (call:Aq)=>A4 ((↑a2n:Int) != 18) (some (A0.mk [.sc (.int .u64 0),.sc (.int .i64 4)] [])) (Aj (call 61 [.sc (.int .u64 a1)]) fun x1 x2=>Ac x2<|Ab x1 fun x3 x4=>Dp 1 x3 fun x5 x6=>Ac x4<|F8 fu call a0 a1 a2n a2 (fu) (a0) (a2n) (a2) x5 0 0 x6 ([]))) (Ae C0 Tryz.prog fu d):=by kernel_rfl
abbrev Od:FuncId:=40
theorem Y5 (fu d:Nat)(a0 a1 a2:Int):Ae C0 Tryz.prog fu (d+1) Od [.sc (.int .i64 a0),.sc (.int .u64 a1),.sc (.int .u64 a2)]=(fun (call:Aq)=>Aa (IntKind.wrap .u64 a0) fun x1=>Aj (call 38 [.lst false 1 3 [.sc (.int .u64 x1),.sc (.int .u64 a1),.sc (.int .u64 a2)]]) fun x2 x3=>Ac x3<|Ab x2 fun x4 x5=>Dp 1 x4 fun x6 x7=>Ac x5<|Ay (decide (0+x6*1<=List.length x7))<|Aj (call 46 [.sc (.int .i64 3),.lst false 1 x6 (List.take (x6*1) (List.drop 0 x7))]) fun x8 x9=>Ac x9<|Ab x8 fun Cj Bp=>Af .u64 Cj fun Cz=>Ac Bp<|some (A0.mk [.sc (.int .u64 Cz)] [])) (Ae C0 Tryz.prog fu d):=by kernel_rfl
abbrev Rh:FuncId:=37
theorem R0 (fu d:Nat)(a0 a1 a2:Int):Ae C0 Tryz.prog fu (d+1) Rh [.sc (.int .u64 a0),.sc (.int .i64 a1),.sc (.int .i64 a2)]=(fun (call:Aq)=>A4 (a1==0) (Aj (call 64 [.sc (.int .u64 a0),.sc (.int .i64 a2)]) fun x1 x2=>Ac x2<|Ab x1 fun x3 x4=>Af .u64 x3 fun x5=>Ac x4<|some (A0.mk [.sc (.int .u64 x5)] [])) (Aa (IntKind.wrap .i64 (a1-1)) fun x6=>Aa (IntKind.wrap .i64 (2*a2)) fun x7=>Aj (call 37 [.sc (.int .u64 a0),.sc (.int .i64 x6),.sc (.int .i64 x7)]) fun x8 x9=>Ac x9<|Ab x8 fun Cj Bp=>Af .u64 Cj fun Cz=>Ac Bp<|Aa (IntKind.wrap .i64 (a1-1)) fun C9=>Aa (IntKind.wrap .i64 (2*a2)) fun Cq=>Aa (IntKind.wrap .i64 (Cq+1)) fun C8=>Aj (call 37 [.sc (.int .u64 a0),.sc (.int .i64 C9),.sc (.int .i64 C8)]) fun Dh Dt=>Ac Dt<|Ab Dh fun D6 D1=>Af .u64 D6 fun Ee=>Ac D1<|Aj (call 40 [.sc (.int .i64 a1),.sc (.int .u64 Cz),.sc (.int .u64 Ee)]) fun Fq Cl=>Ac Cl<|Ab Fq fun Fy Dn=>Af .u64 Fy fun B3=>Ac Dn<|some (A0.mk [.sc (.int .u64 B3)] []))) (Ae C0 Tryz.prog fu d):=by kernel_rfl
abbrev O8:FuncId:=34
theorem Zj (fu d:Nat)(a0 a1:Int):Ae C0 Tryz.prog fu (d+1) O8 [.sc (.int .u64 a0),.sc (.int .i64 a1)]=(fun (call:Aq)=>Aj (call 35 [.sc (.int .i64 a1)]) fun x1 x2=>Ac x2<|Ab x1 fun x3 x4=>Bw x3 fun x5=>Ac x4<|A4 (!x5) (some (A0.mk [.agg [.sc (.int .i64 0),.sc (.int .u64 0)],.sc (.int .i64 9)] [])) (Aj (call 37 [.sc (.int .u64 a0),.sc (.int .i64 a1),.sc (.int .i64 0)]) fun x6 x7=>Ac x7<|Ab x6 fun x8 x9=>Af .u64 x8 fun Cj=>Ac x9<|some (A0.mk [.agg [.sc (.int .i64 a1),.sc (.int .u64 Cj)],.sc (.int .i64 0)] []))) (Ae C0 Tryz.prog fu d):=by kernel_rfl
abbrev R9:FuncId:=17
noncomputable def Hh (fu:Nat)(call:Aq)(a0 a1:Int)(a2 a3:Int)(nn:Nat)(y0 y1:Int)(y2 y3 y4:Int)(y5 y6:Nat)(y7 y8:List PV)(y9:Int)(y10 Eb:Nat)(Ev Hf:List PV):Option A0:=Cw C0 Tryz.prog fu call 17 Tryz.f17 (B5 Tryz.f17) [.sc (.int .u64 a0),.sc (.int .i64 a1),.sc (.int .i64 a2),.sc (.int .u64 a3)] [.r,.r,.r,.l,.r,.l] nn ⟨lk [(0,(.sc (.int .u64 y0))),(1,(.sc (.int .i64 y1))),(2,(.sc (.int .i64 y2))),(8,(.ptr 8 0)),(10,(.ptr 10 0)),(11,(.sc (.int .i64 y3)))],Gf [(8,(.st [(.sc (.int .i64 y4)),(.view 112 1 0 y5),(.view 164 1 0 y6)])),(112,(.ar false y7)),(164,(.ar false y8)),(10,(.st [(.sc (.int .i64 y9)),(.view 114 1 0 y10),(.view 166 1 0 Eb)])),(114,(.ar false Ev)),(166,(.ar false Hf))]⟩
theorem M4 (fu:Nat)(call:Aq)(a0 a1:Int)(a2 a3:Int)(nn:Nat)(y0 y1:Int)(y2 y3 y4:Int)(y5 y6:Nat)(y7 y8:List PV)(y9:Int)(y10 Eb:Nat)(Ev Hf:List PV):Hh fu call a0 a1 a2 a3 (nn+1) y0 y1 y2 y3 y4 y5 y6 y7 y8 y9 y10 Eb Ev Hf=(A4 (decide (y3<y1)) (Aa (IntKind.wrap .u64 y3) fun Cq=>Ay (decide (0<=Cq))<|Aa (El .i64 y2 Cq) fun C8=>Aa (Eu .i64 C8 1) fun Dh=>Aj (call 37 [.sc (.int .u64 y0),.sc (.int .i64 y3),.sc (.int .i64 Dh)]) fun Dt D6=>Ac D6<|Ab Dt fun D1 Ee=>Af .u64 D1 fun Fq=>Ac Ee<|Ay (decide (Eb*1<=List.length Hf)&&true&&decide ((Eb+1)*8<=1099511627776)&&decide (Eb+1<=1099511627776))<|Aa (Eb+1) fun Cl=>Aa (List.take (Eb*1) Hf++[.sc (.int .u64 Fq)]) fun Fy=>Aa (IntKind.wrap .i64 (y3+1)) fun Dn=>Hh fu call a0 a1 a2 a3 (nn) (y0) (y1) (y2) Dn (y4) (y5) (y6) (y7) (y8) (y9) (y10) Cl (Ev) Fy) (Ay (decide (y10*1<=List.length Ev))<|Ay (decide (Eb*1<=List.length Hf))<|some (A0.mk [.agg [.sc (.int .i64 y9),.own 1 y10 (List.take (y10*1) Ev),.own 1 Eb (List.take (Eb*1) Hf)],.sc (.int .i64 0)] []))):=by kernel_rfl
theorem Acg (fu d:Nat)(a0 a1:Int)(a2 a3:Int):Ae C0 Tryz.prog fu (d+1) R9 [.sc (.int .u64 a0),.sc (.int .i64 a1),.sc (.int .i64 a2),.sc (.int .u64 a3)]=(fun (call:Aq)=>Aj (call 35 [.sc (.int .i64 a1)]) fun x1 x2=>Ac x2<|Ab x1 fun x3 x4=>Bw x3 fun x5=>Ac x4<|A4 (!x5) (some (A0.mk [.agg [.sc (.int .i64 0),.own 1 0 [],.own 1 0 []],.sc (.int .i64 9)] [])) (A4 (decide (a2<0)) (some (A0.mk [.agg [.sc (.int .i64 0),.own 1 0 [],.own 1 0 []],.sc (.int .i64 9)] [])) (Aa (IntKind.wrap .u64 a1) fun x6=>Ay (decide (0<=x6))<|Aa (Fk .i64 1 x6) fun x7=>A4 (decide (a2>=x7)) (some (A0.mk [.agg [.sc (.int .i64 0),.own 1 0 [],.own 1 0 []],.sc (.int .i64 9)] [])) (Aj (call 36 [.sc (.int .u64 a0),.sc (.int .i64 a2),.sc (.int .u64 a3)]) fun x8 x9=>Ac x9<|Ab x8 fun Cj Bp=>Dp 1 Cj fun Cz C9=>Ac Bp<|Hh fu call a0 a1 a2 a3 (fu) (a0) (a1) (a2) 0 0 0 0 ([]) ([]) (a2) Cz 0 C9 ([]))))) (Ae C0 Tryz.prog fu d):=by kernel_rfl
abbrev Oy:FuncId:=19
noncomputable def Fh (fu:Nat)(call:Aq)(a0_0 a0_1:Int)(a1 Ql:Int)(Jg:Nat)(Tv:List PV)(I8:Nat)(V1:List PV)(nn:Nat)(y0 y1:Int)(y2 y3 y4:Int)(y5:Nat)(y6:List PV)(y7:Nat)(y8:List PV):Option A0:=Cw C0 Tryz.prog fu call 19 Tryz.f19 (B5 Tryz.f19) [.agg [.sc (.int .i64 a0_0),.sc (.int .u64 a0_1)],.sc (.int .u64 a1),.agg [.sc (.int .i64 Ql),.lst false 1 Jg Tv,.lst false 1 I8 V1]] [.r,.r,.r,.r,.l,.r,.l] nn ⟨lk [(3,(.ptr 3 0)),(5,(.ptr 5 0)),(7,(.sc (.int .u64 y0))),(9,(.sc (.int .i64 y1)))],Gf [(3,(.st [(.sc (.int .i64 y2)),(.sc (.int .u64 y3))])),(5,(.st [(.sc (.int .i64 y4)),(.lst false 1 y5 y6),(.lst false 1 y7 y8)]))]⟩
theorem Kv (fu:Nat)(call:Aq)(a0_0 a0_1:Int)(a1 Ql:Int)(Jg:Nat)(Tv:List PV)(I8:Nat)(V1:List PV)(nn:Nat)(y0 y1:Int)(y2 y3 y4:Int)(y5:Nat)(y6:List PV)(y7:Nat)(y8:List PV):Fh fu call a0_0 a0_1 a1 Ql Jg Tv I8 V1 (nn+1) y0 y1 y2 y3 y4 y5 y6 y7 y8=(A4 (decide (y1<y2)) (Aa (IntKind.wrap .u64 y1) fun Dh=>Ay (decide (0<=Dh))<|Aa (El .i64 y4 Dh) fun Dt=>Aa (Ez .i64 Dt 1) fun D6=>A4 (D6==0) (Aa (IntKind.wrap .i64 (y1+1)) fun D1=>Ay (decide (0<=y1)&&decide (y1<(↑y7:Int)))<|Af .u64 (List.getD y8 (Int.toNat y1*1) .top) fun Ee=>Aj (call 40 [.sc (.int .i64 D1),.sc (.int .u64 y0),.sc (.int .u64 Ee)]) fun Fq Cl=>Ac Cl<|Ab Fq fun Fy Dn=>Af .u64 Fy fun B3=>Ac Dn<|Aa (IntKind.wrap .i64 (y1+1)) fun Ew=>Fh fu call a0_0 a0_1 a1 Ql Jg Tv I8 V1 (nn) B3 Ew (y2) (y3) (y4) (y5) (y6) (y7) (y8)) (Aa (IntKind.wrap .i64 (y1+1)) fun F4=>Ay (decide (0<=y1)&&decide (y1<(↑y7:Int)))<|Af .u64 (List.getD y8 (Int.toNat y1*1) .top) fun Bm=>Aj (call 40 [.sc (.int .i64 F4),.sc (.int .u64 Bm),.sc (.int .u64 y0)]) fun Ci Gx=>Ac Gx<|Ab Ci fun G2 Ib=>Af .u64 G2 fun Hz=>Ac Ib<|Aa (IntKind.wrap .i64 (y1+1)) fun I4=>Fh fu call a0_0 a0_1 a1 Ql Jg Tv I8 V1 (nn) Hz I4 (y2) (y3) (y4) (y5) (y6) (y7) (y8))) (A4 (y0 != y3) (some (A0.mk [.sc (.int .i64 15)] [])) (some (A0.mk [.sc (.int .i64 0)] [])))):=by kernel_rfl
theorem Yv (fu d:Nat)(a0_0 a0_1:Int)(a1 Ql:Int)(Jg:Nat)(Tv:List PV)(I8:Nat)(V1:List PV):Ae C0 Tryz.prog fu (d+1) Oy [.agg [.sc (.int .i64 a0_0),.sc (.int .u64 a0_1)],.sc (.int .u64 a1),.agg [.sc (.int .i64 Ql),.lst false 1 Jg Tv,.lst false 1 I8 V1]]=(fun (call:Aq)=>Aj (call 35 [.sc (.int .i64 a0_0)]) fun x1 x2=>Ac x2<|Ab x1 fun x3 x4=>Bw x3 fun x5=>Ac x4<|A4 (!x5) (some (A0.mk [.sc (.int .i64 9)] [])) (A4 (decide (Ql<0)) (some (A0.mk [.sc (.int .i64 9)] [])) (Aa (IntKind.wrap .u64 a0_0) fun x6=>Ay (decide (0<=x6))<|Aa (Fk .i64 1 x6) fun x7=>A4 (decide (Ql>=x7)) (some (A0.mk [.sc (.int .i64 9)] [])) (A4 ((↑Jg:Int) != 18) (some (A0.mk [.sc (.int .i64 4)] [])) (A4 ((↑I8:Int) != a0_0) (some (A0.mk [.sc (.int .i64 4)] [])) (Aj (call 39 [.sc (.int .i64 Ql),.sc (.int .u64 a1),.lst false 1 Jg Tv]) fun x8 x9=>Ac x9<|Ab x8 fun Cj Bp=>Af .u64 Cj fun Cz=>Ab Bp fun C9 Cq=>Af .i64 C9 fun C8=>Ac Cq<|Fh fu call a0_0 a0_1 a1 Ql Jg Tv I8 V1 (fu) Cz 0 (a0_0) (a0_1) (Ql) (Jg) (Tv) (I8) (V1))))))) (Ae C0 Tryz.prog fu d):=by kernel_rfl
abbrev Kz:FuncId:=68
theorem Uu (fu d:Nat)(a0_0 a0_1:Int):Ae C0 Tryz.prog fu (d+1) Kz [.agg [.sc (.int .i64 a0_0),.sc (.int .u64 a0_1)]]=(fun (call:Aq)=>Aj (call 35 [.sc (.int .i64 a0_0)]) fun x1 x2=>Ac x2<|Ab x1 fun x3 x4=>Bw x3 fun x5=>Ac x4<|A4 (!x5) (some (A0.mk [.own 1 0 [],.sc (.int .i64 9)] [])) (Aa (IntKind.wrap .u8 a0_0) fun x6=>Aj (call 38 [.lst false 1 1 [.sc (.int .u64 a0_1)]]) fun x7 x8=>Ac x8<|Ab x7 fun x9 Cj=>Dp 1 x9 fun Bp Cz=>Ac Cj<|Ay (decide (0+Bp*1<=List.length Cz))<|Ay (decide (List.length (List.take (Bp*1) (List.drop 0 Cz))=Bp*1)&&decide ((1+Bp)*1<=1099511627776)&&decide (1+Bp<=1099511627776))<|Aa (1+Bp) fun C9=>Aa ([.sc (.int .u8 x6)]++List.take (Bp*1) (List.drop 0 Cz)) fun Cq=>Ay (decide (C9*1<=List.length Cq))<|some (A0.mk [.own 1 C9 (List.take (C9*1) Cq),.sc (.int .i64 0)] []))) (Ae C0 Tryz.prog fu d):=by kernel_rfl
abbrev Lo:FuncId:=43
theorem V0 (fu d a0n:Nat)(a0:List PV):Ae C0 Tryz.prog fu (d+1) Lo [.lst false 1 a0n a0]=(fun (call:Aq)=>A4 ((↑a0n:Int) != 9) (some (A0.mk [.agg [.sc (.int .i64 0),.sc (.int .u64 0)],.sc (.int .i64 2)] [])) (Ay (decide (0<(↑a0n:Int)))<|Af .u8 (List.getD a0 0 .top) fun x1=>Aa (IntKind.wrap .i64 x1) fun x2=>Aj (call 35 [.sc (.int .i64 x2)]) fun x3 x4=>Ac x4<|Ab x3 fun x5 x6=>Bw x5 fun x7=>Ac x6<|A4 (!x7) (some (A0.mk [.agg [.sc (.int .i64 0),.sc (.int .u64 0)],.sc (.int .i64 2)] [])) (Ay (decide (0<(↑a0n:Int)))<|Af .u8 (List.getD a0 0 .top) fun x8=>Aa (IntKind.wrap .i64 x8) fun x9=>Ay (decide (1<=a0n)&&decide (a0n<=a0n))<|Aa (a0n-1) fun Cj=>Aa (List.take (Cj*1) (List.drop 1 a0)) fun Bp=>Aj (call 53 [.lst false 1 Cj Bp]) fun Cz C9=>Ac C9<|Ab Cz fun Cq C8=>Af .u64 Cq fun Dh=>Ac C8<|some (A0.mk [.agg [.sc (.int .i64 x9),.sc (.int .u64 Dh)],.sc (.int .i64 0)] [])))) (Ae C0 Tryz.prog fu d):=by kernel_rfl
abbrev H5:FuncId:=18
theorem Pb (fu d:Nat)(a0_0:Int)(Xb:Nat)(a0_1:List PV)(a0_2n:Nat)(a0_2:List PV):Ae C0 Tryz.prog fu (d+1) H5 [.agg [.sc (.int .i64 a0_0),.lst false 1 Xb a0_1,.lst false 1 a0_2n a0_2]]=(fun (call:Aq)=>A4 (decide ((↑a0_2n:Int)>4)) (some (A0.mk [.own 1 0 [],.sc (.int .i64 9)] [])) (A4 (decide (a0_0<0)) (some (A0.mk [.own 1 0 [],.sc (.int .i64 9)] [])) (Aa (IntKind.wrap .u64 (↑a0_2n:Int)) fun x1=>Ay (decide (0<=x1))<|Aa (Fk .i64 1 x1) fun x2=>A4 (decide (a0_0>=x2)) (some (A0.mk [.own 1 0 [],.sc (.int .i64 9)] [])) (A4 ((↑Xb:Int) != 18) (some (A0.mk [.own 1 0 [],.sc (.int .i64 4)] [])) (Aa (IntKind.wrap .u8 a0_0) fun x3=>Aa (IntKind.wrap .u8 (↑a0_2n:Int)) fun x4=>Aj (call 38 [.lst false 1 Xb a0_1]) fun x5 x6=>Ac x6<|Ab x5 fun x7 x8=>Dp 1 x7 fun x9 Cj=>Ac x8<|Ay (decide (0+x9*1<=List.length Cj))<|Ay (decide (List.length (List.take (x9*1) (List.drop 0 Cj))=x9*1)&&decide ((2+x9)*1<=1099511627776)&&decide (2+x9<=1099511627776))<|Aa (2+x9) fun Bp=>Aa ([.sc (.int .u8 x3),.sc (.int .u8 x4)]++List.take (x9*1) (List.drop 0 Cj)) fun Cz=>Aj (call 38 [.lst false 1 a0_2n a0_2]) fun C9 Cq=>Ac Cq<|Ab C9 fun C8 Dh=>Dp 1 C8 fun Dt D6=>Ac Dh<|Ay (decide (0+Dt*1<=List.length D6))<|Ay (decide (Bp*1<=List.length Cz)&&decide (List.length (List.take (Dt*1) (List.drop 0 D6))=Dt*1)&&decide ((Bp+Dt)*1<=1099511627776)&&decide (Bp+Dt<=1099511627776))<|Aa (Bp+Dt) fun D1=>Aa (List.take (Bp*1) Cz++List.take (Dt*1) (List.drop 0 D6)) fun Ee=>Ay (decide (D1*1<=List.length Ee))<|some (A0.mk [.own 1 D1 (List.take (D1*1) Ee),.sc (.int .i64 0)] [])))))) (Ae C0 Tryz.prog fu d):=by kernel_rfl
abbrev H2:FuncId:=32
noncomputable def Hl (fu:Nat)(call:Aq)(a0n:Nat)(a0:List PV)(nn y0:Nat)(y1:List PV)(y2:Int)(y3 y4:Nat)(y5 y6:List PV):Option A0:=Cw C0 Tryz.prog fu call 32 Tryz.f32 (B5 Tryz.f32) [.lst false 1 a0n a0] [.r] nn ⟨lk [(0,(.lst false 1 y0 y1)),(2,(.ptr 2 0))],Gf [(2,(.st [(.sc (.int .i64 y2)),(.view 162 1 0 y3),(.view 242 1 0 y4)])),(162,(.ar false y5)),(242,(.ar false y6))]⟩
noncomputable def De (fu:Nat)(call:Aq)(a0n:Nat)(a0:List PV)(nn y0:Nat)(y1:List PV)(y2 y3:Int)(y4 y5:Nat)(y6 y7:List PV)(y8:Int)(y9 y10:Nat)(Eb Ev:List PV):Option A0:=Cw C0 Tryz.prog fu call 32 Tryz.f32 (B5 Tryz.f32) [.lst false 1 a0n a0] [.r,.r,.r,.l,.r,.l] nn ⟨lk [(0,(.lst false 1 y0 y1)),(2,(.ptr 2 0)),(4,(.ptr 4 0)),(5,(.sc (.int .i64 y2)))],Gf [(2,(.st [(.sc (.int .i64 y3)),(.view 162 1 0 y4),(.view 242 1 0 y5)])),(162,(.ar false y6)),(242,(.ar false y7)),(4,(.st [(.sc (.int .i64 y8)),(.view 164 1 0 y9),(.view 244 1 0 y10)])),(164,(.ar false Eb)),(244,(.ar false Ev))]⟩
theorem Mo (fu:Nat)(call:Aq)(a0n:Nat)(a0:List PV)(nn:Nat)(hnn:0<nn)(y0:Nat)(y1:List PV)(y2:Int)(y3 y4:Nat)(y5 y6:List PV):Hl fu call a0n a0 nn y0 y1 y2 y3 y4 y5 y6=(Ay (decide (0<(↑y0:Int)))<|Af .u8 (List.getD y1 0 .top) fun C9=>Aa (IntKind.wrap .i64 C9) fun Cq=>De fu call a0n a0 (fu) (y0) (y1) 0 (y2) (y3) (y4) (y5) (y6) Cq 0 0 ([]) ([])):=by cases nn with|zero=>exact absurd hnn (Nat.lt_irrefl 0)|succ nn=>kernel_rfl
theorem Ml (fu:Nat)(call:Aq)(a0n:Nat)(a0:List PV)(nn y0:Nat)(y1:List PV)(y2 y3:Int)(y4 y5:Nat)(y6 y7:List PV)(y8:Int)(y9 y10:Nat)(Eb Ev:List PV):De fu call a0n a0 (nn+1) y0 y1 y2 y3 y4 y5 y6 y7 y8 y9 y10 Eb Ev=(Ay (decide (1<(↑y0:Int)))<|Af .u8 (List.getD y1 1 .top) fun C8=>Aa (IntKind.wrap .i64 C8) fun Dh=>Aa (IntKind.wrap .i64 (18+Dh)) fun Dt=>A4 (decide (y2<Dt)) (Aa (IntKind.wrap .i64 (8*y2)) fun D6=>Aa (IntKind.wrap .i64 (2+D6)) fun D1=>Aa (IntKind.wrap .i64 (8*y2)) fun Ee=>Aa (IntKind.wrap .i64 (10+Ee)) fun Fq=>Ay (decide (0<=D1))<|Ay (decide (0<=Fq))<|Ay (decide (Int.toNat D1<=Int.toNat Fq)&&decide (Int.toNat Fq<=y0))<|Aa (Int.toNat Fq-Int.toNat D1) fun Cl=>Aa (List.take (Cl*1) (List.drop (Int.toNat D1*1) y1)) fun Fy=>Aj (call 53 [.lst false 1 Cl Fy]) fun Dn B3=>Ac B3<|Ab Dn fun Ew F4=>Af .u64 Ew fun Bm=>Ac F4<|A4 (decide (y2<18)) (Ay (decide (y9*1<=List.length Eb)&&true&&decide ((y9+1)*8<=1099511627776)&&decide (y9+1<=1099511627776))<|Aa (y9+1) fun Ci=>Aa (List.take (y9*1) Eb++[.sc (.int .u64 Bm)]) fun Gx=>Aa (IntKind.wrap .i64 (y2+1)) fun G2=>De fu call a0n a0 (nn) (y0) (y1) G2 (y3) (y4) (y5) (y6) (y7) (y8) Ci (y10) Gx (Ev)) (Ay (decide (y10*1<=List.length Ev)&&true&&decide ((y10+1)*8<=1099511627776)&&decide (y10+1<=1099511627776))<|Aa (y10+1) fun Ib=>Aa (List.take (y10*1) Ev++[.sc (.int .u64 Bm)]) fun Hz=>Aa (IntKind.wrap .i64 (y2+1)) fun I4=>De fu call a0n a0 (nn) (y0) (y1) I4 (y3) (y4) (y5) (y6) (y7) (y8) (y9) Ib (Eb) Hz)) (Ay (decide (y9*1<=List.length Eb))<|Ay (decide (y10*1<=List.length Ev))<|some (A0.mk [.agg [.sc (.int .i64 y8),.own 1 y9 (List.take (y9*1) Eb),.own 1 y10 (List.take (y10*1) Ev)],.sc (.int .i64 0)] []))):=by kernel_rfl
theorem O4 (fu d a0n:Nat)(a0:List PV):Ae C0 Tryz.prog fu (d+1) H2 [.lst false 1 a0n a0]=(fun (call:Aq)=>A4 (decide ((↑a0n:Int)<2)) (some (A0.mk [.agg [.sc (.int .i64 0),.own 1 0 [],.own 1 0 []],.sc (.int .i64 2)] [])) (Ay (decide (1<(↑a0n:Int)))<|Af .u8 (List.getD a0 1 .top) fun x1=>Aa (IntKind.wrap .i64 x1) fun x2=>A4 (decide (x2>4)) (some (A0.mk [.agg [.sc (.int .i64 0),.own 1 0 [],.own 1 0 []],.sc (.int .i64 2)] [])) (Ay (decide (0<(↑a0n:Int)))<|Af .u8 (List.getD a0 0 .top) fun x3=>Aa (IntKind.wrap .i64 x3) fun x4=>Ay (decide (1<(↑a0n:Int)))<|Af .u8 (List.getD a0 1 .top) fun x5=>Aa (IntKind.wrap .u64 x5) fun x6=>Ay (decide (0<=x6))<|Aa (Fk .i64 1 x6) fun x7=>A4 (decide (x4>=x7)) (some (A0.mk [.agg [.sc (.int .i64 0),.own 1 0 [],.own 1 0 []],.sc (.int .i64 2)] [])) (Ay (decide (1<(↑a0n:Int)))<|Af .u8 (List.getD a0 1 .top) fun x8=>Aa (IntKind.wrap .i64 x8) fun x9=>Aa (IntKind.wrap .i64 (18+x9)) fun Cj=>Aa (IntKind.wrap .i64 (8*Cj)) fun Bp=>Aa (IntKind.wrap .i64 (2+Bp)) fun Cz=>A4 ((↑a0n:Int) != Cz) (some (A0.mk [.agg [.sc (.int .i64 0),.own 1 0 [],.own 1 0 []],.sc (.int .i64 2)] [])) (Hl fu call a0n a0 (fu) (a0n) (a0) 0 0 0 ([]) ([])))))) (Ae C0 Tryz.prog fu d):=by kernel_rfl
abbrev Pa:FuncId:=52
noncomputable def Gk (fu:Nat)(call:Aq)(a0 a1 a2:Int)(nn:Nat)(y0 y1 y2:Int)(y3:Nat)(y4:Int)(y5:List PV):Option A0:=Cw C0 Tryz.prog fu call 52 Tryz.f52 (B5 Tryz.f52) [.sc (.int .u64 a0),.sc (.int .u64 a1),.sc (.int .i64 a2)] [.r,.r,.r,.l,.r,.l] nn ⟨lk [(0,(.sc (.int .u64 y0))),(1,(.sc (.int .u64 y1))),(2,(.sc (.int .i64 y2))),(7,(.view 7 1 0 y3)),(8,(.sc (.int .i64 y4)))],Gf [(7,(.ar false y5))]⟩
theorem Hy (fu:Nat)(call:Aq)(a0 a1 a2:Int)(nn:Nat)(y0 y1 y2:Int)(y3:Nat)(y4:Int)(y5:List PV):Gk fu call a0 a1 a2 (nn+1) y0 y1 y2 y3 y4 y5=(A4 (decide ((↑y3:Int)<y2)) (Aa (IntKind.wrap .u64 y4) fun x3=>Aj (call 38 [.lst false 1 2 [.sc (.int .u64 y1),.sc (.int .u64 x3)]]) fun x4 x5=>Ac x5<|Ab x4 fun x6 x7=>Dp 1 x6 fun x8 x9=>Ac x7<|Ay (decide (0+x8*1<=List.length x9))<|Aj (call 79 [.sc (.int .u64 y0),.sc (.int .i64 5),.lst false 1 x8 (List.take (x8*1) (List.drop 0 x9))]) fun Cj Bp=>Ac Bp<|Ab Cj fun Cz C9=>Af .u64 Cz fun Cq=>Ac C9<|Aj (call 38 [.lst false 1 1 [.sc (.int .u64 Cq)]]) fun C8 Dh=>Ac Dh<|Ab C8 fun Dt D6=>Dp 1 Dt fun D1 Ee=>Ac D6<|Ay (decide (0+D1*1<=List.length Ee))<|Ay (decide (y3*1<=List.length y5)&&decide (List.length (List.take (D1*1) (List.drop 0 Ee))=D1*1)&&decide ((y3+D1)*1<=1099511627776)&&decide (y3+D1<=1099511627776))<|Aa (y3+D1) fun Fq=>Aa (List.take (y3*1) y5++List.take (D1*1) (List.drop 0 Ee)) fun Cl=>Aa (IntKind.wrap .i64 (y4+1)) fun Fy=>Gk fu call a0 a1 a2 (nn) (y0) (y1) (y2) Fq Fy Cl) (Ay (decide (0<=y2))<|Ay (decide (Int.toNat y2<=y3))<|Aa (Int.toNat y2-0) fun Dn=>Ay (decide (Dn*1<=List.length y5))<|some (A0.mk [.own 1 Dn (List.take (Dn*1) y5)] []))):=by kernel_rfl
theorem Yf (fu d:Nat)(a0 a1 a2:Int):Ae C0 Tryz.prog fu (d+1) Pa [.sc (.int .u64 a0),.sc (.int .u64 a1),.sc (.int .i64 a2)]=(fun (call:Aq)=>Aa (if a2<0 then 0 else a2) fun x1=>Aa (if 1024<x1 then 1024 else x1) fun x2=>Gk fu call a0 a1 a2 (fu) (a0) (a1) x2 0 0 ([])) (Ae C0 Tryz.prog fu d):=by kernel_rfl
end
section
def Avs (seed leaf chain:Int):Int:=A4w seed 1 (A7 [IntKind.wrap .u64 leaf,IntKind.wrap .u64 chain])
def Ap4 (seed leaf:Int)(c:Nat):Int:=Vv leaf c 15 0 (Avs seed leaf c)
def Pn (seed leaf:Int):Int:=Ahv leaf ((List.range 18).map (Ap4 seed leaf))
def Aqd (seed leaf m:Int)(c:Nat):Int:=Vv leaf c (dg m c).toNat 0 (Avs seed leaf c)
def Aa2 (seed leaf m:Int):List Int:=(List.range 18).map (Aqd seed leaf m)
def Kc (seed:Int):Nat->Int->Int
 |0,i=>Pn seed i
 |l+1,i=>Ob ((l+1:Nat):Int) (Kc seed l (2*i)) (Kc seed l (2*i+1))
theorem Kn {α:Type}(f:Nat->α)(i:Nat):(List.range (i+1)).map f=(List.range i).map f++[f i]:=by
 rw [List.range_succ,List.map_append];rfl
section
variable {fu d:Nat}
theorem R6 (h:Int):Ae C0 Tryz.prog fu (d+1) Ou [.sc (.int .i64 h)]=some ⟨[.sc (.bool (!Df h))],[]⟩:=by
 rw [Ys];unfold Df;by_cases h0:h<0
 ·simp (disch:=omega) only [B6,h0,decide_true,Bool.true_or,Bn]
 ·have e:decide (h<=4) = !decide (h>4):=by
   by_cases c:h<=4
   ·have:¬h>4:=by omega
    simp [c,this]
   ·have:h>4:=by omega
    simp [c,this]
  simp (disch:=omega) only [B6,h0,decide_false,Bool.false_or,e]
theorem Avc {ws:List Int}(hl:ws.length<=100)(hfu:1000<=fu)(dom:Int):Ae C0 Tryz.prog fu (d+4) Kl [.sc (.int .i64 dom),.lst false 1 (A7 ws).length (Ai .u8 (A7 ws))]=some ⟨[.sc (.int .u64 (Et dom (A7 ws)))],[]⟩:=
 Uv (Vc ws) (by rw [Db];omega) (by omega) (by rw [Db];omega) dom
theorem Ahn {call:Aq}{a0 m:Int}:∀(k nn:Nat)(i:Nat),i+k=16->k<nn ->
  Gy fu call a0 nn m ((List.range i).map (G9 m)).length (Km m i) (15-(i:Int)) (Ai .i64 ((List.range i).map (G9 m)))=some ⟨[.own 1 18 (Ai .i64 (dgs m))],[]⟩
 |_,0,_,_,h=>by omega
 |0,nn+1,i,hi,hn=>by
  have e:i=16:=by omega
  subst e;have hs:=Ll m 16
  have wq:IntKind.wrap .i64 (Int.tdiv (Km m 16) 16)=Km m 16 / 16:=by
   rw [Int.tdiv_eq_ediv_of_nonneg (by omega),Au (by omega) (by omega)]
  have wm:Int.tmod (Km m 16) 16=Km m 16 % 16:=Int.tmod_eq_emod_of_nonneg (by omega)
  have e2:Ai .i64 ((List.range 16).map (G9 m))++[PV.sc (.int .i64 (Km m 16 / 16)),PV.sc (.int .i64 (Km m 16 % 16))]=Ai .i64 (dgs m):=by
   unfold dgs;rw [Ai,Ai,List.flatMap_append];rfl
  have L:(Ai .i64 (dgs m)).length=18:=by rw [As,Awo]
  have tk:List.take 18 (Ai .i64 (dgs m))=Ai .i64 (dgs m):=I2 (by omega)
  have l16:((List.range 16).map (G9 m)).length=16:=by simp
  have L16:=As .i64 ((List.range 16).map (G9 m));have t16:=G4 .i64 ((List.range 16).map (G9 m));rw [l16] at L16 t16 ⊢;rw [Mf,Dj _ _ _ (by omega)]
  simp (disch:=omega) only [B6,wq,wm,Bl,t16,e2,L16,Nat.reduceAdd,L,tk]
 |k+1,nn+1,i,hi,hn=>by
  have ih:=Ahn (call:=call) (a0:=a0) (m:=m) k nn (i+1) (by omega) (by omega)
  have hb:=Tb m i;have hs:=Ll m i;have w1:IntKind.wrap .i64 (4*(15-(i:Int)))=60-4*(i:Int):=by rw [Au (by omega) (by omega)];omega
  have w2:IntKind.wrap .u64 (60-4*(i:Int))=60-4*(i:Int):=B7 (by omega) (by omega)
  have hd:IntKind.wrap .i64 (Ez .u64 (El .u64 m (60-4*(i:Int))) 15)=G9 m i:=rfl;have w15:IntKind.wrap .i64 (15-G9 m i)=15-G9 m i:=Au (by omega) (by omega)
  have ws:IntKind.wrap .i64 (Km m i+(15-G9 m i))=Km m (i+1):=by rw [Au (by omega) (by omega)];rfl
  have wi:IntKind.wrap .i64 (15-(i:Int)-1)=15-((i+1:Nat):Int):=by rw [Au (by omega) (by omega)];omega
  have L:=As .i64 ((List.range i).map (G9 m));have l16:((List.range i).map (G9 m)).length=i:=by simp
  rw [Kn,Ic,List.length_singleton,←Fs] at ih;rw [Mf];simp (disch:=omega) only [B6,w1,w2,hd,w15,ws,wi,Bl,G4,L];exact ih
theorem Ant (hfu:1000<=fu)(m:Int):Ae C0 Tryz.prog fu (d+1) P9 [.sc (.int .u64 m)]=some ⟨[.own 1 18 (Ai .i64 (dgs m))],[]⟩:=by
 rw [Aav];exact Ahn (fu:=fu) (a0:=m) (m:=m) 16 fu 0 (by omega) (by omega)
theorem Aoi {leaf chain:Int}{a0 a1 a2 a3 a4:Int}(hfu:1000<=fu){t:Int}(ht:t<=15):∀(k nn:Nat)(p x:Int),(k:Int)=t-p->0<=p->k<nn ->
  H7 fu (Ae C0 Tryz.prog fu (d+4)) a0 a1 a2 a3 a4 nn leaf chain t x p=some ⟨[.sc (.int .u64 (Vv leaf chain k p x))],[]⟩
 |_,0,_,_,_,_,h=>by omega
 |0,nn+1,p,x,hk,hp,hn=>by
  rw [Ot];simp only [Hw];rw [A3 (by omega),Dj _ _ _ (by omega)]
  rfl
 |k+1,nn+1,p,x,hk,hp,hn=>by
  have w:IntKind.wrap .i64 (p+1)=p+1:=Au (by omega) (by omega)
  have wd:Ae C0 Tryz.prog fu (d+4) Ec [.lst false 1 4 [.sc (.int .u64 (IntKind.wrap .u64 leaf)),.sc (.int .u64 (IntKind.wrap .u64 chain)),.sc (.int .u64 (IntKind.wrap .u64 p)),.sc (.int .u64 x)]]=_:=Lm (ws:=[IntKind.wrap .u64 leaf,IntKind.wrap .u64 chain,IntKind.wrap .u64 p,x]) (by simp) (by omega) (by simp;omega)
  have hs:=Avc (fu:=fu) (d:=d) (ws:=[IntKind.wrap .u64 leaf,IntKind.wrap .u64 chain,IntKind.wrap .u64 p,x]) (by simp) hfu 1
  have ih:=Aoi (leaf:=leaf) (chain:=chain) (a0:=a0) (a1:=a1) (a2:=a2) (a3:=a3) (a4:=a4) hfu ht k nn (p+1) (Et 1 (A7 [IntKind.wrap .u64 leaf,IntKind.wrap .u64 chain,IntKind.wrap .u64 p,x])) (by omega) (by omega) (by omega)
  have L:=As .u8 (A7 [IntKind.wrap .u64 leaf,IntKind.wrap .u64 chain,IntKind.wrap .u64 p,x]);have eR:Vv leaf chain (k+1) p x=Vv leaf chain k (p+1) (Et 1 (A7 [IntKind.wrap .u64 leaf,IntKind.wrap .u64 chain,IntKind.wrap .u64 p,x])):=rfl;rw [eR];generalize A7 [IntKind.wrap .u64 leaf,IntKind.wrap .u64 chain,IntKind.wrap .u64 p,x]=W at wd hs ih L ⊢;have e15:(if (15:Int)<t then 15 else t)=t:=A3 (by omega)
  rw [Ot];simp (disch:=omega) only [B6,e15,wd,Bl,B4,Cm,G4,L,hs,w];exact ih
theorem Aql {leaf chain:Int}(hfu:1000<=fu)(k:Nat)(f t x:Int)(hk:(k:Int)=t-f) (h0:0<=f)(h1:t<=15):Ae C0 Tryz.prog fu (d+5) Ta [.sc (.int .i64 leaf),.sc (.int .i64 chain),.sc (.int .i64 f),.sc (.int .i64 t),.sc (.int .u64 x)]=some ⟨[.sc (.int .u64 (Vv leaf chain k f x))],[]⟩:=by
 rw [Ae3];simp only [Hw];rw [A3 (by omega)]
 exact Aoi hfu h1 k fu f x hk h0 (by omega)
theorem Ais (hfu:1000<=fu)(seed leaf chain:Int):Ae C0 Tryz.prog fu (d+5) On [.sc (.int .u64 seed),.sc (.int .i64 leaf),.sc (.int .i64 chain)]=some ⟨[.sc (.int .u64 (Avs seed leaf chain))],[]⟩:=by
 have wd:Ae C0 Tryz.prog fu (d+4) Ec [.lst false 1 2 [.sc (.int .u64 (IntKind.wrap .u64 leaf)),.sc (.int .u64 (IntKind.wrap .u64 chain))]]=_:=Lm (ws:=[IntKind.wrap .u64 leaf,IntKind.wrap .u64 chain]) (by simp) (by omega) (by simp;omega)
 have hs:=Axl (fu:=fu) (d:=d) (Vc [IntKind.wrap .u64 leaf,IntKind.wrap .u64 chain]) (by rw [Db];simp) (by omega) (by rw [Db];simp;omega) seed 1
 have L:=As .u8 (A7 [IntKind.wrap .u64 leaf,IntKind.wrap .u64 chain]);rw [Y2];unfold Avs;generalize A7 [IntKind.wrap .u64 leaf,IntKind.wrap .u64 chain]=W at wd hs L ⊢;simp (disch:=omega) only [B6,wd,Bl,B4,Cm,G4,L,hs]
theorem Avm (hfu:1000<=fu)(w:Int):Ae C0 Tryz.prog fu (d+1) Ec [.lst false 1 1 [.sc (.int .u64 w)]]=some ⟨[.own 1 8 (Ai .u8 (Cg w))],[]⟩:=by
 have:=Lm (fu:=fu) (d:=d) (ws:=[w]) (by simp) (by omega) (by simp;omega)
 simp only [A7,List.flatMap_cons,List.flatMap_nil,List.append_nil,H0,X2,Cy] at this;exact this
theorem As8 (hfu:1000<=fu)(leaf:Int){E:List Int}(hE:E.length<=50):Ae C0 Tryz.prog fu (d+5) Re [.sc (.int .i64 leaf),.lst false 1 E.length (Ai .u64 E)]=some ⟨[.sc (.int .u64 (Ahv leaf E))],[]⟩:=by
 have w1:=Avm (fu:=fu) (d:=d+3) hfu (IntKind.wrap .u64 leaf);have w2:=Lm (fu:=fu) (d:=d+3) (ws:=E) (by omega) (by omega) (by omega)
 have hs:=Avc (fu:=fu) (d:=d) (ws:=IntKind.wrap .u64 leaf::E) (by simp;omega) hfu 2
 have eW:A7 (IntKind.wrap .u64 leaf::E)=Cg (IntKind.wrap .u64 leaf)++A7 E:=rfl
 have eC:Ai .u8 (Cg (IntKind.wrap .u64 leaf))++Ai .u8 (A7 E)=Ai .u8 (A7 (IntKind.wrap .u64 leaf::E)):=by
  rw [eW,Ai,Ai,Ai,List.flatMap_append]
 have l0:(Cg (IntKind.wrap .u64 leaf)).length=8:=Cy _;have l1:=Db E;have l2:(A7 (IntKind.wrap .u64 leaf::E)).length=8+(A7 E).length:=by rw [eW,Ic,l0]
 have L0:=As .u8 (Cg (IntKind.wrap .u64 leaf));rw [l0] at L0;have L1:=As .u8 (A7 E);have L2:=As .u8 (A7 (IntKind.wrap .u64 leaf::E));have t8:List.take 8 (Ai .u8 (Cg (IntKind.wrap .u64 leaf)))=Ai .u8 (Cg (IntKind.wrap .u64 leaf)):=I2 (by omega)
 have tW:List.take (8+(A7 E).length) (Ai .u8 (A7 (IntKind.wrap .u64 leaf::E)))=Ai .u8 (A7 (IntKind.wrap .u64 leaf::E)):=I2 (by omega)
 rw [l2] at hs;rw [Abp];simp (disch:=omega) only [B6,w1,w2,Bl,B4,Cm,G4,t8,L0,L1,eC,L2,tW,hs];rfl
theorem Alc {a0 a1 seed leaf:Int}(hfu:1000<=fu):∀(k nn i:Nat),i+k=18->k<nn ->
  Hb fu (Ae C0 Tryz.prog fu (d+5)) a0 a1 nn seed leaf ((List.range i).map (Ap4 seed leaf)).length i (Ai .u64 ((List.range i).map (Ap4 seed leaf)))=some ⟨[.sc (.int .u64 (Pn seed leaf))],[]⟩
 |_,0,_,_,h=>by omega
 |0,nn+1,i,hi,hn=>by
  have e:i=18:=by omega
  subst e;have l18:((List.range 18).map (Ap4 seed leaf)).length=18:=by simp
  have en:=As8 (fu:=fu) (d:=d) hfu leaf (E:=(List.range 18).map (Ap4 seed leaf)) (by omega)
  have L:=As .u64 ((List.range 18).map (Ap4 seed leaf));rw [Nk,Dj _ _ _ (by omega)]
  simp (disch:=omega) only [B6,Bl,B4,Cm,G4,L,en];rfl
 |k+1,nn+1,i,hi,hn=>by
  have ih:=Alc (a0:=a0) (a1:=a1) (seed:=seed) (leaf:=leaf) hfu k nn (i+1) (by omega) (by omega)
  have sc:=Ais (fu:=fu) (d:=d) hfu seed leaf i;have rn:=Aql (fu:=fu) (d:=d) (leaf:=leaf) (chain:=i) hfu 15 0 15 (Avs seed leaf i) (by omega) (by omega) (by omega)
  have w:IntKind.wrap .i64 ((i:Int)+1)=((i+1:Nat):Int):=by rw [Au (by omega) (by omega)];omega
  have L:=As .u64 ((List.range i).map (Ap4 seed leaf));have li:((List.range i).map (Ap4 seed leaf)).length=i:=by simp
  rw [Kn,Ic,List.length_singleton,←Fs] at ih;rw [Nk];simp (disch:=omega) only [B6,sc,rn,Bl,G4,L,w];exact ih
theorem A2k (hfu:1000<=fu)(seed leaf:Int):Ae C0 Tryz.prog fu (d+6) Sd [.sc (.int .u64 seed),.sc (.int .i64 leaf)]=some ⟨[.sc (.int .u64 (Pn seed leaf))],[]⟩:=by
 rw [Acd];exact Alc (fu:=fu) (d:=d) hfu 18 fu 0 (by omega) (by omega)
theorem A6i (m:Int){i:Nat}(h:i<18):(dgs m)[i]?=some (dg m i):=by
 unfold dg;rw [List.getD_eq_getElem?_getD,List.getElem?_eq_getElem (by rw [Awo];omega)]
 rfl
theorem Y6 {a0 a1 a2 seed leaf m:Int}(hfu:1000<=fu):∀(k nn i:Nat),i+k=18->k<nn ->
  Fz fu (Ae C0 Tryz.prog fu (d+5)) a0 a1 a2 nn seed leaf 18 ((List.range i).map (Aqd seed leaf m)).length i (Ai .i64 (dgs m)) (Ai .u64 ((List.range i).map (Aqd seed leaf m)))=some ⟨[.own 1 18 (Ai .u64 (Aa2 seed leaf m))],[]⟩
 |_,0,_,_,h=>by omega
 |0,nn+1,i,hi,hn=>by
  have e:i=18:=by omega
  subst e;have l18:((List.range 18).map (Aqd seed leaf m)).length=18:=by simp
  have L:=As .u64 ((List.range 18).map (Aqd seed leaf m));rw [Jv,Dj _ _ _ (by omega)]
  simp (disch:=omega) only [B6,Bl,G4,L];rw [l18];rfl
 |k+1,nn+1,i,hi,hn=>by
  have ih:=Y6 (a0:=a0) (a1:=a1) (a2:=a2) (seed:=seed) (leaf:=leaf) (m:=m) hfu k nn (i+1) (by omega) (by omega)
  have hb:=Aaa m i;have sc:=Ais (fu:=fu) (d:=d) hfu seed leaf i;have rn:=Aql (fu:=fu) (d:=d) (leaf:=leaf) (chain:=i) hfu (dg m i).toNat 0 (dg m i) (Avs seed leaf i) (by omega) (by omega) (by omega)
  have w:IntKind.wrap .i64 ((i:Int)+1)=((i+1:Nat):Int):=by rw [Au (by omega) (by omega)];omega
  have L:=As .u64 ((List.range i).map (Aqd seed leaf m));have li:((List.range i).map (Aqd seed leaf m)).length=i:=by simp
  rw [Kn,Ic,List.length_singleton,←Fs] at ih;rw [Jv];simp (disch:=omega) only [B6,G6,Bl,B4,Qz (A6i m (show i<18 by omega)),sc,rn,G4,L,w]
  exact ih
theorem Aqc (hfu:1000<=fu)(seed leaf m:Int):Ae C0 Tryz.prog fu (d+6) Mh [.sc (.int .u64 seed),.sc (.int .i64 leaf),.sc (.int .u64 m)]=some ⟨[.own 1 18 (Ai .u64 (Aa2 seed leaf m))],[]⟩:=by
 rw [V5];have sp:=Ant (fu:=fu) (d:=d+4) hfu m;simp only [B6,sp];exact Y6 (fu:=fu) (d:=d) hfu 18 fu 0 (by omega) (by omega)
theorem Abe {a0 a1:Int}{n:Nat}{c:List PV}{leaf m:Int}{s:List Int}(hs:s.length=18)(hfu:1000<=fu):∀(k nn i:Nat),i+k=18->k<nn ->
  F8 fu (Ae C0 Tryz.prog fu (d+5)) a0 a1 n c nn leaf s.length (Ai .u64 s) 18 ((List.range i).map (Aaq leaf m s)).length i (Ai .i64 (dgs m)) (Ai .u64 ((List.range i).map (Aaq leaf m s)))=some ⟨[.sc (.int .u64 (Aly leaf m s)),.sc (.int .i64 0)],[]⟩
 |_,0,_,_,h=>by omega
 |0,nn+1,i,hi,hn=>by
  have e:i=18:=by omega
  subst e;have l18:((List.range 18).map (Aaq leaf m s)).length=18:=by simp
  have en:=As8 (fu:=fu) (d:=d) hfu leaf (E:=(List.range 18).map (Aaq leaf m s)) (by omega)
  have L:=As .u64 ((List.range 18).map (Aaq leaf m s));rw [J9,Dj _ _ _ (by omega)]
  simp (disch:=omega) only [B6,Bl,B4,Cm,G4,L,en];rfl
 |k+1,nn+1,i,hi,hn=>by
  have ih:=Abe (a0:=a0) (a1:=a1) (n:=n) (c:=c) (leaf:=leaf) (m:=m) hs hfu k nn (i+1) (by omega) (by omega)
  obtain ⟨x,hx⟩:∃x,s[i]?=some x:=⟨_,List.getElem?_eq_getElem (by omega)⟩
  have hb:=Aaa m i;have rn:=Aql (fu:=fu) (d:=d) (leaf:=leaf) (chain:=i) hfu (15-dg m i).toNat (dg m i) 15 x (by omega) (by omega) (by omega)
  have ev:Vv leaf i (15-dg m i).toNat (dg m i) x=Aaq leaf m s i:=by
   unfold Aaq;rw [List.getD_eq_getElem?_getD,hx];rfl
  rw [ev] at rn;have w:IntKind.wrap .i64 ((i:Int)+1)=((i+1:Nat):Int):=by rw [Au (by omega) (by omega)];omega
  have L:=As .u64 ((List.range i).map (Aaq leaf m s));have li:((List.range i).map (Aaq leaf m s)).length=i:=by simp
  rw [Kn,Ic,List.length_singleton,←Fs] at ih;rw [J9];simp (disch:=omega) only [B6,G6,Bl,B4,Qz (A6i m (show i<18 by omega)),Qz hx,rn,G4,L,w]
  exact ih
theorem Ash (hfu:1000<=fu)(leaf m:Int)(s:List Int):Ae C0 Tryz.prog fu (d+6) M1 [.sc (.int .i64 leaf),.sc (.int .u64 m),.lst false 1 s.length (Ai .u64 s)]=some ⟨(if s.length=18 then [.sc (.int .u64 (Aly leaf m s)),.sc (.int .i64 0)] else [.sc (.int .u64 0),.sc (.int .i64 4)]),[]⟩:=by
 refine (Xs fu (d+5) leaf m s.length (Ai .u64 s)).trans ?_;by_cases h:s.length=18
 ·have sp:=Ant (fu:=fu) (d:=d+4) hfu m;have lp:=Abe (fu:=fu) (d:=d) (a0:=leaf) (a1:=m) (n:=s.length) (c:=Ai .u64 s) (leaf:=leaf) (m:=m) h hfu 18 fu 0 (by omega) (by omega)
  simp only [Do];rw [Bk h,Bk (by omega)]
  simp only [B6,sp];exact lp
 ·simp only [Do];rw [A3 h,A3 (by omega)]
theorem Acw (hfu:1000<=fu)(level a b:Int):Ae C0 Tryz.prog fu (d+5) Od [.sc (.int .i64 level),.sc (.int .u64 a),.sc (.int .u64 b)]=some ⟨[.sc (.int .u64 (Ob level a b))],[]⟩:=by
 have wd:Ae C0 Tryz.prog fu (d+4) Ec [.lst false 1 3 [.sc (.int .u64 (IntKind.wrap .u64 level)),.sc (.int .u64 a),.sc (.int .u64 b)]]=_:=Lm (ws:=[IntKind.wrap .u64 level,a,b]) (by simp) (by omega) (by simp;omega)
 have hs:=Avc (fu:=fu) (d:=d) (ws:=[IntKind.wrap .u64 level,a,b]) (by simp) hfu 3
 have L:=As .u8 (A7 [IntKind.wrap .u64 level,a,b]);rw [Y5];unfold Ob;generalize A7 [IntKind.wrap .u64 level,a,b]=W at wd hs L ⊢;simp (disch:=omega) only [B6,wd,Bl,B4,Cm,G4,L,hs]
theorem Adt (hfu:1000<=fu)(seed:Int):∀(l:Nat)(i B:Int),0<=i->i<=B->(2 ^ l:Nat)*(B+1)<=1000000000->l<=20->Ae C0 Tryz.prog fu (d+7+l) Rh [.sc (.int .u64 seed),.sc (.int .i64 l),.sc (.int .i64 i)]=some ⟨[.sc (.int .u64 (Kc seed l i))],[]⟩
 |0,i,B,h0,h1,h2,hl=>by
  have lf:=A2k (fu:=fu) (d:=d) hfu seed i;refine (R0 fu (d+6) seed 0 i).trans ?_;simp only [B6,Fm,if_true,lf];rfl
 |l+1,i,B,h0,h1,h2,hl=>by
  have hq:(2 ^ (l+1):Nat)=2 ^ l*2:=Nat.pow_succ _ _;have hpos:0<2 ^ l:=Nat.pow_pos (by omega)
  rw [hq] at h2;generalize hQ:2 ^ l=q at h2 hpos
  have hb:((q*2:Nat):Int)*(B+1)=(q:Int)*(2*B+1+1):=by
   rw [Int.natCast_mul,Int.mul_assoc]
   congr 1
   omega
  rw [hb] at h2
  have hBq:2*B+1+1<=(q:Int)*(2*B+1+1):=by
   have:=Int.mul_le_mul_of_nonneg_right (show (1:Int)<=q by omega) (show (0:Int)<=2*B+1+1 by omega)
   omega
  have n1:=Adt hfu seed l (2*i) (2*B+1) (by omega) (by omega) (by rw [hQ];exact h2) (by omega)
  have n2:=Adt hfu seed l (2*i+1) (2*B+1) (by omega) (by omega) (by rw [hQ];exact h2) (by omega)
  have pr:=Acw (fu:=fu) (d:=d+2+l) hfu ((l+1:Nat):Int) (Kc seed l (2*i)) (Kc seed l (2*i+1));rw [show d+2+l+5=d+7+l by omega] at pr
  have w1:IntKind.wrap .i64 (((l+1:Nat):Int)-1)=(l:Int):=by rw [Au (by omega) (by omega)];omega
  have w2:IntKind.wrap .i64 (2*i)=2*i:=Au (by omega) (by omega)
  have w3:IntKind.wrap .i64 (2*i+1)=2*i+1:=Au (by omega) (by omega)
  have ne:¬(((l+1:Nat):Int)=0):=by omega
  refine (R0 fu (d+7+l) seed ((l+1:Nat):Int) i).trans ?_;simp only [B6,Fm,ne,if_false,w1,w2,w3,n1,n2,pr];rfl
end
end
section
def E1 (seed:Int)(h:Int):Ky:=if Df h=true then ⟨0,0⟩ else ⟨h,Kc seed h.toNat 0⟩
def Xv (leaf:Int)(k:Nat):Int:=Eu .i64 (El .i64 leaf k) 1
def Amp (seed:Int)(h leaf m:Int):Option Sg:=if Df h=true then none else if Ga leaf h=true then none else some ⟨leaf,Aa2 seed leaf m,(List.range h.toNat).map fun k=>Kc seed k (Xv leaf k)⟩
def Aed (o:Option Sg):List PV:=match o with|some s=>[.agg s.owned,.sc (.int .i64 0)]|none=>[.agg (Sg.mk 0 [] []).owned,.sc (.int .i64 9)]
theorem wu {h:Int}(h0:0<=h)(h4:h<=4):IntKind.wrap .u64 h=h:=B7 (by omega) (by omega)
theorem Auu {leaf h:Int}(h0:0<=h)(h4:h<=4)(ho:Ga leaf h=false):0<=leaf∧leaf<2 ^ h.toNat:=by
 unfold Ga at ho;simp only [Bool.or_eq_false_iff,decide_eq_false_iff_not] at ho;have:h=0∨h=1∨h=2∨h=3∨h=4:=by omega
 rcases this with rfl|rfl|rfl|rfl|rfl
 ·have e:Fk .i64 1 0=1:=by decide
  rw [e] at ho;exact ⟨by omega,by show leaf<1;omega⟩
 ·have e:Fk .i64 1 1=2:=by decide
  rw [e] at ho;exact ⟨by omega,by show leaf<2;omega⟩
 ·have e:Fk .i64 1 2=4:=by decide
  rw [e] at ho;exact ⟨by omega,by show leaf<4;omega⟩
 ·have e:Fk .i64 1 3=8:=by decide
  rw [e] at ho;exact ⟨by omega,by show leaf<8;omega⟩
 ·have e:Fk .i64 1 4=16:=by decide
  rw [e] at ho;exact ⟨by omega,by show leaf<16;omega⟩
theorem A7z {h:Int}(h0:0<=h)(h4:h<=4):(2:Int) ^ h.toNat<=16:=by
 have:h=0∨h=1∨h=2∨h=3∨h=4:=by omega
 rcases this with rfl|rfl|rfl|rfl|rfl<;>decide
theorem Av0 {leaf:Int}(h0:0<=leaf)(h1:leaf<16){k:Nat}(hk:k<4):0<=Xv leaf k∧Xv leaf k<=15:=by
 have H:∀n:Fin 16,∀k:Fin 4,0<=Xv (n.val:Int) k.val∧Xv (n.val:Int) k.val<=15:=by decide
 obtain ⟨n,rfl⟩:=Int.eq_ofNat_of_zero_le h0;exact H ⟨n,by omega⟩ ⟨k,hk⟩
section
variable {fu d:Nat}
theorem Au9 (hfu:1000<=fu)(seed h:Int):Ae C0 Tryz.prog fu (d+12) O8 [.sc (.int .u64 seed),.sc (.int .i64 h)]=some ⟨[.agg (E1 seed h).cells,.sc (.int .i64 (if Df h=true then 9 else 0))],[]⟩:=by
 refine (Zj fu (d+11) seed h).trans ?_;have h1:=R6 (fu:=fu) (d:=d+10) h;unfold E1;cases c1:Df h
 ·rw [c1] at h1;have hb:=Gi c1
  have nd:=Adt (fu:=fu) (d:=d+4-h.toNat) hfu seed h.toNat 0 0 (by omega) (by omega) (by
   have:h=0∨h=1∨h=2∨h=3∨h=4:=by omega
   rcases this with rfl|rfl|rfl|rfl|rfl<;>decide) (by omega)
  rw [show d+4-h.toNat+7+h.toNat=d+11 by omega,show ((h.toNat:Nat):Int)=h by omega] at nd
  simp only [B6,h1,nd];rfl
 ·rw [c1] at h1;simp only [B6,h1];rfl
theorem Akl {a0 a1 a2 a3:Int}{seed leaf h:Int}(hh:0<=h∧h<=4)(hl:0<=leaf∧leaf<16)(hfu:1000<=fu){y4 y9:Int}{y5 y6:Nat}{y7 y8:List PV}{ch:List Int}:∀(k nn i:Nat),i+k=h.toNat->k<nn ->
  Hh fu (Ae C0 Tryz.prog fu (d+11)) a0 a1 a2 a3 nn seed h leaf i y4 y5 y6 y7 y8 leaf ch.length ((List.range i).map fun k=>Kc seed k (Xv leaf k)).length (Ai .u64 ch) (Ai .u64 ((List.range i).map fun k=>Kc seed k (Xv leaf k)))=some ⟨[.agg (Sg.mk leaf ch ((List.range h.toNat).map fun k=>Kc seed k (Xv leaf k))).owned,.sc (.int .i64 0)],[]⟩
 |_,0,_,_,h=>by omega
 |0,nn+1,i,hi,hn=>by
  have e:i=h.toNat:=by omega
  subst e;have L1:=As .u64 ch;have L2:=As .u64 ((List.range h.toNat).map fun k=>Kc seed k (Xv leaf k))
  rw [M4,Dj _ _ _ (by omega)]
  simp (disch:=omega) only [B6,Bl,G4,L1,L2];rfl
 |k+1,nn+1,i,hi,hn=>by
  have ih:=Akl (a0:=a0) (a1:=a1) (a2:=a2) (a3:=a3) (seed:=seed) (y4:=y4) (y9:=y9) (y5:=y5) (y6:=y6) (y7:=y7) (y8:=y8) (ch:=ch) hh hl hfu k nn (i+1) (by omega) (by omega)
  have sb:=Av0 hl.1 hl.2 (k:=i) (by omega)
  have nd:=Adt (fu:=fu) (d:=d+4-i) hfu seed i (Xv leaf i) 15 sb.1 sb.2 (by
   have:i=0∨i=1∨i=2∨i=3:=by omega
   rcases this with rfl|rfl|rfl|rfl<;>decide) (by omega)
  rw [show d+4-i+7+i=d+11 by omega] at nd
  have es:Eu .i64 (El .i64 leaf (i:Int)) 1=Xv leaf i:=rfl;have w:IntKind.wrap .i64 ((i:Int)+1)=((i+1:Nat):Int):=by rw [Au (by omega) (by omega)];omega
  have wi:IntKind.wrap .u64 (i:Int)=i:=B7 (by omega) (by omega)
  have L:=As .u64 ((List.range i).map fun k=>Kc seed k (Xv leaf k))
  have li:((List.range i).map fun k=>Kc seed k (Xv leaf k)).length=i:=by simp
  rw [Kn,Ic,List.length_singleton,←Fs] at ih;rw [M4];simp (disch:=omega) only [B6,wi,es,nd,Bl,G4,L,w];exact ih
theorem Ajh (hfu:1000<=fu)(seed h leaf m:Int):Ae C0 Tryz.prog fu (d+12) R9 [.sc (.int .u64 seed),.sc (.int .i64 h),.sc (.int .i64 leaf),.sc (.int .u64 m)]=some ⟨Aed (Amp seed h leaf m),[]⟩:=by
 refine (Acg fu (d+11) seed h leaf m).trans ?_;have h1:=R6 (fu:=fu) (d:=d+10) h;unfold Amp;cases c1:Df h
 ·rw [c1] at h1;have hb:=Gi c1;have w:=wu hb.1 hb.2;rw [A3 (by simp)]
  by_cases hn:leaf<0
  ·have ho:Ga leaf h=true:=by unfold Ga;simp [hn]
   rw [Bk ho];simp (disch:=omega) only [B6,h1];rfl
  ·by_cases hg:leaf>=Fk .i64 1 h
   ·have ho:Ga leaf h=true:=by unfold Ga;simp [hg]
    rw [Bk ho];simp (disch:=first|omega|exact hg) only [B6,h1,w];rfl
   ·have ho:Ga leaf h=false:=by unfold Ga;simp only [Bool.or_eq_false_iff,decide_eq_false_iff_not];exact ⟨hn,hg⟩
    have hlt:=Auu hb.1 hb.2 ho;have h16:=A7z hb.1 hb.2;rw [A3 (by rw [ho];simp)]
    have sl:=Aqc (fu:=fu) (d:=d+5) hfu seed leaf m;have lp:=Akl (fu:=fu) (d:=d) (a0:=seed) (a1:=h) (a2:=leaf) (a3:=m) (seed:=seed) (leaf:=leaf) (h:=h) hb (by omega) hfu (y4:=0) (y9:=0) (y5:=0) (y6:=0) (y7:=[]) (y8:=[]) (ch:=Aa2 seed leaf m) h.toNat fu 0 (by omega) (by omega)
    have l18:(Aa2 seed leaf m).length=18:=by simp [Aa2]
    rw [l18] at lp;simp (disch:=first|omega|exact hg) only [B6,h1,w,sl];exact lp
 ·rw [c1] at h1;rw [Bk rfl];simp (disch:=omega) only [B6,h1];rfl
theorem Adg {a0 a1 a2 a3:Int}{n1 n2 n3:Nat}{c1 c2 c3:List PV}{root leaf:Int}{path:List Int}(hp:path.length<=100)(hfu:1000<=fu):∀(r:List Int)(i nn:Nat)(x:Int),path.drop i=r->r.length<nn->i<=path.length ->
  Fh fu (Ae C0 Tryz.prog fu (d+5)) a0 a1 a2 a3 n1 c1 n2 c2 nn x i path.length root leaf n3 c3 path.length (Ai .u64 path)=some ⟨[.sc (.int .i64 (okE (Wy leaf i x r) root))],[]⟩
 |_,_,0,_,_,h,_=>by omega
 |[],i,nn+1,x,h,hn,hi=>by
  have:=drop_nil h;rw [Kv,Dj _ _ _ (by omega),Do]
  rw [Akv];unfold okE;by_cases e:x=root
  ·rw [Bk e,Bk e]
  ·rw [A3 e,A3 e]
 |s::r,i,nn+1,x,h,hn,hi=>by
  obtain ⟨h1,h2,h3⟩:=Ca h;simp only [H0] at hn;have w:IntKind.wrap .i64 ((i:Int)+1)=((i+1:Nat):Int):=by rw [Au (by omega) (by omega)];omega
  have wi:IntKind.wrap .u64 (i:Int)=i:=B7 (by omega) (by omega)
  have ih:=fun x=>Adg (a0:=a0) (a1:=a1) (a2:=a2) (a3:=a3) (n1:=n1) (n2:=n2) (n3:=n3) (c1:=c1) (c2:=c2) (c3:=c3) (root:=root) (leaf:=leaf) hp hfu r (i+1) nn x h3 (by omega) (by omega)
  have p1:=Acw (fu:=fu) (d:=d) hfu ((i+1:Nat):Int) x s;have p2:=Acw (fu:=fu) (d:=d) hfu ((i+1:Nat):Int) s x;rw [Kv,Yn];by_cases hb:Ez .i64 (El .i64 leaf i) 1=0
  ·rw [Bk hb,←ih];simp (disch:=omega) only [B6,G6,Bl,Qz h2,Fm,wi,hb,w,p1,if_true]
  ·rw [A3 hb,←ih];simp (disch:=omega) only [B6,G6,Bl,Qz h2,Fm,wi,hb,w,p2,if_false]
theorem Acl (hfu:1000<=fu)(k:Ky)(m:Int)(s:Sg):Ae C0 Tryz.prog fu (d+7) Oy [.agg k.cells,.sc (.int .u64 m),.agg s.cells]=some ⟨[.sc (.int .i64 (Jj k m s))],[]⟩:=by
 refine (Yv fu (d+6) k.h k.root m s.leaf s.chains.length (Ai .u64 s.chains) s.path.length (Ai .u64 s.path)).trans ?_;have h1:=R6 (fu:=fu) (d:=d+5) k.h;unfold Jj;cases c1:Df k.h
 ·rw [c1] at h1;have hb:=Gi c1;have w:=wu hb.1 hb.2;rw [A3 (by simp)]
  by_cases hn:s.leaf<0
  ·have ho:Ga s.leaf k.h=true:=by unfold Ga;simp [hn]
   rw [Bk ho];simp (disch:=omega) only [B6,h1]
  ·by_cases hg:s.leaf>=Fk .i64 1 k.h
   ·have ho:Ga s.leaf k.h=true:=by unfold Ga;simp [hg]
    rw [Bk ho];simp (disch:=first|omega|exact hg) only [B6,h1,w]
   ·have ho:Ga s.leaf k.h=false:=by unfold Ga;simp only [Bool.or_eq_false_iff,decide_eq_false_iff_not];exact ⟨hn,hg⟩
    rw [A3 (by rw [ho];simp)]
    by_cases c3:s.chains.length=18
    ·by_cases c4:(s.path.length:Int)=k.h
     ·have rc:=Ash (fu:=fu) (d:=d) hfu s.leaf m s.chains;rw [Bk c3] at rc;have vl:=Adg (fu:=fu) (d:=d+1) (a0:=k.h) (a1:=k.root) (a2:=m) (a3:=s.leaf) (n1:=s.chains.length) (n2:=s.path.length) (n3:=s.chains.length) (c1:=Ai .u64 s.chains) (c2:=Ai .u64 s.path) (c3:=Ai .u64 s.chains) (root:=k.root) (leaf:=s.leaf) (path:=s.path) (by omega) hfu s.path 0 fu (Aly s.leaf m s.chains) rfl (by omega) (by omega)
      rw [A3 (by omega),A3 (by omega),←vl]
      simp (disch:=first|omega|exact hg) only [B6,h1,w,Do,rc,c4,if_true];rw [Bk (by omega)]
      rfl
     ·rw [A3 (by omega),Bk c4]
      simp (disch:=first|omega|exact hg) only [B6,h1,w,Do,c4,if_false];rw [Bk (by omega)]
    ·rw [Bk c3];simp (disch:=first|omega|exact hg) only [B6,h1,w,Do];rw [A3 (by omega)]
 ·rw [c1] at h1;rw [Bk rfl];simp (disch:=omega) only [B6,h1]
theorem Ac3 (hfu:1000<=fu)(k:Ky):Ae C0 Tryz.prog fu (d+2) Kz [.agg k.cells]=some ⟨(if Df k.h=true then [.own 1 0 [],.sc (.int .i64 9)] else [.own 1 9 (Ai .u8 (G3 k)),.sc (.int .i64 0)]),[]⟩:=by
 refine (Uu fu (d+1) k.h k.root).trans ?_;have h1:=R6 (fu:=fu) (d:=d) k.h;have wd:=Avm (fu:=fu) (d:=d) hfu k.root;have L:=As .u8 (Cg k.root);rw [Cy] at L;have t8:List.take 8 (Ai .u8 (Cg k.root))=Ai .u8 (Cg k.root):=I2 (by omega)
 have t9:List.take 9 ([PV.sc (.int .u8 (IntKind.wrap .u8 k.h))]++Ai .u8 (Cg k.root))=Ai .u8 (G3 k):=by
  rw [I2 (by rw [Ic,L];simp)]
  rfl
 have L9:([PV.sc (.int .u8 (IntKind.wrap .u8 k.h))]++Ai .u8 (Cg k.root)).length=9:=by rw [Ic,L];rfl
 cases c1:Df k.h
 ·rw [c1] at h1;rw [A3 (by simp)]
  simp (disch:=omega) only [B6,h1,wd,Bl,B4,Cm,L,t8,Nat.reduceAdd,L9,t9]
 ·rw [c1] at h1;rw [Bk rfl];simp (disch:=omega) only [B6,h1]
theorem Ak4 {call:Aq}{n:Nat}{c:List PV}{l:List Int}(hl:l.length=8):∀(r:List Int)(j nn:Nat)(x:Int),l.drop j=r->r.length<nn->j<=8 ->
  Hj fu call n c nn l.length (Ai .u8 l) x j=some ⟨[.sc (.int .u64 (r.foldl Fc x))],[]⟩
 |_,_,0,_,_,h,_=>by omega
 |[],j,nn+1,x,h,hn,hj=>by
  have:=drop_nil h;rw [Ng,Dj _ _ _ (by omega)]
  rfl
 |b::r,j,nn+1,x,h,hn,hj=>by
  obtain ⟨h1,h2,h3⟩:=Ca h;simp only [H0] at hn;have w:IntKind.wrap .i64 ((j:Int)+1)=((j+1:Nat):Int):=by rw [Au (by omega) (by omega)];omega
  have ih:=Ak4 (call:=call) (n:=n) (c:=c) hl r (j+1) nn (Fc x b) h3 (by omega) (by omega)
  rw [List.foldl_cons,←ih,Ng];simp (disch:=omega) only [B6,G6,Bl,Qz h2,w]
theorem Adn (hfu:1000<=fu){l:List Int}(hl:l.length=8):Ae C0 Tryz.prog fu (d+1) Rm [.lst false 1 8 (Ai .u8 l)]=some ⟨[.sc (.int .u64 (Aah l))],[]⟩:=by
 rw [Abo];have:=Ak4 (fu:=fu) (call:=Ae C0 Tryz.prog fu d) (n:=8) (c:=Ai .u8 l) hl l 0 fu 0 rfl (by omega) (by omega)
 rw [hl] at this;exact this
theorem Ajj (hfu:1000<=fu){l:List Int}(hb:Gn l):Ae C0 Tryz.prog fu (d+2) Lo [.lst false 1 l.length (Ai .u8 l)]=some ⟨Acp (Aa0 l),[]⟩:=by
 refine (V0 fu (d+1) l.length (Ai .u8 l)).trans ?_;unfold Aa0;by_cases h9:l.length=9
 ·obtain ⟨x,hx⟩:∃x,l[0]?=some x:=⟨_,List.getElem?_eq_getElem (by omega)⟩
  have hxb:=hb x (List.mem_of_getElem? hx);have wx:IntKind.wrap .i64 x=x:=Au (by omega) (by omega)
  have gx:l.getD 0 0=x:=by rw [List.getD_eq_getElem?_getD,hx];rfl
  have h1:=R6 (fu:=fu) (d:=d) x;rw [gx];cases c1:Df x
  ·rw [c1] at h1;have hdl:(l.drop 1).length=8:=by rw [List.length_drop];omega
   have dw:=Adn (fu:=fu) (d:=d) hfu hdl
   have ew:Aah (l.drop 1)=J2 (l.drop 1) 0:=by
    unfold J2;rw [Nat.mul_zero,Cm,I2 (by omega)]
   rw [ew] at dw;have e8:9-1=8:=rfl;have tk:List.take 8 (Ai .u8 (l.drop 1))=Ai .u8 (l.drop 1):=I2 (by rw [As];omega)
   rw [Bk ⟨h9,rfl⟩,h9];simp (disch:=omega) only [B6,Do,Qz hx,wx,h1,Bl,E6,e8,tk,dw];rfl
  ·rw [c1] at h1;rw [A3 (by simp),h9]
   simp (disch:=omega) only [B6,Do,Qz hx,wx,h1];rfl
 ·rw [A3 (by simp [h9])]
  simp (disch:=omega) only [Do];rw [A3 (by omega)]
  rfl
end
end
section
section
variable {fu d:Nat}
theorem A3b (n:Nat):Df (n:Int)=decide ((n:Int)>4):=by
 unfold Df;have:¬((n:Int)<0):=by omega
 simp [this]
theorem Acr (hfu:1000<=fu)(s:Sg)(hp:s.path.length<=1000000000):Ae C0 Tryz.prog fu (d+2) H5 [.agg s.cells]=some ⟨(if Df s.path.length=true then [.own 1 0 [],.sc (.int .i64 9)] else if Ga s.leaf s.path.length=true then [.own 1 0 [],.sc (.int .i64 9)] else if s.chains.length≠18 then [.own 1 0 [],.sc (.int .i64 4)] else [.own 1 (Mv s).length (Ai .u8 (Mv s)),.sc (.int .i64 0)]),[]⟩:=by
 refine (Pb fu (d+1) s.leaf s.chains.length (Ai .u64 s.chains) s.path.length (Ai .u64 s.path)).trans ?_;rw [A3b];by_cases c1:(s.path.length:Int)>4
 ·rw [Bk (by simp [c1])]
  simp (disch:=omega) only [B6]
 ·rw [A3 (by simp [c1])]
  have w:=wu (h:=s.path.length) (by omega) (by omega)
  by_cases hn:s.leaf<0
  ·have ho:Ga s.leaf s.path.length=true:=by unfold Ga;simp [hn]
   rw [Bk ho];simp (disch:=omega) only [B6]
  ·by_cases hg:s.leaf>=Fk .i64 1 s.path.length
   ·have ho:Ga s.leaf s.path.length=true:=by unfold Ga;simp [hg]
    rw [Bk ho];simp (disch:=first|omega|exact hg) only [B6,w]
   ·have ho:Ga s.leaf s.path.length=false:=by unfold Ga;simp only [Bool.or_eq_false_iff,decide_eq_false_iff_not];exact ⟨hn,hg⟩
    rw [A3 (by rw [ho];simp)]
    by_cases c3:s.chains.length=18
    ·have w1:=Lm (fu:=fu) (d:=d) (ws:=s.chains) (by omega) (by omega) (by omega)
     have w2:=Lm (fu:=fu) (d:=d) (ws:=s.path) (by omega) (by omega) (by omega)
     have l1:=Db s.chains;have l2:=Db s.path;have L1:=As .u8 (A7 s.chains);have L2:=As .u8 (A7 s.path)
     have eB:Ai .u8 (Mv s)=[PV.sc (.int .u8 (IntKind.wrap .u8 s.leaf)),PV.sc (.int .u8 (IntKind.wrap .u8 s.path.length))]++Ai .u8 (A7 s.chains)++Ai .u8 (A7 s.path):=by
      unfold Mv;simp
     have eL:(Mv s).length=2+(A7 s.chains).length+(A7 s.path).length:=by
      unfold Mv;simp;omega
     rw [A3 (by omega),eB,eL]
     have t2:List.take (2+(A7 s.chains).length) ([PV.sc (.int .u8 (IntKind.wrap .u8 s.leaf)),PV.sc (.int .u8 (IntKind.wrap .u8 s.path.length))]++Ai .u8 (A7 s.chains))=[PV.sc (.int .u8 (IntKind.wrap .u8 s.leaf)),PV.sc (.int .u8 (IntKind.wrap .u8 s.path.length))]++Ai .u8 (A7 s.chains):=I2 (by rw [Ic,L1];simp)
     have t3:List.take (2+(A7 s.chains).length+(A7 s.path).length) ([PV.sc (.int .u8 (IntKind.wrap .u8 s.leaf)),PV.sc (.int .u8 (IntKind.wrap .u8 s.path.length))]++Ai .u8 (A7 s.chains)++Ai .u8 (A7 s.path))=[PV.sc (.int .u8 (IntKind.wrap .u8 s.leaf)),PV.sc (.int .u8 (IntKind.wrap .u8 s.path.length))]++Ai .u8 (A7 s.chains)++Ai .u8 (A7 s.path):=I2 (by rw [Ic,Ic,L1,L2];simp)
     have k2:([PV.sc (.int .u8 (IntKind.wrap .u8 s.leaf)),PV.sc (.int .u8 (IntKind.wrap .u8 s.path.length))]++Ai .u8 (A7 s.chains)).length=2+(A7 s.chains).length:=by rw [Ic,L1];rfl
     have k3:([PV.sc (.int .u8 (IntKind.wrap .u8 s.leaf)),PV.sc (.int .u8 (IntKind.wrap .u8 s.path.length))]++Ai .u8 (A7 s.chains)++Ai .u8 (A7 s.path)).length=2+(A7 s.chains).length+(A7 s.path).length:=by rw [Ic,k2,L2]
     simp (disch:=first|omega|exact hg) only [B6,w,Do,w1,w2,Bl,B4,Cm,L1,L2,G4,t2,t3,k2,k3];rw [Bk (by omega)]
    ·rw [Bk c3];simp (disch:=first|omega|exact hg) only [B6,w,Do];rw [A3 (by omega)]
def Yl (l:List Int)(i:Nat):Int:=Aah ((l.drop (2+8*i)).take 8)
theorem A4y {l:List Int}{i:Nat}(hi:i<18):J2 ((l.drop 2).take 144) i=Yl l i:=by
 unfold J2 Yl;rw [List.drop_take,List.take_take,List.drop_drop,Nat.min_eq_left (by omega)]
theorem A42 {l:List Int}{i:Nat}:J2 (l.drop 146) i=Yl l (18+i):=by
 unfold J2 Yl;rw [List.drop_drop,show 146+8*i=2+8*(18+i) by omega]
theorem Aei {n:Nat}{c:List PV}{l:List Int}(hl:l.length<=1000){y:Int}(hy1:l[1]?=some y) (hy:0<=y∧y<=4)(hlen:(l.length:Int)=2+8*(18+y)) (hfu:1000<=fu){y3 y4:Int}{n5 n6 n7:Nat}{c5 c6:List PV}{x:Int}:∀(k nn i:Nat),i+k=18+y.toNat->k<nn ->
  De fu (Ae C0 Tryz.prog fu (d+1)) n c nn l.length (Ai .u8 l) i y3 n5 n6 c5 c6 x ((List.range (min i 18)).map (Yl l)).length ((List.range (i-18)).map fun j=>Yl l (18+j)).length (Ai .u64 ((List.range (min i 18)).map (Yl l))) (Ai .u64 ((List.range (i-18)).map fun j=>Yl l (18+j)))=some ⟨[.agg (Sg.mk x ((List.range 18).map (Yl l)) ((List.range y.toNat).map fun j=>Yl l (18+j))).owned,.sc (.int .i64 0)],[]⟩
 |_,0,_,_,h=>by omega
 |k,nn+1,i,hi,hn=>by
  have wy:IntKind.wrap .i64 y=y:=Au (by omega) (by omega)
  have w18:IntKind.wrap .i64 (18+y)=18+y:=Au (by omega) (by omega)
  have L1:=As .u64 ((List.range (min i 18)).map (Yl l));have L2:=As .u64 ((List.range (i-18)).map fun j=>Yl l (18+j))
  have m1:((List.range (min i 18)).map (Yl l)).length=min i 18:=by simp
  have m2:((List.range (i-18)).map fun j=>Yl l (18+j)).length=i-18:=by simp
  rw [Ml];cases k with
  |zero=>
   have e:i=18+y.toNat:=by omega
   have e1:min i 18=18:=by omega
   have e2:i-18=y.toNat:=by omega
   simp (disch:=omega) only [B6,Qz hy1,wy,w18,Bl,G4,L1,L2];rw [e1,e2];rfl
  |succ k=>
   have ih:=Aei (n:=n) (c:=c) hl hy1 hy hlen hfu (y3:=y3) (y4:=y4) (n5:=n5) (n6:=n6) (n7:=n7) (c5:=c5) (c6:=c6) (x:=x) k nn (i+1) (by omega) (by omega)
   have w8:IntKind.wrap .i64 (8*(i:Int))=((8*i:Nat):Int):=by rw [Au (by omega) (by omega)];omega
   have w2:IntKind.wrap .i64 (2+((8*i:Nat):Int))=((2+8*i:Nat):Int):=by rw [Au (by omega) (by omega)];omega
   have w10:IntKind.wrap .i64 (10+((8*i:Nat):Int))=((10+8*i:Nat):Int):=by rw [Au (by omega) (by omega)];omega
   have w:IntKind.wrap .i64 ((i:Int)+1)=((i+1:Nat):Int):=by rw [Au (by omega) (by omega)];omega
   have e8:10+8*i-(2+8*i)=8:=by omega
   have hdl:((l.drop (2+8*i)).take 8).length=8:=by rw [List.length_take,List.length_drop];omega
   have wd:=Adn (fu:=fu) (d:=d) hfu hdl;have ew:Aah ((l.drop (2+8*i)).take 8)=Yl l i:=rfl;rw [ew] at wd;by_cases c18:i<18
   ·have a1:min (i+1) 18=min i 18+1:=by omega
    have a2:min i 18=i:=by omega
    have a3:i+1-18=i-18:=by omega
    rw [a1,a3,Kn,Ic,List.length_singleton,←Fs,a2] at ih;rw [a2] at L1 m1 ⊢;simp (disch:=omega) only [B6,Qz hy1,wy,w18,w8,w2,w10,G6,Bl,e8,E6,Dz,List.take_length,wd,L1,L2,w];exact ih
   ·have a1:min (i+1) 18=min i 18:=by omega
    have a3:i+1-18=(i-18)+1:=by omega
    rw [a1,a3,Kn,Ic,List.length_singleton,←Fs,show 18+(i-18)=i by omega] at ih
    simp (disch:=omega) only [B6,Qz hy1,wy,w18,w8,w2,w10,G6,Bl,e8,E6,Dz,List.take_length,wd,L1,L2,w];exact ih
theorem Ab8 (hfu:1000<=fu){l:List Int}(hb:Gn l):Ae C0 Tryz.prog fu (d+2) H2 [.lst false 1 l.length (Ai .u8 l)]=some ⟨Q8 (sgD l),[]⟩:=by
 refine (O4 fu (d+1) l.length (Ai .u8 l)).trans ?_;unfold sgD;by_cases h2:2<=l.length
 ·obtain ⟨x,hx⟩:∃x,l[0]?=some x:=⟨_,List.getElem?_eq_getElem (by omega)⟩
  obtain ⟨y,hy⟩:∃y,l[1]?=some y:=⟨_,List.getElem?_eq_getElem (by omega)⟩
  have hxb:=hb x (List.mem_of_getElem? hx);have hyb:=hb y (List.mem_of_getElem? hy);have wx:IntKind.wrap .i64 x=x:=Au (by omega) (by omega)
  have wy:IntKind.wrap .i64 y=y:=Au (by omega) (by omega)
  have wyu:IntKind.wrap .u64 y=y:=B7 (by omega) (by omega)
  have gx:l.getD 0 0=x:=by rw [List.getD_eq_getElem?_getD,hx];rfl
  have gy:l.getD 1 0=y:=by rw [List.getD_eq_getElem?_getD,hy];rfl
  have w1:IntKind.wrap .i64 (18+y)=18+y:=Au (by omega) (by omega)
  have w2:IntKind.wrap .i64 (8*(18+y))=8*(18+y):=Au (by omega) (by omega)
  have w3:IntKind.wrap .i64 (2+8*(18+y))=2+8*(18+y):=Au (by omega) (by omega)
  rw [gx,gy]
  have ehi:Df y=decide (y>4):=by
   unfold Df;have:¬(y<0):=by omega
   simp [this]
  have eou:Ga x y=decide (x>=Fk .i64 1 y):=by
   unfold Ga;have:¬(x<0):=by omega
   simp [this]
  rw [ehi,eou];by_cases c1:y>4
  ·rw [A3 (by simp [c1])]
   simp (disch:=omega) only [B6,Qz hx,Qz hy,wx,wy];rfl
  ·by_cases c2:x>=Fk .i64 1 y
   ·rw [A3 (by simp [c2])]
    simp (disch:=first|omega|exact c2) only [B6,Qz hx,Qz hy,wx,wy,wyu];rfl
   ·by_cases c3:(l.length:Int)=2+8*(18+y)
    ·rw [Bk ⟨h2,by simp [c1],by simp [c2],c3⟩]
     have lp:=Aei (fu:=fu) (d:=d) (n:=l.length) (c:=Ai .u8 l) (l:=l) (by omega) hy (by omega) c3 hfu (y3:=0) (y4:=0) (n5:=0) (n6:=0) (n7:=0) (c5:=[]) (c6:=[]) (x:=x) (18+y.toNat) fu 0 (by omega) (by omega)
     simp (disch:=first|omega|exact c2) only [B6,Do,Qz hx,Qz hy,wx,wy,wyu,w1,w2,w3];rw [Bk c3];simp (disch:=omega) only [B6,Mo,Qz hx,wx];refine Eq.trans lp ?_
     have e1:Fj ((l.drop 2).take 144)=(List.range 18).map (Yl l):=by
      unfold Fj;rw [show ((l.drop 2).take 144).length / 8=18 by rw [List.length_take,List.length_drop];omega]
      exact List.map_congr_left fun i hi=>A4y (List.mem_range.1 hi)
     have e2:Fj (l.drop 146)=(List.range y.toNat).map fun j=>Yl l (18+j):=by
      unfold Fj;rw [show (l.drop 146).length / 8=y.toNat by rw [List.length_drop];omega]
      exact List.map_congr_left fun i hi=>A42
     rw [e1,e2];rfl
    ·rw [A3 (by simp [c3])]
     simp (disch:=first|omega|exact c2) only [B6,Do,Qz hx,Qz hy,wx,wy,wyu,w1,w2,w3];rw [A3 c3];rfl
 ·rw [A3 (by simp [h2])]
  simp (disch:=omega) only [B6];rfl
end
theorem A1i (seed leaf m:Int):Aly leaf m (Aa2 seed leaf m)=Pn seed leaf:=by
 unfold Aly Pn Alk
 congr 1
 refine List.map_congr_left fun i hi=>?_
 have hi:=List.mem_range.1 hi;have hb:=Aaa m i;unfold Aaq Ap4
 have e:(Aa2 seed leaf m).getD i 0=Aqd seed leaf m i:=by
  unfold Aa2;rw [List.getD_eq_getElem?_getD,List.getElem?_map,List.getElem?_range hi];rfl
 rw [e];unfold Aqd;have:=Asy leaf i (dg m i).toNat (15-dg m i).toNat 0 (Avs seed leaf i);rw [show (dg m i).toNat+(15-dg m i).toNat=15 by omega,show (0:Int)+((dg m i).toNat:Nat)=dg m i by omega] at this
 exact this.symm
theorem Azl:∀n:Fin 16,∀k:Fin 4,
  (Ez .i64 (El .i64 (n.val:Int) k.val) 1=0∧El .i64 (n.val:Int) k.val=2*El .i64 (n.val:Int) ((k.val+1:Nat):Int)∧Xv n.val k.val=2*El .i64 (n.val:Int) ((k.val+1:Nat):Int)+1) ∨
  (Ez .i64 (El .i64 (n.val:Int) k.val) 1≠0∧El .i64 (n.val:Int) k.val=2*El .i64 (n.val:Int) ((k.val+1:Nat):Int)+1∧Xv n.val k.val=2*El .i64 (n.val:Int) ((k.val+1:Nat):Int)):=by decide
theorem Aip (seed:Int){leaf:Int}(h0:0<=leaf)(h1:leaf<16):∀(k i:Nat),i+k<=4 ->
  Wy leaf i (Kc seed i (El .i64 leaf i)) ((List.range' i k).map fun j=>Kc seed j (Xv leaf j))=Kc seed (i+k) (El .i64 leaf ((i+k:Nat):Int))
 |0,i,_=>rfl
 |k+1,i,h=>by
  rw [List.range'_succ,Zzw,Yn];obtain ⟨n,rfl⟩:=Int.eq_ofNat_of_zero_le h0;have ih:=Aip seed h0 h1 k (i+1) (by omega)
  rw [show i+(k+1)=i+1+k by omega,←ih]
  congr 1
  rcases Azl ⟨n,by omega⟩ ⟨i,by omega⟩ with ⟨a,b,c⟩|⟨a,b,c⟩
  ·simp only at a b c;rw [Bk a,b,c];rfl
  ·simp only at a b c;rw [A3 a,b,c];rfl
theorem A3h {seed h leaf m:Int}(hh:Df h=false)(ho:Ga leaf h=false):Jj (E1 seed h) m ⟨leaf,Aa2 seed leaf m,(List.range h.toNat).map fun k=>Kc seed k (Xv leaf k)⟩=0:=by
 have hb:=Gi hh;have hl:=Auu hb.1 hb.2 ho;have h16:=A7z hb.1 hb.2
 have eP:E1 seed h=⟨h,Kc seed h.toNat 0⟩:=by
  unfold E1;rw [hh];rfl
 rw [eP];unfold Jj;simp only;rw [A3 (show ¬Df h=true by rw [hh];simp),A3 (show ¬Ga leaf h=true by rw [ho];simp),A3 (show ¬(Aa2 seed leaf m).length≠18 by simp [Aa2]),A3 (by rw [List.length_map,List.length_range];omega),A1i]
 have c:=Aip seed hl.1 (show leaf<16 by omega) h.toNat 0 (by omega)
 have e0:El .i64 leaf ((0:Nat):Int)=leaf:=by
  show leaf.fdiv (2 ^ (min ((0:Nat):Int).toNat IntKind.i64.bits))=leaf;have:(2:Int) ^ (min ((0:Nat):Int).toNat IntKind.i64.bits)=1:=by decide
  rw [this,Int.fdiv_one]
 have eh:El .i64 leaf ((0+h.toNat:Nat):Int)=0:=by
  have H:∀n:Fin 16,∀k:Fin 5,(n.val:Int)<2 ^ k.val->El .i64 (n.val:Int) ((0+k.val:Nat):Int)=0:=by decide
  obtain ⟨n,hn⟩:=Int.eq_ofNat_of_zero_le hl.1;have:=H ⟨n,by omega⟩ ⟨h.toNat,by omega⟩ (by simp only;rw [←hn];exact hl.2)
  rw [hn];exact this
 rw [e0,eh,B4] at c;have er:List.range' 0 h.toNat=List.range h.toNat:=List.range_eq_range'.symm;rw [er] at c;have el:Kc seed 0 leaf=Pn seed leaf:=rfl;rw [el] at c;rw [c];unfold okE;rw [Bk rfl]
end
section
set_option maxRecDepth 100000
abbrev Ag2:FuncId:=125
theorem Asf (fu d:Nat)(a0:ByteArray):Ae C0 Tryz.prog fu (d+1) Ag2 [.sc (.string a0)]=(fun (call:Aq)=>some (A0.mk [.own 3 1 [.sc (.int .i64 4),.sc (.int .u64 0),.sc (.string a0)]] [])) (Ae C0 Tryz.prog fu d):=by kernel_rfl
abbrev Ahu:FuncId:=126
theorem Arv (fu d:Nat)(a0:Int):Ae C0 Tryz.prog fu (d+1) Ahu [.sc (.int .u64 a0)]=(fun (call:Aq)=>some (A0.mk [.own 3 1 [.sc (.int .i64 1),.sc (.int .u64 a0),.sc (.string (ByteArray.mk #[]))]] [])) (Ae C0 Tryz.prog fu d):=by kernel_rfl
abbrev Ad6:FuncId:=127
theorem Aqu (fu d a0n:Nat)(a0:List PV):Ae C0 Tryz.prog fu (d+1) Ad6 [.lst false 1 a0n a0]=(fun (call:Aq)=>Ay (decide (List.length a0=a0n))<|Fe (bytesOf a0) fun x1=>some (A0.mk [.own 3 1 [.sc (.int .i64 3),.sc (.int .u64 0),.sc (.string (ByteArray.mk (List.toArray x1)))]] [])) (Ae C0 Tryz.prog fu d):=by kernel_rfl
abbrev Ahi:FuncId:=128
theorem Arg (fu d:Nat)(a0:Bool):Ae C0 Tryz.prog fu (d+1) Ahi [.sc (.bool a0)]=(fun (call:Aq)=>A4 (a0) (some (A0.mk [.own 3 1 [.sc (.int .i64 7),.sc (.int .u64 1),.sc (.string (ByteArray.mk #[]))]] [])) (some (A0.mk [.own 3 1 [.sc (.int .i64 7),.sc (.int .u64 0),.sc (.string (ByteArray.mk #[]))]] []))) (Ae C0 Tryz.prog fu d):=by kernel_rfl
abbrev Ad1:FuncId:=133
theorem Aq4 (fu d:Nat)(a0:Int):Ae C0 Tryz.prog fu (d+1) Ad1 [.sc (.int .u64 a0)]=(fun (call:Aq)=>A4 (decide (a0<24)) (some (A0.mk [.sc (.int .i64 0)] [])) (A4 (decide (a0<256)) (some (A0.mk [.sc (.int .i64 1)] [])) (A4 (decide (a0<65536)) (some (A0.mk [.sc (.int .i64 2)] [])) (A4 (decide (a0<4294967296)) (some (A0.mk [.sc (.int .i64 4)] [])) (some (A0.mk [.sc (.int .i64 8)] [])))))) (Ae C0 Tryz.prog fu d):=by kernel_rfl
abbrev Abd:FuncId:=146
theorem Al1 (fu d:Nat)(a0_0 a0_1:Int)(a0_2:ByteArray):Ae C0 Tryz.prog fu (d+1) Abd [.agg [.sc (.int .i64 a0_0),.sc (.int .u64 a0_1),.sc (.string a0_2)]]=(fun (call:Aq)=>A4 (a0_0==3) (some (A0.mk [.sc (.bool (a0_1==0))] [])) (A4 (a0_0==4) (some (A0.mk [.sc (.bool (a0_1==0))] [])) (A4 (a0_0==8) (A4 (a0_1==0) (some (A0.mk [.sc (.bool (Array.toList (ByteArray.data a0_2)==Array.toList (ByteArray.data (ByteArray.mk #[]))))] [])) (some (A0.mk [.sc (.bool false)] []))) (A4 (a0_0==7) (A4 (decide (a0_1<=1)) (some (A0.mk [.sc (.bool (Array.toList (ByteArray.data a0_2)==Array.toList (ByteArray.data (ByteArray.mk #[]))))] [])) (some (A0.mk [.sc (.bool false)] []))) (some (A0.mk [.sc (.bool (Array.toList (ByteArray.data a0_2)==Array.toList (ByteArray.data (ByteArray.mk #[]))))] [])))))) (Ae C0 Tryz.prog fu d):=by kernel_rfl
abbrev Ym:FuncId:=136
theorem Akj (fu d a0n:Nat)(a0:List PV)(a1n:Nat)(a1:List PV):Ae C0 Tryz.prog fu (d+1) Ym [.lst false 1 a0n a0,.lst false 1 a1n a1]=(fun (call:Aq)=>A4 ((↑a0n:Int) != (↑a1n:Int)) (some (A0.mk [.sc (.bool (decide ((↑a0n:Int)<(↑a1n:Int))))] [])) (Aj (call 143 [.lst false 1 a0n a0,.lst false 1 a1n a1]) fun x1 x2=>Ac x2<|Ab x1 fun x3 x4=>Af .i64 x3 fun x5=>Ac x4<|some (A0.mk [.sc (.bool (decide (x5<0)))] []))) (Ae C0 Tryz.prog fu d):=by kernel_rfl
abbrev L6:FuncId:=142
noncomputable def Em (fu:Nat)(call:Aq)(a0n:Nat)(a0:List PV)(a1 a2:Int)(nn y0:Nat)(y1 y2:Int)(y3:List PV):Option A0:=Cw C0 Tryz.prog fu call 142 Tryz.f142 (B5 Tryz.f142) [.own 1 a0n a0,.sc (.int .u8 a1),.sc (.int .u64 a2)] [.r,.r,.r,.r,.r,.l,.r,.l] nn ⟨lk [(0,(.view 0 1 0 y0)),(2,(.sc (.int .u64 y1))),(9,(.sc (.int .i64 y2)))],Gf [(0,(.ar false y3))]⟩
theorem Ol (fu:Nat)(call:Aq)(a0n:Nat)(a0:List PV)(a1 a2:Int)(nn y0:Nat)(y1 y2:Int)(y3:List PV):Em fu call a0n a0 a1 a2 (nn+1) y0 y1 y2 y3=(A4 (decide (y2>=0)) (Aa (IntKind.wrap .i64 (8*y2)) fun D6=>Ay (decide (0<=D6))<|Aa (El .u64 y1 D6) fun D1=>Aa (IntKind.wrap .u8 D1) fun Ee=>Ay (decide (y0*1<=List.length y3)&&true&&decide ((y0+1)*1<=1099511627776)&&decide (y0+1<=1099511627776))<|Aa (y0+1) fun Fq=>Aa (List.take (y0*1) y3++[.sc (.int .u8 Ee)]) fun Cl=>Aa (IntKind.wrap .i64 (y2-1)) fun Fy=>Em fu call a0n a0 a1 a2 (nn) Fq (y1) Fy Cl) (Ay (decide (y0*1<=List.length y3))<|some (A0.mk [.own 1 y0 (List.take (y0*1) y3)] []))):=by kernel_rfl
theorem Aep (fu d a0n:Nat)(a0:List PV)(a1 a2:Int):Ae C0 Tryz.prog fu (d+1) L6 [.own 1 a0n a0,.sc (.int .u8 a1),.sc (.int .u64 a2)]=(fun (call:Aq)=>Aa (Fk .u8 a1 5) fun x1=>A4 (decide (a2<24)) (Aa (IntKind.wrap .u8 a2) fun x2=>Aa (IntKind.wrap .u8 (x1+x2)) fun x3=>Ay (decide (a0n*1<=List.length a0)&&true&&decide ((a0n+1)*1<=1099511627776)&&decide (a0n+1<=1099511627776))<|Aa (a0n+1) fun x4=>Aa (List.take (a0n*1) a0++[.sc (.int .u8 x3)]) fun x5=>Ay (decide (x4*1<=List.length x5))<|some (A0.mk [.own 1 x4 (List.take (x4*1) x5)] [])) (A4 (decide (a2<256)) (Aa (IntKind.wrap .u8 (x1+24)) fun x6=>Ay (decide (a0n*1<=List.length a0)&&true&&decide ((a0n+1)*1<=1099511627776)&&decide (a0n+1<=1099511627776))<|Aa (a0n+1) fun x7=>Aa (List.take (a0n*1) a0++[.sc (.int .u8 x6)]) fun x8=>Em fu call a0n a0 a1 a2 (fu) x7 (a2) 0 x8) (A4 (decide (a2<65536)) (Aa (IntKind.wrap .u8 (x1+25)) fun x9=>Ay (decide (a0n*1<=List.length a0)&&true&&decide ((a0n+1)*1<=1099511627776)&&decide (a0n+1<=1099511627776))<|Aa (a0n+1) fun Cj=>Aa (List.take (a0n*1) a0++[.sc (.int .u8 x9)]) fun Bp=>Em fu call a0n a0 a1 a2 (fu) Cj (a2) 1 Bp) (A4 (decide (a2<4294967296)) (Aa (IntKind.wrap .u8 (x1+26)) fun Cz=>Ay (decide (a0n*1<=List.length a0)&&true&&decide ((a0n+1)*1<=1099511627776)&&decide (a0n+1<=1099511627776))<|Aa (a0n+1) fun C9=>Aa (List.take (a0n*1) a0++[.sc (.int .u8 Cz)]) fun Cq=>Em fu call a0n a0 a1 a2 (fu) C9 (a2) 3 Cq) (Aa (IntKind.wrap .u8 (x1+27)) fun C8=>Ay (decide (a0n*1<=List.length a0)&&true&&decide ((a0n+1)*1<=1099511627776)&&decide (a0n+1<=1099511627776))<|Aa (a0n+1) fun Dh=>Aa (List.take (a0n*1) a0++[.sc (.int .u8 C8)]) fun Dt=>Em fu call a0n a0 a1 a2 (fu) Dh (a2) 7 Dt))))) (Ae C0 Tryz.prog fu d):=by kernel_rfl
abbrev S0:FuncId:=135
theorem Aen (fu d a0n:Nat)(a0:List PV)(a1_0 a1_1:Int)(a1_2:ByteArray):Ae C0 Tryz.prog fu (d+1) S0 [.own 1 a0n a0,.agg [.sc (.int .i64 a1_0),.sc (.int .u64 a1_1),.sc (.string a1_2)]]=(fun (call:Aq)=>A4 (a1_0==7) (Aa (IntKind.wrap .u8 a1_1) fun x1=>Aa (IntKind.wrap .u8 (244+x1)) fun x2=>Ay (decide (a0n*1<=List.length a0)&&true&&decide ((a0n+1)*1<=1099511627776)&&decide (a0n+1<=1099511627776))<|Aa (a0n+1) fun x3=>Aa (List.take (a0n*1) a0++[.sc (.int .u8 x2)]) fun x4=>Ay (decide (x3*1<=List.length x4))<|some (A0.mk [.own 1 x3 (List.take (x3*1) x4)] [])) (A4 (a1_0==8) (Ay (decide (a0n*1<=List.length a0)&&true&&decide ((a0n+1)*1<=1099511627776)&&decide (a0n+1<=1099511627776))<|Aa (a0n+1) fun x5=>Aa (List.take (a0n*1) a0++[.sc (.int .u8 246)]) fun x6=>Ay (decide (x5*1<=List.length x6))<|some (A0.mk [.own 1 x5 (List.take (x5*1) x6)] [])) (A4 (a1_0==3) (Aa (IntKind.wrap .i64 (a1_0-1)) fun x7=>Aa (IntKind.wrap .u8 x7) fun x8=>Aa (IntKind.wrap .u64 (↑(ByteArray.size a1_2):Int)) fun x9=>Ay (decide (a0n*1<=List.length a0))<|Aj (call 142 [.own 1 a0n (List.take (a0n*1) a0),.sc (.int .u8 x8),.sc (.int .u64 x9)]) fun Cj Bp=>Ab Cj fun Cz C9=>Dp 1 Cz fun Cq C8=>Ac C9<|Ac Bp<|Ay (decide (Cq*1<=List.length C8)&&decide (List.length (Ct a1_2)=ByteArray.size a1_2*1)&&decide ((Cq+ByteArray.size a1_2)*1<=1099511627776)&&decide (Cq+ByteArray.size a1_2<=1099511627776))<|Aa (Cq+ByteArray.size a1_2) fun Dh=>Aa (List.take (Cq*1) C8++Ct a1_2) fun Dt=>Ay (decide (Dh*1<=List.length Dt))<|some (A0.mk [.own 1 Dh (List.take (Dh*1) Dt)] [])) (A4 (a1_0==4) (Aa (IntKind.wrap .i64 (a1_0-1)) fun D6=>Aa (IntKind.wrap .u8 D6) fun D1=>Aa (IntKind.wrap .u64 (↑(ByteArray.size a1_2):Int)) fun Ee=>Ay (decide (a0n*1<=List.length a0))<|Aj (call 142 [.own 1 a0n (List.take (a0n*1) a0),.sc (.int .u8 D1),.sc (.int .u64 Ee)]) fun Fq Cl=>Ab Fq fun Fy Dn=>Dp 1 Fy fun B3 Ew=>Ac Dn<|Ac Cl<|Ay (decide (B3*1<=List.length Ew)&&decide (List.length (Ct a1_2)=ByteArray.size a1_2*1)&&decide ((B3+ByteArray.size a1_2)*1<=1099511627776)&&decide (B3+ByteArray.size a1_2<=1099511627776))<|Aa (B3+ByteArray.size a1_2) fun F4=>Aa (List.take (B3*1) Ew++Ct a1_2) fun Bm=>Ay (decide (F4*1<=List.length Bm))<|some (A0.mk [.own 1 F4 (List.take (F4*1) Bm)] [])) (Aa (IntKind.wrap .i64 (a1_0-1)) fun Ci=>Aa (IntKind.wrap .u8 Ci) fun Gx=>Ay (decide (a0n*1<=List.length a0))<|Aj (call 142 [.own 1 a0n (List.take (a0n*1) a0),.sc (.int .u8 Gx),.sc (.int .u64 a1_1)]) fun G2 Ib=>Ab G2 fun Hz I4=>Dp 1 Hz fun G8 I5=>Ac I4<|Ac Ib<|Ay (decide (G8*1<=List.length I5))<|some (A0.mk [.own 1 G8 (List.take (G8*1) I5)] [])))))) (Ae C0 Tryz.prog fu d):=by kernel_rfl
abbrev U7:FuncId:=109
theorem Af0 (fu d a0_0n:Nat)(a0_0:List PV)(a0_1:Int):Ae C0 Tryz.prog fu (d+1) U7 [.pbox [.own 3 a0_0n a0_0,.sc (.int .i64 a0_1)]]=(fun (call:Aq)=>A4 (decide (a0_1>0)) (Ay (decide (a0_0n*3<=List.length a0_0))<|some (A0.mk [.sc (.bool ((↑a0_0n:Int)==0))] [[.own 3 a0_0n (List.take (a0_0n*3) a0_0),.sc (.int .i64 a0_1)]])) (Ay (decide (a0_0n*3<=List.length a0_0))<|some (A0.mk [.sc (.bool false)] [[.own 3 a0_0n (List.take (a0_0n*3) a0_0),.sc (.int .i64 a0_1)]]))) (Ae C0 Tryz.prog fu d):=by kernel_rfl
abbrev S7:FuncId:=134
theorem Ac6 (fu d a0_0n:Nat)(a0_0:List PV)(a0_1:Int):Ae C0 Tryz.prog fu (d+1) S7 [.pbox [.own 3 a0_0n a0_0,.sc (.int .i64 a0_1)]]=(fun (call:Aq)=>A4 (decide ((↑a0_0n:Int)>0)) (Aa (IntKind.wrap .i64 ((↑a0_0n:Int)-1)) fun x1=>Ay (decide (0<=x1)&&decide (x1<(↑a0_0n:Int)))<|Bw (List.getD a0_0 (0+Int.toNat x1*3+0) .top) fun x2=>A4 x2 (Aa (IntKind.wrap .i64 ((↑a0_0n:Int)-1)) fun x3=>Ay (decide (0<=x3)&&decide (x3<(↑a0_0n:Int)))<|Af .i64 (List.getD a0_0 (0+Int.toNat x3*3+1) .top) fun x4=>Aa (Int.tmod x4 2) fun x5=>Ay (decide (a0_0n*3<=List.length a0_0))<|some (A0.mk [.sc (.bool (x5==0))] [[.own 3 a0_0n (List.take (a0_0n*3) a0_0),.sc (.int .i64 a0_1)]])) (Ay (decide (a0_0n*3<=List.length a0_0))<|some (A0.mk [.sc (.bool false)] [[.own 3 a0_0n (List.take (a0_0n*3) a0_0),.sc (.int .i64 a0_1)]]))) (Ay (decide (a0_0n*3<=List.length a0_0))<|some (A0.mk [.sc (.bool false)] [[.own 3 a0_0n (List.take (a0_0n*3) a0_0),.sc (.int .i64 a0_1)]]))) (Ae C0 Tryz.prog fu d):=by kernel_rfl
abbrev S2:FuncId:=121
theorem Aej (fu d a0_0n:Nat)(a0_0:List PV)(a0_1 a1:Int):Ae C0 Tryz.prog fu (d+1) S2 [.pbox [.own 3 a0_0n a0_0,.sc (.int .i64 a0_1)],.sc (.int .i64 a1)]=(fun (call:Aq)=>A4 (decide (a0_1>=512)) (Ay (decide (a0_0n*3<=List.length a0_0))<|some (A0.mk [.sc (.int .i64 8)] [[.own 3 a0_0n (List.take (a0_0n*3) a0_0),.sc (.int .i64 a0_1)]])) (A4 (decide (a1<1)) (Ay (decide (a0_0n*3<=List.length a0_0))<|some (A0.mk [.sc (.int .i64 3)] [[.own 3 a0_0n (List.take (a0_0n*3) a0_0),.sc (.int .i64 a0_1)]])) (A4 (decide (a1>8)) (Ay (decide (a0_0n*3<=List.length a0_0))<|some (A0.mk [.sc (.int .i64 3)] [[.own 3 a0_0n (List.take (a0_0n*3) a0_0),.sc (.int .i64 a0_1)]])) (Ay (decide (a0_0n*3<=List.length a0_0))<|Aj (call 134 [.pbox [.own 3 a0_0n (List.take (a0_0n*3) a0_0),.sc (.int .i64 a0_1)]]) fun x1 x2=>Ab x1 fun x3 x4=>Bw x3 fun x5=>Ac x4<|Ab x2 fun x6 x7=>Ab x6 fun x8 x9=>Dp 3 x8 fun Cj Bp=>Ab x9 fun Cz C9=>Af .i64 Cz fun Cq=>Ac C9<|Ac x7<|A4 x5 (A4 (a1 != 1) (A4 (a1 != 2) (A4 (a1 != 4) (Ay (decide (Cj*3<=List.length Bp))<|some (A0.mk [.sc (.int .i64 3)] [[.own 3 Cj (List.take (Cj*3) Bp),.sc (.int .i64 Cq)]])) (A4 (decide ((↑Cj:Int)>8)) (Ay (decide (Cj*3<=List.length Bp))<|some (A0.mk [.sc (.int .i64 5)] [[.own 3 Cj (List.take (Cj*3) Bp),.sc (.int .i64 Cq)]])) (Ay (decide (Cj*3<=List.length Bp))<|some (A0.mk [.sc (.int .i64 0)] [[.own 3 Cj (List.take (Cj*3) Bp),.sc (.int .i64 Cq)]])))) (A4 (decide ((↑Cj:Int)>8)) (Ay (decide (Cj*3<=List.length Bp))<|some (A0.mk [.sc (.int .i64 5)] [[.own 3 Cj (List.take (Cj*3) Bp),.sc (.int .i64 Cq)]])) (Ay (decide (Cj*3<=List.length Bp))<|some (A0.mk [.sc (.int .i64 0)] [[.own 3 Cj (List.take (Cj*3) Bp),.sc (.int .i64 Cq)]])))) (A4 (decide ((↑Cj:Int)>8)) (Ay (decide (Cj*3<=List.length Bp))<|some (A0.mk [.sc (.int .i64 5)] [[.own 3 Cj (List.take (Cj*3) Bp),.sc (.int .i64 Cq)]])) (Ay (decide (Cj*3<=List.length Bp))<|some (A0.mk [.sc (.int .i64 0)] [[.own 3 Cj (List.take (Cj*3) Bp),.sc (.int .i64 Cq)]])))) (A4 (decide ((↑Cj:Int)>8)) (Ay (decide (Cj*3<=List.length Bp))<|some (A0.mk [.sc (.int .i64 5)] [[.own 3 Cj (List.take (Cj*3) Bp),.sc (.int .i64 Cq)]])) (Ay (decide (Cj*3<=List.length Bp))<|some (A0.mk [.sc (.int .i64 0)] [[.own 3 Cj (List.take (Cj*3) Bp),.sc (.int .i64 Cq)]]))))))) (Ae C0 Tryz.prog fu d):=by kernel_rfl
abbrev Vl:FuncId:=137
noncomputable def Bi (fu:Nat)(call:Aq)(a0_0n:Nat)(a0_0:List PV)(a0_1 a1_0 a1_1:Int)(a1_2:ByteArray)(nn:Nat)(y0:Int)(y1:Nat)(y2:Int)(y3:List PV):Option A0:=Cw C0 Tryz.prog fu call 137 Tryz.f137 (B5 Tryz.f137) [.pbox [.own 3 a0_0n a0_0,.sc (.int .i64 a0_1)],.agg [.sc (.int .i64 a1_0),.sc (.int .u64 a1_1),.sc (.string a1_2)]] [.r,.r,.r,.r,.r,.r,.l] nn ⟨lk [(0,(.ptr 212000 0)),(5,(.sc (.int .i64 y0)))],Gf [(212000,(.st [(.view 212106 3 0 y1),(.sc (.int .i64 y2))])),(212106,(.ar false y3))]⟩
theorem P4 (fu:Nat)(call:Aq)(a0_0n:Nat)(a0_0:List PV)(a0_1 a1_0 a1_1:Int)(a1_2:ByteArray)(nn:Nat)(y0:Int)(y1:Nat)(y2:Int)(y3:List PV):Bi fu call a0_0n a0_0 a0_1 a1_0 a1_1 a1_2 (nn+1) y0 y1 y2 y3=(A4 (decide (y0>0)) (Aa (IntKind.wrap .i64 (y0-1)) fun I5=>Ay (decide (0<=I5)&&decide (I5<(↑y1:Int)))<|Af .i64 (List.getD y3 (0+Int.toNat I5*3+1) .top) fun Ls=>A4 (Ls==0) (Aa (IntKind.wrap .i64 (y0-1)) fun F5=>Ay (decide (0<=F5))<|Ay (decide (Int.toNat F5<=y1))<|Aa (Int.toNat F5-0) fun Il=>Aa (IntKind.wrap .i64 (y0-1)) fun Pc=>Bi fu call a0_0n a0_0 a0_1 a1_0 a1_1 a1_2 (nn) Pc Il (y2) (y3)) (Ay (decide (y1*3<=List.length y3))<|some (A0.mk [] [[.own 3 y1 (List.take (y1*3) y3),.sc (.int .i64 y2)]]))) (Ay (decide (y1*3<=List.length y3))<|some (A0.mk [] [[.own 3 y1 (List.take (y1*3) y3),.sc (.int .i64 y2)]]))):=by kernel_rfl
theorem Afd (fu d a0_0n:Nat)(a0_0:List PV)(a0_1 a1_0 a1_1:Int)(a1_2:ByteArray):Ae C0 Tryz.prog fu (d+1) Vl [.pbox [.own 3 a0_0n a0_0,.sc (.int .i64 a0_1)],.agg [.sc (.int .i64 a1_0),.sc (.int .u64 a1_1),.sc (.string a1_2)]]=(fun (call:Aq)=>Aa (IntKind.wrap .i64 (a0_1+1)) fun x1=>A4 (decide ((↑a0_0n:Int)>0)) (Aa (IntKind.wrap .i64 ((↑a0_0n:Int)-1)) fun x2=>Ay (decide (0<=x2)&&decide (x2<(↑a0_0n:Int)))<|Af .i64 (List.getD a0_0 (0+Int.toNat x2*3+1) .top) fun x3=>Aa (IntKind.wrap .i64 (x3-1)) fun x4=>Ay (decide (0<=x2)&&decide (x2<(↑a0_0n:Int)))<|Ay (decide (0+Int.toNat x2*3+1+1<=List.length a0_0))<|Aa (Cb a0_0 [.sc (.int .i64 x4)] (0+Int.toNat x2*3+1)) fun x5=>A4 (a1_0==5) (A4 (decide (a1_1>0)) (Aa (IntKind.wrap .i64 a1_1) fun x6=>Ay (decide (a0_0n*3<=List.length x5)&&true&&decide ((a0_0n+1)*40<=1099511627776)&&decide (a0_0n+1<=1099511627776))<|Aa (a0_0n+1) fun x7=>Aa (List.take (a0_0n*3) x5++[.sc (.bool false),.sc (.int .i64 x6),.lst false 1 0 []]) fun x8=>A4 (a1_0==6) (A4 (decide (a1_1>0)) (Aa (IntKind.wrap .i64 a1_1) fun x9=>Aa (IntKind.wrap .i64 (2*x9)) fun Cj=>Ay (decide (x7*3<=List.length x8)&&true&&decide ((x7+1)*40<=1099511627776)&&decide (x7+1<=1099511627776))<|Aa (x7+1) fun Bp=>Aa (List.take (x7*3) x8++[.sc (.bool true),.sc (.int .i64 Cj),.lst false 1 0 []]) fun Cz=>Bi fu call a0_0n a0_0 a0_1 a1_0 a1_1 a1_2 (fu) ((↑Bp:Int)) Bp x1 Cz) (Bi fu call a0_0n a0_0 a0_1 a1_0 a1_1 a1_2 (fu) ((↑x7:Int)) x7 x1 x8)) (Bi fu call a0_0n a0_0 a0_1 a1_0 a1_1 a1_2 (fu) ((↑x7:Int)) x7 x1 x8)) (A4 (a1_0==6) (A4 (decide (a1_1>0)) (Aa (IntKind.wrap .i64 a1_1) fun C9=>Aa (IntKind.wrap .i64 (2*C9)) fun Cq=>Ay (decide (a0_0n*3<=List.length x5)&&true&&decide ((a0_0n+1)*40<=1099511627776)&&decide (a0_0n+1<=1099511627776))<|Aa (a0_0n+1) fun C8=>Aa (List.take (a0_0n*3) x5++[.sc (.bool true),.sc (.int .i64 Cq),.lst false 1 0 []]) fun Dh=>Bi fu call a0_0n a0_0 a0_1 a1_0 a1_1 a1_2 (fu) ((↑C8:Int)) C8 x1 Dh) (Bi fu call a0_0n a0_0 a0_1 a1_0 a1_1 a1_2 (fu) ((↑a0_0n:Int)) (a0_0n) x1 x5)) (Bi fu call a0_0n a0_0 a0_1 a1_0 a1_1 a1_2 (fu) ((↑a0_0n:Int)) (a0_0n) x1 x5))) (A4 (a1_0==6) (A4 (decide (a1_1>0)) (Aa (IntKind.wrap .i64 a1_1) fun Dt=>Aa (IntKind.wrap .i64 (2*Dt)) fun D6=>Ay (decide (a0_0n*3<=List.length x5)&&true&&decide ((a0_0n+1)*40<=1099511627776)&&decide (a0_0n+1<=1099511627776))<|Aa (a0_0n+1) fun D1=>Aa (List.take (a0_0n*3) x5++[.sc (.bool true),.sc (.int .i64 D6),.lst false 1 0 []]) fun Ee=>Bi fu call a0_0n a0_0 a0_1 a1_0 a1_1 a1_2 (fu) ((↑D1:Int)) D1 x1 Ee) (Bi fu call a0_0n a0_0 a0_1 a1_0 a1_1 a1_2 (fu) ((↑a0_0n:Int)) (a0_0n) x1 x5)) (Bi fu call a0_0n a0_0 a0_1 a1_0 a1_1 a1_2 (fu) ((↑a0_0n:Int)) (a0_0n) x1 x5))) (A4 (a1_0==5) (A4 (decide (a1_1>0)) (Aa (IntKind.wrap .i64 a1_1) fun Fq=>Ay (decide (a0_0n*3<=List.length a0_0)&&true&&decide ((a0_0n+1)*40<=1099511627776)&&decide (a0_0n+1<=1099511627776))<|Aa (a0_0n+1) fun Cl=>Aa (List.take (a0_0n*3) a0_0++[.sc (.bool false),.sc (.int .i64 Fq),.lst false 1 0 []]) fun Fy=>A4 (a1_0==6) (A4 (decide (a1_1>0)) (Aa (IntKind.wrap .i64 a1_1) fun Dn=>Aa (IntKind.wrap .i64 (2*Dn)) fun B3=>Ay (decide (Cl*3<=List.length Fy)&&true&&decide ((Cl+1)*40<=1099511627776)&&decide (Cl+1<=1099511627776))<|Aa (Cl+1) fun Ew=>Aa (List.take (Cl*3) Fy++[.sc (.bool true),.sc (.int .i64 B3),.lst false 1 0 []]) fun F4=>Bi fu call a0_0n a0_0 a0_1 a1_0 a1_1 a1_2 (fu) ((↑Ew:Int)) Ew x1 F4) (Bi fu call a0_0n a0_0 a0_1 a1_0 a1_1 a1_2 (fu) ((↑Cl:Int)) Cl x1 Fy)) (Bi fu call a0_0n a0_0 a0_1 a1_0 a1_1 a1_2 (fu) ((↑Cl:Int)) Cl x1 Fy)) (A4 (a1_0==6) (A4 (decide (a1_1>0)) (Aa (IntKind.wrap .i64 a1_1) fun Bm=>Aa (IntKind.wrap .i64 (2*Bm)) fun Ci=>Ay (decide (a0_0n*3<=List.length a0_0)&&true&&decide ((a0_0n+1)*40<=1099511627776)&&decide (a0_0n+1<=1099511627776))<|Aa (a0_0n+1) fun Gx=>Aa (List.take (a0_0n*3) a0_0++[.sc (.bool true),.sc (.int .i64 Ci),.lst false 1 0 []]) fun G2=>Bi fu call a0_0n a0_0 a0_1 a1_0 a1_1 a1_2 (fu) ((↑Gx:Int)) Gx x1 G2) (Bi fu call a0_0n a0_0 a0_1 a1_0 a1_1 a1_2 (fu) ((↑a0_0n:Int)) (a0_0n) x1 (a0_0))) (Bi fu call a0_0n a0_0 a0_1 a1_0 a1_1 a1_2 (fu) ((↑a0_0n:Int)) (a0_0n) x1 (a0_0)))) (A4 (a1_0==6) (A4 (decide (a1_1>0)) (Aa (IntKind.wrap .i64 a1_1) fun Ib=>Aa (IntKind.wrap .i64 (2*Ib)) fun Hz=>Ay (decide (a0_0n*3<=List.length a0_0)&&true&&decide ((a0_0n+1)*40<=1099511627776)&&decide (a0_0n+1<=1099511627776))<|Aa (a0_0n+1) fun I4=>Aa (List.take (a0_0n*3) a0_0++[.sc (.bool true),.sc (.int .i64 Hz),.lst false 1 0 []]) fun G8=>Bi fu call a0_0n a0_0 a0_1 a1_0 a1_1 a1_2 (fu) ((↑I4:Int)) I4 x1 G8) (Bi fu call a0_0n a0_0 a0_1 a1_0 a1_1 a1_2 (fu) ((↑a0_0n:Int)) (a0_0n) x1 (a0_0))) (Bi fu call a0_0n a0_0 a0_1 a1_0 a1_1 a1_2 (fu) ((↑a0_0n:Int)) (a0_0n) x1 (a0_0))))) (Ae C0 Tryz.prog fu d):=by kernel_rfl
abbrev Kj:FuncId:=122
theorem Kk (fu d a0_0n:Nat)(a0_0:List PV)(a0_1 a1_0 a1_1:Int)(a1_2:ByteArray):Ae C0 Tryz.prog fu (d+1) Kj [.pbox [.own 3 a0_0n a0_0,.sc (.int .i64 a0_1)],.agg [.sc (.int .i64 a1_0),.sc (.int .u64 a1_1),.sc (.string a1_2)]]=(fun (call:Aq)=>A4 (a1_0==4) (Aj (call 67 [.sc (.string a1_2)]) fun x1 x2=>Ac x2<|Ab x1 fun x3 x4=>Bw x3 fun x5=>Ac x4<|A4 (!x5) (Ay (decide (a0_0n*3<=List.length a0_0))<|some (A0.mk [.sc (.int .i64 6)] [[.own 3 a0_0n (List.take (a0_0n*3) a0_0),.sc (.int .i64 a0_1)]])) (Ay (decide (a0_0n*3<=List.length a0_0))<|Aj (call 134 [.pbox [.own 3 a0_0n (List.take (a0_0n*3) a0_0),.sc (.int .i64 a0_1)]]) fun x6 x7=>Ab x6 fun x8 x9=>Bw x8 fun Cj=>Ac x9<|Ab x7 fun Bp Cz=>Ab Bp fun C9 Cq=>Dp 3 C9 fun C8 Dh=>Ab Cq fun Dt D6=>Af .i64 Dt fun D1=>Ac D6<|Ac Cz<|A4 Cj (Aa (IntKind.wrap .i64 ((↑C8:Int)-1)) fun Ee=>Ay (decide (0<=Ee)&&decide (Ee<(↑C8:Int)))<|Aj (call 135 [.own 1 0 [],.agg [.sc (.int .i64 a1_0),.sc (.int .u64 a1_1),.sc (.string a1_2)]]) fun Fq Cl=>Ab Fq fun Fy Dn=>Dp 1 Fy fun B3 Ew=>Ac Dn<|Ac Cl<|Iz 1 (List.getD Dh (0+Int.toNat Ee*3+0+2) .top) fun F4 Bm Ci=>A4 (decide (0<Bm)) (Iz 1 (List.getD Dh (0+Int.toNat Ee*3+0+2) .top) fun Gx G2 Ib=>Ay (decide (0+B3*1<=List.length Ew))<|Aj (call 136 [.lst false 1 G2 Ib,.lst false 1 B3 (List.take (B3*1) (List.drop 0 Ew))]) fun Hz I4=>Ac I4<|Ab Hz fun G8 I5=>Bw G8 fun Ls=>Ac I5<|A4 (!Ls) (Ay (decide (C8*3<=List.length Dh))<|some (A0.mk [.sc (.int .i64 7)] [[.own 3 C8 (List.take (C8*3) Dh),.sc (.int .i64 D1)]])) (Ay (decide (0+Int.toNat Ee*3+0+2+1<=List.length Dh))<|Ay (decide (0+B3*1<=List.length Ew))<|Aa (Cb Dh [.lst false 1 B3 (List.take (B3*1) (List.drop 0 Ew))] (0+Int.toNat Ee*3+0+2)) fun F5=>Ay (decide (C8*3<=List.length F5))<|Aj (call 137 [.pbox [.own 3 C8 (List.take (C8*3) F5),.sc (.int .i64 D1)],.agg [.sc (.int .i64 a1_0),.sc (.int .u64 a1_1),.sc (.string a1_2)]]) fun Il Pc=>Ac Il<|Ab Pc fun Qi Ke=>Ab Qi fun Kf Ph=>Dp 3 Kf fun Mw Pi=>Ab Ph fun Ps Qx=>Af .i64 Ps fun Pd=>Ac Qx<|Ac Ke<|Ay (decide (Mw*3<=List.length Pi))<|some (A0.mk [.sc (.int .i64 0)] [[.own 3 Mw (List.take (Mw*3) Pi),.sc (.int .i64 Pd)]]))) (Abm (Iz 1 (List.getD Dh (0+Int.toNat Ee*3+0+2) .top) fun Qk Q3 Q4=>Ay (decide (0+B3*1<=List.length Ew))<|Aj (call 136 [.lst false 1 Q3 Q4,.lst false 1 B3 (List.take (B3*1) (List.drop 0 Ew))]) fun Kx Sk=>Ac Sk<|Ab Kx fun Qw Sx=>Bw Qw fun Ow=>Ac Sx<|A4 (!Ow) (Ay (decide (C8*3<=List.length Dh))<|some (A0.mk [.sc (.int .i64 7)] [[.own 3 C8 (List.take (C8*3) Dh),.sc (.int .i64 D1)]])) (Ay (decide (0+Int.toNat Ee*3+0+2+1<=List.length Dh))<|Ay (decide (0+B3*1<=List.length Ew))<|Aa (Cb Dh [.lst false 1 B3 (List.take (B3*1) (List.drop 0 Ew))] (0+Int.toNat Ee*3+0+2)) fun Qu=>Ay (decide (C8*3<=List.length Qu))<|Aj (call 137 [.pbox [.own 3 C8 (List.take (C8*3) Qu),.sc (.int .i64 D1)],.agg [.sc (.int .i64 a1_0),.sc (.int .u64 a1_1),.sc (.string a1_2)]]) fun R5 S3=>Ac R5<|Ab S3 fun Qm Tw=>Ab Qm fun Vs Sy=>Dp 3 Vs fun Su Sf=>Ab Sy fun Sa Wo=>Af .i64 Sa fun Tf=>Ac Wo<|Ac Tw<|Ay (decide (Su*3<=List.length Sf))<|some (A0.mk [.sc (.int .i64 0)] [[.own 3 Su (List.take (Su*3) Sf),.sc (.int .i64 Tf)]]))) (Ay (decide (0+Int.toNat Ee*3+0+2+1<=List.length Dh))<|Ay (decide (0+B3*1<=List.length Ew))<|Aa (Cb Dh [.lst false 1 B3 (List.take (B3*1) (List.drop 0 Ew))] (0+Int.toNat Ee*3+0+2)) fun Td=>Ay (decide (C8*3<=List.length Td))<|Aj (call 137 [.pbox [.own 3 C8 (List.take (C8*3) Td),.sc (.int .i64 D1)],.agg [.sc (.int .i64 a1_0),.sc (.int .u64 a1_1),.sc (.string a1_2)]]) fun Th Vh=>Ac Th<|Ab Vh fun Uh Tc=>Ab Uh fun So Vr=>Dp 3 So fun Uk V2=>Ab Vr fun Xu Xa=>Af .i64 Xu fun x81=>Ac Xa<|Ac Tc<|Ay (decide (Uk*3<=List.length V2))<|some (A0.mk [.sc (.int .i64 0)] [[.own 3 Uk (List.take (Uk*3) V2),.sc (.int .i64 x81)]])))) (Ay (decide (C8*3<=List.length Dh))<|Aj (call 137 [.pbox [.own 3 C8 (List.take (C8*3) Dh),.sc (.int .i64 D1)],.agg [.sc (.int .i64 a1_0),.sc (.int .u64 a1_1),.sc (.string a1_2)]]) fun X3 X4=>Ac X3<|Ab X4 fun Xo x85=>Ab Xo fun x86 x87=>Dp 3 x86 fun Ro Uf=>Ab x87 fun Uo x91=>Af .i64 Uo fun x92=>Ac x91<|Ac x85<|Ay (decide (Ro*3<=List.length Uf))<|some (A0.mk [.sc (.int .i64 0)] [[.own 3 Ro (List.take (Ro*3) Uf),.sc (.int .i64 x92)]])))) (Ay (decide (a0_0n*3<=List.length a0_0))<|Aj (call 134 [.pbox [.own 3 a0_0n (List.take (a0_0n*3) a0_0),.sc (.int .i64 a0_1)]]) fun x93 x94=>Ab x93 fun x95 x96=>Bw x95 fun x97=>Ac x96<|Ab x94 fun x98 x99=>Ab x98 fun Xq Tu=>Dp 3 Xq fun H9 Lt=>Ab Tu fun Zr Uc=>Af .i64 Zr fun Ry=>Ac Uc<|Ac x99<|A4 x97 (Aa (IntKind.wrap .i64 ((↑H9:Int)-1)) fun Mz=>Ay (decide (0<=Mz)&&decide (Mz<(↑H9:Int)))<|Aj (call 135 [.own 1 0 [],.agg [.sc (.int .i64 a1_0),.sc (.int .u64 a1_1),.sc (.string a1_2)]]) fun Aaj Acz=>Ab Aaj fun Zs Aay=>Dp 1 Zs fun Ji Mt=>Ac Aay<|Ac Acz<|Iz 1 (List.getD Lt (0+Int.toNat Mz*3+0+2) .top) fun Afu Afb Qg=>A4 (decide (0<Afb)) (Iz 1 (List.getD Lt (0+Int.toNat Mz*3+0+2) .top) fun Wb Agv Acu=>Ay (decide (0+Ji*1<=List.length Mt))<|Aj (call 136 [.lst false 1 Agv Acu,.lst false 1 Ji (List.take (Ji*1) (List.drop 0 Mt))]) fun Agu Ad8=>Ac Ad8<|Ab Agu fun Agj Afw=>Bw Agj fun Afh=>Ac Afw<|A4 (!Afh) (Ay (decide (H9*3<=List.length Lt))<|some (A0.mk [.sc (.int .i64 7)] [[.own 3 H9 (List.take (H9*3) Lt),.sc (.int .i64 Ry)]])) (Ay (decide (0+Int.toNat Mz*3+0+2+1<=List.length Lt))<|Ay (decide (0+Ji*1<=List.length Mt))<|Aa (Cb Lt [.lst false 1 Ji (List.take (Ji*1) (List.drop 0 Mt))] (0+Int.toNat Mz*3+0+2)) fun Ad7=>Ay (decide (H9*3<=List.length Ad7))<|Aj (call 137 [.pbox [.own 3 H9 (List.take (H9*3) Ad7),.sc (.int .i64 Ry)],.agg [.sc (.int .i64 a1_0),.sc (.int .u64 a1_1),.sc (.string a1_2)]]) fun Vg Zc=>Ac Vg<|Ab Zc fun Af4 Aft=>Ab Af4 fun Abs Aiv=>Dp 3 Abs fun Af6 Ad3=>Ab Aiv fun Ah7 Aji=>Af .i64 Ah7 fun Aj5=>Ac Aji<|Ac Aft<|Ay (decide (Af6*3<=List.length Ad3))<|some (A0.mk [.sc (.int .i64 0)] [[.own 3 Af6 (List.take (Af6*3) Ad3),.sc (.int .i64 Aj5)]]))) (Abm (Iz 1 (List.getD Lt (0+Int.toNat Mz*3+0+2) .top) fun Amd All Afe=>Ay (decide (0+Ji*1<=List.length Mt))<|Aj (call 136 [.lst false 1 All Afe,.lst false 1 Ji (List.take (Ji*1) (List.drop 0 Mt))]) fun Ah8 Agm=>Ac Agm<|Ab Ah8 fun Ah5 Aix=>Bw Ah5 fun Agl=>Ac Aix<|A4 (!Agl) (Ay (decide (H9*3<=List.length Lt))<|some (A0.mk [.sc (.int .i64 7)] [[.own 3 H9 (List.take (H9*3) Lt),.sc (.int .i64 Ry)]])) (Ay (decide (0+Int.toNat Mz*3+0+2+1<=List.length Lt))<|Ay (decide (0+Ji*1<=List.length Mt))<|Aa (Cb Lt [.lst false 1 Ji (List.take (Ji*1) (List.drop 0 Mt))] (0+Int.toNat Mz*3+0+2)) fun Aee=>Ay (decide (H9*3<=List.length Aee))<|Aj (call 137 [.pbox [.own 3 H9 (List.take (H9*3) Aee),.sc (.int .i64 Ry)],.agg [.sc (.int .i64 a1_0),.sc (.int .u64 a1_1),.sc (.string a1_2)]]) fun Ada Ahy=>Ac Ada<|Ab Ahy fun Ala Aro=>Ab Ala fun Apj Aqg=>Dp 3 Apj fun Afm Akh=>Ab Aqg fun Aln Alw=>Af .i64 Aln fun Apt=>Ac Alw<|Ac Aro<|Ay (decide (Afm*3<=List.length Akh))<|some (A0.mk [.sc (.int .i64 0)] [[.own 3 Afm (List.take (Afm*3) Akh),.sc (.int .i64 Apt)]]))) (Ay (decide (0+Int.toNat Mz*3+0+2+1<=List.length Lt))<|Ay (decide (0+Ji*1<=List.length Mt))<|Aa (Cb Lt [.lst false 1 Ji (List.take (Ji*1) (List.drop 0 Mt))] (0+Int.toNat Mz*3+0+2)) fun Al4=>Ay (decide (H9*3<=List.length Al4))<|Aj (call 137 [.pbox [.own 3 H9 (List.take (H9*3) Al4),.sc (.int .i64 Ry)],.agg [.sc (.int .i64 a1_0),.sc (.int .u64 a1_1),.sc (.string a1_2)]]) fun Amo Amv=>Ac Amo<|Ab Amv fun Aq1 Ao5=>Ab Aq1 fun Ame Ape=>Dp 3 Ame fun Alf Amn=>Ab Ape fun Apk Akw=>Af .i64 Apk fun Amt=>Ac Akw<|Ac Ao5<|Ay (decide (Alf*3<=List.length Amn))<|some (A0.mk [.sc (.int .i64 0)] [[.own 3 Alf (List.take (Alf*3) Amn),.sc (.int .i64 Amt)]])))) (Ay (decide (H9*3<=List.length Lt))<|Aj (call 137 [.pbox [.own 3 H9 (List.take (H9*3) Lt),.sc (.int .i64 Ry)],.agg [.sc (.int .i64 a1_0),.sc (.int .u64 a1_1),.sc (.string a1_2)]]) fun Akc Ajs=>Ac Akc<|Ab Ajs fun Aqz Aus=>Ab Aqz fun Aqs As4=>Dp 3 Aqs fun Amw Atd=>Ab As4 fun Axy Ask=>Af .i64 Axy fun Auf=>Ac Ask<|Ac Aus<|Ay (decide (Amw*3<=List.length Atd))<|some (A0.mk [.sc (.int .i64 0)] [[.own 3 Amw (List.take (Amw*3) Atd),.sc (.int .i64 Auf)]])))) (Ae C0 Tryz.prog fu d):=by kernel_rfl
abbrev Pt:FuncId:=144
theorem Aar (fu d a0_0n:Nat)(a0_0:List PV)(a0_1 a1_0 a1_1:Int)(a1_2:ByteArray):Ae C0 Tryz.prog fu (d+1) Pt [.pbox [.own 3 a0_0n a0_0,.sc (.int .i64 a0_1)],.agg [.sc (.int .i64 a1_0),.sc (.int .u64 a1_1),.sc (.string a1_2)]]=(fun (call:Aq)=>Ay (decide (a0_0n*3<=List.length a0_0))<|Aj (call 109 [.pbox [.own 3 a0_0n (List.take (a0_0n*3) a0_0),.sc (.int .i64 a0_1)]]) fun x1 x2=>Ab x1 fun x3 x4=>Bw x3 fun x5=>Ac x4<|Ab x2 fun x6 x7=>Ab x6 fun x8 x9=>Dp 3 x8 fun Cj Bp=>Ab x9 fun Cz C9=>Af .i64 Cz fun Cq=>Ac C9<|Ac x7<|A4 x5 (Ay (decide (Cj*3<=List.length Bp))<|some (A0.mk [.sc (.int .i64 2)] [[.own 3 Cj (List.take (Cj*3) Bp),.sc (.int .i64 Cq)]])) (Ay (decide (Cj*3<=List.length Bp))<|Aj (call 121 [.pbox [.own 3 Cj (List.take (Cj*3) Bp),.sc (.int .i64 Cq)],.sc (.int .i64 a1_0)]) fun C8 Dh=>Ab C8 fun Dt D6=>Af .i64 Dt fun D1=>Ac D6<|Ab Dh fun Ee Fq=>Ab Ee fun Cl Fy=>Dp 3 Cl fun Dn B3=>Ab Fy fun Ew F4=>Af .i64 Ew fun Bm=>Ac F4<|Ac Fq<|A4 (D1 != 0) (Ay (decide (Dn*3<=List.length B3))<|some (A0.mk [.sc (.int .i64 D1)] [[.own 3 Dn (List.take (Dn*3) B3),.sc (.int .i64 Bm)]])) (Aj (call 146 [.agg [.sc (.int .i64 a1_0),.sc (.int .u64 a1_1),.sc (.string a1_2)]]) fun Ci Gx=>Ac Gx<|Ab Ci fun G2 Ib=>Bw G2 fun Hz=>Ac Ib<|A4 (!Hz) (Ay (decide (Dn*3<=List.length B3))<|some (A0.mk [.sc (.int .i64 4)] [[.own 3 Dn (List.take (Dn*3) B3),.sc (.int .i64 Bm)]])) (A4 (decide ((↑(ByteArray.size a1_2):Int)>1024)) (Ay (decide (Dn*3<=List.length B3))<|some (A0.mk [.sc (.int .i64 8)] [[.own 3 Dn (List.take (Dn*3) B3),.sc (.int .i64 Bm)]])) (A4 (a1_0==5) (A4 (decide (a1_1>512)) (Ay (decide (Dn*3<=List.length B3))<|some (A0.mk [.sc (.int .i64 8)] [[.own 3 Dn (List.take (Dn*3) B3),.sc (.int .i64 Bm)]])) (Ay (decide (Dn*3<=List.length B3))<|Aj (call 122 [.pbox [.own 3 Dn (List.take (Dn*3) B3),.sc (.int .i64 Bm)],.agg [.sc (.int .i64 a1_0),.sc (.int .u64 a1_1),.sc (.string a1_2)]]) fun I4 G8=>Ab I4 fun I5 Ls=>Af .i64 I5 fun F5=>Ac Ls<|Ab G8 fun Il Pc=>Ab Il fun Qi Ke=>Dp 3 Qi fun Kf Ph=>Ab Ke fun Mw Pi=>Af .i64 Mw fun Ps=>Ac Pi<|Ac Pc<|Ay (decide (Kf*3<=List.length Ph))<|some (A0.mk [.sc (.int .i64 F5)] [[.own 3 Kf (List.take (Kf*3) Ph),.sc (.int .i64 Ps)]]))) (A4 (a1_0==6) (A4 (decide (a1_1>512)) (Ay (decide (Dn*3<=List.length B3))<|some (A0.mk [.sc (.int .i64 8)] [[.own 3 Dn (List.take (Dn*3) B3),.sc (.int .i64 Bm)]])) (Ay (decide (Dn*3<=List.length B3))<|Aj (call 122 [.pbox [.own 3 Dn (List.take (Dn*3) B3),.sc (.int .i64 Bm)],.agg [.sc (.int .i64 a1_0),.sc (.int .u64 a1_1),.sc (.string a1_2)]]) fun Qx Pd=>Ab Qx fun Qk Q3=>Af .i64 Qk fun Q4=>Ac Q3<|Ab Pd fun Kx Sk=>Ab Kx fun Qw Sx=>Dp 3 Qw fun Ow Qu=>Ab Sx fun R5 S3=>Af .i64 R5 fun Qm=>Ac S3<|Ac Sk<|Ay (decide (Ow*3<=List.length Qu))<|some (A0.mk [.sc (.int .i64 Q4)] [[.own 3 Ow (List.take (Ow*3) Qu),.sc (.int .i64 Qm)]]))) (Ay (decide (Dn*3<=List.length B3))<|Aj (call 122 [.pbox [.own 3 Dn (List.take (Dn*3) B3),.sc (.int .i64 Bm)],.agg [.sc (.int .i64 a1_0),.sc (.int .u64 a1_1),.sc (.string a1_2)]]) fun Tw Vs=>Ab Tw fun Sy Su=>Af .i64 Sy fun Sf=>Ac Su<|Ab Vs fun Sa Wo=>Ab Sa fun Tf Td=>Dp 3 Tf fun Th Vh=>Ab Td fun Uh Tc=>Af .i64 Uh fun So=>Ac Tc<|Ac Wo<|Ay (decide (Th*3<=List.length Vh))<|some (A0.mk [.sc (.int .i64 Sf)] [[.own 3 Th (List.take (Th*3) Vh),.sc (.int .i64 So)]])))))))) (Ae C0 Tryz.prog fu d):=by kernel_rfl
abbrev W7:FuncId:=140
noncomputable def Jm (fu:Nat)(call:Aq)(a0n:Nat)(a0:List PV)(nn y0:Nat)(y1:List PV)(y2 y3:Int)(y4:Nat)(y5:Int)(y6:List PV):Option A0:=Cw C0 Tryz.prog fu call 140 Tryz.f140 (B5 Tryz.f140) [.lst false 3 a0n a0] [.r,.r,.l,.r,.l] nn ⟨lk [(3,(.ptr 3 0)),(7,(.lst false 3 y0 y1)),(8,(.sc (.int .i64 y2))),(9,(.sc (.int .i64 y3)))],Gf [(3,(.st [(.view 25 3 0 y4),(.sc (.int .i64 y5))])),(25,(.ar false y6))]⟩
theorem Rq (fu:Nat)(call:Aq)(a0n:Nat)(a0:List PV)(nn y0:Nat)(y1:List PV)(y2 y3:Int)(y4:Nat)(y5:Int)(y6:List PV):Jm fu call a0n a0 (nn+1) y0 y1 y2 y3 y4 y5 y6=(A4 (decide (y3<y2)) (Ay (decide (0<=y3)&&decide (y3<(↑y0:Int)))<|Af .i64 (List.getD y1 (Int.toNat y3*3) .top) fun x1=>Af .u64 (List.getD y1 (Int.toNat y3*3+1) .top) fun x2=>Cn (List.getD y1 (Int.toNat y3*3+1+1) .top) fun x3=>Ay (decide (y4*3<=List.length y6))<|Aj (call 144 [.pbox [.own 3 y4 (List.take (y4*3) y6),.sc (.int .i64 y5)],.agg [.sc (.int .i64 x1),.sc (.int .u64 x2),.sc (.string x3)]]) fun x4 x5=>Ab x4 fun x6 x7=>Af .i64 x6 fun x8=>Ac x7<|Ab x5 fun x9 Cj=>Ab x9 fun Bp Cz=>Dp 3 Bp fun C9 Cq=>Ab Cz fun C8 Dh=>Af .i64 C8 fun Dt=>Ac Dh<|Ac Cj<|A4 (x8 != 0) (some (A0.mk [.sc (.int .i64 x8)] [])) (Aa (IntKind.wrap .i64 (y3+1)) fun D6=>Jm fu call a0n a0 (nn) (y0) (y1) (y2) D6 C9 Dt Cq)) (Ay (decide (y4*3<=List.length y6))<|Aj (call 109 [.pbox [.own 3 y4 (List.take (y4*3) y6),.sc (.int .i64 y5)]]) fun D1 Ee=>Ab D1 fun Fq Cl=>Bw Fq fun Fy=>Ac Cl<|Ab Ee fun Dn B3=>Ab Dn fun Ew F4=>Dp 3 Ew fun Bm Ci=>Ab F4 fun Gx G2=>Af .i64 Gx fun Ib=>Ac G2<|Ac B3<|A4 (!Fy) (some (A0.mk [.sc (.int .i64 1)] [])) (some (A0.mk [.sc (.int .i64 0)] [])))):=by kernel_rfl
theorem Aia (fu d a0n:Nat)(a0:List PV):Ae C0 Tryz.prog fu (d+1) W7 [.lst false 3 a0n a0]=(fun (call:Aq)=>Jm fu call a0n a0 (fu) (a0n) (a0) ((↑a0n:Int)) 0 0 0 ([])) (Ae C0 Tryz.prog fu d):=by kernel_rfl
abbrev Yg:FuncId:=139
theorem Aj6 (fu d a0n:Nat)(a0:List PV):Ae C0 Tryz.prog fu (d+1) Yg [.own 3 a0n a0]=(fun (call:Aq)=>Ay (decide (0+a0n*3<=List.length a0))<|Aj (call 140 [.lst false 3 a0n (List.take (a0n*3) (List.drop 0 a0))]) fun x1 x2=>Ac x2<|Ab x1 fun x3 x4=>Af .i64 x3 fun x5=>Ac x4<|A4 (x5 != 0) (some (A0.mk [.own 3 0 [],.sc (.int .i64 x5)] [])) (Ay (decide (a0n*3<=List.length a0))<|some (A0.mk [.own 3 a0n (List.take (a0n*3) a0),.sc (.int .i64 0)] []))) (Ae C0 Tryz.prog fu d):=by kernel_rfl
abbrev Abl:FuncId:=138
noncomputable def Mu (fu:Nat)(call:Aq)(a0n:Nat)(a0:List PV)(nn y0:Nat)(y1:List PV)(y2 y3:Int):Option A0:=Cw C0 Tryz.prog fu call 138 Tryz.f138 (B5 Tryz.f138) [.lst false 1 a0n a0] [.r,.l,.r,.l] nn ⟨lk [(6,(.lst false 1 y0 y1)),(7,(.sc (.int .i64 y2))),(8,(.sc (.int .i64 y3)))],Gf []⟩
theorem Ve (fu:Nat)(call:Aq)(a0n:Nat)(a0:List PV)(nn y0:Nat)(y1:List PV)(y2 y3:Int):Mu fu call a0n a0 (nn+1) y0 y1 y2 y3=(A4 (decide (y3<y2)) (Ay (decide (0<=y3)&&decide (y3<(↑y0:Int)))<|Iz 3 (List.getD y1 (Int.toNat y3*1) .top) fun x1 x2 x3=>Aj (call 140 [.lst false 3 x2 x3]) fun x4 x5=>Ac x5<|Ab x4 fun x6 x7=>Af .i64 x6 fun x8=>Ac x7<|A4 (x8 != 0) (some (A0.mk [.sc (.int .i64 x8)] [])) (Aa (IntKind.wrap .i64 (y3+1)) fun x9=>Mu fu call a0n a0 (nn) (y0) (y1) (y2) x9)) (some (A0.mk [.sc (.int .i64 0)] []))):=by kernel_rfl
theorem Amm (fu d a0n:Nat)(a0:List PV):Ae C0 Tryz.prog fu (d+1) Abl [.lst false 1 a0n a0]=(fun (call:Aq)=>Mu fu call a0n a0 (fu) (a0n) (a0) ((↑a0n:Int)) 0) (Ae C0 Tryz.prog fu d):=by kernel_rfl
abbrev Wc:FuncId:=124
noncomputable def Oa (fu:Nat)(call:Aq)(a0n:Nat)(a0:List PV)(nn y0 y1:Nat)(y2:List PV)(y3 y4:Int)(y5:List PV):Option A0:=Cw C0 Tryz.prog fu call 124 Tryz.f124 (B5 Tryz.f124) [.lst false 1 a0n a0] [.r,.r,.r,.l,.r,.l] nn ⟨lk [(5,(.view 5 3 0 y0)),(18,(.lst false 1 y1 y2)),(19,(.sc (.int .i64 y3))),(20,(.sc (.int .i64 y4)))],Gf [(5,(.ar false y5))]⟩
theorem Xe (fu:Nat)(call:Aq)(a0n:Nat)(a0:List PV)(nn y0 y1:Nat)(y2:List PV)(y3 y4:Int)(y5:List PV):Oa fu call a0n a0 (nn+1) y0 y1 y2 y3 y4 y5=(A4 (decide (y4<y3)) (Ay (decide (0<=y4)&&decide (y4<(↑y1:Int)))<|Iz 3 (List.getD y2 (Int.toNat y4*1) .top) fun x7 x8 x9=>A4 (decide ((↑y0:Int)>512)) (Ay (decide (y0*3<=List.length y5))<|Aj (call 139 [.own 3 y0 (List.take (y0*3) y5)]) fun Cj Bp=>Ab Cj fun Cz C9=>Dp 3 Cz fun Cq C8=>Ab C9 fun Dh Dt=>Af .i64 Dh fun D6=>Ac Dt<|Ac Bp<|Ay (decide (Cq*3<=List.length C8))<|some (A0.mk [.own 3 Cq (List.take (Cq*3) C8),.sc (.int .i64 D6)] [])) (Ay (decide (y0*3<=List.length y5)&&decide (List.length x9=x8*3)&&decide ((y0+x8)*32<=1099511627776)&&decide (y0+x8<=1099511627776))<|Aa (y0+x8) fun D1=>Aa (List.take (y0*3) y5++x9) fun Ee=>Aa (IntKind.wrap .i64 (y4+1)) fun Fq=>Oa fu call a0n a0 (nn) D1 (y1) (y2) (y3) Fq Ee)) (Ay (decide (y0*3<=List.length y5))<|Aj (call 139 [.own 3 y0 (List.take (y0*3) y5)]) fun Cl Fy=>Ab Cl fun Dn B3=>Dp 3 Dn fun Ew F4=>Ab B3 fun Bm Ci=>Af .i64 Bm fun Gx=>Ac Ci<|Ac Fy<|Ay (decide (Ew*3<=List.length F4))<|some (A0.mk [.own 3 Ew (List.take (Ew*3) F4),.sc (.int .i64 Gx)] []))):=by kernel_rfl
theorem Aqt (fu d a0n:Nat)(a0:List PV):Ae C0 Tryz.prog fu (d+1) Wc [.lst false 1 a0n a0]=(fun (call:Aq)=>Aj (call 138 [.lst false 1 a0n a0]) fun x1 x2=>Ac x2<|Ab x1 fun x3 x4=>Af .i64 x3 fun x5=>Ac x4<|A4 (x5 != 0) (some (A0.mk [.own 3 0 [],.sc (.int .i64 x5)] [])) (Aa (IntKind.wrap .u64 (↑a0n:Int)) fun x6=>Oa fu call a0n a0 (fu) 1 (a0n) (a0) ((↑a0n:Int)) 0 ([.sc (.int .i64 5),.sc (.int .u64 x6),.sc (.string (ByteArray.mk #[]))]))) (Ae C0 Tryz.prog fu d):=by kernel_rfl
abbrev Ui:FuncId:=129
noncomputable def Mb (fu:Nat)(call:Aq)(a0n:Nat)(a0:List PV)(nn y0 y1:Nat)(y2:List PV)(y3 y4:Int)(y5:List PV):Option A0:=Cw C0 Tryz.prog fu call 129 Tryz.f129 (B5 Tryz.f129) [.lst false 3 a0n a0] [.r,.r,.r,.l,.r,.l] nn ⟨lk [(5,(.view 5 1 0 y0)),(13,(.lst false 3 y1 y2)),(14,(.sc (.int .i64 y3))),(15,(.sc (.int .i64 y4)))],Gf [(5,(.ar false y5))]⟩
theorem U0 (fu:Nat)(call:Aq)(a0n:Nat)(a0:List PV)(nn y0 y1:Nat)(y2:List PV)(y3 y4:Int)(y5:List PV):Mb fu call a0n a0 (nn+1) y0 y1 y2 y3 y4 y5=(A4 (decide (y4<y3)) (Ay (decide (0<=y4)&&decide (y4<(↑y1:Int)))<|Af .i64 (List.getD y2 (Int.toNat y4*3) .top) fun x6=>Af .u64 (List.getD y2 (Int.toNat y4*3+1) .top) fun x7=>Cn (List.getD y2 (Int.toNat y4*3+1+1) .top) fun x8=>Ay (decide (y0*1<=List.length y5))<|Aj (call 135 [.own 1 y0 (List.take (y0*1) y5),.agg [.sc (.int .i64 x6),.sc (.int .u64 x7),.sc (.string x8)]]) fun x9 Cj=>Ab x9 fun Bp Cz=>Dp 1 Bp fun C9 Cq=>Ac Cz<|Ac Cj<|Aa (IntKind.wrap .i64 (y4+1)) fun C8=>Mb fu call a0n a0 (nn) C9 (y1) (y2) (y3) C8 Cq) (Ay (decide (y0*1<=List.length y5))<|some (A0.mk [.own 1 y0 (List.take (y0*1) y5),.sc (.int .i64 0)] []))):=by kernel_rfl
theorem Alz (fu d a0n:Nat)(a0:List PV):Ae C0 Tryz.prog fu (d+1) Ui [.lst false 3 a0n a0]=(fun (call:Aq)=>Aj (call 140 [.lst false 3 a0n a0]) fun x1 x2=>Ac x2<|Ab x1 fun x3 x4=>Af .i64 x3 fun x5=>Ac x4<|A4 (x5 != 0) (some (A0.mk [.own 1 0 [],.sc (.int .i64 x5)] [])) (Mb fu call a0n a0 (fu) 0 (a0n) (a0) ((↑a0n:Int)) 0 ([]))) (Ae C0 Tryz.prog fu d):=by kernel_rfl
end
section
set_option maxRecDepth 100000
abbrev Rs:FuncId:=96
theorem Ac0 (fu d:Nat)(a0 a1:ByteArray):Ae C0 Tryz.prog fu (d+1) Rs [.sc (.string a0),.sc (.string a1)]=(fun (call:Aq)=>A4 ((↑(ByteArray.size a0):Int) != (↑(ByteArray.size a1):Int)) (some (A0.mk [.sc (.bool (decide ((↑(ByteArray.size a0):Int)<(↑(ByteArray.size a1):Int))))] [])) (some (A0.mk [.sc (.bool (Op.bytesLess (Array.toList (ByteArray.data a0)) (Array.toList (ByteArray.data a1))))] []))) (Ae C0 Tryz.prog fu d):=by kernel_rfl
abbrev Qb:FuncId:=95
theorem Aa4 (fu d:Nat)(a0:Int):Ae C0 Tryz.prog fu (d+1) Qb [.sc (.int .i64 a0)]=(fun (call:Aq)=>A4 (a0==1) (some (A0.mk [.sc (.bool true)] [])) (A4 (a0==2) (some (A0.mk [.sc (.bool true)] [])) (some (A0.mk [.sc (.bool (a0==4))] [])))) (Ae C0 Tryz.prog fu d):=by kernel_rfl
abbrev Q5:FuncId:=114
noncomputable def Du (fu:Nat)(call:Aq)(a0_0 a0_1:Int)(a0_2:ByteArray)(nn:Nat)(y0 y1:Int):Option A0:=Cw C0 Tryz.prog fu call 114 Tryz.f114 (B5 Tryz.f114) [.agg [.sc (.int .i64 a0_0),.sc (.int .u64 a0_1),.sc (.string a0_2)]] [.r,.r,.r] nn ⟨lk [(3,(.sc (.int .u64 y0))),(4,(.sc (.int .u8 y1)))],Gf []⟩
theorem Xk (fu:Nat)(call:Aq)(a0_0 a0_1:Int)(a0_2:ByteArray)(nn:Nat)(hnn:0<nn)(y0 y1:Int):Du fu call a0_0 a0_1 a0_2 nn y0 y1=(A4 (decide (y0<24)) (Aa (IntKind.wrap .u8 y0) fun x5=>Aa (IntKind.wrap .u8 (y1+x5)) fun x6=>some (A0.mk [.own 1 1 [.sc (.int .u8 x6)]] [])) (A4 (decide (y0<256)) (Aa (IntKind.wrap .u8 (y1+24)) fun x7=>Aa (IntKind.wrap .u8 y0) fun x8=>some (A0.mk [.own 1 2 [.sc (.int .u8 x7),.sc (.int .u8 x8)]] [])) (A4 (decide (y0<65536)) (Aa (IntKind.wrap .u8 (y1+25)) fun x9=>Aa (El .u64 y0 8) fun Cj=>Aa (IntKind.wrap .u8 Cj) fun Bp=>Aa (IntKind.wrap .u8 y0) fun Cz=>some (A0.mk [.own 1 3 [.sc (.int .u8 x9),.sc (.int .u8 Bp),.sc (.int .u8 Cz)]] [])) (A4 (decide (y0<4294967296)) (Aa (IntKind.wrap .u8 (y1+26)) fun C9=>Aa (El .u64 y0 24) fun Cq=>Aa (IntKind.wrap .u8 Cq) fun C8=>Aa (El .u64 y0 16) fun Dh=>Aa (IntKind.wrap .u8 Dh) fun Dt=>Aa (El .u64 y0 8) fun D6=>Aa (IntKind.wrap .u8 D6) fun D1=>Aa (IntKind.wrap .u8 y0) fun Ee=>some (A0.mk [.own 1 5 [.sc (.int .u8 C9),.sc (.int .u8 C8),.sc (.int .u8 Dt),.sc (.int .u8 D1),.sc (.int .u8 Ee)]] [])) (Aa (IntKind.wrap .u8 (y1+27)) fun Fq=>Aj (call 38 [.lst false 1 1 [.sc (.int .u64 y0)]]) fun Cl Fy=>Ac Fy<|Ab Cl fun Dn B3=>Dp 1 Dn fun Ew F4=>Ac B3<|Ay (decide (0+Ew*1<=List.length F4))<|Ay (decide (List.length (List.take (Ew*1) (List.drop 0 F4))=Ew*1)&&decide ((1+Ew)*1<=1099511627776)&&decide (1+Ew<=1099511627776))<|Aa (1+Ew) fun Bm=>Aa ([.sc (.int .u8 Fq)]++List.take (Ew*1) (List.drop 0 F4)) fun Ci=>Ay (decide (Bm*1<=List.length Ci))<|some (A0.mk [.own 1 Bm (List.take (Bm*1) Ci)] [])))))):=by cases nn with|zero=>exact absurd hnn (Nat.lt_irrefl 0)|succ nn=>kernel_rfl
theorem Aby (fu d:Nat)(a0_0 a0_1:Int)(a0_2:ByteArray):Ae C0 Tryz.prog fu (d+1) Q5 [.agg [.sc (.int .i64 a0_0),.sc (.int .u64 a0_1),.sc (.string a0_2)]]=(fun (call:Aq)=>A4 (a0_0==7) (Aa (IntKind.wrap .u8 a0_1) fun x1=>Aa (IntKind.wrap .u8 (244+x1)) fun x2=>some (A0.mk [.own 1 1 [.sc (.int .u8 x2)]] [])) (A4 (a0_0==8) (some (A0.mk [.own 1 1 [.sc (.int .u8 246)]] [])) (A4 (a0_0==2) (Du fu call a0_0 a0_1 a0_2 (fu) (a0_1) 32) (A4 (a0_0==3) (Aa (IntKind.wrap .u64 (↑(ByteArray.size a0_2):Int)) fun x3=>Du fu call a0_0 a0_1 a0_2 (fu) x3 64) (A4 (a0_0==4) (Aa (IntKind.wrap .u64 (↑(ByteArray.size a0_2):Int)) fun x4=>Du fu call a0_0 a0_1 a0_2 (fu) x4 96) (A4 (a0_0==5) (Du fu call a0_0 a0_1 a0_2 (fu) (a0_1) 128) (A4 (a0_0==6) (Du fu call a0_0 a0_1 a0_2 (fu) (a0_1) 160) (Du fu call a0_0 a0_1 a0_2 (fu) (a0_1) 0)))))))) (Ae C0 Tryz.prog fu d):=by kernel_rfl
abbrev Pu:FuncId:=97
theorem Aba (fu d:Nat)(a0_0 a0_1:Int)(a0_2:ByteArray):Ae C0 Tryz.prog fu (d+1) Pu [.agg [.sc (.int .i64 a0_0),.sc (.int .u64 a0_1),.sc (.string a0_2)]]=(fun (call:Aq)=>Aj (call 114 [.agg [.sc (.int .i64 a0_0),.sc (.int .u64 a0_1),.sc (.string a0_2)]]) fun x1 x2=>Ac x2<|Ab x1 fun x3 x4=>Dp 1 x3 fun x5 x6=>Ac x4<|Ay (decide (0+x5*1<=List.length x6))<|Ay (decide (List.length (List.take (x5*1) (List.drop 0 x6))=x5))<|Fe (bytesOf (List.take (x5*1) (List.drop 0 x6))) fun x7=>Ay (decide (ByteArray.size (ByteArray.mk (List.toArray x7))+ByteArray.size a0_2<=9223372036854775807))<|Aa (ByteArray.mk (List.toArray x7)++a0_2) fun x8=>some (A0.mk [.sc (.string x8)] [])) (Ae C0 Tryz.prog fu d):=by kernel_rfl
abbrev Jn:FuncId:=94
noncomputable def Dc (fu:Nat)(call:Aq)(a0_0:ByteArray)(a0_1:Int)(a0_2n:Nat)(a0_2:List PV)(nn:Nat)(y0 y1:Int)(y2 y3:Int)(y4:ByteArray)(y5:Int)(y6:Nat)(y7:List PV)(y8 y9:Int)(y10:ByteArray):Option A0:=Cw C0 Tryz.prog fu call 94 Tryz.f94 (B5 Tryz.f94) [.pbox [.sc (.string a0_0),.sc (.int .i64 a0_1),.own 3 a0_2n a0_2]] [.r,.r,.r,.r,.r,.r,.r,.r,.r,.r,.r,.l,.r,.l] nn ⟨lk [(0,(.ptr 274000 0)),(2,(.ptr 2 0)),(5,(.sc (.int .i64 y0))),(7,(.sc (.int .i64 y1))),(8,(.sc (.int .u64 y2))),(9,(.sc (.int .i64 y3)))],Gf [(274000,(.st [(.sc (.string y4)),(.sc (.int .i64 y5)),(.view 274411 3 0 y6)])),(274411,(.ar false y7)),(2,(.st [(.sc (.int .i64 y8)),(.sc (.int .u64 y9)),(.sc (.string y10))]))]⟩
theorem Ie (fu:Nat)(call:Aq)(a0_0:ByteArray)(a0_1:Int)(a0_2n:Nat)(a0_2:List PV)(nn:Nat)(y0 y1:Int)(y2 y3:Int)(y4:ByteArray)(y5:Int)(y6:Nat)(y7:List PV)(y8 y9:Int)(y10:ByteArray):Dc fu call a0_0 a0_1 a0_2n a0_2 (nn+1) y0 y1 y2 y3 y4 y5 y6 y7 y8 y9 y10=(A4 (decide (y3<y1)) (Aa (Fk .u64 y2 8) fun Cl=>Aa (IntKind.wrap .i64 (y5+1)) fun Fy=>Aa (IntKind.wrap .i64 (Fy+y3)) fun Dn=>Ay (decide (0<=Dn))<|Fe ((Array.toList (ByteArray.data y4))[Int.toNat Dn]?) fun B3=>Aa (IntKind.wrap .u64 (↑(UInt8.toNat B3):Int)) fun Ew=>Aa (Xz .u64 Cl Ew) fun F4=>Aa (IntKind.wrap .i64 (y3+1)) fun Bm=>Dc fu call a0_0 a0_1 a0_2n a0_2 (nn) (y0) (y1) F4 Bm (y4) (y5) (y6) (y7) (y8) (y9) (y10)) (Ay (decide (0<=y1)&&decide (y1<9))<|Af .u64 (List.getD [.sc (.int .u64 0),.sc (.int .u64 24),.sc (.int .u64 256),.sc (.int .u64 0),.sc (.int .u64 65536),.sc (.int .u64 0),.sc (.int .u64 0),.sc (.int .u64 0),.sc (.int .u64 4294967296)] (0+Int.toNat y1*1) .top) fun Ci=>A4 (decide (y2<Ci)) (Ay (decide (y6*3<=List.length y7))<|some (A0.mk [.agg [.sc (.int .i64 0),.sc (.int .u64 0),.sc (.string (ByteArray.mk #[]))],.sc (.int .i64 2)] [[.sc (.string y4),.sc (.int .i64 y5),.own 3 y6 (List.take (y6*3) y7)]])) (Aa (IntKind.wrap .i64 (1+y1)) fun Gx=>Aa (IntKind.wrap .i64 (y5+Gx)) fun G2=>Ay (decide (0<=y0)&&decide (y0<6))<|Af .i64 (List.getD [.sc (.int .i64 1),.sc (.int .i64 2),.sc (.int .i64 3),.sc (.int .i64 4),.sc (.int .i64 5),.sc (.int .i64 6)] (0+Int.toNat y0*1) .top) fun Ib=>Ay (decide (y6*3<=List.length y7))<|some (A0.mk [.agg [.sc (.int .i64 Ib),.sc (.int .u64 y2),.sc (.string (ByteArray.mk #[]))],.sc (.int .i64 0)] [[.sc (.string y4),.sc (.int .i64 G2),.own 3 y6 (List.take (y6*3) y7)]])))):=by kernel_rfl
theorem Sj (fu d:Nat)(a0_0:ByteArray)(a0_1:Int)(a0_2n:Nat)(a0_2:List PV):Ae C0 Tryz.prog fu (d+1) Jn [.pbox [.sc (.string a0_0),.sc (.int .i64 a0_1),.own 3 a0_2n a0_2]]=(fun (call:Aq)=>A4 (decide (a0_1>=(↑(ByteArray.size a0_0):Int))) (Ay (decide (a0_2n*3<=List.length a0_2))<|some (A0.mk [.agg [.sc (.int .i64 0),.sc (.int .u64 0),.sc (.string (ByteArray.mk #[]))],.sc (.int .i64 1)] [[.sc (.string a0_0),.sc (.int .i64 a0_1),.own 3 a0_2n (List.take (a0_2n*3) a0_2)]])) (Ay (decide (0<=a0_1))<|Fe ((Array.toList (ByteArray.data a0_0))[Int.toNat a0_1]?) fun x1=>A4 ((↑(UInt8.toNat x1):Int)==244) (Aa (IntKind.wrap .i64 (a0_1+1)) fun x2=>Aa (IntKind.wrap .u8 ((↑(UInt8.toNat x1):Int)-244)) fun x3=>Aa (IntKind.wrap .u64 x3) fun x4=>Ay (decide (a0_2n*3<=List.length a0_2))<|some (A0.mk [.agg [.sc (.int .i64 7),.sc (.int .u64 x4),.sc (.string (ByteArray.mk #[]))],.sc (.int .i64 0)] [[.sc (.string a0_0),.sc (.int .i64 x2),.own 3 a0_2n (List.take (a0_2n*3) a0_2)]])) (A4 ((↑(UInt8.toNat x1):Int)==245) (Aa (IntKind.wrap .i64 (a0_1+1)) fun x5=>Aa (IntKind.wrap .u8 ((↑(UInt8.toNat x1):Int)-244)) fun x6=>Aa (IntKind.wrap .u64 x6) fun x7=>Ay (decide (a0_2n*3<=List.length a0_2))<|some (A0.mk [.agg [.sc (.int .i64 7),.sc (.int .u64 x7),.sc (.string (ByteArray.mk #[]))],.sc (.int .i64 0)] [[.sc (.string a0_0),.sc (.int .i64 x5),.own 3 a0_2n (List.take (a0_2n*3) a0_2)]])) (A4 ((↑(UInt8.toNat x1):Int)==246) (Aa (IntKind.wrap .i64 (a0_1+1)) fun x8=>Ay (decide (a0_2n*3<=List.length a0_2))<|some (A0.mk [.agg [.sc (.int .i64 8),.sc (.int .u64 0),.sc (.string (ByteArray.mk #[]))],.sc (.int .i64 0)] [[.sc (.string a0_0),.sc (.int .i64 x8),.own 3 a0_2n (List.take (a0_2n*3) a0_2)]])) (Aa (El .u8 (↑(UInt8.toNat x1):Int) 5) fun x9=>Aa (IntKind.wrap .i64 x9) fun Cj=>Aa (Ez .u8 (↑(UInt8.toNat x1):Int) 31) fun Bp=>Aa (IntKind.wrap .i64 Bp) fun Cz=>A4 (decide (Cj>5)) (Ay (decide (a0_2n*3<=List.length a0_2))<|some (A0.mk [.agg [.sc (.int .i64 0),.sc (.int .u64 0),.sc (.string (ByteArray.mk #[]))],.sc (.int .i64 2)] [[.sc (.string a0_0),.sc (.int .i64 a0_1),.own 3 a0_2n (List.take (a0_2n*3) a0_2)]])) (A4 (decide (Cz>27)) (Ay (decide (a0_2n*3<=List.length a0_2))<|some (A0.mk [.agg [.sc (.int .i64 0),.sc (.int .u64 0),.sc (.string (ByteArray.mk #[]))],.sc (.int .i64 2)] [[.sc (.string a0_0),.sc (.int .i64 a0_1),.own 3 a0_2n (List.take (a0_2n*3) a0_2)]])) (A4 (decide (Cz>=24)) (Aa (IntKind.wrap .i64 (Cz-24)) fun C9=>Aa (IntKind.wrap .u64 C9) fun Cq=>Ay (decide (0<=Cq))<|Aa (Fk .i64 1 Cq) fun C8=>Aa (IntKind.wrap .i64 ((↑(ByteArray.size a0_0):Int)-a0_1)) fun Dh=>Aa (IntKind.wrap .i64 (Dh-1)) fun Dt=>A4 (decide (Dt<C8)) (Ay (decide (a0_2n*3<=List.length a0_2))<|some (A0.mk [.agg [.sc (.int .i64 0),.sc (.int .u64 0),.sc (.string (ByteArray.mk #[]))],.sc (.int .i64 1)] [[.sc (.string a0_0),.sc (.int .i64 a0_1),.own 3 a0_2n (List.take (a0_2n*3) a0_2)]])) (Aa (IntKind.wrap .u64 Cz) fun D6=>A4 (decide (C8>0)) (Dc fu call a0_0 a0_1 a0_2n a0_2 (fu) Cj C8 0 0 (a0_0) (a0_1) (a0_2n) (a0_2) 0 0 (ByteArray.mk #[])) (Dc fu call a0_0 a0_1 a0_2n a0_2 (fu) Cj C8 D6 0 (a0_0) (a0_1) (a0_2n) (a0_2) 0 0 (ByteArray.mk #[])))) (Aa (IntKind.wrap .i64 ((↑(ByteArray.size a0_0):Int)-a0_1)) fun D1=>Aa (IntKind.wrap .i64 (D1-1)) fun Ee=>A4 (decide (Ee<0)) (Ay (decide (a0_2n*3<=List.length a0_2))<|some (A0.mk [.agg [.sc (.int .i64 0),.sc (.int .u64 0),.sc (.string (ByteArray.mk #[]))],.sc (.int .i64 1)] [[.sc (.string a0_0),.sc (.int .i64 a0_1),.own 3 a0_2n (List.take (a0_2n*3) a0_2)]])) (Aa (IntKind.wrap .u64 Cz) fun Fq=>Dc fu call a0_0 a0_1 a0_2n a0_2 (fu) Cj 0 Fq 0 (a0_0) (a0_1) (a0_2n) (a0_2) 0 0 (ByteArray.mk #[])))))))))) (Ae C0 Tryz.prog fu d):=by kernel_rfl
abbrev Dm:FuncId:=66
noncomputable def At (fu:Nat)(call:Aq)(a0_0:ByteArray)(a0_1:Int)(a0_2n:Nat)(a0_2:List PV)(a1:Int)(a2:Bool)(a3:ByteArray)(nn:Nat)(y0:Int)(y1:Bool)(y2:ByteArray)(y3:Int)(y4 y5:Bool)(y6:ByteArray)(y7:Int)(y8:Nat)(y9:List PV)(y10 Eb:Int)(Ev:ByteArray):Option A0:=Cw C0 Tryz.prog fu call 66 Tryz.f66 (B5 Tryz.f66) [.pbox [.sc (.string a0_0),.sc (.int .i64 a0_1),.own 3 a0_2n a0_2],.sc (.int .i64 a1),.sc (.bool a2),.sc (.string a3)] [.r,.r,.r,.r,.r,.r] nn ⟨lk [(0,(.ptr 382000 0)),(1,(.sc (.int .i64 y0))),(2,(.sc (.bool y1))),(3,(.sc (.string y2))),(9,(.ptr 9 0)),(11,(.sc (.int .u64 y3))),(12,(.sc (.bool y4))),(13,(.sc (.bool y5)))],Gf [(382000,(.st [(.sc (.string y6)),(.sc (.int .i64 y7)),(.view 382573 3 0 y8)])),(382573,(.ar false y9)),(9,(.st [(.sc (.int .i64 y10)),(.sc (.int .u64 Eb)),(.sc (.string Ev))]))]⟩
noncomputable def Ba (fu:Nat)(call:Aq)(a0_0:ByteArray)(a0_1:Int)(a0_2n:Nat)(a0_2:List PV)(a1:Int)(a2:Bool)(a3:ByteArray)(nn:Nat)(y0 y1:Int)(y2:Bool)(y3:ByteArray)(y4:Int)(y5:ByteArray)(y6:Int)(y7:Nat)(y8:List PV)(y9 y10:Int)(Eb:ByteArray):Option A0:=Cw C0 Tryz.prog fu call 66 Tryz.f66 (B5 Tryz.f66) [.pbox [.sc (.string a0_0),.sc (.int .i64 a0_1),.own 3 a0_2n a0_2],.sc (.int .i64 a1),.sc (.bool a2),.sc (.string a3)] [.r,.r,.r,.r,.r,.r,.r,.r,.r,.r,.r,.r,.l,.r,.l] nn ⟨lk [(0,(.ptr 382000 0)),(1,(.sc (.int .i64 y0))),(9,(.ptr 9 0)),(11,(.sc (.int .u64 y1))),(13,(.sc (.bool y2))),(14,(.sc (.string y3))),(15,(.sc (.int .u64 y4)))],Gf [(382000,(.st [(.sc (.string y5)),(.sc (.int .i64 y6)),(.view 382573 3 0 y7)])),(382573,(.ar false y8)),(9,(.st [(.sc (.int .i64 y9)),(.sc (.int .u64 y10)),(.sc (.string Eb))]))]⟩
theorem Id (fu:Nat)(call:Aq)(a0_0:ByteArray)(a0_1:Int)(a0_2n:Nat)(a0_2:List PV)(a1:Int)(a2:Bool)(a3:ByteArray)(nn:Nat)(hnn:0<nn)(y0:Int)(y1:Bool)(y2:ByteArray)(y3:Int)(y4 y5:Bool)(y6:ByteArray)(y7:Int)(y8:Nat)(y9:List PV)(y10 Eb:Int)(Ev:ByteArray):At fu call a0_0 a0_1 a0_2n a0_2 a1 a2 a3 nn y0 y1 y2 y3 y4 y5 y6 y7 y8 y9 y10 Eb Ev=(A4 (y4) (Aa (IntKind.wrap .i64 y3) fun x86=>Aa (IntKind.wrap .i64 (y7+x86)) fun x87=>Ay (decide (0<=y7))<|Ay (decide (0<=x87))<|Ay (decide (Int.toNat y7<=Int.toNat x87)&&decide (Int.toNat x87<=ByteArray.size y6))<|Aa (ByteArray.extract y6 (Int.toNat y7) (Int.toNat x87)) fun Ro=>Aa (IntKind.wrap .i64 y3) fun Uf=>Aa (IntKind.wrap .i64 (y7+Uf)) fun Uo=>A4 (y10==4) (Aj (call 67 [.sc (.string Ro)]) fun x91 x92=>Ac x92<|Ab x91 fun x93 x94=>Bw x93 fun x95=>Ac x94<|A4 (!x95) (Ay (decide (y8*3<=List.length y9))<|some (A0.mk [.sc (.int .i64 6)] [[.sc (.string y6),.sc (.int .i64 Uo),.own 3 y8 (List.take (y8*3) y9)]])) (A4 (y1) (A4 (!Array.toList (ByteArray.data y2)==Array.toList (ByteArray.data (ByteArray.mk #[]))) (Aj (call 97 [.agg [.sc (.int .i64 y10),.sc (.int .u64 0),.sc (.string Ro)]]) fun x96 x97=>Ac x97<|Ab x96 fun x98 x99=>Cn x98 fun Xq=>Ac x99<|Aj (call 96 [.sc (.string y2),.sc (.string Xq)]) fun Tu H9=>Ac H9<|Ab Tu fun Lt Zr=>Bw Lt fun Uc=>Ac Zr<|A4 (!Uc) (Ay (decide (y8*3<=List.length y9))<|some (A0.mk [.sc (.int .i64 7)] [[.sc (.string y6),.sc (.int .i64 Uo),.own 3 y8 (List.take (y8*3) y9)]])) (Ay (decide (y8*3<=List.length y9)&&true&&decide ((y8+1)*32<=1099511627776)&&decide (y8+1<=1099511627776))<|Aa (y8+1) fun Ry=>Aa (List.take (y8*3) y9++[.sc (.int .i64 y10),.sc (.int .u64 0),.sc (.string Ro)]) fun Mz=>Ba fu call a0_0 a0_1 a0_2n a0_2 a1 a2 a3 (fu) (y0) (y3) (y5) (ByteArray.mk #[]) 0 (y6) Uo Ry Mz (y10) 0 Ro)) (Ay (decide (y8*3<=List.length y9)&&true&&decide ((y8+1)*32<=1099511627776)&&decide (y8+1<=1099511627776))<|Aa (y8+1) fun Aaj=>Aa (List.take (y8*3) y9++[.sc (.int .i64 y10),.sc (.int .u64 0),.sc (.string Ro)]) fun Acz=>Ba fu call a0_0 a0_1 a0_2n a0_2 a1 a2 a3 (fu) (y0) (y3) (y5) (ByteArray.mk #[]) 0 (y6) Uo Aaj Acz (y10) 0 Ro)) (Ay (decide (y8*3<=List.length y9)&&true&&decide ((y8+1)*32<=1099511627776)&&decide (y8+1<=1099511627776))<|Aa (y8+1) fun Zs=>Aa (List.take (y8*3) y9++[.sc (.int .i64 y10),.sc (.int .u64 0),.sc (.string Ro)]) fun Aay=>Ba fu call a0_0 a0_1 a0_2n a0_2 a1 a2 a3 (fu) (y0) (y3) (y5) (ByteArray.mk #[]) 0 (y6) Uo Zs Aay (y10) 0 Ro))) (A4 (y1) (A4 (!Array.toList (ByteArray.data y2)==Array.toList (ByteArray.data (ByteArray.mk #[]))) (Aj (call 97 [.agg [.sc (.int .i64 y10),.sc (.int .u64 0),.sc (.string Ro)]]) fun Ji Mt=>Ac Mt<|Ab Ji fun Afu Afb=>Cn Afu fun Qg=>Ac Afb<|Aj (call 96 [.sc (.string y2),.sc (.string Qg)]) fun Wb Agv=>Ac Agv<|Ab Wb fun Acu Agu=>Bw Acu fun Ad8=>Ac Agu<|A4 (!Ad8) (Ay (decide (y8*3<=List.length y9))<|some (A0.mk [.sc (.int .i64 7)] [[.sc (.string y6),.sc (.int .i64 Uo),.own 3 y8 (List.take (y8*3) y9)]])) (Ay (decide (y8*3<=List.length y9)&&true&&decide ((y8+1)*32<=1099511627776)&&decide (y8+1<=1099511627776))<|Aa (y8+1) fun Agj=>Aa (List.take (y8*3) y9++[.sc (.int .i64 y10),.sc (.int .u64 0),.sc (.string Ro)]) fun Afw=>Ba fu call a0_0 a0_1 a0_2n a0_2 a1 a2 a3 (fu) (y0) (y3) (y5) (ByteArray.mk #[]) 0 (y6) Uo Agj Afw (y10) 0 Ro)) (Ay (decide (y8*3<=List.length y9)&&true&&decide ((y8+1)*32<=1099511627776)&&decide (y8+1<=1099511627776))<|Aa (y8+1) fun Afh=>Aa (List.take (y8*3) y9++[.sc (.int .i64 y10),.sc (.int .u64 0),.sc (.string Ro)]) fun Ad7=>Ba fu call a0_0 a0_1 a0_2n a0_2 a1 a2 a3 (fu) (y0) (y3) (y5) (ByteArray.mk #[]) 0 (y6) Uo Afh Ad7 (y10) 0 Ro)) (Ay (decide (y8*3<=List.length y9)&&true&&decide ((y8+1)*32<=1099511627776)&&decide (y8+1<=1099511627776))<|Aa (y8+1) fun Vg=>Aa (List.take (y8*3) y9++[.sc (.int .i64 y10),.sc (.int .u64 0),.sc (.string Ro)]) fun Zc=>Ba fu call a0_0 a0_1 a0_2n a0_2 a1 a2 a3 (fu) (y0) (y3) (y5) (ByteArray.mk #[]) 0 (y6) Uo Vg Zc (y10) 0 Ro))) (A4 (y10==4) (Aj (call 67 [.sc (.string Ev)]) fun Af4 Aft=>Ac Aft<|Ab Af4 fun Abs Aiv=>Bw Abs fun Af6=>Ac Aiv<|A4 (!Af6) (Ay (decide (y8*3<=List.length y9))<|some (A0.mk [.sc (.int .i64 6)] [[.sc (.string y6),.sc (.int .i64 y7),.own 3 y8 (List.take (y8*3) y9)]])) (A4 (y1) (A4 (!Array.toList (ByteArray.data y2)==Array.toList (ByteArray.data (ByteArray.mk #[]))) (Aj (call 97 [.agg [.sc (.int .i64 y10),.sc (.int .u64 Eb),.sc (.string Ev)]]) fun Ad3 Ah7=>Ac Ah7<|Ab Ad3 fun Aji Aj5=>Cn Aji fun Amd=>Ac Aj5<|Aj (call 96 [.sc (.string y2),.sc (.string Amd)]) fun All Afe=>Ac Afe<|Ab All fun Ah8 Agm=>Bw Ah8 fun Ah5=>Ac Agm<|A4 (!Ah5) (Ay (decide (y8*3<=List.length y9))<|some (A0.mk [.sc (.int .i64 7)] [[.sc (.string y6),.sc (.int .i64 y7),.own 3 y8 (List.take (y8*3) y9)]])) (Ay (decide (y8*3<=List.length y9)&&true&&decide ((y8+1)*32<=1099511627776)&&decide (y8+1<=1099511627776))<|Aa (y8+1) fun Aix=>Aa (List.take (y8*3) y9++[.sc (.int .i64 y10),.sc (.int .u64 Eb),.sc (.string Ev)]) fun Agl=>Ba fu call a0_0 a0_1 a0_2n a0_2 a1 a2 a3 (fu) (y0) (y3) (y5) (ByteArray.mk #[]) 0 (y6) (y7) Aix Agl (y10) (Eb) (Ev))) (Ay (decide (y8*3<=List.length y9)&&true&&decide ((y8+1)*32<=1099511627776)&&decide (y8+1<=1099511627776))<|Aa (y8+1) fun Aee=>Aa (List.take (y8*3) y9++[.sc (.int .i64 y10),.sc (.int .u64 Eb),.sc (.string Ev)]) fun Ada=>Ba fu call a0_0 a0_1 a0_2n a0_2 a1 a2 a3 (fu) (y0) (y3) (y5) (ByteArray.mk #[]) 0 (y6) (y7) Aee Ada (y10) (Eb) (Ev))) (Ay (decide (y8*3<=List.length y9)&&true&&decide ((y8+1)*32<=1099511627776)&&decide (y8+1<=1099511627776))<|Aa (y8+1) fun Ahy=>Aa (List.take (y8*3) y9++[.sc (.int .i64 y10),.sc (.int .u64 Eb),.sc (.string Ev)]) fun Ala=>Ba fu call a0_0 a0_1 a0_2n a0_2 a1 a2 a3 (fu) (y0) (y3) (y5) (ByteArray.mk #[]) 0 (y6) (y7) Ahy Ala (y10) (Eb) (Ev)))) (A4 (y1) (A4 (!Array.toList (ByteArray.data y2)==Array.toList (ByteArray.data (ByteArray.mk #[]))) (Aj (call 97 [.agg [.sc (.int .i64 y10),.sc (.int .u64 Eb),.sc (.string Ev)]]) fun Aro Apj=>Ac Apj<|Ab Aro fun Aqg Afm=>Cn Aqg fun Akh=>Ac Afm<|Aj (call 96 [.sc (.string y2),.sc (.string Akh)]) fun Aln Alw=>Ac Alw<|Ab Aln fun Apt Al4=>Bw Apt fun Amo=>Ac Al4<|A4 (!Amo) (Ay (decide (y8*3<=List.length y9))<|some (A0.mk [.sc (.int .i64 7)] [[.sc (.string y6),.sc (.int .i64 y7),.own 3 y8 (List.take (y8*3) y9)]])) (Ay (decide (y8*3<=List.length y9)&&true&&decide ((y8+1)*32<=1099511627776)&&decide (y8+1<=1099511627776))<|Aa (y8+1) fun Amv=>Aa (List.take (y8*3) y9++[.sc (.int .i64 y10),.sc (.int .u64 Eb),.sc (.string Ev)]) fun Aq1=>Ba fu call a0_0 a0_1 a0_2n a0_2 a1 a2 a3 (fu) (y0) (y3) (y5) (ByteArray.mk #[]) 0 (y6) (y7) Amv Aq1 (y10) (Eb) (Ev))) (Ay (decide (y8*3<=List.length y9)&&true&&decide ((y8+1)*32<=1099511627776)&&decide (y8+1<=1099511627776))<|Aa (y8+1) fun Ao5=>Aa (List.take (y8*3) y9++[.sc (.int .i64 y10),.sc (.int .u64 Eb),.sc (.string Ev)]) fun Ame=>Ba fu call a0_0 a0_1 a0_2n a0_2 a1 a2 a3 (fu) (y0) (y3) (y5) (ByteArray.mk #[]) 0 (y6) (y7) Ao5 Ame (y10) (Eb) (Ev))) (Ay (decide (y8*3<=List.length y9)&&true&&decide ((y8+1)*32<=1099511627776)&&decide (y8+1<=1099511627776))<|Aa (y8+1) fun Ape=>Aa (List.take (y8*3) y9++[.sc (.int .i64 y10),.sc (.int .u64 Eb),.sc (.string Ev)]) fun Alf=>Ba fu call a0_0 a0_1 a0_2n a0_2 a1 a2 a3 (fu) (y0) (y3) (y5) (ByteArray.mk #[]) 0 (y6) (y7) Ape Alf (y10) (Eb) (Ev))))):=by cases nn with|zero=>exact absurd hnn (Nat.lt_irrefl 0)|succ nn=>kernel_rfl
theorem Ei (fu:Nat)(call:Aq)(a0_0:ByteArray)(a0_1:Int)(a0_2n:Nat)(a0_2:List PV)(a1:Int)(a2:Bool)(a3:ByteArray)(nn:Nat)(y0 y1:Int)(y2:Bool)(y3:ByteArray)(y4:Int)(y5:ByteArray)(y6:Int)(y7:Nat)(y8:List PV)(y9 y10:Int)(Eb:ByteArray):Ba fu call a0_0 a0_1 a0_2n a0_2 a1 a2 a3 (nn+1) y0 y1 y2 y3 y4 y5 y6 y7 y8 y9 y10 Eb=(A4 (y2) (A4 (decide (y4<y1)) (A4 (y9==6) (Aa (IntKind.wrap .i64 (y0+1)) fun Amn=>Ay (decide (y7*3<=List.length y8))<|Aj (call 66 [.pbox [.sc (.string y5),.sc (.int .i64 y6),.own 3 y7 (List.take (y7*3) y8)],.sc (.int .i64 Amn),.sc (.bool true),.sc (.string y3)]) fun Apk Akw=>Ab Apk fun Amt Akc=>Af .i64 Amt fun Ajs=>Ac Akc<|Ab Akw fun Aqz Aus=>Ab Aqz fun Aqs As4=>Cn Aqs fun Amw=>Ab As4 fun Atd Axy=>Af .i64 Atd fun Ask=>Ab Axy fun Auf A07=>Dp 3 Auf fun Akn Ab9=>Ac A07<|Ac Aus<|A4 (Ajs != 0) (Ay (decide (Akn*3<=List.length Ab9))<|some (A0.mk [.sc (.int .i64 Ajs)] [[.sc (.string Amw),.sc (.int .i64 Ask),.own 3 Akn (List.take (Akn*3) Ab9)]])) (Ay (decide ((↑y7:Int)<(↑Akn:Int)))<|Af .i64 (List.getD Ab9 (0+Int.toNat (↑y7:Int)*3) .top) fun Av2=>Af .u64 (List.getD Ab9 (0+Int.toNat (↑y7:Int)*3+1) .top) fun A1w=>Cn (List.getD Ab9 (0+Int.toNat (↑y7:Int)*3+1+1) .top) fun A01=>Aj (call 97 [.agg [.sc (.int .i64 Av2),.sc (.int .u64 A1w),.sc (.string A01)]]) fun A49 A1o=>Ac A1o<|Ab A49 fun A3i A05=>Cn A3i fun A34=>Ac A05<|Aa (IntKind.wrap .i64 (y0+1)) fun Av6=>Ay (decide (Akn*3<=List.length Ab9))<|Aj (call 66 [.pbox [.sc (.string Amw),.sc (.int .i64 Ask),.own 3 Akn (List.take (Akn*3) Ab9)],.sc (.int .i64 Av6),.sc (.bool false),.sc (.string (ByteArray.mk #[]))]) fun Ayl A7c=>Ab Ayl fun A8f A8c=>Af .i64 A8f fun A4k=>Ac A8c<|Ab A7c fun A8g A78=>Ab A8g fun A7n A8e=>Cn A7n fun A54=>Ab A8e fun A7l A65=>Af .i64 A7l fun A5f=>Ab A65 fun A7p A79=>Dp 3 A7p fun Ayi A2w=>Ac A79<|Ac A78<|A4 (A4k != 0) (Ay (decide (Ayi*3<=List.length A2w))<|some (A0.mk [.sc (.int .i64 A4k)] [[.sc (.string A54),.sc (.int .i64 A5f),.own 3 Ayi (List.take (Ayi*3) A2w)]])) (Aa (IntKind.wrap .u64 (y4+1)) fun A8d=>Ba fu call a0_0 a0_1 a0_2n a0_2 a1 a2 a3 (nn) (y0) (y1) (y2) A34 A8d A54 A5f Ayi A2w (y9) (y10) (Eb)))) (Aa (IntKind.wrap .i64 (y0+1)) fun A68=>Ay (decide (y7*3<=List.length y8))<|Aj (call 66 [.pbox [.sc (.string y5),.sc (.int .i64 y6),.own 3 y7 (List.take (y7*3) y8)],.sc (.int .i64 A68),.sc (.bool false),.sc (.string (ByteArray.mk #[]))]) fun A61 A7x=>Ab A61 fun A7r A60=>Af .i64 A7r fun A4n=>Ac A60<|Ab A7x fun A70 A6z=>Ab A70 fun A69 A72=>Cn A69 fun A4v=>Ab A72 fun A7t A75=>Af .i64 A7t fun A5k=>Ab A75 fun A74 A7d=>Dp 3 A74 fun Azr A4c=>Ac A7d<|Ac A6z<|A4 (A4n != 0) (Ay (decide (Azr*3<=List.length A4c))<|some (A0.mk [.sc (.int .i64 A4n)] [[.sc (.string A4v),.sc (.int .i64 A5k),.own 3 Azr (List.take (Azr*3) A4c)]])) (Aa (IntKind.wrap .u64 (y4+1)) fun A7o=>Ba fu call a0_0 a0_1 a0_2n a0_2 a1 a2 a3 (nn) (y0) (y1) (y2) (y3) A7o A4v A5k Azr A4c (y9) (y10) (Eb)))) (Ay (decide (y7*3<=List.length y8))<|some (A0.mk [.sc (.int .i64 0)] [[.sc (.string y5),.sc (.int .i64 y6),.own 3 y7 (List.take (y7*3) y8)]]))) (Ay (decide (y7*3<=List.length y8))<|some (A0.mk [.sc (.int .i64 0)] [[.sc (.string y5),.sc (.int .i64 y6),.own 3 y7 (List.take (y7*3) y8)]]))):=by kernel_rfl
theorem Sv (fu d:Nat)(a0_0:ByteArray)(a0_1:Int)(a0_2n:Nat)(a0_2:List PV)(a1:Int)(a2:Bool)(a3:ByteArray):Ae C0 Tryz.prog fu (d+1) Dm [.pbox [.sc (.string a0_0),.sc (.int .i64 a0_1),.own 3 a0_2n a0_2],.sc (.int .i64 a1),.sc (.bool a2),.sc (.string a3)]=(fun (call:Aq)=>Ay (decide (a0_2n*3<=List.length a0_2))<|Aj (call 94 [.pbox [.sc (.string a0_0),.sc (.int .i64 a0_1),.own 3 a0_2n (List.take (a0_2n*3) a0_2)]]) fun x1 x2=>Ab x1 fun x3 x4=>C3 x3 fun x5=>Ab x5 fun x6 x7=>Af .i64 x6 fun x8=>Ab x7 fun x9 Cj=>Af .u64 x9 fun Bp=>Ab Cj fun Cz C9=>Cn Cz fun Cq=>Ac C9<|Ab x4 fun C8 Dh=>Af .i64 C8 fun Dt=>Ac Dh<|Ab x2 fun D6 D1=>Ab D6 fun Ee Fq=>Cn Ee fun Cl=>Ab Fq fun Fy Dn=>Af .i64 Fy fun B3=>Ab Dn fun Ew F4=>Dp 3 Ew fun Bm Ci=>Ac F4<|Ac D1<|A4 (Dt != 0) (Ay (decide (Bm*3<=List.length Ci))<|some (A0.mk [.sc (.int .i64 Dt)] [[.sc (.string Cl),.sc (.int .i64 B3),.own 3 Bm (List.take (Bm*3) Ci)]])) (A4 (x8==3) (A4 (x8==5) (A4 (decide ((↑Bm:Int)>=512)) (Ay (decide (Bm*3<=List.length Ci))<|some (A0.mk [.sc (.int .i64 8)] [[.sc (.string Cl),.sc (.int .i64 B3),.own 3 Bm (List.take (Bm*3) Ci)]])) (A4 (a2) (Aj (call 95 [.sc (.int .i64 x8)]) fun Gx G2=>Ac G2<|Ab Gx fun Ib Hz=>Bw Ib fun I4=>Ac Hz<|A4 (!I4) (Ay (decide (Bm*3<=List.length Ci))<|some (A0.mk [.sc (.int .i64 3)] [[.sc (.string Cl),.sc (.int .i64 B3),.own 3 Bm (List.take (Bm*3) Ci)]])) (A4 (decide (a1>8)) (Ay (decide (Bm*3<=List.length Ci))<|some (A0.mk [.sc (.int .i64 5)] [[.sc (.string Cl),.sc (.int .i64 B3),.own 3 Bm (List.take (Bm*3) Ci)]])) (A4 (decide (Bp>1024)) (Ay (decide (Bm*3<=List.length Ci))<|some (A0.mk [.sc (.int .i64 8)] [[.sc (.string Cl),.sc (.int .i64 B3),.own 3 Bm (List.take (Bm*3) Ci)]])) (A4 (decide (Bp>512)) (Ay (decide (Bm*3<=List.length Ci))<|some (A0.mk [.sc (.int .i64 8)] [[.sc (.string Cl),.sc (.int .i64 B3),.own 3 Bm (List.take (Bm*3) Ci)]])) (Aa (IntKind.wrap .i64 ((↑(ByteArray.size Cl):Int)-B3)) fun G8=>Aa (IntKind.wrap .u64 G8) fun I5=>A4 (decide (I5<Bp)) (Ay (decide (Bm*3<=List.length Ci))<|some (A0.mk [.sc (.int .i64 1)] [[.sc (.string Cl),.sc (.int .i64 B3),.own 3 Bm (List.take (Bm*3) Ci)]])) (At fu call a0_0 a0_1 a0_2n a0_2 a1 a2 a3 (fu) (a1) (a2) (a3) Bp (true) (true) Cl B3 Bm Ci x8 Bp Cq)))))) (A4 (decide (a1>8)) (Ay (decide (Bm*3<=List.length Ci))<|some (A0.mk [.sc (.int .i64 5)] [[.sc (.string Cl),.sc (.int .i64 B3),.own 3 Bm (List.take (Bm*3) Ci)]])) (A4 (decide (Bp>1024)) (Ay (decide (Bm*3<=List.length Ci))<|some (A0.mk [.sc (.int .i64 8)] [[.sc (.string Cl),.sc (.int .i64 B3),.own 3 Bm (List.take (Bm*3) Ci)]])) (A4 (decide (Bp>512)) (Ay (decide (Bm*3<=List.length Ci))<|some (A0.mk [.sc (.int .i64 8)] [[.sc (.string Cl),.sc (.int .i64 B3),.own 3 Bm (List.take (Bm*3) Ci)]])) (Aa (IntKind.wrap .i64 ((↑(ByteArray.size Cl):Int)-B3)) fun Ls=>Aa (IntKind.wrap .u64 Ls) fun F5=>A4 (decide (F5<Bp)) (Ay (decide (Bm*3<=List.length Ci))<|some (A0.mk [.sc (.int .i64 1)] [[.sc (.string Cl),.sc (.int .i64 B3),.own 3 Bm (List.take (Bm*3) Ci)]])) (At fu call a0_0 a0_1 a0_2n a0_2 a1 a2 a3 (fu) (a1) (a2) (a3) Bp (true) (true) Cl B3 Bm Ci x8 Bp Cq))))))) (A4 (decide ((↑Bm:Int)>=512)) (Ay (decide (Bm*3<=List.length Ci))<|some (A0.mk [.sc (.int .i64 8)] [[.sc (.string Cl),.sc (.int .i64 B3),.own 3 Bm (List.take (Bm*3) Ci)]])) (A4 (a2) (Aj (call 95 [.sc (.int .i64 x8)]) fun Il Pc=>Ac Pc<|Ab Il fun Qi Ke=>Bw Qi fun Kf=>Ac Ke<|A4 (!Kf) (Ay (decide (Bm*3<=List.length Ci))<|some (A0.mk [.sc (.int .i64 3)] [[.sc (.string Cl),.sc (.int .i64 B3),.own 3 Bm (List.take (Bm*3) Ci)]])) (A4 (decide (a1>8)) (Ay (decide (Bm*3<=List.length Ci))<|some (A0.mk [.sc (.int .i64 5)] [[.sc (.string Cl),.sc (.int .i64 B3),.own 3 Bm (List.take (Bm*3) Ci)]])) (A4 (decide (Bp>1024)) (Ay (decide (Bm*3<=List.length Ci))<|some (A0.mk [.sc (.int .i64 8)] [[.sc (.string Cl),.sc (.int .i64 B3),.own 3 Bm (List.take (Bm*3) Ci)]])) (A4 (x8==6) (A4 (decide (Bp>512)) (Ay (decide (Bm*3<=List.length Ci))<|some (A0.mk [.sc (.int .i64 8)] [[.sc (.string Cl),.sc (.int .i64 B3),.own 3 Bm (List.take (Bm*3) Ci)]])) (Aa (IntKind.wrap .i64 ((↑(ByteArray.size Cl):Int)-B3)) fun Ph=>Aa (IntKind.wrap .u64 Ph) fun Mw=>A4 (decide (Mw<Bp)) (Ay (decide (Bm*3<=List.length Ci))<|some (A0.mk [.sc (.int .i64 1)] [[.sc (.string Cl),.sc (.int .i64 B3),.own 3 Bm (List.take (Bm*3) Ci)]])) (At fu call a0_0 a0_1 a0_2n a0_2 a1 a2 a3 (fu) (a1) (a2) (a3) Bp (true) (x8==6) Cl B3 Bm Ci x8 Bp Cq))) (Aa (IntKind.wrap .i64 ((↑(ByteArray.size Cl):Int)-B3)) fun Pi=>Aa (IntKind.wrap .u64 Pi) fun Ps=>A4 (decide (Ps<Bp)) (Ay (decide (Bm*3<=List.length Ci))<|some (A0.mk [.sc (.int .i64 1)] [[.sc (.string Cl),.sc (.int .i64 B3),.own 3 Bm (List.take (Bm*3) Ci)]])) (At fu call a0_0 a0_1 a0_2n a0_2 a1 a2 a3 (fu) (a1) (a2) (a3) Bp (true) (x8==6) Cl B3 Bm Ci x8 Bp Cq)))))) (A4 (decide (a1>8)) (Ay (decide (Bm*3<=List.length Ci))<|some (A0.mk [.sc (.int .i64 5)] [[.sc (.string Cl),.sc (.int .i64 B3),.own 3 Bm (List.take (Bm*3) Ci)]])) (A4 (decide (Bp>1024)) (Ay (decide (Bm*3<=List.length Ci))<|some (A0.mk [.sc (.int .i64 8)] [[.sc (.string Cl),.sc (.int .i64 B3),.own 3 Bm (List.take (Bm*3) Ci)]])) (A4 (x8==6) (A4 (decide (Bp>512)) (Ay (decide (Bm*3<=List.length Ci))<|some (A0.mk [.sc (.int .i64 8)] [[.sc (.string Cl),.sc (.int .i64 B3),.own 3 Bm (List.take (Bm*3) Ci)]])) (Aa (IntKind.wrap .i64 ((↑(ByteArray.size Cl):Int)-B3)) fun Qx=>Aa (IntKind.wrap .u64 Qx) fun Pd=>A4 (decide (Pd<Bp)) (Ay (decide (Bm*3<=List.length Ci))<|some (A0.mk [.sc (.int .i64 1)] [[.sc (.string Cl),.sc (.int .i64 B3),.own 3 Bm (List.take (Bm*3) Ci)]])) (At fu call a0_0 a0_1 a0_2n a0_2 a1 a2 a3 (fu) (a1) (a2) (a3) Bp (true) (x8==6) Cl B3 Bm Ci x8 Bp Cq))) (Aa (IntKind.wrap .i64 ((↑(ByteArray.size Cl):Int)-B3)) fun Qk=>Aa (IntKind.wrap .u64 Qk) fun Q3=>A4 (decide (Q3<Bp)) (Ay (decide (Bm*3<=List.length Ci))<|some (A0.mk [.sc (.int .i64 1)] [[.sc (.string Cl),.sc (.int .i64 B3),.own 3 Bm (List.take (Bm*3) Ci)]])) (At fu call a0_0 a0_1 a0_2n a0_2 a1 a2 a3 (fu) (a1) (a2) (a3) Bp (true) (x8==6) Cl B3 Bm Ci x8 Bp Cq)))))))) (A4 (x8==5) (A4 (decide ((↑Bm:Int)>=512)) (Ay (decide (Bm*3<=List.length Ci))<|some (A0.mk [.sc (.int .i64 8)] [[.sc (.string Cl),.sc (.int .i64 B3),.own 3 Bm (List.take (Bm*3) Ci)]])) (A4 (a2) (Aj (call 95 [.sc (.int .i64 x8)]) fun Q4 Kx=>Ac Kx<|Ab Q4 fun Sk Qw=>Bw Sk fun Sx=>Ac Qw<|A4 (!Sx) (Ay (decide (Bm*3<=List.length Ci))<|some (A0.mk [.sc (.int .i64 3)] [[.sc (.string Cl),.sc (.int .i64 B3),.own 3 Bm (List.take (Bm*3) Ci)]])) (A4 (decide (a1>8)) (Ay (decide (Bm*3<=List.length Ci))<|some (A0.mk [.sc (.int .i64 5)] [[.sc (.string Cl),.sc (.int .i64 B3),.own 3 Bm (List.take (Bm*3) Ci)]])) (A4 (x8==4) (A4 (decide (Bp>1024)) (Ay (decide (Bm*3<=List.length Ci))<|some (A0.mk [.sc (.int .i64 8)] [[.sc (.string Cl),.sc (.int .i64 B3),.own 3 Bm (List.take (Bm*3) Ci)]])) (A4 (decide (Bp>512)) (Ay (decide (Bm*3<=List.length Ci))<|some (A0.mk [.sc (.int .i64 8)] [[.sc (.string Cl),.sc (.int .i64 B3),.own 3 Bm (List.take (Bm*3) Ci)]])) (A4 (x8==4) (Aa (IntKind.wrap .i64 ((↑(ByteArray.size Cl):Int)-B3)) fun Ow=>Aa (IntKind.wrap .u64 Ow) fun Qu=>A4 (decide (Qu<Bp)) (Ay (decide (Bm*3<=List.length Ci))<|some (A0.mk [.sc (.int .i64 1)] [[.sc (.string Cl),.sc (.int .i64 B3),.own 3 Bm (List.take (Bm*3) Ci)]])) (At fu call a0_0 a0_1 a0_2n a0_2 a1 a2 a3 (fu) (a1) (a2) (a3) Bp (x8==4) (true) Cl B3 Bm Ci x8 Bp Cq)) (At fu call a0_0 a0_1 a0_2n a0_2 a1 a2 a3 (fu) (a1) (a2) (a3) Bp (x8==4) (true) Cl B3 Bm Ci x8 Bp Cq)))) (A4 (decide (Bp>512)) (Ay (decide (Bm*3<=List.length Ci))<|some (A0.mk [.sc (.int .i64 8)] [[.sc (.string Cl),.sc (.int .i64 B3),.own 3 Bm (List.take (Bm*3) Ci)]])) (A4 (x8==4) (Aa (IntKind.wrap .i64 ((↑(ByteArray.size Cl):Int)-B3)) fun R5=>Aa (IntKind.wrap .u64 R5) fun S3=>A4 (decide (S3<Bp)) (Ay (decide (Bm*3<=List.length Ci))<|some (A0.mk [.sc (.int .i64 1)] [[.sc (.string Cl),.sc (.int .i64 B3),.own 3 Bm (List.take (Bm*3) Ci)]])) (At fu call a0_0 a0_1 a0_2n a0_2 a1 a2 a3 (fu) (a1) (a2) (a3) Bp (x8==4) (true) Cl B3 Bm Ci x8 Bp Cq)) (At fu call a0_0 a0_1 a0_2n a0_2 a1 a2 a3 (fu) (a1) (a2) (a3) Bp (x8==4) (true) Cl B3 Bm Ci x8 Bp Cq)))))) (A4 (decide (a1>8)) (Ay (decide (Bm*3<=List.length Ci))<|some (A0.mk [.sc (.int .i64 5)] [[.sc (.string Cl),.sc (.int .i64 B3),.own 3 Bm (List.take (Bm*3) Ci)]])) (A4 (x8==4) (A4 (decide (Bp>1024)) (Ay (decide (Bm*3<=List.length Ci))<|some (A0.mk [.sc (.int .i64 8)] [[.sc (.string Cl),.sc (.int .i64 B3),.own 3 Bm (List.take (Bm*3) Ci)]])) (A4 (decide (Bp>512)) (Ay (decide (Bm*3<=List.length Ci))<|some (A0.mk [.sc (.int .i64 8)] [[.sc (.string Cl),.sc (.int .i64 B3),.own 3 Bm (List.take (Bm*3) Ci)]])) (A4 (x8==4) (Aa (IntKind.wrap .i64 ((↑(ByteArray.size Cl):Int)-B3)) fun Qm=>Aa (IntKind.wrap .u64 Qm) fun Tw=>A4 (decide (Tw<Bp)) (Ay (decide (Bm*3<=List.length Ci))<|some (A0.mk [.sc (.int .i64 1)] [[.sc (.string Cl),.sc (.int .i64 B3),.own 3 Bm (List.take (Bm*3) Ci)]])) (At fu call a0_0 a0_1 a0_2n a0_2 a1 a2 a3 (fu) (a1) (a2) (a3) Bp (x8==4) (true) Cl B3 Bm Ci x8 Bp Cq)) (At fu call a0_0 a0_1 a0_2n a0_2 a1 a2 a3 (fu) (a1) (a2) (a3) Bp (x8==4) (true) Cl B3 Bm Ci x8 Bp Cq)))) (A4 (decide (Bp>512)) (Ay (decide (Bm*3<=List.length Ci))<|some (A0.mk [.sc (.int .i64 8)] [[.sc (.string Cl),.sc (.int .i64 B3),.own 3 Bm (List.take (Bm*3) Ci)]])) (A4 (x8==4) (Aa (IntKind.wrap .i64 ((↑(ByteArray.size Cl):Int)-B3)) fun Vs=>Aa (IntKind.wrap .u64 Vs) fun Sy=>A4 (decide (Sy<Bp)) (Ay (decide (Bm*3<=List.length Ci))<|some (A0.mk [.sc (.int .i64 1)] [[.sc (.string Cl),.sc (.int .i64 B3),.own 3 Bm (List.take (Bm*3) Ci)]])) (At fu call a0_0 a0_1 a0_2n a0_2 a1 a2 a3 (fu) (a1) (a2) (a3) Bp (x8==4) (true) Cl B3 Bm Ci x8 Bp Cq)) (At fu call a0_0 a0_1 a0_2n a0_2 a1 a2 a3 (fu) (a1) (a2) (a3) Bp (x8==4) (true) Cl B3 Bm Ci x8 Bp Cq))))))) (A4 (decide ((↑Bm:Int)>=512)) (Ay (decide (Bm*3<=List.length Ci))<|some (A0.mk [.sc (.int .i64 8)] [[.sc (.string Cl),.sc (.int .i64 B3),.own 3 Bm (List.take (Bm*3) Ci)]])) (A4 (a2) (Aj (call 95 [.sc (.int .i64 x8)]) fun Su Sf=>Ac Sf<|Ab Su fun Sa Wo=>Bw Sa fun Tf=>Ac Wo<|A4 (!Tf) (Ay (decide (Bm*3<=List.length Ci))<|some (A0.mk [.sc (.int .i64 3)] [[.sc (.string Cl),.sc (.int .i64 B3),.own 3 Bm (List.take (Bm*3) Ci)]])) (A4 (decide (a1>8)) (Ay (decide (Bm*3<=List.length Ci))<|some (A0.mk [.sc (.int .i64 5)] [[.sc (.string Cl),.sc (.int .i64 B3),.own 3 Bm (List.take (Bm*3) Ci)]])) (A4 (x8==4) (A4 (decide (Bp>1024)) (Ay (decide (Bm*3<=List.length Ci))<|some (A0.mk [.sc (.int .i64 8)] [[.sc (.string Cl),.sc (.int .i64 B3),.own 3 Bm (List.take (Bm*3) Ci)]])) (A4 (x8==6) (A4 (decide (Bp>512)) (Ay (decide (Bm*3<=List.length Ci))<|some (A0.mk [.sc (.int .i64 8)] [[.sc (.string Cl),.sc (.int .i64 B3),.own 3 Bm (List.take (Bm*3) Ci)]])) (A4 (x8==4) (Aa (IntKind.wrap .i64 ((↑(ByteArray.size Cl):Int)-B3)) fun Td=>Aa (IntKind.wrap .u64 Td) fun Th=>A4 (decide (Th<Bp)) (Ay (decide (Bm*3<=List.length Ci))<|some (A0.mk [.sc (.int .i64 1)] [[.sc (.string Cl),.sc (.int .i64 B3),.own 3 Bm (List.take (Bm*3) Ci)]])) (At fu call a0_0 a0_1 a0_2n a0_2 a1 a2 a3 (fu) (a1) (a2) (a3) Bp (x8==4) (x8==6) Cl B3 Bm Ci x8 Bp Cq)) (At fu call a0_0 a0_1 a0_2n a0_2 a1 a2 a3 (fu) (a1) (a2) (a3) Bp (x8==4) (x8==6) Cl B3 Bm Ci x8 Bp Cq))) (A4 (x8==4) (Aa (IntKind.wrap .i64 ((↑(ByteArray.size Cl):Int)-B3)) fun Vh=>Aa (IntKind.wrap .u64 Vh) fun Uh=>A4 (decide (Uh<Bp)) (Ay (decide (Bm*3<=List.length Ci))<|some (A0.mk [.sc (.int .i64 1)] [[.sc (.string Cl),.sc (.int .i64 B3),.own 3 Bm (List.take (Bm*3) Ci)]])) (At fu call a0_0 a0_1 a0_2n a0_2 a1 a2 a3 (fu) (a1) (a2) (a3) Bp (x8==4) (x8==6) Cl B3 Bm Ci x8 Bp Cq)) (At fu call a0_0 a0_1 a0_2n a0_2 a1 a2 a3 (fu) (a1) (a2) (a3) Bp (x8==4) (x8==6) Cl B3 Bm Ci x8 Bp Cq)))) (A4 (x8==6) (A4 (decide (Bp>512)) (Ay (decide (Bm*3<=List.length Ci))<|some (A0.mk [.sc (.int .i64 8)] [[.sc (.string Cl),.sc (.int .i64 B3),.own 3 Bm (List.take (Bm*3) Ci)]])) (A4 (x8==4) (Aa (IntKind.wrap .i64 ((↑(ByteArray.size Cl):Int)-B3)) fun Tc=>Aa (IntKind.wrap .u64 Tc) fun So=>A4 (decide (So<Bp)) (Ay (decide (Bm*3<=List.length Ci))<|some (A0.mk [.sc (.int .i64 1)] [[.sc (.string Cl),.sc (.int .i64 B3),.own 3 Bm (List.take (Bm*3) Ci)]])) (At fu call a0_0 a0_1 a0_2n a0_2 a1 a2 a3 (fu) (a1) (a2) (a3) Bp (x8==4) (x8==6) Cl B3 Bm Ci x8 Bp Cq)) (At fu call a0_0 a0_1 a0_2n a0_2 a1 a2 a3 (fu) (a1) (a2) (a3) Bp (x8==4) (x8==6) Cl B3 Bm Ci x8 Bp Cq))) (A4 (x8==4) (Aa (IntKind.wrap .i64 ((↑(ByteArray.size Cl):Int)-B3)) fun Vr=>Aa (IntKind.wrap .u64 Vr) fun Uk=>A4 (decide (Uk<Bp)) (Ay (decide (Bm*3<=List.length Ci))<|some (A0.mk [.sc (.int .i64 1)] [[.sc (.string Cl),.sc (.int .i64 B3),.own 3 Bm (List.take (Bm*3) Ci)]])) (At fu call a0_0 a0_1 a0_2n a0_2 a1 a2 a3 (fu) (a1) (a2) (a3) Bp (x8==4) (x8==6) Cl B3 Bm Ci x8 Bp Cq)) (At fu call a0_0 a0_1 a0_2n a0_2 a1 a2 a3 (fu) (a1) (a2) (a3) Bp (x8==4) (x8==6) Cl B3 Bm Ci x8 Bp Cq)))))) (A4 (decide (a1>8)) (Ay (decide (Bm*3<=List.length Ci))<|some (A0.mk [.sc (.int .i64 5)] [[.sc (.string Cl),.sc (.int .i64 B3),.own 3 Bm (List.take (Bm*3) Ci)]])) (A4 (x8==4) (A4 (decide (Bp>1024)) (Ay (decide (Bm*3<=List.length Ci))<|some (A0.mk [.sc (.int .i64 8)] [[.sc (.string Cl),.sc (.int .i64 B3),.own 3 Bm (List.take (Bm*3) Ci)]])) (A4 (x8==6) (A4 (decide (Bp>512)) (Ay (decide (Bm*3<=List.length Ci))<|some (A0.mk [.sc (.int .i64 8)] [[.sc (.string Cl),.sc (.int .i64 B3),.own 3 Bm (List.take (Bm*3) Ci)]])) (A4 (x8==4) (Aa (IntKind.wrap .i64 ((↑(ByteArray.size Cl):Int)-B3)) fun V2=>Aa (IntKind.wrap .u64 V2) fun Xu=>A4 (decide (Xu<Bp)) (Ay (decide (Bm*3<=List.length Ci))<|some (A0.mk [.sc (.int .i64 1)] [[.sc (.string Cl),.sc (.int .i64 B3),.own 3 Bm (List.take (Bm*3) Ci)]])) (At fu call a0_0 a0_1 a0_2n a0_2 a1 a2 a3 (fu) (a1) (a2) (a3) Bp (x8==4) (x8==6) Cl B3 Bm Ci x8 Bp Cq)) (At fu call a0_0 a0_1 a0_2n a0_2 a1 a2 a3 (fu) (a1) (a2) (a3) Bp (x8==4) (x8==6) Cl B3 Bm Ci x8 Bp Cq))) (A4 (x8==4) (Aa (IntKind.wrap .i64 ((↑(ByteArray.size Cl):Int)-B3)) fun Xa=>Aa (IntKind.wrap .u64 Xa) fun x81=>A4 (decide (x81<Bp)) (Ay (decide (Bm*3<=List.length Ci))<|some (A0.mk [.sc (.int .i64 1)] [[.sc (.string Cl),.sc (.int .i64 B3),.own 3 Bm (List.take (Bm*3) Ci)]])) (At fu call a0_0 a0_1 a0_2n a0_2 a1 a2 a3 (fu) (a1) (a2) (a3) Bp (x8==4) (x8==6) Cl B3 Bm Ci x8 Bp Cq)) (At fu call a0_0 a0_1 a0_2n a0_2 a1 a2 a3 (fu) (a1) (a2) (a3) Bp (x8==4) (x8==6) Cl B3 Bm Ci x8 Bp Cq)))) (A4 (x8==6) (A4 (decide (Bp>512)) (Ay (decide (Bm*3<=List.length Ci))<|some (A0.mk [.sc (.int .i64 8)] [[.sc (.string Cl),.sc (.int .i64 B3),.own 3 Bm (List.take (Bm*3) Ci)]])) (A4 (x8==4) (Aa (IntKind.wrap .i64 ((↑(ByteArray.size Cl):Int)-B3)) fun X3=>Aa (IntKind.wrap .u64 X3) fun X4=>A4 (decide (X4<Bp)) (Ay (decide (Bm*3<=List.length Ci))<|some (A0.mk [.sc (.int .i64 1)] [[.sc (.string Cl),.sc (.int .i64 B3),.own 3 Bm (List.take (Bm*3) Ci)]])) (At fu call a0_0 a0_1 a0_2n a0_2 a1 a2 a3 (fu) (a1) (a2) (a3) Bp (x8==4) (x8==6) Cl B3 Bm Ci x8 Bp Cq)) (At fu call a0_0 a0_1 a0_2n a0_2 a1 a2 a3 (fu) (a1) (a2) (a3) Bp (x8==4) (x8==6) Cl B3 Bm Ci x8 Bp Cq))) (A4 (x8==4) (Aa (IntKind.wrap .i64 ((↑(ByteArray.size Cl):Int)-B3)) fun Xo=>Aa (IntKind.wrap .u64 Xo) fun x85=>A4 (decide (x85<Bp)) (Ay (decide (Bm*3<=List.length Ci))<|some (A0.mk [.sc (.int .i64 1)] [[.sc (.string Cl),.sc (.int .i64 B3),.own 3 Bm (List.take (Bm*3) Ci)]])) (At fu call a0_0 a0_1 a0_2n a0_2 a1 a2 a3 (fu) (a1) (a2) (a3) Bp (x8==4) (x8==6) Cl B3 Bm Ci x8 Bp Cq)) (At fu call a0_0 a0_1 a0_2n a0_2 a1 a2 a3 (fu) (a1) (a2) (a3) Bp (x8==4) (x8==6) Cl B3 Bm Ci x8 Bp Cq)))))))))) (Ae C0 Tryz.prog fu d):=by kernel_rfl
abbrev O5:FuncId:=41
theorem Yr (fu d a0n:Nat)(a0:List PV):Ae C0 Tryz.prog fu (d+1) O5 [.lst false 1 a0n a0]=(fun (call:Aq)=>Ay (decide (List.length a0=a0n))<|Fe (bytesOf a0) fun x1=>Aj (call 66 [.pbox [.sc (.string (ByteArray.mk (List.toArray x1))),.sc (.int .i64 0),.own 3 0 []],.sc (.int .i64 0),.sc (.bool false),.sc (.string (ByteArray.mk #[]))]) fun x2 x3=>Ab x2 fun x4 x5=>Af .i64 x4 fun x6=>Ac x5<|Ab x3 fun x7 x8=>Ab x7 fun x9 Cj=>Cn x9 fun Bp=>Ab Cj fun Cz C9=>Af .i64 Cz fun Cq=>Ab C9 fun C8 Dh=>Dp 3 C8 fun Dt D6=>Ac Dh<|Ac x8<|A4 (x6 != 0) (some (A0.mk [.own 3 0 [],.sc (.int .i64 0),.sc (.int .i64 x6)] [])) (Ay (decide (Dt*3<=List.length D6))<|some (A0.mk [.own 3 Dt (List.take (Dt*3) D6),.sc (.int .i64 Cq),.sc (.int .i64 0)] []))) (Ae C0 Tryz.prog fu d):=by kernel_rfl
end
section
def Bz (s:ByteArray):List Int:=s.data.toList.map fun b=>(b.toNat:Int)
def Bo (l:List Int):ByteArray:=⟨(l.map fun n=>n.toNat.toUInt8).toArray⟩
theorem C7 (s:ByteArray):(Bz s).length=s.size:=by
 unfold Bz;rw [List.length_map];rfl
theorem R2 (s:ByteArray):Gn (Bz s):=by
 intro x hx;obtain ⟨b,_,rfl⟩:=List.mem_map.1 hx;have:=b.toNat_lt;omega
theorem Fp (s:ByteArray):Ct s=Ai .u8 (Bz s):=by
 unfold Ct Bz
 induction s.data.toList with
 |nil=>rfl
 |cons b l ih=>rw [Zzw,Zzw,ih];rfl
theorem Ey (l:List Int):(Bo l).size=l.length:=by
 show (l.map fun n=>n.toNat.toUInt8).toArray.size=_
 simp
theorem Lx {l:List Int}(h:Gn l):Bz (Bo l)=l:=by
 unfold Bz Bo;simp only [List.map_map]
 have:∀l:List Int,Gn l->List.map ((fun b:UInt8=>(b.toNat:Int)) ∘ fun n:Int=>n.toNat.toUInt8) l=l:=by
  intro l
  induction l with
  |nil=>intro _;rfl
  |cons x l ih=>
   intro h;have hx:=h x (by simp)
   rw [Zzw,ih fun y hy=>h y (by simp [hy])]
   congr 1
   show ((x.toNat.toUInt8.toNat:Nat):Int)=x;rw [Nat.toUInt8,UInt8.toNat_ofNat'];omega
 exact this l h
theorem Qj (s:ByteArray):Bo (Bz s)=s:=by
 unfold Bo Bz;simp only [List.map_map]
 have:∀l:List UInt8,List.map ((fun n:Int=>n.toNat.toUInt8) ∘ fun b:UInt8=>(b.toNat:Int)) l=l:=by
  intro l
  induction l with
  |nil=>rfl
  |cons x l ih=>
   rw [Zzw,ih]
   congr 1
   show ((x.toNat:Int).toNat).toUInt8=x;rw [G6];simp
 rw [this]
theorem Fu:∀l:List Int,bytesOf (Ai .u8 l)=some (l.map fun n=>n.toNat.toUInt8)
 |[]=>rfl
 |x::l=>by
  show (bytesOf (Ai .u8 l)).map (x.toNat.toUInt8 :: ·)=_
  rw [Fu l];rfl
theorem Ar1 (l:List Int)(s:ByteArray):Bo l++s=Bo (l++Bz s):=by
 conv=>lhs;rw [←Qj s]
 unfold Bo;apply ByteArray.ext;rw [ByteArray.data_append];simp
def tb (n:Int)(k:Nat):List Int:=(List.range' (8-k) k).map (Dx n)
def Dq (mj n:Int):List Int:=
 if n<24 then [32*mj+n] else if n<256 then (32*mj+24)::tb n 1 else if n<65536 then (32*mj+25)::tb n 2 else if n<4294967296 then (32*mj+26)::tb n 4 else (32*mj+27)::tb n 8
structure It where
 k:Int
 n:Int
 s:ByteArray
def It.cells (x:It):List PV:=[.sc (.int .i64 x.k),.sc (.int .u64 x.n),.sc (.string x.s)]
def Bv (x:It):List Int:=
 if x.k=7 then [IntKind.wrap .u8 (244+IntKind.wrap .u8 x.n)] else if x.k=8 then [246] else if x.k=3 then Dq 2 x.s.size++Bz x.s else if x.k=4 then Dq 3 x.s.size++Bz x.s else Dq (x.k-1) x.n
theorem Ab3 (n:Int)(k:Nat):(tb n k).length=k:=by simp [tb]
theorem A9o (n:Int)(k:Nat):Gn (tb n k):=by
 intro x hx;obtain ⟨j,_,rfl⟩:=List.mem_map.1 hx;exact Ari n j
theorem Io (mj n:Int):1<=(Dq mj n).length∧(Dq mj n).length<=9:=by
 unfold Dq
 repeat' split
 all_goals simp [Ab3]
theorem Apr {mj n:Int}(h0:0<=mj)(h1:mj<=6)(hn:0<=n):Gn (Dq mj n):=by
 have hc:∀(a:Int) (l:List Int),0<=a∧a<=255->Gn l->Gn (a::l):=by
  intro a l ha hl x hx;rcases List.mem_cons.1 hx with rfl|hx
  ·exact ha
  ·exact hl x hx
 unfold Dq
 repeat' split
 ·exact hc _ _ (by omega) (fun _ h=>by simp at h)
 all_goals exact hc _ _ (by omega) (A9o _ _)
theorem Axt {x:It}(h0:1<=x.k)(h1:x.k<=8)(hn:0<=x.n):Gn (Bv x):=by
 have happ:∀(a b:List Int),Gn a->Gn b->Gn (a++b):=by
  intro a b ha hb y hy;rcases List.mem_append.1 hy with h|h
  ·exact ha y h
  ·exact hb y h
 unfold Bv
 repeat' split
 ·intro y hy;simp at hy;subst hy;simp only [IntKind.wrap,IntKind.signed,IntKind.bits];simp;omega
 ·intro y hy;simp at hy;omega
 ·exact happ _ _ (Apr (by omega) (by omega) (by omega)) (R2 _)
 ·exact happ _ _ (Apr (by omega) (by omega) (by omega)) (R2 _)
 ·exact Apr (by omega) (by omega) hn
theorem Ho (x:It):(Bv x).length<=9+x.s.size:=by
 unfold Bv;have h2:=Io 2 x.s.size;have h3:=Io 3 x.s.size;have h4:=Io (x.k-1) x.n;have hs:=C7 x.s
 repeat' split
 all_goals try simp only [Ic,H0,X2]
 all_goals omega
section
variable {fu d:Nat}
theorem Ane {call:Aq}{a0n:Nat}{a0:List PV}{a1 a2 n:Int}:∀(k nn:Nat)(l:List Int),k<=8->k<nn->l.length+k<=1000000 ->
  Em fu call a0n a0 a1 a2 nn l.length n ((k:Int)-1) (Ai .u8 l)=some ⟨[.own 1 (l++tb n k).length (Ai .u8 (l++tb n k))],[]⟩
 |_,0,_,_,h,_=>by omega
 |0,nn+1,l,hk,hn,hl=>by
  have L:=As .u8 l;rw [Ol,Dj _ _ _ (by omega)]
  simp (disch:=omega) only [B6,Bl,G4,L];simp [tb]
 |k+1,nn+1,l,hk,hn,hl=>by
  have ih:=Ane (call:=call) (a0n:=a0n) (a0:=a0) (a1:=a1) (a2:=a2) (n:=n) k nn (l++[Dx n (8-(k+1))]) (by omega) (by omega) (by simp;omega)
  have L:=As .u8 l;have w8:IntKind.wrap .i64 (8*(((k+1:Nat):Int)-1))=8*(k:Int):=by rw [Au (by omega) (by omega)];omega
  have w:IntKind.wrap .i64 (((k+1:Nat):Int)-1-1)=(k:Int)-1:=by rw [Au (by omega) (by omega)];omega
  have hb:IntKind.wrap .u8 (El .u64 n (8*(k:Int)))=Dx n (8-(k+1)):=by
   unfold Dx;rw [show 56-8*((8-(k+1):Nat):Int)=8*(k:Int) by omega]
  have et:tb n (k+1)=Dx n (8-(k+1))::tb n k:=by
   unfold tb;rw [List.range'_succ,Zzw,show 8-(k+1)+1=8-k by omega]
  have ea:l++tb n (k+1)=l++[Dx n (8-(k+1))]++tb n k:=by rw [et];simp
  rw [ea,←ih,Ol];simp (disch:=omega) only [B6,w8,hb,w,Bl,G4,L,Fs,Ic,H0,X2,B4]
theorem Bb3 {mj:Int}(h0:0<=mj)(h1:mj<=7):Fk .u8 mj 5=32*mj:=by
 have:mj=0∨mj=1∨mj=2∨mj=3∨mj=4∨mj=5∨mj=6∨mj=7:=by omega
 rcases this with rfl|rfl|rfl|rfl|rfl|rfl|rfl|rfl<;>decide
theorem Axp (hfu:1000<=fu){l:List Int}(hl:l.length<=900000){mj n:Int}(h0:0<=mj)(h1:mj<=5)(hn:0<=n):Ae C0 Tryz.prog fu (d+1) L6 [.own 1 l.length (Ai .u8 l),.sc (.int .u8 mj),.sc (.int .u64 n)]=some ⟨[.own 1 (l++Dq mj n).length (Ai .u8 (l++Dq mj n))],[]⟩:=by
 rw [Aep];have s5:=Bb3 h0 (by omega)
 have L:=As .u8 l;have w24:IntKind.wrap .u8 (32*mj+24)=32*mj+24:=Gm (by omega) (by omega)
 have w25:IntKind.wrap .u8 (32*mj+25)=32*mj+25:=Gm (by omega) (by omega)
 have w26:IntKind.wrap .u8 (32*mj+26)=32*mj+26:=Gm (by omega) (by omega)
 have w27:IntKind.wrap .u8 (32*mj+27)=32*mj+27:=Gm (by omega) (by omega)
 have lp:=fun (k:Nat) (hk:k<=8) (b:Int)=>Ane (fu:=fu) (call:=Ae C0 Tryz.prog fu d) (a0n:=l.length) (a0:=Ai .u8 l) (a1:=mj) (a2:=n) (n:=n) k fu (l++[b]) hk (by omega) (by simp;omega)
 have ec:∀(b:Int) (t:List Int),l++b::t=l++[b]++t:=by intro b t;simp
 unfold Dq;by_cases c1:n<24
 ·have wn:IntKind.wrap .u8 n=n:=Gm (by omega) (by omega)
  have ws:IntKind.wrap .u8 (32*mj+n)=32*mj+n:=Gm (by omega) (by omega)
  have L1:=As .u8 (l++[32*mj+n]);have t1:=G4 .u8 (l++[32*mj+n]);simp only [Ic,H0,X2,B4] at L1 t1;rw [Bk c1];simp (disch:=omega) only [B6,s5,wn,ws,Bl,G4,L,Fs,L1,t1,Ic,H0,X2,B4]
 ·by_cases c2:n<256
  ·have l1:=lp 1 (by omega) (32*mj+24)
   rw [show ((1:Nat):Int)-1=0 by omega] at l1
   rw [A3 c1,Bk c2,ec,←l1];simp (disch:=omega) only [B6,s5,w24,Bl,G4,L,Fs,Ic,H0,X2,B4]
  ·by_cases c3:n<65536
   ·have l1:=lp 2 (by omega) (32*mj+25)
    rw [show ((2:Nat):Int)-1=1 by omega] at l1
    rw [A3 c1,A3 c2,Bk c3,ec,←l1];simp (disch:=omega) only [B6,s5,w25,Bl,G4,L,Fs,Ic,H0,X2,B4]
   ·by_cases c4:n<4294967296
    ·have l1:=lp 4 (by omega) (32*mj+26)
     rw [show ((4:Nat):Int)-1=3 by omega] at l1
     rw [A3 c1,A3 c2,A3 c3,Bk c4,ec,←l1];simp (disch:=omega) only [B6,s5,w26,Bl,G4,L,Fs,Ic,H0,X2,B4]
    ·have l1:=lp 8 (by omega) (32*mj+27)
     rw [show ((8:Nat):Int)-1=7 by omega] at l1
     rw [A3 c1,A3 c2,A3 c3,A3 c4,ec,←l1];simp (disch:=omega) only [B6,s5,w27,Bl,G4,L,Fs,Ic,H0,X2,B4]
structure It.ok (x:It):Prop where
 k1:1<=x.k
 k8:x.k<=8
 n0:0<=x.n
 s0:x.s.size<=500000
theorem Awm (hfu:1000<=fu){l:List Int}(hl:l.length<=300000){x:It}(hx:x.ok):Ae C0 Tryz.prog fu (d+2) S0 [.own 1 l.length (Ai .u8 l),.agg x.cells]=some ⟨[.own 1 (l++Bv x).length (Ai .u8 (l++Bv x))],[]⟩:=by
 obtain ⟨k,n,s⟩:=x;obtain ⟨k1,k8,n0,s0⟩:=hx;simp only at k1 k8 n0 s0;refine (Aen fu (d+1) l.length (Ai .u8 l) k n s).trans ?_;have L:=As .u8 l;have hsl:=C7 s;unfold Bv;simp only;by_cases c7:k=7
 ·subst c7;have L1:=As .u8 (l++[IntKind.wrap .u8 (244+IntKind.wrap .u8 n)]);have t1:=G4 .u8 (l++[IntKind.wrap .u8 (244+IntKind.wrap .u8 n)]);simp only [Ic,H0,X2,B4] at L1 t1;simp (disch:=omega) only [B6,Fm,if_true,Bl,G4,L,Fs,L1,t1,Ic,H0,X2,B4]
 ·by_cases c8:k=8
  ·subst c8;have L1:=As .u8 (l++[246]);have t1:=G4 .u8 (l++[246]);simp only [Ic,H0,X2,B4] at L1 t1;rw [A3 c7,Bk rfl];simp (disch:=omega) only [B6,Fm,c7,if_false,if_true,Bl,G4,L,Fs,L1,t1,Ic,H0,X2,B4]
  ·have dat:∀mj:Int,0<=mj->mj<=5->(Ae C0 Tryz.prog fu (d+1) L6 [.own 1 l.length (Ai .u8 l),.sc (.int .u8 mj),.sc (.int .u64 s.size)]=some ⟨[.own 1 (l++Dq mj s.size).length (Ai .u8 (l++Dq mj s.size))],[]⟩)∧(l++Dq mj s.size).length<=300009∧List.take (l++Dq mj s.size).length (Ai .u8 (l++Dq mj s.size))=Ai .u8 (l++Dq mj s.size)∧(Ai .u8 (l++Dq mj s.size)).length=(l++Dq mj s.size).length∧Ai .u8 (l++Dq mj s.size)++Ct s=Ai .u8 (l++(Dq mj s.size++Bz s))∧(l++(Dq mj s.size++Bz s)).length=(l++Dq mj s.size).length+s.size∧(Ai .u8 (l++(Dq mj s.size++Bz s))).length=(l++Dq mj s.size).length+s.size:=by
    intro mj h0 h1;have hh:=Io mj s.size;refine ⟨Axp hfu (by omega) h0 h1 (by omega),by rw [Ic];omega,G4 _ _,As _ _,?_,?_,?_⟩
    ·rw [Fp,←Zzv,Ai,Ai,Ai,List.flatMap_append (xs:=l++Dq mj s.size)]
    ·rw [←Zzv,Ic,hsl]
    ·rw [As,←Zzv,Ic,hsl]
   have ss:(Ct s).length=s.size:=by rw [Fp,As,hsl]
   have wsz:IntKind.wrap .u64 (s.size:Int)=s.size:=B7 (by omega) (by omega)
   rw [A3 c7,A3 c8];by_cases c3:k=3
   ·subst c3;obtain ⟨p1,p2,p3,p4,p5,p6,p7⟩:=dat 2 (by omega) (by omega)
    have w1:IntKind.wrap .i64 ((3:Int)-1)=2:=by decide
    have w2:IntKind.wrap .u8 (2:Int)=2:=by decide
    have t1:List.take ((l++Dq 2 s.size).length+s.size) (Ai .u8 (l++(Dq 2 s.size++Bz s)))=Ai .u8 (l++(Dq 2 s.size++Bz s)):=I2 (by omega)
    rw [Bk rfl];simp (disch:=omega) only [B6,Fm,c7,c8,if_false,if_true,w1,w2,wsz,Bl,G4,L,p1];generalize (l++Dq 2 s.size).length=N at *
    simp (disch:=omega) only [B6,Bl,p3,p4,p5,p7,t1,ss];rw [p6]
   ·by_cases c4:k=4
    ·subst c4;obtain ⟨p1,p2,p3,p4,p5,p6,p7⟩:=dat 3 (by omega) (by omega)
     have w1:IntKind.wrap .i64 ((4:Int)-1)=3:=by decide
     have w2:IntKind.wrap .u8 (3:Int)=3:=by decide
     have t1:List.take ((l++Dq 3 s.size).length+s.size) (Ai .u8 (l++(Dq 3 s.size++Bz s)))=Ai .u8 (l++(Dq 3 s.size++Bz s)):=I2 (by omega)
     rw [A3 c3,Bk rfl];simp (disch:=omega) only [B6,Fm,c7,c8,c3,if_false,if_true,w1,w2,wsz,Bl,G4,L,p1];generalize (l++Dq 3 s.size).length=N at *
     simp (disch:=omega) only [B6,Bl,p3,p4,p5,p7,t1,ss];rw [p6]
    ·have w1:IntKind.wrap .i64 (k-1)=k-1:=Au (by omega) (by omega)
     have w2:IntKind.wrap .u8 (k-1)=k-1:=Gm (by omega) (by omega)
     have p1:=Axp (fu:=fu) (d:=d) hfu (l:=l) (by omega) (mj:=k-1) (n:=n) (by omega) (by omega) n0
     have L2:=As .u8 (l++Dq (k-1) n);have t2:=G4 .u8 (l++Dq (k-1) n);rw [A3 c3,A3 c4];simp (disch:=omega) only [B6,Fm,c7,c8,c3,c4,if_false,w1,w2,Bl,G4,L,p1,L2,t2]
end
end
end Go.Proofs.YtgfgmbpmghgbkaaGreatDoor.Pv
