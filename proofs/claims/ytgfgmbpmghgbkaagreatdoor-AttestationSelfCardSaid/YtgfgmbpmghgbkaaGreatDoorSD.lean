/-
  The proof of AttestationSelf, part 4 (texts Dg1 Wd2 GnB Ke0 Ke1 Ke2 GnR Ke3 Ke4 Ke5 GnF GnI Cb1 GnJ Cb2 Ce1).
-/
import Derived.Test.YtgfgmbpmghgbkaaGreatDoorSC
import Derived.Test.YtgfgmbpmghgbkaaGreatDoorRows
set_option linter.unusedSimpArgs false
set_option linter.unusedVariables false
namespace Go.Proofs.YtgfgmbpmghgbkaaGreatDoor.Pv
section
section
variable {fu d:Nat}
theorem Aw1 {x k:Int}(hk:k=13∨k=16∨k=17∨k=21∨k=32):Ae C0 Tryz.prog fu (d+1) Mz [.sc (.int .u64 x),.sc (.int .i64 k)]=some ⟨[.sc (.int .u64 (rot x k))],[]⟩:=by
 rw [Xk]
 rcases hk with rfl|rfl|rfl|rfl|rfl<;>kernel_rfl
theorem Azg {x k:Int}(hk:k=13∨k=16∨k=17∨k=21∨k=32):Ae C0 Tryz.prog fu (d+1) Oz [.sc (.int .u64 x),.sc (.int .u64 k)]=some ⟨[.sc (.int .u64 (rot x k))],[]⟩:=by
 rw [Y0]
 rcases hk with rfl|rfl|rfl|rfl|rfl<;>kernel_rfl
theorem Adv {a0 a1 a2 a3 a4:Int}:∀(k i nn:Nat)(v:W4),k<nn→i+k≤100 →
  Fa fu (Ae C0 Tryz.prog fu (d+1)) a0 a1 a2 a3 a4 nn ((i+k:Nat):Int) i v.a v.b v.c v.d=some ⟨[],[(Aqg k v).cells]⟩
 |_,_,0,_,h,_=>by omega
 |0,i,nn+1,v,h,hi=>by
  rw [Im,Dl _ _ _ (by omega)]
  rfl
 |k+1,i,nn+1,v,h,hi=>by
  have ih:=Adv (a0:=a0) (a1:=a1) (a2:=a2) (a3:=a3) (a4:=a4) k (i+1) nn (rnd v) (by omega) (by omega)
  have w:IntKind.wrap .i64 ((i:Int)+1)=((i+1:Nat):Int):=by rw [Aq (by omega) (by omega)];omega
  have r13:=fun x=>Aw1 (fu:=fu) (d:=d) (x:=x) (k:=13) (by simp)
  have r16:=fun x=>Aw1 (fu:=fu) (d:=d) (x:=x) (k:=16) (by simp)
  have r17:=fun x=>Aw1 (fu:=fu) (d:=d) (x:=x) (k:=17) (by simp)
  have r21:=fun x=>Aw1 (fu:=fu) (d:=d) (x:=x) (k:=21) (by simp)
  have r32:=fun x=>Aw1 (fu:=fu) (d:=d) (x:=x) (k:=32) (by simp)
  rw [Im]
  simp (disch:=omega) only [Bx,r13,r16,r17,r21,r32,w]
  rw [show i+(k+1)=i+1+k by omega]
  exact ih
theorem Ajv (k:Nat)(hk:k≤4)(hfu:100≤fu)(v:W4):Ae C0 Tryz.prog fu (d+2) Km [.pbox [.sc (.int .u64 v.a),.sc (.int .u64 v.b),.sc (.int .u64 v.c),.sc (.int .u64 v.d)],.sc (.int .i64 k)]=some ⟨[],[(Aqg k v).cells]⟩:=by
 rw [Uh]
 have:=Adv (fu:=fu) (d:=d) (a0:=v.a) (a1:=v.b) (a2:=v.c) (a3:=v.d) (a4:=k) k 0 fu v (by omega) (by omega)
 rw [Nat.zero_add] at this
 exact this
theorem Ajs (hfu:100≤fu)(v:W4)(m:Int):Ae C0 Tryz.prog fu (d+3) Kr [.pbox [.sc (.int .u64 v.a),.sc (.int .u64 v.b),.sc (.int .u64 v.c),.sc (.int .u64 v.d)],.sc (.int .u64 m)]=some ⟨[],[(Rg v m).cells]⟩:=by
 rw [Uo]
 have r2:=Ajv (fu:=fu) (d:=d) 2 (by omega) hfu ⟨v.a,v.b,v.c,Dv .u64 v.d m⟩
 have e2:((2:Nat):Int)=2:=rfl
 rw [e2] at r2
 unfold Rg
 generalize Aqg 2 ⟨v.a,v.b,v.c,Dv .u64 v.d m⟩=R at r2 ⊢
 simp only [W4.cells] at r2
 simp only [Bx,r2]
 rfl
theorem A3u {a b:Int}{k:Nat}(hk:k<8)(ha:0≤a)(ha':a<((2 ^ (8*k):Nat):Int)) (hb:0≤b)(hb':b≤255):Xf .u64 a (Ew .u64 b (8*(k:Int)))=a+((2 ^ (8*k):Nat):Int)*b:=by
 obtain ⟨n,rfl⟩:=Int.eq_ofNat_of_zero_le hb
 have e:(8*(k:Int)).toNat=8*k:=by omega
 have hp:n*2 ^ (8*k)≤255*2 ^ (8*k):=Nat.mul_le_mul_right _ (by omega)
 have h56:2 ^ (8*k)≤2 ^ 56:=Nat.pow_le_pow_right (by omega) (by omega)
 have e56:(2:Nat) ^ 56=72057594037927936:=by decide
 rw [e56] at h56
 generalize hP:2 ^ (8*k)=p at *
 have hpos:n*p≤255*p:=hp
 have hs:Ew .u64 (n:Int) (8*(k:Int))=(n:Int)*((2 ^ (8*(k:Int)).toNat:Nat):Int):=Ash (by omega) (by omega) (by omega) (by
  rw [e,hP]
  have:((n*p:Nat):Int)≤((255*p:Nat):Int):=by omega
  rw [←Int.natCast_mul]
  omega)
 rw [hs,e,hP]
 have:=(Alx (a:=a) (c:=((n*p:Nat):Int)) (8*k) n ha (by rw [hP];exact ha') (by rw [hP]) (by
  have:((n*p:Nat):Int)≤((255*p:Nat):Int):=by omega
  omega)).1
 rw [←Int.natCast_mul,this,Int.mul_comm ((p:Nat):Int),←Int.natCast_mul]
theorem A3r (k:Nat):((2 ^ (8*k):Nat):Int)=256 ^ k:=by
 rw [Nat.pow_mul]
 simp
theorem Ac7 {call:Ak}{n:Nat}{c:List PV}{l:List Int}(hb:Ha l)(hl:l.length≤8):∀(r:List Int)(i nn:Nat),l.drop i=r→r.length<nn→i≤l.length →
  H0 fu call n c nn (R6 (l.take i)) l.length (Ag .u8 l) l.length i=some ⟨[.sc (.int .u64 (R6 l))],[]⟩
 |_,_,0,_,h,_=>by omega
 |[],i,nn+1,h,hn,hi=>by
  have:=drop_nil h
  rw [O3,Dl _ _ _ (by omega),List.take_of_length_le (by omega)]
 |b::r,i,nn+1,h,hn,hi=>by
  obtain ⟨h1,h2,h3⟩:=Cf h
  simp only [List.length_cons] at hn
  have ih:=Ac7 (call:=call) (n:=n) (c:=c) hb hl r (i+1) nn h3 (by omega) (by omega)
  have hbb:=hb b (List.mem_of_getElem? h2)
  have w:IntKind.wrap .i64 ((i:Int)+1)=((i+1:Nat):Int):=by rw [Aq (by omega) (by omega)];omega
  have w8:IntKind.wrap .i64 (8*(i:Int))=8*(i:Int):=Aq (by omega) (by omega)
  have wb:IntKind.wrap .u64 b=b:=Bq (by omega) (by omega)
  have hbnd:=S8 (l:=l.take i) fun x hx=>hb x (List.mem_of_mem_take hx)
  have htl:(l.take i).length=i:=by rw [List.length_take];omega
  rw [htl] at hbnd
  have hj:Xf .u64 (R6 (l.take i)) (Ew .u64 b (8*(i:Int)))=R6 (l.take (i+1)):=by
   rw [A3u (by omega) hbnd.1 (by rw [A3r];exact hbnd.2) hbb.1 hbb.2,List.take_add_one,h2,Zd,htl,A3r]
   simp [R6]
  rw [O3]
  simp (disch:=omega) only [Bx,Int.toNat_natCast,Nat.mul_one,Ur h2,w,w8,wb,hj]
  exact ih
theorem Akb {l:List Int}(hb:Ha l)(hl:l.length≤8)(hfu:100≤fu):Ae C0 Tryz.prog fu (d+1) Ty [.lst false 1 l.length (Ag .u8 l)]=some ⟨[.sc (.int .u64 (R6 l))],[]⟩:=by
 rw [Ad6]
 exact Ac7 hb hl l 0 fu rfl (by omega) (by omega)
theorem Fb (k:IntKind)(l:List Int)(i:Nat):List.drop i (Ag k l)=Ag k (l.drop i):=by
 have:=Aly (Aam k) l i
 simpa using this
theorem Dp (k:IntKind)(l:List Int)(i:Nat):List.take i (Ag k l)=Ag k (l.take i):=by
 have:=Asy (Aam k) l i
 simpa using this
theorem Ha.drop {l:List Int}(h:Ha l)(i:Nat):Ha (l.drop i):=fun x hx=>h x (List.mem_of_mem_drop hx)
theorem Ha.take {l:List Int}(h:Ha l)(i:Nat):Ha (l.take i):=fun x hx=>h x (List.mem_of_mem_take hx)
theorem A05 {a0 a1:Int}{n:Nat}{c:List PV}{l:List Int}(hb:Ha l)(hl:l.length≤1099511627776)(hfu:100≤fu)(nn:Nat)(v:W4):
  Iv fu (Ae C0 Tryz.prog fu (d+3)) a0 a1 n c (nn+1) l.length (Ag .u8 l) ((l.length / 8:Nat):Int) ((l.length / 8:Nat):Int) ((l.length / 8:Nat):Int) v.a v.b v.c v.d=some ⟨[.sc (.int .u64 (Aus (Avq (Rg v (Nm l)))))],[]⟩:=by
 have w8:IntKind.wrap .i64 (8*((l.length / 8:Nat):Int))=((8*(l.length / 8):Nat):Int):=by rw [Aq (by omega) (by omega)];omega
 have wl:IntKind.wrap .u64 (l.length:Int)=l.length:=Bq (by omega) (by omega)
 have hdl:(l.drop (8*(l.length / 8))).length=l.length-8*(l.length / 8):=List.length_drop
 have li:=Akb (fu:=fu) (d:=d+2) (hb.drop (8*(l.length / 8))) (by omega) hfu
 rw [hdl] at li
 have tk:List.take (l.length-8*(l.length / 8)) (Ag .u8 (l.drop (8*(l.length / 8))))=Ag .u8 (l.drop (8*(l.length / 8))):=List.take_of_length_le (by rw [Aj,hdl];omega)
 have hbn:=S8 (hb.drop (8*(l.length / 8)))
 rw [hdl] at hbn
 have hp7:(256:Int) ^ (l.length-8*(l.length / 8))≤256 ^ 7:=by
  have:(256:Nat) ^ (l.length-8*(l.length / 8))≤256 ^ 7:=Nat.pow_le_pow_right (by omega) (by omega)
  have h2:(((256:Nat) ^ (l.length-8*(l.length / 8)):Nat):Int)≤((256 ^ 7:Nat):Int):=by omega
  simpa using h2
 have hlast:Xf .u64 (R6 (l.drop (8*(l.length / 8)))) (Ew .u64 (l.length:Int) 56)=Nm l:=by
  have hs:Ew .u64 (l.length:Int) 56=(((l.length % 256)*2 ^ 56:Nat):Int):=by
   show IntKind.wrap .u64 ((l.length:Int)*2 ^ (min (56:Int).toNat IntKind.u64.bits))=_
   have h2:(2:Int) ^ (min (56:Int).toNat IntKind.u64.bits)=72057594037927936:=by decide
   have h3:(2:Nat) ^ 56=72057594037927936:=by decide
   rw [h2,h3]
   simp only [IntKind.wrap,IntKind.signed,IntKind.bits]
   simp
   omega
  have h56:(256:Int) ^ 7=((2 ^ 56:Nat):Int):=by decide
  have h3:(2:Nat) ^ 56=72057594037927936:=by decide
  rw [hs,(Alx 56 (l.length % 256) hbn.1 (by omega) rfl (by omega)).1]
  unfold Nm
  omega
 have ab:=Ajs (fu:=fu) (d:=d) hfu v (Nm l)
 have r4:=Ajv (fu:=fu) (d:=d+1) 4 (by omega) hfu ⟨(Rg v (Nm l)).a,(Rg v (Nm l)).b,Dv .u64 (Rg v (Nm l)).c 255,(Rg v (Nm l)).d⟩
 have e4:((4:Nat):Int)=4:=rfl
 rw [e4] at r4
 unfold Avq
 generalize Rg v (Nm l)=U at ab r4 ⊢
 generalize Aqg 4 ⟨U.a,U.b,Dv .u64 U.c 255,U.d⟩=R at r4 ⊢
 simp only [W4.cells] at ab r4
 rw [Tr]
 simp (disch:=omega) only [Bx,Int.toNat_natCast,Nat.mul_one,w8,wl,Fb,tk,li,hlast,ab,r4]
 rfl
theorem Apj {a0 a1:Int}{n:Nat}{c:List PV}{l:List Int}(hb:Ha l)(hl:l.length≤1099511627776)(hfu:100≤fu):∀(k i nn:Nat)(v:W4),i+k=l.length / 8→k<nn →
  Iv fu (Ae C0 Tryz.prog fu (d+3)) a0 a1 n c nn l.length (Ag .u8 l) ((l.length / 8:Nat):Int) ((l.length / 8:Nat):Int) i v.a v.b v.c v.d=some ⟨[.sc (.int .u64 (Aus (Avq (Rg (Aiq k v (l.drop (8*i))) (Nm l)))))],[]⟩
 |_,_,0,_,_,h=>by omega
 |0,i,nn+1,v,hi,hn=>by
  have e:i=l.length / 8:=by omega
  subst e
  exact A05 hb hl hfu nn v
 |k+1,i,nn+1,v,hi,hn=>by
  have w:IntKind.wrap .i64 ((i:Int)+1)=((i+1:Nat):Int):=by rw [Aq (by omega) (by omega)];omega
  have w8:IntKind.wrap .i64 (8*(i:Int))=((8*i:Nat):Int):=by rw [Aq (by omega) (by omega)];omega
  have w88:IntKind.wrap .i64 (((8*i:Nat):Int)+8)=((8*i+8:Nat):Int):=by rw [Aq (by omega) (by omega)];omega
  have hdl:((l.drop (8*i)).take 8).length=8:=by rw [List.length_take,List.length_drop];omega
  have li:=Akb (fu:=fu) (d:=d+2) ((hb.drop (8*i)).take 8) (by omega) hfu
  rw [hdl] at li
  have e8:8*i+8-8*i=8:=by omega
  have ab:=Ajs (fu:=fu) (d:=d) hfu v (R6 ((l.drop (8*i)).take 8))
  have ih:=Apj (a0:=a0) (a1:=a1) (n:=n) (c:=c) hb hl hfu k (i+1) nn (Rg v (R6 ((l.drop (8*i)).take 8))) (by omega) (by omega)
  have eN:Aiq (k+1) v (l.drop (8*i))=Aiq k (Rg v (R6 ((l.drop (8*i)).take 8))) (l.drop (8*(i+1))):=by
   rw [Aiq,List.drop_drop,show 8*i+8=8*(i+1) by omega]
  rw [eN]
  generalize Rg v (R6 ((l.drop (8*i)).take 8))=U at ab ih ⊢
  simp only [W4.cells] at ab
  rw [Tr]
  simp (disch:=omega) only [Bx,Int.toNat_natCast,Nat.mul_one,w,w8,w88,e8,Fb,Dp,li,ab]
  exact ih
theorem A12 {l:List Int}(hb:Ha l)(hl:l.length≤1099511627776)(hfu:100≤fu)(hf:l.length<fu)(k0 k1:Int):Ae C0 Tryz.prog fu (d+4) Aa6 [.sc (.int .u64 k0),.sc (.int .u64 k1),.lst false 1 l.length (Ag .u8 l)]=some ⟨[.sc (.int .u64 (Az6 k0 k1 l))],[]⟩:=by
 rw [Alw]
 have w:IntKind.wrap .i64 (Int.tdiv (l.length:Int) 8)=((l.length / 8:Nat):Int):=by
  rw [Int.tdiv_eq_ediv_of_nonneg (by omega),Aq (by omega) (by omega)]
  omega
 have lp:=Apj (fu:=fu) (d:=d) (a0:=k0) (a1:=k1) (n:=l.length) (c:=Ag .u8 l) hb hl hfu (l.length / 8) 0 fu (A17 k0 k1) (by omega) (by omega)
 simp only [Gn,w]
 exact lp
theorem As9 {l:List Int}(hb:Ha l)(hl:l.length≤1099511627776)(hfu:100≤fu)(hf:l.length<fu)(dom:Int):Ae C0 Tryz.prog fu (d+5) Qt [.sc (.int .i64 dom),.lst false 1 l.length (Ag .u8 l)]=some ⟨[.sc (.int .u64 (D3 dom l))],[]⟩:=by
 rw [Ait]
 have s:=A12 (fu:=fu) (d:=d) hb hl hfu hf (IntKind.wrap .u64 dom) 0
 simp only [Bx,s]
 rfl
theorem Od (v:W4):Ae C0 Tryz.prog fu (d+2) M3 [.agg [.sc (.int .u64 v.a),.sc (.int .u64 v.b),.sc (.int .u64 v.c),.sc (.int .u64 v.d)]]=some ⟨[.agg (rnd v).cells],[]⟩:=by
 have r13:=fun x=>Azg (fu:=fu) (d:=d) (x:=x) (k:=13) (by simp)
 have r16:=fun x=>Azg (fu:=fu) (d:=d) (x:=x) (k:=16) (by simp)
 have r17:=fun x=>Azg (fu:=fu) (d:=d) (x:=x) (k:=17) (by simp)
 have r21:=fun x=>Azg (fu:=fu) (d:=d) (x:=x) (k:=21) (by simp)
 have r32:=fun x=>Azg (fu:=fu) (d:=d) (x:=x) (k:=32) (by simp)
 rw [Xg]
 simp (disch:=omega) only [Bx,r13,r16,r17,r21,r32]
 rfl
def Ug (l:List Int)(i k:Nat):Int:=if i+k<l.length then l.getD (i+k) 0 else if k=7 then (l.length:Int) % 256 else 0
def pc (l:List Int)(i:Nat):List Int:=(List.range 8).map (Ug l i)
theorem A53 {l:List Int}(hb:Ha l)(i:Nat):Ha (pc l i):=by
 intro x hx
 obtain ⟨k,hk,rfl⟩:=List.mem_map.1 hx
 unfold Ug
 split
 ·rename_i h
  rw [List.getD_eq_getElem?_getD,List.getElem?_eq_getElem h]
  exact hb _ (List.getElem_mem h)
 ·split<;>omega
theorem Azz {l:List Int}{i:Nat}(h:i+8≤l.length):pc l i=(l.drop i).take 8:=by
 refine List.ext_getElem (by simp [pc];omega) fun k h1 h2=>?_
 have hk:k<8:=by simpa [pc] using h1
 simp only [pc,List.getElem_map,List.getElem_range,List.getElem_take,List.getElem_drop,Ug]
 rw [if_pos (by omega),List.getD_eq_getElem?_getD,List.getElem?_eq_getElem (by omega)]
 rfl
theorem Akm (x:Int):∀n,R6 (List.replicate n 0++[x])=256 ^ n*x
 |0=>by simp [R6]
 |n+1=>by
  rw [List.replicate_succ,List.cons_append,R6,Akm x n,Int.pow_succ,Int.mul_comm (256 ^ n) 256,Int.mul_assoc]
  omega
theorem Az4 {l:List Int}:R6 (pc l (8*(l.length / 8)))=Nm l:=by
 have e:pc l (8*(l.length / 8))=l.drop (8*(l.length / 8))++(List.replicate (7-(l.length-8*(l.length / 8))) 0++[(l.length:Int) % 256]):=by
  refine List.ext_getElem (by simp [pc];omega) fun k h1 h2=>?_
  have hk:k<8:=by simpa [pc] using h1
  simp only [pc,List.getElem_map,List.getElem_range,Ug]
  by_cases hc:8*(l.length / 8)+k<l.length
  ·rw [if_pos hc,List.getElem_append_left (by rw [List.length_drop];omega),List.getElem_drop,List.getD_eq_getElem?_getD,List.getElem?_eq_getElem hc]
   rfl
  ·rw [if_neg hc,List.getElem_append_right (by rw [List.length_drop];omega)]
   by_cases h7:k=7
   ·rw [if_pos h7,List.getElem_append_right (by simp;omega)]
    simp
   ·rw [if_neg h7,List.getElem_append_left (by simp;omega)]
    simp
 rw [e,Zd,Akm]
 unfold Nm
 have:(256:Int) ^ (l.drop (8*(l.length / 8))).length*(256 ^ (7-(l.length-8*(l.length / 8)))*((l.length:Int) % 256))=72057594037927936*((l.length:Int) % 256):=by
  rw [←Int.mul_assoc,←Int.pow_add,List.length_drop]
  have:l.length-8*(l.length / 8)+(7-(l.length-8*(l.length / 8)))=7:=by omega
  rw [this]
  rfl
 rw [this]
theorem A28 {a b:Int}(ha:0≤a)(ha':a<72057594037927936)(hb:0≤b)(hb':b≤255):Xf .u64 (Ew .u64 a 8) b=b+256*a:=by
 obtain ⟨n,rfl⟩:=Int.eq_ofNat_of_zero_le ha
 have hs:Ew .u64 (n:Int) 8=((n*2 ^ 8:Nat):Int):=by
  have:=Ash (a:=(n:Int)) (k:=8) (by omega) (by omega) (by omega) (by
   have:(2 ^ (8:Int).toNat:Nat)=256:=by decide
   rw [this];omega)
  rw [this]
  have:(2 ^ (8:Int).toNat:Nat)=256:=by decide
  rw [this]
  have:(2 ^ 8:Nat)=256:=by decide
  rw [this]
  omega
 have h8:(2 ^ 8:Nat)=256:=by decide
 rw [hs,(Alx (a:=b) 8 n hb (by rw [h8];omega) rfl (by rw [h8];omega)).2,h8]
 omega
theorem Ass {a0 a1:Int}{n m0:Nat}{c:List PV}{l:List Int}(hb:Ha l)(hl:l.length≤1099511627776){i:Nat}(hi:i≤l.length)(v:W4):∀(j nn:Nat),j≤8→j<nn →
  Eg fu (Ae C0 Tryz.prog fu (d+2)) a0 a1 n c m0 nn l.length (Ag .u8 l) i (R6 ((pc l i).drop j)) ((j:Int)-1) v.cells =
   Fd fu (Ae C0 Tryz.prog fu (d+2)) a0 a1 n c m0 l.length (Ag .u8 l) ((i+8:Nat):Int) (Rg v (R6 (pc l i))).cells
 |_,0,_,h=>by omega
 |0,nn+1,hj,hn=>by
  have w8:IntKind.wrap .i64 ((i:Int)+8)=((i+8:Nat):Int):=by rw [Aq (by omega) (by omega)];omega
  have r1:=Od (fu:=fu) (d:=d) ⟨v.a,v.b,v.c,Dv .u64 v.d (R6 (pc l i))⟩
  have r2:=Od (fu:=fu) (d:=d) (rnd ⟨v.a,v.b,v.c,Dv .u64 v.d (R6 (pc l i))⟩)
  have eA:Rg v (R6 (pc l i))=A3a (rnd (rnd ⟨v.a,v.b,v.c,Dv .u64 v.d (R6 (pc l i))⟩)) (R6 (pc l i)):=rfl
  rw [eA]
  generalize rnd ⟨v.a,v.b,v.c,Dv .u64 v.d (R6 (pc l i))⟩=U at r1 r2 ⊢
  generalize rnd U=U2 at r2 ⊢
  simp only [W4.cells] at r1 r2
  rw [Mh,Dl _ _ _ (by omega),List.drop_zero]
  simp only [W4.cells,List.getD_cons_zero,List.getD_cons_succ,Amh,Gn]
  simp (disch:=first|omega|(simp;done)) only [Bx,Bn,List.take_succ_cons,List.take_zero,List.drop_succ_cons,List.drop_zero,List.drop_nil,List.cons_append,List.nil_append,List.append_nil,List.length_cons,List.length_nil,List.getD_cons_zero,List.getD_cons_succ,r1,r2,w8,Nat.zero_add,Nat.reduceAdd,Nat.reduceLeDiff,List.append_eq]
  rfl
 |j+1,nn+1,hj,hn=>by
  have ih:=Ass (a0:=a0) (a1:=a1) (n:=n) (m0:=m0) (c:=c) hb hl hi v j nn (by omega) (by omega)
  have hw:IntKind.wrap .i64 ((i:Int)+(((j+1:Nat):Int)-1))=((i+j:Nat):Int):=by rw [Aq (by omega) (by omega)];omega
  have wj:IntKind.wrap .i64 (((j+1:Nat):Int)-1-1)=(j:Int)-1:=by rw [Aq (by omega) (by omega)];omega
  have hd:(pc l i).drop j=Ug l i j::(pc l i).drop (j+1):=by
   rw [List.drop_eq_getElem_cons (by simp [pc];omega)]
   simp [pc]
  have hB:=A53 hb i
  have hbn:=S8 (hB.drop (j+1))
  have hp7:(256:Int) ^ ((pc l i).drop (j+1)).length≤72057594037927936:=by
   have hlen:((pc l i).drop (j+1)).length≤7:=by simp [pc]
   have:(256:Nat) ^ ((pc l i).drop (j+1)).length≤256 ^ 7:=Nat.pow_le_pow_right (by omega) hlen
   have h2:(((256:Nat) ^ ((pc l i).drop (j+1)).length:Nat):Int)≤((256 ^ 7:Nat):Int):=by omega
   simpa using h2
  have hc0:0≤Ug l i j∧Ug l i j≤255:=hB _ (by rw [←List.drop_zero (l:=pc l i)];exact List.mem_of_mem_drop (i:=j) (by rw [List.drop_zero,hd];simp))
  have hj2:Xf .u64 (Ew .u64 (R6 ((pc l i).drop (j+1))) 8) (Ug l i j)=R6 ((pc l i).drop j):=by
   rw [A28 hbn.1 (by omega) hc0.1 hc0.2,hd]
   rfl
  have wc:IntKind.wrap .u64 (Ug l i j)=Ug l i j:=Bq (by omega) (by omega)
  rw [Mh,Ahz _ _ _ (by omega)]
  simp only [Gn,hw]
  by_cases c1:i+j<l.length
  ·have e:Ug l i j=l.getD (i+j) 0:=by unfold Ug;rw [if_pos c1]
   have e2:l[i+j]?=some (Ug l i j):=by rw [e,List.getD_eq_getElem?_getD,List.getElem?_eq_getElem c1];rfl
   rw [Ahz _ _ _ (by omega)]
   simp (disch:=omega) only [Bx,Int.toNat_natCast,Nat.mul_one,Ur e2,wc,hj2,wj]
   exact ih
  ·rw [Dl _ _ _ (by omega)]
   by_cases h7:j=7
   ·subst h7
    have e:Ug l i 7=(l.length:Int) % 256:=by unfold Ug;rw [if_neg c1,if_pos rfl]
    have e8:IntKind.wrap .u8 (l.length:Int)=Ug l i 7:=by
     rw [e]
     simp only [IntKind.wrap,IntKind.signed,IntKind.bits]
     simp
    rw [Ej,if_pos (by omega),e8,wc,hj2,wj]
    exact ih
   ·have e:Ug l i j=0:=by unfold Ug;rw [if_neg c1,if_neg h7]
    rw [e] at hj2
    rw [Ej,if_neg (by omega),hj2,wj]
    exact ih
theorem Ajw {a0 a1:Int}{n:Nat}{c:List PV}{l:List Int}(hb:Ha l)(hl:l.length≤1099511627776)(hfu:100≤fu):∀(k i nn:Nat)(v:W4),i+k=l.length / 8→k+1<nn →
  Fd fu (Ae C0 Tryz.prog fu (d+2)) a0 a1 n c nn l.length (Ag .u8 l) ((8*i:Nat):Int) v.cells=some ⟨[.sc (.int .u64 (Aus (Avq (Rg (Aiq k v (l.drop (8*i))) (Nm l)))))],[]⟩
 |_,_,0,_,_,h=>by omega
 |k,i,nn+1,v,hi,hn=>by
  have step:=Ass (fu:=fu) (d:=d) (a0:=a0) (a1:=a1) (n:=n) (m0:=nn) (c:=c) hb hl (i:=8*i) (by omega) v 8 fu (by omega) (by omega)
  have e0:R6 ((pc l (8*i)).drop 8)=0:=by rw [List.drop_of_length_le (by simp [pc])];rfl
  rw [e0] at step
  rw [Lt,Ahz _ _ _ (by omega)]
  refine step.trans ?_
  cases k with
  |zero=>
   have e:i=l.length / 8:=by omega
   subst e
   rw [Az4]
   generalize hv:Rg v (Nm l)=u
   obtain ⟨nn',rfl⟩:∃nn',nn=nn'+1:=⟨nn-1,by omega⟩
   have r1:=Od (fu:=fu) (d:=d) ⟨u.a,u.b,Dv .u64 u.c 255,u.d⟩
   have r2:=Od (fu:=fu) (d:=d) (rnd ⟨u.a,u.b,Dv .u64 u.c 255,u.d⟩)
   have r3:=Od (fu:=fu) (d:=d) (rnd (rnd ⟨u.a,u.b,Dv .u64 u.c 255,u.d⟩))
   have r4:=Od (fu:=fu) (d:=d) (rnd (rnd (rnd ⟨u.a,u.b,Dv .u64 u.c 255,u.d⟩)))
   have eF:Aus (Avq (Rg (Aiq 0 v (l.drop (8*(l.length / 8)))) (Nm l)))=Aus (rnd (rnd (rnd (rnd ⟨u.a,u.b,Dv .u64 u.c 255,u.d⟩)))):=by
    rw [Aiq,hv]
    rfl
   rw [eF]
   clear eF
   generalize rnd ⟨u.a,u.b,Dv .u64 u.c 255,u.d⟩=U1 at r1 r2 r3 r4 ⊢
   generalize rnd U1=U2 at r2 r3 r4 ⊢
   generalize rnd U2=U3 at r3 r4 ⊢
   generalize rnd U3=U4 at r4 ⊢
   simp only [W4.cells] at r1 r2 r3 r4
   rw [Lt,Dl _ _ _ (by omega)]
   simp only [W4.cells,List.getD_cons_zero,List.getD_cons_succ,Amh,Gn]
   simp (disch:=first|omega|(simp;done)) only [Bx,Bn,List.take_succ_cons,List.take_zero,List.drop_succ_cons,List.drop_zero,List.drop_nil,List.cons_append,List.nil_append,List.append_nil,List.length_cons,List.length_nil,List.getD_cons_zero,List.getD_cons_succ,r1,r2,r3,r4,Nat.zero_add,Nat.reduceAdd,Nat.reduceLeDiff,List.append_eq]
   rfl
  |succ k=>
   have ih:=Ajw (a0:=a0) (a1:=a1) (n:=n) (c:=c) hb hl hfu k (i+1) nn (Rg v (R6 (pc l (8*i)))) (by omega) (by omega)
   rw [show 8*i+8=8*(i+1) by omega,ih,Azz (by omega)]
   simp only [Aiq,List.drop_drop]
   rw [show 8*(i+1)=8*i+8 by omega]
theorem Asi {l:List Int}(hb:Ha l)(hl:l.length≤1099511627776)(hfu:100≤fu)(hf:l.length<fu)(k0 k1:Int):Ae C0 Tryz.prog fu (d+3) P6 [.sc (.int .u64 k0),.sc (.int .u64 k1),.lst false 1 l.length (Ag .u8 l)]=some ⟨[.sc (.int .u64 (Az6 k0 k1 l))],[]⟩:=by
 rw [Z4]
 exact Ajw (fu:=fu) (d:=d) (a0:=k0) (a1:=k1) (n:=l.length) (c:=Ag .u8 l) hb hl hfu (l.length / 8) 0 fu (A17 k0 k1) (by omega) (by omega)
theorem Vw {l:List Int}(hb:Ha l)(hl:l.length≤1099511627776)(hfu:100≤fu)(hf:l.length<fu)(dom:Int):Ae C0 Tryz.prog fu (d+4) I7 [.sc (.int .i64 dom),.lst false 1 l.length (Ag .u8 l)]=some ⟨[.sc (.int .u64 (D3 dom l))],[]⟩:=by
 rw [Ze]
 have s:=Asi (fu:=fu) (d:=d) hb hl hfu hf (IntKind.wrap .u64 dom) 0
 simp only [Bx,s]
 rfl
theorem Ath {l:List Int}(hb:Ha l)(hl:l.length≤1099511627776)(hfu:100≤fu)(hf:l.length<fu)(key dom:Int):Ae C0 Tryz.prog fu (d+4) P3 [.sc (.int .u64 key),.sc (.int .i64 dom),.lst false 1 l.length (Ag .u8 l)]=some ⟨[.sc (.int .u64 (A0c key dom l))],[]⟩:=by
 rw [Aah]
 have s:=Asi (fu:=fu) (d:=d) hb hl hfu hf key (IntKind.wrap .u64 (1+IntKind.wrap .u64 dom))
 simp only [Bx,s]
 rfl
end
end
section
def C2 (w:Int)(k:Nat):Int:=IntKind.wrap .u8 (Dx .u64 w (56-8*(k:Int)))
def Bp (w:Int):List Int:=(List.range' 0 8).map (C2 w)
def A5 (ws:List Int):List Int:=ws.flatMap Bp
theorem Cc (w:Int):(Bp w).length=8:=rfl
section
variable {fu d:Nat} {call:Ak} {n:Nat} {c:List PV}
theorem Am4 {ws:List Int}{w:Int}{m0 l:Nat}{i k:Int}:∀(r j nn:Nat)(bs:List Int),8-j=r→r<nn→j≤8→bs.length+r≤34359738368 →
  Iw fu call n c m0 nn bs.length w l (Ag .u64 ws) k i j (Ag .u8 bs) =
   G6 fu call n c m0 (bs++(List.range' j (8-j)).map (C2 w)).length l (Ag .u64 ws) k (IntKind.wrap .i64 (i+1)) (Ag .u8 (bs++(List.range' j (8-j)).map (C2 w)))
 |r,j,0,bs,_,h,_,_=>by omega
 |0,j,nn+1,bs,hr,_,hj,_=>by
  have e:j=8:=by omega
  subst e
  rw [P0]
  simp (disch:=omega) only [Bx]
  simp
 |r+1,j,nn+1,bs,hr,hn,hj,hb=>by
  have ih:=Am4 (ws:=ws) (w:=w) (m0:=m0) (l:=l) (i:=i) (k:=k) r (j+1) nn (bs++[C2 w j]) (by omega) (by omega) (by omega) (by simp;omega)
  have e8:=Aj .u8 bs
  rw [P0]
  have hx:IntKind.wrap .u8 (Dx .u64 w (IntKind.wrap .i64 (56-IntKind.wrap .i64 (8*(j:Int)))))=C2 w j:=by
   rw [Aq (x:=8*(j:Int)) (by omega) (by omega),Aq (by omega) (by omega)]
   rfl
  have h0:0≤IntKind.wrap .i64 (56-IntKind.wrap .i64 (8*(j:Int))):=by
   rw [Aq (x:=8*(j:Int)) (by omega) (by omega),Aq (by omega) (by omega)]
   omega
  have hrange:List.range' j (8-j)=j::List.range' (j+1) (8-(j+1)):=by
   rw [show 8-j=(8-(j+1))+1 by omega]
   exact List.range'_succ
  simp (disch:=first|omega|exact h0) only [Bx,Nat.mul_one,hx,Gw,Fi,Aq (x:=(j:Int)+1)]
  rw [hrange]
  simp only [List.length_append,List.length_cons,List.length_nil,Nat.zero_add,List.append_assoc,List.map_cons,List.singleton_append] at ih ⊢
  exact ih
theorem Ahy {ws:List Int}(hl:ws.length≤1073741824)(hfu:100≤fu):∀(r:List Int)(i nn:Nat)(bs:List Int),ws.drop i=r→r.length<nn→bs.length=8*i →
  G6 fu call n c nn bs.length ws.length (Ag .u64 ws) ws.length i (Ag .u8 bs)=some ⟨[.own 1 (bs++A5 r).length (Ag .u8 (bs++A5 r))],[]⟩
 |r,i,0,_,_,h,_=>by omega
 |[],i,nn+1,bs,h,_,_=>by
  have:=drop_nil h
  have e8:=Aj .u8 bs
  rw [Qf]
  simp (disch:=omega) only [Bx,Nat.mul_one,Gw,A5,List.flatMap_nil,List.append_nil]
 |w::r,i,nn+1,bs,h,hn,hb=>by
  obtain ⟨h1,h2,h3⟩:=Cf h
  simp only [List.length_cons] at hn
  rw [Qf]
  simp (disch:=omega) only [Bx,Int.toNat_natCast,Nat.mul_one,Ur h2]
  rw [show (0:Int)=((0:Nat):Int) from rfl,Am4 8 0 fu bs rfl (by omega) (by omega) (by omega),Aq (by omega) (by omega)]
  have ih:=Ahy hl hfu r (i+1) nn (bs++Bp w) h3 (by omega) (by simp [Cc];omega)
  have e:bs++Bp w++A5 r=bs++A5 (w::r):=by simp [A5]
  rw [e] at ih
  exact ih
theorem R3 {ws:List Int}(hl:ws.length≤1073741824)(hfu:100≤fu)(hf:ws.length<fu):Ae C0 Tryz.prog fu (d+1) Gl [.lst false 1 ws.length (Ag .u64 ws)]=some ⟨[.own 1 (A5 ws).length (Ag .u8 (A5 ws))],[]⟩:=by
 rw [Agf]
 simp (disch:=omega) only [Bx,Aq,Int.mul_one]
 exact Ahy hl hfu ws 0 fu [] rfl hf rfl
theorem Ai4 {ws:List Int}{w:Int}{m0 i:Nat}(hw:ws[i]?=some w):∀(r nn:Nat)(j:Int)(bs:List Int),j=(r:Int)-1→r≤8→r<nn→bs.length+r≤34359738368 →
  F0 fu call n c m0 nn ws.length (Ag .u64 ws) bs.length i j (Ag .u8 bs) =
   Eo fu call n c m0 ws.length (Ag .u64 ws) (bs++(List.range' (8-r) r).map (C2 w)).length (IntKind.wrap .i64 (i+1)) (Ag .u8 (bs++(List.range' (8-r) r).map (C2 w)))
 |r,0,j,bs,_,_,h,_=>by omega
 |0,nn+1,j,bs,hr,_,_,_=>by
  rw [Jz]
  simp (disch:=omega) only [Bx]
  simp
 |r+1,nn+1,j,bs,hr,hle,hn,hb=>by
  have hi:=A2o hw
  have ih:=Ai4 (m0:=m0) hw r nn (j-1) (bs++[C2 w (8-(r+1))]) (by omega) (by omega) (by omega) (by simp;omega)
  have e8:=Aj .u8 bs
  have hx:IntKind.wrap .u8 (Dx .u64 w (IntKind.wrap .u64 (IntKind.wrap .i64 (8*j))))=C2 w (8-(r+1)):=by
   rw [Aq (by omega) (by omega),Bq (by omega) (by omega)]
   unfold C2
   rw [show 56-8*((8-(r+1):Nat):Int)=8*j by omega]
  have h0:0≤IntKind.wrap .u64 (IntKind.wrap .i64 (8*j)):=by
   rw [Aq (by omega) (by omega),Bq (by omega) (by omega)]
   omega
  have hrange:List.range' (8-(r+1)) (r+1)=(8-(r+1))::List.range' (8-r) r:=by
   rw [List.range'_succ,show 8-(r+1)+1=8-r by omega]
  rw [Jz]
  simp (disch:=first|omega|exact h0) only [Bx,Int.toNat_natCast,Nat.mul_one,Ur hw,hx,Gw,Fi,Aq (x:=j-1)]
  rw [hrange]
  simp only [List.length_append,List.length_cons,List.length_nil,Nat.zero_add,List.append_assoc,List.map_cons,List.singleton_append] at ih ⊢
  exact ih
theorem Adz {ws:List Int}(hl:ws.length≤1073741824)(hfu:100≤fu):∀(r:List Int)(i nn:Nat)(bs:List Int),ws.drop i=r→r.length<nn→bs.length=8*i →
  Eo fu call n c nn ws.length (Ag .u64 ws) bs.length i (Ag .u8 bs)=some ⟨[.own 1 (bs++A5 r).length (Ag .u8 (bs++A5 r))],[]⟩
 |r,i,0,_,_,h,_=>by omega
 |[],i,nn+1,bs,h,_,_=>by
  have:=drop_nil h
  have e8:=Aj .u8 bs
  rw [Js]
  simp (disch:=omega) only [Bx,Nat.mul_one,Gw,A5,List.flatMap_nil,List.append_nil]
 |w::r,i,nn+1,bs,h,hn,hb=>by
  obtain ⟨h1,h2,h3⟩:=Cf h
  simp only [List.length_cons] at hn
  rw [Js]
  simp (disch:=omega) only [Bx]
  rw [Ai4 h2 8 fu 7 bs rfl (by omega) (by omega) (by omega),Aq (by omega) (by omega)]
  have ih:=Adz hl hfu r (i+1) nn (bs++Bp w) h3 (by omega) (by simp [Cc];omega)
  have e:bs++Bp w++A5 r=bs++A5 (w::r):=by simp [A5]
  rw [e] at ih
  exact ih
theorem Jo {ws:List Int}(hl:ws.length≤1073741824)(hfu:100≤fu)(hf:ws.length<fu):Ae C0 Tryz.prog fu (d+1) Dm [.lst false 1 ws.length (Ag .u64 ws)]=some ⟨[.own 1 (A5 ws).length (Ag .u8 (A5 ws))],[]⟩:=by
 rw [Xj]
 exact Adz hl hfu ws 0 fu [] rfl hf rfl
end
abbrev Es (a b:Int):Int:=Xf .u64 (Ew .u64 a 8) (IntKind.wrap .u64 b)
def Abl (bs:List Int):Int:=bs.foldl Es 0
theorem A1c {q:Int}(h0:0≤q)(h1:q≤18446744073709551615):Es (q / 256) (IntKind.wrap .u8 q)=q:=by
 have e1:Ew .u64 (q / 256) 8=q / 256*256:=by
  unfold Ew
  have:((8:Int).toNat.min IntKind.u64.bits)=8:=by decide
  show IntKind.wrap .u64 (q / 256*2 ^ (min (8:Int).toNat IntKind.u64.bits))=_
  have h2:(2:Int) ^ (min (8:Int).toNat IntKind.u64.bits)=256:=by decide
  rw [h2,Bq (by omega) (by omega)]
 have e2:IntKind.wrap .u8 q=q % 256:=by
  simp only [IntKind.wrap,IntKind.signed,IntKind.bits]
  simp
 have e3:IntKind.wrap .u64 (q % 256)=q % 256:=Bq (by omega) (by omega)
 unfold Es
 rw [e1,e2,e3]
 obtain ⟨n,rfl⟩:=Int.eq_ofNat_of_zero_le h0
 have hn:n<18446744073709551616:=by omega
 have e4:(BitVec.ofInt 64 ((n:Int) / 256*256)).toNat=n / 256*256:=by
  rw [BitVec.toNat_ofInt]
  omega
 have e5:(BitVec.ofInt 64 ((n:Int) % 256)).toNat=n % 256:=by
  rw [BitVec.toNat_ofInt]
  omega
 have e6:n / 256*256 ||| n % 256=n:=by
  have:=Nat.shiftLeft_add_eq_or_of_lt (show n % 256<2 ^ 8 by omega) (n / 256)
  rw [Nat.shiftLeft_eq] at this
  rw [←this]
  omega
 unfold Xf
 show IntKind.wrap .u64 ((BitVec.ofInt 64 ((n:Int) / 256*256) ||| BitVec.ofInt 64 ((n:Int) % 256)).toNat:Int)=n
 rw [BitVec.toNat_or,e4,e5,e6,Bq (by omega) (by omega)]
theorem Aj0 {w:Int}(k:Nat)(hk:k<8):C2 w k=IntKind.wrap .u8 (w / 2 ^ (56-8*k)):=by
 unfold C2 Dx
 have e:(56-8*(k:Int)).toNat=56-8*k:=by omega
 rw [e,Nat.min_eq_left (by show 56-8*k≤64;omega),Int.fdiv_eq_ediv_of_nonneg _ (Int.le_of_lt (Int.pow_pos (by omega)))]
theorem Wr {w:Int}(h0:0≤w)(h1:w≤18446744073709551615):Abl (Bp w)=w:=by
 have st:∀(k:Nat) (D:Int),k<8→(2:Int) ^ (56-8*k)=D→0<D→Es (w / D / 256) (C2 w k)=w / D:=by
  intro k D hk hD hp
  rw [Aj0 k hk,hD]
  exact A1c (Int.ediv_nonneg h0 (Int.le_of_lt hp)) (Int.le_trans (Int.ediv_le_self _ h0) h1)
 have s0:=st 0 72057594037927936 (by omega) (by decide) (by omega)
 have s1:=st 1 281474976710656 (by omega) (by decide) (by omega)
 have s2:=st 2 1099511627776 (by omega) (by decide) (by omega)
 have s3:=st 3 4294967296 (by omega) (by decide) (by omega)
 have s4:=st 4 16777216 (by omega) (by decide) (by omega)
 have s5:=st 5 65536 (by omega) (by decide) (by omega)
 have s6:=st 6 256 (by omega) (by decide) (by omega)
 have s7:=st 7 1 (by omega) (by decide) (by omega)
 rw [show w / 72057594037927936 / 256=0 by omega] at s0
 rw [show w / 281474976710656 / 256=w / 72057594037927936 by omega] at s1
 rw [show w / 1099511627776 / 256=w / 281474976710656 by omega] at s2
 rw [show w / 4294967296 / 256=w / 1099511627776 by omega] at s3
 rw [show w / 16777216 / 256=w / 4294967296 by omega] at s4
 rw [show w / 65536 / 256=w / 16777216 by omega] at s5
 rw [show w / 256 / 256=w / 65536 by omega] at s6
 rw [show w / 1 / 256=w / 256 by omega,show w / 1=w by omega] at s7
 show Es (Es (Es (Es (Es (Es (Es (Es 0 (C2 w 0)) (C2 w 1)) (C2 w 2)) (C2 w 3)) (C2 w 4)) (C2 w 5)) (C2 w 6)) (C2 w 7)=w
 rw [s0,s1,s2,s3,s4,s5,s6,s7]
end
section
set_option maxRecDepth 100000
abbrev Rm:FuncId:=104
noncomputable def Fx (fu:Nat)(call:Ak)(a0:Int)(nn:Nat)(y0 y1 y2:Int)(y3 y4:List PV):Option A8:=C5 C0 Tryz.prog fu call 104 Tryz.f104 (B7 Tryz.f104) [.sc (.int .u64 a0)] [.r,.r,.r,.l,.r,.l] nn ⟨lk [(0,(.sc (.int .u64 y0))),(2,(.ptr 2 0)),(3,(.ptr 3 0)),(4,(.sc (.int .i64 y1))),(6,(.sc (.int .i64 y2)))],Gv [(2,(.ar false y3)),(3,(.ar false y4))]⟩
noncomputable def P2 (fu:Nat)(call:Ak)(a0:Int)(nn:Nat)(y0 y1:List PV):Option A8:=C5 C0 Tryz.prog fu call 104 Tryz.f104 (B7 Tryz.f104) [.sc (.int .u64 a0)] [.r,.r,.r,.r,.r] nn ⟨lk [(2,(.ptr 2 0)),(3,(.ptr 3 0))],Gv [(2,(.ar false y0)),(3,(.ar false y1))]⟩
noncomputable def P8 (fu:Nat)(call:Ak)(a0:Int)(nn:Nat)(y0:List PV):Option A8:=C5 C0 Tryz.prog fu call 104 Tryz.f104 (B7 Tryz.f104) [.sc (.int .u64 a0)] [.r,.r,.r,.r,.r,.r] nn ⟨lk [(2,(.ptr 2 0))],Gv [(2,(.ar false y0))]⟩
theorem Nd (fu:Nat)(call:Ak)(a0:Int)(nn:Nat)(y0 y1 y2:Int)(y3 y4:List PV):Fx fu call a0 (nn+1) y0 y1 y2 y3 y4=(Be (decide (y2<16)) (Aa (IntKind.wrap .i64 (4*y2)) fun x1=>Aa (IntKind.wrap .i64 (60-x1)) fun x2=>Ar (decide (0≤x2))<|Aa (Dx .u64 y0 x2) fun x3=>Aa (Dz .u64 x3 15) fun x4=>Aa (IntKind.wrap .i64 x4) fun x5=>Ar (decide (0≤y2)&&decide (y2<18))<|Ar (decide (0+Int.toNat y2*1+1≤List.length y4))<|Aa (Bn y4 [.sc (.int .i64 x5)] (0+Int.toNat y2*1)) fun x6=>Ar (decide (0≤y2)&&decide (y2<18))<|Af .i64 (List.getD x6 (0+Int.toNat y2*1) .top) fun x7=>Aa (IntKind.wrap .i64 (15-x7)) fun x8=>Aa (IntKind.wrap .i64 (y1+x8)) fun x9=>Aa (IntKind.wrap .i64 (y2+1)) fun B5=>Fx fu call a0 (nn) (y0) x9 B5 (y3) x6) (Aa (IntKind.wrap .i64 (Int.tdiv y1 16)) fun B9=>Ar (decide (17≤List.length y4))<|Aa (Bn y4 [.sc (.int .i64 B9)] 16) fun Cy=>Aa (Int.tmod y1 16) fun C7=>Ar (decide (18≤List.length Cy))<|Aa (Bn Cy [.sc (.int .i64 C7)] 17) fun Cr=>P2 fu call a0 (fu) (y3) Cr)):=by kernel_rfl
theorem Xp (fu:Nat)(call:Ak)(a0:Int)(nn:Nat)(hnn:0<nn)(y0 y1:List PV):P2 fu call a0 nn y0 y1=(Af .i64 (List.getD y1 0 .top) fun C3=>Af .i64 (List.getD y1 1 .top) fun Df=>Af .i64 (List.getD y1 2 .top) fun Ds=>Af .i64 (List.getD y1 3 .top) fun D2=>Af .i64 (List.getD y1 4 .top) fun D0=>Af .i64 (List.getD y1 5 .top) fun D6=>Af .i64 (List.getD y1 6 .top) fun F1=>Af .i64 (List.getD y1 7 .top) fun Ey=>Af .i64 (List.getD y1 8 .top) fun Fs=>Af .i64 (List.getD y1 9 .top) fun De=>Af .i64 (List.getD y1 10 .top) fun C9=>Af .i64 (List.getD y1 11 .top) fun Eu=>Af .i64 (List.getD y1 12 .top) fun F6=>Af .i64 (List.getD y1 13 .top) fun Ef=>Af .i64 (List.getD y1 14 .top) fun Hn=>Af .i64 (List.getD y1 15 .top) fun Hg=>Af .i64 (List.getD y1 16 .top) fun G3=>Af .i64 (List.getD y1 17 .top) fun Ie=>Ar (decide (18≤List.length y0))<|Aa (Bn y0 [.sc (.int .i64 C3),.sc (.int .i64 Df),.sc (.int .i64 Ds),.sc (.int .i64 D2),.sc (.int .i64 D0),.sc (.int .i64 D6),.sc (.int .i64 F1),.sc (.int .i64 Ey),.sc (.int .i64 Fs),.sc (.int .i64 De),.sc (.int .i64 C9),.sc (.int .i64 Eu),.sc (.int .i64 F6),.sc (.int .i64 Ef),.sc (.int .i64 Hn),.sc (.int .i64 Hg),.sc (.int .i64 G3),.sc (.int .i64 Ie)] 0) fun Hy=>P8 fu call a0 (fu) Hy):=by cases nn with|zero=>exact absurd hnn (Nat.lt_irrefl 0)|succ nn=>kernel_rfl
theorem Xo (fu:Nat)(call:Ak)(a0:Int)(nn:Nat)(hnn:0<nn)(y0:List PV):P8 fu call a0 nn y0=(Af .i64 (List.getD y0 0 .top) fun Ir=>Af .i64 (List.getD y0 1 .top) fun G4=>Af .i64 (List.getD y0 2 .top) fun Jr=>Af .i64 (List.getD y0 3 .top) fun Nb=>Af .i64 (List.getD y0 4 .top) fun Fq=>Af .i64 (List.getD y0 5 .top) fun Ih=>Af .i64 (List.getD y0 6 .top) fun Q8=>Af .i64 (List.getD y0 7 .top) fun Sk=>Af .i64 (List.getD y0 8 .top) fun Mj=>Af .i64 (List.getD y0 9 .top) fun Po=>Af .i64 (List.getD y0 10 .top) fun Of=>Af .i64 (List.getD y0 11 .top) fun Oy=>Af .i64 (List.getD y0 12 .top) fun Q2=>Af .i64 (List.getD y0 13 .top) fun Ra=>Af .i64 (List.getD y0 14 .top) fun Rj=>Af .i64 (List.getD y0 15 .top) fun Qc=>Af .i64 (List.getD y0 16 .top) fun Si=>Af .i64 (List.getD y0 17 .top) fun Tg=>some (A8.mk [.agg [.sc (.int .i64 Ir),.sc (.int .i64 G4),.sc (.int .i64 Jr),.sc (.int .i64 Nb),.sc (.int .i64 Fq),.sc (.int .i64 Ih),.sc (.int .i64 Q8),.sc (.int .i64 Sk),.sc (.int .i64 Mj),.sc (.int .i64 Po),.sc (.int .i64 Of),.sc (.int .i64 Oy),.sc (.int .i64 Q2),.sc (.int .i64 Ra),.sc (.int .i64 Rj),.sc (.int .i64 Qc),.sc (.int .i64 Si),.sc (.int .i64 Tg)]] [])):=by cases nn with|zero=>exact absurd hnn (Nat.lt_irrefl 0)|succ nn=>kernel_rfl
theorem Ab4 (fu d:Nat)(a0:Int):Ae C0 Tryz.prog fu (d+1) Rm [.sc (.int .u64 a0)]=(fun (call:Ak)=>Fx fu call a0 (fu) (a0) 0 0 ([.sc (.int .i64 0),.sc (.int .i64 0),.sc (.int .i64 0),.sc (.int .i64 0),.sc (.int .i64 0),.sc (.int .i64 0),.sc (.int .i64 0),.sc (.int .i64 0),.sc (.int .i64 0),.sc (.int .i64 0),.sc (.int .i64 0),.sc (.int .i64 0),.sc (.int .i64 0),.sc (.int .i64 0),.sc (.int .i64 0),.sc (.int .i64 0),.sc (.int .i64 0),.sc (.int .i64 0)]) ([.sc (.int .i64 0),.sc (.int .i64 0),.sc (.int .i64 0),.sc (.int .i64 0),.sc (.int .i64 0),.sc (.int .i64 0),.sc (.int .i64 0),.sc (.int .i64 0),.sc (.int .i64 0),.sc (.int .i64 0),.sc (.int .i64 0),.sc (.int .i64 0),.sc (.int .i64 0),.sc (.int .i64 0),.sc (.int .i64 0),.sc (.int .i64 0),.sc (.int .i64 0),.sc (.int .i64 0)])) (Ae C0 Tryz.prog fu d):=by kernel_rfl
abbrev X1:FuncId:=105
noncomputable def J4 (fu:Nat)(call:Ak)(a0 a1:Int)(a2 a3 a4:Int)(nn:Nat)(y0 y1:Int)(y2 y3 y4:Int):Option A8:=C5 C0 Tryz.prog fu call 105 Tryz.f105 (B7 Tryz.f105) [.sc (.int .i64 a0),.sc (.int .i64 a1),.sc (.int .i64 a2),.sc (.int .i64 a3),.sc (.int .u64 a4)] [.r,.r,.l,.r,.l] nn ⟨lk [(0,(.sc (.int .i64 y0))),(1,(.sc (.int .i64 y1))),(4,(.sc (.int .u64 y2))),(11,(.sc (.int .i64 y3))),(12,(.sc (.int .i64 y4)))],Gv []⟩
theorem Rl (fu:Nat)(call:Ak)(a0 a1:Int)(a2 a3 a4:Int)(nn:Nat)(y0 y1:Int)(y2 y3 y4:Int):J4 fu call a0 a1 a2 a3 a4 (nn+1) y0 y1 y2 y3 y4=(Be (decide (y4<y3)) (Aa (IntKind.wrap .u64 y0) fun x3=>Aa (IntKind.wrap .u64 y1) fun x4=>Aa (IntKind.wrap .u64 y4) fun x5=>Ah (call 108 [.lst false 1 4 [.sc (.int .u64 x3),.sc (.int .u64 x4),.sc (.int .u64 x5),.sc (.int .u64 y2)]]) fun x6 x7=>Ac x7<|Ab x6 fun x8 x9=>C8 1 x8 fun B5 B9=>Ac x9<|Ar (decide (0+B5*1≤List.length B9))<|Ah (call 107 [.sc (.int .i64 1),.lst false 1 B5 (List.take (B5*1) (List.drop 0 B9))]) fun Cy C7=>Ac C7<|Ab Cy fun Cr C3=>Af .u64 Cr fun Df=>Ac C3<|Aa (IntKind.wrap .i64 (y4+1)) fun Ds=>J4 fu call a0 a1 a2 a3 a4 (nn) (y0) (y1) Df (y3) Ds) (some (A8.mk [.sc (.int .u64 y2)] []))):=by kernel_rfl
theorem Aii (fu d:Nat)(a0 a1:Int)(a2 a3 a4:Int):Ae C0 Tryz.prog fu (d+1) X1 [.sc (.int .i64 a0),.sc (.int .i64 a1),.sc (.int .i64 a2),.sc (.int .i64 a3),.sc (.int .u64 a4)]=(fun (call:Ak)=>Aa (if 15<a3 then 15 else a3) fun x1=>Aa (if a2<0 then 0 else a2) fun x2=>J4 fu call a0 a1 a2 a3 a4 (fu) (a0) (a1) (a4) x1 x2) (Ae C0 Tryz.prog fu d):=by kernel_rfl
abbrev P9:FuncId:=106
theorem Z9 (fu d:Nat)(a0 a1_0:Int)(a1_1 a1_2:Int)(a1_3 a1_4:Int)(a1_5 a1_6:Int)(a1_7 A3j:Int)(A3b A1w:Int)(A1a A1f:Int)(A1v A1r:Int)(A1o A1q A1k:Int):Ae C0 Tryz.prog fu (d+1) P9 [.sc (.int .i64 a0),.agg [.sc (.int .u64 a1_0),.sc (.int .u64 a1_1),.sc (.int .u64 a1_2),.sc (.int .u64 a1_3),.sc (.int .u64 a1_4),.sc (.int .u64 a1_5),.sc (.int .u64 a1_6),.sc (.int .u64 a1_7),.sc (.int .u64 A3j),.sc (.int .u64 A3b),.sc (.int .u64 A1w),.sc (.int .u64 A1a),.sc (.int .u64 A1f),.sc (.int .u64 A1v),.sc (.int .u64 A1r),.sc (.int .u64 A1o),.sc (.int .u64 A1q),.sc (.int .u64 A1k)]]=(fun (call:Ak)=>Aa (IntKind.wrap .u64 a0) fun x1=>Ah (call 108 [.lst false 1 19 [.sc (.int .u64 x1),.sc (.int .u64 a1_0),.sc (.int .u64 a1_1),.sc (.int .u64 a1_2),.sc (.int .u64 a1_3),.sc (.int .u64 a1_4),.sc (.int .u64 a1_5),.sc (.int .u64 a1_6),.sc (.int .u64 a1_7),.sc (.int .u64 A3j),.sc (.int .u64 A3b),.sc (.int .u64 A1w),.sc (.int .u64 A1a),.sc (.int .u64 A1f),.sc (.int .u64 A1v),.sc (.int .u64 A1r),.sc (.int .u64 A1o),.sc (.int .u64 A1q),.sc (.int .u64 A1k)]]) fun x2 x3=>Ac x3<|Ab x2 fun x4 x5=>C8 1 x4 fun x6 x7=>Ac x5<|Ar (decide (0+x6*1≤List.length x7))<|Ah (call 107 [.sc (.int .i64 2),.lst false 1 x6 (List.take (x6*1) (List.drop 0 x7))]) fun x8 x9=>Ac x9<|Ab x8 fun B5 B9=>Af .u64 B5 fun Cy=>Ac B9<|some (A8.mk [.sc (.int .u64 Cy)] [])) (Ae C0 Tryz.prog fu d):=by kernel_rfl
abbrev Qh:FuncId:=84
noncomputable def Ed (fu:Nat)(call:Ak)(a0 a1:Int)(a2n:Nat)(a2:List PV)(nn:Nat)(y0:Int)(y1:Nat)(y2:List PV)(y3 y4:Int)(y5 y6:Int)(y7 y8:Int)(y9 Fu:Int)(Ka Ot:Int)(Uq y14:Int)(Zm Zl:Int)(y17 y18:Int)(y19 y20 y21:Int)(y22:List PV):Option A8:=C5 C0 Tryz.prog fu call 84 Tryz.f84 (B7 Tryz.f84) [.sc (.int .i64 a0),.sc (.int .u64 a1),.lst false 1 a2n a2] [.r,.r,.r,.l,.r,.l] nn ⟨lk [(0,(.sc (.int .i64 y0))),(2,(.lst false 1 y1 y2)),(8,(.ptr 8 0)),(15,(.agg [(.sc (.int .i64 y3)),(.sc (.int .i64 y4)),(.sc (.int .i64 y5)),(.sc (.int .i64 y6)),(.sc (.int .i64 y7)),(.sc (.int .i64 y8)),(.sc (.int .i64 y9)),(.sc (.int .i64 Fu)),(.sc (.int .i64 Ka)),(.sc (.int .i64 Ot)),(.sc (.int .i64 Uq)),(.sc (.int .i64 y14)),(.sc (.int .i64 Zm)),(.sc (.int .i64 Zl)),(.sc (.int .i64 y17)),(.sc (.int .i64 y18)),(.sc (.int .i64 y19)),(.sc (.int .i64 y20))])),(16,(.sc (.int .i64 y21)))],Gv [(8,(.ar false y22))]⟩
noncomputable def Oe (fu:Nat)(call:Ak)(a0 a1:Int)(a2n:Nat)(a2:List PV)(nn:Nat)(y0:Int)(y1:List PV):Option A8:=C5 C0 Tryz.prog fu call 84 Tryz.f84 (B7 Tryz.f84) [.sc (.int .i64 a0),.sc (.int .u64 a1),.lst false 1 a2n a2] [.r,.r,.r] nn ⟨lk [(0,(.sc (.int .i64 y0))),(8,(.ptr 8 0))],Gv [(8,(.ar false y1))]⟩
noncomputable def O5 (fu:Nat)(call:Ak)(a0 a1:Int)(a2n:Nat)(a2:List PV)(nn:Nat)(y0 y1:Int):Option A8:=C5 C0 Tryz.prog fu call 84 Tryz.f84 (B7 Tryz.f84) [.sc (.int .i64 a0),.sc (.int .u64 a1),.lst false 1 a2n a2] [.r,.r,.r,.r] nn ⟨lk [(6,(.sc (.int .u64 y0))),(7,(.sc (.int .i64 y1)))],Gv []⟩
theorem L7 (fu:Nat)(call:Ak)(a0 a1:Int)(a2n:Nat)(a2:List PV)(nn:Nat)(y0:Int)(y1:Nat)(y2:List PV)(y3 y4:Int)(y5 y6:Int)(y7 y8:Int)(y9 Fu:Int)(Ka Ot:Int)(Uq y14:Int)(Zm Zl:Int)(y17 y18:Int)(y19 y20 y21:Int)(y22:List PV):Ed fu call a0 a1 a2n a2 (nn+1) y0 y1 y2 y3 y4 y5 y6 y7 y8 y9 Fu Ka Ot Uq y14 Zm Zl y17 y18 y19 y20 y21 y22=(Be (decide (y21<18)) (Ar (decide (0≤y21)&&decide (y21<18)&&true)<|Af .i64 (List.getD [.sc (.int .i64 y3),.sc (.int .i64 y4),.sc (.int .i64 y5),.sc (.int .i64 y6),.sc (.int .i64 y7),.sc (.int .i64 y8),.sc (.int .i64 y9),.sc (.int .i64 Fu),.sc (.int .i64 Ka),.sc (.int .i64 Ot),.sc (.int .i64 Uq),.sc (.int .i64 y14),.sc (.int .i64 Zm),.sc (.int .i64 Zl),.sc (.int .i64 y17),.sc (.int .i64 y18),.sc (.int .i64 y19),.sc (.int .i64 y20)] (Int.toNat y21*1) .top) fun Uu=>Ar (decide (0≤y21)&&decide (y21<(↑y1:Int)))<|Af .u64 (List.getD y2 (Int.toNat y21*1) .top) fun Ux=>Ah (call 105 [.sc (.int .i64 y0),.sc (.int .i64 y21),.sc (.int .i64 Uu),.sc (.int .i64 15),.sc (.int .u64 Ux)]) fun X6 Xc=>Ac Xc<|Ab X6 fun Us Ut=>Af .u64 Us fun Tp=>Ac Ut<|Ar (decide (0≤y21)&&decide (y21<18))<|Ar (decide (0+Int.toNat y21*1+1≤List.length y22))<|Aa (Bn y22 [.sc (.int .u64 Tp)] (0+Int.toNat y21*1)) fun Tf=>Aa (IntKind.wrap .i64 (y21+1)) fun Y4=>Ed fu call a0 a1 a2n a2 (nn) (y0) (y1) (y2) (y3) (y4) (y5) (y6) (y7) (y8) (y9) (Fu) (Ka) (Ot) (Uq) (y14) (Zm) (Zl) (y17) (y18) (y19) (y20) Y4 Tf) (Oe fu call a0 a1 a2n a2 (fu) (y0) (y22))):=by kernel_rfl
theorem V3 (fu:Nat)(call:Ak)(a0 a1:Int)(a2n:Nat)(a2:List PV)(nn:Nat)(hnn:0<nn)(y0:Int)(y1:List PV):Oe fu call a0 a1 a2n a2 nn y0 y1=(Af .u64 (List.getD y1 0 .top) fun Vb=>Af .u64 (List.getD y1 1 .top) fun V7=>Af .u64 (List.getD y1 2 .top) fun Vi=>Af .u64 (List.getD y1 3 .top) fun Xe=>Af .u64 (List.getD y1 4 .top) fun Zc=>Af .u64 (List.getD y1 5 .top) fun Uw=>Af .u64 (List.getD y1 6 .top) fun Xb=>Af .u64 (List.getD y1 7 .top) fun x76=>Af .u64 (List.getD y1 8 .top) fun Xw=>Af .u64 (List.getD y1 9 .top) fun Zf=>Af .u64 (List.getD y1 10 .top) fun x79=>Af .u64 (List.getD y1 11 .top) fun x80=>Af .u64 (List.getD y1 12 .top) fun x81=>Af .u64 (List.getD y1 13 .top) fun x82=>Af .u64 (List.getD y1 14 .top) fun x83=>Af .u64 (List.getD y1 15 .top) fun x84=>Af .u64 (List.getD y1 16 .top) fun x85=>Af .u64 (List.getD y1 17 .top) fun x86=>Ah (call 106 [.sc (.int .i64 y0),.agg [.sc (.int .u64 Vb),.sc (.int .u64 V7),.sc (.int .u64 Vi),.sc (.int .u64 Xe),.sc (.int .u64 Zc),.sc (.int .u64 Uw),.sc (.int .u64 Xb),.sc (.int .u64 x76),.sc (.int .u64 Xw),.sc (.int .u64 Zf),.sc (.int .u64 x79),.sc (.int .u64 x80),.sc (.int .u64 x81),.sc (.int .u64 x82),.sc (.int .u64 x83),.sc (.int .u64 x84),.sc (.int .u64 x85),.sc (.int .u64 x86)]]) fun x87 x88=>Ac x88<|Ab x87 fun Uk x90=>Af .u64 Uk fun x91=>Ac x90<|O5 fu call a0 a1 a2n a2 (fu) x91 0):=by cases nn with|zero=>exact absurd hnn (Nat.lt_irrefl 0)|succ nn=>kernel_rfl
theorem U8 (fu:Nat)(call:Ak)(a0 a1:Int)(a2n:Nat)(a2:List PV)(nn:Nat)(hnn:0<nn)(y0 y1:Int):O5 fu call a0 a1 a2n a2 nn y0 y1=(some (A8.mk [.sc (.int .u64 y0),.sc (.int .i64 y1)] [])):=by cases nn with|zero=>exact absurd hnn (Nat.lt_irrefl 0)|succ nn=>kernel_rfl
theorem Aaf (fu d:Nat)(a0 a1:Int)(a2n:Nat)(a2:List PV):Ae C0 Tryz.prog fu (d+1) Qh [.sc (.int .i64 a0),.sc (.int .u64 a1),.lst false 1 a2n a2]=(fun (call:Ak)=>Be ((↑a2n:Int) != 18) (some (A8.mk [.sc (.int .u64 0),.sc (.int .i64 4)] [])) (Ah (call 104 [.sc (.int .u64 a1)]) fun x1 x2=>Ac x2<|Ab x1 fun x3 x4=>Co x3 fun x5=>Ab x5 fun x6 x7=>Af .i64 x6 fun x8=>Ab x7 fun x9 B5=>Af .i64 x9 fun B9=>Ab B5 fun Cy C7=>Af .i64 Cy fun Cr=>Ab C7 fun C3 Df=>Af .i64 C3 fun Ds=>Ab Df fun D2 D0=>Af .i64 D2 fun D6=>Ab D0 fun F1 Ey=>Af .i64 F1 fun Fs=>Ab Ey fun De C9=>Af .i64 De fun Eu=>Ab C9 fun F6 Ef=>Af .i64 F6 fun Hn=>Ab Ef fun Hg G3=>Af .i64 Hg fun Ie=>Ab G3 fun Hy Ir=>Af .i64 Hy fun G4=>Ab Ir fun Jr Nb=>Af .i64 Jr fun Fq=>Ab Nb fun Ih Q8=>Af .i64 Ih fun Sk=>Ab Q8 fun Mj Po=>Af .i64 Mj fun Of=>Ab Po fun Oy Q2=>Af .i64 Oy fun Ra=>Ab Q2 fun Rj Qc=>Af .i64 Rj fun Si=>Ab Qc fun Tg Sh=>Af .i64 Tg fun Lr=>Ab Sh fun Ui R0=>Af .i64 Ui fun Um=>Ab R0 fun Sf S9=>Af .i64 Sf fun Tx=>Ac S9<|Ac x4<|Ed fu call a0 a1 a2n a2 (fu) (a0) (a2n) (a2) x8 B9 Cr Ds D6 Fs Eu Hn Ie G4 Fq Sk Of Ra Si Lr Um Tx 0 ([.sc (.int .u64 0),.sc (.int .u64 0),.sc (.int .u64 0),.sc (.int .u64 0),.sc (.int .u64 0),.sc (.int .u64 0),.sc (.int .u64 0),.sc (.int .u64 0),.sc (.int .u64 0),.sc (.int .u64 0),.sc (.int .u64 0),.sc (.int .u64 0),.sc (.int .u64 0),.sc (.int .u64 0),.sc (.int .u64 0),.sc (.int .u64 0),.sc (.int .u64 0),.sc (.int .u64 0)]))) (Ae C0 Tryz.prog fu d):=by kernel_rfl
abbrev Vg:FuncId:=81
theorem Ahu (fu d:Nat)(a0:Int):Ae C0 Tryz.prog fu (d+1) Vg [.sc (.int .i64 a0)]=(fun (call:Ak)=>Be (decide (a0<0)) (some (A8.mk [.sc (.bool true)] [])) (some (A8.mk [.sc (.bool (decide (a0>4)))] []))) (Ae C0 Tryz.prog fu d):=by kernel_rfl
abbrev Qj:FuncId:=82
theorem Zt (fu d:Nat)(a0 a1:Int):Ae C0 Tryz.prog fu (d+1) Qj [.sc (.int .i64 a0),.sc (.int .i64 a1)]=(fun (call:Ak)=>Be (decide (a0<0)) (some (A8.mk [.sc (.bool true)] [])) (Ar (decide (0≤a1))<|Aa (Ew .i64 1 a1) fun x1=>some (A8.mk [.sc (.bool (decide (a0≥x1)))] []))) (Ae C0 Tryz.prog fu d):=by kernel_rfl
abbrev Tv:FuncId:=83
noncomputable def Gq (fu:Nat)(call:Ak)(a0n:Nat)(a0:List PV)(nn y0:Nat)(y1:List PV)(y2:Nat)(y3 y4:Int)(y5:List PV):Option A8:=C5 C0 Tryz.prog fu call 83 Tryz.f83 (B7 Tryz.f83) [.lst false 1 a0n a0] [.r,.r,.l,.r,.l] nn ⟨lk [(0,(.lst false 1 y0 y1)),(3,(.view 3 1 0 y2)),(12,(.sc (.int .i64 y3))),(13,(.sc (.int .i64 y4)))],Gv [(3,(.ar false y5))]⟩
noncomputable def H2 (fu:Nat)(call:Ak)(a0n:Nat)(a0:List PV)(m0 nn y0:Nat)(y1:List PV)(y2:Nat)(y3 y4 y5:Int)(y6:Nat)(y7:List PV)(y8 y9:Int)(Fu:List PV):Option A8:=C5 C0 Tryz.prog fu call 83 Tryz.f83 (B7 Tryz.f83) [.lst false 1 a0n a0] [.r,.r,.l,.r,.l,.i m0,.r,.r,.l,.l,.r,.r,.l] nn ⟨lk [(0,(.lst false 1 y0 y1)),(3,(.view 3 1 0 y2)),(4,(.sc (.int .i64 y3))),(12,(.sc (.int .i64 y4))),(13,(.sc (.int .i64 y5))),(22,(.lst false 1 y6 y7)),(23,(.sc (.int .i64 y8))),(24,(.sc (.int .i64 y9)))],Gv [(3,(.ar false Fu))]⟩
theorem Ph (fu:Nat)(call:Ak)(a0n:Nat)(a0:List PV)(nn y0:Nat)(y1:List PV)(y2:Nat)(y3 y4:Int)(y5:List PV):Gq fu call a0n a0 (nn+1) y0 y1 y2 y3 y4 y5=(Be (decide (y4<y3)) (Aa (IntKind.wrap .i64 (8*y4)) fun x2=>Aa (IntKind.wrap .i64 (8*y4)) fun x3=>Aa (IntKind.wrap .i64 (x3+8)) fun x4=>Ar (decide (0≤x2))<|Ar (decide (0≤x4))<|Ar (decide (Int.toNat x2≤Int.toNat x4)&&decide (Int.toNat x4≤y0))<|Aa (Int.toNat x4-Int.toNat x2) fun x5=>Aa (List.take (x5*1) (List.drop (Int.toNat x2*1) y1)) fun x6=>H2 fu call a0n a0 nn (fu) (y0) (y1) (y2) (y4) (y3) (y4) x5 x6 ((↑x5:Int)) 0 (y5)) (Ar (decide (y2*1≤List.length y5))<|some (A8.mk [.own 1 y2 (List.take (y2*1) y5)] []))):=by kernel_rfl
theorem O0 (fu:Nat)(call:Ak)(a0n:Nat)(a0:List PV)(m0 nn y0:Nat)(y1:List PV)(y2:Nat)(y3 y4 y5:Int)(y6:Nat)(y7:List PV)(y8 y9:Int)(Fu:List PV):H2 fu call a0n a0 m0 (nn+1) y0 y1 y2 y3 y4 y5 y6 y7 y8 y9 Fu=(Be (decide (y9<y8)) (Ar (decide (0≤y9)&&decide (y9<(↑y6:Int)))<|Af .u8 (List.getD y7 (Int.toNat y9*1) .top) fun x7=>Ar (decide (0≤y3)&&decide (y3<(↑y2:Int)))<|Af .u64 (List.getD Fu (0+Int.toNat y3*1) .top) fun x8=>Aa (Ew .u64 x8 8) fun x9=>Aa (IntKind.wrap .u64 x7) fun B5=>Aa (Xf .u64 x9 B5) fun B9=>Ar (decide (0≤y3)&&decide (y3<(↑y2:Int)))<|Ar (decide (0+Int.toNat y3*1+1≤List.length Fu))<|Aa (Bn Fu [.sc (.int .u64 B9)] (0+Int.toNat y3*1)) fun Cy=>Aa (IntKind.wrap .i64 (y9+1)) fun C7=>H2 fu call a0n a0 m0 (nn) (y0) (y1) (y2) (y3) (y4) (y5) (y6) (y7) (y8) C7 Cy) (Aa (IntKind.wrap .i64 (y5+1)) fun Cr=>Gq fu call a0n a0 (m0) (y0) (y1) (y2) (y4) Cr (Fu))):=by kernel_rfl
theorem Aeb (fu d a0n:Nat)(a0:List PV):Ae C0 Tryz.prog fu (d+1) Tv [.lst false 1 a0n a0]=(fun (call:Ak)=>Aa (IntKind.wrap .i64 (Int.tdiv (↑a0n:Int) 8)) fun x1=>Ar (decide (0≤x1)&&decide (x1≤x1)&&decide (x1*8≤1099511627776)&&decide (x1≤1099511627776))<|Gq fu call a0n a0 (fu) (a0n) (a0) (Int.toNat x1) ((↑(Int.toNat x1):Int)) 0 (Un (Int.toNat x1) [.sc (.int .u64 0)])) (Ae C0 Tryz.prog fu d):=by kernel_rfl
abbrev Rf:FuncId:=85
theorem Abs (fu d:Nat)(a0 a1 a2:Int):Ae C0 Tryz.prog fu (d+1) Rf [.sc (.int .i64 a0),.sc (.int .u64 a1),.sc (.int .u64 a2)]=(fun (call:Ak)=>Aa (IntKind.wrap .u64 a0) fun x1=>Ah (call 108 [.lst false 1 3 [.sc (.int .u64 x1),.sc (.int .u64 a1),.sc (.int .u64 a2)]]) fun x2 x3=>Ac x3<|Ab x2 fun x4 x5=>C8 1 x4 fun x6 x7=>Ac x5<|Ar (decide (0+x6*1≤List.length x7))<|Ah (call 107 [.sc (.int .i64 3),.lst false 1 x6 (List.take (x6*1) (List.drop 0 x7))]) fun x8 x9=>Ac x9<|Ab x8 fun B5 B9=>Af .u64 B5 fun Cy=>Ac B9<|some (A8.mk [.sc (.int .u64 Cy)] [])) (Ae C0 Tryz.prog fu d):=by kernel_rfl
abbrev Nn:FuncId:=123
theorem Xi (fu d:Nat)(a0_0 a0_1:Int):Ae C0 Tryz.prog fu (d+1) Nn [.agg [.sc (.int .i64 a0_0),.sc (.int .u64 a0_1)]]=(fun (call:Ak)=>Ah (call 81 [.sc (.int .i64 a0_0)]) fun x1 x2=>Ac x2<|Ab x1 fun x3 x4=>Bz x3 fun x5=>Ac x4<|Be x5 (some (A8.mk [.own 1 0 [],.sc (.int .i64 9)] [])) (Aa (IntKind.wrap .u8 a0_0) fun x6=>Ah (call 108 [.lst false 1 1 [.sc (.int .u64 a0_1)]]) fun x7 x8=>Ac x8<|Ab x7 fun x9 B5=>C8 1 x9 fun B9 Cy=>Ac B5<|Ar (decide (0+B9*1≤List.length Cy))<|Ar (decide (List.length (List.take (B9*1) (List.drop 0 Cy))=B9*1)&&decide ((1+B9)*1≤1099511627776)&&decide (1+B9≤1099511627776))<|Aa (1+B9) fun C7=>Aa ([.sc (.int .u8 x6)]++List.take (B9*1) (List.drop 0 Cy)) fun Cr=>Ar (decide (C7*1≤List.length Cr))<|some (A8.mk [.own 1 C7 (List.take (C7*1) Cr),.sc (.int .i64 0)] []))) (Ae C0 Tryz.prog fu d):=by kernel_rfl
abbrev Na:FuncId:=88
theorem Xm (fu d a0n:Nat)(a0:List PV):Ae C0 Tryz.prog fu (d+1) Na [.lst false 1 a0n a0]=(fun (call:Ak)=>Be ((↑a0n:Int) != 9) (some (A8.mk [.agg [.sc (.int .i64 0),.sc (.int .u64 0)],.sc (.int .i64 2)] [])) (Ar (decide (0<(↑a0n:Int)))<|Af .u8 (List.getD a0 0 .top) fun x1=>Aa (IntKind.wrap .i64 x1) fun x2=>Ah (call 81 [.sc (.int .i64 x2)]) fun x3 x4=>Ac x4<|Ab x3 fun x5 x6=>Bz x5 fun x7=>Ac x6<|Be x7 (some (A8.mk [.agg [.sc (.int .i64 0),.sc (.int .u64 0)],.sc (.int .i64 2)] [])) (Ar (decide (0<(↑a0n:Int)))<|Af .u8 (List.getD a0 0 .top) fun x8=>Aa (IntKind.wrap .i64 x8) fun x9=>Ar (decide (1≤a0n)&&decide (a0n≤a0n))<|Aa (a0n-1) fun B5=>Aa (List.take (B5*1) (List.drop 1 a0)) fun B9=>Ah (call 83 [.lst false 1 B5 B9]) fun Cy C7=>Ac C7<|Ab Cy fun Cr C3=>C8 1 Cr fun Df Ds=>Ac C3<|Ar (decide (0<(↑Df:Int)))<|Af .u64 (List.getD Ds 0 .top) fun D2=>some (A8.mk [.agg [.sc (.int .i64 x9),.sc (.int .u64 D2)],.sc (.int .i64 0)] [])))) (Ae C0 Tryz.prog fu d):=by kernel_rfl
abbrev Ia:FuncId:=112
theorem Ps (fu d:Nat)(a0_0:Int)(Tt:Nat)(a0_1:List PV)(a0_2n:Nat)(a0_2:List PV):Ae C0 Tryz.prog fu (d+1) Ia [.agg [.sc (.int .i64 a0_0),.lst false 1 Tt a0_1,.lst false 1 a0_2n a0_2]]=(fun (call:Ak)=>Ah (call 81 [.sc (.int .i64 (↑a0_2n:Int))]) fun x1 x2=>Ac x2<|Ab x1 fun x3 x4=>Bz x3 fun x5=>Ac x4<|Be x5 (some (A8.mk [.own 1 0 [],.sc (.int .i64 9)] [])) (Ah (call 82 [.sc (.int .i64 a0_0),.sc (.int .i64 (↑a0_2n:Int))]) fun x6 x7=>Ac x7<|Ab x6 fun x8 x9=>Bz x8 fun B5=>Ac x9<|Be B5 (some (A8.mk [.own 1 0 [],.sc (.int .i64 9)] [])) (Be ((↑Tt:Int) != 18) (some (A8.mk [.own 1 0 [],.sc (.int .i64 4)] [])) (Aa (IntKind.wrap .u8 a0_0) fun B9=>Aa (IntKind.wrap .u8 (↑a0_2n:Int)) fun Cy=>Ah (call 108 [.lst false 1 Tt a0_1]) fun C7 Cr=>Ac Cr<|Ab C7 fun C3 Df=>C8 1 C3 fun Ds D2=>Ac Df<|Ar (decide (0+Ds*1≤List.length D2))<|Ar (decide (List.length (List.take (Ds*1) (List.drop 0 D2))=Ds*1)&&decide ((2+Ds)*1≤1099511627776)&&decide (2+Ds≤1099511627776))<|Aa (2+Ds) fun D0=>Aa ([.sc (.int .u8 B9),.sc (.int .u8 Cy)]++List.take (Ds*1) (List.drop 0 D2)) fun D6=>Ah (call 108 [.lst false 1 a0_2n a0_2]) fun F1 Ey=>Ac Ey<|Ab F1 fun Fs De=>C8 1 Fs fun C9 Eu=>Ac De<|Ar (decide (0+C9*1≤List.length Eu))<|Ar (decide (D0*1≤List.length D6)&&decide (List.length (List.take (C9*1) (List.drop 0 Eu))=C9*1)&&decide ((D0+C9)*1≤1099511627776)&&decide (D0+C9≤1099511627776))<|Aa (D0+C9) fun F6=>Aa (List.take (D0*1) D6++List.take (C9*1) (List.drop 0 Eu)) fun Ef=>Ar (decide (F6*1≤List.length Ef))<|some (A8.mk [.own 1 F6 (List.take (F6*1) Ef),.sc (.int .i64 0)] []))))) (Ae C0 Tryz.prog fu d):=by kernel_rfl
abbrev H6:FuncId:=55
theorem Pr (fu d a0n:Nat)(a0:List PV):Ae C0 Tryz.prog fu (d+1) H6 [.lst false 1 a0n a0]=(fun (call:Ak)=>Be (decide ((↑a0n:Int)<2)) (some (A8.mk [.agg [.sc (.int .i64 0),.own 1 0 [],.own 1 0 []],.sc (.int .i64 2)] [])) (Ar (decide (0<(↑a0n:Int)))<|Af .u8 (List.getD a0 0 .top) fun x1=>Aa (IntKind.wrap .i64 x1) fun x2=>Ar (decide (1<(↑a0n:Int)))<|Af .u8 (List.getD a0 1 .top) fun x3=>Aa (IntKind.wrap .i64 x3) fun x4=>Ah (call 81 [.sc (.int .i64 x4)]) fun x5 x6=>Ac x6<|Ab x5 fun x7 x8=>Bz x7 fun x9=>Ac x8<|Be x9 (some (A8.mk [.agg [.sc (.int .i64 0),.own 1 0 [],.own 1 0 []],.sc (.int .i64 2)] [])) (Ah (call 82 [.sc (.int .i64 x2),.sc (.int .i64 x4)]) fun B5 B9=>Ac B9<|Ab B5 fun Cy C7=>Bz Cy fun Cr=>Ac C7<|Be Cr (some (A8.mk [.agg [.sc (.int .i64 0),.own 1 0 [],.own 1 0 []],.sc (.int .i64 2)] [])) (Aa (IntKind.wrap .i64 (18+x4)) fun C3=>Aa (IntKind.wrap .i64 (8*C3)) fun Df=>Aa (IntKind.wrap .i64 (2+Df)) fun Ds=>Be ((↑a0n:Int) != Ds) (some (A8.mk [.agg [.sc (.int .i64 0),.own 1 0 [],.own 1 0 []],.sc (.int .i64 2)] [])) (Ar (decide (146≤a0n))<|Aa (List.take 144 (List.drop 2 a0)) fun D2=>Ah (call 83 [.lst false 1 144 D2]) fun D0 D6=>Ac D6<|Ab D0 fun F1 Ey=>C8 1 F1 fun Fs De=>Ac Ey<|Ar (decide (146≤a0n)&&decide (a0n≤a0n))<|Aa (a0n-146) fun C9=>Aa (List.take (C9*1) (List.drop 146 a0)) fun Eu=>Ah (call 83 [.lst false 1 C9 Eu]) fun F6 Ef=>Ac Ef<|Ab F6 fun Hn Hg=>C8 1 Hn fun G3 Ie=>Ac Hg<|Ar (decide (Fs*1≤List.length De))<|Ar (decide (G3*1≤List.length Ie))<|some (A8.mk [.agg [.sc (.int .i64 x2),.own 1 Fs (List.take (Fs*1) De),.own 1 G3 (List.take (G3*1) Ie)],.sc (.int .i64 0)] [])))))) (Ae C0 Tryz.prog fu d):=by kernel_rfl
abbrev R5:FuncId:=56
noncomputable def Fy (fu:Nat)(call:Ak)(a0_0 a0_1:Int)(a1 Nq:Int)(Hp:Nat)(Qw:List PV)(Hr:Nat)(R1:List PV)(nn:Nat)(y0:Int)(y1:Nat)(y2:List PV)(y3 y4:Int)(y5 y6 y7:Int)(y8:Nat)(y9:List PV)(Fu:Nat)(Ka:List PV):Option A8:=C5 C0 Tryz.prog fu call 56 Tryz.f56 (B7 Tryz.f56) [.agg [.sc (.int .i64 a0_0),.sc (.int .u64 a0_1)],.sc (.int .u64 a1),.agg [.sc (.int .i64 Nq),.lst false 1 Hp Qw,.lst false 1 Hr R1]] [.r,.r,.r,.r,.r,.l,.r,.l] nn ⟨lk [(3,(.ptr 3 0)),(5,(.ptr 5 0)),(7,(.sc (.int .u64 y0))),(46,(.lst false 1 y1 y2)),(47,(.sc (.int .i64 y3))),(48,(.sc (.int .i64 y4)))],Gv [(3,(.st [(.sc (.int .i64 y5)),(.sc (.int .u64 y6))])),(5,(.st [(.sc (.int .i64 y7)),(.lst false 1 y8 y9),(.lst false 1 Fu Ka)]))]⟩
theorem Nk (fu:Nat)(call:Ak)(a0_0 a0_1:Int)(a1 Nq:Int)(Hp:Nat)(Qw:List PV)(Hr:Nat)(R1:List PV)(nn:Nat)(y0:Int)(y1:Nat)(y2:List PV)(y3 y4:Int)(y5 y6 y7:Int)(y8:Nat)(y9:List PV)(Fu:Nat)(Ka:List PV):Fy fu call a0_0 a0_1 a1 Nq Hp Qw Hr R1 (nn+1) y0 y1 y2 y3 y4 y5 y6 y7 y8 y9 Fu Ka=(Be (decide (y4<y3)) (Ar (decide (0≤y4)&&decide (y4<(↑y1:Int)))<|Af .u64 (List.getD y2 (Int.toNat y4*1) .top) fun D0=>Ar (decide (0≤y4))<|Aa (Dx .i64 y7 y4) fun D6=>Aa (Dz .i64 D6 1) fun F1=>Be (F1==0) (Aa (IntKind.wrap .i64 (y4+1)) fun Ey=>Ah (call 85 [.sc (.int .i64 Ey),.sc (.int .u64 y0),.sc (.int .u64 D0)]) fun Fs De=>Ac De<|Ab Fs fun C9 Eu=>Af .u64 C9 fun F6=>Ac Eu<|Aa (IntKind.wrap .i64 (y4+1)) fun Ef=>Fy fu call a0_0 a0_1 a1 Nq Hp Qw Hr R1 (nn) F6 (y1) (y2) (y3) Ef (y5) (y6) (y7) (y8) (y9) (Fu) (Ka)) (Aa (IntKind.wrap .i64 (y4+1)) fun Hn=>Ah (call 85 [.sc (.int .i64 Hn),.sc (.int .u64 D0),.sc (.int .u64 y0)]) fun Hg G3=>Ac G3<|Ab Hg fun Ie Hy=>Af .u64 Ie fun Ir=>Ac Hy<|Aa (IntKind.wrap .i64 (y4+1)) fun G4=>Fy fu call a0_0 a0_1 a1 Nq Hp Qw Hr R1 (nn) Ir (y1) (y2) (y3) G4 (y5) (y6) (y7) (y8) (y9) (Fu) (Ka))) (Be (y0 != y6) (some (A8.mk [.sc (.int .i64 15)] [])) (some (A8.mk [.sc (.int .i64 0)] [])))):=by kernel_rfl
theorem Acp (fu d:Nat)(a0_0 a0_1:Int)(a1 Nq:Int)(Hp:Nat)(Qw:List PV)(Hr:Nat)(R1:List PV):Ae C0 Tryz.prog fu (d+1) R5 [.agg [.sc (.int .i64 a0_0),.sc (.int .u64 a0_1)],.sc (.int .u64 a1),.agg [.sc (.int .i64 Nq),.lst false 1 Hp Qw,.lst false 1 Hr R1]]=(fun (call:Ak)=>Ah (call 81 [.sc (.int .i64 a0_0)]) fun x1 x2=>Ac x2<|Ab x1 fun x3 x4=>Bz x3 fun x5=>Ac x4<|Be x5 (some (A8.mk [.sc (.int .i64 9)] [])) (Ah (call 82 [.sc (.int .i64 Nq),.sc (.int .i64 a0_0)]) fun x6 x7=>Ac x7<|Ab x6 fun x8 x9=>Bz x8 fun B5=>Ac x9<|Be B5 (some (A8.mk [.sc (.int .i64 9)] [])) (Be ((↑Hp:Int) != 18) (some (A8.mk [.sc (.int .i64 4)] [])) (Be ((↑Hr:Int) != a0_0) (some (A8.mk [.sc (.int .i64 4)] [])) (Ah (call 84 [.sc (.int .i64 Nq),.sc (.int .u64 a1),.lst false 1 Hp Qw]) fun B9 Cy=>Ac Cy<|Ab B9 fun C7 Cr=>Af .u64 C7 fun C3=>Ab Cr fun Df Ds=>Af .i64 Df fun D2=>Ac Ds<|Be (D2 != 0) (some (A8.mk [.sc (.int .i64 D2)] [])) (Fy fu call a0_0 a0_1 a1 Nq Hp Qw Hr R1 (fu) C3 (Hr) (R1) ((↑Hr:Int)) 0 (a0_0) (a0_1) (Nq) (Hp) (Qw) (Hr) (R1))))))) (Ae C0 Tryz.prog fu d):=by kernel_rfl
end
section
theorem Ay4 {a m:Int}(h0:0≤m)(h1:m≤18446744073709551615):0≤Dz .u64 a m∧Dz .u64 a m≤m:=by
 have hle:(BitVec.ofInt 64 a &&& BitVec.ofInt 64 m).toNat≤m.toNat:=by
  rw [BitVec.toNat_and]
  refine Nat.le_trans Nat.and_le_right ?_
  rw [BitVec.toNat_ofInt]
  omega
 have:Dz .u64 a m=((BitVec.ofInt 64 a &&& BitVec.ofInt 64 m).toNat:Int):=by
  unfold Dz
  exact Bq (by omega) (by show ((BitVec.ofInt 64 a &&& BitVec.ofInt 64 m).toNat:Int)≤_;omega)
 rw [this]
 omega
theorem Vj (k:IntKind)(l:List Int)(i:Nat)(x:Int):(Ag k l).set i (.sc (.int k x))=Ag k (l.set i x):=by
 induction l generalizing i with
 |nil=>rfl
 |cons a l ih=>
  cases i with
  |zero=>rfl
  |succ i=>
   show (PV.sc (.int k a)::Ag k l).set (i+1) _=PV.sc (.int k a)::Ag k (l.set i x)
   rw [List.set_cons_succ,ih]
theorem Ao0 (w:Int)(k:Nat):0≤C2 w k∧C2 w k≤255:=by
 unfold C2
 simp only [IntKind.wrap,IntKind.signed,IntKind.bits]
 simp
 omega
theorem Wo (w:Int):Ha (Bp w):=by
 intro x hx
 obtain ⟨k,_,rfl⟩:=List.mem_map.1 hx
 exact Ao0 w k
theorem Rk (ws:List Int):Ha (A5 ws):=by
 intro x hx
 obtain ⟨w,_,hx⟩:=List.mem_flatMap.1 hx
 exact Wo w x hx
theorem Cm (ws:List Int):(A5 ws).length=8*ws.length:=by
 induction ws with
 |nil=>rfl
 |cons w ws ih=>
  show (Bp w++A5 ws).length=_
  rw [List.length_append,ih,Cc,List.length_cons]
  omega
def F7 (m:Int)(k:Nat):Int:=IntKind.wrap .i64 (Dz .u64 (Dx .u64 m (60-4*(k:Int))) 15)
theorem P7 (m:Int)(k:Nat):0≤F7 m k∧F7 m k≤15:=by
 have:=Ay4 (a:=Dx .u64 m (60-4*(k:Int))) (m:=15) (by omega) (by omega)
 unfold F7
 rw [Aq (by omega) (by omega)]
 exact this
def I0 (m:Int):Nat→Int
 |0=>0
 |k+1=>I0 m k+(15-F7 m k)
theorem Jb (m:Int):∀k,0≤I0 m k∧I0 m k≤15*k
 |0=>by simp [I0]
 |k+1=>by
  have h1:=Jb m k
  have h2:=P7 m k
  simp only [I0]
  omega
def dgs (m:Int):List Int:=(List.range 16).map (F7 m)++[I0 m 16 / 16,I0 m 16 % 16]
def dg (m:Int)(k:Nat):Int:=(dgs m).getD k 0
theorem As5 (m:Int):(dgs m).length=18:=rfl
theorem A0u {m x:Int}(h:x∈dgs m):0≤x∧x≤15:=by
 have hs:=Jb m 16
 unfold dgs at h
 rcases List.mem_append.1 h with h|h
 ·obtain ⟨k,_,rfl⟩:=List.mem_map.1 h
  exact P7 m k
 ·simp at h
  rcases h with rfl|rfl<;>omega
theorem Wl (m:Int)(k:Nat):0≤dg m k∧dg m k≤15:=by
 unfold dg
 rw [List.getD_eq_getElem?_getD]
 cases h:(dgs m)[k]? with
 |none=>simp
 |some x=>exact A0u (List.mem_of_getElem? h)
def dl (m:Int)(i:Nat):List Int:=(List.range i).map (F7 m)++List.replicate (18-i) 0
theorem Arj (m:Int){i:Nat}(h:i≤18):(dl m i).length=18:=by simp [dl];omega
theorem A3n (m:Int){i:Nat}(h:i<18):(dl m (i+1))[i]?=some (F7 m i):=by
 unfold dl
 rw [List.getElem?_append_left (by simp)]
 simp
theorem A2l (m:Int){i:Nat}(h:i<18):(dl m i).set i (F7 m i)=dl m (i+1):=by
 unfold dl
 rw [List.set_append_right _ _ (by simp),List.length_map,List.length_range,Nat.sub_self,show 18-i=(18-(i+1))+1 by omega,List.replicate_succ,List.set_cons_zero,List.range_succ,List.map_append,List.append_assoc]
 rfl
def Sd (leaf chain:Int):Nat→Int→Int→Int
 |0,_,x=>x
 |k+1,p,x=>Sd leaf chain k (p+1) (D3 1 (A5 [IntKind.wrap .u64 leaf,IntKind.wrap .u64 chain,IntKind.wrap .u64 p,x]))
theorem Anl (leaf chain:Int):∀(k j:Nat)(p x:Int),Sd leaf chain (k+j) p x=Sd leaf chain j (p+k) (Sd leaf chain k p x)
 |0,j,p,x=>by simp [Sd]
 |k+1,j,p,x=>by
  rw [show k+1+j=(k+j)+1 by omega]
  simp only [Sd]
  rw [Anl leaf chain k j]
  congr 1
  omega
def Adk (leaf:Int)(E:List Int):Int:=D3 2 (A5 (IntKind.wrap .u64 leaf::E))
def Xt (leaf m:Int)(s:List Int)(k:Nat):Int:=Sd leaf k (15-dg m k).toNat (dg m k) (s.getD k 0)
def Afn (leaf m:Int)(s:List Int):List Int:=(List.range 18).map (Xt leaf m s)
def Aia (leaf m:Int)(s:List Int):Int:=Adk leaf (Afn leaf m s)
def el (leaf m:Int)(s:List Int)(i:Nat):List Int:=(List.range i).map (Xt leaf m s)++List.replicate (18-i) 0
theorem Ay9 (leaf m:Int)(s:List Int){i:Nat}(h:i≤18):(el leaf m s i).length=18:=by simp [el];omega
theorem A1z (leaf m:Int)(s:List Int){i:Nat}(h:i<18):(el leaf m s i).set i (Xt leaf m s i)=el leaf m s (i+1):=by
 unfold el
 rw [List.set_append_right _ _ (by simp),List.length_map,List.length_range,Nat.sub_self,show 18-i=(18-(i+1))+1 by omega,List.replicate_succ,List.set_cons_zero,List.range_succ,List.map_append,List.append_assoc]
 rfl
theorem A3m (leaf m:Int)(s:List Int):el leaf m s 18=Afn leaf m s:=by
 unfold el Afn
 simp
end
section
set_option maxRecDepth 20000
section
variable {fu d:Nat}
theorem Ayo {ws:List Int}(hl:ws.length≤100)(hfu:1000≤fu)(dom:Int):Ae C0 Tryz.prog fu (d+5) Qt [.sc (.int .i64 dom),.lst false 1 (A5 ws).length (Ag .u8 (A5 ws))]=some ⟨[.sc (.int .u64 (D3 dom (A5 ws)))],[]⟩:=
 As9 (Rk ws) (by rw [Cm];omega) (by omega) (by rw [Cm];omega) dom
theorem Ang {leaf chain:Int}{a0 a1 a2 a3 a4:Int}(hfu:1000≤fu){t:Int}(ht:t≤15):∀(k nn:Nat)(p x:Int),(k:Int)=t-p→0≤p→k<nn →
  J4 fu (Ae C0 Tryz.prog fu (d+5)) a0 a1 a2 a3 a4 nn leaf chain x t p=some ⟨[.sc (.int .u64 (Sd leaf chain k p x))],[]⟩
 |_,0,_,_,_,_,h=>by omega
 |0,nn+1,p,x,hk,hp,hn=>by
  rw [Rl,Dl _ _ _ (by omega)]
  rfl
 |k+1,nn+1,p,x,hk,hp,hn=>by
  have w:IntKind.wrap .i64 (p+1)=p+1:=Aq (by omega) (by omega)
  have wd:Ae C0 Tryz.prog fu (d+5) Gl [.lst false 1 4 [.sc (.int .u64 (IntKind.wrap .u64 leaf)),.sc (.int .u64 (IntKind.wrap .u64 chain)),.sc (.int .u64 (IntKind.wrap .u64 p)),.sc (.int .u64 x)]]=_:=R3 (ws:=[IntKind.wrap .u64 leaf,IntKind.wrap .u64 chain,IntKind.wrap .u64 p,x]) (by simp) (by omega) (by simp;omega)
  have hs:=Ayo (fu:=fu) (d:=d) (ws:=[IntKind.wrap .u64 leaf,IntKind.wrap .u64 chain,IntKind.wrap .u64 p,x]) (by simp) hfu 1
  have ih:=Ang (leaf:=leaf) (chain:=chain) (a0:=a0) (a1:=a1) (a2:=a2) (a3:=a3) (a4:=a4) hfu ht k nn (p+1) (D3 1 (A5 [IntKind.wrap .u64 leaf,IntKind.wrap .u64 chain,IntKind.wrap .u64 p,x])) (by omega) (by omega) (by omega)
  have L:=Aj .u8 (A5 [IntKind.wrap .u64 leaf,IntKind.wrap .u64 chain,IntKind.wrap .u64 p,x])
  have eR:Sd leaf chain (k+1) p x=Sd leaf chain k (p+1) (D3 1 (A5 [IntKind.wrap .u64 leaf,IntKind.wrap .u64 chain,IntKind.wrap .u64 p,x])):=rfl
  rw [eR]
  generalize A5 [IntKind.wrap .u64 leaf,IntKind.wrap .u64 chain,IntKind.wrap .u64 p,x]=W at wd hs ih L ⊢
  rw [Rl]
  simp (disch:=omega) only [Bx,wd,Nat.mul_one,Nat.zero_add,List.drop_zero,Gw,L,hs,w]
  exact ih
theorem A2r {leaf chain:Int}(hfu:1000≤fu)(k:Nat)(f t x:Int)(hk:(k:Int)=t-f) (h0:0≤f)(h1:t≤15):Ae C0 Tryz.prog fu (d+6) X1 [.sc (.int .i64 leaf),.sc (.int .i64 chain),.sc (.int .i64 f),.sc (.int .i64 t),.sc (.int .u64 x)]=some ⟨[.sc (.int .u64 (Sd leaf chain k f x))],[]⟩:=by
 rw [Aii]
 simp only [Gn]
 rw [if_neg (by omega),if_neg (by omega)]
 exact Ang hfu h1 k fu f x hk h0 (by omega)
theorem Adg {call:Ak}{a0 m:Int}{y3:List PV}:∀(k i nn:Nat),i+k=16→k<nn →
  Fx fu call a0 nn m (I0 m i) i y3 (Ag .i64 (dl m i))=Fx fu call a0 (nn-k) m (I0 m 16) 16 y3 (Ag .i64 (dl m 16))
 |_,_,0,_,h=>by omega
 |0,i,nn+1,hi,hn=>by
  have e:i=16:=by omega
  subst e
  rfl
 |k+1,i,nn+1,hi,hn=>by
  have ih:=Adg (call:=call) (a0:=a0) (y3:=y3) (m:=m) k (i+1) nn (by omega) (by omega)
  have hb:=P7 m i
  have hs:=Jb m i
  have w:IntKind.wrap .i64 ((i:Int)+1)=((i+1:Nat):Int):=by rw [Aq (by omega) (by omega)];omega
  have w4:IntKind.wrap .i64 (4*(i:Int))=4*(i:Int):=Aq (by omega) (by omega)
  have w60:IntKind.wrap .i64 (60-4*(i:Int))=60-4*(i:Int):=Aq (by omega) (by omega)
  have hd:IntKind.wrap .i64 (Dz .u64 (Dx .u64 m (60-4*(i:Int))) 15)=F7 m i:=rfl
  have w15:IntKind.wrap .i64 (15-F7 m i)=15-F7 m i:=Aq (by omega) (by omega)
  have ws:IntKind.wrap .i64 (I0 m i+(15-F7 m i))=I0 m (i+1):=by rw [Aq (by omega) (by omega)];rfl
  have L:(Ag .i64 (dl m i)).length=18:=by rw [Aj,Arj m (by omega)]
  have hset:Bn (Ag .i64 (dl m i)) [.sc (.int .i64 (F7 m i))] i=Ag .i64 (dl m (i+1)):=by
   rw [Iy (by omega),Vj,A2l m (by omega)]
  have hat:(Ag .i64 (dl m (i+1))).getD i .top=.sc (.int .i64 (F7 m i)):=Ur (A3n m (by omega))
  rw [show nn+1-(k+1)=nn-k by omega,←ih,Nd]
  simp (disch:=omega) only [Bx,Int.toNat_natCast,Nat.mul_one,Nat.zero_add,w,w4,w60,hd,L,hset,hat,w15,ws]
theorem Aub (hfu:1000≤fu)(m:Int):Ae C0 Tryz.prog fu (d+1) Rm [.sc (.int .u64 m)]=some ⟨[.agg (Ag .i64 (dgs m))],[]⟩:=by
 rw [Ab4]
 have lp:=Adg (fu:=fu) (call:=Ae C0 Tryz.prog fu d) (a0:=m) (m:=m) (y3:=Ag .i64 (List.replicate 18 0)) 16 0 fu (by omega) (by omega)
 obtain ⟨f',hf'⟩:∃f',fu-16=f'+1:=⟨fu-17,by omega⟩
 rw [hf'] at lp
 refine Eq.trans lp ?_
 have hs:=Jb m 16
 have wq:IntKind.wrap .i64 (Int.tdiv (I0 m 16) 16)=I0 m 16 / 16:=by
  rw [Int.tdiv_eq_ediv_of_nonneg (by omega),Aq (by omega) (by omega)]
 have wm:Int.tmod (I0 m 16) 16=I0 m 16 % 16:=Int.tmod_eq_emod_of_nonneg (by omega)
 have L:(Ag .i64 (dl m 16)).length=18:=by rw [Aj,Arj m (by omega)]
 have h1:Bn (Ag .i64 (dl m 16)) [.sc (.int .i64 (I0 m 16 / 16))] 16=Ag .i64 ((dl m 16).set 16 (I0 m 16 / 16)):=by
  rw [Iy (by omega),Vj]
 have L2:(Ag .i64 ((dl m 16).set 16 (I0 m 16 / 16))).length=18:=by rw [Aj,List.length_set,Arj m (by omega)]
 have h2:Bn (Ag .i64 ((dl m 16).set 16 (I0 m 16 / 16))) [.sc (.int .i64 (I0 m 16 % 16))] 17=Ag .i64 (dgs m):=by
  rw [Iy (by omega),Vj]
  rfl
 rw [Nd,Dl _ _ _ (by omega)]
 simp only [Gn,wq,wm,L,h1,L2,h2]
 generalize hq:I0 m 16 / 16=q at *
 generalize hr:I0 m 16 % 16=r at *
 have hD:Ag .i64 (dgs m)=[.sc (.int .i64 (F7 m 0)),.sc (.int .i64 (F7 m 1)),.sc (.int .i64 (F7 m 2)),.sc (.int .i64 (F7 m 3)),.sc (.int .i64 (F7 m 4)),.sc (.int .i64 (F7 m 5)),.sc (.int .i64 (F7 m 6)),.sc (.int .i64 (F7 m 7)),.sc (.int .i64 (F7 m 8)),.sc (.int .i64 (F7 m 9)),.sc (.int .i64 (F7 m 10)),.sc (.int .i64 (F7 m 11)),.sc (.int .i64 (F7 m 12)),.sc (.int .i64 (F7 m 13)),.sc (.int .i64 (F7 m 14)),.sc (.int .i64 (F7 m 15)),.sc (.int .i64 q),.sc (.int .i64 r)]:=by
  unfold dgs
  rw [hq,hr]
  rfl
 rw [hD]
 have hr18:(Ag .i64 (List.replicate 18 0)).length=18:=rfl
 have hsp:∀c:List PV,c.length=18→Bn (Ag .i64 (List.replicate 18 0)) c 0=c:=by
  intro c hc
  unfold Bn
  rw [hc,List.drop_of_length_le (by rw [hr18];omega)]
  simp
 rw [Xp (hnn:=by omega)]
 simp only [Bx,List.getD_cons_zero,List.getD_cons_succ,hr18]
 rw [hsp _ rfl]
 simp (disch:=omega) only [Bx,Xo,List.getD_cons_zero,List.getD_cons_succ]
theorem Aqw (hfu:1000≤fu)(leaf:Int){E:List Int}(hE:E.length=18):Ae C0 Tryz.prog fu (d+6) P9 [.sc (.int .i64 leaf),.agg (Ag .u64 E)]=some ⟨[.sc (.int .u64 (Adk leaf E))],[]⟩:=by
 match E,hE with
 |[e0,e1,e2,e3,e4,e5,e6,e7,e8,e9,e10,e11,e12,e13,e14,e15,e16,e17],_=>
  have wd:Ae C0 Tryz.prog fu (d+5) Gl [.lst false 1 19 [.sc (.int .u64 (IntKind.wrap .u64 leaf)),.sc (.int .u64 e0),.sc (.int .u64 e1),.sc (.int .u64 e2),.sc (.int .u64 e3),.sc (.int .u64 e4),.sc (.int .u64 e5),.sc (.int .u64 e6),.sc (.int .u64 e7),.sc (.int .u64 e8),.sc (.int .u64 e9),.sc (.int .u64 e10),.sc (.int .u64 e11),.sc (.int .u64 e12),.sc (.int .u64 e13),.sc (.int .u64 e14),.sc (.int .u64 e15),.sc (.int .u64 e16),.sc (.int .u64 e17)]]=_:=R3 (ws:=IntKind.wrap .u64 leaf::[e0,e1,e2,e3,e4,e5,e6,e7,e8,e9,e10,e11,e12,e13,e14,e15,e16,e17]) (by simp) (by omega) (by simp;omega)
  have hs:=Ayo (fu:=fu) (d:=d) (ws:=IntKind.wrap .u64 leaf::[e0,e1,e2,e3,e4,e5,e6,e7,e8,e9,e10,e11,e12,e13,e14,e15,e16,e17]) (by simp) hfu 2
  have L:=Aj .u8 (A5 (IntKind.wrap .u64 leaf::[e0,e1,e2,e3,e4,e5,e6,e7,e8,e9,e10,e11,e12,e13,e14,e15,e16,e17]))
  have eR:Adk leaf [e0,e1,e2,e3,e4,e5,e6,e7,e8,e9,e10,e11,e12,e13,e14,e15,e16,e17]=D3 2 (A5 (IntKind.wrap .u64 leaf::[e0,e1,e2,e3,e4,e5,e6,e7,e8,e9,e10,e11,e12,e13,e14,e15,e16,e17])):=rfl
  rw [eR]
  generalize A5 (IntKind.wrap .u64 leaf::[e0,e1,e2,e3,e4,e5,e6,e7,e8,e9,e10,e11,e12,e13,e14,e15,e16,e17])=W at wd hs L ⊢
  refine (Z9 fu (d+5) leaf e0 e1 e2 e3 e4 e5 e6 e7 e8 e9 e10 e11 e12 e13 e14 e15 e16 e17).trans ?_
  simp (disch:=omega) only [Bx,wd,Nat.mul_one,Nat.zero_add,List.drop_zero,Gw,L,hs]
theorem A3c (g:Nat→Int){i:Nat}(hi:i<18):List.getD [PV.sc (.int .i64 (g 0)),PV.sc (.int .i64 (g 1)),PV.sc (.int .i64 (g 2)),PV.sc (.int .i64 (g 3)),PV.sc (.int .i64 (g 4)),PV.sc (.int .i64 (g 5)),PV.sc (.int .i64 (g 6)),PV.sc (.int .i64 (g 7)),PV.sc (.int .i64 (g 8)),PV.sc (.int .i64 (g 9)),PV.sc (.int .i64 (g 10)),PV.sc (.int .i64 (g 11)),PV.sc (.int .i64 (g 12)),PV.sc (.int .i64 (g 13)),PV.sc (.int .i64 (g 14)),PV.sc (.int .i64 (g 15)),PV.sc (.int .i64 (g 16)),PV.sc (.int .i64 (g 17))] i PV.top=.sc (.int .i64 (g i)):=by
 have:((List.range 18).map g)[i]?=some (g i):=by simp [hi]
 exact Ur (k:=.i64) this
theorem Aaw {a0 a1:Int}{a2n:Nat}{a2:List PV}{leaf m:Int}{s:List Int}(hs:s.length=18)(hfu:1000≤fu)(g:Nat→Int)(hg:∀k,g k=dg m k):∀(k i nn:Nat),i+k=18→k<nn →
  Ed fu (Ae C0 Tryz.prog fu (d+6)) a0 a1 a2n a2 nn leaf s.length (Ag .u64 s) (g 0) (g 1) (g 2) (g 3) (g 4) (g 5) (g 6) (g 7) (g 8) (g 9) (g 10) (g 11) (g 12) (g 13) (g 14) (g 15) (g 16) (g 17) i (Ag .u64 (el leaf m s i)) =
   Ed fu (Ae C0 Tryz.prog fu (d+6)) a0 a1 a2n a2 (nn-k) leaf s.length (Ag .u64 s) (g 0) (g 1) (g 2) (g 3) (g 4) (g 5) (g 6) (g 7) (g 8) (g 9) (g 10) (g 11) (g 12) (g 13) (g 14) (g 15) (g 16) (g 17) 18 (Ag .u64 (el leaf m s 18))
 |_,_,0,_,h=>by omega
 |0,i,nn+1,hi,hn=>by
  have e:i=18:=by omega
  subst e
  rfl
 |k+1,i,nn+1,hi,hn=>by
  have ih:=Aaw (a0:=a0) (a1:=a1) (a2n:=a2n) (a2:=a2) (leaf:=leaf) (m:=m) hs hfu g hg k (i+1) nn (by omega) (by omega)
  obtain ⟨x,hx⟩:∃x,s[i]?=some x:=⟨_,List.getElem?_eq_getElem (by omega)⟩
  have hb:=Wl m i
  have hgi:=A3c g (i:=i) (by omega)
  have w:IntKind.wrap .i64 ((i:Int)+1)=((i+1:Nat):Int):=by rw [Aq (by omega) (by omega)];omega
  have rn:=A2r (fu:=fu) (d:=d) (leaf:=leaf) (chain:=i) hfu (15-dg m i).toNat (g i) 15 x (by rw [hg];omega) (by rw [hg];omega) (by omega)
  have ev:Sd leaf i (15-dg m i).toNat (g i) x=Xt leaf m s i:=by
   unfold Xt
   rw [List.getD_eq_getElem?_getD,hx,hg]
   rfl
  rw [ev] at rn
  have L:(Ag .u64 (el leaf m s i)).length=18:=by rw [Aj,Ay9 leaf m s (by omega)]
  have hset:Bn (Ag .u64 (el leaf m s i)) [.sc (.int .u64 (Xt leaf m s i))] i=Ag .u64 (el leaf m s (i+1)):=by
   rw [Iy (by omega),Vj,A1z leaf m s (by omega)]
  rw [show nn+1-(k+1)=nn-k by omega,←ih,L7]
  simp (disch:=omega) only [Bx,Int.toNat_natCast,Nat.mul_one,Nat.zero_add,hgi,Ur hx,rn,L,hset,w]
theorem Ao1 (hfu:1000≤fu){a0 a1 leaf:Int}{a2n n nn:Nat}{a2 c:List PV}{g:Nat→Int}{E:List Int}(hE:E.length=18):
  Ed fu (Ae C0 Tryz.prog fu (d+6)) a0 a1 a2n a2 (nn+1) leaf n c (g 0) (g 1) (g 2) (g 3) (g 4) (g 5) (g 6) (g 7) (g 8) (g 9) (g 10) (g 11) (g 12) (g 13) (g 14) (g 15) (g 16) (g 17) 18 (Ag .u64 E)=some ⟨[.sc (.int .u64 (Adk leaf E)),.sc (.int .i64 0)],[]⟩:=by
 match E,hE with
 |[e0,e1,e2,e3,e4,e5,e6,e7,e8,e9,e10,e11,e12,e13,e14,e15,e16,e17],hE=>
  have cb:=Aqw (fu:=fu) (d:=d) hfu leaf hE
  have hc:Ag .u64 [e0,e1,e2,e3,e4,e5,e6,e7,e8,e9,e10,e11,e12,e13,e14,e15,e16,e17]=[.sc (.int .u64 e0),.sc (.int .u64 e1),.sc (.int .u64 e2),.sc (.int .u64 e3),.sc (.int .u64 e4),.sc (.int .u64 e5),.sc (.int .u64 e6),.sc (.int .u64 e7),.sc (.int .u64 e8),.sc (.int .u64 e9),.sc (.int .u64 e10),.sc (.int .u64 e11),.sc (.int .u64 e12),.sc (.int .u64 e13),.sc (.int .u64 e14),.sc (.int .u64 e15),.sc (.int .u64 e16),.sc (.int .u64 e17)]:=rfl
  rw [hc] at cb ⊢
  generalize Adk leaf [e0,e1,e2,e3,e4,e5,e6,e7,e8,e9,e10,e11,e12,e13,e14,e15,e16,e17]=R at cb ⊢
  rw [L7,Dl _ _ _ (by omega)]
  simp (disch:=omega) only [Bx,V3,U8,List.getD_cons_zero,List.getD_cons_succ,cb]
theorem Ap4 (hfu:1000≤fu)(leaf m:Int)(s:List Int):Ae C0 Tryz.prog fu (d+7) Qh [.sc (.int .i64 leaf),.sc (.int .u64 m),.lst false 1 s.length (Ag .u64 s)]=some ⟨(if s.length=18 then [.sc (.int .u64 (Aia leaf m s)),.sc (.int .i64 0)] else [.sc (.int .u64 0),.sc (.int .i64 4)]),[]⟩:=by
 rw [Aaf]
 by_cases h:s.length=18
 ·have dq:=Aub (fu:=fu) (d:=d+5) hfu m
  have hD:Ag .i64 (dgs m)=[.sc (.int .i64 (dg m 0)),.sc (.int .i64 (dg m 1)),.sc (.int .i64 (dg m 2)),.sc (.int .i64 (dg m 3)),.sc (.int .i64 (dg m 4)),.sc (.int .i64 (dg m 5)),.sc (.int .i64 (dg m 6)),.sc (.int .i64 (dg m 7)),.sc (.int .i64 (dg m 8)),.sc (.int .i64 (dg m 9)),.sc (.int .i64 (dg m 10)),.sc (.int .i64 (dg m 11)),.sc (.int .i64 (dg m 12)),.sc (.int .i64 (dg m 13)),.sc (.int .i64 (dg m 14)),.sc (.int .i64 (dg m 15)),.sc (.int .i64 (dg m 16)),.sc (.int .i64 (dg m 17))]:=rfl
  rw [hD] at dq
  simp only [C4]
  rw [if_pos h,if_pos (by omega)]
  simp only [Bx,dq]
  have lp:=Aaw (fu:=fu) (d:=d) (a0:=leaf) (a1:=m) (a2n:=s.length) (a2:=Ag .u64 s) (leaf:=leaf) (m:=m) h hfu (dg m) (fun _=>rfl) 18 0 fu (by omega) (by omega)
  obtain ⟨f',hf'⟩:∃f',fu-18=f'+1:=⟨fu-19,by omega⟩
  rw [hf'] at lp
  refine Eq.trans lp ?_
  have eE:el leaf m s 18=Afn leaf m s:=A3m leaf m s
  have hl:(Afn leaf m s).length=18:=by rw [←eE,Ay9 leaf m s (by omega)]
  have eR:Aia leaf m s=Adk leaf (Afn leaf m s):=rfl
  rw [eE,eR]
  exact Ao1 hfu hl
 ·simp only [C4]
  rw [if_neg h,if_neg (by omega)]
end
end
section
structure Ky where
 h:Int
 root:Int
structure Sg where
 leaf:Int
 chains:List Int
 path:List Int
def Ky.cells (k:Ky):List PV:=[.sc (.int .i64 k.h),.sc (.int .u64 k.root)]
def Sg.cells (s:Sg):List PV:=[.sc (.int .i64 s.leaf),.lst false 1 s.chains.length (Ag .u64 s.chains),.lst false 1 s.path.length (Ag .u64 s.path)]
def Cl (h:Int):Bool:=decide (h<0)||decide (h>4)
def E6 (leaf h:Int):Bool:=decide (leaf<0)||decide (leaf≥Ew .i64 1 h)
def Lo (level a b:Int):Int:=D3 3 (A5 [IntKind.wrap .u64 level,a,b])
def Tb (leaf:Int):Nat→Int→List Int→Int
 |_,x,[]=>x
 |i,x,s::r=>Tb leaf (i+1) (if Dz .i64 (Dx .i64 leaf i) 1=0 then Lo ((i+1:Nat):Int) x s else Lo ((i+1:Nat):Int) s x) r
def okE (x root:Int):Int:=if x=root then 0 else 15
theorem Ag0 (leaf:Int)(i:Nat)(x:Int):Tb leaf i x []=x:=rfl
theorem Wg (leaf:Int)(i:Nat)(x s:Int)(r:List Int):Tb leaf i x (s::r)=Tb leaf (i+1) (if Dz .i64 (Dx .i64 leaf i) 1=0 then Lo ((i+1:Nat):Int) x s else Lo ((i+1:Nat):Int) s x) r:=rfl
def Is (k:Ky)(m:Int)(s:Sg):Int:=
 if Cl k.h=true then 9 else if E6 s.leaf k.h=true then 9 else if s.chains.length≠18 then 4 else if (s.path.length:Int)≠k.h then 4 else
 okE (Tb s.leaf 0 (Aia s.leaf m s.chains) s.path) k.root
theorem Fj {h:Int}(hh:Cl h=false):0≤h∧h≤4:=by
 unfold Cl at hh
 simp at hh
 omega
section
variable {fu d:Nat}
theorem Aa4 (h:Int):Ae C0 Tryz.prog fu (d+1) Vg [.sc (.int .i64 h)]=some ⟨[.sc (.bool (Cl h))],[]⟩:=by
 rw [Ahu]
 unfold Cl
 by_cases h0:h<0
 ·simp only [Bx,Abo,h0,decide_true,Bool.true_or,if_true]
 ·simp only [Bx,Abo,h0,decide_false,Bool.false_or,if_false]
theorem Yr (leaf h:Int)(h0:0≤h):Ae C0 Tryz.prog fu (d+1) Qj [.sc (.int .i64 leaf),.sc (.int .i64 h)]=some ⟨[.sc (.bool (E6 leaf h))],[]⟩:=by
 rw [Zt]
 unfold E6
 by_cases hl:leaf<0
 ·simp only [Bx,Abo,hl,decide_true,Bool.true_or,if_true]
 ·simp (disch:=omega) only [Bx,Abo,hl,decide_false,Bool.false_or,if_false]
theorem Aje (hfu:1000≤fu)(level a b:Int):Ae C0 Tryz.prog fu (d+6) Rf [.sc (.int .i64 level),.sc (.int .u64 a),.sc (.int .u64 b)]=some ⟨[.sc (.int .u64 (Lo level a b))],[]⟩:=by
 have wd:Ae C0 Tryz.prog fu (d+5) Gl [.lst false 1 3 [.sc (.int .u64 (IntKind.wrap .u64 level)),.sc (.int .u64 a),.sc (.int .u64 b)]]=_:=R3 (ws:=[IntKind.wrap .u64 level,a,b]) (by simp) (by omega) (by simp;omega)
 have hs:=Ayo (fu:=fu) (d:=d) (ws:=[IntKind.wrap .u64 level,a,b]) (by simp) hfu 3
 have L:=Aj .u8 (A5 [IntKind.wrap .u64 level,a,b])
 rw [Abs]
 unfold Lo
 generalize A5 [IntKind.wrap .u64 level,a,b]=W at wd hs L ⊢
 simp (disch:=omega) only [Bx,wd,Nat.mul_one,Nat.zero_add,List.drop_zero,Gw,L,hs]
theorem Adn {a0 a1 a2 a3:Int}{n1 n2 n3 n4:Nat}{c1 c2 c3 c4:List PV}{y5 root leaf:Int}{path:List Int}(hp:path.length≤100)(hfu:1000≤fu):∀(r:List Int)(i nn:Nat)(x:Int),path.drop i=r→r.length<nn→i≤path.length →
  Fy fu (Ae C0 Tryz.prog fu (d+6)) a0 a1 a2 a3 n1 c1 n2 c2 nn x path.length (Ag .u64 path) path.length i y5 root leaf n3 c3 n4 c4=some ⟨[.sc (.int .i64 (okE (Tb leaf i x r) root))],[]⟩
 |_,_,0,_,_,h,_=>by omega
 |[],i,nn+1,x,h,hn,hi=>by
  have:=drop_nil h
  rw [Nk,Dl _ _ _ (by omega),C4]
  rw [Ag0]
  unfold okE
  by_cases e:x=root
  ·rw [if_pos e,if_pos e]
  ·rw [if_neg e,if_neg e]
 |s::r,i,nn+1,x,h,hn,hi=>by
  obtain ⟨h1,h2,h3⟩:=Cf h
  simp only [List.length_cons] at hn
  have w:IntKind.wrap .i64 ((i:Int)+1)=((i+1:Nat):Int):=by rw [Aq (by omega) (by omega)];omega
  have ih:=fun x=>Adn (a0:=a0) (a1:=a1) (a2:=a2) (a3:=a3) (n1:=n1) (n2:=n2) (n3:=n3) (n4:=n4) (c1:=c1) (c2:=c2) (c3:=c3) (c4:=c4) (y5:=y5) (root:=root) (leaf:=leaf) hp hfu r (i+1) nn x h3 (by omega) (by omega)
  have p1:=Aje (fu:=fu) (d:=d) hfu ((i+1:Nat):Int) x s
  have p2:=Aje (fu:=fu) (d:=d) hfu ((i+1:Nat):Int) s x
  rw [Nk,Wg]
  by_cases hb:Dz .i64 (Dx .i64 leaf i) 1=0
  ·rw [if_pos hb,←ih]
   simp (disch:=omega) only [Bx,Int.toNat_natCast,Nat.mul_one,Ur h2,Ej,hb,w,p1,if_true]
  ·rw [if_neg hb,←ih]
   simp (disch:=omega) only [Bx,Int.toNat_natCast,Nat.mul_one,Ur h2,Ej,hb,w,p2,if_false]
theorem Aco (hfu:1000≤fu)(k:Ky)(m:Int)(s:Sg):Ae C0 Tryz.prog fu (d+8) R5 [.agg k.cells,.sc (.int .u64 m),.agg s.cells]=some ⟨[.sc (.int .i64 (Is k m s))],[]⟩:=by
 refine (Acp fu (d+7) k.h k.root m s.leaf s.chains.length (Ag .u64 s.chains) s.path.length (Ag .u64 s.path)).trans ?_
 have h1:=Aa4 (fu:=fu) (d:=d+6) k.h
 unfold Is
 cases c1:Cl k.h
 ·rw [c1] at h1
  have hb:=Fj c1
  have h2:=Yr (fu:=fu) (d:=d+6) s.leaf k.h hb.1
  cases c2:E6 s.leaf k.h
  ·rw [c2] at h2
   by_cases c3:s.chains.length=18
   ·by_cases c4:(s.path.length:Int)=k.h
    ·have rc:=Ap4 (fu:=fu) (d:=d) hfu s.leaf m s.chains
     rw [if_pos c3] at rc
     have vl:=Adn (fu:=fu) (d:=d+1) (a0:=k.h) (a1:=k.root) (a2:=m) (a3:=s.leaf) (n1:=s.chains.length) (n2:=s.path.length) (n3:=s.chains.length) (n4:=s.path.length) (c1:=Ag .u64 s.chains) (c2:=Ag .u64 s.path) (c3:=Ag .u64 s.chains) (c4:=Ag .u64 s.path) (y5:=k.h) (root:=k.root) (leaf:=s.leaf) (path:=s.path) (by omega) hfu s.path 0 fu (Aia s.leaf m s.chains) rfl (by omega) (by omega)
     rw [if_neg (by simp),if_neg (by simp),if_neg (by omega),if_neg (by omega),←vl]
     simp (disch:=omega) only [Bx,h1,h2,C4,rc,if_true,c4]
     rw [if_pos (by omega)]
     rfl
    ·rw [if_neg (by simp),if_neg (by simp),if_neg (by omega),if_pos c4]
     simp (disch:=omega) only [Bx,h1,h2,C4,c4,if_false]
     rw [if_pos (by omega)]
   ·rw [if_neg (by simp),if_neg (by simp),if_pos c3]
    simp (disch:=omega) only [Bx,h1,h2,C4]
    rw [if_neg (by omega)]
  ·rw [c2] at h2
   rw [if_neg (by simp),if_pos rfl]
   simp (disch:=omega) only [Bx,h1,h2]
 ·rw [c1] at h1
  rw [if_pos rfl]
  simp (disch:=omega) only [Bx,h1]
def F4 (k:Ky):List Int:=IntKind.wrap .u8 k.h::Bp k.root
def Ix (s:Sg):List Int:=IntKind.wrap .u8 s.leaf::IntKind.wrap .u8 s.path.length::(A5 s.chains++A5 s.path)
theorem owd (hfu:1000≤fu)(w:Int):Ae C0 Tryz.prog fu (d+1) Gl [.lst false 1 1 [.sc (.int .u64 w)]]=some ⟨[.own 1 8 (Ag .u8 (Bp w))],[]⟩:=by
 have:=R3 (fu:=fu) (d:=d) (ws:=[w]) (by simp) (by omega) (by simp;omega)
 simp only [A5,List.flatMap_cons,List.flatMap_nil,List.append_nil,List.length_cons,List.length_nil,Cc] at this
 exact this
theorem Av6 (hfu:1000≤fu)(k:Ky):Ae C0 Tryz.prog fu (d+2) Nn [.agg k.cells]=some ⟨(if Cl k.h=true then [.own 1 0 [],.sc (.int .i64 9)] else [.own 1 9 (Ag .u8 (F4 k)),.sc (.int .i64 0)]),[]⟩:=by
 refine (Xi fu (d+1) k.h k.root).trans ?_
 have h1:=Aa4 (fu:=fu) (d:=d) k.h
 have wd:=owd (fu:=fu) (d:=d) hfu k.root
 have L:=Aj .u8 (Bp k.root)
 rw [Cc] at L
 have t8:List.take 8 (Ag .u8 (Bp k.root))=Ag .u8 (Bp k.root):=List.take_of_length_le (by omega)
 have t9:List.take 9 ([PV.sc (.int .u8 (IntKind.wrap .u8 k.h))]++Ag .u8 (Bp k.root))=Ag .u8 (F4 k):=by
  rw [List.take_of_length_le (by rw [List.length_append,L];simp)]
  rfl
 have L9:([PV.sc (.int .u8 (IntKind.wrap .u8 k.h))]++Ag .u8 (Bp k.root)).length=9:=by rw [List.length_append,L];rfl
 cases c1:Cl k.h
 ·rw [c1] at h1
  rw [if_neg (by simp)]
  simp (disch:=omega) only [Bx,h1,wd,Nat.mul_one,Nat.zero_add,List.drop_zero,L,t8,Nat.reduceAdd,L9,t9]
 ·rw [c1] at h1
  rw [if_pos rfl]
  simp (disch:=omega) only [Bx,h1]
theorem Av1 (hfu:1000≤fu)(s:Sg)(hp:s.path.length≤1000000000)(hf:s.path.length<fu):Ae C0 Tryz.prog fu (d+2) Ia [.agg s.cells]=some ⟨(if Cl s.path.length=true then [.own 1 0 [],.sc (.int .i64 9)] else if E6 s.leaf s.path.length=true then [.own 1 0 [],.sc (.int .i64 9)] else if s.chains.length≠18 then [.own 1 0 [],.sc (.int .i64 4)] else [.own 1 (Ix s).length (Ag .u8 (Ix s)),.sc (.int .i64 0)]),[]⟩:=by
 refine (Ps fu (d+1) s.leaf s.chains.length (Ag .u64 s.chains) s.path.length (Ag .u64 s.path)).trans ?_
 have h1:=Aa4 (fu:=fu) (d:=d) s.path.length
 cases c1:Cl s.path.length
 ·rw [c1] at h1
  have hb:=Fj c1
  have h2:=Yr (fu:=fu) (d:=d) s.leaf s.path.length hb.1
  cases c2:E6 s.leaf s.path.length
  ·rw [c2] at h2
   by_cases c3:s.chains.length=18
   ·have w1:=R3 (fu:=fu) (d:=d) (ws:=s.chains) (by omega) (by omega) (by omega)
    have w2:=R3 (fu:=fu) (d:=d) (ws:=s.path) (by omega) (by omega) (by omega)
    have l1:=Cm s.chains
    have l2:=Cm s.path
    have L1:=Aj .u8 (A5 s.chains)
    have L2:=Aj .u8 (A5 s.path)
    have eB:Ag .u8 (Ix s)=[PV.sc (.int .u8 (IntKind.wrap .u8 s.leaf)),PV.sc (.int .u8 (IntKind.wrap .u8 s.path.length))]++Ag .u8 (A5 s.chains)++Ag .u8 (A5 s.path):=by
     unfold Ix
     simp
    have eL:(Ix s).length=2+(A5 s.chains).length+(A5 s.path).length:=by
     unfold Ix
     simp
     omega
    rw [if_neg (by simp),if_neg (by simp),if_neg (by omega),eB,eL]
    have t2:List.take (2+(A5 s.chains).length) ([PV.sc (.int .u8 (IntKind.wrap .u8 s.leaf)),PV.sc (.int .u8 (IntKind.wrap .u8 s.path.length))]++Ag .u8 (A5 s.chains))=[PV.sc (.int .u8 (IntKind.wrap .u8 s.leaf)),PV.sc (.int .u8 (IntKind.wrap .u8 s.path.length))]++Ag .u8 (A5 s.chains):=List.take_of_length_le (by rw [List.length_append,L1];simp)
    have t3:List.take (2+(A5 s.chains).length+(A5 s.path).length) ([PV.sc (.int .u8 (IntKind.wrap .u8 s.leaf)),PV.sc (.int .u8 (IntKind.wrap .u8 s.path.length))]++Ag .u8 (A5 s.chains)++Ag .u8 (A5 s.path))=[PV.sc (.int .u8 (IntKind.wrap .u8 s.leaf)),PV.sc (.int .u8 (IntKind.wrap .u8 s.path.length))]++Ag .u8 (A5 s.chains)++Ag .u8 (A5 s.path):=List.take_of_length_le (by rw [List.length_append,List.length_append,L1,L2];simp)
    have k2:([PV.sc (.int .u8 (IntKind.wrap .u8 s.leaf)),PV.sc (.int .u8 (IntKind.wrap .u8 s.path.length))]++Ag .u8 (A5 s.chains)).length=2+(A5 s.chains).length:=by rw [List.length_append,L1];rfl
    have k3:([PV.sc (.int .u8 (IntKind.wrap .u8 s.leaf)),PV.sc (.int .u8 (IntKind.wrap .u8 s.path.length))]++Ag .u8 (A5 s.chains)++Ag .u8 (A5 s.path)).length=2+(A5 s.chains).length+(A5 s.path).length:=by rw [List.length_append,k2,L2]
    simp (disch:=omega) only [Bx,h1,h2,C4,w1,w2,Nat.mul_one,Nat.zero_add,List.drop_zero,L1,L2,Gw,t2,t3,k2,k3]
    rw [if_pos (by omega)]
   ·rw [if_neg (by simp),if_neg (by simp),if_pos c3]
    simp (disch:=omega) only [Bx,h1,h2,C4]
    rw [if_neg (by omega)]
  ·rw [c2] at h2
   rw [if_neg (by simp),if_pos rfl]
   simp (disch:=omega) only [Bx,h1,h2]
 ·rw [c1] at h1
  rw [if_pos rfl]
  simp (disch:=omega) only [Bx,h1]
def Ms (l:List Int)(i:Nat):Int:=Abl ((l.drop (8*i)).take 8)
def Fg (l:List Int):List Int:=(List.range (l.length / 8)).map (Ms l)
def wl (l:List Int)(i:Nat):List Int:=(List.range i).map (Ms l)++List.replicate (l.length / 8-i) 0
theorem Awt (l:List Int){i:Nat}(h:i≤l.length / 8):(wl l i).length=l.length / 8:=by simp [wl];omega
theorem A16 (l:List Int){i:Nat}(h:i<l.length / 8):(wl l i).set i (Ms l i)=wl l (i+1):=by
 unfold wl
 rw [List.set_append_right _ _ (by simp),List.length_map,List.length_range,Nat.sub_self,show l.length / 8-i=(l.length / 8-(i+1))+1 by omega,List.replicate_succ,List.set_cons_zero,List.range_succ,List.map_append,List.append_assoc]
 rfl
theorem A0h (l:List Int){i:Nat}(h:i<l.length / 8):(wl l i).set i 0=wl l i:=by
 unfold wl
 rw [List.set_append_right _ _ (by simp),List.length_map,List.length_range,Nat.sub_self,show l.length / 8-i=(l.length / 8-(i+1))+1 by omega,List.replicate_succ,List.set_cons_zero]
theorem Ai3 {n m0:Nat}{c:List PV}{l:List Int}(hl:l.length≤1000000){i:Nat}(hi:i<l.length / 8){q:List Int}(hq:q.length≤8):∀(r:List Int)(j nn:Nat)(x:Int),q.drop j=r→r.length<nn→j≤q.length →
  H2 fu (Ae C0 Tryz.prog fu d) n c m0 nn l.length (Ag .u8 l) (l.length / 8) i ((l.length / 8:Nat):Int) i q.length (Ag .u8 q) q.length j (Ag .u64 ((wl l i).set i x)) =
   Gq fu (Ae C0 Tryz.prog fu d) n c m0 l.length (Ag .u8 l) (l.length / 8) ((l.length / 8:Nat):Int) ((i+1:Nat):Int) (Ag .u64 ((wl l i).set i (r.foldl Es x)))
 |_,_,0,_,_,h,_=>by omega
 |[],j,nn+1,x,h,hn,hj=>by
  have:=drop_nil h
  have w:IntKind.wrap .i64 ((i:Int)+1)=((i+1:Nat):Int):=by rw [Aq (by omega) (by omega)];omega
  rw [O0,Dl _ _ _ (by omega)]
  simp only [Gn,w,List.foldl_nil]
 |b::r,j,nn+1,x,h,hn,hj=>by
  obtain ⟨h1,h2,h3⟩:=Cf h
  simp only [List.length_cons] at hn
  have w:IntKind.wrap .i64 ((j:Int)+1)=((j+1:Nat):Int):=by rw [Aq (by omega) (by omega)];omega
  have L:(Ag .u64 ((wl l i).set i x)).length=l.length / 8:=by rw [Aj,List.length_set,Awt l (by omega)]
  have hat:(Ag .u64 ((wl l i).set i x)).getD i .top=.sc (.int .u64 x):=Ur (by rw [List.getElem?_set_self (by rw [Awt l (by omega)];omega)])
  have hset:Bn (Ag .u64 ((wl l i).set i x)) [.sc (.int .u64 (Es x b))] i=Ag .u64 ((wl l i).set i (Es x b)):=by
   rw [Iy (by omega),Vj,List.set_set]
  have ih:=Ai3 (n:=n) (m0:=m0) (c:=c) hl hi hq r (j+1) nn (Es x b) h3 (by omega) (by omega)
  rw [List.foldl_cons,←ih,O0]
  simp (disch:=omega) only [Bx,Int.toNat_natCast,Nat.mul_one,Nat.zero_add,Ur h2,hat,L,w]
  exact congrArg _ hset
theorem Adb {n:Nat}{c:List PV}{l:List Int}(hl:l.length≤1000000)(hfu:100≤fu):∀(k i nn:Nat),i+k=l.length / 8→k<nn →
  Gq fu (Ae C0 Tryz.prog fu d) n c nn l.length (Ag .u8 l) (l.length / 8) ((l.length / 8:Nat):Int) i (Ag .u64 (wl l i))=some ⟨[.own 1 (l.length / 8) (Ag .u64 (Fg l))],[]⟩
 |_,_,0,_,h=>by omega
 |0,i,nn+1,hi,hn=>by
  have e:i=l.length / 8:=by omega
  subst e
  have e2:wl l (l.length / 8)=Fg l:=by unfold wl Fg;simp
  have L:(Ag .u64 (Fg l)).length=l.length / 8:=by rw [Aj];simp [Fg]
  have tk:List.take (l.length / 8) (Ag .u64 (Fg l))=Ag .u64 (Fg l):=List.take_of_length_le (by omega)
  rw [Ph,Dl _ _ _ (by omega),e2]
  simp (disch:=omega) only [Bx,Nat.mul_one,L,tk]
 |k+1,i,nn+1,hi,hn=>by
  have ih:=Adb (n:=n) (c:=c) hl hfu k (i+1) nn (by omega) (by omega)
  have w8:IntKind.wrap .i64 (8*(i:Int))=((8*i:Nat):Int):=by rw [Aq (by omega) (by omega)];omega
  have w88:IntKind.wrap .i64 (((8*i:Nat):Int)+8)=((8*i+8:Nat):Int):=by rw [Aq (by omega) (by omega)];omega
  have e8:8*i+8-8*i=8:=by omega
  have hdl:((l.drop (8*i)).take 8).length=8:=by rw [List.length_take,List.length_drop];omega
  have st:=Ai3 (fu:=fu) (d:=d) (n:=n) (m0:=nn) (c:=c) hl (i:=i) (by omega) (q:=(l.drop (8*i)).take 8) (by omega) ((l.drop (8*i)).take 8) 0 fu 0 rfl (by omega) (by omega)
  rw [A0h l (by omega),hdl] at st
  have ew:((l.drop (8*i)).take 8).foldl Es 0=Ms l i:=rfl
  rw [ew,A16 l (by omega),ih] at st
  rw [Ph]
  simp (disch:=omega) only [Bx,Int.toNat_natCast,Nat.mul_one,w8,w88,e8,Fb,Dp]
  exact st
theorem Azi (n:Nat):Un n [.sc (.int .u64 0)]=Ag .u64 (List.replicate n 0):=by
 induction n with
 |zero=>rfl
 |succ n ih=>
  show ([PV.sc (.int .u64 0)]::List.replicate n [PV.sc (.int .u64 0)]).flatten=_
  rw [List.flatten_cons,List.replicate_succ]
  show _++Un n [.sc (.int .u64 0)]=PV.sc (.int .u64 0)::Ag .u64 (List.replicate n 0)
  rw [ih]
  rfl
theorem Acg {l:List Int}(hl:l.length≤1000000)(hfu:100≤fu)(hf:l.length<fu):Ae C0 Tryz.prog fu (d+1) Tv [.lst false 1 l.length (Ag .u8 l)]=some ⟨[.own 1 (l.length / 8) (Ag .u64 (Fg l))],[]⟩:=by
 rw [Aeb]
 have w:IntKind.wrap .i64 (Int.tdiv (l.length:Int) 8)=((l.length / 8:Nat):Int):=by
  rw [Int.tdiv_eq_ediv_of_nonneg (by omega),Aq (by omega) (by omega)]
  omega
 have lp:=Adb (fu:=fu) (d:=d) (n:=l.length) (c:=Ag .u8 l) hl hfu (l.length / 8) 0 fu (by omega) (by omega)
 have e0:wl l 0=List.replicate (l.length / 8) 0:=by unfold wl;simp
 rw [e0] at lp
 simp (disch:=omega) only [Bx,w,Int.toNat_natCast,Azi,Int.le_refl]
 exact lp
def Acf (l:List Int):Option Ky:=if l.length=9∧Cl (l.getD 0 0)=false then some ⟨l.getD 0 0,Ms (l.drop 1) 0⟩ else none
def Ahk (o:Option Ky):List PV:=match o with|some k=>[.agg k.cells,.sc (.int .i64 0)]|none=>[.agg (Ky.mk 0 0).cells,.sc (.int .i64 2)]
theorem At5 (hfu:1000≤fu){l:List Int}(hb:Ha l):Ae C0 Tryz.prog fu (d+2) Na [.lst false 1 l.length (Ag .u8 l)]=some ⟨Ahk (Acf l),[]⟩:=by
 refine (Xm fu (d+1) l.length (Ag .u8 l)).trans ?_
 unfold Acf
 by_cases h9:l.length=9
 ·obtain ⟨x,hx⟩:∃x,l[0]?=some x:=⟨_,List.getElem?_eq_getElem (by omega)⟩
  have hxb:=hb x (List.mem_of_getElem? hx)
  have wx:IntKind.wrap .i64 x=x:=Aq (by omega) (by omega)
  have gx:l.getD 0 0=x:=by rw [List.getD_eq_getElem?_getD,hx];rfl
  have h1:=Aa4 (fu:=fu) (d:=d) x
  rw [gx]
  cases c1:Cl x
  ·rw [c1] at h1
   have hdl:(l.drop 1).length=8:=by rw [List.length_drop];omega
   have dw:=Acg (fu:=fu) (d:=d) (l:=l.drop 1) (by omega) (by omega) (by omega)
   rw [hdl] at dw
   have hat:(Ag .u64 (Fg (l.drop 1))).getD 0 .top=.sc (.int .u64 (Ms (l.drop 1) 0)):=Ur (by unfold Fg;rw [hdl];rfl)
   have e8:9-1=8:=rfl
   have tk:List.take 8 (Ag .u8 (l.drop 1))=Ag .u8 (l.drop 1):=List.take_of_length_le (by rw [Aj];omega)
   rw [if_pos ⟨h9,rfl⟩,h9]
   simp (disch:=omega) only [Bx,C4,Ur hx,wx,h1,Nat.mul_one,Fb,e8,tk,dw,hat]
   rfl
  ·rw [c1] at h1
   rw [if_neg (by simp),h9]
   simp (disch:=omega) only [Bx,C4,Ur hx,wx,h1]
   rfl
 ·rw [if_neg (by simp [h9])]
  simp (disch:=omega) only [C4]
  rw [if_neg (by omega)]
  rfl
def sgD (l:List Int):Option Sg:=
 if 2≤l.length∧Cl (l.getD 1 0)=false∧E6 (l.getD 0 0) (l.getD 1 0)=false∧(l.length:Int)=2+8*(18+l.getD 1 0) then some ⟨l.getD 0 0,Fg ((l.drop 2).take 144),Fg (l.drop 146)⟩ else none
def Sg.owned (s:Sg):List PV:=[.sc (.int .i64 s.leaf),.own 1 s.chains.length (Ag .u64 s.chains),.own 1 s.path.length (Ag .u64 s.path)]
def Ads (o:Option Sg):List PV:=match o with|some s=>[.agg s.owned,.sc (.int .i64 0)]|none=>[.agg (Sg.mk 0 [] []).owned,.sc (.int .i64 2)]
theorem Ox (l:List Int):(Fg l).length=l.length / 8:=by simp [Fg]
theorem Acl (hfu:1000≤fu){l:List Int}(hb:Ha l):Ae C0 Tryz.prog fu (d+2) H6 [.lst false 1 l.length (Ag .u8 l)]=some ⟨Ads (sgD l),[]⟩:=by
 refine (Pr fu (d+1) l.length (Ag .u8 l)).trans ?_
 unfold sgD
 by_cases h2:2≤l.length
 ·obtain ⟨x,hx⟩:∃x,l[0]?=some x:=⟨_,List.getElem?_eq_getElem (by omega)⟩
  obtain ⟨y,hy⟩:∃y,l[1]?=some y:=⟨_,List.getElem?_eq_getElem (by omega)⟩
  have hxb:=hb x (List.mem_of_getElem? hx)
  have hyb:=hb y (List.mem_of_getElem? hy)
  have wx:IntKind.wrap .i64 x=x:=Aq (by omega) (by omega)
  have wy:IntKind.wrap .i64 y=y:=Aq (by omega) (by omega)
  have gx:l.getD 0 0=x:=by rw [List.getD_eq_getElem?_getD,hx];rfl
  have gy:l.getD 1 0=y:=by rw [List.getD_eq_getElem?_getD,hy];rfl
  have h1:=Aa4 (fu:=fu) (d:=d) y
  have ho:=Yr (fu:=fu) (d:=d) x y (by omega)
  have w1:IntKind.wrap .i64 (18+y)=18+y:=Aq (by omega) (by omega)
  have w2:IntKind.wrap .i64 (8*(18+y))=8*(18+y):=Aq (by omega) (by omega)
  have w3:IntKind.wrap .i64 (2+8*(18+y))=2+8*(18+y):=Aq (by omega) (by omega)
  rw [gx,gy]
  cases c1:Cl y
  ·rw [c1] at h1
   cases c2:E6 x y
   ·rw [c2] at ho
    by_cases c3:(l.length:Int)=2+8*(18+y)
    ·have hy4:=Fj c1
     have d1:=Acg (fu:=fu) (d:=d) (l:=(l.drop 2).take 144) (by rw [List.length_take,List.length_drop];omega) (by omega) (by rw [List.length_take,List.length_drop];omega)
     have d2:=Acg (fu:=fu) (d:=d) (l:=l.drop 146) (by rw [List.length_drop];omega) (by omega) (by rw [List.length_drop];omega)
     have l1:((l.drop 2).take 144).length=144:=by rw [List.length_take,List.length_drop];omega
     have l2:(l.drop 146).length=l.length-146:=List.length_drop
     rw [l1] at d1
     have L1:(Ag .u64 (Fg ((l.drop 2).take 144))).length=18:=by rw [Aj,Ox,l1]
     have L2:(Ag .u64 (Fg (l.drop 146))).length=(l.length-146) / 8:=by rw [Aj,Ox,l2]
     rw [l2] at d2
     have t1:List.take (144 / 8) (Ag .u64 (Fg ((l.drop 2).take 144)))=Ag .u64 (Fg ((l.drop 2).take 144)):=List.take_of_length_le (by omega)
     have t2:List.take ((l.length-146) / 8) (Ag .u64 (Fg (l.drop 146)))=Ag .u64 (Fg (l.drop 146)):=List.take_of_length_le (by omega)
     have t3:List.take (l.length-146) (l.drop 146)=l.drop 146:=List.take_of_length_le (by omega)
     rw [if_pos ⟨h2,rfl,rfl,c3⟩]
     simp (disch:=omega) only [Bx,C4,Ur hx,Ur hy,wx,wy,h1,ho,w1,w2,w3,Nat.mul_one,Fb,Dp,d1,d2,t3,L1,L2,t1,t2]
     rw [if_pos c3]
     simp only [Ads,Sg.owned,Ox,l1,l2]
    ·rw [if_neg (by simp [c3])]
     simp (disch:=omega) only [Bx,C4,Ur hx,Ur hy,wx,wy,h1,ho,w1,w2,w3]
     rw [if_neg c3]
     rfl
   ·rw [c2] at ho
    rw [if_neg (by simp)]
    simp (disch:=omega) only [Bx,C4,Ur hx,Ur hy,wx,wy,h1,ho]
    rfl
  ·rw [c1] at h1
   rw [if_neg (by simp)]
   simp (disch:=omega) only [Bx,C4,Ur hx,Ur hy,wx,wy,h1]
   rfl
 ·rw [if_neg (by simp [h2])]
  simp (disch:=omega) only [Bx]
  rfl
end
end
section
set_option maxRecDepth 100000
abbrev Lw:FuncId:=35
theorem U5 (fu d:Nat)(a0:Int):Ae C0 Tryz.prog fu (d+1) Lw [.sc (.int .i64 a0)]=(fun (call:Ak)=>Be (decide (a0≥0)) (some (A8.mk [.sc (.bool (decide (a0≤4)))] [])) (some (A8.mk [.sc (.bool false)] []))) (Ae C0 Tryz.prog fu d):=by kernel_rfl
abbrev M5:FuncId:=61
noncomputable def Fz (fu:Nat)(call:Ak)(a0:Int)(nn:Nat)(y0:Int)(y1:Nat)(y2 y3:Int)(y4:List PV):Option A8:=C5 C0 Tryz.prog fu call 61 Tryz.f61 (B7 Tryz.f61) [.sc (.int .u64 a0)] [.r,.r,.r,.l,.r,.l] nn ⟨lk [(0,(.sc (.int .u64 y0))),(3,(.view 3 1 0 y1)),(4,(.sc (.int .i64 y2))),(5,(.sc (.int .i64 y3)))],Gv [(3,(.ar false y4))]⟩
theorem J8 (fu:Nat)(call:Ak)(a0:Int)(nn:Nat)(y0:Int)(y1:Nat)(y2 y3:Int)(y4:List PV):Fz fu call a0 (nn+1) y0 y1 y2 y3 y4=(Be (decide (y3≥0)) (Aa (IntKind.wrap .i64 (4*y3)) fun x1=>Aa (IntKind.wrap .u64 x1) fun x2=>Ar (decide (0≤x2))<|Aa (Dx .u64 y0 x2) fun x3=>Aa (Dz .u64 x3 15) fun x4=>Aa (IntKind.wrap .i64 x4) fun x5=>Ar (decide (y1*1≤List.length y4)&&true&&decide ((y1+1)*8≤1099511627776)&&decide (y1+1≤1099511627776))<|Aa (y1+1) fun x6=>Aa (List.take (y1*1) y4++[.sc (.int .i64 x5)]) fun x7=>Aa (IntKind.wrap .i64 (15-x5)) fun x8=>Aa (IntKind.wrap .i64 (y2+x8)) fun x9=>Aa (IntKind.wrap .i64 (y3-1)) fun B5=>Fz fu call a0 (nn) (y0) x6 x9 B5 x7) (Aa (IntKind.wrap .i64 (Int.tdiv y2 16)) fun B9=>Aa (Int.tmod y2 16) fun Cy=>Ar (decide (y1*1≤List.length y4)&&true&&decide ((y1+2)*8≤1099511627776)&&decide (y1+2≤1099511627776))<|Aa (y1+2) fun C7=>Aa (List.take (y1*1) y4++[.sc (.int .i64 B9),.sc (.int .i64 Cy)]) fun Cr=>Ar (decide (C7*1≤List.length Cr))<|some (A8.mk [.own 1 C7 (List.take (C7*1) Cr)] []))):=by kernel_rfl
theorem W6 (fu d:Nat)(a0:Int):Ae C0 Tryz.prog fu (d+1) M5 [.sc (.int .u64 a0)]=(fun (call:Ak)=>Fz fu call a0 (fu) (a0) 0 0 15 ([])) (Ae C0 Tryz.prog fu d):=by kernel_rfl
abbrev Qa:FuncId:=62
noncomputable def G1 (fu:Nat)(call:Ak)(a0 a1:Int)(a2 a3 a4:Int)(nn:Nat)(y0 y1:Int)(y2 y3 y4:Int):Option A8:=C5 C0 Tryz.prog fu call 62 Tryz.f62 (B7 Tryz.f62) [.sc (.int .i64 a0),.sc (.int .i64 a1),.sc (.int .i64 a2),.sc (.int .i64 a3),.sc (.int .u64 a4)] [.r,.l,.r,.l] nn ⟨lk [(0,(.sc (.int .i64 y0))),(1,(.sc (.int .i64 y1))),(3,(.sc (.int .i64 y2))),(4,(.sc (.int .u64 y3))),(11,(.sc (.int .i64 y4)))],Gv []⟩
theorem L5 (fu:Nat)(call:Ak)(a0 a1:Int)(a2 a3 a4:Int)(nn:Nat)(y0 y1:Int)(y2 y3 y4:Int):G1 fu call a0 a1 a2 a3 a4 (nn+1) y0 y1 y2 y3 y4=(Aa (if 15<y2 then 15 else y2) fun x2=>Be (decide (y4<x2)) (Aa (IntKind.wrap .u64 y0) fun x3=>Aa (IntKind.wrap .u64 y1) fun x4=>Aa (IntKind.wrap .u64 y4) fun x5=>Ah (call 38 [.lst false 1 4 [.sc (.int .u64 x3),.sc (.int .u64 x4),.sc (.int .u64 x5),.sc (.int .u64 y3)]]) fun x6 x7=>Ac x7<|Ab x6 fun x8 x9=>C8 1 x8 fun B5 B9=>Ac x9<|Ar (decide (0+B5*1≤List.length B9))<|Ah (call 46 [.sc (.int .i64 1),.lst false 1 B5 (List.take (B5*1) (List.drop 0 B9))]) fun Cy C7=>Ac C7<|Ab Cy fun Cr C3=>Af .u64 Cr fun Df=>Ac C3<|Aa (IntKind.wrap .i64 (y4+1)) fun Ds=>G1 fu call a0 a1 a2 a3 a4 (nn) (y0) (y1) (y2) Df Ds) (some (A8.mk [.sc (.int .u64 y3)] []))):=by kernel_rfl
theorem Z1 (fu d:Nat)(a0 a1:Int)(a2 a3 a4:Int):Ae C0 Tryz.prog fu (d+1) Qa [.sc (.int .i64 a0),.sc (.int .i64 a1),.sc (.int .i64 a2),.sc (.int .i64 a3),.sc (.int .u64 a4)]=(fun (call:Ak)=>Aa (if a2<0 then 0 else a2) fun x1=>G1 fu call a0 a1 a2 a3 a4 (fu) (a0) (a1) (a3) (a4) x1) (Ae C0 Tryz.prog fu d):=by kernel_rfl
abbrev Lx:FuncId:=63
theorem Wf (fu d:Nat)(a0 a1 a2:Int):Ae C0 Tryz.prog fu (d+1) Lx [.sc (.int .u64 a0),.sc (.int .i64 a1),.sc (.int .i64 a2)]=(fun (call:Ak)=>Aa (IntKind.wrap .u64 a1) fun x1=>Aa (IntKind.wrap .u64 a2) fun x2=>Ah (call 38 [.lst false 1 2 [.sc (.int .u64 x1),.sc (.int .u64 x2)]]) fun x3 x4=>Ac x4<|Ab x3 fun x5 x6=>C8 1 x5 fun x7 x8=>Ac x6<|Ar (decide (0+x7*1≤List.length x8))<|Ah (call 79 [.sc (.int .u64 a0),.sc (.int .i64 1),.lst false 1 x7 (List.take (x7*1) (List.drop 0 x8))]) fun x9 B5=>Ac B5<|Ab x9 fun B9 Cy=>Af .u64 B9 fun C7=>Ac Cy<|some (A8.mk [.sc (.int .u64 C7)] [])) (Ae C0 Tryz.prog fu d):=by kernel_rfl
abbrev Oo:FuncId:=65
theorem Zb (fu d:Nat)(a0:Int)(a1n:Nat)(a1:List PV):Ae C0 Tryz.prog fu (d+1) Oo [.sc (.int .i64 a0),.lst false 1 a1n a1]=(fun (call:Ak)=>Aa (IntKind.wrap .u64 a0) fun x1=>Ah (call 38 [.lst false 1 1 [.sc (.int .u64 x1)]]) fun x2 x3=>Ac x3<|Ab x2 fun x4 x5=>C8 1 x4 fun x6 x7=>Ac x5<|Ah (call 38 [.lst false 1 a1n a1]) fun x8 x9=>Ac x9<|Ab x8 fun B5 B9=>C8 1 B5 fun Cy C7=>Ac B9<|Ar (decide (0+Cy*1≤List.length C7))<|Ar (decide (x6*1≤List.length x7)&&decide (List.length (List.take (Cy*1) (List.drop 0 C7))=Cy*1)&&decide ((x6+Cy)*1≤1099511627776)&&decide (x6+Cy≤1099511627776))<|Aa (x6+Cy) fun Cr=>Aa (List.take (x6*1) x7++List.take (Cy*1) (List.drop 0 C7)) fun C3=>Ar (decide (0+Cr*1≤List.length C3))<|Ah (call 46 [.sc (.int .i64 2),.lst false 1 Cr (List.take (Cr*1) (List.drop 0 C3))]) fun Df Ds=>Ac Ds<|Ab Df fun D2 D0=>Af .u64 D2 fun D6=>Ac D0<|some (A8.mk [.sc (.int .u64 D6)] [])) (Ae C0 Tryz.prog fu d):=by kernel_rfl
abbrev O1:FuncId:=64
noncomputable def F9 (fu:Nat)(call:Ak)(a0 a1:Int)(nn:Nat)(y0 y1:Int)(y2:Nat)(y3:Int)(y4:List PV):Option A8:=C5 C0 Tryz.prog fu call 64 Tryz.f64 (B7 Tryz.f64) [.sc (.int .u64 a0),.sc (.int .i64 a1)] [.r,.r,.l,.r,.l] nn ⟨lk [(0,(.sc (.int .u64 y0))),(1,(.sc (.int .i64 y1))),(5,(.view 5 1 0 y2)),(6,(.sc (.int .i64 y3)))],Gv [(5,(.ar false y4))]⟩
theorem Kl (fu:Nat)(call:Ak)(a0 a1:Int)(nn:Nat)(y0 y1:Int)(y2:Nat)(y3:Int)(y4:List PV):F9 fu call a0 a1 (nn+1) y0 y1 y2 y3 y4=(Be (decide (y3<18)) (Ah (call 63 [.sc (.int .u64 y0),.sc (.int .i64 y1),.sc (.int .i64 y3)]) fun x1 x2=>Ac x2<|Ab x1 fun x3 x4=>Af .u64 x3 fun x5=>Ac x4<|Ah (call 62 [.sc (.int .i64 y1),.sc (.int .i64 y3),.sc (.int .i64 0),.sc (.int .i64 15),.sc (.int .u64 x5)]) fun x6 x7=>Ac x7<|Ab x6 fun x8 x9=>Af .u64 x8 fun B5=>Ac x9<|Ar (decide (y2*1≤List.length y4)&&true&&decide ((y2+1)*8≤1099511627776)&&decide (y2+1≤1099511627776))<|Aa (y2+1) fun B9=>Aa (List.take (y2*1) y4++[.sc (.int .u64 B5)]) fun Cy=>Aa (IntKind.wrap .i64 (y3+1)) fun C7=>F9 fu call a0 a1 (nn) (y0) (y1) B9 C7 Cy) (Ar (decide (0+y2*1≤List.length y4))<|Ah (call 65 [.sc (.int .i64 y1),.lst false 1 y2 (List.take (y2*1) (List.drop 0 y4))]) fun Cr C3=>Ac C3<|Ab Cr fun Df Ds=>Af .u64 Df fun D2=>Ac Ds<|some (A8.mk [.sc (.int .u64 D2)] []))):=by kernel_rfl
theorem Za (fu d:Nat)(a0 a1:Int):Ae C0 Tryz.prog fu (d+1) O1 [.sc (.int .u64 a0),.sc (.int .i64 a1)]=(fun (call:Ak)=>F9 fu call a0 a1 (fu) (a0) (a1) 0 0 ([])) (Ae C0 Tryz.prog fu d):=by kernel_rfl
abbrev J7:FuncId:=36
noncomputable def Er (fu:Nat)(call:Ak)(a0 a1 a2:Int)(nn:Nat)(y0 y1:Int)(y2 y3:Nat)(y4:Int)(y5 y6:List PV):Option A8:=C5 C0 Tryz.prog fu call 36 Tryz.f36 (B7 Tryz.f36) [.sc (.int .u64 a0),.sc (.int .i64 a1),.sc (.int .u64 a2)] [.r,.r,.r,.l,.r,.l] nn ⟨lk [(0,(.sc (.int .u64 y0))),(1,(.sc (.int .i64 y1))),(7,(.view 7 1 0 y2)),(8,(.view 8 1 0 y3)),(9,(.sc (.int .i64 y4)))],Gv [(7,(.ar false y5)),(8,(.ar false y6))]⟩
theorem H7 (fu:Nat)(call:Ak)(a0 a1 a2:Int)(nn:Nat)(y0 y1:Int)(y2 y3:Nat)(y4:Int)(y5 y6:List PV):Er fu call a0 a1 a2 (nn+1) y0 y1 y2 y3 y4 y5 y6=(Be (decide (y4<18)) (Ar (decide (0≤y4)&&decide (y4<(↑y2:Int)))<|Af .i64 (List.getD y5 (0+Int.toNat y4*1) .top) fun x7=>Ah (call 63 [.sc (.int .u64 y0),.sc (.int .i64 y1),.sc (.int .i64 y4)]) fun x8 x9=>Ac x9<|Ab x8 fun B5 B9=>Af .u64 B5 fun Cy=>Ac B9<|Ah (call 62 [.sc (.int .i64 y1),.sc (.int .i64 y4),.sc (.int .i64 0),.sc (.int .i64 x7),.sc (.int .u64 Cy)]) fun C7 Cr=>Ac Cr<|Ab C7 fun C3 Df=>Af .u64 C3 fun Ds=>Ac Df<|Ar (decide (y3*1≤List.length y6)&&true&&decide ((y3+1)*8≤1099511627776)&&decide (y3+1≤1099511627776))<|Aa (y3+1) fun D2=>Aa (List.take (y3*1) y6++[.sc (.int .u64 Ds)]) fun D0=>Aa (IntKind.wrap .i64 (y4+1)) fun D6=>Er fu call a0 a1 a2 (nn) (y0) (y1) (y2) D2 D6 (y5) D0) (Ar (decide (y3*1≤List.length y6))<|some (A8.mk [.own 1 y3 (List.take (y3*1) y6)] []))):=by kernel_rfl
theorem S1 (fu d:Nat)(a0 a1 a2:Int):Ae C0 Tryz.prog fu (d+1) J7 [.sc (.int .u64 a0),.sc (.int .i64 a1),.sc (.int .u64 a2)]=(fun (call:Ak)=>Ah (call 61 [.sc (.int .u64 a2)]) fun x1 x2=>Ac x2<|Ab x1 fun x3 x4=>C8 1 x3 fun x5 x6=>Ac x4<|Er fu call a0 a1 a2 (fu) (a0) (a1) x5 0 0 x6 ([])) (Ae C0 Tryz.prog fu d):=by kernel_rfl
abbrev Kh:FuncId:=39
noncomputable def E9 (fu:Nat)(call:Ak)(a0 a1:Int)(a2n:Nat)(a2:List PV)(nn:Nat)(y0:Int)(y1:Nat)(y2:List PV)(y3 y4:Nat)(y5:Int)(y6 y7:List PV):Option A8:=C5 C0 Tryz.prog fu call 39 Tryz.f39 (B7 Tryz.f39) [.sc (.int .i64 a0),.sc (.int .u64 a1),.lst false 1 a2n a2] [.r,.r,.r,.r,.l,.r,.l] nn ⟨lk [(0,(.sc (.int .i64 y0))),(2,(.lst false 1 y1 y2)),(8,(.view 8 1 0 y3)),(9,(.view 9 1 0 y4)),(10,(.sc (.int .i64 y5)))],Gv [(8,(.ar false y6)),(9,(.ar false y7))]⟩
theorem Iq (fu:Nat)(call:Ak)(a0 a1:Int)(a2n:Nat)(a2:List PV)(nn:Nat)(y0:Int)(y1:Nat)(y2:List PV)(y3 y4:Nat)(y5:Int)(y6 y7:List PV):E9 fu call a0 a1 a2n a2 (nn+1) y0 y1 y2 y3 y4 y5 y6 y7=(Be (decide (y5<18)) (Ar (decide (0≤y5)&&decide (y5<(↑y3:Int)))<|Af .i64 (List.getD y6 (0+Int.toNat y5*1) .top) fun x7=>Ar (decide (0≤y5)&&decide (y5<(↑y1:Int)))<|Af .u64 (List.getD y2 (Int.toNat y5*1) .top) fun x8=>Ah (call 62 [.sc (.int .i64 y0),.sc (.int .i64 y5),.sc (.int .i64 x7),.sc (.int .i64 15),.sc (.int .u64 x8)]) fun x9 B5=>Ac B5<|Ab x9 fun B9 Cy=>Af .u64 B9 fun C7=>Ac Cy<|Ar (decide (y4*1≤List.length y7)&&true&&decide ((y4+1)*8≤1099511627776)&&decide (y4+1≤1099511627776))<|Aa (y4+1) fun Cr=>Aa (List.take (y4*1) y7++[.sc (.int .u64 C7)]) fun C3=>Aa (IntKind.wrap .i64 (y5+1)) fun Df=>E9 fu call a0 a1 a2n a2 (nn) (y0) (y1) (y2) (y3) Cr Df (y6) C3) (Ar (decide (0+y4*1≤List.length y7))<|Ah (call 65 [.sc (.int .i64 y0),.lst false 1 y4 (List.take (y4*1) (List.drop 0 y7))]) fun Ds D2=>Ac D2<|Ab Ds fun D0 D6=>Af .u64 D0 fun F1=>Ac D6<|some (A8.mk [.sc (.int .u64 F1),.sc (.int .i64 0)] []))):=by kernel_rfl
theorem T0 (fu d:Nat)(a0 a1:Int)(a2n:Nat)(a2:List PV):Ae C0 Tryz.prog fu (d+1) Kh [.sc (.int .i64 a0),.sc (.int .u64 a1),.lst false 1 a2n a2]=(fun (call:Ak)=>Be ((↑a2n:Int) != 18) (some (A8.mk [.sc (.int .u64 0),.sc (.int .i64 4)] [])) (Ah (call 61 [.sc (.int .u64 a1)]) fun x1 x2=>Ac x2<|Ab x1 fun x3 x4=>C8 1 x3 fun x5 x6=>Ac x4<|E9 fu call a0 a1 a2n a2 (fu) (a0) (a2n) (a2) x5 0 0 x6 ([]))) (Ae C0 Tryz.prog fu d):=by kernel_rfl
abbrev Lz:FuncId:=40
theorem Vn (fu d:Nat)(a0 a1 a2:Int):Ae C0 Tryz.prog fu (d+1) Lz [.sc (.int .i64 a0),.sc (.int .u64 a1),.sc (.int .u64 a2)]=(fun (call:Ak)=>Aa (IntKind.wrap .u64 a0) fun x1=>Ah (call 38 [.lst false 1 3 [.sc (.int .u64 x1),.sc (.int .u64 a1),.sc (.int .u64 a2)]]) fun x2 x3=>Ac x3<|Ab x2 fun x4 x5=>C8 1 x4 fun x6 x7=>Ac x5<|Ar (decide (0+x6*1≤List.length x7))<|Ah (call 46 [.sc (.int .i64 3),.lst false 1 x6 (List.take (x6*1) (List.drop 0 x7))]) fun x8 x9=>Ac x9<|Ab x8 fun B5 B9=>Af .u64 B5 fun Cy=>Ac B9<|some (A8.mk [.sc (.int .u64 Cy)] [])) (Ae C0 Tryz.prog fu d):=by kernel_rfl
abbrev Ow:FuncId:=37
theorem Pk (fu d:Nat)(a0 a1 a2:Int):Ae C0 Tryz.prog fu (d+1) Ow [.sc (.int .u64 a0),.sc (.int .i64 a1),.sc (.int .i64 a2)]=(fun (call:Ak)=>Be (a1==0) (Ah (call 64 [.sc (.int .u64 a0),.sc (.int .i64 a2)]) fun x1 x2=>Ac x2<|Ab x1 fun x3 x4=>Af .u64 x3 fun x5=>Ac x4<|some (A8.mk [.sc (.int .u64 x5)] [])) (Aa (IntKind.wrap .i64 (a1-1)) fun x6=>Aa (IntKind.wrap .i64 (2*a2)) fun x7=>Ah (call 37 [.sc (.int .u64 a0),.sc (.int .i64 x6),.sc (.int .i64 x7)]) fun x8 x9=>Ac x9<|Ab x8 fun B5 B9=>Af .u64 B5 fun Cy=>Ac B9<|Aa (IntKind.wrap .i64 (a1-1)) fun C7=>Aa (IntKind.wrap .i64 (2*a2)) fun Cr=>Aa (IntKind.wrap .i64 (Cr+1)) fun C3=>Ah (call 37 [.sc (.int .u64 a0),.sc (.int .i64 C7),.sc (.int .i64 C3)]) fun Df Ds=>Ac Ds<|Ab Df fun D2 D0=>Af .u64 D2 fun D6=>Ac D0<|Ah (call 40 [.sc (.int .i64 a1),.sc (.int .u64 Cy),.sc (.int .u64 D6)]) fun F1 Ey=>Ac Ey<|Ab F1 fun Fs De=>Af .u64 Fs fun C9=>Ac De<|some (A8.mk [.sc (.int .u64 C9)] []))) (Ae C0 Tryz.prog fu d):=by kernel_rfl
abbrev Mn:FuncId:=34
theorem Vc (fu d:Nat)(a0 a1:Int):Ae C0 Tryz.prog fu (d+1) Mn [.sc (.int .u64 a0),.sc (.int .i64 a1)]=(fun (call:Ak)=>Ah (call 35 [.sc (.int .i64 a1)]) fun x1 x2=>Ac x2<|Ab x1 fun x3 x4=>Bz x3 fun x5=>Ac x4<|Be (!x5) (some (A8.mk [.agg [.sc (.int .i64 0),.sc (.int .u64 0)],.sc (.int .i64 9)] [])) (Ah (call 37 [.sc (.int .u64 a0),.sc (.int .i64 a1),.sc (.int .i64 0)]) fun x6 x7=>Ac x7<|Ab x6 fun x8 x9=>Af .u64 x8 fun B5=>Ac x9<|some (A8.mk [.agg [.sc (.int .i64 a1),.sc (.int .u64 B5)],.sc (.int .i64 0)] []))) (Ae C0 Tryz.prog fu d):=by kernel_rfl
abbrev Ok:FuncId:=17
noncomputable def F8 (fu:Nat)(call:Ak)(a0 a1:Int)(a2 a3:Int)(nn:Nat)(y0 y1:Int)(y2 y3 y4:Int)(y5 y6:Nat)(y7 y8:List PV)(y9:Int)(Fu Ka:Nat)(Ot Uq:List PV):Option A8:=C5 C0 Tryz.prog fu call 17 Tryz.f17 (B7 Tryz.f17) [.sc (.int .u64 a0),.sc (.int .i64 a1),.sc (.int .i64 a2),.sc (.int .u64 a3)] [.r,.r,.r,.l,.r,.l] nn ⟨lk [(0,(.sc (.int .u64 y0))),(1,(.sc (.int .i64 y1))),(2,(.sc (.int .i64 y2))),(8,(.ptr 8 0)),(10,(.ptr 10 0)),(11,(.sc (.int .i64 y3)))],Gv [(8,(.st [(.sc (.int .i64 y4)),(.view 112 1 0 y5),(.view 164 1 0 y6)])),(112,(.ar false y7)),(164,(.ar false y8)),(10,(.st [(.sc (.int .i64 y9)),(.view 114 1 0 Fu),(.view 166 1 0 Ka)])),(114,(.ar false Ot)),(166,(.ar false Uq))]⟩
theorem Ku (fu:Nat)(call:Ak)(a0 a1:Int)(a2 a3:Int)(nn:Nat)(y0 y1:Int)(y2 y3 y4:Int)(y5 y6:Nat)(y7 y8:List PV)(y9:Int)(Fu Ka:Nat)(Ot Uq:List PV):F8 fu call a0 a1 a2 a3 (nn+1) y0 y1 y2 y3 y4 y5 y6 y7 y8 y9 Fu Ka Ot Uq=(Be (decide (y3<y1)) (Aa (IntKind.wrap .u64 y3) fun Cr=>Ar (decide (0≤Cr))<|Aa (Dx .i64 y2 Cr) fun C3=>Aa (Dv .i64 C3 1) fun Df=>Ah (call 37 [.sc (.int .u64 y0),.sc (.int .i64 y3),.sc (.int .i64 Df)]) fun Ds D2=>Ac D2<|Ab Ds fun D0 D6=>Af .u64 D0 fun F1=>Ac D6<|Ar (decide (Ka*1≤List.length Uq)&&true&&decide ((Ka+1)*8≤1099511627776)&&decide (Ka+1≤1099511627776))<|Aa (Ka+1) fun Ey=>Aa (List.take (Ka*1) Uq++[.sc (.int .u64 F1)]) fun Fs=>Aa (IntKind.wrap .i64 (y3+1)) fun De=>F8 fu call a0 a1 a2 a3 (nn) (y0) (y1) (y2) De (y4) (y5) (y6) (y7) (y8) (y9) (Fu) Ey (Ot) Fs) (Ar (decide (Fu*1≤List.length Ot))<|Ar (decide (Ka*1≤List.length Uq))<|some (A8.mk [.agg [.sc (.int .i64 y9),.own 1 Fu (List.take (Fu*1) Ot),.own 1 Ka (List.take (Ka*1) Uq)],.sc (.int .i64 0)] []))):=by kernel_rfl
theorem Yu (fu d:Nat)(a0 a1:Int)(a2 a3:Int):Ae C0 Tryz.prog fu (d+1) Ok [.sc (.int .u64 a0),.sc (.int .i64 a1),.sc (.int .i64 a2),.sc (.int .u64 a3)]=(fun (call:Ak)=>Ah (call 35 [.sc (.int .i64 a1)]) fun x1 x2=>Ac x2<|Ab x1 fun x3 x4=>Bz x3 fun x5=>Ac x4<|Be (!x5) (some (A8.mk [.agg [.sc (.int .i64 0),.own 1 0 [],.own 1 0 []],.sc (.int .i64 9)] [])) (Be (decide (a2<0)) (some (A8.mk [.agg [.sc (.int .i64 0),.own 1 0 [],.own 1 0 []],.sc (.int .i64 9)] [])) (Aa (IntKind.wrap .u64 a1) fun x6=>Ar (decide (0≤x6))<|Aa (Ew .i64 1 x6) fun x7=>Be (decide (a2≥x7)) (some (A8.mk [.agg [.sc (.int .i64 0),.own 1 0 [],.own 1 0 []],.sc (.int .i64 9)] [])) (Ah (call 36 [.sc (.int .u64 a0),.sc (.int .i64 a2),.sc (.int .u64 a3)]) fun x8 x9=>Ac x9<|Ab x8 fun B5 B9=>C8 1 B5 fun Cy C7=>Ac B9<|F8 fu call a0 a1 a2 a3 (fu) (a0) (a1) (a2) 0 0 0 0 ([]) ([]) (a2) Cy 0 C7 ([]))))) (Ae C0 Tryz.prog fu d):=by kernel_rfl
abbrev Mc:FuncId:=19
noncomputable def Eb (fu:Nat)(call:Ak)(a0_0 a0_1:Int)(a1 Nq:Int)(Hp:Nat)(Qw:List PV)(Hr:Nat)(R1:List PV)(nn:Nat)(y0 y1:Int)(y2 y3 y4:Int)(y5:Nat)(y6:List PV)(y7:Nat)(y8:List PV):Option A8:=C5 C0 Tryz.prog fu call 19 Tryz.f19 (B7 Tryz.f19) [.agg [.sc (.int .i64 a0_0),.sc (.int .u64 a0_1)],.sc (.int .u64 a1),.agg [.sc (.int .i64 Nq),.lst false 1 Hp Qw,.lst false 1 Hr R1]] [.r,.r,.r,.r,.l,.r,.l] nn ⟨lk [(3,(.ptr 3 0)),(5,(.ptr 5 0)),(7,(.sc (.int .u64 y0))),(9,(.sc (.int .i64 y1)))],Gv [(3,(.st [(.sc (.int .i64 y2)),(.sc (.int .u64 y3))])),(5,(.st [(.sc (.int .i64 y4)),(.lst false 1 y5 y6),(.lst false 1 y7 y8)]))]⟩
theorem Jk (fu:Nat)(call:Ak)(a0_0 a0_1:Int)(a1 Nq:Int)(Hp:Nat)(Qw:List PV)(Hr:Nat)(R1:List PV)(nn:Nat)(y0 y1:Int)(y2 y3 y4:Int)(y5:Nat)(y6:List PV)(y7:Nat)(y8:List PV):Eb fu call a0_0 a0_1 a1 Nq Hp Qw Hr R1 (nn+1) y0 y1 y2 y3 y4 y5 y6 y7 y8=(Be (decide (y1<y2)) (Aa (IntKind.wrap .u64 y1) fun Df=>Ar (decide (0≤Df))<|Aa (Dx .i64 y4 Df) fun Ds=>Aa (Dz .i64 Ds 1) fun D2=>Be (D2==0) (Aa (IntKind.wrap .i64 (y1+1)) fun D0=>Ar (decide (0≤y1)&&decide (y1<(↑y7:Int)))<|Af .u64 (List.getD y8 (Int.toNat y1*1) .top) fun D6=>Ah (call 40 [.sc (.int .i64 D0),.sc (.int .u64 y0),.sc (.int .u64 D6)]) fun F1 Ey=>Ac Ey<|Ab F1 fun Fs De=>Af .u64 Fs fun C9=>Ac De<|Aa (IntKind.wrap .i64 (y1+1)) fun Eu=>Eb fu call a0_0 a0_1 a1 Nq Hp Qw Hr R1 (nn) C9 Eu (y2) (y3) (y4) (y5) (y6) (y7) (y8)) (Aa (IntKind.wrap .i64 (y1+1)) fun F6=>Ar (decide (0≤y1)&&decide (y1<(↑y7:Int)))<|Af .u64 (List.getD y8 (Int.toNat y1*1) .top) fun Ef=>Ah (call 40 [.sc (.int .i64 F6),.sc (.int .u64 Ef),.sc (.int .u64 y0)]) fun Hn Hg=>Ac Hg<|Ab Hn fun G3 Ie=>Af .u64 G3 fun Hy=>Ac Ie<|Aa (IntKind.wrap .i64 (y1+1)) fun Ir=>Eb fu call a0_0 a0_1 a1 Nq Hp Qw Hr R1 (nn) Hy Ir (y2) (y3) (y4) (y5) (y6) (y7) (y8))) (Be (y0 != y3) (some (A8.mk [.sc (.int .i64 15)] [])) (some (A8.mk [.sc (.int .i64 0)] [])))):=by kernel_rfl
theorem V9 (fu d:Nat)(a0_0 a0_1:Int)(a1 Nq:Int)(Hp:Nat)(Qw:List PV)(Hr:Nat)(R1:List PV):Ae C0 Tryz.prog fu (d+1) Mc [.agg [.sc (.int .i64 a0_0),.sc (.int .u64 a0_1)],.sc (.int .u64 a1),.agg [.sc (.int .i64 Nq),.lst false 1 Hp Qw,.lst false 1 Hr R1]]=(fun (call:Ak)=>Ah (call 35 [.sc (.int .i64 a0_0)]) fun x1 x2=>Ac x2<|Ab x1 fun x3 x4=>Bz x3 fun x5=>Ac x4<|Be (!x5) (some (A8.mk [.sc (.int .i64 9)] [])) (Be (decide (Nq<0)) (some (A8.mk [.sc (.int .i64 9)] [])) (Aa (IntKind.wrap .u64 a0_0) fun x6=>Ar (decide (0≤x6))<|Aa (Ew .i64 1 x6) fun x7=>Be (decide (Nq≥x7)) (some (A8.mk [.sc (.int .i64 9)] [])) (Be ((↑Hp:Int) != 18) (some (A8.mk [.sc (.int .i64 4)] [])) (Be ((↑Hr:Int) != a0_0) (some (A8.mk [.sc (.int .i64 4)] [])) (Ah (call 39 [.sc (.int .i64 Nq),.sc (.int .u64 a1),.lst false 1 Hp Qw]) fun x8 x9=>Ac x9<|Ab x8 fun B5 B9=>Af .u64 B5 fun Cy=>Ab B9 fun C7 Cr=>Af .i64 C7 fun C3=>Ac Cr<|Eb fu call a0_0 a0_1 a1 Nq Hp Qw Hr R1 (fu) Cy 0 (a0_0) (a0_1) (Nq) (Hp) (Qw) (Hr) (R1))))))) (Ae C0 Tryz.prog fu d):=by kernel_rfl
abbrev Ji:FuncId:=68
theorem Rr (fu d:Nat)(a0_0 a0_1:Int):Ae C0 Tryz.prog fu (d+1) Ji [.agg [.sc (.int .i64 a0_0),.sc (.int .u64 a0_1)]]=(fun (call:Ak)=>Ah (call 35 [.sc (.int .i64 a0_0)]) fun x1 x2=>Ac x2<|Ab x1 fun x3 x4=>Bz x3 fun x5=>Ac x4<|Be (!x5) (some (A8.mk [.own 1 0 [],.sc (.int .i64 9)] [])) (Aa (IntKind.wrap .u8 a0_0) fun x6=>Ah (call 38 [.lst false 1 1 [.sc (.int .u64 a0_1)]]) fun x7 x8=>Ac x8<|Ab x7 fun x9 B5=>C8 1 x9 fun B9 Cy=>Ac B5<|Ar (decide (0+B9*1≤List.length Cy))<|Ar (decide (List.length (List.take (B9*1) (List.drop 0 Cy))=B9*1)&&decide ((1+B9)*1≤1099511627776)&&decide (1+B9≤1099511627776))<|Aa (1+B9) fun C7=>Aa ([.sc (.int .u8 x6)]++List.take (B9*1) (List.drop 0 Cy)) fun Cr=>Ar (decide (C7*1≤List.length Cr))<|some (A8.mk [.own 1 C7 (List.take (C7*1) Cr),.sc (.int .i64 0)] []))) (Ae C0 Tryz.prog fu d):=by kernel_rfl
abbrev Je:FuncId:=43
theorem Rs (fu d a0n:Nat)(a0:List PV):Ae C0 Tryz.prog fu (d+1) Je [.lst false 1 a0n a0]=(fun (call:Ak)=>Be ((↑a0n:Int) != 9) (some (A8.mk [.agg [.sc (.int .i64 0),.sc (.int .u64 0)],.sc (.int .i64 2)] [])) (Ar (decide (0<(↑a0n:Int)))<|Af .u8 (List.getD a0 0 .top) fun x1=>Aa (IntKind.wrap .i64 x1) fun x2=>Ah (call 35 [.sc (.int .i64 x2)]) fun x3 x4=>Ac x4<|Ab x3 fun x5 x6=>Bz x5 fun x7=>Ac x6<|Be (!x7) (some (A8.mk [.agg [.sc (.int .i64 0),.sc (.int .u64 0)],.sc (.int .i64 2)] [])) (Ar (decide (0<(↑a0n:Int)))<|Af .u8 (List.getD a0 0 .top) fun x8=>Aa (IntKind.wrap .i64 x8) fun x9=>Ar (decide (1≤a0n)&&decide (a0n≤a0n))<|Aa (a0n-1) fun B5=>Aa (List.take (B5*1) (List.drop 1 a0)) fun B9=>Ah (call 53 [.lst false 1 B5 B9]) fun Cy C7=>Ac C7<|Ab Cy fun Cr C3=>Af .u64 Cr fun Df=>Ac C3<|some (A8.mk [.agg [.sc (.int .i64 x9),.sc (.int .u64 Df)],.sc (.int .i64 0)] [])))) (Ae C0 Tryz.prog fu d):=by kernel_rfl
abbrev G0:FuncId:=18
theorem Md (fu d:Nat)(a0_0:Int)(Tt:Nat)(a0_1:List PV)(a0_2n:Nat)(a0_2:List PV):Ae C0 Tryz.prog fu (d+1) G0 [.agg [.sc (.int .i64 a0_0),.lst false 1 Tt a0_1,.lst false 1 a0_2n a0_2]]=(fun (call:Ak)=>Be (decide ((↑a0_2n:Int)>4)) (some (A8.mk [.own 1 0 [],.sc (.int .i64 9)] [])) (Be (decide (a0_0<0)) (some (A8.mk [.own 1 0 [],.sc (.int .i64 9)] [])) (Aa (IntKind.wrap .u64 (↑a0_2n:Int)) fun x1=>Ar (decide (0≤x1))<|Aa (Ew .i64 1 x1) fun x2=>Be (decide (a0_0≥x2)) (some (A8.mk [.own 1 0 [],.sc (.int .i64 9)] [])) (Be ((↑Tt:Int) != 18) (some (A8.mk [.own 1 0 [],.sc (.int .i64 4)] [])) (Aa (IntKind.wrap .u8 a0_0) fun x3=>Aa (IntKind.wrap .u8 (↑a0_2n:Int)) fun x4=>Ah (call 38 [.lst false 1 Tt a0_1]) fun x5 x6=>Ac x6<|Ab x5 fun x7 x8=>C8 1 x7 fun x9 B5=>Ac x8<|Ar (decide (0+x9*1≤List.length B5))<|Ar (decide (List.length (List.take (x9*1) (List.drop 0 B5))=x9*1)&&decide ((2+x9)*1≤1099511627776)&&decide (2+x9≤1099511627776))<|Aa (2+x9) fun B9=>Aa ([.sc (.int .u8 x3),.sc (.int .u8 x4)]++List.take (x9*1) (List.drop 0 B5)) fun Cy=>Ah (call 38 [.lst false 1 a0_2n a0_2]) fun C7 Cr=>Ac Cr<|Ab C7 fun C3 Df=>C8 1 C3 fun Ds D2=>Ac Df<|Ar (decide (0+Ds*1≤List.length D2))<|Ar (decide (B9*1≤List.length Cy)&&decide (List.length (List.take (Ds*1) (List.drop 0 D2))=Ds*1)&&decide ((B9+Ds)*1≤1099511627776)&&decide (B9+Ds≤1099511627776))<|Aa (B9+Ds) fun D0=>Aa (List.take (B9*1) Cy++List.take (Ds*1) (List.drop 0 D2)) fun D6=>Ar (decide (D0*1≤List.length D6))<|some (A8.mk [.own 1 D0 (List.take (D0*1) D6),.sc (.int .i64 0)] [])))))) (Ae C0 Tryz.prog fu d):=by kernel_rfl
abbrev Ma:FuncId:=52
noncomputable def Fl (fu:Nat)(call:Ak)(a0 a1 a2:Int)(nn:Nat)(y0 y1 y2:Int)(y3:Nat)(y4:Int)(y5:List PV):Option A8:=C5 C0 Tryz.prog fu call 52 Tryz.f52 (B7 Tryz.f52) [.sc (.int .u64 a0),.sc (.int .u64 a1),.sc (.int .i64 a2)] [.r,.r,.r,.l,.r,.l] nn ⟨lk [(0,(.sc (.int .u64 y0))),(1,(.sc (.int .u64 y1))),(2,(.sc (.int .i64 y2))),(7,(.view 7 1 0 y3)),(8,(.sc (.int .i64 y4)))],Gv [(7,(.ar false y5))]⟩
theorem Gk (fu:Nat)(call:Ak)(a0 a1 a2:Int)(nn:Nat)(y0 y1 y2:Int)(y3:Nat)(y4:Int)(y5:List PV):Fl fu call a0 a1 a2 (nn+1) y0 y1 y2 y3 y4 y5=(Be (decide ((↑y3:Int)<y2)) (Aa (IntKind.wrap .u64 y4) fun x3=>Ah (call 38 [.lst false 1 2 [.sc (.int .u64 y1),.sc (.int .u64 x3)]]) fun x4 x5=>Ac x5<|Ab x4 fun x6 x7=>C8 1 x6 fun x8 x9=>Ac x7<|Ar (decide (0+x8*1≤List.length x9))<|Ah (call 79 [.sc (.int .u64 y0),.sc (.int .i64 5),.lst false 1 x8 (List.take (x8*1) (List.drop 0 x9))]) fun B5 B9=>Ac B9<|Ab B5 fun Cy C7=>Af .u64 Cy fun Cr=>Ac C7<|Ah (call 38 [.lst false 1 1 [.sc (.int .u64 Cr)]]) fun C3 Df=>Ac Df<|Ab C3 fun Ds D2=>C8 1 Ds fun D0 D6=>Ac D2<|Ar (decide (0+D0*1≤List.length D6))<|Ar (decide (y3*1≤List.length y5)&&decide (List.length (List.take (D0*1) (List.drop 0 D6))=D0*1)&&decide ((y3+D0)*1≤1099511627776)&&decide (y3+D0≤1099511627776))<|Aa (y3+D0) fun F1=>Aa (List.take (y3*1) y5++List.take (D0*1) (List.drop 0 D6)) fun Ey=>Aa (IntKind.wrap .i64 (y4+1)) fun Fs=>Fl fu call a0 a1 a2 (nn) (y0) (y1) (y2) F1 Fs Ey) (Ar (decide (0≤y2))<|Ar (decide (Int.toNat y2≤y3))<|Aa (Int.toNat y2-0) fun De=>Ar (decide (De*1≤List.length y5))<|some (A8.mk [.own 1 De (List.take (De*1) y5)] []))):=by kernel_rfl
theorem U6 (fu d:Nat)(a0 a1 a2:Int):Ae C0 Tryz.prog fu (d+1) Ma [.sc (.int .u64 a0),.sc (.int .u64 a1),.sc (.int .i64 a2)]=(fun (call:Ak)=>Aa (if a2<0 then 0 else a2) fun x1=>Aa (if 1024<x1 then 1024 else x1) fun x2=>Fl fu call a0 a1 a2 (fu) (a0) (a1) x2 0 0 ([])) (Ae C0 Tryz.prog fu d):=by kernel_rfl
end
section
def Asc (seed leaf chain:Int):Int:=A0c seed 1 (A5 [IntKind.wrap .u64 leaf,IntKind.wrap .u64 chain])
def Ak9 (seed leaf:Int)(c:Nat):Int:=Sd leaf c 15 0 (Asc seed leaf c)
def Mv (seed leaf:Int):Int:=Adk leaf ((List.range 18).map (Ak9 seed leaf))
def Alh (seed leaf m:Int)(c:Nat):Int:=Sd leaf c (dg m c).toNat 0 (Asc seed leaf c)
def Xl (seed leaf m:Int):List Int:=(List.range 18).map (Alh seed leaf m)
def Ip (seed:Int):Nat→Int→Int
 |0,i=>Mv seed i
 |l+1,i=>Lo ((l+1:Nat):Int) (Ip seed l (2*i)) (Ip seed l (2*i+1))
theorem Pi {α:Type}(f:Nat→α)(i:Nat):(List.range (i+1)).map f=(List.range i).map f++[f i]:=by
 rw [List.range_succ,List.map_append]
 rfl
section
variable {fu d:Nat}
theorem Pm (h:Int):Ae C0 Tryz.prog fu (d+1) Lw [.sc (.int .i64 h)]=some ⟨[.sc (.bool (!Cl h))],[]⟩:=by
 rw [U5]
 unfold Cl
 by_cases h0:h<0
 ·simp (disch:=omega) only [Bx,h0,decide_true,Bool.true_or,Bool.not_true]
 ·have e:decide (h≤4) = !decide (h>4):=by
   by_cases c:h≤4
   ·have:¬h>4:=by omega
    simp [c,this]
   ·have:h>4:=by omega
    simp [c,this]
  simp (disch:=omega) only [Bx,h0,decide_false,Bool.false_or,e]
theorem Ara {ws:List Int}(hl:ws.length≤100)(hfu:1000≤fu)(dom:Int):Ae C0 Tryz.prog fu (d+4) I7 [.sc (.int .i64 dom),.lst false 1 (A5 ws).length (Ag .u8 (A5 ws))]=some ⟨[.sc (.int .u64 (D3 dom (A5 ws)))],[]⟩:=
 Vw (Rk ws) (by rw [Cm];omega) (by omega) (by rw [Cm];omega) dom
theorem Adc {call:Ak}{a0 m:Int}:∀(k nn:Nat)(i:Nat),i+k=16→k<nn →
  Fz fu call a0 nn m ((List.range i).map (F7 m)).length (I0 m i) (15-(i:Int)) (Ag .i64 ((List.range i).map (F7 m)))=some ⟨[.own 1 18 (Ag .i64 (dgs m))],[]⟩
 |_,0,_,_,h=>by omega
 |0,nn+1,i,hi,hn=>by
  have e:i=16:=by omega
  subst e
  have hs:=Jb m 16
  have wq:IntKind.wrap .i64 (Int.tdiv (I0 m 16) 16)=I0 m 16 / 16:=by
   rw [Int.tdiv_eq_ediv_of_nonneg (by omega),Aq (by omega) (by omega)]
  have wm:Int.tmod (I0 m 16) 16=I0 m 16 % 16:=Int.tmod_eq_emod_of_nonneg (by omega)
  have e2:Ag .i64 ((List.range 16).map (F7 m))++[PV.sc (.int .i64 (I0 m 16 / 16)),PV.sc (.int .i64 (I0 m 16 % 16))]=Ag .i64 (dgs m):=by
   unfold dgs
   rw [Ag,Ag,List.flatMap_append]
   rfl
  have L:(Ag .i64 (dgs m)).length=18:=by rw [Aj,As5]
  have tk:List.take 18 (Ag .i64 (dgs m))=Ag .i64 (dgs m):=List.take_of_length_le (by omega)
  have l16:((List.range 16).map (F7 m)).length=16:=by simp
  have L16:=Aj .i64 ((List.range 16).map (F7 m))
  have t16:=Gw .i64 ((List.range 16).map (F7 m))
  rw [l16] at L16 t16 ⊢
  rw [J8,Dl _ _ _ (by omega)]
  simp (disch:=omega) only [Bx,wq,wm,Nat.mul_one,t16,e2,L16,Nat.reduceAdd,L,tk]
 |k+1,nn+1,i,hi,hn=>by
  have ih:=Adc (call:=call) (a0:=a0) (m:=m) k nn (i+1) (by omega) (by omega)
  have hb:=P7 m i
  have hs:=Jb m i
  have w1:IntKind.wrap .i64 (4*(15-(i:Int)))=60-4*(i:Int):=by rw [Aq (by omega) (by omega)];omega
  have w2:IntKind.wrap .u64 (60-4*(i:Int))=60-4*(i:Int):=Bq (by omega) (by omega)
  have hd:IntKind.wrap .i64 (Dz .u64 (Dx .u64 m (60-4*(i:Int))) 15)=F7 m i:=rfl
  have w15:IntKind.wrap .i64 (15-F7 m i)=15-F7 m i:=Aq (by omega) (by omega)
  have ws:IntKind.wrap .i64 (I0 m i+(15-F7 m i))=I0 m (i+1):=by rw [Aq (by omega) (by omega)];rfl
  have wi:IntKind.wrap .i64 (15-(i:Int)-1)=15-((i+1:Nat):Int):=by rw [Aq (by omega) (by omega)];omega
  have L:=Aj .i64 ((List.range i).map (F7 m))
  have l16:((List.range i).map (F7 m)).length=i:=by simp
  rw [Pi,List.length_append,List.length_singleton,←Fi] at ih
  rw [J8]
  simp (disch:=omega) only [Bx,w1,w2,hd,w15,ws,wi,Nat.mul_one,Gw,L]
  exact ih
theorem Akl (hfu:1000≤fu)(m:Int):Ae C0 Tryz.prog fu (d+1) M5 [.sc (.int .u64 m)]=some ⟨[.own 1 18 (Ag .i64 (dgs m))],[]⟩:=by
 rw [W6]
 exact Adc (fu:=fu) (a0:=m) (m:=m) 16 fu 0 (by omega) (by omega)
theorem Ajh {leaf chain:Int}{a0 a1 a2 a3 a4:Int}(hfu:1000≤fu){t:Int}(ht:t≤15):∀(k nn:Nat)(p x:Int),(k:Int)=t-p→0≤p→k<nn →
  G1 fu (Ae C0 Tryz.prog fu (d+4)) a0 a1 a2 a3 a4 nn leaf chain t x p=some ⟨[.sc (.int .u64 (Sd leaf chain k p x))],[]⟩
 |_,0,_,_,_,_,h=>by omega
 |0,nn+1,p,x,hk,hp,hn=>by
  rw [L5]
  simp only [Gn]
  rw [if_neg (by omega),Dl _ _ _ (by omega)]
  rfl
 |k+1,nn+1,p,x,hk,hp,hn=>by
  have w:IntKind.wrap .i64 (p+1)=p+1:=Aq (by omega) (by omega)
  have wd:Ae C0 Tryz.prog fu (d+4) Dm [.lst false 1 4 [.sc (.int .u64 (IntKind.wrap .u64 leaf)),.sc (.int .u64 (IntKind.wrap .u64 chain)),.sc (.int .u64 (IntKind.wrap .u64 p)),.sc (.int .u64 x)]]=_:=Jo (ws:=[IntKind.wrap .u64 leaf,IntKind.wrap .u64 chain,IntKind.wrap .u64 p,x]) (by simp) (by omega) (by simp;omega)
  have hs:=Ara (fu:=fu) (d:=d) (ws:=[IntKind.wrap .u64 leaf,IntKind.wrap .u64 chain,IntKind.wrap .u64 p,x]) (by simp) hfu 1
  have ih:=Ajh (leaf:=leaf) (chain:=chain) (a0:=a0) (a1:=a1) (a2:=a2) (a3:=a3) (a4:=a4) hfu ht k nn (p+1) (D3 1 (A5 [IntKind.wrap .u64 leaf,IntKind.wrap .u64 chain,IntKind.wrap .u64 p,x])) (by omega) (by omega) (by omega)
  have L:=Aj .u8 (A5 [IntKind.wrap .u64 leaf,IntKind.wrap .u64 chain,IntKind.wrap .u64 p,x])
  have eR:Sd leaf chain (k+1) p x=Sd leaf chain k (p+1) (D3 1 (A5 [IntKind.wrap .u64 leaf,IntKind.wrap .u64 chain,IntKind.wrap .u64 p,x])):=rfl
  rw [eR]
  generalize A5 [IntKind.wrap .u64 leaf,IntKind.wrap .u64 chain,IntKind.wrap .u64 p,x]=W at wd hs ih L ⊢
  have e15:(if (15:Int)<t then 15 else t)=t:=if_neg (by omega)
  rw [L5]
  simp (disch:=omega) only [Bx,e15,wd,Nat.mul_one,Nat.zero_add,List.drop_zero,Gw,L,hs,w]
  exact ih
theorem Al5 {leaf chain:Int}(hfu:1000≤fu)(k:Nat)(f t x:Int)(hk:(k:Int)=t-f) (h0:0≤f)(h1:t≤15):Ae C0 Tryz.prog fu (d+5) Qa [.sc (.int .i64 leaf),.sc (.int .i64 chain),.sc (.int .i64 f),.sc (.int .i64 t),.sc (.int .u64 x)]=some ⟨[.sc (.int .u64 (Sd leaf chain k f x))],[]⟩:=by
 rw [Z1]
 simp only [Gn]
 rw [if_neg (by omega)]
 exact Ajh hfu h1 k fu f x hk h0 (by omega)
theorem Afs (hfu:1000≤fu)(seed leaf chain:Int):Ae C0 Tryz.prog fu (d+5) Lx [.sc (.int .u64 seed),.sc (.int .i64 leaf),.sc (.int .i64 chain)]=some ⟨[.sc (.int .u64 (Asc seed leaf chain))],[]⟩:=by
 have wd:Ae C0 Tryz.prog fu (d+4) Dm [.lst false 1 2 [.sc (.int .u64 (IntKind.wrap .u64 leaf)),.sc (.int .u64 (IntKind.wrap .u64 chain))]]=_:=Jo (ws:=[IntKind.wrap .u64 leaf,IntKind.wrap .u64 chain]) (by simp) (by omega) (by simp;omega)
 have hs:=Ath (fu:=fu) (d:=d) (Rk [IntKind.wrap .u64 leaf,IntKind.wrap .u64 chain]) (by rw [Cm];simp) (by omega) (by rw [Cm];simp;omega) seed 1
 have L:=Aj .u8 (A5 [IntKind.wrap .u64 leaf,IntKind.wrap .u64 chain])
 rw [Wf]
 unfold Asc
 generalize A5 [IntKind.wrap .u64 leaf,IntKind.wrap .u64 chain]=W at wd hs L ⊢
 simp (disch:=omega) only [Bx,wd,Nat.mul_one,Nat.zero_add,List.drop_zero,Gw,L,hs]
theorem Aro (hfu:1000≤fu)(w:Int):Ae C0 Tryz.prog fu (d+1) Dm [.lst false 1 1 [.sc (.int .u64 w)]]=some ⟨[.own 1 8 (Ag .u8 (Bp w))],[]⟩:=by
 have:=Jo (fu:=fu) (d:=d) (ws:=[w]) (by simp) (by omega) (by simp;omega)
 simp only [A5,List.flatMap_cons,List.flatMap_nil,List.append_nil,List.length_cons,List.length_nil,Cc] at this
 exact this
theorem Aoe (hfu:1000≤fu)(leaf:Int){E:List Int}(hE:E.length≤50):Ae C0 Tryz.prog fu (d+5) Oo [.sc (.int .i64 leaf),.lst false 1 E.length (Ag .u64 E)]=some ⟨[.sc (.int .u64 (Adk leaf E))],[]⟩:=by
 have w1:=Aro (fu:=fu) (d:=d+3) hfu (IntKind.wrap .u64 leaf)
 have w2:=Jo (fu:=fu) (d:=d+3) (ws:=E) (by omega) (by omega) (by omega)
 have hs:=Ara (fu:=fu) (d:=d) (ws:=IntKind.wrap .u64 leaf::E) (by simp;omega) hfu 2
 have eW:A5 (IntKind.wrap .u64 leaf::E)=Bp (IntKind.wrap .u64 leaf)++A5 E:=rfl
 have eC:Ag .u8 (Bp (IntKind.wrap .u64 leaf))++Ag .u8 (A5 E)=Ag .u8 (A5 (IntKind.wrap .u64 leaf::E)):=by
  rw [eW,Ag,Ag,Ag,List.flatMap_append]
 have l0:(Bp (IntKind.wrap .u64 leaf)).length=8:=Cc _
 have l1:=Cm E
 have l2:(A5 (IntKind.wrap .u64 leaf::E)).length=8+(A5 E).length:=by rw [eW,List.length_append,l0]
 have L0:=Aj .u8 (Bp (IntKind.wrap .u64 leaf))
 rw [l0] at L0
 have L1:=Aj .u8 (A5 E)
 have L2:=Aj .u8 (A5 (IntKind.wrap .u64 leaf::E))
 have t8:List.take 8 (Ag .u8 (Bp (IntKind.wrap .u64 leaf)))=Ag .u8 (Bp (IntKind.wrap .u64 leaf)):=List.take_of_length_le (by omega)
 have tW:List.take (8+(A5 E).length) (Ag .u8 (A5 (IntKind.wrap .u64 leaf::E)))=Ag .u8 (A5 (IntKind.wrap .u64 leaf::E)):=List.take_of_length_le (by omega)
 rw [l2] at hs
 rw [Zb]
 simp (disch:=omega) only [Bx,w1,w2,Nat.mul_one,Nat.zero_add,List.drop_zero,Gw,t8,L0,L1,eC,L2,tW,hs]
 rfl
theorem Agk {a0 a1 seed leaf:Int}(hfu:1000≤fu):∀(k nn i:Nat),i+k=18→k<nn →
  F9 fu (Ae C0 Tryz.prog fu (d+5)) a0 a1 nn seed leaf ((List.range i).map (Ak9 seed leaf)).length i (Ag .u64 ((List.range i).map (Ak9 seed leaf)))=some ⟨[.sc (.int .u64 (Mv seed leaf))],[]⟩
 |_,0,_,_,h=>by omega
 |0,nn+1,i,hi,hn=>by
  have e:i=18:=by omega
  subst e
  have l18:((List.range 18).map (Ak9 seed leaf)).length=18:=by simp
  have en:=Aoe (fu:=fu) (d:=d) hfu leaf (E:=(List.range 18).map (Ak9 seed leaf)) (by omega)
  have L:=Aj .u64 ((List.range 18).map (Ak9 seed leaf))
  rw [Kl,Dl _ _ _ (by omega)]
  simp (disch:=omega) only [Bx,Nat.mul_one,Nat.zero_add,List.drop_zero,Gw,L,en]
  rfl
 |k+1,nn+1,i,hi,hn=>by
  have ih:=Agk (a0:=a0) (a1:=a1) (seed:=seed) (leaf:=leaf) hfu k nn (i+1) (by omega) (by omega)
  have sc:=Afs (fu:=fu) (d:=d) hfu seed leaf i
  have rn:=Al5 (fu:=fu) (d:=d) (leaf:=leaf) (chain:=i) hfu 15 0 15 (Asc seed leaf i) (by omega) (by omega) (by omega)
  have w:IntKind.wrap .i64 ((i:Int)+1)=((i+1:Nat):Int):=by rw [Aq (by omega) (by omega)];omega
  have L:=Aj .u64 ((List.range i).map (Ak9 seed leaf))
  have li:((List.range i).map (Ak9 seed leaf)).length=i:=by simp
  rw [Pi,List.length_append,List.length_singleton,←Fi] at ih
  rw [Kl]
  simp (disch:=omega) only [Bx,sc,rn,Nat.mul_one,Gw,L,w]
  exact ih
theorem Axf (hfu:1000≤fu)(seed leaf:Int):Ae C0 Tryz.prog fu (d+6) O1 [.sc (.int .u64 seed),.sc (.int .i64 leaf)]=some ⟨[.sc (.int .u64 (Mv seed leaf))],[]⟩:=by
 rw [Za]
 exact Agk (fu:=fu) (d:=d) hfu 18 fu 0 (by omega) (by omega)
theorem A07 (m:Int){i:Nat}(h:i<18):(dgs m)[i]?=some (dg m i):=by
 unfold dg
 rw [List.getD_eq_getElem?_getD,List.getElem?_eq_getElem (by rw [As5];omega)]
 rfl
theorem V2 {a0 a1 a2 seed leaf m:Int}(hfu:1000≤fu):∀(k nn i:Nat),i+k=18→k<nn →
  Er fu (Ae C0 Tryz.prog fu (d+5)) a0 a1 a2 nn seed leaf 18 ((List.range i).map (Alh seed leaf m)).length i (Ag .i64 (dgs m)) (Ag .u64 ((List.range i).map (Alh seed leaf m)))=some ⟨[.own 1 18 (Ag .u64 (Xl seed leaf m))],[]⟩
 |_,0,_,_,h=>by omega
 |0,nn+1,i,hi,hn=>by
  have e:i=18:=by omega
  subst e
  have l18:((List.range 18).map (Alh seed leaf m)).length=18:=by simp
  have L:=Aj .u64 ((List.range 18).map (Alh seed leaf m))
  rw [H7,Dl _ _ _ (by omega)]
  simp (disch:=omega) only [Bx,Nat.mul_one,Gw,L]
  rw [l18]
  rfl
 |k+1,nn+1,i,hi,hn=>by
  have ih:=V2 (a0:=a0) (a1:=a1) (a2:=a2) (seed:=seed) (leaf:=leaf) (m:=m) hfu k nn (i+1) (by omega) (by omega)
  have hb:=Wl m i
  have sc:=Afs (fu:=fu) (d:=d) hfu seed leaf i
  have rn:=Al5 (fu:=fu) (d:=d) (leaf:=leaf) (chain:=i) hfu (dg m i).toNat 0 (dg m i) (Asc seed leaf i) (by omega) (by omega) (by omega)
  have w:IntKind.wrap .i64 ((i:Int)+1)=((i+1:Nat):Int):=by rw [Aq (by omega) (by omega)];omega
  have L:=Aj .u64 ((List.range i).map (Alh seed leaf m))
  have li:((List.range i).map (Alh seed leaf m)).length=i:=by simp
  rw [Pi,List.length_append,List.length_singleton,←Fi] at ih
  rw [H7]
  simp (disch:=omega) only [Bx,Int.toNat_natCast,Nat.mul_one,Nat.zero_add,Ur (A07 m (show i<18 by omega)),sc,rn,Gw,L,w]
  exact ih
theorem Alt (hfu:1000≤fu)(seed leaf m:Int):Ae C0 Tryz.prog fu (d+6) J7 [.sc (.int .u64 seed),.sc (.int .i64 leaf),.sc (.int .u64 m)]=some ⟨[.own 1 18 (Ag .u64 (Xl seed leaf m))],[]⟩:=by
 rw [S1]
 have sp:=Akl (fu:=fu) (d:=d+4) hfu m
 simp only [Bx,sp]
 exact V2 (fu:=fu) (d:=d) hfu 18 fu 0 (by omega) (by omega)
theorem Xx {a0 a1:Int}{n:Nat}{c:List PV}{leaf m:Int}{s:List Int}(hs:s.length=18)(hfu:1000≤fu):∀(k nn i:Nat),i+k=18→k<nn →
  E9 fu (Ae C0 Tryz.prog fu (d+5)) a0 a1 n c nn leaf s.length (Ag .u64 s) 18 ((List.range i).map (Xt leaf m s)).length i (Ag .i64 (dgs m)) (Ag .u64 ((List.range i).map (Xt leaf m s)))=some ⟨[.sc (.int .u64 (Aia leaf m s)),.sc (.int .i64 0)],[]⟩
 |_,0,_,_,h=>by omega
 |0,nn+1,i,hi,hn=>by
  have e:i=18:=by omega
  subst e
  have l18:((List.range 18).map (Xt leaf m s)).length=18:=by simp
  have en:=Aoe (fu:=fu) (d:=d) hfu leaf (E:=(List.range 18).map (Xt leaf m s)) (by omega)
  have L:=Aj .u64 ((List.range 18).map (Xt leaf m s))
  rw [Iq,Dl _ _ _ (by omega)]
  simp (disch:=omega) only [Bx,Nat.mul_one,Nat.zero_add,List.drop_zero,Gw,L,en]
  rfl
 |k+1,nn+1,i,hi,hn=>by
  have ih:=Xx (a0:=a0) (a1:=a1) (n:=n) (c:=c) (leaf:=leaf) (m:=m) hs hfu k nn (i+1) (by omega) (by omega)
  obtain ⟨x,hx⟩:∃x,s[i]?=some x:=⟨_,List.getElem?_eq_getElem (by omega)⟩
  have hb:=Wl m i
  have rn:=Al5 (fu:=fu) (d:=d) (leaf:=leaf) (chain:=i) hfu (15-dg m i).toNat (dg m i) 15 x (by omega) (by omega) (by omega)
  have ev:Sd leaf i (15-dg m i).toNat (dg m i) x=Xt leaf m s i:=by
   unfold Xt
   rw [List.getD_eq_getElem?_getD,hx]
   rfl
  rw [ev] at rn
  have w:IntKind.wrap .i64 ((i:Int)+1)=((i+1:Nat):Int):=by rw [Aq (by omega) (by omega)];omega
  have L:=Aj .u64 ((List.range i).map (Xt leaf m s))
  have li:((List.range i).map (Xt leaf m s)).length=i:=by simp
  rw [Pi,List.length_append,List.length_singleton,←Fi] at ih
  rw [Iq]
  simp (disch:=omega) only [Bx,Int.toNat_natCast,Nat.mul_one,Nat.zero_add,Ur (A07 m (show i<18 by omega)),Ur hx,rn,Gw,L,w]
  exact ih
theorem Apv (hfu:1000≤fu)(leaf m:Int)(s:List Int):Ae C0 Tryz.prog fu (d+6) Kh [.sc (.int .i64 leaf),.sc (.int .u64 m),.lst false 1 s.length (Ag .u64 s)]=some ⟨(if s.length=18 then [.sc (.int .u64 (Aia leaf m s)),.sc (.int .i64 0)] else [.sc (.int .u64 0),.sc (.int .i64 4)]),[]⟩:=by
 refine (T0 fu (d+5) leaf m s.length (Ag .u64 s)).trans ?_
 by_cases h:s.length=18
 ·have sp:=Akl (fu:=fu) (d:=d+4) hfu m
  have lp:=Xx (fu:=fu) (d:=d) (a0:=leaf) (a1:=m) (n:=s.length) (c:=Ag .u64 s) (leaf:=leaf) (m:=m) h hfu 18 fu 0 (by omega) (by omega)
  simp only [C4]
  rw [if_pos h,if_pos (by omega)]
  simp only [Bx,sp]
  exact lp
 ·simp only [C4]
  rw [if_neg h,if_neg (by omega)]
theorem Yk (hfu:1000≤fu)(level a b:Int):Ae C0 Tryz.prog fu (d+5) Lz [.sc (.int .i64 level),.sc (.int .u64 a),.sc (.int .u64 b)]=some ⟨[.sc (.int .u64 (Lo level a b))],[]⟩:=by
 have wd:Ae C0 Tryz.prog fu (d+4) Dm [.lst false 1 3 [.sc (.int .u64 (IntKind.wrap .u64 level)),.sc (.int .u64 a),.sc (.int .u64 b)]]=_:=Jo (ws:=[IntKind.wrap .u64 level,a,b]) (by simp) (by omega) (by simp;omega)
 have hs:=Ara (fu:=fu) (d:=d) (ws:=[IntKind.wrap .u64 level,a,b]) (by simp) hfu 3
 have L:=Aj .u8 (A5 [IntKind.wrap .u64 level,a,b])
 rw [Vn]
 unfold Lo
 generalize A5 [IntKind.wrap .u64 level,a,b]=W at wd hs L ⊢
 simp (disch:=omega) only [Bx,wd,Nat.mul_one,Nat.zero_add,List.drop_zero,Gw,L,hs]
theorem Aa1 (hfu:1000≤fu)(seed:Int):∀(l:Nat)(i B:Int),0≤i→i≤B→(2 ^ l:Nat)*(B+1)≤1000000000→l≤20→Ae C0 Tryz.prog fu (d+7+l) Ow [.sc (.int .u64 seed),.sc (.int .i64 l),.sc (.int .i64 i)]=some ⟨[.sc (.int .u64 (Ip seed l i))],[]⟩
 |0,i,B,h0,h1,h2,hl=>by
  have lf:=Axf (fu:=fu) (d:=d) hfu seed i
  refine (Pk fu (d+6) seed 0 i).trans ?_
  simp only [Bx,Ej,if_true,lf]
  rfl
 |l+1,i,B,h0,h1,h2,hl=>by
  have hq:(2 ^ (l+1):Nat)=2 ^ l*2:=Nat.pow_succ _ _
  have hpos:0<2 ^ l:=Nat.pow_pos (by omega)
  rw [hq] at h2
  generalize hQ:2 ^ l=q at h2 hpos
  have hb:((q*2:Nat):Int)*(B+1)=(q:Int)*(2*B+1+1):=by
   rw [Int.natCast_mul,Int.mul_assoc]
   congr 1
   omega
  rw [hb] at h2
  have hBq:2*B+1+1≤(q:Int)*(2*B+1+1):=by
   have:=Int.mul_le_mul_of_nonneg_right (show (1:Int)≤q by omega) (show (0:Int)≤2*B+1+1 by omega)
   omega
  have n1:=Aa1 hfu seed l (2*i) (2*B+1) (by omega) (by omega) (by rw [hQ];exact h2) (by omega)
  have n2:=Aa1 hfu seed l (2*i+1) (2*B+1) (by omega) (by omega) (by rw [hQ];exact h2) (by omega)
  have pr:=Yk (fu:=fu) (d:=d+2+l) hfu ((l+1:Nat):Int) (Ip seed l (2*i)) (Ip seed l (2*i+1))
  rw [show d+2+l+5=d+7+l by omega] at pr
  have w1:IntKind.wrap .i64 (((l+1:Nat):Int)-1)=(l:Int):=by rw [Aq (by omega) (by omega)];omega
  have w2:IntKind.wrap .i64 (2*i)=2*i:=Aq (by omega) (by omega)
  have w3:IntKind.wrap .i64 (2*i+1)=2*i+1:=Aq (by omega) (by omega)
  have ne:¬(((l+1:Nat):Int)=0):=by omega
  refine (Pk fu (d+7+l) seed ((l+1:Nat):Int) i).trans ?_
  simp only [Bx,Ej,ne,if_false,w1,w2,w3,n1,n2,pr]
  rfl
end
end
section
def Dg (seed:Int)(h:Int):Ky:=if Cl h=true then ⟨0,0⟩ else ⟨h,Ip seed h.toNat 0⟩
def Uc (leaf:Int)(k:Nat):Int:=Dv .i64 (Dx .i64 leaf k) 1
def Air (seed:Int)(h leaf m:Int):Option Sg:=if Cl h=true then none else if E6 leaf h=true then none else some ⟨leaf,Xl seed leaf m,(List.range h.toNat).map fun k=>Ip seed k (Uc leaf k)⟩
def Wt (o:Option Sg):List PV:=match o with|some s=>[.agg s.owned,.sc (.int .i64 0)]|none=>[.agg (Sg.mk 0 [] []).owned,.sc (.int .i64 9)]
theorem wu {h:Int}(h0:0≤h)(h4:h≤4):IntKind.wrap .u64 h=h:=Bq (by omega) (by omega)
theorem Ar6 {leaf h:Int}(h0:0≤h)(h4:h≤4)(ho:E6 leaf h=false):0≤leaf∧leaf<2 ^ h.toNat:=by
 unfold E6 at ho
 simp only [Bool.or_eq_false_iff,decide_eq_false_iff_not] at ho
 have:h=0∨h=1∨h=2∨h=3∨h=4:=by omega
 rcases this with rfl|rfl|rfl|rfl|rfl
 ·have e:Ew .i64 1 0=1:=by decide
  rw [e] at ho
  exact ⟨by omega,by show leaf<1;omega⟩
 ·have e:Ew .i64 1 1=2:=by decide
  rw [e] at ho
  exact ⟨by omega,by show leaf<2;omega⟩
 ·have e:Ew .i64 1 2=4:=by decide
  rw [e] at ho
  exact ⟨by omega,by show leaf<4;omega⟩
 ·have e:Ew .i64 1 3=8:=by decide
  rw [e] at ho
  exact ⟨by omega,by show leaf<8;omega⟩
 ·have e:Ew .i64 1 4=16:=by decide
  rw [e] at ho
  exact ⟨by omega,by show leaf<16;omega⟩
theorem A2q {h:Int}(h0:0≤h)(h4:h≤4):(2:Int) ^ h.toNat≤16:=by
 have:h=0∨h=1∨h=2∨h=3∨h=4:=by omega
 rcases this with rfl|rfl|rfl|rfl|rfl<;>decide
theorem Aqc {leaf:Int}(h0:0≤leaf)(h1:leaf<16){k:Nat}(hk:k<4):0≤Uc leaf k∧Uc leaf k≤15:=by
 have H:∀n:Fin 16,∀k:Fin 4,0≤Uc (n.val:Int) k.val∧Uc (n.val:Int) k.val≤15:=by decide
 obtain ⟨n,rfl⟩:=Int.eq_ofNat_of_zero_le h0
 exact H ⟨n,by omega⟩ ⟨k,hk⟩
section
variable {fu d:Nat}
theorem Arc (hfu:1000≤fu)(seed h:Int):Ae C0 Tryz.prog fu (d+12) Mn [.sc (.int .u64 seed),.sc (.int .i64 h)]=some ⟨[.agg (Dg seed h).cells,.sc (.int .i64 (if Cl h=true then 9 else 0))],[]⟩:=by
 refine (Vc fu (d+11) seed h).trans ?_
 have h1:=Pm (fu:=fu) (d:=d+10) h
 unfold Dg
 cases c1:Cl h
 ·rw [c1] at h1
  have hb:=Fj c1
  have nd:=Aa1 (fu:=fu) (d:=d+4-h.toNat) hfu seed h.toNat 0 0 (by omega) (by omega) (by
   have:h=0∨h=1∨h=2∨h=3∨h=4:=by omega
   rcases this with rfl|rfl|rfl|rfl|rfl<;>decide) (by omega)
  rw [show d+4-h.toNat+7+h.toNat=d+11 by omega,show ((h.toNat:Nat):Int)=h by omega] at nd
  simp only [Bx,h1,nd]
  rfl
 ·rw [c1] at h1
  simp only [Bx,h1]
  rfl
theorem Ag3 {a0 a1 a2 a3:Int}{seed leaf h:Int}(hh:0≤h∧h≤4)(hl:0≤leaf∧leaf<16)(hfu:1000≤fu){y4 y9:Int}{y5 y6:Nat}{y7 y8:List PV}{ch:List Int}:∀(k nn i:Nat),i+k=h.toNat→k<nn →
  F8 fu (Ae C0 Tryz.prog fu (d+11)) a0 a1 a2 a3 nn seed h leaf i y4 y5 y6 y7 y8 leaf ch.length ((List.range i).map fun k=>Ip seed k (Uc leaf k)).length (Ag .u64 ch) (Ag .u64 ((List.range i).map fun k=>Ip seed k (Uc leaf k)))=some ⟨[.agg (Sg.mk leaf ch ((List.range h.toNat).map fun k=>Ip seed k (Uc leaf k))).owned,.sc (.int .i64 0)],[]⟩
 |_,0,_,_,h=>by omega
 |0,nn+1,i,hi,hn=>by
  have e:i=h.toNat:=by omega
  subst e
  have L1:=Aj .u64 ch
  have L2:=Aj .u64 ((List.range h.toNat).map fun k=>Ip seed k (Uc leaf k))
  rw [Ku,Dl _ _ _ (by omega)]
  simp (disch:=omega) only [Bx,Nat.mul_one,Gw,L1,L2]
  rfl
 |k+1,nn+1,i,hi,hn=>by
  have ih:=Ag3 (a0:=a0) (a1:=a1) (a2:=a2) (a3:=a3) (seed:=seed) (y4:=y4) (y9:=y9) (y5:=y5) (y6:=y6) (y7:=y7) (y8:=y8) (ch:=ch) hh hl hfu k nn (i+1) (by omega) (by omega)
  have sb:=Aqc hl.1 hl.2 (k:=i) (by omega)
  have nd:=Aa1 (fu:=fu) (d:=d+4-i) hfu seed i (Uc leaf i) 15 sb.1 sb.2 (by
   have:i=0∨i=1∨i=2∨i=3:=by omega
   rcases this with rfl|rfl|rfl|rfl<;>decide) (by omega)
  rw [show d+4-i+7+i=d+11 by omega] at nd
  have es:Dv .i64 (Dx .i64 leaf (i:Int)) 1=Uc leaf i:=rfl
  have w:IntKind.wrap .i64 ((i:Int)+1)=((i+1:Nat):Int):=by rw [Aq (by omega) (by omega)];omega
  have wi:IntKind.wrap .u64 (i:Int)=i:=Bq (by omega) (by omega)
  have L:=Aj .u64 ((List.range i).map fun k=>Ip seed k (Uc leaf k))
  have li:((List.range i).map fun k=>Ip seed k (Uc leaf k)).length=i:=by simp
  rw [Pi,List.length_append,List.length_singleton,←Fi] at ih
  rw [Ku]
  simp (disch:=omega) only [Bx,wi,es,nd,Nat.mul_one,Gw,L,w]
  exact ih
theorem Abb (hfu:1000≤fu)(seed h leaf m:Int):Ae C0 Tryz.prog fu (d+12) Ok [.sc (.int .u64 seed),.sc (.int .i64 h),.sc (.int .i64 leaf),.sc (.int .u64 m)]=some ⟨Wt (Air seed h leaf m),[]⟩:=by
 refine (Yu fu (d+11) seed h leaf m).trans ?_
 have h1:=Pm (fu:=fu) (d:=d+10) h
 unfold Air
 cases c1:Cl h
 ·rw [c1] at h1
  have hb:=Fj c1
  have w:=wu hb.1 hb.2
  rw [if_neg (by simp)]
  by_cases hn:leaf<0
  ·have ho:E6 leaf h=true:=by unfold E6;simp [hn]
   rw [if_pos ho]
   simp (disch:=omega) only [Bx,h1]
   rfl
  ·by_cases hg:leaf≥Ew .i64 1 h
   ·have ho:E6 leaf h=true:=by unfold E6;simp [hg]
    rw [if_pos ho]
    simp (disch:=first|omega|exact hg) only [Bx,h1,w]
    rfl
   ·have ho:E6 leaf h=false:=by unfold E6;simp only [Bool.or_eq_false_iff,decide_eq_false_iff_not];exact ⟨hn,hg⟩
    have hlt:=Ar6 hb.1 hb.2 ho
    have h16:=A2q hb.1 hb.2
    rw [if_neg (by rw [ho];simp)]
    have sl:=Alt (fu:=fu) (d:=d+5) hfu seed leaf m
    have lp:=Ag3 (fu:=fu) (d:=d) (a0:=seed) (a1:=h) (a2:=leaf) (a3:=m) (seed:=seed) (leaf:=leaf) (h:=h) hb (by omega) hfu (y4:=0) (y9:=0) (y5:=0) (y6:=0) (y7:=[]) (y8:=[]) (ch:=Xl seed leaf m) h.toNat fu 0 (by omega) (by omega)
    have l18:(Xl seed leaf m).length=18:=by simp [Xl]
    rw [l18] at lp
    simp (disch:=first|omega|exact hg) only [Bx,h1,w,sl]
    exact lp
 ·rw [c1] at h1
  rw [if_pos rfl]
  simp (disch:=omega) only [Bx,h1]
  rfl
theorem Zz {a0 a1 a2 a3:Int}{n1 n2 n3:Nat}{c1 c2 c3:List PV}{root leaf:Int}{path:List Int}(hp:path.length≤100)(hfu:1000≤fu):∀(r:List Int)(i nn:Nat)(x:Int),path.drop i=r→r.length<nn→i≤path.length →
  Eb fu (Ae C0 Tryz.prog fu (d+5)) a0 a1 a2 a3 n1 c1 n2 c2 nn x i path.length root leaf n3 c3 path.length (Ag .u64 path)=some ⟨[.sc (.int .i64 (okE (Tb leaf i x r) root))],[]⟩
 |_,_,0,_,_,h,_=>by omega
 |[],i,nn+1,x,h,hn,hi=>by
  have:=drop_nil h
  rw [Jk,Dl _ _ _ (by omega),C4]
  rw [Ag0]
  unfold okE
  by_cases e:x=root
  ·rw [if_pos e,if_pos e]
  ·rw [if_neg e,if_neg e]
 |s::r,i,nn+1,x,h,hn,hi=>by
  obtain ⟨h1,h2,h3⟩:=Cf h
  simp only [List.length_cons] at hn
  have w:IntKind.wrap .i64 ((i:Int)+1)=((i+1:Nat):Int):=by rw [Aq (by omega) (by omega)];omega
  have wi:IntKind.wrap .u64 (i:Int)=i:=Bq (by omega) (by omega)
  have ih:=fun x=>Zz (a0:=a0) (a1:=a1) (a2:=a2) (a3:=a3) (n1:=n1) (n2:=n2) (n3:=n3) (c1:=c1) (c2:=c2) (c3:=c3) (root:=root) (leaf:=leaf) hp hfu r (i+1) nn x h3 (by omega) (by omega)
  have p1:=Yk (fu:=fu) (d:=d) hfu ((i+1:Nat):Int) x s
  have p2:=Yk (fu:=fu) (d:=d) hfu ((i+1:Nat):Int) s x
  rw [Jk,Wg]
  by_cases hb:Dz .i64 (Dx .i64 leaf i) 1=0
  ·rw [if_pos hb,←ih]
   simp (disch:=omega) only [Bx,Int.toNat_natCast,Nat.mul_one,Ur h2,Ej,wi,hb,w,p1,if_true]
  ·rw [if_neg hb,←ih]
   simp (disch:=omega) only [Bx,Int.toNat_natCast,Nat.mul_one,Ur h2,Ej,wi,hb,w,p2,if_false]
theorem Ap2 (hfu:1000≤fu)(k:Ky)(m:Int)(s:Sg):Ae C0 Tryz.prog fu (d+7) Mc [.agg k.cells,.sc (.int .u64 m),.agg s.cells]=some ⟨[.sc (.int .i64 (Is k m s))],[]⟩:=by
 refine (V9 fu (d+6) k.h k.root m s.leaf s.chains.length (Ag .u64 s.chains) s.path.length (Ag .u64 s.path)).trans ?_
 have h1:=Pm (fu:=fu) (d:=d+5) k.h
 unfold Is
 cases c1:Cl k.h
 ·rw [c1] at h1
  have hb:=Fj c1
  have w:=wu hb.1 hb.2
  rw [if_neg (by simp)]
  by_cases hn:s.leaf<0
  ·have ho:E6 s.leaf k.h=true:=by unfold E6;simp [hn]
   rw [if_pos ho]
   simp (disch:=omega) only [Bx,h1]
  ·by_cases hg:s.leaf≥Ew .i64 1 k.h
   ·have ho:E6 s.leaf k.h=true:=by unfold E6;simp [hg]
    rw [if_pos ho]
    simp (disch:=first|omega|exact hg) only [Bx,h1,w]
   ·have ho:E6 s.leaf k.h=false:=by unfold E6;simp only [Bool.or_eq_false_iff,decide_eq_false_iff_not];exact ⟨hn,hg⟩
    rw [if_neg (by rw [ho];simp)]
    by_cases c3:s.chains.length=18
    ·by_cases c4:(s.path.length:Int)=k.h
     ·have rc:=Apv (fu:=fu) (d:=d) hfu s.leaf m s.chains
      rw [if_pos c3] at rc
      have vl:=Zz (fu:=fu) (d:=d+1) (a0:=k.h) (a1:=k.root) (a2:=m) (a3:=s.leaf) (n1:=s.chains.length) (n2:=s.path.length) (n3:=s.chains.length) (c1:=Ag .u64 s.chains) (c2:=Ag .u64 s.path) (c3:=Ag .u64 s.chains) (root:=k.root) (leaf:=s.leaf) (path:=s.path) (by omega) hfu s.path 0 fu (Aia s.leaf m s.chains) rfl (by omega) (by omega)
      rw [if_neg (by omega),if_neg (by omega),←vl]
      simp (disch:=first|omega|exact hg) only [Bx,h1,w,C4,rc,c4,if_true]
      rw [if_pos (by omega)]
      rfl
     ·rw [if_neg (by omega),if_pos c4]
      simp (disch:=first|omega|exact hg) only [Bx,h1,w,C4,c4,if_false]
      rw [if_pos (by omega)]
    ·rw [if_pos c3]
     simp (disch:=first|omega|exact hg) only [Bx,h1,w,C4]
     rw [if_neg (by omega)]
 ·rw [c1] at h1
  rw [if_pos rfl]
  simp (disch:=omega) only [Bx,h1]
theorem Yi (hfu:1000≤fu)(k:Ky):Ae C0 Tryz.prog fu (d+2) Ji [.agg k.cells]=some ⟨(if Cl k.h=true then [.own 1 0 [],.sc (.int .i64 9)] else [.own 1 9 (Ag .u8 (F4 k)),.sc (.int .i64 0)]),[]⟩:=by
 refine (Rr fu (d+1) k.h k.root).trans ?_
 have h1:=Pm (fu:=fu) (d:=d) k.h
 have wd:=Aro (fu:=fu) (d:=d) hfu k.root
 have L:=Aj .u8 (Bp k.root)
 rw [Cc] at L
 have t8:List.take 8 (Ag .u8 (Bp k.root))=Ag .u8 (Bp k.root):=List.take_of_length_le (by omega)
 have t9:List.take 9 ([PV.sc (.int .u8 (IntKind.wrap .u8 k.h))]++Ag .u8 (Bp k.root))=Ag .u8 (F4 k):=by
  rw [List.take_of_length_le (by rw [List.length_append,L];simp)]
  rfl
 have L9:([PV.sc (.int .u8 (IntKind.wrap .u8 k.h))]++Ag .u8 (Bp k.root)).length=9:=by rw [List.length_append,L];rfl
 cases c1:Cl k.h
 ·rw [c1] at h1
  rw [if_neg (by simp)]
  simp (disch:=omega) only [Bx,h1,wd,Nat.mul_one,Nat.zero_add,List.drop_zero,L,t8,Nat.reduceAdd,L9,t9]
 ·rw [c1] at h1
  rw [if_pos rfl]
  simp (disch:=omega) only [Bx,h1]
theorem Ahi {call:Ak}{n:Nat}{c:List PV}{l:List Int}(hl:l.length=8):∀(r:List Int)(j nn:Nat)(x:Int),l.drop j=r→r.length<nn→j≤8 →
  Gf fu call n c nn l.length (Ag .u8 l) x j=some ⟨[.sc (.int .u64 (r.foldl Es x))],[]⟩
 |_,_,0,_,_,h,_=>by omega
 |[],j,nn+1,x,h,hn,hj=>by
  have:=drop_nil h
  rw [Kv,Dl _ _ _ (by omega)]
  rfl
 |b::r,j,nn+1,x,h,hn,hj=>by
  obtain ⟨h1,h2,h3⟩:=Cf h
  simp only [List.length_cons] at hn
  have w:IntKind.wrap .i64 ((j:Int)+1)=((j+1:Nat):Int):=by rw [Aq (by omega) (by omega)];omega
  have ih:=Ahi (call:=call) (n:=n) (c:=c) hl r (j+1) nn (Es x b) h3 (by omega) (by omega)
  rw [List.foldl_cons,←ih,Kv]
  simp (disch:=omega) only [Bx,Int.toNat_natCast,Nat.mul_one,Ur h2,w]
theorem Aho (hfu:1000≤fu){l:List Int}(hl:l.length=8):Ae C0 Tryz.prog fu (d+1) Pc [.lst false 1 8 (Ag .u8 l)]=some ⟨[.sc (.int .u64 (Abl l))],[]⟩:=by
 rw [Yf]
 have:=Ahi (fu:=fu) (call:=Ae C0 Tryz.prog fu d) (n:=8) (c:=Ag .u8 l) hl l 0 fu 0 rfl (by omega) (by omega)
 rw [hl] at this
 exact this
theorem Aqf (hfu:1000≤fu){l:List Int}(hb:Ha l):Ae C0 Tryz.prog fu (d+2) Je [.lst false 1 l.length (Ag .u8 l)]=some ⟨Ahk (Acf l),[]⟩:=by
 refine (Rs fu (d+1) l.length (Ag .u8 l)).trans ?_
 unfold Acf
 by_cases h9:l.length=9
 ·obtain ⟨x,hx⟩:∃x,l[0]?=some x:=⟨_,List.getElem?_eq_getElem (by omega)⟩
  have hxb:=hb x (List.mem_of_getElem? hx)
  have wx:IntKind.wrap .i64 x=x:=Aq (by omega) (by omega)
  have gx:l.getD 0 0=x:=by rw [List.getD_eq_getElem?_getD,hx];rfl
  have h1:=Pm (fu:=fu) (d:=d) x
  rw [gx]
  cases c1:Cl x
  ·rw [c1] at h1
   have hdl:(l.drop 1).length=8:=by rw [List.length_drop];omega
   have dw:=Aho (fu:=fu) (d:=d) hfu hdl
   have ew:Abl (l.drop 1)=Ms (l.drop 1) 0:=by
    unfold Ms
    rw [Nat.mul_zero,List.drop_zero,List.take_of_length_le (by omega)]
   rw [ew] at dw
   have e8:9-1=8:=rfl
   have tk:List.take 8 (Ag .u8 (l.drop 1))=Ag .u8 (l.drop 1):=List.take_of_length_le (by rw [Aj];omega)
   rw [if_pos ⟨h9,rfl⟩,h9]
   simp (disch:=omega) only [Bx,C4,Ur hx,wx,h1,Nat.mul_one,Fb,e8,tk,dw]
   rfl
  ·rw [c1] at h1
   rw [if_neg (by simp),h9]
   simp (disch:=omega) only [Bx,C4,Ur hx,wx,h1]
   rfl
 ·rw [if_neg (by simp [h9])]
  simp (disch:=omega) only [C4]
  rw [if_neg (by omega)]
  rfl
end
end
section
section
variable {fu d:Nat}
theorem Aw6 (n:Nat):Cl (n:Int)=decide ((n:Int)>4):=by
 unfold Cl
 have:¬((n:Int)<0):=by omega
 simp [this]
theorem Ti (hfu:1000≤fu)(s:Sg)(hp:s.path.length≤1000000000):Ae C0 Tryz.prog fu (d+2) G0 [.agg s.cells]=some ⟨(if Cl s.path.length=true then [.own 1 0 [],.sc (.int .i64 9)] else if E6 s.leaf s.path.length=true then [.own 1 0 [],.sc (.int .i64 9)] else if s.chains.length≠18 then [.own 1 0 [],.sc (.int .i64 4)] else [.own 1 (Ix s).length (Ag .u8 (Ix s)),.sc (.int .i64 0)]),[]⟩:=by
 refine (Md fu (d+1) s.leaf s.chains.length (Ag .u64 s.chains) s.path.length (Ag .u64 s.path)).trans ?_
 rw [Aw6]
 by_cases c1:(s.path.length:Int)>4
 ·rw [if_pos (by simp [c1])]
  simp (disch:=omega) only [Bx]
 ·rw [if_neg (by simp [c1])]
  have w:=wu (h:=s.path.length) (by omega) (by omega)
  by_cases hn:s.leaf<0
  ·have ho:E6 s.leaf s.path.length=true:=by unfold E6;simp [hn]
   rw [if_pos ho]
   simp (disch:=omega) only [Bx]
  ·by_cases hg:s.leaf≥Ew .i64 1 s.path.length
   ·have ho:E6 s.leaf s.path.length=true:=by unfold E6;simp [hg]
    rw [if_pos ho]
    simp (disch:=first|omega|exact hg) only [Bx,w]
   ·have ho:E6 s.leaf s.path.length=false:=by unfold E6;simp only [Bool.or_eq_false_iff,decide_eq_false_iff_not];exact ⟨hn,hg⟩
    rw [if_neg (by rw [ho];simp)]
    by_cases c3:s.chains.length=18
    ·have w1:=Jo (fu:=fu) (d:=d) (ws:=s.chains) (by omega) (by omega) (by omega)
     have w2:=Jo (fu:=fu) (d:=d) (ws:=s.path) (by omega) (by omega) (by omega)
     have l1:=Cm s.chains
     have l2:=Cm s.path
     have L1:=Aj .u8 (A5 s.chains)
     have L2:=Aj .u8 (A5 s.path)
     have eB:Ag .u8 (Ix s)=[PV.sc (.int .u8 (IntKind.wrap .u8 s.leaf)),PV.sc (.int .u8 (IntKind.wrap .u8 s.path.length))]++Ag .u8 (A5 s.chains)++Ag .u8 (A5 s.path):=by
      unfold Ix
      simp
     have eL:(Ix s).length=2+(A5 s.chains).length+(A5 s.path).length:=by
      unfold Ix
      simp
      omega
     rw [if_neg (by omega),eB,eL]
     have t2:List.take (2+(A5 s.chains).length) ([PV.sc (.int .u8 (IntKind.wrap .u8 s.leaf)),PV.sc (.int .u8 (IntKind.wrap .u8 s.path.length))]++Ag .u8 (A5 s.chains))=[PV.sc (.int .u8 (IntKind.wrap .u8 s.leaf)),PV.sc (.int .u8 (IntKind.wrap .u8 s.path.length))]++Ag .u8 (A5 s.chains):=List.take_of_length_le (by rw [List.length_append,L1];simp)
     have t3:List.take (2+(A5 s.chains).length+(A5 s.path).length) ([PV.sc (.int .u8 (IntKind.wrap .u8 s.leaf)),PV.sc (.int .u8 (IntKind.wrap .u8 s.path.length))]++Ag .u8 (A5 s.chains)++Ag .u8 (A5 s.path))=[PV.sc (.int .u8 (IntKind.wrap .u8 s.leaf)),PV.sc (.int .u8 (IntKind.wrap .u8 s.path.length))]++Ag .u8 (A5 s.chains)++Ag .u8 (A5 s.path):=List.take_of_length_le (by rw [List.length_append,List.length_append,L1,L2];simp)
     have k2:([PV.sc (.int .u8 (IntKind.wrap .u8 s.leaf)),PV.sc (.int .u8 (IntKind.wrap .u8 s.path.length))]++Ag .u8 (A5 s.chains)).length=2+(A5 s.chains).length:=by rw [List.length_append,L1];rfl
     have k3:([PV.sc (.int .u8 (IntKind.wrap .u8 s.leaf)),PV.sc (.int .u8 (IntKind.wrap .u8 s.path.length))]++Ag .u8 (A5 s.chains)++Ag .u8 (A5 s.path)).length=2+(A5 s.chains).length+(A5 s.path).length:=by rw [List.length_append,k2,L2]
     simp (disch:=first|omega|exact hg) only [Bx,w,C4,w1,w2,Nat.mul_one,Nat.zero_add,List.drop_zero,L1,L2,Gw,t2,t3,k2,k3]
     rw [if_pos (by omega)]
    ·rw [if_pos c3]
     simp (disch:=first|omega|exact hg) only [Bx,w,C4]
     rw [if_neg (by omega)]
end
theorem Awi (seed leaf m:Int):Aia leaf m (Xl seed leaf m)=Mv seed leaf:=by
 unfold Aia Mv Afn
 congr 1
 refine List.map_congr_left fun i hi=>?_
 have hi:=List.mem_range.1 hi
 have hb:=Wl m i
 unfold Xt Ak9
 have e:(Xl seed leaf m).getD i 0=Alh seed leaf m i:=by
  unfold Xl
  rw [List.getD_eq_getElem?_getD,List.getElem?_map,List.getElem?_range hi]
  rfl
 rw [e]
 unfold Alh
 have:=Anl leaf i (dg m i).toNat (15-dg m i).toNat 0 (Asc seed leaf i)
 rw [show (dg m i).toNat+(15-dg m i).toNat=15 by omega,show (0:Int)+((dg m i).toNat:Nat)=dg m i by omega] at this
 exact this.symm
theorem At6:∀n:Fin 16,∀k:Fin 4,
  (Dz .i64 (Dx .i64 (n.val:Int) k.val) 1=0∧Dx .i64 (n.val:Int) k.val=2*Dx .i64 (n.val:Int) ((k.val+1:Nat):Int)∧Uc n.val k.val=2*Dx .i64 (n.val:Int) ((k.val+1:Nat):Int)+1) ∨
  (Dz .i64 (Dx .i64 (n.val:Int) k.val) 1≠0∧Dx .i64 (n.val:Int) k.val=2*Dx .i64 (n.val:Int) ((k.val+1:Nat):Int)+1∧Uc n.val k.val=2*Dx .i64 (n.val:Int) ((k.val+1:Nat):Int)):=by decide
theorem Ae6 (seed:Int){leaf:Int}(h0:0≤leaf)(h1:leaf<16):∀(k i:Nat),i+k≤4 →
  Tb leaf i (Ip seed i (Dx .i64 leaf i)) ((List.range' i k).map fun j=>Ip seed j (Uc leaf j))=Ip seed (i+k) (Dx .i64 leaf ((i+k:Nat):Int))
 |0,i,_=>rfl
 |k+1,i,h=>by
  rw [List.range'_succ,List.map_cons,Wg]
  obtain ⟨n,rfl⟩:=Int.eq_ofNat_of_zero_le h0
  have ih:=Ae6 seed h0 h1 k (i+1) (by omega)
  rw [show i+(k+1)=i+1+k by omega,←ih]
  congr 1
  rcases At6 ⟨n,by omega⟩ ⟨i,by omega⟩ with ⟨a,b,c⟩|⟨a,b,c⟩
  ·simp only at a b c
   rw [if_pos a,b,c]
   rfl
  ·simp only at a b c
   rw [if_neg a,b,c]
   rfl
theorem Axi {seed h leaf m:Int}(hh:Cl h=false)(ho:E6 leaf h=false):Is (Dg seed h) m ⟨leaf,Xl seed leaf m,(List.range h.toNat).map fun k=>Ip seed k (Uc leaf k)⟩=0:=by
 have hb:=Fj hh
 have hl:=Ar6 hb.1 hb.2 ho
 have h16:=A2q hb.1 hb.2
 have eP:Dg seed h=⟨h,Ip seed h.toNat 0⟩:=by
  unfold Dg
  rw [hh]
  rfl
 rw [eP]
 unfold Is
 simp only
 rw [if_neg (show ¬Cl h=true by rw [hh];simp),if_neg (show ¬E6 leaf h=true by rw [ho];simp),if_neg (show ¬(Xl seed leaf m).length≠18 by simp [Xl]),if_neg (by rw [List.length_map,List.length_range];omega),Awi]
 have c:=Ae6 seed hl.1 (show leaf<16 by omega) h.toNat 0 (by omega)
 have e0:Dx .i64 leaf ((0:Nat):Int)=leaf:=by
  show leaf.fdiv (2 ^ (min ((0:Nat):Int).toNat IntKind.i64.bits))=leaf
  have:(2:Int) ^ (min ((0:Nat):Int).toNat IntKind.i64.bits)=1:=by decide
  rw [this,Int.fdiv_one]
 have eh:Dx .i64 leaf ((0+h.toNat:Nat):Int)=0:=by
  have H:∀n:Fin 16,∀k:Fin 5,(n.val:Int)<2 ^ k.val→Dx .i64 (n.val:Int) ((0+k.val:Nat):Int)=0:=by decide
  obtain ⟨n,hn⟩:=Int.eq_ofNat_of_zero_le hl.1
  have:=H ⟨n,by omega⟩ ⟨h.toNat,by omega⟩ (by simp only;rw [←hn];exact hl.2)
  rw [hn]
  exact this
 rw [e0,eh,Nat.zero_add] at c
 have er:List.range' 0 h.toNat=List.range h.toNat:=List.range_eq_range'.symm
 rw [er] at c
 have el:Ip seed 0 leaf=Mv seed leaf:=rfl
 rw [el] at c
 rw [c]
 unfold okE
 rw [if_pos rfl]
end
section
set_option maxRecDepth 100000
abbrev Ac5:FuncId:=125
theorem Aot (fu d:Nat)(a0:ByteArray):Ae C0 Tryz.prog fu (d+1) Ac5 [.sc (.string a0)]=(fun (call:Ak)=>some (A8.mk [.own 3 1 [.sc (.int .i64 4),.sc (.int .u64 0),.sc (.string a0)]] [])) (Ae C0 Tryz.prog fu d):=by kernel_rfl
abbrev Adu:FuncId:=126
theorem Aol (fu d:Nat)(a0:Int):Ae C0 Tryz.prog fu (d+1) Adu [.sc (.int .u64 a0)]=(fun (call:Ak)=>some (A8.mk [.own 3 1 [.sc (.int .i64 1),.sc (.int .u64 a0),.sc (.string (ByteArray.mk #[]))]] [])) (Ae C0 Tryz.prog fu d):=by kernel_rfl
abbrev Aaa:FuncId:=127
theorem Alu (fu d a0n:Nat)(a0:List PV):Ae C0 Tryz.prog fu (d+1) Aaa [.lst false 1 a0n a0]=(fun (call:Ak)=>Ar (decide (List.length a0=a0n))<|Ep (bytesOf a0) fun x1=>some (A8.mk [.own 3 1 [.sc (.int .i64 3),.sc (.int .u64 0),.sc (.string (ByteArray.mk (List.toArray x1)))]] [])) (Ae C0 Tryz.prog fu d):=by kernel_rfl
abbrev Ady:FuncId:=128
theorem Ank (fu d:Nat)(a0:Bool):Ae C0 Tryz.prog fu (d+1) Ady [.sc (.bool a0)]=(fun (call:Ak)=>Be (a0) (some (A8.mk [.own 3 1 [.sc (.int .i64 7),.sc (.int .u64 1),.sc (.string (ByteArray.mk #[]))]] [])) (some (A8.mk [.own 3 1 [.sc (.int .i64 7),.sc (.int .u64 0),.sc (.string (ByteArray.mk #[]))]] []))) (Ae C0 Tryz.prog fu d):=by kernel_rfl
abbrev Z3:FuncId:=133
theorem Als (fu d:Nat)(a0:Int):Ae C0 Tryz.prog fu (d+1) Z3 [.sc (.int .u64 a0)]=(fun (call:Ak)=>Be (decide (a0<24)) (some (A8.mk [.sc (.int .i64 0)] [])) (Be (decide (a0<256)) (some (A8.mk [.sc (.int .i64 1)] [])) (Be (decide (a0<65536)) (some (A8.mk [.sc (.int .i64 2)] [])) (Be (decide (a0<4294967296)) (some (A8.mk [.sc (.int .i64 4)] [])) (some (A8.mk [.sc (.int .i64 8)] [])))))) (Ae C0 Tryz.prog fu d):=by kernel_rfl
abbrev X3:FuncId:=146
theorem Aix (fu d:Nat)(a0_0 a0_1:Int)(a0_2:ByteArray):Ae C0 Tryz.prog fu (d+1) X3 [.agg [.sc (.int .i64 a0_0),.sc (.int .u64 a0_1),.sc (.string a0_2)]]=(fun (call:Ak)=>Be (a0_0==3) (some (A8.mk [.sc (.bool (a0_1==0))] [])) (Be (a0_0==4) (some (A8.mk [.sc (.bool (a0_1==0))] [])) (Be (a0_0==8) (Be (a0_1==0) (some (A8.mk [.sc (.bool (Array.toList (ByteArray.data a0_2)==Array.toList (ByteArray.data (ByteArray.mk #[]))))] [])) (some (A8.mk [.sc (.bool false)] []))) (Be (a0_0==7) (Be (decide (a0_1≤1)) (some (A8.mk [.sc (.bool (Array.toList (ByteArray.data a0_2)==Array.toList (ByteArray.data (ByteArray.mk #[]))))] [])) (some (A8.mk [.sc (.bool false)] []))) (some (A8.mk [.sc (.bool (Array.toList (ByteArray.data a0_2)==Array.toList (ByteArray.data (ByteArray.mk #[]))))] [])))))) (Ae C0 Tryz.prog fu d):=by kernel_rfl
abbrev Wk:FuncId:=136
theorem Agb (fu d a0n:Nat)(a0:List PV)(a1n:Nat)(a1:List PV):Ae C0 Tryz.prog fu (d+1) Wk [.lst false 1 a0n a0,.lst false 1 a1n a1]=(fun (call:Ak)=>Be ((↑a0n:Int) != (↑a1n:Int)) (some (A8.mk [.sc (.bool (decide ((↑a0n:Int)<(↑a1n:Int))))] [])) (Ah (call 143 [.lst false 1 a0n a0,.lst false 1 a1n a1]) fun x1 x2=>Ac x2<|Ab x1 fun x3 x4=>Af .i64 x3 fun x5=>Ac x4<|some (A8.mk [.sc (.bool (decide (x5<0)))] []))) (Ae C0 Tryz.prog fu d):=by kernel_rfl
abbrev J5:FuncId:=142
noncomputable def Du (fu:Nat)(call:Ak)(a0n:Nat)(a0:List PV)(a1 a2:Int)(nn y0:Nat)(y1 y2:Int)(y3:List PV):Option A8:=C5 C0 Tryz.prog fu call 142 Tryz.f142 (B7 Tryz.f142) [.own 1 a0n a0,.sc (.int .u8 a1),.sc (.int .u64 a2)] [.r,.r,.r,.r,.r,.l,.r,.l] nn ⟨lk [(0,(.view 0 1 0 y0)),(2,(.sc (.int .u64 y1))),(9,(.sc (.int .i64 y2)))],Gv [(0,(.ar false y3))]⟩
theorem Mp (fu:Nat)(call:Ak)(a0n:Nat)(a0:List PV)(a1 a2:Int)(nn y0:Nat)(y1 y2:Int)(y3:List PV):Du fu call a0n a0 a1 a2 (nn+1) y0 y1 y2 y3=(Be (decide (y2≥0)) (Aa (IntKind.wrap .i64 (8*y2)) fun D2=>Ar (decide (0≤D2))<|Aa (Dx .u64 y1 D2) fun D0=>Aa (IntKind.wrap .u8 D0) fun D6=>Ar (decide (y0*1≤List.length y3)&&true&&decide ((y0+1)*1≤1099511627776)&&decide (y0+1≤1099511627776))<|Aa (y0+1) fun F1=>Aa (List.take (y0*1) y3++[.sc (.int .u8 D6)]) fun Ey=>Aa (IntKind.wrap .i64 (y2-1)) fun Fs=>Du fu call a0n a0 a1 a2 (nn) F1 (y1) Fs Ey) (Ar (decide (y0*1≤List.length y3))<|some (A8.mk [.own 1 y0 (List.take (y0*1) y3)] []))):=by kernel_rfl
theorem Abd (fu d a0n:Nat)(a0:List PV)(a1 a2:Int):Ae C0 Tryz.prog fu (d+1) J5 [.own 1 a0n a0,.sc (.int .u8 a1),.sc (.int .u64 a2)]=(fun (call:Ak)=>Aa (Ew .u8 a1 5) fun x1=>Be (decide (a2<24)) (Aa (IntKind.wrap .u8 a2) fun x2=>Aa (IntKind.wrap .u8 (x1+x2)) fun x3=>Ar (decide (a0n*1≤List.length a0)&&true&&decide ((a0n+1)*1≤1099511627776)&&decide (a0n+1≤1099511627776))<|Aa (a0n+1) fun x4=>Aa (List.take (a0n*1) a0++[.sc (.int .u8 x3)]) fun x5=>Ar (decide (x4*1≤List.length x5))<|some (A8.mk [.own 1 x4 (List.take (x4*1) x5)] [])) (Be (decide (a2<256)) (Aa (IntKind.wrap .u8 (x1+24)) fun x6=>Ar (decide (a0n*1≤List.length a0)&&true&&decide ((a0n+1)*1≤1099511627776)&&decide (a0n+1≤1099511627776))<|Aa (a0n+1) fun x7=>Aa (List.take (a0n*1) a0++[.sc (.int .u8 x6)]) fun x8=>Du fu call a0n a0 a1 a2 (fu) x7 (a2) 0 x8) (Be (decide (a2<65536)) (Aa (IntKind.wrap .u8 (x1+25)) fun x9=>Ar (decide (a0n*1≤List.length a0)&&true&&decide ((a0n+1)*1≤1099511627776)&&decide (a0n+1≤1099511627776))<|Aa (a0n+1) fun B5=>Aa (List.take (a0n*1) a0++[.sc (.int .u8 x9)]) fun B9=>Du fu call a0n a0 a1 a2 (fu) B5 (a2) 1 B9) (Be (decide (a2<4294967296)) (Aa (IntKind.wrap .u8 (x1+26)) fun Cy=>Ar (decide (a0n*1≤List.length a0)&&true&&decide ((a0n+1)*1≤1099511627776)&&decide (a0n+1≤1099511627776))<|Aa (a0n+1) fun C7=>Aa (List.take (a0n*1) a0++[.sc (.int .u8 Cy)]) fun Cr=>Du fu call a0n a0 a1 a2 (fu) C7 (a2) 3 Cr) (Aa (IntKind.wrap .u8 (x1+27)) fun C3=>Ar (decide (a0n*1≤List.length a0)&&true&&decide ((a0n+1)*1≤1099511627776)&&decide (a0n+1≤1099511627776))<|Aa (a0n+1) fun Df=>Aa (List.take (a0n*1) a0++[.sc (.int .u8 C3)]) fun Ds=>Du fu call a0n a0 a1 a2 (fu) Df (a2) 7 Ds))))) (Ae C0 Tryz.prog fu d):=by kernel_rfl
abbrev Pz:FuncId:=135
theorem Zo (fu d a0n:Nat)(a0:List PV)(a1_0 a1_1:Int)(a1_2:ByteArray):Ae C0 Tryz.prog fu (d+1) Pz [.own 1 a0n a0,.agg [.sc (.int .i64 a1_0),.sc (.int .u64 a1_1),.sc (.string a1_2)]]=(fun (call:Ak)=>Be (a1_0==7) (Aa (IntKind.wrap .u8 a1_1) fun x1=>Aa (IntKind.wrap .u8 (244+x1)) fun x2=>Ar (decide (a0n*1≤List.length a0)&&true&&decide ((a0n+1)*1≤1099511627776)&&decide (a0n+1≤1099511627776))<|Aa (a0n+1) fun x3=>Aa (List.take (a0n*1) a0++[.sc (.int .u8 x2)]) fun x4=>Ar (decide (x3*1≤List.length x4))<|some (A8.mk [.own 1 x3 (List.take (x3*1) x4)] [])) (Be (a1_0==8) (Ar (decide (a0n*1≤List.length a0)&&true&&decide ((a0n+1)*1≤1099511627776)&&decide (a0n+1≤1099511627776))<|Aa (a0n+1) fun x5=>Aa (List.take (a0n*1) a0++[.sc (.int .u8 246)]) fun x6=>Ar (decide (x5*1≤List.length x6))<|some (A8.mk [.own 1 x5 (List.take (x5*1) x6)] [])) (Be (a1_0==3) (Aa (IntKind.wrap .i64 (a1_0-1)) fun x7=>Aa (IntKind.wrap .u8 x7) fun x8=>Aa (IntKind.wrap .u64 (↑(ByteArray.size a1_2):Int)) fun x9=>Ar (decide (a0n*1≤List.length a0))<|Ah (call 142 [.own 1 a0n (List.take (a0n*1) a0),.sc (.int .u8 x8),.sc (.int .u64 x9)]) fun B5 B9=>Ab B5 fun Cy C7=>C8 1 Cy fun Cr C3=>Ac C7<|Ac B9<|Ar (decide (Cr*1≤List.length C3)&&decide (List.length (Cg a1_2)=ByteArray.size a1_2*1)&&decide ((Cr+ByteArray.size a1_2)*1≤1099511627776)&&decide (Cr+ByteArray.size a1_2≤1099511627776))<|Aa (Cr+ByteArray.size a1_2) fun Df=>Aa (List.take (Cr*1) C3++Cg a1_2) fun Ds=>Ar (decide (Df*1≤List.length Ds))<|some (A8.mk [.own 1 Df (List.take (Df*1) Ds)] [])) (Be (a1_0==4) (Aa (IntKind.wrap .i64 (a1_0-1)) fun D2=>Aa (IntKind.wrap .u8 D2) fun D0=>Aa (IntKind.wrap .u64 (↑(ByteArray.size a1_2):Int)) fun D6=>Ar (decide (a0n*1≤List.length a0))<|Ah (call 142 [.own 1 a0n (List.take (a0n*1) a0),.sc (.int .u8 D0),.sc (.int .u64 D6)]) fun F1 Ey=>Ab F1 fun Fs De=>C8 1 Fs fun C9 Eu=>Ac De<|Ac Ey<|Ar (decide (C9*1≤List.length Eu)&&decide (List.length (Cg a1_2)=ByteArray.size a1_2*1)&&decide ((C9+ByteArray.size a1_2)*1≤1099511627776)&&decide (C9+ByteArray.size a1_2≤1099511627776))<|Aa (C9+ByteArray.size a1_2) fun F6=>Aa (List.take (C9*1) Eu++Cg a1_2) fun Ef=>Ar (decide (F6*1≤List.length Ef))<|some (A8.mk [.own 1 F6 (List.take (F6*1) Ef)] [])) (Aa (IntKind.wrap .i64 (a1_0-1)) fun Hn=>Aa (IntKind.wrap .u8 Hn) fun Hg=>Ar (decide (a0n*1≤List.length a0))<|Ah (call 142 [.own 1 a0n (List.take (a0n*1) a0),.sc (.int .u8 Hg),.sc (.int .u64 a1_1)]) fun G3 Ie=>Ab G3 fun Hy Ir=>C8 1 Hy fun G4 Jr=>Ac Ir<|Ac Ie<|Ar (decide (G4*1≤List.length Jr))<|some (A8.mk [.own 1 G4 (List.take (G4*1) Jr)] [])))))) (Ae C0 Tryz.prog fu d):=by kernel_rfl
abbrev R9:FuncId:=109
theorem Acy (fu d a0_0n:Nat)(a0_0:List PV)(a0_1:Int):Ae C0 Tryz.prog fu (d+1) R9 [.pbox [.own 3 a0_0n a0_0,.sc (.int .i64 a0_1)]]=(fun (call:Ak)=>Be (decide (a0_1>0)) (Ar (decide (a0_0n*3≤List.length a0_0))<|some (A8.mk [.sc (.bool ((↑a0_0n:Int)==0))] [[.own 3 a0_0n (List.take (a0_0n*3) a0_0),.sc (.int .i64 a0_1)]])) (Ar (decide (a0_0n*3≤List.length a0_0))<|some (A8.mk [.sc (.bool false)] [[.own 3 a0_0n (List.take (a0_0n*3) a0_0),.sc (.int .i64 a0_1)]]))) (Ae C0 Tryz.prog fu d):=by kernel_rfl
abbrev Qk:FuncId:=134
theorem Zu (fu d a0_0n:Nat)(a0_0:List PV)(a0_1:Int):Ae C0 Tryz.prog fu (d+1) Qk [.pbox [.own 3 a0_0n a0_0,.sc (.int .i64 a0_1)]]=(fun (call:Ak)=>Be (decide ((↑a0_0n:Int)>0)) (Aa (IntKind.wrap .i64 ((↑a0_0n:Int)-1)) fun x1=>Ar (decide (0≤x1)&&decide (x1<(↑a0_0n:Int)))<|Bz (List.getD a0_0 (0+Int.toNat x1*3+0) .top) fun x2=>Be x2 (Aa (IntKind.wrap .i64 ((↑a0_0n:Int)-1)) fun x3=>Ar (decide (0≤x3)&&decide (x3<(↑a0_0n:Int)))<|Af .i64 (List.getD a0_0 (0+Int.toNat x3*3+1) .top) fun x4=>Aa (Int.tmod x4 2) fun x5=>Ar (decide (a0_0n*3≤List.length a0_0))<|some (A8.mk [.sc (.bool (x5==0))] [[.own 3 a0_0n (List.take (a0_0n*3) a0_0),.sc (.int .i64 a0_1)]])) (Ar (decide (a0_0n*3≤List.length a0_0))<|some (A8.mk [.sc (.bool false)] [[.own 3 a0_0n (List.take (a0_0n*3) a0_0),.sc (.int .i64 a0_1)]]))) (Ar (decide (a0_0n*3≤List.length a0_0))<|some (A8.mk [.sc (.bool false)] [[.own 3 a0_0n (List.take (a0_0n*3) a0_0),.sc (.int .i64 a0_1)]]))) (Ae C0 Tryz.prog fu d):=by kernel_rfl
abbrev P1:FuncId:=121
theorem Aac (fu d a0_0n:Nat)(a0_0:List PV)(a0_1 a1:Int):Ae C0 Tryz.prog fu (d+1) P1 [.pbox [.own 3 a0_0n a0_0,.sc (.int .i64 a0_1)],.sc (.int .i64 a1)]=(fun (call:Ak)=>Be (decide (a0_1≥512)) (Ar (decide (a0_0n*3≤List.length a0_0))<|some (A8.mk [.sc (.int .i64 8)] [[.own 3 a0_0n (List.take (a0_0n*3) a0_0),.sc (.int .i64 a0_1)]])) (Be (decide (a1<1)) (Ar (decide (a0_0n*3≤List.length a0_0))<|some (A8.mk [.sc (.int .i64 3)] [[.own 3 a0_0n (List.take (a0_0n*3) a0_0),.sc (.int .i64 a0_1)]])) (Be (decide (a1>8)) (Ar (decide (a0_0n*3≤List.length a0_0))<|some (A8.mk [.sc (.int .i64 3)] [[.own 3 a0_0n (List.take (a0_0n*3) a0_0),.sc (.int .i64 a0_1)]])) (Ar (decide (a0_0n*3≤List.length a0_0))<|Ah (call 134 [.pbox [.own 3 a0_0n (List.take (a0_0n*3) a0_0),.sc (.int .i64 a0_1)]]) fun x1 x2=>Ab x1 fun x3 x4=>Bz x3 fun x5=>Ac x4<|Ab x2 fun x6 x7=>Ab x6 fun x8 x9=>C8 3 x8 fun B5 B9=>Ab x9 fun Cy C7=>Af .i64 Cy fun Cr=>Ac C7<|Ac x7<|Be x5 (Be (a1 != 1) (Be (a1 != 2) (Be (a1 != 4) (Ar (decide (B5*3≤List.length B9))<|some (A8.mk [.sc (.int .i64 3)] [[.own 3 B5 (List.take (B5*3) B9),.sc (.int .i64 Cr)]])) (Be (decide ((↑B5:Int)>8)) (Ar (decide (B5*3≤List.length B9))<|some (A8.mk [.sc (.int .i64 5)] [[.own 3 B5 (List.take (B5*3) B9),.sc (.int .i64 Cr)]])) (Ar (decide (B5*3≤List.length B9))<|some (A8.mk [.sc (.int .i64 0)] [[.own 3 B5 (List.take (B5*3) B9),.sc (.int .i64 Cr)]])))) (Be (decide ((↑B5:Int)>8)) (Ar (decide (B5*3≤List.length B9))<|some (A8.mk [.sc (.int .i64 5)] [[.own 3 B5 (List.take (B5*3) B9),.sc (.int .i64 Cr)]])) (Ar (decide (B5*3≤List.length B9))<|some (A8.mk [.sc (.int .i64 0)] [[.own 3 B5 (List.take (B5*3) B9),.sc (.int .i64 Cr)]])))) (Be (decide ((↑B5:Int)>8)) (Ar (decide (B5*3≤List.length B9))<|some (A8.mk [.sc (.int .i64 5)] [[.own 3 B5 (List.take (B5*3) B9),.sc (.int .i64 Cr)]])) (Ar (decide (B5*3≤List.length B9))<|some (A8.mk [.sc (.int .i64 0)] [[.own 3 B5 (List.take (B5*3) B9),.sc (.int .i64 Cr)]])))) (Be (decide ((↑B5:Int)>8)) (Ar (decide (B5*3≤List.length B9))<|some (A8.mk [.sc (.int .i64 5)] [[.own 3 B5 (List.take (B5*3) B9),.sc (.int .i64 Cr)]])) (Ar (decide (B5*3≤List.length B9))<|some (A8.mk [.sc (.int .i64 0)] [[.own 3 B5 (List.take (B5*3) B9),.sc (.int .i64 Cr)]]))))))) (Ae C0 Tryz.prog fu d):=by kernel_rfl
abbrev Q3:FuncId:=137
noncomputable def Bg (fu:Nat)(call:Ak)(a0_0n:Nat)(a0_0:List PV)(a0_1 a1_0 a1_1:Int)(a1_2:ByteArray)(nn:Nat)(y0:Int)(y1:Nat)(y2:Int)(y3:List PV):Option A8:=C5 C0 Tryz.prog fu call 137 Tryz.f137 (B7 Tryz.f137) [.pbox [.own 3 a0_0n a0_0,.sc (.int .i64 a0_1)],.agg [.sc (.int .i64 a1_0),.sc (.int .u64 a1_1),.sc (.string a1_2)]] [.r,.r,.r,.r,.r,.r,.l] nn ⟨lk [(0,(.ptr 212000 0)),(5,(.sc (.int .i64 y0)))],Gv [(212000,(.st [(.view 212106 3 0 y1),(.sc (.int .i64 y2))])),(212106,(.ar false y3))]⟩
theorem M8 (fu:Nat)(call:Ak)(a0_0n:Nat)(a0_0:List PV)(a0_1 a1_0 a1_1:Int)(a1_2:ByteArray)(nn:Nat)(y0:Int)(y1:Nat)(y2:Int)(y3:List PV):Bg fu call a0_0n a0_0 a0_1 a1_0 a1_1 a1_2 (nn+1) y0 y1 y2 y3=(Be (decide (y0>0)) (Aa (IntKind.wrap .i64 (y0-1)) fun Jr=>Ar (decide (0≤Jr)&&decide (Jr<(↑y1:Int)))<|Af .i64 (List.getD y3 (0+Int.toNat Jr*3+1) .top) fun Nb=>Be (Nb==0) (Aa (IntKind.wrap .i64 (y0-1)) fun Fq=>Ar (decide (0≤Fq))<|Ar (decide (Int.toNat Fq≤y1))<|Aa (Int.toNat Fq-0) fun Ih=>Aa (IntKind.wrap .i64 (y0-1)) fun Q8=>Bg fu call a0_0n a0_0 a0_1 a1_0 a1_1 a1_2 (nn) Q8 Ih (y2) (y3)) (Ar (decide (y1*3≤List.length y3))<|some (A8.mk [] [[.own 3 y1 (List.take (y1*3) y3),.sc (.int .i64 y2)]]))) (Ar (decide (y1*3≤List.length y3))<|some (A8.mk [] [[.own 3 y1 (List.take (y1*3) y3),.sc (.int .i64 y2)]]))):=by kernel_rfl
theorem Aca (fu d a0_0n:Nat)(a0_0:List PV)(a0_1 a1_0 a1_1:Int)(a1_2:ByteArray):Ae C0 Tryz.prog fu (d+1) Q3 [.pbox [.own 3 a0_0n a0_0,.sc (.int .i64 a0_1)],.agg [.sc (.int .i64 a1_0),.sc (.int .u64 a1_1),.sc (.string a1_2)]]=(fun (call:Ak)=>Aa (IntKind.wrap .i64 (a0_1+1)) fun x1=>Be (decide ((↑a0_0n:Int)>0)) (Aa (IntKind.wrap .i64 ((↑a0_0n:Int)-1)) fun x2=>Ar (decide (0≤x2)&&decide (x2<(↑a0_0n:Int)))<|Af .i64 (List.getD a0_0 (0+Int.toNat x2*3+1) .top) fun x3=>Aa (IntKind.wrap .i64 (x3-1)) fun x4=>Ar (decide (0≤x2)&&decide (x2<(↑a0_0n:Int)))<|Ar (decide (0+Int.toNat x2*3+1+1≤List.length a0_0))<|Aa (Bn a0_0 [.sc (.int .i64 x4)] (0+Int.toNat x2*3+1)) fun x5=>Be (a1_0==5) (Be (decide (a1_1>0)) (Aa (IntKind.wrap .i64 a1_1) fun x6=>Ar (decide (a0_0n*3≤List.length x5)&&true&&decide ((a0_0n+1)*40≤1099511627776)&&decide (a0_0n+1≤1099511627776))<|Aa (a0_0n+1) fun x7=>Aa (List.take (a0_0n*3) x5++[.sc (.bool false),.sc (.int .i64 x6),.lst false 1 0 []]) fun x8=>Be (a1_0==6) (Be (decide (a1_1>0)) (Aa (IntKind.wrap .i64 a1_1) fun x9=>Aa (IntKind.wrap .i64 (2*x9)) fun B5=>Ar (decide (x7*3≤List.length x8)&&true&&decide ((x7+1)*40≤1099511627776)&&decide (x7+1≤1099511627776))<|Aa (x7+1) fun B9=>Aa (List.take (x7*3) x8++[.sc (.bool true),.sc (.int .i64 B5),.lst false 1 0 []]) fun Cy=>Bg fu call a0_0n a0_0 a0_1 a1_0 a1_1 a1_2 (fu) ((↑B9:Int)) B9 x1 Cy) (Bg fu call a0_0n a0_0 a0_1 a1_0 a1_1 a1_2 (fu) ((↑x7:Int)) x7 x1 x8)) (Bg fu call a0_0n a0_0 a0_1 a1_0 a1_1 a1_2 (fu) ((↑x7:Int)) x7 x1 x8)) (Be (a1_0==6) (Be (decide (a1_1>0)) (Aa (IntKind.wrap .i64 a1_1) fun C7=>Aa (IntKind.wrap .i64 (2*C7)) fun Cr=>Ar (decide (a0_0n*3≤List.length x5)&&true&&decide ((a0_0n+1)*40≤1099511627776)&&decide (a0_0n+1≤1099511627776))<|Aa (a0_0n+1) fun C3=>Aa (List.take (a0_0n*3) x5++[.sc (.bool true),.sc (.int .i64 Cr),.lst false 1 0 []]) fun Df=>Bg fu call a0_0n a0_0 a0_1 a1_0 a1_1 a1_2 (fu) ((↑C3:Int)) C3 x1 Df) (Bg fu call a0_0n a0_0 a0_1 a1_0 a1_1 a1_2 (fu) ((↑a0_0n:Int)) (a0_0n) x1 x5)) (Bg fu call a0_0n a0_0 a0_1 a1_0 a1_1 a1_2 (fu) ((↑a0_0n:Int)) (a0_0n) x1 x5))) (Be (a1_0==6) (Be (decide (a1_1>0)) (Aa (IntKind.wrap .i64 a1_1) fun Ds=>Aa (IntKind.wrap .i64 (2*Ds)) fun D2=>Ar (decide (a0_0n*3≤List.length x5)&&true&&decide ((a0_0n+1)*40≤1099511627776)&&decide (a0_0n+1≤1099511627776))<|Aa (a0_0n+1) fun D0=>Aa (List.take (a0_0n*3) x5++[.sc (.bool true),.sc (.int .i64 D2),.lst false 1 0 []]) fun D6=>Bg fu call a0_0n a0_0 a0_1 a1_0 a1_1 a1_2 (fu) ((↑D0:Int)) D0 x1 D6) (Bg fu call a0_0n a0_0 a0_1 a1_0 a1_1 a1_2 (fu) ((↑a0_0n:Int)) (a0_0n) x1 x5)) (Bg fu call a0_0n a0_0 a0_1 a1_0 a1_1 a1_2 (fu) ((↑a0_0n:Int)) (a0_0n) x1 x5))) (Be (a1_0==5) (Be (decide (a1_1>0)) (Aa (IntKind.wrap .i64 a1_1) fun F1=>Ar (decide (a0_0n*3≤List.length a0_0)&&true&&decide ((a0_0n+1)*40≤1099511627776)&&decide (a0_0n+1≤1099511627776))<|Aa (a0_0n+1) fun Ey=>Aa (List.take (a0_0n*3) a0_0++[.sc (.bool false),.sc (.int .i64 F1),.lst false 1 0 []]) fun Fs=>Be (a1_0==6) (Be (decide (a1_1>0)) (Aa (IntKind.wrap .i64 a1_1) fun De=>Aa (IntKind.wrap .i64 (2*De)) fun C9=>Ar (decide (Ey*3≤List.length Fs)&&true&&decide ((Ey+1)*40≤1099511627776)&&decide (Ey+1≤1099511627776))<|Aa (Ey+1) fun Eu=>Aa (List.take (Ey*3) Fs++[.sc (.bool true),.sc (.int .i64 C9),.lst false 1 0 []]) fun F6=>Bg fu call a0_0n a0_0 a0_1 a1_0 a1_1 a1_2 (fu) ((↑Eu:Int)) Eu x1 F6) (Bg fu call a0_0n a0_0 a0_1 a1_0 a1_1 a1_2 (fu) ((↑Ey:Int)) Ey x1 Fs)) (Bg fu call a0_0n a0_0 a0_1 a1_0 a1_1 a1_2 (fu) ((↑Ey:Int)) Ey x1 Fs)) (Be (a1_0==6) (Be (decide (a1_1>0)) (Aa (IntKind.wrap .i64 a1_1) fun Ef=>Aa (IntKind.wrap .i64 (2*Ef)) fun Hn=>Ar (decide (a0_0n*3≤List.length a0_0)&&true&&decide ((a0_0n+1)*40≤1099511627776)&&decide (a0_0n+1≤1099511627776))<|Aa (a0_0n+1) fun Hg=>Aa (List.take (a0_0n*3) a0_0++[.sc (.bool true),.sc (.int .i64 Hn),.lst false 1 0 []]) fun G3=>Bg fu call a0_0n a0_0 a0_1 a1_0 a1_1 a1_2 (fu) ((↑Hg:Int)) Hg x1 G3) (Bg fu call a0_0n a0_0 a0_1 a1_0 a1_1 a1_2 (fu) ((↑a0_0n:Int)) (a0_0n) x1 (a0_0))) (Bg fu call a0_0n a0_0 a0_1 a1_0 a1_1 a1_2 (fu) ((↑a0_0n:Int)) (a0_0n) x1 (a0_0)))) (Be (a1_0==6) (Be (decide (a1_1>0)) (Aa (IntKind.wrap .i64 a1_1) fun Ie=>Aa (IntKind.wrap .i64 (2*Ie)) fun Hy=>Ar (decide (a0_0n*3≤List.length a0_0)&&true&&decide ((a0_0n+1)*40≤1099511627776)&&decide (a0_0n+1≤1099511627776))<|Aa (a0_0n+1) fun Ir=>Aa (List.take (a0_0n*3) a0_0++[.sc (.bool true),.sc (.int .i64 Hy),.lst false 1 0 []]) fun G4=>Bg fu call a0_0n a0_0 a0_1 a1_0 a1_1 a1_2 (fu) ((↑Ir:Int)) Ir x1 G4) (Bg fu call a0_0n a0_0 a0_1 a1_0 a1_1 a1_2 (fu) ((↑a0_0n:Int)) (a0_0n) x1 (a0_0))) (Bg fu call a0_0n a0_0 a0_1 a1_0 a1_1 a1_2 (fu) ((↑a0_0n:Int)) (a0_0n) x1 (a0_0))))) (Ae C0 Tryz.prog fu d):=by kernel_rfl
abbrev I4:FuncId:=122
theorem I6 (fu d a0_0n:Nat)(a0_0:List PV)(a0_1 a1_0 a1_1:Int)(a1_2:ByteArray):Ae C0 Tryz.prog fu (d+1) I4 [.pbox [.own 3 a0_0n a0_0,.sc (.int .i64 a0_1)],.agg [.sc (.int .i64 a1_0),.sc (.int .u64 a1_1),.sc (.string a1_2)]]=(fun (call:Ak)=>Be (a1_0==4) (Ah (call 67 [.sc (.string a1_2)]) fun x1 x2=>Ac x2<|Ab x1 fun x3 x4=>Bz x3 fun x5=>Ac x4<|Be (!x5) (Ar (decide (a0_0n*3≤List.length a0_0))<|some (A8.mk [.sc (.int .i64 6)] [[.own 3 a0_0n (List.take (a0_0n*3) a0_0),.sc (.int .i64 a0_1)]])) (Ar (decide (a0_0n*3≤List.length a0_0))<|Ah (call 134 [.pbox [.own 3 a0_0n (List.take (a0_0n*3) a0_0),.sc (.int .i64 a0_1)]]) fun x6 x7=>Ab x6 fun x8 x9=>Bz x8 fun B5=>Ac x9<|Ab x7 fun B9 Cy=>Ab B9 fun C7 Cr=>C8 3 C7 fun C3 Df=>Ab Cr fun Ds D2=>Af .i64 Ds fun D0=>Ac D2<|Ac Cy<|Be B5 (Aa (IntKind.wrap .i64 ((↑C3:Int)-1)) fun D6=>Ar (decide (0≤D6)&&decide (D6<(↑C3:Int)))<|Ah (call 135 [.own 1 0 [],.agg [.sc (.int .i64 a1_0),.sc (.int .u64 a1_1),.sc (.string a1_2)]]) fun F1 Ey=>Ab F1 fun Fs De=>C8 1 Fs fun C9 Eu=>Ac De<|Ac Ey<|Jn 1 (List.getD Df (0+Int.toNat D6*3+0+2) .top) fun F6 Ef Hn=>Be (decide (0<Ef)) (Jn 1 (List.getD Df (0+Int.toNat D6*3+0+2) .top) fun Hg G3 Ie=>Ar (decide (0+C9*1≤List.length Eu))<|Ah (call 136 [.lst false 1 G3 Ie,.lst false 1 C9 (List.take (C9*1) (List.drop 0 Eu))]) fun Hy Ir=>Ac Ir<|Ab Hy fun G4 Jr=>Bz G4 fun Nb=>Ac Jr<|Be (!Nb) (Ar (decide (C3*3≤List.length Df))<|some (A8.mk [.sc (.int .i64 7)] [[.own 3 C3 (List.take (C3*3) Df),.sc (.int .i64 D0)]])) (Ar (decide (0+Int.toNat D6*3+0+2+1≤List.length Df))<|Ar (decide (0+C9*1≤List.length Eu))<|Aa (Bn Df [.lst false 1 C9 (List.take (C9*1) (List.drop 0 Eu))] (0+Int.toNat D6*3+0+2)) fun Fq=>Ar (decide (C3*3≤List.length Fq))<|Ah (call 137 [.pbox [.own 3 C3 (List.take (C3*3) Fq),.sc (.int .i64 D0)],.agg [.sc (.int .i64 a1_0),.sc (.int .u64 a1_1),.sc (.string a1_2)]]) fun Ih Q8=>Ac Ih<|Ab Q8 fun Sk Mj=>Ab Sk fun Po Of=>C8 3 Po fun Oy Q2=>Ab Of fun Ra Rj=>Af .i64 Ra fun Qc=>Ac Rj<|Ac Mj<|Ar (decide (Oy*3≤List.length Q2))<|some (A8.mk [.sc (.int .i64 0)] [[.own 3 Oy (List.take (Oy*3) Q2),.sc (.int .i64 Qc)]]))) (X5 (Jn 1 (List.getD Df (0+Int.toNat D6*3+0+2) .top) fun Si Tg Sh=>Ar (decide (0+C9*1≤List.length Eu))<|Ah (call 136 [.lst false 1 Tg Sh,.lst false 1 C9 (List.take (C9*1) (List.drop 0 Eu))]) fun Lr Ui=>Ac Ui<|Ab Lr fun R0 Um=>Bz R0 fun Sf=>Ac Um<|Be (!Sf) (Ar (decide (C3*3≤List.length Df))<|some (A8.mk [.sc (.int .i64 7)] [[.own 3 C3 (List.take (C3*3) Df),.sc (.int .i64 D0)]])) (Ar (decide (0+Int.toNat D6*3+0+2+1≤List.length Df))<|Ar (decide (0+C9*1≤List.length Eu))<|Aa (Bn Df [.lst false 1 C9 (List.take (C9*1) (List.drop 0 Eu))] (0+Int.toNat D6*3+0+2)) fun S9=>Ar (decide (C3*3≤List.length S9))<|Ah (call 137 [.pbox [.own 3 C3 (List.take (C3*3) S9),.sc (.int .i64 D0)],.agg [.sc (.int .i64 a1_0),.sc (.int .u64 a1_1),.sc (.string a1_2)]]) fun Tx Uu=>Ac Tx<|Ab Uu fun Ux X6=>Ab Ux fun Xc Us=>C8 3 Xc fun Ut Tp=>Ab Us fun Tf Y4=>Af .i64 Tf fun Vb=>Ac Y4<|Ac X6<|Ar (decide (Ut*3≤List.length Tp))<|some (A8.mk [.sc (.int .i64 0)] [[.own 3 Ut (List.take (Ut*3) Tp),.sc (.int .i64 Vb)]]))) (Ar (decide (0+Int.toNat D6*3+0+2+1≤List.length Df))<|Ar (decide (0+C9*1≤List.length Eu))<|Aa (Bn Df [.lst false 1 C9 (List.take (C9*1) (List.drop 0 Eu))] (0+Int.toNat D6*3+0+2)) fun V7=>Ar (decide (C3*3≤List.length V7))<|Ah (call 137 [.pbox [.own 3 C3 (List.take (C3*3) V7),.sc (.int .i64 D0)],.agg [.sc (.int .i64 a1_0),.sc (.int .u64 a1_1),.sc (.string a1_2)]]) fun Vi Xe=>Ac Vi<|Ab Xe fun Zc Uw=>Ab Zc fun Xb x76=>C8 3 Xb fun Xw Zf=>Ab x76 fun x79 x80=>Af .i64 x79 fun x81=>Ac x80<|Ac Uw<|Ar (decide (Xw*3≤List.length Zf))<|some (A8.mk [.sc (.int .i64 0)] [[.own 3 Xw (List.take (Xw*3) Zf),.sc (.int .i64 x81)]])))) (Ar (decide (C3*3≤List.length Df))<|Ah (call 137 [.pbox [.own 3 C3 (List.take (C3*3) Df),.sc (.int .i64 D0)],.agg [.sc (.int .i64 a1_0),.sc (.int .u64 a1_1),.sc (.string a1_2)]]) fun x82 x83=>Ac x82<|Ab x83 fun x84 x85=>Ab x84 fun x86 x87=>C8 3 x86 fun x88 Uk=>Ab x87 fun x90 x91=>Af .i64 x90 fun x92=>Ac x91<|Ac x85<|Ar (decide (x88*3≤List.length Uk))<|some (A8.mk [.sc (.int .i64 0)] [[.own 3 x88 (List.take (x88*3) Uk),.sc (.int .i64 x92)]])))) (Ar (decide (a0_0n*3≤List.length a0_0))<|Ah (call 134 [.pbox [.own 3 a0_0n (List.take (a0_0n*3) a0_0),.sc (.int .i64 a0_1)]]) fun x93 x94=>Ab x93 fun x95 x96=>Bz x95 fun x97=>Ac x96<|Ab x94 fun x98 x99=>Ab x98 fun Xa Th=>C8 3 Xa fun Hf Kd=>Ab Th fun Y3 Sn=>Af .i64 Y3 fun Qs=>Ac Sn<|Ac x99<|Be x97 (Aa (IntKind.wrap .i64 ((↑Hf:Int)-1)) fun Mk=>Ar (decide (0≤Mk)&&decide (Mk<(↑Hf:Int)))<|Ah (call 135 [.own 1 0 [],.agg [.sc (.int .i64 a1_0),.sc (.int .u64 a1_1),.sc (.string a1_2)]]) fun Aab Ab0=>Ab Aab fun Yg Zx=>C8 1 Yg fun Io Lh=>Ac Zx<|Ac Ab0<|Jn 1 (List.getD Kd (0+Int.toNat Mk*3+0+2) .top) fun Afj Agy Px=>Be (decide (0<Agy)) (Jn 1 (List.getD Kd (0+Int.toNat Mk*3+0+2) .top) fun Vp Ae3 Abw=>Ar (decide (0+Io*1≤List.length Lh))<|Ah (call 136 [.lst false 1 Ae3 Abw,.lst false 1 Io (List.take (Io*1) (List.drop 0 Lh))]) fun Afb Aef=>Ac Aef<|Ab Afb fun Agt Aha=>Bz Agt fun Ae8=>Ac Aha<|Be (!Ae8) (Ar (decide (Hf*3≤List.length Kd))<|some (A8.mk [.sc (.int .i64 7)] [[.own 3 Hf (List.take (Hf*3) Kd),.sc (.int .i64 Qs)]])) (Ar (decide (0+Int.toNat Mk*3+0+2+1≤List.length Kd))<|Ar (decide (0+Io*1≤List.length Lh))<|Aa (Bn Kd [.lst false 1 Io (List.take (Io*1) (List.drop 0 Lh))] (0+Int.toNat Mk*3+0+2)) fun Aed=>Ar (decide (Hf*3≤List.length Aed))<|Ah (call 137 [.pbox [.own 3 Hf (List.take (Hf*3) Aed),.sc (.int .i64 Qs)],.agg [.sc (.int .i64 a1_0),.sc (.int .u64 a1_1),.sc (.string a1_2)]]) fun Up Yy=>Ac Up<|Ab Yy fun Afc Ag7=>Ab Afc fun Aby Amn=>C8 3 Aby fun Agj Aec=>Ab Amn fun Ail All=>Af .i64 Ail fun Aku=>Ac All<|Ac Ag7<|Ar (decide (Agj*3≤List.length Aec))<|some (A8.mk [.sc (.int .i64 0)] [[.own 3 Agj (List.take (Agj*3) Aec),.sc (.int .i64 Aku)]]))) (X5 (Jn 1 (List.getD Kd (0+Int.toNat Mk*3+0+2) .top) fun Aow Al1 Ahp=>Ar (decide (0+Io*1≤List.length Lh))<|Ah (call 136 [.lst false 1 Al1 Ahp,.lst false 1 Io (List.take (Io*1) (List.drop 0 Lh))]) fun Aiw Agv=>Ac Agv<|Ab Aiw fun Aid Amw=>Bz Aid fun Ag6=>Ac Amw<|Be (!Ag6) (Ar (decide (Hf*3≤List.length Kd))<|some (A8.mk [.sc (.int .i64 7)] [[.own 3 Hf (List.take (Hf*3) Kd),.sc (.int .i64 Qs)]])) (Ar (decide (0+Int.toNat Mk*3+0+2+1≤List.length Kd))<|Ar (decide (0+Io*1≤List.length Lh))<|Aa (Bn Kd [.lst false 1 Io (List.take (Io*1) (List.drop 0 Lh))] (0+Int.toNat Mk*3+0+2)) fun Aeh=>Ar (decide (Hf*3≤List.length Aeh))<|Ah (call 137 [.pbox [.own 3 Hf (List.take (Hf*3) Aeh),.sc (.int .i64 Qs)],.agg [.sc (.int .i64 a1_0),.sc (.int .u64 a1_1),.sc (.string a1_2)]]) fun Ad3 Aiu=>Ac Ad3<|Ab Aiu fun Ak5 Auv=>Ab Ak5 fun Aqu Ap6=>C8 3 Aqu fun Aht Alk=>Ab Ap6 fun Ale Ao5=>Af .i64 Ale fun Aq4=>Ac Ao5<|Ac Auv<|Ar (decide (Aht*3≤List.length Alk))<|some (A8.mk [.sc (.int .i64 0)] [[.own 3 Aht (List.take (Aht*3) Alk),.sc (.int .i64 Aq4)]]))) (Ar (decide (0+Int.toNat Mk*3+0+2+1≤List.length Kd))<|Ar (decide (0+Io*1≤List.length Lh))<|Aa (Bn Kd [.lst false 1 Io (List.take (Io*1) (List.drop 0 Lh))] (0+Int.toNat Mk*3+0+2)) fun Aom=>Ar (decide (Hf*3≤List.length Aom))<|Ah (call 137 [.pbox [.own 3 Hf (List.take (Hf*3) Aom),.sc (.int .i64 Qs)],.agg [.sc (.int .i64 a1_0),.sc (.int .u64 a1_1),.sc (.string a1_2)]]) fun Aoh An8=>Ac Aoh<|Ab An8 fun Aqz Aqv=>Ab Aqz fun Aoq Arv=>C8 3 Aoq fun Aky Am6=>Ab Arv fun Arb Ala=>Af .i64 Arb fun Aoi=>Ac Ala<|Ac Aqv<|Ar (decide (Aky*3≤List.length Am6))<|some (A8.mk [.sc (.int .i64 0)] [[.own 3 Aky (List.take (Aky*3) Am6),.sc (.int .i64 Aoi)]])))) (Ar (decide (Hf*3≤List.length Kd))<|Ah (call 137 [.pbox [.own 3 Hf (List.take (Hf*3) Kd),.sc (.int .i64 Qs)],.agg [.sc (.int .i64 a1_0),.sc (.int .u64 a1_1),.sc (.string a1_2)]]) fun Ams Aod=>Ac Ams<|Ab Aod fun Aqy Azb=>Ab Aqy fun Aqn At1=>C8 3 Aqn fun Aqj Av8=>Ab At1 fun A0i Ay3=>Af .i64 A0i fun Awx=>Ac Ay3<|Ac Azb<|Ar (decide (Aqj*3≤List.length Av8))<|some (A8.mk [.sc (.int .i64 0)] [[.own 3 Aqj (List.take (Aqj*3) Av8),.sc (.int .i64 Awx)]])))) (Ae C0 Tryz.prog fu d):=by kernel_rfl
abbrev M4:FuncId:=144
theorem Xd (fu d a0_0n:Nat)(a0_0:List PV)(a0_1 a1_0 a1_1:Int)(a1_2:ByteArray):Ae C0 Tryz.prog fu (d+1) M4 [.pbox [.own 3 a0_0n a0_0,.sc (.int .i64 a0_1)],.agg [.sc (.int .i64 a1_0),.sc (.int .u64 a1_1),.sc (.string a1_2)]]=(fun (call:Ak)=>Ar (decide (a0_0n*3≤List.length a0_0))<|Ah (call 109 [.pbox [.own 3 a0_0n (List.take (a0_0n*3) a0_0),.sc (.int .i64 a0_1)]]) fun x1 x2=>Ab x1 fun x3 x4=>Bz x3 fun x5=>Ac x4<|Ab x2 fun x6 x7=>Ab x6 fun x8 x9=>C8 3 x8 fun B5 B9=>Ab x9 fun Cy C7=>Af .i64 Cy fun Cr=>Ac C7<|Ac x7<|Be x5 (Ar (decide (B5*3≤List.length B9))<|some (A8.mk [.sc (.int .i64 2)] [[.own 3 B5 (List.take (B5*3) B9),.sc (.int .i64 Cr)]])) (Ar (decide (B5*3≤List.length B9))<|Ah (call 121 [.pbox [.own 3 B5 (List.take (B5*3) B9),.sc (.int .i64 Cr)],.sc (.int .i64 a1_0)]) fun C3 Df=>Ab C3 fun Ds D2=>Af .i64 Ds fun D0=>Ac D2<|Ab Df fun D6 F1=>Ab D6 fun Ey Fs=>C8 3 Ey fun De C9=>Ab Fs fun Eu F6=>Af .i64 Eu fun Ef=>Ac F6<|Ac F1<|Be (D0 != 0) (Ar (decide (De*3≤List.length C9))<|some (A8.mk [.sc (.int .i64 D0)] [[.own 3 De (List.take (De*3) C9),.sc (.int .i64 Ef)]])) (Ah (call 146 [.agg [.sc (.int .i64 a1_0),.sc (.int .u64 a1_1),.sc (.string a1_2)]]) fun Hn Hg=>Ac Hg<|Ab Hn fun G3 Ie=>Bz G3 fun Hy=>Ac Ie<|Be (!Hy) (Ar (decide (De*3≤List.length C9))<|some (A8.mk [.sc (.int .i64 4)] [[.own 3 De (List.take (De*3) C9),.sc (.int .i64 Ef)]])) (Be (decide ((↑(ByteArray.size a1_2):Int)>1024)) (Ar (decide (De*3≤List.length C9))<|some (A8.mk [.sc (.int .i64 8)] [[.own 3 De (List.take (De*3) C9),.sc (.int .i64 Ef)]])) (Be (a1_0==5) (Be (decide (a1_1>512)) (Ar (decide (De*3≤List.length C9))<|some (A8.mk [.sc (.int .i64 8)] [[.own 3 De (List.take (De*3) C9),.sc (.int .i64 Ef)]])) (Ar (decide (De*3≤List.length C9))<|Ah (call 122 [.pbox [.own 3 De (List.take (De*3) C9),.sc (.int .i64 Ef)],.agg [.sc (.int .i64 a1_0),.sc (.int .u64 a1_1),.sc (.string a1_2)]]) fun Ir G4=>Ab Ir fun Jr Nb=>Af .i64 Jr fun Fq=>Ac Nb<|Ab G4 fun Ih Q8=>Ab Ih fun Sk Mj=>C8 3 Sk fun Po Of=>Ab Mj fun Oy Q2=>Af .i64 Oy fun Ra=>Ac Q2<|Ac Q8<|Ar (decide (Po*3≤List.length Of))<|some (A8.mk [.sc (.int .i64 Fq)] [[.own 3 Po (List.take (Po*3) Of),.sc (.int .i64 Ra)]]))) (Be (a1_0==6) (Be (decide (a1_1>512)) (Ar (decide (De*3≤List.length C9))<|some (A8.mk [.sc (.int .i64 8)] [[.own 3 De (List.take (De*3) C9),.sc (.int .i64 Ef)]])) (Ar (decide (De*3≤List.length C9))<|Ah (call 122 [.pbox [.own 3 De (List.take (De*3) C9),.sc (.int .i64 Ef)],.agg [.sc (.int .i64 a1_0),.sc (.int .u64 a1_1),.sc (.string a1_2)]]) fun Rj Qc=>Ab Rj fun Si Tg=>Af .i64 Si fun Sh=>Ac Tg<|Ab Qc fun Lr Ui=>Ab Lr fun R0 Um=>C8 3 R0 fun Sf S9=>Ab Um fun Tx Uu=>Af .i64 Tx fun Ux=>Ac Uu<|Ac Ui<|Ar (decide (Sf*3≤List.length S9))<|some (A8.mk [.sc (.int .i64 Sh)] [[.own 3 Sf (List.take (Sf*3) S9),.sc (.int .i64 Ux)]]))) (Ar (decide (De*3≤List.length C9))<|Ah (call 122 [.pbox [.own 3 De (List.take (De*3) C9),.sc (.int .i64 Ef)],.agg [.sc (.int .i64 a1_0),.sc (.int .u64 a1_1),.sc (.string a1_2)]]) fun X6 Xc=>Ab X6 fun Us Ut=>Af .i64 Us fun Tp=>Ac Ut<|Ab Xc fun Tf Y4=>Ab Tf fun Vb V7=>C8 3 Vb fun Vi Xe=>Ab V7 fun Zc Uw=>Af .i64 Zc fun Xb=>Ac Uw<|Ac Y4<|Ar (decide (Vi*3≤List.length Xe))<|some (A8.mk [.sc (.int .i64 Tp)] [[.own 3 Vi (List.take (Vi*3) Xe),.sc (.int .i64 Xb)]])))))))) (Ae C0 Tryz.prog fu d):=by kernel_rfl
abbrev Ts:FuncId:=140
noncomputable def Hz (fu:Nat)(call:Ak)(a0n:Nat)(a0:List PV)(nn y0:Nat)(y1:List PV)(y2 y3:Int)(y4:Nat)(y5:Int)(y6:List PV):Option A8:=C5 C0 Tryz.prog fu call 140 Tryz.f140 (B7 Tryz.f140) [.lst false 3 a0n a0] [.r,.r,.l,.r,.l] nn ⟨lk [(3,(.ptr 3 0)),(7,(.lst false 3 y0 y1)),(8,(.sc (.int .i64 y2))),(9,(.sc (.int .i64 y3)))],Gv [(3,(.st [(.view 25 3 0 y4),(.sc (.int .i64 y5))])),(25,(.ar false y6))]⟩
theorem Ov (fu:Nat)(call:Ak)(a0n:Nat)(a0:List PV)(nn y0:Nat)(y1:List PV)(y2 y3:Int)(y4:Nat)(y5:Int)(y6:List PV):Hz fu call a0n a0 (nn+1) y0 y1 y2 y3 y4 y5 y6=(Be (decide (y3<y2)) (Ar (decide (0≤y3)&&decide (y3<(↑y0:Int)))<|Af .i64 (List.getD y1 (Int.toNat y3*3) .top) fun x1=>Af .u64 (List.getD y1 (Int.toNat y3*3+1) .top) fun x2=>Cu (List.getD y1 (Int.toNat y3*3+1+1) .top) fun x3=>Ar (decide (y4*3≤List.length y6))<|Ah (call 144 [.pbox [.own 3 y4 (List.take (y4*3) y6),.sc (.int .i64 y5)],.agg [.sc (.int .i64 x1),.sc (.int .u64 x2),.sc (.string x3)]]) fun x4 x5=>Ab x4 fun x6 x7=>Af .i64 x6 fun x8=>Ac x7<|Ab x5 fun x9 B5=>Ab x9 fun B9 Cy=>C8 3 B9 fun C7 Cr=>Ab Cy fun C3 Df=>Af .i64 C3 fun Ds=>Ac Df<|Ac B5<|Be (x8 != 0) (some (A8.mk [.sc (.int .i64 x8)] [])) (Aa (IntKind.wrap .i64 (y3+1)) fun D2=>Hz fu call a0n a0 (nn) (y0) (y1) (y2) D2 C7 Ds Cr)) (Ar (decide (y4*3≤List.length y6))<|Ah (call 109 [.pbox [.own 3 y4 (List.take (y4*3) y6),.sc (.int .i64 y5)]]) fun D0 D6=>Ab D0 fun F1 Ey=>Bz F1 fun Fs=>Ac Ey<|Ab D6 fun De C9=>Ab De fun Eu F6=>C8 3 Eu fun Ef Hn=>Ab F6 fun Hg G3=>Af .i64 Hg fun Ie=>Ac G3<|Ac C9<|Be (!Fs) (some (A8.mk [.sc (.int .i64 1)] [])) (some (A8.mk [.sc (.int .i64 0)] [])))):=by kernel_rfl
theorem Ad4 (fu d a0n:Nat)(a0:List PV):Ae C0 Tryz.prog fu (d+1) Ts [.lst false 3 a0n a0]=(fun (call:Ak)=>Hz fu call a0n a0 (fu) (a0n) (a0) ((↑a0n:Int)) 0 0 0 ([])) (Ae C0 Tryz.prog fu d):=by kernel_rfl
abbrev V5:FuncId:=139
theorem Ahe (fu d a0n:Nat)(a0:List PV):Ae C0 Tryz.prog fu (d+1) V5 [.own 3 a0n a0]=(fun (call:Ak)=>Ar (decide (0+a0n*3≤List.length a0))<|Ah (call 140 [.lst false 3 a0n (List.take (a0n*3) (List.drop 0 a0))]) fun x1 x2=>Ac x2<|Ab x1 fun x3 x4=>Af .i64 x3 fun x5=>Ac x4<|Be (x5 != 0) (some (A8.mk [.own 3 0 [],.sc (.int .i64 x5)] [])) (Ar (decide (a0n*3≤List.length a0))<|some (A8.mk [.own 3 a0n (List.take (a0n*3) a0),.sc (.int .i64 0)] []))) (Ae C0 Tryz.prog fu d):=by kernel_rfl
abbrev X7:FuncId:=138
noncomputable def Jy (fu:Nat)(call:Ak)(a0n:Nat)(a0:List PV)(nn y0:Nat)(y1:List PV)(y2 y3:Int):Option A8:=C5 C0 Tryz.prog fu call 138 Tryz.f138 (B7 Tryz.f138) [.lst false 1 a0n a0] [.r,.l,.r,.l] nn ⟨lk [(6,(.lst false 1 y0 y1)),(7,(.sc (.int .i64 y2))),(8,(.sc (.int .i64 y3)))],Gv []⟩
theorem Q5 (fu:Nat)(call:Ak)(a0n:Nat)(a0:List PV)(nn y0:Nat)(y1:List PV)(y2 y3:Int):Jy fu call a0n a0 (nn+1) y0 y1 y2 y3=(Be (decide (y3<y2)) (Ar (decide (0≤y3)&&decide (y3<(↑y0:Int)))<|Jn 3 (List.getD y1 (Int.toNat y3*1) .top) fun x1 x2 x3=>Ah (call 140 [.lst false 3 x2 x3]) fun x4 x5=>Ac x5<|Ab x4 fun x6 x7=>Af .i64 x6 fun x8=>Ac x7<|Be (x8 != 0) (some (A8.mk [.sc (.int .i64 x8)] [])) (Aa (IntKind.wrap .i64 (y3+1)) fun x9=>Jy fu call a0n a0 (nn) (y0) (y1) (y2) x9)) (some (A8.mk [.sc (.int .i64 0)] []))):=by kernel_rfl
theorem Ain (fu d a0n:Nat)(a0:List PV):Ae C0 Tryz.prog fu (d+1) X7 [.lst false 1 a0n a0]=(fun (call:Ak)=>Jy fu call a0n a0 (fu) (a0n) (a0) ((↑a0n:Int)) 0) (Ae C0 Tryz.prog fu d):=by kernel_rfl
abbrev Sv:FuncId:=124
noncomputable def Ls (fu:Nat)(call:Ak)(a0n:Nat)(a0:List PV)(nn y0 y1:Nat)(y2:List PV)(y3 y4:Int)(y5:List PV):Option A8:=C5 C0 Tryz.prog fu call 124 Tryz.f124 (B7 Tryz.f124) [.lst false 1 a0n a0] [.r,.r,.r,.l,.r,.l] nn ⟨lk [(5,(.view 5 3 0 y0)),(18,(.lst false 1 y1 y2)),(19,(.sc (.int .i64 y3))),(20,(.sc (.int .i64 y4)))],Gv [(5,(.ar false y5))]⟩
theorem Tq (fu:Nat)(call:Ak)(a0n:Nat)(a0:List PV)(nn y0 y1:Nat)(y2:List PV)(y3 y4:Int)(y5:List PV):Ls fu call a0n a0 (nn+1) y0 y1 y2 y3 y4 y5=(Be (decide (y4<y3)) (Ar (decide (0≤y4)&&decide (y4<(↑y1:Int)))<|Jn 3 (List.getD y2 (Int.toNat y4*1) .top) fun x7 x8 x9=>Be (decide ((↑y0:Int)>512)) (Ar (decide (y0*3≤List.length y5))<|Ah (call 139 [.own 3 y0 (List.take (y0*3) y5)]) fun B5 B9=>Ab B5 fun Cy C7=>C8 3 Cy fun Cr C3=>Ab C7 fun Df Ds=>Af .i64 Df fun D2=>Ac Ds<|Ac B9<|Ar (decide (Cr*3≤List.length C3))<|some (A8.mk [.own 3 Cr (List.take (Cr*3) C3),.sc (.int .i64 D2)] [])) (Ar (decide (y0*3≤List.length y5)&&decide (List.length x9=x8*3)&&decide ((y0+x8)*32≤1099511627776)&&decide (y0+x8≤1099511627776))<|Aa (y0+x8) fun D0=>Aa (List.take (y0*3) y5++x9) fun D6=>Aa (IntKind.wrap .i64 (y4+1)) fun F1=>Ls fu call a0n a0 (nn) D0 (y1) (y2) (y3) F1 D6)) (Ar (decide (y0*3≤List.length y5))<|Ah (call 139 [.own 3 y0 (List.take (y0*3) y5)]) fun Ey Fs=>Ab Ey fun De C9=>C8 3 De fun Eu F6=>Ab C9 fun Ef Hn=>Af .i64 Ef fun Hg=>Ac Hn<|Ac Fs<|Ar (decide (Eu*3≤List.length F6))<|some (A8.mk [.own 3 Eu (List.take (Eu*3) F6),.sc (.int .i64 Hg)] []))):=by kernel_rfl
theorem Ald (fu d a0n:Nat)(a0:List PV):Ae C0 Tryz.prog fu (d+1) Sv [.lst false 1 a0n a0]=(fun (call:Ak)=>Ah (call 138 [.lst false 1 a0n a0]) fun x1 x2=>Ac x2<|Ab x1 fun x3 x4=>Af .i64 x3 fun x5=>Ac x4<|Be (x5 != 0) (some (A8.mk [.own 3 0 [],.sc (.int .i64 x5)] [])) (Aa (IntKind.wrap .u64 (↑a0n:Int)) fun x6=>Ls fu call a0n a0 (fu) 1 (a0n) (a0) ((↑a0n:Int)) 0 ([.sc (.int .i64 5),.sc (.int .u64 x6),.sc (.string (ByteArray.mk #[]))]))) (Ae C0 Tryz.prog fu d):=by kernel_rfl
abbrev Qr:FuncId:=129
noncomputable def J3 (fu:Nat)(call:Ak)(a0n:Nat)(a0:List PV)(nn y0 y1:Nat)(y2:List PV)(y3 y4:Int)(y5:List PV):Option A8:=C5 C0 Tryz.prog fu call 129 Tryz.f129 (B7 Tryz.f129) [.lst false 3 a0n a0] [.r,.r,.r,.l,.r,.l] nn ⟨lk [(5,(.view 5 1 0 y0)),(13,(.lst false 3 y1 y2)),(14,(.sc (.int .i64 y3))),(15,(.sc (.int .i64 y4)))],Gv [(5,(.ar false y5))]⟩
theorem Rz (fu:Nat)(call:Ak)(a0n:Nat)(a0:List PV)(nn y0 y1:Nat)(y2:List PV)(y3 y4:Int)(y5:List PV):J3 fu call a0n a0 (nn+1) y0 y1 y2 y3 y4 y5=(Be (decide (y4<y3)) (Ar (decide (0≤y4)&&decide (y4<(↑y1:Int)))<|Af .i64 (List.getD y2 (Int.toNat y4*3) .top) fun x6=>Af .u64 (List.getD y2 (Int.toNat y4*3+1) .top) fun x7=>Cu (List.getD y2 (Int.toNat y4*3+1+1) .top) fun x8=>Ar (decide (y0*1≤List.length y5))<|Ah (call 135 [.own 1 y0 (List.take (y0*1) y5),.agg [.sc (.int .i64 x6),.sc (.int .u64 x7),.sc (.string x8)]]) fun x9 B5=>Ab x9 fun B9 Cy=>C8 1 B9 fun C7 Cr=>Ac Cy<|Ac B5<|Aa (IntKind.wrap .i64 (y4+1)) fun C3=>J3 fu call a0n a0 (nn) C7 (y1) (y2) (y3) C3 Cr) (Ar (decide (y0*1≤List.length y5))<|some (A8.mk [.own 1 y0 (List.take (y0*1) y5),.sc (.int .i64 0)] []))):=by kernel_rfl
theorem Ah4 (fu d a0n:Nat)(a0:List PV):Ae C0 Tryz.prog fu (d+1) Qr [.lst false 3 a0n a0]=(fun (call:Ak)=>Ah (call 140 [.lst false 3 a0n a0]) fun x1 x2=>Ac x2<|Ab x1 fun x3 x4=>Af .i64 x3 fun x5=>Ac x4<|Be (x5 != 0) (some (A8.mk [.own 1 0 [],.sc (.int .i64 x5)] [])) (J3 fu call a0n a0 (fu) 0 (a0n) (a0) ((↑a0n:Int)) 0 ([]))) (Ae C0 Tryz.prog fu d):=by kernel_rfl
end
section
set_option maxRecDepth 100000
abbrev Oj:FuncId:=114
noncomputable def Cz (fu:Nat)(call:Ak)(a0_0 a0_1:Int)(a0_2:ByteArray)(nn:Nat)(y0 y1:Int):Option A8:=C5 C0 Tryz.prog fu call 114 Tryz.f114 (B7 Tryz.f114) [.agg [.sc (.int .i64 a0_0),.sc (.int .u64 a0_1),.sc (.string a0_2)]] [.r,.r,.r] nn ⟨lk [(3,(.sc (.int .u64 y0))),(4,(.sc (.int .u8 y1)))],Gv []⟩
theorem Uf (fu:Nat)(call:Ak)(a0_0 a0_1:Int)(a0_2:ByteArray)(nn:Nat)(hnn:0<nn)(y0 y1:Int):Cz fu call a0_0 a0_1 a0_2 nn y0 y1=(Be (decide (y0<24)) (Aa (IntKind.wrap .u8 y0) fun x5=>Aa (IntKind.wrap .u8 (y1+x5)) fun x6=>some (A8.mk [.own 1 1 [.sc (.int .u8 x6)]] [])) (Be (decide (y0<256)) (Aa (IntKind.wrap .u8 (y1+24)) fun x7=>Aa (IntKind.wrap .u8 y0) fun x8=>some (A8.mk [.own 1 2 [.sc (.int .u8 x7),.sc (.int .u8 x8)]] [])) (Be (decide (y0<65536)) (Aa (IntKind.wrap .u8 (y1+25)) fun x9=>Aa (Dx .u64 y0 8) fun B5=>Aa (IntKind.wrap .u8 B5) fun B9=>Aa (IntKind.wrap .u8 y0) fun Cy=>some (A8.mk [.own 1 3 [.sc (.int .u8 x9),.sc (.int .u8 B9),.sc (.int .u8 Cy)]] [])) (Be (decide (y0<4294967296)) (Aa (IntKind.wrap .u8 (y1+26)) fun C7=>Aa (Dx .u64 y0 24) fun Cr=>Aa (IntKind.wrap .u8 Cr) fun C3=>Aa (Dx .u64 y0 16) fun Df=>Aa (IntKind.wrap .u8 Df) fun Ds=>Aa (Dx .u64 y0 8) fun D2=>Aa (IntKind.wrap .u8 D2) fun D0=>Aa (IntKind.wrap .u8 y0) fun D6=>some (A8.mk [.own 1 5 [.sc (.int .u8 C7),.sc (.int .u8 C3),.sc (.int .u8 Ds),.sc (.int .u8 D0),.sc (.int .u8 D6)]] [])) (Aa (IntKind.wrap .u8 (y1+27)) fun F1=>Ah (call 38 [.lst false 1 1 [.sc (.int .u64 y0)]]) fun Ey Fs=>Ac Fs<|Ab Ey fun De C9=>C8 1 De fun Eu F6=>Ac C9<|Ar (decide (0+Eu*1≤List.length F6))<|Ar (decide (List.length (List.take (Eu*1) (List.drop 0 F6))=Eu*1)&&decide ((1+Eu)*1≤1099511627776)&&decide (1+Eu≤1099511627776))<|Aa (1+Eu) fun Ef=>Aa ([.sc (.int .u8 F1)]++List.take (Eu*1) (List.drop 0 F6)) fun Hn=>Ar (decide (Ef*1≤List.length Hn))<|some (A8.mk [.own 1 Ef (List.take (Ef*1) Hn)] [])))))):=by cases nn with|zero=>exact absurd hnn (Nat.lt_irrefl 0)|succ nn=>kernel_rfl
theorem Zg (fu d:Nat)(a0_0 a0_1:Int)(a0_2:ByteArray):Ae C0 Tryz.prog fu (d+1) Oj [.agg [.sc (.int .i64 a0_0),.sc (.int .u64 a0_1),.sc (.string a0_2)]]=(fun (call:Ak)=>Be (a0_0==7) (Aa (IntKind.wrap .u8 a0_1) fun x1=>Aa (IntKind.wrap .u8 (244+x1)) fun x2=>some (A8.mk [.own 1 1 [.sc (.int .u8 x2)]] [])) (Be (a0_0==8) (some (A8.mk [.own 1 1 [.sc (.int .u8 246)]] [])) (Be (a0_0==2) (Cz fu call a0_0 a0_1 a0_2 (fu) (a0_1) 32) (Be (a0_0==3) (Aa (IntKind.wrap .u64 (↑(ByteArray.size a0_2):Int)) fun x3=>Cz fu call a0_0 a0_1 a0_2 (fu) x3 64) (Be (a0_0==4) (Aa (IntKind.wrap .u64 (↑(ByteArray.size a0_2):Int)) fun x4=>Cz fu call a0_0 a0_1 a0_2 (fu) x4 96) (Be (a0_0==5) (Cz fu call a0_0 a0_1 a0_2 (fu) (a0_1) 128) (Be (a0_0==6) (Cz fu call a0_0 a0_1 a0_2 (fu) (a0_1) 160) (Cz fu call a0_0 a0_1 a0_2 (fu) (a0_1) 0)))))))) (Ae C0 Tryz.prog fu d):=by kernel_rfl
abbrev Np:FuncId:=97
theorem Xs (fu d:Nat)(a0_0 a0_1:Int)(a0_2:ByteArray):Ae C0 Tryz.prog fu (d+1) Np [.agg [.sc (.int .i64 a0_0),.sc (.int .u64 a0_1),.sc (.string a0_2)]]=(fun (call:Ak)=>Ah (call 114 [.agg [.sc (.int .i64 a0_0),.sc (.int .u64 a0_1),.sc (.string a0_2)]]) fun x1 x2=>Ac x2<|Ab x1 fun x3 x4=>C8 1 x3 fun x5 x6=>Ac x4<|Ar (decide (0+x5*1≤List.length x6))<|Ar (decide (List.length (List.take (x5*1) (List.drop 0 x6))=x5))<|Ep (bytesOf (List.take (x5*1) (List.drop 0 x6))) fun x7=>Ar (decide (ByteArray.size (ByteArray.mk (List.toArray x7))+ByteArray.size a0_2≤9223372036854775807))<|Aa (ByteArray.mk (List.toArray x7)++a0_2) fun x8=>some (A8.mk [.sc (.string x8)] [])) (Ae C0 Tryz.prog fu d):=by kernel_rfl
end
section
def D1 (s:ByteArray):List Int:=s.data.toList.map fun b=>(b.toNat:Int)
def Ca (l:List Int):ByteArray:=⟨(l.map fun n=>n.toNat.toUInt8).toArray⟩
theorem En (s:ByteArray):(D1 s).length=s.size:=by
 unfold D1
 rw [List.length_map]
 rfl
theorem Agi (s:ByteArray):Ha (D1 s):=by
 intro x hx
 obtain ⟨b,_,rfl⟩:=List.mem_map.1 hx
 have:=b.toNat_lt
 omega
theorem Fw (s:ByteArray):Cg s=Ag .u8 (D1 s):=by
 unfold Cg D1
 induction s.data.toList with
 |nil=>rfl
 |cons b l ih=>rw [List.map_cons,List.map_cons,ih];rfl
theorem F2 (l:List Int):(Ca l).size=l.length:=by
 show (l.map fun n=>n.toNat.toUInt8).toArray.size=_
 simp
theorem Nt {l:List Int}(h:Ha l):D1 (Ca l)=l:=by
 unfold D1 Ca
 simp only [List.map_map]
 have:∀l:List Int,Ha l→List.map ((fun b:UInt8=>(b.toNat:Int)) ∘ fun n:Int=>n.toNat.toUInt8) l=l:=by
  intro l
  induction l with
  |nil=>intro _;rfl
  |cons x l ih=>
   intro h
   have hx:=h x (by simp)
   rw [List.map_cons,ih fun y hy=>h y (by simp [hy])]
   congr 1
   show ((x.toNat.toUInt8.toNat:Nat):Int)=x
   rw [Nat.toUInt8,UInt8.toNat_ofNat']
   omega
 exact this l h
theorem Aae (s:ByteArray):Ca (D1 s)=s:=by
 unfold Ca D1
 simp only [List.map_map]
 have:∀l:List UInt8,List.map ((fun n:Int=>n.toNat.toUInt8) ∘ fun b:UInt8=>(b.toNat:Int)) l=l:=by
  intro l
  induction l with
  |nil=>rfl
  |cons x l ih=>
   rw [List.map_cons,ih]
   congr 1
   show ((x.toNat:Int).toNat).toUInt8=x
   rw [Int.toNat_natCast]
   simp
 rw [this]
theorem Gz:∀l:List Int,bytesOf (Ag .u8 l)=some (l.map fun n=>n.toNat.toUInt8)
 |[]=>rfl
 |x::l=>by
  show (bytesOf (Ag .u8 l)).map (x.toNat.toUInt8 :: ·)=_
  rw [Gz l]
  rfl
theorem Apk (l:List Int)(s:ByteArray):Ca l++s=Ca (l++D1 s):=by
 conv=>lhs;rw [←Aae s]
 unfold Ca
 apply ByteArray.ext
 rw [ByteArray.data_append]
 simp
def tb (n:Int)(k:Nat):List Int:=(List.range' (8-k) k).map (C2 n)
def Cv (mj n:Int):List Int:=
 if n<24 then [32*mj+n] else if n<256 then (32*mj+24)::tb n 1 else if n<65536 then (32*mj+25)::tb n 2 else if n<4294967296 then (32*mj+26)::tb n 4 else (32*mj+27)::tb n 8
structure It where
 k:Int
 n:Int
 s:ByteArray
def It.cells (x:It):List PV:=[.sc (.int .i64 x.k),.sc (.int .u64 x.n),.sc (.string x.s)]
def Bu (x:It):List Int:=
 if x.k=7 then [IntKind.wrap .u8 (244+IntKind.wrap .u8 x.n)] else if x.k=8 then [246] else if x.k=3 then Cv 2 x.s.size++D1 x.s else if x.k=4 then Cv 3 x.s.size++D1 x.s else Cv (x.k-1) x.n
theorem Yp (n:Int)(k:Nat):(tb n k).length=k:=by simp [tb]
theorem A62 (n:Int)(k:Nat):Ha (tb n k):=by
 intro x hx
 obtain ⟨j,_,rfl⟩:=List.mem_map.1 hx
 exact Ao0 n j
theorem Hb (mj n:Int):1≤(Cv mj n).length∧(Cv mj n).length≤9:=by
 unfold Cv
 repeat' split
 all_goals simp [Yp]
theorem Amo {mj n:Int}(h0:0≤mj)(h1:mj≤6)(hn:0≤n):Ha (Cv mj n):=by
 have hc:∀(a:Int) (l:List Int),0≤a∧a≤255→Ha l→Ha (a::l):=by
  intro a l ha hl x hx
  rcases List.mem_cons.1 hx with rfl|hx
  ·exact ha
  ·exact hl x hx
 unfold Cv
 repeat' split
 ·exact hc _ _ (by omega) (fun _ h=>by simp at h)
 all_goals exact hc _ _ (by omega) (A62 _ _)
theorem Ask {x:It}(h0:1≤x.k)(h1:x.k≤8)(hn:0≤x.n):Ha (Bu x):=by
 have happ:∀(a b:List Int),Ha a→Ha b→Ha (a++b):=by
  intro a b ha hb y hy
  rcases List.mem_append.1 hy with h|h
  ·exact ha y h
  ·exact hb y h
 unfold Bu
 repeat' split
 ·intro y hy
  simp at hy
  subst hy
  simp only [IntKind.wrap,IntKind.signed,IntKind.bits]
  simp
  omega
 ·intro y hy
  simp at hy
  omega
 ·exact happ _ _ (Amo (by omega) (by omega) (by omega)) (Agi _)
 ·exact happ _ _ (Amo (by omega) (by omega) (by omega)) (Agi _)
 ·exact Amo (by omega) (by omega) hn
theorem Gh (x:It):(Bu x).length≤9+x.s.size:=by
 unfold Bu
 have h2:=Hb 2 x.s.size
 have h3:=Hb 3 x.s.size
 have h4:=Hb (x.k-1) x.n
 have hs:=En x.s
 repeat' split
 all_goals try simp only [List.length_append,List.length_cons,List.length_nil]
 all_goals omega
section
variable {fu d:Nat}
theorem Ajn {call:Ak}{a0n:Nat}{a0:List PV}{a1 a2 n:Int}:∀(k nn:Nat)(l:List Int),k≤8→k<nn→l.length+k≤1000000 →
  Du fu call a0n a0 a1 a2 nn l.length n ((k:Int)-1) (Ag .u8 l)=some ⟨[.own 1 (l++tb n k).length (Ag .u8 (l++tb n k))],[]⟩
 |_,0,_,_,h,_=>by omega
 |0,nn+1,l,hk,hn,hl=>by
  have L:=Aj .u8 l
  rw [Mp,Dl _ _ _ (by omega)]
  simp (disch:=omega) only [Bx,Nat.mul_one,Gw,L]
  simp [tb]
 |k+1,nn+1,l,hk,hn,hl=>by
  have ih:=Ajn (call:=call) (a0n:=a0n) (a0:=a0) (a1:=a1) (a2:=a2) (n:=n) k nn (l++[C2 n (8-(k+1))]) (by omega) (by omega) (by simp;omega)
  have L:=Aj .u8 l
  have w8:IntKind.wrap .i64 (8*(((k+1:Nat):Int)-1))=8*(k:Int):=by rw [Aq (by omega) (by omega)];omega
  have w:IntKind.wrap .i64 (((k+1:Nat):Int)-1-1)=(k:Int)-1:=by rw [Aq (by omega) (by omega)];omega
  have hb:IntKind.wrap .u8 (Dx .u64 n (8*(k:Int)))=C2 n (8-(k+1)):=by
   unfold C2
   rw [show 56-8*((8-(k+1):Nat):Int)=8*(k:Int) by omega]
  have et:tb n (k+1)=C2 n (8-(k+1))::tb n k:=by
   unfold tb
   rw [List.range'_succ,List.map_cons,show 8-(k+1)+1=8-k by omega]
  have ea:l++tb n (k+1)=l++[C2 n (8-(k+1))]++tb n k:=by rw [et];simp
  rw [ea,←ih,Mp]
  simp (disch:=omega) only [Bx,w8,hb,w,Nat.mul_one,Gw,L,Fi,List.length_append,List.length_cons,List.length_nil,Nat.zero_add]
theorem A6m {mj:Int}(h0:0≤mj)(h1:mj≤7):Ew .u8 mj 5=32*mj:=by
 have:mj=0∨mj=1∨mj=2∨mj=3∨mj=4∨mj=5∨mj=6∨mj=7:=by omega
 rcases this with rfl|rfl|rfl|rfl|rfl|rfl|rfl|rfl<;>decide
theorem Atk (hfu:1000≤fu){l:List Int}(hl:l.length≤900000){mj n:Int}(h0:0≤mj)(h1:mj≤5)(hn:0≤n):Ae C0 Tryz.prog fu (d+1) J5 [.own 1 l.length (Ag .u8 l),.sc (.int .u8 mj),.sc (.int .u64 n)]=some ⟨[.own 1 (l++Cv mj n).length (Ag .u8 (l++Cv mj n))],[]⟩:=by
 rw [Abd]
 have s5:=A6m h0 (by omega)
 have L:=Aj .u8 l
 have w24:IntKind.wrap .u8 (32*mj+24)=32*mj+24:=Fk (by omega) (by omega)
 have w25:IntKind.wrap .u8 (32*mj+25)=32*mj+25:=Fk (by omega) (by omega)
 have w26:IntKind.wrap .u8 (32*mj+26)=32*mj+26:=Fk (by omega) (by omega)
 have w27:IntKind.wrap .u8 (32*mj+27)=32*mj+27:=Fk (by omega) (by omega)
 have lp:=fun (k:Nat) (hk:k≤8) (b:Int)=>Ajn (fu:=fu) (call:=Ae C0 Tryz.prog fu d) (a0n:=l.length) (a0:=Ag .u8 l) (a1:=mj) (a2:=n) (n:=n) k fu (l++[b]) hk (by omega) (by simp;omega)
 have ec:∀(b:Int) (t:List Int),l++b::t=l++[b]++t:=by intro b t;simp
 unfold Cv
 by_cases c1:n<24
 ·have wn:IntKind.wrap .u8 n=n:=Fk (by omega) (by omega)
  have ws:IntKind.wrap .u8 (32*mj+n)=32*mj+n:=Fk (by omega) (by omega)
  have L1:=Aj .u8 (l++[32*mj+n])
  have t1:=Gw .u8 (l++[32*mj+n])
  simp only [List.length_append,List.length_cons,List.length_nil,Nat.zero_add] at L1 t1
  rw [if_pos c1]
  simp (disch:=omega) only [Bx,s5,wn,ws,Nat.mul_one,Gw,L,Fi,L1,t1,List.length_append,List.length_cons,List.length_nil,Nat.zero_add]
 ·by_cases c2:n<256
  ·have l1:=lp 1 (by omega) (32*mj+24)
   rw [show ((1:Nat):Int)-1=0 by omega] at l1
   rw [if_neg c1,if_pos c2,ec,←l1]
   simp (disch:=omega) only [Bx,s5,w24,Nat.mul_one,Gw,L,Fi,List.length_append,List.length_cons,List.length_nil,Nat.zero_add]
  ·by_cases c3:n<65536
   ·have l1:=lp 2 (by omega) (32*mj+25)
    rw [show ((2:Nat):Int)-1=1 by omega] at l1
    rw [if_neg c1,if_neg c2,if_pos c3,ec,←l1]
    simp (disch:=omega) only [Bx,s5,w25,Nat.mul_one,Gw,L,Fi,List.length_append,List.length_cons,List.length_nil,Nat.zero_add]
   ·by_cases c4:n<4294967296
    ·have l1:=lp 4 (by omega) (32*mj+26)
     rw [show ((4:Nat):Int)-1=3 by omega] at l1
     rw [if_neg c1,if_neg c2,if_neg c3,if_pos c4,ec,←l1]
     simp (disch:=omega) only [Bx,s5,w26,Nat.mul_one,Gw,L,Fi,List.length_append,List.length_cons,List.length_nil,Nat.zero_add]
    ·have l1:=lp 8 (by omega) (32*mj+27)
     rw [show ((8:Nat):Int)-1=7 by omega] at l1
     rw [if_neg c1,if_neg c2,if_neg c3,if_neg c4,ec,←l1]
     simp (disch:=omega) only [Bx,s5,w27,Nat.mul_one,Gw,L,Fi,List.length_append,List.length_cons,List.length_nil,Nat.zero_add]
structure It.ok (x:It):Prop where
 k1:1≤x.k
 k8:x.k≤8
 n0:0≤x.n
 s0:x.s.size≤500000
theorem Asn (hfu:1000≤fu){l:List Int}(hl:l.length≤300000){x:It}(hx:x.ok):Ae C0 Tryz.prog fu (d+2) Pz [.own 1 l.length (Ag .u8 l),.agg x.cells]=some ⟨[.own 1 (l++Bu x).length (Ag .u8 (l++Bu x))],[]⟩:=by
 obtain ⟨k,n,s⟩:=x
 obtain ⟨k1,k8,n0,s0⟩:=hx
 simp only at k1 k8 n0 s0
 refine (Zo fu (d+1) l.length (Ag .u8 l) k n s).trans ?_
 have L:=Aj .u8 l
 have hsl:=En s
 unfold Bu
 simp only
 by_cases c7:k=7
 ·subst c7
  have L1:=Aj .u8 (l++[IntKind.wrap .u8 (244+IntKind.wrap .u8 n)])
  have t1:=Gw .u8 (l++[IntKind.wrap .u8 (244+IntKind.wrap .u8 n)])
  simp only [List.length_append,List.length_cons,List.length_nil,Nat.zero_add] at L1 t1
  simp (disch:=omega) only [Bx,Ej,if_true,Nat.mul_one,Gw,L,Fi,L1,t1,List.length_append,List.length_cons,List.length_nil,Nat.zero_add]
 ·by_cases c8:k=8
  ·subst c8
   have L1:=Aj .u8 (l++[246])
   have t1:=Gw .u8 (l++[246])
   simp only [List.length_append,List.length_cons,List.length_nil,Nat.zero_add] at L1 t1
   rw [if_neg c7,if_pos rfl]
   simp (disch:=omega) only [Bx,Ej,c7,if_false,if_true,Nat.mul_one,Gw,L,Fi,L1,t1,List.length_append,List.length_cons,List.length_nil,Nat.zero_add]
  ·have dat:∀mj:Int,0≤mj→mj≤5→(Ae C0 Tryz.prog fu (d+1) J5 [.own 1 l.length (Ag .u8 l),.sc (.int .u8 mj),.sc (.int .u64 s.size)]=some ⟨[.own 1 (l++Cv mj s.size).length (Ag .u8 (l++Cv mj s.size))],[]⟩)∧(l++Cv mj s.size).length≤300009∧List.take (l++Cv mj s.size).length (Ag .u8 (l++Cv mj s.size))=Ag .u8 (l++Cv mj s.size)∧(Ag .u8 (l++Cv mj s.size)).length=(l++Cv mj s.size).length∧Ag .u8 (l++Cv mj s.size)++Cg s=Ag .u8 (l++(Cv mj s.size++D1 s))∧(l++(Cv mj s.size++D1 s)).length=(l++Cv mj s.size).length+s.size∧(Ag .u8 (l++(Cv mj s.size++D1 s))).length=(l++Cv mj s.size).length+s.size:=by
    intro mj h0 h1
    have hh:=Hb mj s.size
    refine ⟨Atk hfu (by omega) h0 h1 (by omega),by rw [List.length_append];omega,Gw _ _,Aj _ _,?_,?_,?_⟩
    ·rw [Fw,←List.append_assoc,Ag,Ag,Ag,List.flatMap_append (xs:=l++Cv mj s.size)]
    ·rw [←List.append_assoc,List.length_append,hsl]
    ·rw [Aj,←List.append_assoc,List.length_append,hsl]
   have ss:(Cg s).length=s.size:=by rw [Fw,Aj,hsl]
   have wsz:IntKind.wrap .u64 (s.size:Int)=s.size:=Bq (by omega) (by omega)
   rw [if_neg c7,if_neg c8]
   by_cases c3:k=3
   ·subst c3
    obtain ⟨p1,p2,p3,p4,p5,p6,p7⟩:=dat 2 (by omega) (by omega)
    have w1:IntKind.wrap .i64 ((3:Int)-1)=2:=by decide
    have w2:IntKind.wrap .u8 (2:Int)=2:=by decide
    have t1:List.take ((l++Cv 2 s.size).length+s.size) (Ag .u8 (l++(Cv 2 s.size++D1 s)))=Ag .u8 (l++(Cv 2 s.size++D1 s)):=List.take_of_length_le (by omega)
    rw [if_pos rfl]
    simp (disch:=omega) only [Bx,Ej,c7,c8,if_false,if_true,w1,w2,wsz,Nat.mul_one,Gw,L,p1]
    generalize (l++Cv 2 s.size).length=N at *
    simp (disch:=omega) only [Bx,Nat.mul_one,p3,p4,p5,p7,t1,ss]
    rw [p6]
   ·by_cases c4:k=4
    ·subst c4
     obtain ⟨p1,p2,p3,p4,p5,p6,p7⟩:=dat 3 (by omega) (by omega)
     have w1:IntKind.wrap .i64 ((4:Int)-1)=3:=by decide
     have w2:IntKind.wrap .u8 (3:Int)=3:=by decide
     have t1:List.take ((l++Cv 3 s.size).length+s.size) (Ag .u8 (l++(Cv 3 s.size++D1 s)))=Ag .u8 (l++(Cv 3 s.size++D1 s)):=List.take_of_length_le (by omega)
     rw [if_neg c3,if_pos rfl]
     simp (disch:=omega) only [Bx,Ej,c7,c8,c3,if_false,if_true,w1,w2,wsz,Nat.mul_one,Gw,L,p1]
     generalize (l++Cv 3 s.size).length=N at *
     simp (disch:=omega) only [Bx,Nat.mul_one,p3,p4,p5,p7,t1,ss]
     rw [p6]
    ·have w1:IntKind.wrap .i64 (k-1)=k-1:=Aq (by omega) (by omega)
     have w2:IntKind.wrap .u8 (k-1)=k-1:=Fk (by omega) (by omega)
     have p1:=Atk (fu:=fu) (d:=d) hfu (l:=l) (by omega) (mj:=k-1) (n:=n) (by omega) (by omega) n0
     have L2:=Aj .u8 (l++Cv (k-1) n)
     have t2:=Gw .u8 (l++Cv (k-1) n)
     rw [if_neg c3,if_neg c4]
     simp (disch:=omega) only [Bx,Ej,c7,c8,c3,c4,if_false,w1,w2,Nat.mul_one,Gw,L,p1,L2,t2]
end
end
section
set_option maxRecDepth 100000
abbrev Ke:FuncId:=59
theorem Ud (fu d:Nat)(a0 a1 a2:Int):Ae C0 Tryz.prog fu (d+1) Ke [.sc (.int .i64 a0),.sc (.int .i64 a1),.sc (.int .i64 a2)]=(fun (call:Ak)=>Be (decide (a0≥a1)) (some (A8.mk [.sc (.bool (decide (a0≤a2)))] [])) (some (A8.mk [.sc (.bool false)] []))) (Ae C0 Tryz.prog fu d):=by kernel_rfl
abbrev Mo:FuncId:=42
theorem U0 (fu d:Nat)(a0:Int):Ae C0 Tryz.prog fu (d+1) Mo [.sc (.int .i64 a0)]=(fun (call:Ak)=>Aa (IntKind.wrap .u64 a0) fun x1=>some (A8.mk [.agg [.sc (.int .i64 5),.sc (.int .u64 x1),.sc (.string (ByteArray.mk #[]))]] [])) (Ae C0 Tryz.prog fu d):=by kernel_rfl
abbrev My:FuncId:=70
theorem W7 (fu d:Nat)(a0:ByteArray):Ae C0 Tryz.prog fu (d+1) My [.sc (.string a0)]=(fun (call:Ak)=>some (A8.mk [.agg [.sc (.int .i64 4),.sc (.int .u64 0),.sc (.string a0)]] [])) (Ae C0 Tryz.prog fu d):=by kernel_rfl
abbrev Kg:FuncId:=71
theorem Ue (fu d:Nat)(a0:Int):Ae C0 Tryz.prog fu (d+1) Kg [.sc (.int .u64 a0)]=(fun (call:Ak)=>some (A8.mk [.agg [.sc (.int .i64 1),.sc (.int .u64 a0),.sc (.string (ByteArray.mk #[]))]] [])) (Ae C0 Tryz.prog fu d):=by kernel_rfl
abbrev M7:FuncId:=72
theorem Xv (fu d a0n:Nat)(a0:List PV):Ae C0 Tryz.prog fu (d+1) M7 [.lst false 1 a0n a0]=(fun (call:Ak)=>Ar (decide (List.length a0=a0n))<|Ep (bytesOf a0) fun x1=>some (A8.mk [.agg [.sc (.int .i64 3),.sc (.int .u64 0),.sc (.string (ByteArray.mk (List.toArray x1)))]] [])) (Ae C0 Tryz.prog fu d):=by kernel_rfl
abbrev Jt:FuncId:=73
theorem Sp (fu d:Nat)(a0:Bool):Ae C0 Tryz.prog fu (d+1) Jt [.sc (.bool a0)]=(fun (call:Ak)=>Be (a0) (some (A8.mk [.agg [.sc (.int .i64 7),.sc (.int .u64 1),.sc (.string (ByteArray.mk #[]))]] [])) (some (A8.mk [.agg [.sc (.int .i64 7),.sc (.int .u64 0),.sc (.string (ByteArray.mk #[]))]] []))) (Ae C0 Tryz.prog fu d):=by kernel_rfl
abbrev Mi:FuncId:=69
noncomputable def Fm (fu:Nat)(call:Ak)(a0n:Nat)(a0:List PV)(nn y0:Nat)(y1:List PV)(y2:Nat)(y3:Int)(y4:List PV):Option A8:=C5 C0 Tryz.prog fu call 69 Tryz.f69 (B7 Tryz.f69) [.lst false 3 a0n a0] [.r,.r,.l,.r,.l] nn ⟨lk [(0,(.lst false 3 y0 y1)),(3,(.view 3 1 0 y2)),(4,(.sc (.int .i64 y3)))],Gv [(3,(.ar false y4))]⟩
theorem Jd (fu:Nat)(call:Ak)(a0n:Nat)(a0:List PV)(nn y0:Nat)(y1:List PV)(y2:Nat)(y3:Int)(y4:List PV):Fm fu call a0n a0 (nn+1) y0 y1 y2 y3 y4=(Be (decide (y3<(↑y0:Int))) (Ar (decide (0≤y3)&&decide (y3<(↑y0:Int)))<|Af .i64 (List.getD y1 (Int.toNat y3*3) .top) fun x1=>Af .u64 (List.getD y1 (Int.toNat y3*3+1) .top) fun x2=>Cu (List.getD y1 (Int.toNat y3*3+1+1) .top) fun x3=>Ah (call 97 [.agg [.sc (.int .i64 x1),.sc (.int .u64 x2),.sc (.string x3)]]) fun x4 x5=>Ac x5<|Ab x4 fun x6 x7=>Cu x6 fun x8=>Ac x7<|Ar (decide (y2*1≤List.length y4)&&decide (List.length (Cg x8)=ByteArray.size x8*1)&&decide ((y2+ByteArray.size x8)*1≤1099511627776)&&decide (y2+ByteArray.size x8≤1099511627776))<|Aa (y2+ByteArray.size x8) fun x9=>Aa (List.take (y2*1) y4++Cg x8) fun B5=>Aa (IntKind.wrap .i64 (y3+1)) fun B9=>Fm fu call a0n a0 (nn) (y0) (y1) x9 B9 B5) (Ar (decide (y2*1≤List.length y4))<|some (A8.mk [.own 1 y2 (List.take (y2*1) y4)] []))):=by kernel_rfl
theorem U9 (fu d a0n:Nat)(a0:List PV):Ae C0 Tryz.prog fu (d+1) Mi [.lst false 3 a0n a0]=(fun (call:Ak)=>Fm fu call a0n a0 (fu) (a0n) (a0) 0 0 ([])) (Ae C0 Tryz.prog fu d):=by kernel_rfl
abbrev Nh:FuncId:=45
theorem W9 (fu d:Nat)(a0_0 a0_1:ByteArray)(a0_2 a0_3:Int)(a0_4 a0_5 a0_6:Int)(a0_7:Bool)(a0_8 a0_9 a0_10:Int)(a0_11n:Nat)(a0_11:List PV)(a0_12n:Nat)(a0_12:List PV):Ae C0 Tryz.prog fu (d+1) Nh [.agg [.sc (.string a0_0),.sc (.string a0_1),.sc (.int .u64 a0_2),.sc (.int .i64 a0_3),.sc (.int .u64 a0_4),.sc (.int .i64 a0_5),.sc (.int .i64 a0_6),.sc (.bool a0_7),.sc (.int .i64 a0_8),.sc (.int .u64 a0_9),.sc (.int .i64 a0_10),.lst false 1 a0_11n a0_11,.lst false 1 a0_12n a0_12]]=(fun (call:Ak)=>Ah (call 59 [.sc (.int .i64 (↑(ByteArray.size a0_0):Int)),.sc (.int .i64 1),.sc (.int .i64 32)]) fun x1 x2=>Ac x2<|Ab x1 fun x3 x4=>Bz x3 fun x5=>Ac x4<|Be (!x5) (some (A8.mk [.own 1 0 [],.sc (.int .i64 9)] [])) (Ah (call 59 [.sc (.int .i64 (↑(ByteArray.size a0_1):Int)),.sc (.int .i64 1),.sc (.int .i64 32)]) fun x6 x7=>Ac x7<|Ab x6 fun x8 x9=>Bz x8 fun B5=>Ac x9<|Be (!B5) (some (A8.mk [.own 1 0 [],.sc (.int .i64 9)] [])) (Ah (call 67 [.sc (.string a0_0)]) fun B9 Cy=>Ac Cy<|Ab B9 fun C7 Cr=>Bz C7 fun C3=>Ac Cr<|Be (!C3) (some (A8.mk [.own 1 0 [],.sc (.int .i64 6)] [])) (Ah (call 67 [.sc (.string a0_1)]) fun Df Ds=>Ac Ds<|Ab Df fun D2 D0=>Bz D2 fun D6=>Ac D0<|Be (!D6) (some (A8.mk [.own 1 0 [],.sc (.int .i64 6)] [])) (Ah (call 68 [.agg [.sc (.int .i64 a0_3),.sc (.int .u64 a0_4)]]) fun F1 Ey=>Ac Ey<|Ab F1 fun Fs De=>C8 1 Fs fun C9 Eu=>Ab De fun F6 Ef=>Af .i64 F6 fun Hn=>Ac Ef<|Be (Hn != 0) (some (A8.mk [.own 1 0 [],.sc (.int .i64 Hn)] [])) (Be (decide (a0_5<0)) (some (A8.mk [.own 1 0 [],.sc (.int .i64 9)] [])) (Be (decide (a0_6<a0_5)) (some (A8.mk [.own 1 0 [],.sc (.int .i64 9)] [])) (Be (decide (a0_6>1099511627776)) (some (A8.mk [.own 1 0 [],.sc (.int .i64 9)] [])) (Ah (call 59 [.sc (.int .i64 a0_8),.sc (.int .i64 0),.sc (.int .i64 2)]) fun Hg G3=>Ac G3<|Ab Hg fun Ie Hy=>Bz Ie fun Ir=>Ac Hy<|Be (!Ir) (some (A8.mk [.own 1 0 [],.sc (.int .i64 9)] [])) (Be (a0_8 != 0) (Be (!a0_7) (some (A8.mk [.own 1 0 [],.sc (.int .i64 4)] [])) (Ah (call 42 [.sc (.int .i64 9)]) fun G4 Jr=>Ac Jr<|Ab G4 fun Nb Fq=>Co Nb fun Ih=>Ab Ih fun Q8 Sk=>Af .i64 Q8 fun Mj=>Ab Sk fun Po Of=>Af .u64 Po fun Oy=>Ab Of fun Q2 Ra=>Cu Q2 fun Rj=>Ac Ra<|Ac Fq<|Ah (call 70 [.sc (.string a0_0)]) fun Qc Si=>Ac Si<|Ab Qc fun Tg Sh=>Co Tg fun Lr=>Ab Lr fun Ui R0=>Af .i64 Ui fun Um=>Ab R0 fun Sf S9=>Af .u64 Sf fun Tx=>Ab S9 fun Uu Ux=>Cu Uu fun X6=>Ac Ux<|Ac Sh<|Ah (call 70 [.sc (.string a0_1)]) fun Xc Us=>Ac Us<|Ab Xc fun Ut Tp=>Co Ut fun Tf=>Ab Tf fun Y4 Vb=>Af .i64 Y4 fun V7=>Ab Vb fun Vi Xe=>Af .u64 Vi fun Zc=>Ab Xe fun Uw Xb=>Cu Uw fun x76=>Ac Xb<|Ac Tp<|Ah (call 71 [.sc (.int .u64 a0_2)]) fun Xw Zf=>Ac Zf<|Ab Xw fun x79 x80=>Co x79 fun x81=>Ab x81 fun x82 x83=>Af .i64 x82 fun x84=>Ab x83 fun x85 x86=>Af .u64 x85 fun x87=>Ab x86 fun x88 Uk=>Cu x88 fun x90=>Ac Uk<|Ac x80<|Ar (decide (0+C9*1≤List.length Eu))<|Ah (call 72 [.lst false 1 C9 (List.take (C9*1) (List.drop 0 Eu))]) fun x91 x92=>Ac x92<|Ab x91 fun x93 x94=>Co x93 fun x95=>Ab x95 fun x96 x97=>Af .i64 x96 fun x98=>Ab x97 fun x99 Xa=>Af .u64 x99 fun Th=>Ab Xa fun Hf Kd=>Cu Hf fun Y3=>Ac Kd<|Ac x94<|Aa (IntKind.wrap .u64 a0_5) fun Sn=>Ah (call 71 [.sc (.int .u64 Sn)]) fun Qs Mk=>Ac Mk<|Ab Qs fun Aab Ab0=>Co Aab fun Yg=>Ab Yg fun Zx Io=>Af .i64 Zx fun Lh=>Ab Io fun Afj Agy=>Af .u64 Afj fun Px=>Ab Agy fun Vp Ae3=>Cu Vp fun Abw=>Ac Ae3<|Ac Ab0<|Aa (IntKind.wrap .u64 a0_6) fun Afb=>Ah (call 71 [.sc (.int .u64 Afb)]) fun Aef Agt=>Ac Agt<|Ab Aef fun Aha Ae8=>Co Aha fun Aed=>Ab Aed fun Up Yy=>Af .i64 Up fun Afc=>Ab Yy fun Ag7 Aby=>Af .u64 Ag7 fun Amn=>Ab Aby fun Agj Aec=>Cu Agj fun Ail=>Ac Aec<|Ac Ae8<|Ah (call 73 [.sc (.bool a0_7)]) fun All Aku=>Ac Aku<|Ab All fun Aow Al1=>Co Aow fun Ahp=>Ab Ahp fun Aiw Agv=>Af .i64 Aiw fun Aid=>Ab Agv fun Amw Ag6=>Af .u64 Amw fun Aeh=>Ab Ag6 fun Ad3 Aiu=>Cu Ad3 fun Ak5=>Ac Aiu<|Ac Al1<|Aa (IntKind.wrap .u64 a0_8) fun Auv=>Ah (call 71 [.sc (.int .u64 Auv)]) fun Aqu Ap6=>Ac Ap6<|Ab Aqu fun Aht Alk=>Co Aht fun Ale=>Ab Ale fun Ao5 Aq4=>Af .i64 Ao5 fun Aom=>Ab Aq4 fun Aoh An8=>Af .u64 Aoh fun Aqz=>Ab An8 fun Aqv Aoq=>Cu Aqv fun Arv=>Ac Aoq<|Ac Alk<|Ah (call 71 [.sc (.int .u64 a0_9)]) fun Aky Am6=>Ac Am6<|Ab Aky fun Arb Ala=>Co Arb fun Aoi=>Ab Aoi fun Ams Aod=>Af .i64 Ams fun Aqy=>Ab Aod fun Azb Aqn=>Af .u64 Azb fun At1=>Ab Aqn fun Aqj Av8=>Cu Aqj fun A0i=>Ac Av8<|Ac Ala<|Ah (call 69 [.lst false 3 10 [.sc (.int .i64 Mj),.sc (.int .u64 Oy),.sc (.string Rj),.sc (.int .i64 Um),.sc (.int .u64 Tx),.sc (.string X6),.sc (.int .i64 V7),.sc (.int .u64 Zc),.sc (.string x76),.sc (.int .i64 x84),.sc (.int .u64 x87),.sc (.string x90),.sc (.int .i64 x98),.sc (.int .u64 Th),.sc (.string Y3),.sc (.int .i64 Lh),.sc (.int .u64 Px),.sc (.string Abw),.sc (.int .i64 Afc),.sc (.int .u64 Amn),.sc (.string Ail),.sc (.int .i64 Aid),.sc (.int .u64 Aeh),.sc (.string Ak5),.sc (.int .i64 Aom),.sc (.int .u64 Aqz),.sc (.string Arv),.sc (.int .i64 Aqy),.sc (.int .u64 At1),.sc (.string A0i)]]) fun Ay3 Awx=>Ac Awx<|Ab Ay3 fun A15 A2c=>C8 1 A15 fun Arq Aw8=>Ac A2c<|Ar (decide (Arq*1≤List.length Aw8))<|some (A8.mk [.own 1 Arq (List.take (Arq*1) Aw8),.sc (.int .i64 0)] []))) (Ah (call 42 [.sc (.int .i64 9)]) fun A2e A2x=>Ac A2x<|Ab A2e fun A3v A2u=>Co A3v fun A2h=>Ab A2h fun A2m A2b=>Af .i64 A2m fun Aym=>Ab A2b fun A0w A4r=>Af .u64 A0w fun A6o=>Ab A4r fun A6s A6f=>Cu A6s fun A6r=>Ac A6f<|Ac A2u<|Ah (call 70 [.sc (.string a0_0)]) fun A6a A6h=>Ac A6h<|Ab A6a fun A5k A47=>Co A5k fun A7r=>Ab A7r fun A6b A7p=>Af .i64 A6b fun A7k=>Ab A7p fun A49 A4y=>Af .u64 A49 fun A7l=>Ab A4y fun A6d A7y=>Cu A6d fun A43=>Ac A7y<|Ac A47<|Ah (call 70 [.sc (.string a0_1)]) fun A7m A6j=>Ac A6j<|Ab A7m fun A8f A46=>Co A8f fun A6l=>Ab A6l fun A5h A40=>Af .i64 A5h fun A6u=>Ab A40 fun A4w A4d=>Af .u64 A4w fun A6y=>Ab A4d fun A4m A58=>Cu A4m fun A7v=>Ac A58<|Ac A46<|Ah (call 71 [.sc (.int .u64 a0_2)]) fun A6k A7h=>Ac A7h<|Ab A6k fun A6q A7c=>Co A6q fun A64=>Ab A64 fun A4g A7w=>Af .i64 A4g fun A4c=>Ab A7w fun A8g A48=>Af .u64 A8g fun A7a=>Ab A48 fun A4s A7n=>Cu A4s fun A68=>Ac A7n<|Ac A7c<|Ar (decide (0+C9*1≤List.length Eu))<|Ah (call 72 [.lst false 1 C9 (List.take (C9*1) (List.drop 0 Eu))]) fun A7u A52=>Ac A52<|Ab A7u fun A77 A5a=>Co A77 fun A4l=>Ab A4l fun A7e A63=>Af .i64 A7e fun A8e=>Ab A63 fun A7i A4q=>Af .u64 A7i fun A5d=>Ab A4q fun A4n A5v=>Cu A4n fun A59=>Ac A5v<|Ac A5a<|Aa (IntKind.wrap .u64 a0_5) fun A39=>Ah (call 71 [.sc (.int .u64 A39)]) fun A5z A56=>Ac A56<|Ab A5z fun A67 A4z=>Co A67 fun A6w=>Ab A6w fun A5r A44=>Af .i64 A5r fun A4h=>Ab A44 fun A5i A4j=>Af .u64 A5i fun A5c=>Ab A4j fun A74 A5o=>Cu A74 fun A5y=>Ac A5o<|Ac A4z<|Aa (IntKind.wrap .u64 a0_6) fun A60=>Ah (call 71 [.sc (.int .u64 A60)]) fun A7f A5j=>Ac A5j<|Ab A7f fun A7t A57=>Co A7t fun A5g=>Ab A5g fun A5s A5n=>Af .i64 A5s fun A73=>Ab A5n fun A6i A45=>Af .u64 A6i fun A38=>Ab A45 fun A41 A5p=>Cu A41 fun A54=>Ac A5p<|Ac A57<|Ah (call 73 [.sc (.bool a0_7)]) fun A61 A4x=>Ac A4x<|Ab A61 fun A65 A50=>Co A65 fun A7b=>Ab A7b fun A5t A42=>Af .i64 A5t fun A8a=>Ab A42 fun A5e A6z=>Af .u64 A5e fun A4e=>Ab A6z fun A5l A71=>Cu A5l fun A5u=>Ac A71<|Ac A50<|Aa (IntKind.wrap .u64 a0_8) fun A5x=>Ah (call 71 [.sc (.int .u64 A5x)]) fun A6t A70=>Ac A70<|Ab A6t fun A5f A66=>Co A5f fun A4t=>Ab A4t fun A7j A6c=>Af .i64 A7j fun A5q=>Ab A6c fun A7g A6v=>Af .u64 A7g fun A4u=>Ab A6v fun A6e A5m=>Cu A6e fun A4k=>Ac A5m<|Ac A66<|Ah (call 71 [.sc (.int .u64 a0_9)]) fun A51 A7o=>Ac A7o<|Ab A51 fun A8b A5b=>Co A8b fun A79=>Ab A79 fun A69 A4o=>Af .i64 A69 fun A6g=>Ab A4o fun A5w A6x=>Af .u64 A5w fun A75=>Ab A6x fun A72 A4p=>Cu A72 fun A4b=>Ac A4p<|Ac A5b<|Ah (call 69 [.lst false 3 10 [.sc (.int .i64 Aym),.sc (.int .u64 A6o),.sc (.string A6r),.sc (.int .i64 A7k),.sc (.int .u64 A7l),.sc (.string A43),.sc (.int .i64 A6u),.sc (.int .u64 A6y),.sc (.string A7v),.sc (.int .i64 A4c),.sc (.int .u64 A7a),.sc (.string A68),.sc (.int .i64 A8e),.sc (.int .u64 A5d),.sc (.string A59),.sc (.int .i64 A4h),.sc (.int .u64 A5c),.sc (.string A5y),.sc (.int .i64 A73),.sc (.int .u64 A38),.sc (.string A54),.sc (.int .i64 A8a),.sc (.int .u64 A4e),.sc (.string A5u),.sc (.int .i64 A5q),.sc (.int .u64 A4u),.sc (.string A4k),.sc (.int .i64 A6g),.sc (.int .u64 A75),.sc (.string A4b)]]) fun A4a A6p=>Ac A6p<|Ab A4a fun A55 A7z=>C8 1 A55 fun A14 A3i=>Ac A7z<|Ar (decide (A14*1≤List.length A3i))<|some (A8.mk [.own 1 A14 (List.take (A14*1) A3i),.sc (.int .i64 0)] [])))))))))))) (Ae C0 Tryz.prog fu d):=by kernel_rfl
abbrev M6:FuncId:=78
theorem Xu (fu d:Nat)(a0_0 a0_1:ByteArray)(a0_2 a0_3:Int)(a0_4 a0_5 a0_6:Int)(a0_7:Bool)(a0_8 a0_9 a0_10:Int)(a0_11n:Nat)(a0_11:List PV)(a0_12n:Nat)(a0_12:List PV)(a1 a2 a3:Int):Ae C0 Tryz.prog fu (d+1) M6 [.agg [.sc (.string a0_0),.sc (.string a0_1),.sc (.int .u64 a0_2),.sc (.int .i64 a0_3),.sc (.int .u64 a0_4),.sc (.int .i64 a0_5),.sc (.int .i64 a0_6),.sc (.bool a0_7),.sc (.int .i64 a0_8),.sc (.int .u64 a0_9),.sc (.int .i64 a0_10),.lst false 1 a0_11n a0_11,.lst false 1 a0_12n a0_12],.sc (.int .u64 a1),.sc (.int .i64 a2),.sc (.int .i64 a3)]=(fun (call:Ak)=>Ah (call 45 [.agg [.sc (.string a0_0),.sc (.string a0_1),.sc (.int .u64 a0_2),.sc (.int .i64 a0_3),.sc (.int .u64 a0_4),.sc (.int .i64 a0_5),.sc (.int .i64 a0_6),.sc (.bool a0_7),.sc (.int .i64 a0_8),.sc (.int .u64 a0_9),.sc (.int .i64 a0_10),.lst false 1 a0_11n a0_11,.lst false 1 a0_12n a0_12]]) fun x1 x2=>Ac x2<|Ab x1 fun x3 x4=>C8 1 x3 fun x5 x6=>Ab x4 fun x7 x8=>Af .i64 x7 fun x9=>Ac x8<|Be (x9 != 0) (some (A8.mk [.agg [.sc (.string (ByteArray.mk #[])),.sc (.string (ByteArray.mk #[])),.sc (.int .u64 0),.sc (.int .i64 0),.sc (.int .u64 0),.sc (.int .i64 0),.sc (.int .i64 0),.sc (.bool false),.sc (.int .i64 0),.sc (.int .u64 0),.sc (.int .i64 0),.lst false 1 0 [],.lst false 1 0 []],.sc (.int .i64 x9)] [])) (Ar (decide (0+x5*1≤List.length x6))<|Ah (call 46 [.sc (.int .i64 14),.lst false 1 x5 (List.take (x5*1) (List.drop 0 x6))]) fun B5 B9=>Ac B9<|Ab B5 fun Cy C7=>Af .u64 Cy fun Cr=>Ac C7<|Ah (call 17 [.sc (.int .u64 a1),.sc (.int .i64 a2),.sc (.int .i64 a3),.sc (.int .u64 Cr)]) fun C3 Df=>Ac Df<|Ab C3 fun Ds D2=>Co Ds fun D0=>Ab D0 fun D6 F1=>Af .i64 D6 fun Ey=>Ab F1 fun Fs De=>C8 1 Fs fun C9 Eu=>Ab De fun F6 Ef=>C8 1 F6 fun Hn Hg=>Ac Ef<|Ab D2 fun G3 Ie=>Af .i64 G3 fun Hy=>Ac Ie<|Be (Hy != 0) (some (A8.mk [.agg [.sc (.string (ByteArray.mk #[])),.sc (.string (ByteArray.mk #[])),.sc (.int .u64 0),.sc (.int .i64 0),.sc (.int .u64 0),.sc (.int .i64 0),.sc (.int .i64 0),.sc (.bool false),.sc (.int .i64 0),.sc (.int .u64 0),.sc (.int .i64 0),.lst false 1 0 [],.lst false 1 0 []],.sc (.int .i64 Hy)] [])) (Ar (decide (0+C9*1≤List.length Eu))<|Ar (decide (0+Hn*1≤List.length Hg))<|some (A8.mk [.agg [.sc (.string a0_0),.sc (.string a0_1),.sc (.int .u64 a0_2),.sc (.int .i64 a0_3),.sc (.int .u64 a0_4),.sc (.int .i64 a0_5),.sc (.int .i64 a0_6),.sc (.bool a0_7),.sc (.int .i64 a0_8),.sc (.int .u64 a0_9),.sc (.int .i64 Ey),.lst false 1 C9 (List.take (C9*1) (List.drop 0 Eu)),.lst false 1 Hn (List.take (Hn*1) (List.drop 0 Hg))],.sc (.int .i64 0)] [])))) (Ae C0 Tryz.prog fu d):=by kernel_rfl
abbrev Ko:FuncId:=44
theorem Ul (fu d:Nat)(a0_0 a0_1:ByteArray)(a0_2 a0_3:Int)(a0_4 a0_5 a0_6:Int)(a0_7:Bool)(a0_8 a0_9 a0_10:Int)(a0_11n:Nat)(a0_11:List PV)(a0_12n:Nat)(a0_12:List PV):Ae C0 Tryz.prog fu (d+1) Ko [.agg [.sc (.string a0_0),.sc (.string a0_1),.sc (.int .u64 a0_2),.sc (.int .i64 a0_3),.sc (.int .u64 a0_4),.sc (.int .i64 a0_5),.sc (.int .i64 a0_6),.sc (.bool a0_7),.sc (.int .i64 a0_8),.sc (.int .u64 a0_9),.sc (.int .i64 a0_10),.lst false 1 a0_11n a0_11,.lst false 1 a0_12n a0_12]]=(fun (call:Ak)=>Ah (call 45 [.agg [.sc (.string a0_0),.sc (.string a0_1),.sc (.int .u64 a0_2),.sc (.int .i64 a0_3),.sc (.int .u64 a0_4),.sc (.int .i64 a0_5),.sc (.int .i64 a0_6),.sc (.bool a0_7),.sc (.int .i64 a0_8),.sc (.int .u64 a0_9),.sc (.int .i64 a0_10),.lst false 1 a0_11n a0_11,.lst false 1 a0_12n a0_12]]) fun x1 x2=>Ac x2<|Ab x1 fun x3 x4=>C8 1 x3 fun x5 x6=>Ab x4 fun x7 x8=>Af .i64 x7 fun x9=>Ac x8<|Be (x9 != 0) (some (A8.mk [.own 1 0 [],.sc (.int .i64 x9)] [])) (Ah (call 18 [.agg [.sc (.int .i64 a0_10),.lst false 1 a0_11n a0_11,.lst false 1 a0_12n a0_12]]) fun B5 B9=>Ac B9<|Ab B5 fun Cy C7=>C8 1 Cy fun Cr C3=>Ab C7 fun Df Ds=>Af .i64 Df fun D2=>Ac Ds<|Be (D2 != 0) (some (A8.mk [.own 1 0 [],.sc (.int .i64 D2)] [])) (Ar (decide (0+Cr*1≤List.length C3))<|Ar (decide (x5*1≤List.length x6)&&decide (List.length (List.take (Cr*1) (List.drop 0 C3))=Cr*1)&&decide ((x5+Cr)*1≤1099511627776)&&decide (x5+Cr≤1099511627776))<|Aa (x5+Cr) fun D0=>Aa (List.take (x5*1) x6++List.take (Cr*1) (List.drop 0 C3)) fun D6=>Ar (decide (D0*1≤List.length D6))<|some (A8.mk [.own 1 D0 (List.take (D0*1) D6),.sc (.int .i64 0)] [])))) (Ae C0 Tryz.prog fu d):=by kernel_rfl
end
section
def Rh (x:It):List Int:=
 if x.k=7 then [IntKind.wrap .u8 (244+IntKind.wrap .u8 x.n)] else if x.k=8 then [246] else if x.k=3 then Cv 2 x.s.size else if x.k=4 then Cv 3 x.s.size else Cv (x.k-1) x.n
def It.dat (x:It):Prop:=x.k=3∨x.k=4∨D1 x.s=[]
theorem Avm {x:It}(h:x.dat):Bu x=Rh x++D1 x.s:=by
 unfold Bu Rh
 by_cases c7:x.k=7
 ·rcases h with h|h|h
  ·omega
  ·omega
  ·simp [c7,h]
 ·by_cases c8:x.k=8
  ·rcases h with h|h|h
   ·omega
   ·omega
   ·simp [c8,h]
  ·by_cases c3:x.k=3
   ·simp [c3]
   ·by_cases c4:x.k=4
    ·simp [c4]
    ·rcases h with h|h|h
     ·omega
     ·omega
     ·simp [c7,c8,c3,c4,h]
theorem Au2 (x:It):(Rh x).length≤9:=by
 have h2:=Hb 2 x.s.size
 have h3:=Hb 3 x.s.size
 have h4:=Hb (x.k-1) x.n
 unfold Rh
 repeat' split
 all_goals try simp only [List.length_cons,List.length_nil]
 all_goals omega
theorem Ax7 (v:Int):Dx .u64 v 0=v:=by
 show v.fdiv (2 ^ (min (0:Int).toNat IntKind.u64.bits))=v
 have:(2:Int) ^ (min (0:Int).toNat IntKind.u64.bits)=1:=by decide
 rw [this,Int.fdiv_one]
theorem tb1 (v:Int):tb v 1=[IntKind.wrap .u8 v]:=by
 show [IntKind.wrap .u8 (Dx .u64 v (56-8*((7:Nat):Int)))]=_
 rw [show (56:Int)-8*((7:Nat):Int)=0 by omega,Ax7]
theorem tb2 (v:Int):tb v 2=[IntKind.wrap .u8 (Dx .u64 v 8),IntKind.wrap .u8 v]:=by
 show [IntKind.wrap .u8 (Dx .u64 v (56-8*((6:Nat):Int))),IntKind.wrap .u8 (Dx .u64 v (56-8*((7:Nat):Int)))]=_
 rw [show (56:Int)-8*((7:Nat):Int)=0 by omega,show (56:Int)-8*((6:Nat):Int)=8 by omega,Ax7]
theorem tb4 (v:Int):tb v 4=[IntKind.wrap .u8 (Dx .u64 v 24),IntKind.wrap .u8 (Dx .u64 v 16),IntKind.wrap .u8 (Dx .u64 v 8),IntKind.wrap .u8 v]:=by
 show [IntKind.wrap .u8 (Dx .u64 v (56-8*((4:Nat):Int))),IntKind.wrap .u8 (Dx .u64 v (56-8*((5:Nat):Int))),IntKind.wrap .u8 (Dx .u64 v (56-8*((6:Nat):Int))),IntKind.wrap .u8 (Dx .u64 v (56-8*((7:Nat):Int)))]=_
 rw [show (56:Int)-8*((7:Nat):Int)=0 by omega,show (56:Int)-8*((6:Nat):Int)=8 by omega,show (56:Int)-8*((5:Nat):Int)=16 by omega,show (56:Int)-8*((4:Nat):Int)=24 by omega,Ax7]
theorem tb8 (v:Int):tb v 8=Bp v:=rfl
section
variable {fu d:Nat}
theorem Ayz (hfu:1000≤fu){k n:Int}{s:ByteArray}{nn:Nat}(hn:0<nn){mj v:Int}(h0:0≤mj)(h1:mj≤5)(hv:0≤v):
  Cz fu (Ae C0 Tryz.prog fu (d+1)) k n s nn v (32*mj)=some ⟨[.own 1 (Cv mj v).length (Ag .u8 (Cv mj v))],[]⟩:=by
 rw [Uf (hnn:=hn)]
 have w24:IntKind.wrap .u8 (32*mj+24)=32*mj+24:=Fk (by omega) (by omega)
 have w25:IntKind.wrap .u8 (32*mj+25)=32*mj+25:=Fk (by omega) (by omega)
 have w26:IntKind.wrap .u8 (32*mj+26)=32*mj+26:=Fk (by omega) (by omega)
 have w27:IntKind.wrap .u8 (32*mj+27)=32*mj+27:=Fk (by omega) (by omega)
 unfold Cv
 by_cases c1:v<24
 ·have wn:IntKind.wrap .u8 v=v:=Fk (by omega) (by omega)
  have ws:IntKind.wrap .u8 (32*mj+v)=32*mj+v:=Fk (by omega) (by omega)
  rw [if_pos c1]
  simp (disch:=omega) only [Bx,wn,ws]
  rfl
 ·by_cases c2:v<256
  ·rw [if_neg c1,if_pos c2,tb1]
   simp (disch:=omega) only [Bx,w24]
   rfl
  ·by_cases c3:v<65536
   ·rw [if_neg c1,if_neg c2,if_pos c3,tb2]
    simp (disch:=omega) only [Bx,w25]
    rfl
   ·by_cases c4:v<4294967296
    ·rw [if_neg c1,if_neg c2,if_neg c3,if_pos c4,tb4]
     simp (disch:=omega) only [Bx,w26]
     rfl
    ·have wd:=Aro (fu:=fu) (d:=d) hfu v
     have L:=Aj .u8 (Bp v)
     rw [Cc] at L
     have t8:List.take 8 (Ag .u8 (Bp v))=Ag .u8 (Bp v):=List.take_of_length_le (by omega)
     have eC:[PV.sc (.int .u8 (32*mj+27))]++Ag .u8 (Bp v)=Ag .u8 ((32*mj+27)::Bp v):=rfl
     have L9:(Ag .u8 ((32*mj+27)::Bp v)).length=9:=by rw [Aj,List.length_cons,Cc]
     have t9:List.take 9 (Ag .u8 ((32*mj+27)::Bp v))=Ag .u8 ((32*mj+27)::Bp v):=List.take_of_length_le (by omega)
     rw [if_neg c1,if_neg c2,if_neg c3,if_neg c4,tb8,List.length_cons,Cc]
     simp (disch:=omega) only [Bx,w27,wd,Nat.mul_one,Nat.zero_add,List.drop_zero,L,t8,eC,Nat.reduceAdd,L9,t9]
theorem Awl (hfu:1000≤fu){x:It}(hx:x.ok):Ae C0 Tryz.prog fu (d+2) Oj [.agg x.cells]=some ⟨[.own 1 (Rh x).length (Ag .u8 (Rh x))],[]⟩:=by
 obtain ⟨k,n,s⟩:=x
 obtain ⟨k1,k8,n0,s0⟩:=hx
 simp only at k1 k8 n0 s0
 refine (Zg fu (d+1) k n s).trans ?_
 have wsz:IntKind.wrap .u64 (s.size:Int)=s.size:=Bq (by omega) (by omega)
 have J:=fun (mj v:Int) (h0:0≤mj) (h1:mj≤5) (hv:0≤v)=>Ayz (fu:=fu) (d:=d) hfu (k:=k) (n:=n) (s:=s) (nn:=fu) (by omega) h0 h1 hv
 have j0:=J 0 n (by omega) (by omega) n0
 have j1:=J 1 n (by omega) (by omega) n0
 have j2:=J 2 s.size (by omega) (by omega) (by omega)
 have j3:=J 3 s.size (by omega) (by omega) (by omega)
 have j4:=J 4 n (by omega) (by omega) n0
 have j5:=J 5 n (by omega) (by omega) n0
 rw [show (32:Int)*0=0 by omega] at j0
 rw [show (32:Int)*1=32 by omega] at j1
 rw [show (32:Int)*2=64 by omega] at j2
 rw [show (32:Int)*3=96 by omega] at j3
 rw [show (32:Int)*4=128 by omega] at j4
 rw [show (32:Int)*5=160 by omega] at j5
 unfold Rh
 simp only
 have:k=1∨k=2∨k=3∨k=4∨k=5∨k=6∨k=7∨k=8:=by omega
 rcases this with rfl|rfl|rfl|rfl|rfl|rfl|rfl|rfl
 ·simp only [Bx,Ej,Int.reduceEq,if_true,if_false,Int.reduceSub,j0]
 ·simp only [Bx,Ej,Int.reduceEq,if_true,if_false,Int.reduceSub,j1]
 ·simp only [Bx,Ej,Int.reduceEq,if_true,if_false,Int.reduceSub,wsz,j2]
 ·simp only [Bx,Ej,Int.reduceEq,if_true,if_false,Int.reduceSub,wsz,j3]
 ·simp only [Bx,Ej,Int.reduceEq,if_true,if_false,Int.reduceSub,j4]
 ·simp only [Bx,Ej,Int.reduceEq,if_true,if_false,Int.reduceSub,j5]
 ·simp only [Bx,Ej,Int.reduceEq,if_true,if_false]
  rfl
 ·simp only [Bx,Ej,Int.reduceEq,if_true,if_false]
  rfl
theorem Atw (hfu:1000≤fu){x:It}(hx:x.ok)(hd:x.dat):Ae C0 Tryz.prog fu (d+3) Np [.agg x.cells]=some ⟨[.sc (.string (Ca (Bu x)))],[]⟩:=by
 refine (Xs fu (d+2) x.k x.n x.s).trans ?_
 have hr:=Awl (fu:=fu) (d:=d) hfu hx
 have L:=Aj .u8 (Rh x)
 have l9:=Au2 x
 have bo:=Gz (Rh x)
 have eA:ByteArray.mk (List.map (fun n:Int=>n.toNat.toUInt8) (Rh x)).toArray=Ca (Rh x):=rfl
 have sz:=F2 (Rh x)
 have s0:=hx.s0
 have ap:Ca (Rh x)++x.s=Ca (Bu x):=by rw [Apk,Avm hd]
 simp only [It.cells] at hr
 simp (disch:=omega) only [Bx,hr,Nat.mul_one,Nat.zero_add,List.drop_zero,Gw,L,bo,eA,sz,ap]
def Cd (its:List It):List PV:=its.flatMap It.cells
theorem It.cells_len (x:It):x.cells.length=3:=rfl
def Bk (its:List It):List Int:=its.flatMap Bu
theorem Adw {a0n:Nat}{a0:List PV}{its:List It}(hk:∀x∈its,x.ok∧x.dat)(hl:its.length≤1000)(hfu:1000≤fu):∀(r:List It)(i nn:Nat)(b:List Int),its.drop i=r→r.length<nn→b.length+500010*r.length≤1000000000 →
  Fm fu (Ae C0 Tryz.prog fu (d+3)) a0n a0 nn its.length (Cd its) b.length i (Ag .u8 b)=some ⟨[.own 1 (b++Bk r).length (Ag .u8 (b++Bk r))],[]⟩
 |_,_,0,_,_,h,_=>by omega
 |[],i,nn+1,b,h,hn,hb=>by
  have:=drop_nil h
  have L:=Aj .u8 b
  rw [Jd,Dl _ _ _ (by omega)]
  simp (disch:=omega) only [Bx,Nat.mul_one,Gw,L]
  simp [Bk]
 |x::r,i,nn+1,b,h,hn,hb=>by
  obtain ⟨h1,h2,h3⟩:=Cf h
  simp only [List.length_cons] at hn hb
  obtain ⟨ok,dt⟩:=hk x (List.mem_of_getElem? h2)
  have hil:=Gh x
  have hs0:=ok.s0
  have g0:(Cd its).getD (i*3) .top=.sc (.int .i64 x.k):=D4 It.cells_len h2 (j:=0) (by omega)
  have g1:(Cd its).getD (i*3+1) .top=.sc (.int .u64 x.n):=D4 It.cells_len h2 (j:=1) (by omega)
  have g2:(Cd its).getD (i*3+1+1) .top=.sc (.string x.s):=D4 It.cells_len h2 (j:=2) (by omega)
  have by_:=Atw (fu:=fu) (d:=d) hfu ok dt
  simp only [It.cells] at by_
  have ih:=Adw (a0n:=a0n) (a0:=a0) hk hl hfu r (i+1) nn (b++Bu x) h3 (by omega) (by rw [List.length_append];omega)
  have w:IntKind.wrap .i64 ((i:Int)+1)=((i+1:Nat):Int):=by rw [Aq (by omega) (by omega)];omega
  have L:=Aj .u8 b
  have hB:=Ask ok.k1 ok.k8 ok.n0
  have sc:Cg (Ca (Bu x))=Ag .u8 (Bu x):=by rw [Fw,Nt hB]
  have sz:=F2 (Bu x)
  have Li:=Aj .u8 (Bu x)
  have ea:Ag .u8 b++Ag .u8 (Bu x)=Ag .u8 (b++Bu x):=by rw [Ag,Ag,Ag,List.flatMap_append]
  have ei:Bk (x::r)=Bu x++Bk r:=rfl
  rw [ei,←List.append_assoc,←ih,Jd]
  simp (disch:=omega) only [Bx,Int.toNat_natCast,g0,g1,g2,by_,sc,sz,Li,Nat.mul_one,Gw,L,ea,w,List.length_append]
theorem At8 {its:List It}(hk:∀x∈its,x.ok∧x.dat)(hl:its.length≤900)(hfu:1000≤fu):Ae C0 Tryz.prog fu (d+4) Mi [.lst false 3 its.length (Cd its)]=some ⟨[.own 1 (Bk its).length (Ag .u8 (Bk its))],[]⟩:=by
 rw [U9]
 exact Adw (fu:=fu) (d:=d) (a0n:=its.length) (a0:=Cd its) hk (by omega) hfu its 0 fu [] rfl (by omega) (by simp;omega)
end
end
section
structure Ce where
 subj:ByteArray
 iss:ByteArray
 serial:Int
 key:Ky
 fr:Int
 un:Int
 auth:Bool
 path:Int
 model:Int
 sig:Sg
def Ce.cells (c:Ce):List PV:=[.sc (.string c.subj),.sc (.string c.iss),.sc (.int .u64 c.serial),.sc (.int .i64 c.key.h),.sc (.int .u64 c.key.root),.sc (.int .i64 c.fr),.sc (.int .i64 c.un),.sc (.bool c.auth),.sc (.int .i64 c.path),.sc (.int .u64 c.model),.sc (.int .i64 c.sig.leaf),.lst false 1 c.sig.chains.length (Ag .u64 c.sig.chains),.lst false 1 c.sig.path.length (Ag .u64 c.sig.path)]
abbrev okS (s:ByteArray):Bool:=Lib.validD s.data.toList
abbrev E2:ByteArray:=⟨#[]⟩
def Bd (c:Ce):Int:=
 if c.subj.size<1∨32<c.subj.size then 9 else if c.iss.size<1∨32<c.iss.size then 9 else if okS c.subj=false then 6 else if okS c.iss=false then 6 else
 if Cl c.key.h=true then 9 else if c.fr<0 then 9 else if c.un<c.fr then 9 else if c.un>1099511627776 then 9 else if c.path<0∨2<c.path then 9 else if c.path≠0∧c.auth=false then 4 else 0
def Bf (c:Ce):List It:=[⟨5,9,E2⟩,⟨4,0,c.subj⟩,⟨4,0,c.iss⟩,⟨1,c.serial,E2⟩,⟨3,0,Ca (F4 c.key)⟩,⟨1,c.fr,E2⟩,⟨1,c.un,E2⟩,⟨7,(if c.auth=true then 1 else 0),E2⟩,⟨1,c.path,E2⟩,⟨1,c.model,E2⟩]
structure Ce.wf (c:Ce):Prop where
 ser:0≤c.serial
 mod:0≤c.model
def G2 (c:Ce):List PV:=if Bd c=0 then [.own 1 (Bk (Bf c)).length (Ag .u8 (Bk (Bf c))),.sc (.int .i64 0)] else [.own 1 0 [],.sc (.int .i64 (Bd c))]
theorem Yh {c:Ce}(hw:c.wf)(h:Bd c=0):∀x∈Bf c,x.ok∧x.dat:=by
 unfold Bd at h
 have kl:(Ca (F4 c.key)).size=9:=by rw [F2];rfl
 have ns:E2.size=0:=rfl
 have hs:=hw.ser
 have hm:=hw.mod
 repeat' (split at h;· cases h)
 intro x hx
 simp only [Bf,List.mem_cons,List.not_mem_nil,or_false] at hx
 rcases hx with rfl|rfl|rfl|rfl|rfl|rfl|rfl|rfl|rfl|rfl
 ·exact ⟨⟨by simp,by simp,by simp,by simp [ns]⟩,.inr (.inr rfl)⟩
 ·exact ⟨⟨by simp,by simp,by simp,by simp only;omega⟩,.inr (.inl rfl)⟩
 ·exact ⟨⟨by simp,by simp,by simp,by simp only;omega⟩,.inr (.inl rfl)⟩
 ·exact ⟨⟨by simp,by simp,hs,by simp [ns]⟩,.inr (.inr rfl)⟩
 ·exact ⟨⟨by simp,by simp,by simp,by simp only [kl];omega⟩,.inl rfl⟩
 ·exact ⟨⟨by simp,by simp,by simp only;omega,by simp [ns]⟩,.inr (.inr rfl)⟩
 ·exact ⟨⟨by simp,by simp,by simp only;omega,by simp [ns]⟩,.inr (.inr rfl)⟩
 ·exact ⟨⟨by simp,by simp,by simp only;split<;>omega,by simp [ns]⟩,.inr (.inr rfl)⟩
 ·exact ⟨⟨by simp,by simp,by simp only;omega,by simp [ns]⟩,.inr (.inr rfl)⟩
 ·exact ⟨⟨by simp,by simp,hm,by simp [ns]⟩,.inr (.inr rfl)⟩
section
variable {fu d:Nat}
theorem Og (s:ByteArray)(h:s.size≤9223372036854775807):Ae C0 Tryz.prog fu (d+1) 67 [.sc (.string s)]=some ⟨[.sc (.bool (okS s))],[]⟩:=by
 show Afq [.sc (.string s)]=_
 unfold Afq
 simp [h]
theorem Acc (n lo hi:Int):Ae C0 Tryz.prog fu (d+1) Ke [.sc (.int .i64 n),.sc (.int .i64 lo),.sc (.int .i64 hi)]=some ⟨[.sc (.bool (decide (lo≤n)&&decide (n≤hi)))],[]⟩:=by
 rw [Ud]
 by_cases h:lo≤n
 ·simp (disch:=omega) only [Bx,h,decide_true,Bool.true_and]
 ·simp (disch:=omega) only [Bx,h,decide_false,Bool.false_and]
theorem Aua (n:Int)(h0:0≤n)(h1:n≤1000):Ae C0 Tryz.prog fu (d+1) Mo [.sc (.int .i64 n)]=some ⟨[.agg [.sc (.int .i64 5),.sc (.int .u64 n),.sc (.string E2)]],[]⟩:=by
 rw [U0]
 have w:IntKind.wrap .u64 n=n:=Bq (by omega) (by omega)
 simp only [Bx,w]
theorem Aob (s:ByteArray):Ae C0 Tryz.prog fu (d+1) My [.sc (.string s)]=some ⟨[.agg [.sc (.int .i64 4),.sc (.int .u64 0),.sc (.string s)]],[]⟩:=by
 rw [W7]
theorem Ar4 (n:Int):Ae C0 Tryz.prog fu (d+1) Kg [.sc (.int .u64 n)]=some ⟨[.agg [.sc (.int .i64 1),.sc (.int .u64 n),.sc (.string E2)]],[]⟩:=by
 rw [Ue]
theorem Aw5 (l:List Int):Ae C0 Tryz.prog fu (d+1) M7 [.lst false 1 l.length (Ag .u8 l)]=some ⟨[.agg [.sc (.int .i64 3),.sc (.int .u64 0),.sc (.string (Ca l))]],[]⟩:=by
 rw [Xv]
 have L:=Aj .u8 l
 have bo:=Gz l
 simp (disch:=omega) only [Bx,L,bo]
 rfl
theorem Anx (b:Bool):Ae C0 Tryz.prog fu (d+1) Jt [.sc (.bool b)]=some ⟨[.agg [.sc (.int .i64 7),.sc (.int .u64 (if b=true then 1 else 0)),.sc (.string E2)]],[]⟩:=by
 rw [Sp]
 cases b<;>rfl
theorem Am3 (hfu:1000≤fu){c:Ce}(hw:c.wf)(hs1:c.subj.size≤9223372036854775807)(hs2:c.iss.size≤9223372036854775807):Ae C0 Tryz.prog fu (d+5) Nh [.agg c.cells]=some ⟨G2 c,[]⟩:=by
 refine (W9 fu (d+4) c.subj c.iss c.serial c.key.h c.key.root c.fr c.un c.auth c.path c.model c.sig.leaf c.sig.chains.length (Ag .u64 c.sig.chains) c.sig.path.length (Ag .u64 c.sig.path)).trans ?_
 have n1:=Acc (fu:=fu) (d:=d+3) c.subj.size 1 32
 have n2:=Acc (fu:=fu) (d:=d+3) c.iss.size 1 32
 have n3:=Acc (fu:=fu) (d:=d+3) c.path 0 2
 have v1:=Og (fu:=fu) (d:=d+3) c.subj hs1
 have v2:=Og (fu:=fu) (d:=d+3) c.iss hs2
 have ek:=Yi (fu:=fu) (d:=d+2) hfu c.key
 have e90:((9:Int) != 0)=true:=rfl
 have e00:((0:Int) != 0)=false:=rfl
 simp only [Ky.cells] at ek
 unfold G2
 by_cases e1:c.subj.size<1∨32<c.subj.size
 ·have hb:Bd c=9:=by unfold Bd;rw [if_pos e1]
  have:(decide ((1:Int)≤c.subj.size)&&decide ((c.subj.size:Int)≤32))=false:=by simp;omega
  rw [this] at n1
  rw [hb,if_neg (by omega)]
  try unfold Aa
  repeat first
   |((with_reducible first|apply At|apply Ap|apply Ax|apply Ao|apply Az|apply Aw|apply Bb|apply Bc|apply A0|apply Al|apply Au|apply Am);· first|with_reducible rfl|(simp (disch:=omega) only [n1,Int.reduceEq,Bool.not_true,Bool.not_false]<;>with_reducible rfl))
   |((with_reducible first|apply A4|apply A3);· first|with_reducible rfl|omega|(simp (disch:=omega) only [gT,n1,Int.reduceEq,Bool.not_true,Bool.not_false]<;>omega))
   |(with_reducible apply Ay;· first|with_reducible rfl|(simp (disch:=omega) only [gF,n1,Int.reduceEq,Bool.not_true,Bool.not_false]<;>omega))
  try simp (disch:=omega) only [n1,Int.reduceEq,Bool.not_true,Bool.not_false]
  all_goals rfl
 have q1:(decide ((1:Int)≤c.subj.size)&&decide ((c.subj.size:Int)≤32))=true:=by simp;omega
 rw [q1] at n1
 by_cases e2:c.iss.size<1∨32<c.iss.size
 ·have hb:Bd c=9:=by unfold Bd;rw [if_neg e1,if_pos e2]
  have:(decide ((1:Int)≤c.iss.size)&&decide ((c.iss.size:Int)≤32))=false:=by simp;omega
  rw [this] at n2
  rw [hb,if_neg (by omega)]
  try unfold Aa
  repeat first
   |((with_reducible first|apply At|apply Ap|apply Ax|apply Ao|apply Az|apply Aw|apply Bb|apply Bc|apply A0|apply Al|apply Au|apply Am);· first|with_reducible rfl|(simp (disch:=omega) only [n1,n2,Int.reduceEq,Bool.not_true,Bool.not_false]<;>with_reducible rfl))
   |((with_reducible first|apply A4|apply A3);· first|with_reducible rfl|omega|(simp (disch:=omega) only [gT,n1,n2,Int.reduceEq,Bool.not_true,Bool.not_false]<;>omega))
   |(with_reducible apply Ay;· first|with_reducible rfl|(simp (disch:=omega) only [gF,n1,n2,Int.reduceEq,Bool.not_true,Bool.not_false]<;>omega))
  try simp (disch:=omega) only [n1,n2,Int.reduceEq,Bool.not_true,Bool.not_false]
  all_goals rfl
 have q2:(decide ((1:Int)≤c.iss.size)&&decide ((c.iss.size:Int)≤32))=true:=by simp;omega
 rw [q2] at n2
 cases e3:okS c.subj
 ·have hb:Bd c=6:=by unfold Bd;rw [if_neg e1,if_neg e2,if_pos e3]
  rw [e3] at v1
  rw [hb,if_neg (by omega)]
  try unfold Aa
  repeat first
   |((with_reducible first|apply At|apply Ap|apply Ax|apply Ao|apply Az|apply Aw|apply Bb|apply Bc|apply A0|apply Al|apply Au|apply Am);· first|with_reducible rfl|(simp (disch:=omega) only [n1,n2,v1,Int.reduceEq,Bool.not_true,Bool.not_false]<;>with_reducible rfl))
   |((with_reducible first|apply A4|apply A3);· first|with_reducible rfl|omega|(simp (disch:=omega) only [gT,n1,n2,v1,Int.reduceEq,Bool.not_true,Bool.not_false]<;>omega))
   |(with_reducible apply Ay;· first|with_reducible rfl|(simp (disch:=omega) only [gF,n1,n2,v1,Int.reduceEq,Bool.not_true,Bool.not_false]<;>omega))
  try simp (disch:=omega) only [n1,n2,v1,Int.reduceEq,Bool.not_true,Bool.not_false]
  all_goals rfl
 rw [e3] at v1
 cases e4:okS c.iss
 ·have hb:Bd c=6:=by unfold Bd;rw [if_neg e1,if_neg e2,if_neg (by simp [e3]),if_pos e4]
  rw [e4] at v2
  rw [hb,if_neg (by omega)]
  try unfold Aa
  repeat first
   |((with_reducible first|apply At|apply Ap|apply Ax|apply Ao|apply Az|apply Aw|apply Bb|apply Bc|apply A0|apply Al|apply Au|apply Am);· first|with_reducible rfl|(simp (disch:=omega) only [n1,n2,v1,v2,Int.reduceEq,Bool.not_true,Bool.not_false]<;>with_reducible rfl))
   |((with_reducible first|apply A4|apply A3);· first|with_reducible rfl|omega|(simp (disch:=omega) only [gT,n1,n2,v1,v2,Int.reduceEq,Bool.not_true,Bool.not_false]<;>omega))
   |(with_reducible apply Ay;· first|with_reducible rfl|(simp (disch:=omega) only [gF,n1,n2,v1,v2,Int.reduceEq,Bool.not_true,Bool.not_false]<;>omega))
  try simp (disch:=omega) only [n1,n2,v1,v2,Int.reduceEq,Bool.not_true,Bool.not_false]
  all_goals rfl
 rw [e4] at v2
 cases e5:Cl c.key.h
 rotate_left
 ·have hb:Bd c=9:=by unfold Bd;rw [if_neg e1,if_neg e2,if_neg (by simp [e3]),if_neg (by simp [e4]),if_pos e5]
  rw [e5,if_pos rfl] at ek
  rw [hb,if_neg (by omega)]
  try unfold Aa
  repeat first
   |((with_reducible first|apply At|apply Ap|apply Ax|apply Ao|apply Az|apply Aw|apply Bb|apply Bc|apply A0|apply Al|apply Au|apply Am);· first|with_reducible rfl|(simp (disch:=omega) only [n1,n2,v1,v2,ek,e90,e00,Int.reduceEq,Bool.not_true,Bool.not_false]<;>with_reducible rfl))
   |((with_reducible first|apply A4|apply A3);· first|with_reducible rfl|omega|(simp (disch:=omega) only [gT,n1,n2,v1,v2,ek,e90,e00,Int.reduceEq,Bool.not_true,Bool.not_false]<;>omega))
   |(with_reducible apply Ay;· first|with_reducible rfl|(simp (disch:=omega) only [gF,n1,n2,v1,v2,ek,e90,e00,Int.reduceEq,Bool.not_true,Bool.not_false]<;>omega))
  try simp (disch:=omega) only [n1,n2,v1,v2,ek,e90,e00,Int.reduceEq,Bool.not_true,Bool.not_false]
  all_goals rfl
 rw [e5,if_neg (by simp)] at ek
 have B0:Bd c=if c.fr<0 then 9 else if c.un<c.fr then 9 else if c.un>1099511627776 then 9 else if c.path<0∨2<c.path then 9 else if c.path≠0∧c.auth=false then 4 else 0:=by
  unfold Bd
  rw [if_neg e1,if_neg e2,if_neg (by simp [e3]),if_neg (by simp [e4]),if_neg (by simp [e5])]
 by_cases e6:c.fr<0
 ·have hb:Bd c=9:=by rw [B0,if_pos e6]
  rw [hb,if_neg (by omega)]
  try unfold Aa
  repeat first
   |((with_reducible first|apply At|apply Ap|apply Ax|apply Ao|apply Az|apply Aw|apply Bb|apply Bc|apply A0|apply Al|apply Au|apply Am);· first|with_reducible rfl|(simp (disch:=omega) only [n1,n2,v1,v2,ek,e90,e00,Int.reduceEq,Bool.not_true,Bool.not_false]<;>with_reducible rfl))
   |((with_reducible first|apply A4|apply A3);· first|with_reducible rfl|omega|(simp (disch:=omega) only [gT,n1,n2,v1,v2,ek,e90,e00,Int.reduceEq,Bool.not_true,Bool.not_false]<;>omega))
   |(with_reducible apply Ay;· first|with_reducible rfl|(simp (disch:=omega) only [gF,n1,n2,v1,v2,ek,e90,e00,Int.reduceEq,Bool.not_true,Bool.not_false]<;>omega))
  try simp (disch:=omega) only [n1,n2,v1,v2,ek,e90,e00,Int.reduceEq,Bool.not_true,Bool.not_false]
  all_goals rfl
 by_cases e7:c.un<c.fr
 ·have hb:Bd c=9:=by rw [B0,if_neg e6,if_pos e7]
  rw [hb,if_neg (by omega)]
  try unfold Aa
  repeat first
   |((with_reducible first|apply At|apply Ap|apply Ax|apply Ao|apply Az|apply Aw|apply Bb|apply Bc|apply A0|apply Al|apply Au|apply Am);· first|with_reducible rfl|(simp (disch:=omega) only [n1,n2,v1,v2,ek,e90,e00,Int.reduceEq,Bool.not_true,Bool.not_false]<;>with_reducible rfl))
   |((with_reducible first|apply A4|apply A3);· first|with_reducible rfl|omega|(simp (disch:=omega) only [gT,n1,n2,v1,v2,ek,e90,e00,Int.reduceEq,Bool.not_true,Bool.not_false]<;>omega))
   |(with_reducible apply Ay;· first|with_reducible rfl|(simp (disch:=omega) only [gF,n1,n2,v1,v2,ek,e90,e00,Int.reduceEq,Bool.not_true,Bool.not_false]<;>omega))
  try simp (disch:=omega) only [n1,n2,v1,v2,ek,e90,e00,Int.reduceEq,Bool.not_true,Bool.not_false]
  all_goals rfl
 by_cases e8:c.un>1099511627776
 ·have hb:Bd c=9:=by rw [B0,if_neg e6,if_neg e7,if_pos e8]
  rw [hb,if_neg (by omega)]
  try unfold Aa
  repeat first
   |((with_reducible first|apply At|apply Ap|apply Ax|apply Ao|apply Az|apply Aw|apply Bb|apply Bc|apply A0|apply Al|apply Au|apply Am);· first|with_reducible rfl|(simp (disch:=omega) only [n1,n2,v1,v2,ek,e90,e00,Int.reduceEq,Bool.not_true,Bool.not_false]<;>with_reducible rfl))
   |((with_reducible first|apply A4|apply A3);· first|with_reducible rfl|omega|(simp (disch:=omega) only [gT,n1,n2,v1,v2,ek,e90,e00,Int.reduceEq,Bool.not_true,Bool.not_false]<;>omega))
   |(with_reducible apply Ay;· first|with_reducible rfl|(simp (disch:=omega) only [gF,n1,n2,v1,v2,ek,e90,e00,Int.reduceEq,Bool.not_true,Bool.not_false]<;>omega))
  try simp (disch:=omega) only [n1,n2,v1,v2,ek,e90,e00,Int.reduceEq,Bool.not_true,Bool.not_false]
  all_goals rfl
 by_cases e9:c.path<0∨2<c.path
 ·have hb:Bd c=9:=by rw [B0,if_neg e6,if_neg e7,if_neg e8,if_pos e9]
  have:(decide ((0:Int)≤c.path)&&decide (c.path≤2))=false:=by simp;omega
  rw [this] at n3
  rw [hb,if_neg (by omega)]
  try unfold Aa
  repeat first
   |((with_reducible first|apply At|apply Ap|apply Ax|apply Ao|apply Az|apply Aw|apply Bb|apply Bc|apply A0|apply Al|apply Au|apply Am);· first|with_reducible rfl|(simp (disch:=omega) only [n1,n2,v1,v2,ek,e90,e00,n3,Int.reduceEq,Bool.not_true,Bool.not_false]<;>with_reducible rfl))
   |((with_reducible first|apply A4|apply A3);· first|with_reducible rfl|omega|(simp (disch:=omega) only [gT,n1,n2,v1,v2,ek,e90,e00,n3,Int.reduceEq,Bool.not_true,Bool.not_false]<;>omega))
   |(with_reducible apply Ay;· first|with_reducible rfl|(simp (disch:=omega) only [gF,n1,n2,v1,v2,ek,e90,e00,n3,Int.reduceEq,Bool.not_true,Bool.not_false]<;>omega))
  try simp (disch:=omega) only [n1,n2,v1,v2,ek,e90,e00,n3,Int.reduceEq,Bool.not_true,Bool.not_false]
  all_goals rfl
 have q9:(decide ((0:Int)≤c.path)&&decide (c.path≤2))=true:=by simp;omega
 rw [q9] at n3
 by_cases e10:c.path≠0∧c.auth=false
 ·have hb:Bd c=4:=by rw [B0,if_neg e6,if_neg e7,if_neg e8,if_neg e9,if_pos e10]
  have ea:=e10.2
  have ep:(c.path != 0)=true:=by simp [e10.1]
  rw [hb,if_neg (by omega)]
  try unfold Aa
  repeat first
   |((with_reducible first|apply At|apply Ap|apply Ax|apply Ao|apply Az|apply Aw|apply Bb|apply Bc|apply A0|apply Al|apply Au|apply Am);· first|with_reducible rfl|(simp (disch:=omega) only [n1,n2,v1,v2,ek,e90,e00,n3,ep,ea,Int.reduceEq,Bool.not_true,Bool.not_false]<;>with_reducible rfl))
   |((with_reducible first|apply A4|apply A3);· first|with_reducible rfl|omega|(simp (disch:=omega) only [gT,n1,n2,v1,v2,ek,e90,e00,n3,ep,ea,Int.reduceEq,Bool.not_true,Bool.not_false]<;>omega))
   |(with_reducible apply Ay;· first|with_reducible rfl|(simp (disch:=omega) only [gF,n1,n2,v1,v2,ek,e90,e00,n3,ep,ea,Int.reduceEq,Bool.not_true,Bool.not_false]<;>omega))
  try simp (disch:=omega) only [n1,n2,v1,v2,ek,e90,e00,n3,ep,ea,Int.reduceEq,Bool.not_true,Bool.not_false]
  all_goals rfl
 have hb:Bd c=0:=by rw [B0,if_neg e6,if_neg e7,if_neg e8,if_neg e9,if_neg e10]
 rw [hb,if_pos rfl]
 have a0:=Aua (fu:=fu) (d:=d+3) 9 (by omega) (by omega)
 have t1:=Aob (fu:=fu) (d:=d+3) c.subj
 have t2:=Aob (fu:=fu) (d:=d+3) c.iss
 have nu:=fun n=>Ar4 (fu:=fu) (d:=d+3) n
 have da:=Aw5 (fu:=fu) (d:=d+3) (F4 c.key)
 have k9:(F4 c.key).length=9:=rfl
 rw [k9] at da
 have bo:=Anx (fu:=fu) (d:=d+3) c.auth
 have wf:IntKind.wrap .u64 c.fr=c.fr:=Bq (by omega) (by omega)
 have wu:IntKind.wrap .u64 c.un=c.un:=Bq (by omega) (by omega)
 have wp:IntKind.wrap .u64 c.path=c.path:=Bq (by omega) (by omega)
 have bi:=At8 (fu:=fu) (d:=d) (Yh hw hb) (by simp [Bf]) hfu
 have L9:=Aj .u8 (F4 c.key)
 rw [k9] at L9
 have tk9:List.take 9 (Ag .u8 (F4 c.key))=Ag .u8 (F4 c.key):=List.take_of_length_le (by omega)
 have LB:=Aj .u8 (Bk (Bf c))
 have tB:=Gw .u8 (Bk (Bf c))
 generalize Bk (Bf c)=W at bi LB tB ⊢
 simp only [Bf,Cd,List.flatMap_cons,List.flatMap_nil,It.cells,List.cons_append,List.nil_append,List.append_nil,List.length_cons,List.length_nil,Nat.zero_add,Nat.reduceAdd] at bi
 have w0:IntKind.wrap .u64 (0:Int)=0:=rfl
 by_cases ep:c.path=0
 ·rw [ep] at bi n3
  try unfold Aa
  repeat first
   |((with_reducible first|apply At|apply Ap|apply Ax|apply Ao|apply Az|apply Aw|apply Bb|apply Bc|apply A0|apply Al|apply Au|apply Am);· first|with_reducible rfl|(simp (disch:=omega) only [n1,n2,v1,v2,ek,e90,e00,n3,ep,w0,a0,t1,t2,nu,Nat.mul_one,Nat.zero_add,List.drop_zero,L9,tk9,da,wf,wu,bo,bi,LB,tB,Int.reduceEq,Bool.not_true,Bool.not_false]<;>with_reducible rfl))
   |((with_reducible first|apply A4|apply A3);· first|with_reducible rfl|omega|(simp (disch:=omega) only [gT,n1,n2,v1,v2,ek,e90,e00,n3,ep,w0,a0,t1,t2,nu,Nat.mul_one,Nat.zero_add,List.drop_zero,L9,tk9,da,wf,wu,bo,bi,LB,tB,Int.reduceEq,Bool.not_true,Bool.not_false]<;>omega))
   |(with_reducible apply Ay;· first|with_reducible rfl|(simp (disch:=omega) only [gF,n1,n2,v1,v2,ek,e90,e00,n3,ep,w0,a0,t1,t2,nu,Nat.mul_one,Nat.zero_add,List.drop_zero,L9,tk9,da,wf,wu,bo,bi,LB,tB,Int.reduceEq,Bool.not_true,Bool.not_false]<;>omega))
  try simp (disch:=omega) only [n1,n2,v1,v2,ek,e90,e00,n3,ep,w0,a0,t1,t2,nu,Nat.mul_one,Nat.zero_add,List.drop_zero,L9,tk9,da,wf,wu,bo,bi,LB,tB,Int.reduceEq,Bool.not_true,Bool.not_false]
  all_goals rfl
 ·have ea:c.auth=true:=by
   cases h:c.auth
   ·exact absurd ⟨ep,h⟩ e10
   ·rfl
  rw [ea,if_pos rfl] at bo bi
  have ep:(c.path != 0)=true:=by simp [ep]
  try unfold Aa
  repeat first
   |((with_reducible first|apply At|apply Ap|apply Ax|apply Ao|apply Az|apply Aw|apply Bb|apply Bc|apply A0|apply Al|apply Au|apply Am);· first|with_reducible rfl|(simp (disch:=omega) only [n1,n2,v1,v2,ek,e90,e00,n3,ep,ea,a0,t1,t2,nu,Nat.mul_one,Nat.zero_add,List.drop_zero,L9,tk9,da,wf,wu,wp,bo,bi,LB,tB,Int.reduceEq,Bool.not_true,Bool.not_false]<;>with_reducible rfl))
   |((with_reducible first|apply A4|apply A3);· first|with_reducible rfl|omega|(simp (disch:=omega) only [gT,n1,n2,v1,v2,ek,e90,e00,n3,ep,ea,a0,t1,t2,nu,Nat.mul_one,Nat.zero_add,List.drop_zero,L9,tk9,da,wf,wu,wp,bo,bi,LB,tB,Int.reduceEq,Bool.not_true,Bool.not_false]<;>omega))
   |(with_reducible apply Ay;· first|with_reducible rfl|(simp (disch:=omega) only [gF,n1,n2,v1,v2,ek,e90,e00,n3,ep,ea,a0,t1,t2,nu,Nat.mul_one,Nat.zero_add,List.drop_zero,L9,tk9,da,wf,wu,wp,bo,bi,LB,tB,Int.reduceEq,Bool.not_true,Bool.not_false]<;>omega))
  try simp (disch:=omega) only [n1,n2,v1,v2,ek,e90,e00,n3,ep,ea,a0,t1,t2,nu,Nat.mul_one,Nat.zero_add,List.drop_zero,L9,tk9,da,wf,wu,wp,bo,bi,LB,tB,Int.reduceEq,Bool.not_true,Bool.not_false]
  all_goals rfl
end
end
end Go.Proofs.YtgfgmbpmghgbkaaGreatDoor.Pv
