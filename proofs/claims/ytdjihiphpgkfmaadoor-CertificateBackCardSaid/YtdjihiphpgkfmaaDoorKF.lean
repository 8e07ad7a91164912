/-
  The proof of CertificateBack, part 6.
-/
import Derived.Test.YtdjihiphpgkfmaaDoorKE
import Derived.Shelf.Abstract
import Derived.WalkKit
import Derived.OwnWalkIn
import Derived.TacticsInMore
import Derived.Test.YtdjihiphpgkfmaaDoorRows
import Derived.Lib.BytesEntry
import Derived.Lib.Bytealg
import Derived.Lib.Walk
import Derived.WalkMore
import Derived.Shelf.Unicode.ValidAny
import Derived.Lib.LaidU8T
set_option linter.unusedSimpArgs false
set_option linter.unusedVariables false
namespace Go.Proofs.YtdjihiphpgkfmaaDoor.Pv
section
open Go.IntKind (wrap)
set_option maxRecDepth 20000
open Go Go.RowKit
def G1:Se:=⟨fun _=>False,fun _=>True,fun _ _ _ _=>trivial⟩
def noX:FuncId->Option (List PV->Option Aw):=fun _=>none
theorem Ajy:YG G1 Tryd.prog (CX noX):=by
 intro f g args res h _;have h':(bif Xk.any (Nat.beq f) then none else (none:Option (List PV->Option Aw)))=some g:=h;cases hb:Xk.any (Nat.beq f)<;>rw [hb] at h'<;>cases h'
noncomputable abbrev cl:Ah:=Ae (CX noX) Tryd.prog 2000 8
theorem ngT:NoNG Tryd.prog:=by
 have h:(Tryd.prog.funcs.toList.all fun fn=> !(fn.name == "runtime.NumGoroutine"))=true:=by kernel_rfl
 intro f fn hf;have:=List.all_eq_true.1 h fn (Array.mem_toList_iff.2 (Array.mem_of_getElem? hf))
 simpa using this
theorem NE:Tryd.prog.follows .mixedOrders=true:=by kernel_rfl
theorem Cv:∀f args res,cl f args=some res->Cr G1 Tryd.prog f args res:=fun f args res h=>Ta ngT NE Ajy 8 f args res h
theorem Of (w0:World)(X0:Ef):EC Tryd.prog G1 w0 X0:=⟨ngT,fun _ _=>trivial,fun _ h=>h.elim⟩
def gl (f:Nat->Int)(n i:Nat):List Int:=(List.range i).map f++List.replicate (n-i) 0
theorem Ac3 (f:Nat->Int){n i:Nat}(h:i<=n):(gl f n i).length=n:=by simp [gl];omega
theorem Ada (f:Nat->Int){n i:Nat}(h:i<n):(gl f n i).set i (f i)=gl f n (i+1):=by
 unfold gl;rw [List.set_append_right _ _ (by simp),List.length_map,List.length_range,Nat.sub_self,show n-i=(n-(i+1))+1 by omega,List.replicate_succ,List.set_cons_zero,List.range_succ,List.map_append,YW]
 rfl
theorem YL (f:Nat->Int)(n:Nat):gl f n n=(List.range n).map f:=by simp [gl]
theorem XY (f:Nat->Int)(n:Nat):gl f n 0=List.replicate n 0:=by simp [gl]
abbrev Abg (yv:Value)(h seed:Int)(n:Nat)(m i:Int)(c:List PV):St:=
 ⟨lk [(0,.sc yv),(1,.iptr [.sc (.int .i64 h)] 0),(2,.iptr [.sc (.int .u64 seed)] 0),(4,.view 4 1 0 n),(13,.sc (.int .i64 m)),(14,.sc (.int .i64 i))],Bz [(4,.ar false c)]⟩
abbrev Abc (yv:Value)(h seed k:Int)(n m:Nat)(p i:Int)(c e:List PV):St:=
 ⟨lk [(0,.sc yv),(1,.iptr [.sc (.int .i64 h)] 0),(2,.iptr [.sc (.int .u64 seed)] 0),(4,.view 4 1 0 n),(6,.sc (.int .i64 k)),(7,.view 7 1 0 m),(40,.sc (.int .i64 p)),(41,.sc (.int .i64 i))],Bz [(4,.ar false c),(7,.ar false e)]⟩
theorem Al2 (yv:Value)(h seed:Int){n i:Nat}(hn:n<=1000)(hi:i<n):
  LZ 63 cl (sB (sB (sR (sL (sR Wv))))) 24599 (Abg yv h seed n n i (Ag .u64 (gl (fun (j:Nat)=>Gt seed (j:Int)) n i)))=some (0,Abg yv h seed n n ((i+1:Nat):Int) (Ag .u64 (gl (fun (j:Nat)=>Gt seed (j:Int)) n (i+1)))):=by
 have pb:cl J0 [.sc (.int .u64 seed),.sc (.int .i64 i)]=_:=Aa8 (xs:=noX) (fu:=2000) (d:=1) (by omega) seed i
 have w:wrap .i64 ((i:Int)+1)=((i+1:Nat):Int):=by rw [Aj (by omega) (by omega)];omega
 have L:(Ag .u64 (gl (fun (j:Nat)=>Gt seed (j:Int)) n i)).length=n:=by rw [Al,Ac3 _ (by omega)]
 have hset:Bd (Ag .u64 (gl (fun (j:Nat)=>Gt seed (j:Int)) n i)) [.sc (.int .u64 (Gt seed i))] i=Ag .u64 (gl (fun (j:Nat)=>Gt seed (j:Int)) n (i+1)):=by
  rw [Eu (by omega),Is]
  exact congrArg _ (Ada (fun (j:Nat)=>Gt seed (j:Int)) hi)
 refine (Afi cl yv h seed n i n (Ag .u64 (gl (fun (j:Nat)=>Gt seed (j:Int)) n i))).trans ?_
 simp (disch:=omega) only [Ca,Hw,Cd,C2,pb,L,hset,w]
theorem Al4 (yv:Value)(h seed:Int)(n:Nat)(c:List PV):
  LZ 63 cl (sB (sB (sR (sL (sR Wv))))) 24599 (Abg yv h seed n n n c)=some (1,Abg yv h seed n n n c):=
 (Afi cl yv h seed n n n c).trans (Dx _ _ _ (by omega))
theorem QJ {yv:Value}{h seed:Int}{n:Nat}(hn:n<=1000):∀(r i nn:Nat),i+r=n->r<nn->∀{w0:World}{X0:Ef}{Y:Nat->Prop}{β:Bt}{a:Act}{w:World}{Q:Exit->Act->World->Prop},
  Bp 63 w0 X0 Y β (Abg yv h seed n n i (Ag .u64 (gl (fun (j:Nat)=>Gt seed (j:Int)) n i))) a w ->
  (∀a' w' β',Bp 63 w0 X0 Y β' (Abg yv h seed n n n (Ag .u64 (gl (fun (j:Nat)=>Gt seed (j:Int)) n n))) a' w'->Q (.exit 0) a' w')->Code.rounds Tryd.prog (sB (sB (sR (sL (sR Wv))))) Q nn a w
 |_,_,0,_,h=>by omega
 |0,i,nn+1,hi,_=>by
  intro hs hQ;obtain rfl:i=n:=by omega
  rw [rounds_succ];exact Dk (Of _ _) NE Cv hs (Al4 yv h seed i _) fun a' w' β' h'=>hQ a' w' β' h'
 |r+1,i,nn+1,hi,hr=>by
  intro hs hQ;rw [rounds_succ];exact Dk (Of _ _) NE Cv hs (Al2 yv h seed hn (by omega)) fun a' w' β' h'=>QJ hn r (i+1) nn (by omega) (by omega) h' hQ
def Dv (seed:Int)(n k:Nat):List Int:=(List.range n).map fun (j:Nat)=>Bw seed k (j:Int)
theorem HP (seed:Int)(n k:Nat):(Dv seed n k).length=n:=by simp [Dv]
theorem P1 (seed:Int){n k j:Nat}(h:j<n):(Dv seed n k)[j]?=some (Bw seed k j):=by simp [Dv,h]
theorem Alp (yv:Value)(h seed:Int){k m i:Nat}(hm:m<=1000)(hk:k<=1000)(hi:i<m):
  LZ 63 cl (sB (sB (sR (sL (sR (sB (sL (sR (sB (sB (sR (sR (sR Wv))))))))))))) 3298534883543 (Abc yv h seed k (2*m) m m i (Ag .u64 (Dv seed (2*m) k)) (Ag .u64 (gl (fun (j:Nat)=>Bw seed (k+1) (j:Int)) m i))) =
   some (0,Abc yv h seed k (2*m) m m ((i+1:Nat):Int) (Ag .u64 (Dv seed (2*m) k)) (Ag .u64 (gl (fun (j:Nat)=>Bw seed (k+1) (j:Int)) m (i+1)))):=by
 have e1:wrap .i64 ((2:Int)*i)=((2*i:Nat):Int):=by rw [Aj (by omega) (by omega)];omega
 have e2:wrap .i64 (((2*i:Nat):Int)+1)=((2*i+1:Nat):Int):=by rw [Aj (by omega) (by omega)];omega
 have e3:wrap .i64 ((k:Int)+1)=((k+1:Nat):Int):=by rw [Aj (by omega) (by omega)];omega
 have w:wrap .i64 ((i:Int)+1)=((i+1:Nat):Int):=by rw [Aj (by omega) (by omega)];omega
 have a1:(Ag .u64 (Dv seed (2*m) k)).getD (2*i) .top=.sc (.int .u64 (Bw seed k ((2*i:Nat):Int))):=V5 (P1 seed (by omega))
 have a2:(Ag .u64 (Dv seed (2*m) k)).getD (2*i+1) .top=.sc (.int .u64 (Bw seed k ((2*i+1:Nat):Int))):=V5 (P1 seed (by omega))
 have pn:cl Jr [.sc (.int .i64 ((k+1:Nat):Int)),.sc (.int .u64 (Bw seed k ((2*i:Nat):Int))),.sc (.int .u64 (Bw seed k ((2*i+1:Nat):Int)))]=some ⟨[.sc (.int .u64 (Bw seed (k+1) (i:Int)))],[]⟩:=by
  have:=Z6 (xs:=noX) (fu:=2000) (d:=2) (by omega) ((k+1:Nat):Int) (Bw seed k ((2*i:Nat):Int)) (Bw seed k ((2*i+1:Nat):Int))
  rw [show Bw seed (k+1) (i:Int)=J6 ((k+1:Nat):Int) (Bw seed k ((2*i:Nat):Int)) (Bw seed k ((2*i+1:Nat):Int)) by
   rw [Bw];congr 2<;>omega]
  exact this
 have L:(Ag .u64 (gl (fun (j:Nat)=>Bw seed (k+1) (j:Int)) m i)).length=m:=by rw [Al,Ac3 _ (by omega)]
 have hset:Bd (Ag .u64 (gl (fun (j:Nat)=>Bw seed (k+1) (j:Int)) m i)) [.sc (.int .u64 (Bw seed (k+1) (i:Int)))] i=Ag .u64 (gl (fun (j:Nat)=>Bw seed (k+1) (j:Int)) m (i+1)):=by
  rw [Eu (by omega),Is]
  exact congrArg _ (Ada (fun (j:Nat)=>Bw seed (k+1) (j:Int)) hi)
 refine (Afr cl yv h seed k m i (2*m) m _ _).trans ?_;simp (disch:=omega) only [Ca,Hw,Cd,C2,e1,e2,e3,a1,a2,pn,L,hset,w]
theorem Ald (yv:Value)(h seed k:Int)(n m:Nat)(c e:List PV):
  LZ 63 cl (sB (sB (sR (sL (sR (sB (sL (sR (sB (sB (sR (sR (sR Wv))))))))))))) 3298534883543 (Abc yv h seed k n m m m c e)=some (5,Abc yv h seed k n m m m c e):=
 (Afr cl yv h seed k m m n m c e).trans (Dx _ _ _ (by omega))
theorem RN {yv:Value}{h seed:Int}{k m:Nat}(hm:m<=1000)(hk:k<=1000):∀(r i nn:Nat),i+r=m->r<nn->∀{w0:World}{X0:Ef}{Y:Nat->Prop}{β:Bt}{a:Act}{w:World}{Q:Exit->Act->World->Prop},
  Bp 63 w0 X0 Y β (Abc yv h seed k (2*m) m m i (Ag .u64 (Dv seed (2*m) k)) (Ag .u64 (gl (fun (j:Nat)=>Bw seed (k+1) (j:Int)) m i))) a w ->
  (∀a' w' β',Bp 63 w0 X0 Y β' (Abc yv h seed k (2*m) m m m (Ag .u64 (Dv seed (2*m) k)) (Ag .u64 (gl (fun (j:Nat)=>Bw seed (k+1) (j:Int)) m m))) a' w'->Q (.exit 4) a' w') ->
  Code.rounds Tryd.prog (sB (sB (sR (sL (sR (sB (sL (sR (sB (sB (sR (sR (sR Wv))))))))))))) Q nn a w
 |_,_,0,_,h=>by omega
 |0,i,nn+1,hi,_=>by
  intro hs hQ;obtain rfl:i=m:=by omega
  rw [rounds_succ];exact Dk (Of _ _) NE Cv hs (Ald yv h seed k (2*i) i _ _) fun a' w' β' h'=>hQ a' w' β' h'
 |r+1,i,nn+1,hi,hr=>by
  intro hs hQ;rw [rounds_succ];exact Dk (Of _ _) NE Cv hs (Alp yv h seed hm hk (by omega)) fun a' w' β' h'=>RN hm hk r (i+1) nn (by omega) (by omega) h' hQ
end
section
open Go.IntKind (wrap)
set_option maxRecDepth 20000
open Go Go.RowKit
noncomputable abbrev JP:Code:=sB (sB (sR (sR (sR Wv))))
noncomputable abbrev lvX:Code:=sB (sL (sR JP))
theorem Akf:JP=.seq (.seq (.region 7 (Ku (sL (sL JP))) false) (sR (sL JP))) (.seq (.block 3 lvX) (sR (sR JP))):=by kernel_rfl
theorem Akq:lvX=.seq (sL lvX) (.seq (.seq (sL (sL (sR lvX))) (.block 4 (.loop (sB (sB (sR (sL (sR lvX)))))))) (sR (sR lvX))):=by kernel_rfl
theorem Ajz:Wv=.seq (sL Wv) (.seq (.seq (sL (sL (sR Wv))) (.block 0 (.loop (sB (sB (sR (sL (sR Wv)))))))) (.seq (sL (sR (sR Wv))) (.block 2 (.loop JP)))):=by kernel_rfl
theorem Ye {F:Fence}{n:Nat}{P:Program}{c c':Code}{Q:Exit->Act->World->Prop}{a:Act}{w:World}(e:c=c')(h:c'.wpIn F n P Q a w):c.wpIn F n P Q a w:=e ▸ h
abbrev lvS (yv:Value)(h seed:Int)(n:Nat)(k:Int)(c:List PV):St:=
 ⟨lk [(0,.sc yv),(1,.iptr [.sc (.int .i64 h)] 0),(2,.iptr [.sc (.int .u64 seed)] 0),(4,.view 4 1 0 n),(6,.sc (.int .i64 k))],Bz [(4,.ar false c)]⟩
abbrev NQ (yv:Value)(h seed:Int)(n:Nat)(k:Int)(c:List PV):St:=
 ⟨lk [(0,.sc yv),(1,.iptr [.sc (.int .i64 h)] 0),(2,.iptr [.sc (.int .u64 seed)] 0),(4,.view 4 1 0 n),(6,.sc (.int .i64 k)),(24,.sc yv),(25,.sc (.int .i64 k)),(26,.view 4 1 0 n)],Bz [(4,.ar false c)]⟩
abbrev Ali (yv:Value)(h seed:Int)(n:Nat)(k:Int)(c:List PV)(b:Bool):St:=
 ⟨lk [(0,.sc yv),(1,.iptr [.sc (.int .i64 h)] 0),(2,.iptr [.sc (.int .u64 seed)] 0),(4,.view 4 1 0 n),(6,.sc (.int .i64 k)),(27,.sc (.bool b))],Bz [(4,.ar false c)]⟩
def lvM (seed:Int)(h:Nat)(pre:List Nat)(k:Nat)(args:Array Value)(Z:Nat->Prop)(A:World):Prop:=
 k<=h∧pre=List.range k∧∃b o cap,args = #[.int .i64 k,.slice (some ⟨b,o,none⟩) (2 ^ (h-k):Nat) cap]∧2 ^ (h-k)<=cap∧b<A.heap.size∧¬Z b∧∀j,j<2 ^ (h-k)->A.cell? ⟨b,o+j,none⟩=some (.int .u64 (Bw seed k j))
theorem Aer {seed:Int}{h:Nat}{pre:List Nat}{k:Nat}{args:Array Value}{Z:Nat->Prop}{A B:World}(hm:lvM seed h pre k args Z A)(hs:A.heap.size<=B.heap.size)(hk:∀b,b<A.heap.size->¬Z b->B.heap[b]?=A.heap[b]?):lvM seed h pre k args Z B:=by
 obtain ⟨h0,hpr,b,o,cap,h1,h2,h3,h4,h5⟩:=hm;exact ⟨h0,hpr,b,o,cap,h1,h2,by omega,h4,fun j hj=>(World.cell?_of_block (a:=⟨b,o+j,none⟩) (hk b h3 h4)).trans (h5 j hj)⟩
theorem Aen {seed:Int}{h:Nat}{pre:List Nat}{k:Nat}{args:Array Value}{Z:Nat->Prop}{A:World}(hm:lvM seed h pre k args Z A):args.size=2:=by
 obtain ⟨h0,_,b,o,cap,h1,_⟩:=hm;rw [h1];rfl
theorem Aln:∃ty pos aft x,(Ku (sL (sL JP)))[3]?=some { dst:=some 27,op:=.call { callee:=.value (.tmp 24),args:= #[.tmp 25,.tmp 26],argTypes:=x },type:=ty,pos:=pos,after:=aft,guard:=none }:=
 ⟨_,_,_,_,rfl⟩
theorem Ji {k:IntKind}{l:List Int}{i:Nat}{n:Int}(h:l[i]?=some n):(Ag k l)[i]?=some (.sc (.int k n)):=by
 have h1:=V5 (k:=k) h;have hlt:i<(Ag k l).length:=by rw [Al];exact (List.getElem?_eq_some_iff.1 h).1
 rw [List.getD_eq_getElem?_getD,List.getElem?_eq_getElem hlt] at h1;rw [List.getElem?_eq_getElem hlt];exact congrArg some h1
section
variable {seed:Int} {h l:Nat} {w0:World} {X0:Ef} {Z:Nat->Prop} {β:Bt} {a:Act} {w:World}
theorem Ahi {yv:Value}{k n:Nat}{c:List PV}{hi:Int}(hs:Bp 63 w0 X0 Z β (NQ yv hi seed n k c) a w) (hn:0<n):
  a.tmps.getD 24 undef=yv∧a.tmps.getD 25 undef=.int .i64 k∧∃b o cap,β 4=some (b,o)∧a.tmps.getD 26 undef=.slice (some ⟨b,o,none⟩) n cap∧n<=cap∧b<w.heap.size∧LO w (Ci (Bz [(4,.ar false c)]) β Z) ⟨b,o,none⟩ c:=by
 have h24:=hs.tms 24 (by decide)
 have h25:=hs.tms 25 (by decide)
 have h26:=hs.tms 26 (by decide)
 have hb:=hs.box 4 _ (rfl:_=some (Bj.ar false c));refine ⟨(Na h24),(Na h25),?_⟩;rcases (show Bx w (Ci (Bz [(4,.ar false c)]) β Z) β (.view 4 1 0 n) (a.tmps.getD 26 undef) from h26) with ⟨_,_,h3,_⟩|⟨b,o,x,cap,h1,h2,h3,h4,h5,h6⟩
 ·omega
 ·rcases hb with ⟨h7,_⟩|⟨b',o',h7,h8,_⟩
  ·rw [h1] at h7;cases h7
  ·rw [h1] at h7;cases h7;have hx:x=o:=by omega
   subst hx;exact ⟨b,x,cap,h1,h2,h4,h6,h8⟩
abbrev Alw (yv:Value)(h seed:Int)(n:Nat)(k:Int)(c:List PV)(q:Bool):St:=
 ⟨lk [(0,.sc yv),(1,.iptr [.sc (.int .i64 h)] 0),(2,.iptr [.sc (.int .u64 seed)] 0),(4,.view 4 1 0 n),(6,.sc (.int .i64 k)),(32,.sc (.bool q))],Bz [(4,.ar false c)]⟩
theorem ZH {yv:Value}{hi seed:Int}{n:Nat}{k:Int}{c:List PV}:∀id cc,(NQ yv hi seed n k c).hp id≠some (.st cc):=by
 intro id cc e;rcases Ql [(4,Bj.ar false c)] id with h1|⟨q,hq,h1,h2⟩
 ·rw [show (NQ yv hi seed n k c).hp id=Bz [(4,Bj.ar false c)] id from rfl,h1] at e;cases e
 ·simp at hq;subst hq;rw [show (NQ yv hi seed n k c).hp id=Bz [(4,Bj.ar false c)] id from rfl,h2] at e
  cases e
theorem Ag5 {hi:Int}{yv:Value}{n:Nat}{k:Int}{c:List PV}{Z':Nat->Prop}{B:World}(b:Bool)(hs:Bp 63 w0 X0 Z β (NQ yv hi seed n k c) a w) (ht:IA Z Z' w B):
  Bp 63 B (Agq (NQ yv hi seed n k c) β) Z' β (Ali yv hi seed n k c b) (a.put (some 27) (.bool b)) B:=by
 have h1:=(hs.rebase ht ZH).put (d:=some 27) (v:=.sc (.bool b)) (val:=.bool b) rfl (Av.sc _) (by simp [Bo,B3,Aq])
 refine h1.pick _ _ ?_ ?_ ?_ ?_ (fun _ h=>h.elim)
 ·intro q hq;simp only [List.mem_cons,List.not_mem_nil,or_false] at hq;rcases hq with rfl|rfl|rfl|rfl|rfl|rfl<;>rfl
 ·intro q hq;simp only [List.mem_cons,List.not_mem_nil,or_false] at hq;rcases hq with rfl<;>rfl
 ·intro q hq id hid;simp only [List.mem_cons,List.not_mem_nil,or_false] at hq;rcases hq with rfl|rfl|rfl|rfl|rfl|rfl<;>simp [Bo,B3,Aq] at hid
  subst hid;simp [Bz]
 ·intro q hq cells e;simp only [List.mem_cons,List.not_mem_nil,or_false] at hq;rcases hq with rfl;cases e
theorem Aht (hh:h<=4){J Jx:(Nat->Prop)->List Nat->World->Prop} (hJ:∀Z pre A B,J Z pre A->Ux Z A B->J Z pre B)(hJx:∀Z pre A B,Jx Z pre A->Ux Z A B->Jx Z pre B)
  (hY:∀Z pre x args A,J Z pre A->lvM seed h pre x args Z A->YieldAt Fence.wide 0 Tryd.prog l args A fun e B=>∃Z',IA Z Z' A B∧((e=.returned (.bool true)∧J Z' (pre++[x]) B)∨(e=.returned (.bool false)∧Jx Z' (pre++[x]) B)))
  {k r:Nat} (hk:k+r=h) (hs:Bp 63 w0 X0 Z β (lvS (.func (.yield l) #[] #[]) h seed (2 ^ r) k (Ag .u64 (Dv seed (2 ^ r) k))) a w) (hd:∀b,Z b->¬X0.X b) (hj:J Z (List.range k) w0) {Q:Exit->Act->World->Prop}
  (hgo:k<h->∀w2 X2 Z' β' a' w',Bp 63 w2 X2 Z' β' (lvS (.func (.yield l) #[] #[]) h seed (2 ^ r) k (Ag .u64 (Dv seed (2 ^ r) k))) a' w'->(∀b,Z' b->¬X2.X b)->J Z' (List.range (k+1)) w2->Q .normal a' w')
  (hend:∀a' w',a'.defers=[]->(∃Z xs,(xs=List.range (h+1)∧J Z xs w')∨((∃k,xs=List.range (k+1))∧Jx Z xs w'))->Q (.exit 2) a' w'):
  (Code.seq (.region 7 (Ku (sL (sL JP))) false) (sR (sL JP))).wpIn Fence.wide 0 Tryd.prog Q a w:=by
 have hp:0<2 ^ r:=Nat.pos_of_ne_zero (by simp)
 refine wpIn_seq (wpIn_region ?_);have hl:List.range (Ku (sL (sL JP))).size=[0,1,2]++[3,4,5,6,7,8]:=by kernel_rfl
 rw [hl];refine Kf (ro:=none) (C:=CB) (call:=cl) (r:=((0:Nat),NQ (.func (.yield l) #[] #[]) h seed (2 ^ r) k (Ag .u64 (Dv seed (2 ^ r) k)))) (Of _ _) Cv ?_ [0,1,2] (List.take 3 (Ku (sL (sL JP))).toList) (by kernel_rfl) ?_ (by kernel_rfl) hs (Ajq cl _ h seed k (2 ^ r) _)
 rotate_left
 ·intro j i hj
  match j,hj with
  |0,hj=>cases hj;rfl
  |1,hj=>cases hj;rfl
  |2,hj=>cases hj;rfl
 intro s' a1 w1 β1 hk1 hs1;obtain ⟨β2,s2,hk2,hs2⟩:=Cz hs1 hk1;cases hk2;obtain ⟨v24,v25,b,o,cap,hb,v26,hcap,hbl,hrd⟩:=Ahi hs2 hp;have hjw:J Z (List.range k) w1:=hJ Z _ _ _ hj (hs2.stay hd);have hkr:h-k=r:=by omega
 have hm:lvM seed h (List.range k) k #[.int .i64 k,.slice (some ⟨b,o,none⟩) (2 ^ r:Nat) cap] Z w1:=by
  refine ⟨by omega,rfl,b,o,cap,by rw [hkr],by rw [hkr];exact hcap,hbl,fun hz=>hs2.Yx b hz ⟨4,o,by trivial,hb⟩,fun j hj=>?_⟩
  rw [hkr] at hj;obtain ⟨v,hv,_,hv2⟩:=hrd j (.sc (.int .u64 (Bw seed k j))) (Ji (P1 seed hj));rw [Df] at hv;rw [hv,Av.val hv2]
 obtain ⟨fn,tmps,assign,body,hy,hR⟩:=hY Z _ k _ w1 hjw hm;obtain ⟨ty,pos,aft,x,ho⟩:=Aln;rw [wpOpsIn_cons];unfold wpOpIn;rw [ho];simp only [Region.wanted,if_true]
 have run:(execOp a1.eval { dst:=some 27,op:=.call { callee:=.value (.tmp 24),args:= #[.tmp 25,.tmp 26],argTypes:=x },type:=ty,pos:=pos,after:=aft,guard:=none }).run Tryd.prog w1=.ok (.round l fn tmps assign body) w1:=by
  have e24:a1.eval (.tmp 24)=.func (.yield l) #[] #[]:=v24;have e25:a1.eval (.tmp 25)=.int .i64 k:=v25;have e26:a1.eval (.tmp 26)=.slice (some ⟨b,o,none⟩) (2 ^ r:Nat) cap:=v26;refine Aaf rfl rfl e24 ?_;rw [←hy];simp only [List.map_toArray,Zzw,List.map_nil,e25,e26]
 refine ⟨fun _ _=>trivial,?_⟩
 rw [show Oper.semAt (WF none).round a1.eval { dst:=some 27,op:=.call { callee:=.value (.tmp 24),args:= #[.tmp 25,.tmp 26],argTypes:=x },type:=ty,pos:=pos,after:=aft,guard:=none }=execOp a1.eval { dst:=some 27,op:=.call { callee:=.value (.tmp 24),args:= #[.tmp 25,.tmp 26],argTypes:=x },type:=ty,pos:=pos,after:=aft,guard:=none } from rfl,run]
 refine ⟨(fun h=>by cases h),(RC hR).mono ?_⟩
 have rest:∀(e:Bool) (B:World) (Z':Nat->Prop) (q:Bool),IA Z Z' w1 B->(Li CB Tryd.prog 63 cl (Ku (sL (sL JP))) (List.drop 4 (Ku (sL (sL JP))).toList) (Ali (.func (.yield l) #[] #[]) h seed (2 ^ r) k (Ag .u64 (Dv seed (2 ^ r) k)) e) (fun s=>Jh 63 4294967383 s fun s'=>some (0,s'))=some ((0:Nat),Alw (.func (.yield l) #[] #[]) h seed (2 ^ r) k (Ag .u64 (Dv seed (2 ^ r) k)) q)) ->
   (∀a' w' β',Bp 63 B (Agq (NQ (.func (.yield l) #[] #[]) h seed (2 ^ r) k (Ag .u64 (Dv seed (2 ^ r) k))) β2) Z' β' (lvS (.func (.yield l) #[] #[]) h seed (2 ^ r) k (Ag .u64 (Dv seed (2 ^ r) k))) a' w'->if q=true then Q .normal a' w' else Q (.exit 2) a' w') ->
   wpOpsIn (WF none) 0 Tryd.prog (Ku (sL (sL JP))) (Exit.then ((sR (sL JP)).wpIn Fence.wide 0 Tryd.prog Q) Q) [4,5,6,7,8] (a1.put (some 27) (.bool e)) B:=by
  intro e B Z' q ht heq hq;have h4:=Ag5 e hs2 ht;show wpOpsIn _ _ _ _ _ ([4,5,6,7,8]++[]) _ _;refine Kf (ro:=none) (C:=CB) (call:=cl) (Of _ _) Cv ?_ [4,5,6,7,8] (List.drop 4 (Ku (sL (sL JP))).toList) (by kernel_rfl) ?_ (by kernel_rfl) h4 heq
  rotate_left
  ·intro j i hj
   match j,hj with
   |0,hj=>cases hj;rfl
   |1,hj=>cases hj;rfl
   |2,hj=>cases hj;rfl
   |3,hj=>cases hj;rfl
   |4,hj=>cases hj;rfl
  intro s' a5 w5 β5 hk5 hs5;obtain ⟨β6,s6,hk6,hs6⟩:=Cz hs5 hk5;cases hk6;show (sR (sL JP)).wpIn Fence.wide 0 Tryd.prog Q a5 w5;cases q
  ·exact wpIn_wide.2 (Dk (Of _ _) NE Cv hs6 ((Ad3 cl _ h seed k (2 ^ r) _ false).trans rfl) fun a' w' β' h'=>hq a' w' β' h')
  ·exact wpIn_wide.2 (Dk (Of _ _) NE Cv hs6 ((Ad3 cl _ h seed k (2 ^ r) _ true).trans rfl) fun a' w' β' h'=>hq a' w' β' h')
 have hown:∀{B:World} {Z':Nat->Prop} {β':Bt} {s':St} {a':Act} {w':World},IA Z Z' w1 B->∀b,Z' b->¬(Agq (NQ (.func (.yield l) #[] #[]) h seed (2 ^ r) k (Ag .u64 (Dv seed (2 ^ r) k))) β2).X b:=by
  intro B Z' _ _ _ _ ht b hz;exact (hs2.rebase ht ZH).Yx b hz
 have er:List.range k++[k]=List.range (k+1):=(List.range_succ).symm
 rintro e B ⟨Z',ht,(⟨rfl,hj2⟩|⟨rfl,hj2⟩)⟩
 ·rw [er] at hj2;refine rest true B Z' (decide ((k:Int)<(h:Int))) ht (Agu cl _ h seed k (2 ^ r) _) fun a' w' β' h'=>?_
  have hdd:=hown (β':=β) (s':=s') (a':=a) (w':=w) ht;by_cases hlt:k<h
  ·rw [Cc (by simp;omega)]
   exact hgo hlt B _ Z' β' a' w' h' hdd hj2
  ·rw [A9 (by simp;omega)]
   exact hend a' w' h'.dfr ⟨Z',List.range (k+1),.inl ⟨by rw [show k=h by omega],hJ Z' _ _ _ hj2 (h'.stay hdd)⟩⟩
 ·refine rest false B Z' false ht (Ahn cl _ h seed k (2 ^ r) _) fun a' w' β' h'=>?_
  have hdd:=hown (β':=β) (s':=s') (a':=a) (w':=w) ht;rw [A9 (by simp)]
  exact hend a' w' h'.dfr ⟨Z',_,.inr ⟨⟨k,er⟩,hJx Z' _ _ _ hj2 (h'.stay hdd)⟩⟩
theorem LP (hh:h<=4){J Jx:(Nat->Prop)->List Nat->World->Prop} (hJ:∀Z pre A B,J Z pre A->Ux Z A B->J Z pre B)(hJx:∀Z pre A B,Jx Z pre A->Ux Z A B->Jx Z pre B)
  (hY:∀Z pre x args A,J Z pre A->lvM seed h pre x args Z A->YieldAt Fence.wide 0 Tryd.prog l args A fun e B=>∃Z',IA Z Z' A B∧((e=.returned (.bool true)∧J Z' (pre++[x]) B)∨(e=.returned (.bool false)∧Jx Z' (pre++[x]) B)))
  {Q:Exit->Act->World->Prop} (hend:∀a' w',a'.defers=[]->(∃Z xs,(xs=List.range (h+1)∧J Z xs w')∨((∃k,xs=List.range (k+1))∧Jx Z xs w'))->Q (.exit 2) a' w'):
  ∀(r k nn:Nat),k+r=h->r<nn->∀{w0:World} {X0:Ef} {Z:Nat->Prop} {β:Bt} {a:Act} {w:World},
   Bp 63 w0 X0 Z β (lvS (.func (.yield l) #[] #[]) h seed (2 ^ r:Nat) k (Ag .u64 (Dv seed (2 ^ r) k))) a w->(∀b,Z b->¬X0.X b)->J Z (List.range k) w0->Code.roundsIn Fence.wide 0 Tryd.prog JP Q nn a w
 |_,_,0,_,h=>by omega
 |r,k,nn+1,hk,hr=>by
  intro hs hd hj;rw [roundsIn_succ];refine Ye Akf (wpIn_seq (Aht hh hJ hJx hY hk hs hd hj ?_ fun a' w' h1 h2=>hend a' w' h1 h2))
  intro hlt w2 X2 Z' β' a' w' hs2 hd2 hj2
  match r,hk,hr,hs2 with
  |0,hk,hr,hs2=>omega
  |r+1,hk,hr,hs2=>
   have hp:2 ^ (r+1)=2*2 ^ r:=by rw [Nat.pow_succ];omega
   have hle:2 ^ r<=8:=by
    have:2 ^ r<=2 ^ 3:=Nat.pow_le_pow_right (by omega) (by omega)
    omega
   rw [hp] at hs2;show (Code.seq (.block 3 lvX) (sR (sR JP))).wpIn Fence.wide 0 Tryd.prog _ a' w';refine wpIn_seq (wpIn_block (Ye Akq (wpIn_seq (wpIn_wide.2 (Dk (Of _ _) NE Cv hs2 (L:=215) (t:=0) (s1:=⟨lk [(0,.sc (.func (.yield l) #[] #[])),(1,.iptr [.sc (.int .i64 h)] 0),(2,.iptr [.sc (.int .u64 seed)] 0),(4,.view 4 1 0 (2*2 ^ r)),(6,.sc (.int .i64 k)),(7,.view 7 1 0 (2 ^ r))],Bz [(4,.ar false (Ag .u64 (Dv seed (2*2 ^ r) k))),(7,.ar false (Ag .u64 (List.replicate (2 ^ r) 0)))]⟩) ?_ ?_)))))
   ·have w2:wrap .i64 (Int.tdiv ((2*2 ^ r:Nat):Int) 2)=((2 ^ r:Nat):Int):=by
     rw [Int.tdiv_eq_ediv_of_nonneg (by omega),Aj (by omega) (by omega)];omega
    refine (Ajs cl _ h seed k (2*2 ^ r) _).trans ?_;simp (disch:=omega) only [Ca,Hw,w2,HB]
   intro a3 w3 β3 hs3;refine wpIn_seq (wpIn_seq (wpIn_wide.2 (Dk (Of _ _) NE Cv hs3 (Aks cl _ h seed k _ _ _ _) ?_)));intro a4 w4 β4 hs4;refine wpIn_block (wpIn_wide.2 (wp_loop_rounds 1000 (RN (k:=k) (m:=2 ^ r) (by omega) (by omega) (2 ^ r) 0 1000 (by omega) (by omega) (by rw [XY];exact hs4) ?_)))
   intro a5 w5 β5 hs5;show (sR (sR lvX)).wpIn Fence.wide 0 Tryd.prog _ a5 w5;refine wpIn_wide.2 (Dk (Of _ _) NE Cv hs5 (Ajo cl _ h seed k _ _ _ _ _ _) ?_);intro a6 w6 β6 hs6;show (sR (sR JP)).wpIn Fence.wide 0 Tryd.prog _ a6 w6;refine wpIn_wide.2 (Dk (Of _ _) NE Cv hs6 (L:=87) (t:=0) (s1:=lvS (.func (.yield l) #[] #[]) h seed (2 ^ r:Nat) ((k+1:Nat):Int) (Ag .u64 (Dv seed (2 ^ r) (k+1)))) ?_ ?_)
   ·have w1:wrap .i64 ((k:Int)+1)=((k+1:Nat):Int):=by rw [Aj (by omega) (by omega)];omega
    refine (Akl cl _ h seed k _ _).trans ?_;simp only [Ca,w1];rw [YL];rfl
   intro a7 w7 β7 hs7;exact LP hh hJ hJx hY hend r (k+1) nn (by omega) (by omega) hs7 hd2 hj2
end
end
section
open Go.IntKind (wrap)
set_option maxRecDepth 20000
open Go Go.RowKit
def noL:Ef:={ X:=fun _=>False,L:=fun _ _=>False,pn:=fun _=>False,pt:=fun _=>none,p8:=fun _ h=>h.elim }
theorem Bp.init {N:Nat}{W:World}{Z0:Nat->Prop}(l:List (Nat × PV)) (a:Act)(hd:a.defers=[]) (hsz:a.tmps.size=N)(hlt:∀q∈l,q.1<N)(hv:∀q∈l,C9 W Z0 (fun _=>none) q.2 (a.tmps.getD q.1 undef)) (hr:∀q∈l,Bo q.2=[]) (hZ:∀b,Z0 b->b<W.heap.size):
  Bp N W noL Z0 (fun _=>none) ⟨lk l,Bz []⟩ a W:=by
 have hA:∀b,b<W.heap.size->Ci (Bz []) (fun _=>none) Z0 b->Z0 b:=fun b _ hb=>hb.elim (fun ⟨_,_,h,_⟩=>(h:B4 none).elim) id
 have hst:Bv Z0 W W:=⟨Nat.le_refl _,fun _ _ _=>rfl,fun _ _=>Nat.le_refl _⟩
 refine ⟨hd,hsz,fun i hi=>?_,fun i hi=>?_,fun id bx e=>(by cases e),fun id id' b o o' h=>(h:B4 none).elim,fun id b o h=>(h rfl).elim,fun i hi id hid=>?_,fun id c e=>(by cases e),fun b ⟨_,_,h,_⟩=>(h:B4 none).elim,fun id bx b o e=>(by cases e),
  fun i hi=>hi.elim,fun id c b o e=>(by cases e),fun b hz ⟨_,_,h,_⟩=>(h:B4 none).elim,hZ,⟨rfl,rfl,rfl,⟨Nat.le_refl _,fun _ _ _=>rfl,fun _ _=>Nat.le_refl _⟩,fun _ _ _ _=>⟨rfl,rfl⟩⟩⟩
 ·rcases Mb l i with e|⟨q,hq,h1,h2⟩
  ·exact e
  ·have:=hlt q hq;omega
 ·show C9 W (Ci (Bz []) (fun _=>none) Z0) (fun _=>none) (lk l i) _
  rcases Mb l i with e|⟨q,hq,h1,h2⟩
  ·rw [e];exact Av.top _
  ·rw [h2,←h1];exact (hv q hq).step hst hA fun _ _=>rfl
 ·rcases Mb l i with e|⟨q,hq,h1,h2⟩
  ·rw [show (St.mk (lk l) (Bz [])).tm i=lk l i from rfl,e] at hid;simp [Bo,B3,Aq] at hid
  ·rw [show (St.mk (lk l) (Bz [])).tm i=lk l i from rfl,h2,hr q hq] at hid;cases hid
def Aiz (seed:Int)(h Bh Bs:Nat)(Z0:Nat->Prop)(W:World):Prop:=
 W.cell? ⟨Bh,0,none⟩=some (.int .i64 h)∧W.cell? ⟨Bs,0,none⟩=some (.int .u64 seed)∧Bh<W.heap.size∧Bs<W.heap.size∧¬Z0 Bh∧¬Z0 Bs
theorem Aiq {h:Nat}(hh:h<=4):Gr .i64 1 (h:Int)=((2 ^ h:Nat):Int):=by
 have:h=0∨h=1∨h=2∨h=3∨h=4:=by omega
 rcases this with rfl|rfl|rfl|rfl|rfl<;>decide
theorem Ag1 {seed:Int}{h Bh Bs:Nat}{Z0:Nat->Prop}{W:World}{yv:Value}(hP:Aiz seed h Bh Bs Z0 W)(hZ:∀b,Z0 b->b<W.heap.size):
  Bp 63 W noL Z0 (fun _=>none) ⟨lk [(0,.sc yv),(1,.iptr [.sc (.int .i64 h)] 0),(2,.iptr [.sc (.int .u64 seed)] 0)],Bz []⟩ { tmps:=(yv::Value.pointer (some ⟨Bh,0,none⟩)::Value.pointer (some ⟨Bs,0,none⟩)::List.replicate 60 undef).toArray,defers:=[] } W:=by
 obtain ⟨p1,p2,p3,p4,p5,p6⟩:=hP;refine Bp.init _ _ rfl (by simp) ?_ ?_ ?_ hZ
 ·intro q hq;simp only [List.mem_cons,List.not_mem_nil,or_false] at hq;rcases hq with rfl|rfl|rfl<;>simp
 ·intro q hq;simp only [List.mem_cons,List.not_mem_nil,or_false] at hq;rcases hq with rfl|rfl|rfl
  ·exact Av.sc _
  ·refine ⟨⟨Bh,0,none⟩,rfl,rfl,p3,p5,fun j c hj=>?_⟩
   match j,hj with
   |0,hj=>cases hj;exact ⟨_,p1,rfl,Av.sc _⟩
  ·refine ⟨⟨Bs,0,none⟩,rfl,rfl,p4,p6,fun j c hj=>?_⟩
   match j,hj with
   |0,hj=>cases hj;exact ⟨_,p2,rfl,Av.sc _⟩
 ·intro q hq;simp only [List.mem_cons,List.not_mem_nil,or_false] at hq;rcases hq with rfl|rfl|rfl<;>rfl
theorem Ahy {seed:Int}{h Bh Bs:Nat}(hh:h<=4):Ail Tryd.prog 53 #[.pointer (some ⟨Bh,0,none⟩),.pointer (some ⟨Bs,0,none⟩)] (lvM seed h) (fun xs=>xs=List.range (h+1)) (fun xs=>∃k,xs=List.range (k+1)) (Aiz seed h Bh Bs):=by
 intro l J Jx W Z0 hZ hP hJ hJx hY h0;obtain ⟨p1,p2,p3,p4,p5,p6⟩:=hP;refine callsIn_wide.1 (callsIn_of_wp (F:=Fence.wide) (n:=0) Tryd.func53 rfl trivial ?_ rfl);show Wv.wpIn _ _ _ _ _ _;have t1:(({ tmps:=(#[Value.func (.yield l) #[] #[]] ++ #[Value.pointer (some ⟨Bh,0,none⟩),Value.pointer (some ⟨Bs,0,none⟩)])++Array.replicate (Tryd.f53.ntmps-(#[Value.func (.yield l) #[] #[]] ++ #[Value.pointer (some ⟨Bh,0,none⟩),Value.pointer (some ⟨Bs,0,none⟩)]).size) undef,defers:=[] }:Act))={ tmps:=(Value.func (.yield l) #[] #[]::Value.pointer (some ⟨Bh,0,none⟩)::Value.pointer (some ⟨Bs,0,none⟩)::List.replicate 60 undef).toArray,defers:=[] }:=by kernel_rfl
 rw [t1];have i0:=Ag1 (seed:=seed) (h:=h) (Z0:=Z0) (yv:=.func (.yield l) #[] #[]) ⟨p1,p2,p3,p4,p5,p6⟩ hZ;generalize ({ tmps:=(Value.func (.yield l) #[] #[]::Value.pointer (some ⟨Bh,0,none⟩)::Value.pointer (some ⟨Bs,0,none⟩)::List.replicate 60 undef).toArray,defers:=[] }:Act)=a0 at i0 ⊢
 have hle:2 ^ h<=16:=by
  have:2 ^ h<=2 ^ 4:=Nat.pow_le_pow_right (by omega) hh
  omega
 refine Ye Ajz (wpIn_seq (wpIn_wide.2 (Dk (Of _ _) NE Cv i0 (L:=23) (t:=0)
  (s1:=⟨lk [(0,.sc (.func (.yield l) #[] #[])),(1,.iptr [.sc (.int .i64 h)] 0),(2,.iptr [.sc (.int .u64 seed)] 0),(4,.view 4 1 0 (2 ^ h))],Bz [(4,.ar false (Ag .u64 (List.replicate (2 ^ h) 0)))]⟩) ?_ ?_)))
 ·refine (Ajf cl _ h seed).trans ?_;have e1:=Aiq hh;have e2:(0:Int)<=h:=by omega
  generalize 2 ^ h=n at hle e1 ⊢;simp (disch:=omega) only [Ca,e1,Hw,HB]
 intro a1 w1 β1 h1;refine wpIn_seq (wpIn_seq (wpIn_wide.2 (Dk (Of _ _) NE Cv h1 (Akd cl _ h seed _ _) ?_)));intro a2 w2 β2 h2;refine wpIn_block (wpIn_wide.2 (wp_loop_rounds 1000 (QJ (n:=2 ^ h) (by omega) (2 ^ h) 0 1000 (by omega) (by omega) (by rw [XY];exact h2) ?_)))
 intro a3 w3 β3 h3;show (Code.seq (sL (sR (sR Wv))) (.block 2 (.loop JP))).wpIn Fence.wide 0 Tryd.prog _ a3 w3;refine wpIn_seq (wpIn_wide.2 (Dk (Of _ _) NE Cv h3 (L:=87) (t:=0) (s1:=lvS (.func (.yield l) #[] #[]) h seed (2 ^ h:Nat) ((0:Nat):Int) (Ag .u64 (Dv seed (2 ^ h) 0))) ?_ ?_))
 ·refine (Aj4 cl _ h seed _ _ _ _).trans ?_;rw [YL];rfl
 intro a4 w4 β4 h4;refine wpIn_block (wpIn_loop_rounds 1000 (LP hh hJ hJx hY ?_ h 0 1000 (by omega) (by omega) h4 (fun b _ hb=>hb) h0))
 intro a5 w5 h5 h6;exact ⟨h5,_,results_none rfl _ _ _,⟨_,rfl⟩,h6⟩
end
section
open Go.IntKind (wrap)
set_option maxRecDepth 20000
open Go Go.RowKit
theorem Bp.make {N:Nat}{W:World}{Y:Nat->Prop}{β:Bt}(l:List (Nat × PV)) (bl:List (Nat × Bj)) (a:Act)(pn:Nat->Prop)(p8:∀i,pn i->i<8)(hd:a.defers=[]) (hsz:a.tmps.size=N)(hlt:∀q∈l,q.1<N)
  (hv:∀q∈l,C9 W (Ci (Bz bl) β Y) β q.2 (a.tmps.getD q.1 undef)) (hb:∀id bx,Bz bl id=some bx->Pz W (Ci (Bz bl) β Y) β id bx)
  (inj:∀id id' b o o',B4 (Bz bl id)->B4 (Bz bl id')->β id=some (b,o)->β id'=some (b,o')->id=id') (blt:∀id b o,Bz bl id≠none->β id=some (b,o)->b<W.heap.size)
  (wfT:∀q∈l,∀id∈Bo q.2,Bz bl id≠none)(wfB:∀id cells,Bz bl id=some (.st cells)->∀c∈cells,∀i∈Aq c,Bz bl i≠none) (hpin:∀i,pn i->Bz bl (Cm N i)≠none)
  (stp:∀id c,Bz bl id=some (.st c)->∃i,id=Cm N i∧pn i) (Yx:∀b,Y b->¬Yj (Bz bl) β b) (Ylt:∀b,Y b->b<W.heap.size):
  Bp N W { X:=Yj (Bz bl) β,L:=fun b _=>Yj (Bz bl) β b,pn:=pn,pt:=fun i=>β (Cm N i),p8:=p8 } Y β ⟨lk l,Bz bl⟩ a W:=by
 refine ⟨hd,hsz,fun i hi=>?_,fun i hi=>?_,hb,inj,blt,fun i hi id hid=>?_,wfB,fun b hb=>.inl hb,fun id bx b o h1 h2 h3 _ j _=>⟨id,o,by rw [show Bz bl id=some bx from h1];exact h2,h3⟩,fun i hi=>⟨hpin i hi,rfl⟩,
  fun id c b o h1 _ _=>stp id c h1,Yx,Ylt,⟨rfl,rfl,rfl,⟨Nat.le_refl _,fun _ _ _=>rfl,fun _ _=>Nat.le_refl _⟩,fun _ _ _ _=>⟨rfl,rfl⟩⟩⟩
 ·rcases Mb l i with e|⟨q,hq,h1,h2⟩
  ·exact e
  ·have:=hlt q hq;omega
 ·show C9 W _ β (lk l i) _;rcases Mb l i with e|⟨q,hq,h1,h2⟩
  ·rw [e];exact Av.top _
  ·rw [h2,←h1];exact hv q hq
 ·rcases Mb l i with e|⟨q,hq,h1,h2⟩
  ·rw [show (St.mk (lk l) (Bz bl)).tm i=lk l i from rfl,e] at hid;simp [Bo,B3,Aq] at hid
  ·rw [show (St.mk (lk l) (Bz bl)).tm i=lk l i from rfl,h2] at hid;exact wfT q hq id hid
def Alh (lo e0:Nat)(A:World)(pv:Value)(l:List Int):Prop:=
 (l=[]∧pv=.slice none 0 0)∨∃pb po cap,pv=.slice (some ⟨pb,po,none⟩) l.length cap∧l.length<=cap∧po+cap<=bsz A pb∧pb<A.heap.size∧(lo<=pb∨pb=e0)∧(∀(j:Nat) x,l[j]?=some x->A.cell? ⟨pb,po+j,none⟩=some (.int .u64 x))∧∀j,po<=j->j<bsz A pb->A.frozen? ⟨pb,j,none⟩=false
theorem frozen?_of_block {A B:World}{b j:Nat}(h:B.heap[b]?=A.heap[b]?):B.frozen? ⟨b,j,none⟩=A.frozen? ⟨b,j,none⟩:=by
 unfold World.frozen?;simp only [h]
structure Zy (wS:World) (D:Nat) (seed leaf:Int) (h b10 o10 e0:Nat) (chv:Value) (Z:Nat->Prop) (pre:List Nat) (A:World):Prop where
 os:A.os=wS.os
 tape:A.tape=wS.tape
 output:A.output=wS.output
 size:D+2<=A.heap.size
 zlo:∀b,b<wS.heap.size->Z b
 zlt:∀b,Z b->b<A.heap.size
 keep:∀b,b<wS.heap.size->b≠b10->b≠e0->A.heap[b]?=wS.heap[b]?
 bs:bsz wS b10<=bsz A b10
 c0:A.cell? ⟨b10,o10,none⟩=some (.int .i64 leaf)
 c1:A.cell? ⟨b10,o10+1,none⟩=some chv
 fz:∀k,k<3->A.frozen? ⟨b10,o10+k,none⟩=false
 lt:∀x∈pre,x<h
 path:∃pv,A.cell? ⟨b10,o10+2,none⟩=some pv∧Alh (D+2) e0 A pv (pre.map fun k=>Bw seed k (G0 leaf k))∧∀pb po n cap,pv=.slice (some ⟨pb,po,none⟩) n cap->Z pb
noncomputable abbrev WN:Code:=sF (sB (sR (sL (sR (sR (sR IB))))))
abbrev Ale (h leaf:Int)(x:Nat)(n:Nat)(c:List PV):List (Nat × PV):=[(5,.iptr [.sc (.int .i64 h)] 0),(6,.iptr [.sc (.int .i64 leaf)] 0),(10,.ptr 96000 0),(11,.sc (.int .i64 x)),(12,.lst false 1 n c)]
abbrev JB (leaf:Int)(ch:Value)(m:Nat)(d:List PV):List (Nat × Bj):=[(96000,.st [.sc (.int .i64 leaf),.sc ch,.view 20 1 0 m]),(20,.ar false d)]
structure Al9 (wS:World) (b5 o5 b6 o6 b10 o10:Nat) (args:Array Value) (a:Act):Prop where
 dfr:a.defers=[]
 size:a.tmps.size=48
 t5:a.tmps.getD 5 undef=.pointer (some ⟨b5,o5,none⟩)
 t6:a.tmps.getD 6 undef=.pointer (some ⟨b6,o6,none⟩)
 t10:a.tmps.getD 10 undef=.pointer (some ⟨b10,o10,none⟩)
 t11:a.tmps.getD 11 undef=args.getD 0 undef
 t12:a.tmps.getD 12 undef=args.getD 1 undef
theorem Add {wS:World}{D:Nat}{seed leaf:Int}{h b5 o5 b6 o6 b10 o10 e0:Nat}{chv:Value}{Z:Nat->Prop}{pre:List Nat}{A:World}(hI:Zy wS D seed leaf h b10 o10 e0 chv Z pre A){x:Nat}{args:Array Value}(hM:lvM seed h pre x args Z A){a:Act}(ha:Al9 wS b5 o5 b6 o6 b10 o10 args a)
  (h5:wS.cell? ⟨b5,o5,none⟩=some (.int .i64 h)) (h6:wS.cell? ⟨b6,o6,none⟩=some (.int .i64 leaf)) (l5:b5<wS.heap.size)(l6:b6<wS.heap.size)(l10:b10<wS.heap.size)(n5:b5≠b10)(n6:b6≠b10)(m5:b5≠e0)(m6:b6≠e0)(m10:b10≠e0)(hD:wS.heap.size<=D):
  ∃β X0,X0.pt 0=some (b10,o10)∧X0.pn 0∧(∀b,X0.X b->Z b∧(b=b10∨D+2<=b∨b=e0)) ∧
   Bp 48 A X0 (fun _=>False) β ⟨lk (Ale h leaf x (2 ^ (h-x)) (Ag .u64 (Dv seed (2 ^ (h-x)) x))),Bz (JB leaf chv pre.length (Ag .u64 (pre.map fun k=>Bw seed k (G0 leaf k))))⟩ a A:=by
 obtain ⟨hx,_,b,o,cap,hargs,hcap,hbl,hbz,hcell⟩:=hM;obtain ⟨pv,hpv,hown,hpz⟩:=hI.path
 obtain ⟨q,hq⟩:∃q:Option (Nat × Nat),(q=none∧pre=[]∧pv=.slice none 0 0)∨∃pb po cap,q=some (pb,po)∧pv=.slice (some ⟨pb,po,none⟩) pre.length cap∧pre.length<=cap∧po+cap<=bsz A pb∧pb<A.heap.size∧(D+2<=pb∨pb=e0)∧Z pb∧(∀(j:Nat) y,(pre.map fun k=>Bw seed k (G0 leaf k))[j]?=some y->A.cell? ⟨pb,po+j,none⟩=some (.int .u64 y))∧∀j,po<=j->j<bsz A pb->A.frozen? ⟨pb,j,none⟩=false:=by
  rcases hown with ⟨h1,h2⟩|⟨pb,po,cap,h1,h2,h3,h4,h5,h6,h7⟩
  ·exact ⟨none,.inl ⟨rfl,by simpa using h1,h2⟩⟩
  ·rw [List.length_map] at h1 h2;exact ⟨some (pb,po),.inr ⟨pb,po,cap,rfl,h1,h2,h3,h4,h5,hpz _ _ _ _ h1,h6,h7⟩⟩
 obtain ⟨β,hβ⟩:∃β:Bt,β=fun id=>if id=96000 then some (b10,o10) else if id=20 then q else none:=⟨_,rfl⟩
 have e1:β 96000=some (b10,o10):=by rw [hβ];rfl
 have e2:β 20=q:=by rw [hβ];rfl
 obtain ⟨d,hd⟩:∃d,Ag .u64 (pre.map fun k=>Bw seed k (G0 leaf k))=d:=⟨_,rfl⟩
 have hdl:d.length=pre.length:=by rw [←hd,Al,List.length_map]
 rw [hd]
 have hl0:∀id bx,Bz (JB leaf chv pre.length d) id=some bx->(id=96000∧bx=.st [.sc (.int .i64 leaf),.sc chv,.view 20 1 0 pre.length])∨(id=20∧bx=.ar false d):=by
  intro id bx e;rcases Ql (JB leaf chv pre.length d) id with h1|⟨p,hp,h1,h2⟩
  ·rw [h1] at e;cases e
  ·rw [h2] at e;cases e;simp only [List.mem_cons,List.not_mem_nil,or_false] at hp;rcases hp with rfl|rfl
   ·exact .inl ⟨h1.symm,rfl⟩
   ·exact .inr ⟨h1.symm,rfl⟩
 have hX:∀b,Yj (Bz (JB leaf chv pre.length d)) β b->b=b10∨∃po,q=some (b,po):=by
  rintro b' ⟨id,o',hl,hb⟩
  cases hh:Bz (JB leaf chv pre.length d) id with
  |none=>rw [hh] at hl;exact hl.elim
  |some bx=>
   rcases hl0 id bx hh with ⟨rfl,_⟩|⟨rfl,_⟩
   ·rw [e1] at hb;cases hb;exact .inl rfl
   ·rw [e2] at hb;exact .inr ⟨o',hb⟩
 have hqz:∀b' po,q=some (b',po)->Z b'∧(D+2<=b'∨b'=e0)∧b'<A.heap.size:=by
  intro b' po e;rcases hq with ⟨h1,_⟩|⟨pb,po',cap',h1,h2,h3,h4,h5,h6,h7,h8,h9⟩
  ·rw [h1] at e;cases e
  ·rw [h1] at e;cases e;exact ⟨h7,h6,h5⟩
 have hAlo:∀b',b'<wS.heap.size->b'≠b10->b'≠e0->¬Ci (Bz (JB leaf chv pre.length d)) β (fun _=>False) b':=by
  rintro b' hb hne hne0 (hx|hf)
  ·rcases hX b' hx with h1|⟨po,h1⟩
   ·exact hne h1
   ·rcases (hqz _ _ h1).2.1 with h2|h2
    ·omega
    ·exact hne0 h2
  ·exact hf
 have hsz:wS.heap.size<A.heap.size:=by have:=hI.size;omega
 refine ⟨β,_,e1,rfl,?_,Bp.make (Ale h leaf x (2 ^ (h-x)) (Ag .u64 (Dv seed (2 ^ (h-x)) x))) (JB leaf chv pre.length d) a (fun i=>i=0) (fun i hi=>by omega) ha.dfr ha.size ?_ ?_ ?_ ?_ ?_ ?_ ?_ ?_ ?_ (fun _ h=>h.elim) (fun _ h=>h.elim)⟩
 ·intro b' hb;rcases hX b' hb with rfl|⟨po,h1⟩
  ·exact ⟨hI.zlo _ l10,.inl rfl⟩
  ·exact ⟨(hqz _ _ h1).1,.inr (hqz _ _ h1).2.1⟩
 ·intro p hp;simp only [List.mem_cons,List.not_mem_nil,or_false] at hp;rcases hp with rfl|rfl|rfl|rfl|rfl<;>simp
 ·intro p hp;simp only [List.mem_cons,List.not_mem_nil,or_false] at hp;rcases hp with rfl|rfl|rfl|rfl|rfl
  ·refine ⟨⟨b5,o5,none⟩,ha.t5,rfl,by show b5<_;omega,hAlo b5 l5 n5 m5,fun j c hj=>?_⟩
   match j,hj with
   |0,hj=>cases hj;exact ⟨_,(World.cell?_of_block (a:=⟨b5,o5,none⟩) (hI.keep b5 l5 n5 m5)).trans h5,rfl,Av.sc _⟩
  ·refine ⟨⟨b6,o6,none⟩,ha.t6,rfl,by show b6<_;omega,hAlo b6 l6 n6 m6,fun j c hj=>?_⟩
   match j,hj with
   |0,hj=>cases hj;exact ⟨_,(World.cell?_of_block (a:=⟨b6,o6,none⟩) (hI.keep b6 l6 n6 m6)).trans h6,rfl,Av.sc _⟩
  ·exact ⟨b10,o10,e1,ha.t10⟩
  ·show C9 _ _ _ (.sc (.int .i64 x)) (a.tmps.getD 11 undef);rw [ha.t11,hargs];exact Av.sc _
  ·show C9 _ _ _ (.lst false 1 _ _) (a.tmps.getD 12 undef);rw [ha.t12,hargs];refine Av.lst 1 _ _ ⟨b,o,none⟩ cap (fun j=>.int .u64 (Bw seed x j)) rfl hbl ?_ hcap ?_ (fun _ _ _=>rfl) ?_
   ·rintro (hx'|hf)
    ·rcases hX b hx' with h1|⟨po,h1⟩
     ·exact hbz (h1 ▸ hI.zlo _ l10)
     ·exact hbz (hqz _ _ h1).1
    ·exact hf
   ·intro j c hj;rw [Df];have hlt:j<(Ag .u64 (Dv seed (2 ^ (h-x)) x)).length:=(List.getElem?_eq_some_iff.1 hj).1;rw [Al,HP] at hlt;exact hcell j hlt
   ·intro j c hj;have hlt:j<(Ag .u64 (Dv seed (2 ^ (h-x)) x)).length:=(List.getElem?_eq_some_iff.1 hj).1;rw [Al,HP] at hlt;rw [Ji (P1 seed hlt)] at hj;cases hj;exact Av.sc _
 ·intro id bx e;rcases hl0 id bx e with ⟨rfl,rfl⟩|⟨rfl,rfl⟩
  ·refine ⟨b10,o10,e1,fun j c hj=>?_,fun j hj=>hI.fz j hj⟩
   match j,hj with
   |0,hj=>cases hj;exact ⟨_,hI.c0,Av.sc _⟩
   |1,hj=>cases hj;exact ⟨_,hI.c1,Av.sc _⟩
   |2,hj=>
    cases hj;refine ⟨_,hpv,?_⟩;rcases hq with ⟨h1,h2,h3⟩|⟨pb,po,cap',h1,h2,h3,h4,h5,h6,h7,h8,h9⟩
    ·exact .inl ⟨e2.trans h1,rfl,by rw [h2];rfl,h3⟩
    ·exact .inr ⟨pb,po,po,cap',e2.trans h1,h2,.inl rfl,h3,by omega,h5⟩
  ·rcases hq with ⟨h1,h2,h3⟩|⟨pb,po,cap',h1,h2,h3,h4,h5,h6,h7,h8,h9⟩
   ·exact .inl ⟨e2.trans h1,by rw [←hd,h2];rfl⟩
   ·refine .inr ⟨pb,po,e2.trans h1,fun j c hj=>?_,fun _=>h9,fun h=>by cases h⟩
    have hlt:j<d.length:=(List.getElem?_eq_some_iff.1 hj).1;have hlt':j<(pre.map fun k=>Bw seed k (G0 leaf k)).length:=by rw [List.length_map];omega
    rw [←hd,Ji (List.getElem?_eq_getElem hlt')] at hj;cases hj;rw [Df];exact ⟨_,h8 j _ (List.getElem?_eq_getElem hlt'),rfl,Av.sc _⟩
 ·intro id id' b1 o1 o2 g1 g2 g3 g4
  have hid:∀i,B4 (Bz (JB leaf chv pre.length d) i)->i=96000∨i=20:=by
   intro i hi;cases hh:Bz (JB leaf chv pre.length d) i with
   |none=>rw [hh] at hi;exact hi.elim
   |some bx=>exact (hl0 i bx hh).imp (·.1) (·.1)
  have hne:∀po po',β 96000=some (b1,po)->β 20=some (b1,po')->False:=by
   intro po po' f1 f2;rw [e1] at f1;rw [e2] at f2;cases f1;rcases (hqz _ _ f2).2.1 with h2|h2
   ·omega
   ·exact m10 h2
  rcases hid id g1 with rfl|rfl<;>rcases hid id' g2 with rfl|rfl
  ·rfl
  ·exact (hne _ _ g3 g4).elim
  ·exact (hne _ _ g4 g3).elim
  ·rfl
 ·intro id b1 o1 g1 g2;cases hh:Bz (JB leaf chv pre.length d) id with
  |none=>exact absurd hh g1
  |some bx=>
   rcases hl0 id bx hh with ⟨rfl,_⟩|⟨rfl,_⟩
   ·rw [e1] at g2;cases g2;omega
   ·rw [e2] at g2;exact (hqz _ _ g2).2.2
 ·intro p hp id hid;simp only [List.mem_cons,List.not_mem_nil,or_false] at hp;rcases hp with rfl|rfl|rfl|rfl|rfl<;>simp [Bo,B3,Aq] at hid
  subst hid;simp [Bz]
 ·intro id cells e c hc i hi;rcases hl0 id _ e with ⟨rfl,e'⟩|⟨rfl,e'⟩
  ·cases e';simp only [List.mem_cons,List.not_mem_nil,or_false] at hc;rcases hc with rfl|rfl|rfl<;>simp [Aq] at hi
   subst hi;exact fun h0:some (Bj.ar false d)=none=>by cases h0
  ·cases e'
 ·intro i hi;subst hi;simp [Bz,Cm]
 ·intro id c e;rcases hl0 id _ e with ⟨rfl,e'⟩|⟨rfl,e'⟩
  ·exact ⟨0,rfl,rfl⟩
  ·cases e'
end
section
open Go.IntKind (wrap)
set_option maxRecDepth 20000
open Go Go.RowKit
theorem Aa2:∀h:Nat,h<5->∀k:Nat,k<h->∀n:Nat,n<16->n<2 ^ h->0<=G0 (n:Int) k∧G0 (n:Int) k<((2 ^ (h-k):Nat):Int):=by decide +kernel
theorem ZB {wS:World}{D:Nat}{seed leaf:Int}{h b10 o10 e0:Nat}{chv:Value}{Z:Nat->Prop}{pre pre':List Nat}{A w':World}(hI:Zy wS D seed leaf h b10 o10 e0 chv Z pre A){β':Bt}{X0:Ef}{a':Act}{m:Nat}{d:List PV}
  (hx1:X0.pt 0=some (b10,o10)) (hx2:X0.pn 0)(hX:∀b,X0.X b->Z b∧(b=b10∨D+2<=b∨b=e0)) (nD:D≠e0)(nD1:D+1≠e0)(l10:b10<wS.heap.size)(hD:wS.heap.size<=D)
  (hs:Bp 48 A X0 (fun _=>False) β' ⟨lk [(10,.ptr 96000 0)],Bz [(96000,.st [.sc (.int .i64 leaf),.sc chv,.view 96144 1 0 m]),(96144,.ar false d)]⟩ a' w')
  (hm:m=pre'.length)(hd:d=Ag .u64 (pre'.map fun k=>Bw seed k (G0 leaf k))) (hlt:∀x∈pre',x<h)(hZD:Z D)(hZD1:Z (D+1)):
  IA Z (fun b=>Z b∨(A.heap.size<=b∧b<w'.heap.size)) A w'∧w'.heap[D]?=A.heap[D]?∧w'.heap[D+1]?=A.heap[D+1]?∧Zy wS D seed leaf h b10 o10 e0 chv (fun b=>Z b∨(A.heap.size<=b∧b<w'.heap.size)) pre' w':=by
 have hsz:=hI.size;have hst:=hs.fr.step
 have same:∀b,b<A.heap.size->b≠b10->b≠e0->b<D+2->w'.heap[b]?=A.heap[b]?:=fun b hb hn hn0 hl=>hst.keep b hb fun hx=>by
  rcases (hX b hx).2 with h1|h1|h1
  ·exact hn h1
  ·omega
  ·exact hn0 h1
 have hp:β' 96000=some (b10,o10):=(hs.pin 0 hx2).2.trans hx1;obtain ⟨b,o,g1,g2,g3⟩:=(show ∃b o,β' 96000=some (b,o)∧_∧_ from hs.box 96000 _ (rfl:_=some (Bj.st [.sc (.int .i64 leaf),.sc chv,.view 96144 1 0 m])))
 rw [hp] at g1;cases g1;obtain ⟨v0,q0,r0⟩:=g2 0 _ rfl;obtain ⟨v1,q1,r1⟩:=g2 1 _ rfl;obtain ⟨v2,q2,r2⟩:=g2 2 _ rfl;have r0:=Av.val r0;have r1:=Av.val r1;subst r0 r1;have hb2:=hs.box 96144 _ (rfl:_=some (Bj.ar false d))
 have hne:∀pb po,β' 96144=some (pb,po)->pb≠b10∧(Z pb∨(A.heap.size<=pb∧pb<w'.heap.size))∧(D+2<=pb∨pb=e0)∧pb<w'.heap.size:=by
  intro pb po e;have hlt:pb<w'.heap.size:=hs.blt 96144 pb po (fun h0:some (Bj.ar false d)=none=>by cases h0) e
  have hn:pb≠b10:=by
   intro e';subst e';have:=hs.inj 96000 96144 pb o10 po trivial trivial hp e;cases this
  rcases hs.ownd pb ⟨96144,po,trivial,e⟩ with h1|h1
  ·have h2:=hX pb h1;rcases h2.2 with h3|h3
   ·exact absurd h3 hn
   ·exact ⟨hn,.inl h2.1,h3,hlt⟩
  ·exact ⟨hn,.inr ⟨h1,hlt⟩,.inl (by omega),hlt⟩
 refine ⟨⟨hs.fr.os,hs.fr.tape,hs.fr.output,hst.size,fun b hb hn=>hst.keep b hb fun hx=>hn (hX b hx).1,fun b hb=>.inl hb,fun b hb=>hb.imp (fun x=>x) (·.1),fun b hb=>hb.elim (fun h1=>Nat.lt_of_lt_of_le (hI.zlt b h1) hst.size) (·.2),hst.bs⟩,
  same D (hI.zlt D hZD) (by omega) nD (by omega),same (D+1) (hI.zlt _ hZD1) (by omega) nD1 (by omega),?_⟩
 refine ⟨hs.fr.os.trans hI.os,hs.fr.tape.trans hI.tape,hs.fr.output.trans hI.output,by have:=hst.size;omega,fun b hb=>.inl (hI.zlo b hb),fun b hb=>hb.elim (fun h1=>Nat.lt_of_lt_of_le (hI.zlt b h1) hst.size) (·.2),fun b hb hn hn0=>(same b (by omega) hn hn0 (by omega)).trans (hI.keep b hb hn hn0),Nat.le_trans hI.bs (hst.bs b10 (by omega)),q0,q1,fun k hk=>g3 k hk,hlt,v2,q2,?_,?_⟩
 ·rcases r2 with ⟨f1,_,f3,f4⟩|⟨pb,po,xx,cap,f1,f2,f3,f4,f5,f6⟩
  ·have:pre'=[]:=List.length_eq_zero_iff.1 (by omega)
   exact .inl ⟨by rw [this];rfl,f4⟩
  ·rcases hb2 with ⟨e1,_⟩|⟨pb',po',e1,e2,e3,_⟩
   ·rw [f1] at e1;cases e1
   ·rw [f1] at e1;cases e1;have hxx:xx=po:=by omega
    subst hxx;refine .inr ⟨pb,xx,cap,by rw [f2,List.length_map,hm],by rw [List.length_map];omega,by omega,f6,(hne pb xx f1).2.2.1,fun j y hj=>?_,fun j hj hjb=>e3 rfl j hj hjb⟩
    obtain ⟨v,h1,_,h3⟩:=e2 j (.sc (.int .u64 y)) (by rw [hd];exact Ji hj)
    rw [Df] at h1;rw [h1,Av.val h3]
 ·intro pb po n cap e;rcases r2 with ⟨f1,_,f3,f4⟩|⟨pb',po',xx,cap',f1,f2,f3,f4,f5,f6⟩
  ·rw [f4] at e;cases e
  ·rw [f2] at e;cases e;exact (hne pb po' f1).2.1
def Aj9 (wS:World)(D:Nat)(seed leaf:Int)(h b10 o10 e0:Nat)(chv:Value)(c:Code)(Z:Nat->Prop)(xs:List Nat)(B:World):Prop:=c=.exit 0∧∃pre,xs=pre++[h]∧Zy wS D seed leaf h b10 o10 e0 chv Z pre B
theorem Aex {wS:World}{D:Nat}{seed leaf:Int}{h b5 o5 b6 o6 b10 o10 e0:Nat}{chv:Value}{Z:Nat->Prop}{pre:List Nat}{A:World}(hh:h<=4)(hl0:0<=leaf)(hl1:leaf<((2 ^ h:Nat):Int)) (hI:Zy wS D seed leaf h b10 o10 e0 chv Z pre A){x:Nat}{args:Array Value}(hM:lvM seed h pre x args Z A){a:Act}(ha:Al9 wS b5 o5 b6 o6 b10 o10 args a)
  (h5:wS.cell? ⟨b5,o5,none⟩=some (.int .i64 h)) (h6:wS.cell? ⟨b6,o6,none⟩=some (.int .i64 leaf)) (l5:b5<wS.heap.size)(l6:b6<wS.heap.size)(l10:b10<wS.heap.size)(n5:b5≠b10)(n6:b6≠b10)(m5:b5≠e0)(m6:b6≠e0)(m10:b10≠e0)(nD:D≠e0)(nD1:D+1≠e0)(hD:wS.heap.size<=D)(hZD:Z D)(hZD1:Z (D+1)):
  WN.wpIn (WF (some (D+1))) 0 Tryd.prog (XP D (Zy wS D seed leaf h b10 o10 e0 chv) (Aj9 wS D seed leaf h b10 o10 e0 chv) Z (pre++[x]) A) a A:=by
 obtain ⟨β,X0,hx1,hx2,hX,hs⟩:=Add hI hM ha h5 h6 l5 l6 l10 n5 n6 m5 m6 m10 hD;have hx:=hM.1;have hpl:pre.length<=1000:=by rw [hM.2.1,List.length_range];omega
 have hQo:∀a w,¬XP D (Zy wS D seed leaf h b10 o10 e0 chv) (Aj9 wS D seed leaf h b10 o10 e0 chv) Z (pre++[x]) A .outgrown a w:=fun a w ⟨_,_,_,_,hf⟩=>hf
 by_cases hxh:x=h
 ·subst hxh;refine ES (Of _ _) NE Cv (by kernel_rfl) hQo hs (t:=1) (L:=1024) (s1:=⟨lk [(10,.ptr 96000 0)],Bz [(96000,.st [.sc (.int .i64 leaf),.sc chv,.view 96144 1 0 pre.length]),(96144,.ar false (Ag .u64 (pre.map fun k=>Bw seed k (G0 leaf k))))]⟩) ?_ ?_
  ·refine (Ac8 cl x leaf x chv _ _ _ _).trans ?_;rw [show ((x:Int)==(x:Int))=true from beq_self_eq_true _]
   rfl
  ·intro a' w' β' hs';obtain ⟨k1,k2,k3,k4⟩:=ZB hI hx1 hx2 hX nD nD1 l10 hD hs' rfl rfl hI.lt hZD hZD1;exact ⟨_,k1,k2,k3,rfl,pre,rfl,k4⟩
 ·have hlt:x<h:=by omega
  obtain ⟨n,rfl⟩:∃n:Nat,leaf=n:=⟨leaf.toNat,by omega⟩
  have h16:2 ^ h<=16:=by
   have:2 ^ h<=2 ^ 4:=Nat.pow_le_pow_right (by omega) hh
   omega
  have sb:=Aa2 h (by omega) x hlt n (by omega) (by omega)
  have es:Dg .i64 (F6 .i64 (n:Int) (x:Int)) 1=G0 n x:=rfl;obtain ⟨y,hy⟩:∃y:Nat,G0 n x=y:=⟨(G0 n x).toNat,by omega⟩
  have at1:(Ag .u64 (Dv seed (2 ^ (h-x)) x)).getD y .top=.sc (.int .u64 (Bw seed x (G0 n x))):=by
   rw [hy] at sb ⊢;exact V5 (P1 seed (by omega))
  have L:(Ag .u64 (pre.map fun k=>Bw seed k (G0 n k))).length=pre.length:=by rw [Al,List.length_map]
  have T:List.take pre.length (Ag .u64 (pre.map fun k=>Bw seed k (G0 n k)))=Ag .u64 (pre.map fun k=>Bw seed k (G0 n k)):=Wz (by omega)
  have bq:((x:Int)==(h:Int))=false:=by
   rw [beq_eq_false_iff_ne];omega
  refine ES (Of _ _) NE Cv (by kernel_rfl) hQo hs (t:=0) (L:=1024) (s1:=⟨lk [(10,.ptr 96000 0)],Bz [(96000,.st [.sc (.int .i64 n),.sc chv,.view 96144 1 0 (pre.length+1)]),(96144,.ar false (Ag .u64 (pre.map fun k=>Bw seed k (G0 n k))++[.sc (.int .u64 (Bw seed x (G0 n x)))]))]⟩) ?_ ?_
  ·refine (Ac8 cl h n x chv _ _ _ _).trans ?_;rw [bq];have t0:(0:Int)<=x:=by omega
   have t1:(0:Int)<=y:=by omega
   have t2:(y:Int)<((2 ^ (h-x):Nat):Int):=by omega
   have hn0:((pre.length+1)*8<=1099511627776):=by omega
   generalize 2 ^ (h-x)=nn at *
   simp (disch:=omega) only [Ca,es,hy,at1,L,T,Hw,Cd]
  ·intro a' w' β' hs'
   obtain ⟨k1,k2,k3,k4⟩:=ZB (pre':=pre++[x]) hI hx1 hx2 hX nD nD1 l10 hD hs' (by simp) (by simp) (by
    intro z hz;rcases List.mem_append.1 hz with h1|h1
    ·exact hI.lt z h1
    ·rw [List.mem_singleton.1 h1];exact hlt) hZD hZD1
   exact ⟨_,k1,k2,k3,k4⟩
end
section
open Go.IntKind (wrap)
set_option maxRecDepth 20000
open Go Go.RowKit Go.Shelf
set_option maxHeartbeats 2000000 in
theorem Aho (seed h:Int)(n:Nat)(w:World):CallsIn Fence.wide n Tryd.prog 32 #[.int .u64 seed,.int .i64 h] w fun e w'=>
  e=.returned (.func (.func 53) #[] #[.pointer (some ⟨w.heap.size+1,0,none⟩),.pointer (some ⟨w.heap.size,0,none⟩)])∧w'=(w.alloc (.cells #[.int .u64 seed] 27)).alloc (.cells #[.int .i64 h] 3):=by
 refine callsIn_of_wp Tryd.func32 rfl trivial ?_ rfl;simp only [Tryd.ntmps32,List.size_toArray,Le,CV,Nat.reduceAdd,Nat.reduceSub,Array.replicate_succ,Array.replicate_zero,List.push_toArray,List.append_toArray,Zzq,List.cons_append]
 gi_wp2
 go_ret
 exact ⟨rfl,rfl⟩
end
section
open Go.IntKind (wrap)
set_option maxRecDepth 20000
open Go Go.RowKit
theorem Aj8 {G:Se}{P:Program}{f:FuncId}{v0 v1 v2 v3:Value}{vals:List PV}(hf:∃fn,P.funcs[f]?=some fn∧fn.body.isSome=true)
  (h:∀(w:World)(Y:Nat->Prop),(∀b,Y b->b<w.heap.size)->Calls P f #[v0,v1,v2,v3] w fun e w'=>∃vs own,e=.returned (J1 vs)∧Out w w' Y JY [.sc v0,.sc v1,.sc v2,.sc v3] own ⟨vals,[]⟩ vs):Cr G P f [.sc v0,.sc v1,.sc v2,.sc v3] ⟨vals,[]⟩:=by
 refine ⟨hf,fun w Y bt us hin _ _=>?_⟩
 have hus:us=[v0,v1,v2,v3]:=by
  have ha:=hin.args
  match us,ha with
  |[u0,u1,u2,u3],⟨h0,h1,h2,h3,_⟩=>
   rw [Av.val h0.2,Av.val h1.2,Av.val h2.2,Av.val h3.2]
 subst hus
 have hl:∀i q,bt i 0≠some q:=by
  intro i q e;obtain ⟨p,h1,h2⟩:=hin.l0 i q e
  match i,h1 with
  |0,h1=>cases h1;cases h2
  |1,h1=>cases h1;cases h2
  |2,h1=>cases h1;cases h2
  |3,h1=>cases h1;cases h2
 refine (h w Y hin.Ylt).mono ?_
 rintro e w' ⟨vs,own,rfl,ho⟩
 have hA:PO bt own Y=PO JY own Y:=by
  funext b
  apply propext;constructor
  ·rintro (h1|⟨i,o,h1⟩|h1)
   ·exact .inl h1
   ·exact absurd h1 (hl i _)
   ·exact .inr (.inr h1)
  ·rintro (h1|⟨i,o,h1⟩|h1)
   ·exact .inl h1
   ·cases h1
   ·exact .inr (.inr h1)
 refine ⟨vs,own,rfl,ho.os,ho.tape,ho.output,ho.ext.weaken (fun b _ hb=>absurd hb (Sz b)),fun b j hb _=>ho.rng b j hb ?_,by rw [hA];exact ho.vals,rfl,fun j b o hj=>⟨(ho.fresh j b o hj).1,fun hlt=>?_⟩,ho.inj⟩
 ·rintro ⟨i,p,_,⟨k,o,h1,_⟩|⟨o,ps,h1,_⟩⟩
  ·cases h1
  ·cases h1
 ·obtain ⟨⟨i,k,o',h1⟩,_⟩:=(ho.fresh j b o hj).2 hlt;cases h1
theorem Bp.unbase {N:Nat}{we B w':World}{X XB:Ef}{Y YB:Nat->Prop}{β:Bt}{s:St}{a:Act}(h:Bp N B XB YB β s a w')(hY:∀b,Y b->YB b)(hYlt:∀b,Y b->b<we.heap.size)(hown:∀b,XB.X b->we.heap.size<=b)(hpn:∀i,¬X.pn i)
  (hos:B.os=we.os)(ht:B.tape=we.tape)(hou:B.output=we.output)(hsz:we.heap.size<=B.heap.size)(hk:∀b,b<we.heap.size->B.heap[b]?=we.heap[b]?):Bp N we X Y β s a w':=by
 have hX:∀b,Yj s.hp β b->we.heap.size<=b:=fun b hb=>(h.ownd b hb).elim (hown b) (fun h1=>Nat.le_trans hsz h1)
 have hA:∀b,Ci s.hp β Y b->Ci s.hp β YB b:=fun b hb=>hb.imp (fun x=>x) (hY b)
 have hst:Bv (Ci s.hp β YB) w' w':=⟨Nat.le_refl _,fun _ _ _=>rfl,fun _ _=>Nat.le_refl _⟩
 have hkw:∀b,b<we.heap.size->w'.heap[b]?=we.heap[b]?:=fun b hb=>(h.fr.step.keep b (by omega) fun hx=>by have:=hown b hx;omega).trans (hk b hb)
 refine ⟨h.dfr,h.tsz,h.tmo,fun i hi=>(h.tms i hi).step hst (fun b _=>hA b) fun _ _=>rfl,fun id bx e=>(h.box id bx e).step' hA,h.inj,h.blt,h.wfT,h.wfB,fun b hb=>.inr (hX b hb),fun id bx b o h1 h2 h3 h4=>?_,fun i hi=>absurd hi (hpn i),fun id c b o h1 h2 h3=>?_,fun b hy=>h.Yx b (hY b hy),hYlt,
  ⟨h.fr.os.trans hos,h.fr.tape.trans ht,h.fr.output.trans hou,⟨Nat.le_trans hsz h.fr.step.size,fun b hb _=>hkw b hb,fun b hb=>by unfold bsz;rw [hkw b hb];exact Nat.le_refl _⟩,fun b j hb _=>⟨World.cell?_of_block (hkw b hb),frozen?_of_block (hkw b hb)⟩⟩⟩
 ·have:=hX b ⟨id,o,by rw [h1];exact h2,h3⟩
  omega
 ·have:=hX b ⟨id,o,by rw [h1];trivial,h2⟩
  omega
theorem Zy.stay {wS:World}{D:Nat}{seed leaf:Int}{h b10 o10 e0:Nat}{chv:Value}{Z:Nat->Prop}{pre:List Nat}{A B:World}(hI:Zy wS D seed leaf h b10 o10 e0 chv Z pre A)(l10:b10<wS.heap.size)(nD:D≠e0)(nD1:D+1≠e0)(hD:wS.heap.size<=D)(hs:Ux (fun b=>Z b∧b≠D∧b≠D+1) A B):Zy wS D seed leaf h b10 o10 e0 chv Z pre B:=by
 have e:∀b,b<wS.heap.size->B.heap[b]?=A.heap[b]?:=fun b hb=>hs.same b ⟨hI.zlo b hb,by omega,by omega⟩
 have hb:bsz B b10=bsz A b10:=by unfold bsz;rw [e b10 l10]
 have hc:∀j,B.cell? ⟨b10,j,none⟩=A.cell? ⟨b10,j,none⟩:=fun j=>World.cell?_of_block (e b10 l10)
 obtain ⟨pv,p1,p2,p3⟩:=hI.path;refine ⟨hs.os.trans hI.os,hs.tape.trans hI.tape,hs.output.trans hI.output,Nat.le_trans hI.size hs.size,hI.zlo,fun b hz=>Nat.lt_of_lt_of_le (hI.zlt b hz) hs.size,fun b hb hn hn0=>(e b hb).trans (hI.keep b hb hn hn0),by rw [hb];exact hI.bs,(hc _).trans hI.c0,(hc _).trans hI.c1,fun k hk=>by rw [frozen?_of_block (e b10 l10)];exact hI.fz k hk,hI.lt,pv,(hc _).trans p1,?_,p3⟩
 rcases p2 with p2|⟨pb,po,cap,h1,h2,h3,h4,h5,h6,h7⟩
 ·exact .inl p2
 ·have hh:B.heap[pb]?=A.heap[pb]?:=hs.same pb ⟨p3 _ _ _ _ h1,by omega,by omega⟩
  have hbb:bsz B pb=bsz A pb:=by unfold bsz;rw [hh]
  exact .inr ⟨pb,po,cap,h1,h2,by rw [hbb];exact h3,Nat.lt_of_lt_of_le h4 hs.size,h5,fun j x hj=>(World.cell?_of_block (a:=⟨pb,po+j,none⟩) hh).trans (h6 j x hj),fun j hj hjb=>by rw [frozen?_of_block hh];exact h7 j hj (by rw [←hbb];exact hjb)⟩
end
section
open Go.IntKind (wrap)
set_option maxRecDepth 20000
open Go Go.RowKit
abbrev sgE (leaf:Int)(n1 n2:Nat)(c1 c2:List PV):List (Nat × PV):=[(8,.ptr 96000 0),(9,.sc (.int .i64 0)),(10,.iptr [.sc (.int .i64 leaf),.lst false 1 n1 c1,.lst false 1 n2 c2] 0)]
theorem Ajm {wS:World}{D:Nat}{seed leaf:Int}{h b8 o8 b10 o10 e0:Nat}{chv:Value}{Z:Nat->Prop}{pre:List Nat}{B:World}{Y:Nat->Prop}{a:Act}{n1:Nat}{c1:List PV}(hB:Zy wS D seed leaf h b10 o10 e0 chv Z pre B)
  (hd:a.defers=[]) (hsz:a.tmps.size=48)(t8:a.tmps.getD 8 undef=.pointer (some ⟨b8,o8,none⟩)) (t9:a.tmps.getD 9 undef=.int .i64 0)(t10:a.tmps.getD 10 undef=.pointer (some ⟨b10,o10,none⟩))
  (c8:∀j,j<3->∃v,B.cell? ⟨b8,o8+j,none⟩=some v)(f8:∀j,j<3->B.frozen? ⟨b8,o8+j,none⟩=false)(l8:b8<B.heap.size)(l10:b10<B.heap.size)(n8:b8≠b10)(y8:¬Y b8)(y10:¬Y b10)
  (hch:Av B (fun b=>b=b8∨Y b) (.lst false 1 n1 c1) chv) (hch1:chv.oneCell'=true)(hp:∀pb,(D+2<=pb∨pb=e0)->pb≠b8∧¬Y pb) (hY:∀b,Y b->b<B.heap.size):
  ∃X0 β,(∀b,X0.X b->b=b8)∧Bp 48 B X0 Y β ⟨lk (sgE leaf n1 pre.length c1 (Ag .u64 (pre.map fun k=>Bw seed k (G0 leaf k)))),Bz [(96000,.st [.top,.top,.top])]⟩ a B:=by
 obtain ⟨pv,hpv,hown,hpz⟩:=hB.path;obtain ⟨β,hβ⟩:∃β:Bt,β=fun id=>if id=96000 then some (b8,o8) else none:=⟨_,rfl⟩
 have e1:β 96000=some (b8,o8):=by rw [hβ];rfl
 have hl0:∀id bx,Bz [(96000,Bj.st [.top,.top,.top])] id=some bx->id=96000∧bx=.st [.top,.top,.top]:=by
  intro id bx e;rcases Ql [(96000,Bj.st [.top,.top,.top])] id with h1|⟨p,hp,h1,h2⟩
  ·rw [h1] at e;cases e
  ·rw [h2] at e;cases e;simp only [List.mem_cons,List.not_mem_nil,or_false] at hp;subst hp;exact ⟨h1.symm,rfl⟩
 have hX:∀b,Yj (Bz [(96000,Bj.st [.top,.top,.top])]) β b->b=b8:=by
  rintro b' ⟨id,o',hl,hb⟩
  cases hh:Bz [(96000,Bj.st [.top,.top,.top])] id with
  |none=>rw [hh] at hl;exact hl.elim
  |some bx=>
   obtain ⟨rfl,_⟩:=hl0 id bx hh;rw [e1] at hb;cases hb;rfl
 have hA:∀b,Ci (Bz [(96000,Bj.st [.top,.top,.top])]) β Y b->b=b8∨Y b:=fun b hb=>hb.imp (hX b) (fun x=>x)
 have hst:Bv (fun b=>b=b8∨Y b) B B:=⟨Nat.le_refl _,fun _ _ _=>rfl,fun _ _=>Nat.le_refl _⟩
 have one:pv.oneCell'=true:=by
  rcases hown with ⟨_,h2⟩|⟨pb,po,cap,h1,_⟩
  ·rw [h2];rfl
  ·rw [h1];rfl
 refine ⟨_,β,?_,Bp.make (sgE leaf n1 pre.length c1 (Ag .u64 (pre.map fun k=>Bw seed k (G0 leaf k)))) [(96000,.st [.top,.top,.top])] a (fun i=>i=0) (fun i hi=>by omega) hd hsz ?_ ?_ ?_ ?_ ?_ ?_ ?_ ?_ ?_ ?_ hY⟩
 ·exact hX
 ·intro p hp';simp only [List.mem_cons,List.not_mem_nil,or_false] at hp';rcases hp' with rfl|rfl|rfl<;>simp
 ·intro p hp';simp only [List.mem_cons,List.not_mem_nil,or_false] at hp';rcases hp' with rfl|rfl|rfl
  ·exact ⟨b8,o8,e1,t8⟩
  ·show C9 _ _ _ (.sc (.int .i64 0)) (a.tmps.getD 9 undef);rw [t9];exact Av.sc _
  ·refine ⟨⟨b10,o10,none⟩,t10,rfl,l10,fun hb=>?_,fun j c hj=>?_⟩
   ·rcases hA _ hb with h1|h1
    ·exact n8 h1.symm
    ·exact y10 h1
   ·match j,hj with
    |0,hj=>cases hj;exact ⟨_,hB.c0,rfl,Av.sc _⟩
    |1,hj=>cases hj;exact ⟨_,hB.c1,hch1,hch.step hst fun b _=>hA b⟩
    |2,hj=>
     cases hj;refine ⟨_,hpv,one,?_⟩;rcases hown with ⟨h1,h2⟩|⟨pb,po,cap,h1,h2,h3,h4,h5,h6,h7⟩
     ·rw [h2];have:pre=[]:=by simpa using h1
      subst this;exact Av.lnil _ _
     ·rw [h1,List.length_map];rw [List.length_map] at h2;refine Av.lst 1 _ _ ⟨pb,po,none⟩ cap (fun j=>.int .u64 ((pre.map fun k=>Bw seed k (G0 leaf k)).getD j 0)) rfl h4 (fun hb=>?_) h2 ?_ (fun _ _ _=>rfl) ?_
      ·have hh:=hp pb h5;rcases hA _ hb with h8|h8
       ·exact hh.1 h8
       ·exact hh.2 h8
      ·intro j c hj;have hlt:j<(Ag .u64 (pre.map fun k=>Bw seed k (G0 leaf k))).length:=(List.getElem?_eq_some_iff.1 hj).1
       rw [Al] at hlt;rw [Df,h6 j _ (List.getElem?_eq_getElem hlt),List.getD_eq_getElem?_getD,List.getElem?_eq_getElem hlt];rfl
      ·intro j c hj;have hlt:j<(Ag .u64 (pre.map fun k=>Bw seed k (G0 leaf k))).length:=(List.getElem?_eq_some_iff.1 hj).1
       rw [Al] at hlt;rw [Ji (List.getElem?_eq_getElem hlt)] at hj;cases hj;rw [List.getD_eq_getElem?_getD,List.getElem?_eq_getElem hlt];exact Av.sc _
 ·intro id bx e;obtain ⟨rfl,rfl⟩:=hl0 id bx e;refine ⟨b8,o8,e1,fun j c hj=>?_,fun j hj=>f8 j hj⟩
  have hlt:j<3:=(List.getElem?_eq_some_iff.1 hj).1;obtain ⟨v,hv⟩:=c8 j hlt
  match j,hj with
  |0,hj=>cases hj;exact ⟨v,hv,Av.top _⟩
  |1,hj=>cases hj;exact ⟨v,hv,Av.top _⟩
  |2,hj=>cases hj;exact ⟨v,hv,Av.top _⟩
 ·intro id id' b1 o1 o2 g1 g2 g3 g4
  have hid:∀i,B4 (Bz [(96000,Bj.st [.top,.top,.top])] i)->i=96000:=by
   intro i hi;cases hh:Bz [(96000,Bj.st [.top,.top,.top])] i with
   |none=>rw [hh] at hi;exact hi.elim
   |some bx=>exact (hl0 i bx hh).1
  rw [hid id g1,hid id' g2]
 ·intro id b1 o1 g1 g2;cases hh:Bz [(96000,Bj.st [.top,.top,.top])] id with
  |none=>exact absurd hh g1
  |some bx=>
   obtain ⟨rfl,_⟩:=hl0 id bx hh;rw [e1] at g2;cases g2;exact l8
 ·intro p hp' id hid;simp only [List.mem_cons,List.not_mem_nil,or_false] at hp';rcases hp' with rfl|rfl|rfl<;>simp [Bo,B3,Aq] at hid
  subst hid;simp [Bz]
 ·intro id cells e c hc i hi;obtain ⟨rfl,e'⟩:=hl0 id _ e;cases e';simp only [List.mem_cons,List.not_mem_nil,or_false] at hc;rcases hc with rfl|rfl|rfl<;>simp [Aq] at hi
 ·intro i hi;subst hi;simp [Bz,Cm]
 ·intro id c e;obtain ⟨rfl,_⟩:=hl0 id _ e;exact ⟨0,rfl,rfl⟩
 ·intro b hy hx;rw [hX b hx] at hy;exact y8 hy
end
section
open Go.IntKind (wrap)
set_option maxRecDepth 20000
open Go Go.RowKit
abbrev Abh (seed h leaf m:Int)(n:Nat)(c:List PV):St:=
  ⟨lk [(0,.sc (.int .u64 seed)),(3,.sc (.int .u64 m)),(5,.ptr 5 0),(6,.ptr 6 0),(8,.ptr 8 0),(9,.sc (.int .i64 0)),(10,.ptr 10 0),(27,.sc (.int .u64 seed)),(28,.sc (.int .i64 h))],
   Bz [(5,.st [.sc (.int .i64 h)]),(6,.st [.sc (.int .i64 leaf)]),(8,.st [.sc (.int .i64 0),.view 104 1 0 0,.view 152 1 0 0]),(104,.ar false []),(152,.ar false []),(10,.st [.sc (.int .i64 leaf),.view 106 1 0 n,.view 154 1 0 0]),(106,.ar false c),(154,.ar false [])]⟩
theorem Bp.var {N:Nat}{w0:World}{X0:Ef}{Y:Nat->Prop}{β:Bt}{s:St}{a:Act}{w:World}(h:Bp N w0 X0 Y β s a w){i id:Nat}{cells:List PV}(hi:i<N)(ht:s.tm i=.ptr id 0)(hb:s.hp id=some (.st cells)):
  ∃b o,β id=some (b,o)∧a.tmps.getD i undef=.pointer (some ⟨b,o,none⟩)∧b<w.heap.size∧(∀j c,cells[j]?=some c->∃v,w.cell? ⟨b,o+j,none⟩=some v∧Bx w (Ci s.hp β Y) β c v)∧∀j,j<cells.length->w.frozen? ⟨b,o+j,none⟩=false:=by
 have h1:=h.tms i hi;rw [ht] at h1;obtain ⟨b,o,e1,e2⟩:=(show ∃b o,β id=some (b,o)∧a.tmps.getD i undef=.pointer (some ⟨b,o+0,none⟩) from h1)
 obtain ⟨b',o',e3,e4,e5⟩:=(show ∃b o,β id=some (b,o)∧_∧_ from h.box id _ hb)
 rw [e1] at e3;cases e3;exact ⟨b,o,e1,e2,h.blt id b o (by rw [hb];simp) e1,e4,e5⟩
structure Alg (w w4:World) (Y:Nat->Prop) (seed h leaf:Int) (c:List PV) (n:Nat) (a4:Act) (b5 o5 b6 o6 b8 o8 b10 o10 e0:Nat) (chv:Value):Prop where
 t5:a4.tmps.getD 5 undef=.pointer (some ⟨b5,o5,none⟩)
 t6:a4.tmps.getD 6 undef=.pointer (some ⟨b6,o6,none⟩)
 t8:a4.tmps.getD 8 undef=.pointer (some ⟨b8,o8,none⟩)
 t9:a4.tmps.getD 9 undef=.int .i64 0
 t10:a4.tmps.getD 10 undef=.pointer (some ⟨b10,o10,none⟩)
 t27:a4.tmps.getD 27 undef=.int .u64 seed
 t28:a4.tmps.getD 28 undef=.int .i64 h
 c5:w4.cell? ⟨b5,o5,none⟩=some (.int .i64 h)
 c6:w4.cell? ⟨b6,o6,none⟩=some (.int .i64 leaf)
 c8:∀j,j<3->∃v,w4.cell? ⟨b8,o8+j,none⟩=some v
 f8:∀j,j<3->w4.frozen? ⟨b8,o8+j,none⟩=false
 c10:w4.cell? ⟨b10,o10,none⟩=some (.int .i64 leaf)
 c11:w4.cell? ⟨b10,o10+1,none⟩=some chv
 f10:∀j,j<3->w4.frozen? ⟨b10,o10+j,none⟩=false
 l5:b5<w4.heap.size
 l6:b6<w4.heap.size
 l8:b8<w4.heap.size
 l10:b10<w4.heap.size
 le:e0<=w4.heap.size
 n5:b5≠b10
 n6:b6≠b10
 m5:b5≠e0
 m6:b6≠e0
 m10:b10≠e0
 n8:b8≠b10
 m8:b8≠e0
 y8:¬Y b8
 y10:¬Y b10
 ye:¬Y e0
 g10:w.heap.size<=b10
 ge:w.heap.size<=e0
 g8:w.heap.size<=b8
 one:chv.oneCell'=true
 ch:∀B:World,w4.heap.size<=B.heap.size->(∀b,b<w4.heap.size->b≠b10->b≠e0->B.heap[b]?=w4.heap[b]?)->Av B (fun b=>b=b8∨Y b) (.lst false 1 n c) chv
 p0:∃v2,w4.cell? ⟨b10,o10+2,none⟩=some v2∧(v2=.slice none 0 0∨∃x cap,v2=.slice (some ⟨e0,x,none⟩) 0 cap∧x+cap<=bsz w4 e0∧e0<w4.heap.size∧∀j,x<=j->j<bsz w4 e0->w4.frozen? ⟨e0,j,none⟩=false)
theorem Aey {w w4:World}{Y:Nat->Prop}{seed h leaf m:Int}{l:List Int}{n:Nat}{a4:Act}{X0:Ef}{β4:Bt}(hn:0<n)(hl:l.length=n)(hX:∀b,¬X0.X b)(hs:Bp 48 w X0 Y β4 (Abh seed h leaf m n (Ag .u64 l)) a4 w4):
  ∃b5 o5 b6 o6 b8 o8 b10 o10 e0 chv,Alg w w4 Y seed h leaf (Ag .u64 l) n a4 b5 o5 b6 o6 b8 o8 b10 o10 e0 chv:=by
 obtain ⟨b5,o5,e5,t5,l5,k5,f5⟩:=hs.var (i:=5) (id:=5) (by decide) rfl rfl
 obtain ⟨b6,o6,e6,t6,l6,k6,f6⟩:=hs.var (i:=6) (id:=6) (by decide) rfl rfl
 obtain ⟨b8,o8,e8,t8,l8,k8,f8⟩:=hs.var (i:=8) (id:=8) (by decide) rfl rfl
 obtain ⟨b10,o10,e10,t10,l10,k10,f10⟩:=hs.var (i:=10) (id:=10) (by decide) rfl rfl
 obtain ⟨v5,q5,r5⟩:=k5 0 _ rfl;obtain ⟨v6,q6,r6⟩:=k6 0 _ rfl;obtain ⟨v80,q80,_⟩:=k8 0 _ rfl;obtain ⟨v81,q81,_⟩:=k8 1 _ rfl;obtain ⟨v82,q82,_⟩:=k8 2 _ rfl;obtain ⟨v0,q0,r0⟩:=k10 0 _ rfl;obtain ⟨v1,q1,r1⟩:=k10 1 _ rfl;obtain ⟨v2,q2,r2⟩:=k10 2 _ rfl;have r5:=Av.val r5;have r6:=Av.val r6;have r0:=Av.val r0;subst r5 r6 r0;have hb1:=hs.box 106 _ (rfl:_=some (Bj.ar false (Ag .u64 l)));have hb2:=hs.box 154 _ (rfl:_=some (Bj.ar false []));have own:∀id b o,B4 ((Abh seed h leaf m n (Ag .u64 l)).hp id)->β4 id=some (b,o)->w.heap.size<=b∧¬Y b:=fun id b o h1 h2=>⟨(hs.ownd b ⟨id,o,h1,h2⟩).elim (fun x=>absurd x (hX b)) (fun x=>x),fun hy=>hs.Yx b hy ⟨id,o,h1,h2⟩⟩
 have dif:∀id id' b b' o o',id≠id'->B4 ((Abh seed h leaf m n (Ag .u64 l)).hp id)->B4 ((Abh seed h leaf m n (Ag .u64 l)).hp id')->β4 id=some (b,o)->β4 id'=some (b',o')->b≠b':=fun id id' b b' o o' hne h1 h2 h3 h4 e=>by
  subst e;exact hne (hs.inj id id' b o o' h1 h2 h3 h4)
 obtain ⟨e0,he1,he2⟩:∃e0,(∀b o,β4 154=some (b,o)->e0=b)∧((∃o,β4 154=some (e0,o))∨e0=w4.heap.size):=by
  cases hq:β4 154 with
  |none=>exact ⟨w4.heap.size,fun b o h=>by (cases h),.inr rfl⟩
  |some q=>exact ⟨q.1,fun b o h=>by (cases h;rfl),.inl ⟨q.2,rfl⟩⟩
 have hlt4:w.heap.size<=w4.heap.size:=hs.fr.step.size
 have de:∀id b o,id≠154->B4 ((Abh seed h leaf m n (Ag .u64 l)).hp id)->β4 id=some (b,o)->b<w4.heap.size->b≠e0:=fun id b o hne h1 h2 hlt e=>by
  rcases he2 with ⟨o',h3⟩|h3
  ·exact dif id 154 b e0 o o' hne h1 trivial h2 h3 e
  ·omega
 have ge:w.heap.size<=e0∧¬Y e0∧e0<=w4.heap.size:=by
  rcases he2 with ⟨o',h3⟩|h3
  ·have:=own 154 e0 o' trivial h3;exact ⟨this.1,this.2,Nat.le_of_lt (hs.blt 154 e0 o' (fun h0:some (Bj.ar false [])=none=>by cases h0) h3)⟩
  ·exact ⟨by omega,fun hy=>by have:=hs.Ylt e0 hy;omega,by omega⟩
 rcases r1 with ⟨_,_,h3,_⟩|⟨cb,co,x,cap,g1,g2,g3,g4,g5,g6⟩
 ·omega
 rcases hb1 with ⟨h7,_⟩|⟨cb',co',h7,h8,h9,_⟩
 ·rw [g1] at h7;cases h7
 rw [g1] at h7;cases h7;have hx:x=co:=by omega
 subst hx
 refine ⟨b5,o5,b6,o6,b8,o8,b10,o10,e0,v1,⟨t5,t6,t8,Na (hs.tms 9 (by decide)),t10,Na (hs.tms 27 (by decide)),Na (hs.tms 28 (by decide)),q5,q6,fun j hj=>?_,fun j hj=>f8 j hj,q0,q1,fun j hj=>f10 j hj,l5,l6,l8,l10,ge.2.2,
  dif 5 10 _ _ _ _ (by decide) trivial trivial e5 e10,dif 6 10 _ _ _ _ (by decide) trivial trivial e6 e10,de 5 _ _ (by decide) trivial e5 l5,de 6 _ _ (by decide) trivial e6 l6,de 10 _ _ (by decide) trivial e10 l10,dif 8 10 _ _ _ _ (by decide) trivial trivial e8 e10,de 8 _ _ (by decide) trivial e8 l8,
  (own 8 _ _ trivial e8).2,(own 10 _ _ trivial e10).2,ge.2.1,(own 10 _ _ trivial e10).1,ge.1,(own 8 _ _ trivial e8).1,by rw [g2];rfl,fun B hB hk=>?_,v2,q2,?_⟩⟩
 ·match j,hj with
  |0,_=>exact ⟨v80,q80⟩
  |1,_=>exact ⟨v81,q81⟩
  |2,_=>exact ⟨v82,q82⟩
 ·have hsame:=hk cb g6 (dif 106 10 _ _ _ _ (by decide) trivial trivial g1 e10) (de 106 _ _ (by decide) trivial g1 g6)
  rw [g2];refine Av.lst 1 _ _ ⟨cb,x,none⟩ cap (fun j=>.int .u64 (l.getD j 0)) rfl (by show cb<_;omega) (fun hb=>?_) g4 (fun j c hj=>?_) (fun _ _ _=>rfl) (fun j c hj=>?_)
  ·rcases hb with hb|hb
   ·exact dif 106 8 _ _ _ _ (by decide) trivial trivial g1 e8 hb
   ·exact (own 106 _ _ trivial g1).2 hb
  ·have hlt:j<(Ag .u64 l).length:=(List.getElem?_eq_some_iff.1 hj).1;rw [Al] at hlt;obtain ⟨v,k1,_,k3⟩:=h8 j _ (Ji (List.getElem?_eq_getElem hlt));rw [Df] at k1 ⊢;rw [World.cell?_of_block (a:=⟨cb,x+j,none⟩) hsame,k1,Av.val k3,List.getD_eq_getElem?_getD,List.getElem?_eq_getElem hlt];rfl
  ·have hlt:j<(Ag .u64 l).length:=(List.getElem?_eq_some_iff.1 hj).1;rw [Al] at hlt;rw [Ji (List.getElem?_eq_getElem hlt)] at hj;cases hj;rw [List.getD_eq_getElem?_getD,List.getElem?_eq_getElem hlt];exact Av.sc _
 ·rcases r2 with ⟨_,_,_,h4⟩|⟨pb,po,x',cap',k1,k2,k3,k4,k5',k6'⟩
  ·exact .inl h4
  ·have he:=he1 pb po k1;subst he;rcases hb2 with ⟨h7,_⟩|⟨pb',po',h7,_,h9',_⟩
   ·rw [k1] at h7;cases h7
   ·rw [k1] at h7;cases h7;have hxx:x'=po:=by omega
    subst hxx;exact .inr ⟨x',cap',k2,by omega,k6',fun j hj hjb=>h9' rfl j hj hjb⟩
end
section
open Go.IntKind (wrap)
set_option maxRecDepth 20000
open Go Go.RowKit
noncomputable abbrev Ado:Code:=sA (sB (sR (sL (sR (sR (sR IB))))))
theorem Adr:∃o1 o2:Oper,Ado=.seq (.region 5 #[o1] false) (.region 6 #[o2] false)∧(o1.op=.assign (.tmp 30)∧o1.dst=some 11∧o1.guard=none)∧(o2.op=.assign (.tmp 31)∧o2.dst=some 12∧o2.guard=none):=
 ⟨_,_,rfl,⟨rfl,rfl,rfl⟩,⟨rfl,rfl,rfl⟩⟩
theorem Abx {F:Fence}{n:Nat}{P:Program}{o:Oper}{x:Operand}{a:Act}{w:World}{next:Act->World->Prop}{Q:Exit->Act->World->Prop}(hF:∀f,F.fn f)(ho:o.op=.assign x)(h:next (a.put o.dst (a.eval x)) w):o.wpIn F n P a w next Q:=by
 refine ⟨fun f _=>hF f,?_⟩
 have e:o.semAt F.round a.eval=execOp a.eval o:=Oper.semAt_eq _ _ _ (by intro c hc;rw [ho] at hc;cases hc)
 rw [e]
 have r:(execOp a.eval o).run P w=.ok (.value (a.eval x)) w:=by
  unfold execOp;rw [ho];simp
 rw [r];exact h
theorem YV {F:Fence}{n:Nat}{P:Program}{o:Oper}{x:Operand}{id:Nat}{a:Act}{w:World}{Q:Exit->Act->World->Prop}(hF:∀f,F.fn f)(ho:o.op=.assign x)(hg:o.guard=none)(h:Q .normal (a.put o.dst (a.eval x)) w):(Code.region id #[o] false).wpIn F n P Q a w:=by
 refine wpIn_region ?_;show wpOpsIn F n P #[o] Q [0] a w;unfold wpOpsIn;simp only [List.getElem?_toArray,List.getElem?_cons_zero,Region.wanted,hg,if_true];exact Abx hF ho h
theorem Fd {a:Act}{i j:Nat}{v:Value}(h:i≠j):(a.put (some i) v).tmps.getD j undef=a.tmps.getD j undef:=by
 show (a.tmps.setIfInBounds i v).getD j undef=_;simp [Array.getD_eq_getD_getElem?,Array.getElem?_setIfInBounds_ne h]
theorem HS {a:Act}{i:Nat}{v:Value}(h:i<a.tmps.size):(a.put (some i) v).tmps.getD i undef=v:=by
 show (a.tmps.setIfInBounds i v).getD i undef=_;simp [Array.getD_eq_getD_getElem?,h]
def sgA (a:Act)(args:Array Value):Act:=
 let r:Act:={ tmps:=((#[30,31]:Array Tmp).zip args).foldl (fun t (p,v)=>t.setIfInBounds p v) a.tmps,defers:=[] }
 let r1:=r.put (some 11) (r.eval (.tmp 30))
 r1.put (some 12) (r1.eval (.tmp 31))
theorem Ads {a:Act}{x y:Value}(hs:a.tmps.size=48):(sgA a #[x,y]).defers=[]∧(sgA a #[x,y]).tmps.size=48∧(sgA a #[x,y]).tmps.getD 5 undef=a.tmps.getD 5 undef∧(sgA a #[x,y]).tmps.getD 6 undef=a.tmps.getD 6 undef∧(sgA a #[x,y]).tmps.getD 10 undef=a.tmps.getD 10 undef ∧
  (sgA a #[x,y]).tmps.getD 11 undef=x∧(sgA a #[x,y]).tmps.getD 12 undef=y:=by
 obtain ⟨b,hb⟩:∃b:Act,({ tmps:=a.tmps,defers:=[] }:Act)=b:=⟨_,rfl⟩;have hbs:b.tmps.size=48:=by rw [←hb];exact hs
 have e:sgA a #[x,y]=(((b.put (some 30) x).put (some 31) y).put (some 11) (((b.put (some 30) x).put (some 31) y).eval (.tmp 30))).put (some 12) ((((b.put (some 30) x).put (some 31) y).put (some 11) (((b.put (some 30) x).put (some 31) y).eval (.tmp 30))).eval (.tmp 31)):=by
  rw [←hb];have z:((#[30,31]:Array Tmp).zip #[x,y]) = #[(30,x),(31,y)]:=by simp
  unfold sgA;rw [z];simp [Act.put]
 have ev:∀(c:Act) (t:Nat),c.eval (.tmp t)=c.tmps.getD t undef:=fun c t=>rfl
 have e30:((b.put (some 30) x).put (some 31) y).eval (.tmp 30)=x:=by rw [ev,Fd (by decide),HS (by omega)]
 rw [e,e30];have e31:(((b.put (some 30) x).put (some 31) y).put (some 11) x).eval (.tmp 31)=y:=by rw [ev,Fd (by decide),HS (by rw [Hm];omega)]
 rw [e31];have hd:b.defers=[]:=by rw [←hb]
 have ht:b.tmps=a.tmps:=by rw [←hb]
 refine ⟨by simp only [J4,hd],by simp only [Hm,hbs],?_,?_,?_,?_,?_⟩
 ·rw [Fd (by decide),Fd (by decide),Fd (by decide),Fd (by decide),ht]
 ·rw [Fd (by decide),Fd (by decide),Fd (by decide),Fd (by decide),ht]
 ·rw [Fd (by decide),Fd (by decide),Fd (by decide),Fd (by decide),ht]
 ·rw [Fd (by decide),HS (by simp only [Hm];omega)]
 ·rw [HS (by simp only [Hm];omega)]
theorem Ahx {w w4 w5:World}{Y:Nat->Prop}{seed leaf:Int}{h:Nat}{c:List PV}{n:Nat}{a4 a5:Act}{b5 o5 b6 o6 b8 o8 b10 o10 e0:Nat}{chv:Value}(hh:h<=4)(hl0:0<=leaf)(hl1:leaf<((2 ^ h:Nat):Int)) (hp:Alg w w4 Y seed h leaf c n a4 b5 o5 b6 o6 b8 o8 b10 o10 e0 chv)
  (hsz:a4.tmps.size=48)(hw5:w5=(w4.alloc (.cells #[.int .u64 seed] 27)).alloc (.cells #[.int .i64 h] 3))
  (ha5:a5=a4.put (some 29) (.func (.func 53) #[] #[.pointer (some ⟨w4.heap.size+1,0,none⟩),.pointer (some ⟨w4.heap.size,0,none⟩)])) {K:Act->World->Prop}{Q:Exit->Act->World->Prop}
  (hK:∀Z B,Zy w4 (w4.heap.size+2) seed leaf h b10 o10 e0 chv Z (List.range h) B->B.heap[w4.heap.size+2]?=some (.deferred (some []))->K { a5 with defers:={ target:=.collected (w4.heap.size+2),args:= #[] }::a5.defers } B):
  (Code.block 0 (.rangeFunc (.tmp 29) #[30,31] Ado WN)).wpIn Fence.wide 0 Tryd.prog (Exit.then K Q) a5 w5:=by
 have hs5:w5.heap.size=w4.heap.size+2:=by rw [hw5,World.size_alloc,World.size_alloc]
 have hold:∀b,b<w4.heap.size->w5.heap[b]?=w4.heap[b]?:=fun b hb=>by
  rw [hw5];exact (Below.heap_alloc _ _ _ (by simp;omega)).trans (Below.heap_alloc _ _ _ hb)
 have hB1:w5.heap[w4.heap.size+1]?=some (.cells #[.int .i64 h] 3):=by
  rw [hw5];have:=World.alloc_heap_new (w4.alloc (.cells #[.int .u64 seed] 27)) (.cells #[.int .i64 h] 3);rwa [World.size_alloc] at this
 have hB0:w5.heap[w4.heap.size]?=some (.cells #[.int .u64 seed] 27):=by
  rw [hw5];exact (Below.heap_alloc _ _ _ (by simp)).trans (World.alloc_heap_new w4 _)
 have hs5':a5.tmps.size=48:=by rw [ha5,Hm];exact hsz
 have g5:a5.tmps.getD 5 undef=.pointer (some ⟨b5,o5,none⟩):=by rw [ha5,Fd (by decide)];exact hp.t5
 have g6:a5.tmps.getD 6 undef=.pointer (some ⟨b6,o6,none⟩):=by rw [ha5,Fd (by decide)];exact hp.t6
 have g10:a5.tmps.getD 10 undef=.pointer (some ⟨b10,o10,none⟩):=by rw [ha5,Fd (by decide)];exact hp.t10
 have g29:a5.eval (.tmp 29)=.func (.func 53) #[] #[.pointer (some ⟨w4.heap.size+1,0,none⟩),.pointer (some ⟨w4.heap.size,0,none⟩)]:=by
  show a5.tmps.getD 29 undef=_;rw [ha5,HS (by omega)]
 have nD:w4.heap.size+2≠e0:=by have:=hp.le;omega
 have nD1:w4.heap.size+2+1≠e0:=by have:=hp.le;omega
 have QL:=Ahy (seed:=seed) (h:=h) (Bh:=w4.heap.size+1) (Bs:=w4.heap.size) hh
 refine wpIn_block (Aay (Z0:=fun b=>b<w4.heap.size) g29 (enters_of Tryd.func53 (by kernel_rfl) rfl) QL (fun b hb=>by omega) (fun W hW hk=>?_) (fun pre x args Z A B hm h1 h2=>Aer hm h1 h2) (fun pre x args Z A hm=>Aen hm)
  (Zy w4 (w4.heap.size+2) seed leaf h b10 o10 e0 chv) (Aj9 w4 (w4.heap.size+2) seed leaf h b10 o10 e0 chv) ?_ ?_ ?_ (sgA a5) ?_ ?_ ?_ ?_)
 ·have k1:=hk (w4.heap.size+1) (by omega)
  have k0:=hk w4.heap.size (by omega)
  refine ⟨(World.cell?_of_block (a:=⟨w4.heap.size+1,0,none⟩) k1).trans ?_,(World.cell?_of_block (a:=⟨w4.heap.size,0,none⟩) k0).trans ?_,by omega,by omega,?_,?_⟩
  ·unfold World.cell?;rw [hB1];rfl
  ·unfold World.cell?;rw [hB0];rfl
  ·rintro (h1|h1|h1)<;>omega
  ·rintro (h1|h1|h1)<;>omega
 ·intro Z pre A B hI hs;rw [hs5] at hs;exact hI.stay hp.l10 nD nD1 (by omega) hs
 ·rintro c' Z pre A B ⟨h1,pre',h2,hI⟩ hs
  rw [hs5] at hs;exact ⟨h1,pre',h2,hI.stay hp.l10 nD nD1 (by omega) hs⟩
 ·intro W hW hst;have e:∀b,b<w4.heap.size->W.heap[b]?=w4.heap[b]?:=fun b hb=>(hst.same b (by omega)).trans (hold b hb)
  have o5:w5.os=w4.os∧w5.tape=w4.tape∧w5.output=w4.output:=by rw [hw5];exact ⟨rfl,rfl,rfl⟩
  obtain ⟨v2,p1,p2⟩:=hp.p0;refine ⟨hst.os.trans o5.1,hst.tape.trans o5.2.1,hst.output.trans o5.2.2,by omega,fun b hb=>.inl hb,fun b hb=>by rcases hb with hb|hb|hb<;>omega,fun b hb _ _=>e b hb,by unfold bsz;rw [e b10 hp.l10];exact Nat.le_refl _,(World.cell?_of_block (e b10 hp.l10)).trans hp.c10,(World.cell?_of_block (e b10 hp.l10)).trans hp.c11,fun k hk=>by rw [frozen?_of_block (e b10 hp.l10)];exact hp.f10 k hk,(fun x hx=>by cases hx),v2,(World.cell?_of_block (e b10 hp.l10)).trans p1,?_,?_⟩
  ·rcases p2 with p2|⟨x,cap,q1,q2,q3,q4⟩
   ·exact .inl ⟨rfl,p2⟩
   ·have hb:bsz W e0=bsz w4 e0:=by unfold bsz;rw [e e0 q3]
    exact .inr ⟨e0,x,cap,q1,Nat.zero_le _,by rw [hb];exact q2,by omega,.inr rfl,fun j y hj=>(by cases hj),fun j hj hjb=>by rw [frozen?_of_block (e e0 q3)];exact q4 j hj (by rw [←hb];exact hjb)⟩
  ·intro pb po k cap' hv;rcases p2 with p2|⟨x,cap,q1,q2,q3,q4⟩
   ·rw [p2] at hv;cases hv
   ·rw [q1] at hv;cases hv;exact .inl q3
 ·intro pre x args Z A K' hm hk;obtain ⟨o1,o2,e,⟨a1,a2,a3⟩,⟨c1,c2,c3⟩⟩:=Adr;refine Ye e (wpIn_seq (YV (fun _=>trivial) a1 a3 ?_))
  show (Code.region 6 #[o2] false).wpIn _ _ _ _ _ _;refine YV (fun _=>trivial) c1 c3 ?_
  rw [a2,c2];exact hk
 ·intro Z pre x args A hZ1 hZ2 hI hm;rw [hs5] at hZ1 hZ2 ⊢;obtain ⟨hx,_,bb,oo,cc,hargs,_⟩:=id hm;have sp:=Ads (a:=a5) (x:=.int .i64 x) (y:=.slice (some ⟨bb,oo,none⟩) (2 ^ (h-x):Nat) cc) hs5';rw [←hargs] at sp;refine Aex hh hl0 hl1 hI hm ⟨sp.1,sp.2.1,sp.2.2.1.trans g5,sp.2.2.2.1.trans g6,sp.2.2.2.2.1.trans g10,?_,?_⟩ hp.c5 hp.c6 hp.l5 hp.l6 hp.l10 hp.n5 hp.n6 hp.m5 hp.m6 hp.m10 nD nD1 (by omega) hZ1 hZ2
  ·rw [sp.2.2.2.2.2.1,hargs];rfl
  ·rw [sp.2.2.2.2.2.2,hargs];rfl
 ·intro Z xs B hS hI _;subst hS;have:=hI.lt h (by simp)
  omega
 ·rintro c' Z xs B ⟨k,hk⟩ ⟨rfl,pre,hpre,hI⟩ hdf
  have hrg:pre=List.range h:=by
   rw [hpre,List.range_succ] at hk;have:=List.append_inj' hk rfl;have h2:h=k:=by simpa using this.2
   rw [this.1,h2]
  subst hrg;rw [hs5] at hdf ⊢;refine wpIn_exit ?_;simp only [Exit.inBlock,if_true];exact hK Z B hI hdf
end
section
open Go.IntKind (wrap)
set_option maxRecDepth 20000
open Go Go.RowKit
theorem Ai6:IB=.seq (sL IB) (.seq (sL (sR IB)) (.seq (sL (sR (sR IB))) (.seq (.seq (.region 4 (Ku (sL (sL (sR (sR (sR IB)))))) false) (.block 0 (.rangeFunc (.tmp 29) #[30,31] Ado WN))) (.seq (.region 9 (Ku (sL (sR (sR (sR (sR IB)))))) false) .ret)))):=by kernel_rfl
theorem Alo:∃ty pos aft x,(Ku (sL (sL (sR (sR (sR IB))))))[2]?=some { dst:=some 29,op:=.call { callee:=.value (.func 32),args:= #[.tmp 27,.tmp 28],argTypes:=x },type:=ty,pos:=pos,after:=aft,guard:=none }:=
 ⟨_,_,_,_,rfl⟩
theorem RQ {P:Program}{ops:Array Oper}{Q Q':Exit->Act->World->Prop}{n id:Nat}{ds:List Deferred}{a:Act}{w:World}(h:wpOpsIn (WF none) n P ops Q' (List.range ops.size) a w) (hq:∀e a w,TD ds Q' e a w->Q e a w):(Code.region id ops false).wpIn Fence.wide n P Q (Q8 ds a) w:=
 wpIn_mono (wpIn_region (F:=Fence.wide) (Ra _ h)) hq
abbrev Apu (seed h leaf m:Int):St:=
  ⟨lk [(0,.sc (.int .u64 seed)),(3,.sc (.int .u64 m)),(5,.ptr 5 0),(6,.ptr 6 0),(8,.ptr 8 0),(9,.sc (.int .i64 0))],
   Bz [(5,.st [.sc (.int .i64 h)]),(6,.st [.sc (.int .i64 leaf)]),(8,.st [.sc (.int .i64 0),.view 104 1 0 0,.view 152 1 0 0]),(104,.ar false []),(152,.ar false [])]⟩
abbrev Ao6 (seed h leaf m:Int)(n:Nat)(c:List PV):St:=
  ⟨lk [(0,.sc (.int .u64 seed)),(3,.sc (.int .u64 m)),(5,.ptr 5 0),(6,.ptr 6 0),(8,.ptr 8 0),(9,.sc (.int .i64 0)),(10,.ptr 10 0)],
   Bz [(5,.st [.sc (.int .i64 h)]),(6,.st [.sc (.int .i64 leaf)]),(8,.st [.sc (.int .i64 0),.view 104 1 0 0,.view 152 1 0 0]),(104,.ar false []),(152,.ar false []),(10,.st [.sc (.int .i64 leaf),.view 106 1 0 n,.view 154 1 0 0]),(106,.ar false c),(154,.ar false [])]⟩
abbrev Ake (leaf:Int)(n1 n2:Nat)(c1 c2:List PV):St:=⟨lk [(8,.ptr 96000 0),(9,.sc (.int .i64 0))],Bz [(96000,.st [.sc (.int .i64 leaf),.lst false 1 n1 c1,.lst false 1 n2 c2])]⟩
theorem WI {h leaf:Int}(hb:EZ h leaf=false):C4 h=false∧Nn leaf h=false∧∃H:Nat,h=H∧H<=4∧0<=leaf∧leaf<((2 ^ H:Nat):Int):=by
 unfold EZ at hb;rw [Bool.or_eq_false_iff] at hb;refine ⟨hb.1,hb.2,h.toNat,?_⟩;have h1:=hb.1;have h2:=hb.2;unfold C4 at h1;unfold Nn at h2;rw [Bool.or_eq_false_iff,decide_eq_false_iff_not,decide_eq_false_iff_not] at h1 h2;have h3:h=(h.toNat:Int):=by omega
 have h4:=Aiq (h:=h.toNat) (by omega)
 rw [←h3] at h4;rw [h4] at h2;exact ⟨h3,by omega,by omega,by omega⟩
theorem Ag9 {G:Se}{seed h leaf m:Int}(hb:EZ h leaf=false):Cr G Tryd.prog 15 [.sc (.int .u64 seed),.sc (.int .i64 h),.sc (.int .i64 leaf),.sc (.int .u64 m)]
  ⟨[.agg [.sc (.int .i64 leaf),.lst false 1 18 (Ag .u64 (Jt seed leaf m)),.lst false 1 h.toNat (Ag .u64 ((List.range h.toNat).map fun k=>Bw seed k (G0 leaf k)))],.sc (.int .i64 0)],[]⟩:=by
 obtain ⟨hhi,hou,H,rfl,hh,hl0,hl1⟩:=WI hb;refine Aj8 ⟨_,Tryd.func15,rfl⟩ fun w Y hY=>?_
 have hk0:Acl Tryd.prog 48 0 Tryd.f15.params.toList [.sc (.int .u64 seed),.sc (.int .i64 H),.sc (.int .i64 leaf),.sc (.int .u64 m)] (fun tms bs=>some (tms,bs))=some ([(0,.sc (.int .u64 seed)),(1,.sc (.int .i64 H)),(2,.sc (.int .i64 leaf)),(3,.sc (.int .u64 m))],[]):=by kernel_rfl
 have hin:Ins w Y JY [.sc (.int .u64 seed),.sc (.int .i64 H),.sc (.int .i64 leaf),.sc (.int .u64 m)] [.int .u64 seed,.int .i64 H,.int .i64 leaf,.int .u64 m]:=
  ⟨hY,fun b _=>Sz b,fun b x=>(Sz b x).elim,fun _ _ _ _ _ _ _ x=>(by cases x),fun _ _ x=>(by cases x),⟨.inl trivial,Av.sc _⟩,⟨.inl trivial,Av.sc _⟩,⟨.inl trivial,Av.sc _⟩,⟨.inl trivial,Av.sc _⟩,trivial⟩
 obtain ⟨tms,bs,hk1,hst⟩:=MV hin hk0;cases hk1;obtain ⟨h8,β0,hs0⟩:=hst rfl (by simp)
 refine callsIn_wide.1 (callsIn_of_wp_marks (F:=Fence.wide) (n:=0) Tryd.func15 rfl trivial ?_ rfl);have t1:({ tmps:= #[Value.int .u64 seed,.int .i64 H,.int .i64 leaf,.int .u64 m]++Array.replicate (Tryd.f15.ntmps-(#[Value.int .u64 seed,.int .i64 H,.int .i64 leaf,.int .u64 m]).size) undef,defers:=[] }:Act)={ tmps:=[Value.int .u64 seed,.int .i64 H,.int .i64 leaf,.int .u64 m].toArray++Array.replicate (48-[Value.int .u64 seed,.int .i64 H,.int .i64 leaf,.int .u64 m].toArray.size) undef,defers:=[] }:=by kernel_rfl
 rw [t1];show IB.wpIn _ _ _ _ _ _;generalize ({ tmps:=[Value.int .u64 seed,.int .i64 H,.int .i64 leaf,.int .u64 m].toArray++Array.replicate (48-[Value.int .u64 seed,.int .i64 H,.int .i64 leaf,.int .u64 m].toArray.size) undef,defers:=[] }:Act)=a0 at hs0 ⊢;have hXn:∀b,¬(FW JY [.sc (.int .u64 seed),.sc (.int .i64 H),.sc (.int .i64 leaf),.sc (.int .u64 m)] h8).X b:=Sz;refine Ye Ai6 (wpIn_seq (wpIn_wide.2 (Dk (Of _ _) NE Cv hs0 (Aku cl seed H leaf m) ?_)));intro a1 w1 β1 hs1;have eh:cl I0 [.sc (.int .i64 H)]=_:=Ri (xs:=noX) (fu:=2000) (d:=7) (H:Int);have eo:cl Gq [.sc (.int .i64 leaf),.sc (.int .i64 H)]=_:=Ny (xs:=noX) (fu:=2000) (d:=7) leaf H (by omega)
 have es:cl M0 [.sc (.int .u64 seed),.sc (.int .i64 leaf),.sc (.int .u64 m)]=_:=Ah8 (xs:=noX) (fu:=2000) (d:=1) (by omega) seed leaf m
 refine wpIn_seq (wpIn_wide.2 (Dk (Of _ _) NE Cv hs1 (L:=873) (t:=0) (s1:=Apu seed H leaf m) ?_ ?_))
 ·refine (Ai8 cl seed H leaf m).trans ?_;simp only [Ca,eh,eo,hhi,hou]
 intro a2 w2 β2 hs2;refine wpIn_seq (wpIn_wide.2 (Dk (Of _ _) NE Cv hs2 (L:=1897) (t:=0) (s1:=Ao6 seed H leaf m 18 (Ag .u64 (Jt seed leaf m))) ?_ ?_))
 ·refine (Aj6 cl seed H leaf m).trans ?_;simp only [Ca,es]
 intro a3 w3 β3 hs3;refine wpIn_seq (wpIn_seq (wpIn_region ?_));have hl:List.range (Ku (sL (sL (sR (sR (sR IB)))))).size=[0,1]++[2]:=by kernel_rfl
 rw [hl];refine Kf (ro:=none) (C:=CB) (call:=cl) (r:=((0:Nat),Abh seed H leaf m 18 (Ag .u64 (Jt seed leaf m)))) (Of _ _) Cv ?_ [0,1] (List.take 2 (Ku (sL (sL (sR (sR (sR IB)))))).toList) (by kernel_rfl) ?_ (by kernel_rfl) hs3 (Ajt cl seed H leaf m 18 _)
 rotate_left
 ·intro j i hj
  match j,hj with
  |0,hj=>cases hj;rfl
  |1,hj=>cases hj;rfl
 intro s' a4 w4 β4 hk4 hs4;obtain ⟨β5,s5,hk5,hs5⟩:=Cz hs4 hk4;cases hk5;obtain ⟨b5,o5,b6,o6,b8,o8,b10,o10,e0,chv,hp⟩:=Aey (l:=Jt seed leaf m) (n:=18) (by omega) (by simp [Jt]) hXn hs5
 obtain ⟨ty,pos,aft,x,ho⟩:=Alo;rw [wpOpsIn_cons];unfold wpOpIn;rw [ho];simp only [Region.wanted,if_true];refine ⟨fun _ _=>trivial,?_⟩
 rw [show Oper.semAt (WF none).round a4.eval { dst:=some 29,op:=.call { callee:=.value (.func 32),args:= #[.tmp 27,.tmp 28],argTypes:=x },type:=ty,pos:=pos,after:=aft,guard:=none }=execOp a4.eval { dst:=some 29,op:=.call { callee:=.value (.func 32),args:= #[.tmp 27,.tmp 28],argTypes:=x },type:=ty,pos:=pos,after:=aft,guard:=none } from rfl,
  FG (o:={ dst:=some 29,op:=.call { callee:=.value (.func 32),args:= #[.tmp 27,.tmp 28],argTypes:=x },type:=ty,pos:=pos,after:=aft,guard:=none }) rfl rfl ngT Tryd.func32 rfl]
 have e27:a4.eval (.tmp 27)=.int .u64 seed:=hp.t27;have e28:a4.eval (.tmp 28)=.int .i64 H:=hp.t28;simp only [List.map_toArray,Zzw,List.map_nil,e27,e28];refine ⟨(fun h=>by cases h),(Aho seed H _ w4).mono ?_⟩
 rintro e w5 ⟨rfl,hw5⟩
 refine Ahx (w:=w) (Y:=Y) hh hl0 hl1 hp hs5.tsz hw5 rfl ?_;intro Z B hRI hdf;obtain ⟨a5,ha5⟩:∃a5,a4.put (some 29) (.func (.func 53) #[] #[.pointer (some ⟨w4.heap.size+1,0,none⟩),.pointer (some ⟨w4.heap.size,0,none⟩)])=a5:=⟨_,rfl⟩;rw [ha5];have hd5:a5.defers=[]:=by rw [←ha5,J4];exact hs5.dfr
 have hz5:a5.tmps.size=48:=by rw [←ha5,Hm];exact hs5.tsz
 have ea:({ a5 with defers:={ target:=.collected (w4.heap.size+2),args:= #[] }::a5.defers }:Act)=Q8 [{ target:=.collected (w4.heap.size+2),args:= #[] }] a5:=by unfold Q8;rw [hd5];rfl
 rw [ea];have hsB:w4.heap.size<=B.heap.size:=by have:=hRI.size;omega
 have hkB:∀b,b<w4.heap.size->b≠b10->b≠e0->B.heap[b]?=w4.heap[b]?:=hRI.keep;have h8B:=hkB b8 hp.l8 hp.n8 hp.m8
 obtain ⟨XB,βB,hXB,hB⟩:=Ajm (Y:=Y) (a:=a5) (b8:=b8) (o8:=o8) (n1:=18) (c1:=Ag .u64 (Jt seed leaf m)) hRI hd5 hz5 (by rw [←ha5,Fd (by decide)];exact hp.t8) (by rw [←ha5,Fd (by decide)];exact hp.t9) (by rw [←ha5,Fd (by decide)];exact hp.t10)
  (fun j hj=>by rw [World.cell?_of_block (a:=⟨b8,o8+j,none⟩) h8B];exact hp.c8 j hj) (fun j hj=>by rw [frozen?_of_block h8B];exact hp.f8 j hj) (Nat.lt_of_lt_of_le hp.l8 hsB) (Nat.lt_of_lt_of_le hp.l10 hsB) hp.n8 hp.y8 hp.y10 (hp.ch B hsB hkB) hp.one
  (fun pb hpb=>by
   rcases hpb with hpb|hpb
   ·have:=hp.l8;exact ⟨by omega,fun hy=>by have:=hY pb hy;have:=hs5.fr.step.size;omega⟩
   ·rw [hpb];exact ⟨fun e=>hp.m8 e.symm,hp.ye⟩)
  (fun b hb=>by have:=hY b hb;have:=hs5.fr.step.size;omega)
 rw [List.length_range] at hB;refine wpIn_seq (RQ (Q':=fun e a' w'=>e=.normal∧∃β',Bp 48 B XB Y β' (Ake leaf 18 H (Ag .u64 (Jt seed leaf m)) (Ag .u64 ((List.range H).map fun k=>Bw seed k (G0 leaf k)))) a' w') ?_ ?_)
 ·have hl9:List.range (Ku (sL (sR (sR (sR (sR IB)))))).size=[0,1,2]++[]:=by kernel_rfl
  rw [hl9];refine Kf (ro:=none) (C:=CB) (call:=cl) (r:=((0:Nat),Ake leaf 18 H (Ag .u64 (Jt seed leaf m)) (Ag .u64 ((List.range H).map fun k=>Bw seed k (G0 leaf k))))) (Of _ _) Cv ?_ [0,1,2] (Ku (sL (sR (sR (sR (sR IB)))))).toList (by kernel_rfl) ?_ (by kernel_rfl) hB (Aj0 cl leaf 18 H _ _)
  rotate_left
  ·intro j i hj
   match j,hj with
   |0,hj=>cases hj;rfl
   |1,hj=>cases hj;rfl
   |2,hj=>cases hj;rfl
  intro s6 a6 w6 β6 hk6 hs6;obtain ⟨β7,s7,hk7,hs7⟩:=Cz hs6 hk6;cases hk7;exact ⟨rfl,β7,hs7⟩
 ·rintro e a7 w7 ⟨a6,rfl,rfl,β6,hz⟩
  refine wpIn_ret ?_
  have hD':w7.heap[w4.heap.size+2]?=some (.deferred (some [])):=by
   have hlt:=hRI.size;have hl8:=hp.l8;rw [hz.fr.step.keep (w4.heap.size+2) (by omega) fun hx=>by have:=hXB _ hx;omega]
   exact hdf
  show LeavesInM _ _ _ _ _ _ (a6.defers++[{ target:=.collected (w4.heap.size+2),args:= #[] }]) .returning w7;rw [hz.dfr];refine ⟨by simp,.inl ⟨_,_,rfl,run_takeDeferred hD',?_⟩⟩
  have hfr:=hs5.fr
  have hu:Bp 48 w (FW JY [.sc (.int .u64 seed),.sc (.int .i64 H),.sc (.int .i64 leaf),.sc (.int .u64 m)] h8) Y β6 (Ake leaf 18 H (Ag .u64 (Jt seed leaf m)) (Ag .u64 ((List.range H).map fun k=>Bw seed k (G0 leaf k)))) a6 w7:=
   hz.unbase (fun _ h=>h) hY (fun b hx=>by rw [hXB b hx];exact hp.g8) (fun i ⟨p,h1,h2⟩=>by
    match i,h1 with
    |0,h1=>cases h1;cases h2
    |1,h1=>cases h1;cases h2
    |2,h1=>cases h1;cases h2
    |3,h1=>cases h1;cases h2) (hRI.os.trans hfr.os) (hRI.tape.trans hfr.tape) (hRI.output.trans hfr.output) (Nat.le_trans hfr.step.size hsB) (fun b hb=>by
    have h1:=hp.g10;have h2:=hp.ge;have h3:=hfr.step.size;exact (hkB b (by omega) (by omega) (by omega)).trans (hfr.step.keep b hb (hXn b)))
  have hv:=hu.same (QV (y:=none) hD') fun b hb=>World.putObj_heap_other (by have:=hfr.step.size;omega)
  obtain ⟨_,v,r1,vs,own,r2,r3⟩:=AQ (C:=CS) (f:=15) (fn:=Tryd.f15) hin (res:=⟨[.agg [.sc (.int .i64 leaf),.lst false 1 18 (Ag .u64 (Jt seed leaf m)),.lst false 1 H (Ag .u64 ((List.range H).map fun k=>Bw seed k (G0 leaf k)))],.sc (.int .i64 0)],[]⟩) (Ajr seed H leaf m leaf 18 H _ _) hv
  exact ⟨v,r1,vs,own,r2,r3⟩
end
section
open Go.IntKind (wrap)
set_option maxRecDepth 20000
open Go Go.RowKit
theorem Cr.any {G:Se}{P:Program}{f:FuncId}{args:List PV}{r:Aw}(h:Cr G1 P f args r):Cr G P f args r:=
 ⟨h.1,fun w Y bt us hin _ _=>h.2 w Y bt us hin trivial fun _ hb=>hb.elim⟩
theorem Ajd {G:Se}{seed h leaf m:Int}(hb:EZ h leaf=true):Cr G Tryd.prog 15 [.sc (.int .u64 seed),.sc (.int .i64 h),.sc (.int .i64 leaf),.sc (.int .u64 m)]
  ⟨[.agg [.sc (.int .i64 0),.lst false 1 0 [],.lst false 1 0 []],.sc (.int .i64 9)],[]⟩:=by
 refine Cr.any (FI ngT NE Cv Tryd.func15 rfl ((Ajh cl seed h leaf m).trans ?_));have eh:cl I0 [.sc (.int .i64 h)]=_:=Ri (xs:=noX) (fu:=2000) (d:=7) h;unfold EZ at hb;cases hhi:C4 h
 ·rw [hhi,Bool.false_or] at hb
  have h0:0<=h:=by
   unfold C4 at hhi;rw [Bool.or_eq_false_iff,decide_eq_false_iff_not] at hhi;omega
  have eo:cl Gq [.sc (.int .i64 leaf),.sc (.int .i64 h)]=_:=Ny (xs:=noX) (fu:=2000) (d:=7) leaf h h0;simp only [Ca,eh,eo,hhi,hb]
 ·simp only [Ca,eh,hhi]
theorem Ack {G:Se}{args:List PV}{r:Aw}(h:Ako args=some r):Cr G Tryd.prog 15 args r:=by
 unfold Ako at h;split at h
 ·rename_i seed hh leaf m;cases h;cases hb:EZ hh leaf
  ·have l18:(Jt seed leaf m).length=18:=by simp [Jt]
   have:=Ag9 (G:=G) (seed:=seed) (m:=m) hb;unfold tkL tkC tkP tkE;rw [hb];simp only [Bool.false_eq_true,if_false,l18,List.length_map,List.length_range];exact this
  ·have:=Ajd (G:=G) (seed:=seed) (m:=m) hb;unfold tkL tkC tkP tkE;rw [hb];exact this
 ·cases h
end
section
open Go.IntKind (wrap)
open Go.RowKit
theorem NF {w w':World}{Y:Nat->Prop}{bt:EG}{args:List PV}{v:Value}(hb:Below w.heap.size w w')(ho:Xj w' (PO bt (fun _=>none) Y) (fun _=>none) bt (Pt [.sc v]) 0 args []):
  Out w w' Y bt args (fun _=>none) ⟨[.sc v],[]⟩ [v] where
 os:=hb.os
 tape:=hb.tape
 output:=hb.output
 ext:=⟨hb.size,fun b h _=>hb.block b h,fun b h=>by unfold bsz;rw [hb.block b h];exact Nat.le_refl _⟩
 rng:=fun b j h _=>⟨by unfold World.cell?;simp only [hb.block b h],by unfold World.frozen?;simp only [hb.block b h]⟩
 vals:=⟨Av.sc v,trivial⟩
 outs:=ho
 fresh:=fun j b o h=>by cases h
 inj:=fun j j' b o o' h=>by cases h
theorem CG {P:Program}{w:World}{A:Nat->Prop}{bt:Bt}{z:Bool}{n:Nat}{c:List PV}{u:Value}{l:List UInt8}(h:SF w A bt (.lst z 1 n c) u) (hl:bytesOf c=some l)(hn:c.length=n):
  (Extern.Bytes.bytesOf u).run P w=.ok ⟨l.toArray⟩ w:=by
 obtain ⟨ns,rfl,rfl⟩:=Sw hl;have ht:Av w A (.lst z 1 n (ns.map fun n=>.sc (.int .u8 n))) u:=h.2
 generalize hc:(ns.map fun n=>PV.sc (.int .u8 n))=c at ht
 cases ht with
 |lnil=>
  have:ns=[]:=by simpa using hc
  subst this;rfl
 |lemp=>
  have:ns=[]:=by simpa using hc
  subst this;rfl
 |lst _ _ _ a cap f hs hb hA hn' hcell h1 hr=>
  subst hc;rw [List.length_map] at hn;subst hn;show (Extern.Bytes.loadBytes a ns.length .empty).run P w=_;rw [Lib.run_loadBytesX w ns a .empty fun j x hj=>?_]
  ·simp [Lib.bytesOf,Nat.toUInt8]
  ·have e:(ns.map fun n=>PV.sc (.int .u8 n))[j]?=some (.sc (.int .u8 x)):=by rw [List.getElem?_map,hj];rfl
   rw [hcell j _ e,(hr j _ e).val]
set_option maxRecDepth 1000000 in
theorem PM (u1 u2:Value)(a b:List UInt8)(w:World)(h1:(Extern.Bytes.bytesOf u1).run Tryd.prog w=.ok ⟨a.toArray⟩ w) (h2:(Extern.Bytes.bytesOf u2).run Tryd.prog w=.ok ⟨b.toArray⟩ w):
  Calls Tryd.prog 87 #[u1,u2] w fun e w'=>e=.returned (.int .i64 (Lib.compareBytes a b))∧w'=w:=by
 have hr:(Extern.BytealgCompare.compare #[u1,u2]).run Tryd.prog w=.ok (.int .i64 (Lib.compareBytes a b)) w:=by
  change Sem.run Tryd.prog (do pure (goInt (Extern.BytealgCompare.cmp (←Extern.Bytes.bytesOf u1) (←Extern.Bytes.bytesOf u2)))) w=_
  simp only [Sem.run_bind,Sem.run_pure,Result.andThen,h1,h2];rw [Lib.cmp_eq];rfl
 go_enter Tryd.func87,Tryd.ntmps87
 go_wp2
 rw [run_callFunc_extern Tryd.func89 (by kernel_rfl) (by kernel_rfl) (by kernel_rfl) (e:=Extern.BytealgCompare.compare) (by kernel_rfl),hr]
 simp only [Result.andThen];rw [Oper.upon_value]
 go_wp2
 go_ret
 exact ⟨rfl,rfl⟩
theorem KD (G:Se)(args:List PV)(res:Aw)(h:Tv args=some res):Cr G Tryd.prog 87 args res:=by
 refine ⟨⟨_,Tryd.func87,by kernel_rfl⟩,fun w Y bt us hi _ _=>?_⟩
 unfold Tv at h;split at h
 rotate_left
 ·cases h
 rename_i z n c z' m c';cases hq:(Nat.beq c.length n&&Nat.beq c'.length m)
 ·rw [hq] at h;cases h
 rw [hq] at h;simp only [Bool.and_eq_true] at hq;have hn:=Nat.eq_of_beq_eq_true hq.1;have hm:=Nat.eq_of_beq_eq_true hq.2;simp only [cond_true] at h;split at h
 rotate_left
 ·cases h
 rename_i a b ha hb;cases h;have ps:=hi.args
 match us,ps with
 |[u1,u2],ps=>
  refine (PM u1 u2 a b w (CG ps.1 ha hn) (CG ps.2.1 hb hm)).mono ?_
  rintro e w' ⟨rfl,rfl⟩
  exact ⟨[.int .i64 (Lib.compareBytes a b)],fun _=>none,rfl,NF (Below.refl _ _) rfl⟩
 |[],ps=>exact ps.elim
 |[_],ps=>exact ps.2.elim
 |_::_::_::_,ps=>exact ps.2.2.elim
end
section
open Go.IntKind (wrap)
set_option maxRecDepth 1000000
open Go.Shelf Go.RowKit Go.Lib
def All:Go.Shelf.Ren:=⟨fun|196=>35|259=>58|n=>n,fun|0=>0|3=>3|4=>4|5=>5|9=>9|12=>12|46=>84|53=>27|119=>119|138=>121|139=>122|n=>n,fun|3=>0|4=>1|n=>n⟩
theorem laysVS:Lays.n196 Tryd.prog All:={
 mixed:=by kernel_rfl
 f196:=Tryd.func35.trans (congrArg some (by kernel_rfl))
 f259:=Tryd.func58.trans (congrArg some (by kernel_rfl))
 t0:=Tryd.underlying0
 a0:=Tryd.isAgg0
 z0:=Tryd.sizeOf0
 v0:=Tryd.zeroValue0
 t3:=Tryd.underlying3
 a3:=Tryd.isAgg3
 z3:=Tryd.sizeOf3
 v3:=Tryd.zeroValue3
 t4:=Tryd.underlying4
 a4:=Tryd.isAgg4
 z4:=Tryd.sizeOf4
 v4:=Tryd.zeroValue4
 t5:=Tryd.underlying5
 a5:=Tryd.isAgg5
 z5:=Tryd.sizeOf5
 v5:=Tryd.zeroValue5
 t9:=Tryd.underlying9
 a9:=Tryd.isAgg9
 z9:=Tryd.sizeOf9
 v9:=Tryd.zeroValue9
 t12:=Tryd.underlying12
 a12:=Tryd.isAgg12
 z12:=Tryd.sizeOf12
 v12:=Tryd.zeroValue12
 t46:=Tryd.underlying84
 a46:=Tryd.isAgg84
 z46:=Tryd.sizeOf84
 v46:=Tryd.zeroValue84
 t53:=Tryd.underlying27
 a53:=Tryd.isAgg27
 z53:=Tryd.sizeOf27
 v53:=Tryd.zeroValue27
 t119:=Tryd.underlying119
 a119:=Tryd.isAgg119
 z119:=Tryd.sizeOf119
 t138:=Tryd.underlying121
 a138:=Tryd.isAgg121
 z138:=Tryd.sizeOf121
 v138:=Tryd.zeroValue121
 t139:=Tryd.underlying122
 a139:=Tryd.isAgg122
 z139:=Tryd.sizeOf122
 v139:=Tryd.zeroValue122
 g3:=by kernel_rfl
 g4:=by kernel_rfl }
def gU:Se:=⟨fun b=>b=0∨b=1,fun w=>0<w.heap.size∧1<w.heap.size∧Lib.Utf8Tabs 0 1 w,fun w w' h ⟨s1,s2,h1,h2⟩=>by
 have e1:=h _ (.inl rfl) s1;have e2:=h _ (.inr rfl) s2
 have hs:∀b,b<w.heap.size->w'.heap[b]?=w.heap[b]?->b<w'.heap.size:=by
  intro b hb he;rw [Array.getElem?_eq_getElem hb] at he;rcases Nat.lt_or_ge b w'.heap.size with q|q
  ·exact q
  ·rw [Array.getElem?_eq_none q] at he;cases he
 refine ⟨hs _ s1 e1,hs _ s2 e2,fun c hc=>?_,fun i hi=>?_⟩
 ·have:=h1 c hc;unfold World.cell? at this ⊢;simp only [e1] at this ⊢;exact this
 ·obtain ⟨a,b⟩:=h2 i hi;unfold World.cell? at a b ⊢;simp only [e2] at a b ⊢;exact ⟨a,b⟩⟩
theorem QS (args:List PV)(res:Aw)(h:EV args=some res):Cr gU Tryd.prog 35 args res:=by
 refine ⟨⟨_,Tryd.func35,by kernel_rfl⟩,fun w Y bt us hi hok _=>?_⟩
 unfold EV at h;split at h
 rotate_left
 ·cases h
 rename_i s;cases hq:decide (s.size<=9223372036854775807)
 ·rw [hq] at h;cases h
 rw [hq] at h;cases h;have hs:=of_decide_eq_true hq;have ps:=hi.args
 match us,ps with
 |[u],ps=>
  have hu:u=.string s:=by
   have:Av w _ (.sc (.string s)) u:=ps.1.2;exact this.val
  subst hu;refine (Any.utf8_ValidString laysVS s w hs hok.2.2).mono ?_
  rintro e w' ⟨rfl,hb⟩
  exact ⟨[.bool (Lib.validD s.data.toList)],fun _=>none,rfl,NF hb rfl⟩
 |[],ps=>exact ps.elim
 |_::_::_,ps=>exact ps.2.elim
theorem extU:YG gU Tryd.prog C0:=by
 intro f g args res hx hg;have hx0:(bif Xk.any (Nat.beq f) then none else Kk f)=some g:=hx;cases hb:Xk.any (Nat.beq f)
 rotate_left
 ·rw [hb,cond_true] at hx0;cases hx0
 rw [hb,cond_false] at hx0;have hx':Kk f=some g:=hx0;unfold Kk at hx';cases h1:Nat.beq f 35
 rotate_left
 ·rw [h1,cond_true] at hx';cases hx';rw [Nat.eq_of_beq_eq_true h1];exact QS args res hg
 rw [h1,cond_false] at hx';cases h2:Nat.beq f 87
 rotate_left
 ·rw [h2,cond_true] at hx';cases hx';rw [Nat.eq_of_beq_eq_true h2];exact KD gU args res hg
 rw [h2,cond_false] at hx';cases h4:Nat.beq f 15
 rotate_left
 ·rw [h4,cond_true] at hx';cases hx';rw [Nat.eq_of_beq_eq_true h4];exact Ack hg
 rw [h4,cond_false] at hx';cases h3:Nat.beq f 1000000
 ·rw [h3,cond_false] at hx';cases hx'
 ·rw [h3,cond_true] at hx';cases hx';cases hg
end
end Go.Proofs.YtdjihiphpgkfmaaDoor.Pv
