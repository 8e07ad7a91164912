/-
  The proof of MetadataDecodes, part 5.
-/
import Derived.Test.YtpogefhpiaaliaaGreatDoorDD
import Derived.Test.YtpogefhpiaaliaaGreatDoorRows
set_option linter.unusedSimpArgs false
set_option linter.unusedVariables false
namespace Go.Proofs.YtpogefhpiaaliaaGreatDoor.Pv
open Go.IntKind (wrap)
open Go.Proofs.Tryz (prog)
set_option maxRecDepth 1000000
noncomputable section
section
variable {xs:FuncId->Option (Ab->Option D0)}(fu d:Nat)(call:Bp)
def I9(Z:Nat)(Y:Ab)(X:Int)(W:Nat)(V:Ab)(U:Int)(T:Nat)(S Q P:Int)(O:Nat)(N:Ab)(M L:Int)(K:Nat)(J:Int)(I:Nat)(H:Ab)(G:Int)(E:Ab):Option D0:=Mg fu call 121 Tryz.f121 [.pbox [.own 3 Z Y,X,Ap 1 W V,U]] [.r,.r,.r,.r,.r,.r,.r,.r,.r,.r,.r,.l,.r,.l] T ⟨lk [(0,.ptr 240000 0),(2,S),(3,Af Q),(8,P),(94,Ap 1 O N),(95,M),(96,L)],B0 [(240000,.st [.view 240120 3 0 K,J,Ap 1 I H,G]),(240120,.ar false E)]⟩
theorem P5(L:Nat)(K:Ab)(J:Int)(I:Nat)(H:Ab)(G:Int)(E:Nat)(Q W V:Int)(P:Nat)(O:Ab)(N Y:Int)(Z:Nat)(U:Int)(T:Nat)(S:Ab)(M:Int)(X:Ab):I9 fu call L K J I H G (E+1) Q W V P O N Y Z U T S M X=(A3 (decide (Y<N)) (As (decide (0<=Y)&&decide (Y<(↑P:Int)))<|Be .u8 (O.getD (Y.toNat*1) .top) fun a=>Aa (Hm .u64 W 8) fun b=>Aa (wrap .u64 a) fun a=>Aa (XH .u64 b a) fun a=>Aa (wrap .i64 (Y+1)) fun b=>I9 fu call L K J I H G E Q a V P O N b Z U T S M X) (Aa (wrap .i64 (M+V)) fun a=>Na .i64 (call 141 [Af W]) fun b=>A3 (decide (b<V)) (As (decide (Z*3<=X.length))<|some ⟨[(0:Int),Af 0,(2:Int)],[[.own 3 Z (X.take (Z*3)),U,Ap 1 T S,a]]⟩) (As (decide (Z*3<=X.length))<|some ⟨[Q,Af W,(0:Int)],[[.own 3 Z (X.take (Z*3)),U,Ap 1 T S,a]]⟩))):=by kernel_rfl
theorem HU(Z:Nat)(Y:Ab)(V:Int)(X:Nat)(W:Ab)(U:Int):Fn C0 fu d 121 [.pbox [.own 3 Z Y,V,Ap 1 X W,U]] fun call=>A3 (decide (U>=(↑X:Int))) (As (decide (Z*3<=Y.length))<|some ⟨[(0:Int),Af 0,(1:Int)],[[.own 3 Z (Y.take (Z*3)),V,Ap 1 X W,U]]⟩) (As (decide (0<=U)&&decide (U<(↑X:Int)))<|Be .u8 (W.getD (U.toNat*1) .top) fun a=>Aa (wrap .i64 (U+1)) fun b=>A3 (a==244) (Aa (wrap .u8 (a-244)) fun a=>Aa (wrap .u64 a) fun a=>As (decide (Z*3<=Y.length))<|some ⟨[(7:Int),Af a,(0:Int)],[[.own 3 Z (Y.take (Z*3)),V,Ap 1 X W,b]]⟩) (A3 (a==245) (Aa (wrap .u8 (a-244)) fun a=>Aa (wrap .u64 a) fun a=>As (decide (Z*3<=Y.length))<|some ⟨[(7:Int),Af a,(0:Int)],[[.own 3 Z (Y.take (Z*3)),V,Ap 1 X W,b]]⟩) (A3 (a==246) (As (decide (Z*3<=Y.length))<|some ⟨[(8:Int),Af 0,(0:Int)],[[.own 3 Z (Y.take (Z*3)),V,Ap 1 X W,b]]⟩) (Aa (F2 .u8 a 5) fun c=>Aa (Qg .u8 a 31) fun a=>A3 (decide (c>5)) (As (decide (Z*3<=Y.length))<|some ⟨[(0:Int),Af 0,(2:Int)],[[.own 3 Z (Y.take (Z*3)),V,Ap 1 X W,b]]⟩) (A3 (decide (a>27)) (As (decide (Z*3<=Y.length))<|some ⟨[(0:Int),Af 0,(2:Int)],[[.own 3 Z (Y.take (Z*3)),V,Ap 1 X W,b]]⟩) (Aa (wrap .i64 c) fun c=>Aa (wrap .i64 (1+c)) fun c=>A3 (decide (a<24)) (Aa (wrap .u64 a) fun a=>As (decide (Z*3<=Y.length))<|some ⟨[c,Af a,(0:Int)],[[.own 3 Z (Y.take (Z*3)),V,Ap 1 X W,b]]⟩) (Aa (wrap .u8 (a-24)) fun a=>As (decide (0<=a))<|Aa (Hm .i64 1 a) fun a=>Aa (wrap .i64 ((↑X:Int)-b)) fun e=>A3 (decide (e<a)) (As (decide (Z*3<=Y.length))<|some ⟨[(0:Int),Af 0,(1:Int)],[[.own 3 Z (Y.take (Z*3)),V,Ap 1 X W,b]]⟩) (Aa (wrap .i64 (b+a)) fun e=>As (decide (0<=b))<|As (decide (0<=e))<|As (decide (b.toNat<=e.toNat)&&decide (e.toNat<=X))<|Aa (e.toNat-b.toNat) fun e=>Aa (List.take (e*1) (W.drop (b.toNat*1))) fun f=>I9 fu call Z Y V X W U fu c 0 a e f (↑e:Int) 0 Z V X W b Y)))))))):=by show _=_;kernel_rfl
theorem GZ(Z:Nat)(Y:Ab)(X:Int)(W:Nat)(V:Ab)(U:Int):Fn C0 fu d 88 [.pbox [.own 3 Z Y,X,Ap 1 W V,U]] fun call=>As (decide (Z*3<=Y.length))<|Bk (call 121 [.pbox [.own 3 Z (Y.take (Z*3)),X,Ap 1 W V,U]]) fun a b=>C2 .i64 a fun a c=>C2 .u64 c fun c e=>Dk .i64 e fun e=>Av b fun b f=>Tz 3 b fun b g h=>C2 .i64 h fun h i=>Hw 1 i fun i j k=>Dk .i64 k fun k=>Aq f<|A3 (e != 0) (As (decide (b*3<=g.length))<|some ⟨[.agg [(0:Int),Af 0,.sc (.string (ByteArray.mk #[]))],e],[[.own 3 b (g.take (b*3)),h,Ap 1 i j,k]]⟩) (As (decide (b*3<=g.length))<|Bk (call 122 [.pbox [.own 3 b (g.take (b*3)),h],a]) fun b e=>Dk .i64 b fun b=>Av e fun e f=>Tz 3 e fun e g h=>Dk .i64 h fun h=>Aq f<|A3 (b != 0) (As (decide (e*3<=g.length))<|some ⟨[.agg [(0:Int),Af 0,.sc (.string (ByteArray.mk #[]))],b],[[.own 3 e (g.take (e*3)),h,Ap 1 i j,k]]⟩) (A3 (a==5) (A3 (decide (c>512)) (As (decide (e*3<=g.length))<|some ⟨[.agg [(0:Int),Af 0,.sc (.string (ByteArray.mk #[]))],(8:Int)],[[.own 3 e (g.take (e*3)),h,Ap 1 i j,k]]⟩) (As (decide (e*3<=g.length))<|Bk (call 123 [.pbox [.own 3 e (g.take (e*3)),h],.agg [a,Af c,.sc (.string (ByteArray.mk #[]))]]) fun b e=>Dk .i64 b fun b=>Av e fun e f=>Tz 3 e fun e g h=>Dk .i64 h fun h=>Aq f<|A3 (b != 0) (As (decide (e*3<=g.length))<|some ⟨[.agg [(0:Int),Af 0,.sc (.string (ByteArray.mk #[]))],b],[[.own 3 e (g.take (e*3)),h,Ap 1 i j,k]]⟩) (As (decide (e*3<=g.length))<|some ⟨[.agg [a,Af c,.sc (.string (ByteArray.mk #[]))],(0:Int)],[[.own 3 e (g.take (e*3)),h,Ap 1 i j,k]]⟩))) (A3 (a==6) (A3 (decide (c>512)) (As (decide (e*3<=g.length))<|some ⟨[.agg [(0:Int),Af 0,.sc (.string (ByteArray.mk #[]))],(8:Int)],[[.own 3 e (g.take (e*3)),h,Ap 1 i j,k]]⟩) (As (decide (e*3<=g.length))<|Bk (call 123 [.pbox [.own 3 e (g.take (e*3)),h],.agg [a,Af c,.sc (.string (ByteArray.mk #[]))]]) fun b e=>Dk .i64 b fun b=>Av e fun e f=>Tz 3 e fun e g h=>Dk .i64 h fun h=>Aq f<|A3 (b != 0) (As (decide (e*3<=g.length))<|some ⟨[.agg [(0:Int),Af 0,.sc (.string (ByteArray.mk #[]))],b],[[.own 3 e (g.take (e*3)),h,Ap 1 i j,k]]⟩) (As (decide (e*3<=g.length))<|some ⟨[.agg [a,Af c,.sc (.string (ByteArray.mk #[]))],(0:Int)],[[.own 3 e (g.take (e*3)),h,Ap 1 i j,k]]⟩))) (A3 (a==3) (A3 (decide (c>1024)) (As (decide (e*3<=g.length))<|some ⟨[.agg [(0:Int),Af 0,.sc (.string (ByteArray.mk #[]))],(8:Int)],[[.own 3 e (g.take (e*3)),h,Ap 1 i j,k]]⟩) (Aa (wrap .i64 ((↑i:Int)-k)) fun b=>Aa (wrap .i64 c) fun f=>A3 (decide (b<f)) (As (decide (e*3<=g.length))<|some ⟨[.agg [(0:Int),Af 0,.sc (.string (ByteArray.mk #[]))],(1:Int)],[[.own 3 e (g.take (e*3)),h,Ap 1 i j,k]]⟩) (Aa (wrap .i64 c) fun b=>Aa (wrap .i64 (k+b)) fun b=>As (decide (0<=k))<|As (decide (0<=b))<|As (decide (k.toNat<=b.toNat)&&decide (b.toNat<=i))<|Aa (b.toNat-k.toNat) fun b=>Aa (List.take (b*1) (j.drop (k.toNat*1))) fun f=>As (decide (f.length=b))<|F3 (bytesOf f) fun b=>Aa (wrap .i64 c) fun c=>Aa (wrap .i64 (k+c)) fun c=>As (decide (e*3<=g.length))<|Bk (call 123 [.pbox [.own 3 e (g.take (e*3)),h],.agg [a,Af 0,.sc (.string (ByteArray.mk (List.toArray b)))]]) fun e f=>Dk .i64 e fun e=>Av f fun f g=>Tz 3 f fun f h k=>Dk .i64 k fun k=>Aq g<|A3 (e != 0) (As (decide (f*3<=h.length))<|some ⟨[.agg [(0:Int),Af 0,.sc (.string (ByteArray.mk #[]))],e],[[.own 3 f (h.take (f*3)),k,Ap 1 i j,c]]⟩) (As (decide (f*3<=h.length))<|some ⟨[.agg [a,Af 0,.sc (.string (ByteArray.mk (List.toArray b)))],(0:Int)],[[.own 3 f (h.take (f*3)),k,Ap 1 i j,c]]⟩)))) (A3 (a==4) (A3 (decide (c>1024)) (As (decide (e*3<=g.length))<|some ⟨[.agg [(0:Int),Af 0,.sc (.string (ByteArray.mk #[]))],(8:Int)],[[.own 3 e (g.take (e*3)),h,Ap 1 i j,k]]⟩) (Aa (wrap .i64 ((↑i:Int)-k)) fun b=>Aa (wrap .i64 c) fun f=>A3 (decide (b<f)) (As (decide (e*3<=g.length))<|some ⟨[.agg [(0:Int),Af 0,.sc (.string (ByteArray.mk #[]))],(1:Int)],[[.own 3 e (g.take (e*3)),h,Ap 1 i j,k]]⟩) (Aa (wrap .i64 c) fun b=>Aa (wrap .i64 (k+b)) fun b=>As (decide (0<=k))<|As (decide (0<=b))<|As (decide (k.toNat<=b.toNat)&&decide (b.toNat<=i))<|Aa (b.toNat-k.toNat) fun b=>Aa (List.take (b*1) (j.drop (k.toNat*1))) fun f=>As (decide (f.length=b))<|F3 (bytesOf f) fun b=>Aa (wrap .i64 c) fun c=>Aa (wrap .i64 (k+c)) fun c=>As (decide (e*3<=g.length))<|Bk (call 123 [.pbox [.own 3 e (g.take (e*3)),h],.agg [a,Af 0,.sc (.string (ByteArray.mk (List.toArray b)))]]) fun e f=>Dk .i64 e fun e=>Av f fun f g=>Tz 3 f fun f h k=>Dk .i64 k fun k=>Aq g<|A3 (e != 0) (As (decide (f*3<=h.length))<|some ⟨[.agg [(0:Int),Af 0,.sc (.string (ByteArray.mk #[]))],e],[[.own 3 f (h.take (f*3)),k,Ap 1 i j,c]]⟩) (As (decide (f*3<=h.length))<|some ⟨[.agg [a,Af 0,.sc (.string (ByteArray.mk (List.toArray b)))],(0:Int)],[[.own 3 f (h.take (f*3)),k,Ap 1 i j,c]]⟩)))) (As (decide (e*3<=g.length))<|Bk (call 123 [.pbox [.own 3 e (g.take (e*3)),h],.agg [a,Af c,.sc (.string (ByteArray.mk #[]))]]) fun b e=>Dk .i64 b fun b=>Av e fun e f=>Tz 3 e fun e g h=>Dk .i64 h fun h=>Aq f<|A3 (b != 0) (As (decide (e*3<=g.length))<|some ⟨[.agg [(0:Int),Af 0,.sc (.string (ByteArray.mk #[]))],b],[[.own 3 e (g.take (e*3)),h,Ap 1 i j,k]]⟩) (As (decide (e*3<=g.length))<|some ⟨[.agg [a,Af c,.sc (.string (ByteArray.mk #[]))],(0:Int)],[[.own 3 e (g.take (e*3)),h,Ap 1 i j,k]]⟩))))))):=by show _=_;kernel_rfl
def Oy(Z:Nat)(Y:Ab)(X W:Nat)(V:Ab)(U:Nat)(T:Int)(S:Nat)(Q:Ab)(P:Int)(O:Ab):Option D0:=Mg fu call 47 Tryz.f47 [Ap 1 Z Y] [.r,.r,.l,.l] X ⟨lk [(2,.view 2 3 0 W),(5,.ptr 5 0)],B0 [(2,.ar false V),(5,.st [.view 32 3 0 U,T,Ap 1 S Q,P]),(32,.ar false O)]⟩
theorem NB(U:Nat)(T:Ab)(S Z:Nat)(Y:Ab)(X:Nat)(Q:Int)(P:Nat)(O:Ab)(W:Int)(V:Ab):Oy fu call U T (S+1) Z Y X Q P O W V=(As (decide (X*3<=V.length))<|Bk (call 87 [.pbox [.own 3 X (V.take (X*3)),Q]]) fun a b=>V1 a fun a=>Av b fun b c=>Tz 3 b fun b e f=>Dk .i64 f fun f=>Aq c<|A3 (!a) (As (decide (b*3<=e.length))<|Bk (call 88 [.pbox [.own 3 b (e.take (b*3)),f,Ap 1 P O,W]]) fun a b=>Av a fun a c=>Dr a fun a=>C2 .i64 a fun a e=>C2 .u64 e fun e f=>Av f fun f g=>D8 f fun f=>Aq g<|Dk .i64 c fun c=>Av b fun b g=>Tz 3 b fun b h i=>C2 .i64 i fun i j=>Hw 1 j fun j k m=>Dk .i64 m fun m=>Aq g<|A3 (c != 0) (Bv [.own 3 0 [],(0:Int),c]) (Og Z 3 32 Y [a,Af e,.sc (.string f)] fun a c=>Oy fu call U T S a c b i j k m h)) (As (decide (Z*3<=Y.length))<|Bv [.own 3 Z (Y.take (Z*3)),W,(0:Int)])):=by kernel_rfl
theorem XO(Z:Nat)(Y:Ab):Fn C0 fu d 47 [Ap 1 Z Y] fun call=>Oy fu call Z Y fu 0 ([]) 0 0 Z Y 0 ([]):=by show _=_;kernel_rfl
end
structure Hd where
 k:Int
 n:Int
 e:Int
 at_:Nat
def Pd(n:Int):Int:=if n<24 then 0 else if n<256 then 1 else if n<65536 then 2 else if n<4294967296 then 4 else 8
def szE(low:Int):Nat:=if low=24 then 1 else if low=25 then 2 else if low=26 then 4 else 8
def Y4(b:Ca)(at_:Nat)(x:Int):Hd:=
 if x=244 then ⟨7,0,0,at_+1⟩ else if x=245 then ⟨7,1,0,at_+1⟩ else if x=246 then ⟨8,0,0,at_+1⟩
 else if x / 32>5 then ⟨0,0,2,at_+1⟩ else if x % 32>27 then ⟨0,0,2,at_+1⟩
 else if x % 32<24 then ⟨1+x / 32,x % 32,0,at_+1⟩
 else if b.length-(at_+1)<szE (x % 32) then ⟨0,0,1,at_+1⟩
 else if Pd (FO ((b.drop (at_+1)).take (szE (x % 32))))<szE (x % 32) then ⟨0,0,2,at_+1+szE (x % 32)⟩
 else ⟨1+x / 32,FO ((b.drop (at_+1)).take (szE (x % 32))),0,at_+1+szE (x % 32)⟩
def Bg(b:Ca)(at_:Nat):Hd:=match b[at_]? with|none=>⟨0,0,1,at_⟩|some x=>Y4 b at_ x
theorem A6r{x:Int}(h:0<=x):F2 .u8 x 5=x / 32:=by
 unfold F2;show x.fdiv (2 ^ (min (5:Int).toNat IntKind.u8.bits))=_;have h2:(2:Int) ^ (min (5:Int).toNat IntKind.u8.bits)=32:=by decide
 rw[h2,Int.fdiv_eq_ediv_of_nonneg _ (by omega)]
theorem Az6{x:Int}(h0:0<=x)(h1:x<=255):Qg .u8 x 31=x % 32:=by
 obtain⟨n,rfl⟩:=Int.eq_ofNat_of_zero_le h0;have hn:n<256:=by omega
 have e1:(BitVec.ofInt 8 (n:Int)).toNat=n:=by
  rw[BitVec.toNat_ofInt];omega
 have e2:(BitVec.ofInt 8 (31:Int)).toNat=2 ^ 5-1:=by decide
 unfold Qg;show wrap .u8 ((BitVec.ofInt 8 (n:Int) &&& BitVec.ofInt 8 (31:Int)).toNat:Int)=_;rw[BitVec.toNat_and,e1,e2,Nat.and_two_pow_sub_one_eq_mod,Ia (by omega) (by omega)];omega
abbrev Ans(l:List Il)(cnt:Int)(b:Ca)(at_:Nat):Ab:=[.own 3 l.length (G5 l),At cnt,.lst false 1 b.length (Ac .u8 b),At at_]
section
variable {fu d:Nat}
theorem Aut(n:Int):Ar C0 prog fu (d+1) 141 [Af n]=some ⟨[At (Pd n)],[]⟩:=by
 rw[Aco];unfold Pd
 try unfold Aa Og
 repeat' first
  |((with_reducible first|apply Aj|apply Ad|apply Ah|apply Ae);· first|with_reducible rfl|(simp (disch:=first|with_reducible assumption|omega) only[Bq,A5]<;>with_reducible rfl))
  |((with_reducible first|apply Ai|apply Aje);· first|with_reducible rfl|with_reducible assumption|omega|(simp (disch:=first|with_reducible assumption|omega) only[gT,Bq,A5]<;>omega))
  |(with_reducible apply Aiq;· first|with_reducible rfl|with_reducible assumption|(simp (disch:=first|with_reducible assumption|omega) only[gF,Bq,A5]<;>omega))
  |(with_reducible refine Au9 ?_ ?_<;>intro hb<;>try simp only[MR,SP,beq_iff_eq,beq_eq_false_iff_ne,bne_iff_ne,bne_eq_false_iff_eq,ne_eq,Bool.not_eq_true',Bool.not_eq_false',Bool.not_eq_true,Bool.not_eq_false] at hb)
  |(with_reducible refine Ab4 ?_ ?_)
 all_goals try simp (disch:=first|with_reducible assumption|omega) only[Bq,A5]
theorem TG{P4 a2n:Nat}{a0 a2:Ab}{a1 a3 k cnt:Int}{l:List Il}{b:Ca}{off sz:Nat}{q:Ca}(hq:q.length=sz)(hb:b.length<=1000000)(ho:off+sz<=b.length):∀(r:Ca)(i nn:Nat)(v:Int),q.drop i=r->r.length<nn->i<=sz ->
    I9 fu (Ar C0 prog fu (d+1)) P4 a0 a1 a2n a2 a3 nn k v (sz:Int) sz (Ac .u8 q) (sz:Int) (i:Int) l.length cnt b.length (Ac .u8 b) (off:Int) (G5 l) =
      (if Pd (r.foldl Gc v)<sz then some ⟨[At 0,Af 0,At 2],[Ans l cnt b (off+sz)]⟩
       else some ⟨[At k,Af (r.foldl Gc v),At 0],[Ans l cnt b (off+sz)]⟩)
  |_,_,0,_,_,h,_=>by omega
  |[],i,nn+1,v,hd,hn,hi=>by
    have:=drop_nil hd
    have sh:=Aut (fu:=fu) (d:=d) v
    have L:=Ee l
    have t:=Ey l
    have w:wrap .i64 ((off:Int)+(sz:Int))=((off+sz:Nat):Int):=by rw[Ag (by omega) (by omega)];omega
    rw[P5,Ef _ _ _ (by omega),List.foldl_nil]
    by_cases hs:Pd v<sz
    · rw[Bq hs]
      simp(disch:=omega)only[B4,B3,w,sh,L,t,Df]
    · rw[A5 hs]
      simp(disch:=omega)only[B4,B3,w,sh,L,t,Df]
  |x::r,i,nn+1,v,hd,hn,hi=>by
    obtain⟨h1,h2,h3⟩:=Dc hd
    simp only[G7] at hn
    have g0:=Vg (k:=.u8) h2
    have w:wrap .i64 ((i:Int)+1)=((i+1:Nat):Int):=by rw[Ag (by omega) (by omega)];omega
    have ih:=TG (P4:=P4) (a2n:=a2n) (a0:=a0) (a2:=a2) (a1:=a1) (a3:=a3) (k:=k) (cnt:=cnt) (l:=l) hq hb ho r (i+1) nn (Gc v x) h3 (by omega) (by omega)
    rw[List.foldl_cons,<-ih,P5]
    simp(disch:=omega)only[B4,B3,H0,Df,g0,w]
theorem Aqu{l:List Il}{cnt:Int}{b:Ca}{at_:Nat}(Bn:1000<=fu)(hb:Ii b)(hl:b.length<=1000000):
  Ar C0 prog fu (d+2) 121 [.pbox (Ans l cnt b at_)]=some ⟨[At (Bg b at_).k,Af (Bg b at_).n,At (Bg b at_).e],[Ans l cnt b (Bg b at_).at_]⟩:=by
 refine (HU fu (d+1) l.length (G5 l) cnt b.length (Ac .u8 b) (at_:Int)).trans ?_;have L:=Ee l;have t:=Ey l;have Lb:=Am .u8 b;have tb:=Mb .u8 b;unfold Bg;by_cases Cq:at_<b.length
 rotate_left
 ·have hg:b[at_]?=none:=List.getElem?_eq_none (by omega);rw[hg];simp(disch:=omega)only[B4,B3,L,t,Lb,tb,Df]
 have hg:b[at_]?=some b[at_]:=List.getElem?_eq_getElem Cq;have hB:=hb _ (List.getElem_mem Cq);rw[hg];generalize b[at_]=x at hg hB;have g0:=Vg (k:=.u8) hg;have w1:wrap .i64 ((at_:Int)+1)=((at_+1:Nat):Int):=by rw[Ag (by omega) (by omega)];omega
 have s5:=A6r hB.1;have a31:=Az6 hB.1 hB.2;unfold Y4;simp only;by_cases c1:x=244
 ·subst c1;have q:wrap .u64 (wrap .u8 ((244:Int)-244))=0:=by decide
  simp(disch:=omega)only[B4,B3,H0,Cm,Df,g0,Int.reduceBEq,w1,L,t,Lb,tb,q]
 rw[A5 c1];have b1:(x==(244:Int))=false:=by simp[c1]
 by_cases c2:x=245
 ·subst c2;have q:wrap .u64 (wrap .u8 ((245:Int)-244))=1:=by decide
  simp(disch:=omega)only[B4,B3,H0,Cm,Df,g0,Int.reduceBEq,w1,L,t,Lb,tb,q,if_true]
 rw[A5 c2];have b2:(x==(245:Int))=false:=by simp[c2]
 by_cases c3:x=246
 ·subst c3;simp(disch:=omega)only[B4,B3,H0,Cm,Df,g0,Int.reduceBEq,w1,L,t,Lb,tb,if_true]
 rw[A5 c3];have b3:(x==(246:Int))=false:=by simp[c3]
 by_cases c4:x / 32>5
 ·rw[Bq c4];simp(disch:=omega)only[B4,B3,H0,Cm,Df,g0,b1,b2,b3,s5,a31,w1,L,t,Lb,tb]
 rw[A5 c4];by_cases c5:x % 32>27
 ·rw[Bq c5];simp(disch:=omega)only[B4,B3,H0,Cm,Df,g0,b1,b2,b3,s5,a31,w1,L,t,Lb,tb]
 rw[A5 c5];have wk1:wrap .i64 (x / 32)=x / 32:=Ag (by omega) (by omega);have wk2:wrap .i64 (1+x / 32)=1+x / 32:=Ag (by omega) (by omega);by_cases c6:x % 32<24
 ·have wn:wrap .u64 (x % 32)=x % 32:=Cd (by omega) (by omega);rw[Bq c6];simp(disch:=omega)only[B4,B3,H0,Cm,Df,g0,b1,b2,b3,s5,a31,w1,wk1,wk2,wn,L,t,Lb,tb]
 rw[A5 c6];have q1:wrap .u8 (x % 32-24)=x % 32-24:=Ia (by omega) (by omega)
 have q2:Hm .i64 1 (x % 32-24)=(szE (x % 32):Int):=by
  have:x % 32=24\/x % 32=25\/x % 32=26\/x % 32=27:=by omega
  rcases this with h|h|h|h<;>rw[h]<;>decide
 have q3:szE (x % 32)<=8:=by
  unfold szE
  repeat' split
  all_goals omega
 generalize szE (x % 32)=sz at q2 q3 ⊢;have q4:wrap .i64 ((b.length:Int)-((at_+1:Nat):Int))=((b.length-(at_+1):Nat):Int):=by rw[Ag (by omega) (by omega)];omega
 by_cases c7:b.length-(at_+1)<sz
 ·rw[Bq c7];simp(disch:=omega)only[B4,B3,H0,Cm,Df,g0,b1,b2,b3,s5,a31,w1,wk1,wk2,q1,q2,q4,L,t,Lb,tb]
 rw[A5 c7];have q5:wrap .i64 (((at_+1:Nat):Int)+(sz:Int))=((at_+1+sz:Nat):Int):=by rw[Ag (by omega) (by omega)];omega
 have q6:at_+1+sz-(at_+1)=sz:=by omega
 have lp:=TG (fu:=fu) (d:=d) (P4:=l.length) (a2n:=b.length) (a0:=G5 l) (a2:=Ac .u8 b) (a1:=cnt) (a3:=(at_:Int)) (k:=1+x / 32) (cnt:=cnt) (l:=l) (b:=b) (off:=at_+1) (sz:=sz) (q:=(b.drop (at_+1)).take sz) (by rw[List.length_take,List.length_drop];omega) hl (by omega) _ 0 fu 0 rfl (by rw[Es,List.length_take];omega) (by omega)
 rw[Es] at lp;have lp':=lp;unfold FO;by_cases c8:Pd (((b.drop (at_+1)).take sz).foldl Gc 0)<sz
 ·rw[Bq c8] at lp' ⊢;simp(disch:=omega)only[B4,B3,H0,Cm,Df,g0,b1,b2,b3,s5,a31,w1,wk1,wk2,q1,q2,q4,q5,q6,Ha,Hx,L,t,Lb,tb];exact lp'
 ·rw[A5 c8] at lp' ⊢;simp(disch:=omega)only[B4,B3,H0,Cm,Df,g0,b1,b2,b3,s5,a31,w1,wk1,wk2,q1,q2,q4,q5,q6,Ha,Hx,L,t,Lb,tb];exact lp'
end
structure Rd where
 x:It
 e:Int
 l:List Il
 cnt:Int
 at_:Nat
def it0:It:=⟨0,0,⟨#[]⟩⟩
def BJ(l:List Il)(cnt:Int)(x:It)(at_:Nat):Rd:=if (Ft l x).1=0 then ⟨x,0,(Ft l x).2,cnt+1,at_⟩ else ⟨it0,(Ft l x).1,(Ft l x).2,cnt,at_⟩
def Ada(l:List Il)(cnt:Int)(b:Ca)(h:Hd):Rd:=
 if h.e≠0 then ⟨it0,h.e,l,cnt,h.at_⟩
 else if O8 l cnt h.k≠0 then ⟨it0,O8 l cnt h.k,l,cnt,h.at_⟩
 else if h.k=5\/h.k=6 then (if h.n>512 then ⟨it0,8,l,cnt,h.at_⟩ else BJ l cnt ⟨h.k,h.n,⟨#[]⟩⟩ h.at_)
 else if h.k=3\/h.k=4 then (if h.n>1024 then ⟨it0,8,l,cnt,h.at_⟩ else if b.length-h.at_<h.n.toNat then ⟨it0,1,l,cnt,h.at_⟩
  else BJ l cnt ⟨h.k,0,Bj ((b.drop h.at_).take h.n.toNat)⟩ (h.at_+h.n.toNat))
 else BJ l cnt ⟨h.k,h.n,⟨#[]⟩⟩ h.at_
def Hs(l:List Il)(cnt:Int)(b:Ca)(at_:Nat):Rd:=Ada l cnt b (Bg b at_)
theorem OZ(a b:Int):0<=Gc a b/\Gc a b<=18446744073709551615:=Ls _
theorem CA:∀(l:Ca)(v:Int),0<=v->v<=18446744073709551615->0<=l.foldl Gc v/\l.foldl Gc v<=18446744073709551615
 |[],v,h0,h1=>⟨h0,h1⟩
 |x::l,v,h0,h1=>CA l _ (OZ v x).1 (OZ v x).2
theorem Tu{b:Ca}{at_:Nat}(hb:Ii b)(ha:at_<=b.length):(Bg b at_).at_<=b.length/\((Bg b at_).e=0->1<=(Bg b at_).k/\(Bg b at_).k<=8/\0<=(Bg b at_).n/\(Bg b at_).n<=18446744073709551615/\at_<(Bg b at_).at_):=by
 unfold Bg;by_cases Cq:at_<b.length
 rotate_left
 ·have hg:b[at_]?=none:=List.getElem?_eq_none (by omega);rw[hg];exact⟨ha,fun h=>by simp at h⟩
 have hg:b[at_]?=some b[at_]:=List.getElem?_eq_getElem Cq;have hB:=hb _ (List.getElem_mem Cq);rw[hg];generalize b[at_]=x at hB;have hd:=CA ((b.drop (at_+1)).take (szE (x % 32))) 0 (by omega) (by omega);show (Y4 b at_ x).at_<=b.length/\_;simp only[Y4];unfold FO
 repeat' split
 all_goals refine⟨by simp only;omega,fun h=>?_⟩
 all_goals first
  |(simp at h;done)
  |(simp only;omega)
section
variable {fu d:Nat}
theorem Ar9{l:List Il}{cnt:Int}{b:Ca}{at_:Nat}(Bn:1000<=fu)(hb:Ii b)(hl:b.length<=1000000)(ha:at_<=b.length)(hf:l.length<=900)(h0:0<=cnt)(h1:cnt<=1000000):
  Ar C0 prog fu (d+4) 88 [.pbox (Ans l cnt b at_)]=some ⟨[.agg (Hs l cnt b at_).x.cells,At (Hs l cnt b at_).e],[Ans (Hs l cnt b at_).l (Hs l cnt b at_).cnt b (Hs l cnt b at_).at_]⟩:=by
 refine (GZ fu (d+3) l.length (G5 l) cnt b.length (Ac .u8 b) (at_:Int)).trans ?_;have hd:=Aqu (fu:=fu) (d:=d+1) (l:=l) (cnt:=cnt) (at_:=at_) Bn hb hl;have hk:=Tu hb ha;unfold Hs;generalize Bg b at_=h at hd hk ⊢;obtain⟨k,n,e,a⟩:=h;obtain⟨ka,hk⟩:=hk;simp only at hd ka hk;have L:=Ee l;have t:=Ey l;have ad:=Ahn (fu:=fu) (d:=d+1) (l:=l) (by omega) cnt k;unfold Ps at ad;unfold Ada;by_cases he:e=0
 rotate_left
 ·simp only[ne_eq,he,Aem,if_true];have Y6:(e != 0)=true:=by simp[he]
  repeat(with_reducible(first|apply Aj|apply Ad|apply Ah|apply Bb|apply Ba|apply Gm|apply Ae|apply Ai|apply Ct);· first|constructor|(simp(disch:=omega)only[Cu,hd,Y6,L,t]<;>first|constructor|omega)|omega)
  try simp(disch:=omega)only[Aa,hd,Y6,L,t]
  all_goals rfl
 subst he;obtain⟨k1,k8,n0,n1,_⟩:=hk rfl;obtain⟨m,rfl⟩:=Int.eq_ofNat_of_zero_le n0;have e00:((0:Int) != 0)=false:=rfl;simp only[ne_eq,not_true_eq_false,if_false];by_cases hm:O8 l cnt k=0
 rotate_left
 ·simp only[hm,Aem,if_true];have Y6:(O8 l cnt k != 0)=true:=by simp[hm]
  repeat(with_reducible(first|apply Aj|apply Ad|apply Ah|apply Bb|apply Ba|apply Gm|apply Ae|apply Ai|apply Ct);· first|constructor|(simp(disch:=omega)only[Cu,hd,e00,ad,Y6,L,t]<;>first|constructor|omega)|omega)
  try simp(disch:=omega)only[Aa,hd,e00,ad,Y6,L,t]
  all_goals rfl
 rw[hm] at ad ⊢;simp only[not_true_eq_false,if_false,H0];have ac1:=Aba (fu:=fu) (d:=d) (l:=l) (x:=⟨k,m,⟨#[]⟩⟩) (cnt:=cnt) Bn (by omega) h0 h1 ⟨k1,k8,n0,Nat.zero_le _⟩ (Nat.zero_le _);have LA:=Ee (Ft l ⟨k,m,⟨#[]⟩⟩).2;have tA:=Ey (Ft l ⟨k,m,⟨#[]⟩⟩).2;have B:=fun (hn:m<=1024)=>Aba (fu:=fu) (d:=d) (l:=l) (x:=⟨k,0,Bj ((b.drop a).take m)⟩) (cnt:=cnt) Bn (by omega) h0 h1 ⟨k1,k8,by simp,by rw[Hp,List.length_take];omega⟩ (by rw[Hp,List.length_take];omega)
 have LB:=Ee (Ft l ⟨k,0,Bj ((b.drop a).take m)⟩).2;have tB:=Ey (Ft l ⟨k,0,Bj ((b.drop a).take m)⟩).2;unfold BJ;generalize Ft l ⟨k,m,⟨#[]⟩⟩=A at *
 obtain⟨A1,A2⟩:=A;have eB:ByteArray.mk (List.toArray (((b.drop a).take m).map fun n=>n.toNat.toUInt8))=Bj ((b.drop a).take m):=rfl;have bo:=G2 ((b.drop a).take m);have tk:List.take m (List.drop a (Ac .u8 b))=Ac .u8 ((b.drop a).take m):=by rw[Ha,Hx]
 have lq:(Ac .u8 ((b.drop a).take m)).length=min m (b.length-a):=by rw[Am,List.length_take,List.length_drop]
 have Lb:=Am .u8 b;generalize Bj ((b.drop a).take m)=S at *
 generalize Ft l ⟨k,0,S⟩=B' at *
 obtain⟨B1,B2⟩:=B';generalize (b.drop a).take m=q at *
 unfold Ps It.cells at ac1 B;simp only at ac1 B LA tA LB tB;have w1:wrap .i64 ((b.length:Int)-(a:Int))=((b.length-a:Nat):Int):=by rw[Ag (by omega) (by omega)];omega
 have w2:m<=1024->wrap .i64 (m:Int)=m:=fun h=>Ag (by omega) (by omega);have w3:m<=1024->wrap .i64 ((a:Int)+(m:Int))=((a+m:Nat):Int):=fun h=>by rw[Ag (by omega) (by omega)];omega
 have w4:a+m-a=m:=by omega
 try unfold Aa Og
 repeat' first
  |((with_reducible first|apply Aj|apply Ad|apply Ah|apply Bb|apply Ba|apply Gm|apply Ae);· first|with_reducible rfl|(simp (disch:=first|with_reducible assumption|omega) only[hd,e00,ad,L,t,ac1,LA,tA,B,LB,tB,w1,w2,w3,w4,tk,bo,lq,eB,H0,Df,Cm]<;>with_reducible rfl))
  |((with_reducible first|apply Ai|apply Aje);· first|with_reducible rfl|with_reducible assumption|omega|(simp (disch:=first|with_reducible assumption|omega) only[gT,hd,e00,ad,L,t,ac1,LA,tA,B,LB,tB,w1,w2,w3,w4,tk,bo,lq,eB,H0,Df,Cm]<;>omega))
  |(with_reducible apply Aiq;· first|with_reducible rfl|with_reducible assumption|(simp (disch:=first|with_reducible assumption|omega) only[gF,hd,e00,ad,L,t,ac1,LA,tA,B,LB,tB,w1,w2,w3,w4,tk,bo,lq,eB,H0,Df,Cm]<;>omega))
  |(with_reducible refine Au9 ?_ ?_<;>intro hb<;>try simp only[MR,SP,beq_iff_eq,beq_eq_false_iff_ne,bne_iff_ne,bne_eq_false_iff_eq,ne_eq,Bool.not_eq_true',Bool.not_eq_false',Bool.not_eq_true,Bool.not_eq_false] at hb)
  |(with_reducible refine Ab4 ?_ ?_)
 all_goals try simp (disch:=first|with_reducible assumption|omega) only[hd,e00,ad,L,t,ac1,LA,tA,B,LB,tB,w1,w2,w3,w4,tk,bo,lq,eB,H0,Df,Cm,Bq,A5]
 all_goals rfl
end
def TF(l:List Il)(cnt:Int):Bool:=decide (cnt>0)&&((l.length:Int)==0)
def K0:Nat->List Il->Int->Ca->Nat->List It->List It × Nat × Int
 |0,_,_,_,_,_=>([],0,2)
 |m+1,l,cnt,b,at_,its=>if TF l cnt=true then (its,at_,0) else
  if (Hs l cnt b at_).e≠0 then ([],0,(Hs l cnt b at_).e) else K0 m (Hs l cnt b at_).l (Hs l cnt b at_).cnt b (Hs l cnt b at_).at_ (its++[(Hs l cnt b at_).x])
def HZ(r:List It × Nat × Int):Ab:=[.own 3 r.1.length (Ay r.1),At r.2.1,At r.2.2]
theorem Aq3(l:List Il):(LP l).length<=l.length:=by unfold LP;rw[List.length_reverse];have:=(List.dropWhile_sublist (l:=l.reverse) fun f=>f.left==0).length_le;rw[List.length_reverse] at this;exact this
theorem Aaf(l:List Il)(x:It):(H1 l x).length<=l.length+1:=by
 unfold H1;refine Nat.le_trans (Aq3 _) ?_;have:=IP l;unfold VE
 repeat' split
 all_goals simp
 all_goals omega
theorem Aj9(l:List Il)(k:Ca):(Nr l k).length=l.length:=by
 rcases Lx l with rfl|⟨l',f,rfl⟩
 ·rfl
 ·rw[Rg];simp
theorem Ahy(l:List Il)(x:It):(Ft l x).2.length<=l.length+1:=by
 unfold Ft;have h1:=Aaf l x;have h2:=Aaf (Nr l (B8 x)) x;rw[Aj9] at h2
 repeat' split
 all_goals simp only
 all_goals omega
structure OkX(x:It):Prop where
 k1:1<=x.k
 k8:x.k<=8
 n0:0<=x.n
 n1:x.n<=18446744073709551615
 s1:x.s.size<=1024
theorem Asz{l:List Il}{cnt k:Int}(h:O8 l cnt k=0):cnt<512/\l.length<=8:=by
 unfold O8 at h
 repeat' split at h
 all_goals first
  |(cases h;done)
  |omega
theorem UC{l:List Il}{cnt:Int}{x:It}{at_:Nat}(hx:OkX x)(h:(BJ l cnt x at_).e=0):(BJ l cnt x at_).cnt=cnt+1/\(BJ l cnt x at_).l.length<=l.length+1/\(BJ l cnt x at_).at_=at_/\OkX (BJ l cnt x at_).x:=by
 have:=Ahy l x;unfold BJ at h ⊢;by_cases hz:(Ft l x).1=0
 ·rw[Bq hz];exact⟨rfl,this,rfl,hx⟩
 ·rw[A5 hz] at h;exact absurd h hz
theorem ND{l:List Il}{cnt:Int}{b:Ca}{at_:Nat}(hb:Ii b)(ha:at_<=b.length)(h:(Hs l cnt b at_).e=0):
  cnt<512/\(Hs l cnt b at_).cnt=cnt+1/\(Hs l cnt b at_).l.length<=9/\at_<(Hs l cnt b at_).at_/\(Hs l cnt b at_).at_<=b.length/\OkX (Hs l cnt b at_).x:=by
 have hk:=Tu hb ha;unfold Hs at h ⊢;generalize Bg b at_=q at h hk ⊢;obtain⟨k,n,e,a⟩:=q;obtain⟨ka,hk⟩:=hk;unfold Ada at h ⊢;simp only at h hk ka ⊢;by_cases he:e=0
 rotate_left
 ·rw[Bq he] at h;exact absurd h he
 subst he;obtain⟨k1,k8,n0,n1,Cq⟩:=hk rfl;rw[A5 (by simp)] at h ⊢;by_cases hm:O8 l cnt k=0
 rotate_left
 ·rw[Bq hm] at h;exact absurd h hm
 obtain⟨c1,c2⟩:=Asz hm;rw[A5 (by simp[hm])] at h ⊢;have z:(ByteArray.mk #[]).size<=1024:=Nat.zero_le _;by_cases h56:k=5\/k=6
 ·rw[Bq h56] at h ⊢;by_cases hn:n>512
  ·rw[Bq hn] at h;exact absurd h (by simp)
  ·rw[A5 hn] at h ⊢;obtain⟨p1,p2,p3,p4⟩:=UC ⟨k1,k8,n0,n1,z⟩ h;exact⟨c1,p1,by omega,by omega,by omega,p4⟩
 ·rw[A5 h56] at h ⊢;by_cases h34:k=3\/k=4
  ·rw[Bq h34] at h ⊢;by_cases hn:n>1024
   ·rw[Bq hn] at h;exact absurd h (by simp)
   ·rw[A5 hn] at h ⊢;by_cases hr:b.length-a<n.toNat
    ·rw[Bq hr] at h;exact absurd h (by simp)
    ·rw[A5 hr] at h ⊢;obtain⟨p1,p2,p3,p4⟩:=UC ⟨k1,k8,by simp,by simp,by rw[Hp,List.length_take];omega⟩ h
     exact⟨c1,p1,by omega,by omega,by omega,p4⟩
  ·rw[A5 h34] at h ⊢;obtain⟨p1,p2,p3,p4⟩:=UC ⟨k1,k8,n0,n1,z⟩ h;exact⟨c1,p1,by omega,by omega,by omega,p4⟩
theorem Ae6{b:Ca}(hb:Ii b):∀(m:Nat)(l:List Il)(cnt:Int)(at_:Nat)(its:List It),at_<=b.length->(∀x∈its,OkX x)->(K0 m l cnt b at_ its).2.1<=b.length/\∀x∈(K0 m l cnt b at_ its).1,OkX x
 |0,l,cnt,at_,its,h,hi=>⟨by simp[K0],by intro x hx;simp[K0] at hx⟩
 |m+1,l,cnt,at_,its,h,hi=>by
  unfold K0;by_cases hd:TF l cnt=true
  ·rw[Bq hd];exact⟨h,hi⟩
  ·rw[A5 hd];by_cases he:(Hs l cnt b at_).e=0
   ·rw[A5 (by simp[he])];obtain⟨_,_,_,_,p,q⟩:=ND hb h he;refine Ae6 hb m _ _ _ _ p ?_;intro x hx;rcases Bz.1 hx with hx|hx
    ·exact hi x hx
    ·simp at hx;subst hx;exact q
   ·rw[Bq he];exact⟨by simp,by intro x hx;simp at hx⟩
section
variable {fu d:Nat}
theorem Ahj(Bn:1000<=fu){P4:Nat}{a0:Ab}{b:Ca}(hb:Ii b)(hl:b.length<=1000000):∀(nn:Nat)(l:List Il)(cnt:Int)(at_:Nat)(its:List It),0<=cnt->cnt<=512->512-cnt<nn->l.length<=9->at_<=b.length->its.length=cnt.toNat ->
  Oy fu (Ar C0 prog fu (d+4)) P4 a0 nn its.length (Ay its) l.length cnt b.length (Ac .u8 b) (at_:Int) (G5 l)=some ⟨HZ (K0 nn l cnt b at_ its),[]⟩
 |0,_,_,_,_,_,_,h,_,_,_=>by omega
 |nn+1,l,cnt,at_,its,h0,h1,hn,hf,ha,hi=>by
  have dn:=Acj (fu:=fu) (d:=d+3) l cnt;have ri:=Ar9 (fu:=fu) (d:=d) (l:=l) (cnt:=cnt) (b:=b) (at_:=at_) Bn hb hl ha (by omega) h0 (by omega);have ok:=ND (l:=l) (cnt:=cnt) hb ha;have L:=Ee l;have t:=Ey l;have LT:=Cw its;have tT:List.take (its.length*3) (Ay its)=Ay its:=Gv (by omega);have ih:=Ahj Bn (P4:=P4) (a0:=a0) hb hl nn;rw[NB];unfold K0;unfold Ps at dn;change _=some (D0.mk [.sc (.bool (TF l cnt))] _) at dn;generalize Hs l cnt b at_=r at ri ok ⊢;obtain⟨x,e,l2,cnt2,at2⟩:=r;simp only at ri ok ⊢;cases hd:TF l cnt
  ·rw[hd] at dn;rw[A5 (by simp)];by_cases he:e=0
   ·subst he;obtain⟨p1,rfl,p3,p4,p5,p6⟩:=ok rfl;have q:=ih l2 (cnt+1) at2 (its++[x]) (by omega) (by omega) (by omega) p3 p5 (by simp;omega)
    rw[A5 (by simp),<-q,U8,Fw];have e1:Ay [x]=x.cells:=by simp[Ay]
    rw[e1];obtain⟨xk,xn,xs⟩:=x;unfold It.cells at ri ⊢;have e00:((0:Int) != 0)=false:=rfl
    repeat(with_reducible(first|apply Aj|apply Ad|apply Ah|apply Ao|apply Ax|apply Bb|apply Ba|apply Au|apply Ae|apply Ai|apply Ct);· first|constructor|(simp(disch:=omega)only[Cu,dn,ri,e00,L,t,LT,tT]<;>first|constructor|omega)|omega)
    try simp(disch:=omega)only[Aa,dn,ri,e00,L,t,LT,tT]
    all_goals rfl
   ·have Y6:(e != 0)=true:=by simp[he]
    rw[Bq he];obtain⟨xk,xn,xs⟩:=x;unfold It.cells at ri
    repeat(with_reducible(first|apply Aj|apply Ad|apply Ah|apply Ao|apply Ax|apply Bb|apply Ba|apply Au|apply Ae|apply Ai|apply Ct);· first|constructor|(simp(disch:=omega)only[Cu,dn,ri,Y6,L,t,LT,tT]<;>first|constructor|omega)|omega)
    try simp(disch:=omega)only[Aa,dn,ri,Y6,L,t,LT,tT]
    all_goals rfl
  ·rw[hd] at dn;rw[Bq rfl]
   repeat(with_reducible(first|apply Aj|apply Ad|apply Ah|apply Ao|apply Ax|apply Bb|apply Ba|apply Au|apply Ae|apply Ai|apply Ct);· first|constructor|(simp(disch:=omega)only[Cu,dn,L,t,LT,tT]<;>first|constructor|omega)|omega)
   try simp(disch:=omega)only[Aa,dn,L,t,LT,tT]
   all_goals rfl
theorem Ane(Bn:1000<=fu){b:Ca}(hb:Ii b)(hl:b.length<=1000000):
  Ar C0 prog fu (d+5) 47 [.lst false 1 b.length (Ac .u8 b)]=some ⟨HZ (K0 fu [] 0 b 0 []),[]⟩:=by
 rw[XO];exact Ahj Bn hb hl fu [] 0 0 [] (by omega) (by omega) (by omega) (by simp) (by omega) (by simp)
end
theorem Ay5{n:Int}(h0:0<=n):(n<256->FO (tb n 1)=n)/\(n<65536->FO (tb n 2)=n)/\(n<4294967296->FO (tb n 4)=n)/\(n<=18446744073709551615->FO (tb n 8)=n):=by
 have st:∀(k:Nat) (D:Int),n<=18446744073709551615->k<8->(2:Int) ^ (56-8*k)=D->0<D->Gc (n / D / 256) (Ep n k)=n / D:=by
  intro k D h1 hk hD hp;rw[Abe k hk,hD];exact Azw (Int.ediv_nonneg h0 (Int.le_of_lt hp)) (Int.le_trans (Int.ediv_le_self _ h0) h1)
 refine⟨fun h=>?_,fun h=>?_,fun h=>?_,fun h=>YX h0 h⟩
 ·have s7:=st 7 1 (by omega) (by omega) (by decide) (by omega);rw[show n / 1 / 256=0 by omega,show n / 1=n by omega] at s7;exact s7
 ·have s6:=st 6 256 (by omega) (by omega) (by decide) (by omega);have s7:=st 7 1 (by omega) (by omega) (by decide) (by omega);rw[show n / 256 / 256=0 by omega] at s6;rw[show n / 1 / 256=n / 256 by omega,show n / 1=n by omega] at s7;show Gc (Gc 0 (Ep n 6)) (Ep n 7)=n;rw[s6,s7]
 ·have s4:=st 4 16777216 (by omega) (by omega) (by decide) (by omega);have s5:=st 5 65536 (by omega) (by omega) (by decide) (by omega);have s6:=st 6 256 (by omega) (by omega) (by decide) (by omega);have s7:=st 7 1 (by omega) (by omega) (by decide) (by omega);rw[show n / 16777216 / 256=0 by omega] at s4;rw[show n / 65536 / 256=n / 16777216 by omega] at s5;rw[show n / 256 / 256=n / 65536 by omega] at s6;rw[show n / 1 / 256=n / 256 by omega,show n / 1=n by omega] at s7;show Gc (Gc (Gc (Gc 0 (Ep n 4)) (Ep n 5)) (Ep n 6)) (Ep n 7)=n;rw[s4,s5,s6,s7]
theorem EG{b:Ca}{at_:Nat}{mj n low:Int}{k:Nat}{rest:Ca}(m0:0<=mj)(m5:mj<=5)(l0:24<=low)(l1:low<=27)(hk:szE low=k)(h:b.drop (at_+1)=tb n k++rest)(hd:FO (tb n k)=n)(hs:¬(Pd n<(k:Int))):
  Y4 b at_ (32*mj+low)=⟨1+mj,n,0,at_+1+k⟩:=by
 have e1:(32*mj+low) / 32=mj:=by omega
 have e2:(32*mj+low) % 32=low:=by omega
 have e3:(b.drop (at_+1)).take k=tb n k:=by rw[h,List.take_left' (GU n k)]
 have e4:k<=b.length-(at_+1):=by
  have:=congrArg List.length h;rw[List.length_drop,Fw,GU] at this;omega
 unfold Y4;rw[e1,e2,hk,e3,hd,A5 (by omega),A5 (by omega),A5 (by omega),A5 (by omega),A5 (by omega),A5 (by omega),A5 (by omega),A5 hs]
theorem IJ{b:Ca}{at_:Nat}{mj n:Int}{rest:Ca}(h:b.drop at_=Ea mj n++rest)(m0:0<=mj)(m5:mj<=5)(n0:0<=n)(n1:n<=18446744073709551615):
  Bg b at_=⟨1+mj,n,0,at_+(Ea mj n).length⟩:=by
 obtain⟨d1,d2,d4,d8⟩:=Ay5 n0;unfold Bg;unfold Ea at h ⊢;by_cases c1:n<24
 ·rw[Bq c1] at h ⊢;obtain⟨_,g,_⟩:=Dc h;rw[g];show Y4 b at_ (32*mj+n)=_;unfold Y4;have e1:(32*mj+n) / 32=mj:=by omega
  have e2:(32*mj+n) % 32=n:=by omega
  rw[e1,e2,A5 (by omega),A5 (by omega),A5 (by omega),A5 (by omega),A5 (by omega),Bq c1];rfl
 rw[A5 c1] at h ⊢;by_cases c2:n<256
 ·rw[Bq c2] at h ⊢;obtain⟨_,g,g2⟩:=Dc h;rw[g];have:=EG (at_:=at_) m0 m5 (low:=24) (by omega) (by omega) (k:=1) (by decide) g2 (d1 c2) (by unfold Pd;rw[A5 c1,Bq c2];omega)
  show Y4 b at_ (32*mj+24)=_;rw[this,G7,GU]
 rw[A5 c2] at h ⊢;by_cases c3:n<65536
 ·rw[Bq c3] at h ⊢;obtain⟨_,g,g2⟩:=Dc h;rw[g];have:=EG (at_:=at_) m0 m5 (low:=25) (by omega) (by omega) (k:=2) (by decide) g2 (d2 c3) (by unfold Pd;rw[A5 c1,A5 c2,Bq c3];omega)
  show Y4 b at_ (32*mj+25)=_;rw[this,G7,GU]
 rw[A5 c3] at h ⊢;by_cases c4:n<4294967296
 ·rw[Bq c4] at h ⊢;obtain⟨_,g,g2⟩:=Dc h;rw[g];have:=EG (at_:=at_) m0 m5 (low:=26) (by omega) (by omega) (k:=4) (by decide) g2 (d4 c4) (by unfold Pd;rw[A5 c1,A5 c2,A5 c3,Bq c4];omega)
  show Y4 b at_ (32*mj+26)=_;rw[this,G7,GU]
 ·rw[A5 c4] at h ⊢;obtain⟨_,g,g2⟩:=Dc h;rw[g];have:=EG (at_:=at_) m0 m5 (low:=27) (by omega) (by omega) (k:=8) (by decide) g2 (d8 n1) (by unfold Pd;rw[A5 c1,A5 c2,A5 c3,A5 c4];omega)
  show Y4 b at_ (32*mj+27)=_;rw[this,G7,GU]
theorem Acz{s:ByteArray}(h:MY s=true):s=⟨#[]⟩:=by unfold MY at h;have:=eq_of_beq h;apply ByteArray.ext;exact Array.toList_inj.1 this
def nOf(x:It):Int:=if x.k=3\/x.k=4 then (x.s.size:Int) else x.n
theorem IA{x:It}{b:Ca}{at_:Nat}{rest:Ca}(hsh:K7 x=true)(k1:1<=x.k)(k8:x.k<=8)(n0:0<=x.n)(n1:x.n<=18446744073709551615)(hs:x.s.size<=1024)(h:b.drop at_=B8 x++rest):
  Bg b at_=⟨x.k,nOf x,0,at_+((B8 x).length-x.s.size)⟩/\(x.k=3\/x.k=4->x.n=0/\b.drop (at_+((B8 x).length-x.s.size))=Cy x.s++rest)/\(¬(x.k=3\/x.k=4)->x.s=⟨#[]⟩)/\x.s.size<=(B8 x).length:=by
 obtain⟨k,n,s⟩:=x;have z:(ByteArray.mk #[]).size=0:=rfl;simp only at k1 k8 n0 n1 hs ⊢;unfold K7 at hsh;simp only at hsh;have L:=Gi s;have E7:k=7->B8 ⟨k,n,s⟩=[wrap .u8 (244+wrap .u8 n)]:=fun e=>by unfold B8;rw[Bq e]
 have E8:k=8->B8 ⟨k,n,s⟩=[246]:=fun e=>by subst e;rfl
 have E3:k=3->B8 ⟨k,n,s⟩=Ea 2 s.size++Cy s:=fun e=>by subst e;rfl
 have E4:k=4->B8 ⟨k,n,s⟩=Ea 3 s.size++Cy s:=fun e=>by subst e;rfl
 have E0:k≠7->k≠8->k≠3->k≠4->B8 ⟨k,n,s⟩=Ea (k-1) n:=fun a b c d=>by unfold B8;rw[A5 a,A5 b,A5 c,A5 d]
 have N34:k=3\/k=4->nOf ⟨k,n,s⟩=s.size:=fun e=>by unfold nOf;rw[Bq e]
 have N0:¬(k=3\/k=4)->nOf ⟨k,n,s⟩=n:=fun e=>by unfold nOf;rw[A5 e]
 by_cases c7:k=7
 ·subst c7;simp at hsh;obtain⟨hn,hs⟩:=hsh;obtain rfl:=Acz hs;rw[E7 rfl] at h ⊢;rw[N0 (by omega)];obtain⟨_,g,_⟩:=Dc h;refine⟨?_,fun h=>by omega,fun _=>rfl,Nat.zero_le _⟩;have:n=0\/n=1:=by omega
  unfold Bg;rw[g];rcases this with rfl|rfl
  ·rfl
  ·rfl
 by_cases c8:k=8
 ·subst c8;simp at hsh;obtain⟨rfl,hs⟩:=hsh;obtain rfl:=Acz hs;rw[E8 rfl] at h ⊢;rw[N0 (by omega)];obtain⟨_,g,_⟩:=Dc h;refine⟨?_,fun h=>by omega,fun _=>rfl,Nat.zero_le _⟩;unfold Bg;rw[g];rfl
 by_cases c3:k=3
 ·subst c3;simp at hsh;subst hsh;rw[E3 rfl] at h ⊢;rw[N34 (by omega)];rw[FC] at h;have q:=IJ h (by omega) (by omega) (by omega) (by omega);have e:(Ea 2 (s.size:Int)++Cy s).length-s.size=(Ea 2 (s.size:Int)).length:=by rw[Fw,L];omega
  rw[e];refine⟨q,fun _=>⟨rfl,?_⟩,fun h=>by omega,by rw[Fw,L];omega⟩
  rw[<-List.drop_drop,h,List.drop_left' rfl]
 by_cases c4:k=4
 ·subst c4;simp at hsh;subst hsh;rw[E4 rfl] at h ⊢;rw[N34 (by omega)];rw[FC] at h;have q:=IJ h (by omega) (by omega) (by omega) (by omega);have e:(Ea 3 (s.size:Int)++Cy s).length-s.size=(Ea 3 (s.size:Int)).length:=by rw[Fw,L];omega
  rw[e];refine⟨q,fun _=>⟨rfl,?_⟩,fun h=>by omega,by rw[Fw,L];omega⟩
  rw[<-List.drop_drop,h,List.drop_left' rfl]
 rw[A5 c3,A5 c4,A5 c8,A5 c7] at hsh;obtain rfl:=Acz hsh;rw[E0 c7 c8 c3 c4] at h ⊢;rw[N0 (by omega)];have q:=IJ h (by omega) (by omega) n0 n1;refine⟨?_,fun h=>by omega,fun _=>rfl,by rw[z];omega⟩
 rw[q,z,Nat.sub_zero]
 congr 1
 omega
theorem Ako{l:List Il}{cnt:Int}{x:It}{b:Ca}{at_:Nat}{rest:Ca}(g:A05 l cnt x)(n0:0<=x.n)(n1:x.n<=18446744073709551615)(h:b.drop at_=B8 x++rest):
  Hs l cnt b at_=⟨x,0,H1 l x,cnt+1,at_+(B8 x).length⟩:=by
 have k18:1<=x.k/\x.k<=8:=by
  have hm:=g.hm;unfold O8 at hm
  repeat' split at hm
  all_goals first
   |(cases hm;done)
   |omega
 obtain⟨q1,q2,q3,q4⟩:=IA g.hsh k18.1 k18.2 n0 n1 g.hs h
 have ac:∀a:Nat,BJ l cnt x a=⟨x,0,H1 l x,cnt+1,a⟩:=by
  intro a
  have:Ft l x=(0,H1 l x):=by
   unfold Ft;rw[A5,A5 (by simp[g.ha])];intro hh;have:=g.hv hh.1;exact absurd hh.2 (by simp[okS,this])
  unfold BJ;rw[this];rfl
 have ln:b.length-(at_+((B8 x).length-x.s.size))>=x.s.size:=by
  have:=congrArg List.length h;rw[List.length_drop,Fw] at this;omega
 unfold Hs;rw[q1];unfold Ada;simp only;rw[A5 (by simp),g.hm,A5 (by simp)];have hs:=g.hs;have hn:=g.hn;obtain⟨k,n,s⟩:=x;simp only at *
 by_cases c34:k=3\/k=4
 ·obtain⟨rfl,q2⟩:=q2 c34;have N:nOf ⟨k,0,s⟩=s.size:=by unfold nOf;rw[Bq c34]
  rw[N,A5 (by omega),Bq c34,A5 (by omega),H0,A5 (by omega),q2,List.take_left' (Gi s),Tn,ac]
  congr 1
  omega
 ·obtain rfl:=q3 c34;have z:(ByteArray.mk #[]).size=0:=rfl;have N:nOf ⟨k,n,⟨#[]⟩⟩=n:=by unfold nOf;rw[A5 c34]
  rw[N,A5 c34,z,Nat.sub_zero];by_cases c56:k=5\/k=6
  ·rw[Bq c56,A5 (by omega),ac]
  ·rw[A5 c56,ac]
theorem ZI{b:Ca}{rest:Ca}:∀(its:List It)(l:List Il)(cnt:Int)(at_ m:Nat)(acc:List It),S6 l cnt its->(∀x∈its,0<=x.n/\x.n<=18446744073709551615)->b.drop at_=Bi its++rest->its.length<m ->
  K0 m l cnt b at_ acc=(acc++its,at_+(Bi its).length,0)
 |[],l,cnt,at_,m,acc,hg,hn,h,hm=>by
  obtain⟨rfl,hc⟩:=hg;obtain⟨m,rfl⟩:∃k,m=k+1:=⟨m-1,by omega⟩
  unfold K0;rw[Bq (by simp[TF,hc])];simp[Bi]
 |x::its,l,cnt,at_,m,acc,hg,hn,h,hm=>by
  obtain⟨g,hg⟩:=hg;obtain⟨m,rfl⟩:∃k,m=k+1:=⟨m-1,by simp at hm;omega⟩
  have e:Bi (x::its)=B8 x++Bi its:=by simp[Bi]
  rw[e,FC] at h;have r:=Ako g (hn x (by simp)).1 (hn x (by simp)).2 h;have h':b.drop (at_+(B8 x).length)=Bi its++rest:=by rw[<-List.drop_drop,h,List.drop_left' rfl]
  have ih:=ZI its (H1 l x) (cnt+1) (at_+(B8 x).length) m (acc++[x]) hg (fun y hy=>hn y (Sh _ hy)) h' (by simp at hm;omega)
  unfold K0;have hd:TF l cnt=false:=g.hd;rw[A5 (by simp[hd]),r];simp only;rw[A5 (by simp),ih,e];simp;omega
abbrev Ty(x:Int):Prop:=0<=x/\x<=18446744073709551615
abbrev isW(l:Ca):Prop:=∀x∈l,Ty x
theorem Agz(l:Ca)(i:Nat):Ty (My l i):=CA _ 0 (by omega) (by omega)
theorem Afi(l:Ca):isW (Gk l):=by intro x hx;obtain⟨k,_,rfl⟩:=List.mem_map.1 hx;exact Agz l k
theorem AC:∀{ws:Ca}{i:Nat}{w:Int},isW ws->ws[i]?=some w->My (A4 ws) i=w
 |[],i,w,_,h=>by simp at h
 |a::ws,0,w,hw,h=>by
  simp at h;subst h;have e:A4 (a::ws)=Ew a++A4 ws:=rfl;unfold My;rw[Nat.mul_zero,Es,e,List.take_left' (Fb a)];have:=hw a (by simp);exact YX this.1 this.2
 |a::ws,i+1,w,hw,h=>by
  simp at h;have ih:=AC (ws:=ws) (fun x hx=>hw x (Sh _ hx)) h;have e:A4 (a::ws)=Ew a++A4 ws:=rfl;unfold My at ih ⊢;rw[show 8*(i+1)=(Ew a).length+8*i by rw[Fb];omega,e,<-List.drop_drop,List.drop_left' rfl]
  exact ih
theorem LQ{ws:Ca}(hw:isW ws):Gk (A4 ws)=ws:=by
 have hl:(A4 ws).length / 8=ws.length:=by rw[Da];omega
 apply List.ext_getElem?;intro i;unfold Gk;rw[hl];by_cases h:i<ws.length
 ·rw[List.getElem?_map,List.getElem?_range h,List.getElem?_eq_getElem h];simp only[Option.map_some];rw[AC hw (List.getElem?_eq_getElem h)]
 ·rw[List.getElem?_eq_none (by simp;omega),List.getElem?_eq_none (by omega)]
theorem Aok{k:Ky}(hh:D1 k.h=false)(hr:Ty k.root):IG (Ij k)=some k:=by
 obtain⟨h,r⟩:=k;have hb:=H7 hh;simp only at hb hr hh;have w:wrap .u8 h=h:=Ia (by omega) (by omega);have w1:A4 [r]=Ew r:=by simp[A4]
 have:=AC (ws:=[r]) (i:=0) (w:=r) (by intro x hx;simp at hx;subst hx;exact hr) rfl
 rw[w1] at this;unfold IG Ij;simp only[w,List.getD_cons_zero,List.drop_succ_cons,Es,this,G7,Fb,hh,and_self,if_true]
theorem A11{k:Ky}:Ii (Ij k):=by
 intro x hx;rcases B6.1 hx with rfl|hx
 ·have:∀v:Int,0<=wrap .u8 v/\wrap .u8 v<=255:=by
   intro v;simp only[wrap,IntKind.signed,IntKind.bits];simp;omega
  exact this _
 ·exact Ac6 _ x hx
theorem Aww{l:Ca}{k:Ky}(h:IG l=some k):D1 k.h=false/\Ty k.root:=by
 unfold IG at h;split at h
 ·rename_i hh;cases h;exact⟨hh.2,Agz _ _⟩
 ·cases h
structure Sg.ok(s:Sg):Prop where
 ch:isW s.chains
 pa:isW s.path
theorem Au1(s:Sg):Ii (Sj s):=by
 have w8:∀v:Int,0<=wrap .u8 v/\wrap .u8 v<=255:=by
  intro v;simp only[wrap,IntKind.signed,IntKind.bits];simp;omega
 intro x hx;unfold Sj at hx;rcases B6.1 hx with rfl|hx
 ·exact w8 _
 rcases B6.1 hx with rfl|hx
 ·exact w8 _
 rcases Bz.1 hx with hx|hx
 ·exact Uk _ x hx
 ·exact Uk _ x hx
theorem Ay2{s:Sg}(hs:s.ok)(h1:D1 s.path.length=false)(h2:Js s.leaf s.path.length=false)(h3:s.chains.length=18):sgD (Sj s)=some s:=by
 obtain⟨leaf,ch,pa⟩:=s;obtain⟨hc,hp⟩:=hs;simp only at h1 h2 h3 hc hp;have hb:=H7 h1;have ho:=Aju hb.1 hb.2 h2;have h16:=A3d hb.1 hb.2;have w1:wrap .u8 leaf=leaf:=Ia (by omega) (by omega);have w2:wrap .u8 (pa.length:Int)=pa.length:=Ia (by omega) (by omega);have lc:(A4 ch).length=144:=by rw[Da];omega
 have lp:(A4 pa).length=8*pa.length:=Da pa
 have len:(Sj ⟨leaf,ch,pa⟩).length=2+144+8*pa.length:=by
  unfold Sj;simp only[G7,Fw,lc,lp];omega
 have g0:(Sj ⟨leaf,ch,pa⟩).getD 0 0=leaf:=w1;have g1:(Sj ⟨leaf,ch,pa⟩).getD 1 0=pa.length:=w2;have d2:(Sj ⟨leaf,ch,pa⟩).drop 2=A4 ch++A4 pa:=rfl
 have d146:(Sj ⟨leaf,ch,pa⟩).drop 146=A4 pa:=by
  rw[show 146=2+144 from rfl,<-List.drop_drop,d2,List.drop_left' lc]
 unfold sgD;rw[Bq ⟨by omega,by rw[g1];exact h1,by rw[g0,g1];exact h2,by rw[g1,len];omega⟩,g0,d2,d146,List.take_left' lc,LQ hc,LQ hp]
theorem Ai7{l:Ca}{s:Sg}(h:sgD l=some s):s.ok/\s.path.length<=4/\s.chains.length=18:=by
 unfold sgD at h;split at h
 ·rename_i hh;cases h;have hb:=H7 hh.2.1;refine⟨⟨Afi _,Afi _⟩,?_,?_⟩
  ·simp only[Uq,List.length_drop];omega
  ·simp only[Uq,List.length_take,List.length_drop];omega
 ·cases h
section
variable {xs:FuncId->Option (Ab->Option D0)}(fu d:Nat)(call:Bp)
theorem YF(X:Nat)(Z:Ab)(W:Nat)(Y:Ab):Fn C0 fu d 50 [Ap 1 X Z,Ap 1 W Y] fun call=>As (decide (Z.length=X))<|F3 (bytesOf Z) fun a=>As (decide (Y.length=W))<|F3 (bytesOf Y) fun b=>Bv [.sc (.bool (Array.toList (ByteArray.data (ByteArray.mk (List.toArray a)))==Array.toList (ByteArray.data (ByteArray.mk (List.toArray b)))))]:=by show _=_;kernel_rfl
end
section
variable {fu d:Nat}
theorem At8(s:ByteArray):Ar C0 prog fu (d+1) 130 [.sc (.string s)]=some ⟨[.own 3 1 (Ay [⟨4,0,s⟩])],[]⟩:=by rw[Afo];rfl
theorem Yu(n:Int):Ar C0 prog fu (d+1) 64 [Af n]=some ⟨[.own 3 1 (Ay [⟨1,n,Fv⟩])],[]⟩:=by rw[Aha];rfl
theorem Am7(l:Ca):Ar C0 prog fu (d+1) 131 [.lst false 1 l.length (Ac .u8 l)]=some ⟨[.own 3 1 (Ay [⟨3,0,Bj l⟩])],[]⟩:=by rw[Acf];have L:=Am .u8 l;have bo:=G2 l;simp(disch:=omega)only[B4,B3,L,bo];rfl
end
theorem aci{its:List It}{i:Nat}{x:It}(h:its[i]?=some x):(Ay its).getD (i*3) .top=At x.k/\(Ay its).getD (i*3+1) .top=Af x.n/\(Ay its).getD (i*3+2) .top=.sc (.string x.s):=
 ⟨Hv It.cells_len h (j:=0) (by omega),Hv It.cells_len h (j:=1) (by omega),Hv It.cells_len h (j:=2) (by omega)⟩
section
variable {fu d:Nat}
theorem Ajd{a b:Ca}(ha:Ii a)(hb:Ii b)(h:(a.map fun n=>n.toNat.toUInt8)=(b.map fun n=>n.toNat.toUInt8)):a=b:=by
 have e:Bj a=Bj b:=by unfold Bj;rw[h]
 rw[<-Pp ha,<-Pp hb,e]
theorem A55{a b:Ca}(ha:Ii a)(hb:Ii b):(Array.toList (ByteArray.data (ByteArray.mk (List.toArray (a.map fun n=>n.toNat.toUInt8))))==Array.toList (ByteArray.data (ByteArray.mk (List.toArray (b.map fun n=>n.toNat.toUInt8)))))=decide (a=b):=by
 by_cases h:a=b
 ·subst h;simp
 ·have:(List.map (fun n=>n.toNat.toUInt8) a)≠(List.map (fun n=>n.toNat.toUInt8) b):=fun e=>h (Ajd ha hb e);simp only[h,decide_false]
  simpa using this
theorem XM{a b:Ca}(ha:Ii a)(hb:Ii b):Ar C0 prog fu (d+1) 50 [.lst false 1 a.length (Ac .u8 a),.lst false 1 b.length (Ac .u8 b)]=some ⟨[.sc (.bool (decide (a=b)))],[]⟩:=by rw[YF];have La:=Am .u8 a;have Lb:=Am .u8 b;have ba:=G2 a;have bb:=G2 b;have q:=A55 ha hb;simp(disch:=omega)only[B4,B3,La,Lb,ba,bb,q]
end
structure Ce.ok(c:Ce):Prop where
 ser:Ty c.serial
 mod:Ty c.model
 root:Ty c.key.root
 sg:c.sig.ok
theorem Ce.ok.wf{c:Ce}(h:c.ok):c.wf:=⟨h.ser.1,h.mod.1⟩
abbrev Y9(s:ByteArray)(at_:Nat)(o:List It):Ab:=[.sc (.string s),At at_,.own 3 o.length (Ay o)]
theorem Aef{s:ByteArray}{i:Nat}{x:Int}(h:(Cy s)[i]?=some x):∃u:UInt8,s.data.toList[i]?=some u/\x=(u.toNat:Int):=by
 unfold Cy at h;rw[List.getElem?_map] at h;cases hu:s.data.toList[i]? with
 |none=>rw[hu] at h;cases h
 |some u=>rw[hu] at h;injection h with h;exact⟨u,rfl,h.symm⟩
theorem strB_getElem?{s:ByteArray}{i:Nat}(h:i<(Cy s).length):∃x,(Cy s)[i]?=some x:=⟨_,List.getElem?_eq_getElem h⟩
def Zw(b:Ca)(at_:Nat):Nat:=if (Bg b at_).e=0 then (Bg b at_).at_ else at_
def A7m:Ab:=[PV.sc (Value.int IntKind.u64 (0:Int)),PV.sc (Value.int IntKind.u64 (24:Int)),PV.sc (Value.int IntKind.u64 (256:Int)),PV.sc (Value.int IntKind.u64 (0:Int)),PV.sc (Value.int IntKind.u64 (65536:Int)),PV.sc (Value.int IntKind.u64 (0:Int)),PV.sc (Value.int IntKind.u64 (0:Int)),PV.sc (Value.int IntKind.u64 (0:Int)),PV.sc (Value.int IntKind.u64 (4294967296:Int))]
def Akl(sz:Nat):Int:=if sz=0 then 0 else if sz=1 then 24 else if sz=2 then 256 else if sz=4 then 65536 else 4294967296
theorem Aal{sz:Nat}(h:sz=1\/sz=2\/sz=4\/sz=8)(n:Int):(n<Akl sz)↔Pd n<(sz:Int):=by
 unfold Akl Pd;rcases h with rfl|rfl|rfl|rfl
 all_goals simp
 all_goals repeat' split
 all_goals omega
section
variable {fu d:Nat}
theorem HO{call:Bp}{C7:ByteArray}{Ci:Int}{Eb:Nat}{Dw:Ab}{s:ByteArray}{at_:Nat}{o:List It}{k y8 y9:Int}{y10:ByteArray}{sz:Nat}(Kz:sz=0\/sz=1\/sz=2\/sz=4\/sz=8)(hk:0<=k/\k<=5)(hl:s.size<=1000000)(ha:at_+1+sz<=s.size)(ho:o.length<=1000000):
    ∀(r:Ca) (i nn:Nat) (v:Int),(((Cy s).drop (at_+1)).take sz).drop i=r->r.length<nn->i<=sz ->
    Dt fu call C7 Ci Eb Dw nn k (sz:Int) v (i:Int) s (at_:Int) o.length (Ay o) y8 y9 y10 =
      (if r.foldl Gc v<Akl sz then some ⟨[.agg [At 0,Af 0,.sc (.string Fv)],At 2],[Y9 s at_ o]⟩
       else some ⟨[.agg [At (1+k),Af (r.foldl Gc v),.sc (.string Fv)],At 0],[Y9 s (at_+1+sz) o]⟩)
  |_,_,0,_,_,h,_=>by omega
  |[],i,nn+1,v,hd,hn,hi=>by
    have:=drop_nil hd
    have hs:=Gi s
    rw[List.length_take,List.length_drop] at this
    have L:=Cw o
    have t:List.take (o.length*3) (Ay o)=Ay o:=Gv (by omega)
    have w1:wrap .i64 ((1:Int)+(sz:Int))=1+sz:=Ag (by omega) (by omega)
    have w2:wrap .i64 ((at_:Int)+(1+sz))=((at_+1+sz:Nat):Int):=by rw[Ag (by omega) (by omega)];omega
    have g:∀q:Ab,q=A7m->q.getD (0+Int.toNat (sz:Int)*1) .top=Af (Akl sz):=by
      intro q hq
      subst hq
      rcases Kz with rfl|rfl|rfl|rfl|rfl<;>rfl
    have gl:=g _ rfl
    have gk:∀q:Ab,q=[PV.sc (Value.int IntKind.i64 (1:Int)),PV.sc (Value.int IntKind.i64 (2:Int)),PV.sc (Value.int IntKind.i64 (3:Int)),PV.sc (Value.int IntKind.i64 (4:Int)),PV.sc (Value.int IntKind.i64 (5:Int)),PV.sc (Value.int IntKind.i64 (6:Int))]->q.getD (0+Int.toNat k*1) .top=At (1+k):=by
      intro q hq
      subst hq
      have:k=0\/k=1\/k=2\/k=3\/k=4\/k=5:=by omega
      rcases this with rfl|rfl|rfl|rfl|rfl|rfl<;>rfl
    have gk':=gk _ rfl
    unfold A7m at gl
    rw[Kd,Ef _ _ _ (by omega),List.foldl_nil]
    by_cases hs:v<Akl sz
    · rw[Bq hs]
      repeat(with_reducible(first|apply Aj|apply Ad|apply Ah|apply Gm|apply Ae|apply Ai|apply Ct);· first|constructor|(simp(disch:=omega)only[Cu,L,t,w1,w2,gl,gk']<;>first|constructor|omega)|omega)
      try simp(disch:=omega)only[Aa,L,t,w1,w2,gl,gk']
      all_goals rfl
    · rw[A5 hs]
      repeat(with_reducible(first|apply Aj|apply Ad|apply Ah|apply Gm|apply Ae|apply Ai|apply Ct);· first|constructor|(simp(disch:=omega)only[Cu,L,t,w1,w2,gl,gk']<;>first|constructor|omega)|omega)
      try simp(disch:=omega)only[Aa,L,t,w1,w2,gl,gk']
      all_goals rfl
  |x::r,i,nn+1,v,hd,hn,hi=>by
    obtain⟨h1,h2,h3⟩:=Dc hd
    simp only[G7] at hn
    rw[List.length_take,List.length_drop] at h1
    have h2':(Cy s)[at_+1+i]?=some x:=by
      rw[List.getElem?_take_of_lt (by omega),List.getElem?_drop] at h2
      exact h2
    obtain⟨u,hu,rfl⟩:=Aef h2'
    have w1:wrap .i64 ((at_:Int)+1)=((at_+1:Nat):Int):=by rw[Ag (by omega) (by omega)];omega
    have w2:wrap .i64 (((at_+1:Nat):Int)+(i:Int))=((at_+1+i:Nat):Int):=by rw[Ag (by omega) (by omega)];omega
    have w3:wrap .i64 ((i:Int)+1)=((i+1:Nat):Int):=by rw[Ag (by omega) (by omega)];omega
    have ih:=HO (call:=call) (C7:=C7) (Ci:=Ci) (Eb:=Eb) (Dw:=Dw) (s:=s) (at_:=at_) (o:=o) (k:=k) (y8:=y8) (y9:=y9) (y10:=y10) Kz hk hl ha ho r (i+1) nn (Gc v u.toNat) h3 (by omega) (by omega)
    have nt:Int.toNat ((at_+1+i:Nat):Int)=at_+1+i:=H0 _
    rw[List.foldl_cons,<-ih,Kd]
    repeat(with_reducible(first|apply Aj|apply Ad|apply Ah|apply Gm|apply Ae|apply Ai|apply Ct);· first|constructor|(simp(disch:=omega)only[Cu,w1,w2,w3,nt,hu]<;>first|constructor|omega)|omega)
    try simp(disch:=omega)only[Aa,w1,w2,w3,nt,hu]
    all_goals rfl
theorem Apy(Bn:1000<=fu){s:ByteArray}{at_:Nat}{o:List It}(hl:s.size<=1000000)(ho:o.length<=1000000):
  Ar C0 prog fu (d+1) 138 [.pbox (Y9 s at_ o)]=some ⟨[.agg [At (Bg (Cy s) at_).k,Af (Bg (Cy s) at_).n,.sc (.string Fv)],At (Bg (Cy s) at_).e],[Y9 s (Zw (Cy s) at_) o]⟩:=by
 refine (Vy fu d s (at_:Int) o.length (Ay o)).trans ?_;have hs:=Gi s;have L:=Cw o;have t:List.take (o.length*3) (Ay o)=Ay o:=Gv (by omega);unfold Zw Bg;by_cases Cq:at_<(Cy s).length
 rotate_left
 ·have hg:(Cy s)[at_]?=none:=List.getElem?_eq_none (by omega);rw[hg]
  repeat(with_reducible(first|apply Aj|apply Ad|apply Ah|apply Gm|apply Ae|apply Ai|apply Ct);· first|constructor|(simp(disch:=omega)only[Cu,L,t]<;>first|constructor|omega)|omega)
  try simp(disch:=omega)only[Aa,L,t]
  all_goals rfl
 obtain⟨x,hg⟩:=strB_getElem? Cq;have hB:=Zp s _ (List.mem_of_getElem? hg);obtain⟨u,hu,hxu⟩:=Aef hg;rw[hg];have nt:Int.toNat (at_:Int)=at_:=H0 _;have w1:wrap .i64 ((at_:Int)+1)=((at_+1:Nat):Int):=by rw[Ag (by omega) (by omega)];omega
 have s5:=A6r hB.1;have a31:=Az6 hB.1 hB.2;rw[hxu] at s5 a31 hB ⊢;show A3 _ _ _=_;rw[Ef _ _ _ (by omega),EF _ _ (by omega),nt,hu,Akh];clear hxu hu hg;generalize ((u.toNat:Nat):Int)=y at s5 a31 hB ⊢;unfold Y4;simp only;have e20:((2:Int)=0)=False:=by simp
 have e10:((1:Int)=0)=False:=by simp
 by_cases c1:y=244
 ·subst c1;have q:wrap .u64 (wrap .u8 ((244:Int)-244))=0:=by decide
  simp(disch:=omega)only[B4,B3,Int.reduceBEq,w1,L,t,q]
 rw[A5 c1];have b1:(y==(244:Int))=false:=by simp[c1]
 by_cases c2:y=245
 ·subst c2;have q:wrap .u64 (wrap .u8 ((245:Int)-244))=1:=by decide
  simp(disch:=omega)only[B4,B3,Int.reduceBEq,w1,L,t,q,if_true]
 rw[A5 c2];have b2:(y==(245:Int))=false:=by simp[c2]
 by_cases c3:y=246
 ·subst c3;simp(disch:=omega)only[B4,B3,Int.reduceBEq,w1,L,t,if_true]
 rw[A5 c3];have b3:(y==(246:Int))=false:=by simp[c3]
 have wk1:wrap .i64 (y / 32)=y / 32:=Ag (by omega) (by omega);have wk2:wrap .i64 (y % 32)=y % 32:=Ag (by omega) (by omega);by_cases c4:y / 32>5
 ·rw[Bq c4];simp(disch:=omega)only[B4,B3,b1,b2,b3,s5,a31,wk1,wk2,L,t,e20]
 rw[A5 c4];by_cases c5:y % 32>27
 ·rw[Bq c5];simp(disch:=omega)only[B4,B3,b1,b2,b3,s5,a31,wk1,wk2,L,t,e20]
 rw[A5 c5];have w6:wrap .i64 ((s.size:Int)-(at_:Int))=((s.size-at_:Nat):Int):=by rw[Ag (by omega) (by omega)];omega
 have w7:wrap .i64 (((s.size-at_:Nat):Int)-1)=((s.size-(at_+1):Nat):Int):=by rw[Ag (by omega) (by omega)];omega
 have wu:wrap .u64 (y % 32)=y % 32:=Cd (by omega) (by omega);by_cases c6:y % 32<24
 ·have lp:=HO (fu:=fu) (call:=Ar C0 prog fu d) (C7:=s) (Ci:=(at_:Int)) (Eb:=o.length) (Dw:=Ay o) (s:=s) (at_:=at_) (o:=o) (k:=y / 32) (y8:=0) (y9:=0) (y10:=Fv) (sz:=0) (.inl rfl) (by omega) hl (by omega) ho [] 0 fu (y % 32) rfl (by simp;omega) (by omega)
  have e0:¬(y % 32<Akl 0):=by unfold Akl;simp;omega
  rw[List.foldl_nil,A5 e0] at lp;rw[Bq c6];simp(disch:=omega)only[B4,B3,b1,b2,b3,s5,a31,wk1,wk2,w6,w7,wu];exact lp
 rw[A5 c6];have q1:wrap .i64 (y % 32-24)=y % 32-24:=Ag (by omega) (by omega);have q1':wrap .u64 (y % 32-24)=y % 32-24:=Cd (by omega) (by omega)
 have q2:Hm .i64 1 (y % 32-24)=(szE (y % 32):Int):=by
  have:y % 32=24\/y % 32=25\/y % 32=26\/y % 32=27:=by omega
  rcases this with h|h|h|h<;>rw[h]<;>decide
 have q3:szE (y % 32)=1\/szE (y % 32)=2\/szE (y % 32)=4\/szE (y % 32)=8:=by
  unfold szE
  repeat' split
  all_goals omega
 generalize szE (y % 32)=sz at q2 q3 ⊢;rw[hs];by_cases c7:s.size-(at_+1)<sz
 ·rw[Bq c7];simp(disch:=omega)only[B4,B3,b1,b2,b3,s5,a31,wk1,wk2,w6,w7,wu,q1,q1',q2,L,t,e10]
 rw[A5 c7];have lp:=HO (fu:=fu) (call:=Ar C0 prog fu d) (C7:=s) (Ci:=(at_:Int)) (Eb:=o.length) (Dw:=Ay o) (s:=s) (at_:=at_) (o:=o) (k:=y / 32) (y8:=0) (y9:=0) (y10:=Fv) (sz:=sz) (by omega) (by omega) hl (by omega) ho _ 0 fu 0 rfl (by rw[Es,List.length_take];omega) (by omega)
 rw[Es] at lp;unfold FO;by_cases c8:Pd ((((Cy s).drop (at_+1)).take sz).foldl Gc 0)<sz
 ·rw[Bq ((Aal q3 _).2 c8)] at lp;rw[Bq c8];simp(disch:=omega)only[B4,B3,b1,b2,b3,s5,a31,wk1,wk2,w6,w7,wu,q1,q1',q2,e20];exact lp
 ·rw[A5 (fun h=>c8 ((Aal q3 _).1 h))] at lp;rw[A5 c8];simp(disch:=omega)only[B4,B3,b1,b2,b3,s5,a31,wk1,wk2,w6,w7,wu,q1,q1',q2];exact lp
end
def Afs(a c:ByteArray):Bool:=if a.size=c.size then Op.bytesLess a.data.toList c.data.toList else decide (a.size<c.size)
def NT(k:Int):Bool:=if k=1 then true else if k=2 then true else k==4
def Ok(k:Int):Bool:=k==3||k==4
def Ss(k:Int):Bool:=k==5||k==6
def Mx(k n depth:Int)(key:Bool)(olen rest:Nat):Int:=
 if 512<=olen then 8 else if key=true/\NT k=false then 3 else if depth>8 then 5 else if Ok k=true/\n>1024 then 8 else if Ss k=true/\n>512 then 8 else if Ok k=true/\(rest:Int)<n then 1 else 0
def Jz(key:Bool)(before:ByteArray)(x:It):Int:=
 if x.k=4/\okS x.s=false then 6 else if key=true/\MY before=false/\Afs before (Bj (B8 x))=false then 7 else 0
theorem Adu{s:ByteArray}{a n:Nat}:s.extract a (a+n)=Bj (((Cy s).drop a).take n):=by
 rw[<-Tn (s.extract a (a+n))]
 congr 1
 unfold Cy;rw[ByteArray.data_extract,Array.toList_extract,List.extract_eq_take_drop,Nat.add_sub_cancel_left,List.map_take,List.map_drop]
section
variable {fu d:Nat}
theorem All(a c:ByteArray):Ar C0 prog fu (d+1) 140 [.sc (.string a),.sc (.string c)]=some ⟨[.sc (.bool (Afs a c))],[]⟩:=by
 rw[HG];unfold Afs;by_cases h:a.size=c.size
 ·have:((a.size:Int) != (c.size:Int))=false:=by simp[h]
  rw[Bq h];simp only[B4,B3,this]
 ·have e:((a.size:Int) != (c.size:Int))=true:=by simp;omega
  rw[A5 h];simp only[B4,B3,e,Int.ofNat_lt]
theorem Ar4(k:Int):Ar C0 prog fu (d+1) 139 [At k]=some ⟨[.sc (.bool (NT k))],[]⟩:=by
 rw[FX];unfold NT;by_cases h1:k=1
 ·subst h1;rfl
 ·by_cases h2:k=2
  ·subst h2;rfl
  ·have b1:(k==(1:Int))=false:=by simp[h1]
   have b2:(k==(2:Int))=false:=by simp[h2]
   rw[A5 h1,A5 h2];simp only[B4,B3,b1,b2]
theorem Ain{C7:ByteArray}{Ci:Int}{Eb:Nat}{Dw:Ab}{a1:Int}{a2:Bool}{a3:ByteArray}(Bn:1000<=fu){depth n k nn':Int}{key nest:Bool}{before s t:ByteArray}{at_:Nat}{o:List It}{nn:Nat}(Mz:0<nn)(ho:o.length<=1000)(hk:1<=k/\k<=8)(hn:0<=nn')(ht:t.size<=500000)(hd:It.dat ⟨k,nn',t⟩):
    Ak fu (Ar C0 prog fu (d+3)) C7 Ci Eb Dw a1 a2 a3 nn depth key before n false nest s (at_:Int) o.length (Ay o) k nn' t =
      (if Jz key before ⟨k,nn',t⟩=0 then Bc fu (Ar C0 prog fu (d+3)) C7 Ci Eb Dw a1 a2 a3 fu depth n nest Fv 0 s (at_:Int) (o++[It.mk k nn' t]).length (Ay (o++[It.mk k nn' t])) k nn' t
       else some ⟨[At (Jz key before ⟨k,nn',t⟩)],[Y9 s at_ o]⟩):=by
  have L:=Cw o
  have tt:List.take (o.length*3) (Ay o)=Ay o:=Gv (by omega)
  have va:=Vl (fu:=fu) (d:=d+2) t (by omega)
  have by_:=EL (fu:=fu) (d:=d) (x:=⟨k,nn',t⟩) Bn ⟨hk.1,hk.2,hn,ht⟩ hd
  have ls:=All (fu:=fu) (d:=d+2) before (Bj (B8 ⟨k,nn',t⟩))
  have e:Ay (o++[It.mk k nn' t])=Ay o++[PV.sc (Value.int IntKind.i64 k),PV.sc (Value.int IntKind.u64 nn'),PV.sc (Value.string t)]:=U8 o [It.mk k nn' t]
  have en:(o++[It.mk k nn' t]).length=o.length+1:=by simp
  have em:(Array.toList (ByteArray.data before)==Array.toList (ByteArray.data (ByteArray.mk #[])))=MY before:=rfl
  rw[e,en,J9 (Mz:=Mz)]
  unfold Jz
  simp only at ls by_ ⊢
  unfold It.cells at by_
  have kk:((k=4)=True/\(k==(4:Int))=true)\/((k=4)=False/\(k==(4:Int))=false):=by
    by_cases h:k=4
    · exact .inl ⟨eq_true h,by simp[h]⟩
    · exact .inr ⟨eq_false h,by simp[h]⟩
  generalize Afs before (Bj (B8 ⟨k,nn',t⟩))=l at ls ⊢
  generalize MY before=bb at em ⊢
  generalize okS t=v at va ⊢
  generalize Bj (B8 ⟨k,nn',t⟩)=B at by_ ls
  rcases kk with⟨k4',k4⟩|⟨k4',k4⟩
  · cases v
    · simp(disch:=omega)only[B4,B3,Int.reduceBEq,k4,va,em,by_,ls,L,tt,Cv,Ev,and_self,true_and,and_true,and_false,false_and,if_true,if_false,Int.reduceEq,Bool.true_eq_false,Bool.false_eq_true,reduceCtorEq,k4']
    · cases key
      · simp(disch:=omega)only[B4,B3,Int.reduceBEq,k4,va,em,by_,ls,L,tt,Cv,Ev,and_self,true_and,and_true,and_false,false_and,if_true,if_false,Int.reduceEq,Bool.true_eq_false,Bool.false_eq_true,reduceCtorEq,k4']
      · cases bb
        · cases l
          · simp(disch:=omega)only[B4,B3,Int.reduceBEq,k4,va,em,by_,ls,L,tt,Cv,Ev,and_self,true_and,and_true,and_false,false_and,if_true,if_false,Int.reduceEq,Bool.true_eq_false,Bool.false_eq_true,reduceCtorEq,k4']
          · simp(disch:=omega)only[B4,B3,Int.reduceBEq,k4,va,em,by_,ls,L,tt,Cv,Ev,and_self,true_and,and_true,and_false,false_and,if_true,if_false,Int.reduceEq,Bool.true_eq_false,Bool.false_eq_true,reduceCtorEq,k4']
        · simp(disch:=omega)only[B4,B3,Int.reduceBEq,k4,va,em,by_,ls,L,tt,Cv,Ev,and_self,true_and,and_true,and_false,false_and,if_true,if_false,Int.reduceEq,Bool.true_eq_false,Bool.false_eq_true,reduceCtorEq,k4']
  · cases key
    · simp(disch:=omega)only[B4,B3,Int.reduceBEq,k4,va,em,by_,ls,L,tt,Cv,Ev,and_self,true_and,and_true,and_false,false_and,if_true,if_false,Int.reduceEq,Bool.true_eq_false,Bool.false_eq_true,reduceCtorEq,k4']
    · cases bb
      · cases l
        · simp(disch:=omega)only[B4,B3,Int.reduceBEq,k4,va,em,by_,ls,L,tt,Cv,Ev,and_self,true_and,and_true,and_false,false_and,if_true,if_false,Int.reduceEq,Bool.true_eq_false,Bool.false_eq_true,reduceCtorEq,k4']
        · simp(disch:=omega)only[B4,B3,Int.reduceBEq,k4,va,em,by_,ls,L,tt,Cv,Ev,and_self,true_and,and_true,and_false,false_and,if_true,if_false,Int.reduceEq,Bool.true_eq_false,Bool.false_eq_true,reduceCtorEq,k4']
      · simp(disch:=omega)only[B4,B3,Int.reduceBEq,k4,va,em,by_,ls,L,tt,Cv,Ev,and_self,true_and,and_true,and_false,false_and,if_true,if_false,Int.reduceEq,Bool.true_eq_false,Bool.false_eq_true,reduceCtorEq,k4']
theorem Aoz{C7:ByteArray}{Ci:Int}{Eb:Nat}{Dw:Ab}{a1:Int}{a2:Bool}{a3:ByteArray}(Bn:1000<=fu){depth k:Int}{n nn':Nat}{key nest:Bool}{before s t0:ByteArray}{at_:Nat}{o:List It}{nn:Nat}(Mz:0<nn)(ho:o.length<=1000)(hk:k=3\/k=4)(hn:n<=1024)(ha:at_+n<=s.size)(hs:s.size<=1000000){t:ByteArray}(ht:t=Bj (((Cy s).drop at_).take n)):
    Ak fu (Ar C0 prog fu (d+3)) C7 Ci Eb Dw a1 a2 a3 nn depth key before (n:Int) true nest s (at_:Int) o.length (Ay o) k (nn':Int) t0 =
      (if Jz key before ⟨k,0,t⟩=0 then Bc fu (Ar C0 prog fu (d+3)) C7 Ci Eb Dw a1 a2 a3 fu depth (n:Int) nest Fv 0 s ((at_+n:Nat):Int) (o++[It.mk k 0 t]).length (Ay (o++[It.mk k 0 t])) k 0 t
       else some ⟨[At (Jz key before ⟨k,0,t⟩)],[Y9 s (at_+n) o]⟩):=by
  have hts:t.size<=1024:=by
    rw[ht,Hp,List.length_take]
    omega
  have L:=Cw o
  have tt:List.take (o.length*3) (Ay o)=Ay o:=Gv (by omega)
  have va:=Vl (fu:=fu) (d:=d+2) t (by omega)
  have by_:=EL (fu:=fu) (d:=d) (x:=⟨k,0,t⟩) Bn ⟨by simp only;omega,by simp only;omega,by simp,by simp only;omega⟩ (hk.elim (fun h=>.inl h) (fun h=>.inr (.inl h)))
  have ls:=All (fu:=fu) (d:=d+2) before (Bj (B8 ⟨k,0,t⟩))
  have e:Ay (o++[It.mk k 0 t])=Ay o++[PV.sc (Value.int IntKind.i64 k),PV.sc (Value.int IntKind.u64 0),PV.sc (Value.string t)]:=U8 o [It.mk k 0 t]
  have en:(o++[It.mk k 0 t]).length=o.length+1:=by simp
  have em:(Array.toList (ByteArray.data before)==Array.toList (ByteArray.data (ByteArray.mk #[])))=MY before:=rfl
  have w1:wrap .i64 (n:Int)=n:=Ag (by omega) (by omega)
  have w2:wrap .i64 ((at_:Int)+(n:Int))=((at_+n:Nat):Int):=by rw[Ag (by omega) (by omega)];omega
  have n1:Int.toNat (at_:Int)=at_:=H0 _
  have n2:Int.toNat ((at_+n:Nat):Int)=at_+n:=H0 _
  have ex:s.extract at_ (at_+n)=t:=by rw[ht];exact Adu
  rw[e,en,J9 (Mz:=Mz)]
  unfold Jz
  simp only at ls by_ ⊢
  unfold It.cells at by_
  clear ht
  have kk:((k=4)=True/\(k==(4:Int))=true)\/((k=4)=False/\(k==(4:Int))=false):=by
    by_cases h:k=4
    · exact .inl ⟨eq_true h,by simp[h]⟩
    · exact .inr ⟨eq_false h,by simp[h]⟩
  generalize Afs before (Bj (B8 ⟨k,0,t⟩))=l at ls ⊢
  generalize MY before=bb at em ⊢
  generalize okS t=v at va ⊢
  generalize Bj (B8 ⟨k,0,t⟩)=B at by_ ls
  rcases kk with⟨k4',k4⟩|⟨k4',k4⟩
  · cases v
    · simp(disch:=omega)only[B4,B3,w1,w2,n1,n2,ex,Int.reduceBEq,k4,va,em,by_,ls,L,tt,Cv,Ev,and_self,true_and,and_true,and_false,false_and,if_true,if_false,Int.reduceEq,Bool.true_eq_false,Bool.false_eq_true,reduceCtorEq,k4']
    · cases key
      · simp(disch:=omega)only[B4,B3,w1,w2,n1,n2,ex,Int.reduceBEq,k4,va,em,by_,ls,L,tt,Cv,Ev,and_self,true_and,and_true,and_false,false_and,if_true,if_false,Int.reduceEq,Bool.true_eq_false,Bool.false_eq_true,reduceCtorEq,k4']
      · cases bb
        · cases l
          · simp(disch:=omega)only[B4,B3,w1,w2,n1,n2,ex,Int.reduceBEq,k4,va,em,by_,ls,L,tt,Cv,Ev,and_self,true_and,and_true,and_false,false_and,if_true,if_false,Int.reduceEq,Bool.true_eq_false,Bool.false_eq_true,reduceCtorEq,k4']
          · simp(disch:=omega)only[B4,B3,w1,w2,n1,n2,ex,Int.reduceBEq,k4,va,em,by_,ls,L,tt,Cv,Ev,and_self,true_and,and_true,and_false,false_and,if_true,if_false,Int.reduceEq,Bool.true_eq_false,Bool.false_eq_true,reduceCtorEq,k4']
        · simp(disch:=omega)only[B4,B3,w1,w2,n1,n2,ex,Int.reduceBEq,k4,va,em,by_,ls,L,tt,Cv,Ev,and_self,true_and,and_true,and_false,false_and,if_true,if_false,Int.reduceEq,Bool.true_eq_false,Bool.false_eq_true,reduceCtorEq,k4']
  · cases key
    · simp(disch:=omega)only[B4,B3,w1,w2,n1,n2,ex,Int.reduceBEq,k4,va,em,by_,ls,L,tt,Cv,Ev,and_self,true_and,and_true,and_false,false_and,if_true,if_false,Int.reduceEq,Bool.true_eq_false,Bool.false_eq_true,reduceCtorEq,k4']
    · cases bb
      · cases l
        · simp(disch:=omega)only[B4,B3,w1,w2,n1,n2,ex,Int.reduceBEq,k4,va,em,by_,ls,L,tt,Cv,Ev,and_self,true_and,and_true,and_false,false_and,if_true,if_false,Int.reduceEq,Bool.true_eq_false,Bool.false_eq_true,reduceCtorEq,k4']
        · simp(disch:=omega)only[B4,B3,w1,w2,n1,n2,ex,Int.reduceBEq,k4,va,em,by_,ls,L,tt,Cv,Ev,and_self,true_and,and_true,and_false,false_and,if_true,if_false,Int.reduceEq,Bool.true_eq_false,Bool.false_eq_true,reduceCtorEq,k4']
      · simp(disch:=omega)only[B4,B3,w1,w2,n1,n2,ex,Int.reduceBEq,k4,va,em,by_,ls,L,tt,Cv,Ev,and_self,true_and,and_true,and_false,false_and,if_true,if_false,Int.reduceEq,Bool.true_eq_false,Bool.false_eq_true,reduceCtorEq,k4']
end
section
variable {fu d:Nat}
set_option maxHeartbeats 4000000 in
theorem Aud(Bn:1000<=fu){depth:Int}{key:Bool}{before s:ByteArray}{at_:Nat}{o:List It}(hs:s.size<=1000000)(ha:at_<=s.size)(ho:o.length<=1000):
    Ar C0 prog fu (d+4) 117 [.pbox (Y9 s at_ o),At depth,.sc (.bool key),.sc (.string before)] =
      (if (Bg (Cy s) at_).e≠0 then some ⟨[At (Bg (Cy s) at_).e],[Y9 s (Zw (Cy s) at_) o]⟩
       else if Mx (Bg (Cy s) at_).k (Bg (Cy s) at_).n depth key o.length (s.size-(Bg (Cy s) at_).at_)≠0 then
         some ⟨[At (Mx (Bg (Cy s) at_).k (Bg (Cy s) at_).n depth key o.length (s.size-(Bg (Cy s) at_).at_))],[Y9 s (Zw (Cy s) at_) o]⟩
       else Ak fu (Ar C0 prog fu (d+3)) s (at_:Int) o.length (Ay o) depth key before fu depth key before (Bg (Cy s) at_).n (Ok (Bg (Cy s) at_).k) (Ss (Bg (Cy s) at_).k) s ((Bg (Cy s) at_).at_:Int) o.length (Ay o) (Bg (Cy s) at_).k (Bg (Cy s) at_).n Fv):=by
  refine (V2 fu (d+3) s (at_:Int) o.length (Ay o) depth key before).trans ?_
  have hd:=Apy (fu:=fu) (d:=d+2) (s:=s) (at_:=at_) (o:=o) Bn hs (by omega)
  have ok:=Tu (b:=Cy s) (at_:=at_) (Zp s) (by rw[Gi];exact ha)
  have L:=Cw o
  have t:List.take (o.length*3) (Ay o)=Ay o:=Gv (by omega)
  rw[Gi] at ok
  have eA:(Bg (Cy s) at_).e=0->Zw (Cy s) at_=(Bg (Cy s) at_).at_:=by
    intro h
    unfold Zw
    rw[Bq h]
  generalize Zw (Cy s) at_=A at hd eA ⊢
  generalize Bg (Cy s) at_=h at hd ok eA ⊢
  obtain⟨k,n,e,a⟩:=h
  simp only at hd ok eA ⊢
  by_cases he:e=0
  rotate_left
  · have Y6:(e != 0)=true:=by simp[he]
    rw[Bq he]
    repeat(with_reducible(first|apply Aj|apply Ad|apply Ah|apply Ao|apply Ax|apply Bb|apply Au|apply Ae|apply Ai|apply Ct);· first|constructor|(simp(disch:=omega)only[Cu,hd,Y6,L,t]<;>first|constructor|omega)|omega)
    try simp(disch:=omega)only[Aa,hd,Y6,L,t]
    all_goals rfl
  subst he
  obtain rfl:=eA rfl
  obtain⟨ha',hk⟩:=ok
  obtain⟨k1,k8,n0,n1,_⟩:=hk rfl
  have e00:((0:Int) != 0)=false:=rfl
  have ik:=Ar4 (fu:=fu) (d:=d+2) k
  rw[A5 (by simp)]
  have w1:wrap .i64 ((s.size:Int)-(A:Int))=((s.size-A:Nat):Int):=by rw[Ag (by omega) (by omega)];omega
  have w2:wrap .u64 ((s.size-A:Nat):Int)=((s.size-A:Nat):Int):=Cd (by omega) (by omega)
  generalize s.size-A=rest at w1 w2 ⊢
  unfold Mx
  by_cases c1:512<=o.length
  · simp only[c1,if_true,ne_eq,Int.reduceEq,Aem]
    have:k=1\/k=2\/k=3\/k=4\/k=5\/k=6\/k=7\/k=8:=by omega
    rcases this with rfl|rfl|rfl|rfl|rfl|rfl|rfl|rfl
    all_goals
      repeat(with_reducible(first|apply Aj|apply Ad|apply Ah|apply Ao|apply Ax|apply Bb|apply Au|apply Ae|apply Ai|apply Ct);· first|constructor|(simp(disch:=omega)only[Cu,hd,e00,L,t,Int.reduceBEq]<;>first|constructor|omega)|omega)
      try simp(disch:=omega)only[Aa,hd,e00,L,t,Int.reduceBEq]
    all_goals rfl
  rw[A5 c1]
  by_cases c2:key=true/\NT k=false
  · obtain⟨rfl,c2⟩:=c2
    rw[c2] at ik
    simp only[c2,and_self,if_true,ne_eq,Int.reduceEq,Aem]
    have:k=1\/k=2\/k=3\/k=4\/k=5\/k=6\/k=7\/k=8:=by omega
    rcases this with rfl|rfl|rfl|rfl|rfl|rfl|rfl|rfl
    all_goals
      repeat(with_reducible(first|apply Aj|apply Ad|apply Ah|apply Ao|apply Ax|apply Bb|apply Au|apply Ae|apply Ai|apply Ct);· first|constructor|(simp(disch:=omega)only[Cu,hd,e00,L,t,Int.reduceBEq,ik,Cv,Ev]<;>first|constructor|omega)|omega)
      try simp(disch:=omega)only[Aa,hd,e00,L,t,Int.reduceBEq,ik,Cv,Ev]
    all_goals rfl
  rw[A5 c2]
  have key2:key=false\/key=true/\NT k=true:=by
    cases key
    · exact .inl rfl
    · exact .inr ⟨rfl,by simpa using c2⟩
  clear c2
  have fin:∀(p q:Option D0),p=q->p=q:=fun _ _ h=>h
  by_cases c3:depth>8
  · simp only[c3,if_true,ne_eq,Int.reduceEq,Aem]
    have:k=1\/k=2\/k=3\/k=4\/k=5\/k=6\/k=7\/k=8:=by omega
    rcases key2 with rfl|⟨rfl,k2⟩
    · rcases this with rfl|rfl|rfl|rfl|rfl|rfl|rfl|rfl
      all_goals
        repeat(with_reducible(first|apply Aj|apply Ad|apply Ah|apply Ao|apply Ax|apply Bb|apply Au|apply Ae|apply Ai|apply Ct);· first|constructor|(simp(disch:=omega)only[Cu,hd,e00,L,t,Int.reduceBEq,Cv,Ev]<;>first|constructor|omega)|omega)
        try simp(disch:=omega)only[Aa,hd,e00,L,t,Int.reduceBEq,Cv,Ev]
      all_goals rfl
    · rw[k2] at ik
      rcases this with rfl|rfl|rfl|rfl|rfl|rfl|rfl|rfl
      all_goals
        repeat(with_reducible(first|apply Aj|apply Ad|apply Ah|apply Ao|apply Ax|apply Bb|apply Au|apply Ae|apply Ai|apply Ct);· first|constructor|(simp(disch:=omega)only[Cu,hd,e00,L,t,Int.reduceBEq,ik,Cv,Ev]<;>first|constructor|omega)|omega)
        try simp(disch:=omega)only[Aa,hd,e00,L,t,Int.reduceBEq,ik,Cv,Ev]
      all_goals rfl
  rw[A5 c3]
  have kk:(Ok k=true/\Ss k=false/\(k=3\/k=4))\/(Ok k=false/\Ss k=true/\(k=5\/k=6))\/(Ok k=false/\Ss k=false/\(k=1\/k=2\/k=7\/k=8)):=by
    have:k=1\/k=2\/k=3\/k=4\/k=5\/k=6\/k=7\/k=8:=by omega
    rcases this with rfl|rfl|rfl|rfl|rfl|rfl|rfl|rfl<;>simp[Ok,Ss]
  rcases kk with⟨q1,q2,kk⟩|⟨q1,q2,kk⟩|⟨q1,q2,kk⟩
  · rw[q1,q2]
    simp only[true_and,Bool.false_eq_true,false_and,if_false]
    by_cases c4:n>1024
    · simp only[c4,if_true,ne_eq,Int.reduceEq,Aem]
      rcases key2 with rfl|⟨rfl,k2⟩
      · rcases kk with rfl|rfl
        all_goals
          repeat(with_reducible(first|apply Aj|apply Ad|apply Ah|apply Ao|apply Ax|apply Bb|apply Au|apply Ae|apply Ai|apply Ct);· first|constructor|(simp(disch:=omega)only[Cu,hd,e00,L,t,Int.reduceBEq,Cv,Ev]<;>first|constructor|omega)|omega)
          try simp(disch:=omega)only[Aa,hd,e00,L,t,Int.reduceBEq,Cv,Ev]
        all_goals rfl
      · rw[k2] at ik
        rcases kk with rfl|rfl
        all_goals
          repeat(with_reducible(first|apply Aj|apply Ad|apply Ah|apply Ao|apply Ax|apply Bb|apply Au|apply Ae|apply Ai|apply Ct);· first|constructor|(simp(disch:=omega)only[Cu,hd,e00,L,t,Int.reduceBEq,ik,Cv,Ev]<;>first|constructor|omega)|omega)
          try simp(disch:=omega)only[Aa,hd,e00,L,t,Int.reduceBEq,ik,Cv,Ev]
        all_goals rfl
    rw[A5 c4]
    by_cases c5:(rest:Int)<n
    · simp only[c5,if_true,ne_eq,Int.reduceEq,Aem]
      rcases key2 with rfl|⟨rfl,k2⟩
      · rcases kk with rfl|rfl
        all_goals
          repeat(with_reducible(first|apply Aj|apply Ad|apply Ah|apply Ao|apply Ax|apply Bb|apply Au|apply Ae|apply Ai|apply Ct);· first|constructor|(simp(disch:=omega)only[Cu,hd,e00,L,t,Int.reduceBEq,w1,w2,Cv,Ev]<;>first|constructor|omega)|omega)
          try simp(disch:=omega)only[Aa,hd,e00,L,t,Int.reduceBEq,w1,w2,Cv,Ev]
        all_goals rfl
      · rw[k2] at ik
        rcases kk with rfl|rfl
        all_goals
          repeat(with_reducible(first|apply Aj|apply Ad|apply Ah|apply Ao|apply Ax|apply Bb|apply Au|apply Ae|apply Ai|apply Ct);· first|constructor|(simp(disch:=omega)only[Cu,hd,e00,L,t,Int.reduceBEq,w1,w2,ik,Cv,Ev]<;>first|constructor|omega)|omega)
          try simp(disch:=omega)only[Aa,hd,e00,L,t,Int.reduceBEq,w1,w2,ik,Cv,Ev]
        all_goals rfl
    rw[A5 c5,A5 (by simp)]
    rcases key2 with rfl|⟨rfl,k2⟩
    · rcases kk with rfl|rfl
      all_goals
        repeat(with_reducible(first|apply Aj|apply Ad|apply Ah|apply Ao|apply Ax|apply Bb|apply Au|apply Ae|apply Ai|apply Ct);· first|constructor|(simp(disch:=omega)only[Cu,hd,e00,L,t,Int.reduceBEq,w1,w2,Cv,Ev]<;>first|constructor|omega)|omega)
        try simp(disch:=omega)only[Aa,hd,e00,L,t,Int.reduceBEq,w1,w2,Cv,Ev]
      all_goals rfl
    · rw[k2] at ik
      rcases kk with rfl|rfl
      all_goals
        repeat(with_reducible(first|apply Aj|apply Ad|apply Ah|apply Ao|apply Ax|apply Bb|apply Au|apply Ae|apply Ai|apply Ct);· first|constructor|(simp(disch:=omega)only[Cu,hd,e00,L,t,Int.reduceBEq,w1,w2,ik,Cv,Ev]<;>first|constructor|omega)|omega)
        try simp(disch:=omega)only[Aa,hd,e00,L,t,Int.reduceBEq,w1,w2,ik,Cv,Ev]
      all_goals rfl
  · rw[q1,q2]
    simp only[true_and,Bool.false_eq_true,false_and,if_false]
    by_cases c4:n>512
    · simp only[c4,if_true,ne_eq,Int.reduceEq,Aem]
      rcases key2 with rfl|⟨rfl,k2⟩
      · rcases kk with rfl|rfl
        all_goals
          repeat(with_reducible(first|apply Aj|apply Ad|apply Ah|apply Ao|apply Ax|apply Bb|apply Au|apply Ae|apply Ai|apply Ct);· first|constructor|(simp(disch:=omega)only[Cu,hd,e00,L,t,Int.reduceBEq,Cv,Ev]<;>first|constructor|omega)|omega)
          try simp(disch:=omega)only[Aa,hd,e00,L,t,Int.reduceBEq,Cv,Ev]
        all_goals rfl
      · rw[k2] at ik
        rcases kk with rfl|rfl
        all_goals
          repeat(with_reducible(first|apply Aj|apply Ad|apply Ah|apply Ao|apply Ax|apply Bb|apply Au|apply Ae|apply Ai|apply Ct);· first|constructor|(simp(disch:=omega)only[Cu,hd,e00,L,t,Int.reduceBEq,ik,Cv,Ev]<;>first|constructor|omega)|omega)
          try simp(disch:=omega)only[Aa,hd,e00,L,t,Int.reduceBEq,ik,Cv,Ev]
        all_goals rfl
    rw[A5 c4,A5 (by simp)]
    rcases key2 with rfl|⟨rfl,k2⟩
    · rcases kk with rfl|rfl
      all_goals
        repeat(with_reducible(first|apply Aj|apply Ad|apply Ah|apply Ao|apply Ax|apply Bb|apply Au|apply Ae|apply Ai|apply Ct);· first|constructor|(simp(disch:=omega)only[Cu,hd,e00,L,t,Int.reduceBEq,w1,w2,Cv,Ev]<;>first|constructor|omega)|omega)
        try simp(disch:=omega)only[Aa,hd,e00,L,t,Int.reduceBEq,w1,w2,Cv,Ev]
      all_goals rfl
    · rw[k2] at ik
      rcases kk with rfl|rfl
      all_goals
        repeat(with_reducible(first|apply Aj|apply Ad|apply Ah|apply Ao|apply Ax|apply Bb|apply Au|apply Ae|apply Ai|apply Ct);· first|constructor|(simp(disch:=omega)only[Cu,hd,e00,L,t,Int.reduceBEq,w1,w2,ik,Cv,Ev]<;>first|constructor|omega)|omega)
        try simp(disch:=omega)only[Aa,hd,e00,L,t,Int.reduceBEq,w1,w2,ik,Cv,Ev]
      all_goals rfl
  · rw[q1,q2]
    simp only[true_and,Bool.false_eq_true,false_and,if_false,ne_eq,not_true_eq_false]
    rcases key2 with rfl|⟨rfl,k2⟩
    · rcases kk with rfl|rfl|rfl|rfl
      all_goals
        repeat(with_reducible(first|apply Aj|apply Ad|apply Ah|apply Ao|apply Ax|apply Bb|apply Au|apply Ae|apply Ai|apply Ct);· first|constructor|(simp(disch:=omega)only[Cu,hd,e00,L,t,Int.reduceBEq,w1,w2,Cv,Ev]<;>first|constructor|omega)|omega)
        try simp(disch:=omega)only[Aa,hd,e00,L,t,Int.reduceBEq,w1,w2,Cv,Ev]
      all_goals rfl
    · rw[k2] at ik
      rcases kk with rfl|rfl|rfl|rfl
      all_goals
        repeat(with_reducible(first|apply Aj|apply Ad|apply Ah|apply Ao|apply Ax|apply Bb|apply Au|apply Ae|apply Ai|apply Ct);· first|constructor|(simp(disch:=omega)only[Cu,hd,e00,L,t,Int.reduceBEq,w1,w2,ik,Cv,Ev]<;>first|constructor|omega)|omega)
        try simp(disch:=omega)only[Aa,hd,e00,L,t,Int.reduceBEq,w1,w2,ik,Cv,Ev]
      all_goals rfl
end
def V9(f:Bool->ByteArray->Nat->List It->Int × Nat × List It)(mp:Bool):Nat->ByteArray->Nat->List It->Int × Nat × List It
 |0,_,at_,o=>(0,at_,o)
 |c+1,last,at_,o=>
  if mp=true then
   if (f true last at_ o).1≠0 then f true last at_ o
   else if (f false Fv (f true last at_ o).2.1 (f true last at_ o).2.2).1≠0 then f false Fv (f true last at_ o).2.1 (f true last at_ o).2.2
   else V9 f mp c (Bj (B8 ((f true last at_ o).2.2.getD o.length it0))) (f false Fv (f true last at_ o).2.1 (f true last at_ o).2.2).2.1 (f false Fv (f true last at_ o).2.1 (f true last at_ o).2.2).2.2
  else if (f false Fv at_ o).1≠0 then f false Fv at_ o
  else V9 f mp c last (f false Fv at_ o).2.1 (f false Fv at_ o).2.2
def QU(b:Ca)(h:Hd):It × Nat:=if Ok h.k=true then (⟨h.k,0,Bj ((b.drop h.at_).take h.n.toNat)⟩,h.at_+h.n.toNat) else (⟨h.k,h.n,Fv⟩,h.at_)
def Rp(b:Ca):Nat->Int->Bool->ByteArray->Nat->List It->Int × Nat × List It
 |0,_,_,_,at_,o=>(2,at_,o)
 |m+1,depth,key,before,at_,o=>
  if (Bg b at_).e≠0 then ((Bg b at_).e,at_,o)
  else if Mx (Bg b at_).k (Bg b at_).n depth key o.length (b.length-(Bg b at_).at_)≠0 then (Mx (Bg b at_).k (Bg b at_).n depth key o.length (b.length-(Bg b at_).at_),(Bg b at_).at_,o)
  else if Jz key before (QU b (Bg b at_)).1≠0 then (Jz key before (QU b (Bg b at_)).1,(QU b (Bg b at_)).2,o)
  else if Ss (Bg b at_).k=true then V9 (Rp b m (depth+1)) ((Bg b at_).k==6) (Bg b at_).n.toNat Fv (QU b (Bg b at_)).2 (o++[(QU b (Bg b at_)).1])
  else (0,(QU b (Bg b at_)).2,o++[(QU b (Bg b at_)).1])
def OkR(x:It):Prop:=OkX x/\x.dat
structure A92(b:Ca)(o:List It)(r:Int × Nat × List It):Prop where
 at_:r.2.1<=b.length
 all:∀x∈r.2.2,OkR x
 len:o.length<=r.2.2.length
 top:r.2.2.length<=512
 grow:r.1=0->o.length<r.2.2.length
def Arv(b:Ca)(f:Bool->ByteArray->Nat->List It->Int × Nat × List It):Prop:=∀key before at_ o,at_<=b.length->(∀x∈o,OkR x)->o.length<=512->A92 b o (f key before at_ o)
theorem HF{b:Ca}{f:Bool->ByteArray->Nat->List It->Int × Nat × List It}(hf:Arv b f){mp:Bool}:∀(c:Nat)(last:ByteArray)(at_:Nat)(o:List It),at_<=b.length->(∀x∈o,OkR x)->o.length<=512 ->
  (V9 f mp c last at_ o).2.1<=b.length/\(∀x∈(V9 f mp c last at_ o).2.2,OkR x)/\o.length<=(V9 f mp c last at_ o).2.2.length/\(V9 f mp c last at_ o).2.2.length<=512
 |0,_,at_,o,h1,h2,h3=>⟨h1,h2,C9 _,h3⟩
 |c+1,last,at_,o,h1,h2,h3=>by
  unfold V9;by_cases hm:mp=true
  ·rw[Bq hm];have q:=hf true last at_ o h1 h2 h3;generalize f true last at_ o=r at q ⊢;by_cases hr:r.1=0
   ·have p:=hf false Fv r.2.1 r.2.2 q.at_ q.all q.top;rw[A5 (by simp[hr])];have:=q.len;generalize f false Fv r.2.1 r.2.2=r2 at p ⊢;by_cases hr2:r2.1=0
    ·rw[A5 (by simp[hr2])];obtain⟨i1,i2,i3,i4⟩:=HF hf (mp:=mp) c (Bj (B8 (r.2.2.getD o.length it0))) r2.2.1 r2.2.2 p.at_ p.all p.top;have:=p.len;exact⟨i1,i2,by omega,i4⟩
    ·rw[Bq (by simp[hr2])];have:=p.len;exact⟨p.at_,p.all,by omega,p.top⟩
   ·rw[Bq (by simp[hr])];exact⟨q.at_,q.all,q.len,q.top⟩
  ·rw[A5 hm];have q:=hf false Fv at_ o h1 h2 h3;generalize f false Fv at_ o=r at q ⊢;by_cases hr:r.1=0
   ·rw[A5 (by simp[hr])];obtain⟨i1,i2,i3,i4⟩:=HF hf (mp:=mp) c last r.2.1 r.2.2 q.at_ q.all q.top;have:=q.len;exact⟨i1,i2,by omega,i4⟩
   ·rw[Bq (by simp[hr])];exact⟨q.at_,q.all,q.len,q.top⟩
theorem MB{k n depth:Int}{key:Bool}{ol rest:Nat}(h:Mx k n depth key ol rest=0):ol<512/\depth<=8/\(Ok k=true->n<=1024/\n<=rest)/\(Ss k=true->n<=512):=by
 unfold Mx at h;by_cases c1:512<=ol
 ·rw[Bq c1] at h;cases h
 rw[A5 c1] at h;by_cases c2:key=true/\NT k=false
 ·rw[Bq c2] at h;cases h
 rw[A5 c2] at h;by_cases c3:depth>8
 ·rw[Bq c3] at h;cases h
 rw[A5 c3] at h;by_cases c4:Ok k=true/\n>1024
 ·rw[Bq c4] at h;cases h
 rw[A5 c4] at h;by_cases c5:Ss k=true/\n>512
 ·rw[Bq c5] at h;cases h
 rw[A5 c5] at h;by_cases c6:Ok k=true/\(rest:Int)<n
 ·rw[Bq c6] at h;cases h
 refine⟨by omega,by omega,fun hd=>⟨?_,?_⟩,fun hn=>?_⟩
 ·exact Int.not_lt.1 fun hh=>c4 ⟨hd,hh⟩
 ·exact Int.not_lt.1 fun hh=>c6 ⟨hd,hh⟩
 ·exact Int.not_lt.1 fun hh=>c5 ⟨hn,hh⟩
theorem T0(k:Int):Ok k=true↔k=3\/k=4:=by unfold Ok;simp
theorem NU(k:Int):Ss k=true↔k=5\/k=6:=by unfold Ss;simp
theorem Aqt{b:Ca}(hb:Ii b){at_:Nat}(ha:at_<=b.length)(he:(Bg b at_).e=0){depth:Int}{key:Bool}{ol:Nat}(hp:Mx (Bg b at_).k (Bg b at_).n depth key ol (b.length-(Bg b at_).at_)=0):OkR (QU b (Bg b at_)).1/\(QU b (Bg b at_)).2<=b.length/\at_<(QU b (Bg b at_)).2:=by
 obtain⟨h1,h2⟩:=Tu hb ha;obtain⟨k1,k8,n0,n1,hl⟩:=h2 he;obtain⟨_,_,p3,_⟩:=MB hp;unfold QU;by_cases hd:Ok (Bg b at_).k=true
 ·obtain⟨q1,q2⟩:=p3 hd;rw[Bq hd];refine⟨⟨⟨k1,k8,by simp,by simp,?_⟩,?_⟩,?_,?_⟩
  ·simp only;rw[Hp,List.length_take];omega
  ·rcases (T0 _).1 hd with h|h
   ·exact .inl h
   ·exact .inr (.inl h)
  ·simp only;omega
  ·simp only;omega
 ·rw[A5 hd];exact⟨⟨⟨k1,k8,n0,n1,Nat.zero_le _⟩,.inr (.inr rfl)⟩,h1,hl⟩
theorem Z3{b:Ca}(hb:Ii b):∀(m:Nat)(depth:Int),Arv b (Rp b m depth)
 |0,depth=>fun key before at_ o h1 h2 h3=>⟨h1,h2,C9 _,h3,fun h=>by simp[Rp] at h⟩
 |m+1,depth=>fun key before at_ o h1 h2 h3=>by
  have hk:=(Tu hb h1).1;unfold Rp;by_cases he:(Bg b at_).e=0
  rotate_left
  ·rw[Bq he];exact⟨h1,h2,C9 _,h3,fun h=>absurd h he⟩
  rw[A5 (by simp[he])];by_cases hp:Mx (Bg b at_).k (Bg b at_).n depth key o.length (b.length-(Bg b at_).at_)=0
  rotate_left
  ·rw[Bq hp];exact⟨hk,h2,C9 _,h3,fun h=>absurd h hp⟩
  obtain⟨x1,x2,x3⟩:=Aqt hb h1 he hp;obtain⟨p1,p2,p3,p4⟩:=MB hp;rw[A5 (by simp[hp])];by_cases hq:Jz key before (QU b (Bg b at_)).1=0
  rotate_left
  ·rw[Bq hq];exact⟨x2,h2,C9 _,h3,fun h=>absurd h hq⟩
  rw[A5 (by simp[hq])]
  have a2:∀x∈o++[(QU b (Bg b at_)).1],OkR x:=by
   intro x hx;rcases Bz.1 hx with hx|hx
   ·exact h2 x hx
   ·simp at hx;subst hx;exact x1
  have a3:(o++[(QU b (Bg b at_)).1]).length=o.length+1:=by simp
  by_cases hn:Ss (Bg b at_).k=true
  ·rw[Bq hn];obtain⟨i1,i2,i3,i4⟩:=HF (Z3 hb m (depth+1)) (mp:=(Bg b at_).k==6) (Bg b at_).n.toNat Fv (QU b (Bg b at_)).2 (o++[(QU b (Bg b at_)).1]) x2 a2 (by omega);exact⟨i1,i2,by omega,i4,fun _=>by omega⟩
  ·rw[A5 hn];exact⟨x2,a2,by simp only;omega,by simp only;omega,fun _=>by simp only;omega⟩
def YG(s:ByteArray)(r:Int × Nat × List It):D0:=⟨[At r.1],[Y9 s r.2.1 r.2.2]⟩
section
variable {fu d:Nat}
theorem VF(Bn:1000<=fu){C7:ByteArray}{Ci:Int}{Eb:Nat}{Dw:Ab}{a1:Int}{a2:Bool}{a3:ByteArray}{s:ByteArray}{depth k kn:Int}{kt:ByteArray}(hd0:0<=depth)(hd8:depth<=8){f:Bool->ByteArray->Nat->List It->Int × Nat × List It}(hff:Arv (Cy s) f)(hf:∀key before at_ o,at_<=s.size->o.length<=512->(∀x∈o,OkR x)->Ar C0 prog fu (d+3) 117 [.pbox (Y9 s at_ o),At (depth+1),.sc (.bool key),.sc (.string before)]=some (YG s (f key before at_ o))){n:Nat}(hn:n<=512):
  ∀(c i nn:Nat) (last:ByteArray) (at_:Nat) (o:List It),i+c=n->c<nn->at_<=s.size->o.length<=512->(∀x∈o,OkR x) ->
  Bc fu (Ar C0 prog fu (d+3)) C7 Ci Eb Dw a1 a2 a3 nn depth (n:Int) true last (i:Int) s (at_:Int) o.length (Ay o) k kn kt=some (YG s (V9 f (k==6) c last at_ o))
 |_,_,0,_,_,_,_,h,_,_,_=>by omega
 |0,i,nn+1,last,at_,o,hi,hc,ha,ho,hx=>by
  have L:=Cw o;have t:List.take (o.length*3) (Ay o)=Ay o:=Gv (by omega);rw[Fl]
  repeat(with_reducible(first|apply Aj|apply Ad|apply Ah|apply Ax|apply Bb|apply Gm|apply Ae|apply Ai|apply Ct);· first|constructor|(simp(disch:=omega)only[Cu,L,t]<;>first|constructor|omega)|omega)
  try simp(disch:=omega)only[Aa,L,t]
  all_goals rfl
 |c+1,i,nn+1,last,at_,o,hi,hc,ha,ho,hx=>by
  have L:=Cw o;have t:List.take (o.length*3) (Ay o)=Ay o:=Gv (by omega);have w1:wrap .i64 (depth+1)=depth+1:=Ag (by omega) (by omega);have w2:wrap .u64 ((i:Int)+1)=((i+1:Nat):Int):=by rw[Cd (by omega) (by omega)];omega
  have Kz:=Gi s;rw[Fl];unfold V9;by_cases hm:k=6
  rotate_left
  ·have M4:(k==(6:Int))=false:=by simp[hm]
   rw[M4,A5 (by simp)];have q:=hf false Fv at_ o ha ho hx;have fq:=hff false Fv at_ o (by omega) hx ho;generalize f false Fv at_ o=r at q fq ⊢;obtain⟨e,a,o'⟩:=r;have f1:=fq.at_;have f2:=fq.all;have f4:=fq.top;simp only[YG] at q f1 f2 f4 ⊢;have L':=Cw o';have t':List.take (o'.length*3) (Ay o')=Ay o':=Gv (by omega);by_cases he:e=0
   ·subst he;have ih:=VF Bn (C7:=C7) (Ci:=Ci) (Eb:=Eb) (Dw:=Dw) (a1:=a1) (a2:=a2) (a3:=a3) (k:=k) (kn:=kn) (kt:=kt) hd0 hd8 hff hf hn c (i+1) nn last a o' (by omega) (by omega) (by omega) f4 f2;rw[M4] at ih;have e00:((0:Int) != 0)=false:=rfl;rw[A5 (by simp)];simp only[YG] at ih;rw[<-ih]
    repeat(with_reducible(first|apply Aj|apply Ad|apply Ah|apply Ax|apply Bb|apply Gm|apply Ae|apply Ai|apply Ct);· first|constructor|(simp(disch:=omega)only[Cu,L,t,w1,w2,M4,q,e00]<;>first|constructor|omega)|omega)
    try simp(disch:=omega)only[Aa,L,t,w1,w2,M4,q,e00]
    all_goals rfl
   ·have Y6:(e != 0)=true:=by simp[he]
    rw[Bq he]
    repeat(with_reducible(first|apply Aj|apply Ad|apply Ah|apply Ax|apply Bb|apply Gm|apply Ae|apply Ai|apply Ct);· first|constructor|(simp(disch:=omega)only[Cu,L,t,w1,w2,M4,q,Y6,L',t']<;>first|constructor|omega)|omega)
    try simp(disch:=omega)only[Aa,L,t,w1,w2,M4,q,Y6,L',t']
    all_goals rfl
  ·subst hm;have M4:((6:Int)==(6:Int))=true:=rfl;rw[M4,Bq rfl];have q:=hf true last at_ o ha ho hx;have fq:=hff true last at_ o (by omega) hx ho;generalize f true last at_ o=r at q fq ⊢;obtain⟨e,a,o'⟩:=r;have f1:=fq.at_;have f2:=fq.all;have f4:=fq.top;have f5:=fq.grow;simp only[YG] at q f1 f2 f4 f5 ⊢;have L':=Cw o';have t':List.take (o'.length*3) (Ay o')=Ay o':=Gv (by omega);by_cases he:e=0
   rotate_left
   ·have Y6:(e != 0)=true:=by simp[he]
    rw[Bq he]
    repeat(with_reducible(first|apply Aj|apply Ad|apply Ah|apply Ax|apply Bb|apply Gm|apply Ae|apply Ai|apply Ct);· first|constructor|(simp(disch:=omega)only[Cu,L,t,w1,w2,M4,q,Y6,L',t']<;>first|constructor|omega)|omega)
    try simp(disch:=omega)only[Aa,L,t,w1,w2,M4,q,Y6,L',t']
    all_goals rfl
   subst he;have f5:=f5 rfl;have e00:((0:Int) != 0)=false:=rfl;rw[A5 (by simp)];obtain⟨x,hxg⟩:∃x,o'[o.length]?=some x:=⟨_,List.getElem?_eq_getElem f5⟩
   have hxo:=f2 x (List.mem_of_getElem? hxg);have gx:o'.getD o.length it0=x:=by rw[List.getD_eq_getElem?_getD,hxg];rfl
   rw[gx];obtain⟨c0,c1,c2⟩:=aci hxg;have by_:=EL (fu:=fu) (d:=d) (x:=x) Bn ⟨hxo.1.k1,hxo.1.k8,hxo.1.n0,Nat.le_trans hxo.1.s1 (by omega)⟩ hxo.2;obtain⟨xk,xn,xs⟩:=x;unfold It.cells at by_;simp only at c0 c1 c2 by_;have nt:Int.toNat (o.length:Int)=o.length:=H0 _;have q2:=hf false Fv a o' (by omega) f4 f2;have fq2:=hff false Fv a o' f1 f2 f4;generalize Bj (B8 ⟨xk,xn,xs⟩)=last' at by_ ⊢;generalize f false Fv a o'=r2 at q2 fq2 ⊢;obtain⟨e2,a2',o2⟩:=r2;have g1:=fq2.at_;have g2:=fq2.all;have g4:=fq2.top;simp only[YG] at q2 g1 g2 g4 ⊢;have L2:=Cw o2;have t2:List.take (o2.length*3) (Ay o2)=Ay o2:=Gv (by omega);by_cases he2:e2=0
   ·subst he2;have ih:=VF Bn (C7:=C7) (Ci:=Ci) (Eb:=Eb) (Dw:=Dw) (a1:=a1) (a2:=a2) (a3:=a3) (k:=6) (kn:=kn) (kt:=kt) hd0 hd8 hff hf hn c (i+1) nn last' a2' o2 (by omega) (by omega) (by omega) g4 g2;rw[M4] at ih;rw[A5 (by simp)];simp only[YG] at ih;rw[<-ih]
    repeat(with_reducible(first|apply Aj|apply Ad|apply Ah|apply Ax|apply Bb|apply Gm|apply Ae|apply Ai|apply Ct);· first|constructor|(simp(disch:=omega)only[Cu,L,t,w1,w2,M4,q,e00,L',t',Cm,nt,c0,c1,c2,by_,q2]<;>first|constructor|omega)|omega)
    try simp(disch:=omega)only[Aa,L,t,w1,w2,M4,q,e00,L',t',Cm,nt,c0,c1,c2,by_,q2]
    all_goals rfl
   ·have Y6:(e2 != 0)=true:=by simp[he2]
    rw[Bq he2]
    repeat(with_reducible(first|apply Aj|apply Ad|apply Ah|apply Ax|apply Bb|apply Gm|apply Ae|apply Ai|apply Ct);· first|constructor|(simp(disch:=omega)only[Cu,L,t,w1,w2,M4,q,e00,L',t',Cm,nt,c0,c1,c2,by_,q2,Y6,L2,t2]<;>first|constructor|omega)|omega)
    try simp(disch:=omega)only[Aa,L,t,w1,w2,M4,q,e00,L',t',Cm,nt,c0,c1,c2,by_,q2,Y6,L2,t2]
    all_goals rfl
theorem As9(Bn:1000<=fu){s:ByteArray}(hs:s.size<=1000000):∀(m:Nat)(depth:Int)(key:Bool)(before:ByteArray)(at_:Nat)(o:List It),0<=depth->9<=depth+m->depth<=9->at_<=s.size->o.length<=512->(∀x∈o,OkR x) ->
  Ar C0 prog fu (d+4+m) 117 [.pbox (Y9 s at_ o),At depth,.sc (.bool key),.sc (.string before)]=some (YG s (Rp (Cy s) (m+1) depth key before at_ o)):=by
 intro m
 induction m with
 |zero=>
  intro depth key before at_ o d0 dm d9 ha ho hx;have pr:=Aud (fu:=fu) (d:=d) Bn (depth:=depth) (key:=key) (before:=before) hs ha (o:=o) (by omega);have Kz:=Gi s;rw[JF,pr];unfold Rp Zw;rw[Kz];by_cases he:(Bg (Cy s) at_).e=0
  rotate_left
  ·rw[Bq he,Bq he,A5 he];rfl
  have Y6:¬((Bg (Cy s) at_).e≠0):=by simp[he]
  rw[A5 Y6,A5 Y6];by_cases hp:Mx (Bg (Cy s) at_).k (Bg (Cy s) at_).n depth key o.length (s.size-(Bg (Cy s) at_).at_)=0
  ·obtain⟨_,p2,_⟩:=MB hp;omega
  ·rw[Bq hp,Bq hp,Bq he];rfl
 |succ m ih=>
  intro depth key before at_ o d0 dm d9 ha ho hx;have pr:=Aud (fu:=fu) (d:=d+1+m) Bn (depth:=depth) (key:=key) (before:=before) hs ha (o:=o) (by omega);have Kz:=Gi s;have ed:d+1+m+4=d+4+(m+1):=by omega
  have ed':d+4+m=d+1+m+3:=by omega
  rw[ed'] at ih;rw[ed] at pr;rw[pr];have A0e:=Z3 (Zp s) (m+1) (depth+1);generalize hR:Rp (Cy s) (m+1) (depth+1)=R at A0e;unfold Rp Zw;rw[Kz,hR];by_cases he:(Bg (Cy s) at_).e=0
  rotate_left
  ·rw[Bq he,Bq he,A5 he];rfl
  have Y6:¬((Bg (Cy s) at_).e≠0):=by simp[he]
  rw[A5 Y6,A5 Y6];by_cases hp:Mx (Bg (Cy s) at_).k (Bg (Cy s) at_).n depth key o.length (s.size-(Bg (Cy s) at_).at_)=0
  rotate_left
  ·rw[Bq hp,Bq hp,Bq he];rfl
  have Di:¬(Mx (Bg (Cy s) at_).k (Bg (Cy s) at_).n depth key o.length (s.size-(Bg (Cy s) at_).at_)≠0):=by simp[hp]
  rw[A5 Di,A5 Di];clear Y6 Di;obtain⟨x1,x2,x3⟩:=Aqt (Zp s) (by omega) he (by rw[Kz];exact hp)
  obtain⟨p1,p2,p3,p4⟩:=MB hp;obtain⟨y1,y2⟩:=Tu (b:=Cy s) (at_:=at_) (Zp s) (by omega);obtain⟨k1,k8,n0,n1,_⟩:=y2 he
  have a2:∀x∈o++[(QU (Cy s) (Bg (Cy s) at_)).1],OkR x:=by
   intro x Zj;rcases Bz.1 Zj with Zj|Zj
   ·exact hx x Zj
   ·simp at Zj;subst Zj;exact x1
  have a3:(o++[(QU (Cy s) (Bg (Cy s) at_)).1]).length=o.length+1:=by simp
  generalize Bg (Cy s) at_=h at *
  obtain⟨k,n,e,a⟩:=h;simp only at *
  obtain⟨n,rfl⟩:=Int.eq_ofNat_of_zero_le n0
  have hff:∀kk bb aa oo,aa<=s.size->oo.length<=512->(∀x∈oo,OkR x)->Ar C0 prog fu (d+1+m+3) 117 [.pbox (Y9 s aa oo),At (depth+1),.sc (.bool kk),.sc (.string bb)]=some (YG s (R kk bb aa oo)):=by
   intro kk bb aa oo h1 h2 h3;rw[ih (depth+1) kk bb aa oo (by omega) (by omega) (by omega) h1 h2 h3,hR]
  by_cases hdt:Ok k=true
  ·obtain⟨q1,q2⟩:=p3 hdt;have A7r:=(T0 k).1 hdt;have Arr:Ss k=false:=by rcases A7r with rfl|rfl<;>rfl
   have eX:QU (Cy s) ⟨k,(n:Int),e,a⟩=(⟨k,0,Bj (((Cy s).drop a).take n)⟩,a+n):=by
    unfold QU;rw[Bq hdt];simp
   rw[hdt,Arr,eX];have po:=Aoz (fu:=fu) (d:=d+1+m) (C7:=s) (Ci:=(at_:Int)) (Eb:=o.length) (Dw:=Ay o) (a1:=depth) (a2:=key) (a3:=before) Bn (depth:=depth) (k:=k) (n:=n) (nn':=n) (key:=key) (nest:=false) (before:=before) (s:=s) (t0:=Fv) (at_:=a) (o:=o) (nn:=fu) (by omega) (by omega) A7r (by omega) (by omega) hs rfl;rw[po];simp only;by_cases hq:Jz key before ⟨k,0,Bj (((Cy s).drop a).take n)⟩=0
   ·rw[Bq hq,A5 (by simp[hq]),A5 (by simp)];obtain⟨nn,rfl⟩:∃nn,fu=nn+1:=⟨fu-1,by omega⟩
    rw[Fl,Abv];have L:=Cw (o++[It.mk k 0 (Bj (((Cy s).drop a).take n))]);have t:List.take ((o++[It.mk k 0 (Bj (((Cy s).drop a).take n))]).length*3) (Ay (o++[It.mk k 0 (Bj (((Cy s).drop a).take n))]))=Ay (o++[It.mk k 0 (Bj (((Cy s).drop a).take n))]):=Gv (by omega);rw[EF _ _ (by omega),t];rfl
   ·rw[A5 hq,Bq hq];rfl
  ·have Bbc:Ok k=false:=by simpa using hdt
   have eX:QU (Cy s) ⟨k,(n:Int),e,a⟩=(⟨k,(n:Int),Fv⟩,a):=by
    unfold QU;rw[A5 hdt]
   rw[Bbc,eX];rw[eX] at a2 a3 x2;have po:=Ain (fu:=fu) (d:=d+1+m) (C7:=s) (Ci:=(at_:Int)) (Eb:=o.length) (Dw:=Ay o) (a1:=depth) (a2:=key) (a3:=before) Bn (depth:=depth) (n:=(n:Int)) (k:=k) (nn':=(n:Int)) (key:=key) (nest:=Ss k) (before:=before) (s:=s) (t:=Fv) (at_:=a) (o:=o) (nn:=fu) (by omega) (by omega) ⟨k1,k8⟩ (by omega) (Nat.zero_le _) (.inr (.inr rfl));rw[po];simp only at a2 a3 x2 ⊢;by_cases hq:Jz key before ⟨k,(n:Int),Fv⟩=0
   rotate_left
   ·rw[A5 hq,Bq hq];rfl
   rw[Bq hq,A5 (by simp[hq])];cases Arr:Ss k
   ·rw[A5 (by simp)];obtain⟨nn,rfl⟩:∃nn,fu=nn+1:=⟨fu-1,by omega⟩
    rw[Fl,Abv];have L:=Cw (o++[It.mk k (n:Int) Fv]);have t:List.take ((o++[It.mk k (n:Int) Fv]).length*3) (Ay (o++[It.mk k (n:Int) Fv]))=Ay (o++[It.mk k (n:Int) Fv]):=Gv (by omega);rw[EF _ _ (by omega),t];rfl
   ·rw[Bq rfl];have:=p4 Arr;rw[H0];exact VF Bn d0 p2 A0e hff (by omega) n 0 fu Fv a _ (by omega) (by omega) (by omega) (by omega) a2
def NQ(b:Ca):List It × Nat × Int:=if (Rp b 10 0 false Fv 0 []).1≠0 then ([],0,(Rp b 10 0 false Fv 0 []).1) else ((Rp b 10 0 false Fv 0 []).2.2,(Rp b 10 0 false Fv 0 []).2.1,0)
theorem Ajt(Bn:1000<=fu){b:Ca}(hb:Ii b)(hl:b.length<=1000000):
  Ar C0 prog fu (d+14) 80 [.lst false 1 b.length (Ac .u8 b)]=some ⟨HZ (NQ b),[]⟩:=by
 rw[DQ];have L:=Am .u8 b;have bo:=G2 b;have Kz:(Bj b).size=b.length:=Hp b;have it:=As9 (fu:=fu) (d:=d) Bn (s:=Bj b) (by omega) 9 0 false Fv 0 [] (by omega) (by omega) (by omega) (by omega) (by simp) (by simp);have fi:=Z3 hb 10 0 false Fv 0 [] (by omega) (by simp) (by simp);rw[Pp hb] at it;have eB:ByteArray.mk (List.toArray (b.map fun n=>n.toNat.toUInt8))=Bj b:=rfl;unfold NQ;generalize Rp b 10 0 false Fv 0 []=r at it fi ⊢;obtain⟨e,a,o⟩:=r;have f4:=fi.top;simp only[YG] at it f4 ⊢;have LT:=Cw o;have tT:List.take (o.length*3) (Ay o)=Ay o:=Gv (by omega)
 have it':Ar C0 prog fu (d+13) 117 [.pbox [.sc (.string (Bj b)),At 0,.own 3 0 []],At 0,.sc (.bool false),.sc (.string Fv)]=some ⟨[At e],[[.sc (.string (Bj b)),At a,.own 3 o.length (Ay o)]]⟩:=it;clear it;by_cases he:e=0
 ·subst he;have e00:((0:Int) != 0)=false:=rfl;rw[A5 (by simp)];unfold HZ
  repeat(with_reducible(first|apply Aj|apply Ad|apply Ah|apply Ax|apply Bb|apply Gm|apply Ae|apply Ai|apply Ct);· first|constructor|(simp(disch:=omega)only[Cu,L,bo,eB,it',e00,LT,tT]<;>first|constructor|omega)|omega)
  try simp(disch:=omega)only[Aa,L,bo,eB,it',e00,LT,tT]
  all_goals rfl
 ·have Y6:(e != 0)=true:=by simp[he]
  rw[Bq he];unfold HZ
  repeat(with_reducible(first|apply Aj|apply Ad|apply Ah|apply Ax|apply Bb|apply Gm|apply Ae|apply Ai|apply Ct);· first|constructor|(simp(disch:=omega)only[Cu,L,bo,eB,it',Y6,LT,tT]<;>first|constructor|omega)|omega)
  try simp(disch:=omega)only[Aa,L,bo,eB,it',Y6,LT,tT]
  all_goals rfl
end
def XN(depth:Int)(its:List It):Prop:=
 ∀(b:Ca) (at_:Nat) (rest:Ca) (m:Nat) (o:List It),b.drop at_=Bi its++rest->9<=depth+m->o.length+its.length<=512->Rp b (m+1) depth false Fv at_ o=(0,at_+(Bi its).length,o++its)
theorem NW{x:It}(hx:MW x)(hn:x.n<=18446744073709551615){depth:Int}(hd:depth<=8):XN depth [x]:=by
 intro b at_ rest m o h hm ho;have kd:=hx.kd;have hs:=hx.hs;have e1:Bi [x]=B8 x:=by simp[Bi]
 rw[e1] at h ⊢;obtain⟨q1,q2,q3,q4⟩:=IA (x:=x) hx.hsh (by omega) (by omega) hx.n0 hn hx.hs h
 have ln:x.s.size<=b.length-(at_+((B8 x).length-x.s.size)):=by
  have:=congrArg List.length h;rw[List.length_drop,Fw] at this;omega
 have pe:Mx x.k (nOf x) depth false o.length (b.length-(at_+((B8 x).length-x.s.size)))=0:=by
  unfold Mx;simp only[List.length_singleton] at ho;rw[A5 (by omega),A5 (by simp),A5 (by omega)];by_cases c34:x.k=3\/x.k=4
  ·have e:nOf x=x.s.size:=by unfold nOf;rw[Bq c34]
   rw[e,A5 (by omega),A5 (by rw[NU];omega),A5 (by omega)]
  ·rw[A5 (by rw[T0];omega),A5 (by rw[NU];omega),A5 (by rw[T0];omega)]
 have rx:QU b ⟨x.k,nOf x,0,at_+((B8 x).length-x.s.size)⟩=(x,at_+(B8 x).length):=by
  unfold QU;simp only;by_cases c34:x.k=3\/x.k=4
  ·obtain⟨z,q2⟩:=q2 c34;have e:nOf x=x.s.size:=by unfold nOf;rw[Bq c34]
   rw[Bq ((T0 _).2 c34),e,H0,q2,List.take_left' (Gi x.s),Tn];obtain⟨k,n,s⟩:=x;simp only at z q4 ⊢;subst z
   congr 1
   omega
  ·have q3:=q3 c34;have e:nOf x=x.n:=by unfold nOf;rw[A5 c34]
   rw[A5 (fun hh=>c34 ((T0 _).1 hh)),e];obtain⟨k,n,s⟩:=x;simp only at q3 ⊢;subst q3;have:(ByteArray.mk #[]).size=0:=rfl;rw[this,Nat.sub_zero]
 unfold Rp;rw[q1];simp only;rw[A5 (by simp),pe,A5 (by simp),rx]
 have po:Jz false Fv x=0:=by
  unfold Jz;rw[A5 (fun hh=>by have:=hx.hv hh.1;have h2:=hh.2;unfold okS at h2;rw[this] at h2;cases h2),A5 (by simp)]
 rw[po,A5 (by simp),A5 (by rw[NU];omega)]
theorem ZA{b:Ca}{depth:Int}{rest:Ca}{m:Nat}(hm:9<=depth+1+m):∀(vs:List (List It)) (at_:Nat)(o:List It)(last:ByteArray),(∀v∈vs,XN (depth+1) v)->b.drop at_=Bi vs.flatten++rest->o.length+vs.flatten.length<=512 ->
  V9 (Rp b (m+1) (depth+1)) false vs.length last at_ o=(0,at_+(Bi vs.flatten).length,o++vs.flatten)
 |[],at_,o,last,hv,h,ho=>by simp[V9,Bi]
 |v::vs,at_,o,last,hv,h,ho=>by
  have e:Bi (v::vs).flatten=Bi v++Bi vs.flatten:=by simp[Bi]
  rw[e,FC] at h;simp only[List.flatten_cons,Fw] at ho;have r:=hv v (by simp) b at_ (Bi vs.flatten++rest) m o h hm (by omega);have h':b.drop (at_+(Bi v).length)=Bi vs.flatten++rest:=by rw[<-List.drop_drop,h,List.drop_left' rfl]
  have ih:=ZA hm vs (at_+(Bi v).length) (o++v) last (fun w hw=>hv w (Sh _ hw)) h' (by rw[Fw];omega)
  rw[G7];unfold V9;rw[A5 (by simp),r];simp only;rw[A5 (by simp),ih,e];simp;omega
theorem Ud{vs:List (List It)}{depth:Int}(hv:∀v∈vs,XN (depth+1) v)(hd:depth<=8)(hl:vs.length<=400):XN depth (⟨5,vs.length,Fv⟩::vs.flatten):=by
 intro b at_ rest m o h hm ho;have e1:Bi (⟨5,vs.length,Fv⟩::vs.flatten)=B8 ⟨5,vs.length,Fv⟩++Bi vs.flatten:=by simp[Bi]
 rw[e1,FC] at h;have z:Fv.size=0:=rfl;obtain⟨q1,q2,q3,q4⟩:=IA (x:=⟨5,vs.length,Fv⟩) (b:=b) (at_:=at_) rfl (by simp) (by simp) (by simp) (by simp only;omega) (by rw[z];omega) h
 have e2:nOf ⟨5,vs.length,Fv⟩=vs.length:=rfl;simp only[z,Nat.sub_zero] at q1;rw[e2] at q1;simp only[G7] at ho
 have pe:Mx 5 (vs.length:Int) depth false o.length (b.length-(at_+(B8 ⟨5,vs.length,Fv⟩).length))=0:=by
  unfold Mx;rw[A5 (by omega),A5 (by simp),A5 (by omega),A5 (by simp[Ok]),A5 (by omega),A5 (by simp[Ok])]
 have rx:QU b ⟨5,(vs.length:Int),0,at_+(B8 ⟨5,vs.length,Fv⟩).length⟩=(⟨5,vs.length,Fv⟩,at_+(B8 ⟨5,vs.length,Fv⟩).length):=by
  unfold QU;rw[A5 (by simp[Ok])]
 have po:Jz false Fv ⟨5,vs.length,Fv⟩=0:=by
  unfold Jz;rw[A5 (fun hh=>by simp at hh),A5 (by simp)]
 have h':b.drop (at_+(B8 ⟨5,vs.length,Fv⟩).length)=Bi vs.flatten++rest:=by rw[<-List.drop_drop,h,List.drop_left' rfl]
 unfold Rp;rw[q1];simp only;rw[A5 (by simp),pe,A5 (by simp),rx];simp only;rw[po,A5 (by simp),Bq (show Ss 5=true from rfl),H0];cases vs with
 |nil=>simp[V9,Bi]
 |cons v vs=>
  obtain⟨m,rfl⟩:∃k,m=k+1:=⟨m-1,by omega⟩
  have:=ZA (b:=b) (rest:=rest) (m:=m) (depth:=depth) (by omega) (v::vs) (at_+(B8 ⟨5,(v::vs).length,Fv⟩).length) (o++[⟨5,(v::vs).length,Fv⟩]) Fv hv h' (by simp only[Fw,List.length_singleton];omega)
  have e6:((5:Int)==6)=false:=rfl;rw[e6,this,e1];simp;omega
theorem Ave{its:List It}(h:XN 0 its)(hl:its.length<=512)(rest:Ca):NQ (Bi its++rest)=(its,(Bi its).length,0):=by
 have:=h (Bi its++rest) 0 rest 9 [] (by rw[Es]) (by omega) (by simp;omega)
 unfold NQ;rw[this];simp
section
variable {xs:FuncId->Option (Ab->Option D0)}(fu d:Nat)(call:Bp)
theorem JX(Z:Nat)(Y:Ab):Fn C0 fu d 10 [Ap 1 Z Y] fun call=>Bv [.pbox [Ap 1 Z Y,(0:Int)]]:=by show _=_;kernel_rfl
theorem JJ(Z Y:Int):Fn C0 fu d 14 [Z,Y] fun call=>Aa (wrap .u64 Z) fun a=>Aa (wrap .u64 Y) fun b=>As (decide (b≠0))<|Aa (Int.tmod a b) fun a=>Aa (wrap .i64 a) fun a=>Bv [a]:=by show _=_;kernel_rfl
theorem Nw(Z:Nat)(Y:Ab)(X W:Int):Fn C0 fu d 15 [.pbox [Ap 1 Z Y,X],W] fun call=>A3 (decide (X>=(↑Z:Int))) (some ⟨[(0:Int)],[[Ap 1 Z Y,X]]⟩) (Aa (wrap .i64 (X+1)) fun a=>Aa (wrap .i64 (a-1)) fun b=>As (decide (0<=b)&&decide (b<(↑Z:Int)))<|Be .i64 (Y.getD (b.toNat*1) .top) fun b=>Na .i64 (call 14 [b,W]) fun b=>some ⟨[b],[[Ap 1 Z Y,a]]⟩):=by show _=_;kernel_rfl
end
abbrev dkc(l:Ca)(a:Nat):Ab:=[.lst false 1 l.length (Ac .i64 l),At (a:Int)]
theorem A2o{fu d:Nat}{l:Ca}:Ar C0 prog fu (d+1) 10 [.lst false 1 l.length (Ac .i64 l)]=some ⟨[.pbox (dkc l 0)],[]⟩:=by rw[JX];rfl
theorem As7(v n:Int)(hn:0<n)(hm:n<=9223372036854775807):∃r,0<=r/\r<n/\∀{fu d:Nat},Ar C0 prog fu (d+1) 14 [At v,At n]=some ⟨[At r],[]⟩:=by have h1:=Ls v;have h2:wrap .u64 n=n:=Cd (by omega) (by omega);have h3:0<=Int.tmod (wrap .u64 v) n:=Int.tmod_nonneg _ h1.1;have h4:Int.tmod (wrap .u64 v) n<n:=Int.tmod_lt_of_pos _ hn;refine⟨_,h3,h4,fun {fu d}=>?_⟩;rw[JJ];simp only[Jc,h2];rw[EF _ _ (by omega),Ag (by omega) (by omega)]
theorem Ib{l:Ca}(hl:l.length<=maxLen)(a:Nat)(n:Int)(hn:0<n)(hm:n<=9223372036854775807):∃(v:Int)(a':Nat),0<=v/\v<n /\
  ∀{fu d:Nat},Ar C0 prog fu (d+2) 15 [.pbox (dkc l a),At n]=some ⟨[At v],[dkc l a']⟩:=by
 simp only[maxLen] at hl;by_cases h:a<l.length
 ·obtain⟨r,h1,h2,h3⟩:=As7 l[a] n hn hm;refine⟨r,a+1,h1,h2,fun {fu d}=>?_⟩;rw[Nw]
  have hg:(Ac .i64 l).getD (Int.toNat ((a:Int)+1-1)*1) .top=At l[a]:=by
   have:=Vg (k:=.i64) (List.getElem?_eq_getElem h);rw[show Int.toNat ((a:Int)+1-1)*1=a by omega];exact this
  simp(disch:=omega)only[B4,B3,Ag,hg,h3];rfl
 ·refine⟨0,a,by omega,hn,fun {fu d}=>?_⟩;rw[Nw];simp(disch:=omega)only[B4,B3]
section
variable {xs:FuncId->Option (Ab->Option D0)}(fu d:Nat)(call:Bp)
theorem LJ(Z Y:Int):Fn C0 fu d 17 [Af Z,Y] fun call=>Dm (call 30 [Af Z,Y]) fun a b=>Dr a fun a=>C2 .i64 a fun a c=>Dk .u64 c fun c=>Dk .i64 b fun b=>Bv [.agg [a,Af c]]:=by show _=_;kernel_rfl
theorem FH(Y Z:Int):Fn C0 fu d 24 [Y,Z] fun call=>Aa (wrap .u64 Y) fun a=>Aa (wrap .u64 (a+1)) fun a=>Aa (if 1024<Z then 1024 else Z) fun b=>Aa (if b<0 then 0 else b) fun b=>Dm (call 45 [Af a,Af 7,b]) fun a b=>Je 1 a fun a c=>Aq b<|As (decide (a*1<=c.length))<|Bv [.own 1 a (c.take (a*1))]:=by show _=_;kernel_rfl
theorem Vt(Z:Nat)(Y:Ab)(X:Int):Fn C0 fu d 44 [Ap 1 Z Y,X] fun call=>A3 ((↑Z:Int)==0) (Aa (wrap .u8 X) fun a=>Bv [.own 1 1 [.sc (.int .u8 a)]]) (As (decide (Y.length=Z*1)&&decide (Z*1<=1099511627776)&&decide (Z<=1099511627776))<|As (decide ((↑Z:Int)≠0))<|Aa (Int.tmod X (↑Z:Int)) fun a=>As (decide (0<=a)&&decide (a<(↑Z:Int)))<|Be .u8 (Y.getD (0+a.toNat*1) .top) fun b=>Aa (Qg .i64 X 7) fun c=>Aa (wrap .u64 c) fun c=>As (decide (0<=c))<|Aa (Hm .u8 1 c) fun c=>Aa (Fi .u8 b c) fun b=>As (decide (0<=a)&&decide (a<(↑Z:Int)))<|As (decide (0+a.toNat*1+1<=Y.length))<|Aa (Bx Y [.sc (.int .u8 b)] (0+a.toNat*1)) fun a=>As (decide (Z*1<=a.length))<|Bv [.own 1 Z (a.take (Z*1))]):=by show _=_;kernel_rfl
end
structure An where
 name:ByteArray
 key:Ky
def An.cells(a:An):Ab:=[.sc (.string a.name),At a.key.h,Af a.key.root]
def Cz(l:List An):Ab:=l.flatMap An.cells
theorem An.cells_len(a:An):a.cells.length=3:=rfl
theorem ana{l:List An}{i:Nat}{a:An}(h:l[i]?=some a):(Cz l).getD (i*3) .top=.sc (.string a.name)/\(Cz l).getD (i*3+1) .top=At a.key.h/\(Cz l).getD (i*3+2) .top=Af a.key.root:=
 ⟨Hv An.cells_len h (j:=0) (by omega),Hv An.cells_len h (j:=1) (by omega),Hv An.cells_len h (j:=2) (by omega)⟩
def Af5(l:List Il):Prop:=∀f∈l,f.p=false
theorem Af5.key{l:List Il}(h:Af5 l):U6 l=false:=by
 rcases Lx l with rfl|⟨l',f,rfl⟩
 ·rfl
 ·unfold U6;simp[h f (by simp)]
theorem Af5.dec{l:List Il}(h:Af5 l):Af5 (AZ l):=by
 rcases Lx l with rfl|⟨l',f,rfl⟩
 ·exact h
 ·rw[Wk];intro g hg;rcases Bz.1 hg with hg|hg
  ·exact h g (by simp[hg])
  ·rw[Mv.1 hg];exact h f (by simp)
def Val(k:Nat)(v:List It):Prop:=∀(l:List Il)(cnt:Int)(rest:List It),l.length+k<=6->0<=cnt->cnt+v.length<=505->(cnt=0\/l≠[])->Af5 l ->
 S6 (LP (AZ l)) (cnt+v.length) rest->S6 l cnt (v++rest)
theorem WS{l:List Il}{cnt k:Int}(ha:Af5 l)(hl:l.length<=6)(hc:cnt<=505)(k1:1<=k)(k8:k<=8):O8 l cnt k=0:=by unfold O8;rw[A5 (by omega),A5 (by omega),A5 (by omega),A5 (by intro q;rw[ha.key] at q;exact absurd q.1 (by simp)),A5 (by omega)]
theorem Hk{x:It}(h:MW x)(k:Nat):Val k [x]:=by
 intro l cnt rest hl h0 h1 hd ha hg;simp only[List.length_singleton] at h1 hg;have hk:=h.kd;refine⟨⟨by omega,h0,by omega,ha.key,h.hs,h.hv,?_,WS ha (by omega) (by omega) (by omega) (by omega),h.hsh,.inr (by omega)⟩,?_⟩
 ·rcases hd with rfl|hd
  ·rfl
  ·have:l.length≠0:=fun e=>hd (List.eq_nil_of_length_eq_zero e);have h2:((l.length:Int)==0)=false:=by simp;exact hd
   rw[h2,Bool.and_false]
 ·unfold H1;rw[h.push];exact hg
theorem Ae3{k:Nat}{l:List Il}(hl:l.length+1+k<=6)(ha:Af5 l){rest:List It}:∀(vs:List (List It)) (cnt:Int),vs≠[]->vs.length<=100000->(∀v∈vs,Val k v)->0<=cnt->cnt+vs.flatten.length<=505->S6 (LP l) (cnt+vs.flatten.length) rest ->
  S6 (l++[⟨false,vs.length,[]⟩]) cnt (vs.flatten++rest)
 |[],_,h,_,_,_,_,_=>absurd rfl h
 |v::vs,cnt,_,hn,hv,h0,h1,hg=>by
  rw[List.flatten_cons,Fw] at h1 hg;rw[List.flatten_cons,FC];simp only[G7] at hn;refine hv v (by simp) _ cnt _ (by rw[Fw,List.length_singleton];omega) h0 (by omega) (.inr (by simp)) ?_ ?_
  ·intro g hg';rcases Bz.1 hg' with hg'|hg'
   ·exact ha g hg'
   ·rw[Mv.1 hg']
  rw[Wk]
  have w:wrap .i64 (((v::vs).length:Int)-1)=(vs.length:Int):=by
   rw[Ag (by simp only[G7];omega) (by simp only[G7];omega)]
   simp only[G7];omega
  simp only[w];by_cases Xl:vs=[]
  ·subst Xl;rw[Aap rfl]
   simpa using hg
  ·rw[UG (by simp only;have:=List.length_pos_iff.2 Xl;omega)]
   exact Ae3 hl ha vs (cnt+v.length) Xl (by omega) (fun x hx=>hv x (by simp[hx])) (by omega) (by omega) (by rw[Int.add_assoc,<-Int.natCast_add];exact hg)
theorem W8{k:Nat}{vs:List (List It)}(hv:∀v∈vs,Val k v)(hn:vs.length<=500):Val (k+1) (⟨5,vs.length,⟨#[]⟩⟩::vs.flatten):=by
 intro l cnt rest hl h0 h1 hd ha hg;simp only[G7] at h1 hg;refine⟨⟨by omega,h0,by omega,ha.key,Nat.zero_le _,(by intro h;cases h),?_,WS ha (by omega) (by omega) (by simp) (by simp),(by rfl),.inl (by simp only;omega)⟩,?_⟩
 ·rcases hd with rfl|hd
  ·rfl
  ·have h2:((l.length:Int)==0)=false:=by simp;exact hd
   rw[h2,Bool.and_false]
 ·by_cases Xl:vs=[]
  ·subst Xl
   have e:H1 l ⟨5,(([]:List (List It)).length:Nat),⟨#[]⟩⟩=LP (AZ l):=by
    unfold H1 VE;rw[A5 (by simp),A5 (by simp)]
   rw[e]
   simpa using hg
  ·have hp:=List.length_pos_iff.2 Xl;have w:wrap .i64 (vs.length:Int)=(vs.length:Int):=Ag (by omega) (by omega)
   have e:H1 l ⟨5,(vs.length:Nat),⟨#[]⟩⟩=AZ l++[⟨false,(vs.length:Nat),[]⟩]:=by
    unfold H1 VE;rw[Bq ⟨rfl,by simp only;omega⟩]
    simp only[w];exact UG (by simp only;omega)
   rw[e]
   exact Ae3 (by rw[IP];omega) ha.dec vs (cnt+1) Xl (by omega) hv (by omega) (by omega) (by
    have e1:cnt+1+(vs.flatten.length:Int)=cnt+((vs.flatten.length+1:Nat):Int):=by omega
    rw[e1];exact hg)
theorem Val.goods{k:Nat}(hk:k<=6){v:List It}(h:Val k v)(hn:v≠[])(hl:v.length<=505):S6 [] 0 v:=by
 have:=h [] 0 [] (by simp;exact hk) (by omega) (by omega) (.inl rfl) (by intro f hf;cases hf) ⟨rfl,by have:=List.length_pos_iff.2 hn;omega⟩
 rw[List.append_nil] at this;exact this
structure Sa where
 kd:Int
 at_:Int
structure Me where
 model:Int
 ans:List An
 sts:List Sa
structure Md where
 ver:Int
 iss:Int
 nxt:Int
 ents:List Me
 sig:Sg
def Sa.cells(s:Sa):Ab:=[At s.kd,At s.at_]
def Dn(l:List Sa):Ab:=l.flatMap Sa.cells
theorem Sa.cells_len(s:Sa):s.cells.length=2:=rfl
def Me.cells(x:Me):Ab:=[Af x.model,.lst false 3 x.ans.length (Cz x.ans),.lst false 2 x.sts.length (Dn x.sts)]
def B7(l:List Me):Ab:=l.flatMap Me.cells
theorem Me.cells_len(x:Me):x.cells.length=3:=rfl
def Md.cells(m:Md):Ab:=[At m.ver,At m.iss,At m.nxt,.lst false 3 m.ents.length (B7 m.ents),At m.sig.leaf,.lst false 1 m.sig.chains.length (Ac .u64 m.sig.chains),.lst false 1 m.sig.path.length (Ac .u64 m.sig.path)]
theorem Nt(l:List An):(Cz l).length=l.length*3:=Xk An.cells_len l
theorem Yy(l:List Sa):(Dn l).length=l.length*2:=Xk Sa.cells_len l
theorem Mf(l:List Me):(B7 l).length=l.length*3:=Xk Me.cells_len l
theorem saa{l:List Sa}{i:Nat}{s:Sa}(h:l[i]?=some s):(Dn l).getD (i*2) .top=At s.kd/\(Dn l).getD (i*2+1) .top=At s.at_:=
 ⟨Hv Sa.cells_len h (j:=0) (by omega),Hv Sa.cells_len h (j:=1) (by omega)⟩
theorem mea{l:List Me}{i:Nat}{x:Me}(h:l[i]?=some x):(B7 l).getD (i*3) .top=Af x.model/\(B7 l).getD (i*3+1) .top=.lst false 3 x.ans.length (Cz x.ans)/\(B7 l).getD (i*3+2) .top=.lst false 2 x.sts.length (Dn x.sts):=
 ⟨Hv Me.cells_len h (j:=0) (by omega),Hv Me.cells_len h (j:=1) (by omega),Hv Me.cells_len h (j:=2) (by omega)⟩
def F1(a:An):Int:=if a.name.size<1\/32<a.name.size then 9 else if okS a.name=false then 6 else if D1 a.key.h=true then 9 else 0
def Dp:List An->Int
 |[]=>0
 |a::r=>if F1 a≠0 then F1 a else Dp r
def Hf(p:Option Int)(s:Sa):Int:=if s.kd<1\/4<s.kd\/s.at_<0\/1099511627776<s.at_ then 9 else match p with|some q=>if s.at_<=q then 7 else 0|none=>0
def Eu:Option Int->List Sa->Int
 |_,[]=>0
 |p,s::r=>if Hf p s≠0 then Hf p s else Eu (some s.at_) r
def C4(x:Me):Int:=if 4<x.ans.length\/4<x.sts.length then 8 else if Dp x.ans≠0 then Dp x.ans else Eu none x.sts
def J3(p:Option Int)(x:Me):Int:=match p with|some q=>if x.model<=q then 7 else 0|none=>0
def Dj:Option Int->List Me->Int
 |_,[]=>0
 |p,x::r=>if J3 p x≠0 then J3 p x else if C4 x≠0 then C4 x else Dj (some x.model) r
def Bu(m:Md):Int:=if m.ver<1\/16<m.ver then 9 else if m.iss<0\/m.nxt<m.iss\/1099511627776<m.nxt then 9 else if 16<m.ents.length then 8 else Dj none m.ents
def D9(n:Int):It:=⟨5,n,Fv⟩
def Dy(n:Int):It:=⟨1,n,Fv⟩
def RR(a:An):List (List It):=[[⟨4,0,a.name⟩],[⟨3,0,Bj (Ij a.key)⟩]]
def Cr(a:An):List It:=D9 2::(RR a).flatten
def SQ(s:Sa):List (List It):=[[Dy s.kd],[Dy s.at_]]
def Cp(s:Sa):List It:=D9 2::(SQ s).flatten
def Dq(vs:List (List It)):List It:=D9 vs.length::vs.flatten
def Vs(x:Me):List (List It):=[[Dy x.model],Dq (x.ans.map Cr),Dq (x.sts.map Cp)]
def A7(x:Me):List It:=D9 3::(Vs x).flatten
def Np(m:Md):List (List It):=[[Dy m.ver],[Dy m.iss],[Dy m.nxt],Dq (m.ents.map A7)]
def A6(m:Md):List It:=D9 4::(Np m).flatten
theorem Acu(k:Ky):(Bj (Ij k)).size=9:=by rw[Hp];rfl
theorem DE:Fv.size=0:=rfl
def F0(l:List It):Prop:=∀x∈l,x.ok/\x.dat/\x.s.size<=32
theorem F0.app{a b:List It}(ha:F0 a)(hb:F0 b):F0 (a++b):=fun x hx=>(Bz.1 hx).elim (ha x) (hb x)
theorem F0.cons{x:It}{l:List It}(h:x.ok/\x.dat/\x.s.size<=32)(hl:F0 l):F0 (x::l):=fun y hy=>by
 rcases B6.1 hy with rfl|hy
 ·exact h
 ·exact hl y hy
theorem F0.flat{α:Type}{f:α->List It}{l:List α}(h:∀x∈l,F0 (f x)):F0 (l.map f).flatten:=fun y hy=>by
 obtain⟨v,hv,hy⟩:=List.mem_flatten.1 hy;obtain⟨x,hx,rfl⟩:=List.mem_map.1 hv;exact h x hx y hy
theorem Xw{n:Int}(h:0<=n):(Dy n).ok/\(Dy n).dat/\(Dy n).s.size<=32:=⟨⟨by show (1:Int)<=1;omega,by show (1:Int)<=8;omega,h,by show Fv.size<=_;rw[DE];omega⟩,.inr (.inr rfl),by show Fv.size<=32;rw[DE];omega⟩
theorem Ux{n:Int}(h:0<=n):(D9 n).ok/\(D9 n).dat/\(D9 n).s.size<=32:=⟨⟨by show (1:Int)<=5;omega,by show (5:Int)<=8;omega,h,by show Fv.size<=_;rw[DE];omega⟩,.inr (.inr rfl),by show Fv.size<=32;rw[DE];omega⟩
theorem Jj{n:Int}(h:0<=n):MW (Dy n):=⟨.inl rfl,by show Fv.size<=_;rw[DE];omega,(fun e=>by cases e),(by unfold K7 Dy;rfl),h⟩
theorem Abq{a:An}(h:F1 a=0):1<=a.name.size/\a.name.size<=32/\okS a.name=true/\D1 a.key.h=false:=by
 unfold F1 at h;split at h
 ·cases h
 ·split at h
  ·cases h
  ·split at h
   ·cases h
   ·rename_i h1 h2 h3;exact⟨by omega,by omega,by simpa using h2,by simpa using h3⟩
theorem Ai6{a:An}(h:F1 a=0):Val 1 (Cr a)/\F0 (Cr a):=by
 obtain⟨h1,h2,h3,_⟩:=Abq h;have f1:MW ⟨4,0,a.name⟩:=⟨.inr (.inr (.inr (.inl rfl))),by simp only;omega,fun _=>h3,by unfold K7;rfl,by simp⟩
 have f2:MW ⟨3,0,Bj (Ij a.key)⟩:=⟨.inr (.inr (.inl rfl)),by simp only[Acu];omega,(fun e=>by cases e),by unfold K7;rfl,by simp⟩
 refine⟨W8 (k:=0) (vs:=RR a) (fun v hv=>?_) (by simp[RR]),fun x hx=>?_⟩
 ·simp only[RR,B6,Ie,or_false] at hv;rcases hv with rfl|rfl
  ·exact Hk f1 0
  ·exact Hk f2 0
 ·simp only[Cr,RR,List.flatten_cons,List.flatten_nil,List.append_nil,B6,List.singleton_append,Ie,or_false] at hx;rcases hx with rfl|rfl|rfl
  ·exact Ux (by omega)
  ·exact⟨f1.ok,.inr (.inl rfl),h2⟩
  ·exact⟨f2.ok,.inl rfl,by simp only[Acu];omega⟩
theorem Vm:∀{l:List An},Dp l=0->∀a∈l,F1 a=0
 |[],_,a,ha=>by cases ha
 |b::r,h,a,ha=>by
  unfold Dp at h;by_cases h0:F1 b=0
  ·rw[A5 (by simp[h0])] at h;rcases B6.1 ha with rfl|ha
   ·exact h0
   ·exact Vm h a ha
  ·rw[Bq h0] at h;exact absurd h h0
theorem Ayy{p:Option Int}{s:Sa}(h:Hf p s=0):1<=s.kd/\s.kd<=4/\0<=s.at_/\s.at_<=1099511627776:=by
 unfold Hf at h;split at h
 ·cases h
 ·omega
theorem Xt:∀{p:Option Int}{l:List Sa},Eu p l=0->∀s∈l,1<=s.kd/\s.kd<=4/\0<=s.at_/\s.at_<=1099511627776
 |_,[],_,a,ha=>by cases ha
 |p,b::r,h,a,ha=>by
  unfold Eu at h;by_cases h0:Hf p b=0
  ·rw[A5 (by simp[h0])] at h;rcases B6.1 ha with rfl|ha
   ·exact Ayy h0
   ·exact Xt h a ha
  ·rw[Bq h0] at h;exact absurd h h0
theorem Aic{s:Sa}(h0:0<=s.kd)(h1:0<=s.at_):Val 1 (Cp s)/\F0 (Cp s):=by
 refine⟨W8 (k:=0) (vs:=SQ s) (fun v hv=>?_) (by simp[SQ]),?_⟩
 ·simp only[SQ,B6,Ie,or_false] at hv;rcases hv with rfl|rfl
  ·exact Hk (Jj h0) 0
  ·exact Hk (Jj h1) 0
 ·exact F0.cons (Ux (by omega)) (F0.cons (Xw h0) (F0.cons (Xw h1) (fun x hx=>by cases hx)))
theorem Qx(a:An):(Cr a).length=3:=rfl
theorem X5(s:Sa):(Cp s).length=3:=rfl
theorem Iw{α:Type}{f:α->List It}{k:Nat}(hf:∀x,(f x).length=k):∀l:List α,(l.map f).flatten.length=l.length*k
 |[]=>by simp
 |x::l=>by rw[Sf,List.flatten_cons,Fw,hf x,Iw hf l,G7,Nat.succ_mul];omega
theorem Pg{x:Me}(h:C4 x=0):x.ans.length<=4/\x.sts.length<=4/\Dp x.ans=0/\Eu none x.sts=0:=by
 unfold C4 at h;by_cases h0:4<x.ans.length\/4<x.sts.length
 ·rw[Bq h0] at h;cases h
 rw[A5 h0] at h;by_cases h1:Dp x.ans=0
 ·rw[A5 (by simp[h1])] at h;exact⟨by omega,by omega,h1,h⟩
 ·rw[Bq h1] at h;exact absurd h h1
theorem Ack{l:List An}(hl:l.length<=4)(h:∀a∈l,F1 a=0):Val 2 (Dq (l.map Cr))/\F0 (Dq (l.map Cr)):=by
 refine⟨W8 (k:=1) (fun v hv=>?_) (by rw[List.length_map];omega),F0.cons (Ux (by omega)) (F0.flat fun a ha=>(Ai6 (h a ha)).2)⟩
 obtain⟨a,ha,rfl⟩:=List.mem_map.1 hv;exact (Ai6 (h a ha)).1
theorem Ak5{l:List Sa}(hl:l.length<=4)(h:∀s∈l,0<=s.kd/\0<=s.at_):Val 2 (Dq (l.map Cp))/\F0 (Dq (l.map Cp)):=by
 refine⟨W8 (k:=1) (fun v hv=>?_) (by rw[List.length_map];omega),F0.cons (Ux (by omega)) (F0.flat fun s hs=>(Aic (h s hs).1 (h s hs).2).2)⟩
 obtain⟨s,hs,rfl⟩:=List.mem_map.1 hv;exact (Aic (h s hs).1 (h s hs).2).1
theorem Wu{x:Me}(hm:0<=x.model)(h:C4 x=0):Val 3 (A7 x)/\F0 (A7 x)/\(A7 x).length<=28:=by
 obtain⟨h1,h2,h3,h4⟩:=Pg h;have va:=Ack h1 (Vm h3);have vs:=Ak5 h2 (fun s hs=>by have:=Xt h4 s hs;exact⟨by omega,by omega⟩)
 refine⟨W8 (k:=2) (vs:=Vs x) (fun v hv=>?_) (by simp[Vs]),?_,?_⟩
 ·simp only[Vs,B6,Ie,or_false] at hv;rcases hv with rfl|rfl|rfl
  ·exact Hk (Jj hm) 2
  ·exact va.1
  ·exact vs.1
 ·refine F0.cons (Ux (by omega)) ?_;simp only[Vs,List.flatten_cons,List.flatten_nil,List.append_nil];exact F0.app (F0.cons (Xw hm) (fun x hx=>by cases hx)) (F0.app va.2 vs.2)
 ·simp only[A7,Vs,Dq,List.flatten_cons,List.flatten_nil,List.append_nil,G7,Fw,List.length_singleton,Vx,Iw Qx,Iw X5];omega
theorem Mh:∀{p:Option Int}{l:List Me},Dj p l=0->∀x∈l,C4 x=0
 |_,[],_,a,ha=>by cases ha
 |p,b::r,h,a,ha=>by
  unfold Dj at h;by_cases h0:J3 p b=0
  rotate_left
  ·rw[Bq h0] at h;exact absurd h h0
  rw[A5 (by simp[h0])] at h;by_cases h1:C4 b=0
  ·rw[A5 (by simp[h1])] at h;rcases B6.1 ha with rfl|ha
   ·exact h1
   ·exact Mh h a ha
  ·rw[Bq h1] at h;exact absurd h h1
theorem Kl{m:Md}(h:Bu m=0):1<=m.ver/\m.ver<=16/\0<=m.iss/\m.iss<=m.nxt/\m.nxt<=1099511627776/\m.ents.length<=16/\Dj none m.ents=0:=by
 unfold Bu at h;split at h
 ·cases h
 ·split at h
  ·cases h
  ·split at h
   ·cases h
   ·exact⟨by omega,by omega,by omega,by omega,by omega,by omega,h⟩
theorem GV{α:Type}{f:α->List It}{k:Nat}:∀{l:List α},(∀x∈l,(f x).length<=k)->(l.map f).flatten.length<=l.length*k
 |[],_=>by simp
 |x::l,h=>by
  have h1:=h x (by simp);have h2:=GV (l:=l) (fun y hy=>h y (by simp[hy]));rw[Sf,List.flatten_cons,Fw,G7,Nat.succ_mul];omega
theorem Ag5{l:List Me}(hl:l.length<=16)(h:∀x∈l,0<=x.model/\C4 x=0):Val 4 (Dq (l.map A7))/\F0 (Dq (l.map A7))/\(Dq (l.map A7)).length<=449:=by
 refine⟨W8 (k:=3) (fun v hv=>?_) (by rw[List.length_map];omega),F0.cons (Ux (by omega)) (F0.flat fun x hx=>(Wu (h x hx).1 (h x hx).2).2.1),?_⟩
 ·obtain⟨x,hx,rfl⟩:=List.mem_map.1 hv;exact (Wu (h x hx).1 (h x hx).2).1
 ·have:=GV (f:=A7) (k:=28) (l:=l) (fun x hx=>(Wu (h x hx).1 (h x hx).2).2.2);unfold Dq;rw[G7];omega
structure Md.wf(m:Md):Prop where
 mod:∀x∈m.ents,0<=x.model
theorem Uh{m:Md}(hw:m.wf)(h:Bu m=0):Val 5 (A6 m)/\F0 (A6 m)/\(A6 m).length<=453:=by
 obtain⟨h1,h2,h3,h4,h5,h6,h7⟩:=Kl h;obtain⟨v1,v2,v3⟩:=Ag5 h6 (fun x hx=>⟨hw.mod x hx,Mh h7 x hx⟩);refine⟨W8 (k:=4) (vs:=Np m) (fun v hv=>?_) (by simp[Np]),?_,?_⟩
 ·simp only[Np,B6,Ie,or_false] at hv;rcases hv with rfl|rfl|rfl|rfl
  ·exact Hk (Jj (by omega)) 4
  ·exact Hk (Jj (by omega)) 4
  ·exact Hk (Jj (by omega)) 4
  ·exact v1
 ·refine F0.cons (Ux (by omega)) ?_;simp only[Np,List.flatten_cons,List.flatten_nil,List.append_nil];exact F0.app (F0.cons (Xw (by omega)) (fun x hx=>by cases hx)) (F0.app (F0.cons (Xw (by omega)) (fun x hx=>by cases hx)) (F0.app (F0.cons (Xw (by omega)) (fun x hx=>by cases hx)) v2))
 ·simp only[A6,Np,List.flatten_cons,List.flatten_nil,List.append_nil,G7,Fw,List.length_singleton,Vx];omega
abbrev RS:=List It × Bool
def Bo(k:Int)(s:RS):It × RS:=if s.2=true then (it0,(s.1,true)) else match s.1 with|[]=>(it0,([],true))|x::r=>if x.k=k then (x,(r,false)) else (it0,(x::r,true))
def E5(k:Int)(s:RS):It × RS:=match s.1 with|[]=>(it0,([],true))|x::r=>if x.k=k then (x,(r,s.2)) else (it0,(x::r,true))
def Agp(l:Ca):Ky:=(IG l).getD ⟨0,0⟩
def SJ(s:RS):An × RS:=
 (⟨(Bo 4 (Bo 5 s).2).1.s,Agp (Cy (Bo 3 (Bo 4 (Bo 5 s).2).2).1.s)⟩,((Bo 3 (Bo 4 (Bo 5 s).2).2).2.1,(Bo 3 (Bo 4 (Bo 5 s).2).2).2.2||(IG (Cy (Bo 3 (Bo 4 (Bo 5 s).2).2).1.s)).isNone))
def Of:Nat->Int->RS->List An × RS
 |0,_,s=>([],s)
 |f+1,n,s=>if n>0/\s.2=false then ((SJ s).1::(Of f (n-1) (SJ s).2).1,(Of f (n-1) (SJ s).2).2) else ([],s)
def WZ(s:RS):Sa × RS:=(⟨wrap .i64 (Bo 1 (Bo 5 s).2).1.n,wrap .i64 (Bo 1 (Bo 1 (Bo 5 s).2).2).1.n⟩,(Bo 1 (Bo 1 (Bo 5 s).2).2).2)
def Ro:Nat->Int->RS->List Sa × RS
 |0,_,s=>([],s)
 |f+1,n,s=>if n>0/\s.2=false then ((WZ s).1::(Ro f (n-1) (WZ s).2).1,(Ro f (n-1) (WZ s).2).2) else ([],s)
def HW(s:RS):It × RS:=Bo 5 (Bo 1 (Bo 5 s).2).2
def FB(s:RS):List An × RS:=Of (s.1.length+2) (HW s).1.n (HW s).2
def FM(s:RS):It × RS:=Bo 5 (FB s).2
def Af2(s:RS):List Sa × RS:=Ro (s.1.length+2) (FM s).1.n (FM s).2
def Oj(s:RS):Me × RS:=(⟨(Bo 1 (Bo 5 s).2).1.n,(FB s).1,(Af2 s).1⟩,(Af2 s).2)
def I3:Nat->Int->RS->List Me × RS
 |0,_,s=>([],s)
 |f+1,n,s=>if n>0/\s.2=false then ((Oj s).1::(I3 f (n-1) (Oj s).2).1,(I3 f (n-1) (Oj s).2).2) else ([],s)
def JA(l:List It):It × RS:=Bo 1 (Bo 5 (l,false)).2
def HH(l:List It):It × RS:=Bo 1 (JA l).2
def HT(l:List It):It × RS:=Bo 1 (HH l).2
def BV(l:List It):It × RS:=Bo 5 (HT l).2
def Ajp(l:List It):List Me × RS:=I3 (l.length+2) (BV l).1.n (BV l).2
def YI:Sg:=⟨0,[],[]⟩
def KI(l:List It):Md × Bool:=(⟨wrap .i64 (JA l).1.n,wrap .i64 (HH l).1.n,wrap .i64 (HT l).1.n,(Ajp l).1,YI⟩,!(Ajp l).2.2&&(((Ajp l).2.1.length:Int)==0))
def Om(lim:Int)(s:RS):Int × RS:=if (E5 1 s).1.n>lim then (0,((E5 1 s).2.1,true)) else (wrap .i64 (E5 1 s).1.n,(E5 1 s).2)
def D4(lim:Int)(s:RS):Int × RS:=if (E5 5 s).1.n>lim then (0,((E5 5 s).2.1,true)) else (wrap .i64 (E5 5 s).1.n,(E5 5 s).2)
def XD(s:RS):An × RS:=
 (⟨(E5 4 (D4 2 s).2).1.s,Agp (Cy (E5 3 (E5 4 (D4 2 s).2).2).1.s)⟩,((E5 3 (E5 4 (D4 2 s).2).2).2.1,(E5 3 (E5 4 (D4 2 s).2).2).2.2||(IG (Cy (E5 3 (E5 4 (D4 2 s).2).2).1.s)).isNone))
def Mt:Nat->RS->List An × RS
 |0,s=>([],s)
 |n+1,s=>if s.2=false then ((XD s).1::(Mt n (XD s).2).1,(Mt n (XD s).2).2) else ([],s)
def stR(s:RS):Sa × RS:=(⟨(Om 4 (D4 2 s).2).1,(Om 1099511627776 (Om 4 (D4 2 s).2).2).1⟩,(Om 1099511627776 (Om 4 (D4 2 s).2).2).2)
def Oe:Nat->RS->List Sa × RS
 |0,s=>([],s)
 |n+1,s=>if s.2=false then ((stR s).1::(Oe n (stR s).2).1,(Oe n (stR s).2).2) else ([],s)
def Qa(s:RS):Int × RS:=D4 4 (E5 1 (D4 3 s).2).2
def Yf(s:RS):List An × RS:=Mt (Qa s).1.toNat (Qa s).2
def Ot(s:RS):Int × RS:=D4 4 (Yf s).2
def ZR(s:RS):List Sa × RS:=Oe (Ot s).1.toNat (Ot s).2
def Si(s:RS):Me × RS:=(⟨(E5 1 (D4 3 s).2).1.n,(Yf s).1,(ZR s).1⟩,(ZR s).2)
def Jd:Nat->RS->List Me × RS
 |0,s=>([],s)
 |n+1,s=>if s.2=false then ((Si s).1::(Jd n (Si s).2).1,(Jd n (Si s).2).2) else ([],s)
def Yv(l:List It):Int × RS:=Om 16 (D4 4 (l,false)).2
def Xu(l:List It):Int × RS:=Om 1099511627776 (Yv l).2
def Ys(l:List It):Int × RS:=Om 1099511627776 (Xu l).2
def Ml(l:List It):Int × RS:=D4 16 (Ys l).2
def ZT(l:List It):List Me × RS:=Jd (Ml l).1.toNat (Ml l).2
def Ade(l:List It):Md × Bool:=(⟨(Yv l).1,(Xu l).1,(Ys l).1,(ZT l).1,YI⟩,!(ZT l).2.2)
theorem Gq{k:Int}{x:It}{r:List It}(h:x.k=k):Bo k (x::r,false)=(x,(r,false)):=by unfold Bo;rw[A5 (by simp)];simp only[h,if_true]
theorem Yw{k:Int}{x:It}{r:List It}(h:x.k=k):E5 k (x::r,false)=(x,(r,false)):=by unfold E5;simp only[h,if_true]
theorem Qp{lim n:Int}{r:List It}(h0:0<=n)(h:n<=lim)(h1:lim<=1000):D4 lim (D9 n::r,false)=(n,(r,false)):=by have e:=Yw (k:=5) (x:=D9 n) (r:=r) rfl;unfold D4;rw[e];have e2:(D9 n).n=n:=rfl;simp only[e2];rw[A5 (by omega),Ag (by omega) (by omega)]
theorem CP{lim n:Int}{r:List It}(h0:0<=n)(h:n<=lim)(h1:lim<=1099511627776):Om lim (Dy n::r,false)=(n,(r,false)):=by have e:=Yw (k:=1) (x:=Dy n) (r:=r) rfl;unfold Om;rw[e];have e2:(Dy n).n=n:=rfl;simp only[e2];rw[A5 (by omega),Ag (by omega) (by omega)]
theorem Alk{a:An}(h:F1 a=0)(hr:Ty a.key.root):IG (Cy (Bj (Ij a.key)))=some a.key:=by rw[Pp A11];exact Aok (Abq h).2.2.2 hr
theorem Ay0{a:An}{r:List It}(h:F1 a=0)(hr:Ty a.key.root):SJ (Cr a++r,false)=(a,(r,false)):=by have e1:Bo 5 (Cr a++r,false)=(D9 2,((⟨4,0,a.name⟩:It)::⟨3,0,Bj (Ij a.key)⟩::r,false)):=Gq rfl;have e2:Bo 4 ((⟨4,0,a.name⟩:It)::⟨3,0,Bj (Ij a.key)⟩::r,false)=(⟨4,0,a.name⟩,(⟨3,0,Bj (Ij a.key)⟩::r,false)):=Gq rfl;have e3:Bo 3 ((⟨3,0,Bj (Ij a.key)⟩:It)::r,false)=(⟨3,0,Bj (Ij a.key)⟩,(r,false)):=Gq rfl;unfold SJ Agp;rw[e1];simp only[e2,e3,Alk h hr];rfl
theorem Axu{a:An}{r:List It}(h:F1 a=0)(hr:Ty a.key.root):XD (Cr a++r,false)=(a,(r,false)):=by have e1:D4 2 (Cr a++r,false)=(2,((⟨4,0,a.name⟩:It)::⟨3,0,Bj (Ij a.key)⟩::r,false)):=Qp (by omega) (by omega) (by omega);have e2:E5 4 ((⟨4,0,a.name⟩:It)::⟨3,0,Bj (Ij a.key)⟩::r,false)=(⟨4,0,a.name⟩,(⟨3,0,Bj (Ij a.key)⟩::r,false)):=Yw rfl;have e3:E5 3 ((⟨3,0,Bj (Ij a.key)⟩:It)::r,false)=(⟨3,0,Bj (Ij a.key)⟩,(r,false)):=Yw rfl;unfold XD Agp;rw[e1];simp only[e2,e3,Alk h hr];rfl
theorem Af3{rest:List It}:∀(l:List An)(f:Nat),l.length<f->(∀a∈l,F1 a=0/\Ty a.key.root)->Of f l.length ((l.map Cr).flatten++rest,false)=(l,(rest,false))
 |_,0,h,_=>by omega
 |[],f+1,_,_=>by
  unfold Of;rw[A5 (by simp)];rfl
 |a::l,f+1,h,hk=>by
  simp only[G7] at h;have ih:=Af3 (rest:=rest) l f (by omega) (fun x hx=>hk x (by simp[hx]));have e:=Ay0 (a:=a) (r:=(l.map Cr).flatten++rest) (hk a (by simp)).1 (hk a (by simp)).2;rw[Sf,List.flatten_cons,FC];unfold Of;rw[Bq ⟨by simp only[G7];omega,rfl⟩,e]
  have el:(((a::l).length:Nat):Int)-1=(l.length:Int):=by simp only[G7];omega
  rw[el];simp only[ih]
theorem Aht{rest:List It}:∀(l:List An),(∀a∈l,F1 a=0/\Ty a.key.root)->Mt l.length ((l.map Cr).flatten++rest,false)=(l,(rest,false))
 |[],_=>rfl
 |a::l,hk=>by
  have ih:=Aht (rest:=rest) l (fun x hx=>hk x (by simp[hx]));have e:=Axu (a:=a) (r:=(l.map Cr).flatten++rest) (hk a (by simp)).1 (hk a (by simp)).2;rw[Sf,List.flatten_cons,FC];rw[show (a::l).length=l.length+1 from rfl,Mt,Bq rfl,e];simp only[ih]
theorem Aw7{s:Sa}{r:List It}(h:1<=s.kd/\s.kd<=4/\0<=s.at_/\s.at_<=1099511627776):WZ (Cp s++r,false)=(s,(r,false)):=by have e1:Bo 5 (Cp s++r,false)=(D9 2,(Dy s.kd::Dy s.at_::r,false)):=Gq rfl;have e2:Bo 1 (Dy s.kd::Dy s.at_::r,false)=(Dy s.kd,(Dy s.at_::r,false)):=Gq rfl;have e3:Bo 1 (Dy s.at_::r,false)=(Dy s.at_,(r,false)):=Gq rfl;have n1:(Dy s.kd).n=s.kd:=rfl;have n2:(Dy s.at_).n=s.at_:=rfl;unfold WZ;rw[e1];simp only[e2,e3,n1,n2];rw[Ag (by omega) (by omega),Ag (by omega) (by omega)]
theorem Ax2{s:Sa}{r:List It}(h:1<=s.kd/\s.kd<=4/\0<=s.at_/\s.at_<=1099511627776):stR (Cp s++r,false)=(s,(r,false)):=by have e1:D4 2 (Cp s++r,false)=(2,(Dy s.kd::Dy s.at_::r,false)):=Qp (by omega) (by omega) (by omega);have e2:Om 4 (Dy s.kd::Dy s.at_::r,false)=(s.kd,(Dy s.at_::r,false)):=CP (by omega) (by omega) (by omega);have e3:Om 1099511627776 (Dy s.at_::r,false)=(s.at_,(r,false)):=CP (by omega) (by omega) (by omega);unfold stR;rw[e1];simp only[e2,e3]
theorem Ae4{rest:List It}:∀(l:List Sa)(f:Nat),l.length<f->(∀s∈l,1<=s.kd/\s.kd<=4/\0<=s.at_/\s.at_<=1099511627776)->Ro f l.length ((l.map Cp).flatten++rest,false)=(l,(rest,false))
 |_,0,h,_=>by omega
 |[],f+1,_,_=>by
  unfold Ro;rw[A5 (by simp)];rfl
 |a::l,f+1,h,hk=>by
  simp only[G7] at h;have ih:=Ae4 (rest:=rest) l f (by omega) (fun x hx=>hk x (by simp[hx]));have e:=Aw7 (s:=a) (r:=(l.map Cp).flatten++rest) (hk a (by simp));rw[Sf,List.flatten_cons,FC];unfold Ro;rw[Bq ⟨by simp only[G7];omega,rfl⟩,e]
  have el:(((a::l).length:Nat):Int)-1=(l.length:Int):=by simp only[G7];omega
  rw[el];simp only[ih]
theorem Agq{rest:List It}:∀(l:List Sa),(∀s∈l,1<=s.kd/\s.kd<=4/\0<=s.at_/\s.at_<=1099511627776)->Oe l.length ((l.map Cp).flatten++rest,false)=(l,(rest,false))
 |[],_=>rfl
 |a::l,hk=>by
  have ih:=Agq (rest:=rest) l (fun x hx=>hk x (by simp[hx]));have e:=Ax2 (s:=a) (r:=(l.map Cp).flatten++rest) (hk a (by simp));rw[Sf,List.flatten_cons,FC];rw[show (a::l).length=l.length+1 from rfl,Oe,Bq rfl,e];simp only[ih]
def Me.rts(x:Me):Prop:=∀a∈x.ans,Ty a.key.root
theorem EU(x:Me)(r:List It):A7 x++r=D9 3::Dy x.model::D9 x.ans.length::((x.ans.map Cr).flatten++(D9 x.sts.length::((x.sts.map Cp).flatten++r))):=by unfold A7 Vs Dq;simp only[List.flatten_cons,List.flatten_nil,List.append_nil,Zzp,SR,FC,List.length_map]
theorem Asr{x:Me}{r:List It}(h:C4 x=0)(hr:x.rts):Oj (A7 x++r,false)=(x,(r,false)):=by
 obtain⟨h1,h2,h3,h4⟩:=Pg h;have e1:Bo 5 (A7 x++r,false)=(D9 3,(Dy x.model::D9 x.ans.length::((x.ans.map Cr).flatten++(D9 x.sts.length::((x.sts.map Cp).flatten++r))),false)):=by rw[EU];exact Gq rfl
 have e2:Bo 1 (Dy x.model::D9 x.ans.length::((x.ans.map Cr).flatten++(D9 x.sts.length::((x.sts.map Cp).flatten++r))),false)=(Dy x.model,(D9 x.ans.length::((x.ans.map Cr).flatten++(D9 x.sts.length::((x.sts.map Cp).flatten++r))),false)):=Gq rfl
 have eA:HW (A7 x++r,false)=(D9 x.ans.length,((x.ans.map Cr).flatten++(D9 x.sts.length::((x.sts.map Cp).flatten++r)),false)):=by
  unfold HW;rw[e1];simp only[e2];exact Gq rfl
 have len:x.ans.length<(A7 x++r).length+2/\x.sts.length<(A7 x++r).length+2:=by
  rw[EU];simp only[G7,Fw,Iw Qx,Iw X5];omega
 have eB:FB (A7 x++r,false)=(x.ans,(D9 x.sts.length::((x.sts.map Cp).flatten++r),false)):=by
  unfold FB;rw[eA];exact Af3 x.ans _ len.1 (fun a ha=>⟨Vm h3 a ha,hr a ha⟩)
 have eC:FM (A7 x++r,false)=(D9 x.sts.length,((x.sts.map Cp).flatten++r,false)):=by
  unfold FM;rw[eB];exact Gq rfl
 have eD:Af2 (A7 x++r,false)=(x.sts,(r,false)):=by
  unfold Af2;rw[eC];exact Ae4 x.sts _ len.2 (Xt h4)
 unfold Oj;rw[eB,eD,e1];simp only[e2];rfl
theorem Au6{x:Me}{r:List It}(h:C4 x=0)(hr:x.rts):Si (A7 x++r,false)=(x,(r,false)):=by
 obtain⟨h1,h2,h3,h4⟩:=Pg h;have e1:D4 3 (A7 x++r,false)=(3,(Dy x.model::D9 x.ans.length::((x.ans.map Cr).flatten++(D9 x.sts.length::((x.sts.map Cp).flatten++r))),false)):=by rw[EU];exact Qp (by omega) (by omega) (by omega)
 have e2:E5 1 (Dy x.model::D9 x.ans.length::((x.ans.map Cr).flatten++(D9 x.sts.length::((x.sts.map Cp).flatten++r))),false)=(Dy x.model,(D9 x.ans.length::((x.ans.map Cr).flatten++(D9 x.sts.length::((x.sts.map Cp).flatten++r))),false)):=Yw rfl
 have eA:Qa (A7 x++r,false)=((x.ans.length:Int),((x.ans.map Cr).flatten++(D9 x.sts.length::((x.sts.map Cp).flatten++r)),false)):=by
  unfold Qa;rw[e1];simp only[e2];exact Qp (by omega) (by omega) (by omega)
 have eB:Yf (A7 x++r,false)=(x.ans,(D9 x.sts.length::((x.sts.map Cp).flatten++r),false)):=by
  unfold Yf;rw[eA];simp only[H0];exact Aht x.ans (fun a ha=>⟨Vm h3 a ha,hr a ha⟩)
 have eC:Ot (A7 x++r,false)=((x.sts.length:Int),((x.sts.map Cp).flatten++r,false)):=by
  unfold Ot;rw[eB];exact Qp (by omega) (by omega) (by omega)
 have eD:ZR (A7 x++r,false)=(x.sts,(r,false)):=by
  unfold ZR;rw[eC];simp only[H0];exact Agq x.sts (Xt h4)
 unfold Si;rw[eB,eD,e1];simp only[e2];rfl
theorem ZE{rest:List It}:∀(l:List Me)(f:Nat),l.length<f->(∀x∈l,C4 x=0/\x.rts)->I3 f l.length ((l.map A7).flatten++rest,false)=(l,(rest,false))
 |_,0,h,_=>by omega
 |[],f+1,_,_=>by
  unfold I3;rw[A5 (by simp)];rfl
 |a::l,f+1,h,hk=>by
  simp only[G7] at h;have ih:=ZE (rest:=rest) l f (by omega) (fun x hx=>hk x (by simp[hx]));have e:=Asr (x:=a) (r:=(l.map A7).flatten++rest) (hk a (by simp)).1 (hk a (by simp)).2;rw[Sf,List.flatten_cons,FC];unfold I3;rw[Bq ⟨by simp only[G7];omega,rfl⟩,e]
  have el:(((a::l).length:Nat):Int)-1=(l.length:Int):=by simp only[G7];omega
  rw[el];simp only[ih]
theorem ZS{rest:List It}:∀(l:List Me),(∀x∈l,C4 x=0/\x.rts)->Jd l.length ((l.map A7).flatten++rest,false)=(l,(rest,false))
 |[],_=>rfl
 |a::l,hk=>by
  have ih:=ZS (rest:=rest) l (fun x hx=>hk x (by simp[hx]));have e:=Au6 (x:=a) (r:=(l.map A7).flatten++rest) (hk a (by simp)).1 (hk a (by simp)).2;rw[Sf,List.flatten_cons,FC];rw[show (a::l).length=l.length+1 from rfl,Jd,Bq rfl,e];simp only[ih]
theorem AO(m:Md):A6 m=D9 4::Dy m.ver::Dy m.iss::Dy m.nxt::D9 m.ents.length::(m.ents.map A7).flatten:=by unfold A6 Np Dq;simp only[List.flatten_cons,List.flatten_nil,List.append_nil,Zzp,SR,List.length_map]
theorem As6{l:List Me}:l.length<=(l.map A7).flatten.length:=by
 induction l with
 |nil=>simp
 |cons x l ih=>
  rw[Sf,List.flatten_cons,Fw,G7];have:1<=(A7 x).length:=by unfold A7;simp
  omega
theorem Avi{m:Md}(h:Bu m=0)(hr:∀x∈m.ents,x.rts):KI (A6 m)=({ m with sig:=YI },true):=by
 obtain⟨h1,h2,h3,h4,h5,h6,h7⟩:=Kl h;have e1:Bo 5 (A6 m,false)=(D9 4,(Dy m.ver::Dy m.iss::Dy m.nxt::D9 m.ents.length::(m.ents.map A7).flatten,false)):=by rw[AO];exact Gq rfl
 have eA:JA (A6 m)=(Dy m.ver,(Dy m.iss::Dy m.nxt::D9 m.ents.length::(m.ents.map A7).flatten,false)):=by unfold JA;rw[e1];exact Gq rfl
 have eB:HH (A6 m)=(Dy m.iss,(Dy m.nxt::D9 m.ents.length::(m.ents.map A7).flatten,false)):=by unfold HH;rw[eA];exact Gq rfl
 have eC:HT (A6 m)=(Dy m.nxt,(D9 m.ents.length::(m.ents.map A7).flatten,false)):=by unfold HT;rw[eB];exact Gq rfl
 have eD:BV (A6 m)=(D9 m.ents.length,((m.ents.map A7).flatten,false)):=by unfold BV;rw[eC];exact Gq rfl
 have eE:Ajp (A6 m)=(m.ents,([],false)):=by
  unfold Ajp;rw[eD];have:=ZE (rest:=[]) m.ents ((A6 m).length+2) (by rw[AO];simp only[G7];have:=As6 (l:=m.ents);omega) (fun x hx=>⟨Mh h7 x hx,hr x hx⟩)
  rw[List.append_nil] at this;exact this
 have n1:(Dy m.ver).n=m.ver:=rfl;have n2:(Dy m.iss).n=m.iss:=rfl;have n3:(Dy m.nxt).n=m.nxt:=rfl;unfold KI;rw[eA,eB,eC,eE];simp only[n1,n2,n3];rw[Ag (by omega) (by omega),Ag (by omega) (by omega),Ag (by omega) (by omega)];rfl
theorem At5{m:Md}(h:Bu m=0)(hr:∀x∈m.ents,x.rts):Ade (A6 m)=({ m with sig:=YI },true):=by
 obtain⟨h1,h2,h3,h4,h5,h6,h7⟩:=Kl h;have e1:D4 4 (A6 m,false)=(4,(Dy m.ver::Dy m.iss::Dy m.nxt::D9 m.ents.length::(m.ents.map A7).flatten,false)):=by rw[AO];exact Qp (by omega) (by omega) (by omega)
 have eA:Yv (A6 m)=(m.ver,(Dy m.iss::Dy m.nxt::D9 m.ents.length::(m.ents.map A7).flatten,false)):=by unfold Yv;rw[e1];exact CP (by omega) (by omega) (by omega)
 have eB:Xu (A6 m)=(m.iss,(Dy m.nxt::D9 m.ents.length::(m.ents.map A7).flatten,false)):=by unfold Xu;rw[eA];exact CP (by omega) (by omega) (by omega)
 have eC:Ys (A6 m)=(m.nxt,(D9 m.ents.length::(m.ents.map A7).flatten,false)):=by unfold Ys;rw[eB];exact CP (by omega) (by omega) (by omega)
 have eD:Ml (A6 m)=((m.ents.length:Int),((m.ents.map A7).flatten,false)):=by unfold Ml;rw[eC];exact Qp (by omega) (by omega) (by omega)
 have eE:ZT (A6 m)=(m.ents,([],false)):=by
  unfold ZT;rw[eD];simp only[H0];have:=ZS (rest:=[]) m.ents (fun x hx=>⟨Mh h7 x hx,hr x hx⟩);rw[List.append_nil] at this;exact this
 unfold Ade;rw[eA,eB,eC,eE];rfl
def okA(a:An):Prop:=Ty a.key.root/\a.name.size<=1024
def okM(x:Me):Prop:=Ty x.model/\(∀a∈x.ans,okA a)/\x.ans.length<=1010/\x.sts.length<=1010
def R0(l:List It):Prop:=∀x∈l,OkX x
theorem Af9:Ty it0.n:=⟨by decide,by decide⟩
theorem Agf:it0.s.size<=1024:=by decide
theorem Du{k:Int}{s:RS}(h:R0 s.1):Ty (Bo k s).1.n/\(Bo k s).1.s.size<=1024/\R0 (Bo k s).2.1/\(Bo k s).2.1.length<=s.1.length/\((Bo k s).2.2=false->s.2=false/\(Bo k s).2.1.length<s.1.length):=by
 obtain⟨l,b⟩:=s;unfold Bo;cases b
 ·rw[A5 (by simp)];cases l with
  |nil=>exact⟨Af9,Agf,h,C9 _,fun e=>(by cases e)⟩
  |cons x r=>
   simp only;by_cases hk:x.k=k
   ·simp only[hk,if_true];have hx:=h x (by simp);exact⟨⟨hx.n0,hx.n1⟩,hx.s1,fun y hy=>h y (by simp[hy]),by simp,fun _=>⟨by trivial,by simp⟩⟩
   ·simp only[hk,if_false];exact⟨Af9,Agf,h,C9 _,fun e=>(by cases e)⟩
 ·rw[Bq rfl];exact⟨Af9,Agf,h,C9 _,fun e=>(by cases e)⟩
theorem R6{k:Int}{s:RS}(h:R0 s.1):Ty (E5 k s).1.n/\(E5 k s).1.s.size<=1024/\R0 (E5 k s).2.1/\(E5 k s).2.1.length<=s.1.length:=by
 obtain⟨l,b⟩:=s;unfold E5;cases l with
 |nil=>exact⟨Af9,Agf,h,C9 _⟩
 |cons x r=>
  simp only;by_cases hk:x.k=k
  ·simp only[hk,if_true];have hx:=h x (by simp);exact⟨⟨hx.n0,hx.n1⟩,hx.s1,fun y hy=>h y (by simp[hy]),by simp⟩
  ·simp only[hk,if_false];exact⟨Af9,Agf,h,C9 _⟩
theorem Amz(l:Ca):Ty (Agp l).root:=by
 unfold Agp;cases h:IG l with
 |none=>exact⟨by simp,by simp⟩
 |some k=>exact (Aww h).2
theorem At1{s:RS}(h:R0 s.1):okA (SJ s).1/\R0 (SJ s).2.1/\(SJ s).2.1.length<=s.1.length/\((SJ s).2.2=false->(SJ s).2.1.length<s.1.length):=by
 obtain⟨_,_,a3,a4,a5⟩:=Du (k:=5) h;obtain⟨_,b2,b3,b4,b5⟩:=Du (k:=4) a3;obtain⟨_,_,c3,c4,c5⟩:=Du (k:=3) b3;unfold SJ;refine⟨⟨Amz _,b2⟩,c3,by simp only;omega,fun e=>?_⟩
 simp only[Bool.or_eq_false_iff] at e;have:=c5 e.1;simp only;omega
theorem Acw:∀{f:Nat}{n:Int}{s:RS},R0 s.1->(∀a∈(Of f n s).1,okA a)/\(Of f n s).1.length<=f/\R0 (Of f n s).2.1/\(Of f n s).2.1.length<=s.1.length
 |0,n,s,h=>⟨fun a ha=>(by cases ha),C9 _,h,C9 _⟩
 |f+1,n,s,h=>by
  obtain⟨a1,a2,a3,_⟩:=At1 h;obtain⟨b1,b2,b3,b4⟩:=Acw (f:=f) (n:=n-1) a2;unfold Of;split
  ·refine⟨fun a ha=>?_,by simp only[G7];omega,b3,by simp only;omega⟩
   rcases B6.1 ha with rfl|ha
   ·exact a1
   ·exact b1 a ha
  ·exact⟨fun a ha=>(by cases ha),Nat.zero_le _,h,C9 _⟩
theorem Aqk{s:RS}(h:R0 s.1):R0 (WZ s).2.1/\(WZ s).2.1.length<=s.1.length/\((WZ s).2.2=false->(WZ s).2.1.length<s.1.length):=by
 obtain⟨_,_,a3,a4,a5⟩:=Du (k:=5) h;obtain⟨_,_,b3,b4,b5⟩:=Du (k:=1) a3;obtain⟨_,_,c3,c4,c5⟩:=Du (k:=1) b3;unfold WZ;refine⟨c3,by simp only;omega,fun e=>?_⟩
 have:=c5 e;simp only;omega
theorem Alq:∀{f:Nat}{n:Int}{s:RS},R0 s.1->(Ro f n s).1.length<=f/\R0 (Ro f n s).2.1/\(Ro f n s).2.1.length<=s.1.length
 |0,n,s,h=>⟨C9 _,h,C9 _⟩
 |f+1,n,s,h=>by
  obtain⟨a2,a3,_⟩:=Aqk h;obtain⟨b2,b3,b4⟩:=Alq (f:=f) (n:=n-1) a2;unfold Ro;split
  ·exact⟨by simp only[G7];omega,b3,by simp only;omega⟩
  ·exact⟨Nat.zero_le _,h,C9 _⟩
theorem Ady{s:RS}(h:R0 s.1)(hl:s.1.length<=1000):okM (Oj s).1/\R0 (Oj s).2.1/\(Oj s).2.1.length<=s.1.length/\((Bo 5 s).2.2=false->(Oj s).2.1.length<s.1.length):=by
 obtain⟨_,_,a3,a4,a5⟩:=Du (k:=5) h;obtain⟨b1,_,b3,b4,b5⟩:=Du (k:=1) a3;have hA:=Du (k:=5) b3;have hB:=Acw (f:=s.1.length+2) (n:=(HW s).1.n) (s:=(HW s).2) hA.2.2.1;have hC:=Du (k:=5) (s:=(FB s).2) hB.2.2.1;have hD:=Alq (f:=s.1.length+2) (n:=(FM s).1.n) (s:=(FM s).2) hC.2.2.1;have l1:(HW s).2.1.length<=(Bo 5 s).2.1.length:=Nat.le_trans hA.2.2.2.1 b4;have l2:(FB s).2.1.length<=(HW s).2.1.length:=hB.2.2.2;have l3:(FM s).2.1.length<=(FB s).2.1.length:=hC.2.2.2.1;have l4:(Af2 s).2.1.length<=(FM s).2.1.length:=hD.2.2;have m1:(FB s).1.length<=s.1.length+2:=hB.2.1;have m2:(Af2 s).1.length<=s.1.length+2:=hD.1;unfold Oj;refine⟨⟨b1,hB.1,by simp only;omega,by simp only;omega⟩,hD.2.1,by simp only;omega,fun e=>?_⟩
 have:=(a5 e).2;simp only;omega
theorem Asw{s:RS}(h:R0 s.1)(hl:s.1.length<=1000):(Oj s).2.2=false->(Oj s).2.1.length<s.1.length:=by
 intro e;by_cases hf:(Bo 5 s).2.2=false
 ·exact (Ady h hl).2.2.2 hf
 ·exfalso;have hf:(Bo 5 s).2.2=true:=by simpa using hf
  have st:∀{k:Int} {q:RS},q.2=true->(Bo k q).2.2=true:=fun {k q} hq=>by unfold Bo;rw[Bq hq]
  have h1:(HW s).2.2=true:=st (st hf)
  have h2:(FB s).2.2=true:=by
   unfold FB Of;rw[A5 (by simp[h1])];exact h1
  have h3:(FM s).2.2=true:=st h2
  have h4:(Af2 s).2.2=true:=by
   unfold Af2 Ro;rw[A5 (by simp[h3])];exact h3
  have:(Oj s).2.2=true:=h4;rw[this] at e;cases e
theorem Aee:∀{f:Nat}{n:Int}{s:RS},R0 s.1->s.1.length<=1000->(∀x∈(I3 f n s).1,okM x)/\(I3 f n s).1.length<=f/\R0 (I3 f n s).2.1/\(I3 f n s).2.1.length<=s.1.length
 |0,n,s,h,_=>⟨fun a ha=>(by cases ha),C9 _,h,C9 _⟩
 |f+1,n,s,h,hl=>by
  obtain⟨a1,a2,a3,_⟩:=Ady h hl;obtain⟨b1,b2,b3,b4⟩:=Aee (f:=f) (n:=n-1) a2 (by omega);unfold I3;split
  ·refine⟨fun a ha=>?_,by simp only[G7];omega,b3,by simp only;omega⟩
   rcases B6.1 ha with rfl|ha
   ·exact a1
   ·exact b1 a ha
  ·exact⟨fun a ha=>(by cases ha),Nat.zero_le _,h,C9 _⟩
theorem Abr{l:List It}(h:R0 l)(hl:l.length<=1000):(∀x∈(KI l).1.ents,okM x)/\(KI l).1.ents.length<=1010/\R0 (JA l).2.1/\(JA l).2.1.length<=1000/\R0 (HH l).2.1/\(HH l).2.1.length<=1000/\R0 (HT l).2.1/\(HT l).2.1.length<=1000/\R0 (BV l).2.1/\(BV l).2.1.length<=l.length:=by have h0:=Du (k:=5) (s:=(l,false)) h;have hA:=Du (k:=1) h0.2.2.1;have hB:=Du (k:=1) (s:=(JA l).2) hA.2.2.1;have hC:=Du (k:=1) (s:=(HH l).2) hB.2.2.1;have hD:=Du (k:=5) (s:=(HT l).2) hC.2.2.1;have l0:(Bo 5 ((l,false):RS)).2.1.length<=l.length:=h0.2.2.2.1;have l1:(JA l).2.1.length<=(Bo 5 ((l,false):RS)).2.1.length:=hA.2.2.2.1;have l2:(HH l).2.1.length<=(JA l).2.1.length:=hB.2.2.2.1;have l3:(HT l).2.1.length<=(HH l).2.1.length:=hC.2.2.2.1;have l4:(BV l).2.1.length<=(HT l).2.1.length:=hD.2.2.2.1;have hE:=Aee (f:=l.length+2) (n:=(BV l).1.n) (s:=(BV l).2) hD.2.2.1 (by omega);exact⟨hE.1,by have:(Ajp l).1.length<=l.length+2:=hE.2.1;show (Ajp l).1.length<=_;omega,hA.2.2.1,by omega,hB.2.2.1,by omega,hC.2.2.1,by omega,hD.2.2.1,by omega⟩
theorem KK{lim:Int}{s:RS}(h:R0 s.1)(h0:0<=lim)(h1:lim<=1099511627776):0<=(Om lim s).1/\(Om lim s).1<=lim/\R0 (Om lim s).2.1/\(Om lim s).2.1.length<=s.1.length:=by
 obtain⟨a1,_,a3,a4⟩:=R6 (k:=1) h;unfold Om;split
 ·exact⟨Int.le_refl _,h0,a3,a4⟩
 ·have:=a1.1;simp only;rw[Ag (by omega) (by omega)];exact⟨a1.1,by omega,a3,a4⟩
theorem Ld{lim:Int}{s:RS}(h:R0 s.1)(h0:0<=lim)(h1:lim<=1000):0<=(D4 lim s).1/\(D4 lim s).1<=lim/\R0 (D4 lim s).2.1/\(D4 lim s).2.1.length<=s.1.length:=by
 obtain⟨a1,_,a3,a4⟩:=R6 (k:=5) h;unfold D4;split
 ·exact⟨Int.le_refl _,h0,a3,a4⟩
 ·have:=a1.1;simp only;rw[Ag (by omega) (by omega)];exact⟨a1.1,by omega,a3,a4⟩
theorem Ar5{s:RS}(h:R0 s.1):okA (XD s).1/\R0 (XD s).2.1/\(XD s).2.1.length<=s.1.length:=by obtain⟨_,_,a3,a4⟩:=Ld (lim:=2) h (by omega) (by omega);obtain⟨_,b2,b3,b4⟩:=R6 (k:=4) a3;obtain⟨_,_,c3,c4⟩:=R6 (k:=3) b3;unfold XD;exact⟨⟨Amz _,b2⟩,c3,by simp only;omega⟩
theorem Adl:∀{n:Nat}{s:RS},R0 s.1->(∀a∈(Mt n s).1,okA a)/\(Mt n s).1.length<=n/\R0 (Mt n s).2.1/\(Mt n s).2.1.length<=s.1.length
 |0,s,h=>⟨fun a ha=>(by cases ha),C9 _,h,C9 _⟩
 |n+1,s,h=>by
  obtain⟨a1,a2,a3⟩:=Ar5 h;obtain⟨b1,b2,b3,b4⟩:=Adl (n:=n) a2;unfold Mt;split
  ·refine⟨fun a ha=>?_,by simp only[G7];omega,b3,by simp only;omega⟩
   rcases B6.1 ha with rfl|ha
   ·exact a1
   ·exact b1 a ha
  ·exact⟨fun a ha=>(by cases ha),Nat.zero_le _,h,C9 _⟩
theorem A2v{s:RS}(h:R0 s.1):R0 (stR s).2.1/\(stR s).2.1.length<=s.1.length:=by obtain⟨_,_,a3,a4⟩:=Ld (lim:=2) h (by omega) (by omega);obtain⟨_,_,b3,b4⟩:=KK (lim:=4) a3 (by omega) (by omega);obtain⟨_,_,c3,c4⟩:=KK (lim:=1099511627776) b3 (by omega) (by omega);unfold stR;exact⟨c3,by simp only;omega⟩
theorem Alb:∀{n:Nat}{s:RS},R0 s.1->(Oe n s).1.length<=n/\R0 (Oe n s).2.1/\(Oe n s).2.1.length<=s.1.length
 |0,s,h=>⟨C9 _,h,C9 _⟩
 |n+1,s,h=>by
  obtain⟨a2,a3⟩:=A2v h;obtain⟨b2,b3,b4⟩:=Alb (n:=n) a2;unfold Oe;split
  ·exact⟨by simp only[G7];omega,b3,by simp only;omega⟩
  ·exact⟨Nat.zero_le _,h,C9 _⟩
theorem Ali{s:RS}(h:R0 s.1):okM (Si s).1/\R0 (Si s).2.1/\(Si s).2.1.length<=s.1.length:=by obtain⟨_,_,a3,a4⟩:=Ld (lim:=3) h (by omega) (by omega);obtain⟨b1,_,b3,b4⟩:=R6 (k:=1) a3;have hA:=Ld (lim:=4) b3 (by omega) (by omega);have hB:=Adl (n:=(Qa s).1.toNat) (s:=(Qa s).2) hA.2.2.1;have hC:=Ld (lim:=4) (s:=(Yf s).2) hB.2.2.1 (by omega) (by omega);have hD:=Alb (n:=(Ot s).1.toNat) (s:=(Ot s).2) hC.2.2.1;have l1:(Qa s).2.1.length<=(E5 1 (D4 3 s).2).2.1.length:=hA.2.2.2;have l2:(Yf s).2.1.length<=(Qa s).2.1.length:=hB.2.2.2;have l3:(Ot s).2.1.length<=(Yf s).2.1.length:=hC.2.2.2;have l4:(ZR s).2.1.length<=(Ot s).2.1.length:=hD.2.2;have m1:(Yf s).1.length<=(Qa s).1.toNat:=hB.2.1;have m2:(ZR s).1.length<=(Ot s).1.toNat:=hD.1;have n1:(Qa s).1<=4:=hA.2.1;have n2:(Ot s).1<=4:=hC.2.1;unfold Si;exact⟨⟨b1,hB.1,by simp only;omega,by simp only;omega⟩,hD.2.1,by simp only;omega⟩
theorem Ah0:∀{n:Nat}{s:RS},R0 s.1->(∀x∈(Jd n s).1,okM x)/\(Jd n s).1.length<=n/\R0 (Jd n s).2.1/\(Jd n s).2.1.length<=s.1.length
 |0,s,h=>⟨fun a ha=>(by cases ha),C9 _,h,C9 _⟩
 |n+1,s,h=>by
  obtain⟨a1,a2,a3⟩:=Ali h;obtain⟨b1,b2,b3,b4⟩:=Ah0 (n:=n) a2;unfold Jd;split
  ·refine⟨fun a ha=>?_,by simp only[G7];omega,b3,by simp only;omega⟩
   rcases B6.1 ha with rfl|ha
   ·exact a1
   ·exact b1 a ha
  ·exact⟨fun a ha=>(by cases ha),Nat.zero_le _,h,C9 _⟩
theorem Am0{l:List It}(h:R0 l):(∀x∈(Ade l).1.ents,okM x)/\(Ade l).1.ents.length<=16/\R0 (Ml l).2.1/\(Ml l).2.1.length<=l.length/\0<=(Ml l).1/\(Ml l).1<=16:=by
 have h0:=Ld (lim:=4) (s:=(l,false)) h (by omega) (by omega);have hA:=KK (lim:=16) h0.2.2.1 (by omega) (by omega);have hB:=KK (lim:=1099511627776) (s:=(Yv l).2) hA.2.2.1 (by omega) (by omega);have hC:=KK (lim:=1099511627776) (s:=(Xu l).2) hB.2.2.1 (by omega) (by omega);have hD:=Ld (lim:=16) (s:=(Ys l).2) hC.2.2.1 (by omega) (by omega);have l0:(D4 4 ((l,false):RS)).2.1.length<=l.length:=h0.2.2.2;have l1:(Yv l).2.1.length<=(D4 4 ((l,false):RS)).2.1.length:=hA.2.2.2;have l2:(Xu l).2.1.length<=(Yv l).2.1.length:=hB.2.2.2;have l3:(Ys l).2.1.length<=(Xu l).2.1.length:=hC.2.2.2;have l4:(Ml l).2.1.length<=(Ys l).2.1.length:=hD.2.2.2;have hE:=Ah0 (n:=(Ml l).1.toNat) (s:=(Ml l).2) hD.2.2.1;have n1:(Ml l).1<=16:=hD.2.1
 exact⟨hE.1,by have:(ZT l).1.length<=(Ml l).1.toNat:=hE.2.1;show (ZT l).1.length<=_;omega,hD.2.2.1,by omega,hD.1,n1⟩
section
variable {xs:FuncId->Option (Ab->Option D0)}(fu d:Nat)(call:Bp)
theorem Zn(Z:ByteArray)(Y X:Int):Fn C0 fu d 104 [.agg [.sc (.string Z),Y,Af X]] fun call=>A3 (decide ((↑(ByteArray.size Z):Int)<1)) (Bv [.own 3 0 [],(9:Int)]) (A3 (decide ((↑(ByteArray.size Z):Int)>32)) (Bv [.own 3 0 [],(9:Int)]) (Dm (call 126 [.sc (.string Z)]) fun a b=>Cg a fun a=>Aq b<|A3 (!a) (Bv [.own 3 0 [],(6:Int)]) (Dm (call 129 [.agg [Y,Af X]]) fun a b=>Je 1 a fun a c=>Dk .i64 b fun b=>A3 (b != 0) (Bv [.own 3 0 [],b]) (Dm (call 130 [.sc (.string Z)]) fun b e=>Je 3 b fun b f=>Aq e<|As (decide (0+a*1<=c.length))<|Dm (call 131 [Ap 1 a (List.take (a*1) (c.drop 0))]) fun a c=>Je 3 a fun a e=>Aq c<|As (decide (0+b*3<=f.length))<|As (decide (0+a*3<=e.length))<|Dm (call 63 [Ap 1 2 [Ap 3 b (List.take (b*3) (f.drop 0)),Ap 3 a (List.take (a*3) (e.drop 0))]]) fun a b=>Je 3 a fun a c=>Dk .i64 b fun b=>As (decide (a*3<=c.length))<|Bv [.own 3 a (c.take (a*3)),b])))):=by show _=_;kernel_rfl
def Hq(Z:Int)(Y:Nat)(X:Ab)(W:Nat)(V:Ab)(U T S:Nat)(Q:Ab)(P O N:Int)(M:Nat)(L:Ab)(K:Nat)(J I:Ab):Option D0:=Mg fu call 62 Tryz.f62 [.agg [Af Z,Ap 3 Y X,Ap 2 W V]] [.r,.r,.r,.l,.r,.l] U ⟨lk [(1,.ptr 1 0),(4,.view 4 1 0 T),(27,Ap 3 S Q),(28,P),(29,O)],B0 [(1,.st [Af N,Ap 3 M L,Ap 2 K J]),(4,.ar false I)]⟩
def F4(Z:Int)(Y:Nat)(X:Ab)(W:Nat)(V:Ab)(U T:Nat)(S Q:Nat)(P:Ab)(O N M:Int)(L:Nat)(K:Ab)(J:Nat)(I H G:Ab):Option D0:=Mg fu call 62 Tryz.f62 [.agg [Af Z,Ap 3 Y X,Ap 2 W V]] [.r,.r,.r,.r,.r,.r,.r,.l,.r,.l] U ⟨lk [(1,.ptr 1 0),(4,.view 4 1 0 T),(9,.view 9 3 0 S),(55,Ap 2 Q P),(56,O),(57,N)],B0 [(1,.st [Af M,Ap 3 L K,Ap 2 J I]),(4,.ar false H),(9,.ar false G)]⟩
def Pf(Z:Int)(Y:Nat)(X:Ab)(W:Nat)(V:Ab)(U T:Nat)(S Q:Nat)(P:Int)(O:Nat)(N:Ab)(M L K:Int)(J:Nat)(I:Ab)(H:Nat)(G E D:Ab)(B A:Int):Option D0:=Mg fu call 62 Tryz.f62 [.agg [Af Z,Ap 3 Y X,Ap 2 W V]] [.r,.r,.r,.r,.r,.r,.r,.l,.r,.l,.i U,.r,.r,.l,.l,.r] T ⟨lk [(1,.ptr 1 0),(4,.view 4 1 0 S),(9,.view 9 3 0 Q),(11,P),(12,.ptr 12 0),(55,Ap 2 O N),(56,M),(57,L)],B0 [(1,.st [Af K,Ap 3 J I,Ap 2 H G]),(4,.ar false E),(9,.ar false D),(12,.st [B,A])]⟩
theorem I1(T:Int)(S:Nat)(Q:Ab)(P:Nat)(O:Ab)(I Y N:Nat)(X:Ab)(M Z L:Int)(K:Nat)(J:Ab)(W:Nat)(V U:Ab):Hq fu call T S Q P O (I+1) Y N X M Z L K J W V U=(A3 (decide (Z<M)) (As (decide (0<=Z)&&decide (Z<(↑N:Int)))<|D8 (X.getD (Z.toNat*3) .top) fun a=>Be .i64 (X.getD (Z.toNat*3+1) .top) fun b=>Be .u64 (X.getD (Z.toNat*3+1+1) .top) fun c=>Dm (call 104 [.agg [.sc (.string a),b,Af c]]) fun a b=>Je 3 a fun a c=>Dk .i64 b fun b=>A3 (b != 0) (Bv [.own 3 0 [],b]) (As (decide (0+a*3<=c.length))<|Og Y 1 24 U [Ap 3 a (List.take (a*3) (c.drop 0))] fun a b=>Aa (wrap .i64 (Z+1)) fun c=>Hq fu call T S Q P O I a N X M c L K J W V b)) (As (decide (0+Y*1<=U.length))<|Dm (call 63 [Ap 1 Y (List.take (Y*1) (U.drop 0))]) fun a b=>Je 3 a fun a c=>Dk .i64 b fun b=>A3 (b != 0) (Bv [.own 3 0 [],b]) (F4 fu call T S Q P O fu 0 a W V (↑W:Int) 0 L K J W V ([]) c))):=by kernel_rfl
theorem Em(P:Int)(O:Nat)(N:Ab)(M:Nat)(L:Ab)(K Y:Nat)(X T:Nat)(W:Ab)(S Z Q:Int)(J:Nat)(I:Ab)(H:Nat)(G V U:Ab):F4 fu call P O N M L (K+1) Y X T W S Z Q J I H G V U=(A3 (decide (Z<S)) (As (decide (0<=Z)&&decide (Z<(↑T:Int)))<|Be .i64 (W.getD (Z.toNat*2) .top) fun a=>Be .i64 (W.getD (Z.toNat*2+1) .top) fun b=>A3 (decide (a<1)) (Bv [.own 3 0 [],(9:Int)]) (A3 (decide (a>4)) (Bv [.own 3 0 [],(9:Int)]) (A3 (decide (b<0)) (Bv [.own 3 0 [],(9:Int)]) (A3 (decide (b>1099511627776)) (Bv [.own 3 0 [],(9:Int)]) (Pf fu call P O N M L K fu Y X Z T W S Z Q J I H G V U a b))))) (As (decide (0+Y*1<=V.length))<|Dm (call 63 [Ap 1 Y (List.take (Y*1) (V.drop 0))]) fun a b=>Je 3 a fun a c=>Dk .i64 b fun b=>A3 (b != 0) (Bv [.own 3 0 [],b]) (Dm (call 64 [Af Q]) fun b e=>Je 3 b fun b f=>Aq e<|As (decide (0+b*3<=f.length))<|As (decide (0+X*3<=U.length))<|As (decide (0+a*3<=c.length))<|Dm (call 63 [Ap 1 3 [Ap 3 b (List.take (b*3) (f.drop 0)),Ap 3 X (List.take (X*3) (U.drop 0)),Ap 3 a (List.take (a*3) (c.drop 0))]]) fun a b=>Je 3 a fun a c=>Dk .i64 b fun b=>As (decide (a*3<=c.length))<|Bv [.own 3 a (c.take (a*3)),b]))):=by kernel_rfl
theorem I2(V:Int)(U:Nat)(T:Ab)(S:Nat)(Q:Ab)(P Z:Nat)(Mz:0<Z)(O N:Nat)(M:Int)(L:Nat)(K:Ab)(J I H:Int)(G:Nat)(E:Ab)(Y:Nat)(X D B:Ab)(A W:Int):Pf fu call V U T S Q P Z O N M L K J I H G E Y X D B A W=(A3 (decide (M>0)) (Aa (wrap .i64 (M-1)) fun a=>As (decide (0<=a)&&decide (a<(↑Y:Int)))<|Be .i64 (X.getD (a.toNat*2+1) .top) fun a=>A3 (decide (W<=a)) (Bv [.own 3 0 [],(7:Int)]) (Aa (wrap .u64 A) fun a=>Dm (call 64 [Af a]) fun a b=>Je 3 a fun a c=>Aq b<|Aa (wrap .u64 W) fun b=>Dm (call 64 [Af b]) fun b e=>Je 3 b fun b f=>Aq e<|As (decide (0+a*3<=c.length))<|As (decide (0+b*3<=f.length))<|Dm (call 63 [Ap 1 2 [Ap 3 a (List.take (a*3) (c.drop 0)),Ap 3 b (List.take (b*3) (f.drop 0))]]) fun a b=>Je 3 a fun a c=>Dk .i64 b fun b=>A3 (b != 0) (Bv [.own 3 0 [],b]) (As (decide (0+a*3<=c.length))<|Og O 1 24 D [Ap 3 a (List.take (a*3) (c.drop 0))] fun a b=>Aa (wrap .i64 (I+1)) fun c=>F4 fu call V U T S Q P a N L K J c H G E Y X b B))) (Aa (wrap .u64 A) fun a=>Dm (call 64 [Af a]) fun a b=>Je 3 a fun a c=>Aq b<|Aa (wrap .u64 W) fun b=>Dm (call 64 [Af b]) fun b e=>Je 3 b fun b f=>Aq e<|As (decide (0+a*3<=c.length))<|As (decide (0+b*3<=f.length))<|Dm (call 63 [Ap 1 2 [Ap 3 a (List.take (a*3) (c.drop 0)),Ap 3 b (List.take (b*3) (f.drop 0))]]) fun a b=>Je 3 a fun a c=>Dk .i64 b fun b=>A3 (b != 0) (Bv [.own 3 0 [],b]) (As (decide (0+a*3<=c.length))<|Og O 1 24 D [Ap 3 a (List.take (a*3) (c.drop 0))] fun a b=>Aa (wrap .i64 (I+1)) fun c=>F4 fu call V U T S Q P a N L K J c H G E Y X b B))):=by cases Z with|zero=>exact absurd Mz (Nat.lt_irrefl 0)|succ Z=>kernel_rfl
theorem BM(W:Int)(Z:Nat)(Y:Ab)(X:Nat)(V:Ab):Fn C0 fu d 62 [.agg [Af W,Ap 3 Z Y,Ap 2 X V]] fun call=>A3 (decide ((↑Z:Int)>4)) (Bv [.own 3 0 [],(8:Int)]) (A3 (decide ((↑X:Int)>4)) (Bv [.own 3 0 [],(8:Int)]) (Hq fu call W Z Y X V fu 0 Z Y (↑Z:Int) 0 W Z Y X V ([]))):=by show _=_;kernel_rfl
def Jo(Z Y X:Int)(W:Nat)(V:Ab)(U:Int)(T:Nat)(S:Ab)(Q:Nat)(P:Ab)(O N M:Nat)(L:Ab)(K J:Int)(I H G:Int)(E:Nat)(D:Ab)(B:Int)(A:Nat)(z:Ab)(w:Nat)(v u:Ab):Option D0:=Mg fu call 34 Tryz.f34 [.agg [Z,Y,X,Ap 3 W V,U,Ap 1 T S,Ap 1 Q P]] [.r,.r,.r,.r,.r,.l,.r,.l] O ⟨lk [(1,.ptr 1 0),(4,.view 4 1 0 N),(40,Ap 3 M L),(41,K),(42,J)],B0 [(1,.st [I,H,G,Ap 3 E D,B,Ap 1 A z,Ap 1 w v]),(4,.ar false u)]⟩
theorem Ua(N M L:Int)(K:Nat)(J:Ab)(I:Int)(H:Nat)(G:Ab)(E:Nat)(D:Ab)(B Y V:Nat)(X:Ab)(U Z:Int)(T S Q:Int)(P:Nat)(O:Ab)(A:Int)(z:Nat)(w:Ab)(v:Nat)(u W:Ab):Jo fu call N M L K J I H G E D (B+1) Y V X U Z T S Q P O A z w v u W=(A3 (decide (Z<U)) (As (decide (0<=Z)&&decide (Z<(↑V:Int)))<|Be .u64 (X.getD (Z.toNat*3) .top) fun a=>Pq 3 (X.getD (Z.toNat*3+1) .top) fun b c e=>Pq 2 (X.getD (Z.toNat*3+1+1) .top) fun b f g=>A3 (decide (Z>0)) (Aa (wrap .i64 (Z-1)) fun b=>As (decide (0<=b)&&decide (b<(↑P:Int)))<|Be .u64 (O.getD (b.toNat*3+0) .top) fun b=>A3 (decide (a<=b)) (Bv [.own 1 0 [],(7:Int)]) (Dm (call 62 [.agg [Af a,Ap 3 c e,Ap 2 f g]]) fun a b=>Je 3 a fun a c=>Dk .i64 b fun b=>A3 (b != 0) (Bv [.own 1 0 [],b]) (As (decide (0+a*3<=c.length))<|Og Y 1 24 W [Ap 3 a (List.take (a*3) (c.drop 0))] fun a b=>Aa (wrap .i64 (Z+1)) fun c=>Jo fu call N M L K J I H G E D B a V X U c T S Q P O A z w v u b))) (Dm (call 62 [.agg [Af a,Ap 3 c e,Ap 2 f g]]) fun a b=>Je 3 a fun a c=>Dk .i64 b fun b=>A3 (b != 0) (Bv [.own 1 0 [],b]) (As (decide (0+a*3<=c.length))<|Og Y 1 24 W [Ap 3 a (List.take (a*3) (c.drop 0))] fun a b=>Aa (wrap .i64 (Z+1)) fun c=>Jo fu call N M L K J I H G E D B a V X U c T S Q P O A z w v u b))) (As (decide (0+Y*1<=W.length))<|Dm (call 63 [Ap 1 Y (List.take (Y*1) (W.drop 0))]) fun a b=>Je 3 a fun a c=>Dk .i64 b fun b=>A3 (b != 0) (Bv [.own 1 0 [],b]) (Aa (wrap .u64 T) fun b=>Dm (call 64 [Af b]) fun b e=>Je 3 b fun b f=>Aq e<|Aa (wrap .u64 S) fun e=>Dm (call 64 [Af e]) fun e g=>Je 3 e fun e h=>Aq g<|Aa (wrap .u64 Q) fun g=>Dm (call 64 [Af g]) fun g i=>Je 3 g fun g j=>Aq i<|As (decide (0+b*3<=f.length))<|As (decide (0+e*3<=h.length))<|As (decide (0+g*3<=j.length))<|As (decide (0+a*3<=c.length))<|Dm (call 63 [Ap 1 4 [Ap 3 b (List.take (b*3) (f.drop 0)),Ap 3 e (List.take (e*3) (h.drop 0)),Ap 3 g (List.take (g*3) (j.drop 0)),Ap 3 a (List.take (a*3) (c.drop 0))]]) fun a b=>Je 3 a fun a c=>Dk .i64 b fun b=>A3 (b != 0) (Bv [.own 1 0 [],b]) (As (decide (0+a*3<=c.length))<|Dm (call 65 [Ap 3 a (List.take (a*3) (c.drop 0))]) fun a b=>Je 1 a fun a c=>Dk .i64 b fun b=>As (decide (a*1<=c.length))<|Bv [.own 1 a (c.take (a*1)),b])))):=by kernel_rfl
theorem RB(Y X W:Int)(Z:Nat)(V:Ab)(U:Int)(T:Nat)(S:Ab)(Q:Nat)(P:Ab):Fn C0 fu d 34 [.agg [Y,X,W,Ap 3 Z V,U,Ap 1 T S,Ap 1 Q P]] fun call=>A3 (decide (Y<1)) (Bv [.own 1 0 [],(9:Int)]) (A3 (decide (Y>16)) (Bv [.own 1 0 [],(9:Int)]) (A3 (decide (X<0)) (Bv [.own 1 0 [],(9:Int)]) (A3 (decide (X>W)) (Bv [.own 1 0 [],(9:Int)]) (A3 (decide (W>1099511627776)) (Bv [.own 1 0 [],(9:Int)]) (A3 (decide ((↑Z:Int)>16)) (Bv [.own 1 0 [],(8:Int)]) (Jo fu call Y X W Z V U T S Q P fu 0 Z V (↑Z:Int) 0 Y X W Z V U T S Q P ([]))))))):=by show _=_;kernel_rfl
theorem RT(Z Y X:Int)(W:Nat)(V:Ab)(U:Int)(T:Nat)(S:Ab)(Q:Nat)(P:Ab):Fn C0 fu d 35 [.agg [Z,Y,X,Ap 3 W V,U,Ap 1 T S,Ap 1 Q P]] fun call=>Dm (call 34 [.agg [Z,Y,X,Ap 3 W V,U,Ap 1 T S,Ap 1 Q P]]) fun a b=>Je 1 a fun a c=>Dk .i64 b fun b=>A3 (b != 0) (Bv [Af 0,b]) (As (decide (0+a*1<=c.length))<|Na .u64 (call 66 [(15:Int),Ap 1 a (List.take (a*1) (c.drop 0))]) fun a=>Bv [Af a,(0:Int)]):=by show _=_;kernel_rfl
theorem JQ(Y T S:Int)(Q:Nat)(P:Ab)(Z:Int)(X:Nat)(W:Ab)(V:Nat)(U:Ab)(O N:Int):Fn C0 fu d 19 [.agg [Y,T,S,Ap 3 Q P,Z,Ap 1 X W,Ap 1 V U],.agg [O,Af N]] fun call=>Dm (call 35 [.agg [Y,T,S,Ap 3 Q P,Z,Ap 1 X W,Ap 1 V U]]) fun a b=>Be .u64 a fun a=>Dk .i64 b fun b=>A3 (b != 0) (Bv [b]) (Aa (wrap .i64 (Y-1)) fun b=>A3 (Z != b) (Bv [(33:Int)]) (Na .i64 (call 40 [.agg [O,Af N],Af a,.agg [Z,Ap 1 X W,Ap 1 V U]]) fun a=>Bv [a])):=by show _=_;kernel_rfl
theorem MH(U T S:Int)(Q:Nat)(P:Ab)(Z:Int)(Y:Nat)(X:Ab)(W:Nat)(V:Ab):Fn C0 fu d 25 [.agg [U,T,S,Ap 3 Q P,Z,Ap 1 Y X,Ap 1 W V]] fun call=>Dm (call 34 [.agg [U,T,S,Ap 3 Q P,Z,Ap 1 Y X,Ap 1 W V]]) fun a b=>Je 1 a fun a c=>Dk .i64 b fun b=>A3 (b != 0) (Bv [.own 1 0 [],b]) (Dm (call 46 [.agg [Z,Ap 1 Y X,Ap 1 W V]]) fun b e=>Je 1 b fun b f=>Dk .i64 e fun e=>A3 (e != 0) (Bv [.own 1 0 [],e]) (As (decide (0+b*1<=f.length))<|As (decide (a*1<=c.length)&&decide (List.length (List.take (b*1) (f.drop 0))=b*1)&&decide ((a+b)*1<=1099511627776)&&decide (a+b<=1099511627776))<|Aa (a+b) fun e=>Aa (List.take (a*1) c++List.take (b*1) (f.drop 0)) fun a=>As (decide (e*1<=a.length))<|Bv [.own 1 e (a.take (e*1)),(0:Int)])):=by show _=_;kernel_rfl
def L8(Z Y X:Int)(W:Nat)(V:Ab)(U:Int)(T:Nat)(S:Ab)(Q:Nat)(P:Ab)(O N:Int)(M L K:Nat)(J:Ab)(I H:Int)(G E D:Int)(B:Nat)(A:Ab)(z:Int)(w:Nat)(v:Ab)(u:Nat)(t:Ab)(y15 y16 y17:Int)(y18:Nat)(y19:Int)(y20 y21:Nat)(y22 y23 y24:Ab)(y25:Int)(y26:Nat)(y27:Ab)(y28:Nat)(y29 y30:Ab):Option D0:=Mg fu call 16 Tryz.f16 [.agg [Z,Y,X,Ap 3 W V,U,Ap 1 T S,Ap 1 Q P],Af O,N] [.r,.r,.r,.r,.r,.r,.l,.r,.l] M ⟨lk [(3,.ptr 3 0),(6,.ptr 6 0),(10,.ptr 10 0),(11,.view 11 3 0 L),(42,Ap 3 K J),(43,I),(44,H)],B0 [(3,.st [G,E,D,Ap 3 B A,z,Ap 1 w v,Ap 1 u t]),(6,.st [y15,y16,y17,.view 242 3 0 y18,y19,.view 360 1 0 y20,.view 419 1 0 y21]),(242,.ar false y22),(360,.ar false y23),(419,.ar false y24),(10,.st [y25,Ap 1 y26 y27,Ap 1 y28 y29]),(11,.ar false y30)]⟩
theorem Uj(K J I:Int)(H:Nat)(G:Ab)(E:Int)(D:Nat)(B:Ab)(A:Nat)(z:Ab)(w v:Int)(u Y V:Nat)(X:Ab)(U Z:Int)(T S Q:Int)(t:Nat)(y9:Ab)(y10:Int)(y11:Nat)(y12:Ab)(y13:Nat)(y14:Ab)(y15 y16 y17:Int)(y18:Nat)(y19:Int)(y20 y21:Nat)(y22 y23 y24:Ab)(P:Int)(O:Nat)(N:Ab)(M:Nat)(L W:Ab):L8 fu call K J I H G E D B A z w v (u+1) Y V X U Z T S Q t y9 y10 y11 y12 y13 y14 y15 y16 y17 y18 y19 y20 y21 y22 y23 y24 P O N M L W=(A3 (decide (Z<U)) (As (decide (0<=Z)&&decide (Z<(↑V:Int)))<|Be .u64 (X.getD (Z.toNat*3) .top) fun a=>Pq 3 (X.getD (Z.toNat*3+1) .top) fun b c e=>Pq 2 (X.getD (Z.toNat*3+1+1) .top) fun b f g=>Dm (call 37 [.agg [Af a,Ap 3 c e,Ap 2 f g]]) fun a b=>Dr a fun a=>C2 .u64 a fun a c=>Hw 3 c fun c e f=>Hw 2 f fun f g h=>Aq h<|Aq b<|Og Y 3 56 W [Af a,Ap 3 c e,Ap 2 f g] fun a b=>Aa (wrap .i64 (Z+1)) fun c=>L8 fu call K J I H G E D B A z w v u a V X U c T S Q t y9 y10 y11 y12 y13 y14 y15 y16 y17 y18 y19 y20 y21 y22 y23 y24 P O N M L b) (As (decide (0+Y*3<=W.length))<|Bv [.agg [T,S,Q,Ap 3 Y (List.take (Y*3) (W.drop 0)),P,Ap 1 O N,Ap 1 M L],(0:Int)])):=by kernel_rfl
theorem RF(Y W V:Int)(Z:Nat)(X:Ab)(U:Int)(T:Nat)(S:Ab)(Q:Nat)(P:Ab)(O N:Int):Fn C0 fu d 16 [.agg [Y,W,V,Ap 3 Z X,U,Ap 1 T S,Ap 1 Q P],Af O,N] fun call=>Dm (call 35 [.agg [Y,W,V,Ap 3 Z X,U,Ap 1 T S,Ap 1 Q P]]) fun a b=>Be .u64 a fun a=>Dk .i64 b fun b=>A3 (b != 0) (Bv [.agg [(0:Int),(0:Int),(0:Int),Ap 3 0 [],(0:Int),Ap 1 0 [],Ap 1 0 []],b]) (Aa (wrap .i64 (Y-1)) fun b=>Dm (call 36 [Af O,N,b,Af a]) fun a b=>Dr a fun a=>C2 .i64 a fun a c=>Hw 1 c fun c e f=>Hw 1 f fun f g h=>Aq h<|Dk .i64 b fun b=>A3 (b != 0) (Bv [.agg [(0:Int),(0:Int),(0:Int),Ap 3 0 [],(0:Int),Ap 1 0 [],Ap 1 0 []],b]) (As (decide ((↑Z:Int)*56<=1099511627776)&&decide ((↑Z:Int)<=1099511627776))<|L8 fu call Y W V Z X U T S Q P O N fu 0 Z X (↑Z:Int) 0 Y W V Z X U T S Q P 0 0 0 0 0 0 0 ([]) ([]) ([]) a c e f g ([]))):=by show _=_;kernel_rfl
theorem Zq(Z:Nat)(Y:Ab)(X:Bool)(W:Int):Fn C0 fu d 124 [.pbox [Ap 3 Z Y,.sc (.bool X)],W] fun call=>A3 X (some ⟨[.agg [(0:Int),Af 0,.sc (.string (ByteArray.mk #[]))]],[[Ap 3 Z Y,.sc (.bool true)]]⟩) (A3 ((↑Z:Int)==0) (some ⟨[.agg [(0:Int),Af 0,.sc (.string (ByteArray.mk #[]))]],[[Ap 3 Z Y,.sc (.bool true)]]⟩) (As (decide (0<(↑Z:Int)))<|Be .i64 (Y.getD 0 .top) fun a=>A3 (a != W) (some ⟨[.agg [(0:Int),Af 0,.sc (.string (ByteArray.mk #[]))]],[[Ap 3 Z Y,.sc (.bool true)]]⟩) (As (decide (0<(↑Z:Int)))<|Be .i64 (Y.getD 0 .top) fun a=>Be .u64 (Y.getD 1 .top) fun b=>D8 (Y.getD 2 .top) fun c=>As (decide (1<=Z)&&decide (Z<=Z))<|Aa (Z-1) fun e=>Aa (List.take (e*3) (Y.drop 3)) fun f=>some ⟨[.agg [a,Af b,.sc (.string c)]],[[Ap 3 e f,.sc (.bool X)]]⟩))):=by show _=_;kernel_rfl
theorem Xg(Z:Nat)(Y:Ab)(X:Bool):Fn C0 fu d 90 [.pbox [Ap 3 Z Y,.sc (.bool X)]] fun call=>Bk (call 124 [.pbox [Ap 3 Z Y,.sc (.bool X)],(1:Int)]) fun a b=>Av a fun a c=>Dr a fun a=>C2 .i64 a fun a e=>C2 .u64 e fun a e=>Av e fun e f=>D8 e fun e=>Aq f<|Aq c<|Av b fun b c=>Hw 3 b fun b e f=>V1 f fun f=>Aq c<|some ⟨[Af a],[[Ap 3 b e,.sc (.bool f)]]⟩:=by show _=_;kernel_rfl
theorem Z7(Z:Nat)(Y:Ab)(X:Bool):Fn C0 fu d 89 [.pbox [Ap 3 Z Y,.sc (.bool X)]] fun call=>Bk (call 124 [.pbox [Ap 3 Z Y,.sc (.bool X)],(5:Int)]) fun a b=>Av a fun a c=>Dr a fun a=>C2 .i64 a fun a e=>C2 .u64 e fun a e=>Av e fun e f=>D8 e fun e=>Aq f<|Aq c<|Av b fun b c=>Hw 3 b fun b e f=>V1 f fun f=>Aq c<|some ⟨[Af a],[[Ap 3 b e,.sc (.bool f)]]⟩:=by show _=_;kernel_rfl
def Ej(Z:Nat)(Y:Ab)(X:Bool)(W:Nat)(V:Int)(U:Nat)(T:Ab)(S:Bool)(Q:Int)(P O:Nat)(N M:Ab)(L:Int)(K J:Nat)(I H:Ab):Option D0:=Mg fu call 91 Tryz.f91 [.pbox [Ap 3 Z Y,.sc (.bool X)]] [.r,.r,.r,.l,.r,.l] W ⟨lk [(0,.ptr 162000 0),(2,.ptr 2 0),(3,.ptr 3 0),(4,Af V)],B0 [(162000,.st [Ap 3 U T,.sc (.bool S)]),(2,.st [Af Q,.view 164 3 0 P,.view 245 2 0 O]),(164,.ar false N),(245,.ar false M),(3,.st [Af L,.view 165 3 0 K,.view 246 2 0 J]),(165,.ar false I),(246,.ar false H)]⟩
def Dh(Z:Nat)(Y:Ab)(X:Bool)(W:Nat)(V:Int)(U:Nat)(T:Ab)(S:Bool)(Q:Int)(P O:Nat)(N M:Ab)(L:Int)(K J:Nat)(I H:Ab):Option D0:=Mg fu call 91 Tryz.f91 [.pbox [Ap 3 Z Y,.sc (.bool X)]] [.r,.r,.r,.r,.l,.r,.l] W ⟨lk [(0,.ptr 162000 0),(2,.ptr 2 0),(3,.ptr 3 0),(8,Af V)],B0 [(162000,.st [Ap 3 U T,.sc (.bool S)]),(2,.st [Af Q,.view 164 3 0 P,.view 245 2 0 O]),(164,.ar false N),(245,.ar false M),(3,.st [Af L,.view 165 3 0 K,.view 246 2 0 J]),(165,.ar false I),(246,.ar false H)]⟩
theorem Q0(Z:Nat)(Y:Ab)(X:Bool)(H:Nat)(K:Int)(J:Nat)(I:Ab)(W:Bool)(V:Int)(U T:Nat)(S Q:Ab)(P:Int)(O N:Nat)(M L:Ab):Ej fu call Z Y X (H+1) K J I W V U T S Q P O N M L=(A3 (decide (K>0)) (A3 (!W) (Bk (call 89 [.pbox [Ap 3 J I,.sc (.bool W)]]) fun a b=>Dk .u64 a fun a=>Av b fun a b=>Hw 3 a fun a c e=>V1 e fun e=>Aq b<|Bk (call 124 [.pbox [Ap 3 a c,.sc (.bool e)],(4:Int)]) fun a b=>Av a fun a c=>Dr a fun a=>C2 .i64 a fun a e=>C2 .u64 e fun a e=>Av e fun a e=>D8 a fun a=>Aq e<|Aq c<|Av b fun b c=>Hw 3 b fun b e f=>V1 f fun f=>Aq c<|Bk (call 124 [.pbox [Ap 3 b e,.sc (.bool f)],(3:Int)]) fun b c=>Av b fun b e=>Dr b fun b=>C2 .i64 b fun b f=>C2 .u64 f fun b f=>Av f fun b f=>D8 b fun b=>Aq f<|Aq e<|Av c fun c e=>Hw 3 c fun c f g=>V1 g fun g=>Aq e<|As (decide (ByteArray.size b<=1099511627776))<|As (decide (0+ByteArray.size b*1<=List.length (El b)))<|Dm (call 125 [Ap 1 (ByteArray.size b) (List.take (ByteArray.size b*1) (List.drop 0 (El b)))]) fun b e=>Dr b fun b=>C2 .i64 b fun b h=>Dk .u64 h fun h=>Dk .i64 e fun e=>A3 (e != 0) (Og O 3 32 M [.sc (.string a),b,Af h] fun a b=>Aa (wrap .u64 (K-1)) fun e=>Ej fu call Z Y X H e c f true V U T S Q P a N b L) (Og O 3 32 M [.sc (.string a),b,Af h] fun a b=>Aa (wrap .u64 (K-1)) fun e=>Ej fu call Z Y X H e c f g V U T S Q P a N b L)) (Bk (call 89 [.pbox [Ap 3 J I,.sc (.bool W)]]) fun a b=>Dk .u64 a fun a=>Av b fun b c=>Hw 3 b fun b e f=>V1 f fun f=>Aq c<|Dh fu call Z Y X fu a b e f V U T S Q P O N M L)) (Bk (call 89 [.pbox [Ap 3 J I,.sc (.bool W)]]) fun a b=>Dk .u64 a fun a=>Av b fun b c=>Hw 3 b fun b e f=>V1 f fun f=>Aq c<|Dh fu call Z Y X fu a b e f V U T S Q P O N M L)):=by kernel_rfl
theorem Qc(P:Nat)(O:Ab)(N:Bool)(M:Nat)(Q:Int)(U:Nat)(T:Ab)(V:Bool)(L:Int)(K J:Nat)(I H:Ab)(S:Int)(Z Y:Nat)(X W:Ab):Dh fu call P O N (M+1) Q U T V L K J I H S Z Y X W=(A3 (decide (Q>0)) (A3 (!V) (Bk (call 89 [.pbox [Ap 3 U T,.sc (.bool V)]]) fun a b=>Dk .u64 a fun a=>Av b fun a b=>Hw 3 a fun a c e=>V1 e fun e=>Aq b<|Bk (call 90 [.pbox [Ap 3 a c,.sc (.bool e)]]) fun a b=>Dk .u64 a fun a=>Av b fun b c=>Hw 3 b fun b e f=>V1 f fun f=>Aq c<|Aa (wrap .i64 a) fun a=>Bk (call 90 [.pbox [Ap 3 b e,.sc (.bool f)]]) fun b c=>Dk .u64 b fun b=>Av c fun c e=>Hw 3 c fun c f g=>V1 g fun g=>Aq e<|Aa (wrap .i64 b) fun b=>Og Y 2 16 W [a,b] fun a b=>Aa (wrap .u64 (Q-1)) fun e=>Dh fu call P O N M e c f g L K J I H S Z a X b) (As (decide (0+Z*3<=X.length))<|As (decide (0+Y*2<=W.length))<|some ⟨[.agg [Af S,Ap 3 Z (List.take (Z*3) (X.drop 0)),Ap 2 Y (List.take (Y*2) (W.drop 0))]],[[Ap 3 U T,.sc (.bool V)]]⟩)) (As (decide (0+Z*3<=X.length))<|As (decide (0+Y*2<=W.length))<|some ⟨[.agg [Af S,Ap 3 Z (List.take (Z*3) (X.drop 0)),Ap 2 Y (List.take (Y*2) (W.drop 0))]],[[Ap 3 U T,.sc (.bool V)]]⟩)):=by kernel_rfl
theorem Tr(Z:Nat)(Y:Ab)(X:Bool):Fn C0 fu d 91 [.pbox [Ap 3 Z Y,.sc (.bool X)]] fun call=>Bk (call 89 [.pbox [Ap 3 Z Y,.sc (.bool X)]]) fun a b=>Dk .u64 a fun a=>Av b fun a b=>Hw 3 a fun a c e=>V1 e fun e=>Aq b<|Bk (call 90 [.pbox [Ap 3 a c,.sc (.bool e)]]) fun a b=>Dk .u64 a fun a=>Av b fun b c=>Hw 3 b fun b e f=>V1 f fun f=>Aq c<|Bk (call 89 [.pbox [Ap 3 b e,.sc (.bool f)]]) fun b c=>Dk .u64 b fun b=>Av c fun c e=>Hw 3 c fun c f g=>V1 g fun g=>Aq e<|Ej fu call Z Y X fu b c f g 0 0 0 ([]) ([]) a 0 0 ([]) ([]):=by show _=_;kernel_rfl
def Ir(Z:Nat)(Y:Ab)(X:Nat)(W V:Int)(U T:Int)(S:Nat)(Q:Int)(P O:Nat)(N M L:Ab)(K:Nat)(J:Ab)(I:Bool)(H G E:Int)(D:Nat)(B:Int)(A z:Nat)(w v u:Ab):Option D0:=Mg fu call 48 Tryz.f48 [Ap 3 Z Y] [.r,.r,.r,.r,.l,.r,.l] X ⟨lk [(2,.ptr 2 0),(4,.ptr 4 0),(5,.ptr 5 0),(6,Af W)],B0 [(2,.st [V,U,T,.view 226 3 0 S,Q,.view 338 1 0 P,.view 394 1 0 O]),(226,.ar false N),(338,.ar false M),(394,.ar false L),(4,.st [Ap 3 K J,.sc (.bool I)]),(5,.st [H,G,E,.view 229 3 0 D,B,.view 341 1 0 A,.view 397 1 0 z]),(229,.ar false w),(341,.ar false v),(397,.ar false u)]⟩
theorem AP(L:Nat)(K:Ab)(J:Nat)(M I:Int)(H G:Int)(E:Nat)(D:Int)(B A:Nat)(z w v:Ab)(N:Nat)(u:Ab)(O:Bool)(T S Q:Int)(Z:Nat)(P:Int)(Y X:Nat)(W V U:Ab):Ir fu call L K (J+1) M I H G E D B A z w v N u O T S Q Z P Y X W V U=(A3 (decide (M>0)) (A3 (!O) (Bk (call 91 [.pbox [Ap 3 N u,.sc (.bool O)]]) fun a b=>Av a fun a c=>Dr a fun a=>C2 .u64 a fun a e=>Hw 3 e fun e f g=>Hw 2 g fun g h i=>Aq i<|Aq c<|Av b fun b c=>Hw 3 b fun b i j=>V1 j fun j=>Aq c<|Og Z 3 56 W [Af a,Ap 3 e f,Ap 2 g h] fun a c=>Aa (wrap .u64 (M-1)) fun e=>Ir fu call L K J e I H G E D B A z w v b i j T S Q a P Y X c V U) (A3 (!O) (As (decide (0+Z*3<=W.length))<|As (decide (0+Y*1<=V.length))<|As (decide (0+X*1<=U.length))<|Bv [.agg [T,S,Q,Ap 3 Z (List.take (Z*3) (W.drop 0)),P,Ap 1 Y (List.take (Y*1) (V.drop 0)),Ap 1 X (List.take (X*1) (U.drop 0))],.sc (.bool ((↑N:Int)==0))]) (As (decide (0+Z*3<=W.length))<|As (decide (0+Y*1<=V.length))<|As (decide (0+X*1<=U.length))<|Bv [.agg [T,S,Q,Ap 3 Z (List.take (Z*3) (W.drop 0)),P,Ap 1 Y (List.take (Y*1) (V.drop 0)),Ap 1 X (List.take (X*1) (U.drop 0))],.sc (.bool false)]))) (A3 (!O) (As (decide (0+Z*3<=W.length))<|As (decide (0+Y*1<=V.length))<|As (decide (0+X*1<=U.length))<|Bv [.agg [T,S,Q,Ap 3 Z (List.take (Z*3) (W.drop 0)),P,Ap 1 Y (List.take (Y*1) (V.drop 0)),Ap 1 X (List.take (X*1) (U.drop 0))],.sc (.bool ((↑N:Int)==0))]) (As (decide (0+Z*3<=W.length))<|As (decide (0+Y*1<=V.length))<|As (decide (0+X*1<=U.length))<|Bv [.agg [T,S,Q,Ap 3 Z (List.take (Z*3) (W.drop 0)),P,Ap 1 Y (List.take (Y*1) (V.drop 0)),Ap 1 X (List.take (X*1) (U.drop 0))],.sc (.bool false)]))):=by kernel_rfl
theorem FK(Z:Nat)(Y:Ab):Fn C0 fu d 48 [Ap 3 Z Y] fun call=>Bk (call 89 [.pbox [Ap 3 Z Y,.sc (.bool false)]]) fun a b=>Dk .u64 a fun a=>Av b fun a b=>Hw 3 a fun a c e=>V1 e fun e=>Aq b<|Bk (call 90 [.pbox [Ap 3 a c,.sc (.bool e)]]) fun a b=>Dk .u64 a fun a=>Av b fun b c=>Hw 3 b fun b e f=>V1 f fun f=>Aq c<|Aa (wrap .i64 a) fun a=>Bk (call 90 [.pbox [Ap 3 b e,.sc (.bool f)]]) fun b c=>Dk .u64 b fun b=>Av c fun c e=>Hw 3 c fun c f g=>V1 g fun g=>Aq e<|Aa (wrap .i64 b) fun b=>Bk (call 90 [.pbox [Ap 3 c f,.sc (.bool g)]]) fun c e=>Dk .u64 c fun c=>Av e fun e f=>Hw 3 e fun e g h=>V1 h fun h=>Aq f<|Aa (wrap .i64 c) fun c=>Bk (call 89 [.pbox [Ap 3 e g,.sc (.bool h)]]) fun e f=>Dk .u64 e fun e=>Av f fun f g=>Hw 3 f fun f h i=>V1 i fun i=>Aq g<|Ir fu call Z Y fu e 0 0 0 0 0 0 0 ([]) ([]) ([]) f h i a b c 0 0 0 0 ([]) ([]) ([]):=by show _=_;kernel_rfl
theorem MA(Z:Nat)(Y:Ab):Fn C0 fu d 26 [Ap 1 Z Y] fun call=>A3 (decide ((↑Z:Int)>4096)) (Bv [.agg [(0:Int),(0:Int),(0:Int),Ap 3 0 [],(0:Int),Ap 1 0 [],Ap 1 0 []],(8:Int)]) (Dm (call 47 [Ap 1 Z Y]) fun a b=>Je 3 a fun a c=>C2 .i64 b fun b e=>Dk .i64 e fun e=>A3 (e != 0) (Bv [.agg [(0:Int),(0:Int),(0:Int),Ap 3 0 [],(0:Int),Ap 1 0 [],Ap 1 0 []],(2:Int)]) (As (decide (0+a*3<=c.length))<|Dm (call 48 [Ap 3 a (List.take (a*3) (c.drop 0))]) fun a c=>Dr a fun a=>C2 .i64 a fun a e=>C2 .i64 e fun e f=>C2 .i64 f fun f g=>Hw 3 g fun g h i=>C2 .i64 i fun i j=>Hw 1 j fun i j k=>Hw 1 k fun i j k=>Aq k<|V1 c fun c=>A3 (!c) (Bv [.agg [(0:Int),(0:Int),(0:Int),Ap 3 0 [],(0:Int),Ap 1 0 [],Ap 1 0 []],(2:Int)]) (As (decide (0<=b))<|As (decide (b.toNat<=Z)&&decide (Z<=Z))<|Aa (Z-b.toNat) fun c=>Aa (List.take (c*1) (Y.drop (b.toNat*1))) fun b=>Dm (call 49 [Ap 1 c b]) fun b c=>Dr b fun b=>C2 .i64 b fun b i=>Tz 1 i fun i j k=>Tz 1 k fun k m n=>Aq n<|Dk .i64 c fun c=>A3 (c != 0) (Bv [.agg [(0:Int),(0:Int),(0:Int),Ap 3 0 [],(0:Int),Ap 1 0 [],Ap 1 0 []],(2:Int)]) (As (decide (0+i*1<=j.length))<|As (decide (0+k*1<=m.length))<|Dm (call 25 [.agg [a,e,f,Ap 3 g h,b,Ap 1 i (List.take (i*1) (j.drop 0)),Ap 1 k (List.take (k*1) (m.drop 0))]]) fun c n=>Je 1 c fun c o=>Dk .i64 n fun n=>A3 (n != 0) (Bv [.agg [(0:Int),(0:Int),(0:Int),Ap 3 0 [],(0:Int),Ap 1 0 [],Ap 1 0 []],(2:Int)]) (As (decide (0+c*1<=o.length))<|Dm (call 50 [Ap 1 c (List.take (c*1) (o.drop 0)),Ap 1 Z Y]) fun c n=>Cg c fun c=>Aq n<|A3 (!c) (Bv [.agg [(0:Int),(0:Int),(0:Int),Ap 3 0 [],(0:Int),Ap 1 0 [],Ap 1 0 []],(2:Int)]) (As (decide (0+i*1<=j.length))<|As (decide (0+k*1<=m.length))<|Bv [.agg [a,e,f,Ap 3 g h,b,Ap 1 i (List.take (i*1) (j.drop 0)),Ap 1 k (List.take (k*1) (m.drop 0))],(0:Int)])))))):=by show _=_;kernel_rfl
theorem KQ(Y T S:Int)(Q:Nat)(P:Ab)(O:Int)(N:Nat)(M:Ab)(L:Nat)(K:Ab)(X:Nat)(W:Ab)(V U Z:Int):Fn C0 fu d 27 [.agg [Y,T,S,Ap 3 Q P,O,Ap 1 N M,Ap 1 L K],Ap 1 X W,.agg [V,Af U],Z] fun call=>A3 (decide (Z<0)) (Bv [.agg [(0:Int),(0:Int),(0:Int),Ap 3 0 [],(0:Int),Ap 1 0 [],Ap 1 0 []],(9:Int)]) (A3 (decide (Z>1099511627776)) (Bv [.agg [(0:Int),(0:Int),(0:Int),Ap 3 0 [],(0:Int),Ap 1 0 [],Ap 1 0 []],(9:Int)]) (Dm (call 26 [Ap 1 X W]) fun a b=>Dr a fun a=>C2 .i64 a fun a c=>C2 .i64 c fun c e=>C2 .i64 e fun e f=>Hw 3 f fun f g h=>C2 .i64 h fun h i=>Hw 1 i fun i j k=>Hw 1 k fun k m n=>Aq n<|Dk .i64 b fun b=>A3 (b != 0) (Bv [.agg [(0:Int),(0:Int),(0:Int),Ap 3 0 [],(0:Int),Ap 1 0 [],Ap 1 0 []],b]) (A3 (decide (a<=Y)) (Bv [.agg [(0:Int),(0:Int),(0:Int),Ap 3 0 [],(0:Int),Ap 1 0 [],Ap 1 0 []],(7:Int)]) (Na .i64 (call 19 [.agg [a,c,e,Ap 3 f g,h,Ap 1 i j,Ap 1 k m],.agg [V,Af U]]) fun b=>A3 (b != 0) (Bv [.agg [(0:Int),(0:Int),(0:Int),Ap 3 0 [],(0:Int),Ap 1 0 [],Ap 1 0 []],b]) (A3 (decide (Z<c)) (Bv [.agg [(0:Int),(0:Int),(0:Int),Ap 3 0 [],(0:Int),Ap 1 0 [],Ap 1 0 []],(19:Int)]) (A3 (decide (Z>e)) (Bv [.agg [(0:Int),(0:Int),(0:Int),Ap 3 0 [],(0:Int),Ap 1 0 [],Ap 1 0 []],(19:Int)]) (Bv [.agg [a,c,e,Ap 3 f g,h,Ap 1 i j,Ap 1 k m],(0:Int)]))))))):=by show _=_;kernel_rfl
end
section
variable {fu d:Nat}
theorem HJ(Bn:1000<=fu){k:Nat}(hk:k<=5){vs:List (List It)}(hv:∀v∈vs,Val k v/\v≠[]/\v.length<=499)(hn:vs.length<=400)(hb:vs.flatten.length<=499):
  Ar C0 prog fu (d+6) 63 [.lst false 1 vs.length (Gx vs)]=some ⟨[.own 3 (Dq vs).length (Ay (Dq vs)),At 0],[]⟩:=
 Air Bn (fun v h=>⟨(hv v h).1.goods (by omega) (hv v h).2.1 (by have:=(hv v h).2.2;omega),by have:=(hv v h).2.2;omega⟩) hn ((W8 (fun v h=>(hv v h).1) (by omega)).goods (by omega) (by simp) (by simp only[G7];omega)) hb
def Aa8(a:An):Ab:=if F1 a=0 then [.own 3 (Cr a).length (Ay (Cr a)),At 0] else [.own 3 0 [],At (F1 a)]
theorem At3(Bn:1000<=fu)(a:An):Ar C0 prog fu (d+7) 104 [.agg a.cells]=some ⟨Aa8 a,[]⟩:=by
 refine (Zn fu (d+6) a.name a.key.h a.key.root).trans ?_;have bad:∀{e:Int},F1 a=e->e≠0->some (D0.mk [.own 3 0 [],At e] [])=some (D0.mk (Aa8 a) []):=fun h he=>by unfold Aa8;rw[h,A5 he]
 by_cases e1:a.name.size<1
 ·have hb:F1 a=9:=by unfold F1;rw[Bq (.inl e1)]
  rw[<-bad hb (by omega)]
  repeat(with_reducible(first|apply Aj|apply Ad|apply Ah|apply Ao|apply Ax|apply Bb|apply Ae|apply Ai|apply Ct);· first|constructor|(simp(disch:=omega)only[Cu,Cv]<;>first|constructor|omega)|omega)
  try simp(disch:=omega)only[Aa,Cv]
 by_cases e2:32<a.name.size
 ·have hb:F1 a=9:=by unfold F1;rw[Bq (.inr e2)]
  rw[<-bad hb (by omega)]
  repeat(with_reducible(first|apply Aj|apply Ad|apply Ah|apply Ao|apply Ax|apply Bb|apply Ae|apply Ai|apply Ct);· first|constructor|(simp(disch:=omega)only[Cu,Cv]<;>first|constructor|omega)|omega)
  try simp(disch:=omega)only[Aa,Cv]
 have v1:=Vl (fu:=fu) (d:=d+5) a.name (by omega);have e12:¬(a.name.size<1\/32<a.name.size):=by omega
 cases e3:okS a.name
 ·have hb:F1 a=6:=by unfold F1;rw[A5 e12,Bq e3]
  rw[e3] at v1;rw[<-bad hb (by omega)]
  repeat(with_reducible(first|apply Aj|apply Ad|apply Ah|apply Ao|apply Ax|apply Bb|apply Ae|apply Ai|apply Ct);· first|constructor|(simp(disch:=omega)only[Cu,v1,Cv,Ev]<;>first|constructor|omega)|omega)
  try simp(disch:=omega)only[Aa,v1,Cv,Ev]
 rw[e3] at v1;have ek:=Ap5 (xs:=Mm) (fu:=fu) (d:=d+4) Bn a.key;simp only[Ky.cells] at ek;have e90:((9:Int) != 0)=true:=rfl;have e00:((0:Int) != 0)=false:=rfl;cases e5:D1 a.key.h
 rotate_left
 ·have hb:F1 a=9:=by unfold F1;rw[A5 e12,A5 (by simp[e3]),Bq e5]
  rw[e5,Bq rfl] at ek;rw[<-bad hb (by omega)]
  repeat(with_reducible(first|apply Aj|apply Ad|apply Ah|apply Ao|apply Ax|apply Bb|apply Ae|apply Ai|apply Ct);· first|constructor|(simp(disch:=omega)only[Cu,v1,ek,e90,Cv,Ev]<;>first|constructor|omega)|omega)
  try simp(disch:=omega)only[Aa,v1,ek,e90,Cv,Ev]
 rw[e5,A5 (by simp)] at ek;have hz:F1 a=0:=by unfold F1;rw[A5 e12,A5 (by simp[e3]),A5 (by simp[e5])]
 have f1:MW ⟨4,0,a.name⟩:=⟨.inr (.inr (.inr (.inl rfl))),by simp only;omega,fun _=>e3,by unfold K7;rfl,by simp⟩
 have f2:MW ⟨3,0,Bj (Ij a.key)⟩:=⟨.inr (.inr (.inl rfl)),by simp only[Acu];omega,(fun e=>by cases e),by unfold K7;rfl,by simp⟩
 have ar:Ar C0 prog fu (d+6) 63 [.lst false 1 2 [.lst false 3 1 (Ay [⟨4,0,a.name⟩]),.lst false 3 1 (Ay [⟨3,0,Bj (Ij a.key)⟩])]]=some ⟨[.own 3 3 (Ay (Cr a)),At 0],[]⟩:=HJ (fu:=fu) (d:=d) Bn (k:=0) (by omega) (vs:=RR a) (fun v hv=>by
  simp only[RR,B6,Ie,or_false] at hv;rcases hv with rfl|rfl
  ·exact⟨Hk f1 0,by simp,by simp⟩
  ·exact⟨Hk f2 0,by simp,by simp⟩) (by simp[RR]) (by simp[RR])
 have t1:=At8 (fu:=fu) (d:=d+5) a.name;have by_:=Am7 (fu:=fu) (d:=d+5) (Ij a.key);have k9:(Ij a.key).length=9:=rfl;rw[k9] at by_;have L9:=Am .u8 (Ij a.key);rw[k9] at L9;have tk9:List.take 9 (Ac .u8 (Ij a.key))=Ac .u8 (Ij a.key):=Gv (by omega);have R:Aa8 a=[.own 3 3 (Ay (Cr a)),At 0]:=by unfold Aa8;rw[Bq hz,Qx]
 rw[R];have LI:(Ay (Cr a)).length=9:=rfl;have tI:List.take 9 (Ay (Cr a))=Ay (Cr a):=rfl;generalize Ay (Cr a)=I at ar LI tI ⊢;have K1:List.take 3 (Ay [⟨4,0,a.name⟩])=Ay [⟨4,0,a.name⟩]:=rfl;have K2:List.take 3 (Ay [⟨3,0,Bj (Ij a.key)⟩])=Ay [⟨3,0,Bj (Ij a.key)⟩]:=rfl;have N1:(Ay [⟨4,0,a.name⟩]).length=3:=rfl;have N2:(Ay [⟨3,0,Bj (Ij a.key)⟩]).length=3:=rfl;generalize Ay [⟨4,0,a.name⟩]=T1 at *
 generalize Ay [⟨3,0,Bj (Ij a.key)⟩]=T2 at *
 generalize Ac .u8 (Ij a.key)=KB at *
 repeat(with_reducible(first|apply Aj|apply Ad|apply Ah|apply Ao|apply Ax|apply Bb|apply Ae|apply Ai|apply Ct);· first|constructor|(simp(disch:=omega)only[Cu,v1,ek,e00,t1,by_,L9,tk9,K1,K2,N1,N2,Cm,Nat.one_mul,Df,Nat.reduceMul,Es,ar,LI,tI,Cv,Ev]<;>first|constructor|omega)|omega)
 try simp(disch:=omega)only[Aa,v1,ek,e00,t1,by_,L9,tk9,K1,K2,N1,N2,Cm,Nat.one_mul,Df,Nat.reduceMul,Es,ar,LI,tI,Cv,Ev]
def Ar7(x:Me):Ab:=if C4 x=0 then [.own 3 (A7 x).length (Ay (A7 x)),At 0] else [.own 3 0 [],At (C4 x)]
theorem US(a:List (List It))(v:List It):Gx a++[.lst false 3 v.length (Ay v)]=Gx (a++[v]):=by unfold Gx;rw[List.flatMap_append,Jr,List.flatMap_nil,List.append_nil];rfl
theorem Yz(a:List (List It)):(Gx a).length=a.length:=by unfold Gx;rw[Xk Aa3];omega
theorem A0m(Bn:1000<=fu){C7:Int}{Ht Eb:Nat}{Ci Dw:Ab}{x:Me}(hm:0<=x.model)(h1:x.ans.length<=4)(h2:x.sts.length<=4)(h3:Dp x.ans=0):∀(r:List Sa)(i nn:Nat)(p:Option Int),x.sts.drop i=r->r.length<nn->i<=x.sts.length ->
  ((i=0/\p=none)\/∃s',0<i/\x.sts[i-1]?=some s'/\p=some s'.at_)->(∀s∈x.sts.take i,1<=s.kd/\s.kd<=4/\0<=s.at_/\s.at_<=1099511627776) ->
  F4 fu (Ar C0 prog fu (d+7)) C7 Ht Ci Eb Dw nn i (Dq (x.ans.map Cr)).length x.sts.length (Dn x.sts) (x.sts.length:Int) (i:Int) x.model x.ans.length (Cz x.ans) x.sts.length (Dn x.sts) (Gx ((x.sts.take i).map Cp)) (Ay (Dq (x.ans.map Cr))) =
   some ⟨(if Eu p r=0 then [.own 3 (A7 x).length (Ay (A7 x)),At 0] else [.own 3 0 [],At (Eu p r)]),[]⟩
 |_,_,0,_,_,h,_,_,_=>by omega
 |[],i,nn+1,p,hd,hn,hi,hp,hk=>by
  have hl:=drop_nil hd;have ei:i=x.sts.length:=by omega
  have eall:x.sts.take i=x.sts:=Gv (by omega);rw[eall] at hk ⊢;have vs:=Ak5 h2 (fun s hs=>by have:=hk s hs;exact⟨by omega,by omega⟩)
  have va:=Ack h1 (Vm h3);have Hc:Eu p []=0:=by unfold Eu;rfl
  rw[Bq Hc]
  have ar:=HJ (fu:=fu) (d:=d+1) Bn (k:=1) (by omega) (vs:=x.sts.map Cp) (fun v hv=>by
   obtain⟨s,hs,rfl⟩:=List.mem_map.1 hv;have:=hk s hs;exact⟨(Aic (by omega) (by omega)).1,by simp[Cp],by rw[X5];omega⟩) (by rw[List.length_map];omega) (by rw[Iw X5];omega)
  rw[List.length_map] at ar;have u:=Yu (fu:=fu) (d:=d+6) x.model;have la:(Dq (x.ans.map Cr)).length<=20:=by unfold Dq;rw[G7,Iw Qx];omega
  have ls:(Dq (x.sts.map Cp)).length<=20:=by unfold Dq;rw[G7,Iw X5];omega
  have ar3:Ar C0 prog fu (d+7) 63 [.lst false 1 3 [.lst false 3 1 (Ay [⟨1,x.model,Fv⟩]),.lst false 3 (Dq (x.ans.map Cr)).length (Ay (Dq (x.ans.map Cr))),.lst false 3 (Dq (x.sts.map Cp)).length (Ay (Dq (x.sts.map Cp)))]]=some ⟨[.own 3 (A7 x).length (Ay (A7 x)),At 0],[]⟩:=HJ (fu:=fu) (d:=d+1) Bn (k:=2) (by omega) (vs:=Vs x) (fun v hv=>by
   simp only[Vs,B6,Ie,or_false] at hv;rcases hv with rfl|rfl|rfl
   ·exact⟨Hk (Jj hm) 2,by simp,by simp⟩
   ·exact⟨va.1,by simp[Dq],by omega⟩
   ·exact⟨vs.1,by simp[Dq],by omega⟩) (by simp[Vs]) (by simp only[Vs,List.flatten_cons,List.flatten_nil,List.append_nil,Fw,List.length_singleton];omega)
  have e00:((0:Int) != 0)=false:=rfl;have LV:(Gx (x.sts.map Cp)).length=x.sts.length:=by rw[Yz,List.length_map]
  have tV:List.take x.sts.length (Gx (x.sts.map Cp))=Gx (x.sts.map Cp):=Gv (by omega);have LA:=Cw (Dq (x.ans.map Cr));have LS:=Cw (Dq (x.sts.map Cp));have LE:=Cw (A7 x);have tA:List.take ((Dq (x.ans.map Cr)).length*3) (Ay (Dq (x.ans.map Cr)))=Ay (Dq (x.ans.map Cr)):=Gv (by omega);have tS:List.take ((Dq (x.sts.map Cp)).length*3) (Ay (Dq (x.sts.map Cp)))=Ay (Dq (x.sts.map Cp)):=Gv (by omega);have tE:List.take ((A7 x).length*3) (Ay (A7 x))=Ay (A7 x):=Gv (by omega);have K1:List.take 3 (Ay [⟨1,x.model,Fv⟩])=Ay [⟨1,x.model,Fv⟩]:=rfl;have N1:(Ay [⟨1,x.model,Fv⟩]).length=3:=rfl;subst ei;rw[Em];generalize Ay [⟨1,x.model,Fv⟩]=T1 at *
  generalize Ay (A7 x)=TE at *
  generalize (A7 x).length=nE at *
  generalize Ay (Dq (x.sts.map Cp))=TS at *
  generalize Ay (Dq (x.ans.map Cr))=TA at *
  generalize (Dq (x.sts.map Cp)).length=nS at *
  generalize (Dq (x.ans.map Cr)).length=nA at *
  generalize Gx (x.sts.map Cp)=TV at *
  repeat(with_reducible(first|apply Aj|apply Ad|apply Ah|apply Ao|apply Ax|apply Bb|apply Ae|apply Ai|apply Ct);· first|constructor|(simp(disch:=omega)only[Cu,LV,tV,ar,e00,u,K1,N1,LA,LS,tA,tS,ar3,LE,tE,Cm,Nat.one_mul,Df,Es,Cv,Ev]<;>first|constructor|omega)|omega)
  try simp(disch:=omega)only[Aa,LV,tV,ar,e00,u,K1,N1,LA,LS,tA,tS,ar3,LE,tE,Cm,Nat.one_mul,Df,Es,Cv,Ev]
  all_goals rfl
 |s::rs,i,nn+1,p,hd,hn,hi,hp,hk=>by
  obtain⟨q1,q2,q3⟩:=Dc hd;simp only[G7] at hn;obtain⟨c0,c1⟩:=saa q2;have nt:Int.toNat (i:Int)=i:=H0 _
  have bad:∀{e:Int},Hf p s=e->e≠0->some (D0.mk [.own 3 0 [],At e] [])=some (D0.mk (if Eu p (s::rs)=0 then [.own 3 (A7 x).length (Ay (A7 x)),At 0] else [.own 3 0 [],At (Eu p (s::rs))]) []):=fun {e} h he=>by
   have:Eu p (s::rs)=e:=by rw[Eu,Bq (by rw[h];exact he),h]
   rw[this,A5 he]
  by_cases g1:s.kd<1
  ·have hb:Hf p s=9:=by unfold Hf;rw[Bq (.inl g1)]
   rw[<-bad hb (by omega),Em]
   repeat(with_reducible(first|apply Aj|apply Ad|apply Ah|apply Ao|apply Ax|apply Bb|apply Ae|apply Ai|apply Ct);· first|constructor|(simp(disch:=omega)only[Cu,nt,c0,c1]<;>first|constructor|omega)|omega)
   try simp(disch:=omega)only[Aa,nt,c0,c1]
   all_goals rfl
  by_cases g2:4<s.kd
  ·have hb:Hf p s=9:=by unfold Hf;rw[Bq (.inr (.inl g2))]
   rw[<-bad hb (by omega),Em]
   repeat(with_reducible(first|apply Aj|apply Ad|apply Ah|apply Ao|apply Ax|apply Bb|apply Ae|apply Ai|apply Ct);· first|constructor|(simp(disch:=omega)only[Cu,nt,c0,c1]<;>first|constructor|omega)|omega)
   try simp(disch:=omega)only[Aa,nt,c0,c1]
   all_goals rfl
  by_cases g3:s.at_<0
  ·have hb:Hf p s=9:=by unfold Hf;rw[Bq (.inr (.inr (.inl g3)))]
   rw[<-bad hb (by omega),Em]
   repeat(with_reducible(first|apply Aj|apply Ad|apply Ah|apply Ao|apply Ax|apply Bb|apply Ae|apply Ai|apply Ct);· first|constructor|(simp(disch:=omega)only[Cu,nt,c0,c1]<;>first|constructor|omega)|omega)
   try simp(disch:=omega)only[Aa,nt,c0,c1]
   all_goals rfl
  by_cases g4:1099511627776<s.at_
  ·have hb:Hf p s=9:=by unfold Hf;rw[Bq (.inr (.inr (.inr g4)))]
   rw[<-bad hb (by omega),Em]
   repeat(with_reducible(first|apply Aj|apply Ad|apply Ah|apply Ao|apply Ax|apply Bb|apply Ae|apply Ai|apply Ct);· first|constructor|(simp(disch:=omega)only[Cu,nt,c0,c1]<;>first|constructor|omega)|omega)
   try simp(disch:=omega)only[Aa,nt,c0,c1]
   all_goals rfl
  have S1:Hf none s=0:=by unfold Hf;rw[A5 (by omega)]
  have S0:∀q:Int,Hf (some q) s=if s.at_<=q then 7 else 0:=fun q=>by unfold Hf;rw[A5 (by omega)]
  have wk:wrap .u64 s.kd=s.kd:=Cd (by omega) (by omega);have wa:wrap .u64 s.at_=s.at_:=Cd (by omega) (by omega);have u1:=Yu (fu:=fu) (d:=d+6) s.kd;have u2:=Yu (fu:=fu) (d:=d+6) s.at_
  have ar:Ar C0 prog fu (d+7) 63 [.lst false 1 2 [.lst false 3 1 (Ay [⟨1,s.kd,Fv⟩]),.lst false 3 1 (Ay [⟨1,s.at_,Fv⟩])]]=some ⟨[.own 3 3 (Ay (Cp s)),At 0],[]⟩:=HJ (fu:=fu) (d:=d+1) Bn (k:=0) (by omega) (vs:=SQ s) (fun v hv=>by
   simp only[SQ,B6,Ie,or_false] at hv;rcases hv with rfl|rfl
   ·exact⟨Hk (Jj (by omega)) 0,by simp,by simp⟩
   ·exact⟨Hk (Jj (by omega)) 0,by simp,by simp⟩) (by simp[SQ]) (by simp[SQ])
  have e00:((0:Int) != 0)=false:=rfl;have LI:(Ay (Cp s)).length=9:=rfl;have tI:List.take 9 (Ay (Cp s))=Ay (Cp s):=rfl;have K1:List.take 3 (Ay [⟨1,s.kd,Fv⟩])=Ay [⟨1,s.kd,Fv⟩]:=rfl;have K2:List.take 3 (Ay [⟨1,s.at_,Fv⟩])=Ay [⟨1,s.at_,Fv⟩]:=rfl;have N1:(Ay [⟨1,s.kd,Fv⟩]).length=3:=rfl;have N2:(Ay [⟨1,s.at_,Fv⟩]).length=3:=rfl;have LV:(Gx ((x.sts.take i).map Cp)).length=i:=by rw[Yz,List.length_map,List.length_take];omega
  have tV:List.take i (Gx ((x.sts.take i).map Cp))=Gx ((x.sts.take i).map Cp):=Gv (by omega);have w:wrap .i64 ((i:Int)+1)=((i+1:Nat):Int):=by rw[Ag (by omega) (by omega)];omega
  have et:x.sts.take (i+1)=x.sts.take i++[s]:=by rw[List.take_add_one,q2];rfl
  have ea:Gx ((x.sts.take i).map Cp)++[.lst false 3 3 (Ay (Cp s))]=Gx ((x.sts.take (i+1)).map Cp):=by
   rw[et,List.map_append,List.map_singleton];exact US _ (Cp s)
  have hz:∀{v:Int},Hf p s=0->Eu p (s::rs)=Eu (some s.at_) rs:=fun {v} h=>by rw[Eu,A5 (by simp[h])]
  have ih:=A0m Bn (C7:=C7) (Ht:=Ht) (Eb:=Eb) (Ci:=Ci) (Dw:=Dw) hm h1 h2 h3 rs (i+1) nn (some s.at_) q3 (by omega) (by omega) (.inr ⟨s,by omega,by rw[Nat.add_sub_cancel];exact q2,rfl⟩) (fun y hy=>by
   rw[et] at hy;rcases Bz.1 hy with hy|hy
   ·exact hk y hy
   ·rw[Mv.1 hy];omega)
  rw[Em];rcases hp with⟨rfl,rfl⟩|⟨s',h0,h5,rfl⟩
  ·have hs:Hf none s=0:=S1;rw[hz (v:=0) hs,<-ih];generalize Ay (Cp s)=TI at *
   generalize Ay [⟨1,s.kd,Fv⟩]=T1 at *
   generalize Ay [⟨1,s.at_,Fv⟩]=T2 at *
   generalize Gx ((x.sts.take 0).map Cp)=TV at *
   generalize Gx ((x.sts.take (0+1)).map Cp)=TV' at *
   repeat(with_reducible(first|apply Aj|apply Ad|apply Ah|apply Ao|apply Ax|apply Bb|apply Ae|apply Ai|apply Ct);· first|constructor|(simp(disch:=omega)only[Cu,nt,c0,c1]<;>first|constructor|omega)|omega)
   try simp(disch:=omega)only[Aa,nt,c0,c1]
   rw[I2 (Mz:=by omega)]
   repeat(with_reducible(first|apply Aj|apply Ad|apply Ah|apply Ao|apply Ax|apply Bb|apply Ae|apply Ai|apply Ct);· first|constructor|(simp(disch:=omega)only[Cu,wk,wa,u1,u2,K1,K2,N1,N2,ar,e00,LI,tI,LV,tV,ea,w,Cm,Nat.one_mul,Df,Nat.reduceMul,Es,Cv]<;>first|constructor|omega)|omega)
   try simp(disch:=omega)only[Aa,wk,wa,u1,u2,K1,K2,N1,N2,ar,e00,LI,tI,LV,tV,ea,w,Cm,Nat.one_mul,Df,Nat.reduceMul,Es,Cv]
   all_goals rfl
  ·obtain⟨b0,b1⟩:=saa h5;have wi:wrap .i64 ((i:Int)-1)=((i-1:Nat):Int):=by rw[Ag (by omega) (by omega)];omega
   have nt1:Int.toNat ((i-1:Nat):Int)=i-1:=H0 _;by_cases g5:s.at_<=s'.at_
   ·have hb:Hf (some s'.at_) s=7:=by rw[S0,Bq g5]
    rw[<-bad hb (by omega)]
    repeat(with_reducible(first|apply Aj|apply Ad|apply Ah|apply Ao|apply Ax|apply Bb|apply Ae|apply Ai|apply Ct);· first|constructor|(simp(disch:=omega)only[Cu,nt,c0,c1]<;>first|constructor|omega)|omega)
    try simp(disch:=omega)only[Aa,nt,c0,c1]
    rw[I2 (Mz:=by omega)]
    repeat(with_reducible(first|apply Aj|apply Ad|apply Ah|apply Ao|apply Ax|apply Bb|apply Ae|apply Ai|apply Ct);· first|constructor|(simp(disch:=omega)only[Cu,wi,nt1,b1]<;>first|constructor|omega)|omega)
    try simp(disch:=omega)only[Aa,wi,nt1,b1]
    all_goals rfl
   ·have hs:Hf (some s'.at_) s=0:=by rw[S0,A5 g5]
    rw[hz (v:=0) hs,<-ih];generalize Ay (Cp s)=TI at *
    generalize Ay [⟨1,s.kd,Fv⟩]=T1 at *
    generalize Ay [⟨1,s.at_,Fv⟩]=T2 at *
    generalize Gx ((x.sts.take i).map Cp)=TV at *
    generalize Gx ((x.sts.take (i+1)).map Cp)=TV' at *
    repeat(with_reducible(first|apply Aj|apply Ad|apply Ah|apply Ao|apply Ax|apply Bb|apply Ae|apply Ai|apply Ct);· first|constructor|(simp(disch:=omega)only[Cu,nt,c0,c1]<;>first|constructor|omega)|omega)
    try simp(disch:=omega)only[Aa,nt,c0,c1]
    rw[I2 (Mz:=by omega)]
    repeat(with_reducible(first|apply Aj|apply Ad|apply Ah|apply Ao|apply Ax|apply Bb|apply Ae|apply Ai|apply Ct);· first|constructor|(simp(disch:=omega)only[Cu,wi,nt1,b1,wk,wa,u1,u2,K1,K2,N1,N2,ar,e00,LI,tI,LV,tV,ea,w,Cm,Nat.one_mul,Df,Nat.reduceMul,Es,Cv]<;>first|constructor|omega)|omega)
    try simp(disch:=omega)only[Aa,wi,nt1,b1,wk,wa,u1,u2,K1,K2,N1,N2,ar,e00,LI,tI,LV,tV,ea,w,Cm,Nat.one_mul,Df,Nat.reduceMul,Es,Cv]
    all_goals rfl
theorem A0k(Bn:1000<=fu){C7:Int}{Ht Eb:Nat}{Ci Dw:Ab}{x:Me}(hm:0<=x.model)(h1:x.ans.length<=4)(h2:x.sts.length<=4):∀(r:List An)(i nn:Nat),x.ans.drop i=r->r.length<nn->i<=x.ans.length->(Dp r=0->Dp x.ans=0)->(∀a∈x.ans.take i,F1 a=0) ->
  Hq fu (Ar C0 prog fu (d+7)) C7 Ht Ci Eb Dw nn i x.ans.length (Cz x.ans) (x.ans.length:Int) (i:Int) x.model x.ans.length (Cz x.ans) x.sts.length (Dn x.sts) (Gx ((x.ans.take i).map Cr)) =
   some ⟨(if Dp r=0 then (if Eu none x.sts=0 then [.own 3 (A7 x).length (Ay (A7 x)),At 0] else [.own 3 0 [],At (Eu none x.sts)]) else [.own 3 0 [],At (Dp r)]),[]⟩
 |_,_,0,_,h,_,_,_=>by omega
 |[],i,nn+1,hd,hn,hi,hz,hk=>by
  have hl:=drop_nil hd;have ei:i=x.ans.length:=by omega
  have eall:x.ans.take i=x.ans:=Gv (by omega);rw[eall] at hk ⊢;have h3:=hz rfl;have va:=Ack h1 (Vm h3);have Hc:Dp []=0:=by unfold Dp;rfl
  rw[Bq Hc]
  have ar:=HJ (fu:=fu) (d:=d+1) Bn (k:=1) (by omega) (vs:=x.ans.map Cr) (fun v hv=>by
   obtain⟨a,ha,rfl⟩:=List.mem_map.1 hv;exact⟨(Ai6 (hk a ha)).1,by simp[Cr],by rw[Qx];omega⟩) (by rw[List.length_map];omega) (by rw[Iw Qx];omega)
  rw[List.length_map] at ar;have e00:((0:Int) != 0)=false:=rfl;have LV:(Gx (x.ans.map Cr)).length=x.ans.length:=by rw[Yz,List.length_map]
  have tV:List.take x.ans.length (Gx (x.ans.map Cr))=Gx (x.ans.map Cr):=Gv (by omega);have l1:=A0m (fu:=fu) (d:=d) Bn (C7:=C7) (Ht:=Ht) (Eb:=Eb) (Ci:=Ci) (Dw:=Dw) hm h1 h2 h3 x.sts 0 fu none rfl (by omega) (by omega) (.inl ⟨rfl,rfl⟩) (fun s hs=>by cases hs);have ev:Gx ((x.sts.take 0).map Cp)=[]:=rfl;have z0:((0:Nat):Int)=0:=rfl;rw[ev,z0] at l1;subst ei;rw[I1,<-l1]
  repeat(with_reducible(first|apply Aj|apply Ad|apply Ah|apply Ao|apply Ax|apply Bb|apply Ae|apply Ai|apply Ct);· first|constructor|(simp(disch:=omega)only[Cu,LV,tV,ar,e00,Cm,Nat.one_mul,Df,Es,Cv,Ev]<;>first|constructor|omega)|omega)
  try simp(disch:=omega)only[Aa,LV,tV,ar,e00,Cm,Nat.one_mul,Df,Es,Cv,Ev]
  all_goals rfl
 |a::rs,i,nn+1,hd,hn,hi,hz,hk=>by
  obtain⟨q1,q2,q3⟩:=Dc hd;simp only[G7] at hn;obtain⟨c0,c1,c2⟩:=ana q2;have c2':(Cz x.ans).getD (i*3+1+1) .top=Af a.key.root:=c2;have nt:Int.toNat (i:Int)=i:=H0 _;have an:=At3 (fu:=fu) (d:=d) Bn a;unfold Aa8 at an;simp only[An.cells] at an;by_cases h0:F1 a=0
  ·rw[Bq h0,Qx] at an;have e00:((0:Int) != 0)=false:=rfl;have LI:(Ay (Cr a)).length=9:=rfl;have tI:List.take 9 (Ay (Cr a))=Ay (Cr a):=rfl;have LV:(Gx ((x.ans.take i).map Cr)).length=i:=by rw[Yz,List.length_map,List.length_take];omega
   have tV:List.take i (Gx ((x.ans.take i).map Cr))=Gx ((x.ans.take i).map Cr):=Gv (by omega);have w:wrap .i64 ((i:Int)+1)=((i+1:Nat):Int):=by rw[Ag (by omega) (by omega)];omega
   have et:x.ans.take (i+1)=x.ans.take i++[a]:=by rw[List.take_add_one,q2];rfl
   have ea:Gx ((x.ans.take i).map Cr)++[.lst false 3 3 (Ay (Cr a))]=Gx ((x.ans.take (i+1)).map Cr):=by
    rw[et,List.map_append,List.map_singleton];exact US _ (Cr a)
   have he:Dp (a::rs)=Dp rs:=by rw[Dp,A5 (by simp[h0])]
   have ih:=A0k Bn (C7:=C7) (Ht:=Ht) (Eb:=Eb) (Ci:=Ci) (Dw:=Dw) hm h1 h2 rs (i+1) nn q3 (by omega) (by omega) (fun h=>hz (by rw[he];exact h)) (fun y hy=>by
    rw[et] at hy;rcases Bz.1 hy with hy|hy
    ·exact hk y hy
    ·rw[Mv.1 hy];exact h0)
   rw[he,<-ih,I1];generalize Ay (Cr a)=TI at *
   generalize Gx ((x.ans.take i).map Cr)=TV at *
   generalize Gx ((x.ans.take (i+1)).map Cr)=TV' at *
   repeat(with_reducible(first|apply Aj|apply Ad|apply Ah|apply Ao|apply Ax|apply Bb|apply Ae|apply Ai|apply Ct);· first|constructor|(simp(disch:=omega)only[Cu,nt,c0,c1,c2',an,e00,LI,tI,LV,tV,ea,w,Cm,Nat.one_mul,Df,Nat.reduceMul,Es,Cv]<;>first|constructor|omega)|omega)
   try simp(disch:=omega)only[Aa,nt,c0,c1,c2',an,e00,LI,tI,LV,tV,ea,w,Cm,Nat.one_mul,Df,Nat.reduceMul,Es,Cv]
   all_goals rfl
  ·rw[A5 h0] at an;have he:Dp (a::rs)=F1 a:=by rw[Dp,Bq h0]
   have Gz:(F1 a != 0)=true:=by simp[h0]
   rw[he,A5 h0,I1]
   repeat(with_reducible(first|apply Aj|apply Ad|apply Ah|apply Ao|apply Ax|apply Bb|apply Ae|apply Ai|apply Ct);· first|constructor|(simp(disch:=omega)only[Cu,nt,c0,c1,c2',an,Gz]<;>first|constructor|omega)|omega)
   try simp(disch:=omega)only[Aa,nt,c0,c1,c2',an,Gz]
   all_goals rfl
theorem Aug(Bn:1000<=fu){x:Me}(hm:0<=x.model):Ar C0 prog fu (d+8) 62 [.agg x.cells]=some ⟨Ar7 x,[]⟩:=by
 refine (BM fu (d+7) x.model x.ans.length (Cz x.ans) x.sts.length (Dn x.sts)).trans ?_;unfold Ar7;by_cases e1:4<x.ans.length
 ·have hb:C4 x=8:=by unfold C4;rw[Bq (.inl e1)]
  rw[hb,A5 (by omega)]
  repeat(with_reducible(first|apply Aj|apply Ad|apply Ah|apply Ao|apply Ax|apply Bb|apply Ae|apply Ai|apply Ct);· first|constructor|(simp(disch:=omega)only[Cu,Cv]<;>first|constructor|omega)|omega)
  try simp(disch:=omega)only[Aa,Cv]
  all_goals rfl
 by_cases e2:4<x.sts.length
 ·have hb:C4 x=8:=by unfold C4;rw[Bq (.inr e2)]
  rw[hb,A5 (by omega)]
  repeat(with_reducible(first|apply Aj|apply Ad|apply Ah|apply Ao|apply Ax|apply Bb|apply Ae|apply Ai|apply Ct);· first|constructor|(simp(disch:=omega)only[Cu,Cv]<;>first|constructor|omega)|omega)
  try simp(disch:=omega)only[Aa,Cv]
  all_goals rfl
 have l0:=A0k (fu:=fu) (d:=d) Bn (C7:=x.model) (Ht:=x.ans.length) (Ci:=Cz x.ans) (Eb:=x.sts.length) (Dw:=Dn x.sts) hm (by omega) (by omega) x.ans 0 fu rfl (by omega) (by omega) (fun h=>h) (fun a ha=>by cases ha);have ev:Gx ((x.ans.take 0).map Cr)=[]:=rfl;have z0:((0:Nat):Int)=0:=rfl;have hb:C4 x=if Dp x.ans≠0 then Dp x.ans else Eu none x.sts:=by unfold C4;rw[A5 (by omega)]
 have R:(if C4 x=0 then [PV.own 3 (A7 x).length (Ay (A7 x)),At 0] else [.own 3 0 [],At (C4 x)])=(if Dp x.ans=0 then (if Eu none x.sts=0 then [PV.own 3 (A7 x).length (Ay (A7 x)),At 0] else [.own 3 0 [],At (Eu none x.sts)]) else [.own 3 0 [],At (Dp x.ans)]):=by
  rw[hb];by_cases h:Dp x.ans=0
  ·have e:(if Dp x.ans≠0 then Dp x.ans else Eu none x.sts)=Eu none x.sts:=A5 (by simp[h]);rw[e,Bq h]
  ·have e:(if Dp x.ans≠0 then Dp x.ans else Eu none x.sts)=Dp x.ans:=Bq h;rw[e,A5 h,A5 h]
 rw[R,<-l0,ev,z0]
 repeat(with_reducible(first|apply Aj|apply Ad|apply Ah|apply Ao|apply Ax|apply Bb|apply Ae|apply Ai|apply Ct);· first|constructor|(simp(disch:=omega)only[Cu,Cv]<;>first|constructor|omega)|omega)
 try simp(disch:=omega)only[Aa,Cv]
 all_goals rfl
end
theorem F0.len:∀{l:List It},F0 l->(Bi l).length<=41*l.length
 |[],_=>by simp[Bi]
 |x::l,h=>by
  have h1:=Aai x;have h2:=(h x (by simp)).2.2;have ih:=F0.len (l:=l) (fun y hy=>h y (by simp[hy]));have e:Bi (x::l)=B8 x++Bi l:=rfl;rw[e,Fw,G7];omega
def J1(m:Md):Ab:=if Bu m=0 then [.own 1 (Bi (A6 m)).length (Ac .u8 (Bi (A6 m))),At 0] else [.own 1 0 [],At (Bu m)]
section
variable {fu d:Nat}
theorem Azy(Bn:1000<=fu){C7 Ci Dw AH:Int}{Ol O6 Oh:Nat}{AJ AD Zm:Ab}{m:Md}(hw:m.wf)(h1:¬(m.ver<1\/16<m.ver))(h2:¬(m.iss<0\/m.nxt<m.iss\/1099511627776<m.nxt))(h3:m.ents.length<=16):∀(r:List Me)(i nn:Nat)(p:Option Int),m.ents.drop i=r->r.length<nn->i<=m.ents.length ->
  ((i=0/\p=none)\/∃x',0<i/\m.ents[i-1]?=some x'/\p=some x'.model)->(Dj p r=0->Dj none m.ents=0)->(∀x∈m.ents.take i,C4 x=0) ->
  Jo fu (Ar C0 prog fu (d+8)) C7 Ci Dw Ol AJ AH O6 AD Oh Zm nn i m.ents.length (B7 m.ents) (m.ents.length:Int) (i:Int) m.ver m.iss m.nxt m.ents.length (B7 m.ents) m.sig.leaf m.sig.chains.length (Ac .u64 m.sig.chains) m.sig.path.length (Ac .u64 m.sig.path) (Gx ((m.ents.take i).map A7)) =
   some ⟨(if Dj p r=0 then [.own 1 (Bi (A6 m)).length (Ac .u8 (Bi (A6 m))),At 0] else [.own 1 0 [],At (Dj p r)]),[]⟩
 |_,_,0,_,_,h,_,_,_,_=>by omega
 |[],i,nn+1,p,hd,hn,hi,hp,hz,hk=>by
  have hl:=drop_nil hd;have ei:i=m.ents.length:=by omega
  have eall:m.ents.take i=m.ents:=Gv (by omega);rw[eall] at hk ⊢;have Hc:Dj p []=0:=by unfold Dj;rfl
  have h0:=hz Hc;have hm0:Bu m=0:=by unfold Bu;rw[A5 h1,A5 h2,A5 (by omega),h0]
  rw[Bq Hc];obtain⟨ve,fe,le⟩:=Ag5 h3 (fun x hx=>⟨hw.mod x hx,hk x hx⟩);obtain⟨vm,fm,lm⟩:=Uh hw hm0;have fl:=GV (f:=A7) (k:=28) (l:=m.ents) (fun x hx=>(Wu (hw.mod x hx) (hk x hx)).2.2)
  have ar:=HJ (fu:=fu) (d:=d+2) Bn (k:=3) (by omega) (vs:=m.ents.map A7) (fun v hv=>by
   obtain⟨x,hx,rfl⟩:=List.mem_map.1 hv;have:=Wu (hw.mod x hx) (hk x hx);exact⟨this.1,by simp[A7],by have:=this.2.2;omega⟩) (by rw[List.length_map];omega) (by omega)
  rw[List.length_map] at ar
  have ar4:Ar C0 prog fu (d+8) 63 [.lst false 1 4 [.lst false 3 1 (Ay [⟨1,m.ver,Fv⟩]),.lst false 3 1 (Ay [⟨1,m.iss,Fv⟩]),.lst false 3 1 (Ay [⟨1,m.nxt,Fv⟩]),.lst false 3 (Dq (m.ents.map A7)).length (Ay (Dq (m.ents.map A7)))]]=some ⟨[.own 3 (A6 m).length (Ay (A6 m)),At 0],[]⟩:=HJ (fu:=fu) (d:=d+2) Bn (k:=4) (by omega) (vs:=Np m) (fun v hv=>by
   simp only[Np,B6,Ie,or_false] at hv;rcases hv with rfl|rfl|rfl|rfl
   ·exact⟨Hk (Jj (by omega)) 4,by simp,by simp⟩
   ·exact⟨Hk (Jj (by omega)) 4,by simp,by simp⟩
   ·exact⟨Hk (Jj (by omega)) 4,by simp,by simp⟩
   ·exact⟨ve,by simp[Dq],by omega⟩) (by simp[Np]) (by simp only[Np,List.flatten_cons,List.flatten_nil,List.append_nil,Fw,List.length_singleton];omega)
  have en:=Afc (fu:=fu) (d:=d+3) Bn (l:=A6 m) (by omega) (by omega) (vm.goods (by omega) (by simp[A6]) (by omega)) (fun x hx=>(fm x hx).1) (by have:=fm.len;omega)
  have u1:=Yu (fu:=fu) (d:=d+7) m.ver;have u2:=Yu (fu:=fu) (d:=d+7) m.iss;have u3:=Yu (fu:=fu) (d:=d+7) m.nxt;have w1:wrap .u64 m.ver=m.ver:=Cd (by omega) (by omega);have w2:wrap .u64 m.iss=m.iss:=Cd (by omega) (by omega);have w3:wrap .u64 m.nxt=m.nxt:=Cd (by omega) (by omega);have e00:((0:Int) != 0)=false:=rfl;have LV:(Gx (m.ents.map A7)).length=m.ents.length:=by rw[Yz,List.length_map]
  have tV:List.take m.ents.length (Gx (m.ents.map A7))=Gx (m.ents.map A7):=Gv (by omega);have LA:=Cw (Dq (m.ents.map A7));have LM:=Cw (A6 m);have tA:List.take ((Dq (m.ents.map A7)).length*3) (Ay (Dq (m.ents.map A7)))=Ay (Dq (m.ents.map A7)):=Gv (by omega);have tM:List.take ((A6 m).length*3) (Ay (A6 m))=Ay (A6 m):=Gv (by omega);have LB:=Am .u8 (Bi (A6 m));have tB:=Mb .u8 (Bi (A6 m));have K1:List.take 3 (Ay [⟨1,m.ver,Fv⟩])=Ay [⟨1,m.ver,Fv⟩]:=rfl;have K2:List.take 3 (Ay [⟨1,m.iss,Fv⟩])=Ay [⟨1,m.iss,Fv⟩]:=rfl;have K3:List.take 3 (Ay [⟨1,m.nxt,Fv⟩])=Ay [⟨1,m.nxt,Fv⟩]:=rfl;have N1:(Ay [⟨1,m.ver,Fv⟩]).length=3:=rfl;have N2:(Ay [⟨1,m.iss,Fv⟩]).length=3:=rfl;have N3:(Ay [⟨1,m.nxt,Fv⟩]).length=3:=rfl;subst ei
  rw[Ua];generalize Ay [⟨1,m.ver,Fv⟩]=T1 at *
  generalize Ay [⟨1,m.iss,Fv⟩]=T2 at *
  generalize Ay [⟨1,m.nxt,Fv⟩]=T3 at *
  generalize Bi (A6 m)=B at *
  generalize Ay (A6 m)=TM at *
  generalize (A6 m).length=nM at *
  generalize Ay (Dq (m.ents.map A7))=TA at *
  generalize (Dq (m.ents.map A7)).length=nA at *
  generalize Gx (m.ents.map A7)=TV at *
  repeat(with_reducible(first|apply Aj|apply Ad|apply Ah|apply Bb|apply Ba|apply Ae|apply Ai|apply Ct);· first|constructor|(simp(disch:=omega)only[Cu,LV,tV,ar,e00,u1,u2,u3,w1,w2,w3,K1,K2,K3,N1,N2,N3,LA,tA,ar4,LM,tM,en,LB,tB,Cm,Nat.one_mul,Df,Es,Cv,Ev]<;>first|constructor|omega)|omega)
  try simp(disch:=omega)only[Aa,LV,tV,ar,e00,u1,u2,u3,w1,w2,w3,K1,K2,K3,N1,N2,N3,LA,tA,ar4,LM,tM,en,LB,tB,Cm,Nat.one_mul,Df,Es,Cv,Ev]
  all_goals rfl
 |x::rs,i,nn+1,p,hd,hn,hi,hp,hz,hk=>by
  obtain⟨q1,q2,q3⟩:=Dc hd;simp only[G7] at hn;obtain⟨c0,c1,c2⟩:=mea q2;have c2':(B7 m.ents).getD (i*3+1+1) .top=.lst false 2 x.sts.length (Dn x.sts):=c2;have nt:Int.toNat (i:Int)=i:=H0 _;have hxm:=hw.mod x (List.mem_of_getElem? q2);have en:=Aug (fu:=fu) (d:=d) Bn hxm;unfold Ar7 at en;simp only[Me.cells] at en;have w:wrap .i64 ((i:Int)+1)=((i+1:Nat):Int):=by rw[Ag (by omega) (by omega)];omega
  have et:m.ents.take (i+1)=m.ents.take i++[x]:=by rw[List.take_add_one,q2];rfl
  have O1:J3 none x=0:=rfl;have O0:∀q:Int,J3 (some q) x=if x.model<=q then 7 else 0:=fun q=>rfl
  have LV:(Gx ((m.ents.take i).map A7)).length=i:=by rw[Yz,List.length_map,List.length_take];omega
  have tV:List.take i (Gx ((m.ents.take i).map A7))=Gx ((m.ents.take i).map A7):=Gv (by omega)
  have ea:Gx ((m.ents.take i).map A7)++[.lst false 3 (A7 x).length (Ay (A7 x))]=Gx ((m.ents.take (i+1)).map A7):=by
   rw[et,List.map_append,List.map_singleton];exact US _ (A7 x)
  have LE:=Cw (A7 x);have tE:List.take ((A7 x).length*3) (Ay (A7 x))=Ay (A7 x):=Gv (by omega);have e00:((0:Int) != 0)=false:=rfl;have hgo:J3 p x=0->C4 x=0->Dj p (x::rs)=Dj (some x.model) rs:=fun h h'=>by rw[Dj,A5 (by simp[h]),A5 (by simp[h'])]
  have Agk:J3 p x=0->C4 x≠0->Dj p (x::rs)=C4 x:=fun h h'=>by rw[Dj,A5 (by simp[h]),Bq h']
  have A2t:J3 p x=7->Dj p (x::rs)=7:=fun h=>by rw[Dj,Bq (by rw[h];omega),h]
  have ih:=fun (h:J3 p x=0) (h':C4 x=0)=>Azy Bn (C7:=C7) (Ci:=Ci) (Dw:=Dw) (AH:=AH) (Ol:=Ol) (O6:=O6) (Oh:=Oh) (AJ:=AJ) (AD:=AD) (Zm:=Zm) hw h1 h2 h3 rs (i+1) nn (some x.model) q3 (by omega) (by omega) (.inr ⟨x,by omega,by rw[Nat.add_sub_cancel];exact q2,rfl⟩) (fun e=>hz (by rw[hgo h h'];exact e)) (fun y hy=>by
   rw[et] at hy;rcases Bz.1 hy with hy|hy
   ·exact hk y hy
   ·rw[Mv.1 hy];exact h')
  rw[Ua];rcases hp with⟨rfl,rfl⟩|⟨x',h0,h5,rfl⟩
  ·by_cases he:C4 x=0
   ·rw[Bq he] at en;have ih:=ih O1 he;rw[hgo O1 he,<-ih];generalize Ay (A7 x)=TE at *
    generalize (A7 x).length=nE at *
    generalize Gx ((m.ents.take 0).map A7)=TV at *
    generalize Gx ((m.ents.take (0+1)).map A7)=TV' at *
    repeat(with_reducible(first|apply Aj|apply Ad|apply Ah|apply Bb|apply Ba|apply Ae|apply Ai|apply Ct);· first|constructor|(simp(disch:=omega)only[Cu,nt,c0,c1,c2',en,e00,LE,tE,LV,tV,ea,w,Cm,Df,Es]<;>first|constructor|omega)|omega)
    try simp(disch:=omega)only[Aa,nt,c0,c1,c2',en,e00,LE,tE,LV,tV,ea,w,Cm,Df,Es]
    all_goals rfl
   ·rw[A5 he] at en;have Gz:(C4 x != 0)=true:=by simp[he]
    rw[Agk O1 he,A5 he]
    repeat(with_reducible(first|apply Aj|apply Ad|apply Ah|apply Bb|apply Ba|apply Ae|apply Ai|apply Ct);· first|constructor|(simp(disch:=omega)only[Cu,nt,c0,c1,c2',en,Gz]<;>first|constructor|omega)|omega)
    try simp(disch:=omega)only[Aa,nt,c0,c1,c2',en,Gz]
    all_goals rfl
  ·obtain⟨b0,b1,b2⟩:=mea h5;have b0':(B7 m.ents).getD ((i-1)*3+0) .top=Af x'.model:=b0;have wi:wrap .i64 ((i:Int)-1)=((i-1:Nat):Int):=by rw[Ag (by omega) (by omega)];omega
   have nt1:Int.toNat ((i-1:Nat):Int)=i-1:=H0 _;by_cases ho:x.model<=x'.model
   ·have h7:J3 (some x'.model) x=7:=by rw[O0,Bq ho]
    rw[A2t h7,A5 (by omega)]
    repeat(with_reducible(first|apply Aj|apply Ad|apply Ah|apply Bb|apply Ba|apply Ae|apply Ai|apply Ct);· first|constructor|(simp(disch:=omega)only[Cu,nt,c0,c1,c2',wi,nt1,b0']<;>first|constructor|omega)|omega)
    try simp(disch:=omega)only[Aa,nt,c0,c1,c2',wi,nt1,b0']
    all_goals rfl
   ·have h7:J3 (some x'.model) x=0:=by rw[O0,A5 ho]
    by_cases he:C4 x=0
    ·rw[Bq he] at en;have ih:=ih h7 he;rw[hgo h7 he,<-ih];generalize Ay (A7 x)=TE at *
     generalize (A7 x).length=nE at *
     generalize Gx ((m.ents.take i).map A7)=TV at *
     generalize Gx ((m.ents.take (i+1)).map A7)=TV' at *
     repeat(with_reducible(first|apply Aj|apply Ad|apply Ah|apply Bb|apply Ba|apply Ae|apply Ai|apply Ct);· first|constructor|(simp(disch:=omega)only[Cu,nt,c0,c1,c2',wi,nt1,b0',en,e00,LE,tE,LV,tV,ea,w,Cm,Df,Es]<;>first|constructor|omega)|omega)
     try simp(disch:=omega)only[Aa,nt,c0,c1,c2',wi,nt1,b0',en,e00,LE,tE,LV,tV,ea,w,Cm,Df,Es]
     all_goals rfl
    ·rw[A5 he] at en;have Gz:(C4 x != 0)=true:=by simp[he]
     rw[Agk h7 he,A5 he]
     repeat(with_reducible(first|apply Aj|apply Ad|apply Ah|apply Bb|apply Ba|apply Ae|apply Ai|apply Ct);· first|constructor|(simp(disch:=omega)only[Cu,nt,c0,c1,c2',wi,nt1,b0',en,Gz]<;>first|constructor|omega)|omega)
     try simp(disch:=omega)only[Aa,nt,c0,c1,c2',wi,nt1,b0',en,Gz]
     all_goals rfl
theorem Aez(Bn:1000<=fu){m:Md}(hw:m.wf):Ar C0 prog fu (d+9) 34 [.agg m.cells]=some ⟨J1 m,[]⟩:=by
 refine (RB fu (d+8) m.ver m.iss m.nxt m.ents.length (B7 m.ents) m.sig.leaf m.sig.chains.length (Ac .u64 m.sig.chains) m.sig.path.length (Ac .u64 m.sig.path)).trans ?_;have bad:∀{e:Int},Bu m=e->e≠0->some (D0.mk [.own 1 0 [],At e] [])=some (D0.mk (J1 m) []):=fun {e} h he=>by unfold J1;rw[h,A5 he]
 by_cases h1:m.ver<1\/16<m.ver
 ·have hb:Bu m=9:=by unfold Bu;rw[Bq h1]
  rw[<-bad hb (by omega)];by_cases ZY:m.ver<1
  ·skip
   repeat(with_reducible(first|apply Aj|apply Ad|apply Ah|apply Bb|apply Ba|apply Ae|apply Ai|apply Ct);· first|constructor|(simp(disch:=omega)only[Cu,Cv]<;>first|constructor|omega)|omega)
   try simp(disch:=omega)only[Aa,Cv]
   all_goals rfl
  ·skip
   repeat(with_reducible(first|apply Aj|apply Ad|apply Ah|apply Bb|apply Ba|apply Ae|apply Ai|apply Ct);· first|constructor|(simp(disch:=omega)only[Cu,Cv]<;>first|constructor|omega)|omega)
   try simp(disch:=omega)only[Aa,Cv]
   all_goals rfl
 by_cases h2:m.iss<0\/m.nxt<m.iss\/1099511627776<m.nxt
 ·have hb:Bu m=9:=by unfold Bu;rw[A5 h1,Bq h2]
  rw[<-bad hb (by omega)];by_cases h2':m.iss<0
  ·skip
   repeat(with_reducible(first|apply Aj|apply Ad|apply Ah|apply Bb|apply Ba|apply Ae|apply Ai|apply Ct);· first|constructor|(simp(disch:=omega)only[Cu,Cv]<;>first|constructor|omega)|omega)
   try simp(disch:=omega)only[Aa,Cv]
   all_goals rfl
  by_cases Bcc:m.nxt<m.iss
  ·skip
   repeat(with_reducible(first|apply Aj|apply Ad|apply Ah|apply Bb|apply Ba|apply Ae|apply Ai|apply Ct);· first|constructor|(simp(disch:=omega)only[Cu,Cv]<;>first|constructor|omega)|omega)
   try simp(disch:=omega)only[Aa,Cv]
   all_goals rfl
  ·skip
   repeat(with_reducible(first|apply Aj|apply Ad|apply Ah|apply Bb|apply Ba|apply Ae|apply Ai|apply Ct);· first|constructor|(simp(disch:=omega)only[Cu,Cv]<;>first|constructor|omega)|omega)
   try simp(disch:=omega)only[Aa,Cv]
   all_goals rfl
 by_cases h3:16<m.ents.length
 ·have hb:Bu m=8:=by unfold Bu;rw[A5 h1,A5 h2,Bq h3]
  rw[<-bad hb (by omega)]
  repeat(with_reducible(first|apply Aj|apply Ad|apply Ah|apply Bb|apply Ba|apply Ae|apply Ai|apply Ct);· first|constructor|(simp(disch:=omega)only[Cu,Cv]<;>first|constructor|omega)|omega)
  try simp(disch:=omega)only[Aa,Cv]
  all_goals rfl
 have hb:Bu m=Dj none m.ents:=by unfold Bu;rw[A5 h1,A5 h2,A5 h3]
 have l0:=Azy (fu:=fu) (d:=d) Bn (C7:=m.ver) (Ci:=m.iss) (Dw:=m.nxt) (Ol:=m.ents.length) (AJ:=B7 m.ents) (AH:=m.sig.leaf) (O6:=m.sig.chains.length) (AD:=Ac .u64 m.sig.chains) (Oh:=m.sig.path.length) (Zm:=Ac .u64 m.sig.path) hw h1 h2 (by omega) m.ents 0 fu none rfl (by omega) (by omega) (.inl ⟨rfl,rfl⟩) (fun h=>h) (fun x hx=>by cases hx);have ev:Gx ((m.ents.take 0).map A7)=[]:=rfl;have z0:((0:Nat):Int)=0:=rfl;rw[ev,z0] at l0;unfold J1;rw[hb,<-l0]
 repeat(with_reducible(first|apply Aj|apply Ad|apply Ah|apply Bb|apply Ba|apply Ae|apply Ai|apply Ct);· first|constructor|(simp(disch:=omega)only[Cu,Cv]<;>first|constructor|omega)|omega)
 try simp(disch:=omega)only[Aa,Cv]
 all_goals rfl
end
def Vb(m:Md):Int:=S4 15 (Bi (A6 m))
def Ahp(m:Md)(k:Ky):Int:=if Bu m=0 then (if m.sig.leaf≠m.ver-1 then 33 else Apa k (Vb m) m.sig) else Bu m
def Ds(m:Md):Int:=if Bu m=0 then NE m.sig else Bu m
def Fx(m:Md):Ca:=Bi (A6 m)++Sj m.sig
def Tm(m:Md):Ab:=if Ds m=0 then [.own 1 (Fx m).length (Ac .u8 (Fx m)),At 0] else [.own 1 0 [],At (Ds m)]
def ME(m:Md):Ab:=if Bu m=0 then [Af (Vb m),At 0] else [Af 0,At (Bu m)]
def HE:Md:=⟨0,0,0,[],⟨0,[],[]⟩⟩
def Rx(m:Md)(seed h:Int):Md × Int:=
 if Bu m=0 then (match LH seed h (m.ver-1) (Vb m) with|some s=>({ m with sig:=s },0)|none=>(HE,9)) else (HE,Bu m)
theorem Qv{m:Md}(hw:m.wf)(h:Bu m=0):(Bi (A6 m)).length<=18573:=by obtain⟨_,f,l⟩:=Uh hw h;have:=f.len;omega
theorem KS{m:Md}(hw:m.wf)(h:Bu m=0):Ii (Bi (A6 m)):=by obtain⟨_,f,_⟩:=Uh hw h;intro y hy;obtain⟨x,hx,hy⟩:=List.mem_flatMap.1 hy;have:=(f x hx).1;exact Aln this.k1 this.k8 this.n0 y hy
section
variable {fu d:Nat}{m:Md}
theorem Afh(Bn:20000<=fu)(hw:m.wf):Ar C0 prog fu (d+10) 35 [.agg m.cells]=some ⟨ME m,[]⟩:=by
 refine (RT fu (d+9) m.ver m.iss m.nxt m.ents.length (B7 m.ents) m.sig.leaf m.sig.chains.length (Ac .u64 m.sig.chains) m.sig.path.length (Ac .u64 m.sig.path)).trans ?_;have bq:=Aez (fu:=fu) (d:=d) (by omega) hw;simp only[Md.cells] at bq;unfold J1 at bq;unfold ME;by_cases h0:Bu m=0
 ·have lb:=Qv hw h0;rw[Bq h0] at bq;rw[Bq h0];have e00:((0:Int) != 0)=false:=rfl;have hh:=Akv (xs:=Mm) (fu:=fu) (d:=d+4) (KS hw h0) (by omega) (by omega) (by omega) 15;have eW:S4 15 (Bi (A6 m))=Vb m:=rfl;rw[eW] at hh;have L1:=Am .u8 (Bi (A6 m));have t1:=Mb .u8 (Bi (A6 m));generalize (Bi (A6 m)).length=n1 at *
  generalize Ac .u8 (Bi (A6 m))=c1 at *
  repeat(with_reducible(first|apply Aj|apply Ad|apply Ah|apply Bb|apply Ba|apply Au|apply Ae|apply Ai|apply Ct);· first|constructor|(simp(disch:=omega)only[Cu,bq,e00,Df,Cm,Es,L1,t1,hh]<;>first|constructor|omega)|omega)
  try simp(disch:=omega)only[Aa,bq,e00,Df,Cm,Es,L1,t1,hh]
  all_goals rfl
 ·have Gz:(Bu m != 0)=true:=by simp[h0]
  rw[A5 h0] at bq;rw[A5 h0]
  repeat(with_reducible(first|apply Aj|apply Ad|apply Ah|apply Bb|apply Ba|apply Au|apply Ae|apply Ai|apply Ct);· first|constructor|(simp(disch:=omega)only[Cu,bq,Gz]<;>first|constructor|omega)|omega)
  try simp(disch:=omega)only[Aa,bq,Gz]
  all_goals rfl
theorem Ay4(Bn:20000<=fu)(hw:m.wf)(k:Ky):Ar C0 prog fu (d+11) 19 [.agg m.cells,.agg k.cells]=some ⟨[At (Ahp m k)],[]⟩:=by
 refine (JQ fu (d+10) m.ver m.iss m.nxt m.ents.length (B7 m.ents) m.sig.leaf m.sig.chains.length (Ac .u64 m.sig.chains) m.sig.path.length (Ac .u64 m.sig.path) k.h k.root).trans ?_;have bq:=Afh (fu:=fu) (d:=d) Bn hw;simp only[Md.cells] at bq;unfold ME at bq;unfold Ahp;by_cases h0:Bu m=0
 ·rw[Bq h0] at bq;rw[Bq h0];have hv:=Kl h0;have e00:((0:Int) != 0)=false:=rfl;have w:wrap .i64 (m.ver-1)=m.ver-1:=Ag (by omega) (by omega);by_cases h1:m.sig.leaf≠m.ver-1
  ·have hn:(m.sig.leaf != m.ver-1)=true:=by simp[h1]
   rw[Bq h1]
   repeat(with_reducible(first|apply Aj|apply Ad|apply Ah|apply Bb|apply Ba|apply Au|apply Ae|apply Ai|apply Ct);· first|constructor|(simp(disch:=omega)only[Cu,bq,e00,w,hn]<;>first|constructor|omega)|omega)
   try simp(disch:=omega)only[Aa,bq,e00,w,hn]
   all_goals rfl
  ·have hn:(m.sig.leaf != m.ver-1)=false:=by simp only[ne_eq,Decidable.not_not] at h1;simp[h1]
   rw[A5 h1];have vr:=Aoh (xs:=Mm) (fu:=fu) (d:=d+2) (by omega) k (Vb m) m.sig;simp only[Ky.cells,Sg.cells] at vr
   repeat(with_reducible(first|apply Aj|apply Ad|apply Ah|apply Bb|apply Ba|apply Au|apply Ae|apply Ai|apply Ct);· first|constructor|(simp(disch:=omega)only[Cu,bq,e00,w,hn,vr]<;>first|constructor|omega)|omega)
   try simp(disch:=omega)only[Aa,bq,e00,w,hn,vr]
   all_goals rfl
 ·have Gz:(Bu m != 0)=true:=by simp[h0]
  rw[A5 h0] at bq;rw[A5 h0]
  repeat(with_reducible(first|apply Aj|apply Ad|apply Ah|apply Bb|apply Ba|apply Au|apply Ae|apply Ai|apply Ct);· first|constructor|(simp(disch:=omega)only[Cu,bq,Gz]<;>first|constructor|omega)|omega)
  try simp(disch:=omega)only[Aa,bq,Gz]
  all_goals rfl
theorem Alo(Bn:20000<=fu)(hw:m.wf)(hp:m.sig.path.length<=1000000000)(hf:m.sig.path.length<fu):Ar C0 prog fu (d+10) 25 [.agg m.cells]=some ⟨Tm m,[]⟩:=by
 refine (MH fu (d+9) m.ver m.iss m.nxt m.ents.length (B7 m.ents) m.sig.leaf m.sig.chains.length (Ac .u64 m.sig.chains) m.sig.path.length (Ac .u64 m.sig.path)).trans ?_;have bq:=Aez (fu:=fu) (d:=d) (by omega) hw;simp only[Md.cells] at bq;have es:=Anp (xs:=Mm) (fu:=fu) (d:=d+7) (by omega) m.sig hp hf;simp only[Sg.cells] at es;unfold J1 at bq;unfold Tm Ds;by_cases h0:Bu m=0
 ·have lb:=Qv hw h0;rw[Bq h0] at bq;rw[Bq h0];have L1:=Am .u8 (Bi (A6 m));have t1:=Mb .u8 (Bi (A6 m));have e00:((0:Int) != 0)=false:=rfl;have e90:((9:Int) != 0)=true:=rfl;have e40:((4:Int) != 0)=true:=rfl;unfold NE;by_cases g1:D1 m.sig.path.length=true
  ·rw[Bq g1] at es;rw[Bq g1,A5 (by omega)]
   repeat(with_reducible(first|apply Aj|apply Ad|apply Ah|apply Bb|apply Ba|apply Au|apply Ae|apply Ai|apply Ct);· first|constructor|(simp(disch:=omega)only[Cu,bq,es,e00,e90]<;>first|constructor|omega)|omega)
   try simp(disch:=omega)only[Aa,bq,es,e00,e90]
   all_goals rfl
  rw[A5 g1] at es;rw[A5 g1];by_cases g2:Js m.sig.leaf m.sig.path.length=true
  ·rw[Bq g2] at es;rw[Bq g2,A5 (by omega)]
   repeat(with_reducible(first|apply Aj|apply Ad|apply Ah|apply Bb|apply Ba|apply Au|apply Ae|apply Ai|apply Ct);· first|constructor|(simp(disch:=omega)only[Cu,bq,es,e00,e90]<;>first|constructor|omega)|omega)
   try simp(disch:=omega)only[Aa,bq,es,e00,e90]
   all_goals rfl
  rw[A5 g2] at es;rw[A5 g2];by_cases g3:m.sig.chains.length≠18
  ·rw[Bq g3] at es;rw[Bq g3,A5 (by omega)]
   repeat(with_reducible(first|apply Aj|apply Ad|apply Ah|apply Bb|apply Ba|apply Au|apply Ae|apply Ai|apply Ct);· first|constructor|(simp(disch:=omega)only[Cu,bq,es,e00,e40]<;>first|constructor|omega)|omega)
   try simp(disch:=omega)only[Aa,bq,es,e00,e40]
   all_goals rfl
  rw[A5 g3] at es;rw[A5 g3,Bq rfl];have hb4:=H7 (h:=m.sig.path.length) (by simpa using g1)
  have ls:(Sj m.sig).length=2+8*m.sig.chains.length+8*m.sig.path.length:=by
   unfold Sj;simp only[G7,Fw,Da];omega
  have L2:=Am .u8 (Sj m.sig);have t2:=Mb .u8 (Sj m.sig)
  have ea:Ac .u8 (Bi (A6 m))++Ac .u8 (Sj m.sig)=Ac .u8 (Fx m):=by
   unfold Fx;rw[Ac,Ac,Ac,List.flatMap_append]
  have le:(Fx m).length=(Bi (A6 m)).length+(Sj m.sig).length:=by unfold Fx;rw[Fw]
  have L3:=Am .u8 (Fx m);have t3:List.take ((Bi (A6 m)).length+(Sj m.sig).length) (Ac .u8 (Fx m))=Ac .u8 (Fx m):=Gv (by omega);rw[le] at L3 ⊢;generalize (Bi (A6 m)).length=n1 at *
  generalize (Sj m.sig).length=n2 at *
  generalize Ac .u8 (Bi (A6 m))=c1 at *
  generalize Ac .u8 (Sj m.sig)=c2 at *
  repeat(with_reducible(first|apply Aj|apply Ad|apply Ah|apply Bb|apply Ba|apply Au|apply Ae|apply Ai|apply Ct);· first|constructor|(simp(disch:=omega)only[Cu,bq,es,e00,Df,Cm,Es,L1,t1,L2,t2,ea,L3,t3]<;>first|constructor|omega)|omega)
  try simp(disch:=omega)only[Aa,bq,es,e00,Df,Cm,Es,L1,t1,L2,t2,ea,L3,t3]
  all_goals rfl
 ·have Gz:(Bu m != 0)=true:=by simp[h0]
  rw[A5 h0] at bq;rw[A5 h0,A5 h0]
  repeat(with_reducible(first|apply Aj|apply Ad|apply Ah|apply Bb|apply Ba|apply Au|apply Ae|apply Ai|apply Ct);· first|constructor|(simp(disch:=omega)only[Cu,bq,Gz]<;>first|constructor|omega)|omega)
  try simp(disch:=omega)only[Aa,bq,Gz]
  all_goals rfl
theorem Ap3{l:List An}(hl:l.length<=1000000):Ar C0 prog fu (d+1) 71 [.lst false 3 l.length (Cz l)]=some ⟨[.lst false 3 l.length (Cz l)],[]⟩:=by
 refine (P0 fu d l.length (Cz l)).trans ?_;have L:=Nt l;have t:List.take (l.length*3) (Cz l)=Cz l:=Gv (by omega);by_cases h:0<l.length
 ·skip
  repeat(with_reducible(first|apply Aj|apply Ad|apply Ah|apply Bb|apply Ba|apply Au|apply Ae|apply Ai|apply Ct);· first|constructor|(simp(disch:=omega)only[Cu,L,t,SR,Cm,Es]<;>first|constructor|omega)|omega)
  try simp(disch:=omega)only[Aa,L,t,SR,Cm,Es]
  all_goals rfl
 ·have h0:l=[]:=List.eq_nil_of_length_eq_zero (by omega);subst h0;rw[Ef _ _ _ (by simp)];exact SI _
theorem Ann{l:List Sa}(hl:l.length<=1000000):Ar C0 prog fu (d+1) 72 [.lst false 2 l.length (Dn l)]=some ⟨[.lst false 2 l.length (Dn l)],[]⟩:=by
 refine (P1 fu d l.length (Dn l)).trans ?_;have L:=Yy l;have t:List.take (l.length*2) (Dn l)=Dn l:=Gv (by omega);by_cases h:0<l.length
 ·skip
  repeat(with_reducible(first|apply Aj|apply Ad|apply Ah|apply Bb|apply Ba|apply Au|apply Ae|apply Ai|apply Ct);· first|constructor|(simp(disch:=omega)only[Cu,L,t,SR,Cm,Es]<;>first|constructor|omega)|omega)
  try simp(disch:=omega)only[Aa,L,t,SR,Cm,Es]
  all_goals rfl
 ·have h0:l=[]:=List.eq_nil_of_length_eq_zero (by omega);subst h0;rw[Ef _ _ _ (by simp)];exact SI _
theorem Aul{x:Me}(h1:x.ans.length<=1000000)(h2:x.sts.length<=1000000):Ar C0 prog fu (d+2) 37 [.agg x.cells]=some ⟨[.agg x.cells],[]⟩:=by
 refine (Rm fu (d+1) x.model x.ans.length (Cz x.ans) x.sts.length (Dn x.sts)).trans ?_;have c1:=Ap3 (fu:=fu) (d:=d) h1;have c2:=Ann (fu:=fu) (d:=d) h2
 repeat(with_reducible(first|apply Aj|apply Ad|apply Ah|apply Bb|apply Ba|apply Au|apply Ae|apply Ai|apply Ct);· first|constructor|(simp(disch:=omega)only[Cu,c1,c2]<;>first|constructor|omega)|omega)
 try simp(disch:=omega)only[Aa,c1,c2]
 all_goals rfl
theorem Yq(a:List Me)(x:Me):B7 a++[Af x.model,.lst false 3 x.ans.length (Cz x.ans),.lst false 2 x.sts.length (Dn x.sts)]=B7 (a++[x]):=by unfold B7;rw[List.flatMap_append,Jr,List.flatMap_nil,List.append_nil];rfl
theorem Amy{C7 Ci Dw AH a1 a2:Int}{Ol O6 Oh:Nat}{AJ AD Zm:Ab}{s:Sg}(h3:m.ents.length<=16)(h4:∀x∈m.ents,x.ans.length<=4/\x.sts.length<=4):∀(r:List Me)(i nn:Nat),m.ents.drop i=r->r.length<nn->i<=m.ents.length ->
  L8 fu (Ar C0 prog fu (d+2)) C7 Ci Dw Ol AJ AH O6 AD Oh Zm a1 a2 nn i m.ents.length (B7 m.ents) (m.ents.length:Int) (i:Int) m.ver m.iss m.nxt m.ents.length (B7 m.ents) m.sig.leaf m.sig.chains.length (Ac .u64 m.sig.chains) m.sig.path.length (Ac .u64 m.sig.path) 0 0 0 0 0 0 0 [] [] [] s.leaf s.chains.length (Ac .u64 s.chains) s.path.length (Ac .u64 s.path) (B7 (m.ents.take i)) =
   some ⟨[.agg ({ m with sig:=s }:Md).cells,At 0],[]⟩
 |_,_,0,_,h,_=>by omega
 |[],i,nn+1,hd,hn,hi=>by
  have hl:=drop_nil hd;have ei:i=m.ents.length:=by omega
  have eall:m.ents.take i=m.ents:=Gv (by omega);rw[eall];subst ei;have L:=Mf m.ents;have t:List.take (m.ents.length*3) (B7 m.ents)=B7 m.ents:=Gv (by omega);rw[Uj]
  repeat(with_reducible(first|apply Aj|apply Ad|apply Ah|apply Bb|apply Ba|apply Au|apply Ae|apply Ai|apply Ct);· first|constructor|(simp(disch:=omega)only[Cu,L,t,Cm,Es]<;>first|constructor|omega)|omega)
  try simp(disch:=omega)only[Aa,L,t,Cm,Es]
  all_goals rfl
 |x::rs,i,nn+1,hd,hn,hi=>by
  obtain⟨q1,q2,q3⟩:=Dc hd;simp only[G7] at hn;obtain⟨c0,c1,c2⟩:=mea q2;have c2':(B7 m.ents).getD (i*3+1+1) .top=.lst false 2 x.sts.length (Dn x.sts):=c2;have hx:=h4 x (List.mem_of_getElem? q2);have nt:Int.toNat (i:Int)=i:=H0 _;have w:wrap .i64 ((i:Int)+1)=((i+1:Nat):Int):=by rw[Ag (by omega) (by omega)];omega
  have et:m.ents.take (i+1)=m.ents.take i++[x]:=by rw[List.take_add_one,q2];rfl
  have cp:=Aul (fu:=fu) (d:=d) (x:=x) (by omega) (by omega);simp only[Me.cells] at cp;have lt:(m.ents.take i).length=i:=by rw[List.length_take];omega
  have L:(B7 (m.ents.take i)).length=i*3:=by rw[Mf,lt]
  have t:List.take (i*3) (B7 (m.ents.take i))=B7 (m.ents.take i):=Gv (by omega);have ea:=Yq (m.ents.take i) x;rw[<-et] at ea;have ih:=Amy (C7:=C7) (Ci:=Ci) (Dw:=Dw) (AH:=AH) (a1:=a1) (a2:=a2) (Ol:=Ol) (O6:=O6) (Oh:=Oh) (AJ:=AJ) (AD:=AD) (Zm:=Zm) (s:=s) h3 h4 rs (i+1) nn q3 (by omega) (by omega);rw[<-ih,Uj];generalize B7 (m.ents.take i)=E1 at *
  generalize B7 (m.ents.take (i+1))=E2 at *
  repeat(with_reducible(first|apply Aj|apply Ad|apply Ah|apply Bb|apply Ba|apply Au|apply Ae|apply Ai|apply Ct);· first|constructor|(simp(disch:=omega)only[Cu,nt,c0,c1,c2',cp,L,t,ea,w]<;>first|constructor|omega)|omega)
  try simp(disch:=omega)only[Aa,nt,c0,c1,c2',cp,L,t,ea,w]
  all_goals rfl
theorem Aw2(seed h leaf w:Int):Ar C0 prog fu (d+1) 36 [Af seed,At h,At leaf,Af w] =
  some ⟨[.agg [At (tkL h leaf),.lst false 1 (tkC seed h leaf w).length (Ac .u64 (tkC seed h leaf w)),.lst false 1 (tkP seed h leaf).length (Ac .u64 (tkP seed h leaf))],At (tkE h leaf)],[]⟩:=by kernel_rfl
theorem Axz(seed h leaf w:Int):(LH seed h leaf w=none/\tkE h leaf=9)\/(LH seed h leaf w=some ⟨tkL h leaf,tkC seed h leaf w,tkP seed h leaf⟩/\tkE h leaf=0):=by
 unfold LH tkE tkL tkC tkP UN;cases D1 h
 ·cases Js leaf h
  ·exact .inr ⟨rfl,rfl⟩
  ·exact .inl ⟨rfl,rfl⟩
 ·exact .inl ⟨rfl,rfl⟩
theorem Ahe{p:Option Int}:∀{l:List Me},(∀x∈l,C4 x=0)->∀x∈l,x.ans.length<=4/\x.sts.length<=4:=fun h x hx=>⟨(Pg (h x hx)).1,(Pg (h x hx)).2.1⟩
theorem Arq(Bn:20000<=fu)(hw:m.wf)(seed h:Int):Ar C0 prog fu (d+11) 16 [.agg m.cells,Af seed,At h]=some ⟨[.agg (Rx m seed h).1.cells,At (Rx m seed h).2],[]⟩:=by
 refine (RF fu (d+10) m.ver m.iss m.nxt m.ents.length (B7 m.ents) m.sig.leaf m.sig.chains.length (Ac .u64 m.sig.chains) m.sig.path.length (Ac .u64 m.sig.path) seed h).trans ?_;have bq:=Afh (fu:=fu) (d:=d) Bn hw;simp only[Md.cells] at bq;unfold ME at bq;unfold Rx;by_cases h0:Bu m=0
 ·rw[Bq h0] at bq;rw[Bq h0];have hv:=Kl h0;have e00:((0:Int) != 0)=false:=rfl;have e90:((9:Int) != 0)=true:=rfl;have w:wrap .i64 (m.ver-1)=m.ver-1:=Ag (by omega) (by omega);have tk:=Aw2 (fu:=fu) (d:=d+9) seed h (m.ver-1) (Vb m);have La:=Am .u64 (tkC seed h (m.ver-1) (Vb m));have Lb:=Am .u64 (tkP seed h (m.ver-1));rcases Axz seed h (m.ver-1) (Vb m) with⟨hs,he⟩|⟨hs,he⟩
  ·rw[hs];rw[he] at tk
   repeat(with_reducible(first|apply Aj|apply Ad|apply Ah|apply Bb|apply Ba|apply Au|apply Ae|apply Ai|apply Ct);· first|constructor|(simp(disch:=omega)only[Cu,bq,e00,e90,w,tk]<;>first|constructor|omega)|omega)
   try simp(disch:=omega)only[Aa,bq,e00,e90,w,tk]
   all_goals rfl
  ·rw[hs];rw[he] at tk;have sl:=Amy (fu:=fu) (d:=d+8) (m:=m) (C7:=m.ver) (Ci:=m.iss) (Dw:=m.nxt) (AH:=m.sig.leaf) (a1:=seed) (a2:=h) (Ol:=m.ents.length) (O6:=m.sig.chains.length) (Oh:=m.sig.path.length) (AJ:=B7 m.ents) (AD:=Ac .u64 m.sig.chains) (Zm:=Ac .u64 m.sig.path) (s:=⟨tkL h (m.ver-1),tkC seed h (m.ver-1) (Vb m),tkP seed h (m.ver-1)⟩) (by omega) (Ahe (p:=none) (Mh hv.2.2.2.2.2.2)) m.ents 0 fu rfl (by omega) (by omega);have ev:B7 (m.ents.take 0)=[]:=rfl;have z0:((0:Nat):Int)=0:=rfl;rw[ev,z0] at sl;simp only;rw[<-sl]
   repeat(with_reducible(first|apply Aj|apply Ad|apply Ah|apply Bb|apply Ba|apply Au|apply Ae|apply Ai|apply Ct);· first|constructor|(simp(disch:=omega)only[Cu,bq,e00,e90,w,tk]<;>first|constructor|omega)|omega)
   try simp(disch:=omega)only[Aa,bq,e00,e90,w,tk]
   all_goals rfl
 ·have Gz:(Bu m != 0)=true:=by simp[h0]
  rw[A5 h0] at bq;rw[A5 h0]
  repeat(with_reducible(first|apply Aj|apply Ad|apply Ah|apply Bb|apply Ba|apply Au|apply Ae|apply Ai|apply Ct);· first|constructor|(simp(disch:=omega)only[Cu,bq,Gz]<;>first|constructor|omega)|omega)
  try simp(disch:=omega)only[Aa,bq,Gz]
  all_goals rfl
end
section
variable {xs:FuncId->Option (Ab->Option D0)}(fu d:Nat)(call:Bp)
theorem DG(Z:ByteArray):Fn C0 fu d 95 [.sc (.string Z)] fun call=>A3 (decide ((↑(ByteArray.size Z):Int)<1)) (Bv [(9:Int)]) (A3 (decide ((↑(ByteArray.size Z):Int)>32)) (Bv [(9:Int)]) (Dm (call 126 [.sc (.string Z)]) fun a b=>Cg a fun a=>Aq b<|A3 (!a) (Bv [(6:Int)]) (Bv [(0:Int)]))):=by show _=_;kernel_rfl
def H8(Z:Int)(Y:Nat)(X:Ab)(W:Nat)(V:Ab)(U T:Nat)(S Q:Int)(P:Nat)(O:Ab)(N:Nat)(M L:Ab):Option D0:=Mg fu call 58 Tryz.f58 [.agg [Af Z,Ap 3 Y X,Ap 2 W V]] [.r,.r,.r,.l,.r,.l] U ⟨lk [(1,.ptr 1 0),(4,.view 4 3 0 T),(5,S)],B0 [(1,.st [Af Q,Ap 3 P O,Ap 2 N M]),(4,.ar false L)]⟩
def Gh(Z:Int)(Y:Nat)(X:Ab)(W:Nat)(V:Ab)(U T:Nat)(S Q:Int)(P:Nat)(O:Ab)(N:Nat)(M L:Ab):Option D0:=Mg fu call 58 Tryz.f58 [.agg [Af Z,Ap 3 Y X,Ap 2 W V]] [.r,.r,.r,.r,.r,.l,.r,.l] U ⟨lk [(1,.ptr 1 0),(4,.view 4 3 0 T),(9,S)],B0 [(1,.st [Af Q,Ap 3 P O,Ap 2 N M]),(4,.ar false L)]⟩
theorem Fo(T:Int)(S:Nat)(Q:Ab)(P:Nat)(O:Ab)(L Y:Nat)(Z N:Int)(X:Nat)(W:Ab)(V:Nat)(M U:Ab):H8 fu call T S Q P O (L+1) Y Z N X W V M U=(A3 (decide (Z<(↑X:Int))) (As (decide (0<=Z)&&decide (Z<(↑X:Int)))<|D8 (W.getD (Z.toNat*3+0) .top) fun a=>Na .i64 (call 95 [.sc (.string a)]) fun a=>A3 (a != 0) (Bv [.own 3 0 [],a]) (As (decide (0<=Z)&&decide (Z<(↑X:Int)))<|Be .i64 (W.getD (Z.toNat*3+1) .top) fun a=>Be .u64 (W.getD (Z.toNat*3+1+1) .top) fun b=>Dm (call 96 [.agg [a,Af b]]) fun a b=>Je 1 a fun a c=>Dk .i64 b fun b=>A3 (b != 0) (Bv [.own 3 0 [],b]) (Dm (call 56 [(2:Int)]) fun b e=>Dr b fun b=>C2 .i64 b fun b f=>C2 .u64 f fun f g=>Av g fun g h=>D8 g fun g=>Aq h<|Aq e<|As (decide (0<=Z)&&decide (Z<(↑X:Int)))<|D8 (W.getD (Z.toNat*3+0) .top) fun e=>Dm (call 97 [.sc (.string e)]) fun e h=>Dr e fun e=>C2 .i64 e fun e i=>C2 .u64 i fun i j=>Av j fun j k=>D8 j fun j=>Aq k<|Aq h<|As (decide (0+a*1<=c.length))<|Dm (call 98 [Ap 1 a (List.take (a*1) (c.drop 0))]) fun a c=>Dr a fun a=>C2 .i64 a fun a h=>C2 .u64 h fun h k=>Av k fun k m=>D8 k fun k=>Aq m<|Aq c<|As (decide (Y*3<=U.length)&&true&&decide ((Y+3)*32<=1099511627776)&&decide (Y+3<=1099511627776))<|Aa (Y+3) fun c=>Aa (List.take (Y*3) U++[At b,Af f,.sc (.string g),At e,Af i,.sc (.string j),At a,Af h,.sc (.string k)]) fun a=>Aa (wrap .i64 (Z+1)) fun b=>H8 fu call T S Q P O L c b N X W V M a))) (Dm (call 56 [(↑V:Int)]) fun a b=>Dr a fun a=>C2 .i64 a fun a c=>C2 .u64 c fun c e=>Av e fun e f=>D8 e fun e=>Aq f<|Aq b<|Og Y 3 32 U [a,Af c,.sc (.string e)] fun a b=>Gh fu call T S Q P O fu a 0 N X W V M b)):=by kernel_rfl
theorem He(U:Int)(T:Nat)(S:Ab)(Q:Nat)(P:Ab)(O Z:Nat)(Y N:Int)(M:Nat)(L:Ab)(W:Nat)(V X:Ab):Gh fu call U T S Q P (O+1) Z Y N M L W V X=(A3 (decide (Y<(↑W:Int))) (As (decide (0<=Y)&&decide (Y<(↑W:Int)))<|Be .i64 (V.getD (Y.toNat*2) .top) fun a=>Be .i64 (V.getD (Y.toNat*2+1) .top) fun b=>Dm (call 51 [a,(1:Int),(4:Int)]) fun c e=>Cg c fun c=>Aq e<|A3 (!c) (Bv [.own 3 0 [],(9:Int)]) (Dm (call 51 [b,(0:Int),(1099511627776:Int)]) fun c e=>Cg c fun c=>Aq e<|A3 (!c) (Bv [.own 3 0 [],(9:Int)]) (A3 (decide (Y>0)) (Aa (wrap .i64 (Y-1)) fun c=>As (decide (0<=c)&&decide (c<(↑W:Int)))<|Be .i64 (V.getD (c.toNat*2+1) .top) fun c=>A3 (decide (b<=c)) (Bv [.own 3 0 [],(7:Int)]) (Dm (call 56 [(2:Int)]) fun c e=>Dr c fun c=>C2 .i64 c fun c f=>C2 .u64 f fun f g=>Av g fun g h=>D8 g fun g=>Aq h<|Aq e<|Aa (wrap .u64 a) fun a=>Dm (call 57 [Af a]) fun a e=>Dr a fun a=>C2 .i64 a fun a h=>C2 .u64 h fun h i=>Av i fun i j=>D8 i fun i=>Aq j<|Aq e<|Aa (wrap .u64 b) fun b=>Dm (call 57 [Af b]) fun b e=>Dr b fun b=>C2 .i64 b fun b j=>C2 .u64 j fun j k=>Av k fun k m=>D8 k fun k=>Aq m<|Aq e<|As (decide (Z*3<=X.length)&&true&&decide ((Z+3)*32<=1099511627776)&&decide (Z+3<=1099511627776))<|Aa (Z+3) fun e=>Aa (List.take (Z*3) X++[At c,Af f,.sc (.string g),At a,Af h,.sc (.string i),At b,Af j,.sc (.string k)]) fun a=>Aa (wrap .i64 (Y+1)) fun b=>Gh fu call U T S Q P O e b N M L W V a)) (Dm (call 56 [(2:Int)]) fun c e=>Dr c fun c=>C2 .i64 c fun c f=>C2 .u64 f fun f g=>Av g fun g h=>D8 g fun g=>Aq h<|Aq e<|Aa (wrap .u64 a) fun a=>Dm (call 57 [Af a]) fun a e=>Dr a fun a=>C2 .i64 a fun a h=>C2 .u64 h fun h i=>Av i fun i j=>D8 i fun i=>Aq j<|Aq e<|Aa (wrap .u64 b) fun b=>Dm (call 57 [Af b]) fun b e=>Dr b fun b=>C2 .i64 b fun b j=>C2 .u64 j fun j k=>Av k fun k m=>D8 k fun k=>Aq m<|Aq e<|As (decide (Z*3<=X.length)&&true&&decide ((Z+3)*32<=1099511627776)&&decide (Z+3<=1099511627776))<|Aa (Z+3) fun e=>Aa (List.take (Z*3) X++[At c,Af f,.sc (.string g),At a,Af h,.sc (.string i),At b,Af j,.sc (.string k)]) fun a=>Aa (wrap .i64 (Y+1)) fun b=>Gh fu call U T S Q P O e b N M L W V a)))) (As (decide (Z*3<=X.length))<|Bv [.own 3 Z (X.take (Z*3)),(0:Int)])):=by kernel_rfl
theorem CV(Y:Int)(Z:Nat)(W:Ab)(X:Nat)(V:Ab):Fn C0 fu d 58 [.agg [Af Y,Ap 3 Z W,Ap 2 X V]] fun call=>A3 (decide ((↑Z:Int)>4)) (Bv [.own 3 0 [],(8:Int)]) (A3 (decide ((↑X:Int)>4)) (Bv [.own 3 0 [],(8:Int)]) (Dm (call 56 [(3:Int)]) fun a b=>Dr a fun a=>C2 .i64 a fun a c=>C2 .u64 c fun c e=>Av e fun e f=>D8 e fun e=>Aq f<|Aq b<|Dm (call 57 [Af Y]) fun b f=>Dr b fun b=>C2 .i64 b fun b g=>C2 .u64 g fun g h=>Av h fun h i=>D8 h fun h=>Aq i<|Aq f<|Dm (call 56 [(↑Z:Int)]) fun f i=>Dr f fun f=>C2 .i64 f fun f j=>C2 .u64 j fun j k=>Av k fun k m=>D8 k fun k=>Aq m<|Aq i<|H8 fu call Y Z W X V fu 3 0 Y Z W X V ([a,Af c,.sc (.string e),b,Af g,.sc (.string h),f,Af j,.sc (.string k)]))):=by show _=_;kernel_rfl
def Fe(Z Y X:Int)(W:Nat)(V:Ab)(U:Int)(T:Nat)(S:Ab)(Q:Nat)(P:Ab)(O N:Nat)(M L:Int)(K J:Int)(I:Nat)(H:Ab)(G:Int)(E:Nat)(D:Ab)(B:Nat)(A z:Ab):Option D0:=Mg fu call 31 Tryz.f31 [.agg [Z,Y,X,Ap 3 W V,U,Ap 1 T S,Ap 1 Q P]] [.r,.r,.r,.l,.r,.l] O ⟨lk [(1,.ptr 1 0),(4,.view 4 3 0 N),(5,M)],B0 [(1,.st [L,K,J,Ap 3 I H,G,Ap 1 E D,Ap 1 B A]),(4,.ar false z)]⟩
theorem K9(U T S:Int)(Q:Nat)(P:Ab)(O:Int)(N:Nat)(M:Ab)(L:Nat)(K:Ab)(J Y:Nat)(Z I:Int)(H G:Int)(W:Nat)(X:Ab)(E:Int)(D:Nat)(B:Ab)(A:Nat)(z V:Ab):Fe fu call U T S Q P O N M L K (J+1) Y Z I H G W X E D B A z V=(A3 (decide (Z<(↑W:Int))) (A3 (decide (Z>0)) (As (decide (0<=Z)&&decide (Z<(↑W:Int)))<|Be .u64 (X.getD (Z.toNat*3+0) .top) fun a=>Aa (wrap .i64 (Z-1)) fun b=>As (decide (0<=b)&&decide (b<(↑W:Int)))<|Be .u64 (X.getD (b.toNat*3+0) .top) fun b=>A3 (decide (a<=b)) (Bv [.own 1 0 [],(7:Int)]) (As (decide (0<=Z)&&decide (Z<(↑W:Int)))<|Be .u64 (X.getD (Z.toNat*3) .top) fun a=>Pq 3 (X.getD (Z.toNat*3+1) .top) fun b c e=>Pq 2 (X.getD (Z.toNat*3+1+1) .top) fun b f g=>Dm (call 58 [.agg [Af a,Ap 3 c e,Ap 2 f g]]) fun a b=>Je 3 a fun a c=>Dk .i64 b fun b=>A3 (b != 0) (Bv [.own 1 0 [],b]) (As (decide (0+a*3<=c.length))<|As (decide (Y*3<=V.length)&&decide (List.length (List.take (a*3) (c.drop 0))=a*3)&&decide ((Y+a)*32<=1099511627776)&&decide (Y+a<=1099511627776))<|Aa (Y+a) fun b=>Aa (List.take (Y*3) V++List.take (a*3) (c.drop 0)) fun a=>Aa (wrap .i64 (Z+1)) fun c=>Fe fu call U T S Q P O N M L K J b c I H G W X E D B A z a))) (As (decide (0<=Z)&&decide (Z<(↑W:Int)))<|Be .u64 (X.getD (Z.toNat*3) .top) fun a=>Pq 3 (X.getD (Z.toNat*3+1) .top) fun b c e=>Pq 2 (X.getD (Z.toNat*3+1+1) .top) fun b f g=>Dm (call 58 [.agg [Af a,Ap 3 c e,Ap 2 f g]]) fun a b=>Je 3 a fun a c=>Dk .i64 b fun b=>A3 (b != 0) (Bv [.own 1 0 [],b]) (As (decide (0+a*3<=c.length))<|As (decide (Y*3<=V.length)&&decide (List.length (List.take (a*3) (c.drop 0))=a*3)&&decide ((Y+a)*32<=1099511627776)&&decide (Y+a<=1099511627776))<|Aa (Y+a) fun b=>Aa (List.take (Y*3) V++List.take (a*3) (c.drop 0)) fun a=>Aa (wrap .i64 (Z+1)) fun c=>Fe fu call U T S Q P O N M L K J b c I H G W X E D B A z a))) (As (decide (0+Y*3<=V.length))<|Dm (call 59 [Ap 3 Y (List.take (Y*3) (V.drop 0))]) fun a b=>Je 1 a fun a c=>Aq b<|As (decide (a*1<=c.length))<|Bv [.own 1 a (c.take (a*1)),(0:Int)])):=by kernel_rfl
theorem Y2(X Z Y:Int)(W:Nat)(V:Ab)(U:Int)(T:Nat)(S:Ab)(Q:Nat)(P:Ab):Fn C0 fu d 31 [.agg [X,Z,Y,Ap 3 W V,U,Ap 1 T S,Ap 1 Q P]] fun call=>Dm (call 51 [X,(1:Int),(16:Int)]) fun a b=>Cg a fun a=>Aq b<|A3 (!a) (Bv [.own 1 0 [],(9:Int)]) (A3 (decide (Z<0)) (Bv [.own 1 0 [],(9:Int)]) (A3 (decide (Y<Z)) (Bv [.own 1 0 [],(9:Int)]) (A3 (decide (Y>1099511627776)) (Bv [.own 1 0 [],(9:Int)]) (A3 (decide ((↑W:Int)>16)) (Bv [.own 1 0 [],(8:Int)]) (Dm (call 56 [(4:Int)]) fun a b=>Dr a fun a=>C2 .i64 a fun a c=>C2 .u64 c fun c e=>Av e fun e f=>D8 e fun e=>Aq f<|Aq b<|Aa (wrap .u64 X) fun b=>Dm (call 57 [Af b]) fun b f=>Dr b fun b=>C2 .i64 b fun b g=>C2 .u64 g fun g h=>Av h fun h i=>D8 h fun h=>Aq i<|Aq f<|Aa (wrap .u64 Z) fun f=>Dm (call 57 [Af f]) fun f i=>Dr f fun f=>C2 .i64 f fun f j=>C2 .u64 j fun j k=>Av k fun k m=>D8 k fun k=>Aq m<|Aq i<|Aa (wrap .u64 Y) fun i=>Dm (call 57 [Af i]) fun i m=>Dr i fun i=>C2 .i64 i fun i n=>C2 .u64 n fun n o=>Av o fun o p=>D8 o fun o=>Aq p<|Aq m<|Dm (call 56 [(↑W:Int)]) fun m p=>Dr m fun m=>C2 .i64 m fun m q=>C2 .u64 q fun q s=>Av s fun s t=>D8 s fun s=>Aq t<|Aq p<|Fe fu call X Z Y W V U T S Q P fu 5 0 X Z Y W V U T S Q P ([a,Af c,.sc (.string e),b,Af g,.sc (.string h),f,Af j,.sc (.string k),i,Af n,.sc (.string o),m,Af q,.sc (.string s)])))))):=by show _=_;kernel_rfl
theorem Za(Z Y X:Int)(W:Nat)(V:Ab)(U:Int)(T:Nat)(S:Ab)(Q:Nat)(P:Ab)(O N:Int):Fn C0 fu d 12 [.agg [Z,Y,X,Ap 3 W V,U,Ap 1 T S,Ap 1 Q P],Af O,N] fun call=>Dm (call 31 [.agg [Z,Y,X,Ap 3 W V,U,Ap 1 T S,Ap 1 Q P]]) fun a b=>Je 1 a fun a c=>Dk .i64 b fun b=>A3 (b != 0) (Bv [.agg [(0:Int),(0:Int),(0:Int),Ap 3 0 [],(0:Int),Ap 1 0 [],Ap 1 0 []],b]) (Aa (wrap .i64 (Z-1)) fun b=>As (decide (0+a*1<=c.length))<|Na .u64 (call 33 [(15:Int),Ap 1 a (List.take (a*1) (c.drop 0))]) fun a=>Dm (call 32 [Af O,N,b,Af a]) fun a b=>Dr a fun a=>C2 .i64 a fun a c=>Tz 1 c fun c e f=>Tz 1 f fun f g h=>Aq h<|Dk .i64 b fun b=>A3 (b != 0) (Bv [.agg [(0:Int),(0:Int),(0:Int),Ap 3 0 [],(0:Int),Ap 1 0 [],Ap 1 0 []],b]) (As (decide (0+c*1<=e.length))<|As (decide (0+f*1<=g.length))<|Bv [.agg [Z,Y,X,Ap 3 W V,a,Ap 1 c (List.take (c*1) (e.drop 0)),Ap 1 f (List.take (f*1) (g.drop 0))],(0:Int)])):=by show _=_;kernel_rfl
theorem V5(U T S:Int)(Q:Nat)(P:Ab)(Z:Int)(Y:Nat)(X:Ab)(W:Nat)(V:Ab):Fn C0 fu d 21 [.agg [U,T,S,Ap 3 Q P,Z,Ap 1 Y X,Ap 1 W V]] fun call=>Dm (call 31 [.agg [U,T,S,Ap 3 Q P,Z,Ap 1 Y X,Ap 1 W V]]) fun a b=>Je 1 a fun a c=>Dk .i64 b fun b=>A3 (b != 0) (Bv [.own 1 0 [],b]) (Dm (call 42 [.agg [Z,Ap 1 Y X,Ap 1 W V]]) fun b e=>Je 1 b fun b f=>Dk .i64 e fun e=>A3 (e != 0) (Bv [.own 1 0 [],e]) (As (decide (0+b*1<=f.length))<|As (decide (a*1<=c.length)&&decide (List.length (List.take (b*1) (f.drop 0))=b*1)&&decide ((a+b)*1<=1099511627776)&&decide (a+b<=1099511627776))<|Aa (a+b) fun e=>Aa (List.take (a*1) c++List.take (b*1) (f.drop 0)) fun a=>As (decide (e*1<=a.length))<|Bv [.own 1 e (a.take (e*1)),(0:Int)])):=by show _=_;kernel_rfl
theorem Vi(X:Nat)(Z:Ab)(Y:Int)(W:Bool)(V:Int):Fn C0 fu d 118 [.pbox [Ap 3 X Z,Y,.sc (.bool W)],V] fun call=>A3 (decide (Y>=(↑X:Int))) (some ⟨[.agg [(0:Int),Af 0,.sc (.string (ByteArray.mk #[]))]],[[Ap 3 X Z,Y,.sc (.bool true)]]⟩) (As (decide (0<=Y)&&decide (Y<(↑X:Int)))<|Be .i64 (Z.getD (Y.toNat*3+0) .top) fun a=>A3 (a != V) (some ⟨[.agg [(0:Int),Af 0,.sc (.string (ByteArray.mk #[]))]],[[Ap 3 X Z,Y,.sc (.bool true)]]⟩) (Aa (wrap .i64 (Y+1)) fun a=>Aa (wrap .i64 (a-1)) fun b=>As (decide (0<=b)&&decide (b<(↑X:Int)))<|Be .i64 (Z.getD (b.toNat*3) .top) fun c=>Be .u64 (Z.getD (b.toNat*3+1) .top) fun e=>D8 (Z.getD (b.toNat*3+1+1) .top) fun b=>some ⟨[.agg [c,Af e,.sc (.string b)]],[[Ap 3 X Z,a,.sc (.bool W)]]⟩)):=by show _=_;kernel_rfl
theorem V6(Z:Nat)(Y:Ab)(X:Int)(W:Bool)(V:Int):Fn C0 fu d 82 [.pbox [Ap 3 Z Y,X,.sc (.bool W)],Af V] fun call=>Bk (call 118 [.pbox [Ap 3 Z Y,X,.sc (.bool W)],(1:Int)]) fun a b=>Av a fun a c=>Dr a fun a=>C2 .i64 a fun a e=>C2 .u64 e fun a e=>Av e fun e f=>D8 e fun e=>Aq f<|Aq c<|Av b fun b c=>Hw 3 b fun b e f=>C2 .i64 f fun f g=>V1 g fun g=>Aq c<|A3 (decide (a>V)) (some ⟨[(0:Int)],[[Ap 3 b e,f,.sc (.bool true)]]⟩) (Aa (wrap .i64 a) fun a=>some ⟨[a],[[Ap 3 b e,f,.sc (.bool g)]]⟩):=by show _=_;kernel_rfl
theorem Up(Z:Nat)(Y:Ab)(X:Int)(W:Bool)(V:Int):Fn C0 fu d 81 [.pbox [Ap 3 Z Y,X,.sc (.bool W)],V] fun call=>Bk (call 118 [.pbox [Ap 3 Z Y,X,.sc (.bool W)],(5:Int)]) fun a b=>Av a fun a c=>Dr a fun a=>C2 .i64 a fun a e=>C2 .u64 e fun a e=>Av e fun e f=>D8 e fun e=>Aq f<|Aq c<|Av b fun b c=>Hw 3 b fun b e f=>C2 .i64 f fun f g=>V1 g fun g=>Aq c<|Aa (wrap .u64 V) fun c=>A3 (decide (a>c)) (some ⟨[(0:Int)],[[Ap 3 b e,f,.sc (.bool true)]]⟩) (Aa (wrap .i64 a) fun a=>some ⟨[a],[[Ap 3 b e,f,.sc (.bool g)]]⟩):=by show _=_;kernel_rfl
def Ei(Z:Nat)(Y:Ab)(X:Int)(W:Bool)(V:Nat)(U:Int)(T:Nat)(S:Ab)(Q:Int)(P:Bool)(O:Int)(N M:Nat)(L K:Ab)(J:Int)(I H:Nat)(G E:Ab):Option D0:=Mg fu call 83 Tryz.f83 [.pbox [Ap 3 Z Y,X,.sc (.bool W)]] [.r,.r,.r,.l,.r,.l] V ⟨lk [(0,.ptr 180000 0),(2,.ptr 2 0),(3,.ptr 3 0),(4,U)],B0 [(180000,.st [Ap 3 T S,Q,.sc (.bool P)]),(2,.st [Af O,.view 182 3 0 N,.view 272 2 0 M]),(182,.ar false L),(272,.ar false K),(3,.st [Af J,.view 183 3 0 I,.view 273 2 0 H]),(183,.ar false G),(273,.ar false E)]⟩
def Dg(Z:Nat)(Y:Ab)(X:Int)(W:Bool)(V:Nat)(U:Int)(T:Nat)(S:Ab)(Q:Int)(P:Bool)(O:Int)(N M:Nat)(L K:Ab)(J:Int)(I H:Nat)(G E:Ab):Option D0:=Mg fu call 83 Tryz.f83 [.pbox [Ap 3 Z Y,X,.sc (.bool W)]] [.r,.r,.r,.r,.l,.r,.l] V ⟨lk [(0,.ptr 180000 0),(2,.ptr 2 0),(3,.ptr 3 0),(8,U)],B0 [(180000,.st [Ap 3 T S,Q,.sc (.bool P)]),(2,.st [Af O,.view 182 3 0 N,.view 272 2 0 M]),(182,.ar false L),(272,.ar false K),(3,.st [Af J,.view 183 3 0 I,.view 273 2 0 H]),(183,.ar false G),(273,.ar false E)]⟩
theorem Q1(Z:Nat)(Y:Ab)(X:Int)(W:Bool)(E:Nat)(J:Int)(I:Nat)(H:Ab)(G:Int)(V:Bool)(U:Int)(T S:Nat)(Q P:Ab)(O:Int)(N M:Nat)(L K:Ab):Ei fu call Z Y X W (E+1) J I H G V U T S Q P O N M L K=(A3 (decide (J>0)) (A3 (!V) (Bk (call 81 [.pbox [Ap 3 I H,G,.sc (.bool V)],(2:Int)]) fun a b=>Dk .i64 a fun a=>Av b fun a b=>Hw 3 a fun a c e=>C2 .i64 e fun e f=>V1 f fun f=>Aq b<|Bk (call 118 [.pbox [Ap 3 a c,e,.sc (.bool f)],(4:Int)]) fun a b=>Av a fun a c=>Dr a fun a=>C2 .i64 a fun a e=>C2 .u64 e fun a e=>Av e fun a e=>D8 a fun a=>Aq e<|Aq c<|Av b fun b c=>Hw 3 b fun b e f=>C2 .i64 f fun f g=>V1 g fun g=>Aq c<|Bk (call 118 [.pbox [Ap 3 b e,f,.sc (.bool g)],(3:Int)]) fun b c=>Av b fun b e=>Dr b fun b=>C2 .i64 b fun b f=>C2 .u64 f fun b f=>Av f fun b f=>D8 b fun b=>Aq f<|Aq e<|Av c fun c e=>Hw 3 c fun c f g=>C2 .i64 g fun g h=>V1 h fun h=>Aq e<|As (decide (ByteArray.size b<=1099511627776))<|As (decide (0+ByteArray.size b*1<=List.length (El b)))<|Dm (call 119 [Ap 1 (ByteArray.size b) (List.take (ByteArray.size b*1) (List.drop 0 (El b)))]) fun b e=>Dr b fun b=>C2 .i64 b fun b i=>Dk .u64 i fun i=>Dk .i64 e fun e=>A3 h (Og N 3 32 L [.sc (.string a),b,Af i] fun a b=>Aa (wrap .i64 (J-1)) fun e=>Ei fu call Z Y X W E e c f g true U T S Q P O a M b K) (Og N 3 32 L [.sc (.string a),b,Af i] fun a b=>Aa (wrap .i64 (J-1)) fun h=>Ei fu call Z Y X W E h c f g (e != 0) U T S Q P O a M b K)) (Bk (call 81 [.pbox [Ap 3 I H,G,.sc (.bool V)],(4:Int)]) fun a b=>Dk .i64 a fun a=>Av b fun b c=>Hw 3 b fun b e f=>C2 .i64 f fun f g=>V1 g fun g=>Aq c<|Dg fu call Z Y X W fu a b e f g U T S Q P O N M L K)) (Bk (call 81 [.pbox [Ap 3 I H,G,.sc (.bool V)],(4:Int)]) fun a b=>Dk .i64 a fun a=>Av b fun b c=>Hw 3 b fun b e f=>C2 .i64 f fun f g=>V1 g fun g=>Aq c<|Dg fu call Z Y X W fu a b e f g U T S Q P O N M L K)):=by kernel_rfl
theorem Qe(O:Nat)(N:Ab)(M:Int)(L:Bool)(K:Nat)(P:Int)(U:Nat)(T:Ab)(S:Int)(V:Bool)(J:Int)(I H:Nat)(G E:Ab)(Q:Int)(Z Y:Nat)(X W:Ab):Dg fu call O N M L (K+1) P U T S V J I H G E Q Z Y X W=(A3 (decide (P>0)) (A3 (!V) (Bk (call 81 [.pbox [Ap 3 U T,S,.sc (.bool V)],(2:Int)]) fun a b=>Dk .i64 a fun a=>Av b fun a b=>Hw 3 a fun a c e=>C2 .i64 e fun e f=>V1 f fun f=>Aq b<|Bk (call 82 [.pbox [Ap 3 a c,e,.sc (.bool f)],Af 4]) fun a b=>Dk .i64 a fun a=>Av b fun b c=>Hw 3 b fun b e f=>C2 .i64 f fun f g=>V1 g fun g=>Aq c<|Bk (call 82 [.pbox [Ap 3 b e,f,.sc (.bool g)],Af 1099511627776]) fun b c=>Dk .i64 b fun b=>Av c fun c e=>Hw 3 c fun c f g=>C2 .i64 g fun g h=>V1 h fun h=>Aq e<|Og Y 2 16 W [a,b] fun a b=>Aa (wrap .i64 (P-1)) fun e=>Dg fu call O N M L K e c f g h J I H G E Q Z a X b) (As (decide (0+Z*3<=X.length))<|As (decide (0+Y*2<=W.length))<|some ⟨[.agg [Af Q,Ap 3 Z (List.take (Z*3) (X.drop 0)),Ap 2 Y (List.take (Y*2) (W.drop 0))]],[[Ap 3 U T,S,.sc (.bool V)]]⟩)) (As (decide (0+Z*3<=X.length))<|As (decide (0+Y*2<=W.length))<|some ⟨[.agg [Af Q,Ap 3 Z (List.take (Z*3) (X.drop 0)),Ap 2 Y (List.take (Y*2) (W.drop 0))]],[[Ap 3 U T,S,.sc (.bool V)]]⟩)):=by kernel_rfl
theorem Ts(Z:Nat)(Y:Ab)(X:Int)(W:Bool):Fn C0 fu d 83 [.pbox [Ap 3 Z Y,X,.sc (.bool W)]] fun call=>Bk (call 81 [.pbox [Ap 3 Z Y,X,.sc (.bool W)],(3:Int)]) fun a b=>Dk .i64 a fun a=>Av b fun a b=>Hw 3 a fun a c e=>C2 .i64 e fun e f=>V1 f fun f=>Aq b<|Bk (call 118 [.pbox [Ap 3 a c,e,.sc (.bool f)],(1:Int)]) fun a b=>Av a fun a c=>Dr a fun a=>C2 .i64 a fun a e=>C2 .u64 e fun a e=>Av e fun e f=>D8 e fun e=>Aq f<|Aq c<|Av b fun b c=>Hw 3 b fun b e f=>C2 .i64 f fun f g=>V1 g fun g=>Aq c<|Bk (call 81 [.pbox [Ap 3 b e,f,.sc (.bool g)],(4:Int)]) fun b c=>Dk .i64 b fun b=>Av c fun c e=>Hw 3 c fun c f g=>C2 .i64 g fun g h=>V1 h fun h=>Aq e<|Ei fu call Z Y X W fu b c f g h 0 0 0 ([]) ([]) a 0 0 ([]) ([]):=by show _=_;kernel_rfl
def Dv(Z:Nat)(Y:Ab)(X W:Nat)(V:Ab)(U T:Int)(S Q P:Int)(O:Nat)(N:Int)(M L:Nat)(K J I:Ab)(H:Nat)(G:Ab)(E:Int)(D:Bool)(B A z:Int)(w:Nat)(v:Int)(u t:Nat)(y25 y26 y27:Ab):Option D0:=Mg fu call 43 Tryz.f43 [Ap 1 Z Y] [.r,.r,.r,.r,.r,.r,.r,.r,.r,.r,.l,.r,.l] X ⟨lk [(0,Ap 1 W V),(2,.ptr 2 0),(5,U),(7,.ptr 7 0),(8,.ptr 8 0),(9,T)],B0 [(2,.st [S,Q,P,.view 374 3 0 O,N,.view 560 1 0 M,.view 653 1 0 L]),(374,.ar false K),(560,.ar false J),(653,.ar false I),(7,.st [Ap 3 H G,E,.sc (.bool D)]),(8,.st [B,A,z,.view 380 3 0 w,v,.view 566 1 0 u,.view 659 1 0 t]),(380,.ar false y25),(566,.ar false y26),(659,.ar false y27)]⟩
theorem Hi(O:Nat)(N:Ab)(M Y:Nat)(V:Ab)(X P:Int)(L K J:Int)(I:Nat)(H:Int)(G E:Nat)(D B A:Ab)(z:Nat)(w:Ab)(v:Int)(Q:Bool)(U T S:Int)(Z:Nat)(u:Int)(t y24:Nat)(W y26 y27:Ab):Dv fu call O N (M+1) Y V X P L K J I H G E D B A z w v Q U T S Z u t y24 W y26 y27=(A3 (decide (P>0)) (A3 (!Q) (Bk (call 83 [.pbox [Ap 3 z w,v,.sc (.bool Q)]]) fun a b=>Av a fun a c=>Dr a fun a=>C2 .u64 a fun a e=>Hw 3 e fun e f g=>Hw 2 g fun g h i=>Aq i<|Aq c<|Av b fun b c=>Hw 3 b fun b i j=>C2 .i64 j fun j k=>V1 k fun k=>Aq c<|Og Z 3 56 W [Af a,Ap 3 e f,Ap 2 g h] fun a c=>Aa (wrap .i64 (P-1)) fun e=>Dv fu call O N M Y V X e L K J I H G E D B A b i j k U T S a u t y24 c y26 y27) (As (decide (0<=X))<|As (decide (X.toNat<=Y)&&decide (Y<=Y))<|Aa (Y-X.toNat) fun a=>Aa (List.take (a*1) (V.drop (X.toNat*1))) fun b=>Dm (call 84 [Ap 1 a b]) fun a b=>Dr a fun a=>C2 .i64 a fun a c=>Tz 1 c fun c e f=>Tz 1 f fun f g h=>Aq h<|Dk .i64 b fun b=>A3 Q (Bv [.agg [(0:Int),(0:Int),(0:Int),Ap 3 0 [],(0:Int),Ap 1 0 [],Ap 1 0 []],(2:Int)]) (A3 (b != 0) (Bv [.agg [(0:Int),(0:Int),(0:Int),Ap 3 0 [],(0:Int),Ap 1 0 [],Ap 1 0 []],(2:Int)]) (As (decide (0+Z*3<=W.length))<|As (decide (0+c*1<=e.length))<|As (decide (0+f*1<=g.length))<|Dm (call 21 [.agg [U,T,S,Ap 3 Z (List.take (Z*3) (W.drop 0)),a,Ap 1 c (List.take (c*1) (e.drop 0)),Ap 1 f (List.take (f*1) (g.drop 0))]]) fun b h=>Je 1 b fun b i=>Dk .i64 h fun h=>A3 (h != 0) (Bv [.agg [(0:Int),(0:Int),(0:Int),Ap 3 0 [],(0:Int),Ap 1 0 [],Ap 1 0 []],(2:Int)]) (As (decide (0+b*1<=i.length))<|As (decide (List.length (List.take (b*1) (i.drop 0))=b))<|F3 (bytesOf (List.take (b*1) (i.drop 0))) fun b=>As (decide (V.length=Y))<|F3 (bytesOf V) fun h=>A3 (!Array.toList (ByteArray.data (ByteArray.mk (List.toArray b)))==Array.toList (ByteArray.data (ByteArray.mk (List.toArray h)))) (Bv [.agg [(0:Int),(0:Int),(0:Int),Ap 3 0 [],(0:Int),Ap 1 0 [],Ap 1 0 []],(2:Int)]) (As (decide (0+Z*3<=W.length))<|As (decide (0+c*1<=e.length))<|As (decide (0+f*1<=g.length))<|Bv [.agg [U,T,S,Ap 3 Z (List.take (Z*3) (W.drop 0)),a,Ap 1 c (List.take (c*1) (e.drop 0)),Ap 1 f (List.take (f*1) (g.drop 0))],(0:Int)])))))) (As (decide (0<=X))<|As (decide (X.toNat<=Y)&&decide (Y<=Y))<|Aa (Y-X.toNat) fun a=>Aa (List.take (a*1) (V.drop (X.toNat*1))) fun b=>Dm (call 84 [Ap 1 a b]) fun a b=>Dr a fun a=>C2 .i64 a fun a c=>Tz 1 c fun c e f=>Tz 1 f fun f g h=>Aq h<|Dk .i64 b fun b=>A3 Q (Bv [.agg [(0:Int),(0:Int),(0:Int),Ap 3 0 [],(0:Int),Ap 1 0 [],Ap 1 0 []],(2:Int)]) (A3 (b != 0) (Bv [.agg [(0:Int),(0:Int),(0:Int),Ap 3 0 [],(0:Int),Ap 1 0 [],Ap 1 0 []],(2:Int)]) (As (decide (0+Z*3<=W.length))<|As (decide (0+c*1<=e.length))<|As (decide (0+f*1<=g.length))<|Dm (call 21 [.agg [U,T,S,Ap 3 Z (List.take (Z*3) (W.drop 0)),a,Ap 1 c (List.take (c*1) (e.drop 0)),Ap 1 f (List.take (f*1) (g.drop 0))]]) fun b h=>Je 1 b fun b i=>Dk .i64 h fun h=>A3 (h != 0) (Bv [.agg [(0:Int),(0:Int),(0:Int),Ap 3 0 [],(0:Int),Ap 1 0 [],Ap 1 0 []],(2:Int)]) (As (decide (0+b*1<=i.length))<|As (decide (List.length (List.take (b*1) (i.drop 0))=b))<|F3 (bytesOf (List.take (b*1) (i.drop 0))) fun b=>As (decide (V.length=Y))<|F3 (bytesOf V) fun h=>A3 (!Array.toList (ByteArray.data (ByteArray.mk (List.toArray b)))==Array.toList (ByteArray.data (ByteArray.mk (List.toArray h)))) (Bv [.agg [(0:Int),(0:Int),(0:Int),Ap 3 0 [],(0:Int),Ap 1 0 [],Ap 1 0 []],(2:Int)]) (As (decide (0+Z*3<=W.length))<|As (decide (0+c*1<=e.length))<|As (decide (0+f*1<=g.length))<|Bv [.agg [U,T,S,Ap 3 Z (List.take (Z*3) (W.drop 0)),a,Ap 1 c (List.take (c*1) (e.drop 0)),Ap 1 f (List.take (f*1) (g.drop 0))],(0:Int)])))))):=by kernel_rfl
theorem Vz(Z:Nat)(Y:Ab):Fn C0 fu d 43 [Ap 1 Z Y] fun call=>A3 (decide ((↑Z:Int)>4096)) (Bv [.agg [(0:Int),(0:Int),(0:Int),Ap 3 0 [],(0:Int),Ap 1 0 [],Ap 1 0 []],(8:Int)]) (Dm (call 80 [Ap 1 Z Y]) fun a b=>Je 3 a fun a c=>C2 .i64 b fun b e=>Dk .i64 e fun e=>A3 (e != 0) (Bv [.agg [(0:Int),(0:Int),(0:Int),Ap 3 0 [],(0:Int),Ap 1 0 [],Ap 1 0 []],(2:Int)]) (As (decide (0+a*3<=c.length))<|Bk (call 81 [.pbox [Ap 3 a (List.take (a*3) (c.drop 0)),(0:Int),.sc (.bool false)],(4:Int)]) fun a c=>Dk .i64 a fun a=>Av c fun a c=>Hw 3 a fun a e f=>C2 .i64 f fun f g=>V1 g fun g=>Aq c<|Bk (call 82 [.pbox [Ap 3 a e,f,.sc (.bool g)],Af 16]) fun a c=>Dk .i64 a fun a=>Av c fun c e=>Hw 3 c fun c f g=>C2 .i64 g fun g h=>V1 h fun h=>Aq e<|Bk (call 82 [.pbox [Ap 3 c f,g,.sc (.bool h)],Af 1099511627776]) fun c e=>Dk .i64 c fun c=>Av e fun e f=>Hw 3 e fun e g h=>C2 .i64 h fun h i=>V1 i fun i=>Aq f<|Bk (call 82 [.pbox [Ap 3 e g,h,.sc (.bool i)],Af 1099511627776]) fun e f=>Dk .i64 e fun e=>Av f fun f g=>Hw 3 f fun f h i=>C2 .i64 i fun i j=>V1 j fun j=>Aq g<|Bk (call 81 [.pbox [Ap 3 f h,i,.sc (.bool j)],(16:Int)]) fun f g=>Dk .i64 f fun f=>Av g fun g h=>Hw 3 g fun g i j=>C2 .i64 j fun j k=>V1 k fun k=>Aq h<|Dv fu call Z Y fu Z Y b f 0 0 0 0 0 0 0 ([]) ([]) ([]) g i j k a c e 0 0 0 0 ([]) ([]) ([]))):=by show _=_;kernel_rfl
def Gf(Z:Int)(Y:Nat)(X:Ab)(W:Nat)(V:Ab)(U:Int)(T:Nat)(S:Ab)(Q:Nat)(P:Ab)(O:Nat)(N M:Int)(L:Nat)(K:Ab)(J:Nat)(I:Ab)(H:Int)(G:Nat)(E:Ab)(D:Nat)(B:Ab):Option D0:=Mg fu call 73 Tryz.f73 [.agg [Af Z,Ap 3 Y X,Ap 2 W V],.agg [Af U,Ap 3 T S,Ap 2 Q P]] [.r,.r,.l,.r,.l] O ⟨lk [(2,.ptr 2 0),(3,.ptr 3 0),(5,N)],B0 [(2,.st [Af M,Ap 3 L K,Ap 2 J I]),(3,.st [Af H,Ap 3 G E,Ap 2 D B])]⟩
def Gg(Z:Int)(Y:Nat)(X:Ab)(W:Nat)(V:Ab)(U:Int)(T:Nat)(S:Ab)(Q:Nat)(P:Ab)(O:Nat)(N M:Int)(L:Nat)(K:Ab)(J:Nat)(I:Ab)(H:Int)(G:Nat)(E:Ab)(D:Nat)(B:Ab):Option D0:=Mg fu call 73 Tryz.f73 [.agg [Af Z,Ap 3 Y X,Ap 2 W V],.agg [Af U,Ap 3 T S,Ap 2 Q P]] [.r,.r,.r,.l,.r,.l] O ⟨lk [(2,.ptr 2 0),(3,.ptr 3 0),(6,N)],B0 [(2,.st [Af M,Ap 3 L K,Ap 2 J I]),(3,.st [Af H,Ap 3 G E,Ap 2 D B])]⟩
theorem Kq(U:Int)(T:Nat)(S:Ab)(Q:Nat)(P:Ab)(O:Int)(N:Nat)(M:Ab)(L:Nat)(K:Ab)(B:Nat)(Z J:Int)(W:Nat)(Y:Ab)(I:Nat)(H:Ab)(G:Int)(V:Nat)(X:Ab)(E:Nat)(D:Ab):Gf fu call U T S Q P O N M L K (B+1) Z J W Y I H G V X E D=(A3 (decide (Z<(↑W:Int))) (As (decide (0<=Z)&&decide (Z<(↑W:Int)))<|D8 (Y.getD (Z.toNat*3) .top) fun a=>Be .i64 (Y.getD (Z.toNat*3+1) .top) fun b=>Be .u64 (Y.getD (Z.toNat*3+1+1) .top) fun c=>As (decide (0<=Z)&&decide (Z<(↑V:Int)))<|D8 (X.getD (Z.toNat*3) .top) fun e=>Be .i64 (X.getD (Z.toNat*3+1) .top) fun f=>Be .u64 (X.getD (Z.toNat*3+1+1) .top) fun g=>A3 (!(a==e&&(b==f&&(c==g&&true)))) (Bv [.sc (.bool false)]) (Aa (wrap .i64 (Z+1)) fun a=>Gf fu call U T S Q P O N M L K B a J W Y I H G V X E D)) (Gg fu call U T S Q P O N M L K fu 0 J W Y I H G V X E D)):=by kernel_rfl
theorem Kx(U:Int)(T:Nat)(S:Ab)(Q:Nat)(P:Ab)(O:Int)(N:Nat)(M:Ab)(L:Nat)(K:Ab)(J:Nat)(Z I:Int)(H:Nat)(G:Ab)(Y:Nat)(X:Ab)(E:Int)(D:Nat)(B:Ab)(V:Nat)(W:Ab):Gg fu call U T S Q P O N M L K (J+1) Z I H G Y X E D B V W=(A3 (decide (Z<(↑Y:Int))) (As (decide (0<=Z)&&decide (Z<(↑Y:Int)))<|Be .i64 (X.getD (Z.toNat*2) .top) fun a=>Be .i64 (X.getD (Z.toNat*2+1) .top) fun b=>As (decide (0<=Z)&&decide (Z<(↑V:Int)))<|Be .i64 (W.getD (Z.toNat*2) .top) fun c=>Be .i64 (W.getD (Z.toNat*2+1) .top) fun e=>A3 (!(a==c&&(b==e&&true))) (Bv [.sc (.bool false)]) (Aa (wrap .i64 (Z+1)) fun a=>Gg fu call U T S Q P O N M L K J a I H G Y X E D B V W)) (Bv [.sc (.bool true)])):=by kernel_rfl
theorem Xd(Z:Int)(Y:Nat)(T:Ab)(X:Nat)(S:Ab)(W:Int)(V:Nat)(Q:Ab)(U:Nat)(P:Ab):Fn C0 fu d 73 [.agg [Af Z,Ap 3 Y T,Ap 2 X S],.agg [Af W,Ap 3 V Q,Ap 2 U P]] fun call=>A3 (Z != W) (Bv [.sc (.bool false)]) (A3 ((↑Y:Int) != (↑V:Int)) (Bv [.sc (.bool false)]) (A3 ((↑X:Int) != (↑U:Int)) (Bv [.sc (.bool false)]) (Gf fu call Z Y T X S W V Q U P fu 0 Z Y T X S W V Q U P))):=by show _=_;kernel_rfl
def Fu(Z:Nat)(Y:Ab)(X:Nat)(W:Ab)(V U:Nat)(T:Ab)(S:Nat)(Q:Ab)(P:Int):Option D0:=Mg fu call 38 Tryz.f38 [Ap 3 Z Y,Ap 3 X W] [.r,.r,.l,.r,.l] V ⟨lk [(0,Ap 3 U T),(1,Ap 3 S Q),(5,P)],B0 []⟩
theorem Ju(U:Nat)(T:Ab)(S:Nat)(Q:Ab)(P W:Nat)(Y:Ab)(V:Nat)(X:Ab)(Z:Int):Fu fu call U T S Q (P+1) W Y V X Z=(A3 (decide (Z<(↑W:Int))) (As (decide (0<=Z)&&decide (Z<(↑W:Int)))<|Be .u64 (Y.getD (Z.toNat*3) .top) fun a=>Pq 3 (Y.getD (Z.toNat*3+1) .top) fun b c e=>Pq 2 (Y.getD (Z.toNat*3+1+1) .top) fun b f g=>As (decide (0<=Z)&&decide (Z<(↑V:Int)))<|Be .u64 (X.getD (Z.toNat*3) .top) fun b=>Pq 3 (X.getD (Z.toNat*3+1) .top) fun h i j=>Pq 2 (X.getD (Z.toNat*3+1+1) .top) fun h k m=>Dm (call 73 [.agg [Af a,Ap 3 c e,Ap 2 f g],.agg [Af b,Ap 3 i j,Ap 2 k m]]) fun a b=>Cg a fun a=>Aq b<|A3 (!a) (Bv [.sc (.bool false)]) (Aa (wrap .i64 (Z+1)) fun a=>Fu fu call U T S Q P W Y V X a)) (Bv [.sc (.bool true)])):=by kernel_rfl
theorem U0(Z:Nat)(X:Ab)(Y:Nat)(W:Ab):Fn C0 fu d 38 [Ap 3 Z X,Ap 3 Y W] fun call=>A3 ((↑Z:Int) != (↑Y:Int)) (Bv [.sc (.bool false)]) (Fu fu call Z X Y W fu Z X Y W 0):=by show _=_;kernel_rfl
theorem X3(Z Y X:Int)(W:Nat)(V:Ab)(U:Int)(T:Nat)(S:Ab)(Q:Nat)(P:Ab)(O N M:Int)(L:Nat)(K:Ab)(J:Int)(I:Nat)(H:Ab)(G:Nat)(E:Ab):Fn C0 fu d 18 [.agg [Z,Y,X,Ap 3 W V,U,Ap 1 T S,Ap 1 Q P],.agg [O,N,M,Ap 3 L K,J,Ap 1 I H,Ap 1 G E]] fun call=>A3 (Z==O) (A3 (Y==N) (A3 (X==M) (Dm (call 38 [Ap 3 W V,Ap 3 L K]) fun a b=>Cg a fun a=>Aq b<|A3 a (Dm (call 39 [.agg [U,Ap 1 T S,Ap 1 Q P],.agg [J,Ap 1 I H,Ap 1 G E]]) fun a b=>Cg a fun a=>Aq b<|Bv [.sc (.bool a)]) (Bv [.sc (.bool false)])) (Bv [.sc (.bool false)])) (Bv [.sc (.bool false)])) (Bv [.sc (.bool false)]):=by show _=_;kernel_rfl
end
end
end Go.Proofs.YtpogefhpiaaliaaGreatDoor.Pv
