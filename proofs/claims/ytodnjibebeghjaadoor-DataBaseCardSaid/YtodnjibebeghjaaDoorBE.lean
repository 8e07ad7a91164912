/-
  The proof of DataBase, part 5.
-/
import Derived.Test.YtodnjibebeghjaaDoorBD
import Derived.Laws.ResultCell
import Derived.Test.YtodnjibebeghjaaDoorRows
set_option linter.unusedSimpArgs false
set_option linter.unusedVariables false
namespace Go.Proofs.YtodnjibebeghjaaDoor.Pv
section
open Go.Proofs.Tryd (prog)
open Go.IntKind (wrap)
set_option maxRecDepth 100000
theorem ZS {a b:Int}(ha:0<=a∧a<=255)(hb:0<=b∧b<=255):(a.toNat.toUInt8==b.toNat.toUInt8)=decide (a=b):=by
 rw[Bool.eq_iff_iff,beq_iff_eq,decide_eq_true_iff];constructor
 ·intro h;have:=congrArg UInt8.toNat h;have e1:a.toNat.toUInt8.toNat=a.toNat % 256:=by rw[Nat.toUInt8,UInt8.toNat_ofNat']
  have e2:b.toNat.toUInt8.toNat=b.toNat % 256:=by rw[Nat.toUInt8,UInt8.toNat_ofNat']
  rw[e1,e2] at this;omega
 ·rintro rfl;rfl
theorem Ux {c:Int}(hc:0<=c∧c<=255):((c.toNat.toUInt8.toNat:Nat):Int)=c:=by
 rw[Nat.toUInt8,UInt8.toNat_ofNat'];omega
theorem Abe {c x:Int}(r:List Int)(e:x≠c):B7 c (x::r)=x::B7 c r:=by unfold B7;rw[List.takeWhile_cons_of_pos (by simp[e])]
theorem SG {c:Int}(r:List Int):B7 c (c::r)=[]:=by unfold B7;rw[List.takeWhile_cons_of_neg (by simp)]
theorem R4 (c:Int)(l:List Int):B7 c l=l.take (B7 c l).length:=by
 have h:B7 c l <+: l:=List.takeWhile_prefix _;exact List.prefix_iff_eq_take.1 h
theorem RI (c:Int)(l:List Int):(B7 c l).length<=l.length:=by
 have h:B7 c l <+: l:=List.takeWhile_prefix _;exact h.length_le
theorem Aek (c:Int)(l:List Int)(h:¬(B7 c l).length<l.length):B7 c l=l:=by
 have:=RI c l;rw[R4 c l,Zzf (by omega)]
def U4 (c:Int)(l:List Int):Int:=if (B7 c l).length<l.length then ((B7 c l).length:Int) else -1
theorem RO {c:Int}(hc:0<=c∧c<=255):∀{l:List Int},Dp l->Lib.indexByte (l.map fun n=>n.toNat.toUInt8) c.toNat.toUInt8=U4 c l
 |[],_=>rfl
 |x::r,h=>by
  obtain⟨hx,hr⟩:=Be h;have ih:=RO hc hr;show (if (x.toNat.toUInt8==c.toNat.toUInt8)=true then (0:Int) else if (Lib.indexByte (r.map fun n=>n.toNat.toUInt8) c.toNat.toUInt8 == -1)=true then -1 else Lib.indexByte (r.map fun n=>n.toNat.toUInt8) c.toNat.toUInt8+1)=_
  rw[ZS hx hc,ih];by_cases e:x=c
  ·subst e;unfold U4;rw[SG];simp
  ·unfold U4;rw[Abe r e];simp only[decide_eq_true_eq,e,if_false,RS];by_cases g:(B7 c r).length<r.length
   ·simp only[Ev g,Ev (show (B7 c r).length+1<r.length+1 by omega)]
    rw[Dr (show ¬(((((B7 c r).length:Int)) == -1)=true) by rw[beq_iff_eq];omega)]
    omega
   ·simp only[Dr g,Dr (show ¬(B7 c r).length+1<r.length+1 by omega)]
    rfl
theorem DX {c:Int}(hc:0<=c∧c<=255):∀{l:List Int},Dp l->(l.map fun n=>n.toNat.toUInt8).count c.toNat.toUInt8+1=(Ba c l).length
 |[],_=>rfl
 |x::r,h=>by
  obtain⟨hx,hr⟩:=Be h;have ih:=DX hc hr;rw[List.map_cons,List.count_cons,ZS hx hc];unfold Ba;by_cases e:x=c
  ·rw[Ev e,Ev (by simp[e]),RS,←ih]
  ·rw[Dr e,Dr (by simp[e])]
   cases hs:Ba c r with
   |nil=>exact absurd hs (Qb c r)
   |cons a t=>
    rw[hs] at ih
    simpa using ih
theorem Tw (c:Int):∀(l:List Int),(Ba c l).length<=l.length+1
 |[]=>Nat.le_refl _
 |x::r=>by
  have ih:=Tw c r;unfold Ba;split
  ·simp;omega
  ·cases hs:Ba c r with
   |nil=>simp
   |cons a t=>rw[hs] at ih;simp at ih ⊢;omega
theorem DL (c:Int)(l:List Int):1<=(Ba c l).length:=by
 have:=Qb c l;cases hs:Ba c l with
 |nil=>exact absurd hs this
 |cons a t=>simp
theorem RG {a:List PV}{n:Nat}{x y:PV}{r:List PV}(h:a.length=n):(a++x::r).set n y=a++y::r:=by
 subst h
 induction a with
 |nil=>rfl
 |cons z a ih=>simp[ih]
theorem dle (n:Nat):decide (n<=n)=true:=by simp
section
variable {fu d:Nat} {p:Option (List PV->Option Ay)}
theorem RU {c:Int}(hc:0<=c∧c<=255){l:List Int}(hl:Dp l):Ae (CP p) prog fu (d+2) Jx [.sc (.string (Ab l)),.sc (.string (Ab [c]))]=some ⟨[.sc (.int .i64 (U4 c l))],[]⟩:=by
 have e:Ae (CP p) prog fu (d+1) 40 [.sc (.string (Ab l)),.sc (.int .u8 c)]=some ⟨[.sc (.int .i64 (Lib.indexByte (Ab l).data.toList c.toNat.toUInt8))],[]⟩:=rfl;have e0:(Ab l).data.toList=l.map fun n=>n.toNat.toUInt8:=rfl
 rw[e0,RO hc hl] at e;have h0:((((Ab [c]).size:Nat):Int)==0)=false:=by rw[An];rfl
 have h1:((((Ab [c]).size:Nat):Int)==1)=true:=by rw[An];rfl
 have h2:(Array.toList (Ab [c]).data)[0]?=some c.toNat.toUInt8:=rfl;have h3:=Ux hc;rw[Qo];by_cases g:[c]=l
 ·subst g;have h4:(Array.toList (Ab [c]).data==Array.toList (Ab [c]).data)=true:=by simp
  have h5:U4 c [c]=0:=by unfold U4;rw[SG];rfl
  simp only[D4,h0,h4,h5]
 ·have h4:(Array.toList (Ab [c]).data==Array.toList (Ab l).data)=false:=by
   rw[Bool.eq_false_iff,ne_eq,beq_iff_eq];intro q;apply g
   have q2:Ab [c]=Ab l:=by
    cases hx:Ab [c];cases hy:Ab l;rw[hx,hy] at q;exact congrArg ByteArray.mk (Array.toList_inj.1 q)
   have q3:=congrArg Ea q2
   rwa [Cq hl,Cq (fun x hx=>by simp at hx;omega)] at q3
  simp only[D4,h0,h4,h1,h2,h3,e]
theorem Ab3 {c:Int}(hc:0<=c∧c<=255){l:List Int}(hl:Dp l):Ae (CP p) prog fu (d+3) N1 [.sc (.string (Ab l)),.sc (.string (Ab [c]))]=some ⟨[.sc (.int .i64 (U4 c l))],[]⟩:=by
 have e:Ae (CP p) prog fu (d+2) 78 [.sc (.string (Ab l)),.sc (.string (Ab [c]))]=_:=RU (fu:=fu) (d:=d) (p:=p) hc hl;rw[V5];simp only[D4,e]
theorem KO {l:List Int}(hl:Dp l)(n:Nat):(Ab l).extract 0 n=Ab (l.take n):=by rw[Sy,Cq hl]
theorem Wt {l:List Int}(hl:Dp l)(n:Nat):(Ab l).extract n l.length=Ab (l.drop n):=by
 have:=V4 (s:=Ab l) (a:=n)
 rwa [An,Cq hl] at this
theorem Aps {c:Int}(hc:0<=c∧c<=255){l:List Int}(hl:Dp l)(hs:l.length<=1000000):Ae (CP p) prog fu (d+4) Q1 [.sc (.string (Ab l)),.sc (.string (Ab [c]))]=some ⟨[.sc (.string (Ab (B7 c l))),.sc (.string (Ab (l.drop ((B7 c l).length+1)))),.sc (.bool (decide ((B7 c l).length<l.length)))],[]⟩:=by
 have e:Ae (CP p) prog fu (d+2) 78 [.sc (.string (Ab l)),.sc (.string (Ab [c]))]=_:=RU (fu:=fu) (d:=d) (p:=p) hc hl
 have e2:Ae (CP p) prog fu (d+3) 63 [.sc (.string (Ab l)),.sc (.string (Ab [c]))]=some ⟨[.sc (.string (Ab (B7 c l))),.sc (.string (Ab (l.drop ((B7 c l).length+1)))),.sc (.bool (decide ((B7 c l).length<l.length)))],[]⟩:=by
  refine (S5 (p:=p) fu (d+2) _ _).trans ?_;by_cases g:(B7 c l).length<l.length
  ·have hi:U4 c l=(B7 c l).length:=by unfold U4;rw[Ev g]
   rw[hi] at e;have a1:decide (((B7 c l).length:Int)>=0)=true:=by simp
   have a2:decide ((0:Int)<=((B7 c l).length:Int))=true:=by simp
   have a3:decide (Int.toNat ((B7 c l).length:Int)<=l.length)=true:=by simp;omega
   have a4:(Ab l).extract 0 (Int.toNat ((B7 c l).length:Int))=Ab (B7 c l):=by
    rw[N4,KO hl,←R4]
   have a5:wrap .i64 (((B7 c l).length:Int)+(([c].length:Nat):Int))=(((B7 c l).length+1:Nat):Int):=by
    rw[Bc (by simp;omega) (by simp;omega)];simp
   have a6:decide ((0:Int)<=(((B7 c l).length+1:Nat):Int))=true:=by simp;omega
   have a7:decide (Int.toNat (((B7 c l).length+1:Nat):Int)<=l.length)=true:=by simp;omega
   have a8:(Ab l).extract (Int.toNat (((B7 c l).length+1:Nat):Int)) l.length=Ab (l.drop ((B7 c l).length+1)):=by
    rw[N4,Wt hl]
   have a9:decide ((B7 c l).length<l.length)=true:=by simpa using g
   simp only[D4,e,An,dle,a1,a2,a3,a4,a5,a6,a7,a8,a9]
  ·have hi:U4 c l = -1:=by unfold U4;rw[Dr g]
   rw[hi] at e;have a1:decide ((-1:Int)>=0)=false:=rfl;have a9:decide ((B7 c l).length<l.length)=false:=by simpa using g
   have a10:l.drop ((B7 c l).length+1)=[]:=List.drop_eq_nil_of_le (by omega)
   have a11:(ByteArray.mk #[])=Ab []:=rfl;rw[a9,a10,Aek c l g];simp only[D4,e,a1,a11]
 rw[AW];simp only[D4,e2]
theorem Aho {l w:List Int}(hl:Dp l)(hw:Dp w):Ae (CP p) prog fu (d+4) Jq [.sc (.string (Ab l)),.sc (.string (Ab w))]=some ⟨[.sc (.string (Ab (if w.isPrefixOf l=true then l.drop w.length else l))),.sc (.bool (w.isPrefixOf l))],[]⟩:=by
 have e:Ae (CP p) prog fu (d+2) 77 [.sc (.string (Ab l)),.sc (.string (Ab w))]=some ⟨[.sc (.bool (w.isPrefixOf l))],[]⟩:=Ag0 (xs:=XK p) (fu:=fu) (d:=d+1) hl hw
 have e2:Ae (CP p) prog fu (d+3) 62 [.sc (.string (Ab l)),.sc (.string (Ab w))]=some ⟨[.sc (.string (Ab (if w.isPrefixOf l=true then l.drop w.length else l))),.sc (.bool (w.isPrefixOf l))],[]⟩:=by
  refine (Mb (p:=p) fu (d+2) _ _).trans ?_;cases hp:w.isPrefixOf l
  ·rw[hp] at e;simp only[D4,e,D3,Bool.false_eq_true,if_false]
  ·rw[hp] at e;have Wg:w.length<=l.length:=(List.isPrefixOf_iff_prefix.1 hp).length_le;have a1:decide (Int.toNat ((w.length:Nat):Int)<=l.length)=true:=by simp;omega
   have a2:(Ab l).extract (Int.toNat ((w.length:Nat):Int)) l.length=Ab (l.drop w.length):=by rw[N4,Wt hl]
   simp only[D4,e,An,dle,a1,a2,Dg,if_true]
 rw[Qr];simp only[D4,e2]
def AY (x:List Int):PV:=.sc (.string (Ab x))
theorem NS {c:Int}(hc:0<=c∧c<=255){a0 a1:ByteArray}{a2 a3:Int}{N:Nat}(hN:N<=1000000):∀(nn:Nat)(r:List Int)(done:List (List Int)),r.length+1<=nn->r.length<=1000000->Dp r->done.length+(Ba c r).length=N ->
  D9 fu (Ae (CP p) prog fu (d+3)) a0 a1 a2 a3 nn (Ab r) (Ab [c]) 0 ((N:Int)-1) N (done.length:Int) (done.map AY++List.replicate (Ba c r).length (.sc (.string ⟨#[]⟩)))=some ⟨[.own 1 N ((done++Ba c r).map AY)],[]⟩:=by
 intro nn
 induction nn with
 |zero=>intro r done h;omega
 |succ k ih=>
  intro r done hk hr6 hr hn;have e:Ae (CP p) prog fu (d+3) 100 [.sc (.string (Ab r)),.sc (.string (Ab [c]))]=_:=Ab3 (fu:=fu) (d:=d) (p:=p) hc hr;rw[N9];have Fd:=V2 c r;by_cases g:(B7 c r).length<r.length
  ·rw[Ev g] at Fd;have hi:U4 c r=(B7 c r).length:=by unfold U4;rw[Ev g]
   rw[hi] at e;have hp:=DL c (r.drop ((B7 c r).length+1));have Of:(Ba c r).length=(Ba c (r.drop ((B7 c r).length+1))).length+1:=by rw[Fd];simp
   have a0:decide ((done.length:Int)<(N:Int)-1)=true:=by simp;omega
   have a1:decide (((B7 c r).length:Int)<0)=false:=by simp
   have a2:wrap .i64 (((B7 c r).length:Int)+0)=((B7 c r).length:Int):=by rw[Bc (by omega) (by omega)];omega
   have a3:decide ((0:Int)<=((B7 c r).length:Int))=true:=by simp
   have a4:decide (Int.toNat ((B7 c r).length:Int)<=r.length)=true:=by simp;omega
   have a5:(Ab r).extract 0 (Int.toNat ((B7 c r).length:Int))=Ab (B7 c r):=by rw[N4,KO hr,←R4]
   have a6:(decide ((0:Int)<=(done.length:Int))&&decide ((done.length:Int)<(N:Int)))=true:=by simp;omega
   have a7:decide (0+Int.toNat (done.length:Int)*1+1<=List.length (done.map AY++List.replicate (Ba c r).length (PV.sc (.string ⟨#[]⟩))))=true:=by simp;omega
   have a8:Cs (done.map AY++List.replicate (Ba c r).length (PV.sc (.string ⟨#[]⟩))) [PV.sc (.string (Ab (B7 c r)))] (0+Int.toNat (done.length:Int)*1)=(done++[B7 c r]).map AY++List.replicate (Ba c (r.drop ((B7 c r).length+1))).length (PV.sc (.string ⟨#[]⟩)):=by
    rw[Yl (by simp;omega),Of,List.replicate_succ,N4,Nat.zero_add,Nat.mul_one,RG (by simp)]
    simp[AY]
   have a9:wrap .i64 (((B7 c r).length:Int)+(([c].length:Nat):Int))=(((B7 c r).length+1:Nat):Int):=by
    rw[Bc (by simp;omega) (by simp;omega)];simp
   have b1:decide ((0:Int)<=(((B7 c r).length+1:Nat):Int))=true:=by simp;omega
   have b2:decide (Int.toNat (((B7 c r).length+1:Nat):Int)<=r.length)=true:=by simp;omega
   have b3:(Ab r).extract (Int.toNat (((B7 c r).length+1:Nat):Int)) r.length=Ab (r.drop ((B7 c r).length+1)):=by rw[N4,Wt hr]
   have b4:wrap .i64 ((done.length:Int)+1)=(((done++[B7 c r]).length:Nat):Int):=by
    rw[Bc (by omega) (by omega)];simp
   have hd:=ih (r.drop ((B7 c r).length+1)) (done++[B7 c r]) (by simp;omega) (by simp;omega) ((fun x hx=>hr x (List.mem_of_mem_drop hx))) (by simp;omega)
   simp only[D4,e,An,dle,a0,a1,a2,a3,a4,a5,a6,a7,a8,a9,b1,b2,b3,b4];rw[hd,Fd];simp
  ·rw[Dr g] at Fd;have Of:(Ba c r).length=1:=by rw[Fd];rfl
   have a0:decide ((done.length:Int)<(N:Int)-1)=false:=by simp;omega
   have a6:(decide ((0:Int)<=(done.length:Int))&&decide ((done.length:Int)<(N:Int)))=true:=by simp;omega
   have a7:decide (0+Int.toNat (done.length:Int)*1+1<=List.length (done.map AY++List.replicate (Ba c r).length (PV.sc (.string ⟨#[]⟩))))=true:=by simp;omega
   have a8:Cs (done.map AY++List.replicate (Ba c r).length (PV.sc (.string ⟨#[]⟩))) [PV.sc (.string (Ab r))] (0+Int.toNat (done.length:Int)*1)=(done++[r]).map AY:=by
    rw[Yl (by simp;omega),Of,show List.replicate 1 (PV.sc (Value.string ⟨#[]⟩))=[PV.sc (.string ⟨#[]⟩)] from rfl,N4,Nat.zero_add,Nat.mul_one,RG (by simp)]
    simp[AY]
   have b4:wrap .i64 ((done.length:Int)+1)=(N:Int):=by
    rw[Bc (by omega) (by omega)];omega
   have b5:decide ((0:Int)<=(N:Int))=true:=by simp
   have b6:decide (Int.toNat (N:Int)<=N)=true:=by simp
   have b7:Int.toNat (N:Int)-0=N:=by simp
   have b8:decide (N*1<=List.length ((done++[r]).map AY))=true:=by simp;omega
   have b9:List.take (N*1) ((done++[r]).map AY)=(done++[r]).map AY:=Zzf (by simp;omega)
   simp only[D4,a0,a6,a7,a8,b4,b5,b6,b7,b8,b9];rw[Fd]
theorem Ado {c:Int}(hc:0<=c∧c<=255){l:List Int}(hl:Dp l)(hs:l.length<=999999)(Fv:l.length+1<=fu):Ae (CP p) prog fu (d+5) N2 [.sc (.string (Ab l)),.sc (.string (Ab [c]))]=some ⟨[.own 1 (Ba c l).length ((Ba c l).map AY)],[]⟩:=by
 have e:Ae (CP p) prog fu (d+4) 79 [.sc (.string (Ab l)),.sc (.string (Ab [c])),.sc (.int .i64 0),.sc (.int .i64 (-1))]=some ⟨[.own 1 (Ba c l).length ((Ba c l).map AY)],[]⟩:=by
  refine (Rv (p:=p) fu (d+3) _ _ _ _).trans ?_;have hn:=Tw c l;have hp:=DL c l;have hcn:=DX hc hl
  have e1:Ae (CP p) prog fu (d+3) 99 [.sc (.string (Ab l)),.sc (.string (Ab [c]))]=some ⟨[.sc (.int .i64 (((Ba c l).length:Int)-1))],[]⟩:=by
   have:Ae (CP p) prog fu (d+3) 99 [.sc (.string (Ab l)),.sc (.string (Ab [c]))]=some ⟨[.sc (.int .i64 (Lib.countByte (Ab l).data.toList c.toNat.toUInt8))],[]⟩:=rfl;rw[this]
   have e0:(Lib.countByte (Ab l).data.toList c.toNat.toUInt8:Int)=((Ba c l).length:Int)-1:=by
    have:Lib.countByte (Ab l).data.toList c.toNat.toUInt8+1=(Ba c l).length:=hcn;omega
   rw[e0]
  have a1:(((-1:Int))==0)=false:=rfl;have a2:(Array.toList (Ab [c]).data==Array.toList (ByteArray.mk #[]).data)=false:=rfl;have a3:decide ((-1:Int)<0)=true:=rfl;have a4:wrap .i64 (((Ba c l).length:Int)-1+1)=(Ba c l).length:=by rw[Bc (by omega) (by omega)];omega
  have a5:wrap .i64 ((l.length:Int)+1)=l.length+1:=by rw[Bc (by omega) (by omega)]
  have a6:(if ((l.length:Int)+1)<((Ba c l).length:Int) then ((l.length:Int)+1) else ((Ba c l).length:Int))=(Ba c l).length:=by rw[Dr (by omega)]
  have a7:decide ((0:Int)<=((Ba c l).length:Int))=true:=by simp
  have b7:decide (((Ba c l).length:Int)<=((Ba c l).length:Int))=true:=by simp
  have c7:decide (((Ba c l).length:Int)*16<=1099511627776)=true:=by simp;omega
  have d7:decide (((Ba c l).length:Int)<=1099511627776)=true:=by simp;omega
  have a8:wrap .i64 (((Ba c l).length:Int)-1)=((Ba c l).length:Int)-1:=Bc (by omega) (by omega)
  have a9:Np (Ba c l).length [PV.sc (.string ⟨#[]⟩)]=List.replicate (Ba c l).length (PV.sc (.string ⟨#[]⟩)):=by
   unfold Np
   induction (Ba c l).length with
   |zero=>rfl
   |succ k ih=>rw[List.replicate_succ,List.flatten_cons,ih];rfl
  have a10:Int.toNat ((Ba c l).length:Int)=(Ba c l).length:=N4 _;have hd:=NS (fu:=fu) (d:=d) (p:=p) hc (a0:=Ab l) (a1:=Ab [c]) (a2:=0) (a3:= -1) (N:=(Ba c l).length) (by omega) fu l [] Fv (by omega) hl (by simp)
  simp only[D4,e1,An,dle,a1,a2,a3,a4,a5,a6,a7,b7,c7,d7,a8,a9,a10];exact hd
 have b1:decide ((Ba c l).length*1<=List.length ((Ba c l).map AY))=true:=by simp
 have b2:List.take ((Ba c l).length*1) ((Ba c l).map AY)=(Ba c l).map AY:=Zzf (by simp)
 rw[Wh];simp only[D4,e,b1,b2]
end
end
section
open Go.Proofs.Tryd (prog)
open Go.IntKind (wrap)
set_option maxRecDepth 100000
theorem GO:∀n:Fin 256,Lib.indexByte Kw.data.toList (n.val:Int).toNat.toUInt8=if Az (n.val:Int)<64 then Az (n.val:Int) else -1:=by decide +kernel
theorem ZT {c:Int}(hc:0<=c∧c<=255):Lib.indexByte Kw.data.toList c.toNat.toUInt8=if Az c<64 then Az c else -1:=by
 obtain⟨n,rfl⟩:=Int.eq_ofNat_of_zero_le hc.1;exact GO ⟨n,by omega⟩
theorem Apa {y v:Int}(k:Nat)(hk:k<=18)(h0:0<=y)(hm:y % ((2 ^ (k+6):Nat):Int)=0) (hy:y<16777216)(hv0:0<=v)(hv:v<64):WI .u32 y (Le .u32 (wrap .u32 v) (k:Int))=y+v*((2 ^ k:Nat):Int):=by
 obtain⟨y,rfl⟩:=Int.eq_ofNat_of_zero_le h0;obtain⟨v,rfl⟩:=Int.eq_ofNat_of_zero_le hv0
 have e1:wrap .u32 (v:Int)=v:=by
  simp only[wrap,IntKind.bits,IntKind.signed,WO,Bool.false_eq_true,if_false];omega
 have A7j:2 ^ k<=2 ^ 18:=Nat.pow_le_pow_right (by omega) hk
 have hvk:v*2 ^ k<2 ^ k*64:=by
  rw[Nat.mul_comm];exact Nat.mul_lt_mul_of_pos_left (by omega) (Nat.pos_of_ne_zero (by simp))
 have e2:Le .u32 (v:Int) (k:Int)=((v*2 ^ k:Nat):Int):=by
  show wrap .u32 ((v:Int)*2 ^ (min (k:Int).toNat IntKind.u32.bits))=_
  have:min (k:Int).toNat IntKind.u32.bits=k:=by
   rw[N4];exact Nat.min_eq_left (by show k<=32;omega)
  rw[this];have:(v:Int)*2 ^ k=((v*2 ^ k:Nat):Int):=by simp
  rw[this];simp only[wrap,IntKind.bits,IntKind.signed,WO,Bool.false_eq_true,if_false];omega
 rw[e1,e2];have e3:=Alb y (v*2 ^ k) (by omega) (by omega)
 refine e3.trans ?_
 have hd:y=y / 2 ^ (k+6)*2 ^ (k+6):=by
  have:y % 2 ^ (k+6)=0:=by exact_mod_cast hm
  have:=Nat.div_add_mod y (2 ^ (k+6));rw[Nat.mul_comm] at this;omega
 have B6:v*2 ^ k<2 ^ (k+6):=by rw[Nat.pow_add];exact hvk
 have:=Nat.shiftLeft_add_eq_or_of_lt B6 (y / 2 ^ (k+6));rw[Nat.shiftLeft_eq,←hd] at this;rw[←this];simp
section
variable {fu d:Nat} {p:Option (List PV->Option Ay)}
theorem Al9 {c:Int}(hc:0<=c∧c<=255):Ae (CP p) prog fu (d+2) 27 [.sc (.string Kw),.sc (.int .u8 c)]=some ⟨[.sc (.int .i64 (if Az c<64 then Az c else -1))],[]⟩:=by
 have e:Ae (CP p) prog fu (d+1) 40 [.sc (.string Kw),.sc (.int .u8 c)]=some ⟨[.sc (.int .i64 (Lib.indexByte Kw.data.toList c.toNat.toUInt8))],[]⟩:=rfl;rw[ZT hc] at e;refine (Jr (p:=p) fu (d+1) _ _).trans ?_;simp only[D4,e]
theorem J1 {a0:ByteArray}{m0 nn:Nat}{l:List Int}{y1:Nat}{y6:List PV}{i n:Nat}{y3 c:Int}(Qw:i<n)(hn:n<=4)(hl:Dp l)(hc:l[i]?=some c) (h0:0<=y3)(hm:y3 % ((2 ^ (24-6*i):Nat):Int)=0) (hy:y3<16777216):
  Cb fu (Ae (CP p) prog fu (d+2)) a0 m0 (nn+1) (Ab l) y1 (n:Int) y3 (n:Int) (i:Int) y6=if Az c<64 then Cb fu (Ae (CP p) prog fu (d+2)) a0 m0 nn (Ab l) y1 (n:Int) (y3+Az c*((2 ^ (18-6*i):Nat):Int)) (n:Int) ((i+1:Nat):Int) y6 else some ⟨[.own 1 0 [],.sc (.int .i64 2)],[]⟩:=by
 have UF:=hl c (List.mem_of_getElem? hc);have hv:=Fc c;have e:=Al9 (fu:=fu) (d:=d) (p:=p) UF;have a1:decide ((i:Int)<(n:Int))=true:=by simp;omega
 have a2:decide ((0:Int)<=(i:Int))=true:=by simp
 have a3:(Array.toList (Ab l).data)[Int.toNat (i:Int)]?=some c.toNat.toUInt8:=by
  rw[N4];show (l.map fun n=>n.toNat.toUInt8)[i]?=_
  rw[List.getElem?_map,hc];rfl
 have a4:=Ux UF;have ea:(ByteArray.mk #[(65:UInt8),(66:UInt8),(67:UInt8),(68:UInt8),(69:UInt8),(70:UInt8),(71:UInt8),(72:UInt8),(73:UInt8),(74:UInt8),(75:UInt8),(76:UInt8),(77:UInt8),(78:UInt8),(79:UInt8),(80:UInt8),(81:UInt8),(82:UInt8),(83:UInt8),(84:UInt8),(85:UInt8),(86:UInt8),(87:UInt8),(88:UInt8),(89:UInt8),(90:UInt8),(97:UInt8),(98:UInt8),(99:UInt8),(100:UInt8),(101:UInt8),(102:UInt8),(103:UInt8),(104:UInt8),(105:UInt8),(106:UInt8),(107:UInt8),(108:UInt8),(109:UInt8),(110:UInt8),(111:UInt8),(112:UInt8),(113:UInt8),(114:UInt8),(115:UInt8),(116:UInt8),(117:UInt8),(118:UInt8),(119:UInt8),(120:UInt8),(121:UInt8),(122:UInt8),(48:UInt8),(49:UInt8),(50:UInt8),(51:UInt8),(52:UInt8),(53:UInt8),(54:UInt8),(55:UInt8),(56:UInt8),(57:UInt8),(45:UInt8),(95:UInt8)])=Kw:=rfl;rw[Gc,ea];by_cases hv6:Az c<64
 ·rw[Ev hv6] at e;have b1:decide (Az c<0)=false:=by simp;omega
  have b2:wrap .i64 (6*(i:Int))=6*(i:Int):=Bc (by omega) (by omega)
  have b3:wrap .i64 (18-6*(i:Int))=((18-6*i:Nat):Int):=by rw[Bc (by omega) (by omega)];omega
  have b4:decide ((0:Int)<=((18-6*i:Nat):Int))=true:=by simp
  have b5:=Apa (y:=y3) (v:=Az c) (18-6*i) (by omega) h0 (by rw[show 18-6*i+6=24-6*i by omega];exact hm) hy hv.1 hv6
  have b6:wrap .i64 ((i:Int)+1)=((i+1:Nat):Int):=by rw[Bc (by omega) (by omega)];omega
  rw[Ev hv6];simp only[D4,a1,a2,a3,a4,e,b1,b2,b3,b4,b5,b6]
 ·rw[Dr hv6] at e;have b1:decide ((-1:Int)<0)=true:=rfl;rw[Dr hv6];simp only[D4,a1,a2,a3,a4,e,b1]
theorem Aon {y:Int}(h0:0<=y)(hy:y<16777216):wrap .u8 (GP .u32 y 16)=y / 65536 % 256:=by
 show wrap .u8 (y.fdiv (2 ^ (min (16:Int).toNat IntKind.u32.bits)))=_;have:(2:Int) ^ (min (16:Int).toNat IntKind.u32.bits)=65536:=by decide
 rw[this,Int.fdiv_eq_ediv_of_nonneg _ (by omega)]
 simp only[wrap,IntKind.bits,IntKind.signed,WO,Bool.false_eq_true,if_false];omega
theorem Ax1 {y:Int}(h0:0<=y)(hy:y<16777216):wrap .u8 (GP .u32 y 8)=y / 256 % 256:=by
 show wrap .u8 (y.fdiv (2 ^ (min (8:Int).toNat IntKind.u32.bits)))=_;have:(2:Int) ^ (min (8:Int).toNat IntKind.u32.bits)=256:=by decide
 rw[this,Int.fdiv_eq_ediv_of_nonneg _ (by omega)]
 simp only[wrap,IntKind.bits,IntKind.signed,WO,Bool.false_eq_true,if_false];omega
theorem Az8 {y:Int}(h0:0<=y)(hy:y<16777216):wrap .u8 y=y % 256:=by
 simp only[wrap,IntKind.bits,IntKind.signed,WO,Bool.false_eq_true,if_false];omega
theorem NA {a0:ByteArray}{m0 nn:Nat}{s:ByteArray}{y1:Nat}{y6:List PV}{n:Nat}{y3:Int}(hn:2<=n)(hn4:n<=4)(h0:0<=y3)(hy:y3<16777216):
  Cb fu (Ae (CP p) prog fu (d+2)) a0 m0 (nn+1) s y1 (n:Int) y3 (n:Int) (n:Int) y6=B9 fu (Ae (CP p) prog fu (d+2)) a0 m0 fu s y1 (n:Int) (n-1) (4-n) ((4-n:Nat):Int) 0 y6 [.sc (.int .u8 (y3 / 65536 % 256)),.sc (.int .u8 (y3 / 256 % 256)),.sc (.int .u8 (y3 % 256))]:=by
 have a1:decide ((n:Int)<(n:Int))=false:=by simp
 have e1:=Aon h0 hy;have e2:=Ax1 h0 hy;have e3:=Az8 h0 hy;have b1:wrap .i64 ((n:Int)-1)=((n-1:Nat):Int):=by rw[Bc (by omega) (by omega)];omega
 have b2:decide ((0:Int)<=((n-1:Nat):Int))=true:=by simp
 have b3:decide (Int.toNat ((n-1:Nat):Int)<=3)=true:=by simp;omega
 have b4:0+Int.toNat ((n-1:Nat):Int)*1=n-1:=by rw[N4];omega
 have b5:3-Int.toNat ((n-1:Nat):Int)=4-n:=by rw[N4];omega
 rw[Gc];simp only[D4,a1,e1,e2,e3,b1,b2,b3,b4,b5]
end
end
section
open Go.Proofs.Tryd (prog)
open Go.IntKind (wrap)
set_option maxRecDepth 100000
section
variable {fu d:Nat} {p:Option (List PV->Option Ay)}
abbrev grp (A B C:Int):List PV:=[.sc (.int .u8 A),.sc (.int .u8 B),.sc (.int .u8 C)]
abbrev Atw:Option Ay:=some ⟨[.own 1 0 [],.sc (.int .i64 2)],[]⟩
theorem Als {call:Ax}{a0 s:ByteArray}{m0 nn y1:Nat}{n i j:Nat}{y7:List PV}{A B C X:Int}(hij:i<j)(hj:j<=4)(h:List.getD (grp A B C) (n+i) .top=.sc (.int .u8 X)) {q:Int}:
  B9 fu call a0 m0 (nn+1) s y1 q n j (j:Int) (i:Int) y7 (grp A B C)=if X=0 then B9 fu call a0 m0 nn s y1 q n j (j:Int) ((i+1:Nat):Int) y7 (grp A B C) else Atw:=by
 have a1:decide ((i:Int)<(j:Int))=true:=by simp;omega
 have a2:(decide ((0:Int)<=(i:Int))&&decide ((i:Int)<(j:Int)))=true:=by simp;omega
 have a2':decide ((0:Int)<=(i:Int))=true:=by simp
 have a3:List.getD (grp A B C) (n+Int.toNat (i:Int)*1) PV.top=.sc (.int .u8 X):=by rw[N4,Nat.mul_one];exact h
 have a4:wrap .i64 ((i:Int)+1)=((i+1:Nat):Int):=by rw[Bc (by omega) (by omega)];omega
 rw[Gj];by_cases hx:X=0
 ·subst hx;have a5:((0:Int) != 0)=false:=rfl;rw[Ev rfl];simp only[D4,a1,a2,a2',a3,a4,a5]
 ·have a5:(X != 0)=true:=by simp[hx]
  rw[Dr hx];simp only[D4,a1,a2,a2',a3,a5]
theorem NT {call:Ax}{a0:ByteArray}{m0 nn:Nat}{n j:Nat}{l acc:List Int}{A B C:Int}(hn:2<=n)(hn4:n<=4)(hl:Dp l)(ZQ:n<=l.length)(Xm:acc.length<=1000000){st:Nat}:
  B9 fu call a0 m0 (nn+1) (Ab l) acc.length (n:Int) st j (j:Int) (j:Int) (Ck .u8 acc) (grp A B C)=Ca fu call a0 m0 (Ab (l.drop n)) (acc++[A,B,C].take (n-1)).length (Ck .u8 (acc++[A,B,C].take (n-1))):=by
 have a1:decide ((j:Int)<(j:Int))=false:=by simp
 have a2:wrap .i64 ((n:Int)-1)=((n-1:Nat):Int):=by rw[Bc (by omega) (by omega)];omega
 have a3:(decide (3<=List.length (grp A B C))&&true)=true:=rfl;have a4:decide ((0:Int)<=((n-1:Nat):Int))=true:=by simp
 have a5:decide (Int.toNat ((n-1:Nat):Int)<=3)=true:=by simp;omega
 have a6:Int.toNat ((n-1:Nat):Int)-0=n-1:=by rw[N4];omega
 have a7:decide (0+(n-1)*1<=List.length (grp A B C))=true:=by simp;omega
 have a8:decide (acc.length*1<=List.length (Ck .u8 acc))=true:=by rw[Ex];simp
 have a9:decide (List.length (List.take ((n-1)*1) (List.drop 0 (grp A B C)))=(n-1)*1)=true:=by simp;omega
 have b1:decide ((acc.length+(n-1))*1<=1099511627776)=true:=by simp;omega
 have b2:decide (acc.length+(n-1)<=1099511627776)=true:=by simp;omega
 have b3:List.take (acc.length*1) (Ck .u8 acc)++List.take ((n-1)*1) (List.drop 0 (grp A B C))=Ck .u8 (acc++[A,B,C].take (n-1)):=by
  have e0:Ck .u8 (acc++[A,B,C].take (n-1))=Ck .u8 acc++Ck .u8 ([A,B,C].take (n-1)):=List.flatMap_append;rw[Zzf (by rw[Ex];omega),e0,List.drop_zero,Nat.mul_one]
  congr 1
  match n,hn,hn4 with
  |2,_,_=>rfl
  |3,_,_=>rfl
  |4,_,_=>rfl
 have b4:decide ((0:Int)<=(n:Int))=true:=by simp
 have b5:decide (Int.toNat (n:Int)<=l.length)=true:=by simp;omega
 have b6:(Ab l).extract (Int.toNat (n:Int)) l.length=Ab (l.drop n):=by rw[N4,Wt hl]
 have b7:acc.length+(n-1)=(acc++[A,B,C].take (n-1)).length:=by simp;omega
 rw[Gj];simp only[D4,An,dle,a1,a2,a3,a4,a5,a6,a7,a8,a9,b1,b2,b3,b4,b5,b6];rw[b7]
theorem Aai {a0:ByteArray}(Fv:10<=fu):∀(m:Nat)(l acc:List Int)(nn:Nat),l.length<=4*m->m+1<=nn->Dp l->l.length % 4≠1->acc.length+l.length<=1000000 ->
  Ca fu (Ae (CP p) prog fu (d+2)) a0 nn (Ab l) acc.length (Ck .u8 acc)=some (match G3 l with|none=>⟨[.own 1 0 [],.sc (.int .i64 2)],[]⟩|some b=>⟨[.own 1 (acc++b).length (Ck .u8 (acc++b)),.sc (.int .i64 0)],[]⟩):=by
 obtain⟨fu,rfl⟩:∃k,fu=k+10:=⟨fu-10,by omega⟩
 have zero:∀(acc:List Int) (nn:Nat),acc.length<=1000000->Ca (fu+10) (Ae (CP p) prog (fu+10) (d+2)) a0 (nn+1) (Ab []) acc.length (Ck .u8 acc)=some ⟨[.own 1 acc.length (Ck .u8 acc),.sc (.int .i64 0)],[]⟩:=by
  intro acc nn h;have a1:decide ((((Ab []).size:Nat):Int)>0)=false:=rfl;have a2:decide (acc.length*1<=List.length (Ck .u8 acc))=true:=by rw[Ex];simp
  have a3:List.take (acc.length*1) (Ck .u8 acc)=Ck .u8 acc:=Zzf (by rw[Ex];omega)
  rw[Gk];simp only[D4,a1,a2,a3]
 intro m
 induction m with
 |zero=>
  intro l acc nn hl Lj hB h1 Xm;have:l=[]:=List.eq_nil_of_length_eq_zero (by omega)
  subst this;obtain⟨k,rfl⟩:∃k,nn=k+1:=⟨nn-1,by omega⟩
  rw[zero acc k (by omega)]
  simp[G3]
 |succ m ih=>
  intro l acc nn hl Lj hB h1 Xm;obtain⟨k,rfl⟩:∃k,nn=k+1:=⟨nn-1,by omega⟩
  have head:∀(n:Nat),l.length>0->n=min l.length 4->Ca (fu+10) (Ae (CP p) prog (fu+10) (d+2)) a0 (k+1) (Ab l) acc.length (Ck .u8 acc)=Cb (fu+10) (Ae (CP p) prog (fu+10) (d+2)) a0 k (fu+10) (Ab l) acc.length (n:Int) 0 (n:Int) 0 (Ck .u8 acc):=by
   intro n hp hn;have a1:decide (((l.length:Nat):Int)>0)=true:=by simp;omega
   have a2:(if ((l.length:Nat):Int)<4 then ((l.length:Nat):Int) else 4)=(n:Int):=by split<;>omega
   rw[Gk];simp only[D4,An,a1,a2]
  match l,hl,hB,h1,Xm,head with
  |[],_,_,_,Xm,_=>
   rw[zero acc k (by simpa using Xm)]
   simp[G3]
  |[x],_,_,h1,_,_=>exact absurd rfl h1
  |[a,b],_,hB,_,Xm,head=>
   have va:=Fc a;have vb:=Fc b;rw[head 2 (by simp) rfl,show (0:Int)=((0:Nat):Int) from rfl]
   rw[J1 (c:=a) (by omega) (by omega) hB rfl (by simp) (by simp) (by simp)]
   unfold G3;by_cases ha:Az a<64
   ·rw[Ev ha,J1 (c:=b) (by omega) (by omega) hB rfl (by simp<;>omega) (by simp<;>omega) (by simp<;>omega)]
    by_cases hb:Az b<64
    ·rw[Ev hb,NA (by omega) (by omega) (by simp<;>omega) (by simp<;>omega)]
     rw[show (0:Int)=((0:Nat):Int) from rfl]
     rw[Als (X:=(((0:Nat):Int)+Az a*((2 ^ (18-6*0):Nat):Int)+Az b*((2 ^ (18-6*1):Nat):Int)) / 256 % 256) (by omega) (by omega) rfl]
     by_cases hz:Az b % 16=0
     ·rw[Ev (by simp<;>omega)]
      rw[Als (X:=(((0:Nat):Int)+Az a*((2 ^ (18-6*0):Nat):Int)+Az b*((2 ^ (18-6*1):Nat):Int)) % 256) (by omega) (by omega) rfl]
      rw[Ev (by simp<;>omega),NT (by omega) (by omega) hB (by simp) (by omega)]
      rw[Ev ⟨ha,hb,hz⟩];have hr:=ih [] (acc++[Az a*4+Az b / 16]) k (by simp) (by omega) (fun x hx=>by cases hx) (by simp) (by simp at Xm ⊢;omega)
      have e:(((0:Nat):Int)+Az a*((2 ^ (18-6*0):Nat):Int)+Az b*((2 ^ (18-6*1):Nat):Int)) / 65536 % 256=Az a*4+Az b / 16:=by simp;omega
      rw[e];refine hr.trans ?_;simp[G3]
     ·rw[Dr (by simp<;>omega),Dr (fun h=>hz h.2.2)]
    ·rw[Dr hb,Dr (fun h=>hb h.2.1)]
   ·rw[Dr ha,Dr (fun h=>ha h.1)]
  |[a,b,c],_,hB,_,Xm,head=>
   have va:=Fc a;have vb:=Fc b;have vc:=Fc c;rw[head 3 (by simp) rfl,show (0:Int)=((0:Nat):Int) from rfl]
   rw[J1 (c:=a) (by omega) (by omega) hB rfl (by simp) (by simp) (by simp)]
   unfold G3;by_cases ha:Az a<64
   ·rw[Ev ha,J1 (c:=b) (by omega) (by omega) hB rfl (by simp<;>omega) (by simp<;>omega) (by simp<;>omega)]
    by_cases hb:Az b<64
    ·rw[Ev hb,J1 (c:=c) (by omega) (by omega) hB rfl (by simp<;>omega) (by simp<;>omega) (by simp<;>omega)]
     by_cases hc:Az c<64
     ·rw[Ev hc,NA (by omega) (by omega) (by simp<;>omega) (by simp<;>omega)]
      rw[show (0:Int)=((0:Nat):Int) from rfl]
      rw[Als (X:=(((0:Nat):Int)+Az a*((2 ^ (18-6*0):Nat):Int)+Az b*((2 ^ (18-6*1):Nat):Int)+Az c*((2 ^ (18-6*2):Nat):Int)) % 256) (by omega) (by omega) rfl]
      by_cases hz:Az c % 4=0
      ·rw[Ev (by simp<;>omega),NT (by omega) (by omega) hB (by simp) (by omega)]
       rw[Ev ⟨ha,hb,hc,hz⟩];have hr:=ih [] (acc++[Az a*4+Az b / 16,Az b % 16*16+Az c / 4]) k (by simp) (by omega) (fun x hx=>by cases hx) (by simp) (by simp at Xm ⊢;omega)
       have e:(((0:Nat):Int)+Az a*((2 ^ (18-6*0):Nat):Int)+Az b*((2 ^ (18-6*1):Nat):Int)+Az c*((2 ^ (18-6*2):Nat):Int)) / 65536 % 256=Az a*4+Az b / 16:=by simp;omega
       have e2:(((0:Nat):Int)+Az a*((2 ^ (18-6*0):Nat):Int)+Az b*((2 ^ (18-6*1):Nat):Int)+Az c*((2 ^ (18-6*2):Nat):Int)) / 256 % 256=Az b % 16*16+Az c / 4:=by simp;omega
       rw[e,e2];refine hr.trans ?_;simp[G3]
      ·rw[Dr (by simp<;>omega),Dr (fun h=>hz h.2.2.2)]
     ·rw[Dr hc,Dr (fun h=>hc h.2.2.1)]
    ·rw[Dr hb,Dr (fun h=>hb h.2.1)]
   ·rw[Dr ha,Dr (fun h=>ha h.1)]
  |a::b::c::e::t,hl,hB,h1,Xm,head=>
   have va:=Fc a;have vb:=Fc b;have vc:=Fc c;have ve:=Fc e;rw[head 4 (by simp) (by simp<;>omega),show (0:Int)=((0:Nat):Int) from rfl]
   rw[J1 (c:=a) (by omega) (by omega) hB rfl (by simp) (by simp) (by simp)]
   unfold G3;by_cases ha:Az a<64
   ·rw[Ev ha,J1 (c:=b) (by omega) (by omega) hB rfl (by simp<;>omega) (by simp<;>omega) (by simp<;>omega)]
    by_cases hb:Az b<64
    ·rw[Ev hb,J1 (c:=c) (by omega) (by omega) hB rfl (by simp<;>omega) (by simp<;>omega) (by simp<;>omega)]
     by_cases hc:Az c<64
     ·rw[Ev hc,J1 (c:=e) (by omega) (by omega) hB rfl (by simp<;>omega) (by simp<;>omega) (by simp<;>omega)]
      by_cases he:Az e<64
      ·rw[Ev he,NA (by omega) (by omega) (by simp<;>omega) (by simp<;>omega)]
       rw[show (0:Int)=((4-4:Nat):Int) from rfl,NT (by omega) (by omega) hB (by simp) (by omega)]
       rw[Ev ⟨ha,hb,hc,he⟩];have hr:=ih t (acc++[Az a*4+Az b / 16,Az b % 16*16+Az c / 4,Az c % 4*64+Az e]) k (by simp at hl;omega) (by omega) (fun x hx=>hB x (by simp[hx])) (by simp at h1;omega) (by simp at Xm ⊢;omega)
       have e1:(((4-4:Nat):Int)+Az a*((2 ^ (18-6*0):Nat):Int)+Az b*((2 ^ (18-6*1):Nat):Int)+Az c*((2 ^ (18-6*2):Nat):Int)+Az e*((2 ^ (18-6*3):Nat):Int)) / 65536 % 256=Az a*4+Az b / 16:=by simp;omega
       have e2:(((4-4:Nat):Int)+Az a*((2 ^ (18-6*0):Nat):Int)+Az b*((2 ^ (18-6*1):Nat):Int)+Az c*((2 ^ (18-6*2):Nat):Int)+Az e*((2 ^ (18-6*3):Nat):Int)) / 256 % 256=Az b % 16*16+Az c / 4:=by simp;omega
       have e3:(((4-4:Nat):Int)+Az a*((2 ^ (18-6*0):Nat):Int)+Az b*((2 ^ (18-6*1):Nat):Int)+Az c*((2 ^ (18-6*2):Nat):Int)+Az e*((2 ^ (18-6*3):Nat):Int)) % 256=Az c % 4*64+Az e:=by simp;omega
       rw[e1,e2,e3];refine hr.trans ?_;cases G3 t<;>simp
      ·rw[Dr he,Dr (fun h=>he h.2.2.2)]
     ·rw[Dr hc,Dr (fun h=>hc h.2.2.1)]
    ·rw[Dr hb,Dr (fun h=>hb h.2.1)]
   ·rw[Dr ha,Dr (fun h=>ha h.1)]
theorem ZC:∀{l:List Int},l.length % 4=1->G3 l=none
 |[],h=>by simp at h
 |[_],_=>rfl
 |[_,_],h=>by simp at h
 |[_,_,_],h=>by simp at h
 |p::q::r::s::t,h=>by
  have:=ZC (l:=t) (by simp at h;omega)
  unfold G3;rw[this];simp
theorem Aaa {l:List Int}(hB:Dp l)(hl:l.length<=1000000)(Fv:10<=fu)(S9:l.length<=fu):Ae (CP p) prog fu (d+3) Hd [.sc (.string (Ab l))]=some (match G3 l with|none=>⟨[.own 1 0 [],.sc (.int .i64 2)],[]⟩|some b=>⟨[.own 1 b.length (Ck .u8 b),.sc (.int .i64 0)],[]⟩):=by
 rw[Mv];have a0:Int.tmod ((l.length:Nat):Int) 4=((l.length % 4:Nat):Int):=by rw[Int.tmod_eq_emod_of_nonneg (by omega)];omega
 by_cases h1:l.length % 4=1
 ·have a1:(((l.length % 4:Nat):Int)==1)=true:=by rw[h1];rfl
  rw[ZC h1];simp only[D4,An,a0,a1]
 ·have a1:(((l.length % 4:Nat):Int)==1)=false:=by simp;omega
  have a2:Int.tdiv ((l.length:Nat):Int) 4=((l.length / 4:Nat):Int):=by rw[Int.tdiv_eq_ediv_of_nonneg (by omega)];omega
  have a3:wrap .i64 ((l.length / 4:Nat):Int)=((l.length / 4:Nat):Int):=Bc (by omega) (by omega)
  have a4:wrap .i64 (((l.length / 4:Nat):Int)*3)=((l.length / 4:Nat):Int)*3:=Bc (by omega) (by omega)
  have a5:wrap .i64 (((l.length / 4:Nat):Int)*3+2)=((l.length / 4:Nat):Int)*3+2:=Bc (by omega) (by omega)
  have a6:decide ((0:Int)<=((l.length / 4:Nat):Int)*3+2)=true:=by simp;omega
  have a7:decide ((((l.length / 4:Nat):Int)*3+2)*1<=1099511627776)=true:=by simp;omega
  have a8:decide (((l.length / 4:Nat):Int)*3+2<=1099511627776)=true:=by simp;omega
  have hd:=Aai (d:=d) (p:=p) (a0:=Ab l) Fv (l.length / 4+1) l [] fu (by omega) (by omega) hB h1 (by simp<;>omega)
  simp only[D4,An,a0,a1,a2,a3,a4,a5,a6,a7,a8];refine hd.trans ?_;cases G3 l<;>simp
end
end
section
open Go.Proofs.Tryd (prog)
open Go.IntKind (wrap)
set_option maxRecDepth 100000
theorem dT {q:Prop} [Decidable q] (h:q):decide q=true:=decide_eq_true h
theorem dF {q:Prop} [Decidable q] (h:¬q):decide q=false:=decide_eq_false h
theorem bT {q:Prop} [Decidable q] (h:q):(!decide q)=false:=by simp[h]
theorem bF {q:Prop} [Decidable q] (h:¬q):(!decide q)=true:=by simp[h]
def UT (n i:Nat)(c:Int):Bool:=ltB c||(c==45&&decide (0<i)&&decide (i+1<n))
def Uk (n:Nat):Nat->List Int->Bool
 |_,[]=>true
 |i,c::r=>UT n i c&&Uk n (i+1) r
theorem DW (n i:Nat)(c:Int)(r:List Int):Uk n i (c::r)=(UT n i c&&Uk n (i+1) r):=rfl
theorem YI:ltB 45=false:=rfl
theorem SH (n:Nat):∀(r:List Int)(i:Nat),i+r.length=n->Uk n i r=(r.all (fun x=>ltB x||x==45) && !(decide (i=0)&&r.head?==some 45) && !(r.getLast?==some 45))
 |[],i,_=>by simp[Uk]
 |[c],i,h=>by
  simp only[RS,List.length_nil] at h;unfold Uk UT;by_cases hc:c=45
  ·subst hc;have:¬i+1<n:=by omega
   simp[Uk,YI,this]
  ·have hcb:(c==45)=false:=by simp[hc]
   simp[Uk,hcb]
 |c::x::r,i,h=>by
  have ih:=SH n (x::r) (i+1) (by simp at h ⊢;omega)
  have hl:(c::x::r).getLast?=(x::r).getLast?:=by simp
  unfold Uk;rw[ih,hl];have h1:i+1<n:=by simp at h;omega
  unfold UT;by_cases hc:c=45
  ·subst hc;by_cases hi:i=0
   ·subst hi;simp[YI]
   ·have:0<i:=by omega
    simp[YI,h1,hi,this]
  ·have hcb:(c==45)=false:=by simp[hc]
   simp[hcb,Bool.and_assoc]
theorem Ac6 {l:List Int}(h1:1<=l.length)(h2:l.length<=63):Uj l=Uk l.length 0 l:=by
 rw[SH _ l 0 (by simp)]
 unfold Uj;rw[dT h1,dT h2];cases l.all (fun x=>ltB x||x==45)<;>cases (l.head?==some 45)<;>cases (l.getLast?==some 45)<;>rfl
section
variable {fu d:Nat} {p:Option (List PV->Option Ay)}
theorem KQ {call:Ax}{a0:ByteArray}{l:List Int}(hB:Dp l)(hs:l.length<=63):∀(r:List Int)(i nn:Nat),l.drop i=r->r.length+1<=nn ->
  A9 fu call a0 nn (Ab l) (l.length:Int) (i:Int)=some ⟨[.sc (.bool (Uk l.length i r))],[]⟩
 |[],i,nn,hd,hn=>by
  obtain⟨k,rfl⟩:∃k,nn=k+1:=⟨nn-1,by omega⟩
  have hi:=Kt hd;have a1:decide ((i:Int)<(l.length:Int))=false:=by simp;omega
  rw[I2];simp only[D4,a1];rfl
 |c::r,i,nn,hd,hn=>by
  obtain⟨k,rfl⟩:∃k,nn=k+1:=⟨nn-1,by omega⟩
  obtain⟨hi,hc,K7⟩:=Hg hd;have ih:=KQ (call:=call) (a0:=a0) hB hs r (i+1) k K7 (by simp at hn;omega)
  have UF:=hB c (List.mem_of_getElem? hc);have a1:decide ((i:Int)<(l.length:Int))=true:=by simp;omega
  have a2:decide ((0:Int)<=(i:Int))=true:=by simp
  have a3:(Array.toList (Ab l).data)[Int.toNat (i:Int)]?=some c.toNat.toUInt8:=by
   rw[N4];show (l.map fun n=>n.toNat.toUInt8)[i]?=_
   rw[List.getElem?_map,hc];rfl
  have a4:=Ux UF;have a5:wrap .i64 ((i:Int)+1)=((i+1:Nat):Int):=by rw[Bc (by omega) (by omega)];omega
  have a6:wrap .i64 ((l.length:Int)-1)=(l.length:Int)-1:=Bc (by omega) (by omega)
  have good:UT l.length i c=true->(A9 fu call a0 k (Ab l) (l.length:Int) ((i+1:Nat):Int)=some ⟨[.sc (.bool (Uk l.length i (c::r)))],[]⟩):=by
   intro h;rw[ih,DW,h,Bool.true_and]
  have bad:UT l.length i c=false->some (Ay.mk [PV.sc (.bool false)] [])=some ⟨[.sc (.bool (Uk l.length i (c::r)))],[]⟩:=by
   intro h;rw[DW,h,WO]
  rw[I2];by_cases hA:97<=c∧c<=122
  ·have q1:=dT hA.1;have q2:=dT hA.2;have q3:(c==45)=false:=by simp;omega
   have q4:=dT (q:=(48:Int)<=c) (by omega)
   have q5:=bF (q:=c<=57) (by omega)
   simp only[D4,a1,a2,a3,a4,a5,a6,An,q1,q2,q3,q4,q5];exact good (by unfold UT ltB;simp[hA])
  by_cases hD:48<=c∧c<=57
  ·have q1:=dF (q:=(97:Int)<=c) (by omega)
   have q2:=dT (q:=c<=122) (by omega)
   have q3:(c==45)=false:=by simp;omega
   have q4:=dT hD.1;have q5:=bT hD.2;simp only[D4,a1,a2,a3,a4,a5,a6,An,q1,q2,q3,q4,q5];exact good (by unfold UT ltB GU;simp[hD])
  have B6:ltB c=false:=by
   unfold ltB GU;simp;exact⟨fun h=>by omega,fun h=>by omega⟩
  by_cases hM:c=45
  ·subst hM;have q1:decide ((97:Int)<=45)=false:=rfl;have q2:decide ((45:Int)<=122)=true:=rfl;have q3:((45:Int)==45)=true:=rfl;have q4:decide ((48:Int)<=45)=false:=rfl;have q5:(!decide ((45:Int)<=57))=false:=rfl;by_cases h0:0<i
   ·have q6:=dT (q:=(i:Int)>0) (by omega)
    by_cases h1:i+1<l.length
    ·have q7:=bT (q:=(i:Int)<(l.length:Int)-1) (by omega)
     simp only[D4,a1,a2,a3,a4,a5,a6,An,q1,q2,q3,q4,q5,q6,q7];exact good (by unfold UT;simp[h0,h1])
    ·have q7:=bF (q:=(i:Int)<(l.length:Int)-1) (by omega)
     simp only[D4,a1,a2,a3,a4,a5,a6,An,q1,q2,q3,q4,q5,q6,q7];exact bad (by unfold UT;simp[h1,B6])
   ·have q6:=dF (q:=(i:Int)>0) (by omega)
    simp only[D4,a1,a2,a3,a4,a5,a6,An,q1,q2,q3,q4,q5,q6];exact bad (by unfold UT;simp[h0,B6])
  have q3:(c==45)=false:=by simp[hM]
  have UM:UT l.length i c=false:=by unfold UT;simp[B6,hM]
  by_cases h97:97<=c
  ·have q1:=dT h97;have q2:=dF (q:=c<=122) (by omega)
   have q4:=dT (q:=(48:Int)<=c) (by omega)
   have q5:=bF (q:=c<=57) (by omega)
   simp only[D4,a1,a2,a3,a4,a5,a6,An,q1,q2,q3,q4,q5];exact bad UM
  ·have q1:=dF h97;have q2:=dT (q:=c<=122) (by omega)
   by_cases h48:48<=c
   ·have q4:=dT h48;have q5:=bF (q:=c<=57) (by omega)
    simp only[D4,a1,a2,a3,a4,a5,a6,An,q1,q2,q3,q4,q5];exact bad UM
   ·have q4:=dF h48;have q5:=bT (q:=c<=57) (by omega)
    simp only[D4,a1,a2,a3,a4,a5,a6,An,q1,q2,q3,q4,q5];exact bad UM
theorem Adx {l:List Int}(hB:Dp l)(Fv:100<=fu):Ae (CP p) prog fu (d+1) Lq [.sc (.string (Ab l))]=some ⟨[.sc (.bool (Uj l))],[]⟩:=by
 rw[So];by_cases h1:1<=l.length
 ·by_cases h2:l.length<=63
  ·have a1:decide (((l.length:Nat):Int)<1)=false:=by simp;omega
   have a2:decide (((l.length:Nat):Int)>63)=false:=by simp;omega
   rw[Ac6 h1 h2];simp only[D4,An,a1,a2];exact KQ hB h2 l 0 fu rfl (by omega)
  ·have a1:decide (((l.length:Nat):Int)<1)=false:=by simp;omega
   have a2:decide (((l.length:Nat):Int)>63)=true:=by simp;omega
   have e:Uj l=false:=by unfold Uj;simp[h2]
   rw[e];simp only[D4,An,a1,a2]
 ·have a1:decide (((l.length:Nat):Int)<1)=true:=by simp;omega
  have e:Uj l=false:=by unfold Uj;simp[h1]
  rw[e];simp only[D4,An,a1]
theorem Aac (l cs:List UInt8):(Lib.trimS l cs==[])=l.all (cs.contains ·):=by
 have key:∀(q:UInt8->Bool) (m:List UInt8),m.dropWhile q=[]↔m.all q=true:=by
  intro q m
  induction m with
  |nil=>simp
  |cons x m ih=>
   by_cases hx:q x=true
   ·rw[List.dropWhile_cons_of_pos hx,ih];simp[hx]
   ·rw[List.dropWhile_cons_of_neg hx];simp[hx]
 unfold Lib.trimS Lib.trimLeftS Lib.trimRightS;rw[Bool.eq_iff_iff,beq_iff_eq,key,List.all_reverse,←key,key,List.all_eq_true]
 have h2:∀(q:UInt8->Bool) (m:List UInt8),(m.dropWhile q).all q=true↔m.all q=true:=by
  intro q m
  induction m with
  |nil=>simp
  |cons x m ih=>
   by_cases hx:q x=true
   ·rw[List.dropWhile_cons_of_pos hx,ih];simp[hx]
   ·rw[List.dropWhile_cons_of_neg hx]
 rw[←List.all_eq_true,h2,List.all_reverse]
def O8:ByteArray:=⟨#[48,49,50,51,52,53,54,55,56,57]⟩
theorem Ai7:∀n:Fin 256,O8.data.toList.contains (n.val:Int).toNat.toUInt8=GU (n.val:Int):=by decide +kernel
theorem Aij {l:List Int}(h:Dp l):((l.map fun n=>n.toNat.toUInt8).all (O8.data.toList.contains ·))=l.all GU:=by
 induction l with
 |nil=>rfl
 |cons c r ih=>
  obtain⟨hc,hr⟩:=Be h;obtain⟨n,rfl⟩:=Int.eq_ofNat_of_zero_le hc.1;rw[List.map_cons,List.all_cons,List.all_cons,ih hr]
  congr 1
  exact Ai7 ⟨n,by omega⟩
theorem Akg {l:List Int}(hB:Dp l)(hs:l.length<=1000000):∃x,Ae (CP p) prog fu (d+1) 66 [.sc (.string (Ab l)),.sc (.string O8)]=some ⟨[.sc (.string x)],[]⟩∧(Array.toList x.data==Array.toList (ByteArray.mk #[]).data)=l.all GU:=by
 refine⟨⟨(Lib.trimS (Ab l).data.toList O8.data.toList).toArray⟩,?_,?_⟩
 ·have e:Ae (CP p) prog fu (d+1) 66 [.sc (.string (Ab l)),.sc (.string O8)]=LC [.sc (.string (Ab l)),.sc (.string O8)]:=rfl;rw[e];unfold LC
  have:(Nat.ble O8.size 1000&&O8.data.toList.all (fun b=>decide (b.toNat<128))&&decide ((Ab l).size<=1000000000))=true:=by
   rw[An];have h1:(Nat.ble O8.size 1000&&O8.data.toList.all (fun b=>decide (b.toNat<128)))=true:=by decide +kernel
   rw[h1,dT (q:=l.length<=1000000000) (by omega)]
   rfl
  simp only[this,cond_true]
 ·show (Lib.trimS (Ab l).data.toList O8.data.toList==[])=_;rw[Aac];exact Aij hB
theorem Ye (c:Int):∀{l:List Int},Dp l->∀x∈Ba c l,Dp x∧x.length<=l.length
 |[],_,x,hx=>by simp[Ba] at hx;subst hx;exact⟨(fun y hy=>nomatch hy),Nat.le_refl _⟩
 |a::r,h,x,hx=>by
  obtain⟨ha,hr⟩:=Be h;have ih:=Ye c hr;unfold Ba at hx;split at hx
  ·rcases List.mem_cons.1 hx with rfl|hx
   ·exact⟨(fun y hy=>nomatch hy),Nat.zero_le _⟩
   ·exact⟨(ih x hx).1,Nat.le_succ_of_le (ih x hx).2⟩
  ·cases hs:Ba c r with
   |nil=>exact absurd hs (Qb c r)
   |cons b t=>
    rw[hs] at hx ih;rcases List.mem_cons.1 hx with rfl|hx
    ·obtain⟨q1,q2⟩:=ih b (by simp)
     refine⟨fun y hy=>?_,by simp;omega⟩
     rcases List.mem_cons.1 hy with rfl|hy
     ·exact ha
     ·exact q1 y hy
    ·exact⟨(ih x (by simp[hx])).1,Nat.le_succ_of_le (ih x (by simp[hx])).2⟩
theorem LR {a0:ByteArray}(Fv:200<=fu){ls:List (List Int)} (hB:∀x∈ls,Dp x∧x.length<=1000)(h0:ls≠[]) (hN:ls.length<=1000):∀(r:List (List Int)) (i nn:Nat),ls.drop i=r->r.length+1<=nn ->
  Gq fu (Ae (CP p) prog fu (d+1)) a0 nn ls.length ls.length (ls.length:Int) (i:Int) (ls.map AY)=some ⟨[.sc (.int .i64 (if r.all Uj=false then 2 else if (ls.getLastD []).all GU=true then 2 else 0))],[]⟩
 |[],i,nn,hd,hn=>by
  obtain⟨k,rfl⟩:∃k,nn=k+1:=⟨nn-1,by omega⟩
  have hi:=Kt hd;have YH:0<ls.length:=List.length_pos_iff.2 h0;have a1:decide ((i:Int)<(ls.length:Int))=false:=by simp;omega
  have a2:wrap .i64 ((ls.length:Int)-1)=((ls.length-1:Nat):Int):=by rw[Bc (by omega) (by omega)];omega
  have a3:decide ((0:Int)<=((ls.length-1:Nat):Int))=true:=by simp
  have a4:decide (((ls.length-1:Nat):Int)<(ls.length:Int))=true:=by simp;omega
  have Agd:ls.getLastD []=ls[ls.length-1]'(by omega):=by
   rw[List.getLastD_eq_getLast?,List.getLast?_eq_getElem?,List.getElem?_eq_getElem (by omega)]
   rfl
  have a5:List.getD (ls.map AY) (0+Int.toNat ((ls.length-1:Nat):Int)*1) PV.top=.sc (.string (Ab (ls.getLastD []))):=by
   rw[N4,Nat.zero_add,Nat.mul_one,List.getD_eq_getElem?_getD,List.getElem?_map,List.getElem?_eq_getElem (by omega),Agd]
   rfl
  have hm:=hB (ls.getLastD []) (by rw[Agd];exact List.getElem_mem _)
  obtain⟨x,e,hx⟩:=Akg (fu:=fu) (d:=d) (p:=p) hm.1 (by omega)
  have e2:Ae (CP p) prog fu (d+1) 66 [.sc (.string (Ab (ls.getLastD []))),.sc (.string (ByteArray.mk #[(48:UInt8),(49:UInt8),(50:UInt8),(51:UInt8),(52:UInt8),(53:UInt8),(54:UInt8),(55:UInt8),(56:UInt8),(57:UInt8)]))]=some ⟨[.sc (.string x)],[]⟩:=e;rw[K6];cases hq:(ls.getLastD []).all GU
  ·rw[hq] at hx;simp only[D4,a1,a2,a3,a4,a5,e2,hx,List.all_nil,Bool.true_eq_false,if_false,Bool.false_eq_true]
  ·rw[hq] at hx;simp only[D4,a1,a2,a3,a4,a5,e2,hx,List.all_nil,Bool.true_eq_false,if_false,if_true]
 |x::r,i,nn,hd,hn=>by
  obtain⟨k,rfl⟩:∃k,nn=k+1:=⟨nn-1,by omega⟩
  obtain⟨hi,hc,K7⟩:=Hg hd;have ih:=LR (a0:=a0) Fv hB h0 hN r (i+1) k K7 (by simp at hn;omega)
  have hm:=hB x (List.mem_of_getElem? hc);have e:Ae (CP p) prog fu (d+1) 65 [.sc (.string (Ab x))]=_:=Adx (fu:=fu) (d:=d) (p:=p) hm.1 (by omega)
  have a1:decide ((i:Int)<(ls.length:Int))=true:=by simp;omega
  have a2:decide ((0:Int)<=(i:Int))=true:=by simp
  have a5:List.getD (ls.map AY) (0+Int.toNat (i:Int)*1) PV.top=.sc (.string (Ab x)):=by
   rw[N4,Nat.zero_add,Nat.mul_one,List.getD_eq_getElem?_getD,List.getElem?_map,hc];rfl
  have a6:wrap .i64 ((i:Int)+1)=((i+1:Nat):Int):=by rw[Bc (by omega) (by omega)];omega
  rw[K6];cases hq:Uj x
  ·rw[hq] at e;have:((x::r).all Uj=false):=by simp[hq]
   rw[Ev this];simp only[D4,a1,a2,a5,e,D3]
  ·rw[hq] at e;have:(x::r).all Uj=r.all Uj:=by simp[hq]
   rw[this];simp only[D4,a1,a2,a5,e,Dg,a6];exact ih
theorem Ake {l:List Int}(hB:Dp l)(hs:l.length<=1000000)(Fv:200<=fu):Ae (CP p) prog fu (d+6) N6 [.sc (.string (Ab l))]=some ⟨[.sc (.int .i64 (Yt l))],[]⟩:=by
 rw[Wn];unfold Yt;by_cases h:100<l.length
 ·have a1:decide (((l.length:Nat):Int)>100)=true:=by simp;omega
  rw[Ev h];simp only[D4,An,a1]
 ·have a1:decide (((l.length:Nat):Int)>100)=false:=by simp;omega
  have e:Ae (CP p) prog fu (d+5) 64 [.sc (.string (Ab l)),.sc (.string (ByteArray.mk #[(46:UInt8)]))]=_:=Ado (fu:=fu) (d:=d) (p:=p) (c:=46) (by omega) hB (by omega) (by omega)
  have hn:=Tw 46 l;have hd:=LR (a0:=Ab l) (fu:=fu) (d:=d+4) (p:=p) (by omega) (ls:=Ba 46 l) (fun x hx=>⟨(Ye 46 hB x hx).1,by have:=(Ye 46 hB x hx).2;omega⟩) (Qb 46 l) (by omega) (Ba 46 l) 0 fu rfl (by omega)
  rw[Dr h];simp only[D4,An,a1,e];exact hd
theorem Afx (s:Bool):Ae (CP p) prog fu (d+1) I0 [.sc (.bool s)]=some ⟨[.sc (.int .i64 (dfl s))],[]⟩:=by
 rw[Pd];cases s<;>simp only[D4]<;>rfl
theorem RD (c:Int):GU c=true↔48<=c∧c<=57:=by unfold GU;simp
theorem DN {call:Ax}{a0:ByteArray}{l:List Int}(hB:Dp l)(hs:l.length<=5):∀(r:List Int)(i nn:Nat)(n:Int),l.drop i=r->r.length+1<=nn->0<=n->n<10 ^ i ->
  E3 fu call a0 nn (Ab l) n (l.length:Int) (i:Int)=some (if r.all GU=true then ⟨[.sc (.int .i64 (r.foldl (fun n x=>10*n+(x-48)) n)),.sc (.bool (decide (r.foldl (fun n x=>10*n+(x-48)) n<=65535)))],[]⟩ else ⟨[.sc (.int .i64 0),.sc (.bool false)],[]⟩)
 |[],i,nn,n,hd,hn,h0,h1=>by
  obtain⟨k,rfl⟩:∃k,nn=k+1:=⟨nn-1,by omega⟩
  have hi:=Kt hd;have a1:decide ((i:Int)<(l.length:Int))=false:=by simp;omega
  rw[H9];simp only[D4,a1];rfl
 |c::r,i,nn,n,hd,hn,h0,h1=>by
  obtain⟨k,rfl⟩:∃k,nn=k+1:=⟨nn-1,by omega⟩
  obtain⟨hi,hc,K7⟩:=Hg hd;have UF:=hB c (List.mem_of_getElem? hc)
  have hp:(10:Int) ^ i<=10 ^ 4:=by
   have h:=Nat.pow_le_pow_right (n:=10) (by omega) (show i<=4 by omega)
   exact_mod_cast h
  have hp2:(10:Int) ^ (i+1)=10 ^ i*10:=Int.pow_succ ..;have a1:decide ((i:Int)<(l.length:Int))=true:=by simp;omega
  have a2:decide ((0:Int)<=(i:Int))=true:=by simp
  have a3:(Array.toList (Ab l).data)[Int.toNat (i:Int)]?=some c.toNat.toUInt8:=by
   rw[N4];show (l.map fun n=>n.toNat.toUInt8)[i]?=_
   rw[List.getElem?_map,hc];rfl
  have a4:=Ux UF;rw[H9];by_cases hq:48<=c∧c<=57
  ·have q1:=dF (q:=c<48) (by omega)
   have q2:=dF (q:=c>57) (by omega)
   have a5:wrap .i64 (10*n)=10*n:=Bc (by omega) (by omega)
   have a6:wrap .u8 (c-48)=c-48:=Wz (by omega) (by omega)
   have a7:wrap .i64 (c-48)=c-48:=Bc (by omega) (by omega)
   have a8:wrap .i64 (10*n+(c-48))=10*n+(c-48):=Bc (by omega) (by omega)
   have a9:wrap .i64 ((i:Int)+1)=((i+1:Nat):Int):=by rw[Bc (by omega) (by omega)];omega
   have ih:=DN (call:=call) (a0:=a0) hB hs r (i+1) k (10*n+(c-48)) K7 (by simp at hn;omega) (by omega) (by omega)
   have e:(c::r).all GU=r.all GU:=by rw[List.all_cons,(RD c).2 hq,Bool.true_and]
   simp only[D4,a1,a2,a3,a4,q1,q2,a5,a6,a7,a8,a9];rw[ih,e];rfl
  ·have e:(c::r).all GU=false:=by
    have:GU c=false:=by
     cases hb:GU c
     ·rfl
     ·exact absurd ((RD c).1 hb) hq
    rw[List.all_cons,this,WO]
   rw[e];by_cases h48:c<48
   ·have q1:=dT h48;simp only[D4,a1,a2,a3,a4,q1,Bool.false_eq_true,if_false]
   ·have q1:=dF h48;have q2:=dT (q:=c>57) (by omega)
    simp only[D4,a1,a2,a3,a4,q1,q2,Bool.false_eq_true,if_false]
theorem Ajb {l:List Int}(hB:Dp l)(Fv:100<=fu):Ae (CP p) prog fu (d+1) Kh [.sc (.string (Ab l))]=some (if Oq l=true then ⟨[.sc (.int .i64 (LV l)),.sc (.bool (decide (LV l<=65535)))],[]⟩ else ⟨[.sc (.int .i64 0),.sc (.bool false)],[]⟩):=by
 rw[Ro];by_cases h1:1<=l.length
 ·by_cases h2:l.length<=5
  ·have a1:decide (((l.length:Nat):Int)<1)=false:=by simp;omega
   have a2:decide (((l.length:Nat):Int)>5)=false:=by simp;omega
   cases l with
   |nil=>simp at h1
   |cons c r=>
    have UF:=hB c (by simp)
    have a3:(Array.toList (Ab (c::r)).data)[0]?=some c.toNat.toUInt8:=rfl;have a4:=Ux UF;by_cases h0:c=48
    ·subst h0;have e:Oq (48::r)=false:=by unfold Oq;simp
     have q:((48:Int)==48)=true:=rfl;rw[e];simp only[D4,An,a1,a2,a3,a4,q,Bool.false_eq_true,if_false]
    ·have q:(c==48)=false:=by simp[h0]
     have e:Oq (c::r)=(c::r).all GU:=by
      unfold Oq;rw[dT h1,dT h2];simp[h0]
     have hl:=DN (call:=Ae (CP p) prog fu d) (fu:=fu) (a0:=Ab (c::r)) hB h2 (c::r) 0 fu 0 rfl (by omega) (by omega) (by decide)
     rw[e];simp only[D4,An,a1,a2,a3,a4,q];exact hl
  ·have a1:decide (((l.length:Nat):Int)<1)=false:=by simp;omega
   have a2:decide (((l.length:Nat):Int)>5)=true:=by simp;omega
   have e:Oq l=false:=by unfold Oq;simp[h2]
   rw[e];simp only[D4,An,a1,a2,Bool.false_eq_true,if_false]
 ·have a1:decide (((l.length:Nat):Int)<1)=true:=by simp;omega
  have e:Oq l=false:=by unfold Oq;simp[h1]
  rw[e];simp only[D4,An,a1,Bool.false_eq_true,if_false]
theorem Ag2 {l:List Int}(hB:Dp l)(hs:l.length<=1000000)(Fv:200<=fu):∃o1 o2 o3,Ae (CP p) prog fu (d+7) O9 [.sc (.string (Ab l))]=some ⟨[.agg [.sc (.bool o1),.sc (.string o2),.sc (.int .i64 o3)],.sc (.int .i64 (Ga l))],[]⟩:=by
  have hsp:=Aho (fu:=fu) (d:=d+2) (p:=p) hB (w:=[104,116,116,112,115,58,47,47]) (fun x hx=>by simp at hx;omega)
  have R2:=Aho (fu:=fu) (d:=d+2) (p:=p) hB (w:=[104,116,116,112,58,47,47]) (fun x hx=>by simp at hx;omega)
  have e1:Ae (CP p) prog fu (d+6) 44 [.sc (.string (Ab l)),.sc (.string (ByteArray.mk #[(104:UInt8),(116:UInt8),(116:UInt8),(112:UInt8),(115:UInt8),(58:UInt8),(47:UInt8),(47:UInt8)]))]=_:=hsp
  have e2:Ae (CP p) prog fu (d+6) 44 [.sc (.string (Ab l)),.sc (.string (ByteArray.mk #[(104:UInt8),(116:UInt8),(116:UInt8),(112:UInt8),(58:UInt8),(47:UInt8),(47:UInt8)]))]=_:=R2
  have tail:∀(s:Bool) (r:List Int),Dp r->r.length<=1000000->∃o1 o2 o3,(Ai (Ae (CP p) prog fu (d+6) 45 [PV.sc (Value.string (Ab r)),PV.sc (Value.string (ByteArray.mk #[(58:UInt8)]))]) fun K0 N3=>
    Ad (N3) <|
    Aa (K0) fun Nz N8=>
    A0 (Nz) fun Oc=>
    Aa (N8) fun P8 M4=>
    A0 (P8) fun Qi=>
    Aa (M4) fun M3 M8=>
    Am (M3) fun Qe=>
    Ad (M8) <|
    Ai (Ae (CP p) prog fu (d+6) 46 [PV.sc (Value.string Oc)]) fun Rm Ov=>
    Ad (Ov) <|
    Aa (Rm) fun Q4 R1=>
    Aw (IntKind.i64) (Q4) fun Tc=>
    Ad (R1) <|
    Bh (Tc != (0:Int))
     (
     some (Ay.mk [PV.agg [PV.sc (Value.bool false),PV.sc (Value.string (ByteArray.mk #[])),PV.sc (Value.int IntKind.i64 (0:Int))],PV.sc (Value.int IntKind.i64 Tc)] []))
     (
     Ai (Ae (CP p) prog fu (d+6) 47 [PV.sc (Value.bool s)]) fun Ul Uc=>
     Ad (Uc) <|
     Aa (Ul) fun Us V1=>
     Aw (IntKind.i64) (Us) fun Wy=>
     Ad (V1) <|
     Bh (Qe)
      (
      Ai (Ae (CP p) prog fu (d+6) 48 [PV.sc (Value.string Qi)]) fun Y7 Rt=>
      Ad (Rt) <|
      Aa (Y7) fun CU DA=>
      Aw (IntKind.i64) (CU) fun Rn=>
      Aa (DA) fun O3 AM=>
      Am (O3) fun AB=>
      Ad (AM) <|
      Bh (!AB)
       (
       some (Ay.mk [PV.agg [PV.sc (Value.bool false),PV.sc (Value.string (ByteArray.mk #[])),PV.sc (Value.int IntKind.i64 (0:Int))],PV.sc (Value.int IntKind.i64 (2:Int))] []))
       (
       Bh (Rn==Wy)
        (
        some (Ay.mk [PV.agg [PV.sc (Value.bool false),PV.sc (Value.string (ByteArray.mk #[])),PV.sc (Value.int IntKind.i64 (0:Int))],PV.sc (Value.int IntKind.i64 (2:Int))] []))
        (
        some (Ay.mk [PV.agg [PV.sc (Value.bool s),PV.sc (Value.string Oc),PV.sc (Value.int IntKind.i64 Rn)],PV.sc (Value.int IntKind.i64 (0:Int))] []))))
      (
      some (Ay.mk [PV.agg [PV.sc (Value.bool s),PV.sc (Value.string Oc),PV.sc (Value.int IntKind.i64 Wy)],PV.sc (Value.int IntKind.i64 (0:Int))] []))))=some ⟨[.agg [.sc (.bool o1),.sc (.string o2),.sc (.int .i64 o3)],.sc (.int .i64 (RZ s r))],[]⟩:=by
    intro s r hr hrl
    have c1:Ae (CP p) prog fu (d+6) 45 [.sc (.string (Ab r)),.sc (.string (ByteArray.mk #[(58:UInt8)]))]=_:=Aps (fu:=fu) (d:=d+2) (p:=p) (c:=58) (by omega) hr hrl
    have Nf:=RI 58 r
    have hbB:Dp (B7 58 r):=by rw[R4];exact fun x hx=>hr x (List.mem_of_mem_take hx)
    have hdB:Dp (r.drop ((B7 58 r).length+1)):=fun x hx=>hr x (List.mem_of_mem_drop hx)
    have c2:Ae (CP p) prog fu (d+6) 46 [.sc (.string (Ab (B7 58 r)))]=_:=Ake (fu:=fu) (d:=d) (p:=p) hbB (by omega) Fv
    have c3:Ae (CP p) prog fu (d+6) 47 [.sc (.bool s)]=_:=Afx (fu:=fu) (d:=d+5) (p:=p) s
    have c4:Ae (CP p) prog fu (d+6) 48 [.sc (.string (Ab (r.drop ((B7 58 r).length+1))))]=_:=Ajb (fu:=fu) (d:=d+5) (p:=p) hdB (by omega)
    unfold RZ
    by_cases hh:Yt (B7 58 r)=0
    · have b1:(Yt (B7 58 r) != 0)=false:=by simp[hh]
      simp only[ne_eq,hh,not_true_eq_false,if_false]
      by_cases hw:(B7 58 r).length<r.length
      · rw[dT hw] at c1
        rw[Dr (show ¬(B7 58 r).length=r.length by omega)]
        by_cases hp:Oq (r.drop ((B7 58 r).length+1))=true
        · rw[Ev hp] at c4
          by_cases hv:LV (r.drop ((B7 58 r).length+1))<=65535
          · rw[dT hv] at c4
            by_cases hdp:LV (r.drop ((B7 58 r).length+1))=dfl s
            · have b2:(LV (r.drop ((B7 58 r).length+1))==dfl s)=true:=by simp[hdp]
              rw[Dr (by rintro⟨_,_,h⟩;exact h hdp)]
              exact⟨_,_,_,by simp only[D4,c1,c2,hh,c3,c4,b2,Dg,show ((0:Int) != 0)=false from rfl];rfl⟩
            · have b2:(LV (r.drop ((B7 58 r).length+1))==dfl s)=false:=by simp[hdp]
              rw[Ev ⟨hp,hv,hdp⟩]
              exact⟨_,_,_,by simp only[D4,c1,c2,hh,c3,c4,b2,Dg,show ((0:Int) != 0)=false from rfl];rfl⟩
          · rw[dF hv] at c4
            rw[Dr (by rintro⟨_,h,_⟩;exact hv h)]
            exact⟨_,_,_,by simp only[D4,c1,c2,hh,c3,c4,D3,show ((0:Int) != 0)=false from rfl];rfl⟩
        · rw[Dr hp] at c4
          rw[Dr (by rintro⟨h,_,_⟩;exact hp h)]
          exact⟨_,_,_,by simp only[D4,c1,c2,hh,c3,c4,D3,show ((0:Int) != 0)=false from rfl];rfl⟩
      · rw[dF hw] at c1
        rw[Ev (show (B7 58 r).length=r.length by omega)]
        exact⟨_,_,_,by simp only[D4,c1,c2,hh,c3,show ((0:Int) != 0)=false from rfl];rfl⟩
    · have b1:(Yt (B7 58 r) != 0)=true:=by simp[hh]
      simp only[ne_eq,hh,not_false_eq_true,if_true]
      exact⟨_,_,_,by simp only[D4,c1,c2,b1];rfl⟩
  have er:=Yq (p:=p) fu (d+6) (Ab l)
  unfold Ga
  cases h1:List.isPrefixOf [104,116,116,112,115,58,47,47] l
  · rw[h1] at e1
    simp only[Bool.false_eq_true,if_false] at e1 ⊢
    cases h2:List.isPrefixOf [104,116,116,112,58,47,47] l
    · rw[h2] at e2
      simp only[Bool.false_eq_true,if_false] at e2 ⊢
      exact⟨_,_,_,er.trans (by simp only[D4,e1,e2,D3];rfl)⟩
    · rw[h2] at e2
      simp only[if_true] at e2 ⊢
      obtain⟨o1,o2,o3,ht⟩:=tail false (l.drop 7) (fun x hx=>hB x (List.mem_of_mem_drop hx)) (by simp;omega)
      refine⟨o1,o2,o3,er.trans ?_⟩
      simp only[Ws,GD,Wx,Xf,EN,GN,FS,e1,e2,D3,Dg]
      exact ht
  · rw[h1] at e1
    simp only[if_true] at e1 ⊢
    obtain⟨o1,o2,o3,ht⟩:=tail true (l.drop 8) (fun x hx=>hB x (List.mem_of_mem_drop hx)) (by simp;omega)
    refine⟨o1,o2,o3,er.trans ?_⟩
    simp only[Ws,GD,Wx,Xf,EN,GN,FS,e1,D3,Dg]
    exact ht
end
end
section
open Go.Proofs.Tryd (prog)
open Go.IntKind (wrap)
set_option maxRecDepth 1000000
open Go Go.RowKit Go.Lib
def RtP (w':World)(l:List Int)(e:Ending):Prop:=
 match OC 8 l with
 |.ok ms=>∃mb,e=.returned (.tuple #[.map (some mb),.int .i64 0])∧Xy w' mb ms
 |.error er=>er≠0∧∃m,e=.returned (.tuple #[m,.int .i64 er])
theorem DI (l:List Int):OC 8 l=match Aq [123] (Bf l) with
  |some r=>(match Ta (Fn 8) true r with
   |.error e=>.error e
   |.ok (ms,r')=>if Bf r'=[] then .ok ms else .error 2)
  |none=>.error 2:=by
 unfold OC;rw[Fl];cases Bf l with
 |nil=>rfl
 |cons y s=>
  by_cases hy:y=123
  ·subst hy;rfl
  ·simp only[Dr hy];split
   ·rename_i e;injection e with e1 _;exact absurd e1 hy
   ·rfl
theorem Dl.toBelow {w w':World}{b mb B:Nat}(k:Dl w w' b mb)(hb:B<=b)(FI:B<=mb)(hB:B<=w.heap.size):Below B w w':=
 ⟨k.os,k.tape,k.output,k.size,fun i hi=>k.other i (by omega) (by omega) (by omega)⟩
theorem Z5 {w:World}(hU:gU.ok w)(hUl:∀k,gU.bl k->k<w.heap.size){w':World}(hb:Below w.heap.size w w'){b:Nat}(hbb:w.heap.size<=b):Jt w' b:=
 ⟨gU.stable w w' (fun j _ hl=>hb.block j hl) hU,fun k hk=>⟨Nat.lt_of_lt_of_le (hUl k hk) hb.size,by have:=hUl k hk;omega⟩⟩
set_option maxHeartbeats 4000000 in
theorem Aer {t:ByteArray}(ht:t.size<=1000000){w:World}(hU:gU.ok w)(hUl:∀k,gU.bl k->k<w.heap.size):
  Calls prog 34 #[.string t] w fun e w'=>Below w.heap.size w w'∧RtP w' (Ea t) e:=by
 have mixed:prog.follows Departure.mixedOrders=true:=by kernel_rfl
 have MN:=@run_makeMap prog;have Eg:Below w.heap.size w (w.alloc (.cells #[.string t,.int .i64 0] 92)):=(Below.refl _ w).alloc (Nat.le_refl _) _;have G5:Below w.heap.size w ((w.alloc (.cells #[.string t,.int .i64 0] 92)).alloc (.map #[] 0)):=Eg.alloc Eg.size _;have WV:(w.alloc (.cells #[.string t,.int .i64 0] 92)).heap.size=w.heap.size+1:=Array.size_push _
 have h2:Sd ((w.alloc (.cells #[.string t,.int .i64 0] 92)).alloc (.map #[] 0)) w.heap.size 0 t (Ea t):=by
  have hg:((w.alloc (.cells #[.string t,.int .i64 0] 92)).alloc (.map #[] 0)).heap[w.heap.size]?=some (.cells #[.string t,.int .i64 0] 92):=by
   show ((w.heap.push _).push _)[w.heap.size]?=_;rw[Array.getElem?_push_lt (by simp)]
   simp
  have hp:Bp t (Ea t)=0:=by unfold Bp;rw[Kp];omega
  refine⟨?_,?_,?_,?_,?_⟩
  ·show w.heap.size<((w.heap.push _).push _).size;rw[Array.size_push,Array.size_push];omega
  ·unfold World.cell?;simp only[hg];rfl
  ·unfold World.cell?;simp only[hg,hp];rfl
  ·unfold World.frozen?;simp only[hg];rfl
  ·unfold World.frozen?;simp only[hg];rfl
 have hM2:Xy ((w.alloc (.cells #[.string t,.int .i64 0] 92)).alloc (.map #[] 0)) (w.heap.size+1) []:=by
  show ((w.heap.push _).push (Obj.map #[] 0))[w.heap.size+1]?=some (.map #[] 0);have:w.heap.size+1=(w.heap.push (Obj.cells #[.string t,.int .i64 0] 92)).size:=by simp
  rw[this];exact Array.getElem?_push_size
 have hU2:=Z5 hU hUl G5 (Nat.le_refl _);have hmU:¬gU.bl (w.heap.size+1):=fun h=>by have:=hUl _ h;omega
 have hS:=C8.all t;have hsk:=G8 hS ht hU2 h2
 go_enter Tryd.func34,Tryd.ntmps34
 go_wp2_with (go_at_call 50;refine hsk.mono ?_)
 rintro e W3 ⟨rfl,h3,k3⟩
 have hS3:=Bn hS;have hM3:=hM2.keep k3 (by omega)
 have hU3:=hU2.keep k3;have hro:=Adh hS3 ht hU3 h3 hM3 (by omega) hmU
 have Jg:Below w.heap.size w W3:=G5.trans ((Dl.of (mb:=w.heap.size+1) k3).toBelow (Nat.le_refl _) (by omega) G5.size)
 go_wp2_with (go_at_call 51;refine hro.mono ?_)
 rintro e W4 ⟨k4,r4,Wu,h4,HT⟩
 have Qd:Below w.heap.size w W4:=Jg.trans (k4.toBelow (Nat.le_refl _) (by omega) Jg.size)
 have hU4:Jt W4 w.heap.size:=Z5 hU hUl Qd (Nat.le_refl _)
 have hRt:∀W e,(match Aq [123] (Bf (Ea t)) with
  |some r=>(match Ta (Fn 8) true r with
   |.error er=>er≠0∧∃m,e=.returned (.tuple #[m,.int .i64 er])
   |.ok (ms,r')=>if Bf r'=[] then ∃mb,e=.returned (.tuple #[.map (some mb),.int .i64 0])∧Xy W mb ms else ∃m,e=.returned (.tuple #[m,.int .i64 2]))
  |none=>∃m,e=.returned (.tuple #[m,.int .i64 2]))->RtP W (Ea t) e:=by
  intro W e;unfold RtP;rw[DI];cases Aq [123] (Bf (Ea t)) with
  |none=>exact fun h=>⟨by decide,h⟩
  |some r=>
   cases hob:Ta (Fn 8) true r with
   |error er=>simp only[hob];exact id
   |ok x=>
    obtain⟨ms,r'⟩:=x;simp only[hob];by_cases g:Bf r'=[]
    ·simp only[Ev g];exact id
    ·simp only[Dr g];exact fun h=>⟨by decide,h⟩
 unfold RoP at HT;cases hq:Aq [123] (Bf (Ea t)) with
 |none=>
  rw[hq] at HT hRt;subst HT
  go_wp2
  go_ret2
  exact⟨Qd,hRt _ _ ⟨_,rfl⟩⟩
 |some r=>
  rw[hq] at HT hRt;simp only at HT hRt;cases ho:Ta (Fn 8) true r with
  |error er=>
   rw[ho] at HT hRt;obtain⟨he,rfl⟩:=HT;have hbe:(er != (0:Int))=true:=by simp[he]
   go_wp2
   go_ret2
   exact⟨Qd,hRt _ _ ⟨he,_,rfl⟩⟩
  |ok x=>
   obtain⟨ms,r'⟩:=x;rw[ho] at HT hRt;obtain⟨rfl,rfl,hM4⟩:=HT;have Am3:=G8 Wu ht hU4 h4
   go_wp2_with (go_at_call 50;refine Am3.mono ?_)
   rintro e W5 ⟨rfl,h5,k5⟩
   have NR:Below w.heap.size w W5:=Qd.trans ((Dl.of (mb:=w.heap.size+1) k5).toBelow (Nat.le_refl _) (by omega) Qd.size)
   have hM5:=hM4.keep k5 (by omega)
   obtain⟨B6,hc0,AE,hf0,hf1⟩:=h5;have H6:=Bn Wu;have hl5:=H6.len;cases hx:Bf r4 with
   |nil=>
    rw[hx] at AE hRt;rw[R5] at AE
    go_wp2
    go_region_o
    go_wp2
    go_ret2
    exact⟨NR.drew,hRt _ _ (by rw[Ev trivial];exact⟨_,rfl,hM5⟩)⟩
   |cons c q=>
    rw[hx] at AE hRt hl5
    have A8h:(Bp t (c::q):Int)<t.size:=by
     unfold Bp;rw[RS] at hl5 ⊢;omega
    have A32:¬(c::q=[]):=by simp
    go_wp2
    go_region_o
    go_wp2
    go_ret2
    exact⟨NR.drew,hRt _ _ (by rw[Dr A32];exact⟨_,rfl⟩)⟩
end
section
open Go.Proofs.Tryd (prog)
open Go.IntKind (wrap)
set_option maxRecDepth 1000000
open Go Go.RowKit Go.Lib
def Oe:List Int:=[116,121,112,101]
def U2:List Int:=[99,104,97,108,108,101,110,103,101]
def nmO:List Int:=[111,114,105,103,105,110]
def Cj (nm:List Int)(ms:List (List Int × JV)):JV:=(Ju nm ms).getD (0,[],false)
theorem Yu {w:World}{b:Nat}{ms:List (List Int × JV)} (h:Xy w b ms)(hB:∀m∈ms,Dp m.1){nm:List Int}(hn:Dp nm):(Instr.lookup 68 (.map (some b)) (.string (Ab nm)) false).run prog w=.ok (.agg #[.int .i64 (Cj nm ms).1,.string (Ab (Cj nm ms).2.1),.bool (Cj nm ms).2.2]) w:=by
 have:=Z2 h hB hn false;rw[this];unfold JI Cj;cases Ju nm ms<;>rfl
theorem al4 (w:World)(o0 x1 x2 x3:Obj):((((w.alloc o0).alloc x1).alloc x2).alloc x3).drew.heap[w.heap.size]?=some o0∧((((w.alloc o0).alloc x1).alloc x2).alloc x3).drew.heap[w.heap.size+1]?=some x1∧((((w.alloc o0).alloc x1).alloc x2).alloc x3).drew.heap[w.heap.size+1+1]?=some x2∧((((w.alloc o0).alloc x1).alloc x2).alloc x3).drew.heap[w.heap.size+1+1+1]?=some x3:=by
 show ((((w.heap.push o0).push x1).push x2).push x3)[w.heap.size]?=some o0∧((((w.heap.push o0).push x1).push x2).push x3)[w.heap.size+1]?=some x1∧((((w.heap.push o0).push x1).push x2).push x3)[w.heap.size+1+1]?=some x2∧((((w.heap.push o0).push x1).push x2).push x3)[w.heap.size+1+1+1]?=some x3;refine⟨?_,?_,?_,?_⟩
 ·rw[Array.getElem?_push_lt (by simp;omega),Array.getElem_push_lt (by simp;omega),Array.getElem_push_lt (by simp),Array.getElem_push_eq]
 ·have:w.heap.size+1=(w.heap.push o0).size:=by simp
  rw[Array.getElem?_push_lt (by simp),Array.getElem_push_lt (by simp)]
  simp only[this,Array.getElem_push_eq]
 ·have:w.heap.size+1+1=((w.heap.push o0).push x1).size:=by simp
  rw[Array.getElem?_push_lt (by simp)]
  simp only[this,Array.getElem_push_eq]
 ·have:w.heap.size+1+1+1=(((w.heap.push o0).push x1).push x2).size:=by simp
  rw[this];exact Array.getElem?_push_size
theorem al2 (w:World)(x1 x2:Obj):((w.alloc x1).alloc x2).drew.heap[w.heap.size]?=some x1∧((w.alloc x1).alloc x2).drew.heap[w.heap.size+1]?=some x2:=by
 show ((w.heap.push x1).push x2)[w.heap.size]?=some x1∧((w.heap.push x1).push x2)[w.heap.size+1]?=some x2;refine⟨?_,?_⟩
 ·simp[Array.getElem?_push]
 ·have:w.heap.size+1=(w.heap.push x1).size:=by simp
  rw[this];exact Array.getElem?_push_size
def nmX:List Int:=[99,114,111,115,115,79,114,105,103,105,110]
def nmP:List Int:=[116,111,112,79,114,105,103,105,110]
def VR (v:JV):Obj:=.cells #[.int .i64 v.1,.string (Ab v.2.1),.bool v.2.2] 95
def cd0:Obj:=.cells #[.int .i64 0,.slice none 0 0,.string ⟨#[]⟩,.bool false,.string ⟨#[]⟩] 36
def tyC:List Int:=[112,97,115,115,107,101,121,46,99,114,101,97,116,101]
def tyG:List Int:=[112,97,115,115,107,101,121,46,103,101,116]
abbrev CD:=Int × List Int × List Int × Bool × List Int
def Wc (k:Int)(C O X P:JV):JR CD:=
 match G3 C.2.1 with
 |none=>.error 2
 |some b=>if b.length<1∨64<b.length then .error 9 else if Ga O.2.1≠0 then .error (Ga O.2.1) else if X.2.2=true∧Ga P.2.1≠0 then .error (Ga P.2.1) else .ok (k,b,O.2.1,X.2.2,P.2.1)
def Hv (T C O X P:JV):JR CD:=
 if T.1≠4∨C.1≠4∨O.1≠4 then .error 4
 else if X.1≠0∧X.1≠2 then .error 4
 else if (X.2.2=true∧P.1≠4)∨(X.2.2=false∧P.1≠0) then .error 4
 else if T.2.1=tyC then Wc 1 C O X P else if T.2.1=tyG then Wc 2 C O X P else .error 3
def Th (w:World)(a:Addr)(b:List Int):Prop:=a.spot=none∧a.block<w.heap.size∧∀j x,b[j]?=some x->w.cell? (a.add j)=some (.int .u8 x)
def ItP (w w':World)(r:JR CD)(e:Ending):Prop:=
 match r with
 |.ok (k,b,o,x,p)=>∃ad cap,e=.returned (.tuple #[.agg #[.int .i64 k,.slice (some ad) b.length cap,.string (Ab o),.bool x,.string (Ab p)],.int .i64 0])∧b.length<=cap∧w.heap.size<=ad.block∧Th w' ad b
 |.error er=>er≠0∧e=.returned (.tuple #[.agg #[.int .i64 0,.slice none 0 0,.string ⟨#[]⟩,.bool false,.string ⟨#[]⟩],.int .i64 er])
def DbP (w w':World)(s:List Int)(e:Ending):Prop:=
 match G3 s with
 |none=>∃ad cap,e=.returned (.tuple #[.slice ad 0 cap,.int .i64 2])
 |some b=>∃ad cap,e=.returned (.tuple #[.slice ad b.length cap,.int .i64 0])∧(b≠[]->∃a,ad=some a∧b.length<=cap∧w.heap.size<=a.block∧Th w' a b)
theorem X6 {w:World}{b:Nat}{v:JV}(h:w.heap[b]?=some (VR v)):w.cell? ⟨b,0,none⟩=some (.int .i64 v.1)∧w.cell? ⟨b,1,none⟩=some (.string (Ab v.2.1))∧w.cell? ⟨b,2,none⟩=some (.bool v.2.2):=by
 refine⟨?_,?_,?_⟩<;>(unfold World.cell?;simp only[h];rfl)
theorem Aal {w:World}{b:Nat}(h:w.heap[b]?=some cd0):(w.cell? ⟨b,0,none⟩=some (.int .i64 0)∧w.cell? ⟨b,1,none⟩=some (.slice none 0 0)∧w.cell? ⟨b,2,none⟩=some (.string ⟨#[]⟩)∧w.cell? ⟨b,3,none⟩=some (.bool false)∧w.cell? ⟨b,4,none⟩=some (.string ⟨#[]⟩))∧w.frozen? ⟨b,0,none⟩=false∧w.frozen? ⟨b,1,none⟩=false∧w.frozen? ⟨b,2,none⟩=false∧w.frozen? ⟨b,3,none⟩=false∧w.frozen? ⟨b,4,none⟩=false:=by
 refine⟨⟨?_,?_,?_,?_,?_⟩,?_,?_,?_,?_,?_⟩<;>first|(unfold World.cell?;simp only[h];rfl)|(unfold World.frozen?;simp only[h];rfl)
theorem VU (s:ByteArray):s.toList=s.data.toList:=by
 have h:∀(n i:Nat) (r:List UInt8),n=s.size-i->ByteArray.toList.loop s i r=r.reverse++s.data.toList.drop i:=by
  intro n
  induction n with
  |zero=>
   intro i r hn;unfold ByteArray.toList.loop;rw[Dr (by omega),List.drop_eq_nil_of_le (by rw[←Lib.size_eq];omega),List.append_nil]
  |succ n ih=>
   intro i r hn;have hi:i<s.size:=by omega
   unfold ByteArray.toList.loop;rw[Ev hi,ih (i+1) _ (by omega),List.reverse_cons,List.append_assoc]
   congr 1
   have hl:i<s.data.toList.length:=by rw[←Lib.size_eq];exact hi
   rw[List.drop_eq_getElem_cons hl]
   have e:s.get! i=s.data.toList[i]:=by
    show (s.data[i]!)=_;rw[getElem!_pos s.data i hi];rfl
   rw[e];rfl
 have:=h _ 0 [] rfl;exact this
theorem Y4 {a b:List Int}(ha:Dp a)(hb:Dp b):((Ab a).toList==b.map fun n=>n.toNat.toUInt8)=decide (a=b):=by
 rw[VU,Bool.eq_iff_iff,beq_iff_eq,decide_eq_true_iff];constructor
 ·intro h;have e:Ab a=Ab b:=congrArg (fun l:List UInt8=>(⟨l.toArray⟩:ByteArray)) (show (Ab a).data.toList=(Ab b).data.toList from h)
  exact Vo ha hb e
 ·rintro rfl;rfl
def A1k (w:World)(vT vC vO:JV)(s4 s5 s6:Value)(wx:World):Prop:=
 ∃bT bC bO,s4=.pointer (some ⟨bT,0,none⟩)∧s5=.pointer (some ⟨bC,0,none⟩)∧s6=.pointer (some ⟨bO,0,none⟩)∧w.heap.size<bT∧w.heap.size<bC∧w.heap.size<bO∧wx.heap[w.heap.size]?=some cd0∧wx.heap[bT]?=some (VR vT)∧wx.heap[bC]?=some (VR vC)∧wx.heap[bO]?=some (VR vO)∧Below w.heap.size w wx
def Az2 (w wc:World)(vX vP:JV)(s7 s8:Value)(wx:World):Prop:=
 ∃bX bP,s7=.pointer (some ⟨bX,0,none⟩)∧s8=.pointer (some ⟨bP,0,none⟩)∧wc.heap.size<=bX∧wc.heap.size<=bP∧wx.heap[bX]?=some (VR vX)∧wx.heap[bP]?=some (VR vP)∧Below wc.heap.size wc wx
theorem Abq {w:World}{b:Nat}{x0 x1 x2 x3 x4:Value}(h:w.heap[b]?=some (.cells #[x0,x1,x2,x3,x4] 36)):(w.cell? ⟨b,0,none⟩=some x0∧w.cell? ⟨b,1,none⟩=some x1∧w.cell? ⟨b,2,none⟩=some x2∧w.cell? ⟨b,3,none⟩=some x3∧w.cell? ⟨b,4,none⟩=some x4)∧w.frozen? ⟨b,0,none⟩=false∧w.frozen? ⟨b,1,none⟩=false∧w.frozen? ⟨b,2,none⟩=false∧w.frozen? ⟨b,3,none⟩=false∧w.frozen? ⟨b,4,none⟩=false:=by
 refine⟨⟨?_,?_,?_,?_,?_⟩,?_,?_,?_,?_,?_⟩<;>first|(unfold World.cell?;simp only[h];rfl)|(unfold World.frozen?;simp only[h];rfl)
theorem GG {w:World}{b:Nat}{x0 x1 x2 x3 x4:Value}(h0:w.cell? ⟨b,0,none⟩=some x0)(h1:w.cell? ⟨b,1,none⟩=some x1)(h2:w.cell? ⟨b,2,none⟩=some x2)(h3:w.cell? ⟨b,3,none⟩=some x3)(h4:w.cell? ⟨b,4,none⟩=some x4):(loadVar 36 ⟨b,0,none⟩).run prog w=.ok (.agg #[x0,x1,x2,x3,x4]) w:=by
 have hf:∀j,j<5->w.cell? ((⟨b,0,none⟩:Addr).add j)=some (([x0,x1,x2,x3,x4][j]?).getD undef):=by
  intro j hj;rw[D5,Nat.zero_add]
  match j,hj with
  |0,_=>exact h0
  |1,_=>exact h1
  |2,_=>exact h2
  |3,_=>exact h3
  |4,_=>exact h4
 simp only[loadVar,Sem.run_bind,Tryd.isAgg36,Result.andThen_ok,if_true,Tryd.sizeOf36,run_loadCells w _ 5 _ hf];rfl
theorem Ee {w:World}{b i j:Nat}{v:Value}(h:i≠j):(w.setCell ⟨b,j,none⟩ v).cell? ⟨b,i,none⟩=w.cell? ⟨b,i,none⟩:=World.cell?_setCell_other _ _ _ _ (fun e=>h (by injection e with _ e2;exact e2.symm))
theorem Uh (w:World)(b:Nat)(x0 x1 x2 x3 x4:Value)(h:(w.cell? ⟨b,0,none⟩).isSome=true∧(w.cell? ⟨b,1,none⟩).isSome=true∧(w.cell? ⟨b,2,none⟩).isSome=true∧(w.cell? ⟨b,3,none⟩).isSome=true∧(w.cell? ⟨b,4,none⟩).isSome=true):(loadVar 36 ⟨b,0,none⟩).run prog (((((w.setCell ⟨b,0,none⟩ x0).setCell ⟨b,1,none⟩ x1).setCell ⟨b,2,none⟩ x2).setCell ⟨b,3,none⟩ x3).setCell ⟨b,4,none⟩ x4)=.ok (.agg #[x0,x1,x2,x3,x4]) (((((w.setCell ⟨b,0,none⟩ x0).setCell ⟨b,1,none⟩ x1).setCell ⟨b,2,none⟩ x2).setCell ⟨b,3,none⟩ x3).setCell ⟨b,4,none⟩ x4):=by
 obtain⟨g0,g1,g2,g3,g4⟩:=h;obtain⟨y0,g0⟩:=Option.isSome_iff_exists.1 g0;obtain⟨y1,g1⟩:=Option.isSome_iff_exists.1 g1;obtain⟨y2,g2⟩:=Option.isSome_iff_exists.1 g2;obtain⟨y3,g3⟩:=Option.isSome_iff_exists.1 g3;obtain⟨y4,g4⟩:=Option.isSome_iff_exists.1 g4;apply GG
 ·rw[Ee (by decide),Ee (by decide),Ee (by decide),Ee (by decide)]
  exact World.cell?_setCell_same _ _ _ g0
 ·rw[Ee (by decide),Ee (by decide),Ee (by decide)]
  exact World.cell?_setCell_same _ _ _ ((Ee (by decide)).trans g1)
 ·rw[Ee (by decide),Ee (by decide)]
  exact World.cell?_setCell_same _ _ _ ((Ee (by decide)).trans ((Ee (by decide)).trans g2))
 ·rw[Ee (by decide)]
  exact World.cell?_setCell_same _ _ _ ((Ee (by decide)).trans ((Ee (by decide)).trans ((Ee (by decide)).trans g3)))
 ·exact World.cell?_setCell_same _ _ _ ((Ee (by decide)).trans ((Ee (by decide)).trans ((Ee (by decide)).trans ((Ee (by decide)).trans g4))))
theorem Ht {B:Nat}{a w:World}(h:Below B a w){b:Nat}(hb:B<=b)(x0 x1 x2 x3 x4:Value):Below B a (((((w.setCell ⟨b,0,none⟩ x0).setCell ⟨b,1,none⟩ x1).setCell ⟨b,2,none⟩ x2).setCell ⟨b,3,none⟩ x3).setCell ⟨b,4,none⟩ x4):=
 ((((h.setCell (p:=⟨b,0,none⟩) hb x0).setCell (p:=⟨b,1,none⟩) hb x1).setCell (p:=⟨b,2,none⟩) hb x2).setCell (p:=⟨b,3,none⟩) hb x3).setCell (p:=⟨b,4,none⟩) hb x4
theorem Hn {R:Ending->World->Prop}{a:Act}{W:World}{v:Value}{b:Nat}(h2:a.tmps.getD 2 undef=.pointer (some ⟨b,0,none⟩)) (hd:a.defers=[]) (hl:(loadVar 36 ⟨b,0,none⟩).run prog W=.ok v W) (hR:R (.returned (.tuple #[v,a.tmps.getD 3 undef])) W):bodyPost prog Tryd.f35 R .ret a W:=by
 refine bodyPost_ret ?_ hd hR;rw[results_cell_tmp rfl,h2];have e:(asAddr (.pointer (some ⟨b,0,none⟩))).run prog W=.ok ⟨b,0,none⟩ W:=rfl;rw[e,Result.andThen_ok,hl,Result.andThen_ok]
theorem Th.below {w w':World}{a:Addr}{b:List Int}{B:Nat}(h:Th w a b)(k:Below B w w')(ha:a.block<B):Th w' a b:=
 ⟨h.1,Nat.lt_of_lt_of_le h.2.1 k.size,fun j x hx=>(k.cell (p:=a.add j) (by rw[Ef];exact ha)).trans (h.2.2 j x hx)⟩
theorem Th.set {w:World}{a:Addr}{b:List Int}{b0 j:Nat}{v:Value}(h:Th w a b)(Ek:a.block≠b0):Th (w.setCell ⟨b0,j,none⟩ v) a b:=
 ⟨h.1,by rw[World.size_setCell];exact h.2.1,fun i x hx=>(World.cell?_setCell_other _ _ _ _ (fun e=>Ek (by rw[←Ef a i,←e]))).trans (h.2.2 i x hx)⟩
theorem Th.set5 {w:World}{a:Addr}{b:List Int}{b0:Nat}{x0 x1 x2 x3 x4:Value}(h:Th w a b)(Ek:a.block≠b0):Th (((((w.setCell ⟨b0,0,none⟩ x0).setCell ⟨b0,1,none⟩ x1).setCell ⟨b0,2,none⟩ x2).setCell ⟨b0,3,none⟩ x3).setCell ⟨b0,4,none⟩ x4) a b:=
 ((((h.set Ek).set Ek).set Ek).set Ek).set Ek
def RC (w:World)(b:Nat):Prop:=(w.cell? ⟨b,0,none⟩=some (.int .i64 0)∧w.cell? ⟨b,1,none⟩=some (.slice none 0 0)∧w.cell? ⟨b,2,none⟩=some (.string ⟨#[]⟩)∧w.cell? ⟨b,3,none⟩=some (.bool false)∧w.cell? ⟨b,4,none⟩=some (.string ⟨#[]⟩))∧w.frozen? ⟨b,0,none⟩=false∧w.frozen? ⟨b,1,none⟩=false∧w.frozen? ⟨b,2,none⟩=false∧w.frozen? ⟨b,3,none⟩=false∧w.frozen? ⟨b,4,none⟩=false
theorem RC.below {w w':World}{b B:Nat}(h:RC w b)(k:Below B w w')(hb:b<B):RC w' b:=by
 have e:∀j,w'.cell? ⟨b,j,none⟩=w.cell? ⟨b,j,none⟩:=fun j=>k.cell (p:=⟨b,j,none⟩) hb
 have f:∀j,w'.frozen? ⟨b,j,none⟩=w.frozen? ⟨b,j,none⟩:=fun j=>k.frozen (p:=⟨b,j,none⟩) hb
 unfold RC;rw[e,e,e,e,e,f,f,f,f,f];exact h
theorem RC.some {w:World}{b:Nat}(h:RC w b):(w.cell? ⟨b,0,none⟩).isSome=true∧(w.cell? ⟨b,1,none⟩).isSome=true∧(w.cell? ⟨b,2,none⟩).isSome=true∧(w.cell? ⟨b,3,none⟩).isSome=true∧(w.cell? ⟨b,4,none⟩).isSome=true:=by
 obtain⟨⟨h0,h1,h2,h3,h4⟩,_⟩:=h;rw[h0,h1,h2,h3,h4];exact⟨rfl,rfl,rfl,rfl,rfl⟩
theorem Aex {w:World}{b:Nat}{v:Value}{x:Obj}(hb:b<w.heap.size)(h:∃x0 x1 x2 x3 x4,v=.agg #[x0,x1,x2,x3,x4]∧w.cell? ⟨b,0,none⟩=some x0∧w.cell? ⟨b,1,none⟩=some x1∧w.cell? ⟨b,2,none⟩=some x2∧w.cell? ⟨b,3,none⟩=some x3∧w.cell? ⟨b,4,none⟩=some x4):(loadVar 36 ⟨b,0,none⟩).run prog (w.alloc x)=.ok v (w.alloc x):=by
 obtain⟨x0,x1,x2,x3,x4,rfl,h0,h1,h2,h3,h4⟩:=h;have k:Below w.heap.size w (w.alloc x):=(Below.refl _ w).alloc (Nat.le_refl _) _;exact GG ((k.cell (p:=⟨b,0,none⟩) hb).trans h0) ((k.cell (p:=⟨b,1,none⟩) hb).trans h1) ((k.cell (p:=⟨b,2,none⟩) hb).trans h2) ((k.cell (p:=⟨b,3,none⟩) hb).trans h3) ((k.cell (p:=⟨b,4,none⟩) hb).trans h4)
theorem Kr (w:World)(b:Nat)(hb:b<w.heap.size)(x0 x1 x2 x3 x4:Value)(x:Obj)(h:RC w b):(loadVar 36 ⟨b,0,none⟩).run prog ((((((w.setCell ⟨b,0,none⟩ x0).setCell ⟨b,1,none⟩ x1).setCell ⟨b,2,none⟩ x2).setCell ⟨b,3,none⟩ x3).setCell ⟨b,4,none⟩ x4).alloc x)=.ok (.agg #[x0,x1,x2,x3,x4]) ((((((w.setCell ⟨b,0,none⟩ x0).setCell ⟨b,1,none⟩ x1).setCell ⟨b,2,none⟩ x2).setCell ⟨b,3,none⟩ x3).setCell ⟨b,4,none⟩ x4).alloc x):=by
 refine Aex (by simp only[World.size_setCell];exact hb) ⟨x0,x1,x2,x3,x4,rfl,?_⟩
 obtain⟨⟨g0,g1,g2,g3,g4⟩,_⟩:=h;refine⟨?_,?_,?_,?_,?_⟩
 ·rw[Ee (by decide),Ee (by decide),Ee (by decide),Ee (by decide)]
  exact World.cell?_setCell_same _ _ _ g0
 ·rw[Ee (by decide),Ee (by decide),Ee (by decide)]
  exact World.cell?_setCell_same _ _ _ ((Ee (by decide)).trans g1)
 ·rw[Ee (by decide),Ee (by decide)]
  exact World.cell?_setCell_same _ _ _ ((Ee (by decide)).trans ((Ee (by decide)).trans g2))
 ·rw[Ee (by decide)]
  exact World.cell?_setCell_same _ _ _ ((Ee (by decide)).trans ((Ee (by decide)).trans ((Ee (by decide)).trans g3)))
 ·exact World.cell?_setCell_same _ _ _ ((Ee (by decide)).trans ((Ee (by decide)).trans ((Ee (by decide)).trans ((Ee (by decide)).trans g4))))
theorem Gh {B:Nat}{a w:World}(h:Below B a w){b:Nat}(hb:B<=b)(hB:B<=w.heap.size)(x0 x1 x2 x3 x4:Value)(x:Obj):Below B a ((((((w.setCell ⟨b,0,none⟩ x0).setCell ⟨b,1,none⟩ x1).setCell ⟨b,2,none⟩ x2).setCell ⟨b,3,none⟩ x3).setCell ⟨b,4,none⟩ x4).alloc x):=
 have k:=Ht h hb x0 x1 x2 x3 x4
 k.alloc (by simp only[World.size_setCell];exact hB) _
theorem Th.set5al {w:World}{a:Addr}{b:List Int}{b0:Nat}{x0 x1 x2 x3 x4:Value}{x:Obj}(h:Th w a b)(Ek:a.block≠b0):Th ((((((w.setCell ⟨b0,0,none⟩ x0).setCell ⟨b0,1,none⟩ x1).setCell ⟨b0,2,none⟩ x2).setCell ⟨b0,3,none⟩ x3).setCell ⟨b0,4,none⟩ x4).alloc x) a b:=
 have q:=h.set5 (x0:=x0) (x1:=x1) (x2:=x2) (x3:=x3) (x4:=x4) Ek
 q.below ((Below.refl _ _).alloc (Nat.le_refl _) _) q.2.1
theorem al1 (w:World)(x:Obj):(w.alloc x).heap[w.heap.size]?=some x:=Array.getElem?_push_size
def okW (w:World):Prop:=gU.ok w∧∀k,gU.bl k->k<w.heap.size
theorem okW.below {w w':World}(h:okW w)(k:Below w.heap.size w w'):okW w':=⟨gU.stable w w' (fun j hj hl=>k.block j hl) h.1,fun j hj=>Nat.lt_of_lt_of_le (h.2 j hj) k.size⟩
set_option maxHeartbeats 8000000 in
theorem Afh (Apq:∀(W:World)(s:List Int),okW W->Dp s->s.length<=1000000->Calls prog 15 #[.string (Ab s)] W fun e w'=>Below W.heap.size W w'∧DbP W w' s e)
  (Adb:∀(W:World)(s:List Int),okW W->Dp s->s.length<=1000000->Calls prog 32 #[.string (Ab s)] W fun e w'=>Below W.heap.size W w'∧∃o1 o2 o3,e=.returned (.tuple #[.agg #[.bool o1,.string o2,.int .i64 o3],.int .i64 (Ga s)]))
  {ms:List (List Int × JV)} (hB:∀m∈ms,Dp m.1) (hB2:∀m∈ms,Dp m.2.2.1∧m.2.2.1.length<=1000000) {mb:Nat} {w:World} (hU:okW w) (hM:Xy w mb ms):
  Calls prog 35 #[.map (some mb)] w fun e w'=>Below w.heap.size w w'∧ItP w w' (Hv (Cj Oe ms) (Cj U2 ms) (Cj nmO ms) (Cj nmX ms) (Cj nmP ms)) e:=by
 have hgB:∀nm,Dp (Cj nm ms).2.1∧(Cj nm ms).2.1.length<=1000000:=by
  intro nm;unfold Cj Ju;cases hq:ms.find? fun m=>m.1==nm with
  |none=>exact⟨(fun x hx=>nomatch hx),Nat.zero_le _⟩
  |some m=>exact hB2 m (List.mem_of_find?_eq_some hq)
 obtain⟨hTB,hTL⟩:=hgB Oe;obtain⟨hCB,hCL⟩:=hgB U2;obtain⟨hOB,hOL⟩:=hgB nmO;obtain⟨hXB,hXL⟩:=hgB nmX;obtain⟨hPB,hPL⟩:=hgB nmP;clear hgB;have mixed:prog.follows Departure.mixedOrders=true:=by kernel_rfl
 have key:∀{W:World},Xy W mb ms->(Instr.lookup 68 (.map (some mb)) (.string ⟨#[116,121,112,101]⟩) false).run prog W=.ok (.agg #[.int .i64 (Cj Oe ms).1,.string (Ab (Cj Oe ms).2.1),.bool (Cj Oe ms).2.2]) W∧(Instr.lookup 68 (.map (some mb)) (.string ⟨#[99,104,97,108,108,101,110,103,101]⟩) false).run prog W=.ok (.agg #[.int .i64 (Cj U2 ms).1,.string (Ab (Cj U2 ms).2.1),.bool (Cj U2 ms).2.2]) W∧(Instr.lookup 68 (.map (some mb)) (.string ⟨#[111,114,105,103,105,110]⟩) false).run prog W=.ok (.agg #[.int .i64 (Cj nmO ms).1,.string (Ab (Cj nmO ms).2.1),.bool (Cj nmO ms).2.2]) W:=
  fun h=>⟨Yu h hB (nm:=Oe) (fun x hx=>by simp[Oe] at hx;omega),Yu h hB (nm:=U2) (fun x hx=>by simp[U2] at hx;omega),Yu h hB (nm:=nmO) (fun x hx=>by simp[nmO] at hx;omega)⟩
 have key2:∀{W:World},Xy W mb ms->(Instr.lookup 68 (.map (some mb)) (.string ⟨#[99,114,111,115,115,79,114,105,103,105,110]⟩) false).run prog W=.ok (.agg #[.int .i64 (Cj nmX ms).1,.string (Ab (Cj nmX ms).2.1),.bool (Cj nmX ms).2.2]) W∧(Instr.lookup 68 (.map (some mb)) (.string ⟨#[116,111,112,79,114,105,103,105,110]⟩) false).run prog W=.ok (.agg #[.int .i64 (Cj nmP ms).1,.string (Ab (Cj nmP ms).2.1),.bool (Cj nmP ms).2.2]) W:=
  fun h=>⟨Yu h hB (nm:=nmX) (fun x hx=>by simp[nmX] at hx;omega),Yu h hB (nm:=nmP) (fun x hx=>by simp[nmP] at hx;omega)⟩
 have b0:Below w.heap.size w (w.alloc (.cells #[.int .i64 0,.slice none 0 0,.string ⟨#[]⟩,.bool false,.string ⟨#[]⟩] 36)):=(Below.refl _ w).alloc (Nat.le_refl _) _;have b1:=b0.alloc b0.size (.cells #[.int .i64 0,.string ⟨#[]⟩,.bool false] 95);have b2:=b1.alloc b1.size (.cells #[.int .i64 0,.string ⟨#[]⟩,.bool false] 95);have b3:=b2.alloc b2.size (.cells #[.int .i64 0,.string ⟨#[]⟩,.bool false] 95);obtain⟨k0,k1,k2⟩:=key (hM.below b0.drew);obtain⟨l0,l1,l2⟩:=key (hM.below b1.drew);obtain⟨m0,m1,m2⟩:=key (hM.below b2.drew);obtain⟨n0,n1,n2⟩:=key (hM.below b3.drew)
 have bb:∀x1 x2 x3,Below w.heap.size w ((((w.alloc (.cells #[.int .i64 0,.slice none 0 0,.string ⟨#[]⟩,.bool false,.string ⟨#[]⟩] 36)).alloc x1).alloc x2).alloc x3).drew:=fun x1 x2 x3=>by
  have c1:=b0.alloc b0.size x1;have c2:=c1.alloc c1.size x2;exact (c2.alloc c2.size x3).drew
 obtain⟨_,p1,q1⟩:=key (hM.below (bb (.cells #[.int .i64 (Cj Oe ms).1,.string (Ab (Cj Oe ms).2.1),.bool (Cj Oe ms).2.2] 95) (.cells #[.int .i64 0,.string ⟨#[]⟩,.bool false] 95) (.cells #[.int .i64 0,.string ⟨#[]⟩,.bool false] 95)));obtain⟨_,p2,q2⟩:=key (hM.below (bb (.cells #[.int .i64 0,.string ⟨#[]⟩,.bool false] 95) (.cells #[.int .i64 (Cj Oe ms).1,.string (Ab (Cj Oe ms).2.1),.bool (Cj Oe ms).2.2] 95) (.cells #[.int .i64 0,.string ⟨#[]⟩,.bool false] 95)));obtain⟨_,p3,q3⟩:=key (hM.below (bb (.cells #[.int .i64 0,.string ⟨#[]⟩,.bool false] 95) (.cells #[.int .i64 0,.string ⟨#[]⟩,.bool false] 95) (.cells #[.int .i64 (Cj Oe ms).1,.string (Ab (Cj Oe ms).2.1),.bool (Cj Oe ms).2.2] 95)))
 obtain⟨_,_,q4⟩:=key (hM.below (bb (.cells #[.int .i64 (Cj Oe ms).1,.string (Ab (Cj Oe ms).2.1),.bool (Cj Oe ms).2.2] 95) (.cells #[.int .i64 (Cj U2 ms).1,.string (Ab (Cj U2 ms).2.1),.bool (Cj U2 ms).2.2] 95) (.cells #[.int .i64 0,.string ⟨#[]⟩,.bool false] 95)));obtain⟨_,_,q5⟩:=key (hM.below (bb (.cells #[.int .i64 (Cj Oe ms).1,.string (Ab (Cj Oe ms).2.1),.bool (Cj Oe ms).2.2] 95) (.cells #[.int .i64 0,.string ⟨#[]⟩,.bool false] 95) (.cells #[.int .i64 (Cj U2 ms).1,.string (Ab (Cj U2 ms).2.1),.bool (Cj U2 ms).2.2] 95)));obtain⟨_,_,q6⟩:=key (hM.below (bb (.cells #[.int .i64 (Cj U2 ms).1,.string (Ab (Cj U2 ms).2.1),.bool (Cj U2 ms).2.2] 95) (.cells #[.int .i64 (Cj Oe ms).1,.string (Ab (Cj Oe ms).2.1),.bool (Cj Oe ms).2.2] 95) (.cells #[.int .i64 0,.string ⟨#[]⟩,.bool false] 95)))
 obtain⟨_,_,q7⟩:=key (hM.below (bb (.cells #[.int .i64 (Cj U2 ms).1,.string (Ab (Cj U2 ms).2.1),.bool (Cj U2 ms).2.2] 95) (.cells #[.int .i64 0,.string ⟨#[]⟩,.bool false] 95) (.cells #[.int .i64 (Cj Oe ms).1,.string (Ab (Cj Oe ms).2.1),.bool (Cj Oe ms).2.2] 95)));obtain⟨_,_,q8⟩:=key (hM.below (bb (.cells #[.int .i64 0,.string ⟨#[]⟩,.bool false] 95) (.cells #[.int .i64 (Cj Oe ms).1,.string (Ab (Cj Oe ms).2.1),.bool (Cj Oe ms).2.2] 95) (.cells #[.int .i64 (Cj U2 ms).1,.string (Ab (Cj U2 ms).2.1),.bool (Cj U2 ms).2.2] 95)));obtain⟨_,_,q9⟩:=key (hM.below (bb (.cells #[.int .i64 0,.string ⟨#[]⟩,.bool false] 95) (.cells #[.int .i64 (Cj U2 ms).1,.string (Ab (Cj U2 ms).2.1),.bool (Cj U2 ms).2.2] 95) (.cells #[.int .i64 (Cj Oe ms).1,.string (Ab (Cj Oe ms).2.1),.bool (Cj Oe ms).2.2] 95)))
 have hbb:∀x1 x2 x3,Below w.heap.size w ((((w.alloc cd0).alloc x1).alloc x2).alloc x3).drew:=bb;clear key bb;generalize Cj Oe ms=vT at *
 generalize Cj U2 ms=vC at *
 generalize Cj nmO ms=vO at *
 generalize Cj nmX ms=vX at *
 generalize Cj nmP ms=vP at *
 go_enter Tryd.func35,Tryd.ntmps35
 go_upto_region 1 with fail
 go_cut [4,5,6] (fun s4 s5 s6 wx=>A1k w vT vC vO s4 s5 s6 wx)
 case first=>
  go_region_o
  all_goals (go_wp2_with fail;go_meet;(refine⟨_,_,_,rfl,rfl,rfl,by omega,by omega,by omega,?_,?_,?_,?_,hbb _ _ _⟩<;>first|exact (al4 _ _ _ _ _).1|exact (al4 _ _ _ _ _).2.1|exact (al4 _ _ _ _ _).2.2.1|exact (al4 _ _ _ _ _).2.2.2))
 case rest=>
  rename World=>w2
  obtain⟨bT,bC,bO,rfl,rfl,rfl,hbT,hbC,hbO,hc,hT,hC,hO,hbw⟩:=hcut;clear k0 k1 k2 l0 l1 l2 m0 m1 m2 n0 n1 n2 p1 p2 p3 q1 q2 q3 q4 q5 q6 q7 q8 q9;have hMc:=hM.below hbw;have d1:Below w2.heap.size w2 (w2.alloc (.cells #[.int .i64 0,.string ⟨#[]⟩,.bool false] 95)):=(Below.refl _ w2).alloc (Nat.le_refl _) _;have d2:=d1.alloc d1.size (.cells #[.int .i64 0,.string ⟨#[]⟩,.bool false] 95)
  have dd:∀x1 x2,Below w2.heap.size w2 ((w2.alloc x1).alloc x2).drew:=fun x1 x2=>by
   have c1:Below w2.heap.size w2 (w2.alloc x1):=(Below.refl _ w2).alloc (Nat.le_refl _) _;exact (c1.alloc c1.size x2).drew
  obtain⟨k0,k1⟩:=key2 (hMc.below (Below.refl w2.heap.size w2).drew);obtain⟨l0,l1⟩:=key2 (hMc.below d1.drew);obtain⟨m0,m1⟩:=key2 (hMc.below d2.drew);obtain⟨_,p1⟩:=key2 (hMc.below (dd (.cells #[.int .i64 vX.1,.string (Ab vX.2.1),.bool vX.2.2] 95) (.cells #[.int .i64 0,.string ⟨#[]⟩,.bool false] 95)));obtain⟨_,p2⟩:=key2 (hMc.below (dd (.cells #[.int .i64 0,.string ⟨#[]⟩,.bool false] 95) (.cells #[.int .i64 vX.1,.string (Ab vX.2.1),.bool vX.2.2] 95)));clear key2
  go_upto_region 2 with fail
  go_cut [7,8] (fun s7 s8 wx=>Az2 w w2 vX vP s7 s8 wx)
  case first=>
   go_region_o
   all_goals (go_wp2_with fail;go_meet;(refine⟨_,_,rfl,rfl,by omega,by omega,?_,?_,dd _ _⟩<;>first|exact (al2 _ _ _).1|exact (al2 _ _ _).2))
  case rest=>
   clear k0 k1 l0 l1 m0 m1 p1 p2;obtain⟨bX,bP,rfl,rfl,hbX,hbP,hX,hP,LJ⟩:=hcut
   rename World=>wd
   have hwc:w.heap.size<w2.heap.size:=by
    rcases Nat.lt_or_ge w.heap.size w2.heap.size with q|q
    ·exact q
    ·rw[Array.getElem?_eq_none q] at hc;cases hc
   have B6:∀{b:Nat} {o:Obj},w2.heap[b]?=some o->b<w2.heap.size:=fun {b o} h=>by
    rcases Nat.lt_or_ge b w2.heap.size with q|q
    ·exact q
    ·rw[Array.getElem?_eq_none q] at h;cases h
   obtain⟨⟨c0,c1,c2,c3,c4⟩,f0,f1,f2,f3,f4⟩:=Aal ((LJ.block _ (B6 hc)).trans hc);have hrc:RC wd w.heap.size:=⟨⟨c0,c1,c2,c3,c4⟩,f0,f1,f2,f3,f4⟩;have XA:=hrc.some;obtain⟨T0,T1,T2⟩:=X6 ((LJ.block _ (B6 hT)).trans hT);obtain⟨C0,C1,C2⟩:=X6 ((LJ.block _ (B6 hC)).trans hC);obtain⟨O0,O1,O2⟩:=X6 ((LJ.block _ (B6 hO)).trans hO);obtain⟨X0,X1,X2⟩:=X6 hX;obtain⟨P0,P1,P2⟩:=X6 hP;have ZW:Below w.heap.size w wd:=hbw.trans ((LJ).mono hbw.size);by_cases hT4:vT.1=4
   rotate_left
   ·have hq:(vT.1 != 4)=true:=by simp[hT4]
    have hI:Hv vT vC vO vX vP=.error 4:=by unfold Hv;rw[Ev (.inl hT4)]
    go_wp2
    (try simp only[Exit.inBlock,Exit.then])
    exact Hn (b:=w.heap.size) rfl rfl (Uh wd w.heap.size _ _ _ _ _ XA) ⟨Ht ZW (Nat.le_refl _) _ _ _ _ _,by rw[hI];exact⟨by decide,rfl⟩⟩
   by_cases hC4:vC.1=4
   rotate_left
   ·have hq:(vC.1 != 4)=true:=by simp[hC4]
    have hI:Hv vT vC vO vX vP=.error 4:=by unfold Hv;rw[Ev (.inr (.inl hC4))]
    go_wp2
    (try simp only[Exit.inBlock,Exit.then])
    exact Hn (b:=w.heap.size) rfl rfl (Uh wd w.heap.size _ _ _ _ _ XA) ⟨Ht ZW (Nat.le_refl _) _ _ _ _ _,by rw[hI];exact⟨by decide,rfl⟩⟩
   by_cases hO4:vO.1=4
   rotate_left
   ·have hq:(vO.1 != 4)=true:=by simp[hO4]
    have hI:Hv vT vC vO vX vP=.error 4:=by unfold Hv;rw[Ev (.inr (.inr hO4))]
    go_wp2
    (try simp only[Exit.inBlock,Exit.then])
    exact Hn (b:=w.heap.size) rfl rfl (Uh wd w.heap.size _ _ _ _ _ XA) ⟨Ht ZW (Nat.le_refl _) _ _ _ _ _,by rw[hI];exact⟨by decide,rfl⟩⟩
   have Ww:Hv vT vC vO vX vP=if vX.1≠0∧vX.1≠2 then .error 4
    else if (vX.2.2=true∧vP.1≠4)∨(vX.2.2=false∧vP.1≠0) then .error 4
    else if vT.2.1=tyC then Wc 1 vC vO vX vP else if vT.2.1=tyG then Wc 2 vC vO vX vP else .error 3:=by
    unfold Hv;rw[Dr (by rintro (h|h|h)<;>first|exact h hT4|exact h hC4|exact h hO4)]
   go_upto_region 5 with fail
   go_cut [47] (fun s47 wx=>∃q:Bool,s47=.bool q∧(q=true↔(vX.1≠0∧vX.1≠2))∧wx=wd)
   case first=>
    by_cases h0:vX.1=0
    ·have h1:(vX.1 != 0)=false:=by simp[h0]
     go_wp2_with fail
     go_meet
     exact⟨false,rfl,by simp[h0],rfl⟩
    ·have h1:(vX.1 != 0)=true:=by simp[h0]
     by_cases h2:vX.1=2
     ·have h3:(vX.1 != 2)=false:=by simp[h2]
      go_wp2_with fail
      go_meet
      exact⟨false,rfl,by simp[h2],rfl⟩
     ·have h3:(vX.1 != 2)=true:=by simp[h2]
      go_wp2_with fail
      go_meet
      exact⟨true,rfl,by simp[h0,h2],rfl⟩
   case rest=>
    obtain⟨q5,rfl,hq5,hwe⟩:=hcut;subst hwe;cases q5 with
    |true=>
     have hx1:=hq5.1 rfl;have hI:Hv vT vC vO vX vP=.error 4:=by rw[Ww,Ev hx1]
     go_wp2
     (try simp only[Exit.inBlock,Exit.then])
     exact Hn (b:=w.heap.size) rfl rfl (Uh wc w.heap.size _ _ _ _ _ XA) ⟨Ht ZW (Nat.le_refl _) _ _ _ _ _,by rw[hI];exact⟨by decide,rfl⟩⟩
    |false=>
     have hx1:¬(vX.1≠0∧vX.1≠2):=fun h=>Bool.noConfusion (hq5.2 h)
     rw[Dr hx1] at Ww
     go_upto_region 7 with fail
     go_cut [65] (fun s65 wx=>∃q:Bool,s65=.bool q∧(q=true↔((vX.2.2=true∧vP.1≠4)∨(vX.2.2=false∧vP.1≠0)))∧wx=wc)
     case first=>
      cases BQ:vX.2.2 with
      |true=>
       rw[BQ] at X2;by_cases h4:vP.1=4
       ·have h1:(vP.1 != 4)=false:=by simp[h4]
        go_wp2_with fail
        go_meet
        exact⟨false,rfl,by simp[h4,BQ],rfl⟩
       ·have h1:(vP.1 != 4)=true:=by simp[h4]
        go_wp2_with fail
        go_meet
        exact⟨true,rfl,by simp[h4,BQ],rfl⟩
      |false=>
       rw[BQ] at X2;by_cases h4:vP.1=0
       ·have h1:(vP.1 != 0)=false:=by simp[h4]
        go_wp2_with fail
        go_meet
        exact⟨false,rfl,by simp[h4,BQ],rfl⟩
       ·have h1:(vP.1 != 0)=true:=by simp[h4]
        go_wp2_with fail
        go_meet
        exact⟨true,rfl,by simp[h4,BQ],rfl⟩
     case rest=>
      obtain⟨q7,rfl,hq7,hwe⟩:=hcut;subst hwe;cases q7 with
      |true=>
       have Od:=hq7.1 rfl;have hI:Hv vT vC vO vX vP=.error 4:=by rw[Ww,Ev Od]
       go_wp2
       (try simp only[Exit.inBlock,Exit.then])
       exact Hn (b:=w.heap.size) rfl rfl (Uh wc w.heap.size _ _ _ _ _ XA) ⟨Ht ZW (Nat.le_refl _) _ _ _ _ _,by rw[hI];exact⟨by decide,rfl⟩⟩
      |false=>
       have Od:¬((vX.2.2=true∧vP.1≠4)∨(vX.2.2=false∧vP.1≠0)):=fun h=>Bool.noConfusion (hq7.2 h)
       rw[Dr Od] at Ww;clear hq5 hq7 hx1 Od;have hwd:w.heap.size<wc.heap.size:=Nat.lt_of_lt_of_le hwc LJ.size;have A6g:bT<wc.heap.size:=Nat.lt_of_lt_of_le (B6 hT) LJ.size;have A7y:bC<wc.heap.size:=Nat.lt_of_lt_of_le (B6 hC) LJ.size;have hbC:((Ab vT.2.1).toList==[112,97,115,115,107,101,121,46,99,114,101,97,116,101])=decide (vT.2.1=tyC):=Y4 hTB (b:=tyC) (fun x hx=>by simp[tyC] at hx;omega)
       have hbG:((Ab vT.2.1).toList==[112,97,115,115,107,101,121,46,103,101,116])=decide (vT.2.1=tyG):=Y4 hTB (b:=tyG) (fun x hx=>by simp[tyG] at hx;omega)
       by_cases hTc:vT.2.1=tyC
       rotate_left
       ·rw[decide_eq_false hTc] at hbC;rw[Dr hTc] at Ww;by_cases hTg:vT.2.1=tyG
        rotate_left
        ·rw[decide_eq_false hTg] at hbG;have hI:Hv vT vC vO vX vP=.error 3:=by rw[Ww,Dr hTg]
         go_wp2
         (try simp only[Exit.inBlock,Exit.then])
         exact Hn (b:=w.heap.size) rfl rfl (Kr wc w.heap.size hwd _ _ _ _ _ _ hrc) ⟨Gh ZW (Nat.le_refl _) ZW.size _ _ _ _ _ _,by rw[hI];exact⟨by decide,rfl⟩⟩
        ·rw[decide_eq_true hTg] at hbG;rw[Ev hTg] at Ww;clear hTg hTc;have hbA:=ZW.alloc ZW.size (.cells #[.int .i64 2,.slice none 0 0,.string (Ab vO.2.1),.bool vX.2.2,.string (Ab vP.2.1)] 36);have hsA:(wc.alloc (.cells #[.int .i64 2,.slice none 0 0,.string (Ab vO.2.1),.bool vX.2.2,.string (Ab vP.2.1)] 36)).heap.size=wc.heap.size+1:=Array.size_push _;have hkA:=al1 wc (.cells #[.int .i64 2,.slice none 0 0,.string (Ab vO.2.1),.bool vX.2.2,.string (Ab vP.2.1)] 36);have hrA:=hrc.below ((Below.refl wc.heap.size wc).alloc (Nat.le_refl _) (.cells #[.int .i64 2,.slice none 0 0,.string (Ab vO.2.1),.bool vX.2.2,.string (Ab vP.2.1)] 36)) hwd
         go_wp2_with (go_at_call 15;refine (Apq _ vC.2.1 (hU.below hbA) hCB hCL).mono ?_)
         rintro e W3 ⟨Rk,FF⟩
         have S2:Below w.heap.size w W3:=hbA.trans (Rk.mono hbA.size);have SO:=hrA.below Rk (by rw[hsA];omega)
         have hm3:=SO.some;obtain⟨⟨r30,r31,r32,r33,r34⟩,s30,s31,s32,s33,s34⟩:=SO;have HX:wc.heap.size+1<=W3.heap.size:=by have:=Rk.size;rw[hsA] at this;exact this
         have Jg:=(Rk.block _ (by rw[hsA];omega)).trans hkA
         obtain⟨⟨k0,k1,k2,k3,k4⟩,kf0,kf1,kf2,kf3,kf4⟩:=Abq Jg;unfold DbP at FF;cases VC:G3 vC.2.1 with
         |none=>
          rw[VC] at FF;obtain⟨ad,capN,rfl⟩:=FF;have hI:Hv vT vC vO vX vP=.error 2:=by rw[Ww];unfold Wc;rw[VC]
          go_wp2
          (try simp only[Exit.inBlock,Exit.then])
          exact Hn (b:=w.heap.size) rfl rfl (Uh W3 w.heap.size _ _ _ _ _ hm3) ⟨Ht S2 (Nat.le_refl _) _ _ _ _ _,by rw[hI];exact⟨by decide,rfl⟩⟩
         |some b=>
          rw[VC] at FF;obtain⟨ad,cap,rfl,Nf⟩:=FF;by_cases Eg:b.length<1
          ·have hI:Hv vT vC vO vX vP=.error 9:=by rw[Ww];unfold Wc;rw[VC];simp only;rw[Ev (.inl Eg)]
           have Qp:(b.length:Int)<1:=by omega
           go_wp2
           (try simp only[Exit.inBlock,Exit.then])
           exact Hn (b:=w.heap.size) rfl rfl (Uh W3 w.heap.size _ _ _ _ _ hm3) ⟨Ht S2 (Nat.le_refl _) _ _ _ _ _,by rw[hI];exact⟨by decide,rfl⟩⟩
          by_cases G5:64<b.length
          ·have hI:Hv vT vC vO vX vP=.error 9:=by rw[Ww];unfold Wc;rw[VC];simp only;rw[Ev (.inr G5)]
           have Qp:¬(b.length:Int)<1:=by omega
           have Ia:(b.length:Int)>64:=by omega
           go_wp2
           (try simp only[Exit.inBlock,Exit.then])
           exact Hn (b:=w.heap.size) rfl rfl (Uh W3 w.heap.size _ _ _ _ _ hm3) ⟨Ht S2 (Nat.le_refl _) _ _ _ _ _,by rw[hI];exact⟨by decide,rfl⟩⟩
          have Qp:¬(b.length:Int)<1:=by omega
          have Ia:¬(b.length:Int)>64:=by omega
          obtain⟨a,rfl,hac,haw,YT⟩:=Nf (by rintro rfl;exact Eg (by decide))
          have At8:wc.heap.size+1<=a.block:=by rw[hsA] at haw;exact haw
          have QA:Hv vT vC vO vX vP=if Ga vO.2.1≠0 then .error (Ga vO.2.1) else if vX.2.2=true∧Ga vP.2.1≠0 then .error (Ga vP.2.1) else .ok (2,b,vO.2.1,vX.2.2,vP.2.1):=by
           rw[Ww];unfold Wc;rw[VC];simp only;rw[Dr (by omega)]
          have Wj:Below w.heap.size w (W3.setCell ⟨wc.heap.size,1,none⟩ (.slice (some a) b.length cap)):=S2.setCell (p:=⟨wc.heap.size,1,none⟩) (Nat.le_of_lt hwd) _;have Aiw:Below wc.heap.size W3 (W3.setCell ⟨wc.heap.size,1,none⟩ (.slice (some a) b.length cap)):=(Below.refl wc.heap.size W3).setCell (p:=⟨wc.heap.size,1,none⟩) (Nat.le_refl _) _;have HT:=(show RC W3 w.heap.size from ⟨⟨r30,r31,r32,r33,r34⟩,s30,s31,s32,s33,s34⟩).below Aiw hwd
          have Aj6:=YT.set (b0:=wc.heap.size) (j:=1) (v:=.slice (some a) b.length cap) (by omega)
          have FR:(W3.setCell ⟨wc.heap.size,1,none⟩ (.slice (some a) b.length cap)).heap.size=W3.heap.size:=World.size_setCell ..;have j0:(W3.setCell ⟨wc.heap.size,1,none⟩ (.slice (some a) b.length cap)).cell? ⟨wc.heap.size,0,none⟩=some (.int .i64 2):=(Ee (by decide)).trans k0
          have j1:(W3.setCell ⟨wc.heap.size,1,none⟩ (.slice (some a) b.length cap)).cell? ⟨wc.heap.size,1,none⟩=some (.slice (some a) b.length cap):=World.cell?_setCell_same _ _ _ k1;have j2:(W3.setCell ⟨wc.heap.size,1,none⟩ (.slice (some a) b.length cap)).cell? ⟨wc.heap.size,2,none⟩=some (.string (Ab vO.2.1)):=(Ee (by decide)).trans k2
          have j3:(W3.setCell ⟨wc.heap.size,1,none⟩ (.slice (some a) b.length cap)).cell? ⟨wc.heap.size,3,none⟩=some (.bool vX.2.2):=(Ee (by decide)).trans k3
          have j4:(W3.setCell ⟨wc.heap.size,1,none⟩ (.slice (some a) b.length cap)).cell? ⟨wc.heap.size,4,none⟩=some (.string (Ab vP.2.1)):=(Ee (by decide)).trans k4
          go_wp2_with (go_at_call 32;refine (Adb _ vO.2.1 (hU.below Wj) hOB hOL).mono ?_)
          rintro e W5 ⟨FZ,o1,o2,o3,rfl⟩
          have hs5:W3.heap.size<=W5.heap.size:=by have:=FZ.size;rw[FR] at this;exact this
          have U7:Below w.heap.size w W5:=Wj.trans (FZ.mono Wj.size);have hr5:=HT.below FZ (by rw[FR];omega)
          have Ali:=hr5;obtain⟨⟨r50,r51,r52,r53,r54⟩,s50,s51,s52,s53,s54⟩:=Ali;have hw5:w.heap.size<W5.heap.size:=by omega
          have hc5:wc.heap.size<W5.heap.size:=by omega
          have NM:=Aj6.below FZ (by rw[FR];exact YT.2.1)
          have Kg:wc.heap.size<(W3.setCell ⟨wc.heap.size,1,none⟩ (.slice (some a) b.length cap)).heap.size:=by rw[FR];omega
          have i0:=(FZ.cell (p:=⟨wc.heap.size,0,none⟩) Kg).trans j0;have i1:=(FZ.cell (p:=⟨wc.heap.size,1,none⟩) Kg).trans j1;have i2:=(FZ.cell (p:=⟨wc.heap.size,2,none⟩) Kg).trans j2;have i3:=(FZ.cell (p:=⟨wc.heap.size,3,none⟩) Kg).trans j3;have i4:=(FZ.cell (p:=⟨wc.heap.size,4,none⟩) Kg).trans j4;have hbL:=(Below.refl W5.heap.size W5).alloc (Nat.le_refl _) (.cells #[.bool o1,.string o2,.int .i64 o3] 65);have MZ:Below w.heap.size w (W5.alloc (.cells #[.bool o1,.string o2,.int .i64 o3] 65)):=U7.alloc U7.size _;by_cases ho:Ga vO.2.1=0
          rotate_left
          ·have hoB:(Ga vO.2.1 != 0)=true:=by simp[ho]
           have hI:Hv vT vC vO vX vP=.error (Ga vO.2.1):=by rw[QA,Ev ho]
           go_wp2
           (try simp only[Exit.inBlock,Exit.then])
           exact Hn (b:=w.heap.size) rfl rfl (Kr W5 w.heap.size hw5 _ _ _ _ _ _ hr5) ⟨Gh U7 (Nat.le_refl _) U7.size _ _ _ _ _ _,by rw[hI];exact⟨ho,rfl⟩⟩
          have hoB:(Ga vO.2.1 != 0)=false:=by simp[ho]
          rw[Dr (by simp[ho])] at QA
          have YJ:=NM.below hbL (by have:=NM.2.1;exact this)
          cases BQ:vX.2.2 with
          |false=>
           rw[BQ] at i3;have hI:Hv vT vC vO vX vP=.ok (2,b,vO.2.1,false,vP.2.1):=by rw[QA,Dr (by simp[BQ]),BQ]
           go_wp2
           (try simp only[Exit.inBlock,Exit.then])
           exact Hn (b:=w.heap.size) rfl rfl (Kr W5 w.heap.size hw5 _ _ _ _ _ _ hr5) ⟨Gh U7 (Nat.le_refl _) U7.size _ _ _ _ _ _,by rw[hI];exact⟨a,cap,rfl,hac,by omega,NM.set5al (by omega)⟩⟩
          |true=>
           rw[BQ] at i3
           go_wp2_with (go_at_call 32;refine (Adb _ vP.2.1 (hU.below MZ) hPB hPL).mono ?_)
           rintro e W7 ⟨hb7,p1,p2,p3,rfl⟩
           have hsL:(W5.alloc (.cells #[.bool o1,.string o2,.int .i64 o3] 65)).heap.size=W5.heap.size+1:=Array.size_push _;have Ub:Below w.heap.size w W7:=MZ.trans (hb7.mono MZ.size);have hr7:=(hr5.below hbL hw5).below hb7 (by rw[hsL];omega)
           have Amc:=hr7;obtain⟨⟨r70,r71,r72,r73,r74⟩,s70,s71,s72,s73,s74⟩:=Amc;have MW:=YJ.below hb7 (by have:=YJ.2.1;exact this)
           have U6:=(hbL.trans (hb7.mono hbL.size));have l0:=(U6.cell (p:=⟨wc.heap.size,0,none⟩) (show wc.heap.size<W5.heap.size by omega)).trans i0
           have l1:=(U6.cell (p:=⟨wc.heap.size,1,none⟩) (show wc.heap.size<W5.heap.size by omega)).trans i1
           have l2:=(U6.cell (p:=⟨wc.heap.size,2,none⟩) (show wc.heap.size<W5.heap.size by omega)).trans i2
           have l3:=(U6.cell (p:=⟨wc.heap.size,3,none⟩) (show wc.heap.size<W5.heap.size by omega)).trans i3
           have l4:=(U6.cell (p:=⟨wc.heap.size,4,none⟩) (show wc.heap.size<W5.heap.size by omega)).trans i4
           have hs7:=U6.size;have hw7:w.heap.size<W7.heap.size:=by omega
           have hc7:wc.heap.size<W7.heap.size:=by omega
           have hbM:=(Below.refl W7.heap.size W7).alloc (Nat.le_refl _) (.cells #[.bool p1,.string p2,.int .i64 p3] 65);have Atk:Below w.heap.size w (W7.alloc (.cells #[.bool p1,.string p2,.int .i64 p3] 65)):=Ub.alloc Ub.size _;by_cases hp:Ga vP.2.1=0
           rotate_left
           ·have hoB:(Ga vP.2.1 != 0)=true:=by simp[hp]
            have hI:Hv vT vC vO vX vP=.error (Ga vP.2.1):=by rw[QA,Ev ⟨BQ,hp⟩]
            go_wp2
            (try simp only[Exit.inBlock,Exit.then])
            exact Hn (b:=w.heap.size) rfl rfl (Kr W7 w.heap.size hw7 _ _ _ _ _ _ hr7) ⟨Gh Ub (Nat.le_refl _) Ub.size _ _ _ _ _ _,by rw[hI];exact⟨hp,rfl⟩⟩
           have hpB:(Ga vP.2.1 != 0)=false:=by simp[hp]
           have A4e:=MW.below hbM (by have:=MW.2.1;exact this)
           have hI:Hv vT vC vO vX vP=.ok (2,b,vO.2.1,true,vP.2.1):=by rw[QA,Dr (by simp[hp]),BQ]
           go_wp2
           (try simp only[Exit.inBlock,Exit.then])
           exact Hn (b:=w.heap.size) rfl rfl (Kr W7 w.heap.size hw7 _ _ _ _ _ _ hr7) ⟨Gh Ub (Nat.le_refl _) Ub.size _ _ _ _ _ _,by rw[hI];exact⟨a,cap,rfl,hac,by omega,MW.set5al (by omega)⟩⟩
       ·rw[decide_eq_true hTc] at hbC;rw[Ev hTc] at Ww;clear hTc hbG;have hbA:=ZW.alloc ZW.size (.cells #[.int .i64 1,.slice none 0 0,.string (Ab vO.2.1),.bool vX.2.2,.string (Ab vP.2.1)] 36);have hsA:(wc.alloc (.cells #[.int .i64 1,.slice none 0 0,.string (Ab vO.2.1),.bool vX.2.2,.string (Ab vP.2.1)] 36)).heap.size=wc.heap.size+1:=Array.size_push _;have hkA:=al1 wc (.cells #[.int .i64 1,.slice none 0 0,.string (Ab vO.2.1),.bool vX.2.2,.string (Ab vP.2.1)] 36);have hrA:=hrc.below ((Below.refl wc.heap.size wc).alloc (Nat.le_refl _) (.cells #[.int .i64 1,.slice none 0 0,.string (Ab vO.2.1),.bool vX.2.2,.string (Ab vP.2.1)] 36)) hwd
        go_wp2_with (go_at_call 15;refine (Apq _ vC.2.1 (hU.below hbA) hCB hCL).mono ?_)
        rintro e W3 ⟨Rk,FF⟩
        have S2:Below w.heap.size w W3:=hbA.trans (Rk.mono hbA.size);have SO:=hrA.below Rk (by rw[hsA];omega)
        have hm3:=SO.some;obtain⟨⟨r30,r31,r32,r33,r34⟩,s30,s31,s32,s33,s34⟩:=SO;have HX:wc.heap.size+1<=W3.heap.size:=by have:=Rk.size;rw[hsA] at this;exact this
        have Jg:=(Rk.block _ (by rw[hsA];omega)).trans hkA
        obtain⟨⟨k0,k1,k2,k3,k4⟩,kf0,kf1,kf2,kf3,kf4⟩:=Abq Jg;unfold DbP at FF;cases VC:G3 vC.2.1 with
        |none=>
         rw[VC] at FF;obtain⟨ad,capN,rfl⟩:=FF;have hI:Hv vT vC vO vX vP=.error 2:=by rw[Ww];unfold Wc;rw[VC]
         go_wp2
         (try simp only[Exit.inBlock,Exit.then])
         exact Hn (b:=w.heap.size) rfl rfl (Uh W3 w.heap.size _ _ _ _ _ hm3) ⟨Ht S2 (Nat.le_refl _) _ _ _ _ _,by rw[hI];exact⟨by decide,rfl⟩⟩
        |some b=>
         rw[VC] at FF;obtain⟨ad,cap,rfl,Nf⟩:=FF;by_cases Eg:b.length<1
         ·have hI:Hv vT vC vO vX vP=.error 9:=by rw[Ww];unfold Wc;rw[VC];simp only;rw[Ev (.inl Eg)]
          have Qp:(b.length:Int)<1:=by omega
          go_wp2
          (try simp only[Exit.inBlock,Exit.then])
          exact Hn (b:=w.heap.size) rfl rfl (Uh W3 w.heap.size _ _ _ _ _ hm3) ⟨Ht S2 (Nat.le_refl _) _ _ _ _ _,by rw[hI];exact⟨by decide,rfl⟩⟩
         by_cases G5:64<b.length
         ·have hI:Hv vT vC vO vX vP=.error 9:=by rw[Ww];unfold Wc;rw[VC];simp only;rw[Ev (.inr G5)]
          have Qp:¬(b.length:Int)<1:=by omega
          have Ia:(b.length:Int)>64:=by omega
          go_wp2
          (try simp only[Exit.inBlock,Exit.then])
          exact Hn (b:=w.heap.size) rfl rfl (Uh W3 w.heap.size _ _ _ _ _ hm3) ⟨Ht S2 (Nat.le_refl _) _ _ _ _ _,by rw[hI];exact⟨by decide,rfl⟩⟩
         have Qp:¬(b.length:Int)<1:=by omega
         have Ia:¬(b.length:Int)>64:=by omega
         obtain⟨a,rfl,hac,haw,YT⟩:=Nf (by rintro rfl;exact Eg (by decide))
         have At8:wc.heap.size+1<=a.block:=by rw[hsA] at haw;exact haw
         have QA:Hv vT vC vO vX vP=if Ga vO.2.1≠0 then .error (Ga vO.2.1) else if vX.2.2=true∧Ga vP.2.1≠0 then .error (Ga vP.2.1) else .ok (1,b,vO.2.1,vX.2.2,vP.2.1):=by
          rw[Ww];unfold Wc;rw[VC];simp only;rw[Dr (by omega)]
         have Wj:Below w.heap.size w (W3.setCell ⟨wc.heap.size,1,none⟩ (.slice (some a) b.length cap)):=S2.setCell (p:=⟨wc.heap.size,1,none⟩) (Nat.le_of_lt hwd) _;have Aiw:Below wc.heap.size W3 (W3.setCell ⟨wc.heap.size,1,none⟩ (.slice (some a) b.length cap)):=(Below.refl wc.heap.size W3).setCell (p:=⟨wc.heap.size,1,none⟩) (Nat.le_refl _) _;have HT:=(show RC W3 w.heap.size from ⟨⟨r30,r31,r32,r33,r34⟩,s30,s31,s32,s33,s34⟩).below Aiw hwd
         have Aj6:=YT.set (b0:=wc.heap.size) (j:=1) (v:=.slice (some a) b.length cap) (by omega)
         have FR:(W3.setCell ⟨wc.heap.size,1,none⟩ (.slice (some a) b.length cap)).heap.size=W3.heap.size:=World.size_setCell ..;have j0:(W3.setCell ⟨wc.heap.size,1,none⟩ (.slice (some a) b.length cap)).cell? ⟨wc.heap.size,0,none⟩=some (.int .i64 1):=(Ee (by decide)).trans k0
         have j1:(W3.setCell ⟨wc.heap.size,1,none⟩ (.slice (some a) b.length cap)).cell? ⟨wc.heap.size,1,none⟩=some (.slice (some a) b.length cap):=World.cell?_setCell_same _ _ _ k1;have j2:(W3.setCell ⟨wc.heap.size,1,none⟩ (.slice (some a) b.length cap)).cell? ⟨wc.heap.size,2,none⟩=some (.string (Ab vO.2.1)):=(Ee (by decide)).trans k2
         have j3:(W3.setCell ⟨wc.heap.size,1,none⟩ (.slice (some a) b.length cap)).cell? ⟨wc.heap.size,3,none⟩=some (.bool vX.2.2):=(Ee (by decide)).trans k3
         have j4:(W3.setCell ⟨wc.heap.size,1,none⟩ (.slice (some a) b.length cap)).cell? ⟨wc.heap.size,4,none⟩=some (.string (Ab vP.2.1)):=(Ee (by decide)).trans k4
         go_wp2_with (go_at_call 32;refine (Adb _ vO.2.1 (hU.below Wj) hOB hOL).mono ?_)
         rintro e W5 ⟨FZ,o1,o2,o3,rfl⟩
         have hs5:W3.heap.size<=W5.heap.size:=by have:=FZ.size;rw[FR] at this;exact this
         have U7:Below w.heap.size w W5:=Wj.trans (FZ.mono Wj.size);have hr5:=HT.below FZ (by rw[FR];omega)
         have Ali:=hr5;obtain⟨⟨r50,r51,r52,r53,r54⟩,s50,s51,s52,s53,s54⟩:=Ali;have hw5:w.heap.size<W5.heap.size:=by omega
         have hc5:wc.heap.size<W5.heap.size:=by omega
         have NM:=Aj6.below FZ (by rw[FR];exact YT.2.1)
         have Kg:wc.heap.size<(W3.setCell ⟨wc.heap.size,1,none⟩ (.slice (some a) b.length cap)).heap.size:=by rw[FR];omega
         have i0:=(FZ.cell (p:=⟨wc.heap.size,0,none⟩) Kg).trans j0;have i1:=(FZ.cell (p:=⟨wc.heap.size,1,none⟩) Kg).trans j1;have i2:=(FZ.cell (p:=⟨wc.heap.size,2,none⟩) Kg).trans j2;have i3:=(FZ.cell (p:=⟨wc.heap.size,3,none⟩) Kg).trans j3;have i4:=(FZ.cell (p:=⟨wc.heap.size,4,none⟩) Kg).trans j4;have hbL:=(Below.refl W5.heap.size W5).alloc (Nat.le_refl _) (.cells #[.bool o1,.string o2,.int .i64 o3] 65);have MZ:Below w.heap.size w (W5.alloc (.cells #[.bool o1,.string o2,.int .i64 o3] 65)):=U7.alloc U7.size _;by_cases ho:Ga vO.2.1=0
         rotate_left
         ·have hoB:(Ga vO.2.1 != 0)=true:=by simp[ho]
          have hI:Hv vT vC vO vX vP=.error (Ga vO.2.1):=by rw[QA,Ev ho]
          go_wp2
          (try simp only[Exit.inBlock,Exit.then])
          exact Hn (b:=w.heap.size) rfl rfl (Kr W5 w.heap.size hw5 _ _ _ _ _ _ hr5) ⟨Gh U7 (Nat.le_refl _) U7.size _ _ _ _ _ _,by rw[hI];exact⟨ho,rfl⟩⟩
         have hoB:(Ga vO.2.1 != 0)=false:=by simp[ho]
         rw[Dr (by simp[ho])] at QA
         have YJ:=NM.below hbL (by have:=NM.2.1;exact this)
         cases BQ:vX.2.2 with
         |false=>
          rw[BQ] at i3;have hI:Hv vT vC vO vX vP=.ok (1,b,vO.2.1,false,vP.2.1):=by rw[QA,Dr (by simp[BQ]),BQ]
          go_wp2
          (try simp only[Exit.inBlock,Exit.then])
          exact Hn (b:=w.heap.size) rfl rfl (Kr W5 w.heap.size hw5 _ _ _ _ _ _ hr5) ⟨Gh U7 (Nat.le_refl _) U7.size _ _ _ _ _ _,by rw[hI];exact⟨a,cap,rfl,hac,by omega,NM.set5al (by omega)⟩⟩
         |true=>
          rw[BQ] at i3
          go_wp2_with (go_at_call 32;refine (Adb _ vP.2.1 (hU.below MZ) hPB hPL).mono ?_)
          rintro e W7 ⟨hb7,p1,p2,p3,rfl⟩
          have hsL:(W5.alloc (.cells #[.bool o1,.string o2,.int .i64 o3] 65)).heap.size=W5.heap.size+1:=Array.size_push _;have Ub:Below w.heap.size w W7:=MZ.trans (hb7.mono MZ.size);have hr7:=(hr5.below hbL hw5).below hb7 (by rw[hsL];omega)
          have Amc:=hr7;obtain⟨⟨r70,r71,r72,r73,r74⟩,s70,s71,s72,s73,s74⟩:=Amc;have MW:=YJ.below hb7 (by have:=YJ.2.1;exact this)
          have U6:=(hbL.trans (hb7.mono hbL.size));have l0:=(U6.cell (p:=⟨wc.heap.size,0,none⟩) (show wc.heap.size<W5.heap.size by omega)).trans i0
          have l1:=(U6.cell (p:=⟨wc.heap.size,1,none⟩) (show wc.heap.size<W5.heap.size by omega)).trans i1
          have l2:=(U6.cell (p:=⟨wc.heap.size,2,none⟩) (show wc.heap.size<W5.heap.size by omega)).trans i2
          have l3:=(U6.cell (p:=⟨wc.heap.size,3,none⟩) (show wc.heap.size<W5.heap.size by omega)).trans i3
          have l4:=(U6.cell (p:=⟨wc.heap.size,4,none⟩) (show wc.heap.size<W5.heap.size by omega)).trans i4
          have hs7:=U6.size;have hw7:w.heap.size<W7.heap.size:=by omega
          have hc7:wc.heap.size<W7.heap.size:=by omega
          have hbM:=(Below.refl W7.heap.size W7).alloc (Nat.le_refl _) (.cells #[.bool p1,.string p2,.int .i64 p3] 65);have Atk:Below w.heap.size w (W7.alloc (.cells #[.bool p1,.string p2,.int .i64 p3] 65)):=Ub.alloc Ub.size _;by_cases hp:Ga vP.2.1=0
          rotate_left
          ·have hoB:(Ga vP.2.1 != 0)=true:=by simp[hp]
           have hI:Hv vT vC vO vX vP=.error (Ga vP.2.1):=by rw[QA,Ev ⟨BQ,hp⟩]
           go_wp2
           (try simp only[Exit.inBlock,Exit.then])
           exact Hn (b:=w.heap.size) rfl rfl (Kr W7 w.heap.size hw7 _ _ _ _ _ _ hr7) ⟨Gh Ub (Nat.le_refl _) Ub.size _ _ _ _ _ _,by rw[hI];exact⟨hp,rfl⟩⟩
          have hpB:(Ga vP.2.1 != 0)=false:=by simp[hp]
          have A4e:=MW.below hbM (by have:=MW.2.1;exact this)
          have hI:Hv vT vC vO vX vP=.ok (1,b,vO.2.1,true,vP.2.1):=by rw[QA,Dr (by simp[hp]),BQ]
          go_wp2
          (try simp only[Exit.inBlock,Exit.then])
          exact Hn (b:=w.heap.size) rfl rfl (Kr W7 w.heap.size hw7 _ _ _ _ _ _ hr7) ⟨Gh Ub (Nat.le_refl _) Ub.size _ _ _ _ _ _,by rw[hI];exact⟨a,cap,rfl,hac,by omega,MW.set5al (by omega)⟩⟩
end
section
open Go.Proofs.Tryd (prog)
open Go.IntKind (wrap)
set_option maxRecDepth 1000000
open Go Go.RowKit Go.Lib
def HU (L:Nat)(s:List Int):Prop:=Dp s∧s.length<=4*L
theorem Yj:∀(n:Nat)(out l s q:List Int),Dp l->Jn n out l=(some s,q)->s.length<=out.length+4*l.length
  |0,_,_,_,_,_,h=>by cases h
  |_+1,_,[],_,_,_,h=>by cases h
  |n+1,out,c::l,s,q,hl,h=>by
    have e:Jn (n+1) out (c::l)=if c<32 then (none,c::l) else if c=34 then (some out,l) else if c=92 then
        (match L1 l with
         |(some x,r')=>Jn n (out++Lib.encodeRuneZ x) r'
         |(none,r')=>(none,r')) else Jn n (out++[c]) l:=rfl
    have Of:=Be hl
    rw[e] at h
    split at h
    · cases h
    split at h
    · cases h;simp
    split at h
    · have h2:=Ox (C8.self Of.2)
      rcases hq:L1 l with⟨o,r⟩
      rw[hq] at h2 h
      cases o with
      |none=>cases h
      |some x=>
        have:=Yj n _ r s q h2.B h
        have h3:=Lib.encodeRuneZ_length x
        have h4:r.length<=l.length:=h2.le
        simp at this ⊢
        omega
    · have:=Yj n _ l s q Of.2 h
      simp at this ⊢
      omega
theorem KZ {l s q:List Int}(hl:Dp l)(h:Et l=(some s,q)):HU l.length s:=by
 refine⟨QJ hl h,?_⟩;cases l with
 |nil=>cases h
 |cons c l=>
  have e:Et (c::l)=if c=34 then Jn (l.length+1) [] l else (none,c::l):=rfl
  rw[e] at h;split at h
  ·have:=Yj _ _ _ _ _ (Be hl).2 h;simp at this ⊢;omega
  ·cases h
theorem HU.mono {L M:Nat}{s:List Int}(h:HU L s)(hm:L<=M):HU M s:=⟨h.1,by have:=h.2;omega⟩
theorem HU.nil (L:Nat):HU L []:=⟨(fun x hx=>nomatch hx),Nat.zero_le _⟩
theorem ZA {l r:List Int}{v:JV}(hl:Dp l)(hs:l.length<=1000000)(h:Fn 8 l=.ok (v,r)):C8 (Ab l) r:=by
 obtain⟨res,_,hr⟩:=Agg (fu:=1000001) (d:=0) (t:=Ab l) (by rw[An];exact hs) (by rw[An];omega) 8 1 (by omega) (by omega) l (C8.self hl)
 rw[h] at hr;exact hr.1
theorem Ac1:∀{k:Nat}{l r:List Int}{v:JV},Dp l->Fn k l=.ok (v,r)->HU l.length v.2.1:=by
 intro k l r v hl h;unfold Fn at h;split at h
 ·split at h
  ·cases h
  ·split at h
   ·cases h
   ·cases h;exact HU.nil _
 ·split at h
  ·cases h
  ·split at h
   ·cases h
   ·cases h;exact HU.nil _
 ·rename_i r0;unfold EI at h;rcases hq:Et (34::r0) with⟨o,q⟩;rw[hq] at h;cases o with
  |none=>cases h
  |some s=>cases h;exact KZ hl hq
 ·repeat' split at h
  all_goals first|(cases h;exact HU.nil _)|cases h
theorem Aej {L:Nat}(hL:L<=1000000):∀(n:Nat)(ms:List (List Int × JV)) (l r:List Int)(ms':List (List Int × JV)),Dp l->l.length<=L->(∀m∈ms,HU L m.1∧HU L m.2.2.1)->Ql (Fn 8) true n ms l=.ok (ms',r)->∀m∈ms',HU L m.1∧HU L m.2.2.1:=by
 intro n
 induction n with
 |zero=>intro ms l r ms' _ _ _ h;cases h
 |succ n ih=>
  intro ms l r ms' hl hs hm h;rw[Y3] at h;rcases hx:Et l with⟨o,q⟩;rw[hx] at h;cases o with
  |none=>cases h
  |some nm=>
   have AX:=KZ hl hx;have hq:=Gp (C8.self hl);rw[hx] at hq;simp only at h;split at h
   ·cases h
   cases h1:Aq [58] (Bf q) with
   |none=>rw[h1] at h;cases h
   |some r1=>
    rw[h1] at h;have AC:=Bn (Ap (Bn hq) h1);simp only at h;cases hv:Fn 8 (Bf r1) with
    |error e=>rw[hv] at h;cases h
    |ok x=>
     obtain⟨v,r2⟩:=x;rw[hv] at h;have Wg:=AC.le;have hvo:=Ac1 AC.B hv;have CL:=AC.trans (ZA AC.B (by omega) hv)
     have Lh:∀m∈ms++[(nm,v)],HU L m.1∧HU L m.2.2.1:=by
      intro m H8;rcases List.mem_append.1 H8 with H8|H8
      ·exact hm m H8
      ·simp at H8;subst H8;exact⟨AX.mono hs,hvo.mono (by omega)⟩
     simp only at h;cases h2:Aq [125] (Bf r2) with
     |some r3=>rw[h2] at h;cases h;exact Lh
     |none=>
      rw[h2] at h;simp only at h;cases h3:Aq [44] (Bf r2) with
      |none=>rw[h3] at h;cases h
      |some r3=>
       rw[h3] at h;have SO:=Bn (Ap (Bn CL) h3);exact ih _ _ _ _ SO.B (by have:=SO.le;omega) Lh h
theorem Ac9 {l:List Int}{ms:List (List Int × JV)} (hl:Dp l)(hs:l.length<=1000000)(h:OC 8 l=.ok ms):∀m∈ms,HU l.length m.1∧HU l.length m.2.2.1:=by
 rw[DI] at h;have h0:=Bn (C8.self hl);cases h1:Aq [123] (Bf l) with
 |none=>rw[h1] at h;cases h
 |some r=>
  rw[h1] at h;have hr:=Ap h0 h1;simp only at h;rw[Uw] at h;have CL:=Bn hr;cases h2:Aq [125] (Bf r) with
  |some r'=>
   rw[h2] at h;simp only at h;split at h
   ·cases h;exact fun m hm=>by cases hm
   ·cases h
  |none=>
   rw[h2] at h;simp only at h;cases h3:Ql (Fn 8) true ((Bf r).length+1) [] (Bf r) with
   |error e=>rw[h3] at h;cases h
   |ok x=>
    obtain⟨ms',r'⟩:=x;rw[h3] at h;simp only at h;split at h
    ·cases h;exact Aej hs _ _ _ _ _ CL.B CL.le (fun m hm=>by cases hm) h3
    ·cases h
def RT (ms:List (List Int × JV)):JR CD:=Hv (Cj Oe ms) (Cj U2 ms) (Cj nmO ms) (Cj nmX ms) (Cj nmP ms)
def L4 (t:ByteArray):JR CD:=
 if 1024<t.size then .error 8 else if Lib.validD t.data.toList=false then .error 6 else match OC 8 (Ea t) with
  |.error e=>.error e
  |.ok ms=>RT ms
theorem Ae5 {G:Rs}{P:Program}{f:FuncId}{args vals:List PV}{us rs:List Value}(hs:C6 G P f args ⟨vals,[]⟩) (ha:Bd Yf args us)(hr:Bd Yf vals rs)
  {w:World} (hG:G.ok w) (hGl:∀k,G.bl k->k<w.heap.size):Calls P f us.toArray w fun e w'=>e=.returned (Gx rs)∧Below w.heap.size w w':=by
 have hi:Ins w (fun _=>False) LY args us:=⟨fun _ h=>h.elim,fun _ h=>h.elim,fun k h=>absurd h (Mz k),fun i j i' j' b o o' h=>(by cases h),fun i q h=>(by cases h),S1 ha⟩
 refine (hs.2 w _ _ _ hi hG (fun k hk=>⟨hGl k hk,Mz k⟩)).mono ?_
 rintro e w' ⟨ws,own,rfl,out⟩
 have hv:=Yk hr out.vals;subst hv;exact⟨rfl,out.os,out.tape,out.output,out.ext.size,fun k hk=>out.ext.keep k hk (Mz k)⟩
theorem WK (W:World)(s:List Int)(hW:okW W)(hB:Dp s)(hs:s.length<=1000000):Calls prog 32 #[.string (Ab s)] W fun e w'=>Below W.heap.size W w'∧∃o1 o2 o3,e=.returned (.tuple #[.agg #[.bool o1,.string o2,.int .i64 o3],.int .i64 (Ga s)]):=by
 obtain⟨o1,o2,o3,e⟩:=Ag2 (fu:=1000001) (d:=0) (p:=none) hB hs (by omega)
 have hsd:C6 gU prog 32 [.sc (.string (Ab s))] ⟨[.agg ([Value.bool o1,.string o2,.int .i64 o3].map .sc),.sc (.int .i64 (Ga s))],[]⟩:=Hi ngR mxR Alh 7 _ _ _ e;refine (Ae5 (us:=[.string (Ab s)]) (rs:=[.agg #[.bool o1,.string o2,.int .i64 o3],.int .i64 (Ga s)]) hsd ⟨.inl rfl,trivial⟩ ⟨.inr ⟨_,rfl,rfl⟩,.inl rfl,trivial⟩ hW.1 hW.2).mono ?_
 rintro e w' ⟨rfl,hb⟩
 exact⟨hb,o1,o2,o3,rfl⟩
theorem TB (W:World)(s:List Int)(hW:okW W)(hB:Dp s)(hs:s.length<=1000000):Calls prog 15 #[.string (Ab s)] W fun e w'=>Below W.heap.size W w'∧DbP W w' s e:=by
 have e:=Aaa (fu:=1000001) (d:=0) (p:=none) hB hs (by omega) (by omega)
 have hi:Ins W (fun _=>False) LY [.sc (.string (Ab s))] [.string (Ab s)]:=⟨fun _ h=>h.elim,fun _ h=>h.elim,fun k h=>absurd h (Mz k),fun i j i' j' b o o' h=>(by cases h),fun i q h=>(by cases h),S1 (show Bd Yf [.sc (.string (Ab s))] [.string (Ab s)] from ⟨.inl rfl,trivial⟩)⟩
 have hsd:C6 gU prog 15 [.sc (.string (Ab s))] _:=Hi ngR mxR Alh 3 _ _ _ e;refine (hsd.2 W _ _ _ hi hW.1 (fun k hk=>⟨hW.2 k hk,Mz k⟩)).mono ?_
 rintro e w' ⟨ws,own,rfl,out⟩
 refine⟨⟨out.os,out.tape,out.output,out.ext.size,fun k hk=>out.ext.keep k hk (Mz k)⟩,?_⟩
 have hv:=out.vals;have XB:=out.fresh;generalize hA:Yw LY own (fun _=>False)=A at hv
 unfold DbP;cases hd:G3 s with
 |none=>
  rw[hd] at hv
  match ws,hv with
  |[u1,u2],hv=>
   obtain⟨h1,h2,_⟩:=hv;have e2:u2=.int .i64 2:=Ar.val (show Ar w' A (.sc (.int .i64 2)) u2 from h2)
   rcases (show Fh w' A (own 0) (.own 1 0 []) u1 from h1) with⟨_,_,_,ad,rfl⟩|⟨b,o,cap,ho,rfl,h⟩
   ·rw[e2];exact⟨ad,0,rfl⟩
   ·rw[e2];exact⟨_,cap,rfl⟩
  |[],hv=>exact hv.elim
  |[_],hv=>exact hv.2.elim
  |_::_::_::_,hv=>exact hv.2.2.elim
 |some b=>
  rw[hd] at hv
  match ws,hv with
  |[u1,u2],hv=>
   obtain⟨h1,h2,_⟩:=hv;have e2:u2=.int .i64 0:=Ar.val (show Ar w' A (.sc (.int .i64 0)) u2 from h2)
   rw[e2];rcases (show Fh w' A (own 0) (.own 1 b.length (Ck .u8 b)) u1 from h1) with⟨_,hn,_,ad,rfl⟩|⟨bb,o,cap,ho,rfl,hc,hf,B6,hr,hz⟩
   ·have AP:b=[]:=List.eq_nil_of_length_eq_zero hn;subst AP;exact⟨ad,0,rfl,fun h=>absurd rfl h⟩
   ·refine⟨some ⟨bb,o,none⟩,cap,rfl,fun _=>⟨⟨bb,o,none⟩,rfl,hc,?_,rfl,B6,fun j x hx=>?_⟩⟩
    ·have:=(XB 0 bb o ho).2;rcases Nat.lt_or_ge bb W.heap.size with q|q
     ·obtain⟨⟨i,k,o',h⟩,_⟩:=this q;cases h
     ·exact q
    ·have hj:(Ck .u8 b)[j]?=some (.sc (.int .u8 x)):=by
      rw[Mx,List.getElem?_map,hx];rfl
     obtain⟨v,hv1,_,hv2⟩:=hr j _ hj;rw[hv1];exact congrArg some hv2.val
  |[],hv=>exact hv.elim
  |[_],hv=>exact hv.2.elim
  |_::_::_::_,hv=>exact hv.2.2.elim
def PaP (w w':World)(t:ByteArray)(e:Ending):Prop:=ItP w w' (L4 t) e
theorem IE {R:Ending->World->Prop}{a:Act}{W:World}{v:Value}{b:Nat}(h2:a.tmps.getD 2 undef=.pointer (some ⟨b,0,none⟩)) (hd:a.defers=[]) (hl:(loadVar 36 ⟨b,0,none⟩).run prog W=.ok v W) (hR:R (.returned (.tuple #[v,a.tmps.getD 3 undef])) W):bodyPost prog Tryd.f19 R .ret a W:=by
 refine bodyPost_ret ?_ hd hR;rw[results_cell_tmp rfl,h2];have e:(asAddr (.pointer (some ⟨b,0,none⟩))).run prog W=.ok ⟨b,0,none⟩ W:=rfl;rw[e,Result.andThen_ok,hl,Result.andThen_ok]
def VsP (w w':World)(t:ByteArray)(e:Ending):Prop:=e=.returned (.bool (Lib.validD t.data.toList))∧Below w.heap.size w w'
def RtQ (w w':World)(t:ByteArray)(e:Ending):Prop:=Below w.heap.size w w'∧RtP w' (Ea t) e
def ItQ (w w':World)(r:JR CD)(e:Ending):Prop:=Below w.heap.size w w'∧ItP w w' r e
set_option maxHeartbeats 4000000 in
theorem Afo {t:ByteArray}(ht:t.size<=9223372036854775807){w:World}(hU:okW w):Calls prog 19 #[.string t] w fun e w'=>Below w.heap.size w w'∧PaP w w' t e:=by
 have mixed:prog.follows Departure.mixedOrders=true:=by kernel_rfl
 have Eg:Below w.heap.size w (w.alloc (.cells #[.int .i64 0,.slice none 0 0,.string ⟨#[]⟩,.bool false,.string ⟨#[]⟩] 36)):=(Below.refl _ w).alloc (Nat.le_refl _) _;have XD:=al1 w (.cells #[.int .i64 0,.slice none 0 0,.string ⟨#[]⟩,.bool false,.string ⟨#[]⟩] 36);have WV:(w.alloc (.cells #[.int .i64 0,.slice none 0 0,.string ⟨#[]⟩,.bool false,.string ⟨#[]⟩] 36)).heap.size=w.heap.size+1:=Array.size_push _;have AC:RC (w.alloc (.cells #[.int .i64 0,.slice none 0 0,.string ⟨#[]⟩,.bool false,.string ⟨#[]⟩] 36)) w.heap.size:=Aal XD;have hU1:=hU.below Eg
 have hvc:Calls prog 33 #[.string t] (w.alloc (.cells #[.int .i64 0,.slice none 0 0,.string ⟨#[]⟩,.bool false,.string ⟨#[]⟩] 36)) fun e w'=>VsP (w.alloc (.cells #[.int .i64 0,.slice none 0 0,.string ⟨#[]⟩,.bool false,.string ⟨#[]⟩] 36)) w' t e:=(Any.utf8_ValidString laysVS t (w.alloc (.cells #[.int .i64 0,.slice none 0 0,.string ⟨#[]⟩,.bool false,.string ⟨#[]⟩] 36)) ht hU1.1.2.2).mono (fun _ _ h=>h)
 go_enter Tryd.func19,Tryd.ntmps19
 by_cases Db:1024<t.size
 ·have hI:L4 t=.error 8:=by unfold L4;rw[Ev Db]
  have hq:(t.size:Int)>1024:=by omega
  go_wp2
  (try simp only[Exit.inBlock,Exit.then])
  obtain⟨⟨r0,r1,r2,r3,r4⟩,_⟩:=AC;exact IE (b:=w.heap.size) rfl rfl (GG r0 r1 r2 r3 r4) ⟨Eg,by unfold PaP;rw[hI];exact⟨by decide,rfl⟩⟩
 have hq:¬(t.size:Int)>1024:=by omega
 go_wp2_with (go_at_call 33;refine hvc.mono ?_)
 rintro e W2 ⟨rfl,G5⟩
 have Afv:Below w.heap.size w W2:=Eg.trans (G5.mono Eg.size);have CL:=AC.below G5 (by rw[WV];omega)
 have Q3:w.heap.size+1<=W2.heap.size:=by have:=G5.size;rw[WV] at this;exact this
 have hw2:w.heap.size<W2.heap.size:=by omega
 have hU2:=hU.below Afv;cases hvd:Lib.validD t.data.toList with
 |false=>
  have hI:L4 t=.error 6:=by unfold L4;rw[Dr Db,hvd,Ev rfl]
  obtain⟨⟨r0,r1,r2,r3,r4⟩,s0,s1,s2,s3,s4⟩:=id CL
  go_wp2
  (try simp only[Exit.inBlock,Exit.then])
  exact IE (b:=w.heap.size) rfl rfl (Uh W2 w.heap.size _ _ _ _ _ CL.some) ⟨Ht Afv (Nat.le_refl _) _ _ _ _ _,by unfold PaP;rw[hI];exact⟨by decide,rfl⟩⟩
 |true=>
  have Ww:L4 t=match OC 8 (Ea t) with | .error e=>.error e | .ok ms=>RT ms:=by unfold L4;rw[Dr Db,hvd,Dr (by decide)]
  have hrt:Calls prog 34 #[.string t] W2 fun e w'=>RtQ W2 w' t e:=Aer (by omega) hU2.1 hU2.2
  go_wp2_with (go_at_call 34;refine hrt.mono ?_)
  rintro e W3 ⟨Rk,FF⟩
  have S2:Below w.heap.size w W3:=Afv.trans (Rk.mono Afv.size);have SO:=CL.below Rk hw2;have hw3:w.heap.size<W3.heap.size:=Nat.lt_of_lt_of_le hw2 Rk.size;have hU3:=hU.below S2;unfold RtP at FF;cases Air:OC 8 (Ea t) with
  |error er=>
   rw[Air] at FF Ww;obtain⟨he,m,rfl⟩:=FF;have hbe:(er != (0:Int))=true:=by simp[he]
   obtain⟨⟨r0,r1,r2,r3,r4⟩,s0,s1,s2,s3,s4⟩:=id SO
   go_wp2
   (try simp only[Exit.inBlock,Exit.then])
   exact IE (b:=w.heap.size) rfl rfl (Uh W3 w.heap.size _ _ _ _ _ SO.some) ⟨Ht S2 (Nat.le_refl _) _ _ _ _ _,by unfold PaP;rw[Ww];exact⟨he,rfl⟩⟩
  |ok ms=>
   rw[Air] at FF Ww;obtain⟨mb,rfl,hM3⟩:=FF;have La:(Ea t).length<=1000000:=by rw[Kp];omega
   have hok:=Ac9 (PG t) La Air;have hl4:4*(Ea t).length<=1000000:=by rw[Kp];omega
   have Qw:Calls prog 35 #[.map (some mb)] W3 fun e w'=>ItQ W3 w' (RT ms) e:=Afh TB WK (fun m hm=>(hok m hm).1.1) (fun m hm=>⟨(hok m hm).2.1,by have:=(hok m hm).2.2;omega⟩) hU3 hM3
   go_wp2_with (go_at_call 35;refine Qw.mono ?_)
   rintro e W4 ⟨hb4,hp4⟩
   have Wj:Below w.heap.size w W4:=S2.trans (hb4.mono S2.size);have HT:=SO.below hb4 hw3;have hw4:w.heap.size<W4.heap.size:=Nat.lt_of_lt_of_le hw3 hb4.size;unfold ItP at hp4;cases MN:RT ms with
   |error er=>
    rw[MN] at hp4 Ww;obtain⟨he,rfl⟩:=hp4;have hbe:(er != (0:Int))=true:=by simp[he]
    obtain⟨⟨r0,r1,r2,r3,r4⟩,s0,s1,s2,s3,s4⟩:=id HT
    go_wp2
    (try simp only[Exit.inBlock,Exit.then])
    exact IE (b:=w.heap.size) rfl rfl (Kr W4 w.heap.size hw4 _ _ _ _ _ _ HT) ⟨Gh Wj (Nat.le_refl _) Wj.size _ _ _ _ _ _,by unfold PaP;rw[Ww];exact⟨he,rfl⟩⟩
   |ok x=>
    obtain⟨k,b,o,x,p⟩:=x;rw[MN] at hp4 Ww;obtain⟨ad,cap,rfl,hc,hwa,YT⟩:=hp4;obtain⟨⟨r0,r1,r2,r3,r4⟩,s0,s1,s2,s3,s4⟩:=id HT
    go_wp2
    (try simp only[Exit.inBlock,Exit.then])
    exact IE (b:=w.heap.size) rfl rfl (Kr W4 w.heap.size hw4 _ _ _ _ _ _ HT) ⟨Gh Wj (Nat.le_refl _) Wj.size _ _ _ _ _ _,by unfold PaP;rw[Ww];exact⟨ad,cap,rfl,hc,by omega,YT.set5al (by omega)⟩⟩
def Fk (args:List PV):Option Ay:=
 match args with
 |[.sc (.string t)]=>bif decide (t.size<=9223372036854775807) then some (match L4 t with
  |.ok (k,b,o,x,p)=>⟨[.agg [.sc (.int .i64 k),.lst false 1 b.length (Ck .u8 b),.sc (.string (Ab o)),.sc (.bool x),.sc (.string (Ab p))],.sc (.int .i64 0)],[]⟩
  |.error e=>⟨[.agg [.sc (.int .i64 0),.lst false 1 0 [],.sc (.string ⟨#[]⟩),.sc (.bool false),.sc (.string ⟨#[]⟩)],.sc (.int .i64 e)],[]⟩) else none
 |_=>none
theorem Yi {w w':World}{Y:Nat->Prop}{bt:Tv}{args vals:List PV}{vs:List Value}(hb:Below w.heap.size w w')(hv:CK w' (Yw bt (fun _=>none) Y) (fun _=>none) w.heap.size 0 vals vs) (ho:Qt w' (Yw bt (fun _=>none) Y) (fun _=>none) bt (Jm vals) 0 args []):
  Out w w' Y bt args (fun _=>none) ⟨vals,[]⟩ vs where
 os:=hb.os
 tape:=hb.tape
 output:=hb.output
 ext:=⟨hb.size,fun b h _=>hb.block b h,fun b h=>Gi.same (hb.block b h)⟩
 rng:=fun b j h _=>⟨by unfold World.cell?;simp only[hb.block b h],by unfold World.frozen?;simp only[hb.block b h]⟩
 vals:=hv
 outs:=ho
 fresh:=fun j b o h=>by cases h
 inj:=fun j j' b o o' h=>by cases h
theorem LP (args:List PV)(res:Ay)(h:Fk args=some res):C6 gU prog 19 args res:=by
 refine⟨⟨_,Tryd.func19,by kernel_rfl⟩,fun w Y bt us hi hok hgl=>?_⟩
 unfold Fk at h;split at h
 rotate_left
 ·cases h
 rename_i t;cases hq:decide (t.size<=9223372036854775807)
 ·rw[hq] at h;cases h
 rw[hq,cond_true] at h;have hs:=of_decide_eq_true hq;have ps:=hi.args
 match us,ps with
 |[u],ps=>
  have hu:u=.string t:=Ar.val (show Ar w _ (.sc (.string t)) u from ps.1.2)
  subst hu;refine (Afo hs ⟨hok,fun k hk=>(hgl k hk).1⟩).mono ?_
  rintro e w' ⟨hb,hp⟩
  unfold PaP at hp;unfold ItP at hp;cases We:L4 t with
  |error er=>
   rw[We] at hp h;obtain⟨_,rfl⟩:=hp;cases h;refine⟨[.agg #[.int .i64 0,.slice none 0 0,.string ⟨#[]⟩,.bool false,.string ⟨#[]⟩],.int .i64 er],fun _=>none,rfl,Yi hb ⟨⟨_,rfl,?_⟩,Ar.sc _,trivial⟩ rfl⟩
   exact⟨Ar.sc _,Ar.lnil _ _,Ar.sc _,Ar.sc _,Ar.sc _,trivial⟩
  |ok x=>
   obtain⟨k,b,o,x,p⟩:=x;rw[We] at hp h;obtain⟨ad,cap,rfl,hc,hwa,YT⟩:=hp;cases h;refine⟨[.agg #[.int .i64 k,.slice (some ad) b.length cap,.string (Ab o),.bool x,.string (Ab p)],.int .i64 0],fun _=>none,rfl,Yi hb ⟨⟨_,rfl,?_⟩,Ar.sc _,trivial⟩ rfl⟩
   refine⟨Ar.sc _,?_,Ar.sc _,Ar.sc _,Ar.sc _,trivial⟩;refine Ar.lst 1 b.length (Ck .u8 b) ad cap (fun j=>.int .u8 (b.getD j 0)) YT.1 YT.2.1 ?_ hc ?_ ?_ ?_
   ·rintro (⟨j,o,h⟩|⟨i,o,h⟩|h)
    ·cases h
    ·have:=hi.lt ad.block ⟨i,0,o,h⟩;omega
    ·have:=hi.Ylt _ h;omega
   ·intro j c hj;rw[Mx,List.getElem?_map] at hj;obtain⟨y,hy,rfl⟩:=Option.map_eq_some_iff.1 hj;rw[YT.2.2 j y hy];simp[List.getD_eq_getElem?_getD,hy]
   ·intro j c hj;rfl
   ·intro j c hj;rw[Mx,List.getElem?_map] at hj;obtain⟨y,hy,rfl⟩:=Option.map_eq_some_iff.1 hj;have:b.getD j 0=y:=by simp[List.getD_eq_getElem?_getD,hy]
    rw[this];exact Ar.sc _
 |[],ps=>exact ps.elim
 |_::_::_,ps=>exact ps.2.elim
abbrev C1:F3:=CP (some Fk)
theorem extV:DU gU prog C1:=Agz (fun g h args res hg=>by cases h;exact LP args res hg)
end
section
open Go.Proofs.Tryd (prog)
open Go.IntKind (wrap)
set_option maxRecDepth 100000
abbrev Gt:FuncId:=13
noncomputable def Cg (fu:Nat)(call:Ax)(Ld:Nat)(a0:List PV)(nn y0:Nat)(y1:List PV)(y2:ByteArray)(y3:Int):Option Ay:=I3 CB prog fu call 13 Tryd.f13 (Gb Tryd.f13) [.lst false 1 Ld a0] [.r,.r,.l,.r,.l] nn ⟨lk [(0,(.lst false 1 y0 y1)),(3,(.sc (.string y2))),(4,(.sc (.int .i64 y3)))],Jz []⟩
noncomputable def Bz (fu:Nat)(call:Ax)(Ld:Nat)(a0:List PV)(m0 nn y0:Nat)(y1:List PV)(y2:ByteArray)(y3 y4 y5:Int):Option Ay:=I3 CB prog fu call 13 Tryd.f13 (Gb Tryd.f13) [.lst false 1 Ld a0] [.r,.r,.l,.r,.l,.i m0,.r,.l,.l,.r,.r,.r,.r,.l] nn ⟨lk [(0,(.lst false 1 y0 y1)),(3,(.sc (.string y2))),(4,(.sc (.int .i64 y3))),(5,(.sc (.int .u64 y4))),(6,(.sc (.int .i64 y5)))],Jz []⟩
theorem D7 (fu:Nat)(call:Ax)(Ld:Nat)(a0:List PV)(nn y0:Nat)(y1:List PV)(y2:ByteArray)(y3:Int):Cg fu call Ld a0 (nn+1) y0 y1 y2 y3=(Bh (decide (y3<(↑y0:Int))) (Bj (decide (0<=y3)&&decide (y3<(↑y0:Int)))<|Aw .u8 (List.getD y1 (Int.toNat y3*1) .top) fun x1=>Ac (wrap .u64 x1) fun x2=>Ac (Le .u64 x2 16) fun x3=>Ac (wrap .i64 (y3+1)) fun x4=>Bh (decide (x4<(↑y0:Int))) (Ac (wrap .i64 (y3+1)) fun x5=>Bj (decide (0<=x5)&&decide (x5<(↑y0:Int)))<|Aw .u8 (List.getD y1 (Int.toNat x5*1) .top) fun x6=>Ac (wrap .u64 x6) fun x7=>Ac (Le .u64 x7 8) fun x8=>Ac (WI .u64 x3 x8) fun x9=>Ac (wrap .i64 (y3+2)) fun F6=>Bh (decide (F6<(↑y0:Int))) (Ac (wrap .i64 (y3+2)) fun L6=>Bj (decide (0<=L6)&&decide (L6<(↑y0:Int)))<|Aw .u8 (List.getD y1 (Int.toNat L6*1) .top) fun N0=>Ac (wrap .u64 N0) fun F0=>Ac (WI .u64 x9 F0) fun Kb=>Bz fu call Ld a0 nn (fu) (y0) (y1) (y2) (y3) Kb 0) (Bz fu call Ld a0 nn (fu) (y0) (y1) (y2) (y3) x9 0)) (Ac (wrap .i64 (y3+2)) fun Ni=>Bh (decide (Ni<(↑y0:Int))) (Ac (wrap .i64 (y3+2)) fun Lp=>Bj (decide (0<=Lp)&&decide (Lp<(↑y0:Int)))<|Aw .u8 (List.getD y1 (Int.toNat Lp*1) .top) fun K0=>Ac (wrap .u64 K0) fun N3=>Ac (WI .u64 x3 N3) fun Nz=>Bz fu call Ld a0 nn (fu) (y0) (y1) (y2) (y3) Nz 0) (Bz fu call Ld a0 nn (fu) (y0) (y1) (y2) (y3) x3 0))) (some (Ay.mk [.sc (.string y2)] []))):=by kernel_rfl
theorem Fp (fu:Nat)(call:Ax)(Ld:Nat)(a0:List PV)(m0 nn y0:Nat)(y1:List PV)(y2:ByteArray)(y3 y4 y5:Int):Bz fu call Ld a0 m0 (nn+1) y0 y1 y2 y3 y4 y5=(Bh (decide (y5<4)) (Ac (wrap .i64 ((↑y0:Int)-y3)) fun N8=>Bh (decide (y5<=N8)) (Ac (wrap .u64 y5) fun Oc=>Ac (wrap .u64 (6*Oc)) fun P8=>Ac (wrap .u64 (18-P8)) fun M4=>Bj (decide (0<=M4))<|Ac (GP .u64 y4 M4) fun Qi=>Ac (WA .u64 Qi 63) fun M3=>Ac (wrap .u64 (M3+1)) fun M8=>Bj (decide (0<=M3))<|Bj (decide (0<=M8))<|Bj (decide (Int.toNat M3<=Int.toNat M8)&&decide (Int.toNat M8<=64))<|Ac (ByteArray.extract (ByteArray.mk #[65,66,67,68,69,70,71,72,73,74,75,76,77,78,79,80,81,82,83,84,85,86,87,88,89,90,97,98,99,100,101,102,103,104,105,106,107,108,109,110,111,112,113,114,115,116,117,118,119,120,121,122,48,49,50,51,52,53,54,55,56,57,45,95]) M3.toNat M8.toNat) fun Qe=>Bj (decide (ByteArray.size y2+ByteArray.size Qe<=9223372036854775807))<|Ac (y2++Qe) fun Rm=>Ac (wrap .i64 (y5+1)) fun Ov=>Bz fu call Ld a0 m0 (nn) (y0) (y1) Rm (y3) (y4) Ov) (Ac (wrap .i64 (y3+3)) fun Q4=>Cg fu call Ld a0 (m0) (y0) (y1) (y2) Q4)) (Ac (wrap .i64 (y3+3)) fun R1=>Cg fu call Ld a0 (m0) (y0) (y1) (y2) R1)):=by kernel_rfl
theorem Lb {p:Option (List PV->Option Ay)} (fu d Ld:Nat)(a0:List PV):Ae (CP p) prog fu (d+1) Gt [.lst false 1 Ld a0]=(fun (call:Ax)=>Cg fu call Ld a0 (fu) (Ld) (a0) (ByteArray.mk #[]) 0) (Ae (CP p) prog fu d):=by kernel_rfl
abbrev Jc:FuncId:=39
noncomputable def Em (fu:Nat)(call:Ax)(a0:Int)(nn:Nat)(y0 y1:Int):Option Ay:=I3 CB prog fu call 39 Tryd.f39 (Gb Tryd.f39) [.sc (.int .u8 a0)] [.r,.l,.r,.l] nn ⟨lk [(0,(.sc (.int .u8 y0))),(3,(.sc (.int .i64 y1)))],Jz []⟩
theorem Hf (fu:Nat)(call:Ax)(a0:Int)(nn:Nat)(y0 y1:Int):Em fu call a0 (nn+1) y0 y1=(Bh (decide (y1<64)) (Bj (decide (0<=y1))<|Dh ((Array.toList (ByteArray.data (ByteArray.mk #[65,66,67,68,69,70,71,72,73,74,75,76,77,78,79,80,81,82,83,84,85,86,87,88,89,90,97,98,99,100,101,102,103,104,105,106,107,108,109,110,111,112,113,114,115,116,117,118,119,120,121,122,48,49,50,51,52,53,54,55,56,57,45,95])))[Int.toNat y1]?) fun x1=>Bh ((↑(UInt8.toNat x1):Int)==y0) (Ac (wrap .u64 y1) fun x2=>some (Ay.mk [.sc (.int .u64 x2)] [])) (Ac (wrap .i64 (y1+1)) fun x3=>Em fu call a0 (nn) (y0) x3)) (some (Ay.mk [.sc (.int .u64 64)] []))):=by kernel_rfl
theorem Oo {p:Option (List PV->Option Ay)} (fu d:Nat)(a0:Int):Ae (CP p) prog fu (d+1) Jc [.sc (.int .u8 a0)]=(fun (call:Ax)=>Em fu call a0 (fu) (a0) 0) (Ae (CP p) prog fu d):=by kernel_rfl
abbrev Gu:FuncId:=26
noncomputable def C3 (fu:Nat)(call:Ax)(a0:ByteArray)(nn:Nat)(y0:ByteArray)(y1:Nat)(y2 y3 y4:Int)(y5:List PV):Option Ay:=I3 CB prog fu call 26 Tryd.f26 (Gb Tryd.f26) [.sc (.string a0)] [.r,.r,.r,.l,.r,.l] nn ⟨lk [(0,(.sc (.string y0))),(4,(.view 4 1 0 y1)),(5,(.sc (.int .u64 y2))),(6,(.sc (.int .u64 y3))),(7,(.sc (.int .i64 y4)))],Jz [(4,(.ar false y5))]⟩
theorem Fo (fu:Nat)(call:Ax)(a0:ByteArray)(nn:Nat)(y0:ByteArray)(y1:Nat)(y2 y3 y4:Int)(y5:List PV):C3 fu call a0 (nn+1) y0 y1 y2 y3 y4 y5=(Bh (decide (y4<(↑(ByteArray.size y0):Int))) (Bj (decide (0<=y4))<|Dh ((Array.toList (ByteArray.data y0))[Int.toNat y4]?) fun x1=>Ai (call 39 [.sc (.int .u8 (↑(UInt8.toNat x1):Int))]) fun x2 x3=>Ad x3<|Aa x2 fun x4 x5=>Aw .u64 x4 fun x6=>Ad x5<|Bh (decide (x6>63)) (some (Ay.mk [.own 1 0 [],.sc (.int .i64 2)] [])) (Ac (Le .u64 y2 6) fun x7=>Ac (WI .u64 x7 x6) fun x8=>Ac (WA .u64 x8 65535) fun x9=>Ac (wrap .u64 (y3+6)) fun F6=>Bh (decide (F6>=8)) (Ac (wrap .u64 (F6-8)) fun L6=>Bj (decide (0<=L6))<|Ac (GP .u64 x9 L6) fun N0=>Ac (wrap .u8 N0) fun F0=>Bj (decide (y1*1<=y5.length)&&true&&decide ((y1+1)*1<=1099511627776)&&decide (y1+1<=1099511627776))<|Ac (y1+1) fun Kb=>Ac (List.take (y1*1) y5++[.sc (.int .u8 F0)]) fun Ni=>Ac (wrap .i64 (y4+1)) fun Lp=>C3 fu call a0 (nn) (y0) Kb x9 L6 Lp Ni) (Ac (wrap .i64 (y4+1)) fun K0=>C3 fu call a0 (nn) (y0) (y1) x9 F6 K0 (y5)))) (Bj (decide (0+y1*1<=y5.length))<|Ai (call 13 [.lst false 1 y1 (List.take (y1*1) (List.drop 0 y5))]) fun N3 Nz=>Ad Nz<|Aa N3 fun N8 Oc=>A0 N8 fun P8=>Ad Oc<|Bh (!Array.toList (ByteArray.data P8)==Array.toList (ByteArray.data y0)) (some (Ay.mk [.own 1 0 [],.sc (.int .i64 2)] [])) (Bj (decide (y1*1<=y5.length))<|some (Ay.mk [.own 1 y1 (List.take (y1*1) y5),.sc (.int .i64 0)] [])))):=by kernel_rfl
theorem Lf {p:Option (List PV->Option Ay)} (fu d:Nat)(a0:ByteArray):Ae (CP p) prog fu (d+1) Gu [.sc (.string a0)]=(fun (call:Ax)=>C3 fu call a0 (fu) (a0) 0 0 0 0 ([])) (Ae (CP p) prog fu d):=by kernel_rfl
abbrev Mu:FuncId:=20
theorem Mm {p:Option (List PV->Option Ay)} (fu d:Nat)(B3:Int)(Ny:Nat)(Bv:List PV)(Sj:ByteArray)(AO:Bool)(N7:ByteArray)(Arq:Int)(Agl:Nat)(Al7:List PV)(Arh:ByteArray)(Ara:Bool)(Aoh:ByteArray):Ae (CP p) prog fu (d+1) Mu [.agg [.sc (.int .i64 B3),.lst false 1 Ny Bv,.sc (.string Sj),.sc (.bool AO),.sc (.string N7)],.agg [.sc (.int .i64 Arq),.lst false 1 Agl Al7,.sc (.string Arh),.sc (.bool Ara),.sc (.string Aoh)]]=(fun (call:Ax)=>Bh (B3==Arq) (Bj (decide (Bv.length=Ny))<|Dh (Gr Bv) fun x1=>Bj (decide (Al7.length=Agl))<|Dh (Gr Al7) fun x2=>Bh (Array.toList (ByteArray.data (ByteArray.mk (List.toArray x1)))==Array.toList (ByteArray.data (ByteArray.mk (List.toArray x2)))) (Bh (Array.toList (ByteArray.data Sj)==Array.toList (ByteArray.data Arh)) (Bh (AO==Ara) (some (Ay.mk [.sc (.bool (Array.toList (ByteArray.data N7)==Array.toList (ByteArray.data Aoh)))] [])) (some (Ay.mk [.sc (.bool false)] []))) (some (Ay.mk [.sc (.bool false)] []))) (some (Ay.mk [.sc (.bool false)] []))) (some (Ay.mk [.sc (.bool false)] []))) (Ae (CP p) prog fu d):=by kernel_rfl
abbrev H1:FuncId:=14
theorem Nd {p:Option (List PV->Option Ay)} (fu d:Nat)(a0:ByteArray):Ae (CP p) prog fu (d+1) H1 [.sc (.string a0)]=(fun (call:Ax)=>Ai (call 15 [.sc (.string a0)]) fun x1 x2=>Ad x2<|Aa x1 fun x3 x4=>HR 1 x3 fun x5 x6=>Aa x4 fun x7 x8=>Aw .i64 x7 fun x9=>Ad x8<|Ai (call 26 [.sc (.string a0)]) fun F6 L6=>Ad L6<|Aa F6 fun N0 F0=>HR 1 N0 fun Kb Ni=>Aa F0 fun Lp K0=>Aw .i64 Lp fun N3=>Ad K0<|Bj (decide (0+x5*1<=x6.length))<|Bj (decide (List.length (List.take (x5*1) (List.drop 0 x6))=x5))<|Dh (Gr (List.take (x5*1) (List.drop 0 x6))) fun Nz=>Bj (decide (0+Kb*1<=Ni.length))<|Bj (decide (List.length (List.take (Kb*1) (List.drop 0 Ni))=Kb))<|Dh (Gr (List.take (Kb*1) (List.drop 0 Ni))) fun N8=>Bh (Array.toList (ByteArray.data (ByteArray.mk (List.toArray Nz)))==Array.toList (ByteArray.data (ByteArray.mk (List.toArray N8)))) (some (Ay.mk [.sc (.bool (x9==N3))] [])) (some (Ay.mk [.sc (.bool false)] []))) (Ae (CP p) prog fu d):=by kernel_rfl
abbrev Qj:FuncId:=18
theorem Qq {p:Option (List PV->Option Ay)} (fu d:Nat)(B3:Int)(Ny:Nat)(Bv:List PV)(Sj:ByteArray)(AO:Bool)(N7:ByteArray):Ae (CP p) prog fu (d+1) Qj [.agg [.sc (.int .i64 B3),.lst false 1 Ny Bv,.sc (.string Sj),.sc (.bool AO),.sc (.string N7)]]=(fun (call:Ax)=>Bh (B3==1) (Bh (decide ((↑Ny:Int)<1)) (some (Ay.mk [.sc (.string (ByteArray.mk #[])),.sc (.int .i64 9)] [])) (Bh (decide ((↑Ny:Int)>64)) (some (Ay.mk [.sc (.string (ByteArray.mk #[])),.sc (.int .i64 9)] [])) (Ai (call 32 [.sc (.string Sj)]) fun x1 x2=>Ad x2<|Aa x1 fun x3 x4=>G7 x3 fun x5=>Aa x5 fun x6 x7=>Am x6 fun x8=>Aa x7 fun x9 F6=>A0 x9 fun L6=>Aa F6 fun N0 F0=>Aw .i64 N0 fun Kb=>Ad F0<|Aa x4 fun Ni Lp=>Aw .i64 Ni fun K0=>Ad Lp<|Bh (K0 != 0) (some (Ay.mk [.sc (.string (ByteArray.mk #[])),.sc (.int .i64 K0)] [])) (Bh (!Array.toList (ByteArray.data N7)==Array.toList (ByteArray.data (ByteArray.mk #[]))) (Bh (!AO) (some (Ay.mk [.sc (.string (ByteArray.mk #[])),.sc (.int .i64 4)] [])) (Ai (call 12 [.lst false 1 Ny Bv]) fun N3 Nz=>Ad Nz<|Aa N3 fun N8 Oc=>A0 N8 fun P8=>Ad Oc<|Bj (decide (38+ByteArray.size P8<=9223372036854775807))<|Ac (ByteArray.mk #[123,34,116,121,112,101,34,58,34]++ByteArray.mk #[112,97,115,115,107,101,121,46,99,114,101,97,116,101]++ByteArray.mk #[34,44,34,99,104,97,108,108,101,110,103,101,34,58,34]++P8) fun M4=>Bj (decide (ByteArray.size M4+12<=9223372036854775807))<|Ac (M4++ByteArray.mk #[34,44,34,111,114,105,103,105,110,34,58,34]) fun Qi=>Bj (decide (ByteArray.size Qi+ByteArray.size Sj<=9223372036854775807))<|Ac (Qi++Sj) fun M3=>Bh (!AO) (Bj (decide (ByteArray.size M3+22<=9223372036854775807))<|Ac (M3++ByteArray.mk #[34,44,34,99,114,111,115,115,79,114,105,103,105,110,34,58,102,97,108,115,101,125]) fun M8=>some (Ay.mk [.sc (.string M8),.sc (.int .i64 0)] [])) (Ai (call 32 [.sc (.string N7)]) fun Qe Rm=>Ad Rm<|Aa Qe fun Ov Q4=>G7 Ov fun R1=>Aa R1 fun Tc Ul=>Am Tc fun Uc=>Aa Ul fun Us V1=>A0 Us fun Wy=>Aa V1 fun Y7 Rt=>Aw .i64 Y7 fun CU=>Ad Rt<|Aa Q4 fun DA Rn=>Aw .i64 DA fun O3=>Ad Rn<|Bh (O3 != 0) (some (Ay.mk [.sc (.string (ByteArray.mk #[])),.sc (.int .i64 O3)] [])) (Bj (decide (ByteArray.size M3+34<=9223372036854775807))<|Ac (M3++ByteArray.mk #[34,44,34,99,114,111,115,115,79,114,105,103,105,110,34,58,116,114,117,101,44,34,116,111,112,79,114,105,103,105,110,34,58,34]) fun AM=>Bj (decide (ByteArray.size AM+ByteArray.size N7<=9223372036854775807))<|Ac (AM++N7) fun AB=>Bj (decide (ByteArray.size AB+2<=9223372036854775807))<|Ac (AB++ByteArray.mk #[34,125]) fun FT=>some (Ay.mk [.sc (.string FT),.sc (.int .i64 0)] []))))) (Ai (call 12 [.lst false 1 Ny Bv]) fun DJ HQ=>Ad HQ<|Aa DJ fun AV AD=>A0 AV fun DR=>Ad AD<|Bj (decide (38+ByteArray.size DR<=9223372036854775807))<|Ac (ByteArray.mk #[123,34,116,121,112,101,34,58,34]++ByteArray.mk #[112,97,115,115,107,101,121,46,99,114,101,97,116,101]++ByteArray.mk #[34,44,34,99,104,97,108,108,101,110,103,101,34,58,34]++DR) fun DB=>Bj (decide (ByteArray.size DB+12<=9223372036854775807))<|Ac (DB++ByteArray.mk #[34,44,34,111,114,105,103,105,110,34,58,34]) fun EW=>Bj (decide (ByteArray.size EW+ByteArray.size Sj<=9223372036854775807))<|Ac (EW++Sj) fun Xh=>Bh (!AO) (Bj (decide (ByteArray.size Xh+22<=9223372036854775807))<|Ac (Xh++ByteArray.mk #[34,44,34,99,114,111,115,115,79,114,105,103,105,110,34,58,102,97,108,115,101,125]) fun HY=>some (Ay.mk [.sc (.string HY),.sc (.int .i64 0)] [])) (Ai (call 32 [.sc (.string N7)]) fun KF HW=>Ad HW<|Aa KF fun HM LI=>G7 HM fun KK=>Aa KK fun JS QI=>Am JS fun WP=>Aa QI fun TH RL=>A0 TH fun UO=>Aa RL fun QL US=>Aw .i64 QL fun WQ=>Ad US<|Aa LI fun RR RW=>Aw .i64 RR fun PN=>Ad RW<|Bh (PN != 0) (some (Ay.mk [.sc (.string (ByteArray.mk #[])),.sc (.int .i64 PN)] [])) (Bj (decide (ByteArray.size Xh+34<=9223372036854775807))<|Ac (Xh++ByteArray.mk #[34,44,34,99,114,111,115,115,79,114,105,103,105,110,34,58,116,114,117,101,44,34,116,111,112,79,114,105,103,105,110,34,58,34]) fun QV=>Bj (decide (ByteArray.size QV+ByteArray.size N7<=9223372036854775807))<|Ac (QV++N7) fun QG=>Bj (decide (ByteArray.size QG+2<=9223372036854775807))<|Ac (QG++ByteArray.mk #[34,125]) fun UY=>some (Ay.mk [.sc (.string UY),.sc (.int .i64 0)] [])))))))) (Bh (B3==2) (Bh (decide ((↑Ny:Int)<1)) (some (Ay.mk [.sc (.string (ByteArray.mk #[])),.sc (.int .i64 9)] [])) (Bh (decide ((↑Ny:Int)>64)) (some (Ay.mk [.sc (.string (ByteArray.mk #[])),.sc (.int .i64 9)] [])) (Ai (call 32 [.sc (.string Sj)]) fun ZX x77=>Ad x77<|Aa ZX fun WX ZV=>G7 WX fun WU=>Aa WU fun WW ZF=>Am WW fun YB=>Aa ZF fun WS XO=>A0 WS fun x86=>Aa XO fun x87 XC=>Aw .i64 x87 fun x89=>Ad XC<|Aa ZV fun ZJ XH=>Aw .i64 ZJ fun WR=>Ad XH<|Bh (WR != 0) (some (Ay.mk [.sc (.string (ByteArray.mk #[])),.sc (.int .i64 WR)] [])) (Bh (!Array.toList (ByteArray.data N7)==Array.toList (ByteArray.data (ByteArray.mk #[]))) (Bh (!AO) (some (Ay.mk [.sc (.string (ByteArray.mk #[])),.sc (.int .i64 4)] [])) (Ai (call 12 [.lst false 1 Ny Bv]) fun YK XF=>Ad XF<|Aa YK fun ZZ x96=>A0 ZZ fun TI=>Ad x96<|Bj (decide (35+ByteArray.size TI<=9223372036854775807))<|Ac (ByteArray.mk #[123,34,116,121,112,101,34,58,34]++ByteArray.mk #[112,97,115,115,107,101,121,46,103,101,116]++ByteArray.mk #[34,44,34,99,104,97,108,108,101,110,103,101,34,58,34]++TI) fun XJ=>Bj (decide (ByteArray.size XJ+12<=9223372036854775807))<|Ac (XJ++ByteArray.mk #[34,44,34,111,114,105,103,105,110,34,58,34]) fun x99=>Bj (decide (ByteArray.size x99+ByteArray.size Sj<=9223372036854775807))<|Ac (x99++Sj) fun Sa=>Bh (!AO) (Bj (decide (ByteArray.size Sa+22<=9223372036854775807))<|Ac (Sa++ByteArray.mk #[34,44,34,99,114,111,115,115,79,114,105,103,105,110,34,58,102,97,108,115,101,125]) fun Y9=>some (Ay.mk [.sc (.string Y9),.sc (.int .i64 0)] [])) (Ai (call 32 [.sc (.string N7)]) fun Wq Y5=>Ad Y5<|Aa Wq fun Xs X5=>G7 Xs fun Wo=>Aa Wo fun V9 FN=>Am V9 fun EZ=>Aa FN fun AR GJ=>A0 AR fun LG=>Aa GJ fun HF FY=>Aw .i64 HF fun II=>Ad FY<|Aa X5 fun GF GZ=>Aw .i64 GF fun BE=>Ad GZ<|Bh (BE != 0) (some (Ay.mk [.sc (.string (ByteArray.mk #[])),.sc (.int .i64 BE)] [])) (Bj (decide (ByteArray.size Sa+34<=9223372036854775807))<|Ac (Sa++ByteArray.mk #[34,44,34,99,114,111,115,115,79,114,105,103,105,110,34,58,116,114,117,101,44,34,116,111,112,79,114,105,103,105,110,34,58,34]) fun BF=>Bj (decide (ByteArray.size BF+ByteArray.size N7<=9223372036854775807))<|Ac (BF++N7) fun AQ=>Bj (decide (ByteArray.size AQ+2<=9223372036854775807))<|Ac (AQ++ByteArray.mk #[34,125]) fun FX=>some (Ay.mk [.sc (.string FX),.sc (.int .i64 0)] []))))) (Ai (call 12 [.lst false 1 Ny Bv]) fun FG GK=>Ad GK<|Aa FG fun HI EM=>A0 HI fun BD=>Ad EM<|Bj (decide (35+ByteArray.size BD<=9223372036854775807))<|Ac (ByteArray.mk #[123,34,116,121,112,101,34,58,34]++ByteArray.mk #[112,97,115,115,107,101,121,46,103,101,116]++ByteArray.mk #[34,44,34,99,104,97,108,108,101,110,103,101,34,58,34]++BD) fun AK=>Bj (decide (ByteArray.size AK+12<=9223372036854775807))<|Ac (AK++ByteArray.mk #[34,44,34,111,114,105,103,105,110,34,58,34]) fun JG=>Bj (decide (ByteArray.size JG+ByteArray.size Sj<=9223372036854775807))<|Ac (JG++Sj) fun BH=>Bh (!AO) (Bj (decide (ByteArray.size BH+22<=9223372036854775807))<|Ac (BH++ByteArray.mk #[34,44,34,99,114,111,115,115,79,114,105,103,105,110,34,58,102,97,108,115,101,125]) fun KU=>some (Ay.mk [.sc (.string KU),.sc (.int .i64 0)] [])) (Ai (call 32 [.sc (.string N7)]) fun PF PL=>Ad PL<|Aa PF fun IR OJ=>G7 IR fun NE=>Aa NE fun PY OI=>Am PY fun UL=>Aa OI fun OW IM=>A0 OW fun TV=>Aa IM fun PW GL=>Aw .i64 PW fun TN=>Ad GL<|Aa OJ fun OR JP=>Aw .i64 OR fun JL=>Ad JP<|Bh (JL != 0) (some (Ay.mk [.sc (.string (ByteArray.mk #[])),.sc (.int .i64 JL)] [])) (Bj (decide (ByteArray.size BH+34<=9223372036854775807))<|Ac (BH++ByteArray.mk #[34,44,34,99,114,111,115,115,79,114,105,103,105,110,34,58,116,114,117,101,44,34,116,111,112,79,114,105,103,105,110,34,58,34]) fun JO=>Bj (decide (ByteArray.size JO+ByteArray.size N7<=9223372036854775807))<|Ac (JO++N7) fun MG=>Bj (decide (ByteArray.size MG+2<=9223372036854775807))<|Ac (MG++ByteArray.mk #[34,125]) fun KC=>some (Ay.mk [.sc (.string KC),.sc (.int .i64 0)] [])))))))) (some (Ay.mk [.sc (.string (ByteArray.mk #[])),.sc (.int .i64 3)] [])))) (Ae (CP p) prog fu d):=by kernel_rfl
abbrev Jb:FuncId:=8
theorem Ok {p:Option (List PV->Option Ay)} (fu d:Nat):Ae (CP p) prog fu (d+1) Jb []=(fun (call:Ax)=>Ai (call 18 [.agg [.sc (.int .i64 2),.lst false 1 2 [.sc (.int .u8 251),.sc (.int .u8 255)],.sc (.string (ByteArray.mk #[104,116,116,112,115,58,47,47,97,46,98])),.sc (.bool false),.sc (.string (ByteArray.mk #[]))]]) fun x1 x2=>Ad x2<|Aa x1 fun x3 x4=>A0 x3 fun x5=>Aa x4 fun x6 x7=>Aw .i64 x6 fun x8=>Ad x7<|Ai (call 19 [.sc (.string x5)]) fun x9 F6=>Ad F6<|Aa x9 fun L6 N0=>G7 L6 fun F0=>Aa F0 fun Kb Ni=>Aw .i64 Kb fun Lp=>Aa Ni fun K0 N3=>Po 1 K0 fun Nz N8 Oc=>Aa N3 fun P8 M4=>A0 P8 fun Qi=>Aa M4 fun M3 M8=>Am M3 fun Qe=>Aa M8 fun Rm Ov=>A0 Rm fun Q4=>Ad Ov<|Aa N0 fun R1 Tc=>Aw .i64 R1 fun Ul=>Ad Tc<|Bh (x8==0) (Bh (Ul==0) (Bh (Array.toList (ByteArray.data x5)==Array.toList (ByteArray.data (ByteArray.mk (List.toArray (List.append [123,34,116,121,112,101,34,58,34,112,97,115,115,107,101,121,46,103,101,116,34,44,34,99,104,97,108,108,101,110,103,101,34,58,34,45,95,56,34,44,34] [111,114,105,103,105,110,34,58,34,104,116,116,112,115,58,47,47,97,46,98,34,44,34,99,114,111,115,115,79,114,105,103,105,110,34,58,102,97,108,115,101,125]))))) (Ai (call 20 [.agg [.sc (.int .i64 2),.lst false 1 2 [.sc (.int .u8 251),.sc (.int .u8 255)],.sc (.string (ByteArray.mk #[104,116,116,112,115,58,47,47,97,46,98])),.sc (.bool false),.sc (.string (ByteArray.mk #[]))],.agg [.sc (.int .i64 Lp),.lst false 1 N8 Oc,.sc (.string Qi),.sc (.bool Qe),.sc (.string Q4)]]) fun Uc Us=>Ad Us<|Aa Uc fun V1 Wy=>Am V1 fun Y7=>Ad Wy<|some (Ay.mk [.sc (.bool Y7)] [])) (some (Ay.mk [.sc (.bool false)] []))) (some (Ay.mk [.sc (.bool false)] []))) (some (Ay.mk [.sc (.bool false)] []))) (Ae (CP p) prog fu d):=by kernel_rfl
abbrev Hm:FuncId:=3
noncomputable def Dy (fu:Nat)(call:Ax)(Ld:Nat)(a0:List PV)(a1:ByteArray)(a2n:Nat)(a2:List PV)(nn y0:Nat)(y1:List PV)(y2 y3:ByteArray)(y4:Int)(y5:Nat)(y6:List PV)(y7:Int):Option Ay:=I3 CB prog fu call 3 Tryd.f3 (Gb Tryd.f3) [.lst false 1 Ld a0,.sc (.string a1),.lst false 1 a2n a2] [.r,.r,.r,.r,.l,.r,.l] nn ⟨lk [(0,(.lst false 1 y0 y1)),(1,(.sc (.string y2))),(7,(.ptr 7 0)),(8,(.sc (.string y3))),(9,(.sc (.int .i64 y4)))],Jz [(7,(.st [(.lst false 1 y5 y6),(.sc (.int .i64 y7))]))]⟩
theorem Gg (fu:Nat)(call:Ax)(Ld:Nat)(a0:List PV)(a1:ByteArray)(a2n:Nat)(a2:List PV)(nn y0:Nat)(y1:List PV)(y2 y3:ByteArray)(y4:Int)(y5:Nat)(y6:List PV)(y7:Int):Dy fu call Ld a0 a1 a2n a2 (nn+1) y0 y1 y2 y3 y4 y5 y6 y7=(Bh (decide (y4<12)) (Ai (call 10 [.pbox [.lst false 1 y5 y6,.sc (.int .i64 y7)]]) fun Qi M3=>Aa Qi fun M8 Qe=>Am M8 fun Rm=>Ad Qe<|Aa M3 fun Ov Q4=>Aa Ov fun R1 Tc=>Po 1 R1 fun Ul Uc Us=>Aa Tc fun V1 Wy=>Aw .i64 V1 fun Y7=>Ad Wy<|Ad Q4<|Bh Rm (Ai (call 11 [.pbox [.lst false 1 Uc Us,.sc (.int .i64 Y7)],.sc (.int .i64 68)]) fun Rt CU=>Aa Rt fun DA Rn=>Aw .i64 DA fun O3=>Ad Rn<|Aa CU fun AM AB=>Aa AM fun FT DJ=>Po 1 FT fun HQ AV AD=>Aa DJ fun DR DB=>Aw .i64 DR fun EW=>Ad DB<|Ad AB<|Ac (wrap .i64 (O3+1)) fun Xh=>Bj (decide (0<=O3))<|Bj (decide (0<=Xh))<|Bj (decide (Int.toNat O3<=Int.toNat Xh)&&decide (Int.toNat Xh<=68))<|Ac (ByteArray.extract (ByteArray.mk (List.toArray (List.append [65,66,67,68,69,70,71,72,73,74,75,76,77,78,79,80,81,82,83,84,85,86,87,88,89,90,97,98,99,100,101,102,103,104] [105,106,107,108,109,110,111,112,113,114,115,116,117,118,119,120,121,122,48,49,50,51,52,53,54,55,56,57,45,95,61,43,47,10]))) O3.toNat Xh.toNat) fun HY=>Bj (decide (ByteArray.size y3+ByteArray.size HY<=9223372036854775807))<|Ac (y3++HY) fun KF=>Ac (wrap .i64 (y4+1)) fun HW=>Dy fu call Ld a0 a1 a2n a2 (nn) (y0) (y1) (y2) KF HW AV AD EW) (Ai (call 12 [.lst false 1 y0 y1]) fun HM LI=>Ad LI<|Aa HM fun KK JS=>A0 KK fun QI=>Ad JS<|Ai (call 13 [.lst false 1 y0 y1]) fun WP TH=>Ad TH<|Aa WP fun RL UO=>A0 RL fun QL=>Ad UO<|Bh (Array.toList (ByteArray.data QI)==Array.toList (ByteArray.data QL)) (Ai (call 14 [.sc (.string y2)]) fun US WQ=>Ad WQ<|Aa US fun RR RW=>Am RR fun PN=>Ad RW<|Bh PN (Ai (call 14 [.sc (.string y3)]) fun QV QG=>Ad QG<|Aa QV fun UY ZX=>Am UY fun x77=>Ad ZX<|Bh x77 (Ai (call 12 [.lst false 1 y0 y1]) fun WX ZV=>Ad ZV<|Aa WX fun WU WW=>A0 WU fun ZF=>Ad WW<|Ai (call 14 [.sc (.string ZF)]) fun YB WS=>Ad WS<|Aa YB fun XO x86=>Am XO fun x87=>Ad x86<|Bh x87 (Ai (call 8 []) fun XC x89=>Ad x89<|Aa XC fun ZJ XH=>Am ZJ fun WR=>Ad XH<|some (Ay.mk [.sc (.bool WR)] [])) (some (Ay.mk [.sc (.bool false)] []))) (some (Ay.mk [.sc (.bool false)] []))) (some (Ay.mk [.sc (.bool false)] []))) (some (Ay.mk [.sc (.bool false)] [])))) (Ai (call 12 [.lst false 1 y0 y1]) fun YK XF=>Ad XF<|Aa YK fun ZZ x96=>A0 ZZ fun TI=>Ad x96<|Ai (call 13 [.lst false 1 y0 y1]) fun XJ x99=>Ad x99<|Aa XJ fun Sa Y9=>A0 Sa fun Wq=>Ad Y9<|Bh (Array.toList (ByteArray.data TI)==Array.toList (ByteArray.data Wq)) (Ai (call 14 [.sc (.string y2)]) fun Y5 Xs=>Ad Xs<|Aa Y5 fun X5 Wo=>Am X5 fun V9=>Ad Wo<|Bh V9 (Ai (call 14 [.sc (.string y3)]) fun FN EZ=>Ad EZ<|Aa FN fun AR GJ=>Am AR fun LG=>Ad GJ<|Bh LG (Ai (call 12 [.lst false 1 y0 y1]) fun HF FY=>Ad FY<|Aa HF fun II GF=>A0 II fun GZ=>Ad GF<|Ai (call 14 [.sc (.string GZ)]) fun BE BF=>Ad BF<|Aa BE fun AQ FX=>Am AQ fun FG=>Ad FX<|Bh FG (Ai (call 8 []) fun GK HI=>Ad HI<|Aa GK fun EM BD=>Am EM fun AK=>Ad BD<|some (Ay.mk [.sc (.bool AK)] [])) (some (Ay.mk [.sc (.bool false)] []))) (some (Ay.mk [.sc (.bool false)] []))) (some (Ay.mk [.sc (.bool false)] []))) (some (Ay.mk [.sc (.bool false)] [])))):=by kernel_rfl
theorem Mw {p:Option (List PV->Option Ay)} (fu d Ld:Nat)(a0:List PV)(a1:ByteArray)(a2n:Nat)(a2:List PV):Ae (CP p) prog fu (d+1) Hm [.lst false 1 Ld a0,.sc (.string a1),.lst false 1 a2n a2]=(fun (call:Ax)=>Bh (decide ((↑Ld:Int)>300)) (Ai (call 8 []) fun x1 x2=>Ad x2<|Aa x1 fun x3 x4=>Am x3 fun x5=>Ad x4<|some (Ay.mk [.sc (.bool x5)] [])) (Bh (decide ((↑(ByteArray.size a1):Int)>300)) (Ai (call 8 []) fun x6 x7=>Ad x7<|Aa x6 fun x8 x9=>Am x8 fun F6=>Ad x9<|some (Ay.mk [.sc (.bool F6)] [])) (Ai (call 9 [.lst false 1 a2n a2]) fun L6 N0=>Ad N0<|Aa L6 fun F0 Kb=>Qx F0 fun Ni=>Aa Ni fun Lp K0=>Po 1 Lp fun N3 Nz N8=>Aa K0 fun Oc P8=>Aw .i64 Oc fun M4=>Ad P8<|Ad Kb<|Dy fu call Ld a0 a1 a2n a2 (fu) (Ld) (a0) (a1) (ByteArray.mk #[]) 0 Nz N8 M4))) (Ae (CP p) prog fu d):=by kernel_rfl
end
section
open Go.Proofs.Tryd (prog)
open Go.IntKind (wrap)
set_option maxRecDepth 100000
theorem Abj (a b:Nat)(ha:a<18446744073709551616)(hb:b<18446744073709551616):WA .u64 ((a:Nat):Int) ((b:Nat):Int)=((a &&& b:Nat):Int):=by
 have hx:a &&& b<2 ^ 64:=Nat.and_lt_two_pow _ (by omega)
 have h1:(BitVec.ofInt 64 (a:Int)).toNat=a:=by
  rw[BitVec.ofInt_natCast,BitVec.toNat_ofNat];exact Nat.mod_eq_of_lt (by omega)
 have h2:(BitVec.ofInt 64 (b:Int)).toNat=b:=by
  rw[BitVec.ofInt_natCast,BitVec.toNat_ofNat];exact Nat.mod_eq_of_lt (by omega)
 show IntKind.u64.wrap ((BitVec.ofInt 64 (a:Int) &&& BitVec.ofInt 64 (b:Int)).toNat:Int)=_;rw[BitVec.toNat_and,h1,h2];simp only[wrap,IntKind.bits,IntKind.signed,WO,Bool.false_eq_true,if_false];omega
theorem Ako {x:Int}(h0:0<=x)(h1:x<16777216):WA .u64 x 63=x % 64:=by
 obtain⟨n,rfl⟩:=Int.eq_ofNat_of_zero_le h0;have:=Abj n 63 (by omega) (by omega)
 refine this.trans ?_;rw[show (63:Nat)=2 ^ 6-1 by decide,Nat.and_two_pow_sub_one_eq_mod n 6]
 omega
theorem VX {x:Int}(h0:0<=x)(h1:x<16777216):WA .u64 x 65535=x % 65536:=by
 obtain⟨n,rfl⟩:=Int.eq_ofNat_of_zero_le h0;have:=Abj n 65535 (by omega) (by omega)
 refine this.trans ?_;rw[show (65535:Nat)=2 ^ 16-1 by decide,Nat.and_two_pow_sub_one_eq_mod n 16]
 omega
theorem Ahj {x:Int}{k:Nat}(hk:k<=64):GP .u64 x (k:Int)=x / ((2 ^ k:Nat):Int):=by
 show x.fdiv (2 ^ (min (k:Int).toNat IntKind.u64.bits))=_
 have:min (k:Int).toNat IntKind.u64.bits=k:=by
  rw[N4];exact Nat.min_eq_left (by show k<=64;omega)
 rw[this];have e:(2:Int) ^ k=((2 ^ k:Nat):Int):=by simp
 rw[e,Int.fdiv_eq_ediv_of_nonneg _ (Int.natCast_nonneg _)]
theorem Aa3:∀n:Fin 64,Kw.extract n.val (n.val+1)=Ab [E0 (n.val:Int)]:=by decide +kernel
theorem JD (a b:List Int):Ab a++Ab b=Ab (a++b):=by
 apply ByteArray.ext;rw[ByteArray.data_append];unfold Ab;simp
def HL (x:Int)(k:Nat):Int:=E0 (x / ((2 ^ (18-6*k):Nat):Int) % 64)
section
variable {fu d:Nat} {p:Option (List PV->Option Ay)}
theorem SJ {Ld:Nat}{a0:List PV}{m0:Nat}{y0:Nat}{y1:List PV}{i:Nat}{x:Int}(hx0:0<=x)(hx:x<16777216)(hi:i<y0)(hy:y0<=1000000)(m:Nat)(hm:m=min (y0-i) 3+1):∀(r k nn:Nat)(out:List Int),k+r=m->r+1<=nn->out.length+r<=10000000 ->
  Bz fu (Ae (CP p) prog fu d) Ld a0 m0 nn y0 y1 (Ab out) (i:Int) x (k:Int)=Cg fu (Ae (CP p) prog fu d) Ld a0 m0 y0 y1 (Ab (out++(List.range' k r).map (HL x))) ((i+3:Nat):Int)
 |0,k,nn,out,hkr,Lj,ho=>by
  obtain⟨q,rfl⟩:∃q,nn=q+1:=⟨nn-1,by omega⟩
  have a3:wrap .i64 ((i:Int)+3)=((i+3:Nat):Int):=by rw[Bc (by omega) (by omega)];omega
  have e:out++(List.range' k 0).map (HL x)=out:=by simp
  rw[e,Fp];by_cases h4:k<4
  ·have a1:=dT (q:=(k:Int)<4) (by omega)
   have a2:wrap .i64 ((y0:Int)-(i:Int))=(y0:Int)-(i:Int):=Bc (by omega) (by omega)
   have a4:=dF (q:=(k:Int)<=(y0:Int)-(i:Int)) (by omega)
   simp only[D4,a1,a2,a4,a3]
  ·have a1:=dF (q:=(k:Int)<4) (by omega)
   simp only[D4,a1,a3]
 |r+1,k,nn,out,hkr,Lj,ho=>by
  obtain⟨q,rfl⟩:∃q,nn=q+1:=⟨nn-1,by omega⟩
  have Qd:k<4:=by omega
  have a1:=dT (q:=(k:Int)<4) (by omega)
  have a2:wrap .i64 ((y0:Int)-(i:Int))=(y0:Int)-(i:Int):=Bc (by omega) (by omega)
  have a4:=dT (q:=(k:Int)<=(y0:Int)-(i:Int)) (by omega)
  have b1:wrap .u64 (k:Int)=(k:Int):=Ew (by omega) (by omega)
  have b2:wrap .u64 (6*(k:Int))=6*(k:Int):=Ew (by omega) (by omega)
  have b3:wrap .u64 (18-6*(k:Int))=((18-6*k:Nat):Int):=by rw[Ew (by omega) (by omega)];omega
  have b4:decide ((0:Int)<=((18-6*k:Nat):Int))=true:=by simp
  have b5:=Ahj (x:=x) (k:=18-6*k) (by omega)
  have hp:0<2 ^ (18-6*k):=Nat.pow_pos (by omega)
  have Gd:0<=x / ((2 ^ (18-6*k):Nat):Int):=Int.ediv_nonneg hx0 (Int.natCast_nonneg _)
  have HP:x / ((2 ^ (18-6*k):Nat):Int)<16777216:=by
   have:=Int.ediv_le_self ((2 ^ (18-6*k):Nat):Int) hx0;omega
  have b6:=Ako Gd HP;generalize hv:x / ((2 ^ (18-6*k):Nat):Int) % 64=v at b6;have hv0:0<=v:=by omega
  have hv1:v<64:=by omega
  have b7:wrap .u64 (v+1)=v+1:=Ew (by omega) (by omega)
  have b8:=dT (q:=(0:Int)<=v) hv0;have b9:=dT (q:=(0:Int)<=v+1) (by omega)
  have c1:decide (Int.toNat v<=Int.toNat (v+1))=true:=dT (by omega)
  have c2:decide (Int.toNat (v+1)<=64)=true:=dT (by omega)
  have c3:Kw.extract (Int.toNat v) (Int.toNat (v+1))=Ab [HL x k]:=by
   have:=Aa3 ⟨Int.toNat v,by omega⟩
   rw[show Int.toNat (v+1)=Int.toNat v+1 by omega]
   refine this.trans ?_;unfold HL;rw[hv]
   congr 3
   show ((Int.toNat v:Nat):Int)=v;omega
  have c4:decide ((Ab out).size+(Ab [HL x k]).size<=9223372036854775807)=true:=dT (by rw[An,An];simp;omega)
  have c5:wrap .i64 ((k:Int)+1)=((k+1:Nat):Int):=by rw[Bc (by omega) (by omega)];omega
  have ih:=SJ (Ld:=Ld) (a0:=a0) (m0:=m0) (y1:=y1) hx0 hx hi hy m hm r (k+1) q (out++[HL x k]) (by omega) (by omega) (by simp;omega)
  have e:out++(List.range' k (r+1)).map (HL x)=(out++[HL x k])++(List.range' (k+1) r).map (HL x):=by
   rw[List.range'_succ];simp
  have ea:(ByteArray.mk #[(65:UInt8),(66:UInt8),(67:UInt8),(68:UInt8),(69:UInt8),(70:UInt8),(71:UInt8),(72:UInt8),(73:UInt8),(74:UInt8),(75:UInt8),(76:UInt8),(77:UInt8),(78:UInt8),(79:UInt8),(80:UInt8),(81:UInt8),(82:UInt8),(83:UInt8),(84:UInt8),(85:UInt8),(86:UInt8),(87:UInt8),(88:UInt8),(89:UInt8),(90:UInt8),(97:UInt8),(98:UInt8),(99:UInt8),(100:UInt8),(101:UInt8),(102:UInt8),(103:UInt8),(104:UInt8),(105:UInt8),(106:UInt8),(107:UInt8),(108:UInt8),(109:UInt8),(110:UInt8),(111:UInt8),(112:UInt8),(113:UInt8),(114:UInt8),(115:UInt8),(116:UInt8),(117:UInt8),(118:UInt8),(119:UInt8),(120:UInt8),(121:UInt8),(122:UInt8),(48:UInt8),(49:UInt8),(50:UInt8),(51:UInt8),(52:UInt8),(53:UInt8),(54:UInt8),(55:UInt8),(56:UInt8),(57:UInt8),(45:UInt8),(95:UInt8)])=Kw:=rfl;rw[e,Fp,ea];simp only[D4,a1,a2,a4,b1,b2,b3,b4,b5,b6,b7,b8,b9,c1,c2,c3,c4,JD,c5];exact ih
theorem PO {a b c:Int}(h:Dp [a,b,c]) (m:Nat)(hm:m<=4):(List.range' 0 m).map (HL (a*65536+b*256+c))=(H4 a b c).take m:=by
 obtain⟨ha,h⟩:=Be h;obtain⟨hb,h⟩:=Be h;obtain⟨hc,h⟩:=Be h;have e0:HL (a*65536+b*256+c) 0=E0 (a / 4):=by unfold HL;congr 1;simp;omega
 have e1:HL (a*65536+b*256+c) 1=E0 (a % 4*16+b / 16):=by unfold HL;congr 1;simp;omega
 have e2:HL (a*65536+b*256+c) 2=E0 (b % 16*4+c / 64):=by unfold HL;congr 1;simp;omega
 have e3:HL (a*65536+b*256+c) 3=E0 (c % 64):=by unfold HL;congr 1;simp;omega
 match m,hm with
 |0,_=>rfl
 |1,_=>simp[List.range',H4,e0]
 |2,_=>simp[List.range',H4,e0,e1]
 |3,_=>simp[List.range',H4,e0,e1,e2]
 |4,_=>simp[List.range',H4,e0,e1,e2,e3]
theorem Aqt {a b:Int}(ha:0<=a∧a<=255)(hb:0<=b∧b<=255):WI .u64 (a*65536) (b*256)=a*65536+b*256:=by
 obtain⟨a,rfl⟩:=Int.eq_ofNat_of_zero_le ha.1;have:=(FM (a:=b*256) (c:=(a:Int)*65536) 16 a (by omega) (by simp;omega) (by simp) (by omega)).2
 rw[this];omega
theorem A1v {y c:Int}(hy:0<=y∧y<=65535)(hc:0<=c∧c<=255):WI .u64 (y*256) c=y*256+c:=by
 obtain⟨y,rfl⟩:=Int.eq_ofNat_of_zero_le hy.1;have:=(FM (a:=c) (c:=(y:Int)*256) 8 y (by omega) (by simp;omega) (by simp) (by omega)).2
 rw[this];omega
theorem Adp {Ld:Nat}{a0:List PV}{l:List Int}(hB:Dp l)(hl:l.length<=100000)(Fv:10<=fu):∀(q:Nat)(r:List Int)(i nn:Nat)(out:List Int),l.drop i=r->i<=l.length+3->r.length<=q->q+1<=nn->out.length+4*r.length<=1000000 ->
  Cg fu (Ae (CP p) prog fu d) Ld a0 nn l.length (Ck .u8 l) (Ab out) (i:Int)=some ⟨[.sc (.string (Ab (out++D8 r)))],[]⟩:=by
 intro q
 induction q with
 |zero=>
  intro r i nn out hd hi3 hq Lj ho;have hr:r=[]:=List.eq_nil_of_length_eq_zero (by omega)
  subst hr;obtain⟨k,rfl⟩:∃k,nn=k+1:=⟨nn-1,by omega⟩
  have hi:=Kt hd;have a1:=dF (q:=(i:Int)<(l.length:Int)) (by omega)
  rw[D7];simp only[D4,a1,D8,List.append_nil]
 |succ q ih=>
  intro r i nn out hd hi3 hq Lj ho;obtain⟨k,rfl⟩:∃k,nn=k+1:=⟨nn-1,by omega⟩
  cases r with
  |nil=>
   have hi:=Kt hd;have a1:=dF (q:=(i:Int)<(l.length:Int)) (by omega)
   rw[D7];simp only[D4,a1,D8,List.append_nil]
  |cons a r1=>
   obtain⟨hi,ha,HP⟩:=Hg hd;have haB:=hB a (List.mem_of_getElem? ha);have Db:=congrArg List.length hd;rw[List.length_drop] at Db;have a1:=dT (q:=(i:Int)<(l.length:Int)) (by omega)
   have a2:decide ((0:Int)<=(i:Int))=true:=by simp
   have a3:List.getD (Ck .u8 l) (Int.toNat (i:Int)*1) PV.top=.sc (.int .u8 a):=by rw[N4,Nat.mul_one];exact ati ha
   have a4:wrap .u64 a=a:=Ew (by omega) (by omega)
   have a5:Le .u64 a 16=a*65536:=by
    have:=FC (a:=a) (k:=16) haB.1 (by omega) (by omega) (by simp;omega)
    rw[this];simp
   have a6:wrap .i64 ((i:Int)+1)=((i+1:Nat):Int):=by rw[Bc (by omega) (by omega)];omega
   have a7:wrap .i64 ((i:Int)+2)=((i+2:Nat):Int):=by rw[Bc (by omega) (by omega)];omega
   have b2:decide ((0:Int)<=((i+1:Nat):Int))=true:=dT (by omega)
   have b3:decide ((0:Int)<=((i+2:Nat):Int))=true:=dT (by omega)
   rw[D7];cases r1 with
   |nil=>
    simp only[RS,List.length_nil] at Db;have b1:=dF (q:=((i+1:Nat):Int)<(l.length:Int)) (by omega)
    have c1:=dF (q:=((i+2:Nat):Int)<(l.length:Int)) (by omega)
    have Qw:=SJ (fu:=fu) (d:=d) (p:=p) (Ld:=Ld) (a0:=a0) (m0:=k) (y0:=l.length) (y1:=Ck .u8 l) (i:=i) (x:=a*65536) (by omega) (by omega) hi (by omega) 2 (by omega) 2 0 fu out rfl (by omega) (by simp at ho;omega)
    have Ia:=PO (a:=a) (b:=0) (c:=0) (fun x hx=>by simp at hx;rcases hx with rfl|rfl<;>omega) 2 (by omega)
    rw[show a*65536+0*256+0=a*65536 by omega] at Ia
    rw[Ia] at Qw;have hr:=ih [] (i+3) k (out++(H4 a 0 0).take 2) (List.drop_eq_nil_of_le (by omega)) (by omega) (by simp) (by omega) (by simp[H4] at ho ⊢;omega)
    simp only[D4,a1,a2,a3,a4,a5,a6,a7,b1,c1];refine Qw.trans (hr.trans ?_);simp[D8,H4]
   |cons b r2=>
    obtain⟨hi1,hb,K7⟩:=Hg HP;have hbB:=hB b (List.mem_of_getElem? hb);have b1:=dT (q:=((i+1:Nat):Int)<(l.length:Int)) (by omega)
    have b4:List.getD (Ck .u8 l) (Int.toNat ((i+1:Nat):Int)*1) PV.top=.sc (.int .u8 b):=by rw[N4,Nat.mul_one];exact ati hb
    have b5:wrap .u64 b=b:=Ew (by omega) (by omega)
    have b6:Le .u64 b 8=b*256:=by
     have:=FC (a:=b) (k:=8) hbB.1 (by omega) (by omega) (by simp;omega)
     rw[this];simp
    have b7:=Aqt haB hbB;cases r2 with
    |nil=>
     simp only[RS,List.length_nil] at Db;have c1:=dF (q:=((i+2:Nat):Int)<(l.length:Int)) (by omega)
     have Qw:=SJ (fu:=fu) (d:=d) (p:=p) (Ld:=Ld) (a0:=a0) (m0:=k) (y0:=l.length) (y1:=Ck .u8 l) (i:=i) (x:=a*65536+b*256) (by omega) (by omega) hi (by omega) 3 (by omega) 3 0 fu out rfl (by omega) (by simp at ho;omega)
     have Ia:=PO (a:=a) (b:=b) (c:=0) (fun x hx=>by simp at hx;rcases hx with rfl|rfl|rfl<;>omega) 3 (by omega)
     rw[show a*65536+b*256+0=a*65536+b*256 by omega] at Ia
     rw[Ia] at Qw;have hr:=ih [] (i+3) k (out++(H4 a b 0).take 3) (List.drop_eq_nil_of_le (by omega)) (by omega) (by simp) (by omega) (by simp[H4] at ho ⊢;omega)
     simp only[D4,a1,a2,a3,a4,a5,a6,a7,b1,b2,b4,b5,b6,b7,c1];refine Qw.trans (hr.trans ?_);simp[D8,H4]
    |cons c t=>
     obtain⟨hi2,hc,hd3⟩:=Hg K7;have UF:=hB c (List.mem_of_getElem? hc);simp only[RS] at Db;have c1:=dT (q:=((i+2:Nat):Int)<(l.length:Int)) (by omega)
     have c2:List.getD (Ck .u8 l) (Int.toNat ((i+2:Nat):Int)*1) PV.top=.sc (.int .u8 c):=by rw[N4,Nat.mul_one];exact ati hc
     have c3:wrap .u64 c=c:=Ew (by omega) (by omega)
     have c4:WI .u64 (a*65536+b*256) c=a*65536+b*256+c:=by
      have:=A1v (y:=a*256+b) (c:=c) (by omega) UF
      rw[show (a*256+b)*256=a*65536+b*256 by omega] at this
      exact this
     have Qw:=SJ (fu:=fu) (d:=d) (p:=p) (Ld:=Ld) (a0:=a0) (m0:=k) (y0:=l.length) (y1:=Ck .u8 l) (i:=i) (x:=a*65536+b*256+c) (by omega) (by omega) hi (by omega) 4 (by omega) 4 0 fu out rfl (by omega) (by simp at ho;omega)
     have Ia:=PO (a:=a) (b:=b) (c:=c) (fun x hx=>by simp at hx;rcases hx with rfl|rfl|rfl<;>omega) 4 (by omega)
     rw[Ia] at Qw;have hr:=ih t (i+3) k (out++(H4 a b c).take 4) hd3 (by omega) (by simp at hq;omega) (by omega) (by simp[H4] at ho ⊢;omega)
     simp only[D4,a1,a2,a3,a4,a5,a6,a7,b1,b2,b4,b5,b6,b7,b3,c1,c2,c3,c4];refine Qw.trans (hr.trans ?_);simp[D8,H4]
theorem RH {l:List Int}(hB:Dp l)(hl:l.length<=100000)(Fv:10<=fu)(S9:l.length+1<=fu):Ae (CP p) prog fu (d+1) Gt [.lst false 1 l.length (Ck .u8 l)]=some ⟨[.sc (.string (Ab (D8 l)))],[]⟩:=by
 rw[Lb];have:=Adp (fu:=fu) (d:=d) (p:=p) (Ld:=l.length) (a0:=Ck .u8 l) hB hl Fv l.length l 0 fu [] rfl (by omega) (Nat.le_refl _) S9 (by simp;omega)
 exact this
theorem Agp:∀{l:List Int},Dp l->Dp (D8 l)
 |[],_=>fun x hx=>nomatch hx
 |[a],h=>by
  obtain⟨ha,_⟩:=Be h;intro x hx;simp[D8] at hx;rcases hx with rfl|rfl<;>apply Zc<;>omega
 |[a,b],h=>by
  obtain⟨ha,h⟩:=Be h;obtain⟨hb,_⟩:=Be h;intro x hx;simp[D8] at hx;rcases hx with rfl|rfl|rfl<;>apply Zc<;>omega
 |a::b::c::r,h=>by
  obtain⟨ha,h⟩:=Be h;obtain⟨hb,h⟩:=Be h;obtain⟨hc,h⟩:=Be h;intro x hx;have e:D8 (a::b::c::r)=E0 (a / 4)::E0 (a % 4*16+b / 16)::E0 (b % 16*4+c / 64)::E0 (c % 64)::D8 r:=rfl;rw[e] at hx;rcases List.mem_cons.1 hx with rfl|hx
  ·apply Zc<;>omega
  rcases List.mem_cons.1 hx with rfl|hx
  ·apply Zc<;>omega
  rcases List.mem_cons.1 hx with rfl|hx
  ·apply Zc<;>omega
  rcases List.mem_cons.1 hx with rfl|hx
  ·apply Zc<;>omega
  exact Agp h x hx
def fI (c:Int):List Int->Int->Int
 |[],_=>64
 |x::r,i=>if x=c then i else fI c r (i+1)
theorem Ale:∀n:Fin 256,fI (n.val:Int) (Ea Kw) 0=Az (n.val:Int):=by decide +kernel
theorem QD {call:Ax}{a0 c:Int}:∀(r:List Int)(i nn:Nat),(Ea Kw).drop i=r->r.length+1<=nn->i<=64 ->
  Em fu call a0 nn c (i:Int)=some ⟨[.sc (.int .u64 (fI c r i))],[]⟩
 |[],i,nn,hd,Lj,hi=>by
  obtain⟨k,rfl⟩:∃k,nn=k+1:=⟨nn-1,by omega⟩
  have h:=Kt hd;have h64:(Ea Kw).length=64:=rfl;have a1:=dF (q:=(i:Int)<64) (by omega)
  rw[Hf];simp only[D4,a1];rfl
 |x::r,i,nn,hd,Lj,hi=>by
  obtain⟨k,rfl⟩:∃k,nn=k+1:=⟨nn-1,by omega⟩
  obtain⟨hi1,hx,HP⟩:=Hg hd;have h64:(Ea Kw).length=64:=rfl;have ih:=QD (call:=call) (a0:=a0) (c:=c) r (i+1) k HP (by simp at Lj;omega) (by omega)
  have a1:=dT (q:=(i:Int)<64) (by omega)
  have a2:decide ((0:Int)<=(i:Int))=true:=by simp
  obtain⟨b,hb,rfl⟩:∃b:UInt8,(Array.toList Kw.data)[i]?=some b∧(b.toNat:Int)=x:=by
   unfold Ea at hx;rw[List.getElem?_map] at hx;obtain⟨b,hb,h⟩:=Option.map_eq_some_iff.1 hx;exact⟨b,hb,h⟩
  have a3:(Array.toList Kw.data)[Int.toNat (i:Int)]?=some b:=by rw[N4];exact hb
  have a4:wrap .u64 (i:Int)=(i:Int):=Ew (by omega) (by omega)
  have a5:wrap .i64 ((i:Int)+1)=((i+1:Nat):Int):=by rw[Bc (by omega) (by omega)];omega
  have ea:(ByteArray.mk #[(65:UInt8),(66:UInt8),(67:UInt8),(68:UInt8),(69:UInt8),(70:UInt8),(71:UInt8),(72:UInt8),(73:UInt8),(74:UInt8),(75:UInt8),(76:UInt8),(77:UInt8),(78:UInt8),(79:UInt8),(80:UInt8),(81:UInt8),(82:UInt8),(83:UInt8),(84:UInt8),(85:UInt8),(86:UInt8),(87:UInt8),(88:UInt8),(89:UInt8),(90:UInt8),(97:UInt8),(98:UInt8),(99:UInt8),(100:UInt8),(101:UInt8),(102:UInt8),(103:UInt8),(104:UInt8),(105:UInt8),(106:UInt8),(107:UInt8),(108:UInt8),(109:UInt8),(110:UInt8),(111:UInt8),(112:UInt8),(113:UInt8),(114:UInt8),(115:UInt8),(116:UInt8),(117:UInt8),(118:UInt8),(119:UInt8),(120:UInt8),(121:UInt8),(122:UInt8),(48:UInt8),(49:UInt8),(50:UInt8),(51:UInt8),(52:UInt8),(53:UInt8),(54:UInt8),(55:UInt8),(56:UInt8),(57:UInt8),(45:UInt8),(95:UInt8)])=Kw:=rfl;rw[Hf,ea];by_cases hc:(b.toNat:Int)=c
  ·have q:((b.toNat:Int)==c)=true:=by simp[hc]
   have e:fI c ((b.toNat:Int)::r) i=i:=by
    show (if (b.toNat:Int)=c then (i:Int) else _)=_
    rw[Ev hc]
   rw[e];simp only[D4,a1,a2,a3,q,a4]
  ·have q:((b.toNat:Int)==c)=false:=by simp[hc]
   have e:fI c ((b.toNat:Int)::r) i=fI c r ((i+1:Nat):Int):=by
    show (if (b.toNat:Int)=c then (i:Int) else fI c r ((i:Int)+1))=_
    rw[Dr hc];rfl
   rw[e];simp only[D4,a1,a2,a3,q,a5];exact ih
theorem Aik {c:Int}(hc:0<=c∧c<=255)(Fv:100<=fu):Ae (CP p) prog fu (d+1) Jc [.sc (.int .u8 c)]=some ⟨[.sc (.int .u64 (Az c))],[]⟩:=by
 rw[Oo];have h:=QD (fu:=fu) (call:=Ae (CP p) prog fu d) (a0:=c) (c:=c) (Ea Kw) 0 fu rfl (by have:(Ea Kw).length=64:=rfl;omega) (by omega)
 refine h.trans ?_;obtain⟨n,rfl⟩:=Int.eq_ofNat_of_zero_le hc.1;have:=Ale ⟨n,by omega⟩
 have e:fI ((n:Nat):Int) (Ea Kw) ((0:Nat):Int)=Az ((n:Nat):Int):=this;rw[e]
theorem PT:∀{l:List Int}{n bits:Int}{b:List Int},Jd n bits l=some b->Dp b
 |[],_,_,_,h=>by cases h;exact fun x hx=>nomatch hx
 |c::r,n,bits,b,h=>by
  unfold Jd at h;split at h
  ·cases h
  split at h
  ·cases hq:Jd ((n*64+Az c) % 65536) (bits-2) r with
   |none=>rw[hq] at h;cases h
   |some b'=>
    rw[hq] at h;cases h;intro x hx;rcases List.mem_cons.1 hx with rfl|hx
    ·omega
    ·exact PT hq x hx
  ·exact PT h
theorem Adq (l:List Int):G3 l=match Jd 0 0 l with|none=>none|some b=>if D8 b=l then some b else none:=by
 cases hd:G3 l with
 |some b=>
  obtain⟨h1,h2⟩:=SL hd;have h3:=RF h2 0 (by omega)
  rw[h1] at h3;rw[h3];simp only[h1,if_true]
 |none=>
  cases ha:Jd 0 0 l with
  |none=>rfl
  |some b=>
   simp only;split
   ·rename_i h;have:=QS (PT ha);rw[h,hd] at this;cases this
   ·rfl
theorem A10 {n v:Int}(hn:0<=n∧n<65536)(hv:0<=v∧v<64):WI .u64 (Le .u64 n 6) v=n*64+v:=by
 have h:=FC (a:=n) (k:=6) hn.1 (by omega) (by omega) (by simp;omega)
 have h':Le .u64 n 6=n*64:=by rw[h];simp
 rw[h'];obtain⟨n,rfl⟩:=Int.eq_ofNat_of_zero_le hn.1;have:=(FM (a:=v) (c:=(n:Int)*64) 6 n (by omega) (by simp;omega) (by simp) (by omega)).2
 rw[this];omega
theorem HK {a0:ByteArray}{l:List Int}(hB:Dp l)(hl:l.length<=100000)(Fv:100<=fu)(S9:l.length+1<=fu):∀(r:List Int)(i nn:Nat)(n bits:Int)(acc:List Int),l.drop i=r->r.length+1<=nn->0<=n->n<65536->(bits=0∨bits=2∨bits=4∨bits=6)->acc.length+r.length<=l.length->Dp acc ->
  C3 fu (Ae (CP p) prog fu (d+1)) a0 nn (Ab l) acc.length n bits (i:Int) (Ck .u8 acc)=some (match Jd n bits r with|none=>⟨[.own 1 0 [],.sc (.int .i64 2)],[]⟩|some b=>if D8 (acc++b)=l then ⟨[.own 1 (acc++b).length (Ck .u8 (acc++b)),.sc (.int .i64 0)],[]⟩ else ⟨[.own 1 0 [],.sc (.int .i64 2)],[]⟩)
 |[],i,nn,n,bits,acc,hd,Lj,h0,h1,hb,ha,haB=>by
  obtain⟨k,rfl⟩:∃k,nn=k+1:=⟨nn-1,by omega⟩
  have hi:=Kt hd;have a1:=dF (q:=(i:Int)<(((Ab l).size:Nat):Int)) (by rw[An];omega)
  have a2:decide (0+acc.length*1<=List.length (Ck .u8 acc))=true:=by rw[Ex];simp
  have a2':decide (acc.length*1<=List.length (Ck .u8 acc))=true:=by rw[Ex];simp
  have a3:List.take (acc.length*1) (List.drop 0 (Ck .u8 acc))=Ck .u8 acc:=Zzf (by rw[List.drop_zero,Ex];omega)
  have a3':List.take (acc.length*1) (Ck .u8 acc)=Ck .u8 acc:=Zzf (by rw[Ex];omega)
  have e:Ae (CP p) prog fu (d+1) 13 [.lst false 1 acc.length (Ck .u8 acc)]=_:=RH (fu:=fu) (d:=d) (p:=p) haB (by simp at ha;omega) (by omega) (by simp at ha;omega)
  rw[Fo];have e0:Jd n bits []=some []:=rfl;rw[e0];simp only[List.append_nil];by_cases hc:D8 acc=l
  ·have q:(Array.toList (Ab (D8 acc)).data==Array.toList (Ab l).data)=true:=by rw[hc];simp
   rw[Ev hc];simp only[D4,a1,a2,a2',a3,a3',e,q,Dg]
  ·have q:(Array.toList (Ab (D8 acc)).data==Array.toList (Ab l).data)=false:=by
    rw[Bool.eq_false_iff,ne_eq,beq_iff_eq];intro h;apply hc
    have h2:Ab (D8 acc)=Ab l:=by
     cases hx:Ab (D8 acc);cases hy:Ab l;rw[hx,hy] at h;exact congrArg ByteArray.mk (Array.toList_inj.1 h)
    have h3:=congrArg Ea h2
    rwa [Cq hB,Cq (Agp haB)] at h3
   rw[Dr hc];simp only[D4,a1,a2,a2',a3,a3',e,q,D3]
 |c::r,i,nn,n,bits,acc,hd,Lj,h0,h1,hb,ha,haB=>by
  obtain⟨k,rfl⟩:∃k,nn=k+1:=⟨nn-1,by omega⟩
  obtain⟨hi,hc,HP⟩:=Hg hd;have UF:=hB c (List.mem_of_getElem? hc);have hv:=Fc c;have e:Ae (CP p) prog fu (d+1) 39 [.sc (.int .u8 c)]=_:=Aik (fu:=fu) (d:=d) (p:=p) UF Fv;have a1:=dT (q:=(i:Int)<(((Ab l).size:Nat):Int)) (by rw[An];omega)
  have a2:decide ((0:Int)<=(i:Int))=true:=by simp
  have a3:(Array.toList (Ab l).data)[Int.toNat (i:Int)]?=some c.toNat.toUInt8:=by
   rw[N4];show (l.map fun n=>n.toNat.toUInt8)[i]?=_
   rw[List.getElem?_map,hc];rfl
  have a4:=Ux UF;have a5:wrap .i64 ((i:Int)+1)=((i+1:Nat):Int):=by rw[Bc (by omega) (by omega)];omega
  have e0:Jd n bits (c::r)=if Az c>63 then none else if bits+6>=8 then (Jd ((n*64+Az c) % 65536) (bits-2) r).map (((n*64+Az c) % 65536 / 2 ^ (bits-2).toNat % 256) :: ·) else Jd ((n*64+Az c) % 65536) (bits+6) r:=rfl
  rw[Fo,e0];by_cases hv6:Az c>63
  ·have b1:=dT hv6;rw[Ev hv6];simp only[D4,a1,a2,a3,a4,e,b1]
  ·have b1:=dF hv6;have b2:=A10 (n:=n) (v:=Az c) ⟨h0,h1⟩ ⟨hv.1,by omega⟩
   have b3:=VX (x:=n*64+Az c) (by omega) (by omega)
   have b4:wrap .u64 (bits+6)=bits+6:=Ew (by omega) (by omega)
   rw[Dr hv6];by_cases h8:bits+6>=8
   ·have b5:=dT h8;have b6:wrap .u64 (bits+6-8)=bits-2:=by rw[Ew (by omega) (by omega)];omega
    have b7:=dT (q:=(0:Int)<=bits-2) (by omega)
    have b8:GP .u64 ((n*64+Az c) % 65536) (bits-2)=(n*64+Az c) % 65536 / 2 ^ (bits-2).toNat:=by
     have:=Ahj (x:=(n*64+Az c) % 65536) (k:=(bits-2).toNat) (by omega)
     rw[show (((bits-2).toNat:Nat):Int)=bits-2 by omega] at this
     rw[this];simp
    have b9:wrap .u8 ((n*64+Az c) % 65536 / 2 ^ (bits-2).toNat)=(n*64+Az c) % 65536 / 2 ^ (bits-2).toNat % 256:=by
     simp only[wrap,IntKind.bits,IntKind.signed,WO,Bool.false_eq_true,if_false];rfl
    generalize hy:(n*64+Az c) % 65536 / 2 ^ (bits-2).toNat % 256=y at b9;have hyB:0<=y∧y<=255:=by omega
    have c1:decide (acc.length*1<=List.length (Ck .u8 acc))=true:=by rw[Ex];simp
    have c2:=dT (q:=(acc.length+1)*1<=1099511627776) (by simp at ha;omega)
    have c3:=dT (q:=acc.length+1<=1099511627776) (by simp at ha;omega)
    have c4:List.take (acc.length*1) (Ck .u8 acc)++[PV.sc (.int .u8 y)]=Ck .u8 (acc++[y]):=by
     rw[Zzf (by rw[Ex];omega)]
     exact Abg .u8 acc y
    have ih:=HK (a0:=a0) hB hl Fv S9 r (i+1) k ((n*64+Az c) % 65536) (bits-2) (acc++[y]) HP (by simp at Lj;omega) (by omega) (by omega) (by omega) (by simp at ha ⊢;omega) (Iq haB (fun x hx=>by simp at hx;omega))
    rw[show (acc++[y]).length=acc.length+1 by simp] at ih
    rw[Ev h8];simp only[D4,a1,a2,a3,a4,e,b1,b2,b3,b4,b5,b6,b7,b8,b9,c1,c2,c3,c4,a5];refine ih.trans ?_;cases Jd ((n*64+Az c) % 65536) (bits-2) r with
    |none=>rfl
    |some b=>simp
   ·have b5:=dF h8;have ih:=HK (a0:=a0) hB hl Fv S9 r (i+1) k ((n*64+Az c) % 65536) (bits+6) acc HP (by simp at Lj;omega) (by omega) (by omega) (by omega) (by simp at ha ⊢;omega) haB
    rw[Dr h8];simp only[D4,a1,a2,a3,a4,e,b1,b2,b3,b4,b5,a5];exact ih
theorem Aed {l:List Int}(hB:Dp l)(hl:l.length<=100000)(Fv:100<=fu)(S9:l.length+1<=fu):Ae (CP p) prog fu (d+2) Gu [.sc (.string (Ab l))]=some (match G3 l with|none=>⟨[.own 1 0 [],.sc (.int .i64 2)],[]⟩|some b=>⟨[.own 1 b.length (Ck .u8 b),.sc (.int .i64 0)],[]⟩):=by
 rw[Lf];have h:=HK (fu:=fu) (d:=d) (p:=p) (a0:=Ab l) hB hl Fv S9 l 0 fu 0 0 [] rfl S9 (by omega) (by omega) (.inl rfl) (by simp) (fun x hx=>nomatch hx)
 refine h.trans ?_;rw[Adq];cases Jd 0 0 l with
 |none=>rfl
 |some b=>
  simp only[List.nil_append];split<;>rfl
end
end
section
open Go.Proofs.Tryd (prog)
open Go.IntKind (wrap)
set_option maxRecDepth 100000
def awT:List Int:=[123,34,116,121,112,101,34,58,34,112,97,115,115,107,101,121,46,103,101,116,34,44,34,99,104,97,108,108,101,110,103,101,34,58,34,45,95,56,34,44,34,111,114,105,103,105,110,34,58,34,104,116,116,112,115,58,47,47,97,46,98,34,44,34,99,114,111,115,115,79,114,105,103,105,110,34,58,102,97,108,115,101,125]
def awO:List Int:=[104,116,116,112,115,58,47,47,97,46,98]
theorem Aem:Ga awO=0:=by decide +kernel
theorem UA:L4 (Ab awT)=.ok (2,[251,255],awO,false,[]):=by kernel_rfl
section
variable {fu d:Nat}
theorem QZ (Fv:200<=fu):Ae C1 prog fu (d+9) Jb []=some ⟨[.sc (.bool true)],[]⟩:=by
 obtain⟨o1,o2,o3,ho⟩:=Ag2 (fu:=fu) (d:=d) (p:=some Fk) (l:=awO) (fun x hx=>by simp[awO] at hx;omega) (by decide) Fv
 rw[Aem] at ho;have h32:Ae C1 prog fu (d+7) 32 [.sc (.string (ByteArray.mk #[(104:UInt8),(116:UInt8),(116:UInt8),(112:UInt8),(115:UInt8),(58:UInt8),(47:UInt8),(47:UInt8),(97:UInt8),(46:UInt8),(98:UInt8)]))]=_:=ho;have h12:Ae C1 prog fu (d+7) 12 [.lst false 1 2 [.sc (.int .u8 251),.sc (.int .u8 255)]]=some ⟨[.sc (.string (Ab [45,95,56]))],[]⟩:=by kernel_rfl
 have h18:Ae C1 prog fu (d+8) 18 [.agg [.sc (.int .i64 2),.lst false 1 2 [.sc (.int .u8 251),.sc (.int .u8 255)],.sc (.string (ByteArray.mk #[(104:UInt8),(116:UInt8),(116:UInt8),(112:UInt8),(115:UInt8),(58:UInt8),(47:UInt8),(47:UInt8),(97:UInt8),(46:UInt8),(98:UInt8)])),.sc (.bool false),.sc (.string (ByteArray.mk #[]))]]=some ⟨[.sc (.string (Ab awT)),.sc (.int .i64 0)],[]⟩:=by
  refine (Qq (p:=some Fk) fu (d+7) _ _ _ _ _ _).trans ?_;have a1:((2:Int)==1)=false:=rfl;have a2:((2:Int)==2)=true:=rfl;have a3:decide (((2:Nat):Int)<1)=false:=rfl;have a4:decide (((2:Nat):Int)>64)=false:=rfl;have a5:((0:Int) != 0)=false:=rfl;have a6:(!Array.toList (ByteArray.mk #[]).data==Array.toList (ByteArray.mk #[]).data)=false:=rfl;simp only[D4,a1,a2,a3,a4,a5,a6,h32,h12,D3];show _=some (Ay.mk [.sc (.string (Ab awT)),.sc (.int .i64 0)] [])
  first|kernel_rfl|rfl
 have h19:Ae C1 prog fu (d+8) 19 [.sc (.string (Ab awT))]=some ⟨[.agg [.sc (.int .i64 2),.lst false 1 2 [.sc (.int .u8 251),.sc (.int .u8 255)],.sc (.string (Ab awO)),.sc (.bool false),.sc (.string (Ab []))],.sc (.int .i64 0)],[]⟩:=by
  have e:Ae C1 prog fu (d+8) 19 [.sc (.string (Ab awT))]=Fk [.sc (.string (Ab awT))]:=rfl;rw[e];unfold Fk;have hs:decide ((Ab awT).size<=9223372036854775807)=true:=rfl;simp only[hs,cond_true,UA];rfl
 have h20:Ae C1 prog fu (d+8) 20 [.agg [.sc (.int .i64 2),.lst false 1 2 [.sc (.int .u8 251),.sc (.int .u8 255)],.sc (.string (ByteArray.mk #[(104:UInt8),(116:UInt8),(116:UInt8),(112:UInt8),(115:UInt8),(58:UInt8),(47:UInt8),(47:UInt8),(97:UInt8),(46:UInt8),(98:UInt8)])),.sc (.bool false),.sc (.string (ByteArray.mk #[]))],.agg [.sc (.int .i64 2),.lst false 1 2 [.sc (.int .u8 251),.sc (.int .u8 255)],.sc (.string (Ab awO)),.sc (.bool false),.sc (.string (Ab []))]]=some ⟨[.sc (.bool true)],[]⟩:=
  (Mm (p:=some Fk) fu (d+7) _ _ _ _ _ _ _ _ _ _ _ _).trans (by kernel_rfl)
 refine (Ok (p:=some Fk) fu (d+8)).trans ?_;have b1:((0:Int)==0)=true:=rfl
 have b2:(Array.toList (Ab awT).data==Array.toList (ByteArray.mk (List.toArray (List.append [(123:UInt8),(34:UInt8),(116:UInt8),(121:UInt8),(112:UInt8),(101:UInt8),(34:UInt8),(58:UInt8),(34:UInt8),(112:UInt8),(97:UInt8),(115:UInt8),(115:UInt8),(107:UInt8),(101:UInt8),(121:UInt8),(46:UInt8),(103:UInt8),(101:UInt8),(116:UInt8),(34:UInt8),(44:UInt8),(34:UInt8),(99:UInt8),(104:UInt8),(97:UInt8),(108:UInt8),(108:UInt8),(101:UInt8),(110:UInt8),(103:UInt8),(101:UInt8),(34:UInt8),(58:UInt8),(34:UInt8),(45:UInt8),(95:UInt8),(56:UInt8),(34:UInt8),(44:UInt8),(34:UInt8)] [(111:UInt8),(114:UInt8),(105:UInt8),(103:UInt8),(105:UInt8),(110:UInt8),(34:UInt8),(58:UInt8),(34:UInt8),(104:UInt8),(116:UInt8),(116:UInt8),(112:UInt8),(115:UInt8),(58:UInt8),(47:UInt8),(47:UInt8),(97:UInt8),(46:UInt8),(98:UInt8),(34:UInt8),(44:UInt8),(34:UInt8),(99:UInt8),(114:UInt8),(111:UInt8),(115:UInt8),(115:UInt8),(79:UInt8),(114:UInt8),(105:UInt8),(103:UInt8),(105:UInt8),(110:UInt8),(34:UInt8),(58:UInt8),(102:UInt8),(97:UInt8),(108:UInt8),(115:UInt8),(101:UInt8),(125:UInt8)]))).data)=true:=by kernel_rfl
 have b3:decide (0+2*1<=List.length [PV.sc (.int .u8 251),PV.sc (.int .u8 255)])=true:=rfl;have b4:List.take (2*1) (List.drop 0 [PV.sc (.int .u8 251),PV.sc (.int .u8 255)])=[PV.sc (.int .u8 251),PV.sc (.int .u8 255)]:=rfl;simp only[D4,h18,h19,b1,b2,b3,b4,h20]
theorem CG:∀{l:List Int},Dp l->Zf (Ck .u8 l)=some l
 |[],_=>rfl
 |n::l,h=>by
  obtain⟨hn,hl⟩:=Be h;show (bif decide (0<=n)&&decide (n<=255) then (Zf (Ck .u8 l)).map (n :: ·) else none)=_
  rw[CG hl,dT hn.1,dT hn.2];rfl
theorem Ami {l:List Int}{p:Option (List PV->Option Ay)} {z:Bool}(hB:Dp l)(hl:l.length<=100000):Ae (CP p) prog fu (d+1) 12 [.lst z 1 l.length (Ck .u8 l)]=some ⟨[.sc (.string (Ab (D8 l)))],[]⟩:=by
 have e:Ae (CP p) prog fu (d+1) 12 [.lst z 1 l.length (Ck .u8 l)]=Aa8 [.lst z 1 l.length (Ck .u8 l)]:=rfl;rw[e];unfold Aa8
 have h1:(Nat.beq (Ck .u8 l).length l.length&&Nat.ble l.length 100000000)=true:=by
  rw[Ex,Nat.beq_refl,Nat.ble_eq_true_of_le (by omega)]
  rfl
 simp only[h1,cond_true,CG hB]
end
end
section
open Go.Proofs.Tryd (prog)
open Go.IntKind (wrap)
set_option maxRecDepth 100000
abbrev Lt:FuncId:=9
theorem R9 {p:Option (List PV->Option Ay)} (fu d Ld:Nat)(a0:List PV):Ae (CP p) prog fu (d+1) Lt [.lst false 1 Ld a0]=(fun (call:Ax)=>some (Ay.mk [.pbox [.lst false 1 Ld a0,.sc (.int .i64 0)]] [])) (Ae (CP p) prog fu d):=by kernel_rfl
abbrev Ln:FuncId:=23
theorem Sp {p:Option (List PV->Option Ay)} (fu d:Nat)(a0 a1:Int):Ae (CP p) prog fu (d+1) Ln [.sc (.int .i64 a0),.sc (.int .i64 a1)]=(fun (call:Ax)=>Ac (wrap .u64 a0) fun x1=>Ac (wrap .u64 a1) fun x2=>Bj (decide (x2≠0))<|Ac (Int.tmod x1 x2) fun x3=>Ac (wrap .i64 x3) fun x4=>some (Ay.mk [.sc (.int .i64 x4)] [])) (Ae (CP p) prog fu d):=by kernel_rfl
abbrev Hk:FuncId:=10
theorem Mq {p:Option (List PV->Option Ay)} (fu d Ti:Nat)(B3:List PV)(Bv:Int):Ae (CP p) prog fu (d+1) Hk [.pbox [.lst false 1 Ti B3,.sc (.int .i64 Bv)]]=(fun (call:Ax)=>some (Ay.mk [.sc (.bool (decide (Bv<(↑Ti:Int))))] [[.lst false 1 Ti B3,.sc (.int .i64 Bv)]])) (Ae (CP p) prog fu d):=by kernel_rfl
abbrev Hh:FuncId:=11
theorem Hj {p:Option (List PV->Option Ay)} (fu d Ti:Nat)(B3:List PV)(Bv a1:Int):Ae (CP p) prog fu (d+1) Hh [.pbox [.lst false 1 Ti B3,.sc (.int .i64 Bv)],.sc (.int .i64 a1)]=(fun (call:Ax)=>Bh (decide (Bv>=(↑Ti:Int))) (some (Ay.mk [.sc (.int .i64 0)] [[.lst false 1 Ti B3,.sc (.int .i64 Bv)]])) (Ac (wrap .i64 (Bv+1)) fun x1=>Ac (wrap .i64 (x1-1)) fun x2=>Bj (decide (0<=x2)&&decide (x2<(↑Ti:Int)))<|Aw .i64 (List.getD B3 (Int.toNat x2*1) .top) fun x3=>Ai (call 23 [.sc (.int .i64 x3),.sc (.int .i64 a1)]) fun x4 x5=>Ad x5<|Aa x4 fun x6 x7=>Aw .i64 x6 fun x8=>Ad x7<|some (Ay.mk [.sc (.int .i64 x8)] [[.lst false 1 Ti B3,.sc (.int .i64 x1)]]))) (Ae (CP p) prog fu d):=by kernel_rfl
end
section
open Go.Proofs.Tryd (prog)
open Go.IntKind (wrap)
abbrev dkc (l:List Int)(a:Nat):List PV:=[.lst false 1 l.length (Ck .i64 l),.sc (.int .i64 (a:Int))]
section
variable {fu d:Nat} {p:Option (List PV->Option Ay)}
theorem A3x {l:List Int}:Ae (CP p) prog fu (d+1) Lt [.lst false 1 l.length (Ck .i64 l)]=some ⟨[.pbox (dkc l 0)],[]⟩:=by
 rw[R9];rfl
theorem A27 (v n:Int)(hn:0<n)(hm:n<=9223372036854775807):∃r,0<=r∧r<n∧∀{fu d:Nat}{p:Option (List PV->Option Ay)},Ae (CP p) prog fu (d+1) Ln [.sc (.int .i64 v),.sc (.int .i64 n)]=some ⟨[.sc (.int .i64 r)],[]⟩:=by
 have h1:=Zm v;have h2:wrap .u64 n=n:=Ew (by omega) (by omega)
 have h3:0<=Int.tmod (wrap .u64 v) n:=Int.tmod_nonneg _ h1.1;have h4:Int.tmod (wrap .u64 v) n<n:=Int.tmod_lt_of_pos _ hn;refine⟨_,h3,h4,fun {fu d p}=>?_⟩
 rw[Sp];simp only[Yv,h2];rw[EK _ _ (by omega),Bc (by omega) (by omega)]
theorem Arr {l:List Int}(hl:l.length<=maxLen)(a:Nat)(n:Int)(hn:0<n)(hm:n<=9223372036854775807):∃(v:Int)(a':Nat),0<=v∧v<n ∧
  ∀{fu d:Nat} {p:Option (List PV->Option Ay)},Ae (CP p) prog fu (d+2) Hh [.pbox (dkc l a),.sc (.int .i64 n)]=some ⟨[.sc (.int .i64 v)],[dkc l a']⟩:=by
 simp only[maxLen] at hl;by_cases h:a<l.length
 ·obtain⟨r,h1,h2,h3⟩:=A27 l[a] n hn hm;refine⟨r,a+1,h1,h2,fun {fu d p}=>?_⟩
  rw[Hj]
  have hg:(Ck .i64 l).getD (Int.toNat ((a:Int)+1-1)*1) .top=.sc (.int .i64 l[a]):=by
   have:=ati (k:=.i64) (List.getElem?_eq_getElem h);rw[show Int.toNat ((a:Int)+1-1)*1=a by omega]
   exact this
  simp (disch:=omega) only[D4,Bc,hg,h3];rfl
 ·refine⟨0,a,by omega,hn,fun {fu d p}=>?_⟩
  rw[Hj];simp (disch:=omega) only[D4]
theorem Aok (l:List Int)(a:Nat):Ae (CP p) prog fu (d+1) Hk [.pbox (dkc l a)]=some ⟨[.sc (.bool (decide ((a:Int)<(l.length:Int))))],[dkc l a]⟩:=by
 unfold dkc;rw[Mq]
end
end
section
open Go.Proofs.Tryd (prog)
open Go.IntKind (wrap)
set_option maxRecDepth 100000
section
variable {fu d:Nat} {p:Option (List PV->Option Ay)}
theorem Sl (l:List UInt8):(l==l)=true:=by simp
theorem Pu {s:ByteArray}(hs:s.size<=10000)(Fv:20000<=fu):Ae (CP p) prog fu (d+4) H1 [.sc (.string s)]=some ⟨[.sc (.bool true)],[]⟩:=by
 have hB:=PG s;have hl:(Ea s).length<=10000:=by rw[Kp];exact hs
 have e1:Ae (CP p) prog fu (d+3) 15 [.sc (.string s)]=_:=(congrArg (fun x=>Ae (CP p) prog fu (d+3) 15 [.sc (.string x)]) (H0 s).symm).trans (Aaa (fu:=fu) (d:=d) (p:=p) hB (by omega) (by omega) (by omega))
 have e2:Ae (CP p) prog fu (d+3) 26 [.sc (.string s)]=_:=(congrArg (fun x=>Ae (CP p) prog fu (d+3) 26 [.sc (.string x)]) (H0 s).symm).trans (Aed (fu:=fu) (d:=d+1) (p:=p) hB (by omega) (by omega) (by omega))
 rw[Nd];cases hd:G3 (Ea s) with
 |none=>
  rw[hd] at e1 e2;have a1:decide (0+0*1<=List.length ([]:List PV))=true:=rfl;have a2:decide (List.length (List.take (0*1) (List.drop 0 ([]:List PV)))=0)=true:=rfl;have a3:Gr (List.take (0*1) (List.drop 0 ([]:List PV)))=some []:=rfl;have a4:((2:Int)==2)=true:=rfl;simp only[D4,e1,e2,a1,a2,a3,a4,Sl]
 |some b=>
  rw[hd] at e1 e2;have a0:List.take (b.length*1) (List.drop 0 (Ck .u8 b))=Ck .u8 b:=by rw[List.drop_zero];exact Zzf (by rw[Ex];omega)
  have a1:decide (0+b.length*1<=List.length (Ck .u8 b))=true:=by rw[Ex];simp
  have a2:decide (List.length (Ck .u8 b)=b.length)=true:=by rw[Ex];simp
  have a3:=Vr b;have a4:((0:Int)==0)=true:=rfl;simp only[D4,e1,e2,a0,a1,a2,a3,a4,Sl]
theorem Avj {l:List Int}(h:∀x∈l,(Lit.int .u8 x).wf=true):Dp l:=by
 intro x hx;have:=h x hx;simp[Lit.wf,IntKind.min,IntKind.max,IntKind.signed,IntKind.bits] at this;omega
end
theorem Azc:∀n:Fin 68,∃x,ByteArray.extract (ByteArray.mk (List.toArray (List.append [(65:UInt8),(66:UInt8),(67:UInt8),(68:UInt8),(69:UInt8),(70:UInt8),(71:UInt8),(72:UInt8),(73:UInt8),(74:UInt8),(75:UInt8),(76:UInt8),(77:UInt8),(78:UInt8),(79:UInt8),(80:UInt8),(81:UInt8),(82:UInt8),(83:UInt8),(84:UInt8),(85:UInt8),(86:UInt8),(87:UInt8),(88:UInt8),(89:UInt8),(90:UInt8),(97:UInt8),(98:UInt8),(99:UInt8),(100:UInt8),(101:UInt8),(102:UInt8),(103:UInt8),(104:UInt8)] [(105:UInt8),(106:UInt8),(107:UInt8),(108:UInt8),(109:UInt8),(110:UInt8),(111:UInt8),(112:UInt8),(113:UInt8),(114:UInt8),(115:UInt8),(116:UInt8),(117:UInt8),(118:UInt8),(119:UInt8),(120:UInt8),(121:UInt8),(122:UInt8),(48:UInt8),(49:UInt8),(50:UInt8),(51:UInt8),(52:UInt8),(53:UInt8),(54:UInt8),(55:UInt8),(56:UInt8),(57:UInt8),(45:UInt8),(95:UInt8),(61:UInt8),(43:UInt8),(47:UInt8),(10:UInt8)]))) n.val (n.val+1)=x∧x.size<=1:=fun n=>⟨_,rfl,by rw[ByteArray.size_extract];omega⟩
section
variable {fu:Nat}
set_option maxHeartbeats 2000000 in
theorem PM (Fv:fu=30000){b l:List Int}{s:ByteArray}(hB:Dp b)(hb:b.length<=300)(hs:s.size<=300)(hl:l.length<=maxLen):∀(k i nn a:Nat)(t:ByteArray),i+k=12->k+1<=nn->t.size<=i ->
  Dy fu (Ae C1 prog fu 9) b.length (Ck .u8 b) s l.length (Ck .i64 l) nn b.length (Ck .u8 b) s t (i:Int) l.length (Ck .i64 l) (a:Int)=some ⟨[.sc (.bool true)],[]⟩:=by
 have aw:Ae C1 prog fu 9 8 []=_:=QZ (fu:=fu) (d:=0) (by omega)
 have Db:=SA b;have e1:Ae C1 prog fu 9 12 [.lst false 1 b.length (Ck .u8 b)]=_:=Ami (fu:=fu) (d:=8) (p:=some Fk) (z:=false) hB (by omega)
 have e2:Ae C1 prog fu 9 13 [.lst false 1 b.length (Ck .u8 b)]=_:=RH (fu:=fu) (d:=8) (p:=some Fk) hB (by omega) (by omega) (by omega)
 have e3:Ae C1 prog fu 9 14 [.sc (.string s)]=_:=Pu (fu:=fu) (d:=5) (p:=some Fk) (by omega) (by omega)
 have e5:Ae C1 prog fu 9 14 [.sc (.string (Ab (D8 b)))]=_:=Pu (fu:=fu) (d:=5) (p:=some Fk) (by rw[An];omega) (by omega)
 intro k
 induction k with
 |zero=>
  intro i nn a t hi Lj ht;obtain⟨q,rfl⟩:∃q,nn=q+1:=⟨nn-1,by omega⟩
  have e4:Ae C1 prog fu 9 14 [.sc (.string t)]=_:=Pu (fu:=fu) (d:=5) (p:=some Fk) (by omega) (by omega)
  have a1:=dF (q:=(i:Int)<12) (by omega)
  rw[Gg];simp only[D4,a1,e1,e2,e3,e4,e5,Sl,aw]
 |succ k ih=>
  intro i nn a t hi Lj ht;obtain⟨q,rfl⟩:∃q,nn=q+1:=⟨nn-1,by omega⟩
  have e4:Ae C1 prog fu 9 14 [.sc (.string t)]=_:=Pu (fu:=fu) (d:=5) (p:=some Fk) (by omega) (by omega)
  have a1:=dT (q:=(i:Int)<12) (by omega)
  have lf:Ae C1 prog fu 9 10 [.pbox (dkc l a)]=_:=Aok (fu:=fu) (d:=8) (p:=some Fk) l a;rw[Gg];by_cases ha:(a:Int)<(l.length:Int)
  ·rw[dT ha] at lf;obtain⟨v,a',hv0,hv1,hnx⟩:=Arr hl a 68 (by omega) (by omega)
   have nx:Ae C1 prog fu 9 11 [.pbox (dkc l a),.sc (.int .i64 68)]=_:=hnx (fu:=fu) (d:=7) (p:=some Fk);have b1:wrap .i64 (v+1)=v+1:=Bc (by omega) (by omega)
   have b2:=dT (q:=(0:Int)<=v) hv0;have b3:=dT (q:=(0:Int)<=v+1) (by omega)
   have b4:decide (Int.toNat v<=Int.toNat (v+1))=true:=dT (by omega)
   have b5:decide (Int.toNat (v+1)<=68)=true:=dT (by omega)
   obtain⟨x,hx,hx1⟩:=Azc ⟨Int.toNat v,by omega⟩
   simp only at hx;rw[show Int.toNat v+1=Int.toNat (v+1) by omega] at hx
   have b6:decide (t.size+x.size<=9223372036854775807)=true:=dT (by omega)
   have b7:wrap .i64 ((i:Int)+1)=((i+1:Nat):Int):=by rw[Bc (by omega) (by omega)];omega
   have hn:=ih (i+1) q a' (t++x) (by omega) (by omega) (by rw[ByteArray.size_append];omega)
   simp only[D4,a1,lf,nx,b1,b2,b3,b4,b5,hx,b6,b7];exact hn
  ·rw[dF ha] at lf;simp only[D4,a1,lf,e1,e2,e3,e4,e5,Sl,aw]
end
set_option maxHeartbeats 1000000 in
theorem dataBase_plain (qs:List PV)(h:Bd (WTv prog) [22,9,23] qs):∃fu d,Ae C1 prog fu d Hm qs=some ⟨[.sc (.bool true)],[]⟩:=by
 obtain⟨q0,_,rfl,h0,g⟩:=h.cons_inv;obtain⟨q1,_,rfl,h1,g⟩:=g.cons_inv;obtain⟨q2,_,rfl,h2,g⟩:=g.cons_inv;obtain rfl:=g.nil_inv;clear h g;obtain⟨b,rfl,_,hwf⟩:=KV (k:=.u8) (e:=5) (by kernel_rfl) (by kernel_rfl) (by kernel_rfl) (by kernel_rfl) h0
 obtain⟨s,rfl,_⟩:=Ae9 (P:=prog) (by kernel_rfl) (by kernel_rfl) h1
 obtain⟨l,rfl,hl,_⟩:=KV (k:=.i64) (e:=3) (by kernel_rfl) (by kernel_rfl) (by kernel_rfl) (by kernel_rfl) h2
 clear h0 h1 h2;have hB:=Avj hwf;obtain⟨fu,Fv⟩:∃fu,fu=30000:=⟨_,rfl⟩;refine⟨fu,10,?_⟩;refine (Mw (p:=some Fk) fu 9 _ _ s _ _).trans ?_;have aw:Ae C1 prog fu 9 8 []=_:=QZ (fu:=fu) (d:=0) (by omega)
 by_cases hn:300<b.length
 ·have a1:=dT (q:=((b.length:Nat):Int)>300) (by omega)
  simp only[D4,a1,aw]
 have a1:=dF (q:=((b.length:Nat):Int)>300) (by omega)
 by_cases hn2:300<s.size
 ·have a2:=dT (q:=((s.size:Nat):Int)>300) (by omega)
  simp only[D4,a1,a2,aw]
 have a2:=dF (q:=((s.size:Nat):Int)>300) (by omega)
 have nw:Ae C1 prog fu 9 9 [.lst false 1 l.length (Ck .i64 l)]=_:=A3x (fu:=fu) (d:=8) (p:=some Fk) (l:=l);have Aq7:=PM (s:=s) Fv hB (by omega) (by omega) hl 12 0 fu 0 ⟨#[]⟩ (by omega) (by omega) (Nat.le_refl _)
 simp only[D4,a1,a2,nw];exact Aq7
end
end Go.Proofs.YtodnjibebeghjaaDoor.Pv
