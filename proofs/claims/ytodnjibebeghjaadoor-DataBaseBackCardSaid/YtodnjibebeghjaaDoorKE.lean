/-
  The proof of DataBaseBack, part 5.
-/
import Derived.Test.YtodnjibebeghjaaDoorKD
import Derived.Laws.ResultCell
import Derived.Test.YtodnjibebeghjaaDoorRows
set_option linter.unusedSimpArgs false
set_option linter.unusedVariables false
namespace Go.Proofs.YtodnjibebeghjaaDoor.Pv
section
open Go.Proofs.Tryd (prog)
open Go.IntKind (wrap)
set_option maxRecDepth 100000
theorem XX {a b:Int}(ha:0<=a∧a<=255)(hb:0<=b∧b<=255):(a.toNat.toUInt8==b.toNat.toUInt8)=decide (a=b):=by
 rw[Bool.eq_iff_iff,beq_iff_eq,decide_eq_true_iff];constructor
 ·intro h;have:=congrArg UInt8.toNat h;have e1:a.toNat.toUInt8.toNat=a.toNat % 256:=by rw[Nat.toUInt8,UInt8.toNat_ofNat']
  have e2:b.toNat.toUInt8.toNat=b.toNat % 256:=by rw[Nat.toUInt8,UInt8.toNat_ofNat']
  rw[e1,e2] at this;omega
 ·rintro rfl;rfl
theorem Yw {c:Int}(hc:0<=c∧c<=255):((c.toNat.toUInt8.toNat:Nat):Int)=c:=by
 rw[Nat.toUInt8,UInt8.toNat_ofNat'];omega
theorem ZV {c x:Int}(r:List Int)(e:x≠c):B4 c (x::r)=x::B4 c r:=by unfold B4;rw[List.takeWhile_cons_of_pos (by simp[e])]
theorem OP {c:Int}(r:List Int):B4 c (c::r)=[]:=by unfold B4;rw[List.takeWhile_cons_of_neg (by simp)]
theorem Ro (c:Int)(l:List Int):B4 c l=l.take (B4 c l).length:=by
 have h:B4 c l <+: l:=List.takeWhile_prefix _;exact List.prefix_iff_eq_take.1 h
theorem PT (c:Int)(l:List Int):(B4 c l).length<=l.length:=by
 have h:B4 c l <+: l:=List.takeWhile_prefix _;exact h.length_le
theorem Aa2 (c:Int)(l:List Int)(h:¬(B4 c l).length<l.length):B4 c l=l:=by
 have:=PT c l;rw[Ro c l,Zzf (by omega)]
def S7 (c:Int)(l:List Int):Int:=if (B4 c l).length<l.length then ((B4 c l).length:Int) else -1
theorem PI {c:Int}(hc:0<=c∧c<=255):∀{l:List Int},Ds l->Lib.indexByte (l.map fun n=>n.toNat.toUInt8) c.toNat.toUInt8=S7 c l
 |[],_=>rfl
 |x::r,h=>by
  obtain⟨hx,hr⟩:=Bm h;have ih:=PI hc hr;show (if (x.toNat.toUInt8==c.toNat.toUInt8)=true then (0:Int) else if (Lib.indexByte (r.map fun n=>n.toNat.toUInt8) c.toNat.toUInt8 == -1)=true then -1 else Lib.indexByte (r.map fun n=>n.toNat.toUInt8) c.toNat.toUInt8+1)=_
  rw[XX hx hc,ih];by_cases e:x=c
  ·subst e;unfold S7;rw[OP];simp
  ·unfold S7;rw[ZV r e];simp only[decide_eq_true_eq,e,if_false,UR];by_cases g:(B4 c r).length<r.length
   ·simp only[Fa g,Fa (show (B4 c r).length+1<r.length+1 by omega)]
    rw[D1 (show ¬(((((B4 c r).length:Int)) == -1)=true) by rw[beq_iff_eq];omega)]
    omega
   ·simp only[D1 g,D1 (show ¬(B4 c r).length+1<r.length+1 by omega)]
    rfl
theorem BB {c:Int}(hc:0<=c∧c<=255):∀{l:List Int},Ds l->(l.map fun n=>n.toNat.toUInt8).count c.toNat.toUInt8+1=(Ba c l).length
 |[],_=>rfl
 |x::r,h=>by
  obtain⟨hx,hr⟩:=Bm h;have ih:=BB hc hr;rw[List.map_cons,List.count_cons,XX hx hc];unfold Ba;by_cases e:x=c
  ·rw[Fa e,Fa (by simp[e]),UR,←ih]
  ·rw[D1 e,D1 (by simp[e])]
   cases hs:Ba c r with
   |nil=>exact absurd hs (Og c r)
   |cons a t=>
    rw[hs] at ih
    simpa using ih
theorem Ts (c:Int):∀(l:List Int),(Ba c l).length<=l.length+1
 |[]=>Nat.le_refl _
 |x::r=>by
  have ih:=Ts c r;unfold Ba;split
  ·simp;omega
  ·cases hs:Ba c r with
   |nil=>simp
   |cons a t=>rw[hs] at ih;simp at ih ⊢;omega
theorem CA (c:Int)(l:List Int):1<=(Ba c l).length:=by
 have:=Og c l;cases hs:Ba c l with
 |nil=>exact absurd hs this
 |cons a t=>simp
theorem PE {a:List PV}{n:Nat}{x y:PV}{r:List PV}(h:a.length=n):(a++x::r).set n y=a++y::r:=by
 subst h
 induction a with
 |nil=>rfl
 |cons z a ih=>simp[ih]
theorem dle (n:Nat):decide (n<=n)=true:=by simp
section
variable {fu d:Nat} {p:Option (List PV->Option A4)}
theorem QJ {c:Int}(hc:0<=c∧c<=255){l:List Int}(hl:Ds l):Af (CP p) prog fu (d+2) I5 [.sc (.string (Ab l)),.sc (.string (Ab [c]))]=some ⟨[.sc (.int .i64 (S7 c l))],[]⟩:=by
 have e:Af (CP p) prog fu (d+1) 40 [.sc (.string (Ab l)),.sc (.int .u8 c)]=some ⟨[.sc (.int .i64 (Lib.indexByte (Ab l).data.toList c.toNat.toUInt8))],[]⟩:=rfl;have e0:(Ab l).data.toList=l.map fun n=>n.toNat.toUInt8:=rfl
 rw[e0,PI hc hl] at e;have h0:((((Ab [c]).size:Nat):Int)==0)=false:=by rw[Av];rfl
 have h1:((((Ab [c]).size:Nat):Int)==1)=true:=by rw[Av];rfl
 have h2:(Array.toList (Ab [c]).data)[0]?=some c.toNat.toUInt8:=rfl;have h3:=Yw hc;rw[O5];by_cases g:[c]=l
 ·subst g;have h4:(Array.toList (Ab [c]).data==Array.toList (Ab [c]).data)=true:=by simp
  have h5:S7 c [c]=0:=by unfold S7;rw[OP];rfl
  simp only[Ez,h0,h4,h5]
 ·have h4:(Array.toList (Ab [c]).data==Array.toList (Ab l).data)=false:=by
   rw[Bool.eq_false_iff,ne_eq,beq_iff_eq];intro q;apply g
   have q2:Ab [c]=Ab l:=by
    cases hx:Ab [c];cases hy:Ab l;rw[hx,hy] at q;exact congrArg ByteArray.mk (Array.toList_inj.1 q)
   have q3:=congrArg E1 q2
   rwa [C9 hl,C9 (fun x hx=>by simp at hx;omega)] at q3
  simp only[Ez,h0,h4,h1,h2,h3,e]
theorem WU {c:Int}(hc:0<=c∧c<=255){l:List Int}(hl:Ds l):Af (CP p) prog fu (d+3) Mu [.sc (.string (Ab l)),.sc (.string (Ab [c]))]=some ⟨[.sc (.int .i64 (S7 c l))],[]⟩:=by
 have e:Af (CP p) prog fu (d+2) 78 [.sc (.string (Ab l)),.sc (.string (Ab [c]))]=_:=QJ (fu:=fu) (d:=d) (p:=p) hc hl;rw[Vm];simp only[Ez,e]
theorem IZ {l:List Int}(hl:Ds l)(n:Nat):(Ab l).extract 0 n=Ab (l.take n):=by rw[Sl,C9 hl]
theorem V1 {l:List Int}(hl:Ds l)(n:Nat):(Ab l).extract n l.length=Ab (l.drop n):=by
 have:=Uu (s:=Ab l) (a:=n)
 rwa [Av,C9 hl] at this
theorem Apl {c:Int}(hc:0<=c∧c<=255){l:List Int}(hl:Ds l)(hs:l.length<=1000000):Af (CP p) prog fu (d+4) Pk [.sc (.string (Ab l)),.sc (.string (Ab [c]))]=some ⟨[.sc (.string (Ab (B4 c l))),.sc (.string (Ab (l.drop ((B4 c l).length+1)))),.sc (.bool (decide ((B4 c l).length<l.length)))],[]⟩:=by
 have e:Af (CP p) prog fu (d+2) 78 [.sc (.string (Ab l)),.sc (.string (Ab [c]))]=_:=QJ (fu:=fu) (d:=d) (p:=p) hc hl
 have e2:Af (CP p) prog fu (d+3) 63 [.sc (.string (Ab l)),.sc (.string (Ab [c]))]=some ⟨[.sc (.string (Ab (B4 c l))),.sc (.string (Ab (l.drop ((B4 c l).length+1)))),.sc (.bool (decide ((B4 c l).length<l.length)))],[]⟩:=by
  refine (R2 (p:=p) fu (d+2) _ _).trans ?_;by_cases g:(B4 c l).length<l.length
  ·have hi:S7 c l=(B4 c l).length:=by unfold S7;rw[Fa g]
   rw[hi] at e;have a1:decide (((B4 c l).length:Int)>=0)=true:=by simp
   have a2:decide ((0:Int)<=((B4 c l).length:Int))=true:=by simp
   have a3:decide (Int.toNat ((B4 c l).length:Int)<=l.length)=true:=by simp;omega
   have a4:(Ab l).extract 0 (Int.toNat ((B4 c l).length:Int))=Ab (B4 c l):=by
    rw[Pu,IZ hl,←Ro]
   have a5:wrap .i64 (((B4 c l).length:Int)+(([c].length:Nat):Int))=(((B4 c l).length+1:Nat):Int):=by
    rw[Bj (by simp;omega) (by simp;omega)];simp
   have a6:decide ((0:Int)<=(((B4 c l).length+1:Nat):Int))=true:=by simp;omega
   have a7:decide (Int.toNat (((B4 c l).length+1:Nat):Int)<=l.length)=true:=by simp;omega
   have a8:(Ab l).extract (Int.toNat (((B4 c l).length+1:Nat):Int)) l.length=Ab (l.drop ((B4 c l).length+1)):=by
    rw[Pu,V1 hl]
   have a9:decide ((B4 c l).length<l.length)=true:=by simpa using g
   simp only[Ez,e,Av,dle,a1,a2,a3,a4,a5,a6,a7,a8,a9]
  ·have hi:S7 c l = -1:=by unfold S7;rw[D1 g]
   rw[hi] at e;have a1:decide ((-1:Int)>=0)=false:=rfl;have a9:decide ((B4 c l).length<l.length)=false:=by simpa using g
   have a10:l.drop ((B4 c l).length+1)=[]:=List.drop_eq_nil_of_le (by omega)
   have a11:(ByteArray.mk #[])=Ab []:=rfl;rw[a9,a10,Aa2 c l g];simp only[Ez,e,a1,a11]
 rw[Y8];simp only[Ez,e2]
theorem Ae9 {l w:List Int}(hl:Ds l)(hw:Ds w):Af (CP p) prog fu (d+4) Jb [.sc (.string (Ab l)),.sc (.string (Ab w))]=some ⟨[.sc (.string (Ab (if w.isPrefixOf l=true then l.drop w.length else l))),.sc (.bool (w.isPrefixOf l))],[]⟩:=by
 have e:Af (CP p) prog fu (d+2) 77 [.sc (.string (Ab l)),.sc (.string (Ab w))]=some ⟨[.sc (.bool (w.isPrefixOf l))],[]⟩:=Afx (xs:=VH p) (fu:=fu) (d:=d+1) hl hw
 have e2:Af (CP p) prog fu (d+3) 62 [.sc (.string (Ab l)),.sc (.string (Ab w))]=some ⟨[.sc (.string (Ab (if w.isPrefixOf l=true then l.drop w.length else l))),.sc (.bool (w.isPrefixOf l))],[]⟩:=by
  refine (Lo (p:=p) fu (d+2) _ _).trans ?_;cases hp:w.isPrefixOf l
  ·rw[hp] at e;simp only[Ez,e,Dw,Bool.false_eq_true,if_false]
  ·rw[hp] at e;have Vl:w.length<=l.length:=(List.isPrefixOf_iff_prefix.1 hp).length_le;have a1:decide (Int.toNat ((w.length:Nat):Int)<=l.length)=true:=by simp;omega
   have a2:(Ab l).extract (Int.toNat ((w.length:Nat):Int)) l.length=Ab (l.drop w.length):=by rw[Pu,V1 hl]
   simp only[Ez,e,Av,dle,a1,a2,Db,if_true]
 rw[Pa];simp only[Ez,e2]
def Zi (x:List Int):PV:=.sc (.string (Ab x))
theorem NK {c:Int}(hc:0<=c∧c<=255){a0 a1:ByteArray}{a2 a3:Int}{N:Nat}(hN:N<=1000000):∀(nn:Nat)(r:List Int)(done:List (List Int)),r.length+1<=nn->r.length<=1000000->Ds r->done.length+(Ba c r).length=N ->
  Dz fu (Af (CP p) prog fu (d+3)) a0 a1 a2 a3 nn (Ab r) (Ab [c]) 0 ((N:Int)-1) N (done.length:Int) (done.map Zi++List.replicate (Ba c r).length (.sc (.string ⟨#[]⟩)))=some ⟨[.own 1 N ((done++Ba c r).map Zi)],[]⟩:=by
 intro nn
 induction nn with
 |zero=>intro r done h;omega
 |succ k ih=>
  intro r done hk hr6 hr hn;have e:Af (CP p) prog fu (d+3) 100 [.sc (.string (Ab r)),.sc (.string (Ab [c]))]=_:=WU (fu:=fu) (d:=d) (p:=p) hc hr;rw[M1];have Ey:=Ux c r;by_cases g:(B4 c r).length<r.length
  ·rw[Fa g] at Ey;have hi:S7 c r=(B4 c r).length:=by unfold S7;rw[Fa g]
   rw[hi] at e;have hp:=CA c (r.drop ((B4 c r).length+1));have M6:(Ba c r).length=(Ba c (r.drop ((B4 c r).length+1))).length+1:=by rw[Ey];simp
   have a0:decide ((done.length:Int)<(N:Int)-1)=true:=by simp;omega
   have a1:decide (((B4 c r).length:Int)<0)=false:=by simp
   have a2:wrap .i64 (((B4 c r).length:Int)+0)=((B4 c r).length:Int):=by rw[Bj (by omega) (by omega)];omega
   have a3:decide ((0:Int)<=((B4 c r).length:Int))=true:=by simp
   have a4:decide (Int.toNat ((B4 c r).length:Int)<=r.length)=true:=by simp;omega
   have a5:(Ab r).extract 0 (Int.toNat ((B4 c r).length:Int))=Ab (B4 c r):=by rw[Pu,IZ hr,←Ro]
   have a6:(decide ((0:Int)<=(done.length:Int))&&decide ((done.length:Int)<(N:Int)))=true:=by simp;omega
   have a7:decide (0+Int.toNat (done.length:Int)*1+1<=List.length (done.map Zi++List.replicate (Ba c r).length (PV.sc (.string ⟨#[]⟩))))=true:=by simp;omega
   have a8:Co (done.map Zi++List.replicate (Ba c r).length (PV.sc (.string ⟨#[]⟩))) [PV.sc (.string (Ab (B4 c r)))] (0+Int.toNat (done.length:Int)*1)=(done++[B4 c r]).map Zi++List.replicate (Ba c (r.drop ((B4 c r).length+1))).length (PV.sc (.string ⟨#[]⟩)):=by
    rw[X3 (by simp;omega),M6,List.replicate_succ,Pu,Nat.zero_add,Nat.mul_one,PE (by simp)]
    simp[Zi]
   have a9:wrap .i64 (((B4 c r).length:Int)+(([c].length:Nat):Int))=(((B4 c r).length+1:Nat):Int):=by
    rw[Bj (by simp;omega) (by simp;omega)];simp
   have b1:decide ((0:Int)<=(((B4 c r).length+1:Nat):Int))=true:=by simp;omega
   have b2:decide (Int.toNat (((B4 c r).length+1:Nat):Int)<=r.length)=true:=by simp;omega
   have b3:(Ab r).extract (Int.toNat (((B4 c r).length+1:Nat):Int)) r.length=Ab (r.drop ((B4 c r).length+1)):=by rw[Pu,V1 hr]
   have b4:wrap .i64 ((done.length:Int)+1)=(((done++[B4 c r]).length:Nat):Int):=by
    rw[Bj (by omega) (by omega)];simp
   have hd:=ih (r.drop ((B4 c r).length+1)) (done++[B4 c r]) (by simp;omega) (by simp;omega) ((fun x hx=>hr x (List.mem_of_mem_drop hx))) (by simp;omega)
   simp only[Ez,e,Av,dle,a0,a1,a2,a3,a4,a5,a6,a7,a8,a9,b1,b2,b3,b4];rw[hd,Ey];simp
  ·rw[D1 g] at Ey;have M6:(Ba c r).length=1:=by rw[Ey];rfl
   have a0:decide ((done.length:Int)<(N:Int)-1)=false:=by simp;omega
   have a6:(decide ((0:Int)<=(done.length:Int))&&decide ((done.length:Int)<(N:Int)))=true:=by simp;omega
   have a7:decide (0+Int.toNat (done.length:Int)*1+1<=List.length (done.map Zi++List.replicate (Ba c r).length (PV.sc (.string ⟨#[]⟩))))=true:=by simp;omega
   have a8:Co (done.map Zi++List.replicate (Ba c r).length (PV.sc (.string ⟨#[]⟩))) [PV.sc (.string (Ab r))] (0+Int.toNat (done.length:Int)*1)=(done++[r]).map Zi:=by
    rw[X3 (by simp;omega),M6,show List.replicate 1 (PV.sc (Value.string ⟨#[]⟩))=[PV.sc (.string ⟨#[]⟩)] from rfl,Pu,Nat.zero_add,Nat.mul_one,PE (by simp)]
    simp[Zi]
   have b4:wrap .i64 ((done.length:Int)+1)=(N:Int):=by
    rw[Bj (by omega) (by omega)];omega
   have b5:decide ((0:Int)<=(N:Int))=true:=by simp
   have b6:decide (Int.toNat (N:Int)<=N)=true:=by simp
   have b7:Int.toNat (N:Int)-0=N:=by simp
   have b8:decide (N*1<=List.length ((done++[r]).map Zi))=true:=by simp;omega
   have b9:List.take (N*1) ((done++[r]).map Zi)=(done++[r]).map Zi:=Zzf (by simp;omega)
   simp only[Ez,a0,a6,a7,a8,b4,b5,b6,b7,b8,b9];rw[Ey]
theorem Aea {c:Int}(hc:0<=c∧c<=255){l:List Int}(hl:Ds l)(hs:l.length<=999999)(Gr:l.length+1<=fu):Af (CP p) prog fu (d+5) Mx [.sc (.string (Ab l)),.sc (.string (Ab [c]))]=some ⟨[.own 1 (Ba c l).length ((Ba c l).map Zi)],[]⟩:=by
 have e:Af (CP p) prog fu (d+4) 79 [.sc (.string (Ab l)),.sc (.string (Ab [c])),.sc (.int .i64 0),.sc (.int .i64 (-1))]=some ⟨[.own 1 (Ba c l).length ((Ba c l).map Zi)],[]⟩:=by
  refine (Qm (p:=p) fu (d+3) _ _ _ _).trans ?_;have hn:=Ts c l;have hp:=CA c l;have hcn:=BB hc hl
  have e1:Af (CP p) prog fu (d+3) 99 [.sc (.string (Ab l)),.sc (.string (Ab [c]))]=some ⟨[.sc (.int .i64 (((Ba c l).length:Int)-1))],[]⟩:=by
   have:Af (CP p) prog fu (d+3) 99 [.sc (.string (Ab l)),.sc (.string (Ab [c]))]=some ⟨[.sc (.int .i64 (Lib.countByte (Ab l).data.toList c.toNat.toUInt8))],[]⟩:=rfl;rw[this]
   have e0:(Lib.countByte (Ab l).data.toList c.toNat.toUInt8:Int)=((Ba c l).length:Int)-1:=by
    have:Lib.countByte (Ab l).data.toList c.toNat.toUInt8+1=(Ba c l).length:=hcn;omega
   rw[e0]
  have a1:(((-1:Int))==0)=false:=rfl;have a2:(Array.toList (Ab [c]).data==Array.toList (ByteArray.mk #[]).data)=false:=rfl;have a3:decide ((-1:Int)<0)=true:=rfl;have a4:wrap .i64 (((Ba c l).length:Int)-1+1)=(Ba c l).length:=by rw[Bj (by omega) (by omega)];omega
  have a5:wrap .i64 ((l.length:Int)+1)=l.length+1:=by rw[Bj (by omega) (by omega)]
  have a6:(if ((l.length:Int)+1)<((Ba c l).length:Int) then ((l.length:Int)+1) else ((Ba c l).length:Int))=(Ba c l).length:=by rw[D1 (by omega)]
  have a7:decide ((0:Int)<=((Ba c l).length:Int))=true:=by simp
  have b7:decide (((Ba c l).length:Int)<=((Ba c l).length:Int))=true:=by simp
  have c7:decide (((Ba c l).length:Int)*16<=1099511627776)=true:=by simp;omega
  have d7:decide (((Ba c l).length:Int)<=1099511627776)=true:=by simp;omega
  have a8:wrap .i64 (((Ba c l).length:Int)-1)=((Ba c l).length:Int)-1:=Bj (by omega) (by omega)
  have a9:Mg (Ba c l).length [PV.sc (.string ⟨#[]⟩)]=List.replicate (Ba c l).length (PV.sc (.string ⟨#[]⟩)):=by
   unfold Mg
   induction (Ba c l).length with
   |zero=>rfl
   |succ k ih=>rw[List.replicate_succ,List.flatten_cons,ih];rfl
  have a10:Int.toNat ((Ba c l).length:Int)=(Ba c l).length:=Pu _;have hd:=NK (fu:=fu) (d:=d) (p:=p) hc (a0:=Ab l) (a1:=Ab [c]) (a2:=0) (a3:= -1) (N:=(Ba c l).length) (by omega) fu l [] Gr (by omega) hl (by simp)
  simp only[Ez,e1,Av,dle,a1,a2,a3,a4,a5,a6,a7,b7,c7,d7,a8,a9,a10];exact hd
 have b1:decide ((Ba c l).length*1<=List.length ((Ba c l).map Zi))=true:=by simp
 have b2:List.take ((Ba c l).length*1) ((Ba c l).map Zi)=(Ba c l).map Zi:=Zzf (by simp)
 rw[U3];simp only[Ez,e,b1,b2]
end
end
section
open Go.Proofs.Tryd (prog)
open Go.IntKind (wrap)
set_option maxRecDepth 100000
theorem CV:∀n:Fin 256,Lib.indexByte Zh.data.toList (n.val:Int).toNat.toUInt8=if A8 (n.val:Int)<64 then A8 (n.val:Int) else -1:=by decide +kernel
theorem YM {c:Int}(hc:0<=c∧c<=255):Lib.indexByte Zh.data.toList c.toNat.toUInt8=if A8 c<64 then A8 c else -1:=by
 obtain⟨n,rfl⟩:=Int.eq_ofNat_of_zero_le hc.1;exact CV ⟨n,by omega⟩
theorem Anj {y v:Int}(k:Nat)(hk:k<=18)(h0:0<=y)(hm:y % ((2 ^ (k+6):Nat):Int)=0) (hy:y<16777216)(hv0:0<=v)(hv:v<64):ior .u32 y (Se .u32 (wrap .u32 v) (k:Int))=y+v*((2 ^ k:Nat):Int):=by
 obtain⟨y,rfl⟩:=Int.eq_ofNat_of_zero_le h0;obtain⟨v,rfl⟩:=Int.eq_ofNat_of_zero_le hv0
 have e1:wrap .u32 (v:Int)=v:=by
  simp only[wrap,IntKind.bits,IntKind.signed,ZG,Bool.false_eq_true,if_false];omega
 have A5y:2 ^ k<=2 ^ 18:=Nat.pow_le_pow_right (by omega) hk
 have hvk:v*2 ^ k<2 ^ k*64:=by
  rw[Nat.mul_comm];exact Nat.mul_lt_mul_of_pos_left (by omega) (Nat.pos_of_ne_zero (by simp))
 have e2:Se .u32 (v:Int) (k:Int)=((v*2 ^ k:Nat):Int):=by
  show wrap .u32 ((v:Int)*2 ^ (min (k:Int).toNat IntKind.u32.bits))=_
  have:min (k:Int).toNat IntKind.u32.bits=k:=by
   rw[Pu];exact Nat.min_eq_left (by show k<=32;omega)
  rw[this];have:(v:Int)*2 ^ k=((v*2 ^ k:Nat):Int):=by simp
  rw[this];simp only[wrap,IntKind.bits,IntKind.signed,ZG,Bool.false_eq_true,if_false];omega
 rw[e1,e2];have e3:=Ago y (v*2 ^ k) (by omega) (by omega)
 refine e3.trans ?_
 have hd:y=y / 2 ^ (k+6)*2 ^ (k+6):=by
  have:y % 2 ^ (k+6)=0:=by exact_mod_cast hm
  have:=Nat.div_add_mod y (2 ^ (k+6));rw[Nat.mul_comm] at this;omega
 have B2:v*2 ^ k<2 ^ (k+6):=by rw[Nat.pow_add];exact hvk
 have:=Nat.shiftLeft_add_eq_or_of_lt B2 (y / 2 ^ (k+6));rw[Nat.shiftLeft_eq,←hd] at this;rw[←this];simp
section
variable {fu d:Nat} {p:Option (List PV->Option A4)}
theorem Akc {c:Int}(hc:0<=c∧c<=255):Af (CP p) prog fu (d+2) 27 [.sc (.string Zh),.sc (.int .u8 c)]=some ⟨[.sc (.int .i64 (if A8 c<64 then A8 c else -1))],[]⟩:=by
 have e:Af (CP p) prog fu (d+1) 40 [.sc (.string Zh),.sc (.int .u8 c)]=some ⟨[.sc (.int .i64 (Lib.indexByte Zh.data.toList c.toNat.toUInt8))],[]⟩:=rfl;rw[YM hc] at e;refine (Ja (p:=p) fu (d+1) _ _).trans ?_;simp only[Ez,e]
theorem Jj {a0:ByteArray}{m0 nn:Nat}{l:List Int}{y1:Nat}{y6:List PV}{i n:Nat}{y3 c:Int}(Xe:i<n)(hn:n<=4)(hl:Ds l)(hc:l[i]?=some c) (h0:0<=y3)(hm:y3 % ((2 ^ (24-6*i):Nat):Int)=0) (hy:y3<16777216):
  B6 fu (Af (CP p) prog fu (d+2)) a0 m0 (nn+1) (Ab l) y1 (n:Int) y3 (n:Int) (i:Int) y6=if A8 c<64 then B6 fu (Af (CP p) prog fu (d+2)) a0 m0 nn (Ab l) y1 (n:Int) (y3+A8 c*((2 ^ (18-6*i):Nat):Int)) (n:Int) ((i+1:Nat):Int) y6 else some ⟨[.own 1 0 [],.sc (.int .i64 2)],[]⟩:=by
 have hcB:=hl c (List.mem_of_getElem? hc);have hv:=E7 c;have e:=Akc (fu:=fu) (d:=d) (p:=p) hcB;have a1:decide ((i:Int)<(n:Int))=true:=by simp;omega
 have a2:decide ((0:Int)<=(i:Int))=true:=by simp
 have a3:(Array.toList (Ab l).data)[Int.toNat (i:Int)]?=some c.toNat.toUInt8:=by
  rw[Pu];show (l.map fun n=>n.toNat.toUInt8)[i]?=_
  rw[List.getElem?_map,hc];rfl
 have a4:=Yw hcB;have ea:(ByteArray.mk #[(65:UInt8),(66:UInt8),(67:UInt8),(68:UInt8),(69:UInt8),(70:UInt8),(71:UInt8),(72:UInt8),(73:UInt8),(74:UInt8),(75:UInt8),(76:UInt8),(77:UInt8),(78:UInt8),(79:UInt8),(80:UInt8),(81:UInt8),(82:UInt8),(83:UInt8),(84:UInt8),(85:UInt8),(86:UInt8),(87:UInt8),(88:UInt8),(89:UInt8),(90:UInt8),(97:UInt8),(98:UInt8),(99:UInt8),(100:UInt8),(101:UInt8),(102:UInt8),(103:UInt8),(104:UInt8),(105:UInt8),(106:UInt8),(107:UInt8),(108:UInt8),(109:UInt8),(110:UInt8),(111:UInt8),(112:UInt8),(113:UInt8),(114:UInt8),(115:UInt8),(116:UInt8),(117:UInt8),(118:UInt8),(119:UInt8),(120:UInt8),(121:UInt8),(122:UInt8),(48:UInt8),(49:UInt8),(50:UInt8),(51:UInt8),(52:UInt8),(53:UInt8),(54:UInt8),(55:UInt8),(56:UInt8),(57:UInt8),(45:UInt8),(95:UInt8)])=Zh:=rfl;rw[F0,ea];by_cases hv6:A8 c<64
 ·rw[Fa hv6] at e;have b1:decide (A8 c<0)=false:=by simp;omega
  have b2:wrap .i64 (6*(i:Int))=6*(i:Int):=Bj (by omega) (by omega)
  have b3:wrap .i64 (18-6*(i:Int))=((18-6*i:Nat):Int):=by rw[Bj (by omega) (by omega)];omega
  have b4:decide ((0:Int)<=((18-6*i:Nat):Int))=true:=by simp
  have b5:=Anj (y:=y3) (v:=A8 c) (18-6*i) (by omega) h0 (by rw[show 18-6*i+6=24-6*i by omega];exact hm) hy hv.1 hv6
  have b6:wrap .i64 ((i:Int)+1)=((i+1:Nat):Int):=by rw[Bj (by omega) (by omega)];omega
  rw[Fa hv6];simp only[Ez,a1,a2,a3,a4,e,b1,b2,b3,b4,b5,b6]
 ·rw[D1 hv6] at e;have b1:decide ((-1:Int)<0)=true:=rfl;rw[D1 hv6];simp only[Ez,a1,a2,a3,a4,e,b1]
theorem Ana {y:Int}(h0:0<=y)(hy:y<16777216):wrap .u8 (WV .u32 y 16)=y / 65536 % 256:=by
 show wrap .u8 (y.fdiv (2 ^ (min (16:Int).toNat IntKind.u32.bits)))=_;have:(2:Int) ^ (min (16:Int).toNat IntKind.u32.bits)=65536:=by decide
 rw[this,Int.fdiv_eq_ediv_of_nonneg _ (by omega)]
 simp only[wrap,IntKind.bits,IntKind.signed,ZG,Bool.false_eq_true,if_false];omega
theorem A1l {y:Int}(h0:0<=y)(hy:y<16777216):wrap .u8 (WV .u32 y 8)=y / 256 % 256:=by
 show wrap .u8 (y.fdiv (2 ^ (min (8:Int).toNat IntKind.u32.bits)))=_;have:(2:Int) ^ (min (8:Int).toNat IntKind.u32.bits)=256:=by decide
 rw[this,Int.fdiv_eq_ediv_of_nonneg _ (by omega)]
 simp only[wrap,IntKind.bits,IntKind.signed,ZG,Bool.false_eq_true,if_false];omega
theorem At7 {y:Int}(h0:0<=y)(hy:y<16777216):wrap .u8 y=y % 256:=by
 simp only[wrap,IntKind.bits,IntKind.signed,ZG,Bool.false_eq_true,if_false];omega
theorem OB {a0:ByteArray}{m0 nn:Nat}{s:ByteArray}{y1:Nat}{y6:List PV}{n:Nat}{y3:Int}(hn:2<=n)(hn4:n<=4)(h0:0<=y3)(hy:y3<16777216):
  B6 fu (Af (CP p) prog fu (d+2)) a0 m0 (nn+1) s y1 (n:Int) y3 (n:Int) (n:Int) y6=B9 fu (Af (CP p) prog fu (d+2)) a0 m0 fu s y1 (n:Int) (n-1) (4-n) ((4-n:Nat):Int) 0 y6 [.sc (.int .u8 (y3 / 65536 % 256)),.sc (.int .u8 (y3 / 256 % 256)),.sc (.int .u8 (y3 % 256))]:=by
 have a1:decide ((n:Int)<(n:Int))=false:=by simp
 have e1:=Ana h0 hy;have e2:=A1l h0 hy;have e3:=At7 h0 hy;have b1:wrap .i64 ((n:Int)-1)=((n-1:Nat):Int):=by rw[Bj (by omega) (by omega)];omega
 have b2:decide ((0:Int)<=((n-1:Nat):Int))=true:=by simp
 have b3:decide (Int.toNat ((n-1:Nat):Int)<=3)=true:=by simp;omega
 have b4:0+Int.toNat ((n-1:Nat):Int)*1=n-1:=by rw[Pu];omega
 have b5:3-Int.toNat ((n-1:Nat):Int)=4-n:=by rw[Pu];omega
 rw[F0];simp only[Ez,a1,e1,e2,e3,b1,b2,b3,b4,b5]
end
end
section
open Go.Proofs.Tryd (prog)
open Go.IntKind (wrap)
set_option maxRecDepth 100000
section
variable {fu d:Nat} {p:Option (List PV->Option A4)}
abbrev grp (A B C:Int):List PV:=[.sc (.int .u8 A),.sc (.int .u8 B),.sc (.int .u8 C)]
abbrev A03:Option A4:=some ⟨[.own 1 0 [],.sc (.int .i64 2)],[]⟩
theorem Akv {call:A7}{a0 s:ByteArray}{m0 nn y1:Nat}{n i j:Nat}{y7:List PV}{A B C X:Int}(hij:i<j)(hj:j<=4)(h:List.getD (grp A B C) (n+i) .top=.sc (.int .u8 X)) {q:Int}:
  B9 fu call a0 m0 (nn+1) s y1 q n j (j:Int) (i:Int) y7 (grp A B C)=if X=0 then B9 fu call a0 m0 nn s y1 q n j (j:Int) ((i+1:Nat):Int) y7 (grp A B C) else A03:=by
 have a1:decide ((i:Int)<(j:Int))=true:=by simp;omega
 have a2:(decide ((0:Int)<=(i:Int))&&decide ((i:Int)<(j:Int)))=true:=by simp;omega
 have a2':decide ((0:Int)<=(i:Int))=true:=by simp
 have a3:List.getD (grp A B C) (n+Int.toNat (i:Int)*1) PV.top=.sc (.int .u8 X):=by rw[Pu,Nat.mul_one];exact h
 have a4:wrap .i64 ((i:Int)+1)=((i+1:Nat):Int):=by rw[Bj (by omega) (by omega)];omega
 rw[Fv];by_cases hx:X=0
 ·subst hx;have a5:((0:Int) != 0)=false:=rfl;rw[Fa rfl];simp only[Ez,a1,a2,a2',a3,a4,a5]
 ·have a5:(X != 0)=true:=by simp[hx]
  rw[D1 hx];simp only[Ez,a1,a2,a2',a3,a5]
theorem NR {call:A7}{a0:ByteArray}{m0 nn:Nat}{n j:Nat}{l acc:List Int}{A B C:Int}(hn:2<=n)(hn4:n<=4)(hl:Ds l)(ZU:n<=l.length)(Ys:acc.length<=1000000){st:Nat}:
  B9 fu call a0 m0 (nn+1) (Ab l) acc.length (n:Int) st j (j:Int) (j:Int) (D7 .u8 acc) (grp A B C)=B8 fu call a0 m0 (Ab (l.drop n)) (acc++[A,B,C].take (n-1)).length (D7 .u8 (acc++[A,B,C].take (n-1))):=by
 have a1:decide ((j:Int)<(j:Int))=false:=by simp
 have a2:wrap .i64 ((n:Int)-1)=((n-1:Nat):Int):=by rw[Bj (by omega) (by omega)];omega
 have a3:(decide (3<=List.length (grp A B C))&&true)=true:=rfl;have a4:decide ((0:Int)<=((n-1:Nat):Int))=true:=by simp
 have a5:decide (Int.toNat ((n-1:Nat):Int)<=3)=true:=by simp;omega
 have a6:Int.toNat ((n-1:Nat):Int)-0=n-1:=by rw[Pu];omega
 have a7:decide (0+(n-1)*1<=List.length (grp A B C))=true:=by simp;omega
 have a8:decide (acc.length*1<=List.length (D7 .u8 acc))=true:=by rw[Gm];simp
 have a9:decide (List.length (List.take ((n-1)*1) (List.drop 0 (grp A B C)))=(n-1)*1)=true:=by simp;omega
 have b1:decide ((acc.length+(n-1))*1<=1099511627776)=true:=by simp;omega
 have b2:decide (acc.length+(n-1)<=1099511627776)=true:=by simp;omega
 have b3:List.take (acc.length*1) (D7 .u8 acc)++List.take ((n-1)*1) (List.drop 0 (grp A B C))=D7 .u8 (acc++[A,B,C].take (n-1)):=by
  have e0:D7 .u8 (acc++[A,B,C].take (n-1))=D7 .u8 acc++D7 .u8 ([A,B,C].take (n-1)):=List.flatMap_append;rw[Zzf (by rw[Gm];omega),e0,List.drop_zero,Nat.mul_one]
  congr 1
  match n,hn,hn4 with
  |2,_,_=>rfl
  |3,_,_=>rfl
  |4,_,_=>rfl
 have b4:decide ((0:Int)<=(n:Int))=true:=by simp
 have b5:decide (Int.toNat (n:Int)<=l.length)=true:=by simp;omega
 have b6:(Ab l).extract (Int.toNat (n:Int)) l.length=Ab (l.drop n):=by rw[Pu,V1 hl]
 have b7:acc.length+(n-1)=(acc++[A,B,C].take (n-1)).length:=by simp;omega
 rw[Fv];simp only[Ez,Av,dle,a1,a2,a3,a4,a5,a6,a7,a8,a9,b1,b2,b3,b4,b5,b6];rw[b7]
theorem XV {a0:ByteArray}(Gr:10<=fu):∀(m:Nat)(l acc:List Int)(nn:Nat),l.length<=4*m->m+1<=nn->Ds l->l.length % 4≠1->acc.length+l.length<=1000000 ->
  B8 fu (Af (CP p) prog fu (d+2)) a0 nn (Ab l) acc.length (D7 .u8 acc)=some (match Ha l with|none=>⟨[.own 1 0 [],.sc (.int .i64 2)],[]⟩|some b=>⟨[.own 1 (acc++b).length (D7 .u8 (acc++b)),.sc (.int .i64 0)],[]⟩):=by
 obtain⟨fu,rfl⟩:∃k,fu=k+10:=⟨fu-10,by omega⟩
 have zero:∀(acc:List Int) (nn:Nat),acc.length<=1000000->B8 (fu+10) (Af (CP p) prog (fu+10) (d+2)) a0 (nn+1) (Ab []) acc.length (D7 .u8 acc)=some ⟨[.own 1 acc.length (D7 .u8 acc),.sc (.int .i64 0)],[]⟩:=by
  intro acc nn h;have a1:decide ((((Ab []).size:Nat):Int)>0)=false:=rfl;have a2:decide (acc.length*1<=List.length (D7 .u8 acc))=true:=by rw[Gm];simp
  have a3:List.take (acc.length*1) (D7 .u8 acc)=D7 .u8 acc:=Zzf (by rw[Gm];omega)
  rw[Fw];simp only[Ez,a1,a2,a3]
 intro m
 induction m with
 |zero=>
  intro l acc nn hl Pj hB h1 Ys;have:l=[]:=List.eq_nil_of_length_eq_zero (by omega)
  subst this;obtain⟨k,rfl⟩:∃k,nn=k+1:=⟨nn-1,by omega⟩
  rw[zero acc k (by omega)]
  simp[Ha]
 |succ m ih=>
  intro l acc nn hl Pj hB h1 Ys;obtain⟨k,rfl⟩:∃k,nn=k+1:=⟨nn-1,by omega⟩
  have head:∀(n:Nat),l.length>0->n=min l.length 4->B8 (fu+10) (Af (CP p) prog (fu+10) (d+2)) a0 (k+1) (Ab l) acc.length (D7 .u8 acc)=B6 (fu+10) (Af (CP p) prog (fu+10) (d+2)) a0 k (fu+10) (Ab l) acc.length (n:Int) 0 (n:Int) 0 (D7 .u8 acc):=by
   intro n hp hn;have a1:decide (((l.length:Nat):Int)>0)=true:=by simp;omega
   have a2:(if ((l.length:Nat):Int)<4 then ((l.length:Nat):Int) else 4)=(n:Int):=by split<;>omega
   rw[Fw];simp only[Ez,Av,a1,a2]
  match l,hl,hB,h1,Ys,head with
  |[],_,_,_,Ys,_=>
   rw[zero acc k (by simpa using Ys)]
   simp[Ha]
  |[x],_,_,h1,_,_=>exact absurd rfl h1
  |[a,b],_,hB,_,Ys,head=>
   have va:=E7 a;have vb:=E7 b;rw[head 2 (by simp) rfl,show (0:Int)=((0:Nat):Int) from rfl]
   rw[Jj (c:=a) (by omega) (by omega) hB rfl (by simp) (by simp) (by simp)]
   unfold Ha;by_cases ha:A8 a<64
   ·rw[Fa ha,Jj (c:=b) (by omega) (by omega) hB rfl (by simp<;>omega) (by simp<;>omega) (by simp<;>omega)]
    by_cases hb:A8 b<64
    ·rw[Fa hb,OB (by omega) (by omega) (by simp<;>omega) (by simp<;>omega)]
     rw[show (0:Int)=((0:Nat):Int) from rfl]
     rw[Akv (X:=(((0:Nat):Int)+A8 a*((2 ^ (18-6*0):Nat):Int)+A8 b*((2 ^ (18-6*1):Nat):Int)) / 256 % 256) (by omega) (by omega) rfl]
     by_cases hz:A8 b % 16=0
     ·rw[Fa (by simp<;>omega)]
      rw[Akv (X:=(((0:Nat):Int)+A8 a*((2 ^ (18-6*0):Nat):Int)+A8 b*((2 ^ (18-6*1):Nat):Int)) % 256) (by omega) (by omega) rfl]
      rw[Fa (by simp<;>omega),NR (by omega) (by omega) hB (by simp) (by omega)]
      rw[Fa ⟨ha,hb,hz⟩];have hr:=ih [] (acc++[A8 a*4+A8 b / 16]) k (by simp) (by omega) (fun x hx=>by cases hx) (by simp) (by simp at Ys ⊢;omega)
      have e:(((0:Nat):Int)+A8 a*((2 ^ (18-6*0):Nat):Int)+A8 b*((2 ^ (18-6*1):Nat):Int)) / 65536 % 256=A8 a*4+A8 b / 16:=by simp;omega
      rw[e];refine hr.trans ?_;simp[Ha]
     ·rw[D1 (by simp<;>omega),D1 (fun h=>hz h.2.2)]
    ·rw[D1 hb,D1 (fun h=>hb h.2.1)]
   ·rw[D1 ha,D1 (fun h=>ha h.1)]
  |[a,b,c],_,hB,_,Ys,head=>
   have va:=E7 a;have vb:=E7 b;have vc:=E7 c;rw[head 3 (by simp) rfl,show (0:Int)=((0:Nat):Int) from rfl]
   rw[Jj (c:=a) (by omega) (by omega) hB rfl (by simp) (by simp) (by simp)]
   unfold Ha;by_cases ha:A8 a<64
   ·rw[Fa ha,Jj (c:=b) (by omega) (by omega) hB rfl (by simp<;>omega) (by simp<;>omega) (by simp<;>omega)]
    by_cases hb:A8 b<64
    ·rw[Fa hb,Jj (c:=c) (by omega) (by omega) hB rfl (by simp<;>omega) (by simp<;>omega) (by simp<;>omega)]
     by_cases hc:A8 c<64
     ·rw[Fa hc,OB (by omega) (by omega) (by simp<;>omega) (by simp<;>omega)]
      rw[show (0:Int)=((0:Nat):Int) from rfl]
      rw[Akv (X:=(((0:Nat):Int)+A8 a*((2 ^ (18-6*0):Nat):Int)+A8 b*((2 ^ (18-6*1):Nat):Int)+A8 c*((2 ^ (18-6*2):Nat):Int)) % 256) (by omega) (by omega) rfl]
      by_cases hz:A8 c % 4=0
      ·rw[Fa (by simp<;>omega),NR (by omega) (by omega) hB (by simp) (by omega)]
       rw[Fa ⟨ha,hb,hc,hz⟩];have hr:=ih [] (acc++[A8 a*4+A8 b / 16,A8 b % 16*16+A8 c / 4]) k (by simp) (by omega) (fun x hx=>by cases hx) (by simp) (by simp at Ys ⊢;omega)
       have e:(((0:Nat):Int)+A8 a*((2 ^ (18-6*0):Nat):Int)+A8 b*((2 ^ (18-6*1):Nat):Int)+A8 c*((2 ^ (18-6*2):Nat):Int)) / 65536 % 256=A8 a*4+A8 b / 16:=by simp;omega
       have e2:(((0:Nat):Int)+A8 a*((2 ^ (18-6*0):Nat):Int)+A8 b*((2 ^ (18-6*1):Nat):Int)+A8 c*((2 ^ (18-6*2):Nat):Int)) / 256 % 256=A8 b % 16*16+A8 c / 4:=by simp;omega
       rw[e,e2];refine hr.trans ?_;simp[Ha]
      ·rw[D1 (by simp<;>omega),D1 (fun h=>hz h.2.2.2)]
     ·rw[D1 hc,D1 (fun h=>hc h.2.2.1)]
    ·rw[D1 hb,D1 (fun h=>hb h.2.1)]
   ·rw[D1 ha,D1 (fun h=>ha h.1)]
  |a::b::c::e::t,hl,hB,h1,Ys,head=>
   have va:=E7 a;have vb:=E7 b;have vc:=E7 c;have ve:=E7 e;rw[head 4 (by simp) (by simp<;>omega),show (0:Int)=((0:Nat):Int) from rfl]
   rw[Jj (c:=a) (by omega) (by omega) hB rfl (by simp) (by simp) (by simp)]
   unfold Ha;by_cases ha:A8 a<64
   ·rw[Fa ha,Jj (c:=b) (by omega) (by omega) hB rfl (by simp<;>omega) (by simp<;>omega) (by simp<;>omega)]
    by_cases hb:A8 b<64
    ·rw[Fa hb,Jj (c:=c) (by omega) (by omega) hB rfl (by simp<;>omega) (by simp<;>omega) (by simp<;>omega)]
     by_cases hc:A8 c<64
     ·rw[Fa hc,Jj (c:=e) (by omega) (by omega) hB rfl (by simp<;>omega) (by simp<;>omega) (by simp<;>omega)]
      by_cases he:A8 e<64
      ·rw[Fa he,OB (by omega) (by omega) (by simp<;>omega) (by simp<;>omega)]
       rw[show (0:Int)=((4-4:Nat):Int) from rfl,NR (by omega) (by omega) hB (by simp) (by omega)]
       rw[Fa ⟨ha,hb,hc,he⟩];have hr:=ih t (acc++[A8 a*4+A8 b / 16,A8 b % 16*16+A8 c / 4,A8 c % 4*64+A8 e]) k (by simp at hl;omega) (by omega) (fun x hx=>hB x (by simp[hx])) (by simp at h1;omega) (by simp at Ys ⊢;omega)
       have e1:(((4-4:Nat):Int)+A8 a*((2 ^ (18-6*0):Nat):Int)+A8 b*((2 ^ (18-6*1):Nat):Int)+A8 c*((2 ^ (18-6*2):Nat):Int)+A8 e*((2 ^ (18-6*3):Nat):Int)) / 65536 % 256=A8 a*4+A8 b / 16:=by simp;omega
       have e2:(((4-4:Nat):Int)+A8 a*((2 ^ (18-6*0):Nat):Int)+A8 b*((2 ^ (18-6*1):Nat):Int)+A8 c*((2 ^ (18-6*2):Nat):Int)+A8 e*((2 ^ (18-6*3):Nat):Int)) / 256 % 256=A8 b % 16*16+A8 c / 4:=by simp;omega
       have e3:(((4-4:Nat):Int)+A8 a*((2 ^ (18-6*0):Nat):Int)+A8 b*((2 ^ (18-6*1):Nat):Int)+A8 c*((2 ^ (18-6*2):Nat):Int)+A8 e*((2 ^ (18-6*3):Nat):Int)) % 256=A8 c % 4*64+A8 e:=by simp;omega
       rw[e1,e2,e3];refine hr.trans ?_;cases Ha t<;>simp
      ·rw[D1 he,D1 (fun h=>he h.2.2.2)]
     ·rw[D1 hc,D1 (fun h=>hc h.2.2.1)]
    ·rw[D1 hb,D1 (fun h=>hb h.2.1)]
   ·rw[D1 ha,D1 (fun h=>ha h.1)]
theorem VA:∀{l:List Int},l.length % 4=1->Ha l=none
 |[],h=>by simp at h
 |[_],_=>rfl
 |[_,_],h=>by simp at h
 |[_,_,_],h=>by simp at h
 |p::q::r::s::t,h=>by
  have:=VA (l:=t) (by simp at h;omega)
  unfold Ha;rw[this];simp
theorem KV {l:List Int}(hB:Ds l)(hl:l.length<=1000000)(Gr:10<=fu)(Zp:l.length<=fu):Af (CP p) prog fu (d+3) Gx [.sc (.string (Ab l))]=some (match Ha l with|none=>⟨[.own 1 0 [],.sc (.int .i64 2)],[]⟩|some b=>⟨[.own 1 b.length (D7 .u8 b),.sc (.int .i64 0)],[]⟩):=by
 rw[Li];have a0:Int.tmod ((l.length:Nat):Int) 4=((l.length % 4:Nat):Int):=by rw[Int.tmod_eq_emod_of_nonneg (by omega)];omega
 by_cases h1:l.length % 4=1
 ·have a1:(((l.length % 4:Nat):Int)==1)=true:=by rw[h1];rfl
  rw[VA h1];simp only[Ez,Av,a0,a1]
 ·have a1:(((l.length % 4:Nat):Int)==1)=false:=by simp;omega
  have a2:Int.tdiv ((l.length:Nat):Int) 4=((l.length / 4:Nat):Int):=by rw[Int.tdiv_eq_ediv_of_nonneg (by omega)];omega
  have a3:wrap .i64 ((l.length / 4:Nat):Int)=((l.length / 4:Nat):Int):=Bj (by omega) (by omega)
  have a4:wrap .i64 (((l.length / 4:Nat):Int)*3)=((l.length / 4:Nat):Int)*3:=Bj (by omega) (by omega)
  have a5:wrap .i64 (((l.length / 4:Nat):Int)*3+2)=((l.length / 4:Nat):Int)*3+2:=Bj (by omega) (by omega)
  have a6:decide ((0:Int)<=((l.length / 4:Nat):Int)*3+2)=true:=by simp;omega
  have a7:decide ((((l.length / 4:Nat):Int)*3+2)*1<=1099511627776)=true:=by simp;omega
  have a8:decide (((l.length / 4:Nat):Int)*3+2<=1099511627776)=true:=by simp;omega
  have hd:=XV (d:=d) (p:=p) (a0:=Ab l) Gr (l.length / 4+1) l [] fu (by omega) (by omega) hB h1 (by simp<;>omega)
  simp only[Ez,Av,a0,a1,a2,a3,a4,a5,a6,a7,a8];refine hd.trans ?_;cases Ha l<;>simp
end
end
section
open Go.Proofs.Tryd (prog)
open Go.IntKind (wrap)
set_option maxRecDepth 100000
theorem dT {q:Prop} [Decidable q] (h:q):decide q=true:=decide_eq_true h
theorem dF {q:Prop} [Decidable q] (h:¬q):decide q=false:=decide_eq_false h
theorem bT {q:Prop} [Decidable q] (h:q):(!decide q)=false:=by simp[h]
theorem bF {q:Prop} [Decidable q] (h:¬q):(!decide q)=true:=by simp[h]
def TZ (n i:Nat)(c:Int):Bool:=ltB c||(c==45&&decide (0<i)&&decide (i+1<n))
def Sw (n:Nat):Nat->List Int->Bool
 |_,[]=>true
 |i,c::r=>TZ n i c&&Sw n (i+1) r
theorem AV (n i:Nat)(c:Int)(r:List Int):Sw n i (c::r)=(TZ n i c&&Sw n (i+1) r):=rfl
theorem VS:ltB 45=false:=rfl
theorem OS (n:Nat):∀(r:List Int)(i:Nat),i+r.length=n->Sw n i r=(r.all (fun x=>ltB x||x==45) && !(decide (i=0)&&r.head?==some 45) && !(r.getLast?==some 45))
 |[],i,_=>by simp[Sw]
 |[c],i,h=>by
  simp only[UR,List.length_nil] at h;unfold Sw TZ;by_cases hc:c=45
  ·subst hc;have:¬i+1<n:=by omega
   simp[Sw,VS,this]
  ·have hcb:(c==45)=false:=by simp[hc]
   simp[Sw,hcb]
 |c::x::r,i,h=>by
  have ih:=OS n (x::r) (i+1) (by simp at h ⊢;omega)
  have hl:(c::x::r).getLast?=(x::r).getLast?:=by simp
  unfold Sw;rw[ih,hl];have h1:i+1<n:=by simp at h;omega
  unfold TZ;by_cases hc:c=45
  ·subst hc;by_cases hi:i=0
   ·subst hi;simp[VS]
   ·have:0<i:=by omega
    simp[VS,h1,hi,this]
  ·have hcb:(c==45)=false:=by simp[hc]
   simp[hcb,Bool.and_assoc]
theorem Abn {l:List Int}(h1:1<=l.length)(h2:l.length<=63):Tj l=Sw l.length 0 l:=by
 rw[OS _ l 0 (by simp)]
 unfold Tj;rw[dT h1,dT h2];cases l.all (fun x=>ltB x||x==45)<;>cases (l.head?==some 45)<;>cases (l.getLast?==some 45)<;>rfl
section
variable {fu d:Nat} {p:Option (List PV->Option A4)}
theorem GX {call:A7}{a0:ByteArray}{l:List Int}(hB:Ds l)(hs:l.length<=63):∀(r:List Int)(i nn:Nat),l.drop i=r->r.length+1<=nn ->
  A9 fu call a0 nn (Ab l) (l.length:Int) (i:Int)=some ⟨[.sc (.bool (Sw l.length i r))],[]⟩
 |[],i,nn,hd,hn=>by
  obtain⟨k,rfl⟩:∃k,nn=k+1:=⟨nn-1,by omega⟩
  have hi:=Yu hd;have a1:decide ((i:Int)<(l.length:Int))=false:=by simp;omega
  rw[Ii];simp only[Ez,a1];rfl
 |c::r,i,nn,hd,hn=>by
  obtain⟨k,rfl⟩:∃k,nn=k+1:=⟨nn-1,by omega⟩
  obtain⟨hi,hc,Km⟩:=S4 hd;have ih:=GX (call:=call) (a0:=a0) hB hs r (i+1) k Km (by simp at hn;omega)
  have hcB:=hB c (List.mem_of_getElem? hc);have a1:decide ((i:Int)<(l.length:Int))=true:=by simp;omega
  have a2:decide ((0:Int)<=(i:Int))=true:=by simp
  have a3:(Array.toList (Ab l).data)[Int.toNat (i:Int)]?=some c.toNat.toUInt8:=by
   rw[Pu];show (l.map fun n=>n.toNat.toUInt8)[i]?=_
   rw[List.getElem?_map,hc];rfl
  have a4:=Yw hcB;have a5:wrap .i64 ((i:Int)+1)=((i+1:Nat):Int):=by rw[Bj (by omega) (by omega)];omega
  have a6:wrap .i64 ((l.length:Int)-1)=(l.length:Int)-1:=Bj (by omega) (by omega)
  have good:TZ l.length i c=true->(A9 fu call a0 k (Ab l) (l.length:Int) ((i+1:Nat):Int)=some ⟨[.sc (.bool (Sw l.length i (c::r)))],[]⟩):=by
   intro h;rw[ih,AV,h,Bool.true_and]
  have bad:TZ l.length i c=false->some (A4.mk [PV.sc (.bool false)] [])=some ⟨[.sc (.bool (Sw l.length i (c::r)))],[]⟩:=by
   intro h;rw[AV,h,ZG]
  rw[Ii];by_cases hA:97<=c∧c<=122
  ·have q1:=dT hA.1;have q2:=dT hA.2;have q3:(c==45)=false:=by simp;omega
   have q4:=dT (q:=(48:Int)<=c) (by omega)
   have q5:=bF (q:=c<=57) (by omega)
   simp only[Ez,a1,a2,a3,a4,a5,a6,Av,q1,q2,q3,q4,q5];exact good (by unfold TZ ltB;simp[hA])
  by_cases hD:48<=c∧c<=57
  ·have q1:=dF (q:=(97:Int)<=c) (by omega)
   have q2:=dT (q:=c<=122) (by omega)
   have q3:(c==45)=false:=by simp;omega
   have q4:=dT hD.1;have q5:=bT hD.2;simp only[Ez,a1,a2,a3,a4,a5,a6,Av,q1,q2,q3,q4,q5];exact good (by unfold TZ ltB EG;simp[hD])
  have B2:ltB c=false:=by
   unfold ltB EG;simp;exact⟨fun h=>by omega,fun h=>by omega⟩
  by_cases hM:c=45
  ·subst hM;have q1:decide ((97:Int)<=45)=false:=rfl;have q2:decide ((45:Int)<=122)=true:=rfl;have q3:((45:Int)==45)=true:=rfl;have q4:decide ((48:Int)<=45)=false:=rfl;have q5:(!decide ((45:Int)<=57))=false:=rfl;by_cases h0:0<i
   ·have q6:=dT (q:=(i:Int)>0) (by omega)
    by_cases h1:i+1<l.length
    ·have q7:=bT (q:=(i:Int)<(l.length:Int)-1) (by omega)
     simp only[Ez,a1,a2,a3,a4,a5,a6,Av,q1,q2,q3,q4,q5,q6,q7];exact good (by unfold TZ;simp[h0,h1])
    ·have q7:=bF (q:=(i:Int)<(l.length:Int)-1) (by omega)
     simp only[Ez,a1,a2,a3,a4,a5,a6,Av,q1,q2,q3,q4,q5,q6,q7];exact bad (by unfold TZ;simp[h1,B2])
   ·have q6:=dF (q:=(i:Int)>0) (by omega)
    simp only[Ez,a1,a2,a3,a4,a5,a6,Av,q1,q2,q3,q4,q5,q6];exact bad (by unfold TZ;simp[h0,B2])
  have q3:(c==45)=false:=by simp[hM]
  have RG:TZ l.length i c=false:=by unfold TZ;simp[B2,hM]
  by_cases h97:97<=c
  ·have q1:=dT h97;have q2:=dF (q:=c<=122) (by omega)
   have q4:=dT (q:=(48:Int)<=c) (by omega)
   have q5:=bF (q:=c<=57) (by omega)
   simp only[Ez,a1,a2,a3,a4,a5,a6,Av,q1,q2,q3,q4,q5];exact bad RG
  ·have q1:=dF h97;have q2:=dT (q:=c<=122) (by omega)
   by_cases h48:48<=c
   ·have q4:=dT h48;have q5:=bF (q:=c<=57) (by omega)
    simp only[Ez,a1,a2,a3,a4,a5,a6,Av,q1,q2,q3,q4,q5];exact bad RG
   ·have q4:=dF h48;have q5:=bT (q:=c<=57) (by omega)
    simp only[Ez,a1,a2,a3,a4,a5,a6,Av,q1,q2,q3,q4,q5];exact bad RG
theorem Abe {l:List Int}(hB:Ds l)(Gr:100<=fu):Af (CP p) prog fu (d+1) Kv [.sc (.string (Ab l))]=some ⟨[.sc (.bool (Tj l))],[]⟩:=by
 rw[Rw];by_cases h1:1<=l.length
 ·by_cases h2:l.length<=63
  ·have a1:decide (((l.length:Nat):Int)<1)=false:=by simp;omega
   have a2:decide (((l.length:Nat):Int)>63)=false:=by simp;omega
   rw[Abn h1 h2];simp only[Ez,Av,a1,a2];exact GX hB h2 l 0 fu rfl (by omega)
  ·have a1:decide (((l.length:Nat):Int)<1)=false:=by simp;omega
   have a2:decide (((l.length:Nat):Int)>63)=true:=by simp;omega
   have e:Tj l=false:=by unfold Tj;simp[h2]
   rw[e];simp only[Ez,Av,a1,a2]
 ·have a1:decide (((l.length:Nat):Int)<1)=true:=by simp;omega
  have e:Tj l=false:=by unfold Tj;simp[h1]
  rw[e];simp only[Ez,Av,a1]
theorem WC (l cs:List UInt8):(Lib.trimS l cs==[])=l.all (cs.contains ·):=by
 have key:∀(q:UInt8->Bool) (m:List UInt8),m.dropWhile q=[]↔m.all q=true:=by
  intro q m
  induction m with
  |nil=>simp
  |cons x m ih=>
   by_cases hx:q x=true
   ·rw[List.dropWhile_cons_of_pos hx,ih];simp[hx]
   ·rw[List.dropWhile_cons_of_neg hx];simp[hx]
 unfold Lib.trimS Lib.trimLeftS Lib.trimRightS;rw[Bool.eq_iff_iff,beq_iff_eq,key,List.all_reverse,←key,key,List.all_eq_true]
 have h2:∀(q:UInt8->Bool) (m:List UInt8),(m.dropWhile q).all q=true↔m.all q=true:=by
  intro q m
  induction m with
  |nil=>simp
  |cons x m ih=>
   by_cases hx:q x=true
   ·rw[List.dropWhile_cons_of_pos hx,ih];simp[hx]
   ·rw[List.dropWhile_cons_of_neg hx]
 rw[←List.all_eq_true,h2,List.all_reverse]
def N2:ByteArray:=⟨#[48,49,50,51,52,53,54,55,56,57]⟩
theorem Aj6:∀n:Fin 256,N2.data.toList.contains (n.val:Int).toNat.toUInt8=EG (n.val:Int):=by decide +kernel
theorem Ahe {l:List Int}(h:Ds l):((l.map fun n=>n.toNat.toUInt8).all (N2.data.toList.contains ·))=l.all EG:=by
 induction l with
 |nil=>rfl
 |cons c r ih=>
  obtain⟨hc,hr⟩:=Bm h;obtain⟨n,rfl⟩:=Int.eq_ofNat_of_zero_le hc.1;rw[List.map_cons,List.all_cons,List.all_cons,ih hr]
  congr 1
  exact Aj6 ⟨n,by omega⟩
theorem Ajg {l:List Int}(hB:Ds l)(hs:l.length<=1000000):∃x,Af (CP p) prog fu (d+1) 66 [.sc (.string (Ab l)),.sc (.string N2)]=some ⟨[.sc (.string x)],[]⟩∧(Array.toList x.data==Array.toList (ByteArray.mk #[]).data)=l.all EG:=by
 refine⟨⟨(Lib.trimS (Ab l).data.toList N2.data.toList).toArray⟩,?_,?_⟩
 ·have e:Af (CP p) prog fu (d+1) 66 [.sc (.string (Ab l)),.sc (.string N2)]=GL [.sc (.string (Ab l)),.sc (.string N2)]:=rfl;rw[e];unfold GL
  have:(Nat.ble N2.size 1000&&N2.data.toList.all (fun b=>decide (b.toNat<128))&&decide ((Ab l).size<=1000000000))=true:=by
   rw[Av];have h1:(Nat.ble N2.size 1000&&N2.data.toList.all (fun b=>decide (b.toNat<128)))=true:=by decide +kernel
   rw[h1,dT (q:=l.length<=1000000000) (by omega)]
   rfl
  simp only[this,cond_true]
 ·show (Lib.trimS (Ab l).data.toList N2.data.toList==[])=_;rw[WC];exact Ahe hB
theorem Yh (c:Int):∀{l:List Int},Ds l->∀x∈Ba c l,Ds x∧x.length<=l.length
 |[],_,x,hx=>by simp[Ba] at hx;subst hx;exact⟨(fun y hy=>nomatch hy),Nat.le_refl _⟩
 |a::r,h,x,hx=>by
  obtain⟨ha,hr⟩:=Bm h;have ih:=Yh c hr;unfold Ba at hx;split at hx
  ·rcases List.mem_cons.1 hx with rfl|hx
   ·exact⟨(fun y hy=>nomatch hy),Nat.zero_le _⟩
   ·exact⟨(ih x hx).1,Nat.le_succ_of_le (ih x hx).2⟩
  ·cases hs:Ba c r with
   |nil=>exact absurd hs (Og c r)
   |cons b t=>
    rw[hs] at hx ih;rcases List.mem_cons.1 hx with rfl|hx
    ·obtain⟨q1,q2⟩:=ih b (by simp)
     refine⟨fun y hy=>?_,by simp;omega⟩
     rcases List.mem_cons.1 hy with rfl|hy
     ·exact ha
     ·exact q1 y hy
    ·exact⟨(ih x (by simp[hx])).1,Nat.le_succ_of_le (ih x (by simp[hx])).2⟩
theorem JP {a0:ByteArray}(Gr:200<=fu){ls:List (List Int)} (hB:∀x∈ls,Ds x∧x.length<=1000)(h0:ls≠[]) (hN:ls.length<=1000):∀(r:List (List Int)) (i nn:Nat),ls.drop i=r->r.length+1<=nn ->
  F8 fu (Af (CP p) prog fu (d+1)) a0 nn ls.length ls.length (ls.length:Int) (i:Int) (ls.map Zi)=some ⟨[.sc (.int .i64 (if r.all Tj=false then 2 else if (ls.getLastD []).all EG=true then 2 else 0))],[]⟩
 |[],i,nn,hd,hn=>by
  obtain⟨k,rfl⟩:∃k,nn=k+1:=⟨nn-1,by omega⟩
  have hi:=Yu hd;have YG:0<ls.length:=List.length_pos_iff.2 h0;have a1:decide ((i:Int)<(ls.length:Int))=false:=by simp;omega
  have a2:wrap .i64 ((ls.length:Int)-1)=((ls.length-1:Nat):Int):=by rw[Bj (by omega) (by omega)];omega
  have a3:decide ((0:Int)<=((ls.length-1:Nat):Int))=true:=by simp
  have a4:decide (((ls.length-1:Nat):Int)<(ls.length:Int))=true:=by simp;omega
  have Afm:ls.getLastD []=ls[ls.length-1]'(by omega):=by
   rw[List.getLastD_eq_getLast?,List.getLast?_eq_getElem?,List.getElem?_eq_getElem (by omega)]
   rfl
  have a5:List.getD (ls.map Zi) (0+Int.toNat ((ls.length-1:Nat):Int)*1) PV.top=.sc (.string (Ab (ls.getLastD []))):=by
   rw[Pu,Nat.zero_add,Nat.mul_one,List.getD_eq_getElem?_getD,List.getElem?_map,List.getElem?_eq_getElem (by omega),Afm]
   rfl
  have hm:=hB (ls.getLastD []) (by rw[Afm];exact List.getElem_mem _)
  obtain⟨x,e,hx⟩:=Ajg (fu:=fu) (d:=d) (p:=p) hm.1 (by omega)
  have e2:Af (CP p) prog fu (d+1) 66 [.sc (.string (Ab (ls.getLastD []))),.sc (.string (ByteArray.mk #[(48:UInt8),(49:UInt8),(50:UInt8),(51:UInt8),(52:UInt8),(53:UInt8),(54:UInt8),(55:UInt8),(56:UInt8),(57:UInt8)]))]=some ⟨[.sc (.string x)],[]⟩:=e;rw[J0];cases hq:(ls.getLastD []).all EG
  ·rw[hq] at hx;simp only[Ez,a1,a2,a3,a4,a5,e2,hx,List.all_nil,Bool.true_eq_false,if_false,Bool.false_eq_true]
  ·rw[hq] at hx;simp only[Ez,a1,a2,a3,a4,a5,e2,hx,List.all_nil,Bool.true_eq_false,if_false,if_true]
 |x::r,i,nn,hd,hn=>by
  obtain⟨k,rfl⟩:∃k,nn=k+1:=⟨nn-1,by omega⟩
  obtain⟨hi,hc,Km⟩:=S4 hd;have ih:=JP (a0:=a0) Gr hB h0 hN r (i+1) k Km (by simp at hn;omega)
  have hm:=hB x (List.mem_of_getElem? hc);have e:Af (CP p) prog fu (d+1) 65 [.sc (.string (Ab x))]=_:=Abe (fu:=fu) (d:=d) (p:=p) hm.1 (by omega)
  have a1:decide ((i:Int)<(ls.length:Int))=true:=by simp;omega
  have a2:decide ((0:Int)<=(i:Int))=true:=by simp
  have a5:List.getD (ls.map Zi) (0+Int.toNat (i:Int)*1) PV.top=.sc (.string (Ab x)):=by
   rw[Pu,Nat.zero_add,Nat.mul_one,List.getD_eq_getElem?_getD,List.getElem?_map,hc];rfl
  have a6:wrap .i64 ((i:Int)+1)=((i+1:Nat):Int):=by rw[Bj (by omega) (by omega)];omega
  rw[J0];cases hq:Tj x
  ·rw[hq] at e;have:((x::r).all Tj=false):=by simp[hq]
   rw[Fa this];simp only[Ez,a1,a2,a5,e,Dw]
  ·rw[hq] at e;have:(x::r).all Tj=r.all Tj:=by simp[hq]
   rw[this];simp only[Ez,a1,a2,a5,e,Db,a6];exact ih
theorem Akd {l:List Int}(hB:Ds l)(hs:l.length<=1000000)(Gr:200<=fu):Af (CP p) prog fu (d+6) Mt [.sc (.string (Ab l))]=some ⟨[.sc (.int .i64 (Yq l))],[]⟩:=by
 rw[U4];unfold Yq;by_cases h:100<l.length
 ·have a1:decide (((l.length:Nat):Int)>100)=true:=by simp;omega
  rw[Fa h];simp only[Ez,Av,a1]
 ·have a1:decide (((l.length:Nat):Int)>100)=false:=by simp;omega
  have e:Af (CP p) prog fu (d+5) 64 [.sc (.string (Ab l)),.sc (.string (ByteArray.mk #[(46:UInt8)]))]=_:=Aea (fu:=fu) (d:=d) (p:=p) (c:=46) (by omega) hB (by omega) (by omega)
  have hn:=Ts 46 l;have hd:=JP (a0:=Ab l) (fu:=fu) (d:=d+4) (p:=p) (by omega) (ls:=Ba 46 l) (fun x hx=>⟨(Yh 46 hB x hx).1,by have:=(Yh 46 hB x hx).2;omega⟩) (Og 46 l) (by omega) (Ba 46 l) 0 fu rfl (by omega)
  rw[D1 h];simp only[Ez,Av,a1,e];exact hd
theorem Aa8 (s:Bool):Af (CP p) prog fu (d+1) Ih [.sc (.bool s)]=some ⟨[.sc (.int .i64 (dfl s))],[]⟩:=by
 rw[N9];cases s<;>simp only[Ez]<;>rfl
theorem QG (c:Int):EG c=true↔48<=c∧c<=57:=by unfold EG;simp
theorem BN {call:A7}{a0:ByteArray}{l:List Int}(hB:Ds l)(hs:l.length<=5):∀(r:List Int)(i nn:Nat)(n:Int),l.drop i=r->r.length+1<=nn->0<=n->n<10 ^ i ->
  Eo fu call a0 nn (Ab l) n (l.length:Int) (i:Int)=some (if r.all EG=true then ⟨[.sc (.int .i64 (r.foldl (fun n x=>10*n+(x-48)) n)),.sc (.bool (decide (r.foldl (fun n x=>10*n+(x-48)) n<=65535)))],[]⟩ else ⟨[.sc (.int .i64 0),.sc (.bool false)],[]⟩)
 |[],i,nn,n,hd,hn,h0,h1=>by
  obtain⟨k,rfl⟩:∃k,nn=k+1:=⟨nn-1,by omega⟩
  have hi:=Yu hd;have a1:decide ((i:Int)<(l.length:Int))=false:=by simp;omega
  rw[Hp];simp only[Ez,a1];rfl
 |c::r,i,nn,n,hd,hn,h0,h1=>by
  obtain⟨k,rfl⟩:∃k,nn=k+1:=⟨nn-1,by omega⟩
  obtain⟨hi,hc,Km⟩:=S4 hd;have hcB:=hB c (List.mem_of_getElem? hc)
  have hp:(10:Int) ^ i<=10 ^ 4:=by
   have h:=Nat.pow_le_pow_right (n:=10) (by omega) (show i<=4 by omega)
   exact_mod_cast h
  have hp2:(10:Int) ^ (i+1)=10 ^ i*10:=Int.pow_succ ..;have a1:decide ((i:Int)<(l.length:Int))=true:=by simp;omega
  have a2:decide ((0:Int)<=(i:Int))=true:=by simp
  have a3:(Array.toList (Ab l).data)[Int.toNat (i:Int)]?=some c.toNat.toUInt8:=by
   rw[Pu];show (l.map fun n=>n.toNat.toUInt8)[i]?=_
   rw[List.getElem?_map,hc];rfl
  have a4:=Yw hcB;rw[Hp];by_cases hq:48<=c∧c<=57
  ·have q1:=dF (q:=c<48) (by omega)
   have q2:=dF (q:=c>57) (by omega)
   have a5:wrap .i64 (10*n)=10*n:=Bj (by omega) (by omega)
   have a6:wrap .u8 (c-48)=c-48:=Vu (by omega) (by omega)
   have a7:wrap .i64 (c-48)=c-48:=Bj (by omega) (by omega)
   have a8:wrap .i64 (10*n+(c-48))=10*n+(c-48):=Bj (by omega) (by omega)
   have a9:wrap .i64 ((i:Int)+1)=((i+1:Nat):Int):=by rw[Bj (by omega) (by omega)];omega
   have ih:=BN (call:=call) (a0:=a0) hB hs r (i+1) k (10*n+(c-48)) Km (by simp at hn;omega) (by omega) (by omega)
   have e:(c::r).all EG=r.all EG:=by rw[List.all_cons,(QG c).2 hq,Bool.true_and]
   simp only[Ez,a1,a2,a3,a4,q1,q2,a5,a6,a7,a8,a9];rw[ih,e];rfl
  ·have e:(c::r).all EG=false:=by
    have:EG c=false:=by
     cases hb:EG c
     ·rfl
     ·exact absurd ((QG c).1 hb) hq
    rw[List.all_cons,this,ZG]
   rw[e];by_cases h48:c<48
   ·have q1:=dT h48;simp only[Ez,a1,a2,a3,a4,q1,Bool.false_eq_true,if_false]
   ·have q1:=dF h48;have q2:=dT (q:=c>57) (by omega)
    simp only[Ez,a1,a2,a3,a4,q1,q2,Bool.false_eq_true,if_false]
theorem Akh {l:List Int}(hB:Ds l)(Gr:100<=fu):Af (CP p) prog fu (d+1) Kd [.sc (.string (Ab l))]=some (if Oa l=true then ⟨[.sc (.int .i64 (JB l)),.sc (.bool (decide (JB l<=65535)))],[]⟩ else ⟨[.sc (.int .i64 0),.sc (.bool false)],[]⟩):=by
 rw[Qf];by_cases h1:1<=l.length
 ·by_cases h2:l.length<=5
  ·have a1:decide (((l.length:Nat):Int)<1)=false:=by simp;omega
   have a2:decide (((l.length:Nat):Int)>5)=false:=by simp;omega
   cases l with
   |nil=>simp at h1
   |cons c r=>
    have hcB:=hB c (by simp)
    have a3:(Array.toList (Ab (c::r)).data)[0]?=some c.toNat.toUInt8:=rfl;have a4:=Yw hcB;by_cases h0:c=48
    ·subst h0;have e:Oa (48::r)=false:=by unfold Oa;simp
     have q:((48:Int)==48)=true:=rfl;rw[e];simp only[Ez,Av,a1,a2,a3,a4,q,Bool.false_eq_true,if_false]
    ·have q:(c==48)=false:=by simp[h0]
     have e:Oa (c::r)=(c::r).all EG:=by
      unfold Oa;rw[dT h1,dT h2];simp[h0]
     have hl:=BN (call:=Af (CP p) prog fu d) (fu:=fu) (a0:=Ab (c::r)) hB h2 (c::r) 0 fu 0 rfl (by omega) (by omega) (by decide)
     rw[e];simp only[Ez,Av,a1,a2,a3,a4,q];exact hl
  ·have a1:decide (((l.length:Nat):Int)<1)=false:=by simp;omega
   have a2:decide (((l.length:Nat):Int)>5)=true:=by simp;omega
   have e:Oa l=false:=by unfold Oa;simp[h2]
   rw[e];simp only[Ez,Av,a1,a2,Bool.false_eq_true,if_false]
 ·have a1:decide (((l.length:Nat):Int)<1)=true:=by simp;omega
  have e:Oa l=false:=by unfold Oa;simp[h1]
  rw[e];simp only[Ez,Av,a1,Bool.false_eq_true,if_false]
theorem Af2 {l:List Int}(hB:Ds l)(hs:l.length<=1000000)(Gr:200<=fu):∃o1 o2 o3,Af (CP p) prog fu (d+7) N4 [.sc (.string (Ab l))]=some ⟨[.agg [.sc (.bool o1),.sc (.string o2),.sc (.int .i64 o3)],.sc (.int .i64 (Fy l))],[]⟩:=by
  have hsp:=Ae9 (fu:=fu) (d:=d+2) (p:=p) hB (w:=[104,116,116,112,115,58,47,47]) (fun x hx=>by simp at hx;omega)
  have Q0:=Ae9 (fu:=fu) (d:=d+2) (p:=p) hB (w:=[104,116,116,112,58,47,47]) (fun x hx=>by simp at hx;omega)
  have e1:Af (CP p) prog fu (d+6) 44 [.sc (.string (Ab l)),.sc (.string (ByteArray.mk #[(104:UInt8),(116:UInt8),(116:UInt8),(112:UInt8),(115:UInt8),(58:UInt8),(47:UInt8),(47:UInt8)]))]=_:=hsp
  have e2:Af (CP p) prog fu (d+6) 44 [.sc (.string (Ab l)),.sc (.string (ByteArray.mk #[(104:UInt8),(116:UInt8),(116:UInt8),(112:UInt8),(58:UInt8),(47:UInt8),(47:UInt8)]))]=_:=Q0
  have tail:∀(s:Bool) (r:List Int),Ds r->r.length<=1000000->∃o1 o2 o3,(Aj (Af (CP p) prog fu (d+6) 45 [PV.sc (Value.string (Ab r)),PV.sc (Value.string (ByteArray.mk #[(58:UInt8)]))]) fun Lw O6=>
    Ad (O6) <|
    Aa (Lw) fun Pn Oc=>
    Ax (Pn) fun N6=>
    Aa (Oc) fun Qz M0=>
    Ax (Qz) fun Qv=>
    Aa (M0) fun N8 Ol=>
    Ap (N8) fun P6=>
    Ad (Ol) <|
    Aj (Af (CP p) prog fu (d+6) 46 [PV.sc (Value.string N6)]) fun Sm Nl=>
    Ad (Nl) <|
    Aa (Sm) fun Q2 Sp=>
    Aw (IntKind.i64) (Q2) fun R9=>
    Ad (Sp) <|
    Bi (R9 != (0:Int))
     (
     some (A4.mk [PV.agg [PV.sc (Value.bool false),PV.sc (Value.string (ByteArray.mk #[])),PV.sc (Value.int IntKind.i64 (0:Int))],PV.sc (Value.int IntKind.i64 R9)] []))
     (
     Aj (Af (CP p) prog fu (d+6) 47 [PV.sc (Value.bool s)]) fun Sr Sy=>
     Ad (Sy) <|
     Aa (Sr) fun Tp Ug=>
     Aw (IntKind.i64) (Tp) fun Vs=>
     Ad (Ug) <|
     Bi (P6)
      (
      Aj (Af (CP p) prog fu (d+6) 48 [PV.sc (Value.string Qv)]) fun Wc Ql=>
      Ad (Ql) <|
      Aa (Wc) fun BH BU=>
      Aw (IntKind.i64) (BH) fun Qy=>
      Aa (BU) fun Pq Zb=>
      Ap (Pq) fun Y5=>
      Ad (Zb) <|
      Bi (!Y5)
       (
       some (A4.mk [PV.agg [PV.sc (Value.bool false),PV.sc (Value.string (ByteArray.mk #[])),PV.sc (Value.int IntKind.i64 (0:Int))],PV.sc (Value.int IntKind.i64 (2:Int))] []))
       (
       Bi (Qy==Vs)
        (
        some (A4.mk [PV.agg [PV.sc (Value.bool false),PV.sc (Value.string (ByteArray.mk #[])),PV.sc (Value.int IntKind.i64 (0:Int))],PV.sc (Value.int IntKind.i64 (2:Int))] []))
        (
        some (A4.mk [PV.agg [PV.sc (Value.bool s),PV.sc (Value.string N6),PV.sc (Value.int IntKind.i64 Qy)],PV.sc (Value.int IntKind.i64 (0:Int))] []))))
      (
      some (A4.mk [PV.agg [PV.sc (Value.bool s),PV.sc (Value.string N6),PV.sc (Value.int IntKind.i64 Vs)],PV.sc (Value.int IntKind.i64 (0:Int))] []))))=some ⟨[.agg [.sc (.bool o1),.sc (.string o2),.sc (.int .i64 o3)],.sc (.int .i64 (PF s r))],[]⟩:=by
    intro s r hr hrl
    have c1:Af (CP p) prog fu (d+6) 45 [.sc (.string (Ab r)),.sc (.string (ByteArray.mk #[(58:UInt8)]))]=_:=Apl (fu:=fu) (d:=d+2) (p:=p) (c:=58) (by omega) hr hrl
    have Mk:=PT 58 r
    have hbB:Ds (B4 58 r):=by rw[Ro];exact fun x hx=>hr x (List.mem_of_mem_take hx)
    have hdB:Ds (r.drop ((B4 58 r).length+1)):=fun x hx=>hr x (List.mem_of_mem_drop hx)
    have c2:Af (CP p) prog fu (d+6) 46 [.sc (.string (Ab (B4 58 r)))]=_:=Akd (fu:=fu) (d:=d) (p:=p) hbB (by omega) Gr
    have c3:Af (CP p) prog fu (d+6) 47 [.sc (.bool s)]=_:=Aa8 (fu:=fu) (d:=d+5) (p:=p) s
    have c4:Af (CP p) prog fu (d+6) 48 [.sc (.string (Ab (r.drop ((B4 58 r).length+1))))]=_:=Akh (fu:=fu) (d:=d+5) (p:=p) hdB (by omega)
    unfold PF
    by_cases hh:Yq (B4 58 r)=0
    · have b1:(Yq (B4 58 r) != 0)=false:=by simp[hh]
      simp only[ne_eq,hh,not_true_eq_false,if_false]
      by_cases hw:(B4 58 r).length<r.length
      · rw[dT hw] at c1
        rw[D1 (show ¬(B4 58 r).length=r.length by omega)]
        by_cases hp:Oa (r.drop ((B4 58 r).length+1))=true
        · rw[Fa hp] at c4
          by_cases hv:JB (r.drop ((B4 58 r).length+1))<=65535
          · rw[dT hv] at c4
            by_cases hdp:JB (r.drop ((B4 58 r).length+1))=dfl s
            · have b2:(JB (r.drop ((B4 58 r).length+1))==dfl s)=true:=by simp[hdp]
              rw[D1 (by rintro⟨_,_,h⟩;exact h hdp)]
              exact⟨_,_,_,by simp only[Ez,c1,c2,hh,c3,c4,b2,Db,show ((0:Int) != 0)=false from rfl];rfl⟩
            · have b2:(JB (r.drop ((B4 58 r).length+1))==dfl s)=false:=by simp[hdp]
              rw[Fa ⟨hp,hv,hdp⟩]
              exact⟨_,_,_,by simp only[Ez,c1,c2,hh,c3,c4,b2,Db,show ((0:Int) != 0)=false from rfl];rfl⟩
          · rw[dF hv] at c4
            rw[D1 (by rintro⟨_,h,_⟩;exact hv h)]
            exact⟨_,_,_,by simp only[Ez,c1,c2,hh,c3,c4,Dw,show ((0:Int) != 0)=false from rfl];rfl⟩
        · rw[D1 hp] at c4
          rw[D1 (by rintro⟨h,_,_⟩;exact hp h)]
          exact⟨_,_,_,by simp only[Ez,c1,c2,hh,c3,c4,Dw,show ((0:Int) != 0)=false from rfl];rfl⟩
      · rw[dF hw] at c1
        rw[Fa (show (B4 58 r).length=r.length by omega)]
        exact⟨_,_,_,by simp only[Ez,c1,c2,hh,c3,show ((0:Int) != 0)=false from rfl];rfl⟩
    · have b1:(Yq (B4 58 r) != 0)=true:=by simp[hh]
      simp only[ne_eq,hh,not_false_eq_true,if_true]
      exact⟨_,_,_,by simp only[Ez,c1,c2,b1];rfl⟩
  have er:=V4 (p:=p) fu (d+6) (Ab l)
  unfold Fy
  cases h1:List.isPrefixOf [104,116,116,112,115,58,47,47] l
  · rw[h1] at e1
    simp only[Bool.false_eq_true,if_false] at e1 ⊢
    cases h2:List.isPrefixOf [104,116,116,112,58,47,47] l
    · rw[h2] at e2
      simp only[Bool.false_eq_true,if_false] at e2 ⊢
      exact⟨_,_,_,er.trans (by simp only[Ez,e1,e2,Dw];rfl)⟩
    · rw[h2] at e2
      simp only[if_true] at e2 ⊢
      obtain⟨o1,o2,o3,ht⟩:=tail false (l.drop 7) (fun x hx=>hB x (List.mem_of_mem_drop hx)) (by simp;omega)
      refine⟨o1,o2,o3,er.trans ?_⟩
      simp only[V3,ED,Vn,Vp,DR,EL,DI,e1,e2,Dw,Db]
      exact ht
  · rw[h1] at e1
    simp only[if_true] at e1 ⊢
    obtain⟨o1,o2,o3,ht⟩:=tail true (l.drop 8) (fun x hx=>hB x (List.mem_of_mem_drop hx)) (by simp;omega)
    refine⟨o1,o2,o3,er.trans ?_⟩
    simp only[V3,ED,Vn,Vp,DR,EL,DI,e1,Dw,Db]
    exact ht
end
end
section
open Go.Proofs.Tryd (prog)
open Go.IntKind (wrap)
set_option maxRecDepth 1000000
open Go Go.RowKit Go.Lib
def RtP (w':World)(l:List Int)(e:Ending):Prop:=
 match MW 8 l with
 |.ok ms=>∃mb,e=.returned (.tuple #[.map (some mb),.int .i64 0])∧Ya w' mb ms
 |.error er=>er≠0∧∃m,e=.returned (.tuple #[m,.int .i64 er])
theorem BG (l:List Int):MW 8 l=match Ao [123] (Bd l) with
  |some r=>(match Q4 (E8 8) true r with
   |.error e=>.error e
   |.ok (ms,r')=>if Bd r'=[] then .ok ms else .error 2)
  |none=>.error 2:=by
 unfold MW;rw[Fb];cases Bd l with
 |nil=>rfl
 |cons y s=>
  by_cases hy:y=123
  ·subst hy;rfl
  ·simp only[D1 hy];split
   ·rename_i e;injection e with e1 _;exact absurd e1 hy
   ·rfl
theorem Dk.toBelow {w w':World}{b mb B:Nat}(k:Dk w w' b mb)(hb:B<=b)(ER:B<=mb)(hB:B<=w.heap.size):Below B w w':=
 ⟨k.os,k.tape,k.output,k.size,fun i hi=>k.other i (by omega) (by omega) (by omega)⟩
theorem X8 {w:World}(hU:gU.ok w)(hUl:∀k,gU.bl k->k<w.heap.size){w':World}(hb:Below w.heap.size w w'){b:Nat}(hbb:w.heap.size<=b):I8 w' b:=
 ⟨gU.stable w w' (fun j _ hl=>hb.block j hl) hU,fun k hk=>⟨Nat.lt_of_lt_of_le (hUl k hk) hb.size,by have:=hUl k hk;omega⟩⟩
set_option maxHeartbeats 4000000 in
theorem Aa5 {t:ByteArray}(ht:t.size<=1000000){w:World}(hU:gU.ok w)(hUl:∀k,gU.bl k->k<w.heap.size):
  Calls prog 34 #[.string t] w fun e w'=>Below w.heap.size w w'∧RtP w' (E1 t) e:=by
 have mixed:prog.follows Departure.mixedOrders=true:=by kernel_rfl
 have KJ:=@run_makeMap prog;have Eb:Below w.heap.size w (w.alloc (.cells #[.string t,.int .i64 0] 92)):=(Below.refl _ w).alloc (Nat.le_refl _) _;have Gl:Below w.heap.size w ((w.alloc (.cells #[.string t,.int .i64 0] 92)).alloc (.map #[] 0)):=Eb.alloc Eb.size _;have UD:(w.alloc (.cells #[.string t,.int .i64 0] 92)).heap.size=w.heap.size+1:=Array.size_push _
 have h2:Rg ((w.alloc (.cells #[.string t,.int .i64 0] 92)).alloc (.map #[] 0)) w.heap.size 0 t (E1 t):=by
  have hg:((w.alloc (.cells #[.string t,.int .i64 0] 92)).alloc (.map #[] 0)).heap[w.heap.size]?=some (.cells #[.string t,.int .i64 0] 92):=by
   show ((w.heap.push _).push _)[w.heap.size]?=_;rw[Array.getElem?_push_lt (by simp)]
   simp
  have hp:Bp t (E1 t)=0:=by unfold Bp;rw[Hi];omega
  refine⟨?_,?_,?_,?_,?_⟩
  ·show w.heap.size<((w.heap.push _).push _).size;rw[Array.size_push,Array.size_push];omega
  ·unfold World.cell?;simp only[hg];rfl
  ·unfold World.cell?;simp only[hg,hp];rfl
  ·unfold World.frozen?;simp only[hg];rfl
  ·unfold World.frozen?;simp only[hg];rfl
 have hM2:Ya ((w.alloc (.cells #[.string t,.int .i64 0] 92)).alloc (.map #[] 0)) (w.heap.size+1) []:=by
  show ((w.heap.push _).push (Obj.map #[] 0))[w.heap.size+1]?=some (.map #[] 0);have:w.heap.size+1=(w.heap.push (Obj.cells #[.string t,.int .i64 0] 92)).size:=by simp
  rw[this];exact Array.getElem?_push_size
 have hU2:=X8 hU hUl Gl (Nat.le_refl _);have hmU:¬gU.bl (w.heap.size+1):=fun h=>by have:=hUl _ h;omega
 have hS:=C3.all t;have hsk:=Gt hS ht hU2 h2
 go_enter Tryd.func34,Tryd.ntmps34
 go_wp2_with (go_at_call 50;refine hsk.mono ?_)
 rintro e W3 ⟨rfl,h3,k3⟩
 have hS3:=Bo hS;have hM3:=hM2.keep k3 (by omega)
 have hU3:=hU2.keep k3;have hro:=Abv hS3 ht hU3 h3 hM3 (by omega) hmU
 have Iq:Below w.heap.size w W3:=Gl.trans ((Dk.of (mb:=w.heap.size+1) k3).toBelow (Nat.le_refl _) (by omega) Gl.size)
 go_wp2_with (go_at_call 51;refine hro.mono ?_)
 rintro e W4 ⟨k4,r4,Vt,h4,FH⟩
 have O7:Below w.heap.size w W4:=Iq.trans (k4.toBelow (Nat.le_refl _) (by omega) Iq.size)
 have hU4:I8 W4 w.heap.size:=X8 hU hUl O7 (Nat.le_refl _)
 have VC:∀W e,(match Ao [123] (Bd (E1 t)) with
  |some r=>(match Q4 (E8 8) true r with
   |.error er=>er≠0∧∃m,e=.returned (.tuple #[m,.int .i64 er])
   |.ok (ms,r')=>if Bd r'=[] then ∃mb,e=.returned (.tuple #[.map (some mb),.int .i64 0])∧Ya W mb ms else ∃m,e=.returned (.tuple #[m,.int .i64 2]))
  |none=>∃m,e=.returned (.tuple #[m,.int .i64 2]))->RtP W (E1 t) e:=by
  intro W e;unfold RtP;rw[BG];cases Ao [123] (Bd (E1 t)) with
  |none=>exact fun h=>⟨by decide,h⟩
  |some r=>
   cases hob:Q4 (E8 8) true r with
   |error er=>simp only[hob];exact id
   |ok x=>
    obtain⟨ms,r'⟩:=x;simp only[hob];by_cases g:Bd r'=[]
    ·simp only[Fa g];exact id
    ·simp only[D1 g];exact fun h=>⟨by decide,h⟩
 unfold RoP at FH;cases hq:Ao [123] (Bd (E1 t)) with
 |none=>
  rw[hq] at FH VC;subst FH
  go_wp2
  go_ret2
  exact⟨O7,VC _ _ ⟨_,rfl⟩⟩
 |some r=>
  rw[hq] at FH VC;simp only at FH VC;cases ho:Q4 (E8 8) true r with
  |error er=>
   rw[ho] at FH VC;obtain⟨he,rfl⟩:=FH;have hbe:(er != (0:Int))=true:=by simp[he]
   go_wp2
   go_ret2
   exact⟨O7,VC _ _ ⟨he,_,rfl⟩⟩
  |ok x=>
   obtain⟨ms,r'⟩:=x;rw[ho] at FH VC;obtain⟨rfl,rfl,hM4⟩:=FH;have Ajh:=Gt Vt ht hU4 h4
   go_wp2_with (go_at_call 50;refine Ajh.mono ?_)
   rintro e W5 ⟨rfl,h5,k5⟩
   have NS:Below w.heap.size w W5:=O7.trans ((Dk.of (mb:=w.heap.size+1) k5).toBelow (Nat.le_refl _) (by omega) O7.size)
   have hM5:=hM4.keep k5 (by omega)
   obtain⟨B2,hc0,Y6,hf0,hf1⟩:=h5;have Hl:=Bo Vt;have hl5:=Hl.len;cases hx:Bd r4 with
   |nil=>
    rw[hx] at Y6 VC;rw[Rd] at Y6
    go_wp2
    go_region_o
    go_wp2
    go_ret2
    exact⟨NS.drew,VC _ _ (by rw[Fa trivial];exact⟨_,rfl,hM5⟩)⟩
   |cons c q=>
    rw[hx] at Y6 VC hl5
    have A5z:(Bp t (c::q):Int)<t.size:=by
     unfold Bp;rw[UR] at hl5 ⊢;omega
    have A1x:¬(c::q=[]):=by simp
    go_wp2
    go_region_o
    go_wp2
    go_ret2
    exact⟨NS.drew,VC _ _ (by rw[D1 A1x];exact⟨_,rfl⟩)⟩
end
section
open Go.Proofs.Tryd (prog)
open Go.IntKind (wrap)
set_option maxRecDepth 1000000
open Go Go.RowKit Go.Lib
def M5:List Int:=[116,121,112,101]
def Tw:List Int:=[99,104,97,108,108,101,110,103,101]
def nmO:List Int:=[111,114,105,103,105,110]
def Ch (nm:List Int)(ms:List (List Int × JV)):JV:=(I3 nm ms).getD (0,[],false)
theorem Xa {w:World}{b:Nat}{ms:List (List Int × JV)} (h:Ya w b ms)(hB:∀m∈ms,Ds m.1){nm:List Int}(hn:Ds nm):(Instr.lookup 68 (.map (some b)) (.string (Ab nm)) false).run prog w=.ok (.agg #[.int .i64 (Ch nm ms).1,.string (Ab (Ch nm ms).2.1),.bool (Ch nm ms).2.2]) w:=by
 have:=Xl h hB hn false;rw[this];unfold GZ Ch;cases I3 nm ms<;>rfl
theorem al4 (w:World)(o0 x1 x2 x3:Obj):((((w.alloc o0).alloc x1).alloc x2).alloc x3).drew.heap[w.heap.size]?=some o0∧((((w.alloc o0).alloc x1).alloc x2).alloc x3).drew.heap[w.heap.size+1]?=some x1∧((((w.alloc o0).alloc x1).alloc x2).alloc x3).drew.heap[w.heap.size+1+1]?=some x2∧((((w.alloc o0).alloc x1).alloc x2).alloc x3).drew.heap[w.heap.size+1+1+1]?=some x3:=by
 show ((((w.heap.push o0).push x1).push x2).push x3)[w.heap.size]?=some o0∧((((w.heap.push o0).push x1).push x2).push x3)[w.heap.size+1]?=some x1∧((((w.heap.push o0).push x1).push x2).push x3)[w.heap.size+1+1]?=some x2∧((((w.heap.push o0).push x1).push x2).push x3)[w.heap.size+1+1+1]?=some x3;refine⟨?_,?_,?_,?_⟩
 ·rw[Array.getElem?_push_lt (by simp;omega),Array.getElem_push_lt (by simp;omega),Array.getElem_push_lt (by simp),Array.getElem_push_eq]
 ·have:w.heap.size+1=(w.heap.push o0).size:=by simp
  rw[Array.getElem?_push_lt (by simp),Array.getElem_push_lt (by simp)]
  simp only[this,Array.getElem_push_eq]
 ·have:w.heap.size+1+1=((w.heap.push o0).push x1).size:=by simp
  rw[Array.getElem?_push_lt (by simp)]
  simp only[this,Array.getElem_push_eq]
 ·have:w.heap.size+1+1+1=(((w.heap.push o0).push x1).push x2).size:=by simp
  rw[this];exact Array.getElem?_push_size
theorem al2 (w:World)(x1 x2:Obj):((w.alloc x1).alloc x2).drew.heap[w.heap.size]?=some x1∧((w.alloc x1).alloc x2).drew.heap[w.heap.size+1]?=some x2:=by
 show ((w.heap.push x1).push x2)[w.heap.size]?=some x1∧((w.heap.push x1).push x2)[w.heap.size+1]?=some x2;refine⟨?_,?_⟩
 ·simp[Array.getElem?_push]
 ·have:w.heap.size+1=(w.heap.push x1).size:=by simp
  rw[this];exact Array.getElem?_push_size
def nmX:List Int:=[99,114,111,115,115,79,114,105,103,105,110]
def nmP:List Int:=[116,111,112,79,114,105,103,105,110]
def TX (v:JV):Obj:=.cells #[.int .i64 v.1,.string (Ab v.2.1),.bool v.2.2] 95
def cd0:Obj:=.cells #[.int .i64 0,.slice none 0 0,.string ⟨#[]⟩,.bool false,.string ⟨#[]⟩] 36
def tyC:List Int:=[112,97,115,115,107,101,121,46,99,114,101,97,116,101]
def tyG:List Int:=[112,97,115,115,107,101,121,46,103,101,116]
abbrev CD:=Int × List Int × List Int × Bool × List Int
def U5 (k:Int)(C O X P:JV):JR CD:=
 match Ha C.2.1 with
 |none=>.error 2
 |some b=>if b.length<1∨64<b.length then .error 9 else if Fy O.2.1≠0 then .error (Fy O.2.1) else if X.2.2=true∧Fy P.2.1≠0 then .error (Fy P.2.1) else .ok (k,b,O.2.1,X.2.2,P.2.1)
def Hc (T C O X P:JV):JR CD:=
 if T.1≠4∨C.1≠4∨O.1≠4 then .error 4
 else if X.1≠0∧X.1≠2 then .error 4
 else if (X.2.2=true∧P.1≠4)∨(X.2.2=false∧P.1≠0) then .error 4
 else if T.2.1=tyC then U5 1 C O X P else if T.2.1=tyG then U5 2 C O X P else .error 3
def Q5 (w:World)(a:Addr)(b:List Int):Prop:=a.spot=none∧a.block<w.heap.size∧∀j x,b[j]?=some x->w.cell? (a.add j)=some (.int .u8 x)
def ItP (w w':World)(r:JR CD)(e:Ending):Prop:=
 match r with
 |.ok (k,b,o,x,p)=>∃ad cap,e=.returned (.tuple #[.agg #[.int .i64 k,.slice (some ad) b.length cap,.string (Ab o),.bool x,.string (Ab p)],.int .i64 0])∧b.length<=cap∧w.heap.size<=ad.block∧Q5 w' ad b
 |.error er=>er≠0∧e=.returned (.tuple #[.agg #[.int .i64 0,.slice none 0 0,.string ⟨#[]⟩,.bool false,.string ⟨#[]⟩],.int .i64 er])
def DbP (w w':World)(s:List Int)(e:Ending):Prop:=
 match Ha s with
 |none=>∃ad cap,e=.returned (.tuple #[.slice ad 0 cap,.int .i64 2])
 |some b=>∃ad cap,e=.returned (.tuple #[.slice ad b.length cap,.int .i64 0])∧(b≠[]->∃a,ad=some a∧b.length<=cap∧w.heap.size<=a.block∧Q5 w' a b)
theorem Ww {w:World}{b:Nat}{v:JV}(h:w.heap[b]?=some (TX v)):w.cell? ⟨b,0,none⟩=some (.int .i64 v.1)∧w.cell? ⟨b,1,none⟩=some (.string (Ab v.2.1))∧w.cell? ⟨b,2,none⟩=some (.bool v.2.2):=by
 refine⟨?_,?_,?_⟩<;>(unfold World.cell?;simp only[h];rfl)
theorem UQ {w:World}{b:Nat}(h:w.heap[b]?=some cd0):(w.cell? ⟨b,0,none⟩=some (.int .i64 0)∧w.cell? ⟨b,1,none⟩=some (.slice none 0 0)∧w.cell? ⟨b,2,none⟩=some (.string ⟨#[]⟩)∧w.cell? ⟨b,3,none⟩=some (.bool false)∧w.cell? ⟨b,4,none⟩=some (.string ⟨#[]⟩))∧w.frozen? ⟨b,0,none⟩=false∧w.frozen? ⟨b,1,none⟩=false∧w.frozen? ⟨b,2,none⟩=false∧w.frozen? ⟨b,3,none⟩=false∧w.frozen? ⟨b,4,none⟩=false:=by
 refine⟨⟨?_,?_,?_,?_,?_⟩,?_,?_,?_,?_,?_⟩<;>first|(unfold World.cell?;simp only[h];rfl)|(unfold World.frozen?;simp only[h];rfl)
theorem TM (s:ByteArray):s.toList=s.data.toList:=by
 have h:∀(n i:Nat) (r:List UInt8),n=s.size-i->ByteArray.toList.loop s i r=r.reverse++s.data.toList.drop i:=by
  intro n
  induction n with
  |zero=>
   intro i r hn;unfold ByteArray.toList.loop;rw[D1 (by omega),List.drop_eq_nil_of_le (by rw[←Lib.size_eq];omega),List.append_nil]
  |succ n ih=>
   intro i r hn;have hi:i<s.size:=by omega
   unfold ByteArray.toList.loop;rw[Fa hi,ih (i+1) _ (by omega),List.reverse_cons,List.append_assoc]
   congr 1
   have hl:i<s.data.toList.length:=by rw[←Lib.size_eq];exact hi
   rw[List.drop_eq_getElem_cons hl]
   have e:s.get! i=s.data.toList[i]:=by
    show (s.data[i]!)=_;rw[getElem!_pos s.data i hi];rfl
   rw[e];rfl
 have:=h _ 0 [] rfl;exact this
theorem Xx {a b:List Int}(ha:Ds a)(hb:Ds b):((Ab a).toList==b.map fun n=>n.toNat.toUInt8)=decide (a=b):=by
 rw[TM,Bool.eq_iff_iff,beq_iff_eq,decide_eq_true_iff];constructor
 ·intro h;have e:Ab a=Ab b:=congrArg (fun l:List UInt8=>(⟨l.toArray⟩:ByteArray)) (show (Ab a).data.toList=(Ab b).data.toList from h)
  exact Uq ha hb e
 ·rintro rfl;rfl
def Az6 (w:World)(vT vC vO:JV)(s4 s5 s6:Value)(wx:World):Prop:=
 ∃bT bC bO,s4=.pointer (some ⟨bT,0,none⟩)∧s5=.pointer (some ⟨bC,0,none⟩)∧s6=.pointer (some ⟨bO,0,none⟩)∧w.heap.size<bT∧w.heap.size<bC∧w.heap.size<bO∧wx.heap[w.heap.size]?=some cd0∧wx.heap[bT]?=some (TX vT)∧wx.heap[bC]?=some (TX vC)∧wx.heap[bO]?=some (TX vO)∧Below w.heap.size w wx
def Aze (w wc:World)(vX vP:JV)(s7 s8:Value)(wx:World):Prop:=
 ∃bX bP,s7=.pointer (some ⟨bX,0,none⟩)∧s8=.pointer (some ⟨bP,0,none⟩)∧wc.heap.size<=bX∧wc.heap.size<=bP∧wx.heap[bX]?=some (TX vX)∧wx.heap[bP]?=some (TX vP)∧Below wc.heap.size wc wx
theorem YH {w:World}{b:Nat}{x0 x1 x2 x3 x4:Value}(h:w.heap[b]?=some (.cells #[x0,x1,x2,x3,x4] 36)):(w.cell? ⟨b,0,none⟩=some x0∧w.cell? ⟨b,1,none⟩=some x1∧w.cell? ⟨b,2,none⟩=some x2∧w.cell? ⟨b,3,none⟩=some x3∧w.cell? ⟨b,4,none⟩=some x4)∧w.frozen? ⟨b,0,none⟩=false∧w.frozen? ⟨b,1,none⟩=false∧w.frozen? ⟨b,2,none⟩=false∧w.frozen? ⟨b,3,none⟩=false∧w.frozen? ⟨b,4,none⟩=false:=by
 refine⟨⟨?_,?_,?_,?_,?_⟩,?_,?_,?_,?_,?_⟩<;>first|(unfold World.cell?;simp only[h];rfl)|(unfold World.frozen?;simp only[h];rfl)
theorem DS {w:World}{b:Nat}{x0 x1 x2 x3 x4:Value}(h0:w.cell? ⟨b,0,none⟩=some x0)(h1:w.cell? ⟨b,1,none⟩=some x1)(h2:w.cell? ⟨b,2,none⟩=some x2)(h3:w.cell? ⟨b,3,none⟩=some x3)(h4:w.cell? ⟨b,4,none⟩=some x4):(loadVar 36 ⟨b,0,none⟩).run prog w=.ok (.agg #[x0,x1,x2,x3,x4]) w:=by
 have hf:∀j,j<5->w.cell? ((⟨b,0,none⟩:Addr).add j)=some (([x0,x1,x2,x3,x4][j]?).getD undef):=by
  intro j hj;rw[Dy,Nat.zero_add]
  match j,hj with
  |0,_=>exact h0
  |1,_=>exact h1
  |2,_=>exact h2
  |3,_=>exact h3
  |4,_=>exact h4
 simp only[loadVar,Sem.run_bind,Tryd.isAgg36,Result.andThen_ok,if_true,Tryd.sizeOf36,run_loadCells w _ 5 _ hf];rfl
theorem D5 {w:World}{b i j:Nat}{v:Value}(h:i≠j):(w.setCell ⟨b,j,none⟩ v).cell? ⟨b,i,none⟩=w.cell? ⟨b,i,none⟩:=World.cell?_setCell_other _ _ _ _ (fun e=>h (by injection e with _ e2;exact e2.symm))
theorem Tz (w:World)(b:Nat)(x0 x1 x2 x3 x4:Value)(h:(w.cell? ⟨b,0,none⟩).isSome=true∧(w.cell? ⟨b,1,none⟩).isSome=true∧(w.cell? ⟨b,2,none⟩).isSome=true∧(w.cell? ⟨b,3,none⟩).isSome=true∧(w.cell? ⟨b,4,none⟩).isSome=true):(loadVar 36 ⟨b,0,none⟩).run prog (((((w.setCell ⟨b,0,none⟩ x0).setCell ⟨b,1,none⟩ x1).setCell ⟨b,2,none⟩ x2).setCell ⟨b,3,none⟩ x3).setCell ⟨b,4,none⟩ x4)=.ok (.agg #[x0,x1,x2,x3,x4]) (((((w.setCell ⟨b,0,none⟩ x0).setCell ⟨b,1,none⟩ x1).setCell ⟨b,2,none⟩ x2).setCell ⟨b,3,none⟩ x3).setCell ⟨b,4,none⟩ x4):=by
 obtain⟨g0,g1,g2,g3,g4⟩:=h;obtain⟨y0,g0⟩:=Option.isSome_iff_exists.1 g0;obtain⟨y1,g1⟩:=Option.isSome_iff_exists.1 g1;obtain⟨y2,g2⟩:=Option.isSome_iff_exists.1 g2;obtain⟨y3,g3⟩:=Option.isSome_iff_exists.1 g3;obtain⟨y4,g4⟩:=Option.isSome_iff_exists.1 g4;apply DS
 ·rw[D5 (by decide),D5 (by decide),D5 (by decide),D5 (by decide)]
  exact World.cell?_setCell_same _ _ _ g0
 ·rw[D5 (by decide),D5 (by decide),D5 (by decide)]
  exact World.cell?_setCell_same _ _ _ ((D5 (by decide)).trans g1)
 ·rw[D5 (by decide),D5 (by decide)]
  exact World.cell?_setCell_same _ _ _ ((D5 (by decide)).trans ((D5 (by decide)).trans g2))
 ·rw[D5 (by decide)]
  exact World.cell?_setCell_same _ _ _ ((D5 (by decide)).trans ((D5 (by decide)).trans ((D5 (by decide)).trans g3)))
 ·exact World.cell?_setCell_same _ _ _ ((D5 (by decide)).trans ((D5 (by decide)).trans ((D5 (by decide)).trans ((D5 (by decide)).trans g4))))
theorem Hj {B:Nat}{a w:World}(h:Below B a w){b:Nat}(hb:B<=b)(x0 x1 x2 x3 x4:Value):Below B a (((((w.setCell ⟨b,0,none⟩ x0).setCell ⟨b,1,none⟩ x1).setCell ⟨b,2,none⟩ x2).setCell ⟨b,3,none⟩ x3).setCell ⟨b,4,none⟩ x4):=
 ((((h.setCell (p:=⟨b,0,none⟩) hb x0).setCell (p:=⟨b,1,none⟩) hb x1).setCell (p:=⟨b,2,none⟩) hb x2).setCell (p:=⟨b,3,none⟩) hb x3).setCell (p:=⟨b,4,none⟩) hb x4
theorem G1 {R:Ending->World->Prop}{a:Act}{W:World}{v:Value}{b:Nat}(h2:a.tmps.getD 2 undef=.pointer (some ⟨b,0,none⟩)) (hd:a.defers=[]) (hl:(loadVar 36 ⟨b,0,none⟩).run prog W=.ok v W) (hR:R (.returned (.tuple #[v,a.tmps.getD 3 undef])) W):bodyPost prog Tryd.f35 R .ret a W:=by
 refine bodyPost_ret ?_ hd hR;rw[results_cell_tmp rfl,h2];have e:(asAddr (.pointer (some ⟨b,0,none⟩))).run prog W=.ok ⟨b,0,none⟩ W:=rfl;rw[e,Result.andThen_ok,hl,Result.andThen_ok]
theorem Q5.below {w w':World}{a:Addr}{b:List Int}{B:Nat}(h:Q5 w a b)(k:Below B w w')(ha:a.block<B):Q5 w' a b:=
 ⟨h.1,Nat.lt_of_lt_of_le h.2.1 k.size,fun j x hx=>(k.cell (p:=a.add j) (by rw[D6];exact ha)).trans (h.2.2 j x hx)⟩
theorem Q5.set {w:World}{a:Addr}{b:List Int}{b0 j:Nat}{v:Value}(h:Q5 w a b)(D8:a.block≠b0):Q5 (w.setCell ⟨b0,j,none⟩ v) a b:=
 ⟨h.1,by rw[World.size_setCell];exact h.2.1,fun i x hx=>(World.cell?_setCell_other _ _ _ _ (fun e=>D8 (by rw[←D6 a i,←e]))).trans (h.2.2 i x hx)⟩
theorem Q5.set5 {w:World}{a:Addr}{b:List Int}{b0:Nat}{x0 x1 x2 x3 x4:Value}(h:Q5 w a b)(D8:a.block≠b0):Q5 (((((w.setCell ⟨b0,0,none⟩ x0).setCell ⟨b0,1,none⟩ x1).setCell ⟨b0,2,none⟩ x2).setCell ⟨b0,3,none⟩ x3).setCell ⟨b0,4,none⟩ x4) a b:=
 ((((h.set D8).set D8).set D8).set D8).set D8
def RC (w:World)(b:Nat):Prop:=(w.cell? ⟨b,0,none⟩=some (.int .i64 0)∧w.cell? ⟨b,1,none⟩=some (.slice none 0 0)∧w.cell? ⟨b,2,none⟩=some (.string ⟨#[]⟩)∧w.cell? ⟨b,3,none⟩=some (.bool false)∧w.cell? ⟨b,4,none⟩=some (.string ⟨#[]⟩))∧w.frozen? ⟨b,0,none⟩=false∧w.frozen? ⟨b,1,none⟩=false∧w.frozen? ⟨b,2,none⟩=false∧w.frozen? ⟨b,3,none⟩=false∧w.frozen? ⟨b,4,none⟩=false
theorem RC.below {w w':World}{b B:Nat}(h:RC w b)(k:Below B w w')(hb:b<B):RC w' b:=by
 have e:∀j,w'.cell? ⟨b,j,none⟩=w.cell? ⟨b,j,none⟩:=fun j=>k.cell (p:=⟨b,j,none⟩) hb
 have f:∀j,w'.frozen? ⟨b,j,none⟩=w.frozen? ⟨b,j,none⟩:=fun j=>k.frozen (p:=⟨b,j,none⟩) hb
 unfold RC;rw[e,e,e,e,e,f,f,f,f,f];exact h
theorem RC.some {w:World}{b:Nat}(h:RC w b):(w.cell? ⟨b,0,none⟩).isSome=true∧(w.cell? ⟨b,1,none⟩).isSome=true∧(w.cell? ⟨b,2,none⟩).isSome=true∧(w.cell? ⟨b,3,none⟩).isSome=true∧(w.cell? ⟨b,4,none⟩).isSome=true:=by
 obtain⟨⟨h0,h1,h2,h3,h4⟩,_⟩:=h;rw[h0,h1,h2,h3,h4];exact⟨rfl,rfl,rfl,rfl,rfl⟩
theorem Aec {w:World}{b:Nat}{v:Value}{x:Obj}(hb:b<w.heap.size)(h:∃x0 x1 x2 x3 x4,v=.agg #[x0,x1,x2,x3,x4]∧w.cell? ⟨b,0,none⟩=some x0∧w.cell? ⟨b,1,none⟩=some x1∧w.cell? ⟨b,2,none⟩=some x2∧w.cell? ⟨b,3,none⟩=some x3∧w.cell? ⟨b,4,none⟩=some x4):(loadVar 36 ⟨b,0,none⟩).run prog (w.alloc x)=.ok v (w.alloc x):=by
 obtain⟨x0,x1,x2,x3,x4,rfl,h0,h1,h2,h3,h4⟩:=h;have k:Below w.heap.size w (w.alloc x):=(Below.refl _ w).alloc (Nat.le_refl _) _;exact DS ((k.cell (p:=⟨b,0,none⟩) hb).trans h0) ((k.cell (p:=⟨b,1,none⟩) hb).trans h1) ((k.cell (p:=⟨b,2,none⟩) hb).trans h2) ((k.cell (p:=⟨b,3,none⟩) hb).trans h3) ((k.cell (p:=⟨b,4,none⟩) hb).trans h4)
theorem J3 (w:World)(b:Nat)(hb:b<w.heap.size)(x0 x1 x2 x3 x4:Value)(x:Obj)(h:RC w b):(loadVar 36 ⟨b,0,none⟩).run prog ((((((w.setCell ⟨b,0,none⟩ x0).setCell ⟨b,1,none⟩ x1).setCell ⟨b,2,none⟩ x2).setCell ⟨b,3,none⟩ x3).setCell ⟨b,4,none⟩ x4).alloc x)=.ok (.agg #[x0,x1,x2,x3,x4]) ((((((w.setCell ⟨b,0,none⟩ x0).setCell ⟨b,1,none⟩ x1).setCell ⟨b,2,none⟩ x2).setCell ⟨b,3,none⟩ x3).setCell ⟨b,4,none⟩ x4).alloc x):=by
 refine Aec (by simp only[World.size_setCell];exact hb) ⟨x0,x1,x2,x3,x4,rfl,?_⟩
 obtain⟨⟨g0,g1,g2,g3,g4⟩,_⟩:=h;refine⟨?_,?_,?_,?_,?_⟩
 ·rw[D5 (by decide),D5 (by decide),D5 (by decide),D5 (by decide)]
  exact World.cell?_setCell_same _ _ _ g0
 ·rw[D5 (by decide),D5 (by decide),D5 (by decide)]
  exact World.cell?_setCell_same _ _ _ ((D5 (by decide)).trans g1)
 ·rw[D5 (by decide),D5 (by decide)]
  exact World.cell?_setCell_same _ _ _ ((D5 (by decide)).trans ((D5 (by decide)).trans g2))
 ·rw[D5 (by decide)]
  exact World.cell?_setCell_same _ _ _ ((D5 (by decide)).trans ((D5 (by decide)).trans ((D5 (by decide)).trans g3)))
 ·exact World.cell?_setCell_same _ _ _ ((D5 (by decide)).trans ((D5 (by decide)).trans ((D5 (by decide)).trans ((D5 (by decide)).trans g4))))
theorem Fx {B:Nat}{a w:World}(h:Below B a w){b:Nat}(hb:B<=b)(hB:B<=w.heap.size)(x0 x1 x2 x3 x4:Value)(x:Obj):Below B a ((((((w.setCell ⟨b,0,none⟩ x0).setCell ⟨b,1,none⟩ x1).setCell ⟨b,2,none⟩ x2).setCell ⟨b,3,none⟩ x3).setCell ⟨b,4,none⟩ x4).alloc x):=
 have k:=Hj h hb x0 x1 x2 x3 x4
 k.alloc (by simp only[World.size_setCell];exact hB) _
theorem Q5.set5al {w:World}{a:Addr}{b:List Int}{b0:Nat}{x0 x1 x2 x3 x4:Value}{x:Obj}(h:Q5 w a b)(D8:a.block≠b0):Q5 ((((((w.setCell ⟨b0,0,none⟩ x0).setCell ⟨b0,1,none⟩ x1).setCell ⟨b0,2,none⟩ x2).setCell ⟨b0,3,none⟩ x3).setCell ⟨b0,4,none⟩ x4).alloc x) a b:=
 have q:=h.set5 (x0:=x0) (x1:=x1) (x2:=x2) (x3:=x3) (x4:=x4) D8
 q.below ((Below.refl _ _).alloc (Nat.le_refl _) _) q.2.1
theorem al1 (w:World)(x:Obj):(w.alloc x).heap[w.heap.size]?=some x:=Array.getElem?_push_size
def okW (w:World):Prop:=gU.ok w∧∀k,gU.bl k->k<w.heap.size
theorem okW.below {w w':World}(h:okW w)(k:Below w.heap.size w w'):okW w':=⟨gU.stable w w' (fun j hj hl=>k.block j hl) h.1,fun j hj=>Nat.lt_of_lt_of_le (h.2 j hj) k.size⟩
set_option maxHeartbeats 8000000 in
theorem Adv (Anq:∀(W:World)(s:List Int),okW W->Ds s->s.length<=1000000->Calls prog 15 #[.string (Ab s)] W fun e w'=>Below W.heap.size W w'∧DbP W w' s e)
  (Aa1:∀(W:World)(s:List Int),okW W->Ds s->s.length<=1000000->Calls prog 32 #[.string (Ab s)] W fun e w'=>Below W.heap.size W w'∧∃o1 o2 o3,e=.returned (.tuple #[.agg #[.bool o1,.string o2,.int .i64 o3],.int .i64 (Fy s)]))
  {ms:List (List Int × JV)} (hB:∀m∈ms,Ds m.1) (hB2:∀m∈ms,Ds m.2.2.1∧m.2.2.1.length<=1000000) {mb:Nat} {w:World} (hU:okW w) (hM:Ya w mb ms):
  Calls prog 35 #[.map (some mb)] w fun e w'=>Below w.heap.size w w'∧ItP w w' (Hc (Ch M5 ms) (Ch Tw ms) (Ch nmO ms) (Ch nmX ms) (Ch nmP ms)) e:=by
 have hgB:∀nm,Ds (Ch nm ms).2.1∧(Ch nm ms).2.1.length<=1000000:=by
  intro nm;unfold Ch I3;cases hq:ms.find? fun m=>m.1==nm with
  |none=>exact⟨(fun x hx=>nomatch hx),Nat.zero_le _⟩
  |some m=>exact hB2 m (List.mem_of_find?_eq_some hq)
 obtain⟨hTB,hTL⟩:=hgB M5;obtain⟨hCB,hCL⟩:=hgB Tw;obtain⟨hOB,hOL⟩:=hgB nmO;obtain⟨hXB,hXL⟩:=hgB nmX;obtain⟨hPB,hPL⟩:=hgB nmP;clear hgB;have mixed:prog.follows Departure.mixedOrders=true:=by kernel_rfl
 have key:∀{W:World},Ya W mb ms->(Instr.lookup 68 (.map (some mb)) (.string ⟨#[116,121,112,101]⟩) false).run prog W=.ok (.agg #[.int .i64 (Ch M5 ms).1,.string (Ab (Ch M5 ms).2.1),.bool (Ch M5 ms).2.2]) W∧(Instr.lookup 68 (.map (some mb)) (.string ⟨#[99,104,97,108,108,101,110,103,101]⟩) false).run prog W=.ok (.agg #[.int .i64 (Ch Tw ms).1,.string (Ab (Ch Tw ms).2.1),.bool (Ch Tw ms).2.2]) W∧(Instr.lookup 68 (.map (some mb)) (.string ⟨#[111,114,105,103,105,110]⟩) false).run prog W=.ok (.agg #[.int .i64 (Ch nmO ms).1,.string (Ab (Ch nmO ms).2.1),.bool (Ch nmO ms).2.2]) W:=
  fun h=>⟨Xa h hB (nm:=M5) (fun x hx=>by simp[M5] at hx;omega),Xa h hB (nm:=Tw) (fun x hx=>by simp[Tw] at hx;omega),Xa h hB (nm:=nmO) (fun x hx=>by simp[nmO] at hx;omega)⟩
 have key2:∀{W:World},Ya W mb ms->(Instr.lookup 68 (.map (some mb)) (.string ⟨#[99,114,111,115,115,79,114,105,103,105,110]⟩) false).run prog W=.ok (.agg #[.int .i64 (Ch nmX ms).1,.string (Ab (Ch nmX ms).2.1),.bool (Ch nmX ms).2.2]) W∧(Instr.lookup 68 (.map (some mb)) (.string ⟨#[116,111,112,79,114,105,103,105,110]⟩) false).run prog W=.ok (.agg #[.int .i64 (Ch nmP ms).1,.string (Ab (Ch nmP ms).2.1),.bool (Ch nmP ms).2.2]) W:=
  fun h=>⟨Xa h hB (nm:=nmX) (fun x hx=>by simp[nmX] at hx;omega),Xa h hB (nm:=nmP) (fun x hx=>by simp[nmP] at hx;omega)⟩
 have b0:Below w.heap.size w (w.alloc (.cells #[.int .i64 0,.slice none 0 0,.string ⟨#[]⟩,.bool false,.string ⟨#[]⟩] 36)):=(Below.refl _ w).alloc (Nat.le_refl _) _;have b1:=b0.alloc b0.size (.cells #[.int .i64 0,.string ⟨#[]⟩,.bool false] 95);have b2:=b1.alloc b1.size (.cells #[.int .i64 0,.string ⟨#[]⟩,.bool false] 95);have b3:=b2.alloc b2.size (.cells #[.int .i64 0,.string ⟨#[]⟩,.bool false] 95);obtain⟨k0,k1,k2⟩:=key (hM.below b0.drew);obtain⟨l0,l1,l2⟩:=key (hM.below b1.drew);obtain⟨m0,m1,m2⟩:=key (hM.below b2.drew);obtain⟨n0,n1,n2⟩:=key (hM.below b3.drew)
 have bb:∀x1 x2 x3,Below w.heap.size w ((((w.alloc (.cells #[.int .i64 0,.slice none 0 0,.string ⟨#[]⟩,.bool false,.string ⟨#[]⟩] 36)).alloc x1).alloc x2).alloc x3).drew:=fun x1 x2 x3=>by
  have c1:=b0.alloc b0.size x1;have c2:=c1.alloc c1.size x2;exact (c2.alloc c2.size x3).drew
 obtain⟨_,p1,q1⟩:=key (hM.below (bb (.cells #[.int .i64 (Ch M5 ms).1,.string (Ab (Ch M5 ms).2.1),.bool (Ch M5 ms).2.2] 95) (.cells #[.int .i64 0,.string ⟨#[]⟩,.bool false] 95) (.cells #[.int .i64 0,.string ⟨#[]⟩,.bool false] 95)));obtain⟨_,p2,q2⟩:=key (hM.below (bb (.cells #[.int .i64 0,.string ⟨#[]⟩,.bool false] 95) (.cells #[.int .i64 (Ch M5 ms).1,.string (Ab (Ch M5 ms).2.1),.bool (Ch M5 ms).2.2] 95) (.cells #[.int .i64 0,.string ⟨#[]⟩,.bool false] 95)));obtain⟨_,p3,q3⟩:=key (hM.below (bb (.cells #[.int .i64 0,.string ⟨#[]⟩,.bool false] 95) (.cells #[.int .i64 0,.string ⟨#[]⟩,.bool false] 95) (.cells #[.int .i64 (Ch M5 ms).1,.string (Ab (Ch M5 ms).2.1),.bool (Ch M5 ms).2.2] 95)))
 obtain⟨_,_,q4⟩:=key (hM.below (bb (.cells #[.int .i64 (Ch M5 ms).1,.string (Ab (Ch M5 ms).2.1),.bool (Ch M5 ms).2.2] 95) (.cells #[.int .i64 (Ch Tw ms).1,.string (Ab (Ch Tw ms).2.1),.bool (Ch Tw ms).2.2] 95) (.cells #[.int .i64 0,.string ⟨#[]⟩,.bool false] 95)));obtain⟨_,_,q5⟩:=key (hM.below (bb (.cells #[.int .i64 (Ch M5 ms).1,.string (Ab (Ch M5 ms).2.1),.bool (Ch M5 ms).2.2] 95) (.cells #[.int .i64 0,.string ⟨#[]⟩,.bool false] 95) (.cells #[.int .i64 (Ch Tw ms).1,.string (Ab (Ch Tw ms).2.1),.bool (Ch Tw ms).2.2] 95)));obtain⟨_,_,q6⟩:=key (hM.below (bb (.cells #[.int .i64 (Ch Tw ms).1,.string (Ab (Ch Tw ms).2.1),.bool (Ch Tw ms).2.2] 95) (.cells #[.int .i64 (Ch M5 ms).1,.string (Ab (Ch M5 ms).2.1),.bool (Ch M5 ms).2.2] 95) (.cells #[.int .i64 0,.string ⟨#[]⟩,.bool false] 95)))
 obtain⟨_,_,q7⟩:=key (hM.below (bb (.cells #[.int .i64 (Ch Tw ms).1,.string (Ab (Ch Tw ms).2.1),.bool (Ch Tw ms).2.2] 95) (.cells #[.int .i64 0,.string ⟨#[]⟩,.bool false] 95) (.cells #[.int .i64 (Ch M5 ms).1,.string (Ab (Ch M5 ms).2.1),.bool (Ch M5 ms).2.2] 95)));obtain⟨_,_,q8⟩:=key (hM.below (bb (.cells #[.int .i64 0,.string ⟨#[]⟩,.bool false] 95) (.cells #[.int .i64 (Ch M5 ms).1,.string (Ab (Ch M5 ms).2.1),.bool (Ch M5 ms).2.2] 95) (.cells #[.int .i64 (Ch Tw ms).1,.string (Ab (Ch Tw ms).2.1),.bool (Ch Tw ms).2.2] 95)));obtain⟨_,_,q9⟩:=key (hM.below (bb (.cells #[.int .i64 0,.string ⟨#[]⟩,.bool false] 95) (.cells #[.int .i64 (Ch Tw ms).1,.string (Ab (Ch Tw ms).2.1),.bool (Ch Tw ms).2.2] 95) (.cells #[.int .i64 (Ch M5 ms).1,.string (Ab (Ch M5 ms).2.1),.bool (Ch M5 ms).2.2] 95)))
 have hbb:∀x1 x2 x3,Below w.heap.size w ((((w.alloc cd0).alloc x1).alloc x2).alloc x3).drew:=bb;clear key bb;generalize Ch M5 ms=vT at *
 generalize Ch Tw ms=vC at *
 generalize Ch nmO ms=vO at *
 generalize Ch nmX ms=vX at *
 generalize Ch nmP ms=vP at *
 go_enter Tryd.func35,Tryd.ntmps35
 go_upto_region 1 with fail
 go_cut [4,5,6] (fun s4 s5 s6 wx=>Az6 w vT vC vO s4 s5 s6 wx)
 case first=>
  go_region_o
  all_goals (go_wp2_with fail;go_meet;(refine⟨_,_,_,rfl,rfl,rfl,by omega,by omega,by omega,?_,?_,?_,?_,hbb _ _ _⟩<;>first|exact (al4 _ _ _ _ _).1|exact (al4 _ _ _ _ _).2.1|exact (al4 _ _ _ _ _).2.2.1|exact (al4 _ _ _ _ _).2.2.2))
 case rest=>
  rename World=>w2
  obtain⟨bT,bC,bO,rfl,rfl,rfl,hbT,hbC,hbO,hc,hT,hC,hO,hbw⟩:=hcut;clear k0 k1 k2 l0 l1 l2 m0 m1 m2 n0 n1 n2 p1 p2 p3 q1 q2 q3 q4 q5 q6 q7 q8 q9;have hMc:=hM.below hbw;have d1:Below w2.heap.size w2 (w2.alloc (.cells #[.int .i64 0,.string ⟨#[]⟩,.bool false] 95)):=(Below.refl _ w2).alloc (Nat.le_refl _) _;have d2:=d1.alloc d1.size (.cells #[.int .i64 0,.string ⟨#[]⟩,.bool false] 95)
  have dd:∀x1 x2,Below w2.heap.size w2 ((w2.alloc x1).alloc x2).drew:=fun x1 x2=>by
   have c1:Below w2.heap.size w2 (w2.alloc x1):=(Below.refl _ w2).alloc (Nat.le_refl _) _;exact (c1.alloc c1.size x2).drew
  obtain⟨k0,k1⟩:=key2 (hMc.below (Below.refl w2.heap.size w2).drew);obtain⟨l0,l1⟩:=key2 (hMc.below d1.drew);obtain⟨m0,m1⟩:=key2 (hMc.below d2.drew);obtain⟨_,p1⟩:=key2 (hMc.below (dd (.cells #[.int .i64 vX.1,.string (Ab vX.2.1),.bool vX.2.2] 95) (.cells #[.int .i64 0,.string ⟨#[]⟩,.bool false] 95)));obtain⟨_,p2⟩:=key2 (hMc.below (dd (.cells #[.int .i64 0,.string ⟨#[]⟩,.bool false] 95) (.cells #[.int .i64 vX.1,.string (Ab vX.2.1),.bool vX.2.2] 95)));clear key2
  go_upto_region 2 with fail
  go_cut [7,8] (fun s7 s8 wx=>Aze w w2 vX vP s7 s8 wx)
  case first=>
   go_region_o
   all_goals (go_wp2_with fail;go_meet;(refine⟨_,_,rfl,rfl,by omega,by omega,?_,?_,dd _ _⟩<;>first|exact (al2 _ _ _).1|exact (al2 _ _ _).2))
  case rest=>
   clear k0 k1 l0 l1 m0 m1 p1 p2;obtain⟨bX,bP,rfl,rfl,hbX,hbP,hX,hP,FS⟩:=hcut
   rename World=>wd
   have hwc:w.heap.size<w2.heap.size:=by
    rcases Nat.lt_or_ge w.heap.size w2.heap.size with q|q
    ·exact q
    ·rw[Array.getElem?_eq_none q] at hc;cases hc
   have B2:∀{b:Nat} {o:Obj},w2.heap[b]?=some o->b<w2.heap.size:=fun {b o} h=>by
    rcases Nat.lt_or_ge b w2.heap.size with q|q
    ·exact q
    ·rw[Array.getElem?_eq_none q] at h;cases h
   obtain⟨⟨c0,c1,c2,c3,c4⟩,f0,f1,f2,f3,f4⟩:=UQ ((FS.block _ (B2 hc)).trans hc);have hrc:RC wd w.heap.size:=⟨⟨c0,c1,c2,c3,c4⟩,f0,f1,f2,f3,f4⟩;have UN:=hrc.some;obtain⟨T0,T1,T2⟩:=Ww ((FS.block _ (B2 hT)).trans hT);obtain⟨C0,C1,C2⟩:=Ww ((FS.block _ (B2 hC)).trans hC);obtain⟨O0,O1,O2⟩:=Ww ((FS.block _ (B2 hO)).trans hO);obtain⟨X0,X1,X2⟩:=Ww hX;obtain⟨P0,P1,P2⟩:=Ww hP;have YN:Below w.heap.size w wd:=hbw.trans ((FS).mono hbw.size);by_cases hT4:vT.1=4
   rotate_left
   ·have hq:(vT.1 != 4)=true:=by simp[hT4]
    have hI:Hc vT vC vO vX vP=.error 4:=by unfold Hc;rw[Fa (.inl hT4)]
    go_wp2
    (try simp only[Exit.inBlock,Exit.then])
    exact G1 (b:=w.heap.size) rfl rfl (Tz wd w.heap.size _ _ _ _ _ UN) ⟨Hj YN (Nat.le_refl _) _ _ _ _ _,by rw[hI];exact⟨by decide,rfl⟩⟩
   by_cases hC4:vC.1=4
   rotate_left
   ·have hq:(vC.1 != 4)=true:=by simp[hC4]
    have hI:Hc vT vC vO vX vP=.error 4:=by unfold Hc;rw[Fa (.inr (.inl hC4))]
    go_wp2
    (try simp only[Exit.inBlock,Exit.then])
    exact G1 (b:=w.heap.size) rfl rfl (Tz wd w.heap.size _ _ _ _ _ UN) ⟨Hj YN (Nat.le_refl _) _ _ _ _ _,by rw[hI];exact⟨by decide,rfl⟩⟩
   by_cases hO4:vO.1=4
   rotate_left
   ·have hq:(vO.1 != 4)=true:=by simp[hO4]
    have hI:Hc vT vC vO vX vP=.error 4:=by unfold Hc;rw[Fa (.inr (.inr hO4))]
    go_wp2
    (try simp only[Exit.inBlock,Exit.then])
    exact G1 (b:=w.heap.size) rfl rfl (Tz wd w.heap.size _ _ _ _ _ UN) ⟨Hj YN (Nat.le_refl _) _ _ _ _ _,by rw[hI];exact⟨by decide,rfl⟩⟩
   have Vo:Hc vT vC vO vX vP=if vX.1≠0∧vX.1≠2 then .error 4
    else if (vX.2.2=true∧vP.1≠4)∨(vX.2.2=false∧vP.1≠0) then .error 4
    else if vT.2.1=tyC then U5 1 vC vO vX vP else if vT.2.1=tyG then U5 2 vC vO vX vP else .error 3:=by
    unfold Hc;rw[D1 (by rintro (h|h|h)<;>first|exact h hT4|exact h hC4|exact h hO4)]
   go_upto_region 5 with fail
   go_cut [47] (fun s47 wx=>∃q:Bool,s47=.bool q∧(q=true↔(vX.1≠0∧vX.1≠2))∧wx=wd)
   case first=>
    by_cases h0:vX.1=0
    ·have h1:(vX.1 != 0)=false:=by simp[h0]
     go_wp2_with fail
     go_meet
     exact⟨false,rfl,by simp[h0],rfl⟩
    ·have h1:(vX.1 != 0)=true:=by simp[h0]
     by_cases h2:vX.1=2
     ·have h3:(vX.1 != 2)=false:=by simp[h2]
      go_wp2_with fail
      go_meet
      exact⟨false,rfl,by simp[h2],rfl⟩
     ·have h3:(vX.1 != 2)=true:=by simp[h2]
      go_wp2_with fail
      go_meet
      exact⟨true,rfl,by simp[h0,h2],rfl⟩
   case rest=>
    obtain⟨q5,rfl,hq5,hwe⟩:=hcut;subst hwe;cases q5 with
    |true=>
     have hx1:=hq5.1 rfl;have hI:Hc vT vC vO vX vP=.error 4:=by rw[Vo,Fa hx1]
     go_wp2
     (try simp only[Exit.inBlock,Exit.then])
     exact G1 (b:=w.heap.size) rfl rfl (Tz wc w.heap.size _ _ _ _ _ UN) ⟨Hj YN (Nat.le_refl _) _ _ _ _ _,by rw[hI];exact⟨by decide,rfl⟩⟩
    |false=>
     have hx1:¬(vX.1≠0∧vX.1≠2):=fun h=>Bool.noConfusion (hq5.2 h)
     rw[D1 hx1] at Vo
     go_upto_region 7 with fail
     go_cut [65] (fun s65 wx=>∃q:Bool,s65=.bool q∧(q=true↔((vX.2.2=true∧vP.1≠4)∨(vX.2.2=false∧vP.1≠0)))∧wx=wc)
     case first=>
      cases CJ:vX.2.2 with
      |true=>
       rw[CJ] at X2;by_cases h4:vP.1=4
       ·have h1:(vP.1 != 4)=false:=by simp[h4]
        go_wp2_with fail
        go_meet
        exact⟨false,rfl,by simp[h4,CJ],rfl⟩
       ·have h1:(vP.1 != 4)=true:=by simp[h4]
        go_wp2_with fail
        go_meet
        exact⟨true,rfl,by simp[h4,CJ],rfl⟩
      |false=>
       rw[CJ] at X2;by_cases h4:vP.1=0
       ·have h1:(vP.1 != 0)=false:=by simp[h4]
        go_wp2_with fail
        go_meet
        exact⟨false,rfl,by simp[h4,CJ],rfl⟩
       ·have h1:(vP.1 != 0)=true:=by simp[h4]
        go_wp2_with fail
        go_meet
        exact⟨true,rfl,by simp[h4,CJ],rfl⟩
     case rest=>
      obtain⟨q7,rfl,hq7,hwe⟩:=hcut;subst hwe;cases q7 with
      |true=>
       have Mv:=hq7.1 rfl;have hI:Hc vT vC vO vX vP=.error 4:=by rw[Vo,Fa Mv]
       go_wp2
       (try simp only[Exit.inBlock,Exit.then])
       exact G1 (b:=w.heap.size) rfl rfl (Tz wc w.heap.size _ _ _ _ _ UN) ⟨Hj YN (Nat.le_refl _) _ _ _ _ _,by rw[hI];exact⟨by decide,rfl⟩⟩
      |false=>
       have Mv:¬((vX.2.2=true∧vP.1≠4)∨(vX.2.2=false∧vP.1≠0)):=fun h=>Bool.noConfusion (hq7.2 h)
       rw[D1 Mv] at Vo;clear hq5 hq7 hx1 Mv;have hwd:w.heap.size<wc.heap.size:=Nat.lt_of_lt_of_le hwc FS.size;have A5k:bT<wc.heap.size:=Nat.lt_of_lt_of_le (B2 hT) FS.size;have A6j:bC<wc.heap.size:=Nat.lt_of_lt_of_le (B2 hC) FS.size;have hbC:((Ab vT.2.1).toList==[112,97,115,115,107,101,121,46,99,114,101,97,116,101])=decide (vT.2.1=tyC):=Xx hTB (b:=tyC) (fun x hx=>by simp[tyC] at hx;omega)
       have hbG:((Ab vT.2.1).toList==[112,97,115,115,107,101,121,46,103,101,116])=decide (vT.2.1=tyG):=Xx hTB (b:=tyG) (fun x hx=>by simp[tyG] at hx;omega)
       by_cases hTc:vT.2.1=tyC
       rotate_left
       ·rw[decide_eq_false hTc] at hbC;rw[D1 hTc] at Vo;by_cases hTg:vT.2.1=tyG
        rotate_left
        ·rw[decide_eq_false hTg] at hbG;have hI:Hc vT vC vO vX vP=.error 3:=by rw[Vo,D1 hTg]
         go_wp2
         (try simp only[Exit.inBlock,Exit.then])
         exact G1 (b:=w.heap.size) rfl rfl (J3 wc w.heap.size hwd _ _ _ _ _ _ hrc) ⟨Fx YN (Nat.le_refl _) YN.size _ _ _ _ _ _,by rw[hI];exact⟨by decide,rfl⟩⟩
        ·rw[decide_eq_true hTg] at hbG;rw[Fa hTg] at Vo;clear hTg hTc;have hbA:=YN.alloc YN.size (.cells #[.int .i64 2,.slice none 0 0,.string (Ab vO.2.1),.bool vX.2.2,.string (Ab vP.2.1)] 36);have hsA:(wc.alloc (.cells #[.int .i64 2,.slice none 0 0,.string (Ab vO.2.1),.bool vX.2.2,.string (Ab vP.2.1)] 36)).heap.size=wc.heap.size+1:=Array.size_push _;have hkA:=al1 wc (.cells #[.int .i64 2,.slice none 0 0,.string (Ab vO.2.1),.bool vX.2.2,.string (Ab vP.2.1)] 36);have hrA:=hrc.below ((Below.refl wc.heap.size wc).alloc (Nat.le_refl _) (.cells #[.int .i64 2,.slice none 0 0,.string (Ab vO.2.1),.bool vX.2.2,.string (Ab vP.2.1)] 36)) hwd
         go_wp2_with (go_at_call 15;refine (Anq _ vC.2.1 (hU.below hbA) hCB hCL).mono ?_)
         rintro e W3 ⟨Qr,DE⟩
         have Rb:Below w.heap.size w W3:=hbA.trans (Qr.mono hbA.size);have PL:=hrA.below Qr (by rw[hsA];omega)
         have hm3:=PL.some;obtain⟨⟨r30,r31,r32,r33,r34⟩,s30,s31,s32,s33,s34⟩:=PL;have FI:wc.heap.size+1<=W3.heap.size:=by have:=Qr.size;rw[hsA] at this;exact this
         have Iq:=(Qr.block _ (by rw[hsA];omega)).trans hkA
         obtain⟨⟨k0,k1,k2,k3,k4⟩,kf0,kf1,kf2,kf3,kf4⟩:=YH Iq;unfold DbP at DE;cases TW:Ha vC.2.1 with
         |none=>
          rw[TW] at DE;obtain⟨ad,capN,rfl⟩:=DE;have hI:Hc vT vC vO vX vP=.error 2:=by rw[Vo];unfold U5;rw[TW]
          go_wp2
          (try simp only[Exit.inBlock,Exit.then])
          exact G1 (b:=w.heap.size) rfl rfl (Tz W3 w.heap.size _ _ _ _ _ hm3) ⟨Hj Rb (Nat.le_refl _) _ _ _ _ _,by rw[hI];exact⟨by decide,rfl⟩⟩
         |some b=>
          rw[TW] at DE;obtain⟨ad,cap,rfl,Mk⟩:=DE;by_cases Eb:b.length<1
          ·have hI:Hc vT vC vO vX vP=.error 9:=by rw[Vo];unfold U5;rw[TW];simp only;rw[Fa (.inl Eb)]
           have Pc:(b.length:Int)<1:=by omega
           go_wp2
           (try simp only[Exit.inBlock,Exit.then])
           exact G1 (b:=w.heap.size) rfl rfl (Tz W3 w.heap.size _ _ _ _ _ hm3) ⟨Hj Rb (Nat.le_refl _) _ _ _ _ _,by rw[hI];exact⟨by decide,rfl⟩⟩
          by_cases Gl:64<b.length
          ·have hI:Hc vT vC vO vX vP=.error 9:=by rw[Vo];unfold U5;rw[TW];simp only;rw[Fa (.inr Gl)]
           have Pc:¬(b.length:Int)<1:=by omega
           have Jt:(b.length:Int)>64:=by omega
           go_wp2
           (try simp only[Exit.inBlock,Exit.then])
           exact G1 (b:=w.heap.size) rfl rfl (Tz W3 w.heap.size _ _ _ _ _ hm3) ⟨Hj Rb (Nat.le_refl _) _ _ _ _ _,by rw[hI];exact⟨by decide,rfl⟩⟩
          have Pc:¬(b.length:Int)<1:=by omega
          have Jt:¬(b.length:Int)>64:=by omega
          obtain⟨a,rfl,hac,haw,YS⟩:=Mk (by rintro rfl;exact Eb (by decide))
          have As3:wc.heap.size+1<=a.block:=by rw[hsA] at haw;exact haw
          have KU:Hc vT vC vO vX vP=if Fy vO.2.1≠0 then .error (Fy vO.2.1) else if vX.2.2=true∧Fy vP.2.1≠0 then .error (Fy vP.2.1) else .ok (2,b,vO.2.1,vX.2.2,vP.2.1):=by
           rw[Vo];unfold U5;rw[TW];simp only;rw[D1 (by omega)]
          have Vh:Below w.heap.size w (W3.setCell ⟨wc.heap.size,1,none⟩ (.slice (some a) b.length cap)):=Rb.setCell (p:=⟨wc.heap.size,1,none⟩) (Nat.le_of_lt hwd) _;have Ajf:Below wc.heap.size W3 (W3.setCell ⟨wc.heap.size,1,none⟩ (.slice (some a) b.length cap)):=(Below.refl wc.heap.size W3).setCell (p:=⟨wc.heap.size,1,none⟩) (Nat.le_refl _) _;have FH:=(show RC W3 w.heap.size from ⟨⟨r30,r31,r32,r33,r34⟩,s30,s31,s32,s33,s34⟩).below Ajf hwd
          have Age:=YS.set (b0:=wc.heap.size) (j:=1) (v:=.slice (some a) b.length cap) (by omega)
          have CS:(W3.setCell ⟨wc.heap.size,1,none⟩ (.slice (some a) b.length cap)).heap.size=W3.heap.size:=World.size_setCell ..;have j0:(W3.setCell ⟨wc.heap.size,1,none⟩ (.slice (some a) b.length cap)).cell? ⟨wc.heap.size,0,none⟩=some (.int .i64 2):=(D5 (by decide)).trans k0
          have j1:(W3.setCell ⟨wc.heap.size,1,none⟩ (.slice (some a) b.length cap)).cell? ⟨wc.heap.size,1,none⟩=some (.slice (some a) b.length cap):=World.cell?_setCell_same _ _ _ k1;have j2:(W3.setCell ⟨wc.heap.size,1,none⟩ (.slice (some a) b.length cap)).cell? ⟨wc.heap.size,2,none⟩=some (.string (Ab vO.2.1)):=(D5 (by decide)).trans k2
          have j3:(W3.setCell ⟨wc.heap.size,1,none⟩ (.slice (some a) b.length cap)).cell? ⟨wc.heap.size,3,none⟩=some (.bool vX.2.2):=(D5 (by decide)).trans k3
          have j4:(W3.setCell ⟨wc.heap.size,1,none⟩ (.slice (some a) b.length cap)).cell? ⟨wc.heap.size,4,none⟩=some (.string (Ab vP.2.1)):=(D5 (by decide)).trans k4
          go_wp2_with (go_at_call 32;refine (Aa1 _ vO.2.1 (hU.below Vh) hOB hOL).mono ?_)
          rintro e W5 ⟨DQ,o1,o2,o3,rfl⟩
          have hs5:W3.heap.size<=W5.heap.size:=by have:=DQ.size;rw[CS] at this;exact this
          have Tf:Below w.heap.size w W5:=Vh.trans (DQ.mono Vh.size);have hr5:=FH.below DQ (by rw[CS];omega)
          have Ajr:=hr5;obtain⟨⟨r50,r51,r52,r53,r54⟩,s50,s51,s52,s53,s54⟩:=Ajr;have hw5:w.heap.size<W5.heap.size:=by omega
          have hc5:wc.heap.size<W5.heap.size:=by omega
          have NO:=Age.below DQ (by rw[CS];exact YS.2.1)
          have Jp:wc.heap.size<(W3.setCell ⟨wc.heap.size,1,none⟩ (.slice (some a) b.length cap)).heap.size:=by rw[CS];omega
          have i0:=(DQ.cell (p:=⟨wc.heap.size,0,none⟩) Jp).trans j0;have i1:=(DQ.cell (p:=⟨wc.heap.size,1,none⟩) Jp).trans j1;have i2:=(DQ.cell (p:=⟨wc.heap.size,2,none⟩) Jp).trans j2;have i3:=(DQ.cell (p:=⟨wc.heap.size,3,none⟩) Jp).trans j3;have i4:=(DQ.cell (p:=⟨wc.heap.size,4,none⟩) Jp).trans j4;have hbL:=(Below.refl W5.heap.size W5).alloc (Nat.le_refl _) (.cells #[.bool o1,.string o2,.int .i64 o3] 65);have KQ:Below w.heap.size w (W5.alloc (.cells #[.bool o1,.string o2,.int .i64 o3] 65)):=Tf.alloc Tf.size _;by_cases ho:Fy vO.2.1=0
          rotate_left
          ·have hoB:(Fy vO.2.1 != 0)=true:=by simp[ho]
           have hI:Hc vT vC vO vX vP=.error (Fy vO.2.1):=by rw[KU,Fa ho]
           go_wp2
           (try simp only[Exit.inBlock,Exit.then])
           exact G1 (b:=w.heap.size) rfl rfl (J3 W5 w.heap.size hw5 _ _ _ _ _ _ hr5) ⟨Fx Tf (Nat.le_refl _) Tf.size _ _ _ _ _ _,by rw[hI];exact⟨ho,rfl⟩⟩
          have hoB:(Fy vO.2.1 != 0)=false:=by simp[ho]
          rw[D1 (by simp[ho])] at KU
          have ZS:=NO.below hbL (by have:=NO.2.1;exact this)
          cases CJ:vX.2.2 with
          |false=>
           rw[CJ] at i3;have hI:Hc vT vC vO vX vP=.ok (2,b,vO.2.1,false,vP.2.1):=by rw[KU,D1 (by simp[CJ]),CJ]
           go_wp2
           (try simp only[Exit.inBlock,Exit.then])
           exact G1 (b:=w.heap.size) rfl rfl (J3 W5 w.heap.size hw5 _ _ _ _ _ _ hr5) ⟨Fx Tf (Nat.le_refl _) Tf.size _ _ _ _ _ _,by rw[hI];exact⟨a,cap,rfl,hac,by omega,NO.set5al (by omega)⟩⟩
          |true=>
           rw[CJ] at i3
           go_wp2_with (go_at_call 32;refine (Aa1 _ vP.2.1 (hU.below KQ) hPB hPL).mono ?_)
           rintro e W7 ⟨hb7,p1,p2,p3,rfl⟩
           have hsL:(W5.alloc (.cells #[.bool o1,.string o2,.int .i64 o3] 65)).heap.size=W5.heap.size+1:=Array.size_push _;have Ua:Below w.heap.size w W7:=KQ.trans (hb7.mono KQ.size);have hr7:=(hr5.below hbL hw5).below hb7 (by rw[hsL];omega)
           have Ak4:=hr7;obtain⟨⟨r70,r71,r72,r73,r74⟩,s70,s71,s72,s73,s74⟩:=Ak4;have KX:=ZS.below hb7 (by have:=ZS.2.1;exact this)
           have Tg:=(hbL.trans (hb7.mono hbL.size));have l0:=(Tg.cell (p:=⟨wc.heap.size,0,none⟩) (show wc.heap.size<W5.heap.size by omega)).trans i0
           have l1:=(Tg.cell (p:=⟨wc.heap.size,1,none⟩) (show wc.heap.size<W5.heap.size by omega)).trans i1
           have l2:=(Tg.cell (p:=⟨wc.heap.size,2,none⟩) (show wc.heap.size<W5.heap.size by omega)).trans i2
           have l3:=(Tg.cell (p:=⟨wc.heap.size,3,none⟩) (show wc.heap.size<W5.heap.size by omega)).trans i3
           have l4:=(Tg.cell (p:=⟨wc.heap.size,4,none⟩) (show wc.heap.size<W5.heap.size by omega)).trans i4
           have hs7:=Tg.size;have hw7:w.heap.size<W7.heap.size:=by omega
           have hc7:wc.heap.size<W7.heap.size:=by omega
           have hbM:=(Below.refl W7.heap.size W7).alloc (Nat.le_refl _) (.cells #[.bool p1,.string p2,.int .i64 p3] 65);have Avh:Below w.heap.size w (W7.alloc (.cells #[.bool p1,.string p2,.int .i64 p3] 65)):=Ua.alloc Ua.size _;by_cases hp:Fy vP.2.1=0
           rotate_left
           ·have hoB:(Fy vP.2.1 != 0)=true:=by simp[hp]
            have hI:Hc vT vC vO vX vP=.error (Fy vP.2.1):=by rw[KU,Fa ⟨CJ,hp⟩]
            go_wp2
            (try simp only[Exit.inBlock,Exit.then])
            exact G1 (b:=w.heap.size) rfl rfl (J3 W7 w.heap.size hw7 _ _ _ _ _ _ hr7) ⟨Fx Ua (Nat.le_refl _) Ua.size _ _ _ _ _ _,by rw[hI];exact⟨hp,rfl⟩⟩
           have hpB:(Fy vP.2.1 != 0)=false:=by simp[hp]
           have Ax2:=KX.below hbM (by have:=KX.2.1;exact this)
           have hI:Hc vT vC vO vX vP=.ok (2,b,vO.2.1,true,vP.2.1):=by rw[KU,D1 (by simp[hp]),CJ]
           go_wp2
           (try simp only[Exit.inBlock,Exit.then])
           exact G1 (b:=w.heap.size) rfl rfl (J3 W7 w.heap.size hw7 _ _ _ _ _ _ hr7) ⟨Fx Ua (Nat.le_refl _) Ua.size _ _ _ _ _ _,by rw[hI];exact⟨a,cap,rfl,hac,by omega,KX.set5al (by omega)⟩⟩
       ·rw[decide_eq_true hTc] at hbC;rw[Fa hTc] at Vo;clear hTc hbG;have hbA:=YN.alloc YN.size (.cells #[.int .i64 1,.slice none 0 0,.string (Ab vO.2.1),.bool vX.2.2,.string (Ab vP.2.1)] 36);have hsA:(wc.alloc (.cells #[.int .i64 1,.slice none 0 0,.string (Ab vO.2.1),.bool vX.2.2,.string (Ab vP.2.1)] 36)).heap.size=wc.heap.size+1:=Array.size_push _;have hkA:=al1 wc (.cells #[.int .i64 1,.slice none 0 0,.string (Ab vO.2.1),.bool vX.2.2,.string (Ab vP.2.1)] 36);have hrA:=hrc.below ((Below.refl wc.heap.size wc).alloc (Nat.le_refl _) (.cells #[.int .i64 1,.slice none 0 0,.string (Ab vO.2.1),.bool vX.2.2,.string (Ab vP.2.1)] 36)) hwd
        go_wp2_with (go_at_call 15;refine (Anq _ vC.2.1 (hU.below hbA) hCB hCL).mono ?_)
        rintro e W3 ⟨Qr,DE⟩
        have Rb:Below w.heap.size w W3:=hbA.trans (Qr.mono hbA.size);have PL:=hrA.below Qr (by rw[hsA];omega)
        have hm3:=PL.some;obtain⟨⟨r30,r31,r32,r33,r34⟩,s30,s31,s32,s33,s34⟩:=PL;have FI:wc.heap.size+1<=W3.heap.size:=by have:=Qr.size;rw[hsA] at this;exact this
        have Iq:=(Qr.block _ (by rw[hsA];omega)).trans hkA
        obtain⟨⟨k0,k1,k2,k3,k4⟩,kf0,kf1,kf2,kf3,kf4⟩:=YH Iq;unfold DbP at DE;cases TW:Ha vC.2.1 with
        |none=>
         rw[TW] at DE;obtain⟨ad,capN,rfl⟩:=DE;have hI:Hc vT vC vO vX vP=.error 2:=by rw[Vo];unfold U5;rw[TW]
         go_wp2
         (try simp only[Exit.inBlock,Exit.then])
         exact G1 (b:=w.heap.size) rfl rfl (Tz W3 w.heap.size _ _ _ _ _ hm3) ⟨Hj Rb (Nat.le_refl _) _ _ _ _ _,by rw[hI];exact⟨by decide,rfl⟩⟩
        |some b=>
         rw[TW] at DE;obtain⟨ad,cap,rfl,Mk⟩:=DE;by_cases Eb:b.length<1
         ·have hI:Hc vT vC vO vX vP=.error 9:=by rw[Vo];unfold U5;rw[TW];simp only;rw[Fa (.inl Eb)]
          have Pc:(b.length:Int)<1:=by omega
          go_wp2
          (try simp only[Exit.inBlock,Exit.then])
          exact G1 (b:=w.heap.size) rfl rfl (Tz W3 w.heap.size _ _ _ _ _ hm3) ⟨Hj Rb (Nat.le_refl _) _ _ _ _ _,by rw[hI];exact⟨by decide,rfl⟩⟩
         by_cases Gl:64<b.length
         ·have hI:Hc vT vC vO vX vP=.error 9:=by rw[Vo];unfold U5;rw[TW];simp only;rw[Fa (.inr Gl)]
          have Pc:¬(b.length:Int)<1:=by omega
          have Jt:(b.length:Int)>64:=by omega
          go_wp2
          (try simp only[Exit.inBlock,Exit.then])
          exact G1 (b:=w.heap.size) rfl rfl (Tz W3 w.heap.size _ _ _ _ _ hm3) ⟨Hj Rb (Nat.le_refl _) _ _ _ _ _,by rw[hI];exact⟨by decide,rfl⟩⟩
         have Pc:¬(b.length:Int)<1:=by omega
         have Jt:¬(b.length:Int)>64:=by omega
         obtain⟨a,rfl,hac,haw,YS⟩:=Mk (by rintro rfl;exact Eb (by decide))
         have As3:wc.heap.size+1<=a.block:=by rw[hsA] at haw;exact haw
         have KU:Hc vT vC vO vX vP=if Fy vO.2.1≠0 then .error (Fy vO.2.1) else if vX.2.2=true∧Fy vP.2.1≠0 then .error (Fy vP.2.1) else .ok (1,b,vO.2.1,vX.2.2,vP.2.1):=by
          rw[Vo];unfold U5;rw[TW];simp only;rw[D1 (by omega)]
         have Vh:Below w.heap.size w (W3.setCell ⟨wc.heap.size,1,none⟩ (.slice (some a) b.length cap)):=Rb.setCell (p:=⟨wc.heap.size,1,none⟩) (Nat.le_of_lt hwd) _;have Ajf:Below wc.heap.size W3 (W3.setCell ⟨wc.heap.size,1,none⟩ (.slice (some a) b.length cap)):=(Below.refl wc.heap.size W3).setCell (p:=⟨wc.heap.size,1,none⟩) (Nat.le_refl _) _;have FH:=(show RC W3 w.heap.size from ⟨⟨r30,r31,r32,r33,r34⟩,s30,s31,s32,s33,s34⟩).below Ajf hwd
         have Age:=YS.set (b0:=wc.heap.size) (j:=1) (v:=.slice (some a) b.length cap) (by omega)
         have CS:(W3.setCell ⟨wc.heap.size,1,none⟩ (.slice (some a) b.length cap)).heap.size=W3.heap.size:=World.size_setCell ..;have j0:(W3.setCell ⟨wc.heap.size,1,none⟩ (.slice (some a) b.length cap)).cell? ⟨wc.heap.size,0,none⟩=some (.int .i64 1):=(D5 (by decide)).trans k0
         have j1:(W3.setCell ⟨wc.heap.size,1,none⟩ (.slice (some a) b.length cap)).cell? ⟨wc.heap.size,1,none⟩=some (.slice (some a) b.length cap):=World.cell?_setCell_same _ _ _ k1;have j2:(W3.setCell ⟨wc.heap.size,1,none⟩ (.slice (some a) b.length cap)).cell? ⟨wc.heap.size,2,none⟩=some (.string (Ab vO.2.1)):=(D5 (by decide)).trans k2
         have j3:(W3.setCell ⟨wc.heap.size,1,none⟩ (.slice (some a) b.length cap)).cell? ⟨wc.heap.size,3,none⟩=some (.bool vX.2.2):=(D5 (by decide)).trans k3
         have j4:(W3.setCell ⟨wc.heap.size,1,none⟩ (.slice (some a) b.length cap)).cell? ⟨wc.heap.size,4,none⟩=some (.string (Ab vP.2.1)):=(D5 (by decide)).trans k4
         go_wp2_with (go_at_call 32;refine (Aa1 _ vO.2.1 (hU.below Vh) hOB hOL).mono ?_)
         rintro e W5 ⟨DQ,o1,o2,o3,rfl⟩
         have hs5:W3.heap.size<=W5.heap.size:=by have:=DQ.size;rw[CS] at this;exact this
         have Tf:Below w.heap.size w W5:=Vh.trans (DQ.mono Vh.size);have hr5:=FH.below DQ (by rw[CS];omega)
         have Ajr:=hr5;obtain⟨⟨r50,r51,r52,r53,r54⟩,s50,s51,s52,s53,s54⟩:=Ajr;have hw5:w.heap.size<W5.heap.size:=by omega
         have hc5:wc.heap.size<W5.heap.size:=by omega
         have NO:=Age.below DQ (by rw[CS];exact YS.2.1)
         have Jp:wc.heap.size<(W3.setCell ⟨wc.heap.size,1,none⟩ (.slice (some a) b.length cap)).heap.size:=by rw[CS];omega
         have i0:=(DQ.cell (p:=⟨wc.heap.size,0,none⟩) Jp).trans j0;have i1:=(DQ.cell (p:=⟨wc.heap.size,1,none⟩) Jp).trans j1;have i2:=(DQ.cell (p:=⟨wc.heap.size,2,none⟩) Jp).trans j2;have i3:=(DQ.cell (p:=⟨wc.heap.size,3,none⟩) Jp).trans j3;have i4:=(DQ.cell (p:=⟨wc.heap.size,4,none⟩) Jp).trans j4;have hbL:=(Below.refl W5.heap.size W5).alloc (Nat.le_refl _) (.cells #[.bool o1,.string o2,.int .i64 o3] 65);have KQ:Below w.heap.size w (W5.alloc (.cells #[.bool o1,.string o2,.int .i64 o3] 65)):=Tf.alloc Tf.size _;by_cases ho:Fy vO.2.1=0
         rotate_left
         ·have hoB:(Fy vO.2.1 != 0)=true:=by simp[ho]
          have hI:Hc vT vC vO vX vP=.error (Fy vO.2.1):=by rw[KU,Fa ho]
          go_wp2
          (try simp only[Exit.inBlock,Exit.then])
          exact G1 (b:=w.heap.size) rfl rfl (J3 W5 w.heap.size hw5 _ _ _ _ _ _ hr5) ⟨Fx Tf (Nat.le_refl _) Tf.size _ _ _ _ _ _,by rw[hI];exact⟨ho,rfl⟩⟩
         have hoB:(Fy vO.2.1 != 0)=false:=by simp[ho]
         rw[D1 (by simp[ho])] at KU
         have ZS:=NO.below hbL (by have:=NO.2.1;exact this)
         cases CJ:vX.2.2 with
         |false=>
          rw[CJ] at i3;have hI:Hc vT vC vO vX vP=.ok (1,b,vO.2.1,false,vP.2.1):=by rw[KU,D1 (by simp[CJ]),CJ]
          go_wp2
          (try simp only[Exit.inBlock,Exit.then])
          exact G1 (b:=w.heap.size) rfl rfl (J3 W5 w.heap.size hw5 _ _ _ _ _ _ hr5) ⟨Fx Tf (Nat.le_refl _) Tf.size _ _ _ _ _ _,by rw[hI];exact⟨a,cap,rfl,hac,by omega,NO.set5al (by omega)⟩⟩
         |true=>
          rw[CJ] at i3
          go_wp2_with (go_at_call 32;refine (Aa1 _ vP.2.1 (hU.below KQ) hPB hPL).mono ?_)
          rintro e W7 ⟨hb7,p1,p2,p3,rfl⟩
          have hsL:(W5.alloc (.cells #[.bool o1,.string o2,.int .i64 o3] 65)).heap.size=W5.heap.size+1:=Array.size_push _;have Ua:Below w.heap.size w W7:=KQ.trans (hb7.mono KQ.size);have hr7:=(hr5.below hbL hw5).below hb7 (by rw[hsL];omega)
          have Ak4:=hr7;obtain⟨⟨r70,r71,r72,r73,r74⟩,s70,s71,s72,s73,s74⟩:=Ak4;have KX:=ZS.below hb7 (by have:=ZS.2.1;exact this)
          have Tg:=(hbL.trans (hb7.mono hbL.size));have l0:=(Tg.cell (p:=⟨wc.heap.size,0,none⟩) (show wc.heap.size<W5.heap.size by omega)).trans i0
          have l1:=(Tg.cell (p:=⟨wc.heap.size,1,none⟩) (show wc.heap.size<W5.heap.size by omega)).trans i1
          have l2:=(Tg.cell (p:=⟨wc.heap.size,2,none⟩) (show wc.heap.size<W5.heap.size by omega)).trans i2
          have l3:=(Tg.cell (p:=⟨wc.heap.size,3,none⟩) (show wc.heap.size<W5.heap.size by omega)).trans i3
          have l4:=(Tg.cell (p:=⟨wc.heap.size,4,none⟩) (show wc.heap.size<W5.heap.size by omega)).trans i4
          have hs7:=Tg.size;have hw7:w.heap.size<W7.heap.size:=by omega
          have hc7:wc.heap.size<W7.heap.size:=by omega
          have hbM:=(Below.refl W7.heap.size W7).alloc (Nat.le_refl _) (.cells #[.bool p1,.string p2,.int .i64 p3] 65);have Avh:Below w.heap.size w (W7.alloc (.cells #[.bool p1,.string p2,.int .i64 p3] 65)):=Ua.alloc Ua.size _;by_cases hp:Fy vP.2.1=0
          rotate_left
          ·have hoB:(Fy vP.2.1 != 0)=true:=by simp[hp]
           have hI:Hc vT vC vO vX vP=.error (Fy vP.2.1):=by rw[KU,Fa ⟨CJ,hp⟩]
           go_wp2
           (try simp only[Exit.inBlock,Exit.then])
           exact G1 (b:=w.heap.size) rfl rfl (J3 W7 w.heap.size hw7 _ _ _ _ _ _ hr7) ⟨Fx Ua (Nat.le_refl _) Ua.size _ _ _ _ _ _,by rw[hI];exact⟨hp,rfl⟩⟩
          have hpB:(Fy vP.2.1 != 0)=false:=by simp[hp]
          have Ax2:=KX.below hbM (by have:=KX.2.1;exact this)
          have hI:Hc vT vC vO vX vP=.ok (1,b,vO.2.1,true,vP.2.1):=by rw[KU,D1 (by simp[hp]),CJ]
          go_wp2
          (try simp only[Exit.inBlock,Exit.then])
          exact G1 (b:=w.heap.size) rfl rfl (J3 W7 w.heap.size hw7 _ _ _ _ _ _ hr7) ⟨Fx Ua (Nat.le_refl _) Ua.size _ _ _ _ _ _,by rw[hI];exact⟨a,cap,rfl,hac,by omega,KX.set5al (by omega)⟩⟩
end
section
open Go.Proofs.Tryd (prog)
open Go.IntKind (wrap)
set_option maxRecDepth 1000000
open Go Go.RowKit Go.Lib
def FN (L:Nat)(s:List Int):Prop:=Ds s∧s.length<=4*L
theorem Wj:∀(n:Nat)(out l s q:List Int),Ds l->Ix n out l=(some s,q)->s.length<=out.length+4*l.length
  |0,_,_,_,_,_,h=>by cases h
  |_+1,_,[],_,_,_,h=>by cases h
  |n+1,out,c::l,s,q,hl,h=>by
    have e:Ix (n+1) out (c::l)=if c<32 then (none,c::l) else if c=34 then (some out,l) else if c=92 then
        (match La l with
         |(some x,r')=>Ix n (out++Lib.encodeRuneZ x) r'
         |(none,r')=>(none,r')) else Ix n (out++[c]) l:=rfl
    have M6:=Bm hl
    rw[e] at h
    split at h
    · cases h
    split at h
    · cases h;simp
    split at h
    · have h2:=M9 (C3.self M6.2)
      rcases hq:La l with⟨o,r⟩
      rw[hq] at h2 h
      cases o with
      |none=>cases h
      |some x=>
        have:=Wj n _ r s q h2.B h
        have h3:=Lib.encodeRuneZ_length x
        have h4:r.length<=l.length:=h2.le
        simp at this ⊢
        omega
    · have:=Wj n _ l s q M6.2 h
      simp at this ⊢
      omega
theorem JQ {l s q:List Int}(hl:Ds l)(h:El l=(some s,q)):FN l.length s:=by
 refine⟨PN hl h,?_⟩;cases l with
 |nil=>cases h
 |cons c l=>
  have e:El (c::l)=if c=34 then Ix (l.length+1) [] l else (none,c::l):=rfl
  rw[e] at h;split at h
  ·have:=Wj _ _ _ _ _ (Bm hl).2 h;simp at this ⊢;omega
  ·cases h
theorem FN.mono {L M:Nat}{s:List Int}(h:FN L s)(hm:L<=M):FN M s:=⟨h.1,by have:=h.2;omega⟩
theorem FN.nil (L:Nat):FN L []:=⟨(fun x hx=>nomatch hx),Nat.zero_le _⟩
theorem VR {l r:List Int}{v:JV}(hl:Ds l)(hs:l.length<=1000000)(h:E8 8 l=.ok (v,r)):C3 (Ab l) r:=by
 obtain⟨res,_,hr⟩:=Afo (fu:=1000001) (d:=0) (t:=Ab l) (by rw[Av];exact hs) (by rw[Av];omega) 8 1 (by omega) (by omega) l (C3.self hl)
 rw[h] at hr;exact hr.1
theorem Ac5:∀{k:Nat}{l r:List Int}{v:JV},Ds l->E8 k l=.ok (v,r)->FN l.length v.2.1:=by
 intro k l r v hl h;unfold E8 at h;split at h
 ·split at h
  ·cases h
  ·split at h
   ·cases h
   ·cases h;exact FN.nil _
 ·split at h
  ·cases h
  ·split at h
   ·cases h
   ·cases h;exact FN.nil _
 ·rename_i r0;unfold Z5 at h;rcases hq:El (34::r0) with⟨o,q⟩;rw[hq] at h;cases o with
  |none=>cases h
  |some s=>cases h;exact JQ hl hq
 ·repeat' split at h
  all_goals first|(cases h;exact FN.nil _)|cases h
theorem Abw {L:Nat}(hL:L<=1000000):∀(n:Nat)(ms:List (List Int × JV)) (l r:List Int)(ms':List (List Int × JV)),Ds l->l.length<=L->(∀m∈ms,FN L m.1∧FN L m.2.2.1)->Pd (E8 8) true n ms l=.ok (ms',r)->∀m∈ms',FN L m.1∧FN L m.2.2.1:=by
 intro n
 induction n with
 |zero=>intro ms l r ms' _ _ _ h;cases h
 |succ n ih=>
  intro ms l r ms' hl hs hm h;rw[Wi] at h;rcases hx:El l with⟨o,q⟩;rw[hx] at h;cases o with
  |none=>cases h
  |some nm=>
   have Zs:=JQ hl hx;have hq:=F3 (C3.self hl);rw[hx] at hq;simp only at h;split at h
   ·cases h
   cases h1:Ao [58] (Bd q) with
   |none=>rw[h1] at h;cases h
   |some r1=>
    rw[h1] at h;have Y1:=Bo (An (Bo hq) h1);simp only at h;cases hv:E8 8 (Bd r1) with
    |error e=>rw[hv] at h;cases h
    |ok x=>
     obtain⟨v,r2⟩:=x;rw[hv] at h;have Vl:=Y1.le;have hvo:=Ac5 Y1.B hv;have Z6:=Y1.trans (VR Y1.B (by omega) hv)
     have Ko:∀m∈ms++[(nm,v)],FN L m.1∧FN L m.2.2.1:=by
      intro m Hn;rcases List.mem_append.1 Hn with Hn|Hn
      ·exact hm m Hn
      ·simp at Hn;subst Hn;exact⟨Zs.mono hs,hvo.mono (by omega)⟩
     simp only at h;cases h2:Ao [125] (Bd r2) with
     |some r3=>rw[h2] at h;cases h;exact Ko
     |none=>
      rw[h2] at h;simp only at h;cases h3:Ao [44] (Bd r2) with
      |none=>rw[h3] at h;cases h
      |some r3=>
       rw[h3] at h;have PL:=Bo (An (Bo Z6) h3);exact ih _ _ _ _ PL.B (by have:=PL.le;omega) Ko h
theorem Abr {l:List Int}{ms:List (List Int × JV)} (hl:Ds l)(hs:l.length<=1000000)(h:MW 8 l=.ok ms):∀m∈ms,FN l.length m.1∧FN l.length m.2.2.1:=by
 rw[BG] at h;have h0:=Bo (C3.self hl);cases h1:Ao [123] (Bd l) with
 |none=>rw[h1] at h;cases h
 |some r=>
  rw[h1] at h;have hr:=An h0 h1;simp only at h;rw[To] at h;have Z6:=Bo hr;cases h2:Ao [125] (Bd r) with
  |some r'=>
   rw[h2] at h;simp only at h;split at h
   ·cases h;exact fun m hm=>by cases hm
   ·cases h
  |none=>
   rw[h2] at h;simp only at h;cases h3:Pd (E8 8) true ((Bd r).length+1) [] (Bd r) with
   |error e=>rw[h3] at h;cases h
   |ok x=>
    obtain⟨ms',r'⟩:=x;rw[h3] at h;simp only at h;split at h
    ·cases h;exact Abw hs _ _ _ _ _ Z6.B Z6.le (fun m hm=>by cases hm) h3
    ·cases h
def PX (ms:List (List Int × JV)):JR CD:=Hc (Ch M5 ms) (Ch Tw ms) (Ch nmO ms) (Ch nmX ms) (Ch nmP ms)
def Lb (t:ByteArray):JR CD:=
 if 1024<t.size then .error 8 else if Lib.validD t.data.toList=false then .error 6 else match MW 8 (E1 t) with
  |.error e=>.error e
  |.ok ms=>PX ms
theorem Acm {G:Qi}{P:Program}{f:FuncId}{args vals:List PV}{us rs:List Value}(hs:Cx G P f args ⟨vals,[]⟩) (ha:Bc Yn args us)(hr:Bc Yn vals rs)
  {w:World} (hG:G.ok w) (hGl:∀k,G.bl k->k<w.heap.size):Calls P f us.toArray w fun e w'=>e=.returned (Gc rs)∧Below w.heap.size w w':=by
 have hi:Ins w (fun _=>False) HE args us:=⟨fun _ h=>h.elim,fun _ h=>h.elim,fun k h=>absurd h (Lu k),fun i j i' j' b o o' h=>(by cases h),fun i q h=>(by cases h),R4 ha⟩
 refine (hs.2 w _ _ _ hi hG (fun k hk=>⟨hGl k hk,Lu k⟩)).mono ?_
 rintro e w' ⟨ws,own,rfl,out⟩
 have hv:=Wk hr out.vals;subst hv;exact⟨rfl,out.os,out.tape,out.output,out.ext.size,fun k hk=>out.ext.keep k hk (Lu k)⟩
theorem SS (W:World)(s:List Int)(hW:okW W)(hB:Ds s)(hs:s.length<=1000000):Calls prog 32 #[.string (Ab s)] W fun e w'=>Below W.heap.size W w'∧∃o1 o2 o3,e=.returned (.tuple #[.agg #[.bool o1,.string o2,.int .i64 o3],.int .i64 (Fy s)]):=by
 obtain⟨o1,o2,o3,e⟩:=Af2 (fu:=1000001) (d:=0) (p:=none) hB hs (by omega)
 have hsd:Cx gU prog 32 [.sc (.string (Ab s))] ⟨[.agg ([Value.bool o1,.string o2,.int .i64 o3].map .sc),.sc (.int .i64 (Fy s))],[]⟩:=G2 ngR mxR Ajl 7 _ _ _ e;refine (Acm (us:=[.string (Ab s)]) (rs:=[.agg #[.bool o1,.string o2,.int .i64 o3],.int .i64 (Fy s)]) hsd ⟨.inl rfl,trivial⟩ ⟨.inr ⟨_,rfl,rfl⟩,.inl rfl,trivial⟩ hW.1 hW.2).mono ?_
 rintro e w' ⟨rfl,hb⟩
 exact⟨hb,o1,o2,o3,rfl⟩
theorem SL (W:World)(s:List Int)(hW:okW W)(hB:Ds s)(hs:s.length<=1000000):Calls prog 15 #[.string (Ab s)] W fun e w'=>Below W.heap.size W w'∧DbP W w' s e:=by
 have e:=KV (fu:=1000001) (d:=0) (p:=none) hB hs (by omega) (by omega)
 have hi:Ins W (fun _=>False) HE [.sc (.string (Ab s))] [.string (Ab s)]:=⟨fun _ h=>h.elim,fun _ h=>h.elim,fun k h=>absurd h (Lu k),fun i j i' j' b o o' h=>(by cases h),fun i q h=>(by cases h),R4 (show Bc Yn [.sc (.string (Ab s))] [.string (Ab s)] from ⟨.inl rfl,trivial⟩)⟩
 have hsd:Cx gU prog 15 [.sc (.string (Ab s))] _:=G2 ngR mxR Ajl 3 _ _ _ e;refine (hsd.2 W _ _ _ hi hW.1 (fun k hk=>⟨hW.2 k hk,Lu k⟩)).mono ?_
 rintro e w' ⟨ws,own,rfl,out⟩
 refine⟨⟨out.os,out.tape,out.output,out.ext.size,fun k hk=>out.ext.keep k hk (Lu k)⟩,?_⟩
 have hv:=out.vals;have UI:=out.fresh;generalize hA:Xo HE own (fun _=>False)=A at hv
 unfold DbP;cases hd:Ha s with
 |none=>
  rw[hd] at hv
  match ws,hv with
  |[u1,u2],hv=>
   obtain⟨h1,h2,_⟩:=hv;have e2:u2=.int .i64 2:=Aq.val (show Aq w' A (.sc (.int .i64 2)) u2 from h2)
   rcases (show E6 w' A (own 0) (.own 1 0 []) u1 from h1) with⟨_,_,_,ad,rfl⟩|⟨b,o,cap,ho,rfl,h⟩
   ·rw[e2];exact⟨ad,0,rfl⟩
   ·rw[e2];exact⟨_,cap,rfl⟩
  |[],hv=>exact hv.elim
  |[_],hv=>exact hv.2.elim
  |_::_::_::_,hv=>exact hv.2.2.elim
 |some b=>
  rw[hd] at hv
  match ws,hv with
  |[u1,u2],hv=>
   obtain⟨h1,h2,_⟩:=hv;have e2:u2=.int .i64 0:=Aq.val (show Aq w' A (.sc (.int .i64 0)) u2 from h2)
   rw[e2];rcases (show E6 w' A (own 0) (.own 1 b.length (D7 .u8 b)) u1 from h1) with⟨_,hn,_,ad,rfl⟩|⟨bb,o,cap,ho,rfl,hc,hf,B2,hr,hz⟩
   ·have Zj:b=[]:=List.eq_nil_of_length_eq_zero hn;subst Zj;exact⟨ad,0,rfl,fun h=>absurd rfl h⟩
   ·refine⟨some ⟨bb,o,none⟩,cap,rfl,fun _=>⟨⟨bb,o,none⟩,rfl,hc,?_,rfl,B2,fun j x hx=>?_⟩⟩
    ·have:=(UI 0 bb o ho).2;rcases Nat.lt_or_ge bb W.heap.size with q|q
     ·obtain⟨⟨i,k,o',h⟩,_⟩:=this q;cases h
     ·exact q
    ·have hj:(D7 .u8 b)[j]?=some (.sc (.int .u8 x)):=by
      rw[Lr,List.getElem?_map,hx];rfl
     obtain⟨v,hv1,_,hv2⟩:=hr j _ hj;rw[hv1];exact congrArg some hv2.val
  |[],hv=>exact hv.elim
  |[_],hv=>exact hv.2.elim
  |_::_::_::_,hv=>exact hv.2.2.elim
def PaP (w w':World)(t:ByteArray)(e:Ending):Prop:=ItP w w' (Lb t) e
theorem IB {R:Ending->World->Prop}{a:Act}{W:World}{v:Value}{b:Nat}(h2:a.tmps.getD 2 undef=.pointer (some ⟨b,0,none⟩)) (hd:a.defers=[]) (hl:(loadVar 36 ⟨b,0,none⟩).run prog W=.ok v W) (hR:R (.returned (.tuple #[v,a.tmps.getD 3 undef])) W):bodyPost prog Tryd.f19 R .ret a W:=by
 refine bodyPost_ret ?_ hd hR;rw[results_cell_tmp rfl,h2];have e:(asAddr (.pointer (some ⟨b,0,none⟩))).run prog W=.ok ⟨b,0,none⟩ W:=rfl;rw[e,Result.andThen_ok,hl,Result.andThen_ok]
def VsP (w w':World)(t:ByteArray)(e:Ending):Prop:=e=.returned (.bool (Lib.validD t.data.toList))∧Below w.heap.size w w'
def RtQ (w w':World)(t:ByteArray)(e:Ending):Prop:=Below w.heap.size w w'∧RtP w' (E1 t) e
def ItQ (w w':World)(r:JR CD)(e:Ending):Prop:=Below w.heap.size w w'∧ItP w w' r e
set_option maxHeartbeats 4000000 in
theorem Acg {t:ByteArray}(ht:t.size<=9223372036854775807){w:World}(hU:okW w):Calls prog 19 #[.string t] w fun e w'=>Below w.heap.size w w'∧PaP w w' t e:=by
 have mixed:prog.follows Departure.mixedOrders=true:=by kernel_rfl
 have Eb:Below w.heap.size w (w.alloc (.cells #[.int .i64 0,.slice none 0 0,.string ⟨#[]⟩,.bool false,.string ⟨#[]⟩] 36)):=(Below.refl _ w).alloc (Nat.le_refl _) _;have UC:=al1 w (.cells #[.int .i64 0,.slice none 0 0,.string ⟨#[]⟩,.bool false,.string ⟨#[]⟩] 36);have UD:(w.alloc (.cells #[.int .i64 0,.slice none 0 0,.string ⟨#[]⟩,.bool false,.string ⟨#[]⟩] 36)).heap.size=w.heap.size+1:=Array.size_push _;have Y1:RC (w.alloc (.cells #[.int .i64 0,.slice none 0 0,.string ⟨#[]⟩,.bool false,.string ⟨#[]⟩] 36)) w.heap.size:=UQ UC;have hU1:=hU.below Eb
 have hvc:Calls prog 33 #[.string t] (w.alloc (.cells #[.int .i64 0,.slice none 0 0,.string ⟨#[]⟩,.bool false,.string ⟨#[]⟩] 36)) fun e w'=>VsP (w.alloc (.cells #[.int .i64 0,.slice none 0 0,.string ⟨#[]⟩,.bool false,.string ⟨#[]⟩] 36)) w' t e:=(Any.utf8_ValidString laysVS t (w.alloc (.cells #[.int .i64 0,.slice none 0 0,.string ⟨#[]⟩,.bool false,.string ⟨#[]⟩] 36)) ht hU1.1.2.2).mono (fun _ _ h=>h)
 go_enter Tryd.func19,Tryd.ntmps19
 by_cases Dd:1024<t.size
 ·have hI:Lb t=.error 8:=by unfold Lb;rw[Fa Dd]
  have hq:(t.size:Int)>1024:=by omega
  go_wp2
  (try simp only[Exit.inBlock,Exit.then])
  obtain⟨⟨r0,r1,r2,r3,r4⟩,_⟩:=Y1;exact IB (b:=w.heap.size) rfl rfl (DS r0 r1 r2 r3 r4) ⟨Eb,by unfold PaP;rw[hI];exact⟨by decide,rfl⟩⟩
 have hq:¬(t.size:Int)>1024:=by omega
 go_wp2_with (go_at_call 33;refine hvc.mono ?_)
 rintro e W2 ⟨rfl,Gl⟩
 have Abp:Below w.heap.size w W2:=Eb.trans (Gl.mono Eb.size);have Z6:=Y1.below Gl (by rw[UD];omega)
 have Po:w.heap.size+1<=W2.heap.size:=by have:=Gl.size;rw[UD] at this;exact this
 have hw2:w.heap.size<W2.heap.size:=by omega
 have hU2:=hU.below Abp;cases hvd:Lib.validD t.data.toList with
 |false=>
  have hI:Lb t=.error 6:=by unfold Lb;rw[D1 Dd,hvd,Fa rfl]
  obtain⟨⟨r0,r1,r2,r3,r4⟩,s0,s1,s2,s3,s4⟩:=id Z6
  go_wp2
  (try simp only[Exit.inBlock,Exit.then])
  exact IB (b:=w.heap.size) rfl rfl (Tz W2 w.heap.size _ _ _ _ _ Z6.some) ⟨Hj Abp (Nat.le_refl _) _ _ _ _ _,by unfold PaP;rw[hI];exact⟨by decide,rfl⟩⟩
 |true=>
  have Vo:Lb t=match MW 8 (E1 t) with | .error e=>.error e | .ok ms=>PX ms:=by unfold Lb;rw[D1 Dd,hvd,D1 (by decide)]
  have hrt:Calls prog 34 #[.string t] W2 fun e w'=>RtQ W2 w' t e:=Aa5 (by omega) hU2.1 hU2.2
  go_wp2_with (go_at_call 34;refine hrt.mono ?_)
  rintro e W3 ⟨Qr,DE⟩
  have Rb:Below w.heap.size w W3:=Abp.trans (Qr.mono Abp.size);have PL:=Z6.below Qr hw2;have hw3:w.heap.size<W3.heap.size:=Nat.lt_of_lt_of_le hw2 Qr.size;have hU3:=hU.below Rb;unfold RtP at DE;cases Aj7:MW 8 (E1 t) with
  |error er=>
   rw[Aj7] at DE Vo;obtain⟨he,m,rfl⟩:=DE;have hbe:(er != (0:Int))=true:=by simp[he]
   obtain⟨⟨r0,r1,r2,r3,r4⟩,s0,s1,s2,s3,s4⟩:=id PL
   go_wp2
   (try simp only[Exit.inBlock,Exit.then])
   exact IB (b:=w.heap.size) rfl rfl (Tz W3 w.heap.size _ _ _ _ _ PL.some) ⟨Hj Rb (Nat.le_refl _) _ _ _ _ _,by unfold PaP;rw[Vo];exact⟨he,rfl⟩⟩
  |ok ms=>
   rw[Aj7] at DE Vo;obtain⟨mb,rfl,hM3⟩:=DE;have Kj:(E1 t).length<=1000000:=by rw[Hi];omega
   have hok:=Abr (MZ t) Kj Aj7;have hl4:4*(E1 t).length<=1000000:=by rw[Hi];omega
   have Xe:Calls prog 35 #[.map (some mb)] W3 fun e w'=>ItQ W3 w' (PX ms) e:=Adv SL SS (fun m hm=>(hok m hm).1.1) (fun m hm=>⟨(hok m hm).2.1,by have:=(hok m hm).2.2;omega⟩) hU3 hM3
   go_wp2_with (go_at_call 35;refine Xe.mono ?_)
   rintro e W4 ⟨hb4,hp4⟩
   have Vh:Below w.heap.size w W4:=Rb.trans (hb4.mono Rb.size);have FH:=PL.below hb4 hw3;have hw4:w.heap.size<W4.heap.size:=Nat.lt_of_lt_of_le hw3 hb4.size;unfold ItP at hp4;cases KJ:PX ms with
   |error er=>
    rw[KJ] at hp4 Vo;obtain⟨he,rfl⟩:=hp4;have hbe:(er != (0:Int))=true:=by simp[he]
    obtain⟨⟨r0,r1,r2,r3,r4⟩,s0,s1,s2,s3,s4⟩:=id FH
    go_wp2
    (try simp only[Exit.inBlock,Exit.then])
    exact IB (b:=w.heap.size) rfl rfl (J3 W4 w.heap.size hw4 _ _ _ _ _ _ FH) ⟨Fx Vh (Nat.le_refl _) Vh.size _ _ _ _ _ _,by unfold PaP;rw[Vo];exact⟨he,rfl⟩⟩
   |ok x=>
    obtain⟨k,b,o,x,p⟩:=x;rw[KJ] at hp4 Vo;obtain⟨ad,cap,rfl,hc,hwa,YS⟩:=hp4;obtain⟨⟨r0,r1,r2,r3,r4⟩,s0,s1,s2,s3,s4⟩:=id FH
    go_wp2
    (try simp only[Exit.inBlock,Exit.then])
    exact IB (b:=w.heap.size) rfl rfl (J3 W4 w.heap.size hw4 _ _ _ _ _ _ FH) ⟨Fx Vh (Nat.le_refl _) Vh.size _ _ _ _ _ _,by unfold PaP;rw[Vo];exact⟨ad,cap,rfl,hc,by omega,YS.set5al (by omega)⟩⟩
def Hd (args:List PV):Option A4:=
 match args with
 |[.sc (.string t)]=>bif decide (t.size<=9223372036854775807) then some (match Lb t with
  |.ok (k,b,o,x,p)=>⟨[.agg [.sc (.int .i64 k),.lst false 1 b.length (D7 .u8 b),.sc (.string (Ab o)),.sc (.bool x),.sc (.string (Ab p))],.sc (.int .i64 0)],[]⟩
  |.error e=>⟨[.agg [.sc (.int .i64 0),.lst false 1 0 [],.sc (.string ⟨#[]⟩),.sc (.bool false),.sc (.string ⟨#[]⟩)],.sc (.int .i64 e)],[]⟩) else none
 |_=>none
theorem Wb {w w':World}{Y:Nat->Prop}{bt:Ss}{args vals:List PV}{vs:List Value}(hb:Below w.heap.size w w')(hv:Z7 w' (Xo bt (fun _=>none) Y) (fun _=>none) w.heap.size 0 vals vs) (ho:Px w' (Xo bt (fun _=>none) Y) (fun _=>none) bt (Iz vals) 0 args []):
  Out w w' Y bt args (fun _=>none) ⟨vals,[]⟩ vs where
 os:=hb.os
 tape:=hb.tape
 output:=hb.output
 ext:=⟨hb.size,fun b h _=>hb.block b h,fun b h=>Fz.same (hb.block b h)⟩
 rng:=fun b j h _=>⟨by unfold World.cell?;simp only[hb.block b h],by unfold World.frozen?;simp only[hb.block b h]⟩
 vals:=hv
 outs:=ho
 fresh:=fun j b o h=>by cases h
 inj:=fun j j' b o o' h=>by cases h
theorem GP (args:List PV)(res:A4)(h:Hd args=some res):Cx gU prog 19 args res:=by
 refine⟨⟨_,Tryd.func19,by kernel_rfl⟩,fun w Y bt us hi hok hgl=>?_⟩
 unfold Hd at h;split at h
 rotate_left
 ·cases h
 rename_i t;cases hq:decide (t.size<=9223372036854775807)
 ·rw[hq] at h;cases h
 rw[hq,cond_true] at h;have hs:=of_decide_eq_true hq;have ps:=hi.args
 match us,ps with
 |[u],ps=>
  have hu:u=.string t:=Aq.val (show Aq w _ (.sc (.string t)) u from ps.1.2)
  subst hu;refine (Acg hs ⟨hok,fun k hk=>(hgl k hk).1⟩).mono ?_
  rintro e w' ⟨hb,hp⟩
  unfold PaP at hp;unfold ItP at hp;cases Va:Lb t with
  |error er=>
   rw[Va] at hp h;obtain⟨_,rfl⟩:=hp;cases h;refine⟨[.agg #[.int .i64 0,.slice none 0 0,.string ⟨#[]⟩,.bool false,.string ⟨#[]⟩],.int .i64 er],fun _=>none,rfl,Wb hb ⟨⟨_,rfl,?_⟩,Aq.sc _,trivial⟩ rfl⟩
   exact⟨Aq.sc _,Aq.lnil _ _,Aq.sc _,Aq.sc _,Aq.sc _,trivial⟩
  |ok x=>
   obtain⟨k,b,o,x,p⟩:=x;rw[Va] at hp h;obtain⟨ad,cap,rfl,hc,hwa,YS⟩:=hp;cases h;refine⟨[.agg #[.int .i64 k,.slice (some ad) b.length cap,.string (Ab o),.bool x,.string (Ab p)],.int .i64 0],fun _=>none,rfl,Wb hb ⟨⟨_,rfl,?_⟩,Aq.sc _,trivial⟩ rfl⟩
   refine⟨Aq.sc _,?_,Aq.sc _,Aq.sc _,Aq.sc _,trivial⟩;refine Aq.lst 1 b.length (D7 .u8 b) ad cap (fun j=>.int .u8 (b.getD j 0)) YS.1 YS.2.1 ?_ hc ?_ ?_ ?_
   ·rintro (⟨j,o,h⟩|⟨i,o,h⟩|h)
    ·cases h
    ·have:=hi.lt ad.block ⟨i,0,o,h⟩;omega
    ·have:=hi.Ylt _ h;omega
   ·intro j c hj;rw[Lr,List.getElem?_map] at hj;obtain⟨y,hy,rfl⟩:=Option.map_eq_some_iff.1 hj;rw[YS.2.2 j y hy];simp[List.getD_eq_getElem?_getD,hy]
   ·intro j c hj;rfl
   ·intro j c hj;rw[Lr,List.getElem?_map] at hj;obtain⟨y,hy,rfl⟩:=Option.map_eq_some_iff.1 hj;have:b.getD j 0=y:=by simp[List.getD_eq_getElem?_getD,hy]
    rw[this];exact Aq.sc _
 |[],ps=>exact ps.elim
 |_::_::_,ps=>exact ps.2.elim
abbrev C1:Fk:=CP (some Hd)
theorem extV:BV gU prog C1:=Aes (fun g h args res hg=>by cases h;exact GP args res hg)
end
section
open Go.Proofs.Tryd (prog)
open Go.IntKind (wrap)
set_option maxRecDepth 100000
abbrev Lm:FuncId:=20
theorem Ld {p:Option (List PV->Option A4)} (fu d:Nat)(Cd:Int)(Mz:Nat)(B7:List PV)(Sg:ByteArray)(Zw:Bool)(M2:ByteArray)(Aor:Int)(Afa:Nat)(Aiu:List PV)(Amw:ByteArray)(Aop:Bool)(Ap4:ByteArray):Af (CP p) prog fu (d+1) Lm [.agg [.sc (.int .i64 Cd),.lst false 1 Mz B7,.sc (.string Sg),.sc (.bool Zw),.sc (.string M2)],.agg [.sc (.int .i64 Aor),.lst false 1 Afa Aiu,.sc (.string Amw),.sc (.bool Aop),.sc (.string Ap4)]]=(fun (call:A7)=>Bi (Cd==Aor) (Bl (decide (B7.length=Mz))<|Dg (Gq B7) fun x1=>Bl (decide (Aiu.length=Afa))<|Dg (Gq Aiu) fun x2=>Bi (Array.toList (ByteArray.data (ByteArray.mk (List.toArray x1)))==Array.toList (ByteArray.data (ByteArray.mk (List.toArray x2)))) (Bi (Array.toList (ByteArray.data Sg)==Array.toList (ByteArray.data Amw)) (Bi (Zw==Aop) (some (A4.mk [.sc (.bool (Array.toList (ByteArray.data M2)==Array.toList (ByteArray.data Ap4)))] [])) (some (A4.mk [.sc (.bool false)] []))) (some (A4.mk [.sc (.bool false)] []))) (some (A4.mk [.sc (.bool false)] []))) (some (A4.mk [.sc (.bool false)] []))) (Af (CP p) prog fu d):=by kernel_rfl
abbrev O9:FuncId:=18
theorem Pe {p:Option (List PV->Option A4)} (fu d:Nat)(Cd:Int)(Mz:Nat)(B7:List PV)(Sg:ByteArray)(Zw:Bool)(M2:ByteArray):Af (CP p) prog fu (d+1) O9 [.agg [.sc (.int .i64 Cd),.lst false 1 Mz B7,.sc (.string Sg),.sc (.bool Zw),.sc (.string M2)]]=(fun (call:A7)=>Bi (Cd==1) (Bi (decide ((↑Mz:Int)<1)) (some (A4.mk [.sc (.string (ByteArray.mk #[])),.sc (.int .i64 9)] [])) (Bi (decide ((↑Mz:Int)>64)) (some (A4.mk [.sc (.string (ByteArray.mk #[])),.sc (.int .i64 9)] [])) (Aj (call 32 [.sc (.string Sg)]) fun x1 x2=>Ad x2<|Aa x1 fun x3 x4=>Gw x3 fun x5=>Aa x5 fun x6 x7=>Ap x6 fun x8=>Aa x7 fun x9 Gp=>Ax x9 fun Pb=>Aa Gp fun Pp Ga=>Aw .i64 Pp fun L4=>Ad Ga<|Aa x4 fun Pt M7=>Aw .i64 Pt fun Lw=>Ad M7<|Bi (Lw != 0) (some (A4.mk [.sc (.string (ByteArray.mk #[])),.sc (.int .i64 Lw)] [])) (Bi (!Array.toList (ByteArray.data M2)==Array.toList (ByteArray.data (ByteArray.mk #[]))) (Bi (!Zw) (some (A4.mk [.sc (.string (ByteArray.mk #[])),.sc (.int .i64 4)] [])) (Aj (call 12 [.lst false 1 Mz B7]) fun O6 Pn=>Ad Pn<|Aa O6 fun Oc N6=>Ax Oc fun Qz=>Ad N6<|Bl (decide (38+ByteArray.size Qz<=9223372036854775807))<|Ac (ByteArray.mk #[123,34,116,121,112,101,34,58,34]++ByteArray.mk #[112,97,115,115,107,101,121,46,99,114,101,97,116,101]++ByteArray.mk #[34,44,34,99,104,97,108,108,101,110,103,101,34,58,34]++Qz) fun M0=>Bl (decide (ByteArray.size M0+12<=9223372036854775807))<|Ac (M0++ByteArray.mk #[34,44,34,111,114,105,103,105,110,34,58,34]) fun Qv=>Bl (decide (ByteArray.size Qv+ByteArray.size Sg<=9223372036854775807))<|Ac (Qv++Sg) fun N8=>Bi (!Zw) (Bl (decide (ByteArray.size N8+22<=9223372036854775807))<|Ac (N8++ByteArray.mk #[34,44,34,99,114,111,115,115,79,114,105,103,105,110,34,58,102,97,108,115,101,125]) fun Ol=>some (A4.mk [.sc (.string Ol),.sc (.int .i64 0)] [])) (Aj (call 32 [.sc (.string M2)]) fun P6 Sm=>Ad Sm<|Aa P6 fun Nl Q2=>Gw Nl fun Sp=>Aa Sp fun R9 Sr=>Ap R9 fun Sy=>Aa Sr fun Tp Ug=>Ax Tp fun Vs=>Aa Ug fun Wc Ql=>Aw .i64 Wc fun BH=>Ad Ql<|Aa Q2 fun BU Qy=>Aw .i64 BU fun Pq=>Ad Qy<|Bi (Pq != 0) (some (A4.mk [.sc (.string (ByteArray.mk #[])),.sc (.int .i64 Pq)] [])) (Bl (decide (ByteArray.size N8+34<=9223372036854775807))<|Ac (N8++ByteArray.mk #[34,44,34,99,114,111,115,115,79,114,105,103,105,110,34,58,116,114,117,101,44,34,116,111,112,79,114,105,103,105,110,34,58,34]) fun Zb=>Bl (decide (ByteArray.size Zb+ByteArray.size M2<=9223372036854775807))<|Ac (Zb++M2) fun Y5=>Bl (decide (ByteArray.size Y5+2<=9223372036854775807))<|Ac (Y5++ByteArray.mk #[34,125]) fun DD=>some (A4.mk [.sc (.string DD),.sc (.int .i64 0)] []))))) (Aj (call 12 [.lst false 1 Mz B7]) fun AA DH=>Ad DH<|Aa AA fun Zm Y2=>Ax Zm fun Z1=>Ad Y2<|Bl (decide (38+ByteArray.size Z1<=9223372036854775807))<|Ac (ByteArray.mk #[123,34,116,121,112,101,34,58,34]++ByteArray.mk #[112,97,115,115,107,101,121,46,99,114,101,97,116,101]++ByteArray.mk #[34,44,34,99,104,97,108,108,101,110,103,101,34,58,34]++Z1) fun AC=>Bl (decide (ByteArray.size AC+12<=9223372036854775807))<|Ac (AC++ByteArray.mk #[34,44,34,111,114,105,103,105,110,34,58,34]) fun EV=>Bl (decide (ByteArray.size EV+ByteArray.size Sg<=9223372036854775807))<|Ac (EV++Sg) fun DV=>Bi (!Zw) (Bl (decide (ByteArray.size DV+22<=9223372036854775807))<|Ac (DV++ByteArray.mk #[34,44,34,99,114,111,115,115,79,114,105,103,105,110,34,58,102,97,108,115,101,125]) fun NQ=>some (A4.mk [.sc (.string NQ),.sc (.int .i64 0)] [])) (Aj (call 32 [.sc (.string M2)]) fun MC KE=>Ad KE<|Aa MC fun KM NW=>Gw KM fun LT=>Aa LT fun MR UM=>Ap MR fun x63=>Aa UM fun ZH UA=>Ax ZH fun ZQ=>Aa UA fun UJ YZ=>Aw .i64 UJ fun x69=>Ad YZ<|Aa NW fun UO UE=>Aw .i64 UO fun QN=>Ad UE<|Bi (QN != 0) (some (A4.mk [.sc (.string (ByteArray.mk #[])),.sc (.int .i64 QN)] [])) (Bl (decide (ByteArray.size DV+34<=9223372036854775807))<|Ac (DV++ByteArray.mk #[34,44,34,99,114,111,115,115,79,114,105,103,105,110,34,58,116,114,117,101,44,34,116,111,112,79,114,105,103,105,110,34,58,34]) fun UK=>Bl (decide (ByteArray.size UK+ByteArray.size M2<=9223372036854775807))<|Ac (UK++M2) fun UH=>Bl (decide (ByteArray.size UH+2<=9223372036854775807))<|Ac (UH++ByteArray.mk #[34,125]) fun WZ=>some (A4.mk [.sc (.string WZ),.sc (.int .i64 0)] [])))))))) (Bi (Cd==2) (Bi (decide ((↑Mz:Int)<1)) (some (A4.mk [.sc (.string (ByteArray.mk #[])),.sc (.int .i64 9)] [])) (Bi (decide ((↑Mz:Int)>64)) (some (A4.mk [.sc (.string (ByteArray.mk #[])),.sc (.int .i64 9)] [])) (Aj (call 32 [.sc (.string Sg)]) fun x76 x77=>Ad x77<|Aa x76 fun x78 x79=>Gw x78 fun x80=>Aa x80 fun x81 x82=>Ap x81 fun x83=>Aa x82 fun x84 x85=>Ax x84 fun x86=>Aa x85 fun x87 x88=>Aw .i64 x87 fun x89=>Ad x88<|Aa x79 fun x90 x91=>Aw .i64 x90 fun x92=>Ad x91<|Bi (x92 != 0) (some (A4.mk [.sc (.string (ByteArray.mk #[])),.sc (.int .i64 x92)] [])) (Bi (!Array.toList (ByteArray.data M2)==Array.toList (ByteArray.data (ByteArray.mk #[]))) (Bi (!Zw) (some (A4.mk [.sc (.string (ByteArray.mk #[])),.sc (.int .i64 4)] [])) (Aj (call 12 [.lst false 1 Mz B7]) fun x93 x94=>Ad x94<|Aa x93 fun x95 x96=>Ax x95 fun YL=>Ad x96<|Bl (decide (35+ByteArray.size YL<=9223372036854775807))<|Ac (ByteArray.mk #[123,34,116,121,112,101,34,58,34]++ByteArray.mk #[112,97,115,115,107,101,121,46,103,101,116]++ByteArray.mk #[34,44,34,99,104,97,108,108,101,110,103,101,34,58,34]++YL) fun x98=>Bl (decide (ByteArray.size x98+12<=9223372036854775807))<|Ac (x98++ByteArray.mk #[34,44,34,111,114,105,103,105,110,34,58,34]) fun x99=>Bl (decide (ByteArray.size x99+ByteArray.size Sg<=9223372036854775807))<|Ac (x99++Sg) fun U8=>Bi (!Zw) (Bl (decide (ByteArray.size U8+22<=9223372036854775807))<|Ac (U8++ByteArray.mk #[34,44,34,99,114,111,115,115,79,114,105,103,105,110,34,58,102,97,108,115,101,125]) fun EA=>some (A4.mk [.sc (.string EA),.sc (.int .i64 0)] [])) (Aj (call 32 [.sc (.string M2)]) fun Zf FC=>Ad FC<|Aa Zf fun DX EI=>Gw DX fun Zr=>Aa Zr fun Zq KS=>Ap Zq fun LW=>Aa KS fun HL LB=>Ax HL fun RX=>Aa LB fun NF MB=>Aw .i64 NF fun RI=>Ad MB<|Aa EI fun KN KO=>Aw .i64 KN fun IC=>Ad KO<|Bi (IC != 0) (some (A4.mk [.sc (.string (ByteArray.mk #[])),.sc (.int .i64 IC)] [])) (Bl (decide (ByteArray.size U8+34<=9223372036854775807))<|Ac (U8++ByteArray.mk #[34,44,34,99,114,111,115,115,79,114,105,103,105,110,34,58,116,114,117,101,44,34,116,111,112,79,114,105,103,105,110,34,58,34]) fun KC=>Bl (decide (ByteArray.size KC+ByteArray.size M2<=9223372036854775807))<|Ac (KC++M2) fun JY=>Bl (decide (ByteArray.size JY+2<=9223372036854775807))<|Ac (JY++ByteArray.mk #[34,125]) fun NL=>some (A4.mk [.sc (.string NL),.sc (.int .i64 0)] []))))) (Aj (call 12 [.lst false 1 Mz B7]) fun MD NJ=>Ad NJ<|Aa MD fun LU MY=>Ax LU fun GA=>Ad MY<|Bl (decide (35+ByteArray.size GA<=9223372036854775807))<|Ac (ByteArray.mk #[123,34,116,121,112,101,34,58,34]++ByteArray.mk #[112,97,115,115,107,101,121,46,103,101,116]++ByteArray.mk #[34,44,34,99,104,97,108,108,101,110,103,101,34,58,34]++GA) fun GT=>Bl (decide (ByteArray.size GT+12<=9223372036854775807))<|Ac (GT++ByteArray.mk #[34,44,34,111,114,105,103,105,110,34,58,34]) fun JN=>Bl (decide (ByteArray.size JN+ByteArray.size Sg<=9223372036854775807))<|Ac (JN++Sg) fun Zv=>Bi (!Zw) (Bl (decide (ByteArray.size Zv+22<=9223372036854775807))<|Ac (Zv++ByteArray.mk #[34,44,34,99,114,111,115,115,79,114,105,103,105,110,34,58,102,97,108,115,101,125]) fun HM=>some (A4.mk [.sc (.string HM),.sc (.int .i64 0)] [])) (Aj (call 32 [.sc (.string M2)]) fun LM LE=>Ad LE<|Aa LM fun GS MK=>Gw GS fun KW=>Aa KW fun LI MS=>Ap LI fun TV=>Aa MS fun OE HU=>Ax OE fun RJ=>Aa HU fun KZ FF=>Aw .i64 KZ fun QP=>Ad FF<|Aa MK fun NM JE=>Aw .i64 NM fun JX=>Ad JE<|Bi (JX != 0) (some (A4.mk [.sc (.string (ByteArray.mk #[])),.sc (.int .i64 JX)] [])) (Bl (decide (ByteArray.size Zv+34<=9223372036854775807))<|Ac (Zv++ByteArray.mk #[34,44,34,99,114,111,115,115,79,114,105,103,105,110,34,58,116,114,117,101,44,34,116,111,112,79,114,105,103,105,110,34,58,34]) fun JG=>Bl (decide (ByteArray.size JG+ByteArray.size M2<=9223372036854775807))<|Ac (JG++M2) fun IA=>Bl (decide (ByteArray.size IA+2<=9223372036854775807))<|Ac (IA++ByteArray.mk #[34,125]) fun GY=>some (A4.mk [.sc (.string GY),.sc (.int .i64 0)] [])))))))) (some (A4.mk [.sc (.string (ByteArray.mk #[])),.sc (.int .i64 3)] [])))) (Af (CP p) prog fu d):=by kernel_rfl
abbrev Il:FuncId:=8
theorem N0 {p:Option (List PV->Option A4)} (fu d:Nat):Af (CP p) prog fu (d+1) Il []=(fun (call:A7)=>Aj (call 18 [.agg [.sc (.int .i64 2),.lst false 1 2 [.sc (.int .u8 251),.sc (.int .u8 255)],.sc (.string (ByteArray.mk #[104,116,116,112,115,58,47,47,97,46,98])),.sc (.bool false),.sc (.string (ByteArray.mk #[]))]]) fun x1 x2=>Ad x2<|Aa x1 fun x3 x4=>Ax x3 fun x5=>Aa x4 fun x6 x7=>Aw .i64 x6 fun x8=>Ad x7<|Aj (call 19 [.sc (.string x5)]) fun x9 Gp=>Ad Gp<|Aa x9 fun Pb Pp=>Gw Pb fun Ga=>Aa Ga fun L4 Pt=>Aw .i64 L4 fun M7=>Aa Pt fun Lw O6=>Pz 1 Lw fun Pn Oc N6=>Aa O6 fun Qz M0=>Ax Qz fun Qv=>Aa M0 fun N8 Ol=>Ap N8 fun P6=>Aa Ol fun Sm Nl=>Ax Sm fun Q2=>Ad Nl<|Aa Pp fun Sp R9=>Aw .i64 Sp fun Sr=>Ad R9<|Bi (x8==0) (Bi (Sr==0) (Bi (Array.toList (ByteArray.data x5)==Array.toList (ByteArray.data (ByteArray.mk (List.toArray (List.append [123,34,116,121,112,101,34,58,34,112,97,115,115,107,101,121,46,103,101,116,34,44,34,99,104,97,108,108,101,110,103,101,34,58,34,45,95,56,34,44,34] [111,114,105,103,105,110,34,58,34,104,116,116,112,115,58,47,47,97,46,98,34,44,34,99,114,111,115,115,79,114,105,103,105,110,34,58,102,97,108,115,101,125]))))) (Aj (call 20 [.agg [.sc (.int .i64 2),.lst false 1 2 [.sc (.int .u8 251),.sc (.int .u8 255)],.sc (.string (ByteArray.mk #[104,116,116,112,115,58,47,47,97,46,98])),.sc (.bool false),.sc (.string (ByteArray.mk #[]))],.agg [.sc (.int .i64 M7),.lst false 1 Oc N6,.sc (.string Qv),.sc (.bool P6),.sc (.string Q2)]]) fun Sy Tp=>Ad Tp<|Aa Sy fun Ug Vs=>Ap Ug fun Wc=>Ad Vs<|some (A4.mk [.sc (.bool Wc)] [])) (some (A4.mk [.sc (.bool false)] []))) (some (A4.mk [.sc (.bool false)] []))) (some (A4.mk [.sc (.bool false)] []))) (Af (CP p) prog fu d):=by kernel_rfl
abbrev Fp:FuncId:=4
theorem Jo {p:Option (List PV->Option A4)} (fu d a0n:Nat)(a0:List PV)(a1:ByteArray):Af (CP p) prog fu (d+1) Fp [.lst false 1 a0n a0,.sc (.string a1)]=(fun (call:A7)=>Bi (decide ((↑a0n:Int)>300)) (Aj (call 8 []) fun x1 x2=>Ad x2<|Aa x1 fun x3 x4=>Ap x3 fun x5=>Ad x4<|some (A4.mk [.sc (.bool x5)] [])) (Bi (decide ((↑(ByteArray.size a1):Int)>300)) (Aj (call 8 []) fun x6 x7=>Ad x7<|Aa x6 fun x8 x9=>Ap x8 fun Gp=>Ad x9<|some (A4.mk [.sc (.bool Gp)] [])) (Aj (call 12 [.lst false 1 a0n a0]) fun Pb Pp=>Ad Pp<|Aa Pb fun Ga L4=>Ax Ga fun Pt=>Ad L4<|Aj (call 15 [.sc (.string Pt)]) fun M7 Lw=>Ad Lw<|Aa M7 fun O6 Pn=>FM 1 O6 fun Oc N6=>Aa Pn fun Qz M0=>Aw .i64 Qz fun Qv=>Ad M0<|Aj (call 15 [.sc (.string a1)]) fun N8 Ol=>Ad Ol<|Aa N8 fun P6 Sm=>FM 1 P6 fun Nl Q2=>Aa Sm fun Sp R9=>Aw .i64 Sp fun Sr=>Ad R9<|Bi (Qv==0) (Bl (decide (0+Oc*1<=N6.length))<|Bl (decide (List.length (List.take (Oc*1) (List.drop 0 N6))=Oc))<|Dg (Gq (List.take (Oc*1) (List.drop 0 N6))) fun Sy=>Bl (decide (a0.length=a0n))<|Dg (Gq a0) fun Tp=>Bi (Array.toList (ByteArray.data (ByteArray.mk (List.toArray Sy)))==Array.toList (ByteArray.data (ByteArray.mk (List.toArray Tp)))) (Ac (wrap .i64 (4*(↑a0n:Int))) fun Ug=>Ac (wrap .i64 (Ug+2)) fun Vs=>Ac (wrap .i64 (Int.tdiv Vs 3)) fun Wc=>Bi ((↑(ByteArray.size Pt):Int)==Wc) (Bi (Sr != 0) (Aj (call 8 []) fun Ql BH=>Ad BH<|Aa Ql fun BU Qy=>Ap BU fun Pq=>Ad Qy<|some (A4.mk [.sc (.bool Pq)] [])) (Bl (decide (0+Nl*1<=Q2.length))<|Aj (call 12 [.lst false 1 Nl (List.take (Nl*1) (List.drop 0 Q2))]) fun Zb Y5=>Ad Y5<|Aa Zb fun DD AA=>Ax DD fun DH=>Ad AA<|Bi (Array.toList (ByteArray.data DH)==Array.toList (ByteArray.data a1)) (Aj (call 8 []) fun Zm Y2=>Ad Y2<|Aa Zm fun Z1 AC=>Ap Z1 fun EV=>Ad AC<|some (A4.mk [.sc (.bool EV)] [])) (some (A4.mk [.sc (.bool false)] [])))) (some (A4.mk [.sc (.bool false)] []))) (some (A4.mk [.sc (.bool false)] []))) (some (A4.mk [.sc (.bool false)] []))))) (Af (CP p) prog fu d):=by kernel_rfl
end
section
open Go.IntKind (wrap)
set_option maxRecDepth 100000
section
variable {fu d:Nat} {p:Option (List PV->Option A4)}
theorem Aeo:∀{l:List Int},Ds l->Ds (Gd l)
 |[],_=>fun x hx=>nomatch hx
 |[a],h=>by
  obtain⟨ha,_⟩:=Bm h;intro x hx;simp[Gd] at hx;rcases hx with rfl|rfl<;>apply Xm<;>omega
 |[a,b],h=>by
  obtain⟨ha,h⟩:=Bm h;obtain⟨hb,_⟩:=Bm h;intro x hx;simp[Gd] at hx;rcases hx with rfl|rfl|rfl<;>apply Xm<;>omega
 |a::b::c::r,h=>by
  obtain⟨ha,h⟩:=Bm h;obtain⟨hb,h⟩:=Bm h;obtain⟨hc,h⟩:=Bm h;intro x hx;have e:Gd (a::b::c::r)=Fi (a / 4)::Fi (a % 4*16+b / 16)::Fi (b % 16*4+c / 64)::Fi (c % 64)::Gd r:=rfl;rw[e] at hx;rcases List.mem_cons.1 hx with rfl|hx
  ·apply Xm<;>omega
  rcases List.mem_cons.1 hx with rfl|hx
  ·apply Xm<;>omega
  rcases List.mem_cons.1 hx with rfl|hx
  ·apply Xm<;>omega
  rcases List.mem_cons.1 hx with rfl|hx
  ·apply Xm<;>omega
  exact Aeo h x hx
end
end
section
open Go.Proofs.Tryd (prog)
open Go.IntKind (wrap)
set_option maxRecDepth 100000
def awT:List Int:=[123,34,116,121,112,101,34,58,34,112,97,115,115,107,101,121,46,103,101,116,34,44,34,99,104,97,108,108,101,110,103,101,34,58,34,45,95,56,34,44,34,111,114,105,103,105,110,34,58,34,104,116,116,112,115,58,47,47,97,46,98,34,44,34,99,114,111,115,115,79,114,105,103,105,110,34,58,102,97,108,115,101,125]
def awO:List Int:=[104,116,116,112,115,58,47,47,97,46,98]
theorem Aeg:Fy awO=0:=by decide +kernel
theorem QZ:Lb (Ab awT)=.ok (2,[251,255],awO,false,[]):=by kernel_rfl
section
variable {fu d:Nat}
theorem Aba (Gr:200<=fu):Af C1 prog fu (d+9) Il []=some ⟨[.sc (.bool true)],[]⟩:=by
 obtain⟨o1,o2,o3,ho⟩:=Af2 (fu:=fu) (d:=d) (p:=some Hd) (l:=awO) (fun x hx=>by simp[awO] at hx;omega) (by decide) Gr
 rw[Aeg] at ho;have h32:Af C1 prog fu (d+7) 32 [.sc (.string (ByteArray.mk #[(104:UInt8),(116:UInt8),(116:UInt8),(112:UInt8),(115:UInt8),(58:UInt8),(47:UInt8),(47:UInt8),(97:UInt8),(46:UInt8),(98:UInt8)]))]=_:=ho;have h12:Af C1 prog fu (d+7) 12 [.lst false 1 2 [.sc (.int .u8 251),.sc (.int .u8 255)]]=some ⟨[.sc (.string (Ab [45,95,56]))],[]⟩:=by kernel_rfl
 have h18:Af C1 prog fu (d+8) 18 [.agg [.sc (.int .i64 2),.lst false 1 2 [.sc (.int .u8 251),.sc (.int .u8 255)],.sc (.string (ByteArray.mk #[(104:UInt8),(116:UInt8),(116:UInt8),(112:UInt8),(115:UInt8),(58:UInt8),(47:UInt8),(47:UInt8),(97:UInt8),(46:UInt8),(98:UInt8)])),.sc (.bool false),.sc (.string (ByteArray.mk #[]))]]=some ⟨[.sc (.string (Ab awT)),.sc (.int .i64 0)],[]⟩:=by
  refine (Pe (p:=some Hd) fu (d+7) _ _ _ _ _ _).trans ?_;have a1:((2:Int)==1)=false:=rfl;have a2:((2:Int)==2)=true:=rfl;have a3:decide (((2:Nat):Int)<1)=false:=rfl;have a4:decide (((2:Nat):Int)>64)=false:=rfl;have a5:((0:Int) != 0)=false:=rfl;have a6:(!Array.toList (ByteArray.mk #[]).data==Array.toList (ByteArray.mk #[]).data)=false:=rfl;simp only[Ez,a1,a2,a3,a4,a5,a6,h32,h12,Dw];show _=some (A4.mk [.sc (.string (Ab awT)),.sc (.int .i64 0)] [])
  first|kernel_rfl|rfl
 have h19:Af C1 prog fu (d+8) 19 [.sc (.string (Ab awT))]=some ⟨[.agg [.sc (.int .i64 2),.lst false 1 2 [.sc (.int .u8 251),.sc (.int .u8 255)],.sc (.string (Ab awO)),.sc (.bool false),.sc (.string (Ab []))],.sc (.int .i64 0)],[]⟩:=by
  have e:Af C1 prog fu (d+8) 19 [.sc (.string (Ab awT))]=Hd [.sc (.string (Ab awT))]:=rfl;rw[e];unfold Hd;have hs:decide ((Ab awT).size<=9223372036854775807)=true:=rfl;simp only[hs,cond_true,QZ];rfl
 have h20:Af C1 prog fu (d+8) 20 [.agg [.sc (.int .i64 2),.lst false 1 2 [.sc (.int .u8 251),.sc (.int .u8 255)],.sc (.string (ByteArray.mk #[(104:UInt8),(116:UInt8),(116:UInt8),(112:UInt8),(115:UInt8),(58:UInt8),(47:UInt8),(47:UInt8),(97:UInt8),(46:UInt8),(98:UInt8)])),.sc (.bool false),.sc (.string (ByteArray.mk #[]))],.agg [.sc (.int .i64 2),.lst false 1 2 [.sc (.int .u8 251),.sc (.int .u8 255)],.sc (.string (Ab awO)),.sc (.bool false),.sc (.string (Ab []))]]=some ⟨[.sc (.bool true)],[]⟩:=
  (Ld (p:=some Hd) fu (d+7) _ _ _ _ _ _ _ _ _ _ _ _).trans (by kernel_rfl)
 refine (N0 (p:=some Hd) fu (d+8)).trans ?_;have b1:((0:Int)==0)=true:=rfl
 have b2:(Array.toList (Ab awT).data==Array.toList (ByteArray.mk (List.toArray (List.append [(123:UInt8),(34:UInt8),(116:UInt8),(121:UInt8),(112:UInt8),(101:UInt8),(34:UInt8),(58:UInt8),(34:UInt8),(112:UInt8),(97:UInt8),(115:UInt8),(115:UInt8),(107:UInt8),(101:UInt8),(121:UInt8),(46:UInt8),(103:UInt8),(101:UInt8),(116:UInt8),(34:UInt8),(44:UInt8),(34:UInt8),(99:UInt8),(104:UInt8),(97:UInt8),(108:UInt8),(108:UInt8),(101:UInt8),(110:UInt8),(103:UInt8),(101:UInt8),(34:UInt8),(58:UInt8),(34:UInt8),(45:UInt8),(95:UInt8),(56:UInt8),(34:UInt8),(44:UInt8),(34:UInt8)] [(111:UInt8),(114:UInt8),(105:UInt8),(103:UInt8),(105:UInt8),(110:UInt8),(34:UInt8),(58:UInt8),(34:UInt8),(104:UInt8),(116:UInt8),(116:UInt8),(112:UInt8),(115:UInt8),(58:UInt8),(47:UInt8),(47:UInt8),(97:UInt8),(46:UInt8),(98:UInt8),(34:UInt8),(44:UInt8),(34:UInt8),(99:UInt8),(114:UInt8),(111:UInt8),(115:UInt8),(115:UInt8),(79:UInt8),(114:UInt8),(105:UInt8),(103:UInt8),(105:UInt8),(110:UInt8),(34:UInt8),(58:UInt8),(102:UInt8),(97:UInt8),(108:UInt8),(115:UInt8),(101:UInt8),(125:UInt8)]))).data)=true:=by kernel_rfl
 have b3:decide (0+2*1<=List.length [PV.sc (.int .u8 251),PV.sc (.int .u8 255)])=true:=rfl;have b4:List.take (2*1) (List.drop 0 [PV.sc (.int .u8 251),PV.sc (.int .u8 255)])=[PV.sc (.int .u8 251),PV.sc (.int .u8 255)]:=rfl;simp only[Ez,h18,h19,b1,b2,b3,b4,h20]
theorem CG:∀{l:List Int},Ds l->Ym (D7 .u8 l)=some l
 |[],_=>rfl
 |n::l,h=>by
  obtain⟨hn,hl⟩:=Bm h;show (bif decide (0<=n)&&decide (n<=255) then (Ym (D7 .u8 l)).map (n :: ·) else none)=_
  rw[CG hl,dT hn.1,dT hn.2];rfl
theorem VB {l:List Int}{p:Option (List PV->Option A4)} {z:Bool}(hB:Ds l)(hl:l.length<=100000):Af (CP p) prog fu (d+1) 12 [.lst z 1 l.length (D7 .u8 l)]=some ⟨[.sc (.string (Ab (Gd l)))],[]⟩:=by
 have e:Af (CP p) prog fu (d+1) 12 [.lst z 1 l.length (D7 .u8 l)]=UU [.lst z 1 l.length (D7 .u8 l)]:=rfl;rw[e];unfold UU
 have h1:(Nat.beq (D7 .u8 l).length l.length&&Nat.ble l.length 100000000)=true:=by
  rw[Gm,Nat.beq_refl,Nat.ble_eq_true_of_le (by omega)]
  rfl
 simp only[h1,cond_true,CG hB]
end
end
section
open Go.Proofs.Tryd (prog)
open Go.IntKind (wrap)
set_option maxRecDepth 100000
section
variable {fu d:Nat} {p:Option (List PV->Option A4)}
theorem KA (l:List UInt8):(l==l)=true:=by simp
theorem A0u {l:List Int}(h:∀x∈l,(Lit.int .u8 x).wf=true):Ds l:=by
 intro x hx;have:=h x hx;simp[Lit.wf,IntKind.min,IntKind.max,IntKind.signed,IntKind.bits] at this;omega
end
set_option maxHeartbeats 1000000 in
theorem dataBaseBack_plain (qs:List PV)(h:Bc (WTv prog) [22,9] qs):∃fu d,Af C1 prog fu d Fp qs=some ⟨[.sc (.bool true)],[]⟩:=by
 obtain⟨q0,_,rfl,h0,g⟩:=h.cons_inv;obtain⟨q1,_,rfl,h1,g⟩:=g.cons_inv;obtain rfl:=g.nil_inv;clear h g;obtain⟨b,rfl,_,hwf⟩:=VK (k:=.u8) (e:=5) (by kernel_rfl) (by kernel_rfl) (by kernel_rfl) (by kernel_rfl) h0
 obtain⟨s,rfl,_⟩:=Acq (P:=prog) (by kernel_rfl) (by kernel_rfl) h1
 clear h0 h1;have hB:=A0u hwf;obtain⟨fu,Gr⟩:∃fu,fu=30000:=⟨_,rfl⟩;refine⟨fu,10,?_⟩;refine (Jo (p:=some Hd) fu 9 _ _ s).trans ?_;have aw:Af C1 prog fu 9 8 []=_:=Aba (fu:=fu) (d:=0) (by omega)
 by_cases hn:300<b.length
 ·have a1:=dT (q:=((b.length:Nat):Int)>300) (by omega)
  simp only[Ez,a1,aw]
 have a1:=dF (q:=((b.length:Nat):Int)>300) (by omega)
 by_cases WP:300<s.size
 ·have a2:=dT (q:=((s.size:Nat):Int)>300) (by omega)
  simp only[Ez,a1,a2,aw]
 have a2:=dF (q:=((s.size:Nat):Int)>300) (by omega)
 have Dd:=DU b;have e1:Af C1 prog fu 9 12 [.lst false 1 b.length (D7 .u8 b)]=_:=VB (fu:=fu) (d:=8) (p:=some Hd) (z:=false) hB (by omega)
 have e2:Af C1 prog fu 9 15 [.sc (.string (Ab (Gd b)))]=_:=KV (fu:=fu) (d:=6) (p:=some Hd) (Aeo hB) (by omega) (by omega) (by omega)
 rw[QF hB] at e2;have e3:Af C1 prog fu 9 15 [.sc (.string s)]=_:=(congrArg (fun x=>Af C1 prog fu 9 15 [.sc (.string x)]) (G9 s).symm).trans (KV (fu:=fu) (d:=6) (p:=some Hd) (MZ s) (by rw[Hi];omega) (by omega) (by rw[Hi];omega))
 have c0:List.take (b.length*1) (List.drop 0 (D7 .u8 b))=D7 .u8 b:=by rw[List.drop_zero];exact Zzf (by rw[Gm];omega)
 have c1:decide (0+b.length*1<=List.length (D7 .u8 b))=true:=by rw[Gm];simp
 have c2:decide (List.length (D7 .u8 b)=b.length)=true:=by rw[Gm];simp
 have c3:=U2 b;have c4:((0:Int)==0)=true:=rfl;have c5:wrap .i64 (4*((b.length:Nat):Int))=4*(b.length:Int):=Bj (by omega) (by omega)
 have c6:wrap .i64 (4*(b.length:Int)+2)=4*(b.length:Int)+2:=Bj (by omega) (by omega)
 have c7:wrap .i64 (Int.tdiv (4*(b.length:Int)+2) 3)=(((4*b.length+2) / 3:Nat):Int):=by
  rw[Int.tdiv_eq_ediv_of_nonneg (by omega),Bj (by omega) (by omega)]
  omega
 have c8:((((Ab (Gd b)).size:Nat):Int)==(((4*b.length+2) / 3:Nat):Int))=true:=by
  rw[Av,Dd];simp
 cases hd:Ha (E1 s) with
 |none=>
  rw[hd] at e3;have c9:((2:Int) != 0)=true:=rfl;simp only[Ez,a1,a2,e1,e2,e3,c0,c1,c2,c3,c4,c5,c6,c7,c8,c9,KA,aw]
 |some x=>
  rw[hd] at e3;obtain⟨hx1,Mv⟩:=PC hd;have c9:((0:Int) != 0)=false:=rfl;have d0:List.take (x.length*1) (List.drop 0 (D7 .u8 x))=D7 .u8 x:=by rw[List.drop_zero];exact Zzf (by rw[Gm];omega)
  have d1:decide (0+x.length*1<=List.length (D7 .u8 x))=true:=by rw[Gm];simp
  have hxl:x.length<=300:=by
   have:=DU x;rw[hx1,Hi] at this;omega
  have e4:Af C1 prog fu 9 12 [.lst false 1 x.length (D7 .u8 x)]=_:=VB (fu:=fu) (d:=8) (p:=some Hd) (z:=false) Mv (by omega)
  rw[hx1,G9] at e4;simp only[Ez,a1,a2,e1,e2,e3,c0,c1,c2,c3,c4,c5,c6,c7,c8,c9,d0,d1,e4,KA,aw]
section
variable {fu:Nat}
end
end
end Go.Proofs.YtodnjibebeghjaaDoor.Pv
