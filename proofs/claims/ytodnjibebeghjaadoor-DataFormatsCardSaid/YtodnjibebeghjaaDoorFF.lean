/-
  The proof of DataFormats, part 6.
-/
import Derived.Test.YtodnjibebeghjaaDoorFE
import Derived.Test.YtodnjibebeghjaaDoorRows
set_option linter.unusedSimpArgs false
set_option linter.unusedVariables false
namespace Go.Proofs.YtodnjibebeghjaaDoor.Pv
section
open Go.Proofs.Tryd (prog)
open Go.IntKind (wrap)
set_option maxRecDepth 100000
def Ni:List Int:=[123,34,116,121,112,101,34,58,34]
def Oa:List Int:=[34,44,34,99,104,97,108,108,101,110,103,101,34,58,34]
def Sp:List Int:=[34,44,34,111,114,105,103,105,110,34,58,34]
def fA4:List Int:=[34,44,34,99,114,111,115,115,79,114,105,103,105,110,34,58,102,97,108,115,101,125]
def fA5:List Int:=[34,44,34,99,114,111,115,115,79,114,105,103,105,110,34,58,116,114,117,101,44,34,116,111,112,79,114,105,103,105,110,34,58,34]
def fA6:List Int:=[34,125]
def fA7:List Int:=[34,44,34,99,114,111,115,115,79,114,105,103,105,110,34,58]
def fA8:List Int:=[102,97,108,115,101,125]
def fA9:List Int:=[116,114,117,101,44,34,116,111,112,79,114,105,103,105,110,34,58,34]
theorem Ir:(ByteArray.mk #[(123:UInt8),(34:UInt8),(116:UInt8),(121:UInt8),(112:UInt8),(101:UInt8),(34:UInt8),(58:UInt8),(34:UInt8)])=Aa Ni:=rfl
theorem Ih:(ByteArray.mk #[(34:UInt8),(44:UInt8),(34:UInt8),(99:UInt8),(104:UInt8),(97:UInt8),(108:UInt8),(108:UInt8),(101:UInt8),(110:UInt8),(103:UInt8),(101:UInt8),(34:UInt8),(58:UInt8),(34:UInt8)])=Aa Oa:=rfl
theorem Ix:(ByteArray.mk #[(34:UInt8),(44:UInt8),(34:UInt8),(111:UInt8),(114:UInt8),(105:UInt8),(103:UInt8),(105:UInt8),(110:UInt8),(34:UInt8),(58:UInt8),(34:UInt8)])=Aa Sp:=rfl
theorem Ag1:(ByteArray.mk #[(34:UInt8),(44:UInt8),(34:UInt8),(99:UInt8),(114:UInt8),(111:UInt8),(115:UInt8),(115:UInt8),(79:UInt8),(114:UInt8),(105:UInt8),(103:UInt8),(105:UInt8),(110:UInt8),(34:UInt8),(58:UInt8),(102:UInt8),(97:UInt8),(108:UInt8),(115:UInt8),(101:UInt8),(125:UInt8)])=Aa fA4:=rfl
theorem Ry:(ByteArray.mk #[(34:UInt8),(44:UInt8),(34:UInt8),(99:UInt8),(114:UInt8),(111:UInt8),(115:UInt8),(115:UInt8),(79:UInt8),(114:UInt8),(105:UInt8),(103:UInt8),(105:UInt8),(110:UInt8),(34:UInt8),(58:UInt8),(116:UInt8),(114:UInt8),(117:UInt8),(101:UInt8),(44:UInt8),(34:UInt8),(116:UInt8),(111:UInt8),(112:UInt8),(79:UInt8),(114:UInt8),(105:UInt8),(103:UInt8),(105:UInt8),(110:UInt8),(34:UInt8),(58:UInt8),(34:UInt8)])=Aa fA5:=rfl
theorem N7:(ByteArray.mk #[(34:UInt8),(125:UInt8)])=Aa fA6:=rfl
theorem MU:(ByteArray.mk #[(34:UInt8),(44:UInt8),(34:UInt8),(99:UInt8),(114:UInt8),(111:UInt8),(115:UInt8),(115:UInt8),(79:UInt8),(114:UInt8),(105:UInt8),(103:UInt8),(105:UInt8),(110:UInt8),(34:UInt8),(58:UInt8)])=Aa fA7:=rfl
theorem Ahr:(ByteArray.mk #[(102:UInt8),(97:UInt8),(108:UInt8),(115:UInt8),(101:UInt8),(125:UInt8)])=Aa fA8:=rfl
theorem Ad6:(ByteArray.mk #[(116:UInt8),(114:UInt8),(117:UInt8),(101:UInt8),(44:UInt8),(34:UInt8),(116:UInt8),(111:UInt8),(112:UInt8),(79:UInt8),(114:UInt8),(105:UInt8),(103:UInt8),(105:UInt8),(110:UInt8),(34:UInt8),(58:UInt8),(34:UInt8)])=Aa fA9:=rfl
theorem Vc:(ByteArray.mk #[(112:UInt8),(97:UInt8),(115:UInt8),(115:UInt8),(107:UInt8),(101:UInt8),(121:UInt8),(46:UInt8),(99:UInt8),(114:UInt8),(101:UInt8),(97:UInt8),(116:UInt8),(101:UInt8)])=Aa GY:=rfl
theorem V9:(ByteArray.mk #[(112:UInt8),(97:UInt8),(115:UInt8),(115:UInt8),(107:UInt8),(101:UInt8),(121:UInt8),(46:UInt8),(103:UInt8),(101:UInt8),(116:UInt8)])=Aa HL:=rfl
theorem Fs:(ByteArray.mk #[])=Aa []:=rfl
theorem Alj:fA4=fA7++fA8:=rfl
theorem Ajq:fA5=fA7++fA9:=rfl
theorem Arf:Ct []:=fun x hx=>by cases hx
def tyS (k:Int):Option (List Int):=if k=1 then some GY else if k=2 then some HL else none
def fmH (ty ch o:List Int):List Int:=Ni++ty++Oa++Ev ch++Sp++o
def Aet (k:Int)(ch o t:List Int)(x:Bool):JR (List Int):=
 match tyS k with
 |none=>.error 3
 |some ty=>if ch.length<1∨64<ch.length then .error 9 else if Ew o≠0 then .error (Ew o)
  else if x=false then (if t=[] then .ok (fmH ty ch o++fA4) else .error 4)
  else if Ew t≠0 then .error (Ew t) else .ok (fmH ty ch o++fA5++t++fA6)
def Akp (r:JR (List Int)):Aq:=match r with | .ok s=>⟨[.sc (.string (Aa s)),.sc (.int .i64 0)],[]⟩ | .error e=>⟨[.sc (.string (Aa [])),.sc (.int .i64 e)],[]⟩
section
variable {fu d:Nat} {p:Option (List PV->Option Aq)}
abbrev cdA (k:Int)(ch o t:List Int)(x:Bool):PV:=.agg [.sc (.int .i64 k),.lst false 1 ch.length (Bn .u8 ch),.sc (.string (Aa o)),.sc (.bool x),.sc (.string (Aa t))]
theorem nn0 (e:Int)(h:e≠0):(e != 0)=true:=by simp[h]
set_option maxHeartbeats 4000000 in
theorem Aec {k:Int}{ch o t:List Int}{x:Bool}(VA:Ct ch)(ho:Ct o)(ht:Ct t)(I1:ch.length<=100000)(hol:o.length<=1000000)(htl:t.length<=1000000)(Ei:2000<=fu):
  Ae (CP p) prog fu (d+8) 18 [cdA k ch o t x]=some (Akp (Aet k ch o t x)):=by
 have er:=Lg (p:=p) fu (d+7) k ch.length (Bn .u8 ch) (Aa o) x (Aa t);refine er.trans ?_;obtain⟨o1,o2,o3,eo⟩:=VT (fu:=fu) (d:=d) (p:=p) ho hol (by omega)
 obtain⟨t1,t2,t3,et⟩:=VT (fu:=fu) (d:=d) (p:=p) ht htl (by omega)
 have eo:Ae (CP p) prog fu (d+7) 32 [.sc (.string (Aa o))]=_:=eo;have et:Ae (CP p) prog fu (d+7) 32 [.sc (.string (Aa t))]=_:=et;have ee:Ae (CP p) prog fu (d+7) 12 [.lst false 1 ch.length (Bn .u8 ch)]=_:=Anz (fu:=fu) (d:=d+6) (p:=p) (z:=false) VA I1;have hel:=MW ch;have z0:((0:Int) != 0)=false:=rfl;have tq:(Array.toList (Aa t).data==[])=decide (t=[]):=Rr (b:=[]) ht Arf;unfold Aet tyS;by_cases Ds:k=1
 ·subst Ds;have k1:((1:Int)==1)=true:=rfl;rw[D1 rfl];simp only;have c1:decide (38+(Ev ch).length<=9223372036854775807)=true:=dT (by omega)
  have c2:decide ((Ni++GY++Oa++Ev ch).length+12<=9223372036854775807)=true:=dT (by simp[Ni,Oa,GY];omega)
  have c3:decide ((Ni++GY++Oa++Ev ch++Sp).length+o.length<=9223372036854775807)=true:=dT (by simp[Ni,Oa,Sp,GY];omega)
  have c4:decide ((Ni++GY++Oa++Ev ch++Sp++o).length+22<=9223372036854775807)=true:=dT (by simp[Ni,Oa,Sp,GY];omega)
  have c5:decide ((Ni++GY++Oa++Ev ch++Sp++o).length+34<=9223372036854775807)=true:=dT (by simp[Ni,Oa,Sp,GY];omega)
  have c6:decide ((Ni++GY++Oa++Ev ch++Sp++o++fA5).length+t.length<=9223372036854775807)=true:=dT (by simp[Ni,Oa,Sp,fA5,GY];omega)
  have c7:decide ((Ni++GY++Oa++Ev ch++Sp++o++fA5++t).length+2<=9223372036854775807)=true:=dT (by simp[Ni,Oa,Sp,fA5,GY];omega)
  by_cases h1:ch.length<1
  ·have a1:=dT (q:=((ch.length:Nat):Int)<1) (by omega)
   rw[D1 (.inl h1)];simp only[B0,k1,a1,Fs];rfl
  have a1:=dF (q:=((ch.length:Nat):Int)<1) (by omega)
  by_cases h2:64<ch.length
  ·have a2:=dT (q:=((ch.length:Nat):Int)>64) (by omega)
   rw[D1 (.inr h2)];simp only[B0,k1,a1,a2,Fs];rfl
  have a2:=dF (q:=((ch.length:Nat):Int)>64) (by omega)
  rw[Dc (by omega)]
  by_cases XW:Ew o=0
  rotate_left
  ·have a3:=nn0 _ XW;rw[D1 XW];simp only[B0,k1,a1,a2,eo,a3,Fs];rfl
  rw[Dc (by simp[XW])]
  rw[XW] at eo;cases x with
  |false=>
   rw[D1 rfl];by_cases Yt:t=[]
   ·rw[dT Yt] at tq;rw[D1 Yt];simp only[B0,k1,a1,a2,eo,z0,Fs,tq,Cw,Dl,ee,Af,Ir,Vc,Ih,Ix,Ag1,C6,c1,c2,c3,c4];rfl
   ·rw[dF Yt] at tq;rw[Dc Yt];simp only[B0,k1,a1,a2,eo,z0,Fs,tq,Cw,Dl];rfl
  |true=>
   rw[Dc (by decide)]
   by_cases VW:Ew t=0
   ·rw[VW] at et;rw[Dc (by simp[VW])]
    by_cases Yt:t=[]
    ·rw[dT Yt] at tq;simp only[B0,k1,a1,a2,eo,et,z0,Fs,tq,Cw,Dl,ee,Af,Ir,Vc,Ih,Ix,Ry,N7,C6,c1,c2,c3,c5,c6,c7];rfl
    ·rw[dF Yt] at tq;simp only[B0,k1,a1,a2,eo,et,z0,Fs,tq,Cw,Dl,ee,Af,Ir,Vc,Ih,Ix,Ry,N7,C6,c1,c2,c3,c5,c6,c7];rfl
   ·have a4:=nn0 _ VW;rw[D1 VW];by_cases Yt:t=[]
    ·rw[dT Yt] at tq;simp only[B0,k1,a1,a2,eo,et,z0,a4,Fs,tq,Cw,Dl,ee,Af,Ir,Vc,Ih,Ix,Ry,N7,C6,c1,c2,c3,c5,c6,c7];rfl
    ·rw[dF Yt] at tq;simp only[B0,k1,a1,a2,eo,et,z0,a4,Fs,tq,Cw,Dl,ee,Af,Ir,Vc,Ih,Ix,Ry,N7,C6,c1,c2,c3,c5,c6,c7];rfl
 have k1:(k==1)=false:=by simp[Ds]
 by_cases Ef:k=2
 ·subst Ef;have k2:((2:Int)==2)=true:=rfl;rw[Dc (by decide),D1 rfl]
  simp only;have c1:decide (35+(Ev ch).length<=9223372036854775807)=true:=dT (by omega)
  have c2:decide ((Ni++HL++Oa++Ev ch).length+12<=9223372036854775807)=true:=dT (by simp[Ni,Oa,HL];omega)
  have c3:decide ((Ni++HL++Oa++Ev ch++Sp).length+o.length<=9223372036854775807)=true:=dT (by simp[Ni,Oa,Sp,HL];omega)
  have c4:decide ((Ni++HL++Oa++Ev ch++Sp++o).length+22<=9223372036854775807)=true:=dT (by simp[Ni,Oa,Sp,HL];omega)
  have c5:decide ((Ni++HL++Oa++Ev ch++Sp++o).length+34<=9223372036854775807)=true:=dT (by simp[Ni,Oa,Sp,HL];omega)
  have c6:decide ((Ni++HL++Oa++Ev ch++Sp++o++fA5).length+t.length<=9223372036854775807)=true:=dT (by simp[Ni,Oa,Sp,fA5,HL];omega)
  have c7:decide ((Ni++HL++Oa++Ev ch++Sp++o++fA5++t).length+2<=9223372036854775807)=true:=dT (by simp[Ni,Oa,Sp,fA5,HL];omega)
  by_cases h1:ch.length<1
  ·have a1:=dT (q:=((ch.length:Nat):Int)<1) (by omega)
   rw[D1 (.inl h1)];simp only[B0,k1,k2,a1,Fs];rfl
  have a1:=dF (q:=((ch.length:Nat):Int)<1) (by omega)
  by_cases h2:64<ch.length
  ·have a2:=dT (q:=((ch.length:Nat):Int)>64) (by omega)
   rw[D1 (.inr h2)];simp only[B0,k1,k2,a1,a2,Fs];rfl
  have a2:=dF (q:=((ch.length:Nat):Int)>64) (by omega)
  rw[Dc (by omega)]
  by_cases XW:Ew o=0
  rotate_left
  ·have a3:=nn0 _ XW;rw[D1 XW];simp only[B0,k1,k2,a1,a2,eo,a3,Fs];rfl
  rw[Dc (by simp[XW])]
  rw[XW] at eo;cases x with
  |false=>
   rw[D1 rfl];by_cases Yt:t=[]
   ·rw[dT Yt] at tq;rw[D1 Yt];simp only[B0,k1,k2,a1,a2,eo,z0,Fs,tq,Cw,Dl,ee,Af,Ir,V9,Ih,Ix,Ag1,C6,c1,c2,c3,c4];rfl
   ·rw[dF Yt] at tq;rw[Dc Yt];simp only[B0,k1,k2,a1,a2,eo,z0,Fs,tq,Cw,Dl];rfl
  |true=>
   rw[Dc (by decide)]
   by_cases VW:Ew t=0
   ·rw[VW] at et;rw[Dc (by simp[VW])]
    by_cases Yt:t=[]
    ·rw[dT Yt] at tq;simp only[B0,k1,k2,a1,a2,eo,et,z0,Fs,tq,Cw,Dl,ee,Af,Ir,V9,Ih,Ix,Ry,N7,C6,c1,c2,c3,c5,c6,c7];rfl
    ·rw[dF Yt] at tq;simp only[B0,k1,k2,a1,a2,eo,et,z0,Fs,tq,Cw,Dl,ee,Af,Ir,V9,Ih,Ix,Ry,N7,C6,c1,c2,c3,c5,c6,c7];rfl
   ·have a4:=nn0 _ VW;rw[D1 VW];by_cases Yt:t=[]
    ·rw[dT Yt] at tq;simp only[B0,k1,k2,a1,a2,eo,et,z0,a4,Fs,tq,Cw,Dl,ee,Af,Ir,V9,Ih,Ix,Ry,N7,C6,c1,c2,c3,c5,c6,c7];rfl
    ·rw[dF Yt] at tq;simp only[B0,k1,k2,a1,a2,eo,et,z0,a4,Fs,tq,Cw,Dl,ee,Af,Ir,V9,Ih,Ix,Ry,N7,C6,c1,c2,c3,c5,c6,c7];rfl
 have k2:(k==2)=false:=by simp[Ef]
 rw[Dc Ds,Dc Ef];simp only[B0,k1,k2,Fs];rfl
theorem Alv (k:Int):Ae (CP p) prog fu (d+1) I9 [.sc (.int .i64 k)]=some ⟨[.sc (.string (Aa ((tyS k).getD [])))],[]⟩:=by
 rw[Q0];unfold tyS;by_cases h1:k=1
 ·subst h1;have k1:((1:Int)==1)=true:=rfl;rw[D1 rfl];simp only[B0,k1];rfl
 have k1:(k==1)=false:=by simp[h1]
 by_cases h2:k=2
 ·subst h2;have k2:((2:Int)==2)=true:=rfl;rw[Dc h1,D1 rfl];simp only[B0,k1,k2];rfl
 have k2:(k==2)=false:=by simp[h2]
 rw[Dc h1,Dc h2];simp only[B0,k1,k2];rfl
theorem Ae9 {k:Int}{ty:List Int}(h:tyS k=some ty):Ct ty∧ty≠[]∧ty.length<=14:=by
 unfold tyS at h;split at h
 ·cases h;exact⟨fun x hx=>by simp[GY] at hx;omega,by decide,by decide⟩
 split at h
 ·cases h;exact⟨fun x hx=>by simp[HL] at hx;omega,by decide,by decide⟩
 ·cases h
set_option maxHeartbeats 4000000 in
theorem Abk {k:Int}{ch o t:List Int}{x:Bool}(VA:Ct ch)(ho:Ct o)(ht:Ct t)(I1:ch.length<=100000)(hol:o.length<=1000000)(htl:t.length<=1000000)(Ei:2000<=fu)(hfc:ch.length+1<=fu)(hfo:o.length+1<=fu)(hft:t.length+1<=fu):
  Ae (CP p) prog fu (d+6) 28 [cdA k ch o t x]=some (Akp (Aet k ch o t x)):=by
 have er:=M4 (p:=p) fu (d+5) k ch.length (Bn .u8 ch) (Aa o) x (Aa t);refine er.trans ?_;obtain⟨o1,o2,o3,eo⟩:=Afq (fu:=fu) (d:=d) (p:=p) ho hol (by omega) hfo
 obtain⟨t1,t2,t3,et⟩:=Afq (fu:=fu) (d:=d) (p:=p) ht htl (by omega) hft
 have eo:Ae (CP p) prog fu (d+5) 42 [.sc (.string (Aa o))]=_:=eo;have et:Ae (CP p) prog fu (d+5) 42 [.sc (.string (Aa t))]=_:=et;have ee:Ae (CP p) prog fu (d+5) 13 [.lst false 1 ch.length (Bn .u8 ch)]=_:=Aj4 (fu:=fu) (d:=d+4) (p:=p) VA I1 (by omega) hfc
 have ek:Ae (CP p) prog fu (d+5) 41 [.sc (.int .i64 k)]=_:=Alv (fu:=fu) (d:=d+4) (p:=p) k;have hel:=MW ch;have z0:((0:Int) != 0)=false:=rfl;have tq:(Array.toList (Aa t).data==[])=decide (t=[]):=Rr (b:=[]) ht Arf;unfold Aet;cases hty:tyS k with
 |none=>
  rw[hty] at ek;have q:((([]:List UInt8)==[])=true):=rfl;simp only[B0,ek,Option.getD_none,Fs,q];rfl
 |some ty=>
  rw[hty] at ek;obtain⟨htB,htn,A9j⟩:=Ae9 hty;have q:(Array.toList (Aa ty).data==[])=false:=(Rr (b:=[]) htB Arf).trans (dF htn);have c1:decide (9+ty.length<=9223372036854775807)=true:=dT (by omega)
  have c2:decide ((Ni++ty).length+15<=9223372036854775807)=true:=dT (by simp[Ni];omega)
  have c3:decide ((Ni++ty++Oa).length+(Ev ch).length<=9223372036854775807)=true:=dT (by simp[Ni,Oa];omega)
  have c4:decide ((Ni++ty++Oa++Ev ch).length+12<=9223372036854775807)=true:=dT (by simp[Ni,Oa];omega)
  have c5:decide ((Ni++ty++Oa++Ev ch++Sp).length+o.length<=9223372036854775807)=true:=dT (by simp[Ni,Oa,Sp];omega)
  have c6:decide ((Ni++ty++Oa++Ev ch++Sp++o).length+16<=9223372036854775807)=true:=dT (by simp[Ni,Oa,Sp];omega)
  have c7:decide ((Ni++ty++Oa++Ev ch++Sp++o++fA7).length+6<=9223372036854775807)=true:=dT (by simp[Ni,Oa,Sp,fA7];omega)
  have c8:decide ((Ni++ty++Oa++Ev ch++Sp++o++fA7).length+18<=9223372036854775807)=true:=dT (by simp[Ni,Oa,Sp,fA7];omega)
  have c9:decide ((Ni++ty++Oa++Ev ch++Sp++o++fA7++fA9).length+t.length<=9223372036854775807)=true:=dT (by simp[Ni,Oa,Sp,fA7,fA9];omega)
  have d1:decide ((Ni++ty++Oa++Ev ch++Sp++o++fA7++fA9++t).length+2<=9223372036854775807)=true:=dT (by simp[Ni,Oa,Sp,fA7,fA9];omega)
  simp only;by_cases h1:ch.length<1
  ·have a1:=dT (q:=((ch.length:Nat):Int)<1) (by omega)
   rw[D1 (.inl h1)];simp only[B0,ek,Option.getD_some,Fs,q,a1];rfl
  have a1:=dF (q:=((ch.length:Nat):Int)<1) (by omega)
  by_cases h2:64<ch.length
  ·have a2:=dT (q:=((ch.length:Nat):Int)>64) (by omega)
   rw[D1 (.inr h2)];simp only[B0,ek,Option.getD_some,Fs,q,a1,a2];rfl
  have a2:=dF (q:=((ch.length:Nat):Int)>64) (by omega)
  rw[Dc (by omega)]
  by_cases XW:Ew o=0
  rotate_left
  ·have a3:=nn0 _ XW;rw[D1 XW];simp only[B0,ek,Option.getD_some,Fs,q,a1,a2,eo,a3];rfl
  rw[Dc (by simp[XW])]
  rw[XW] at eo;cases x with
  |false=>
   rw[D1 rfl];by_cases Yt:t=[]
   ·rw[dT Yt] at tq;rw[D1 Yt];simp only[B0,ek,Option.getD_some,Fs,q,a1,a2,eo,z0,tq,Cw,Dl,ee,Af,Ir,Ih,Ix,MU,Ahr,C6,c1,c2,c3,c4,c5,c6,c7];show some (Aq.mk _ [])=_;unfold Akp fmH;rw[Alj];simp only[Zzv]
   ·rw[dF Yt] at tq;rw[Dc Yt];simp only[B0,ek,Option.getD_some,Fs,q,a1,a2,eo,z0,tq,Cw,Dl,ee,Af,Ir,Ih,Ix,MU,Ahr,C6,c1,c2,c3,c4,c5,c6,c7];rfl
  |true=>
   rw[Dc (by decide)]
   by_cases VW:Ew t=0
   ·rw[VW] at et;rw[Dc (by simp[VW])]
    simp only[B0,ek,Option.getD_some,Fs,q,a1,a2,eo,et,z0,Cw,Dl,ee,Af,Ir,Ih,Ix,N7,MU,Ad6,C6,c1,c2,c3,c4,c5,c6,c8,c9,d1];show some (Aq.mk _ [])=_;unfold Akp fmH;rw[Ajq];simp only[Zzv]
   ·have a4:=nn0 _ VW;rw[D1 VW];simp only[B0,ek,Option.getD_some,Fs,q,a1,a2,eo,et,z0,a4,Cw,Dl,ee,Af,Ir,Ih,Ix,N7,MU,Ad6,C6,c1,c2,c3,c4,c5,c6,c8,c9,d1];rfl
theorem ZS {k:Int}{ch o t:List Int}{x:Bool}(VA:Ct ch)(ho:Ct o)(ht:Ct t)(I1:ch.length<=10000)(hol:o.length<=10000)(htl:t.length<=10000)(Ei:20000<=fu):
  Ae (CP p) prog fu (d+9) Iq [cdA k ch o t x]=some ⟨[.sc (.bool true)],[]⟩:=by
 have er:=P8 (p:=p) fu (d+8) k ch.length (Bn .u8 ch) (Aa o) x (Aa t);refine er.trans ?_;have e1:Ae (CP p) prog fu (d+8) 18 [cdA k ch o t x]=_:=Aec (fu:=fu) (d:=d) (p:=p) VA ho ht (by omega) (by omega) (by omega) (by omega)
 have e2:Ae (CP p) prog fu (d+8) 28 [cdA k ch o t x]=_:=Abk (fu:=fu) (d:=d+2) (p:=p) VA ho ht (by omega) (by omega) (by omega) (by omega) (by omega) (by omega) (by omega)
 cases hf:Aet k ch o t x with
 |error e=>
  rw[hf] at e1 e2;have e1:Ae (CP p) prog fu (d+8) 18 [cdA k ch o t x]=some ⟨[.sc (.string (Aa [])),.sc (.int .i64 e)],[]⟩:=e1;have e2:Ae (CP p) prog fu (d+8) 28 [cdA k ch o t x]=some ⟨[.sc (.string (Aa [])),.sc (.int .i64 e)],[]⟩:=e2;have q:(Array.toList (Aa []).data==Array.toList (Aa []).data)=true:=rfl;have q2:(e==e)=true:=by simp
  simp only[B0,e1,e2,q,q2]
 |ok s=>
  rw[hf] at e1 e2;have e1:Ae (CP p) prog fu (d+8) 18 [cdA k ch o t x]=some ⟨[.sc (.string (Aa s)),.sc (.int .i64 0)],[]⟩:=e1;have e2:Ae (CP p) prog fu (d+8) 28 [cdA k ch o t x]=some ⟨[.sc (.string (Aa s)),.sc (.int .i64 0)],[]⟩:=e2;have q:(Array.toList (Aa s).data==Array.toList (Aa s).data)=true:=by simp
  have q2:((0:Int)==0)=true:=rfl;simp only[B0,e1,e2,q,q2]
end
end
section
open Go.Proofs.Tryd (prog)
open Go.IntKind (wrap)
set_option maxRecDepth 100000
abbrev J8:FuncId:=43
noncomputable def Ez (fu:Nat)(call:An)(a0 a1 a2:Int)(nn:Nat)(y0 y1 y2:Int)(y3:Nat)(y4:Int)(y5:List PV):Option Aq:=Fy CB prog fu call 43 Tryd.f43 (Eb Tryd.f43) [.sc (.int .u64 a0),.sc (.int .u64 a1),.sc (.int .i64 a2)] [.r,.r,.r,.l,.r,.l] nn ⟨lk [(0,(.sc (.int .u64 y0))),(1,(.sc (.int .u64 y1))),(2,(.sc (.int .i64 y2))),(7,(.view 7 1 0 y3)),(8,(.sc (.int .i64 y4)))],Ij [(7,(.ar false y5))]⟩
theorem Fo (fu:Nat)(call:An)(a0 a1 a2:Int)(nn:Nat)(y0 y1 y2:Int)(y3:Nat)(y4:Int)(y5:List PV):Ez fu call a0 a1 a2 (nn+1) y0 y1 y2 y3 y4 y5=(Ba (decide ((↑y3:Int)<y2)) (Ac (wrap .u64 y4) fun x3=>Ai (call 60 [.lst false 1 2 [.sc (.int .u64 y1),.sc (.int .u64 x3)]]) fun x4 x5=>Ad x5<|Ab x4 fun x6 x7=>GH 1 x6 fun x8 x9=>Ad x7<|A9 (decide (0+x8*1<=x9.length))<|Ai (call 61 [.sc (.int .u64 y0),.sc (.int .i64 5),.lst false 1 x8 (List.take (x8*1) (List.drop 0 x9))]) fun E2 I3=>Ad I3<|Ab E2 fun J2 E4=>Ak .u64 J2 fun Ha=>Ad E4<|Ai (call 60 [.lst false 1 1 [.sc (.int .u64 Ha)]]) fun Km Hk=>Ad Hk<|Ab Km fun Ib Kp=>GH 1 Ib fun Jb Kw=>Ad Kp<|A9 (decide (0+Jb*1<=Kw.length))<|A9 (decide (y3*1<=y5.length)&&decide (List.length (List.take (Jb*1) (List.drop 0 Kw))=Jb*1)&&decide ((y3+Jb)*1<=1099511627776)&&decide (y3+Jb<=1099511627776))<|Ac (y3+Jb) fun K7=>Ac (List.take (y3*1) y5++List.take (Jb*1) (List.drop 0 Kw)) fun Lx=>Ac (wrap .i64 (y4+1)) fun Jz=>Ez fu call a0 a1 a2 (nn) (y0) (y1) (y2) K7 Jz Lx) (A9 (decide (0<=y2))<|A9 (decide (Int.toNat y2<=y3))<|Ac (Int.toNat y2-0) fun Lo=>A9 (decide (Lo*1<=y5.length))<|some (Aq.mk [.own 1 Lo (List.take (Lo*1) y5)] []))):=by kernel_rfl
theorem R4 {p:Option (List PV->Option Aq)} (fu d:Nat)(a0 a1 a2:Int):Ae (CP p) prog fu (d+1) J8 [.sc (.int .u64 a0),.sc (.int .u64 a1),.sc (.int .i64 a2)]=(fun (call:An)=>Ac (if a2<0 then 0 else a2) fun x1=>Ac (if 1024<x1 then 1024 else x1) fun x2=>Ez fu call a0 a1 a2 (fu) (a0) (a1) x2 0 0 ([])) (Ae (CP p) prog fu d):=by kernel_rfl
abbrev Lb:FuncId:=29
theorem Sx {p:Option (List PV->Option Aq)} (fu d:Nat)(a0 a1:Int):Ae (CP p) prog fu (d+1) Lb [.sc (.int .i64 a0),.sc (.int .i64 a1)]=(fun (call:An)=>Ac (wrap .u64 a0) fun x1=>Ac (wrap .u64 (x1+1)) fun x2=>Ac (if 1024<a1 then 1024 else a1) fun x3=>Ac (if x3<0 then 0 else x3) fun x4=>Ai (call 43 [.sc (.int .u64 x2),.sc (.int .u64 7),.sc (.int .i64 x4)]) fun x5 x6=>Ad x6<|Ab x5 fun x7 x8=>GH 1 x7 fun x9 E2=>Ad x8<|A9 (decide (x9*1<=E2.length))<|some (Aq.mk [.own 1 x9 (List.take (x9*1) E2)] [])) (Ae (CP p) prog fu d):=by kernel_rfl
end
section
open Go.Proofs.Tryd (prog)
open Go.IntKind (wrap)
set_option maxRecDepth 100000
section
variable {fu d:Nat} {p:Option (List PV->Option Aq)}
theorem A7n (Ei:1000<=fu)(w:Int):Ae (CP p) prog fu (d+1) Fg [.lst false 1 1 [.sc (.int .u64 w)]]=some ⟨[.own 1 8 (Bn .u8 (Oj w))],[]⟩:=by
 have:=HO (xs:=RP p) (fu:=fu) (d:=d) (ws:=[w]) (by simp) (by omega) (by simp;omega)
 simp only[F5,List.flatMap_cons,List.flatMap_nil,List.append_nil,FM,List.length_nil,Jp] at this;exact this
theorem Alh (Ei:1000<=fu){a0 a1 a2:Int}{key nonce:Int}{n:Nat}(hn:n<=1024):∀(k nn:Nat)(i:Int)(l:List Int),n<=l.length+8*k->k<nn->Ct l->l.length<=2000 ->
  0<=i->i+k<=100000->∃r,Ct r∧r.length=n∧Ez fu (Ae (CP p) prog fu (d+4)) a0 a1 a2 nn key nonce (n:Int) l.length i (Bn .u8 l)=some ⟨[.own 1 n (Bn .u8 r)],[]⟩:=by
 intro k
 induction k with
 |zero=>
  intro nn i l h1 h2 hb hl i0 i1;obtain⟨m,rfl⟩:∃m,nn=m+1:=⟨nn-1,by omega⟩
  refine⟨l.take n,hb.take n,by rw[List.length_take];omega,?_⟩
  have L:=D9 .u8 l;have nt:Int.toNat (n:Int)=n:=Kx _;rw[Fo]
  try unfold Ac
  repeat first
   |((with_reducible first|apply A5|apply At|apply A7|apply A2|apply Aht|apply Agd|apply Au|apply A4|apply A6);· first|with_reducible rfl|(simp (disch:=omega) only[gT,L,nt,Nat.sub_zero,AZ,L5]<;>first|with_reducible rfl|omega)|omega)
   |(with_reducible apply A3;· first|with_reducible rfl|(simp (disch:=omega) only[gF,L,nt,Nat.sub_zero,AZ,L5]<;>omega))
  try simp (disch:=omega) only[L,nt,Nat.sub_zero,AZ,L5]
 |succ k ih=>
  intro nn i l h1 h2 hb hl i0 i1;obtain⟨m,rfl⟩:∃m,nn=m+1:=⟨nn-1,by omega⟩
  have L:=D9 .u8 l;have nt:Int.toNat (n:Int)=n:=Kx _;by_cases B7:l.length<n
  rotate_left
  ·refine⟨l.take n,hb.take n,by rw[List.length_take];omega,?_⟩
   rw[Fo]
   try unfold Ac
   repeat first
    |((with_reducible first|apply A5|apply At|apply A7|apply A2|apply Aht|apply Agd|apply Au|apply A4|apply A6);· first|with_reducible rfl|(simp (disch:=omega) only[gT,L,nt,Nat.sub_zero,AZ,L5]<;>first|with_reducible rfl|omega)|omega)
    |(with_reducible apply A3;· first|with_reducible rfl|(simp (disch:=omega) only[gF,L,nt,Nat.sub_zero,AZ,L5]<;>omega))
   try simp (disch:=omega) only[L,nt,Nat.sub_zero,AZ,L5]
  have w1:wrap .u64 i=i:=Ep (by omega) (by omega)
  have w2:wrap .i64 (i+1)=i+1:=Az (by omega) (by omega)
  have wd:Ae (CP p) prog fu (d+4) Fg [.lst false 1 2 [.sc (.int .u64 nonce),.sc (.int .u64 i)]]=some ⟨[.own 1 (F5 [nonce,i]).length (Bn .u8 (F5 [nonce,i]))],[]⟩:=HO (xs:=RP p) (ws:=[nonce,i]) (by simp) (by omega) (by simp;omega)
  have mc:=Ajv (xs:=RP p) (fu:=fu) (d:=d) (l:=F5 [nonce,i]) (Adp _) (by rw[FW];simp) (by omega) (by rw[FW];simp;omega) key 5
  have L2:=D9 .u8 (F5 [nonce,i]);have t2:=tki .u8 (F5 [nonce,i]);generalize Av3 key 5 (F5 [nonce,i])=q at mc;have ow:=A7n (fu:=fu) (d:=d+3) (p:=p) Ei q;have Lq:(Bn .u8 (Oj q)).length=8:=by rw[D9,Jp]
  have tq:List.take 8 (Bn .u8 (Oj q))=Bn .u8 (Oj q):=Zzf (by omega)
  have tl:=tki .u8 l;have ea:Bn .u8 l++Bn .u8 (Oj q)=Bn .u8 (l++Oj q):=by rw[Bn,Bn,Bn,List.flatMap_append]
  obtain⟨r,r1,r2,r3⟩:=ih m (i+1) (l++Oj q) (by rw[Zzg,Jp];omega) (by omega) (Jt hb (WN q)) (by rw[Zzg,Jp];omega) (by omega) (by omega)
  refine⟨r,r1,r2,?_⟩;rw[Zzg,Jp] at r3;rw[←r3,Fo];generalize F5 [nonce,i]=W at *
  generalize W.length=wn at *
  try unfold Ac
  repeat first
   |((with_reducible first|apply A5|apply At|apply A7|apply A2|apply Aht|apply Agd|apply Au|apply A4|apply A6);· first|with_reducible rfl|(simp (disch:=omega) only[gT,w1,w2,wd,Zze,SF,AZ,L,L2,t2,mc,ow,Lq,tq,tl,ea]<;>first|with_reducible rfl|omega)|omega)
   |(with_reducible apply A3;· first|with_reducible rfl|(simp (disch:=omega) only[gF,w1,w2,wd,Zze,SF,AZ,L,L2,t2,mc,ow,Lq,tq,tl,ea]<;>omega))
  try simp (disch:=omega) only[w1,w2,wd,Zze,SF,AZ,L,L2,t2,mc,ow,Lq,tq,tl,ea]
  all_goals rfl
theorem An9 (Ei:1000<=fu)(seed:Int){n:Nat}(hn:n<=1024):∃r,Ct r∧r.length=n∧Ae (CP p) prog fu (d+6) Lb [.sc (.int .i64 seed),.sc (.int .i64 n)]=some ⟨[.own 1 n (Bn .u8 r)],[]⟩:=by
 obtain⟨r,r1,r2,r3⟩:=Alh (fu:=fu) (d:=d) (p:=p) Ei (a0:=wrap .u64 (wrap .u64 seed+1)) (a1:=7) (a2:=n) (key:=wrap .u64 (wrap .u64 seed+1)) (nonce:=7) hn 128 fu 0 [] (by omega) (by omega) (by intro x hx;cases hx) (by simp) (by omega) (by omega)
 refine⟨r,r1,r2,?_⟩
 have e:Ae (CP p) prog fu (d+5) J8 [.sc (.int .u64 (wrap .u64 (wrap .u64 seed+1))),.sc (.int .u64 7),.sc (.int .i64 n)]=some ⟨[.own 1 n (Bn .u8 r)],[]⟩:=by
  rw[R4];have f1:(if (n:Int)<0 then (0:Int) else (n:Int))=n:=Dc (by omega)
  have f2:(if (1024:Int)<(n:Int) then (1024:Int) else (n:Int))=n:=Dc (by omega)
  simp only[Md,f1,f2];exact r3
 have f1:(if (n:Int)<0 then (0:Int) else (n:Int))=n:=Dc (by omega)
 have f2:(if (1024:Int)<(n:Int) then (1024:Int) else (n:Int))=n:=Dc (by omega)
 have L:=D9 .u8 r;have t:List.take n (Bn .u8 r)=Bn .u8 r:=by rw[←r2];exact tki .u8 r
 rw[Sx];simp (disch:=omega) only[B0,f1,f2,e,AZ,L,t]
def Amk (q:PV):Bool:=match q with | .sc (.string s)=>Nat.ble s.size 40|_=>false
def Al3 (q:PV):Bool:=match q with | .sc (.int .i64 n)=>decide (0<=n)&&decide (n<=100)|_=>false
theorem Amf {L:List PV}{i:Nat}{K:ByteArray->Option Aq}{X:Option Aq}(e:X=A0 (List.getD L i PV.top) K) (hL:L.all Amk=true)(hi:i<L.length):∃s:ByteArray,s.size<=40∧X=K s:=by
 have hm:=List.all_eq_true.1 hL (L[i]'hi) (List.getElem_mem hi);rw[List.getD_eq_getElem?_getD,List.getElem?_eq_getElem hi,Option.getD_some] at e;generalize L[i]'hi=q at hm e;unfold Amk at hm;split at hm
 ·rename_i s;exact⟨s,Nat.le_of_ble_eq_true hm,e⟩
 ·cases hm
theorem Amy {L:List PV}{i:Nat}{K:Int->Option Aq}{X:Option Aq}(e:X=Ak .i64 (List.getD L i PV.top) K) (hL:L.all Al3=true)(hi:i<L.length):∃n:Int,0<=n∧n<=100∧X=K n:=by
 have hm:=List.all_eq_true.1 hL (L[i]'hi) (List.getElem_mem hi);rw[List.getD_eq_getElem?_getD,List.getElem?_eq_getElem hi,Option.getD_some] at e;generalize L[i]'hi=q at hm e;unfold Al3 at hm;split at hm
 ·rename_i n;rw[Bool.and_eq_true,decide_eq_true_iff,decide_eq_true_iff] at hm;exact⟨n,hm.1,hm.2,e.trans (FE .i64 n K)⟩
 ·cases hm
theorem otD (v:Int):∃s:ByteArray,s.size<=40∧Ae (CP p) prog fu (d+2) 30 [.sc (.int .i64 v)]=some ⟨[.sc (.string s)],[]⟩:=by
 obtain⟨r,h0,h1,hm⟩:=Aqo v 6 (by omega) (by omega)
 have hm:Ae (CP p) prog fu (d+1) 23 [.sc (.int .i64 v),.sc (.int .i64 6)]=_:=hm;have e:=N8 (p:=p) fu (d+1) v;have a1:=dT (q:=(0:Int)<=r) h0;have a2:=dT (q:=r<6) h1;simp only[B0,hm,a1,a2] at e;obtain⟨s,hs,h⟩:=Amf e (by kernel_rfl) (by show 0+Int.toNat r*1<6;omega)
 exact⟨s,hs,h⟩
theorem Al9 (v:Int):∃s:ByteArray,s.size<=40∧Ae (CP p) prog fu (d+2) 31 [.sc (.int .i64 v)]=some ⟨[.sc (.string s)],[]⟩:=by
 obtain⟨r,h0,h1,hm⟩:=Aqo v 28 (by omega) (by omega)
 have hm:Ae (CP p) prog fu (d+1) 23 [.sc (.int .i64 v),.sc (.int .i64 28)]=_:=hm;have e:=Uj (p:=p) fu (d+1) v;have a1:=dT (q:=(0:Int)<=r) h0;have a2:=dT (q:=r<28) h1;simp only[B0,hm,a1,a2] at e;obtain⟨s,hs,h⟩:=Amf e (by kernel_rfl) (by show 0+Int.toNat r*1<28;omega)
 exact⟨s,hs,h⟩
set_option maxHeartbeats 2000000 in
theorem Apa {l:List Int}(hl:l.length<=maxLen)(a:Nat)(Ei:1000<=fu):∃(k:Int)(ch:List Int)(o t:ByteArray)(x:Bool)(a':Nat),Ct ch∧ch.length<=100∧o.size<=100∧t.size<=100 ∧
  Ae (CP p) prog fu (d+7) 17 [.pbox (NR l a)]=some ⟨[.agg [.sc (.int .i64 k),.own 1 ch.length (Bn .u8 ch),.sc (.string o),.sc (.bool x),.sc (.string t)]],[NR l a']⟩:=by
 have e:=Ks (p:=p) fu (d+6) l.length (Bn .i64 l) (a:Int);obtain⟨v1,a1,p1,q1,n1⟩:=Qs hl a 6 (by omega) (by omega)
 have n1:Ae (CP p) prog fu (d+6) 11 [.pbox (NR l a),.sc (.int .i64 6)]=_:=n1 (fu:=fu) (d:=d+4) (p:=p);simp only[B0,n1,dT p1,dT q1] at e;obtain⟨k,k0,k1,e⟩:=Amy e (by kernel_rfl) (by show 0+Int.toNat v1*1<6;omega)
 obtain⟨v2,a2,p2,q2,n2⟩:=Qs hl a1 9 (by omega) (by omega)
 have n2:Ae (CP p) prog fu (d+6) 11 [.pbox (NR l a1),.sc (.int .i64 9)]=_:=n2 (fu:=fu) (d:=d+4) (p:=p);obtain⟨v3,a3,p3,q3,n3⟩:=Qs hl a2 7 (by omega) (by omega)
 have n3:Ae (CP p) prog fu (d+6) 11 [.pbox (NR l a2),.sc (.int .i64 7)]=_:=n3 (fu:=fu) (d:=d+4) (p:=p);simp only[B0,n2,n3,dT p3,dT q3] at e;obtain⟨m,m0,m1,e⟩:=Amy e (by kernel_rfl) (by show 0+Int.toNat v3*1<7;omega)
 obtain⟨m,rfl⟩:=Int.eq_ofNat_of_zero_le m0;obtain⟨ch,VA,I1,eb⟩:=An9 (fu:=fu) (d:=d) (p:=p) Ei v2 (n:=m) (by omega)
 have eb:Ae (CP p) prog fu (d+6) 29 [.sc (.int .i64 v2),.sc (.int .i64 ((m:Nat):Int))]=_:=eb;obtain⟨v4,a4,p4,q4,n4⟩:=Qs hl a3 6 (by omega) (by omega)
 have n4:Ae (CP p) prog fu (d+6) 11 [.pbox (NR l a3),.sc (.int .i64 6)]=_:=n4 (fu:=fu) (d:=d+4) (p:=p);obtain⟨o,ho,eo⟩:=otD (fu:=fu) (d:=d+4) (p:=p) v4;obtain⟨v5,a5,p5,q5,n5⟩:=Qs hl a4 3 (by omega) (by omega)
 have n5:Ae (CP p) prog fu (d+6) 11 [.pbox (NR l a4),.sc (.int .i64 3)]=_:=n5 (fu:=fu) (d:=d+4) (p:=p);subst I1;have tk:List.take (ch.length*1) (Bn .u8 ch)=Bn .u8 ch:=Zzf (by rw[D9];omega)
 have tl:decide (ch.length*1<=List.length (Bn .u8 ch))=true:=by rw[D9];simp
 have big:∀h:ByteArray,h.size<=40->decide (8+h.size<=9223372036854775807)=true∧decide ((ByteArray.mk #[(104:UInt8),(116:UInt8),(116:UInt8),(112:UInt8),(115:UInt8),(58:UInt8),(47:UInt8),(47:UInt8)]++h).size+1<=9223372036854775807)=true∧(ByteArray.mk #[(104:UInt8),(116:UInt8),(116:UInt8),(112:UInt8),(115:UInt8),(58:UInt8),(47:UInt8),(47:UInt8)]++h++ByteArray.mk #[(47:UInt8)]).size<=100:=by
  intro h hh;have e8:(ByteArray.mk #[(104:UInt8),(116:UInt8),(116:UInt8),(112:UInt8),(115:UInt8),(58:UInt8),(47:UInt8),(47:UInt8)]).size=8:=rfl;have e1:(ByteArray.mk #[(47:UInt8)]).size=1:=rfl;refine⟨dT (by omega),dT (by rw[ByteArray.size_append,e8];omega),by rw[ByteArray.size_append,ByteArray.size_append,e8,e1];omega⟩
 have fin:∀(x:Bool) (t:ByteArray) (b:Nat),t.size<=40->∀(Y:Int->PV->Option Aq),True:=fun _ _ _ _ _=>trivial
 clear fin;by_cases h2:v5=2
 ·have z:(v5==2)=true:=by simp[h2]
  obtain⟨v6,a6,p6,q6,n6⟩:=Qs hl a5 6 (by omega) (by omega)
  have n6:Ae (CP p) prog fu (d+6) 11 [.pbox (NR l a5),.sc (.int .i64 6)]=_:=n6 (fu:=fu) (d:=d+4) (p:=p);obtain⟨t,ht,et⟩:=otD (fu:=fu) (d:=d+4) (p:=p) v6;obtain⟨v7,a7,p7,q7,n7⟩:=Qs hl a6 12 (by omega) (by omega)
  have n7:Ae (CP p) prog fu (d+6) 11 [.pbox (NR l a6),.sc (.int .i64 12)]=_:=n7 (fu:=fu) (d:=d+4) (p:=p);by_cases ZJ:v7=10
  ·have z1:(v7==10)=true:=by simp[ZJ]
   obtain⟨v8,a8,p8,q8,n8⟩:=Qs hl a7 28 (by omega) (by omega)
   have n8:Ae (CP p) prog fu (d+6) 11 [.pbox (NR l a7),.sc (.int .i64 28)]=_:=n8 (fu:=fu) (d:=d+4) (p:=p);obtain⟨h,hh,eh⟩:=Al9 (fu:=fu) (d:=d+4) (p:=p) v8;obtain⟨g1,g2,g3⟩:=big h hh;simp only[B0,eb,n4,eo,n5,z,n6,et,n7,z1,n8,eh,g1,g2,tl,tk] at e;exact⟨k,ch,_,t,true,a8,VA,by omega,g3,by omega,e⟩
  have z1:(v7==10)=false:=by simp[ZJ]
  by_cases h11:v7=11
  ·have z2:(v7==11)=true:=by simp[h11]
   obtain⟨v8,a8,p8,q8,n8⟩:=Qs hl a7 6 (by omega) (by omega)
   have n8:Ae (CP p) prog fu (d+6) 11 [.pbox (NR l a7),.sc (.int .i64 6)]=_:=n8 (fu:=fu) (d:=d+4) (p:=p);obtain⟨t2,ht2,et2⟩:=otD (fu:=fu) (d:=d+4) (p:=p) v8;simp only[B0,eb,n4,eo,n5,z,n6,et,n7,z1,z2,n8,et2,tl,tk] at e;exact⟨k,ch,o,t2,true,a8,VA,by omega,by omega,by omega,e⟩
  have z2:(v7==11)=false:=by simp[h11]
  simp only[B0,eb,n4,eo,n5,z,n6,et,n7,z1,z2,tl,tk] at e;exact⟨k,ch,o,t,true,a7,VA,by omega,by omega,by omega,e⟩
 ·have z:(v5==2)=false:=by simp[h2]
  obtain⟨v7,a7,p7,q7,n7⟩:=Qs hl a5 12 (by omega) (by omega)
  have n7:Ae (CP p) prog fu (d+6) 11 [.pbox (NR l a5),.sc (.int .i64 12)]=_:=n7 (fu:=fu) (d:=d+4) (p:=p);by_cases ZJ:v7=10
  ·have z1:(v7==10)=true:=by simp[ZJ]
   obtain⟨v8,a8,p8,q8,n8⟩:=Qs hl a7 28 (by omega) (by omega)
   have n8:Ae (CP p) prog fu (d+6) 11 [.pbox (NR l a7),.sc (.int .i64 28)]=_:=n8 (fu:=fu) (d:=d+4) (p:=p);obtain⟨h,hh,eh⟩:=Al9 (fu:=fu) (d:=d+4) (p:=p) v8;obtain⟨g1,g2,g3⟩:=big h hh;simp only[B0,eb,n4,eo,n5,z,n7,z1,n8,eh,g1,g2,tl,tk] at e;exact⟨k,ch,_,_,false,a8,VA,by omega,g3,Nat.zero_le _,e⟩
  have z1:(v7==10)=false:=by simp[ZJ]
  by_cases h11:v7=11
  ·have z2:(v7==11)=true:=by simp[h11]
   obtain⟨v8,a8,p8,q8,n8⟩:=Qs hl a7 6 (by omega) (by omega)
   have n8:Ae (CP p) prog fu (d+6) 11 [.pbox (NR l a7),.sc (.int .i64 6)]=_:=n8 (fu:=fu) (d:=d+4) (p:=p);obtain⟨t2,ht2,et2⟩:=otD (fu:=fu) (d:=d+4) (p:=p) v8;simp only[B0,eb,n4,eo,n5,z,n7,z1,z2,n8,et2,tl,tk] at e;exact⟨k,ch,o,t2,false,a8,VA,by omega,by omega,by omega,e⟩
  have z2:(v7==11)=false:=by simp[h11]
  simp only[B0,eb,n4,eo,n5,z,n7,z1,z2,tl,tk] at e;exact⟨k,ch,o,_,false,a7,VA,by omega,by omega,Nat.zero_le _,e⟩
end
end
section
open Go.Proofs.Tryd (prog)
open Go.IntKind (wrap)
theorem Wk {d:Nat}{ps:List PV}(h:WT prog d 36 ps):∃(v0:Int)(v1:List Int)(v2:ByteArray)(v3:Bool)(v4:ByteArray),ps=[(.sc (.int .i64 v0)),(.lst false 1 v1.length (Bn .u8 v1)),(.sc (.string v2)),(.sc (.bool v3)),(.sc (.string v4))]∧(Lit.int .i64 v0).wf=true∧v1.length<=maxLen∧(∀n∈v1,(Lit.int .u8 n).wf=true)∧v2.size<=maxLen∧v4.size<=maxLen:=by
 obtain⟨rs,rfl,h1⟩:=As8 (ts:=[3,22,9,4,9]) (by kernel_rfl) h
 obtain⟨r0,_,rfl,g0,h1⟩:=h1.cons_inv;obtain⟨r1,_,rfl,g1,h1⟩:=h1.cons_inv;obtain⟨r2,_,rfl,g2,h1⟩:=h1.cons_inv;obtain⟨r3,_,rfl,g3,h1⟩:=h1.cons_inv;obtain⟨r4,_,rfl,g4,h1⟩:=h1.cons_inv;obtain rfl:=h1.nil_inv;obtain⟨v0,rfl,w0_0⟩:=Adk (k:=.i64) (by kernel_rfl) g0
 obtain⟨v1,rfl,w1_0,w1_1⟩:=VV (k:=.u8) (e:=5) (by kernel_rfl) (by kernel_rfl) (by kernel_rfl) g1
 obtain⟨v2,rfl,w2_0⟩:=Ahm (by kernel_rfl) g2
 obtain⟨v3,rfl⟩:=Ai0 (by kernel_rfl) g3
 obtain⟨v4,rfl,w4_0⟩:=Ahm (by kernel_rfl) g4
 exact⟨v0,v1,v2,v3,v4,rfl,w0_0,w1_0,w1_1,w2_0,w4_0⟩
end
section
open Go.Proofs.Tryd (prog)
open Go.IntKind (wrap)
set_option maxRecDepth 100000
theorem HN {fu d:Nat}{p:Option (List PV->Option Aq)} {k:Int}{ch:List Int}{o t:ByteArray}{x:Bool}(VA:Ct ch)(I1:ch.length<=10000)(hol:o.size<=10000)(htl:t.size<=10000)(Ei:20000<=fu):
  Ae (CP p) prog fu (d+9) 16 [.agg [.sc (.int .i64 k),.lst false 1 ch.length (Bn .u8 ch),.sc (.string o),.sc (.bool x),.sc (.string t)]]=some ⟨[.sc (.bool true)],[]⟩:=by
 have h:=ZS (fu:=fu) (d:=d) (p:=p) (k:=k) (ch:=ch) (o:=Fc o) (t:=Fc t) (x:=x) VA (LY o) (LY t) I1 (by rw[Kk];exact hol) (by rw[Kk];exact htl) Ei
 unfold cdA at h;rw[G9,G9] at h;exact h
set_option maxHeartbeats 2000000 in
theorem dataFormats_plain (qs:List PV)(h:Be (WTv prog) [36,23] qs):∃fu d,Ae C1 prog fu d Gy qs=some ⟨[.sc (.bool true)],[]⟩:=by
 obtain⟨q0,_,rfl,h0,g⟩:=h.cons_inv;obtain⟨q1,_,rfl,h1,g⟩:=g.cons_inv;obtain rfl:=g.nil_inv;clear h g;obtain⟨ps,rfl,k0⟩:=Aiu (by kernel_rfl) h0
 obtain⟨k,ch,o,x,t,rfl,_,_,hwf,_,_⟩:=Wk k0;obtain⟨l,rfl,hl,_⟩:=Agh (k:=.i64) (e:=3) (by kernel_rfl) (by kernel_rfl) (by kernel_rfl) (by kernel_rfl) h1
 clear h0 h1 k0;have hB:=Ay9 hwf;obtain⟨fu,Ei⟩:∃fu,fu=30000:=⟨_,rfl⟩;refine⟨fu,11,?_⟩;refine (Ma (p:=some Ip) fu 10 _ _ _ _ _ _ _ _).trans ?_;have aw:Ae C1 prog fu 10 8 []=_:=Aja (fu:=fu) (d:=1) (by omega)
 by_cases hn:200<ch.length
 ·have a1:=dT (q:=((ch.length:Nat):Int)>200) (by omega)
  simp only[B0,a1,aw]
 have a1:=dF (q:=((ch.length:Nat):Int)>200) (by omega)
 by_cases hn2:300<o.size
 ·have a2:=dT (q:=((o.size:Nat):Int)>300) (by omega)
  simp only[B0,a1,a2,aw]
 have a2:=dF (q:=((o.size:Nat):Int)>300) (by omega)
 by_cases hn3:300<t.size
 ·have a3:=dT (q:=((t.size:Nat):Int)>300) (by omega)
  simp only[B0,a1,a2,a3,aw]
 have a3:=dF (q:=((t.size:Nat):Int)>300) (by omega)
 have f1:Ae C1 prog fu 10 16 [.agg [.sc (.int .i64 k),.lst false 1 ch.length (Bn .u8 ch),.sc (.string o),.sc (.bool x),.sc (.string t)]]=_:=HN (fu:=fu) (d:=1) (p:=some Ip) hB (by omega) (by omega) (by omega) (by omega)
 have nw:Ae C1 prog fu 10 9 [.lst false 1 l.length (Bn .i64 l)]=_:=Axw (fu:=fu) (d:=9) (p:=some Ip) (l:=l);obtain⟨k',ch',o',t',x',a',Oo,Bcj,Ba6,Bca,hcd⟩:=Apa (fu:=fu) (d:=3) (p:=some Ip) hl 0 (by omega)
 have hcd:Ae C1 prog fu 10 17 [.pbox (NR l 0)]=_:=hcd;have f2:Ae C1 prog fu 10 16 [.agg [.sc (.int .i64 k'),.lst false 1 ch'.length (Bn .u8 ch'),.sc (.string o'),.sc (.bool x'),.sc (.string t')]]=_:=HN (fu:=fu) (d:=1) (p:=some Ip) Oo (by omega) (by omega) (by omega) (by omega)
 have c0:List.take (ch'.length*1) (List.drop 0 (Bn .u8 ch'))=Bn .u8 ch':=by rw[Zze];exact Zzf (by rw[D9];omega)
 have c1:decide (0+ch'.length*1<=List.length (Bn .u8 ch'))=true:=by rw[D9];simp
 simp only[B0,a1,a2,a3,f1,nw,hcd,c0,c1,f2,aw]
end
end Go.Proofs.YtodnjibebeghjaaDoor.Pv
