/-
  The proof of SigninVerifies, part 5.
-/
import Derived.Test.YtfmabfhjccngbaaGreatDoorVD
import Derived.Shelf.Unicode.ValidAny
import Derived.Lib.LaidU8T
import Derived.Test.YtfmabfhjccngbaaGreatDoorRows
import Derived.Deep.CutBlock
import Derived.Laws.ResultCell
set_option linter.unusedSimpArgs false
set_option linter.unusedVariables false
namespace Go.Proofs.YtfmabfhjccngbaaGreatDoor.Pv
open Go.IntKind (wrap)
open Go.Proofs.Tryz (prog)
set_option maxRecDepth 1000000
noncomputable section
variable{p:Option (Ae->Option A3)}{a:Addr}{b b0 i mb n o y1:Nat}{W w w':World}{ms:List (Ak × JV)}{l nm r:Ak}{f:FuncId}{a0 t:ByteArray}{q:Prop}{P:Program}{ob:Obj}{c x y:Int}{v:Value}{R:Ending->World->Prop}
open _root_.Array renaming getElem?_eq_none->xa,getElem?_eq_some_iff->gz,toList->mf,toList_inj->m9,size_push->fa,getElem?_push_lt->fb,getElem?_push_size->fc,getElem_push_lt->fd,getElem_push_eq->fe
open World renaming cell?->jy,cell?_of_block->jw,frozen?->ju,cell?_setCell_other->mq,cell?_setCell_same->ff,size_setCell->fg
open Lib renaming validD->fh,encodeRuneZ->b6,indexByte->b7,countByte->b9,trimS->fi,size_eq->fj
open Bool renaming eq_iff_iff->fk,false_eq_true->qf,eq_false_iff->b4,true_eq_false->fo,noConfusion->fp
open Instr renaming findNow->fq,sameNow->fs,lookup->ft,checkKey->xq,findKey->fu,mapUpdate->fv
open List renaming find?_cons_of_pos->fw,find?_cons_of_neg->fx,takeWhile_cons_of_neg->fy,takeWhile_cons_of_pos->f6,length->wy,take->yt,takeWhile_prefix->f7,drop_eq_nil_of_le->f8,replicate->qz,replicate_succ->zw,mem_of_mem_drop->kj,mem_of_getElem?->zn,getElem?_map->zr,getD->f9,drop->nb,flatMap_append->kk,eq_nil_of_length_eq_zero->kb,dropWhile_cons_of_pos->nc,dropWhile_cons_of_neg->nd,all_reverse->nf,all_eq_true->yb,all_cons->ym,mem_cons->zl,getElem?_eq_getElem->zd,getD_eq_getElem?_getD->zj,getElem_mem->nh,all_nil->ni,isPrefixOf->bn,append_nil->vy,range'->gg,toArray->bc,length_take->x7
open Nat renaming zero_lt_succ->wt,toUInt8->nj,pow_le_pow_right->gr,mul_comm->nk,min_eq_left->va,ble->jg,zero_le->jt,le_succ_of_le->ww,lt_irrefl->wo,mod_eq_of_lt->wq,and_two_pow_sub_one_eq_mod->nl,sub_zero->gm
open Option renaming isSome_none->np,isSome_iff_exists->j8,map_eq_some_iff->nq
open Int renaming toNat->wj,tmod->nr,tdiv->wh,eq_ofNat_of_zero_le->g8,fdiv_eq_ediv_of_nonneg->nt,natCast_nonneg->nu
open _root_.ByteArray renaming size->mm,extract->mn,data->ml,toList->nv
open UInt8 renaming toNat->nx,toNat_ofNat'->ny
open Result renaming andThen_ok->xf
open Exit renaming inBlock->n8
open BitVec renaming ofInt->zx,ofInt_natCast->bv,toNat_ofNat->bw
section
open Go.Shelf Go.RowKit Go.Lib
def Bh6:Go.Shelf.Ren:=⟨λ|196=>124|259=>146|n=>n,λ|0=>0|3=>3|4=>4|5=>5|9=>9|12=>12|46=>48|53=>29|119=>204|138=>206|139=>207|n=>n,λ|3=>0|4=>1|n=>n⟩
theorem laysVS:Lays.n196 prog Bh6:={
 mixed:=Κ
 f196:=Tryz.func124.trans (congrArg some Κ)
 f259:=Tryz.func146.trans (congrArg some Κ)
 t0:=Tryz.underlying0
 a0:=Tryz.isAgg0
 z0:=Tryz.sizeOf0
 v0:=Tryz.zeroValue0
 t3:=Tryz.underlying3
 a3:=Tryz.isAgg3
 z3:=Tryz.sizeOf3
 v3:=Tryz.zeroValue3
 t4:=Tryz.underlying4
 a4:=Tryz.isAgg4
 z4:=Tryz.sizeOf4
 v4:=Tryz.zeroValue4
 t5:=Tryz.underlying5
 a5:=Tryz.isAgg5
 z5:=Tryz.sizeOf5
 v5:=Tryz.zeroValue5
 t9:=Tryz.underlying9
 a9:=Tryz.isAgg9
 z9:=Tryz.sizeOf9
 v9:=Tryz.zeroValue9
 t12:=Tryz.underlying12
 a12:=Tryz.isAgg12
 z12:=Tryz.sizeOf12
 v12:=Tryz.zeroValue12
 t46:=Tryz.underlying48
 a46:=Tryz.isAgg48
 z46:=Tryz.sizeOf48
 v46:=Tryz.zeroValue48
 t53:=Tryz.underlying29
 a53:=Tryz.isAgg29
 z53:=Tryz.sizeOf29
 v53:=Tryz.zeroValue29
 t119:=Tryz.underlying204
 a119:=Tryz.isAgg204
 z119:=Tryz.sizeOf204
 t138:=Tryz.underlying206
 a138:=Tryz.isAgg206
 z138:=Tryz.sizeOf206
 v138:=Tryz.zeroValue206
 t139:=Tryz.underlying207
 a139:=Tryz.isAgg207
 z139:=Tryz.sizeOf207
 v139:=Tryz.zeroValue207
 g3:=Κ
 g4:=by kernel_rfl }
def gU:MD:=⟨λb=>b=0\/b=1,λw=>0<w.heap.size/\1<w.heap.size/\Lib.Utf8Tabs 0 1 w,λw w' h ⟨s1,s2,j,k⟩=>by
 have e:=h _ (.inl rfl) s1;have f:=h _ (.inr rfl) s2
 have g:∀b,b<w.heap.size->w'.heap[b]?=w.heap[b]?->b<w'.heap.size:=by
  intro b l d;rw[Array.getElem?_eq_getElem l] at d;rcases Kp b w'.heap.size with q|q
  ·exact q
  ·rw[xa q] at d;cases d
 refine⟨g _ s1 e,g _ s2 f,λc m=>?_,λi hi=>?_⟩
 ·have:=j c m;unfold jy at this ⊢;simp only[e] at this ⊢;exact this
 ·obtain⟨a,b⟩:=k i hi;unfold jy at a b ⊢;simp only[f] at a b ⊢;exact⟨a,b⟩⟩
theorem Akg(args:Ae)(a:A3)(h:Aa0 args=some a):Ep gU prog 124 args a:=by
 refine⟨⟨_,Tryz.func124,Κ⟩,λw Y bt us hi b _=>?_⟩;unfold Aa0 at h;split at h
 rotate_left
 ·cases h
 rename_i s;cases c:decide (s.size<=9223372036854775807)
 ·rw[c] at h;cases h
 rw[c] at h;cases h;have d:=of_decide_eq_true c;have ps:=hi.args
 match us,ps with
 |[u],ps=>
  have f:u=.string s:=by
   have:A7 w _ (Bg s) u:=ps.1.2;exact this.val
  subst f;refine (Any.utf8_ValidString laysVS s w d b.2.2).mono ?_
  rintro e w' ⟨rfl,g⟩
  exact⟨[.bool (fh s.data.toList)],λ_=>none,rfl,AV g rfl⟩
 |[],ps=>exact ps.elim
 |_::_::_,ps=>exact ps.2.elim
theorem A9z(hp:∀g,p=some g->∀args a,g args=some a->Ep gU prog 86 args a):Aft gU prog (CP p):=by
 intro f g args a q c;have b:(bif QC.any (Nat.beq f) then none else Ai6 p f)=some g:=q;cases n:QC.any (Nat.beq f)
 rotate_left
 ·rw[n,cond_true] at b;cases b
 rw[n,cond_false] at b;unfold Ai6 at b;cases d:Nat.beq f 86
 rotate_left
 ·rw[d,cond_true] at b;rw[Ed d];exact hp g b args a c
 rw[d,cond_false] at b;have EL:Azp f=some g:=b;unfold Azp at EL;cases e:Nat.beq f 124
 rotate_left
 ·rw[e,cond_true] at EL;cases EL;rw[Ed e];exact Akg args a c
 rw[e,cond_false] at EL;cases h:Nat.beq f 59
 rotate_left
 ·rw[h,cond_true] at EL;cases EL;rw[Ed h];exact Ap7 c
 rw[h,cond_false] at EL;cases i:Nat.beq f 106
 rotate_left
 ·rw[i,cond_true] at EL;cases EL;rw[Ed i];exact Auq gU args a c
 rw[i,cond_false] at EL;cases j:Nat.beq f 180
 rotate_left
 ·rw[j,cond_true] at EL;cases EL;rw[Ed j];exact Aw6 gU args a c
 rw[j,cond_false] at EL;cases k:Nat.beq f 219
 rotate_left
 ·rw[k,cond_true] at EL;cases EL;rw[Ed k];exact Ax7 gU args a c
 rw[k,cond_false] at EL;cases l:Nat.beq f 193
 rotate_left
 ·rw[l,cond_true] at EL;cases EL;rw[Ed l];exact Arx gU args a c
 rw[l,cond_false] at EL;cases m:Nat.beq f 167
 rotate_left
 ·rw[m,cond_true] at EL;cases EL;rw[Ed m];exact Auo gU args a c
 rw[m,cond_false] at EL;cases o:Nat.beq f 1000000
 ·rw[o,cond_false] at EL;cases EL
 ·rw[o,cond_true] at EL;cases EL;cases c
theorem Be0:Aft gU prog C0:=A9z (λ_ h=>by cases h)
end
section
open Go Go.RowKit
def HS(v:JV):Value:=.agg #[.int .i64 v.1,.string (Ab v.2.1),.bool v.2.2]
def Pa:Nat->List (Ak × JV)->List MapEntry
 |_,[]=>[]
 |i,m::r=>{ key:=.string (Ab m.1),val:=HS m.2,born:=i }::Pa (i+1) r
theorem Agn:∀(i:Nat)(a b:List (Ak × JV)),Pa i (a++b)=Pa i a++Pa (i+a.length) b
 |_,[],_=>rfl
 |i,m::r,b=>by
  show _::Pa (i+1) (r++b)=_;rw[Agn (i+1) r b];show _=_::(Pa (i+1) r++Pa (i+(r.length+1)) b);rw[show i+1+r.length=i+(r.length+1) by omega]
def J8(nm:Ak)(ms:List (Ak × JV)):Option JV:=(ms.find? λm=>m.1==nm).map (·.2)
theorem VY{a b:Ak}(c:Ch a)(d:Ch b)(h:Ab a=Ab b):a=b:=by
 have:=congrArg Cp h
 rwa [Cw c,Cw d] at this
theorem A28(a b:ByteArray):(a==b)=decide (a=b):=by
 have e:(a==b)=(a.data==b.data):=by
  cases a;cases b;rfl
 rw[e,fk,beq_iff_eq,decide_eq_true_iff];constructor
 ·intro h;cases a;cases b;exact congrArg ByteArray.mk h
 ·intro h;rw[h]
theorem IZ{nm:Ak}(a:Ch nm):∀(ms:List (Ak × JV)) (i j:Nat),(∀m∈ms,Ch m.1)->∃r,fq .string (.string (Ab nm)) (Pa i ms) j=some r/\(match J8 nm ms with|none=>r=none|some v=>∃k,r=some (k,HS v))
 |[],_,_,_=>⟨none,rfl,rfl⟩
 |m::r,i,j,b=>by
  by_cases h:m.1=nm
  ·refine⟨some (j,HS m.2),?_,?_⟩
   ·show (match fs .string (.string (Ab nm)) (.string (Ab m.1)) with|some true=>some (some (j,HS m.2))|some false=>fq .string (.string (Ab nm)) (Pa (i+1) r) (j+1)|none=>none)=_
    have e:fs .string (.string (Ab nm)) (.string (Ab m.1))=some true:=by
     show some (Ab nm==Ab m.1)=some true;rw[h,A28];simp
    rw[e]
   ·have e:J8 nm (m::r)=some m.2:=by
     unfold J8;rw[fw (by simp[h])];rfl
    rw[e];exact⟨j,rfl⟩
  ·obtain⟨q,c,d⟩:=IZ a r (i+1) (j+1) λm f=>b m (BL _ f);refine⟨q,?_,?_⟩
   ·show (match fs .string (.string (Ab nm)) (.string (Ab m.1)) with|some true=>some (some (j,HS m.2))|some false=>fq .string (.string (Ab nm)) (Pa (i+1) r) (j+1)|none=>none)=_
    have e:fs .string (.string (Ab nm)) (.string (Ab m.1))=some false:=by
     show some (Ab nm==Ab m.1)=some false;have:Ab nm≠Ab m.1:=λe=>h (VY a (b m (OJ ..)) e).symm;rw[A28];simp[this]
    rw[e];exact c
   ·have e:J8 nm (m::r)=J8 nm r:=by
     unfold J8;rw[fx (by simp[h])]
    rw[e];exact d
def AtM(w:World)(b:Nat)(ms:List (Ak × JV)):Prop:=w.heap[b]?=some (.map (Pa 0 ms).toArray ms.length)
theorem Abu(h:AtM w b ms):(getObj b).run prog w=.ok (.map (Pa 0 ms).toArray ms.length) w:=by simp[getObj,Sem.run,show w.heap[b]?=_ from h]
def Aks(nm:Ak)(ms:List (Ak × JV)):Value:=match J8 nm ms with|some v=>HS v|none=>HS (0,[],false)
theorem ZL(h:AtM w b ms)(l:∀m∈ms,Ch m.1)(o:Ch nm)(ok:Bool):(ft 176 (.map (some b)) (.string (Ab nm)) ok).run prog w=.ok (if ok then .tuple #[Aks nm ms,.bool (J8 nm ms).isSome] else Aks nm ms) w:=by
 have f:=run_underlying (w:=w) Tryz.underlying176;have d:=run_underlying (w:=w) Tryz.underlying9;have e:∀c (n:Nat),(xq c (n+1) 9 (.string (Ab nm))).run prog w=.ok () w:=λc n=>by simp[xq,d]
 have g:∀c,(xq c 10000 9 (.string (Ab nm))).run prog w=.ok () w:=λc=>e c 9999;obtain⟨r,i,a⟩:=IZ o ms 0 0 l;have p:(zeroValue 213).run prog w=.ok (HS (0,[],false)) w:=Tryz.zeroValue213 w;unfold Aks;cases j:J8 nm ms with
 |none=>
  rw[j] at a;simp only at a;subst a;cases ok<;>simp[ft,f,d,Abu h,g,fu,i,p]<;>rfl
 |some v=>
  rw[j] at a;obtain⟨k,a⟩:=a;subst a;cases ok<;>simp[ft,f,d,Abu h,g,fu,i]
theorem Apm(h:AtM w b ms)(i:∀m∈ms,Ch m.1)(j:Ch nm)(a:J8 nm ms=none)(v:JV):(fv 176 (.map (some b)) (.string (Ab nm)) (HS v)).run prog w=.ok () { w with heap:=w.heap.setIfInBounds b (.map (Pa 0 (ms++[(nm,v)])).toArray (ms++[(nm,v)]).length) }:=by
 have k:=run_underlying (w:=w) Tryz.underlying176;have g:=run_underlying (w:=w) Tryz.underlying9;have d:∀c (n:Nat),(xq c (n+1) 9 (.string (Ab nm))).run prog w=.ok () w:=λc n=>by simp[xq,g]
 have l:∀c,(xq c 10000 9 (.string (Ab nm))).run prog w=.ok () w:=λc=>d c 9999;obtain⟨r,p,f⟩:=IZ j ms 0 0 i;rw[a] at f;simp only at f;subst f
 have e:Pa 0 (ms++[(nm,v)])=Pa 0 ms++[{ key:=.string (Ab nm),val:=HS v,born:=ms.length }]:=by
  rw[Agn];show _++[_]=_;rw[I8]
 have q:∀o,(setObj b o).run prog w=.ok () { w with heap:=w.heap.setIfInBounds b o }:=λo=>by
  simp[setObj,Sem.run,show w.heap[b]?=_ from h]
 rw[e];simp[fv,k,g,Abu h,l,fu,p,q]
end
section
open Go Go.RowKit
structure Ua(w:World)(b:Nat):Prop where
 ok:gU.ok w
 bl:∀k,gU.bl k->k<w.heap.size/\k≠b
theorem Aac{r':Ak}{args vals:Ae}{us rs:List Value}{u d:Nat}(e:Ac C0 prog u d f (.pbox (Dx t r)::args)=some ⟨vals,[Dx t r']⟩)(l:B4 Aai args us)(m:B4 Aai vals rs)(c:Ua w b)(h:RD w b o t r):Calls prog f (.pointer (some ⟨b,o,none⟩)::us).toArray w λe w'=>e=.returned (J1 rs)/\RD w' b o t r'/\Hm w w' b o 2:=by
 have n:Ep gU prog f (.pbox ([Value.string t,.int .i64 (Bp t r:Int)].map .sc)::args) ⟨vals,[[Value.string t,.int .i64 (Bp t r':Int)].map .sc]⟩:=L7 ngR mxR Be0 d f _ _ e;refine (Aeh n l m (w:=w) (b:=b) (o:=o) c.ok c.bl h.lt ?_ ?_).mono ?_
 ·intro j v a
  match j,a with
  |0,a=>cases a;exact h.c0
  |1,a=>cases a;exact h.c1
 ·intro j p
  match j,p with
  |0,_=>exact h.f0
  |1,_=>exact h.f1
 ·rintro e w' ⟨rfl,_,g,i,k⟩
  exact⟨rfl,⟨Iv h.lt k.size,g 0 _ rfl,g 1 _ rfl,i 0 (wt _),i 1 (Nat.succ_lt_succ (wt _))⟩,k⟩
theorem Nx(a:D5 t r)(ht:t.size<=1000000)(c:Ua w b)(h:RD w b o t r):
  Calls prog 147 #[.pointer (some ⟨b,o,none⟩)] w λe w'=>e=.returned (.tuple #[])/\RD w' b o t (Aw r)/\Hm w w' b o 2:=by
 have e:=CK (u:=1000001) (d:=0) a ht Ω;exact Aac (us:=[]) (rs:=[]) e trivial trivial c h
def Bed(t:ByteArray)(r r':Ak)(e:Ending):Prop:=
 match Dc 8 r with
 |.ok (v,q)=>r'=q/\D5 (Ab r) q/\e=.returned (.tuple #[HS v,.int .i64 0])
 |.error a=>a≠0/\D5 t r'/\∃u:JV,e=.returned (.tuple #[HS u,.int .i64 a])
theorem Awu(l:D5 t r)(ht:t.size<=1000000)(j:Ua w b)(h:RD w b o t r):
  Calls prog 168 #[.pointer (some ⟨b,o,none⟩),.int .i64 1] w λe w'=>∃r',RD w' b o t r'/\Hm w w' b o 2 /\
   Bed t r r' e:=by
 unfold Bed;obtain⟨m,e,a⟩:=A2u (u:=1000001) (d:=0) ht Ω 8 1 Ω Ω r l;cases k:Dc 8 r with
 |error n=>
  rw[k] at a;obtain⟨p,c1,c2,c,q,f,rfl⟩:=a;refine (Aac (us:=[.int .i64 1]) (rs:=[.agg #[.int .i64 c1,.string c2,.bool c],.int .i64 n]) e ⟨.inl rfl,trivial⟩ ⟨.inr ⟨[.int .i64 c1,.string c2,.bool c],rfl,rfl⟩,.inl rfl,trivial⟩ j h).mono ?_
  rintro e w' ⟨rfl,g,i⟩
  exact⟨q,g,i,p,f,(c1,Cp c2,c),by unfold HS;simp only[Hk];rfl⟩
 |ok x=>
  obtain⟨v,q⟩:=x;rw[k] at a;obtain⟨f,rfl⟩:=a;refine (Aac (us:=[.int .i64 1]) (rs:=[HS v,.int .i64 0]) e ⟨.inl rfl,trivial⟩ ⟨.inr ⟨[.int .i64 v.1,.string (Ab v.2.1),.bool v.2.2],rfl,rfl⟩,.inl rfl,trivial⟩ j h).mono ?_
  rintro e w' ⟨rfl,g,i⟩
  exact⟨q,g,i,rfl,f,rfl⟩
end
section
open Go Go.RowKit Go.Lib
theorem Ua.keep(h:Ua w b)(k:Hm w w' b o n):Ua w' b:=
 ⟨gU.stable w w' (λj a c=>k.other j c (h.bl j a).2) h.ok,λj a=>⟨Iv (h.bl j a).1 k.size,(h.bl j a).2⟩⟩
theorem AtM.keep(h:AtM w mb ms)(k:Hm w w' b o n)(a:mb≠b):AtM w' mb ms:=by have Ct:mb<w.heap.size:=(gz.1 h).1;exact (k.other mb Ct a).trans h
structure Fx(w w':World)(b mb:Nat):Prop where
 os:w'.os=w.os
 tape:w'.tape=w.tape
 output:w'.output=w.output
 size:w.heap.size<=w'.heap.size
 other:∀k,k<w.heap.size->k≠b->k≠mb->w'.heap[k]?=w.heap[k]?
theorem Fx.of(k:Hm w w' b o n):Fx w w' b mb:=⟨k.os,k.tape,k.output,k.size,λj a c _=>k.other j a c⟩
theorem Ua.below(h:Ua w b)(k:Below w.heap.size w w'):Ua w' b:=
 ⟨gU.stable w w' (λj _ c=>k.block j c) h.ok,λj a=>⟨Iv (h.bl j a).1 k.size,(h.bl j a).2⟩⟩
theorem AtM.below(h:AtM w mb ms)(k:Below w.heap.size w w'):AtM w' mb ms:=by have Ct:mb<w.heap.size:=(gz.1 h).1;exact (k.block mb Ct).trans h
theorem Fx.trans{w'':World}(h:Fx w w' b mb)(k:Fx w' w'' b mb):Fx w w'' b mb:=
 ⟨k.os.trans h.os,k.tape.trans h.tape,k.output.trans h.output,Nat.le_trans h.size k.size,λi hi a c=>(k.other i (Iv hi h.size) a c).trans (h.other i hi a c)⟩
theorem Ari:∀(n:Nat)(a l s q:Ak),Ch a->Ch l->Kj n a l=(some s,q)->Ch s
  |0,_,_,_,_,_,_,h=>by cases h
  |_+1,_,[],_,_,_,_,h=>by cases h
  |n+1,a,c::l,s,q,b,g,h=>by
    have e:Kj (n+1) a (c::l)=if c<32 then (none,c::l) else if c=34 then (some a,l) else if c=92 then
        (match O6 l with
         |(some x,r')=>Kj n (a++b6 x) r'
         |(none,r')=>(none,r')) else Kj n (a++[c]) l:=rfl
    have Uk:=Ck g
    rw[e] at h
    split at h
    · cases h
    split at h
    · cases h;exact b
    split at h
    · have f:=BU (D5.self Uk.2)
      rcases i:O6 l with⟨o,r⟩
      rw[i] at f h
      cases o with
      |none=>cases h
      |some x=>exact Ari n _ r s q (Rh b (λy d=>by have:=Lib.encodeRuneZ_byte x y d;omega)) (by have:=f.B;exact this) h
    · exact Ari n _ l s q (Rh b (λy d=>by simp at d;omega)) Uk.2 h
theorem Ahh{s q:Ak}(a:Ch l)(h:D1 l=(some s,q)):Ch s:=by
 cases l with
 |nil=>cases h
 |cons c l=>
  have e:D1 (c::l)=if c=34 then Kj (l.length+1) [] l else (none,c::l):=rfl
  rw[e] at h;split at h
  ·exact Ari _ _ _ _ _ (λx b=>by cases b) (Ck a).2 h
  ·cases h
theorem Fx.below(k:Below w.heap.size w w'):Fx w w' b mb:=⟨k.os,k.tape,k.output,k.size,λi hi _ _=>k.block i hi⟩
theorem A8v{t k e:TypeId}(a:P.underlying t=some (.map k e))(mb:Nat)(w:World):(binOp .neq t (.map (some mb)) (.map none)).run P w=.ok (.bool true) w:=by
 have h:∀d,(Op.equalIn (d+1) t (.map (some mb)) (.map none)).run P w=.ok false w:=λd=>by
  simp[Op.equalIn,run_underlying a]
 simp only[binOp];simp[Op.equal,Op.maxDepth,h 9999]
theorem A25(nm:Ak)(ms:List (Ak × JV)):(ms.any λm=>m.1==nm)=(J8 nm ms).isSome:=by
 unfold J8
 induction ms with
 |nil=>rfl
 |cons m r a=>
  by_cases h:m.1=nm
  ·rw[fw (by simp[h])];simp[h]
  ·rw[fx (by simp[h]),<-a];simp[h]
theorem Ol(V:Ak->JR (JV × Ak))(kp:Bool)(l:Ak):BJ V kp l=match Az [125] (Aw l) with|some r=>.ok ([],r)|none=>Ra V kp ((Aw l).length+1) [] (Aw l):=by
 unfold BJ;rw[Di];cases Aw l with
 |nil=>rfl
 |cons y s=>
  by_cases a:y=125
  ·subst a;rfl
  ·simp only[Bd a];split
   ·rename_i e;injection e with b _;exact absurd b a
   ·rfl
theorem ZB(a:mb≠b):({ W with heap:=W.heap.setIfInBounds mb ob }:World).heap[b]?=W.heap[b]?:=Array.getElem?_setIfInBounds_ne a
theorem RD.put(h:RD W b o t r)(a:mb≠b):RD { W with heap:=W.heap.setIfInBounds mb ob } b o t r:=by
 have e:=ZB (W:=W) (ob:=ob) a;refine⟨by simpa using h.lt,(jw e).trans h.c0,(jw e).trans h.c1,?_,?_⟩
 ·have:=h.f0;unfold ju at this ⊢;simp only[e] at this ⊢;exact this
 ·have:=h.f1;unfold ju at this ⊢;simp only[e] at this ⊢;exact this
theorem Ua.put(h:Ua W b)(c:¬gU.bl mb):Ua { W with heap:=W.heap.setIfInBounds mb ob } b:=
 ⟨gU.stable W _ (λj a _=>ZB (λe=>c (e ▸ a))) h.ok,λj a=>⟨by simpa using (h.bl j a).1,(h.bl j a).2⟩⟩
theorem Fx.put:Fx W { W with heap:=W.heap.setIfInBounds mb ob } b mb:=
 ⟨rfl,rfl,rfl,Ψ,λk _ _ h=>ZB (λe=>h e.symm)⟩
theorem AtM.put{ms':List (Ak × JV)}(h:AtM W mb ms)(a:ms'.length=n):AtM { W with heap:=W.heap.setIfInBounds mb (.map (Pa 0 ms').toArray n) } mb ms':=by have Ct:mb<W.heap.size:=(gz.1 h).1;subst a;exact Array.getElem?_setIfInBounds_self_of_lt Ct
def RoP(w':World)(mb:Nat)(l r':Ak)(e:Ending):Prop:=
 match Az [123] l with
 |some b=>(match BJ (Dc 8) true b with
  |.ok (c,q)=>r'=q/\e=.returned (.int .i64 0)/\AtM w' mb c
  |.error a=>a≠0/\e=.returned (.int .i64 a))
 |none=>e=.returned (.int .i64 2)
set_option maxHeartbeats 4000000 in
theorem A9o(hS:D5 t l)(ht:t.size<=1000000)(hU:Ua w b)(h:RD w b o t l)(hM:AtM w mb [])(a:mb≠b)(hmU:¬gU.bl mb):
  Calls prog 148 #[.pointer (some ⟨b,o,none⟩),.int .i64 1,.map (some mb)] w λe w'=>Fx w w' b mb/\∃r',D5 t r'/\RD w' b o t r' /\
   RoP w' mb l r' e:=by
 have mixed:prog.follows Departure.mixedOrders=true:=Κ
 have hac:=Mf hS ht (w0:=[123]) (λx d=>by simp at d;omega) Δ h
 go_enter Tryz.func148,Tryz.ntmps148
 go_wp2_with (go_at_call 166;refine hac.mono ?_)
 rintro e W1 ⟨rfl,h1,k1⟩
 cases S:Az [123] l with
 |none=>
  rw[S] at h1
  go_wp2
  go_ret
  exact⟨Fx.of k1,l,hS,h1,by unfold RoP;rw[S];rfl⟩
 |some H=>
  rw[S] at h1;have V:=B3 hS S;have hsk:=Nx V ht (hU.keep k1) h1
  go_wp2_with (go_at_call 147;refine hsk.mono ?_)
  rintro e W2 ⟨rfl,h2,W⟩
  have J:=Cd V;have Bn1:=Mf J ht (w0:=[125]) (λx d=>by simp at d;omega) Δ h2
  go_wp2_with (go_at_call 166;refine Bn1.mono ?_)
  rintro e W3 ⟨rfl,h3,X⟩
  cases Td:Az [125] (Aw H) with
  |some Y=>
   rw[Td] at h3
   go_wp2
   go_ret
   refine⟨((Fx.of k1).trans (Fx.of W)).trans (Fx.of X),Y,B3 J Td,h3,?_⟩;unfold RoP;rw[S];simp only;rw[Ol,Td];exact⟨rfl,rfl,((hM.keep k1 a).keep W a).keep X a⟩
  |none=>
   rw[Td] at h3
   have f:∀w' r' e,(match Ra (Dc 8) true ((Aw H).length+1) [] (Aw H) with
     |.ok (c,q)=>r'=q/\e=.returned (.int .i64 0)/\AtM w' mb c
     |.error er=>er≠0/\e=.returned (.int .i64 er))->RoP w' mb l r' e:=by
    intro w' r' e h;unfold RoP;rw[S];simp only;rw[Ol,Td];exact h
   have hU3:=((hU.keep k1).keep W).keep X;have hM3:=((hM.keep k1 a).keep W a).keep X a;have Tl:Fx w W3 b mb:=((Fx.of k1).trans (Fx.of W)).trans (Fx.of X)
   go_wp2
   go_loopw [] (λwr=>∃(n:Nat) (c:List (Ak × JV)) (x:Ak),Ra (Dc 8) true ((Aw H).length+1) [] (Aw H)=Ra (Dc 8) true n c x/\x.length<n/\D5 t x/\RD wr b o t x/\AtM wr mb c/\(∀m∈c,Ch m.1)/\Ua wr b/\Fx w wr b mb) (λwr=>match wr.cell? ⟨b,o+1,none⟩ with|some (.int _ p)=>t.size-p.toNat|_=>0)
   case atStart=>
    exact⟨_,[],Aw H,rfl,Nat.lt_succ_self _,J,h3,hM3,(λm hm=>by cases hm),hU3,Tl⟩
   case round=>
    obtain⟨n,c,x,A,hn,i,Z,hMx,K,hUx,hkx⟩:=hrel;have hrd:Calls prog 167 #[.pointer (some ⟨b,o,none⟩)] wr λe w'=>e=.returned (.tuple #[.string (Ab ((D1 x).1.getD [])),.bool (D1 x).1.isSome])/\RD w' b o t (D1 x).2/\Hm wr w' b o 2:=Alz i ht Z
    go_wp2_with (go_at_call 167;refine hrd.mono ?_)
    rintro e W4 ⟨rfl,T,k4⟩
    obtain⟨m,rfl⟩:∃m,n=m+1:=⟨n-1,Ω⟩
    rw[Lu (Dc 8) true m c x] at A;have JQ:Fx w W4 b mb:=hkx.trans (Fx.of k4);have j:=H8 i;rcases d:D1 x with⟨o4,q4⟩;rw[d] at T A j;cases o4 with
    |none=>
     go_wp2
     go_ret
     exact⟨JQ,q4,j,T,f _ _ _ (by rw[A];exact⟨Δ,rfl⟩)⟩
    |some k=>
     have XO:=Ahh i.B d;have hM4:=hMx.keep k4 a;have B:=ZL hM4 K XO true;simp only[Zzm,A25] at A;cases hl:J8 k c with
     |some v=>
      rw[hl] at B A;have L:Aks k c=.agg #[.int .i64 v.1,.string (Ab v.2.1),.bool v.2.2]:=by unfold Aks;rw[hl];rfl
      rw[L] at B
      go_wp2
      go_ret
      have M:=λob=>(Below.refl W4.heap.size W4).alloc (Cz _) ob;exact⟨JQ.trans (Fx.below (M _)),q4,j,T.below (M _) T.lt,f _ _ _ (by rw[A];exact⟨Δ,rfl⟩)⟩
     |none=>
      rw[hl] at B A;have L:Aks k c=.agg #[.int .i64 0,.string ⟨#[]⟩,.bool false]:=by unfold Aks;rw[hl];rfl
      rw[L] at B;have M:Below W4.heap.size W4 (W4.alloc (.cells #[.int .i64 0,.string ⟨#[]⟩,.bool false] 213)):=(Below.refl W4.heap.size W4).alloc (Cz _) _;have h5:=T.below M T.lt;have hM5:=hM4.below M;have hU5:=(hUx.keep k4).below M;have hk5:=JQ.trans (Fx.below (b:=b) (mb:=mb) M);have Bd7:=Nx j ht hU5 h5
      go_wp2_with (go_at_call 147;refine Bd7.mono ?_)
      rintro e W6 ⟨rfl,h6,k6⟩
      have N:=Cd j;have Bo8:=Mf N ht (w0:=[58]) (λx d=>by simp at d;omega) Δ h6
      go_wp2_with (go_at_call 166;refine Bo8.mono ?_)
      rintro e W7 ⟨rfl,h7,k7⟩
      have hk7:=(hk5.trans (Fx.of k6)).trans (Fx.of k7);cases g:Az [58] (Aw q4) with
      |none=>
       rw[g] at h7
       go_wp2
       go_ret
       exact⟨hk7,Aw q4,N,h7,f _ _ _ (by rw[A];simp only[np,qf,if_false,g];exact⟨Δ,rfl⟩)⟩
      |some r7=>
       rw[g] at h7;have hS7:=B3 N g;have O:=(hU5.keep k6).keep k7;have hM7:=(hM5.keep k6 a).keep k7 a;have Bqb:=Nx hS7 ht O h7
       go_wp2_with (go_at_call 147;refine Bqb.mono ?_)
       rintro e W8 ⟨rfl,h8,k8⟩
       have hS8:=Cd hS7;have hvc:=Awu hS8 ht (O.keep k8) h8
       go_wp2_with (go_at_call 168;refine hvc.mono ?_)
       rintro e P ⟨r9,h9,k9,r⟩
       have hk9:=(hk7.trans (Fx.of k8)).trans (Fx.of k9)
       have Av8:Ra (Dc 8) true ((Aw H).length+1) [] (Aw H)=match Dc 8 (Aw r7) with
         |.error e=>.error e
         |.ok (v,r2)=>match Az [125] (Aw r2) with
          |some Y=>.ok (c++[(k,v)],Y)
          |none=>match Az [44] (Aw r2) with
           |some Y=>Ra (Dc 8) true m (c++[(k,v)]) (Aw Y)
           |none=>.error 2:=by
        rw[A];simp only[np,qf,if_false,g]
        all_goals (rcases Dc 8 (Aw r7) with e|⟨v,r2⟩;rfl;simp only;cases Az [125] (Aw r2)<;>cases Az [44] (Aw r2)<;>rfl)
       unfold Bed at r;cases hv:Dc 8 (Aw r7) with
       |error er=>
        rw[hv] at r Av8;obtain⟨he,hs9,u,rfl⟩:=r;unfold HS;have hbe:(er != (0:Int))=true:=by simp[he]
        go_wp2
        go_ret
        have Aqr:=λob=>(Below.refl P.heap.size P).alloc (Cz _) ob;exact⟨hk9.trans (Fx.below (Aqr _)),r9,hs9,h9.below (Aqr _) h9.lt,f _ _ _ (by rw[Av8];exact⟨he,rfl⟩)⟩
       |ok x9=>
        obtain⟨z,q9⟩:=x9;rw[hv] at r Av8;obtain⟨rfl,hq9,rfl⟩:=r;unfold HS;have Aqr:Below P.heap.size P (P.alloc (.cells #[.int .i64 z.1,.string (Ab z.2.1),.bool z.2.2] 213)):=(Below.refl P.heap.size P).alloc (Cz _) _;have h10:=h9.below Aqr h9.lt;have Bkm:=((hM7.keep k8 a).keep k9 a).below Aqr;have Bmk:=((O.keep k8).keep k9).below Aqr;have Bmn:=hk9.trans (Fx.below (b:=b) (mb:=mb) Aqr);have hup:=Apm Bkm K XO hl z;unfold HS at hup;have F4:=A8v Tryz.underlying176 mb;have hS9:=hS8.trans hq9;have h11:=h10.put (mb:=mb) (ob:=.map (Pa 0 (c++[(k,z)])).toArray (c.length+1)) a;have Bjm:=Bmk.put (ob:=.map (Pa 0 (c++[(k,z)])).toArray (c.length+1)) hmU;have hln:(c++[(k,z)]).length=c.length+1:=Ψ
        rw[hln] at hup;have Bje:=Bkm.put (ms':=c++[(k,z)]) hln;have Bph:=Bmn.trans (Fx.put (b:=b) (ob:=.map (Pa 0 (c++[(k,z)])).toArray (c.length+1)));have Bjz:=Nx hS9 ht Bjm h11
        go_wp2_with (go_at_call 147;refine Bjz.mono ?_)
        rintro e W12 ⟨rfl,h12,C⟩
        have Ay5:=Cd hS9;have Bi6:=Mf Ay5 ht (w0:=[125]) (λx d=>by simp at d;omega) Δ h12
        go_wp2_with (go_at_call 166;refine Bi6.mono ?_)
        rintro e W13 ⟨rfl,D,E⟩
        have Bkg:=(Bph.trans (Fx.of C)).trans (Fx.of E);cases Awh:Az [125] (Aw r9) with
        |some r13=>
         rw[Awh] at D
         go_wp2
         go_ret
         exact⟨Bkg,r13,B3 Ay5 Awh,D,f _ _ _ (by rw[Av8];simp only;rw[Awh];exact⟨rfl,rfl,(Bje.keep C a).keep E a⟩)⟩
        |none=>
         rw[Awh] at D;have Bhx:=Mf Ay5 ht (w0:=[44]) (λx d=>by simp at d;omega) Δ D
         go_wp2_with (go_at_call 166;refine Bhx.mono ?_)
         rintro e W14 ⟨rfl,G,Q⟩
         have Bio:=Bkg.trans (Fx.of Q);cases Av1:Az [44] (Aw r9) with
         |none=>
          rw[Av1] at G
          go_wp2
          go_ret
          exact⟨Bio,Aw r9,Ay5,G,f _ _ _ (by rw[Av8];simp only;rw[Awh];simp only;rw[Av1];exact⟨Δ,rfl⟩)⟩
         |some s=>
          rw[Av1] at G;have Bgq:=B3 Ay5 Av1;have Bg0:=((Bjm.keep C).keep E).keep Q;have Bqt:=((Bje.keep C a).keep E a).keep Q a;have Bka:=Nx Bgq ht Bg0 G
          go_wp2_with (go_at_call 147;refine Bka.mono ?_)
          rintro e W15 ⟨rfl,h15,R⟩
          have Bm9:=Cd Bgq
          have hlr:(Aw s).length+1<=x.length:=by
           have Ag8:=H8 (D5.self i.B);rw[d] at Ag8;have g1:=(Cd (B3 (Cd Ag8) g))
           have g2:=((Cd (g1.trans hq9))).le;have g3:=Hr s;have g4:=QI Av1;omega
          have hxl:=i.len
          go_wp2
          refine⟨⟨m,c++[(k,z)],Aw s,by rw[Av8];simp only[Awh,Av1],Ω,Bm9,h15,Bqt.keep R a,λy U=>?_,Bg0.keep R,Bio.trans (Fx.of R)⟩,?_⟩
          ·rcases B8.1 U with U|U
           ·exact K y U
           ·simp at U;subst U;exact XO
          ·have hp3:Bp t x<Bp t (Aw s):=by unfold Bp;omega
           have hp4:Bp t (Aw s)<=t.size:=Nat.sub_le _ _;simp only[h15.c1,Z.c1,Hy];omega
end
def Bl(c:Int):Ak->List Ak
 |[]=>[[]]
 |x::r=>if x=c then []::Bl c r else match Bl c r with
  |h::t=>(x::h)::t
  |[]=>[[x]]
theorem Vk(c:Int)(l:Ak):Bl c l≠[]:=by
 cases l with
 |nil=>simp[Bl]
 |cons x r=>
  unfold Bl;split
  ·simp
  ·cases Bl c r<;>simp
def B7(c:Int)(l:Ak):Ak:=l.takeWhile (λx=>x != c)
theorem VF(c:Int):∀(l:Ak),Bl c l=if (B7 c l).length<l.length then B7 c l::Bl c (l.drop ((B7 c l).length+1)) else [l]
 |[]=>rfl
 |x::r=>by
  by_cases h:x=c
  ·subst h;have e:B7 x (x::r)=[]:=by unfold B7;rw[fy Ψ]
   have b:Bl x (x::r)=[]::Bl x r:=by
    show (if x=x then []::Bl x r else _)=_;rw[Bv rfl]
   rw[e,Bv Ψ,b];rfl
  ·have e:B7 c (x::r)=x::B7 c r:=by unfold B7;rw[f6 (by simp[h])]
   have b:Bl c (x::r)=match Bl c r with|a::t=>(x::a)::t|[]=>[[x]]:=by
    show (if x=c then []::Bl c r else _)=_;rw[Bd h]
   rw[e,b,VF c r];by_cases g:(B7 c r).length<r.length
   ·rw[Bv g,Bv (by simp;omega)]
    rfl
   ·rw[Bd g,Bd (by simp;omega)]
def Wa(x:Int):Bool:=decide (48<=x)&&decide (x<=57)
def ltB(x:Int):Bool:=(decide (97<=x)&&decide (x<=122))||Wa x
def Ny(l:Ak):Bool:=decide (1<=l.length)&&decide (l.length<=63) && !(l.head?==some 45) && !(l.getLast?==some 45)&&l.all (λx=>ltB x||x==45)
def Yq(l:Ak):Int:=
 if 100<l.length then 8 else if (Bl 46 l).all Ny=false then 2 else if ((Bl 46 l).getLastD []).all Wa=true then 2 else 0
def NQ(l:Ak):Int:=l.foldl (λn x=>10*n+(x-48)) 0
def Mj(l:Ak):Bool:=decide (1<=l.length)&&decide (l.length<=5) && !(l.head?==some 48)&&l.all Wa
def dfl(s:Bool):Int:=if s=true then 443 else 80
def HC(s:Bool)(r:Ak):Int:=
 let a:=B7 58 r
 if Yq a≠0 then Yq a else if a.length=r.length then 0 else
  if Mj (r.drop (a.length+1))=true/\NQ (r.drop (a.length+1))<=65535/\NQ (r.drop (a.length+1))≠dfl s then 0 else 2
def Hv(l:Ak):Int:=
 if [104,116,116,112,115,58,47,47].isPrefixOf l=true then HC true (l.drop 8)
 else if [104,116,116,112,58,47,47].isPrefixOf l=true then HC false (l.drop 7) else 2
section
variable {I:FuncId->Option (Ae->Option A3)}(u d:Nat)(F:An)
theorem AK(u d:Nat)(Z Y:ByteArray):Ac (CP p) prog u (d+1) 189 [Z,Y]=(λ(F:An)=>Cn (F 197 [Z,Y]) λa b=>Bh a λa=>Ag b<|Ap (!a) (A9 [Z,false]) (As (decide (wj (↑(mm Y):Int)<=mm Z)&&decide (mm Z<=mm Z))<|Aa (mn Z (wj (↑(mm Y):Int)) (mm Z)) λa=>A9 [a,true])) (Ac (CP p) prog u d):=Κ
theorem KO(u d:Nat)(Z Y:ByteArray):Ac (CP p) prog u (d+1) 169 [Z,Y]=(λ(F:An)=>Cn (F 189 [Z,Y]) λa b=>At a λa=>Qa b λb=>A9 [a,b]) (Ac (CP p) prog u d):=Κ
theorem RY(u d:Nat)(Z Y:ByteArray):Ac (CP p) prog u (d+1) 190 [Z,Y]=(λ(F:An)=>Gn .i64 (F 202 [Z,Y]) λa=>Ap (decide (a>=0)) (As (decide (0<=a))<|As (decide (a.toNat<=mm Z))<|Aa (mn Z 0 a.toNat) λb=>Aa (wrap .i64 (a+(↑(mm Y):Int))) λa=>As (decide (0<=a))<|As (decide (a.toNat<=mm Z)&&decide (mm Z<=mm Z))<|Aa (mn Z a.toNat (mm Z)) λa=>A9 [b,a,true]) (A9 [Z,Bg ⟨#[]⟩,false])) (Ac (CP p) prog u d):=Κ
theorem Ads(u d:Nat)(Z Y:ByteArray):Ac (CP p) prog u (d+1) 170 [Z,Y]=(λ(F:An)=>Cn (F 190 [Z,Y]) λa b=>At a λa=>Ad b λb c=>At b λb=>Qa c λc=>A9 [a,b,c]) (Ac (CP p) prog u d):=Κ
theorem XE(u d:Nat)(Z Y:ByteArray):Ac (CP p) prog u (d+1) 220 [Z,Y]=(λ(F:An)=>Gn .i64 (F 202 [Z,Y]) λa=>A9 [a]) (Ac (CP p) prog u d):=Κ
theorem LO(u d:Nat)(Y Z:ByteArray):Ac (CP p) prog u (d+1) 202 [Y,Z]=(λ(F:An)=>Ap ((↑(mm Z):Int)==0) (A9 [(0:Int)]) (Ap (mf (ml Z)==mf (ml Y)) (A9 [(0:Int)]) (Ap ((↑(mm Z):Int)==1) (Dq ((mf (ml Z))[0]?) λa=>Gn .i64 (F 180 [Y,.sc (.int .u8 (↑(nx a):Int))]) λa=>A9 [a]) (Ap (decide ((↑(mm Z):Int)>=(↑(mm Y):Int))) (A9 [(-1:Int)]) none)))) (Ac (CP p) prog u d):=Κ
def G9(Z Y:ByteArray)(X W:Int)(V:Nat)(U T:ByteArray)(S Q:Int)(P:Nat)(O:Int)(N:Ae):Option A3:=Hq u F 203 Tryz.f203 [Z,Y,X,W] [.r,.r,.r,.r,.r,.r,.r,.r,.l,.l] V ⟨lk [(0,U),(1,T),(2,S),(3,Q),(9,.view 9 1 0 P),(10,O)],Fb [(9,.ar false N)]⟩
theorem FM(S Q:ByteArray)(P O:Int)(N:Nat)(Y V:ByteArray)(U T:Int)(X:Nat)(Z:Int)(W:Ae):G9 u F S Q P O (N+1) Y V U T X Z W=(Ap (decide (Z<T)) (Gn .i64 (F 220 [Y,V]) λa=>Ap (decide (a<0)) (As (decide (0<=Z)&&decide (Z<(↑X:Int)))<|As (decide (0+Z.toNat*1+1<=W.length))<|Aa (B9 W [Y] (0+Z.toNat*1)) λa=>Aa (wrap .i64 (Z+1)) λb=>As (decide (0<=b))<|As (decide (b.toNat<=X))<|Aa (b.toNat-0) λb=>As (decide (b*1<=a.length))<|A9 [.own 1 b (a.take (b*1))]) (Aa (wrap .i64 (a+U)) λb=>As (decide (0<=b))<|As (decide (b.toNat<=mm Y))<|Aa (mn Y 0 b.toNat) λb=>As (decide (0<=Z)&&decide (Z<(↑X:Int)))<|As (decide (0+Z.toNat*1+1<=W.length))<|Aa (B9 W [b] (0+Z.toNat*1)) λb=>Aa (wrap .i64 (a+(↑(mm V):Int))) λa=>As (decide (0<=a))<|As (decide (a.toNat<=mm Y)&&decide (mm Y<=mm Y))<|Aa (mn Y a.toNat (mm Y)) λa=>Aa (wrap .i64 (Z+1)) λc=>G9 u F S Q P O N a V U T X c b)) (As (decide (0<=Z)&&decide (Z<(↑X:Int)))<|As (decide (0+Z.toNat*1+1<=W.length))<|Aa (B9 W [Y] (0+Z.toNat*1)) λa=>Aa (wrap .i64 (Z+1)) λb=>As (decide (0<=b))<|As (decide (b.toNat<=X))<|Aa (b.toNat-0) λb=>As (decide (b*1<=a.length))<|A9 [.own 1 b (a.take (b*1))])):=Κ
theorem OL(u d:Nat)(Z X:ByteArray)(W Y:Int):Ac (CP p) prog u (d+1) 203 [Z,X,W,Y]=(λ(F:An)=>Ap (Y==0) (A9 [.own 1 0 []]) (Ap (mf (ml X)==mf (ml (ByteArray.mk #[]))) (Cn (F 218 [Z,Y]) λa b=>K5 1 a λa c=>Ag b<|As (decide (a*1<=c.length))<|A9 [.own 1 a (c.take (a*1))]) (Ap (decide (Y<0)) (Gn .i64 (F 219 [Z,X]) λa=>Aa (wrap .i64 (a+1)) λa=>Aa (wrap .i64 ((↑(mm Z):Int)+1)) λb=>Aa (if b<a then b else a) λa=>As (decide (0<=a)&&decide (a<=a)&&decide (a*16<=1099511627776)&&decide (a<=1099511627776))<|Aa (wrap .i64 (a-1)) λb=>G9 u F Z X W Y u Z X W b a.toNat 0 (Xx a.toNat [Bg ⟨#[]⟩])) (Aa (wrap .i64 ((↑(mm Z):Int)+1)) λa=>Aa (if a<Y then a else Y) λa=>As (decide (0<=a)&&decide (a<=a)&&decide (a*16<=1099511627776)&&decide (a<=1099511627776))<|Aa (wrap .i64 (a-1)) λb=>G9 u F Z X W Y u Z X W b a.toNat 0 (Xx a.toNat [Bg ⟨#[]⟩]))))) (Ac (CP p) prog u d):=Κ
theorem XB(u d:Nat)(Z Y:ByteArray):Ac (CP p) prog u (d+1) 191 [Z,Y]=(λ(F:An)=>Cn (F 203 [Z,Y,(0:Int),(-1:Int)]) λa b=>K5 1 a λa c=>Ag b<|As (decide (a*1<=c.length))<|A9 [.own 1 a (c.take (a*1))]) (Ac (CP p) prog u d):=Κ
def Fe(Z:ByteArray)(Y:Nat)(X:ByteArray)(W V:Int):Option A3:=Hq u F 192 Tryz.f192 [Z] [.r,.r,.l,.r,.l] Y ⟨lk [(0,X),(16,W),(17,V)],Fb []⟩
theorem R2(W:ByteArray)(V:Nat)(Y:ByteArray)(X Z:Int):Fe u F W (V+1) Y X Z=(Ap (decide (Z<X)) (As (decide (0<=Z))<|Dq ((mf (ml Y))[Z.toNat]?) λa=>(λe:Option A3=>(λf:Option A3=>(λc:Option A3=>Ap (decide (97<=(↑(nx a):Int))) (Ap (decide ((↑(nx a):Int)<=122)) (Ap ((↑(nx a):Int)==45) (Ap (decide (Z>0)) (Aa (wrap .i64 ((↑(mm Y):Int)-1)) λa=>Aa (wrap .i64 (Z+1)) λa=>Fe u F W V Y X a) e) e) c) c) (Ap (decide (48<=(↑(nx a):Int))) (Ap ((↑(nx a):Int)==45) (Ap (decide (Z>0)) (Aa (wrap .i64 ((↑(mm Y):Int)-1)) λb=>Ap (!decide ((↑(nx a):Int)<=57)) (Ap (!decide (Z<b)) (A9 [false]) e) e) f) f) (Ap ((↑(nx a):Int)==45) (Ap (decide (Z>0)) (Aa (wrap .i64 ((↑(mm Y):Int)-1)) λa=>Ap (!decide (Z<a)) (A9 [false]) (Aa (wrap .i64 (Z+1)) λa=>Fe u F W V Y X a)) (A9 [false])) (A9 [false])))) (Ap (!decide ((↑(nx a):Int)<=57)) (A9 [false]) e)) (Aa (wrap .i64 (Z+1)) λa=>Fe u F W V Y X a)) (A9 [true])):=Κ
theorem QV(u d:Nat)(Z:ByteArray):Ac (CP p) prog u (d+1) 192 [Z]=(λ(F:An)=>Ap (decide ((↑(mm Z):Int)<1)) (A9 [false]) (Ap (decide ((↑(mm Z):Int)>63)) (A9 [false]) (Fe u F Z u Z ((↑(mm Z):Int)) 0))) (Ac (CP p) prog u d):=Κ
def Mb(Z:ByteArray)(Y X W:Nat)(V U:Int)(T:Ae):Option A3:=Hq u F 171 Tryz.f171 [Z] [.r,.r,.r,.l,.r,.l] Y ⟨lk [(3,.view 3 1 0 X),(11,.view 3 1 0 W),(12,V),(13,U)],Fb [(3,.ar false T)]⟩
theorem Wg(U:ByteArray)(T Y W:Nat)(V Z:Int)(X:Ae):Mb u F U (T+1) Y W V Z X=(Ap (decide (Z<V)) (As (decide (0<=Z)&&decide (Z<(↑W:Int)))<|At (X.getD (0+Z.toNat*1) .top) λa=>Cn (F 192 [a]) λa b=>Bh a λa=>Ag b<|Ap (!a) (A9 [(2:Int)]) (Aa (wrap .i64 (Z+1)) λa=>Mb u F U T Y W V a X)) (Aa (wrap .i64 ((↑Y:Int)-1)) λa=>As (decide (0<=a)&&decide (a<(↑Y:Int)))<|At (X.getD (0+a.toNat*1) .top) λa=>Cn (F 193 [a,Bg ⟨#[48,49,50,51,52,53,54,55,56,57]⟩]) λa b=>At a λa=>Ag b<|Ap (mf (ml a)==mf (ml (ByteArray.mk #[]))) (A9 [(2:Int)]) (A9 [(0:Int)]))):=Κ
theorem XR(u d:Nat)(Z:ByteArray):Ac (CP p) prog u (d+1) 171 [Z]=(λ(F:An)=>Ap (decide ((↑(mm Z):Int)>100)) (A9 [(8:Int)]) (Cn (F 191 [Z,Bg ⟨#[46]⟩]) λa b=>K5 1 a λa c=>Ag b<|Mb u F Z u a a (↑a:Int) 0 c)) (Ac (CP p) prog u d):=Κ
theorem GD(u d:Nat)(Z:Bool):Ac (CP p) prog u (d+1) 172 [Z]=(λ(F:An)=>Ap Z (A9 [(443:Int)]) (A9 [(80:Int)])) (Ac (CP p) prog u d):=Κ
def Iz(Z:ByteArray)(Y:Nat)(X:ByteArray)(W V U:Int):Option A3:=Hq u F 173 Tryz.f173 [Z] [.r,.r,.r,.l,.r,.l] Y ⟨lk [(0,X),(4,W),(21,V),(22,U)],Fb []⟩
theorem Qz(V:ByteArray)(U:Nat)(X:ByteArray)(Y W Z:Int):Iz u F V (U+1) X Y W Z=(Ap (decide (Z<W)) (As (decide (0<=Z))<|Dq ((mf (ml X))[Z.toNat]?) λa=>Ap (decide ((↑(nx a):Int)<48)) (A9 [(0:Int),false]) (Ap (decide ((↑(nx a):Int)>57)) (A9 [(0:Int),false]) (Aa (wrap .i64 (10*Y)) λb=>Aa (wrap .u8 ((↑(nx a):Int)-48)) λa=>Aa (wrap .i64 a) λa=>Aa (wrap .i64 (b+a)) λa=>Aa (wrap .i64 (Z+1)) λb=>Iz u F V U X a W b))) (A9 [Y,C3 (decide (Y<=65535))])):=Κ
theorem NJ(u d:Nat)(Z:ByteArray):Ac (CP p) prog u (d+1) 173 [Z]=(λ(F:An)=>(λb:Option A3=>Ap (decide ((↑(mm Z):Int)<1)) b (Ap (decide ((↑(mm Z):Int)>5)) b (Dq ((mf (ml Z))[0]?) λa=>Ap ((↑(nx a):Int)==48) b (Iz u F Z u Z 0 ((↑(mm Z):Int)) 0)))) (A9 [(0:Int),false])) (Ac (CP p) prog u d):=Κ
theorem Aa7(u d:Nat)(Z:ByteArray):Ac (CP p) prog u (d+1) 150 [Z]=(λ(F:An)=>Cn (F 169 [Z,Bg ⟨#[104,116,116,112,115,58,47,47]⟩]) λa b=>At a λa=>Qa b λb=>(λh:PV=>(λg:Option A3=>Ap (!b) (Cn (F 169 [Z,Bg ⟨#[104,116,116,112,58,47,47]⟩]) λa c=>At a λa=>Qa c λc=>Ap (!c) g (Cn (F 170 [a,Bg ⟨#[58]⟩]) λa c=>At a λa=>Ad c λc e=>At c λc=>Qa e λe=>Gn .i64 (F 171 [a]) λf=>Ap (f != 0) (A9 [h,f]) (Gn .i64 (F 172 [b]) λf=>Ap e (Cn (F 173 [c]) λc e=>Bi .i64 c λc=>Qa e λe=>Ap (!e) g (Ap (c==f) g (A9 [.agg [b,a,c],(0:Int)]))) (A9 [.agg [b,a,f],(0:Int)])))) (Cn (F 170 [a,Bg ⟨#[58]⟩]) λa c=>At a λa=>Ad c λc e=>At c λc=>Qa e λe=>Gn .i64 (F 171 [a]) λf=>Ap (f != 0) (A9 [h,f]) (Gn .i64 (F 172 [b]) λf=>Ap e (Cn (F 173 [c]) λc e=>Bi .i64 c λc=>Qa e λe=>Ap (!e) g (Ap (c==f) g (A9 [.agg [b,a,c],(0:Int)]))) (A9 [.agg [b,a,f],(0:Int)])))) (A9 [h,(2:Int)])) (.agg [false,Bg ⟨#[]⟩,(0:Int)])) (Ac (CP p) prog u d):=Κ
def Dl(Z:ByteArray)(Y:Nat)(X:ByteArray)(W:Nat)(V:Ae):Option A3:=Hq u F 149 Tryz.f149 [Z] [.r,.r,.r,.l,.l] Y ⟨lk [(0,X),(4,.view 4 1 0 W)],Fb [(4,.ar false V)]⟩
def Dk(Z:ByteArray)(Y X:Nat)(W:ByteArray)(V:Nat)(U T:Int)(S Q:Int)(P:Ae):Option A3:=Hq u F 149 Tryz.f149 [Z] [.r,.r,.r,.l,.l,.i Y,.r,.l,.r,.r,.l,.r,.l] X ⟨lk [(0,W),(4,.view 4 1 0 V),(5,U),(6,.sc (.int .u32 T)),(28,S),(29,Q)],Fb [(4,.ar false P)]⟩
def Dm(Z:ByteArray)(Y X:Nat)(W:ByteArray)(V:Nat)(U:Int)(T S:Nat)(Q P:Int)(O N:Ae):Option A3:=Hq u F 149 Tryz.f149 [Z] [.r,.r,.r,.l,.l,.i Y,.r,.l,.r,.r,.r,.r,.l,.r,.l] X ⟨lk [(0,W),(4,.view 4 1 0 V),(5,U),(9,.ptr 9 0),(58,.view 9 1 T S),(59,Q),(60,P)],Fb [(4,.ar false O),(9,.ar false N)]⟩
theorem Ll(W:ByteArray)(V:Nat)(Z:ByteArray)(Y:Nat)(X:Ae):Dl u F W (V+1) Z Y X=(Ap (decide ((↑(mm Z):Int)>0)) (Aa (if (↑(mm Z):Int)<4 then (↑(mm Z):Int) else 4) λa=>Dk u F W V u Z Y a 0 a 0 X) (As (decide (Y*1<=X.length))<|A9 [.own 1 Y (X.take (Y*1)),(0:Int)])):=Κ
theorem Lr(V:ByteArray)(U P:Nat)(X:ByteArray)(T:Nat)(W Y:Int)(S Z:Int)(Q:Ae):Dk u F V U (P+1) X T W Y S Z Q=(Ap (decide (Z<S)) (As (decide (0<=Z))<|Dq ((mf (ml X))[Z.toNat]?) λa=>Gn .i64 (F 165 [Bg ⟨#[65,66,67,68,69,70,71,72,73,74,75,76,77,78,79,80,81,82,83,84,85,86,87,88,89,90,97,98,99,100,101,102,103,104,105,106,107,108,109,110,111,112,113,114,115,116,117,118,119,120,121,122,48,49,50,51,52,53,54,55,56,57,45,95]⟩,.sc (.int .u8 (↑(nx a):Int))]) λa=>Ap (decide (a<0)) (A9 [.own 1 0 [],(2:Int)]) (Aa (wrap .u32 a) λa=>Aa (wrap .i64 (6*Z)) λb=>Aa (wrap .i64 (18-b)) λb=>As (decide (0<=b))<|Aa (Dv .u32 a b) λa=>Aa (Vm .u32 Y a) λa=>Aa (wrap .i64 (Z+1)) λb=>Dk u F V U P X T W a S b Q)) (Aa (E4 .u32 Y 16) λa=>Aa (wrap .u8 a) λa=>Aa (E4 .u32 Y 8) λb=>Aa (wrap .u8 b) λb=>Aa (wrap .u8 Y) λc=>Aa (wrap .i64 (W-1)) λe=>As (decide (0<=e))<|As (decide (e.toNat<=3)&&true)<|Aa (0+e.toNat*1) λf=>Aa (3-e.toNat) λe=>Dm u F V U u X T W f e (↑e:Int) 0 Q ([.sc (.int .u8 a),.sc (.int .u8 b),.sc (.int .u8 c)]))):=Κ
theorem Ln(T:ByteArray)(S N:Nat)(Z:ByteArray)(Y:Nat)(W:Int)(Q P:Nat)(O V:Int)(U X:Ae):Dm u F T S (N+1) Z Y W Q P O V U X=(Ap (decide (V<O)) (As (decide (0<=V)&&decide (V<(↑P:Int)))<|Bi .u8 (X.getD (Q+V.toNat*1) .top) λa=>Ap (a != 0) (A9 [.own 1 0 [],(2:Int)]) (Aa (wrap .i64 (V+1)) λa=>Dm u F T S N Z Y W Q P O a U X)) (Aa (wrap .i64 (W-1)) λa=>As (decide (3<=X.length)&&true)<|As (decide (0<=a))<|As (decide (a.toNat<=3))<|Aa (a.toNat-0) λa=>As (decide (0+a*1<=X.length))<|As (decide (Y*1<=U.length)&&decide (wy (yt (a*1) (X.drop 0))=a*1)&&decide ((Y+a)*1<=1099511627776)&&decide (Y+a<=1099511627776))<|Aa (Y+a) λb=>Aa (yt (Y*1) U++yt (a*1) (X.drop 0)) λa=>As (decide (0<=W))<|As (decide (W.toNat<=mm Z)&&decide (mm Z<=mm Z))<|Aa (mn Z W.toNat (mm Z)) λc=>Dl u F T S c b a)):=Κ
theorem BX(u d:Nat)(Z:ByteArray):Ac (CP p) prog u (d+1) 149 [Z]=(λ(F:An)=>Aa (nr (↑(mm Z):Int) 4) λa=>Ap (a==1) (A9 [.own 1 0 [],(2:Int)]) (Aa (wrap .i64 (wh (↑(mm Z):Int) 4)) λa=>Aa (wrap .i64 (a*3)) λa=>Aa (wrap .i64 (a+2)) λa=>As (decide (0<=a)&&decide (a*1<=1099511627776)&&decide (a<=1099511627776))<|Dl u F Z u Z 0 ([]))) (Ac (CP p) prog u d):=Κ
end
theorem A0c{a b:Int}(e:0<=a/\a<=255)(f:0<=b/\b<=255):(a.toNat.toUInt8==b.toNat.toUInt8)=decide (a=b):=by
 rw[fk,beq_iff_eq,decide_eq_true_iff];constructor
 ·intro h;have:=congrArg nx h;have c:a.toNat.toUInt8.toNat=a.toNat % 256:=by rw[nj,ny]
  have d:b.toNat.toUInt8.toNat=b.toNat % 256:=by rw[nj,ny]
  rw[c,d] at this;omega
 ·rintro rfl;rfl
theorem Nz(a:0<=c/\c<=255):((c.toNat.toUInt8.toNat:Nat):Int)=c:=by rw[nj,ny];omega
theorem Alm(r:Ak)(e:x≠c):B7 c (x::r)=x::B7 c r:=by unfold B7;rw[f6 (by simp[e])]
theorem Aio(r:Ak):B7 c (c::r)=[]:=by unfold B7;rw[fy Ψ]
theorem Xc(c:Int)(l:Ak):B7 c l=l.take (B7 c l).length:=by have h:B7 c l <+: l:=f7 _;exact List.prefix_iff_eq_take.1 h
theorem YC(c:Int)(l:Ak):(B7 c l).length<=l.length:=by have h:B7 c l <+: l:=f7 _;exact h.length_le
theorem Atl(c:Int)(l:Ak)(h:¬(B7 c l).length<l.length):B7 c l=l:=by have:=YC c l;rw[Xc c l,Gp Ω]
def SW(c:Int)(l:Ak):Int:=if (B7 c l).length<l.length then ((B7 c l).length:Int) else -1
theorem Atw{c:Int}(a:0<=c/\c<=255):∀{l:Ak},Ch l->b7 (l.map λn=>n.toNat.toUInt8) c.toNat.toUInt8=SW c l
 |[],_=>rfl
 |x::r,h=>by
  obtain⟨b,d⟩:=Ck h;have f:=Atw a d;show (if (x.toNat.toUInt8==c.toNat.toUInt8)=true then (0:Int) else if (b7 (r.map λn=>n.toNat.toUInt8) c.toNat.toUInt8 == -1)=true then -1 else b7 (r.map λn=>n.toNat.toUInt8) c.toNat.toUInt8+1)=_;rw[A0c b a,f];by_cases e:x=c
  ·subst e;unfold SW;rw[Aio];simp
  ·unfold SW;rw[Alm r e];simp only[JT,e,if_false,M9];by_cases g:(B7 c r).length<r.length
   ·simp only[Bv g,Bv (show (B7 c r).length+1<r.length+1 by omega)];rw[Bd (show ¬(((((B7 c r).length:Int)) == -1)=true) by rw[beq_iff_eq];omega)]
    omega
   ·simp only[Bd g,Bd (show ¬(B7 c r).length+1<r.length+1 by omega)];rfl
theorem Afo{c:Int}(d:0<=c/\c<=255):∀{l:Ak},Ch l->(l.map λn=>n.toNat.toUInt8).count c.toNat.toUInt8+1=(Bl c l).length
 |[],_=>rfl
 |x::r,h=>by
  obtain⟨g,i⟩:=Ck h;have b:=Afo d i;rw[ER,List.count_cons,A0c g d];unfold Bl;by_cases e:x=c
  ·rw[Bv e,Bv (by simp[e]),M9,<-b]
  ·rw[Bd e,Bd (by simp[e])];cases f:Bl c r with
   |nil=>exact absurd f (Vk c r)
   |cons a t=>
    rw[f] at b
    simpa using b
theorem JU(c:Int):∀(l:Ak),(Bl c l).length<=l.length+1
 |[]=>Cz _
 |x::r=>by
  have b:=JU c r;unfold Bl;split
  ·simp;omega
  ·cases d:Bl c r with
   |nil=>simp
   |cons a t=>rw[d] at b;simp at b ⊢;omega
theorem Agm(c:Int)(l:Ak):1<=(Bl c l).length:=by
 have:=Vk c l;cases b:Bl c l with
 |nil=>exact absurd b this
 |cons a t=>simp
theorem Ats{a:Ae}{x y:PV}{r:Ae}(h:a.length=n):(a++x::r).set n y=a++y::r:=by
 subst h
 induction a with
 |nil=>rfl
 |cons z a b=>simp[b]
theorem dle(n:Nat):decide (n<=n)=true:=Ψ
section
variable {u d:Nat}{p:Option (Ae->Option A3)}
theorem Atp(f:0<=c/\c<=255)(h:Ch l):Ac (CP p) prog u (d+2) 202 [Bg (Ab l),Bg (Ab [c])]=some ⟨[Av (SW c l)],[]⟩:=by
 have e:Ac (CP p) prog u (d+1) 180 [Bg (Ab l),.sc (.int .u8 c)]=some ⟨[Av (b7 (Ab l).data.toList c.toNat.toUInt8)],[]⟩:=rfl;have j:(Ab l).data.toList=l.map λn=>n.toNat.toUInt8:=rfl;rw[j,Atw f h] at e;have i:((((Ab [c]).size:Nat):Int)==0)=false:=by rw[Ai];rfl
 have k:((((Ab [c]).size:Nat):Int)==1)=true:=by rw[Ai];rfl
 have m:(mf (Ab [c]).data)[0]?=some c.toNat.toUInt8:=rfl;have o:=Nz f;rw[LO];by_cases g:[c]=l
 ·subst g;have a:(mf (Ab [c]).data==mf (Ab [c]).data)=true:=Ψ
  have r:SW c [c]=0:=by unfold SW;rw[Aio];rfl
  simp only[Aq,Ar,i,a,r]
 ·have a:(mf (Ab [c]).data==mf (Ab l).data)=false:=by
   rw[b4,ne_eq,beq_iff_eq];intro q;apply g
   have s:Ab [c]=Ab l:=by
    cases b:Ab [c];cases t:Ab l;rw[b,t] at q;exact congrArg ByteArray.mk (m9.1 q)
   have v:=congrArg Cp s
   rwa [Cw h,Cw (λx b=>by simp at b;omega)] at v
  simp only[Aq,Ar,i,a,k,m,o,e]
theorem A07(a:0<=c/\c<=255)(b:Ch l):Ac (CP p) prog u (d+3) 220 [Bg (Ab l),Bg (Ab [c])]=some ⟨[Av (SW c l)],[]⟩:=by have e:Ac (CP p) prog u (d+2) 202 [Bg (Ab l),Bg (Ab [c])]=_:=Atp (u:=u) (d:=d) (p:=p) a b;rw[XE];simp only[Aq,Ar,e]
theorem AM(a:Ch l)(n:Nat):(Ab l).extract 0 n=Ab (l.take n):=by rw[RG,Cw a]
theorem CQ(b:Ch l)(n:Nat):(Ab l).extract n l.length=Ab (l.drop n):=by
 have:=VB (s:=Ab l) (a:=n)
 rwa [Ai,Cw b] at this
theorem Bjh(j:0<=c/\c<=255)(a:Ch l)(v:l.length<=1000000):Ac (CP p) prog u (d+4) 170 [Bg (Ab l),Bg (Ab [c])]=some ⟨[Bg (Ab (B7 c l)),Bg (Ab (l.drop ((B7 c l).length+1))),C3 (decide ((B7 c l).length<l.length))],[]⟩:=by
 have e:Ac (CP p) prog u (d+2) 202 [Bg (Ab l),Bg (Ab [c])]=_:=Atp (u:=u) (d:=d) (p:=p) j a
 have k:Ac (CP p) prog u (d+3) 190 [Bg (Ab l),Bg (Ab [c])]=some ⟨[Bg (Ab (B7 c l)),Bg (Ab (l.drop ((B7 c l).length+1))),C3 (decide ((B7 c l).length<l.length))],[]⟩:=by
  refine (RY (p:=p) u (d+2) _ _).trans ?_;by_cases g:(B7 c l).length<l.length
  ·have hi:SW c l=(B7 c l).length:=by unfold SW;rw[Bv g]
   rw[hi] at e;have b:decide (((B7 c l).length:Int)>=0)=true:=Ψ
   have m:decide ((0:Int)<=((B7 c l).length:Int))=true:=Ψ
   have n:decide (wj ((B7 c l).length:Int)<=l.length)=true:=by simp;omega
   have o:(Ab l).extract 0 (wj ((B7 c l).length:Int))=Ab (B7 c l):=by
    rw[Hy,AM a,<-Xc]
   have q:wrap .i64 (((B7 c l).length:Int)+(([c].length:Nat):Int))=(((B7 c l).length+1:Nat):Int):=by
    rw[wrap_i64 (by simp;omega) (by simp;omega)];simp
   have r:decide ((0:Int)<=(((B7 c l).length+1:Nat):Int))=true:=by simp;omega
   have s:decide (wj (((B7 c l).length+1:Nat):Int)<=l.length)=true:=by simp;omega
   have t:(Ab l).extract (wj (((B7 c l).length+1:Nat):Int)) l.length=Ab (l.drop ((B7 c l).length+1)):=by
    rw[Hy,CQ a]
   have f:decide ((B7 c l).length<l.length)=true:=by simpa using g
   simp only[Aq,Ar,e,Ai,dle,b,m,n,o,q,r,s,t,f]
  ·have hi:SW c l = -1:=by unfold SW;rw[Bd g]
   rw[hi] at e;have b:decide ((-1:Int)>=0)=false:=rfl;have f:decide ((B7 c l).length<l.length)=false:=by simpa using g
   have h:l.drop ((B7 c l).length+1)=[]:=f8 Ω;have i:(ByteArray.mk #[])=Ab []:=rfl;rw[f,h,Atl c l g];simp only[Aq,Ar,e,b,i]
 rw[Ads];simp only[Aq,Ar,k]
theorem Bah{w:Ak}(a:Ch l)(b:Ch w):Ac (CP p) prog u (d+4) 169 [Bg (Ab l),Bg (Ab w)]=some ⟨[Bg (Ab (if w.isPrefixOf l=true then l.drop w.length else l)),C3 (w.isPrefixOf l)],[]⟩:=by
 have e:Ac (CP p) prog u (d+2) 197 [Bg (Ab l),Bg (Ab w)]=some ⟨[C3 (w.isPrefixOf l)],[]⟩:=Ba7 (I:=Ai6 p) (u:=u) (d:=d+1) a b
 have c:Ac (CP p) prog u (d+3) 189 [Bg (Ab l),Bg (Ab w)]=some ⟨[Bg (Ab (if w.isPrefixOf l=true then l.drop w.length else l)),C3 (w.isPrefixOf l)],[]⟩:=by
  refine (AK (p:=p) u (d+2) _ _).trans ?_;cases hp:w.isPrefixOf l
  ·rw[hp] at e;simp only[Aq,Ar,e,Ix,qf,if_false]
  ·rw[hp] at e;have JJ:w.length<=l.length:=(List.isPrefixOf_iff_prefix.1 hp).length_le;have f:decide (wj ((w.length:Nat):Int)<=l.length)=true:=by simp;omega
   have g:(Ab l).extract (wj ((w.length:Nat):Int)) l.length=Ab (l.drop w.length):=by rw[Hy,CQ a]
   simp only[Aq,Ar,e,Ai,dle,f,g,Gc,if_true]
 rw[KO];simp only[Aq,Ar,c]
def EK(x:Ak):PV:=Bg (Ab x)
theorem Aqh(m:0<=c/\c<=255){a1:ByteArray}{a2 a3:Int}{N:Nat}(E:N<=1000000):∀(nn:Nat)(r:Ak)(done:List Ak),r.length+1<=nn->r.length<=1000000->Ch r->done.length+(Bl c r).length=N ->
  G9 u (Ac (CP p) prog u (d+3)) a0 a1 a2 a3 nn (Ab r) (Ab [c]) 0 ((N:Int)-1) N (done.length:Int) (done.map EK++qz (Bl c r).length (Bg ⟨#[]⟩))=some ⟨[.own 1 N ((done++Bl c r).map EK)],[]⟩:=by
 intro nn
 induction nn with
 |zero=>intro r done h;omega
 |succ k n=>
  intro r done G o b H;have e:Ac (CP p) prog u (d+3) 220 [Bg (Ab r),Bg (Ab [c])]=_:=A07 (u:=u) (d:=d) (p:=p) m b;rw[FM];have a:=VF c r;by_cases g:(B7 c r).length<r.length
  ·rw[Bv g] at a;have hi:SW c r=(B7 c r).length:=by unfold SW;rw[Bv g]
   rw[hi] at e;have hp:=Agm c (r.drop ((B7 c r).length+1));have Uk:(Bl c r).length=(Bl c (r.drop ((B7 c r).length+1))).length+1:=by rw[a];simp
   have a0:decide ((done.length:Int)<(N:Int)-1)=true:=by simp;omega
   have a1:decide (((B7 c r).length:Int)<0)=false:=Ψ
   have a2:wrap .i64 (((B7 c r).length:Int)+0)=((B7 c r).length:Int):=Bc
   have a3:decide ((0:Int)<=((B7 c r).length:Int))=true:=Ψ
   have q:decide (wj ((B7 c r).length:Int)<=r.length)=true:=by simp;omega
   have s:(Ab r).extract 0 (wj ((B7 c r).length:Int))=Ab (B7 c r):=by rw[Hy,AM b,<-Xc]
   have f:(decide ((0:Int)<=(done.length:Int))&&decide ((done.length:Int)<(N:Int)))=true:=by simp;omega
   have i:decide (0+wj (done.length:Int)*1+1<=wy (done.map EK++qz (Bl c r).length (PV.sc (.string ⟨#[]⟩))))=true:=by simp;omega
   have j:B9 (done.map EK++qz (Bl c r).length (PV.sc (.string ⟨#[]⟩))) [PV.sc (.string (Ab (B7 c r)))] (0+wj (done.length:Int)*1)=(done++[B7 c r]).map EK++qz (Bl c (r.drop ((B7 c r).length+1))).length (PV.sc (.string ⟨#[]⟩)):=by
    rw[J4 (by simp;omega),Uk,zw,Hy,I8,Jp,Ats Ψ]
    simp[EK]
   have t:wrap .i64 (((B7 c r).length:Int)+(([c].length:Nat):Int))=(((B7 c r).length+1:Nat):Int):=by
    rw[wrap_i64 (by simp;omega) (by simp;omega)];simp
   have v:decide ((0:Int)<=(((B7 c r).length+1:Nat):Int))=true:=by simp;omega
   have w:decide (wj (((B7 c r).length+1:Nat):Int)<=r.length)=true:=by simp;omega
   have y:(Ab r).extract (wj (((B7 c r).length+1:Nat):Int)) r.length=Ab (r.drop ((B7 c r).length+1)):=by rw[Hy,CQ b]
   have l:wrap .i64 ((done.length:Int)+1)=(((done++[B7 c r]).length:Nat):Int):=by
    rw[Ba];simp
   have hd:=n (r.drop ((B7 c r).length+1)) (done++[B7 c r]) (by simp;omega) (by simp;omega) ((λx z=>b x (kj z))) (by simp;omega)
   simp only[Aq,Ar,e,Ai,dle,a0,a1,a2,a3,q,s,f,i,j,t,v,w,y,l];rw[hd,a];simp
  ·rw[Bd g] at a;have Uk:(Bl c r).length=1:=by rw[a];rfl
   have a0:decide ((done.length:Int)<(N:Int)-1)=false:=by simp;omega
   have f:(decide ((0:Int)<=(done.length:Int))&&decide ((done.length:Int)<(N:Int)))=true:=by simp;omega
   have i:decide (0+wj (done.length:Int)*1+1<=wy (done.map EK++qz (Bl c r).length (PV.sc (.string ⟨#[]⟩))))=true:=by simp;omega
   have j:B9 (done.map EK++qz (Bl c r).length (PV.sc (.string ⟨#[]⟩))) [PV.sc (.string (Ab r))] (0+wj (done.length:Int)*1)=(done++[r]).map EK:=by
    rw[J4 (by simp;omega),Uk,show qz 1 (PV.sc (Value.string ⟨#[]⟩))=[PV.sc (.string ⟨#[]⟩)] from rfl,Hy,I8,Jp,Ats Ψ]
    simp[EK]
   have l:wrap .i64 ((done.length:Int)+1)=(N:Int):=by
    rw[Ba];omega
   have A:decide ((0:Int)<=(N:Int))=true:=Ψ
   have B:decide (wj (N:Int)<=N)=true:=Ψ
   have C:wj (N:Int)-0=N:=Ψ
   have b8:decide (N*1<=wy ((done++[r]).map EK))=true:=by simp;omega
   have D:yt (N*1) ((done++[r]).map EK)=(done++[r]).map EK:=Gp (by simp;omega)
   simp only[Aq,Ar,a0,f,i,j,l,A,B,C,b8,D];rw[a]
theorem A6g(f:0<=c/\c<=255)(g:Ch l)(B:l.length<=999999)(Be:l.length+1<=u):Ac (CP p) prog u (d+5) 191 [Bg (Ab l),Bg (Ab [c])]=some ⟨[.own 1 (Bl c l).length ((Bl c l).map EK)],[]⟩:=by
 have e:Ac (CP p) prog u (d+4) 203 [Bg (Ab l),Bg (Ab [c]),Av 0,Av (-1)]=some ⟨[.own 1 (Bl c l).length ((Bl c l).map EK)],[]⟩:=by
  refine (OL (p:=p) u (d+3) _ _ _ _).trans ?_;have C:=JU c l;have hp:=Agm c l;have a:=Afo f g
  have h:Ac (CP p) prog u (d+3) 219 [Bg (Ab l),Bg (Ab [c])]=some ⟨[Av (((Bl c l).length:Int)-1)],[]⟩:=by
   have:Ac (CP p) prog u (d+3) 219 [Bg (Ab l),Bg (Ab [c])]=some ⟨[Av (b9 (Ab l).data.toList c.toNat.toUInt8)],[]⟩:=rfl;rw[this]
   have i:(b9 (Ab l).data.toList c.toNat.toUInt8:Int)=((Bl c l).length:Int)-1:=by
    have:b9 (Ab l).data.toList c.toNat.toUInt8+1=(Bl c l).length:=a;omega
   rw[i]
  have j:(((-1:Int))==0)=false:=rfl;have m:(mf (Ab [c]).data==mf (ByteArray.mk #[]).data)=false:=rfl;have n:decide ((-1:Int)<0)=true:=rfl;have o:wrap .i64 (((Bl c l).length:Int)-1+1)=(Bl c l).length:=Bc
  have q:wrap .i64 ((l.length:Int)+1)=l.length+1:=by rw[Ba]
  have r:(if ((l.length:Int)+1)<((Bl c l).length:Int) then ((l.length:Int)+1) else ((Bl c l).length:Int))=(Bl c l).length:=by rw[Bd Ω]
  have s:decide ((0:Int)<=((Bl c l).length:Int))=true:=Ψ
  have t:decide (((Bl c l).length:Int)<=((Bl c l).length:Int))=true:=Ψ
  have c7:decide (((Bl c l).length:Int)*16<=1099511627776)=true:=by simp;omega
  have v:decide (((Bl c l).length:Int)<=1099511627776)=true:=by simp;omega
  have w:wrap .i64 (((Bl c l).length:Int)-1)=((Bl c l).length:Int)-1:=Ba
  have x:Xx (Bl c l).length [PV.sc (.string ⟨#[]⟩)]=qz (Bl c l).length (PV.sc (.string ⟨#[]⟩)):=by
   unfold Xx
   induction (Bl c l).length with
   |zero=>rfl
   |succ k y=>rw[zw,List.flatten_cons,y];rfl
  have b:wj ((Bl c l).length:Int)=(Bl c l).length:=Hy _;have hd:=Aqh (u:=u) (d:=d) (p:=p) f (a0:=Ab l) (a1:=Ab [c]) (a2:=0) (a3:= -1) (N:=(Bl c l).length) Ω u l [] Be Ω g Ψ;simp only[Aq,Ar,h,Ai,dle,j,m,n,o,q,r,s,t,c7,v,w,x,b];exact hd
 have z:decide ((Bl c l).length*1<=wy ((Bl c l).map EK))=true:=Ψ
 have A:yt ((Bl c l).length*1) ((Bl c l).map EK)=(Bl c l).map EK:=Gp Ψ;rw[XB];simp only[Aq,Ar,e,z,A]
end
theorem Aje:∀n:Fin 256,b7 CU.data.toList (n.val:Int).toNat.toUInt8=if Br (n.val:Int)<64 then Br (n.val:Int) else -1:=by decide +kernel
theorem A4g(a:0<=c/\c<=255):b7 CU.data.toList c.toNat.toUInt8=if Br c<64 then Br c else -1:=by obtain⟨n,rfl⟩:=g8 a.1;exact Aje ⟨n,Ω⟩
theorem Bi9{v:Int}(k:Nat)(c:k<=18)(d:0<=y)(e:y % ((2 ^ (k+6):Nat):Int)=0)(i:y<16777216)(a:0<=v)(j:v<64):Vm .u32 y (Dv .u32 (wrap .u32 v) (k:Int))=y+v*((2 ^ k:Nat):Int):=by
 obtain⟨y,rfl⟩:=g8 d;obtain⟨v,rfl⟩:=g8 a
 have f:wrap .u32 (v:Int)=v:=by
  simp only[wrap,IntKind.bits,IntKind.signed,SK,qf,if_false];omega
 have Bxj:2 ^ k<=2 ^ 18:=gr Ω c
 have b:v*2 ^ k<2 ^ k*64:=by
  rw[nk];exact Nat.mul_lt_mul_of_pos_left Ω (Nat.pos_of_ne_zero Ψ)
 have g:Dv .u32 (v:Int) (k:Int)=((v*2 ^ k:Nat):Int):=by
  show wrap .u32 ((v:Int)*2 ^ (min (k:Int).toNat IntKind.u32.bits))=_
  have:min (k:Int).toNat IntKind.u32.bits=k:=by
   rw[Hy];exact va (by show k<=32;omega)
  rw[this];have:(v:Int)*2 ^ k=((v*2 ^ k:Nat):Int):=Ψ
  rw[this];simp only[wrap,IntKind.bits,IntKind.signed,SK,qf,if_false];omega
 rw[f,g];have h:=Bol y (v*2 ^ k) Ω Ω;refine h.trans ?_
 have hd:y=y / 2 ^ (k+6)*2 ^ (k+6):=by
  have:y % 2 ^ (k+6)=0:=by exact_mod_cast e
  have:=Nat.div_add_mod y (2 ^ (k+6));rw[nk] at this;omega
 have Ct:v*2 ^ k<2 ^ (k+6):=by rw[Nat.pow_add];exact b
 have:=Nat.shiftLeft_add_eq_or_of_lt Ct (y / 2 ^ (k+6));rw[Nat.shiftLeft_eq,<-hd] at this;rw[<-this];simp
section
variable {u d:Nat}{p:Option (Ae->Option A3)}
theorem Bcy(a:0<=c/\c<=255):Ac (CP p) prog u (d+2) 165 [Bg CU,.sc (.int .u8 c)]=some ⟨[Av (if Br c<64 then Br c else -1)],[]⟩:=by have e:Ac (CP p) prog u (d+1) 180 [Bg CU,.sc (.int .u8 c)]=some ⟨[Av (b7 CU.data.toList c.toNat.toUInt8)],[]⟩:=rfl;rw[A4g a] at e;refine (T3 (p:=p) u (d+1) _ _).trans ?_;simp only[Aq,Ar,e]
theorem Uy{m0 nn:Nat}{y6:Ae}{y3:Int}(MK:i<n)(C:n<=4)(m:Ch l)(f:l[i]?=some c)(o:0<=y3)(q:y3 % ((2 ^ (24-6*i):Nat):Int)=0)(r:y3<16777216):
  Dk u (Ac (CP p) prog u (d+2)) a0 m0 (nn+1) (Ab l) y1 (n:Int) y3 (n:Int) (i:Int) y6=if Br c<64 then Dk u (Ac (CP p) prog u (d+2)) a0 m0 nn (Ab l) y1 (n:Int) (y3+Br c*((2 ^ (18-6*i):Nat):Int)) (n:Int) ((i+1:Nat):Int) y6 else some ⟨[.own 1 0 [],Av 2],[]⟩:=by
 have KU:=m c (zn f);have s:=Jh c;have e:=Bcy (u:=u) (d:=d) (p:=p) KU;have g:decide ((i:Int)<(n:Int))=true:=by simp;omega
 have h:decide ((0:Int)<=(i:Int))=true:=Ψ
 have j:(mf (Ab l).data)[wj (i:Int)]?=some c.toNat.toUInt8:=by
  rw[Hy];show (l.map λn=>n.toNat.toUInt8)[i]?=_;rw[zr,f];rfl
 have k:=Nz KU;have t:(ByteArray.mk #[65,66,67,68,69,70,71,72,73,74,75,76,77,78,79,80,81,82,83,84,85,86,87,88,89,90,97,98,99,100,101,102,103,104,105,106,107,108,109,110,111,112,113,114,115,116,117,118,119,120,121,122,48,49,50,51,52,53,54,55,56,57,45,95])=CU:=rfl;rw[Lr,t];by_cases a:Br c<64
 ·rw[Bv a] at e;have b:decide (Br c<0)=false:=by simp;omega
  have w:wrap .i64 (6*(i:Int))=6*(i:Int):=Ba;have x:wrap .i64 (18-6*(i:Int))=((18-6*i:Nat):Int):=Bc
  have z:decide ((0:Int)<=((18-6*i:Nat):Int))=true:=Ψ
  have A:=Bi9 (y:=y3) (v:=Br c) (18-6*i) Ω o (by rw[show 18-6*i+6=24-6*i by omega];exact q) r s.1 a
  have B:wrap .i64 ((i:Int)+1)=((i+1:Nat):Int):=Bc
  rw[Bv a];simp only[Aq,Ar,g,h,j,k,e,b,w,x,z,A,B]
 ·rw[Bd a] at e;have b:decide ((-1:Int)<0)=true:=rfl;rw[Bd a];simp only[Aq,Ar,g,h,j,k,e,b]
theorem Bhb(a:0<=y)(b:y<16777216):wrap .u8 (E4 .u32 y 16)=y / 65536 % 256:=by
 show wrap .u8 (y.fdiv (2 ^ (min (16:Int).toNat IntKind.u32.bits)))=_;have:(2:Int) ^ (min (16:Int).toNat IntKind.u32.bits)=65536:=Δ
 rw[this,nt _ Ω];simp only[wrap,IntKind.bits,IntKind.signed,SK,qf,if_false];omega
theorem Bns(a:0<=y)(b:y<16777216):wrap .u8 (E4 .u32 y 8)=y / 256 % 256:=by
 show wrap .u8 (y.fdiv (2 ^ (min (8:Int).toNat IntKind.u32.bits)))=_;have:(2:Int) ^ (min (8:Int).toNat IntKind.u32.bits)=256:=Δ
 rw[this,nt _ Ω];simp only[wrap,IntKind.bits,IntKind.signed,SK,qf,if_false];omega
theorem Bmm(a:0<=y)(b:y<16777216):wrap .u8 y=y % 256:=by simp only[wrap,IntKind.bits,IntKind.signed,SK,qf,if_false];omega
theorem Ap9{m0 nn:Nat}{s:ByteArray}{y6:Ae}{y3:Int}(o:2<=n)(c:n<=4)(a:0<=y3)(b:y3<16777216):
  Dk u (Ac (CP p) prog u (d+2)) a0 m0 (nn+1) s y1 (n:Int) y3 (n:Int) (n:Int) y6=Dm u (Ac (CP p) prog u (d+2)) a0 m0 u s y1 (n:Int) (n-1) (4-n) ((4-n:Nat):Int) 0 y6 [.sc (.int .u8 (y3 / 65536 % 256)),.sc (.int .u8 (y3 / 256 % 256)),.sc (.int .u8 (y3 % 256))]:=by
 have e:decide ((n:Int)<(n:Int))=false:=Ψ
 have f:=Bhb a b;have g:=Bns a b;have h:=Bmm a b;have i:wrap .i64 ((n:Int)-1)=((n-1:Nat):Int):=Bc
 have j:decide ((0:Int)<=((n-1:Nat):Int))=true:=Ψ
 have k:decide (wj ((n-1:Nat):Int)<=3)=true:=by simp;omega
 have l:0+wj ((n-1:Nat):Int)*1=n-1:=by rw[Hy];omega
 have m:3-wj ((n-1:Nat):Int)=4-n:=by rw[Hy];omega
 rw[Lr];simp only[Aq,Ar,e,f,g,h,i,j,k,l,m]
end
section
variable {u d:Nat}{p:Option (Ae->Option A3)}
abbrev grp(A B C:Int):Ae:=[.sc (.int .u8 A),.sc (.int .u8 B),.sc (.int .u8 C)]
abbrev Bok:Option A3:=some ⟨[.own 1 0 [],Av 2],[]⟩
theorem Be2{F:An}{s:ByteArray}{m0 nn:Nat}{j:Nat}{y7:Ae}{A B C X:Int}(g:i<j)(l:j<=4)(h:f9 (grp A B C) (n+i) .top=.sc (.int .u8 X)){q:Int}:
  Dm u F a0 m0 (nn+1) s y1 q n j (j:Int) (i:Int) y7 (grp A B C)=if X=0 then Dm u F a0 m0 nn s y1 q n j (j:Int) ((i+1:Nat):Int) y7 (grp A B C) else Bok:=by
 have d:decide ((i:Int)<(j:Int))=true:=by simp;omega
 have e:(decide ((0:Int)<=(i:Int))&&decide ((i:Int)<(j:Int)))=true:=by simp;omega
 have a:decide ((0:Int)<=(i:Int))=true:=Ψ
 have f:f9 (grp A B C) (n+wj (i:Int)*1) PV.top=.sc (.int .u8 X):=by rw[Hy,Jp];exact h
 have k:wrap .i64 ((i:Int)+1)=((i+1:Nat):Int):=Bc
 rw[Ln];by_cases b:X=0
 ·subst b;have c:((0:Int) != 0)=false:=rfl;rw[Bv rfl];simp only[Aq,Ar,d,e,a,f,k,c]
 ·have c:(X != 0)=true:=by simp[b]
  rw[Bd b];simp only[Aq,Ar,d,e,a,f,c]
theorem Aqk{F:An}{m0 nn:Nat}{j:Nat}{a:Ak}{A B C:Int}(c:2<=n)(b:n<=4)(d:Ch l)(e:n<=l.length)(Aaw:a.length<=1000000){st:Nat}:
  Dm u F a0 m0 (nn+1) (Ab l) a.length (n:Int) st j (j:Int) (j:Int) (Af .u8 a) (grp A B C)=Dl u F a0 m0 (Ab (l.drop n)) (a++[A,B,C].take (n-1)).length (Af .u8 (a++[A,B,C].take (n-1))):=by
 have f:decide ((j:Int)<(j:Int))=false:=Ψ
 have g:wrap .i64 ((n:Int)-1)=((n-1:Nat):Int):=Bc
 have h:(decide (3<=wy (grp A B C))&&true)=true:=rfl;have i:decide ((0:Int)<=((n-1:Nat):Int))=true:=Ψ
 have k:decide (wj ((n-1:Nat):Int)<=3)=true:=by simp;omega
 have m:wj ((n-1:Nat):Int)-0=n-1:=by rw[Hy];omega
 have o:decide (0+(n-1)*1<=wy (grp A B C))=true:=by simp;omega
 have p:decide (a.length*1<=wy (Af .u8 a))=true:=by rw[Al];simp
 have q:decide (wy (yt ((n-1)*1) (nb 0 (grp A B C)))=(n-1)*1)=true:=by simp;omega
 have r:decide ((a.length+(n-1))*1<=1099511627776)=true:=by simp;omega
 have s:decide (a.length+(n-1)<=1099511627776)=true:=by simp;omega
 have t:yt (a.length*1) (Af .u8 a)++yt ((n-1)*1) (nb 0 (grp A B C))=Af .u8 (a++[A,B,C].take (n-1)):=by
  have v:Af .u8 (a++[A,B,C].take (n-1))=Af .u8 a++Af .u8 ([A,B,C].take (n-1)):=kk;rw[Gp (by rw[Al];omega),v,Jo,Jp]
  congr 1
  match n,c,b with
  |2,_,_=>rfl
  |3,_,_=>rfl
  |4,_,_=>rfl
 have w:decide ((0:Int)<=(n:Int))=true:=Ψ
 have x:decide (wj (n:Int)<=l.length)=true:=by simp;omega
 have y:(Ab l).extract (wj (n:Int)) l.length=Ab (l.drop n):=by rw[Hy,CQ d]
 have z:a.length+(n-1)=(a++[A,B,C].take (n-1)).length:=by simp;omega
 rw[Ln];simp only[Aq,Ar,Ai,dle,f,g,h,i,k,m,o,p,q,r,s,t,w,x,y];rw[z]
theorem A1x(Be:10<=u):∀(m:Nat)(l f:Ak)(nn:Nat),l.length<=4*m->m+1<=nn->Ch l->l.length % 4≠1->f.length+l.length<=1000000 ->
  Dl u (Ac (CP p) prog u (d+2)) a0 nn (Ab l) f.length (Af .u8 f)=some (match Nr l with|none=>⟨[.own 1 0 [],Av 2],[]⟩|some b=>⟨[.own 1 (f++b).length (Af .u8 (f++b)),Av 0],[]⟩):=by
 obtain⟨u,rfl⟩:∃k,u=k+10:=⟨u-10,Ω⟩
 have zero:∀(f:Ak) (nn:Nat),f.length<=1000000->Dl (u+10) (Ac (CP p) prog (u+10) (d+2)) a0 (nn+1) (Ab []) f.length (Af .u8 f)=some ⟨[.own 1 f.length (Af .u8 f),Av 0],[]⟩:=by
  intro f nn h;have z:decide ((((Ab []).size:Nat):Int)>0)=false:=rfl;have A:decide (f.length*1<=wy (Af .u8 f))=true:=by rw[Al];simp
  have E:yt (f.length*1) (Af .u8 f)=Af .u8 f:=Gp (by rw[Al];omega)
  rw[Ll];simp only[Aq,Ar,z,A,E]
 intro m
 induction m with
 |zero=>
  intro l f nn w Es g q Aaw;have:l=[]:=kb Ω;subst this;obtain⟨k,rfl⟩:∃k,nn=k+1:=⟨nn-1,Ω⟩
  rw[zero f k Ω];simp[Nr]
 |succ m B=>
  intro l f nn w Es g q Aaw;obtain⟨k,rfl⟩:∃k,nn=k+1:=⟨nn-1,Ω⟩
  have head:∀(n:Nat),l.length>0->n=min l.length 4->Dl (u+10) (Ac (CP p) prog (u+10) (d+2)) a0 (k+1) (Ab l) f.length (Af .u8 f)=Dk (u+10) (Ac (CP p) prog (u+10) (d+2)) a0 k (u+10) (Ab l) f.length (n:Int) 0 (n:Int) 0 (Af .u8 f):=by
   intro n hp K;have z:decide (((l.length:Nat):Int)>0)=true:=by simp;omega
   have A:(if ((l.length:Nat):Int)<4 then ((l.length:Nat):Int) else 4)=(n:Int):=by split<;>omega
   rw[Ll];simp only[Aq,Ar,Ai,z,A]
  match l,w,g,q,Aaw,head with
  |[],_,_,_,Aaw,_=>
   rw[zero f k (by simpa using Aaw)];simp[Nr]
  |[x],_,_,q,_,_=>exact absurd rfl q
  |[a,b],_,g,_,Aaw,head=>
   have D:=Jh a;have vb:=Jh b;rw[head 2 Ψ rfl,show (0:Int)=((0:Nat):Int) from rfl];rw[Uy (c:=a) Ω Ω g rfl Ψ Ψ Ψ];unfold Nr;by_cases i:Br a<64
   ·rw[Bv i,Uy (c:=b) Ω Ω g rfl (by simp<;>omega) (by simp<;>omega) (by simp<;>omega)]
    by_cases j:Br b<64
    ·rw[Bv j,Ap9 Ω Ω (by simp<;>omega) (by simp<;>omega)]
     rw[show (0:Int)=((0:Nat):Int) from rfl];rw[Be2 (X:=(((0:Nat):Int)+Br a*((2 ^ (18-6*0):Nat):Int)+Br b*((2 ^ (18-6*1):Nat):Int)) / 256 % 256) Ω Ω rfl];by_cases r:Br b % 16=0
     ·rw[Bv (by simp<;>omega)]
      rw[Be2 (X:=(((0:Nat):Int)+Br a*((2 ^ (18-6*0):Nat):Int)+Br b*((2 ^ (18-6*1):Nat):Int)) % 256) Ω Ω rfl];rw[Bv (by simp<;>omega),Aqk Ω Ω g Ψ Ω]
      rw[Bv ⟨i,j,r⟩];have s:=B [] (f++[Br a*4+Br b / 16]) k Ψ Ω (λx v=>by cases v) Ψ (by simp at Aaw ⊢;omega)
      have e:(((0:Nat):Int)+Br a*((2 ^ (18-6*0):Nat):Int)+Br b*((2 ^ (18-6*1):Nat):Int)) / 65536 % 256=Br a*4+Br b / 16:=by simp;omega
      rw[e];refine s.trans ?_;simp[Nr]
     ·rw[Bd (by simp<;>omega),Bd (λh=>r h.2.2)]
    ·rw[Bd j,Bd (λh=>j h.2.1)]
   ·rw[Bd i,Bd (λh=>i h.1)]
  |[a,b,c],_,g,_,Aaw,head=>
   have D:=Jh a;have vb:=Jh b;have G:=Jh c;rw[head 3 Ψ rfl,show (0:Int)=((0:Nat):Int) from rfl];rw[Uy (c:=a) Ω Ω g rfl Ψ Ψ Ψ];unfold Nr;by_cases i:Br a<64
   ·rw[Bv i,Uy (c:=b) Ω Ω g rfl (by simp<;>omega) (by simp<;>omega) (by simp<;>omega)]
    by_cases j:Br b<64
    ·rw[Bv j,Uy (c:=c) Ω Ω g rfl (by simp<;>omega) (by simp<;>omega) (by simp<;>omega)]
     by_cases o:Br c<64
     ·rw[Bv o,Ap9 Ω Ω (by simp<;>omega) (by simp<;>omega)]
      rw[show (0:Int)=((0:Nat):Int) from rfl];rw[Be2 (X:=(((0:Nat):Int)+Br a*((2 ^ (18-6*0):Nat):Int)+Br b*((2 ^ (18-6*1):Nat):Int)+Br c*((2 ^ (18-6*2):Nat):Int)) % 256) Ω Ω rfl];by_cases r:Br c % 4=0
      ·rw[Bv (by simp<;>omega),Aqk Ω Ω g Ψ Ω]
       rw[Bv ⟨i,j,o,r⟩];have s:=B [] (f++[Br a*4+Br b / 16,Br b % 16*16+Br c / 4]) k Ψ Ω (λx v=>by cases v) Ψ (by simp at Aaw ⊢;omega)
       have e:(((0:Nat):Int)+Br a*((2 ^ (18-6*0):Nat):Int)+Br b*((2 ^ (18-6*1):Nat):Int)+Br c*((2 ^ (18-6*2):Nat):Int)) / 65536 % 256=Br a*4+Br b / 16:=by simp;omega
       have C:(((0:Nat):Int)+Br a*((2 ^ (18-6*0):Nat):Int)+Br b*((2 ^ (18-6*1):Nat):Int)+Br c*((2 ^ (18-6*2):Nat):Int)) / 256 % 256=Br b % 16*16+Br c / 4:=by simp;omega
       rw[e,C];refine s.trans ?_;simp[Nr]
      ·rw[Bd (by simp<;>omega),Bd (λh=>r h.2.2.2)]
     ·rw[Bd o,Bd (λh=>o h.2.2.1)]
    ·rw[Bd j,Bd (λh=>j h.2.1)]
   ·rw[Bd i,Bd (λh=>i h.1)]
  |a::b::c::e::t,w,g,q,Aaw,head=>
   have D:=Jh a;have vb:=Jh b;have G:=Jh c;have L:=Jh e;rw[head 4 Ψ (by simp<;>omega),show (0:Int)=((0:Nat):Int) from rfl]
   rw[Uy (c:=a) Ω Ω g rfl Ψ Ψ Ψ];unfold Nr;by_cases i:Br a<64
   ·rw[Bv i,Uy (c:=b) Ω Ω g rfl (by simp<;>omega) (by simp<;>omega) (by simp<;>omega)]
    by_cases j:Br b<64
    ·rw[Bv j,Uy (c:=c) Ω Ω g rfl (by simp<;>omega) (by simp<;>omega) (by simp<;>omega)]
     by_cases o:Br c<64
     ·rw[Bv o,Uy (c:=e) Ω Ω g rfl (by simp<;>omega) (by simp<;>omega) (by simp<;>omega)]
      by_cases y:Br e<64
      ·rw[Bv y,Ap9 Ω Ω (by simp<;>omega) (by simp<;>omega)]
       rw[show (0:Int)=((4-4:Nat):Int) from rfl,Aqk Ω Ω g Ψ Ω];rw[Bv ⟨i,j,o,y⟩];have s:=B t (f++[Br a*4+Br b / 16,Br b % 16*16+Br c / 4,Br c % 4*64+Br e]) k (by simp at w;omega) Ω (λx v=>g x (by simp[v])) (by simp at q;omega) (by simp at Aaw ⊢;omega)
       have H:(((4-4:Nat):Int)+Br a*((2 ^ (18-6*0):Nat):Int)+Br b*((2 ^ (18-6*1):Nat):Int)+Br c*((2 ^ (18-6*2):Nat):Int)+Br e*((2 ^ (18-6*3):Nat):Int)) / 65536 % 256=Br a*4+Br b / 16:=by simp;omega
       have C:(((4-4:Nat):Int)+Br a*((2 ^ (18-6*0):Nat):Int)+Br b*((2 ^ (18-6*1):Nat):Int)+Br c*((2 ^ (18-6*2):Nat):Int)+Br e*((2 ^ (18-6*3):Nat):Int)) / 256 % 256=Br b % 16*16+Br c / 4:=by simp;omega
       have J:(((4-4:Nat):Int)+Br a*((2 ^ (18-6*0):Nat):Int)+Br b*((2 ^ (18-6*1):Nat):Int)+Br c*((2 ^ (18-6*2):Nat):Int)+Br e*((2 ^ (18-6*3):Nat):Int)) % 256=Br c % 4*64+Br e:=by simp;omega
       rw[H,C,J];refine s.trans ?_;cases Nr t<;>simp
      ·rw[Bd y,Bd (λh=>y h.2.2.2)]
     ·rw[Bd o,Bd (λh=>o h.2.2.1)]
    ·rw[Bd j,Bd (λh=>j h.2.1)]
   ·rw[Bd i,Bd (λh=>i h.1)]
theorem A11:∀{l:Ak},l.length % 4=1->Nr l=none
 |[],h=>by simp at h
 |[_],_=>rfl
 |[_,_],h=>by simp at h
 |[_,_,_],h=>by simp at h
 |p::q::r::s::t,h=>by
  have:=A11 (l:=t) (by simp at h;omega)
  unfold Nr;rw[this];simp
theorem Bco(f:Ch l)(o:l.length<=1000000)(Be:10<=u)(IV:l.length<=u):Ac (CP p) prog u (d+3) 149 [Bg (Ab l)]=some (match Nr l with|none=>⟨[.own 1 0 [],Av 2],[]⟩|some b=>⟨[.own 1 b.length (Af .u8 b),Av 0],[]⟩):=by
 rw[BX];have e:nr ((l.length:Nat):Int) 4=((l.length % 4:Nat):Int):=by rw[Int.tmod_eq_emod_of_nonneg Ω];omega
 by_cases a:l.length % 4=1
 ·have c:(((l.length % 4:Nat):Int)==1)=true:=by rw[a];rfl
  rw[A11 a];simp only[Aq,Ar,Ai,e,c]
 ·have c:(((l.length % 4:Nat):Int)==1)=false:=by simp;omega
  have g:wh ((l.length:Nat):Int) 4=((l.length / 4:Nat):Int):=by rw[Int.tdiv_eq_ediv_of_nonneg Ω];omega
  have h:wrap .i64 ((l.length / 4:Nat):Int)=((l.length / 4:Nat):Int):=Ba;have i:wrap .i64 (((l.length / 4:Nat):Int)*3)=((l.length / 4:Nat):Int)*3:=Ba;have j:wrap .i64 (((l.length / 4:Nat):Int)*3+2)=((l.length / 4:Nat):Int)*3+2:=Ba;have k:decide ((0:Int)<=((l.length / 4:Nat):Int)*3+2)=true:=by simp;omega
  have m:decide ((((l.length / 4:Nat):Int)*3+2)*1<=1099511627776)=true:=by simp;omega
  have n:decide (((l.length / 4:Nat):Int)*3+2<=1099511627776)=true:=by simp;omega
  have hd:=A1x (d:=d) (p:=p) (a0:=Ab l) Be (l.length / 4+1) l [] u Ω Ω f a (by simp<;>omega)
  simp only[Aq,Ar,Ai,e,c,g,h,i,j,k,m,n];refine hd.trans ?_;cases Nr l<;>simp
end
theorem dT[Decidable q](h:q):decide q=true:=decide_eq_true h
theorem dF[Decidable q](h:¬q):decide q=false:=decide_eq_false h
theorem bT[Decidable q](h:q):(!decide q)=false:=by simp[h]
theorem bF[Decidable q](h:¬q):(!decide q)=true:=by simp[h]
def okB(n i:Nat)(c:Int):Bool:=ltB c||(c==45&&decide (0<i)&&decide (i+1<n))
def UG(n:Nat):Nat->Ak->Bool
 |_,[]=>true
 |i,c::r=>okB n i c&&UG n (i+1) r
theorem Af7(n i:Nat)(c:Int)(r:Ak):UG n i (c::r)=(okB n i c&&UG n (i+1) r):=rfl
theorem A4l:ltB 45=false:=rfl
theorem Atv(n:Nat):∀(r:Ak)(i:Nat),i+r.length=n->UG n i r=(r.all (λx=>ltB x||x==45) && !(decide (i=0)&&r.head?==some 45) && !(r.getLast?==some 45))
 |[],i,_=>by simp[UG]
 |[c],i,h=>by
  simp only[M9,SO] at h;unfold UG okB;by_cases b:c=45
  ·subst b;have:¬i+1<n:=Ω
   simp[UG,A4l,this]
  ·have a:(c==45)=false:=by simp[b]
   simp[UG,a]
 |c::x::r,i,h=>by
  have d:=Atv n (x::r) (i+1) (by simp at h ⊢;omega)
  have e:(c::x::r).getLast?=(x::r).getLast?:=Ψ
  unfold UG;rw[d,e];have f:i+1<n:=by simp at h;omega
  unfold okB;by_cases b:c=45
  ·subst b;by_cases hi:i=0
   ·subst hi;simp[A4l]
   ·have:0<i:=Ω
    simp[A4l,f,hi,this]
  ·have a:(c==45)=false:=by simp[b]
   simp[a,Bool.and_assoc]
theorem A7j(a:1<=l.length)(b:l.length<=63):Ny l=UG l.length 0 l:=by rw[Atv _ l 0 Ψ];unfold Ny;rw[dT a,dT b];cases l.all (λx=>ltB x||x==45)<;>cases (l.head?==some 45)<;>cases (l.getLast?==some 45)<;>rfl
section
variable {u d:Nat}{p:Option (Ae->Option A3)}
theorem Amg{F:An}{a0:ByteArray}{l:Ak}(C:Ch l)(J:l.length<=63):∀(r:Ak)(i nn:Nat),l.drop i=r->r.length+1<=nn ->
  Fe u F a0 nn (Ab l) (l.length:Int) (i:Int)=some ⟨[C3 (UG l.length i r)],[]⟩
 |[],i,nn,hd,D=>by
  obtain⟨k,rfl⟩:∃k,nn=k+1:=⟨nn-1,Ω⟩
  have hi:=drop_nil hd;have j:decide ((i:Int)<(l.length:Int))=false:=by simp;omega
  rw[R2];simp only[Aq,Ar,j];rfl
 |c::r,i,nn,hd,D=>by
  obtain⟨k,rfl⟩:∃k,nn=k+1:=⟨nn-1,Ω⟩
  obtain⟨hi,E,TM⟩:=Cb hd;have K:=Amg (F:=F) (a0:=a0) C J r (i+1) k TM (by simp at D;omega)
  have KU:=C c (zn E);have j:decide ((i:Int)<(l.length:Int))=true:=by simp;omega
  have m:decide ((0:Int)<=(i:Int))=true:=Ψ
  have o:(mf (Ab l).data)[wj (i:Int)]?=some c.toNat.toUInt8:=by
   rw[Hy];show (l.map λn=>n.toNat.toUInt8)[i]?=_;rw[zr,E];rfl
  have p:=Nz KU;have s:wrap .i64 ((i:Int)+1)=((i+1:Nat):Int):=Bc
  have t:wrap .i64 ((l.length:Int)-1)=(l.length:Int)-1:=Ba
  have good:okB l.length i c=true->(Fe u F a0 k (Ab l) (l.length:Int) ((i+1:Nat):Int)=some ⟨[C3 (UG l.length i (c::r))],[]⟩):=by
   intro h;rw[K,Af7,h,Zzm]
  have f:okB l.length i c=false->some (A3.mk [PV.sc (.bool false)] [])=some ⟨[C3 (UG l.length i (c::r))],[]⟩:=by
   intro h;rw[Af7,h,SK]
  rw[R2];by_cases y:97<=c/\c<=122
  ·have d:=dT y.1;have e:=dT y.2;have g:(c==45)=false:=by simp;omega
   have a:=dT (q:=(48:Int)<=c) Ω;have b:=bF (q:=c<=57) Ω;simp only[Aq,Ar,j,m,o,p,s,t,Ai,d,e,g,a,b];exact good (by unfold okB ltB;simp[y])
  by_cases z:48<=c/\c<=57
  ·have d:=dF (q:=(97:Int)<=c) Ω;have e:=dT (q:=c<=122) Ω;have g:(c==45)=false:=by simp;omega
   have a:=dT z.1;have b:=bT z.2;simp only[Aq,Ar,j,m,o,p,s,t,Ai,d,e,g,a,b];exact good (by unfold okB ltB Wa;simp[z])
  have Ct:ltB c=false:=by
   unfold ltB Wa;simp;exact⟨λh=>Ω,λh=>Ω⟩
  by_cases A:c=45
  ·subst A;have d:decide ((97:Int)<=45)=false:=rfl;have e:decide ((45:Int)<=122)=true:=rfl;have g:((45:Int)==45)=true:=rfl;have a:decide ((48:Int)<=45)=false:=rfl;have b:(!decide ((45:Int)<=57))=false:=rfl;by_cases G:0<i
   ·have x:=dT (q:=(i:Int)>0) Ω;by_cases H:i+1<l.length
    ·have B:=bT (q:=(i:Int)<(l.length:Int)-1) Ω;simp only[Aq,Ar,j,m,o,p,s,t,Ai,d,e,g,a,b,x,B];exact good (by unfold okB;simp[G,H])
    ·have B:=bF (q:=(i:Int)<(l.length:Int)-1) Ω;simp only[Aq,Ar,j,m,o,p,s,t,Ai,d,e,g,a,b,x,B];exact f (by unfold okB;simp[H,Ct])
   ·have x:=dF (q:=(i:Int)>0) Ω;simp only[Aq,Ar,j,m,o,p,s,t,Ai,d,e,g,a,b,x];exact f (by unfold okB;simp[G,Ct])
  have g:(c==45)=false:=by simp[A]
  have Awr:okB l.length i c=false:=by unfold okB;simp[Ct,A]
  by_cases v:97<=c
  ·have d:=dT v;have e:=dF (q:=c<=122) Ω;have a:=dT (q:=(48:Int)<=c) Ω;have b:=bF (q:=c<=57) Ω;simp only[Aq,Ar,j,m,o,p,s,t,Ai,d,e,g,a,b];exact f Awr
  ·have d:=dF v;have e:=dT (q:=c<=122) Ω;by_cases w:48<=c
   ·have a:=dT w;have b:=bF (q:=c<=57) Ω;simp only[Aq,Ar,j,m,o,p,s,t,Ai,d,e,g,a,b];exact f Awr
   ·have a:=dF w;have b:=bT (q:=c<=57) Ω;simp only[Aq,Ar,j,m,o,p,s,t,Ai,d,e,g,a,b];exact f Awr
theorem A7o(g:Ch l)(Be:100<=u):Ac (CP p) prog u (d+1) 192 [Bg (Ab l)]=some ⟨[C3 (Ny l)],[]⟩:=by
 rw[QV];by_cases f:1<=l.length
 ·by_cases b:l.length<=63
  ·have a:decide (((l.length:Nat):Int)<1)=false:=by simp;omega
   have c:decide (((l.length:Nat):Int)>63)=false:=by simp;omega
   rw[A7j f b];simp only[Aq,Ar,Ai,a,c];exact Amg g b l 0 u rfl Ω
  ·have a:decide (((l.length:Nat):Int)<1)=false:=by simp;omega
   have c:decide (((l.length:Nat):Int)>63)=true:=by simp;omega
   have e:Ny l=false:=by unfold Ny;simp[b]
   rw[e];simp only[Aq,Ar,Ai,a,c]
 ·have a:decide (((l.length:Nat):Int)<1)=true:=by simp;omega
  have e:Ny l=false:=by unfold Ny;simp[f]
  rw[e];simp only[Aq,Ar,Ai,a]
theorem A0h(l cs:List UInt8):(fi l cs==[])=l.all (cs.contains ·):=by
 have b:∀(q:UInt8->Bool) (m:List UInt8),m.dropWhile q=[]↔m.all q=true:=by
  intro q m
  induction m with
  |nil=>simp
  |cons x m c=>
   by_cases a:q x=true
   ·rw[nc a,c];simp[a]
   ·rw[nd a];simp[a]
 unfold fi Lib.trimLeftS Lib.trimRightS;rw[fk,beq_iff_eq,b,nf,<-b,b,yb]
 have d:∀(q:UInt8->Bool) (m:List UInt8),(m.dropWhile q).all q=true↔m.all q=true:=by
  intro q m
  induction m with
  |nil=>simp
  |cons x m c=>
   by_cases a:q x=true
   ·rw[nc a,c];simp[a]
   ·rw[nd a]
 rw[<-yb,d,nf]
def GL:ByteArray:=⟨#[48,49,50,51,52,53,54,55,56,57]⟩
theorem Bes:∀n:Fin 256,GL.data.toList.contains (n.val:Int).toNat.toUInt8=Wa (n.val:Int):=by decide +kernel
theorem Bdc(h:Ch l):((l.map λn=>n.toNat.toUInt8).all (GL.data.toList.contains ·))=l.all Wa:=by
 induction l with
 |nil=>rfl
 |cons c r a=>
  obtain⟨b,d⟩:=Ck h;obtain⟨n,rfl⟩:=g8 b.1;rw[ER,ym,ym,a d]
  congr 1
  exact Bes ⟨n,Ω⟩
theorem Bdd(a:Ch l)(f:l.length<=1000000):∃x,Ac (CP p) prog u (d+1) 193 [Bg (Ab l),Bg GL]=some ⟨[Bg x],[]⟩/\(mf x.data==mf (ByteArray.mk #[]).data)=l.all Wa:=by
 refine⟨⟨(fi (Ab l).data.toList GL.data.toList).toArray⟩,?_,?_⟩
 ·have e:Ac (CP p) prog u (d+1) 193 [Bg (Ab l),Bg GL]=Ak9 [Bg (Ab l),Bg GL]:=rfl;rw[e];unfold Ak9
  have:(jg GL.size 1000&&GL.data.toList.all (λb=>decide (b.toNat<128))&&decide ((Ab l).size<=1000000000))=true:=by
   rw[Ai];have c:(jg GL.size 1000&&GL.data.toList.all (λb=>decide (b.toNat<128)))=true:=by decide +kernel
   rw[c,dT (q:=l.length<=1000000000) Ω];rfl
  simp only[this,cond_true]
 ·show (fi (Ab l).data.toList GL.data.toList==[])=_;rw[A0h];exact Bdc a
theorem IC(c:Int):∀{l:Ak},Ch l->∀x∈Bl c l,Ch x/\x.length<=l.length
 |[],_,x,d=>by simp[Bl] at d;subst d;exact⟨(λy e=>nomatch e),Cz _⟩
 |a::r,h,x,d=>by
  obtain⟨i,j⟩:=Ck h;have f:=IC c j;unfold Bl at d;split at d
  ·rcases zl.1 d with rfl|d
   ·exact⟨(λy e=>nomatch e),jt _⟩
   ·exact⟨(f x d).1,ww (f x d).2⟩
  ·cases g:Bl c r with
   |nil=>exact absurd g (Vk c r)
   |cons b t=>
    rw[g] at d f;rcases zl.1 d with rfl|d
    ·obtain⟨k,m⟩:=f b Ψ;refine⟨λy e=>?_,by simp;omega⟩
     rcases zl.1 e with rfl|e
     ·exact i
     ·exact k y e
    ·exact⟨(f x (by simp[d])).1,ww (f x (by simp[d])).2⟩
theorem Ans{a0:ByteArray}(Be:200<=u){ls:List Ak}(h:∀x∈ls,Ch x/\x.length<=1000)(l:ls≠[])(t:ls.length<=1000):∀(r:List Ak) (i nn:Nat),ls.drop i=r->r.length+1<=nn ->
  Mb u (Ac (CP p) prog u (d+1)) a0 nn ls.length ls.length (ls.length:Int) (i:Int) (ls.map EK)=some ⟨[Av (if r.all Ny=false then 2 else if (ls.getLastD []).all Wa=true then 2 else 0)],[]⟩
 |[],i,nn,hd,m=>by
  obtain⟨k,rfl⟩:∃k,nn=k+1:=⟨nn-1,Ω⟩
  have hi:=drop_nil hd;have Akr:0<ls.length:=List.length_pos_iff.2 l;have b:decide ((i:Int)<(ls.length:Int))=false:=by simp;omega
  have c:wrap .i64 ((ls.length:Int)-1)=((ls.length-1:Nat):Int):=Bc
  have n:decide ((0:Int)<=((ls.length-1:Nat):Int))=true:=Ψ
  have o:decide (((ls.length-1:Nat):Int)<(ls.length:Int))=true:=by simp;omega
  have Aam:ls.getLastD []=ls[ls.length-1]'(Ω):=by
   rw[List.getLastD_eq_getLast?,List.getLast?_eq_getElem?,zd Ω];rfl
  have f:f9 (ls.map EK) (0+wj ((ls.length-1:Nat):Int)*1) PV.top=Bg (Ab (ls.getLastD [])):=by
   rw[Hy,I8,Jp,zj,zr,zd Ω,Aam];rfl
  have j:=h (ls.getLastD []) (by rw[Aam];exact nh _)
  obtain⟨x,e,g⟩:=Bdd (u:=u) (d:=d) (p:=p) j.1 Ω;have q:Ac (CP p) prog u (d+1) 193 [Bg (Ab (ls.getLastD [])),Bg ⟨#[48,49,50,51,52,53,54,55,56,57]⟩]=some ⟨[Bg x],[]⟩:=e;rw[Wg];cases a:(ls.getLastD []).all Wa
  ·rw[a] at g;simp only[Aq,Ar,b,c,n,o,f,q,g,ni,fo,if_false,qf]
  ·rw[a] at g;simp only[Aq,Ar,b,c,n,o,f,q,g,ni,fo,if_false,if_true]
 |x::r,i,nn,hd,m=>by
  obtain⟨k,rfl⟩:∃k,nn=k+1:=⟨nn-1,Ω⟩
  obtain⟨hi,s,TM⟩:=Cb hd;have v:=Ans (a0:=a0) Be h l t r (i+1) k TM (by simp at m;omega)
  have j:=h x (zn s);have e:Ac (CP p) prog u (d+1) 192 [Bg (Ab x)]=_:=A7o (u:=u) (d:=d) (p:=p) j.1 Ω;have b:decide ((i:Int)<(ls.length:Int))=true:=by simp;omega
  have c:decide ((0:Int)<=(i:Int))=true:=Ψ
  have f:f9 (ls.map EK) (0+wj (i:Int)*1) PV.top=Bg (Ab x):=by
   rw[Hy,I8,Jp,zj,zr,s];rfl
  have w:wrap .i64 ((i:Int)+1)=((i+1:Nat):Int):=Bc
  rw[Wg];cases a:Ny x
  ·rw[a] at e;have:((x::r).all Ny=false):=by simp[a]
   rw[Bv this];simp only[Aq,Ar,b,c,f,e,Ix]
  ·rw[a] at e;have:(x::r).all Ny=r.all Ny:=by simp[a]
   rw[this];simp only[Aq,Ar,b,c,f,e,Gc,w];exact v
theorem Bb6(a:Ch l)(g:l.length<=1000000)(Be:200<=u):Ac (CP p) prog u (d+6) 171 [Bg (Ab l)]=some ⟨[Av (Yq l)],[]⟩:=by
 rw[XR];unfold Yq;by_cases h:100<l.length
 ·have b:decide (((l.length:Nat):Int)>100)=true:=by simp;omega
  rw[Bv h];simp only[Aq,Ar,Ai,b]
 ·have b:decide (((l.length:Nat):Int)>100)=false:=by simp;omega
  have e:Ac (CP p) prog u (d+5) 191 [Bg (Ab l),Bg ⟨#[46]⟩]=_:=A6g (u:=u) (d:=d) (p:=p) (c:=46) Ω a Ω Ω;have i:=JU 46 l;have hd:=Ans (a0:=Ab l) (u:=u) (d:=d+4) (p:=p) Ω (ls:=Bl 46 l) (λx f=>⟨(IC 46 a x f).1,by have:=(IC 46 a x f).2;omega⟩) (Vk 46 l) Ω (Bl 46 l) 0 u rfl Ω
  rw[Bd h];simp only[Aq,Ar,Ai,b,e];exact hd
theorem A74(s:Bool):Ac (CP p) prog u (d+1) 172 [C3 s]=some ⟨[Av (dfl s)],[]⟩:=by rw[GD];cases s<;>simp only[Aq,Ar]<;>rfl
theorem RP(c:Int):Wa c=true↔48<=c/\c<=57:=by unfold Wa;simp
theorem Af3{F:An}{a0:ByteArray}{l:Ak}(o:Ch l)(v:l.length<=5):∀(r:Ak)(i nn:Nat)(n:Int),l.drop i=r->r.length+1<=nn->0<=n->n<10 ^ i ->
  Iz u F a0 nn (Ab l) n (l.length:Int) (i:Int)=some (if r.all Wa=true then ⟨[Av (r.foldl (λn x=>10*n+(x-48)) n),C3 (decide (r.foldl (λn x=>10*n+(x-48)) n<=65535))],[]⟩ else ⟨[Av 0,C3 false],[]⟩)
 |[],i,nn,n,hd,p,w,y=>by
  obtain⟨k,rfl⟩:∃k,nn=k+1:=⟨nn-1,Ω⟩
  have hi:=drop_nil hd;have a:decide ((i:Int)<(l.length:Int))=false:=by simp;omega
  rw[Qz];simp only[Aq,Ar,a];rfl
 |c::r,i,nn,n,hd,p,w,y=>by
  obtain⟨k,rfl⟩:∃k,nn=k+1:=⟨nn-1,Ω⟩
  obtain⟨hi,s,TM⟩:=Cb hd;have KU:=o c (zn s)
  have hp:(10:Int) ^ i<=10 ^ 4:=by
   have h:=gr (n:=10) Ω (show i<=4 by omega)
   exact_mod_cast h
  have z:(10:Int) ^ (i+1)=10 ^ i*10:=Int.pow_succ ..;have a:decide ((i:Int)<(l.length:Int))=true:=by simp;omega
  have f:decide ((0:Int)<=(i:Int))=true:=Ψ
  have g:(mf (Ab l).data)[wj (i:Int)]?=some c.toNat.toUInt8:=by
   rw[Hy];show (l.map λn=>n.toNat.toUInt8)[i]?=_;rw[zr,s];rfl
  have j:=Nz KU;rw[Qz];by_cases t:48<=c/\c<=57
  ·have b:=dF (q:=c<48) Ω;have m:=dF (q:=c>57) Ω;have A:wrap .i64 (10*n)=10*n:=Ba;have B:wrap .u8 (c-48)=c-48:=Gt Ω Ω;have C:wrap .i64 (c-48)=c-48:=Ba;have D:wrap .i64 (10*n+(c-48))=10*n+(c-48):=Ba;have E:wrap .i64 ((i:Int)+1)=((i+1:Nat):Int):=Bc
   have G:=Af3 (F:=F) (a0:=a0) o v r (i+1) k (10*n+(c-48)) TM (by simp at p;omega) Ω Ω
   have e:(c::r).all Wa=r.all Wa:=by rw[ym,(RP c).2 t,Zzm]
   simp only[Aq,Ar,a,f,g,j,b,m,A,B,C,D,E];rw[G,e];rfl
  ·have e:(c::r).all Wa=false:=by
    have:Wa c=false:=by
     cases H:Wa c
     ·rfl
     ·exact absurd ((RP c).1 H) t
    rw[ym,this,SK]
   rw[e];by_cases d:c<48
   ·have b:=dT d;simp only[Aq,Ar,a,f,g,j,b,qf,if_false]
   ·have b:=dF d;have m:=dT (q:=c>57) Ω;simp only[Aq,Ar,a,f,g,j,b,m,qf,if_false]
theorem Bc2(i:Ch l)(Be:100<=u):Ac (CP p) prog u (d+1) 173 [Bg (Ab l)]=some (if Mj l=true then ⟨[Av (NQ l),C3 (decide (NQ l<=65535))],[]⟩ else ⟨[Av 0,C3 false],[]⟩):=by
 rw[NJ];by_cases f:1<=l.length
 ·by_cases g:l.length<=5
  ·have a:decide (((l.length:Nat):Int)<1)=false:=by simp;omega
   have b:decide (((l.length:Nat):Int)>5)=false:=by simp;omega
   cases l with
   |nil=>simp at f
   |cons c r=>
    have KU:=i c Ψ;have j:(mf (Ab (c::r)).data)[0]?=some c.toNat.toUInt8:=rfl;have k:=Nz KU;by_cases h:c=48
    ·subst h;have e:Mj (48::r)=false:=by unfold Mj;simp
     have q:((48:Int)==48)=true:=rfl;rw[e];simp only[Aq,Ar,Ai,a,b,j,k,q,qf,if_false]
    ·have q:(c==48)=false:=by simp[h]
     have e:Mj (c::r)=(c::r).all Wa:=by
      unfold Mj;rw[dT f,dT g];simp[h]
     have m:=Af3 (F:=Ac (CP p) prog u d) (u:=u) (a0:=Ab (c::r)) i g (c::r) 0 u 0 rfl Ω Ω Δ;rw[e];simp only[Aq,Ar,Ai,a,b,j,k,q];exact m
  ·have a:decide (((l.length:Nat):Int)<1)=false:=by simp;omega
   have b:decide (((l.length:Nat):Int)>5)=true:=by simp;omega
   have e:Mj l=false:=by unfold Mj;simp[g]
   rw[e];simp only[Aq,Ar,Ai,a,b,qf,if_false]
 ·have a:decide (((l.length:Nat):Int)<1)=true:=by simp;omega
  have e:Mj l=false:=by unfold Mj;simp[f]
  rw[e];simp only[Aq,Ar,Ai,a,qf,if_false]
theorem Bim(y:Ch l)(hs:l.length<=1000000)(Be:200<=u):∃g i j,Ac (CP p) prog u (d+7) 150 [Bg (Ab l)]=some ⟨[.agg [C3 g,Bg i,Av j],Av (Hv l)],[]⟩:=by
  have A:=Bah (u:=u) (d:=d+2) (p:=p) y (w:=[104,116,116,112,115,58,47,47]) (λx a=>by simp at a;omega)
  have CH:=Bah (u:=u) (d:=d+2) (p:=p) y (w:=[104,116,116,112,58,47,47]) (λx a=>by simp at a;omega)
  have k:Ac (CP p) prog u (d+6) 169 [Bg (Ab l),Bg ⟨#[104,116,116,112,115,58,47,47]⟩]=_:=A
  have n:Ac (CP p) prog u (d+6) 169 [Bg (Ab l),Bg ⟨#[104,116,116,112,58,47,47]⟩]=_:=CH
  have tail:∀(s:Bool) (r:Ak),Ch r->r.length<=1000000->∃g i j,(Ao (Ac (CP p) prog u (d+6) 170 [PV.sc (Value.string (Ab r)),PV.sc (Value.string ⟨#[58]⟩)]) λB C=>
    Ag (C) <|
    Ad (B) λD E=>
    At (D) λm=>
    Ad (E) λG H=>
    At (G) λJ=>
    Ad (H) λK L=>
    Bh (K) λM=>
    Ag (L) <|
    Ao (Ac (CP p) prog u (d+6) 171 [PV.sc (Value.string m)]) λN O=>
    Ag (O) <|
    Ad (N) λP Q=>
    Bi (IntKind.i64) (P) λo=>
    Ag (Q) <|
    Ap (o != (0:Int))
     (
     some (A3.mk [PV.agg [PV.sc (Value.bool false),PV.sc (Value.string ⟨#[]⟩),PV.sc (Value.int IntKind.i64 (0:Int))],PV.sc (Value.int IntKind.i64 o)] []))
     (
     Ao (Ac (CP p) prog u (d+6) 172 [PV.sc (Value.bool s)]) λR S=>
     Ag (S) <|
     Ad (R) λT U=>
     Bi (IntKind.i64) (T) λq=>
     Ag (U) <|
     Ap (M)
      (
      Ao (Ac (CP p) prog u (d+6) 173 [PV.sc (Value.string J)]) λV W=>
      Ag (W) <|
      Ad (V) λX Y=>
      Bi (IntKind.i64) (X) λt=>
      Ad (Y) λZ x44=>
      Bh (Z) λx45=>
      Ag (x44) <|
      Ap (!x45)
       (
       some (A3.mk [PV.agg [PV.sc (Value.bool false),PV.sc (Value.string ⟨#[]⟩),PV.sc (Value.int IntKind.i64 (0:Int))],PV.sc (Value.int IntKind.i64 (2:Int))] []))
       (
       Ap (t==q)
        (
        some (A3.mk [PV.agg [PV.sc (Value.bool false),PV.sc (Value.string ⟨#[]⟩),PV.sc (Value.int IntKind.i64 (0:Int))],PV.sc (Value.int IntKind.i64 (2:Int))] []))
        (
        some (A3.mk [PV.agg [PV.sc (Value.bool s),PV.sc (Value.string m),PV.sc (Value.int IntKind.i64 t)],PV.sc (Value.int IntKind.i64 (0:Int))] []))))
      (
      some (A3.mk [PV.agg [PV.sc (Value.bool s),PV.sc (Value.string m),PV.sc (Value.int IntKind.i64 q)],PV.sc (Value.int IntKind.i64 (0:Int))] []))))=some ⟨[.agg [C3 g,Bg i,Av j],Av (HC s r)],[]⟩:=by
    intro s r hr hrl
    have c1:Ac (CP p) prog u (d+6) 170 [Bg (Ab r),Bg ⟨#[58]⟩]=_:=Bjh (u:=u) (d:=d+2) (p:=p) (c:=58) Ω hr hrl
    have O3:=YC 58 r
    have hbB:Ch (B7 58 r):=by rw[Xc];exact λx a=>hr x (List.mem_of_mem_take a)
    have hdB:Ch (r.drop ((B7 58 r).length+1)):=λx a=>hr x (kj a)
    have c2:Ac (CP p) prog u (d+6) 171 [Bg (Ab (B7 58 r))]=_:=Bb6 (u:=u) (d:=d) (p:=p) hbB Ω Be
    have v:Ac (CP p) prog u (d+6) 172 [C3 s]=_:=A74 (u:=u) (d:=d+5) (p:=p) s
    have f:Ac (CP p) prog u (d+6) 173 [Bg (Ab (r.drop ((B7 58 r).length+1)))]=_:=Bc2 (u:=u) (d:=d+5) (p:=p) hdB Ω
    unfold HC
    by_cases b:Yq (B7 58 r)=0
    · have b1:(Yq (B7 58 r) != 0)=false:=by simp[b]
      simp only[ne_eq,b,not_true_eq_false,if_false]
      by_cases hw:(B7 58 r).length<r.length
      · rw[dT hw] at c1
        rw[Bd (show ¬(B7 58 r).length=r.length by omega)]
        by_cases hp:Mj (r.drop ((B7 58 r).length+1))=true
        · rw[Bv hp] at f
          by_cases z:NQ (r.drop ((B7 58 r).length+1))<=65535
          · rw[dT z] at f
            by_cases e:NQ (r.drop ((B7 58 r).length+1))=dfl s
            · have b2:(NQ (r.drop ((B7 58 r).length+1))==dfl s)=true:=by simp[e]
              rw[Bd (by rintro⟨_,_,h⟩;exact h e)]
              exact⟨_,_,_,by simp only[Aq,Ar,c1,c2,b,v,f,b2,Gc,show ((0:Int) != 0)=false from rfl];rfl⟩
            · have b2:(NQ (r.drop ((B7 58 r).length+1))==dfl s)=false:=by simp[e]
              rw[Bv ⟨hp,z,e⟩]
              exact⟨_,_,_,by simp only[Aq,Ar,c1,c2,b,v,f,b2,Gc,show ((0:Int) != 0)=false from rfl];rfl⟩
          · rw[dF z] at f
            rw[Bd (by rintro⟨_,h,_⟩;exact z h)]
            exact⟨_,_,_,by simp only[Aq,Ar,c1,c2,b,v,f,Ix,show ((0:Int) != 0)=false from rfl];rfl⟩
        · rw[Bd hp] at f
          rw[Bd (by rintro⟨h,_,_⟩;exact hp h)]
          exact⟨_,_,_,by simp only[Aq,Ar,c1,c2,b,v,f,Ix,show ((0:Int) != 0)=false from rfl];rfl⟩
      · rw[dF hw] at c1
        rw[Bv (show (B7 58 r).length=r.length by omega)]
        exact⟨_,_,_,by simp only[Aq,Ar,c1,c2,b,v,show ((0:Int) != 0)=false from rfl];rfl⟩
    · have b1:(Yq (B7 58 r) != 0)=true:=by simp[b]
      simp only[ne_eq,b,not_false_eq_true,if_true]
      exact⟨_,_,_,by simp only[Aq,Ar,c1,c2,b1];rfl⟩
  have er:=Aa7 (p:=p) u (d+6) (Ab l)
  unfold Hv
  cases h1:bn [104,116,116,112,115,58,47,47] l
  · rw[h1] at k
    simp only[qf,if_false] at k ⊢
    cases h2:bn [104,116,116,112,58,47,47] l
    · rw[h2] at n
      simp only[qf,if_false] at n ⊢
      exact⟨_,_,_,er.trans (by simp only[Aq,Ar,k,n,Ix];rfl)⟩
    · rw[h2] at n
      simp only[if_true] at n ⊢
      obtain⟨g,i,j,ht⟩:=tail false (l.drop 7) (λx a=>y x (kj a)) (by simp;omega)
      refine⟨g,i,j,er.trans ?_⟩
      simp only[CR,NM,EA,RJ,Ag6,Ahd,Aha,k,n,Ix,Gc]
      exact ht
  · rw[h1] at k
    simp only[if_true] at k ⊢
    obtain⟨g,i,j,ht⟩:=tail true (l.drop 8) (λx a=>y x (kj a)) (by simp;omega)
    refine⟨g,i,j,er.trans ?_⟩
    simp only[CR,NM,EA,RJ,Ag6,Ahd,Aha,k,Ix,Gc]
    exact ht
end
section
open Go Go.RowKit Go.Lib
def RtP(w':World)(l:Ak)(e:Ending):Prop:=
 match XM 8 l with
 |.ok c=>∃a,e=.returned (.tuple #[.map (some a),.int .i64 0])/\AtM w' a c
 |.error b=>b≠0/\∃m,e=.returned (.tuple #[m,.int .i64 b])
theorem Vi(l:Ak):XM 8 l=match Az [123] (Aw l) with
  |some r=>(match BJ (Dc 8) true r with
   |.error e=>.error e
   |.ok (b,r')=>if Aw r'=[] then .ok b else .error 2)
  |none=>.error 2:=by
 unfold XM;rw[Di];cases Aw l with
 |nil=>rfl
 |cons y s=>
  by_cases a:y=123
  ·subst a;rfl
  ·simp only[Bd a];split
   ·rename_i e;injection e with c _;exact absurd c a
   ·rfl
theorem Fx.toBelow{B:Nat}(k:Fx w w' b mb)(c:B<=b)(a:B<=mb)(d:B<=w.heap.size):Below B w w':=
 ⟨k.os,k.tape,k.output,k.size,λi hi=>k.other i Ω Ω Ω⟩
theorem Acm(e:gU.ok w)(a:∀k,gU.bl k->k<w.heap.size)(c:Below w.heap.size w w')(f:w.heap.size<=b):Ua w' b:=
 ⟨gU.stable w w' (λj _ g=>c.block j g) e,λk d=>⟨Iv (a k d) c.size,by have:=a k d;omega⟩⟩
set_option maxHeartbeats 4000000 in
theorem A5x(ht:t.size<=1000000)(L:gU.ok w)(d:∀k,gU.bl k->k<w.heap.size):
  Calls prog 125 #[.string t] w λe w'=>Below w.heap.size w w'/\RtP w' (Cp t) e:=by
 have mixed:prog.follows Departure.mixedOrders=true:=Κ
 have U:=@run_makeMap prog;have M:Below w.heap.size w (w.alloc (.cells #[.string t,.int .i64 0] 210)):=(Below.refl _ w).alloc (Cz _) _;have Ke:Below w.heap.size w ((w.alloc (.cells #[.string t,.int .i64 0] 210)).alloc (.map #[] 0)):=M.alloc M.size _;have V:(w.alloc (.cells #[.string t,.int .i64 0] 210)).heap.size=w.heap.size+1:=fa _
 have X:RD ((w.alloc (.cells #[.string t,.int .i64 0] 210)).alloc (.map #[] 0)) w.heap.size 0 t (Cp t):=by
  have p:((w.alloc (.cells #[.string t,.int .i64 0] 210)).alloc (.map #[] 0)).heap[w.heap.size]?=some (.cells #[.string t,.int .i64 0] 210):=by
   show ((w.heap.push _).push _)[w.heap.size]?=_;rw[fb Ψ];simp
  have hp:Bp t (Cp t)=0:=by unfold Bp;rw[Cj];omega
  refine⟨?_,?_,?_,?_,?_⟩
  ·show w.heap.size<((w.heap.push _).push _).size;rw[fa,fa];omega
  ·unfold jy;simp only[p];rfl
  ·unfold jy;simp only[p,hp];rfl
  ·unfold ju;simp only[p];rfl
  ·unfold ju;simp only[p];rfl
 have s:AtM ((w.alloc (.cells #[.string t,.int .i64 0] 210)).alloc (.map #[] 0)) (w.heap.size+1) []:=by
  show ((w.heap.push _).push (Obj.map #[] 0))[w.heap.size+1]?=some (.map #[] 0);have:w.heap.size+1=(w.heap.push (Obj.cells #[.string t,.int .i64 0] 210)).size:=Ψ
  rw[this];exact fc
 have f:=Acm L d Ke (Cz _);have v:¬gU.bl (w.heap.size+1):=λh=>by have:=d _ h;omega
 have N:=D5.all t;have y:=Nx N ht f X
 go_enter Tryz.func125,Tryz.ntmps125
 go_wp2_with (go_at_call 147;refine y.mono ?_)
 rintro e Y ⟨rfl,Z,z⟩
 have A:=Cd N;have B:=s.keep z Ω;have C:=f.keep z;have D:=A9o A ht C Z B Ω v;have Tl:Below w.heap.size w Y:=Ke.trans ((Fx.of (mb:=w.heap.size+1) z).toBelow (Cz _) Ω Ke.size)
 go_wp2_with (go_at_call 148;refine D.mono ?_)
 rintro e W4 ⟨k4,r4,i,h4,b⟩
 have JQ:Below w.heap.size w W4:=Tl.trans (k4.toBelow (Cz _) Ω Tl.size);have E:Ua W4 w.heap.size:=Acm L d JQ (Cz _)
 have a:∀W e,(match Az [123] (Aw (Cp t)) with
  |some r=>(match BJ (Dc 8) true r with
   |.error j=>j≠0/\∃m,e=.returned (.tuple #[m,.int .i64 j])
   |.ok (G,r')=>if Aw r'=[] then ∃O,e=.returned (.tuple #[.map (some O),.int .i64 0])/\AtM W O G else ∃m,e=.returned (.tuple #[m,.int .i64 2]))
  |none=>∃m,e=.returned (.tuple #[m,.int .i64 2]))->RtP W (Cp t) e:=by
  intro W e;unfold RtP;rw[Vi];cases Az [123] (Aw (Cp t)) with
  |none=>exact λh=>⟨Δ,h⟩
  |some r=>
   cases l:BJ (Dc 8) true r with
   |error j=>simp only[l];exact id
   |ok x=>
    obtain⟨G,r'⟩:=x;simp only[l];by_cases g:Aw r'=[]
    ·simp only[Bv g];exact id
    ·simp only[Bd g];exact λh=>⟨Δ,h⟩
 unfold RoP at b;cases P:Az [123] (Aw (Cp t)) with
 |none=>
  rw[P] at b a;subst b
  go_wp2
  go_ret2
  exact⟨JQ,a _ _ ⟨_,rfl⟩⟩
 |some r=>
  rw[P] at b a;simp only at b a;cases Q:BJ (Dc 8) true r with
  |error j=>
   rw[Q] at b a;obtain⟨R,rfl⟩:=b;have hbe:(j != (0:Int))=true:=by simp[R]
   go_wp2
   go_ret2
   exact⟨JQ,a _ _ ⟨R,_,rfl⟩⟩
  |ok x=>
   obtain⟨G,r'⟩:=x;rw[Q] at b a;obtain⟨rfl,rfl,H⟩:=b;have Bd7:=Nx i ht E h4
   go_wp2_with (go_at_call 147;refine Bd7.mono ?_)
   rintro e W5 ⟨rfl,h5,S⟩
   have n:Below w.heap.size w W5:=JQ.trans ((Fx.of (mb:=w.heap.size+1) S).toBelow (Cz _) Ω JQ.size);have J:=H.keep S Ω;obtain⟨Ct,hc0,LB,hf0,hf1⟩:=h5;have K:=Cd i;have o:=K.len;cases T:Aw r4 with
   |nil=>
    rw[T] at LB a;rw[Si] at LB
    go_wp2
    go_region_o
    go_wp2
    go_ret2
    exact⟨n.drew,a _ _ (by rw[Bv trivial];exact⟨_,rfl,J⟩)⟩
   |cons c q=>
    rw[T] at LB a o
    have Bvl:(Bp t (c::q):Int)<t.size:=by
     unfold Bp;rw[M9] at o ⊢;omega
    have Bqr:¬(c::q=[]):=Ψ
    go_wp2
    go_region_o
    go_wp2
    go_ret2
    exact⟨n.drew,a _ _ (by rw[Bd Bqr];exact⟨_,rfl⟩)⟩
end
section
open Go Go.RowKit Go.Lib
def P6:Ak:=[116,121,112,101]
def U0:Ak:=[99,104,97,108,108,101,110,103,101]
def NF:Ak:=[111,114,105,103,105,110]
def Ca(nm:Ak)(ms:List (Ak × JV)):JV:=(J8 nm ms).getD (0,[],false)
theorem Aa8(h:AtM w b ms)(a:∀m∈ms,Ch m.1)(c:Ch nm):(ft 176 (.map (some b)) (.string (Ab nm)) false).run prog w=.ok (.agg #[.int .i64 (Ca nm ms).1,.string (Ab (Ca nm ms).2.1),.bool (Ca nm ms).2.2]) w:=by have:=ZL h a c false;rw[this];unfold Aks Ca;cases J8 nm ms<;>rfl
theorem al4(w:World)(a x1 x2 x3:Obj):((((w.alloc a).alloc x1).alloc x2).alloc x3).drew.heap[w.heap.size]?=some a/\((((w.alloc a).alloc x1).alloc x2).alloc x3).drew.heap[w.heap.size+1]?=some x1/\((((w.alloc a).alloc x1).alloc x2).alloc x3).drew.heap[w.heap.size+1+1]?=some x2/\((((w.alloc a).alloc x1).alloc x2).alloc x3).drew.heap[w.heap.size+1+1+1]?=some x3:=by
 show ((((w.heap.push a).push x1).push x2).push x3)[w.heap.size]?=some a/\((((w.heap.push a).push x1).push x2).push x3)[w.heap.size+1]?=some x1/\((((w.heap.push a).push x1).push x2).push x3)[w.heap.size+1+1]?=some x2/\((((w.heap.push a).push x1).push x2).push x3)[w.heap.size+1+1+1]?=some x3;refine⟨?_,?_,?_,?_⟩
 ·rw[fb (by simp;omega),fd (by simp;omega),fd Ψ,fe]
 ·have:w.heap.size+1=(w.heap.push a).size:=Ψ
  rw[fb Ψ,fd Ψ];simp only[this,fe]
 ·have:w.heap.size+1+1=((w.heap.push a).push x1).size:=Ψ
  rw[fb Ψ];simp only[this,fe]
 ·have:w.heap.size+1+1+1=(((w.heap.push a).push x1).push x2).size:=Ψ
  rw[this];exact fc
theorem al2(w:World)(x1 x2:Obj):((w.alloc x1).alloc x2).drew.heap[w.heap.size]?=some x1/\((w.alloc x1).alloc x2).drew.heap[w.heap.size+1]?=some x2:=by
 show ((w.heap.push x1).push x2)[w.heap.size]?=some x1/\((w.heap.push x1).push x2)[w.heap.size+1]?=some x2;refine⟨?_,?_⟩
 ·simp[Array.getElem?_push]
 ·have:w.heap.size+1=(w.heap.push x1).size:=Ψ
  rw[this];exact fc
def UW:Ak:=[99,114,111,115,115,79,114,105,103,105,110]
def CF:Ak:=[116,111,112,79,114,105,103,105,110]
def Au6(v:JV):Obj:=.cells #[.int .i64 v.1,.string (Ab v.2.1),.bool v.2.2] 213
def cd0:Obj:=.cells #[.int .i64 0,.slice none 0 0,.string ⟨#[]⟩,.bool false,.string ⟨#[]⟩] 77
def tyC:Ak:=[112,97,115,115,107,101,121,46,99,114,101,97,116,101]
def tyG:Ak:=[112,97,115,115,107,101,121,46,103,101,116]
abbrev CD:=Int × Ak × Ak × Bool × Ak
def OS(k:Int)(C O X P:JV):JR CD:=
 match Nr C.2.1 with
 |none=>.error 2
 |some b=>if b.length<1\/64<b.length then .error 9 else if Hv O.2.1≠0 then .error (Hv O.2.1) else if X.2.2=true/\Hv P.2.1≠0 then .error (Hv P.2.1) else .ok (k,b,O.2.1,X.2.2,P.2.1)
def S6(T C O X P:JV):JR CD:=
 if T.1≠4\/C.1≠4\/O.1≠4 then .error 4
 else if X.1≠0/\X.1≠2 then .error 4
 else if (X.2.2=true/\P.1≠4)\/(X.2.2=false/\P.1≠0) then .error 4
 else if T.2.1=tyC then OS 1 C O X P else if T.2.1=tyG then OS 2 C O X P else .error 3
def RR(w:World)(a:Addr)(b:Ak):Prop:=a.spot=none/\a.block<w.heap.size/\∀j x,b[j]?=some x->w.cell? (a.add j)=some (.int .u8 x)
def ItP(w w':World)(r:JR CD)(e:Ending):Prop:=
 match r with
 |.ok (k,b,o,x,p)=>∃ad cap,e=.returned (.tuple #[.agg #[.int .i64 k,.slice (some ad) b.length cap,.string (Ab o),.bool x,.string (Ab p)],.int .i64 0])/\b.length<=cap/\w.heap.size<=ad.block/\RR w' ad b
 |.error a=>a≠0/\e=.returned (.tuple #[.agg #[.int .i64 0,.slice none 0 0,.string ⟨#[]⟩,.bool false,.string ⟨#[]⟩],.int .i64 a])
def DbP(w w':World)(s:Ak)(e:Ending):Prop:=
 match Nr s with
 |none=>∃ad cap,e=.returned (.tuple #[.slice ad 0 cap,.int .i64 2])
 |some b=>∃ad cap,e=.returned (.tuple #[.slice ad b.length cap,.int .i64 0])/\(b≠[]->∃a,ad=some a/\b.length<=cap/\w.heap.size<=a.block/\RR w' a b)
theorem Abx{v:JV}(h:w.heap[b]?=some (Au6 v)):w.cell? ⟨b,0,none⟩=some (.int .i64 v.1)/\w.cell? ⟨b,1,none⟩=some (.string (Ab v.2.1))/\w.cell? ⟨b,2,none⟩=some (.bool v.2.2):=by refine⟨?_,?_,?_⟩<;>(unfold jy;simp only[h];rfl)
theorem A03(h:w.heap[b]?=some cd0):(w.cell? ⟨b,0,none⟩=some (.int .i64 0)/\w.cell? ⟨b,1,none⟩=some (.slice none 0 0)/\w.cell? ⟨b,2,none⟩=some (.string ⟨#[]⟩)/\w.cell? ⟨b,3,none⟩=some (.bool false)/\w.cell? ⟨b,4,none⟩=some (.string ⟨#[]⟩))/\w.frozen? ⟨b,0,none⟩=false/\w.frozen? ⟨b,1,none⟩=false/\w.frozen? ⟨b,2,none⟩=false/\w.frozen? ⟨b,3,none⟩=false/\w.frozen? ⟨b,4,none⟩=false:=by refine⟨⟨?_,?_,?_,?_,?_⟩,?_,?_,?_,?_,?_⟩<;>first|(unfold jy;simp only[h];rfl)|(unfold ju;simp only[h];rfl)
theorem Aw3(s:ByteArray):s.toList=s.data.toList:=by
 have h:∀(n i:Nat) (r:List UInt8),n=s.size-i->nv.loop s i r=r.reverse++s.data.toList.drop i:=by
  intro n
  induction n with
  |zero=>
   intro i r a;unfold nv.loop;rw[Bd Ω,f8 (by rw[<-fj];omega),vy]
  |succ n b=>
   intro i r a;have hi:i<s.size:=Ω
   unfold nv.loop;rw[Bv hi,b (i+1) _ Ω,List.reverse_cons,Zzv]
   congr 1
   have c:i<s.data.toList.length:=by rw[<-fj];exact hi
   rw[List.drop_eq_getElem_cons c]
   have e:s.get! i=s.data.toList[i]:=by
    show (s.data[i]!)=_;rw[getElem!_pos s.data i hi];rfl
   rw[e];rfl
 have:=h _ 0 [] rfl;exact this
theorem Acg{a b:Ak}(c:Ch a)(d:Ch b):((Ab a).toList==b.map λn=>n.toNat.toUInt8)=decide (a=b):=by
 rw[Aw3,fk,beq_iff_eq,decide_eq_true_iff];constructor
 ·intro h;have e:Ab a=Ab b:=congrArg (λl:List UInt8=>(⟨l.toArray⟩:ByteArray)) (show (Ab a).data.toList=(Ab b).data.toList from h);exact VY c d e
 ·rintro rfl;rfl
def Bq3(w:World)(vT vC vO:JV)(s4 b c:Value)(a:World):Prop:=
 ∃bT bC bO,s4=.pointer (some ⟨bT,0,none⟩)/\b=.pointer (some ⟨bC,0,none⟩)/\c=.pointer (some ⟨bO,0,none⟩)/\w.heap.size<bT/\w.heap.size<bC/\w.heap.size<bO/\a.heap[w.heap.size]?=some cd0/\a.heap[bT]?=some (Au6 vT)/\a.heap[bC]?=some (Au6 vC)/\a.heap[bO]?=some (Au6 vO)/\Below w.heap.size w a
def Bm4(w wc:World)(vX vP:JV)(s7 b:Value)(a:World):Prop:=
 ∃bX bP,s7=.pointer (some ⟨bX,0,none⟩)/\b=.pointer (some ⟨bP,0,none⟩)/\wc.heap.size<=bX/\wc.heap.size<=bP/\a.heap[bX]?=some (Au6 vX)/\a.heap[bP]?=some (Au6 vP)/\Below wc.heap.size wc a
theorem Bdr{x0 x1 x2 x3 x4:Value}(h:w.heap[b]?=some (.cells #[x0,x1,x2,x3,x4] 77)):(w.cell? ⟨b,0,none⟩=some x0/\w.cell? ⟨b,1,none⟩=some x1/\w.cell? ⟨b,2,none⟩=some x2/\w.cell? ⟨b,3,none⟩=some x3/\w.cell? ⟨b,4,none⟩=some x4)/\w.frozen? ⟨b,0,none⟩=false/\w.frozen? ⟨b,1,none⟩=false/\w.frozen? ⟨b,2,none⟩=false/\w.frozen? ⟨b,3,none⟩=false/\w.frozen? ⟨b,4,none⟩=false:=by refine⟨⟨?_,?_,?_,?_,?_⟩,?_,?_,?_,?_,?_⟩<;>first|(unfold jy;simp only[h];rfl)|(unfold ju;simp only[h];rfl)
theorem Ajg{x0 x1 x2 x3 x4:Value}(a:w.cell? ⟨b,0,none⟩=some x0)(c:w.cell? ⟨b,1,none⟩=some x1)(d:w.cell? ⟨b,2,none⟩=some x2)(e:w.cell? ⟨b,3,none⟩=some x3)(f:w.cell? ⟨b,4,none⟩=some x4):(loadVar 77 ⟨b,0,none⟩).run prog w=.ok (.agg #[x0,x1,x2,x3,x4]) w:=by
 have g:∀j,j<5->w.cell? ((⟨b,0,none⟩:Addr).add j)=some (([x0,x1,x2,x3,x4][j]?).getD undef):=by
  intro j h;rw[E1,I8]
  match j,h with
  |0,_=>exact a
  |1,_=>exact c
  |2,_=>exact d
  |3,_=>exact e
  |4,_=>exact f
 simp only[loadVar,Sem.run_bind,Tryz.isAgg77,xf,if_true,Tryz.sizeOf77,run_loadCells w _ 5 _ g];rfl
theorem Io{j:Nat}(h:i≠j):(w.setCell ⟨b,j,none⟩ v).cell? ⟨b,i,none⟩=w.cell? ⟨b,i,none⟩:=mq _ _ _ _ (λe=>h (by injection e with _ a;exact a.symm))
theorem Adr(w:World)(b:Nat)(x0 x1 x2 x3 x4:Value)(h:(w.cell? ⟨b,0,none⟩).isSome=true/\(w.cell? ⟨b,1,none⟩).isSome=true/\(w.cell? ⟨b,2,none⟩).isSome=true/\(w.cell? ⟨b,3,none⟩).isSome=true/\(w.cell? ⟨b,4,none⟩).isSome=true):(loadVar 77 ⟨b,0,none⟩).run prog (((((w.setCell ⟨b,0,none⟩ x0).setCell ⟨b,1,none⟩ x1).setCell ⟨b,2,none⟩ x2).setCell ⟨b,3,none⟩ x3).setCell ⟨b,4,none⟩ x4)=.ok (.agg #[x0,x1,x2,x3,x4]) (((((w.setCell ⟨b,0,none⟩ x0).setCell ⟨b,1,none⟩ x1).setCell ⟨b,2,none⟩ x2).setCell ⟨b,3,none⟩ x3).setCell ⟨b,4,none⟩ x4):=by
 obtain⟨a,c,d,e,f⟩:=h;obtain⟨g,a⟩:=j8.1 a;obtain⟨i,c⟩:=j8.1 c;obtain⟨j,d⟩:=j8.1 d;obtain⟨k,e⟩:=j8.1 e;obtain⟨l,f⟩:=j8.1 f;apply Ajg
 ·rw[Io Δ,Io Δ,Io Δ,Io Δ];exact ff _ _ _ a
 ·rw[Io Δ,Io Δ,Io Δ];exact ff _ _ _ ((Io Δ).trans c)
 ·rw[Io Δ,Io Δ];exact ff _ _ _ ((Io Δ).trans ((Io Δ).trans d))
 ·rw[Io Δ];exact ff _ _ _ ((Io Δ).trans ((Io Δ).trans ((Io Δ).trans e)))
 ·exact ff _ _ _ ((Io Δ).trans ((Io Δ).trans ((Io Δ).trans ((Io Δ).trans f))))
theorem Xa{B:Nat}{a:World}(h:Below B a w)(c:B<=b)(x0 x1 x2 x3 x4:Value):Below B a (((((w.setCell ⟨b,0,none⟩ x0).setCell ⟨b,1,none⟩ x1).setCell ⟨b,2,none⟩ x2).setCell ⟨b,3,none⟩ x3).setCell ⟨b,4,none⟩ x4):=
 ((((h.setCell (p:=⟨b,0,none⟩) c x0).setCell (p:=⟨b,1,none⟩) c x1).setCell (p:=⟨b,2,none⟩) c x2).setCell (p:=⟨b,3,none⟩) c x3).setCell (p:=⟨b,4,none⟩) c x4
theorem AQ{a:Act}(c:a.tmps.getD 2 undef=.pointer (some ⟨b,0,none⟩))(hd:a.defers=[])(d:(loadVar 77 ⟨b,0,none⟩).run prog W=.ok v W)(f:R (.returned (.tuple #[v,a.tmps.getD 3 undef])) W):bodyPost prog Tryz.f126 R .ret a W:=by refine bodyPost_ret ?_ hd f;rw[results_cell_tmp rfl,c];have e:(asAddr (.pointer (some ⟨b,0,none⟩))).run prog W=.ok ⟨b,0,none⟩ W:=rfl;rw[e,xf,d,xf]
theorem RR.below{b:Ak}{B:Nat}(h:RR w a b)(k:Below B w w')(c:a.block<B):RR w' a b:=
 ⟨h.1,Iv h.2.1 k.size,λj x d=>(k.cell (p:=a.add j) (by rw[Hp];exact c)).trans (h.2.2 j x d)⟩
theorem RR.set{b:Ak}{j:Nat}(h:RR w a b)(c:a.block≠b0):RR (w.setCell ⟨b0,j,none⟩ v) a b:=
 ⟨h.1,by rw[fg];exact h.2.1,λi x d=>(mq _ _ _ _ (λe=>c (by rw[<-Hp a i,<-e]))).trans (h.2.2 i x d)⟩
theorem RR.set5{b:Ak}{x0 x1 x2 x3 x4:Value}(h:RR w a b)(c:a.block≠b0):RR (((((w.setCell ⟨b0,0,none⟩ x0).setCell ⟨b0,1,none⟩ x1).setCell ⟨b0,2,none⟩ x2).setCell ⟨b0,3,none⟩ x3).setCell ⟨b0,4,none⟩ x4) a b:=
 ((((h.set c).set c).set c).set c).set c
def RC(w:World)(b:Nat):Prop:=(w.cell? ⟨b,0,none⟩=some (.int .i64 0)/\w.cell? ⟨b,1,none⟩=some (.slice none 0 0)/\w.cell? ⟨b,2,none⟩=some (.string ⟨#[]⟩)/\w.cell? ⟨b,3,none⟩=some (.bool false)/\w.cell? ⟨b,4,none⟩=some (.string ⟨#[]⟩))/\w.frozen? ⟨b,0,none⟩=false/\w.frozen? ⟨b,1,none⟩=false/\w.frozen? ⟨b,2,none⟩=false/\w.frozen? ⟨b,3,none⟩=false/\w.frozen? ⟨b,4,none⟩=false
theorem RC.below{B:Nat}(h:RC w b)(k:Below B w w')(a:b<B):RC w' b:=by have e:∀j,w'.cell? ⟨b,j,none⟩=w.cell? ⟨b,j,none⟩:=λj=>k.cell (p:=⟨b,j,none⟩) a;have f:∀j,w'.frozen? ⟨b,j,none⟩=w.frozen? ⟨b,j,none⟩:=λj=>k.frozen (p:=⟨b,j,none⟩) a;unfold RC;rw[e,e,e,e,e,f,f,f,f,f];exact h
theorem RC.some(h:RC w b):(w.cell? ⟨b,0,none⟩).isSome=true/\(w.cell? ⟨b,1,none⟩).isSome=true/\(w.cell? ⟨b,2,none⟩).isSome=true/\(w.cell? ⟨b,3,none⟩).isSome=true/\(w.cell? ⟨b,4,none⟩).isSome=true:=by obtain⟨⟨a,c,d,e,f⟩,_⟩:=h;rw[a,c,d,e,f];exact⟨rfl,rfl,rfl,rfl,rfl⟩
theorem A9i{x:Obj}(a:b<w.heap.size)(h:∃x0 x1 x2 x3 x4,v=.agg #[x0,x1,x2,x3,x4]/\w.cell? ⟨b,0,none⟩=some x0/\w.cell? ⟨b,1,none⟩=some x1/\w.cell? ⟨b,2,none⟩=some x2/\w.cell? ⟨b,3,none⟩=some x3/\w.cell? ⟨b,4,none⟩=some x4):(loadVar 77 ⟨b,0,none⟩).run prog (w.alloc x)=.ok v (w.alloc x):=by obtain⟨x0,x1,x2,x3,x4,rfl,c,d,e,f,g⟩:=h;have k:Below w.heap.size w (w.alloc x):=(Below.refl _ w).alloc (Cz _) _;exact Ajg ((k.cell (p:=⟨b,0,none⟩) a).trans c) ((k.cell (p:=⟨b,1,none⟩) a).trans d) ((k.cell (p:=⟨b,2,none⟩) a).trans e) ((k.cell (p:=⟨b,3,none⟩) a).trans f) ((k.cell (p:=⟨b,4,none⟩) a).trans g)
theorem MX(w:World)(b:Nat)(a:b<w.heap.size)(x0 x1 x2 x3 x4:Value)(x:Obj)(h:RC w b):(loadVar 77 ⟨b,0,none⟩).run prog ((((((w.setCell ⟨b,0,none⟩ x0).setCell ⟨b,1,none⟩ x1).setCell ⟨b,2,none⟩ x2).setCell ⟨b,3,none⟩ x3).setCell ⟨b,4,none⟩ x4).alloc x)=.ok (.agg #[x0,x1,x2,x3,x4]) ((((((w.setCell ⟨b,0,none⟩ x0).setCell ⟨b,1,none⟩ x1).setCell ⟨b,2,none⟩ x2).setCell ⟨b,3,none⟩ x3).setCell ⟨b,4,none⟩ x4).alloc x):=by
 refine A9i (by simp only[fg];exact a) ⟨x0,x1,x2,x3,x4,rfl,?_⟩
 obtain⟨⟨c,d,e,f,g⟩,_⟩:=h;refine⟨?_,?_,?_,?_,?_⟩
 ·rw[Io Δ,Io Δ,Io Δ,Io Δ];exact ff _ _ _ c
 ·rw[Io Δ,Io Δ,Io Δ];exact ff _ _ _ ((Io Δ).trans d)
 ·rw[Io Δ,Io Δ];exact ff _ _ _ ((Io Δ).trans ((Io Δ).trans e))
 ·rw[Io Δ];exact ff _ _ _ ((Io Δ).trans ((Io Δ).trans ((Io Δ).trans f)))
 ·exact ff _ _ _ ((Io Δ).trans ((Io Δ).trans ((Io Δ).trans ((Io Δ).trans g))))
theorem Wm{B:Nat}{a:World}(h:Below B a w)(c:B<=b)(d:B<=w.heap.size)(x0 x1 x2 x3 x4:Value)(x:Obj):Below B a ((((((w.setCell ⟨b,0,none⟩ x0).setCell ⟨b,1,none⟩ x1).setCell ⟨b,2,none⟩ x2).setCell ⟨b,3,none⟩ x3).setCell ⟨b,4,none⟩ x4).alloc x):=
 have k:=Xa h c x0 x1 x2 x3 x4
 k.alloc (by simp only[fg];exact d) _
theorem RR.set5al{b:Ak}{x0 x1 x2 x3 x4:Value}{x:Obj}(h:RR w a b)(c:a.block≠b0):RR ((((((w.setCell ⟨b0,0,none⟩ x0).setCell ⟨b0,1,none⟩ x1).setCell ⟨b0,2,none⟩ x2).setCell ⟨b0,3,none⟩ x3).setCell ⟨b0,4,none⟩ x4).alloc x) a b:=
 have q:=h.set5 (x0:=x0) (x1:=x1) (x2:=x2) (x3:=x3) (x4:=x4) c
 q.below ((Below.refl _ _).alloc (Cz _) _) q.2.1
theorem al1(w:World)(x:Obj):(w.alloc x).heap[w.heap.size]?=some x:=fc
def okW(w:World):Prop:=gU.ok w/\∀k,gU.bl k->k<w.heap.size
theorem okW.below(h:okW w)(k:Below w.heap.size w w'):okW w':=⟨gU.stable w w' (λj a b=>k.block j b) h.1,λj a=>Iv (h.2 j a) k.size⟩
structure Hid(p:Prop):Prop where
 v:p
set_option maxHeartbeats 8000000 in
theorem A9f(Bo0:∀(W:World)(s:Ak),okW W->Ch s->s.length<=1000000->Calls prog 149 #[.string (Ab s)] W λe w'=>Below W.heap.size W w'/\DbP W w' s e)(Bkx:∀(W:World)(s:Ak),okW W->Ch s->s.length<=1000000->Calls prog 150 #[.string (Ab s)] W λe w'=>Below W.heap.size W w'/\∃o1 o2 o3,e=.returned (.tuple #[.agg #[.bool o1,.string o2,.int .i64 o3],.int .i64 (Hv s)]))(hB:∀m∈ms,Ch m.1)(hB2:∀m∈ms,Ch m.2.2.1/\m.2.2.1.length<=1000000)(hU:okW w)(z:AtM w mb ms):
  Calls prog 126 #[.map (some mb)] w λe w'=>Below w.heap.size w w'/\ItP w w' (S6 (Ca P6 ms) (Ca U0 ms) (Ca NF ms) (Ca UW ms) (Ca CF ms)) e:=by
 have A:∀nm,Ch (Ca nm ms).2.1/\(Ca nm ms).2.1.length<=1000000:=by
  intro nm;unfold Ca J8;cases hq:ms.find? λm=>m.1==nm with
  |none=>exact⟨(λx y=>nomatch y),jt _⟩
  |some m=>exact hB2 m (List.mem_of_find?_eq_some hq)
 obtain⟨hTB,hTL⟩:=A P6;obtain⟨hCB,hCL⟩:=A U0;obtain⟨hOB,hOL⟩:=A NF;obtain⟨hXB,hXL⟩:=A UW;obtain⟨hPB,hPL⟩:=A CF;clear A;have mixed:prog.follows Departure.mixedOrders=true:=Κ
 have d:∀{W:World},AtM W mb ms->(ft 176 (.map (some mb)) (.string ⟨#[116,121,112,101]⟩) false).run prog W=.ok (.agg #[.int .i64 (Ca P6 ms).1,.string (Ab (Ca P6 ms).2.1),.bool (Ca P6 ms).2.2]) W/\(ft 176 (.map (some mb)) (.string ⟨#[99,104,97,108,108,101,110,103,101]⟩) false).run prog W=.ok (.agg #[.int .i64 (Ca U0 ms).1,.string (Ab (Ca U0 ms).2.1),.bool (Ca U0 ms).2.2]) W/\(ft 176 (.map (some mb)) (.string ⟨#[111,114,105,103,105,110]⟩) false).run prog W=.ok (.agg #[.int .i64 (Ca NF ms).1,.string (Ab (Ca NF ms).2.1),.bool (Ca NF ms).2.2]) W:=
  λh=>⟨Aa8 h hB (nm:=P6) (λx y=>by simp[P6] at y;omega),Aa8 h hB (nm:=U0) (λx y=>by simp[U0] at y;omega),Aa8 h hB (nm:=NF) (λx y=>by simp[NF] at y;omega)⟩
 have key2:∀{W:World},AtM W mb ms->(ft 176 (.map (some mb)) (.string ⟨#[99,114,111,115,115,79,114,105,103,105,110]⟩) false).run prog W=.ok (.agg #[.int .i64 (Ca UW ms).1,.string (Ab (Ca UW ms).2.1),.bool (Ca UW ms).2.2]) W/\(ft 176 (.map (some mb)) (.string ⟨#[116,111,112,79,114,105,103,105,110]⟩) false).run prog W=.ok (.agg #[.int .i64 (Ca CF ms).1,.string (Ab (Ca CF ms).2.1),.bool (Ca CF ms).2.2]) W:=
  λh=>⟨Aa8 h hB (nm:=UW) (λx y=>by simp[UW] at y;omega),Aa8 h hB (nm:=CF) (λx y=>by simp[CF] at y;omega)⟩
 have b0:Below w.heap.size w (w.alloc (.cells #[.int .i64 0,.slice none 0 0,.string ⟨#[]⟩,.bool false,.string ⟨#[]⟩] 77)):=(Below.refl _ w).alloc (Cz _) _;have b1:=b0.alloc b0.size (.cells #[.int .i64 0,.string ⟨#[]⟩,.bool false] 213);have b2:=b1.alloc b1.size (.cells #[.int .i64 0,.string ⟨#[]⟩,.bool false] 213);have b3:=b2.alloc b2.size (.cells #[.int .i64 0,.string ⟨#[]⟩,.bool false] 213);obtain⟨k0,k1,k2⟩:=d (z.below b0.drew);obtain⟨l0,l1,l2⟩:=d (z.below b1.drew);obtain⟨m0,m1,m2⟩:=d (z.below b2.drew);obtain⟨n0,n1,n2⟩:=d (z.below b3.drew)
 have D:∀x1 N x3,Below w.heap.size w ((((w.alloc (.cells #[.int .i64 0,.slice none 0 0,.string ⟨#[]⟩,.bool false,.string ⟨#[]⟩] 77)).alloc x1).alloc N).alloc x3).drew:=λx1 N x3=>by
  have c1:=b0.alloc b0.size x1;have c2:=c1.alloc c1.size N;exact (c2.alloc c2.size x3).drew
 obtain⟨_,p1,q1⟩:=d (z.below (D (.cells #[.int .i64 (Ca P6 ms).1,.string (Ab (Ca P6 ms).2.1),.bool (Ca P6 ms).2.2] 213) (.cells #[.int .i64 0,.string ⟨#[]⟩,.bool false] 213) (.cells #[.int .i64 0,.string ⟨#[]⟩,.bool false] 213)));obtain⟨_,p2,q2⟩:=d (z.below (D (.cells #[.int .i64 0,.string ⟨#[]⟩,.bool false] 213) (.cells #[.int .i64 (Ca P6 ms).1,.string (Ab (Ca P6 ms).2.1),.bool (Ca P6 ms).2.2] 213) (.cells #[.int .i64 0,.string ⟨#[]⟩,.bool false] 213)));obtain⟨_,p3,q3⟩:=d (z.below (D (.cells #[.int .i64 0,.string ⟨#[]⟩,.bool false] 213) (.cells #[.int .i64 0,.string ⟨#[]⟩,.bool false] 213) (.cells #[.int .i64 (Ca P6 ms).1,.string (Ab (Ca P6 ms).2.1),.bool (Ca P6 ms).2.2] 213)))
 obtain⟨_,_,q4⟩:=d (z.below (D (.cells #[.int .i64 (Ca P6 ms).1,.string (Ab (Ca P6 ms).2.1),.bool (Ca P6 ms).2.2] 213) (.cells #[.int .i64 (Ca U0 ms).1,.string (Ab (Ca U0 ms).2.1),.bool (Ca U0 ms).2.2] 213) (.cells #[.int .i64 0,.string ⟨#[]⟩,.bool false] 213)));obtain⟨_,_,q5⟩:=d (z.below (D (.cells #[.int .i64 (Ca P6 ms).1,.string (Ab (Ca P6 ms).2.1),.bool (Ca P6 ms).2.2] 213) (.cells #[.int .i64 0,.string ⟨#[]⟩,.bool false] 213) (.cells #[.int .i64 (Ca U0 ms).1,.string (Ab (Ca U0 ms).2.1),.bool (Ca U0 ms).2.2] 213)));obtain⟨_,_,q6⟩:=d (z.below (D (.cells #[.int .i64 (Ca U0 ms).1,.string (Ab (Ca U0 ms).2.1),.bool (Ca U0 ms).2.2] 213) (.cells #[.int .i64 (Ca P6 ms).1,.string (Ab (Ca P6 ms).2.1),.bool (Ca P6 ms).2.2] 213) (.cells #[.int .i64 0,.string ⟨#[]⟩,.bool false] 213)))
 obtain⟨_,_,q7⟩:=d (z.below (D (.cells #[.int .i64 (Ca U0 ms).1,.string (Ab (Ca U0 ms).2.1),.bool (Ca U0 ms).2.2] 213) (.cells #[.int .i64 0,.string ⟨#[]⟩,.bool false] 213) (.cells #[.int .i64 (Ca P6 ms).1,.string (Ab (Ca P6 ms).2.1),.bool (Ca P6 ms).2.2] 213)));obtain⟨_,_,q8⟩:=d (z.below (D (.cells #[.int .i64 0,.string ⟨#[]⟩,.bool false] 213) (.cells #[.int .i64 (Ca P6 ms).1,.string (Ab (Ca P6 ms).2.1),.bool (Ca P6 ms).2.2] 213) (.cells #[.int .i64 (Ca U0 ms).1,.string (Ab (Ca U0 ms).2.1),.bool (Ca U0 ms).2.2] 213)));obtain⟨_,_,q9⟩:=d (z.below (D (.cells #[.int .i64 0,.string ⟨#[]⟩,.bool false] 213) (.cells #[.int .i64 (Ca U0 ms).1,.string (Ab (Ca U0 ms).2.1),.bool (Ca U0 ms).2.2] 213) (.cells #[.int .i64 (Ca P6 ms).1,.string (Ab (Ca P6 ms).2.1),.bool (Ca P6 ms).2.2] 213)))
 have hbb:∀x1 N x3,Below w.heap.size w ((((w.alloc cd0).alloc x1).alloc N).alloc x3).drew:=D;clear d D;generalize Ca P6 ms=vT at *
 generalize Ca U0 ms=vC at *
 generalize Ca NF ms=vO at *
 generalize Ca UW ms=vX at *
 generalize Ca CF ms=vP at *
 go_enter Tryz.func126,Tryz.ntmps126
 go_upto_region 1 with fail
 go_cut [4,5,6] (λs4 s5 s6 O=>Bq3 w vT vC vO s4 s5 s6 O)
 case first=>
  go_region_o
  all_goals (go_wp2_with fail;go_meet;(refine⟨_,_,_,rfl,rfl,rfl,Ω,Ω,Ω,?_,?_,?_,?_,hbb _ _ _⟩<;>first|exact (al4 _ _ _ _ _).1|exact (al4 _ _ _ _ _).2.1|exact (al4 _ _ _ _ _).2.2.1|exact (al4 _ _ _ _ _).2.2.2))
 case rest=>
  rename World=>k
  obtain⟨bT,bC,bO,rfl,rfl,rfl,hbT,P,hbO,hc,hT,hC,hO,hbw⟩:=hcut;clear k0 k1 k2 l0 l1 l2 m0 m1 m2 n0 n1 n2 p1 p2 p3 q1 q2 q3 q4 q5 q6 q7 q8 q9;have E:=z.below hbw;have d1:Below k.heap.size k (k.alloc (.cells #[.int .i64 0,.string ⟨#[]⟩,.bool false] 213)):=(Below.refl _ k).alloc (Cz _) _;have d2:=d1.alloc d1.size (.cells #[.int .i64 0,.string ⟨#[]⟩,.bool false] 213)
  have dd:∀x1 N,Below k.heap.size k ((k.alloc x1).alloc N).drew:=λx1 N=>by
   have c1:Below k.heap.size k (k.alloc x1):=(Below.refl _ k).alloc (Cz _) _;exact (c1.alloc c1.size N).drew
  obtain⟨k0,k1⟩:=key2 (E.below (Below.refl k.heap.size k).drew);obtain⟨l0,l1⟩:=key2 (E.below d1.drew);obtain⟨m0,m1⟩:=key2 (E.below d2.drew);obtain⟨_,p1⟩:=key2 (E.below (dd (.cells #[.int .i64 vX.1,.string (Ab vX.2.1),.bool vX.2.2] 213) (.cells #[.int .i64 0,.string ⟨#[]⟩,.bool false] 213)));obtain⟨_,p2⟩:=key2 (E.below (dd (.cells #[.int .i64 0,.string ⟨#[]⟩,.bool false] 213) (.cells #[.int .i64 vX.1,.string (Ab vX.2.1),.bool vX.2.2] 213)));clear key2
  go_upto_region 2 with fail
  go_cut [7,8] (λs7 s8 O=>Bm4 w k vX vP s7 s8 O)
  case first=>
   go_region_o
   all_goals (go_wp2_with fail;go_meet;(refine⟨_,_,rfl,rfl,Ω,Ω,?_,?_,dd _ _⟩<;>first|exact (al2 _ _ _).1|exact (al2 _ _ _).2))
  case rest=>
   clear k0 k1 l0 l1 m0 m1 p1 p2;obtain⟨bX,bP,rfl,rfl,hbX,hbP,hX,hP,Akd⟩:=hcut
   rename World=>wd
   have hwc:w.heap.size<k.heap.size:=by
    rcases Kp w.heap.size k.heap.size with q|q
    ·exact q
    ·rw[xa q] at hc;cases hc
   have Ct:∀{b:Nat} {o:Obj},k.heap[b]?=some o->b<k.heap.size:=λ{b o} h=>by
    rcases Kp b k.heap.size with q|q
    ·exact q
    ·rw[xa q] at h;cases h
   obtain⟨⟨c0,c1,c2,c3,c4⟩,f0,f1,f2,f3,f4⟩:=A03 ((Akd.block _ (Ct hc)).trans hc);have hrc:RC wd w.heap.size:=⟨⟨c0,c1,c2,c3,c4⟩,f0,f1,f2,f3,f4⟩
   have G:=hrc.some;obtain⟨T0,T1,T2⟩:=Abx ((Akd.block _ (Ct hT)).trans hT);obtain⟨C0,C1,C2⟩:=Abx ((Akd.block _ (Ct hC)).trans hC);obtain⟨O0,O1,O2⟩:=Abx ((Akd.block _ (Ct hO)).trans hO);obtain⟨X0,X1,X2⟩:=Abx hX;obtain⟨P0,P1,P2⟩:=Abx hP;have l:Below w.heap.size w wd:=hbw.trans ((Akd).mono hbw.size);by_cases hT4:vT.1=4
   rotate_left
   ·have hq:(vT.1 != 4)=true:=by simp[hT4]
    have g:S6 vT vC vO vX vP=.error 4:=by unfold S6;rw[Bv (.inl hT4)]
    rename Exit->Act->World->Prop=>i;clear_value (c:i=_)
    replace c:=Hid.mk c
    go_wp2
    (try simp only[n8,Exit.then]);rw[c.v]
    exact AQ (b:=w.heap.size) rfl rfl (Adr wd w.heap.size _ _ _ _ _ G) ⟨Xa l (Cz _) _ _ _ _ _,by rw[g];exact⟨Δ,rfl⟩⟩
   by_cases hC4:vC.1=4
   rotate_left
   ·have hq:(vC.1 != 4)=true:=by simp[hC4]
    have g:S6 vT vC vO vX vP=.error 4:=by unfold S6;rw[Bv (.inr (.inl hC4))]
    rename Exit->Act->World->Prop=>i;clear_value (c:i=_)
    replace c:=Hid.mk c
    go_wp2
    (try simp only[n8,Exit.then]);rw[c.v]
    exact AQ (b:=w.heap.size) rfl rfl (Adr wd w.heap.size _ _ _ _ _ G) ⟨Xa l (Cz _) _ _ _ _ _,by rw[g];exact⟨Δ,rfl⟩⟩
   by_cases hO4:vO.1=4
   rotate_left
   ·have hq:(vO.1 != 4)=true:=by simp[hO4]
    have g:S6 vT vC vO vX vP=.error 4:=by unfold S6;rw[Bv (.inr (.inr hO4))]
    rename Exit->Act->World->Prop=>i;clear_value (c:i=_)
    replace c:=Hid.mk c
    go_wp2
    (try simp only[n8,Exit.then]);rw[c.v]
    exact AQ (b:=w.heap.size) rfl rfl (Adr wd w.heap.size _ _ _ _ _ G) ⟨Xa l (Cz _) _ _ _ _ _,by rw[g];exact⟨Δ,rfl⟩⟩
   have XX:S6 vT vC vO vX vP=if vX.1≠0/\vX.1≠2 then .error 4
    else if (vX.2.2=true/\vP.1≠4)\/(vX.2.2=false/\vP.1≠0) then .error 4
    else if vT.2.1=tyC then OS 1 vC vO vX vP else if vT.2.1=tyG then OS 2 vC vO vX vP else .error 3:=by
    unfold S6;rw[Bd (by rintro (h|h|h)<;>first|exact h hT4|exact h hC4|exact h hO4)]
   go_upto_region 5 with fail
   go_cut [47] (λs47 O=>∃q:Bool,s47=.bool q/\(q=true↔(vX.1≠0/\vX.1≠2))/\O=wd)
   case first=>
    by_cases h0:vX.1=0
    ·have h1:(vX.1 != 0)=false:=by simp[h0]
     go_wp2_with fail
     go_meet
     exact⟨false,rfl,by simp[h0],rfl⟩
    ·have h1:(vX.1 != 0)=true:=by simp[h0]
     by_cases h2:vX.1=2
     ·have h3:(vX.1 != 2)=false:=by simp[h2]
      go_wp2_with fail
      go_meet
      exact⟨false,rfl,by simp[h2],rfl⟩
     ·have h3:(vX.1 != 2)=true:=by simp[h2]
      go_wp2_with fail
      go_meet
      exact⟨true,rfl,by simp[h0,h2],rfl⟩
   case rest=>
    obtain⟨q5,rfl,hq5,H⟩:=hcut;subst H;cases q5 with
    |true=>
     have Q:=hq5.1 rfl;have g:S6 vT vC vO vX vP=.error 4:=by rw[XX,Bv Q]
     rename Exit->Act->World->Prop=>i;clear_value (c:i=_)
     replace c:=Hid.mk c
     go_wp2
     (try simp only[n8,Exit.then]);rw[c.v]
     exact AQ (b:=w.heap.size) rfl rfl (Adr wc w.heap.size _ _ _ _ _ G) ⟨Xa l (Cz _) _ _ _ _ _,by rw[g];exact⟨Δ,rfl⟩⟩
    |false=>
     have Q:¬(vX.1≠0/\vX.1≠2):=λh=>fp (hq5.2 h);rw[Bd Q] at XX
     go_upto_region 7 with fail
     go_cut [65] (λs65 O=>∃q:Bool,s65=.bool q/\(q=true↔((vX.2.2=true/\vP.1≠4)\/(vX.2.2=false/\vP.1≠0)))/\O=wc)
     case first=>
      cases f:vX.2.2 with
      |true=>
       rw[f] at X2;by_cases R:vP.1=4
       ·have h1:(vP.1 != 4)=false:=by simp[R]
        go_wp2_with fail
        go_meet
        exact⟨false,rfl,by simp[R,f],rfl⟩
       ·have h1:(vP.1 != 4)=true:=by simp[R]
        go_wp2_with fail
        go_meet
        exact⟨true,rfl,by simp[R,f],rfl⟩
      |false=>
       rw[f] at X2;by_cases R:vP.1=0
       ·have h1:(vP.1 != 0)=false:=by simp[R]
        go_wp2_with fail
        go_meet
        exact⟨false,rfl,by simp[R,f],rfl⟩
       ·have h1:(vP.1 != 0)=true:=by simp[R]
        go_wp2_with fail
        go_meet
        exact⟨true,rfl,by simp[R,f],rfl⟩
     case rest=>
      obtain⟨q7,rfl,hq7,H⟩:=hcut;subst H;cases q7 with
      |true=>
       have DP:=hq7.1 rfl;have g:S6 vT vC vO vX vP=.error 4:=by rw[XX,Bv DP]
       rename Exit->Act->World->Prop=>i;clear_value (c:i=_)
       replace c:=Hid.mk c
       go_wp2
       (try simp only[n8,Exit.then]);rw[c.v]
       exact AQ (b:=w.heap.size) rfl rfl (Adr wc w.heap.size _ _ _ _ _ G) ⟨Xa l (Cz _) _ _ _ _ _,by rw[g];exact⟨Δ,rfl⟩⟩
      |false=>
       have DP:¬((vX.2.2=true/\vP.1≠4)\/(vX.2.2=false/\vP.1≠0)):=λh=>fp (hq7.2 h);rw[Bd DP] at XX;clear hq5 hq7 Q DP;have S:w.heap.size<wc.heap.size:=Iv hwc Akd.size;have Bvt:bT<wc.heap.size:=Iv (Ct hT) Akd.size;have Bwq:bC<wc.heap.size:=Iv (Ct hC) Akd.size;have P:((Ab vT.2.1).toList==[112,97,115,115,107,101,121,46,99,114,101,97,116,101])=decide (vT.2.1=tyC):=Acg hTB (b:=tyC) (λx y=>by simp[tyC] at y;omega)
       have T:((Ab vT.2.1).toList==[112,97,115,115,107,101,121,46,103,101,116])=decide (vT.2.1=tyG):=Acg hTB (b:=tyG) (λx y=>by simp[tyG] at y;omega)
       rename World=>wB
       go_upto_block 0 with fail
       go_cut [9] (λs9 O=>∃K:Int,S6 vT vC vO vX vP=OS K vC vO vX vP/\s9=.pointer (some ⟨wB.heap.size,0,none⟩)/\O=wB.alloc (.cells #[.int .i64 K,.slice none 0 0,.string (Ab vO.2.1),.bool vX.2.2,.string (Ab vP.2.1)] 77))
       case first=>
        by_cases B:vT.2.1=tyC
        rotate_left
        ·rw[decide_eq_false B] at P;rw[Bd B] at XX;by_cases J:vT.2.1=tyG
         rotate_left
         ·rw[decide_eq_false J] at T;have g:S6 vT vC vO vX vP=.error 3:=by rw[XX,Bd J]
          rename Exit->Act->World->Prop=>i;clear_value (c:i=_)
          replace c:=Hid.mk c
          go_wp2
          (try simp only[n8,Exit.then]);rw[c.v]
          exact AQ (b:=w.heap.size) rfl rfl (MX wB w.heap.size S _ _ _ _ _ _ hrc) ⟨Wm l (Cz _) l.size _ _ _ _ _ _,by rw[g];exact⟨Δ,rfl⟩⟩
         ·rw[decide_eq_true J] at T;rw[Bv J] at XX;clear J B
          go_wp2_with fail
          go_meet
          exact⟨2,XX,rfl,rfl⟩
        ·rw[decide_eq_true B] at P;rw[Bv B] at XX;clear B T
         go_wp2_with fail
         go_meet
         exact⟨1,XX,rfl,rfl⟩
       case rest=>
        clear XX P T;obtain⟨K,XX,rfl,H⟩:=hcut;subst H
        rename World=>wc
        have hbA:=l.alloc l.size (.cells #[.int .i64 K,.slice none 0 0,.string (Ab vO.2.1),.bool vX.2.2,.string (Ab vP.2.1)] 77);have U:(wc.alloc (.cells #[.int .i64 K,.slice none 0 0,.string (Ab vO.2.1),.bool vX.2.2,.string (Ab vP.2.1)] 77)).heap.size=wc.heap.size+1:=fa _;have hkA:=al1 wc (.cells #[.int .i64 K,.slice none 0 0,.string (Ab vO.2.1),.bool vX.2.2,.string (Ab vP.2.1)] 77);have hrA:=hrc.below ((Below.refl wc.heap.size wc).alloc (Cz _) (.cells #[.int .i64 K,.slice none 0 0,.string (Ab vO.2.1),.bool vX.2.2,.string (Ab vP.2.1)] 77)) S
        go_wp2_with (go_at_call 149;refine (Bo0 _ vC.2.1 (hU.below hbA) hCB hCL).mono ?_)
        rintro e n ⟨SM,L⟩
        have Ain:Below w.heap.size w n:=hbA.trans (SM.mono hbA.size);have hr3:=hrA.below SM (by rw[U];omega)
        have hm3:=hr3.some;obtain⟨⟨r30,r31,r32,r33,r34⟩,s30,s31,s32,s33,s34⟩:=hr3;have hs3:wc.heap.size+1<=n.heap.size:=by have:=SM.size;rw[U] at this;exact this
        have Tl:=(SM.block _ (by rw[U];omega)).trans hkA
        obtain⟨⟨k0,k1,k2,k3,k4⟩,kf0,kf1,kf2,kf3,kf4⟩:=Bdr Tl;unfold DbP at L;cases C:Nr vC.2.1 with
        |none=>
         rw[C] at L;obtain⟨ad,capN,rfl⟩:=L;have g:S6 vT vC vO vX vP=.error 2:=by rw[XX];unfold OS;rw[C]
         rename Exit->Act->World->Prop=>i;clear_value (c:i=_)
         replace c:=Hid.mk c
         go_wp2
         (try simp only[n8,Exit.then]);rw[c.v]
         exact AQ (b:=w.heap.size) rfl rfl (Adr n w.heap.size _ _ _ _ _ hm3) ⟨Xa Ain (Cz _) _ _ _ _ _,by rw[g];exact⟨Δ,rfl⟩⟩
        |some b=>
         rw[C] at L;obtain⟨ad,cap,rfl,O3⟩:=L;by_cases G2:b.length<1
         ·have g:S6 vT vC vO vX vP=.error 9:=by rw[XX];unfold OS;rw[C];simp only;rw[Bv (.inl G2)]
          have XG:(b.length:Int)<1:=Ω
          rename Exit->Act->World->Prop=>i;clear_value (c:i=_)
          replace c:=Hid.mk c
          go_wp2
          (try simp only[n8,Exit.then]);rw[c.v]
          exact AQ (b:=w.heap.size) rfl rfl (Adr n w.heap.size _ _ _ _ _ hm3) ⟨Xa Ain (Cz _) _ _ _ _ _,by rw[g];exact⟨Δ,rfl⟩⟩
         by_cases Ke:64<b.length
         ·have g:S6 vT vC vO vX vP=.error 9:=by rw[XX];unfold OS;rw[C];simp only;rw[Bv (.inr Ke)]
          have XG:¬(b.length:Int)<1:=Ω
          have Td:(b.length:Int)>64:=Ω
          rename Exit->Act->World->Prop=>i;clear_value (c:i=_)
          replace c:=Hid.mk c
          go_wp2
          (try simp only[n8,Exit.then]);rw[c.v]
          exact AQ (b:=w.heap.size) rfl rfl (Adr n w.heap.size _ _ _ _ _ hm3) ⟨Xa Ain (Cz _) _ _ _ _ _,by rw[g];exact⟨Δ,rfl⟩⟩
         have XG:¬(b.length:Int)<1:=Ω
         have Td:¬(b.length:Int)>64:=Ω
         obtain⟨a,rfl,hac,haw,hla⟩:=O3 (by rintro rfl;exact G2 Δ)
         have Bw3:wc.heap.size+1<=a.block:=by rw[U] at haw;exact haw
         have M:S6 vT vC vO vX vP=if Hv vO.2.1≠0 then .error (Hv vO.2.1) else if vX.2.2=true/\Hv vP.2.1≠0 then .error (Hv vP.2.1) else .ok (K,b,vO.2.1,vX.2.2,vP.2.1):=by
          rw[XX];unfold OS;rw[C];simp only;rw[Bd Ω]
         have Ako:Below w.heap.size w (n.setCell ⟨wc.heap.size,1,none⟩ (.slice (some a) b.length cap)):=Ain.setCell (p:=⟨wc.heap.size,1,none⟩) (Nat.le_of_lt S) _;have Bmq:Below wc.heap.size n (n.setCell ⟨wc.heap.size,1,none⟩ (.slice (some a) b.length cap)):=(Below.refl wc.heap.size n).setCell (p:=⟨wc.heap.size,1,none⟩) (Cz _) _;have hr4:=(show RC n w.heap.size from ⟨⟨r30,r31,r32,r33,r34⟩,s30,s31,s32,s33,s34⟩).below Bmq S;have Bo4:=hla.set (b0:=wc.heap.size) (j:=1) (v:=.slice (some a) b.length cap) Ω;have V:(n.setCell ⟨wc.heap.size,1,none⟩ (.slice (some a) b.length cap)).heap.size=n.heap.size:=fg ..;have j0:(n.setCell ⟨wc.heap.size,1,none⟩ (.slice (some a) b.length cap)).cell? ⟨wc.heap.size,0,none⟩=some (.int .i64 K):=(Io Δ).trans k0
         have j1:(n.setCell ⟨wc.heap.size,1,none⟩ (.slice (some a) b.length cap)).cell? ⟨wc.heap.size,1,none⟩=some (.slice (some a) b.length cap):=ff _ _ _ k1;have j2:(n.setCell ⟨wc.heap.size,1,none⟩ (.slice (some a) b.length cap)).cell? ⟨wc.heap.size,2,none⟩=some (.string (Ab vO.2.1)):=(Io Δ).trans k2;have j3:(n.setCell ⟨wc.heap.size,1,none⟩ (.slice (some a) b.length cap)).cell? ⟨wc.heap.size,3,none⟩=some (.bool vX.2.2):=(Io Δ).trans k3;have j4:(n.setCell ⟨wc.heap.size,1,none⟩ (.slice (some a) b.length cap)).cell? ⟨wc.heap.size,4,none⟩=some (.string (Ab vP.2.1)):=(Io Δ).trans k4
         go_wp2_with (go_at_call 150;refine (Bkx _ vO.2.1 (hU.below Ako) hOB hOL).mono ?_)
         rintro e t ⟨r,o1,o2,o3,rfl⟩
         have hs5:n.heap.size<=t.heap.size:=by have:=r.size;rw[V] at this;exact this
         have Av6:Below w.heap.size w t:=Ako.trans (r.mono Ako.size);have X:=hr4.below r (by rw[V];omega)
         have Bo5:=X;obtain⟨⟨r50,r51,r52,r53,r54⟩,s50,s51,s52,s53,s54⟩:=Bo5;have hw5:w.heap.size<t.heap.size:=Ω
         have hc5:wc.heap.size<t.heap.size:=Ω
         have Bb7:=Bo4.below r (by rw[V];exact hla.2.1)
         have Sf:wc.heap.size<(n.setCell ⟨wc.heap.size,1,none⟩ (.slice (some a) b.length cap)).heap.size:=by rw[V];omega
         have i0:=(r.cell (p:=⟨wc.heap.size,0,none⟩) Sf).trans j0;have i1:=(r.cell (p:=⟨wc.heap.size,1,none⟩) Sf).trans j1;have i2:=(r.cell (p:=⟨wc.heap.size,2,none⟩) Sf).trans j2;have i3:=(r.cell (p:=⟨wc.heap.size,3,none⟩) Sf).trans j3;have i4:=(r.cell (p:=⟨wc.heap.size,4,none⟩) Sf).trans j4;have Y:=(Below.refl t.heap.size t).alloc (Cz _) (.cells #[.bool o1,.string o2,.int .i64 o3] 105);have Bdo:Below w.heap.size w (t.alloc (.cells #[.bool o1,.string o2,.int .i64 o3] 105)):=Av6.alloc Av6.size _;by_cases ho:Hv vO.2.1=0
         rotate_left
         ·have hoB:(Hv vO.2.1 != 0)=true:=by simp[ho]
          have g:S6 vT vC vO vX vP=.error (Hv vO.2.1):=by rw[M,Bv ho]
          rename Exit->Act->World->Prop=>i;clear_value (c:i=_)
          replace c:=Hid.mk c
          go_wp2
          (try simp only[n8,Exit.then]);rw[c.v]
          exact AQ (b:=w.heap.size) rfl rfl (MX t w.heap.size hw5 _ _ _ _ _ _ X) ⟨Wm Av6 (Cz _) Av6.size _ _ _ _ _ _,by rw[g];exact⟨ho,rfl⟩⟩
         have hoB:(Hv vO.2.1 != 0)=false:=by simp[ho]
         rw[Bd (by simp[ho])] at M;have Bh4:=Bb7.below Y (by have:=Bb7.2.1;exact this)
         cases f:vX.2.2 with
         |false=>
          rw[f] at i3;have g:S6 vT vC vO vX vP=.ok (K,b,vO.2.1,false,vP.2.1):=by rw[M,Bd (by simp[f]),f]
          rename Exit->Act->World->Prop=>i;clear_value (c:i=_)
          replace c:=Hid.mk c
          go_wp2
          (try simp only[n8,Exit.then]);rw[c.v]
          exact AQ (b:=w.heap.size) rfl rfl (MX t w.heap.size hw5 _ _ _ _ _ _ X) ⟨Wm Av6 (Cz _) Av6.size _ _ _ _ _ _,by rw[g];exact⟨a,cap,rfl,hac,Ω,Bb7.set5al Ω⟩⟩
         |true=>
          rw[f] at i3
          go_wp2_with (go_at_call 150;refine (Bkx _ vP.2.1 (hU.below Bdo) hPB hPL).mono ?_)
          rintro e W7 ⟨Z,p1,p2,p3,rfl⟩
          have hsL:(t.alloc (.cells #[.bool o1,.string o2,.int .i64 o3] 105)).heap.size=t.heap.size+1:=fa _;have Avx:Below w.heap.size w W7:=Bdo.trans (Z.mono Bdo.size);have hr7:=(X.below Y hw5).below Z (by rw[hsL];omega)
          have Bpa:=hr7;obtain⟨⟨r70,r71,r72,r73,r74⟩,s70,s71,s72,s73,s74⟩:=Bpa;have Bcr:=Bh4.below Z (by have:=Bh4.2.1;exact this)
          have Avk:=(Y.trans (Z.mono Y.size))
          have l0:=(Avk.cell (p:=⟨wc.heap.size,0,none⟩) (show wc.heap.size<t.heap.size by omega)).trans i0;have l1:=(Avk.cell (p:=⟨wc.heap.size,1,none⟩) (show wc.heap.size<t.heap.size by omega)).trans i1;have l2:=(Avk.cell (p:=⟨wc.heap.size,2,none⟩) (show wc.heap.size<t.heap.size by omega)).trans i2;have l3:=(Avk.cell (p:=⟨wc.heap.size,3,none⟩) (show wc.heap.size<t.heap.size by omega)).trans i3;have l4:=(Avk.cell (p:=⟨wc.heap.size,4,none⟩) (show wc.heap.size<t.heap.size by omega)).trans i4;have hs7:=Avk.size;have hw7:w.heap.size<W7.heap.size:=Ω
          have hc7:wc.heap.size<W7.heap.size:=Ω
          have hbM:=(Below.refl W7.heap.size W7).alloc (Cz _) (.cells #[.bool p1,.string p2,.int .i64 p3] 105);have Bvk:Below w.heap.size w (W7.alloc (.cells #[.bool p1,.string p2,.int .i64 p3] 105)):=Avx.alloc Avx.size _;by_cases hp:Hv vP.2.1=0
          rotate_left
          ·have hoB:(Hv vP.2.1 != 0)=true:=by simp[hp]
           have g:S6 vT vC vO vX vP=.error (Hv vP.2.1):=by rw[M,Bv ⟨f,hp⟩]
           rename Exit->Act->World->Prop=>i;clear_value (c:i=_)
           replace c:=Hid.mk c
           go_wp2
           (try simp only[n8,Exit.then]);rw[c.v]
           exact AQ (b:=w.heap.size) rfl rfl (MX W7 w.heap.size hw7 _ _ _ _ _ _ hr7) ⟨Wm Avx (Cz _) Avx.size _ _ _ _ _ _,by rw[g];exact⟨hp,rfl⟩⟩
          have hpB:(Hv vP.2.1 != 0)=false:=by simp[hp]
          have Bxh:=Bcr.below hbM (by have:=Bcr.2.1;exact this)
          have g:S6 vT vC vO vX vP=.ok (K,b,vO.2.1,true,vP.2.1):=by rw[M,Bd (by simp[hp]),f]
          rename Exit->Act->World->Prop=>i;clear_value (c:i=_)
          replace c:=Hid.mk c
          go_wp2
          (try simp only[n8,Exit.then]);rw[c.v]
          exact AQ (b:=w.heap.size) rfl rfl (MX W7 w.heap.size hw7 _ _ _ _ _ _ hr7) ⟨Wm Avx (Cz _) Avx.size _ _ _ _ _ _,by rw[g];exact⟨a,cap,rfl,hac,Ω,Bcr.set5al Ω⟩⟩
end
section
open Go Go.RowKit Go.Lib
def OkT(L:Nat)(s:Ak):Prop:=Ch s/\s.length<=4*L
theorem Ab2:∀(n:Nat)(a l s q:Ak),Ch l->Kj n a l=(some s,q)->s.length<=a.length+4*l.length
  |0,_,_,_,_,_,h=>by cases h
  |_+1,_,[],_,_,_,h=>by cases h
  |n+1,a,c::l,s,q,d,h=>by
    have e:Kj (n+1) a (c::l)=if c<32 then (none,c::l) else if c=34 then (some a,l) else if c=92 then
        (match O6 l with
         |(some x,r')=>Kj n (a++b6 x) r'
         |(none,r')=>(none,r')) else Kj n (a++[c]) l:=rfl
    have Uk:=Ck d
    rw[e] at h
    split at h
    · cases h
    split at h
    · cases h;simp
    split at h
    · have b:=BU (D5.self Uk.2)
      rcases f:O6 l with⟨o,r⟩
      rw[f] at b h
      cases o with
      |none=>cases h
      |some x=>
        have:=Ab2 n _ r s q b.B h
        have g:=Lib.encodeRuneZ_length x
        have i:r.length<=l.length:=b.le
        simp at this ⊢
        omega
    · have:=Ab2 n _ l s q Uk.2 h
      simp at this ⊢
      omega
theorem Am0{s q:Ak}(a:Ch l)(h:D1 l=(some s,q)):OkT l.length s:=by
 refine⟨Ahh a h,?_⟩;cases l with
 |nil=>cases h
 |cons c l=>
  have e:D1 (c::l)=if c=34 then Kj (l.length+1) [] l else (none,c::l):=rfl
  rw[e] at h;split at h
  ·have:=Ab2 _ _ _ _ _ (Ck a).2 h;simp at this ⊢;omega
  ·cases h
theorem OkT.mono{L M:Nat}{s:Ak}(h:OkT L s)(a:L<=M):OkT M s:=⟨h.1,by have:=h.2;omega⟩
theorem OkT.nil(L:Nat):OkT L []:=⟨(λx a=>nomatch a),jt _⟩
theorem A14{v:JV}(b:Ch l)(c:l.length<=1000000)(h:Dc 8 l=.ok (v,r)):D5 (Ab l) r:=by
 obtain⟨e,_,a⟩:=A2u (u:=1000001) (d:=0) (t:=Ab l) (by rw[Ai];exact c) (by rw[Ai];omega) 8 1 Ω Ω l (D5.self b)
 rw[h] at a;exact a.1
theorem A7u:∀{k:Nat}{l r:Ak}{v:JV},Ch l->Dc k l=.ok (v,r)->OkT l.length v.2.1:=by
 intro k l r v b h;unfold Dc at h;split at h
 ·split at h
  ·cases h
  ·split at h
   ·cases h
   ·cases h;exact OkT.nil _
 ·split at h
  ·cases h
  ·split at h
   ·cases h
   ·cases h;exact OkT.nil _
 ·rename_i c;unfold QS at h;rcases a:D1 (34::c) with⟨o,q⟩;rw[a] at h;cases o with
  |none=>cases h
  |some s=>cases h;exact Am0 b a
 ·repeat' split at h
  all_goals first|(cases h;exact OkT.nil _)|cases h
theorem A7y{L:Nat}(G:L<=1000000):∀(n:Nat)(ms:List (Ak × JV)) (l r:Ak)(ms':List (Ak × JV)),Ch l->l.length<=L->(∀m∈ms,OkT L m.1/\OkT L m.2.2.1)->Ra (Dc 8) true n ms l=.ok (ms',r)->∀m∈ms',OkT L m.1/\OkT L m.2.2.1:=by
 intro n
 induction n with
 |zero=>intro ms l r ms' _ _ _ h;cases h
 |succ n z=>
  intro ms l r ms' p A B h;rw[Lu] at h;rcases f:D1 l with⟨o,q⟩;rw[f] at h;cases o with
  |none=>cases h
  |some C=>
   have XO:=Am0 p f;have s:=H8 (D5.self p);rw[f] at s;simp only at h;split at h
   ·cases h
   cases g:Az [58] (Aw q) with
   |none=>rw[g] at h;cases h
   |some D=>
    rw[g] at h;have a:=Cd (B3 (Cd s) g);simp only at h;cases d:Dc 8 (Aw D) with
    |error e=>rw[d] at h;cases h
    |ok x=>
     obtain⟨v,t⟩:=x;rw[d] at h;have JJ:=a.le;have i:=A7u a.B d;have j:=a.trans (A14 a.B Ω d)
     have w:∀m∈ms++[(C,v)],OkT L m.1/\OkT L m.2.2.1:=by
      intro m b;rcases B8.1 b with b|b
      ·exact B m b
      ·simp at b;subst b;exact⟨XO.mono A,i.mono Ω⟩
     simp only at h;cases y:Az [125] (Aw t) with
     |some E=>rw[y] at h;cases h;exact w
     |none=>
      rw[y] at h;simp only at h;cases k:Az [44] (Aw t) with
      |none=>rw[k] at h;cases h
      |some E=>
       rw[k] at h;have c:=Cd (B3 (Cd j) k);exact z _ _ _ _ c.B (by have:=c.le;omega) w h
theorem As4(g:Ch l)(i:l.length<=1000000)(h:XM 8 l=.ok ms):∀m∈ms,OkT l.length m.1/\OkT l.length m.2.2.1:=by
 rw[Vi] at h;have j:=Cd (D5.self g);cases b:Az [123] (Aw l) with
 |none=>rw[b] at h;cases h
 |some r=>
  rw[b] at h;have k:=B3 j b;simp only at h;rw[Ol] at h;have a:=Cd k;cases f:Az [125] (Aw r) with
  |some r'=>
   rw[f] at h;simp only at h;split at h
   ·cases h;exact λm c=>by cases c
   ·cases h
  |none=>
   rw[f] at h;simp only at h;cases d:Ra (Dc 8) true ((Aw r).length+1) [] (Aw r) with
   |error e=>rw[d] at h;cases h
   |ok x=>
    obtain⟨n,r'⟩:=x;rw[d] at h;simp only at h;split at h
    ·cases h;exact A7y i _ _ _ _ _ a.B a.le (λm c=>by cases c) d
    ·cases h
def VH(ms:List (Ak × JV)):JR CD:=S6 (Ca P6 ms) (Ca U0 ms) (Ca NF ms) (Ca UW ms) (Ca CF ms)
def L4(t:ByteArray):JR CD:=
 if 1024<t.size then .error 8 else if fh t.data.toList=false then .error 6 else match XM 8 (Cp t) with
  |.error e=>.error e
  |.ok a=>VH a
theorem A86{G:MD}{args vals:Ae}{us rs:List Value}(g:Ep G P f args ⟨vals,[]⟩)(l:B4 Aai args us)(m:B4 Aai vals rs)(n:G.ok w)(c:∀k,G.bl k->k<w.heap.size):Calls P f us.toArray w λe w'=>e=.returned (J1 rs)/\Below w.heap.size w w':=by
 have hi:Ins w (λ_=>False) Ai3 args us:=⟨λ_ h=>h.elim,λ_ h=>h.elim,λk h=>absurd h (Yd k),λi j r s b o t h=>(by cases h),λi q h=>(by cases h),QK l⟩
 refine (g.2 w _ _ _ hi n (λk d=>⟨c k d,Yd k⟩)).mono ?_
 rintro e w' ⟨v,own,rfl,a⟩
 have p:=Aa6 m a.vals;subst p;exact⟨rfl,a.os,a.tape,a.output,a.ext.size,λk d=>a.ext.keep k d (Yd k)⟩
theorem Aw5(W:World)(s:Ak)(g:okW W)(h:Ch s)(i:s.length<=1000000):Calls prog 150 #[.string (Ab s)] W λe w'=>Below W.heap.size W w'/\∃a b c,e=.returned (.tuple #[.agg #[.bool a,.string b,.int .i64 c],.int .i64 (Hv s)]):=by
 obtain⟨a,b,c,e⟩:=Bim (u:=1000001) (d:=0) (p:=none) h i Ω;have f:Ep gU prog 150 [Bg (Ab s)] ⟨[.agg ([Value.bool a,.string b,.int .i64 c].map .sc),Av (Hv s)],[]⟩:=L7 ngR mxR Be0 7 _ _ _ e;refine (A86 (us:=[.string (Ab s)]) (rs:=[.agg #[.bool a,.string b,.int .i64 c],.int .i64 (Hv s)]) f ⟨.inl rfl,trivial⟩ ⟨.inr ⟨_,rfl,rfl⟩,.inl rfl,trivial⟩ g.1 g.2).mono ?_
 rintro e w' ⟨rfl,j⟩
 exact⟨j,a,b,c,rfl⟩
theorem Axq(W:World)(s:Ak)(C:okW W)(G:Ch s)(H:s.length<=1000000):Calls prog 149 #[.string (Ab s)] W λe w'=>Below W.heap.size W w'/\DbP W w' s e:=by
 have e:=Bco (u:=1000001) (d:=0) (p:=none) G H Ω Ω;have hi:Ins W (λ_=>False) Ai3 [Bg (Ab s)] [.string (Ab s)]:=⟨λ_ h=>h.elim,λ_ h=>h.elim,λk h=>absurd h (Yd k),λi j P Q b o J h=>(by cases h),λi q h=>(by cases h),QK (show B4 Aai [Bg (Ab s)] [.string (Ab s)] from ⟨.inl rfl,trivial⟩)⟩
 have m:Ep gU prog 149 [Bg (Ab s)] _:=L7 ngR mxR Be0 3 _ _ _ e;refine (m.2 W _ _ _ hi C.1 (λk n=>⟨C.2 k n,Yd k⟩)).mono ?_
 rintro e w' ⟨D,own,rfl,c⟩
 refine⟨⟨c.os,c.tape,c.output,c.ext.size,λk n=>c.ext.keep k n (Yd k)⟩,?_⟩;have a:=c.vals;have r:=c.fresh;generalize R:IK Ai3 own (λ_=>False)=A at a;unfold DbP;cases hd:Nr s with
 |none=>
  rw[hd] at a
  match D,a with
  |[u1,f],a=>
   obtain⟨t,w,_⟩:=a;have g:f=.int .i64 2:=A7.val (show A7 w' A (Av 2) f from w);rcases (show Jq w' A (own 0) (.own 1 0 []) u1 from t) with⟨_,_,_,ad,rfl⟩|⟨b,o,cap,E,rfl,h⟩
   ·rw[g];exact⟨ad,0,rfl⟩
   ·rw[g];exact⟨_,cap,rfl⟩
  |[],a=>exact a.elim
  |[_],a=>exact a.2.elim
  |_::_::_::_,a=>exact a.2.2.elim
 |some b=>
  rw[hd] at a
  match D,a with
  |[u1,f],a=>
   obtain⟨t,w,_⟩:=a;have g:f=.int .i64 0:=A7.val (show A7 w' A (Av 0) f from w);rw[g];rcases (show Jq w' A (own 0) (.own 1 b.length (Af .u8 b)) u1 from t) with⟨_,K,_,ad,rfl⟩|⟨l,o,cap,E,rfl,L,S,Ct,M,T⟩
   ·have y:b=[]:=kb K;subst y;exact⟨ad,0,rfl,λh=>absurd rfl h⟩
   ·refine⟨some ⟨l,o,none⟩,cap,rfl,λ_=>⟨⟨l,o,none⟩,rfl,L,?_,rfl,Ct,λj x N=>?_⟩⟩
    ·have:=(r 0 l o E).2;rcases Kp l W.heap.size with q|q
     ·obtain⟨⟨i,k,J,h⟩,_⟩:=this q;cases h
     ·exact q
    ·have O:(Af .u8 b)[j]?=some (.sc (.int .u8 x)):=by
      rw[RH,zr,N];rfl
     obtain⟨v,z,_,B⟩:=M j _ O;rw[z];exact congrArg some B.val
  |[],a=>exact a.elim
  |[_],a=>exact a.2.elim
  |_::_::_::_,a=>exact a.2.2.elim
def PaP(w w':World)(t:ByteArray)(e:Ending):Prop:=ItP w w' (L4 t) e
theorem Aob{a:Act}(c:a.tmps.getD 2 undef=.pointer (some ⟨b,0,none⟩))(hd:a.defers=[])(d:(loadVar 77 ⟨b,0,none⟩).run prog W=.ok v W)(f:R (.returned (.tuple #[v,a.tmps.getD 3 undef])) W):bodyPost prog Tryz.f86 R .ret a W:=by refine bodyPost_ret ?_ hd f;rw[results_cell_tmp rfl,c];have e:(asAddr (.pointer (some ⟨b,0,none⟩))).run prog W=.ok ⟨b,0,none⟩ W:=rfl;rw[e,xf,d,xf]
def VsP(w w':World)(t:ByteArray)(e:Ending):Prop:=e=.returned (.bool (fh t.data.toList))/\Below w.heap.size w w'
def RtQ(w w':World)(t:ByteArray)(e:Ending):Prop:=Below w.heap.size w w'/\RtP w' (Cp t) e
def ItQ(w w':World)(r:JR CD)(e:Ending):Prop:=Below w.heap.size w w'/\ItP w w' r e
set_option maxHeartbeats 4000000 in
theorem A8j(ht:t.size<=9223372036854775807)(N:okW w):Calls prog 86 #[.string t] w λe w'=>Below w.heap.size w w'/\PaP w w' t e:=by
 have mixed:prog.follows Departure.mixedOrders=true:=Κ
 have K:Below w.heap.size w (w.alloc (.cells #[.int .i64 0,.slice none 0 0,.string ⟨#[]⟩,.bool false,.string ⟨#[]⟩] 77)):=(Below.refl _ w).alloc (Cz _) _;have O:=al1 w (.cells #[.int .i64 0,.slice none 0 0,.string ⟨#[]⟩,.bool false,.string ⟨#[]⟩] 77);have n:(w.alloc (.cells #[.int .i64 0,.slice none 0 0,.string ⟨#[]⟩,.bool false,.string ⟨#[]⟩] 77)).heap.size=w.heap.size+1:=fa _;have q:RC (w.alloc (.cells #[.int .i64 0,.slice none 0 0,.string ⟨#[]⟩,.bool false,.string ⟨#[]⟩] 77)) w.heap.size:=A03 O;have P:=N.below K
 have Q:Calls prog 124 #[.string t] (w.alloc (.cells #[.int .i64 0,.slice none 0 0,.string ⟨#[]⟩,.bool false,.string ⟨#[]⟩] 77)) λe w'=>VsP (w.alloc (.cells #[.int .i64 0,.slice none 0 0,.string ⟨#[]⟩,.bool false,.string ⟨#[]⟩] 77)) w' t e:=(Any.utf8_ValidString laysVS t (w.alloc (.cells #[.int .i64 0,.slice none 0 0,.string ⟨#[]⟩,.bool false,.string ⟨#[]⟩] 77)) ht P.1.2.2).mono (λ_ _ h=>h)
 go_enter Tryz.func86,Tryz.ntmps86
 by_cases Ev:1024<t.size
 ·have R:L4 t=.error 8:=by unfold L4;rw[Bv Ev]
  have hq:(t.size:Int)>1024:=Ω
  go_wp2
  (try simp only[n8,Exit.then])
  obtain⟨⟨r,s,v,y,z⟩,_⟩:=q;exact Aob (b:=w.heap.size) rfl rfl (Ajg r s v y z) ⟨K,by unfold PaP;rw[R];exact⟨Δ,rfl⟩⟩
 have hq:¬(t.size:Int)>1024:=Ω
 go_wp2_with (go_at_call 124;refine Q.mono ?_)
 rintro e l ⟨rfl,Ke⟩
 have A8g:Below w.heap.size w l:=K.trans (Ke.mono K.size);have f:=q.below Ke (by rw[n];omega)
 have SN:w.heap.size+1<=l.heap.size:=by have:=Ke.size;rw[n] at this;exact this
 have A:w.heap.size<l.heap.size:=Ω
 have B:=N.below A8g;cases C:fh t.data.toList with
 |false=>
  have R:L4 t=.error 6:=by unfold L4;rw[Bd Ev,C,Bv rfl]
  obtain⟨⟨r,s,v,y,z⟩,s0,s1,s2,S,T⟩:=id f
  go_wp2
  (try simp only[n8,Exit.then])
  exact Aob (b:=w.heap.size) rfl rfl (Adr l w.heap.size _ _ _ _ _ f.some) ⟨Xa A8g (Cz _) _ _ _ _ _,by unfold PaP;rw[R];exact⟨Δ,rfl⟩⟩
 |true=>
  have XX:L4 t=match XM 8 (Cp t) with | .error e=>.error e | .ok L=>VH L:=by unfold L4;rw[Bd Ev,C,Bd Δ]
  have U:Calls prog 125 #[.string t] l λe w'=>RtQ l w' t e:=A5x Ω B.1 B.2
  go_wp2_with (go_at_call 125;refine U.mono ?_)
  rintro e D ⟨SM,a⟩
  have Ain:Below w.heap.size w D:=A8g.trans (SM.mono A8g.size);have g:=f.below SM A;have E:w.heap.size<D.heap.size:=Iv A SM.size;have V:=N.below Ain;unfold RtP at a;cases Bcm:XM 8 (Cp t) with
  |error W=>
   rw[Bcm] at a XX;obtain⟨G,m,rfl⟩:=a;have X:(W != (0:Int))=true:=by simp[G]
   obtain⟨⟨r,s,v,y,z⟩,s0,s1,s2,S,T⟩:=id g
   go_wp2
   (try simp only[n8,Exit.then])
   exact Aob (b:=w.heap.size) rfl rfl (Adr D w.heap.size _ _ _ _ _ g.some) ⟨Xa Ain (Cz _) _ _ _ _ _,by unfold PaP;rw[XX];exact⟨G,rfl⟩⟩
  |ok L=>
   rw[Bcm] at a XX;obtain⟨mb,rfl,Y⟩:=a;have T6:(Cp t).length<=1000000:=by rw[Cj];omega
   have i:=As4 (Vn t) T6 Bcm;have hl4:4*(Cp t).length<=1000000:=by rw[Cj];omega
   have MK:Calls prog 126 #[.map (some mb)] D λe w'=>ItQ D w' (VH L) e:=A9f Axq Aw5 (λm M=>(i m M).1.1) (λm M=>⟨(i m M).2.1,by have:=(i m M).2.2;omega⟩) V Y
   go_wp2_with (go_at_call 126;refine MK.mono ?_)
   rintro e W4 ⟨j,c⟩
   have Ako:Below w.heap.size w W4:=Ain.trans (j.mono Ain.size);have d:=g.below j E;have H:w.heap.size<W4.heap.size:=Iv E j.size;unfold ItP at c;cases J:VH L with
   |error W=>
    rw[J] at c XX;obtain⟨G,rfl⟩:=c;have X:(W != (0:Int))=true:=by simp[G]
    obtain⟨⟨r,s,v,y,z⟩,s0,s1,s2,S,T⟩:=id d
    go_wp2
    (try simp only[n8,Exit.then])
    exact Aob (b:=w.heap.size) rfl rfl (MX W4 w.heap.size H _ _ _ _ _ _ d) ⟨Wm Ako (Cz _) Ako.size _ _ _ _ _ _,by unfold PaP;rw[XX];exact⟨G,rfl⟩⟩
   |ok x=>
    obtain⟨k,b,o,x,p⟩:=x;rw[J] at c XX;obtain⟨ad,cap,rfl,hc,hwa,Z⟩:=c;obtain⟨⟨r,s,v,y,z⟩,s0,s1,s2,S,T⟩:=id d
    go_wp2
    (try simp only[n8,Exit.then])
    exact Aob (b:=w.heap.size) rfl rfl (MX W4 w.heap.size H _ _ _ _ _ _ d) ⟨Wm Ako (Cz _) Ako.size _ _ _ _ _ _,by unfold PaP;rw[XX];exact⟨ad,cap,rfl,hc,Ω,Z.set5al Ω⟩⟩
def Bz(args:Ae):Option A3:=
 match args with
 |[.sc (.string t)]=>bif decide (t.size<=9223372036854775807) then some (match L4 t with
  |.ok (k,b,o,x,p)=>⟨[.agg [Av k,.lst false 1 b.length (Af .u8 b),Bg (Ab o),C3 x,Bg (Ab p)],Av 0],[]⟩
  |.error e=>⟨[.agg [Av 0,.lst false 1 0 [],Bg ⟨#[]⟩,C3 false,Bg ⟨#[]⟩],Av e],[]⟩) else none
 |_=>none
theorem Abk{Y:Nat->Prop}{bt:QW}{args vals:Ae}{vs:List Value}(a:Below w.heap.size w w')(c:Af6 w' (IK bt (λ_=>none) Y) (λ_=>none) w.heap.size 0 vals vs)(d:N9 w' (IK bt (λ_=>none) Y) (λ_=>none) bt (To vals) 0 args []):
  Out w w' Y bt args (λ_=>none) ⟨vals,[]⟩ vs where
 os:=a.os
 tape:=a.tape
 output:=a.output
 ext:=⟨a.size,λb h _=>a.block b h,λb h=>Kk.same (a.block b h)⟩
 rng:=λb j h _=>⟨by unfold jy;simp only[a.block b h],by unfold ju;simp only[a.block b h]⟩
 vals:=c
 outs:=d
 fresh:=λj b o h=>by cases h
 inj:=λj e b o f h=>by cases h
theorem Alo(args:Ae)(f:A3)(h:Bz args=some f):Ep gU prog 86 args f:=by
 refine⟨⟨_,Tryz.func86,Κ⟩,λw Y bt us hi l m=>?_⟩;unfold Bz at h;split at h
 rotate_left
 ·cases h
 rename_i t;cases n:decide (t.size<=9223372036854775807)
 ·rw[n] at h;cases h
 rw[n,cond_true] at h;have r:=of_decide_eq_true n;have ps:=hi.args
 match us,ps with
 |[u],ps=>
  have s:u=.string t:=A7.val (show A7 w _ (Bg t) u from ps.1.2);subst s;refine (A8j r ⟨l,λk v=>(m k v).1⟩).mono ?_
  rintro e w' ⟨q,hp⟩
  unfold PaP at hp;unfold ItP at hp;cases WV:L4 t with
  |error z=>
   rw[WV] at hp h;obtain⟨_,rfl⟩:=hp;cases h;refine⟨[.agg #[.int .i64 0,.slice none 0 0,.string ⟨#[]⟩,.bool false,.string ⟨#[]⟩],.int .i64 z],λ_=>none,rfl,Abk q ⟨⟨_,rfl,?_⟩,A7.sc _,trivial⟩ rfl⟩;exact⟨A7.sc _,A7.lnil _ _,A7.sc _,A7.sc _,A7.sc _,trivial⟩
  |ok x=>
   obtain⟨k,b,o,x,p⟩:=x;rw[WV] at hp h;obtain⟨ad,cap,rfl,A,B,a⟩:=hp;cases h;refine⟨[.agg #[.int .i64 k,.slice (some ad) b.length cap,.string (Ab o),.bool x,.string (Ab p)],.int .i64 0],λ_=>none,rfl,Abk q ⟨⟨_,rfl,?_⟩,A7.sc _,trivial⟩ rfl⟩;refine⟨A7.sc _,?_,A7.sc _,A7.sc _,A7.sc _,trivial⟩;refine A7.lst 1 b.length (Af .u8 b) ad cap (λj=>.int .u8 (b.getD j 0)) a.1 a.2.1 ?_ A ?_ ?_ ?_
   ·rintro (⟨j,o,h⟩|⟨i,o,h⟩|h)
    ·cases h
    ·have:=hi.lt ad.block ⟨i,0,o,h⟩;omega
    ·have:=hi.Ylt _ h;omega
   ·intro j c d;rw[RH,zr] at d;obtain⟨y,g,rfl⟩:=nq.1 d;rw[a.2.2 j y g];simp[zj,g]
   ·intro j c d;rfl
   ·intro j c d;rw[RH,zr] at d;obtain⟨y,g,rfl⟩:=nq.1 d;have:b.getD j 0=y:=by simp[zj,g]
    rw[this];exact A7.sc _
 |[],ps=>exact ps.elim
 |_::_::_,ps=>exact ps.2.elim
abbrev C1:Lf:=CP (some Bz)
abbrev xs1:=Ai6 (some Bz)
theorem extV:Aft gU prog C1:=A9z (λg h args a b=>by cases h;exact Alo args a b)
end
section
variable {I:FuncId->Option (Ae->Option A3)}(u d:Nat)(F:An)
theorem GI(u d:Nat)(Z:Int):Ac (CP p) prog u (d+1) 46 [Z]=(λ(F:An)=>Ap (decide (Z>=0)) (A9 [C3 (decide (Z<=4))]) (A9 [false])) (Ac (CP p) prog u d):=Κ
def Ig(Z:Int)(Y:Nat)(X:Int)(W:Nat)(V U:Int)(T:Ae):Option A3:=Hq u F 76 Tryz.f76 [Ah Z] [.r,.r,.r,.l,.r,.l] Y ⟨lk [(0,Ah X),(3,.view 3 1 0 W),(4,V),(5,U)],Fb [(3,.ar false T)]⟩
theorem Po(U:Int)(T:Nat)(V:Int)(Z:Nat)(Y X:Int)(W:Ae):Ig u F U (T+1) V Z Y X W=(Ap (decide (X>=0)) (Aa (wrap .i64 (4*X)) λa=>Aa (wrap .u64 a) λa=>As (decide (0<=a))<|Aa (E4 .u64 V a) λa=>Aa (C8 .u64 a 15) λa=>Aa (wrap .i64 a) λa=>XN Z 1 8 W [a] λb c=>Aa (wrap .i64 (15-a)) λa=>Aa (wrap .i64 (Y+a)) λa=>Aa (wrap .i64 (X-1)) λe=>Ig u F U T V b a e c) (Aa (wrap .i64 (wh Y 16)) λa=>Aa (nr Y 16) λb=>As (decide (Z*1<=W.length)&&true&&decide ((Z+2)*8<=1099511627776)&&decide (Z+2<=1099511627776))<|Aa (Z+2) λc=>Aa (yt (Z*1) W++[Av a,Av b]) λa=>As (decide (c*1<=a.length))<|A9 [.own 1 c (a.take (c*1))])):=Κ
theorem LG(u d:Nat)(Z:Int):Ac (CP p) prog u (d+1) 76 [Ah Z]=(λ(F:An)=>Ig u F Z u Z 0 0 15 ([])) (Ac (CP p) prog u d):=Κ
def Jz(Z Y:Int)(X W V:Int)(U:Nat)(T S:Int)(Q P O:Int):Option A3:=Hq u F 77 Tryz.f77 [Z,Y,X,W,Ah V] [.r,.l,.r,.l] U ⟨lk [(0,T),(1,S),(3,Q),(4,Ah P),(11,O)],Fb []⟩
theorem Sv(U T:Int)(S Q P:Int)(O:Nat)(X W:Int)(Z V Y:Int):Jz u F U T S Q P (O+1) X W Z V Y=(Aa (if 15<Z then 15 else Z) λa=>Ap (decide (Y<a)) (Aa (wrap .u64 X) λa=>Aa (wrap .u64 W) λb=>Aa (wrap .u64 Y) λc=>Cn (F 38 [Am 1 4 [Ah a,Ah b,Ah c,Ah V]]) λa b=>K5 1 a λa c=>Ag b<|As (decide (0+a*1<=c.length))<|Gn .u64 (F 45 [(1:Int),Am 1 a (yt (a*1) (c.drop 0))]) λa=>Aa (wrap .i64 (Y+1)) λb=>Jz u F U T S Q P O X W Z a b) (A9 [Ah V])):=Κ
theorem PF(u d:Nat)(Y X:Int)(Z W V:Int):Ac (CP p) prog u (d+1) 77 [Y,X,Z,W,Ah V]=(λ(F:An)=>Aa (if Z<0 then 0 else Z) λa=>Jz u F Y X Z W V u Y X W V a) (Ac (CP p) prog u d):=Κ
theorem IJ(u d:Nat)(Z Y X:Int):Ac (CP p) prog u (d+1) 78 [Ah Z,Y,X]=(λ(F:An)=>Aa (wrap .u64 Y) λa=>Aa (wrap .u64 X) λb=>Cn (F 38 [Am 1 2 [Ah a,Ah b]]) λa b=>K5 1 a λa c=>Ag b<|As (decide (0+a*1<=c.length))<|Gn .u64 (F 39 [Ah Z,(1:Int),Am 1 a (yt (a*1) (c.drop 0))]) λa=>A9 [Ah a]) (Ac (CP p) prog u d):=Κ
theorem OP(u d:Nat)(Z:Int)(Y:Nat)(X:Ae):Ac (CP p) prog u (d+1) 119 [Z,Am 1 Y X]=(λ(F:An)=>Aa (wrap .u64 Z) λa=>Cn (F 38 [Am 1 1 [Ah a]]) λa b=>K5 1 a λa c=>Ag b<|Cn (F 38 [Am 1 Y X]) λb e=>K5 1 b λb f=>Ag e<|As (decide (0+b*1<=f.length))<|As (decide (a*1<=c.length)&&decide (wy (yt (b*1) (f.drop 0))=b*1)&&decide ((a+b)*1<=1099511627776)&&decide (a+b<=1099511627776))<|Aa (a+b) λe=>Aa (yt (a*1) c++yt (b*1) (f.drop 0)) λa=>As (decide (0+e*1<=a.length))<|Gn .u64 (F 45 [(2:Int),Am 1 e (yt (e*1) (a.drop 0))]) λa=>A9 [Ah a]) (Ac (CP p) prog u d):=Κ
def I0(Z Y:Int)(X:Nat)(W V:Int)(U:Nat)(T:Int)(S:Ae):Option A3:=Hq u F 79 Tryz.f79 [Ah Z,Y] [.r,.r,.l,.r,.l] X ⟨lk [(0,Ah W),(1,V),(5,.view 5 1 0 U),(6,T)],Fb [(5,.ar false S)]⟩
theorem Qs(U T:Int)(S:Nat)(V Z:Int)(Y:Nat)(X:Int)(W:Ae):I0 u F U T (S+1) V Z Y X W=(Ap (decide (X<18)) (Gn .u64 (F 78 [Ah V,Z,X]) λa=>Gn .u64 (F 77 [Z,X,(0:Int),(15:Int),Ah a]) λa=>XN Y 1 8 W [Ah a] λa b=>Aa (wrap .i64 (X+1)) λc=>I0 u F U T S V Z a c b) (As (decide (0+Y*1<=W.length))<|Gn .u64 (F 119 [Z,Am 1 Y (yt (Y*1) (W.drop 0))]) λa=>A9 [Ah a])):=Κ
theorem NL(u d:Nat)(Z Y:Int):Ac (CP p) prog u (d+1) 79 [Ah Z,Y]=(λ(F:An)=>I0 u F Z Y u Z Y 0 0 ([])) (Ac (CP p) prog u d):=Κ
def G4(Z Y X:Int)(W:Nat)(V U:Int)(T S:Nat)(Q:Int)(P O:Ae):Option A3:=Hq u F 47 Tryz.f47 [Ah Z,Y,Ah X] [.r,.r,.r,.l,.r,.l] W ⟨lk [(0,Ah V),(1,U),(7,.view 7 1 0 T),(8,.view 8 1 0 S),(9,Q)],Fb [(7,.ar false P),(8,.ar false O)]⟩
theorem Mk(S Q P:Int)(O:Nat)(V X:Int)(U Y:Nat)(Z:Int)(T W:Ae):G4 u F S Q P (O+1) V X U Y Z T W=(Ap (decide (Z<18)) (As (decide (0<=Z)&&decide (Z<(↑U:Int)))<|Bi .i64 (T.getD (0+Z.toNat*1) .top) λa=>Gn .u64 (F 78 [Ah V,X,Z]) λb=>Gn .u64 (F 77 [X,Z,(0:Int),a,Ah b]) λa=>XN Y 1 8 W [Ah a] λa b=>Aa (wrap .i64 (Z+1)) λc=>G4 u F S Q P O V X U a c T b) (As (decide (Y*1<=W.length))<|A9 [.own 1 Y (W.take (Y*1))])):=Κ
theorem CO(u d:Nat)(Z Y X:Int):Ac (CP p) prog u (d+1) 47 [Ah Z,Y,Ah X]=(λ(F:An)=>Cn (F 76 [Ah X]) λa b=>K5 1 a λa c=>Ag b<|G4 u F Z Y X u Z Y a 0 0 c ([])) (Ac (CP p) prog u d):=Κ
def Hc(Z Y:Int)(X:Nat)(W:Ae)(V:Nat)(U:Int)(T:Nat)(S:Ae)(Q P:Nat)(O:Int)(N M:Ae):Option A3:=Hq u F 111 Tryz.f111 [Z,Ah Y,Am 1 X W] [.r,.r,.r,.r,.l,.r,.l] V ⟨lk [(0,U),(2,Am 1 T S),(8,.view 8 1 0 Q),(9,.view 9 1 0 P),(10,O)],Fb [(8,.ar false N),(9,.ar false M)]⟩
theorem Nd(Q P:Int)(O:Nat)(N:Ae)(M:Nat)(X:Int)(V:Nat)(U:Ae)(T Y:Nat)(Z:Int)(S W:Ae):Hc u F Q P O N (M+1) X V U T Y Z S W=(Ap (decide (Z<18)) (As (decide (0<=Z)&&decide (Z<(↑T:Int)))<|Bi .i64 (S.getD (0+Z.toNat*1) .top) λa=>As (decide (0<=Z)&&decide (Z<(↑V:Int)))<|Bi .u64 (U.getD (Z.toNat*1) .top) λb=>Gn .u64 (F 77 [X,Z,a,(15:Int),Ah b]) λa=>XN Y 1 8 W [Ah a] λa b=>Aa (wrap .i64 (Z+1)) λc=>Hc u F Q P O N M X V U T a c S b) (As (decide (0+Y*1<=W.length))<|Gn .u64 (F 119 [X,Am 1 Y (yt (Y*1) (W.drop 0))]) λa=>A9 [Ah a,(0:Int)])):=Κ
theorem FV(u d:Nat)(Y X:Int)(Z:Nat)(W:Ae):Ac (CP p) prog u (d+1) 111 [Y,Ah X,Am 1 Z W]=(λ(F:An)=>Ap ((↑Z:Int) != 18) (A9 [Ah 0,(4:Int)]) (Cn (F 76 [Ah X]) λa b=>K5 1 a λa c=>Ag b<|Hc u F Y X Z W u Y Z W a 0 0 c ([]))) (Ac (CP p) prog u d):=Κ
theorem HR(u d:Nat)(Z Y X:Int):Ac (CP p) prog u (d+1) 80 [Z,Ah Y,Ah X]=(λ(F:An)=>Aa (wrap .u64 Z) λa=>Cn (F 38 [Am 1 3 [Ah a,Ah Y,Ah X]]) λa b=>K5 1 a λa c=>Ag b<|As (decide (0+a*1<=c.length))<|Gn .u64 (F 45 [(3:Int),Am 1 a (yt (a*1) (c.drop 0))]) λa=>A9 [Ah a]) (Ac (CP p) prog u d):=Κ
theorem Wr(u d:Nat)(Y Z X:Int):Ac (CP p) prog u (d+1) 48 [Ah Y,Z,X]=(λ(F:An)=>Ap (Z==0) (Gn .u64 (F 79 [Ah Y,X]) λa=>A9 [Ah a]) (Aa (wrap .i64 (Z-1)) λa=>Aa (wrap .i64 (2*X)) λb=>Gn .u64 (F 48 [Ah Y,a,b]) λa=>Aa (wrap .i64 (Z-1)) λb=>Aa (wrap .i64 (2*X)) λc=>Aa (wrap .i64 (c+1)) λc=>Gn .u64 (F 48 [Ah Y,b,c]) λb=>Gn .u64 (F 80 [Z,Ah a,Ah b]) λa=>A9 [Ah a])) (Ac (CP p) prog u d):=Κ
theorem GK(u d:Nat)(Y Z:Int):Ac (CP p) prog u (d+1) 37 [Ah Y,Z]=(λ(F:An)=>Cn (F 46 [Z]) λa b=>Bh a λa=>Ag b<|Ap (!a) (A9 [.agg [(0:Int),Ah 0],(9:Int)]) (Gn .u64 (F 48 [Ah Y,Z,(0:Int)]) λa=>A9 [.agg [Z,Ah a],(0:Int)])) (Ac (CP p) prog u d):=Κ
def I3(Z Y:Int)(X W:Int)(V:Nat)(U T:Int)(S Q P:Int)(O N:Nat)(M L:Ae)(K:Int)(J I:Nat)(H G:Ae):Option A3:=Hq u F 27 Tryz.f27 [Ah Z,Y,X,Ah W] [.r,.r,.r,.l,.r,.l] V ⟨lk [(0,Ah U),(1,T),(2,S),(8,.ptr 8 0),(10,.ptr 10 0),(11,Q)],Fb [(8,.st [P,.view 112 1 0 O,.view 164 1 0 N]),(112,.ar false M),(164,.ar false L),(10,.st [K,.view 114 1 0 J,.view 166 1 0 I]),(114,.ar false H),(166,.ar false G)]⟩
theorem Qh(P O:Int)(N M:Int)(L:Nat)(U T:Int)(S Z K:Int)(J I:Nat)(H G:Ae)(Q:Int)(Y X:Nat)(W V:Ae):I3 u F P O N M (L+1) U T S Z K J I H G Q Y X W V=(Ap (decide (Z<T)) (Aa (wrap .u64 Z) λa=>As (decide (0<=a))<|Aa (E4 .i64 S a) λa=>Aa (Fh .i64 a 1) λa=>Gn .u64 (F 48 [Ah U,Z,a]) λa=>XN X 1 8 V [Ah a] λa b=>Aa (wrap .i64 (Z+1)) λc=>I3 u F P O N M L U T S c K J I H G Q Y a W b) (As (decide (Y*1<=W.length))<|As (decide (X*1<=V.length))<|A9 [.agg [Q,.own 1 Y (W.take (Y*1)),.own 1 X (V.take (X*1))],(0:Int)])):=Κ
theorem NZ(u d:Nat)(X Y:Int)(Z W:Int):Ac (CP p) prog u (d+1) 27 [Ah X,Y,Z,Ah W]=(λ(F:An)=>Cn (F 46 [Y]) λa b=>Bh a λa=>(λe:Option A3=>Ag b<|Ap (!a) e (Ap (decide (Z<0)) e (Aa (wrap .u64 Y) λa=>As (decide (0<=a))<|Aa (Dv .i64 1 a) λa=>Ap (decide (Z>=a)) e (Cn (F 47 [Ah X,Z,Ah W]) λa b=>K5 1 a λa c=>Ag b<|I3 u F X Y Z W u X Y Z 0 0 0 0 ([]) ([]) Z a 0 c ([]))))) (A9 [.agg [(0:Int),.own 1 0 [],.own 1 0 []],(9:Int)])) (Ac (CP p) prog u d):=Κ
def Gg(Z Y:Int)(X W:Int)(V:Nat)(U:Ae)(T:Nat)(S:Ae)(Q:Nat)(P O:Int)(N M L:Int)(K:Nat)(J:Ae)(I:Nat)(H:Ae):Option A3:=Hq u F 65 Tryz.f65 [.agg [Z,Ah Y],Ah X,.agg [W,Am 1 V U,Am 1 T S]] [.r,.r,.r,.r,.l,.r,.l] Q ⟨lk [(3,.ptr 3 0),(5,.ptr 5 0),(7,Ah P),(9,O)],Fb [(3,.st [N,Ah M]),(5,.st [L,Am 1 K J,Am 1 I H])]⟩
theorem Oc(S Q:Int)(P O:Int)(N:Nat)(M:Ae)(L:Nat)(K:Ae)(J:Nat)(W Z:Int)(V U T:Int)(I:Nat)(H:Ae)(Y:Nat)(X:Ae):Gg u F S Q P O N M L K (J+1) W Z V U T I H Y X=(Ap (decide (Z<V)) (Aa (wrap .u64 Z) λa=>As (decide (0<=a))<|Aa (E4 .i64 T a) λa=>Aa (C8 .i64 a 1) λa=>Ap (a==0) (Aa (wrap .i64 (Z+1)) λa=>As (decide (0<=Z)&&decide (Z<(↑Y:Int)))<|Bi .u64 (X.getD (Z.toNat*1) .top) λb=>Gn .u64 (F 80 [a,Ah W,Ah b]) λa=>Aa (wrap .i64 (Z+1)) λb=>Gg u F S Q P O N M L K J a b V U T I H Y X) (Aa (wrap .i64 (Z+1)) λa=>As (decide (0<=Z)&&decide (Z<(↑Y:Int)))<|Bi .u64 (X.getD (Z.toNat*1) .top) λb=>Gn .u64 (F 80 [a,Ah b,Ah W]) λa=>Aa (wrap .i64 (Z+1)) λb=>Gg u F S Q P O N M L K J a b V U T I H Y X)) (Ap (W != U) (A9 [(15:Int)]) (A9 [(0:Int)]))):=Κ
theorem HJ(u d:Nat)(Z U:Int)(T Y:Int)(X:Nat)(W:Ae)(V:Nat)(S:Ae):Ac (CP p) prog u (d+1) 65 [.agg [Z,Ah U],Ah T,.agg [Y,Am 1 X W,Am 1 V S]]=(λ(F:An)=>Cn (F 46 [Z]) λa b=>Bh a λa=>(λc:Option A3=>Ag b<|Ap (!a) c (Ap (decide (Y<0)) c (Aa (wrap .u64 Z) λa=>As (decide (0<=a))<|Aa (Dv .i64 1 a) λa=>Ap (decide (Y>=a)) c (Ap ((↑X:Int) != 18) (A9 [(4:Int)]) (Ap ((↑V:Int) != Z) (A9 [(4:Int)]) (Cn (F 111 [Y,Ah T,Am 1 X W]) λa b=>Bi .u64 a λa=>Bq .i64 b λb=>Gg u F Z U T Y X W V S u a 0 Z U Y X W V S)))))) (A9 [(9:Int)])) (Ac (CP p) prog u d):=Κ
theorem BA(u d:Nat)(Z Y:Int):Ac (CP p) prog u (d+1) 44 [.agg [Z,Ah Y]]=(λ(F:An)=>Cn (F 46 [Z]) λa b=>Bh a λa=>Ag b<|Ap (!a) (A9 [.own 1 0 [],(9:Int)]) (Aa (wrap .u8 Z) λa=>Cn (F 38 [Am 1 1 [Ah Y]]) λb c=>K5 1 b λb e=>Ag c<|As (decide (0+b*1<=e.length))<|As (decide (wy (yt (b*1) (e.drop 0))=b*1)&&decide ((1+b)*1<=1099511627776)&&decide (1+b<=1099511627776))<|Aa (1+b) λc=>Aa ([.sc (.int .u8 a)]++yt (b*1) (e.drop 0)) λa=>As (decide (c*1<=a.length))<|A9 [.own 1 c (a.take (c*1)),(0:Int)])) (Ac (CP p) prog u d):=Κ
theorem AY(u d Z:Nat)(Y:Ae):Ac (CP p) prog u (d+1) 110 [Am 1 Z Y]=(λ(F:An)=>(λe:Option A3=>Ap ((↑Z:Int) != 9) e (As (decide (0<(↑Z:Int)))<|Bi .u8 (Y.getD 0 .top) λa=>Aa (wrap .i64 a) λa=>Cn (F 46 [a]) λa b=>Bh a λa=>Ag b<|Ap (!a) e (As (decide (0<(↑Z:Int)))<|Bi .u8 (Y.getD 0 .top) λa=>Aa (wrap .i64 a) λa=>As (decide (1<=Z)&&decide (Z<=Z))<|Aa (Z-1) λb=>Aa (yt (b*1) (Y.drop 1)) λc=>Gn .u64 (F 109 [Am 1 b c]) λb=>A9 [.agg [a,Ah b],(0:Int)]))) (A9 [.agg [(0:Int),Ah 0],(2:Int)])) (Ac (CP p) prog u d):=Κ
theorem Sn(u d:Nat)(Y:Int)(X:Nat)(W:Ae)(Z:Nat)(V:Ae):Ac (CP p) prog u (d+1) 30 [.agg [Y,Am 1 X W,Am 1 Z V]]=(λ(F:An)=>(λg:Option A3=>Ap (decide ((↑Z:Int)>4)) g (Ap (decide (Y<0)) g (Aa (wrap .u64 (↑Z:Int)) λa=>As (decide (0<=a))<|Aa (Dv .i64 1 a) λa=>Ap (decide (Y>=a)) g (Ap ((↑X:Int) != 18) (A9 [.own 1 0 [],(4:Int)]) (Aa (wrap .u8 Y) λa=>Aa (wrap .u8 (↑Z:Int)) λb=>Cn (F 38 [Am 1 X W]) λc e=>K5 1 c λc f=>Ag e<|As (decide (0+c*1<=f.length))<|As (decide (wy (yt (c*1) (f.drop 0))=c*1)&&decide ((2+c)*1<=1099511627776)&&decide (2+c<=1099511627776))<|Aa (2+c) λe=>Aa ([.sc (.int .u8 a),.sc (.int .u8 b)]++yt (c*1) (f.drop 0)) λa=>Cn (F 38 [Am 1 Z V]) λb c=>K5 1 b λb f=>Ag c<|As (decide (0+b*1<=f.length))<|As (decide (e*1<=a.length)&&decide (wy (yt (b*1) (f.drop 0))=b*1)&&decide ((e+b)*1<=1099511627776)&&decide (e+b<=1099511627776))<|Aa (e+b) λc=>Aa (yt (e*1) a++yt (b*1) (f.drop 0)) λa=>As (decide (c*1<=a.length))<|A9 [.own 1 c (a.take (c*1)),(0:Int)]))))) (A9 [.own 1 0 [],(9:Int)])) (Ac (CP p) prog u d):=Κ
def Jb(Z:Nat)(Y:Ae)(X W:Nat)(V:Ae)(U:Int)(T S:Nat)(Q P:Ae):Option A3:=Hq u F 64 Tryz.f64 [Am 1 Z Y] [.r] X ⟨lk [(0,Am 1 W V),(2,.ptr 2 0)],Fb [(2,.st [U,.view 162 1 0 T,.view 242 1 0 S]),(162,.ar false Q),(242,.ar false P)]⟩
def Ds(Z:Nat)(Y:Ae)(X W:Nat)(V:Ae)(U T:Int)(S Q:Nat)(P O:Ae)(N:Int)(M L:Nat)(K J:Ae):Option A3:=Hq u F 64 Tryz.f64 [Am 1 Z Y] [.r,.r,.r,.l,.r,.l] X ⟨lk [(0,Am 1 W V),(2,.ptr 2 0),(4,.ptr 4 0),(5,U)],Fb [(2,.st [T,.view 162 1 0 S,.view 242 1 0 Q]),(162,.ar false P),(242,.ar false O),(4,.st [N,.view 164 1 0 M,.view 244 1 0 L]),(164,.ar false K),(244,.ar false J)]⟩
theorem Pm(W:Nat)(V:Ae)(Z:Nat)(Es:0<Z)(Y:Nat)(X:Ae)(U:Int)(T S:Nat)(Q P:Ae):Jb u F W V Z Y X U T S Q P=(As (decide (0<(↑Y:Int)))<|Bi .u8 (X.getD 0 .top) λa=>Aa (wrap .i64 a) λa=>Ds u F W V u Y X 0 U T S Q P a 0 0 ([]) ([])):=by cases Z with|zero=>exact absurd Es (wo 0)|succ Z=>kernel_rfl
theorem Pd(Q:Nat)(P:Ae)(O W:Nat)(V:Ae)(Z N:Int)(M L:Nat)(K J:Ae)(S:Int)(Y X:Nat)(U T:Ae):Ds u F Q P (O+1) W V Z N M L K J S Y X U T=(As (decide (1<(↑W:Int)))<|Bi .u8 (V.getD 1 .top) λa=>Aa (wrap .i64 a) λa=>Aa (wrap .i64 (18+a)) λa=>Ap (decide (Z<a)) (Aa (wrap .i64 (8*Z)) λa=>Aa (wrap .i64 (2+a)) λa=>Aa (wrap .i64 (8*Z)) λb=>Aa (wrap .i64 (10+b)) λb=>As (decide (0<=a))<|As (decide (0<=b))<|As (decide (a.toNat<=b.toNat)&&decide (b.toNat<=W))<|Aa (b.toNat-a.toNat) λb=>Aa (yt (b*1) (V.drop (a.toNat*1))) λa=>Gn .u64 (F 109 [Am 1 b a]) λa=>Ap (decide (Z<18)) (XN Y 1 8 U [Ah a] λa b=>Aa (wrap .i64 (Z+1)) λc=>Ds u F Q P O W V c N M L K J S a X b T) (XN X 1 8 T [Ah a] λa b=>Aa (wrap .i64 (Z+1)) λc=>Ds u F Q P O W V c N M L K J S Y a U b)) (As (decide (Y*1<=U.length))<|As (decide (X*1<=T.length))<|A9 [.agg [S,.own 1 Y (U.take (Y*1)),.own 1 X (T.take (X*1))],(0:Int)])):=Κ
theorem Ta(u d Z:Nat)(Y:Ae):Ac (CP p) prog u (d+1) 64 [Am 1 Z Y]=(λ(F:An)=>(λc:Option A3=>Ap (decide ((↑Z:Int)<2)) c (As (decide (1<(↑Z:Int)))<|Bi .u8 (Y.getD 1 .top) λa=>Aa (wrap .i64 a) λa=>Ap (decide (a>4)) c (As (decide (0<(↑Z:Int)))<|Bi .u8 (Y.getD 0 .top) λa=>Aa (wrap .i64 a) λa=>As (decide (1<(↑Z:Int)))<|Bi .u8 (Y.getD 1 .top) λb=>Aa (wrap .u64 b) λb=>As (decide (0<=b))<|Aa (Dv .i64 1 b) λb=>Ap (decide (a>=b)) c (As (decide (1<(↑Z:Int)))<|Bi .u8 (Y.getD 1 .top) λa=>Aa (wrap .i64 a) λa=>Aa (wrap .i64 (18+a)) λa=>Aa (wrap .i64 (8*a)) λa=>Aa (wrap .i64 (2+a)) λa=>Ap ((↑Z:Int) != a) c (Jb u F Z Y u Z Y 0 0 0 ([]) ([])))))) (A9 [.agg [(0:Int),.own 1 0 [],.own 1 0 []],(2:Int)])) (Ac (CP p) prog u d):=Κ
def H3(Z Y X:Int)(W:Nat)(V U T:Int)(S:Nat)(Q:Int)(P:Ae):Option A3:=Hq u F 21 Tryz.f21 [Ah Z,Ah Y,X] [.r,.r,.r,.l,.r,.l] W ⟨lk [(0,Ah V),(1,Ah U),(2,T),(7,.view 7 1 0 S),(8,Q)],Fb [(7,.ar false P)]⟩
theorem Jn(T S Q:Int)(P:Nat)(W V Y:Int)(Z:Nat)(U:Int)(X:Ae):H3 u F T S Q (P+1) W V Y Z U X=(Ap (decide ((↑Z:Int)<Y)) (Aa (wrap .u64 U) λa=>Cn (F 38 [Am 1 2 [Ah V,Ah a]]) λa b=>K5 1 a λa c=>Ag b<|As (decide (0+a*1<=c.length))<|Gn .u64 (F 39 [Ah W,(5:Int),Am 1 a (yt (a*1) (c.drop 0))]) λa=>Cn (F 38 [Am 1 1 [Ah a]]) λa b=>K5 1 a λa c=>Ag b<|As (decide (0+a*1<=c.length))<|As (decide (Z*1<=X.length)&&decide (wy (yt (a*1) (c.drop 0))=a*1)&&decide ((Z+a)*1<=1099511627776)&&decide (Z+a<=1099511627776))<|Aa (Z+a) λb=>Aa (yt (Z*1) X++yt (a*1) (c.drop 0)) λa=>Aa (wrap .i64 (U+1)) λc=>H3 u F T S Q P W V Y b c a) (As (decide (0<=Y))<|As (decide (Y.toNat<=Z))<|Aa (Y.toNat-0) λa=>As (decide (a*1<=X.length))<|A9 [.own 1 a (X.take (a*1))])):=Κ
theorem HH(u d:Nat)(Y X Z:Int):Ac (CP p) prog u (d+1) 21 [Ah Y,Ah X,Z]=(λ(F:An)=>Aa (if Z<0 then 0 else Z) λa=>Aa (if 1024<a then 1024 else a) λa=>H3 u F Y X Z u Y X a 0 0 ([])) (Ac (CP p) prog u d):=Κ
end
section
variable {I:FuncId->Option (Ae->Option A3)}(u d:Nat)(F:An)
def Dw(Z:Nat)(Y:Ae)(X W:Nat)(V:Ae)(U:ByteArray)(T:Int):Option A3:=Hq u F 42 Tryz.f42 [Am 1 Z Y] [.r,.r,.l,.r,.l] X ⟨lk [(0,Am 1 W V),(3,U),(4,T)],Fb []⟩
def C7(Z:Nat)(Y:Ae)(X W V:Nat)(U:Ae)(T:ByteArray)(S Q P:Int):Option A3:=Hq u F 42 Tryz.f42 [Am 1 Z Y] [.r,.r,.l,.r,.l,.i X,.r,.l,.l,.r,.r,.r,.r,.l] W ⟨lk [(0,Am 1 V U),(3,T),(4,S),(5,Ah Q),(6,P)],Fb []⟩
theorem G6(V:Nat)(U:Ae)(T Y:Nat)(X:Ae)(W:ByteArray)(Z:Int):Dw u F V U (T+1) Y X W Z=(Ap (decide (Z<(↑Y:Int))) (As (decide (0<=Z)&&decide (Z<(↑Y:Int)))<|Bi .u8 (X.getD (Z.toNat*1) .top) λa=>Aa (wrap .u64 a) λa=>Aa (Dv .u64 a 16) λa=>Aa (wrap .i64 (Z+1)) λb=>Ap (decide (b<(↑Y:Int))) (Aa (wrap .i64 (Z+1)) λb=>As (decide (0<=b)&&decide (b<(↑Y:Int)))<|Bi .u8 (X.getD (b.toNat*1) .top) λb=>Aa (wrap .u64 b) λb=>Aa (Dv .u64 b 8) λb=>Aa (Vm .u64 a b) λa=>Aa (wrap .i64 (Z+2)) λb=>Ap (decide (b<(↑Y:Int))) (Aa (wrap .i64 (Z+2)) λb=>As (decide (0<=b)&&decide (b<(↑Y:Int)))<|Bi .u8 (X.getD (b.toNat*1) .top) λb=>Aa (wrap .u64 b) λb=>Aa (Vm .u64 a b) λa=>C7 u F V U T u Y X W Z a 0) (C7 u F V U T u Y X W Z a 0)) (Aa (wrap .i64 (Z+2)) λb=>Ap (decide (b<(↑Y:Int))) (Aa (wrap .i64 (Z+2)) λb=>As (decide (0<=b)&&decide (b<(↑Y:Int)))<|Bi .u8 (X.getD (b.toNat*1) .top) λb=>Aa (wrap .u64 b) λb=>Aa (Vm .u64 a b) λa=>C7 u F V U T u Y X W Z a 0) (C7 u F V U T u Y X W Z a 0))) (A9 [W])):=Κ
theorem Kg(V:Nat)(U:Ae)(T P Z:Nat)(S:Ae)(Y:ByteArray)(X Q W:Int):C7 u F V U T (P+1) Z S Y X Q W=(Ap (decide (W<4)) (Aa (wrap .i64 ((↑Z:Int)-X)) λa=>Ap (decide (W<=a)) (Aa (wrap .u64 W) λa=>Aa (wrap .u64 (6*a)) λa=>Aa (wrap .u64 (18-a)) λa=>As (decide (0<=a))<|Aa (E4 .u64 Q a) λa=>Aa (C8 .u64 a 63) λa=>Aa (wrap .u64 (a+1)) λb=>As (decide (0<=a))<|As (decide (0<=b))<|As (decide (a.toNat<=b.toNat)&&decide (b.toNat<=64))<|Aa (mn (ByteArray.mk #[65,66,67,68,69,70,71,72,73,74,75,76,77,78,79,80,81,82,83,84,85,86,87,88,89,90,97,98,99,100,101,102,103,104,105,106,107,108,109,110,111,112,113,114,115,116,117,118,119,120,121,122,48,49,50,51,52,53,54,55,56,57,45,95]) a.toNat b.toNat) λa=>As (decide (mm Y+mm a<=9223372036854775807))<|Aa (Y++a) λa=>Aa (wrap .i64 (W+1)) λb=>C7 u F V U T P Z S a X Q b) (Aa (wrap .i64 (X+3)) λa=>Dw u F V U T Z S Y a)) (Aa (wrap .i64 (X+3)) λa=>Dw u F V U T Z S Y a)):=Κ
theorem Xs(u d Z:Nat)(Y:Ae):Ac (CP p) prog u (d+1) 42 [Am 1 Z Y]=(λ(F:An)=>Dw u F Z Y u Z Y (ByteArray.mk #[]) 0) (Ac (CP p) prog u d):=Κ
def H1(Z:Int)(Y:Nat)(X W:Int):Option A3:=Hq u F 164 Tryz.f164 [.sc (.int .u8 Z)] [.r,.l,.r,.l] Y ⟨lk [(0,.sc (.int .u8 X)),(3,W)],Fb []⟩
theorem Oa(X:Int)(W:Nat)(Y Z:Int):H1 u F X (W+1) Y Z=(Ap (decide (Z<64)) (As (decide (0<=Z))<|Dq ((mf (ml (ByteArray.mk #[65,66,67,68,69,70,71,72,73,74,75,76,77,78,79,80,81,82,83,84,85,86,87,88,89,90,97,98,99,100,101,102,103,104,105,106,107,108,109,110,111,112,113,114,115,116,117,118,119,120,121,122,48,49,50,51,52,53,54,55,56,57,45,95])))[Z.toNat]?) λa=>Ap ((↑(nx a):Int)==Y) (Aa (wrap .u64 Z) λa=>A9 [Ah a]) (Aa (wrap .i64 (Z+1)) λa=>H1 u F X W Y a)) (A9 [Ah 64])):=Κ
theorem GM(u d:Nat)(Z:Int):Ac (CP p) prog u (d+1) 164 [.sc (.int .u8 Z)]=(λ(F:An)=>H1 u F Z u Z 0) (Ac (CP p) prog u d):=Κ
def Er(Z:ByteArray)(Y:Nat)(X:ByteArray)(W:Nat)(V U T:Int)(S:Ae):Option A3:=Hq u F 143 Tryz.f143 [Z] [.r,.r,.r,.l,.r,.l] Y ⟨lk [(0,X),(4,.view 4 1 0 W),(5,Ah V),(6,Ah U),(7,T)],Fb [(4,.ar false S)]⟩
theorem Kf(V:ByteArray)(U:Nat)(X:ByteArray)(Z:Nat)(T S W:Int)(Y:Ae):Er u F V (U+1) X Z T S W Y=((λg:Option A3=>Ap (decide (W<(↑(mm X):Int))) (As (decide (0<=W))<|Dq ((mf (ml X))[W.toNat]?) λa=>Gn .u64 (F 164 [.sc (.int .u8 (↑(nx a):Int))]) λa=>Ap (decide (a>63)) g (Aa (Dv .u64 T 6) λb=>Aa (Vm .u64 b a) λa=>Aa (C8 .u64 a 65535) λa=>Aa (wrap .u64 (S+6)) λb=>Ap (decide (b>=8)) (Aa (wrap .u64 (b-8)) λb=>As (decide (0<=b))<|Aa (E4 .u64 a b) λc=>Aa (wrap .u8 c) λc=>XN Z 1 1 Y [.sc (.int .u8 c)] λc e=>Aa (wrap .i64 (W+1)) λf=>Er u F V U X c a b f e) (Aa (wrap .i64 (W+1)) λc=>Er u F V U X Z a b c Y))) (As (decide (0+Z*1<=Y.length))<|Cn (F 42 [Am 1 Z (yt (Z*1) (Y.drop 0))]) λa b=>At a λa=>Ag b<|Ap (!mf (ml a)==mf (ml X)) g (As (decide (Z*1<=Y.length))<|A9 [.own 1 Z (Y.take (Z*1)),(0:Int)]))) (A9 [.own 1 0 [],(2:Int)])):=Κ
theorem X4(u d:Nat)(Z:ByteArray):Ac (CP p) prog u (d+1) 143 [Z]=(λ(F:An)=>Er u F Z u Z 0 0 0 0 ([])) (Ac (CP p) prog u d):=Κ
theorem FJ(u d:Nat)(Z:Int):Ac (CP p) prog u (d+1) 40 [Z]=(λ(F:An)=>Ap (Z==1) (A9 [Bg ⟨#[112,97,115,115,107,101,121,46,99,114,101,97,116,101]⟩]) (Ap (Z==2) (A9 [Bg ⟨#[112,97,115,115,107,101,121,46,103,101,116]⟩]) (A9 [Bg ⟨#[]⟩]))) (Ac (CP p) prog u d):=Κ
theorem BO(u d:Nat)(Z:ByteArray):Ac (CP p) prog u (d+1) 29 [Z]=(λ(F:An)=>As (decide (mm Z<=1099511627776))<|As (decide (0+mm Z*1<=wy (Dt Z)))<|Gn .u64 (F 45 [(11:Int),Am 1 (mm Z) (yt (mm Z*1) (nb 0 (Dt Z)))]) λa=>A9 [Ah a]) (Ac (CP p) prog u d):=Κ
theorem PS(u d:Nat)(Z:ByteArray):Ac (CP p) prog u (d+1) 56 [Z]=(λ(F:An)=>As (decide (mm Z<=1099511627776))<|As (decide (0+mm Z*1<=wy (Dt Z)))<|Gn .u64 (F 93 [(11:Int),Am 1 (mm Z) (yt (mm Z*1) (nb 0 (Dt Z)))]) λa=>A9 [Ah a]) (Ac (CP p) prog u d):=Κ
end
theorem A1q(a b:Nat)(e:a<18446744073709551616)(f:b<18446744073709551616):C8 .u64 ((a:Nat):Int) ((b:Nat):Int)=((a &&& b:Nat):Int):=by
 have g:a &&& b<2 ^ 64:=Nat.and_lt_two_pow _ Ω
 have c:(zx 64 (a:Int)).toNat=a:=by
  rw[bv,bw];exact wq Ω
 have d:(zx 64 (b:Int)).toNat=b:=by
  rw[bv,bw];exact wq Ω
 show IntKind.u64.wrap ((zx 64 (a:Int) &&& zx 64 (b:Int)).toNat:Int)=_;rw[BitVec.toNat_and,c,d];simp only[wrap,IntKind.bits,IntKind.signed,SK,qf,if_false];omega
theorem Bbw(a:0<=x)(b:x<16777216):C8 .u64 x 63=x % 64:=by obtain⟨n,rfl⟩:=g8 a;have:=A1q n 63 Ω Ω;refine this.trans ?_;rw[show (63:Nat)=2 ^ 6-1 by decide,nl n 6];omega
theorem Aur(a:0<=x)(b:x<16777216):C8 .u64 x 65535=x % 65536:=by obtain⟨n,rfl⟩:=g8 a;have:=A1q n 65535 Ω Ω;refine this.trans ?_;rw[show (65535:Nat)=2 ^ 16-1 by decide,nl n 16];omega
theorem Bbo{k:Nat}(a:k<=64):E4 .u64 x (k:Int)=x / ((2 ^ k:Nat):Int):=by
 show x.fdiv (2 ^ (min (k:Int).toNat IntKind.u64.bits))=_
 have:min (k:Int).toNat IntKind.u64.bits=k:=by
  rw[Hy];exact va (by show k<=64;omega)
 rw[this];have e:(2:Int) ^ k=((2 ^ k:Nat):Int):=Ψ
 rw[e,nt _ (nu _)]
theorem A33:∀n:Fin 64,CU.extract n.val (n.val+1)=Ab [K7 (n.val:Int)]:=by decide +kernel
theorem Lm(a b:Ak):Ab a++Ab b=Ab (a++b):=by apply ByteArray.ext;rw[ByteArray.data_append];unfold Ab;simp
def qch(x:Int)(k:Nat):Int:=K7 (x / ((2 ^ (18-6*k):Nat):Int) % 64)
section
variable {u d:Nat}{p:Option (Ae->Option A3)}
theorem At2{CI:Nat}{a0:Ae}{m0:Nat}{y0:Nat}{y1:Ae}{i:Nat}{x:Int}(b:0<=x)(t:x<16777216)(hi:i<y0)(w:y0<=1000000)(m:Nat)(y:m=min (y0-i) 3+1):∀(r k nn:Nat)(a:Ak),k+r=m->r+1<=nn->a.length+r<=10000000 ->
  C7 u (Ac (CP p) prog u d) CI a0 m0 nn y0 y1 (Ab a) (i:Int) x (k:Int)=Dw u (Ac (CP p) prog u d) CI a0 m0 y0 y1 (Ab (a++(gg k r).map (qch x))) ((i+3:Nat):Int)
 |0,k,nn,a,f,Es,z=>by
  obtain⟨q,rfl⟩:∃q,nn=q+1:=⟨nn-1,Ω⟩
  have o:wrap .i64 ((i:Int)+3)=((i+3:Nat):Int):=Bc
  have e:a++(gg k 0).map (qch x)=a:=Ψ
  rw[e,Kg];by_cases Q:k<4
  ·have c:=dT (q:=(k:Int)<4) Ω;have g:wrap .i64 ((y0:Int)-(i:Int))=(y0:Int)-(i:Int):=Ba;have h:=dF (q:=(k:Int)<=(y0:Int)-(i:Int)) Ω;simp only[Aq,Ar,c,g,h,o]
  ·have c:=dF (q:=(k:Int)<4) Ω;simp only[Aq,Ar,c,o]
 |r+1,k,nn,a,f,Es,z=>by
  obtain⟨q,rfl⟩:∃q,nn=q+1:=⟨nn-1,Ω⟩
  have JQ:k<4:=Ω
  have c:=dT (q:=(k:Int)<4) Ω;have g:wrap .i64 ((y0:Int)-(i:Int))=(y0:Int)-(i:Int):=Ba;have h:=dT (q:=(k:Int)<=(y0:Int)-(i:Int)) Ω;have A:wrap .u64 (k:Int)=(k:Int):=Cq;have B:wrap .u64 (6*(k:Int))=6*(k:Int):=Cq;have C:wrap .u64 (18-6*(k:Int))=((18-6*k:Nat):Int):=by rw[Cq];omega
  have D:decide ((0:Int)<=((18-6*k:Nat):Int))=true:=Ψ
  have E:=Bbo (x:=x) (k:=18-6*k) Ω;have hp:0<2 ^ (18-6*k):=Nat.pow_pos Ω;have j:0<=x / ((2 ^ (18-6*k):Nat):Int):=Int.ediv_nonneg b (nu _)
  have l:x / ((2 ^ (18-6*k):Nat):Int)<16777216:=by
   have:=Int.ediv_le_self ((2 ^ (18-6*k):Nat):Int) b;omega
  have s:=Bbw j l;generalize G:x / ((2 ^ (18-6*k):Nat):Int) % 64=v at s;have n:0<=v:=Ω
  have H:v<64:=Ω
  have J:wrap .u64 (v+1)=v+1:=Cq;have b8:=dT (q:=(0:Int)<=v) n;have K:=dT (q:=(0:Int)<=v+1) Ω;have c1:decide (wj v<=wj (v+1))=true:=dT Ω;have c2:decide (wj (v+1)<=64)=true:=dT Ω
  have L:CU.extract (wj v) (wj (v+1))=Ab [qch x k]:=by
   have:=A33 ⟨wj v,Ω⟩;rw[show wj (v+1)=wj v+1 by omega];refine this.trans ?_;unfold qch;rw[G]
   congr 3
   show ((wj v:Nat):Int)=v;omega
  have M:decide ((Ab a).size+(Ab [qch x k]).size<=9223372036854775807)=true:=dT (by rw[Ai,Ai];simp;omega)
  have N:wrap .i64 ((k:Int)+1)=((k+1:Nat):Int):=Bc
  have O:=At2 (CI:=CI) (a0:=a0) (m0:=m0) (y1:=y1) b t hi w m y r (k+1) q (a++[qch x k]) Ω Ω (by simp;omega)
  have e:a++(gg k (r+1)).map (qch x)=(a++[qch x k])++(gg (k+1) r).map (qch x):=by
   rw[List.range'_succ];simp
  have P:(ByteArray.mk #[65,66,67,68,69,70,71,72,73,74,75,76,77,78,79,80,81,82,83,84,85,86,87,88,89,90,97,98,99,100,101,102,103,104,105,106,107,108,109,110,111,112,113,114,115,116,117,118,119,120,121,122,48,49,50,51,52,53,54,55,56,57,45,95])=CU:=rfl;rw[e,Kg,P];simp only[Aq,Ar,c,g,h,A,B,C,D,E,s,J,b8,K,c1,c2,L,M,Lm,N];exact O
theorem Aqw{a b:Int}(h:Ch [a,b,c])(m:Nat)(g:m<=4):(gg 0 m).map (qch (a*65536+b*256+c))=(RT a b c).take m:=by
 obtain⟨j,h⟩:=Ck h;obtain⟨k,h⟩:=Ck h;obtain⟨l,h⟩:=Ck h;have d:qch (a*65536+b*256+c) 0=K7 (a / 4):=by unfold qch;congr 1;simp;omega
 have e:qch (a*65536+b*256+c) 1=K7 (a % 4*16+b / 16):=by unfold qch;congr 1;simp;omega
 have f:qch (a*65536+b*256+c) 2=K7 (b % 16*4+c / 64):=by unfold qch;congr 1;simp;omega
 have i:qch (a*65536+b*256+c) 3=K7 (c % 64):=by unfold qch;congr 1;simp;omega
 match m,g with
 |0,_=>rfl
 |1,_=>simp[gg,RT,d]
 |2,_=>simp[gg,RT,d,e]
 |3,_=>simp[gg,RT,d,e,f]
 |4,_=>simp[gg,RT,d,e,f,i]
theorem Bi5{a b:Int}(d:0<=a/\a<=255)(e:0<=b/\b<=255):Vm .u64 (a*65536) (b*256)=a*65536+b*256:=by
 obtain⟨a,rfl⟩:=g8 d.1;have:=(KD (a:=b*256) (c:=(a:Int)*65536) 16 a Ω (by simp;omega) Ψ Ω).2
 rw[this];omega
theorem Brd(b:0<=y/\y<=65535)(d:0<=c/\c<=255):Vm .u64 (y*256) c=y*256+c:=by
 obtain⟨y,rfl⟩:=g8 b.1;have:=(KD (a:=c) (c:=(y:Int)*256) 8 y Ω (by simp;omega) Ψ Ω).2
 rw[this];omega
theorem A5t{CI:Nat}{a0:Ae}(s:Ch l)(Z:l.length<=100000)(Be:10<=u):∀(q:Nat)(r:Ak)(i nn:Nat)(e:Ak),l.drop i=r->i<=l.length+3->r.length<=q->q+1<=nn->e.length+4*r.length<=1000000 ->
  Dw u (Ac (CP p) prog u d) CI a0 nn l.length (Af .u8 l) (Ab e) (i:Int)=some ⟨[Bg (Ab (e++Ge r))],[]⟩:=by
 intro q
 induction q with
 |zero=>
  intro r i nn e hd v J Es g;have h:r=[]:=kb Ω;subst h;obtain⟨k,rfl⟩:∃k,nn=k+1:=⟨nn-1,Ω⟩
  have hi:=drop_nil hd;have j:=dF (q:=(i:Int)<(l.length:Int)) Ω;rw[G6];simp only[Aq,Ar,j,Ge,vy]
 |succ q w=>
  intro r i nn e hd v J Es g;obtain⟨k,rfl⟩:∃k,nn=k+1:=⟨nn-1,Ω⟩
  cases r with
  |nil=>
   have hi:=drop_nil hd;have j:=dF (q:=(i:Int)<(l.length:Int)) Ω;rw[G6];simp only[Aq,Ar,j,Ge,vy]
  |cons a S=>
   obtain⟨hi,K,z⟩:=Cb hd;have m:=s a (zn K);have Ev:=congrArg wy hd;rw[List.length_drop] at Ev;have j:=dT (q:=(i:Int)<(l.length:Int)) Ω;have A:decide ((0:Int)<=(i:Int))=true:=Ψ
   have B:f9 (Af .u8 l) (wj (i:Int)*1) PV.top=.sc (.int .u8 a):=by rw[Hy,Jp];exact Tm K
   have C:wrap .u64 a=a:=Cq
   have D:Dv .u64 a 16=a*65536:=by
    have:=RK (a:=a) (k:=16) m.1 Ω Ω (by simp;omega)
    rw[this];simp
   have E:wrap .i64 ((i:Int)+1)=((i+1:Nat):Int):=Bc
   have G:wrap .i64 ((i:Int)+2)=((i+2:Nat):Int):=Bc
   have L:decide ((0:Int)<=((i+1:Nat):Int))=true:=dT Ω;have T:decide ((0:Int)<=((i+2:Nat):Int))=true:=dT Ω;rw[G6];cases S with
   |nil=>
    simp only[M9,SO] at Ev;have o:=dF (q:=((i+1:Nat):Int)<(l.length:Int)) Ω;have c1:=dF (q:=((i+2:Nat):Int)<(l.length:Int)) Ω;have MK:=At2 (u:=u) (d:=d) (p:=p) (CI:=CI) (a0:=a0) (m0:=k) (y0:=l.length) (y1:=Af .u8 l) (i:=i) (x:=a*65536) Ω Ω hi Ω 2 Ω 2 0 u e rfl Ω (by simp at g;omega)
    have Td:=Aqw (a:=a) (b:=0) (c:=0) (λx f=>by simp at f;rcases f with rfl|rfl<;>omega) 2 Ω
    rw[show a*65536+0*256+0=a*65536 by omega] at Td;rw[Td] at MK;have h:=w [] (i+3) k (e++(RT a 0 0).take 2) (f8 Ω) Ω Ψ Ω (by simp[RT] at g ⊢;omega)
    simp only[Aq,Ar,j,A,B,C,D,E,G,o,c1];refine MK.trans (h.trans ?_);simp[Ge,RT]
   |cons b U=>
    obtain⟨V,M,TM⟩:=Cb z;have n:=s b (zn M);have o:=dT (q:=((i+1:Nat):Int)<(l.length:Int)) Ω;have N:f9 (Af .u8 l) (wj ((i+1:Nat):Int)*1) PV.top=.sc (.int .u8 b):=by rw[Hy,Jp];exact Tm M
    have O:wrap .u64 b=b:=Cq
    have P:Dv .u64 b 8=b*256:=by
     have:=RK (a:=b) (k:=8) n.1 Ω Ω (by simp;omega)
     rw[this];simp
    have Q:=Bi5 m n;cases U with
    |nil=>
     simp only[M9,SO] at Ev;have c1:=dF (q:=((i+2:Nat):Int)<(l.length:Int)) Ω;have MK:=At2 (u:=u) (d:=d) (p:=p) (CI:=CI) (a0:=a0) (m0:=k) (y0:=l.length) (y1:=Af .u8 l) (i:=i) (x:=a*65536+b*256) Ω Ω hi Ω 3 Ω 3 0 u e rfl Ω (by simp at g;omega)
     have Td:=Aqw (a:=a) (b:=b) (c:=0) (λx f=>by simp at f;rcases f with rfl|rfl|rfl<;>omega) 3 Ω
     rw[show a*65536+b*256+0=a*65536+b*256 by omega] at Td;rw[Td] at MK;have h:=w [] (i+3) k (e++(RT a b 0).take 3) (f8 Ω) Ω Ψ Ω (by simp[RT] at g ⊢;omega)
     simp only[Aq,Ar,j,A,B,C,D,E,G,o,L,N,O,P,Q,c1];refine MK.trans (h.trans ?_);simp[Ge,RT]
    |cons c t=>
     obtain⟨W,R,H⟩:=Cb TM;have KU:=s c (zn R);simp only[M9] at Ev;have c1:=dT (q:=((i+2:Nat):Int)<(l.length:Int)) Ω;have c2:f9 (Af .u8 l) (wj ((i+2:Nat):Int)*1) PV.top=.sc (.int .u8 c):=by rw[Hy,Jp];exact Tm R
     have X:wrap .u64 c=c:=Cq
     have Y:Vm .u64 (a*65536+b*256) c=a*65536+b*256+c:=by
      have:=Brd (y:=a*256+b) (c:=c) Ω KU;rw[show (a*256+b)*256=a*65536+b*256 by omega] at this;exact this
     have MK:=At2 (u:=u) (d:=d) (p:=p) (CI:=CI) (a0:=a0) (m0:=k) (y0:=l.length) (y1:=Af .u8 l) (i:=i) (x:=a*65536+b*256+c) Ω Ω hi Ω 4 Ω 4 0 u e rfl Ω (by simp at g;omega)
     have Td:=Aqw (a:=a) (b:=b) (c:=c) (λx f=>by simp at f;rcases f with rfl|rfl|rfl<;>omega) 4 Ω
     rw[Td] at MK;have h:=w t (i+3) k (e++(RT a b c).take 4) H Ω (by simp at J;omega) Ω (by simp[RT] at g ⊢;omega)
     simp only[Aq,Ar,j,A,B,C,D,E,G,o,L,N,O,P,Q,T,c1,c2,X,Y];refine MK.trans (h.trans ?_);simp[Ge,RT]
theorem Atn(a:Ch l)(b:l.length<=100000)(Be:10<=u)(IV:l.length+1<=u):Ac (CP p) prog u (d+1) 42 [.lst false 1 l.length (Af .u8 l)]=some ⟨[Bg (Ab (Ge l))],[]⟩:=by
 rw[Xs];have:=A5t (u:=u) (d:=d) (p:=p) (CI:=l.length) (a0:=Af .u8 l) a b Be l.length l 0 u [] rfl Ω (Cz _) IV (by simp;omega)
 exact this
theorem Ba8:∀{l:Ak},Ch l->Ch (Ge l)
 |[],_=>λx d=>nomatch d
 |[a],h=>by
  obtain⟨f,_⟩:=Ck h;intro x d;simp[Ge] at d;rcases d with rfl|rfl<;>apply Ad3<;>omega
 |[a,b],h=>by
  obtain⟨f,h⟩:=Ck h;obtain⟨g,_⟩:=Ck h;intro x d;simp[Ge] at d;rcases d with rfl|rfl|rfl<;>apply Ad3<;>omega
 |a::b::c::r,h=>by
  obtain⟨f,h⟩:=Ck h;obtain⟨g,h⟩:=Ck h;obtain⟨i,h⟩:=Ck h;intro x d;have e:Ge (a::b::c::r)=K7 (a / 4)::K7 (a % 4*16+b / 16)::K7 (b % 16*4+c / 64)::K7 (c % 64)::Ge r:=rfl;rw[e] at d;rcases zl.1 d with rfl|d
  ·apply Ad3<;>omega
  rcases zl.1 d with rfl|d
  ·apply Ad3<;>omega
  rcases zl.1 d with rfl|d
  ·apply Ad3<;>omega
  rcases zl.1 d with rfl|d
  ·apply Ad3<;>omega
  exact Ba8 h x d
def fI(c:Int):Ak->Int->Int
 |[],_=>64
 |x::r,i=>if x=c then i else fI c r (i+1)
theorem Bbz:∀n:Fin 256,fI (n.val:Int) (Cp CU) 0=Br (n.val:Int):=by decide +kernel
theorem Asu{F:An}{a0 c:Int}:∀(r:Ak)(i nn:Nat),(Cp CU).drop i=r->r.length+1<=nn->i<=64 ->
  H1 u F a0 nn c (i:Int)=some ⟨[Ah (fI c r i)],[]⟩
 |[],i,nn,hd,Es,hi=>by
  obtain⟨k,rfl⟩:∃k,nn=k+1:=⟨nn-1,Ω⟩
  have h:=drop_nil hd;have f:(Cp CU).length=64:=rfl;have a:=dF (q:=(i:Int)<64) Ω;rw[Oa];simp only[Aq,Ar,a];rfl
 |x::r,i,nn,hd,Es,hi=>by
  obtain⟨k,rfl⟩:∃k,nn=k+1:=⟨nn-1,Ω⟩
  obtain⟨o,g,j⟩:=Cb hd;have f:(Cp CU).length=64:=rfl;have p:=Asu (F:=F) (a0:=a0) (c:=c) r (i+1) k j (by simp at Es;omega) Ω
  have a:=dT (q:=(i:Int)<64) Ω;have m:decide ((0:Int)<=(i:Int))=true:=Ψ
  obtain⟨b,l,rfl⟩:∃b:UInt8,(mf CU.data)[i]?=some b/\(b.toNat:Int)=x:=by
   unfold Cp at g;rw[zr] at g;obtain⟨b,l,h⟩:=nq.1 g;exact⟨b,l,h⟩
  have n:(mf CU.data)[wj (i:Int)]?=some b:=by rw[Hy];exact l
  have s:wrap .u64 (i:Int)=(i:Int):=Cq;have t:wrap .i64 ((i:Int)+1)=((i+1:Nat):Int):=Bc
  have v:(ByteArray.mk #[65,66,67,68,69,70,71,72,73,74,75,76,77,78,79,80,81,82,83,84,85,86,87,88,89,90,97,98,99,100,101,102,103,104,105,106,107,108,109,110,111,112,113,114,115,116,117,118,119,120,121,122,48,49,50,51,52,53,54,55,56,57,45,95])=CU:=rfl;rw[Oa,v];by_cases d:(b.toNat:Int)=c
  ·have q:((b.toNat:Int)==c)=true:=by simp[d]
   have e:fI c ((b.toNat:Int)::r) i=i:=by
    show (if (b.toNat:Int)=c then (i:Int) else _)=_;rw[Bv d]
   rw[e];simp only[Aq,Ar,a,m,n,q,s]
  ·have q:((b.toNat:Int)==c)=false:=by simp[d]
   have e:fI c ((b.toNat:Int)::r) i=fI c r ((i+1:Nat):Int):=by
    show (if (b.toNat:Int)=c then (i:Int) else fI c r ((i:Int)+1))=_;rw[Bd d];rfl
   rw[e];simp only[Aq,Ar,a,m,n,q,t];exact p
theorem Bcn(a:0<=c/\c<=255)(Be:100<=u):Ac (CP p) prog u (d+1) 164 [.sc (.int .u8 c)]=some ⟨[Ah (Br c)],[]⟩:=by
 rw[GM];have h:=Asu (u:=u) (F:=Ac (CP p) prog u d) (a0:=c) (c:=c) (Cp CU) 0 u rfl (by have:(Cp CU).length=64:=rfl;omega) Ω
 refine h.trans ?_;obtain⟨n,rfl⟩:=g8 a.1;have:=Bbz ⟨n,Ω⟩;have e:fI ((n:Nat):Int) (Cp CU) ((0:Nat):Int)=Br ((n:Nat):Int):=this;rw[e]
theorem Apq:∀{l:Ak}{n bits:Int}{b:Ak},Te n bits l=some b->Ch b
 |[],_,_,_,h=>by cases h;exact λx a=>nomatch a
 |c::r,n,bits,b,h=>by
  unfold Te at h;split at h
  ·cases h
  split at h
  ·cases d:Te ((n*64+Br c) % 65536) (bits-2) r with
   |none=>rw[d] at h;cases h
   |some e=>
    rw[d] at h;cases h;intro x a;rcases zl.1 a with rfl|a
    ·omega
    ·exact Apq d x a
  ·exact Apq h
theorem A7n(l:Ak):Nr l=match Te 0 0 l with|none=>none|some b=>if Ge b=l then some b else none:=by
 cases hd:Nr l with
 |some b=>
  obtain⟨a,d⟩:=Ask hd;have c:=Atd d 0 Ω;rw[a] at c;rw[c];simp only[a,if_true]
 |none=>
  cases e:Te 0 0 l with
  |none=>rfl
  |some b=>
   simp only;split
   ·rename_i h;have:=Ahz (Apq e);rw[h,hd] at this;cases this
   ·rfl
theorem Bm0{n v:Int}(b:0<=n/\n<65536)(e:0<=v/\v<64):Vm .u64 (Dv .u64 n 6) v=n*64+v:=by
 have h:=RK (a:=n) (k:=6) b.1 Ω Ω (by simp;omega)
 have d:Dv .u64 n 6=n*64:=by rw[h];simp
 rw[d];obtain⟨n,rfl⟩:=g8 b.1;have:=(KD (a:=v) (c:=(n:Int)*64) 6 n Ω (by simp;omega) Ψ Ω).2
 rw[this];omega
theorem Aht{a0:ByteArray}{l:Ak}(B:Ch l)(L:l.length<=100000)(Be:100<=u)(IV:l.length+1<=u):∀(r:Ak)(i nn:Nat)(n bits:Int)(a:Ak),l.drop i=r->r.length+1<=nn->0<=n->n<65536->(bits=0\/bits=2\/bits=4\/bits=6)->a.length+r.length<=l.length->Ch a ->
  Er u (Ac (CP p) prog u (d+1)) a0 nn (Ab l) a.length n bits (i:Int) (Af .u8 a)=some (match Te n bits r with|none=>⟨[.own 1 0 [],Av 2],[]⟩|some b=>if Ge (a++b)=l then ⟨[.own 1 (a++b).length (Af .u8 (a++b)),Av 0],[]⟩ else ⟨[.own 1 0 [],Av 2],[]⟩)
 |[],i,nn,n,bits,a,hd,Es,M,N,U,j,f=>by
  obtain⟨k,rfl⟩:∃k,nn=k+1:=⟨nn-1,Ω⟩
  have hi:=drop_nil hd;have o:=dF (q:=(i:Int)<(((Ab l).size:Nat):Int)) (by rw[Ai];omega)
  have s:decide (0+a.length*1<=wy (Af .u8 a))=true:=by rw[Al];simp
  have w:decide (a.length*1<=wy (Af .u8 a))=true:=by rw[Al];simp
  have t:yt (a.length*1) (nb 0 (Af .u8 a))=Af .u8 a:=Gp (by rw[Jo,Al];omega)
  have z:yt (a.length*1) (Af .u8 a)=Af .u8 a:=Gp (by rw[Al];omega)
  have e:Ac (CP p) prog u (d+1) 42 [.lst false 1 a.length (Af .u8 a)]=_:=Atn (u:=u) (d:=d) (p:=p) f (by simp at j;omega) Ω (by simp at j;omega)
  rw[Kf];have G:Te n bits []=some []:=rfl;rw[G];simp only[vy];by_cases m:Ge a=l
  ·have q:(mf (Ab (Ge a)).data==mf (Ab l).data)=true:=by rw[m];simp
   rw[Bv m];simp only[Aq,Ar,o,s,w,t,z,e,q,Gc]
  ·have q:(mf (Ab (Ge a)).data==mf (Ab l).data)=false:=by
    rw[b4,ne_eq,beq_iff_eq];intro h;apply m
    have V:Ab (Ge a)=Ab l:=by
     cases H:Ab (Ge a);cases O:Ab l;rw[H,O] at h;exact congrArg ByteArray.mk (m9.1 h)
    have W:=congrArg Cp V
    rwa [Cw B,Cw (Ba8 f)] at W
   rw[Bd m];simp only[Aq,Ar,o,s,w,t,z,e,q,Ix]
 |c::r,i,nn,n,bits,a,hd,Es,M,N,U,j,f=>by
  obtain⟨k,rfl⟩:∃k,nn=k+1:=⟨nn-1,Ω⟩
  obtain⟨hi,m,A⟩:=Cb hd;have KU:=B c (zn m);have X:=Jh c;have e:Ac (CP p) prog u (d+1) 164 [.sc (.int .u8 c)]=_:=Bcn (u:=u) (d:=d) (p:=p) KU Be;have o:=dT (q:=(i:Int)<(((Ab l).size:Nat):Int)) (by rw[Ai];omega)
  have s:decide ((0:Int)<=(i:Int))=true:=Ψ
  have t:(mf (Ab l).data)[wj (i:Int)]?=some c.toNat.toUInt8:=by
   rw[Hy];show (l.map λn=>n.toNat.toUInt8)[i]?=_;rw[zr,m];rfl
  have J:=Nz KU;have P:wrap .i64 ((i:Int)+1)=((i+1:Nat):Int):=Bc
  have G:Te n bits (c::r)=if Br c>63 then none else if bits+6>=8 then (Te ((n*64+Br c) % 65536) (bits-2) r).map (((n*64+Br c) % 65536 / 2 ^ (bits-2).toNat % 256) :: ·) else Te ((n*64+Br c) % 65536) (bits+6) r:=rfl
  rw[Kf,G];by_cases g:Br c>63
  ·have C:=dT g;rw[Bv g];simp only[Aq,Ar,o,s,t,J,e,C]
  ·have C:=dF g;have Q:=Bm0 (n:=n) (v:=Br c) ⟨M,N⟩ ⟨X.1,Ω⟩;have R:=Aur (x:=n*64+Br c) Ω Ω;have S:wrap .u64 (bits+6)=bits+6:=Cq;rw[Bd g];by_cases D:bits+6>=8
   ·have K:=dT D;have Y:wrap .u64 (bits+6-8)=bits-2:=by rw[Cq];omega
    have Z:=dT (q:=(0:Int)<=bits-2) Ω
    have b8:E4 .u64 ((n*64+Br c) % 65536) (bits-2)=(n*64+Br c) % 65536 / 2 ^ (bits-2).toNat:=by
     have:=Bbo (x:=(n*64+Br c) % 65536) (k:=(bits-2).toNat) Ω;rw[show (((bits-2).toNat:Nat):Int)=bits-2 by omega] at this;rw[this];simp
    have T:wrap .u8 ((n*64+Br c) % 65536 / 2 ^ (bits-2).toNat)=(n*64+Br c) % 65536 / 2 ^ (bits-2).toNat % 256:=by
     simp only[wrap,IntKind.bits,IntKind.signed,SK,qf,if_false];rfl
    generalize O:(n*64+Br c) % 65536 / 2 ^ (bits-2).toNat % 256=y at T;have hyB:0<=y/\y<=255:=Ω
    have c1:decide (a.length*1<=wy (Af .u8 a))=true:=by rw[Al];simp
    have c2:=dT (q:=(a.length+1)*1<=1099511627776) (by simp at j;omega)
    have c3:=dT (q:=a.length+1<=1099511627776) (by simp at j;omega)
    have c4:yt (a.length*1) (Af .u8 a)++[PV.sc (.int .u8 y)]=Af .u8 (a++[y]):=by
     rw[Gp (by rw[Al];omega)]
     exact Nk .u8 a y
    have E:=Aht (a0:=a0) B L Be IV r (i+1) k ((n*64+Br c) % 65536) (bits-2) (a++[y]) A (by simp at Es;omega) Ω Ω Ω (by simp at j ⊢;omega) (Rh f (λx H=>by simp at H;omega))
    rw[show (a++[y]).length=a.length+1 by simp] at E;rw[Bv D];simp only[Aq,Ar,o,s,t,J,e,C,Q,R,S,K,Y,Z,b8,T,c1,c2,c3,c4,P];refine E.trans ?_;cases Te ((n*64+Br c) % 65536) (bits-2) r with
    |none=>rfl
    |some b=>simp
   ·have K:=dF D;have E:=Aht (a0:=a0) B L Be IV r (i+1) k ((n*64+Br c) % 65536) (bits+6) a A (by simp at Es;omega) Ω Ω Ω (by simp at j ⊢;omega) f
    rw[Bd D];simp only[Aq,Ar,o,s,t,J,e,C,Q,R,S,K,P];exact E
theorem A8q(a:Ch l)(c:l.length<=100000)(Be:100<=u)(IV:l.length+1<=u):Ac (CP p) prog u (d+2) 143 [Bg (Ab l)]=some (match Nr l with|none=>⟨[.own 1 0 [],Av 2],[]⟩|some b=>⟨[.own 1 b.length (Af .u8 b),Av 0],[]⟩):=by
 rw[X4];have h:=Aht (u:=u) (d:=d) (p:=p) (a0:=Ab l) a c Be IV l 0 u 0 0 [] rfl IV Ω Ω (.inl rfl) Ψ (λx e=>nomatch e);refine h.trans ?_;rw[A7n];cases Te 0 0 l with
 |none=>rfl
 |some b=>
  simp only[SJ];split<;>rfl
end
section
variable {I:FuncId->Option (Ae->Option A3)}(u d:Nat)(F:An)
theorem PW(u d Z:Nat)(Y:Ae):Ac (CP p) prog u (d+1) 4 [Am 1 Z Y]=(λ(F:An)=>A9 [.pbox [Am 1 Z Y,(0:Int)]]) (Ac (CP p) prog u d):=Κ
theorem RL(u d:Nat)(Z Y:Int):Ac (CP p) prog u (d+1) 17 [Z,Y]=(λ(F:An)=>Aa (wrap .u64 Z) λa=>Aa (wrap .u64 Y) λb=>As (decide (b≠0))<|Aa (nr a b) λa=>Aa (wrap .i64 a) λa=>A9 [a]) (Ac (CP p) prog u d):=Κ
theorem Ji(u d Z:Nat)(Y:Ae)(X W:Int):Ac (CP p) prog u (d+1) 7 [.pbox [Am 1 Z Y,X],W]=(λ(F:An)=>Ap (decide (X>=(↑Z:Int))) (some ⟨[(0:Int)],[[Am 1 Z Y,X]]⟩) (Aa (wrap .i64 (X+1)) λa=>Aa (wrap .i64 (a-1)) λb=>As (decide (0<=b)&&decide (b<(↑Z:Int)))<|Bi .i64 (Y.getD (b.toNat*1) .top) λb=>Gn .i64 (F 17 [b,W]) λb=>some ⟨[b],[[Am 1 Z Y,a]]⟩)) (Ac (CP p) prog u d):=Κ
theorem Zu(u d:Nat)(Z:Int):Ac (CP p) prog u (d+1) 12 [Z]=(λ(F:An)=>Gn .i64 (F 17 [Z,(6:Int)]) λa=>As (decide (0<=a)&&decide (a<6))<|At (f9 [Bg ⟨#[104,116,116,112,115,58,47,47,101,120,97,109,112,108,101,46,99,111,109]⟩,Bg ⟨#[104,116,116,112,115,58,47,47,108,111,103,105,110,46,101,120,97,109,112,108,101,46,99,111,109]⟩,Bg ⟨#[104,116,116,112,115,58,47,47,101,118,105,108,46,116,101,115,116]⟩,Bg ⟨#[104,116,116,112,58,47,47,108,111,99,97,108,104,111,115,116,58,56,48,56,48]⟩,Bg ⟨#[104,116,116,112,115,58,47,47,98,46,99,111,46,117,107]⟩,Bg ⟨#[104,116,116,112,58,47,47,101,120,97,109,112,108,101,46,99,111,109]⟩] (0+a.toNat*1) .top) λa=>A9 [a]) (Ac (CP p) prog u d):=Κ
end
section
variable {I:FuncId->Option (Ae->Option A3)}(u d:Nat)(F:An)
theorem LS(u d:Nat)(Y Z:Int):Ac (CP p) prog u (d+1) 6 [Y,Z]=(λ(F:An)=>Aa (wrap .u64 Y) λa=>Aa (wrap .u64 (a+1)) λa=>Aa (if 1024<Z then 1024 else Z) λb=>Aa (if b<0 then 0 else b) λb=>Cn (F 21 [Ah a,Ah 7,b]) λa b=>K5 1 a λa c=>Ag b<|As (decide (a*1<=c.length))<|A9 [.own 1 a (c.take (a*1))]) (Ac (CP p) prog u d):=Κ
end
section
variable {I:FuncId->Option (Ae->Option A3)}(u d:Nat)(F:An)
theorem Zp(u d:Nat)(Z:ByteArray)(Y X W:Int):Ac (CP p) prog u (d+1) 162 [.pbox [Z,Y,X],W]=(λ(F:An)=>Ap (X==0) (some ⟨[],[[Z,Y,W]]⟩) (some ⟨[],[[Z,Y,X]]⟩)) (Ac (CP p) prog u d):=Κ
theorem Zf(u d:Nat)(Y:ByteArray)(Z X:Int):Ac (CP p) prog u (d+1) 160 [.pbox [Y,Z,X]]=(λ(F:An)=>(λb:Option A3=>Ap (X != 0) b (Ap (decide (Z>=(↑(mm Y):Int))) b (As (decide (0<=Z))<|Dq ((mf (ml Y))[Z.toNat]?) λa=>some ⟨[.sc (.int .u8 (↑(nx a):Int))],[[Y,Z,X]]⟩))) (some ⟨[.sc (.int .u8 0)],[[Y,Z,X]]⟩)) (Ac (CP p) prog u d):=Κ
def Fu(Z:ByteArray)(Y X:Int)(W:Nat)(V:ByteArray)(U T:Int):Option A3:=Hq u F 158 Tryz.f158 [.pbox [Z,Y,X]] [.l] W ⟨lk [(0,.ptr 52000 0)],Fb [(52000,.st [V,U,T])]⟩
theorem Tv(Z:ByteArray)(Y X:Int)(W:Nat)(V:ByteArray)(U T:Int):Fu u F Z Y X (W+1) V U T=(Ao (F 160 [.pbox [V,U,T]]) λa b=>Bq .u8 a λa=>Ad b λb c=>Ad b λb e=>At b λb=>Bu .i64 e λe f=>Bq .i64 f λf=>(λg:Option A3=>Ag c<|Ap (a != 32) (Ap (a != 9) (Ap (a != 10) (Ap (a != 13) (some ⟨[],[[b,e,f]]⟩) g) g) g) g) (Aa (wrap .i64 (e+1)) λa=>Fu u F Z Y X W b a f)):=Κ
theorem Xp(u d:Nat)(Z:ByteArray)(Y X:Int):Ac (CP p) prog u (d+1) 158 [.pbox [Z,Y,X]]=(λ(F:An)=>Fu u F Z Y X u Z Y X) (Ac (CP p) prog u d):=Κ
theorem Vt(u d:Nat)(Y:ByteArray)(X W Z:Int):Ac (CP p) prog u (d+1) 159 [.pbox [Y,X,W],.sc (.int .u8 Z)]=(λ(F:An)=>Ao (F 160 [.pbox [Y,X,W]]) λa b=>Bq .u8 a λa=>Ad b λb c=>Ad b λb e=>At b λb=>Bu .i64 e λe f=>Bq .i64 f λf=>(λg:Option A3=>Ag c<|Ap (a != Z) g (Ap (Z==0) g (Aa (wrap .i64 (e+1)) λa=>some ⟨[],[[b,a,f]]⟩))) (Ao (F 162 [.pbox [b,e,f],(2:Int)]) λa b=>Ag a<|Ad b λa b=>Ad a λa c=>At a λa=>Bu .i64 c λc e=>Bq .i64 e λe=>Ag b<|some ⟨[],[[a,c,e]]⟩)) (Ac (CP p) prog u d):=Κ
def D6(Z:ByteArray)(Y X:Int)(W:Nat)(V U:Int)(T:ByteArray)(S Q:Int):Option A3:=Hq u F 194 Tryz.f194 [.pbox [Z,Y,X]] [.r,.r,.l,.r,.l] W ⟨lk [(0,.ptr 118000 0),(3,.sc (.int .i32 V)),(4,U)],Fb [(118000,.st [T,S,Q])]⟩
theorem Ly(X:ByteArray)(W V:Int)(U:Nat)(Z Y:Int)(T:ByteArray)(S Q:Int):D6 u F X W V (U+1) Z Y T S Q=(Ap (decide (Y<4)) (Ao (F 160 [.pbox [T,S,Q]]) λa b=>Bq .u8 a λa=>Ad b λb c=>Ad b λb e=>At b λb=>Bu .i64 e λe f=>Bq .i64 f λf=>Ag c<|Cn (F 118 [.sc (.int .u8 a)]) λc g=>Bh c λc=>(λi:Option A3=>(λh:Option A3=>Ag g<|Ap c (Aa (Dv .i32 Z 4) λc=>Aa (wrap .u8 (a-48)) λa=>Aa (wrap .i32 a) λa=>Aa (Vm .i32 c a) λa=>Aa (wrap .i64 (e+1)) λc=>Aa (wrap .i64 (Y+1)) λe=>D6 u F X W V U a e b c f) (Ap (decide (a>=97)) (Ap (decide (a<=102)) (Aa (Dv .i32 Z 4) λc=>Aa (wrap .u8 (a-97)) λa=>Aa (wrap .u8 (a+10)) λa=>Aa (wrap .i32 a) λa=>Aa (Vm .i32 c a) λa=>Aa (wrap .i64 (e+1)) λc=>Aa (wrap .i64 (Y+1)) λe=>D6 u F X W V U a e b c f) h) h)) (Ap (decide (a>=65)) (Ap (decide (a<=70)) (Aa (Dv .i32 Z 4) λc=>Aa (wrap .u8 (a-65)) λa=>Aa (wrap .u8 (a+10)) λa=>Aa (wrap .i32 a) λa=>Aa (Vm .i32 c a) λa=>Aa (wrap .i64 (e+1)) λc=>Aa (wrap .i64 (Y+1)) λe=>D6 u F X W V U a e b c f) i) i)) (Ao (F 162 [.pbox [b,e,f],(2:Int)]) λa b=>Ag a<|Ad b λa b=>Ad a λa c=>At a λa=>Bu .i64 c λc e=>Bq .i64 e λe=>Ag b<|some ⟨[.sc (.int .i32 0)],[[a,c,e]]⟩)) (some ⟨[.sc (.int .i32 Z)],[[T,S,Q]]⟩)):=Κ
theorem BD(u d:Nat)(Z:ByteArray)(Y X:Int):Ac (CP p) prog u (d+1) 194 [.pbox [Z,Y,X]]=(λ(F:An)=>D6 u F Z Y X u 0 0 Z Y X) (Ac (CP p) prog u d):=Κ
theorem V1(u d:Nat)(Z:ByteArray)(Y X:Int):Ac (CP p) prog u (d+1) 176 [.pbox [Z,Y,X]]=(λ(F:An)=>Ao (F 160 [.pbox [Z,Y,X]]) λa b=>Bq .u8 a λa=>Ad b λb c=>Ad b λb e=>At b λb=>Bu .i64 e λe f=>Bq .i64 f λf=>Ag c<|Aa (wrap .i64 (e+1)) λc=>(λk:Option A3=>Ap (a==34) k (Ap (a==92) k (Ap (a==47) k (Ap (a==98) (some ⟨[Bg ⟨#[8]⟩],[[b,c,f]]⟩) (Ap (a==102) (some ⟨[Bg ⟨#[12]⟩],[[b,c,f]]⟩) (Ap (a==110) (some ⟨[Bg ⟨#[10]⟩],[[b,c,f]]⟩) (Ap (a==114) (some ⟨[Bg ⟨#[13]⟩],[[b,c,f]]⟩) (Ap (a==116) (some ⟨[Bg ⟨#[9]⟩],[[b,c,f]]⟩) (Ap (a==117) (Ao (F 194 [.pbox [b,c,f]]) λa b=>Bq .i32 a λa=>Ad b λb c=>Ad b λb e=>At b λb=>Bu .i64 e λe f=>Bq .i64 f λf=>(λn:Option A3=>(λh:Option A3=>Ag c<|Ap (decide (a>=56320)) (Ap (decide (a<=57343)) (Ao (F 162 [.pbox [b,e,f],(2:Int)]) λb c=>Ag b<|Ad c λb c=>Ad b λb e=>At b λb=>Bu .i64 e λe f=>Bq .i64 f λf=>(λm:Option A3=>Ag c<|Ap (decide (a>=55296)) (Ap (decide (a<=56319)) (Ao (F 159 [.pbox [b,e,f],.sc (.int .u8 92)]) λb c=>Ag b<|Ad c λb c=>Ad b λb e=>At b λb=>Bu .i64 e λe f=>Bq .i64 f λf=>Ag c<|Ao (F 159 [.pbox [b,e,f],.sc (.int .u8 117)]) λb c=>Ag b<|Ad c λb c=>Ad b λb e=>At b λb=>Bu .i64 e λe f=>Bq .i64 f λf=>Ag c<|Ao (F 194 [.pbox [b,e,f]]) λb c=>Bq .i32 b λb=>Ad c λc e=>Ad c λc f=>At c λc=>Bu .i64 f λf g=>Bq .i64 g λg=>(λi:Option A3=>Ag e<|Ap (decide (b<56320)) i (Ap (decide (b>57343)) i (Aa (wrap .i32 (a-55296)) λa=>Aa (Dv .i32 a 10) λa=>Aa (wrap .i32 (65536+a)) λa=>Aa (wrap .i32 (b-56320)) λb=>Aa (wrap .i32 (a+b)) λa=>Aa (runesBytes ((λx=>a::x) [])) λa=>some ⟨[a],[[c,f,g]]⟩))) (Ao (F 162 [.pbox [c,f,g],(2:Int)]) λa b=>Ag a<|Ad b λa b=>Ad a λa c=>At a λa=>Bu .i64 c λc e=>Bq .i64 e λe=>Ag b<|some ⟨[Bg ⟨#[]⟩],[[a,c,e]]⟩)) m) m) (Aa (runesBytes ((λx=>a::x) [])) λa=>some ⟨[a],[[b,e,f]]⟩)) h) h) (Ap (decide (a>=55296)) (Ap (decide (a<=56319)) (Ao (F 159 [.pbox [b,e,f],.sc (.int .u8 92)]) λb c=>Ag b<|Ad c λb c=>Ad b λb e=>At b λb=>Bu .i64 e λe f=>Bq .i64 f λf=>Ag c<|Ao (F 159 [.pbox [b,e,f],.sc (.int .u8 117)]) λb c=>Ag b<|Ad c λb c=>Ad b λb e=>At b λb=>Bu .i64 e λe f=>Bq .i64 f λf=>Ag c<|Ao (F 194 [.pbox [b,e,f]]) λb c=>Bq .i32 b λb=>Ad c λc e=>Ad c λc f=>At c λc=>Bu .i64 f λf g=>Bq .i64 g λg=>(λj:Option A3=>Ag e<|Ap (decide (b<56320)) j (Ap (decide (b>57343)) j (Aa (wrap .i32 (a-55296)) λa=>Aa (Dv .i32 a 10) λa=>Aa (wrap .i32 (65536+a)) λa=>Aa (wrap .i32 (b-56320)) λb=>Aa (wrap .i32 (a+b)) λa=>Aa (runesBytes ((λx=>a::x) [])) λa=>some ⟨[a],[[c,f,g]]⟩))) (Ao (F 162 [.pbox [c,f,g],(2:Int)]) λa b=>Ag a<|Ad b λa b=>Ad a λa c=>At a λa=>Bu .i64 c λc e=>Bq .i64 e λe=>Ag b<|some ⟨[Bg ⟨#[]⟩],[[a,c,e]]⟩)) n) n)) (Aa (runesBytes ((λx=>a::x) [])) λa=>some ⟨[a],[[b,e,f]]⟩)) (Ao (F 162 [.pbox [b,c,f],(2:Int)]) λa b=>Ag a<|Ad b λa b=>Ad a λa c=>At a λa=>Bu .i64 c λc e=>Bq .i64 e λe=>Ag b<|some ⟨[Bg ⟨#[]⟩],[[a,c,e]]⟩)))))))))) (some ⟨[Bg (ByteArray.mk (bc ((λx=>nj a.toNat::x) [])))],[[b,c,f]]⟩)) (Ac (CP p) prog u d):=Κ
def D2(Z:ByteArray)(Y X:Int)(W:Nat)(V U:ByteArray)(T S:Int):Option A3:=Hq u F 161 Tryz.f161 [.pbox [Z,Y,X]] [.r,.r,.r,.l,.l] W ⟨lk [(0,.ptr 134000 0),(3,V)],Fb [(134000,.st [U,T,S])]⟩
theorem Hg(V:ByteArray)(U T:Int)(S:Nat)(W Z:ByteArray)(Y X:Int):D2 u F V U T (S+1) W Z Y X=(Ap (X==0) (Ap (decide (Y>=(↑(mm Z):Int))) (Ao (F 162 [.pbox [Z,Y,X],(2:Int)]) λa b=>Ag a<|Ad b λa b=>Ad a λa c=>At a λa=>Bu .i64 c λc e=>Bq .i64 e λe=>Ag b<|some ⟨[Bg ⟨#[]⟩],[[a,c,e]]⟩) (As (decide (0<=Y))<|Dq ((mf (ml Z))[Y.toNat]?) λa=>Ap (decide ((↑(nx a):Int)<32)) (Ao (F 162 [.pbox [Z,Y,X],(2:Int)]) λa b=>Ag a<|Ad b λa b=>Ad a λa c=>At a λa=>Bu .i64 c λc e=>Bq .i64 e λe=>Ag b<|some ⟨[Bg ⟨#[]⟩],[[a,c,e]]⟩) (As (decide (0<=Y))<|Dq ((mf (ml Z))[Y.toNat]?) λa=>Aa (wrap .i64 (Y+1)) λb=>Ap ((↑(nx a):Int)==34) (some ⟨[W],[[Z,b,X]]⟩) (Ap ((↑(nx a):Int)==92) (Ao (F 176 [.pbox [Z,b,X]]) λa b=>Ad a λa c=>At a λa=>Ag c<|Ad b λb c=>Ad b λb e=>At b λb=>Bu .i64 e λe f=>Bq .i64 f λf=>Ag c<|As (decide (mm W+mm a<=9223372036854775807))<|Aa (W++a) λa=>D2 u F V U T S a b e f) (As (decide (mm W+mm (ByteArray.mk (bc ((λx=>nj (wj (↑(nx a):Int))::x) [])))<=9223372036854775807))<|Aa (W++ByteArray.mk (bc ((λx=>nj (wj (↑(nx a):Int))::x) []))) λa=>D2 u F V U T S a Z b X))))) (some ⟨[Bg ⟨#[]⟩],[[Z,Y,X]]⟩)):=Κ
theorem Zo(u d:Nat)(Z:ByteArray)(Y X:Int):Ac (CP p) prog u (d+1) 161 [.pbox [Z,Y,X]]=(λ(F:An)=>Ao (F 159 [.pbox [Z,Y,X],.sc (.int .u8 34)]) λa b=>Ag a<|Ad b λa b=>Ad a λa c=>At a λa=>Bu .i64 c λc e=>Bq .i64 e λe=>Ag b<|D2 u F Z Y X u (ByteArray.mk #[]) a c e) (Ac (CP p) prog u d):=Κ
def F5(Z:ByteArray)(Y X:Int)(W:ByteArray)(V:Nat)(U:ByteArray)(T:Int)(S:ByteArray)(Q P:Int):Option A3:=Hq u F 178 Tryz.f178 [.pbox [Z,Y,X],W] [.r,.l] V ⟨lk [(0,.ptr 32000 0),(1,U),(4,T)],Fb [(32000,.st [S,Q,P])]⟩
theorem Kw(U:ByteArray)(T S:Int)(Q:ByteArray)(P:Nat)(Y:ByteArray)(Z:Int)(X:ByteArray)(W V:Int):F5 u F U T S Q (P+1) Y Z X W V=(Ap (decide (Z<(↑(mm Y):Int))) (As (decide (0<=Z))<|Dq ((mf (ml Y))[Z.toNat]?) λa=>Ao (F 159 [.pbox [X,W,V],.sc (.int .u8 (↑(nx a):Int))]) λa b=>Ag a<|Ad b λa b=>Ad a λa c=>At a λa=>Bu .i64 c λc e=>Bq .i64 e λe=>Ag b<|Aa (wrap .i64 (Z+1)) λb=>F5 u F U T S Q P Y b a c e) (some ⟨[],[[X,W,V]]⟩)):=Κ
theorem Zx(u d:Nat)(Z:ByteArray)(Y X:Int)(W:ByteArray):Ac (CP p) prog u (d+1) 178 [.pbox [Z,Y,X],W]=(λ(F:An)=>F5 u F Z Y X W u W 0 Z Y X) (Ac (CP p) prog u d):=Κ
def Eb(Z:ByteArray)(Y X:Int)(W:Nat)(V:ByteArray)(U T:Int):Option A3:=Hq u F 195 Tryz.f195 [.pbox [Z,Y,X]] [.r,.l] W ⟨lk [(0,.ptr 36000 0)],Fb [(36000,.st [V,U,T])]⟩
theorem S5(Z:ByteArray)(Y X:Int)(W:Nat)(V:ByteArray)(U T:Int):Eb u F Z Y X (W+1) V U T=(Ao (F 160 [.pbox [V,U,T]]) λa b=>Bq .u8 a λa=>Ad b λb c=>Ad b λb e=>At b λb=>Bu .i64 e λe f=>Bq .i64 f λf=>Ag c<|Cn (F 118 [.sc (.int .u8 a)]) λa c=>Bh a λa=>Ag c<|Ap a (Aa (wrap .i64 (e+1)) λa=>Eb u F Z Y X W b a f) (some ⟨[],[[b,e,f]]⟩)):=Κ
theorem Xf(u d:Nat)(Z:ByteArray)(Y X:Int):Ac (CP p) prog u (d+1) 195 [.pbox [Z,Y,X]]=(λ(F:An)=>Ao (F 160 [.pbox [Z,Y,X]]) λa b=>Bq .u8 a λa=>Ad b λb c=>Ad b λb e=>At b λb=>Bu .i64 e λe f=>Bq .i64 f λf=>Ag c<|Cn (F 118 [.sc (.int .u8 a)]) λa c=>Bh a λa=>Ag c<|Ap (!a) (Ao (F 162 [.pbox [b,e,f],(2:Int)]) λa b=>Ag a<|Ad b λa b=>Ad a λa c=>At a λa=>Bu .i64 c λc e=>Bq .i64 e λe=>Ag b<|Eb u F Z Y X u a c e) (Eb u F Z Y X u b e f)) (Ac (CP p) prog u d):=Κ
def Dn(Z:ByteArray)(Y X:Int)(W:Nat)(V:ByteArray)(U T:Int):Option A3:=Hq u F 179 Tryz.f179 [.pbox [Z,Y,X]] [.r] W ⟨lk [(0,.ptr 140000 0)],Fb [(140000,.st [V,U,T])]⟩
def Fm(Z:ByteArray)(Y X:Int)(W:Nat)(V:ByteArray)(U T:Int):Option A3:=Hq u F 179 Tryz.f179 [.pbox [Z,Y,X]] [.r,.r] W ⟨lk [(0,.ptr 140000 0)],Fb [(140000,.st [V,U,T])]⟩
theorem Sl(Y:ByteArray)(X W:Int)(Z:Nat)(Es:0<Z)(V:ByteArray)(U T:Int):Dn u F Y X W Z V U T=(Ao (F 160 [.pbox [V,U,T]]) λa b=>Bq .u8 a λa=>Ad b λb c=>Ad b λb e=>At b λb=>Bu .i64 e λe f=>Bq .i64 f λf=>Ag c<|Ap (a==46) (Aa (wrap .i64 (e+1)) λa=>Ao (F 195 [.pbox [b,a,f]]) λa b=>Ag a<|Ad b λa b=>Ad a λa c=>At a λa=>Bu .i64 c λc e=>Bq .i64 e λe=>Ag b<|Fm u F Y X W u a c e) (Fm u F Y X W u b e f)):=by cases Z with|zero=>exact absurd Es (wo 0)|succ Z=>kernel_rfl
theorem Tg(V:ByteArray)(U T:Int)(Z:Nat)(Es:0<Z)(Y:ByteArray)(X W:Int):Fm u F V U T Z Y X W=(Ao (F 160 [.pbox [Y,X,W]]) λa b=>Bq .u8 a λa=>Ad b λb c=>Ad b λb e=>At b λb=>Bu .i64 e λe f=>Bq .i64 f λf=>(λg:Option A3=>Ag c<|Ap (a==101) g (Ap (a==69) g (some ⟨[],[[b,e,f]]⟩))) (Aa (wrap .i64 (e+1)) λa=>Ao (F 160 [.pbox [b,a,f]]) λa b=>Bq .u8 a λa=>Ad b λb c=>Ad b λb e=>At b λb=>Bu .i64 e λe f=>Bq .i64 f λf=>(λh:Option A3=>Ag c<|Ap (a==43) h (Ap (a==45) h (Ao (F 195 [.pbox [b,e,f]]) λa b=>Ag a<|Ad b λa b=>Ad a λa c=>At a λa=>Bu .i64 c λc e=>Bq .i64 e λe=>Ag b<|some ⟨[],[[a,c,e]]⟩))) (Aa (wrap .i64 (e+1)) λa=>Ao (F 195 [.pbox [b,a,f]]) λa b=>Ag a<|Ad b λa b=>Ad a λa c=>At a λa=>Bu .i64 c λc e=>Bq .i64 e λe=>Ag b<|some ⟨[],[[a,c,e]]⟩))):=by cases Z with|zero=>exact absurd Es (wo 0)|succ Z=>kernel_rfl
theorem Vq(u d:Nat)(Z:ByteArray)(Y X:Int):Ac (CP p) prog u (d+1) 179 [.pbox [Z,Y,X]]=(λ(F:An)=>Ao (F 160 [.pbox [Z,Y,X]]) λa b=>Bq .u8 a λa=>Ad b λb c=>Ad b λb e=>At b λb=>Bu .i64 e λe f=>Bq .i64 f λf=>Ag c<|Ap (a==45) (Aa (wrap .i64 (e+1)) λa=>Ao (F 160 [.pbox [b,a,f]]) λa b=>Bq .u8 a λa=>Ad b λb c=>Ad b λb e=>At b λb=>Bu .i64 e λe f=>Bq .i64 f λf=>Ag c<|Ap (a==48) (Aa (wrap .i64 (e+1)) λa=>Dn u F Z Y X u b a f) (Ao (F 195 [.pbox [b,e,f]]) λa b=>Ag a<|Ad b λa b=>Ad a λa c=>At a λa=>Bu .i64 c λc e=>Bq .i64 e λe=>Ag b<|Dn u F Z Y X u a c e)) (Ao (F 160 [.pbox [b,e,f]]) λa b=>Bq .u8 a λa=>Ad b λb c=>Ad b λb e=>At b λb=>Bu .i64 e λe f=>Bq .i64 f λf=>Ag c<|Ap (a==48) (Aa (wrap .i64 (e+1)) λa=>Dn u F Z Y X u b a f) (Ao (F 195 [.pbox [b,e,f]]) λa b=>Ag a<|Ad b λa b=>Ad a λa c=>At a λa=>Bu .i64 c λc e=>Bq .i64 e λe=>Ag b<|Dn u F Z Y X u a c e))) (Ac (CP p) prog u d):=Κ
def Ci(Z:ByteArray)(Y X:Int)(W:Bool)(V:Int)(U:Nat)(T:Bool)(S Q:Int)(P:ByteArray)(O N:Int):Option A3:=Hq u F 177 Tryz.f177 [.pbox [Z,Y,X],W,V] [.r,.r,.r,.r,.r,.r,.l] U ⟨lk [(0,.ptr 134000 0),(1,T),(2,S),(6,.sc (.int .u8 Q))],Fb [(134000,.st [P,O,N])]⟩
theorem Ea(V:ByteArray)(U T:Int)(S:Bool)(Q:Int)(P:Nat)(X:Bool)(Z Y:Int)(O:ByteArray)(N W:Int):Ci u F V U T S Q (P+1) X Z Y O N W=(Ap (W==0) (Ao (F 158 [.pbox [O,N,W]]) λa b=>Ag a<|Ad b λa b=>Ad a λa c=>At a λa=>Bu .i64 c λc e=>Bq .i64 e λe=>Ag b<|Ap X (Ao (F 161 [.pbox [a,c,e]]) λa b=>Ad a λa c=>At a λa=>Ag c<|Ad b λa b=>Ad a λa c=>At a λa=>Bu .i64 c λc e=>Bq .i64 e λe=>Ag b<|Ao (F 158 [.pbox [a,c,e]]) λa b=>Ag a<|Ad b λa b=>Ad a λa c=>At a λa=>Bu .i64 c λc e=>Bq .i64 e λe=>Ag b<|Ao (F 159 [.pbox [a,c,e],.sc (.int .u8 58)]) λa b=>Ag a<|Ad b λa b=>Ad a λa c=>At a λa=>Bu .i64 c λc e=>Bq .i64 e λe=>Ag b<|Ao (F 158 [.pbox [a,c,e]]) λa b=>Ag a<|Ad b λa b=>Ad a λa c=>At a λa=>Bu .i64 c λc e=>Bq .i64 e λe=>Ag b<|Aa (wrap .i64 (Z+1)) λb=>Ao (F 163 [.pbox [a,c,e],b]) λa b=>Bu .i64 a λa c=>Ad c λa c=>At a λa=>Ag c<|Ad b λa b=>Ad a λa c=>At a λa=>Bu .i64 c λc e=>Bq .i64 e λe=>Ag b<|Ao (F 158 [.pbox [a,c,e]]) λa b=>Ag a<|Ad b λa b=>Ad a λa c=>At a λa=>Bu .i64 c λc e=>Bq .i64 e λe=>Ag b<|Ao (F 160 [.pbox [a,c,e]]) λa b=>Bq .u8 a λa=>Ad b λb c=>Ad b λb e=>At b λb=>Bu .i64 e λe f=>Bq .i64 f λf=>Ag c<|Ap (a != 44) (Ao (F 159 [.pbox [b,e,f],.sc (.int .u8 Y)]) λa b=>Ag a<|Ad b λa b=>Ad a λa c=>At a λa=>Bu .i64 c λc e=>Bq .i64 e λe=>Ag b<|some ⟨[],[[a,c,e]]⟩) (Aa (wrap .i64 (e+1)) λa=>Ci u F V U T S Q P X Z Y b a f)) (Aa (wrap .i64 (Z+1)) λb=>Ao (F 163 [.pbox [a,c,e],b]) λa b=>Bu .i64 a λa c=>Ad c λa c=>At a λa=>Ag c<|Ad b λa b=>Ad a λa c=>At a λa=>Bu .i64 c λc e=>Bq .i64 e λe=>Ag b<|Ao (F 158 [.pbox [a,c,e]]) λa b=>Ag a<|Ad b λa b=>Ad a λa c=>At a λa=>Bu .i64 c λc e=>Bq .i64 e λe=>Ag b<|Ao (F 160 [.pbox [a,c,e]]) λa b=>Bq .u8 a λa=>Ad b λb c=>Ad b λb e=>At b λb=>Bu .i64 e λe f=>Bq .i64 f λf=>Ag c<|Ap (a != 44) (Ao (F 159 [.pbox [b,e,f],.sc (.int .u8 Y)]) λa b=>Ag a<|Ad b λa b=>Ad a λa c=>At a λa=>Bu .i64 c λc e=>Bq .i64 e λe=>Ag b<|some ⟨[],[[a,c,e]]⟩) (Aa (wrap .i64 (e+1)) λa=>Ci u F V U T S Q P X Z Y b a f))) (some ⟨[],[[O,N,W]]⟩)):=Κ
theorem M7(u d:Nat)(Z:ByteArray)(V Y:Int)(X:Bool)(W:Int):Ac (CP p) prog u (d+1) 177 [.pbox [Z,V,Y],X,W]=(λ(F:An)=>Ap (decide (W>8)) (Ao (F 162 [.pbox [Z,V,Y],(5:Int)]) λa b=>Ag a<|Ad b λa b=>Ad a λa c=>At a λa=>Bu .i64 c λc e=>Bq .i64 e λe=>Ag b<|some ⟨[],[[a,c,e]]⟩) (Aa (wrap .i64 (V+1)) λa=>Ap X (Ao (F 158 [.pbox [Z,a,Y]]) λa b=>Ag a<|Ad b λa b=>Ad a λa c=>At a λa=>Bu .i64 c λc e=>Bq .i64 e λe=>Ag b<|Ao (F 160 [.pbox [a,c,e]]) λa b=>Bq .u8 a λa=>Ad b λb c=>Ad b λb e=>At b λb=>Bu .i64 e λe f=>Bq .i64 f λf=>Ag c<|Ap (a==125) (Aa (wrap .i64 (e+1)) λa=>some ⟨[],[[b,a,f]]⟩) (Ci u F Z V Y X W u X W 125 b e f)) (Ao (F 158 [.pbox [Z,a,Y]]) λa b=>Ag a<|Ad b λa b=>Ad a λa c=>At a λa=>Bu .i64 c λc e=>Bq .i64 e λe=>Ag b<|Ao (F 160 [.pbox [a,c,e]]) λa b=>Bq .u8 a λa=>Ad b λb c=>Ad b λb e=>At b λb=>Bu .i64 e λe f=>Bq .i64 f λf=>Ag c<|Ap (a==93) (Aa (wrap .i64 (e+1)) λa=>some ⟨[],[[b,a,f]]⟩) (Ci u F Z V Y X W u X W 93 b e f)))) (Ac (CP p) prog u d):=Κ
theorem F8(u d:Nat)(Y:ByteArray)(X W Z:Int):Ac (CP p) prog u (d+1) 163 [.pbox [Y,X,W],Z]=(λ(F:An)=>Ao (F 160 [.pbox [Y,X,W]]) λa b=>Bq .u8 a λa=>Ad b λb c=>Ad b λb e=>At b λb=>Bu .i64 e λe f=>Bq .i64 f λf=>(λg:Option A3=>Ag c<|Ap (a==34) (Ao (F 161 [.pbox [b,e,f]]) λa b=>Ad a λa c=>At a λa=>Ag c<|Ad b λb c=>Ad b λb e=>At b λb=>Bu .i64 e λe f=>Bq .i64 f λf=>Ag c<|some ⟨[(1:Int),a],[[b,e,f]]⟩) (Ap (a==123) g (Ap (a==91) g (Ap (a==116) (Ao (F 178 [.pbox [b,e,f],Bg ⟨#[116,114,117,101]⟩]) λa b=>Ag a<|Ad b λa b=>Ad a λa c=>At a λa=>Bu .i64 c λc e=>Bq .i64 e λe=>Ag b<|some ⟨[(2:Int),Bg ⟨#[]⟩],[[a,c,e]]⟩) (Ap (a==102) (Ao (F 178 [.pbox [b,e,f],Bg ⟨#[102,97,108,115,101]⟩]) λa b=>Ag a<|Ad b λa b=>Ad a λa c=>At a λa=>Bu .i64 c λc e=>Bq .i64 e λe=>Ag b<|some ⟨[(3:Int),Bg ⟨#[]⟩],[[a,c,e]]⟩) (Ap (a==110) (Ao (F 178 [.pbox [b,e,f],Bg ⟨#[110,117,108,108]⟩]) λa b=>Ag a<|Ad b λa b=>Ad a λa c=>At a λa=>Bu .i64 c λc e=>Bq .i64 e λe=>Ag b<|some ⟨[(0:Int),Bg ⟨#[]⟩],[[a,c,e]]⟩) (Ao (F 179 [.pbox [b,e,f]]) λa b=>Ag a<|Ad b λa b=>Ad a λa c=>At a λa=>Bu .i64 c λc e=>Bq .i64 e λe=>Ag b<|some ⟨[(0:Int),Bg ⟨#[]⟩],[[a,c,e]]⟩))))))) (Ao (F 177 [.pbox [b,e,f],C3 (a==123),Z]) λa b=>Ag a<|Ad b λa b=>Ad a λa c=>At a λa=>Bu .i64 c λc e=>Bq .i64 e λe=>Ag b<|some ⟨[(0:Int),Bg ⟨#[]⟩],[[a,c,e]]⟩)) (Ac (CP p) prog u d):=Κ
def Iq(Z:Nat)(Y:Ae)(X:ByteArray)(W V:Nat)(U:Ae)(T:ByteArray)(S:Int)(Q:ByteArray)(P:Int)(O:ByteArray):Option A3:=Hq u F 142 Tryz.f142 [Am 3 Z Y,X] [.r,.l,.r,.l] W ⟨lk [(0,Am 3 V U),(1,T),(4,.ptr 4 0),(6,S)],Fb [(4,.st [Q,P,O])]⟩
theorem O5(V:Nat)(U:Ae)(T:ByteArray)(S X:Nat)(Y:Ae)(W:ByteArray)(Z:Int)(Q:ByteArray)(P:Int)(O:ByteArray):Iq u F V U T (S+1) X Y W Z Q P O=(Ap (decide (Z<(↑X:Int))) (As (decide (0<=Z)&&decide (Z<(↑X:Int)))<|At (Y.getD (Z.toNat*3+0) .top) λa=>Ap (mf (ml a)==mf (ml W)) (As (decide (0<=Z)&&decide (Z<(↑X:Int)))<|At (Y.getD (Z.toNat*3) .top) λa=>Bi .i64 (Y.getD (Z.toNat*3+1) .top) λb=>At (Y.getD (Z.toNat*3+1+1) .top) λc=>A9 [.agg [a,b,c],true]) (Aa (wrap .i64 (Z+1)) λa=>Iq u F V U T S X Y W a Q P O)) (A9 [.agg [Bg ⟨#[]⟩,(0:Int),Bg ⟨#[]⟩],false])):=Κ
theorem LC(u d Z:Nat)(Y:Ae)(X:ByteArray):Ac (CP p) prog u (d+1) 142 [Am 3 Z Y,X]=(λ(F:An)=>Iq u F Z Y X u Z Y X 0 (ByteArray.mk #[]) 0 (ByteArray.mk #[])) (Ac (CP p) prog u d):=Κ
def B2(Z:ByteArray)(Y X:Int)(W V:Nat)(U:ByteArray)(T S:Int)(Q:Ae):Option A3:=Hq u F 140 Tryz.f140 [.pbox [Z,Y,X]] [.r,.r,.r,.r,.r,.l,.r,.r,.l] W ⟨lk [(0,.ptr 180000 0),(3,.view 3 3 0 V)],Fb [(180000,.st [U,T,S]),(3,.ar false Q)]⟩
theorem Ex(W:ByteArray)(V U:Int)(T Z:Nat)(S:ByteArray)(Q X:Int)(Y:Ae):B2 u F W V U (T+1) Z S Q X Y=(Ap (X==0) (Ao (F 158 [.pbox [S,Q,X]]) λa b=>Ag a<|Ad b λa b=>Ad a λa c=>At a λa=>Bu .i64 c λc e=>Bq .i64 e λe=>Ag b<|Ao (F 161 [.pbox [a,c,e]]) λa b=>Ad a λa c=>At a λa=>Ag c<|Ad b λb c=>Ad b λb e=>At b λb=>Bu .i64 e λe f=>Bq .i64 f λf=>Ag c<|As (decide (0+Z*3<=Y.length))<|Cn (F 142 [Am 3 Z (yt (Z*3) (Y.drop 0)),a]) λc g=>Cr c λc=>Ad c λc h=>At c λc=>Bu .i64 h λc h=>Ad h λc h=>At c λc=>Ag h<|Qa g λc=>Ap c (Ao (F 162 [.pbox [b,e,f],(10:Int)]) λb c=>Ag b<|Ad c λb c=>Ad b λb e=>At b λb=>Bu .i64 e λe f=>Bq .i64 f λf=>Ag c<|Ao (F 158 [.pbox [b,e,f]]) λb c=>Ag b<|Ad c λb c=>Ad b λb e=>At b λb=>Bu .i64 e λe f=>Bq .i64 f λf=>Ag c<|Ao (F 159 [.pbox [b,e,f],.sc (.int .u8 58)]) λb c=>Ag b<|Ad c λb c=>Ad b λb e=>At b λb=>Bu .i64 e λe f=>Bq .i64 f λf=>Ag c<|Ao (F 158 [.pbox [b,e,f]]) λb c=>Ag b<|Ad c λb c=>Ad b λb e=>At b λb=>Bu .i64 e λe f=>Bq .i64 f λf=>Ag c<|Ao (F 163 [.pbox [b,e,f],(1:Int)]) λb c=>Bu .i64 b λb e=>Ad e λe f=>At e λe=>Ag f<|Ad c λc f=>Ad c λc g=>At c λc=>Bu .i64 g λg h=>Bq .i64 h λh=>Ag f<|XN Z 3 40 Y [a,b,e] λa b=>Ao (F 158 [.pbox [c,g,h]]) λc e=>Ag c<|Ad e λc e=>Ad c λc f=>At c λc=>Bu .i64 f λf g=>Bq .i64 g λg=>Ag e<|Ao (F 160 [.pbox [c,f,g]]) λc e=>Bq .u8 c λc=>Ad e λe f=>Ad e λe g=>At e λe=>Bu .i64 g λg h=>Bq .i64 h λh=>Ag f<|Ap (c != 44) (Ao (F 159 [.pbox [e,g,h],.sc (.int .u8 125)]) λc e=>Ag c<|Ad e λc e=>Ad c λc f=>At c λc=>Bu .i64 f λf g=>Bq .i64 g λg=>Ag e<|Ao (F 158 [.pbox [c,f,g]]) λc e=>Ag c<|Ad e λc e=>Ad c λc f=>At c λc=>Bu .i64 f λf g=>Bq .i64 g λg=>Ag e<|Ap (decide (f<(↑(mm c):Int))) (Ao (F 162 [.pbox [c,f,g],(2:Int)]) λc e=>Ag c<|Ad e λc e=>Ad c λc f=>At c λc=>Bu .i64 f λf g=>Bq .i64 g λg=>Ag e<|As (decide (a*3<=b.length))<|some ⟨[.own 3 a (b.take (a*3))],[[c,f,g]]⟩) (As (decide (a*3<=b.length))<|some ⟨[.own 3 a (b.take (a*3))],[[c,f,g]]⟩)) (Aa (wrap .i64 (g+1)) λc=>B2 u F W V U T a e c h b)) (Ao (F 158 [.pbox [b,e,f]]) λb c=>Ag b<|Ad c λb c=>Ad b λb e=>At b λb=>Bu .i64 e λe f=>Bq .i64 f λf=>Ag c<|Ao (F 159 [.pbox [b,e,f],.sc (.int .u8 58)]) λb c=>Ag b<|Ad c λb c=>Ad b λb e=>At b λb=>Bu .i64 e λe f=>Bq .i64 f λf=>Ag c<|Ao (F 158 [.pbox [b,e,f]]) λb c=>Ag b<|Ad c λb c=>Ad b λb e=>At b λb=>Bu .i64 e λe f=>Bq .i64 f λf=>Ag c<|Ao (F 163 [.pbox [b,e,f],(1:Int)]) λb c=>Bu .i64 b λb e=>Ad e λe f=>At e λe=>Ag f<|Ad c λc f=>Ad c λc g=>At c λc=>Bu .i64 g λg h=>Bq .i64 h λh=>Ag f<|XN Z 3 40 Y [a,b,e] λa b=>Ao (F 158 [.pbox [c,g,h]]) λc e=>Ag c<|Ad e λc e=>Ad c λc f=>At c λc=>Bu .i64 f λf g=>Bq .i64 g λg=>Ag e<|Ao (F 160 [.pbox [c,f,g]]) λc e=>Bq .u8 c λc=>Ad e λe f=>Ad e λe g=>At e λe=>Bu .i64 g λg h=>Bq .i64 h λh=>Ag f<|Ap (c != 44) (Ao (F 159 [.pbox [e,g,h],.sc (.int .u8 125)]) λc e=>Ag c<|Ad e λc e=>Ad c λc f=>At c λc=>Bu .i64 f λf g=>Bq .i64 g λg=>Ag e<|Ao (F 158 [.pbox [c,f,g]]) λc e=>Ag c<|Ad e λc e=>Ad c λc f=>At c λc=>Bu .i64 f λf g=>Bq .i64 g λg=>Ag e<|Ap (decide (f<(↑(mm c):Int))) (Ao (F 162 [.pbox [c,f,g],(2:Int)]) λc e=>Ag c<|Ad e λc e=>Ad c λc f=>At c λc=>Bu .i64 f λf g=>Bq .i64 g λg=>Ag e<|As (decide (a*3<=b.length))<|some ⟨[.own 3 a (b.take (a*3))],[[c,f,g]]⟩) (As (decide (a*3<=b.length))<|some ⟨[.own 3 a (b.take (a*3))],[[c,f,g]]⟩)) (Aa (wrap .i64 (g+1)) λc=>B2 u F W V U T a e c h b))) (Ao (F 158 [.pbox [S,Q,X]]) λa b=>Ag a<|Ad b λa b=>Ad a λa c=>At a λa=>Bu .i64 c λc e=>Bq .i64 e λe=>Ag b<|Ap (decide (c<(↑(mm a):Int))) (Ao (F 162 [.pbox [a,c,e],(2:Int)]) λa b=>Ag a<|Ad b λa b=>Ad a λa c=>At a λa=>Bu .i64 c λc e=>Bq .i64 e λe=>Ag b<|As (decide (Z*3<=Y.length))<|some ⟨[.own 3 Z (Y.take (Z*3))],[[a,c,e]]⟩) (As (decide (Z*3<=Y.length))<|some ⟨[.own 3 Z (Y.take (Z*3))],[[a,c,e]]⟩))):=Κ
theorem Uw(u d:Nat)(Z:ByteArray)(Y X:Int):Ac (CP p) prog u (d+1) 140 [.pbox [Z,Y,X]]=(λ(F:An)=>Ao (F 158 [.pbox [Z,Y,X]]) λa b=>Ag a<|Ad b λa b=>Ad a λa c=>At a λa=>Bu .i64 c λc e=>Bq .i64 e λe=>Ag b<|Ao (F 159 [.pbox [a,c,e],.sc (.int .u8 123)]) λa b=>Ag a<|Ad b λa b=>Ad a λa c=>At a λa=>Bu .i64 c λc e=>Bq .i64 e λe=>Ag b<|Ao (F 158 [.pbox [a,c,e]]) λa b=>Ag a<|Ad b λa b=>Ad a λa c=>At a λa=>Bu .i64 c λc e=>Bq .i64 e λe=>Ag b<|Ao (F 160 [.pbox [a,c,e]]) λa b=>Bq .u8 a λa=>Ad b λb c=>Ad b λb e=>At b λb=>Bu .i64 e λe f=>Bq .i64 f λf=>Ag c<|Ap (a==125) (Aa (wrap .i64 (e+1)) λa=>Ao (F 158 [.pbox [b,a,f]]) λa b=>Ag a<|Ad b λa b=>Ad a λa c=>At a λa=>Bu .i64 c λc e=>Bq .i64 e λe=>Ag b<|Ap (decide (c<(↑(mm a):Int))) (Ao (F 162 [.pbox [a,c,e],(2:Int)]) λa b=>Ag a<|Ad b λa b=>Ad a λa c=>At a λa=>Bu .i64 c λc e=>Bq .i64 e λe=>Ag b<|some ⟨[.own 3 0 []],[[a,c,e]]⟩) (some ⟨[.own 3 0 []],[[a,c,e]]⟩)) (B2 u F Z Y X u 0 b e f ([]))) (Ac (CP p) prog u d):=Κ
def Fv(Z:Nat)(Y:Ae)(X W:Nat)(V:Ae)(U:Nat)(T:Int)(S:Ae):Option A3:=Hq u F 141 Tryz.f141 [Am 3 Z Y] [.r,.r,.l,.r,.l] X ⟨lk [(0,Am 3 W V),(3,.view 3 1 0 U),(4,T)],Fb [(3,.ar false S)]⟩
theorem Ni(U:Nat)(T:Ae)(S Y:Nat)(X:Ae)(W:Nat)(Z:Int)(V:Ae):Fv u F U T (S+1) Y X W Z V=(Ap (decide (Z<(↑W:Int))) (As (decide (0<=Z)&&decide (Z<(↑W:Int)))<|At (V.getD (0+Z.toNat*1) .top) λa=>Cn (F 142 [Am 3 Y X,a]) λa b=>Cr a λa=>Ad a λa c=>At a λa=>Bu .i64 c λa c=>Ad c λc e=>At c λc=>Ag e<|Qa b λb=>Ap (!b) (A9 [false]) (Ap (a != 1) (A9 [false]) (Aa (wrap .i64 (Z+1)) λa=>Fv u F U T S Y X W a V))) (Cn (F 142 [Am 3 Y X,Bg ⟨#[99,114,111,115,115,79,114,105,103,105,110]⟩]) λa b=>Cr a λa=>Ad a λa c=>At a λa=>Bu .i64 c λa c=>Ad c λc e=>At c λc=>Ag e<|Qa b λb=>Cn (F 142 [Am 3 Y X,Bg ⟨#[116,111,112,79,114,105,103,105,110]⟩]) λc e=>Cr c λc=>Ad c λc f=>At c λc=>Bu .i64 f λc f=>Ad f λf g=>At f λf=>Ag g<|Qa e λe=>(λi:Option A3=>(λh:Option A3=>Ap b (Ap (a != 2) (Ap (a != 3) (A9 [false]) h) h) h) (Ap e (Ap (c != 1) (A9 [false]) i) i)) (Ap b (A9 [C3 (e==(a==2))]) (A9 [C3 (e==false)])))):=Κ
theorem FX(u d Z:Nat)(Y:Ae):Ac (CP p) prog u (d+1) 141 [Am 3 Z Y]=(λ(F:An)=>Fv u F Z Y u Z Y 3 0 ([Bg ⟨#[116,121,112,101]⟩,Bg ⟨#[99,104,97,108,108,101,110,103,101]⟩,Bg ⟨#[111,114,105,103,105,110]⟩])) (Ac (CP p) prog u d):=Κ
theorem Zm(u d:Nat)(Z:ByteArray):Ac (CP p) prog u (d+1) 107 [Z]=(λ(F:An)=>(λj:PV=>Ap (decide ((↑(mm Z):Int)>1024)) (A9 [j,(8:Int)]) (Cn (F 124 [Z]) λa b=>Bh a λa=>Ag b<|Ap (!a) (A9 [j,(6:Int)]) (Ao (F 140 [.pbox [Z,(0:Int),(0:Int)]]) λa b=>ZzO 3 a λa c e=>Ag e<|Ad b λb e=>Ad b λb f=>At b λb=>Bu .i64 f λb f=>Bq .i64 f λb=>(λk:PV=>Ag e<|Ap (b != 0) (A9 [j,b]) (As (decide (0+a*3<=c.length))<|Cn (F 141 [k]) λb e=>Bh b λb=>Ag e<|Ap (!b) (A9 [j,(4:Int)]) (As (decide (0+a*3<=c.length))<|Cn (F 142 [k,Bg ⟨#[116,121,112,101]⟩]) λb e=>Cr b λb=>Ad b λb f=>At b λb=>Bu .i64 f λb f=>Ad f λb f=>At b λb=>Ag f<|Qa e λe=>As (decide (0+a*3<=c.length))<|Cn (F 142 [k,Bg ⟨#[99,104,97,108,108,101,110,103,101]⟩]) λe f=>Cr e λe=>Ad e λe g=>At e λe=>Bu .i64 g λe g=>Ad g λe g=>At e λe=>Ag g<|Qa f λf=>As (decide (0+a*3<=c.length))<|Cn (F 142 [k,Bg ⟨#[111,114,105,103,105,110]⟩]) λf g=>Cr f λf=>Ad f λf h=>At f λf=>Bu .i64 h λf h=>Ad h λf h=>At f λf=>Ag h<|Qa g λg=>As (decide (0+a*3<=c.length))<|Cn (F 142 [k,Bg ⟨#[116,111,112,79,114,105,103,105,110]⟩]) λa c=>Cr a λa=>Ad a λa g=>At a λa=>Bu .i64 g λa g=>Ad g λa g=>At a λa=>Ag g<|Qa c λc=>Cn (F 40 [(1:Int)]) λg h=>At g λg=>(λo:Option A3=>Ag h<|Ap (!mf (ml b)==mf (ml g)) (Cn (F 40 [(2:Int)]) λg h=>At g λg=>Ag h<|Ap (!mf (ml b)==mf (ml g)) (A9 [j,(3:Int)]) (Cn (F 143 [e]) λb e=>K5 1 b λb g=>Bq .i64 e λe=>Ap (e != 0) (A9 [j,e]) (Ap (decide ((↑b:Int)<1)) o (Ap (decide ((↑b:Int)>64)) o (Cn (F 41 [f]) λe h=>Cr e λe=>Ad e λe i=>Bh e λe=>Ad i λe i=>At e λe=>Bq .i64 i λe=>Bq .i64 h λe=>Ap (e != 0) (A9 [j,e]) (Cn (F 41 [a]) λe h=>Cr e λe=>Ad e λe i=>Bh e λe=>Ad i λe i=>At e λe=>Bq .i64 i λe=>Bq .i64 h λe=>(λm:Option A3=>Ap c (Ap (e != 0) (A9 [j,e]) m) m) (As (decide (b*1<=g.length))<|A9 [.agg [(2:Int),.own 1 b (g.take (b*1)),f,c,a],(0:Int)]))))))) (Cn (F 40 [(1:Int)]) λg h=>At g λg=>Ag h<|Ap (!mf (ml b)==mf (ml g)) (A9 [j,(3:Int)]) (Cn (F 143 [e]) λb e=>K5 1 b λb g=>Bq .i64 e λe=>Ap (e != 0) (A9 [j,e]) (Ap (decide ((↑b:Int)<1)) o (Ap (decide ((↑b:Int)>64)) o (Cn (F 41 [f]) λe h=>Cr e λe=>Ad e λe i=>Bh e λe=>Ad i λe i=>At e λe=>Bq .i64 i λe=>Bq .i64 h λe=>Ap (e != 0) (A9 [j,e]) (Cn (F 41 [a]) λe h=>Cr e λe=>Ad e λe i=>Bh e λe=>Ad i λe i=>At e λe=>Bq .i64 i λe=>Bq .i64 h λe=>(λn:Option A3=>Ap c (Ap (e != 0) (A9 [j,e]) n) n) (As (decide (b*1<=g.length))<|A9 [.agg [(1:Int),.own 1 b (g.take (b*1)),f,c,a],(0:Int)])))))))) (A9 [j,(9:Int)])))) (Am 3 a (yt (a*3) (c.drop 0)))))) (.agg [(0:Int),.own 1 0 [],Bg ⟨#[]⟩,false,Bg ⟨#[]⟩])) (Ac (CP p) prog u d):=Κ
end
abbrev GF(l:Ak)(a:Nat):Ae:=[.lst false 1 l.length (Af .i64 l),Av (a:Int)]
section
variable {u d:Nat}{p:Option (Ae->Option A3)}
theorem Biy:Ac (CP p) prog u (d+1) 4 [.lst false 1 l.length (Af .i64 l)]=some ⟨[.pbox (GF l 0)],[]⟩:=by rw[PW];rfl
theorem A4t(v n:Int)(a:0<n)(g:n<=9223372036854775807):∃r,0<=r/\r<n/\∀{u d:Nat}{p:Option (Ae->Option A3)},Ac (CP p) prog u (d+1) 17 [Av v,Av n]=some ⟨[Av r],[]⟩:=by have b:=Vw v;have c:wrap .u64 n=n:=Cq;have e:0<=nr (wrap .u64 v) n:=Int.tmod_nonneg _ b.1;have f:nr (wrap .u64 v) n<n:=Int.tmod_lt_of_pos _ a;refine⟨_,e,f,λ{u d p}=>?_⟩;rw[RL];simp only[Ga,c];rw[QD _ _ Ω,Ba]
theorem G1(c:l.length<=maxLen)(a:Nat)(n:Int)(b:0<n)(e:n<=9223372036854775807):∃(v:Int)(f:Nat),0<=v/\v<n /\
  ∀{u d:Nat} {p:Option (Ae->Option A3)},Ac (CP p) prog u (d+2) 7 [.pbox (GF l a),Av n]=some ⟨[Av v],[GF l f]⟩:=by
 simp only[maxLen] at c;by_cases h:a<l.length
 ·obtain⟨r,g,i,j⟩:=A4t l[a] n b e;refine⟨r,a+1,g,i,λ{u d p}=>?_⟩;rw[Ji]
  have m:(Af .i64 l).getD (wj ((a:Int)+1-1)*1) .top=Av l[a]:=by
   have:=Tm (k:=.i64) (zd h);rw[show wj ((a:Int)+1-1)*1=a by omega];exact this
  simp(disch:=omega)only[Aq,Ar,wrap_i64,m,j];rfl
 ·refine⟨0,a,Ω,b,λ{u d p}=>?_⟩;rw[Ji];simp(disch:=omega)only[Aq,Ar]
end
section
variable {u d:Nat}{p:Option (Ae->Option A3)}
theorem Brf(Be:1000<=u)(w:Int):Ac (CP p) prog u (d+1) 38 [.lst false 1 1 [Ah w]]=some ⟨[.own 1 8 (Af .u8 (B6 w))],[]⟩:=by
 have:=Mi (I:=Ai6 p) (u:=u) (d:=d) (ws:=[w]) Ψ Ω (by simp;omega)
 simp only[Bb,Le,List.flatMap_nil,vy,M9,SO,Cu] at this;exact this
theorem A67(Be:1000<=u){a0 a1 a2:Int}{key nonce:Int}(E:n<=1024):∀(k nn:Nat)(i:Int)(l:Ak),n<=l.length+8*k->k<nn->Ch l->l.length<=2000 ->
  0<=i->i+k<=100000->∃r,Ch r/\r.length=n/\H3 u (Ac (CP p) prog u (d+4)) a0 a1 a2 nn key nonce (n:Int) l.length i (Af .u8 l)=some ⟨[.own 1 n (Af .u8 r)],[]⟩:=by
 intro k
 induction k with
 |zero=>
  intro nn i l x y b z A i1;obtain⟨m,rfl⟩:∃m,nn=m+1:=⟨nn-1,Ω⟩
  refine⟨l.take n,b.take n,by rw[x7];omega,?_⟩
  have L:=Al .u8 l;have a:wj (n:Int)=n:=Hy _;rw[Jn]
  repeat(with_reducible(first|apply Bk|apply A5|apply Bm|apply Bo|apply K0|apply A4|apply Bn|apply H7);· first|constructor|(simp(disch:=omega)only[H9,L,a,gm,Jp,Fz]<;>first|constructor|omega)|omega)
  try simp(disch:=omega)only[Aa,L,a,gm,Jp,Fz]
 |succ k B=>
  intro nn i l x y b z A i1;obtain⟨m,rfl⟩:∃m,nn=m+1:=⟨nn-1,Ω⟩
  have L:=Al .u8 l;have a:wj (n:Int)=n:=Hy _;by_cases Ct:l.length<n
  rotate_left
  ·refine⟨l.take n,b.take n,by rw[x7];omega,?_⟩
   rw[Jn]
   repeat(with_reducible(first|apply Bk|apply A5|apply Bm|apply Bo|apply K0|apply A4|apply Bn|apply H7);· first|constructor|(simp(disch:=omega)only[H9,L,a,gm,Jp,Fz]<;>first|constructor|omega)|omega)
   try simp(disch:=omega)only[Aa,L,a,gm,Jp,Fz]
  have e:wrap .u64 i=i:=Cq;have f:wrap .i64 (i+1)=i+1:=Ba;have g:Ac (CP p) prog u (d+4) 38 [.lst false 1 2 [Ah nonce,Ah i]]=some ⟨[.own 1 (Bb [nonce,i]).length (Af .u8 (Bb [nonce,i]))],[]⟩:=Mi (I:=Ai6 p) (ws:=[nonce,i]) Ψ Ω (by simp;omega)
  have c:=As1 (I:=Ai6 p) (u:=u) (d:=d) (l:=Bb [nonce,i]) (Z9 _) (by rw[Fd];simp) Ω (by rw[Fd];simp;omega) key 5
  have h:=Al .u8 (Bb [nonce,i]);have j:=NH .u8 (Bb [nonce,i]);generalize A6s key 5 (Bb [nonce,i])=q at c;have o:=Brf (u:=u) (d:=d+3) (p:=p) Be q;have Lq:(Af .u8 (B6 q)).length=8:=by rw[Al,Cu]
  have s:yt 8 (Af .u8 (B6 q))=Af .u8 (B6 q):=Gp Ω;have t:=NH .u8 l;have v:Af .u8 l++Af .u8 (B6 q)=Af .u8 (l++B6 q):=by rw[Af,Af,Af,kk]
  obtain⟨r,C,D,w⟩:=B m (i+1) (l++B6 q) (by rw[Ru,Cu];omega) Ω (Rh b (PU q)) (by rw[Ru,Cu];omega) Ω Ω
  refine⟨r,C,D,?_⟩;rw[Ru,Cu] at w;rw[<-w,Jn];generalize Bb [nonce,i]=W at *
  generalize W.length=G at *
  repeat(with_reducible(first|apply Bk|apply A5|apply Bm|apply Bo|apply K0|apply A4|apply Bn|apply H7);· first|constructor|(simp(disch:=omega)only[H9,e,f,g,Jo,I8,Jp,L,h,j,c,o,Lq,s,t,v]<;>first|constructor|omega)|omega)
  try simp(disch:=omega)only[Aa,e,f,g,Jo,I8,Jp,L,h,j,c,o,Lq,s,t,v]
  all_goals rfl
theorem Ahp(Be:1000<=u)(seed:Int)(c:n<=1024):∃r,Ch r/\r.length=n/\Ac (CP p) prog u (d+6) 6 [Av seed,Av n]=some ⟨[.own 1 n (Af .u8 r)],[]⟩:=by
 obtain⟨r,f,b,g⟩:=A67 (u:=u) (d:=d) (p:=p) Be (a0:=wrap .u64 (wrap .u64 seed+1)) (a1:=7) (a2:=n) (key:=wrap .u64 (wrap .u64 seed+1)) (nonce:=7) c 128 u 0 [] Ω Ω (by intro x h;cases h) Ψ Ω Ω
 refine⟨r,f,b,?_⟩
 have e:Ac (CP p) prog u (d+5) 21 [Ah (wrap .u64 (wrap .u64 seed+1)),Ah 7,Av n]=some ⟨[.own 1 n (Af .u8 r)],[]⟩:=by
  rw[HH];have f1:(if (n:Int)<0 then (0:Int) else (n:Int))=n:=Bd Ω;have a:(if (1024:Int)<(n:Int) then (1024:Int) else (n:Int))=n:=Bd Ω;simp only[Ga,f1,a];exact g
 have f1:(if (n:Int)<0 then (0:Int) else (n:Int))=n:=Bd Ω;have a:(if (1024:Int)<(n:Int) then (1024:Int) else (n:Int))=n:=Bd Ω;have L:=Al .u8 r;have t:yt n (Af .u8 r)=Af .u8 r:=by rw[<-b];exact NH .u8 r
 rw[LS];simp(disch:=omega)only[Aq,Ar,f1,a,e,Jp,L,t]
def A95(q:PV):Bool:=match q with | .sc (.string s)=>jg s.size 40|_=>false
theorem Bj1{L:Ae}{K:ByteArray->Option A3}{X:Option A3}(e:X=At (f9 L i PV.top) K)(b:L.all A95=true)(hi:i<L.length):∃s:ByteArray,s.size<=40/\X=K s:=by
 have a:=yb.1 b (L[i]'hi) (nh hi);rw[zj,zd hi,Option.getD_some] at e;generalize L[i]'hi=q at a e;unfold A95 at a;split at a
 ·rename_i s;exact⟨s,Vc a,e⟩
 ·cases a
theorem otD(v:Int):∃s:ByteArray,s.size<=40/\Ac (CP p) prog u (d+2) 12 [Av v]=some ⟨[Bg s],[]⟩:=by
 obtain⟨r,b,c,a⟩:=A4t v 6 Ω Ω;have a:Ac (CP p) prog u (d+1) 17 [Av v,Av 6]=_:=a;have e:=Zu (p:=p) u (d+1) v;have f:=dT (q:=(0:Int)<=r) b;have g:=dT (q:=r<6) c;simp only[Aq,Ar,a,f,g] at e;obtain⟨s,i,h⟩:=Bj1 e Κ (by show 0+wj r*1<6;omega)
 exact⟨s,i,h⟩
end
end
end Go.Proofs.YtfmabfhjccngbaaGreatDoor.Pv
