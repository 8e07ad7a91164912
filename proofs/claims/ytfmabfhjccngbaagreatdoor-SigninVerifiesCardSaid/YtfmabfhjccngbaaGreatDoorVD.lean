/-
  The proof of SigninVerifies, part 4.
-/
import Derived.Test.YtfmabfhjccngbaaGreatDoorVC
import Derived.Test.YtfmabfhjccngbaaGreatDoorRows
import Derived.Lib.RuneBytes
import Derived.Lib.SlTrimSet
import Derived.Lib.BytesEntry
import Derived.Lib.Bytealg
import Derived.Lib.Walk
import Derived.WalkKit
import Derived.WalkMore
import Derived.Laws.Bits64b
import Derived.Shelf.Strings.BuilderRune
import Derived.Shelf.Strings.SlTrimAscii
import Derived.Shelf.RegionOpenPlain
import Derived.Lib.Overlaps
import Derived.Lib.AppendZerosOnto
import Derived.Lib.SliceRun
import Derived.Laws.Externs
import Derived.Laws.IdiomCopy
import Derived.Laws.NewBlocks
import Derived.RangeFuncNested
import Derived.RangeFuncLeaves
import Derived.RangeFuncKeeps
import Derived.RangeFuncBox
import Derived.Below
import Derived.Handy
import Derived.Shelf.Abstract
import Derived.OwnWalkIn
import Derived.TacticsInMore
import Derived.LoopNIn
import Derived.LoopIn
set_option linter.unusedSimpArgs false
set_option linter.unusedVariables false
namespace Go.Proofs.YtfmabfhjccngbaaGreatDoor.Pv
open Go.IntKind (wrap)
open Go.Proofs.Tryz (prog)
set_option maxRecDepth 1000000
noncomputable section
variable{a d:List (Int × Int)}{m:Option Ak}{D now x:Int}{b i n o:Nat}{c v:Value}{l r:Ak}{f:FuncId}{vs:List Value}{args:Ae}{W w w':World}{A S Y:Nat->Prop}{p:Option (Ae->Option A3)}{K:Act->World->Prop}{Q:Exit->Act->World->Prop}{ops:Array Oper}{s t:ByteArray}
open Int renaming tdiv->wh,tdiv_eq_ediv_of_nonneg->wi,toNat->wj,pow_succ->g5,mul_comm->g7,mul_assoc->g6,mul_le_mul_of_nonneg_right->wm,pow_nonneg->wn,eq_ofNat_of_zero_le->g8
open Nat renaming lt_irrefl->wo,le_trans->jl,sub_self->jq,ble->jg,zero_mul->jk,mod_eq_of_lt->wq,zero_lt_succ->wt,succ_lt_succ->wv,le_succ_of_le->ww,min_def->wx
open List renaming take->yt,length->wy,mem_map->kl,range->za,getD_eq_getElem?_getD->zj,mem_of_getElem?->zn,replicate->qz,getElem?_append_left->zi,set_append_right->w6,length_map->zv,length_range->w7,replicate_succ->zw,set_cons_zero->w8,range_succ->yk,map_append->kn,length_set->w9,drop_of_length_le->zb,getD_cons_zero->ga,getD_cons_succ->gb,getElem?_eq_getElem->zd,append_nil->vy,length_take->x7,length_drop->yr,map_map->ba,map->bb,mem_cons->zl,toArray->bc,length_eq_zero_iff->bd,take_nil->be,take_append_drop->bf,getElem?_drop->zg,getElem?_map->zr,extract_eq_take_drop->bg,map_drop->bh,map_take->bj,isPrefixOf_iff_prefix->bk,mem_of_mem_take->kg,prefix_iff_eq_take->bm,isPrefixOf->bn,getElem?_eq_some_iff->bo,size_toArray->kc,push_toArray->bp,append_toArray->bq,find?_eq_none->br,find?_append->bu,mem_of_mem_drop->kj,getElem?_take->zt,getElem?_append_right->kf
open BitVec renaming ofInt->zx,ofInt_natCast->bv,toNat_ofNat->bw
open Bool renaming true_or->bz,false_or->gv,false_eq_true->qf,eq_false_iff->b4
open Option renaming map_some->jz,bind_eq_some_iff->b5
open Lib renaming encodeRuneZ->b6,indexByte->b7,countByte->b9,byteCells->ma,wpList_append_run->mc
open _root_.Array renaming toList->mf,toList_extract->mg,getElem?_eq_getElem->gx,replicate_succ->mh,replicate_zero->mi,getElem?_append_left->mj
open _root_.ByteArray renaming data->ml,size->mm,extract->mn,data_extract->mp
open World renaming cell?->jy,frozen?->ju,cell?_setCell_other->mq,frozen?_setCell->mr,grownBy_alloc->mu,cell?_setCell_same'->mw,cell?_setCells_out->vk,frozen?_setCells->my,cell?_of_block->jw,cell?_alloc_at->mz,frozen?_alloc_at->m4,cell?_alloc_past->m7,frozen?_of_block->jx,cell?_setCells_in->vl
open Builtin renaming copy_->vr,lenOf->m8,firstCells->vm,append_->vn,zeroCells->vp
section
variable {I:FuncId->Option (Ae->Option A3)}(u d:Nat)(F:An)
def Ii(Z:Int)(Y:Nat)(X W V:Int)(U T:Ae):Option A3:=Hq u F 131 Tryz.f131 [Ah Z] [.r,.r,.r,.l,.r,.l] Y ⟨lk [(0,Ah X),(2,.ptr 2 0),(3,.ptr 3 0),(4,W),(6,V)],Fb [(2,.ar false U),(3,.ar false T)]⟩
def Yy(Z:Int)(Y:Nat)(X W:Ae):Option A3:=Hq u F 131 Tryz.f131 [Ah Z] [.r,.r,.r,.r,.r] Y ⟨lk [(2,.ptr 2 0),(3,.ptr 3 0)],Fb [(2,.ar false X),(3,.ar false W)]⟩
def Za(Z:Int)(Y:Nat)(X:Ae):Option A3:=Hq u F 131 Tryz.f131 [Ah Z] [.r,.r,.r,.r,.r,.r] Y ⟨lk [(2,.ptr 2 0)],Fb [(2,.ar false X)]⟩
theorem Uc(W:Int)(T:Nat)(V X Z:Int)(U Y:Ae):Ii u F W (T+1) V X Z U Y=(Ap (decide (Z<16)) (Aa (wrap .i64 (4*Z)) λa=>Aa (wrap .i64 (60-a)) λa=>As (decide (0<=a))<|Aa (E4 .u64 V a) λa=>Aa (C8 .u64 a 15) λa=>Aa (wrap .i64 a) λa=>As (decide (0<=Z)&&decide (Z<18))<|As (decide (0+Z.toNat*1+1<=Y.length))<|Aa (B9 Y [a] (0+Z.toNat*1)) λa=>As (decide (0<=Z)&&decide (Z<18))<|Bi .i64 (a.getD (0+Z.toNat*1) .top) λb=>Aa (wrap .i64 (15-b)) λb=>Aa (wrap .i64 (X+b)) λb=>Aa (wrap .i64 (Z+1)) λc=>Ii u F W T V b c U a) (Aa (wrap .i64 (wh X 16)) λa=>As (decide (17<=Y.length))<|Aa (B9 Y [a] 16) λa=>Aa (Int.tmod X 16) λb=>As (decide (18<=a.length))<|Aa (B9 a [b] 17) λa=>Yy u F W u U a)):=Κ
theorem KK(W:Int)(Y:Nat)(Es:0<Y)(X Z:Ae):Yy u F W Y X Z=(Bi .i64 (Z.getD 0 .top) λa=>Bi .i64 (Z.getD 1 .top) λb=>Bi .i64 (Z.getD 2 .top) λc=>Bi .i64 (Z.getD 3 .top) λe=>Bi .i64 (Z.getD 4 .top) λf=>Bi .i64 (Z.getD 5 .top) λg=>Bi .i64 (Z.getD 6 .top) λh=>Bi .i64 (Z.getD 7 .top) λi=>Bi .i64 (Z.getD 8 .top) λj=>Bi .i64 (Z.getD 9 .top) λk=>Bi .i64 (Z.getD 10 .top) λm=>Bi .i64 (Z.getD 11 .top) λn=>Bi .i64 (Z.getD 12 .top) λo=>Bi .i64 (Z.getD 13 .top) λp=>Bi .i64 (Z.getD 14 .top) λq=>Bi .i64 (Z.getD 15 .top) λs=>Bi .i64 (Z.getD 16 .top) λt=>Bi .i64 (Z.getD 17 .top) λd=>As (decide (18<=X.length))<|Aa (B9 X [a,b,c,e,f,g,h,i,j,k,m,n,o,p,q,s,t,d] 0) λa=>Za u F W u a):=by cases Y with|zero=>exact absurd Es (wo 0)|succ Y=>kernel_rfl
theorem KT(X:Int)(Y:Nat)(Es:0<Y)(Z:Ae):Za u F X Y Z=(Bi .i64 (Z.getD 0 .top) λa=>Bi .i64 (Z.getD 1 .top) λb=>Bi .i64 (Z.getD 2 .top) λc=>Bi .i64 (Z.getD 3 .top) λe=>Bi .i64 (Z.getD 4 .top) λf=>Bi .i64 (Z.getD 5 .top) λg=>Bi .i64 (Z.getD 6 .top) λh=>Bi .i64 (Z.getD 7 .top) λi=>Bi .i64 (Z.getD 8 .top) λj=>Bi .i64 (Z.getD 9 .top) λk=>Bi .i64 (Z.getD 10 .top) λm=>Bi .i64 (Z.getD 11 .top) λn=>Bi .i64 (Z.getD 12 .top) λo=>Bi .i64 (Z.getD 13 .top) λp=>Bi .i64 (Z.getD 14 .top) λq=>Bi .i64 (Z.getD 15 .top) λs=>Bi .i64 (Z.getD 16 .top) λt=>Bi .i64 (Z.getD 17 .top) λd=>A9 [.agg [a,b,c,e,f,g,h,i,j,k,m,n,o,p,q,s,t,d]]):=by cases Y with|zero=>exact absurd Es (wo 0)|succ Y=>kernel_rfl
theorem TL(Z:Int):Z5 (CX I) u d 131 [Ah Z] λF=>Ii u F Z u Z 0 0 ([(0:Int),(0:Int),(0:Int),(0:Int),(0:Int),(0:Int),(0:Int),(0:Int),(0:Int),(0:Int),(0:Int),(0:Int),(0:Int),(0:Int),(0:Int),(0:Int),(0:Int),(0:Int)]) ([(0:Int),(0:Int),(0:Int),(0:Int),(0:Int),(0:Int),(0:Int),(0:Int),(0:Int),(0:Int),(0:Int),(0:Int),(0:Int),(0:Int),(0:Int),(0:Int),(0:Int),(0:Int)]):=Φ
def O9(Z Y:Int)(X W V:Int)(U:Nat)(T S:Int)(Q P O:Int):Option A3:=Hq u F 132 Tryz.f132 [Z,Y,X,W,Ah V] [.r,.r,.l,.r,.l] U ⟨lk [(0,T),(1,S),(4,Ah Q),(11,P),(12,O)],Fb []⟩
theorem BM(U T:Int)(S Q P:Int)(O:Nat)(Y X:Int)(W V Z:Int):O9 u F U T S Q P (O+1) Y X W V Z=(Ap (decide (Z<V)) (Aa (wrap .u64 Y) λa=>Aa (wrap .u64 X) λb=>Aa (wrap .u64 Z) λc=>Cn (F 98 [Am 1 4 [Ah a,Ah b,Ah c,Ah W]]) λa b=>K5 1 a λa c=>Ag b<|As (decide (0+a*1<=c.length))<|Gn .u64 (F 93 [(1:Int),Am 1 a (yt (a*1) (c.drop 0))]) λa=>Aa (wrap .i64 (Z+1)) λb=>O9 u F U T S Q P O Y X a V b) (A9 [Ah W])):=Κ
theorem Adk(X W:Int)(Z Y V:Int):Z5 (CX I) u d 132 [X,W,Z,Y,Ah V] λF=>Aa (if 15<Y then 15 else Y) λa=>Aa (if Z<0 then 0 else Z) λb=>O9 u F X W Z Y V u X W V a b:=Φ
theorem RE(Z Y:Int)(X W:Int)(V U:Int)(T S:Int)(Q P:Int)(O N:Int)(M L:Int)(K J:Int)(e H G:Int):Z5 (CX I) u d 133 [Z,.agg [Ah Y,Ah X,Ah W,Ah V,Ah U,Ah T,Ah S,Ah Q,Ah P,Ah O,Ah N,Ah M,Ah L,Ah K,Ah J,Ah e,Ah H,Ah G]] λF=>Aa (wrap .u64 Z) λa=>Cn (F 98 [Am 1 19 [Ah a,Ah Y,Ah X,Ah W,Ah V,Ah U,Ah T,Ah S,Ah Q,Ah P,Ah O,Ah N,Ah M,Ah L,Ah K,Ah J,Ah e,Ah H,Ah G]]) λa b=>K5 1 a λa c=>Ag b<|As (decide (0+a*1<=c.length))<|Gn .u64 (F 93 [(2:Int),Am 1 a (yt (a*1) (c.drop 0))]) λa=>A9 [Ah a]:=Φ
def Gl(Z Y:Int)(X:Nat)(W:Ae)(V:Nat)(U:Int)(T:Nat)(S:Ae)(Q P:Int)(O N:Int)(M L:Int)(K J:Int)(I H:Int)(G E:Int)(D B:Int)(A z:Int)(w v a:Int)(t:Ae):Option A3:=Hq u F 99 Tryz.f99 [Z,Ah Y,Am 1 X W] [.r,.r,.r,.l,.r,.l] V ⟨lk [(0,U),(2,Am 1 T S),(8,.ptr 8 0),(15,.agg [Q,P,O,N,M,L,K,J,I,H,G,E,D,B,A,z,w,v]),(16,a)],Fb [(8,.ar false t)]⟩
def Wu(Z Y:Int)(X:Nat)(W:Ae)(V:Nat)(U:Int)(T:Ae):Option A3:=Hq u F 99 Tryz.f99 [Z,Ah Y,Am 1 X W] [.r,.r,.r] V ⟨lk [(0,U),(8,.ptr 8 0)],Fb [(8,.ar false T)]⟩
def Wp(Z Y:Int)(X:Nat)(W:Ae)(V:Nat)(U T:Int):Option A3:=Hq u F 99 Tryz.f99 [Z,Ah Y,Am 1 X W] [.r,.r,.r,.r] V ⟨lk [(6,Ah U),(7,T)],Fb []⟩
theorem Sh(W V:Int)(U:Nat)(T:Ae)(t:Nat)(Y:Int)(S:Nat)(Q:Ae)(P O:Int)(N M:Int)(L K:Int)(J I:Int)(H G:Int)(E D:Int)(B A:Int)(z w:Int)(v c Z:Int)(X:Ae):Gl u F W V U T (t+1) Y S Q P O N M L K J I H G E D B A z w v c Z X=(Ap (decide (Z<18)) (As (decide (0<=Z)&&decide (Z<18)&&true)<|Bi .i64 (List.getD [P,O,N,M,L,K,J,I,H,G,E,D,B,A,z,w,v,c] (Z.toNat*1) .top) λa=>As (decide (0<=Z)&&decide (Z<(↑S:Int)))<|Bi .u64 (Q.getD (Z.toNat*1) .top) λb=>Gn .u64 (F 132 [Y,Z,a,(15:Int),Ah b]) λa=>As (decide (0<=Z)&&decide (Z<18))<|As (decide (0+Z.toNat*1+1<=X.length))<|Aa (B9 X [Ah a] (0+Z.toNat*1)) λa=>Aa (wrap .i64 (Z+1)) λb=>Gl u F W V U T t Y S Q P O N M L K J I H G E D B A z w v c b a) (Wu u F W V U T u Y X)):=Κ
theorem IU(X W:Int)(V:Nat)(U:Ae)(Y:Nat)(Es:0<Y)(T:Int)(Z:Ae):Wu u F X W V U Y T Z=(Bi .u64 (Z.getD 0 .top) λa=>Bi .u64 (Z.getD 1 .top) λb=>Bi .u64 (Z.getD 2 .top) λc=>Bi .u64 (Z.getD 3 .top) λe=>Bi .u64 (Z.getD 4 .top) λf=>Bi .u64 (Z.getD 5 .top) λg=>Bi .u64 (Z.getD 6 .top) λh=>Bi .u64 (Z.getD 7 .top) λi=>Bi .u64 (Z.getD 8 .top) λj=>Bi .u64 (Z.getD 9 .top) λk=>Bi .u64 (Z.getD 10 .top) λm=>Bi .u64 (Z.getD 11 .top) λn=>Bi .u64 (Z.getD 12 .top) λo=>Bi .u64 (Z.getD 13 .top) λp=>Bi .u64 (Z.getD 14 .top) λq=>Bi .u64 (Z.getD 15 .top) λs=>Bi .u64 (Z.getD 16 .top) λt=>Bi .u64 (Z.getD 17 .top) λd=>Gn .u64 (F 133 [T,.agg [Ah a,Ah b,Ah c,Ah e,Ah f,Ah g,Ah h,Ah i,Ah j,Ah k,Ah m,Ah n,Ah o,Ah p,Ah q,Ah s,Ah t,Ah d]]) λa=>Wp u F X W V U u a 0):=by cases Y with|zero=>exact absurd Es (wo 0)|succ Y=>kernel_rfl
theorem HA(W V:Int)(U:Nat)(T:Ae)(Z:Nat)(Es:0<Z)(Y X:Int):Wp u F W V U T Z Y X=(A9 [Ah Y,X]):=by cases Z with|zero=>exact absurd Es (wo 0)|succ Z=>kernel_rfl
theorem QN(Y X:Int)(Z:Nat)(W:Ae):Z5 (CX I) u d 99 [Y,Ah X,Am 1 Z W] λF=>Ap ((↑Z:Int) != 18) (A9 [Ah 0,(4:Int)]) (Cn (F 131 [Ah X]) λa b=>Cr a λa=>Bu .i64 a λa c=>Bu .i64 c λc e=>Bu .i64 e λe f=>Bu .i64 f λf g=>Bu .i64 g λg h=>Bu .i64 h λh i=>Bu .i64 i λi j=>Bu .i64 j λj k=>Bu .i64 k λk m=>Bu .i64 m λm n=>Bu .i64 n λn o=>Bu .i64 o λo p=>Bu .i64 p λp q=>Bu .i64 q λq s=>Bu .i64 s λs t=>Bu .i64 t λt l=>Bu .i64 l λl v=>Bq .i64 v λv=>Ag b<|Gl u F Y X Z W u Y Z W a c e f g h i j k m n o p q s t l v 0 ([Ah 0,Ah 0,Ah 0,Ah 0,Ah 0,Ah 0,Ah 0,Ah 0,Ah 0,Ah 0,Ah 0,Ah 0,Ah 0,Ah 0,Ah 0,Ah 0,Ah 0,Ah 0])):=Φ
theorem Aaf(Z:Int):Z5 (CX I) u d 94 [Z] λF=>Ap (decide (Z<0)) (A9 [true]) (A9 [C3 (decide (Z>4))]):=Φ
theorem PK(Z Y:Int):Z5 (CX I) u d 95 [Z,Y] λF=>Ap (decide (Z<0)) (A9 [true]) (As (decide (0<=Y))<|Aa (Dv .i64 1 Y) λa=>A9 [C3 (decide (Z>=a))]):=Φ
def Jl(Z:Nat)(Y:Ae)(X W:Nat)(V:Ae)(U:Nat)(T S:Int)(Q:Ae):Option A3:=Hq u F 96 Tryz.f96 [Am 1 Z Y] [.r,.r,.l,.r,.l] X ⟨lk [(0,Am 1 W V),(3,.view 3 1 0 U),(12,T),(13,S)],Fb [(3,.ar false Q)]⟩
def Me(Z:Nat)(Y:Ae)(X W V:Nat)(U:Ae)(T:Nat)(S Q P:Int)(O:Nat)(N:Ae)(M L:Int)(K:Ae):Option A3:=Hq u F 96 Tryz.f96 [Am 1 Z Y] [.r,.r,.l,.r,.l,.i X,.r,.r,.l,.l,.r,.r,.l] W ⟨lk [(0,Am 1 V U),(3,.view 3 1 0 T),(4,S),(12,Q),(13,P),(22,Am 1 O N),(23,M),(24,L)],Fb [(3,.ar false K)]⟩
theorem Xb(T:Nat)(S:Ae)(Q W:Nat)(V:Ae)(Y:Nat)(U Z:Int)(X:Ae):Jl u F T S (Q+1) W V Y U Z X=(Ap (decide (Z<U)) (Aa (wrap .i64 (8*Z)) λa=>Aa (wrap .i64 (8*Z)) λb=>Aa (wrap .i64 (b+8)) λb=>As (decide (0<=a))<|As (decide (0<=b))<|As (decide (a.toNat<=b.toNat)&&decide (b.toNat<=W))<|Aa (b.toNat-a.toNat) λb=>Aa (yt (b*1) (V.drop (a.toNat*1))) λa=>Me u F T S Q u W V Y Z U Z b a (↑b:Int) 0 X) (As (decide (Y*1<=X.length))<|A9 [.own 1 Y (X.take (Y*1))])):=Κ
theorem V3(V:Nat)(U:Ae)(T K S:Nat)(Q:Ae)(X:Nat)(Z P O:Int)(N:Nat)(M:Ae)(L Y:Int)(W:Ae):Me u F V U T (K+1) S Q X Z P O N M L Y W=(Ap (decide (Y<L)) (As (decide (0<=Y)&&decide (Y<(↑N:Int)))<|Bi .u8 (M.getD (Y.toNat*1) .top) λa=>As (decide (0<=Z)&&decide (Z<(↑X:Int)))<|Bi .u64 (W.getD (0+Z.toNat*1) .top) λb=>Aa (Dv .u64 b 8) λb=>Aa (wrap .u64 a) λa=>Aa (Vm .u64 b a) λa=>As (decide (0<=Z)&&decide (Z<(↑X:Int)))<|As (decide (0+Z.toNat*1+1<=W.length))<|Aa (B9 W [Ah a] (0+Z.toNat*1)) λa=>Aa (wrap .i64 (Y+1)) λb=>Me u F V U T K S Q X Z P O N M L b a) (Aa (wrap .i64 (O+1)) λa=>Jl u F V U T S Q X P a W)):=Κ
theorem XD(Z:Nat)(Y:Ae):Z5 (CX I) u d 96 [Am 1 Z Y] λF=>Aa (wrap .i64 (wh (↑Z:Int) 8)) λa=>As (decide (0<=a)&&decide (a<=a)&&decide (a*8<=1099511627776)&&decide (a<=1099511627776))<|Jl u F Z Y u Z Y a.toNat ((↑a.toNat:Int)) 0 (Xx a.toNat [Ah 0]):=Φ
theorem TT(Z Y X:Int):Z5 (CX I) u d 100 [Z,Ah Y,Ah X] λF=>Aa (wrap .u64 Z) λa=>Cn (F 98 [Am 1 3 [Ah a,Ah Y,Ah X]]) λa b=>K5 1 a λa c=>Ag b<|As (decide (0+a*1<=c.length))<|Gn .u64 (F 93 [(3:Int),Am 1 a (yt (a*1) (c.drop 0))]) λa=>A9 [Ah a]:=Φ
theorem KL(Z Y:Int):Z5 (CX I) u d 128 [.agg [Z,Ah Y]] λF=>Cn (F 94 [Z]) λa b=>Bh a λa=>Ag b<|Ap a (A9 [.own 1 0 [],(9:Int)]) (Aa (wrap .u8 Z) λa=>Cn (F 98 [Am 1 1 [Ah Y]]) λb c=>K5 1 b λb e=>Ag c<|As (decide (0+b*1<=e.length))<|As (decide (wy (yt (b*1) (e.drop 0))=b*1)&&decide ((1+b)*1<=1099511627776)&&decide (1+b<=1099511627776))<|Aa (1+b) λc=>Aa ([.sc (.int .u8 a)]++yt (b*1) (e.drop 0)) λa=>As (decide (c*1<=a.length))<|A9 [.own 1 c (a.take (c*1)),(0:Int)]):=Φ
theorem LP(Z:Nat)(Y:Ae):Z5 (CX I) u d 90 [Am 1 Z Y] λF=>(λf:Option A3=>Ap ((↑Z:Int) != 9) f (As (decide (0<(↑Z:Int)))<|Bi .u8 (Y.getD 0 .top) λa=>Aa (wrap .i64 a) λa=>Cn (F 94 [a]) λa b=>Bh a λa=>Ag b<|Ap a f (As (decide (0<(↑Z:Int)))<|Bi .u8 (Y.getD 0 .top) λa=>Aa (wrap .i64 a) λa=>As (decide (1<=Z)&&decide (Z<=Z))<|Aa (Z-1) λb=>Aa (yt (b*1) (Y.drop 1)) λc=>Cn (F 96 [Am 1 b c]) λb c=>K5 1 b λb e=>Ag c<|As (decide (0<(↑b:Int)))<|Bi .u64 (e.getD 0 .top) λb=>A9 [.agg [a,Ah b],(0:Int)]))) (A9 [.agg [(0:Int),Ah 0],(2:Int)]):=Φ
theorem X3(Z:Nat)(Y:Ae):Z5 (CX I) u d 54 [Am 1 Z Y] λF=>(λh:Option A3=>Ap (decide ((↑Z:Int)<2)) h (As (decide (0<(↑Z:Int)))<|Bi .u8 (Y.getD 0 .top) λa=>Aa (wrap .i64 a) λa=>As (decide (1<(↑Z:Int)))<|Bi .u8 (Y.getD 1 .top) λb=>Aa (wrap .i64 b) λb=>Cn (F 94 [b]) λc e=>Bh c λc=>Ag e<|Ap c h (Cn (F 95 [a,b]) λc e=>Bh c λc=>Ag e<|Ap c h (Aa (wrap .i64 (18+b)) λb=>Aa (wrap .i64 (8*b)) λb=>Aa (wrap .i64 (2+b)) λb=>Ap ((↑Z:Int) != b) h (As (decide (146<=Z))<|Aa (yt 144 (Y.drop 2)) λb=>Cn (F 96 [Am 1 144 b]) λb c=>K5 1 b λb e=>Ag c<|As (decide (146<=Z)&&decide (Z<=Z))<|Aa (Z-146) λc=>Aa (yt (c*1) (Y.drop 146)) λf=>Cn (F 96 [Am 1 c f]) λc f=>K5 1 c λc g=>Ag f<|As (decide (b*1<=e.length))<|As (decide (c*1<=g.length))<|A9 [.agg [a,.own 1 b (e.take (b*1)),.own 1 c (g.take (c*1))],(0:Int)]))))) (A9 [.agg [(0:Int),.own 1 0 [],.own 1 0 []],(2:Int)]):=Φ
def Ik(Z Y:Int)(X W:Int)(V:Nat)(U:Ae)(T:Nat)(S:Ae)(Q:Nat)(P:Int)(O:Nat)(N:Ae)(M L:Int)(K J I:Int)(H:Nat)(G:Ae)(E:Nat)(D:Ae):Option A3:=Hq u F 57 Tryz.f57 [.agg [Z,Ah Y],Ah X,.agg [W,Am 1 V U,Am 1 T S]] [.r,.r,.r,.r,.r,.l,.r,.l] Q ⟨lk [(3,.ptr 3 0),(5,.ptr 5 0),(7,Ah P),(46,Am 1 O N),(47,M),(48,L)],Fb [(3,.st [K,Ah J]),(5,.st [I,Am 1 H G,Am 1 E D])]⟩
theorem T8(S Q:Int)(P O:Int)(N:Nat)(M:Ae)(L:Nat)(K:Ae)(J:Nat)(Y:Int)(X:Nat)(W:Ae)(V Z:Int)(I U T:Int)(H:Nat)(G:Ae)(E:Nat)(D:Ae):Ik u F S Q P O N M L K (J+1) Y X W V Z I U T H G E D=(Ap (decide (Z<V)) (As (decide (0<=Z)&&decide (Z<(↑X:Int)))<|Bi .u64 (W.getD (Z.toNat*1) .top) λa=>As (decide (0<=Z))<|Aa (E4 .i64 T Z) λb=>Aa (C8 .i64 b 1) λb=>Ap (b==0) (Aa (wrap .i64 (Z+1)) λb=>Gn .u64 (F 100 [b,Ah Y,Ah a]) λa=>Aa (wrap .i64 (Z+1)) λb=>Ik u F S Q P O N M L K J a X W V b I U T H G E D) (Aa (wrap .i64 (Z+1)) λb=>Gn .u64 (F 100 [b,Ah a,Ah Y]) λa=>Aa (wrap .i64 (Z+1)) λb=>Ik u F S Q P O N M L K J a X W V b I U T H G E D)) (Ap (Y != U) (A9 [(15:Int)]) (A9 [(0:Int)]))):=Κ
theorem UF(Z T:Int)(S X:Int)(W:Nat)(V:Ae)(Y:Nat)(U:Ae):Z5 (CX I) u d 57 [.agg [Z,Ah T],Ah S,.agg [X,Am 1 W V,Am 1 Y U]] λF=>Cn (F 94 [Z]) λa b=>Bh a λa=>Ag b<|Ap a (A9 [(9:Int)]) (Cn (F 95 [X,Z]) λa b=>Bh a λa=>Ag b<|Ap a (A9 [(9:Int)]) (Ap ((↑W:Int) != 18) (A9 [(4:Int)]) (Ap ((↑Y:Int) != Z) (A9 [(4:Int)]) (Cn (F 99 [X,Ah S,Am 1 W V]) λa b=>Bi .u64 a λa=>Bq .i64 b λb=>Ap (b != 0) (A9 [b]) (Ik u F Z T S X W V Y U u a Y U (↑Y:Int) 0 Z T X W V Y U))))):=Φ
end
theorem Beb{a m:Int}(b:0<=m)(c:m<=18446744073709551615):0<=C8 .u64 a m/\C8 .u64 a m<=m:=by
 have JJ:(zx 64 a &&& zx 64 m).toNat<=m.toNat:=by
  rw[BitVec.toNat_and];refine jl Nat.and_le_right ?_;rw[BitVec.toNat_ofInt];omega
 have:C8 .u64 a m=((zx 64 a &&& zx 64 m).toNat:Int):=by
  unfold C8;exact Ab7 Ω (by show ((zx 64 a &&& zx 64 m).toNat:Int)<=_;omega)
 rw[this];omega
theorem GP(k:IntKind)(l:Ak)(i:Nat)(x:Int):(Af k l).set i (.sc (.int k x))=Af k (l.set i x):=by
 induction l generalizing i with
 |nil=>rfl
 |cons a l b=>
  cases i with
  |zero=>rfl
  |succ i=>
   show (PV.sc (.int k a)::Af k l).set (i+1) _=PV.sc (.int k a)::Af k (l.set i x);rw[List.set_cons_succ,b]
theorem Anm(w:Int)(k:Nat):0<=G7 w k/\G7 w k<=255:=by unfold G7;simp only[wrap,IntKind.signed,IntKind.bits];simp;omega
theorem PU(w:Int):Ch (B6 w):=by intro x a;obtain⟨k,_,rfl⟩:=kl.1 a;exact Anm w k
theorem Z9(ws:Ak):Ch (Bb ws):=by intro x a;obtain⟨w,_,a⟩:=List.mem_flatMap.1 a;exact PU w x a
theorem Fd(ws:Ak):(Bb ws).length=8*ws.length:=by
 induction ws with
 |nil=>rfl
 |cons w ws a=>
  show (B6 w++Bb ws).length=_;rw[Ru,a,Cu,M9];omega
def Iy(m:Int)(k:Nat):Int:=wrap .i64 (C8 .u64 (E4 .u64 m (60-4*(k:Int))) 15)
theorem Y6(m:Int)(k:Nat):0<=Iy m k/\Iy m k<=15:=by have:=Beb (a:=E4 .u64 m (60-4*(k:Int))) (m:=15) Ω Ω;unfold Iy;rw[Ba];exact this
def N1(m:Int):Nat->Int
 |0=>0
 |k+1=>N1 m k+(15-Iy m k)
theorem Oj(m:Int):∀k,0<=N1 m k/\N1 m k<=15*k
 |0=>by simp[N1]
 |k+1=>by
  have a:=Oj m k;have b:=Y6 m k;simp only[N1];omega
def dgs(m:Int):Ak:=(za 16).map (Iy m)++[N1 m 16 / 16,N1 m 16 % 16]
def dg(m:Int)(k:Nat):Int:=(dgs m).getD k 0
theorem Auh(m:Int):(dgs m).length=18:=rfl
theorem A5q{m:Int}(h:x∈dgs m):0<=x/\x<=15:=by
 have a:=Oj m 16;unfold dgs at h;rcases B8.1 h with h|h
 ·obtain⟨k,_,rfl⟩:=kl.1 h;exact Y6 m k
 ·simp at h;rcases h with rfl|rfl<;>omega
theorem KC(m:Int)(k:Nat):0<=dg m k/\dg m k<=15:=by
 unfold dg;rw[zj];cases h:(dgs m)[k]? with
 |none=>simp
 |some x=>exact A5q (zn h)
def dl(m:Int)(i:Nat):Ak:=(za i).map (Iy m)++qz (18-i) 0
theorem Arh(m:Int)(h:i<=18):(dl m i).length=18:=by simp[dl];omega
theorem Bid(m:Int)(h:i<18):(dl m (i+1))[i]?=some (Iy m i):=by unfold dl;rw[zi Ψ];simp
theorem Bcx(m:Int)(h:i<18):(dl m i).set i (Iy m i)=dl m (i+1):=by unfold dl;rw[w6 _ _ Ψ,zv,w7,jq,show 18-i=(18-(i+1))+1 by omega,zw,w8,yk,kn,Zzv];rfl
def AB(leaf chain:Int):Nat->Int->Int->Int
 |0,_,x=>x
 |k+1,p,x=>AB leaf chain k (p+1) (Fk 1 (Bb [wrap .u64 leaf,wrap .u64 chain,wrap .u64 p,x]))
theorem Alb(leaf chain:Int):∀(k j:Nat)(p x:Int),AB leaf chain (k+j) p x=AB leaf chain j (p+k) (AB leaf chain k p x)
 |0,j,p,x=>by simp[AB]
 |k+1,j,p,x=>by
  rw[show k+1+j=(k+j)+1 by omega];simp only[AB];rw[Alb leaf chain k j]
  congr 1
  omega
def WA(leaf:Int)(E:Ak):Int:=Fk 2 (Bb (wrap .u64 leaf::E))
def LM(leaf m:Int)(s:Ak)(k:Nat):Int:=AB leaf k (15-dg m k).toNat (dg m k) (s.getD k 0)
def Acb(leaf m:Int)(s:Ak):Ak:=(za 18).map (LM leaf m s)
def Ah9(leaf m:Int)(s:Ak):Int:=WA leaf (Acb leaf m s)
def el(leaf m:Int)(s:Ak)(i:Nat):Ak:=(za i).map (LM leaf m s)++qz (18-i) 0
theorem A0y(leaf m:Int)(s:Ak)(h:i<=18):(el leaf m s i).length=18:=by simp[el];omega
theorem Be9(leaf m:Int)(s:Ak)(h:i<18):(el leaf m s i).set i (LM leaf m s i)=el leaf m s (i+1):=by unfold el;rw[w6 _ _ Ψ,zv,w7,jq,show 18-i=(18-(i+1))+1 by omega,zw,w8,yk,kn,Zzv];rfl
theorem Biw(leaf m:Int)(s:Ak):el leaf m s 18=Acb leaf m s:=by unfold el Acb;simp
theorem Ajp{a b:Ak}(d:Ch a)(e:Ch b):Ch (a++b):=by
 intro x c;rcases B8.1 c with c|c
 ·exact d x c
 ·exact e x c
section
variable {u d:Nat}{I:FuncId->Option (Ae->Option A3)}
theorem A2k{ws:Ak}(a:ws.length<=100)(Be:1000<=u)(dom:Int):Ac (CX I) prog u (d+5) 93 [Av dom,.lst false 1 (Bb ws).length (Af .u8 (Bb ws))]=some ⟨[Ah (Fk dom (Bb ws))],[]⟩:=
 XW (Z9 ws) (by rw[Fd];omega) Ω (by rw[Fd];omega) dom
theorem An2{leaf chain:Int}{a0 a1 a2 a3 a4:Int}(Be:1000<=u){t:Int}(ht:t<=15):∀(k nn:Nat)(p x:Int),(k:Int)=t-p->0<=p->k<nn ->
  O9 u (Ac (CX I) prog u (d+5)) a0 a1 a2 a3 a4 nn leaf chain x t p=some ⟨[Ah (AB leaf chain k p x)],[]⟩
 |_,0,_,_,_,_,h=>Ω
 |0,nn+1,p,x,e,hp,f=>by
  rw[BM,Fn _ _ _ Ω];rfl
 |k+1,nn+1,p,x,e,hp,f=>by
  have w:wrap .i64 (p+1)=p+1:=Ba;have a:Ac (CX I) prog u (d+5) 98 [.lst false 1 4 [Ah (wrap .u64 leaf),Ah (wrap .u64 chain),Ah (wrap .u64 p),Ah x]]=_:=QH (ws:=[wrap .u64 leaf,wrap .u64 chain,wrap .u64 p,x]) Ψ Ω (by simp;omega)
  have b:=A2k (I:=I) (u:=u) (d:=d) (ws:=[wrap .u64 leaf,wrap .u64 chain,wrap .u64 p,x]) Ψ Be 1;have c:=An2 (leaf:=leaf) (chain:=chain) (a0:=a0) (a1:=a1) (a2:=a2) (a3:=a3) (a4:=a4) Be ht k nn (p+1) (Fk 1 (Bb [wrap .u64 leaf,wrap .u64 chain,wrap .u64 p,x])) Ω Ω Ω;have L:=Al .u8 (Bb [wrap .u64 leaf,wrap .u64 chain,wrap .u64 p,x]);have eR:AB leaf chain (k+1) p x=AB leaf chain k (p+1) (Fk 1 (Bb [wrap .u64 leaf,wrap .u64 chain,wrap .u64 p,x])):=rfl;rw[eR];generalize Bb [wrap .u64 leaf,wrap .u64 chain,wrap .u64 p,x]=W at a b c L ⊢;rw[BM];simp(disch:=omega)only[Aq,Ar,a,Jp,I8,Jo,NH,L,b,w];exact c
theorem Bec{leaf chain:Int}(Be:1000<=u)(k:Nat)(f t x:Int)(a:(k:Int)=t-f)(b:0<=f)(c:t<=15):Ac (CX I) prog u (d+6) 132 [Av leaf,Av chain,Av f,Av t,Ah x]=some ⟨[Ah (AB leaf chain k f x)],[]⟩:=by rw[Adk];simp only[Ga];rw[Bd Ω,Bd Ω];exact An2 Be c k u f x a b Ω
theorem WN{F:An}{a0 m:Int}{y3:Ae}:∀(k i nn:Nat),i+k=16->k<nn ->
  Ii u F a0 nn m (N1 m i) i y3 (Af .i64 (dl m i))=Ii u F a0 (nn-k) m (N1 m 16) 16 y3 (Af .i64 (dl m 16))
 |_,_,0,_,h=>Ω
 |0,i,nn+1,hi,d=>by
  have e:i=16:=Ω
  subst e;rfl
 |k+1,i,nn+1,hi,d=>by
  have f:=WN (F:=F) (a0:=a0) (y3:=y3) (m:=m) k (i+1) nn Ω Ω;have l:=Y6 m i;have n:=Oj m i;have w:wrap .i64 ((i:Int)+1)=((i+1:Nat):Int):=Bc
  have g:wrap .i64 (4*(i:Int))=4*(i:Int):=Ba;have a:wrap .i64 (60-4*(i:Int))=60-4*(i:Int):=Ba;have hd:wrap .i64 (C8 .u64 (E4 .u64 m (60-4*(i:Int))) 15)=Iy m i:=rfl;have b:wrap .i64 (15-Iy m i)=15-Iy m i:=Ba;have j:wrap .i64 (N1 m i+(15-Iy m i))=N1 m (i+1):=by rw[Ba];rfl
  have L:(Af .i64 (dl m i)).length=18:=by rw[Al,Arh m Ω]
  have Am4:B9 (Af .i64 (dl m i)) [Av (Iy m i)] i=Af .i64 (dl m (i+1)):=by
   rw[J4 Ω,GP,Bcx m Ω]
  have c:(Af .i64 (dl m (i+1))).getD i .top=Av (Iy m i):=Tm (Bid m Ω);rw[show nn+1-(k+1)=nn-k by omega,<-f,Uc];simp(disch:=omega)only[Aq,Ar,Hy,Jp,I8,w,g,a,hd,L,Am4,c,b,j]
theorem Aw0(Be:1000<=u)(m:Int):Ac (CX I) prog u (d+1) 131 [Ah m]=some ⟨[.agg (Af .i64 (dgs m))],[]⟩:=by
 rw[TL];have e:=WN (u:=u) (F:=Ac (CX I) prog u d) (a0:=m) (m:=m) (y3:=Af .i64 (qz 18 0)) 16 0 u Ω Ω;obtain⟨f',a⟩:∃f',u-16=f'+1:=⟨u-17,Ω⟩
 rw[a] at e;refine Eq.trans e ?_;have p:=Oj m 16
 have f:wrap .i64 (wh (N1 m 16) 16)=N1 m 16 / 16:=by
  rw[wi Ω,Ba]
 have g:Int.tmod (N1 m 16) 16=N1 m 16 % 16:=Int.tmod_eq_emod_of_nonneg Ω;have L:(Af .i64 (dl m 16)).length=18:=by rw[Al,Arh m Ω]
 have h:B9 (Af .i64 (dl m 16)) [Av (N1 m 16 / 16)] 16=Af .i64 ((dl m 16).set 16 (N1 m 16 / 16)):=by
  rw[J4 Ω,GP]
 have i:(Af .i64 ((dl m 16).set 16 (N1 m 16 / 16))).length=18:=by rw[Al,w9,Arh m Ω]
 have j:B9 (Af .i64 ((dl m 16).set 16 (N1 m 16 / 16))) [Av (N1 m 16 % 16)] 17=Af .i64 (dgs m):=by
  rw[J4 Ω,GP];rfl
 rw[Uc,Fn _ _ _ Ω];simp only[Ga,f,g,L,h,i,j];generalize k:N1 m 16 / 16=q at *
 generalize l:N1 m 16 % 16=r at *
 have n:Af .i64 (dgs m)=[Av (Iy m 0),Av (Iy m 1),Av (Iy m 2),Av (Iy m 3),Av (Iy m 4),Av (Iy m 5),Av (Iy m 6),Av (Iy m 7),Av (Iy m 8),Av (Iy m 9),Av (Iy m 10),Av (Iy m 11),Av (Iy m 12),Av (Iy m 13),Av (Iy m 14),Av (Iy m 15),Av q,Av r]:=by
  unfold dgs;rw[k,l];rfl
 rw[n];have Bjc:(Af .i64 (qz 18 0)).length=18:=rfl
 have b:∀c:Ae,c.length=18->B9 (Af .i64 (qz 18 0)) c 0=c:=by
  intro c o;unfold B9;rw[o,zb (by rw[Bjc];omega)]
  simp
 rw[KK (Es:=Ω)];simp only[Aq,Ar,ga,gb,Bjc];rw[b _ rfl];simp(disch:=omega)only[Aq,Ar,KT,ga,gb]
theorem Arf(Be:1000<=u)(leaf:Int){E:Ak}(w:E.length=18):Ac (CX I) prog u (d+6) 133 [Av leaf,.agg (Af .u64 E)]=some ⟨[Ah (WA leaf E)],[]⟩:=by
 match E,w with
 |[j,k,l,m,n,o,p,q,r,s,a,b,c,e,f,g,h,i],_=>
  have t:Ac (CX I) prog u (d+5) 98 [.lst false 1 19 [Ah (wrap .u64 leaf),Ah j,Ah k,Ah l,Ah m,Ah n,Ah o,Ah p,Ah q,Ah r,Ah s,Ah a,Ah b,Ah c,Ah e,Ah f,Ah g,Ah h,Ah i]]=_:=QH (ws:=wrap .u64 leaf::[j,k,l,m,n,o,p,q,r,s,a,b,c,e,f,g,h,i]) Ψ Ω (by simp;omega)
  have v:=A2k (I:=I) (u:=u) (d:=d) (ws:=wrap .u64 leaf::[j,k,l,m,n,o,p,q,r,s,a,b,c,e,f,g,h,i]) Ψ Be 2;have L:=Al .u8 (Bb (wrap .u64 leaf::[j,k,l,m,n,o,p,q,r,s,a,b,c,e,f,g,h,i]));have eR:WA leaf [j,k,l,m,n,o,p,q,r,s,a,b,c,e,f,g,h,i]=Fk 2 (Bb (wrap .u64 leaf::[j,k,l,m,n,o,p,q,r,s,a,b,c,e,f,g,h,i])):=rfl;rw[eR];generalize Bb (wrap .u64 leaf::[j,k,l,m,n,o,p,q,r,s,a,b,c,e,f,g,h,i])=W at t v L ⊢;refine (RE u (d+5) leaf j k l m n o p q r s a b c e f g h i).trans ?_;simp(disch:=omega)only[Aq,Ar,t,Jp,I8,Jo,NH,L,v]
theorem Bkv(g:Nat->Int)(hi:i<18):List.getD [PV.sc (.int .i64 (g 0)),PV.sc (.int .i64 (g 1)),PV.sc (.int .i64 (g 2)),PV.sc (.int .i64 (g 3)),PV.sc (.int .i64 (g 4)),PV.sc (.int .i64 (g 5)),PV.sc (.int .i64 (g 6)),PV.sc (.int .i64 (g 7)),PV.sc (.int .i64 (g 8)),PV.sc (.int .i64 (g 9)),PV.sc (.int .i64 (g 10)),PV.sc (.int .i64 (g 11)),PV.sc (.int .i64 (g 12)),PV.sc (.int .i64 (g 13)),PV.sc (.int .i64 (g 14)),PV.sc (.int .i64 (g 15)),PV.sc (.int .i64 (g 16)),PV.sc (.int .i64 (g 17))] i PV.top=Av (g i):=by
 have:((za 18).map g)[i]?=some (g i):=by simp[hi]
 exact Tm (k:=.i64) this
theorem OU{a0 a1:Int}{a2n:Nat}{a2:Ae}{leaf m:Int}{s:Ak}(j:s.length=18)(Be:1000<=u)(g:Nat->Int)(a:∀k,g k=dg m k):∀(k i nn:Nat),i+k=18->k<nn ->
  Gl u (Ac (CX I) prog u (d+6)) a0 a1 a2n a2 nn leaf s.length (Af .u64 s) (g 0) (g 1) (g 2) (g 3) (g 4) (g 5) (g 6) (g 7) (g 8) (g 9) (g 10) (g 11) (g 12) (g 13) (g 14) (g 15) (g 16) (g 17) i (Af .u64 (el leaf m s i)) =
   Gl u (Ac (CX I) prog u (d+6)) a0 a1 a2n a2 (nn-k) leaf s.length (Af .u64 s) (g 0) (g 1) (g 2) (g 3) (g 4) (g 5) (g 6) (g 7) (g 8) (g 9) (g 10) (g 11) (g 12) (g 13) (g 14) (g 15) (g 16) (g 17) 18 (Af .u64 (el leaf m s 18))
 |_,_,0,_,h=>Ω
 |0,i,nn+1,hi,l=>by
  have e:i=18:=Ω
  subst e;rfl
 |k+1,i,nn+1,hi,l=>by
  have n:=OU (a0:=a0) (a1:=a1) (a2n:=a2n) (a2:=a2) (leaf:=leaf) (m:=m) j Be g a k (i+1) nn Ω Ω;obtain⟨x,c⟩:∃x,s[i]?=some x:=⟨_,zd Ω⟩
  have p:=KC m i;have b:=Bkv g (i:=i) Ω;have w:wrap .i64 ((i:Int)+1)=((i+1:Nat):Int):=Bc
  have f:=Bec (I:=I) (u:=u) (d:=d) (leaf:=leaf) (chain:=i) Be (15-dg m i).toNat (g i) 15 x (by rw[a];omega) (by rw[a];omega) Ω
  have o:AB leaf i (15-dg m i).toNat (g i) x=LM leaf m s i:=by
   unfold LM;rw[zj,c,a];rfl
  rw[o] at f;have L:(Af .u64 (el leaf m s i)).length=18:=by rw[Al,A0y leaf m s Ω]
  have Am4:B9 (Af .u64 (el leaf m s i)) [Ah (LM leaf m s i)] i=Af .u64 (el leaf m s (i+1)):=by
   rw[J4 Ω,GP,Be9 leaf m s Ω]
  rw[show nn+1-(k+1)=nn-k by omega,<-n,Sh];simp(disch:=omega)only[Aq,Ar,Hy,Jp,I8,b,Tm c,f,L,Am4,w]
theorem Akk(Be:1000<=u){a0 a1 leaf:Int}{a2n nn:Nat}{a2 c:Ae}{g:Nat->Int}{E:Ak}(l:E.length=18):
  Gl u (Ac (CX I) prog u (d+6)) a0 a1 a2n a2 (nn+1) leaf n c (g 0) (g 1) (g 2) (g 3) (g 4) (g 5) (g 6) (g 7) (g 8) (g 9) (g 10) (g 11) (g 12) (g 13) (g 14) (g 15) (g 16) (g 17) 18 (Af .u64 E)=some ⟨[Ah (WA leaf E),Av 0],[]⟩:=by
 match E,l with
 |[m,o,p,q,r,s,t,v,w,x,a,b,e,f,h,i,j,k],l=>
  have y:=Arf (I:=I) (u:=u) (d:=d) Be leaf l;have z:Af .u64 [m,o,p,q,r,s,t,v,w,x,a,b,e,f,h,i,j,k]=[Ah m,Ah o,Ah p,Ah q,Ah r,Ah s,Ah t,Ah v,Ah w,Ah x,Ah a,Ah b,Ah e,Ah f,Ah h,Ah i,Ah j,Ah k]:=rfl;rw[z] at y ⊢;generalize WA leaf [m,o,p,q,r,s,t,v,w,x,a,b,e,f,h,i,j,k]=R at y ⊢;rw[Sh,Fn _ _ _ Ω];simp(disch:=omega)only[Aq,Ar,IU,HA,ga,gb,y]
theorem Aro(Be:1000<=u)(leaf m:Int)(s:Ak):Ac (CX I) prog u (d+7) 99 [Av leaf,Ah m,.lst false 1 s.length (Af .u64 s)]=some ⟨(if s.length=18 then [Ah (Ah9 leaf m s),Av 0] else [Ah 0,Av 4]),[]⟩:=by
 rw[QN];by_cases h:s.length=18
 ·have b:=Aw0 (I:=I) (u:=u) (d:=d+5) Be m;have e:Af .i64 (dgs m)=[Av (dg m 0),Av (dg m 1),Av (dg m 2),Av (dg m 3),Av (dg m 4),Av (dg m 5),Av (dg m 6),Av (dg m 7),Av (dg m 8),Av (dg m 9),Av (dg m 10),Av (dg m 11),Av (dg m 12),Av (dg m 13),Av (dg m 14),Av (dg m 15),Av (dg m 16),Av (dg m 17)]:=rfl;rw[e] at b;simp only[Ej];rw[Bv h,Bv Ω];simp only[Aq,Ar,b];have c:=OU (I:=I) (u:=u) (d:=d) (a0:=leaf) (a1:=m) (a2n:=s.length) (a2:=Af .u64 s) (leaf:=leaf) (m:=m) h Be (dg m) (λ_=>rfl) 18 0 u Ω Ω;obtain⟨f',a⟩:∃f',u-18=f'+1:=⟨u-19,Ω⟩
  rw[a] at c;refine Eq.trans c ?_;have eE:el leaf m s 18=Acb leaf m s:=Biw leaf m s;have f:(Acb leaf m s).length=18:=by rw[<-eE,A0y leaf m s Ω]
  have eR:Ah9 leaf m s=WA leaf (Acb leaf m s):=rfl;rw[eE,eR];exact Akk Be f
 ·simp only[Ej];rw[Bd h,Bd Ω]
end
structure Ky where
 h:Int
 root:Int
structure Sg where
 leaf:Int
 chains:Ak
 path:Ak
def Ky.cells(k:Ky):Ae:=[Av k.h,Ah k.root]
def Sg.cells(s:Sg):Ae:=[Av s.leaf,.lst false 1 s.chains.length (Af .u64 s.chains),.lst false 1 s.path.length (Af .u64 s.path)]
def E6(h:Int):Bool:=decide (h<0)||decide (h>4)
def J7(leaf h:Int):Bool:=decide (leaf<0)||decide (leaf>=Dv .i64 1 h)
def Ux(level a b:Int):Int:=Fk 3 (Bb [wrap .u64 level,a,b])
def GY(leaf:Int):Nat->Int->Ak->Int
 |_,x,[]=>x
 |i,x,s::r=>GY leaf (i+1) (if C8 .i64 (E4 .i64 leaf i) 1=0 then Ux ((i+1:Nat):Int) x s else Ux ((i+1:Nat):Int) s x) r
def okE(x root:Int):Int:=if x=root then 0 else 15
theorem Aa4(leaf:Int)(i:Nat)(x:Int):GY leaf i x []=x:=rfl
theorem IF(leaf:Int)(i:Nat)(x s:Int)(r:Ak):GY leaf i x (s::r)=GY leaf (i+1) (if C8 .i64 (E4 .i64 leaf i) 1=0 then Ux ((i+1:Nat):Int) x s else Ux ((i+1:Nat):Int) s x) r:=rfl
def XI(k:Ky)(m:Int)(s:Sg):Int:=
 if E6 k.h=true then 9 else if J7 s.leaf k.h=true then 9 else if s.chains.length≠18 then 4 else if (s.path.length:Int)≠k.h then 4 else
 okE (GY s.leaf 0 (Ah9 s.leaf m s.chains) s.path) k.root
theorem Pg{h:Int}(a:E6 h=false):0<=h/\h<=4:=by unfold E6 at a;simp at a;omega
section
variable {u d:Nat}{I:FuncId->Option (Ae->Option A3)}
theorem YE(h:Int):Ac (CX I) prog u (d+1) 94 [Av h]=some ⟨[C3 (E6 h)],[]⟩:=by
 rw[Aaf];unfold E6;by_cases a:h<0
 ·simp only[Aq,Ar,NR,a,decide_true,bz,if_true]
 ·simp only[Aq,Ar,NR,a,decide_false,gv,if_false]
theorem YR(leaf h:Int)(b:0<=h):Ac (CX I) prog u (d+1) 95 [Av leaf,Av h]=some ⟨[C3 (J7 leaf h)],[]⟩:=by
 rw[PK];unfold J7;by_cases a:leaf<0
 ·simp only[Aq,Ar,NR,a,decide_true,bz,if_true]
 ·simp(disch:=omega)only[Aq,Ar,NR,a,decide_false,gv,if_false]
theorem Aec(Be:1000<=u)(level a b:Int):Ac (CX I) prog u (d+6) 100 [Av level,Ah a,Ah b]=some ⟨[Ah (Ux level a b)],[]⟩:=by
 have c:Ac (CX I) prog u (d+5) 98 [.lst false 1 3 [Ah (wrap .u64 level),Ah a,Ah b]]=_:=QH (ws:=[wrap .u64 level,a,b]) Ψ Ω (by simp;omega)
 have e:=A2k (I:=I) (u:=u) (d:=d) (ws:=[wrap .u64 level,a,b]) Ψ Be 3;have L:=Al .u8 (Bb [wrap .u64 level,a,b]);rw[TT];unfold Ux;generalize Bb [wrap .u64 level,a,b]=W at c e L ⊢;simp(disch:=omega)only[Aq,Ar,c,Jp,I8,Jo,NH,L,e]
theorem VI{a0 a1 a2 a3:Int}{n1 n2 n3 n4:Nat}{c1 c2 c3 c4:Ae}{y5 root leaf:Int}{path:Ak}(hp:path.length<=100)(Be:1000<=u):∀(r:Ak)(i nn:Nat)(x:Int),path.drop i=r->r.length<nn->i<=path.length ->
  Ik u (Ac (CX I) prog u (d+6)) a0 a1 a2 a3 n1 c1 n2 c2 nn x path.length (Af .u64 path) path.length i y5 root leaf n3 c3 n4 c4=some ⟨[Av (okE (GY leaf i x r) root)],[]⟩
 |_,_,0,_,_,h,_=>Ω
 |[],i,nn+1,x,h,b,hi=>by
  have:=drop_nil h;rw[T8,Fn _ _ _ Ω,Ej];rw[Aa4];unfold okE;by_cases e:x=root
  ·rw[Bv e,Bv e]
  ·rw[Bd e,Bd e]
 |s::r,i,nn+1,x,h,b,hi=>by
  obtain⟨l,c,g⟩:=Cb h;simp only[M9] at b;have w:wrap .i64 ((i:Int)+1)=((i+1:Nat):Int):=Bc
  have f:=λx=>VI (a0:=a0) (a1:=a1) (a2:=a2) (a3:=a3) (n1:=n1) (n2:=n2) (n3:=n3) (n4:=n4) (c1:=c1) (c2:=c2) (c3:=c3) (c4:=c4) (y5:=y5) (root:=root) (leaf:=leaf) hp Be r (i+1) nn x g Ω Ω;have j:=Aec (I:=I) (u:=u) (d:=d) Be ((i+1:Nat):Int) x s;have k:=Aec (I:=I) (u:=u) (d:=d) Be ((i+1:Nat):Int) s x;rw[T8,IF];by_cases a:C8 .i64 (E4 .i64 leaf i) 1=0
  ·rw[Bv a,<-f];simp(disch:=omega)only[Aq,Ar,Hy,Jp,Tm c,E9,a,w,j,if_true]
  ·rw[Bd a,<-f];simp(disch:=omega)only[Aq,Ar,Hy,Jp,Tm c,E9,a,w,k,if_false]
theorem Awf(Be:1000<=u)(k:Ky)(m:Int)(s:Sg):Ac (CX I) prog u (d+8) 57 [.agg k.cells,Ah m,.agg s.cells]=some ⟨[Av (XI k m s)],[]⟩:=by
 refine (UF u (d+7) k.h k.root m s.leaf s.chains.length (Af .u64 s.chains) s.path.length (Af .u64 s.path)).trans ?_;have a:=YE (I:=I) (u:=u) (d:=d+6) k.h;unfold XI;cases c1:E6 k.h
 ·rw[c1] at a;have g:=Pg c1;have b:=YR (I:=I) (u:=u) (d:=d+6) s.leaf k.h g.1;cases c2:J7 s.leaf k.h
  ·rw[c2] at b;by_cases e:s.chains.length=18
   ·by_cases c:(s.path.length:Int)=k.h
    ·have f:=Aro (I:=I) (u:=u) (d:=d) Be s.leaf m s.chains;rw[Bv e] at f;have h:=VI (I:=I) (u:=u) (d:=d+1) (a0:=k.h) (a1:=k.root) (a2:=m) (a3:=s.leaf) (n1:=s.chains.length) (n2:=s.path.length) (n3:=s.chains.length) (n4:=s.path.length) (c1:=Af .u64 s.chains) (c2:=Af .u64 s.path) (c3:=Af .u64 s.chains) (c4:=Af .u64 s.path) (y5:=k.h) (root:=k.root) (leaf:=s.leaf) (path:=s.path) Ω Be s.path 0 u (Ah9 s.leaf m s.chains) rfl Ω Ω;rw[Bd Ψ,Bd Ψ,Bd Ω,Bd Ω,<-h];simp(disch:=omega)only[Aq,Ar,a,b,Ej,f,if_true,c];rw[Bv Ω];rfl
    ·rw[Bd Ψ,Bd Ψ,Bd Ω,Bv c];simp(disch:=omega)only[Aq,Ar,a,b,Ej,c,if_false];rw[Bv Ω]
   ·rw[Bd Ψ,Bd Ψ,Bv e];simp(disch:=omega)only[Aq,Ar,a,b,Ej];rw[Bd Ω]
  ·rw[c2] at b;rw[Bd Ψ,Bv rfl];simp(disch:=omega)only[Aq,Ar,a,b]
 ·rw[c1] at a;rw[Bv rfl];simp(disch:=omega)only[Aq,Ar,a]
def LF(k:Ky):Ak:=wrap .u8 k.h::B6 k.root
def sgB(s:Sg):Ak:=wrap .u8 s.leaf::wrap .u8 s.path.length::(Bb s.chains++Bb s.path)
theorem owd(Be:1000<=u)(w:Int):Ac (CX I) prog u (d+1) 98 [.lst false 1 1 [Ah w]]=some ⟨[.own 1 8 (Af .u8 (B6 w))],[]⟩:=by
 have:=QH (I:=I) (u:=u) (d:=d) (ws:=[w]) Ψ Ω (by simp;omega)
 simp only[Bb,Le,List.flatMap_nil,vy,M9,SO,Cu] at this;exact this
theorem Aw7(Be:1000<=u)(k:Ky):Ac (CX I) prog u (d+2) 128 [.agg k.cells]=some ⟨(if E6 k.h=true then [.own 1 0 [],Av 9] else [.own 1 9 (Af .u8 (LF k)),Av 0]),[]⟩:=by
 refine (KL u (d+1) k.h k.root).trans ?_;have a:=YE (I:=I) (u:=u) (d:=d) k.h;have b:=owd (I:=I) (u:=u) (d:=d) Be k.root;have L:=Al .u8 (B6 k.root);rw[Cu] at L;have c:yt 8 (Af .u8 (B6 k.root))=Af .u8 (B6 k.root):=Gp Ω
 have e:yt 9 ([PV.sc (.int .u8 (wrap .u8 k.h))]++Af .u8 (B6 k.root))=Af .u8 (LF k):=by
  rw[Gp (by rw[Ru,L];simp)]
  rfl
 have f:([PV.sc (.int .u8 (wrap .u8 k.h))]++Af .u8 (B6 k.root)).length=9:=by rw[Ru,L];rfl
 cases c1:E6 k.h
 ·rw[c1] at a;rw[Bd Ψ];simp(disch:=omega)only[Aq,Ar,a,b,Jp,I8,Jo,L,c,Nat.reduceAdd,f,e]
 ·rw[c1] at a;rw[Bv rfl];simp(disch:=omega)only[Aq,Ar,a]
def Nw(l:Ak)(i:Nat):Int:=Ado ((l.drop (8*i)).take 8)
def Gx(l:Ak):Ak:=(za (l.length / 8)).map (Nw l)
def wl(l:Ak)(i:Nat):Ak:=(za i).map (Nw l)++qz (l.length / 8-i) 0
theorem A0k(l:Ak)(h:i<=l.length / 8):(wl l i).length=l.length / 8:=by simp[wl];omega
theorem Bbx(l:Ak)(h:i<l.length / 8):(wl l i).set i (Nw l i)=wl l (i+1):=by unfold wl;rw[w6 _ _ Ψ,zv,w7,jq,show l.length / 8-i=(l.length / 8-(i+1))+1 by omega,zw,w8,yk,kn,Zzv];rfl
theorem A78(l:Ak)(h:i<l.length / 8):(wl l i).set i 0=wl l i:=by unfold wl;rw[w6 _ _ Ψ,zv,w7,jq,show l.length / 8-i=(l.length / 8-(i+1))+1 by omega,zw,w8]
theorem Afr{n m0:Nat}{c:Ae}{l:Ak}(f:l.length<=1000000){i:Nat}(hi:i<l.length / 8){q:Ak}(g:q.length<=8):∀(r:Ak)(j nn:Nat)(x:Int),q.drop j=r->r.length<nn->j<=q.length ->
  Me u (Ac (CX I) prog u d) n c m0 nn l.length (Af .u8 l) (l.length / 8) i ((l.length / 8:Nat):Int) i q.length (Af .u8 q) q.length j (Af .u64 ((wl l i).set i x)) =
   Jl u (Ac (CX I) prog u d) n c m0 l.length (Af .u8 l) (l.length / 8) ((l.length / 8:Nat):Int) ((i+1:Nat):Int) (Af .u64 ((wl l i).set i (r.foldl M3 x)))
 |_,_,0,_,_,h,_=>Ω
 |[],j,nn+1,x,h,e,k=>by
  have:=drop_nil h;have w:wrap .i64 ((i:Int)+1)=((i+1:Nat):Int):=Bc
  rw[V3,Fn _ _ _ Ω];simp only[Ga,w,List.foldl_nil]
 |b::r,j,nn+1,x,h,e,k=>by
  obtain⟨s,m,o⟩:=Cb h;simp only[M9] at e;have w:wrap .i64 ((j:Int)+1)=((j+1:Nat):Int):=Bc
  have L:(Af .u64 ((wl l i).set i x)).length=l.length / 8:=by rw[Al,w9,A0k l Ω]
  have a:(Af .u64 ((wl l i).set i x)).getD i .top=Ah x:=Tm (by rw[List.getElem?_set_self (by rw[A0k l Ω];omega)])
  have Am4:B9 (Af .u64 ((wl l i).set i x)) [Ah (M3 x b)] i=Af .u64 ((wl l i).set i (M3 x b)):=by
   rw[J4 Ω,GP,List.set_set]
  have p:=Afr (n:=n) (m0:=m0) (c:=c) f hi g r (j+1) nn (M3 x b) o Ω Ω;rw[List.foldl_cons,<-p,V3];simp(disch:=omega)only[Aq,Ar,Hy,Jp,I8,Tm m,a,L,w];exact congrArg _ Am4
theorem VT{n:Nat}{c:Ae}{l:Ak}(f:l.length<=1000000)(Be:100<=u):∀(k i nn:Nat),i+k=l.length / 8->k<nn ->
  Jl u (Ac (CX I) prog u d) n c nn l.length (Af .u8 l) (l.length / 8) ((l.length / 8:Nat):Int) i (Af .u64 (wl l i))=some ⟨[.own 1 (l.length / 8) (Af .u64 (Gx l))],[]⟩
 |_,_,0,_,h=>Ω
 |0,i,nn+1,hi,g=>by
  have e:i=l.length / 8:=Ω
  subst e;have j:wl l (l.length / 8)=Gx l:=by unfold wl Gx;simp
  have L:(Af .u64 (Gx l)).length=l.length / 8:=by rw[Al];simp[Gx]
  have m:yt (l.length / 8) (Af .u64 (Gx l))=Af .u64 (Gx l):=Gp Ω;rw[Xb,Fn _ _ _ Ω,j];simp(disch:=omega)only[Aq,Ar,Jp,L,m]
 |k+1,i,nn+1,hi,g=>by
  have o:=VT (n:=n) (c:=c) f Be k (i+1) nn Ω Ω;have p:wrap .i64 (8*(i:Int))=((8*i:Nat):Int):=Bc
  have a:wrap .i64 (((8*i:Nat):Int)+8)=((8*i+8:Nat):Int):=Bc
  have r:8*i+8-8*i=8:=Ω
  have b:((l.drop (8*i)).take 8).length=8:=by rw[x7,yr];omega
  have st:=Afr (I:=I) (u:=u) (d:=d) (n:=n) (m0:=nn) (c:=c) f (i:=i) Ω (q:=(l.drop (8*i)).take 8) Ω ((l.drop (8*i)).take 8) 0 u 0 rfl Ω Ω;rw[A78 l Ω,b] at st;have s:((l.drop (8*i)).take 8).foldl M3 0=Nw l i:=rfl;rw[s,Bbx l Ω,o] at st;rw[Xb];simp(disch:=omega)only[Aq,Ar,Hy,Jp,p,a,r,G5,Fz];exact st
theorem A2o(n:Nat):Xx n [Ah 0]=Af .u64 (qz n 0):=by
 induction n with
 |zero=>rfl
 |succ n a=>
  show ([PV.sc (.int .u64 0)]::qz n [PV.sc (.int .u64 0)]).flatten=_;rw[List.flatten_cons,zw];show _++Xx n [Ah 0]=PV.sc (.int .u64 0)::Af .u64 (qz n 0);rw[a];rfl
theorem TE(b:l.length<=1000000)(Be:100<=u)(f:l.length<u):Ac (CX I) prog u (d+1) 96 [.lst false 1 l.length (Af .u8 l)]=some ⟨[.own 1 (l.length / 8) (Af .u64 (Gx l))],[]⟩:=by
 rw[XD]
 have w:wrap .i64 (wh (l.length:Int) 8)=((l.length / 8:Nat):Int):=by
  rw[wi Ω,Ba];omega
 have a:=VT (I:=I) (u:=u) (d:=d) (n:=l.length) (c:=Af .u8 l) b Be (l.length / 8) 0 u Ω Ω;have e:wl l 0=qz (l.length / 8) 0:=by unfold wl;simp
 rw[e] at a;simp(disch:=omega)only[Aq,Ar,w,Hy,A2o,Int.le_refl];exact a
def Adv(l:Ak):Option Ky:=if l.length=9/\E6 (l.getD 0 0)=false then some ⟨l.getD 0 0,Nw (l.drop 1) 0⟩ else none
def UY(o:Option Ky):Ae:=match o with|some k=>[.agg k.cells,Av 0]|none=>[.agg (Ky.mk 0 0).cells,Av 2]
theorem Axc(Be:1000<=u)(i:Ch l):Ac (CX I) prog u (d+2) 90 [.lst false 1 l.length (Af .u8 l)]=some ⟨UY (Adv l),[]⟩:=by
 refine (LP u (d+1) l.length (Af .u8 l)).trans ?_;unfold Adv;by_cases b:l.length=9
 ·obtain⟨x,c⟩:∃x,l[0]?=some x:=⟨_,zd Ω⟩
  have j:=i x (zn c);have g:wrap .i64 x=x:=Ba;have k:l.getD 0 0=x:=by rw[zj,c];rfl
  have e:=YE (I:=I) (u:=u) (d:=d) x;rw[k];cases c1:E6 x
  ·rw[c1] at e;have a:(l.drop 1).length=8:=by rw[yr];omega
   have h:=TE (I:=I) (u:=u) (d:=d) (l:=l.drop 1) Ω Ω Ω;rw[a] at h;have f:(Af .u64 (Gx (l.drop 1))).getD 0 .top=Ah (Nw (l.drop 1) 0):=Tm (by unfold Gx;rw[a];rfl)
   have m:9-1=8:=rfl;have n:yt 8 (Af .u8 (l.drop 1))=Af .u8 (l.drop 1):=Gp (by rw[Al];omega)
   rw[Bv ⟨b,rfl⟩,b];simp(disch:=omega)only[Aq,Ar,Ej,Tm c,g,e,Jp,G5,m,n,h,f];rfl
  ·rw[c1] at e;rw[Bd Ψ,b];simp(disch:=omega)only[Aq,Ar,Ej,Tm c,g,e];rfl
 ·rw[Bd (by simp[b])];simp(disch:=omega)only[Ej];rw[Bd Ω];rfl
def sgD(l:Ak):Option Sg:=
 if 2<=l.length/\E6 (l.getD 1 0)=false/\J7 (l.getD 0 0) (l.getD 1 0)=false/\(l.length:Int)=2+8*(18+l.getD 1 0) then some ⟨l.getD 0 0,Gx ((l.drop 2).take 144),Gx (l.drop 146)⟩ else none
def Sg.owned(s:Sg):Ae:=[Av s.leaf,.own 1 s.chains.length (Af .u64 s.chains),.own 1 s.path.length (Af .u64 s.path)]
def Abg(o:Option Sg):Ae:=match o with|some s=>[.agg s.owned,Av 0]|none=>[.agg (Sg.mk 0 [] []).owned,Av 2]
theorem NN(l:Ak):(Gx l).length=l.length / 8:=by simp[Gx]
theorem Ave(Be:1000<=u)(k:Ch l):Ac (CX I) prog u (d+2) 54 [.lst false 1 l.length (Af .u8 l)]=some ⟨Abg (sgD l),[]⟩:=by
 refine (X3 u (d+1) l.length (Af .u8 l)).trans ?_;unfold sgD;by_cases m:2<=l.length
 ·obtain⟨x,a⟩:∃x,l[0]?=some x:=⟨_,zd Ω⟩
  obtain⟨y,b⟩:∃y,l[1]?=some y:=⟨_,zd Ω⟩
  have s:=k x (zn a);have t:=k y (zn b);have f:wrap .i64 x=x:=Ba;have g:wrap .i64 y=y:=Ba;have v:l.getD 0 0=x:=by rw[zj,a];rfl
  have w:l.getD 1 0=y:=by rw[zj,b];rfl
  have c:=YE (I:=I) (u:=u) (d:=d) y;have e:=YR (I:=I) (u:=u) (d:=d) x y Ω;have n:wrap .i64 (18+y)=18+y:=Ba;have o:wrap .i64 (8*(18+y))=8*(18+y):=Ba;have p:wrap .i64 (2+8*(18+y))=2+8*(18+y):=Ba;rw[v,w];cases c1:E6 y
  ·rw[c1] at c;cases c2:J7 x y
   ·rw[c2] at e;by_cases h:(l.length:Int)=2+8*(18+y)
    ·have z:=Pg c1;have q:=TE (I:=I) (u:=u) (d:=d) (l:=(l.drop 2).take 144) (by rw[x7,yr];omega) Ω (by rw[x7,yr];omega)
     have r:=TE (I:=I) (u:=u) (d:=d) (l:=l.drop 146) (by rw[yr];omega) Ω (by rw[yr];omega)
     have i:((l.drop 2).take 144).length=144:=by rw[x7,yr];omega
     have j:(l.drop 146).length=l.length-146:=yr;rw[i] at q;have A:(Af .u64 (Gx ((l.drop 2).take 144))).length=18:=by rw[Al,NN,i]
     have B:(Af .u64 (Gx (l.drop 146))).length=(l.length-146) / 8:=by rw[Al,NN,j]
     rw[j] at r;have C:yt (144 / 8) (Af .u64 (Gx ((l.drop 2).take 144)))=Af .u64 (Gx ((l.drop 2).take 144)):=Gp Ω;have D:yt ((l.length-146) / 8) (Af .u64 (Gx (l.drop 146)))=Af .u64 (Gx (l.drop 146)):=Gp Ω;have E:yt (l.length-146) (l.drop 146)=l.drop 146:=Gp Ω;rw[Bv ⟨m,rfl,rfl,h⟩];simp(disch:=omega)only[Aq,Ar,Ej,Tm a,Tm b,f,g,c,e,n,o,p,Jp,G5,Fz,q,r,E,A,B,C,D];rw[Bv h];simp only[Abg,Sg.owned,NN,i,j]
    ·rw[Bd (by simp[h])];simp(disch:=omega)only[Aq,Ar,Ej,Tm a,Tm b,f,g,c,e,n,o,p];rw[Bd h];rfl
   ·rw[c2] at e;rw[Bd Ψ];simp(disch:=omega)only[Aq,Ar,Ej,Tm a,Tm b,f,g,c,e];rfl
  ·rw[c1] at c;rw[Bd Ψ];simp(disch:=omega)only[Aq,Ar,Ej,Tm a,Tm b,f,g,c];rfl
 ·rw[Bd (by simp[m])];simp(disch:=omega)only[Aq,Ar];rfl
end
def Ary(seed leaf chain:Int):Int:=A6s seed 1 (Bb [wrap .u64 leaf,wrap .u64 chain])
def Ai0(seed leaf:Int)(c:Nat):Int:=AB leaf c 15 0 (Ary seed leaf c)
def TK(seed leaf:Int):Int:=WA leaf ((za 18).map (Ai0 seed leaf))
def Aik(seed leaf m:Int)(c:Nat):Int:=AB leaf c (dg m c).toNat 0 (Ary seed leaf c)
def GG(seed leaf m:Int):Ak:=(za 18).map (Aik seed leaf m)
def Nq(seed:Int):Nat->Int->Int
 |0,i=>TK seed i
 |l+1,i=>Ux ((l+1:Nat):Int) (Nq seed l (2*i)) (Nq seed l (2*i+1))
def Vp(seed:Int)(h:Int):Ky:=if E6 h=true then ⟨0,0⟩ else ⟨h,Nq seed h.toNat 0⟩
def EY(leaf:Int)(k:Nat):Int:=Fh .i64 (E4 .i64 leaf k) 1
def Agq(seed:Int)(h leaf m:Int):Option Sg:=if E6 h=true then none else if J7 leaf h=true then none else some ⟨leaf,GG seed leaf m,(za h.toNat).map λk=>Nq seed k (EY leaf k)⟩
def PC(o:Option Sg):Ae:=match o with|some s=>[.agg s.owned,Av 0]|none=>[.agg (Sg.mk 0 [] []).owned,Av 9]
section
variable {u d:Nat}{I:FuncId->Option (Ae->Option A3)}
def pl(g:Nat->Int)(i:Nat):Ak:=(za i).map g++qz (18-i) 0
end
def Cp(s:ByteArray):Ak:=s.data.toList.map λb=>(b.toNat:Int)
def Ab(l:Ak):ByteArray:=⟨(l.map λn=>n.toNat.toUInt8).toArray⟩
theorem Cj(s:ByteArray):(Cp s).length=s.size:=by unfold Cp;rw[zv];rfl
theorem Vn(s:ByteArray):Ch (Cp s):=by intro x a;obtain⟨b,_,rfl⟩:=kl.1 a;have:=b.toNat_lt;omega
theorem Ia(s:ByteArray):Dt s=Af .u8 (Cp s):=by
 unfold Dt Cp
 induction s.data.toList with
 |nil=>rfl
 |cons b l a=>rw[ER,ER,a];rfl
theorem Ai(l:Ak):(Ab l).size=l.length:=by show (l.map λn=>n.toNat.toUInt8).toArray.size=_;simp
theorem Cw(h:Ch l):Cp (Ab l)=l:=by
 unfold Cp Ab;simp only[ba]
 have:∀l:Ak,Ch l->bb ((λb:UInt8=>(b.toNat:Int)) ∘ λn:Int=>n.toNat.toUInt8) l=l:=by
  intro l
  induction l with
  |nil=>intro _;rfl
  |cons x l a=>
   intro h;have d:=h x Ψ;rw[ER,a λy c=>h y (by simp[c])]
   congr 1
   show ((x.toNat.toUInt8.toNat:Nat):Int)=x;rw[Nat.toUInt8,UInt8.toNat_ofNat'];omega
 exact this l h
theorem Hk(s:ByteArray):Ab (Cp s)=s:=by
 unfold Ab Cp;simp only[ba]
 have:∀l:List UInt8,bb ((λn:Int=>n.toNat.toUInt8) ∘ λb:UInt8=>(b.toNat:Int)) l=l:=by
  intro l
  induction l with
  |nil=>rfl
  |cons x l a=>
   rw[ER,a]
   congr 1
   show ((x.toNat:Int).toNat).toUInt8=x;rw[Hy];simp
 rw[this]
theorem Hl:∀l:Ak,H2 (Af .u8 l)=some (l.map λn=>n.toNat.toUInt8)
 |[]=>rfl
 |x::l=>by
  show (H2 (Af .u8 l)).map (x.toNat.toUInt8 :: ·)=_;rw[Hl l];rfl
theorem Ami(l:Ak)(s:ByteArray):Ab l++s=Ab (l++Cp s):=by
 conv=>lhs;rw[<-Hk s]
 unfold Ab;apply ByteArray.ext;rw[ByteArray.data_append];simp
def K7(v:Int):Int:=if v<26 then 65+v else if v<52 then 71+v else if v<62 then v-4 else if v<63 then 45 else 95
def Br(c:Int):Int:=if 65<=c/\c<=90 then c-65 else if 97<=c/\c<=122 then c-71 else if 48<=c/\c<=57 then c+4 else if c=45 then 62 else if c=95 then 63 else 64
theorem Hz{v:Int}(a:0<=v)(b:v<64):Br (K7 v)=v:=by unfold Br K7;split<;>split<;>(try split)<;>(try split)<;>(try split)<;>(try split)<;>(try split)<;>(try split)<;>omega
theorem Ut{c:Int}(h:Br c<64):K7 (Br c)=c:=by unfold Br at h ⊢;unfold K7;split at h<;>(try split at h)<;>(try split at h)<;>(try split at h)<;>(try split at h)<;>simp_all<;>(try split)<;>(try split)<;>(try split)<;>omega
theorem Jh(c:Int):0<=Br c/\Br c<=64:=by
 unfold Br;split
 ·omega
 split
 ·omega
 split
 ·omega
 split
 ·omega
 split<;>omega
def Ge:Ak->Ak
 |[]=>[]
 |[a]=>[K7 (a / 4),K7 (a % 4*16)]
 |[a,b]=>[K7 (a / 4),K7 (a % 4*16+b / 16),K7 (b % 16*4)]
 |a::b::c::r=>K7 (a / 4)::K7 (a % 4*16+b / 16)::K7 (b % 16*4+c / 64)::K7 (c % 64)::Ge r
def Nr:Ak->Option Ak
 |[]=>some []
 |[_]=>none
 |[p,q]=>if Br p<64/\Br q<64/\Br q % 16=0 then some [Br p*4+Br q / 16] else none
 |[p,q,r]=>if Br p<64/\Br q<64/\Br r<64/\Br r % 4=0 then some [Br p*4+Br q / 16,Br q % 16*16+Br r / 4] else none
 |p::q::r::s::t=>if Br p<64/\Br q<64/\Br r<64/\Br s<64 then (Nr t).map (λl=>(Br p*4+Br q / 16)::(Br q % 16*16+Br r / 4)::(Br r % 4*64+Br s)::l) else none
theorem Ck{a:Int}(h:Ch (a::l)):(0<=a/\a<=255)/\Ch l:=⟨h a Ψ,λx b=>h x (by simp[b])⟩
theorem Ahz:∀{l:Ak},Ch l->Nr (Ge l)=some l
 |[],_=>rfl
 |[a],h=>by
  obtain⟨g,_⟩:=Ck h;have d:=Hz (v:=a / 4) Ω Ω;have e:=Hz (v:=a % 4*16) Ω Ω;unfold Ge Nr;rw[d,e,Bv Ω]
  congr 2
  omega
 |[a,b],h=>by
  obtain⟨g,h⟩:=Ck h;obtain⟨i,_⟩:=Ck h;have d:=Hz (v:=a / 4) Ω Ω;have e:=Hz (v:=a % 4*16+b / 16) Ω Ω;have f:=Hz (v:=b % 16*4) Ω Ω;unfold Ge Nr;rw[d,e,f,Bv Ω]
  congr 2
  ·omega
  ·congr 1;omega
 |a::b::c::r,h=>by
  obtain⟨g,h⟩:=Ck h;obtain⟨i,h⟩:=Ck h;obtain⟨k,h⟩:=Ck h;have d:=Hz (v:=a / 4) Ω Ω;have e:=Hz (v:=a % 4*16+b / 16) Ω Ω;have f:=Hz (v:=b % 16*4+c / 64) Ω Ω;have j:=Hz (v:=c % 64) Ω Ω;unfold Ge Nr;rw[d,e,f,j,Bv Ω,Ahz h];simp only[jz]
  congr 2
  ·omega
  ·congr 1
   ·omega
   ·congr 1;omega
theorem Ask:∀{s l:Ak},Nr s=some l->Ge l=s/\Ch l
 |[],l,h=>by cases h;exact⟨rfl,λx a=>by cases a⟩
 |[_],l,h=>by cases h
 |[p,q],l,h=>by
  unfold Nr at h;split at h
  ·rename_i b;cases h;have c:=Jh p;have d:=Jh q;refine⟨?_,λx a=>by simp at a;subst a;omega⟩
   unfold Ge;rw[show (Br p*4+Br q / 16) / 4=Br p by omega,show (Br p*4+Br q / 16) % 4*16=Br q by omega,Ut b.1,Ut b.2.1]
  ·cases h
 |[p,q,r],l,h=>by
  unfold Nr at h;split at h
  ·rename_i b;cases h;have c:=Jh p;have d:=Jh q;have e:=Jh r;refine⟨?_,λx a=>by simp at a;rcases a with rfl|rfl<;>omega⟩
   unfold Ge
   rw[show (Br p*4+Br q / 16) / 4=Br p by omega,show (Br p*4+Br q / 16) % 4*16+(Br q % 16*16+Br r / 4) / 16=Br q by omega,
    show (Br q % 16*16+Br r / 4) % 16*4=Br r by omega,Ut b.1,Ut b.2.1,Ut b.2.2.1]
  ·cases h
 |p::q::r::s::t,l,h=>by
  unfold Nr at h;split at h
  ·rename_i b;cases ht:Nr t with
   |none=>rw[ht] at h;cases h
   |some f=>
    rw[ht] at h;cases h;obtain⟨g,i⟩:=Ask ht;have c:=Jh p;have d:=Jh q;have e:=Jh r;have ns:=Jh s;refine⟨?_,λx a=>?_⟩
    ·show Ge ((Br p*4+Br q / 16)::(Br q % 16*16+Br r / 4)::(Br r % 4*64+Br s)::f)=_;unfold Ge
     rw[g,show (Br p*4+Br q / 16) / 4=Br p by omega,show (Br p*4+Br q / 16) % 4*16+(Br q % 16*16+Br r / 4) / 16=Br q by omega,
      show (Br q % 16*16+Br r / 4) % 16*4+(Br r % 4*64+Br s) / 64=Br r by omega,show (Br r % 4*64+Br s) % 64=Br s by omega,Ut b.1,Ut b.2.1,Ut b.2.2.1,Ut b.2.2.2]
    ·simp only[zl] at a;rcases a with rfl|rfl|rfl|a
     ·omega
     ·omega
     ·omega
     ·exact i x a
  ·cases h
def Te:Int->Int->Ak->Option Ak
 |_,_,[]=>some []
 |n,bits,c::r=>if Br c>63 then none else
  if bits+6>=8 then (Te ((n*64+Br c) % 65536) (bits-2) r).map (((n*64+Br c) % 65536 / 2 ^ (bits-2).toNat % 256) :: ·)
  else Te ((n*64+Br c) % 65536) (bits+6) r
theorem Atd:∀{l:Ak},Ch l->∀n:Int,0<=n->Te n 0 (Ge l)=some l
 |[],_,n,_=>rfl
 |[a],h,n,g=>by
  obtain⟨i,_⟩:=Ck h;have d:=Hz (v:=a / 4) Ω Ω;have e:=Hz (v:=a % 4*16) Ω Ω;unfold Ge Te;rw[d,Bd Ω,Bd Ω];unfold Te;rw[e,Bd Ω,Bv Ω];unfold Te;rw[show (2:Int) ^ (0+6-2:Int).toNat=16 by decide];simp only[jz]
  congr 2
  omega
 |[a,b],h,n,g=>by
  obtain⟨i,h⟩:=Ck h;obtain⟨j,_⟩:=Ck h;have d:=Hz (v:=a / 4) Ω Ω;have e:=Hz (v:=a % 4*16+b / 16) Ω Ω;have f:=Hz (v:=b % 16*4) Ω Ω;unfold Ge Te;rw[d,Bd Ω,Bd Ω];unfold Te;rw[e,Bd Ω,Bv Ω];unfold Te;rw[f,Bd Ω,Bv Ω];unfold Te;rw[show (2:Int) ^ (0+6-2:Int).toNat=16 by decide,show (2:Int) ^ (0+6-2-2:Int).toNat=4 by decide];simp only[jz]
  congr 2
  ·omega
  ·congr 1;omega
 |a::b::c::r,h,n,g=>by
  obtain⟨i,h⟩:=Ck h;obtain⟨j,h⟩:=Ck h;obtain⟨m,h⟩:=Ck h;have d:=Hz (v:=a / 4) Ω Ω;have e:=Hz (v:=a % 4*16+b / 16) Ω Ω;have f:=Hz (v:=b % 16*4+c / 64) Ω Ω;have k:=Hz (v:=c % 64) Ω Ω;unfold Ge Te;rw[d,Bd Ω,Bd Ω];unfold Te;rw[e,Bd Ω,Bv Ω];unfold Te;rw[f,Bd Ω,Bv Ω];unfold Te;rw[k,Bd Ω,Bv Ω];rw[show (0+6-2-2-2:Int)=0 by decide];rw[show (2:Int) ^ (0+6-2:Int).toNat=16 by decide,show (2:Int) ^ (0+6-2-2:Int).toNat=4 by decide,show (2:Int) ^ (0:Int).toNat=1 by decide];rw[Atd h _ Ω];simp only[jz]
  congr 2
  ·omega
  ·congr 1
   ·omega
   ·congr 1;omega
theorem YF:∀l:Ak,(Ge l).length=(4*l.length+2) / 3
 |[]=>rfl
 |[_]=>by simp[Ge]
 |[_,_]=>by simp[Ge]
 |a::b::c::r=>by
  show (Ge r).length+1+1+1+1=_;rw[YF r];simp only[M9];omega
def Ri(c:Int):Bool:=c==32||c==9||c==10||c==13
def Aw:Ak->Ak
 |[]=>[]
 |c::r=>if Ri c=true then Aw r else c::r
def XJ(c:Int):Option Int:=if 48<=c/\c<=57 then some (c-48) else if 97<=c/\c<=102 then some (c-87) else if 65<=c/\c<=70 then some (c-55) else none
abbrev PR(α:Type):=Option α × Ak
def U8:Nat->Int->Ak->PR Int
 |0,x,l=>(some x,l)
 |_+1,_,[]=>(none,[])
 |n+1,x,c::r=>match XJ c with
  |some v=>U8 n (x*16+v) r
  |none=>(none,c::r)
def Zn(x:Int):Bool:=decide (56320<=x)&&decide (x<=57343)
def Afi(x:Int)(l:Ak):PR Int:=
 match U8 4 0 l with
 |(some y,r)=>if Zn y=true then (some (65536+(x-55296)*1024+(y-56320)),r) else (none,r)
 |(none,r)=>(none,r)
def App:Ak->Bool
 |92::117::_=>true
 |_=>false
def Xk(l:Ak):PR Int:=
 match U8 4 0 l with
 |(none,r)=>(none,r)
 |(some x,r)=>if Zn x=true then (none,r) else if x<55296\/56319<x then (some x,r) else if App r=true then Afi x (r.drop 2) else (none,r)
def DN(c:Int):Option Int:=if c=34\/c=92\/c=47 then some c else if c=98 then some 8 else if c=102 then some 12 else if c=110 then some 10 else if c=114 then some 13 else if c=116 then some 9 else none
def O6:Ak->PR Int
 |[]=>(none,[])
 |c::r=>if c=117 then Xk r else match DN c with
  |some x=>(some x,r)
  |none=>(none,c::r)
def Kj:Nat->Ak->Ak->PR Ak
  |0,_,l=>(none,l)
  |_+1,_,[]=>(none,[])
  |n+1,a,c::r=>if c<32 then (none,c::r) else if c=34 then (some a,r) else if c=92 then
      (match O6 r with
       |(some x,r')=>Kj n (a++b6 x) r'
       |(none,r')=>(none,r'))
    else Kj n (a++[c]) r
def D1:Ak->PR Ak
 |[]=>(none,[])
 |c::r=>if c=34 then Kj (r.length+1) [] r else (none,c::r)
def QS(l:Ak):Option (Ak × Ak):=match D1 l with|(some s,r)=>some (s,r)|_=>none
def YN(c:Int):Bool:=decide (48<=c)&&decide (c<=57)
def Ib:Ak->Ak
 |[]=>[]
 |c::r=>if YN c=true then Ib r else c::r
def Ka:Ak->Option Ak
 |[]=>none
 |c::r=>if YN c=true then some (Ib r) else none
def Aka(c:Int):Ak->Ak
 |[]=>[]
 |d::r=>if d=c then r else d::r
def UJ:Ak->Option Ak
 |[]=>some []
 |c::r=>if c=101\/c=69 then (match r with
   |43::r'=>Ka r'
   |r=>Ka (Aka 45 r)) else some (c::r)
def RN:Ak->Option Ak
 |[]=>some []
 |c::r=>if c=46 then (Ka r).bind UJ else UJ (c::r)
def Au7:Ak->Option Ak
 |[]=>none
 |c::r=>if c=48 then some r else Ka (c::r)
def FP(l:Ak):Option Ak:=(Au7 (Aka 45 l)).bind RN
abbrev JV:=Int × Ak × Bool
abbrev JR(α:Type):=Except Int α
def Aag(V:Ak->JR (JV × Ak)):Nat->Ak->JR Ak
 |0,_=>.error 2
 |n+1,l=>match V l with
  |.error e=>.error e
  |.ok (_,r)=>match Aw r with
   |93::r'=>.ok r'
   |44::r'=>Aag V n (Aw r')
   |_=>.error 2
def QR(V:Ak->JR (JV × Ak))(l:Ak):JR Ak:=
 match Aw l with
 |93::r=>.ok r
 |a=>Aag V (a.length+1) a
def Bda(V:Ak->JR (JV × Ak))(a:Ak->Bool)(l:Ak):JR ((Ak × JV) × Ak):=
 match QS l with
 |none=>.error 2
 |some (b,r)=>if a b=true then .error 10 else
  match Aw r with
  |58::r'=>(match V (Aw r') with
   |.error e=>.error e
   |.ok (v,r'')=>.ok ((b,v),r''))
  |_=>.error 2
def Ra(V:Ak->JR (JV × Ak))(kp:Bool):Nat->List (Ak × JV)->Ak->JR (List (Ak × JV) × Ak)
 |0,_,_=>.error 2
 |n+1,a,l=>match Bda V (λb=>kp&&a.any λm=>m.1==b) l with
  |.error e=>.error e
  |.ok (m,r)=>match Aw r with
   |125::r'=>.ok (a++[m],r')
   |44::r'=>Ra V kp n (a++[m]) (Aw r')
   |_=>.error 2
def BJ(V:Ak->JR (JV × Ak))(kp:Bool)(l:Ak):JR (List (Ak × JV) × Ak):=
 match Aw l with
 |125::r=>.ok ([],r)
 |a=>Ra V kp (a.length+1) [] a
def Az(w l:Ak):Option Ak:=if w.isPrefixOf l=true then some (l.drop w.length) else none
def Dc:Nat->Ak->JR (JV × Ak)
 |k,l=>match l with
  |123::r=>(match k with
   |0=>.error 5
   |k+1=>(match BJ (Dc k) false r with
    |.error e=>.error e
    |.ok (_,r')=>.ok ((6,[],false),r')))
  |91::r=>(match k with
   |0=>.error 5
   |k+1=>(match QR (Dc k) r with
    |.error e=>.error e
    |.ok r'=>.ok ((5,[],false),r')))
  |34::r=>(match QS (34::r) with
   |none=>.error 2
   |some (s,r')=>.ok ((4,s,false),r'))
  |l=>match Az [116,114,117,101] l with
   |some r=>.ok ((2,[],true),r)
   |none=>match Az [102,97,108,115,101] l with
    |some r=>.ok ((2,[],false),r)
    |none=>match Az [110,117,108,108] l with
     |some r=>.ok ((1,[],false),r)
     |none=>match FP l with
      |some r=>.ok ((3,[],false),r)
      |none=>.error 2
def XM(k:Nat)(l:Ak):JR (List (Ak × JV)):=
 match Aw l with
 |123::r=>(match BJ (Dc k) true r with
  |.error e=>.error e
  |.ok (a,r')=>if Aw r'=[] then .ok a else .error 2)
 |_=>.error 2
structure En where
 k:Int
 na:Nat
 an:Ae
 ns:Nat
 st:Ae
variable{es:List En}
def DR:Ae->Option (List En)
 |[]=>some []
 |.sc (.int .u64 k) :: .lst false 3 na an :: .lst false 2 ns st::r=>bif Nat.beq an.length (na*3)&&Nat.beq st.length (ns*2)&&jg na 1000&&jg ns 1000 then (DR r).map (⟨k,na,an,ns,st⟩ :: ·) else none
 |_=>none
def U9:Ae->Option (List (Int × Int))
 |[]=>some []
 |.sc (.int .i64 k) :: .sc (.int .i64 t)::r=>(U9 r).map ((k,t) :: ·)
 |_=>none
def Aw4(model:Int)(es:List En):Ae:=match es.find? λe=>e.k==model with|some e=>e.st|none=>[]
def Zv(now:Int)(l:List (Int × Int)):Int:=match l.reverse.find? λp=>decide (p.2<=now) with|some p=>p.1|none=>0
def As9(args:Ae):Option A3:=
  match args with
  |[.agg [.sc (.int .i64 _),.sc (.int .i64 _),.sc (.int .i64 _),.lst false 3 n c,.sc (.int .i64 _),.lst false 1 _ _,.lst false 1 _ _],.sc (.int .u64 model),.sc (.int .i64 a)]=>
    bif Nat.beq c.length (n*3)&&jg n 1000 then
      (match DR c with
       |some es=>(match U9 (Aw4 model es) with|some l=>some ⟨[Av (Zv a l)],[]⟩|none=>none)
       |none=>none)
    else none
  |_=>none
def ZK:PV->Bool
 |.sc (.int .i64 _)=>true
 |_=>false
def A3l(args:Ae):Option A3:=
 match args with
 |[.own 2 n c,.sc (.int .i64 i),.tup [.own 2 1 [.sc (.int .i64 f),.sc (.int .i64 l)]]]=>
  bif Nat.beq c.length (n*2)&&decide (0<=i)&&decide (i<=n)&&jg n 100000&&c.all ZK then
   some ⟨[.own 2 (n+1) (c.take (i.toNat*2)++(Av f :: Av l::c.drop (i.toNat*2)))],[[Av f,Av l]]⟩
  else none
 |_=>none
def A0z(args:Ae):Option A3:=
  match args with
  |[.pbox [.sc (.string t),.sc (.int .i64 p)]]=>bif decide (0<=p)&&decide (p<=t.size)&&jg t.size 1000000 then
      (match D1 ((Cp t).drop p.toNat) with
       |(some s,r)=>some ⟨[Bg (Ab s),C3 true],[[Bg t,Av (t.size-r.length:Int)]]⟩
       |(none,r)=>some ⟨[Bg ⟨#[]⟩,C3 false],[[Bg t,Av (t.size-r.length:Int)]]⟩) else none
  |_=>none
def Bde(args:Ae):Option A3:=
 match args with
 |[.sc (.string s),.sc (.int .u8 c)]=>some ⟨[Av (b7 s.data.toList c.toNat.toUInt8)],[]⟩
 |_=>none
def Bb4(args:Ae):Option A3:=
 match args with
 |[.sc (.string s),.sc (.string p)]=>bif Nat.beq p.size 1 then some ⟨[Av (b9 s.data.toList p[0]!)],[]⟩ else none
 |_=>none
def Ak9(args:Ae):Option A3:=
 match args with
 |[.sc (.string s),.sc (.string p)]=>bif jg p.size 1000&&p.data.toList.all (λb=>decide (b.toNat<128))&&decide (s.size<=1000000000) then some ⟨[Bg ⟨(Lib.trimS s.data.toList p.data.toList).toArray⟩],[]⟩ else none
 |_=>none
def Azp(f:FuncId):Option (Ae->Option A3):=
 bif Nat.beq f 124 then some Aa0 else
 bif Nat.beq f 59 then some As9 else
 bif Nat.beq f 106 then some A3l else
 bif Nat.beq f 180 then some Bde else
 bif Nat.beq f 219 then some Bb4 else
 bif Nat.beq f 193 then some Ak9 else
 bif Nat.beq f 167 then some A0z else
 bif Nat.beq f 1000000 then some (λ_=>none) else none
def Ai6(p:Option (Ae->Option A3))(f:FuncId):Option (Ae->Option A3):=bif Nat.beq f 86 then p else Azp f
abbrev CP(p:Option (Ae->Option A3)):Lf:=CX (Ai6 p)
abbrev C0:Lf:=CP none
abbrev xs0:=Ai6 none
section
variable {I:FuncId->Option (Ae->Option A3)}(u d:Nat)(F:An)
theorem FS(Z:Nat)(Y:Ae):Z5 (CX I) u d 155 [Am 3 Z Y] λF=>(λc:Option A3=>Ap (decide (0<Z)) c (MP (A9 [Am 3 0 []]) c)) (As (decide (Y.length=Z*3)&&decide ((0+Z)*32<=1099511627776)&&decide (0+Z<=1099511627776))<|Aa (0+Z) λa=>Aa ([]++Y) λb=>As (decide (0+a*3<=b.length))<|A9 [Am 3 a (yt (a*3) (b.drop 0))]):=Φ
theorem FN(Z:Nat)(Y:Ae):Z5 (CX I) u d 156 [Am 2 Z Y] λF=>(λc:Option A3=>Ap (decide (0<Z)) c (MP (A9 [Am 2 0 []]) c)) (As (decide (Y.length=Z*2)&&decide ((0+Z)*16<=1099511627776)&&decide (0+Z<=1099511627776))<|Aa (0+Z) λa=>Aa ([]++Y) λb=>As (decide (0+a*2<=b.length))<|A9 [Am 2 a (yt (a*2) (b.drop 0))]):=Φ
theorem HU(Z:Int)(Y:Nat)(X:Ae)(W:Nat)(V:Ae):Z5 (CX I) u d 135 [.agg [Ah Z,Am 3 Y X,Am 2 W V]] λF=>Cn (F 155 [Am 3 Y X]) λa b=>Y9 3 a λa c e=>Ag b<|Cn (F 156 [Am 2 W V]) λa b=>Y9 2 a λa f g=>Ag b<|A9 [.agg [Ah Z,Am 3 c e,Am 2 f g]]:=Φ
def J2(Z Y X:Int)(W:Nat)(V:Ae)(U:Int)(T:Nat)(S:Ae)(Q:Nat)(P:Ae)(O:Int)(N:Nat)(M:Int)(L:Nat)(K:Ae)(J I H:Int)(G E:Nat)(D B:Ae):Option A3:=Hq u F 103 Tryz.f103 [.agg [Z,Y,X,Am 3 W V,U,Am 1 T S,Am 1 Q P],Ah O] [.r,.l,.r,.l] N ⟨lk [(1,Ah M),(4,.ptr 4 0),(9,Am 3 L K),(10,J),(11,I)],Fb [(4,.st [Ah H,.view 50 3 0 G,.view 73 2 0 E]),(50,.ar false D),(73,.ar false B)]⟩
theorem Tb(U T S:Int)(Q:Nat)(P:Ae)(O:Int)(N:Nat)(M:Ae)(L:Nat)(K:Ae)(J:Int)(I:Nat)(X:Int)(W:Nat)(Y:Ae)(V Z H:Int)(G E:Nat)(D B:Ae):J2 u F U T S Q P O N M L K J (I+1) X W Y V Z H G E D B=(Ap (decide (Z<V)) (As (decide (0<=Z)&&decide (Z<(↑W:Int)))<|Bi .u64 (Y.getD (Z.toNat*3) .top) λa=>Y9 3 (Y.getD (Z.toNat*3+1) .top) λb c e=>Y9 2 (Y.getD (Z.toNat*3+1+1) .top) λb f g=>Ap (a==X) (Cn (F 135 [.agg [Ah a,Am 3 c e,Am 2 f g]]) λa b=>Cr a λa=>Bu .u64 a λa c=>Hd 3 c λc e f=>Hd 2 f λf g h=>Ag h<|Ag b<|A9 [.agg [Ah a,Am 3 c e,Am 2 f g],true]) (Aa (wrap .i64 (Z+1)) λa=>J2 u F U T S Q P O N M L K J I X W Y V a H G E D B)) (A9 [.agg [Ah 0,Am 3 0 [],Am 2 0 []],false])):=Κ
theorem PQ(W V U:Int)(Z:Nat)(Y:Ae)(T:Int)(S:Nat)(Q:Ae)(P:Nat)(O:Ae)(X:Int):Z5 (CX I) u d 103 [.agg [W,V,U,Am 3 Z Y,T,Am 1 S Q,Am 1 P O],Ah X] λF=>J2 u F W V U Z Y T S Q P O X u X Z Y (↑Z:Int) 0 0 0 0 ([]) ([]):=Φ
end
section
variable {I:FuncId->Option (Ae->Option A3)}(u d:Nat)(F:An)
theorem Adm(Z:Nat)(Y:Ae):Z5 (CX I) u d 91 [Am 1 Z Y] λF=>(λc:Option A3=>Ap (decide (0<Z)) c (MP (A9 [.own 1 0 []]) c)) (As (decide (Y.length=Z*1)&&decide ((0+Z)*1<=1099511627776)&&decide (0+Z<=1099511627776))<|Aa (0+Z) λa=>Aa ([]++Y) λb=>As (decide (a*1<=b.length))<|A9 [.own 1 a (b.take (a*1))]):=Φ
theorem Adz(X:Nat)(Z:Ae)(W:Nat)(Y:Ae):Z5 (CX I) u d 51 [Am 1 X Z,Am 1 W Y] λF=>As (decide (Z.length=X))<|Dq (H2 Z) λa=>As (decide (Y.length=W))<|Dq (H2 Y) λb=>A9 [C3 (mf (ml (ByteArray.mk (bc a)))==mf (ml (ByteArray.mk (bc b))))]:=Φ
theorem HP(Z:Nat)(Y:Ae):Z5 (CX I) u d 137 [Am 2 Z Y] λF=>(λc:Option A3=>Ap (decide (0<Z)) c (MP (A9 [.own 2 0 []]) c)) (As (decide (Y.length=Z*2)&&decide ((0+Z)*16<=1099511627776)&&decide (0+Z<=1099511627776))<|Aa (0+Z) λa=>Aa ([]++Y) λb=>As (decide (a*2<=b.length))<|A9 [.own 2 a (b.take (a*2))]):=Φ
theorem GJ(Z:Nat)(Y:Ae)(X W:Int)(V U:Int)(T:Bool)(S:Int)(Q:Nat)(P:Ae)(O:Bool)(N M:Int):Z5 (CX I) u d 105 [.agg [Am 1 Z Y,X,Ah W,Ah V,U,T,Ah S,Am 2 Q P,O,N,M]] λF=>Cn (F 91 [Am 1 Z Y]) λa b=>K5 1 a λa c=>Ag b<|Cn (F 137 [Am 2 Q P]) λb e=>K5 2 b λb f=>Ag e<|As (decide (a*1<=c.length))<|As (decide (b*2<=f.length))<|A9 [.agg [.own 1 a (c.take (a*1)),X,Ah W,Ah V,U,T,Ah S,.own 2 b (f.take (b*2)),O,N,M]]:=Φ
end
section
open Go.RowKit
def Aai(p:PV)(u:Value):Prop:=p=.sc u\/∃vs:List Value,p=.agg (vs.map .sc)/\u=.agg ⟨vs⟩
theorem JW{w:World}{A:Nat->Prop}{own:Bt}:∀{vs us:List Value}{j:Nat},Hj w A own j (vs.map .sc) us->us=vs
 |[],[],_,_=>rfl
 |[],_::_,_,h=>h.elim
 |_::_,[],_,h=>h.elim
 |v::vs,u::us,j,h=>by
  have a:A7 w A (.sc v) u:=h.1;rw[a.val,JW h.2]
theorem JI{w:World}{A:Nat->Prop}{own:Bt}:∀{vs:List Value}{j:Nat},Hj w A own j (vs.map .sc) vs
 |[],_=>trivial
 |v::vs,j=>⟨show A7 w A (.sc v) v from .sc v,JI⟩
theorem Aa6{w:World}{A:Nat->Prop}{own:Bt}{z:Nat}:∀{vals:Ae}{us a:List Value}{j:Nat},B4 Aai vals us->Af6 w A own z j vals a->a=us
 |[],[],[],_,_,_=>rfl
 |[],[],_::_,_,_,h=>h.elim
 |[],_::_,_,_,h,_=>h.elim
 |_::_,[],_,_,h,_=>h.elim
 |_::_,_::_,[],_,_,h=>h.elim
 |p::ps,u::us,c::a,j,b,h=>by
  rw[Aa6 b.2 h.2]
  congr 1
  rcases b.1 with rfl|⟨vs,rfl,rfl⟩
  ·exact A7.val (show A7 w A (.sc u) c from h.1)
  ·obtain⟨d,rfl,e⟩:=h.1;rw[JW e]
structure Hm(w w':World)(b o n:Nat):Prop where
 os:w'.os=w.os
 tape:w'.tape=w.tape
 output:w'.output=w.output
 size:w.heap.size<=w'.heap.size
 grow:Kk w w' b
 other:∀k,k<w.heap.size->k≠b->w'.heap[k]?=w.heap[k]?
 cells:∀j,(j<o\/o+n<=j)->w'.cell? ⟨b,j,none⟩=w.cell? ⟨b,j,none⟩
 frz:∀j,(j<o\/o+n<=j)->w'.frozen? ⟨b,j,none⟩=w.frozen? ⟨b,j,none⟩
def bt1(b o:Nat):QW:=λi j=>match i,j with|0,0=>some (b,o)|_,_=>none
theorem A02{k:Nat}(h:BtX (bt1 b o) k):k=b:=by
 obtain⟨i,j,a,h⟩:=h;unfold bt1 at h;split at h
 ·cases h;rfl
 ·cases h
theorem QK{w:World}{A:Nat->Prop}{bt:QW}:∀{i:Nat}{ps:Ae}{us:List Value},B4 Aai ps us->Tj w A bt i ps us
 |_,[],[],_=>trivial
 |_,[],_::_,h=>h.elim
 |_,_::_,[],h=>h.elim
 |i,p::ps,u::us,h=>by
  refine⟨?_,QK h.2⟩;rcases h.1 with rfl|⟨vs,rfl,rfl⟩
  ·exact⟨.inl trivial,show A7 w A (.sc u) u from .sc u⟩
  ·refine⟨vs,rfl,λp hp=>?_,JI⟩;obtain⟨v,_,rfl⟩:=kl.1 hp;exact .inl trivial
theorem Aeh{G:MD}{P:Program}{c:List Value}{vals:Ae}{us rs:List Value}(E:Ep G P f (.pbox (vs.map .sc)::args) ⟨vals,[c.map .sc]⟩)(H:B4 Aai args us)(J:B4 Aai vals rs)(K:G.ok w)(m:∀k,G.bl k->k<w.heap.size/\k≠b)(l:b<w.heap.size)(L:∀j v,vs[j]?=some v->w.cell? ⟨b,o+j,none⟩=some v)(M:∀j,j<vs.length->w.frozen? ⟨b,o+j,none⟩=false):
  Calls P f (.pointer (some ⟨b,o,none⟩)::us).toArray w λe w'=>e=.returned (J1 rs)/\c.length=vs.length/\(∀j v,c[j]?=some v->w'.cell? ⟨b,o+j,none⟩=some v)/\(∀j,j<vs.length->w'.frozen? ⟨b,o+j,none⟩=false)/\Hm w w' b o vs.length:=by
 have hi:Ins w (λ_=>False) (bt1 b o) (.pbox (vs.map .sc)::args) (.pointer (some ⟨b,o,none⟩)::us):=by
  refine⟨λ_ h=>h.elim,λ_ h=>h.elim,λk h=>by rw[A02 h];exact l,λi j U V k x W h r=>?_,λi q h=>?_,?_,QK H⟩
  ·unfold bt1 at h r;split at h
   ·split at r
    ·exact⟨rfl,rfl⟩
    ·cases r
   ·cases h
  ·unfold bt1 at h;split at h
   ·exact⟨_,rfl,rfl⟩
   ·cases h
  ·refine⟨b,o,rfl,rfl,λp hp=>?_,vs,JI,L,λk d=>M k (by simpa using d)⟩;obtain⟨v,_,rfl⟩:=kl.1 hp;exact .inl trivial
 have Ev:∀i,∀q,(bt1 b o) i 0=some q->i=0/\q=(b,o):=by
  intro i q h;unfold bt1 at h;split at h
  ·cases h;exact⟨rfl,rfl⟩
  ·cases h
 refine (E.2 w _ _ _ hi K (λk d=>⟨(m k d).1,λs=>(m k d).2 (A02 s)⟩)).mono ?_
 rintro e w' ⟨X,own,rfl,a⟩
 have N:=Aa6 J a.vals;subst N;have O:=a.outs;obtain⟨⟨t,z,Q,B,Y,R,S,C⟩,_⟩:=(show (∃t z,(bt1 b o) 0 0=some (t,z)/\(c.map PV.sc).length=(vs.map PV.sc).length/\A4p w' (IK (bt1 b o) own (λ_=>False)) own (To vals) t z (c.map .sc))/\_ from O)
 cases Q;have T:=JW R;subst T;simp only[zv] at B C
 have D:∀k j,k<w.heap.size->(k≠b\/j<o\/o+vs.length<=j)->¬Aae (bt1 b o) (.pbox (vs.map .sc)::args) k j:=by
  rintro k j d A ⟨i,p,hp,g⟩
  rcases g with⟨x,y,g,_⟩|⟨y,ps,g,Z,Td⟩
  ·unfold bt1 at g;split at g
   ·rename_i h;cases h
   ·cases g
  ·obtain⟨rfl,h⟩:=Ev i _ g;cases h;have:p=.pbox (vs.map .sc):=by simpa using hp.symm
   subst this;rcases Td with⟨e,Ct⟩|e
   ·injection e with e;subst e;rw[zv] at Ct;rcases A with h|h|h
    ·exact h rfl
    ·omega
    ·omega
   ·cases e
 refine⟨rfl,B,S,λj n=>C j Ω,a.os,a.tape,a.output,a.ext.size,a.ext.bs b l,λk d A=>a.ext.keep k d λs=>A (A02 s),λj n=>(a.rng b j l (D b j l (.inr n))).1,λj n=>(a.rng b j l (D b j l (.inr n))).2⟩
end
section
open Go.RowKit
theorem AV{bt:QW}(a:Below w.heap.size w w')(c:N9 w' (IK bt (λ_=>none) Y) (λ_=>none) bt (To [.sc v]) 0 args []):
  Out w w' Y bt args (λ_=>none) ⟨[.sc v],[]⟩ [v] where
 os:=a.os
 tape:=a.tape
 output:=a.output
 ext:=⟨a.size,λb h _=>a.block b h,λb h=>Kk.same (a.block b h)⟩
 rng:=λb j h _=>⟨by unfold jy;simp only[a.block b h],by unfold ju;simp only[a.block b h]⟩
 vals:=⟨A7.sc v,trivial⟩
 outs:=c
 fresh:=λj b o h=>by cases h
 inj:=λj d b o e h=>by cases h
end
def prC(p:Int × Int):Ae:=[Av p.1,Av p.2]
def MR(l:List (Int × Int)):Ae:=l.flatMap prC
theorem Aip(p:Int × Int):(prC p).length=2:=rfl
theorem Ad4(l:List (Int × Int)):(MR l).length=l.length*2:=TZ Aip l
theorem A3a{l:List (Int × Int)}{p:Int × Int}(h:l[i]?=some p):(MR l).getD (i*2) .top=Av p.1/\(MR l).getD (i*2+1) .top=Av p.2:=
 ⟨Vr Aip h (j:=0) Ω,Vr Aip h (j:=1) Ω⟩
def En.cells(e:En):Ae:=[Ah e.k,.lst false 3 e.na e.an,.lst false 2 e.ns e.st]
theorem En.cells_len(e:En):e.cells.length=3:=rfl
def MH(l:List En):Ae:=l.flatMap En.cells
def En.fit(e:En):Prop:=e.an.length=e.na*3/\e.st.length=e.ns*2/\e.na<=1000/\e.ns<=1000
theorem Azu{l:List En}{e:En}(h:l[i]?=some e):(MH l).getD (i*3) .top=Ah e.k/\(MH l).getD (i*3+1) .top=.lst false 3 e.na e.an/\(MH l).getD (i*3+2) .top=.lst false 2 e.ns e.st:=
 ⟨Vr En.cells_len h (j:=0) Ω,Vr En.cells_len h (j:=1) Ω,Vr En.cells_len h (j:=2) Ω⟩
theorem Alr{c:Ae}(h:DR c=some es):c=MH es/\∀e∈es,e.fit:=by
 fun_induction DR c generalizing es with
 |case1=>cases h;exact⟨rfl,λe a=>by cases a⟩
 |case2 k na an ns st r d f=>
  simp only[Gh] at d;obtain⟨⟨⟨g,i⟩,j⟩,l⟩:=d;cases b:DR r with
  |none=>rw[b] at h;cases h
  |some m=>
   rw[b] at h;cases h;obtain⟨n,o⟩:=f b;refine⟨by rw[n];rfl,λe a=>?_⟩
   rcases zl.1 a with rfl|a
   ·exact⟨Ed g,Ed i,Vc j,Vc l⟩
   ·exact o e a
 |case3=>cases h
 |case4=>cases h
theorem Ahw{st:Ae}{l:List (Int × Int)}(h:U9 st=some l):st=MR l:=by
 fun_induction U9 st generalizing l with
 |case1=>cases h;rfl
 |case2 k t r b=>
  cases a:U9 r with
  |none=>rw[a] at h;cases h
  |some c=>
   rw[a] at h;cases h;rw[b a];rfl
 |case3=>cases h
section
variable {I:FuncId->Option (Ae->Option A3)}{u d:Nat}
theorem Bdf{c:Ae}(h:c.length=n*3)(a:n<=1000):Ac (CX I) prog u (d+1) 155 [.lst false 3 n c]=some ⟨[.lst false 3 n c],[]⟩:=by
 refine (FS u d n c).trans ?_;have t:yt (n*3) c=c:=Gp Ω;by_cases b:0<n
 ·simp(disch:=omega)only[Aq,Ar,SJ,I8,Jo,h,t]
 ·obtain rfl:n=0:=Ω
  have:c=[]:=bd.1 Ω;subst this;simp(disch:=omega)only[Aq,Ar,SJ,I8,Jo,SO,jk,be]
theorem Bd1{c:Ae}(h:c.length=n*2)(a:n<=1000):Ac (CX I) prog u (d+1) 156 [.lst false 2 n c]=some ⟨[.lst false 2 n c],[]⟩:=by
 refine (FN u d n c).trans ?_;have t:yt (n*2) c=c:=Gp Ω;by_cases b:0<n
 ·simp(disch:=omega)only[Aq,Ar,SJ,I8,Jo,h,t]
 ·obtain rfl:n=0:=Ω
  have:c=[]:=bd.1 Ω;subst this;simp(disch:=omega)only[Aq,Ar,SJ,I8,Jo,SO,jk,be]
theorem Bcj{e:En}(h:e.fit):Ac (CX I) prog u (d+2) 135 [.agg e.cells]=some ⟨[.agg e.cells],[]⟩:=by refine (HU u (d+1) e.k e.na e.an e.ns e.st).trans ?_;have a:=Bdf (I:=I) (u:=u) (d:=d) h.1 h.2.2.1;have s:=Bd1 (I:=I) (u:=u) (d:=d) h.2.1 h.2.2.2;simp only[Aq,Ar,a,s];rfl
def en0:En:=⟨0,0,[],0,[]⟩
def Z8(model:Int)(es:List En):En:=(es.find? λe=>e.k==model).getD en0
theorem A0p(model:Int)(es:List En):(Z8 model es).st=Aw4 model es:=by unfold Z8 Aw4;cases es.find? λe=>e.k==model<;>rfl
theorem Av5{model:Int}(h:∀e∈es,e.fit):(Z8 model es).fit:=by
 unfold Z8;cases a:es.find? λe=>e.k==model with
 |none=>exact⟨rfl,rfl,Δ,Δ⟩
 |some e=>exact h e (List.mem_of_find?_eq_some a)
theorem A2t{A6h Ade Adi A8n a1:Int}{Ata Atr Aud:Nat}{A68 A6t A6x:Ae}{es:List En}(o:es.length<=1000)(j:∀e∈es,e.fit){model:Int}:∀(r:List En)(i nn:Nat),es.drop i=r->r.length<nn ->
  ∃b,J2 u (Ac (CX I) prog u (d+2)) A6h Ade Adi Ata A68 A8n Atr A6t Aud A6x a1 nn model es.length (MH es) (es.length:Int) (i:Int) 0 0 0 [] []=some ⟨[.agg (Z8 model r).cells,C3 b],[]⟩
 |_,_,0,_,h=>Ω
 |[],i,nn+1,f,Es=>by
  have hi:=drop_nil f;refine⟨false,?_⟩;rw[Tb];simp(disch:=omega)only[Aq,Ar];rfl
 |e::r,i,nn+1,f,Es=>by
  obtain⟨Ct,k,p⟩:=Cb f;obtain⟨l,m,s⟩:=Azu k;have a:(MH es).getD (i*3+1+1) .top=.lst false 2 e.ns e.st:=s;rw[Tb];by_cases c:e.k=model
  ·refine⟨true,?_⟩;have q:(e.k==model)=true:=by simp[c]
   have n:=Bcj (I:=I) (u:=u) (d:=d) (j e (zn k));have g:Z8 model (e::r)=e:=by unfold Z8;rw[List.find?_cons_of_pos (by simpa using c)];rfl
   rw[g];simp only[En.cells] at n;simp(disch:=omega)only[Aq,Ar,Hy,l,m,a,q,n];rfl
  ·have q:(e.k==model)=false:=by simp[c]
   have w:wrap .i64 ((i:Int)+1)=((i+1:Nat):Int):=Bc
   obtain⟨b,t⟩:=A2t (A6h:=A6h) (Ade:=Ade) (Adi:=Adi) (A8n:=A8n) (a1:=a1) (Ata:=Ata) (Atr:=Atr) (Aud:=Aud) (A68:=A68) (A6t:=A6t) (A6x:=A6x) o j (model:=model) r (i+1) nn p (by simp only[M9] at Es;omega)
   have g:Z8 model (e::r)=Z8 model r:=by unfold Z8;rw[List.find?_cons_of_neg (by simpa using c)]
   refine⟨b,?_⟩;rw[g,<-t];simp(disch:=omega)only[Aq,Ar,Hy,l,m,a,q,w]
theorem Bb2(a:es.length<=1000)(Be:1000<u)(c:∀e∈es,e.fit)(v i x lf model:Int)(n1 n2:Nat)(c1 c2:Ae):
  ∃b,Ac (CX I) prog u (d+3) 103 [.agg [Av v,Av i,Av x,.lst false 3 es.length (MH es),Av lf,.lst false 1 n1 c1,.lst false 1 n2 c2],Ah model]=some ⟨[.agg (Z8 model es).cells,C3 b],[]⟩:=by
 obtain⟨b,h⟩:=A2t (I:=I) (u:=u) (d:=d) (A6h:=v) (Ade:=i) (Adi:=x) (A8n:=lf) (a1:=model) (Ata:=es.length) (Atr:=n1) (Aud:=n2) (A68:=MH es) (A6t:=c1) (A6x:=c2) a c (model:=model) es 0 u rfl Ω;exact⟨b,(PQ u (d+2) v i x es.length (MH es) lf n1 c1 n2 c2 model).trans h⟩
end
section
open Go.RowKit
theorem Aw6(G:MD)(args:Ae)(a:A3)(h:Bde args=some a):Ep G prog 180 args a:=by
 refine⟨⟨_,Tryz.func180,Κ⟩,λw Y bt us hi _ _=>?_⟩;unfold Bde at h;split at h
 rotate_left
 ·cases h
 rename_i s c;cases h;have ps:=hi.args
 match us,ps with
 |[u1,b],ps=>
  obtain⟨⟨_,d⟩,⟨_,f⟩,_⟩:=ps;have g:u1=.string s:=A7.val (show A7 w _ (Bg s) u1 from d);have i:b=.int .u8 c:=A7.val (show A7 w _ (.sc (.int .u8 c)) b from f);subst g i
  have walk:Calls prog 180 #[.string s,.int .u8 c] w λe w'=>e=.returned (.int .i64 (b7 s.data.toList c.toNat.toUInt8))/\w'=w:=by
   go_enter Tryz.func180,Tryz.ntmps180
   go_wp2
   rw[run_callFunc_extern Tryz.func196 Κ Κ Κ (e:=Extern.BytealgIndexByte.indexByte) Κ,Lib.run_indexByteString];simp only[Result.andThen];rw[Oper.upon_value]
   go_wp2
   go_ret
   exact⟨rfl,rfl⟩
  refine walk.mono ?_
  rintro e w' ⟨rfl,rfl⟩
  exact⟨[.int .i64 (b7 s.data.toList c.toNat.toUInt8)],λ_=>none,rfl,AV (Below.refl _ _) rfl⟩
 |[],ps=>exact ps.elim
 |[_],ps=>exact ps.2.elim
 |_::_::_::_,ps=>exact ps.2.2.elim
theorem A16{p:ByteArray}(h:p.size=1):p=⟨#[p[0]!]⟩:=by
 obtain⟨⟨l⟩⟩:=p
 match l,h with
 |[x],_=>rfl
theorem Ax7(G:MD)(args:Ae)(a:A3)(h:Bb4 args=some a):Ep G prog 219 args a:=by
 refine⟨⟨_,Tryz.func219,Κ⟩,λw Y bt us hi _ _=>?_⟩;unfold Bb4 at h;split at h
 rotate_left
 ·cases h
 rename_i s p;cases b:Nat.beq p.size 1
 ·rw[b] at h;cases h
 rw[b,cond_true] at h;cases h;have hp:=A16 (Ed b);generalize (p[0]!)=c at hp ⊢;subst hp;have ps:=hi.args
 match us,ps with
 |[u1,d],ps=>
  obtain⟨⟨_,f⟩,⟨_,g⟩,_⟩:=ps;have i:u1=.string s:=A7.val (show A7 w _ (Bg s) u1 from f);have j:d=.string ⟨#[c]⟩:=A7.val (show A7 w _ (Bg ⟨#[c]⟩) d from g);subst i j
  have walk:Calls prog 219 #[.string s,.string ⟨#[c]⟩] w λe w'=>e=.returned (.int .i64 (b9 s.data.toList c))/\w'=w:=by
   go_enter Tryz.func219,Tryz.ntmps219
   go_wp2
   rw[run_callFunc_extern Tryz.func227 Κ Κ Κ (e:=Extern.BytealgCount.count) Κ,Lib.run_countString];simp only[Result.andThen];rw[Oper.upon_value]
   go_wp2
   go_ret
   exact⟨rfl,rfl⟩
  refine walk.mono ?_
  rintro e w' ⟨rfl,rfl⟩
  exact⟨[.int .i64 (b9 s.data.toList c)],λ_=>none,rfl,AV (Below.refl _ _) rfl⟩
 |[],ps=>exact ps.elim
 |[_],ps=>exact ps.2.elim
 |_::_::_::_,ps=>exact ps.2.2.elim
end
theorem Bol(a b:Nat)(e:a<4294967296)(f:b<4294967296):bits .or .u32 ((a:Nat):Int) ((b:Nat):Int)=((a ||| b:Nat):Int):=by
 have g:a ||| b<2 ^ 32:=Nat.or_lt_two_pow Ω Ω
 have c:(zx 32 (a:Int)).toNat=a:=by
  rw[bv,bw];exact wq Ω
 have d:(zx 32 (b:Int)).toNat=b:=by
  rw[bv,bw];exact wq Ω
 show IntKind.u32.wrap ((zx 32 (a:Int) ||| zx 32 (b:Int)).toNat:Int)=_;rw[BitVec.toNat_or,c,d];simp only[wrap,IntKind.bits,IntKind.signed,SK,qf,if_false];omega
def RT(a b c:Int):Ak:=[K7 (a / 4),K7 (a % 4*16+b / 16),K7 (b % 16*4+c / 64),K7 (c % 64)]
def CU:ByteArray:=⟨#[65,66,67,68,69,70,71,72,73,74,75,76,77,78,79,80,81,82,83,84,85,86,87,88,89,90,97,98,99,100,101,102,103,104,105,106,107,108,109,110,111,112,113,114,115,116,117,118,119,120,121,122,48,49,50,51,52,53,54,55,56,57,45,95]⟩
theorem Ad3{q:Int}(a:0<=q)(b:q<64):0<=K7 q/\K7 q<=255:=by
 unfold K7;split
 ·omega
 split
 ·omega
 split
 ·omega
 split<;>omega
theorem Rh{a b:Ak}(c:Ch a)(d:Ch b):Ch (a++b):=by
 intro x e;rcases B8.1 e with h|h
 ·exact c x h
 ·exact d x h
section
open Go.Shelf Go.RowKit Go.Lib
def Ant:Go.Shelf.Ren:=⟨λ|119=>231|120=>230|137=>165|151=>223|152=>229|160=>193|167=>185|168=>184|169=>182|197=>222|217=>180|224=>216|225=>215|227=>206|228=>221|231=>204|232=>205|233=>207|234=>208|235=>209|236=>210|240=>199|242=>200|260=>228|266=>196|271=>224|276=>213|278=>214|n=>n,λ|0=>0|3=>3|4=>4|5=>5|9=>9|20=>20|21=>21|37=>35|46=>48|51=>235|70=>246|72=>248|75=>252|80=>224|105=>276|116=>267|117=>268|119=>204|124=>271|127=>261|138=>206|139=>207|164=>273|n=>n,λ|3=>0|4=>1|n=>n⟩
theorem Arn:Lays.n167 prog Ant:={
 mixed:=Κ
 f167:=Tryz.func185.trans (congrArg some Κ)
 f240:=Tryz.func199.trans (congrArg some Κ)
 f276:=Tryz.func213.trans (congrArg some Κ)
 t0:=Tryz.underlying0
 a0:=Tryz.isAgg0
 z0:=Tryz.sizeOf0
 v0:=Tryz.zeroValue0
 t4:=Tryz.underlying4
 a4:=Tryz.isAgg4
 z4:=Tryz.sizeOf4
 v4:=Tryz.zeroValue4
 t5:=Tryz.underlying5
 a5:=Tryz.isAgg5
 z5:=Tryz.sizeOf5
 v5:=Tryz.zeroValue5
 t9:=Tryz.underlying9
 a9:=Tryz.isAgg9
 z9:=Tryz.sizeOf9
 v9:=Tryz.zeroValue9
 t20:=Tryz.underlying20
 a20:=Tryz.isAgg20
 z20:=Tryz.sizeOf20
 v20:=Tryz.zeroValue20
 t37:=Tryz.underlying35
 a37:=Tryz.isAgg35
 z37:=Tryz.sizeOf35
 v37:=Tryz.zeroValue35
 t70:=Tryz.underlying246
 a70:=Tryz.isAgg246
 z70:=Tryz.sizeOf246
 v70:=Tryz.zeroValue246
 t72:=Tryz.underlying248
 a72:=Tryz.isAgg248
 z72:=Tryz.sizeOf248
 v72:=Tryz.zeroValue248
 t75:=Tryz.underlying252
 a75:=Tryz.isAgg252
 z75:=Tryz.sizeOf252
 v75:=Tryz.zeroValue252
 t164:=Tryz.underlying273
 a164:=Tryz.isAgg273
 z164:=Tryz.sizeOf273
 v164:=Tryz.zeroValue273 }
theorem Arr:Lays.n168 prog Ant:={
 mixed:=Κ
 f168:=Tryz.func184.trans (congrArg some Κ)
 f240:=Tryz.func199.trans (congrArg some Κ)
 f242:=Tryz.func200.trans (congrArg some Κ)
 f276:=Tryz.func213.trans (congrArg some Κ)
 f278:=Tryz.func214.trans (congrArg some Κ)
 t0:=Tryz.underlying0
 a0:=Tryz.isAgg0
 z0:=Tryz.sizeOf0
 v0:=Tryz.zeroValue0
 t3:=Tryz.underlying3
 a3:=Tryz.isAgg3
 z3:=Tryz.sizeOf3
 v3:=Tryz.zeroValue3
 t4:=Tryz.underlying4
 a4:=Tryz.isAgg4
 z4:=Tryz.sizeOf4
 v4:=Tryz.zeroValue4
 t5:=Tryz.underlying5
 a5:=Tryz.isAgg5
 z5:=Tryz.sizeOf5
 v5:=Tryz.zeroValue5
 t9:=Tryz.underlying9
 a9:=Tryz.isAgg9
 z9:=Tryz.sizeOf9
 v9:=Tryz.zeroValue9
 t20:=Tryz.underlying20
 a20:=Tryz.isAgg20
 z20:=Tryz.sizeOf20
 v20:=Tryz.zeroValue20
 t21:=Tryz.underlying21
 a21:=Tryz.isAgg21
 z21:=Tryz.sizeOf21
 v21:=Tryz.zeroValue21
 t37:=Tryz.underlying35
 a37:=Tryz.isAgg35
 z37:=Tryz.sizeOf35
 v37:=Tryz.zeroValue35
 t46:=Tryz.underlying48
 a46:=Tryz.isAgg48
 z46:=Tryz.sizeOf48
 v46:=Tryz.zeroValue48
 t51:=Tryz.underlying235
 a51:=Tryz.isAgg235
 z51:=Tryz.sizeOf235
 v51:=Tryz.zeroValue235
 t70:=Tryz.underlying246
 a70:=Tryz.isAgg246
 z70:=Tryz.sizeOf246
 v70:=Tryz.zeroValue246
 t72:=Tryz.underlying248
 a72:=Tryz.isAgg248
 z72:=Tryz.sizeOf248
 v72:=Tryz.zeroValue248
 t75:=Tryz.underlying252
 a75:=Tryz.isAgg252
 z75:=Tryz.sizeOf252
 v75:=Tryz.zeroValue252
 t164:=Tryz.underlying273
 a164:=Tryz.isAgg273
 z164:=Tryz.sizeOf273
 v164:=Tryz.zeroValue273 }
theorem Ark:Lays.n169 prog Ant:={
 mixed:=Κ
 f169:=Tryz.func182.trans (congrArg some Κ)
 t0:=Tryz.underlying0
 a0:=Tryz.isAgg0
 z0:=Tryz.sizeOf0
 v0:=Tryz.zeroValue0
 t3:=Tryz.underlying3
 a3:=Tryz.isAgg3
 z3:=Tryz.sizeOf3
 v3:=Tryz.zeroValue3
 t9:=Tryz.underlying9
 a9:=Tryz.isAgg9
 z9:=Tryz.sizeOf9
 v9:=Tryz.zeroValue9
 t37:=Tryz.underlying35
 a37:=Tryz.isAgg35
 z37:=Tryz.sizeOf35
 v37:=Tryz.zeroValue35
 t70:=Tryz.underlying246
 a70:=Tryz.isAgg246
 z70:=Tryz.sizeOf246
 v70:=Tryz.zeroValue246
 t72:=Tryz.underlying248
 a72:=Tryz.isAgg248
 z72:=Tryz.sizeOf248
 v72:=Tryz.zeroValue248
 t127:=Tryz.underlying261
 a127:=Tryz.isAgg261
 z127:=Tryz.sizeOf261
 v127:=Tryz.zeroValue261 }
theorem Aq4:Lays.n160 prog Ant:={
 mixed:=Κ
 f119:=Tryz.func231.trans (congrArg some Κ)
 f120:=Tryz.func230.trans (congrArg some Κ)
 f137:=Tryz.func165.trans (congrArg some Κ)
 f151:=Tryz.func223.trans (congrArg some Κ)
 f152:=Tryz.func229.trans (congrArg some Κ)
 f160:=Tryz.func193.trans (congrArg some Κ)
 f197:=Tryz.func222.trans (congrArg some Κ)
 f217:=Tryz.func180.trans (congrArg some Κ)
 f224:=Tryz.func216.trans (congrArg some Κ)
 f225:=Tryz.func215.trans (congrArg some Κ)
 f227:=Tryz.func206.trans (congrArg some Κ)
 f228:=Tryz.func221.trans (congrArg some Κ)
 f231:=Tryz.func204.trans (congrArg some Κ)
 f232:=Tryz.func205.trans (congrArg some Κ)
 f233:=Tryz.func207.trans (congrArg some Κ)
 f234:=Tryz.func208.trans (congrArg some Κ)
 f235:=Tryz.func209.trans (congrArg some Κ)
 f236:=Tryz.func210.trans (congrArg some Κ)
 f260:=Tryz.func228.trans (congrArg some Κ)
 f266:=Tryz.func196.trans (congrArg some Κ)
 f271:=Tryz.func224.trans (congrArg some Κ)
 t0:=Tryz.underlying0
 a0:=Tryz.isAgg0
 z0:=Tryz.sizeOf0
 v0:=Tryz.zeroValue0
 t3:=Tryz.underlying3
 a3:=Tryz.isAgg3
 z3:=Tryz.sizeOf3
 v3:=Tryz.zeroValue3
 t4:=Tryz.underlying4
 a4:=Tryz.isAgg4
 z4:=Tryz.sizeOf4
 v4:=Tryz.zeroValue4
 t5:=Tryz.underlying5
 a5:=Tryz.isAgg5
 z5:=Tryz.sizeOf5
 v5:=Tryz.zeroValue5
 t9:=Tryz.underlying9
 a9:=Tryz.isAgg9
 z9:=Tryz.sizeOf9
 v9:=Tryz.zeroValue9
 t21:=Tryz.underlying21
 a21:=Tryz.isAgg21
 z21:=Tryz.sizeOf21
 v21:=Tryz.zeroValue21
 t46:=Tryz.underlying48
 a46:=Tryz.isAgg48
 z46:=Tryz.sizeOf48
 v46:=Tryz.zeroValue48
 t105:=Tryz.underlying276
 a105:=Tryz.isAgg276
 z105:=Tryz.sizeOf276
 v105:=Tryz.zeroValue276
 t116:=Tryz.underlying267
 a116:=Tryz.isAgg267
 z116:=Tryz.sizeOf267
 t117:=Tryz.underlying268
 a117:=Tryz.isAgg268
 z117:=Tryz.sizeOf268
 v117:=Tryz.zeroValue268
 t119:=Tryz.underlying204
 a119:=Tryz.isAgg204
 z119:=Tryz.sizeOf204
 t124:=Tryz.underlying271
 a124:=Tryz.isAgg271
 z124:=Tryz.sizeOf271
 v124:=Tryz.zeroValue271
 t138:=Tryz.underlying206
 a138:=Tryz.isAgg206
 z138:=Tryz.sizeOf206
 v138:=Tryz.zeroValue206
 t139:=Tryz.underlying207
 a139:=Tryz.isAgg207
 z139:=Tryz.sizeOf207
 v139:=Tryz.zeroValue207
 g3:=Κ
 g4:=by kernel_rfl }
theorem Ahe:Builder.Extra prog Ant:={
 sizeBuilder:=Κ
 liesBuilder:=Κ
 t5:=Tryz.underlying5
 a5:=Tryz.isAgg5
 z5:=Tryz.sizeOf5
 v5:=Tryz.zeroValue5
 infoByte:=Κ
 cellsByte:=Κ
 sizeByte:=Κ
 neB5:=by decide }
end
section
open Go.RowKit Go.Lib
section
variable {P:Program}
theorem JZ(w:World)(dT sT ty elem:TypeId)(i:TypeInfo)(b o dLen dCap:Nat)(a:Addr)(sLen sCap k:Nat)(cs:List Value)(c:P.underlying dT=some (.slice elem))(d:P.info? elem=some i)(e:k=Nat.min sLen dLen)(f:cs.length=k*i.size)(g:∀j v,cs[j]?=some v->w.cell? (a.add j)=some v)(h:∀j,j<cs.length->(w.cell? ⟨b,o+j,none⟩).isSome=true)(l:∀j,j<cs.length->w.frozen? ⟨b,o+j,none⟩=false)(m:∀v∈cs,v.oneCell'=true):
  (vr #[dT,sT] ty #[.slice (some ⟨b,o,none⟩) dLen dCap,.slice (some a) sLen sCap]).run P w=.ok (goInt k) (w.setCells b o cs):=by
 have n:=run_loadCells_list (P:=P) w a cs g;have p:=run_storeCells_cells (P:=P) b o cs 0 w (by simpa using h) (by simpa using l) m;simp[vr,run_underlying c,m8,vm,sizeOf,typeInfo,d,<-e,<-f,n,p]
theorem Tq(b:Nat)(vs:List Value)(o:Nat)(w:World)(k:Nat)(a:(w.cell? ⟨b,k,none⟩).isSome=true):((w.setCells b o vs).cell? ⟨b,k,none⟩).isSome=true:=by have h:=(De.setCells b vs o w).bs;obtain⟨v,c⟩:=Option.isSome_iff_exists.1 a;have d:=RZ c;exact HN Ω
theorem Ah6(w:World){o:Oper}{a:Act}(d s:Operand)(t b:TypeId)(e:o.op=.call { callee:=.builtin .copy,args:= #[d,s],argTypes:= #[t,b] })(v u:Value)(hd:a.eval d=v)(f:a.eval s=u)(g:(vr #[t,b] o.type #[v,u]).run P w=.ok c w')(h:K (a.put o.dst c) w'):o.wp P a w K Q:=by unfold Oper.wp execOp;simp only[e,resolve,invoke,builtin,Sem.run_bind,Sem.run_pure,Result.andThen_ok,List.map_toArray,ER,List.map_nil,hd,f,g];exact h
theorem Rk(w:World){rest:List Oper}{o:Oper}{a:Act}(b:o.guard=none)(d s:Operand)(t c:TypeId)(f:o.op=.call { callee:=.builtin .copy,args:= #[d,s],argTypes:= #[t,c] })(v u:Value)(hd:a.eval d=v)(g:a.eval s=u){e:Value}(i:(vr #[t,c] o.type #[v,u]).run P w=.ok e w')(h:wpList P ops Q rest (a.put o.dst e) w'):wpList P ops Q (o::rest) a w:=
 wpList_plain b λ_ j=>Ah6 w d s t c f v u hd g i (j _ _ h)
theorem HE{o:Oper}{a:Act}{E:Prop}(e:o.guard=none)(d x:Operand)(dT sT:TypeId)(b:o.op=Op.call { callee:=Callee.builtin Builtin.copy,args:= #[d,x],argTypes:= #[dT,sT] })(v u:Value)(hd:a.eval d=v)(f:a.eval x=u)(g:(vr #[dT,sT] o.type #[v,u]).run P w=.ok c w')(h:K (a.put o.dst c) w'):
  if Region.wanted o (yielded ops a.tmps)=true then Oper.wp P o a w K Q else E:=by
 have i:Region.wanted o (yielded ops a.tmps)=true:=by simp[Region.wanted,e]
 rw[Bv i];unfold Oper.wp;simp[execOp,b,resolve,invoke,builtin,hd,f,g,Result.andThen];exact h
end
end
section
variable {I:FuncId->Option (Ae->Option A3)}(u d:Nat)(F:An)
theorem BB(Y Z:ByteArray):Z5 (CX I) u d 197 [Y,Z] λF=>Ap (decide ((↑(mm Y):Int)>=(↑(mm Z):Int))) (As (decide (wj (↑(mm Z):Int)<=mm Y))<|Aa (mn Y 0 (wj (↑(mm Z):Int))) λa=>A9 [C3 (mf (ml a)==mf (ml Z))]) (A9 [false]):=Φ
theorem LL(Z Y:ByteArray):Z5 (CX I) u d 181 [Z,Y] λF=>Cn (F 197 [Z,Y]) λa b=>Bh a λa=>Ag b<|A9 [a]:=Φ
theorem Zi(Y:ByteArray)(Z:Int):Z5 (CX I) u d 186 [.pbox [Y,Z]] λF=>Ap (decide (Z<(↑(mm Y):Int))) (As (decide (0<=Z))<|Dq ((mf (ml Y))[Z.toNat]?) λa=>some ⟨[.sc (.int .u8 (↑(UInt8.toNat a):Int))],[[Y,Z]]⟩) (some ⟨[.sc (.int .u8 0)],[[Y,Z]]⟩):=Φ
theorem Vx(Z:ByteArray)(Y:Int)(X:ByteArray):Z5 (CX I) u d 166 [.pbox [Z,Y],X] λF=>As (decide (0<=Y))<|As (decide (Y.toNat<=mm Z)&&decide (mm Z<=mm Z))<|Aa (mn Z Y.toNat (mm Z)) λa=>Cn (F 181 [a,X]) λa b=>Bh a λa=>Ag b<|Ap (!a) (some ⟨[false],[[Z,Y]]⟩) (Aa (wrap .i64 (Y+(↑(mm X):Int))) λa=>some ⟨[true],[[Z,a]]⟩):=Φ
theorem NG(Z:Int):Z5 (CX I) u d 212 [.sc (.int .i32 Z)] λF=>Ap (decide (Z>=56320)) (A9 [C3 (decide (Z<=57343))]) (A9 [false]):=Φ
def Dg(Z:ByteArray)(Y:Int)(X:Nat)(W V:Int)(U:ByteArray)(T:Int):Option A3:=Hq u F 211 Tryz.f211 [.pbox [Z,Y]] [.r,.r,.l,.r,.l] X ⟨lk [(0,.ptr 120000 0),(4,.sc (.int .i32 W)),(6,V)],Fb [(120000,.st [U,T])]⟩
theorem Je(X:ByteArray)(W:Int)(V:Nat)(Z Y:Int)(U:ByteArray)(T:Int):Dg u F X W (V+1) Z Y U T=(Ap (decide (Y<4)) (Ao (F 186 [.pbox [U,T]]) λa b=>Bq .u8 a λa=>Ad b λb c=>Ad b λb e=>At b λb=>Bq .i64 e λe=>(λh:Option A3=>(λf:Option A3=>(λg:Option A3=>Ag c<|Ap (decide (a>=48)) (Ap (decide (a<=57)) (Aa (Dv .i32 Z 4) λc=>Aa (wrap .u8 (a-48)) λa=>Aa (wrap .i32 a) λa=>Aa (wrap .i32 (c+a)) λa=>Aa (wrap .i64 (e+1)) λc=>Aa (wrap .i64 (Y+1)) λe=>Dg u F X W V a e b c) g) g) (Ap (decide (a>=97)) (Ap (decide (a<=102)) (Aa (Dv .i32 Z 4) λc=>Aa (wrap .u8 (a-97)) λa=>Aa (wrap .i32 a) λa=>Aa (wrap .i32 (c+a)) λa=>Aa (wrap .i32 (a+10)) λa=>Aa (wrap .i64 (e+1)) λc=>Aa (wrap .i64 (Y+1)) λe=>Dg u F X W V a e b c) f) f)) (Ap (decide (a>=65)) (Ap (decide (a<=70)) (Aa (Dv .i32 Z 4) λc=>Aa (wrap .u8 (a-65)) λa=>Aa (wrap .i32 a) λa=>Aa (wrap .i32 (c+a)) λa=>Aa (wrap .i32 (a+10)) λa=>Aa (wrap .i64 (e+1)) λc=>Aa (wrap .i64 (Y+1)) λe=>Dg u F X W V a e b c) h) h)) (some ⟨[.sc (.int .i32 0),false],[[b,e]]⟩)) (some ⟨[.sc (.int .i32 Z),true],[[U,T]]⟩)):=Κ
theorem Uu(Z:ByteArray)(Y:Int):Z5 (CX I) u d 211 [.pbox [Z,Y]] λF=>Dg u F Z Y u 0 0 Z (Y):=Φ
theorem Tr(Z:ByteArray)(Y:Int):Z5 (CX I) u d 198 [.pbox [Z,Y]] λF=>Ao (F 211 [.pbox [Z,Y]]) λa b=>Bu .i32 a λa c=>Qa c λc=>Ad b λb e=>Ad b λb f=>At b λb=>Bq .i64 f λf=>(λh:Option A3=>Ag e<|Ap (!c) h (Cn (F 212 [.sc (.int .i32 a)]) λc e=>Bh c λc=>(λj:Option A3=>Ag e<|Ap c h (Ap (decide (a<55296)) j (Ap (decide (a>56319)) j (Ao (F 166 [.pbox [b,f],Bg ⟨#[92,117]⟩]) λb c=>Qa b λb=>Ad c λc e=>Ad c λc f=>At c λc=>Bq .i64 f λf=>Ag e<|Ap (!b) (some ⟨[.sc (.int .i32 0),false],[[c,f]]⟩) (Ao (F 211 [.pbox [c,f]]) λb c=>Bu .i32 b λb e=>Qa e λe=>Ad c λc f=>Ad c λc g=>At c λc=>Bq .i64 g λg=>(λi:Option A3=>Ag f<|Ap (!e) i (Cn (F 212 [.sc (.int .i32 b)]) λe f=>Bh e λe=>Ag f<|Ap (!e) i (Aa (wrap .i32 (a-55296)) λa=>Aa (Dv .i32 a 10) λa=>Aa (wrap .i32 (65536+a)) λa=>Aa (wrap .i32 (b-56320)) λb=>Aa (wrap .i32 (a+b)) λa=>some ⟨[.sc (.int .i32 a),true],[[c,g]]⟩))) (some ⟨[.sc (.int .i32 0),false],[[c,g]]⟩)))))) (some ⟨[.sc (.int .i32 a),true],[[b,f]]⟩))) (some ⟨[.sc (.int .i32 0),false],[[b,f]]⟩):=Φ
theorem Q7(Z:ByteArray)(Y:Int):Z5 (CX I) u d 183 [.pbox [Z,Y]] λF=>Ao (F 166 [.pbox [Z,Y],Bg ⟨#[117]⟩]) λa b=>Qa a λa=>Ad b λb c=>Ad b λb e=>At b λb=>Bq .i64 e λe=>Ag c<|Ap a (Ao (F 198 [.pbox [b,e]]) λa b=>Bu .i32 a λa c=>Qa c λc=>Ad b λb e=>Ad b λb f=>At b λb=>Bq .i64 f λf=>Ag e<|some ⟨[.sc (.int .i32 a),c],[[b,f]]⟩) (Ao (F 186 [.pbox [b,e]]) λa b=>Bq .u8 a λa=>Ad b λb c=>Ad b λb e=>At b λb=>Bq .i64 e λe=>Ag c<|Aa (wrap .i32 a) λa=>(λg:Option A3=>Ap (a==34) g (Ap (a==92) g (Ap (a==47) g (Ap (a==98) (Aa (wrap .i64 (e+1)) λa=>some ⟨[.sc (.int .i32 8),true],[[b,a]]⟩) (Ap (a==102) (Aa (wrap .i64 (e+1)) λa=>some ⟨[.sc (.int .i32 12),true],[[b,a]]⟩) (Ap (a==110) (Aa (wrap .i64 (e+1)) λa=>some ⟨[.sc (.int .i32 10),true],[[b,a]]⟩) (Ap (a==114) (Aa (wrap .i64 (e+1)) λa=>some ⟨[.sc (.int .i32 13),true],[[b,a]]⟩) (Ap (a==116) (Aa (wrap .i64 (e+1)) λa=>some ⟨[.sc (.int .i32 9),true],[[b,a]]⟩) (some ⟨[.sc (.int .i32 0),false],[[b,e]]⟩))))))))) (Aa (wrap .i64 (e+1)) λc=>some ⟨[.sc (.int .i32 a),true],[[b,c]]⟩)):=Φ
end
def D5(t:ByteArray)(r:Ak):Prop:=∃a,Cp t=a++r
theorem D5.all(t:ByteArray):D5 t (Cp t):=⟨[],rfl⟩
theorem D5.len(h:D5 t r):r.length<=t.size:=by obtain⟨a,h⟩:=h;have:=congrArg wy h;rw[Cj,Ru] at this;omega
theorem D5.app{a:Ak}(h:D5 t (a++r)):D5 t r:=by obtain⟨b,h⟩:=h;exact⟨b++a,by rw[h,Zzv]⟩
theorem D5.tail{c:Int}(h:D5 t (c::r)):D5 t r:=D5.app (a:=[c]) h
theorem D5.drop(h:D5 t r)(k:Nat):D5 t (r.drop k):=by rw[<-bf k r] at h;exact h.app
def Bp(t:ByteArray)(r:Ak):Nat:=t.size-r.length
theorem D5.eq(h:D5 t r):r=(Cp t).drop (Bp t r):=by
 have b:=h.len;obtain⟨a,h⟩:=h
 have e:Bp t r=a.length:=by
  have:=congrArg wy h;rw[Cj,Ru] at this;unfold Bp;omega
 rw[e,h,List.drop_left]
theorem D5.B(h:D5 t r):Ch r:=by obtain⟨a,h⟩:=h;exact λx b=>Vn t x (by rw[h];exact List.mem_append_right _ b)
theorem D5.at{c:Int}(h:D5 t (c::r)):∃b:UInt8,(mf t.data)[Bp t (c::r)]?=some b/\(b.toNat:Int)=c:=by
 have a:=h.eq
 have:(Cp t)[Bp t (c::r)]?=some c:=by
  have:=congrArg (λl=>l[0]?) a;rw[zg] at this;exact this.symm
 unfold Cp at this;rw[zr] at this;obtain⟨b,d,rfl⟩:=Option.map_eq_some_iff.1 this;exact⟨b,d,rfl⟩
theorem Kl{c:Int}(h:D5 t (c::r)):Bp t r=Bp t (c::r)+1:=by have:=h.len;unfold Bp;rw[M9] at this ⊢;omega
theorem Si(t:ByteArray):Bp t []=t.size:=rfl
abbrev Dx(t:ByteArray)(r:Ak):Ae:=[Bg t,Av (Bp t r:Int)]
def SU:Ak->Int
 |[]=>0
 |c::_=>c
section
variable {u d:Nat}{I:FuncId->Option (Ae->Option A3)}
theorem V9(h:D5 t r):Ac (CX I) prog u (d+1) 186 [.pbox (Dx t r)]=some ⟨[.sc (.int .u8 (SU r))],[Dx t r]⟩:=by
 rw[Zi];cases r with
 |nil=>
  show _=some (A3.mk [.sc (.int .u8 0)] [[Bg t,Av (Bp t []:Int)]]);rw[Si];have e:decide ((t.size:Int)<(t.size:Int))=false:=Ψ
  simp only[Aq,Ar,e]
 |cons c r=>
  have f:=h.len;obtain⟨b,a,rfl⟩:=h.at
  have hp:Bp t ((b.toNat:Int)::r)<t.size:=by
   unfold Bp;rw[M9] at f ⊢;omega
  have e:decide ((Bp t ((b.toNat:Int)::r):Int)<(t.size:Int))=true:=by simp;omega
  have g:decide ((0:Int)<=(Bp t ((b.toNat:Int)::r):Int))=true:=Ψ
  rw[<-Hy (Bp t ((b.toNat:Int)::r))] at a;simp only[Aq,Ar,e,g,a,SU]
theorem VB{a:Nat}:s.extract a s.size=Ab ((Cp s).drop a):=by
 rw[<-Hk (s.extract a s.size)]
 congr 1
 unfold Cp;rw[mp,mg,bg,<-bh,Gp];rw[yr];exact Cz _
theorem RG:s.extract 0 n=Ab ((Cp s).take n):=by
 rw[<-Hk (s.extract 0 n)]
 congr 1
 unfold Cp;rw[mp,mg,bg,Nat.sub_zero,Jo,bj]
theorem Ba7{a w:Ak}(f:Ch a)(j:Ch w):Ac (CX I) prog u (d+1) 197 [Bg (Ab a),Bg (Ab w)]=some ⟨[C3 (w.isPrefixOf a)],[]⟩:=by
 rw[BB,Ai,Ai];by_cases g:w.length<=a.length
 ·have b:decide ((a.length:Int)>=(w.length:Int))=true:=by simp;omega
  have k:decide (wj (w.length:Int)<=a.length)=true:=by rw[Hy];simp;exact g
  have l:(Ab a).extract 0 (wj (w.length:Int))=Ab (a.take w.length):=by
   rw[Hy,RG,Cw f]
  have c:(mf (Ab (a.take w.length)).data==mf (Ab w).data)=w.isPrefixOf a:=by
   rw[Bool.eq_iff_iff,bk,beq_iff_eq];constructor
   ·intro h
    have m:Ab (a.take w.length)=Ab w:=by
     cases e:Ab (a.take w.length);cases n:Ab w;rw[e,n] at h;exact congrArg ByteArray.mk (Array.toList_inj.1 h)
    have i:=congrArg Cp m;rw[Cw j,Cw (λx e=>f x (kg e))] at i;exact bm.2 i.symm
   ·intro h;rw[<-bm.1 h]
  simp only[Aq,Ar,b,k,l,c]
 ·have b:decide ((a.length:Int)>=(w.length:Int))=false:=by simp;omega
  have c:w.isPrefixOf a=false:=by
   rw[b4,ne_eq,bk];exact λh=>g h.length_le
  simp only[Aq,Ar,b,c]
theorem Bmj{a w:Ak}(b:Ch a)(c:Ch w):Ac (CX I) prog u (d+2) 181 [Bg (Ab a),Bg (Ab w)]=some ⟨[C3 (w.isPrefixOf a)],[]⟩:=by rw[LL];have e:Ac (CX I) prog u (d+1) 197 [Bg (Ab a),Bg (Ab w)]=_:=Ba7 b c;simp only[Aq,Ar,e]
theorem HY{w:Ak}(h:D5 t r)(ht:t.size<=1000000)(g:Ch w)(i:w.length<=100):Ac (CX I) prog u (d+3) 166 [.pbox (Dx t r),Bg (Ab w)]=some (match Az w r with|some r'=>⟨[C3 true],[Dx t r']⟩|none=>⟨[C3 false],[Dx t r]⟩):=by
 have m:=h.len;have j:=h.eq;have hp:Bp t r<=t.size:=Nat.sub_le _ _;have b:=Bmj (u:=u) (d:=d) (I:=I) h.B g;have c:decide ((0:Int)<=(Bp t r:Int))=true:=Ψ
 have e:(decide (wj (Bp t r:Int)<=t.size)&&decide (t.size<=t.size))=true:=by
  rw[Hy];simp;exact hp
 have f:t.extract (wj (Bp t r:Int)) t.size=Ab r:=by rw[Hy,VB,<-j]
 rw[Vx];unfold Az;by_cases a:w.isPrefixOf r=true
 ·rw[Bv a];rw[a] at b
  have k:w.length<=r.length:=by
   have:=List.IsPrefix.length_le (bk.1 a);exact this
  have l:wrap .i64 ((Bp t r:Int)+((Ab w).size:Int))=(Bp t (r.drop w.length):Int):=by
   rw[Ai,Ba];unfold Bp;rw[yr];omega
  simp only[Aq,Ar,c,e,f,b,l,Gc]
 ·rw[Bd a];have Td:w.isPrefixOf r=false:=b4.2 a;rw[Td] at b;simp only[Aq,Ar,c,e,f,b,Ix]
theorem A8w(x:Int):Ac (CX I) prog u (d+1) 212 [.sc (.int .i32 x)]=some ⟨[C3 (Zn x)],[]⟩:=by
 rw[NG];unfold Zn;by_cases h:56320<=x
 ·have e:decide (x>=56320)=true:=by simp;omega
  have a:decide (56320<=x)=true:=by simp;omega
  simp only[Aq,Ar,e,a,Zzm]
 ·have e:decide (x>=56320)=false:=by simp;omega
  have a:decide (56320<=x)=false:=by simp;omega
  simp only[Aq,Ar,e,a,SK]
def A6v(t:ByteArray)(o:PR Int):A3:=⟨[.sc (.int .i32 (o.1.getD 0)),C3 (o.1.isSome)],[Dx t o.2]⟩
theorem TO(c:Int):(48<=c/\c<=57/\XJ c=some (c-48))\/(97<=c/\c<=102/\XJ c=some (c-87))\/(65<=c/\c<=70/\XJ c=some (c-55))\/(¬(48<=c/\c<=57)/\¬(97<=c/\c<=102)/\¬(65<=c/\c<=70)/\XJ c=none):=by
 unfold XJ;by_cases a:48<=c/\c<=57
 ·exact .inl ⟨a.1,a.2,Bv a⟩
 ·by_cases b:97<=c/\c<=102
  ·exact .inr (.inl ⟨b.1,b.2,by rw[Bd a,Bv b]⟩)
  ·by_cases d:65<=c/\c<=70
   ·exact .inr (.inr (.inl ⟨d.1,d.2,by rw[Bd a,Bd b,Bv d]⟩))
   ·exact .inr (.inr (.inr ⟨a,b,d,by rw[Bd a,Bd b,Bd d]⟩))
theorem El(a: -2147483648<=x)(b:x<=2147483647):wrap .i32 x=x:=by have:=IntWalk.i32_in x Ω;exact this
theorem Bac(a:0<=x)(b:x<65536):Dv .i32 x 4=x*16:=by show wrap .i32 (x*2 ^ (min (4:Int).toNat IntKind.i32.bits))=_;rw[show min (4:Int).toNat IntKind.i32.bits=4 from rfl];exact El Ω Ω
theorem RQ{t s0:ByteArray}{p0:Int}(ht:t.size<=1000000):∀(n:Nat)(nn:Nat)(x:Int)(r:Ak),n<=4->n+1<=nn->0<=x->x<16 ^ (4-n)->D5 t r ->
  Dg u (Ac (CX I) prog u (d+1)) s0 p0 nn x ((4-n:Nat):Int) t (Bp t r:Int)=some (A6v t (U8 n x r))
 |0,nn,x,r,_,Es,y,q,h=>by
  obtain⟨k,rfl⟩:∃k,nn=k+1:=⟨nn-1,Ω⟩
  rw[Je];simp only[Aq,Ar,show decide (((4-0:Nat):Int)<4)=false from rfl];rfl
 |n+1,nn,x,r,D,Es,y,q,h=>by
  obtain⟨k,rfl⟩:∃k,nn=k+1:=⟨nn-1,Ω⟩
  have z:=V9 (u:=u) (d:=d) (I:=I) h;have E:=h.len
  have G:x<4096:=by
   have:n+1=1\/n+1=2\/n+1=3\/n+1=4:=Ω
   rcases this with e|e|e|e<;>rw[e] at q<;>simp at q<;>omega
  have DP:∀v,0<=v->v<=15->x*16+v<16 ^ (4-n):=by
   intro v A B;have e:4-n=(4-(n+1))+1:=Ω
   rw[e,g5];omega
  have b:decide (((4-(n+1):Nat):Int)<4)=true:=by simp;omega
  have l:wrap .i64 (((4-(n+1):Nat):Int)+1)=((4-n:Nat):Int):=Bc
  have sh:=Bac y Ω;rw[Je];cases r with
  |nil=>
   have a:Ac (CX I) prog u (d+1) 186 [.pbox (Dx t [])]=some ⟨[.sc (.int .u8 0)],[Dx t []]⟩:=z
   repeat(with_reducible(first|apply Bk|apply A5|apply Bm|apply Bj|apply Bo|apply Ff|apply A4|apply Bn|apply H7);· first|constructor|(simp(disch:=omega)only[H9,b,a,Int.reduceGE,decide_false,decide_true]<;>first|constructor|omega)|omega)
   try simp(disch:=omega)only[Aa,b,a,Int.reduceGE,decide_false,decide_true]
   rfl
  |cons c r=>
   have H:=h.B c Ψ;have hp:=Kl h
   have m:wrap .i64 ((Bp t (c::r):Int)+1)=(Bp t r:Int):=by
    rw[hp,wrap_i64 (by unfold Bp;omega) (by unfold Bp;omega)];omega
   have a:Ac (CX I) prog u (d+1) 186 [.pbox (Dx t (c::r))]=some ⟨[.sc (.int .u8 c)],[Dx t (c::r)]⟩:=z;unfold U8;rcases TO c with⟨s,w,o⟩|⟨s,w,o⟩|⟨s,w,o⟩|⟨s,w,o,C⟩
   ·rw[o];have f:=RQ (s0:=s0) (p0:=p0) ht n k (x*16+(c-48)) r Ω Ω Ω (DP _ Ω Ω) h.tail;have g:wrap .u8 (c-48)=c-48:=Gt Ω Ω;have i:wrap .i32 (c-48)=c-48:=El Ω Ω;have j:wrap .i32 (x*16+(c-48))=x*16+(c-48):=El Ω Ω
    repeat(with_reducible(first|apply Bk|apply A5|apply Bm|apply Bj|apply Bo|apply Ff|apply A4|apply Bn|apply H7);· first|constructor|(simp(disch:=omega)only[H9,b,a,sh,g,i,j,l,m,f]<;>first|constructor|omega)|omega)
    try simp(disch:=omega)only[Aa,b,a,sh,g,i,j,l,m,f]
   ·rw[o];have f:=RQ (s0:=s0) (p0:=p0) ht n k (x*16+(c-87)) r Ω Ω Ω (DP _ Ω Ω) h.tail;have g:wrap .u8 (c-97)=c-97:=Gt Ω Ω;have i:wrap .i32 (c-97)=c-97:=El Ω Ω;have j:wrap .i32 (x*16+(c-97))=x*16+(c-97):=El Ω Ω;have p:wrap .i32 (x*16+(c-97)+10)=x*16+(c-87):=by rw[El Ω Ω];omega
    repeat(with_reducible(first|apply Bk|apply A5|apply Bm|apply Bj|apply Bo|apply Ff|apply A4|apply Bn|apply H7);· first|constructor|(simp(disch:=omega)only[H9,b,a,sh,g,i,j,p,l,m,f]<;>first|constructor|omega)|omega)
    try simp(disch:=omega)only[Aa,b,a,sh,g,i,j,p,l,m,f]
   ·rw[o];have f:=RQ (s0:=s0) (p0:=p0) ht n k (x*16+(c-55)) r Ω Ω Ω (DP _ Ω Ω) h.tail;have g:wrap .u8 (c-65)=c-65:=Gt Ω Ω;have i:wrap .i32 (c-65)=c-65:=El Ω Ω;have j:wrap .i32 (x*16+(c-65))=x*16+(c-65):=El Ω Ω;have p:wrap .i32 (x*16+(c-65)+10)=x*16+(c-55):=by rw[El Ω Ω];omega
    repeat(with_reducible(first|apply Bk|apply A5|apply Bm|apply Bj|apply Bo|apply Ff|apply A4|apply Bn|apply H7);· first|constructor|(simp(disch:=omega)only[H9,b,a,sh,g,i,j,p,l,m,f]<;>first|constructor|omega)|omega)
    try simp(disch:=omega)only[Aa,b,a,sh,g,i,j,p,l,m,f]
   ·rw[C];by_cases k1:48<=c
    ·by_cases J:97<=c
     ·skip
      repeat(with_reducible(first|apply Bk|apply A5|apply Bm|apply Bj|apply Bo|apply Ff|apply A4|apply Bn|apply H7);· first|constructor|(simp(disch:=omega)only[H9,b,a]<;>first|constructor|omega)|omega)
      try simp(disch:=omega)only[Aa,b,a]
      rfl
     ·by_cases K:65<=c
      ·skip
       repeat(with_reducible(first|apply Bk|apply A5|apply Bm|apply Bj|apply Bo|apply Ff|apply A4|apply Bn|apply H7);· first|constructor|(simp(disch:=omega)only[H9,b,a]<;>first|constructor|omega)|omega)
       try simp(disch:=omega)only[Aa,b,a]
       rfl
      ·skip
       repeat(with_reducible(first|apply Bk|apply A5|apply Bm|apply Bj|apply Bo|apply Ff|apply A4|apply Bn|apply H7);· first|constructor|(simp(disch:=omega)only[H9,b,a]<;>first|constructor|omega)|omega)
       try simp(disch:=omega)only[Aa,b,a]
       rfl
    ·skip
     repeat(with_reducible(first|apply Bk|apply A5|apply Bm|apply Bj|apply Bo|apply Ff|apply A4|apply Bn|apply H7);· first|constructor|(simp(disch:=omega)only[H9,b,a]<;>first|constructor|omega)|omega)
     try simp(disch:=omega)only[Aa,b,a]
     rfl
theorem Bay(Be:10<=u)(h:D5 t r)(ht:t.size<=1000000):Ac (CX I) prog u (d+2) 211 [.pbox (Dx t r)]=some (A6v t (U8 4 0 r)):=by rw[Uu];exact RQ ht 4 u 0 r Ω Ω Ω Δ h
theorem Lh:∀(n:Nat)(x:Int)(l:Ak)(y:Int)(r:Ak),U8 n x l=(some y,r)->0<=x->0<=y/\y<(x+1)*16 ^ n
 |0,x,l,y,r,h,f=>by
  cases h;omega
 |n+1,x,[],y,r,h,f=>by cases h
 |n+1,x,c::l,y,r,h,f=>by
  unfold U8 at h;rcases TO c with⟨b,d,a⟩|⟨b,d,a⟩|⟨b,d,a⟩|⟨b,d,a,g⟩
  ·rw[a] at h;have:=Lh n _ l y r h Ω
   have e:(x*16+(c-48)+1)*16 ^ n<=(x+1)*16 ^ (n+1):=by
    rw[g5,g7 (16 ^ n) 16,<-g6];exact wm Ω (wn Ω)
   omega
  ·rw[a] at h;have:=Lh n _ l y r h Ω
   have e:(x*16+(c-87)+1)*16 ^ n<=(x+1)*16 ^ (n+1):=by
    rw[g5,g7 (16 ^ n) 16,<-g6];exact wm Ω (wn Ω)
   omega
  ·rw[a] at h;have:=Lh n _ l y r h Ω
   have e:(x*16+(c-55)+1)*16 ^ n<=(x+1)*16 ^ (n+1):=by
    rw[g5,g7 (16 ^ n) 16,<-g6];exact wm Ω (wn Ω)
   omega
  ·rw[g] at h;cases h
theorem PZ{t:ByteArray}:∀(n:Nat)(x:Int)(l:Ak),D5 t l->D5 t (U8 n x l).2
 |0,x,l,h=>h
 |n+1,x,[],h=>h
 |n+1,x,c::l,h=>by
  unfold U8;cases XJ c with
  |none=>exact h
  |some v=>exact PZ n _ l h.tail
theorem A1z(l:Ak):App l=bn [92,117] l:=by
 match l with
 |[]=>rfl
 |[a]=>
  unfold App;split
  ·rename_i e;cases e
  ·simp[bn]
 |a::b::r=>
  unfold App;split
  ·rename_i e;cases e;rfl
  ·rename_i h
   symm
   rw[b4];intro hp;simp[bn] at hp;exact h r (by rw[<-hp.1,<-hp.2])
theorem A3w(a:0<=x)(b:x<2097152):Dv .i32 x 10=x*1024:=by show wrap .i32 (x*2 ^ (min (10:Int).toNat IntKind.i32.bits))=_;rw[show min (10:Int).toNat IntKind.i32.bits=10 from rfl];exact El Ω Ω
theorem Bdg(Be:10<=u)(h:D5 t r)(ht:t.size<=1000000):Ac (CX I) prog u (d+4) 198 [.pbox (Dx t r)]=some (A6v t (Xk r)):=by
 have f:=Bay (d:=d+1) (I:=I) Be h ht;have i:=PZ 4 0 r h;have A:=Lh 4 0 r;rw[Tr];unfold Xk;rcases m:U8 4 0 r with⟨o,e⟩;rw[m] at f i;simp only at i;cases o with
 |none=>
  have DP:Ac (CX I) prog u (d+3) 211 [.pbox (Dx t r)]=some ⟨[.sc (.int .i32 0),C3 false],[Dx t e]⟩:=f
  repeat(with_reducible(first|apply Bk|apply A5|apply Bm|apply Bj|apply Bo|apply Ff|apply A4|apply Bn|apply H7);· first|constructor|(simp(disch:=omega)only[H9,DP,Ix]<;>first|constructor|omega)|omega)
  try simp(disch:=omega)only[Aa,DP,Ix]
  rfl
 |some x=>
  have DP:Ac (CX I) prog u (d+3) 211 [.pbox (Dx t r)]=some ⟨[.sc (.int .i32 x),C3 true],[Dx t e]⟩:=f;have C:=A x e m Ω;have c:∀x,Ac (CX I) prog u (d+3) 212 [.sc (.int .i32 x)]=some ⟨[C3 (Zn x)],[]⟩:=λx=>A8w (d:=d+2) x;cases a:Zn x
  ·simp only[a,qf,if_false];by_cases c1:x<55296
   ·rw[Bv (Or.inl c1)]
    repeat(with_reducible(first|apply Bk|apply A5|apply Bm|apply Bj|apply Bo|apply Ff|apply A4|apply Bn|apply H7);· first|constructor|(simp(disch:=omega)only[H9,DP,c,a,Gc]<;>first|constructor|omega)|omega)
    try simp(disch:=omega)only[Aa,DP,c,a,Gc]
    rfl
   ·by_cases c2:56319<x
    ·rw[Bv (Or.inr c2)]
     repeat(with_reducible(first|apply Bk|apply A5|apply Bm|apply Bj|apply Bo|apply Ff|apply A4|apply Bn|apply H7);· first|constructor|(simp(disch:=omega)only[H9,DP,c,a,Gc]<;>first|constructor|omega)|omega)
     try simp(disch:=omega)only[Aa,DP,c,a,Gc]
     rfl
    ·rw[Bd Ω];have g:=HY (u:=u) (d:=d) (I:=I) i ht (w:=[92,117]) (λx f=>by simp at f;rcases f with rfl|rfl<;>omega) Δ
     unfold Az at g;rw[<-A1z] at g;cases n:App e
     ·rw[n,Bd Ψ] at g;simp only[qf,if_false];have CG:Ac (CX I) prog u (d+3) 166 [.pbox (Dx t e),Bg ⟨#[92,117]⟩]=some ⟨[C3 false],[Dx t e]⟩:=g
      repeat(with_reducible(first|apply Bk|apply A5|apply Bm|apply Bj|apply Bo|apply Ff|apply A4|apply Bn|apply H7);· first|constructor|(simp(disch:=omega)only[H9,DP,c,a,CG,Gc,Ix]<;>first|constructor|omega)|omega)
      try simp(disch:=omega)only[Aa,DP,c,a,CG,Gc,Ix]
      rfl
     ·rw[n,Bv rfl] at g;simp only[if_true];have CG:Ac (CX I) prog u (d+3) 166 [.pbox (Dx t e),Bg ⟨#[92,117]⟩]=some ⟨[C3 true],[Dx t (e.drop 2)]⟩:=g;have j:=Bay (d:=d+1) (I:=I) Be (i.drop 2) ht;have k:=Lh 4 0 (e.drop 2);unfold Afi;rcases Td:U8 4 0 (e.drop 2) with⟨B,l⟩;rw[Td] at j;cases B with
      |none=>
       have b:Ac (CX I) prog u (d+3) 211 [.pbox (Dx t (e.drop 2))]=some ⟨[.sc (.int .i32 0),C3 false],[Dx t l]⟩:=j
       repeat(with_reducible(first|apply Bk|apply A5|apply Bm|apply Bj|apply Bo|apply Ff|apply A4|apply Bn|apply H7);· first|constructor|(simp(disch:=omega)only[H9,DP,c,a,CG,b,Gc,Ix]<;>first|constructor|omega)|omega)
       try simp(disch:=omega)only[Aa,DP,c,a,CG,b,Gc,Ix]
       rfl
      |some y=>
       have b:Ac (CX I) prog u (d+3) 211 [.pbox (Dx t (e.drop 2))]=some ⟨[.sc (.int .i32 y),C3 true],[Dx t l]⟩:=j;have by_:=k y l Td Ω;cases Uk:Zn y
       ·simp only[qf,if_false]
        repeat(with_reducible(first|apply Bk|apply A5|apply Bm|apply Bj|apply Bo|apply Ff|apply A4|apply Bn|apply H7);· first|constructor|(simp(disch:=omega)only[H9,DP,c,a,Uk,CG,b,Gc,Ix]<;>first|constructor|omega)|omega)
        try simp(disch:=omega)only[Aa,DP,c,a,Uk,CG,b,Gc,Ix]
        rfl
       ·simp only[if_true]
        have D:56320<=y/\y<=57343:=by
         unfold Zn at Uk
         simpa using Uk
        have p:wrap .i32 (x-55296)=x-55296:=El Ω Ω;have q:=A3w (x:=x-55296) Ω Ω;have s:wrap .i32 (65536+(x-55296)*1024)=65536+(x-55296)*1024:=El Ω Ω;have v:wrap .i32 (y-56320)=y-56320:=El Ω Ω;have z:wrap .i32 (65536+(x-55296)*1024+(y-56320))=65536+(x-55296)*1024+(y-56320):=El Ω Ω
        repeat(with_reducible(first|apply Bk|apply A5|apply Bm|apply Bj|apply Bo|apply Ff|apply A4|apply Bn|apply H7);· first|constructor|(simp(disch:=omega)only[H9,DP,c,a,Uk,CG,b,p,q,s,v,z,Gc,Ix]<;>first|constructor|omega)|omega)
        try simp(disch:=omega)only[Aa,DP,c,a,Uk,CG,b,p,q,s,v,z,Gc,Ix]
        rfl
  ·simp only[if_true]
   repeat(with_reducible(first|apply Bk|apply A5|apply Bm|apply Bj|apply Bo|apply Ff|apply A4|apply Bn|apply H7);· first|constructor|(simp(disch:=omega)only[H9,DP,c,a,Gc]<;>first|constructor|omega)|omega)
   try simp(disch:=omega)only[Aa,DP,c,a,Gc]
   rfl
theorem Agb(c:Int):(c=34/\DN c=some 34)\/(c=92/\DN c=some 92)\/(c=47/\DN c=some 47)\/(c=98/\DN c=some 8)\/(c=102/\DN c=some 12)\/(c=110/\DN c=some 10)\/(c=114/\DN c=some 13)\/(c=116/\DN c=some 9) \/
  ((c≠34/\c≠92/\c≠47/\c≠98/\c≠102/\c≠110/\c≠114/\c≠116)/\DN c=none):=by
 by_cases g:c=34
 ·subst g;exact .inl ⟨rfl,rfl⟩
 by_cases h:c=92
 ·subst h;exact .inr (.inl ⟨rfl,rfl⟩)
 by_cases i:c=47
 ·subst i;exact .inr (.inr (.inl ⟨rfl,rfl⟩))
 by_cases a:c=98
 ·subst a;exact .inr (.inr (.inr (.inl ⟨rfl,rfl⟩)))
 by_cases b:c=102
 ·subst b;exact .inr (.inr (.inr (.inr (.inl ⟨rfl,rfl⟩))))
 by_cases d:c=110
 ·subst d;exact .inr (.inr (.inr (.inr (.inr (.inl ⟨rfl,rfl⟩)))))
 by_cases e:c=114
 ·subst e;exact .inr (.inr (.inr (.inr (.inr (.inr (.inl ⟨rfl,rfl⟩))))))
 by_cases f:c=116
 ·subst f;exact .inr (.inr (.inr (.inr (.inr (.inr (.inr (.inl ⟨rfl,rfl⟩)))))))
 refine .inr (.inr (.inr (.inr (.inr (.inr (.inr (.inr ⟨⟨g,h,i,a,b,d,e,f⟩,?_⟩)))))));unfold DN;rw[Bd Ω,Bd a,Bd b,Bd d,Bd e,Bd f]
theorem Bkn(Be:10<=u)(h:D5 t r)(ht:t.size<=1000000):Ac (CX I) prog u (d+5) 183 [.pbox (Dx t r)]=some (A6v t (O6 r)):=by
 have e:=HY (u:=u) (d:=d+1) (I:=I) h ht (w:=[117]) (λx s=>by simp at s;omega) Δ
 have G:=h.len;rw[Q7];cases r with
 |nil=>
  have CG:Ac (CX I) prog u (d+4) 166 [.pbox (Dx t []),Bg ⟨#[117]⟩]=some ⟨[C3 false],[Dx t []]⟩:=e;have a:Ac (CX I) prog u (d+4) 186 [.pbox (Dx t [])]=some ⟨[.sc (.int .u8 0)],[Dx t []]⟩:=V9 (d:=d+3) h;have w0:wrap .i32 0=0:=rfl
  repeat(with_reducible(first|apply Bk|apply A5|apply Bm|apply Bj|apply Bo|apply Ff|apply A4|apply Bn|apply H7);· first|constructor|(simp(disch:=omega)only[H9,CG,a,w0,Int.reduceBEq]<;>first|constructor|omega)|omega)
  try simp(disch:=omega)only[Aa,CG,a,w0,Int.reduceBEq]
  rfl
 |cons c r=>
  have H:=h.B c Ψ;have hp:=Kl h
  have b:wrap .i64 ((Bp t (c::r):Int)+1)=(Bp t r:Int):=by
   rw[hp,wrap_i64 (by unfold Bp;omega) (by unfold Bp;omega)];omega
  have w0:wrap .i32 c=c:=El Ω Ω;have a:Ac (CX I) prog u (d+4) 186 [.pbox (Dx t (c::r))]=some ⟨[.sc (.int .u8 c)],[Dx t (c::r)]⟩:=V9 (d:=d+3) h;have v:O6 (c::r)=if c=117 then Xk r else match DN c with|some x=>(some x,r)|none=>(none,c::r):=rfl
  rw[v];unfold Az at e;by_cases i:c=117
  ·subst i;rw[Bv rfl];have CG:Ac (CX I) prog u (d+4) 166 [.pbox (Dx t (117::r)),Bg ⟨#[117]⟩]=some ⟨[C3 true],[Dx t r]⟩:=e;have f:Ac (CX I) prog u (d+4) 198 [.pbox (Dx t r)]=some ⟨[.sc (.int .i32 ((Xk r).1.getD 0)),C3 ((Xk r).1.isSome)],[Dx t (Xk r).2]⟩:=Bdg Be h.tail ht
   repeat(with_reducible(first|apply Bk|apply A5|apply Bm|apply Bj|apply Bo|apply Ff|apply A4|apply Bn|apply H7);· first|constructor|(simp(disch:=omega)only[H9,CG,f]<;>first|constructor|omega)|omega)
   try simp(disch:=omega)only[Aa,CG,f]
   rfl
  ·rw[Bd i]
   have y:(bn [117] (c::r))=false:=by
    rw[b4];intro hp;simp[bn] at hp;exact i hp.symm
   rw[y,Bd Ψ] at e;have CG:Ac (CX I) prog u (d+4) 166 [.pbox (Dx t (c::r)),Bg ⟨#[117]⟩]=some ⟨[C3 false],[Dx t (c::r)]⟩:=e;rcases Agb c with⟨rfl,g⟩|⟨rfl,g⟩|⟨rfl,g⟩|⟨rfl,g⟩|⟨rfl,g⟩|⟨rfl,g⟩|⟨rfl,g⟩|⟨rfl,g⟩|⟨z,g⟩
   ·rw[g]
    repeat(with_reducible(first|apply Bk|apply A5|apply Bm|apply Bj|apply Bo|apply Ff|apply A4|apply Bn|apply H7);· first|constructor|(simp(disch:=omega)only[H9,CG,a,w0,b,Int.reduceBEq]<;>first|constructor|omega)|omega)
    try simp(disch:=omega)only[Aa,CG,a,w0,b,Int.reduceBEq]
    rfl
   ·rw[g]
    repeat(with_reducible(first|apply Bk|apply A5|apply Bm|apply Bj|apply Bo|apply Ff|apply A4|apply Bn|apply H7);· first|constructor|(simp(disch:=omega)only[H9,CG,a,w0,b,Int.reduceBEq]<;>first|constructor|omega)|omega)
    try simp(disch:=omega)only[Aa,CG,a,w0,b,Int.reduceBEq]
    rfl
   ·rw[g]
    repeat(with_reducible(first|apply Bk|apply A5|apply Bm|apply Bj|apply Bo|apply Ff|apply A4|apply Bn|apply H7);· first|constructor|(simp(disch:=omega)only[H9,CG,a,w0,b,Int.reduceBEq]<;>first|constructor|omega)|omega)
    try simp(disch:=omega)only[Aa,CG,a,w0,b,Int.reduceBEq]
    rfl
   ·rw[g]
    repeat(with_reducible(first|apply Bk|apply A5|apply Bm|apply Bj|apply Bo|apply Ff|apply A4|apply Bn|apply H7);· first|constructor|(simp(disch:=omega)only[H9,CG,a,w0,b,Int.reduceBEq]<;>first|constructor|omega)|omega)
    try simp(disch:=omega)only[Aa,CG,a,w0,b,Int.reduceBEq]
    rfl
   ·rw[g]
    repeat(with_reducible(first|apply Bk|apply A5|apply Bm|apply Bj|apply Bo|apply Ff|apply A4|apply Bn|apply H7);· first|constructor|(simp(disch:=omega)only[H9,CG,a,w0,b,Int.reduceBEq]<;>first|constructor|omega)|omega)
    try simp(disch:=omega)only[Aa,CG,a,w0,b,Int.reduceBEq]
    rfl
   ·rw[g]
    repeat(with_reducible(first|apply Bk|apply A5|apply Bm|apply Bj|apply Bo|apply Ff|apply A4|apply Bn|apply H7);· first|constructor|(simp(disch:=omega)only[H9,CG,a,w0,b,Int.reduceBEq]<;>first|constructor|omega)|omega)
    try simp(disch:=omega)only[Aa,CG,a,w0,b,Int.reduceBEq]
    rfl
   ·rw[g]
    repeat(with_reducible(first|apply Bk|apply A5|apply Bm|apply Bj|apply Bo|apply Ff|apply A4|apply Bn|apply H7);· first|constructor|(simp(disch:=omega)only[H9,CG,a,w0,b,Int.reduceBEq]<;>first|constructor|omega)|omega)
    try simp(disch:=omega)only[Aa,CG,a,w0,b,Int.reduceBEq]
    rfl
   ·rw[g]
    repeat(with_reducible(first|apply Bk|apply A5|apply Bm|apply Bj|apply Bo|apply Ff|apply A4|apply Bn|apply H7);· first|constructor|(simp(disch:=omega)only[H9,CG,a,w0,b,Int.reduceBEq]<;>first|constructor|omega)|omega)
    try simp(disch:=omega)only[Aa,CG,a,w0,b,Int.reduceBEq]
    rfl
   ·rw[g];obtain⟨n1,n2,A,B,C,D,n7,E⟩:=z;have j:(c==(34:Int))=false:=by simp[n1]
    have k:(c==(92:Int))=false:=by simp[n2]
    have l:(c==(47:Int))=false:=by simp[A]
    have m:(c==(98:Int))=false:=by simp[B]
    have n:(c==(102:Int))=false:=by simp[C]
    have o:(c==(110:Int))=false:=by simp[D]
    have p:(c==(114:Int))=false:=by simp[n7]
    have q:(c==(116:Int))=false:=by simp[E]
    repeat(with_reducible(first|apply Bk|apply A5|apply Bm|apply Bj|apply Bo|apply Ff|apply A4|apply Bn|apply H7);· first|constructor|(simp(disch:=omega)only[H9,CG,a,w0,b,j,k,l,m,n,o,p,q]<;>first|constructor|omega)|omega)
    try simp(disch:=omega)only[Aa,CG,a,w0,b,j,k,l,m,n,o,p,q]
    rfl
theorem BU(h:D5 t l):D5 t (O6 l).2:=by
 have Bjw:∀l,D5 t l->D5 t (Xk l).2:=by
  intro l h;have a:=PZ 4 0 l h;unfold Xk;rcases d:U8 4 0 l with⟨o,r⟩;rw[d] at a;cases o with
  |none=>exact a
  |some x=>
   simp only;split
   ·exact a
   split
   ·exact a
   split
   ·have b:=PZ 4 0 (r.drop 2) (D5.drop a 2);unfold Afi;rcases Td:U8 4 0 (r.drop 2) with⟨e,g⟩;rw[Td] at b;cases e with
    |none=>exact b
    |some y=>
     simp only;split<;>exact b
   ·exact a
 cases l with
 |nil=>exact h
 |cons c r=>
  have f:O6 (c::r)=if c=117 then Xk r else match DN c with|some x=>(some x,r)|none=>(none,c::r):=rfl
  rw[f];split
  ·exact Bjw r h.tail
  ·cases DN c with
   |none=>exact h
   |some x=>exact h.tail
end
section
open Go.RowKit Go.Lib
abbrev u8C(l:Ak):List Value:=l.map (Value.int .u8)
theorem At7(a b:Ak):u8C (a++b)=u8C a++u8C b:=kn
theorem Aeq:∀{l:Ak},Ch l->u8C l=ma (l.map λn=>n.toNat.toUInt8)
 |[],_=>rfl
 |x::l,h=>by
  obtain⟨a,h⟩:=Ck h;show Value.int .u8 x::u8C l=Value.int .u8 ((x.toNat.toUInt8).toNat:Int)::ma (l.map λn=>n.toNat.toUInt8);rw[Aeq h]
  congr 2
  have:(x.toNat.toUInt8).toNat=x.toNat:=by
   show x.toNat % 256=x.toNat;omega
  rw[this];omega
theorem RH(k:IntKind):∀l:Ak,Af k l=l.map λn=>.sc (.int k n)
 |[]=>rfl
 |x::l=>by
  show PV.sc (.int k x)::Af k l=_;rw[RH k l];rfl
end
section
open Go Go.RowKit
theorem Hm.refl(w:World)(b o n:Nat):Hm w w b o n:=⟨rfl,rfl,rfl,Cz _,Kk.refl _ _,λ_ _ _=>rfl,λ_ _=>rfl,λ_ _=>rfl⟩
theorem Hm.trans{w'':World}(h:Hm w w' b o n)(k:Hm w' w'' b o n):Hm w w'' b o n:=
 ⟨k.os.trans h.os,k.tape.trans h.tape,k.output.trans h.output,jl h.size k.size,h.grow.trans k.grow,λi hi c=>(k.other i (Iv hi h.size) c).trans (h.other i hi c),λj a=>(k.cells j a).trans (h.cells j a),λj a=>(k.frz j a).trans (h.frz j a)⟩
theorem Hm.below{w'':World}(h:Hm w w' b o n)(k:Below w.heap.size w' w'')(a:b<w.heap.size):Hm w w'' b o n:=
 ⟨k.os.trans h.os,k.tape.trans h.tape,k.output.trans h.output,jl h.size k.size,h.grow.trans (Kk.same (k.block b a)),λi hi d=>(k.block i hi).trans (h.other i hi d),λj c=>(k.cell (p:=⟨b,j,none⟩) a).trans (h.cells j c),λj c=>(k.frozen (p:=⟨b,j,none⟩) a).trans (h.frz j c)⟩
theorem Hm.drew(h:Hm w w' b o n):Hm w w'.drew b o n:=⟨h.os,h.tape,h.output,h.size,h.grow,h.other,h.cells,h.frz⟩
theorem Hm.setCell(w:World)(b o n j:Nat)(v:Value)(f:o<=j)(c:j<o+n)(g:b<w.heap.size):Hm w (w.setCell ⟨b,j,none⟩ v) b o n:=by have a:De b w (w.setCell ⟨b,j,none⟩ v):=De.setCells b [v] j w;refine⟨a.os,a.tape,a.output,Nat.le_of_eq a.size.symm,a.grow b,λk h d=>a.other k d,λi hi=>?_,λi _=>a.frz i⟩;exact mq _ _ _ _ (by intro e;injection e;omega)
theorem SA{T e:TypeId}{B c:Nat}{bs:List Value}{f:World}(h:Lib.IsBuilderF T e B c bs W)(a:Hm W f b o n)(s:b<B):Lib.IsBuilderF T e B c bs f:=by
 have d:∀p,Lib.BuilderAtF T e B c p bs W->Lib.BuilderAtF T e B c p bs f:=by
  intro p h;have Ct:=h.lt;obtain⟨j,v,l,i,m⟩:=h;refine⟨j,v,(a.other c Ct Ω).trans l,i.kept (row:=some b) ⟨a.os,a.tape,a.output,a.size,λk q Bb8=>a.other k q (λe=>Bb8 (by rw[e]))⟩ ?_,m⟩;rcases i.2 with⟨rfl,_⟩|⟨g,cap,r,fz,rfl,t,_⟩
  ·exact .inl rfl
  ·refine .inr (λe=>?_);simp[Value.ownBlock] at e;omega
 exact h.imp (d _) (d _)
def GR:MD:=⟨λ_=>False,λ_=>True,λ_ _ _ _=>trivial⟩
def noR:FuncId->Option (Ae->Option A3):=λ_=>none
theorem A3k:Aft GR prog (CX noR):=by intro f g args b h _;have a:(bif QC.any (Nat.beq f) then none else (none:Option (Ae->Option A3)))=some g:=h;cases c:QC.any (Nat.beq f)<;>rw[c] at a<;>cases a
theorem ngR:NoNG prog:=by
 have h:(prog.funcs.toList.all fun a=> !(a.name == "runtime.NumGoroutine"))=true:=by kernel_rfl
 intro f a b;have:=List.all_eq_true.1 h a (Array.mem_toList_iff.2 (Array.mem_of_getElem? b))
 simpa using this
theorem mxR:prog.follows .mixedOrders=true:=Κ
structure RD(w:World)(b o:Nat)(t:ByteArray)(r:Ak):Prop where
 lt:b<w.heap.size
 c0:w.cell? ⟨b,o,none⟩=some (.string t)
 c1:w.cell? ⟨b,o+1,none⟩=some (.int .i64 (Bp t r:Int))
 f0:w.frozen? ⟨b,o,none⟩=false
 f1:w.frozen? ⟨b,o+1,none⟩=false
theorem Ahs{r':Ak}{vals:Ae}{us rs:List Value}{d:Nat}(e:Ac (CX noR) prog 2000 d f (.pbox (Dx t r)::args)=some ⟨vals,[Dx t r']⟩)(k:B4 Aai args us)(l:B4 Aai vals rs)(h:RD w b o t r):Calls prog f (.pointer (some ⟨b,o,none⟩)::us).toArray w λe w'=>e=.returned (J1 rs)/\RD w' b o t r'/\Hm w w' b o 2:=by
 have m:Ep GR prog f (.pbox ([Value.string t,.int .i64 (Bp t r:Int)].map .sc)::args) ⟨vals,[[Value.string t,.int .i64 (Bp t r':Int)].map .sc]⟩:=L7 ngR mxR A3k d f _ _ e;refine (Aeh m k l (w:=w) (b:=b) (o:=o) trivial (λ_ h=>h.elim) h.lt ?_ ?_).mono ?_
 ·intro j v a
  match j,a with
  |0,a=>cases a;exact h.c0
  |1,a=>cases a;exact h.c1
 ·intro j n
  match j,n with
  |0,_=>exact h.f0
  |1,_=>exact h.f1
 ·rintro e w' ⟨rfl,_,c,g,i⟩
  exact⟨rfl,⟨Iv h.lt i.size,c 0 _ rfl,c 1 _ rfl,g 0 (wt _),g 1 (wv (wt _))⟩,i⟩
theorem Mf{w0:Ak}(f:D5 t r)(ht:t.size<=1000000)(g:Ch w0)(a:w0.length<=100)(h:RD w b o t r):
  Calls prog 166 #[.pointer (some ⟨b,o,none⟩),.string (Ab w0)] w λe w'=>e=.returned (.bool (Az w0 r).isSome)/\RD w' b o t ((Az w0 r).getD r)/\Hm w w' b o 2:=by
 have e:=HY (u:=2000) (d:=0) (I:=noR) f ht g a;cases c:Az w0 r with
 |none=>
  rw[c] at e;exact Ahs (us:=[.string (Ab w0)]) (rs:=[.bool false]) e ⟨.inl rfl,trivial⟩ ⟨.inl rfl,trivial⟩ h
 |some r'=>
  rw[c] at e;exact Ahs (us:=[.string (Ab w0)]) (rs:=[.bool true]) e ⟨.inl rfl,trivial⟩ ⟨.inl rfl,trivial⟩ h
theorem Avn(a:D5 t r)(ht:t.size<=1000000)(h:RD w b o t r):
  Calls prog 183 #[.pointer (some ⟨b,o,none⟩)] w λe w'=>e=.returned (.tuple #[.int .i32 ((O6 r).1.getD 0),.bool (O6 r).1.isSome])/\RD w' b o t (O6 r).2/\Hm w w' b o 2:=by
 have e:=Bkn (u:=2000) (d:=0) (I:=noR) Ω a ht;exact Ahs (us:=[]) (rs:=[.int .i32 ((O6 r).1.getD 0),.bool (O6 r).1.isSome]) e trivial ⟨.inl rfl,.inl rfl,trivial⟩ h
end
section
open Go Go.RowKit Go.Lib
def Bod(o:Option Ak):Value:=.tuple #[.string (Ab (o.getD [])),.bool o.isSome]
theorem RD.below{B:Nat}(h:RD w b o t r)(a:Below B w w')(c:b<B):RD w' b o t r:=
 ⟨Iv h.lt a.size,(a.cell (p:=⟨b,o,none⟩) c).trans h.c0,(a.cell (p:=⟨b,o+1,none⟩) c).trans h.c1,(a.frozen (p:=⟨b,o,none⟩) c).trans h.f0,(a.frozen (p:=⟨b,o+1,none⟩) c).trans h.f1⟩
theorem Alu(h:Ch l):(O6 l).2.length<=l.length:=by
 have a:D5 (Ab l) l:=⟨[],by rw[Cw h];rfl⟩
 have:=(BU a).len
 rwa [Ai] at this
theorem Ahb(h:Xk l=(some x,r)):0<=x/\x<=1114111:=by
 have d:=Lh 4 0 l;unfold Xk at h;rcases b:U8 4 0 l with⟨o,a⟩;rw[b] at h;cases o with
 |none=>cases h
 |some y=>
  have by_:=d y a b Ω;simp only at h;split at h
  ·cases h
  split at h
  ·cases h;omega
  split at h
  ·have Ke:=Lh 4 0 (a.drop 2);unfold Afi at h;rcases Td:U8 4 0 (a.drop 2) with⟨e,f⟩;rw[Td] at h;cases e with
   |none=>cases h
   |some z=>
    have g:=Ke z f Td Ω;simp only at h;split at h
    ·rename_i c
     have i:56320<=z/\z<=57343:=by
      unfold Zn at c
      simpa using c
     cases h;omega
    ·cases h
  ·cases h
theorem Aln(h:O6 l=(some x,r)):0<=x/\x<=1114111:=by
 cases l with
 |nil=>cases h
 |cons c l=>
  have a:O6 (c::l)=if c=117 then Xk l else match DN c with|some x=>(some x,l)|none=>(none,c::l):=rfl
  rw[a] at h;split at h
  ·exact Ahb h
  ·rcases Agb c with⟨rfl,g⟩|⟨rfl,g⟩|⟨rfl,g⟩|⟨rfl,g⟩|⟨rfl,g⟩|⟨rfl,g⟩|⟨rfl,g⟩|⟨rfl,g⟩|⟨b,g⟩<;>rw[g] at h<;>cases h<;>omega
set_option maxHeartbeats 4000000 in
theorem Alz(hS:D5 t r)(ht:t.size<=1000000)(h:RD w b o t r):
    Calls prog 167 #[.pointer (some ⟨b,o,none⟩)] w λe w'=>e=.returned (Bod (D1 r).1)/\RD w' b o t (D1 r).2/\Hm w w' b o 2:=by
  have mixed:prog.follows Departure.mixedOrders=true:=Κ
  have Q:=Mf hS ht (w0:=[34]) (λx J=>by simp at J;omega) Δ h
  go_enter Tryz.func167,Tryz.ntmps167
  go_wp2_with (go_at_call 166;refine Q.mono ?_)
  rintro e d ⟨rfl,j,k1⟩
  cases v:Az [34] r with
  |none=>
    rw[v] at j
    go_wp2
    go_ret2
    have e:D1 r=(none,r):=by
      cases r with
      |nil=>rfl
      |cons c l=>
        have hc:c≠34:=by
          rintro rfl
          unfold Az at v
          rw[Bv (by simp[bn])] at v
          cases v
        show (if c=34 then _ else (none,c::l))=_
        rw[Bd hc]
    rw[e]
    exact⟨rfl,j,k1⟩
  |some k=>
    rw[v] at j
    have R:r=34::k:=by
      unfold Az at v
      split at v
      · rename_i hp
        obtain⟨s,hs⟩:=bk.1 hp
        rw[<-hs] at v ⊢
        cases v
        rfl
      · cases v
    subst R
    have e:D1 (34::k)=Kj (k.length+1) [] k:=by
      show (if (34:Int)=34 then Kj (k.length+1) [] k else (none,34::k))=_
      exact Bv rfl
    have K:D5 t k:=hS.tail
    have h2:RD (d.alloc (.cells #[.pointer none,.slice none 0 0] 248)) b o t k:=by
      have L:Below d.heap.size d (d.alloc (.cells #[.pointer none,.slice none 0 0] 248)):=(Below.refl _ d).alloc (Cz _) _
      exact⟨Iv j.lt L.size,(L.cell (p:=⟨b,o,none⟩) j.lt).trans j.c0,(L.cell (p:=⟨b,o+1,none⟩) j.lt).trans j.c1,(L.frozen (p:=⟨b,o,none⟩) j.lt).trans j.f0,(L.frozen (p:=⟨b,o+1,none⟩) j.lt).trans j.f1⟩
    have k2:Hm w (d.alloc (.cells #[.pointer none,.slice none 0 0] 248)) b o 2:=k1.below ((Below.refl _ d).alloc (Cz _) _ |>.mono k1.size) h.lt
    have q:b<d.heap.size:=j.lt
    have z:w.heap.size<=d.heap.size:=k1.size
    go_wp2
    go_loopw [] (λwr=>∃(n:Nat) (a l:Ak),Kj (k.length+1) [] k=Kj n a l/\l.length<n/\Ch a/\a.length+4*l.length<=4*t.size/\D5 t l/\RD wr b o t l/\Hm w wr b o 2/\d.heap.size<=wr.heap.size/\Lib.IsBuilderF 248 5 d.heap.size d.heap.size (u8C a) wr) (λwr=>match wr.cell? ⟨b,o+1,none⟩ with|some (.int _ p)=>t.size-p.toNat|_=>0)
    case atStart=>
      exact⟨k.length+1,[],k,rfl,Nat.lt_succ_self _,(λx J=>by cases J),(by have:=K.len;simp;omega),K,h2,k2,((Below.refl d.heap.size d).alloc (Cz _) _).size,Lib.IsBuilderF.of (Lib.fresh_isBuilder 248 5 d)⟩
    case round=>
      obtain⟨n,a,l,i,hn,A,M,f,S,T,U,hI⟩:=hrel
      obtain⟨Ct,B,LB,C,D⟩:=S
      cases l with
      |nil=>
        rw[Si] at LB
        go_wp2
        go_region_o
        go_wp2
        go_ret2
        rw[e,i]
        obtain⟨m,rfl⟩:∃m,n=m+1:=⟨n-1,Ω⟩
        exact⟨rfl,⟨Ct,B,LB,C,D⟩,T.drew⟩
      |cons c l=>
        obtain⟨m,rfl⟩:∃m,n=m+1:=⟨n-1,Ω⟩
        obtain⟨g,N,rfl⟩:=f.at
        have V:=f.len
        have CH:Bp t ((g.toNat:Int)::l)<t.size:=by
          unfold Bp
          rw[M9] at V ⊢
          omega
        have Asj:=Kl f
        have Wc:t[Bp t ((g.toNat:Int)::l)]'(CH)=g:=by
          rw[Array.getElem?_toList,gx CH] at N
          exact Option.some.inj N
        have hcb:=g.toNat_lt
        generalize hp:Bp t ((g.toNat:Int)::l)=p at *
        have Bxk:(p:Int)<t.size:=Ω
        have P:Hm wr (wr.setCell ⟨b,o+1,none⟩ (.int .i64 ((p:Int)+1))).drew.drew b o 2:=((Hm.setCell wr b o 2 (o+1) _ Ω Ω Ct).drew).drew
        have Hn:=T.trans P
        have E:=SA hI P q
        have Aiv:RD (wr.setCell ⟨b,o+1,none⟩ (.int .i64 ((p:Int)+1))).drew.drew b o t l:=by
          refine⟨Iv Ct P.size,?_,?_,?_,?_⟩
          · exact (mq _ _ _ _ (by intro e;injection e;omega)).trans B
          · have:(Bp t l:Int)=(p:Int)+1:=Ω
            rw[this]
            exact World.cell?_setCell_same _ _ _ LB
          · exact (mr _ _ _ _).trans C
          · exact (mr _ _ _ _).trans D
        have A51:d.heap.size<=(wr.setCell ⟨b,o+1,none⟩ (.int .i64 ((p:Int)+1))).drew.drew.heap.size:=jl U P.size
        have W:Kj (m+1) a ((g.toNat:Int)::l)=if (g.toNat:Int)<32 then (none,(g.toNat:Int)::l) else if (g.toNat:Int)=34 then (some a,l) else if (g.toNat:Int)=92 then
            (match O6 l with
             |(some x,r')=>Kj m (a++b6 x) r'
             |(none,r')=>(none,r')) else Kj m (a++[(g.toNat:Int)]) l:=rfl
        rw[W] at i
        have Bsz:(u8C a).length+4<=140737488355328:=by
          rw[zv]
          omega
        by_cases Aut:(g.toNat:Int)<32
        · rw[Bv Aut] at i
          go_wp2
          go_region_o
          go_wp2
          go_region_o
          go_wp2
          go_ret2
          rw[e,i]
          exact⟨rfl,⟨Ct,B,by rw[hp];exact LB,C,D⟩,T.drew.drew⟩
        · rw[Bd Aut] at i
          by_cases Bhi:(g.toNat:Int)=34
          · rw[Bv Bhi] at i
            go_wp2
            go_region_o
            go_wp2
            go_region_o
            go_wp2_with (go_at_call 182;refine (Any.Builder_String_any_k Ark Ahe d.heap.size d.heap.size (a.map λn=>n.toNat.toUInt8) _ (by rw[<-Aeq A];exact E) A51).mono ?_)
            rintro e2 W3 ⟨rfl,_,H,_⟩
            go_wp2
            go_ret2
            rw[e,i]
            exact⟨rfl,Aiv.below H q,Hn.below (H.mono z) h.lt⟩
          · rw[Bd Bhi] at i
            by_cases Bi8:(g.toNat:Int)=92
            · rw[Bv Bi8] at i
              have Fp:=Avn f.tail ht Aiv
              go_wp2
              go_region_o
              go_wp2
              go_region_o
              go_wp2_with (go_at_call 183;refine Fp.mono ?_)
              rintro e2 W3 ⟨rfl,Axe,X⟩
              have Tl:=Hn.trans X
              have Y:=SA E X q
              have Bgt:=jl A51 X.size
              have G:=Alu (l:=l) f.tail.B
              have FZ:=BU f.tail
              rcases O:O6 l with⟨oe,le⟩
              rw[O] at Axe i G FZ
              cases oe with
              |none=>
                go_wp2
                go_ret2
                rw[e,i]
                exact⟨rfl,Axe,Tl⟩
              |some x=>
                have Tn:=Aln O
                go_wp2_with (go_at_call 184;refine (Any.Builder_WriteRune_k Arr Ahe d.heap.size d.heap.size _ x Ω Ω _ Y Ω Bgt).mono ?_)
                rintro e3 W4 ⟨rfl,i4,Z,_⟩
                go_wp2
                have Bip:=Axe.below Z q
                have hrl:=Lib.encodeRuneZ_length x
                refine⟨⟨m,a++b6 x,le,i,by simp at hn G;omega,Rh A (λy hy=>by have:=Lib.encodeRuneZ_byte x y hy;omega),by simp at M G ⊢;omega,FZ,Bip,Tl.below (Z.mono z) h.lt,jl Bgt Z.size,by rw[At7];exact Or.inr i4⟩,?_⟩
                have JJ:=FZ.len
                have hp3:Bp t l<=Bp t le:=by unfold Bp;omega
                have hp4:Bp t le<=t.size:=Nat.sub_le _ _
                simp only[Bip.c1,LB,Hy]
                omega
            · rw[Bd Bi8] at i
              go_wp2
              go_region_o
              go_wp2
              go_region_o
              go_wp2_with (go_at_call 185;refine (Any.Builder_WriteByte_k Arn Ahe d.heap.size d.heap.size _ _ _ E Ω A51).mono ?_)
              rintro e2 W3 ⟨rfl,i3,H,_⟩
              go_wp2
              have Axe:=Aiv.below H q
              refine⟨⟨m,a++[(g.toNat:Int)],l,i,by simp at hn;omega,Rh A (λx J=>by simp at J;omega),by simp at M ⊢;omega,f.tail,Axe,Hn.below (H.mono z) h.lt,jl A51 H.size,by rw[At7];exact Or.inr i3⟩,?_⟩
              simp only[Axe.c1,LB,Hy]
              omega
end
section
open Go Go.RowKit
theorem ZX{t:ByteArray}:∀(n:Nat)(a l:Ak),D5 t l->D5 t (Kj n a l).2
  |0,_,_,h=>h
  |_+1,_,[],h=>h
  |n+1,a,c::l,h=>by
    have e:Kj (n+1) a (c::l)=if c<32 then (none,c::l) else if c=34 then (some a,l) else if c=92 then
        (match O6 l with
         |(some x,r')=>Kj n (a++b6 x) r'
         |(none,r')=>(none,r')) else Kj n (a++[c]) l:=rfl
    rw[e]
    split
    · exact h
    split
    · exact h.tail
    split
    · have b:=BU h.tail
      rcases d:O6 l with⟨o,r⟩
      rw[d] at b
      cases o with
      |none=>exact b
      |some x=>exact ZX n _ r b
    · exact ZX n _ l h.tail
theorem H8(h:D5 t l):D5 t (D1 l).2:=by
 cases l with
 |nil=>exact h
 |cons c l=>
  have e:D1 (c::l)=if c=34 then Kj (l.length+1) [] l else (none,c::l):=rfl
  rw[e];split
  ·exact ZX _ _ _ h.tail
  ·exact h
theorem Azl{bt:QW}{f:List Value}{us:List Value}{a:Value}(hi:Ins w Y bt [.pbox (vs.map .sc)] us)(g:bt 0 0=some (b,o))(d:Hm w w' b o vs.length)(m:f.length=vs.length)(p:∀j v,f[j]?=some v->w'.cell? ⟨b,o+j,none⟩=some v)(q:∀j,j<vs.length->w'.frozen? ⟨b,o+j,none⟩=false):
  Out w w' Y bt [.pbox (vs.map .sc)] (λ_=>none) ⟨[.sc a,.sc c],[f.map .sc]⟩ [a,c] where
 os:=d.os
 tape:=d.tape
 output:=d.output
 ext:=⟨d.size,λk h r=>d.other k h (λe=>r (by rw[e];exact⟨0,0,o,g⟩)),λk h=>by
  by_cases e:k=b
  ·rw[e];exact d.grow
  ·exact Kk.same (d.other k h e)⟩
 rng:=λk j h s=>by
  by_cases e:k=b
  ·subst e
   have n:j<o\/o+vs.length<=j:=by
    rcases Kp j o with i|i
    ·exact .inl i
    ·rcases Kp j (o+vs.length) with l|l
     ·exact absurd ⟨0,_,rfl,.inr ⟨o,vs.map .sc,g,i,.inl ⟨rfl,by rw[zv];exact l⟩⟩⟩ s
     ·exact .inr l
   exact⟨d.cells j n,d.frz j n⟩
  ·have:=d.other k h e;exact⟨by unfold jy;simp only[this],by unfold ju;simp only[this]⟩
 vals:=⟨A7.sc a,A7.sc c,trivial⟩
 outs:=⟨⟨b,o,g,by rw[zv,zv,m],f,JI,p,λk h=>q k (by rw[zv,m] at h;exact h)⟩,rfl⟩
 fresh:=λj b o h=>by cases h
 inj:=λj t b o x h=>by cases h
theorem Auo(G:MD)(args:Ae)(d:A3)(h:A0z args=some d):Ep G prog 167 args d:=by
 refine⟨⟨_,Tryz.func167,Κ⟩,λw Y bt us hi _ _=>?_⟩;unfold A0z at h;split at h
 rotate_left
 ·cases h
 rename_i t p;cases i:(decide (0<=p)&&decide (p<=t.size)&&jg t.size 1000000)
 ·rw[i] at h;cases h
 rw[i,cond_true] at h;simp only[Gh,JT] at i;obtain⟨⟨l,Fs⟩,m⟩:=i;have m:=Vc m;obtain⟨p,rfl⟩:=g8 l;rw[Hy] at h;have q:D5 t ((Cp t).drop p):=(D5.all t).drop p
 have Akr:(Bp t ((Cp t).drop p):Int)=(p:Int):=by
  unfold Bp;rw[yr,Cj];omega
 have ps:=hi.args
 match us,ps with
 |[u1],ps=>
  obtain⟨b,o,r,rfl,_,vs,EF,Fc,f⟩:=ps.1;have Ox:=JW (vs:=[.string t,.int .i64 (p:Int)]) EF;subst Ox;have n:RD w b o t ((Cp t).drop p):=⟨hi.lt b ⟨0,0,o,r⟩,Fc 0 _ rfl,by rw[Akr];exact Fc 1 _ rfl,f 0 (wt _),f 1 (wv (wt _))⟩
  refine (Alz q m n).mono ?_
  rintro e w' ⟨rfl,Aiv,y⟩
  rcases x:D1 ((Cp t).drop p) with⟨z,k⟩;rw[x] at h Aiv
  have A:k.length<=t.size:=by
   have:=H8 q;rw[x] at this;exact this.len
  have Bi2:(Bp t k:Int)=(t.size:Int)-k.length:=by
   unfold Bp;omega
  have XK:∀a c:Value,Out w w' Y bt [.pbox ([Value.string t,.int .i64 (p:Int)].map .sc)] (λ_=>none) ⟨[.sc a,.sc c],[[Value.string t,.int .i64 ((t.size:Int)-k.length)].map .sc]⟩ [a,c]:=by
   intro a c;refine Azl hi r y rfl ?_ ?_
   ·intro j v g
    match j,g with
    |0,g=>cases g;exact Aiv.c0
    |1,g=>cases g;rw[<-Bi2];exact Aiv.c1
   ·intro j B
    match j,B with
    |0,_=>exact Aiv.f0
    |1,_=>exact Aiv.f1
  cases z with
  |none=>
   cases h;exact⟨[.string ⟨#[]⟩,.bool false],λ_=>none,rfl,XK _ _⟩
  |some s=>
   cases h;exact⟨[.string (Ab s),.bool true],λ_=>none,rfl,XK _ _⟩
 |[],ps=>exact ps.elim
 |_::_::_,ps=>exact ps.2.elim
end
section
open Go Go.RowKit Go.Shelf
attribute [local go_sem] Oper.semAt_some
abbrev Bw:=(Int × Int) × Nat
abbrev bwE(x:Bw):Array Value:= #[.int .i64 (x.2:Int),.agg #[.int .i64 x.1.1,.int .i64 x.1.2]]
def bwF(a:List (Int × Int))(m:Nat):List Bw:=(a.zipIdx.drop m).reverse
theorem Al8{m:Nat}{p:Int × Int}(h:a[m]?=some p):bwF a m=bwF a (m+1)++[(p,m)]:=by obtain⟨b,rfl⟩:=bo.1 h;unfold bwF;rw[List.drop_eq_getElem_cons (by simpa using b)];simp
theorem A8i(a:List (Int × Int)):bwF a a.length=[]:=by simp[bwF]
theorem A72(a:List (Int × Int))(m:Nat):(bwF a m).length=a.length-m:=by simp[bwF]
theorem Asa(a:List (Int × Int))(m:Nat):(bwF a m).map (·.1)=(a.drop m).reverse:=by simp[bwF,List.map_reverse,bh]
def Aiq(n₀:Nat)(W:World)(c:Value)(a:List (Int × Int)):Prop:=
 (∃ad q,c=.slice ad 0 q/\a=[])\/∃b off cap,c=.slice (some ⟨b,off,none⟩) a.length cap/\b<n₀/\∀j p,a[j]?=some p->W.cell? ⟨b,off+j*2,none⟩=some (.int .i64 p.1)/\W.cell? ⟨b,off+j*2+1,none⟩=some (.int .i64 p.2)
theorem Aiq.below{n₀:Nat}{A B:World}(h:Below n₀ A B):Aiq n₀ A c d->Aiq n₀ B c d
 |.inl e=>.inl e
 |.inr ⟨b,off,cap,e,a,f⟩=>.inr ⟨b,off,cap,e,a,λj p hp=>⟨(h.cell (p:=⟨b,off+j*2,none⟩) a).trans (f j p hp).1,(h.cell (p:=⟨b,off+j*2+1,none⟩) a).trans (f j p hp).2⟩⟩
theorem Aiq.up{a:Value}{c:List (Int × Int)}:Aiq n W a c->Aiq (n+2) W a c
 |.inl e=>.inl e
 |.inr ⟨b,off,cap,e,d,f⟩=>.inr ⟨b,off,cap,e,Nat.lt_add_right 2 d,f⟩
set_option maxHeartbeats 4000000 in
theorem Bdm(m l Bs n₀ b off cap:Nat)(a:List (Int × Int))(C:a.length<=1000)(q:b<n₀)(J Jx:List Bw->World->Prop)(s:∀pre x W,J pre W->pre.length<a.length->YieldAt Fence.wide (m-1) prog l (bwE x) W λe d=>
   (e=.returned (.bool true)/\J (pre++[x]) d/\Below n₀ W d)\/(e=.returned (.bool false)/\Jx (pre++[x]) d))(W:World)(g:W.cell? ⟨Bs,0,none⟩=some (.slice (some ⟨b,off,none⟩) a.length cap))(t:∀j p,a[j]?=some p->W.cell? ⟨b,off+j*2,none⟩=some (.int .i64 p.1)/\W.cell? ⟨b,off+j*2+1,none⟩=some (.int .i64 p.2))(n:Bs<n₀)(w:J [] W):
  CallsIn Fence.wide m prog 136 #[.func (.yield l) #[] #[],.pointer (some ⟨Bs,0,none⟩)] W λe d=>(∃v,e=.returned v) /\
   ((∃r,r=bwF a 0/\J r d)\/(∃pre,(∃k,pre=bwF a k)/\Jx pre d)):=by
 refine callsIn_of_wp Tryz.func136 rfl trivial ?_ rfl;simp only[Tryz.ntmps136,kc,M9,SO,Nat.reduceAdd,Nat.reduceSub,mh,mi,bp,bq,SJ,Zzp]
 gi_wp2
 gi_loopw [3] (λi wr=>∃k:Nat,k<=a.length/\i=.int .i64 ((k:Int)-1)/\J (bwF a k) wr/\Below n₀ W wr) (λi _=>(intOf i+1).toNat)
 case atStart=>exact⟨a.length,Cz _,rfl,by rw[A8i];exact w,Below.refl _ _⟩
 case round=>
  obtain⟨k,D,rfl,f,c⟩:=hrel;cases k with
  |zero=>
   gi_wp2
   go_end0
   exact⟨⟨_,rfl⟩,.inl ⟨_,rfl,f⟩⟩
  |succ k=>
   obtain⟨p,hp⟩:∃p,a[k]?=some p:=⟨_,zd Ω⟩
   obtain⟨c1,c2⟩:=t k p hp;have y:=(c.cell (p:=⟨b,off+k*2,none⟩) q).trans c1;have z:=(c.cell (p:=⟨b,off+k*2+1,none⟩) q).trans c2;have A:=(c.cell (p:=⟨Bs,0,none⟩) n).trans g;obtain⟨E,tmps,assign,body,G,B⟩:=s _ (p,k) wr f (by rw[A72];omega)
   rw[show (((k+1:Nat):Int)-1)=(k:Int) by omega]
   gi_wp2
   refine⟨λh=>(by cases h),B.mono ?_⟩
   rintro e H (⟨rfl,o,Tl⟩|⟨rfl,Bp4⟩)
   ·gi_wp2
    go_roundw
    case rel=>exact⟨k,Ω,rfl,by rw[Al8 hp];exact o,c.trans Tl⟩
    case measure=>simp[intOf]
   ·gi_wp2
    refine bodyPost_ret (results_none rfl _ _ _) rfl ?_;exact⟨⟨_,rfl⟩,.inr ⟨_,⟨k,(Al8 hp).symm⟩,Bp4⟩⟩
set_option maxHeartbeats 2000000 in
theorem Bd6{m l B q:Nat}{ad:Option Addr}{J:World->Prop}(d:W.cell? ⟨B,0,none⟩=some (.slice ad 0 q))(a:J W):CallsIn Fence.wide m prog 136 #[.func (.yield l) #[] #[],.pointer (some ⟨B,0,none⟩)] W λe b=>(∃v,e=.returned v)/\J b:=by
 refine callsIn_of_wp Tryz.func136 rfl trivial ?_ rfl;simp only[Tryz.ntmps136,kc,M9,SO,Nat.reduceAdd,Nat.reduceSub,mh,mi,bp,bq,SJ,Zzp]
 gi_wp2
 gi_loopw [3] (λi wr=>i=.int .i64 (-1)/\J wr) (λ_ _=>0)
 case atStart=>exact⟨rfl,a⟩
 case round=>
  obtain⟨rfl,c⟩:=hrel
  gi_wp2
  go_end0
  exact⟨⟨_,rfl⟩,c⟩
theorem A1w(m Bs n₀:Nat)(f:Value)(a:List (Int × Int))(j:a.length<=1000)(w:World)(c:Bs<n₀)(d:n₀<=w.heap.size)(n:w.cell? ⟨Bs,0,none⟩=some f)(o:Aiq n₀ w f a):
  SeqStopsK Fence.wide m prog 136 #[.pointer (some ⟨Bs,0,none⟩)] bwE (Below n₀) (λr=>r=bwF a 0) (λpre=>∃k,pre=bwF a k) a.length w:=λl J Jx W g _ _ s h=>by
 have i:=(g.cell (p:=⟨Bs,0,none⟩) (by show Bs<_;omega)).trans n
 rcases o.below (g.mono d) with⟨ad,q,rfl,rfl⟩|⟨b,off,cap,rfl,t,EF⟩
 ·exact (Bd6 (J:=J []) i h).mono λe y ⟨v,x⟩=>⟨v,.inl ⟨_,rfl,x⟩⟩
 ·exact Bdm m l Bs n₀ b off cap a j t J Jx s W i EF c h
set_option maxHeartbeats 2000000 in
theorem A8p(ad:Option Addr)(m:Nat)(w:World)(k q:Nat):CallsIn Fence.wide m prog 104 #[.slice ad k q] w λe w'=>
  e=.returned (.func (.func 136) #[] #[.pointer (some ⟨w.heap.size,0,none⟩)])/\w'=w.alloc (.cells #[.slice ad k q] 91):=by
 refine callsIn_of_wp Tryz.func104 rfl trivial ?_ rfl;simp only[Tryz.ntmps104,kc,M9,SO,Nat.reduceAdd,Nat.reduceSub,mh,mi,bp,bq,SJ,Zzp]
 gi_wp2
 go_ret
 exact⟨rfl,rfl⟩
theorem Aoc(h:∀x∈bwF a 0,now<x.1.2):Zv now a=0:=by
 unfold Zv
 have:a.reverse.find? (λp=>decide (p.2<=now))=none:=by
  rw[br];intro p hp;have e:=Asa a 0;rw[Jo] at e;rw[<-e] at hp;obtain⟨x,b,rfl⟩:=kl.1 hp;have:=h x b;simp only[JT];omega
 rw[this]
theorem An8{b:List (Int × Int)}{k:Nat}{a:List Bw}{x:Bw}(e:bwF b k=a++[x])(h:∀y∈a,now<y.1.2)(d:x.1.2<=now):Zv now b=x.1.1:=by
 unfold Zv;have c:=congrArg (bb (·.1)) e;rw[Asa] at c
 have f:b.reverse=(a.map (·.1)++[x.1])++(b.take k).reverse:=by
  rw[<-bf k b,List.reverse_append,c];simp
 have g:(a.map (·.1)).find? (λp=>decide (p.2<=now))=none:=by
  rw[br];intro p hp;obtain⟨y,i,rfl⟩:=kl.1 hp;have:=h y i;simp only[JT];omega
 rw[f,bu,bu,g];simp[d]
set_option maxHeartbeats 8000000 in
theorem Bcv{v i lf model:Int}{b1 b2 b3:Option Addr}{n1 n2 n3 k1 R S:Nat}{O:List (Int × Int)}(Z:O.length<=1000)(T:∀W,Below w.heap.size w W->Calls prog 103 #[.agg #[.int .i64 v,.int .i64 i,.int .i64 x,.slice b1 n1 k1,.int .i64 lf,.slice b2 n2 R,.slice b3 n3 S],.int .u64 model] W λe U=>
   ∃k a m q d f g b,e=.returned (.tuple #[.agg #[.int .u64 k,.slice a m q,.slice d f g],.bool b])/\Below W.heap.size W U/\Aiq U.heap.size U (.slice d f g) O):
  Calls prog 59 #[.agg #[.int .i64 v,.int .i64 i,.int .i64 x,.slice b1 n1 k1,.int .i64 lf,.slice b2 n2 R,.slice b3 n3 S],.int .u64 model,.int .i64 now] w λe w'=>e=.returned (.int .i64 (Zv now O))/\Below w.heap.size w w':=by
 refine callsIn_wide.1 (callsIn_of_wp_marks (F:=Fence.wide) (n:=3) Tryz.func59 rfl trivial ?_ rfl);simp only[Tryz.ntmps59,kc,M9,SO,Nat.reduceAdd,Nat.reduceSub,mh,mi,bp,bq,SJ,Zzp]
 gi_wp2_with ((try refine⟨trivial,?_⟩);first|(refine (callsIn_wide.2 (T _ (by go_grown))).mono ?_;rintro e w' ⟨k,a,m,q,d,f,g,b,rfl,M,j⟩)|(refine (A8p _ _ _ _ _).mono ?_;rintro e w'' ⟨rfl,rfl⟩))
 have P:w'.cell? ⟨w.heap.size+1,0,none⟩=some (.int .i64 now):=(M.cell Ψ).trans (by go_simp);have C:w'.cell? ⟨w.heap.size+1+1,0,none⟩=some (.int .i64 0):=(M.cell Ψ).trans (by go_simp);have Q:w'.frozen? ⟨w.heap.size+1+1,0,none⟩=false:=(M.frozen Ψ).trans (by go_simp);have hz:w.heap.size+3<=w'.heap.size:=by have:=M.size;simp at this;omega
 have G2:Below w.heap.size w w':=(show Below w.heap.size w _ by go_grown).trans (M.mono (by simp;omega))
 have Ke:Below w'.heap.size w' ((w'.alloc (Obj.cells #[Value.int IntKind.u64 k,Value.slice a m q,Value.slice d f g] 93)).alloc (Obj.cells #[Value.slice d f g] 91)):=by go_grown
 have KU:((w'.alloc (Obj.cells #[Value.int IntKind.u64 k,Value.slice a m q,Value.slice d f g] 93)).alloc (Obj.cells #[Value.slice d f g] 91)).cell? ⟨w'.heap.size+1,0,none⟩=some (.slice d f g):=by go_simp
 have SN:((w'.alloc (Obj.cells #[Value.int IntKind.u64 k,Value.slice a m q,Value.slice d f g] 93)).alloc (Obj.cells #[Value.slice d f g] 91)).heap.size=w'.heap.size+2:=Ψ
 generalize (w'.alloc (Obj.cells #[Value.int IntKind.u64 k,Value.slice a m q,Value.slice d f g] 93)).alloc (Obj.cells #[Value.slice d f g] 91)=W0 at Ke KU SN ⊢;generalize Value.tuple #[Value.agg #[Value.int IntKind.u64 k,Value.slice a m q,Value.slice d f g],Value.bool b]=tv;generalize Value.agg #[Value.int IntKind.u64 k,Value.slice a m q,Value.slice d f g]=xv;generalize Value.agg #[Value.int IntKind.i64 v,Value.int IntKind.i64 i,Value.int IntKind.i64 x,Value.slice b1 n1 k1,Value.int IntKind.i64 lf,Value.slice b2 n2 R,Value.slice b3 n3 S]=mv
 refine wpIn_rangeFunc_ownH rfl Ω (gf:=136) (lb:= #[.pointer (some ⟨w'.heap.size+1,0,none⟩)]) rfl trivial (enters_of Tryz.func136 Κ rfl)
  (A1w 2 (w'.heap.size+1) (w'.heap.size+2) (.slice d f g) O Z W0 Ω Ω KU (j.below Ke).up) belowK_t (belowK_b Ω) (Below.refl _ _) (λ_=>rfl)
  (λh W=>((∀x∈h,now<x.1.2)/\w'.heap.size+2<=W.heap.size/\W.cell? ⟨w.heap.size+1,0,none⟩=some (.int .i64 now)/\W.cell? ⟨w.heap.size+1+1,0,none⟩=some (.int .i64 0)/\W.frozen? ⟨w.heap.size+1+1,0,none⟩=false)/\Below w.heap.size w W)
  (λc h W=>(c=.ret/\∃o x,h=o++[x]/\(∀y∈o,now<y.1.2)/\x.1.2<=now/\W.cell? ⟨w.heap.size+1+1,0,none⟩=some (.int .i64 x.1.1))/\Below w.heap.size w W)
  (OwnFrom.and (Own.from (λs A B row j t E=>⟨j.1,jl j.2.1 t.size,cell_kept j.2.2.1 t E,cell_kept j.2.2.2.1 t E,(frozen_kept j.2.2.2.1 t E).trans j.2.2.2.2⟩) _) (ownFrom_below (Cz _) Ω))
  (λc=>OwnFrom.and (Own.from (λs A B row j t E=>by obtain⟨hc,o,x,V,X,Y,e4⟩:=j;exact⟨hc,o,x,V,X,Y,cell_kept e4 t E⟩) _) (ownFrom_below (Cz _) Ω))
  ⟨⟨Ψ,Ω,(Ke.cell (by show w.heap.size+1<_;omega)).trans P,(Ke.cell (by show w.heap.size+1+1<_;omega)).trans C,(Ke.frozen (by show w.heap.size+1+1<_;omega)).trans Q⟩,G2.trans (Ke.mono Ω)⟩
  (λx c W=>∃B,c={ tmps:= #[mv,.int .u64 model,.int .i64 now,.pointer (some ⟨w.heap.size,0,none⟩),undef,.pointer (some ⟨w.heap.size+1,0,none⟩),.pointer (some ⟨w.heap.size+1+1,0,none⟩),.pointer (some ⟨w'.heap.size,0,none⟩),.bool b,undef,.pointer (some ⟨B,0,none⟩),tv,mv,.int .u64 model,tv,xv,.bool b,.pointer (some ⟨w'.heap.size,2,none⟩),.slice d f g,.func (.func 136) #[] #[.pointer (some ⟨w'.heap.size+1,0,none⟩)],.int .i64 (x.2:Int),.agg #[.int .i64 x.1.1,.int .i64 x.1.2],undef,undef,undef,undef,undef,undef],defers:=[] }/\W.cell? ⟨B,0,none⟩=some (.int .i64 x.1.1)/\W.cell? ⟨B,1,none⟩=some (.int .i64 x.1.2))
  (λx c=>Own.from (λs A B row j t E=>by obtain⟨b,e,h1,h2⟩:=j;exact⟨b,e,cell_kept h1 t E,cell_kept h2 t E⟩) _) ?assign ?body ?done ?stop
 case assign=>
  intro l h x W K z G
  gi_wp2
  exact G _ _ ((KeepsOthers.alloc W _).from _) ((Below.refl _ W).alloc z.1.2.1 _) ⟨⟨z.1.1,by simp;have:=z.1.2.1;omega,cell_kept z.1.2.2.1 (mu W _ none) (λr e=>by cases e),cell_kept z.1.2.2.2.1 (mu W _ none) (λr e=>by cases e),(frozen_kept z.1.2.2.2.1 (mu W _ none) (λr e=>by cases e)).trans z.1.2.2.2.2⟩,z.2.alloc (by have:=z.2.size;omega) _⟩ ⟨W.heap.size,rfl,by go_simp,by go_simp⟩
 case body=>
  rintro l h x c W Z _ ⟨⟨hp,N,P,C,Q⟩,L⟩ ⟨B,rfl,h1,h2⟩ _
  gi_wp2
  ·exact⟨(KeepsOthers.setCell _ _ _).from _,⟨rfl,h,x,rfl,hp,(by assumption),mw _ _ _ (by rw[C];rfl)⟩,L.setCell (p:=⟨w.heap.size+1+1,0,none⟩) (by show _<=w.heap.size+1+1;omega) _⟩
  ·have hx:now<x.1.2:=(by assumption)
   exact⟨KeepsFrom.refl _ _,Below.refl _ _,⟨λp Ek=>(B8.1 Ek).elim (hp p) (λe=>by simp at e;subst e;exact hx),N,P,C,Q⟩,L⟩
 case done=>
  rintro D ys W hD rfl ⟨⟨hp,N,P,C,Q⟩,L⟩ G
  gi_wp2
  have H:=(KeepsOthers.setCell W ⟨w.heap.size+1+1,0,none⟩ (.int .i64 0)).same _ _ G rfl;refine⟨Ψ,.inl ⟨_,_,rfl,run_takeDeferred H,?_⟩⟩;have J:=cell_kept (mw W ⟨w.heap.size+1+1,0,none⟩ (.int .i64 0) (by rw[C];rfl)) (grownBy_putObj' _ D (.deferred none)) (λr e=>by cases e;exact⟨_,H,rfl⟩)
  refine⟨.int .i64 0,?_,by rw[Aoc hp],(L.setCell (by show _<=w.heap.size+1+1;omega) _).trans (belowK_b (w:=w) (Cz _) _ _ _ _ Ω H rfl rfl)⟩
  simp[results,Tryz.f59,go_sem,J]
 case stop=>
  rintro D c h W hD ⟨k,rfl⟩ ⟨⟨rfl,o,x,V,X,Y,C⟩,L⟩ G
  gi_wp2
  refine⟨Ψ,.inl ⟨_,_,rfl,run_takeDeferred G,?_⟩⟩;have J:=cell_kept C (grownBy_putObj' _ D (.deferred none)) (λr e=>by cases e;exact⟨_,G,rfl⟩)
  refine⟨.int .i64 x.1.1,?_,by rw[An8 V X Y],L.trans (belowK_b (w:=w) (Cz _) W D _ _ Ω G rfl rfl)⟩;simp[results,Tryz.f59,go_sem,J]
theorem GH{es:Nat}{c:Ae}(h:A7 w S (.lst false es n c) v):∃p m k,v=.slice p m k:=by cases h<;>exact⟨_,_,_,rfl⟩
theorem Bhe(h:A7 w S (.lst false 2 d.length (MR d)) v):Aiq w.heap.size w v d:=by
 generalize i:d.length=n at h;generalize r:MR d=c at h;cases h with
 |lnil=>exact .inl ⟨_,_,rfl,bd.1 i⟩
 |lemp=>exact .inl ⟨_,_,rfl,bd.1 i⟩
 |lst _ _ _ a cap f t y E JB Sf G z=>
  subst i r;obtain⟨b,o,s⟩:=a;obtain rfl:s=none:=t;refine .inr ⟨b,o,cap,rfl,y,λj p hp=>?_⟩;obtain⟨A,B⟩:=A3a hp;have H:=(bo.1 hp).1;have L:=Ad4 d
  have g:∀{k:Nat} {x:Int},(MR d).getD k .top=Av x->k<(MR d).length->w.cell? ⟨b,o+k,none⟩=some (.int .i64 x):=λ{k x} e l=>by
   have m:(MR d)[k]?=some (Av x):=by rw[zj,zd l,Option.getD_some] at e;rw[zd l,e]
   have C:=z k _ m;have D:=A7.val C;have q:=Sf k _ m;rw[E1,D] at q;exact q
  exact⟨g A Ω,g B Ω⟩
theorem Ap7{G:MD}{r:A3}(h:As9 args=some r):Ep G prog 59 args r:=by
 unfold As9 at h;split at h
 rotate_left
 ·cases h
 rename_i v i x n c lf n1 c1 n2 c2 model o;cases f:(Nat.beq c.length (n*3)&&jg n 1000)
 ·rw[f,cond_false] at h;cases h
 rw[f,cond_true] at h;simp only[Gh] at f;cases t:DR c with
 |none=>rw[t] at h;cases h
 |some es=>
  rw[t] at h;simp only at h;cases hp:U9 (Aw4 model es) with
  |none=>rw[hp] at h;cases h
  |some l=>
   rw[hp] at h;cases h;obtain⟨rfl,J⟩:=Alr t;have hl:(MH es).length=es.length*3:=TZ En.cells_len es;have O:n=es.length:=by have:=Ed f.1;omega
   subst O;have Bg6:=Vc f.2;obtain⟨K,el⟩:=Bb2 (I:=noR) (u:=2000) (d:=5) (es:=es) Bg6 Ω J v i x lf model n1 n2 c1 c2;have Axi:=Av5 (model:=model) J;have g:(Z8 model es).st=MR l:=(A0p model es).trans (Ahw hp);generalize Z8 model es=E at el Axi g
   have z:E.ns=l.length:=by
    have A:=Axi.2.1;rw[g,Ad4] at A;omega
   have B:l.length<=1000:=by have:=Axi.2.2.2;omega
   have S:=L7 ngR mxR (C:=CX noR) (G:=GR) A3k _ _ _ _ el;refine⟨⟨_,Tryz.func59,Κ⟩,λw Y bt us hi _ _=>?_⟩;have ps:=hi.args
   match us,ps with
   |[u0,u1,P],⟨⟨vs,e,_,Q⟩,A,R,_⟩=>
    subst e
    match vs,Q with
    |[T,U,V,v3,X,v5,v6],⟨Z,k1,k2,L,k4,M,N,_⟩=>
     obtain rfl:T=.int .i64 v:=A7.val (w:=w) Z;obtain rfl:U=.int .i64 i:=A7.val (w:=w) k1;obtain rfl:V=.int .i64 x:=A7.val (w:=w) k2;obtain⟨p3,m3,q3,rfl⟩:=GH L;obtain rfl:X=.int .i64 lf:=A7.val (w:=w) k4;obtain⟨p5,m5,q5,rfl⟩:=GH M;obtain⟨p6,m6,q6,rfl⟩:=GH N;obtain rfl:u1=.int .u64 model:=A7.val (w:=w) A.2;obtain rfl:P=.int .i64 o:=A7.val (w:=w) R.2;refine (Bcv B ?_).mono ?_
     ·intro W D;have up:∀{p:PV} {v:Value},A7 w (λb=>BtX bt b\/Y b) p v->A7 W (λ_=>False) p v:=λh=>h.step ⟨D.size,λb f _=>D.block b f,λb f=>Kk.same (D.block b f)⟩ λ_ _ h=>h.elim;refine (S.2 W (λ_=>False) Ai3 [.agg #[.int .i64 v,.int .i64 i,.int .i64 x,.slice p3 m3 q3,.int .i64 lf,.slice p5 m5 q5,.slice p6 m6 q6],.int .u64 model] (YY (λ_ h=>h.elim) ⟨⟨_,rfl,⟨trivial,.sc _⟩,⟨trivial,.sc _⟩,⟨trivial,.sc _⟩,⟨trivial,up L⟩,⟨trivial,.sc _⟩,⟨trivial,up M⟩,⟨trivial,up N⟩,trivial⟩,⟨trivial,.sc _⟩,trivial⟩) trivial (λ_ h=>h.elim)).mono ?_
      rintro e H ⟨vs,own,rfl,j⟩
      have hv:=j.vals
      match vs,hv with
      |[x0,x1],⟨⟨ys,e0,y⟩,y1,_⟩=>
       match ys,y with
       |[y0,a0,s0],⟨z0,z1,s,_⟩=>
        obtain rfl:y0=.int .u64 E.k:=A7.val (w:=H) z0;obtain⟨a,m,q,rfl⟩:=GH z1;obtain rfl:x1=.bool K:=A7.val (w:=H) y1;have s:A7 H _ (.lst false 2 E.ns E.st) s0:=s;rw[g,z] at s;have I1:=Bhe s;obtain⟨a',m',q',rfl⟩:=GH s;subst e0;exact⟨E.k,a,m,q,a',m',q',K,rfl,⟨j.os,j.tape,j.output,j.ext.size,λk hk=>j.ext.keep k hk (Yd k)⟩,I1⟩
     ·rintro e w' ⟨rfl,f⟩
      exact⟨[.int .i64 (Zv o l)],λ_=>none,rfl,AV f rfl⟩
end
section
variable {I:FuncId->Option (Ae->Option A3)}(u d:Nat)(F:An)
theorem T3(u d:Nat)(Z:ByteArray)(Y:Int):Ac (CP p) prog u (d+1) 165 [Z,.sc (.int .u8 Y)]=(λ(F:An)=>Gn .i64 (F 180 [Z,.sc (.int .u8 Y)]) λa=>A9 [a]) (Ac (CP p) prog u d):=Κ
def Ew(Z:ByteArray)(Y:Int)(X:Nat)(W:ByteArray)(V:Int):Option A3:=Hq u F 147 Tryz.f147 [.pbox [Z,Y]] [.l] X ⟨lk [(0,.ptr 64000 0)],Fb [(64000,.st [W,V])]⟩
theorem Ir(X:ByteArray)(W:Int)(V:Nat)(Y:ByteArray)(Z:Int):Ew u F X W (V+1) Y Z=(Ap (decide (Z<(↑(mm Y):Int))) (As (decide (0<=Z))<|Dq ((mf (ml Y))[Z.toNat]?) λa=>Gn .i64 (F 165 [Bg ⟨#[32,9,10,13]⟩,.sc (.int .u8 (↑(UInt8.toNat a):Int))]) λa=>Ap (decide (a>=0)) (Aa (wrap .i64 (Z+1)) λa=>Ew u F X W V Y a) (some ⟨[],[[Y,Z]]⟩)) (some ⟨[],[[Y,Z]]⟩)):=Κ
theorem Sp(u d:Nat)(Z:ByteArray)(Y:Int):Ac (CP p) prog u (d+1) 147 [.pbox [Z,Y]]=(λ(F:An)=>Ew u F Z Y u Z Y) (Ac (CP p) prog u d):=Κ
def Eg(Z:ByteArray)(Y:Int)(X:Nat)(W:Int)(V:ByteArray)(U:Int):Option A3:=Hq u F 201 Tryz.f201 [.pbox [Z,Y]] [.r,.r,.l,.l] X ⟨lk [(0,.ptr 58000 0),(3,W)],Fb [(58000,.st [V,U])]⟩
theorem H4(Y:ByteArray)(X:Int)(W:Nat)(Z:Int)(V:ByteArray)(U:Int):Eg u F Y X (W+1) Z V U=(Ao (F 186 [.pbox [V,U]]) λa b=>Bq .u8 a λa=>Ad b λb c=>Ad b λb e=>At b λb=>Bq .i64 e λe=>Ag c<|Ap (decide (a>=48)) (Ao (F 186 [.pbox [b,e]]) λa b=>Bq .u8 a λa=>Ad b λb c=>Ad b λb e=>At b λb=>Bq .i64 e λe=>Ag c<|Ap (decide (a<=57)) (Aa (wrap .i64 (e+1)) λa=>Eg u F Y X W Z b a) (some ⟨[C3 (decide (e>Z))],[[b,e]]⟩)) (some ⟨[C3 (decide (e>Z))],[[b,e]]⟩)):=Κ
theorem Rm(u d:Nat)(Y:ByteArray)(Z:Int):Ac (CP p) prog u (d+1) 201 [.pbox [Y,Z]]=(λ(F:An)=>Eg u F Y Z u Z Y Z) (Ac (CP p) prog u d):=Κ
def Eh(Z:ByteArray)(Y:Int)(X:Nat)(W:ByteArray)(V:Int):Option A3:=Hq u F 188 Tryz.f188 [.pbox [Z,Y]] [.r,.r] X ⟨lk [(0,.ptr 66000 0)],Fb [(66000,.st [W,V])]⟩
def Ef(Z:ByteArray)(Y:Int)(X:Nat)(W:ByteArray)(V:Int):Option A3:=Hq u F 188 Tryz.f188 [.pbox [Z,Y]] [.r,.r,.r] X ⟨lk [(0,.ptr 66000 0)],Fb [(66000,.st [W,V])]⟩
theorem Fo(Y:ByteArray)(X:Int)(Z:Nat)(Es:0<Z)(W:ByteArray)(V:Int):Eh u F Y X Z W V=(Ao (F 166 [.pbox [W,V],Bg ⟨#[46]⟩]) λa b=>Qa a λa=>Ad b λb c=>Ad b λb e=>At b λb=>Bq .i64 e λe=>Ag c<|Ap a (Ao (F 201 [.pbox [b,e]]) λa b=>Qa a λa=>Ad b λb c=>Ad b λb e=>At b λb=>Bq .i64 e λe=>Ag c<|Ap (!a) (some ⟨[false],[[b,e]]⟩) (Ef u F Y X u b e)) (Ef u F Y X u b e)):=by cases Z with|zero=>exact absurd Es (wo 0)|succ Z=>kernel_rfl
theorem Dd(W:ByteArray)(V:Int)(Z:Nat)(Es:0<Z)(Y:ByteArray)(X:Int):Ef u F W V Z Y X=(Ao (F 166 [.pbox [Y,X],Bg ⟨#[101]⟩]) λa b=>Qa a λa=>Ad b λb c=>Ad b λb e=>At b λb=>Bq .i64 e λe=>Ag c<|Ap a (Ao (F 166 [.pbox [b,e],Bg ⟨#[43]⟩]) λa b=>Qa a λa=>Ad b λb c=>Ad b λb e=>At b λb=>Bq .i64 e λe=>Ag c<|Ap (!a) (Ao (F 166 [.pbox [b,e],Bg ⟨#[45]⟩]) λa b=>Qa a λa=>Ad b λa b=>Ad a λa c=>At a λa=>Bq .i64 c λc=>Ag b<|Ao (F 201 [.pbox [a,c]]) λa b=>Qa a λa=>Ad b λb c=>Ad b λb e=>At b λb=>Bq .i64 e λe=>Ag c<|some ⟨[a],[[b,e]]⟩) (Ao (F 201 [.pbox [b,e]]) λa b=>Qa a λa=>Ad b λb c=>Ad b λb e=>At b λb=>Bq .i64 e λe=>Ag c<|some ⟨[a],[[b,e]]⟩)) (Ao (F 166 [.pbox [b,e],Bg ⟨#[69]⟩]) λa b=>Qa a λa=>Ad b λb c=>Ad b λb e=>At b λb=>Bq .i64 e λe=>Ag c<|Ap a (Ao (F 166 [.pbox [b,e],Bg ⟨#[43]⟩]) λa b=>Qa a λa=>Ad b λb c=>Ad b λb e=>At b λb=>Bq .i64 e λe=>Ag c<|Ap (!a) (Ao (F 166 [.pbox [b,e],Bg ⟨#[45]⟩]) λa b=>Qa a λa=>Ad b λa b=>Ad a λa c=>At a λa=>Bq .i64 c λc=>Ag b<|Ao (F 201 [.pbox [a,c]]) λa b=>Qa a λa=>Ad b λb c=>Ad b λb e=>At b λb=>Bq .i64 e λe=>Ag c<|some ⟨[a],[[b,e]]⟩) (Ao (F 201 [.pbox [b,e]]) λa b=>Qa a λa=>Ad b λb c=>Ad b λb e=>At b λb=>Bq .i64 e λe=>Ag c<|some ⟨[a],[[b,e]]⟩)) (some ⟨[true],[[b,e]]⟩))):=by cases Z with|zero=>exact absurd Es (wo 0)|succ Z=>kernel_rfl
theorem Gi(u d:Nat)(Z:ByteArray)(Y:Int):Ac (CP p) prog u (d+1) 188 [.pbox [Z,Y]]=(λ(F:An)=>Ao (F 166 [.pbox [Z,Y],Bg ⟨#[45]⟩]) λa b=>Qa a λa=>Ad b λa b=>Ad a λa c=>At a λa=>Bq .i64 c λc=>Ag b<|Ao (F 166 [.pbox [a,c],Bg ⟨#[48]⟩]) λa b=>Qa a λa=>Ad b λb c=>Ad b λb e=>At b λb=>Bq .i64 e λe=>Ag c<|Ap (!a) (Ao (F 201 [.pbox [b,e]]) λa b=>Qa a λa=>Ad b λb c=>Ad b λb e=>At b λb=>Bq .i64 e λe=>Ag c<|Ap (!a) (some ⟨[false],[[b,e]]⟩) (Eh u F Z Y u b e)) (Eh u F Z Y u b e)) (Ac (CP p) prog u d):=Κ
def Et(Z:ByteArray)(Y X:Int)(W:Nat)(V:Int)(U:ByteArray)(T:Int):Option A3:=Hq u F 187 Tryz.f187 [.pbox [Z,Y],X] [.r,.r,.r,.r,.l] W ⟨lk [(0,.ptr 64000 0),(1,V)],Fb [(64000,.st [U,T])]⟩
theorem Pi(Y:ByteArray)(X W:Int)(V:Nat)(Z:Int)(U:ByteArray)(T:Int):Et u F Y X W (V+1) Z U T=(Ao (F 168 [.pbox [U,T],Z]) λa b=>Ad a λa c=>Cr a λa=>Bu .i64 a λa e=>Ad e λa e=>At a λa=>Qa e λa=>Bq .i64 c λa=>Ad b λb c=>Ad b λb e=>At b λb=>Bq .i64 e λe=>Ag c<|Ap (a != 0) (some ⟨[a],[[b,e]]⟩) (Ao (F 147 [.pbox [b,e]]) λa b=>Ag a<|Ad b λa b=>Ad a λa c=>At a λa=>Bq .i64 c λc=>Ag b<|Ao (F 166 [.pbox [a,c],Bg ⟨#[93]⟩]) λa b=>Qa a λa=>Ad b λb c=>Ad b λb e=>At b λb=>Bq .i64 e λe=>Ag c<|Ap a (some ⟨[(0:Int)],[[b,e]]⟩) (Ao (F 166 [.pbox [b,e],Bg ⟨#[44]⟩]) λa b=>Qa a λa=>Ad b λb c=>Ad b λb e=>At b λb=>Bq .i64 e λe=>Ag c<|Ap (!a) (some ⟨[(2:Int)],[[b,e]]⟩) (Ao (F 147 [.pbox [b,e]]) λa b=>Ag a<|Ad b λa b=>Ad a λa c=>At a λa=>Bq .i64 c λc=>Ag b<|Et u F Y X W V Z a c)))):=Κ
theorem Ry(u d:Nat)(Z:ByteArray)(Y X:Int):Ac (CP p) prog u (d+1) 187 [.pbox [Z,Y],X]=(λ(F:An)=>Ao (F 166 [.pbox [Z,Y],Bg ⟨#[91]⟩]) λa b=>Qa a λa=>Ad b λb c=>Ad b λb e=>At b λb=>Bq .i64 e λe=>Ag c<|Ap (!a) (some ⟨[(2:Int)],[[b,e]]⟩) (Ao (F 147 [.pbox [b,e]]) λa b=>Ag a<|Ad b λa b=>Ad a λa c=>At a λa=>Bq .i64 c λc=>Ag b<|Ao (F 166 [.pbox [a,c],Bg ⟨#[93]⟩]) λa b=>Qa a λa=>Ad b λb c=>Ad b λb e=>At b λb=>Bq .i64 e λe=>Ag c<|Ap a (some ⟨[(0:Int)],[[b,e]]⟩) (Et u F Z Y X u X b e))) (Ac (CP p) prog u d):=Κ
def Ei(Z:ByteArray)(Y X:Int)(W:Nat)(V:Int)(U:ByteArray)(T:Int):Option A3:=Hq u F 148 Tryz.f148 [.pbox [Z,Y],X,.sc (Value.map none)] [.r,.r,.r,.r,.l] W ⟨lk [(0,.ptr 128000 0),(1,V),(2,.sc (Value.map none))],Fb [(128000,.st [U,T])]⟩
theorem Oz(Y:ByteArray)(X W:Int)(V:Nat)(Z:Int)(U:ByteArray)(T:Int):Ei u F Y X W (V+1) Z U T=(Ao (F 167 [.pbox [U,T]]) λa b=>Ad a λa c=>At a λa=>Qa c λa=>Ad b λb c=>Ad b λb e=>At b λb=>Bq .i64 e λe=>Ag c<|Ap (!a) (some ⟨[(2:Int)],[[b,e]]⟩) (Ao (F 147 [.pbox [b,e]]) λa b=>Ag a<|Ad b λa b=>Ad a λa c=>At a λa=>Bq .i64 c λc=>Ag b<|Ao (F 166 [.pbox [a,c],Bg ⟨#[58]⟩]) λa b=>Qa a λa=>Ad b λb c=>Ad b λb e=>At b λb=>Bq .i64 e λe=>Ag c<|Ap (!a) (some ⟨[(2:Int)],[[b,e]]⟩) (Ao (F 147 [.pbox [b,e]]) λa b=>Ag a<|Ad b λa b=>Ad a λa c=>At a λa=>Bq .i64 c λc=>Ag b<|Ao (F 168 [.pbox [a,c],Z]) λa b=>Ad a λa c=>Cr a λa=>Bu .i64 a λa e=>Ad e λa e=>At a λa=>Qa e λa=>Bq .i64 c λa=>Ad b λb c=>Ad b λb e=>At b λb=>Bq .i64 e λe=>Ag c<|Ap (a != 0) (some ⟨[a],[[b,e]]⟩) (Ao (F 147 [.pbox [b,e]]) λa b=>Ag a<|Ad b λa b=>Ad a λa c=>At a λa=>Bq .i64 c λc=>Ag b<|Ao (F 166 [.pbox [a,c],Bg ⟨#[125]⟩]) λa b=>Qa a λa=>Ad b λb c=>Ad b λb e=>At b λb=>Bq .i64 e λe=>Ag c<|Ap a (some ⟨[(0:Int)],[[b,e]]⟩) (Ao (F 166 [.pbox [b,e],Bg ⟨#[44]⟩]) λa b=>Qa a λa=>Ad b λb c=>Ad b λb e=>At b λb=>Bq .i64 e λe=>Ag c<|Ap (!a) (some ⟨[(2:Int)],[[b,e]]⟩) (Ao (F 147 [.pbox [b,e]]) λa b=>Ag a<|Ad b λa b=>Ad a λa c=>At a λa=>Bq .i64 c λc=>Ag b<|Ei u F Y X W V Z a c)))))):=Κ
theorem Rf(u d:Nat)(Z:ByteArray)(Y X:Int):Ac (CP p) prog u (d+1) 148 [.pbox [Z,Y],X,.sc (Value.map none)]=(λ(F:An)=>Ao (F 166 [.pbox [Z,Y],Bg ⟨#[123]⟩]) λa b=>Qa a λa=>Ad b λb c=>Ad b λb e=>At b λb=>Bq .i64 e λe=>Ag c<|Ap (!a) (some ⟨[(2:Int)],[[b,e]]⟩) (Ao (F 147 [.pbox [b,e]]) λa b=>Ag a<|Ad b λa b=>Ad a λa c=>At a λa=>Bq .i64 c λc=>Ag b<|Ao (F 166 [.pbox [a,c],Bg ⟨#[125]⟩]) λa b=>Qa a λa=>Ad b λb c=>Ad b λb e=>At b λb=>Bq .i64 e λe=>Ag c<|Ap a (some ⟨[(0:Int)],[[b,e]]⟩) (Ei u F Z Y X u X b e))) (Ac (CP p) prog u d):=Κ
theorem C9(u d:Nat)(Y:ByteArray)(X Z:Int):Ac (CP p) prog u (d+1) 168 [.pbox [Y,X],Z]=(λ(F:An)=>Ao (F 186 [.pbox [Y,X]]) λa b=>Bq .u8 a λa=>Ad b λb c=>Ad b λb e=>At b λb=>Bq .i64 e λe=>(λh:PV=>(λg:Option A3=>(λi:Option A3=>Ag c<|Ap (a==123) i (Ap (a==91) i g)) (Ap (decide (Z>8)) (some ⟨[h,(5:Int)],[[b,e]]⟩) g)) (Ap (a==123) (Aa (wrap .i64 (Z+1)) λa=>Ao (F 148 [.pbox [b,e],a,.sc (Value.map none)]) λa b=>Bq .i64 a λa=>Ad b λb c=>Ad b λb e=>At b λb=>Bq .i64 e λe=>Ag c<|some ⟨[.agg [(6:Int),Bg ⟨#[]⟩,false],a],[[b,e]]⟩) (Ap (a==91) (Aa (wrap .i64 (Z+1)) λa=>Ao (F 187 [.pbox [b,e],a]) λa b=>Bq .i64 a λa=>Ad b λb c=>Ad b λb e=>At b λb=>Bq .i64 e λe=>Ag c<|some ⟨[.agg [(5:Int),Bg ⟨#[]⟩,false],a],[[b,e]]⟩) (Ap (a==34) (Ao (F 167 [.pbox [b,e]]) λa b=>Ad a λa c=>At a λa=>Qa c λc=>Ad b λb e=>Ad b λb f=>At b λb=>Bq .i64 f λf=>Ag e<|Ap c (some ⟨[.agg [(4:Int),a,false],(0:Int)],[[b,f]]⟩) (some ⟨[h,(2:Int)],[[b,f]]⟩)) (Ao (F 166 [.pbox [b,e],Bg ⟨#[116,114,117,101]⟩]) λa b=>Qa a λa=>Ad b λb c=>Ad b λb e=>At b λb=>Bq .i64 e λe=>Ag c<|Ap a (some ⟨[.agg [(2:Int),Bg ⟨#[]⟩,true],(0:Int)],[[b,e]]⟩) (Ao (F 166 [.pbox [b,e],Bg ⟨#[102,97,108,115,101]⟩]) λa b=>Qa a λa=>Ad b λb c=>Ad b λb e=>At b λb=>Bq .i64 e λe=>Ag c<|Ap a (some ⟨[.agg [(2:Int),Bg ⟨#[]⟩,false],(0:Int)],[[b,e]]⟩) (Ao (F 166 [.pbox [b,e],Bg ⟨#[110,117,108,108]⟩]) λa b=>Qa a λa=>Ad b λb c=>Ad b λb e=>At b λb=>Bq .i64 e λe=>Ag c<|Ap a (some ⟨[.agg [(1:Int),Bg ⟨#[]⟩,false],(0:Int)],[[b,e]]⟩) (Ao (F 188 [.pbox [b,e]]) λa b=>Qa a λa=>Ad b λb c=>Ad b λb e=>At b λb=>Bq .i64 e λe=>Ag c<|Ap a (some ⟨[.agg [(3:Int),Bg ⟨#[]⟩,false],(0:Int)],[[b,e]]⟩) (some ⟨[h,(2:Int)],[[b,e]]⟩))))))))) (.agg [(0:Int),Bg ⟨#[]⟩,false])) (Ac (CP p) prog u d):=Κ
end
theorem Beu:∀n:Fin 256,decide (b7 [32,9,10,13] (n.val:Int).toNat.toUInt8>=0)=Ri (n.val:Int):=by decide +kernel
theorem Bhw{c:Int}(a:0<=c)(b:c<=255):decide (b7 [32,9,10,13] c.toNat.toUInt8>=0)=Ri c:=by obtain⟨n,rfl⟩:=g8 a;exact Beu ⟨n,Ω⟩
theorem Cd{t:ByteArray}:∀{l:Ak},D5 t l->D5 t (Aw l)
 |[],h=>h
 |c::l,h=>by
  unfold Aw;split
  ·exact Cd h.tail
  ·exact h
theorem Hr:∀(l:Ak),(Aw l).length<=l.length
 |[]=>Cz _
 |c::l=>by
  unfold Aw;split
  ·exact ww (Hr l)
  ·exact Cz _
section
variable {u d:Nat}
theorem Bhs(s:ByteArray)(c:Int):Ac C0 prog u (d+2) 165 [Bg s,.sc (.int .u8 c)]=some ⟨[Av (b7 s.data.toList c.toNat.toUInt8)],[]⟩:=by have e:Ac C0 prog u (d+1) 180 [Bg s,.sc (.int .u8 c)]=some ⟨[Av (b7 s.data.toList c.toNat.toUInt8)],[]⟩:=rfl;rw[T3];simp only[Aq,Ar,e]
theorem Af0{t s0:ByteArray}{p0:Int}(ht:t.size<=1000000):∀(r:Ak)(nn:Nat),r.length+1<=nn->D5 t r ->
  Ew u (Ac C0 prog u (d+2)) s0 p0 nn t (Bp t r:Int)=some ⟨[],[Dx t (Aw r)]⟩
 |[],nn,Es,h=>by
  obtain⟨k,rfl⟩:∃k,nn=k+1:=⟨nn-1,Ω⟩
  have e:decide ((Bp t []:Int)<(t.size:Int))=false:=by simp[Si]
  rw[Ir];simp only[Aq,Ar,e];rfl
 |c::r,nn,Es,h=>by
  obtain⟨k,rfl⟩:∃k,nn=k+1:=⟨nn-1,Ω⟩
  have m:=Af0 (s0:=s0) (p0:=p0) ht r k (by simp at Es;omega) h.tail
  have i:=h.B c Ψ;have n:=h.len;have hp:=Kl h
  have o:wrap .i64 ((Bp t (c::r):Int)+1)=(Bp t r:Int):=by
   rw[hp,wrap_i64 (by unfold Bp;omega) (by unfold Bp;omega)];omega
  have CH:Bp t (c::r)<t.size:=by
   unfold Bp;rw[M9] at n ⊢;omega
  obtain⟨b,g,rfl⟩:=h.at;have e:decide ((Bp t ((b.toNat:Int)::r):Int)<(t.size:Int))=true:=by simp;omega
  have j:decide ((0:Int)<=(Bp t ((b.toNat:Int)::r):Int))=true:=Ψ
  rw[<-Hy (Bp t ((b.toNat:Int)::r))] at g;have l:Ac C0 prog u (d+2) 165 [Bg ⟨#[32,9,10,13]⟩,.sc (.int .u8 (b.toNat:Int))]=some ⟨[Av (b7 [32,9,10,13] (b.toNat:Int).toNat.toUInt8)],[]⟩:=Bhs _ _;have a:=Bhw i.1 i.2;rw[Ir];cases f:Ri (b.toNat:Int)
  ·rw[f] at a
   have es:Aw ((b.toNat:Int)::r)=(b.toNat:Int)::r:=by
    show (if Ri _=true then _ else _)=_;rw[f];rfl
   rw[es];simp only[Aq,Ar,e,j,g,l,a]
  ·rw[f] at a
   have es:Aw ((b.toNat:Int)::r)=Aw r:=by
    show (if Ri _=true then _ else _)=_;rw[f];rfl
   rw[es];simp only[Aq,Ar,e,j,g,l,a,o,m]
theorem CK(h:D5 t r)(ht:t.size<=1000000)(Be:t.size+1<=u):Ac C0 prog u (d+3) 147 [.pbox (Dx t r)]=some ⟨[],[Dx t (Aw r)]⟩:=by rw[Sp];exact Af0 ht r u (by have:=h.len;omega) h
theorem Ae4{t:ByteArray}:∀{l:Ak},D5 t l->D5 t (Ib l)
 |[],h=>h
 |c::l,h=>by
  unfold Ib;split
  ·exact Ae4 h.tail
  ·exact h
theorem Afz:∀(l:Ak),(Ib l).length<=l.length
 |[]=>Cz _
 |c::l=>by
  unfold Ib;split
  ·exact ww (Afz l)
  ·exact Cz _
theorem Ae8{t s0:ByteArray}{p0 y0:Int}(ht:t.size<=1000000):∀(r:Ak)(nn:Nat),r.length+1<=nn->D5 t r ->
  Eg u (Ac C0 prog u (d+1)) s0 p0 nn y0 t (Bp t r:Int)=some ⟨[C3 (decide ((Bp t (Ib r):Int)>y0))],[Dx t (Ib r)]⟩
 |[],nn,Es,h=>by
  obtain⟨k,rfl⟩:∃k,nn=k+1:=⟨nn-1,Ω⟩
  have a:Ac C0 prog u (d+1) 186 [.pbox (Dx t [])]=some ⟨[.sc (.int .u8 0)],[Dx t []]⟩:=V9 (I:=xs0) h;have e:decide ((0:Int)>=48)=false:=rfl;rw[H4];simp only[Aq,Ar,a,e];rfl
 |c::r,nn,Es,h=>by
  obtain⟨k,rfl⟩:∃k,nn=k+1:=⟨nn-1,Ω⟩
  have i:=Ae8 (s0:=s0) (p0:=p0) (y0:=y0) ht r k (by simp at Es;omega) h.tail
  have m:=h.B c Ψ;have n:=h.len;have hp:=Kl h
  have j:wrap .i64 ((Bp t (c::r):Int)+1)=(Bp t r:Int):=by
   rw[hp,wrap_i64 (by unfold Bp;omega) (by unfold Bp;omega)];omega
  have a:Ac C0 prog u (d+1) 186 [.pbox (Dx t (c::r))]=some ⟨[.sc (.int .u8 c)],[Dx t (c::r)]⟩:=V9 (I:=xs0) h;have l:Ib (c::r)=if YN c=true then Ib r else c::r:=rfl
  rw[H4,l];by_cases o:48<=c
  ·have f:decide (c>=48)=true:=by simp;omega
   by_cases p:c<=57
   ·have g:decide (c<=57)=true:=by simp;omega
    have b:YN c=true:=by simp[YN];omega
    rw[Bv b];simp only[Aq,Ar,a,f,g,j,i]
   ·have g:decide (c<=57)=false:=by simp;omega
    have b:¬YN c=true:=by simp[YN];omega
    rw[Bd b];simp only[Aq,Ar,a,f,g]
  ·have f:decide (c>=48)=false:=by simp;omega
   have b:¬YN c=true:=by simp[YN];omega
   rw[Bd b];simp only[Aq,Ar,a,f]
def Bhr(t:ByteArray)(r:Ak)(o:Option Ak):A3:=⟨[C3 (o.isSome)],[Dx t (o.getD r)]⟩
theorem BI(h:D5 t r)(ht:t.size<=1000000)(Be:t.size+1<=u):Ac C0 prog u (d+2) 201 [.pbox (Dx t r)]=some (Bhr t r (Ka r)):=by
 rw[Rm];refine (Ae8 ht r u (by have:=h.len;omega) h).trans ?_
 cases r with
 |nil=>
  have e:decide ((Bp t (Ib []):Int)>(Bp t []:Int))=false:=by simp[Ib]
  rw[e];rfl
 |cons c r=>
  have a:=h.len;have hp:=Kl h;have b:Ib (c::r)=if YN c=true then Ib r else c::r:=rfl
  have f:Ka (c::r)=if YN c=true then some (Ib r) else none:=rfl
  rw[b,f];have hd:=Afz r;by_cases q:YN c=true
  ·rw[Bv q,Bv q]
   have e:decide ((Bp t (Ib r):Int)>(Bp t (c::r):Int))=true:=by
    rw[M9] at a;simp only[gt_iff_lt,JT];unfold Bp;rw[M9];omega
   rw[e];rfl
  ·rw[Bd q,Bd q];have e:decide ((Bp t (c::r):Int)>(Bp t (c::r):Int))=false:=Ψ
   rw[e];rfl
theorem Ap6(c:UInt8)(h:D5 t r)(ht:t.size<=1000000):Ac C0 prog u (d+3) 166 [.pbox (Dx t r),Bg (ByteArray.mk #[c])]=some (Bhr t r (Az [(c.toNat:Int)] r)):=by
 have f:=c.toNat_lt;have e:=HY (u:=u) (d:=d) (I:=xs0) h ht (w:=[(c.toNat:Int)]) (λx a=>by simp at a;omega) (show 1<=100 by decide)
 have b:Ab [(c.toNat:Int)]=ByteArray.mk #[c]:=by
  show ByteArray.mk #[((c.toNat:Int)).toNat.toUInt8]=_;rw[Hy];simp
 rw[b] at e;refine e.trans ?_;cases Az [(c.toNat:Int)] r<;>rfl
theorem Di(c:Int):∀r:Ak,Az [c] r=match r with|[]=>none|x::r'=>if x=c then some r' else none
 |[]=>rfl
 |x::r=>by
  unfold Az;by_cases h:x=c
  ·subst h;rw[Bv (by simp[bn])];simp
  ·rw[Bd (by simp[bn];exact λe=>h e.symm)]
   simp[h]
theorem B3{w r':Ak}(h:D5 t r)(e:Az w r=some r'):D5 t r':=by
 unfold Az at e;split at e
 ·cases e;exact h.drop _
 ·cases e
theorem AC(c:Int)(r:Ak):Aka c r=(Az [c] r).getD r:=by
 rw[Di];cases r with
 |nil=>rfl
 |cons x r=>
  show (if x=c then r else x::r)=_;split<;>simp_all
theorem JM(r:Ak):Au7 r=match Az [48] r with|some q=>some q|none=>Ka r:=by
 rw[Di];cases r with
 |nil=>rfl
 |cons x r=>
  show (if x=48 then some r else Ka (x::r))=_;by_cases h:x=48
  ·rw[Bv h];simp[h]
  ·rw[Bd h];simp[h]
theorem NP(r:Ak):RN r=match Az [46] r with|some q=>(Ka q).bind UJ|none=>UJ r:=by
 rw[Di];cases r with
 |nil=>rfl
 |cons x r=>
  show (if x=46 then (Ka r).bind UJ else UJ (x::r))=_;by_cases h:x=46
  ·rw[Bv h];simp[h]
  ·rw[Bd h];simp[h]
def UQ(r:Ak):Option Ak:=match Az [43] r with|some q=>Ka q|none=>Ka ((Az [45] r).getD r)
theorem A9a(r:Ak):(match r with|43::r'=>Ka r'|r=>Ka (Aka 45 r))=UQ r:=by
 unfold UQ;rw[Di 43,<-AC];split
 ·simp
 ·rename_i a;cases r with
  |nil=>rfl
  |cons x r=>
   by_cases h:x=43
   ·exact absurd (by rw[h]) (a r)
   ·simp[h]
theorem UL(r:Ak):UJ r=match Az [101] r with|some q=>UQ q|none=>match Az [69] r with|some q=>UQ q|none=>some r:=by
 rw[Di,Di];cases r with
 |nil=>rfl
 |cons x r=>
  have e:UJ (x::r)=if x=101\/x=69 then UQ r else some (x::r):=by
   rw[<-A9a];rfl
  rw[e];by_cases h:x=101
  ·rw[Bv (Or.inl h)];simp[h]
  ·by_cases a:x=69
   ·rw[Bv (Or.inr a)];simp[a]
   ·rw[Bd Ω];simp[h,a]
theorem Nn{r':Ak}(h:D5 t r)(e:Ka r=some r'):D5 t r':=by
 cases r with
 |nil=>cases e
 |cons c r=>
  have a:Ka (c::r)=if YN c=true then some (Ib r) else none:=rfl
  rw[a] at e;split at e
  ·cases e;exact Ae4 h.tail
  ·cases e
theorem O8{o:Option Ak}(h:D5 t r)(a:∀q,o=some q->D5 t q):D5 t (o.getD r):=by
 cases o with
 |none=>exact h
 |some q=>exact a q rfl
end
section
variable {u d:Nat}
theorem Rp(c:UInt8)(n:Int)(a:(c.toNat:Int)=n)(h:D5 t r)(ht:t.size<=1000000)(b:Az [n] r=none):Ac C0 prog u (d+3) 166 [.pbox (Dx t r),Bg (ByteArray.mk #[c])]=some ⟨[C3 false],[Dx t r]⟩:=by subst a;have e:=Ap6 (u:=u) (d:=d) c h ht;rw[b] at e;exact e
theorem J3{q:Ak}(c:UInt8)(n:Int)(a:(c.toNat:Int)=n)(h:D5 t r)(ht:t.size<=1000000)(b:Az [n] r=some q):Ac C0 prog u (d+3) 166 [.pbox (Dx t r),Bg (ByteArray.mk #[c])]=some ⟨[C3 true],[Dx t q]⟩:=by subst a;have e:=Ap6 (u:=u) (d:=d) c h ht;rw[b] at e;exact e
theorem Aia(c:UInt8)(n:Int)(a:(c.toNat:Int)=n)(h:D5 t r)(ht:t.size<=1000000):Ac C0 prog u (d+3) 166 [.pbox (Dx t r),Bg (ByteArray.mk #[c])]=some ⟨[C3 ((Az [n] r).isSome)],[Dx t ((Az [n] r).getD r)]⟩:=by subst a;exact Ap6 (u:=u) (d:=d) c h ht
theorem Bh3{t0:ByteArray}{a:Int}(h:D5 t r)(ht:t.size<=1000000)(Be:t.size+1<=u)(n:m=UJ r):∃r',D5 t r'/\Ef u (Ac C0 prog u (d+3)) t0 a u t (Bp t r)=some ⟨[C3 (m.isSome)],[Dx t r']⟩/\∀q,m=some q->r'=q:=by
 rw[UL] at n;rcases p:Az [101] r with _|j
 ·have g:=Rp (u:=u) (d:=d) 101 101 rfl h ht p;rw[p] at n;rcases s:Az [69] r with _|j
  ·have l:=Rp (u:=u) (d:=d) 69 69 rfl h ht s;have k:m=some r:=by rw[n,s]
   refine⟨r,h,?_,?_⟩
   ·rw[k,Dd (Es:=Ω)]
    repeat(with_reducible(first|apply Bk|apply A5|apply Bm|apply Bj|apply Bo|apply A4|apply Bn|apply H7);· first|constructor|(simp(disch:=omega)only[H9,g,l,Gc,Ix]<;>first|constructor|omega)|omega)
    try simp(disch:=omega)only[Aa,g,l,Gc,Ix]
    try rfl
   ·rw[k];intro q e;cases e;rfl
  ·have l:=J3 (u:=u) (d:=d) 69 69 rfl h ht s;have f:=B3 h s;rw[s] at n;simp only at n;rcases hp:Az [43] j with _|c
   ·have i:=Rp (u:=u) (d:=d) 43 43 rfl f ht hp;have Fs:=Aia (u:=u) (d:=d) 45 45 rfl f ht;have b:D5 t ((Az [45] j).getD j):=O8 f λq e=>B3 f e;have k:m=Ka ((Az [45] j).getD j):=by rw[n];unfold UQ;rw[hp]
    generalize (Az [45] j).getD j=c at Fs b k;generalize (Az [45] j).isSome=v at Fs;have o:Ac C0 prog u (d+3) 201 [.pbox (Dx t c)]=some ⟨[C3 ((Ka c).isSome)],[Dx t ((Ka c).getD c)]⟩:=BI (d:=d+1) b ht Be;refine⟨(Ka c).getD c,O8 b λq e=>Nn b e,?_,?_⟩
    ·rw[k,Dd (Es:=Ω)]
     repeat(with_reducible(first|apply Bk|apply A5|apply Bm|apply Bj|apply Bo|apply A4|apply Bn|apply H7);· first|constructor|(simp(disch:=omega)only[H9,g,l,i,Fs,o,Gc,Ix]<;>first|constructor|omega)|omega)
     try simp(disch:=omega)only[Aa,g,l,i,Fs,o,Gc,Ix]
     try rfl
    ·rw[k];intro q e;rw[e];rfl
   ·have i:=J3 (u:=u) (d:=d) 43 43 rfl f ht hp;have b:=B3 f hp;have k:m=Ka c:=by rw[n];unfold UQ;rw[hp]
    have o:Ac C0 prog u (d+3) 201 [.pbox (Dx t c)]=some ⟨[C3 ((Ka c).isSome)],[Dx t ((Ka c).getD c)]⟩:=BI (d:=d+1) b ht Be;refine⟨(Ka c).getD c,O8 b λq e=>Nn b e,?_,?_⟩
    ·rw[k,Dd (Es:=Ω)]
     repeat(with_reducible(first|apply Bk|apply A5|apply Bm|apply Bj|apply Bo|apply A4|apply Bn|apply H7);· first|constructor|(simp(disch:=omega)only[H9,g,l,i,o,Gc,Ix]<;>first|constructor|omega)|omega)
     try simp(disch:=omega)only[Aa,g,l,i,o,Gc,Ix]
     try rfl
    ·rw[k];intro q e;rw[e];rfl
 ·have g:=J3 (u:=u) (d:=d) 101 101 rfl h ht p;have f:=B3 h p;rw[p] at n;simp only at n;rcases hp:Az [43] j with _|c
  ·have i:=Rp (u:=u) (d:=d) 43 43 rfl f ht hp;have Fs:=Aia (u:=u) (d:=d) 45 45 rfl f ht;have b:D5 t ((Az [45] j).getD j):=O8 f λq e=>B3 f e;have k:m=Ka ((Az [45] j).getD j):=by rw[n];unfold UQ;rw[hp]
   generalize (Az [45] j).getD j=c at Fs b k;generalize (Az [45] j).isSome=v at Fs;have o:Ac C0 prog u (d+3) 201 [.pbox (Dx t c)]=some ⟨[C3 ((Ka c).isSome)],[Dx t ((Ka c).getD c)]⟩:=BI (d:=d+1) b ht Be;refine⟨(Ka c).getD c,O8 b λq e=>Nn b e,?_,?_⟩
   ·rw[k,Dd (Es:=Ω)]
    repeat(with_reducible(first|apply Bk|apply A5|apply Bm|apply Bj|apply Bo|apply A4|apply Bn|apply H7);· first|constructor|(simp(disch:=omega)only[H9,g,i,Fs,o,Gc,Ix]<;>first|constructor|omega)|omega)
    try simp(disch:=omega)only[Aa,g,i,Fs,o,Gc,Ix]
    try rfl
   ·rw[k];intro q e;rw[e];rfl
  ·have i:=J3 (u:=u) (d:=d) 43 43 rfl f ht hp;have b:=B3 f hp;have k:m=Ka c:=by rw[n];unfold UQ;rw[hp]
   have o:Ac C0 prog u (d+3) 201 [.pbox (Dx t c)]=some ⟨[C3 ((Ka c).isSome)],[Dx t ((Ka c).getD c)]⟩:=BI (d:=d+1) b ht Be;refine⟨(Ka c).getD c,O8 b λq e=>Nn b e,?_,?_⟩
   ·rw[k,Dd (Es:=Ω)]
    repeat(with_reducible(first|apply Bk|apply A5|apply Bm|apply Bj|apply Bo|apply A4|apply Bn|apply H7);· first|constructor|(simp(disch:=omega)only[H9,g,i,o,Gc,Ix]<;>first|constructor|omega)|omega)
    try simp(disch:=omega)only[Aa,g,i,o,Gc,Ix]
    try rfl
   ·rw[k];intro q e;rw[e];rfl
theorem Bjf{t0:ByteArray}{a:Int}(h:D5 t r)(ht:t.size<=1000000)(Be:t.size+1<=u)(c:m=RN r):∃r',D5 t r'/\Eh u (Ac C0 prog u (d+3)) t0 a u t (Bp t r)=some ⟨[C3 (m.isSome)],[Dx t r']⟩/\∀q,m=some q->r'=q:=by
 rw[NP] at c;rcases hd:Az [46] r with _|j
 ·have b:=Rp (u:=u) (d:=d) 46 46 rfl h ht hd;rw[hd] at c;obtain⟨l,n,k,o⟩:=Bh3 (u:=u) (d:=d) (t0:=t0) (a:=a) h ht Be c;refine⟨l,n,?_,o⟩;rw[Fo (Es:=Ω)]
  repeat(with_reducible(first|apply Bk|apply A5|apply Bm|apply Bj|apply Bo|apply A4|apply Bn|apply H7);· first|constructor|(simp(disch:=omega)only[H9,b,k,Gc,Ix]<;>first|constructor|omega)|omega)
  try simp(disch:=omega)only[Aa,b,k,Gc,Ix]
 ·have b:=J3 (u:=u) (d:=d) 46 46 rfl h ht hd;have g:=B3 h hd;rw[hd] at c;have c:m=(Ka j).bind UJ:=c;have f:=BI (d:=d+1) g ht Be;rcases i:Ka j with _|s
  ·rw[i] at f c;have TM:Ac C0 prog u (d+3) 201 [.pbox (Dx t j)]=some ⟨[C3 false],[Dx t j]⟩:=f;have p:m=none:=c;refine⟨j,g,?_,?_⟩
   ·rw[p,Fo (Es:=Ω)]
    repeat(with_reducible(first|apply Bk|apply A5|apply Bm|apply Bj|apply Bo|apply A4|apply Bn|apply H7);· first|constructor|(simp(disch:=omega)only[H9,b,TM,Gc,Ix]<;>first|constructor|omega)|omega)
    try simp(disch:=omega)only[Aa,b,TM,Gc,Ix]
    try rfl
   ·rw[p];intro q e;cases e
  ·rw[i] at f c;have TM:Ac C0 prog u (d+3) 201 [.pbox (Dx t j)]=some ⟨[C3 true],[Dx t s]⟩:=f;obtain⟨l,n,k,o⟩:=Bh3 (u:=u) (d:=d) (t0:=t0) (a:=a) (Nn g i) ht Be c;refine⟨l,n,?_,o⟩;rw[Fo (Es:=Ω)]
   repeat(with_reducible(first|apply Bk|apply A5|apply Bm|apply Bj|apply Bo|apply A4|apply Bn|apply H7);· first|constructor|(simp(disch:=omega)only[H9,b,TM,k,Gc,Ix]<;>first|constructor|omega)|omega)
   try simp(disch:=omega)only[Aa,b,TM,k,Gc,Ix]
theorem A2y(h:D5 t r)(ht:t.size<=1000000)(Be:t.size+1<=u):∃r',D5 t r'/\Ac C0 prog u (d+4) 188 [.pbox (Dx t r)]=some ⟨[C3 ((FP r).isSome)],[Dx t r']⟩/\∀q,FP r=some q->r'=q:=by
 have i:=Aia (u:=u) (d:=d) 45 45 rfl h ht;have b:D5 t ((Az [45] r).getD r):=O8 h λq e=>B3 h e;obtain⟨m,v⟩:∃m,m=FP r:=⟨_,rfl⟩
 have SL:m=(Au7 ((Az [45] r).getD r)).bind RN:=by rw[v,<-AC];rfl
 rw[<-v];generalize (Az [45] r).getD r=k at i b SL;generalize (Az [45] r).isSome=y at i;rw[JM] at SL;rcases l:Az [48] k with _|w
 ·have c:=Rp (u:=u) (d:=d) 48 48 rfl b ht l;rw[l] at SL;have g:=BI (d:=d+1) b ht Be;rcases j:Ka k with _|w
  ·simp only[j] at g SL;have f:Ac C0 prog u (d+3) 201 [.pbox (Dx t k)]=some ⟨[C3 false],[Dx t k]⟩:=g;have x:m=none:=SL;refine⟨k,b,?_,?_⟩
   ·rw[x,Gi]
    repeat(with_reducible(first|apply Bk|apply A5|apply Bm|apply Bj|apply Bo|apply A4|apply Bn|apply H7);· first|constructor|(simp(disch:=omega)only[H9,i,c,f,Gc,Ix]<;>first|constructor|omega)|omega)
    try simp(disch:=omega)only[Aa,i,c,f,Gc,Ix]
    try rfl
   ·rw[x];intro q e;cases e
  ·simp only[j] at g SL;have f:Ac C0 prog u (d+3) 201 [.pbox (Dx t k)]=some ⟨[C3 true],[Dx t w]⟩:=g;obtain⟨o,p,n,s⟩:=Bjf (u:=u) (d:=d) (t0:=t) (a:=(Bp t r)) (Nn b j) ht Be SL;refine⟨o,p,?_,s⟩;rw[Gi]
   repeat(with_reducible(first|apply Bk|apply A5|apply Bm|apply Bj|apply Bo|apply A4|apply Bn|apply H7);· first|constructor|(simp(disch:=omega)only[H9,i,c,f,n,Gc,Ix]<;>first|constructor|omega)|omega)
   try simp(disch:=omega)only[Aa,i,c,f,n,Gc,Ix]
 ·have c:=J3 (u:=u) (d:=d) 48 48 rfl b ht l;rw[l] at SL;obtain⟨o,p,n,s⟩:=Bjf (u:=u) (d:=d) (t0:=t) (a:=(Bp t r)) (B3 b l) ht Be SL;refine⟨o,p,?_,s⟩;rw[Gi]
  repeat(with_reducible(first|apply Bk|apply A5|apply Bm|apply Bj|apply Bo|apply A4|apply Bn|apply H7);· first|constructor|(simp(disch:=omega)only[H9,i,c,n,Gc,Ix]<;>first|constructor|omega)|omega)
  try simp(disch:=omega)only[Aa,i,c,n,Gc,Ix]
end
theorem D5.trans{q:Ak}(h:D5 t r)(k:D5 (Ab r) q):D5 t q:=by obtain⟨a,k⟩:=k;rw[Cw h.B] at k;rw[k] at h;exact h.app
theorem D5.self(h:Ch l):D5 (Ab l) l:=⟨[],by rw[Cw h];rfl⟩
theorem D5.le{q:Ak}(h:D5 (Ab l) q):q.length<=l.length:=by
 have:=h.len
 rwa [Ai] at this
theorem D5.up{m q:Ak}(a:Ch l)(h:D5 (Ab l) m)(k:D5 (Ab m) q):D5 (Ab l) q:=h.trans k
def Ar1(t:ByteArray)(l:Ak)(x:JR (JV × Ak))(a:A3):Prop:=
 match x with
 |.ok (v,q)=>D5 (Ab l) q/\a=⟨[.agg [Av v.1,Bg (Ab v.2.1),C3 (v.2.2)],Av 0],[Dx t q]⟩
 |.error e=>e≠0/\∃c1 c2 b q,D5 t q/\a=⟨[.agg [Av c1,Bg c2,C3 b],Av e],[Dx t q]⟩
def Bit(t:ByteArray)(l:Ak)(x:JR Ak)(a:A3):Prop:=
 match x with
 |.ok q=>D5 (Ab l) q/\a=⟨[Av 0],[Dx t q]⟩
 |.error e=>e≠0/\∃q,D5 t q/\a=⟨[Av e],[Dx t q]⟩
theorem A3h{α:Type}(a b:Int)(Zd:a≠b)(A B:Ak->α)(C:α)(x:Ak):
  (match Az [a] x with|some r=>A r|none=>match Az [b] x with|some r=>B r|none=>C)=(match x with|[]=>C|y::r=>if y=a then A r else if y=b then B r else C):=by
 rw[Di,Di];cases x with
 |nil=>rfl
 |cons y r=>
  by_cases h:y=a
  ·simp[h]
  ·by_cases c:y=b
   ·subst c;simp[h]
   ·simp[h,c]
theorem Alf(V:Ak->JR (JV × Ak))(n:Nat)(l:Ak):Aag V (n+1) l=match V l with
  |.error e=>.error e
  |.ok (_,r)=>match Az [93] (Aw r) with
   |some r'=>.ok r'
   |none=>match Az [44] (Aw r) with
    |some r'=>Aag V n (Aw r')
    |none=>.error 2:=by
 show (match V l with | .error e=>_ | .ok (_,r)=>_)=_;cases V l with
 |error e=>rfl
 |ok x=>
  obtain⟨v,r⟩:=x;simp only;rw[A3h 93 44 Δ (λr'=>Except.ok r') (λr'=>Aag V n (Aw r')) (Except.error 2)];cases Aw r with
  |nil=>rfl
  |cons y r=>
   by_cases h:y=93
   ·subst h;rfl
   ·by_cases a:y=44
    ·subst a;rfl
    ·simp only[Bd h,Bd a];split
     ·rename_i e;injection e with b _;exact absurd b h
     ·rename_i e;injection e with b _;exact absurd b a
     ·rfl
section
variable {u d:Nat}
theorem A4j{s0:ByteArray}{p0 D0:Int}(ht:t.size<=1000000)(Be:t.size+1<=u)(V:Ak->JR (JV × Ak))(HV:∀r,D5 t r->∃a,Ac C0 prog u (d+3) 168 [.pbox (Dx t r),Av D]=some a/\Ar1 t r (V r) a):∀(n nn:Nat)(l:Ak),l.length+1<=n->l.length+1<=nn->D5 t l ->
  ∃a,Et u (Ac C0 prog u (d+3)) s0 p0 D0 nn D t (Bp t l:Int)=some a/\Bit t l (Aag V n l) a:=by
 intro n
 induction n with
 |zero=>intro nn l w;omega
 |succ n J=>
  intro nn l N Es h;obtain⟨k,rfl⟩:∃k,nn=k+1:=⟨nn-1,Ω⟩
  obtain⟨O,g,z⟩:=HV l h;rw[Alf,Pi];cases E:V l with
  |error e=>
   rw[E] at z;obtain⟨G,c1,c2,P,q,j,rfl⟩:=z;have f:(e != (0:Int))=true:=by simp[G]
   refine⟨⟨[Av e],[Dx t q]⟩,?_,G,q,j,rfl⟩
   repeat(with_reducible(first|apply Bk|apply A5|apply Bm|apply Bj|apply Bo|apply I6|apply A4|apply Bn|apply H7);· first|constructor|(simp(disch:=omega)only[H9,g,f]<;>first|constructor|omega)|omega)
   try simp(disch:=omega)only[Aa,g,f]
  |ok x=>
   obtain⟨v,q⟩:=x;rw[E] at z;obtain⟨j,rfl⟩:=z;have m:=h.trans j;have K:=CK (u:=u) (d:=d) m ht Be;have SN:Ac C0 prog u (d+3) 147 [.pbox (Dx t q)]=some ⟨[],[Dx t (Aw q)]⟩:=K;have b:=Cd m;have Bhl:=Cd j;have f:((0:Int) != (0:Int))=false:=rfl;simp only;cases w:Az [93] (Aw q) with
   |some r'=>
    have i:=J3 (u:=u) (d:=d) 93 93 rfl b ht w;refine⟨⟨[Av 0],[Dx t r']⟩,?_,B3 Bhl w,rfl⟩
    repeat(with_reducible(first|apply Bk|apply A5|apply Bm|apply Bj|apply Bo|apply I6|apply A4|apply Bn|apply H7);· first|constructor|(simp(disch:=omega)only[H9,g,f,SN,i]<;>first|constructor|omega)|omega)
    try simp(disch:=omega)only[Aa,g,f,SN,i]
   |none=>
    have i:=Rp (u:=u) (d:=d) 93 93 rfl b ht w;cases c:Az [44] (Aw q) with
    |none=>
     have o:=Rp (u:=u) (d:=d) 44 44 rfl b ht c;refine⟨⟨[Av 2],[Dx t (Aw q)]⟩,?_,Δ,Aw q,b,rfl⟩
     repeat(with_reducible(first|apply Bk|apply A5|apply Bm|apply Bj|apply Bo|apply I6|apply A4|apply Bn|apply H7);· first|constructor|(simp(disch:=omega)only[H9,g,f,SN,i,o,Ix]<;>first|constructor|omega)|omega)
     try simp(disch:=omega)only[Aa,g,f,SN,i,o,Ix]
    |some r'=>
     have o:=J3 (u:=u) (d:=d) 44 44 rfl b ht c;have H:=B3 b c;have B:=B3 Bhl c;have p:Ac C0 prog u (d+3) 147 [.pbox (Dx t r')]=some ⟨[],[Dx t (Aw r')]⟩:=CK (u:=u) (d:=d) H ht Be
     have L:(Aw r').length+1<=l.length:=by
      have Q:=j.le;have R:=Hr q;have S:=Hr r'
      have T:r'.length+1<=(Aw q).length:=by
       rw[Di] at c
       revert c
       cases Aw q with
       |nil=>intro c;cases c
       |cons y s=>
        intro c;simp only at c;split at c
        ·cases c;simp
        ·cases c
      omega
     obtain⟨a,M,A⟩:=J k (Aw r') Ω Ω (Cd H);refine⟨a,?_,?_⟩
     ·skip
      repeat(with_reducible(first|apply Bk|apply A5|apply Bm|apply Bj|apply Bo|apply I6|apply A4|apply Bn|apply H7);· first|constructor|(simp(disch:=omega)only[H9,g,f,SN,i,o,p,Gc]<;>first|constructor|omega)|omega)
      try simp(disch:=omega)only[Aa,g,f,SN,i,o,p,Gc]
      exact M
     ·simp only;have C:D5 (Ab l) (Aw r'):=Cd B
      revert A
      cases Aag V n (Aw r') with
      |error e=>exact id
      |ok U=>exact λA=>⟨C.trans A.1,A.2⟩
end
theorem QI{c:Int}{x:Ak}(h:Az [c] x=some r):r.length+1<=x.length:=by
 rw[Di] at h
 revert h
 cases x with
 |nil=>intro h;cases h
 |cons y s=>
  intro h;simp only at h;split at h
  ·cases h;simp
  ·cases h
theorem Lu(V:Ak->JR (JV × Ak))(kp:Bool)(n:Nat)(ms:List (Ak × JV))(l:Ak):Ra V kp (n+1) ms l=match D1 l with
  |(none,_)=>.error 2
  |(some a,r)=>if (kp&&ms.any λm=>m.1==a)=true then .error 10 else match Az [58] (Aw r) with
   |none=>.error 2
   |some i=>match V (Aw i) with
    |.error e=>.error e
    |.ok (v,c)=>match Az [125] (Aw c) with
     |some d=>.ok (ms++[(a,v)],d)
     |none=>match Az [44] (Aw c) with
      |some d=>Ra V kp n (ms++[(a,v)]) (Aw d)
      |none=>.error 2:=by
 show (match Bda V (λa=>kp&&ms.any λm=>m.1==a) l with | .error e=>_ | .ok (m,r)=>_)=_;unfold Bda QS;rcases D1 l with⟨o,r⟩;cases o with
 |none=>rfl
 |some a=>
  simp only;by_cases hd:(kp&&ms.any λm=>m.1==a)=true
  rotate_left
  ·simp only[Bd hd];rw[Di];cases Aw r with
   |nil=>rfl
   |cons y s=>
    by_cases h:y=58
    ·subst h;simp only[if_true];cases V (Aw s) with
     |error e=>rfl
     |ok x=>
      obtain⟨v,c⟩:=x;simp only;rw[Di,Di];cases Aw c with
      |nil=>rfl
      |cons y s=>
       by_cases h:y=125
       ·subst h;simp
       ·by_cases f:y=44
        ·subst f;simp
        ·simp only[Bd h,Bd f];split
         ·rename_i e;injection e with b _;exact absurd b h
         ·rename_i e;injection e with b _;exact absurd b f
         ·rfl
    ·simp only[Bd h];split
     ·rename_i e;split at e
      ·rename_i g;injection g with b _;exact absurd b h
      ·cases e;rfl
     ·rename_i e;split at e
      ·rename_i g;injection g with b _;exact absurd b h
      ·cases e
  ·simp only[Bv hd]
def Biq{α:Type}(t:ByteArray)(l:Ak)(x:JR (α × Ak))(a:A3):Prop:=
 match x with
 |.ok (_,q)=>D5 (Ab l) q/\a=⟨[Av 0],[Dx t q]⟩
 |.error e=>e≠0/\∃q,D5 t q/\a=⟨[Av e],[Dx t q]⟩
section
variable {u d:Nat}
theorem Ba5(h:D5 t r)(ht:t.size<=1000000):Ac C0 prog u (d+1) 167 [.pbox (Dx t r)]=some ⟨[Bg (Ab ((D1 r).1.getD [])),C3 ((D1 r).1.isSome)],[Dx t (D1 r).2]⟩:=by
 have c:Ac C0 prog u (d+1) 167 [.pbox (Dx t r)]=A0z [.pbox (Dx t r)]:=rfl;have i:=h.len
 have e:(decide ((0:Int)<=(Bp t r:Int))&&decide ((Bp t r:Int)<=t.size)&&jg t.size 1000000)=true:=by
  simp only[Gh,JT,Nat.ble_eq];unfold Bp;omega
 have f:(Cp t).drop (Bp t r:Int).toNat=r:=by rw[Hy];exact h.eq.symm
 have a:=(H8 h).len;rw[c];unfold A0z;simp only[e,cond_true,f];rcases g:D1 r with⟨o,q⟩;rw[g] at a;have b:(t.size:Int)-q.length=(Bp t q:Int):=by unfold Bp;simp only at a;omega
 cases o with
 |none=>simp only[b];rfl
 |some s=>simp only[b];rfl
theorem Bie(ht:t.size<=1000000)(Be:t.size+1<=u)(V:Ak->JR (JV × Ak))(HV:∀r,D5 t r->∃a,Ac C0 prog u (d+3) 168 [.pbox (Dx t r),Av D]=some a/\Ar1 t r (V r) a)(h:D5 t (91::l)):
  ∃a,Ac C0 prog u (d+4) 187 [.pbox (Dx t (91::l)),Av D]=some a/\Bit t l (QR V l) a:=by
 have f:=J3 (u:=u) (d:=d) (q:=l) 91 91 rfl h ht (by rw[Di];rfl)
 have g:Ac C0 prog u (d+3) 147 [.pbox (Dx t l)]=some ⟨[],[Dx t (Aw l)]⟩:=CK (u:=u) (d:=d) h.tail ht Be;have i:=Cd h.tail;have b:=Cd (D5.self h.tail.B)
 have eA:QR V l=match Az [93] (Aw l) with|some r=>.ok r|none=>Aag V ((Aw l).length+1) (Aw l):=by
  unfold QR;rw[Di];cases Aw l with
  |nil=>rfl
  |cons y s=>
   by_cases k:y=93
   ·subst k;rfl
   ·simp only[Bd k];split
    ·rename_i e;injection e with o _;exact absurd o k
    ·rfl
 have n:=Ry (p:=none) u (d+3) t (Bp t (91::l):Int) D;rw[eA];cases m:Az [93] (Aw l) with
 |some r=>
  have c:=J3 (u:=u) (d:=d) 93 93 rfl i ht m;refine⟨⟨[Av 0],[Dx t r]⟩,n.trans ?_,B3 b m,rfl⟩
  repeat(with_reducible(first|apply Bk|apply A5|apply Bm|apply Bj|apply Bo|apply A4|apply Bn|apply H7);· first|constructor|(simp(disch:=omega)only[H9,f,g,c,Gc]<;>first|constructor|omega)|omega)
  try simp(disch:=omega)only[Aa,f,g,c,Gc]
 |none=>
  have c:=Rp (u:=u) (d:=d) 93 93 rfl i ht m;obtain⟨a,v,j⟩:=A4j (u:=u) (d:=d) (s0:=t) (p0:=(Bp t (91::l):Int)) (D0:=D) ht Be V HV ((Aw l).length+1) u (Aw l) (Cz _) (by have:=i.len;omega) i
  refine⟨a,n.trans ?_,?_⟩
  ·skip
   repeat(with_reducible(first|apply Bk|apply A5|apply Bm|apply Bj|apply Bo|apply A4|apply Bn|apply H7);· first|constructor|(simp(disch:=omega)only[H9,f,g,c,Gc]<;>first|constructor|omega)|omega)
   try simp(disch:=omega)only[Aa,f,g,c,Gc]
   exact v
  ·simp only
   revert j
   cases Aag V ((Aw l).length+1) (Aw l) with
   |error e=>exact id
   |ok w=>exact λj=>⟨b.trans j.1,j.2⟩
end
section
variable {u d:Nat}
theorem A26{s0:ByteArray}{p0 D0:Int}(ht:t.size<=1000000)(Be:t.size+1<=u)(V:Ak->JR (JV × Ak))(HV:∀r,D5 t r->∃c,Ac C0 prog u (d+3) 168 [.pbox (Dx t r),Av D]=some c/\Ar1 t r (V r) c):∀(n nn:Nat)(ms:List (Ak × JV)) (l:Ak),l.length+1<=n->l.length+1<=nn->D5 t l ->
  ∃c,Ei u (Ac C0 prog u (d+3)) s0 p0 D0 nn D t (Bp t l:Int)=some c/\Biq t l (Ra V false n ms l) c:=by
 intro n
 induction n with
 |zero=>intro nn ms l B;omega
 |succ n ih=>
  intro nn ms l hn Es h;obtain⟨k,rfl⟩:∃k,nn=k+1:=⟨nn-1,Ω⟩
  have P:Ac C0 prog u (d+3) 167 [.pbox (Dx t l)]=_:=Ba5 (d:=d+2) h ht;have i:=H8 h;have Ag8:=H8 (D5.self h.B);rw[Lu,Oz];rcases hx:D1 l with⟨o,q⟩;rw[hx] at P i Ag8;cases o with
  |none=>
   have a:Ac C0 prog u (d+3) 167 [.pbox (Dx t l)]=some ⟨[Bg (Ab []),C3 false],[Dx t q]⟩:=P;refine⟨⟨[Av 2],[Dx t q]⟩,?_,Δ,q,i,rfl⟩
   repeat(with_reducible(first|apply Bk|apply A5|apply Bm|apply Bj|apply Bo|apply I6|apply A4|apply Bn|apply H7);· first|constructor|(simp(disch:=omega)only[H9,a,Ix]<;>first|constructor|omega)|omega)
   try simp(disch:=omega)only[Aa,a,Ix]
  |some Q=>
   have a:Ac C0 prog u (d+3) 167 [.pbox (Dx t l)]=some ⟨[Bg (Ab Q),C3 true],[Dx t q]⟩:=P;simp only at i Ag8;have SN:Ac C0 prog u (d+3) 147 [.pbox (Dx t q)]=some ⟨[],[Dx t (Aw q)]⟩:=CK (u:=u) (d:=d) i ht Be;have XG:=Cd i;have Td:=Cd Ag8;simp only[SK,qf,if_false];cases B:Az [58] (Aw q) with
   |none=>
    have j:=Rp (u:=u) (d:=d) 58 58 rfl XG ht B;refine⟨⟨[Av 2],[Dx t (Aw q)]⟩,?_,Δ,Aw q,XG,rfl⟩
    repeat(with_reducible(first|apply Bk|apply A5|apply Bm|apply Bj|apply Bo|apply I6|apply A4|apply Bn|apply H7);· first|constructor|(simp(disch:=omega)only[H9,a,SN,j,Gc,Ix]<;>first|constructor|omega)|omega)
    try simp(disch:=omega)only[Aa,a,SN,j,Gc,Ix]
   |some M=>
    have j:=J3 (u:=u) (d:=d) 58 58 rfl XG ht B;have C:=B3 XG B;have R:=B3 Td B;have b:Ac C0 prog u (d+3) 147 [.pbox (Dx t M)]=some ⟨[],[Dx t (Aw M)]⟩:=CK (u:=u) (d:=d) C ht Be;have E:=Cd C;have S:=Cd R;obtain⟨rv,w,N⟩:=HV (Aw M) E;simp only;cases Y:V (Aw M) with
    |error e=>
     rw[Y] at N;obtain⟨Z,c1,c2,c3,q3,m,rfl⟩:=N;have p:(e != (0:Int))=true:=by simp[Z]
     refine⟨⟨[Av e],[Dx t q3]⟩,?_,Z,q3,m,rfl⟩
     repeat(with_reducible(first|apply Bk|apply A5|apply Bm|apply Bj|apply Bo|apply I6|apply A4|apply Bn|apply H7);· first|constructor|(simp(disch:=omega)only[H9,a,SN,j,b,w,p,Gc]<;>first|constructor|omega)|omega)
     try simp(disch:=omega)only[Aa,a,SN,j,b,w,p,Gc]
    |ok x=>
     obtain⟨v,A⟩:=x;rw[Y] at N;obtain⟨m,rfl⟩:=N;have p:((0:Int) != (0:Int))=false:=rfl;have G:=E.trans m;have T:=S.trans m;have f:Ac C0 prog u (d+3) 147 [.pbox (Dx t A)]=some ⟨[],[Dx t (Aw A)]⟩:=CK (u:=u) (d:=d) G ht Be;have g:=Cd G;have y:=Cd T;simp only;cases U:Az [125] (Aw A) with
     |some s=>
      have z:=J3 (u:=u) (d:=d) 125 125 rfl g ht U;refine⟨⟨[Av 0],[Dx t s]⟩,?_,B3 y U,rfl⟩
      repeat(with_reducible(first|apply Bk|apply A5|apply Bm|apply Bj|apply Bo|apply I6|apply A4|apply Bn|apply H7);· first|constructor|(simp(disch:=omega)only[H9,a,SN,j,b,w,p,f,z,Gc]<;>first|constructor|omega)|omega)
      try simp(disch:=omega)only[Aa,a,SN,j,b,w,p,f,z,Gc]
     |none=>
      have z:=Rp (u:=u) (d:=d) 125 125 rfl g ht U;cases H:Az [44] (Aw A) with
      |none=>
       have J:=Rp (u:=u) (d:=d) 44 44 rfl g ht H;refine⟨⟨[Av 2],[Dx t (Aw A)]⟩,?_,Δ,Aw A,g,rfl⟩
       repeat(with_reducible(first|apply Bk|apply A5|apply Bm|apply Bj|apply Bo|apply I6|apply A4|apply Bn|apply H7);· first|constructor|(simp(disch:=omega)only[H9,a,SN,j,b,w,p,f,z,J,Gc,Ix]<;>first|constructor|omega)|omega)
       try simp(disch:=omega)only[Aa,a,SN,j,b,w,p,f,z,J,Gc,Ix]
      |some s=>
       have J:=J3 (u:=u) (d:=d) 44 44 rfl g ht H;have K:=B3 g H;have W:=B3 y H;have L:Ac C0 prog u (d+3) 147 [.pbox (Dx t s)]=some ⟨[],[Dx t (Aw s)]⟩:=CK (u:=u) (d:=d) K ht Be
       have hlr:(Aw s).length+1<=l.length:=by
        have e1:=y.le;have e2:=Hr s;have e3:=QI H;omega
       obtain⟨c,e5,O⟩:=ih k (ms++[(Q,v)]) (Aw s) Ω Ω (Cd K);refine⟨c,?_,?_⟩
       ·skip
        repeat(with_reducible(first|apply Bk|apply A5|apply Bm|apply Bj|apply Bo|apply I6|apply A4|apply Bn|apply H7);· first|constructor|(simp(disch:=omega)only[H9,a,SN,j,b,w,p,f,z,J,L,Gc]<;>first|constructor|omega)|omega)
        try simp(disch:=omega)only[Aa,a,SN,j,b,w,p,f,z,J,L,Gc]
        exact e5
       ·simp only;have X:D5 (Ab l) (Aw s):=Cd W
        revert O
        cases Ra V false n (ms++[(Q,v)]) (Aw s) with
        |error e=>exact id
        |ok q2=>exact λO=>⟨X.trans O.1,O.2⟩
theorem Bjv(ht:t.size<=1000000)(Be:t.size+1<=u)(V:Ak->JR (JV × Ak))(HV:∀r,D5 t r->∃a,Ac C0 prog u (d+3) 168 [.pbox (Dx t r),Av D]=some a/\Ar1 t r (V r) a)(h:D5 t (123::l)):
  ∃a,Ac C0 prog u (d+4) 148 [.pbox (Dx t (123::l)),Av D,.sc (.map none)]=some a/\Biq t l (BJ V false l) a:=by
 have f:=J3 (u:=u) (d:=d) (q:=l) 123 123 rfl h ht (by rw[Di];rfl)
 have g:Ac C0 prog u (d+3) 147 [.pbox (Dx t l)]=some ⟨[],[Dx t (Aw l)]⟩:=CK (u:=u) (d:=d) h.tail ht Be;have i:=Cd h.tail;have b:=Cd (D5.self h.tail.B)
 have eA:BJ V false l=match Az [125] (Aw l) with|some r=>.ok ([],r)|none=>Ra V false ((Aw l).length+1) [] (Aw l):=by
  unfold BJ;rw[Di];cases Aw l with
  |nil=>rfl
  |cons y s=>
   by_cases k:y=125
   ·subst k;rfl
   ·simp only[Bd k];split
    ·rename_i e;injection e with o _;exact absurd o k
    ·rfl
 have n:=Rf (p:=none) u (d+3) t (Bp t (123::l):Int) D;rw[eA];cases m:Az [125] (Aw l) with
 |some r=>
  have c:=J3 (u:=u) (d:=d) 125 125 rfl i ht m;refine⟨⟨[Av 0],[Dx t r]⟩,n.trans ?_,B3 b m,rfl⟩
  repeat(with_reducible(first|apply Bk|apply A5|apply Bm|apply Bj|apply Bo|apply I6|apply A4|apply Bn|apply H7);· first|constructor|(simp(disch:=omega)only[H9,f,g,c,Gc]<;>first|constructor|omega)|omega)
  try simp(disch:=omega)only[Aa,f,g,c,Gc]
 |none=>
  have c:=Rp (u:=u) (d:=d) 125 125 rfl i ht m;obtain⟨a,v,j⟩:=A26 (u:=u) (d:=d) (s0:=t) (p0:=(Bp t (123::l):Int)) (D0:=D) ht Be V HV ((Aw l).length+1) u [] (Aw l) (Cz _) (by have:=i.len;omega) i
  refine⟨a,n.trans ?_,?_⟩
  ·skip
   repeat(with_reducible(first|apply Bk|apply A5|apply Bm|apply Bj|apply Bo|apply I6|apply A4|apply Bn|apply H7);· first|constructor|(simp(disch:=omega)only[H9,f,g,c,Gc]<;>first|constructor|omega)|omega)
   try simp(disch:=omega)only[Aa,f,g,c,Gc]
   exact v
  ·simp only
   revert j
   cases Ra V false ((Aw l).length+1) [] (Aw l) with
   |error e=>exact id
   |ok w=>exact λj=>⟨b.trans j.1,j.2⟩
end
def QT(l:Ak):JR (JV × Ak):=
 match Az [116,114,117,101] l with
 |some r=>.ok ((2,[],true),r)
 |none=>match Az [102,97,108,115,101] l with
  |some r=>.ok ((2,[],false),r)
  |none=>match Az [110,117,108,108] l with
   |some r=>.ok ((1,[],false),r)
   |none=>match FP l with
    |some r=>.ok ((3,[],false),r)
    |none=>.error 2
theorem UO(k:Nat)(a:SU l≠123)(b:SU l≠91)(c:SU l≠34):Dc k l=QT l:=by
 unfold Dc;split
 ·exact absurd rfl a
 ·exact absurd rfl b
 ·exact absurd rfl c
 ·rfl
theorem Azw(h:Ch l)(e:FP l=some r):D5 (Ab l) r:=by
 have d:=D5.self h;have k:FP l=(Au7 (Aka 45 l)).bind RN:=rfl;rw[k,AC,JM] at e;have f:D5 (Ab l) ((Az [45] l).getD l):=O8 d λq e=>B3 d e
 have g:∀x q,D5 (Ab l) x->UJ x=some q->D5 (Ab l) q:=by
  have i:∀x q,D5 (Ab l) x->UQ x=some q->D5 (Ab l) q:=by
   intro x q a e;unfold UQ at e;split at e
   ·rename_i b;exact Nn (B3 a b) e
   ·exact Nn (O8 a λq e=>B3 a e) e
  intro x q a e;rw[UL] at e;split at e
  ·rename_i b;exact i _ _ (B3 a b) e
  ·split at e
   ·rename_i b;exact i _ _ (B3 a b) e
   ·cases e;exact a
 have j:∀x q,D5 (Ab l) x->RN x=some q->D5 (Ab l) q:=by
  intro x q a e;rw[NP] at e;split at e
  ·rename_i b;obtain⟨y,c,e⟩:=b5.1 e;exact g _ _ (Nn (B3 a b) c) e
  ·exact g _ _ a e
 obtain⟨y,c,e⟩:=b5.1 e;split at c
 ·rename_i b;cases c;exact j _ _ (B3 f b) e
 ·exact j _ _ (Nn f c) e
section
variable {u d:Nat}
theorem Bdt(w:Ak)(lit:ByteArray)(a:Ab w=lit)(b:Ch w)(c:w.length<=100)(h:D5 t r)(ht:t.size<=1000000):Ac C0 prog u (d+3) 166 [.pbox (Dx t r),Bg lit]=some ⟨[C3 ((Az w r).isSome)],[Dx t ((Az w r).getD r)]⟩:=by subst a;have e:=HY (u:=u) (d:=d) (I:=xs0) h ht (w:=w) b c;refine e.trans ?_;cases Az w r<;>rfl
theorem A36(ht:t.size<=1000000)(Be:t.size+1<=u)(h:D5 t l)(E:SU l≠123)(G:SU l≠91)(H:SU l≠34):∃m,Ac C0 prog u (d+5) 168 [.pbox (Dx t l),Av D]=some m/\Ar1 t l (QT l) m:=by
 have n:=C9 (p:=none) u (d+4) t (Bp t l:Int) D;have f:Ac C0 prog u (d+4) 186 [.pbox (Dx t l)]=some ⟨[.sc (.int .u8 (SU l))],[Dx t l]⟩:=V9 (I:=xs0) (d:=d+3) h;have g:(SU l==(123:Int))=false:=by simp[E]
 have i:(SU l==(91:Int))=false:=by simp[G]
 have j:(SU l==(34:Int))=false:=by simp[H]
 have A1i:=D5.self h.B;have q:=Bdt (u:=u) (d:=d+1) [116,114,117,101] (ByteArray.mk #[116,114,117,101]) rfl (λx o=>by simp at o;omega) Δ h ht
 have s:=Bdt (u:=u) (d:=d+1) [102,97,108,115,101] (ByteArray.mk #[102,97,108,115,101]) rfl (λx o=>by simp at o;omega) Δ h ht
 have v:=Bdt (u:=u) (d:=d+1) [110,117,108,108] (ByteArray.mk #[110,117,108,108]) rfl (λx o=>by simp at o;omega) Δ h ht
 obtain⟨w,z,J,K⟩:=A2y (u:=u) (d:=d) h ht Be;have k:Ac C0 prog u (d+4) 188 [.pbox (Dx t l)]=some ⟨[C3 ((FP l).isSome)],[Dx t w]⟩:=J;unfold QT;cases A:Az [116,114,117,101] l with
 |some r=>
  rw[A] at q;have a:Ac C0 prog u (d+4) 166 [.pbox (Dx t l),Bg ⟨#[116,114,117,101]⟩]=some ⟨[C3 true],[Dx t r]⟩:=q;refine⟨_,n.trans ?_,B3 A1i A,rfl⟩
  repeat(with_reducible(first|apply Bk|apply A5|apply Bm|apply Bj|apply Bo|apply A4|apply Bn|apply H7);· first|constructor|(simp(disch:=omega)only[H9,f,g,i,j,a]<;>first|constructor|omega)|omega)
  try simp(disch:=omega)only[Aa,f,g,i,j,a]
  rfl
 |none=>
  rw[A] at q;have a:Ac C0 prog u (d+4) 166 [.pbox (Dx t l),Bg ⟨#[116,114,117,101]⟩]=some ⟨[C3 false],[Dx t l]⟩:=q;cases B:Az [102,97,108,115,101] l with
  |some r=>
   rw[B] at s;have b:Ac C0 prog u (d+4) 166 [.pbox (Dx t l),Bg ⟨#[102,97,108,115,101]⟩]=some ⟨[C3 true],[Dx t r]⟩:=s;refine⟨_,n.trans ?_,B3 A1i B,rfl⟩
   repeat(with_reducible(first|apply Bk|apply A5|apply Bm|apply Bj|apply Bo|apply A4|apply Bn|apply H7);· first|constructor|(simp(disch:=omega)only[H9,f,g,i,j,a,b]<;>first|constructor|omega)|omega)
   try simp(disch:=omega)only[Aa,f,g,i,j,a,b]
   rfl
  |none=>
   rw[B] at s;have b:Ac C0 prog u (d+4) 166 [.pbox (Dx t l),Bg ⟨#[102,97,108,115,101]⟩]=some ⟨[C3 false],[Dx t l]⟩:=s;cases C:Az [110,117,108,108] l with
   |some r=>
    rw[C] at v;have c:Ac C0 prog u (d+4) 166 [.pbox (Dx t l),Bg ⟨#[110,117,108,108]⟩]=some ⟨[C3 true],[Dx t r]⟩:=v;refine⟨_,n.trans ?_,B3 A1i C,rfl⟩
    repeat(with_reducible(first|apply Bk|apply A5|apply Bm|apply Bj|apply Bo|apply A4|apply Bn|apply H7);· first|constructor|(simp(disch:=omega)only[H9,f,g,i,j,a,b,c]<;>first|constructor|omega)|omega)
    try simp(disch:=omega)only[Aa,f,g,i,j,a,b,c]
    rfl
   |none=>
    rw[C] at v;have c:Ac C0 prog u (d+4) 166 [.pbox (Dx t l),Bg ⟨#[110,117,108,108]⟩]=some ⟨[C3 false],[Dx t l]⟩:=v;cases y:FP l with
    |some r=>
     rw[y] at k;have:=K r y;subst this;have e:Ac C0 prog u (d+4) 188 [.pbox (Dx t l)]=some ⟨[C3 true],[Dx t w]⟩:=k;refine⟨_,n.trans ?_,Azw h.B y,rfl⟩
     repeat(with_reducible(first|apply Bk|apply A5|apply Bm|apply Bj|apply Bo|apply A4|apply Bn|apply H7);· first|constructor|(simp(disch:=omega)only[H9,f,g,i,j,a,b,c,e]<;>first|constructor|omega)|omega)
     try simp(disch:=omega)only[Aa,f,g,i,j,a,b,c,e]
     rfl
    |none=>
     rw[y] at k;have e:Ac C0 prog u (d+4) 188 [.pbox (Dx t l)]=some ⟨[C3 false],[Dx t w]⟩:=k;refine⟨_,n.trans ?_,Δ,0,⟨#[]⟩,false,w,z,rfl⟩
     repeat(with_reducible(first|apply Bk|apply A5|apply Bm|apply Bj|apply Bo|apply A4|apply Bn|apply H7);· first|constructor|(simp(disch:=omega)only[H9,f,g,i,j,a,b,c,e]<;>first|constructor|omega)|omega)
     try simp(disch:=omega)only[Aa,f,g,i,j,a,b,c,e]
theorem Ah0(k:Nat)(r:Ak):Dc k (34::r)=match D1 (34::r) with|(some s,q)=>.ok ((4,s,false),q)|(none,_)=>.error 2:=by
 have e:Dc k (34::r)=match QS (34::r) with|none=>.error 2|some (s,r')=>.ok ((4,s,false),r'):=by
  cases k<;>rfl
 rw[e];unfold QS;rcases D1 (34::r) with⟨o,q⟩;cases o<;>rfl
theorem Ak8(ht:t.size<=1000000)(k:Nat)(h:D5 t (34::l)):∃a,Ac C0 prog u (d+5) 168 [.pbox (Dx t (34::l)),Av D]=some a/\Ar1 t (34::l) (Dc k (34::l)) a:=by
 have j:=C9 (p:=none) u (d+4) t (Bp t (34::l):Int) D;have c:Ac C0 prog u (d+4) 186 [.pbox (Dx t (34::l))]=some ⟨[.sc (.int .u8 34)],[Dx t (34::l)]⟩:=V9 (I:=xs0) (d:=d+3) h;have i:Ac C0 prog u (d+4) 167 [.pbox (Dx t (34::l))]=_:=Ba5 (d:=d+3) h ht;have b:=H8 h;have Ag8:=H8 (D5.self h.B);have e:((34:Int)==(123:Int))=false:=rfl;have f:((34:Int)==(91:Int))=false:=rfl;have g:((34:Int)==(34:Int))=true:=rfl;rw[Ah0];rcases m:D1 (34::l) with⟨o,q⟩;rw[m] at i b Ag8;cases o with
 |none=>
  have A4a:Ac C0 prog u (d+4) 167 [.pbox (Dx t (34::l))]=some ⟨[Bg (Ab []),C3 false],[Dx t q]⟩:=i;refine⟨_,j.trans ?_,Δ,0,⟨#[]⟩,false,q,b,rfl⟩
  repeat(with_reducible(first|apply Bk|apply A5|apply Bm|apply Bj|apply Bo|apply A4|apply Bn|apply H7);· first|constructor|(simp(disch:=omega)only[H9,c,e,f,g,A4a]<;>first|constructor|omega)|omega)
  try simp(disch:=omega)only[Aa,c,e,f,g,A4a]
 |some s=>
  have A4a:Ac C0 prog u (d+4) 167 [.pbox (Dx t (34::l))]=some ⟨[Bg (Ab s),C3 true],[Dx t q]⟩:=i;refine⟨_,j.trans ?_,Ag8,rfl⟩
  repeat(with_reducible(first|apply Bk|apply A5|apply Bm|apply Bj|apply Bo|apply A4|apply Bn|apply H7);· first|constructor|(simp(disch:=omega)only[H9,c,e,f,g,A4a]<;>first|constructor|omega)|omega)
  try simp(disch:=omega)only[Aa,c,e,f,g,A4a]
theorem A2u(ht:t.size<=1000000)(Be:t.size+1<=u):∀(k:Nat)(D:Int),D+k=9->1<=D->∀l,D5 t l->∃g,Ac C0 prog u (d+2*k+5) 168 [.pbox (Dx t l),Av D]=some g/\Ar1 t l (Dc k l) g:=by
 intro k
 induction k with
 |zero=>
  intro D E G l h;by_cases m:SU l=123
  ·cases l with
   |nil=>cases m
   |cons c l=>
    have i:c=123:=m;subst i;have n:=C9 (p:=none) u (d+4) t (Bp t (123::l):Int) D;have a:Ac C0 prog u (d+4) 186 [.pbox (Dx t (123::l))]=some ⟨[.sc (.int .u8 123)],[Dx t (123::l)]⟩:=V9 (I:=xs0) (d:=d+3) h;have b:((123:Int)==(123:Int))=true:=rfl;have f:decide (D>8)=true:=by simp;omega
    refine⟨_,n.trans ?_,(by decide:(5:Int)≠0),0,⟨#[]⟩,false,123::l,h,rfl⟩
    repeat(with_reducible(first|apply Bk|apply A5|apply Bm|apply Bj|apply Bo|apply A4|apply Bn|apply H7);· first|constructor|(simp(disch:=omega)only[H9,a,b,f]<;>first|constructor|omega)|omega)
    try simp(disch:=omega)only[Aa,a,b,f]
  ·by_cases i:SU l=91
   ·cases l with
    |nil=>cases i
    |cons c l=>
     have j:c=91:=i;subst j;have n:=C9 (p:=none) u (d+4) t (Bp t (91::l):Int) D;have a:Ac C0 prog u (d+4) 186 [.pbox (Dx t (91::l))]=some ⟨[.sc (.int .u8 91)],[Dx t (91::l)]⟩:=V9 (I:=xs0) (d:=d+3) h;have v:((91:Int)==(123:Int))=false:=rfl;have b:((91:Int)==(91:Int))=true:=rfl;have f:decide (D>8)=true:=by simp;omega
     refine⟨_,n.trans ?_,(by decide:(5:Int)≠0),0,⟨#[]⟩,false,91::l,h,rfl⟩
     repeat(with_reducible(first|apply Bk|apply A5|apply Bm|apply Bj|apply Bo|apply A4|apply Bn|apply H7);· first|constructor|(simp(disch:=omega)only[H9,a,v,b,f]<;>first|constructor|omega)|omega)
     try simp(disch:=omega)only[Aa,a,v,b,f]
   ·by_cases j:SU l=34
    ·cases l with
     |nil=>cases j
     |cons c l=>
      have z:c=34:=j;subst z;exact Ak8 ht 0 h
    ·rw[UO 0 m i j];exact A36 ht Be h m i j
 |succ k H=>
  intro D E G l h;have HV:=H (D+1) Ω Ω;by_cases m:SU l=123
  ·cases l with
   |nil=>cases m
   |cons c l=>
    have i:c=123:=m;subst i;have n:=C9 (p:=none) u (d+2*(k+1)+4) t (Bp t (123::l):Int) D;have a:Ac C0 prog u (d+2*(k+1)+4) 186 [.pbox (Dx t (123::l))]=some ⟨[.sc (.int .u8 123)],[Dx t (123::l)]⟩:=V9 (I:=xs0) (d:=d+2*(k+1)+3) h;have b:((123:Int)==(123:Int))=true:=rfl;have f:decide (D>8)=false:=by simp;omega
    have o:wrap .i64 (D+1)=D+1:=Ba;obtain⟨g,A,r⟩:=Bjv (u:=u) (d:=d+2*k+2) (D:=D+1) ht Be (Dc k) HV h;have s:Ac C0 prog u (d+2*(k+1)+4) 148 [.pbox (Dx t (123::l)),Av (D+1),.sc (.map none)]=some g:=A;have B:Dc (k+1) (123::l)=match BJ (Dc k) false l with | .error e=>.error e | .ok (_,r')=>.ok ((6,[],false),r'):=rfl
    rw[B];cases y:BJ (Dc k) false l with
    |error e=>
     rw[y] at r;obtain⟨C,q,w,rfl⟩:=r;refine⟨_,n.trans ?_,C,6,⟨#[]⟩,false,q,w,rfl⟩
     repeat(with_reducible(first|apply Bk|apply A5|apply Bm|apply Bj|apply Bo|apply A4|apply Bn|apply H7);· first|constructor|(simp(disch:=omega)only[H9,a,b,f,o,s]<;>first|constructor|omega)|omega)
     try simp(disch:=omega)only[Aa,a,b,f,o,s]
    |ok x=>
     obtain⟨J,q⟩:=x;rw[y] at r;obtain⟨w,rfl⟩:=r;refine⟨_,n.trans ?_,(D5.self h.B).tail.trans w,rfl⟩
     repeat(with_reducible(first|apply Bk|apply A5|apply Bm|apply Bj|apply Bo|apply A4|apply Bn|apply H7);· first|constructor|(simp(disch:=omega)only[H9,a,b,f,o,s]<;>first|constructor|omega)|omega)
     try simp(disch:=omega)only[Aa,a,b,f,o,s]
     rfl
  ·by_cases i:SU l=91
   ·cases l with
    |nil=>cases i
    |cons c l=>
     have j:c=91:=i;subst j;have n:=C9 (p:=none) u (d+2*(k+1)+4) t (Bp t (91::l):Int) D;have a:Ac C0 prog u (d+2*(k+1)+4) 186 [.pbox (Dx t (91::l))]=some ⟨[.sc (.int .u8 91)],[Dx t (91::l)]⟩:=V9 (I:=xs0) (d:=d+2*(k+1)+3) h;have v:((91:Int)==(123:Int))=false:=rfl;have b:((91:Int)==(91:Int))=true:=rfl;have f:decide (D>8)=false:=by simp;omega
     have o:wrap .i64 (D+1)=D+1:=Ba;obtain⟨g,A,r⟩:=Bie (u:=u) (d:=d+2*k+2) (D:=D+1) ht Be (Dc k) HV h;have s:Ac C0 prog u (d+2*(k+1)+4) 187 [.pbox (Dx t (91::l)),Av (D+1)]=some g:=A;have B:Dc (k+1) (91::l)=match QR (Dc k) l with | .error e=>.error e | .ok r'=>.ok ((5,[],false),r'):=rfl
     rw[B];cases y:QR (Dc k) l with
     |error e=>
      rw[y] at r;obtain⟨C,q,w,rfl⟩:=r;refine⟨_,n.trans ?_,C,5,⟨#[]⟩,false,q,w,rfl⟩
      repeat(with_reducible(first|apply Bk|apply A5|apply Bm|apply Bj|apply Bo|apply A4|apply Bn|apply H7);· first|constructor|(simp(disch:=omega)only[H9,a,v,b,f,o,s]<;>first|constructor|omega)|omega)
      try simp(disch:=omega)only[Aa,a,v,b,f,o,s]
     |ok q=>
      rw[y] at r;obtain⟨w,rfl⟩:=r;refine⟨_,n.trans ?_,(D5.self h.B).tail.trans w,rfl⟩
      repeat(with_reducible(first|apply Bk|apply A5|apply Bm|apply Bj|apply Bo|apply A4|apply Bn|apply H7);· first|constructor|(simp(disch:=omega)only[H9,a,v,b,f,o,s]<;>first|constructor|omega)|omega)
      try simp(disch:=omega)only[Aa,a,v,b,f,o,s]
      rfl
   ·by_cases j:SU l=34
    ·cases l with
     |nil=>cases j
     |cons c l=>
      have z:c=34:=j;subst z;exact Ak8 (d:=d+2*(k+1)) ht (k+1) h
    ·rw[UO (k+1) m i j];exact A36 (d:=d+2*(k+1)) ht Be h m i j
end
section
open Go.Shelf Go.RowKit Go.Lib
theorem Arx(G:MD)(args:Ae)(a:A3)(h:Ak9 args=some a):Ep G prog 193 args a:=by
 refine⟨⟨_,Tryz.func193,Κ⟩,λw Y bt us hi _ _=>?_⟩;unfold Ak9 at h;split at h
 rotate_left
 ·cases h
 rename_i s p;cases c:(jg p.size 1000&&p.data.toList.all (λb=>decide (b.toNat<128))&&decide (s.size<=1000000000))
 ·rw[c] at h;cases h
 rw[c,cond_true] at h;cases h;rw[Gh,Gh] at c;obtain⟨⟨d,i⟩,f⟩:=c;have d:=Vc d;have f:=of_decide_eq_true f;have ps:=hi.args
 match us,ps with
 |[u1,g],ps=>
  obtain⟨⟨_,j⟩,⟨_,k⟩,_⟩:=ps;have l:u1=.string s:=A7.val (show A7 w _ (Bg s) u1 from j);have m:g=.string p:=A7.val (show A7 w _ (Bg p) g from k);subst l m;refine (Any.strings_Trim_laid Aq4 Κ s p w Ω Ω (ascii_of_all i)).mono ?_
  rintro e w' ⟨rfl,n⟩
  exact⟨[.string ⟨(Lib.trimS s.data.toList p.data.toList).toArray⟩],λ_=>none,rfl,AV n rfl⟩
 |[],ps=>exact ps.elim
 |[_],ps=>exact ps.2.elim
 |_::_::_::_,ps=>exact ps.2.2.elim
end
section
open Go.RowKit Go.Lib
theorem Agw:(prog.info? 73).map (λi=>(i.zero,i.size,i.bytes))=some (some (.agg #[.int .i64 0,.int .i64 0]),2,16):=Κ
theorem MM:prog.underlying 41=some (.slice 73):=Κ
theorem Be7:prog.underlying 3=some (.int .i64):=Κ
set_option maxHeartbeats 4000000 in
theorem Ax8(b off n c i vb voff vc:Nat)(cs vs:List Value)(w:World)(hi:i<n)(Yw:n+1<=c)(Bg4:n<=100000)(o:vb≠b)(Sf:cs.length=n*2)(QA:vs.length=2)(EF:∀j v,cs[j]?=some v->w.cell? ⟨b,off+j,none⟩=some v)(p:∀j,j<(n+1)*2->(w.cell? ⟨b,off+j,none⟩).isSome=true)(EO:∀j,j<(n+1)*2->w.frozen? ⟨b,off+j,none⟩=false)(Ox:∀j v,vs[j]?=some v->w.cell? ⟨vb,voff+j,none⟩=some v)(s:∀v∈cs,v.oneCell'=true)(t:∀v∈vs,v.oneCell'=true)(tA tB:TypeId)(kA kB:Nat)(y:w.shape? vb=some (tA,kA))(z:w.shape? b=some (tB,kB))(A:kB≠0)(B:w.frozen? ⟨vb,voff,none⟩=false)(C:w.frozen? ⟨vb,kA,none⟩=false):
  Calls prog 106 #[.slice (some ⟨b,off,none⟩) n c,.int .i64 i,.slice (some ⟨vb,voff,none⟩) 1 vc] w λe w'=>
   e=.returned (.slice (some ⟨b,off,none⟩) (n+1) c)/\w'=(w.drew.setCells b (off+(i+1)*2) (cs.drop (i*2))).setCells b (off+i*2) vs:=by
 obtain⟨K,d,L,f,M⟩:=info_parts Agw;have N:¬((i:Int)=(n:Int)):=Ω
 have D:∀E G,(callFunc 138 #[.slice (some ⟨vb,voff,none⟩) 1 vc,.slice (some ⟨b,off+(i+1)*2,none⟩) E G]).run prog w=.ok (.value (.bool false)) w:=λE G=>by
  rw[run_callFunc_extern Tryz.func138 Κ Κ Κ (e:=Extern.SlicesOverlaps.overlaps #[41,41] #[4]) Κ,
   Lib.run_overlaps_apart w 41 4 73 MM 2 (λw=>by simp[sizeOf,typeInfo,d,f]) ⟨vb,voff,none⟩ ⟨b,off+(i+1)*2,none⟩ 1 vc E G o tA tB kA kB y z A B C]
  rfl
 have H:(cs.drop (i*2)).length=(n-i)*2:=by rw[yr,Sf];omega
 have O:IntKind.i64.wrap ((i:Int)+1)=(i:Int)+1:=by rw[IntKind.wrap_i64];omega
 have P:IntKind.i64.wrap ((n:Int)+1)=(n:Int)+1:=by rw[IntKind.wrap_i64];omega
 have mixed:prog.follows Departure.mixedOrders=true:=Κ
 have U:(0:Int)<=(i:Int)+1:=Ω
 have MK:i<=n:=Ω
 have Q:((i:Int)+1).toNat=i+1:=Ω
 have Ke:¬(c=i+1):=Ω
 have SM:(i:Int)<=(n:Int)+1:=Ω
 have R:¬(c=i):=Ω
 have Bir:∀g l sc,(vr #[41,41] g #[.slice (some ⟨b,off+(i+1)*2,none⟩) (n-i) l,.slice (some ⟨b,off+i*2,none⟩) (n+1-i) sc]).run prog w.drew=.ok (goInt ((n-i:Nat):Int)) (w.drew.setCells b (off+(i+1)*2) (cs.drop (i*2))):=λg l sc=>
  JZ w.drew _ _ g 73 K b (off+(i+1)*2) (n-i) l ⟨b,off+i*2,none⟩ (n+1-i) sc (n-i) (cs.drop (i*2)) MM d (by simp only[wx];split<;>omega) (by rw[f];exact H)
   (λj v m=>by rw[Addr.add_lit,Ld];exact EF (i*2+j) v (by rwa [zg] at m))
   (λj m=>by rw[Ld];exact p _ Ω) (λj m=>by rw[Ld];exact EO _ Ω) (λv S=>s v (kj S))
 obtain⟨q,a⟩:∃q,q=w.drew.setCells b (off+(i+1)*2) (cs.drop (i*2)):=⟨_,rfl⟩
 have Bnp:∀k,k<(n+1)*2->(q.cell? ⟨b,off+k,none⟩).isSome=true:=λk T=>by
  rw[a];exact Tq b _ _ _ _ (p k T)
 have Bpi:∀(W:World),(∀x,W.cell? x=q.cell? x)->(∀x,W.frozen? x=q.frozen? x)->∀g l,(vr #[41,41] g #[.slice (some ⟨b,off+i*2,none⟩) (n+1-i) l,.slice (some ⟨vb,voff,none⟩) 1 vc]).run prog W=.ok (goInt 1) (W.setCells b (off+i*2) vs):=λW r J g l=>
  JZ W _ _ g 73 K b (off+i*2) (n+1-i) l ⟨vb,voff,none⟩ 1 vc 1 vs MM d (by simp only[wx];split<;>omega) (by rw[QA,f])
   (λj v m=>by
    rw[Addr.add_lit,r,a,vk b _ _ _ _ (λh _=>absurd h o)];exact Ox j v m)
   (λj m=>by rw[r,Ld];exact Bnp _ Ω) (λj m=>by rw[J,a,my,Ld];exact EO _ Ω) t
 rw[<-a] at Bir
 go_enter Tryz.func106,Tryz.ntmps106
 go_wp2_with (simp only[D])
 go_region_law_o (refine HE rfl _ _ 41 41 rfl _ _ (by simp[Act.eval,Act.put]) (by simp[Act.eval,Act.put]) (Bir _ _ _) ?_)
 go_wp2_with (at_builtin;refine Rk _ rfl _ _ 41 41 rfl _ _ rfl rfl (Bpi _ (λ_=>rfl) (λ_=>rfl) _ _) ?_)
 go_ret
 first|exact⟨rfl,rfl⟩|exact⟨rfl,by rw[a]⟩
theorem A17{vb voff vc:Nat}(QA:vs.length=2)(Ox:∀j v,vs[j]?=some v->w.cell? ⟨vb,voff+j,none⟩=some v)(b:∀v∈vs,v.oneCell'=true):
  Pv.Src prog w (λ_=>False) 2 (.slice (some ⟨vb,voff,none⟩) 1 vc) 1 (vs.map .sc) vs where
 len:=λw'=>by simp[m8]
 cells:=λw' d=>by
  refine Pv.run_first_slice (w:=w') (.inr ⟨_,rfl,Ω,λj v a=>?_⟩);have c:=Ox j v a;rw[Addr.add_lit,jw (w:=w) (d vb (block_lt_of_cell c))];exact c
 part:=λk f=>by
  refine run_firstCells_some w 2 k ⟨vb,voff,none⟩ 1 vc _ (by rw[x7];omega) λj v a=>?_
  rw[zt] at a;split at a
  ·rw[Addr.add_lit];exact Ox j v a
  ·cases a
 one:=b
 rep:=by
  clear Ox b QA
  induction vs with
  |nil=>trivial
  |cons v vs e=>exact⟨.sc v,e⟩
set_option maxHeartbeats 4000000 in
theorem Aho(b off n c vb voff vc:Nat)(vs:List Value)(w:World)(Yw:n+1<=c)(QA:vs.length=2)(d:∀j,j<2->(w.cell? ⟨b,off+n*2+j,none⟩).isSome=true)(EO:∀j,j<2->w.frozen? ⟨b,off+n*2+j,none⟩=false)(Ox:∀j v,vs[j]?=some v->w.cell? ⟨vb,voff+j,none⟩=some v)(f:∀v∈vs,v.oneCell'=true):
  Calls prog 106 #[.slice (some ⟨b,off,none⟩) n c,.int .i64 n,.slice (some ⟨vb,voff,none⟩) 1 vc] w λe w'=>
   e=.returned (.slice (some ⟨b,off,none⟩) (n+1) c)/\w'=w.setCells b (off+n*2) vs:=by
 obtain⟨q,g,l,a,m⟩:=info_parts Agw;have i:=A17 (vc:=vc) QA Ox f;rw[<-a] at i d EO ⊢
 have o:∀h,(vn #[41,41] h #[.slice (some ⟨b,off,none⟩) n c,.slice (some ⟨vb,voff,none⟩) 1 vc]).run prog w=_:=λh=>
  Pv.append_room_run (P:=prog) (w:=w) (t:=41) (tx:=41) (ty:=h) (ts:=[]) (b:=b) (ob:=off) (n:=n) (cap:=c) MM MM (λk=>Ψ) g i (by rw[QA,a]) (λk p=>d k (by rw[a];omega)) (λk p=>EO k (by rw[a];omega)) Yw
 have mixed:prog.follows Departure.mixedOrders=true:=Κ
 go_enter Tryz.func106,Tryz.ntmps106
 go_wp2_with (at_builtin;refine mc _ rfl _ _ _ _ rfl _ _ rfl rfl _ _ (o _) ?_)
 go_ret
 exact⟨rfl,by rw[a]⟩
set_option maxHeartbeats 4000000 in
theorem Aie(base:Option Addr)(n c vb voff vc:Nat)(cs vs:List Value)(w:World)(r:n<=c)(Yw:c<n+1)(Bg4:n<=100000)(Sf:cs.length=n*2)(QA:vs.length=2)(EF:(base=none/\cs=[])\/∃p,base=some p/\∀j v,cs[j]?=some v->w.cell? (p.add j)=some v)(Ox:∀j v,vs[j]?=some v->w.cell? ⟨vb,voff+j,none⟩=some v)(d:∀v∈vs,v.oneCell'=true):
  Calls prog 106 #[.slice base n c,.int .i64 n,.slice (some ⟨vb,voff,none⟩) 1 vc] w λe w'=>
   e=.returned (.slice (some ⟨w.heap.size,0,none⟩) (n+1) (grownCap w (n+1) c 73)) /\
   w'=w.drew.alloc (.cells (cs.toArray++vs.toArray++vp #[.int .i64 0,.int .i64 0] (grownCap w (n+1) c 73-(n+1))) 73):=by
 obtain⟨x,f,i,b,l⟩:=info_parts Agw;have o:=A17 (vc:=vc) QA Ox d;rw[<-b] at o
 have q:∀m,(vn #[41,41] m #[.slice base n c,.slice (some ⟨vb,voff,none⟩) 1 vc]).run prog w=_:=λm=>
  Pv.append_grow_run (P:=prog) (w:=w) (t:=41) (tx:=41) (ty:=m) (ts:=[]) (ad:=base) (n:=n) (cap:=c) (olds:=cs) MM MM (λk=>Ψ) f i o (by
   rcases EF with h|⟨p,h,g⟩
   ·exact .inl h
   ·exact .inr ⟨p,h,by rw[b];exact Sf,g⟩) Yw (by rw[l];omega) Ω
 have NI:base=none->n=0:=by
  rintro rfl
  rcases EF with⟨_,rfl⟩|⟨p,h,_⟩
  ·simp at Sf;omega
  ·cases h
 have mixed:prog.follows Departure.mixedOrders=true:=Κ
 clear EF
 go_enter Tryz.func106,Tryz.ntmps106
 cases base with
 |none=>
  have s:=NI rfl;subst s
  go_wp2_with (at_builtin;refine mc _ rfl _ _ _ _ rfl _ _ rfl rfl _ _ (q _) ?_)
  go_ret
  exact⟨rfl,rfl⟩
 |some a=>
  go_wp2_with (at_builtin;refine mc _ rfl _ _ _ _ rfl _ _ rfl rfl _ _ (q _) ?_)
  go_ret
  exact⟨rfl,rfl⟩
set_option maxHeartbeats 4000000 in
theorem A22(b off n c i vb voff vc:Nat)(cs vs:List Value)(w:World)(hi:i<n)(U:n<=c)(Yw:c<n+1)(Bg4:n<=100000)(Sf:cs.length=n*2)(QA:vs.length=2)(EF:∀j v,cs[j]?=some v->w.cell? ⟨b,off+j,none⟩=some v)(Ox:∀j v,vs[j]?=some v->w.cell? ⟨vb,voff+j,none⟩=some v)(C:∀v∈cs,v.oneCell'=true)(D:∀v∈vs,v.oneCell'=true):
  Calls prog 106 #[.slice (some ⟨b,off,none⟩) n c,.int .i64 i,.slice (some ⟨vb,voff,none⟩) 1 vc] w λe w'=>
   e=.returned (.slice (some ⟨w.heap.size,0,none⟩) (n+1) (grownCap w (n+1) c 73)) /\
   w'=(((w.alloc (.cells ((cs.take (i*2)).toArray++vp #[.int .i64 0,.int .i64 0] (n+1-i)++vp #[.int .i64 0,.int .i64 0] (grownCap w (n+1) c 73-(n+1))) 73)).drew.setCells w.heap.size (i*2) vs).drew).setCells w.heap.size ((i+1)*2) (cs.drop (i*2)):=by
 obtain⟨A,o,E,p,t⟩:=info_parts Agw;have V:¬((i:Int)=(n:Int)):=Ω
 have X:(c:Int)<(n:Int)+1:=Ω
 have H:b<w.heap.size:=block_lt_of_cell (EF 0 _ (zd Ω));have J:vb<w.heap.size:=block_lt_of_cell (Ox 0 _ (zd Ω));have y:(n:Int)+1-(i:Int)=((n+1-i:Nat):Int):=Ω
 have q:i+(n+1-i)=n+1:=Ω
 have m:(vm A.size i (.slice (some ⟨b,off,none⟩) i c)).run prog w.drew=.ok (cs.take (i*2)).toArray w.drew:=by
  rw[p]
  exact run_firstCells_some w.drew 2 i ⟨b,off,none⟩ i c (cs.take (i*2)) (by rw[x7];omega) (λj v a=>by
   rw[Addr.add_lit];rw[zt] at a;split at a
   ·exact EF j v a
   ·cases a)
 have l:∀f,(vn #[41,3] f #[.slice (some ⟨b,off,none⟩) i c,.int .i64 ((n:Int)+1-(i:Int))]).run prog w =
   .ok (.slice (some ⟨w.heap.size,0,none⟩) (n+1) (grownCap w (n+1) c 73)) (w.drew.alloc (.cells ((cs.take (i*2)).toArray++vp #[.int .i64 0,.int .i64 0] (n+1-i)++vp #[.int .i64 0,.int .i64 0] (grownCap w (n+1) c 73-(n+1))) 73)):=λf=>by
  have h:=Lib.run_append_grow_zeros w 41 3 f 73 A _ .i64 .i64 MM Be7 o E (some ⟨b,off,none⟩) i c (cs.take (i*2)) m (n+1-i) Ω Ω Ω Ω (by rw[t];omega) (by rw[t,q];exact growslice_fits Yw Ω)
  rw[q] at h;rw[y];exact h
 obtain⟨G,B⟩:∃G,G=grownCap w (n+1) c 73:=⟨_,rfl⟩
 obtain⟨ROW,Alx⟩:∃ROW:Array Value,ROW=(cs.take (i*2)).toArray++vp #[.int .i64 0,.int .i64 0] (n+1-i)++vp #[.int .i64 0,.int .i64 0] (G-(n+1)):=⟨_,rfl⟩
 rw[<-B] at l ⊢;rw[<-Alx] at l ⊢
 have K:(n+1)*2<=ROW.size:=by
  rw[Alx];simp[vp];omega
 obtain⟨k,d⟩:∃k,k=w.drew.alloc (.cells ROW 73):=⟨_,rfl⟩
 rw[<-d] at l
 have T:∀j,j<(n+1)*2->(k.cell? ⟨w.heap.size,j,none⟩).isSome=true:=λj a=>by
  rw[d,mz (w:=w.drew) ROW _ w.heap.size j rfl,gx Ω];rfl
 have z:∀j,k.frozen? ⟨w.heap.size,j,none⟩=false:=λj=>by rw[d];exact m4 (w:=w.drew) ROW _ w.heap.size j rfl
 have L:∀j v,w.cell? ⟨b,j,none⟩=some v->k.cell? ⟨b,j,none⟩=some v:=λj v h=>by rw[d,m7 (w:=w.drew) _ b j H];exact h
 have M:∀j v,w.cell? ⟨vb,j,none⟩=some v->k.cell? ⟨vb,j,none⟩=some v:=λj v h=>by rw[d,m7 (w:=w.drew) _ vb j J];exact h
 have Bp9:∀(W:World),(∀x,W.cell? x=k.cell? x)->(∀x,W.frozen? x=k.frozen? x)->∀f r,(vr #[41,41] f #[.slice (some ⟨w.heap.size,i*2,none⟩) (n+1-i) r,.slice (some ⟨vb,voff,none⟩) 1 vc]).run prog W=.ok (goInt 1) (W.setCells w.heap.size (i*2) vs):=λW g s f r=>
  JZ W _ _ f 73 A w.heap.size (i*2) (n+1-i) r ⟨vb,voff,none⟩ 1 vc 1 vs MM o (by simp only[wx];split<;>omega) (by rw[QA,p])
   (λj v a=>by rw[Addr.add_lit,g];exact M _ v (Ox j v a))
   (λj a=>by rw[g];exact T _ Ω) (λj a=>by rw[s];exact z _) D
 have Y:n+1<=G:=by rw[B];exact grownCap_ge w _ _ _
 have Bx0:G<=9223372036854775807:=by
  have:=grownCap_le_maxLen w (n+1) c 73 (by unfold maxLen;omega)
  rw[<-B] at this;unfold maxLen at this;omega
 have Z:¬(G=i):=Ω
 have Bxy:¬(G=i+1):=Ω
 have hci:¬(c=i):=Ω
 have N:b≠w.heap.size:=Ω
 have O:(cs.drop (i*2)).length=(n-i)*2:=by rw[yr,Sf];omega
 have Bgs:∀(W:World),(∀x,W.cell? x=(k.setCells w.heap.size (i*2) vs).cell? x)->(∀x,W.frozen? x=(k.setCells w.heap.size (i*2) vs).frozen? x)->∀f r sc,(vr #[41,41] f #[.slice (some ⟨w.heap.size,(i+1)*2,none⟩) (n-i) r,.slice (some ⟨b,off+i*2,none⟩) (n-i) sc]).run prog W=.ok (goInt ((n-i:Nat):Int)) (W.setCells w.heap.size ((i+1)*2) (cs.drop (i*2))):=λW g s f r sc=>
  JZ W _ _ f 73 A w.heap.size ((i+1)*2) (n-i) r ⟨b,off+i*2,none⟩ (n-i) sc (n-i) (cs.drop (i*2)) MM o (by simp only[wx];split<;>omega) (by rw[p];exact O)
   (λj v a=>by
    rw[Addr.add_lit,g,vk _ _ _ _ _ (λh _=>absurd h N),Ld];exact L _ v (EF (i*2+j) v (by rwa [zg] at a)))
   (λj a=>by rw[g];exact Tq _ _ _ _ _ (T _ Ω))
   (λj a=>by rw[s,my];exact z _) (λv hv=>C v (kj hv))
 subst d;have P:∀x,((w.alloc (.cells ROW 73)).drew).cell? x=(w.drew.alloc (.cells ROW 73)).cell? x:=λx=>rfl;have Q:∀x,((w.alloc (.cells ROW 73)).drew).frozen? x=(w.drew.alloc (.cells ROW 73)).frozen? x:=λx=>rfl;have R:∀x,(((w.alloc (.cells ROW 73)).drew.setCells w.heap.size (i*2) vs).drew).cell? x=((w.drew.alloc (.cells ROW 73)).setCells w.heap.size (i*2) vs).cell? x:=λx=>rfl;have S:∀x,(((w.alloc (.cells ROW 73)).drew.setCells w.heap.size (i*2) vs).drew).frozen? x=((w.drew.alloc (.cells ROW 73)).setCells w.heap.size (i*2) vs).frozen? x:=λx=>rfl;have hw1:IntKind.i64.wrap ((i:Int)+1)=(i:Int)+1:=by rw[IntKind.wrap_i64];omega
 have hw2:IntKind.i64.wrap ((n:Int)+1)=(n:Int)+1:=by rw[IntKind.wrap_i64];omega
 have hw3:IntKind.i64.wrap ((n:Int)+1-(i:Int))=(n:Int)+1-(i:Int):=by rw[IntKind.wrap_i64];omega
 have G2:(0:Int)<=(i:Int)+1:=Ω
 have MK:i<=n:=Ω
 have htn:((i:Int)+1).toNat=i+1:=Ω
 have SM:(i:Int)<=(n:Int):=Ω
 have mixed:prog.follows Departure.mixedOrders=true:=Κ
 clear y q m Alx B K
 go_enter Tryz.func106,Tryz.ntmps106
 go_wp2_with (first
  |(at_builtin;refine mc _ rfl _ _ _ _ rfl _ _ rfl rfl _ _ (l _) ?_)
  |(at_builtin;refine Rk _ rfl _ _ 41 41 rfl _ _ rfl rfl (Bp9 _ P Q _ _) ?_)
  |(at_builtin;refine Rk _ rfl _ _ 41 41 rfl _ _ rfl rfl (Bgs _ (λ_=>rfl) (λ_=>rfl) _ _ _) ?_))
 go_region_law_o (refine HE rfl _ _ 41 41 rfl (.slice (some ⟨w.heap.size,(i+1)*2,none⟩) (n-i) (G-(i+1))) (.slice (some ⟨b,off+i*2,none⟩) (n-i) (c-i)) (by simp[Act.eval,Act.put]) (by simp[Act.eval,Act.put]) (Bgs _ R S 3 (G-(i+1)) (c-i)) ?_)
 go_wp2
 go_ret
 exact⟨rfl,rfl⟩
end
section
open Go.RowKit Go.Lib
structure SS(w w':World):Prop where
 os:w'.os=w.os
 tape:w'.tape=w.tape
 output:w'.output=w.output
 old:∀k,k<w.heap.size->w'.heap[k]?=w.heap[k]?
 size:w'.heap.size=w.heap.size+1
 frz:∀j,w'.frozen? ⟨w.heap.size,j,none⟩=false
theorem SS.alloc(w:World)(c:Array Value)(e:TypeId):SS w (w.alloc (.cells c e)):=
 ⟨rfl,rfl,rfl,λb a=>Below.heap_alloc w _ b a,by show (w.heap.push _).size=_;simp,λj=>m4 (w:=w) c e w.heap.size j rfl⟩
theorem SS.allocD(w:World)(c:Array Value)(e:TypeId):SS w (w.drew.alloc (.cells c e)):=by have h:=SS.alloc w.drew c e;exact⟨h.os,h.tape,h.output,h.old,h.size,h.frz⟩
theorem SS.wrote{w'':World}(h:SS w w')(g:De w.heap.size w' w''):SS w w'':=
 ⟨g.os.trans h.os,g.tape.trans h.tape,g.output.trans h.output,λk a=>(g.other k Ω).trans (h.old k a),g.size.trans h.size,λj=>(g.frz j).trans (h.frz j)⟩
theorem De.drew(b:Nat)(w:World):De b w w.drew:=⟨rfl,rfl,rfl,rfl,λ_ _=>rfl,rfl,λ_=>rfl⟩
theorem A1n{a:Addr}:∀{cs:List Value},RdT w A a (cs.map .sc)->∀j v,cs[j]?=some v->w.cell? (a.add j)=some v/\v.oneCell'=true:=by
 intro cs h j v b;obtain⟨u,c,d,e⟩:=h j (.sc v) (by rw[zr,b];rfl)
 cases e;exact⟨c,d⟩
theorem Ajr{a:Addr}{cs:List Value}(h:∀j v,cs[j]?=some v->w.cell? (a.add j)=some v)(c:∀v∈cs,v.oneCell'=true):RdT w A a (cs.map .sc):=by
 intro j p hp;rw[zr] at hp;cases b:cs[j]? with
 |none=>rw[b] at hp;cases hp
 |some v=>
  rw[b] at hp;cases hp;exact⟨v,h j v b,c v (zn b),.sc v⟩
theorem Asx:∀{c:Ae},c.all ZK=true->∃cs:List Value,c=cs.map .sc
 |[],_=>⟨[],rfl⟩
 |p::c,h=>by
  simp only[List.all_cons,Gh] at h;obtain⟨cs,rfl⟩:=Asx h.2;have hp:=h.1;unfold ZK at hp;split at hp
  ·exact⟨_::cs,rfl⟩
  ·cases hp
def QY(q:Nat × Nat):Bt:=λj=>match j with|0=>some q|_=>none
def LK(i:Nat)(cs vs:List Value):List Value:=cs.take (i*2)++vs++cs.drop (i*2)
theorem Alp{j:Nat}{cs:List Value}(hi:i<=n)(d:cs.length=n*2)(b:vs.length=2)(h:(LK i cs vs)[j]?=some v):
  (j<i*2/\cs[j]?=some v)\/(i*2<=j/\j<i*2+2/\vs[j-i*2]?=some v)\/((i+1)*2<=j/\(cs.drop (i*2))[j-(i+1)*2]?=some v):=by
 unfold LK at h;have lt:(cs.take (i*2)).length=i*2:=by rw[x7];omega
 by_cases a:j<i*2
 ·rw[Zzv,zi Ω,zt,Bv a] at h;exact .inl ⟨a,h⟩
 ·by_cases c:j<i*2+2
  ·rw[Zzv,kf Ω,lt,zi Ω] at h;exact .inr (.inl ⟨Ω,c,h⟩)
  ·rw[kf (by simp;omega)] at h
   refine .inr (.inr ⟨Ω,?_⟩);rw[Ru,lt,b] at h;rw[<-h]
   congr 1
   omega
section
variable {w w':World}{Y:Nat->Prop}{bt:QW}{args:Ae}{L vs:List Value}{n cap b o vb vo:Nat}{x1:PV}{x0:PV}
theorem Awm(g:bt 0 1=some (b,o))(A:bt 2 0=some (vb,vo))(B:vb≠b)(s:b<w.heap.size)(QA:vb<w.heap.size)(a:De b w w')(Aut:∀j,j<o->w'.cell? ⟨b,j,none⟩=w.cell? ⟨b,j,none⟩)(C:n<=cap)(D:Fit w 2 b (o+cap*2))(EO:∀j,o<=j->j<bsz w b->w.frozen? ⟨b,j,none⟩=false)(E:∀j v,L[j]?=some v->w'.cell? ⟨b,o+j,none⟩=some v)(G:∀v∈L,v.oneCell'=true)(Ox:∀j v,vs[j]?=some v->w.cell? ⟨vb,vo+j,none⟩=some v)(H:∀v∈vs,v.oneCell'=true)(i:∀j,vo<=j->j<bsz w vb->w.frozen? ⟨vb,j,none⟩=false)(e0:∀ps,x0 ≠ .pbox ps)(l:∀ps,x0 ≠ .tup ps)(J:∀ps,x1 ≠ .pbox ps)(m:∀ps,x1 ≠ .tup ps){q:Ae}:
  Out w w' Y bt [x0,x1,.tup q] (QY (b,o)) ⟨[.own 2 n (L.map .sc)],[vs.map .sc]⟩ [.slice (some ⟨b,o,none⟩) n cap] where
 os:=a.os
 tape:=a.tape
 output:=a.output
 ext:=⟨by rw[a.size];exact Cz _,λk _ t=>a.other k (λe=>t (e ▸ ⟨0,1,o,g⟩)),λk _=>a.grow k⟩
 rng:=λk j t K=>by
  by_cases e:k=b
  ·subst e
   have c:j<o:=by
    refine Nat.lt_of_not_le λJJ=>K ⟨0,x0,rfl,Or.inl ⟨0,o,g,JJ⟩⟩
   exact⟨Aut j c,a.frz j⟩
  ·exact⟨by unfold jy;simp only[a.other k e],by unfold ju;simp only[a.other k e]⟩
 vals:=⟨.inr ⟨b,o,cap,rfl,rfl,C,D.step (a.grow b),by rw[a.size];exact s,Ajr (λj v c=>by rw[E1];exact E j v c) G,λj c f=>by rw[a.frz];exact EO j c (by rw[a.bs] at f;exact f)⟩,trivial⟩
 outs:=by
  have d:w'.heap[vb]?=w.heap[vb]?:=a.other vb B;have p:bsz w' vb=bsz w vb:=by unfold bsz;rw[d]
  have h:N9 w' (IK bt (QY (b,o)) Y) (QY (b,o)) bt 1 2 [.tup q] [vs.map .sc]:=by
   refine⟨.inr ⟨vb,vo,A,Ajr (λj v c=>?_) H,λj c f=>?_⟩,rfl⟩
   ·rw[E1,jw (w:=w) d];exact Ox j v c
   ·rw[jx (w:=w) d];exact i j c (by rw[p] at f;exact f)
  have r:N9 w' (IK bt (QY (b,o)) Y) (QY (b,o)) bt 1 1 [x1,.tup q] [vs.map .sc]:=by
   unfold N9;cases x1<;>first|exact h|exact absurd rfl (J _)|exact absurd rfl (m _)
  show N9 w' (IK bt (QY (b,o)) Y) (QY (b,o)) bt 1 0 [x0,x1,.tup q] [vs.map .sc];unfold N9;cases x0<;>first|exact r|exact absurd rfl (e0 _)|exact absurd rfl (l _)
 fresh:=λj k y h=>by
  cases j with
  |zero=>
   cases h;refine⟨by rw[a.size];exact s,λ_=>⟨⟨0,0,o,g⟩,λx M=>⟨0,x0,rfl,Or.inl ⟨0,o,g,M⟩⟩⟩⟩
  |succ j=>cases h
 inj:=λj z k y N h r=>by
  cases j with
  |zero=>cases z with
   |zero=>rfl
   |succ z=>cases r
  |succ j=>cases h
theorem A5u(p:bt 2 0=some (vb,vo))(QA:vb<w.heap.size)(a:SS w w')(r:n<=cap)(A:cap*2<=bsz w' w.heap.size)(s:∀j v,L[j]?=some v->w'.cell? ⟨w.heap.size,j,none⟩=some v)(t:∀v∈L,v.oneCell'=true)(Ox:∀j v,vs[j]?=some v->w.cell? ⟨vb,vo+j,none⟩=some v)(x:∀v∈vs,v.oneCell'=true)(e:∀j,vo<=j->j<bsz w vb->w.frozen? ⟨vb,j,none⟩=false)(e0:∀ps,x0 ≠ .pbox ps)(f:∀ps,x0 ≠ .tup ps)(z:∀ps,x1 ≠ .pbox ps)(g:∀ps,x1 ≠ .tup ps){q:Ae}:
  Out w w' Y bt [x0,x1,.tup q] (QY (w.heap.size,0)) ⟨[.own 2 n (L.map .sc)],[vs.map .sc]⟩ [.slice (some ⟨w.heap.size,0,none⟩) n cap] where
 os:=a.os
 tape:=a.tape
 output:=a.output
 ext:=⟨by rw[a.size];omega,λk c _=>a.old k c,λk c=>Kk.same (a.old k c)⟩
 rng:=λk j c _=>⟨by unfold jy;simp only[a.old k c],by unfold ju;simp only[a.old k c]⟩
 vals:=⟨.inr ⟨w.heap.size,0,cap,rfl,rfl,r,⟨Ω,.inr (a.frz _)⟩,by rw[a.size];omega,Ajr (λj v d=>by rw[E1,I8];exact s j v d) t,λj _ _=>a.frz j⟩,trivial⟩
 outs:=by
  have b:w'.heap[vb]?=w.heap[vb]?:=a.old vb QA;have i:bsz w' vb=bsz w vb:=by unfold bsz;rw[b]
  have h:N9 w' (IK bt (QY (w.heap.size,0)) Y) (QY (w.heap.size,0)) bt 1 2 [.tup q] [vs.map .sc]:=by
   refine⟨.inr ⟨vb,vo,p,Ajr (λj v d=>?_) x,λj d m=>?_⟩,rfl⟩
   ·rw[E1,jw (w:=w) b];exact Ox j v d
   ·rw[jx (w:=w) b];exact e j d (by rw[i] at m;exact m)
  have l:N9 w' (IK bt (QY (w.heap.size,0)) Y) (QY (w.heap.size,0)) bt 1 1 [x1,.tup q] [vs.map .sc]:=by
   unfold N9;cases x1<;>first|exact h|exact absurd rfl (z _)|exact absurd rfl (g _)
  show N9 w' (IK bt (QY (w.heap.size,0)) Y) (QY (w.heap.size,0)) bt 1 0 [x0,x1,.tup q] [vs.map .sc];unfold N9;cases x0<;>first|exact l|exact absurd rfl (e0 _)|exact absurd rfl (f _)
 fresh:=λj k y h=>by
  cases j with
  |zero=>cases h;exact⟨by rw[a.size];omega,λCt=>absurd Ct (wo _)⟩
  |succ j=>cases h
 inj:=λj o k y B h l=>by
  cases j with
  |zero=>cases o with
   |zero=>rfl
   |succ o=>cases l
  |succ j=>cases h
end
theorem Auq(G:MD)(args:Ae)(N:A3)(h:A3l args=some N):Ep G prog 106 args N:=by
 refine⟨⟨_,Tryz.func106,Κ⟩,λw Y bt us hi _ _=>?_⟩;unfold A3l at h;split at h
 rotate_left
 ·cases h
 rename_i n c i f l;cases O:(Nat.beq c.length (n*2)&&decide (0<=i)&&decide (i<=n)&&jg n 100000&&c.all ZK)
 ·rw[O] at h;cases h
 rw[O] at h;simp only[Gh,JT] at O;obtain⟨⟨⟨⟨A,h0⟩,B⟩,P⟩,P9⟩:=O;have A:=Ed A;have P:=Vc P;simp only[cond_true] at h;cases h;obtain⟨k,rfl⟩:=g8 h0;have hk:k<=n:=Ω
 obtain⟨a,rfl⟩:=Asx P9;rw[zv] at A
 have eL:yt (wj (k:Int)*2) (a.map PV.sc)++(PV.sc (.int .i64 f)::PV.sc (.int .i64 l)::List.drop (wj (k:Int)*2) (a.map PV.sc))=(LK k a [.int .i64 f,.int .i64 l]).map .sc:=by
  unfold LK;rw[Hy,kn,kn,bj,bh,Zzv];rfl
 rw[eL];clear h0 B P9 eL;obtain⟨vs,A54⟩:∃vs:List Value,vs=[.int .i64 f,.int .i64 l]:=⟨_,rfl⟩
 have QA:vs.length=2:=by rw[A54];rfl
 have m:∀v∈vs,v.oneCell'=true:=by
  intro v g;rw[A54] at g;rcases zl.1 g with rfl|g
  ·rfl
  ·rw[Tx] at g;subst g;rfl
 have evm:[PV.sc (.int .i64 f),PV.sc (.int .i64 l)]=vs.map .sc:=by rw[A54];rfl
 rw[<-A54];have ps:=hi.args;rw[evm] at ps ⊢
 match us,ps with
 |[u0,u1,u2],ps=>
  obtain⟨⟨_,p0⟩,⟨_,p1⟩,⟨es2,n2,c2,e2,p2⟩,_⟩:=ps;simp only[List.cons.injEq,PV.own.injEq,and_true] at e2;obtain⟨rfl,rfl,rfl⟩:=e2;have hu1:u1=.int .i64 k:=A7.val (show A7 w _ (Av k) u1 from p1);subst hu1;rcases p2 with⟨_,hz,_⟩|⟨vb,vo,Q,E,rfl,hvn,R,Bdq,hvR,H⟩
  ·cases hz
  have hvr:=A1n hvR
  have Ox:∀j v,vs[j]?=some v->w.cell? ⟨vb,vo+j,none⟩=some v:=λj v d=>by
   have:=(hvr j v d).1
   rwa [E1] at this
  have fin_new:∀(u0:Value) (w':World) (cap:Nat),SS w w'->n+1<=cap->cap*2<=bsz w' w.heap.size->(∀j v,(LK k a vs)[j]?=some v->w'.cell? ⟨w.heap.size,j,none⟩=some v)->(∀v∈LK k a vs,v.oneCell'=true) ->
    ∃us own,Ending.returned (Value.slice (some ⟨w.heap.size,0,none⟩) (n+1) cap)=.returned (J1 us)/\Out w w' Y bt [.own 2 n (a.map .sc),Av k,.tup [.own 2 1 (vs.map .sc)]] own ⟨[.own 2 (n+1) ((LK k a vs).map .sc)],[vs.map .sc]⟩ us:=by
   intro u0 w' cap hw JB M hL B;exact⟨_,_,rfl,A5u E Bdq hw JB M hL B Ox m H Ψ Ψ Ψ Ψ⟩
  have one:(∀v∈a,v.oneCell'=true)->∀v∈LK k a vs,v.oneCell'=true:=by
   intro LB v g;unfold LK at g;rcases B8.1 g with g|g
   ·rcases B8.1 g with g|g
    ·exact LB v (kg g)
    ·exact m v g
   ·exact LB v (kj g)
  have grow_end:∀(base:Option Addr) (cap0:Nat),n<=cap0->cap0<n+1->k=n->((base=none/\a=[])\/∃p,base=some p/\∀j v,a[j]?=some v->w.cell? (p.add j)=some v)->(∀v∈a,v.oneCell'=true) ->
    Calls prog 106 #[.slice base n cap0,.int .i64 k,.slice (some ⟨vb,vo,none⟩) 1 Q] w λe w'=>
     ∃us own,e=.returned (J1 us)/\Out w w' Y bt [.own 2 n (a.map .sc),Av k,.tup [.own 2 1 (vs.map .sc)]] own ⟨[.own 2 (n+1) ((LK k a vs).map .sc)],[vs.map .sc]⟩ us:=by
   intro base cap0 LB hc2 y hb Aqm;subst y;refine (Aie base k cap0 vb vo Q a vs w LB hc2 P A QA hb Ox m).mono ?_
   rintro e w' ⟨rfl,rfl⟩
   obtain⟨G,S⟩:∃G,G=grownCap w (k+1) cap0 73:=⟨_,rfl⟩
   rw[<-S];have J:k+1<=G:=by rw[S];exact grownCap_ge w _ _ _
   have eI:LK k a vs=a++vs:=by
    unfold LK;rw[Gp Ω,zb Ω,vy]
   refine fin_new undef _ G (SS.allocD w _ _) J ?_ (λj v d=>?_) (one Aqm)
   ·have:bsz (w.drew.alloc (.cells (a.toArray++vs.toArray++vp #[.int .i64 0,.int .i64 0] (G-(k+1))) 73)) w.heap.size=_:=(Ie.alloc w.drew _ _).bsz;rw[this];simp[vp];omega
   ·rw[eI] at d;have Ct:=DZ d;rw[mz (w:=w.drew) _ _ w.heap.size j rfl,mj (by simpa using Ct)]
    simpa using d
  rcases p0 with⟨_,rfl,hc0,ad,rfl⟩|⟨b,o,cap,hb,rfl,As2,M,Ay3,hR,EO⟩
  ·have EF:a=[]:=by simpa using hc0
   subst EF;have hk0:k=0:=Ω
   refine grow_end ad 0 (Cz _) Ω hk0 ?_ Ψ;cases ad with
   |none=>exact .inl ⟨rfl,rfl⟩
   |some p=>exact .inr ⟨p,rfl,λj v d=>by cases d⟩
  have hr:=A1n hR
  have A4w:∀j v,a[j]?=some v->w.cell? ⟨b,o+j,none⟩=some v:=λj v d=>by
   have:=(hr j v d).1
   rwa [E1] at this
  have LB:∀v∈a,v.oneCell'=true:=λv g=>by
   obtain⟨j,d⟩:=List.mem_iff_getElem?.1 g;exact (hr j v d).2
  have F4:vb≠b:=by
   rintro rfl
   have:=(hi.inj 0 1 2 0 vb o vo hb E).1;omega
  have T:∀j,j<cap*2->(w.cell? ⟨b,o+j,none⟩).isSome=true:=λj d=>HN (by have:=M.1;omega)
  have U:∀j,j<cap*2->w.frozen? ⟨b,o+j,none⟩=false:=λj d=>EO _ Ω (by have:=M.1;omega)
  by_cases Yw:n+1<=cap
  ·-- in Kb
   have hX:cap*2<=bsz w b:=by have:=M.1;omega
   have V:∀w':World,De b w w'->(∀j,j<o->w'.cell? ⟨b,j,none⟩=w.cell? ⟨b,j,none⟩)->(∀j v,(LK k a vs)[j]?=some v->w'.cell? ⟨b,o+j,none⟩=some v) ->
     ∃us own,Ending.returned (Value.slice (some ⟨b,o,none⟩) (n+1) cap)=.returned (J1 us)/\Out w w' Y bt [.own 2 n (a.map .sc),Av k,.tup [.own 2 1 (vs.map .sc)]] own ⟨[.own 2 (n+1) ((LK k a vs).map .sc)],[vs.map .sc]⟩ us:=by
    intro w' hw Aut hL;exact⟨_,_,rfl,Awm hb E F4 Ay3 Bdq hw Aut Yw M EO hL (one LB) Ox m H Ψ Ψ Ψ Ψ⟩
   by_cases y:k=n
   ·subst y
    have eI:LK k a vs=a++vs:=by
     unfold LK;rw[Gp Ω,zb Ω,vy]
    refine (Aho b o k cap vb vo Q vs w Yw QA (λj d=>by rw[Ld];exact T _ Ω) (λj d=>by rw[Ld];exact U _ Ω) Ox m).mono ?_
    rintro e w' ⟨rfl,rfl⟩
    refine V _ (De.setCells b _ _ w) (λj d=>vk b _ _ w ⟨b,j,none⟩ (λ_ _=>.inl (by show j<o+k*2;omega))) (λj v d=>?_)
    rw[eI] at d;by_cases Ct:j<a.length
    ·rw[zi Ct] at d;rw[vk b _ _ w ⟨b,o+j,none⟩ (λ_ _=>.inl (by show o+j<o+k*2;omega))]
     exact A4w j v d
    ·rw[kf Ω] at d;have r:=DZ d;have:=vl b vs (o+k*2) w (λt ht=>by rw[Ld];exact T _ Ω) (j-a.length) r
     rw[show o+k*2+(j-a.length)=o+j by omega] at this;rw[this,<-d,zd r]
   ·have P7:k<n:=Ω
    have W:∀q:Nat,q<w.heap.size->∃t,w.shape? q=some (t,bsz w q)\/bsz w q=0:=by
     intro q O;unfold World.shape? bsz;cases w.heap[q]? with
     |none=>exact⟨0,.inr rfl⟩
     |some x=>cases x<;>first|exact⟨_,.inl rfl⟩|exact⟨0,.inr rfl⟩
    obtain⟨tA,hA⟩:=W vb Bdq;obtain⟨tB,hB⟩:=W b Ay3;have Bw8:=R.1
    have hvE:w.frozen? ⟨vb,bsz w vb,none⟩=false:=by
     rcases R.2 with h|h
     ·omega
     ·exact h
    have hA:w.shape? vb=some (tA,bsz w vb):=hA.resolve_right Ω;have hB:w.shape? b=some (tB,bsz w b):=hB.resolve_right Ω;refine (Ax8 b o n cap k vb vo Q a vs w P7 Yw P F4 A QA A4w (λj d=>T j Ω) (λj d=>U j Ω) Ox LB m tA tB _ _ hA hB Ω (H vo (Cz _) Ω) hvE).mono ?_
    rintro e w' ⟨rfl,rfl⟩
    have hdl:(a.drop (k*2)).length=(n-k)*2:=by rw[yr,A];omega
    have C:=(De.drew b w).trans (De.setCells b (a.drop (k*2)) (o+(k+1)*2) w.drew);refine V _ (C.trans (De.setCells b vs (o+k*2) _)) (λj d=>?_) (λj v d=>?_)
    ·rw[vk b _ _ _ ⟨b,j,none⟩ (λ_ _=>.inl (by show j<o+k*2;omega)),vk b _ _ _ ⟨b,j,none⟩ (λ_ _=>.inl (by show j<o+(k+1)*2;omega))]
     rfl
    ·have hs1:∀t,t<cap*2->((w.drew.setCells b (o+(k+1)*2) (a.drop (k*2))).cell? ⟨b,o+t,none⟩).isSome=true:=λt ht=>Tq b _ _ _ _ (T t ht);rcases Alp hk A QA d with⟨B,z⟩|⟨B,z,X⟩|⟨B,z⟩
     ·rw[vk b _ _ _ ⟨b,o+j,none⟩ (λ_ _=>.inl (by show o+j<o+k*2;omega)),vk b _ _ _ ⟨b,o+j,none⟩ (λ_ _=>.inl (by show o+j<o+(k+1)*2;omega))]
      exact A4w j v z
     ·have r:=DZ X;have:=vl b vs (o+k*2) (w.drew.setCells b (o+(k+1)*2) (a.drop (k*2))) (λt ht=>by rw[Ld];exact hs1 _ Ω) (j-k*2) r
      rw[show o+k*2+(j-k*2)=o+j by omega] at this;rw[this,<-X,zd r]
     ·have r:=DZ z;rw[vk b _ _ _ ⟨b,o+j,none⟩ (λ_ _=>.inr (by show o+k*2+vs.length<=o+j;omega))]
      have:=vl b (a.drop (k*2)) (o+(k+1)*2) w.drew (λt ht=>by rw[Ld];exact T _ Ω) (j-(k+1)*2) r
      rw[show o+(k+1)*2+(j-(k+1)*2)=o+j by omega] at this;rw[this,<-z,zd r]
  ·by_cases y:k=n
   ·exact grow_end _ cap As2 Ω y (.inr ⟨_,rfl,λj v d=>by rw[E1];exact A4w j v d⟩) LB
   ·refine (A22 b o n cap k vb vo Q a vs w Ω As2 Ω P A QA A4w Ox LB m).mono ?_
    rintro e w' ⟨rfl,rfl⟩
    obtain⟨G,S⟩:∃G,G=grownCap w (n+1) cap 73:=⟨_,rfl⟩
    rw[<-S];have J:n+1<=G:=by rw[S];exact grownCap_ge w _ _ _
    obtain⟨ROW,Alx⟩:∃ROW:Array Value,ROW=(a.take (k*2)).toArray++vp #[.int .i64 0,.int .i64 0] (n+1-k)++vp #[.int .i64 0,.int .i64 0] (G-(n+1)):=⟨_,rfl⟩
    rw[<-Alx]
    have hRl:ROW.size=G*2:=by
     rw[Alx];simp[vp];omega
    have hR0:∀(j:Nat) v,j<k*2->a[j]?=some v->ROW[j]?=some v:=by
     intro j v d g;rw[Alx,mj (by simp;omega),mj (by simp;omega)]
     simp only[List.getElem?_toArray];rw[zt,Bv d];exact g
    clear Alx;obtain⟨s,D⟩:∃s,s=w.alloc (.cells ROW 73):=⟨_,rfl⟩
    have hN0:SS w s:=by rw[D];exact SS.alloc w ROW _
    have hB0:bsz s w.heap.size=G*2:=by rw[D,(Ie.alloc w ROW 73).bsz,hRl]
    have hC0:∀j,s.cell? ⟨w.heap.size,j,none⟩=ROW[j]?:=λj=>by rw[D];exact (Ie.alloc w ROW 73).cell j
    rw[<-D];have hdl:(a.drop (k*2)).length=(n-k)*2:=by rw[yr,A];omega
    have Bmu:∀j,j<G*2->(s.cell? ⟨w.heap.size,j,none⟩).isSome=true:=λj d=>HN Ω;obtain⟨K,L⟩:∃K,K=(s.drew.setCells w.heap.size (k*2) vs).drew:=⟨_,rfl⟩
    have C:De w.heap.size s K:=by rw[L];exact ((De.drew _ s).trans (De.setCells _ vs (k*2) s.drew)).trans (De.drew _ _)
    have Z:∀j,K.cell? ⟨w.heap.size,j,none⟩=(s.drew.setCells w.heap.size (k*2) vs).cell? ⟨w.heap.size,j,none⟩:=λj=>by rw[L];rfl
    have Bnb:∀j,j<G*2->(K.cell? ⟨w.heap.size,j,none⟩).isSome=true:=λj d=>HN (by rw[C.bs];omega)
    rw[<-L];have hw2:=C.trans (De.setCells w.heap.size (a.drop (k*2)) ((k+1)*2) K);refine fin_new undef _ G (hN0.wrote hw2) J (by rw[hw2.bs,hB0];exact Cz _) (λj v d=>?_) (one LB)
    rcases Alp hk A QA d with⟨B,z⟩|⟨B,z,X⟩|⟨B,z⟩
    ·rw[vk _ _ _ _ ⟨w.heap.size,j,none⟩ (λ_ _=>.inl (by show j<(k+1)*2;omega)),Z,vk _ _ _ _ ⟨w.heap.size,j,none⟩ (λ_ _=>.inl (by show j<k*2;omega))]
     show s.cell? _=_;rw[hC0];exact hR0 j v B z
    ·have r:=DZ X;rw[vk _ _ _ _ ⟨w.heap.size,j,none⟩ (λ_ _=>.inl (by show j<(k+1)*2;omega)),Z]
     have:=vl w.heap.size vs (k*2) s.drew (λt ht=>Bmu _ Ω) (j-k*2) r;rw[show k*2+(j-k*2)=j by omega] at this;rw[this,<-X,zd r]
    ·have r:=DZ z;have:=vl w.heap.size (a.drop (k*2)) ((k+1)*2) K (λt ht=>Bnb _ Ω) (j-(k+1)*2) r;rw[show (k+1)*2+(j-(k+1)*2)=j by omega] at this;rw[this,<-z,zd r]
 |[],ps=>exact ps.elim
 |[_],ps=>exact ps.2.elim
 |[_,_],ps=>exact ps.2.2.elim
 |_::_::_::_::_,ps=>exact ps.2.2.2.elim
end
end
end Go.Proofs.YtfmabfhjccngbaaGreatDoor.Pv
