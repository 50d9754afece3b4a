/- WholeLater, in 7 texts: part 1. For every input; no condition. -/
import Derived.Below
import Derived.Laws.OwnMore
import Derived.Deep.Draws
import Derived.Laws.Rows
import Derived.OpenShut
import Derived.Test.YtbcodenfkijdnaaGreatRows
import Derived.WalkKit
import Derived.WalkSpells
import Derived.WalkLawsBesides
import Derived.Lib.Hide
import Derived.RangeFuncNested
import Derived.RangeFuncBound
import Derived.RangeFuncCalls
import Derived.RangeFuncLeaves
import Derived.RangeFuncBox
import Derived.Shelf.Abstract
import Derived.Sort.QuietIn
import Derived.OwnWalkIn
import Derived.StillTail
import Derived.Laws.Small
import Derived.Laws.CopyRow
import Derived.Laws.CopyOwn
import Derived.TacticsInMore
import Derived.WideShapes
import Derived.WideOpen
import Derived.Laws.AppendOwn
import Derived.StillTailTactics
import Derived.LoopNIn
import Derived.LoopIn
import Derived.Laws.StructEq
import Derived.ChangeKeysEq
import Derived.Sort.BigQuietIn
import Derived.Sort.CutIn
import Derived.Lib.Agree
import Derived.Deep.WholeRow
import Derived.Deep.RegionWith
import Derived.Deep.CutRange
import Derived.IntWalk
import Derived.Laws.Append
set_option linter.unusedVariables false
set_option linter.unusedSimpArgs false
set_option maxRecDepth 100000
namespace Go.Proofs.YtbcodenfkijdnaaGreat
open Go.Result renaming andThen_ok→WJ
open Go.Sem renaming run_bind→WK,run_pure→WQ
open List renaming not_mem_nil→WL,getElem?_eq_getElem→WM,mem_cons→WN,getD_eq_getElem?_getD→WO,mem_append_left→WR,mem_append_right→WS,flatMap_cons→WV,length_append→WY,take_append_of_le_length→WZ,getElem?_eq_none→W4,length_drop→W5,size_toArray→W6,getElem?_map→W8,getElem_of_mem→W9,drop_drop→Xa,flatMap_nil→Xb,flatten_append→Xc,replicate→Xe,mem_cons_of_mem→Xf,length_cons→Xh,getElem_mem→Xi,range→Xk,drop_append_of_le_length→Xl,length_nil→Xn,setIfInBounds_toArray→Xo,pairwise_flatMap→Xp,pairwise_iff_getElem→Xr,getElem?_eq_none_iff→Xs,pairwise_singleton→Xu,mem_map_of_mem→Xv,take_length→Xw,mem_singleton→Xx,getElem?_toArray→Xz,length_set→XA,drop_eq_getElem_cons→XD,drop_zero→XE,flatMap_def→XF,length_take→XG,getElem?_take_of_lt→XI,getElem?_cons_zero→XK,getElem?_cons_succ→XL,map_cons→XN,append_nil→XP,take_of_length_le→XR,flatten_cons→XS,append_assoc→XT,take_append_drop→XU,drop_length→XV,mem_of_getElem?→XX,getElem?_range→XZ,getElem?_drop→X2,sublist_append_left→X4,length_map→X7,drop_left'→X8,drop_take→Ya,replicate_succ→Yb,take_succ_cons→Yc,mem_cons_self→Yd,zip_cons_cons→Ye,ext_getElem?→Yh,range'_succ→Yk,length→Yl,range'→Ym,nil_append→Yn,take_take→Yp,length_eq_zero_iff→Yq,pairwise_flatten→Yt,getElem?_range'→Yx,set_append_left→Yy,map_congr_left→YA,drop_succ_cons→YB,length_range'→YD,getElem?_set→YE,length_range→YF,mem_append→YI,headD_cons→YJ
open Bool renaming and_eq_true→WT,or_eq_true→Xy,false_eq_true→XM,noConfusion→Yj
open Nat renaming le_refl→WU,zero_add→WX,le_trans→Xd,mul_le_mul_right→Xg,succ_mul→Xj,lt_of_lt_of_le→Xq,lt_or_ge→XB,mod_eq_of_lt→XH,mul_one→XJ,lt_or_gt_of_ne→XQ,blt_eq→XY,blt→X0,mod_two_eq_zero_or_one→X1,add_comm→X9,min_eq_left→Yo,add_sub_cancel_left→Yr,add_assoc→Ys,pow_succ→Yu,zero_mul→Yv,le_of_ble_eq_true→Yw,xor_lt_two_pow→YG,sub_self→YK,sub_zero→YL
open Option renaming map_some→WW,getD_some→Yf,bind_some→Yg,map_none→YH
open Go.World renaming putObj_heap_other→W7,alloc_heap_new→XW,putObj_heap_same→X5,putObj→X6
open Int renaming toNat_natCast→Xm,natCast_nonneg→X3
open Go.IntKind renaming wrap_u64→XC,wrap_i64→YC
open Classical renaming byContradiction→Yi
open UInt8 renaming toNat_ofNat'→Yz
section
open Go Go.RowKit
theorem LL:(∀{α:Type} (l:List α) (i:Nat) (a:α),(l.set i a).length=l.length)∧(∀{α:Type} (l m:List α),(l++m).length=l.length+m.length)∧(∀{α:Type} (n:Nat) (a:α),(Xe n a).length=n)∧(∀{α:Type} (a:α) (l:List α),(a::l).length=l.length+1)∧(∀{α:Type},([]:List α).length=0)∧(∀{α β:Type} (f:α→β) (l:List α),(l.map f).length=l.length)∧(∀n:Nat,(Xk n).length=n)∧(∀{α:Type} (i:Nat) (l:List α),(l.take i).length=min i l.length)∧(∀{α:Type} (i:Nat) (l:List α),(l.drop i).length=l.length-i):=by simp
abbrev z6:List UInt8:=Xe 64 0
theorem Kr{p:Prop}(h:p:=by kernel_rfl):p:=h
theorem ALifn.{u} {c:Prop} [h:Decidable c] (g: ¬c) {α:Sort u} {t e:α}:ite c t e=e:=if_neg g
theorem ALifp.{u} {c:Prop} [h:Decidable c] (g:c) {α:Sort u} {t e:α}:ite c t e=t:=if_pos g
theorem ALcf.{u} {α:Type u} (a b:α):cond false a b=b:=rfl
theorem ALct.{u} {α:Type u} (a b:α):cond true a b=a:=rfl
theorem ALca.{u,v} {α:Sort u} {β:Sort v} {a b:α} (f:α→β) (h:a=b):f a=f b:=congrArg f h
theorem bf{p:Prop}[h:Decidable p](g: ¬p):decide p=false:=decide_eq_false g
theorem cD{p:Prop}[h:Decidable p](g:p):decide p=true:=decide_eq_true g
theorem dN{α:Type}[BEq α][LawfulBEq α]{a b:α}:(a==b)=false↔a≠b:=beq_eq_false_iff_ne
theorem Om{p:Prop}(h:p:=by omega):p:=h
theorem Dc{p:Prop}(h:p:=by decide):p:=h
theorem As{p:Prop}(h:p:=by assumption):p:=h
theorem bg{p:Prop}(h:p:=by rfl):p:=h
end
section
open Go.RowKit

end
section
open Go.RowKit
def mb(w:World)(g:Nat)(t:TypeId)(cs:Array Value):Prop:=w.heap[g]? =some (.cells cs t (0,0))
section
variable {w w':World} {g:Nat} {t:TypeId} {cs:Array Value}
theorem mb.cell(h:mb w g t cs)(i:Nat):w.cell? ⟨g,i,none⟩=cs[i]? :=cell_of_row w g i cs t (0,0) h
theorem mb.frozen(h:mb w g t cs)(i:Nat):w.frozen? ⟨g,i,none⟩=false:=by
 unfold mb at h;simp [World.frozen?,h]
end
end
def iV:Nat→Nat→Nat
 | 0,_=>0
 | k+1,n=>n%2+iV k (n/2)
def pc(n:Nat):Nat:=iV 64 n
theorem wu(k:Nat):iV k 0=0:=by
 induction k with
 | zero=>rfl
 | succ k ih=>rw[iV];simpa using ih
theorem G4(k:Nat): ∀n,n<2^k→∀d,iV (k+d) n=iV k n:=by
 induction k with
 | zero=>
  intro n a d;obtain rfl:n=0:=by omega
  rw[wu,wu]
 | succ k ih=>
  intro n a d;rw[show k+1+d=(k+d)+1 from by omega,iV,iV,ih (n/2) (by rw[Yu] at a;omega) d]
theorem G5(k n:Nat)(a:n<2^k)(b:k≤64):iV k n=pc n:=by
 have:=G4 k n a (64-k);rw[show k+(64-k)=64 from by omega] at this;exact this.symm
theorem G6:pc 0=0:=wu 64
theorem zZ(k n:Nat):iV k n≤k:=by
 induction k generalizing n with
 | zero=>exact WU 0
 | succ k ih=>rw[iV];have:=ih (n/2);omega
theorem wv(n:Nat):pc n≤64:=zZ 64 n
theorem G7(a b:Nat):(a&&& b)/2=(a/2)&&& (b/2):=by
 have:=@Nat.shiftRight_and_distrib 1 a b;simpa [Nat.shiftRight_eq_div_pow] using this
theorem G8(a b:Nat):(a&&& b)%2=(a%2)*(b%2):=by
 have h:=@Nat.and_mod_two_pow a b 1;rw[Nat.pow_one] at h;rw[h];rcases X1 a with c | c<;>rcases X1 b with d | d<;>rw[c,d]<;>rfl
theorem G9(k:Nat): ∀x,0<x→x<2^k→iV k x=iV k (x&&& (x-1))+1:=by
 induction k with
 | zero=>intro x c h;omega
 | succ k ih=>
  intro x c h;rw[iV,iV,G7,G8];rw[Yu] at h;rcases X1 x with b | b
  ·have a:(x-1)/2=x/2-1:=by omega
   rw[a,b,Yv,WX,WX,ih (x/2) Om Om]
  ·have a:(x-1)/2=x/2:=by omega
   have d:(x-1)%2=0:=by omega
   rw[a,d,b,Nat.and_self];omega
theorem Ha(x:Nat)(h0:0<x)(h:x<2^64):pc x=pc (x&&& (x-1))+1:=G9 64 x h0 h
def gv:Nat→Nat→Nat→List Nat
 | 0,_,_=>[]
 | k+1,i,x=>if x%2=1 then i::gv k (i+1) (x/2) else gv k (i+1) (x/2)
theorem Hb(k:Nat): ∀i x p,p∈gv k i x→i≤p∧p<i+k∧x/2^(p-i)%2=1:=by
 induction k with
 | zero=>intro i x p h;cases h
 | succ k ih=>
  intro i x p h;have a:p∈gv k (i+1) (x/2)→i≤p∧p<i+(k+1)∧x/2^(p-i)%2=1:=by
   intro h;obtain⟨d,e,b⟩:=ih _ _ _ h;refine⟨by omega,by omega,?_⟩;rw[show p-i=(p-(i+1))+1 from by omega,Yu,Nat.mul_comm,←Nat.div_div_eq_div_mul];exact b
  rw[gv] at h
  split at h
  ·rename_i c;rcases List.mem_cons.1 h with rfl | h
   ·refine⟨WU _,by omega,?_⟩;rw[YK,Nat.pow_zero,Nat.div_one];exact c
   ·exact a h
  ·exact a h
def bH(x:Nat):List Nat:=gv 64 0 x
section
open Go.RowKit

end
section
open Go.RowKit

end
section
open Go Go.RowKit
structure eQ (S:Nat→Prop) (W W':World):Prop where
 os:W'.os=W.os
 tape:W'.tape=W.tape
 output:W'.output=W.output
 size:W.heap.size≤W'.heap.size
 same: ∀b,b<W.heap.size→¬S b→W'.heap[b]? =W.heap[b]?
structure Wg (K:Nat→Prop) (W W':World):Prop where
 size:W.heap.size≤W'.heap.size
 same: ∀b,K b→W'.heap[b]? =W.heap[b]?
theorem eQ.mono{S a:Nat→Prop}{W c:World}(h:eQ S W c)(hs: ∀b,S b→a b):eQ a W c:=⟨h.os,h.tape,h.output,h.size,λb d f=>h.same b d (λe=>f (hs b e))⟩
theorem eQ.alloc(S:Nat→Prop)(W:World)(o:Obj):eQ S W (W.alloc o):=
 ⟨rfl,rfl,rfl,by simp,λb a _=>Below.heap_alloc W o b a⟩
theorem eQ.putObj{S:Nat→Prop}(W:World){l:Nat}(c:S l)(o:Obj):eQ S W (W.putObj l o):=
 ⟨(grownBy_putObj' W l o).os,(grownBy_putObj' W l o).tape,(grownBy_putObj' W l o).output,(grownBy_putObj' W l o).size,λb a d=>(grownBy_putObj' W l o).block b a (λe=>by cases e;exact d c)⟩
theorem eQ.heap{S:Nat→Prop}{W c:World}(h:eQ S W c){b:Nat}(hp: ¬S b){o:Obj}(d:W.heap[b]? =some o):c.heap[b]? =some o:=by
 have a:b<W.heap.size:=(Array.getElem?_eq_some_iff.1 d).1;exact(h.same _ a hp).trans d
end
section
open Go Go.RowKit
structure Wh (K O O':Nat→Prop) (W W':World):Prop where
 size:W.heap.size≤W'.heap.size
 old: ∀b,b<W.heap.size→O' b→O b
 new: ∀b,O' b→b<W'.heap.size
 cells: ∀b o,O' b→W'.heap[b]? =some o→o.isCells=false→∃o':Obj,W.heap[b]? =some o'∧o'.isCells=false
 keep: ∀b,b<W.heap.size→(¬O b∨K b)→W'.heap[b]? =W.heap[b]?
def gH(J:Nat→(Nat→Prop)→World→Prop):Prop:=∀i O W a,J i O W→eQ (λb=>¬O b) W a→J i O a
end
section
open Go Go.RowKit Go.Shelf
structure Wi (g0:Nat) (O:Nat→Prop) (W:World):Prop where
 non: ¬O g0
 lt: ∀b,O b→b<W.heap.size
 cells: ∀b o,g0≤b→O b→W.heap[b]? =some o→o.isCells=true
end
section
open Go Go.RowKit

end
section
open Go
section
variable {F:Fence} {n:Nat} {P:Program} {ops:Array Oper} {md:Region.Mode} {C:World→Prop}
def mc(o:Oper):Bool:=match o.op with | .defer _=>false | _=>true
theorem z0{o:Oper}(h:mc o=true): ∀c,o.op≠ .defer c:=by
 intro c a;unfold mc at h;rw[a] at h;exact Yj (show false=true from h)
end
end
section
open Go
section
variable {F:Fence} {n:Nat} {P:Program} {md:Region.Mode} {C:World→Prop}
def mW(md:Region.Mode)(ops:Array Oper)(N:Nat):Bool:=
 (Xk ops.size).all λt=>decide (t<N)||((ops[t]?).map (·.after.all λe=> !Region.binds md e||decide (e.on<t))).getD false
theorem wx{ops:Array Oper}{N:Nat}{Q:Exit→Act→World→Prop}(Z:Region.chainB md ops N=true)(Y:mW md ops N=true): ∀(r k c:Nat) (b:Array Bool) (a:Act) (w:World),
  ops.size=k+r→N≤k→r≤c→b.size=ops.size→(∀i,i<k→b.getD i true=true)→(∀i,i<k→b.getD i false=true)→(∀i,k≤i→i<ops.size→b.getD i true=false)→
  wpListIn F n P ops Q (ops.toList.drop k) a w→wpAnyIn F n P md ops Q c b a w
 | 0,k,c,b,a,w,hr,hN,hf,l,I,v,K,h=>by
  have g:Region.ready md ops b=[]:=by
   apply List.eq_nil_iff_forall_not_mem.2;intro j R;obtain⟨m,o,J,_⟩:=mem_ready.1 R;have p:j<ops.size:=(Array.getElem?_eq_some_iff.1 J).1;rw[I j Om] at m;cases m
  have hd:ops.toList.drop k=[]:=List.drop_eq_nil_iff.2 (by rw[Array.length_toList];omega);rw[hd] at h;cases c with
  | zero=>exact⟨g,h⟩
  | succ f=>exact⟨λ_=>h,λi D=>by rw[g] at D;cases D⟩
 | r+1,k,c,b,a,w,hr,hN,hf,l,I,v,K,h=>by
  obtain⟨f,rfl⟩: ∃f,c=f+1:=⟨c-1,by omega⟩;have y:k<ops.size:=by omega
  have T:k<ops.toList.length:=by rw[Array.length_toList];exact y
  rw[XD T] at h;have x:ops[k]? =some ops.toList[k]:=by rw[Array.getElem?_eq_getElem y,Array.getElem_toList]
  have M:=List.all_eq_true.1 Y k (List.mem_range.2 y);rw[x] at M;simp only[Xy,decide_eq_true_eq,WW,Yf] at M;have t: ∀e∈ops.toList[k].after,Region.binds md e=true→e.on<k:=by
   intro e B d;rcases M with m | m
   ·omega
   ·have s:=Array.all_eq_true'.1 m e B;rw[d] at s;simpa using s
  have G:k∈Region.ready md ops b:=mem_ready.2 ⟨K k (WU _) y,_,x,λe B d=>v _ (t e B d)⟩;refine⟨λh0=>(by rw[h0] at G;cases G),λj R=>?_⟩;obtain⟨m,o,J,A⟩:=mem_ready.1 R;have p:j<ops.size:=(Array.getElem?_eq_some_iff.1 J).1;have S:j=k:=by
   rcases Nat.lt_trichotomy j k with s | s | s
   ·rw[I j s] at m;cases m
   ·exact s
   ·exfalso;have z:=List.all_eq_true.1 Z j (List.mem_range.2 p);simp only[Xy,decide_eq_true_eq] at z;rcases z with z | z
    ·omega
    ·obtain⟨o',U,e,B,d,V⟩:=Region.waitsFor_spec z;have:o'=o:=Option.some.inj (U.symm.trans J);subst this;have X:=A e B d;rw[V,getD_both (K (j-1) Om Om)] at X;cases X
  subst S;unfold wpOpIn;simp only[x];have q: ∀H L,wpListIn F n P ops Q (ops.toList.drop (j+1)) H L→wpAnyIn F n P md ops Q f (b.setIfInBounds j true) H L:=λH L h'=>by
   refine wx Z Y r (j+1) f _ H L Om Om Om (by simp [l]) ?_ ?_ ?_ h'
   ·intro i D;by_cases u:i=j
    ·subst u;simp [l,y]
    ·rw[getD_set_ne true Om];exact I i Om
   ·intro i D;by_cases u:i=j
    ·subst u;simp [l,y]
    ·rw[getD_set_ne false Om];exact v i Om
   ·intro i D O;rw[getD_set_ne true Om];exact K i Om O
  simp only[wpListIn] at h
  split
  ·rename_i W;simp only[W,if_true] at h;exact Oper.wpIn_mono q h
  ·rename_i W;simp only[W] at h;exact⟨h.1,q _ _ h.2⟩
end
end
section
open Go Go.RowKit Go.Shelf
def br(xs:Nat→Value):List Oper→Nat→Act→Act
 | [],_,a=>a
 | o::os,k,a=>br xs os (k+1) (a.put o.dst (xs k))
def s8(x y:Option Tmp):Bool:=match x,y with | some a,some b=>a != b | _,_=>true
def mf:List Oper→Bool
 | []=>true
 | o::os=>(os.all λp=>s8 o.dst p.dst)&&mf os
theorem Hc{x y:Option Tmp}(h:s8 x y=true): ∀d,x=some d→y≠some d:=by
 rintro d rfl rfl;simp [s8] at h
theorem Hd(a:Act)(x:Option Tmp)(v u:Value):(a.put x v).put x u=a.put x u:=by
 cases x with
 | none=>rfl
 | some d=>simp [Act.put]
theorem wy{xs ys:Nat→Value}: ∀(l:List Oper) (k:Nat) (a:Act),(∀j,k≤j→j<k+l.length→xs j=ys j)→br xs l k a=br ys l k a
 | [],_,_,_=>rfl
 | o::os,k,a,h=>by
  unfold br;rw[h k (WU _) (by rw[Xh];omega)];exact wy os (k+1) _ λj c d=>h j Om (by rw[Xh];omega)
theorem z3{xs:Nat→Value}(x:Option Tmp)(v:Value): ∀(l:List Oper) (k:Nat) (a:Act),(l.all λp=>s8 x p.dst)=true→(br xs l k a).put x v=br xs l k (a.put x v)
 | [],_,_,_=>rfl
 | o::os,k,a,h=>by
  simp only[List.all_cons,WT] at h;unfold br;rw[z3 x v os (k+1) _ h.2,Act.put_comm a v (xs k) (Hc h.1)]
theorem qu{xs:Nat→Value}(v:Value): ∀(l:List Oper) (k:Nat) (a:Act) (i:Nat) (o:Oper),mf l=true→l[i]? =some o→
  (br xs l k a).put o.dst v=br (λj=>if j=k+i then v else xs j) l k a
 | [],_,_,i,_,_,h=>by simp at h
 | p::os,k,a,0,o,c,h=>by
  simp only[mf,WT] at c;simp only[XK,Option.some.injEq] at h;subst h;unfold br;rw[z3 _ _ _ _ _ c.1,Hd,ALifp (show k=k+0 from rfl)];exact wy os (k+1) _ λj d _=>by rw[ALifn Om]
 | p::os,k,a,i+1,o,c,h=>by
  simp only[mf,WT] at c;rw[XL] at h;unfold br;rw[qu v os (k+1) _ i o c.2 h,ALifn Om];exact wy os (k+1) _ λj _ _=>by rw[show k+1+i=k+(i+1) by omega]
def jT(l:List Oper)(a:Act)(j:Nat):Value:=match (l[j]?).bind (·.dst) with | some d=>a.tmps.getD d undef | none=>undef
theorem He(a:Act)(x:Option Tmp)(v:Value)(h: ∀d,x=some d→a.tmps.getD d undef=v):a.put x v=a:=by
 cases x with
 | none=>rfl
 | some d=>
  have:=h d rfl;subst this;have e:a.tmps.setIfInBounds d (a.tmps.getD d undef)=a.tmps:=by
   rcases XB d a.tmps.size with h | h
   ·apply Array.ext_getElem?;intro i;rw[Array.getElem?_setIfInBounds]
    split
    ·rename_i e;subst e;simp [h]
    ·rfl
   ·exact Array.setIfInBounds_eq_of_size_le h
  show({a with tmps:=a.tmps.setIfInBounds d (a.tmps.getD d undef)}:Act)=a;rw[e]
theorem wz{xs:Nat→Value}: ∀(l:List Oper) (k:Nat) (a:Act),(∀i o d,l[i]? =some o→o.dst=some d→xs (k+i)=a.tmps.getD d undef)→br xs l k a=a
 | [],_,_,_=>rfl
 | o::os,k,a,h=>by
  unfold br;rw[He a o.dst (xs k) (λd c=>(h 0 o d rfl c).symm)];exact wz os (k+1) a λi p d e c=>by rw[←h (i+1) p d (by simpa using e) c];congr 1;omega
def s9(c:Region.Mode)(ops:Array Oper)(N:Nat)(D:Nat→List Nat):Bool:=
 (Xk N).all λi=>(D i).all λj=>decide (j<N)&&((ops[i]?).map λo=>o.after.any λe=>Region.binds c e&&(e.on==j||(decide (e.on<N)&&(D e.on).contains j))).getD false
def gR(c:Array Bool):Nat→Nat
 | 0=>0
 | k+1=>gR c k+if c.getD k true=true then 0 else 1
theorem z4{c:Array Bool}{i:Nat}: ∀k,k≤i→gR (c.setIfInBounds i true) k=gR c k
 | 0,_=>rfl
 | k+1,h=>by
  unfold gR;rw[z4 k Om,getD_set_ne true Om]
theorem wA{c:Array Bool}{i:Nat}(f:c.getD i true=false): ∀k,i<k→gR (c.setIfInBounds i true) k+1=gR c k
 | 0,h=>by omega
 | k+1,h=>by
  unfold gR;by_cases e:i=k
  ·subst e;have g:(c.setIfInBounds i true).getD i true=true:=by
    rcases XB i c.size with d | d
    ·simp [d]
    ·simp [Array.getElem?_eq_none d] at f
   rw[z4 i (WU _),f,g];simp
  ·rw[getD_set_ne true e,←wA f k Om];omega
theorem wB{c:Array Bool}: ∀k,gR c k=0→∀i,i<k→c.getD i true=true
 | 0,_,_,f=>by omega
 | k+1,h,i,f=>by
  unfold gR at h;by_cases e:i=k
  ·subst e;by_cases d:c.getD i true=true
   ·exact d
   ·rw[ALifn d] at h;omega
  ·exact wB k Om i Om
section
variable {F:Fence} {n:Nat} {P:Program}
structure Wj (F:Fence) (n:Nat) (P:Program) (L:List Oper) (N:Nat) (Q:Exit→Act→World→Prop) (V:Nat→Value→World→Prop) (R:World→World→Prop) (D:Nat→List Nat) (a:Act) (w:World) (k:Nat) (o:Oper):Prop where
 out: ∀(xs:Nat→Value) (w':World),(∀j∈D k,V j (xs j) w')→R w w'→∀K:Value→World→Prop,(∀v w'',V k v w''→R w' w''→K v w'')→
  if Region.wanted o (yielded L.toArray (br xs (L.take N) 0 a).tmps)=true then o.wpIn F n P (br xs (L.take N) 0 a) w' (λa'' w''=>∃v,a''=(br xs (L.take N) 0 a).put o.dst v∧K v w'') Q
  else(∀f,o.about P w' (br xs (L.take N) 0 a).eval=some f→F.fn f)∧K undef w'
def Fence.free(F:Fence):Prop:=F.depth=none∧∀f,F.fn f
theorem z5:Fence.free Fence.wide:=⟨rfl,λ_=>trivial⟩
theorem z7(l:Nat):Fence.free (Fence.wide.inRound l):=⟨rfl,λ_=>trivial⟩
section
variable {L:List Oper} {N:Nat} {Q:Exit→Act→World→Prop} {V:Nat→Value→World→Prop} {R:World→World→Prop} {D:Nat→List Nat} {a:Act} {w:World} {k:Nat} {o:Oper}
structure Wk (L:List Oper) (N:Nat) (V:Nat→Value→World→Prop) (R:World→World→Prop) (D:Nat→List Nat) (a:Act) (w:World) (k:Nat) (o:Oper):Prop where
 out: ∀(xs:Nat→Value) (w':World),(∀j∈D k,V j (xs j) w')→R w w'→Region.wanted o (yielded L.toArray (br xs (L.take N) 0 a).tmps)=true
end
end
def fD(t:Nat):List Oper→Nat→Option Nat
 | [],_=>none
 | o::os,k=>match fD t os (k+1) with
  | some i=>some i
  | none=>match o.dst with
   | some d=>if d==t then some k else none
   | none=>none
theorem Hf(a:Act)(x:Option Tmp)(v:Value)(t:Nat):(a.put x v).eval (.tmp t)=if x=some t then(if t<a.tmps.size then v else undef) else a.eval (.tmp t):=by
 cases x with
 | none=>rfl
 | some d=>
  by_cases e:d=t
  ·subst e;rw[ALifp rfl];by_cases h:d<a.tmps.size
   ·simp [Act.put,Act.eval,h]
   ·rw[ALifn h];simp [Act.put,Act.eval];exact λc=>absurd c h
  ·rw[ALifn (λh=>e (Option.some.inj h))];simp [Act.put,Act.eval,Array.getElem?_setIfInBounds_ne e]
theorem wE(a:Act)(x:Option Tmp)(v:Value):(a.put x v).tmps.size=a.tmps.size:=by cases x<;>simp [Act.put]
theorem ta{xs:Nat→Value}(t:Nat): ∀(l:List Oper) (k:Nat) (a:Act),(br xs l k a).eval (.tmp t)=match fD t l k with
  | some i=>if t<a.tmps.size then xs i else undef
  | none=>a.eval (.tmp t)
 | [],_,_=>rfl
 | o::os,k,a=>by
  unfold br fD;rw[ta t os (k+1) _,wE];cases h:fD t os (k+1) with
  | some i=>rfl
  | none=>
   simp only;rw[Hf];cases c:o.dst with
   | none=>rfl
   | some d=>
    by_cases e:d=t
    ·subst e;simp
    ·rw[ALifn (λh=>e (Option.some.inj h))];have:(d==t)=false:=by simpa using e
     simp [this]
theorem z8{xs:Nat→Value}{l:List Oper}{a:Act}{t i:Nat}(h:fD t l 0=some i)(ht:X0 t a.tmps.size=true):(br xs l 0 a).eval (.tmp t)=xs i:=by
 rw[ta,h];exact ALifp (XY▸ht)
theorem Hg{L:List Oper}{N:Nat}{a:Act}{xs:Nat→Value}{o:Oper}{j d:Nat}{b e:Bool}(m:o.guard=some (j,b))(l:(L.toArray[j]?).bind (·.dst)=some d)(p:fD d (L.take N) 0=some j)(hs:X0 d a.tmps.size=true)(hv:xs j= .bool e):
  Region.wanted o (yielded L.toArray (br xs (L.take N) 0 a).tmps)=(e==b):=by
 have g:=z8 (xs:=xs) (a:=a) p hs;rw[hv] at g;have f:d<(br xs (L.take N) 0 a).tmps.size:=by
  rcases XB d (br xs (L.take N) 0 a).tmps.size with h | h
  ·exact h
  ·exfalso;have c:(br xs (L.take N) 0 a).tmps.getD d undef= .bool e:=g;rw[Array.getD_eq_getD_getElem?,Array.getElem?_eq_none h] at c;cases c
 have c:(br xs (L.take N) 0 a).tmps.getD d undef= .bool e:=g;rw[Array.getD_eq_getD_getElem?,Array.getElem?_eq_getElem f] at c;have i:(br xs (L.take N) 0 a).tmps[d]= .bool e:=c;unfold Region.wanted yielded;rw[m];simp only[l,Yg,Array.getElem?_eq_getElem f,i];cases b<;>cases e<;>rfl
theorem Hh{L:List Oper}{N:Nat}{a:Act}{xs:Nat→Value}{o:Oper}{j d:Nat}{b:Bool}(i:o.guard=some (j,b))(g:(L.toArray[j]?).bind (·.dst)=some d)(l:fD d (L.take N) 0=some j)(hs:X0 d a.tmps.size=true)(hv:xs j=undef):
  Region.wanted o (yielded L.toArray (br xs (L.take N) 0 a).tmps)=false:=by
 have f:=z8 (xs:=xs) (a:=a) l hs;rw[hv] at f;have c:(br xs (L.take N) 0 a).tmps.getD d undef=undef:=f;unfold Region.wanted yielded;rw[i];simp only[g,Yg];rcases XB d (br xs (L.take N) 0 a).tmps.size with h | h
 ·rw[Array.getD_eq_getD_getElem?,Array.getElem?_eq_getElem h] at c;have e:(br xs (L.take N) 0 a).tmps[d]=undef:=c;rw[Array.getElem?_eq_getElem h,e];rfl
 ·rw[Array.getElem?_eq_none h];rfl
section
variable {P:Program} {ρ:Operand→Value} {o:Oper} {w w':World}
theorem pq{c x y:Operand}{b:Bool}{v:Value}(e:o.op= .pick c x y)(d:ρ c= .bool b)(hv:(if b then ρ x else ρ y)=v):(execOp ρ o).run P w= .ok (.value v) w:=by
 unfold execOp;subst hv;cases b<;>simp [e,d,asBool]
end
section
variable {P:Program} {T:TypeId} {x y:Operand} {k:IntKind} {a b:Int} {w:World}
end
theorem z9{P:Program}(w:World)(g off:Nat)(t f:TypeId)(cs:Array Value)(l:List Value){d:TypeDesc}(s:w.heap[g]? =some (.cells cs t (0,0)))(A:(cs.toList.drop off).take l.length=l)
  (H:P.underlying f=some d) (I:(match d with | .struct _ | .array _ _=>true | _=>false)=true) (p:(P.info? f).map (·.size)=some l.length):(loadVar f ⟨g,off,none⟩).run P w= .ok (.agg l.toArray) w:=by
 have r:(loadCells ⟨g,off,none⟩ l.length).run P w= .ok l.toArray w:=
  run_loadCells_list (P:=P) w ⟨g,off,none⟩ l (λj v q=>by
   have c:(⟨g,off,none⟩:Addr).add j=⟨g,off+j,none⟩:=by unfold Addr.add;split<;>simp_all
   rw[c,cell_of_row w g (off+j) cs t (0,0) s];have u:j<l.length:=(List.getElem?_eq_some_iff.1 q).1;have m:=ALca (λz=>z[j]?) A;simp only[XI u,X2] at m;rw[←Array.getElem?_toList,m];exact q)
 cases h:P.info? f with
 | none=>simp [h] at p
 | some i=>
  have C:i.size=l.length:=by simpa [h] using p
  have e:(isAgg f).run P w= .ok true w:=by
   unfold isAgg;rw[WK,run_underlying H w];cases d<;>simp_all
  simp [loadVar,WK,e,sizeOf,typeInfo,h,C,r]
inductive qv (R:World→World→Prop):List (Value→World→Prop)→Prop
 | nil:qv R []
 | const {l:List (Value→World→Prop)} (c:Value) (h:qv R l):qv R ((λv _=>v=c)::l)
 | cons {l:List (Value→World→Prop)} {p:Value→World→Prop} (hp: ∀v x y,p v x→R x y→p v y) (h:qv R l):qv R (p::l)
end
section
open Go Go.RowKit
abbrev ay:=List (Nat×Obj)
structure Wl (B:Nat) (base:World) (L:ay) (W:World):Prop where
 obj: ∀x∈L,W.heap[x.1]? =some x.2
 nd:L.Pairwise (λx y=>x.1≠y.1)
 lo: ∀x∈L,B≤x.1
 os:W.os=base.os
 tape:W.tape=base.tape
 output:W.output=base.output
 size:base.heap.size≤W.heap.size
 far: ∀b,b<base.heap.size→(∀x∈L,x.1≠b)→W.heap[b]? =base.heap[b]?
section
variable {B:Nat} {base W W':World} {L L':ay}
end
class Aa (F:Fence):Prop where
 out:Fence.free F
instance:Aa Fence.wide:=⟨z5⟩
instance (l:Nat):Aa (Fence.wide.inRound l):=⟨z7 l⟩
section
variable {F:Fence} {n:Nat} {P:Program} {ops:Array Oper} {Q:Exit→Act→World→Prop} {a:Act} {W W':World} {rest:List Oper} {o:Oper} {B G:Nat} {base:World} {L:ay}
theorem qw{w:World}{T:TypeId}{p:Addr}{v:Value}(c:(isAgg T).run P w= .ok false w)(d:w.cell? p=some v):(loadVar T p).run P w= .ok v w:=by
 unfold loadVar;rw[WK,c,WJ];simp [d]
end
end
section
open Go Go.RowKit Go.Shelf
section
variable {B:Nat} {base W W':World} {L L':ay}
end
abbrev jU(D:Nat):Deferred:={target:= .collected D,args:=#[]}
abbrev dR(D:Nat):Nat×Obj:=(D,.deferred (some []))
theorem Hi{P:Program}{t e:TypeId}{n:Nat}{cs:Array Value}{k:IntKind}{i:Nat}{v:Value}{w:World}(h:P.underlying t=some (.array n e))(j:i<n)(d: ∀w,(isAgg e).run P w= .ok false w)(c:(P.info? e).map (·.size)=some 1)(hv:cs[i]? =some v):
  (Instr.index t (.agg cs) (.int k (i:Int))).run P w= .ok v w:=by
 cases f:P.info? e with
 | none=>simp [f] at c
 | some g=>
  have l:g.size=1:=by simpa [f] using c
  unfold Instr.index;simp [asIntOf,WK,run_underlying h,sizeOf,typeInfo,f,l,part,d,hv,j]
end
section
open Go Go.RowKit

end
section
open Go Go.RowKit
section
variable {F:Fence} {n:Nat} {P:Program} {ops:Array Oper} {Q:Exit→Act→World→Prop} {a:Act} {W W':World} {rest:List Oper} {o:Oper} {B G:Nat} {base:World} {L:ay}
end
section
variable {P:Program} {w:World} {o:Oper} {ρ:Operand→Value}
end
section
variable {F:Fence} {n:Nat} {P:Program} {ops:Array Oper} {Q:Exit→Act→World→Prop} {a:Act} {W:World} {rest:List Oper} {o:Oper}
end
end
section
open Go Go.RowKit
section
variable {P:Program} {T:TypeId} {x y:Operand} {a b:Int} {w:World}
theorem qx(h0: -9223372036854775808≤a+b)(h1:a+b≤9223372036854775807):(do eqGuard .add T x y (.int .i64 a) (.int .i64 b);Go.binOp .add T (.int .i64 a) (.int .i64 b):Sem Value).run P w= .ok (.int .i64 (a+b)) w:=by
 simp [eqGuard,Go.binOp,Op.intArith,IntWalk.i64_in _ (And.intro h0 h1)]
theorem qy(h0: -9223372036854775808≤a-b)(h1:a-b≤9223372036854775807):(do eqGuard .sub T x y (.int .i64 a) (.int .i64 b);Go.binOp .sub T (.int .i64 a) (.int .i64 b):Sem Value).run P w= .ok (.int .i64 (a-b)) w:=by
 simp [eqGuard,Go.binOp,Op.intArith,IntWalk.i64_in _ (And.intro h0 h1)]
theorem Hj(h0: -9223372036854775808≤a*b)(h1:a*b≤9223372036854775807):(do eqGuard .mul T x y (.int .i64 a) (.int .i64 b);Go.binOp .mul T (.int .i64 a) (.int .i64 b):Sem Value).run P w= .ok (.int .i64 (a*b)) w:=by
 simp [eqGuard,Go.binOp,Op.intArith,IntWalk.i64_in _ (And.intro h0 h1)]
end
section
variable {P:Program} {d:Nat} {xs ys:Array Value} {f:Field} {fs:List Field} {w:World} {r e:Bool} {a b:Int}
end
section
variable {P:Program} {w:World} {o:Oper} {ρ:Operand→Value}
def aR(x:Int):UInt8:=UInt8.ofNat (x%256).toNat
theorem Hk(x:Int):((aR x).toNat:Int)=x%256:=by
 unfold aR;rw[Yz];omega
theorem oB{S T:TypeId}(c:P.underlying S=some (.int .i64))(h:P.underlying T=some (.int .u8)){x:Int}:(convert S T (.int .i64 x)).run P w= .ok (.int .u8 ((aR x).toNat:Int)) w:=by
 rw[Hk];simp [convert,run_underlying c,run_underlying h,WK,Conv.intToInt,IntKind.wrap,IntKind.bits,IntKind.signed]
end
end
section
open Go Go.RowKit
section
variable {g:Nat} {ws:List (Nat×Value)} {x y z w w' W W':World} {B:Nat} {base:World} {L L':ay}
end
section
variable {F:Fence} {n:Nat} {P:Program} {L:List Oper} {N:Nat} {Q:Exit→Act→World→Prop} {V:Nat→Value→World→Prop} {D:Nat→List Nat} {a:Act} {w:World} {k:Nat} {o:Oper} {g:Nat} {ws:List (Nat×Value)}
end
end
section
open Go Go.RowKit
section
variable {xs:Nat→Value} {l:List Oper} {a:Act} {t:Nat} {v:Value}
variable {P:Program} {W w':World} {B:Nat} {base:World} {L:ay} {g off:Nat} {T ty:TypeId} {cs:Array Value}
end
end
namespace E
section
open Go Go.RowKit Go.Shelf
structure ab where
 y:Nat→Nat
 num:Nat→Nat
 val:Nat→Value
def ab.zero:ab:=⟨λ_=>0,λ_=>0,λ_=>undef⟩
abbrev bD:=Nat→ab
abbrev B0(q:bD):Nat:=(q 0).y 0
abbrev B1(q:bD):Nat:=(q 1).y 0
abbrev B2(q:bD):Nat:=(q 2).y 0
abbrev B3(q:bD):Nat:=(q 3).y 0
abbrev B4(q:bD):Nat:=(q 4).y 0
abbrev B5(q:bD):Nat:=(q 5).y 0
abbrev B6(q:bD):Nat:=(q 6).y 0
abbrev B7(q:bD):Nat:=(q 7).y 0
inductive aA where
 | c (bs:ay)
 | p (P:ay→Prop)
abbrev aj:=List aA
abbrev ob(g:Nat)(cs:Array Value)(t:TypeId):aA:= .c [(g,.cells cs t (0,0))]
def aA.sat:aA→ay→Prop
 | .c l,b=>b=l
 | .p P,b=>P b
abbrev cp:=Nat→Option aA
abbrev Wr:=List (Nat×aA)
abbrev gw:=Nat→ay
abbrev bN(l:ay):List Nat:=l.map (·.1)
structure kJ (R:List Nat) (base:World) (m:Nat) (f:cp) (c:gw) (W:World):Prop where
 sat: ∀p,p<m→∀x,f p=some x→x.sat (c p)
 nil: ∀p,p<m→f p=Option.none→c p=[]
 obj: ∀p,p<m→∀z∈c p,W.heap[z.1]? =some z.2
 inn: ∀p,p<m→(c p).Pairwise (λx y=>x.1≠y.1)
 nd: ∀p q,p<m→q<m→p≠q→∀z∈c p,∀u∈c q,z.1≠u.1
 lo: ∀p,p<m→∀z∈c p,z.1∈R∨base.heap.size≤z.1
 os:W.os=base.os
 tape:W.tape=base.tape
 output:W.output=base.output
 size:base.heap.size≤W.heap.size
 far: ∀b,b<base.heap.size→b∉R→W.heap[b]? =base.heap[b]?
def aE(R:List Nat)(base:World)(L:aj)(W:World):Prop:=∃c,kJ R base L.length (λp=>L[p]?) c W
structure a8 (O:List Nat) (N:ay) (W W':World):Prop where
 os:W'.os=W.os
 tape:W'.tape=W.tape
 output:W'.output=W.output
 size:W.heap.size≤W'.heap.size
 obj: ∀x∈N,W'.heap[x.1]? =some x.2
 new: ∀x∈N,x.1∈O∨W.heap.size≤x.1
 nd:N.Pairwise (λx y=>x.1≠y.1)
 far: ∀b,b<W.heap.size→b∉O→W'.heap[b]? =W.heap[b]?
structure Has (R:ay) (W:World):Prop where
 obj: ∀x∈R,W.heap[x.1]? =some x.2
 nd:R.Pairwise (λx y=>x.1≠y.1)
structure mh (rd:Wr) (c:gw) (w:World):Prop where
 sat: ∀x∈rd,x.2.sat (c x.1)
 has:Has (rd.flatMap λx=>c x.1) w
def cv:Wr→Nat→Option aA
 | [],_=>none
 | (q,x)::r,p=>if q=p then some x else cv r p
theorem qz: ∀{w:Wr} {p:Nat} {x:aA},cv w p=some x→(p,x)∈w
 | (q,y)::r,p,x,h=>by
  unfold cv at h
  split at h
  ·rename_i e;subst e;cases h;exact Yd ..
  ·exact Xf _ (qz h)
theorem Ab: ∀{w:Wr} {p:Nat},cv w p=none→∀x,(p,x)∉w
 | [],_,_,_,h=>by simp at h
 | (q,y)::r,p,h,x,b=>by
  unfold cv at h
  split at h
  ·cases h
  ·rename_i e;rcases List.mem_cons.1 b with g | b
   ·cases g;exact e rfl
   ·exact Ab h x b
def lE(f:cp)(w:Wr):cp:=λp=>match cv w p with | some x=>some x | none=>f p
def oC(c:gw)(w:Wr)(d:gw):gw:=λp=>match cv w p with | some _=>d p | none=>c p
section
variable {m:Nat} {R:List Nat} {base W W':World} {f:cp} {c d:gw}
theorem kJ.lt(h:kJ R base m f c W){p:Nat}(hp:p<m){z:Nat×Obj}(b:z∈c p):z.1<W.heap.size:=(Array.getElem?_eq_some_iff.1 (h.obj p hp z b)).1
theorem Hl{v:Wr}(h:(v.flatMap λx=>d x.1).Pairwise (λx y=>x.1≠y.1)){p q:Nat}{x y:aA}(g:(p,x)∈v)(C:(q,y)∈v)(r:p≠q): ∀z∈d p,∀u∈d q,z.1≠u.1:=by
 intro z B u A;rw[Xp] at h;obtain⟨i,s,k⟩:=W9 g;obtain⟨j,w,b⟩:=W9 C;have o:i≠j:=λe=>by
  subst e;rw[k] at b;cases b;exact r rfl
 have g:=List.pairwise_iff_getElem.1 h.2;rcases XQ o with l | l
 ·have:=g i j s w l;rw[k,b] at this;exact this z B u A
 ·have:=g j i w s l;rw[k,b] at this;exact Ne.symm (this u A z B)
theorem Hm{v:Wr}(h:(v.flatMap λx=>d x.1).Pairwise (λx y=>x.1≠y.1)){p:Nat}{x:aA}(hp:(p,x)∈v):(d p).Pairwise (λx y=>x.1≠y.1):=by
 rw[Xp] at h;exact h.1 (p,x) hp
theorem kJ.step(h:kJ R base m f c W){O:List Nat}{v:Wr}(K: ∀x∈v,x.2.sat (d x.1))(hs:a8 O (v.flatMap λx=>d x.1) W W')(X: ∀b∈O,∃p,p<m∧(∃x,(p,x)∈v)∧∃z∈c p,z.1=b):kJ R base m (lE f v) (oC c v d) W':=by
 have l: ∀p,((∃x,cv v p=some x∧(p,x)∈v)∧oC c v d p=d p)∨(cv v p=none∧(∀y,(p,y)∉v)∧oC c v d p=c p∧lE f v p=f p):=by
  intro p;cases i:cv v p with
  | some x=>exact .inl ⟨⟨x,rfl,qz i⟩,by unfold oC;rw[i]⟩
  | none=>exact .inr ⟨rfl,λy j=>Ab i y j,by unfold oC;rw[i],by unfold lE;rw[i]⟩
 have M: ∀{q:Nat},q<m→(∀z,(q,z)∉v)→∀y∈c q,y.1∉O:=by
  intro q w s y hy j;obtain⟨p,k,⟨x,r⟩,z,g,e⟩:=X _ j;have Y:p≠q:=λe=>by subst e;exact s _ r
  exact h.nd p q k w Y z g y hy e
 have H: ∀{p:Nat} {x:aA},(p,x)∈v→∀z∈d p,z∈v.flatMap λx=>d x.1:=λ{p x} j z g=>List.mem_flatMap.2 ⟨(p,x),j,g⟩;have N: ∀p q,p<m→q<m→∀x,(p,x)∈v→(∀z,(q,z)∉v)→∀z∈d p,∀u∈c q,z.1≠u.1:=by
  intro p q k w x r s z g u o e;rcases hs.new z (H r z g) with A | A
  ·rw[e] at A;exact M w s u o A
  ·have:=h.lt w o;omega
 refine⟨?_,?_,?_,?_,?_,?_,hs.os.trans h.os,hs.tape.trans h.tape,hs.output.trans h.output,Xd h.size hs.size,?_⟩
 ·intro p k x r;rcases l p with⟨⟨y,i,j⟩,e⟩ | ⟨i,s,e,C⟩
  ·unfold lE at r;rw[i] at r;cases r;rw[e];exact K _ j
  ·rw[e];rw[C] at r;exact h.sat p k x r
 ·intro p k r;rcases l p with⟨⟨y,i,j⟩,e⟩ | ⟨i,s,e,C⟩
  ·unfold lE at r;rw[i] at r;cases r
  ·rw[e];rw[C] at r;exact h.nil p k r
 ·intro p k z g;rcases l p with⟨⟨y,i,j⟩,e⟩ | ⟨i,s,e,C⟩
  ·rw[e] at g;exact hs.obj z (H j z g)
  ·rw[e] at g;exact(hs.far _ (h.lt k g) (M k s z g)).trans (h.obj p k z g)
 ·intro p k;rcases l p with⟨⟨y,i,j⟩,e⟩ | ⟨i,s,e,C⟩
  ·rw[e];exact Hm hs.nd j
  ·rw[e];exact h.inn p k
 ·intro p q k w J z g u o;rcases l p with⟨⟨y,i,j⟩,e⟩ | ⟨i,s,e,C⟩
  ·rw[e] at g;rcases l q with⟨⟨y',D,G⟩,B⟩ | ⟨D,I,B,U⟩
   ·rw[B] at o;exact Hl hs.nd j G J z g u o
   ·rw[B] at o;exact N p q k w y j I z g u o
  ·rw[e] at g;rcases l q with⟨⟨y',D,G⟩,B⟩ | ⟨D,I,B,U⟩
   ·rw[B] at o;exact Ne.symm (N q p w k y' G s u o z g)
   ·rw[B] at o;exact h.nd p q k w J z g u o
 ·intro p k z g;rcases l p with⟨⟨y,i,j⟩,e⟩ | ⟨i,s,e,C⟩
  ·rw[e] at g;rcases hs.new z (H j z g) with V | V
   ·obtain⟨q,w,_,u,o,T⟩:=X _ V;rw[←T];exact h.lo q w u o
   ·exact .inr (Xd h.size V)
  ·rw[e] at g;exact h.lo p k z g
 ·intro b Z s;refine(hs.far b (Xq Z h.size) λj=>?_).trans (h.far b Z s);obtain⟨q,w,_,u,o,T⟩:=X _ j;rcases h.lo q w u o with A | A
  ·rw[T] at A;exact s A
  ·rw[T] at A;omega
theorem kJ.congr{i:cp}(h:kJ R base m f c W)(e: ∀p,p<m→f p=i p):kJ R base m i c W:=
 ⟨λp b x g=>h.sat p b x ((e p b).trans g),λp b g=>h.nil p b ((e p b).trans g),h.obj,h.inn,h.nd,h.lo,h.os,h.tape,h.output,h.size,h.far⟩
end
def de(M0:aj)(wr:Nat→Wr)(S:Nat→Bool)(p:Nat):Nat→Option aA
 | 0=>M0[p]?
 | j+1=>match S j,cv (wr j) p with
  | true,some x=>some x
  | _,_=>de M0 wr S p j
section
variable {M0:aj} {wr wr':Nat→Wr} {S S':Nat→Bool} {p:Nat}
theorem td{j:Nat}(h:S j=false∨cv (wr j) p=none):de M0 wr S p (j+1)=de M0 wr S p j:=by
 rw[de.eq_2];rcases h with h | h
 ·rw[h]
 ·rw[h];cases S j<;>rfl
theorem wF{N:Nat}(h: ∀j,j<N→S j=S' j∧(S j=true→cv (wr j) p=cv (wr' j) p)):de M0 wr S p N=de M0 wr' S' p N:=by
 induction N with
 | zero=>rfl
 | succ j ih=>
  have ih:=ih λi k=>h i Om;obtain⟨b,e⟩:=h j Om;rw[de.eq_2,de.eq_2,←b,ih];cases g:S j with
  | false=>rfl
  | true=>rw[e g]
theorem Hn{k N:Nat}(r:k≤N)(g: ∀j,j<k→(cv (wr j) p).isSome=true→S j=true)(b: ∀j,k≤j→j<N→(cv (wr j) p).isSome=true→S j=false):de M0 wr S p N=de M0 wr (λ_=>true) p k:=by
 have h: ∀d,k+d≤N→de M0 wr S p (k+d)=de M0 wr S p k:=by
  intro d
  induction d with
  | zero=>intro _;rfl
  | succ d ih=>
   intro o;rw[show k+(d+1)=(k+d)+1 from rfl,td,ih Om];cases e:cv (wr (k+d)) p with
   | none=>exact .inr rfl
   | some x=>exact .inl (b _ Om Om (by rw[e];rfl))
 have l: ∀i,i≤k→de M0 wr S p i=de M0 wr (λ_=>true) p i:=by
  intro i
  induction i with
  | zero=>intro _;rfl
  | succ i ih=>
   intro q;rw[de.eq_2,de.eq_2,ih Om];cases e:cv (wr i) p with
   | none=>cases S i<;>rfl
   | some x=>rw[g i Om (by rw[e];rfl)]
 have:=h (N-k) Om;rw[show k+(N-k)=N by omega] at this;rw[this,l k (WU _)]
theorem Ad{k N:Nat}(v:k<N)(o:S k=false)(e:(cv (wr k) p).isSome=true→∀j,k<j→j<N→(cv (wr j) p).isSome=true→S j=false):
  de M0 wr (λj=>if j=k then true else S j) p N=match cv (wr k) p with | some x=>some x | none=>de M0 wr S p N:=by
 have h: ∀i,i≤k→de M0 wr (λj=>if j=k then true else S j) p i=de M0 wr S p i:=λi s=>wF λj u=>⟨by rw[ALifn Om],λ_=>rfl⟩;have l: ∀d,k+1+d≤N→de M0 wr (λj=>if j=k then true else S j) p (k+1+d)=match cv (wr k) p with | some x=>some x | none=>de M0 wr S p (k+1+d):=by
  intro d
  induction d with
  | zero=>
   intro _;rw[Nat.add_zero,de.eq_2,ALifp rfl,h k (WU _),td (S:=S) (.inl o)];cases cv (wr k) p<;>rfl
  | succ d ih=>
   intro r;rw[show k+1+(d+1)=(k+1+d)+1 from rfl,de.eq_2,de.eq_2,ih Om,ALifn Om];cases q:cv (wr k) p with
   | none=>cases S (k+1+d)<;>cases cv (wr (k+1+d)) p<;>rfl
   | some x=>
    cases b:S (k+1+d) with
    | false=>rfl
    | true=>
     cases g:cv (wr (k+1+d)) p with
     | none=>rfl
     | some y=>
      have:=e (by rw[q];rfl) (k+1+d) Om Om (by rw[g];rfl);rw[b] at this;cases this
 have:=l (N-(k+1)) Om;rwa [show k+1+(N-(k+1))=N by omega] at this
end
end
section
open Go Go.RowKit Go.Shelf
structure dS where
 val:bD→Nat→ab→Value
 rd:bD→Nat→Wr
 wt:bD→Nat→ab→Wr
 ob:Nat→List Nat
 cds:Nat→List (Nat×Bool)
 D:Nat→List Nat
 L0:aj
 m:Nat
def dS.vs(t:dS)(η:bD)(k:Nat):Value:=t.val η k (η k)
def dS.wr(t:dS)(η:bD)(k:Nat):Wr:=t.wt η k (η k)
def dS.Hold(t:dS)(η:bD)(k:Nat):Prop:=∀c∈t.cds k,t.vs η c.1= .bool c.2
def dS.Is(t:dS)(η:bD)(i:Nat)(x:Value):Prop:=(t.Hold η i∧x=t.vs η i)∨(¬t.Hold η i∧x=undef)
def dS.at(t:dS)(η:bD)(p k:Nat):Option aA:=de t.L0 (t.wr η) (λ_=>true) p k
def fF(η:bD)(k:Nat)(E:ab):bD:=λj=>if j=k then E else η j
def mX(D:List Nat)(η:bD):bD:=λj=>if D.contains j then η j else ab.zero
theorem Ae{D:List Nat}{η:bD}{k:Nat}{E:ab}(h:k∉D):mX D (fF η k E)=mX D η:=by
 funext j
 unfold mX fF;by_cases b:D.contains j=true
 ·have i:j∈D:=by simpa using b
  have g:j≠k:=λe=>by subst e;exact h i
  rw[ALifp b,ALifp b,ALifn g]
 ·rw[ALifn b,ALifn b]
section
variable (F:Fence) (n:Nat) (P:Program) (L:List Oper) (Q:Exit→Act→World→Prop) (a:Act) (t:dS)
structure Af (η:bD) (k:Nat) (o:Oper):Prop where
 out: ∀(xs:Nat→Value) (w':World) (c:gw),(∀i∈t.D k,t.Is η i (xs i))→(∀i,i<L.length→(i=k∨k∈t.D i)→xs i=jT L a i)→mh (t.rd η k) c w'→t.Hold η k→
  ∀K:Value→World→Prop,(∀E (d:gw) w'',(∀x∈t.wt η k E,x.2.sat (d x.1))→a8 ((t.ob k).flatMap λp=>bN (c p)) ((t.wt η k E).flatMap λx=>d x.1) w' w''→K (t.val η k E) w'')→
   o.wpIn F n P (br xs L 0 a) w' (λa'' w''=>∃v,a''=(br xs L 0 a).put o.dst v∧K v w'') Q
def te(k:Nat)(o:Oper)(η:bD):Prop:=match o.guard with
 | none=>t.cds k=[]
 | some (j,b)=>t.cds k=t.cds j++[(j,b)]∧j∈t.D k∧(∃E,t.vs η j= .bool E)∧(∃d,(L.toArray[j]?).bind (·.dst)=some d∧fD d L 0=some j∧X0 d a.tmps.size=true)
def free(η:bD)(k p:Nat):Prop:=p<t.m∧∀j,j<L.length→j≠k→(cv (t.wr η j) p).isSome=true→(j<k∧j∈t.D k)∨(k<j∧k∈t.D j)
structure jy:Prop where
 acts: ∀η k o,L[k]? =some o→Af F n P L Q a t η k o
 guard: ∀η k o,L[k]? =some o→te L a t k o η
 cin: ∀k,k<L.length→∀c∈t.cds k,c.1∈t.D k
 still: ∀η k,k<L.length→t.cds k≠[]→t.wr η k=[]∨t.Hold η k
 rdf: ∀η k,k<L.length→∀x∈t.rd η k,free L t η k x.1∧t.at η x.1 k=some x.2
 rdn: ∀η k,k<L.length→((t.rd η k).map (·.1)).Nodup
 wrf: ∀η k,k<L.length→∀x∈t.wr η k,free L t η k x.1
 obf: ∀η k,k<L.length→∀p∈t.ob k,∃x,(p,x)∈t.wr η k
 mval: ∀η k,k<L.length→t.val (mX (t.D k) η) k=t.val η k
 mwt: ∀η k,k<L.length→t.wt (mX (t.D k) η) k=t.wt η k
end
section
variable {F:Fence} {n:Nat} {P:Program} {L:List Oper} {Q:Exit→Act→World→Prop} {a:Act} {t:dS}
theorem jy.val_upd(h:jy F n P L Q a t){η:bD}{i k:Nat}{E:ab}(b:i<L.length)(e:k∉t.D i):t.val (fF η k E) i=t.val η i:=by
 rw[←h.mval (fF η k E) i b,Ae e,h.mval η i b]
theorem jy.wt_upd(h:jy F n P L Q a t){η:bD}{i k:Nat}{E:ab}(b:i<L.length)(e:k∉t.D i):t.wt (fF η k E) i=t.wt η i:=by
 rw[←h.mwt (fF η k E) i b,Ae e,h.mwt η i b]
theorem jy.vs_upd(h:jy F n P L Q a t){η:bD}{i k:Nat}{E:ab}(e:i<L.length)(g:k∉t.D i)(b:i≠k):t.vs (fF η k E) i=t.vs η i:=by
 unfold dS.vs;rw[h.val_upd e g,show fF η k E i=η i from ALifn b]
theorem jy.wr_upd(h:jy F n P L Q a t){η:bD}{i k:Nat}{E:ab}(e:i<L.length)(g:k∉t.D i)(b:i≠k):t.wr (fF η k E) i=t.wr η i:=by
 unfold dS.wr;rw[h.wt_upd e g,show fF η k E i=η i from ALifn b]
def gx(L:List Oper)(a:Act)(t:dS)(R:List Nat)(base:World)(S:Nat→Bool)(xs:Nat→Value)(w:World):Prop:=
 ∃(η:bD) (c:gw),(∀i,i<L.length→S i=true→t.Is η i (xs i))∧(∀i,i<L.length→S i=false→xs i=jT L a i)∧kJ R base t.m (λp=>de t.L0 (t.wr η) S p L.length) c w
theorem tf(h:jy F n P L Q a t){R:List Nat}{base:World}{S:Nat→Bool}{xs:Nat→Value}{w':World}{k:Nat}{o:Oper}(A:k<L.length)(ho:L[k]? =some o)
  (X:S k=false) (V: ∀j∈t.D k,j<L.length∧S j=true) (hcl: ∀i,i<L.length→S i=true→∀j∈t.D i,j<L.length∧S j=true) (inv:gx L a t R base S xs w')
  (K:Value→World→Prop) (hK: ∀v C,gx L a t R base (λj=>if j=k then true else S j) (λj=>if j=k then v else xs j) C→K v C) (hF:Fence.free F):
  if Region.wanted o (yielded L.toArray (br xs L 0 a).tmps)=true then o.wpIn F n P (br xs L 0 a) w' (λU C=>∃v,U=(br xs L 0 a).put o.dst v∧K v C) Q
  else(∀f,o.about P w' (br xs L 0 a).eval=some f→F.fn f)∧K undef w':=by
 obtain⟨η,c,B,Z,hO⟩:=inv;have hkD:k∉t.D k:=λhm=>by have:=(V k hm).2;rw[X] at this;cases this
 have l: ∀i,i<L.length→S i=true→k∉t.D i:=λi q g hm=>by have:=(hcl i q g k hm).2;rw[X] at this;cases this
 have hne: ∀i,S i=true→i≠k:=λi g e=>by subst e;rw[X] at g;cases g
 have rd: ∀(η':bD) (p:Nat),free L t η' k p→de t.L0 (t.wr η') S p L.length=t.at η' p k:=by
  intro η' p hf;refine Hn (Nat.le_of_lt A) (λj hj O=>?_) (λj hj H O=>?_)
  ·rcases hf.2 j Om Om O with⟨_,y⟩ | ⟨s,_⟩
   ·exact(V j y).2
   ·omega
  ·by_cases e:j=k
   ·subst e;exact X
   ·rcases hf.2 j H e O with⟨s,_⟩ | ⟨_,y⟩
    ·omega
    ·cases hsj:S j with
     | false=>rfl
     | true=>exact absurd y (l j H hsj)
 have hg:=h.guard η k o ho
 have done:dS.Hold t η k→o.wpIn F n P (br xs L 0 a) w' (λU C=>∃v,U=(br xs L 0 a).put o.dst v∧K v C) Q:=by
  intro I;refine(h.acts η k o ho).out xs w' c (λi q=>B i (V i q).1 (V i q).2) (λi q hik=>?_) ?_ I _ ?_
  ·refine Z i q ?_;rcases hik with rfl | hm
   ·exact X
   ·cases hsi:S i with
    | false=>rfl
    | true=>exact absurd hm (l i q hsi)
  ·refine⟨λx B=>?_,⟨λz hz=>?_,?_⟩⟩
   ·obtain⟨s,y⟩:=h.rdf η k A x B;exact hO.sat x.1 s.1 x.2 ((rd η x.1 s).trans y)
   ·obtain⟨x,B,hz⟩:=List.mem_flatMap.1 hz;obtain⟨s,y⟩:=h.rdf η k A x B;exact hO.obj x.1 s.1 z hz
   ·rw[Xp];refine⟨λx B=>hO.inn x.1 (h.rdf η k A x B).1.1,?_⟩;rw[Xr];intro i j q hj hij z hz u hu;obtain⟨s,y⟩:=h.rdf η k A _ (Xi q);obtain⟨k1,k2⟩:=h.rdf η k A _ (Xi hj);refine hO.nd _ _ s.1 k1.1 ?_ z hz u hu;have hnd:=h.rdn η k A;unfold List.Nodup at hnd;rw[List.pairwise_map,Xr] at hnd;exact hnd i j q hj hij
  ·intro E d C hsat hst;refine hK _ _ ⟨fF η k E,oC c (t.wt η k E) d,λi q g=>?_,λi q g=>?_,?_⟩
   ·by_cases e:i=k
    ·subst e;simp only[if_true];refine .inl ⟨λc r=>?_,?_⟩
     ·have Y:=h.cin i A c r;have w:=V c.1 Y;rw[h.vs_upd w.1 (l c.1 w.1 w.2) (hne _ w.2)];exact I c r
     ·unfold dS.vs;rw[h.val_upd A hkD,show fF η i E i=E from ALifp rfl]
    ·simp only[ALifn e] at g⊢;have hv:=h.vs_upd (η:=η) (E:=E) q (l i q g) e;have hcc:dS.Hold t (fF η k E) i↔dS.Hold t η i:=by
      have heq: ∀c∈t.cds i,t.vs (fF η k E) c.1=t.vs η c.1:=λc r=>by
       have Y:=h.cin i q c r;have w:=hcl i q g c.1 Y;exact h.vs_upd w.1 (l c.1 w.1 w.2) (hne _ w.2)
      exact⟨λI c r=>(heq c r).symm.trans (I c r),λI c r=>(heq c r).trans (I c r)⟩
     rcases B i q g with⟨s,y⟩ | ⟨s,y⟩
     ·exact .inl ⟨hcc.2 s,by rw[hv];exact y⟩
     ·exact .inr ⟨λh3=>s (hcc.1 h3),y⟩
   ·by_cases e:i=k
    ·subst e;simp at g
    ·simp only[ALifn e] at g⊢;exact Z i q g
   ·have hcg: ∀p,de t.L0 (t.wr (fF η k E)) S p L.length=de t.L0 (t.wr η) S p L.length:=λp=>wF λj hj=>⟨rfl,λg=>by rw[h.wr_upd hj (l j hj g) (hne j g)]⟩;have hwr:t.wr (fF η k E) k=t.wt η k E:=by
     unfold dS.wr;rw[h.wt_upd A hkD,show fF η k E k=E from ALifp rfl]
    have hfr: ∀p,(cv (t.wr (fF η k E) k) p).isSome=true→free L t (fF η k E) k p:=by
     intro p hp;obtain⟨x,B⟩:=Option.isSome_iff_exists.1 hp;exact h.wrf (fF η k E) k A _ (qz B)
    have hf:(λp=>de t.L0 (t.wr (fF η k E)) (λj=>if j=k then true else S j) p L.length)=lE (λp=>de t.L0 (t.wr η) S p L.length) (t.wt η k E):=by
     funext p
     rw[Ad A X (λO j hkj H hlj=>?_),hwr,hcg]
     ·rfl
     ·rcases(hfr p O).2 j H Om hlj with⟨s,_⟩ | ⟨_,y⟩
      ·omega
      ·cases hsj:S j with
       | false=>rfl
       | true=>exact absurd y (l j H hsj)
    rw[hf];refine hO.step hsat hst λb hb=>?_;obtain⟨p,hp,hb⟩:=List.mem_flatMap.1 hb;obtain⟨z,hz,e⟩:=List.mem_map.1 hb;obtain⟨x,B⟩:=h.obf (fF η k E) k A p hp;have s:=h.wrf (fF η k E) k A _ B;exact⟨p,s.1,⟨x,by rw[←hwr];exact B⟩,z,hz,e⟩
 have T: ¬dS.Hold t η k→t.cds k≠[]→K undef w':=by
  intro hn r;have hw:=(h.still η k A r).resolve_right hn;refine hK _ _ ⟨η,c,λi q g=>?_,λi q g=>?_,?_⟩
  ·by_cases e:i=k
   ·subst e;simp only[if_true];exact .inr ⟨hn,rfl⟩
   ·simp only[ALifn e] at g⊢;exact B i q g
  ·by_cases e:i=k
   ·subst e;simp at g
   ·simp only[ALifn e] at g⊢;exact Z i q g
  ·have hf:(λp=>de t.L0 (t.wr η) (λj=>if j=k then true else S j) p L.length)=λp=>de t.L0 (t.wr η) S p L.length:=by
    funext p
    rw[Ad A X (λO=>by rw[hw] at O;cases O),hw];rfl
   rw[hf];exact hO
 unfold te at hg;cases G:o.guard with
 | none=>
  rw[G] at hg;simp only at hg;rw[ALifp (by simp [Region.wanted,G])];exact done (λc r=>by rw[hg] at r;simp at r)
 | some jb=>
  obtain⟨j,b⟩:=jb;rw[G] at hg;simp only at hg;obtain⟨r,hjD,⟨E,hE⟩,d,hd,hw,g⟩:=hg;have hjx:=B j (V j hjD).1 (V j hjD).2;have M:L.take L.length=L:=Xw;rcases hjx with⟨s,y⟩ | ⟨s,y⟩
  ·rw[hE] at y;have D:=Hg (L:=L) (N:=L.length) (a:=a) (xs:=xs) G hd (by rw[M];exact hw) g y;rw[M] at D;by_cases e:E=b
   ·subst e;rw[D,ALifp (by cases E<;>rfl)];refine done λc J=>?_;rw[r] at J;rcases List.mem_append.1 J with h3 | h3
    ·exact s c h3
    ·obtain rfl:=List.mem_singleton.1 h3;exact hE
   ·rw[D,ALifn (by cases E<;>cases b<;>simp_all)];refine⟨λf _=>hF.2 f,T (λI=>e ?_) (by rw[r];simp)⟩;have:=I (j,b) (by rw[r];simp);rw[hE] at this;exact Value.bool.inj this
  ·have D:=Hh (L:=L) (N:=L.length) (a:=a) (xs:=xs) G hd (by rw[M];exact hw) g y;rw[M] at D;rw[D,ALifn Dc];refine⟨λf _=>hF.2 f,T (λI=>s λc J=>I c (by rw[r];exact WR _ J)) (by rw[r];simp)⟩
end
end
section
open Go Go.RowKit Go.Shelf
section
variable {F:Fence} {n:Nat} {P:Program} {L:List Oper} {Q:Exit→Act→World→Prop} {a:Act} {t:dS} {R:List Nat} {base:World}
theorem gx.congr{S S':Nat→Bool}{xs xs':Nat→Value}{w:World}(h:gx L a t R base S xs w)(hs: ∀i,i<L.length→S i=S' i)(k: ∀i,i<L.length→xs i=xs' i):gx L a t R base S' xs' w:=by
 obtain⟨η,c,l,o,q⟩:=h;refine⟨η,c,λi b g=>by rw[←k i b];exact l i b (by rw[hs i b];exact g),λi b g=>by rw[←k i b];exact o i b (by rw[hs i b];exact g),?_⟩;have e:(λp=>de t.L0 (t.wr η) S' p L.length)=λp=>de t.L0 (t.wr η) S p L.length:=by
  funext p
  exact(wF λj r=>⟨hs j r,λ_=>rfl⟩).symm
 rw[e];exact q
theorem gx.drew{S:Nat→Bool}{xs:Nat→Value}{w:World}(h:gx L a t R base S xs w):gx L a t R base S xs w.drew:=by
 obtain⟨η,c,e,g,b⟩:=h;exact⟨η,c,e,g,b.sat,b.nil,b.obj,b.inn,b.nd,b.lo,b.os,b.tape,b.output,b.size,b.far⟩
theorem Ag(h:jy F n P L Q a t)(hF:Fence.free F)(hc:Region.chainB .any L.toArray L.length=true)(hb:mW .any L.toArray L.length=true)(M:mW .any L.toArray 0=true)(Y:mf L=true)(hD:s9 .any L.toArray L.length t.D=true)
  (C: ∀xs w',gx L a t R base (λ_=>true) xs w'→Q .normal (br xs L 0 a) w'):
  ∀(c g:Nat) (b:Array Bool) (xs:Nat→Value) (w':World),gR b L.length=c→c≤g→HeadInv .any L.toArray L.length b→
   (∀i,i<L.length→b.getD i false=true→∀j∈t.D i,b.getD j false=true)→gx L a t R base (λi=>b.getD i false) xs w'→wpAnyIn F n P .any L.toArray Q g b (br xs L 0 a) w'
 | 0,g,b,xs,w',w,hf,q,hk,hI=>by
  have l:=wB L.length w;have u: ∀i,i<L.length→b.getD i false=true:=by
   intro i s;have r:i<b.size:=by rw[q.size,W6];omega
   have:=l i s;simp [r] at this⊢;exact this
  refine wx hc hb 0 L.length g b _ w' (by rw[W6];omega) (WU _) Om q.size l u q.tail ?_;have e:L.toArray.toList.drop L.length=[]:=by simp
  rw[e];exact C xs w' (hI.congr (λi s=>u i s) (λ_ _=>rfl))
 | c+1,g,b,xs,w',w,hf,q,hk,hI=>by
  obtain⟨f,rfl⟩: ∃f,g=f+1:=⟨g-1,by omega⟩;have hun: ∃i,i<L.length∧b.getD i true=false:=by
   apply Yi;intro hno;have l: ∀i,i<L.length→b.getD i true=true:=λi s=>by
    cases H:b.getD i true with
    | true=>rfl
    | false=>exact(hno ⟨i,s,H⟩).elim
   have: ∀k,k≤L.length→gR b k=0:=by
    intro k
    induction k with
    | zero=>intro _;rfl
    | succ k ih=>intro h;unfold gR;rw[ih Om,l k Om];rfl
   rw[this L.length (WU _)] at w;omega
  obtain⟨i0,hi0,hu0⟩:=hun;have some:Region.ready .any L.toArray b=[]→∀d i,i=d→i<L.length→b.getD i true=true:=by
   intro y d
   induction d using Nat.strongRecOn with
   | _ d ih=>
    rintro i rfl s;cases H:b.getD i true with
    | true=>rfl
    | false=>
     exfalso;have D:i<L.toArray.size:=by rw[W6];omega
     have V:L.toArray[i]? =some L.toArray[i]:=Array.getElem?_eq_getElem D;have hB:=List.all_eq_true.1 M i (List.mem_range.2 D);rw[V] at hB;simp only[Xy,decide_eq_true_eq,WW,Yf,Nat.not_lt_zero,false_or] at hB;have:i∈Region.ready .any L.toArray b:=mem_ready.2 ⟨H,_,V,λe he hbd=>by
      have r:=Array.all_eq_true'.1 hB e he;rw[hbd] at r;have Z:e.on<i:=by simpa using r
      have I:=ih e.on Z e.on rfl Om;have h5:e.on<b.size:=by rw[q.size,W6];omega
      rw[Array.getD_eq_getD_getElem?,Array.getElem?_eq_getElem h5] at I⊢;exact I⟩
     rw[y] at this;cases this
  refine⟨λy=>(by have:=some y i0 i0 rfl hi0;rw[hu0] at this;cases this),λi s=>?_⟩;have z:i<L.length:=by
   obtain⟨_,o,U,_⟩:=mem_ready.1 s;have:=(Array.getElem?_eq_some_iff.1 U).1;rwa [W6] at this
  obtain⟨H,o,U,l⟩:=mem_ready.1 s;have X:L[i]? =Option.some o:=by rw[←Xz];exact U
  have J: ∀j∈t.D i,j<L.length∧b.getD j false=true:=by
   intro j x;have G:=List.all_eq_true.1 (List.all_eq_true.1 hD i (List.mem_range.2 z)) j x;rw[U] at G;simp only[WW,Yf,WT,decide_eq_true_eq] at G;refine⟨G.1,?_⟩;obtain⟨e,he,r⟩:=Array.any_eq_true'.1 G.2;simp only[WT,Xy,beq_iff_eq,decide_eq_true_eq] at r;have Z:=l e he r.1;rcases r.2 with I | ⟨I,h5⟩
   ·rw[←I];exact Z
   ·exact hk e.on I Z j (by simpa using h5)
  have K: ∀i,i<L.length→∀j∈t.D i,j<L.length:=by
   intro i s j x;have G:=List.all_eq_true.1 (List.all_eq_true.1 hD i (List.mem_range.2 s)) j x;simp only[WT,decide_eq_true_eq] at G;exact G.1
  have hSi:b.getD i false=false:=by
   have r:i<b.size:=by rw[q.size,W6];omega
   simp [r] at H⊢;exact H
  have A:=tf h (S:=λi=>b.getD i false) (xs:=xs) (w':=w') (k:=i) (o:=o) z X hSi (λj x=>J j x) (λi' N hs j x=>⟨K i' N j x,hk i' N hs j x⟩) hI
   (λv B=>wpAnyIn F n P .any L.toArray Q f (b.setIfInBounds i true) ((br xs L 0 a).put o.dst v) B) (λv B hI2=>by
    rw[qu v _ 0 a i o Y X,WX];refine Ag h hF hc hb M Y hD C c f _ _ B (by have:=wA H L.length z;omega) Om (q.set s z) ?_ (hI2.congr (λj x=>?_) (λ_ _=>rfl))
    ·intro j x T j' O;by_cases e:j=i
     ·subst e;exact getD_set_true (J j' O).2
     ·rw[getD_set_ne false (Ne.symm e)] at T;exact getD_set_true (hk j x T j' O)
    ·show(if j=i then true else b.getD j false)=_;by_cases e:j=i
     ·subst e;have r:j<b.size:=by rw[q.size,W6];omega
      simp [r]
     ·rw[ALifn e,getD_set_ne false (Ne.symm e)]) hF
  unfold wpOpIn;simp only[U]
  split
  ·rename_i hw;rw[ALifp hw] at A;exact Oper.wpIn_mono (λa'' B ⟨v,e,h⟩=>by rw[e];exact h) A
  ·rename_i hw;rw[ALifn hw] at A;exact A
theorem Ah(h:jy F n P L Q a t)(B:Fence.free F)(u:mf L=true)(w: ∀k,k<L.length→∀j∈t.D k,j<k)
  (q: ∀xs w',gx L a t R base (λ_=>true) xs w'→Q .normal (br xs L 0 a) w'):
  ∀(d k:Nat) (xs:Nat→Value) (w':World),k+d=L.length→gx L a t R base (λi=>decide (i<k)) xs w'→wpListIn F n P L.toArray Q (L.drop k) (br xs L 0 a) w'
 | 0,k,xs,w',D,x=>by
  obtain rfl:k=L.length:=by omega
  rw[XV];exact q xs w' (x.congr (λi z=>by simpa using z) (λ_ _=>rfl))
 | d+1,k,xs,w',D,x=>by
  have b:k<L.length:=by omega
  rw[XD b];have s:L[k]? =some L[k]:=WM b;have g:=tf h (S:=λi=>decide (i<k)) (xs:=xs) (w':=w') (k:=k) (o:=L[k]) b s (by simp) (λj r=>⟨by have:=w k b j r;omega,by simpa using w k b j r⟩)
   (λi z G j r=>by
    have H:=w i z j r;have I:i<k:=by simpa using G
    exact⟨by omega,by simp;omega⟩) x
   (λv l=>wpListIn F n P L.toArray Q (L.drop (k+1)) ((br xs L 0 a).put L[k].dst v) l) (λv l y=>by
    rw[qu v _ 0 a k _ u s,WX];refine Ah h B u w q d (k+1) _ l Om (y.congr (λj r=>?_) (λ_ _=>rfl));show(if j=k then true else decide (j<k))=decide (j<k+1);by_cases e:j=k
    ·subst e;simp
    ·rw[ALifn e,decide_eq_decide];omega) B
  unfold wpListIn
  split
  ·rename_i A;rw[ALifp A] at g;exact Oper.wpIn_mono (λC l ⟨v,e,h⟩=>by rw[e];exact h) g
  ·rename_i A;rw[ALifn A] at g;exact g
def mi(b:Bool)(L:List Oper)(D:Nat→List Nat):Bool:=
 mf L&&(if b then Region.chainB .any L.toArray L.length&&mW .any L.toArray L.length&&mW .any L.toArray 0&&s9 .any L.toArray L.length D
  else(Xk L.length).all λk=>(D k).all λj=>decide (j<k))
theorem Ho{id:Nat}{r:Bool}{w:World}(hm:P.follows .mixedOrders=true)(h:jy F n P L Q a t)(hF:Fence.free F)(hs:mi r L t.D=true)
  (OW:Hid (aE R base t.L0 w)) (Le:bD→aj) (G: ∀η,(Xk t.m).map (λp=>t.at η p L.length)=(Le η).map some)
  (H: ∀(η:bD) (C:Nat→Value) (w':World),(∀i,i<L.length→t.Is η i (C i))→Hid (aE R base (Le η) w')→Q .normal (br C L 0 a) w'):(Code.region id L.toArray r).wpIn F n P Q a w:=by
 have A: ∀C w',gx L a t R base (λ_=>true) C w'→Q .normal (br C L 0 a) w':=by
  intro C w' ⟨η,c,g,_,K⟩;refine H η C w' (λi hi=>g i hi rfl) ?_;have B:(Le η).length=t.m:=by
   have:=ALca Yl (G η);simpa using this.symm
  have U: ∀p,p<t.m→t.at η p L.length=(Le η)[p]? :=by
   intro p hp;have:=ALca (λl=>l[p]?) (G η);simp only[W8,XZ hp,WW] at this;cases hq:(Le η)[p]? with
   | none=>rw[hq] at this;cases this
   | some x=>rw[hq] at this;simpa using this
  exact Lib.hid ⟨c,by rw[B];exact K.congr U⟩
 have h0:br (jT L a) L 0 a=a:=wz _ 0 a λi o d ho hd=>by
  unfold jT;rw[WX,ho,Yg,hd]
 have X: ∀(wr:Nat→Wr) (p N:Nat),de t.L0 wr (λ_=>false) p N=t.L0[p]? :=by
  intro wr p N
  induction N with
  | zero=>rfl
  | succ N ih=>rw[td (.inl rfl),ih]
 have D:gx L a t R base (λ_=>false) (jT L a) w:=by
  obtain⟨c,y⟩:=OW.out;refine⟨λ_=>ab.zero,λp=>if p<t.L0.length then c p else[],λi _ hs=>absurd hs Bool.false_ne_true,λ_ _ _=>rfl,?_⟩;have e:(λp=>de t.L0 (t.wr λ_=>ab.zero) (λ_=>false) p L.length)=λp=>t.L0[p]? :=by funext p;exact X _ _ _
  rw[e];have s: ∀p,((p<t.L0.length)∧(if p<t.L0.length then c p else[])=c p)∨(¬p<t.L0.length∧(if p<t.L0.length then c p else[])=[]):=λp=>by
   by_cases h:p<t.L0.length
   ·exact .inl ⟨h,ALifp h⟩
   ·exact .inr ⟨h,ALifn h⟩
  refine⟨λp _ x O=>?_,λp _ O=>?_,λp _ z v=>?_,λp _=>?_,λp q _ _ Z z v u M=>?_,λp _ z v=>?_,y.os,y.tape,y.output,y.size,y.far⟩
  ·rcases s p with⟨g,b⟩ | ⟨g,b⟩
   ·rw[b];exact y.sat p g x O
   ·exact absurd (List.getElem?_eq_some_iff.1 O).1 g
  ·rcases s p with⟨g,b⟩ | ⟨g,b⟩
   ·rw[b];exact y.nil p g O
   ·exact b
  ·rcases s p with⟨g,b⟩ | ⟨g,b⟩
   ·rw[b] at v;exact y.obj p g z v
   ·rw[b] at v;simp at v
  ·rcases s p with⟨g,b⟩ | ⟨g,b⟩
   ·rw[b];exact y.inn p g
   ·rw[b];exact List.Pairwise.nil
  ·rcases s p with⟨g,b⟩ | ⟨g,b⟩
   ·rw[b] at v;rcases s q with⟨K,T⟩ | ⟨K,T⟩
    ·rw[T] at M;exact y.nd p q g K Z z v u M
    ·rw[T] at M;simp at M
   ·rw[b] at v;simp at v
  ·rcases s p with⟨g,b⟩ | ⟨g,b⟩
   ·rw[b] at v;exact y.lo p g z v
   ·rw[b] at v;simp at v
 unfold mi at hs;simp only[WT] at hs;obtain⟨I,hs⟩:=hs;cases r with
 | true=>
  simp only[if_true,WT] at hs;obtain⟨⟨⟨hc,hb⟩,V⟩,hD⟩:=hs;refine wpIn_region_any hm ?_;have Y: ∀k,gR (Array.replicate L.length false) k≤k:=by
   intro k
   induction k with
   | zero=>exact WU _
   | succ k ih=>unfold gR;split<;>omega
  have h:=Ag (R:=R) (base:=base) h hF hc hb V I hD A _ L.toArray.size (Array.replicate L.length false) (jT L a) w.drew rfl (by rw[W6];exact Y _)
   ⟨by simp,λj oj _ B e _ _=>(by rw[getD_replicate_false] at B;exact Yj B),λt _ J=>(by rw[W6] at J;simp [J])⟩ (λi _ B=>(by rw[getD_replicate_false] at B;exact Yj B))
   (D.drew.congr (λi _=>(getD_replicate_false _ _).symm) (λ_ _=>rfl))
  rw[h0] at h;simpa using h
 | false=>
  simp only[XM,if_false] at hs;refine wpIn_region_lit ?_;have h:=Ah (R:=R) (base:=base) h hF I (λk hk j hj=>by
   have:=List.all_eq_true.1 (List.all_eq_true.1 hs k (List.mem_range.2 hk)) j hj;simpa using this) A L.length 0 (jT L a) w Om (D.congr (λi _=>by simp) (λ_ _=>rfl))
  rw[h0,XE] at h;exact h
end
end
section
open Go Go.RowKit Go.Shelf
abbrev Fe:=List (Nat×Value)
def lk:Fe→Nat→Option Value
 | [],_=>none
 | (j,v)::r,i=>match Nat.beq j i with
  | true=>some v
  | false=>lk r i
structure Sl where
 sz:Nat
 e:Fe
def Sl.ev(a:Sl):Operand→Value
 | .tmp i=>(lk a.e i).getD undef
 | .const v=>v
 | .global g=> .pointer (some ⟨g,0,none⟩)
 | .func f=> .func (.func f) #[] #[]
def Sl.kn(a:Sl)(i:Nat):Bool:=(lk a.e i).isSome
structure Fr (a:Sl) (Ds:List Nat) (b:Act):Prop where
 size:b.tmps.size=a.sz
 get: ∀i v,lk a.e i=some v→b.tmps.getD i undef=v
 defers:b.defers=Ds.map jU
theorem Fr.ev{a:Sl}{Ds:List Nat}{b:Act}(h:Fr a Ds b): ∀{x:Operand},(∀i,x= .tmp i→a.kn i=true)→b.eval x=a.ev x
 | .tmp i,e=>by
  have c:=e i rfl;unfold Sl.kn at c;obtain⟨v,d⟩:=Option.isSome_iff_exists.1 c;show b.tmps.getD i undef=(lk a.e i).getD undef;rw[h.get i v d,d];rfl
 | .const _,_=>rfl
 | .global _,_=>rfl
 | .func _,_=>rfl
def vS(s:Sem Value):Sem Next:=do pure (.value (←s))
def qA:Op→Option (List Operand)
 | .move x=>some [x]
 | .assign x=>some [x]
 | .load _ x=>some [x]
 | .box _ x=>some [x]
 | .alloc _=>some []
 | .nilCheck x=>some [x]
 | .unOp _ _ x=>some [x]
 | .convert _ _ x=>some [x]
 | .sliceToArrayPointer _ x=>some [x]
 | .fieldAddr _ x _=>some [x]
 | .field _ x _=>some [x]
 | .extract x _=>some [x]
 | .binOp _ _ x y _=>some [x,y]
 | .indexAddr _ x y=>some [x,y]
 | .index _ x y=>some [x,y]
 | .lookup _ x y _=>some [x,y]
 | .store _ x y=>some [x,y]
 | .makeSlice _ x y=>some [x,y]
 | .mapUpdate _ x y z=>some [x,y,z]
 | .build _ d=>some (d.toList.map (·.2))
 | .buildSlice _ _ d=>some (d.toList.map (·.2))
 | .slice _ x g f h=>some (x::(g.toList++f.toList++h.toList))
 | .makeFunc _ first e=>some (first.toList++e.toList)
 | .makeMap _ r=>some r.toList
 | .call c=>match c.callee with | .builtin _=>some c.args.toList | _=>none
 | _=>none
theorem qB{ρ ρ':Operand→Value}{xs:Array Operand}(h: ∀x∈xs.toList,ρ x=ρ' x):xs.map ρ=xs.map ρ':=Array.map_congr_left λx c=>h x (by simpa using c)
theorem th{ρ ρ':Operand→Value}{x:Option Operand}(h: ∀y∈x.toList,ρ y=ρ' y):x.map ρ=x.map ρ':=by cases x<;>simp_all
theorem Ai{ρ ρ':Operand→Value}{xs:Array (Nat×Operand)}(h: ∀x∈xs.toList.map (·.2),ρ x=ρ' x):xs.map (λ(i,x)=>(i,ρ x))=xs.map (λ(i,x)=>(i,ρ' x)):=
 Array.map_congr_left λx c=>by
  obtain⟨i,x⟩:=x;simp only;rw[h x (List.mem_map.2 ⟨(i,x),by simpa using c,rfl⟩)]
theorem Aj{ρ ρ':Operand→Value}{o:Oper}{l:List Operand}(h:qA o.op=some l)(d: ∀x∈l,ρ x=ρ' x):execOp ρ o=execOp ρ' o:=by
 unfold execOp;cases f:o.op<;>rw[f] at h<;>simp only[qA,reduceCtorEq,Option.some.injEq] at h
 case call c=>
  cases g:c.callee<;>rw[g] at h<;>simp only[reduceCtorEq,Option.some.injEq] at h
  subst h;simp only[resolve,g,qB d]
 case build=>subst h;simp only[Ai d]
 case buildSlice=>subst h;simp only[Ai d]
 case makeFunc=>subst h;simp only[qB λx e=>d x (WR _ e),qB λx e=>d x (WS _ e)]
 case makeMap=>subst h;simp only[th d]
 case slice=>
  subst h;simp only[d _ (Yd ..),th λx e=>d x (Xf _ (WR _ (WR _ e))),th λx e=>d x (Xf _ (WR _ (WS _ e))),th λx e=>d x (Xf _ (WS _ e))]
 all_goals (subst h;simp only[WN,WL,or_false,forall_eq_or_imp,forall_eq] at d;simp only[d])
abbrev a9:=(α:Type)×(α×α)
def sE{α:Type}(a b:α):a9:=⟨α,(a,b)⟩
def sB(b:Bool):a9:=⟨Bool,(b,true)⟩
def a9.lhs(e:a9):(α:Type)×α:=⟨e.1,e.2.1⟩
def a9.rhs(e:a9):(α:Type)×α:=⟨e.1,e.2.2⟩
theorem a9.of{e:a9}(h:e.lhs=e.rhs):e.2.1=e.2.2:=by
 obtain⟨α,x,y⟩:=e;unfold a9.lhs a9.rhs at h;simp only[Sigma.mk.injEq,heq_eq_eq,true_and] at h;exact h
theorem a9.all{l:List a9}(h:l.map a9.lhs=l.map a9.rhs): ∀e∈l,e.2.1=e.2.2:=by
 induction l with
 | nil=>intro e c;simp at c
 | cons x r ih=>
  simp only[XN,List.cons.injEq] at h;intro e c;rcases List.mem_cons.1 c with rfl | c
  ·exact a9.of h.1
  ·exact ih h.2 e c
theorem bE(h: ∀e∈[sB false],e.2.1=e.2.2):False:=by
 have:=h _ (List.mem_singleton.2 rfl);cases this
def bt:aj→List ay→Prop
 | [],[]=>True
 | x::xs,c::cs=>x.sat c∧bt xs cs
 | _,_=>False
structure aa (P:Program) (f:FuncId) (args:Array Value) (rd:aj) (O:List Nat) (wt:ab→aj) (v:ab→Value):Prop where
 ent:Enters P f
 out: ∀(w:World) (cs:List ay),bt rd cs→Has cs.flatten w→Calls P f args w λe w'=>∃E ds,e= .returned (v E)∧bt (wt E) ds∧a8 (O.flatMap λi=>bN (cs.getD i [])) ds.flatten w w'
class km (F:Fence):Prop where
 free:Fence.free F
 lift: ∀{n:Nat} {P:Program} {f:FuncId} {args:Array Value} {w:World} {R:Ending→World→Prop},Calls P f args w R→CallsIn F n P f args w R
instance:km Fence.wide:=⟨z5,callsIn_wide.2⟩
instance (l:Nat):km (Fence.wide.inRound l):=⟨z7 l,λh=>CallsIn.inRound l (callsIn_wide.2 h)⟩
section
variable (P:Program)
abbrev TD:=Oper→(Operand→Value)→List a9
def TD.ok(d:TD)(val:Value):Prop:=∀(o:Oper) (ρ:Operand→Value),(∀e∈d o ρ,e.2.1=e.2.2)→∀w,(execOp ρ o).run P w= .ok (.value val) w
structure TH (val:Value) where
 d:TD
 h:TD.ok P d val
structure MD where
 rd:Wr
 wt:ab→Wr
 eqs:List a9
def MD.bad:MD:=⟨[],λ_=>[],[sB false]⟩
def MD.ok(val:ab→Value)(f:Oper→(Operand→Value)→cp→MD)(ob:List Nat):Prop:=∀(o:Oper) (ρ:Operand→Value) (C:cp),(∀e∈(f o ρ C).eqs,e.2.1=e.2.2)→∀(w:World) (c:gw),mh (f o ρ C).rd c w→
 ∃(E:ab) (z:gw) (d:World),((execOp ρ o).run P w= .ok (.value (val E)) d∨((execOp ρ o).run P w= .ok .skip d∧val E=undef))∧(∀x∈(f o ρ C).wt E,x.2.sat (z x.1))∧a8 (ob.flatMap λp=>bN (c p)) (((f o ρ C).wt E).flatMap λx=>z x.1) w d
structure MH (val:ab→Value) where
 ob:List Nat
 d:Oper→(Operand→Value)→cp→MD
 h:MD.ok P val d ob
end
inductive b4 (P:Program):Type 1
 | v (v:Value)
 | t {val:Value} (d:TH P val)
 | u {val:Value} (d:TD) (j:Nat) (E b:Bool) (h:E=b→TD.ok P d val)
 | k (v:Value)
 | d (v:Value)
 | m {val:ab→Value} (d:MH P val)
 | c {f:FuncId} {args:Array Value} {rd:aj} {O:List Nat} {wt:ab→aj} {v:ab→Value} (ps qs:List Nat) (h:aa P f args rd O wt v)
section
variable {P:Program}
def b4.val:b4 P→ab→Value
 | .v x,_ | .k x,_ | .d x,_=>x
 | @b4.t _ val _,_=>val
 | @b4.u _ val _ _ _ _ _,_=>val
 | @b4.m _ val _,E=>val E
 | @b4.c _ _ _ _ _ _ x _ _ _,E=>x E
def b4.rd:b4 P→Oper→(Operand→Value)→cp→Wr
 | .m x,o,ρ,C=>(x.d o ρ C).rd
 | @b4.c _ _ _ rd _ _ _ ps _ _,_,_,_=>ps.zip rd
 | _,_,_,_=>[]
def b4.wt:b4 P→Oper→(Operand→Value)→cp→ab→Wr
 | .m x,o,ρ,C,E=>(x.d o ρ C).wt E
 | @b4.c _ _ _ _ _ wt _ _ qs _,_,_,_,E=>qs.zip (wt E)
 | _,_,_,_,_=>[]
def b4.ob:b4 P→List Nat
 | .m x=>x.ob
 | @b4.c _ _ _ _ O _ _ ps _ _=>O.map λi=>ps.getD i 0
 | _=>[]
end
def Al(N:Nat):List Oper→List (List Nat)→List (List Nat)
 | [],c=>c
 | o::os,c=>Al N os (c++[(o.after.toList.foldl (λl e=>if Region.binds .any e&&X0 e.on N then(e.on::(c.getD e.on [])).foldl (λl j=>if l.contains j then l else j::l) l else l) [])])
def qC:List Oper→List (List (Nat×Bool))→List (List (Nat×Bool))
 | [],c=>c
 | o::os,c=>qC os (c++[match o.guard with | none=>[] | some (j,b)=>c.getD j []++[(j,b)]])
def qD(L:List Oper)(a:Sl)(c:List Nat)(vs:List Value):Operand→Value
 | .tmp i=>match fD i L 0 with
  | some j=>if c.contains j then vs.getD j undef else a.ev (.tmp i)
  | none=>a.ev (.tmp i)
 | x=>a.ev x
abbrev Am:=List Value×cp
def Ao{P:Program}(L:List Oper)(a:Sl)(c:List (List Nat))(η:bD):List Oper→List (b4 P)→Nat→Am→List Am
 | o::os,h::hs,k,s=>s::Ao L a c η os hs (k+1) (s.1++[h.val (η k)],lE s.2 (h.wt o (qD L a (c.getD k []) s.1) s.2 (η k)))
 | _,_,_,_=>[]
def Ap{α:Type}{P:Program}(L:List Oper)(a:Sl)(c:List (List Nat))(d:aj)(hs:bD→List (b4 P))(η:bD)(k:Nat)(z:α)(f:b4 P→Oper→(Operand→Value)→cp→α):α:=
 match L[k]?,(hs η)[k]?,(Ao L a c η L (hs η) 0 ([],λp=>d[p]?))[k]? with
 | some o,some h,some s=>f h o (qD L a (c.getD k []) s.1) s.2
 | _,_,_=>z
def tj{P:Program}(L:List Oper)(a:Sl)(DL:List (List Nat))(CL:List (List (Nat×Bool)))(L0:aj)(m:Nat)(hs:bD→List (b4 P)):dS where
 val η k:=match (hs η)[k]? with | some h=>h.val | none=>λ_=>undef
 rd η k:=Ap L a DL L0 hs η k [] b4.rd
 wt η k:=Ap L a DL L0 hs η k (λ_=>[]) b4.wt
 ob k:=match (hs λ_=>ab.zero)[k]? with | some h=>h.ob | none=>[]
 cds k:=CL.getD k []
 D k:=DL.getD k []
 L0:=L0
 m:=m
section
variable (L:List Oper) (a:Sl) (t:dS) (η:bD) (k:Nat)
def fw:Operand→Value
 | .tmp i=>match fD i L 0 with
  | some j=>if(t.D k).contains j then t.vs η j else a.ev (.tmp i)
  | none=>a.ev (.tmp i)
 | x=>a.ev x
def lF(C:List (Nat×Bool)):Operand→Bool
 | .tmp i=>match fD i L 0 with
  | some j=>X0 i a.sz&&(if(t.D k).contains j then(t.cds j).all (C.contains ·) else(j==k||(t.D j).contains k)&&a.kn i)
  | none=>a.kn i
 | _=>true
def nK(o:Oper):Bool:=mc o&&match qA o.op with | some l=>l.all (lF L a t k (t.cds k)) | none=>false
def dc:List Nat→Bool
 | []=>true
 | x::r=> !r.contains x&&dc r
def Hp:Value→Bool
 | .bool _=>true
 | _=>false
def dO(P:Program)(T:TypeId):Bool:=match P.underlying T with | some (.struct _)=>true | some (.array _ _)=>true | _=>false
def nN(g off:Nat):Value:= .pointer (some ⟨g,off,none⟩)
def wG:Bool→Bool→Value→Option Value
 | true,E,.bool X=>some (.bool (E&&X))
 | _,_,_=>none
def wH:Bool→Bool→Value→Option Value
 | true,E,.bool X=>some (.bool (E||X))
 | _,_,_=>none
def Aq(c x y:Operand):Option Value:=
 let C:=match c with | .tmp i=>(match fD i L 0 with | some j=>if(t.D k).contains j then some j else none | none=>none) | _=>none
 let d:=match C with | some j=>t.cds k++[(j,true)] | none=>t.cds k
 let e:=match C with | some j=>t.cds k++[(j,false)] | none=>t.cds k
 match fw L a t η k c with
 | .bool E=>match y with
  | .const (.bool false)=>wG (lF L a t k d x) E (fw L a t η k x)
  | _=>match x with
   | .const (.bool true)=>wH (lF L a t k e y) E (fw L a t η k y)
   | _=>none
 | _=>none
def wI:Value→List Value→Option (FuncId×List Value)
 | .func (.func f) first c,d=>some (f,first.toList++d++c.toList)
 | _,_=>none
theorem Hq{v:Value}{vs:List Value}{f:FuncId}{args:List Value}(h:wI v vs=some (f,args)): ∃first c,v= .func (.func f) first c∧args=first.toList++vs++c.toList:=by
 unfold wI at h
 split at h
 ·simp only[Option.some.injEq,Prod.mk.injEq] at h;obtain⟨rfl,rfl⟩:=h;exact⟨_,_,rfl,rfl⟩
 ·cases h
def lG{P:Program}(o:Oper):b4 P→List a9
 | .v v=>[sB (nK L a t k o),sE (λw=>(execOp (fw L a t η k) o).run P w) (λw=> .ok (.value v) w)]
 | .t d=>sB (nK L a t k o)::d.d o (fw L a t η k)
 | .u d j E b _=>sB (nK L a t k o)::sB ((t.cds k).contains (j,b))::sE (t.vs η j) (.bool E)::d o (fw L a t η k)
 | .k v=>match o.op with
  | .pick c x y=>[sB (lF L a t k (t.cds k) c),sE (Aq L a t η k c x y) (some v)]
  | _=>[sB false]
 | .d _=>match (t.cds k).getLast? with
  | some (j,b)=>[sE (t.vs η j) (.bool (!b))]
  | none=>[sB false]
 | .m d=>sB (nK L a t k o)::(d.d o (fw L a t η k) (λp=>t.at η p k)).eqs
 | @b4.c _ f e l _ q _ h g _=>match o.op with
  | .call ⟨.value (.func r),xs,_⟩=>[sE r f,sB (xs.toList.all (lF L a t k (t.cds k))),sE (xs.toList.map (fw L a t η k)) e.toList,sE h.length l.length,sE (λE=>(q E).length) (λ_=>g.length),sB (dc g)]
  | .call ⟨.value (.tmp i),xs,_⟩=>[sB (lF L a t k (t.cds k) (.tmp i)),sB (xs.toList.all (lF L a t k (t.cds k))),sE (wI (fw L a t η k (.tmp i)) (xs.toList.map (fw L a t η k))) (some (f,e.toList)),sE h.length l.length,sE (λE=>(q E).length) (λ_=>g.length),sB (dc g)]
  | _=>[sB false]
def qE:Bool→Value→Bool
 | b,.bool E=>E==b
 | _,_=>false
def pr(o:Oper):List a9:=
 [sE (t.cds k) (match o.guard with | none=>[] | some (j,b)=>t.cds j++[(j,b)]),
  sB (match o.guard with
   | none=>true
   | some (j,_)=>(t.D k).contains j&&Hp (t.vs η j)&&(match (L.toArray[j]?).bind (·.dst) with | some d=>(fD d L 0==some j)&&X0 d a.sz | none=>false)),
  sB ((t.cds k).all λc=>(t.D k).contains c.1),
  sB ((t.cds k).isEmpty||(t.wr η k).isEmpty||(t.cds k).all λc=>qE c.2 (t.vs η c.1)),
  sB (((t.rd η k).map (·.1)++(t.wr η k).map (·.1)).all λp=>X0 p t.m&&(Xk L.length).all λj=>j==k||(cv (t.wr η j) p).isNone||(X0 j k&&(t.D k).contains j)||(X0 k j&&(t.D j).contains k)),
  sB (dc ((t.rd η k).map (·.1))),
  sE ((t.rd η k).map λx=>t.at η x.1 k) ((t.rd η k).map λx=>some x.2),
  sB ((t.ob k).all λp=>(cv (t.wr η k) p).isSome),
  sE (t.val (mX (t.D k) η) k) (t.val η k),
  sE (t.wt (mX (t.D k) η) k) (t.wt η k)]
def qF{P:Program}(o:Oper)(h:b4 P):List a9:=
 [sE (t.val η k) h.val,sE (t.rd η k) (h.rd o (fw L a t η k) (λp=>t.at η p k)),sE (t.wt η k) (h.wt o (fw L a t η k) (λp=>t.at η p k)),sE (t.ob k) h.ob]
end
def fh{P:Program}(L:List Oper)(a:Sl)(t:dS)(η:bD)(k:Nat):List Oper→List (b4 P)→List a9
 | [],[]=>[]
 | o::os,h::hs=>pr L a t η k o++(qF L a t η k o h++lG L a t η k o h)++fh L a t η (k+1) os hs
 | _,_=>[sB false]
theorem Ar{P:Program}{L:List Oper}{a:Sl}{t:dS}{η:bD}: ∀{k:Nat} {os:List Oper} {hs:List (b4 P)},(∀e∈fh L a t η k os hs,e.2.1=e.2.2)→∀i o,os[i]? =some o→∃h,hs[i]? =some h∧∀e∈pr L a t η (k+i) o++(qF L a t η (k+i) o h++lG L a t η (k+i) o h),e.2.1=e.2.2
 | _,[],_,_,i,o,c=>by simp at c
 | k,p::os,[],h,i,o,c=>by
  have:=h (sB false) (by simp [fh]);cases this
 | k,p::os,g::hs,h,0,o,c=>by
  simp only[XK,Option.some.injEq] at c;subst c;exact⟨g,rfl,λe d=>h e (by unfold fh;exact WR _ d)⟩
 | k,p::os,g::hs,h,i+1,o,c=>by
  rw[XL] at c;have:=Ar (k:=k+1) (os:=os) (hs:=hs) (λe d=>h e (by unfold fh;exact WS _ d)) i o c;rwa [show k+1+i=k+(i+1) by omega] at this
end
section
open Go Go.RowKit Go.Shelf
theorem tm: ∀{t:Nat} {l:List Oper} {k i:Nat},fD t l k=some i→k≤i∧(l[i-k]?).bind (·.dst)=some t
 | _,[],_,_,h=>by cases h
 | t,o::os,k,i,h=>by
  unfold fD at h;cases f:fD t os (k+1) with
  | some j=>
   rw[f] at h;cases h;obtain⟨m,g⟩:=tm f;refine⟨by omega,?_⟩;rw[show i-k=(i-(k+1))+1 by omega,XL];exact g
  | none=>
   rw[f] at h;simp only at h;cases c:o.dst with
   | none=>rw[c] at h;cases h
   | some d=>
    rw[c] at h;simp only at h;by_cases e:d=t
    ·subst e;simp only[BEq.rfl,if_true,Option.some.injEq] at h;subst h;exact⟨WU _,by simp [c]⟩
    ·rw[ALifn (by simpa using e)] at h;cases h
theorem At{t:Nat}{l:List Oper}{i:Nat}(h:fD t l 0=some i):i<l.length:=by
 obtain⟨_,c⟩:=tm h;rw[YL] at c;rcases XB i l.length with d | d
 ·exact d
 ·rw[W4 d] at c;cases c
theorem nO: ∀{l:List Nat},dc l=true→l.Nodup
 | [],_=>List.nodup_nil
 | x::r,h=>by
  simp only[dc,WT,Bool.not_eq_true'] at h;exact List.nodup_cons.2 ⟨by simpa using h.1,nO h.2⟩
section
variable {F:Fence} {n:Nat} {P:Program} {L:List Oper} {Q:Exit→Act→World→Prop} {a:Sl} {b:Act} {Ds:List Nat} {t:dS} {η:bD} {k:Nat} {o:Oper} {xs:Nat→Value} {C:List (Nat×Bool)}
theorem Au(f:Fr a Ds b)(u: ∀i∈t.D k,t.Is η i (xs i))(hf: ∀i,i<L.length→(i=k∨k∈t.D i)→xs i=jT L b i)(hC: ∀c∈C,t.vs η c.1= .bool c.2){x:Operand}(d:lF L a t k C x=true):(br xs L 0 b).eval x=fw L a t η k x:=by
 cases x with
 | tmp i=>
  rw[ta];simp only[lF] at d;simp only[fw];cases e:fD i L 0 with
  | none=>
   rw[e] at d;exact f.ev (x:= .tmp i) λq l=>by cases l;exact d
  | some j=>
   rw[e] at d;simp only[WT] at d;simp only;rw[ALifp (by rw[f.size];exact XY▸d.1)];by_cases g:(t.D k).contains j=true
   ·rw[ALifp g] at d⊢;have s:j∈t.D k:=by simpa using g
    have r:t.Hold η j:=λc p=>hC c (by have:=List.all_eq_true.1 d.2 c p;simpa using this);rcases u j s with⟨_,h⟩ | ⟨h,_⟩
    ·exact h
    ·exact absurd r h
   ·rw[ALifn g] at d⊢;rw[WT] at d;have m:j=k∨k∈t.D j:=by simpa using d.2.1
    rw[hf j (At e) m];unfold jT;have:=(tm e).2;rw[YL] at this;rw[this];exact f.ev (x:= .tmp i) λq l=>by cases l;exact d.2.2
 | _=>rfl
theorem pv(g:Fence.free F){b:Act}{w w':World}{v:Value}{K:Value→World→Prop}(d:mc o=true)(i:(execOp b.eval o).run P w= .ok (.value v) w')(h:K v w'):o.wpIn F n P b w (λc e=>∃v,c=b.put o.dst v∧K v e) Q:=by
 unfold Oper.wpIn;refine⟨λf _=>g.2 f,?_⟩;rw[Oper.semAt_plain F _ o (z0 d),i];exact⟨v,rfl,h⟩
theorem Hr(g:Fence.free F){b:Act}{w w':World}{K:Value→World→Prop}(d:mc o=true)(i:(execOp b.eval o).run P w= .ok .skip w')(h:K undef w'):o.wpIn F n P b w (λc e=>∃v,c=b.put o.dst v∧K v e) Q:=by
 unfold Oper.wpIn;refine⟨λf _=>g.2 f,?_⟩;rw[Oper.semAt_plain F _ o (z0 d),i];exact⟨undef,rfl,h⟩
theorem Hs(l:Fence.free F){b:Act}{w:World}{K:Value→World→Prop}{f:FuncId}{g:Array Operand}{j:Array TypeId}{vs:Array Value}(q:o.op= .call {callee:= .value (.func f),args:=g,argTypes:=j})(r:Enters P f)(hv:g.map b.eval=vs)
  (h:CallsIn F (n-1) P f vs w λe d=>∃v,e= .returned v∧K v d):o.wpIn F n P b w (λi d=>∃v,i=b.put o.dst v∧K v d) Q:=by
 subst hv;unfold Oper.wpIn;refine⟨λf _=>l.2 f,?_⟩;have u:(execOp b.eval o).run P w= .ok (.enter f (g.map b.eval)) w:=by
  unfold execOp;simp only[q,resolve,show b.eval (.func f)= .func (.func f) #[] #[] from rfl,Deferred.ofValue,WK,WQ,WJ,invoke];rw[r];simp
 rw[Oper.semAt_plain F _ o (λc m=>by rw[q] at m;cases m),u];refine⟨λp=>(by rw[l.1] at p;cases p),h.mono ?_⟩;rintro e d ⟨v,rfl,s⟩;exact⟨v,rfl,s⟩
theorem Ht(l:Fence.free F){b:Act}{w:World}{K:Value→World→Prop}{f:FuncId}{x:Operand}{g:Array Operand}{j:Array TypeId}{first cap vs:Array Value}(q:o.op= .call {callee:= .value x,args:=g,argTypes:=j})(r:Enters P f)(y:b.eval x= .func (.func f) first cap)(hv:first++g.map b.eval++cap=vs)
  (h:CallsIn F (n-1) P f vs w λe d=>∃v,e= .returned v∧K v d):o.wpIn F n P b w (λi d=>∃v,i=b.put o.dst v∧K v d) Q:=by
 subst hv;unfold Oper.wpIn;refine⟨λf _=>l.2 f,?_⟩;have u:(execOp b.eval o).run P w= .ok (.enter f (first++g.map b.eval++cap)) w:=by
  unfold execOp;simp only[q,resolve,y,Deferred.ofValue,WK,WQ,WJ,invoke];rw[r]
 rw[Oper.semAt_plain F _ o (λc m=>by rw[q] at m;cases m),u];refine⟨λp=>(by rw[l.1] at p;cases p),h.mono ?_⟩;rintro e d ⟨v,rfl,s⟩;exact⟨v,rfl,s⟩
theorem a8.grow{O c:List Nat}{N:ay}{W d:World}(h:a8 O N W d)(hs: ∀b∈O,b∈c):a8 c N W d:=
 ⟨h.os,h.tape,h.output,h.size,h.obj,λx i=>(h.new x i).imp (hs _) id,h.nd,λb e g=>h.far b e λf=>g (hs b f)⟩
theorem a8.refl(W:World):a8 [] [] W W:=⟨rfl,rfl,rfl,WU _,λ_ h=>by simp at h,λ_ h=>by simp at h,List.Pairwise.nil,λ_ _ _=>rfl⟩
theorem a8.alloc(W:World)(o:Obj):a8 [] [(W.heap.size,o)] W (W.alloc o):=
 have h:=(Below.refl W.heap.size W).alloc (WU _) o
 ⟨h.os,h.tape,h.output,h.size,λx c=>by obtain rfl:=List.mem_singleton.1 c;exact XW W o,λx c=>by obtain rfl:=List.mem_singleton.1 c;exact .inr (WU _),Xu _ _,λb d _=>h.block b d⟩
theorem a8.put{W c:World}{g:Nat}{l:Obj}(f:c.os=W.os)(i:c.tape=W.tape)(d:c.output=W.output)(h:c.heap.size=W.heap.size)
  (p:c.heap[g]? =some l) (hf: ∀b,b≠g→c.heap[b]? =W.heap[b]?):a8 [g] [(g,l)] W c:=
 ⟨f,i,d,Nat.le_of_eq h.symm,λx j=>by obtain rfl:=List.mem_singleton.1 j;exact p,λx j=>by obtain rfl:=List.mem_singleton.1 j;exact .inl (List.mem_singleton.2 rfl),Xu _ _,λb _ m=>hf b λe=>m (List.mem_singleton.2 e)⟩
theorem a8.setc{W:World}{g i:Nat}{t:TypeId}{cs:Array Value}(v:Value)(c:W.heap[g]? =some (.cells cs t (0,0))):a8 [g] [(g,.cells (cs.setIfInBounds i v) t (0,0))] W (W.setCell ⟨g,i,none⟩ v):=
 a8.put rfl rfl rfl (by simp [World.setCell]) (heap_setCell_same W g i cs t v c) (λb c=>heap_setCell_other W ⟨g,i,none⟩ b v c)
theorem a8.setRow{W:World}{g:Nat}{t:TypeId}{cs:Array Value}(c:Array Value)(d:W.heap[g]? =some (.cells cs t (0,0))):a8 [g] [(g,.cells c t (0,0))] W (W.setRow g c):=
 a8.put rfl rfl rfl (by simp) (setRow_heap W g cs c t (0,0) d) (λb d=>setRow_other W g b c d)
theorem tn{W:World}{g i:Nat}{T t:TypeId}{cs:Array Value}{v:Value}(l:W.heap[g]? =some (.cells cs t (0,0)))(p:i<cs.size)(h1:v.oneCell'=true)(e:(P.info? T).map (·.size)=some 1):(storeVar T ⟨g,i,none⟩ v).run P W= .ok () (W.setCell ⟨g,i,none⟩ v):=by
 have d:mb W g t cs:=l;cases f:P.info? T with
 | none=>simp [f] at e
 | some j=>
  have q:j.size=1:=by simpa [f] using e
  have m:v.cells=#[v]:=by cases v<;>first | rfl | simp [Value.oneCell'] at h1
  have h:(store ⟨g,i,none⟩ v).run P W= .ok () (W.setCell ⟨g,i,none⟩ v):=by
   rw[run_store P W ⟨g,i,none⟩ v .plain h1];have c:W.cell? ⟨g,i,none⟩=some cs[i]:=(d.cell i).trans (Array.getElem?_eq_getElem p);simp [c,d.frozen i]
  unfold storeVar;simp only[sizeOf,typeInfo,m,WK];simp [f,q,storeCells,Addr.add,WK,h]
theorem mY(S:Fr a Ds b)(N: ∀e∈pr L a t η k o,e.2.1=e.2.2):
  te L b t k o η∧(∀c∈t.cds k,c.1∈t.D k)∧(t.cds k≠[]→t.wr η k=[]∨t.Hold η k)∧(∀x∈t.rd η k,free L t η k x.1∧t.at η x.1 k=some x.2)∧((t.rd η k).map (·.1)).Nodup∧
  (∀x∈t.wr η k,free L t η k x.1)∧(∀p∈t.ob k,∃x,(p,x)∈t.wr η k)∧
  t.val (mX (t.D k) η) k=t.val η k∧t.wt (mX (t.D k) η) k=t.wt η k:=by
 simp only[pr,WN,WL,or_false,forall_eq_or_imp,forall_eq,sE,sB] at N;obtain⟨A,v,T,K,U,V,W,X,B,D⟩:=N;have r: ∀p∈(t.rd η k).map (·.1)++(t.wr η k).map (·.1),free L t η k p:=by
  intro p J;have s:=List.all_eq_true.1 U p J;simp only[WT] at s;refine⟨XY▸s.1,λj Z H O=>?_⟩;have q:=List.all_eq_true.1 s.2 j (List.mem_range.2 Z);simp only[Xy,WT,beq_iff_eq] at q;rcases q with((q | q) | ⟨q,m⟩) | ⟨q,m⟩
  ·exact absurd q H
  ·rw[Option.isNone_iff_eq_none] at q;rw[q] at O;cases O
  ·exact .inl ⟨XY▸q,by simpa using m⟩
  ·exact .inr ⟨XY▸q,by simpa using m⟩
 have y: ∀{α:Type} {l:Wr} {f g:Nat×aA→α},l.map f=l.map g→∀x∈l,f x=g x:=λ{α l f g} h x u=>by
  obtain⟨i,Y,rfl⟩:=W9 u;have:=ALca (λz=>z[i]?) h;simpa [Y] using this
 refine⟨?_,?_,?_,?_,nO V,?_,?_,B,D⟩
 ·unfold te;cases w:o.guard with
  | none=>rw[w] at A;exact A
  | some jb=>
   obtain⟨j,b⟩:=jb;rw[w] at A v;simp only[WT] at v;refine⟨A,by simpa using v.1.1,?_,?_⟩
   ·have m:=v.1.2;cases hv:t.vs η j with
    | bool E=>exact⟨E,rfl⟩
    | _=>rw[hv] at m;cases m
   ·have m:=v.2;cases M:(L.toArray[j]?).bind (·.dst) with
    | none=>rw[M] at m;cases m
    | some d=>
     rw[M] at m;simp only[WT,beq_iff_eq] at m;exact⟨d,rfl,m.1,by rw[S.size];exact m.2⟩
 ·intro c G;have:=List.all_eq_true.1 T c G;simpa using this
 ·intro I;simp only[Xy,List.isEmpty_iff] at K;refine(K.elim (λh=>h.elim (λh=>absurd h I) .inl) λh=> .inr λc G=>?_);have s:=List.all_eq_true.1 h c G;unfold qE at s
  split at s
  ·rename_i b E q m;rw[m,eq_of_beq s]
  ·cases s
 ·intro x u;exact⟨r _ (WR _ (List.mem_map.2 ⟨x,u,rfl⟩)),y W x u⟩
 ·intro x u;exact r _ (WS _ (List.mem_map.2 ⟨x,u,rfl⟩))
 ·intro p J;have s:=List.all_eq_true.1 X p J;obtain⟨x,u⟩:=Option.isSome_iff_exists.1 s;exact⟨x,qz u⟩
end
theorem Hu{b E:Bool}{x v:Value}(h:wG b E x=some v):b=true∧∃X,x= .bool X∧v= .bool (E&&X):=by
 unfold wG at h
 split at h
 ·cases h;exact⟨rfl,_,rfl,rfl⟩
 ·cases h
theorem Hv{b E:Bool}{x v:Value}(h:wH b E x=some v):b=true∧∃X,x= .bool X∧v= .bool (E||X):=by
 unfold wH at h
 split at h
 ·cases h;exact⟨rfl,_,rfl,rfl⟩
 ·cases h
theorem iW: ∀{rd:aj} {cs:List ay},bt rd cs→rd.length=cs.length
 | [],[],_=>rfl
 | _::_,_::_,h=>by rw[Xh,Xh,iW h.2]
 | [],_::_,h=>h.elim
 | _::_,[],h=>h.elim
theorem wJ{c:gw}: ∀{d:List Nat} {rd:aj},d.length=rd.length→(∀x∈d.zip rd,x.2.sat (c x.1))→bt rd (d.map c)
 | [],[],_,_=>trivial
 | p::d,x::rd,h,e=>⟨e (p,x) (by simp),wJ (by simpa using h) λy f=>e y (by rw[Ye];exact Xf _ f)⟩
 | [],_::_,h,_=>by simp at h
 | _::_,[],h,_=>by simp at h
theorem px{c:gw}: ∀{d:List Nat} {rd:aj},d.length=rd.length→(d.zip rd).flatMap (λx=>c x.1)=(d.map c).flatten
 | [],[],_=>rfl
 | p::d,x::rd,h=>by rw[Ye,WV,XN,XS,px (by simpa using h)]
 | [],_::_,h=>by simp at h
 | _::_,[],h=>by simp at h
def lH:List Nat→List ay→gw
 | q::qs,d::ds=>λp=>if p=q then d else lH qs ds p
 | _,_=>λ_=>[]
theorem tp: ∀{qs:List Nat} {ds:List ay},qs.length=ds.length→qs.Nodup→qs.map (lH qs ds)=ds
 | [],[],_,_=>rfl
 | q::qs,d::ds,h,c=>by
  rw[List.nodup_cons] at c;have e: ∀p∈qs,lH (q::qs) (d::ds) p=lH qs ds p:=λp f=>ALifn λ(e:p=q)=>c.1 (e▸f);rw[XN,YA e,tp (by simpa using h) c.2];exact ALca (· ::ds) (ALifp rfl)
 | [],_::_,h,_=>by simp at h
 | _::_,[],h,_=>by simp at h
theorem tq{c:gw}: ∀{qs:List Nat} {rd:aj} {ds:List ay},qs.map c=ds→bt rd ds→∀x∈qs.zip rd,x.2.sat (c x.1)
 | [],_,_,_,_,x,d=>by simp at d
 | q::qs,[],_,_,_,x,d=>by simp at d
 | q::qs,y::rd,ds,e,f,x,d=>by
  subst e;rw[Ye] at d;rcases List.mem_cons.1 d with rfl | d
  ·exact f.1
  ·exact tq rfl f.2 x d
section
variable {F:Fence} {n:Nat} {P:Program} {L:List Oper} {Q:Exit→Act→World→Prop} {a:Sl} {b:Act} {Ds:List Nat} {t:dS} {η:bD} {k:Nat} {o:Oper}
theorem Hw[hL:km F](HB:Fr a Ds b)(h:b4 P)(hq: ∀e∈qF L a t η k o h,e.2.1=e.2.2)
  (he: ∀e∈lG L a t η k o h,e.2.1=e.2.2):Af F n P L Q b t η k o:=by
 have hF:=hL.free
 simp only[qF,WN,WL,or_false,forall_eq_or_imp,forall_eq,sE] at hq
 obtain⟨hv,hrd,hwt,hob⟩:=hq
 refine⟨λxs w' c hx hf hH hC K hK=>?_⟩
 rw[hrd] at hH
 rw[hv,hwt,hob] at hK
 have ev: ∀{x},lF L a t k (t.cds k) x=true→(br xs L 0 b).eval x=fw L a t η k x:=λho=>Au HB hx hf hC ho
 have nd:nK L a t k o=true→mc o=true:=λh=>by unfold nK at h;simp only[WT] at h;exact h.1
 have cg:nK L a t k o=true→execOp (br xs L 0 b).eval o=execOp (fw L a t η k) o:=λh=>by
  unfold nK at h
  simp only[WT] at h
  cases hl:qA o.op with
  | none=>rw[hl] at h;cases h.2
  | some l=>
   rw[hl] at h
   exact Aj hl λx hxl=>ev (List.all_eq_true.1 h.2 x hxl)
 cases h with
 | v v=>
  simp only[lG,WN,WL,or_false,forall_eq_or_imp,forall_eq,sE,sB] at he
  exact pv hF (nd he.1) (by rw[cg he.1];exact congrFun he.2 w') (hK ab.zero (λ_=>[]) w' (λx h=>by simp [b4.wt] at h) (by simpa [b4.wt,b4.ob] using a8.refl w'))
 | t d=>
  simp only[lG,WN,forall_eq_or_imp,sB] at he
  exact pv hF (nd he.1) (by rw[cg he.1];exact d.h o _ he.2 w') (hK ab.zero (λ_=>[]) w' (λx h=>by simp [b4.wt] at h) (by simpa [b4.wt,b4.ob] using a8.refl w'))
 | u d j E b h=>
  simp only[lG,WN,forall_eq_or_imp,sE,sB] at he
  obtain⟨h1,h2,h3,h4⟩:=he
  have hE:E=b:=by
   have:=hC (j,b) (by simpa using h2)
   rw[h3] at this
   exact Value.bool.inj this
  exact pv hF (nd h1) (by rw[cg h1];exact h hE o _ h4 w') (hK ab.zero (λ_=>[]) w' (λx h=>by simp [b4.wt] at h) (by simpa [b4.wt,b4.ob] using a8.refl w'))
 | k v=>
  simp only[lG] at he
  have hz:K v w':=hK ab.zero (λ_=>[]) w' (λx h=>by simp [b4.wt] at h) (by simpa [b4.wt,b4.ob] using a8.refl w')
  split at he
  ·rename_i c x y hop
   simp only[WN,WL,or_false,forall_eq_or_imp,forall_eq,sE,sB] at he
   obtain⟨h1,h2⟩:=he
   have hnd:mc o=true:=by unfold mc;rw[hop]
   refine pv hF hnd ?_ (hz)
   have hc:=ev h1
   have evC: ∀{z:Operand} {E bb:Bool},fw L a t η k c= .bool E→E=bb→
     lF L a t k (match (match c with | .tmp i=>(match fD i L 0 with | some j=>if(t.D k).contains j then some j else none | none=>none) | _=>none) with | some j=>t.cds k++[(j,bb)] | none=>t.cds k) z=true→(br xs L 0 b).eval z=fw L a t η k z:=by
    intro z E bb hcE hEb hz
    refine Au HB hx hf ?_ hz
    intro q hq
    cases c with
    | tmp i=>
     simp only at hq hcE
     simp only[fw] at hcE
     cases hw:fD i L 0 with
     | none=>rw[hw] at hq;exact hC q hq
     | some j=>
      rw[hw] at hq hcE
      simp only at hq hcE
      by_cases hd:(t.D k).contains j=true
      ·rw[ALifp hd] at hq hcE
       simp only at hq
       rcases List.mem_append.1 hq with h3 | h3
       ·exact hC q h3
       ·obtain rfl:=List.mem_singleton.1 h3
        rw[←hEb]
        exact hcE
      ·rw[ALifn hd] at hq
       exact hC q hq
    | _=>exact hC q hq
   unfold Aq at h2
   simp only at h2
   split at h2
   ·rename_i E hcE
    have hcv:=hc.trans hcE
    split at h2
    ·obtain⟨hok,X,hX,rfl⟩:=Hu h2
     cases E with
     | false=>exact pq hop hcv rfl
     | true=>exact pq hop hcv ((evC hcE rfl hok).trans hX)
    ·split at h2
     ·obtain⟨hok,Y,hY,rfl⟩:=Hv h2
      cases E with
      | false=>exact pq hop hcv ((evC hcE rfl hok).trans hY)
      | true=>exact pq hop hcv rfl
     ·cases h2
   ·cases h2
  ·exact(bE he).elim
 | d v=>
  simp only[lG] at he
  split at he
  ·rename_i j b hl
   simp only[WN,WL,or_false,forall_eq,sE] at he
   have hm:=List.mem_of_getLast? hl
   have:=hC (j,b) hm
   rw[he] at this
   cases b<;>cases this
  ·exact(bE he).elim
 | m d=>
  simp only[lG,WN,forall_eq_or_imp,sB] at he
  obtain⟨E,z,w'',hr,hs,hst⟩:=d.h o (fw L a t η k) (λp=>t.at η p k) he.2 w' c hH
  rcases hr with hr | ⟨hr,hu⟩
  ·exact pv hF (nd he.1) (by rw[cg he.1];exact hr) (hK E z w'' hs hst)
  ·refine Hr hF (nd he.1) (by rw[cg he.1];exact hr) ?_
   have:=hK E z w'' hs hst
   rw[show(b4.m d).val E=undef from hu] at this
   exact this
 | @c f args rd O wt v ps qs h=>
  simp only[lG] at he
  split at he
  ·rename_i f' xs' ats hop
   simp only[WN,WL,or_false,forall_eq_or_imp,forall_eq,sE,sB] at he
   obtain⟨h1,h2,h3,h4,h5,h6⟩:=he
   subst h1
   have hm:xs'.map (br xs L 0 b).eval=args:=by
    rw[qB (ρ':=fw L a t η k) λx hx=>ev (List.all_eq_true.1 h2 x hx)]
    apply Array.toList_inj.1
    rw[Array.toList_map]
    exact h3
   have hs:=wJ (c:=c) h4 hH.sat
   have hh:=hH.has
   rw[show b4.rd (b4.c ps qs h) o (fw L a t η k) (λp=>t.at η p k)=ps.zip rd from rfl,px h4] at hh
   refine Hs hF hop h.ent hm ((hL.lift (h.out w' _ hs hh)).mono ?_)
   rintro e w'' ⟨E,ds,rfl,hd,hst⟩
   have hl:qs.length=ds.length:=by rw[←iW hd];exact(congrFun h5 E).symm
   have hpl:=tp hl (nO h6)
   refine⟨_,rfl,hK E (lH qs ds) w'' (tq hpl hd) ?_⟩
   show a8 ((O.map λi=>ps.getD i 0).flatMap λp=>bN (c p)) ((qs.zip (wt E)).flatMap λx=>lH qs ds x.1) w' w''
   rw[px (by rw[hl,iW hd]),hpl]
   refine hst.grow ?_
   intro b hb
   obtain⟨i,hi,hb⟩:=List.mem_flatMap.1 hb
   refine List.mem_flatMap.2 ⟨ps.getD i 0,List.mem_map.2 ⟨i,hi,rfl⟩,?_⟩
   by_cases hlt:i<ps.length
   ·rw[WO,W8,WM hlt] at hb
    rw[WO,WM hlt]
    exact hb
   ·rw[WO,W4 (by rw[X7];omega)] at hb
    simp at hb
  ·rename_i ti xs' ats hop
   simp only[WN,WL,or_false,forall_eq_or_imp,forall_eq,sE,sB] at he
   obtain⟨h1,h2,h3,h4,h5,h6⟩:=he
   obtain⟨first,cap,hfv,hargs⟩:=Hq h3
   have hxv:=(ev h1).trans hfv
   have hm:first++xs'.map (br xs L 0 b).eval++cap=args:=by
    rw[qB (ρ':=fw L a t η k) λx hx=>ev (List.all_eq_true.1 h2 x hx)]
    apply Array.toList_inj.1
    rw[Array.toList_append,Array.toList_append,Array.toList_map]
    exact hargs.symm
   have hs:=wJ (c:=c) h4 hH.sat
   have hh:=hH.has
   rw[show b4.rd (b4.c ps qs h) o (fw L a t η k) (λp=>t.at η p k)=ps.zip rd from rfl,px h4] at hh
   refine Ht hF hop h.ent hxv hm ((hL.lift (h.out w' _ hs hh)).mono ?_)
   rintro e w'' ⟨E,ds,rfl,hd,hst⟩
   have hl:qs.length=ds.length:=by rw[←iW hd];exact(congrFun h5 E).symm
   have hpl:=tp hl (nO h6)
   refine⟨_,rfl,hK E (lH qs ds) w'' (tq hpl hd) ?_⟩
   show a8 ((O.map λi=>ps.getD i 0).flatMap λp=>bN (c p)) ((qs.zip (wt E)).flatMap λx=>lH qs ds x.1) w' w''
   rw[px (by rw[hl,iW hd]),hpl]
   refine hst.grow ?_
   intro b hb
   obtain⟨i,hi,hb⟩:=List.mem_flatMap.1 hb
   refine List.mem_flatMap.2 ⟨ps.getD i 0,List.mem_map.2 ⟨i,hi,rfl⟩,?_⟩
   by_cases hlt:i<ps.length
   ·rw[WO,W8,WM hlt] at hb
    rw[WO,WM hlt]
    exact hb
   ·rw[WO,W4 (by rw[X7];omega)] at hb
    simp at hb
  ·exact(bE he).elim
end
def jz(c:Bool)(L:List Oper):List (List Nat):=if c then Al L.length L [] else(Xk L.length).map Xk
section
variable {F:Fence} {n:Nat} {P:Program} {L:List Oper} {Q:Exit→Act→World→Prop} {a:Sl} {R:List Nat} {base:World}
theorem Av[hL:km F]{b:Act}{Ds:List Nat}(g:Fr a Ds b){t:dS}{hs:bD→List (b4 P)}
  (r: ∀η,(fh L a t η 0 L (hs η)).map a9.lhs=(fh L a t η 0 L (hs η)).map a9.rhs):jy F n P L Q b t:=by
 have i: ∀η k o,L[k]? =some o→∃h,(hs η)[k]? =some h∧(∀e∈pr L a t η k o,e.2.1=e.2.2)∧(∀e∈qF L a t η k o h,e.2.1=e.2.2)∧∀e∈lG L a t η k o h,e.2.1=e.2.2:=by
  intro η k o l;obtain⟨h,m,d⟩:=Ar (a9.all (r η)) k o l;rw[WX] at d;exact⟨h,m,λe j=>d e (WR _ j),λe j=>d e (WS _ (WR _ j)),λe j=>d e (WS _ (WS _ j))⟩
 have c: ∀η k,k<L.length→∃o,L[k]? =some o∧∀e∈pr L a t η k o,e.2.1=e.2.2:=by
  intro η k f;obtain⟨h,m,d,_⟩:=i η k L[k] (WM f);exact⟨_,WM f,d⟩
 refine⟨?_,?_,?_,?_,?_,?_,?_,?_,?_,?_⟩
 ·intro η k o l;obtain⟨h,_,_,p,q⟩:=i η k o l;exact Hw g h p q
 ·intro η k o l;obtain⟨h,_,d,_⟩:=i η k o l;exact(mY g d).1
 ·intro k f;obtain⟨o,_,d⟩:=c (λ_=>ab.zero) k f;exact(mY g d).2.1
 ·intro η k f;obtain⟨o,_,d⟩:=c η k f;exact(mY g d).2.2.1
 ·intro η k f;obtain⟨o,_,d⟩:=c η k f;exact(mY g d).2.2.2.1
 ·intro η k f;obtain⟨o,_,d⟩:=c η k f;exact(mY g d).2.2.2.2.1
 ·intro η k f;obtain⟨o,_,d⟩:=c η k f;exact(mY g d).2.2.2.2.2.1
 ·intro η k f;obtain⟨o,_,d⟩:=c η k f;exact(mY g d).2.2.2.2.2.2.1
 ·intro η k f;obtain⟨o,_,d⟩:=c η k f;exact(mY g d).2.2.2.2.2.2.2.1
 ·intro η k f;obtain⟨o,_,d⟩:=c η k f;exact(mY g d).2.2.2.2.2.2.2.2
end
end
section
open Go Go.RowKit Go.Shelf
section
variable {P:Program}
theorem ts{w:World}{g off:Nat}{c T:TypeId}{cs:Array Value}{l:List Value}(d:w.heap[g]? =some (.cells cs c (0,0)))(i:(cs.toList.drop off).take l.length=l)(h:dO P T=true)(f:(P.info? T).map (·.size)=some l.length):(loadVar T ⟨g,off,none⟩).run P w= .ok (.agg l.toArray) w:=by
 unfold dO at h
 split at h
 ·rename_i e;exact z9 w g off c T cs l d i e rfl f
 ·rename_i e;exact z9 w g off c T cs l d i e rfl f
 ·cases h
theorem mh.one{p g:Nat}{x:Obj}{c:gw}{w:World}(h:mh [(p,.c [(g,x)])] c w):c p=[(g,x)]∧w.heap[g]? =some x:=by
 have d:c p=[(g,x)]:=h.sat _ (List.mem_singleton.2 rfl);exact⟨d,h.has.obj (g,x) (by simp [d])⟩
def ab.of(b:Nat):ab:=⟨λ_=>b,λ_=>0,λ_=>undef⟩
theorem lI{s:Sem Value}{v:Value}{w w':World}(h:s.run P w= .ok v w'):(vS s).run P w= .ok (.value v) w':=by
 unfold vS;simp only[WK,h,WJ,WQ]
def tv{v:Value}(s:Sem Value)(h: ∀w,s.run P w= .ok v w):TH P v:=⟨λo ρ=>[sE (λw=>(execOp ρ o).run P w) (λw=>(vS s).run P w)],λo ρ c w=>by
 simp only[Xx,forall_eq,sE] at c;exact(congrFun c w).trans (lI (h w))⟩
def qG(P:Program)(T:TypeId):Array Value:=match (P.info? T).bind (·.zero) with | some v=>v.cells | none=>#[]
def kK:Value→Option (Nat×Nat)
 | .pointer (some ⟨g,c,none⟩)=>some (g,c)
 | _=>none
theorem mZ{v:Value}{g off:Nat}(h:kK v=some (g,off)):v= .pointer (some ⟨g,off,none⟩):=by
 unfold kK at h
 split at h
 ·cases h;rfl
 ·cases h
def wK(P:Program)(p:Nat)(v:Value)(o:Oper)(ρ:Operand→Value)(C:cp):MD:=match o.op,C p with
 | .load T x,some (.c [(g,.cells e h (0,0))])=>match kK (ρ x) with
  | some (f,d)=>⟨[(p,ob g e h)],λ_=>[],[sE f g,sE e[d]? (some v),sE (λw=>(isAgg T).run P w) (λw=> .ok false w)]⟩
  | none=>MD.bad
 | _,_=>MD.bad
theorem Hx(p:Nat)(v:Value):MD.ok P (λ_=>v) (wK P p v) []:=by
 intro o ρ C d w c f;unfold wK at d f⊢
 split at d
 ·rename_i T x g l y e s;simp only[e,s] at f⊢
  split at d
  ·rename_i m i j;simp only[j] at f⊢;simp only[WN,WL,or_false,forall_eq_or_imp,forall_eq,sE] at d;obtain⟨rfl,q,r⟩:=d;have u:mb w m y l:=f.one.2;refine⟨ab.zero,λ_=>[],w,.inl ?_,λx h=>by simp at h,by simpa using a8.refl w⟩;unfold execOp;simp only[e,mZ j,Instr.loadAt,Instr.sureAddr,WK,WQ,WJ,qw (congrFun r w) ((u.cell i).trans q)]
  ·exact(bE d).elim
 ·exact(bE d).elim
def ld(p:Nat)(v:Value):MH P (λ_=>v):=⟨[],wK P p v,Hx p v⟩
def wL(P:Program)(p g off:Nat)(cs:Array Value)(t:TypeId)(o:Oper)(ρ:Operand→Value)(_:cp):MD:=match o.op with
 | .load T x=>⟨[(p,ob g cs t)],λ_=>[],[sE (kK (ρ x)) (some (g,off)),sE (λw=>(isAgg T).run P w) (λw=> .ok false w)]⟩
 | _=>MD.bad
theorem Hy(p g off:Nat)(cs:Array Value)(t:TypeId)(v:Value)(h:cs[off]? =some v):MD.ok P (λ_=>v) (wL P p g off cs t) []:=by
 intro o ρ C d w c f;unfold wL at d f⊢
 split at d
 ·rename_i T x e;simp only[e] at f⊢;simp only[WN,WL,or_false,forall_eq_or_imp,forall_eq,sE] at d;obtain⟨j,i⟩:=d;have l:mb w g t cs:=f.one.2;refine⟨ab.zero,λ_=>[],w,.inl ?_,λx h=>by simp at h,by simpa using a8.refl w⟩;unfold execOp;simp only[e,mZ j,Instr.loadAt,Instr.sureAddr,WK,WQ,WJ,qw (congrFun i w) ((l.cell off).trans h)]
 ·exact(bE d).elim
def lt{v:Value}(p g off:Nat)(cs:Array Value)(t:TypeId)(h:cs[off]? =some v):MH P (λ_=>v):=⟨[],wL P p g off cs t,Hy p g off cs t v h⟩
def wN(P:Program)(p:Nat)(l:List Value)(o:Oper)(ρ:Operand→Value)(C:cp):MD:=match o.op,C p with
 | .load T x,some (.c [(g,.cells e h (0,0))])=>match kK (ρ x) with
  | some (f,d)=>⟨[(p,ob g e h)],λ_=>[],[sE f g,sE ((e.toList.drop d).take l.length) l,sB (dO P T),sE ((P.info? T).map (·.size)) (some l.length)]⟩
  | none=>MD.bad
 | _,_=>MD.bad
theorem Hz(p:Nat)(l:List Value):MD.ok P (λ_=> .agg l.toArray) (wN P p l) []:=by
 intro o ρ C d w c f;unfold wN at d f⊢
 split at d
 ·rename_i T x g u y e r;simp only[e,r] at f⊢
  split at d
  ·rename_i v s i;simp only[i] at f⊢;simp only[WN,WL,or_false,forall_eq_or_imp,forall_eq,sE,sB] at d;obtain⟨rfl,j,m,q⟩:=d;refine⟨ab.zero,λ_=>[],w,.inl ?_,λx h=>by simp at h,by simpa using a8.refl w⟩;unfold execOp;simp only[e,mZ i,Instr.loadAt,Instr.sureAddr,WK,WQ,WJ,ts f.one.2 j m q]
  ·exact(bE d).elim
 ·exact(bE d).elim
def ls(p:Nat)(l:List Value):MH P (λ_=> .agg l.toArray):=⟨[],wN P p l,Hz p l⟩
def wO(P:Program)(p g off:Nat)(cs:Array Value)(t:TypeId)(l:List Value)(o:Oper)(ρ:Operand→Value)(_:cp):MD:=match o.op with
 | .load T x=>⟨[(p,ob g cs t)],λ_=>[],[sE (kK (ρ x)) (some (g,off)),sB (dO P T),sE ((P.info? T).map (·.size)) (some l.length)]⟩
 | _=>MD.bad
theorem HA(p g off:Nat)(cs:Array Value)(t:TypeId)(l:List Value)(h:(cs.toList.drop off).take l.length=l):MD.ok P (λ_=> .agg l.toArray) (wO P p g off cs t l) []:=by
 intro o ρ C d w c f;unfold wO at d f⊢
 split at d
 ·rename_i T x e;simp only[e] at f⊢;simp only[WN,WL,or_false,forall_eq_or_imp,forall_eq,sE,sB] at d;obtain⟨m,i,j⟩:=d;refine⟨ab.zero,λ_=>[],w,.inl ?_,λx h=>by simp at h,by simpa using a8.refl w⟩;unfold execOp;simp only[e,mZ m,Instr.loadAt,Instr.sureAddr,WK,WQ,WJ,ts f.one.2 h i j]
 ·exact(bE d).elim
def lg(p g off:Nat)(cs:Array Value)(t:TypeId)(l:List Value)(h:(cs.toList.drop off).take l.length=l):MH P (λ_=> .agg l.toArray):=⟨[],wO P p g off cs t l,HA p g off cs t l h⟩
def wP(P:Program)(p:Nat)(o:Oper)(_:Operand→Value)(_:cp):MD:=match o.op with
 | .alloc T=>⟨[],λE=>[(p,ob (E.y 0) (qG P T) T)],[sE (λw=>(Instr.alloc T true (.tuple #[])).run P w) (λw=> .ok (nN w.heap.size 0) (w.alloc (.cells (qG P T) T)))]⟩
 | _=>MD.bad
theorem HC(p:Nat):MD.ok P (λE=> .pointer (some ⟨E.y 0,0,none⟩)) (wP P p) []:=by
 intro o ρ C d w c f;unfold wP at d f⊢
 split at d
 ·rename_i T e;simp only[e] at f⊢;simp only[Xx,forall_eq,sE,nN] at d;refine⟨ab.of w.heap.size,λ_=>[(w.heap.size,.cells (qG P T) T (0,0))],_,.inl ?_,λx h=>?_,by simpa using a8.alloc w (.cells (qG P T) T)⟩
  ·unfold execOp;have:=congrFun d w;simp only[e,WK,this,WJ,WQ];rfl
  ·rw[List.mem_singleton.1 h];rfl
 ·exact(bE d).elim
def al(p:Nat):MH P (λE=> .pointer (some ⟨E.y 0,0,none⟩)):=⟨[],wP P p,HC p⟩
def wQ(p:Nat)(o:Oper)(ρ:Operand→Value)(_:cp):MD:=match o.op with
 | .box T x=>⟨[],λE=>[(p,ob (E.y 0) (ρ x).cells T)],[]⟩
 | _=>MD.bad
theorem HD(p:Nat):MD.ok P (λE=> .pointer (some ⟨E.y 0,0,none⟩)) (wQ p) []:=by
 intro o ρ C e w c f;unfold wQ at e f⊢
 split at e
 ·rename_i T x d;simp only[d] at f⊢;refine⟨ab.of w.heap.size,λ_=>[(w.heap.size,.cells (ρ x).cells T (0,0))],_,.inl ?_,λy h=>?_,by simpa using a8.alloc w (.cells (ρ x).cells T)⟩
  ·unfold execOp;simp only[d,WK,show(Instr.box T (ρ x)).run P w= .ok (.pointer (some ⟨w.heap.size,0,none⟩)) (w.alloc (.cells (ρ x).cells T)) from rfl,WJ,WQ];rfl
  ·rw[List.mem_singleton.1 h];rfl
 ·exact(bE e).elim
def bx(p:Nat):MH P (λE=> .pointer (some ⟨E.y 0,0,none⟩)):=⟨[],wQ p,HD p⟩
def wR(P:Program)(p:Nat)(o:Oper)(ρ:Operand→Value)(C:cp):MD:=match o.op,C p with
 | .store T x y,some (.c [(g,.cells e f (0,0))])=>match kK (ρ x) with
  | some (h,d)=>⟨[(p,ob g e f)],λ_=>[(p,ob g (e.setIfInBounds d (ρ y)) f)],[sE h g,sB (X0 d e.size),sB (ρ y).oneCell',sE ((P.info? T).map (·.size)) (some 1)]⟩
  | none=>MD.bad
 | _,_=>MD.bad
theorem HE(p:Nat):MD.ok P (λ_=>undef) (wR P p) [p]:=by
 intro o ρ C d w c f;unfold wR at d f⊢
 split at d
 ·rename_i T x y g m B e v;simp only[e,v] at f⊢
  split at d
  ·rename_i q i j;simp only[j] at f⊢;simp only[WN,WL,or_false,forall_eq_or_imp,forall_eq,sE,sB] at d;obtain⟨rfl,r,s,u⟩:=d;obtain⟨A,l⟩:=f.one;refine⟨ab.zero,λ_=>[(q,.cells (m.setIfInBounds i (ρ y)) B (0,0))],_,.inr ⟨?_,by simp⟩,λz h=>?_,by simpa [A,bN] using a8.setc (ρ y) l⟩
   ·unfold execOp;simp only[e,mZ j,Instr.storeAt,Instr.sureAddr,WK,WQ,WJ,tn l (XY▸r) s u]
   ·rw[List.mem_singleton.1 h];rfl
  ·exact(bE d).elim
 ·exact(bE d).elim
def st(p:Nat):MH P (λ_=>undef):=⟨[p],wR P p,HE p⟩
def wS(P:Program)(p g off:Nat)(t:TypeId)(v:Value)(cs cs':Array Value)(o:Oper)(ρ:Operand→Value)(_:cp):MD:=match o.op with
 | .store T x y=>⟨[(p,ob g cs t)],λ_=>[(p,ob g cs' t)],[sE (kK (ρ x)) (some (g,off)),sE (ρ y) v,sB v.oneCell',sE ((P.info? T).map (·.size)) (some 1)]⟩
 | _=>MD.bad
theorem HF(p g off:Nat)(t:TypeId)(v:Value)(cs cs':Array Value)(h:cs.setIfInBounds off v=cs')(r:off<cs.size):MD.ok P (λ_=>undef) (wS P p g off t v cs cs') [p]:=by
 intro o ρ C d w c f;unfold wS at d f⊢
 split at d
 ·rename_i T x y e;simp only[e] at f⊢;simp only[WN,WL,or_false,forall_eq_or_imp,forall_eq,sE,sB] at d;obtain⟨m,s,j,l⟩:=d;obtain⟨q,i⟩:=f.one;subst h;refine⟨ab.zero,λ_=>[(g,.cells (cs.setIfInBounds off v) t (0,0))],_,.inr ⟨?_,by simp⟩,λz h=>?_,by simpa [q,bN] using a8.setc v i⟩
  ·unfold execOp;simp only[e,mZ m,s,Instr.storeAt,Instr.sureAddr,WK,WQ,WJ,tn i r j l]
  ·rw[List.mem_singleton.1 h];rfl
 ·exact(bE d).elim
def sw(p g off:Nat)(t:TypeId)(v:Value)(cs cs':Array Value)(h:cs.setIfInBounds off v=cs')(c:off<cs.size):MH P (λ_=>undef):=⟨[p],wS P p g off t v cs cs',HF p g off t v cs cs' h c⟩
theorem tt{w:World}{g off:Nat}{i T:TypeId}{cs:Array Value}{l:List Value}(p:w.heap[g]? =some (.cells cs i (0,0)))(j:off+l.length≤cs.size)(m: ∀v∈l,v.oneCell'=true)(h:(P.info? T).map (·.size)=some l.length):(storeVar T ⟨g,off,none⟩ (.agg l.toArray)).run P w= .ok () (w.setRow g (cs.toList.take off++l++cs.toList.drop (off+l.length)).toArray):=by
 have d:=run_storeCells_at P g off i l 0 cs w p j m;cases c:P.info? T with
 | none=>simp [c] at h
 | some f=>
  have e:f.size=l.length:=by simpa [c] using h
  unfold storeVar;simp only[sizeOf,typeInfo,Value.cells,WK];simp [c,e,d]
def m0:Value→Option (List Value)
 | .agg c=>some c.toList
 | _=>none
theorem tu{v:Value}{l:List Value}(h:m0 v=some l):v= .agg l.toArray:=by
 unfold m0 at h
 split at h
 ·cases h;rfl
 ·cases h
def wT(P:Program)(p:Nat)(o:Oper)(ρ:Operand→Value)(C:cp):MD:=match o.op,C p with
 | .store T x y,some (.c [(g,.cells e f (0,0))])=>match kK (ρ x),m0 (ρ y) with
  | some (h,d),some l=>⟨[(p,ob g e f)],λ_=>[(p,ob g (e.toList.take d++l++e.toList.drop (d+l.length)).toArray f)],[sE h g,sB (Nat.ble (d+l.length) e.size),sB (l.all (·.oneCell')),sE ((P.info? T).map (·.size)) (some l.length)]⟩
  | _,_=>MD.bad
 | _,_=>MD.bad
theorem HG(p:Nat):MD.ok P (λ_=>undef) (wT P p) [p]:=by
 intro o ρ C e w c j;unfold wT at e j⊢
 split at e
 ·rename_i T x y g i G f B;simp only[f,B] at j⊢
  split at e
  ·rename_i s d l m r;simp only[m,r] at j⊢;simp only[WN,WL,or_false,forall_eq_or_imp,forall_eq,sE,sB] at e;obtain⟨rfl,u,v,A⟩:=e;obtain⟨D,q⟩:=j.one;refine⟨ab.zero,λ_=>[(s,.cells (i.toList.take d++l++i.toList.drop (d+l.length)).toArray G (0,0))],_,.inr ⟨?_,by simp⟩,λz h=>?_,by rw[show([p].flatMap λp=>bN (c p))=_ by simp only[WV,Xb,D,bN];rfl];exact a8.setRow (i.toList.take d++l++i.toList.drop (d+l.length)).toArray q⟩
   ·unfold execOp;simp only[f,mZ m,tu r,Instr.storeAt,Instr.sureAddr,WK,WQ,WJ,tt q (Yw u) (List.all_eq_true.1 v) A]
   ·rw[List.mem_singleton.1 h];rfl
  ·exact(bE e).elim
 ·exact(bE e).elim
def ss(p:Nat):MH P (λ_=>undef):=⟨[p],wT P p,HG p⟩
def wU(P:Program)(p g off:Nat)(t:TypeId)(l:List Value)(cs cs':Array Value)(o:Oper)(ρ:Operand→Value)(_:cp):MD:=match o.op with
 | .store T x y=>⟨[(p,ob g cs t)],λ_=>[(p,ob g cs' t)],[sE (kK (ρ x)) (some (g,off)),sE (m0 (ρ y)) (some l),sE ((P.info? T).map (·.size)) (some l.length)]⟩
 | _=>MD.bad
theorem HH(p g off:Nat)(t:TypeId)(l:List Value)(cs cs':Array Value)(h:cs.toList.take off++l++cs.toList.drop (off+l.length)=cs'.toList)(r:off+l.length≤cs.size)(h1: ∀u∈l,u.oneCell'=true):MD.ok P (λ_=>undef) (wU P p g off t l cs cs') [p]:=by
 intro o ρ C f w c j;unfold wU at f j⊢
 split at f
 ·rename_i T x y i;simp only[i] at j⊢;simp only[WN,WL,or_false,forall_eq_or_imp,forall_eq,sE] at f;obtain⟨q,v,m⟩:=f;obtain⟨s,d⟩:=j.one;have e:cs'=(cs.toList.take off++l++cs.toList.drop (off+l.length)).toArray:=by rw[h]
  subst e;refine⟨ab.zero,λ_=>[(g,.cells (cs.toList.take off++l++cs.toList.drop (off+l.length)).toArray t (0,0))],_,.inr ⟨?_,by simp⟩,λz h=>?_,by rw[show([p].flatMap λp=>bN (c p))=_ by simp only[WV,Xb,s,bN];rfl];exact a8.setRow (cs.toList.take off++l++cs.toList.drop (off+l.length)).toArray d⟩
  ·unfold execOp;simp only[i,mZ q,tu v,Instr.storeAt,Instr.sureAddr,WK,WQ,WJ,tt d r h1 m]
  ·rw[List.mem_singleton.1 h];rfl
 ·exact(bE f).elim
def sg(p g off:Nat)(t:TypeId)(l:List Value)(cs cs':Array Value)(h:cs.toList.take off++l++cs.toList.drop (off+l.length)=cs'.toList)(c:off+l.length≤cs.size)(h1: ∀u∈l,u.oneCell'=true):MH P (λ_=>undef):=⟨[p],wU P p g off t l cs cs',HH p g off t l cs cs' h c h1⟩
def Aw(P:Program)(s:Sem Next)(v:ab→Value)(rd:Wr)(ob:List Nat)(wt:ab→Wr):Prop:=∀(w:World) (c:gw),mh rd c w→
 ∃(E:ab) (z:gw) (d:World),(s.run P w= .ok (.value (v E)) d∨(s.run P w= .ok .skip d∧v E=undef))∧(∀x∈wt E,x.2.sat (z x.1))∧a8 (ob.flatMap λp=>bN (c p)) ((wt E).flatMap λx=>z x.1) w d
end
end
section
open Go Go.RowKit Go.Shelf
section
variable {R:List Nat} {base W W' w:World} {L L' N:aj}
theorem mj: ∀{L:aj} {cs:List ay},bt L cs→∀{i:Nat} {x:aA},L[i]? =some x→x.sat (cs.getD i [])
 | y::L,c::cs,h,0,x,a=>by simp only[XK,Option.some.injEq] at a;subst a;exact h.1
 | y::L,c::cs,h,i+1,x,a=>mj h.2 (by simpa using a)
 | [],[],_,i,x,a=>by simp at a
 | [],_::_,h,_,_,_=>h.elim
 | _::_,[],h,_,_,_=>h.elim
theorem tx{c:gw}: ∀{L:aj} {a:List Nat},a.length=L.length→(∀(i:Nat) (x:aA),L[i]? =some x→x.sat (c (a.getD i 0)))→bt L (a.map c)
 | [],[],_,_=>trivial
 | x::L,p::a,h,b=>⟨b 0 x rfl,tx (by simpa using h) λi y d=>b (i+1) y (by simpa using d)⟩
 | [],_::_,h,_=>by simp at h
 | _::_,[],h,_=>by simp at h
theorem et{x:aA}{xs:aj}{cs:List ay}(h:bt (x::xs) cs): ∃d ds,cs=d::ds∧x.sat d∧bt xs ds:=by
 cases cs with
 | nil=>exact h.elim
 | cons d ds=>exact⟨d,ds,rfl,h.1,h.2⟩
theorem oD{cs:List ay}(h:bt [] cs):cs=[]:=by
 cases cs with
 | nil=>rfl
 | cons d a=>exact h.elim
theorem m3{α:Type}{d:α}{cs:List α}{i:Nat}(h:i<cs.length):cs.getD i d∈cs:=by
 rw[WO,WM h];exact Xi h
theorem py{α:Type}{d:α}{cs:List α}{i:Nat}(h: ¬i<cs.length):cs.getD i d=d:=by
 rw[WO,W4 Om];rfl
theorem pz{cs:List ay}(h:cs.flatten.Pairwise λx y=>x.1≠y.1):(∀i,(cs.getD i []).Pairwise λx y=>x.1≠y.1)∧∀i j,i≠j→∀z∈cs.getD i [],∀u∈cs.getD j [],z.1≠u.1:=by
 rw[Yt] at h;refine⟨λi=>?_,λi j e z c u b=>?_⟩
 ·by_cases a:i<cs.length
  ·exact h.1 _ (m3 a)
  ·rw[py a];exact List.Pairwise.nil
 ·by_cases a:i<cs.length
  ·by_cases d:j<cs.length
   ·have f:=List.pairwise_iff_getElem.1 h.2;rw[WO,WM a] at c;rw[WO,WM d] at b;rcases XQ e with l | l
    ·exact f i j a d l z c u b
    ·exact Ne.symm (f j i d a l u b z c)
   ·rw[py d] at b;simp at b
  ·rw[py a] at c;simp at c
theorem aE.start{cs:List ay}(hs:bt L cs)(e:Has cs.flatten w):aE (bN cs.flatten) w L w:=by
 have d:=pz e.nd;have k:=iW hs;have g: ∀i,∀z∈cs.getD i [],z∈cs.flatten:=λi z a=>by
  by_cases f:i<cs.length
  ·exact List.mem_flatten.2 ⟨_,m3 f,a⟩
  ·rw[py f] at a;simp at a
 exact⟨λi=>cs.getD i [],λp h x c=>mj hs c,λp h c=>by rw[Xs] at c;omega,λp _ z a=>e.obj z (g p z a),λp _=>d.1 p,λp q _ _ b=>d.2 p q b,
  λp _ z a=> .inl (List.mem_map.2 ⟨z,g p z a,rfl⟩),rfl,rfl,rfl,WU _,λ_ _ _=>rfl⟩
def qH:List aj→aj→Prop
 | [],[]=>True
 | N::Ns,x::xs=>(∀a,bt N a→x.sat a.flatten)∧qH Ns xs
 | _,_=>False
theorem Ax: ∀{a:List aj} {L:aj},qH a L→a.length=L.length
 | [],[],_=>rfl
 | _::_,_::_,h=>by rw[Xh,Xh,Ax h.2]
 | [],_::_,h=>h.elim
 | _::_,[],h=>h.elim
theorem Ay: ∀{b:List aj} {L:aj},qH b L→∀{i:Nat} {x:aA},L[i]? =some x→∃N,b[i]? =some N∧∀ds,bt N ds→x.sat ds.flatten
 | N::b,y::L,h,0,x,a=>by simp only[XK,Option.some.injEq] at a;subst a;exact⟨N,rfl,h.1⟩
 | N::b,y::L,h,i+1,x,a=>by
  obtain⟨M,c,d⟩:=Ay h.2 (i:=i) (x:=x) (by simpa using a);exact⟨M,by simpa using c,d⟩
 | [],[],_,i,x,a=>by simp at a
 | [],_::_,h,_,_,_=>h.elim
 | _::_,[],h,_,_,_=>h.elim
theorem HI(x:aA): ∀ds,bt [x] ds→x.sat ds.flatten:=λds h=>by
 obtain⟨d,c,rfl,a,b⟩:=et h;rw[oD b];simpa using a
theorem Az: ∀L:aj,qH (L.map λx=>[x]) L
 | []=>trivial
 | x::L=>⟨HI x,Az L⟩
theorem AA{r:List (List Nat)}(h:r.flatten.Nodup){i j a b p:Nat}{g A:List Nat}(s:r[i]? =some g)(u:r[j]? =some A)(B:g[a]? =some p)(C:A[b]? =some p):i=j∧a=b:=by
 unfold List.Nodup at h;rw[Yt] at h;by_cases e:i=j
 ·subst e;rw[s] at u;cases u;refine⟨rfl,?_⟩;have q:=List.pairwise_iff_getElem.1 (h.1 g (XX s));obtain⟨c,d⟩:=List.getElem?_eq_some_iff.1 B;obtain⟨f,k⟩:=List.getElem?_eq_some_iff.1 C;apply Yi;intro x;rcases XQ x with l | l
  ·exact q a b c f l (d.trans k.symm)
  ·exact q b a f c l (k.trans d.symm)
 ·exfalso;have q:=List.pairwise_iff_getElem.1 h.2;obtain⟨n,t⟩:=List.getElem?_eq_some_iff.1 s;obtain⟨o,v⟩:=List.getElem?_eq_some_iff.1 u;have y:=XX B;have z:=XX C;rw[←t] at y;rw[←v] at z;rcases XQ e with l | l
  ·exact q i j n o l p y p z rfl
  ·exact q j i o n l p z p y rfl
theorem aE.re(h:aE R base L W)(s:List (List Nat)){H:List aj}(he:(dc s.flatten,s.map λg=>g.map λp=>L[p]?)=(true,H.map λN=>N.map some))(hs:qH H L'):aE R base L' W:=by
 obtain⟨c,n⟩:=h;have hn:=nO (ALca (·.1) he);have I:=ALca (·.2) he;simp only at I;have hlen:s.length=L'.length:=by
  have d:=ALca Yl I;rw[X7,X7] at d;exact d.trans (Ax hs)
 have v: ∀i,i<L'.length→∃g N,s[i]? =some g∧H[i]? =some N∧g.map (λp=>L[p]?)=N.map some:=by
  intro i o;have d:=ALca (λz=>z[i]?) I;simp only[W8] at d;rw[WM (by omega:i<s.length)] at d;cases F:H[i]? with
  | none=>rw[F] at d;simp at d
  | some N=>rw[F] at d;exact⟨s[i],N,WM Om,rfl,by simpa using d⟩
 have k: ∀{g:List Nat} {N:aj},g.map (λp=>L[p]?)=N.map some→∀p∈g,p<L.length:=by
  intro g N e p r;have:L[p]?∈N.map some:=by rw[←e];exact List.mem_map.2 ⟨p,r,rfl⟩
  obtain⟨x,_,G⟩:=List.mem_map.1 this;exact(List.getElem?_eq_some_iff.1 G.symm).1
 have t: ∀i g,s[i]? =some g→(s.getD i [])=g:=λi g D=>by rw[WO,D];rfl
 refine⟨λi=>(s.getD i []).flatMap c,?_,?_,?_,?_,?_,?_,n.os,n.tape,n.output,n.size,n.far⟩
 ·intro i o x G;obtain⟨g,N,d,B,l⟩:=v i o;obtain⟨N',V,h5⟩:=Ay hs G;rw[B] at V;cases V;rw[t i g d];have hS:bt N (g.map c):=by
   refine tx (by have:=ALca Yl l;simpa using this) λj y hy=>?_;have C:=ALca (λz=>z[j]?) l;simp only[W8,hy,WW] at C;cases D:g[j]? with
   | none=>rw[D] at C;simp at C
   | some p=>
    rw[D] at C;rw[WO,D];have X:L[p]? =some y:=by simpa using C
    exact n.sat p (List.getElem?_eq_some_iff.1 X).1 y X
  have:=h5 _ hS;rwa [←XF] at this
 ·intro i o G;rw[Xs] at G;omega
 ·intro i o z f;obtain⟨g,N,d,B,l⟩:=v i o;rw[t i g d] at f;obtain⟨p,r,f⟩:=List.mem_flatMap.1 f;exact n.obj p (k l p r) z f
 ·intro i o;obtain⟨g,N,d,B,l⟩:=v i o;rw[t i g d,Xp];refine⟨λp r=>n.inn p (k l p r),?_⟩;rw[Xr];intro a b Y Z hab z f u A;refine n.nd _ _ (k l _ (Xi Y)) (k l _ (Xi Z)) (λe=>?_) z f u A;have:=(AA hn d d (WM Y) (by rw[WM Z,e])).2;omega
 ·intro i j o hj T z f u A;obtain⟨g,N,d,B,l⟩:=v i o;obtain⟨g',N',k1,k2,k3⟩:=v j hj;rw[t i g d] at f;rw[t j g' k1] at A;obtain⟨p,r,f⟩:=List.mem_flatMap.1 f;obtain⟨q,F,A⟩:=List.mem_flatMap.1 A;refine n.nd p q (k l p r) (k k3 q F) (λe=>?_) z f u A;subst e;obtain⟨a,M,O⟩:=W9 r;obtain⟨b,Q,S⟩:=W9 F;exact T (AA hn d k1 (by rw[WM M,O]) (by rw[WM Q,S])).1
 ·intro i o z f;obtain⟨g,N,d,B,l⟩:=v i o;rw[t i g d] at f;obtain⟨p,r,f⟩:=List.mem_flatMap.1 f;exact n.lo p (k l p r) z f
theorem aE.pick(h:aE R base L W)(a:List Nat)(N:aj)(b:(dc (a.map λp=>[p]).flatten,(a.map λp=>[p]).map λg=>g.map λp=>L[p]?)=(true,(N.map λx=>[x]).map λN=>N.map some):=by kernel_rfl):aE R base N W:=
 h.re _ b (Az N)
theorem aE.open(h:aE R base L W)(k:Nat){Q:ay→Prop}(g:L[k]? =some (.p Q)): ∃f,Q f∧aE R base (L.set k (.c f)) W:=by
 obtain⟨c,a⟩:=h;have d:=(List.getElem?_eq_some_iff.1 g).1;refine⟨c k,a.sat k d _ g,c,?_⟩;rw[XA];refine⟨λp i x b=>?_,λp i b=>?_,a.obj,a.inn,a.nd,a.lo,a.os,a.tape,a.output,a.size,a.far⟩
 ·rw[YE] at b;by_cases e:k=p
  ·subst e;rw[ALifp rfl,ALifp d] at b;cases b;rfl
  ·rw[ALifn e] at b;exact a.sat p i x b
 ·rw[Xs,XA] at b;omega
theorem aE.fin{rd:aj}{cs:List ay}(hs:bt rd cs)(hh:Has cs.flatten w)(h:aE (bN cs.flatten) w L W')(O:List Nat)(N:aj)(v:List Nat)(H:List (Nat×Nat))
  (he:(dc (v++H.map (·.2)),v.map (λp=>L[p]?),H.map (λx=>L[x.2]?),(Xk rd.length).all λi=>O.contains i||H.any λx=>x.1==i)=(true,N.map some,H.map (λx=>some (.c (cs.getD x.1 []))),true)):
  ∃ds,bt N ds∧a8 (O.flatMap λi=>bN (cs.getD i [])) ds.flatten w W':=by
 obtain⟨c,f⟩:=h;simp only[Prod.mk.injEq] at he;obtain⟨h1,I,h3,h4⟩:=he;have X:=nO h1;have l: ∀p∈v,p<L.length:=λp g=>by
  have:L[p]?∈N.map some:=by rw[←I];exact List.mem_map.2 ⟨p,g,rfl⟩
  obtain⟨x,_,G⟩:=List.mem_map.1 this;exact(List.getElem?_eq_some_iff.1 G.symm).1
 have s: ∀i,i<rd.length→i∉O→∃k,k<L.length∧k∉v∧c k=cs.getD i []:=by
  intro i q Y;have o:=List.all_eq_true.1 h4 i (List.mem_range.2 q);simp only[Xy,List.any_eq_true,beq_iff_eq] at o;rcases o with o | ⟨x,G,rfl⟩
  ·exact absurd (by simpa using o) Y
  ·obtain⟨j,F,hx'⟩:=W9 G;have n:=ALca (λz=>z[j]?) h3;simp only[W8,WM F,WW,hx',Option.some.injEq] at n;have B:=(List.getElem?_eq_some_iff.1 n).1;refine⟨x.2,B,λg=>?_,f.sat x.2 B _ n⟩;rw[List.nodup_append] at X;exact X.2.2 x.2 g x.2 (List.mem_map.2 ⟨x,G,rfl⟩) rfl
 have D: ∀b,b∈bN cs.flatten→∃i,i<cs.length∧∃z∈cs.getD i [],z.1=b:=by
  intro b M;obtain⟨z,a,e⟩:=List.mem_map.1 M;obtain⟨d,hd,a⟩:=List.mem_flatten.1 a;obtain⟨i,q,e2⟩:=W9 hd;exact⟨i,q,z,by rw[WO,WM q,e2];exact a,e⟩
 have hl:=iW hs;refine⟨v.map c,tx (by have:=ALca Yl I;simpa using this) λj y hy=>?_,f.os,f.tape,f.output,f.size,λz a=>?_,λz a=>?_,?_,λb M Z=>?_⟩
 ·have n:=ALca (λz=>z[j]?) I;simp only[W8,hy,WW] at n;cases Q:v[j]? with
  | none=>rw[Q] at n;simp at n
  | some p=>
   rw[Q] at n;rw[WO,Q];have h7:L[p]? =some y:=by simpa using n
   exact f.sat p (List.getElem?_eq_some_iff.1 h7).1 y h7
 ·rw[←XF] at a;obtain⟨p,g,a⟩:=List.mem_flatMap.1 a;exact f.obj p (l p g) z a
 ·rw[←XF] at a;obtain⟨p,g,a⟩:=List.mem_flatMap.1 a;rcases f.lo p (l p g) z a with o | o
  ·obtain⟨i,q,u,C,e⟩:=D _ o;by_cases r:i∈O
   ·exact .inl (List.mem_flatMap.2 ⟨i,r,List.mem_map.2 ⟨u,C,e⟩⟩)
   ·obtain⟨k,T,V,t⟩:=s i Om r;rw[←t] at C;exact absurd e.symm (f.nd p k (l p g) T (λe=>V (e▸g)) z a u C)
  ·exact .inr o
 ·rw[←XF,Xp];refine⟨λp g=>f.inn p (l p g),?_⟩;rw[Xr];intro i j q F S z a u C;refine f.nd _ _ (l _ (Xi q)) (l _ (Xi F)) (λe=>?_) z a u C;have g:v.Nodup:=(List.nodup_append.1 X).1;have:=(List.pairwise_iff_getElem.1 g) i j q F S;exact this e
 ·by_cases A:b∈bN cs.flatten
  ·obtain⟨i,q,z,a,e⟩:=D b A;have r:i∉O:=λhm=>Z (List.mem_flatMap.2 ⟨i,hm,List.mem_map.2 ⟨z,a,e⟩⟩);obtain⟨k,T,_,t⟩:=s i Om r;have o:=f.obj k T z (by rw[t];exact a);have n:=hh.obj z (List.mem_flatten.2 ⟨_,m3 q,a⟩);rw[←e,o,n]
  ·exact f.far b M A
end
theorem aE.get1{R:List Nat}{base W:World}{L:aj}(h:aE R base L W){k g:Nat}{x:Obj}(d:L[k]? =some (.c [(g,x)])):W.heap[g]? =some x:=by
 obtain⟨c,b⟩:=h;have a:=(List.getElem?_eq_some_iff.1 d).1;have e:c k=[(g,x)]:=b.sat k a _ d;exact b.obj k a (g,x) (by rw[e];exact List.mem_singleton.2 rfl)
inductive RV (P:Program):Type
 | t (v:Value)
 | c (v:Value) (k:Nat)
 | s (l:List Value) (k:Nat)
def RV.val{P:Program}:RV P→Value
 | t v=>v
 | c v _=>v
 | s l _=> .agg l.toArray
section
variable {P:Program} {L:aj} {tmps:Array Value}
def fH(P:Program)(L:aj)(tmps:Array Value):List ResultVar→List (RV P)→List a9
 | [],[]=>[]
 | .tmp i::rs,.t v::vs=>sE (tmps.getD i undef) v::fH P L tmps rs vs
 | .cell p T::rs,.c v k::vs=>(match L[k]? with
  | some (.c [(g,.cells a _ (0,0))])=>[sE (tmps.getD p undef) (nN g 0),sE a[0]? (some v),sE (λw=>(isAgg T).run P w) (λw=> .ok false w)]
  | _=>[sB false])++fH P L tmps rs vs
 | .cell p T::rs,.s l k::vs=>(match L[k]? with
  | some (.c [(g,.cells a _ (0,0))])=>[sE (tmps.getD p undef) (nN g 0),sE ((a.toList.drop 0).take l.length) l,sB (dO P T),sE ((P.info? T).map (·.size)) (some l.length)]
  | _=>[sB false])++fH P L tmps rs vs
 | _,_=>[sB false]
def nP:List (RV P)→Value
 | [v]=>v.val
 | vs=> .tuple (vs.map RV.val).toArray
def nQ(tmps:Array Value):ResultVar→Sem Value
 | .tmp t=>pure (tmps.getD t undef)
 | .cell a t=>do loadVar t (←asAddr (tmps.getD a undef))
theorem AB{p g:Nat}{T:TypeId}{v:Value}{W:World}(h:tmps.getD p undef=nN g 0)(b:(loadVar T ⟨g,0,none⟩).run P W= .ok v W):(nQ tmps (.cell p T)).run P W= .ok v W:=by
 have a:tmps[p]?.getD undef= .pointer (some ⟨g,0,none⟩):=by simpa [nN] using h
 simp [nQ,a,asAddr,b]
theorem HJ{R:List Nat}{base W:World}(y:aE R base L W): ∀(rs:List ResultVar) (d:List (RV P)),(∀e∈fH P L tmps rs d,e.2.1=e.2.2)→(rs.mapM (nQ tmps)).run P W= .ok (d.map RV.val) W:=by
 intro rs
 induction rs with
 | nil=>
  intro d a;cases d with
  | nil=>simp
  | cons v d=>exact(bE (by simpa [fH] using a)).elim
 | cons x rs ih=>
  intro d a;cases d with
  | nil=>exact(bE (by simpa [fH] using a)).elim
  | cons v d=>
   have b: ∀{w:Value},(nQ tmps x).run P W= .ok w W→v.val=w→(∀e∈fH P L tmps rs d,e.2.1=e.2.2)→((x::rs).mapM (nQ tmps)).run P W= .ok ((v::d).map RV.val) W:=by
    intro w n o q;rw[List.mapM_cons];simp only[WK,n,ih d q,WJ,WQ,XN,o]
   cases x with
   | tmp i=>
    cases v with
    | t v=>
     simp only[fH,WN,forall_eq_or_imp,sE] at a;exact b (w:=v) (by simp only[nQ,WQ];rw[a.1]) rfl a.2
    | _=>exact(bE (by simpa only[fH] using a)).elim
   | cell p T=>
    cases v with
    | t v=>exact(bE (by simpa only[fH] using a)).elim
    | c v k=>
     simp only[fH] at a
     split at a
     ·rename_i g u z f;simp only[YI,WN,WL,or_false,or_imp,forall_and,forall_eq,sE] at a;obtain⟨⟨n,o,q⟩,r⟩:=a;have B:mb W g z u:=y.get1 f;exact b (AB n (qw (congrFun q W) ((B.cell 0).trans o))) rfl r
     ·exact(bE λe h=>a e (WR _ h)).elim
    | s l k=>
     simp only[fH] at a
     split at a
     ·rename_i g u z f;simp only[YI,WN,WL,or_false,or_imp,forall_and,forall_eq,sE,sB] at a;obtain⟨⟨n,o,q,A⟩,r⟩:=a;exact b (AB n (ts (y.get1 f) o q A)) rfl r
     ·exact(bE λe h=>a e (WR _ h)).elim
theorem AD{R:List Nat}{base W:World}{b:Func}(d:aE R base L W)(a:List (RV P))(e:(fH P L tmps b.results.toList a).map a9.lhs=(fH P L tmps b.results.toList a).map a9.rhs):(results b tmps).run P W= .ok (nP a) W:=by
 have h:=HJ d _ _ (a9.all e);have c:(b.results.mapM (nQ tmps)).run P W= .ok (a.map RV.val).toArray W:=by
  rw[Array.mapM_eq_mapM_toList,map_eq_pure_bind,WK,h];simp only[WJ,WQ]
 unfold results;show Sem.run P (bind (b.results.mapM (nQ tmps)) _) W=_;rw[WK,c];simp only[WJ,WQ];cases a with
 | nil=>rfl
 | cons v a=>
  cases a with
  | nil=>rfl
  | cons u a=>rw[dif_neg (by simp)];rfl
end
theorem HK{F:Fence}{n:Nat}{P:Program}{a:Func}{tmps:Array Value}{R:Ending→World→Prop}{c:List Nat}{base:World}{L:aj}{W:World}(b:Hid (aE c base L W))(vs:List (RV P))(d:(fH P L tmps a.results.toList vs).map a9.lhs=(fH P L tmps a.results.toList vs).map a9.rhs)
 (h:aE c base L W→R (.returned (nP vs)) W):LeavesInM F n P a tmps R [] .returning W:=⟨_,AD b.out vs d,h b.out⟩
end
section
open Go Go.RowKit Go.Shelf
structure cx (R:List Nat) (base:World) (L:ay) (W:World):Prop where
  obj: ∀x∈L,W.heap[x.1]? =some x.2
  nd:L.Pairwise (λx y=>x.1≠y.1)
  lo: ∀x∈L,x.1∈R∨base.heap.size≤x.1
  os:W.os=base.os
  tape:W.tape=base.tape
  output:W.output=base.output
  size:base.heap.size≤W.heap.size
  far: ∀b,b<base.heap.size→b∉R→W.heap[b]? =base.heap[b]?
section
variable {R R0:List Nat} {base w W W':World} {L L':ay}
theorem cx.start{R0:ay}(H:Has R0 w):cx (R0.map (·.1)) w R0 w:=
  ⟨H.obj,H.nd,λx a=> .inl (List.mem_map.2 ⟨x,a,rfl⟩),rfl,rfl,rfl,WU _,λ_ _ _=>rfl⟩
theorem cx.lt(h:cx R base L W){x:Nat×Obj}(a:x∈L):x.1<W.heap.size:=(Array.getElem?_eq_some_iff.1 (h.obj x a)).1
theorem cx.sub(h:cx R base L W)(hs:L'.Sublist L):cx R base L' W:=⟨λx a=>h.obj x (hs.subset a),h.nd.sublist hs,λx a=>h.lo x (hs.subset a),h.os,h.tape,h.output,h.size,h.far⟩
end
section
variable {R R0:List Nat} {base w W W' W1:World} {L L' K:ay} {Ds:List Nat}
theorem cx.turn{O:Nat→Prop}(h:cx R base L W)(t:eQ (λb=>¬O b) W W')(f: ∀x∈L,O x.1)(hf: ∀b,b<base.heap.size→b∉R→O b):cx R base L W':=
  ⟨λx d=>t.heap (λe=>e (f x d)) (h.obj x d),h.nd,h.lo,t.os.trans h.os,t.tape.trans h.tape,t.output.trans h.output,Xd h.size t.size,
    λb a c=>(t.same b (Xq a h.size) (λe=>e (hf b a c))).trans (h.far b a c)⟩
theorem cx.join(h:cx R base L W)(k:cx (L.map (·.1)) W L' W'):cx R base L' W':=
  ⟨k.obj,k.nd,λx i=>(k.lo x i).elim (λa=>by obtain⟨y,c,e⟩:=List.mem_map.1 a;rw[←e];exact h.lo y c) (λa=> .inr (Xd h.size a)),k.os.trans h.os,k.tape.trans h.tape,k.output.trans h.output,Xd h.size k.size,
    λb f g=>(k.far b (Xq f h.size) λa=>by
      obtain⟨y,c,e⟩:=List.mem_map.1 a;rcases h.lo y c with d | d
      · exact g (by rw[←e];exact d)
      · omega).trans (h.far b f g)⟩
theorem cx.has(h:cx R base L W):Has L W:=⟨h.obj,h.nd⟩
theorem cx.anew(h:cx R base L W):cx (L.map (·.1)) W L W:=cx.start h.has
def jA(R:List Nat)(base:World)(R0:List Nat)(w:World)(Ds:List Nat):Prop:=∀L W,cx R base L W→cx R0 w (L++Ds.map dR) W
theorem cx.seg(h:cx R0 w (L++Ds.map dR) W):jA (L.map (·.1)) W R0 w Ds:=by
  intro L' W' k;have o:=List.pairwise_append.1 h.nd;have i: ∀{D:Nat},D∈Ds→dR D∈L++Ds.map dR:=λc=>WS _ (Xv c);have f: ∀{D:Nat},D∈Ds→D∉L.map (·.1):=λc a=>by
    obtain⟨y,g,e⟩:=List.mem_map.1 a;exact o.2.2 y g _ (Xv c) e
  refine⟨λx a=>?_,?_,λx a=>?_,k.os.trans h.os,k.tape.trans h.tape,k.output.trans h.output,Xd h.size k.size,λb l n=>?_⟩
  · rcases List.mem_append.1 a with a | a
    · exact k.obj x a
    · obtain⟨D,c,rfl⟩:=List.mem_map.1 a;exact(k.far D (h.lt (i c)) (f c)).trans (h.obj _ (i c))
  · refine List.pairwise_append.2 ⟨k.nd,o.2.1,λx a y g e=>?_⟩;obtain⟨D,c,rfl⟩:=List.mem_map.1 g;rcases k.lo x a with d | d
    · exact f c (by rw[←show x.1=D from e];exact d)
    · have:=h.lt (i c);have p:x.1=D:=e;have q:(dR D).1=D:=rfl;omega
  · rcases List.mem_append.1 a with a | a
    · rcases k.lo x a with d | d
      · obtain⟨y,g,e⟩:=List.mem_map.1 d;rw[←e];exact h.lo y (WR _ g)
      · exact .inr (Xd h.size d)
    · exact h.lo x (WS _ a)
  · refine(k.far b (Xq l h.size) λa=>?_).trans (h.far b l n);obtain⟨y,g,e⟩:=List.mem_map.1 a;rcases h.lo y (WR _ g) with d | d
    · exact n (by rw[←e];exact d)
    · omega
theorem jA.mark{D:Nat}(c:jA R base R0 w Ds)(h:cx R base (L++[dR D]) W):jA (L.map (·.1)) W R0 w (D::Ds):=by
  intro L' W' k;have a:cx R base (L++[D].map dR) W:=h;have b:=c _ _ (a.seg L' W' k);simpa using b
theorem cx.unmark{D:Nat}{M:ay}(o:Obj)(h:cx R base (L++dR D::M) W):cx R base (L++M) (W.putObj D o):=by
  have e:=List.pairwise_append.1 h.nd;have d:=List.pairwise_cons.1 e.2.1;have k:dR D∈L++dR D::M:=by simp
  have f: ∀x∈L++M,x.1≠D:=λx a=>by
    rcases List.mem_append.1 a with a | a
    · exact e.2.2 x a (dR D) (by simp)
    · exact Ne.symm (d.1 x a)
  have c: ∀x∈L++M,x∈L++dR D::M:=λx a=>by
    rcases List.mem_append.1 a with a | a
    · exact WR _ a
    · exact WS _ (Xf _ a)
  refine⟨λx a=>(W7 (f x a)).trans (h.obj x (c x a)),?_,λx a=>h.lo x (c x a),h.os,h.tape,h.output,by simpa [X6] using h.size,λb l i=>?_⟩
  · exact List.pairwise_append.2 ⟨e.1,d.2,λx a y n=>e.2.2 x a y (Xf _ n)⟩
  · refine(W7 ?_).trans (h.far b l i);rintro rfl;rcases h.lo _ k with g | g
    · exact i g
    · have p:(dR b).1=b:=rfl;omega
end
section
variable {R R0:List Nat} {base w W W':World} {L L':aj} {Ds:List Nat}
theorem aE.conc(h:aE R base L W): ∃cs,bt L cs∧cx R base cs.flatten W:=by
  obtain⟨c,e⟩:=h;have l: ∀{z:Nat×Obj},z∈((Xk L.length).map c).flatten→∃p,p<L.length∧z∈c p:=λd=>by
    rw[←XF] at d;obtain⟨p,f,d⟩:=List.mem_flatMap.1 d;exact⟨p,List.mem_range.1 f,d⟩
  refine⟨(Xk L.length).map c,tx (by rw[YF]) λi x n=>?_,λz d=>?_,?_,λz d=>?_,e.os,e.tape,e.output,e.size,e.far⟩
  · have k:=(List.getElem?_eq_some_iff.1 n).1;rw[WO,XZ k];exact e.sat i k x n
  · obtain⟨p,f,d⟩:=l d;exact e.obj p f z d
  · rw[←XF,Xp];refine⟨λp f=>e.inn p (List.mem_range.1 f),?_⟩;exact List.Pairwise.imp_of_mem (λ{a b} o q g z d u r=>e.nd a b (List.mem_range.1 o) (List.mem_range.1 q) g z d u r) (show(Xk L.length).Pairwise (· ≠ ·) from List.nodup_range)
  · obtain⟨p,f,d⟩:=l d;exact e.lo p f z d
theorem aE.ofS{cs:List ay}(hs:bt L cs)(h:cx R base cs.flatten W):aE R base L W:=by
  have d:=pz h.nd;have k:=iW hs;have f: ∀i,∀z∈cs.getD i [],z∈cs.flatten:=λi z a=>by
    by_cases e:i<cs.length
    · exact List.mem_flatten.2 ⟨_,m3 e,a⟩
    · rw[py e] at a;simp at a
  exact⟨λi=>cs.getD i [],λp g x c=>mj hs c,λp g c=>by rw[Xs] at c;omega,λp _ z a=>h.obj z (f p z a),λp _=>d.1 p,λp q _ _ b=>d.2 p q b,
    λp _ z a=>h.lo z (f p z a),h.os,h.tape,h.output,h.size,h.far⟩
abbrev mk(D:Nat):aA:= .c [dR D]
theorem ko: ∀{L L':aj} {cs ds:List ay},bt L cs→bt L' ds→bt (L++L') (cs++ds)
  | [],_,[],_,_,h=>h
  | _::_,_,_::_,_,h,k=>⟨h.1,ko h.2 k⟩
  | [],_,_::_,_,h,_=>h.elim
  | _::_,_,[],_,h,_=>h.elim
theorem nR: ∀{L L':aj} {a:List ay},bt (L++L') a→∃ds es,a=ds++es∧bt L ds∧bt L' es
  | [],_,a,h=>⟨[],a,rfl,trivial,h⟩
  | x::L,L',[],h=>h.elim
  | x::L,L',d::a,h=>by
    obtain⟨ds,es,e,b,c⟩:=nR (L:=L) h.2;exact⟨d::ds,es,by rw[e];rfl,⟨h.1,b⟩,c⟩
theorem qI: ∀Ds:List Nat,bt (Ds.map mk) (Ds.map λD=>[dR D])
  | []=>trivial
  | _::Ds=>⟨rfl,qI Ds⟩
theorem pA: ∀{Ds:List Nat} {es:List ay},bt (Ds.map mk) es→es.flatten=Ds.map dR
  | [],[],_=>rfl
  | D::Ds,e::es,h=>by
    have a:e=[dR D]:=h.1;rw[XS,a,pA h.2];rfl
  | [],_::_,h=>h.elim
  | _::_,[],h=>h.elim
theorem aE.seg(h:aE R0 w (L++Ds.map mk) W): ∃b,Hid (jA b W R0 w Ds)∧Hid (aE b W L W):=by
  obtain⟨f,e,a⟩:=h.conc;obtain⟨g,i,rfl,c,d⟩:=nR e;rw[Xc,pA d] at a;exact⟨_,Lib.hid a.seg,Lib.hid (aE.ofS c (cx.anew (a.sub (X4 _ _))))⟩
theorem jA.markE{D:Nat}(c:jA R base R0 w Ds)(h:aE R base (L++[mk D]) W): ∃b,Hid (jA b W R0 w (D::Ds))∧Hid (aE b W L W):=by
  obtain⟨g,f,a⟩:=h.conc;obtain⟨i,k,rfl,d,e⟩:=nR f;rw[Xc,pA (Ds:=[D]) e] at a;exact⟨_,Lib.hid (c.mark a),Lib.hid (aE.ofS d (cx.anew (a.sub (X4 _ _))))⟩
theorem jA.whole(c:jA R base R0 w Ds)(h:aE R base L W):aE R0 w (L++Ds.map mk) W:=by
  obtain⟨d,b,a⟩:=h.conc;refine aE.ofS (ko b (qI Ds)) ?_;have e:((Ds.map λD=>[dR D]):List ay).flatten=Ds.map dR:=pA (qI Ds);rw[Xc,e];exact c _ _ a
end
theorem AE{F:Fence}{n:Nat}{P:Program}{c:Func}{tmps:Array Value}{Rp:Ending→World→Prop}{R R0:List Nat}{base w:World}{L:aj}{W:World}{Ds:List Nat}(e:Hid (jA R base R0 w Ds))(f:Hid (aE R base L W))(vs:List (RV P))(i:(fH P L tmps c.results.toList vs).map a9.lhs=(fH P L tmps c.results.toList vs).map a9.rhs)
    (h: ∀W',aE R0 w L W'→Rp (.returned (nP vs)) W'):LeavesInM F n P c tmps Rp (Ds.map jU) .returning W:=by
  obtain⟨g,l,a⟩:=f.out.conc;have d: ∀(Ds:List Nat) (W:World),cx R0 w (g.flatten++Ds.map dR) W→LeavesInM F n P c tmps Rp (Ds.map jU) .returning W:=by
    intro Ds
    induction Ds with
    | nil=>
      intro W a;have b:aE R0 w L W:=aE.ofS l (by simpa using a);exact⟨_,AD b vs i,h _ b⟩
    | cons D Ds ih=>
      intro W a;have k:W.heap[D]? =some (.deferred (some [])):=a.obj (dR D) (by simp);exact⟨by simp,.inl ⟨D,_,rfl,run_takeDeferred k,ih _ (a.unmark _)⟩⟩
  exact d Ds W (e.out _ W a)
structure gS (K O O':Nat→Prop) (W W':World):Prop where
  size:W.heap.size≤W'.heap.size
  old: ∀b,b<W.heap.size→O' b→O b
  new: ∀b,O' b→b<W'.heap.size
  keep: ∀b,b<W.heap.size→(¬O b∨K b)→W'.heap[b]? =W.heap[b]?
theorem gS.trans{K A B C:Nat→Prop}{W W1 d:World}(h:gS K A B W W1)(k:gS K B C W1 d):gS K A C W d:=by
  refine⟨Xd h.size k.size,λb a f=>h.old b a (k.old b (Xq a h.size) f),k.new,λb a c=>?_⟩;refine(k.keep b (Xq a h.size) ?_).trans (h.keep b a c);rcases c with c | c
  · exact .inl λe=>c (h.old b a e)
  · exact .inr c
def oE{α:Type}(F:Fence)(n:Nat)(P:Program)(g:Nat)(f:Array Value)(encs:α→Array Value)(xs:List α)(K:Nat→Prop)(St:(Nat→Prop)→World→Prop):Prop:=
  ∀(l:Nat) (J c:Nat→(Nat→Prop)→World→Prop) (W:World) (O:Nat→Prop),St O W→gH J→gH c→(∀b,O b→b<W.heap.size)→
    (∀i x d W1,xs[i]? =some x→J i d W1→W.heap.size≤W1.heap.size→YieldAt F (n-1) P l (encs x) W1 λe W'=>∃a,gS K d a W1 W'∧
      ((e= .returned (.bool true)∧J (i+1) a W')∨(e= .returned (.bool false)∧c (i+1) a W')))→
    J 0 O W→
    CallsIn F n P g (#[.func (.yield l) #[] #[]]++f) W λe W'=>(∃v,e= .returned v)∧((∃a,J xs.length a W')∨∃i,i<xs.length∧∃a,c (i+1) a W')
def AG(K:Nat→Prop)(I:Nat→(Nat→Prop)→World→Prop)(b:Code→Nat→(Nat→Prop)→World→Prop)(i:Nat)(O:Nat→Prop)(W:World):Exit→Act→World→Prop
  | .normal,_,W'=>∃a,gS K O a W W'∧I i a W'
  | .ret,_,W'=>∃a,gS K O a W W'∧b .ret i a W'
  | .exit c,_,W'=>∃a,gS K O a W W'∧b (.exit c) i a W'
  | .goto t,_,W'=>∃a,gS K O a W W'∧b (.goto t) i a W'
  | .panic _,_,_=>False
  | .outgrown,_,_=>False
theorem AH{α:Type}{F:Fence}{n:Nat}{P:Program}{g:Operand}{ps:Array Tmp}{assign body:Code}{Q:Exit→Act→World→Prop}{a:Act}{w:World}
    (hro:F.round=none) (h1:1≤n) {gf:Nat} {lb:Array Value} (hg:a.eval g= .func (.func gf) #[] lb) (hFg:F.fn gf) (eg: ∀args w,(callFunc gf args).run P w= .ok (.enter gf args) w)
    {encs:α→Array Value} {xs:List α} {K:Nat→Prop} {St:(Nat→Prop)→World→Prop} (hit:oE F (n-1) P gf lb encs xs K St) (O:Nat→Prop)
    (hSt: ∀W,(∀b,b<w.heap.size→W.heap[b]? =w.heap[b]?)→∀O1:Nat→Prop,(∀b,b<w.heap.size→O1 b→O b)→St O1 W) (hO: ∀b,O b→b<w.heap.size) (hKl: ∀b,K b→b<w.heap.size) (hps: ∀x,(encs x).size=ps.size)
    (I:Nat→(Nat→Prop)→World→Prop) (Ix:Code→Nat→(Nat→Prop)→World→Prop) (hI:gH I) (hIx: ∀c,gH (Ix c)) (h0:I 0 O w)
    (hround: ∀(l i:Nat) (x:α) (O1:Nat→Prop) (W:World),xs[i]? =some x→w.heap.size+2≤W.heap.size→I i O1 W→
      assign.wpIn (F.inRound l) (n-1-1) P (Exit.then (λa' Wa=>∃Oa,gS K O1 Oa W Wa∧∀U,eQ (λb=>¬Oa b) Wa U→U.heap.size=Wa.heap.size→
        body.wpIn (F.inRound l) (n-1-1) P (AG K I Ix (i+1) Oa U) a' U) (λ_ _ _=>False)) {tmps:=(ps.zip (encs x)).foldl (λt (p,v)=>t.setIfInBounds p v) a.tmps,defers:=[]} W)
    (hdone: ∀(D:Nat) (O1:Nat→Prop) (W:World),w.heap.size≤D→¬O1 D→I xs.length O1 W→W.heap[D]? =some (.deferred (some []))→Q .normal {a with defers:={target:= .collected D,args:=#[]}::a.defers} W)
    (hstop: ∀(D:Nat) (c:Code) (i:Nat) (O1:Nat→Prop) (W:World),w.heap.size≤D→¬O1 D→i<xs.length→Ix c (i+1) O1 W→W.heap[D]? =some (.deferred (some []))→c.wpIn F n P Q {a with defers:={target:= .collected D,args:=#[]}::a.defers} W):
    (Code.rangeFunc g ps assign body).wpIn F n P Q a w:=by
  refine wpIn_rangeFunc ?_
  intro fn hfn
  rw[hro]
  obtain⟨B,hB⟩: ∃B,w.heap.size=B:=⟨_,rfl⟩
  obtain⟨rec,hrec⟩: ∃rec:LoopState→Option Code→Loop,rec=λst pe=>{state:=st,pending:=pe,fn,tmps:=a.tmps,params:=ps,assign,body,defers:=B}:=⟨_,rfl⟩
  obtain⟨V,hV⟩: ∃V,(w.alloc (.deferred (some []))).alloc (.loop (rec .ready none))=V:=⟨_,rfl⟩
  have vl:V.heap[B+1]? =some (.loop (rec .ready none)):=by
    rw[←hV,←hB];have:=XW (w.alloc (.deferred (some []))) (.loop (rec .ready none));rwa [World.size_alloc] at this
  have vd:V.heap[B]? =some (.deferred (some [])):=by
    rw[←hV,←hB];exact(Below.heap_alloc _ _ _ (by simp)).trans (XW w _)
  have vo: ∀b,b<B→V.heap[b]? =w.heap[b]? :=by
    intro b hb
    rw[←hV];exact(Below.heap_alloc _ _ _ (by simp;omega)).trans (Below.heap_alloc _ _ _ Om)
  have vI:I 0 O V:=by
    rw[←hV];exact hI 0 _ _ _ (hI 0 _ _ _ h0 (eQ.alloc _ _ _)) (eQ.alloc _ _ _)
  have vs:V.heap.size=B+2:=by rw[←hV,←hB];simp
  refine⟨B+1,[{target:= .collected B,args:=#[]}],V,{target:= .fn (.func gf) lb,args:=#[.func (.yield (B+1)) #[] #[]]},V,gf,
    #[.func (.yield (B+1)) #[] #[]]++lb,V,?_,?_,?_,?_,λ_=>h1,?_⟩
  · rw[←hV,hrec,←hB];exact run_enterLoop_outer _ _ _ _ _
  · simp only[resolve,hg]
    simp [go_sem]
  · intro f' hf';simp [Target.leads] at hf';subst hf';exact hFg
  · simp [invoke,go_sem,eg]
  · obtain⟨up,hup⟩: ∃up:(Nat→Prop)→Nat→Prop,up=λOc b=>Oc b∨b=B∨b=B+1:=⟨_,rfl⟩
    have kept: ∀{Oc:Nat→Prop} {A C:World} {b:Nat} {o:Obj},eQ (λb=>¬up Oc b) A C→(b=B∨b=B+1)→A.heap[b]? =some o→C.heap[b]? =some o:=λ{Oc A C b o} t hb ho=>
      t.heap (λe=>e (by rw[hup];exact .inr hb)) ho
    have upT: ∀{Oc:Nat→Prop} {A C:World},eQ (λb=>¬up Oc b) A C→eQ (λb=>¬Oc b) A C:=λ{Oc A C} t=>t.mono λb hb h=>hb (by rw[hup];exact .inl h)
    refine(hit (B+1)
      (λi O1 W=>∃Oc,O1=up Oc∧(¬Oc B∧¬Oc (B+1))∧I i Oc W∧W.heap[B+1]? =some (.loop (rec .ready none))∧W.heap[B]? =some (.deferred (some [])))
      (λi O1 W=>∃Oc,O1=up Oc∧(¬Oc B∧¬Oc (B+1))∧∃c,Ix c i Oc W∧W.heap[B+1]? =some (.loop (rec .done (some c)))∧W.heap[B]? =some (.deferred (some [])))
      V (up O) (hSt V (by rw[hB];exact vo) (up O) λb hb h=>by
        rw[hup] at h
        rcases h with h | h | h
        · exact h
        · omega
        · omega)
      (λi O1 A C hs t=>by
        obtain⟨Oc,rfl,hn,h1,h2,h3⟩:=hs
        exact⟨Oc,rfl,hn,hI i _ A C h1 (upT t),kept t (.inr rfl) h2,kept t (.inl rfl) h3⟩)
      (λi O1 A C hs t=>by
        obtain⟨Oc,rfl,hn,c,h1,h2,h3⟩:=hs
        exact⟨Oc,rfl,hn,c,hIx c i _ A C h1 (upT t),kept t (.inr rfl) h2,kept t (.inl rfl) h3⟩)
      (λb hb=>by
        rw[hup] at hb
        rcases hb with h | h | h
        · have:=hO b h;omega
        · omega
        · omega)
      ?_ ⟨O,rfl,⟨λh=>by have:=hO _ h;omega,λh=>by have:=hO _ h;omega⟩,vI,vl,vd⟩).mono ?_
    · rintro i x O1 W hx ⟨Oc,rfl,hn,hi,hl,hd⟩ hVW
      have hlt:B+1<W.heap.size:=(Array.getElem?_eq_some_iff.1 hl).1
      have hy:=run_yield (P:=P) (args:=encs x) hl (by rw[hrec];exact hps x)
      rw[hrec] at hy
      have hra:=hround (B+1) i x Oc W hx Om hi
      refine⟨fn,_,assign,body,hy,roundIn_of_wpIn hfn (wpIn_mono hra ?_)⟩
      intro e0 a0 Wa hpa
      cases e0 with
      | normal=>?_
      | ret=>exact hpa.elim
      | exit id=>exact hpa.elim
      | goto t=>exact hpa.elim
      | panic ch=>exact hpa.elim
      | outgrown=>exact hpa.elim
      obtain⟨Oa,hga,hbody⟩:=hpa
      have was:=hga.size
      have hlW:=hl
      have hdW:=hd
      have hnW:=hn
      have hltW:=hlt
      have gW:gS K (up Oc) (up Oa) W Wa:=by
        refine⟨hga.size,?_,?_,λb hb h=>hga.keep b hb (h.imp (λh e=>h (by rw[hup];exact .inl e)) id)⟩
        · intro b hb h
          rw[hup] at h⊢
          exact h.elim (λh=> .inl (hga.old b hb h)) .inr
        · intro b h
          rw[hup] at h
          rcases h with h | h | h
          · exact hga.new b h
          · omega
          · omega
      have hl:=(hga.keep (B+1) hlt (.inl hn.2)).trans hlW
      have hd:=(hga.keep B Om (.inl hn.1)).trans hdW
      have hn: ¬Oa B∧¬Oa (B+1):=⟨λh=>hnW.1 (hga.old _ Om h),λh=>hnW.2 (hga.old _ hlt h)⟩
      have hlt:B+1<Wa.heap.size:=(Array.getElem?_eq_some_iff.1 hl).1
      refine⟨_,run_beginRound hl (by rw[hrec]),?_⟩
      obtain⟨U,hU⟩: ∃U,Wa.putObj (B+1) (.loop {rec .ready none with state:= .busy})=U:=⟨_,rfl⟩
      have ul:U.heap[B+1]? =some (.loop {rec .ready none with state:= .busy}):=by rw[←hU];exact X5 hlt
      have ud:U.heap[B]? =some (.deferred (some [])):=by rw[←hU];exact(W7 Om).trans hd
      have us:U.heap.size=Wa.heap.size:=by rw[←hU];simp [X6]
      have uo: ∀b,b≠B+1→U.heap[b]? =Wa.heap[b]? :=λb hb=>by rw[←hU];exact W7 hb
      have uT:eQ (λb=>¬Oa b) Wa U:=by rw[←hU];exact eQ.putObj Wa hn.2 _
      rw[hU]
      refine wpIn_mono (hbody U uT us) ?_
      have fin: ∀(jump:Option Code) (O2:Nat→Prop) (W3:World),gS K Oa O2 U W3→
          (Instr.endRound (B+1) jump).run P W3= .ok (.bool jump.isNone) (W3.putObj (B+1) (.loop (rec (if jump.isNone then .ready else .done) jump)))∧
          (W3.putObj (B+1) (.loop (rec (if jump.isNone then .ready else .done) jump))).heap[B+1]? =some (.loop (rec (if jump.isNone then .ready else .done) jump))∧
          (W3.putObj (B+1) (.loop (rec (if jump.isNone then .ready else .done) jump))).heap[B]? =some (.deferred (some []))∧
          (¬O2 B∧¬O2 (B+1))∧gS K (up Oa) (up O2) Wa (W3.putObj (B+1) (.loop (rec (if jump.isNone then .ready else .done) jump))):=λjump O2 W3 hk=>by
        have l3:W3.heap[B+1]? =some (.loop {rec .ready none with state:= .busy}):=(hk.keep (B+1) Om (.inl hn.2)).trans ul
        have d3:W3.heap[B]? =some (.deferred (some [])):=(hk.keep B Om (.inl hn.1)).trans ud
        have n3: ¬O2 B∧¬O2 (B+1):=⟨λh=>hn.1 (hk.old _ Om h),λh=>hn.2 (hk.old _ Om h)⟩
        have hr:=run_endRound (P:=P) jump l3
        rw[hrec] at hr⊢
        rw[hrec] at l3
        have hsz: ∀o,(W3.putObj (B+1) o).heap.size=W3.heap.size:=λo=>by simp [X6]
        have hks:=hk.size
        refine⟨hr,X5 (Array.getElem?_eq_some_iff.1 l3).1,(W7 Om).trans d3,n3,⟨by rw[hsz];omega,?_,?_,?_⟩⟩
        · intro b hb h
          rw[hup] at h⊢
          exact h.elim (λh=> .inl (hk.old b Om h)) .inr
        · intro b h
          rw[hup] at h
          rw[hsz]
          rcases h with h | h | h
          · exact hk.new b h
          · omega
          · omega
        · intro b hb h
          have hne:b≠B+1:=by
            rintro rfl
            rcases h with h | h
            · exact h (by rw[hup];exact .inr (.inr rfl))
            · have:=hKl _ h;omega
          refine(W7 hne).trans ((hk.keep b Om ?_).trans (uo b hne))
          rcases h with h | h
          · exact .inl λe=>h (by rw[hup];exact .inl e)
          · exact .inr h
      have jumps: ∀(c:Code) (O2:Nat→Prop) (W3:World),gS K Oa O2 U W3→Ix c (i+1) O2 W3→∃v w',(Instr.endRound (B+1) (some c)).run P W3= .ok v w'∧∃O',gS K (up Oc) O' W w'∧
          ((Ending.returned v= .returned (.bool true)∧∃Oc',O'=up Oc'∧(¬Oc' B∧¬Oc' (B+1))∧I (i+1) Oc' w'∧w'.heap[B+1]? =some (.loop (rec .ready none))∧w'.heap[B]? =some (.deferred (some [])))∨
           (Ending.returned v= .returned (.bool false)∧∃Oc',O'=up Oc'∧(¬Oc' B∧¬Oc' (B+1))∧∃c,Ix c (i+1) Oc' w'∧w'.heap[B+1]? =some (.loop (rec .done (some c)))∧w'.heap[B]? =some (.deferred (some [])))):=λc O2 W3 hk hc=>by
        obtain⟨hr,l4,d4,n3,hg⟩:=fin (some c) O2 W3 hk
        exact⟨_,_,hr,up O2,gW.trans hg,.inr ⟨rfl,O2,rfl,n3,c,hIx c _ _ _ _ hc (eQ.putObj W3 n3.2 _),l4,d4⟩⟩
      rintro e a3 W3 hp
      cases e with
      | normal=>
        obtain⟨O2,hk,hi3⟩:=hp
        obtain⟨hr,l4,d4,n3,hg⟩:=fin none O2 W3 hk
        exact⟨_,_,hr,up O2,gW.trans hg,.inl ⟨rfl,O2,rfl,n3,hI _ _ _ _ hi3 (eQ.putObj W3 n3.2 _),l4,d4⟩⟩
      | ret=>obtain⟨O2,hk,hi3⟩:=hp;exact jumps _ O2 W3 hk hi3
      | exit id=>obtain⟨O2,hk,hi3⟩:=hp;exact jumps _ O2 W3 hk hi3
      | goto t=>obtain⟨O2,hk,hi3⟩:=hp;exact jumps _ O2 W3 hk hi3
      | panic ch=>exact hp.elim
      | outgrown=>exact hp.elim
    · rintro e W2 ⟨⟨v,rfl⟩,(⟨O',Oc,rfl,hn,hi,hl,hd⟩ | ⟨i,hlen,O',Oc,rfl,hn,c,hi,hl,hd⟩)⟩
      · exact⟨none,_,by have:=run_endLoop (P:=P) hl (by rw[hrec];simp);rw[hrec] at this;exact this,hdone _ _ _ Om hn.1 (hI _ _ _ _ hi (eQ.putObj W2 hn.2 _)) ((W7 Om).trans hd)⟩
      · exact⟨some c,_,by have:=run_endLoop (P:=P) hl (by rw[hrec];simp);rw[hrec] at this;exact this,hstop _ c i _ _ Om hn.1 hlen (hIx c _ _ _ _ hi (eQ.putObj W2 hn.2 _)) ((W7 Om).trans hd)⟩
end
section
open Go Go.RowKit Go.Shelf
def pB(a:List Nat)(W1:World)(Rel:aj→Prop)(W':World):Prop:=∃L',aE a W1 L' W'∧Rel L'
def lJ(a:List Nat)(W1:World)(Rel:aj→Prop)(b:Code→aj→Prop):Exit→Act→World→Prop
 | .normal,_,W'=>pB a W1 Rel W'
 | .ret,_,W'=>pB a W1 (b .ret) W'
 | .exit c,_,W'=>pB a W1 (b (.exit c)) W'
 | .goto t,_,W'=>pB a W1 (b (.goto t)) W'
 | .panic _,_,_=>False
 | .outgrown,_,_=>False
def oF(U:Nat→Prop)(bs:ay)(b:Nat):Prop:=U b∨∃x∈bs,x.1=b
def oG(U:Nat→Prop)(m:Nat)(R:List Nat)(base:World)(Rel:Nat→aj→Prop)(i:Nat)(O:Nat→Prop)(W:World):Prop:=
 ∃L a,Rel i L∧bt L a∧O=oF U a.flatten∧cx R base a.flatten W∧m≤W.heap.size∧∀x∈a.flatten,¬U x.1
def iX(KO:ay)(L:aj):Prop:=∀x∈KO,∃a,aA.c a∈L∧x∈a
theorem iX.mem{KO:ay}{L:aj}{cs:List ay}(h:iX KO L)(hs:bt L cs): ∀x∈KO,x∈cs.flatten:=by
 intro x l;obtain⟨a,k,f⟩:=h x l;obtain⟨i,b,e⟩:=W9 k;have d:cs.getD i []=a:=mj hs (i:=i) (x:= .c a) (by rw[WM b,e]);have g:i<cs.length:=by rw[←iW hs];exact b
 exact List.mem_flatten.2 ⟨_,m3 g,by rw[d];exact f⟩
section
variable {U:Nat→Prop} {m:Nat} {R:List Nat} {base:World} {Rel:Nat→aj→Prop}
theorem oG.stay(g: ∀b,b<base.heap.size→b∉R→U b):gH (oG U m R base Rel):=by
 rintro i O W W' ⟨L,a,c,l,rfl,d,e,f⟩ t;exact⟨L,a,c,l,rfl,d.turn t (λx n=> .inr ⟨x,n,rfl⟩) (λb h k=> .inl (g b h k)),Xd e t.size,f⟩
theorem AJ{K:Nat→Prop}{bs bs':ay}{W1 W':World}(h1:cx (bN bs) W1 bs' W')(o:cx R base bs W1)(p:m≤W1.heap.size)(k: ∀b,U b→b<m)(q: ∀x∈bs,¬U x.1)
  (n: ∀b,K b→b<W1.heap.size→W'.heap[b]? =W1.heap[b]?):gS K (oF U bs) (oF U bs') W1 W'∧cx R base bs' W'∧m≤W'.heap.size∧∀x∈bs',¬U x.1:=by
 have i: ∀b,U b→b∉bN bs:=λb i a=>by
  obtain⟨y,c,e⟩:=List.mem_map.1 a;exact q y c (by rw[e];exact i)
 refine⟨⟨h1.size,?_,?_,?_⟩,o.join h1,Xd p h1.size,λx a l=>?_⟩
 ·rintro b i (h | ⟨y,c,rfl⟩)
  ·exact .inl h
  ·rcases h1.lo y c with d | d
   ·obtain⟨x,a,e⟩:=List.mem_map.1 d;exact .inr ⟨x,a,e⟩
   ·omega
 ·rintro b (h | ⟨y,c,rfl⟩)
  ·have:=k b h;have:=h1.size;omega
  ·exact h1.lt c
 ·intro b g f;rcases f with f | f
  ·refine h1.far b g λa=>?_;obtain⟨y,c,e⟩:=List.mem_map.1 a;exact f (.inr ⟨y,c,e⟩)
  ·exact n b f g
 ·rcases h1.lo x a with d | d
  ·exact i x.1 l d
  ·have:=k _ l;omega
theorem pB.grow{KO:ay}{i:Nat}{L:aj}{cs:List ay}{W1 W':World}(h:pB (bN cs.flatten) W1 (Rel i) W')(hs:bt L cs)(e:cx R base cs.flatten W1)(t:m≤W1.heap.size)(s: ∀b,U b→b<m)(u: ∀x∈cs.flatten,¬U x.1)
  (q:iX KO L) (r: ∀L',Rel i L'→iX KO L'): ∃c,gS (λb=>∃x∈KO,x.1=b) (oF U cs.flatten) c W1 W'∧oG U m R base Rel i c W':=by
 obtain⟨L',a,d⟩:=h;obtain⟨l,f,a⟩:=a.conc;obtain⟨g,n,o,p⟩:=AJ (K:=λb=>∃x∈KO,x.1=b) a e t s u (by
  rintro b ⟨x,k,rfl⟩ _;exact(a.obj x ((r L' d).mem f x k)).trans (e.obj x (q.mem hs x k)).symm)
 exact⟨_,g,L',l,d,f,rfl,n,o,p⟩
end
def e4{α:Type}(n:Nat)(P:Program)(a:Nat)(c:Array Value)(encs:α→Array Value)(xs:List α)(KO:ay):Prop:=
 oE Fence.wide n P a c encs xs (λb=>∃x∈KO,x.1=b) (λ_=>Has KO)
def pC{α:Type}(n:Nat)(P:Program)(a:Nat)(c:Array Value)(encs:α→Array Value)(xs:List α)(KO XO:ay):Prop:=
 oE Fence.wide n P a c encs xs (λb=>∃x∈KO,x.1=b) (λO W=>Has (KO++XO) W∧∀x∈XO,¬O x.1)
def ia(t:Array Value)(a:Array Tmp)(vs:Array Value):Array Value:=(a.zip vs).foldl (λt (p,v)=>t.setIfInBounds p v) t
theorem AK{α:Type}{n:Nat}{P:Program}{g:Operand}{ps:Array Tmp}{q M:Code}{Q:Exit→Act→World→Prop}{a:Act}{W:World}
  (h1:1≤n) {gf:Nat} {lb:Array Value} (hg:a.eval g= .func (.func gf) #[] lb) (eg: ∀args w,(callFunc gf args).run P w= .ok (.enter gf args) w)
  {encs:α→Array Value} {xs:List α} {KO XO:ay} (hit:pC (n-1) P gf lb encs xs KO XO)
  {R:List Nat} {base:World} (Rel:Nat→aj→Prop) (T:Code→Nat→aj→Prop) {L0:aj} (OW:Hid (aE R base (L0++[.c XO]) W)) (h0:Rel 0 L0)
  (V: ∀i L,Rel i L→iX KO L) (X: ∀c i L,T c i L→iX KO L) (hnd:(KO++XO).Pairwise λx y=>x.1≠y.1) (hps: ∀x,(encs x).size=ps.size)
  (r: ∀(l i:Nat) (x:α) (L:aj) (R1:List Nat) (W:World),xs[i]? =some x→Rel i L→Hid (aE R1 W L W)→
   q.wpIn (Fence.wide.inRound l) (n-1-1) P (Exit.then (λa' Wa=>∃La,aE R1 W La Wa∧iX KO La∧∀R2 W1,Hid (aE R2 W1 La W1)→
    M.wpIn (Fence.wide.inRound l) (n-1-1) P (lJ R2 W1 (Rel (i+1)) (λc=>T c (i+1))) a' W1) (λ_ _ _=>False)) {tmps:=ia a.tmps ps (encs x),defers:=[]} W)
  (hdone: ∀(D:Nat) (L:aj) (k:World),Rel xs.length L→Hid (aE R base (L++[mk D]) k)→Q .normal {a with defers:=jU D::a.defers} k)
  (hstop: ∀(D:Nat) (c:Code) (i:Nat) (L:aj) (k:World),i<xs.length→T c (i+1) L→Hid (aE R base (L++[mk D]) k)→c.wpIn Fence.wide n P Q {a with defers:=jU D::a.defers} k):
  (Code.rangeFunc g ps q M).wpIn Fence.wide n P Q a W:=by
 unfold ia at r;obtain⟨c9,hs9,p⟩:=OW.out.conc;obtain⟨O,c1,rfl,hs0,hs1⟩:=nR hs9;have e1:c1.flatten=XO:=by
  match c1,hs1 with
  | [d],h=>have h1:d=XO:=h.1;simpa using h1
  | d::_::_,h=>exact h.2.elim
 rw[Xc,e1] at p;have s:cx R base O.flatten W:=p.sub (X4 _ _);have hXn: ∀x∈O.flatten,∀y∈XO,x.1≠y.1:=(List.pairwise_append.1 p.nd).2.2;obtain⟨m,hm⟩: ∃m,W.heap.size=m:=⟨_,rfl⟩;obtain⟨U,G⟩: ∃U:Nat→Prop,U=λb=>b<m∧b∉bN O.flatten∧b∉bN XO:=⟨_,rfl⟩;have hU: ∀b,U b→b<m:=λb h=>by rw[G] at h;exact h.1
 have Z: ∀b,b<base.heap.size→b∉R→U b:=λb hb A=>by
  rw[G];refine⟨by have:=s.size;omega,λf=>?_,λf=>?_⟩
  ·obtain⟨y,hy,e⟩:=List.mem_map.1 f;rcases s.lo y hy with h | h
   ·exact A (by rw[←e];exact h)
   ·omega
  ·obtain⟨y,hy,e⟩:=List.mem_map.1 f;rcases p.lo y (WS _ hy) with h | h
   ·exact A (by rw[←e];exact h)
   ·omega
 have hn0: ∀x∈O.flatten,¬U x.1:=λx f h=>by rw[G] at h;exact h.2.1 (Xv f)
 have hset: ∀b,oF U O.flatten b→b<m:=λb h=>by
  rcases h with h | ⟨x,f,rfl⟩
  ·exact hU b h
  ·have:=s.lt f;omega
 have fin: ∀(D:Nat) (B:Nat→Prop) (L:aj) (cs:List ay) (k:World),W.heap.size≤D→¬B D→B=oF U cs.flatten→bt L cs→cx R base cs.flatten k→k.heap[D]? =some (.deferred (some []))→aE R base (L++[mk D]) k:=by
  rintro D B L cs k hD A rfl hs h hd;refine aE.ofS (cs:=cs++[[dR D]]) (ko hs ⟨rfl,trivial⟩) ?_;rw[Xc];show cx R base (cs.flatten++[dR D]) k;refine⟨?_,?_,?_,h.os,h.tape,h.output,h.size,h.far⟩
  ·intro x f;rcases List.mem_append.1 f with f | f
   ·exact h.obj x f
   ·obtain rfl:=List.mem_singleton.1 f;exact hd
  ·refine List.pairwise_append.2 ⟨h.nd,Xu _ _,λx f y hy e=>?_⟩;obtain rfl:=List.mem_singleton.1 hy;exact A (.inr ⟨x,f,e⟩)
  ·intro x f;rcases List.mem_append.1 f with f | f
   ·exact h.lo x f
   ·obtain rfl:=List.mem_singleton.1 f;exact .inr (Xd s.size hD)
 have hK0:=(V 0 L0 h0).mem hs0;refine AH (n:=n) (F:=Fence.wide) rfl h1 hg trivial eg hit (oF U O.flatten) (λW' hW' B o=>?_) (λb hb=>by have:=hset b hb;omega) (λb hb=>?_) hps (oG U m R base Rel) (λc=>oG U m R base (T c)) (oG.stay Z) (λc=>oG.stay Z) ⟨L0,O,h0,hs0,rfl,s,by omega,hn0⟩ ?_ ?_ ?_
 ·refine⟨⟨λx f=>?_,hnd⟩,λx f h=>?_⟩
  ·have hm':x∈O.flatten++XO:=(List.mem_append.1 f).elim (λh=>WR _ (hK0 x h)) (WS _);exact(hW' x.1 (p.lt hm')).trans (p.obj x hm')
  ·rcases o x.1 (p.lt (WS _ f)) h with h | ⟨y,hy,e⟩
   ·rw[G] at h;exact h.2.2 (Xv f)
   ·exact hXn y hy x f e
 ·obtain⟨x,f,rfl⟩:=hb;exact s.lt (hK0 x f)
 ·rintro l i x B W0 f hs ⟨Ls0,cs0,hr,S,rfl,Y,hm0,hn1⟩;refine wpIn_mono (r l i x Ls0 (bN cs0.flatten) W0 f hr (Lib.hid (aE.ofS S Y.anew))) ?_;intro e0 a' Wa u;cases e0 with
  | normal=>?_
  | ret=>exact u.elim
  | exit id=>exact u.elim
  | goto t=>exact u.elim
  | panic ch=>exact u.elim
  | outgrown=>exact u.elim
  obtain⟨La,C,z,hbody⟩:=u;obtain⟨ca,v,C⟩:=C.conc;obtain⟨ga,hOW,hm1,I⟩:=AJ (K:=λb=>∃x∈KO,x.1=b) C Y hm0 hU hn1 (by
   rintro b ⟨x,f,rfl⟩ _;exact(C.obj x (z.mem v x f)).trans (Y.obj x ((V _ _ hr).mem S x f)).symm)
  refine⟨_,ga,?_⟩;intro W1 tW sW;have o:cx R base ca.flatten W1:=hOW.turn tW (λx f=> .inr ⟨x,f,rfl⟩) (λb hb A=> .inl (Z b hb A));have H:m≤W1.heap.size:=by omega
  refine wpIn_mono (hbody (bN ca.flatten) W1 (Lib.hid (aE.ofS v o.anew))) ?_;intro e a' W' h;cases e with
  | normal=>exact h.grow v o H hU I z (V (i+1))
  | ret=>exact h.grow (Rel:=T .ret) v o H hU I z (X .ret (i+1))
  | exit id=>exact h.grow (Rel:=T (.exit id)) v o H hU I z (X (.exit id) (i+1))
  | goto t=>exact h.grow (Rel:=T (.goto t)) v o H hU I z (X (.goto t) (i+1))
  | panic c=>exact h.elim
  | outgrown=>exact h.elim
 ·rintro D B k hD A ⟨L,cs,hr,hs,he,Y,hm1,hn1⟩ hd;exact hdone D L k hr (Lib.hid (fin D B L cs k hD A he hs Y hd))
 ·rintro D c i B k hD A hi ⟨L,cs,hr,hs,he,Y,hm1,hn1⟩ hd;exact hstop D c i L k hi hr (Lib.hid (fin D B L cs k hD A he hs Y hd))
theorem HL{α:Type}{n:Nat}{P:Program}{g:Operand}{z:Array Tmp}{b e:Code}{Q:Exit→Act→World→Prop}{a:Act}{W:World}
  (h1:1≤n) {p:Nat} {F:Array Value} (V:a.eval g= .func (.func p) #[] F) (S: ∀args w,(callFunc p args).run P w= .ok (.enter p args) w)
  {encs:α→Array Value} {xs:List α} {KO:ay} (hit:e4 (n-1) P p F encs xs KO)
  {R:List Nat} {base:World} (Rel:Nat→aj→Prop) (o:Code→Nat→aj→Prop) {A:aj} (H:Hid (aE R base A W)) (h0:Rel 0 A)
  (r: ∀i L,Rel i L→iX KO L) (s: ∀c i L,o c i L→iX KO L) (u:KO.Pairwise λx y=>x.1≠y.1) (v: ∀x,(encs x).size=z.size)
  (d: ∀(l i:Nat) (x:α) (L:aj) (B:List Nat) (W:World),xs[i]? =some x→Rel i L→Hid (aE B W L W)→
   b.wpIn (Fence.wide.inRound l) (n-1-1) P (Exit.then (λM I=>∃q,aE B W q I∧iX KO q∧∀C W1,Hid (aE C W1 q W1)→
    e.wpIn (Fence.wide.inRound l) (n-1-1) P (lJ C W1 (Rel (i+1)) (λc=>o c (i+1))) M W1) (λ_ _ _=>False)) {tmps:=ia a.tmps z (encs x),defers:=[]} W)
  (f: ∀(D:Nat) (L:aj) (k:World),Rel xs.length L→Hid (aE R base (L++[mk D]) k)→Q .normal {a with defers:=jU D::a.defers} k)
  (h: ∀(D:Nat) (c:Code) (i:Nat) (L:aj) (k:World),i<xs.length→o c (i+1) L→Hid (aE R base (L++[mk D]) k)→c.wpIn Fence.wide n P Q {a with defers:=jU D::a.defers} k):
  (Code.rangeFunc g z b e).wpIn Fence.wide n P Q a W:=by
 refine AK (XO:=[]) h1 V S (λl J G W O t=>hit l J G W O (by simpa using t.1)) Rel o (Lib.hid ?_) h0 r s (by simpa using u) v d f h;obtain⟨cs,X,T⟩:=H.out.conc;exact aE.ofS (cs:=cs++[[]]) (ko X ⟨rfl,trivial⟩) (by simpa using T)
structure fI (J:Nat→(Nat→Prop)→World→Prop) (K:ay) (W0:World) (L:ay) (j:Nat) (wr:World):Prop where
 ex: ∃O,J j O wr∧(∀x∈L,¬O x.1)∧∀b,O b→b<wr.heap.size
 sz:W0.heap.size≤wr.heap.size
 has:Has (K++L) wr
section
variable {J:Nat→(Nat→Prop)→World→Prop} {K:ay} {W0 wr W':World} {L L':ay} {j:Nat}
theorem fI.step(p:gH J)(h:fI J K W0 L j wr)(a:cx ((K++L).map (·.1)) wr (K++L') W'):fI J K W0 L' j W':=by
 obtain⟨O,o,k,l⟩:=h.ex;have t:eQ (λb=>¬O b) wr W':=⟨a.os,a.tape,a.output,a.size,λb g q=>by
  have i:O b:=Classical.not_not.1 q;by_cases f:b∈(K++L).map (·.1)
  ·obtain⟨y,c,e⟩:=List.mem_map.1 f;rcases List.mem_append.1 c with c | c
   ·rw[←e];exact(a.obj y (WR _ c)).trans (h.has.obj y (WR _ c)).symm
   ·exact absurd i (by rw[←e];exact k y c)
  ·exact a.far b g f⟩
 refine⟨⟨O,p j O wr W' o t,λx f d=>?_,λb g=>Xq (l b g) a.size⟩,Xd h.sz a.size,a.obj,a.nd⟩;rcases a.lo x (WS _ f) with n | n
 ·obtain⟨y,c,e⟩:=List.mem_map.1 n;rcases List.mem_append.1 c with c | c
  ·exact(List.pairwise_append.1 a.nd).2.2 y c x f e
  ·exact k y c (by rw[e];exact d)
 ·have:=l _ d;omega
theorem fI.stepE{A:aj}{LE:aj}(f:gH J)(h:fI J K W0 L j wr)(g: ∀ds,bt A ds→ds.flatten=K)(a:aE ((K++L).map (·.1)) wr (A++LE) W'): ∃ds,bt LE ds∧fI J K W0 ds.flatten j W':=by
 obtain⟨k,i,a⟩:=a.conc;obtain⟨b,c,rfl,d,e⟩:=nR i;rw[Xc,g b d] at a;exact⟨c,e,h.step f a⟩
end
theorem HN{α:Type}{n:Nat}{P:Program}{s:Nat}{y:Array Value}{encs:α→Array Value}{xs:List α}{KO:ay}
  (h: ∀(l:Nat) (J o:Nat→(Nat→Prop)→World→Prop) (W:World),gH J→
   Hid (∀(L:ay) (j:Nat) (x:α) (wr:World),xs[j]? =some x→fI J KO W L j wr→YieldAt Fence.wide (n-1) P l (encs x) wr λe W'=>(e= .returned (.bool true)∧fI J KO W L (j+1) W')∨(e= .returned (.bool false)∧∃g,o (j+1) g W'))→
   Hid (fI J KO W [] 0 W)→CallsIn Fence.wide n P s (#[.func (.yield l) #[] #[]]++y) W λe W'=>(∃v,e= .returned v)∧((∃L,fI J KO W L xs.length W')∨∃i,i<xs.length∧∃g,o (i+1) g W')):
  e4 n P s y encs xs KO:=by
 intro l J o W O q C D G H z;refine(h l J o W C (Lib.hid ?_) (Lib.hid ⟨⟨O,z,λ_ h=>by simp at h,G⟩,WU _,by simpa using q⟩)).mono ?_
 ·intro L j x wr c d;obtain⟨p,A,t,I⟩:=d.ex;refine(H j x p wr c A d.sz).mono ?_;rintro e W' ⟨g,k,a | a⟩
  ·refine .inl ⟨a.1,⟨g,a.2,λx c r=>?_,k.new⟩,Xd d.sz k.size,⟨λx c=>?_,d.has.nd⟩⟩
   ·have b:x.1<wr.heap.size:=(Array.getElem?_eq_some_iff.1 (d.has.obj x (WS _ c))).1;exact t x c (k.old _ b r)
   ·have b:x.1<wr.heap.size:=(Array.getElem?_eq_some_iff.1 (d.has.obj x c)).1;rcases List.mem_append.1 c with f | f
    ·exact(k.keep _ b (.inr ⟨x,f,rfl⟩)).trans (d.has.obj x c)
    ·exact(k.keep _ b (.inl (t x f))).trans (d.has.obj x c)
  ·exact .inr ⟨a.1,g,a.2⟩
 ·rintro e W' ⟨u,a | a⟩
  ·refine⟨u,.inl ?_⟩;obtain⟨L,F⟩:=a;obtain⟨p,B,_⟩:=F.ex;exact⟨p,B⟩
  ·exact⟨u,.inr a⟩
theorem HO{α:Type}{n:Nat}{P:Program}{s:Nat}{y:Array Value}{encs:α→Array Value}{xs:List α}{KO XO:ay}
  (h: ∀(l:Nat) (J p:Nat→(Nat→Prop)→World→Prop) (W:World),gH J→
   Hid (∀(L:ay) (j:Nat) (x:α) (wr:World),xs[j]? =some x→fI J KO W L j wr→YieldAt Fence.wide (n-1) P l (encs x) wr λe W'=>(e= .returned (.bool true)∧fI J KO W L (j+1) W')∨(e= .returned (.bool false)∧∃g,p (j+1) g W'))→
   Hid (fI J KO W XO 0 W)→CallsIn Fence.wide n P s (#[.func (.yield l) #[] #[]]++y) W λe W'=>(∃v,e= .returned v)∧((∃L,fI J KO W L xs.length W')∨∃i,i<xs.length∧∃g,p (i+1) g W')):
  pC n P s y encs xs KO XO:=by
 intro l J p W O k C D G H z;refine(h l J p W C (Lib.hid ?_) (Lib.hid ⟨⟨O,z,k.2,G⟩,WU _,k.1⟩)).mono ?_
 ·intro L j x wr c d;obtain⟨q,A,t,I⟩:=d.ex;refine(H j x q wr c A d.sz).mono ?_;rintro e W' ⟨g,o,a | a⟩
  ·refine .inl ⟨a.1,⟨g,a.2,λx c r=>?_,o.new⟩,Xd d.sz o.size,⟨λx c=>?_,d.has.nd⟩⟩
   ·have b:x.1<wr.heap.size:=(Array.getElem?_eq_some_iff.1 (d.has.obj x (WS _ c))).1;exact t x c (o.old _ b r)
   ·have b:x.1<wr.heap.size:=(Array.getElem?_eq_some_iff.1 (d.has.obj x c)).1;rcases List.mem_append.1 c with f | f
    ·exact(o.keep _ b (.inr ⟨x,f,rfl⟩)).trans (d.has.obj x c)
    ·exact(o.keep _ b (.inl (t x f))).trans (d.has.obj x c)
  ·exact .inr ⟨a.1,g,a.2⟩
 ·rintro e W' ⟨u,a | a⟩
  ·refine⟨u,.inl ?_⟩;obtain⟨L,F⟩:=a;obtain⟨q,B,_⟩:=F.ex;exact⟨q,B⟩
  ·exact⟨u,.inr a⟩
theorem lK{α:Type}{n i:Nat}{f:Nat→α}{x:α}(h:((Xk n).map f)[i]? =some x):i<n∧f i=x:=by
 rw[W8] at h;rcases XB i n with a | a
 ·rw[XZ a,WW,Option.some.injEq] at h;exact⟨a,h⟩
 ·rw[W4 (by rw[YF];exact a)] at h;cases h
theorem nS{α:Type}{n i:Nat}{f:Nat→α}(h:i<n):((Xk n).map f)[i]? =some (f i):=by rw[W8,XZ h];rfl
theorem tz{α:Type}(d:α){i:Nat}{xs:List α}{x:α}(h:xs[i]? =some x):i<xs.length∧xs.getD i d=x:=by
 obtain⟨a,rfl⟩:=List.getElem?_eq_some_iff.1 h;exact⟨a,by rw[WO,WM a];rfl⟩
end
section
open Go Go.RowKit Go.Shelf
def av(a:BinOp)(T:TypeId)(x y:Operand)(b c:Value):Sem Value:=do eqGuard a T x y b c;Go.binOp a T b c
section
variable {P:Program} {w:World}
theorem HP(a b:UInt8):bits .xor .u8 (a.toNat:Int) (b.toNat:Int)=((a^^^b).toNat:Int):=by
 have h:=a.toNat_lt;have j:=b.toNat_lt;have g: ∀c:Nat,c<256→(BitVec.ofInt 8 (c:Int)).toNat=c:=by
  intro c o;rw[BitVec.ofInt_natCast,BitVec.toNat_ofNat];exact XH Om
 have p:a.toNat^^^b.toNat<2^8:=YG h j;show IntKind.u8.wrap ((BitVec.ofInt 8 (a.toNat:Int)^^^BitVec.ofInt 8 (b.toNat:Int)).toNat:Int)=_;rw[BitVec.toNat_xor,g _ h,g _ j,UInt8.toNat_xor];exact IntWalk.u8_in _ Om
theorem lL{T:TypeId}{x y:Operand}(a b:UInt8):(av .xor T x y (.int .u8 (a.toNat:Int)) (.int .u8 (b.toNat:Int))).run P w= .ok (.int .u8 ((a^^^b).toNat:Int)) w:=by
 rw[←HP];rfl
end
section
variable {P:Program} {T:TypeId} {x y:Operand} {w:World}
theorem iD{yk:IntKind}{a:Int}(n:Nat)(b:n≤64):(av .shr T x y (.int .i64 a) (.int yk (n:Int))).run P w= .ok (.int .i64 (a/2^n)) w:=by
 unfold av;simp only[WK,eqGuard_shr,WQ,WJ,binOp_shr,shift_shr_i64 _ _ _ (X3 n) Om,Xm]
theorem tA{yk:IntKind}{a:Nat}(n:Nat)(b:n≤64):(av .shr T x y (.int .u64 (a:Int)) (.int yk (n:Int))).run P w= .ok (.int .u64 ((a/2^n:Nat):Int)) w:=by
 unfold av;simp only[WK,eqGuard_shr,WQ,WJ,binOp_shr,shift_shr_u64 _ _ _ (X3 n) Om,Xm];push_cast;rfl
theorem tB{yk:IntKind}{a:Nat}(n:Nat)(g:n≤64)(c:a*2^n<18446744073709551616):(av .shl T x y (.int .u64 (a:Int)) (.int yk (n:Int))).run P w= .ok (.int .u64 ((a*2^n:Nat):Int)) w:=by
 unfold av;have b:IntKind.u64.wrap ((a:Int)*2^n)=((a*2^n:Nat):Int):=by
  rw[show((a:Int)*2^n)=((a*2^n:Nat):Int) by push_cast;rfl,XC];omega
 simp only[WK,eqGuard_shl,WQ,WJ,binOp_shl,shift_shl_u64 _ _ _ (X3 n) Om,Xm,b]
theorem HQ(a b:Nat)(h:a<18446744073709551616)(j:b<18446744073709551616):bits .or .u64 (a:Int) (b:Int)=((a||| b:Nat):Int):=by
 have g: ∀c:Nat,c<18446744073709551616→(BitVec.ofInt 64 (c:Int)).toNat=c:=by
  intro c o;rw[BitVec.ofInt_natCast,BitVec.toNat_ofNat];exact XH Om
 have p:a||| b<2^64:=Nat.or_lt_two_pow h j;show IntKind.u64.wrap ((BitVec.ofInt 64 (a:Int)||| BitVec.ofInt 64 (b:Int)).toNat:Int)=_;rw[BitVec.toNat_or,g a h,g b j,XC];omega
theorem HR(a b:Nat)(h:a<18446744073709551616)(j:b<18446744073709551616):bits .xor .u64 (a:Int) (b:Int)=((a^^^b:Nat):Int):=by
 have g: ∀c:Nat,c<18446744073709551616→(BitVec.ofInt 64 (c:Int)).toNat=c:=by
  intro c o;rw[BitVec.ofInt_natCast,BitVec.toNat_ofNat];exact XH Om
 have p:a^^^b<2^64:=YG h j;show IntKind.u64.wrap ((BitVec.ofInt 64 (a:Int)^^^BitVec.ofInt 64 (b:Int)).toNat:Int)=_;rw[BitVec.toNat_xor,g a h,g b j,XC];omega
theorem HS(a b:UInt8):bits .and .u8 (a.toNat:Int) (b.toNat:Int)=((a&&& b).toNat:Int):=by
 have g: ∀c:Nat,c<256→(BitVec.ofInt 8 (c:Int)).toNat=c:=by
  intro c h;rw[BitVec.ofInt_natCast,BitVec.toNat_ofNat];exact XH Om
 show IntKind.u8.wrap ((BitVec.ofInt 8 (a.toNat:Int)&&& BitVec.ofInt 8 (b.toNat:Int)).toNat:Int)=_;rw[BitVec.toNat_and,g _ a.toNat_lt,g _ b.toNat_lt,←UInt8.toNat_and];exact IntWalk.u8_in _ (by have:=(a&&& b).toNat_lt;omega)
theorem HT(a b:UInt8):bits .or .u8 (a.toNat:Int) (b.toNat:Int)=((a||| b).toNat:Int):=by
 have g: ∀c:Nat,c<256→(BitVec.ofInt 8 (c:Int)).toNat=c:=by
  intro c h;rw[BitVec.ofInt_natCast,BitVec.toNat_ofNat];exact XH Om
 show IntKind.u8.wrap ((BitVec.ofInt 8 (a.toNat:Int)||| BitVec.ofInt 8 (b.toNat:Int)).toNat:Int)=_;rw[BitVec.toNat_or,g _ a.toNat_lt,g _ b.toNat_lt,←UInt8.toNat_or];exact IntWalk.u8_in _ (by have:=(a||| b).toNat_lt;omega)
theorem AN{a b:Nat}(c:a<18446744073709551616)(g:b<18446744073709551616):(av .or T x y (.int .u64 (a:Int)) (.int .u64 (b:Int))).run P w= .ok (.int .u64 ((a||| b:Nat):Int)) w:=by
 rw[←HQ a b c g];rfl
theorem HU{a b:Nat}(c:a<18446744073709551616)(g:b<18446744073709551616):(av .xor T x y (.int .u64 (a:Int)) (.int .u64 (b:Int))).run P w= .ok (.int .u64 ((a^^^b:Nat):Int)) w:=by
 rw[←HR a b c g];rfl
theorem wV(a b:UInt8):(av .and T x y (.int .u8 (a.toNat:Int)) (.int .u8 (b.toNat:Int))).run P w= .ok (.int .u8 ((a&&& b).toNat:Int)) w:=by
 rw[←HS a b];rfl
theorem HV(a b:UInt8):(av .or T x y (.int .u8 (a.toNat:Int)) (.int .u8 (b.toNat:Int))).run P w= .ok (.int .u8 ((a||| b).toNat:Int)) w:=by
 rw[←HT a b];rfl
theorem AO{S T:TypeId}(a:P.underlying S=some (.int .u8))(b:P.underlying T=some (.int .u64)){c:UInt8}:(convert S T (.int .u8 (c.toNat:Int))).run P w= .ok (.int .u64 (c.toNat:Int)) w:=by
 have h:IntKind.u64.wrap (c.toNat:Int)=(c.toNat:Int):=by rw[XC];have:=c.toNat_lt;omega
 simp only[convert,WK,run_underlying a,run_underlying b,WJ,Conv.intToInt,h,WQ]
theorem tC{S T:TypeId}(a:P.underlying S=some (.int .u64))(b:P.underlying T=some (.int .u8)){c:Nat}:(convert S T (.int .u64 (c:Int))).run P w= .ok (.int .u8 ((UInt8.ofNat c).toNat:Int)) w:=by
 have h:IntKind.u8.wrap (c:Int)=((UInt8.ofNat c).toNat:Int):=by rw[IntKind.wrap_u8,Yz];omega
 simp only[convert,WK,run_underlying a,run_underlying b,WJ,Conv.intToInt,h,WQ]
theorem m4{S T:TypeId}(a:P.underlying S=some (.int .i64))(b:P.underlying T=some (.int .u64)){c:Nat}(g:c<18446744073709551616):(convert S T (.int .i64 (c:Int))).run P w= .ok (.int .u64 (c:Int)) w:=by
 have h:IntKind.u64.wrap (c:Int)=(c:Int):=by rw[XC];omega
 simp only[convert,WK,run_underlying a,run_underlying b,WJ,Conv.intToInt,h,WQ]
end
def bF(cs z:List Value)(r:Nat):Array Value:=(cs++(Xe r z).flatten).toArray
theorem qJ(z:List Value)(r:Nat):((Xe r z).flatten).length=r*z.length:=by
 induction r with
 | zero=>simp
 | succ r ih=>rw[Yb,XS,WY,ih,Xj];omega
theorem tD(cs z:List Value)(r:Nat):(bF cs z r).size=cs.length+r*z.length:=by unfold bF;rw[W6,WY,qJ]
theorem wW(z:Array Value)(n:Nat)(g:0<z.size):(Builtin.zeroCells z n).toList=(Xe n z.toList).flatten:=by
 have h: ∀n,∀i,i<n*z.size→((Xe n z.toList).flatten)[i]? =z[i%z.size]? :=by
  intro n
  induction n with
  | zero=>intro i b;omega
  | succ n ih=>
   intro i b;rw[Yb,XS];by_cases a:i<z.size
   ·rw[List.getElem?_append_left (by simpa using a),XH a,Array.getElem?_toList]
   ·rw[List.getElem?_append_right (by simpa using a),Array.length_toList,ih (i-z.size) (by rw[Xj] at b;omega)]
    congr 1
    exact(Nat.mod_eq_sub_mod Om).symm
 apply Yh;intro i;rcases XB i (n*z.size) with a | a
 ·rw[h n i a];have c:i%z.size<z.size:=Nat.mod_lt _ g;unfold Builtin.zeroCells;simp [a,c]
 ·rw[W4 (by rw[Array.length_toList,size_zeroCells];exact a),W4 (by rw[qJ];simpa using a)]
def qK(T TY:TypeId)(v u:Value):Sem Next:=vS (Builtin.append_ #[T,T] TY #[v,u])
def HW(T U TY:TypeId)(v u:Value):Sem Next:=vS (Builtin.copy_ #[T,U] TY #[v,u])
theorem oH{w:World}{g off:Nat}{t:TypeId}{cs:Array Value}{b:Nat×Nat}{news:List Value}(o:w.heap[g]? =some (.cells cs t b))(q:(cs.toList.drop off).take news.length=news): ∀j u,news[j]? =some u→w.cell? ((⟨g,off,none⟩:Addr).add j)=some u:=by
 intro j u h;have a:(⟨g,off,none⟩:Addr).add j=⟨g,off+j,none⟩:=by unfold Addr.add;split<;>simp_all
 rw[a,cell_of_row w g (off+j) cs t b o];have p:j<news.length:=(List.getElem?_eq_some_iff.1 h).1;have c:=ALca (λz=>z[j]?) q;simp only[XI p,X2] at c;rw[←Array.getElem?_toList,c];exact h
section
variable {P:Program} {T e:TypeId} {i:TypeInfo} {zv:Value}
structure dX (P:Program) (T e:TypeId) (z:List Value):Prop where
 ht:P.underlying T=some (.slice e)
 hi: ∃i zv,P.info? e=some i∧i.zero=some zv∧i.size=z.length∧zv.cells.toList=z∧i.bytes≤1048576
 h0:0<z.length
theorem dX.mk'{z:List Value}(ht:P.underlying T=some (.slice e))(a:(P.info? e).map (λi=>(i.zero.map (λv=>v.cells.toList),i.size,Nat.ble i.bytes 1048576))=some (some z,z.length,true))(h0:X0 0 z.length=true):dX P T e z:=by
 refine⟨ht,?_,XY▸h0⟩;cases c:P.info? e with
 | none=>rw[c] at a;cases a
 | some i=>
  rw[c] at a;simp only[WW,Option.some.injEq,Prod.mk.injEq] at a;cases b:i.zero with
  | none=>rw[b] at a;simp at a
  | some zv=>
   rw[b] at a;exact⟨i,zv,rfl,b,a.2.1,by simpa using a.1,Yw a.2.2⟩
end
section
variable {P:Program} {T e:TypeId} {x y:Operand} {w:World}
theorem HX{a b:Nat}(h:a*b<9223372036854775808):(av .mul T x y (.int .i64 (a:Int)) (.int .i64 (b:Int))).run P w= .ok (.int .i64 ((a*b:Nat):Int)) w:=by
 have c:((a*b:Nat):Int)<9223372036854775808:=by omega
 have g:=X3 (a*b);have e:((a*b:Nat):Int)=(a:Int)*(b:Int):=by push_cast;rfl
 rw[e] at c g⊢;exact Hj (P:=P) (T:=T) (x:=x) (y:=y) (w:=w) (a:=(a:Int)) (b:=(b:Int)) Om Om
theorem HY{a b:Nat}(h:a+b<9223372036854775808):(av .add T x y (.int .i64 (a:Int)) (.int .i64 (b:Int))).run P w= .ok (.int .i64 ((a+b:Nat):Int)) w:=by
 have:=qx (P:=P) (T:=T) (x:=x) (y:=y) (w:=w) (a:=(a:Int)) (b:=(b:Int)) Om Om;rw[show((a+b:Nat):Int)=(a:Int)+(b:Int) by push_cast;rfl];exact this
theorem add_lit(g off m:Nat):(⟨g,off,none⟩:Addr).add m=⟨g,off+m,none⟩:=by unfold Addr.add;split<;>simp_all
def iY(P:Program)(e:TypeId):Option Nat:=(P.info? e).map (·.size)
theorem nT{s:Nat}(h:iY P e=some s):(sizeOf e).run P w= .ok s w:=by
 unfold iY at h;cases a:P.info? e with
 | none=>rw[a] at h;cases h
 | some i=>
  rw[a] at h;simp only[WW,Option.some.injEq] at h;simp [sizeOf,typeInfo,a,h]
theorem bT{g off n c k s:Nat}(a:(P.underlying T,iY P (P.elem T))=(some (.slice (P.elem T)),some s))(b:k<n):(Instr.indexAt T (.slice (some ⟨g,off,none⟩) n c) (.int .i64 (k:Int))).run P w= .ok (.pointer (some ⟨g,off+k*s,none⟩)) w:=by
 rw[run_indexAt_slice w T _ n c .i64 (k:Int) (ALca (·.1) a),ALifp Om,nT (ALca (·.2) a),WJ,Xm,add_lit]
theorem HZ{g l h s N:Nat}(b:(P.underlying T,P.arrayLen T,iY P (P.elem T))=(some (.array N (P.elem T)),N,some s))(h1:l≤h)(h2:h≤N)(c:l<N):(Instr.sliceAt T (.pointer (some ⟨g,0,none⟩)) (some (.int .i64 (l:Int))) (some (.int .i64 (h:Int))) none).run P w= .ok (.slice (some ⟨g,l*s,none⟩) (h-l) (N-l)) w:=by
 have a:P.arrayLen T=N:=ALca (·.2.1) b;rw[run_sliceAt_array_lh w T ⟨g,0,none⟩ (by rw[a];exact ALca (·.1) b) .i64 .i64 (l:Int) (h:Int) Om Om (by rw[a];omega),nT (ALca (·.2.2) b),WJ];unfold slicedAt;rw[a,Xm,Xm,add_lit,WX,ALifn Om]
theorem H0{g l s N:Nat}(b:(P.underlying T,P.arrayLen T,iY P (P.elem T))=(some (.array N (P.elem T)),N,some s))(c:l<N):(Instr.sliceAt T (.pointer (some ⟨g,0,none⟩)) (some (.int .i64 (l:Int))) none none).run P w= .ok (.slice (some ⟨g,l*s,none⟩) (N-l) (N-l)) w:=by
 have a:P.arrayLen T=N:=ALca (·.2.1) b;rw[run_sliceAt_array_l w T ⟨g,0,none⟩ (by rw[a];exact ALca (·.1) b) .i64 (l:Int) Om (by rw[a];omega),nT (ALca (·.2.2) b),WJ];unfold slicedAt;rw[a,Xm,add_lit,WX,ALifn Om]
theorem H2{g s N:Nat}(a:(P.underlying T,P.arrayLen T,iY P (P.elem T))=(some (.array N (P.elem T)),N,some s))(c:0<N):(Instr.sliceAt T (.pointer (some ⟨g,0,none⟩)) none none none).run P w= .ok (.slice (some ⟨g,0,none⟩) N N) w:=by
 have b:P.arrayLen T=N:=ALca (·.2.1) a;rw[run_sliceAt_array_all w T ⟨g,0,none⟩ (by rw[b];exact ALca (·.1) a),nT (ALca (·.2.2) a),WJ];unfold slicedAt;rw[b,add_lit,Yv,ALifn Om];rfl
end
def bV(xs:List UInt8):List Value:=xs.map λb=> .int .u8 (b.toNat:Int)
theorem H3{cs z:List Value}{r:Nat}:((bF cs z r).toList.drop 0).take cs.length=cs:=by unfold bF;rw[XE,WZ (WU _),Xw]
section
variable {P:Program} {f:FuncId} {args:Array Value} {w':World} {v:Value}
end
def jB(f:Nat→List Value):Nat→Nat→List Value
 | _,0=>[]
 | i,n+1=>f i++jB f (i+1) n
def cI{α:Type}(e:α→List Value)(d:α)(n:Nat)(xs:List α):List Value:=jB (λi=>e (xs.getD i d)) 0 n
def eB(b:UInt8):List Value:=[.int .u8 (b.toNat:Int)]
def eI(x:Int):List Value:=[.int .i64 x]
def eN(x:Nat):List Value:=[.int .i64 (x:Int)]
def eW(x:Nat):List Value:=[.int .u64 (x:Int)]
abbrev rB(n:Nat)(xs:List UInt8):List Value:=cI eB 0 n xs
abbrev rI(n:Nat)(xs:List Int):List Value:=cI eI 0 n xs
abbrev rN(n:Nat)(xs:List Nat):List Value:=cI eN 0 n xs
abbrev rW(n:Nat)(xs:List Nat):List Value:=cI eW 0 n xs
section
variable {α:Type} {e:α→List Value} {d:α} {n:Nat} {xs ys:List α}
theorem AP{f:Nat→List Value}{k:Nat}(h: ∀i,(f i).length=k): ∀n i,(jB f i n).length=n*k
 | 0,_=>by simp [jB]
 | n+1,i=>by rw[jB,WY,h,AP h n,Xj,X9]
theorem AQ{f:Nat→List Value}{k:Nat}(h: ∀i,(f i).length=k): ∀n i j,j<n→((jB f i n).drop (j*k)).take k=f (i+j)
 | 0,_,_,a=>by omega
 | n+1,i,0,_=>by rw[jB,Yv,XE,WZ (by rw[h];exact WU _),XR (by rw[h];exact WU _)];rfl
 | n+1,i,j+1,a=>by
  rw[jB,show(j+1)*k=k+j*k by rw[Xj,X9],←Xa,X8 (h i),AQ h n (i+1) j Om,show i+1+j=i+(j+1) by omega]
theorem oI{k:Nat}(h: ∀x,(e x).length=k):(cI e d n xs).length=n*k:=AP (λ_=>h _) _ _
theorem H4{k j:Nat}(h: ∀x,(e x).length=k)(a:j<n):((cI e d n xs).drop (j*k)).take k=e (xs.getD j d):=by
 unfold cI;rw[AQ (λ_=>h _) _ _ _ a,WX]
theorem qL{g:Nat→Value}: ∀n i j,j<n→(jB (λi=>[g i]) i n)[j]? =some (g (i+j))
 | 0,_,_,a=>by omega
 | n+1,i,0,_=>by rw[jB];rfl
 | n+1,i,j+1,a=>by
  rw[jB,List.singleton_append,XL,qL n (i+1) j Om,show i+1+j=i+(j+1) by omega]
theorem AR{g:Nat→Value}: ∀n i,jB (λi=>[g i]) i n=(Ym i n).map g
 | 0,_=>rfl
 | n+1,i=>by rw[jB,AR n,Yk,XN];rfl
theorem wX{g:α→Value}(h:xs.length=n):cI (λx=>[g x]) d n xs=xs.map g:=by
 unfold cI;rw[AR];apply Yh;intro i;rw[W8,W8];rcases XB i n with a | a
 ·rw[Yx a,WX,Nat.one_mul,WM Om,WW,WW,WO,WM Om];rfl
 ·rw[W4 (by rw[YD];exact a),W4 Om];rfl
theorem tE{g:α→Value}{j:Nat}{u:α}(h:xs.length=n):(cI (λx=>[g x]) d n xs).set j (g u)=cI (λx=>[g x]) d n (xs.set j u):=by
 rw[wX h,wX (by rw[XA];exact h),List.map_set]
end
theorem nU{n j:Nat}{xs:List UInt8}(h:j<n):((rB n xs).toArray)[j]? =some (.int .u8 ((xs.getD j 0).toNat:Int)):=by
 rw[Xz];exact(qL n 0 j h).trans (by rw[WX])
theorem H5{n j:Nat}{xs:List Nat}(h:j<n):((rW n xs).toArray)[j]? =some (.int .u64 ((xs.getD j 0:Nat):Int)):=by
 rw[Xz];exact(qL n 0 j h).trans (by rw[WX])
theorem qM{n j:Nat}{xs:List Nat}(h:j<n):((rN n xs).toArray)[j]? =some (.int .i64 ((xs.getD j 0:Nat):Int)):=by
 rw[Xz];exact(qL n 0 j h).trans (by rw[WX])
theorem H6{n j:Nat}{xs:List Int}(h:j<n):((rI n xs).toArray)[j]? =some (.int .i64 (xs.getD j 0)):=by
 rw[Xz];exact(qL n 0 j h).trans (by rw[WX])
theorem mn{n j:Nat}{xs:List UInt8}{u:UInt8}(h:xs.length=n):((rB n xs).toArray).setIfInBounds j (.int .u8 (u.toNat:Int))=(rB n (xs.set j u)).toArray:=by
 rw[Xo];exact ALca _ (tE (g:=λb:UInt8=>Value.int .u8 (b.toNat:Int)) h)
theorem H7{n j:Nat}{xs:List Nat}{u:Nat}(h:xs.length=n):((rW n xs).toArray).setIfInBounds j (.int .u64 (u:Int))=(rW n (xs.set j u)).toArray:=by
 rw[Xo];exact ALca _ (tE (g:=λb:Nat=>Value.int .u64 (b:Int)) h)
theorem H8{n j:Nat}{xs:List Nat}{u:Nat}(h:xs.length=n):((rN n xs).toArray).setIfInBounds j (.int .i64 (u:Int))=(rN n (xs.set j u)).toArray:=by
 rw[Xo];exact ALca _ (tE (g:=λb:Nat=>Value.int .i64 (b:Int)) h)
theorem AS{n j:Nat}{xs:List Int}{u:Int}(h:xs.length=n):((rI n xs).toArray).setIfInBounds j (.int .i64 u)=(rI n (xs.set j u)).toArray:=by
 rw[Xo];exact ALca _ (tE (g:=λb:Int=>Value.int .i64 b) h)
theorem wY{n:Nat}{xs:List UInt8}(h:xs.length=n):rB n xs=bV xs:=wX (g:=λb:UInt8=>Value.int .u8 (b.toNat:Int)) h
theorem H9{n:Nat}{xs:List UInt8}:(rB n xs).length=n:=(oI (k:=1) λ_=>rfl).trans (XJ _)
def qN:Value→Value→Bool
 | .int _ a,.int _ b=>a==b
 | .bool a,.bool b=>a==b
 | _,_=>false
def Wx:List Value→List Value→Bool
 | a::x,b::y=>qN a b&&Wx x y
 | _,_=>true
def oJ:Option IntKind→Value→Bool
 | none,.bool _=>true
 | some k,.int a _=>decide (k=a)
 | _,_=>false
def eA:List (Option IntKind)→List Value→Bool
 | [],[]=>true
 | k::ks,v::vs=>oJ k v&&eA ks vs
 | _,_=>false
def pD(P:Program)(c:TypeId→Option (List (Option IntKind))):List Field→Nat→Option (List (Option IntKind))
 | [],_=>some []
 | f::fs,b=>if f.name= "_" ∨f.offset≠b then none else
  match c f.type,(P.info? f.type).map (·.size) with
  | some a,some n=>if n=a.length then(pD P c fs (b+a.length)).map (a++ ·) else none
  | _,_=>none
def jC(P:Program):Nat→TypeId→Option (List (Option IntKind))
 | 0,_=>none
 | d+1,T=>match P.underlying T with
  | some .bool=>some [none]
  | some (.int k)=>some [some k]
  | some (.struct b)=>if P.stoodInHeld T then none else pD P (jC P d) b.toList 0
  | some (.array n e)=>match jC P d e,(P.info? e).map (·.size) with
   | some a,some m=>if m=a.length then some (Xe n a).flatten else none
   | _,_=>none
  | _=>none
theorem lM: ∀{a:List (Option IntKind)} {xs:List Value},eA a xs=true→xs.length=a.length
 | [],[],_=>rfl
 | _::a,_::xs,h=>by
  simp only[eA,WT] at h;rw[Xh,Xh,lM h.2]
 | [],_::_,h=>by simp [eA] at h
 | _::_,[],h=>by simp [eA] at h
theorem qO: ∀{a b:List (Option IntKind)} {xs:List Value},eA (a++b) xs=true→eA a (xs.take a.length)=true∧eA b (xs.drop a.length)=true
 | [],b,xs,h=>⟨by simp [eA],by simpa using h⟩
 | k::a,b,[],h=>by simp [eA] at h
 | k::a,b,x::xs,h=>by
  simp only[List.cons_append,eA,WT] at h;obtain⟨c,g⟩:=qO h.2;exact⟨by simp only[Xh,Yc,eA,WT];exact⟨h.1,c⟩,by simpa using g⟩
theorem tF: ∀(k:Nat) (xs ys:List Value),xs.length=ys.length→Wx xs ys=(Wx (xs.take k) (ys.take k)&&Wx (xs.drop k) (ys.drop k))
 | 0,xs,ys,_=>by simp [Wx]
 | k+1,[],[],_=>by simp [Wx]
 | k+1,x::xs,y::ys,h=>by
  simp only[Yc,YB,Wx];rw[tF k xs ys (by simpa using h),Bool.and_assoc]
 | k+1,[],_::_,h=>by simp at h
 | k+1,_::_,[],h=>by simp at h
theorem e6{a b c d:List Value}{E F:Bool}(g:a.length=c.length)(h:b.length=d.length)(h1:Wx a c=E)(h2:Wx b d=F):Wx (a++b) (c++d)=(E&&F):=by
 rw[tF a.length _ _ (by rw[WY,WY,g,h]),WZ (WU _),Xw,Xl (WU _),XV,Yn,g,WZ (WU _),Xw,Xl (WU _),XV,Yn,h1,h2]
theorem AT{α:Type}[DecidableEq α]{g:α→Value}(a: ∀x y,qN (g x) (g y)=decide (x=y)): ∀{xs ys:List α},xs.length=ys.length→Wx (xs.map g) (ys.map g)=decide (xs=ys)
 | [],[],_=>rfl
 | x::xs,y::ys,h=>by
  rw[XN,XN,Wx,a,AT a (by simpa using h)];simp [Bool.decide_and]
 | [],_::_,h=>by simp at h
 | _::_,[],h=>by simp at h
theorem Ia(x y:UInt8):qN (.int .u8 (x.toNat:Int)) (.int .u8 (y.toNat:Int))=decide (x=y):=by
 show((x.toNat:Int)==(y.toNat:Int))=_;rw[Bool.eq_iff_iff];simp only[beq_iff_eq,decide_eq_true_eq,Int.natCast_inj];exact UInt8.toNat_inj
theorem iZ{n:Nat}{xs ys:List UInt8}(a:xs.length=n)(b:ys.length=n):Wx (rB n xs) (rB n ys)=decide (xs=ys):=by
 rw[wY a,wY b];exact AT Ia (a.trans b.symm)
def lN(P:Program)(T:TypeId)(l:List Value):Value:=if dO P T then .agg l.toArray else l.headD undef
section
variable {P:Program}
theorem AU{T:TypeId}{t:TypeDesc}(h:P.underlying T=some t)(w:World):(isAgg T).run P w= .ok (dO P T) w:=by
 unfold dO;rw[h];cases t<;>simp [isAgg,run_underlying h,WK]
theorem qP{T:TypeId}{t:TypeDesc}{n off:Nat}{xs:Array Value}(h:P.underlying T=some t)(hs:(P.info? T).map (·.size)=some n)(j:dO P T=false→n=1)(p:off+n≤xs.size)(w:World):(part T xs off).run P w= .ok (lN P T ((xs.toList.drop off).take n)) w:=by
 obtain⟨i,g⟩: ∃i,P.info? T=some i:=by cases h:P.info? T<;>simp_all
 have o:i.size=n:=by simpa [g] using hs
 unfold lN;cases c:dO P T with
 | true=>
  have a:=AU h w;rw[c] at a;have e:xs.extract off (off+n)=((xs.toList.drop off).take n).toArray:=by
   apply Array.toList_inj.1;simp [Array.toList_extract,List.extract_eq_take_drop]
  simp [part,a,WK,sizeOf,typeInfo,g,o,e]
 | false=>
  have a:=AU h w;rw[c] at a;obtain rfl:=j c;have b:off<xs.size:=by omega
  have e:(xs.toList.drop off).take 1=[xs[off]]:=by
   rw[XD (by simpa using b)];simp
  rw[e];simp [part,a,WK,b]
theorem AV{d:Nat}{T:TypeId}{b:List (Option IntKind)}(h:jC P d T=some b):(∃t,P.underlying T=some t)∧(dO P T=false→b.length=1):=by
 cases d with
 | zero=>cases h
 | succ d=>
  unfold jC at h;unfold dO;cases a:P.underlying T with
  | none=>rw[a] at h;cases h
  | some t=>
   rw[a] at h;refine⟨⟨t,rfl⟩,?_⟩;cases t<;>simp_all<;>(try (subst h;rfl))
theorem tH: ∀(d:Nat) (T:TypeId) (H:List (Option IntKind)) (j:Nat) (xs ys:List Value) (w:World),jC P d T=some H→eA H xs=true→eA H ys=true→(Op.equalIn (d+j) T (lN P T xs) (lN P T ys)).run P w= .ok (Wx xs ys) w
 | 0,_,_,_,_,_,_,h,_,_=>by cases h
 | d+1,T,H,j,xs,ys,w,h,V,W=>by
  have Z:=lM V;have hly:=lM W;have O: ∀{k:Option IntKind},H=[k]→∃a b,xs=[a]∧ys=[b]∧oJ k a=true∧oJ k b=true:=by
   rintro k rfl
   match xs,ys,Z,hly with
   | [a],[b],_,_=>
    refine⟨a,b,rfl,rfl,?_,?_⟩
    ·simpa [eA] using V
    ·simpa [eA] using W
  rw[show d+1+j=d+j+1 by omega];unfold jC at h;cases q:P.underlying T with
  | none=>rw[q] at h;cases h
  | some t=>
   rw[q] at h;cases t<;>simp only[reduceCtorEq,Option.some.injEq] at h
   case bool=>
    obtain⟨a,b,rfl,rfl,B,F⟩:=O h.symm;cases a<;>simp only[oJ,reduceCtorEq] at B
    cases b<;>simp only[oJ,reduceCtorEq] at F
    rename_i a b;have p:dO P T=false:=by unfold dO;rw[q]
    simp only[lN,p,XM,if_false,YJ];rw[run_equalIn_bool' w _ T a b q];simp [Wx,qN]
   case int k=>
    obtain⟨a,b,rfl,rfl,B,F⟩:=O h.symm;cases a<;>simp only[oJ,reduceCtorEq,XM,decide_eq_true_eq] at B
    cases b<;>simp only[oJ,reduceCtorEq,XM,decide_eq_true_eq] at F
    subst B;subst F;rename_i a b;have p:dO P T=false:=by unfold dO;rw[q]
    simp only[lN,p,XM,if_false,YJ];rw[run_equalIn_int w _ T k k a b q];simp [Wx,qN]
   case struct fs=>
    have C:dO P T=true:=by unfold dO;rw[q]
    split at h
    ·cases h
    ·rename_i hst;have K:P.fieldsOf T=fs:=by unfold Program.fieldsOf;rw[q]
     simp only[lN,C,if_true];rw[run_equalIn_struct w (d+j) T _ _ (by rw[K];exact q) (by simpa using hst),K];have D: ∀(l:List Field) (off:Nat) (s:List (Option IntKind)) (xs ys:List Value) (w:World),pD P (jC P d) l off=some s→eA s (xs.drop off)=true→eA s (ys.drop off)=true→off≤xs.length→off≤ys.length→
       (Op.eqFields (d+j) xs.toArray ys.toArray l).run P w= .ok (Wx (xs.drop off) (ys.drop off)) w:=by
      intro l
      induction l with
      | nil=>
       intro off s xs ys w o u A _ _;simp only[pD,Option.some.injEq] at o;subst o;have I:=lM u;have J:=lM A;rw[Xn,Yq] at I J;rw[I,J];rfl
      | cons f l ih=>
       intro off s xs ys w o u A hox hoy;simp only[pD] at o
       split at o
       ·cases o
       ·rename_i S;rw[not_or,Classical.not_not] at S;obtain⟨S,rfl⟩:=S
        split at o
        ·rename_i a n B G
         split at o
         ·rename_i p;subst p;cases hr:pD P (jC P d) l (f.offset+a.length) with
          | none=>rw[hr] at o;cases o
          | some b=>
           rw[hr] at o;simp only[WW,Option.some.injEq] at o;subst o;obtain⟨p1,Q⟩:=qO u;obtain⟨q1,R⟩:=qO A;have l1:=lM u;have l2:=lM A;rw[WY,W5] at l1 l2;obtain⟨⟨t,M⟩,L⟩:=AV B;rw[Xa] at Q R;have r1:=qP (xs:=xs.toArray) (off:=f.offset) M G L (by simp;omega) w;have r2:=qP (xs:=ys.toArray) (off:=f.offset) M G L (by simp;omega) w;have r3:=tH d f.type a j _ _ w B p1 q1;have r4:=ih (f.offset+a.length) b xs ys w hr Q R Om Om;rw[tF a.length (xs.drop f.offset) (ys.drop f.offset) (by rw[W5,W5];omega),Xa,Xa];simp only[Op.eqFields,ALifp S,WK,r1,r2,r3,WJ];cases F:Wx ((xs.drop f.offset).take a.length) ((ys.drop f.offset).take a.length) with
           | false=>simp
           | true=>simpa using r4
         ·cases o
        ·cases o
     have:=D fs.toList 0 H xs ys w h (by simpa using V) (by simpa using W) (Nat.zero_le _) (Nat.zero_le _);simpa using this
   case array n e=>
    have C:dO P T=true:=by unfold dO;rw[q]
    simp only[lN,C,if_true]
    split at h
    ·rename_i g m B G
     split at h
     ·rename_i hm;subst hm;simp only[Option.some.injEq] at h;subst h;obtain⟨i,X⟩: ∃i,P.info? e=some i:=by cases h:P.info? e<;>simp_all
      have hz:i.size=g.length:=by simpa [X] using G
      have hc:P.cellsOf e=g.length:=by
       unfold Program.cellsOf;rw[X];exact hz
      rw[run_equalIn_array w (d+j) xs.toArray ys.toArray q X,hc];obtain⟨⟨t,M⟩,L⟩:=AV B;have D: ∀(c k:Nat) (xs ys:List Value) (w:World),eA (Xe c g).flatten (xs.drop (k*g.length))=true→eA (Xe c g).flatten (ys.drop (k*g.length))=true→k*g.length≤xs.length→k*g.length≤ys.length→
        (Op.eqItems (d+j) e g.length xs.toArray ys.toArray (Ym k c)).run P w= .ok (Wx (xs.drop (k*g.length)) (ys.drop (k*g.length))) w:=by
       intro c
       induction c with
       | zero=>
        intro k xs ys w u A _ _;have I:=lM u;have J:=lM A;simp only[List.replicate_zero,List.flatten_nil,Xn,Yq] at I J;rw[I,J];rfl
       | succ c ih=>
        intro k xs ys w u A hox hoy;rw[Yb,XS] at u A;obtain⟨p1,Q⟩:=qO u;obtain⟨q1,R⟩:=qO A;have l1:=lM u;have l2:=lM A;rw[WY,W5] at l1 l2;rw[Xa,show k*g.length+g.length=(k+1)*g.length by rw[Xj]] at Q R;have Y:(k+1)*g.length=k*g.length+g.length:=by rw[Xj]
        have r1:=qP (xs:=xs.toArray) (off:=k*g.length) M G L (by simp;omega) w;have r2:=qP (xs:=ys.toArray) (off:=k*g.length) M G L (by simp;omega) w;have r3:=tH d e g j _ _ w B p1 q1;have r4:=ih (k+1) xs ys w Q R Om Om;rw[tF g.length (xs.drop (k*g.length)) (ys.drop (k*g.length)) (by rw[W5,W5];omega),Xa,Xa,←Y,Yk];simp only[Op.eqItems,WK,r1,r2,r3,WJ];cases F:Wx ((xs.drop (k*g.length)).take g.length) ((ys.drop (k*g.length)).take g.length) with
        | false=>simp
        | true=>simpa using r4
      have:=D n 0 xs ys w (by simpa using V) (by simpa using W) (by simp) (by simp);rw[List.range_eq_range'];simpa using this
     ·cases h
    ·cases h
theorem wZ{T:TypeId}{xs ys:List Value}{E:Bool}{x y:Operand}{w:World}(c:(dO P T,P.eqGuardType P.depth T,(jC P 8 T).map (λa=>eA a xs&&eA a ys))=(true,false,some true))(o:Wx xs ys=E):(av .eql T x y (.agg xs.toArray) (.agg ys.toArray)).run P w= .ok (.bool E) w:=by
 have h:dO P T=true:=ALca (·.1) c;have j:P.eqGuardType P.depth T=false:=ALca (·.2.1) c;have b:(jC P 8 T).map (λa=>eA a xs&&eA a ys)=some true:=ALca (·.2.2) c;cases g:jC P 8 T with
 | none=>rw[g] at b;cases b
 | some a=>
  rw[g] at b;simp only[WW,Option.some.injEq,WT] at b;have:=tH 8 T a 9992 xs ys w g b.1 b.2;simp only[lN,h,if_true] at this;unfold av;simp [eqGuard,Go.binOp,Op.equal,Op.maxDepth,WK,j,this,o]
theorem ja{T:TypeId}{xs ys:List Value}{E:Bool}{x y:Operand}{w:World}(c:(dO P T,P.eqGuardType P.depth T,(jC P 8 T).map (λa=>eA a xs&&eA a ys))=(true,false,some true))(o:Wx xs ys=E):(av .neq T x y (.agg xs.toArray) (.agg ys.toArray)).run P w= .ok (.bool (!E)) w:=by
 have h:dO P T=true:=ALca (·.1) c;have j:P.eqGuardType P.depth T=false:=ALca (·.2.1) c;have b:(jC P 8 T).map (λa=>eA a xs&&eA a ys)=some true:=ALca (·.2.2) c;cases g:jC P 8 T with
 | none=>rw[g] at b;cases b
 | some a=>
  rw[g] at b;simp only[WW,Option.some.injEq,WT] at b;have:=tH 8 T a 9992 xs ys w g b.1 b.2;simp only[lN,h,if_true] at this;unfold av;simp [eqGuard,Go.binOp,Op.equal,Op.maxDepth,WK,j,this,o]
end
def ak{α:Type}(e:α→List Value)(xs:List α):List Value:=xs.flatMap e
section
variable {α:Type} {e:α→List Value} {d:α} {xs ys:List α} {k n i r:Nat} {z:List Value}
theorem kp:ak e (xs++ys)=ak e xs++ak e ys:=List.flatMap_append
theorem fJ(h: ∀x,(e x).length=k)(a:xs.length=n):(ak e xs).length=n*k:=by
 subst a;unfold ak
 induction xs with
 | nil=>simp
 | cons x xs ih=>rw[WV,WY,h,ih,Xh,Xj,X9]
theorem Ib{g:α→Value}(b: ∀x,(g x).oneCell'=true)(xs:List α): ∀u∈ak (λx=>[g x]) xs,u.oneCell'=true:=by
 intro u a;unfold ak at a;obtain⟨x,_,c⟩:=List.mem_flatMap.1 a;obtain rfl:=List.mem_singleton.1 c;exact b x
theorem AW(b: ∀x,∀u∈e x,u.oneCell'=true): ∀u∈ak e xs,u.oneCell'=true:=by
 intro u a;unfold ak at a;obtain⟨x,_,c⟩:=List.mem_flatMap.1 a;exact b x u c
theorem AX{f:Nat→List Value}: ∀n i,jB f i n=(Ym i n).flatMap f
 | 0,_=>rfl
 | n+1,i=>by rw[jB,AX n,Yk,WV]
theorem Ic: ∀(xs:List α),(Ym 0 xs.length).map (λi=>xs.getD i d)=xs:=by
 intro xs;apply Yh;intro i;rw[W8];rcases XB i xs.length with a | a
 ·rw[Yx a,WW,WO,WX,Nat.one_mul,WM a];rfl
 ·rw[W4 (by rw[YD];exact a),W4 a];rfl
theorem kL(h:xs.length=n):cI e d n xs=ak e xs:=by
 subst h;unfold cI ak;rw[AX]
 conv=>rhs;rw[←Ic (d:=d) xs]
 rw[List.flatMap_map]
theorem AY(h:xs.length=n):(((cI e d n xs).toArray).toList.drop 0).take (ak e xs).length=ak e xs:=by
 rw[XE,kL h,Xw]
theorem jV{j:Nat}(h:j<n)(h1: ∀x,(e x).length=1:=by intro _;rfl):j<((cI e d n xs).toArray).size:=by
 rw[W6,oI h1,XJ];exact h
theorem Ie:((bF (ak e xs) z r).toList.drop 0).take (ak e xs).length=ak e xs:=H3
theorem tI(h: ∀x,(e x).length=k)(a:i<xs.length):((ak e xs).drop (i*k)).take k=e (xs.getD i d):=by
 rw[←kL (d:=d) rfl];exact H4 h a
theorem AZ(h: ∀x,(e x).length=k)(a:i<xs.length):((bF (ak e xs) z r).toList.drop (0+i*k)).take (e (xs.getD i d)).length=e (xs.getD i d):=by
 have c:=fJ h (xs:=xs) rfl;have b:(i+1)*k≤xs.length*k:=Xg _ a;rw[Xj] at b;rw[WX,h];unfold bF;simp only;rw[Xl Om,WZ (by rw[W5];omega)];exact tI h a
theorem Ig{f:Nat}{v:Value}(h: ∀x,(e x).length=k)(b:i<xs.length)(hf:f<k)(hv:(e (xs.getD i d))[f]? =some v):(bF (ak e xs) z r)[0+i*k+f]? =some v:=by
 have c:=AZ (z:=z) (r:=r) (d:=d) h b;have a:=ALca (λl=>l[f]?) c;simp only[h,XI hf,X2] at a;rw[←Array.getElem?_toList,a];exact hv
theorem A0{x:α}(h: ∀x,(e x).length=k)(a:i<xs.length):(ak e xs).take (i*k)++e x++(ak e xs).drop (i*k+k)=ak e (xs.set i x):=by
 have o:xs.set i x=xs.take i++x::xs.drop (i+1):=List.set_eq_take_append_cons_drop .. |>.trans (by rw[ALifp a]);have g:xs=xs.take i++xs.drop i:=(XU i xs).symm;have j:xs.drop i=xs[i]::xs.drop (i+1):=XD a;have b:(ak e (xs.take i)).length=i*k:=fJ h (by rw[XG];omega);rw[o,kp,show ak e (x::xs.drop (i+1))=e x++ak e (xs.drop (i+1)) from WV ..];have c:ak e xs=ak e (xs.take i)++(e xs[i]++ak e (xs.drop (i+1))):=by
  conv=>lhs;rw[g,j]
  rw[kp];rfl
 rw[c,List.take_left' b,←Xa,X8 b,X8 (h _),XT]
theorem Ih{x:α}{l:List Value}(h: ∀x,(e x).length=k)(a:i<xs.length)(g:e x=l):(bF (ak e xs) z r).toList.take (0+i*k)++l++(bF (ak e xs) z r).toList.drop (0+i*k+l.length)=(bF (ak e (xs.set i x)) z r).toList:=by
 subst g;have b:=fJ h (xs:=xs) rfl;have c:(i+1)*k≤xs.length*k:=Xg _ a;rw[Xj] at c;rw[WX,h];unfold bF;simp only;rw[WZ Om,Xl Om,←A0 h a];simp only[XT]
theorem Ii{x:α}{f:Nat}{v:Value}(h: ∀x,(e x).length=k)(a:i<xs.length)(hf:f<k)(g:e x=(e (xs.getD i d)).set f v):(bF (ak e xs) z r).setIfInBounds (0+i*k+f) v=bF (ak e (xs.set i x)) z r:=by
 have b:=fJ h (xs:=xs) rfl;have c:(i+1)*k≤xs.length*k:=Xg _ a;rw[Xj] at c;rw[WX];unfold bF;rw[Xo,Yy _ _ Om,←A0 h a,g]
 congr 2
 have o:((ak e xs).take (i*k)).length=i*k:=by rw[XG];omega
 have j:=tI (d:=d) h a
 conv=>lhs;rw[←XU (i*k) (ak e xs),←XU k ((ak e xs).drop (i*k)),j,Xa]
 rw[List.set_append_right _ _ Om,o,show i*k+f-i*k=f by omega,Yy _ _ (by rw[h];exact hf),XT]
theorem Ik{f:Nat}(h: ∀x,(e x).length=k)(c:i<xs.length)(hf:f<k):0+i*k+f<(bF (ak e xs) z r).size:=by
 have a:=fJ h (xs:=xs) rfl;have b:(i+1)*k≤xs.length*k:=Xg _ c;rw[Xj] at b;rw[tD];omega
end
section
variable {P:Program} {T e:TypeId}
end
section
variable {α:Type} {e:α→List Value} {d:α} {xs ys:List α} {n l m N r:Nat} {z:List Value}
theorem w0(h: ∀x,(e x).length=1)(g:l+m≤xs.length):((ak e xs).drop l).take m=ak e ((xs.drop l).take m):=by
 have b: ∀(l:Nat) (xs:List α),(ak e xs).drop l=ak e (xs.drop l):=by
  intro l
  induction l with
  | zero=>intro xs;rfl
  | succ l ih=>
   intro xs;cases xs with
   | nil=>simp [ak]
   | cons x xs=>
    rw[YB,←ih,show ak e (x::xs)=e x++ak e xs from WV ..,X9 l 1,←Xa,X8 (h x)]
 have c: ∀(m:Nat) (xs:List α),m≤xs.length→(ak e xs).take m=ak e (xs.take m):=by
  intro m
  induction m with
  | zero=>intro xs _;rfl
  | succ m ih=>
   intro xs a;cases xs with
   | nil=>simp at a
   | cons x xs=>
    rw[Yc,show ak e (x::xs)=e x++ak e xs from WV ..,show ak e (x::xs.take m)=e x++ak e (xs.take m) from WV ..,←ih xs (by simpa using a),X9 m 1,List.take_append,XR (by rw[h];omega),h,Yr]
 rw[b,c _ _ (by rw[W5];omega)]
theorem A1(h: ∀x,(e x).length=1)(a:xs.length=N)(b:l+m≤N):(((cI e d N xs).toArray).toList.drop (l*1)).take (ak e ((xs.drop l).take m)).length=ak e ((xs.drop l).take m):=by
 rw[fJ (n:=m) h (by rw[XG,W5];omega),XJ,XJ,kL a];exact w0 h Om
theorem w1(h: ∀x,(e x).length=1)(b:xs.length=N)(a:l+m≤N):(((cI e d N xs).toArray).toList.drop (l*1)).take (cI e d m ((xs.drop l).take m)).length=cI e d m ((xs.drop l).take m):=by
 rw[kL (n:=m) (by rw[XG,W5];omega)];exact A1 h b a
theorem Il(h: ∀x,(e x).length=1)(b:xs.length=N)(a:l*m+m≤N):(((cI e d N xs).toArray).toList.drop (0+l*m)).take (cI e d m ((xs.drop (l*m)).take m)).length=cI e d m ((xs.drop (l*m)).take m):=by
 have:=w1 (l:=l*m) (d:=d) h b a;rw[XJ] at this;rw[WX];exact this
theorem qQ{off:Nat}(h: ∀x,(e x).length=1)(c:xs.length=N)(g:ys.length=m)(j:off+m≤N):((cI e d N xs).toArray).toList.take off++ak e ys++((cI e d N xs).toArray).toList.drop (off+(ak e ys).length)=((cI e d N (xs.take off++ys++xs.drop (off+m))).toArray).toList:=by
 show(cI e d N xs).take off++ak e ys++(cI e d N xs).drop (off+(ak e ys).length)=cI e d N (xs.take off++ys++xs.drop (off+m));rw[kL c,kL (n:=N) (by rw[WY,WY,XG,W5];omega),kp,kp,fJ (n:=m) h g,XJ];have a:=w0 (e:=e) (xs:=xs) (l:=0) (m:=off) h Om;have b:=w0 (e:=e) (xs:=xs) (l:=off+m) (m:=N-(off+m)) h Om;rw[XE,XE] at a;rw[a];rw[XR (by rw[W5,fJ (n:=N) h c];omega),XR (by rw[W5];omega)] at b;rw[b]
end
section
variable {P:Program} {T e U:TypeId} {w:World}
theorem Im{g l m s N:Nat}(b:(P.underlying T,P.arrayLen T,iY P (P.elem T))=(some (.array N (P.elem T)),N,some s))(h2:l+m≤N)(a:l<N):(Instr.sliceAt T (.pointer (some ⟨g,0,none⟩)) (some (.int .i64 (l:Int))) (some (.int .i64 ((l+m:Nat):Int))) none).run P w= .ok (.slice (some ⟨g,l*s,none⟩) m (N-l)) w:=by
 have h:=HZ (w:=w) (g:=g) (h:=l+m) b Om h2 a;rwa [Yr] at h
theorem Io{α:Type}{en:α→List Value}{d:α}{xs:List α}{n m N k:Nat}(c:(P.underlying T,(P.info? e).map (·.size),dO P e)=(some (.array n e),some m,true))(h: ∀x,(en x).length=1)(q:k<n)(F:n*m=N)(C:xs.length=N):(Instr.index T (.agg ((cI en d N xs).toArray)) (.int .i64 (k:Int))).run P w= .ok (.agg ((cI en d m ((xs.drop (k*m)).take m)).toArray)) w:=by
 have B:P.underlying T=some (.array n e):=ALca (·.1) c;have u:(P.info? e).map (·.size)=some m:=ALca (·.2.1) c;have a:dO P e=true:=ALca (·.2.2) c;obtain⟨o,b⟩: ∃i,P.info? e=some i:=by cases h:P.info? e<;>simp_all
 have D:o.size=m:=by simpa [b] using u
 have j: ∃t,P.underlying e=some t:=by
  unfold dO at a;cases b:P.underlying e with
  | none=>rw[b] at a;cases a
  | some t=>exact⟨t,rfl⟩
 obtain⟨G,g⟩:=j;have A:k*m+m≤N:=by
  have:=Xg m (show k+1≤n from q);rw[Xj] at this;omega
 have s:=qP (xs:=(cI en d N xs).toArray) (off:=k*m) g u (λh=>by rw[a] at h;cases h) (by rw[W6,oI h];omega) w;have p:=Il (d:=d) (l:=k) (m:=m) h C A;rw[WX,oI h,XJ] at p;rw[p] at s;unfold Instr.index;simp [asIntOf,WK,run_underlying B,sizeOf,typeInfo,b,D,s,lN,a,q]
end
theorem A2{α:Type}[BEq α][LawfulBEq α]{a b:α}(h:(a != b)=false):a=b:=by simpa using h
theorem qR{P:Program}{w:World}(a:Array TypeId)(t:TypeId)(x y:Int):(Builtin.max_ a t #[.int .i64 x,.int .i64 y]).run P w= .ok (.int .i64 (max x y)) w:=by
 rw[run_max_int2]
 congr 2
 split<;>omega
theorem Ip{P:Program}{w:World}(a:Array TypeId)(t:TypeId)(x y:Int):(Builtin.min_ a t #[.int .i64 x,.int .i64 y]).run P w= .ok (.int .i64 (min x y)) w:=by
 rw[run_min_int2]
 congr 2
 split<;>omega
section
variable {P:Program} {T e:TypeId}
end
theorem Iq{α:Type}{e:α→List Value}{d:α}{xs ys:List α}{m N off:Nat}(h: ∀x,(e x).length=1)(c:xs.length=N)(a:ys.length=m)(b:off+m≤N):((cI e d N xs).toArray).toList.take off++cI e d m ys++((cI e d N xs).toArray).toList.drop (off+(cI e d m ys).length)=((cI e d N (xs.take off++ys++xs.drop (off+m))).toArray).toList:=by
 rw[kL (n:=m) a];exact qQ h c a b
theorem Ir{α:Type}{e:α→List Value}{d:α}{xs ys:List α}{m N off:Nat}(h: ∀x,(e x).length=1)(a:off+m≤N):off+(cI e d m ys).length≤((cI e d N xs).toArray).size:=by
 rw[W6,oI h,oI h,XJ,XJ];exact a
theorem Iu{α:Type}{g:α→Value}{d:α}{xs:List α}{n:Nat}(a: ∀x,(g x).oneCell'=true)(b:xs.length=n): ∀u∈cI (λx=>[g x]) d n xs,u.oneCell'=true:=by
 rw[kL b];exact Ib a xs
section
variable {P:Program} {T:TypeId} {x y:Operand} {w:World}
theorem Iv{k:IntKind}{a d:Nat}(c:0<d)(b:k.wrap ((a/d:Nat):Int)=((a/d:Nat):Int)):Op.intDiv .quo k (a:Int) (d:Int)=pure (.int k ((a/d:Nat):Int)):=by
 unfold Op.intDiv;rw[ALifn Om,←b,Int.ofNat_tdiv]
theorem Iw{k:IntKind}{a d:Nat}(b:0<d):Op.intDiv .rem k (a:Int) (d:Int)=pure (.int k ((a%d:Nat):Int)):=by
 unfold Op.intDiv;rw[ALifn Om,Int.ofNat_tmod]
theorem oK{a d:Nat}(b:0<d)(c:a<9223372036854775808):(av .quo T x y (.int .i64 (a:Int)) (.int .i64 (d:Int))).run P w= .ok (.int .i64 ((a/d:Nat):Int)) w:=by
 have h:a/d≤a:=Nat.div_le_self a d;have e:=ALca (λ(s:Sem Value)=>s.run P w) (Iv (k:= .i64) (a:=a) b (by generalize a/d=q at h⊢;rw[YC];omega));exact e
theorem nV{a d:Nat}(b:0<d):(av .rem T x y (.int .i64 (a:Int)) (.int .i64 (d:Int))).run P w= .ok (.int .i64 ((a%d:Nat):Int)) w:=
 ALca (λ(s:Sem Value)=>s.run P w) (Iw (k:= .i64) (a:=a) b)
theorem tJ{a b:Nat}(h:a+b<18446744073709551616):(av .add T x y (.int .u64 (a:Int)) (.int .u64 (b:Int))).run P w= .ok (.int .u64 ((a+b:Nat):Int)) w:=by
 have c:IntKind.u64.wrap ((a:Int)+b)=((a+b:Nat):Int):=by rw[XC];omega
 rw[←c];rfl
theorem Iy{S:TypeId}{a:Nat}(b:P.underlying S=some (.int .u8))(c:P.underlying T=some (.int .i64))(g:a<256):(convert S T (.int .u8 (a:Int))).run P w= .ok (.int .i64 (a:Int)) w:=by
 have h:IntKind.i64.wrap (a:Int)=(a:Int):=by rw[YC];omega
 simp only[convert,WK,run_underlying b,run_underlying c,WJ,Conv.intToInt,h,WQ]
end
end
section
open Go Go.RowKit Go.Shelf
def aq{α:Type}(en:α→List Value)(z:List Value)(T:TypeId)(v:Value)(xs:List α):ay→Prop:=λbs=>
 (xs=[]∧bs=[]∧∃a,v= .slice a 0 0)∨∃g r,v= .slice (some ⟨g,0,none⟩) xs.length (xs.length+r)∧bs=[(g,.cells (bF (ak en xs) z r) T (0,0))]
def e7(v:Value)(off:Nat):Value:=match v with | .slice (some a) _ _=> .pointer (some (a.add off)) | _=>undef
section
variable {α:Type} {P:Program} {en:α→List Value} {z:List Value} {e T:TypeId} {v:Value} {xs ys:List α} {bs:ay} {w:World}
theorem aq.nil(a:Option Addr):aq en z T (.slice a 0 0) ([]:List α) []:= .inl ⟨rfl,rfl,a,rfl⟩
theorem aq.form(h:aq en z T v xs bs): ∃a c,v= .slice a xs.length c:=by
 rcases h with⟨rfl,_,a,rfl⟩ | ⟨g,r,rfl,_⟩
 ·exact⟨a,0,rfl⟩
 ·exact⟨_,_,rfl⟩
theorem aq.some(h:aq en z T v xs bs){i:Nat}(a:i<xs.length): ∃g r,v= .slice (.some ⟨g,0,none⟩) xs.length (xs.length+r)∧bs=[(g,.cells (bF (ak en xs) z r) T (0,0))]:=by
 rcases h with⟨rfl,_⟩ | h
 ·simp at a
 ·exact h
theorem mh.ent{p:Nat}{x:aA}{c:gw}{w:World}(h:mh [(p,x)] c w):x.sat (c p)∧Has (c p) w:=by
 have:=h.has;exact⟨h.sat _ (List.mem_singleton.2 rfl),by simpa using this⟩
theorem Has.one{g:Nat}{x:Obj}{w:World}(h:Has [(g,x)] w):w.heap[g]? = .some x:=h.obj (g,x) (List.mem_singleton.2 rfl)
def w2(P:Program)(t:Array TypeId):Bool:=match t.toList with | [T]=>(match P.underlying T with | .some (.slice _)=>true | _=>false) | _=>false
theorem A3{t:Array TypeId}(h:w2 P t=true): ∃T e,t=#[T]∧P.underlying T= .some (.slice e):=by
 unfold w2 at h
 split at h
 ·rename_i T b
  split at h
  ·rename_i e a;exact⟨T,e,Array.toList_inj.1 b,a⟩
  ·cases h
 ·cases h
def pE(P:Program)(p:Nat)(x:aA)(v:Value)(o:Oper)(ρ:Operand→Value)(_:cp):MD:=match o.op with
 | .call ⟨.builtin .len,_,t⟩=>⟨[(p,x)],λ_=>[],[sE (λw=>(execOp ρ o).run P w) (λw=>(vS (Builtin.len_ t o.type #[v])).run P w),sB (w2 P t)]⟩
 | _=>MD.bad
theorem Iz(p:Nat)(x:aA)(h: ∀bs,x.sat bs→aq en z T v xs bs):MD.ok P (λ_=> .int .i64 (xs.length:Int)) (pE P p x v) []:=by
 intro o ρ C g w c i;unfold pE at g i⊢
 split at g
 ·rename_i a t j;simp only[j] at i⊢;simp only[WN,WL,or_false,forall_eq_or_imp,forall_eq,sE,sB] at g;obtain⟨l,q⟩:=g;obtain⟨m,u⟩:=i.ent;obtain⟨b,k,rfl⟩:=(h _ m).form;obtain⟨r,s,rfl,n⟩:=A3 q;refine⟨ab.zero,λ_=>[],w,.inl ((congrFun l w).trans (lI ?_)),λx h=>by simp at h,by simpa using a8.refl w⟩;simp [Builtin.len_,run_underlying n,goInt,WK]
 ·exact(bE g).elim
def IA(p:Nat)(x:aA)(h: ∀bs,x.sat bs→aq en z T v xs bs):MH P (λ_=> .int .i64 (xs.length:Int)):=⟨[],pE P p x v,Iz p x h⟩
def pF(P:Program)(p:Nat)(x:aA)(v:Value)(i s:Nat)(o:Oper)(ρ:Operand→Value)(_:cp):MD:=match o.op with
 | .indexAddr T a b=>⟨[(p,x)],λ_=>[],[sE (ρ a) v,sE (ρ b) (.int .i64 (i:Int)),sE (P.underlying T,iY P (P.elem T)) (.some (.slice (P.elem T)),.some s)]⟩
 | _=>MD.bad
theorem IB(p:Nat)(x:aA)(i s:Nat)(h: ∀bs,x.sat bs→aq en z T v xs bs)(q:i<xs.length):MD.ok P (λ_=>e7 v (i*s)) (pF P p x v i s) []:=by
 intro o ρ C j w c m;unfold pF at j m⊢
 split at j
 ·rename_i D a b l;simp only[l] at m⊢;simp only[WN,WL,or_false,forall_eq_or_imp,forall_eq,sE] at j;obtain⟨y,A,u⟩:=j;obtain⟨t,F⟩:=m.ent;obtain⟨g,r,rfl,_⟩:=(h _ t).some q;refine⟨ab.zero,λ_=>[],w,.inl ?_,λx h=>by simp at h,by simpa using a8.refl w⟩;unfold execOp;have B:=bT (P:=P) (w:=w) (g:=g) (off:=0) (n:=xs.length) (c:=xs.length+r) (k:=i) (s:=s) u q;simp only[l,y,A,WK,B,WJ,WQ,e7,add_lit]
 ·exact(bE j).elim
def IC(p:Nat)(x:aA)(i s:Nat)(h: ∀bs,x.sat bs→aq en z T v xs bs)(a:i<xs.length):MH P (λ_=>e7 v (i*s)):=⟨[],pF P p x v i s,IB p x i s h a⟩
def w3(P:Program)(p:Nat)(x:aA)(v:Value)(off d:Nat)(o:Oper)(ρ:Operand→Value)(_:cp):MD:=match o.op with
 | .fieldAddr T a f=>⟨[(p,x)],λ_=>[],[sE (ρ a) (e7 v off),sE (λ(q:Nat×Nat×World)=>(Instr.fieldAt T (.pointer (.some ⟨q.1,q.2.1,none⟩)) f).run P q.2.2) (λq=> .ok (.pointer (.some ⟨q.1,q.2.1+d,none⟩)) q.2.2)]⟩
 | _=>MD.bad
theorem ID(p:Nat)(x:aA)(off d:Nat)(h: ∀bs,x.sat bs→aq en z T v xs bs)(q:0<xs.length):MD.ok P (λ_=>e7 v (off+d)) (w3 P p x v off d) []:=by
 intro o ρ C b w c j;unfold w3 at b j⊢
 split at b
 ·rename_i s a f i;simp only[i] at j⊢;simp only[WN,WL,or_false,forall_eq_or_imp,forall_eq,sE] at b;obtain⟨k,n⟩:=b;obtain⟨m,t⟩:=j.ent;obtain⟨g,r,rfl,_⟩:=(h _ m).some q;refine⟨ab.zero,λ_=>[],w,.inl ?_,λx h=>by simp at h,by simpa using a8.refl w⟩;unfold execOp;have l:=congrFun n (g,0+off,w);simp only at l;simp only[e7,add_lit] at k;simp only[i,k,WK,l,WJ,WQ,e7,add_lit,Ys]
 ·exact(bE b).elim
def IE(p:Nat)(x:aA)(off d:Nat)(h: ∀bs,x.sat bs→aq en z T v xs bs)(a:0<xs.length):MH P (λ_=>e7 v (off+d)):=⟨[],w3 P p x v off d,ID p x off d h a⟩
def pG(P:Program)(p:Nat)(x:aA)(v:Value)(off:Nat)(o:Oper)(ρ:Operand→Value)(_:cp):MD:=match o.op with
 | .load T a=>⟨[(p,x)],λ_=>[],[sE (ρ a) (e7 v off),sE (λw=>(isAgg T).run P w) (λw=> .ok false w)]⟩
 | _=>MD.bad
theorem IF(p:Nat)(x:aA)(i k f:Nat){d:α}{u:Value}(h: ∀bs,x.sat bs→aq en z T v xs bs)(F: ∀y,(en y).length=k)(s:i<xs.length)(hf:f<k)(G:(en (xs.getD i d))[f]? = .some u):MD.ok P (λ_=>u) (pG P p x v (i*k+f)) []:=by
 intro o ρ C b w c l;unfold pG at b l⊢
 split at b
 ·rename_i H a j;simp only[j] at l⊢;simp only[WN,WL,or_false,forall_eq_or_imp,forall_eq,sE] at b;obtain⟨q,B⟩:=b;obtain⟨A,n⟩:=l.ent;obtain⟨g,r,rfl,D⟩:=(h _ A).some s;rw[D] at n;have m:mb w g T (bF (ak en xs) z r):=n.one;refine⟨ab.zero,λ_=>[],w,.inl ?_,λx h=>by simp at h,by simpa using a8.refl w⟩;unfold execOp;simp only[e7,add_lit] at q;have t:=Ig (z:=z) (r:=r) F s hf G;rw[show 0+i*k+f=0+(i*k+f) by omega] at t;simp only[j,q,Instr.loadAt,Instr.sureAddr,WK,WQ,WJ,qw (congrFun B w) ((m.cell _).trans t)]
 ·exact(bE b).elim
def IG(p:Nat)(x:aA)(i k f:Nat){d:α}{u:Value}(h: ∀bs,x.sat bs→aq en z T v xs bs)(b: ∀y,(en y).length=k)(a:i<xs.length)(hf:f<k)(c:(en (xs.getD i d))[f]? = .some u):MH P (λ_=>u):=⟨[],pG P p x v (i*k+f),IF p x i k f h b a hf c⟩
def m5(P:Program)(p:Nat)(x:aA)(v:Value)(off n:Nat)(o:Oper)(ρ:Operand→Value)(_:cp):MD:=match o.op with
 | .load T a=>⟨[(p,x)],λ_=>[],[sE (ρ a) (e7 v off),sB (dO P T),sE ((P.info? T).map (·.size)) (.some n)]⟩
 | _=>MD.bad
theorem IH(p:Nat)(x:aA)(i k f:Nat){d:α}{l:List Value}(h: ∀bs,x.sat bs→aq en z T v xs bs)(t: ∀y,(en y).length=k)(s:i<xs.length)(hf:f+l.length≤k)(I:((en (xs.getD i d)).drop f).take l.length=l):MD.ok P (λ_=> .agg l.toArray) (m5 P p x v (i*k+f) l.length) []:=by
 intro o ρ C b w c m;unfold m5 at b m⊢
 split at b
 ·rename_i J a j;simp only[j] at m⊢;simp only[WN,WL,or_false,forall_eq_or_imp,forall_eq,sE,sB] at b;obtain⟨q,F,H⟩:=b;obtain⟨A,n⟩:=m.ent;obtain⟨g,r,rfl,D⟩:=(h _ A).some s;rw[D] at n;refine⟨ab.zero,λ_=>[],w,.inl ?_,λx h=>by simp at h,by simpa using a8.refl w⟩;unfold execOp;simp only[e7,add_lit] at q;have u:=AZ (z:=z) (r:=r) (d:=d) t s;rw[t] at u;have G:((bF (ak en xs) z r).toList.drop (0+(i*k+f))).take l.length=l:=by
   have B:((bF (ak en xs) z r).toList.drop (0+(i*k+f))).take l.length=((((bF (ak en xs) z r).toList.drop (0+i*k)).take k).drop f).take l.length:=by
    rw[Ya,Yp,Xa,show 0+i*k+f=0+(i*k+f) by omega,Yo Om]
   rw[B,u,I]
  simp only[j,q,Instr.loadAt,Instr.sureAddr,WK,WQ,WJ,ts n.one G F H]
 ·exact(bE b).elim
def II(p:Nat)(x:aA)(i k f:Nat){d:α}{l:List Value}(h: ∀bs,x.sat bs→aq en z T v xs bs)(b: ∀y,(en y).length=k)(a:i<xs.length)(hf:f+l.length≤k)(c:((en (xs.getD i d)).drop f).take l.length=l):MH P (λ_=> .agg l.toArray):=⟨[],m5 P p x v (i*k+f) l.length,IH p x i k f h b a hf c⟩
end
end
section
open Go Go.RowKit Go.Shelf
section
variable {α:Type} {P:Program} {en:α→List Value} {z:List Value} {e T:TypeId} {v:Value} {xs ys:List α} {bs:ay} {w:World}
def w4(P:Program)(p:Nat)(x y:aA)(v:Value)(off:Nat)(u:Value)(o:Oper)(ρ:Operand→Value)(_:cp):MD:=match o.op with
 | .store T a b=>⟨[(p,x)],λ_=>[(p,y)],[sE (ρ a) (e7 v off),sE (ρ b) u,sB u.oneCell',sE ((P.info? T).map (·.size)) (some 1)]⟩
 | _=>MD.bad
theorem IJ(p i k f:Nat){d a:α}{u:Value}(D: ∀y,(en y).length=k)(s:i<xs.length)(hf:f<k)(M:en a=(en (xs.getD i d)).set f u):MD.ok P (λ_=>undef) (w4 P p (.p (aq en z T v xs)) (.p (aq en z T v (xs.set i a))) v (i*k+f) u) [p]:=by
 intro o ρ C j w c n;unfold w4 at j n⊢
 split at j
 ·rename_i O x y l;simp only[l] at n⊢;simp only[WN,WL,or_false,forall_eq_or_imp,forall_eq,sE,sB] at j;obtain⟨A,K,I,J⟩:=j;obtain⟨H,t⟩:=n.ent;obtain⟨g,r,rfl,B⟩:=aq.some (show aq en z T v xs (c p) from H) s;rw[B] at t;have b:=t.one;have G:=Ii (z:=z) (r:=r) D s hf M;have F:=Ik (z:=z) (r:=r) (f:=f) (xs:=xs) D s hf;rw[show 0+i*k+f=0+(i*k+f) by omega] at G F;simp only[e7,add_lit] at A;have m:=a8.setc (i:=0+(i*k+f)) u b;rw[G] at m;refine⟨ab.zero,λ_=>[(g,.cells (bF (ak en (xs.set i a)) z r) T (0,0))],w.setCell ⟨g,0+(i*k+f),none⟩ u,.inr ⟨?_,by simp⟩,λq h=>?_,?_⟩
  ·unfold execOp;simp only[l,A,K,Instr.storeAt,Instr.sureAddr,WK,WQ,WJ,tn b F I J]
  ·rw[List.mem_singleton.1 h];exact .inr ⟨g,r,by rw[XA],rfl⟩
  ·rw[show([p].flatMap λp=>bN (c p))=_ by simp only[WV,Xb,B,bN];rfl];exact m
 ·exact(bE j).elim
def IK(p i k f:Nat){d a:α}{u:Value}(c: ∀y,(en y).length=k)(b:i<xs.length)(hf:f<k)(g:en a=(en (xs.getD i d)).set f u):MH P (λ_=>undef):=⟨[p],w4 P p (.p (aq en z T v xs)) (.p (aq en z T v (xs.set i a))) v (i*k+f) u,IJ p i k f c b hf g⟩
def pH(P:Program)(p:Nat)(x y:aA)(v:Value)(off:Nat)(l:List Value)(o:Oper)(ρ:Operand→Value)(_:cp):MD:=match o.op with
 | .store T a b=>⟨[(p,x)],λ_=>[(p,y)],[sE (ρ a) (e7 v off),sE (m0 (ρ b)) (some l),sB (l.all (·.oneCell')),sE ((P.info? T).map (·.size)) (some l.length)]⟩
 | _=>MD.bad
theorem IL(p i k:Nat){a:α}(s: ∀y,(en y).length=k)(n:i<xs.length):MD.ok P (λ_=>undef) (pH P p (.p (aq en z T v xs)) (.p (aq en z T v (xs.set i a))) v (i*k) (en a)) [p]:=by
 intro o ρ C j w c m;unfold pH at j m⊢
 split at j
 ·rename_i G x y l;simp only[l] at m⊢;simp only[WN,WL,or_false,forall_eq_or_imp,forall_eq,sE,sB] at j;obtain⟨B,K,I,J⟩:=j;obtain⟨H,A⟩:=m.ent;obtain⟨g,r,rfl,D⟩:=aq.some (show aq en z T v xs (c p) from H) n;rw[D] at A;have b:=A.one;have M:=Ih (z:=z) (r:=r) (x:=a) s n rfl;have t:0+i*k+(en a).length≤(bF (ak en xs) z r).size:=by
   rw[tD,fJ s rfl,s];have:=Xg k (show i+1≤xs.length from n);rw[Nat.add_mul] at this;omega
  simp only[e7,add_lit] at B;have u:=a8.setRow (bF (ak en (xs.set i a)) z r) b;refine⟨ab.zero,λ_=>[(g,.cells (bF (ak en (xs.set i a)) z r) T (0,0))],w.setRow g (bF (ak en (xs.set i a)) z r),.inr ⟨?_,by simp⟩,λq h=>?_,?_⟩
  ·unfold execOp;have F:=tt (P:=P) (T:=G) b t (List.all_eq_true.1 I) J;rw[M,Array.toArray_toList] at F;simp only[l,B,tu K,Instr.storeAt,Instr.sureAddr,WK,WQ,WJ,F]
  ·rw[List.mem_singleton.1 h];exact .inr ⟨g,r,by rw[XA],rfl⟩
  ·rw[show([p].flatMap λp=>bN (c p))=_ by simp only[WV,Xb,D,bN];rfl];exact u
 ·exact(bE j).elim
def IM(p i k:Nat)(a:α)(c: ∀y,(en y).length=k)(b:i<xs.length):MH P (λ_=>undef):=⟨[p],pH P p (.p (aq en z T v xs)) (.p (aq en z T v (xs.set i a))) v (i*k) (en a),IL p i k c b⟩
theorem tK{s:Sem Value}{v:Value}{w w':World}(h:s.run P w= .ok v w'):(vS s).run P w= .ok (.value v) w':=by
 unfold vS;simp only[WK,h,WJ,WQ]
theorem aq.slice(h:aq en z T v xs bs): ∃a r,v= .slice a xs.length (xs.length+r):=by
 rcases h with⟨rfl,_,a,rfl⟩ | ⟨g,r,rfl,_⟩
 ·exact⟨a,0,rfl⟩
 ·exact⟨_,r,rfl⟩
theorem A4{T' TY:TypeId}(g:dX P T' e z)(a b:Option Addr)(n r c:Nat)(w:World):(Builtin.append_ #[T',T'] TY #[.slice a n (n+r),.slice b 0 c]).run P w= .ok (.slice a n (n+r)) w:=by
 obtain⟨k,⟨i,q,j,p,o,l,h⟩,m⟩:=g;cases a<;>cases b<;>simp [Builtin.append_,run_underlying k,sizeOf,typeInfo,j,Builtin.lenOf,Builtin.firstCells,loadCells,loadCellsFrom,storeCells]
theorem A5{T' TY:TypeId}(hT:dX P T' e z){B:ay}(hv:aq en z e v xs B)(hh:Has B w){A:Addr}{c:Nat}(p: ∀y,(en y).length=z.length)(h1: ∀y,∀u∈en y,u.oneCell'=true)
  (k: ∀j u,(ak en ys)[j]? =some u→w.cell? (A.add j)=some u) (H:xs.length+ys.length≤1000000):
  ∃S m w',(Builtin.append_ #[T',T'] TY #[v,.slice (some A) ys.length c]).run P w= .ok S w'∧aq en z e S (xs++ys) m∧a8 (bN B) m w w':=by
 by_cases hy:ys=[]
 ·subst hy;obtain⟨a,r,rfl⟩:=hv.slice;refine⟨_,B,w,A4 hT a (some A) _ r c w,by rw[XP];exact hv,rfl,rfl,rfl,WU _,hh.obj,λx O=> .inl (Xv O),hh.nd,λ_ _ _=>rfl⟩
 have K:0<ys.length:=List.length_pos_iff.2 hy;have hT':=hT;obtain⟨Y,⟨i,F,U,hz,X,Q,hby⟩,h0⟩:=hT;have hzz:0<F.cells.size:=by rw[←Array.length_toList,Q];exact h0
 have D:(ak en ys).length=ys.length*i.size:=by rw[X];exact fJ p rfl
 have J:=AW (e:=en) (xs:=ys) h1;have s: ∀(C:Array Value),a8 (bN B) [(w.heap.size,.cells C e (0,0))] w (w.drew.alloc (.cells C e)):=λC=>by
  have n:=(Below.refl w.heap.size w.drew).alloc (WU _) (.cells C e);exact⟨n.os,n.tape,n.output,n.size,λx O=>by obtain rfl:=List.mem_singleton.1 O;exact XW w.drew _,λx O=>by obtain rfl:=List.mem_singleton.1 O;exact .inr (WU _),Xu _ _,λb H _=>n.block b H⟩
 have l: ∀(g0:Option Addr) (o:Nat) (G:Nat),G=grownCap w (xs.length+ys.length) o e→o<xs.length+ys.length→(Builtin.append_ #[T',T'] TY #[v,.slice (some A) ys.length c]).run P w= .ok (.slice (some ⟨w.heap.size,0,none⟩) (xs.length+ys.length) G) (w.drew.alloc (.cells ((ak en xs).toArray++(ak en ys).toArray++Builtin.zeroCells F.cells (G-(xs.length+ys.length))) e))→
   ∃S m w',(Builtin.append_ #[T',T'] TY #[v,.slice (some A) ys.length c]).run P w= .ok S w'∧aq en z e S (xs++ys) m∧a8 (bN B) m w w':=by
  intro g0 o G hG hcap V;have hge:=grownCap_ge w (xs.length+ys.length) o e;rw[←hG] at hge;have Z:(ak en xs).toArray++(ak en ys).toArray++Builtin.zeroCells F.cells (G-(xs.length+ys.length))=bF (ak en (xs++ys)) z (G-(xs.length+ys.length)):=by
   apply Array.toList_inj.1;unfold bF;simp only[Array.toList_append,wW _ _ hzz,Q,kp]
  rw[Z] at V;exact⟨_,_,_,V,.inr ⟨w.heap.size,G-(xs.length+ys.length),by rw[WY];congr 1;omega,rfl⟩,s _⟩
 have t:(xs.length+ys.length)*i.bytes≤140737488355328:=Xd (Nat.mul_le_mul H hby) Dc;rcases hv with⟨rfl,rfl,a,rfl⟩ | ⟨g,r,rfl,rfl⟩
 ·cases a with
  | none=>
   have h:=run_append_nil (P:=P) w T' TY e i F Y U hz A ys.length c (ak en ys) D k K (by simp only[Xn] at H;omega) (by have:=t;simp only[Xn,WX] at this;omega);refine l none 0 _ rfl (by simp only[Xn];omega) ?_;simp only[Xn,WX,ak,Xb];rw[h];simp [ak]
  | some a0=>
   have h:=run_append_grow (P:=P) w T' TY e i F Y U hz a0 0 0 [] (by simp) (λj u hu=>by simp at hu) A ys.length c (ak en ys) D k Om (by simp only[Xn] at H;omega) (growslice_fits Om (by simpa using t));refine l none 0 _ rfl (by simp only[Xn];omega) ?_;simp only[Xn,ak,Xb] at h⊢;exact h
 ·have hg:w.heap[g]? =some (.cells (bF (ak en xs) z r) e (0,0)):=hh.one;have hn:(ak en xs).length=xs.length*i.size:=by rw[X];exact fJ p rfl
  by_cases V:ys.length≤r
  ·have Z:((bF (ak en xs) z r).toList.take (xs.length*i.size)++ak en ys++(bF (ak en xs) z r).toList.drop (xs.length*i.size+(ak en ys).length)).toArray=bF (ak en (xs++ys)) z (r-ys.length):=by
    have M:(Xe r z).flatten=(Xe ys.length z).flatten++(Xe (r-ys.length) z).flatten:=by
     rw[←Xc,List.replicate_append_replicate,show ys.length+(r-ys.length)=r by omega]
    unfold bF;rw[←hn,M,kp];simp only[XT]
    congr 1
    rw[WZ (WU _),Xw]
    congr 2
    rw[D,X,←qJ z ys.length,←WY,←XT (ak en xs),Xl (WU _),XV,Yn]
   have q:=run_append_room (P:=P) w T' TY e i Y U g xs.length (xs.length+r) (bF (ak en xs) z r) hg A ys.length c (ak en ys) D k J Om (by rw[←hn,D,tD,X];have:=Xg z.length V;omega);rw[Z] at q;exact⟨_,_,_,q,.inr ⟨g,r-ys.length,by rw[WY];congr 1;omega,rfl⟩,a8.setRow _ hg⟩
  ·have I:=oH (news:=ak en xs) hg (off:=0) (by unfold bF;rw[XE,WZ (WU _),Xw]);have h:=run_append_grow (P:=P) w T' TY e i F Y U hz ⟨g,0,none⟩ xs.length (xs.length+r) (ak en xs) hn I A ys.length c (ak en ys) D k Om Om (growslice_fits Om t);exact l none (xs.length+r) _ rfl Om h
def SrE{α:Type}(en:α→List Value)(u:Value)(ys:List α):ay→Prop:=λbs=>
 (ys=[]∧∃a c,u= .slice a 0 c)∨∃(g b:Nat) (cs:Array Value) (t:TypeId) (h:Nat×Nat) (c:Nat),u= .slice (some ⟨g,b,none⟩) ys.length c∧(g,Obj.cells cs t h)∈bs∧(cs.toList.drop b).take (ak en ys).length=ak en ys
theorem aq.src(h:aq en z T v xs bs):SrE en v xs bs:=by
 rcases h with⟨b,_,a,c⟩ | ⟨g,r,b,c⟩
 ·exact .inl ⟨b,a,0,c⟩
 ·exact .inr ⟨g,0,_,T,_,_,b,by rw[c];exact List.mem_singleton.2 rfl,Ie⟩
def gT(v:Value)(l h s:Nat):Value:=match v with | .slice a _ c=>sliced a l h c s | _=>undef
def ab.ov(v:Value):ab:=⟨λ_=>0,λ_=>0,λ_=>v⟩
theorem IN{T' TY h:TypeId}{p q g off c m:Nat}{a:Array Value}(t:dX P T' e z)(b: ∀y,(en y).length=z.length)(h1: ∀y,∀u∈en y,u.oneCell'=true)(C:ys.length=m)(s:(a.toList.drop off).take (ak en ys).length=ak en ys)(A:xs.length+m≤1000000):
  Aw P (qK T' TY v (.slice (some ⟨g,off,none⟩) m c)) (λE=>E.val 0) [(p,.p (aq en z e v xs)),(q,ob g a h)] [p] (λE=>[(p,.p (aq en z e (E.val 0) (xs++ys)))]):=by
 intro w k l;subst C;have D:aq en z e v xs (k p):=l.sat (p,.p (aq en z e v xs)) (by simp);have F:k q=[(g,.cells a h (0,0))]:=l.sat (q,ob g a h) (by simp);have i:=l.has;simp only[WV,Xb,XP] at i;have B:w.heap[g]? =some (.cells a h (0,0)):=i.obj (g,.cells a h (0,0)) (by rw[F];simp);have n:Has (k p) w:=⟨λx r=>i.obj x (WR _ r),(List.pairwise_append.1 i.nd).1⟩;obtain⟨I,j,J,G,H,o⟩:=A5 (TY:=TY) (c:=c) t D n b h1 (oH B s) A;exact⟨ab.ov I,λ_=>j,J,.inl (tK G),λx r=>by rw[List.mem_singleton.1 r];exact H,by simpa using o⟩
theorem IP{T' TY:TypeId}{p q:Nat}{x:aA}{u:Value}(C:dX P T' e z)(l: ∀y,(en y).length=z.length)(h1: ∀y,∀u∈en y,u.oneCell'=true)(h: ∀bs,x.sat bs→SrE en u ys bs)(F:xs.length+ys.length≤1000000):
  Aw P (qK T' TY v u) (λE=>E.val 0) [(p,.p (aq en z e v xs)),(q,x)] [p] (λE=>[(p,.p (aq en z e (E.val 0) (xs++ys)))]):=by
 intro w k n;have A:aq en z e v xs (k p):=n.sat (p,.p (aq en z e v xs)) (by simp);have G:SrE en u ys (k q):=h _ (n.sat (q,x) (by simp));have j:=n.has;simp only[WV,Xb,XP] at j;have i:Has (k p) w:=⟨λx h=>j.obj x (WR _ h),(List.pairwise_append.1 j.nd).1⟩;have s:Has (k q) w:=⟨λx h=>j.obj x (WS _ h),(List.pairwise_append.1 j.nd).2.1⟩;rcases G with⟨rfl,a,c,rfl⟩ | ⟨g,J,O,t,Q,c,rfl,o,D⟩
 ·obtain⟨b,r,rfl⟩:=A.slice;exact⟨ab.ov _,λ_=>k p,w,.inl (tK (A4 C b a _ r c w)),λx h=>by rw[List.mem_singleton.1 h,XP];exact A,rfl,rfl,rfl,WU _,by simpa using i.obj,λx h=> .inl (by simp only[WV,Xb,XP] at h⊢;exact Xv h),by simpa using i.nd,λ_ _ _=>rfl⟩
 ·obtain⟨K,m,M,H,I,B⟩:=A5 (TY:=TY) (c:=c) C A i l h1 (oH (s.obj _ o) D) F;exact⟨ab.ov K,λ_=>m,M,.inl (tK H),λx h=>by rw[List.mem_singleton.1 h];exact I,by simpa using B⟩
end
end
section
open Go Go.RowKit Go.Shelf
structure jW {α:Type} (en:α→Value) (d:α) (f:Int→α) (es:List MapEntry):Prop where
 key: ∀x∈es,∃k,x.key= .int .i64 k∧x.val=en (f k)
 out: ∀k,(∀x∈es,x.key≠ .int .i64 k)→f k=d
 one:es.Pairwise λx y=>x.key≠y.key
def lO{α:Type}(en:α→Value)(d:α)(f:Int→α)(g:Nat):ay→Prop:=λbs=>∃b a,bs=[(g,.map b a)]∧jW en d f b.toList
def dC{α:Type}(f:Int→α)(k:Int)(a:α)(j:Int):α:=if j=k then a else f j
section
variable {α:Type} {P:Program} {en:α→Value} {d:α} {f:Int→α} {w:World}
theorem jW.find{k:Int}: ∀{es:List MapEntry} {i:Nat},(∀x∈es,∃k,x.key= .int .i64 k∧x.val=en (f k))→
  (Instr.findNow (.int .i64) (.int .i64 k) es i=some none∧∀x∈es,x.key≠ .int .i64 k)∨∃j y,es[j]? =some y∧y.key= .int .i64 k∧Instr.findNow (.int .i64) (.int .i64 k) es i=some (some (i+j,en (f k)))
 | [],i,_=> .inl ⟨rfl,λx h=>by simp at h⟩
 | y::es,i,h=>by
  obtain⟨q,b,l⟩:=h y Yd;by_cases e:k=q
  ·subst e;refine .inr ⟨0,y,rfl,b,?_⟩;unfold Instr.findNow;rw[b];simp [Instr.sameNow,l]
  ·have n:Instr.findNow (.int .i64) (.int .i64 k) (y::es) i=Instr.findNow (.int .i64) (.int .i64 k) es (i+1):=by
    rw[Instr.findNow,b];simp only[Instr.sameNow,if_true];rw[beq_false_of_ne e]
   rw[n];rcases jW.find (k:=k) (es:=es) (i:=i+1) (λx a=>h x (Xf _ a)) with⟨c,g⟩ | ⟨j,z,c,g,m⟩
   ·refine .inl ⟨c,λx a=>?_⟩;rcases List.mem_cons.1 a with rfl | a
    ·rw[b];intro h;cases h;exact e rfl
    ·exact g x a
   ·exact .inr ⟨j+1,z,by simpa using c,g,by rw[m,show i+1+j=i+(j+1) by omega]⟩
theorem jW.nil:jW en d (λ_=>d) []:=⟨λx h=>by simp at h,λ_ _=>rfl,List.Pairwise.nil⟩
theorem jW.push{es:List MapEntry}(h:jW en d f es){k:Int}(l: ∀x∈es,x.key≠ .int .i64 k)(a:α)(c:Nat):jW en d (dC f k a) (es++[⟨.int .i64 k,en a,c⟩]):=by
 refine⟨λx b=>?_,λj i=>?_,?_⟩
 ·rcases List.mem_append.1 b with m | b
  ·obtain⟨q,g,n⟩:=h.key x m;refine⟨q,g,?_⟩;unfold dC;rw[ALifn]
   ·exact n
   ·intro e;exact l x m (by rw[g,e])
  ·obtain rfl:=List.mem_singleton.1 b;exact⟨k,rfl,by unfold dC;rw[ALifp rfl]⟩
 ·unfold dC;rw[ALifn]
  ·exact h.out j λx b=>i x (WR _ b)
  ·rintro rfl;exact i _ (WS _ (List.mem_singleton.2 rfl)) rfl
 ·refine List.pairwise_append.2 ⟨h.one,Xu _ _,λx b y o=>?_⟩;obtain rfl:=List.mem_singleton.1 o;exact l x b
theorem jW.set{es:List MapEntry}(h:jW en d f es){k:Int}{i:Nat}{y:MapEntry}(F:es[i]? =some y)(u:y.key= .int .i64 k)(a:α):jW en d (dC f k a) (es.modify i λe=>{e with key:= .int .i64 k,val:=en a}):=by
 have n:=(List.getElem?_eq_some_iff.1 F).1;have o:=(List.getElem?_eq_some_iff.1 F).2;have p: ∀j (g:j<es.length),(es.modify i λe=>{e with key:= .int .i64 k,val:=en a})[j]'(by simpa using g)=if i=j then{es[j] with key:= .int .i64 k,val:=en a} else es[j]:=λj g=>by
  rw[List.getElem_modify]
 have c: ∀j (g:j<es.length),((es.modify i λe=>{e with key:= .int .i64 k,val:=en a})[j]'(by simpa using g)).key=es[j].key:=λj g=>by
  rw[p j g]
  split
  ·rename_i e;subst e;simp only;rw[o,u]
  ·rfl
 refine⟨λx C=>?_,λj g=>?_,?_⟩
 ·obtain⟨j,g,rfl⟩:=W9 C;have m:j<es.length:=by simpa using g
  rw[p j m]
  split
  ·exact⟨k,rfl,by unfold dC;rw[ALifp rfl]⟩
  ·rename_i r;obtain⟨q,A,G⟩:=h.key es[j] (Xi m);refine⟨q,A,?_⟩;unfold dC;rw[ALifn]
   ·exact G
   ·rintro rfl;have D:=List.pairwise_iff_getElem.1 h.one;rcases XQ r with l | l
    ·exact D i j n m l (by rw[o,u,A])
    ·exact D j i m n l (by rw[o,u,A])
 ·unfold dC;have r:j≠k:=by
   rintro rfl;refine g _ (Xi (show i<_ by simpa using n)) ?_;rw[c i n,o,u]
  rw[ALifn r];refine h.out j λx C=>?_;obtain⟨q,J,rfl⟩:=W9 C;rw[←c q J];exact g _ (Xi _)
 ·rw[Xr];intro a b H I B;have s:a<es.length:=by simpa using H
  have t:b<es.length:=by simpa using I
  rw[c a s,c b t];exact(List.pairwise_iff_getElem.1 h.one) a b s t B
def tL(P:Program)(T:TypeId):Option (TypeId×TypeId):=match P.underlying T with
 | some (.map K V)=>match P.underlying K with
  | some (.int .i64)=>some (K,V)
  | _=>none
 | _=>none
theorem A6{T K V:TypeId}(h:tL P T=some (K,V)):P.underlying T=some (.map K V)∧P.underlying K=some (.int .i64):=by
 unfold tL at h
 split at h
 ·rename_i c g a
  split at h
  ·rename_i b;cases h;exact⟨a,b⟩
  ·cases h
 ·cases h
theorem A7{K:TypeId}(a:P.underlying K=some (.int .i64))(b:Bool)(n:Nat)(k:Int):(Instr.checkKey b (n+1) K (.int .i64 k)).run P w= .ok () w:=by
 unfold Instr.checkKey;simp [WK,run_underlying a]
theorem tM{g:Nat}{es:Array MapEntry}{c:Nat}(h:w.heap[g]? =some (.map es c)):(getObj g).run P w= .ok (.map es c) w:=by simp [getObj,Sem.run,h]
theorem A8{g:Nat}{es:Array MapEntry}{c:Nat}(o:Obj)(h:w.heap[g]? =some (.map es c)):(setObj g o).run P w= .ok () (w.putObj g o):=by simp [setObj,Sem.run,h,X6]
def w5(P:Program)(p:Nat)(x:aA)(g:Nat)(k:Int)(dv:Value)(o:Oper)(ρ:Operand→Value)(_:cp):MD:=match o.op with
 | .lookup T a b false=>match tL P T with
  | some (K,V)=>⟨[(p,x)],λ_=>[],[sE (ρ a) (.map (some g)),sE (ρ b) (.int .i64 k),sE (λw=>(zeroValue V).run P w) (λw=> .ok dv w)]⟩
  | none=>MD.bad
 | _=>MD.bad
theorem IQ(p:Nat)(x:aA)(g:Nat)(k:Int)(h: ∀bs,x.sat bs→lO en d f g bs):MD.ok P (λ_=>en (f k)) (w5 P p x g k (en d)) []:=by
 intro o ρ C l w c q;unfold w5 at l q⊢
 split at l
 ·rename_i T a b n;simp only[n] at q⊢
  split at l
  ·rename_i K V D;simp only[D] at q⊢;simp only[WN,WL,or_false,forall_eq_or_imp,forall_eq,sE] at l;obtain⟨M,O,u⟩:=l;obtain⟨I,B⟩:=q.ent;obtain⟨H,r,Q,G⟩:=h _ I;rw[Q] at B;have F:=B.one;obtain⟨A,s⟩:=A6 D;have u:=congrFun u w;refine⟨ab.zero,λ_=>[],w,.inl ?_,λx h=>by simp at h,by simpa using a8.refl w⟩;have U:(Instr.lookup T (.map (some g)) (.int .i64 k) false).run P w= .ok (en (f k)) w:=by
    unfold Instr.lookup;have m:=A7 (P:=P) (w:=w) s H.isEmpty 9999 k;rcases jW.find (en:=en) (f:=f) (k:=k) (i:=0) G.key with⟨t,J⟩ | ⟨j,y,_,_,t⟩
    ·have S:f k=d:=G.out k J;simp [WK,run_underlying A,tM F,m,Instr.findKey,run_underlying s,t,u,S]
    ·simp [WK,run_underlying A,tM F,m,Instr.findKey,run_underlying s,t]
   unfold execOp;simp only[n,M,O,WK,U,WJ,WQ]
  ·exact(bE l).elim
 ·exact(bE l).elim
def mg(p:Nat)(x:aA)(g:Nat)(k:Int)(h: ∀bs,x.sat bs→lO en d f g bs):MH P (λ_=>en (f k)):=⟨[],w5 P p x g k (en d),IQ p x g k h⟩
def w6(P:Program)(p:Nat)(x y:aA)(g:Nat)(k:Int)(u:Value)(o:Oper)(ρ:Operand→Value)(_:cp):MD:=match o.op with
 | .mapUpdate T a b z=>match tL P T with
  | some _=>⟨[(p,x)],λ_=>[(p,y)],[sE (ρ a) (.map (some g)),sE (ρ b) (.int .i64 k),sE (ρ z) u]⟩
  | none=>MD.bad
 | _=>MD.bad
theorem IS(p g:Nat)(k:Int)(a:α):MD.ok P (λ_=>undef) (w6 P p (.p (lO en d f g)) (.p (lO en d (dC f k a) g)) g k (en a)) [p]:=by
 intro o ρ C u w c G;unfold w6 at u G⊢
 split at u
 ·rename_i T m b z x;simp only[x] at G⊢
  split at u
  ·rename_i KV X;obtain⟨K,V⟩:=KV;simp only[X] at G⊢;simp only[WN,WL,or_false,forall_eq_or_imp,forall_eq,sE] at u;obtain⟨Y,H,hz⟩:=u;obtain⟨h1,U⟩:=G.ent;obtain⟨r,l,Z,Q⟩:=h1;rw[Z] at U;have B:=U.one;obtain⟨S,I⟩:=A6 X;have A:=A7 (P:=P) (w:=w) I false 9999 k;have s: ∀t n,a8 ([p].flatMap λp=>bN (c p)) ([(g,Obj.map t n)]++[]) w (w.putObj g (.map t n)):=λt n=>by
    rw[show([p].flatMap λp=>bN (c p))=[g] by simp only[WV,Xb,Z,bN];rfl];exact a8.put rfl rfl rfl (by simp [X6]) (X5 (Array.getElem?_eq_some_iff.1 B).1) (λb H=>W7 H)
   rcases jW.find (en:=en) (f:=f) (k:=k) (i:=0) Q.key with⟨F,h4⟩ | ⟨j,y,hj,D,F⟩
   ·refine⟨ab.zero,λ_=>[(g,.map (r.push ⟨.int .i64 k,en a,l⟩) (l+1))],w.putObj g (.map (r.push ⟨.int .i64 k,en a,l⟩) (l+1)),.inr ⟨?_,by simp⟩,λq h=>?_,s _ _⟩
    ·have O:(Instr.mapUpdate T (.map (some g)) (.int .i64 k) (en a)).run P w= .ok () (w.putObj g (.map (r.push ⟨.int .i64 k,en a,l⟩) (l+1))):=by
      unfold Instr.mapUpdate;simp [WK,run_underlying S,tM B,A,Instr.findKey,run_underlying I,F,A8 _ B]
     unfold execOp;simp only[x,Y,H,hz,WK,O,WJ,WQ]
    ·rw[List.mem_singleton.1 h];exact⟨_,_,rfl,by rw[Array.toList_push];exact Q.push h4 a l⟩
   ·rw[WX] at F;have J:r[j]? =some y:=by rw[←Array.getElem?_toList];exact hj
    have M:(Instr.keyThatStays (((r[j]?).map (·.key)).getD (.int .i64 k)) (.int .i64 k)).run P w= .ok (.int .i64 k) w:=by
     rw[J];simp [D,Instr.keyThatStays,Instr.sameBits]
    refine⟨ab.zero,λ_=>[(g,.map (r.modify j λe=>{e with key:= .int .i64 k,val:=en a}) l)],w.putObj g (.map (r.modify j λe=>{e with key:= .int .i64 k,val:=en a}) l),.inr ⟨?_,by simp⟩,λq h=>?_,s _ _⟩
    ·have O:(Instr.mapUpdate T (.map (some g)) (.int .i64 k) (en a)).run P w= .ok () (w.putObj g (.map (r.modify j λe=>{e with key:= .int .i64 k,val:=en a}) l)):=by
      unfold Instr.mapUpdate;simp only[WK,run_underlying S,tM B,A,Instr.findKey,run_underlying I,F,M,WJ,WQ,A8 _ B]
     unfold execOp;simp only[x,Y,H,hz,WK,O,WJ,WQ]
    ·rw[List.mem_singleton.1 h];exact⟨_,_,rfl,by rw[Array.toList_modify];exact Q.set hj D a⟩
  ·exact(bE u).elim
 ·exact(bE u).elim
def mu(p g:Nat)(k:Int)(en:α→Value)(d:α)(f:Int→α)(a:α):MH P (λ_=>undef):=⟨[p],w6 P p (.p (lO en d f g)) (.p (lO en d (dC f k a) g)) g k (en a),IS p g k a⟩
def w7(P:Program)(p:Nat)(Q:Nat→ay→Prop)(o:Oper)(_:Operand→Value)(_:cp):MD:=match o.op with
 | .makeMap T none=>⟨[],λE=>[(p,.p (Q (E.y 0)))],[sE (λw=>(Instr.makeMap T none).run P w) (λw=> .ok (.map (some w.heap.size)) (w.alloc (.map #[] 0)))]⟩
 | _=>MD.bad
theorem IT(p:Nat)(en:α→Value)(d:α):MD.ok P (λE=> .map (some (E.y 0))) (w7 P p (lO en d λ_=>d)) []:=by
 intro o ρ C a w c g;unfold w7 at a g⊢
 split at a
 ·rename_i T b;simp only[b] at g⊢;simp only[Xx,forall_eq,sE] at a;refine⟨ab.of w.heap.size,λ_=>[(w.heap.size,.map #[] 0)],_,.inl ?_,λx h=>?_,by simpa using a8.alloc w (.map #[] 0)⟩
  ·unfold execOp;have:=congrFun a w;simp only[b,YH,WK,this,WJ,WQ];rfl
  ·rw[List.mem_singleton.1 h];exact⟨#[],0,rfl,jW.nil⟩
 ·exact(bE a).elim
def mm(p:Nat)(en:α→Value)(d:α):MH P (λE=> .map (some (E.y 0))):=⟨[],w7 P p (lO en d λ_=>d),IT p en d⟩
end
def qS(S:aj→Prop):ay→Prop:=λbs=>∃L a,S L∧bt L a∧bs=a.flatten
abbrev pk(S:aj→Prop):aA:= .p (qS S)
theorem qT: ∀{cs ds:List ay},bt (cs.map .c) ds→ds=cs
 | [],[],_=>rfl
 | c::cs,d::ds,h=>by rw[show d=c from h.1,qT h.2]
 | [],_::_,h=>h.elim
 | _::_,[],h=>h.elim
section
variable {R:List Nat} {base W w:World} {L L' N:aj}
theorem aE.weak(h:aE R base L W){x y:aA}(k:Nat)(j:L[k]? =some x)(i: ∀bs,x.sat bs→y.sat bs):aE R base (L.set k y) W:=by
 obtain⟨c,a⟩:=h;have b:=(List.getElem?_eq_some_iff.1 j).1;refine⟨c,?_⟩;rw[XA];refine⟨λp l z g=>?_,λp l m=>?_,a.obj,a.inn,a.nd,a.lo,a.os,a.tape,a.output,a.size,a.far⟩
 ·rw[YE] at g;by_cases e:k=p
  ·subst e;rw[ALifp rfl,ALifp b] at g;cases g;exact i _ (a.sat k b x j)
  ·rw[ALifn e] at g;exact a.sat p l z g
 ·rw[Xs,XA] at m;omega
theorem aE.nilS{α:Type}(h:aE R base L W)(en:α→List Value)(z:List Value)(T:TypeId):aE R base (L++[.p (aq en z T (.slice none 0 0) ([]:List α))]) W:=by
 obtain⟨cs,b,a⟩:=h.conc;refine aE.ofS (cs:=cs++[[]]) (ko b ⟨aq.nil none,trivial⟩) ?_;simpa using a
end
end
section
open Go Go.RowKit Go.Shelf
def ab.l(bs ns:List Nat)(vs:List Value):ab:=⟨λi=>bs.getD i 0,λi=>ns.getD i 0,λi=>vs.getD i undef⟩
section
variable {P:Program} {f:FuncId} {args:Array Value} {rd:aj} {O:List Nat} {wt:ab→aj} {v:ab→Value}
def A9(O:List Nat)(wt:ab→aj)(v:ab→Value)(cs:List ay)(w:World)(e:Ending)(w':World):Prop:=
 ∃E a,e= .returned (v E)∧bt (wt E) a∧a8 (O.flatMap λi=>bN (cs.getD i [])) a.flatten w w'
def pI:Option aA→Bool
 | some (.c _)=>true
 | _=>false
theorem aE.fin2{R:List Nat}{w W':World}{L:aj}{cs:List ay}(hs:bt rd cs)(r:Has cs.flatten w)(h:aE (bN cs.flatten) w L W')(O:List Nat)(N:aj)(g:List Nat)(a:List (Nat×Nat))
  (k:(dc (g++a.map (·.2)),g.map (λp=>L[p]?),a.map (λx=>L[x.2]?),a.all (λx=>pI rd[x.1]?),(Xk rd.length).all λi=>O.contains i||a.any λx=>x.1==i)=(true,N.map some,a.map (λx=>rd[x.1]?),true,true)):
  ∃ds,bt N ds∧a8 (O.flatMap λi=>bN (cs.getD i [])) ds.flatten w W':=by
 simp only[Prod.mk.injEq] at k;obtain⟨l,m,n,o,q⟩:=k;refine h.fin hs r O N g a ?_;simp only[Prod.mk.injEq];refine⟨l,m,?_,q⟩;rw[n];refine YA λx s=>?_;have b:=List.all_eq_true.1 o x s;cases d:rd[x.1]? with
 | none=>rw[d] at b;cases b
 | some y=>
  rw[d] at b;cases y with
  | c bs=>rw[show cs.getD x.1 []=bs from mj hs d]
  | p Q=>cases b
theorem aa.ro(i:Nat){Q:ay→Prop}(b:rd[i]? =some (.p Q))(h: ∀bs,Q bs→aa P f args (rd.set i (.c bs)) O wt v)(o:Enters P f):aa P f args rd O wt v:=by
 refine⟨o,λw a g q=>?_⟩;refine(h (a.getD i []) (mj g b)).out w a ?_ q;have k: ∀(rd:aj) (a:List ay) (i:Nat),bt rd a→i<rd.length→bt (rd.set i (.c (a.getD i []))) a:=by
  intro rd
  induction rd with
  | nil=>intro a i _ b;simp at b
  | cons x rd ih=>
   intro a i g b;obtain⟨d,m,rfl,n,l⟩:=et g;cases i with
   | zero=>exact⟨rfl,l⟩
   | succ i=>exact⟨n,ih m i l (by simpa using b)⟩
 exact k rd a i g (List.getElem?_eq_some_iff.1 b).1
theorem aa.at(h:aa P f args rd O wt v){rd':aj}(b: ∀cs,bt rd' cs→bt rd cs):aa P f args rd' O wt v:=⟨h.ent,λw cs c a=>h.out w cs (b cs c) a⟩
end
section
variable {P:Program} {f:FuncId} {args:Array Value} {u:Value}
end
section
variable {P:Program}
def Ba(c:BinOp)(a b:Value):TD:=λo ρ=>match o.op with | .binOp op' _ x y _=>[sE op' c,sE (ρ x) a,sE (ρ y) b] | _=>[sB false]
theorem IU{l:BinOp}{a b c:Value}(h: ∀(T:TypeId) (x y:Operand) (w:World),(av l T x y a b).run P w= .ok c w):TD.ok P (Ba l a b) c:=by
 intro o ρ d w;unfold Ba at d
 split at d
 ·rename_i p T x y q g;simp only[WN,WL,or_false,forall_eq_or_imp,forall_eq,sE] at d;obtain⟨rfl,m,n⟩:=d;have i:=h T x y w;unfold av at i;unfold execOp;simp only[g,m,n];have k:=lI i;unfold vS at k;exact k
 ·exact(bE d).elim
def tb{d:BinOp}{a b c:Value}(h: ∀(T:TypeId) (x y:Operand) (w:World),(av d T x y a b).run P w= .ok c w):TH P c:=⟨_,IU h⟩
def tN(c:BinOp)(T:TypeId)(a b:Value):TD:=λo ρ=>match o.op with | .binOp op' T' x y _=>[sE op' c,sE T' T,sE (ρ x) a,sE (ρ y) b] | _=>[sB false]
theorem w8{l:BinOp}{a b c:Value}(T:TypeId)(h: ∀(x y:Operand) (w:World),(av l T x y a b).run P w= .ok c w):TD.ok P (tN l T a b) c:=by
 intro o ρ d w;unfold tN at d
 split at d
 ·rename_i p T x y q g;simp only[WN,WL,or_false,forall_eq_or_imp,forall_eq,sE] at d;obtain⟨rfl,rfl,m,n⟩:=d;have i:=h x y w;unfold av at i;unfold execOp;simp only[g,m,n];have k:=lI i;unfold vS at k;exact k
 ·exact(bE d).elim
def iE{d:BinOp}{a b c:Value}(T:TypeId)(h: ∀(x y:Operand) (w:World),(av d T x y a b).run P w= .ok c w):TH P c:=⟨_,w8 T h⟩
def Bb(P:Program)(k l:IntKind)(a:Value):TD:=λo ρ=>match o.op with | .convert S T x=>[sE (P.underlying S) (some (.int k)),sE (P.underlying T) (some (.int l)),sE (ρ x) a] | _=>[sB false]
theorem IV{k l:IntKind}{a c:Value}(h: ∀(S T:TypeId) (w:World),P.underlying S=some (.int k)→P.underlying T=some (.int l)→(convert S T a).run P w= .ok c w):TD.ok P (Bb P k l a) c:=by
 intro o ρ b w;unfold Bb at b
 split at b
 ·rename_i S T x d;simp only[WN,WL,or_false,forall_eq_or_imp,forall_eq,sE] at b;obtain⟨i,m,n⟩:=b;unfold execOp;simp only[d,n];have g:=lI (h S T w i m);unfold vS at g;exact g
 ·exact(bE b).elim
def tc{k l:IntKind}{a c:Value}(h: ∀(S T:TypeId) (w:World),P.underlying S=some (.int k)→P.underlying T=some (.int l)→(convert S T a).run P w= .ok c w):TH P c:=⟨_,IV h⟩
def Wz(P:Program)(s:Sem Value):TD:=λo ρ=>[sE (λw=>(execOp ρ o).run P w) (λw=>(vS s).run P w)]
theorem Wn{v:Value}{s:Sem Value}(h: ∀w,s.run P w= .ok v w):TD.ok P (Wz P s) v:=λo ρ a w=>by
 simp only[Wz,Xx,forall_eq,sE] at a;exact(congrFun a w).trans (lI (h w))
end
end
section
open Go Go.RowKit Go.Shelf
abbrev bC(v:Value)(xs:List UInt8):aA:= .p (aq eB [.int .u8 0] 5 v xs)
abbrev dk(v:Value)(xs:List Int):aA:= .p (aq eI [.int .i64 0] 3 v xs)
section
variable {α:Type} {P:Program} {en:α→List Value} {z:List Value} {e T:TypeId} {v:Value} {xs ys:List α} {bs:ay} {w:World}
theorem cP{Q:ay→Prop}{bs:ay}(h:Q bs): ∀b,(aA.c bs).sat b→Q b:=λb a=>by rw[show b=bs from a];exact h
def xa(P:Program)(p q:Nat)(T':TypeId)(v:Value)(x:aA)(y:ab→aA)(news:List Value)(m:Nat)(o:Oper)(ρ:Operand→Value)(C:cp):MD:=match C q,o.op with
 | some (.c [(g,.cells b h (0,0))]),.call ⟨.builtin .append,a,_⟩=>match a.toList.map ρ with
  | [_,.slice (some ⟨_,d,none⟩) _ c]=>⟨[(p,x),(q,ob g b h)],λE=>[(p,y E)],[sE (λw=>(execOp ρ o).run P w) (λw=>(qK T' o.type v (.slice (some ⟨g,d,none⟩) m c)).run P w),sE ((b.toList.drop d).take news.length) news]⟩
  | _=>MD.bad
 | _,_=>MD.bad
theorem IW{T':TypeId}(p q:Nat)(B:dX P T' e z)(v:Value)(i: ∀y,(en y).length=z.length)(h1: ∀y,∀u∈en y,u.oneCell'=true)(F:xs.length+ys.length≤1000000):
  MD.ok P (λE=>E.val 0) (xa P p q T' v (.p (aq en z e v xs)) (λE=> .p (aq en z e (E.val 0) (xs++ys))) (ak en ys) ys.length) [p]:=by
 intro o ρ C b w c k;unfold xa at b k⊢
 split at b
 ·rename_i g s N a t A l;simp only[A,l] at k⊢
  split at b
  ·rename_i Q L I M r D;simp only[D] at k⊢;simp only[WN,WL,or_false,forall_eq_or_imp,forall_eq,sE] at b;obtain⟨n,x⟩:=b;obtain⟨E,d,K,G,H,m⟩:=IN (T':=T') (TY:=o.type) (p:=p) (q:=q) (v:=v) (xs:=xs) (c:=r) B i h1 rfl x F w c k;exact⟨E,d,K,G.imp (λh=>(congrFun n w).trans h) (λh=>⟨(congrFun n w).trans h.1,h.2⟩),H,m⟩
  ·exact(bE b).elim
 ·exact(bE b).elim
def IX{T':TypeId}(p q:Nat)(b:dX P T' e z)(v:Value)(h1: ∀y,∀u∈en y,u.oneCell'=true)(a: ∀y,(en y).length=z.length)(c:xs.length+ys.length≤1000000):MH P (λE=>E.val 0):=
 ⟨[p],xa P p q T' v (.p (aq en z e v xs)) (λE=> .p (aq en z e (E.val 0) (xs++ys))) (ak en ys) ys.length,IW p q b v a h1 c⟩
def xb(P:Program)(p q:Nat)(T':TypeId)(v u:Value)(x a:aA)(y:ab→aA)(o:Oper)(ρ:Operand→Value)(C:cp):MD:=
 ⟨[(p,x),(q,a)],λE=>[(p,y E)],[sE (λw=>(execOp ρ o).run P w) (λw=>(qK T' o.type v u).run P w)]⟩
theorem IY{T':TypeId}(p q:Nat)(l:dX P T' e z)(v u:Value)(k:aA)(s: ∀bs,k.sat bs→SrE en u ys bs)(a: ∀y,(en y).length=z.length)(h1: ∀y,∀u∈en y,u.oneCell'=true)(m:xs.length+ys.length≤1000000):
  MD.ok P (λE=>E.val 0) (xb P p q T' v u (.p (aq en z e v xs)) k (λE=> .p (aq en z e (E.val 0) (xs++ys)))) [p]:=by
 intro o ρ C b w c i;simp only[xb,Xx,forall_eq,sE] at b i⊢;obtain⟨E,d,t,n,r,g⟩:=IP (T':=T') (TY:=o.type) (p:=p) (q:=q) (v:=v) (xs:=xs) l a h1 s m w c i;exact⟨E,d,t,n.imp (λh=>(congrFun b w).trans h) (λh=>⟨(congrFun b w).trans h.1,h.2⟩),r _ (List.mem_singleton.2 rfl),g⟩
def mo{T':TypeId}(p q:Nat)(c:dX P T' e z)(v u:Value)(b:aA)(g: ∀bs,b.sat bs→SrE en u ys bs)(h1: ∀y,∀u∈en y,u.oneCell'=true)(a: ∀y,(en y).length=z.length)(d:xs.length+ys.length≤1000000):MH P (λE=>E.val 0):=
 ⟨[p],xb P p q T' v u (.p (aq en z e v xs)) b (λE=> .p (aq en z e (E.val 0) (xs++ys))),IY p q c v u b g a h1 d⟩
end
section
variable {P:Program}
def tO(P:Program)(b:TypeId)(n:Nat)(a:List (Nat×Operand))(ρ:Operand→Value):Array Value:=
 ((Xk n).flatMap λi=>match a.find? (λx=>x.1==i) with | some x=>(ρ x.2).cells.toList | none=>(qG P b).toList).toArray
def xd(P:Program)(p n:Nat)(o:Oper)(ρ:Operand→Value)(_:cp):MD:=match o.op with
 | .buildSlice T b a=>⟨[],λE=>[(p,ob (E.y 0) (tO P (P.elem T) n a.toList ρ) (P.elem T))],[sE b n,sE (λw=>(execOp ρ o).run P w) (λw=> .ok (.value (.slice (some ⟨w.heap.size,0,none⟩) n n)) (w.alloc (.cells (tO P (P.elem T) n a.toList ρ) (P.elem T))))]⟩
 | _=>MD.bad
theorem IZ(p n:Nat):MD.ok P (λE=> .slice (some ⟨E.y 0,0,none⟩) n n) (xd P p n) []:=by
 intro o ρ C a w c d;unfold xd at a d⊢
 split at a
 ·rename_i T i g b;simp only[b] at d⊢;simp only[WN,WL,or_false,forall_eq_or_imp,forall_eq,sE] at a;refine⟨ab.of w.heap.size,λ_=>[(w.heap.size,.cells (tO P (P.elem T) n g.toList ρ) (P.elem T) (0,0))],_,.inl (congrFun a.2 w),λx h=>?_,by simpa using a8.alloc w (.cells (tO P (P.elem T) n g.toList ρ) (P.elem T))⟩;rw[List.mem_singleton.1 h];rfl
 ·exact(bE a).elim
def bs(p n:Nat):MH P (λE=> .slice (some ⟨E.y 0,0,none⟩) n n):=⟨[],xd P p n,IZ p n⟩
def xe(P:Program){α:Type}(p:Nat)(en:α→List Value)(z:List Value)(a:TypeId)(o:Oper)(ρ:Operand→Value)(_:cp):MD:=
 ⟨[],λE=>[(p,.p (aq en z a (.slice (some ⟨E.y 0,0,none⟩) 0 0) []))],[sE (λw=>(execOp ρ o).run P w) (λw=> .ok (.value (.slice (some ⟨w.heap.size,0,none⟩) 0 0)) (w.alloc (.cells #[] a)))]⟩
theorem I0{α:Type}(p:Nat)(en:α→List Value)(z:List Value)(d:TypeId):MD.ok P (λE=> .slice (some ⟨E.y 0,0,none⟩) 0 0) (xe P p en z d) []:=by
 intro o ρ C a w c g;simp only[xe,Xx,forall_eq,sE] at a g⊢;refine⟨ab.of w.heap.size,λ_=>[],_,.inl (congrFun a w),aq.nil _,?_⟩;have:=a8.alloc w (.cells #[] d);exact⟨this.os,this.tape,this.output,this.size,λ_ h=>by simp at h,λ_ h=>by simp at h,by simp,λb i k=>this.far b i (by simp)⟩
def qU{α:Type}(p:Nat)(en:α→List Value)(z:List Value)(a:TypeId):MH P (λE=> .slice (some ⟨E.y 0,0,none⟩) 0 0):=⟨[],xe P p en z a,I0 p en z a⟩
end
section
variable {α:Type} {P:Program} {en:α→List Value} {z:List Value} {e T:TypeId} {v:Value} {xs:List α}
def xf(P:Program)(p:Nat)(x:aA)(v:Value)(l s:Nat)(o:Oper)(ρ:Operand→Value)(_:cp):MD:=match o.op with
 | .slice T a (some b) none none=>⟨[(p,x)],λ_=>[],[sE (ρ a) v,sE (ρ b) (.int .i64 (l:Int)),sE (P.underlying T,iY P (P.elem T)) (some (.slice (P.elem T)),some s)]⟩
 | _=>MD.bad
theorem I1(p:Nat)(x:aA)(l s:Nat)(h: ∀bs,x.sat bs→aq en z T v xs bs)(D:l≤xs.length):MD.ok P (λ_=>gT v l xs.length s) (xf P p x v l s) []:=by
 intro o ρ C d w c k;unfold xf at d k⊢
 split at d
 ·rename_i i a b g;simp only[g] at k⊢;simp only[WN,WL,or_false,forall_eq_or_imp,forall_eq,sE] at d;obtain⟨t,y,n⟩:=d;obtain⟨h1,B⟩:=k.ent;obtain⟨m,r,rfl⟩:=(h _ h1).slice;have q:P.underlying i=some (.slice (P.elem i)):=ALca (·.1) n;have A:(Instr.sliceAt i (.slice m xs.length (xs.length+r)) (some (.int .i64 (l:Int))) none none).run P w= .ok (sliced m l xs.length (xs.length+r) s) w:=by
   rw[run_sliceAt_slice (h:=q),run_slice_l (ht:=q) (kl:= .i64) (l:=(l:Int)) (h0:=by omega) (h1:=by omega),nT (ALca (·.2) n)];simp only[WJ,Xm]
  refine⟨ab.zero,λ_=>[],w,.inl ?_,λx h=>by simp at h,by simpa using a8.refl w⟩;unfold execOp;simp only[g,t,WW,YH,y,WK,A,WJ,WQ,gT]
 ·exact(bE d).elim
def I2(p:Nat)(x:aA)(l s:Nat)(h: ∀bs,x.sat bs→aq en z T v xs bs)(a:l≤xs.length):MH P (λ_=>gT v l xs.length s):=⟨[],xf P p x v l s,I1 p x l s h a⟩
end
section
variable {P:Program}
theorem mh.two{a b:Nat×aA}{c:gw}{w:World}(h:mh [a,b] c w):mh [a] c w∧b.2.sat (c b.1):=by
 have d:=h.has;simp only[WV,Xb,XP] at d;exact⟨⟨λx g=>h.sat x (by rw[List.mem_singleton.1 g];simp),by simpa using(⟨λx g=>d.obj x (WR _ g),(List.pairwise_append.1 d.nd).1⟩:Has (c a.1) w)⟩,h.sat b (by simp)⟩
def xg(P:Program)(p q:Nat)(x:aA)(v:Value)(o:Oper)(ρ:Operand→Value)(C:cp):MD:=match o.op,C p with
 | .store T a b,some (.c [(g,.cells h i (0,0))])=>match kK (ρ a) with
  | some (k,d)=>⟨[(p,ob g h i),(q,x)],λ_=>[(p,ob g (h.setIfInBounds d v) i)],[sE k g,sB (X0 d h.size),sE (ρ b) v,sE ((P.info? T).map (·.size)) (some 1)]⟩
  | none=>MD.bad
 | _,_=>MD.bad
theorem I3(p q:Nat)(x:aA)(v:Value)(hv: ∀bs,x.sat bs→v.oneCell'=true):MD.ok P (λ_=>undef) (xg P p q x v) [p]:=by
 intro o ρ C d w c k;unfold xg at d k⊢
 split at d
 ·rename_i T a b g s H i D;simp only[i,D] at k⊢
  split at d
  ·rename_i t m n;simp only[n] at k⊢;simp only[WN,WL,or_false,forall_eq_or_imp,forall_eq,sE,sB] at d;obtain⟨rfl,y,A,B⟩:=d;obtain⟨l,G⟩:=k.two;obtain⟨F,r⟩:=l.one;refine⟨ab.zero,λ_=>[(t,.cells (s.setIfInBounds m v) H (0,0))],_,.inr ⟨?_,by simp⟩,λz h=>?_,by simpa [F,bN] using a8.setc v r⟩
   ·unfold execOp;simp only[i,mZ n,A,Instr.storeAt,Instr.sureAddr,WK,WQ,WJ,tn r (XY▸y) (hv _ G) B]
   ·rw[List.mem_singleton.1 h];rfl
  ·exact(bE d).elim
 ·exact(bE d).elim
def fj(p q:Nat)(x:aA)(v:Value)(hv: ∀bs,x.sat bs→v.oneCell'=true):MH P (λ_=>undef):=⟨[p],xg P p q x v,I3 p q x v hv⟩
theorem aq.one{α:Type}{en:α→List Value}{z:List Value}{T:TypeId}{v:Value}{xs:List α}{bs:ay}(h:aq en z T v xs bs):v.oneCell'=true:=by
 obtain⟨a,r,rfl⟩:=h.slice;rfl
end
def TH.cast{P:Program}{a b:Value}(t:TH P a)(h:a=b):TH P b:=⟨t.d,h▸t.h⟩
def I4(P:Program)(a:Value):TD:=λo ρ=>[sE (λw=>(execOp ρ o).run P w) (λw=> .ok (.value a) w)]
def tk{P:Program}{a v:Value}(h:a=v):TH P v:=⟨I4 P a,λo ρ b w=>by rw[←h];exact congrFun (b _ (List.mem_singleton.2 rfl)) w⟩
theorem oL: ∀(y:UInt8),∀u∈eB y,u.oneCell'=true:=λy u a=>by rw[List.mem_singleton.1 a];rfl
theorem oM:dX Tryz.prog 191 5 [.int .u8 0]:=dX.mk' Kr Kr rfl
end
section
open Go Go.RowKit Go.Shelf
section
variable {α:Type} {P:Program} {en:α→List Value} {v:Value} {xs:List α} {bs:ay} {w:World}
theorem SrE.form(h:SrE en v xs bs): ∃a c,v= .slice a xs.length c:=by
 rcases h with⟨rfl,a,c,rfl⟩ | ⟨g,b,d,t,i,c,rfl,_⟩
 ·exact⟨a,c,rfl⟩
 ·exact⟨_,_,rfl⟩
theorem SrE.some(h:SrE en v xs bs){i:Nat}(b:i<xs.length): ∃(g off:Nat) (cs:Array Value) (t:TypeId) (a:Nat×Nat) (c:Nat),v= .slice (.some ⟨g,off,none⟩) xs.length c∧(g,Obj.cells cs t a)∈bs∧(cs.toList.drop off).take (ak en xs).length=ak en xs:=by
 rcases h with⟨rfl,_⟩ | h
 ·simp at b
 ·exact h
theorem Bc{l:List Value}{off k i:Nat}{d:α}(c:(l.drop off).take (ak en xs).length=ak en xs)(h: ∀x,(en x).length=k)(a:i<xs.length):(l.drop (off+i*k)).take k=en (xs.getD i d):=by
 have g:=fJ h (xs:=xs) rfl;have b:(i+1)*k≤xs.length*k:=Xg _ a;rw[Xj] at b;rw[←tI (d:=d) h a]
 conv=>rhs;rw[←c]
 rw[Ya,Yp,Xa,Yo Om]
theorem I5{cs:Array Value}{off k i f:Nat}{d:α}{u:Value}(c:(cs.toList.drop off).take (ak en xs).length=ak en xs)(h: ∀x,(en x).length=k)(b:i<xs.length)(hf:f<k)(g:(en (xs.getD i d))[f]? = .some u):cs[off+(i*k+f)]? = .some u:=by
 have a:=ALca (λl=>l[f]?) (Bc (d:=d) c h b);simp only[XI hf,X2] at a;rw[←Array.getElem?_toList,←Ys,a,g]
theorem Bd{P:Program}{w:World}{g off:Nat}{p T:TypeId}{cs:Array Value}{d:Nat×Nat}{l:List Value}(m:w.heap[g]? = .some (.cells cs p d))(n:(cs.toList.drop off).take l.length=l)(h:dO P T=true)(c:(P.info? T).map (·.size)= .some l.length):(loadVar T ⟨g,off,none⟩).run P w= .ok (.agg l.toArray) w:=by
 have k:(loadCells ⟨g,off,none⟩ l.length).run P w= .ok l.toArray w:=run_loadCells_list (P:=P) w ⟨g,off,none⟩ l (oH m n);cases b:P.info? T with
 | none=>simp [b] at c
 | some i=>
  have o:i.size=l.length:=by simpa [b] using c
  have a:(isAgg T).run P w= .ok true w:=by
   unfold isAgg;unfold dO at h
   split at h
   ·rename_i e;rw[WK,run_underlying e w];simp
   ·rename_i e;rw[WK,run_underlying e w];simp
   ·cases h
  simp [loadVar,WK,a,sizeOf,typeInfo,b,o,k]
theorem I6(p:Nat)(x:aA)(h: ∀bs,x.sat bs→SrE en v xs bs):MD.ok P (λ_=> .int .i64 (xs.length:Int)) (pE P p x v) []:=by
 intro o ρ C d w c g;unfold pE at d g⊢
 split at d
 ·rename_i a t i;simp only[i] at g⊢;simp only[WN,WL,or_false,forall_eq_or_imp,forall_eq,sE,sB] at d;obtain⟨l,q⟩:=d;obtain⟨m,y⟩:=g.ent;obtain⟨b,k,rfl⟩:=(h _ m).form;obtain⟨r,s,rfl,n⟩:=A3 q;refine⟨ab.zero,λ_=>[],w,.inl ((congrFun l w).trans (lI ?_)),λx h=>by simp at h,by simpa using a8.refl w⟩;simp [Builtin.len_,run_underlying n,goInt,WK]
 ·exact(bE d).elim
def I7(p:Nat)(x:aA)(h: ∀bs,x.sat bs→SrE en v xs bs):MH P (λ_=> .int .i64 (xs.length:Int)):=⟨[],pE P p x v,I6 p x h⟩
theorem I8(p:Nat)(x:aA)(i s:Nat)(h: ∀bs,x.sat bs→SrE en v xs bs)(q:i<xs.length):MD.ok P (λ_=>e7 v (i*s)) (pF P p x v i s) []:=by
 intro o ρ C d w c m;unfold pF at d m⊢
 split at d
 ·rename_i G a b l;simp only[l] at m⊢;simp only[WN,WL,or_false,forall_eq_or_imp,forall_eq,sE] at d;obtain⟨B,D,A⟩:=d;obtain⟨y,K⟩:=m.ent;obtain⟨g,off,H,t,I,r,rfl,_⟩:=(h _ y).some q;refine⟨ab.zero,λ_=>[],w,.inl ?_,λx h=>by simp at h,by simpa using a8.refl w⟩;unfold execOp;have F:=bT (P:=P) (w:=w) (g:=g) (off:=off) (n:=xs.length) (c:=r) (k:=i) (s:=s) A q;simp only[l,B,D,WK,F,WJ,WQ,e7,add_lit]
 ·exact(bE d).elim
def I9(p:Nat)(x:aA)(i s:Nat)(h: ∀bs,x.sat bs→SrE en v xs bs)(a:i<xs.length):MH P (λ_=>e7 v (i*s)):=⟨[],pF P p x v i s,I8 p x i s h a⟩
theorem Ja(p:Nat)(x:aA)(i k f:Nat){d:α}{u:Value}(h: ∀bs,x.sat bs→SrE en v xs bs)(I: ∀y,(en y).length=k)(r:i<xs.length)(hf:f<k)(K:(en (xs.getD i d))[f]? = .some u):MD.ok P (λ_=>u) (pG P p x v (i*k+f)) []:=by
 intro o ρ C b w c m;unfold pG at b m⊢
 split at b
 ·rename_i M a l;simp only[l] at m⊢;simp only[WN,WL,or_false,forall_eq_or_imp,forall_eq,sE] at b;obtain⟨q,G⟩:=b;obtain⟨B,D⟩:=m.ent;obtain⟨g,L,s,t,A,N,rfl,H,F⟩:=(h _ B).some r;have n:w.cell? ⟨g,L+(i*k+f),none⟩= .some u:=(cell_of_row w g _ s t A (D.obj _ H)).trans (I5 F I r hf K);refine⟨ab.zero,λ_=>[],w,.inl ?_,λx h=>by simp at h,by simpa using a8.refl w⟩;unfold execOp;simp only[e7,add_lit] at q;simp only[l,q,Instr.loadAt,Instr.sureAddr,WK,WQ,WJ,qw (congrFun G w) n]
 ·exact(bE b).elim
def Jc(p:Nat)(x:aA)(i k f:Nat){d:α}{u:Value}(h: ∀bs,x.sat bs→SrE en v xs bs)(b: ∀y,(en y).length=k)(a:i<xs.length)(hf:f<k)(c:(en (xs.getD i d))[f]? = .some u):MH P (λ_=>u):=⟨[],pG P p x v (i*k+f),Ja p x i k f h b a hf c⟩
theorem Jd(p:Nat)(x:aA)(i k f:Nat){d:α}{l:List Value}(h: ∀bs,x.sat bs→SrE en v xs bs)(K: ∀y,(en y).length=k)(A:i<xs.length)(hf:f+l.length≤k)(N:((en (xs.getD i d)).drop f).take l.length=l):MD.ok P (λ_=> .agg l.toArray) (m5 P p x v (i*k+f) l.length) []:=by
 intro o ρ C b w c q;unfold m5 at b q⊢
 split at b
 ·rename_i S a m;simp only[m] at q⊢;simp only[WN,WL,or_false,forall_eq_or_imp,forall_eq,sE,sB] at b;obtain⟨s,I,M⟩:=b;obtain⟨B,D⟩:=q.ent;obtain⟨g,r,n,t,V,U,rfl,H,G⟩:=(h _ B).some A;refine⟨ab.zero,λ_=>[],w,.inl ?_,λx h=>by simp at h,by simpa using a8.refl w⟩;unfold execOp;simp only[e7,add_lit] at s;have Q:=Bc (d:=d) G K A;have L:(n.toList.drop (r+(i*k+f))).take l.length=l:=by
   have F:(n.toList.drop (r+(i*k+f))).take l.length=(((n.toList.drop (r+i*k)).take k).drop f).take l.length:=by
    rw[Ya,Yp,Xa,←Ys,Yo Om]
   rw[F,Q,N]
  simp only[m,s,Instr.loadAt,Instr.sureAddr,WK,WQ,WJ,Bd (D.obj _ H) L I M]
 ·exact(bE b).elim
def Je(p:Nat)(x:aA)(i k f:Nat){d:α}{l:List Value}(h: ∀bs,x.sat bs→SrE en v xs bs)(b: ∀y,(en y).length=k)(a:i<xs.length)(hf:f+l.length≤k)(c:((en (xs.getD i d)).drop f).take l.length=l):MH P (λ_=> .agg l.toArray):=⟨[],m5 P p x v (i*k+f) l.length,Jd p x i k f h b a hf c⟩
end
end
section
open Go Go.RowKit Go.Shelf
theorem pJ{L:aj}(b:List Nat){Os:List ay}(g:b.map (λp=>L[p]?)=Os.map λo=>some (.c o)):iX Os.flatten L:=by
 intro x k;obtain⟨o,h,a⟩:=List.mem_flatten.1 k;have d:some (aA.c o)∈b.map (λp=>L[p]?):=by rw[g];exact List.mem_map.2 ⟨o,h,rfl⟩
 obtain⟨p,_,i⟩:=List.mem_map.1 d;exact⟨o,XX i,a⟩
theorem tQ: ∀Os:List ay,bt (Os.map .c) Os
 | []=>trivial
 | _::Os=>⟨rfl,tQ Os⟩
theorem ec{Q:ay→Prop}{bs:ay}{L L':aj}(b:Q bs)(h: ∀cs,bt L' cs→bt L cs): ∀cs,bt (.c bs::L') cs→bt (.p Q::L) cs
 | [],a=>a.elim
 | d::cs,a=>⟨by rw[show d=bs from a.1];exact b,h cs a.2⟩
theorem aP{x:aA}{L L':aj}(h: ∀cs,bt L' cs→bt L cs): ∀cs,bt (x::L') cs→bt (x::L) cs
 | [],a=>a.elim
 | _::cs,a=>⟨a.1,h cs a.2⟩
theorem aa.v{P:Program}{f:FuncId}{args:Array Value}{rd:aj}{O:List Nat}{wt:ab→aj}{v a:ab→Value}(h:aa P f args rd O wt v)(e: ∀E,v E=a E):aa P f args rd O wt a:=by
 rwa [show a=v from funext λE=>(e E).symm]
section
variable {R:List Nat} {base W W':World} {Os:List ay}
theorem aE.ndC(h:aE R base (Os.map .c) W):Os.flatten.Pairwise λx y=>x.1≠y.1:=by
 obtain⟨d,b,a⟩:=h.conc;rw[qT b] at a;exact a.nd
variable {J:Nat→(Nat→Prop)→World→Prop} {W0 wr:World} {LE:aj} {j:Nat}
structure fx (J:Nat→(Nat→Prop)→World→Prop) (Os:List ay) (W0:World) (j:Nat) (R:List Nat) (base:World):Prop where
 ex: ∃L,fI J Os.flatten W0 L j base∧R=(Os.flatten++L).map (·.1)
def jc(J:Nat→(Nat→Prop)→World→Prop)(Os:List ay)(W0:World)(LE:aj)(j:Nat)(wr:World):Prop:=∃a,bt LE a∧fI J Os.flatten W0 a.flatten j wr
theorem fx.step(h:Hid (fx J Os W0 j R base))(b:gH J)(d:aE R base (Os.map .c++LE) W'):jc J Os W0 LE j W':=by
 obtain⟨L,a,rfl⟩:=h.out.ex;exact a.stepE b (λi g=>by rw[qT g]) d
theorem jc.start(h:jc J Os W0 LE j wr): ∃R,Hid (fx J Os W0 j R wr)∧Hid (aE R wr (Os.map .c++LE) wr):=by
 obtain⟨g,d,b⟩:=h;refine⟨_,Lib.hid ⟨_,b,rfl⟩,Lib.hid ?_⟩;have a:=aE.start (w:=wr) (ko (tQ Os) d) (by rw[Xc];exact b.has);rw[Xc] at a;exact a
theorem jc.zero(h:fI J Os.flatten W0 [] 0 W0):jc J Os W0 [] 0 W0:=⟨[],trivial,h⟩
theorem jc.leaf(h:jc J Os W0 LE j wr): ∃L,fI J Os.flatten W0 L j wr:=by
 obtain⟨b,_,a⟩:=h;exact⟨_,a⟩
end
end
section
open Go Go.RowKit Go.Shelf
def aG{α:Type}(en:α→List Value)(v:Value)(xs:List α):ay→Prop:=λbs=>SrE en v xs bs∧∃a r,v= .slice a xs.length (xs.length+r)
section
variable {α:Type} {P:Program} {en:α→List Value} {z:List Value} {T:TypeId} {v:Value} {xs:List α} {bs:ay}
theorem aq.sq(h:aq en z T v xs bs):aG en v xs bs:=⟨h.src,h.slice⟩
theorem aG.drop{k:Nat}(F: ∀y,(en y).length=k)(h:aG en v xs bs){l:Nat}(I:l≤xs.length):aG en (gT v l xs.length k) (xs.drop l) bs:=by
 obtain⟨x,a,r,rfl⟩:=h;have d:(xs.drop l).length=xs.length-l:=W5;refine⟨?_,?_⟩
 ·by_cases e:l=xs.length
  ·subst e;refine .inl ⟨XV,?_⟩;simp only[gT,sliced,YK];exact⟨_,_,rfl⟩
  ·obtain⟨g,b,n,t,s,c,A,B,C⟩:=x.some (i:=l) Om;injection A with q G H;subst q;refine .inr ⟨g,b+l*k,n,t,s,xs.length+r-l,?_,B,?_⟩
   ·simp only[gT,sliced];rw[ALifn Om,d];simp only[WW];rw[show(⟨g,b,none⟩:Addr).add (l*k)=⟨g,b+l*k,none⟩ from by unfold Addr.add;split<;>simp_all]
   ·have o:ak en xs=ak en (xs.take l)++ak en (xs.drop l):=by rw[←kp,XU]
    have p:(ak en (xs.take l)).length=l*k:=by rw[fJ F rfl,XG];congr 1;omega
    rw[←Xa];have m:(((n.toList.drop b).take (ak en xs).length).drop (l*k))=(ak en xs).drop (l*k):=ALca (λy=>y.drop (l*k)) C;rw[Ya] at m;have D:(ak en xs).drop (l*k)=ak en (xs.drop l):=by
     conv=>lhs;rw[o]
     rw[←p,List.drop_left]
    rw[D] at m;rw[show(ak en (xs.drop l)).length=(ak en xs).length-l*k by rw[o,WY,p];omega];exact m
 ·simp only[gT,sliced];exact⟨_,r,by rw[d];congr 1;omega⟩
end
theorem bL{Q b:ay→Prop}{L L':aj}(c: ∀bs,Q bs→b bs)(h: ∀cs,bt L' cs→bt L cs): ∀cs,bt (.p Q::L') cs→bt (.p b::L) cs
 | [],a=>a.elim
 | d::cs,a=>⟨c d a.1,h cs a.2⟩
end
end E
end Go.Proofs.YtbcodenfkijdnaaGreat
