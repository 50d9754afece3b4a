/- WholeModes, in 7 texts: part 1. For every input; no condition. -/
import Derived.Below
import Derived.Laws.OwnMore
import Derived.Deep.Draws
import Derived.Laws.Rows
import Derived.OpenShut
import Derived.Test.YtbcodenfkijdnaaGreatRows
import Derived.WalkKit
import Derived.WalkSpells
import Derived.WalkLawsBesides
import Derived.Lib.Hide
import Derived.RangeFuncNested
import Derived.RangeFuncBound
import Derived.RangeFuncCalls
import Derived.RangeFuncLeaves
import Derived.RangeFuncBox
import Derived.Shelf.Abstract
import Derived.Sort.QuietIn
import Derived.OwnWalkIn
import Derived.StillTail
import Derived.Laws.Small
import Derived.Laws.CopyRow
import Derived.Laws.CopyOwn
import Derived.TacticsInMore
import Derived.WideShapes
import Derived.WideOpen
import Derived.Laws.AppendOwn
import Derived.StillTailTactics
import Derived.LoopNIn
import Derived.LoopIn
import Derived.Laws.StructEq
import Derived.ChangeKeysEq
import Derived.Sort.BigQuietIn
import Derived.Sort.CutIn
import Derived.Lib.Agree
import Derived.Deep.WholeRow
import Derived.Deep.RegionWith
import Derived.Deep.CutRange
import Derived.IntWalk
import Derived.Laws.Append
set_option linter.unusedVariables false
set_option linter.unusedSimpArgs false
set_option maxRecDepth 100000
namespace Go.Proofs.YtbcodenfkijdnaaGreat
open Go.Result renaming andThen_ok→Zl
open Go.Sem renaming run_bind→Zm,run_pure→Zr
open List renaming getElem?_eq_getElem→Zn,not_mem_nil→Zo,getD_eq_getElem?_getD→Zp,mem_cons→Zq,mem_append_left→Zs,mem_append_right→Zt,flatMap_cons→Zw,length_append→Zz,take_append_of_le_length→ZA,getElem?_eq_none→ZB,length_drop→ZC,size_toArray→ZD,getElem?_map→ZF,getElem_of_mem→ZG,drop_drop→ZH,length_cons→ZI,flatMap_nil→ZJ,flatten_append→ZK,replicate→ZM,mem_cons_of_mem→ZN,getElem_mem→ZP,range→ZR,drop_append_of_le_length→ZS,length_nil→ZU,setIfInBounds_toArray→ZV,pairwise_flatMap→ZX,pairwise_iff_getElem→ZZ,getElem?_eq_none_iff→Z0,pairwise_singleton→Z1,mem_map_of_mem→Z2,take_length→Z3,mem_singleton→Z4,getElem?_toArray→Z6,length_set→Z7,drop_eq_getElem_cons→aaa,drop_zero→aab,flatMap_def→aac,length_take→aad,getElem?_take_of_lt→aaf,getElem?_cons_zero→aah,getElem?_cons_succ→aai,map_cons→aak,append_nil→aal,take_of_length_le→aan,flatten_cons→aao,append_assoc→aap,take_append_drop→aaq,drop_length→aar,mem_of_getElem?→aat,getElem?_range→aav,getElem?_drop→aax,sublist_append_left→aaz,length_map→aaC,drop_left'→aaD,drop_take→aaF,replicate_succ→aaG,take_succ_cons→aaH,mem_cons_self→aaI,zip_cons_cons→aaJ,ext_getElem?→aaM,range'_succ→aaP,length→aaQ,range'→aaR,nil_append→aaS,take_take→aaU,length_eq_zero_iff→aaW,pairwise_flatten→aaZ,getElem?_range'→aa3,set_append_left→aa4,map_congr_left→aa6,drop_succ_cons→aa7,length_range'→aa9,getElem?_set→aba,length_range→abb,mem_append→abe,headD_cons→abf
open Bool renaming and_eq_true→Zu,or_eq_true→Z5,false_eq_true→aaj,noConfusion→aaO
open Nat renaming le_refl→Zv,zero_add→Zx,le_trans→ZL,mul_le_mul_right→ZO,succ_mul→ZQ,mod_two_eq_zero_or_one→ZW,lt_of_lt_of_le→ZY,lt_or_ge→Z8,mod_eq_of_lt→aae,mul_one→aag,lt_or_gt_of_ne→aam,blt_eq→aau,blt→aaw,add_comm→aaE,min_eq_left→aaT,shiftRight_eq_div_pow→aaV,add_sub_cancel_left→aaX,add_assoc→aaY,pow_succ→aa0,zero_mul→aa1,le_of_ble_eq_true→aa2,xor_lt_two_pow→abc,sub_self→abg,sub_zero→abh
open Option renaming map_some→Zy,getD_some→aaK,bind_some→aaL,map_none→abd
open Go.World renaming putObj_heap_other→ZE,alloc_heap_new→aas,putObj_heap_same→aaA,putObj→aaB
open Int renaming toNat_natCast→ZT,natCast_nonneg→aay
open Go.IntKind renaming wrap_u64→Z9,wrap_i64→aa8
open Classical renaming byContradiction→aaN
open UInt8 renaming toNat_ofNat'→aa5
section
open Go Go.RowKit
theorem LL:(∀{α:Type} (l:List α) (i:Nat) (a:α),(l.set i a).length=l.length)∧(∀{α:Type} (l m:List α),(l++m).length=l.length+m.length)∧(∀{α:Type} (n:Nat) (a:α),(ZM n a).length=n)∧(∀{α:Type} (a:α) (l:List α),(a::l).length=l.length+1)∧(∀{α:Type},([]:List α).length=0)∧(∀{α β:Type} (f:α→β) (l:List α),(l.map f).length=l.length)∧(∀n:Nat,(ZR n).length=n)∧(∀{α:Type} (i:Nat) (l:List α),(l.take i).length=min i l.length)∧(∀{α:Type} (i:Nat) (l:List α),(l.drop i).length=l.length-i):=by simp
abbrev z6:List UInt8:=ZM 64 0
theorem Kr{p:Prop}(h:p:=by kernel_rfl):p:=h
theorem ALifn.{u} {c:Prop} [h:Decidable c] (g: ¬c) {α:Sort u} {t e:α}:ite c t e=e:=if_neg g
theorem ALifp.{u} {c:Prop} [h:Decidable c] (g:c) {α:Sort u} {t e:α}:ite c t e=t:=if_pos g
theorem ALcf.{u} {α:Type u} (a b:α):cond false a b=b:=rfl
theorem ALct.{u} {α:Type u} (a b:α):cond true a b=a:=rfl
theorem ALca.{u,v} {α:Sort u} {β:Sort v} {a b:α} (f:α→β) (h:a=b):f a=f b:=congrArg f h
theorem bl{p:Prop}[h:Decidable p](g: ¬p):decide p=false:=decide_eq_false g
theorem cC{p:Prop}[h:Decidable p](g:p):decide p=true:=decide_eq_true g
theorem db{α:Type}[BEq α][LawfulBEq α]{a b:α}:(a==b)=false↔a≠b:=beq_eq_false_iff_ne
theorem Om{p:Prop}(h:p:=by omega):p:=h
theorem Dc{p:Prop}(h:p:=by decide):p:=h
theorem As{p:Prop}(h:p:=by assumption):p:=h
theorem bc{p:Prop}(h:p:=by rfl):p:=h
end
section
open Go.RowKit

end
section
open Go.RowKit
def mv(w:World)(g:Nat)(t:TypeId)(cs:Array Value):Prop:=w.heap[g]? =some (.cells cs t (0,0))
section
variable {w w':World} {g:Nat} {t:TypeId} {cs:Array Value}
theorem mv.cell(h:mv w g t cs)(i:Nat):w.cell? ⟨g,i,none⟩=cs[i]? :=cell_of_row w g i cs t (0,0) h
theorem mv.frozen(h:mv w g t cs)(i:Nat):w.frozen? ⟨g,i,none⟩=false:=by
 unfold mv at h;simp [World.frozen?,h]
end
end
def ey:Nat→Nat→Nat
 | 0,_=>0
 | k+1,n=>n%2+ey k (n/2)
def pc(n:Nat):Nat:=ey 64 n
theorem xj(k:Nat):ey k 0=0:=by
 induction k with
 | zero=>rfl
 | succ k ih=>rw[ey];simpa using ih
theorem Iy(k:Nat): ∀n,n<2^k→∀d,ey (k+d) n=ey k n:=by
 induction k with
 | zero=>
  intro n a d;obtain rfl:n=0:=by omega
  rw[xj,xj]
 | succ k ih=>
  intro n a d;rw[show k+1+d=(k+d)+1 from by omega,ey,ey,ih (n/2) (by rw[aa0] at a;omega) d]
theorem uc(k n:Nat)(a:n<2^k)(b:k≤64):ey k n=pc n:=by
 have:=Iy k n a (64-k);rw[show k+(64-k)=64 from by omega] at this;exact this.symm
theorem xk:pc 0=0:=xj 64
theorem Bj(k n:Nat):ey k n≤k:=by
 induction k generalizing n with
 | zero=>exact Zv 0
 | succ k ih=>rw[ey];have:=ih (n/2);omega
theorem xl(n:Nat):pc n≤64:=Bj 64 n
theorem Iz(a b:Nat):(a&&& b)/2=(a/2)&&& (b/2):=by
 have:=@Nat.shiftRight_and_distrib 1 a b;simpa [aaV] using this
theorem IA(a b:Nat):(a^^^b)/2=(a/2)^^^(b/2):=by
 have:=@Nat.shiftRight_xor_distrib 1 a b;simpa [aaV] using this
theorem IB(a b:Nat):(a&&& b)%2=(a%2)*(b%2):=by
 have h:=@Nat.and_mod_two_pow a b 1;rw[Nat.pow_one] at h;rw[h];rcases ZW a with c | c<;>rcases ZW b with d | d<;>rw[c,d]<;>rfl
theorem xm(a b:Nat):(a^^^b)%2=(a%2+b%2)%2:=by
 have h:=@Nat.xor_mod_two_pow a b 1;rw[Nat.pow_one] at h;rw[h];rcases ZW a with c | c<;>rcases ZW b with d | d<;>rw[c,d]<;>rfl
theorem IC(k:Nat): ∀x,0<x→x<2^k→ey k x=ey k (x&&& (x-1))+1:=by
 induction k with
 | zero=>intro x c h;omega
 | succ k ih=>
  intro x c h;rw[ey,ey,Iz,IB];rw[aa0] at h;rcases ZW x with b | b
  ·have a:(x-1)/2=x/2-1:=by omega
   rw[a,b,aa1,Zx,Zx,ih (x/2) Om Om]
  ·have a:(x-1)/2=x/2:=by omega
   have d:(x-1)%2=0:=by omega
   rw[a,d,b,Nat.and_self];omega
theorem Bl(x:Nat)(h0:0<x)(h:x<2^64):pc x=pc (x&&& (x-1))+1:=IC 64 x h0 h
def eX:Nat→Nat→Nat→List Nat
 | 0,_,_=>[]
 | k+1,i,x=>if x%2=1 then i::eX k (i+1) (x/2) else eX k (i+1) (x/2)
theorem ID(k i x:Nat):(eX k i x).length=ey k x:=by
 induction k generalizing i x with
 | zero=>rfl
 | succ k ih=>
  rw[eX,ey]
  split
  ·rename_i h;rw[ZI,ih,h];omega
  ·rename_i h;rw[ih,show x%2=0 from by omega,Zx]
theorem xn(k:Nat): ∀i x p,p∈eX k i x→i≤p∧p<i+k∧x/2^(p-i)%2=1:=by
 induction k with
 | zero=>intro i x p h;cases h
 | succ k ih=>
  intro i x p h;have a:p∈eX k (i+1) (x/2)→i≤p∧p<i+(k+1)∧x/2^(p-i)%2=1:=by
   intro h;obtain⟨d,e,b⟩:=ih _ _ _ h;refine⟨by omega,by omega,?_⟩;rw[show p-i=(p-(i+1))+1 from by omega,aa0,Nat.mul_comm,←Nat.div_div_eq_div_mul];exact b
  rw[eX] at h
  split at h
  ·rename_i c;rcases List.mem_cons.1 h with rfl | h
   ·refine⟨Zv _,by omega,?_⟩;rw[abg,Nat.pow_zero,Nat.div_one];exact c
   ·exact a h
  ·exact a h
theorem IE(k:Nat): ∀i x,(eX k i x).Pairwise (· < ·):=by
 induction k with
 | zero=>intro i x;exact List.Pairwise.nil
 | succ k ih=>
  intro i x;rw[eX]
  split
  ·refine List.Pairwise.cons (λp a=>?_) (ih _ _);have:=(xn k _ _ p a).1;omega
  ·exact ih _ _
def bn(x:Nat):List Nat:=eX 64 0 x
section
open Go.RowKit

end
section
open Go.RowKit

end
section
open Go Go.RowKit
structure Y8 (S:Nat→Prop) (W W':World):Prop where
 os:W'.os=W.os
 tape:W'.tape=W.tape
 output:W'.output=W.output
 size:W.heap.size≤W'.heap.size
 same: ∀b,b<W.heap.size→¬S b→W'.heap[b]? =W.heap[b]?
structure YV (K:Nat→Prop) (W W':World):Prop where
 size:W.heap.size≤W'.heap.size
 same: ∀b,K b→W'.heap[b]? =W.heap[b]?
theorem Y8.mono{S a:Nat→Prop}{W c:World}(h:Y8 S W c)(hs: ∀b,S b→a b):Y8 a W c:=⟨h.os,h.tape,h.output,h.size,λb d f=>h.same b d (λe=>f (hs b e))⟩
theorem Y8.alloc(S:Nat→Prop)(W:World)(o:Obj):Y8 S W (W.alloc o):=
 ⟨rfl,rfl,rfl,by simp,λb a _=>Below.heap_alloc W o b a⟩
theorem Y8.putObj{S:Nat→Prop}(W:World){l:Nat}(c:S l)(o:Obj):Y8 S W (W.putObj l o):=
 ⟨(grownBy_putObj' W l o).os,(grownBy_putObj' W l o).tape,(grownBy_putObj' W l o).output,(grownBy_putObj' W l o).size,λb a d=>(grownBy_putObj' W l o).block b a (λe=>by cases e;exact d c)⟩
theorem Y8.heap{S:Nat→Prop}{W c:World}(h:Y8 S W c){b:Nat}(hp: ¬S b){o:Obj}(d:W.heap[b]? =some o):c.heap[b]? =some o:=by
 have a:b<W.heap.size:=(Array.getElem?_eq_some_iff.1 d).1;exact(h.same _ a hp).trans d
end
section
open Go Go.RowKit
structure YW (K O O':Nat→Prop) (W W':World):Prop where
 size:W.heap.size≤W'.heap.size
 old: ∀b,b<W.heap.size→O' b→O b
 new: ∀b,O' b→b<W'.heap.size
 cells: ∀b o,O' b→W'.heap[b]? =some o→o.isCells=false→∃o':Obj,W.heap[b]? =some o'∧o'.isCells=false
 keep: ∀b,b<W.heap.size→(¬O b∨K b)→W'.heap[b]? =W.heap[b]?
def gO(J:Nat→(Nat→Prop)→World→Prop):Prop:=∀i O W a,J i O W→Y8 (λb=>¬O b) W a→J i O a
end
section
open Go Go.RowKit Go.Shelf
structure YX (g0:Nat) (O:Nat→Prop) (W:World):Prop where
 non: ¬O g0
 lt: ∀b,O b→b<W.heap.size
 cells: ∀b o,g0≤b→O b→W.heap[b]? =some o→o.isCells=true
end
section
open Go Go.RowKit

end
section
open Go
section
variable {F:Fence} {n:Nat} {P:Program} {ops:Array Oper} {md:Region.Mode} {C:World→Prop}
def mw(o:Oper):Bool:=match o.op with | .defer _=>false | _=>true
theorem Bm{o:Oper}(h:mw o=true): ∀c,o.op≠ .defer c:=by
 intro c a;unfold mw at h;rw[a] at h;exact aaO (show false=true from h)
end
end
section
open Go
section
variable {F:Fence} {n:Nat} {P:Program} {md:Region.Mode} {C:World→Prop}
def mX(md:Region.Mode)(ops:Array Oper)(N:Nat):Bool:=
 (ZR ops.size).all λt=>decide (t<N)||((ops[t]?).map (·.after.all λe=> !Region.binds md e||decide (e.on<t))).getD false
theorem xp{ops:Array Oper}{N:Nat}{Q:Exit→Act→World→Prop}(Z:Region.chainB md ops N=true)(Y:mX md ops N=true): ∀(r k c:Nat) (b:Array Bool) (a:Act) (w:World),
  ops.size=k+r→N≤k→r≤c→b.size=ops.size→(∀i,i<k→b.getD i true=true)→(∀i,i<k→b.getD i false=true)→(∀i,k≤i→i<ops.size→b.getD i true=false)→
  wpListIn F n P ops Q (ops.toList.drop k) a w→wpAnyIn F n P md ops Q c b a w
 | 0,k,c,b,a,w,hr,hN,hf,l,I,v,K,h=>by
  have g:Region.ready md ops b=[]:=by
   apply List.eq_nil_iff_forall_not_mem.2;intro j R;obtain⟨m,o,J,_⟩:=mem_ready.1 R;have p:j<ops.size:=(Array.getElem?_eq_some_iff.1 J).1;rw[I j Om] at m;cases m
  have hd:ops.toList.drop k=[]:=List.drop_eq_nil_iff.2 (by rw[Array.length_toList];omega);rw[hd] at h;cases c with
  | zero=>exact⟨g,h⟩
  | succ f=>exact⟨λ_=>h,λi D=>by rw[g] at D;cases D⟩
 | r+1,k,c,b,a,w,hr,hN,hf,l,I,v,K,h=>by
  obtain⟨f,rfl⟩: ∃f,c=f+1:=⟨c-1,by omega⟩;have y:k<ops.size:=by omega
  have T:k<ops.toList.length:=by rw[Array.length_toList];exact y
  rw[aaa T] at h;have x:ops[k]? =some ops.toList[k]:=by rw[Array.getElem?_eq_getElem y,Array.getElem_toList]
  have M:=List.all_eq_true.1 Y k (List.mem_range.2 y);rw[x] at M;simp only[Z5,decide_eq_true_eq,Zy,aaK] at M;have t: ∀e∈ops.toList[k].after,Region.binds md e=true→e.on<k:=by
   intro e B d;rcases M with m | m
   ·omega
   ·have s:=Array.all_eq_true'.1 m e B;rw[d] at s;simpa using s
  have G:k∈Region.ready md ops b:=mem_ready.2 ⟨K k (Zv _) y,_,x,λe B d=>v _ (t e B d)⟩;refine⟨λh0=>(by rw[h0] at G;cases G),λj R=>?_⟩;obtain⟨m,o,J,A⟩:=mem_ready.1 R;have p:j<ops.size:=(Array.getElem?_eq_some_iff.1 J).1;have S:j=k:=by
   rcases Nat.lt_trichotomy j k with s | s | s
   ·rw[I j s] at m;cases m
   ·exact s
   ·exfalso;have z:=List.all_eq_true.1 Z j (List.mem_range.2 p);simp only[Z5,decide_eq_true_eq] at z;rcases z with z | z
    ·omega
    ·obtain⟨o',U,e,B,d,V⟩:=Region.waitsFor_spec z;have:o'=o:=Option.some.inj (U.symm.trans J);subst this;have X:=A e B d;rw[V,getD_both (K (j-1) Om Om)] at X;cases X
  subst S;unfold wpOpIn;simp only[x];have q: ∀H L,wpListIn F n P ops Q (ops.toList.drop (j+1)) H L→wpAnyIn F n P md ops Q f (b.setIfInBounds j true) H L:=λH L h'=>by
   refine xp Z Y r (j+1) f _ H L Om Om Om (by simp [l]) ?_ ?_ ?_ h'
   ·intro i D;by_cases u:i=j
    ·subst u;simp [l,y]
    ·rw[getD_set_ne true Om];exact I i Om
   ·intro i D;by_cases u:i=j
    ·subst u;simp [l,y]
    ·rw[getD_set_ne false Om];exact v i Om
   ·intro i D O;rw[getD_set_ne true Om];exact K i Om O
  simp only[wpListIn] at h
  split
  ·rename_i W;simp only[W,if_true] at h;exact Oper.wpIn_mono q h
  ·rename_i W;simp only[W] at h;exact⟨h.1,q _ _ h.2⟩
end
end
section
open Go Go.RowKit Go.Shelf
def br(xs:Nat→Value):List Oper→Nat→Act→Act
 | [],_,a=>a
 | o::os,k,a=>br xs os (k+1) (a.put o.dst (xs k))
def ue(x y:Option Tmp):Bool:=match x,y with | some a,some b=>a != b | _,_=>true
def mx:List Oper→Bool
 | []=>true
 | o::os=>(os.all λp=>ue o.dst p.dst)&&mx os
theorem IF{x y:Option Tmp}(h:ue x y=true): ∀d,x=some d→y≠some d:=by
 rintro d rfl rfl;simp [ue] at h
theorem IG(a:Act)(x:Option Tmp)(v u:Value):(a.put x v).put x u=a.put x u:=by
 cases x with
 | none=>rfl
 | some d=>simp [Act.put]
theorem xq{xs ys:Nat→Value}: ∀(l:List Oper) (k:Nat) (a:Act),(∀j,k≤j→j<k+l.length→xs j=ys j)→br xs l k a=br ys l k a
 | [],_,_,_=>rfl
 | o::os,k,a,h=>by
  unfold br;rw[h k (Zv _) (by rw[ZI];omega)];exact xq os (k+1) _ λj c d=>h j Om (by rw[ZI];omega)
theorem Bn{xs:Nat→Value}(x:Option Tmp)(v:Value): ∀(l:List Oper) (k:Nat) (a:Act),(l.all λp=>ue x p.dst)=true→(br xs l k a).put x v=br xs l k (a.put x v)
 | [],_,_,_=>rfl
 | o::os,k,a,h=>by
  simp only[List.all_cons,Zu] at h;unfold br;rw[Bn x v os (k+1) _ h.2,Act.put_comm a v (xs k) (IF h.1)]
theorem rq{xs:Nat→Value}(v:Value): ∀(l:List Oper) (k:Nat) (a:Act) (i:Nat) (o:Oper),mx l=true→l[i]? =some o→
  (br xs l k a).put o.dst v=br (λj=>if j=k+i then v else xs j) l k a
 | [],_,_,i,_,_,h=>by simp at h
 | p::os,k,a,0,o,c,h=>by
  simp only[mx,Zu] at c;simp only[aah,Option.some.injEq] at h;subst h;unfold br;rw[Bn _ _ _ _ _ c.1,IG,ALifp (show k=k+0 from rfl)];exact xq os (k+1) _ λj d _=>by rw[ALifn Om]
 | p::os,k,a,i+1,o,c,h=>by
  simp only[mx,Zu] at c;rw[aai] at h;unfold br;rw[rq v os (k+1) _ i o c.2 h,ALifn Om];exact xq os (k+1) _ λj _ _=>by rw[show k+1+i=k+(i+1) by omega]
def j4(l:List Oper)(a:Act)(j:Nat):Value:=match (l[j]?).bind (·.dst) with | some d=>a.tmps.getD d undef | none=>undef
theorem IH(a:Act)(x:Option Tmp)(v:Value)(h: ∀d,x=some d→a.tmps.getD d undef=v):a.put x v=a:=by
 cases x with
 | none=>rfl
 | some d=>
  have:=h d rfl;subst this;have e:a.tmps.setIfInBounds d (a.tmps.getD d undef)=a.tmps:=by
   rcases Z8 d a.tmps.size with h | h
   ·apply Array.ext_getElem?;intro i;rw[Array.getElem?_setIfInBounds]
    split
    ·rename_i e;subst e;simp [h]
    ·rfl
   ·exact Array.setIfInBounds_eq_of_size_le h
  show({a with tmps:=a.tmps.setIfInBounds d (a.tmps.getD d undef)}:Act)=a;rw[e]
theorem xr{xs:Nat→Value}: ∀(l:List Oper) (k:Nat) (a:Act),(∀i o d,l[i]? =some o→o.dst=some d→xs (k+i)=a.tmps.getD d undef)→br xs l k a=a
 | [],_,_,_=>rfl
 | o::os,k,a,h=>by
  unfold br;rw[IH a o.dst (xs k) (λd c=>(h 0 o d rfl c).symm)];exact xr os (k+1) a λi p d e c=>by rw[←h (i+1) p d (by simpa using e) c];congr 1;omega
def uf(c:Region.Mode)(ops:Array Oper)(N:Nat)(D:Nat→List Nat):Bool:=
 (ZR N).all λi=>(D i).all λj=>decide (j<N)&&((ops[i]?).map λo=>o.after.any λe=>Region.binds c e&&(e.on==j||(decide (e.on<N)&&(D e.on).contains j))).getD false
def gV(c:Array Bool):Nat→Nat
 | 0=>0
 | k+1=>gV c k+if c.getD k true=true then 0 else 1
theorem Bo{c:Array Bool}{i:Nat}: ∀k,k≤i→gV (c.setIfInBounds i true) k=gV c k
 | 0,_=>rfl
 | k+1,h=>by
  unfold gV;rw[Bo k Om,getD_set_ne true Om]
theorem xu{c:Array Bool}{i:Nat}(f:c.getD i true=false): ∀k,i<k→gV (c.setIfInBounds i true) k+1=gV c k
 | 0,h=>by omega
 | k+1,h=>by
  unfold gV;by_cases e:i=k
  ·subst e;have g:(c.setIfInBounds i true).getD i true=true:=by
    rcases Z8 i c.size with d | d
    ·simp [d]
    ·simp [Array.getElem?_eq_none d] at f
   rw[Bo i (Zv _),f,g];simp
  ·rw[getD_set_ne true e,←xu f k Om];omega
theorem xv{c:Array Bool}: ∀k,gV c k=0→∀i,i<k→c.getD i true=true
 | 0,_,_,f=>by omega
 | k+1,h,i,f=>by
  unfold gV at h;by_cases e:i=k
  ·subst e;by_cases d:c.getD i true=true
   ·exact d
   ·rw[ALifn d] at h;omega
  ·exact xv k Om i Om
section
variable {F:Fence} {n:Nat} {P:Program}
structure YY (F:Fence) (n:Nat) (P:Program) (L:List Oper) (N:Nat) (Q:Exit→Act→World→Prop) (V:Nat→Value→World→Prop) (R:World→World→Prop) (D:Nat→List Nat) (a:Act) (w:World) (k:Nat) (o:Oper):Prop where
 out: ∀(xs:Nat→Value) (w':World),(∀j∈D k,V j (xs j) w')→R w w'→∀K:Value→World→Prop,(∀v w'',V k v w''→R w' w''→K v w'')→
  if Region.wanted o (yielded L.toArray (br xs (L.take N) 0 a).tmps)=true then o.wpIn F n P (br xs (L.take N) 0 a) w' (λa'' w''=>∃v,a''=(br xs (L.take N) 0 a).put o.dst v∧K v w'') Q
  else(∀f,o.about P w' (br xs (L.take N) 0 a).eval=some f→F.fn f)∧K undef w'
def Fence.free(F:Fence):Prop:=F.depth=none∧∀f,F.fn f
theorem Bp:Fence.free Fence.wide:=⟨rfl,λ_=>trivial⟩
theorem Bq(l:Nat):Fence.free (Fence.wide.inRound l):=⟨rfl,λ_=>trivial⟩
section
variable {L:List Oper} {N:Nat} {Q:Exit→Act→World→Prop} {V:Nat→Value→World→Prop} {R:World→World→Prop} {D:Nat→List Nat} {a:Act} {w:World} {k:Nat} {o:Oper}
structure YZ (L:List Oper) (N:Nat) (V:Nat→Value→World→Prop) (R:World→World→Prop) (D:Nat→List Nat) (a:Act) (w:World) (k:Nat) (o:Oper):Prop where
 out: ∀(xs:Nat→Value) (w':World),(∀j∈D k,V j (xs j) w')→R w w'→Region.wanted o (yielded L.toArray (br xs (L.take N) 0 a).tmps)=true
end
end
def fK(t:Nat):List Oper→Nat→Option Nat
 | [],_=>none
 | o::os,k=>match fK t os (k+1) with
  | some i=>some i
  | none=>match o.dst with
   | some d=>if d==t then some k else none
   | none=>none
theorem II(a:Act)(x:Option Tmp)(v:Value)(t:Nat):(a.put x v).eval (.tmp t)=if x=some t then(if t<a.tmps.size then v else undef) else a.eval (.tmp t):=by
 cases x with
 | none=>rfl
 | some d=>
  by_cases e:d=t
  ·subst e;rw[ALifp rfl];by_cases h:d<a.tmps.size
   ·simp [Act.put,Act.eval,h]
   ·rw[ALifn h];simp [Act.put,Act.eval];exact λc=>absurd c h
  ·rw[ALifn (λh=>e (Option.some.inj h))];simp [Act.put,Act.eval,Array.getElem?_setIfInBounds_ne e]
theorem xw(a:Act)(x:Option Tmp)(v:Value):(a.put x v).tmps.size=a.tmps.size:=by cases x<;>simp [Act.put]
theorem ug{xs:Nat→Value}(t:Nat): ∀(l:List Oper) (k:Nat) (a:Act),(br xs l k a).eval (.tmp t)=match fK t l k with
  | some i=>if t<a.tmps.size then xs i else undef
  | none=>a.eval (.tmp t)
 | [],_,_=>rfl
 | o::os,k,a=>by
  unfold br fK;rw[ug t os (k+1) _,xw];cases h:fK t os (k+1) with
  | some i=>rfl
  | none=>
   simp only;rw[II];cases c:o.dst with
   | none=>rfl
   | some d=>
    by_cases e:d=t
    ·subst e;simp
    ·rw[ALifn (λh=>e (Option.some.inj h))];have:(d==t)=false:=by simpa using e
     simp [this]
theorem Br{xs:Nat→Value}{l:List Oper}{a:Act}{t i:Nat}(h:fK t l 0=some i)(ht:aaw t a.tmps.size=true):(br xs l 0 a).eval (.tmp t)=xs i:=by
 rw[ug,h];exact ALifp (aau▸ht)
theorem IJ{L:List Oper}{N:Nat}{a:Act}{xs:Nat→Value}{o:Oper}{j d:Nat}{b e:Bool}(m:o.guard=some (j,b))(l:(L.toArray[j]?).bind (·.dst)=some d)(p:fK d (L.take N) 0=some j)(hs:aaw d a.tmps.size=true)(hv:xs j= .bool e):
  Region.wanted o (yielded L.toArray (br xs (L.take N) 0 a).tmps)=(e==b):=by
 have g:=Br (xs:=xs) (a:=a) p hs;rw[hv] at g;have f:d<(br xs (L.take N) 0 a).tmps.size:=by
  rcases Z8 d (br xs (L.take N) 0 a).tmps.size with h | h
  ·exact h
  ·exfalso;have c:(br xs (L.take N) 0 a).tmps.getD d undef= .bool e:=g;rw[Array.getD_eq_getD_getElem?,Array.getElem?_eq_none h] at c;cases c
 have c:(br xs (L.take N) 0 a).tmps.getD d undef= .bool e:=g;rw[Array.getD_eq_getD_getElem?,Array.getElem?_eq_getElem f] at c;have i:(br xs (L.take N) 0 a).tmps[d]= .bool e:=c;unfold Region.wanted yielded;rw[m];simp only[l,aaL,Array.getElem?_eq_getElem f,i];cases b<;>cases e<;>rfl
theorem IK{L:List Oper}{N:Nat}{a:Act}{xs:Nat→Value}{o:Oper}{j d:Nat}{b:Bool}(i:o.guard=some (j,b))(g:(L.toArray[j]?).bind (·.dst)=some d)(l:fK d (L.take N) 0=some j)(hs:aaw d a.tmps.size=true)(hv:xs j=undef):
  Region.wanted o (yielded L.toArray (br xs (L.take N) 0 a).tmps)=false:=by
 have f:=Br (xs:=xs) (a:=a) l hs;rw[hv] at f;have c:(br xs (L.take N) 0 a).tmps.getD d undef=undef:=f;unfold Region.wanted yielded;rw[i];simp only[g,aaL];rcases Z8 d (br xs (L.take N) 0 a).tmps.size with h | h
 ·rw[Array.getD_eq_getD_getElem?,Array.getElem?_eq_getElem h] at c;have e:(br xs (L.take N) 0 a).tmps[d]=undef:=c;rw[Array.getElem?_eq_getElem h,e];rfl
 ·rw[Array.getElem?_eq_none h];rfl
section
variable {P:Program} {ρ:Operand→Value} {o:Oper} {w w':World}
theorem pR{c x y:Operand}{b:Bool}{v:Value}(e:o.op= .pick c x y)(d:ρ c= .bool b)(hv:(if b then ρ x else ρ y)=v):(execOp ρ o).run P w= .ok (.value v) w:=by
 unfold execOp;subst hv;cases b<;>simp [e,d,asBool]
end
section
variable {P:Program} {T:TypeId} {x y:Operand} {k:IntKind} {a b:Int} {w:World}
end
theorem Bs{P:Program}(w:World)(g off:Nat)(t f:TypeId)(cs:Array Value)(l:List Value){d:TypeDesc}(s:w.heap[g]? =some (.cells cs t (0,0)))(A:(cs.toList.drop off).take l.length=l)
  (H:P.underlying f=some d) (I:(match d with | .struct _ | .array _ _=>true | _=>false)=true) (p:(P.info? f).map (·.size)=some l.length):(loadVar f ⟨g,off,none⟩).run P w= .ok (.agg l.toArray) w:=by
 have r:(loadCells ⟨g,off,none⟩ l.length).run P w= .ok l.toArray w:=
  run_loadCells_list (P:=P) w ⟨g,off,none⟩ l (λj v q=>by
   have c:(⟨g,off,none⟩:Addr).add j=⟨g,off+j,none⟩:=by unfold Addr.add;split<;>simp_all
   rw[c,cell_of_row w g (off+j) cs t (0,0) s];have u:j<l.length:=(List.getElem?_eq_some_iff.1 q).1;have m:=ALca (λz=>z[j]?) A;simp only[aaf u,aax] at m;rw[←Array.getElem?_toList,m];exact q)
 cases h:P.info? f with
 | none=>simp [h] at p
 | some i=>
  have C:i.size=l.length:=by simpa [h] using p
  have e:(isAgg f).run P w= .ok true w:=by
   unfold isAgg;rw[Zm,run_underlying H w];cases d<;>simp_all
  simp [loadVar,Zm,e,sizeOf,typeInfo,h,C,r]
inductive ru (R:World→World→Prop):List (Value→World→Prop)→Prop
 | nil:ru R []
 | const {l:List (Value→World→Prop)} (c:Value) (h:ru R l):ru R ((λv _=>v=c)::l)
 | cons {l:List (Value→World→Prop)} {p:Value→World→Prop} (hp: ∀v x y,p v x→R x y→p v y) (h:ru R l):ru R (p::l)
end
section
open Go Go.RowKit
abbrev ay:=List (Nat×Obj)
structure Y0 (B:Nat) (base:World) (L:ay) (W:World):Prop where
 obj: ∀x∈L,W.heap[x.1]? =some x.2
 nd:L.Pairwise (λx y=>x.1≠y.1)
 lo: ∀x∈L,B≤x.1
 os:W.os=base.os
 tape:W.tape=base.tape
 output:W.output=base.output
 size:base.heap.size≤W.heap.size
 far: ∀b,b<base.heap.size→(∀x∈L,x.1≠b)→W.heap[b]? =base.heap[b]?
section
variable {B:Nat} {base W W':World} {L L':ay}
end
class Bt (F:Fence):Prop where
 out:Fence.free F
instance:Bt Fence.wide:=⟨Bp⟩
instance (l:Nat):Bt (Fence.wide.inRound l):=⟨Bq l⟩
section
variable {F:Fence} {n:Nat} {P:Program} {ops:Array Oper} {Q:Exit→Act→World→Prop} {a:Act} {W W':World} {rest:List Oper} {o:Oper} {B G:Nat} {base:World} {L:ay}
theorem rv{w:World}{T:TypeId}{p:Addr}{v:Value}(c:(isAgg T).run P w= .ok false w)(d:w.cell? p=some v):(loadVar T p).run P w= .ok v w:=by
 unfold loadVar;rw[Zm,c,Zl];simp [d]
end
end
section
open Go Go.RowKit Go.Shelf
section
variable {B:Nat} {base W W':World} {L L':ay}
end
abbrev j5(D:Nat):Deferred:={target:= .collected D,args:=#[]}
abbrev dO(D:Nat):Nat×Obj:=(D,.deferred (some []))
theorem IL{P:Program}{t e:TypeId}{n:Nat}{cs:Array Value}{k:IntKind}{i:Nat}{v:Value}{w:World}(h:P.underlying t=some (.array n e))(j:i<n)(d: ∀w,(isAgg e).run P w= .ok false w)(c:(P.info? e).map (·.size)=some 1)(hv:cs[i]? =some v):
  (Instr.index t (.agg cs) (.int k (i:Int))).run P w= .ok v w:=by
 cases f:P.info? e with
 | none=>simp [f] at c
 | some g=>
  have l:g.size=1:=by simpa [f] using c
  unfold Instr.index;simp [asIntOf,Zm,run_underlying h,sizeOf,typeInfo,f,l,part,d,hv,j]
end
section
open Go Go.RowKit

end
section
open Go Go.RowKit
section
variable {F:Fence} {n:Nat} {P:Program} {ops:Array Oper} {Q:Exit→Act→World→Prop} {a:Act} {W W':World} {rest:List Oper} {o:Oper} {B G:Nat} {base:World} {L:ay}
end
section
variable {P:Program} {w:World} {o:Oper} {ρ:Operand→Value}
end
section
variable {F:Fence} {n:Nat} {P:Program} {ops:Array Oper} {Q:Exit→Act→World→Prop} {a:Act} {W:World} {rest:List Oper} {o:Oper}
end
end
section
open Go Go.RowKit
section
variable {P:Program} {T:TypeId} {x y:Operand} {a b:Int} {w:World}
theorem ry(h0: -9223372036854775808≤a+b)(h1:a+b≤9223372036854775807):(do eqGuard .add T x y (.int .i64 a) (.int .i64 b);Go.binOp .add T (.int .i64 a) (.int .i64 b):Sem Value).run P w= .ok (.int .i64 (a+b)) w:=by
 simp [eqGuard,Go.binOp,Op.intArith,IntWalk.i64_in _ (And.intro h0 h1)]
theorem rz(h0: -9223372036854775808≤a-b)(h1:a-b≤9223372036854775807):(do eqGuard .sub T x y (.int .i64 a) (.int .i64 b);Go.binOp .sub T (.int .i64 a) (.int .i64 b):Sem Value).run P w= .ok (.int .i64 (a-b)) w:=by
 simp [eqGuard,Go.binOp,Op.intArith,IntWalk.i64_in _ (And.intro h0 h1)]
theorem IM(h0: -9223372036854775808≤a*b)(h1:a*b≤9223372036854775807):(do eqGuard .mul T x y (.int .i64 a) (.int .i64 b);Go.binOp .mul T (.int .i64 a) (.int .i64 b):Sem Value).run P w= .ok (.int .i64 (a*b)) w:=by
 simp [eqGuard,Go.binOp,Op.intArith,IntWalk.i64_in _ (And.intro h0 h1)]
end
section
variable {P:Program} {d:Nat} {xs ys:Array Value} {f:Field} {fs:List Field} {w:World} {r e:Bool} {a b:Int}
end
section
variable {P:Program} {w:World} {o:Oper} {ρ:Operand→Value}
def aQ(x:Int):UInt8:=UInt8.ofNat (x%256).toNat
theorem IN(x:Int):((aQ x).toNat:Int)=x%256:=by
 unfold aQ;rw[aa5];omega
theorem oH{S T:TypeId}(c:P.underlying S=some (.int .i64))(h:P.underlying T=some (.int .u8)){x:Int}:(convert S T (.int .i64 x)).run P w= .ok (.int .u8 ((aQ x).toNat:Int)) w:=by
 rw[IN];simp [convert,run_underlying c,run_underlying h,Zm,Conv.intToInt,IntKind.wrap,IntKind.bits,IntKind.signed]
end
end
section
open Go Go.RowKit
structure Y1 (g:Nat) (ws:List (Nat×Value)) (x y:World):Prop where
 os:y.os=x.os
 tape:y.tape=x.tape
 output:y.output=x.output
 size:x.heap.size≤y.heap.size
 far: ∀b,b<x.heap.size→b≠g→y.heap[b]? =x.heap[b]?
 ch: ∀t cs,x.heap[g]? =some (.cells cs t (0,0))→∃cs',y.heap[g]? =some (.cells cs' t (0,0))∧cs'.size=cs.size∧∀i:Nat,cs'[i]? =cs[i]?∨∃v,(i,v)∈ws∧cs'[i]? =some v
section
variable {g:Nat} {ws:List (Nat×Value)} {x y z w w' W W':World} {B:Nat} {base:World} {L L':ay}
end
section
variable {F:Fence} {n:Nat} {P:Program} {L:List Oper} {N:Nat} {Q:Exit→Act→World→Prop} {V:Nat→Value→World→Prop} {D:Nat→List Nat} {a:Act} {w:World} {k:Nat} {o:Oper} {g:Nat} {ws:List (Nat×Value)}
end
end
section
open Go Go.RowKit
section
variable {xs:Nat→Value} {l:List Oper} {a:Act} {t:Nat} {v:Value}
variable {P:Program} {W w':World} {B:Nat} {base:World} {L:ay} {g off:Nat} {T ty:TypeId} {cs:Array Value}
end
end
namespace E
section
open Go Go.RowKit Go.Shelf
structure ab where
 y:Nat→Nat
 num:Nat→Nat
 val:Nat→Value
def ab.zero:ab:=⟨λ_=>0,λ_=>0,λ_=>undef⟩
abbrev bF:=Nat→ab
abbrev B0(q:bF):Nat:=(q 0).y 0
abbrev B1(q:bF):Nat:=(q 1).y 0
abbrev B2(q:bF):Nat:=(q 2).y 0
abbrev B3(q:bF):Nat:=(q 3).y 0
abbrev B4(q:bF):Nat:=(q 4).y 0
abbrev B5(q:bF):Nat:=(q 5).y 0
abbrev B6(q:bF):Nat:=(q 6).y 0
abbrev B7(q:bF):Nat:=(q 7).y 0
inductive aB where
 | c (bs:ay)
 | p (P:ay→Prop)
abbrev aj:=List aB
abbrev ob(g:Nat)(cs:Array Value)(t:TypeId):aB:= .c [(g,.cells cs t (0,0))]
def aB.sat:aB→ay→Prop
 | .c l,b=>b=l
 | .p P,b=>P b
abbrev cv:=Nat→Option aB
abbrev Wr:=List (Nat×aB)
abbrev gB:=Nat→ay
abbrev bN(l:ay):List Nat:=l.map (·.1)
structure kV (R:List Nat) (base:World) (m:Nat) (f:cv) (c:gB) (W:World):Prop where
 sat: ∀p,p<m→∀x,f p=some x→x.sat (c p)
 nil: ∀p,p<m→f p=Option.none→c p=[]
 obj: ∀p,p<m→∀z∈c p,W.heap[z.1]? =some z.2
 inn: ∀p,p<m→(c p).Pairwise (λx y=>x.1≠y.1)
 nd: ∀p q,p<m→q<m→p≠q→∀z∈c p,∀u∈c q,z.1≠u.1
 lo: ∀p,p<m→∀z∈c p,z.1∈R∨base.heap.size≤z.1
 os:W.os=base.os
 tape:W.tape=base.tape
 output:W.output=base.output
 size:base.heap.size≤W.heap.size
 far: ∀b,b<base.heap.size→b∉R→W.heap[b]? =base.heap[b]?
def aF(R:List Nat)(base:World)(L:aj)(W:World):Prop:=∃c,kV R base L.length (λp=>L[p]?) c W
structure a8 (O:List Nat) (N:ay) (W W':World):Prop where
 os:W'.os=W.os
 tape:W'.tape=W.tape
 output:W'.output=W.output
 size:W.heap.size≤W'.heap.size
 obj: ∀x∈N,W'.heap[x.1]? =some x.2
 new: ∀x∈N,x.1∈O∨W.heap.size≤x.1
 nd:N.Pairwise (λx y=>x.1≠y.1)
 far: ∀b,b<W.heap.size→b∉O→W'.heap[b]? =W.heap[b]?
structure ez (R:ay) (W:World):Prop where
 obj: ∀x∈R,W.heap[x.1]? =some x.2
 nd:R.Pairwise (λx y=>x.1≠y.1)
structure mA (rd:Wr) (c:gB) (w:World):Prop where
 sat: ∀x∈rd,x.2.sat (c x.1)
 has:ez (rd.flatMap λx=>c x.1) w
def cI:Wr→Nat→Option aB
 | [],_=>none
 | (q,x)::r,p=>if q=p then some x else cI r p
theorem rA: ∀{w:Wr} {p:Nat} {x:aB},cI w p=some x→(p,x)∈w
 | (q,y)::r,p,x,h=>by
  unfold cI at h
  split at h
  ·rename_i e;subst e;cases h;exact aaI ..
  ·exact ZN _ (rA h)
theorem Bu: ∀{w:Wr} {p:Nat},cI w p=none→∀x,(p,x)∉w
 | [],_,_,_,h=>by simp at h
 | (q,y)::r,p,h,x,b=>by
  unfold cI at h
  split at h
  ·cases h
  ·rename_i e;rcases List.mem_cons.1 b with g | b
   ·cases g;exact e rfl
   ·exact Bu h x b
def lQ(f:cv)(w:Wr):cv:=λp=>match cI w p with | some x=>some x | none=>f p
def oI(c:gB)(w:Wr)(d:gB):gB:=λp=>match cI w p with | some _=>d p | none=>c p
section
variable {m:Nat} {R:List Nat} {base W W':World} {f:cv} {c d:gB}
theorem kV.lt(h:kV R base m f c W){p:Nat}(hp:p<m){z:Nat×Obj}(b:z∈c p):z.1<W.heap.size:=(Array.getElem?_eq_some_iff.1 (h.obj p hp z b)).1
theorem IP{v:Wr}(h:(v.flatMap λx=>d x.1).Pairwise (λx y=>x.1≠y.1)){p q:Nat}{x y:aB}(g:(p,x)∈v)(C:(q,y)∈v)(r:p≠q): ∀z∈d p,∀u∈d q,z.1≠u.1:=by
 intro z B u A;rw[ZX] at h;obtain⟨i,s,k⟩:=ZG g;obtain⟨j,w,b⟩:=ZG C;have o:i≠j:=λe=>by
  subst e;rw[k] at b;cases b;exact r rfl
 have g:=List.pairwise_iff_getElem.1 h.2;rcases aam o with l | l
 ·have:=g i j s w l;rw[k,b] at this;exact this z B u A
 ·have:=g j i w s l;rw[k,b] at this;exact Ne.symm (this u A z B)
theorem IQ{v:Wr}(h:(v.flatMap λx=>d x.1).Pairwise (λx y=>x.1≠y.1)){p:Nat}{x:aB}(hp:(p,x)∈v):(d p).Pairwise (λx y=>x.1≠y.1):=by
 rw[ZX] at h;exact h.1 (p,x) hp
theorem kV.step(h:kV R base m f c W){O:List Nat}{v:Wr}(K: ∀x∈v,x.2.sat (d x.1))(hs:a8 O (v.flatMap λx=>d x.1) W W')(X: ∀b∈O,∃p,p<m∧(∃x,(p,x)∈v)∧∃z∈c p,z.1=b):kV R base m (lQ f v) (oI c v d) W':=by
 have l: ∀p,((∃x,cI v p=some x∧(p,x)∈v)∧oI c v d p=d p)∨(cI v p=none∧(∀y,(p,y)∉v)∧oI c v d p=c p∧lQ f v p=f p):=by
  intro p;cases i:cI v p with
  | some x=>exact .inl ⟨⟨x,rfl,rA i⟩,by unfold oI;rw[i]⟩
  | none=>exact .inr ⟨rfl,λy j=>Bu i y j,by unfold oI;rw[i],by unfold lQ;rw[i]⟩
 have M: ∀{q:Nat},q<m→(∀z,(q,z)∉v)→∀y∈c q,y.1∉O:=by
  intro q w s y hy j;obtain⟨p,k,⟨x,r⟩,z,g,e⟩:=X _ j;have Y:p≠q:=λe=>by subst e;exact s _ r
  exact h.nd p q k w Y z g y hy e
 have H: ∀{p:Nat} {x:aB},(p,x)∈v→∀z∈d p,z∈v.flatMap λx=>d x.1:=λ{p x} j z g=>List.mem_flatMap.2 ⟨(p,x),j,g⟩;have N: ∀p q,p<m→q<m→∀x,(p,x)∈v→(∀z,(q,z)∉v)→∀z∈d p,∀u∈c q,z.1≠u.1:=by
  intro p q k w x r s z g u o e;rcases hs.new z (H r z g) with A | A
  ·rw[e] at A;exact M w s u o A
  ·have:=h.lt w o;omega
 refine⟨?_,?_,?_,?_,?_,?_,hs.os.trans h.os,hs.tape.trans h.tape,hs.output.trans h.output,ZL h.size hs.size,?_⟩
 ·intro p k x r;rcases l p with⟨⟨y,i,j⟩,e⟩ | ⟨i,s,e,C⟩
  ·unfold lQ at r;rw[i] at r;cases r;rw[e];exact K _ j
  ·rw[e];rw[C] at r;exact h.sat p k x r
 ·intro p k r;rcases l p with⟨⟨y,i,j⟩,e⟩ | ⟨i,s,e,C⟩
  ·unfold lQ at r;rw[i] at r;cases r
  ·rw[e];rw[C] at r;exact h.nil p k r
 ·intro p k z g;rcases l p with⟨⟨y,i,j⟩,e⟩ | ⟨i,s,e,C⟩
  ·rw[e] at g;exact hs.obj z (H j z g)
  ·rw[e] at g;exact(hs.far _ (h.lt k g) (M k s z g)).trans (h.obj p k z g)
 ·intro p k;rcases l p with⟨⟨y,i,j⟩,e⟩ | ⟨i,s,e,C⟩
  ·rw[e];exact IQ hs.nd j
  ·rw[e];exact h.inn p k
 ·intro p q k w J z g u o;rcases l p with⟨⟨y,i,j⟩,e⟩ | ⟨i,s,e,C⟩
  ·rw[e] at g;rcases l q with⟨⟨y',D,G⟩,B⟩ | ⟨D,I,B,U⟩
   ·rw[B] at o;exact IP hs.nd j G J z g u o
   ·rw[B] at o;exact N p q k w y j I z g u o
  ·rw[e] at g;rcases l q with⟨⟨y',D,G⟩,B⟩ | ⟨D,I,B,U⟩
   ·rw[B] at o;exact Ne.symm (N q p w k y' G s u o z g)
   ·rw[B] at o;exact h.nd p q k w J z g u o
 ·intro p k z g;rcases l p with⟨⟨y,i,j⟩,e⟩ | ⟨i,s,e,C⟩
  ·rw[e] at g;rcases hs.new z (H j z g) with V | V
   ·obtain⟨q,w,_,u,o,T⟩:=X _ V;rw[←T];exact h.lo q w u o
   ·exact .inr (ZL h.size V)
  ·rw[e] at g;exact h.lo p k z g
 ·intro b Z s;refine(hs.far b (ZY Z h.size) λj=>?_).trans (h.far b Z s);obtain⟨q,w,_,u,o,T⟩:=X _ j;rcases h.lo q w u o with A | A
  ·rw[T] at A;exact s A
  ·rw[T] at A;omega
theorem kV.congr{i:cv}(h:kV R base m f c W)(e: ∀p,p<m→f p=i p):kV R base m i c W:=
 ⟨λp b x g=>h.sat p b x ((e p b).trans g),λp b g=>h.nil p b ((e p b).trans g),h.obj,h.inn,h.nd,h.lo,h.os,h.tape,h.output,h.size,h.far⟩
end
def dj(M0:aj)(wr:Nat→Wr)(S:Nat→Bool)(p:Nat):Nat→Option aB
 | 0=>M0[p]?
 | j+1=>match S j,cI (wr j) p with
  | true,some x=>some x
  | _,_=>dj M0 wr S p j
section
variable {M0:aj} {wr wr':Nat→Wr} {S S':Nat→Bool} {p:Nat}
theorem uh{j:Nat}(h:S j=false∨cI (wr j) p=none):dj M0 wr S p (j+1)=dj M0 wr S p j:=by
 rw[dj.eq_2];rcases h with h | h
 ·rw[h]
 ·rw[h];cases S j<;>rfl
theorem xx{N:Nat}(h: ∀j,j<N→S j=S' j∧(S j=true→cI (wr j) p=cI (wr' j) p)):dj M0 wr S p N=dj M0 wr' S' p N:=by
 induction N with
 | zero=>rfl
 | succ j ih=>
  have ih:=ih λi k=>h i Om;obtain⟨b,e⟩:=h j Om;rw[dj.eq_2,dj.eq_2,←b,ih];cases g:S j with
  | false=>rfl
  | true=>rw[e g]
theorem IS{k N:Nat}(r:k≤N)(g: ∀j,j<k→(cI (wr j) p).isSome=true→S j=true)(b: ∀j,k≤j→j<N→(cI (wr j) p).isSome=true→S j=false):dj M0 wr S p N=dj M0 wr (λ_=>true) p k:=by
 have h: ∀d,k+d≤N→dj M0 wr S p (k+d)=dj M0 wr S p k:=by
  intro d
  induction d with
  | zero=>intro _;rfl
  | succ d ih=>
   intro o;rw[show k+(d+1)=(k+d)+1 from rfl,uh,ih Om];cases e:cI (wr (k+d)) p with
   | none=>exact .inr rfl
   | some x=>exact .inl (b _ Om Om (by rw[e];rfl))
 have l: ∀i,i≤k→dj M0 wr S p i=dj M0 wr (λ_=>true) p i:=by
  intro i
  induction i with
  | zero=>intro _;rfl
  | succ i ih=>
   intro q;rw[dj.eq_2,dj.eq_2,ih Om];cases e:cI (wr i) p with
   | none=>cases S i<;>rfl
   | some x=>rw[g i Om (by rw[e];rfl)]
 have:=h (N-k) Om;rw[show k+(N-k)=N by omega] at this;rw[this,l k (Zv _)]
theorem Bv{k N:Nat}(v:k<N)(o:S k=false)(e:(cI (wr k) p).isSome=true→∀j,k<j→j<N→(cI (wr j) p).isSome=true→S j=false):
  dj M0 wr (λj=>if j=k then true else S j) p N=match cI (wr k) p with | some x=>some x | none=>dj M0 wr S p N:=by
 have h: ∀i,i≤k→dj M0 wr (λj=>if j=k then true else S j) p i=dj M0 wr S p i:=λi s=>xx λj u=>⟨by rw[ALifn Om],λ_=>rfl⟩;have l: ∀d,k+1+d≤N→dj M0 wr (λj=>if j=k then true else S j) p (k+1+d)=match cI (wr k) p with | some x=>some x | none=>dj M0 wr S p (k+1+d):=by
  intro d
  induction d with
  | zero=>
   intro _;rw[Nat.add_zero,dj.eq_2,ALifp rfl,h k (Zv _),uh (S:=S) (.inl o)];cases cI (wr k) p<;>rfl
  | succ d ih=>
   intro r;rw[show k+1+(d+1)=(k+1+d)+1 from rfl,dj.eq_2,dj.eq_2,ih Om,ALifn Om];cases q:cI (wr k) p with
   | none=>cases S (k+1+d)<;>cases cI (wr (k+1+d)) p<;>rfl
   | some x=>
    cases b:S (k+1+d) with
    | false=>rfl
    | true=>
     cases g:cI (wr (k+1+d)) p with
     | none=>rfl
     | some y=>
      have:=e (by rw[q];rfl) (k+1+d) Om Om (by rw[g];rfl);rw[b] at this;cases this
 have:=l (N-(k+1)) Om;rwa [show k+1+(N-(k+1))=N by omega] at this
end
end
section
open Go Go.RowKit Go.Shelf
structure dP where
 val:bF→Nat→ab→Value
 rd:bF→Nat→Wr
 wt:bF→Nat→ab→Wr
 ob:Nat→List Nat
 cds:Nat→List (Nat×Bool)
 D:Nat→List Nat
 L0:aj
 m:Nat
def dP.vs(t:dP)(η:bF)(k:Nat):Value:=t.val η k (η k)
def dP.wr(t:dP)(η:bF)(k:Nat):Wr:=t.wt η k (η k)
def dP.Hold(t:dP)(η:bF)(k:Nat):Prop:=∀c∈t.cds k,t.vs η c.1= .bool c.2
def dP.Is(t:dP)(η:bF)(i:Nat)(x:Value):Prop:=(t.Hold η i∧x=t.vs η i)∨(¬t.Hold η i∧x=undef)
def dP.at(t:dP)(η:bF)(p k:Nat):Option aB:=dj t.L0 (t.wr η) (λ_=>true) p k
def fL(η:bF)(k:Nat)(E:ab):bF:=λj=>if j=k then E else η j
def mY(D:List Nat)(η:bF):bF:=λj=>if D.contains j then η j else ab.zero
theorem Bw{D:List Nat}{η:bF}{k:Nat}{E:ab}(h:k∉D):mY D (fL η k E)=mY D η:=by
 funext j
 unfold mY fL;by_cases b:D.contains j=true
 ·have i:j∈D:=by simpa using b
  have g:j≠k:=λe=>by subst e;exact h i
  rw[ALifp b,ALifp b,ALifn g]
 ·rw[ALifn b,ALifn b]
section
variable (F:Fence) (n:Nat) (P:Program) (L:List Oper) (Q:Exit→Act→World→Prop) (a:Act) (t:dP)
structure Bx (η:bF) (k:Nat) (o:Oper):Prop where
 out: ∀(xs:Nat→Value) (w':World) (c:gB),(∀i∈t.D k,t.Is η i (xs i))→(∀i,i<L.length→(i=k∨k∈t.D i)→xs i=j4 L a i)→mA (t.rd η k) c w'→t.Hold η k→
  ∀K:Value→World→Prop,(∀E (d:gB) w'',(∀x∈t.wt η k E,x.2.sat (d x.1))→a8 ((t.ob k).flatMap λp=>bN (c p)) ((t.wt η k E).flatMap λx=>d x.1) w' w''→K (t.val η k E) w'')→
   o.wpIn F n P (br xs L 0 a) w' (λa'' w''=>∃v,a''=(br xs L 0 a).put o.dst v∧K v w'') Q
def ui(k:Nat)(o:Oper)(η:bF):Prop:=match o.guard with
 | none=>t.cds k=[]
 | some (j,b)=>t.cds k=t.cds j++[(j,b)]∧j∈t.D k∧(∃E,t.vs η j= .bool E)∧(∃d,(L.toArray[j]?).bind (·.dst)=some d∧fK d L 0=some j∧aaw d a.tmps.size=true)
def free(η:bF)(k p:Nat):Prop:=p<t.m∧∀j,j<L.length→j≠k→(cI (t.wr η j) p).isSome=true→(j<k∧j∈t.D k)∨(k<j∧k∈t.D j)
structure jI:Prop where
 acts: ∀η k o,L[k]? =some o→Bx F n P L Q a t η k o
 guard: ∀η k o,L[k]? =some o→ui L a t k o η
 cin: ∀k,k<L.length→∀c∈t.cds k,c.1∈t.D k
 still: ∀η k,k<L.length→t.cds k≠[]→t.wr η k=[]∨t.Hold η k
 rdf: ∀η k,k<L.length→∀x∈t.rd η k,free L t η k x.1∧t.at η x.1 k=some x.2
 rdn: ∀η k,k<L.length→((t.rd η k).map (·.1)).Nodup
 wrf: ∀η k,k<L.length→∀x∈t.wr η k,free L t η k x.1
 obf: ∀η k,k<L.length→∀p∈t.ob k,∃x,(p,x)∈t.wr η k
 mval: ∀η k,k<L.length→t.val (mY (t.D k) η) k=t.val η k
 mwt: ∀η k,k<L.length→t.wt (mY (t.D k) η) k=t.wt η k
end
section
variable {F:Fence} {n:Nat} {P:Program} {L:List Oper} {Q:Exit→Act→World→Prop} {a:Act} {t:dP}
theorem jI.val_upd(h:jI F n P L Q a t){η:bF}{i k:Nat}{E:ab}(b:i<L.length)(e:k∉t.D i):t.val (fL η k E) i=t.val η i:=by
 rw[←h.mval (fL η k E) i b,Bw e,h.mval η i b]
theorem jI.wt_upd(h:jI F n P L Q a t){η:bF}{i k:Nat}{E:ab}(b:i<L.length)(e:k∉t.D i):t.wt (fL η k E) i=t.wt η i:=by
 rw[←h.mwt (fL η k E) i b,Bw e,h.mwt η i b]
theorem jI.vs_upd(h:jI F n P L Q a t){η:bF}{i k:Nat}{E:ab}(e:i<L.length)(g:k∉t.D i)(b:i≠k):t.vs (fL η k E) i=t.vs η i:=by
 unfold dP.vs;rw[h.val_upd e g,show fL η k E i=η i from ALifn b]
theorem jI.wr_upd(h:jI F n P L Q a t){η:bF}{i k:Nat}{E:ab}(e:i<L.length)(g:k∉t.D i)(b:i≠k):t.wr (fL η k E) i=t.wr η i:=by
 unfold dP.wr;rw[h.wt_upd e g,show fL η k E i=η i from ALifn b]
def gC(L:List Oper)(a:Act)(t:dP)(R:List Nat)(base:World)(S:Nat→Bool)(xs:Nat→Value)(w:World):Prop:=
 ∃(η:bF) (c:gB),(∀i,i<L.length→S i=true→t.Is η i (xs i))∧(∀i,i<L.length→S i=false→xs i=j4 L a i)∧kV R base t.m (λp=>dj t.L0 (t.wr η) S p L.length) c w
theorem uj(h:jI F n P L Q a t){R:List Nat}{base:World}{S:Nat→Bool}{xs:Nat→Value}{w':World}{k:Nat}{o:Oper}(A:k<L.length)(ho:L[k]? =some o)
  (X:S k=false) (V: ∀j∈t.D k,j<L.length∧S j=true) (hcl: ∀i,i<L.length→S i=true→∀j∈t.D i,j<L.length∧S j=true) (inv:gC L a t R base S xs w')
  (K:Value→World→Prop) (hK: ∀v C,gC L a t R base (λj=>if j=k then true else S j) (λj=>if j=k then v else xs j) C→K v C) (hF:Fence.free F):
  if Region.wanted o (yielded L.toArray (br xs L 0 a).tmps)=true then o.wpIn F n P (br xs L 0 a) w' (λU C=>∃v,U=(br xs L 0 a).put o.dst v∧K v C) Q
  else(∀f,o.about P w' (br xs L 0 a).eval=some f→F.fn f)∧K undef w':=by
 obtain⟨η,c,B,Z,hO⟩:=inv;have hkD:k∉t.D k:=λhm=>by have:=(V k hm).2;rw[X] at this;cases this
 have l: ∀i,i<L.length→S i=true→k∉t.D i:=λi q g hm=>by have:=(hcl i q g k hm).2;rw[X] at this;cases this
 have hne: ∀i,S i=true→i≠k:=λi g e=>by subst e;rw[X] at g;cases g
 have rd: ∀(η':bF) (p:Nat),free L t η' k p→dj t.L0 (t.wr η') S p L.length=t.at η' p k:=by
  intro η' p hf;refine IS (Nat.le_of_lt A) (λj hj O=>?_) (λj hj H O=>?_)
  ·rcases hf.2 j Om Om O with⟨_,y⟩ | ⟨s,_⟩
   ·exact(V j y).2
   ·omega
  ·by_cases e:j=k
   ·subst e;exact X
   ·rcases hf.2 j H e O with⟨s,_⟩ | ⟨_,y⟩
    ·omega
    ·cases hsj:S j with
     | false=>rfl
     | true=>exact absurd y (l j H hsj)
 have hg:=h.guard η k o ho
 have done:dP.Hold t η k→o.wpIn F n P (br xs L 0 a) w' (λU C=>∃v,U=(br xs L 0 a).put o.dst v∧K v C) Q:=by
  intro I;refine(h.acts η k o ho).out xs w' c (λi q=>B i (V i q).1 (V i q).2) (λi q hik=>?_) ?_ I _ ?_
  ·refine Z i q ?_;rcases hik with rfl | hm
   ·exact X
   ·cases hsi:S i with
    | false=>rfl
    | true=>exact absurd hm (l i q hsi)
  ·refine⟨λx B=>?_,⟨λz hz=>?_,?_⟩⟩
   ·obtain⟨s,y⟩:=h.rdf η k A x B;exact hO.sat x.1 s.1 x.2 ((rd η x.1 s).trans y)
   ·obtain⟨x,B,hz⟩:=List.mem_flatMap.1 hz;obtain⟨s,y⟩:=h.rdf η k A x B;exact hO.obj x.1 s.1 z hz
   ·rw[ZX];refine⟨λx B=>hO.inn x.1 (h.rdf η k A x B).1.1,?_⟩;rw[ZZ];intro i j q hj hij z hz u hu;obtain⟨s,y⟩:=h.rdf η k A _ (ZP q);obtain⟨k1,k2⟩:=h.rdf η k A _ (ZP hj);refine hO.nd _ _ s.1 k1.1 ?_ z hz u hu;have hnd:=h.rdn η k A;unfold List.Nodup at hnd;rw[List.pairwise_map,ZZ] at hnd;exact hnd i j q hj hij
  ·intro E d C hsat hst;refine hK _ _ ⟨fL η k E,oI c (t.wt η k E) d,λi q g=>?_,λi q g=>?_,?_⟩
   ·by_cases e:i=k
    ·subst e;simp only[if_true];refine .inl ⟨λc r=>?_,?_⟩
     ·have Y:=h.cin i A c r;have w:=V c.1 Y;rw[h.vs_upd w.1 (l c.1 w.1 w.2) (hne _ w.2)];exact I c r
     ·unfold dP.vs;rw[h.val_upd A hkD,show fL η i E i=E from ALifp rfl]
    ·simp only[ALifn e] at g⊢;have hv:=h.vs_upd (η:=η) (E:=E) q (l i q g) e;have hcc:dP.Hold t (fL η k E) i↔dP.Hold t η i:=by
      have heq: ∀c∈t.cds i,t.vs (fL η k E) c.1=t.vs η c.1:=λc r=>by
       have Y:=h.cin i q c r;have w:=hcl i q g c.1 Y;exact h.vs_upd w.1 (l c.1 w.1 w.2) (hne _ w.2)
      exact⟨λI c r=>(heq c r).symm.trans (I c r),λI c r=>(heq c r).trans (I c r)⟩
     rcases B i q g with⟨s,y⟩ | ⟨s,y⟩
     ·exact .inl ⟨hcc.2 s,by rw[hv];exact y⟩
     ·exact .inr ⟨λh3=>s (hcc.1 h3),y⟩
   ·by_cases e:i=k
    ·subst e;simp at g
    ·simp only[ALifn e] at g⊢;exact Z i q g
   ·have hcg: ∀p,dj t.L0 (t.wr (fL η k E)) S p L.length=dj t.L0 (t.wr η) S p L.length:=λp=>xx λj hj=>⟨rfl,λg=>by rw[h.wr_upd hj (l j hj g) (hne j g)]⟩;have hwr:t.wr (fL η k E) k=t.wt η k E:=by
     unfold dP.wr;rw[h.wt_upd A hkD,show fL η k E k=E from ALifp rfl]
    have hfr: ∀p,(cI (t.wr (fL η k E) k) p).isSome=true→free L t (fL η k E) k p:=by
     intro p hp;obtain⟨x,B⟩:=Option.isSome_iff_exists.1 hp;exact h.wrf (fL η k E) k A _ (rA B)
    have hf:(λp=>dj t.L0 (t.wr (fL η k E)) (λj=>if j=k then true else S j) p L.length)=lQ (λp=>dj t.L0 (t.wr η) S p L.length) (t.wt η k E):=by
     funext p
     rw[Bv A X (λO j hkj H hlj=>?_),hwr,hcg]
     ·rfl
     ·rcases(hfr p O).2 j H Om hlj with⟨s,_⟩ | ⟨_,y⟩
      ·omega
      ·cases hsj:S j with
       | false=>rfl
       | true=>exact absurd y (l j H hsj)
    rw[hf];refine hO.step hsat hst λb hb=>?_;obtain⟨p,hp,hb⟩:=List.mem_flatMap.1 hb;obtain⟨z,hz,e⟩:=List.mem_map.1 hb;obtain⟨x,B⟩:=h.obf (fL η k E) k A p hp;have s:=h.wrf (fL η k E) k A _ B;exact⟨p,s.1,⟨x,by rw[←hwr];exact B⟩,z,hz,e⟩
 have T: ¬dP.Hold t η k→t.cds k≠[]→K undef w':=by
  intro hn r;have hw:=(h.still η k A r).resolve_right hn;refine hK _ _ ⟨η,c,λi q g=>?_,λi q g=>?_,?_⟩
  ·by_cases e:i=k
   ·subst e;simp only[if_true];exact .inr ⟨hn,rfl⟩
   ·simp only[ALifn e] at g⊢;exact B i q g
  ·by_cases e:i=k
   ·subst e;simp at g
   ·simp only[ALifn e] at g⊢;exact Z i q g
  ·have hf:(λp=>dj t.L0 (t.wr η) (λj=>if j=k then true else S j) p L.length)=λp=>dj t.L0 (t.wr η) S p L.length:=by
    funext p
    rw[Bv A X (λO=>by rw[hw] at O;cases O),hw];rfl
   rw[hf];exact hO
 unfold ui at hg;cases G:o.guard with
 | none=>
  rw[G] at hg;simp only at hg;rw[ALifp (by simp [Region.wanted,G])];exact done (λc r=>by rw[hg] at r;simp at r)
 | some jb=>
  obtain⟨j,b⟩:=jb;rw[G] at hg;simp only at hg;obtain⟨r,hjD,⟨E,hE⟩,d,hd,hw,g⟩:=hg;have hjx:=B j (V j hjD).1 (V j hjD).2;have M:L.take L.length=L:=Z3;rcases hjx with⟨s,y⟩ | ⟨s,y⟩
  ·rw[hE] at y;have D:=IJ (L:=L) (N:=L.length) (a:=a) (xs:=xs) G hd (by rw[M];exact hw) g y;rw[M] at D;by_cases e:E=b
   ·subst e;rw[D,ALifp (by cases E<;>rfl)];refine done λc J=>?_;rw[r] at J;rcases List.mem_append.1 J with h3 | h3
    ·exact s c h3
    ·obtain rfl:=List.mem_singleton.1 h3;exact hE
   ·rw[D,ALifn (by cases E<;>cases b<;>simp_all)];refine⟨λf _=>hF.2 f,T (λI=>e ?_) (by rw[r];simp)⟩;have:=I (j,b) (by rw[r];simp);rw[hE] at this;exact Value.bool.inj this
  ·have D:=IK (L:=L) (N:=L.length) (a:=a) (xs:=xs) G hd (by rw[M];exact hw) g y;rw[M] at D;rw[D,ALifn Dc];refine⟨λf _=>hF.2 f,T (λI=>s λc J=>I c (by rw[r];exact Zs _ J)) (by rw[r];simp)⟩
end
end
section
open Go Go.RowKit Go.Shelf
section
variable {F:Fence} {n:Nat} {P:Program} {L:List Oper} {Q:Exit→Act→World→Prop} {a:Act} {t:dP} {R:List Nat} {base:World}
theorem gC.congr{S S':Nat→Bool}{xs xs':Nat→Value}{w:World}(h:gC L a t R base S xs w)(hs: ∀i,i<L.length→S i=S' i)(k: ∀i,i<L.length→xs i=xs' i):gC L a t R base S' xs' w:=by
 obtain⟨η,c,l,o,q⟩:=h;refine⟨η,c,λi b g=>by rw[←k i b];exact l i b (by rw[hs i b];exact g),λi b g=>by rw[←k i b];exact o i b (by rw[hs i b];exact g),?_⟩;have e:(λp=>dj t.L0 (t.wr η) S' p L.length)=λp=>dj t.L0 (t.wr η) S p L.length:=by
  funext p
  exact(xx λj r=>⟨hs j r,λ_=>rfl⟩).symm
 rw[e];exact q
theorem gC.drew{S:Nat→Bool}{xs:Nat→Value}{w:World}(h:gC L a t R base S xs w):gC L a t R base S xs w.drew:=by
 obtain⟨η,c,e,g,b⟩:=h;exact⟨η,c,e,g,b.sat,b.nil,b.obj,b.inn,b.nd,b.lo,b.os,b.tape,b.output,b.size,b.far⟩
theorem By(h:jI F n P L Q a t)(hF:Fence.free F)(hc:Region.chainB .any L.toArray L.length=true)(hb:mX .any L.toArray L.length=true)(M:mX .any L.toArray 0=true)(Y:mx L=true)(hD:uf .any L.toArray L.length t.D=true)
  (C: ∀xs w',gC L a t R base (λ_=>true) xs w'→Q .normal (br xs L 0 a) w'):
  ∀(c g:Nat) (b:Array Bool) (xs:Nat→Value) (w':World),gV b L.length=c→c≤g→HeadInv .any L.toArray L.length b→
   (∀i,i<L.length→b.getD i false=true→∀j∈t.D i,b.getD j false=true)→gC L a t R base (λi=>b.getD i false) xs w'→wpAnyIn F n P .any L.toArray Q g b (br xs L 0 a) w'
 | 0,g,b,xs,w',w,hf,q,hk,hI=>by
  have l:=xv L.length w;have u: ∀i,i<L.length→b.getD i false=true:=by
   intro i s;have r:i<b.size:=by rw[q.size,ZD];omega
   have:=l i s;simp [r] at this⊢;exact this
  refine xp hc hb 0 L.length g b _ w' (by rw[ZD];omega) (Zv _) Om q.size l u q.tail ?_;have e:L.toArray.toList.drop L.length=[]:=by simp
  rw[e];exact C xs w' (hI.congr (λi s=>u i s) (λ_ _=>rfl))
 | c+1,g,b,xs,w',w,hf,q,hk,hI=>by
  obtain⟨f,rfl⟩: ∃f,g=f+1:=⟨g-1,by omega⟩;have hun: ∃i,i<L.length∧b.getD i true=false:=by
   apply aaN;intro hno;have l: ∀i,i<L.length→b.getD i true=true:=λi s=>by
    cases H:b.getD i true with
    | true=>rfl
    | false=>exact(hno ⟨i,s,H⟩).elim
   have: ∀k,k≤L.length→gV b k=0:=by
    intro k
    induction k with
    | zero=>intro _;rfl
    | succ k ih=>intro h;unfold gV;rw[ih Om,l k Om];rfl
   rw[this L.length (Zv _)] at w;omega
  obtain⟨i0,hi0,hu0⟩:=hun;have some:Region.ready .any L.toArray b=[]→∀d i,i=d→i<L.length→b.getD i true=true:=by
   intro y d
   induction d using Nat.strongRecOn with
   | _ d ih=>
    rintro i rfl s;cases H:b.getD i true with
    | true=>rfl
    | false=>
     exfalso;have D:i<L.toArray.size:=by rw[ZD];omega
     have V:L.toArray[i]? =some L.toArray[i]:=Array.getElem?_eq_getElem D;have hB:=List.all_eq_true.1 M i (List.mem_range.2 D);rw[V] at hB;simp only[Z5,decide_eq_true_eq,Zy,aaK,Nat.not_lt_zero,false_or] at hB;have:i∈Region.ready .any L.toArray b:=mem_ready.2 ⟨H,_,V,λe he hbd=>by
      have r:=Array.all_eq_true'.1 hB e he;rw[hbd] at r;have Z:e.on<i:=by simpa using r
      have I:=ih e.on Z e.on rfl Om;have h5:e.on<b.size:=by rw[q.size,ZD];omega
      rw[Array.getD_eq_getD_getElem?,Array.getElem?_eq_getElem h5] at I⊢;exact I⟩
     rw[y] at this;cases this
  refine⟨λy=>(by have:=some y i0 i0 rfl hi0;rw[hu0] at this;cases this),λi s=>?_⟩;have z:i<L.length:=by
   obtain⟨_,o,U,_⟩:=mem_ready.1 s;have:=(Array.getElem?_eq_some_iff.1 U).1;rwa [ZD] at this
  obtain⟨H,o,U,l⟩:=mem_ready.1 s;have X:L[i]? =Option.some o:=by rw[←Z6];exact U
  have J: ∀j∈t.D i,j<L.length∧b.getD j false=true:=by
   intro j x;have G:=List.all_eq_true.1 (List.all_eq_true.1 hD i (List.mem_range.2 z)) j x;rw[U] at G;simp only[Zy,aaK,Zu,decide_eq_true_eq] at G;refine⟨G.1,?_⟩;obtain⟨e,he,r⟩:=Array.any_eq_true'.1 G.2;simp only[Zu,Z5,beq_iff_eq,decide_eq_true_eq] at r;have Z:=l e he r.1;rcases r.2 with I | ⟨I,h5⟩
   ·rw[←I];exact Z
   ·exact hk e.on I Z j (by simpa using h5)
  have K: ∀i,i<L.length→∀j∈t.D i,j<L.length:=by
   intro i s j x;have G:=List.all_eq_true.1 (List.all_eq_true.1 hD i (List.mem_range.2 s)) j x;simp only[Zu,decide_eq_true_eq] at G;exact G.1
  have hSi:b.getD i false=false:=by
   have r:i<b.size:=by rw[q.size,ZD];omega
   simp [r] at H⊢;exact H
  have A:=uj h (S:=λi=>b.getD i false) (xs:=xs) (w':=w') (k:=i) (o:=o) z X hSi (λj x=>J j x) (λi' N hs j x=>⟨K i' N j x,hk i' N hs j x⟩) hI
   (λv B=>wpAnyIn F n P .any L.toArray Q f (b.setIfInBounds i true) ((br xs L 0 a).put o.dst v) B) (λv B hI2=>by
    rw[rq v _ 0 a i o Y X,Zx];refine By h hF hc hb M Y hD C c f _ _ B (by have:=xu H L.length z;omega) Om (q.set s z) ?_ (hI2.congr (λj x=>?_) (λ_ _=>rfl))
    ·intro j x T j' O;by_cases e:j=i
     ·subst e;exact getD_set_true (J j' O).2
     ·rw[getD_set_ne false (Ne.symm e)] at T;exact getD_set_true (hk j x T j' O)
    ·show(if j=i then true else b.getD j false)=_;by_cases e:j=i
     ·subst e;have r:j<b.size:=by rw[q.size,ZD];omega
      simp [r]
     ·rw[ALifn e,getD_set_ne false (Ne.symm e)]) hF
  unfold wpOpIn;simp only[U]
  split
  ·rename_i hw;rw[ALifp hw] at A;exact Oper.wpIn_mono (λa'' B ⟨v,e,h⟩=>by rw[e];exact h) A
  ·rename_i hw;rw[ALifn hw] at A;exact A
theorem Bz(h:jI F n P L Q a t)(B:Fence.free F)(u:mx L=true)(w: ∀k,k<L.length→∀j∈t.D k,j<k)
  (q: ∀xs w',gC L a t R base (λ_=>true) xs w'→Q .normal (br xs L 0 a) w'):
  ∀(d k:Nat) (xs:Nat→Value) (w':World),k+d=L.length→gC L a t R base (λi=>decide (i<k)) xs w'→wpListIn F n P L.toArray Q (L.drop k) (br xs L 0 a) w'
 | 0,k,xs,w',D,x=>by
  obtain rfl:k=L.length:=by omega
  rw[aar];exact q xs w' (x.congr (λi z=>by simpa using z) (λ_ _=>rfl))
 | d+1,k,xs,w',D,x=>by
  have b:k<L.length:=by omega
  rw[aaa b];have s:L[k]? =some L[k]:=Zn b;have g:=uj h (S:=λi=>decide (i<k)) (xs:=xs) (w':=w') (k:=k) (o:=L[k]) b s (by simp) (λj r=>⟨by have:=w k b j r;omega,by simpa using w k b j r⟩)
   (λi z G j r=>by
    have H:=w i z j r;have I:i<k:=by simpa using G
    exact⟨by omega,by simp;omega⟩) x
   (λv l=>wpListIn F n P L.toArray Q (L.drop (k+1)) ((br xs L 0 a).put L[k].dst v) l) (λv l y=>by
    rw[rq v _ 0 a k _ u s,Zx];refine Bz h B u w q d (k+1) _ l Om (y.congr (λj r=>?_) (λ_ _=>rfl));show(if j=k then true else decide (j<k))=decide (j<k+1);by_cases e:j=k
    ·subst e;simp
    ·rw[ALifn e,decide_eq_decide];omega) B
  unfold wpListIn
  split
  ·rename_i A;rw[ALifp A] at g;exact Oper.wpIn_mono (λC l ⟨v,e,h⟩=>by rw[e];exact h) g
  ·rename_i A;rw[ALifn A] at g;exact g
def mB(b:Bool)(L:List Oper)(D:Nat→List Nat):Bool:=
 mx L&&(if b then Region.chainB .any L.toArray L.length&&mX .any L.toArray L.length&&mX .any L.toArray 0&&uf .any L.toArray L.length D
  else(ZR L.length).all λk=>(D k).all λj=>decide (j<k))
theorem IT{id:Nat}{r:Bool}{w:World}(hm:P.follows .mixedOrders=true)(h:jI F n P L Q a t)(hF:Fence.free F)(hs:mB r L t.D=true)
  (OW:Hid (aF R base t.L0 w)) (Le:bF→aj) (G: ∀η,(ZR t.m).map (λp=>t.at η p L.length)=(Le η).map some)
  (H: ∀(η:bF) (C:Nat→Value) (w':World),(∀i,i<L.length→t.Is η i (C i))→Hid (aF R base (Le η) w')→Q .normal (br C L 0 a) w'):(Code.region id L.toArray r).wpIn F n P Q a w:=by
 have A: ∀C w',gC L a t R base (λ_=>true) C w'→Q .normal (br C L 0 a) w':=by
  intro C w' ⟨η,c,g,_,K⟩;refine H η C w' (λi hi=>g i hi rfl) ?_;have B:(Le η).length=t.m:=by
   have:=ALca aaQ (G η);simpa using this.symm
  have U: ∀p,p<t.m→t.at η p L.length=(Le η)[p]? :=by
   intro p hp;have:=ALca (λl=>l[p]?) (G η);simp only[ZF,aav hp,Zy] at this;cases hq:(Le η)[p]? with
   | none=>rw[hq] at this;cases this
   | some x=>rw[hq] at this;simpa using this
  exact Lib.hid ⟨c,by rw[B];exact K.congr U⟩
 have h0:br (j4 L a) L 0 a=a:=xr _ 0 a λi o d ho hd=>by
  unfold j4;rw[Zx,ho,aaL,hd]
 have X: ∀(wr:Nat→Wr) (p N:Nat),dj t.L0 wr (λ_=>false) p N=t.L0[p]? :=by
  intro wr p N
  induction N with
  | zero=>rfl
  | succ N ih=>rw[uh (.inl rfl),ih]
 have D:gC L a t R base (λ_=>false) (j4 L a) w:=by
  obtain⟨c,y⟩:=OW.out;refine⟨λ_=>ab.zero,λp=>if p<t.L0.length then c p else[],λi _ hs=>absurd hs Bool.false_ne_true,λ_ _ _=>rfl,?_⟩;have e:(λp=>dj t.L0 (t.wr λ_=>ab.zero) (λ_=>false) p L.length)=λp=>t.L0[p]? :=by funext p;exact X _ _ _
  rw[e];have s: ∀p,((p<t.L0.length)∧(if p<t.L0.length then c p else[])=c p)∨(¬p<t.L0.length∧(if p<t.L0.length then c p else[])=[]):=λp=>by
   by_cases h:p<t.L0.length
   ·exact .inl ⟨h,ALifp h⟩
   ·exact .inr ⟨h,ALifn h⟩
  refine⟨λp _ x O=>?_,λp _ O=>?_,λp _ z v=>?_,λp _=>?_,λp q _ _ Z z v u M=>?_,λp _ z v=>?_,y.os,y.tape,y.output,y.size,y.far⟩
  ·rcases s p with⟨g,b⟩ | ⟨g,b⟩
   ·rw[b];exact y.sat p g x O
   ·exact absurd (List.getElem?_eq_some_iff.1 O).1 g
  ·rcases s p with⟨g,b⟩ | ⟨g,b⟩
   ·rw[b];exact y.nil p g O
   ·exact b
  ·rcases s p with⟨g,b⟩ | ⟨g,b⟩
   ·rw[b] at v;exact y.obj p g z v
   ·rw[b] at v;simp at v
  ·rcases s p with⟨g,b⟩ | ⟨g,b⟩
   ·rw[b];exact y.inn p g
   ·rw[b];exact List.Pairwise.nil
  ·rcases s p with⟨g,b⟩ | ⟨g,b⟩
   ·rw[b] at v;rcases s q with⟨K,T⟩ | ⟨K,T⟩
    ·rw[T] at M;exact y.nd p q g K Z z v u M
    ·rw[T] at M;simp at M
   ·rw[b] at v;simp at v
  ·rcases s p with⟨g,b⟩ | ⟨g,b⟩
   ·rw[b] at v;exact y.lo p g z v
   ·rw[b] at v;simp at v
 unfold mB at hs;simp only[Zu] at hs;obtain⟨I,hs⟩:=hs;cases r with
 | true=>
  simp only[if_true,Zu] at hs;obtain⟨⟨⟨hc,hb⟩,V⟩,hD⟩:=hs;refine wpIn_region_any hm ?_;have Y: ∀k,gV (Array.replicate L.length false) k≤k:=by
   intro k
   induction k with
   | zero=>exact Zv _
   | succ k ih=>unfold gV;split<;>omega
  have h:=By (R:=R) (base:=base) h hF hc hb V I hD A _ L.toArray.size (Array.replicate L.length false) (j4 L a) w.drew rfl (by rw[ZD];exact Y _)
   ⟨by simp,λj oj _ B e _ _=>(by rw[getD_replicate_false] at B;exact aaO B),λt _ J=>(by rw[ZD] at J;simp [J])⟩ (λi _ B=>(by rw[getD_replicate_false] at B;exact aaO B))
   (D.drew.congr (λi _=>(getD_replicate_false _ _).symm) (λ_ _=>rfl))
  rw[h0] at h;simpa using h
 | false=>
  simp only[aaj,if_false] at hs;refine wpIn_region_lit ?_;have h:=Bz (R:=R) (base:=base) h hF I (λk hk j hj=>by
   have:=List.all_eq_true.1 (List.all_eq_true.1 hs k (List.mem_range.2 hk)) j hj;simpa using this) A L.length 0 (j4 L a) w Om (D.congr (λi _=>by simp) (λ_ _=>rfl))
  rw[h0,aab] at h;exact h
end
end
section
open Go Go.RowKit Go.Shelf
abbrev Fe:=List (Nat×Value)
def lk:Fe→Nat→Option Value
 | [],_=>none
 | (j,v)::r,i=>match Nat.beq j i with
  | true=>some v
  | false=>lk r i
structure Sl where
 sz:Nat
 e:Fe
def Sl.ev(a:Sl):Operand→Value
 | .tmp i=>(lk a.e i).getD undef
 | .const v=>v
 | .global g=> .pointer (some ⟨g,0,none⟩)
 | .func f=> .func (.func f) #[] #[]
def Sl.kn(a:Sl)(i:Nat):Bool:=(lk a.e i).isSome
structure Fr (a:Sl) (Ds:List Nat) (b:Act):Prop where
 size:b.tmps.size=a.sz
 get: ∀i v,lk a.e i=some v→b.tmps.getD i undef=v
 defers:b.defers=Ds.map j5
theorem Fr.ev{a:Sl}{Ds:List Nat}{b:Act}(h:Fr a Ds b): ∀{x:Operand},(∀i,x= .tmp i→a.kn i=true)→b.eval x=a.ev x
 | .tmp i,e=>by
  have c:=e i rfl;unfold Sl.kn at c;obtain⟨v,d⟩:=Option.isSome_iff_exists.1 c;show b.tmps.getD i undef=(lk a.e i).getD undef;rw[h.get i v d,d];rfl
 | .const _,_=>rfl
 | .global _,_=>rfl
 | .func _,_=>rfl
def vS(s:Sem Value):Sem Next:=do pure (.value (←s))
def rC:Op→Option (List Operand)
 | .move x=>some [x]
 | .assign x=>some [x]
 | .load _ x=>some [x]
 | .box _ x=>some [x]
 | .alloc _=>some []
 | .nilCheck x=>some [x]
 | .unOp _ _ x=>some [x]
 | .convert _ _ x=>some [x]
 | .sliceToArrayPointer _ x=>some [x]
 | .fieldAddr _ x _=>some [x]
 | .field _ x _=>some [x]
 | .extract x _=>some [x]
 | .binOp _ _ x y _=>some [x,y]
 | .indexAddr _ x y=>some [x,y]
 | .index _ x y=>some [x,y]
 | .lookup _ x y _=>some [x,y]
 | .store _ x y=>some [x,y]
 | .makeSlice _ x y=>some [x,y]
 | .mapUpdate _ x y z=>some [x,y,z]
 | .build _ d=>some (d.toList.map (·.2))
 | .buildSlice _ _ d=>some (d.toList.map (·.2))
 | .slice _ x g f h=>some (x::(g.toList++f.toList++h.toList))
 | .makeFunc _ first e=>some (first.toList++e.toList)
 | .makeMap _ r=>some r.toList
 | .call c=>match c.callee with | .builtin _=>some c.args.toList | _=>none
 | _=>none
theorem rE{ρ ρ':Operand→Value}{xs:Array Operand}(h: ∀x∈xs.toList,ρ x=ρ' x):xs.map ρ=xs.map ρ':=Array.map_congr_left λx c=>h x (by simpa using c)
theorem uk{ρ ρ':Operand→Value}{x:Option Operand}(h: ∀y∈x.toList,ρ y=ρ' y):x.map ρ=x.map ρ':=by cases x<;>simp_all
theorem BA{ρ ρ':Operand→Value}{xs:Array (Nat×Operand)}(h: ∀x∈xs.toList.map (·.2),ρ x=ρ' x):xs.map (λ(i,x)=>(i,ρ x))=xs.map (λ(i,x)=>(i,ρ' x)):=
 Array.map_congr_left λx c=>by
  obtain⟨i,x⟩:=x;simp only;rw[h x (List.mem_map.2 ⟨(i,x),by simpa using c,rfl⟩)]
theorem BB{ρ ρ':Operand→Value}{o:Oper}{l:List Operand}(h:rC o.op=some l)(d: ∀x∈l,ρ x=ρ' x):execOp ρ o=execOp ρ' o:=by
 unfold execOp;cases f:o.op<;>rw[f] at h<;>simp only[rC,reduceCtorEq,Option.some.injEq] at h
 case call c=>
  cases g:c.callee<;>rw[g] at h<;>simp only[reduceCtorEq,Option.some.injEq] at h
  subst h;simp only[resolve,g,rE d]
 case build=>subst h;simp only[BA d]
 case buildSlice=>subst h;simp only[BA d]
 case makeFunc=>subst h;simp only[rE λx e=>d x (Zs _ e),rE λx e=>d x (Zt _ e)]
 case makeMap=>subst h;simp only[uk d]
 case slice=>
  subst h;simp only[d _ (aaI ..),uk λx e=>d x (ZN _ (Zs _ (Zs _ e))),uk λx e=>d x (ZN _ (Zs _ (Zt _ e))),uk λx e=>d x (ZN _ (Zt _ e))]
 all_goals (subst h;simp only[Zq,Zo,or_false,forall_eq_or_imp,forall_eq] at d;simp only[d])
abbrev a9:=(α:Type)×(α×α)
def sE{α:Type}(a b:α):a9:=⟨α,(a,b)⟩
def sB(b:Bool):a9:=⟨Bool,(b,true)⟩
def a9.lhs(e:a9):(α:Type)×α:=⟨e.1,e.2.1⟩
def a9.rhs(e:a9):(α:Type)×α:=⟨e.1,e.2.2⟩
theorem a9.of{e:a9}(h:e.lhs=e.rhs):e.2.1=e.2.2:=by
 obtain⟨α,x,y⟩:=e;unfold a9.lhs a9.rhs at h;simp only[Sigma.mk.injEq,heq_eq_eq,true_and] at h;exact h
theorem a9.all{l:List a9}(h:l.map a9.lhs=l.map a9.rhs): ∀e∈l,e.2.1=e.2.2:=by
 induction l with
 | nil=>intro e c;simp at c
 | cons x r ih=>
  simp only[aak,List.cons.injEq] at h;intro e c;rcases List.mem_cons.1 c with rfl | c
  ·exact a9.of h.1
  ·exact ih h.2 e c
theorem bG(h: ∀e∈[sB false],e.2.1=e.2.2):False:=by
 have:=h _ (List.mem_singleton.2 rfl);cases this
def bt:aj→List ay→Prop
 | [],[]=>True
 | x::xs,c::cs=>x.sat c∧bt xs cs
 | _,_=>False
structure aa (P:Program) (f:FuncId) (args:Array Value) (rd:aj) (O:List Nat) (wt:ab→aj) (v:ab→Value):Prop where
 ent:Enters P f
 out: ∀(w:World) (cs:List ay),bt rd cs→ez cs.flatten w→Calls P f args w λe w'=>∃E ds,e= .returned (v E)∧bt (wt E) ds∧a8 (O.flatMap λi=>bN (cs.getD i [])) ds.flatten w w'
class kv (F:Fence):Prop where
 free:Fence.free F
 lift: ∀{n:Nat} {P:Program} {f:FuncId} {args:Array Value} {w:World} {R:Ending→World→Prop},Calls P f args w R→CallsIn F n P f args w R
instance:kv Fence.wide:=⟨Bp,callsIn_wide.2⟩
instance (l:Nat):kv (Fence.wide.inRound l):=⟨Bq l,λh=>CallsIn.inRound l (callsIn_wide.2 h)⟩
section
variable (P:Program)
abbrev TD:=Oper→(Operand→Value)→List a9
def TD.ok(d:TD)(val:Value):Prop:=∀(o:Oper) (ρ:Operand→Value),(∀e∈d o ρ,e.2.1=e.2.2)→∀w,(execOp ρ o).run P w= .ok (.value val) w
structure TH (val:Value) where
 d:TD
 h:TD.ok P d val
structure MD where
 rd:Wr
 wt:ab→Wr
 eqs:List a9
def MD.bad:MD:=⟨[],λ_=>[],[sB false]⟩
def MD.ok(val:ab→Value)(f:Oper→(Operand→Value)→cv→MD)(ob:List Nat):Prop:=∀(o:Oper) (ρ:Operand→Value) (C:cv),(∀e∈(f o ρ C).eqs,e.2.1=e.2.2)→∀(w:World) (c:gB),mA (f o ρ C).rd c w→
 ∃(E:ab) (z:gB) (d:World),((execOp ρ o).run P w= .ok (.value (val E)) d∨((execOp ρ o).run P w= .ok .skip d∧val E=undef))∧(∀x∈(f o ρ C).wt E,x.2.sat (z x.1))∧a8 (ob.flatMap λp=>bN (c p)) (((f o ρ C).wt E).flatMap λx=>z x.1) w d
structure MH (val:ab→Value) where
 ob:List Nat
 d:Oper→(Operand→Value)→cv→MD
 h:MD.ok P val d ob
end
inductive b0 (P:Program):Type 1
 | v (v:Value)
 | t {val:Value} (d:TH P val)
 | u {val:Value} (d:TD) (j:Nat) (E b:Bool) (h:E=b→TD.ok P d val)
 | k (v:Value)
 | d (v:Value)
 | m {val:ab→Value} (d:MH P val)
 | c {f:FuncId} {args:Array Value} {rd:aj} {O:List Nat} {wt:ab→aj} {v:ab→Value} (ps qs:List Nat) (h:aa P f args rd O wt v)
section
variable {P:Program}
def b0.val:b0 P→ab→Value
 | .v x,_ | .k x,_ | .d x,_=>x
 | @b0.t _ val _,_=>val
 | @b0.u _ val _ _ _ _ _,_=>val
 | @b0.m _ val _,E=>val E
 | @b0.c _ _ _ _ _ _ x _ _ _,E=>x E
def b0.rd:b0 P→Oper→(Operand→Value)→cv→Wr
 | .m x,o,ρ,C=>(x.d o ρ C).rd
 | @b0.c _ _ _ rd _ _ _ ps _ _,_,_,_=>ps.zip rd
 | _,_,_,_=>[]
def b0.wt:b0 P→Oper→(Operand→Value)→cv→ab→Wr
 | .m x,o,ρ,C,E=>(x.d o ρ C).wt E
 | @b0.c _ _ _ _ _ wt _ _ qs _,_,_,_,E=>qs.zip (wt E)
 | _,_,_,_,_=>[]
def b0.ob:b0 P→List Nat
 | .m x=>x.ob
 | @b0.c _ _ _ _ O _ _ ps _ _=>O.map λi=>ps.getD i 0
 | _=>[]
end
def BC(N:Nat):List Oper→List (List Nat)→List (List Nat)
 | [],c=>c
 | o::os,c=>BC N os (c++[(o.after.toList.foldl (λl e=>if Region.binds .any e&&aaw e.on N then(e.on::(c.getD e.on [])).foldl (λl j=>if l.contains j then l else j::l) l else l) [])])
def rG:List Oper→List (List (Nat×Bool))→List (List (Nat×Bool))
 | [],c=>c
 | o::os,c=>rG os (c++[match o.guard with | none=>[] | some (j,b)=>c.getD j []++[(j,b)]])
def rH(L:List Oper)(a:Sl)(c:List Nat)(vs:List Value):Operand→Value
 | .tmp i=>match fK i L 0 with
  | some j=>if c.contains j then vs.getD j undef else a.ev (.tmp i)
  | none=>a.ev (.tmp i)
 | x=>a.ev x
abbrev BD:=List Value×cv
def BE{P:Program}(L:List Oper)(a:Sl)(c:List (List Nat))(η:bF):List Oper→List (b0 P)→Nat→BD→List BD
 | o::os,h::hs,k,s=>s::BE L a c η os hs (k+1) (s.1++[h.val (η k)],lQ s.2 (h.wt o (rH L a (c.getD k []) s.1) s.2 (η k)))
 | _,_,_,_=>[]
def BF{α:Type}{P:Program}(L:List Oper)(a:Sl)(c:List (List Nat))(d:aj)(hs:bF→List (b0 P))(η:bF)(k:Nat)(z:α)(f:b0 P→Oper→(Operand→Value)→cv→α):α:=
 match L[k]?,(hs η)[k]?,(BE L a c η L (hs η) 0 ([],λp=>d[p]?))[k]? with
 | some o,some h,some s=>f h o (rH L a (c.getD k []) s.1) s.2
 | _,_,_=>z
def um{P:Program}(L:List Oper)(a:Sl)(DL:List (List Nat))(CL:List (List (Nat×Bool)))(L0:aj)(m:Nat)(hs:bF→List (b0 P)):dP where
 val η k:=match (hs η)[k]? with | some h=>h.val | none=>λ_=>undef
 rd η k:=BF L a DL L0 hs η k [] b0.rd
 wt η k:=BF L a DL L0 hs η k (λ_=>[]) b0.wt
 ob k:=match (hs λ_=>ab.zero)[k]? with | some h=>h.ob | none=>[]
 cds k:=CL.getD k []
 D k:=DL.getD k []
 L0:=L0
 m:=m
section
variable (L:List Oper) (a:Sl) (t:dP) (η:bF) (k:Nat)
def fA:Operand→Value
 | .tmp i=>match fK i L 0 with
  | some j=>if(t.D k).contains j then t.vs η j else a.ev (.tmp i)
  | none=>a.ev (.tmp i)
 | x=>a.ev x
def lS(C:List (Nat×Bool)):Operand→Bool
 | .tmp i=>match fK i L 0 with
  | some j=>aaw i a.sz&&(if(t.D k).contains j then(t.cds j).all (C.contains ·) else(j==k||(t.D j).contains k)&&a.kn i)
  | none=>a.kn i
 | _=>true
def nP(o:Oper):Bool:=mw o&&match rC o.op with | some l=>l.all (lS L a t k (t.cds k)) | none=>false
def dp:List Nat→Bool
 | []=>true
 | x::r=> !r.contains x&&dp r
def IU:Value→Bool
 | .bool _=>true
 | _=>false
def dH(P:Program)(T:TypeId):Bool:=match P.underlying T with | some (.struct _)=>true | some (.array _ _)=>true | _=>false
def nQ(g off:Nat):Value:= .pointer (some ⟨g,off,none⟩)
def xy:Bool→Bool→Value→Option Value
 | true,E,.bool X=>some (.bool (E&&X))
 | _,_,_=>none
def xz:Bool→Bool→Value→Option Value
 | true,E,.bool X=>some (.bool (E||X))
 | _,_,_=>none
def BG(c x y:Operand):Option Value:=
 let C:=match c with | .tmp i=>(match fK i L 0 with | some j=>if(t.D k).contains j then some j else none | none=>none) | _=>none
 let d:=match C with | some j=>t.cds k++[(j,true)] | none=>t.cds k
 let e:=match C with | some j=>t.cds k++[(j,false)] | none=>t.cds k
 match fA L a t η k c with
 | .bool E=>match y with
  | .const (.bool false)=>xy (lS L a t k d x) E (fA L a t η k x)
  | _=>match x with
   | .const (.bool true)=>xz (lS L a t k e y) E (fA L a t η k y)
   | _=>none
 | _=>none
def xA:Value→List Value→Option (FuncId×List Value)
 | .func (.func f) first c,d=>some (f,first.toList++d++c.toList)
 | _,_=>none
theorem IV{v:Value}{vs:List Value}{f:FuncId}{args:List Value}(h:xA v vs=some (f,args)): ∃first c,v= .func (.func f) first c∧args=first.toList++vs++c.toList:=by
 unfold xA at h
 split at h
 ·simp only[Option.some.injEq,Prod.mk.injEq] at h;obtain⟨rfl,rfl⟩:=h;exact⟨_,_,rfl,rfl⟩
 ·cases h
def lT{P:Program}(o:Oper):b0 P→List a9
 | .v v=>[sB (nP L a t k o),sE (λw=>(execOp (fA L a t η k) o).run P w) (λw=> .ok (.value v) w)]
 | .t d=>sB (nP L a t k o)::d.d o (fA L a t η k)
 | .u d j E b _=>sB (nP L a t k o)::sB ((t.cds k).contains (j,b))::sE (t.vs η j) (.bool E)::d o (fA L a t η k)
 | .k v=>match o.op with
  | .pick c x y=>[sB (lS L a t k (t.cds k) c),sE (BG L a t η k c x y) (some v)]
  | _=>[sB false]
 | .d _=>match (t.cds k).getLast? with
  | some (j,b)=>[sE (t.vs η j) (.bool (!b))]
  | none=>[sB false]
 | .m d=>sB (nP L a t k o)::(d.d o (fA L a t η k) (λp=>t.at η p k)).eqs
 | @b0.c _ f e l _ q _ h g _=>match o.op with
  | .call ⟨.value (.func r),xs,_⟩=>[sE r f,sB (xs.toList.all (lS L a t k (t.cds k))),sE (xs.toList.map (fA L a t η k)) e.toList,sE h.length l.length,sE (λE=>(q E).length) (λ_=>g.length),sB (dp g)]
  | .call ⟨.value (.tmp i),xs,_⟩=>[sB (lS L a t k (t.cds k) (.tmp i)),sB (xs.toList.all (lS L a t k (t.cds k))),sE (xA (fA L a t η k (.tmp i)) (xs.toList.map (fA L a t η k))) (some (f,e.toList)),sE h.length l.length,sE (λE=>(q E).length) (λ_=>g.length),sB (dp g)]
  | _=>[sB false]
def rJ:Bool→Value→Bool
 | b,.bool E=>E==b
 | _,_=>false
def pS(o:Oper):List a9:=
 [sE (t.cds k) (match o.guard with | none=>[] | some (j,b)=>t.cds j++[(j,b)]),
  sB (match o.guard with
   | none=>true
   | some (j,_)=>(t.D k).contains j&&IU (t.vs η j)&&(match (L.toArray[j]?).bind (·.dst) with | some d=>(fK d L 0==some j)&&aaw d a.sz | none=>false)),
  sB ((t.cds k).all λc=>(t.D k).contains c.1),
  sB ((t.cds k).isEmpty||(t.wr η k).isEmpty||(t.cds k).all λc=>rJ c.2 (t.vs η c.1)),
  sB (((t.rd η k).map (·.1)++(t.wr η k).map (·.1)).all λp=>aaw p t.m&&(ZR L.length).all λj=>j==k||(cI (t.wr η j) p).isNone||(aaw j k&&(t.D k).contains j)||(aaw k j&&(t.D j).contains k)),
  sB (dp ((t.rd η k).map (·.1))),
  sE ((t.rd η k).map λx=>t.at η x.1 k) ((t.rd η k).map λx=>some x.2),
  sB ((t.ob k).all λp=>(cI (t.wr η k) p).isSome),
  sE (t.val (mY (t.D k) η) k) (t.val η k),
  sE (t.wt (mY (t.D k) η) k) (t.wt η k)]
def rK{P:Program}(o:Oper)(h:b0 P):List a9:=
 [sE (t.val η k) h.val,sE (t.rd η k) (h.rd o (fA L a t η k) (λp=>t.at η p k)),sE (t.wt η k) (h.wt o (fA L a t η k) (λp=>t.at η p k)),sE (t.ob k) h.ob]
end
def fq{P:Program}(L:List Oper)(a:Sl)(t:dP)(η:bF)(k:Nat):List Oper→List (b0 P)→List a9
 | [],[]=>[]
 | o::os,h::hs=>pS L a t η k o++(rK L a t η k o h++lT L a t η k o h)++fq L a t η (k+1) os hs
 | _,_=>[sB false]
theorem BH{P:Program}{L:List Oper}{a:Sl}{t:dP}{η:bF}: ∀{k:Nat} {os:List Oper} {hs:List (b0 P)},(∀e∈fq L a t η k os hs,e.2.1=e.2.2)→∀i o,os[i]? =some o→∃h,hs[i]? =some h∧∀e∈pS L a t η (k+i) o++(rK L a t η (k+i) o h++lT L a t η (k+i) o h),e.2.1=e.2.2
 | _,[],_,_,i,o,c=>by simp at c
 | k,p::os,[],h,i,o,c=>by
  have:=h (sB false) (by simp [fq]);cases this
 | k,p::os,g::hs,h,0,o,c=>by
  simp only[aah,Option.some.injEq] at c;subst c;exact⟨g,rfl,λe d=>h e (by unfold fq;exact Zs _ d)⟩
 | k,p::os,g::hs,h,i+1,o,c=>by
  rw[aai] at c;have:=BH (k:=k+1) (os:=os) (hs:=hs) (λe d=>h e (by unfold fq;exact Zt _ d)) i o c;rwa [show k+1+i=k+(i+1) by omega] at this
end
section
open Go Go.RowKit Go.Shelf
theorem uq: ∀{t:Nat} {l:List Oper} {k i:Nat},fK t l k=some i→k≤i∧(l[i-k]?).bind (·.dst)=some t
 | _,[],_,_,h=>by cases h
 | t,o::os,k,i,h=>by
  unfold fK at h;cases f:fK t os (k+1) with
  | some j=>
   rw[f] at h;cases h;obtain⟨m,g⟩:=uq f;refine⟨by omega,?_⟩;rw[show i-k=(i-(k+1))+1 by omega,aai];exact g
  | none=>
   rw[f] at h;simp only at h;cases c:o.dst with
   | none=>rw[c] at h;cases h
   | some d=>
    rw[c] at h;simp only at h;by_cases e:d=t
    ·subst e;simp only[BEq.rfl,if_true,Option.some.injEq] at h;subst h;exact⟨Zv _,by simp [c]⟩
    ·rw[ALifn (by simpa using e)] at h;cases h
theorem BI{t:Nat}{l:List Oper}{i:Nat}(h:fK t l 0=some i):i<l.length:=by
 obtain⟨_,c⟩:=uq h;rw[abh] at c;rcases Z8 i l.length with d | d
 ·exact d
 ·rw[ZB d] at c;cases c
theorem nR: ∀{l:List Nat},dp l=true→l.Nodup
 | [],_=>List.nodup_nil
 | x::r,h=>by
  simp only[dp,Zu,Bool.not_eq_true'] at h;exact List.nodup_cons.2 ⟨by simpa using h.1,nR h.2⟩
section
variable {F:Fence} {n:Nat} {P:Program} {L:List Oper} {Q:Exit→Act→World→Prop} {a:Sl} {b:Act} {Ds:List Nat} {t:dP} {η:bF} {k:Nat} {o:Oper} {xs:Nat→Value} {C:List (Nat×Bool)}
theorem BJ(f:Fr a Ds b)(u: ∀i∈t.D k,t.Is η i (xs i))(hf: ∀i,i<L.length→(i=k∨k∈t.D i)→xs i=j4 L b i)(hC: ∀c∈C,t.vs η c.1= .bool c.2){x:Operand}(d:lS L a t k C x=true):(br xs L 0 b).eval x=fA L a t η k x:=by
 cases x with
 | tmp i=>
  rw[ug];simp only[lS] at d;simp only[fA];cases e:fK i L 0 with
  | none=>
   rw[e] at d;exact f.ev (x:= .tmp i) λq l=>by cases l;exact d
  | some j=>
   rw[e] at d;simp only[Zu] at d;simp only;rw[ALifp (by rw[f.size];exact aau▸d.1)];by_cases g:(t.D k).contains j=true
   ·rw[ALifp g] at d⊢;have s:j∈t.D k:=by simpa using g
    have r:t.Hold η j:=λc p=>hC c (by have:=List.all_eq_true.1 d.2 c p;simpa using this);rcases u j s with⟨_,h⟩ | ⟨h,_⟩
    ·exact h
    ·exact absurd r h
   ·rw[ALifn g] at d⊢;rw[Zu] at d;have m:j=k∨k∈t.D j:=by simpa using d.2.1
    rw[hf j (BI e) m];unfold j4;have:=(uq e).2;rw[abh] at this;rw[this];exact f.ev (x:= .tmp i) λq l=>by cases l;exact d.2.2
 | _=>rfl
theorem pT(g:Fence.free F){b:Act}{w w':World}{v:Value}{K:Value→World→Prop}(d:mw o=true)(i:(execOp b.eval o).run P w= .ok (.value v) w')(h:K v w'):o.wpIn F n P b w (λc e=>∃v,c=b.put o.dst v∧K v e) Q:=by
 unfold Oper.wpIn;refine⟨λf _=>g.2 f,?_⟩;rw[Oper.semAt_plain F _ o (Bm d),i];exact⟨v,rfl,h⟩
theorem IW(g:Fence.free F){b:Act}{w w':World}{K:Value→World→Prop}(d:mw o=true)(i:(execOp b.eval o).run P w= .ok .skip w')(h:K undef w'):o.wpIn F n P b w (λc e=>∃v,c=b.put o.dst v∧K v e) Q:=by
 unfold Oper.wpIn;refine⟨λf _=>g.2 f,?_⟩;rw[Oper.semAt_plain F _ o (Bm d),i];exact⟨undef,rfl,h⟩
theorem IX(l:Fence.free F){b:Act}{w:World}{K:Value→World→Prop}{f:FuncId}{g:Array Operand}{j:Array TypeId}{vs:Array Value}(q:o.op= .call {callee:= .value (.func f),args:=g,argTypes:=j})(r:Enters P f)(hv:g.map b.eval=vs)
  (h:CallsIn F (n-1) P f vs w λe d=>∃v,e= .returned v∧K v d):o.wpIn F n P b w (λi d=>∃v,i=b.put o.dst v∧K v d) Q:=by
 subst hv;unfold Oper.wpIn;refine⟨λf _=>l.2 f,?_⟩;have u:(execOp b.eval o).run P w= .ok (.enter f (g.map b.eval)) w:=by
  unfold execOp;simp only[q,resolve,show b.eval (.func f)= .func (.func f) #[] #[] from rfl,Deferred.ofValue,Zm,Zr,Zl,invoke];rw[r];simp
 rw[Oper.semAt_plain F _ o (λc m=>by rw[q] at m;cases m),u];refine⟨λp=>(by rw[l.1] at p;cases p),h.mono ?_⟩;rintro e d ⟨v,rfl,s⟩;exact⟨v,rfl,s⟩
theorem IY(l:Fence.free F){b:Act}{w:World}{K:Value→World→Prop}{f:FuncId}{x:Operand}{g:Array Operand}{j:Array TypeId}{first cap vs:Array Value}(q:o.op= .call {callee:= .value x,args:=g,argTypes:=j})(r:Enters P f)(y:b.eval x= .func (.func f) first cap)(hv:first++g.map b.eval++cap=vs)
  (h:CallsIn F (n-1) P f vs w λe d=>∃v,e= .returned v∧K v d):o.wpIn F n P b w (λi d=>∃v,i=b.put o.dst v∧K v d) Q:=by
 subst hv;unfold Oper.wpIn;refine⟨λf _=>l.2 f,?_⟩;have u:(execOp b.eval o).run P w= .ok (.enter f (first++g.map b.eval++cap)) w:=by
  unfold execOp;simp only[q,resolve,y,Deferred.ofValue,Zm,Zr,Zl,invoke];rw[r]
 rw[Oper.semAt_plain F _ o (λc m=>by rw[q] at m;cases m),u];refine⟨λp=>(by rw[l.1] at p;cases p),h.mono ?_⟩;rintro e d ⟨v,rfl,s⟩;exact⟨v,rfl,s⟩
theorem a8.grow{O c:List Nat}{N:ay}{W d:World}(h:a8 O N W d)(hs: ∀b∈O,b∈c):a8 c N W d:=
 ⟨h.os,h.tape,h.output,h.size,h.obj,λx i=>(h.new x i).imp (hs _) id,h.nd,λb e g=>h.far b e λf=>g (hs b f)⟩
theorem a8.refl(W:World):a8 [] [] W W:=⟨rfl,rfl,rfl,Zv _,λ_ h=>by simp at h,λ_ h=>by simp at h,List.Pairwise.nil,λ_ _ _=>rfl⟩
theorem a8.alloc(W:World)(o:Obj):a8 [] [(W.heap.size,o)] W (W.alloc o):=
 have h:=(Below.refl W.heap.size W).alloc (Zv _) o
 ⟨h.os,h.tape,h.output,h.size,λx c=>by obtain rfl:=List.mem_singleton.1 c;exact aas W o,λx c=>by obtain rfl:=List.mem_singleton.1 c;exact .inr (Zv _),Z1 _ _,λb d _=>h.block b d⟩
theorem a8.put{W c:World}{g:Nat}{l:Obj}(f:c.os=W.os)(i:c.tape=W.tape)(d:c.output=W.output)(h:c.heap.size=W.heap.size)
  (p:c.heap[g]? =some l) (hf: ∀b,b≠g→c.heap[b]? =W.heap[b]?):a8 [g] [(g,l)] W c:=
 ⟨f,i,d,Nat.le_of_eq h.symm,λx j=>by obtain rfl:=List.mem_singleton.1 j;exact p,λx j=>by obtain rfl:=List.mem_singleton.1 j;exact .inl (List.mem_singleton.2 rfl),Z1 _ _,λb _ m=>hf b λe=>m (List.mem_singleton.2 e)⟩
theorem a8.setc{W:World}{g i:Nat}{t:TypeId}{cs:Array Value}(v:Value)(c:W.heap[g]? =some (.cells cs t (0,0))):a8 [g] [(g,.cells (cs.setIfInBounds i v) t (0,0))] W (W.setCell ⟨g,i,none⟩ v):=
 a8.put rfl rfl rfl (by simp [World.setCell]) (heap_setCell_same W g i cs t v c) (λb c=>heap_setCell_other W ⟨g,i,none⟩ b v c)
theorem a8.setRow{W:World}{g:Nat}{t:TypeId}{cs:Array Value}(c:Array Value)(d:W.heap[g]? =some (.cells cs t (0,0))):a8 [g] [(g,.cells c t (0,0))] W (W.setRow g c):=
 a8.put rfl rfl rfl (by simp) (setRow_heap W g cs c t (0,0) d) (λb d=>setRow_other W g b c d)
theorem ur{W:World}{g i:Nat}{T t:TypeId}{cs:Array Value}{v:Value}(l:W.heap[g]? =some (.cells cs t (0,0)))(p:i<cs.size)(h1:v.oneCell'=true)(e:(P.info? T).map (·.size)=some 1):(storeVar T ⟨g,i,none⟩ v).run P W= .ok () (W.setCell ⟨g,i,none⟩ v):=by
 have d:mv W g t cs:=l;cases f:P.info? T with
 | none=>simp [f] at e
 | some j=>
  have q:j.size=1:=by simpa [f] using e
  have m:v.cells=#[v]:=by cases v<;>first | rfl | simp [Value.oneCell'] at h1
  have h:(store ⟨g,i,none⟩ v).run P W= .ok () (W.setCell ⟨g,i,none⟩ v):=by
   rw[run_store P W ⟨g,i,none⟩ v .plain h1];have c:W.cell? ⟨g,i,none⟩=some cs[i]:=(d.cell i).trans (Array.getElem?_eq_getElem p);simp [c,d.frozen i]
  unfold storeVar;simp only[sizeOf,typeInfo,m,Zm];simp [f,q,storeCells,Addr.add,Zm,h]
theorem mZ(S:Fr a Ds b)(N: ∀e∈pS L a t η k o,e.2.1=e.2.2):
  ui L b t k o η∧(∀c∈t.cds k,c.1∈t.D k)∧(t.cds k≠[]→t.wr η k=[]∨t.Hold η k)∧(∀x∈t.rd η k,free L t η k x.1∧t.at η x.1 k=some x.2)∧((t.rd η k).map (·.1)).Nodup∧
  (∀x∈t.wr η k,free L t η k x.1)∧(∀p∈t.ob k,∃x,(p,x)∈t.wr η k)∧
  t.val (mY (t.D k) η) k=t.val η k∧t.wt (mY (t.D k) η) k=t.wt η k:=by
 simp only[pS,Zq,Zo,or_false,forall_eq_or_imp,forall_eq,sE,sB] at N;obtain⟨A,v,T,K,U,V,W,X,B,D⟩:=N;have r: ∀p∈(t.rd η k).map (·.1)++(t.wr η k).map (·.1),free L t η k p:=by
  intro p J;have s:=List.all_eq_true.1 U p J;simp only[Zu] at s;refine⟨aau▸s.1,λj Z H O=>?_⟩;have q:=List.all_eq_true.1 s.2 j (List.mem_range.2 Z);simp only[Z5,Zu,beq_iff_eq] at q;rcases q with((q | q) | ⟨q,m⟩) | ⟨q,m⟩
  ·exact absurd q H
  ·rw[Option.isNone_iff_eq_none] at q;rw[q] at O;cases O
  ·exact .inl ⟨aau▸q,by simpa using m⟩
  ·exact .inr ⟨aau▸q,by simpa using m⟩
 have y: ∀{α:Type} {l:Wr} {f g:Nat×aB→α},l.map f=l.map g→∀x∈l,f x=g x:=λ{α l f g} h x u=>by
  obtain⟨i,Y,rfl⟩:=ZG u;have:=ALca (λz=>z[i]?) h;simpa [Y] using this
 refine⟨?_,?_,?_,?_,nR V,?_,?_,B,D⟩
 ·unfold ui;cases w:o.guard with
  | none=>rw[w] at A;exact A
  | some jb=>
   obtain⟨j,b⟩:=jb;rw[w] at A v;simp only[Zu] at v;refine⟨A,by simpa using v.1.1,?_,?_⟩
   ·have m:=v.1.2;cases hv:t.vs η j with
    | bool E=>exact⟨E,rfl⟩
    | _=>rw[hv] at m;cases m
   ·have m:=v.2;cases M:(L.toArray[j]?).bind (·.dst) with
    | none=>rw[M] at m;cases m
    | some d=>
     rw[M] at m;simp only[Zu,beq_iff_eq] at m;exact⟨d,rfl,m.1,by rw[S.size];exact m.2⟩
 ·intro c G;have:=List.all_eq_true.1 T c G;simpa using this
 ·intro I;simp only[Z5,List.isEmpty_iff] at K;refine(K.elim (λh=>h.elim (λh=>absurd h I) .inl) λh=> .inr λc G=>?_);have s:=List.all_eq_true.1 h c G;unfold rJ at s
  split at s
  ·rename_i b E q m;rw[m,eq_of_beq s]
  ·cases s
 ·intro x u;exact⟨r _ (Zs _ (List.mem_map.2 ⟨x,u,rfl⟩)),y W x u⟩
 ·intro x u;exact r _ (Zt _ (List.mem_map.2 ⟨x,u,rfl⟩))
 ·intro p J;have s:=List.all_eq_true.1 X p J;obtain⟨x,u⟩:=Option.isSome_iff_exists.1 s;exact⟨x,rA u⟩
end
theorem IZ{b E:Bool}{x v:Value}(h:xy b E x=some v):b=true∧∃X,x= .bool X∧v= .bool (E&&X):=by
 unfold xy at h
 split at h
 ·cases h;exact⟨rfl,_,rfl,rfl⟩
 ·cases h
theorem I0{b E:Bool}{x v:Value}(h:xz b E x=some v):b=true∧∃X,x= .bool X∧v= .bool (E||X):=by
 unfold xz at h
 split at h
 ·cases h;exact⟨rfl,_,rfl,rfl⟩
 ·cases h
theorem jJ: ∀{rd:aj} {cs:List ay},bt rd cs→rd.length=cs.length
 | [],[],_=>rfl
 | _::_,_::_,h=>by rw[ZI,ZI,jJ h.2]
 | [],_::_,h=>h.elim
 | _::_,[],h=>h.elim
theorem xB{c:gB}: ∀{d:List Nat} {rd:aj},d.length=rd.length→(∀x∈d.zip rd,x.2.sat (c x.1))→bt rd (d.map c)
 | [],[],_,_=>trivial
 | p::d,x::rd,h,e=>⟨e (p,x) (by simp),xB (by simpa using h) λy f=>e y (by rw[aaJ];exact ZN _ f)⟩
 | [],_::_,h,_=>by simp at h
 | _::_,[],h,_=>by simp at h
theorem pU{c:gB}: ∀{d:List Nat} {rd:aj},d.length=rd.length→(d.zip rd).flatMap (λx=>c x.1)=(d.map c).flatten
 | [],[],_=>rfl
 | p::d,x::rd,h=>by rw[aaJ,Zw,aak,aao,pU (by simpa using h)]
 | [],_::_,h=>by simp at h
 | _::_,[],h=>by simp at h
def lU:List Nat→List ay→gB
 | q::qs,d::ds=>λp=>if p=q then d else lU qs ds p
 | _,_=>λ_=>[]
theorem uu: ∀{qs:List Nat} {ds:List ay},qs.length=ds.length→qs.Nodup→qs.map (lU qs ds)=ds
 | [],[],_,_=>rfl
 | q::qs,d::ds,h,c=>by
  rw[List.nodup_cons] at c;have e: ∀p∈qs,lU (q::qs) (d::ds) p=lU qs ds p:=λp f=>ALifn λ(e:p=q)=>c.1 (e▸f);rw[aak,aa6 e,uu (by simpa using h) c.2];exact ALca (· ::ds) (ALifp rfl)
 | [],_::_,h,_=>by simp at h
 | _::_,[],h,_=>by simp at h
theorem uv{c:gB}: ∀{qs:List Nat} {rd:aj} {ds:List ay},qs.map c=ds→bt rd ds→∀x∈qs.zip rd,x.2.sat (c x.1)
 | [],_,_,_,_,x,d=>by simp at d
 | q::qs,[],_,_,_,x,d=>by simp at d
 | q::qs,y::rd,ds,e,f,x,d=>by
  subst e;rw[aaJ] at d;rcases List.mem_cons.1 d with rfl | d
  ·exact f.1
  ·exact uv rfl f.2 x d
section
variable {F:Fence} {n:Nat} {P:Program} {L:List Oper} {Q:Exit→Act→World→Prop} {a:Sl} {b:Act} {Ds:List Nat} {t:dP} {η:bF} {k:Nat} {o:Oper}
theorem I1[hL:kv F](HB:Fr a Ds b)(h:b0 P)(hq: ∀e∈rK L a t η k o h,e.2.1=e.2.2)
  (he: ∀e∈lT L a t η k o h,e.2.1=e.2.2):Bx F n P L Q b t η k o:=by
 have hF:=hL.free
 simp only[rK,Zq,Zo,or_false,forall_eq_or_imp,forall_eq,sE] at hq
 obtain⟨hv,hrd,hwt,hob⟩:=hq
 refine⟨λxs w' c hx hf hH hC K hK=>?_⟩
 rw[hrd] at hH
 rw[hv,hwt,hob] at hK
 have ev: ∀{x},lS L a t k (t.cds k) x=true→(br xs L 0 b).eval x=fA L a t η k x:=λho=>BJ HB hx hf hC ho
 have nd:nP L a t k o=true→mw o=true:=λh=>by unfold nP at h;simp only[Zu] at h;exact h.1
 have cg:nP L a t k o=true→execOp (br xs L 0 b).eval o=execOp (fA L a t η k) o:=λh=>by
  unfold nP at h
  simp only[Zu] at h
  cases hl:rC o.op with
  | none=>rw[hl] at h;cases h.2
  | some l=>
   rw[hl] at h
   exact BB hl λx hxl=>ev (List.all_eq_true.1 h.2 x hxl)
 cases h with
 | v v=>
  simp only[lT,Zq,Zo,or_false,forall_eq_or_imp,forall_eq,sE,sB] at he
  exact pT hF (nd he.1) (by rw[cg he.1];exact congrFun he.2 w') (hK ab.zero (λ_=>[]) w' (λx h=>by simp [b0.wt] at h) (by simpa [b0.wt,b0.ob] using a8.refl w'))
 | t d=>
  simp only[lT,Zq,forall_eq_or_imp,sB] at he
  exact pT hF (nd he.1) (by rw[cg he.1];exact d.h o _ he.2 w') (hK ab.zero (λ_=>[]) w' (λx h=>by simp [b0.wt] at h) (by simpa [b0.wt,b0.ob] using a8.refl w'))
 | u d j E b h=>
  simp only[lT,Zq,forall_eq_or_imp,sE,sB] at he
  obtain⟨h1,h2,h3,h4⟩:=he
  have hE:E=b:=by
   have:=hC (j,b) (by simpa using h2)
   rw[h3] at this
   exact Value.bool.inj this
  exact pT hF (nd h1) (by rw[cg h1];exact h hE o _ h4 w') (hK ab.zero (λ_=>[]) w' (λx h=>by simp [b0.wt] at h) (by simpa [b0.wt,b0.ob] using a8.refl w'))
 | k v=>
  simp only[lT] at he
  have hz:K v w':=hK ab.zero (λ_=>[]) w' (λx h=>by simp [b0.wt] at h) (by simpa [b0.wt,b0.ob] using a8.refl w')
  split at he
  ·rename_i c x y hop
   simp only[Zq,Zo,or_false,forall_eq_or_imp,forall_eq,sE,sB] at he
   obtain⟨h1,h2⟩:=he
   have hnd:mw o=true:=by unfold mw;rw[hop]
   refine pT hF hnd ?_ (hz)
   have hc:=ev h1
   have evC: ∀{z:Operand} {E bb:Bool},fA L a t η k c= .bool E→E=bb→
     lS L a t k (match (match c with | .tmp i=>(match fK i L 0 with | some j=>if(t.D k).contains j then some j else none | none=>none) | _=>none) with | some j=>t.cds k++[(j,bb)] | none=>t.cds k) z=true→(br xs L 0 b).eval z=fA L a t η k z:=by
    intro z E bb hcE hEb hz
    refine BJ HB hx hf ?_ hz
    intro q hq
    cases c with
    | tmp i=>
     simp only at hq hcE
     simp only[fA] at hcE
     cases hw:fK i L 0 with
     | none=>rw[hw] at hq;exact hC q hq
     | some j=>
      rw[hw] at hq hcE
      simp only at hq hcE
      by_cases hd:(t.D k).contains j=true
      ·rw[ALifp hd] at hq hcE
       simp only at hq
       rcases List.mem_append.1 hq with h3 | h3
       ·exact hC q h3
       ·obtain rfl:=List.mem_singleton.1 h3
        rw[←hEb]
        exact hcE
      ·rw[ALifn hd] at hq
       exact hC q hq
    | _=>exact hC q hq
   unfold BG at h2
   simp only at h2
   split at h2
   ·rename_i E hcE
    have hcv:=hc.trans hcE
    split at h2
    ·obtain⟨hok,X,hX,rfl⟩:=IZ h2
     cases E with
     | false=>exact pR hop hcv rfl
     | true=>exact pR hop hcv ((evC hcE rfl hok).trans hX)
    ·split at h2
     ·obtain⟨hok,Y,hY,rfl⟩:=I0 h2
      cases E with
      | false=>exact pR hop hcv ((evC hcE rfl hok).trans hY)
      | true=>exact pR hop hcv rfl
     ·cases h2
   ·cases h2
  ·exact(bG he).elim
 | d v=>
  simp only[lT] at he
  split at he
  ·rename_i j b hl
   simp only[Zq,Zo,or_false,forall_eq,sE] at he
   have hm:=List.mem_of_getLast? hl
   have:=hC (j,b) hm
   rw[he] at this
   cases b<;>cases this
  ·exact(bG he).elim
 | m d=>
  simp only[lT,Zq,forall_eq_or_imp,sB] at he
  obtain⟨E,z,w'',hr,hs,hst⟩:=d.h o (fA L a t η k) (λp=>t.at η p k) he.2 w' c hH
  rcases hr with hr | ⟨hr,hu⟩
  ·exact pT hF (nd he.1) (by rw[cg he.1];exact hr) (hK E z w'' hs hst)
  ·refine IW hF (nd he.1) (by rw[cg he.1];exact hr) ?_
   have:=hK E z w'' hs hst
   rw[show(b0.m d).val E=undef from hu] at this
   exact this
 | @c f args rd O wt v ps qs h=>
  simp only[lT] at he
  split at he
  ·rename_i f' xs' ats hop
   simp only[Zq,Zo,or_false,forall_eq_or_imp,forall_eq,sE,sB] at he
   obtain⟨h1,h2,h3,h4,h5,h6⟩:=he
   subst h1
   have hm:xs'.map (br xs L 0 b).eval=args:=by
    rw[rE (ρ':=fA L a t η k) λx hx=>ev (List.all_eq_true.1 h2 x hx)]
    apply Array.toList_inj.1
    rw[Array.toList_map]
    exact h3
   have hs:=xB (c:=c) h4 hH.sat
   have hh:=hH.has
   rw[show b0.rd (b0.c ps qs h) o (fA L a t η k) (λp=>t.at η p k)=ps.zip rd from rfl,pU h4] at hh
   refine IX hF hop h.ent hm ((hL.lift (h.out w' _ hs hh)).mono ?_)
   rintro e w'' ⟨E,ds,rfl,hd,hst⟩
   have hl:qs.length=ds.length:=by rw[←jJ hd];exact(congrFun h5 E).symm
   have hpl:=uu hl (nR h6)
   refine⟨_,rfl,hK E (lU qs ds) w'' (uv hpl hd) ?_⟩
   show a8 ((O.map λi=>ps.getD i 0).flatMap λp=>bN (c p)) ((qs.zip (wt E)).flatMap λx=>lU qs ds x.1) w' w''
   rw[pU (by rw[hl,jJ hd]),hpl]
   refine hst.grow ?_
   intro b hb
   obtain⟨i,hi,hb⟩:=List.mem_flatMap.1 hb
   refine List.mem_flatMap.2 ⟨ps.getD i 0,List.mem_map.2 ⟨i,hi,rfl⟩,?_⟩
   by_cases hlt:i<ps.length
   ·rw[Zp,ZF,Zn hlt] at hb
    rw[Zp,Zn hlt]
    exact hb
   ·rw[Zp,ZB (by rw[aaC];omega)] at hb
    simp at hb
  ·rename_i ti xs' ats hop
   simp only[Zq,Zo,or_false,forall_eq_or_imp,forall_eq,sE,sB] at he
   obtain⟨h1,h2,h3,h4,h5,h6⟩:=he
   obtain⟨first,cap,hfv,hargs⟩:=IV h3
   have hxv:=(ev h1).trans hfv
   have hm:first++xs'.map (br xs L 0 b).eval++cap=args:=by
    rw[rE (ρ':=fA L a t η k) λx hx=>ev (List.all_eq_true.1 h2 x hx)]
    apply Array.toList_inj.1
    rw[Array.toList_append,Array.toList_append,Array.toList_map]
    exact hargs.symm
   have hs:=xB (c:=c) h4 hH.sat
   have hh:=hH.has
   rw[show b0.rd (b0.c ps qs h) o (fA L a t η k) (λp=>t.at η p k)=ps.zip rd from rfl,pU h4] at hh
   refine IY hF hop h.ent hxv hm ((hL.lift (h.out w' _ hs hh)).mono ?_)
   rintro e w'' ⟨E,ds,rfl,hd,hst⟩
   have hl:qs.length=ds.length:=by rw[←jJ hd];exact(congrFun h5 E).symm
   have hpl:=uu hl (nR h6)
   refine⟨_,rfl,hK E (lU qs ds) w'' (uv hpl hd) ?_⟩
   show a8 ((O.map λi=>ps.getD i 0).flatMap λp=>bN (c p)) ((qs.zip (wt E)).flatMap λx=>lU qs ds x.1) w' w''
   rw[pU (by rw[hl,jJ hd]),hpl]
   refine hst.grow ?_
   intro b hb
   obtain⟨i,hi,hb⟩:=List.mem_flatMap.1 hb
   refine List.mem_flatMap.2 ⟨ps.getD i 0,List.mem_map.2 ⟨i,hi,rfl⟩,?_⟩
   by_cases hlt:i<ps.length
   ·rw[Zp,ZF,Zn hlt] at hb
    rw[Zp,Zn hlt]
    exact hb
   ·rw[Zp,ZB (by rw[aaC];omega)] at hb
    simp at hb
  ·exact(bG he).elim
end
def jL(c:Bool)(L:List Oper):List (List Nat):=if c then BC L.length L [] else(ZR L.length).map ZR
section
variable {F:Fence} {n:Nat} {P:Program} {L:List Oper} {Q:Exit→Act→World→Prop} {a:Sl} {R:List Nat} {base:World}
theorem BK[hL:kv F]{b:Act}{Ds:List Nat}(g:Fr a Ds b){t:dP}{hs:bF→List (b0 P)}
  (r: ∀η,(fq L a t η 0 L (hs η)).map a9.lhs=(fq L a t η 0 L (hs η)).map a9.rhs):jI F n P L Q b t:=by
 have i: ∀η k o,L[k]? =some o→∃h,(hs η)[k]? =some h∧(∀e∈pS L a t η k o,e.2.1=e.2.2)∧(∀e∈rK L a t η k o h,e.2.1=e.2.2)∧∀e∈lT L a t η k o h,e.2.1=e.2.2:=by
  intro η k o l;obtain⟨h,m,d⟩:=BH (a9.all (r η)) k o l;rw[Zx] at d;exact⟨h,m,λe j=>d e (Zs _ j),λe j=>d e (Zt _ (Zs _ j)),λe j=>d e (Zt _ (Zt _ j))⟩
 have c: ∀η k,k<L.length→∃o,L[k]? =some o∧∀e∈pS L a t η k o,e.2.1=e.2.2:=by
  intro η k f;obtain⟨h,m,d,_⟩:=i η k L[k] (Zn f);exact⟨_,Zn f,d⟩
 refine⟨?_,?_,?_,?_,?_,?_,?_,?_,?_,?_⟩
 ·intro η k o l;obtain⟨h,_,_,p,q⟩:=i η k o l;exact I1 g h p q
 ·intro η k o l;obtain⟨h,_,d,_⟩:=i η k o l;exact(mZ g d).1
 ·intro k f;obtain⟨o,_,d⟩:=c (λ_=>ab.zero) k f;exact(mZ g d).2.1
 ·intro η k f;obtain⟨o,_,d⟩:=c η k f;exact(mZ g d).2.2.1
 ·intro η k f;obtain⟨o,_,d⟩:=c η k f;exact(mZ g d).2.2.2.1
 ·intro η k f;obtain⟨o,_,d⟩:=c η k f;exact(mZ g d).2.2.2.2.1
 ·intro η k f;obtain⟨o,_,d⟩:=c η k f;exact(mZ g d).2.2.2.2.2.1
 ·intro η k f;obtain⟨o,_,d⟩:=c η k f;exact(mZ g d).2.2.2.2.2.2.1
 ·intro η k f;obtain⟨o,_,d⟩:=c η k f;exact(mZ g d).2.2.2.2.2.2.2.1
 ·intro η k f;obtain⟨o,_,d⟩:=c η k f;exact(mZ g d).2.2.2.2.2.2.2.2
end
end
section
open Go Go.RowKit Go.Shelf
section
variable {P:Program}
theorem uw{w:World}{g off:Nat}{c T:TypeId}{cs:Array Value}{l:List Value}(d:w.heap[g]? =some (.cells cs c (0,0)))(i:(cs.toList.drop off).take l.length=l)(h:dH P T=true)(f:(P.info? T).map (·.size)=some l.length):(loadVar T ⟨g,off,none⟩).run P w= .ok (.agg l.toArray) w:=by
 unfold dH at h
 split at h
 ·rename_i e;exact Bs w g off c T cs l d i e rfl f
 ·rename_i e;exact Bs w g off c T cs l d i e rfl f
 ·cases h
theorem mA.one{p g:Nat}{x:Obj}{c:gB}{w:World}(h:mA [(p,.c [(g,x)])] c w):c p=[(g,x)]∧w.heap[g]? =some x:=by
 have d:c p=[(g,x)]:=h.sat _ (List.mem_singleton.2 rfl);exact⟨d,h.has.obj (g,x) (by simp [d])⟩
def ab.of(b:Nat):ab:=⟨λ_=>b,λ_=>0,λ_=>undef⟩
theorem lV{s:Sem Value}{v:Value}{w w':World}(h:s.run P w= .ok v w'):(vS s).run P w= .ok (.value v) w':=by
 unfold vS;simp only[Zm,h,Zl,Zr]
def tv{v:Value}(s:Sem Value)(h: ∀w,s.run P w= .ok v w):TH P v:=⟨λo ρ=>[sE (λw=>(execOp ρ o).run P w) (λw=>(vS s).run P w)],λo ρ c w=>by
 simp only[Z4,forall_eq,sE] at c;exact(congrFun c w).trans (lV (h w))⟩
def rL(P:Program)(T:TypeId):Array Value:=match (P.info? T).bind (·.zero) with | some v=>v.cells | none=>#[]
def kW:Value→Option (Nat×Nat)
 | .pointer (some ⟨g,c,none⟩)=>some (g,c)
 | _=>none
theorem m0{v:Value}{g off:Nat}(h:kW v=some (g,off)):v= .pointer (some ⟨g,off,none⟩):=by
 unfold kW at h
 split at h
 ·cases h;rfl
 ·cases h
def xC(P:Program)(p:Nat)(v:Value)(o:Oper)(ρ:Operand→Value)(C:cv):MD:=match o.op,C p with
 | .load T x,some (.c [(g,.cells e h (0,0))])=>match kW (ρ x) with
  | some (f,d)=>⟨[(p,ob g e h)],λ_=>[],[sE f g,sE e[d]? (some v),sE (λw=>(isAgg T).run P w) (λw=> .ok false w)]⟩
  | none=>MD.bad
 | _,_=>MD.bad
theorem I2(p:Nat)(v:Value):MD.ok P (λ_=>v) (xC P p v) []:=by
 intro o ρ C d w c f;unfold xC at d f⊢
 split at d
 ·rename_i T x g l y e s;simp only[e,s] at f⊢
  split at d
  ·rename_i m i j;simp only[j] at f⊢;simp only[Zq,Zo,or_false,forall_eq_or_imp,forall_eq,sE] at d;obtain⟨rfl,q,r⟩:=d;have u:mv w m y l:=f.one.2;refine⟨ab.zero,λ_=>[],w,.inl ?_,λx h=>by simp at h,by simpa using a8.refl w⟩;unfold execOp;simp only[e,m0 j,Instr.loadAt,Instr.sureAddr,Zm,Zr,Zl,rv (congrFun r w) ((u.cell i).trans q)]
  ·exact(bG d).elim
 ·exact(bG d).elim
def ld(p:Nat)(v:Value):MH P (λ_=>v):=⟨[],xC P p v,I2 p v⟩
def xD(P:Program)(p g off:Nat)(cs:Array Value)(t:TypeId)(o:Oper)(ρ:Operand→Value)(_:cv):MD:=match o.op with
 | .load T x=>⟨[(p,ob g cs t)],λ_=>[],[sE (kW (ρ x)) (some (g,off)),sE (λw=>(isAgg T).run P w) (λw=> .ok false w)]⟩
 | _=>MD.bad
theorem I3(p g off:Nat)(cs:Array Value)(t:TypeId)(v:Value)(h:cs[off]? =some v):MD.ok P (λ_=>v) (xD P p g off cs t) []:=by
 intro o ρ C d w c f;unfold xD at d f⊢
 split at d
 ·rename_i T x e;simp only[e] at f⊢;simp only[Zq,Zo,or_false,forall_eq_or_imp,forall_eq,sE] at d;obtain⟨j,i⟩:=d;have l:mv w g t cs:=f.one.2;refine⟨ab.zero,λ_=>[],w,.inl ?_,λx h=>by simp at h,by simpa using a8.refl w⟩;unfold execOp;simp only[e,m0 j,Instr.loadAt,Instr.sureAddr,Zm,Zr,Zl,rv (congrFun i w) ((l.cell off).trans h)]
 ·exact(bG d).elim
def lt{v:Value}(p g off:Nat)(cs:Array Value)(t:TypeId)(h:cs[off]? =some v):MH P (λ_=>v):=⟨[],xD P p g off cs t,I3 p g off cs t v h⟩
def xF(P:Program)(p:Nat)(l:List Value)(o:Oper)(ρ:Operand→Value)(C:cv):MD:=match o.op,C p with
 | .load T x,some (.c [(g,.cells e h (0,0))])=>match kW (ρ x) with
  | some (f,d)=>⟨[(p,ob g e h)],λ_=>[],[sE f g,sE ((e.toList.drop d).take l.length) l,sB (dH P T),sE ((P.info? T).map (·.size)) (some l.length)]⟩
  | none=>MD.bad
 | _,_=>MD.bad
theorem I4(p:Nat)(l:List Value):MD.ok P (λ_=> .agg l.toArray) (xF P p l) []:=by
 intro o ρ C d w c f;unfold xF at d f⊢
 split at d
 ·rename_i T x g u y e r;simp only[e,r] at f⊢
  split at d
  ·rename_i v s i;simp only[i] at f⊢;simp only[Zq,Zo,or_false,forall_eq_or_imp,forall_eq,sE,sB] at d;obtain⟨rfl,j,m,q⟩:=d;refine⟨ab.zero,λ_=>[],w,.inl ?_,λx h=>by simp at h,by simpa using a8.refl w⟩;unfold execOp;simp only[e,m0 i,Instr.loadAt,Instr.sureAddr,Zm,Zr,Zl,uw f.one.2 j m q]
  ·exact(bG d).elim
 ·exact(bG d).elim
def ls(p:Nat)(l:List Value):MH P (λ_=> .agg l.toArray):=⟨[],xF P p l,I4 p l⟩
def xG(P:Program)(p g off:Nat)(cs:Array Value)(t:TypeId)(l:List Value)(o:Oper)(ρ:Operand→Value)(_:cv):MD:=match o.op with
 | .load T x=>⟨[(p,ob g cs t)],λ_=>[],[sE (kW (ρ x)) (some (g,off)),sB (dH P T),sE ((P.info? T).map (·.size)) (some l.length)]⟩
 | _=>MD.bad
theorem I5(p g off:Nat)(cs:Array Value)(t:TypeId)(l:List Value)(h:(cs.toList.drop off).take l.length=l):MD.ok P (λ_=> .agg l.toArray) (xG P p g off cs t l) []:=by
 intro o ρ C d w c f;unfold xG at d f⊢
 split at d
 ·rename_i T x e;simp only[e] at f⊢;simp only[Zq,Zo,or_false,forall_eq_or_imp,forall_eq,sE,sB] at d;obtain⟨m,i,j⟩:=d;refine⟨ab.zero,λ_=>[],w,.inl ?_,λx h=>by simp at h,by simpa using a8.refl w⟩;unfold execOp;simp only[e,m0 m,Instr.loadAt,Instr.sureAddr,Zm,Zr,Zl,uw f.one.2 h i j]
 ·exact(bG d).elim
def lg(p g off:Nat)(cs:Array Value)(t:TypeId)(l:List Value)(h:(cs.toList.drop off).take l.length=l):MH P (λ_=> .agg l.toArray):=⟨[],xG P p g off cs t l,I5 p g off cs t l h⟩
def xH(P:Program)(p:Nat)(o:Oper)(_:Operand→Value)(_:cv):MD:=match o.op with
 | .alloc T=>⟨[],λE=>[(p,ob (E.y 0) (rL P T) T)],[sE (λw=>(Instr.alloc T true (.tuple #[])).run P w) (λw=> .ok (nQ w.heap.size 0) (w.alloc (.cells (rL P T) T)))]⟩
 | _=>MD.bad
theorem I6(p:Nat):MD.ok P (λE=> .pointer (some ⟨E.y 0,0,none⟩)) (xH P p) []:=by
 intro o ρ C d w c f;unfold xH at d f⊢
 split at d
 ·rename_i T e;simp only[e] at f⊢;simp only[Z4,forall_eq,sE,nQ] at d;refine⟨ab.of w.heap.size,λ_=>[(w.heap.size,.cells (rL P T) T (0,0))],_,.inl ?_,λx h=>?_,by simpa using a8.alloc w (.cells (rL P T) T)⟩
  ·unfold execOp;have:=congrFun d w;simp only[e,Zm,this,Zl,Zr];rfl
  ·rw[List.mem_singleton.1 h];rfl
 ·exact(bG d).elim
def al(p:Nat):MH P (λE=> .pointer (some ⟨E.y 0,0,none⟩)):=⟨[],xH P p,I6 p⟩
def xI(p:Nat)(o:Oper)(ρ:Operand→Value)(_:cv):MD:=match o.op with
 | .box T x=>⟨[],λE=>[(p,ob (E.y 0) (ρ x).cells T)],[]⟩
 | _=>MD.bad
theorem I7(p:Nat):MD.ok P (λE=> .pointer (some ⟨E.y 0,0,none⟩)) (xI p) []:=by
 intro o ρ C e w c f;unfold xI at e f⊢
 split at e
 ·rename_i T x d;simp only[d] at f⊢;refine⟨ab.of w.heap.size,λ_=>[(w.heap.size,.cells (ρ x).cells T (0,0))],_,.inl ?_,λy h=>?_,by simpa using a8.alloc w (.cells (ρ x).cells T)⟩
  ·unfold execOp;simp only[d,Zm,show(Instr.box T (ρ x)).run P w= .ok (.pointer (some ⟨w.heap.size,0,none⟩)) (w.alloc (.cells (ρ x).cells T)) from rfl,Zl,Zr];rfl
  ·rw[List.mem_singleton.1 h];rfl
 ·exact(bG e).elim
def bx(p:Nat):MH P (λE=> .pointer (some ⟨E.y 0,0,none⟩)):=⟨[],xI p,I7 p⟩
def xJ(P:Program)(p:Nat)(o:Oper)(ρ:Operand→Value)(C:cv):MD:=match o.op,C p with
 | .store T x y,some (.c [(g,.cells e f (0,0))])=>match kW (ρ x) with
  | some (h,d)=>⟨[(p,ob g e f)],λ_=>[(p,ob g (e.setIfInBounds d (ρ y)) f)],[sE h g,sB (aaw d e.size),sB (ρ y).oneCell',sE ((P.info? T).map (·.size)) (some 1)]⟩
  | none=>MD.bad
 | _,_=>MD.bad
theorem I8(p:Nat):MD.ok P (λ_=>undef) (xJ P p) [p]:=by
 intro o ρ C d w c f;unfold xJ at d f⊢
 split at d
 ·rename_i T x y g m B e v;simp only[e,v] at f⊢
  split at d
  ·rename_i q i j;simp only[j] at f⊢;simp only[Zq,Zo,or_false,forall_eq_or_imp,forall_eq,sE,sB] at d;obtain⟨rfl,r,s,u⟩:=d;obtain⟨A,l⟩:=f.one;refine⟨ab.zero,λ_=>[(q,.cells (m.setIfInBounds i (ρ y)) B (0,0))],_,.inr ⟨?_,by simp⟩,λz h=>?_,by simpa [A,bN] using a8.setc (ρ y) l⟩
   ·unfold execOp;simp only[e,m0 j,Instr.storeAt,Instr.sureAddr,Zm,Zr,Zl,ur l (aau▸r) s u]
   ·rw[List.mem_singleton.1 h];rfl
  ·exact(bG d).elim
 ·exact(bG d).elim
def st(p:Nat):MH P (λ_=>undef):=⟨[p],xJ P p,I8 p⟩
def xK(P:Program)(p g off:Nat)(t:TypeId)(v:Value)(cs cs':Array Value)(o:Oper)(ρ:Operand→Value)(_:cv):MD:=match o.op with
 | .store T x y=>⟨[(p,ob g cs t)],λ_=>[(p,ob g cs' t)],[sE (kW (ρ x)) (some (g,off)),sE (ρ y) v,sB v.oneCell',sE ((P.info? T).map (·.size)) (some 1)]⟩
 | _=>MD.bad
theorem I9(p g off:Nat)(t:TypeId)(v:Value)(cs cs':Array Value)(h:cs.setIfInBounds off v=cs')(r:off<cs.size):MD.ok P (λ_=>undef) (xK P p g off t v cs cs') [p]:=by
 intro o ρ C d w c f;unfold xK at d f⊢
 split at d
 ·rename_i T x y e;simp only[e] at f⊢;simp only[Zq,Zo,or_false,forall_eq_or_imp,forall_eq,sE,sB] at d;obtain⟨m,s,j,l⟩:=d;obtain⟨q,i⟩:=f.one;subst h;refine⟨ab.zero,λ_=>[(g,.cells (cs.setIfInBounds off v) t (0,0))],_,.inr ⟨?_,by simp⟩,λz h=>?_,by simpa [q,bN] using a8.setc v i⟩
  ·unfold execOp;simp only[e,m0 m,s,Instr.storeAt,Instr.sureAddr,Zm,Zr,Zl,ur i r j l]
  ·rw[List.mem_singleton.1 h];rfl
 ·exact(bG d).elim
def sw(p g off:Nat)(t:TypeId)(v:Value)(cs cs':Array Value)(h:cs.setIfInBounds off v=cs')(c:off<cs.size):MH P (λ_=>undef):=⟨[p],xK P p g off t v cs cs',I9 p g off t v cs cs' h c⟩
theorem ux{w:World}{g off:Nat}{i T:TypeId}{cs:Array Value}{l:List Value}(p:w.heap[g]? =some (.cells cs i (0,0)))(j:off+l.length≤cs.size)(m: ∀v∈l,v.oneCell'=true)(h:(P.info? T).map (·.size)=some l.length):(storeVar T ⟨g,off,none⟩ (.agg l.toArray)).run P w= .ok () (w.setRow g (cs.toList.take off++l++cs.toList.drop (off+l.length)).toArray):=by
 have d:=run_storeCells_at P g off i l 0 cs w p j m;cases c:P.info? T with
 | none=>simp [c] at h
 | some f=>
  have e:f.size=l.length:=by simpa [c] using h
  unfold storeVar;simp only[sizeOf,typeInfo,Value.cells,Zm];simp [c,e,d]
def m3:Value→Option (List Value)
 | .agg c=>some c.toList
 | _=>none
theorem uy{v:Value}{l:List Value}(h:m3 v=some l):v= .agg l.toArray:=by
 unfold m3 at h
 split at h
 ·cases h;rfl
 ·cases h
def xL(P:Program)(p:Nat)(o:Oper)(ρ:Operand→Value)(C:cv):MD:=match o.op,C p with
 | .store T x y,some (.c [(g,.cells e f (0,0))])=>match kW (ρ x),m3 (ρ y) with
  | some (h,d),some l=>⟨[(p,ob g e f)],λ_=>[(p,ob g (e.toList.take d++l++e.toList.drop (d+l.length)).toArray f)],[sE h g,sB (Nat.ble (d+l.length) e.size),sB (l.all (·.oneCell')),sE ((P.info? T).map (·.size)) (some l.length)]⟩
  | _,_=>MD.bad
 | _,_=>MD.bad
theorem Ja(p:Nat):MD.ok P (λ_=>undef) (xL P p) [p]:=by
 intro o ρ C e w c j;unfold xL at e j⊢
 split at e
 ·rename_i T x y g i G f B;simp only[f,B] at j⊢
  split at e
  ·rename_i s d l m r;simp only[m,r] at j⊢;simp only[Zq,Zo,or_false,forall_eq_or_imp,forall_eq,sE,sB] at e;obtain⟨rfl,u,v,A⟩:=e;obtain⟨D,q⟩:=j.one;refine⟨ab.zero,λ_=>[(s,.cells (i.toList.take d++l++i.toList.drop (d+l.length)).toArray G (0,0))],_,.inr ⟨?_,by simp⟩,λz h=>?_,by rw[show([p].flatMap λp=>bN (c p))=_ by simp only[Zw,ZJ,D,bN];rfl];exact a8.setRow (i.toList.take d++l++i.toList.drop (d+l.length)).toArray q⟩
   ·unfold execOp;simp only[f,m0 m,uy r,Instr.storeAt,Instr.sureAddr,Zm,Zr,Zl,ux q (aa2 u) (List.all_eq_true.1 v) A]
   ·rw[List.mem_singleton.1 h];rfl
  ·exact(bG e).elim
 ·exact(bG e).elim
def ss(p:Nat):MH P (λ_=>undef):=⟨[p],xL P p,Ja p⟩
def xM(P:Program)(p g off:Nat)(t:TypeId)(l:List Value)(cs cs':Array Value)(o:Oper)(ρ:Operand→Value)(_:cv):MD:=match o.op with
 | .store T x y=>⟨[(p,ob g cs t)],λ_=>[(p,ob g cs' t)],[sE (kW (ρ x)) (some (g,off)),sE (m3 (ρ y)) (some l),sE ((P.info? T).map (·.size)) (some l.length)]⟩
 | _=>MD.bad
theorem Jc(p g off:Nat)(t:TypeId)(l:List Value)(cs cs':Array Value)(h:cs.toList.take off++l++cs.toList.drop (off+l.length)=cs'.toList)(r:off+l.length≤cs.size)(h1: ∀u∈l,u.oneCell'=true):MD.ok P (λ_=>undef) (xM P p g off t l cs cs') [p]:=by
 intro o ρ C f w c j;unfold xM at f j⊢
 split at f
 ·rename_i T x y i;simp only[i] at j⊢;simp only[Zq,Zo,or_false,forall_eq_or_imp,forall_eq,sE] at f;obtain⟨q,v,m⟩:=f;obtain⟨s,d⟩:=j.one;have e:cs'=(cs.toList.take off++l++cs.toList.drop (off+l.length)).toArray:=by rw[h]
  subst e;refine⟨ab.zero,λ_=>[(g,.cells (cs.toList.take off++l++cs.toList.drop (off+l.length)).toArray t (0,0))],_,.inr ⟨?_,by simp⟩,λz h=>?_,by rw[show([p].flatMap λp=>bN (c p))=_ by simp only[Zw,ZJ,s,bN];rfl];exact a8.setRow (cs.toList.take off++l++cs.toList.drop (off+l.length)).toArray d⟩
  ·unfold execOp;simp only[i,m0 q,uy v,Instr.storeAt,Instr.sureAddr,Zm,Zr,Zl,ux d r h1 m]
  ·rw[List.mem_singleton.1 h];rfl
 ·exact(bG f).elim
def sg(p g off:Nat)(t:TypeId)(l:List Value)(cs cs':Array Value)(h:cs.toList.take off++l++cs.toList.drop (off+l.length)=cs'.toList)(c:off+l.length≤cs.size)(h1: ∀u∈l,u.oneCell'=true):MH P (λ_=>undef):=⟨[p],xM P p g off t l cs cs',Jc p g off t l cs cs' h c h1⟩
def BL(P:Program)(s:Sem Next)(v:ab→Value)(rd:Wr)(ob:List Nat)(wt:ab→Wr):Prop:=∀(w:World) (c:gB),mA rd c w→
 ∃(E:ab) (z:gB) (d:World),(s.run P w= .ok (.value (v E)) d∨(s.run P w= .ok .skip d∧v E=undef))∧(∀x∈wt E,x.2.sat (z x.1))∧a8 (ob.flatMap λp=>bN (c p)) ((wt E).flatMap λx=>z x.1) w d
end
end
section
open Go Go.RowKit Go.Shelf
section
variable {R:List Nat} {base W W' w:World} {L L' N:aj}
theorem m4: ∀{L:aj} {cs:List ay},bt L cs→∀{i:Nat} {x:aB},L[i]? =some x→x.sat (cs.getD i [])
 | y::L,c::cs,h,0,x,a=>by simp only[aah,Option.some.injEq] at a;subst a;exact h.1
 | y::L,c::cs,h,i+1,x,a=>m4 h.2 (by simpa using a)
 | [],[],_,i,x,a=>by simp at a
 | [],_::_,h,_,_,_=>h.elim
 | _::_,[],h,_,_,_=>h.elim
theorem uz{c:gB}: ∀{L:aj} {a:List Nat},a.length=L.length→(∀(i:Nat) (x:aB),L[i]? =some x→x.sat (c (a.getD i 0)))→bt L (a.map c)
 | [],[],_,_=>trivial
 | x::L,p::a,h,b=>⟨b 0 x rfl,uz (by simpa using h) λi y d=>b (i+1) y (by simpa using d)⟩
 | [],_::_,h,_=>by simp at h
 | _::_,[],h,_=>by simp at h
theorem eA{x:aB}{xs:aj}{cs:List ay}(h:bt (x::xs) cs): ∃d ds,cs=d::ds∧x.sat d∧bt xs ds:=by
 cases cs with
 | nil=>exact h.elim
 | cons d ds=>exact⟨d,ds,rfl,h.1,h.2⟩
theorem oJ{cs:List ay}(h:bt [] cs):cs=[]:=by
 cases cs with
 | nil=>rfl
 | cons d a=>exact h.elim
theorem nS{α:Type}{d:α}{cs:List α}{i:Nat}(h:i<cs.length):cs.getD i d∈cs:=by
 rw[Zp,Zn h];exact ZP h
theorem pV{α:Type}{d:α}{cs:List α}{i:Nat}(h: ¬i<cs.length):cs.getD i d=d:=by
 rw[Zp,ZB Om];rfl
theorem rO{cs:List ay}(h:cs.flatten.Pairwise λx y=>x.1≠y.1):(∀i,(cs.getD i []).Pairwise λx y=>x.1≠y.1)∧∀i j,i≠j→∀z∈cs.getD i [],∀u∈cs.getD j [],z.1≠u.1:=by
 rw[aaZ] at h;refine⟨λi=>?_,λi j e z c u b=>?_⟩
 ·by_cases a:i<cs.length
  ·exact h.1 _ (nS a)
  ·rw[pV a];exact List.Pairwise.nil
 ·by_cases a:i<cs.length
  ·by_cases d:j<cs.length
   ·have f:=List.pairwise_iff_getElem.1 h.2;rw[Zp,Zn a] at c;rw[Zp,Zn d] at b;rcases aam e with l | l
    ·exact f i j a d l z c u b
    ·exact Ne.symm (f j i d a l u b z c)
   ·rw[pV d] at b;simp at b
  ·rw[pV a] at c;simp at c
theorem aF.start{cs:List ay}(hs:bt L cs)(e:ez cs.flatten w):aF (bN cs.flatten) w L w:=by
 have d:=rO e.nd;have k:=jJ hs;have g: ∀i,∀z∈cs.getD i [],z∈cs.flatten:=λi z a=>by
  by_cases f:i<cs.length
  ·exact List.mem_flatten.2 ⟨_,nS f,a⟩
  ·rw[pV f] at a;simp at a
 exact⟨λi=>cs.getD i [],λp h x c=>m4 hs c,λp h c=>by rw[Z0] at c;omega,λp _ z a=>e.obj z (g p z a),λp _=>d.1 p,λp q _ _ b=>d.2 p q b,
  λp _ z a=> .inl (List.mem_map.2 ⟨z,g p z a,rfl⟩),rfl,rfl,rfl,Zv _,λ_ _ _=>rfl⟩
def rP:List aj→aj→Prop
 | [],[]=>True
 | N::Ns,x::xs=>(∀a,bt N a→x.sat a.flatten)∧rP Ns xs
 | _,_=>False
theorem BM: ∀{a:List aj} {L:aj},rP a L→a.length=L.length
 | [],[],_=>rfl
 | _::_,_::_,h=>by rw[ZI,ZI,BM h.2]
 | [],_::_,h=>h.elim
 | _::_,[],h=>h.elim
theorem BN: ∀{b:List aj} {L:aj},rP b L→∀{i:Nat} {x:aB},L[i]? =some x→∃N,b[i]? =some N∧∀ds,bt N ds→x.sat ds.flatten
 | N::b,y::L,h,0,x,a=>by simp only[aah,Option.some.injEq] at a;subst a;exact⟨N,rfl,h.1⟩
 | N::b,y::L,h,i+1,x,a=>by
  obtain⟨M,c,d⟩:=BN h.2 (i:=i) (x:=x) (by simpa using a);exact⟨M,by simpa using c,d⟩
 | [],[],_,i,x,a=>by simp at a
 | [],_::_,h,_,_,_=>h.elim
 | _::_,[],h,_,_,_=>h.elim
theorem Jd(x:aB): ∀ds,bt [x] ds→x.sat ds.flatten:=λds h=>by
 obtain⟨d,c,rfl,a,b⟩:=eA h;rw[oJ b];simpa using a
theorem BO: ∀L:aj,rP (L.map λx=>[x]) L
 | []=>trivial
 | x::L=>⟨Jd x,BO L⟩
theorem BP{r:List (List Nat)}(h:r.flatten.Nodup){i j a b p:Nat}{g A:List Nat}(s:r[i]? =some g)(u:r[j]? =some A)(B:g[a]? =some p)(C:A[b]? =some p):i=j∧a=b:=by
 unfold List.Nodup at h;rw[aaZ] at h;by_cases e:i=j
 ·subst e;rw[s] at u;cases u;refine⟨rfl,?_⟩;have q:=List.pairwise_iff_getElem.1 (h.1 g (aat s));obtain⟨c,d⟩:=List.getElem?_eq_some_iff.1 B;obtain⟨f,k⟩:=List.getElem?_eq_some_iff.1 C;apply aaN;intro x;rcases aam x with l | l
  ·exact q a b c f l (d.trans k.symm)
  ·exact q b a f c l (k.trans d.symm)
 ·exfalso;have q:=List.pairwise_iff_getElem.1 h.2;obtain⟨n,t⟩:=List.getElem?_eq_some_iff.1 s;obtain⟨o,v⟩:=List.getElem?_eq_some_iff.1 u;have y:=aat B;have z:=aat C;rw[←t] at y;rw[←v] at z;rcases aam e with l | l
  ·exact q i j n o l p y p z rfl
  ·exact q j i o n l p z p y rfl
theorem aF.re(h:aF R base L W)(s:List (List Nat)){H:List aj}(he:(dp s.flatten,s.map λg=>g.map λp=>L[p]?)=(true,H.map λN=>N.map some))(hs:rP H L'):aF R base L' W:=by
 obtain⟨c,n⟩:=h;have hn:=nR (ALca (·.1) he);have I:=ALca (·.2) he;simp only at I;have hlen:s.length=L'.length:=by
  have d:=ALca aaQ I;rw[aaC,aaC] at d;exact d.trans (BM hs)
 have v: ∀i,i<L'.length→∃g N,s[i]? =some g∧H[i]? =some N∧g.map (λp=>L[p]?)=N.map some:=by
  intro i o;have d:=ALca (λz=>z[i]?) I;simp only[ZF] at d;rw[Zn (by omega:i<s.length)] at d;cases F:H[i]? with
  | none=>rw[F] at d;simp at d
  | some N=>rw[F] at d;exact⟨s[i],N,Zn Om,rfl,by simpa using d⟩
 have k: ∀{g:List Nat} {N:aj},g.map (λp=>L[p]?)=N.map some→∀p∈g,p<L.length:=by
  intro g N e p r;have:L[p]?∈N.map some:=by rw[←e];exact List.mem_map.2 ⟨p,r,rfl⟩
  obtain⟨x,_,G⟩:=List.mem_map.1 this;exact(List.getElem?_eq_some_iff.1 G.symm).1
 have t: ∀i g,s[i]? =some g→(s.getD i [])=g:=λi g D=>by rw[Zp,D];rfl
 refine⟨λi=>(s.getD i []).flatMap c,?_,?_,?_,?_,?_,?_,n.os,n.tape,n.output,n.size,n.far⟩
 ·intro i o x G;obtain⟨g,N,d,B,l⟩:=v i o;obtain⟨N',V,h5⟩:=BN hs G;rw[B] at V;cases V;rw[t i g d];have hS:bt N (g.map c):=by
   refine uz (by have:=ALca aaQ l;simpa using this) λj y hy=>?_;have C:=ALca (λz=>z[j]?) l;simp only[ZF,hy,Zy] at C;cases D:g[j]? with
   | none=>rw[D] at C;simp at C
   | some p=>
    rw[D] at C;rw[Zp,D];have X:L[p]? =some y:=by simpa using C
    exact n.sat p (List.getElem?_eq_some_iff.1 X).1 y X
  have:=h5 _ hS;rwa [←aac] at this
 ·intro i o G;rw[Z0] at G;omega
 ·intro i o z f;obtain⟨g,N,d,B,l⟩:=v i o;rw[t i g d] at f;obtain⟨p,r,f⟩:=List.mem_flatMap.1 f;exact n.obj p (k l p r) z f
 ·intro i o;obtain⟨g,N,d,B,l⟩:=v i o;rw[t i g d,ZX];refine⟨λp r=>n.inn p (k l p r),?_⟩;rw[ZZ];intro a b Y Z hab z f u A;refine n.nd _ _ (k l _ (ZP Y)) (k l _ (ZP Z)) (λe=>?_) z f u A;have:=(BP hn d d (Zn Y) (by rw[Zn Z,e])).2;omega
 ·intro i j o hj T z f u A;obtain⟨g,N,d,B,l⟩:=v i o;obtain⟨g',N',k1,k2,k3⟩:=v j hj;rw[t i g d] at f;rw[t j g' k1] at A;obtain⟨p,r,f⟩:=List.mem_flatMap.1 f;obtain⟨q,F,A⟩:=List.mem_flatMap.1 A;refine n.nd p q (k l p r) (k k3 q F) (λe=>?_) z f u A;subst e;obtain⟨a,M,O⟩:=ZG r;obtain⟨b,Q,S⟩:=ZG F;exact T (BP hn d k1 (by rw[Zn M,O]) (by rw[Zn Q,S])).1
 ·intro i o z f;obtain⟨g,N,d,B,l⟩:=v i o;rw[t i g d] at f;obtain⟨p,r,f⟩:=List.mem_flatMap.1 f;exact n.lo p (k l p r) z f
theorem aF.pick(h:aF R base L W)(a:List Nat)(N:aj)(b:(dp (a.map λp=>[p]).flatten,(a.map λp=>[p]).map λg=>g.map λp=>L[p]?)=(true,(N.map λx=>[x]).map λN=>N.map some):=by kernel_rfl):aF R base N W:=
 h.re _ b (BO N)
theorem aF.open(h:aF R base L W)(k:Nat){Q:ay→Prop}(g:L[k]? =some (.p Q)): ∃f,Q f∧aF R base (L.set k (.c f)) W:=by
 obtain⟨c,a⟩:=h;have d:=(List.getElem?_eq_some_iff.1 g).1;refine⟨c k,a.sat k d _ g,c,?_⟩;rw[Z7];refine⟨λp i x b=>?_,λp i b=>?_,a.obj,a.inn,a.nd,a.lo,a.os,a.tape,a.output,a.size,a.far⟩
 ·rw[aba] at b;by_cases e:k=p
  ·subst e;rw[ALifp rfl,ALifp d] at b;cases b;rfl
  ·rw[ALifn e] at b;exact a.sat p i x b
 ·rw[Z0,Z7] at b;omega
theorem aF.fin{rd:aj}{cs:List ay}(hs:bt rd cs)(hh:ez cs.flatten w)(h:aF (bN cs.flatten) w L W')(O:List Nat)(N:aj)(v:List Nat)(H:List (Nat×Nat))
  (he:(dp (v++H.map (·.2)),v.map (λp=>L[p]?),H.map (λx=>L[x.2]?),(ZR rd.length).all λi=>O.contains i||H.any λx=>x.1==i)=(true,N.map some,H.map (λx=>some (.c (cs.getD x.1 []))),true)):
  ∃ds,bt N ds∧a8 (O.flatMap λi=>bN (cs.getD i [])) ds.flatten w W':=by
 obtain⟨c,f⟩:=h;simp only[Prod.mk.injEq] at he;obtain⟨h1,I,h3,h4⟩:=he;have X:=nR h1;have l: ∀p∈v,p<L.length:=λp g=>by
  have:L[p]?∈N.map some:=by rw[←I];exact List.mem_map.2 ⟨p,g,rfl⟩
  obtain⟨x,_,G⟩:=List.mem_map.1 this;exact(List.getElem?_eq_some_iff.1 G.symm).1
 have s: ∀i,i<rd.length→i∉O→∃k,k<L.length∧k∉v∧c k=cs.getD i []:=by
  intro i q Y;have o:=List.all_eq_true.1 h4 i (List.mem_range.2 q);simp only[Z5,List.any_eq_true,beq_iff_eq] at o;rcases o with o | ⟨x,G,rfl⟩
  ·exact absurd (by simpa using o) Y
  ·obtain⟨j,F,hx'⟩:=ZG G;have n:=ALca (λz=>z[j]?) h3;simp only[ZF,Zn F,Zy,hx',Option.some.injEq] at n;have B:=(List.getElem?_eq_some_iff.1 n).1;refine⟨x.2,B,λg=>?_,f.sat x.2 B _ n⟩;rw[List.nodup_append] at X;exact X.2.2 x.2 g x.2 (List.mem_map.2 ⟨x,G,rfl⟩) rfl
 have D: ∀b,b∈bN cs.flatten→∃i,i<cs.length∧∃z∈cs.getD i [],z.1=b:=by
  intro b M;obtain⟨z,a,e⟩:=List.mem_map.1 M;obtain⟨d,hd,a⟩:=List.mem_flatten.1 a;obtain⟨i,q,e2⟩:=ZG hd;exact⟨i,q,z,by rw[Zp,Zn q,e2];exact a,e⟩
 have hl:=jJ hs;refine⟨v.map c,uz (by have:=ALca aaQ I;simpa using this) λj y hy=>?_,f.os,f.tape,f.output,f.size,λz a=>?_,λz a=>?_,?_,λb M Z=>?_⟩
 ·have n:=ALca (λz=>z[j]?) I;simp only[ZF,hy,Zy] at n;cases Q:v[j]? with
  | none=>rw[Q] at n;simp at n
  | some p=>
   rw[Q] at n;rw[Zp,Q];have h7:L[p]? =some y:=by simpa using n
   exact f.sat p (List.getElem?_eq_some_iff.1 h7).1 y h7
 ·rw[←aac] at a;obtain⟨p,g,a⟩:=List.mem_flatMap.1 a;exact f.obj p (l p g) z a
 ·rw[←aac] at a;obtain⟨p,g,a⟩:=List.mem_flatMap.1 a;rcases f.lo p (l p g) z a with o | o
  ·obtain⟨i,q,u,C,e⟩:=D _ o;by_cases r:i∈O
   ·exact .inl (List.mem_flatMap.2 ⟨i,r,List.mem_map.2 ⟨u,C,e⟩⟩)
   ·obtain⟨k,T,V,t⟩:=s i Om r;rw[←t] at C;exact absurd e.symm (f.nd p k (l p g) T (λe=>V (e▸g)) z a u C)
  ·exact .inr o
 ·rw[←aac,ZX];refine⟨λp g=>f.inn p (l p g),?_⟩;rw[ZZ];intro i j q F S z a u C;refine f.nd _ _ (l _ (ZP q)) (l _ (ZP F)) (λe=>?_) z a u C;have g:v.Nodup:=(List.nodup_append.1 X).1;have:=(List.pairwise_iff_getElem.1 g) i j q F S;exact this e
 ·by_cases A:b∈bN cs.flatten
  ·obtain⟨i,q,z,a,e⟩:=D b A;have r:i∉O:=λhm=>Z (List.mem_flatMap.2 ⟨i,hm,List.mem_map.2 ⟨z,a,e⟩⟩);obtain⟨k,T,_,t⟩:=s i Om r;have o:=f.obj k T z (by rw[t];exact a);have n:=hh.obj z (List.mem_flatten.2 ⟨_,nS q,a⟩);rw[←e,o,n]
  ·exact f.far b M A
end
theorem aF.get1{R:List Nat}{base W:World}{L:aj}(h:aF R base L W){k g:Nat}{x:Obj}(d:L[k]? =some (.c [(g,x)])):W.heap[g]? =some x:=by
 obtain⟨c,b⟩:=h;have a:=(List.getElem?_eq_some_iff.1 d).1;have e:c k=[(g,x)]:=b.sat k a _ d;exact b.obj k a (g,x) (by rw[e];exact List.mem_singleton.2 rfl)
inductive RV (P:Program):Type
 | t (v:Value)
 | c (v:Value) (k:Nat)
 | s (l:List Value) (k:Nat)
def RV.val{P:Program}:RV P→Value
 | t v=>v
 | c v _=>v
 | s l _=> .agg l.toArray
section
variable {P:Program} {L:aj} {tmps:Array Value}
def fM(P:Program)(L:aj)(tmps:Array Value):List ResultVar→List (RV P)→List a9
 | [],[]=>[]
 | .tmp i::rs,.t v::vs=>sE (tmps.getD i undef) v::fM P L tmps rs vs
 | .cell p T::rs,.c v k::vs=>(match L[k]? with
  | some (.c [(g,.cells a _ (0,0))])=>[sE (tmps.getD p undef) (nQ g 0),sE a[0]? (some v),sE (λw=>(isAgg T).run P w) (λw=> .ok false w)]
  | _=>[sB false])++fM P L tmps rs vs
 | .cell p T::rs,.s l k::vs=>(match L[k]? with
  | some (.c [(g,.cells a _ (0,0))])=>[sE (tmps.getD p undef) (nQ g 0),sE ((a.toList.drop 0).take l.length) l,sB (dH P T),sE ((P.info? T).map (·.size)) (some l.length)]
  | _=>[sB false])++fM P L tmps rs vs
 | _,_=>[sB false]
def nT:List (RV P)→Value
 | [v]=>v.val
 | vs=> .tuple (vs.map RV.val).toArray
def nU(tmps:Array Value):ResultVar→Sem Value
 | .tmp t=>pure (tmps.getD t undef)
 | .cell a t=>do loadVar t (←asAddr (tmps.getD a undef))
theorem BQ{p g:Nat}{T:TypeId}{v:Value}{W:World}(h:tmps.getD p undef=nQ g 0)(b:(loadVar T ⟨g,0,none⟩).run P W= .ok v W):(nU tmps (.cell p T)).run P W= .ok v W:=by
 have a:tmps[p]?.getD undef= .pointer (some ⟨g,0,none⟩):=by simpa [nQ] using h
 simp [nU,a,asAddr,b]
theorem Je{R:List Nat}{base W:World}(y:aF R base L W): ∀(rs:List ResultVar) (d:List (RV P)),(∀e∈fM P L tmps rs d,e.2.1=e.2.2)→(rs.mapM (nU tmps)).run P W= .ok (d.map RV.val) W:=by
 intro rs
 induction rs with
 | nil=>
  intro d a;cases d with
  | nil=>simp
  | cons v d=>exact(bG (by simpa [fM] using a)).elim
 | cons x rs ih=>
  intro d a;cases d with
  | nil=>exact(bG (by simpa [fM] using a)).elim
  | cons v d=>
   have b: ∀{w:Value},(nU tmps x).run P W= .ok w W→v.val=w→(∀e∈fM P L tmps rs d,e.2.1=e.2.2)→((x::rs).mapM (nU tmps)).run P W= .ok ((v::d).map RV.val) W:=by
    intro w n o q;rw[List.mapM_cons];simp only[Zm,n,ih d q,Zl,Zr,aak,o]
   cases x with
   | tmp i=>
    cases v with
    | t v=>
     simp only[fM,Zq,forall_eq_or_imp,sE] at a;exact b (w:=v) (by simp only[nU,Zr];rw[a.1]) rfl a.2
    | _=>exact(bG (by simpa only[fM] using a)).elim
   | cell p T=>
    cases v with
    | t v=>exact(bG (by simpa only[fM] using a)).elim
    | c v k=>
     simp only[fM] at a
     split at a
     ·rename_i g u z f;simp only[abe,Zq,Zo,or_false,or_imp,forall_and,forall_eq,sE] at a;obtain⟨⟨n,o,q⟩,r⟩:=a;have B:mv W g z u:=y.get1 f;exact b (BQ n (rv (congrFun q W) ((B.cell 0).trans o))) rfl r
     ·exact(bG λe h=>a e (Zs _ h)).elim
    | s l k=>
     simp only[fM] at a
     split at a
     ·rename_i g u z f;simp only[abe,Zq,Zo,or_false,or_imp,forall_and,forall_eq,sE,sB] at a;obtain⟨⟨n,o,q,A⟩,r⟩:=a;exact b (BQ n (uw (y.get1 f) o q A)) rfl r
     ·exact(bG λe h=>a e (Zs _ h)).elim
theorem BR{R:List Nat}{base W:World}{b:Func}(d:aF R base L W)(a:List (RV P))(e:(fM P L tmps b.results.toList a).map a9.lhs=(fM P L tmps b.results.toList a).map a9.rhs):(results b tmps).run P W= .ok (nT a) W:=by
 have h:=Je d _ _ (a9.all e);have c:(b.results.mapM (nU tmps)).run P W= .ok (a.map RV.val).toArray W:=by
  rw[Array.mapM_eq_mapM_toList,map_eq_pure_bind,Zm,h];simp only[Zl,Zr]
 unfold results;show Sem.run P (bind (b.results.mapM (nU tmps)) _) W=_;rw[Zm,c];simp only[Zl,Zr];cases a with
 | nil=>rfl
 | cons v a=>
  cases a with
  | nil=>rfl
  | cons u a=>rw[dif_neg (by simp)];rfl
end
theorem Jf{F:Fence}{n:Nat}{P:Program}{a:Func}{tmps:Array Value}{R:Ending→World→Prop}{c:List Nat}{base:World}{L:aj}{W:World}(b:Hid (aF c base L W))(vs:List (RV P))(d:(fM P L tmps a.results.toList vs).map a9.lhs=(fM P L tmps a.results.toList vs).map a9.rhs)
 (h:aF c base L W→R (.returned (nT vs)) W):LeavesInM F n P a tmps R [] .returning W:=⟨_,BR b.out vs d,h b.out⟩
end
section
open Go Go.RowKit Go.Shelf
structure cD (R:List Nat) (base:World) (L:ay) (W:World):Prop where
  obj: ∀x∈L,W.heap[x.1]? =some x.2
  nd:L.Pairwise (λx y=>x.1≠y.1)
  lo: ∀x∈L,x.1∈R∨base.heap.size≤x.1
  os:W.os=base.os
  tape:W.tape=base.tape
  output:W.output=base.output
  size:base.heap.size≤W.heap.size
  far: ∀b,b<base.heap.size→b∉R→W.heap[b]? =base.heap[b]?
section
variable {R R0:List Nat} {base w W W':World} {L L':ay}
theorem cD.start{R0:ay}(H:ez R0 w):cD (R0.map (·.1)) w R0 w:=
  ⟨H.obj,H.nd,λx a=> .inl (List.mem_map.2 ⟨x,a,rfl⟩),rfl,rfl,rfl,Zv _,λ_ _ _=>rfl⟩
theorem cD.lt(h:cD R base L W){x:Nat×Obj}(a:x∈L):x.1<W.heap.size:=(Array.getElem?_eq_some_iff.1 (h.obj x a)).1
theorem cD.sub(h:cD R base L W)(hs:L'.Sublist L):cD R base L' W:=⟨λx a=>h.obj x (hs.subset a),h.nd.sublist hs,λx a=>h.lo x (hs.subset a),h.os,h.tape,h.output,h.size,h.far⟩
end
section
variable {R R0:List Nat} {base w W W' W1:World} {L L' K:ay} {Ds:List Nat}
theorem cD.turn{O:Nat→Prop}(h:cD R base L W)(t:Y8 (λb=>¬O b) W W')(f: ∀x∈L,O x.1)(hf: ∀b,b<base.heap.size→b∉R→O b):cD R base L W':=
  ⟨λx d=>t.heap (λe=>e (f x d)) (h.obj x d),h.nd,h.lo,t.os.trans h.os,t.tape.trans h.tape,t.output.trans h.output,ZL h.size t.size,
    λb a c=>(t.same b (ZY a h.size) (λe=>e (hf b a c))).trans (h.far b a c)⟩
theorem cD.join(h:cD R base L W)(k:cD (L.map (·.1)) W L' W'):cD R base L' W':=
  ⟨k.obj,k.nd,λx i=>(k.lo x i).elim (λa=>by obtain⟨y,c,e⟩:=List.mem_map.1 a;rw[←e];exact h.lo y c) (λa=> .inr (ZL h.size a)),k.os.trans h.os,k.tape.trans h.tape,k.output.trans h.output,ZL h.size k.size,
    λb f g=>(k.far b (ZY f h.size) λa=>by
      obtain⟨y,c,e⟩:=List.mem_map.1 a;rcases h.lo y c with d | d
      · exact g (by rw[←e];exact d)
      · omega).trans (h.far b f g)⟩
theorem cD.has(h:cD R base L W):ez L W:=⟨h.obj,h.nd⟩
theorem cD.anew(h:cD R base L W):cD (L.map (·.1)) W L W:=cD.start h.has
def jM(R:List Nat)(base:World)(R0:List Nat)(w:World)(Ds:List Nat):Prop:=∀L W,cD R base L W→cD R0 w (L++Ds.map dO) W
theorem cD.seg(h:cD R0 w (L++Ds.map dO) W):jM (L.map (·.1)) W R0 w Ds:=by
  intro L' W' k;have o:=List.pairwise_append.1 h.nd;have i: ∀{D:Nat},D∈Ds→dO D∈L++Ds.map dO:=λc=>Zt _ (Z2 c);have f: ∀{D:Nat},D∈Ds→D∉L.map (·.1):=λc a=>by
    obtain⟨y,g,e⟩:=List.mem_map.1 a;exact o.2.2 y g _ (Z2 c) e
  refine⟨λx a=>?_,?_,λx a=>?_,k.os.trans h.os,k.tape.trans h.tape,k.output.trans h.output,ZL h.size k.size,λb l n=>?_⟩
  · rcases List.mem_append.1 a with a | a
    · exact k.obj x a
    · obtain⟨D,c,rfl⟩:=List.mem_map.1 a;exact(k.far D (h.lt (i c)) (f c)).trans (h.obj _ (i c))
  · refine List.pairwise_append.2 ⟨k.nd,o.2.1,λx a y g e=>?_⟩;obtain⟨D,c,rfl⟩:=List.mem_map.1 g;rcases k.lo x a with d | d
    · exact f c (by rw[←show x.1=D from e];exact d)
    · have:=h.lt (i c);have p:x.1=D:=e;have q:(dO D).1=D:=rfl;omega
  · rcases List.mem_append.1 a with a | a
    · rcases k.lo x a with d | d
      · obtain⟨y,g,e⟩:=List.mem_map.1 d;rw[←e];exact h.lo y (Zs _ g)
      · exact .inr (ZL h.size d)
    · exact h.lo x (Zt _ a)
  · refine(k.far b (ZY l h.size) λa=>?_).trans (h.far b l n);obtain⟨y,g,e⟩:=List.mem_map.1 a;rcases h.lo y (Zs _ g) with d | d
    · exact n (by rw[←e];exact d)
    · omega
theorem jM.mark{D:Nat}(c:jM R base R0 w Ds)(h:cD R base (L++[dO D]) W):jM (L.map (·.1)) W R0 w (D::Ds):=by
  intro L' W' k;have a:cD R base (L++[D].map dO) W:=h;have b:=c _ _ (a.seg L' W' k);simpa using b
theorem cD.unmark{D:Nat}{M:ay}(o:Obj)(h:cD R base (L++dO D::M) W):cD R base (L++M) (W.putObj D o):=by
  have e:=List.pairwise_append.1 h.nd;have d:=List.pairwise_cons.1 e.2.1;have k:dO D∈L++dO D::M:=by simp
  have f: ∀x∈L++M,x.1≠D:=λx a=>by
    rcases List.mem_append.1 a with a | a
    · exact e.2.2 x a (dO D) (by simp)
    · exact Ne.symm (d.1 x a)
  have c: ∀x∈L++M,x∈L++dO D::M:=λx a=>by
    rcases List.mem_append.1 a with a | a
    · exact Zs _ a
    · exact Zt _ (ZN _ a)
  refine⟨λx a=>(ZE (f x a)).trans (h.obj x (c x a)),?_,λx a=>h.lo x (c x a),h.os,h.tape,h.output,by simpa [aaB] using h.size,λb l i=>?_⟩
  · exact List.pairwise_append.2 ⟨e.1,d.2,λx a y n=>e.2.2 x a y (ZN _ n)⟩
  · refine(ZE ?_).trans (h.far b l i);rintro rfl;rcases h.lo _ k with g | g
    · exact i g
    · have p:(dO b).1=b:=rfl;omega
end
section
variable {R R0:List Nat} {base w W W':World} {L L':aj} {Ds:List Nat}
theorem aF.conc(h:aF R base L W): ∃cs,bt L cs∧cD R base cs.flatten W:=by
  obtain⟨c,e⟩:=h;have l: ∀{z:Nat×Obj},z∈((ZR L.length).map c).flatten→∃p,p<L.length∧z∈c p:=λd=>by
    rw[←aac] at d;obtain⟨p,f,d⟩:=List.mem_flatMap.1 d;exact⟨p,List.mem_range.1 f,d⟩
  refine⟨(ZR L.length).map c,uz (by rw[abb]) λi x n=>?_,λz d=>?_,?_,λz d=>?_,e.os,e.tape,e.output,e.size,e.far⟩
  · have k:=(List.getElem?_eq_some_iff.1 n).1;rw[Zp,aav k];exact e.sat i k x n
  · obtain⟨p,f,d⟩:=l d;exact e.obj p f z d
  · rw[←aac,ZX];refine⟨λp f=>e.inn p (List.mem_range.1 f),?_⟩;exact List.Pairwise.imp_of_mem (λ{a b} o q g z d u r=>e.nd a b (List.mem_range.1 o) (List.mem_range.1 q) g z d u r) (show(ZR L.length).Pairwise (· ≠ ·) from List.nodup_range)
  · obtain⟨p,f,d⟩:=l d;exact e.lo p f z d
theorem aF.ofS{cs:List ay}(hs:bt L cs)(h:cD R base cs.flatten W):aF R base L W:=by
  have d:=rO h.nd;have k:=jJ hs;have f: ∀i,∀z∈cs.getD i [],z∈cs.flatten:=λi z a=>by
    by_cases e:i<cs.length
    · exact List.mem_flatten.2 ⟨_,nS e,a⟩
    · rw[pV e] at a;simp at a
  exact⟨λi=>cs.getD i [],λp g x c=>m4 hs c,λp g c=>by rw[Z0] at c;omega,λp _ z a=>h.obj z (f p z a),λp _=>d.1 p,λp q _ _ b=>d.2 p q b,
    λp _ z a=>h.lo z (f p z a),h.os,h.tape,h.output,h.size,h.far⟩
abbrev mk(D:Nat):aB:= .c [dO D]
theorem kx: ∀{L L':aj} {cs ds:List ay},bt L cs→bt L' ds→bt (L++L') (cs++ds)
  | [],_,[],_,_,h=>h
  | _::_,_,_::_,_,h,k=>⟨h.1,kx h.2 k⟩
  | [],_,_::_,_,h,_=>h.elim
  | _::_,_,[],_,h,_=>h.elim
theorem nV: ∀{L L':aj} {a:List ay},bt (L++L') a→∃ds es,a=ds++es∧bt L ds∧bt L' es
  | [],_,a,h=>⟨[],a,rfl,trivial,h⟩
  | x::L,L',[],h=>h.elim
  | x::L,L',d::a,h=>by
    obtain⟨ds,es,e,b,c⟩:=nV (L:=L) h.2;exact⟨d::ds,es,by rw[e];rfl,⟨h.1,b⟩,c⟩
theorem rQ: ∀Ds:List Nat,bt (Ds.map mk) (Ds.map λD=>[dO D])
  | []=>trivial
  | _::Ds=>⟨rfl,rQ Ds⟩
theorem pW: ∀{Ds:List Nat} {es:List ay},bt (Ds.map mk) es→es.flatten=Ds.map dO
  | [],[],_=>rfl
  | D::Ds,e::es,h=>by
    have a:e=[dO D]:=h.1;rw[aao,a,pW h.2];rfl
  | [],_::_,h=>h.elim
  | _::_,[],h=>h.elim
theorem aF.seg(h:aF R0 w (L++Ds.map mk) W): ∃b,Hid (jM b W R0 w Ds)∧Hid (aF b W L W):=by
  obtain⟨f,e,a⟩:=h.conc;obtain⟨g,i,rfl,c,d⟩:=nV e;rw[ZK,pW d] at a;exact⟨_,Lib.hid a.seg,Lib.hid (aF.ofS c (cD.anew (a.sub (aaz _ _))))⟩
theorem jM.markE{D:Nat}(c:jM R base R0 w Ds)(h:aF R base (L++[mk D]) W): ∃b,Hid (jM b W R0 w (D::Ds))∧Hid (aF b W L W):=by
  obtain⟨g,f,a⟩:=h.conc;obtain⟨i,k,rfl,d,e⟩:=nV f;rw[ZK,pW (Ds:=[D]) e] at a;exact⟨_,Lib.hid (c.mark a),Lib.hid (aF.ofS d (cD.anew (a.sub (aaz _ _))))⟩
theorem jM.whole(c:jM R base R0 w Ds)(h:aF R base L W):aF R0 w (L++Ds.map mk) W:=by
  obtain⟨d,b,a⟩:=h.conc;refine aF.ofS (kx b (rQ Ds)) ?_;have e:((Ds.map λD=>[dO D]):List ay).flatten=Ds.map dO:=pW (rQ Ds);rw[ZK,e];exact c _ _ a
end
theorem BS{F:Fence}{n:Nat}{P:Program}{c:Func}{tmps:Array Value}{Rp:Ending→World→Prop}{R R0:List Nat}{base w:World}{L:aj}{W:World}{Ds:List Nat}(e:Hid (jM R base R0 w Ds))(f:Hid (aF R base L W))(vs:List (RV P))(i:(fM P L tmps c.results.toList vs).map a9.lhs=(fM P L tmps c.results.toList vs).map a9.rhs)
    (h: ∀W',aF R0 w L W'→Rp (.returned (nT vs)) W'):LeavesInM F n P c tmps Rp (Ds.map j5) .returning W:=by
  obtain⟨g,l,a⟩:=f.out.conc;have d: ∀(Ds:List Nat) (W:World),cD R0 w (g.flatten++Ds.map dO) W→LeavesInM F n P c tmps Rp (Ds.map j5) .returning W:=by
    intro Ds
    induction Ds with
    | nil=>
      intro W a;have b:aF R0 w L W:=aF.ofS l (by simpa using a);exact⟨_,BR b vs i,h _ b⟩
    | cons D Ds ih=>
      intro W a;have k:W.heap[D]? =some (.deferred (some [])):=a.obj (dO D) (by simp);exact⟨by simp,.inl ⟨D,_,rfl,run_takeDeferred k,ih _ (a.unmark _)⟩⟩
  exact d Ds W (e.out _ W a)
structure gX (K O O':Nat→Prop) (W W':World):Prop where
  size:W.heap.size≤W'.heap.size
  old: ∀b,b<W.heap.size→O' b→O b
  new: ∀b,O' b→b<W'.heap.size
  keep: ∀b,b<W.heap.size→(¬O b∨K b)→W'.heap[b]? =W.heap[b]?
theorem gX.trans{K A B C:Nat→Prop}{W W1 d:World}(h:gX K A B W W1)(k:gX K B C W1 d):gX K A C W d:=by
  refine⟨ZL h.size k.size,λb a f=>h.old b a (k.old b (ZY a h.size) f),k.new,λb a c=>?_⟩;refine(k.keep b (ZY a h.size) ?_).trans (h.keep b a c);rcases c with c | c
  · exact .inl λe=>c (h.old b a e)
  · exact .inr c
def oK{α:Type}(F:Fence)(n:Nat)(P:Program)(g:Nat)(f:Array Value)(encs:α→Array Value)(xs:List α)(K:Nat→Prop)(St:(Nat→Prop)→World→Prop):Prop:=
  ∀(l:Nat) (J c:Nat→(Nat→Prop)→World→Prop) (W:World) (O:Nat→Prop),St O W→gO J→gO c→(∀b,O b→b<W.heap.size)→
    (∀i x d W1,xs[i]? =some x→J i d W1→W.heap.size≤W1.heap.size→YieldAt F (n-1) P l (encs x) W1 λe W'=>∃a,gX K d a W1 W'∧
      ((e= .returned (.bool true)∧J (i+1) a W')∨(e= .returned (.bool false)∧c (i+1) a W')))→
    J 0 O W→
    CallsIn F n P g (#[.func (.yield l) #[] #[]]++f) W λe W'=>(∃v,e= .returned v)∧((∃a,J xs.length a W')∨∃i,i<xs.length∧∃a,c (i+1) a W')
def BT(K:Nat→Prop)(I:Nat→(Nat→Prop)→World→Prop)(b:Code→Nat→(Nat→Prop)→World→Prop)(i:Nat)(O:Nat→Prop)(W:World):Exit→Act→World→Prop
  | .normal,_,W'=>∃a,gX K O a W W'∧I i a W'
  | .ret,_,W'=>∃a,gX K O a W W'∧b .ret i a W'
  | .exit c,_,W'=>∃a,gX K O a W W'∧b (.exit c) i a W'
  | .goto t,_,W'=>∃a,gX K O a W W'∧b (.goto t) i a W'
  | .panic _,_,_=>False
  | .outgrown,_,_=>False
theorem BU{α:Type}{F:Fence}{n:Nat}{P:Program}{g:Operand}{ps:Array Tmp}{assign body:Code}{Q:Exit→Act→World→Prop}{a:Act}{w:World}
    (hro:F.round=none) (h1:1≤n) {gf:Nat} {lb:Array Value} (hg:a.eval g= .func (.func gf) #[] lb) (hFg:F.fn gf) (eg: ∀args w,(callFunc gf args).run P w= .ok (.enter gf args) w)
    {encs:α→Array Value} {xs:List α} {K:Nat→Prop} {St:(Nat→Prop)→World→Prop} (hit:oK F (n-1) P gf lb encs xs K St) (O:Nat→Prop)
    (hSt: ∀W,(∀b,b<w.heap.size→W.heap[b]? =w.heap[b]?)→∀O1:Nat→Prop,(∀b,b<w.heap.size→O1 b→O b)→St O1 W) (hO: ∀b,O b→b<w.heap.size) (hKl: ∀b,K b→b<w.heap.size) (hps: ∀x,(encs x).size=ps.size)
    (I:Nat→(Nat→Prop)→World→Prop) (Ix:Code→Nat→(Nat→Prop)→World→Prop) (hI:gO I) (hIx: ∀c,gO (Ix c)) (h0:I 0 O w)
    (hround: ∀(l i:Nat) (x:α) (O1:Nat→Prop) (W:World),xs[i]? =some x→w.heap.size+2≤W.heap.size→I i O1 W→
      assign.wpIn (F.inRound l) (n-1-1) P (Exit.then (λa' Wa=>∃Oa,gX K O1 Oa W Wa∧∀U,Y8 (λb=>¬Oa b) Wa U→U.heap.size=Wa.heap.size→
        body.wpIn (F.inRound l) (n-1-1) P (BT K I Ix (i+1) Oa U) a' U) (λ_ _ _=>False)) {tmps:=(ps.zip (encs x)).foldl (λt (p,v)=>t.setIfInBounds p v) a.tmps,defers:=[]} W)
    (hdone: ∀(D:Nat) (O1:Nat→Prop) (W:World),w.heap.size≤D→¬O1 D→I xs.length O1 W→W.heap[D]? =some (.deferred (some []))→Q .normal {a with defers:={target:= .collected D,args:=#[]}::a.defers} W)
    (hstop: ∀(D:Nat) (c:Code) (i:Nat) (O1:Nat→Prop) (W:World),w.heap.size≤D→¬O1 D→i<xs.length→Ix c (i+1) O1 W→W.heap[D]? =some (.deferred (some []))→c.wpIn F n P Q {a with defers:={target:= .collected D,args:=#[]}::a.defers} W):
    (Code.rangeFunc g ps assign body).wpIn F n P Q a w:=by
  refine wpIn_rangeFunc ?_
  intro fn hfn
  rw[hro]
  obtain⟨B,hB⟩: ∃B,w.heap.size=B:=⟨_,rfl⟩
  obtain⟨rec,hrec⟩: ∃rec:LoopState→Option Code→Loop,rec=λst pe=>{state:=st,pending:=pe,fn,tmps:=a.tmps,params:=ps,assign,body,defers:=B}:=⟨_,rfl⟩
  obtain⟨V,hV⟩: ∃V,(w.alloc (.deferred (some []))).alloc (.loop (rec .ready none))=V:=⟨_,rfl⟩
  have vl:V.heap[B+1]? =some (.loop (rec .ready none)):=by
    rw[←hV,←hB];have:=aas (w.alloc (.deferred (some []))) (.loop (rec .ready none));rwa [World.size_alloc] at this
  have vd:V.heap[B]? =some (.deferred (some [])):=by
    rw[←hV,←hB];exact(Below.heap_alloc _ _ _ (by simp)).trans (aas w _)
  have vo: ∀b,b<B→V.heap[b]? =w.heap[b]? :=by
    intro b hb
    rw[←hV];exact(Below.heap_alloc _ _ _ (by simp;omega)).trans (Below.heap_alloc _ _ _ Om)
  have vI:I 0 O V:=by
    rw[←hV];exact hI 0 _ _ _ (hI 0 _ _ _ h0 (Y8.alloc _ _ _)) (Y8.alloc _ _ _)
  have vs:V.heap.size=B+2:=by rw[←hV,←hB];simp
  refine⟨B+1,[{target:= .collected B,args:=#[]}],V,{target:= .fn (.func gf) lb,args:=#[.func (.yield (B+1)) #[] #[]]},V,gf,
    #[.func (.yield (B+1)) #[] #[]]++lb,V,?_,?_,?_,?_,λ_=>h1,?_⟩
  · rw[←hV,hrec,←hB];exact run_enterLoop_outer _ _ _ _ _
  · simp only[resolve,hg]
    simp [go_sem]
  · intro f' hf';simp [Target.leads] at hf';subst hf';exact hFg
  · simp [invoke,go_sem,eg]
  · obtain⟨up,hup⟩: ∃up:(Nat→Prop)→Nat→Prop,up=λOc b=>Oc b∨b=B∨b=B+1:=⟨_,rfl⟩
    have kept: ∀{Oc:Nat→Prop} {A C:World} {b:Nat} {o:Obj},Y8 (λb=>¬up Oc b) A C→(b=B∨b=B+1)→A.heap[b]? =some o→C.heap[b]? =some o:=λ{Oc A C b o} t hb ho=>
      t.heap (λe=>e (by rw[hup];exact .inr hb)) ho
    have upT: ∀{Oc:Nat→Prop} {A C:World},Y8 (λb=>¬up Oc b) A C→Y8 (λb=>¬Oc b) A C:=λ{Oc A C} t=>t.mono λb hb h=>hb (by rw[hup];exact .inl h)
    refine(hit (B+1)
      (λi O1 W=>∃Oc,O1=up Oc∧(¬Oc B∧¬Oc (B+1))∧I i Oc W∧W.heap[B+1]? =some (.loop (rec .ready none))∧W.heap[B]? =some (.deferred (some [])))
      (λi O1 W=>∃Oc,O1=up Oc∧(¬Oc B∧¬Oc (B+1))∧∃c,Ix c i Oc W∧W.heap[B+1]? =some (.loop (rec .done (some c)))∧W.heap[B]? =some (.deferred (some [])))
      V (up O) (hSt V (by rw[hB];exact vo) (up O) λb hb h=>by
        rw[hup] at h
        rcases h with h | h | h
        · exact h
        · omega
        · omega)
      (λi O1 A C hs t=>by
        obtain⟨Oc,rfl,hn,h1,h2,h3⟩:=hs
        exact⟨Oc,rfl,hn,hI i _ A C h1 (upT t),kept t (.inr rfl) h2,kept t (.inl rfl) h3⟩)
      (λi O1 A C hs t=>by
        obtain⟨Oc,rfl,hn,c,h1,h2,h3⟩:=hs
        exact⟨Oc,rfl,hn,c,hIx c i _ A C h1 (upT t),kept t (.inr rfl) h2,kept t (.inl rfl) h3⟩)
      (λb hb=>by
        rw[hup] at hb
        rcases hb with h | h | h
        · have:=hO b h;omega
        · omega
        · omega)
      ?_ ⟨O,rfl,⟨λh=>by have:=hO _ h;omega,λh=>by have:=hO _ h;omega⟩,vI,vl,vd⟩).mono ?_
    · rintro i x O1 W hx ⟨Oc,rfl,hn,hi,hl,hd⟩ hVW
      have hlt:B+1<W.heap.size:=(Array.getElem?_eq_some_iff.1 hl).1
      have hy:=run_yield (P:=P) (args:=encs x) hl (by rw[hrec];exact hps x)
      rw[hrec] at hy
      have hra:=hround (B+1) i x Oc W hx Om hi
      refine⟨fn,_,assign,body,hy,roundIn_of_wpIn hfn (wpIn_mono hra ?_)⟩
      intro e0 a0 Wa hpa
      cases e0 with
      | normal=>?_
      | ret=>exact hpa.elim
      | exit id=>exact hpa.elim
      | goto t=>exact hpa.elim
      | panic ch=>exact hpa.elim
      | outgrown=>exact hpa.elim
      obtain⟨Oa,hga,hbody⟩:=hpa
      have was:=hga.size
      have hlW:=hl
      have hdW:=hd
      have hnW:=hn
      have hltW:=hlt
      have gW:gX K (up Oc) (up Oa) W Wa:=by
        refine⟨hga.size,?_,?_,λb hb h=>hga.keep b hb (h.imp (λh e=>h (by rw[hup];exact .inl e)) id)⟩
        · intro b hb h
          rw[hup] at h⊢
          exact h.elim (λh=> .inl (hga.old b hb h)) .inr
        · intro b h
          rw[hup] at h
          rcases h with h | h | h
          · exact hga.new b h
          · omega
          · omega
      have hl:=(hga.keep (B+1) hlt (.inl hn.2)).trans hlW
      have hd:=(hga.keep B Om (.inl hn.1)).trans hdW
      have hn: ¬Oa B∧¬Oa (B+1):=⟨λh=>hnW.1 (hga.old _ Om h),λh=>hnW.2 (hga.old _ hlt h)⟩
      have hlt:B+1<Wa.heap.size:=(Array.getElem?_eq_some_iff.1 hl).1
      refine⟨_,run_beginRound hl (by rw[hrec]),?_⟩
      obtain⟨U,hU⟩: ∃U,Wa.putObj (B+1) (.loop {rec .ready none with state:= .busy})=U:=⟨_,rfl⟩
      have ul:U.heap[B+1]? =some (.loop {rec .ready none with state:= .busy}):=by rw[←hU];exact aaA hlt
      have ud:U.heap[B]? =some (.deferred (some [])):=by rw[←hU];exact(ZE Om).trans hd
      have us:U.heap.size=Wa.heap.size:=by rw[←hU];simp [aaB]
      have uo: ∀b,b≠B+1→U.heap[b]? =Wa.heap[b]? :=λb hb=>by rw[←hU];exact ZE hb
      have uT:Y8 (λb=>¬Oa b) Wa U:=by rw[←hU];exact Y8.putObj Wa hn.2 _
      rw[hU]
      refine wpIn_mono (hbody U uT us) ?_
      have fin: ∀(jump:Option Code) (O2:Nat→Prop) (W3:World),gX K Oa O2 U W3→
          (Instr.endRound (B+1) jump).run P W3= .ok (.bool jump.isNone) (W3.putObj (B+1) (.loop (rec (if jump.isNone then .ready else .done) jump)))∧
          (W3.putObj (B+1) (.loop (rec (if jump.isNone then .ready else .done) jump))).heap[B+1]? =some (.loop (rec (if jump.isNone then .ready else .done) jump))∧
          (W3.putObj (B+1) (.loop (rec (if jump.isNone then .ready else .done) jump))).heap[B]? =some (.deferred (some []))∧
          (¬O2 B∧¬O2 (B+1))∧gX K (up Oa) (up O2) Wa (W3.putObj (B+1) (.loop (rec (if jump.isNone then .ready else .done) jump))):=λjump O2 W3 hk=>by
        have l3:W3.heap[B+1]? =some (.loop {rec .ready none with state:= .busy}):=(hk.keep (B+1) Om (.inl hn.2)).trans ul
        have d3:W3.heap[B]? =some (.deferred (some [])):=(hk.keep B Om (.inl hn.1)).trans ud
        have n3: ¬O2 B∧¬O2 (B+1):=⟨λh=>hn.1 (hk.old _ Om h),λh=>hn.2 (hk.old _ Om h)⟩
        have hr:=run_endRound (P:=P) jump l3
        rw[hrec] at hr⊢
        rw[hrec] at l3
        have hsz: ∀o,(W3.putObj (B+1) o).heap.size=W3.heap.size:=λo=>by simp [aaB]
        have hks:=hk.size
        refine⟨hr,aaA (Array.getElem?_eq_some_iff.1 l3).1,(ZE Om).trans d3,n3,⟨by rw[hsz];omega,?_,?_,?_⟩⟩
        · intro b hb h
          rw[hup] at h⊢
          exact h.elim (λh=> .inl (hk.old b Om h)) .inr
        · intro b h
          rw[hup] at h
          rw[hsz]
          rcases h with h | h | h
          · exact hk.new b h
          · omega
          · omega
        · intro b hb h
          have hne:b≠B+1:=by
            rintro rfl
            rcases h with h | h
            · exact h (by rw[hup];exact .inr (.inr rfl))
            · have:=hKl _ h;omega
          refine(ZE hne).trans ((hk.keep b Om ?_).trans (uo b hne))
          rcases h with h | h
          · exact .inl λe=>h (by rw[hup];exact .inl e)
          · exact .inr h
      have jumps: ∀(c:Code) (O2:Nat→Prop) (W3:World),gX K Oa O2 U W3→Ix c (i+1) O2 W3→∃v w',(Instr.endRound (B+1) (some c)).run P W3= .ok v w'∧∃O',gX K (up Oc) O' W w'∧
          ((Ending.returned v= .returned (.bool true)∧∃Oc',O'=up Oc'∧(¬Oc' B∧¬Oc' (B+1))∧I (i+1) Oc' w'∧w'.heap[B+1]? =some (.loop (rec .ready none))∧w'.heap[B]? =some (.deferred (some [])))∨
           (Ending.returned v= .returned (.bool false)∧∃Oc',O'=up Oc'∧(¬Oc' B∧¬Oc' (B+1))∧∃c,Ix c (i+1) Oc' w'∧w'.heap[B+1]? =some (.loop (rec .done (some c)))∧w'.heap[B]? =some (.deferred (some [])))):=λc O2 W3 hk hc=>by
        obtain⟨hr,l4,d4,n3,hg⟩:=fin (some c) O2 W3 hk
        exact⟨_,_,hr,up O2,gW.trans hg,.inr ⟨rfl,O2,rfl,n3,c,hIx c _ _ _ _ hc (Y8.putObj W3 n3.2 _),l4,d4⟩⟩
      rintro e a3 W3 hp
      cases e with
      | normal=>
        obtain⟨O2,hk,hi3⟩:=hp
        obtain⟨hr,l4,d4,n3,hg⟩:=fin none O2 W3 hk
        exact⟨_,_,hr,up O2,gW.trans hg,.inl ⟨rfl,O2,rfl,n3,hI _ _ _ _ hi3 (Y8.putObj W3 n3.2 _),l4,d4⟩⟩
      | ret=>obtain⟨O2,hk,hi3⟩:=hp;exact jumps _ O2 W3 hk hi3
      | exit id=>obtain⟨O2,hk,hi3⟩:=hp;exact jumps _ O2 W3 hk hi3
      | goto t=>obtain⟨O2,hk,hi3⟩:=hp;exact jumps _ O2 W3 hk hi3
      | panic ch=>exact hp.elim
      | outgrown=>exact hp.elim
    · rintro e W2 ⟨⟨v,rfl⟩,(⟨O',Oc,rfl,hn,hi,hl,hd⟩ | ⟨i,hlen,O',Oc,rfl,hn,c,hi,hl,hd⟩)⟩
      · exact⟨none,_,by have:=run_endLoop (P:=P) hl (by rw[hrec];simp);rw[hrec] at this;exact this,hdone _ _ _ Om hn.1 (hI _ _ _ _ hi (Y8.putObj W2 hn.2 _)) ((ZE Om).trans hd)⟩
      · exact⟨some c,_,by have:=run_endLoop (P:=P) hl (by rw[hrec];simp);rw[hrec] at this;exact this,hstop _ c i _ _ Om hn.1 hlen (hIx c _ _ _ _ hi (Y8.putObj W2 hn.2 _)) ((ZE Om).trans hd)⟩
end
section
open Go Go.RowKit Go.Shelf
def pX(a:List Nat)(W1:World)(Rel:aj→Prop)(W':World):Prop:=∃L',aF a W1 L' W'∧Rel L'
def lW(a:List Nat)(W1:World)(Rel:aj→Prop)(b:Code→aj→Prop):Exit→Act→World→Prop
 | .normal,_,W'=>pX a W1 Rel W'
 | .ret,_,W'=>pX a W1 (b .ret) W'
 | .exit c,_,W'=>pX a W1 (b (.exit c)) W'
 | .goto t,_,W'=>pX a W1 (b (.goto t)) W'
 | .panic _,_,_=>False
 | .outgrown,_,_=>False
def oL(U:Nat→Prop)(bs:ay)(b:Nat):Prop:=U b∨∃x∈bs,x.1=b
def oM(U:Nat→Prop)(m:Nat)(R:List Nat)(base:World)(Rel:Nat→aj→Prop)(i:Nat)(O:Nat→Prop)(W:World):Prop:=
 ∃L a,Rel i L∧bt L a∧O=oL U a.flatten∧cD R base a.flatten W∧m≤W.heap.size∧∀x∈a.flatten,¬U x.1
def je(KO:ay)(L:aj):Prop:=∀x∈KO,∃a,aB.c a∈L∧x∈a
theorem je.mem{KO:ay}{L:aj}{cs:List ay}(h:je KO L)(hs:bt L cs): ∀x∈KO,x∈cs.flatten:=by
 intro x l;obtain⟨a,k,f⟩:=h x l;obtain⟨i,b,e⟩:=ZG k;have d:cs.getD i []=a:=m4 hs (i:=i) (x:= .c a) (by rw[Zn b,e]);have g:i<cs.length:=by rw[←jJ hs];exact b
 exact List.mem_flatten.2 ⟨_,nS g,by rw[d];exact f⟩
section
variable {U:Nat→Prop} {m:Nat} {R:List Nat} {base:World} {Rel:Nat→aj→Prop}
theorem oM.stay(g: ∀b,b<base.heap.size→b∉R→U b):gO (oM U m R base Rel):=by
 rintro i O W W' ⟨L,a,c,l,rfl,d,e,f⟩ t;exact⟨L,a,c,l,rfl,d.turn t (λx n=> .inr ⟨x,n,rfl⟩) (λb h k=> .inl (g b h k)),ZL e t.size,f⟩
theorem BV{K:Nat→Prop}{bs bs':ay}{W1 W':World}(h1:cD (bN bs) W1 bs' W')(o:cD R base bs W1)(p:m≤W1.heap.size)(k: ∀b,U b→b<m)(q: ∀x∈bs,¬U x.1)
  (n: ∀b,K b→b<W1.heap.size→W'.heap[b]? =W1.heap[b]?):gX K (oL U bs) (oL U bs') W1 W'∧cD R base bs' W'∧m≤W'.heap.size∧∀x∈bs',¬U x.1:=by
 have i: ∀b,U b→b∉bN bs:=λb i a=>by
  obtain⟨y,c,e⟩:=List.mem_map.1 a;exact q y c (by rw[e];exact i)
 refine⟨⟨h1.size,?_,?_,?_⟩,o.join h1,ZL p h1.size,λx a l=>?_⟩
 ·rintro b i (h | ⟨y,c,rfl⟩)
  ·exact .inl h
  ·rcases h1.lo y c with d | d
   ·obtain⟨x,a,e⟩:=List.mem_map.1 d;exact .inr ⟨x,a,e⟩
   ·omega
 ·rintro b (h | ⟨y,c,rfl⟩)
  ·have:=k b h;have:=h1.size;omega
  ·exact h1.lt c
 ·intro b g f;rcases f with f | f
  ·refine h1.far b g λa=>?_;obtain⟨y,c,e⟩:=List.mem_map.1 a;exact f (.inr ⟨y,c,e⟩)
  ·exact n b f g
 ·rcases h1.lo x a with d | d
  ·exact i x.1 l d
  ·have:=k _ l;omega
theorem pX.grow{KO:ay}{i:Nat}{L:aj}{cs:List ay}{W1 W':World}(h:pX (bN cs.flatten) W1 (Rel i) W')(hs:bt L cs)(e:cD R base cs.flatten W1)(t:m≤W1.heap.size)(s: ∀b,U b→b<m)(u: ∀x∈cs.flatten,¬U x.1)
  (q:je KO L) (r: ∀L',Rel i L'→je KO L'): ∃c,gX (λb=>∃x∈KO,x.1=b) (oL U cs.flatten) c W1 W'∧oM U m R base Rel i c W':=by
 obtain⟨L',a,d⟩:=h;obtain⟨l,f,a⟩:=a.conc;obtain⟨g,n,o,p⟩:=BV (K:=λb=>∃x∈KO,x.1=b) a e t s u (by
  rintro b ⟨x,k,rfl⟩ _;exact(a.obj x ((r L' d).mem f x k)).trans (e.obj x (q.mem hs x k)).symm)
 exact⟨_,g,L',l,d,f,rfl,n,o,p⟩
end
def ft{α:Type}(n:Nat)(P:Program)(a:Nat)(c:Array Value)(encs:α→Array Value)(xs:List α)(KO:ay):Prop:=
 oK Fence.wide n P a c encs xs (λb=>∃x∈KO,x.1=b) (λ_=>ez KO)
def pY{α:Type}(n:Nat)(P:Program)(a:Nat)(c:Array Value)(encs:α→Array Value)(xs:List α)(KO XO:ay):Prop:=
 oK Fence.wide n P a c encs xs (λb=>∃x∈KO,x.1=b) (λO W=>ez (KO++XO) W∧∀x∈XO,¬O x.1)
def ie(t:Array Value)(a:Array Tmp)(vs:Array Value):Array Value:=(a.zip vs).foldl (λt (p,v)=>t.setIfInBounds p v) t
theorem BW{α:Type}{n:Nat}{P:Program}{g:Operand}{ps:Array Tmp}{q M:Code}{Q:Exit→Act→World→Prop}{a:Act}{W:World}
  (h1:1≤n) {gf:Nat} {lb:Array Value} (hg:a.eval g= .func (.func gf) #[] lb) (eg: ∀args w,(callFunc gf args).run P w= .ok (.enter gf args) w)
  {encs:α→Array Value} {xs:List α} {KO XO:ay} (hit:pY (n-1) P gf lb encs xs KO XO)
  {R:List Nat} {base:World} (Rel:Nat→aj→Prop) (T:Code→Nat→aj→Prop) {L0:aj} (OW:Hid (aF R base (L0++[.c XO]) W)) (h0:Rel 0 L0)
  (V: ∀i L,Rel i L→je KO L) (X: ∀c i L,T c i L→je KO L) (hnd:(KO++XO).Pairwise λx y=>x.1≠y.1) (hps: ∀x,(encs x).size=ps.size)
  (r: ∀(l i:Nat) (x:α) (L:aj) (R1:List Nat) (W:World),xs[i]? =some x→Rel i L→Hid (aF R1 W L W)→
   q.wpIn (Fence.wide.inRound l) (n-1-1) P (Exit.then (λa' Wa=>∃La,aF R1 W La Wa∧je KO La∧∀R2 W1,Hid (aF R2 W1 La W1)→
    M.wpIn (Fence.wide.inRound l) (n-1-1) P (lW R2 W1 (Rel (i+1)) (λc=>T c (i+1))) a' W1) (λ_ _ _=>False)) {tmps:=ie a.tmps ps (encs x),defers:=[]} W)
  (hdone: ∀(D:Nat) (L:aj) (k:World),Rel xs.length L→Hid (aF R base (L++[mk D]) k)→Q .normal {a with defers:=j5 D::a.defers} k)
  (hstop: ∀(D:Nat) (c:Code) (i:Nat) (L:aj) (k:World),i<xs.length→T c (i+1) L→Hid (aF R base (L++[mk D]) k)→c.wpIn Fence.wide n P Q {a with defers:=j5 D::a.defers} k):
  (Code.rangeFunc g ps q M).wpIn Fence.wide n P Q a W:=by
 unfold ie at r;obtain⟨c9,hs9,p⟩:=OW.out.conc;obtain⟨O,c1,rfl,hs0,hs1⟩:=nV hs9;have e1:c1.flatten=XO:=by
  match c1,hs1 with
  | [d],h=>have h1:d=XO:=h.1;simpa using h1
  | d::_::_,h=>exact h.2.elim
 rw[ZK,e1] at p;have s:cD R base O.flatten W:=p.sub (aaz _ _);have hXn: ∀x∈O.flatten,∀y∈XO,x.1≠y.1:=(List.pairwise_append.1 p.nd).2.2;obtain⟨m,hm⟩: ∃m,W.heap.size=m:=⟨_,rfl⟩;obtain⟨U,G⟩: ∃U:Nat→Prop,U=λb=>b<m∧b∉bN O.flatten∧b∉bN XO:=⟨_,rfl⟩;have hU: ∀b,U b→b<m:=λb h=>by rw[G] at h;exact h.1
 have Z: ∀b,b<base.heap.size→b∉R→U b:=λb hb A=>by
  rw[G];refine⟨by have:=s.size;omega,λf=>?_,λf=>?_⟩
  ·obtain⟨y,hy,e⟩:=List.mem_map.1 f;rcases s.lo y hy with h | h
   ·exact A (by rw[←e];exact h)
   ·omega
  ·obtain⟨y,hy,e⟩:=List.mem_map.1 f;rcases p.lo y (Zt _ hy) with h | h
   ·exact A (by rw[←e];exact h)
   ·omega
 have hn0: ∀x∈O.flatten,¬U x.1:=λx f h=>by rw[G] at h;exact h.2.1 (Z2 f)
 have hset: ∀b,oL U O.flatten b→b<m:=λb h=>by
  rcases h with h | ⟨x,f,rfl⟩
  ·exact hU b h
  ·have:=s.lt f;omega
 have fin: ∀(D:Nat) (B:Nat→Prop) (L:aj) (cs:List ay) (k:World),W.heap.size≤D→¬B D→B=oL U cs.flatten→bt L cs→cD R base cs.flatten k→k.heap[D]? =some (.deferred (some []))→aF R base (L++[mk D]) k:=by
  rintro D B L cs k hD A rfl hs h hd;refine aF.ofS (cs:=cs++[[dO D]]) (kx hs ⟨rfl,trivial⟩) ?_;rw[ZK];show cD R base (cs.flatten++[dO D]) k;refine⟨?_,?_,?_,h.os,h.tape,h.output,h.size,h.far⟩
  ·intro x f;rcases List.mem_append.1 f with f | f
   ·exact h.obj x f
   ·obtain rfl:=List.mem_singleton.1 f;exact hd
  ·refine List.pairwise_append.2 ⟨h.nd,Z1 _ _,λx f y hy e=>?_⟩;obtain rfl:=List.mem_singleton.1 hy;exact A (.inr ⟨x,f,e⟩)
  ·intro x f;rcases List.mem_append.1 f with f | f
   ·exact h.lo x f
   ·obtain rfl:=List.mem_singleton.1 f;exact .inr (ZL s.size hD)
 have hK0:=(V 0 L0 h0).mem hs0;refine BU (n:=n) (F:=Fence.wide) rfl h1 hg trivial eg hit (oL U O.flatten) (λW' hW' B o=>?_) (λb hb=>by have:=hset b hb;omega) (λb hb=>?_) hps (oM U m R base Rel) (λc=>oM U m R base (T c)) (oM.stay Z) (λc=>oM.stay Z) ⟨L0,O,h0,hs0,rfl,s,by omega,hn0⟩ ?_ ?_ ?_
 ·refine⟨⟨λx f=>?_,hnd⟩,λx f h=>?_⟩
  ·have hm':x∈O.flatten++XO:=(List.mem_append.1 f).elim (λh=>Zs _ (hK0 x h)) (Zt _);exact(hW' x.1 (p.lt hm')).trans (p.obj x hm')
  ·rcases o x.1 (p.lt (Zt _ f)) h with h | ⟨y,hy,e⟩
   ·rw[G] at h;exact h.2.2 (Z2 f)
   ·exact hXn y hy x f e
 ·obtain⟨x,f,rfl⟩:=hb;exact s.lt (hK0 x f)
 ·rintro l i x B W0 f hs ⟨Ls0,cs0,hr,S,rfl,Y,hm0,hn1⟩;refine wpIn_mono (r l i x Ls0 (bN cs0.flatten) W0 f hr (Lib.hid (aF.ofS S Y.anew))) ?_;intro e0 a' Wa u;cases e0 with
  | normal=>?_
  | ret=>exact u.elim
  | exit id=>exact u.elim
  | goto t=>exact u.elim
  | panic ch=>exact u.elim
  | outgrown=>exact u.elim
  obtain⟨La,C,z,hbody⟩:=u;obtain⟨ca,v,C⟩:=C.conc;obtain⟨ga,hOW,hm1,I⟩:=BV (K:=λb=>∃x∈KO,x.1=b) C Y hm0 hU hn1 (by
   rintro b ⟨x,f,rfl⟩ _;exact(C.obj x (z.mem v x f)).trans (Y.obj x ((V _ _ hr).mem S x f)).symm)
  refine⟨_,ga,?_⟩;intro W1 tW sW;have o:cD R base ca.flatten W1:=hOW.turn tW (λx f=> .inr ⟨x,f,rfl⟩) (λb hb A=> .inl (Z b hb A));have H:m≤W1.heap.size:=by omega
  refine wpIn_mono (hbody (bN ca.flatten) W1 (Lib.hid (aF.ofS v o.anew))) ?_;intro e a' W' h;cases e with
  | normal=>exact h.grow v o H hU I z (V (i+1))
  | ret=>exact h.grow (Rel:=T .ret) v o H hU I z (X .ret (i+1))
  | exit id=>exact h.grow (Rel:=T (.exit id)) v o H hU I z (X (.exit id) (i+1))
  | goto t=>exact h.grow (Rel:=T (.goto t)) v o H hU I z (X (.goto t) (i+1))
  | panic c=>exact h.elim
  | outgrown=>exact h.elim
 ·rintro D B k hD A ⟨L,cs,hr,hs,he,Y,hm1,hn1⟩ hd;exact hdone D L k hr (Lib.hid (fin D B L cs k hD A he hs Y hd))
 ·rintro D c i B k hD A hi ⟨L,cs,hr,hs,he,Y,hm1,hn1⟩ hd;exact hstop D c i L k hi hr (Lib.hid (fin D B L cs k hD A he hs Y hd))
theorem Jg{α:Type}{n:Nat}{P:Program}{g:Operand}{z:Array Tmp}{b e:Code}{Q:Exit→Act→World→Prop}{a:Act}{W:World}
  (h1:1≤n) {p:Nat} {F:Array Value} (V:a.eval g= .func (.func p) #[] F) (S: ∀args w,(callFunc p args).run P w= .ok (.enter p args) w)
  {encs:α→Array Value} {xs:List α} {KO:ay} (hit:ft (n-1) P p F encs xs KO)
  {R:List Nat} {base:World} (Rel:Nat→aj→Prop) (o:Code→Nat→aj→Prop) {A:aj} (H:Hid (aF R base A W)) (h0:Rel 0 A)
  (r: ∀i L,Rel i L→je KO L) (s: ∀c i L,o c i L→je KO L) (u:KO.Pairwise λx y=>x.1≠y.1) (v: ∀x,(encs x).size=z.size)
  (d: ∀(l i:Nat) (x:α) (L:aj) (B:List Nat) (W:World),xs[i]? =some x→Rel i L→Hid (aF B W L W)→
   b.wpIn (Fence.wide.inRound l) (n-1-1) P (Exit.then (λM I=>∃q,aF B W q I∧je KO q∧∀C W1,Hid (aF C W1 q W1)→
    e.wpIn (Fence.wide.inRound l) (n-1-1) P (lW C W1 (Rel (i+1)) (λc=>o c (i+1))) M W1) (λ_ _ _=>False)) {tmps:=ie a.tmps z (encs x),defers:=[]} W)
  (f: ∀(D:Nat) (L:aj) (k:World),Rel xs.length L→Hid (aF R base (L++[mk D]) k)→Q .normal {a with defers:=j5 D::a.defers} k)
  (h: ∀(D:Nat) (c:Code) (i:Nat) (L:aj) (k:World),i<xs.length→o c (i+1) L→Hid (aF R base (L++[mk D]) k)→c.wpIn Fence.wide n P Q {a with defers:=j5 D::a.defers} k):
  (Code.rangeFunc g z b e).wpIn Fence.wide n P Q a W:=by
 refine BW (XO:=[]) h1 V S (λl J G W O t=>hit l J G W O (by simpa using t.1)) Rel o (Lib.hid ?_) h0 r s (by simpa using u) v d f h;obtain⟨cs,X,T⟩:=H.out.conc;exact aF.ofS (cs:=cs++[[]]) (kx X ⟨rfl,trivial⟩) (by simpa using T)
structure fP (J:Nat→(Nat→Prop)→World→Prop) (K:ay) (W0:World) (L:ay) (j:Nat) (wr:World):Prop where
 ex: ∃O,J j O wr∧(∀x∈L,¬O x.1)∧∀b,O b→b<wr.heap.size
 sz:W0.heap.size≤wr.heap.size
 has:ez (K++L) wr
section
variable {J:Nat→(Nat→Prop)→World→Prop} {K:ay} {W0 wr W':World} {L L':ay} {j:Nat}
theorem fP.step(p:gO J)(h:fP J K W0 L j wr)(a:cD ((K++L).map (·.1)) wr (K++L') W'):fP J K W0 L' j W':=by
 obtain⟨O,o,k,l⟩:=h.ex;have t:Y8 (λb=>¬O b) wr W':=⟨a.os,a.tape,a.output,a.size,λb g q=>by
  have i:O b:=Classical.not_not.1 q;by_cases f:b∈(K++L).map (·.1)
  ·obtain⟨y,c,e⟩:=List.mem_map.1 f;rcases List.mem_append.1 c with c | c
   ·rw[←e];exact(a.obj y (Zs _ c)).trans (h.has.obj y (Zs _ c)).symm
   ·exact absurd i (by rw[←e];exact k y c)
  ·exact a.far b g f⟩
 refine⟨⟨O,p j O wr W' o t,λx f d=>?_,λb g=>ZY (l b g) a.size⟩,ZL h.sz a.size,a.obj,a.nd⟩;rcases a.lo x (Zt _ f) with n | n
 ·obtain⟨y,c,e⟩:=List.mem_map.1 n;rcases List.mem_append.1 c with c | c
  ·exact(List.pairwise_append.1 a.nd).2.2 y c x f e
  ·exact k y c (by rw[e];exact d)
 ·have:=l _ d;omega
theorem fP.stepE{A:aj}{LE:aj}(f:gO J)(h:fP J K W0 L j wr)(g: ∀ds,bt A ds→ds.flatten=K)(a:aF ((K++L).map (·.1)) wr (A++LE) W'): ∃ds,bt LE ds∧fP J K W0 ds.flatten j W':=by
 obtain⟨k,i,a⟩:=a.conc;obtain⟨b,c,rfl,d,e⟩:=nV i;rw[ZK,g b d] at a;exact⟨c,e,h.step f a⟩
end
theorem Jh{α:Type}{n:Nat}{P:Program}{s:Nat}{y:Array Value}{encs:α→Array Value}{xs:List α}{KO:ay}
  (h: ∀(l:Nat) (J o:Nat→(Nat→Prop)→World→Prop) (W:World),gO J→
   Hid (∀(L:ay) (j:Nat) (x:α) (wr:World),xs[j]? =some x→fP J KO W L j wr→YieldAt Fence.wide (n-1) P l (encs x) wr λe W'=>(e= .returned (.bool true)∧fP J KO W L (j+1) W')∨(e= .returned (.bool false)∧∃g,o (j+1) g W'))→
   Hid (fP J KO W [] 0 W)→CallsIn Fence.wide n P s (#[.func (.yield l) #[] #[]]++y) W λe W'=>(∃v,e= .returned v)∧((∃L,fP J KO W L xs.length W')∨∃i,i<xs.length∧∃g,o (i+1) g W')):
  ft n P s y encs xs KO:=by
 intro l J o W O q C D G H z;refine(h l J o W C (Lib.hid ?_) (Lib.hid ⟨⟨O,z,λ_ h=>by simp at h,G⟩,Zv _,by simpa using q⟩)).mono ?_
 ·intro L j x wr c d;obtain⟨p,A,t,I⟩:=d.ex;refine(H j x p wr c A d.sz).mono ?_;rintro e W' ⟨g,k,a | a⟩
  ·refine .inl ⟨a.1,⟨g,a.2,λx c r=>?_,k.new⟩,ZL d.sz k.size,⟨λx c=>?_,d.has.nd⟩⟩
   ·have b:x.1<wr.heap.size:=(Array.getElem?_eq_some_iff.1 (d.has.obj x (Zt _ c))).1;exact t x c (k.old _ b r)
   ·have b:x.1<wr.heap.size:=(Array.getElem?_eq_some_iff.1 (d.has.obj x c)).1;rcases List.mem_append.1 c with f | f
    ·exact(k.keep _ b (.inr ⟨x,f,rfl⟩)).trans (d.has.obj x c)
    ·exact(k.keep _ b (.inl (t x f))).trans (d.has.obj x c)
  ·exact .inr ⟨a.1,g,a.2⟩
 ·rintro e W' ⟨u,a | a⟩
  ·refine⟨u,.inl ?_⟩;obtain⟨L,F⟩:=a;obtain⟨p,B,_⟩:=F.ex;exact⟨p,B⟩
  ·exact⟨u,.inr a⟩
theorem Ji{α:Type}{n:Nat}{P:Program}{s:Nat}{y:Array Value}{encs:α→Array Value}{xs:List α}{KO XO:ay}
  (h: ∀(l:Nat) (J p:Nat→(Nat→Prop)→World→Prop) (W:World),gO J→
   Hid (∀(L:ay) (j:Nat) (x:α) (wr:World),xs[j]? =some x→fP J KO W L j wr→YieldAt Fence.wide (n-1) P l (encs x) wr λe W'=>(e= .returned (.bool true)∧fP J KO W L (j+1) W')∨(e= .returned (.bool false)∧∃g,p (j+1) g W'))→
   Hid (fP J KO W XO 0 W)→CallsIn Fence.wide n P s (#[.func (.yield l) #[] #[]]++y) W λe W'=>(∃v,e= .returned v)∧((∃L,fP J KO W L xs.length W')∨∃i,i<xs.length∧∃g,p (i+1) g W')):
  pY n P s y encs xs KO XO:=by
 intro l J p W O k C D G H z;refine(h l J p W C (Lib.hid ?_) (Lib.hid ⟨⟨O,z,k.2,G⟩,Zv _,k.1⟩)).mono ?_
 ·intro L j x wr c d;obtain⟨q,A,t,I⟩:=d.ex;refine(H j x q wr c A d.sz).mono ?_;rintro e W' ⟨g,o,a | a⟩
  ·refine .inl ⟨a.1,⟨g,a.2,λx c r=>?_,o.new⟩,ZL d.sz o.size,⟨λx c=>?_,d.has.nd⟩⟩
   ·have b:x.1<wr.heap.size:=(Array.getElem?_eq_some_iff.1 (d.has.obj x (Zt _ c))).1;exact t x c (o.old _ b r)
   ·have b:x.1<wr.heap.size:=(Array.getElem?_eq_some_iff.1 (d.has.obj x c)).1;rcases List.mem_append.1 c with f | f
    ·exact(o.keep _ b (.inr ⟨x,f,rfl⟩)).trans (d.has.obj x c)
    ·exact(o.keep _ b (.inl (t x f))).trans (d.has.obj x c)
  ·exact .inr ⟨a.1,g,a.2⟩
 ·rintro e W' ⟨u,a | a⟩
  ·refine⟨u,.inl ?_⟩;obtain⟨L,F⟩:=a;obtain⟨q,B,_⟩:=F.ex;exact⟨q,B⟩
  ·exact⟨u,.inr a⟩
theorem nW{α:Type}{n i:Nat}{f:Nat→α}{x:α}(h:((ZR n).map f)[i]? =some x):i<n∧f i=x:=by
 rw[ZF] at h;rcases Z8 i n with a | a
 ·rw[aav a,Zy,Option.some.injEq] at h;exact⟨a,h⟩
 ·rw[ZB (by rw[abb];exact a)] at h;cases h
theorem oN{α:Type}{n i:Nat}{f:Nat→α}(h:i<n):((ZR n).map f)[i]? =some (f i):=by rw[ZF,aav h];rfl
theorem rS{α:Type}(d:α){i:Nat}{xs:List α}{x:α}(h:xs[i]? =some x):i<xs.length∧xs.getD i d=x:=by
 obtain⟨a,rfl⟩:=List.getElem?_eq_some_iff.1 h;exact⟨a,by rw[Zp,Zn a];rfl⟩
theorem Jj{α:Type}(d:α){i:Nat}{xs:List α}(h:i<xs.length):xs[i]? =some (xs.getD i d):=by rw[Zp,Zn h];rfl
end
section
open Go Go.RowKit Go.Shelf
def av(a:BinOp)(T:TypeId)(x y:Operand)(b c:Value):Sem Value:=do eqGuard a T x y b c;Go.binOp a T b c
section
variable {P:Program} {w:World}
theorem Jk(a b:UInt8):bits .xor .u8 (a.toNat:Int) (b.toNat:Int)=((a^^^b).toNat:Int):=by
 have h:=a.toNat_lt;have j:=b.toNat_lt;have g: ∀c:Nat,c<256→(BitVec.ofInt 8 (c:Int)).toNat=c:=by
  intro c o;rw[BitVec.ofInt_natCast,BitVec.toNat_ofNat];exact aae Om
 have p:a.toNat^^^b.toNat<2^8:=abc h j;show IntKind.u8.wrap ((BitVec.ofInt 8 (a.toNat:Int)^^^BitVec.ofInt 8 (b.toNat:Int)).toNat:Int)=_;rw[BitVec.toNat_xor,g _ h,g _ j,UInt8.toNat_xor];exact IntWalk.u8_in _ Om
theorem lX{T:TypeId}{x y:Operand}(a b:UInt8):(av .xor T x y (.int .u8 (a.toNat:Int)) (.int .u8 (b.toNat:Int))).run P w= .ok (.int .u8 ((a^^^b).toNat:Int)) w:=by
 rw[←Jk];rfl
end
section
variable {P:Program} {T:TypeId} {x y:Operand} {w:World}
theorem iO{yk:IntKind}{a:Int}(n:Nat)(b:n≤64):(av .shr T x y (.int .i64 a) (.int yk (n:Int))).run P w= .ok (.int .i64 (a/2^n)) w:=by
 unfold av;simp only[Zm,eqGuard_shr,Zr,Zl,binOp_shr,shift_shr_i64 _ _ _ (aay n) Om,ZT]
theorem uA{yk:IntKind}{a:Nat}(n:Nat)(b:n≤64):(av .shr T x y (.int .u64 (a:Int)) (.int yk (n:Int))).run P w= .ok (.int .u64 ((a/2^n:Nat):Int)) w:=by
 unfold av;simp only[Zm,eqGuard_shr,Zr,Zl,binOp_shr,shift_shr_u64 _ _ _ (aay n) Om,ZT];push_cast;rfl
theorem uB{yk:IntKind}{a:Nat}(n:Nat)(g:n≤64)(c:a*2^n<18446744073709551616):(av .shl T x y (.int .u64 (a:Int)) (.int yk (n:Int))).run P w= .ok (.int .u64 ((a*2^n:Nat):Int)) w:=by
 unfold av;have b:IntKind.u64.wrap ((a:Int)*2^n)=((a*2^n:Nat):Int):=by
  rw[show((a:Int)*2^n)=((a*2^n:Nat):Int) by push_cast;rfl,Z9];omega
 simp only[Zm,eqGuard_shl,Zr,Zl,binOp_shl,shift_shl_u64 _ _ _ (aay n) Om,ZT,b]
theorem Jl(a b:Nat)(h:a<18446744073709551616)(j:b<18446744073709551616):bits .or .u64 (a:Int) (b:Int)=((a||| b:Nat):Int):=by
 have g: ∀c:Nat,c<18446744073709551616→(BitVec.ofInt 64 (c:Int)).toNat=c:=by
  intro c o;rw[BitVec.ofInt_natCast,BitVec.toNat_ofNat];exact aae Om
 have p:a||| b<2^64:=Nat.or_lt_two_pow h j;show IntKind.u64.wrap ((BitVec.ofInt 64 (a:Int)||| BitVec.ofInt 64 (b:Int)).toNat:Int)=_;rw[BitVec.toNat_or,g a h,g b j,Z9];omega
theorem Jm(a b:Nat)(h:a<18446744073709551616)(j:b<18446744073709551616):bits .xor .u64 (a:Int) (b:Int)=((a^^^b:Nat):Int):=by
 have g: ∀c:Nat,c<18446744073709551616→(BitVec.ofInt 64 (c:Int)).toNat=c:=by
  intro c o;rw[BitVec.ofInt_natCast,BitVec.toNat_ofNat];exact aae Om
 have p:a^^^b<2^64:=abc h j;show IntKind.u64.wrap ((BitVec.ofInt 64 (a:Int)^^^BitVec.ofInt 64 (b:Int)).toNat:Int)=_;rw[BitVec.toNat_xor,g a h,g b j,Z9];omega
theorem Jn(a b:UInt8):bits .and .u8 (a.toNat:Int) (b.toNat:Int)=((a&&& b).toNat:Int):=by
 have g: ∀c:Nat,c<256→(BitVec.ofInt 8 (c:Int)).toNat=c:=by
  intro c h;rw[BitVec.ofInt_natCast,BitVec.toNat_ofNat];exact aae Om
 show IntKind.u8.wrap ((BitVec.ofInt 8 (a.toNat:Int)&&& BitVec.ofInt 8 (b.toNat:Int)).toNat:Int)=_;rw[BitVec.toNat_and,g _ a.toNat_lt,g _ b.toNat_lt,←UInt8.toNat_and];exact IntWalk.u8_in _ (by have:=(a&&& b).toNat_lt;omega)
theorem Jo(a b:UInt8):bits .or .u8 (a.toNat:Int) (b.toNat:Int)=((a||| b).toNat:Int):=by
 have g: ∀c:Nat,c<256→(BitVec.ofInt 8 (c:Int)).toNat=c:=by
  intro c h;rw[BitVec.ofInt_natCast,BitVec.toNat_ofNat];exact aae Om
 show IntKind.u8.wrap ((BitVec.ofInt 8 (a.toNat:Int)||| BitVec.ofInt 8 (b.toNat:Int)).toNat:Int)=_;rw[BitVec.toNat_or,g _ a.toNat_lt,g _ b.toNat_lt,←UInt8.toNat_or];exact IntWalk.u8_in _ (by have:=(a||| b).toNat_lt;omega)
theorem BX{a b:Nat}(c:a<18446744073709551616)(g:b<18446744073709551616):(av .or T x y (.int .u64 (a:Int)) (.int .u64 (b:Int))).run P w= .ok (.int .u64 ((a||| b:Nat):Int)) w:=by
 rw[←Jl a b c g];rfl
theorem Jp{a b:Nat}(c:a<18446744073709551616)(g:b<18446744073709551616):(av .xor T x y (.int .u64 (a:Int)) (.int .u64 (b:Int))).run P w= .ok (.int .u64 ((a^^^b:Nat):Int)) w:=by
 rw[←Jm a b c g];rfl
theorem xN(a b:UInt8):(av .and T x y (.int .u8 (a.toNat:Int)) (.int .u8 (b.toNat:Int))).run P w= .ok (.int .u8 ((a&&& b).toNat:Int)) w:=by
 rw[←Jn a b];rfl
theorem Jq(a b:UInt8):(av .or T x y (.int .u8 (a.toNat:Int)) (.int .u8 (b.toNat:Int))).run P w= .ok (.int .u8 ((a||| b).toNat:Int)) w:=by
 rw[←Jo a b];rfl
theorem BY{S T:TypeId}(a:P.underlying S=some (.int .u8))(b:P.underlying T=some (.int .u64)){c:UInt8}:(convert S T (.int .u8 (c.toNat:Int))).run P w= .ok (.int .u64 (c.toNat:Int)) w:=by
 have h:IntKind.u64.wrap (c.toNat:Int)=(c.toNat:Int):=by rw[Z9];have:=c.toNat_lt;omega
 simp only[convert,Zm,run_underlying a,run_underlying b,Zl,Conv.intToInt,h,Zr]
theorem uC{S T:TypeId}(a:P.underlying S=some (.int .u64))(b:P.underlying T=some (.int .u8)){c:Nat}:(convert S T (.int .u64 (c:Int))).run P w= .ok (.int .u8 ((UInt8.ofNat c).toNat:Int)) w:=by
 have h:IntKind.u8.wrap (c:Int)=((UInt8.ofNat c).toNat:Int):=by rw[IntKind.wrap_u8,aa5];omega
 simp only[convert,Zm,run_underlying a,run_underlying b,Zl,Conv.intToInt,h,Zr]
theorem m5{S T:TypeId}(a:P.underlying S=some (.int .i64))(b:P.underlying T=some (.int .u64)){c:Nat}(g:c<18446744073709551616):(convert S T (.int .i64 (c:Int))).run P w= .ok (.int .u64 (c:Int)) w:=by
 have h:IntKind.u64.wrap (c:Int)=(c:Int):=by rw[Z9];omega
 simp only[convert,Zm,run_underlying a,run_underlying b,Zl,Conv.intToInt,h,Zr]
end
def bH(cs z:List Value)(r:Nat):Array Value:=(cs++(ZM r z).flatten).toArray
theorem rU(z:List Value)(r:Nat):((ZM r z).flatten).length=r*z.length:=by
 induction r with
 | zero=>simp
 | succ r ih=>rw[aaG,aao,Zz,ih,ZQ];omega
theorem uD(cs z:List Value)(r:Nat):(bH cs z r).size=cs.length+r*z.length:=by unfold bH;rw[ZD,Zz,rU]
theorem xO(z:Array Value)(n:Nat)(g:0<z.size):(Builtin.zeroCells z n).toList=(ZM n z.toList).flatten:=by
 have h: ∀n,∀i,i<n*z.size→((ZM n z.toList).flatten)[i]? =z[i%z.size]? :=by
  intro n
  induction n with
  | zero=>intro i b;omega
  | succ n ih=>
   intro i b;rw[aaG,aao];by_cases a:i<z.size
   ·rw[List.getElem?_append_left (by simpa using a),aae a,Array.getElem?_toList]
   ·rw[List.getElem?_append_right (by simpa using a),Array.length_toList,ih (i-z.size) (by rw[ZQ] at b;omega)]
    congr 1
    exact(Nat.mod_eq_sub_mod Om).symm
 apply aaM;intro i;rcases Z8 i (n*z.size) with a | a
 ·rw[h n i a];have c:i%z.size<z.size:=Nat.mod_lt _ g;unfold Builtin.zeroCells;simp [a,c]
 ·rw[ZB (by rw[Array.length_toList,size_zeroCells];exact a),ZB (by rw[rU];simpa using a)]
def rV(T TY:TypeId)(v u:Value):Sem Next:=vS (Builtin.append_ #[T,T] TY #[v,u])
def Jr(T U TY:TypeId)(v u:Value):Sem Next:=vS (Builtin.copy_ #[T,U] TY #[v,u])
theorem oO{w:World}{g off:Nat}{t:TypeId}{cs:Array Value}{b:Nat×Nat}{news:List Value}(o:w.heap[g]? =some (.cells cs t b))(q:(cs.toList.drop off).take news.length=news): ∀j u,news[j]? =some u→w.cell? ((⟨g,off,none⟩:Addr).add j)=some u:=by
 intro j u h;have a:(⟨g,off,none⟩:Addr).add j=⟨g,off+j,none⟩:=by unfold Addr.add;split<;>simp_all
 rw[a,cell_of_row w g (off+j) cs t b o];have p:j<news.length:=(List.getElem?_eq_some_iff.1 h).1;have c:=ALca (λz=>z[j]?) q;simp only[aaf p,aax] at c;rw[←Array.getElem?_toList,c];exact h
section
variable {P:Program} {T e:TypeId} {i:TypeInfo} {zv:Value}
structure ec (P:Program) (T e:TypeId) (z:List Value):Prop where
 ht:P.underlying T=some (.slice e)
 hi: ∃i zv,P.info? e=some i∧i.zero=some zv∧i.size=z.length∧zv.cells.toList=z∧i.bytes≤1048576
 h0:0<z.length
theorem ec.mk'{z:List Value}(ht:P.underlying T=some (.slice e))(a:(P.info? e).map (λi=>(i.zero.map (λv=>v.cells.toList),i.size,Nat.ble i.bytes 1048576))=some (some z,z.length,true))(h0:aaw 0 z.length=true):ec P T e z:=by
 refine⟨ht,?_,aau▸h0⟩;cases c:P.info? e with
 | none=>rw[c] at a;cases a
 | some i=>
  rw[c] at a;simp only[Zy,Option.some.injEq,Prod.mk.injEq] at a;cases b:i.zero with
  | none=>rw[b] at a;simp at a
  | some zv=>
   rw[b] at a;exact⟨i,zv,rfl,b,a.2.1,by simpa using a.1,aa2 a.2.2⟩
end
section
variable {P:Program} {T e:TypeId} {x y:Operand} {w:World}
theorem Js{a b:Nat}(h:a*b<9223372036854775808):(av .mul T x y (.int .i64 (a:Int)) (.int .i64 (b:Int))).run P w= .ok (.int .i64 ((a*b:Nat):Int)) w:=by
 have c:((a*b:Nat):Int)<9223372036854775808:=by omega
 have g:=aay (a*b);have e:((a*b:Nat):Int)=(a:Int)*(b:Int):=by push_cast;rfl
 rw[e] at c g⊢;exact IM (P:=P) (T:=T) (x:=x) (y:=y) (w:=w) (a:=(a:Int)) (b:=(b:Int)) Om Om
theorem Jt{a b:Nat}(h:a+b<9223372036854775808):(av .add T x y (.int .i64 (a:Int)) (.int .i64 (b:Int))).run P w= .ok (.int .i64 ((a+b:Nat):Int)) w:=by
 have:=ry (P:=P) (T:=T) (x:=x) (y:=y) (w:=w) (a:=(a:Int)) (b:=(b:Int)) Om Om;rw[show((a+b:Nat):Int)=(a:Int)+(b:Int) by push_cast;rfl];exact this
theorem add_lit(g off m:Nat):(⟨g,off,none⟩:Addr).add m=⟨g,off+m,none⟩:=by unfold Addr.add;split<;>simp_all
def jf(P:Program)(e:TypeId):Option Nat:=(P.info? e).map (·.size)
theorem nX{s:Nat}(h:jf P e=some s):(sizeOf e).run P w= .ok s w:=by
 unfold jf at h;cases a:P.info? e with
 | none=>rw[a] at h;cases h
 | some i=>
  rw[a] at h;simp only[Zy,Option.some.injEq] at h;simp [sizeOf,typeInfo,a,h]
theorem bR{g off n c k s:Nat}(a:(P.underlying T,jf P (P.elem T))=(some (.slice (P.elem T)),some s))(b:k<n):(Instr.indexAt T (.slice (some ⟨g,off,none⟩) n c) (.int .i64 (k:Int))).run P w= .ok (.pointer (some ⟨g,off+k*s,none⟩)) w:=by
 rw[run_indexAt_slice w T _ n c .i64 (k:Int) (ALca (·.1) a),ALifp Om,nX (ALca (·.2) a),Zl,ZT,add_lit]
theorem Ju{g l h s N:Nat}(b:(P.underlying T,P.arrayLen T,jf P (P.elem T))=(some (.array N (P.elem T)),N,some s))(h1:l≤h)(h2:h≤N)(c:l<N):(Instr.sliceAt T (.pointer (some ⟨g,0,none⟩)) (some (.int .i64 (l:Int))) (some (.int .i64 (h:Int))) none).run P w= .ok (.slice (some ⟨g,l*s,none⟩) (h-l) (N-l)) w:=by
 have a:P.arrayLen T=N:=ALca (·.2.1) b;rw[run_sliceAt_array_lh w T ⟨g,0,none⟩ (by rw[a];exact ALca (·.1) b) .i64 .i64 (l:Int) (h:Int) Om Om (by rw[a];omega),nX (ALca (·.2.2) b),Zl];unfold slicedAt;rw[a,ZT,ZT,add_lit,Zx,ALifn Om]
theorem Jv{g l s N:Nat}(b:(P.underlying T,P.arrayLen T,jf P (P.elem T))=(some (.array N (P.elem T)),N,some s))(c:l<N):(Instr.sliceAt T (.pointer (some ⟨g,0,none⟩)) (some (.int .i64 (l:Int))) none none).run P w= .ok (.slice (some ⟨g,l*s,none⟩) (N-l) (N-l)) w:=by
 have a:P.arrayLen T=N:=ALca (·.2.1) b;rw[run_sliceAt_array_l w T ⟨g,0,none⟩ (by rw[a];exact ALca (·.1) b) .i64 (l:Int) Om (by rw[a];omega),nX (ALca (·.2.2) b),Zl];unfold slicedAt;rw[a,ZT,add_lit,Zx,ALifn Om]
theorem Jw{g s N:Nat}(a:(P.underlying T,P.arrayLen T,jf P (P.elem T))=(some (.array N (P.elem T)),N,some s))(c:0<N):(Instr.sliceAt T (.pointer (some ⟨g,0,none⟩)) none none none).run P w= .ok (.slice (some ⟨g,0,none⟩) N N) w:=by
 have b:P.arrayLen T=N:=ALca (·.2.1) a;rw[run_sliceAt_array_all w T ⟨g,0,none⟩ (by rw[b];exact ALca (·.1) a),nX (ALca (·.2.2) a),Zl];unfold slicedAt;rw[b,add_lit,aa1,ALifn Om];rfl
end
def bV(xs:List UInt8):List Value:=xs.map λb=> .int .u8 (b.toNat:Int)
theorem Jy{cs z:List Value}{r:Nat}:((bH cs z r).toList.drop 0).take cs.length=cs:=by unfold bH;rw[aab,ZA (Zv _),Z3]
section
variable {P:Program} {f:FuncId} {args:Array Value} {w':World} {v:Value}
end
def jN(f:Nat→List Value):Nat→Nat→List Value
 | _,0=>[]
 | i,n+1=>f i++jN f (i+1) n
def cN{α:Type}(e:α→List Value)(d:α)(n:Nat)(xs:List α):List Value:=jN (λi=>e (xs.getD i d)) 0 n
def eB(b:UInt8):List Value:=[.int .u8 (b.toNat:Int)]
def eI(x:Int):List Value:=[.int .i64 x]
def eN(x:Nat):List Value:=[.int .i64 (x:Int)]
def eW(x:Nat):List Value:=[.int .u64 (x:Int)]
abbrev rB(n:Nat)(xs:List UInt8):List Value:=cN eB 0 n xs
abbrev rI(n:Nat)(xs:List Int):List Value:=cN eI 0 n xs
abbrev rN(n:Nat)(xs:List Nat):List Value:=cN eN 0 n xs
abbrev rW(n:Nat)(xs:List Nat):List Value:=cN eW 0 n xs
section
variable {α:Type} {e:α→List Value} {d:α} {n:Nat} {xs ys:List α}
theorem BZ{f:Nat→List Value}{k:Nat}(h: ∀i,(f i).length=k): ∀n i,(jN f i n).length=n*k
 | 0,_=>by simp [jN]
 | n+1,i=>by rw[jN,Zz,h,BZ h n,ZQ,aaE]
theorem B8{f:Nat→List Value}{k:Nat}(h: ∀i,(f i).length=k): ∀n i j,j<n→((jN f i n).drop (j*k)).take k=f (i+j)
 | 0,_,_,a=>by omega
 | n+1,i,0,_=>by rw[jN,aa1,aab,ZA (by rw[h];exact Zv _),aan (by rw[h];exact Zv _)];rfl
 | n+1,i,j+1,a=>by
  rw[jN,show(j+1)*k=k+j*k by rw[ZQ,aaE],←ZH,aaD (h i),B8 h n (i+1) j Om,show i+1+j=i+(j+1) by omega]
theorem oP{k:Nat}(h: ∀x,(e x).length=k):(cN e d n xs).length=n*k:=BZ (λ_=>h _) _ _
theorem Jz{k j:Nat}(h: ∀x,(e x).length=k)(a:j<n):((cN e d n xs).drop (j*k)).take k=e (xs.getD j d):=by
 unfold cN;rw[B8 (λ_=>h _) _ _ _ a,Zx]
theorem rX{g:Nat→Value}: ∀n i j,j<n→(jN (λi=>[g i]) i n)[j]? =some (g (i+j))
 | 0,_,_,a=>by omega
 | n+1,i,0,_=>by rw[jN];rfl
 | n+1,i,j+1,a=>by
  rw[jN,List.singleton_append,aai,rX n (i+1) j Om,show i+1+j=i+(j+1) by omega]
theorem B9{g:Nat→Value}: ∀n i,jN (λi=>[g i]) i n=(aaR i n).map g
 | 0,_=>rfl
 | n+1,i=>by rw[jN,B9 n,aaP,aak];rfl
theorem xP{g:α→Value}(h:xs.length=n):cN (λx=>[g x]) d n xs=xs.map g:=by
 unfold cN;rw[B9];apply aaM;intro i;rw[ZF,ZF];rcases Z8 i n with a | a
 ·rw[aa3 a,Zx,Nat.one_mul,Zn Om,Zy,Zy,Zp,Zn Om];rfl
 ·rw[ZB (by rw[aa9];exact a),ZB Om];rfl
theorem uE{g:α→Value}{j:Nat}{u:α}(h:xs.length=n):(cN (λx=>[g x]) d n xs).set j (g u)=cN (λx=>[g x]) d n (xs.set j u):=by
 rw[xP h,xP (by rw[Z7];exact h),List.map_set]
end
theorem nY{n j:Nat}{xs:List UInt8}(h:j<n):((rB n xs).toArray)[j]? =some (.int .u8 ((xs.getD j 0).toNat:Int)):=by
 rw[Z6];exact(rX n 0 j h).trans (by rw[Zx])
theorem JA{n j:Nat}{xs:List Nat}(h:j<n):((rW n xs).toArray)[j]? =some (.int .u64 ((xs.getD j 0:Nat):Int)):=by
 rw[Z6];exact(rX n 0 j h).trans (by rw[Zx])
theorem rY{n j:Nat}{xs:List Nat}(h:j<n):((rN n xs).toArray)[j]? =some (.int .i64 ((xs.getD j 0:Nat):Int)):=by
 rw[Z6];exact(rX n 0 j h).trans (by rw[Zx])
theorem JB{n j:Nat}{xs:List Int}(h:j<n):((rI n xs).toArray)[j]? =some (.int .i64 (xs.getD j 0)):=by
 rw[Z6];exact(rX n 0 j h).trans (by rw[Zx])
theorem mC{n j:Nat}{xs:List UInt8}{u:UInt8}(h:xs.length=n):((rB n xs).toArray).setIfInBounds j (.int .u8 (u.toNat:Int))=(rB n (xs.set j u)).toArray:=by
 rw[ZV];exact ALca _ (uE (g:=λb:UInt8=>Value.int .u8 (b.toNat:Int)) h)
theorem JC{n j:Nat}{xs:List Nat}{u:Nat}(h:xs.length=n):((rW n xs).toArray).setIfInBounds j (.int .u64 (u:Int))=(rW n (xs.set j u)).toArray:=by
 rw[ZV];exact ALca _ (uE (g:=λb:Nat=>Value.int .u64 (b:Int)) h)
theorem JD{n j:Nat}{xs:List Nat}{u:Nat}(h:xs.length=n):((rN n xs).toArray).setIfInBounds j (.int .i64 (u:Int))=(rN n (xs.set j u)).toArray:=by
 rw[ZV];exact ALca _ (uE (g:=λb:Nat=>Value.int .i64 (b:Int)) h)
theorem Ca{n j:Nat}{xs:List Int}{u:Int}(h:xs.length=n):((rI n xs).toArray).setIfInBounds j (.int .i64 u)=(rI n (xs.set j u)).toArray:=by
 rw[ZV];exact ALca _ (uE (g:=λb:Int=>Value.int .i64 b) h)
theorem xQ{n:Nat}{xs:List UInt8}(h:xs.length=n):rB n xs=bV xs:=xP (g:=λb:UInt8=>Value.int .u8 (b.toNat:Int)) h
theorem JE{n:Nat}{xs:List UInt8}:(rB n xs).length=n:=(oP (k:=1) λ_=>rfl).trans (aag _)
def rZ:Value→Value→Bool
 | .int _ a,.int _ b=>a==b
 | .bool a,.bool b=>a==b
 | _,_=>false
def fg:List Value→List Value→Bool
 | a::x,b::y=>rZ a b&&fg x y
 | _,_=>true
def oQ:Option IntKind→Value→Bool
 | none,.bool _=>true
 | some k,.int a _=>decide (k=a)
 | _,_=>false
def eM:List (Option IntKind)→List Value→Bool
 | [],[]=>true
 | k::ks,v::vs=>oQ k v&&eM ks vs
 | _,_=>false
def pZ(P:Program)(c:TypeId→Option (List (Option IntKind))):List Field→Nat→Option (List (Option IntKind))
 | [],_=>some []
 | f::fs,b=>if f.name= "_" ∨f.offset≠b then none else
  match c f.type,(P.info? f.type).map (·.size) with
  | some a,some n=>if n=a.length then(pZ P c fs (b+a.length)).map (a++ ·) else none
  | _,_=>none
def jO(P:Program):Nat→TypeId→Option (List (Option IntKind))
 | 0,_=>none
 | d+1,T=>match P.underlying T with
  | some .bool=>some [none]
  | some (.int k)=>some [some k]
  | some (.struct b)=>if P.stoodInHeld T then none else pZ P (jO P d) b.toList 0
  | some (.array n e)=>match jO P d e,(P.info? e).map (·.size) with
   | some a,some m=>if m=a.length then some (ZM n a).flatten else none
   | _,_=>none
  | _=>none
theorem lY: ∀{a:List (Option IntKind)} {xs:List Value},eM a xs=true→xs.length=a.length
 | [],[],_=>rfl
 | _::a,_::xs,h=>by
  simp only[eM,Zu] at h;rw[ZI,ZI,lY h.2]
 | [],_::_,h=>by simp [eM] at h
 | _::_,[],h=>by simp [eM] at h
theorem r5: ∀{a b:List (Option IntKind)} {xs:List Value},eM (a++b) xs=true→eM a (xs.take a.length)=true∧eM b (xs.drop a.length)=true
 | [],b,xs,h=>⟨by simp [eM],by simpa using h⟩
 | k::a,b,[],h=>by simp [eM] at h
 | k::a,b,x::xs,h=>by
  simp only[List.cons_append,eM,Zu] at h;obtain⟨c,g⟩:=r5 h.2;exact⟨by simp only[ZI,aaH,eM,Zu];exact⟨h.1,c⟩,by simpa using g⟩
theorem uF: ∀(k:Nat) (xs ys:List Value),xs.length=ys.length→fg xs ys=(fg (xs.take k) (ys.take k)&&fg (xs.drop k) (ys.drop k))
 | 0,xs,ys,_=>by simp [fg]
 | k+1,[],[],_=>by simp [fg]
 | k+1,x::xs,y::ys,h=>by
  simp only[aaH,aa7,fg];rw[uF k xs ys (by simpa using h),Bool.and_assoc]
 | k+1,[],_::_,h=>by simp at h
 | k+1,_::_,[],h=>by simp at h
theorem fh{a b c d:List Value}{E F:Bool}(g:a.length=c.length)(h:b.length=d.length)(h1:fg a c=E)(h2:fg b d=F):fg (a++b) (c++d)=(E&&F):=by
 rw[uF a.length _ _ (by rw[Zz,Zz,g,h]),ZA (Zv _),Z3,ZS (Zv _),aar,aaS,g,ZA (Zv _),Z3,ZS (Zv _),aar,aaS,h1,h2]
theorem Cb{α:Type}[DecidableEq α]{g:α→Value}(a: ∀x y,rZ (g x) (g y)=decide (x=y)): ∀{xs ys:List α},xs.length=ys.length→fg (xs.map g) (ys.map g)=decide (xs=ys)
 | [],[],_=>rfl
 | x::xs,y::ys,h=>by
  rw[aak,aak,fg,a,Cb a (by simpa using h)];simp [Bool.decide_and]
 | [],_::_,h=>by simp at h
 | _::_,[],h=>by simp at h
theorem JF(x y:UInt8):rZ (.int .u8 (x.toNat:Int)) (.int .u8 (y.toNat:Int))=decide (x=y):=by
 show((x.toNat:Int)==(y.toNat:Int))=_;rw[Bool.eq_iff_iff];simp only[beq_iff_eq,decide_eq_true_eq,Int.natCast_inj];exact UInt8.toNat_inj
theorem iP{n:Nat}{xs ys:List UInt8}(a:xs.length=n)(b:ys.length=n):fg (rB n xs) (rB n ys)=decide (xs=ys):=by
 rw[xQ a,xQ b];exact Cb JF (a.trans b.symm)
def lZ(P:Program)(T:TypeId)(l:List Value):Value:=if dH P T then .agg l.toArray else l.headD undef
section
variable {P:Program}
theorem Cc{T:TypeId}{t:TypeDesc}(h:P.underlying T=some t)(w:World):(isAgg T).run P w= .ok (dH P T) w:=by
 unfold dH;rw[h];cases t<;>simp [isAgg,run_underlying h,Zm]
theorem r6{T:TypeId}{t:TypeDesc}{n off:Nat}{xs:Array Value}(h:P.underlying T=some t)(hs:(P.info? T).map (·.size)=some n)(j:dH P T=false→n=1)(p:off+n≤xs.size)(w:World):(part T xs off).run P w= .ok (lZ P T ((xs.toList.drop off).take n)) w:=by
 obtain⟨i,g⟩: ∃i,P.info? T=some i:=by cases h:P.info? T<;>simp_all
 have o:i.size=n:=by simpa [g] using hs
 unfold lZ;cases c:dH P T with
 | true=>
  have a:=Cc h w;rw[c] at a;have e:xs.extract off (off+n)=((xs.toList.drop off).take n).toArray:=by
   apply Array.toList_inj.1;simp [Array.toList_extract,List.extract_eq_take_drop]
  simp [part,a,Zm,sizeOf,typeInfo,g,o,e]
 | false=>
  have a:=Cc h w;rw[c] at a;obtain rfl:=j c;have b:off<xs.size:=by omega
  have e:(xs.toList.drop off).take 1=[xs[off]]:=by
   rw[aaa (by simpa using b)];simp
  rw[e];simp [part,a,Zm,b]
theorem Cd{d:Nat}{T:TypeId}{b:List (Option IntKind)}(h:jO P d T=some b):(∃t,P.underlying T=some t)∧(dH P T=false→b.length=1):=by
 cases d with
 | zero=>cases h
 | succ d=>
  unfold jO at h;unfold dH;cases a:P.underlying T with
  | none=>rw[a] at h;cases h
  | some t=>
   rw[a] at h;refine⟨⟨t,rfl⟩,?_⟩;cases t<;>simp_all<;>(try (subst h;rfl))
theorem uG: ∀(d:Nat) (T:TypeId) (H:List (Option IntKind)) (j:Nat) (xs ys:List Value) (w:World),jO P d T=some H→eM H xs=true→eM H ys=true→(Op.equalIn (d+j) T (lZ P T xs) (lZ P T ys)).run P w= .ok (fg xs ys) w
 | 0,_,_,_,_,_,_,h,_,_=>by cases h
 | d+1,T,H,j,xs,ys,w,h,V,W=>by
  have Z:=lY V;have hly:=lY W;have O: ∀{k:Option IntKind},H=[k]→∃a b,xs=[a]∧ys=[b]∧oQ k a=true∧oQ k b=true:=by
   rintro k rfl
   match xs,ys,Z,hly with
   | [a],[b],_,_=>
    refine⟨a,b,rfl,rfl,?_,?_⟩
    ·simpa [eM] using V
    ·simpa [eM] using W
  rw[show d+1+j=d+j+1 by omega];unfold jO at h;cases q:P.underlying T with
  | none=>rw[q] at h;cases h
  | some t=>
   rw[q] at h;cases t<;>simp only[reduceCtorEq,Option.some.injEq] at h
   case bool=>
    obtain⟨a,b,rfl,rfl,B,F⟩:=O h.symm;cases a<;>simp only[oQ,reduceCtorEq] at B
    cases b<;>simp only[oQ,reduceCtorEq] at F
    rename_i a b;have p:dH P T=false:=by unfold dH;rw[q]
    simp only[lZ,p,aaj,if_false,abf];rw[run_equalIn_bool' w _ T a b q];simp [fg,rZ]
   case int k=>
    obtain⟨a,b,rfl,rfl,B,F⟩:=O h.symm;cases a<;>simp only[oQ,reduceCtorEq,aaj,decide_eq_true_eq] at B
    cases b<;>simp only[oQ,reduceCtorEq,aaj,decide_eq_true_eq] at F
    subst B;subst F;rename_i a b;have p:dH P T=false:=by unfold dH;rw[q]
    simp only[lZ,p,aaj,if_false,abf];rw[run_equalIn_int w _ T k k a b q];simp [fg,rZ]
   case struct fs=>
    have C:dH P T=true:=by unfold dH;rw[q]
    split at h
    ·cases h
    ·rename_i hst;have K:P.fieldsOf T=fs:=by unfold Program.fieldsOf;rw[q]
     simp only[lZ,C,if_true];rw[run_equalIn_struct w (d+j) T _ _ (by rw[K];exact q) (by simpa using hst),K];have D: ∀(l:List Field) (off:Nat) (s:List (Option IntKind)) (xs ys:List Value) (w:World),pZ P (jO P d) l off=some s→eM s (xs.drop off)=true→eM s (ys.drop off)=true→off≤xs.length→off≤ys.length→
       (Op.eqFields (d+j) xs.toArray ys.toArray l).run P w= .ok (fg (xs.drop off) (ys.drop off)) w:=by
      intro l
      induction l with
      | nil=>
       intro off s xs ys w o u A _ _;simp only[pZ,Option.some.injEq] at o;subst o;have I:=lY u;have J:=lY A;rw[ZU,aaW] at I J;rw[I,J];rfl
      | cons f l ih=>
       intro off s xs ys w o u A hox hoy;simp only[pZ] at o
       split at o
       ·cases o
       ·rename_i S;rw[not_or,Classical.not_not] at S;obtain⟨S,rfl⟩:=S
        split at o
        ·rename_i a n B G
         split at o
         ·rename_i p;subst p;cases hr:pZ P (jO P d) l (f.offset+a.length) with
          | none=>rw[hr] at o;cases o
          | some b=>
           rw[hr] at o;simp only[Zy,Option.some.injEq] at o;subst o;obtain⟨p1,Q⟩:=r5 u;obtain⟨q1,R⟩:=r5 A;have l1:=lY u;have l2:=lY A;rw[Zz,ZC] at l1 l2;obtain⟨⟨t,M⟩,L⟩:=Cd B;rw[ZH] at Q R;have r1:=r6 (xs:=xs.toArray) (off:=f.offset) M G L (by simp;omega) w;have r2:=r6 (xs:=ys.toArray) (off:=f.offset) M G L (by simp;omega) w;have r3:=uG d f.type a j _ _ w B p1 q1;have r4:=ih (f.offset+a.length) b xs ys w hr Q R Om Om;rw[uF a.length (xs.drop f.offset) (ys.drop f.offset) (by rw[ZC,ZC];omega),ZH,ZH];simp only[Op.eqFields,ALifp S,Zm,r1,r2,r3,Zl];cases F:fg ((xs.drop f.offset).take a.length) ((ys.drop f.offset).take a.length) with
           | false=>simp
           | true=>simpa using r4
         ·cases o
        ·cases o
     have:=D fs.toList 0 H xs ys w h (by simpa using V) (by simpa using W) (Nat.zero_le _) (Nat.zero_le _);simpa using this
   case array n e=>
    have C:dH P T=true:=by unfold dH;rw[q]
    simp only[lZ,C,if_true]
    split at h
    ·rename_i g m B G
     split at h
     ·rename_i hm;subst hm;simp only[Option.some.injEq] at h;subst h;obtain⟨i,X⟩: ∃i,P.info? e=some i:=by cases h:P.info? e<;>simp_all
      have hz:i.size=g.length:=by simpa [X] using G
      have hc:P.cellsOf e=g.length:=by
       unfold Program.cellsOf;rw[X];exact hz
      rw[run_equalIn_array w (d+j) xs.toArray ys.toArray q X,hc];obtain⟨⟨t,M⟩,L⟩:=Cd B;have D: ∀(c k:Nat) (xs ys:List Value) (w:World),eM (ZM c g).flatten (xs.drop (k*g.length))=true→eM (ZM c g).flatten (ys.drop (k*g.length))=true→k*g.length≤xs.length→k*g.length≤ys.length→
        (Op.eqItems (d+j) e g.length xs.toArray ys.toArray (aaR k c)).run P w= .ok (fg (xs.drop (k*g.length)) (ys.drop (k*g.length))) w:=by
       intro c
       induction c with
       | zero=>
        intro k xs ys w u A _ _;have I:=lY u;have J:=lY A;simp only[List.replicate_zero,List.flatten_nil,ZU,aaW] at I J;rw[I,J];rfl
       | succ c ih=>
        intro k xs ys w u A hox hoy;rw[aaG,aao] at u A;obtain⟨p1,Q⟩:=r5 u;obtain⟨q1,R⟩:=r5 A;have l1:=lY u;have l2:=lY A;rw[Zz,ZC] at l1 l2;rw[ZH,show k*g.length+g.length=(k+1)*g.length by rw[ZQ]] at Q R;have Y:(k+1)*g.length=k*g.length+g.length:=by rw[ZQ]
        have r1:=r6 (xs:=xs.toArray) (off:=k*g.length) M G L (by simp;omega) w;have r2:=r6 (xs:=ys.toArray) (off:=k*g.length) M G L (by simp;omega) w;have r3:=uG d e g j _ _ w B p1 q1;have r4:=ih (k+1) xs ys w Q R Om Om;rw[uF g.length (xs.drop (k*g.length)) (ys.drop (k*g.length)) (by rw[ZC,ZC];omega),ZH,ZH,←Y,aaP];simp only[Op.eqItems,Zm,r1,r2,r3,Zl];cases F:fg ((xs.drop (k*g.length)).take g.length) ((ys.drop (k*g.length)).take g.length) with
        | false=>simp
        | true=>simpa using r4
      have:=D n 0 xs ys w (by simpa using V) (by simpa using W) (by simp) (by simp);rw[List.range_eq_range'];simpa using this
     ·cases h
    ·cases h
theorem uH{T:TypeId}{xs ys:List Value}{E:Bool}{x y:Operand}{w:World}(c:(dH P T,P.eqGuardType P.depth T,(jO P 8 T).map (λa=>eM a xs&&eM a ys))=(true,false,some true))(o:fg xs ys=E):(av .eql T x y (.agg xs.toArray) (.agg ys.toArray)).run P w= .ok (.bool E) w:=by
 have h:dH P T=true:=ALca (·.1) c;have j:P.eqGuardType P.depth T=false:=ALca (·.2.1) c;have b:(jO P 8 T).map (λa=>eM a xs&&eM a ys)=some true:=ALca (·.2.2) c;cases g:jO P 8 T with
 | none=>rw[g] at b;cases b
 | some a=>
  rw[g] at b;simp only[Zy,Option.some.injEq,Zu] at b;have:=uG 8 T a 9992 xs ys w g b.1 b.2;simp only[lZ,h,if_true] at this;unfold av;simp [eqGuard,Go.binOp,Op.equal,Op.maxDepth,Zm,j,this,o]
theorem jg{T:TypeId}{xs ys:List Value}{E:Bool}{x y:Operand}{w:World}(c:(dH P T,P.eqGuardType P.depth T,(jO P 8 T).map (λa=>eM a xs&&eM a ys))=(true,false,some true))(o:fg xs ys=E):(av .neq T x y (.agg xs.toArray) (.agg ys.toArray)).run P w= .ok (.bool (!E)) w:=by
 have h:dH P T=true:=ALca (·.1) c;have j:P.eqGuardType P.depth T=false:=ALca (·.2.1) c;have b:(jO P 8 T).map (λa=>eM a xs&&eM a ys)=some true:=ALca (·.2.2) c;cases g:jO P 8 T with
 | none=>rw[g] at b;cases b
 | some a=>
  rw[g] at b;simp only[Zy,Option.some.injEq,Zu] at b;have:=uG 8 T a 9992 xs ys w g b.1 b.2;simp only[lZ,h,if_true] at this;unfold av;simp [eqGuard,Go.binOp,Op.equal,Op.maxDepth,Zm,j,this,o]
end
def ak{α:Type}(e:α→List Value)(xs:List α):List Value:=xs.flatMap e
section
variable {α:Type} {e:α→List Value} {d:α} {xs ys:List α} {k n i r:Nat} {z:List Value}
theorem ky:ak e (xs++ys)=ak e xs++ak e ys:=List.flatMap_append
theorem fR(h: ∀x,(e x).length=k)(a:xs.length=n):(ak e xs).length=n*k:=by
 subst a;unfold ak
 induction xs with
 | nil=>simp
 | cons x xs ih=>rw[Zw,Zz,h,ih,ZI,ZQ,aaE]
theorem JG{g:α→Value}(b: ∀x,(g x).oneCell'=true)(xs:List α): ∀u∈ak (λx=>[g x]) xs,u.oneCell'=true:=by
 intro u a;unfold ak at a;obtain⟨x,_,c⟩:=List.mem_flatMap.1 a;obtain rfl:=List.mem_singleton.1 c;exact b x
theorem Ce(b: ∀x,∀u∈e x,u.oneCell'=true): ∀u∈ak e xs,u.oneCell'=true:=by
 intro u a;unfold ak at a;obtain⟨x,_,c⟩:=List.mem_flatMap.1 a;exact b x u c
theorem Cg{f:Nat→List Value}: ∀n i,jN f i n=(aaR i n).flatMap f
 | 0,_=>rfl
 | n+1,i=>by rw[jN,Cg n,aaP,Zw]
theorem JH: ∀(xs:List α),(aaR 0 xs.length).map (λi=>xs.getD i d)=xs:=by
 intro xs;apply aaM;intro i;rw[ZF];rcases Z8 i xs.length with a | a
 ·rw[aa3 a,Zy,Zp,Zx,Nat.one_mul,Zn a];rfl
 ·rw[ZB (by rw[aa9];exact a),ZB a];rfl
theorem kX(h:xs.length=n):cN e d n xs=ak e xs:=by
 subst h;unfold cN ak;rw[Cg]
 conv=>rhs;rw[←JH (d:=d) xs]
 rw[List.flatMap_map]
theorem Ch(h:xs.length=n):(((cN e d n xs).toArray).toList.drop 0).take (ak e xs).length=ak e xs:=by
 rw[aab,kX h,Z3]
theorem j6{j:Nat}(h:j<n)(h1: ∀x,(e x).length=1:=by intro _;rfl):j<((cN e d n xs).toArray).size:=by
 rw[ZD,oP h1,aag];exact h
theorem JI:((bH (ak e xs) z r).toList.drop 0).take (ak e xs).length=ak e xs:=Jy
theorem uI(h: ∀x,(e x).length=k)(a:i<xs.length):((ak e xs).drop (i*k)).take k=e (xs.getD i d):=by
 rw[←kX (d:=d) rfl];exact Jz h a
theorem Ci(h: ∀x,(e x).length=k)(a:i<xs.length):((bH (ak e xs) z r).toList.drop (0+i*k)).take (e (xs.getD i d)).length=e (xs.getD i d):=by
 have c:=fR h (xs:=xs) rfl;have b:(i+1)*k≤xs.length*k:=ZO _ a;rw[ZQ] at b;rw[Zx,h];unfold bH;simp only;rw[ZS Om,ZA (by rw[ZC];omega)];exact uI h a
theorem JJ{f:Nat}{v:Value}(h: ∀x,(e x).length=k)(b:i<xs.length)(hf:f<k)(hv:(e (xs.getD i d))[f]? =some v):(bH (ak e xs) z r)[0+i*k+f]? =some v:=by
 have c:=Ci (z:=z) (r:=r) (d:=d) h b;have a:=ALca (λl=>l[f]?) c;simp only[h,aaf hf,aax] at a;rw[←Array.getElem?_toList,a];exact hv
theorem Cj{x:α}(h: ∀x,(e x).length=k)(a:i<xs.length):(ak e xs).take (i*k)++e x++(ak e xs).drop (i*k+k)=ak e (xs.set i x):=by
 have o:xs.set i x=xs.take i++x::xs.drop (i+1):=List.set_eq_take_append_cons_drop .. |>.trans (by rw[ALifp a]);have g:xs=xs.take i++xs.drop i:=(aaq i xs).symm;have j:xs.drop i=xs[i]::xs.drop (i+1):=aaa a;have b:(ak e (xs.take i)).length=i*k:=fR h (by rw[aad];omega);rw[o,ky,show ak e (x::xs.drop (i+1))=e x++ak e (xs.drop (i+1)) from Zw ..];have c:ak e xs=ak e (xs.take i)++(e xs[i]++ak e (xs.drop (i+1))):=by
  conv=>lhs;rw[g,j]
  rw[ky];rfl
 rw[c,List.take_left' b,←ZH,aaD b,aaD (h _),aap]
theorem JK{x:α}{l:List Value}(h: ∀x,(e x).length=k)(a:i<xs.length)(g:e x=l):(bH (ak e xs) z r).toList.take (0+i*k)++l++(bH (ak e xs) z r).toList.drop (0+i*k+l.length)=(bH (ak e (xs.set i x)) z r).toList:=by
 subst g;have b:=fR h (xs:=xs) rfl;have c:(i+1)*k≤xs.length*k:=ZO _ a;rw[ZQ] at c;rw[Zx,h];unfold bH;simp only;rw[ZA Om,ZS Om,←Cj h a];simp only[aap]
theorem JL{x:α}{f:Nat}{v:Value}(h: ∀x,(e x).length=k)(a:i<xs.length)(hf:f<k)(g:e x=(e (xs.getD i d)).set f v):(bH (ak e xs) z r).setIfInBounds (0+i*k+f) v=bH (ak e (xs.set i x)) z r:=by
 have b:=fR h (xs:=xs) rfl;have c:(i+1)*k≤xs.length*k:=ZO _ a;rw[ZQ] at c;rw[Zx];unfold bH;rw[ZV,aa4 _ _ Om,←Cj h a,g]
 congr 2
 have o:((ak e xs).take (i*k)).length=i*k:=by rw[aad];omega
 have j:=uI (d:=d) h a
 conv=>lhs;rw[←aaq (i*k) (ak e xs),←aaq k ((ak e xs).drop (i*k)),j,ZH]
 rw[List.set_append_right _ _ Om,o,show i*k+f-i*k=f by omega,aa4 _ _ (by rw[h];exact hf),aap]
theorem JM{f:Nat}(h: ∀x,(e x).length=k)(c:i<xs.length)(hf:f<k):0+i*k+f<(bH (ak e xs) z r).size:=by
 have a:=fR h (xs:=xs) rfl;have b:(i+1)*k≤xs.length*k:=ZO _ c;rw[ZQ] at b;rw[uD];omega
end
section
variable {P:Program} {T e:TypeId}
end
section
variable {α:Type} {e:α→List Value} {d:α} {xs ys:List α} {n l m N r:Nat} {z:List Value}
theorem xR(h: ∀x,(e x).length=1)(g:l+m≤xs.length):((ak e xs).drop l).take m=ak e ((xs.drop l).take m):=by
 have b: ∀(l:Nat) (xs:List α),(ak e xs).drop l=ak e (xs.drop l):=by
  intro l
  induction l with
  | zero=>intro xs;rfl
  | succ l ih=>
   intro xs;cases xs with
   | nil=>simp [ak]
   | cons x xs=>
    rw[aa7,←ih,show ak e (x::xs)=e x++ak e xs from Zw ..,aaE l 1,←ZH,aaD (h x)]
 have c: ∀(m:Nat) (xs:List α),m≤xs.length→(ak e xs).take m=ak e (xs.take m):=by
  intro m
  induction m with
  | zero=>intro xs _;rfl
  | succ m ih=>
   intro xs a;cases xs with
   | nil=>simp at a
   | cons x xs=>
    rw[aaH,show ak e (x::xs)=e x++ak e xs from Zw ..,show ak e (x::xs.take m)=e x++ak e (xs.take m) from Zw ..,←ih xs (by simpa using a),aaE m 1,List.take_append,aan (by rw[h];omega),h,aaX]
 rw[b,c _ _ (by rw[ZC];omega)]
theorem Ck(h: ∀x,(e x).length=1)(a:xs.length=N)(b:l+m≤N):(((cN e d N xs).toArray).toList.drop (l*1)).take (ak e ((xs.drop l).take m)).length=ak e ((xs.drop l).take m):=by
 rw[fR (n:=m) h (by rw[aad,ZC];omega),aag,aag,kX a];exact xR h Om
theorem xS(h: ∀x,(e x).length=1)(b:xs.length=N)(a:l+m≤N):(((cN e d N xs).toArray).toList.drop (l*1)).take (cN e d m ((xs.drop l).take m)).length=cN e d m ((xs.drop l).take m):=by
 rw[kX (n:=m) (by rw[aad,ZC];omega)];exact Ck h b a
theorem JN(h: ∀x,(e x).length=1)(b:xs.length=N)(a:l*m+m≤N):(((cN e d N xs).toArray).toList.drop (0+l*m)).take (cN e d m ((xs.drop (l*m)).take m)).length=cN e d m ((xs.drop (l*m)).take m):=by
 have:=xS (l:=l*m) (d:=d) h b a;rw[aag] at this;rw[Zx];exact this
theorem r7{off:Nat}(h: ∀x,(e x).length=1)(c:xs.length=N)(g:ys.length=m)(j:off+m≤N):((cN e d N xs).toArray).toList.take off++ak e ys++((cN e d N xs).toArray).toList.drop (off+(ak e ys).length)=((cN e d N (xs.take off++ys++xs.drop (off+m))).toArray).toList:=by
 show(cN e d N xs).take off++ak e ys++(cN e d N xs).drop (off+(ak e ys).length)=cN e d N (xs.take off++ys++xs.drop (off+m));rw[kX c,kX (n:=N) (by rw[Zz,Zz,aad,ZC];omega),ky,ky,fR (n:=m) h g,aag];have a:=xR (e:=e) (xs:=xs) (l:=0) (m:=off) h Om;have b:=xR (e:=e) (xs:=xs) (l:=off+m) (m:=N-(off+m)) h Om;rw[aab,aab] at a;rw[a];rw[aan (by rw[ZC,fR (n:=N) h c];omega),aan (by rw[ZC];omega)] at b;rw[b]
end
section
variable {P:Program} {T e U:TypeId} {w:World}
theorem JO{g l m s N:Nat}(b:(P.underlying T,P.arrayLen T,jf P (P.elem T))=(some (.array N (P.elem T)),N,some s))(h2:l+m≤N)(a:l<N):(Instr.sliceAt T (.pointer (some ⟨g,0,none⟩)) (some (.int .i64 (l:Int))) (some (.int .i64 ((l+m:Nat):Int))) none).run P w= .ok (.slice (some ⟨g,l*s,none⟩) m (N-l)) w:=by
 have h:=Ju (w:=w) (g:=g) (h:=l+m) b Om h2 a;rwa [aaX] at h
theorem JP{α:Type}{en:α→List Value}{d:α}{xs:List α}{n m N k:Nat}(c:(P.underlying T,(P.info? e).map (·.size),dH P e)=(some (.array n e),some m,true))(h: ∀x,(en x).length=1)(q:k<n)(F:n*m=N)(C:xs.length=N):(Instr.index T (.agg ((cN en d N xs).toArray)) (.int .i64 (k:Int))).run P w= .ok (.agg ((cN en d m ((xs.drop (k*m)).take m)).toArray)) w:=by
 have B:P.underlying T=some (.array n e):=ALca (·.1) c;have u:(P.info? e).map (·.size)=some m:=ALca (·.2.1) c;have a:dH P e=true:=ALca (·.2.2) c;obtain⟨o,b⟩: ∃i,P.info? e=some i:=by cases h:P.info? e<;>simp_all
 have D:o.size=m:=by simpa [b] using u
 have j: ∃t,P.underlying e=some t:=by
  unfold dH at a;cases b:P.underlying e with
  | none=>rw[b] at a;cases a
  | some t=>exact⟨t,rfl⟩
 obtain⟨G,g⟩:=j;have A:k*m+m≤N:=by
  have:=ZO m (show k+1≤n from q);rw[ZQ] at this;omega
 have s:=r6 (xs:=(cN en d N xs).toArray) (off:=k*m) g u (λh=>by rw[a] at h;cases h) (by rw[ZD,oP h];omega) w;have p:=JN (d:=d) (l:=k) (m:=m) h C A;rw[Zx,oP h,aag] at p;rw[p] at s;unfold Instr.index;simp [asIntOf,Zm,run_underlying B,sizeOf,typeInfo,b,D,s,lZ,a,q]
end
theorem xT{α:Type}[BEq α][LawfulBEq α]{a b:α}(h:(a != b)=false):a=b:=by simpa using h
theorem r9{P:Program}{w:World}(a:Array TypeId)(t:TypeId)(x y:Int):(Builtin.max_ a t #[.int .i64 x,.int .i64 y]).run P w= .ok (.int .i64 (max x y)) w:=by
 rw[run_max_int2]
 congr 2
 split<;>omega
theorem JQ{P:Program}{w:World}(a:Array TypeId)(t:TypeId)(x y:Int):(Builtin.min_ a t #[.int .i64 x,.int .i64 y]).run P w= .ok (.int .i64 (min x y)) w:=by
 rw[run_min_int2]
 congr 2
 split<;>omega
section
variable {P:Program} {T e:TypeId}
end
theorem JR{α:Type}{e:α→List Value}{d:α}{xs ys:List α}{m N off:Nat}(h: ∀x,(e x).length=1)(c:xs.length=N)(a:ys.length=m)(b:off+m≤N):((cN e d N xs).toArray).toList.take off++cN e d m ys++((cN e d N xs).toArray).toList.drop (off+(cN e d m ys).length)=((cN e d N (xs.take off++ys++xs.drop (off+m))).toArray).toList:=by
 rw[kX (n:=m) a];exact r7 h c a b
theorem JS{α:Type}{e:α→List Value}{d:α}{xs ys:List α}{m N off:Nat}(h: ∀x,(e x).length=1)(a:off+m≤N):off+(cN e d m ys).length≤((cN e d N xs).toArray).size:=by
 rw[ZD,oP h,oP h,aag,aag];exact a
theorem JT{α:Type}{g:α→Value}{d:α}{xs:List α}{n:Nat}(a: ∀x,(g x).oneCell'=true)(b:xs.length=n): ∀u∈cN (λx=>[g x]) d n xs,u.oneCell'=true:=by
 rw[kX b];exact JG a xs
section
variable {P:Program} {T:TypeId} {x y:Operand} {w:World}
theorem JU{k:IntKind}{a d:Nat}(c:0<d)(b:k.wrap ((a/d:Nat):Int)=((a/d:Nat):Int)):Op.intDiv .quo k (a:Int) (d:Int)=pure (.int k ((a/d:Nat):Int)):=by
 unfold Op.intDiv;rw[ALifn Om,←b,Int.ofNat_tdiv]
theorem JV{k:IntKind}{a d:Nat}(b:0<d):Op.intDiv .rem k (a:Int) (d:Int)=pure (.int k ((a%d:Nat):Int)):=by
 unfold Op.intDiv;rw[ALifn Om,Int.ofNat_tmod]
theorem oR{a d:Nat}(b:0<d)(c:a<9223372036854775808):(av .quo T x y (.int .i64 (a:Int)) (.int .i64 (d:Int))).run P w= .ok (.int .i64 ((a/d:Nat):Int)) w:=by
 have h:a/d≤a:=Nat.div_le_self a d;have e:=ALca (λ(s:Sem Value)=>s.run P w) (JU (k:= .i64) (a:=a) b (by generalize a/d=q at h⊢;rw[aa8];omega));exact e
theorem nZ{a d:Nat}(b:0<d):(av .rem T x y (.int .i64 (a:Int)) (.int .i64 (d:Int))).run P w= .ok (.int .i64 ((a%d:Nat):Int)) w:=
 ALca (λ(s:Sem Value)=>s.run P w) (JV (k:= .i64) (a:=a) b)
theorem uJ{a b:Nat}(h:a+b<18446744073709551616):(av .add T x y (.int .u64 (a:Int)) (.int .u64 (b:Int))).run P w= .ok (.int .u64 ((a+b:Nat):Int)) w:=by
 have c:IntKind.u64.wrap ((a:Int)+b)=((a+b:Nat):Int):=by rw[Z9];omega
 rw[←c];rfl
theorem JW{S:TypeId}{a:Nat}(b:P.underlying S=some (.int .u8))(c:P.underlying T=some (.int .i64))(g:a<256):(convert S T (.int .u8 (a:Int))).run P w= .ok (.int .i64 (a:Int)) w:=by
 have h:IntKind.i64.wrap (a:Int)=(a:Int):=by rw[aa8];omega
 simp only[convert,Zm,run_underlying b,run_underlying c,Zl,Conv.intToInt,h,Zr]
end
end
section
open Go Go.RowKit Go.Shelf
def ar{α:Type}(en:α→List Value)(z:List Value)(T:TypeId)(v:Value)(xs:List α):ay→Prop:=λbs=>
 (xs=[]∧bs=[]∧∃a,v= .slice a 0 0)∨∃g r,v= .slice (some ⟨g,0,none⟩) xs.length (xs.length+r)∧bs=[(g,.cells (bH (ak en xs) z r) T (0,0))]
def fj(v:Value)(off:Nat):Value:=match v with | .slice (some a) _ _=> .pointer (some (a.add off)) | _=>undef
section
variable {α:Type} {P:Program} {en:α→List Value} {z:List Value} {e T:TypeId} {v:Value} {xs ys:List α} {bs:ay} {w:World}
theorem ar.nil(a:Option Addr):ar en z T (.slice a 0 0) ([]:List α) []:= .inl ⟨rfl,rfl,a,rfl⟩
theorem ar.form(h:ar en z T v xs bs): ∃a c,v= .slice a xs.length c:=by
 rcases h with⟨rfl,_,a,rfl⟩ | ⟨g,r,rfl,_⟩
 ·exact⟨a,0,rfl⟩
 ·exact⟨_,_,rfl⟩
theorem ar.some(h:ar en z T v xs bs){i:Nat}(a:i<xs.length): ∃g r,v= .slice (.some ⟨g,0,none⟩) xs.length (xs.length+r)∧bs=[(g,.cells (bH (ak en xs) z r) T (0,0))]:=by
 rcases h with⟨rfl,_⟩ | h
 ·simp at a
 ·exact h
theorem mA.ent{p:Nat}{x:aB}{c:gB}{w:World}(h:mA [(p,x)] c w):x.sat (c p)∧ez (c p) w:=by
 have:=h.has;exact⟨h.sat _ (List.mem_singleton.2 rfl),by simpa using this⟩
theorem ez.one{g:Nat}{x:Obj}{w:World}(h:ez [(g,x)] w):w.heap[g]? = .some x:=h.obj (g,x) (List.mem_singleton.2 rfl)
def xU(P:Program)(t:Array TypeId):Bool:=match t.toList with | [T]=>(match P.underlying T with | .some (.slice _)=>true | _=>false) | _=>false
theorem Cl{t:Array TypeId}(h:xU P t=true): ∃T e,t=#[T]∧P.underlying T= .some (.slice e):=by
 unfold xU at h
 split at h
 ·rename_i T b
  split at h
  ·rename_i e a;exact⟨T,e,Array.toList_inj.1 b,a⟩
  ·cases h
 ·cases h
def p4(P:Program)(p:Nat)(x:aB)(v:Value)(o:Oper)(ρ:Operand→Value)(_:cv):MD:=match o.op with
 | .call ⟨.builtin .len,_,t⟩=>⟨[(p,x)],λ_=>[],[sE (λw=>(execOp ρ o).run P w) (λw=>(vS (Builtin.len_ t o.type #[v])).run P w),sB (xU P t)]⟩
 | _=>MD.bad
theorem JX(p:Nat)(x:aB)(h: ∀bs,x.sat bs→ar en z T v xs bs):MD.ok P (λ_=> .int .i64 (xs.length:Int)) (p4 P p x v) []:=by
 intro o ρ C g w c i;unfold p4 at g i⊢
 split at g
 ·rename_i a t j;simp only[j] at i⊢;simp only[Zq,Zo,or_false,forall_eq_or_imp,forall_eq,sE,sB] at g;obtain⟨l,q⟩:=g;obtain⟨m,u⟩:=i.ent;obtain⟨b,k,rfl⟩:=(h _ m).form;obtain⟨r,s,rfl,n⟩:=Cl q;refine⟨ab.zero,λ_=>[],w,.inl ((congrFun l w).trans (lV ?_)),λx h=>by simp at h,by simpa using a8.refl w⟩;simp [Builtin.len_,run_underlying n,goInt,Zm]
 ·exact(bG g).elim
def JY(p:Nat)(x:aB)(h: ∀bs,x.sat bs→ar en z T v xs bs):MH P (λ_=> .int .i64 (xs.length:Int)):=⟨[],p4 P p x v,JX p x h⟩
def p6(P:Program)(p:Nat)(x:aB)(v:Value)(i s:Nat)(o:Oper)(ρ:Operand→Value)(_:cv):MD:=match o.op with
 | .indexAddr T a b=>⟨[(p,x)],λ_=>[],[sE (ρ a) v,sE (ρ b) (.int .i64 (i:Int)),sE (P.underlying T,jf P (P.elem T)) (.some (.slice (P.elem T)),.some s)]⟩
 | _=>MD.bad
theorem JZ(p:Nat)(x:aB)(i s:Nat)(h: ∀bs,x.sat bs→ar en z T v xs bs)(q:i<xs.length):MD.ok P (λ_=>fj v (i*s)) (p6 P p x v i s) []:=by
 intro o ρ C j w c m;unfold p6 at j m⊢
 split at j
 ·rename_i D a b l;simp only[l] at m⊢;simp only[Zq,Zo,or_false,forall_eq_or_imp,forall_eq,sE] at j;obtain⟨y,A,u⟩:=j;obtain⟨t,F⟩:=m.ent;obtain⟨g,r,rfl,_⟩:=(h _ t).some q;refine⟨ab.zero,λ_=>[],w,.inl ?_,λx h=>by simp at h,by simpa using a8.refl w⟩;unfold execOp;have B:=bR (P:=P) (w:=w) (g:=g) (off:=0) (n:=xs.length) (c:=xs.length+r) (k:=i) (s:=s) u q;simp only[l,y,A,Zm,B,Zl,Zr,fj,add_lit]
 ·exact(bG j).elim
def J0(p:Nat)(x:aB)(i s:Nat)(h: ∀bs,x.sat bs→ar en z T v xs bs)(a:i<xs.length):MH P (λ_=>fj v (i*s)):=⟨[],p6 P p x v i s,JZ p x i s h a⟩
def xV(P:Program)(p:Nat)(x:aB)(v:Value)(off d:Nat)(o:Oper)(ρ:Operand→Value)(_:cv):MD:=match o.op with
 | .fieldAddr T a f=>⟨[(p,x)],λ_=>[],[sE (ρ a) (fj v off),sE (λ(q:Nat×Nat×World)=>(Instr.fieldAt T (.pointer (.some ⟨q.1,q.2.1,none⟩)) f).run P q.2.2) (λq=> .ok (.pointer (.some ⟨q.1,q.2.1+d,none⟩)) q.2.2)]⟩
 | _=>MD.bad
theorem J1(p:Nat)(x:aB)(off d:Nat)(h: ∀bs,x.sat bs→ar en z T v xs bs)(q:0<xs.length):MD.ok P (λ_=>fj v (off+d)) (xV P p x v off d) []:=by
 intro o ρ C b w c j;unfold xV at b j⊢
 split at b
 ·rename_i s a f i;simp only[i] at j⊢;simp only[Zq,Zo,or_false,forall_eq_or_imp,forall_eq,sE] at b;obtain⟨k,n⟩:=b;obtain⟨m,t⟩:=j.ent;obtain⟨g,r,rfl,_⟩:=(h _ m).some q;refine⟨ab.zero,λ_=>[],w,.inl ?_,λx h=>by simp at h,by simpa using a8.refl w⟩;unfold execOp;have l:=congrFun n (g,0+off,w);simp only at l;simp only[fj,add_lit] at k;simp only[i,k,Zm,l,Zl,Zr,fj,add_lit,aaY]
 ·exact(bG b).elim
def J2(p:Nat)(x:aB)(off d:Nat)(h: ∀bs,x.sat bs→ar en z T v xs bs)(a:0<xs.length):MH P (λ_=>fj v (off+d)):=⟨[],xV P p x v off d,J1 p x off d h a⟩
def p7(P:Program)(p:Nat)(x:aB)(v:Value)(off:Nat)(o:Oper)(ρ:Operand→Value)(_:cv):MD:=match o.op with
 | .load T a=>⟨[(p,x)],λ_=>[],[sE (ρ a) (fj v off),sE (λw=>(isAgg T).run P w) (λw=> .ok false w)]⟩
 | _=>MD.bad
theorem J3(p:Nat)(x:aB)(i k f:Nat){d:α}{u:Value}(h: ∀bs,x.sat bs→ar en z T v xs bs)(F: ∀y,(en y).length=k)(s:i<xs.length)(hf:f<k)(G:(en (xs.getD i d))[f]? = .some u):MD.ok P (λ_=>u) (p7 P p x v (i*k+f)) []:=by
 intro o ρ C b w c l;unfold p7 at b l⊢
 split at b
 ·rename_i H a j;simp only[j] at l⊢;simp only[Zq,Zo,or_false,forall_eq_or_imp,forall_eq,sE] at b;obtain⟨q,B⟩:=b;obtain⟨A,n⟩:=l.ent;obtain⟨g,r,rfl,D⟩:=(h _ A).some s;rw[D] at n;have m:mv w g T (bH (ak en xs) z r):=n.one;refine⟨ab.zero,λ_=>[],w,.inl ?_,λx h=>by simp at h,by simpa using a8.refl w⟩;unfold execOp;simp only[fj,add_lit] at q;have t:=JJ (z:=z) (r:=r) F s hf G;rw[show 0+i*k+f=0+(i*k+f) by omega] at t;simp only[j,q,Instr.loadAt,Instr.sureAddr,Zm,Zr,Zl,rv (congrFun B w) ((m.cell _).trans t)]
 ·exact(bG b).elim
def J4(p:Nat)(x:aB)(i k f:Nat){d:α}{u:Value}(h: ∀bs,x.sat bs→ar en z T v xs bs)(b: ∀y,(en y).length=k)(a:i<xs.length)(hf:f<k)(c:(en (xs.getD i d))[f]? = .some u):MH P (λ_=>u):=⟨[],p7 P p x v (i*k+f),J3 p x i k f h b a hf c⟩
def m6(P:Program)(p:Nat)(x:aB)(v:Value)(off n:Nat)(o:Oper)(ρ:Operand→Value)(_:cv):MD:=match o.op with
 | .load T a=>⟨[(p,x)],λ_=>[],[sE (ρ a) (fj v off),sB (dH P T),sE ((P.info? T).map (·.size)) (.some n)]⟩
 | _=>MD.bad
theorem J5(p:Nat)(x:aB)(i k f:Nat){d:α}{l:List Value}(h: ∀bs,x.sat bs→ar en z T v xs bs)(t: ∀y,(en y).length=k)(s:i<xs.length)(hf:f+l.length≤k)(I:((en (xs.getD i d)).drop f).take l.length=l):MD.ok P (λ_=> .agg l.toArray) (m6 P p x v (i*k+f) l.length) []:=by
 intro o ρ C b w c m;unfold m6 at b m⊢
 split at b
 ·rename_i J a j;simp only[j] at m⊢;simp only[Zq,Zo,or_false,forall_eq_or_imp,forall_eq,sE,sB] at b;obtain⟨q,F,H⟩:=b;obtain⟨A,n⟩:=m.ent;obtain⟨g,r,rfl,D⟩:=(h _ A).some s;rw[D] at n;refine⟨ab.zero,λ_=>[],w,.inl ?_,λx h=>by simp at h,by simpa using a8.refl w⟩;unfold execOp;simp only[fj,add_lit] at q;have u:=Ci (z:=z) (r:=r) (d:=d) t s;rw[t] at u;have G:((bH (ak en xs) z r).toList.drop (0+(i*k+f))).take l.length=l:=by
   have B:((bH (ak en xs) z r).toList.drop (0+(i*k+f))).take l.length=((((bH (ak en xs) z r).toList.drop (0+i*k)).take k).drop f).take l.length:=by
    rw[aaF,aaU,ZH,show 0+i*k+f=0+(i*k+f) by omega,aaT Om]
   rw[B,u,I]
  simp only[j,q,Instr.loadAt,Instr.sureAddr,Zm,Zr,Zl,uw n.one G F H]
 ·exact(bG b).elim
def J6(p:Nat)(x:aB)(i k f:Nat){d:α}{l:List Value}(h: ∀bs,x.sat bs→ar en z T v xs bs)(b: ∀y,(en y).length=k)(a:i<xs.length)(hf:f+l.length≤k)(c:((en (xs.getD i d)).drop f).take l.length=l):MH P (λ_=> .agg l.toArray):=⟨[],m6 P p x v (i*k+f) l.length,J5 p x i k f h b a hf c⟩
end
end
section
open Go Go.RowKit Go.Shelf
section
variable {α:Type} {P:Program} {en:α→List Value} {z:List Value} {e T:TypeId} {v:Value} {xs ys:List α} {bs:ay} {w:World}
def xW(P:Program)(p:Nat)(x y:aB)(v:Value)(off:Nat)(u:Value)(o:Oper)(ρ:Operand→Value)(_:cv):MD:=match o.op with
 | .store T a b=>⟨[(p,x)],λ_=>[(p,y)],[sE (ρ a) (fj v off),sE (ρ b) u,sB u.oneCell',sE ((P.info? T).map (·.size)) (some 1)]⟩
 | _=>MD.bad
theorem J7(p i k f:Nat){d a:α}{u:Value}(D: ∀y,(en y).length=k)(s:i<xs.length)(hf:f<k)(M:en a=(en (xs.getD i d)).set f u):MD.ok P (λ_=>undef) (xW P p (.p (ar en z T v xs)) (.p (ar en z T v (xs.set i a))) v (i*k+f) u) [p]:=by
 intro o ρ C j w c n;unfold xW at j n⊢
 split at j
 ·rename_i O x y l;simp only[l] at n⊢;simp only[Zq,Zo,or_false,forall_eq_or_imp,forall_eq,sE,sB] at j;obtain⟨A,K,I,J⟩:=j;obtain⟨H,t⟩:=n.ent;obtain⟨g,r,rfl,B⟩:=ar.some (show ar en z T v xs (c p) from H) s;rw[B] at t;have b:=t.one;have G:=JL (z:=z) (r:=r) D s hf M;have F:=JM (z:=z) (r:=r) (f:=f) (xs:=xs) D s hf;rw[show 0+i*k+f=0+(i*k+f) by omega] at G F;simp only[fj,add_lit] at A;have m:=a8.setc (i:=0+(i*k+f)) u b;rw[G] at m;refine⟨ab.zero,λ_=>[(g,.cells (bH (ak en (xs.set i a)) z r) T (0,0))],w.setCell ⟨g,0+(i*k+f),none⟩ u,.inr ⟨?_,by simp⟩,λq h=>?_,?_⟩
  ·unfold execOp;simp only[l,A,K,Instr.storeAt,Instr.sureAddr,Zm,Zr,Zl,ur b F I J]
  ·rw[List.mem_singleton.1 h];exact .inr ⟨g,r,by rw[Z7],rfl⟩
  ·rw[show([p].flatMap λp=>bN (c p))=_ by simp only[Zw,ZJ,B,bN];rfl];exact m
 ·exact(bG j).elim
def J8(p i k f:Nat){d a:α}{u:Value}(c: ∀y,(en y).length=k)(b:i<xs.length)(hf:f<k)(g:en a=(en (xs.getD i d)).set f u):MH P (λ_=>undef):=⟨[p],xW P p (.p (ar en z T v xs)) (.p (ar en z T v (xs.set i a))) v (i*k+f) u,J7 p i k f c b hf g⟩
def p8(P:Program)(p:Nat)(x y:aB)(v:Value)(off:Nat)(l:List Value)(o:Oper)(ρ:Operand→Value)(_:cv):MD:=match o.op with
 | .store T a b=>⟨[(p,x)],λ_=>[(p,y)],[sE (ρ a) (fj v off),sE (m3 (ρ b)) (some l),sB (l.all (·.oneCell')),sE ((P.info? T).map (·.size)) (some l.length)]⟩
 | _=>MD.bad
theorem J9(p i k:Nat){a:α}(s: ∀y,(en y).length=k)(n:i<xs.length):MD.ok P (λ_=>undef) (p8 P p (.p (ar en z T v xs)) (.p (ar en z T v (xs.set i a))) v (i*k) (en a)) [p]:=by
 intro o ρ C j w c m;unfold p8 at j m⊢
 split at j
 ·rename_i G x y l;simp only[l] at m⊢;simp only[Zq,Zo,or_false,forall_eq_or_imp,forall_eq,sE,sB] at j;obtain⟨B,K,I,J⟩:=j;obtain⟨H,A⟩:=m.ent;obtain⟨g,r,rfl,D⟩:=ar.some (show ar en z T v xs (c p) from H) n;rw[D] at A;have b:=A.one;have M:=JK (z:=z) (r:=r) (x:=a) s n rfl;have t:0+i*k+(en a).length≤(bH (ak en xs) z r).size:=by
   rw[uD,fR s rfl,s];have:=ZO k (show i+1≤xs.length from n);rw[Nat.add_mul] at this;omega
  simp only[fj,add_lit] at B;have u:=a8.setRow (bH (ak en (xs.set i a)) z r) b;refine⟨ab.zero,λ_=>[(g,.cells (bH (ak en (xs.set i a)) z r) T (0,0))],w.setRow g (bH (ak en (xs.set i a)) z r),.inr ⟨?_,by simp⟩,λq h=>?_,?_⟩
  ·unfold execOp;have F:=ux (P:=P) (T:=G) b t (List.all_eq_true.1 I) J;rw[M,Array.toArray_toList] at F;simp only[l,B,uy K,Instr.storeAt,Instr.sureAddr,Zm,Zr,Zl,F]
  ·rw[List.mem_singleton.1 h];exact .inr ⟨g,r,by rw[Z7],rfl⟩
  ·rw[show([p].flatMap λp=>bN (c p))=_ by simp only[Zw,ZJ,D,bN];rfl];exact u
 ·exact(bG j).elim
def Ka(p i k:Nat)(a:α)(c: ∀y,(en y).length=k)(b:i<xs.length):MH P (λ_=>undef):=⟨[p],p8 P p (.p (ar en z T v xs)) (.p (ar en z T v (xs.set i a))) v (i*k) (en a),J9 p i k c b⟩
theorem uK{s:Sem Value}{v:Value}{w w':World}(h:s.run P w= .ok v w'):(vS s).run P w= .ok (.value v) w':=by
 unfold vS;simp only[Zm,h,Zl,Zr]
theorem ar.slice(h:ar en z T v xs bs): ∃a r,v= .slice a xs.length (xs.length+r):=by
 rcases h with⟨rfl,_,a,rfl⟩ | ⟨g,r,rfl,_⟩
 ·exact⟨a,0,rfl⟩
 ·exact⟨_,r,rfl⟩
theorem Cm{T' TY:TypeId}(g:ec P T' e z)(a b:Option Addr)(n r c:Nat)(w:World):(Builtin.append_ #[T',T'] TY #[.slice a n (n+r),.slice b 0 c]).run P w= .ok (.slice a n (n+r)) w:=by
 obtain⟨k,⟨i,q,j,p,o,l,h⟩,m⟩:=g;cases a<;>cases b<;>simp [Builtin.append_,run_underlying k,sizeOf,typeInfo,j,Builtin.lenOf,Builtin.firstCells,loadCells,loadCellsFrom,storeCells]
theorem Cn{T' TY:TypeId}(hT:ec P T' e z){B:ay}(hv:ar en z e v xs B)(hh:ez B w){A:Addr}{c:Nat}(p: ∀y,(en y).length=z.length)(h1: ∀y,∀u∈en y,u.oneCell'=true)
  (k: ∀j u,(ak en ys)[j]? =some u→w.cell? (A.add j)=some u) (H:xs.length+ys.length≤1000000):
  ∃S m w',(Builtin.append_ #[T',T'] TY #[v,.slice (some A) ys.length c]).run P w= .ok S w'∧ar en z e S (xs++ys) m∧a8 (bN B) m w w':=by
 by_cases hy:ys=[]
 ·subst hy;obtain⟨a,r,rfl⟩:=hv.slice;refine⟨_,B,w,Cm hT a (some A) _ r c w,by rw[aal];exact hv,rfl,rfl,rfl,Zv _,hh.obj,λx O=> .inl (Z2 O),hh.nd,λ_ _ _=>rfl⟩
 have K:0<ys.length:=List.length_pos_iff.2 hy;have hT':=hT;obtain⟨Y,⟨i,F,U,hz,X,Q,hby⟩,h0⟩:=hT;have hzz:0<F.cells.size:=by rw[←Array.length_toList,Q];exact h0
 have D:(ak en ys).length=ys.length*i.size:=by rw[X];exact fR p rfl
 have J:=Ce (e:=en) (xs:=ys) h1;have s: ∀(C:Array Value),a8 (bN B) [(w.heap.size,.cells C e (0,0))] w (w.drew.alloc (.cells C e)):=λC=>by
  have n:=(Below.refl w.heap.size w.drew).alloc (Zv _) (.cells C e);exact⟨n.os,n.tape,n.output,n.size,λx O=>by obtain rfl:=List.mem_singleton.1 O;exact aas w.drew _,λx O=>by obtain rfl:=List.mem_singleton.1 O;exact .inr (Zv _),Z1 _ _,λb H _=>n.block b H⟩
 have l: ∀(g0:Option Addr) (o:Nat) (G:Nat),G=grownCap w (xs.length+ys.length) o e→o<xs.length+ys.length→(Builtin.append_ #[T',T'] TY #[v,.slice (some A) ys.length c]).run P w= .ok (.slice (some ⟨w.heap.size,0,none⟩) (xs.length+ys.length) G) (w.drew.alloc (.cells ((ak en xs).toArray++(ak en ys).toArray++Builtin.zeroCells F.cells (G-(xs.length+ys.length))) e))→
   ∃S m w',(Builtin.append_ #[T',T'] TY #[v,.slice (some A) ys.length c]).run P w= .ok S w'∧ar en z e S (xs++ys) m∧a8 (bN B) m w w':=by
  intro g0 o G hG hcap V;have hge:=grownCap_ge w (xs.length+ys.length) o e;rw[←hG] at hge;have Z:(ak en xs).toArray++(ak en ys).toArray++Builtin.zeroCells F.cells (G-(xs.length+ys.length))=bH (ak en (xs++ys)) z (G-(xs.length+ys.length)):=by
   apply Array.toList_inj.1;unfold bH;simp only[Array.toList_append,xO _ _ hzz,Q,ky]
  rw[Z] at V;exact⟨_,_,_,V,.inr ⟨w.heap.size,G-(xs.length+ys.length),by rw[Zz];congr 1;omega,rfl⟩,s _⟩
 have t:(xs.length+ys.length)*i.bytes≤140737488355328:=ZL (Nat.mul_le_mul H hby) Dc;rcases hv with⟨rfl,rfl,a,rfl⟩ | ⟨g,r,rfl,rfl⟩
 ·cases a with
  | none=>
   have h:=run_append_nil (P:=P) w T' TY e i F Y U hz A ys.length c (ak en ys) D k K (by simp only[ZU] at H;omega) (by have:=t;simp only[ZU,Zx] at this;omega);refine l none 0 _ rfl (by simp only[ZU];omega) ?_;simp only[ZU,Zx,ak,ZJ];rw[h];simp [ak]
  | some a0=>
   have h:=run_append_grow (P:=P) w T' TY e i F Y U hz a0 0 0 [] (by simp) (λj u hu=>by simp at hu) A ys.length c (ak en ys) D k Om (by simp only[ZU] at H;omega) (growslice_fits Om (by simpa using t));refine l none 0 _ rfl (by simp only[ZU];omega) ?_;simp only[ZU,ak,ZJ] at h⊢;exact h
 ·have hg:w.heap[g]? =some (.cells (bH (ak en xs) z r) e (0,0)):=hh.one;have hn:(ak en xs).length=xs.length*i.size:=by rw[X];exact fR p rfl
  by_cases V:ys.length≤r
  ·have Z:((bH (ak en xs) z r).toList.take (xs.length*i.size)++ak en ys++(bH (ak en xs) z r).toList.drop (xs.length*i.size+(ak en ys).length)).toArray=bH (ak en (xs++ys)) z (r-ys.length):=by
    have M:(ZM r z).flatten=(ZM ys.length z).flatten++(ZM (r-ys.length) z).flatten:=by
     rw[←ZK,List.replicate_append_replicate,show ys.length+(r-ys.length)=r by omega]
    unfold bH;rw[←hn,M,ky];simp only[aap]
    congr 1
    rw[ZA (Zv _),Z3]
    congr 2
    rw[D,X,←rU z ys.length,←Zz,←aap (ak en xs),ZS (Zv _),aar,aaS]
   have q:=run_append_room (P:=P) w T' TY e i Y U g xs.length (xs.length+r) (bH (ak en xs) z r) hg A ys.length c (ak en ys) D k J Om (by rw[←hn,D,uD,X];have:=ZO z.length V;omega);rw[Z] at q;exact⟨_,_,_,q,.inr ⟨g,r-ys.length,by rw[Zz];congr 1;omega,rfl⟩,a8.setRow _ hg⟩
  ·have I:=oO (news:=ak en xs) hg (off:=0) (by unfold bH;rw[aab,ZA (Zv _),Z3]);have h:=run_append_grow (P:=P) w T' TY e i F Y U hz ⟨g,0,none⟩ xs.length (xs.length+r) (ak en xs) hn I A ys.length c (ak en ys) D k Om Om (growslice_fits Om t);exact l none (xs.length+r) _ rfl Om h
def dQ{α:Type}(en:α→List Value)(u:Value)(ys:List α):ay→Prop:=λbs=>
 (ys=[]∧∃a c,u= .slice a 0 c)∨∃(g b:Nat) (cs:Array Value) (t:TypeId) (h:Nat×Nat) (c:Nat),u= .slice (some ⟨g,b,none⟩) ys.length c∧(g,Obj.cells cs t h)∈bs∧(cs.toList.drop b).take (ak en ys).length=ak en ys
theorem ar.src(h:ar en z T v xs bs):dQ en v xs bs:=by
 rcases h with⟨b,_,a,c⟩ | ⟨g,r,b,c⟩
 ·exact .inl ⟨b,a,0,c⟩
 ·exact .inr ⟨g,0,_,T,_,_,b,by rw[c];exact List.mem_singleton.2 rfl,JI⟩
def gY(v:Value)(l h s:Nat):Value:=match v with | .slice a _ c=>sliced a l h c s | _=>undef
def ab.ov(v:Value):ab:=⟨λ_=>0,λ_=>0,λ_=>v⟩
theorem Kb{T' TY h:TypeId}{p q g off c m:Nat}{a:Array Value}(t:ec P T' e z)(b: ∀y,(en y).length=z.length)(h1: ∀y,∀u∈en y,u.oneCell'=true)(C:ys.length=m)(s:(a.toList.drop off).take (ak en ys).length=ak en ys)(A:xs.length+m≤1000000):
  BL P (rV T' TY v (.slice (some ⟨g,off,none⟩) m c)) (λE=>E.val 0) [(p,.p (ar en z e v xs)),(q,ob g a h)] [p] (λE=>[(p,.p (ar en z e (E.val 0) (xs++ys)))]):=by
 intro w k l;subst C;have D:ar en z e v xs (k p):=l.sat (p,.p (ar en z e v xs)) (by simp);have F:k q=[(g,.cells a h (0,0))]:=l.sat (q,ob g a h) (by simp);have i:=l.has;simp only[Zw,ZJ,aal] at i;have B:w.heap[g]? =some (.cells a h (0,0)):=i.obj (g,.cells a h (0,0)) (by rw[F];simp);have n:ez (k p) w:=⟨λx r=>i.obj x (Zs _ r),(List.pairwise_append.1 i.nd).1⟩;obtain⟨I,j,J,G,H,o⟩:=Cn (TY:=TY) (c:=c) t D n b h1 (oO B s) A;exact⟨ab.ov I,λ_=>j,J,.inl (uK G),λx r=>by rw[List.mem_singleton.1 r];exact H,by simpa using o⟩
theorem Kc{T' TY:TypeId}{p q:Nat}{x:aB}{u:Value}(C:ec P T' e z)(l: ∀y,(en y).length=z.length)(h1: ∀y,∀u∈en y,u.oneCell'=true)(h: ∀bs,x.sat bs→dQ en u ys bs)(F:xs.length+ys.length≤1000000):
  BL P (rV T' TY v u) (λE=>E.val 0) [(p,.p (ar en z e v xs)),(q,x)] [p] (λE=>[(p,.p (ar en z e (E.val 0) (xs++ys)))]):=by
 intro w k n;have A:ar en z e v xs (k p):=n.sat (p,.p (ar en z e v xs)) (by simp);have G:dQ en u ys (k q):=h _ (n.sat (q,x) (by simp));have j:=n.has;simp only[Zw,ZJ,aal] at j;have i:ez (k p) w:=⟨λx h=>j.obj x (Zs _ h),(List.pairwise_append.1 j.nd).1⟩;have s:ez (k q) w:=⟨λx h=>j.obj x (Zt _ h),(List.pairwise_append.1 j.nd).2.1⟩;rcases G with⟨rfl,a,c,rfl⟩ | ⟨g,J,O,t,Q,c,rfl,o,D⟩
 ·obtain⟨b,r,rfl⟩:=A.slice;exact⟨ab.ov _,λ_=>k p,w,.inl (uK (Cm C b a _ r c w)),λx h=>by rw[List.mem_singleton.1 h,aal];exact A,rfl,rfl,rfl,Zv _,by simpa using i.obj,λx h=> .inl (by simp only[Zw,ZJ,aal] at h⊢;exact Z2 h),by simpa using i.nd,λ_ _ _=>rfl⟩
 ·obtain⟨K,m,M,H,I,B⟩:=Cn (TY:=TY) (c:=c) C A i l h1 (oO (s.obj _ o) D) F;exact⟨ab.ov K,λ_=>m,M,.inl (uK H),λx h=>by rw[List.mem_singleton.1 h];exact I,by simpa using B⟩
end
end
section
open Go Go.RowKit Go.Shelf
structure j7 {α:Type} (en:α→Value) (d:α) (f:Int→α) (es:List MapEntry):Prop where
 key: ∀x∈es,∃k,x.key= .int .i64 k∧x.val=en (f k)
 out: ∀k,(∀x∈es,x.key≠ .int .i64 k)→f k=d
 one:es.Pairwise λx y=>x.key≠y.key
def l0{α:Type}(en:α→Value)(d:α)(f:Int→α)(g:Nat):ay→Prop:=λbs=>∃b a,bs=[(g,.map b a)]∧j7 en d f b.toList
def b3{α:Type}(f:Int→α)(k:Int)(a:α)(j:Int):α:=if j=k then a else f j
section
variable {α:Type} {P:Program} {en:α→Value} {d:α} {f:Int→α} {w:World}
theorem j7.find{k:Int}: ∀{es:List MapEntry} {i:Nat},(∀x∈es,∃k,x.key= .int .i64 k∧x.val=en (f k))→
  (Instr.findNow (.int .i64) (.int .i64 k) es i=some none∧∀x∈es,x.key≠ .int .i64 k)∨∃j y,es[j]? =some y∧y.key= .int .i64 k∧Instr.findNow (.int .i64) (.int .i64 k) es i=some (some (i+j,en (f k)))
 | [],i,_=> .inl ⟨rfl,λx h=>by simp at h⟩
 | y::es,i,h=>by
  obtain⟨q,b,l⟩:=h y aaI;by_cases e:k=q
  ·subst e;refine .inr ⟨0,y,rfl,b,?_⟩;unfold Instr.findNow;rw[b];simp [Instr.sameNow,l]
  ·have n:Instr.findNow (.int .i64) (.int .i64 k) (y::es) i=Instr.findNow (.int .i64) (.int .i64 k) es (i+1):=by
    rw[Instr.findNow,b];simp only[Instr.sameNow,if_true];rw[beq_false_of_ne e]
   rw[n];rcases j7.find (k:=k) (es:=es) (i:=i+1) (λx a=>h x (ZN _ a)) with⟨c,g⟩ | ⟨j,z,c,g,m⟩
   ·refine .inl ⟨c,λx a=>?_⟩;rcases List.mem_cons.1 a with rfl | a
    ·rw[b];intro h;cases h;exact e rfl
    ·exact g x a
   ·exact .inr ⟨j+1,z,by simpa using c,g,by rw[m,show i+1+j=i+(j+1) by omega]⟩
theorem j7.nil:j7 en d (λ_=>d) []:=⟨λx h=>by simp at h,λ_ _=>rfl,List.Pairwise.nil⟩
theorem j7.push{es:List MapEntry}(h:j7 en d f es){k:Int}(l: ∀x∈es,x.key≠ .int .i64 k)(a:α)(c:Nat):j7 en d (b3 f k a) (es++[⟨.int .i64 k,en a,c⟩]):=by
 refine⟨λx b=>?_,λj i=>?_,?_⟩
 ·rcases List.mem_append.1 b with m | b
  ·obtain⟨q,g,n⟩:=h.key x m;refine⟨q,g,?_⟩;unfold b3;rw[ALifn]
   ·exact n
   ·intro e;exact l x m (by rw[g,e])
  ·obtain rfl:=List.mem_singleton.1 b;exact⟨k,rfl,by unfold b3;rw[ALifp rfl]⟩
 ·unfold b3;rw[ALifn]
  ·exact h.out j λx b=>i x (Zs _ b)
  ·rintro rfl;exact i _ (Zt _ (List.mem_singleton.2 rfl)) rfl
 ·refine List.pairwise_append.2 ⟨h.one,Z1 _ _,λx b y o=>?_⟩;obtain rfl:=List.mem_singleton.1 o;exact l x b
theorem j7.set{es:List MapEntry}(h:j7 en d f es){k:Int}{i:Nat}{y:MapEntry}(F:es[i]? =some y)(u:y.key= .int .i64 k)(a:α):j7 en d (b3 f k a) (es.modify i λe=>{e with key:= .int .i64 k,val:=en a}):=by
 have n:=(List.getElem?_eq_some_iff.1 F).1;have o:=(List.getElem?_eq_some_iff.1 F).2;have p: ∀j (g:j<es.length),(es.modify i λe=>{e with key:= .int .i64 k,val:=en a})[j]'(by simpa using g)=if i=j then{es[j] with key:= .int .i64 k,val:=en a} else es[j]:=λj g=>by
  rw[List.getElem_modify]
 have c: ∀j (g:j<es.length),((es.modify i λe=>{e with key:= .int .i64 k,val:=en a})[j]'(by simpa using g)).key=es[j].key:=λj g=>by
  rw[p j g]
  split
  ·rename_i e;subst e;simp only;rw[o,u]
  ·rfl
 refine⟨λx C=>?_,λj g=>?_,?_⟩
 ·obtain⟨j,g,rfl⟩:=ZG C;have m:j<es.length:=by simpa using g
  rw[p j m]
  split
  ·exact⟨k,rfl,by unfold b3;rw[ALifp rfl]⟩
  ·rename_i r;obtain⟨q,A,G⟩:=h.key es[j] (ZP m);refine⟨q,A,?_⟩;unfold b3;rw[ALifn]
   ·exact G
   ·rintro rfl;have D:=List.pairwise_iff_getElem.1 h.one;rcases aam r with l | l
    ·exact D i j n m l (by rw[o,u,A])
    ·exact D j i m n l (by rw[o,u,A])
 ·unfold b3;have r:j≠k:=by
   rintro rfl;refine g _ (ZP (show i<_ by simpa using n)) ?_;rw[c i n,o,u]
  rw[ALifn r];refine h.out j λx C=>?_;obtain⟨q,J,rfl⟩:=ZG C;rw[←c q J];exact g _ (ZP _)
 ·rw[ZZ];intro a b H I B;have s:a<es.length:=by simpa using H
  have t:b<es.length:=by simpa using I
  rw[c a s,c b t];exact(List.pairwise_iff_getElem.1 h.one) a b s t B
def uL(P:Program)(T:TypeId):Option (TypeId×TypeId):=match P.underlying T with
 | some (.map K V)=>match P.underlying K with
  | some (.int .i64)=>some (K,V)
  | _=>none
 | _=>none
theorem Co{T K V:TypeId}(h:uL P T=some (K,V)):P.underlying T=some (.map K V)∧P.underlying K=some (.int .i64):=by
 unfold uL at h
 split at h
 ·rename_i c g a
  split at h
  ·rename_i b;cases h;exact⟨a,b⟩
  ·cases h
 ·cases h
theorem Cp{K:TypeId}(a:P.underlying K=some (.int .i64))(b:Bool)(n:Nat)(k:Int):(Instr.checkKey b (n+1) K (.int .i64 k)).run P w= .ok () w:=by
 unfold Instr.checkKey;simp [Zm,run_underlying a]
theorem uM{g:Nat}{es:Array MapEntry}{c:Nat}(h:w.heap[g]? =some (.map es c)):(getObj g).run P w= .ok (.map es c) w:=by simp [getObj,Sem.run,h]
theorem Cq{g:Nat}{es:Array MapEntry}{c:Nat}(o:Obj)(h:w.heap[g]? =some (.map es c)):(setObj g o).run P w= .ok () (w.putObj g o):=by simp [setObj,Sem.run,h,aaB]
def xX(P:Program)(p:Nat)(x:aB)(g:Nat)(k:Int)(dv:Value)(o:Oper)(ρ:Operand→Value)(_:cv):MD:=match o.op with
 | .lookup T a b false=>match uL P T with
  | some (K,V)=>⟨[(p,x)],λ_=>[],[sE (ρ a) (.map (some g)),sE (ρ b) (.int .i64 k),sE (λw=>(zeroValue V).run P w) (λw=> .ok dv w)]⟩
  | none=>MD.bad
 | _=>MD.bad
theorem Ke(p:Nat)(x:aB)(g:Nat)(k:Int)(h: ∀bs,x.sat bs→l0 en d f g bs):MD.ok P (λ_=>en (f k)) (xX P p x g k (en d)) []:=by
 intro o ρ C l w c q;unfold xX at l q⊢
 split at l
 ·rename_i T a b n;simp only[n] at q⊢
  split at l
  ·rename_i K V D;simp only[D] at q⊢;simp only[Zq,Zo,or_false,forall_eq_or_imp,forall_eq,sE] at l;obtain⟨M,O,u⟩:=l;obtain⟨I,B⟩:=q.ent;obtain⟨H,r,Q,G⟩:=h _ I;rw[Q] at B;have F:=B.one;obtain⟨A,s⟩:=Co D;have u:=congrFun u w;refine⟨ab.zero,λ_=>[],w,.inl ?_,λx h=>by simp at h,by simpa using a8.refl w⟩;have U:(Instr.lookup T (.map (some g)) (.int .i64 k) false).run P w= .ok (en (f k)) w:=by
    unfold Instr.lookup;have m:=Cp (P:=P) (w:=w) s H.isEmpty 9999 k;rcases j7.find (en:=en) (f:=f) (k:=k) (i:=0) G.key with⟨t,J⟩ | ⟨j,y,_,_,t⟩
    ·have S:f k=d:=G.out k J;simp [Zm,run_underlying A,uM F,m,Instr.findKey,run_underlying s,t,u,S]
    ·simp [Zm,run_underlying A,uM F,m,Instr.findKey,run_underlying s,t]
   unfold execOp;simp only[n,M,O,Zm,U,Zl,Zr]
  ·exact(bG l).elim
 ·exact(bG l).elim
def mg(p:Nat)(x:aB)(g:Nat)(k:Int)(h: ∀bs,x.sat bs→l0 en d f g bs):MH P (λ_=>en (f k)):=⟨[],xX P p x g k (en d),Ke p x g k h⟩
def xY(P:Program)(p:Nat)(x y:aB)(g:Nat)(k:Int)(u:Value)(o:Oper)(ρ:Operand→Value)(_:cv):MD:=match o.op with
 | .mapUpdate T a b z=>match uL P T with
  | some _=>⟨[(p,x)],λ_=>[(p,y)],[sE (ρ a) (.map (some g)),sE (ρ b) (.int .i64 k),sE (ρ z) u]⟩
  | none=>MD.bad
 | _=>MD.bad
theorem Kf(p g:Nat)(k:Int)(a:α):MD.ok P (λ_=>undef) (xY P p (.p (l0 en d f g)) (.p (l0 en d (b3 f k a) g)) g k (en a)) [p]:=by
 intro o ρ C u w c G;unfold xY at u G⊢
 split at u
 ·rename_i T m b z x;simp only[x] at G⊢
  split at u
  ·rename_i KV X;obtain⟨K,V⟩:=KV;simp only[X] at G⊢;simp only[Zq,Zo,or_false,forall_eq_or_imp,forall_eq,sE] at u;obtain⟨Y,H,hz⟩:=u;obtain⟨h1,U⟩:=G.ent;obtain⟨r,l,Z,Q⟩:=h1;rw[Z] at U;have B:=U.one;obtain⟨S,I⟩:=Co X;have A:=Cp (P:=P) (w:=w) I false 9999 k;have s: ∀t n,a8 ([p].flatMap λp=>bN (c p)) ([(g,Obj.map t n)]++[]) w (w.putObj g (.map t n)):=λt n=>by
    rw[show([p].flatMap λp=>bN (c p))=[g] by simp only[Zw,ZJ,Z,bN];rfl];exact a8.put rfl rfl rfl (by simp [aaB]) (aaA (Array.getElem?_eq_some_iff.1 B).1) (λb H=>ZE H)
   rcases j7.find (en:=en) (f:=f) (k:=k) (i:=0) Q.key with⟨F,h4⟩ | ⟨j,y,hj,D,F⟩
   ·refine⟨ab.zero,λ_=>[(g,.map (r.push ⟨.int .i64 k,en a,l⟩) (l+1))],w.putObj g (.map (r.push ⟨.int .i64 k,en a,l⟩) (l+1)),.inr ⟨?_,by simp⟩,λq h=>?_,s _ _⟩
    ·have O:(Instr.mapUpdate T (.map (some g)) (.int .i64 k) (en a)).run P w= .ok () (w.putObj g (.map (r.push ⟨.int .i64 k,en a,l⟩) (l+1))):=by
      unfold Instr.mapUpdate;simp [Zm,run_underlying S,uM B,A,Instr.findKey,run_underlying I,F,Cq _ B]
     unfold execOp;simp only[x,Y,H,hz,Zm,O,Zl,Zr]
    ·rw[List.mem_singleton.1 h];exact⟨_,_,rfl,by rw[Array.toList_push];exact Q.push h4 a l⟩
   ·rw[Zx] at F;have J:r[j]? =some y:=by rw[←Array.getElem?_toList];exact hj
    have M:(Instr.keyThatStays (((r[j]?).map (·.key)).getD (.int .i64 k)) (.int .i64 k)).run P w= .ok (.int .i64 k) w:=by
     rw[J];simp [D,Instr.keyThatStays,Instr.sameBits]
    refine⟨ab.zero,λ_=>[(g,.map (r.modify j λe=>{e with key:= .int .i64 k,val:=en a}) l)],w.putObj g (.map (r.modify j λe=>{e with key:= .int .i64 k,val:=en a}) l),.inr ⟨?_,by simp⟩,λq h=>?_,s _ _⟩
    ·have O:(Instr.mapUpdate T (.map (some g)) (.int .i64 k) (en a)).run P w= .ok () (w.putObj g (.map (r.modify j λe=>{e with key:= .int .i64 k,val:=en a}) l)):=by
      unfold Instr.mapUpdate;simp only[Zm,run_underlying S,uM B,A,Instr.findKey,run_underlying I,F,M,Zl,Zr,Cq _ B]
     unfold execOp;simp only[x,Y,H,hz,Zm,O,Zl,Zr]
    ·rw[List.mem_singleton.1 h];exact⟨_,_,rfl,by rw[Array.toList_modify];exact Q.set hj D a⟩
  ·exact(bG u).elim
 ·exact(bG u).elim
def mu(p g:Nat)(k:Int)(en:α→Value)(d:α)(f:Int→α)(a:α):MH P (λ_=>undef):=⟨[p],xY P p (.p (l0 en d f g)) (.p (l0 en d (b3 f k a) g)) g k (en a),Kf p g k a⟩
def xZ(P:Program)(p:Nat)(Q:Nat→ay→Prop)(o:Oper)(_:Operand→Value)(_:cv):MD:=match o.op with
 | .makeMap T none=>⟨[],λE=>[(p,.p (Q (E.y 0)))],[sE (λw=>(Instr.makeMap T none).run P w) (λw=> .ok (.map (some w.heap.size)) (w.alloc (.map #[] 0)))]⟩
 | _=>MD.bad
theorem Kg(p:Nat)(en:α→Value)(d:α):MD.ok P (λE=> .map (some (E.y 0))) (xZ P p (l0 en d λ_=>d)) []:=by
 intro o ρ C a w c g;unfold xZ at a g⊢
 split at a
 ·rename_i T b;simp only[b] at g⊢;simp only[Z4,forall_eq,sE] at a;refine⟨ab.of w.heap.size,λ_=>[(w.heap.size,.map #[] 0)],_,.inl ?_,λx h=>?_,by simpa using a8.alloc w (.map #[] 0)⟩
  ·unfold execOp;have:=congrFun a w;simp only[b,abd,Zm,this,Zl,Zr];rfl
  ·rw[List.mem_singleton.1 h];exact⟨#[],0,rfl,j7.nil⟩
 ·exact(bG a).elim
def mm(p:Nat)(en:α→Value)(d:α):MH P (λE=> .map (some (E.y 0))):=⟨[],xZ P p (l0 en d λ_=>d),Kg p en d⟩
end
def sa(S:aj→Prop):ay→Prop:=λbs=>∃L a,S L∧bt L a∧bs=a.flatten
abbrev pk(S:aj→Prop):aB:= .p (sa S)
theorem sb: ∀{cs ds:List ay},bt (cs.map .c) ds→ds=cs
 | [],[],_=>rfl
 | c::cs,d::ds,h=>by rw[show d=c from h.1,sb h.2]
 | [],_::_,h=>h.elim
 | _::_,[],h=>h.elim
section
variable {R:List Nat} {base W w:World} {L L' N:aj}
theorem aF.weak(h:aF R base L W){x y:aB}(k:Nat)(j:L[k]? =some x)(i: ∀bs,x.sat bs→y.sat bs):aF R base (L.set k y) W:=by
 obtain⟨c,a⟩:=h;have b:=(List.getElem?_eq_some_iff.1 j).1;refine⟨c,?_⟩;rw[Z7];refine⟨λp l z g=>?_,λp l m=>?_,a.obj,a.inn,a.nd,a.lo,a.os,a.tape,a.output,a.size,a.far⟩
 ·rw[aba] at g;by_cases e:k=p
  ·subst e;rw[ALifp rfl,ALifp b] at g;cases g;exact i _ (a.sat k b x j)
  ·rw[ALifn e] at g;exact a.sat p l z g
 ·rw[Z0,Z7] at m;omega
theorem aF.nilS{α:Type}(h:aF R base L W)(en:α→List Value)(z:List Value)(T:TypeId):aF R base (L++[.p (ar en z T (.slice none 0 0) ([]:List α))]) W:=by
 obtain⟨cs,b,a⟩:=h.conc;refine aF.ofS (cs:=cs++[[]]) (kx b ⟨ar.nil none,trivial⟩) ?_;simpa using a
end
end
section
open Go Go.RowKit Go.Shelf
def ab.l(bs ns:List Nat)(vs:List Value):ab:=⟨λi=>bs.getD i 0,λi=>ns.getD i 0,λi=>vs.getD i undef⟩
section
variable {P:Program} {f:FuncId} {args:Array Value} {rd:aj} {O:List Nat} {wt:ab→aj} {v:ab→Value}
def Cr(O:List Nat)(wt:ab→aj)(v:ab→Value)(cs:List ay)(w:World)(e:Ending)(w':World):Prop:=
 ∃E a,e= .returned (v E)∧bt (wt E) a∧a8 (O.flatMap λi=>bN (cs.getD i [])) a.flatten w w'
def n0:Option aB→Bool
 | some (.c _)=>true
 | _=>false
theorem aF.fin2{R:List Nat}{w W':World}{L:aj}{cs:List ay}(hs:bt rd cs)(r:ez cs.flatten w)(h:aF (bN cs.flatten) w L W')(O:List Nat)(N:aj)(g:List Nat)(a:List (Nat×Nat))
  (k:(dp (g++a.map (·.2)),g.map (λp=>L[p]?),a.map (λx=>L[x.2]?),a.all (λx=>n0 rd[x.1]?),(ZR rd.length).all λi=>O.contains i||a.any λx=>x.1==i)=(true,N.map some,a.map (λx=>rd[x.1]?),true,true)):
  ∃ds,bt N ds∧a8 (O.flatMap λi=>bN (cs.getD i [])) ds.flatten w W':=by
 simp only[Prod.mk.injEq] at k;obtain⟨l,m,n,o,q⟩:=k;refine h.fin hs r O N g a ?_;simp only[Prod.mk.injEq];refine⟨l,m,?_,q⟩;rw[n];refine aa6 λx s=>?_;have b:=List.all_eq_true.1 o x s;cases d:rd[x.1]? with
 | none=>rw[d] at b;cases b
 | some y=>
  rw[d] at b;cases y with
  | c bs=>rw[show cs.getD x.1 []=bs from m4 hs d]
  | p Q=>cases b
theorem aa.ro(i:Nat){Q:ay→Prop}(b:rd[i]? =some (.p Q))(h: ∀bs,Q bs→aa P f args (rd.set i (.c bs)) O wt v)(o:Enters P f):aa P f args rd O wt v:=by
 refine⟨o,λw a g q=>?_⟩;refine(h (a.getD i []) (m4 g b)).out w a ?_ q;have k: ∀(rd:aj) (a:List ay) (i:Nat),bt rd a→i<rd.length→bt (rd.set i (.c (a.getD i []))) a:=by
  intro rd
  induction rd with
  | nil=>intro a i _ b;simp at b
  | cons x rd ih=>
   intro a i g b;obtain⟨d,m,rfl,n,l⟩:=eA g;cases i with
   | zero=>exact⟨rfl,l⟩
   | succ i=>exact⟨n,ih m i l (by simpa using b)⟩
 exact k rd a i g (List.getElem?_eq_some_iff.1 b).1
theorem aa.at(h:aa P f args rd O wt v){rd':aj}(b: ∀cs,bt rd' cs→bt rd cs):aa P f args rd' O wt v:=⟨h.ent,λw cs c a=>h.out w cs (b cs c) a⟩
end
section
variable {P:Program} {f:FuncId} {args:Array Value} {u:Value}
end
section
variable {P:Program}
def Cs(c:BinOp)(a b:Value):TD:=λo ρ=>match o.op with | .binOp op' _ x y _=>[sE op' c,sE (ρ x) a,sE (ρ y) b] | _=>[sB false]
theorem Kh{l:BinOp}{a b c:Value}(h: ∀(T:TypeId) (x y:Operand) (w:World),(av l T x y a b).run P w= .ok c w):TD.ok P (Cs l a b) c:=by
 intro o ρ d w;unfold Cs at d
 split at d
 ·rename_i p T x y q g;simp only[Zq,Zo,or_false,forall_eq_or_imp,forall_eq,sE] at d;obtain⟨rfl,m,n⟩:=d;have i:=h T x y w;unfold av at i;unfold execOp;simp only[g,m,n];have k:=lV i;unfold vS at k;exact k
 ·exact(bG d).elim
def tb{d:BinOp}{a b c:Value}(h: ∀(T:TypeId) (x y:Operand) (w:World),(av d T x y a b).run P w= .ok c w):TH P c:=⟨_,Kh h⟩
def uN(c:BinOp)(T:TypeId)(a b:Value):TD:=λo ρ=>match o.op with | .binOp op' T' x y _=>[sE op' c,sE T' T,sE (ρ x) a,sE (ρ y) b] | _=>[sB false]
theorem x8{l:BinOp}{a b c:Value}(T:TypeId)(h: ∀(x y:Operand) (w:World),(av l T x y a b).run P w= .ok c w):TD.ok P (uN l T a b) c:=by
 intro o ρ d w;unfold uN at d
 split at d
 ·rename_i p T x y q g;simp only[Zq,Zo,or_false,forall_eq_or_imp,forall_eq,sE] at d;obtain⟨rfl,rfl,m,n⟩:=d;have i:=h x y w;unfold av at i;unfold execOp;simp only[g,m,n];have k:=lV i;unfold vS at k;exact k
 ·exact(bG d).elim
def ig{d:BinOp}{a b c:Value}(T:TypeId)(h: ∀(x y:Operand) (w:World),(av d T x y a b).run P w= .ok c w):TH P c:=⟨_,x8 T h⟩
def Cu(P:Program)(k l:IntKind)(a:Value):TD:=λo ρ=>match o.op with | .convert S T x=>[sE (P.underlying S) (some (.int k)),sE (P.underlying T) (some (.int l)),sE (ρ x) a] | _=>[sB false]
theorem Ki{k l:IntKind}{a c:Value}(h: ∀(S T:TypeId) (w:World),P.underlying S=some (.int k)→P.underlying T=some (.int l)→(convert S T a).run P w= .ok c w):TD.ok P (Cu P k l a) c:=by
 intro o ρ b w;unfold Cu at b
 split at b
 ·rename_i S T x d;simp only[Zq,Zo,or_false,forall_eq_or_imp,forall_eq,sE] at b;obtain⟨i,m,n⟩:=b;unfold execOp;simp only[d,n];have g:=lV (h S T w i m);unfold vS at g;exact g
 ·exact(bG b).elim
def tc{k l:IntKind}{a c:Value}(h: ∀(S T:TypeId) (w:World),P.underlying S=some (.int k)→P.underlying T=some (.int l)→(convert S T a).run P w= .ok c w):TH P c:=⟨_,Ki h⟩
def Za(P:Program)(s:Sem Value):TD:=λo ρ=>[sE (λw=>(execOp ρ o).run P w) (λw=>(vS s).run P w)]
theorem Y2{v:Value}{s:Sem Value}(h: ∀w,s.run P w= .ok v w):TD.ok P (Za P s) v:=λo ρ a w=>by
 simp only[Za,Z4,forall_eq,sE] at a;exact(congrFun a w).trans (lV (h w))
end
end
section
open Go Go.RowKit Go.Shelf
abbrev bD(v:Value)(xs:List UInt8):aB:= .p (ar eB [.int .u8 0] 5 v xs)
abbrev dq(v:Value)(xs:List Int):aB:= .p (ar eI [.int .i64 0] 3 v xs)
section
variable {α:Type} {P:Program} {en:α→List Value} {z:List Value} {e T:TypeId} {v:Value} {xs ys:List α} {bs:ay} {w:World}
theorem cP{Q:ay→Prop}{bs:ay}(h:Q bs): ∀b,(aB.c bs).sat b→Q b:=λb a=>by rw[show b=bs from a];exact h
def x9(P:Program)(p q:Nat)(T':TypeId)(v:Value)(x:aB)(y:ab→aB)(news:List Value)(m:Nat)(o:Oper)(ρ:Operand→Value)(C:cv):MD:=match C q,o.op with
 | some (.c [(g,.cells b h (0,0))]),.call ⟨.builtin .append,a,_⟩=>match a.toList.map ρ with
  | [_,.slice (some ⟨_,d,none⟩) _ c]=>⟨[(p,x),(q,ob g b h)],λE=>[(p,y E)],[sE (λw=>(execOp ρ o).run P w) (λw=>(rV T' o.type v (.slice (some ⟨g,d,none⟩) m c)).run P w),sE ((b.toList.drop d).take news.length) news]⟩
  | _=>MD.bad
 | _,_=>MD.bad
theorem Kj{T':TypeId}(p q:Nat)(B:ec P T' e z)(v:Value)(i: ∀y,(en y).length=z.length)(h1: ∀y,∀u∈en y,u.oneCell'=true)(F:xs.length+ys.length≤1000000):
  MD.ok P (λE=>E.val 0) (x9 P p q T' v (.p (ar en z e v xs)) (λE=> .p (ar en z e (E.val 0) (xs++ys))) (ak en ys) ys.length) [p]:=by
 intro o ρ C b w c k;unfold x9 at b k⊢
 split at b
 ·rename_i g s N a t A l;simp only[A,l] at k⊢
  split at b
  ·rename_i Q L I M r D;simp only[D] at k⊢;simp only[Zq,Zo,or_false,forall_eq_or_imp,forall_eq,sE] at b;obtain⟨n,x⟩:=b;obtain⟨E,d,K,G,H,m⟩:=Kb (T':=T') (TY:=o.type) (p:=p) (q:=q) (v:=v) (xs:=xs) (c:=r) B i h1 rfl x F w c k;exact⟨E,d,K,G.imp (λh=>(congrFun n w).trans h) (λh=>⟨(congrFun n w).trans h.1,h.2⟩),H,m⟩
  ·exact(bG b).elim
 ·exact(bG b).elim
def Kk{T':TypeId}(p q:Nat)(b:ec P T' e z)(v:Value)(h1: ∀y,∀u∈en y,u.oneCell'=true)(a: ∀y,(en y).length=z.length)(c:xs.length+ys.length≤1000000):MH P (λE=>E.val 0):=
 ⟨[p],x9 P p q T' v (.p (ar en z e v xs)) (λE=> .p (ar en z e (E.val 0) (xs++ys))) (ak en ys) ys.length,Kj p q b v a h1 c⟩
def ya(P:Program)(p q:Nat)(T':TypeId)(v u:Value)(x a:aB)(y:ab→aB)(o:Oper)(ρ:Operand→Value)(C:cv):MD:=
 ⟨[(p,x),(q,a)],λE=>[(p,y E)],[sE (λw=>(execOp ρ o).run P w) (λw=>(rV T' o.type v u).run P w)]⟩
theorem Kl{T':TypeId}(p q:Nat)(l:ec P T' e z)(v u:Value)(k:aB)(s: ∀bs,k.sat bs→dQ en u ys bs)(a: ∀y,(en y).length=z.length)(h1: ∀y,∀u∈en y,u.oneCell'=true)(m:xs.length+ys.length≤1000000):
  MD.ok P (λE=>E.val 0) (ya P p q T' v u (.p (ar en z e v xs)) k (λE=> .p (ar en z e (E.val 0) (xs++ys)))) [p]:=by
 intro o ρ C b w c i;simp only[ya,Z4,forall_eq,sE] at b i⊢;obtain⟨E,d,t,n,r,g⟩:=Kc (T':=T') (TY:=o.type) (p:=p) (q:=q) (v:=v) (xs:=xs) l a h1 s m w c i;exact⟨E,d,t,n.imp (λh=>(congrFun b w).trans h) (λh=>⟨(congrFun b w).trans h.1,h.2⟩),r _ (List.mem_singleton.2 rfl),g⟩
def mD{T':TypeId}(p q:Nat)(c:ec P T' e z)(v u:Value)(b:aB)(g: ∀bs,b.sat bs→dQ en u ys bs)(h1: ∀y,∀u∈en y,u.oneCell'=true)(a: ∀y,(en y).length=z.length)(d:xs.length+ys.length≤1000000):MH P (λE=>E.val 0):=
 ⟨[p],ya P p q T' v u (.p (ar en z e v xs)) b (λE=> .p (ar en z e (E.val 0) (xs++ys))),Kl p q c v u b g a h1 d⟩
end
section
variable {P:Program}
def uO(P:Program)(b:TypeId)(n:Nat)(a:List (Nat×Operand))(ρ:Operand→Value):Array Value:=
 ((ZR n).flatMap λi=>match a.find? (λx=>x.1==i) with | some x=>(ρ x.2).cells.toList | none=>(rL P b).toList).toArray
def yb(P:Program)(p n:Nat)(o:Oper)(ρ:Operand→Value)(_:cv):MD:=match o.op with
 | .buildSlice T b a=>⟨[],λE=>[(p,ob (E.y 0) (uO P (P.elem T) n a.toList ρ) (P.elem T))],[sE b n,sE (λw=>(execOp ρ o).run P w) (λw=> .ok (.value (.slice (some ⟨w.heap.size,0,none⟩) n n)) (w.alloc (.cells (uO P (P.elem T) n a.toList ρ) (P.elem T))))]⟩
 | _=>MD.bad
theorem Km(p n:Nat):MD.ok P (λE=> .slice (some ⟨E.y 0,0,none⟩) n n) (yb P p n) []:=by
 intro o ρ C a w c d;unfold yb at a d⊢
 split at a
 ·rename_i T i g b;simp only[b] at d⊢;simp only[Zq,Zo,or_false,forall_eq_or_imp,forall_eq,sE] at a;refine⟨ab.of w.heap.size,λ_=>[(w.heap.size,.cells (uO P (P.elem T) n g.toList ρ) (P.elem T) (0,0))],_,.inl (congrFun a.2 w),λx h=>?_,by simpa using a8.alloc w (.cells (uO P (P.elem T) n g.toList ρ) (P.elem T))⟩;rw[List.mem_singleton.1 h];rfl
 ·exact(bG a).elim
def bs(p n:Nat):MH P (λE=> .slice (some ⟨E.y 0,0,none⟩) n n):=⟨[],yb P p n,Km p n⟩
def yc(P:Program){α:Type}(p:Nat)(en:α→List Value)(z:List Value)(a:TypeId)(o:Oper)(ρ:Operand→Value)(_:cv):MD:=
 ⟨[],λE=>[(p,.p (ar en z a (.slice (some ⟨E.y 0,0,none⟩) 0 0) []))],[sE (λw=>(execOp ρ o).run P w) (λw=> .ok (.value (.slice (some ⟨w.heap.size,0,none⟩) 0 0)) (w.alloc (.cells #[] a)))]⟩
theorem Kn{α:Type}(p:Nat)(en:α→List Value)(z:List Value)(d:TypeId):MD.ok P (λE=> .slice (some ⟨E.y 0,0,none⟩) 0 0) (yc P p en z d) []:=by
 intro o ρ C a w c g;simp only[yc,Z4,forall_eq,sE] at a g⊢;refine⟨ab.of w.heap.size,λ_=>[],_,.inl (congrFun a w),ar.nil _,?_⟩;have:=a8.alloc w (.cells #[] d);exact⟨this.os,this.tape,this.output,this.size,λ_ h=>by simp at h,λ_ h=>by simp at h,by simp,λb i k=>this.far b i (by simp)⟩
def sd{α:Type}(p:Nat)(en:α→List Value)(z:List Value)(a:TypeId):MH P (λE=> .slice (some ⟨E.y 0,0,none⟩) 0 0):=⟨[],yc P p en z a,Kn p en z a⟩
end
section
variable {α:Type} {P:Program} {en:α→List Value} {z:List Value} {e T:TypeId} {v:Value} {xs:List α}
def yd(P:Program)(p:Nat)(x:aB)(v:Value)(l s:Nat)(o:Oper)(ρ:Operand→Value)(_:cv):MD:=match o.op with
 | .slice T a (some b) none none=>⟨[(p,x)],λ_=>[],[sE (ρ a) v,sE (ρ b) (.int .i64 (l:Int)),sE (P.underlying T,jf P (P.elem T)) (some (.slice (P.elem T)),some s)]⟩
 | _=>MD.bad
theorem Ko(p:Nat)(x:aB)(l s:Nat)(h: ∀bs,x.sat bs→ar en z T v xs bs)(D:l≤xs.length):MD.ok P (λ_=>gY v l xs.length s) (yd P p x v l s) []:=by
 intro o ρ C d w c k;unfold yd at d k⊢
 split at d
 ·rename_i i a b g;simp only[g] at k⊢;simp only[Zq,Zo,or_false,forall_eq_or_imp,forall_eq,sE] at d;obtain⟨t,y,n⟩:=d;obtain⟨h1,B⟩:=k.ent;obtain⟨m,r,rfl⟩:=(h _ h1).slice;have q:P.underlying i=some (.slice (P.elem i)):=ALca (·.1) n;have A:(Instr.sliceAt i (.slice m xs.length (xs.length+r)) (some (.int .i64 (l:Int))) none none).run P w= .ok (sliced m l xs.length (xs.length+r) s) w:=by
   rw[run_sliceAt_slice (h:=q),run_slice_l (ht:=q) (kl:= .i64) (l:=(l:Int)) (h0:=by omega) (h1:=by omega),nX (ALca (·.2) n)];simp only[Zl,ZT]
  refine⟨ab.zero,λ_=>[],w,.inl ?_,λx h=>by simp at h,by simpa using a8.refl w⟩;unfold execOp;simp only[g,t,Zy,abd,y,Zm,A,Zl,Zr,gY]
 ·exact(bG d).elim
def Kp(p:Nat)(x:aB)(l s:Nat)(h: ∀bs,x.sat bs→ar en z T v xs bs)(a:l≤xs.length):MH P (λ_=>gY v l xs.length s):=⟨[],yd P p x v l s,Ko p x l s h a⟩
end
section
variable {P:Program}
theorem mA.two{a b:Nat×aB}{c:gB}{w:World}(h:mA [a,b] c w):mA [a] c w∧b.2.sat (c b.1):=by
 have d:=h.has;simp only[Zw,ZJ,aal] at d;exact⟨⟨λx g=>h.sat x (by rw[List.mem_singleton.1 g];simp),by simpa using(⟨λx g=>d.obj x (Zs _ g),(List.pairwise_append.1 d.nd).1⟩:ez (c a.1) w)⟩,h.sat b (by simp)⟩
def ye(P:Program)(p q:Nat)(x:aB)(v:Value)(o:Oper)(ρ:Operand→Value)(C:cv):MD:=match o.op,C p with
 | .store T a b,some (.c [(g,.cells h i (0,0))])=>match kW (ρ a) with
  | some (k,d)=>⟨[(p,ob g h i),(q,x)],λ_=>[(p,ob g (h.setIfInBounds d v) i)],[sE k g,sB (aaw d h.size),sE (ρ b) v,sE ((P.info? T).map (·.size)) (some 1)]⟩
  | none=>MD.bad
 | _,_=>MD.bad
theorem Kq(p q:Nat)(x:aB)(v:Value)(hv: ∀bs,x.sat bs→v.oneCell'=true):MD.ok P (λ_=>undef) (ye P p q x v) [p]:=by
 intro o ρ C d w c k;unfold ye at d k⊢
 split at d
 ·rename_i T a b g s H i D;simp only[i,D] at k⊢
  split at d
  ·rename_i t m n;simp only[n] at k⊢;simp only[Zq,Zo,or_false,forall_eq_or_imp,forall_eq,sE,sB] at d;obtain⟨rfl,y,A,B⟩:=d;obtain⟨l,G⟩:=k.two;obtain⟨F,r⟩:=l.one;refine⟨ab.zero,λ_=>[(t,.cells (s.setIfInBounds m v) H (0,0))],_,.inr ⟨?_,by simp⟩,λz h=>?_,by simpa [F,bN] using a8.setc v r⟩
   ·unfold execOp;simp only[i,m0 n,A,Instr.storeAt,Instr.sureAddr,Zm,Zr,Zl,ur r (aau▸y) (hv _ G) B]
   ·rw[List.mem_singleton.1 h];rfl
  ·exact(bG d).elim
 ·exact(bG d).elim
def fS(p q:Nat)(x:aB)(v:Value)(hv: ∀bs,x.sat bs→v.oneCell'=true):MH P (λ_=>undef):=⟨[p],ye P p q x v,Kq p q x v hv⟩
theorem ar.one{α:Type}{en:α→List Value}{z:List Value}{T:TypeId}{v:Value}{xs:List α}{bs:ay}(h:ar en z T v xs bs):v.oneCell'=true:=by
 obtain⟨a,r,rfl⟩:=h.slice;rfl
end
def TH.cast{P:Program}{a b:Value}(t:TH P a)(h:a=b):TH P b:=⟨t.d,h▸t.h⟩
def Ks(P:Program)(a:Value):TD:=λo ρ=>[sE (λw=>(execOp ρ o).run P w) (λw=> .ok (.value a) w)]
def tk{P:Program}{a v:Value}(h:a=v):TH P v:=⟨Ks P a,λo ρ b w=>by rw[←h];exact congrFun (b _ (List.mem_singleton.2 rfl)) w⟩
theorem oS: ∀(y:UInt8),∀u∈eB y,u.oneCell'=true:=λy u a=>by rw[List.mem_singleton.1 a];rfl
theorem oT:ec Tryz.prog 191 5 [.int .u8 0]:=ec.mk' Kr Kr rfl
end
section
open Go Go.RowKit Go.Shelf
section
variable {α:Type} {P:Program} {en:α→List Value} {v:Value} {xs:List α} {bs:ay} {w:World}
theorem dQ.form(h:dQ en v xs bs): ∃a c,v= .slice a xs.length c:=by
 rcases h with⟨rfl,a,c,rfl⟩ | ⟨g,b,d,t,i,c,rfl,_⟩
 ·exact⟨a,c,rfl⟩
 ·exact⟨_,_,rfl⟩
theorem dQ.some(h:dQ en v xs bs){i:Nat}(b:i<xs.length): ∃(g off:Nat) (cs:Array Value) (t:TypeId) (a:Nat×Nat) (c:Nat),v= .slice (.some ⟨g,off,none⟩) xs.length c∧(g,Obj.cells cs t a)∈bs∧(cs.toList.drop off).take (ak en xs).length=ak en xs:=by
 rcases h with⟨rfl,_⟩ | h
 ·simp at b
 ·exact h
theorem Cv{l:List Value}{off k i:Nat}{d:α}(c:(l.drop off).take (ak en xs).length=ak en xs)(h: ∀x,(en x).length=k)(a:i<xs.length):(l.drop (off+i*k)).take k=en (xs.getD i d):=by
 have g:=fR h (xs:=xs) rfl;have b:(i+1)*k≤xs.length*k:=ZO _ a;rw[ZQ] at b;rw[←uI (d:=d) h a]
 conv=>rhs;rw[←c]
 rw[aaF,aaU,ZH,aaT Om]
theorem Kt{cs:Array Value}{off k i f:Nat}{d:α}{u:Value}(c:(cs.toList.drop off).take (ak en xs).length=ak en xs)(h: ∀x,(en x).length=k)(b:i<xs.length)(hf:f<k)(g:(en (xs.getD i d))[f]? = .some u):cs[off+(i*k+f)]? = .some u:=by
 have a:=ALca (λl=>l[f]?) (Cv (d:=d) c h b);simp only[aaf hf,aax] at a;rw[←Array.getElem?_toList,←aaY,a,g]
theorem Cw{P:Program}{w:World}{g off:Nat}{p T:TypeId}{cs:Array Value}{d:Nat×Nat}{l:List Value}(m:w.heap[g]? = .some (.cells cs p d))(n:(cs.toList.drop off).take l.length=l)(h:dH P T=true)(c:(P.info? T).map (·.size)= .some l.length):(loadVar T ⟨g,off,none⟩).run P w= .ok (.agg l.toArray) w:=by
 have k:(loadCells ⟨g,off,none⟩ l.length).run P w= .ok l.toArray w:=run_loadCells_list (P:=P) w ⟨g,off,none⟩ l (oO m n);cases b:P.info? T with
 | none=>simp [b] at c
 | some i=>
  have o:i.size=l.length:=by simpa [b] using c
  have a:(isAgg T).run P w= .ok true w:=by
   unfold isAgg;unfold dH at h
   split at h
   ·rename_i e;rw[Zm,run_underlying e w];simp
   ·rename_i e;rw[Zm,run_underlying e w];simp
   ·cases h
  simp [loadVar,Zm,a,sizeOf,typeInfo,b,o,k]
theorem Ku(p:Nat)(x:aB)(h: ∀bs,x.sat bs→dQ en v xs bs):MD.ok P (λ_=> .int .i64 (xs.length:Int)) (p4 P p x v) []:=by
 intro o ρ C d w c g;unfold p4 at d g⊢
 split at d
 ·rename_i a t i;simp only[i] at g⊢;simp only[Zq,Zo,or_false,forall_eq_or_imp,forall_eq,sE,sB] at d;obtain⟨l,q⟩:=d;obtain⟨m,y⟩:=g.ent;obtain⟨b,k,rfl⟩:=(h _ m).form;obtain⟨r,s,rfl,n⟩:=Cl q;refine⟨ab.zero,λ_=>[],w,.inl ((congrFun l w).trans (lV ?_)),λx h=>by simp at h,by simpa using a8.refl w⟩;simp [Builtin.len_,run_underlying n,goInt,Zm]
 ·exact(bG d).elim
def Kv(p:Nat)(x:aB)(h: ∀bs,x.sat bs→dQ en v xs bs):MH P (λ_=> .int .i64 (xs.length:Int)):=⟨[],p4 P p x v,Ku p x h⟩
theorem Kw(p:Nat)(x:aB)(i s:Nat)(h: ∀bs,x.sat bs→dQ en v xs bs)(q:i<xs.length):MD.ok P (λ_=>fj v (i*s)) (p6 P p x v i s) []:=by
 intro o ρ C d w c m;unfold p6 at d m⊢
 split at d
 ·rename_i G a b l;simp only[l] at m⊢;simp only[Zq,Zo,or_false,forall_eq_or_imp,forall_eq,sE] at d;obtain⟨B,D,A⟩:=d;obtain⟨y,K⟩:=m.ent;obtain⟨g,off,H,t,I,r,rfl,_⟩:=(h _ y).some q;refine⟨ab.zero,λ_=>[],w,.inl ?_,λx h=>by simp at h,by simpa using a8.refl w⟩;unfold execOp;have F:=bR (P:=P) (w:=w) (g:=g) (off:=off) (n:=xs.length) (c:=r) (k:=i) (s:=s) A q;simp only[l,B,D,Zm,F,Zl,Zr,fj,add_lit]
 ·exact(bG d).elim
def Kx(p:Nat)(x:aB)(i s:Nat)(h: ∀bs,x.sat bs→dQ en v xs bs)(a:i<xs.length):MH P (λ_=>fj v (i*s)):=⟨[],p6 P p x v i s,Kw p x i s h a⟩
theorem Ky(p:Nat)(x:aB)(i k f:Nat){d:α}{u:Value}(h: ∀bs,x.sat bs→dQ en v xs bs)(I: ∀y,(en y).length=k)(r:i<xs.length)(hf:f<k)(K:(en (xs.getD i d))[f]? = .some u):MD.ok P (λ_=>u) (p7 P p x v (i*k+f)) []:=by
 intro o ρ C b w c m;unfold p7 at b m⊢
 split at b
 ·rename_i M a l;simp only[l] at m⊢;simp only[Zq,Zo,or_false,forall_eq_or_imp,forall_eq,sE] at b;obtain⟨q,G⟩:=b;obtain⟨B,D⟩:=m.ent;obtain⟨g,L,s,t,A,N,rfl,H,F⟩:=(h _ B).some r;have n:w.cell? ⟨g,L+(i*k+f),none⟩= .some u:=(cell_of_row w g _ s t A (D.obj _ H)).trans (Kt F I r hf K);refine⟨ab.zero,λ_=>[],w,.inl ?_,λx h=>by simp at h,by simpa using a8.refl w⟩;unfold execOp;simp only[fj,add_lit] at q;simp only[l,q,Instr.loadAt,Instr.sureAddr,Zm,Zr,Zl,rv (congrFun G w) n]
 ·exact(bG b).elim
def Kz(p:Nat)(x:aB)(i k f:Nat){d:α}{u:Value}(h: ∀bs,x.sat bs→dQ en v xs bs)(b: ∀y,(en y).length=k)(a:i<xs.length)(hf:f<k)(c:(en (xs.getD i d))[f]? = .some u):MH P (λ_=>u):=⟨[],p7 P p x v (i*k+f),Ky p x i k f h b a hf c⟩
theorem KA(p:Nat)(x:aB)(i k f:Nat){d:α}{l:List Value}(h: ∀bs,x.sat bs→dQ en v xs bs)(K: ∀y,(en y).length=k)(A:i<xs.length)(hf:f+l.length≤k)(N:((en (xs.getD i d)).drop f).take l.length=l):MD.ok P (λ_=> .agg l.toArray) (m6 P p x v (i*k+f) l.length) []:=by
 intro o ρ C b w c q;unfold m6 at b q⊢
 split at b
 ·rename_i S a m;simp only[m] at q⊢;simp only[Zq,Zo,or_false,forall_eq_or_imp,forall_eq,sE,sB] at b;obtain⟨s,I,M⟩:=b;obtain⟨B,D⟩:=q.ent;obtain⟨g,r,n,t,V,U,rfl,H,G⟩:=(h _ B).some A;refine⟨ab.zero,λ_=>[],w,.inl ?_,λx h=>by simp at h,by simpa using a8.refl w⟩;unfold execOp;simp only[fj,add_lit] at s;have Q:=Cv (d:=d) G K A;have L:(n.toList.drop (r+(i*k+f))).take l.length=l:=by
   have F:(n.toList.drop (r+(i*k+f))).take l.length=(((n.toList.drop (r+i*k)).take k).drop f).take l.length:=by
    rw[aaF,aaU,ZH,←aaY,aaT Om]
   rw[F,Q,N]
  simp only[m,s,Instr.loadAt,Instr.sureAddr,Zm,Zr,Zl,Cw (D.obj _ H) L I M]
 ·exact(bG b).elim
def KB(p:Nat)(x:aB)(i k f:Nat){d:α}{l:List Value}(h: ∀bs,x.sat bs→dQ en v xs bs)(b: ∀y,(en y).length=k)(a:i<xs.length)(hf:f+l.length≤k)(c:((en (xs.getD i d)).drop f).take l.length=l):MH P (λ_=> .agg l.toArray):=⟨[],m6 P p x v (i*k+f) l.length,KA p x i k f h b a hf c⟩
end
end
section
open Go Go.RowKit Go.Shelf
theorem p9{L:aj}(b:List Nat){Os:List ay}(g:b.map (λp=>L[p]?)=Os.map λo=>some (.c o)):je Os.flatten L:=by
 intro x k;obtain⟨o,h,a⟩:=List.mem_flatten.1 k;have d:some (aB.c o)∈b.map (λp=>L[p]?):=by rw[g];exact List.mem_map.2 ⟨o,h,rfl⟩
 obtain⟨p,_,i⟩:=List.mem_map.1 d;exact⟨o,aat i,a⟩
theorem uP: ∀Os:List ay,bt (Os.map .c) Os
 | []=>trivial
 | _::Os=>⟨rfl,uP Os⟩
theorem eD{Q:ay→Prop}{bs:ay}{L L':aj}(b:Q bs)(h: ∀cs,bt L' cs→bt L cs): ∀cs,bt (.c bs::L') cs→bt (.p Q::L) cs
 | [],a=>a.elim
 | d::cs,a=>⟨by rw[show d=bs from a.1];exact b,h cs a.2⟩
theorem atS{x:aB}{L L':aj}(h: ∀cs,bt L' cs→bt L cs): ∀cs,bt (x::L') cs→bt (x::L) cs
 | [],a=>a.elim
 | _::cs,a=>⟨a.1,h cs a.2⟩
theorem aa.v{P:Program}{f:FuncId}{args:Array Value}{rd:aj}{O:List Nat}{wt:ab→aj}{v a:ab→Value}(h:aa P f args rd O wt v)(e: ∀E,v E=a E):aa P f args rd O wt a:=by
 rwa [show a=v from funext λE=>(e E).symm]
section
variable {R:List Nat} {base W W':World} {Os:List ay}
theorem aF.ndC(h:aF R base (Os.map .c) W):Os.flatten.Pairwise λx y=>x.1≠y.1:=by
 obtain⟨d,b,a⟩:=h.conc;rw[sb b] at a;exact a.nd
variable {J:Nat→(Nat→Prop)→World→Prop} {W0 wr:World} {LE:aj} {j:Nat}
structure fB (J:Nat→(Nat→Prop)→World→Prop) (Os:List ay) (W0:World) (j:Nat) (R:List Nat) (base:World):Prop where
 ex: ∃L,fP J Os.flatten W0 L j base∧R=(Os.flatten++L).map (·.1)
def jh(J:Nat→(Nat→Prop)→World→Prop)(Os:List ay)(W0:World)(LE:aj)(j:Nat)(wr:World):Prop:=∃a,bt LE a∧fP J Os.flatten W0 a.flatten j wr
theorem fB.step(h:Hid (fB J Os W0 j R base))(b:gO J)(d:aF R base (Os.map .c++LE) W'):jh J Os W0 LE j W':=by
 obtain⟨L,a,rfl⟩:=h.out.ex;exact a.stepE b (λi g=>by rw[sb g]) d
theorem jh.start(h:jh J Os W0 LE j wr): ∃R,Hid (fB J Os W0 j R wr)∧Hid (aF R wr (Os.map .c++LE) wr):=by
 obtain⟨g,d,b⟩:=h;refine⟨_,Lib.hid ⟨_,b,rfl⟩,Lib.hid ?_⟩;have a:=aF.start (w:=wr) (kx (uP Os) d) (by rw[ZK];exact b.has);rw[ZK] at a;exact a
theorem jh.zero(h:fP J Os.flatten W0 [] 0 W0):jh J Os W0 [] 0 W0:=⟨[],trivial,h⟩
theorem jh.leaf(h:jh J Os W0 LE j wr): ∃L,fP J Os.flatten W0 L j wr:=by
 obtain⟨b,_,a⟩:=h;exact⟨_,a⟩
end
end
section
open Go Go.RowKit Go.Shelf
def aK{α:Type}(en:α→List Value)(v:Value)(xs:List α):ay→Prop:=λbs=>dQ en v xs bs∧∃a r,v= .slice a xs.length (xs.length+r)
section
variable {α:Type} {P:Program} {en:α→List Value} {z:List Value} {T:TypeId} {v:Value} {xs:List α} {bs:ay}
theorem ar.sq(h:ar en z T v xs bs):aK en v xs bs:=⟨h.src,h.slice⟩
theorem aK.drop{k:Nat}(F: ∀y,(en y).length=k)(h:aK en v xs bs){l:Nat}(I:l≤xs.length):aK en (gY v l xs.length k) (xs.drop l) bs:=by
 obtain⟨x,a,r,rfl⟩:=h;have d:(xs.drop l).length=xs.length-l:=ZC;refine⟨?_,?_⟩
 ·by_cases e:l=xs.length
  ·subst e;refine .inl ⟨aar,?_⟩;simp only[gY,sliced,abg];exact⟨_,_,rfl⟩
  ·obtain⟨g,b,n,t,s,c,A,B,C⟩:=x.some (i:=l) Om;injection A with q G H;subst q;refine .inr ⟨g,b+l*k,n,t,s,xs.length+r-l,?_,B,?_⟩
   ·simp only[gY,sliced];rw[ALifn Om,d];simp only[Zy];rw[show(⟨g,b,none⟩:Addr).add (l*k)=⟨g,b+l*k,none⟩ from by unfold Addr.add;split<;>simp_all]
   ·have o:ak en xs=ak en (xs.take l)++ak en (xs.drop l):=by rw[←ky,aaq]
    have p:(ak en (xs.take l)).length=l*k:=by rw[fR F rfl,aad];congr 1;omega
    rw[←ZH];have m:(((n.toList.drop b).take (ak en xs).length).drop (l*k))=(ak en xs).drop (l*k):=ALca (λy=>y.drop (l*k)) C;rw[aaF] at m;have D:(ak en xs).drop (l*k)=ak en (xs.drop l):=by
     conv=>lhs;rw[o]
     rw[←p,List.drop_left]
    rw[D] at m;rw[show(ak en (xs.drop l)).length=(ak en xs).length-l*k by rw[o,Zz,p];omega];exact m
 ·simp only[gY,sliced];exact⟨_,r,by rw[d];congr 1;omega⟩
end
theorem bO{Q b:ay→Prop}{L L':aj}(c: ∀bs,Q bs→b bs)(h: ∀cs,bt L' cs→bt L cs): ∀cs,bt (.p Q::L') cs→bt (.p b::L) cs
 | [],a=>a.elim
 | d::cs,a=>⟨c d a.1,h cs a.2⟩
end
end E
end Go.Proofs.YtbcodenfkijdnaaGreat
