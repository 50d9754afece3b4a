/- WholeChip, in 7 texts: part 1. For every input; no condition. -/
import Derived.Below
import Derived.Laws.OwnMore
import Derived.Deep.Draws
import Derived.Laws.Rows
import Derived.OpenShut
import Derived.Test.YtbcodenfkijdnaaGreatRows
import Derived.WalkKit
import Derived.WalkSpells
import Derived.WalkLawsBesides
import Derived.Lib.Hide
import Derived.RangeFuncNested
import Derived.RangeFuncBound
import Derived.RangeFuncCalls
import Derived.RangeFuncLeaves
import Derived.RangeFuncBox
import Derived.Shelf.Abstract
import Derived.Sort.QuietIn
import Derived.OwnWalkIn
import Derived.StillTail
import Derived.Laws.Small
import Derived.Laws.CopyRow
import Derived.Laws.CopyOwn
import Derived.TacticsInMore
import Derived.WideShapes
import Derived.WideOpen
import Derived.Laws.AppendOwn
import Derived.StillTailTactics
import Derived.LoopNIn
import Derived.LoopIn
import Derived.Laws.StructEq
import Derived.ChangeKeysEq
import Derived.Sort.BigQuietIn
import Derived.Sort.CutIn
import Derived.Lib.Agree
import Derived.Deep.WholeRow
import Derived.Deep.RegionWith
import Derived.Deep.CutRange
import Derived.IntWalk
import Derived.Laws.Append
set_option linter.unusedVariables false
set_option linter.unusedSimpArgs false
set_option maxRecDepth 100000
namespace Go.Proofs.YtbcodenfkijdnaaGreat
open Go.Result renaming andThen_ok→ZJ
open Go.Sem renaming run_bind→ZK,run_pure→ZP
open List renaming getElem?_eq_getElem→ZL,not_mem_nil→ZM,getD_eq_getElem?_getD→ZN,mem_cons→ZO,mem_append_left→ZQ,mem_append_right→ZR,flatMap_cons→ZU,length_append→ZX,take_append_of_le_length→ZY,getElem?_eq_none→ZZ,length_drop→Z0,size_toArray→Z1,getElem?_map→Z3,getElem_of_mem→Z4,drop_drop→Z5,length_cons→Z6,flatMap_nil→Z7,flatten_append→Z8,replicate→aaa,mem_cons_of_mem→aab,getElem_mem→aad,range→aaf,drop_append_of_le_length→aag,length_nil→aai,setIfInBounds_toArray→aaj,pairwise_flatMap→aal,pairwise_iff_getElem→aan,getElem?_eq_none_iff→aao,pairwise_singleton→aap,mem_map_of_mem→aaq,take_length→aar,mem_singleton→aas,getElem?_toArray→aau,length_set→aav,drop_eq_getElem_cons→aay,drop_zero→aaz,flatMap_def→aaA,length_take→aaB,getElem?_take_of_lt→aaD,getElem?_cons_zero→aaF,getElem?_cons_succ→aaG,map_cons→aaI,append_nil→aaJ,take_of_length_le→aaL,flatten_cons→aaM,append_assoc→aaN,take_append_drop→aaO,drop_length→aaP,mem_of_getElem?→aaR,getElem?_range→aaT,getElem?_drop→aaV,sublist_append_left→aaX,length_map→aa0,drop_left'→aa1,drop_take→aa3,replicate_succ→aa4,take_succ_cons→aa5,mem_cons_self→aa6,zip_cons_cons→aa7,ext_getElem?→aba,range'_succ→abd,length→abe,range'→abf,nil_append→abg,take_take→abi,length_eq_zero_iff→abk,pairwise_flatten→abn,getElem?_range'→abr,set_append_left→abt,map_congr_left→abv,drop_succ_cons→abw,length_range'→aby,getElem?_set→abz,length_range→abA,mem_append→abD,headD_cons→abE
open Bool renaming and_eq_true→ZS,or_eq_true→aat,false_eq_true→aaH,noConfusion→abc
open Nat renaming le_refl→ZT,zero_add→ZV,le_trans→Z9,mul_le_mul_right→aac,succ_mul→aae,mod_two_eq_zero_or_one→aak,lt_of_lt_of_le→aam,lt_or_ge→aaw,mod_eq_of_lt→aaC,mul_one→aaE,lt_or_gt_of_ne→aaK,blt_eq→aaS,blt→aaU,add_comm→aa2,min_eq_left→abh,shiftRight_eq_div_pow→abj,add_sub_cancel_left→abl,add_assoc→abm,pow_succ→abo,zero_mul→abp,le_of_ble_eq_true→abq,xor_lt_two_pow→abB,sub_self→abF,sub_zero→abG
open Option renaming map_some→ZW,getD_some→aa8,bind_some→aa9,map_none→abC
open Go.World renaming putObj_heap_other→Z2,alloc_heap_new→aaQ,putObj_heap_same→aaY,putObj→aaZ
open Int renaming toNat_natCast→aah,natCast_nonneg→aaW
open Go.IntKind renaming wrap_u64→aax,wrap_i64→abx
open Classical renaming byContradiction→abb
open UInt8 renaming toNat_ofNat'→abu
section
open Go Go.RowKit
theorem LL:(∀{α:Type} (l:List α) (i:Nat) (a:α),(l.set i a).length=l.length)∧(∀{α:Type} (l m:List α),(l++m).length=l.length+m.length)∧(∀{α:Type} (n:Nat) (a:α),(aaa n a).length=n)∧(∀{α:Type} (a:α) (l:List α),(a::l).length=l.length+1)∧(∀{α:Type},([]:List α).length=0)∧(∀{α β:Type} (f:α→β) (l:List α),(l.map f).length=l.length)∧(∀n:Nat,(aaf n).length=n)∧(∀{α:Type} (i:Nat) (l:List α),(l.take i).length=min i l.length)∧(∀{α:Type} (i:Nat) (l:List α),(l.drop i).length=l.length-i):=by simp
abbrev z6:List UInt8:=aaa 64 0
theorem Kr{p:Prop}(h:p:=by kernel_rfl):p:=h
theorem ALifn.{u} {c:Prop} [h:Decidable c] (g: ¬c) {α:Sort u} {t e:α}:ite c t e=e:=if_neg g
theorem ALifp.{u} {c:Prop} [h:Decidable c] (g:c) {α:Sort u} {t e:α}:ite c t e=t:=if_pos g
theorem ALcf.{u} {α:Type u} (a b:α):cond false a b=b:=rfl
theorem ALct.{u} {α:Type u} (a b:α):cond true a b=a:=rfl
theorem ALca.{u,v} {α:Sort u} {β:Sort v} {a b:α} (f:α→β) (h:a=b):f a=f b:=congrArg f h
theorem a8{p:Prop}[h:Decidable p](g: ¬p):decide p=false:=decide_eq_false g
theorem cd{p:Prop}[h:Decidable p](g:p):decide p=true:=decide_eq_true g
theorem dj{α:Type}[BEq α][LawfulBEq α]{a b:α}:(a==b)=false↔a≠b:=beq_eq_false_iff_ne
theorem Om{p:Prop}(h:p:=by omega):p:=h
theorem Dc{p:Prop}(h:p:=by decide):p:=h
theorem As{p:Prop}(h:p:=by assumption):p:=h
theorem a9{p:Prop}(h:p:=by rfl):p:=h
end
section
open Go.RowKit

end
section
open Go.RowKit
def mE(w:World)(g:Nat)(t:TypeId)(cs:Array Value):Prop:=w.heap[g]? =some (.cells cs t (0,0))
section
variable {w w':World} {g:Nat} {t:TypeId} {cs:Array Value}
theorem mE.cell(h:mE w g t cs)(i:Nat):w.cell? ⟨g,i,none⟩=cs[i]? :=cell_of_row w g i cs t (0,0) h
theorem mE.frozen(h:mE w g t cs)(i:Nat):w.frozen? ⟨g,i,none⟩=false:=by
 unfold mE at h;simp [World.frozen?,h]
end
end
def ey:Nat→Nat→Nat
 | 0,_=>0
 | k+1,n=>n%2+ey k (n/2)
def pc(n:Nat):Nat:=ey 64 n
theorem xi(k:Nat):ey k 0=0:=by
 induction k with
 | zero=>rfl
 | succ k ih=>rw[ey];simpa using ih
theorem II(k:Nat): ∀n,n<2^k→∀d,ey (k+d) n=ey k n:=by
 induction k with
 | zero=>
  intro n a d;obtain rfl:n=0:=by omega
  rw[xi,xi]
 | succ k ih=>
  intro n a d;rw[show k+1+d=(k+d)+1 from by omega,ey,ey,ih (n/2) (by rw[abo] at a;omega) d]
theorem ue(k n:Nat)(a:n<2^k)(b:k≤64):ey k n=pc n:=by
 have:=II k n a (64-k);rw[show k+(64-k)=64 from by omega] at this;exact this.symm
theorem xj:pc 0=0:=xi 64
theorem Bp(k n:Nat):ey k n≤k:=by
 induction k generalizing n with
 | zero=>exact ZT 0
 | succ k ih=>rw[ey];have:=ih (n/2);omega
theorem xk(n:Nat):pc n≤64:=Bp 64 n
theorem IJ(a b:Nat):(a&&& b)/2=(a/2)&&& (b/2):=by
 have:=@Nat.shiftRight_and_distrib 1 a b;simpa [abj] using this
theorem IK(a b:Nat):(a^^^b)/2=(a/2)^^^(b/2):=by
 have:=@Nat.shiftRight_xor_distrib 1 a b;simpa [abj] using this
theorem IL(a b:Nat):(a&&& b)%2=(a%2)*(b%2):=by
 have h:=@Nat.and_mod_two_pow a b 1;rw[Nat.pow_one] at h;rw[h];rcases aak a with c | c<;>rcases aak b with d | d<;>rw[c,d]<;>rfl
theorem xl(a b:Nat):(a^^^b)%2=(a%2+b%2)%2:=by
 have h:=@Nat.xor_mod_two_pow a b 1;rw[Nat.pow_one] at h;rw[h];rcases aak a with c | c<;>rcases aak b with d | d<;>rw[c,d]<;>rfl
theorem IM(k:Nat): ∀x,0<x→x<2^k→ey k x=ey k (x&&& (x-1))+1:=by
 induction k with
 | zero=>intro x c h;omega
 | succ k ih=>
  intro x c h;rw[ey,ey,IJ,IL];rw[abo] at h;rcases aak x with b | b
  ·have a:(x-1)/2=x/2-1:=by omega
   rw[a,b,abp,ZV,ZV,ih (x/2) Om Om]
  ·have a:(x-1)/2=x/2:=by omega
   have d:(x-1)%2=0:=by omega
   rw[a,d,b,Nat.and_self];omega
theorem Bq(x:Nat)(h0:0<x)(h:x<2^64):pc x=pc (x&&& (x-1))+1:=IM 64 x h0 h
def eX:Nat→Nat→Nat→List Nat
 | 0,_,_=>[]
 | k+1,i,x=>if x%2=1 then i::eX k (i+1) (x/2) else eX k (i+1) (x/2)
theorem IN(k i x:Nat):(eX k i x).length=ey k x:=by
 induction k generalizing i x with
 | zero=>rfl
 | succ k ih=>
  rw[eX,ey]
  split
  ·rename_i h;rw[Z6,ih,h];omega
  ·rename_i h;rw[ih,show x%2=0 from by omega,ZV]
theorem xm(k:Nat): ∀i x p,p∈eX k i x→i≤p∧p<i+k∧x/2^(p-i)%2=1:=by
 induction k with
 | zero=>intro i x p h;cases h
 | succ k ih=>
  intro i x p h;have a:p∈eX k (i+1) (x/2)→i≤p∧p<i+(k+1)∧x/2^(p-i)%2=1:=by
   intro h;obtain⟨d,e,b⟩:=ih _ _ _ h;refine⟨by omega,by omega,?_⟩;rw[show p-i=(p-(i+1))+1 from by omega,abo,Nat.mul_comm,←Nat.div_div_eq_div_mul];exact b
  rw[eX] at h
  split at h
  ·rename_i c;rcases List.mem_cons.1 h with rfl | h
   ·refine⟨ZT _,by omega,?_⟩;rw[abF,Nat.pow_zero,Nat.div_one];exact c
   ·exact a h
  ·exact a h
theorem IP(k:Nat): ∀i x,(eX k i x).Pairwise (· < ·):=by
 induction k with
 | zero=>intro i x;exact List.Pairwise.nil
 | succ k ih=>
  intro i x;rw[eX]
  split
  ·refine List.Pairwise.cons (λp a=>?_) (ih _ _);have:=(xm k _ _ p a).1;omega
  ·exact ih _ _
def bj(x:Nat):List Nat:=eX 64 0 x
section
open Go.RowKit

end
section
open Go.RowKit

end
section
open Go Go.RowKit
structure e7 (S:Nat→Prop) (W W':World):Prop where
 os:W'.os=W.os
 tape:W'.tape=W.tape
 output:W'.output=W.output
 size:W.heap.size≤W'.heap.size
 same: ∀b,b<W.heap.size→¬S b→W'.heap[b]? =W.heap[b]?
structure Zk (K:Nat→Prop) (W W':World):Prop where
 size:W.heap.size≤W'.heap.size
 same: ∀b,K b→W'.heap[b]? =W.heap[b]?
theorem e7.mono{S a:Nat→Prop}{W c:World}(h:e7 S W c)(hs: ∀b,S b→a b):e7 a W c:=⟨h.os,h.tape,h.output,h.size,λb d f=>h.same b d (λe=>f (hs b e))⟩
theorem e7.alloc(S:Nat→Prop)(W:World)(o:Obj):e7 S W (W.alloc o):=
 ⟨rfl,rfl,rfl,by simp,λb a _=>Below.heap_alloc W o b a⟩
theorem e7.putObj{S:Nat→Prop}(W:World){l:Nat}(c:S l)(o:Obj):e7 S W (W.putObj l o):=
 ⟨(grownBy_putObj' W l o).os,(grownBy_putObj' W l o).tape,(grownBy_putObj' W l o).output,(grownBy_putObj' W l o).size,λb a d=>(grownBy_putObj' W l o).block b a (λe=>by cases e;exact d c)⟩
theorem e7.heap{S:Nat→Prop}{W c:World}(h:e7 S W c){b:Nat}(hp: ¬S b){o:Obj}(d:W.heap[b]? =some o):c.heap[b]? =some o:=by
 have a:b<W.heap.size:=(Array.getElem?_eq_some_iff.1 d).1;exact(h.same _ a hp).trans d
end
section
open Go Go.RowKit
structure Zl (K O O':Nat→Prop) (W W':World):Prop where
 size:W.heap.size≤W'.heap.size
 old: ∀b,b<W.heap.size→O' b→O b
 new: ∀b,O' b→b<W'.heap.size
 cells: ∀b o,O' b→W'.heap[b]? =some o→o.isCells=false→∃o':Obj,W.heap[b]? =some o'∧o'.isCells=false
 keep: ∀b,b<W.heap.size→(¬O b∨K b)→W'.heap[b]? =W.heap[b]?
def gO(J:Nat→(Nat→Prop)→World→Prop):Prop:=∀i O W a,J i O W→e7 (λb=>¬O b) W a→J i O a
end
section
open Go Go.RowKit Go.Shelf
structure Zm (g0:Nat) (O:Nat→Prop) (W:World):Prop where
 non: ¬O g0
 lt: ∀b,O b→b<W.heap.size
 cells: ∀b o,g0≤b→O b→W.heap[b]? =some o→o.isCells=true
end
section
open Go Go.RowKit

end
section
open Go
section
variable {F:Fence} {n:Nat} {P:Program} {ops:Array Oper} {md:Region.Mode} {C:World→Prop}
def mF(o:Oper):Bool:=match o.op with | .defer _=>false | _=>true
theorem Br{o:Oper}(h:mF o=true): ∀c,o.op≠ .defer c:=by
 intro c a;unfold mF at h;rw[a] at h;exact abc (show false=true from h)
end
end
section
open Go
section
variable {F:Fence} {n:Nat} {P:Program} {md:Region.Mode} {C:World→Prop}
def m7(md:Region.Mode)(ops:Array Oper)(N:Nat):Bool:=
 (aaf ops.size).all λt=>decide (t<N)||((ops[t]?).map (·.after.all λe=> !Region.binds md e||decide (e.on<t))).getD false
theorem xn{ops:Array Oper}{N:Nat}{Q:Exit→Act→World→Prop}(Z:Region.chainB md ops N=true)(Y:m7 md ops N=true): ∀(r k c:Nat) (b:Array Bool) (a:Act) (w:World),
  ops.size=k+r→N≤k→r≤c→b.size=ops.size→(∀i,i<k→b.getD i true=true)→(∀i,i<k→b.getD i false=true)→(∀i,k≤i→i<ops.size→b.getD i true=false)→
  wpListIn F n P ops Q (ops.toList.drop k) a w→wpAnyIn F n P md ops Q c b a w
 | 0,k,c,b,a,w,hr,hN,hf,l,I,v,K,h=>by
  have g:Region.ready md ops b=[]:=by
   apply List.eq_nil_iff_forall_not_mem.2;intro j R;obtain⟨m,o,J,_⟩:=mem_ready.1 R;have p:j<ops.size:=(Array.getElem?_eq_some_iff.1 J).1;rw[I j Om] at m;cases m
  have hd:ops.toList.drop k=[]:=List.drop_eq_nil_iff.2 (by rw[Array.length_toList];omega);rw[hd] at h;cases c with
  | zero=>exact⟨g,h⟩
  | succ f=>exact⟨λ_=>h,λi D=>by rw[g] at D;cases D⟩
 | r+1,k,c,b,a,w,hr,hN,hf,l,I,v,K,h=>by
  obtain⟨f,rfl⟩: ∃f,c=f+1:=⟨c-1,by omega⟩;have y:k<ops.size:=by omega
  have T:k<ops.toList.length:=by rw[Array.length_toList];exact y
  rw[aay T] at h;have x:ops[k]? =some ops.toList[k]:=by rw[Array.getElem?_eq_getElem y,Array.getElem_toList]
  have M:=List.all_eq_true.1 Y k (List.mem_range.2 y);rw[x] at M;simp only[aat,decide_eq_true_eq,ZW,aa8] at M;have t: ∀e∈ops.toList[k].after,Region.binds md e=true→e.on<k:=by
   intro e B d;rcases M with m | m
   ·omega
   ·have s:=Array.all_eq_true'.1 m e B;rw[d] at s;simpa using s
  have G:k∈Region.ready md ops b:=mem_ready.2 ⟨K k (ZT _) y,_,x,λe B d=>v _ (t e B d)⟩;refine⟨λh0=>(by rw[h0] at G;cases G),λj R=>?_⟩;obtain⟨m,o,J,A⟩:=mem_ready.1 R;have p:j<ops.size:=(Array.getElem?_eq_some_iff.1 J).1;have S:j=k:=by
   rcases Nat.lt_trichotomy j k with s | s | s
   ·rw[I j s] at m;cases m
   ·exact s
   ·exfalso;have z:=List.all_eq_true.1 Z j (List.mem_range.2 p);simp only[aat,decide_eq_true_eq] at z;rcases z with z | z
    ·omega
    ·obtain⟨o',U,e,B,d,V⟩:=Region.waitsFor_spec z;have:o'=o:=Option.some.inj (U.symm.trans J);subst this;have X:=A e B d;rw[V,getD_both (K (j-1) Om Om)] at X;cases X
  subst S;unfold wpOpIn;simp only[x];have q: ∀H L,wpListIn F n P ops Q (ops.toList.drop (j+1)) H L→wpAnyIn F n P md ops Q f (b.setIfInBounds j true) H L:=λH L h'=>by
   refine xn Z Y r (j+1) f _ H L Om Om Om (by simp [l]) ?_ ?_ ?_ h'
   ·intro i D;by_cases u:i=j
    ·subst u;simp [l,y]
    ·rw[getD_set_ne true Om];exact I i Om
   ·intro i D;by_cases u:i=j
    ·subst u;simp [l,y]
    ·rw[getD_set_ne false Om];exact v i Om
   ·intro i D O;rw[getD_set_ne true Om];exact K i Om O
  simp only[wpListIn] at h
  split
  ·rename_i W;simp only[W,if_true] at h;exact Oper.wpIn_mono q h
  ·rename_i W;simp only[W] at h;exact⟨h.1,q _ _ h.2⟩
end
end
section
open Go Go.RowKit Go.Shelf
def bp(xs:Nat→Value):List Oper→Nat→Act→Act
 | [],_,a=>a
 | o::os,k,a=>bp xs os (k+1) (a.put o.dst (xs k))
def uf(x y:Option Tmp):Bool:=match x,y with | some a,some b=>a != b | _,_=>true
def mG:List Oper→Bool
 | []=>true
 | o::os=>(os.all λp=>uf o.dst p.dst)&&mG os
theorem IQ{x y:Option Tmp}(h:uf x y=true): ∀d,x=some d→y≠some d:=by
 rintro d rfl rfl;simp [uf] at h
theorem IS(a:Act)(x:Option Tmp)(v u:Value):(a.put x v).put x u=a.put x u:=by
 cases x with
 | none=>rfl
 | some d=>simp [Act.put]
theorem xp{xs ys:Nat→Value}: ∀(l:List Oper) (k:Nat) (a:Act),(∀j,k≤j→j<k+l.length→xs j=ys j)→bp xs l k a=bp ys l k a
 | [],_,_,_=>rfl
 | o::os,k,a,h=>by
  unfold bp;rw[h k (ZT _) (by rw[Z6];omega)];exact xp os (k+1) _ λj c d=>h j Om (by rw[Z6];omega)
theorem Bs{xs:Nat→Value}(x:Option Tmp)(v:Value): ∀(l:List Oper) (k:Nat) (a:Act),(l.all λp=>uf x p.dst)=true→(bp xs l k a).put x v=bp xs l k (a.put x v)
 | [],_,_,_=>rfl
 | o::os,k,a,h=>by
  simp only[List.all_cons,ZS] at h;unfold bp;rw[Bs x v os (k+1) _ h.2,Act.put_comm a v (xs k) (IQ h.1)]
theorem rz{xs:Nat→Value}(v:Value): ∀(l:List Oper) (k:Nat) (a:Act) (i:Nat) (o:Oper),mG l=true→l[i]? =some o→
  (bp xs l k a).put o.dst v=bp (λj=>if j=k+i then v else xs j) l k a
 | [],_,_,i,_,_,h=>by simp at h
 | p::os,k,a,0,o,c,h=>by
  simp only[mG,ZS] at c;simp only[aaF,Option.some.injEq] at h;subst h;unfold bp;rw[Bs _ _ _ _ _ c.1,IS,ALifp (show k=k+0 from rfl)];exact xp os (k+1) _ λj d _=>by rw[ALifn Om]
 | p::os,k,a,i+1,o,c,h=>by
  simp only[mG,ZS] at c;rw[aaG] at h;unfold bp;rw[rz v os (k+1) _ i o c.2 h,ALifn Om];exact xp os (k+1) _ λj _ _=>by rw[show k+1+i=k+(i+1) by omega]
def j8(l:List Oper)(a:Act)(j:Nat):Value:=match (l[j]?).bind (·.dst) with | some d=>a.tmps.getD d undef | none=>undef
theorem IT(a:Act)(x:Option Tmp)(v:Value)(h: ∀d,x=some d→a.tmps.getD d undef=v):a.put x v=a:=by
 cases x with
 | none=>rfl
 | some d=>
  have:=h d rfl;subst this;have e:a.tmps.setIfInBounds d (a.tmps.getD d undef)=a.tmps:=by
   rcases aaw d a.tmps.size with h | h
   ·apply Array.ext_getElem?;intro i;rw[Array.getElem?_setIfInBounds]
    split
    ·rename_i e;subst e;simp [h]
    ·rfl
   ·exact Array.setIfInBounds_eq_of_size_le h
  show({a with tmps:=a.tmps.setIfInBounds d (a.tmps.getD d undef)}:Act)=a;rw[e]
theorem xq{xs:Nat→Value}: ∀(l:List Oper) (k:Nat) (a:Act),(∀i o d,l[i]? =some o→o.dst=some d→xs (k+i)=a.tmps.getD d undef)→bp xs l k a=a
 | [],_,_,_=>rfl
 | o::os,k,a,h=>by
  unfold bp;rw[IT a o.dst (xs k) (λd c=>(h 0 o d rfl c).symm)];exact xq os (k+1) a λi p d e c=>by rw[←h (i+1) p d (by simpa using e) c];congr 1;omega
def ug(c:Region.Mode)(ops:Array Oper)(N:Nat)(D:Nat→List Nat):Bool:=
 (aaf N).all λi=>(D i).all λj=>decide (j<N)&&((ops[i]?).map λo=>o.after.any λe=>Region.binds c e&&(e.on==j||(decide (e.on<N)&&(D e.on).contains j))).getD false
def gV(c:Array Bool):Nat→Nat
 | 0=>0
 | k+1=>gV c k+if c.getD k true=true then 0 else 1
theorem Bt{c:Array Bool}{i:Nat}: ∀k,k≤i→gV (c.setIfInBounds i true) k=gV c k
 | 0,_=>rfl
 | k+1,h=>by
  unfold gV;rw[Bt k Om,getD_set_ne true Om]
theorem xr{c:Array Bool}{i:Nat}(f:c.getD i true=false): ∀k,i<k→gV (c.setIfInBounds i true) k+1=gV c k
 | 0,h=>by omega
 | k+1,h=>by
  unfold gV;by_cases e:i=k
  ·subst e;have g:(c.setIfInBounds i true).getD i true=true:=by
    rcases aaw i c.size with d | d
    ·simp [d]
    ·simp [Array.getElem?_eq_none d] at f
   rw[Bt i (ZT _),f,g];simp
  ·rw[getD_set_ne true e,←xr f k Om];omega
theorem xu{c:Array Bool}: ∀k,gV c k=0→∀i,i<k→c.getD i true=true
 | 0,_,_,f=>by omega
 | k+1,h,i,f=>by
  unfold gV at h;by_cases e:i=k
  ·subst e;by_cases d:c.getD i true=true
   ·exact d
   ·rw[ALifn d] at h;omega
  ·exact xu k Om i Om
section
variable {F:Fence} {n:Nat} {P:Program}
structure Zn (F:Fence) (n:Nat) (P:Program) (L:List Oper) (N:Nat) (Q:Exit→Act→World→Prop) (V:Nat→Value→World→Prop) (R:World→World→Prop) (D:Nat→List Nat) (a:Act) (w:World) (k:Nat) (o:Oper):Prop where
 out: ∀(xs:Nat→Value) (w':World),(∀j∈D k,V j (xs j) w')→R w w'→∀K:Value→World→Prop,(∀v w'',V k v w''→R w' w''→K v w'')→
  if Region.wanted o (yielded L.toArray (bp xs (L.take N) 0 a).tmps)=true then o.wpIn F n P (bp xs (L.take N) 0 a) w' (λa'' w''=>∃v,a''=(bp xs (L.take N) 0 a).put o.dst v∧K v w'') Q
  else(∀f,o.about P w' (bp xs (L.take N) 0 a).eval=some f→F.fn f)∧K undef w'
def Fence.free(F:Fence):Prop:=F.depth=none∧∀f,F.fn f
theorem Bu:Fence.free Fence.wide:=⟨rfl,λ_=>trivial⟩
theorem Bv(l:Nat):Fence.free (Fence.wide.inRound l):=⟨rfl,λ_=>trivial⟩
section
variable {L:List Oper} {N:Nat} {Q:Exit→Act→World→Prop} {V:Nat→Value→World→Prop} {R:World→World→Prop} {D:Nat→List Nat} {a:Act} {w:World} {k:Nat} {o:Oper}
structure Zo (L:List Oper) (N:Nat) (V:Nat→Value→World→Prop) (R:World→World→Prop) (D:Nat→List Nat) (a:Act) (w:World) (k:Nat) (o:Oper):Prop where
 out: ∀(xs:Nat→Value) (w':World),(∀j∈D k,V j (xs j) w')→R w w'→Region.wanted o (yielded L.toArray (bp xs (L.take N) 0 a).tmps)=true
end
end
def fL(t:Nat):List Oper→Nat→Option Nat
 | [],_=>none
 | o::os,k=>match fL t os (k+1) with
  | some i=>some i
  | none=>match o.dst with
   | some d=>if d==t then some k else none
   | none=>none
theorem IU(a:Act)(x:Option Tmp)(v:Value)(t:Nat):(a.put x v).eval (.tmp t)=if x=some t then(if t<a.tmps.size then v else undef) else a.eval (.tmp t):=by
 cases x with
 | none=>rfl
 | some d=>
  by_cases e:d=t
  ·subst e;rw[ALifp rfl];by_cases h:d<a.tmps.size
   ·simp [Act.put,Act.eval,h]
   ·rw[ALifn h];simp [Act.put,Act.eval];exact λc=>absurd c h
  ·rw[ALifn (λh=>e (Option.some.inj h))];simp [Act.put,Act.eval,Array.getElem?_setIfInBounds_ne e]
theorem xv(a:Act)(x:Option Tmp)(v:Value):(a.put x v).tmps.size=a.tmps.size:=by cases x<;>simp [Act.put]
theorem uh{xs:Nat→Value}(t:Nat): ∀(l:List Oper) (k:Nat) (a:Act),(bp xs l k a).eval (.tmp t)=match fL t l k with
  | some i=>if t<a.tmps.size then xs i else undef
  | none=>a.eval (.tmp t)
 | [],_,_=>rfl
 | o::os,k,a=>by
  unfold bp fL;rw[uh t os (k+1) _,xv];cases h:fL t os (k+1) with
  | some i=>rfl
  | none=>
   simp only;rw[IU];cases c:o.dst with
   | none=>rfl
   | some d=>
    by_cases e:d=t
    ·subst e;simp
    ·rw[ALifn (λh=>e (Option.some.inj h))];have:(d==t)=false:=by simpa using e
     simp [this]
theorem Bw{xs:Nat→Value}{l:List Oper}{a:Act}{t i:Nat}(h:fL t l 0=some i)(ht:aaU t a.tmps.size=true):(bp xs l 0 a).eval (.tmp t)=xs i:=by
 rw[uh,h];exact ALifp (aaS▸ht)
theorem IV{L:List Oper}{N:Nat}{a:Act}{xs:Nat→Value}{o:Oper}{j d:Nat}{b e:Bool}(m:o.guard=some (j,b))(l:(L.toArray[j]?).bind (·.dst)=some d)(p:fL d (L.take N) 0=some j)(hs:aaU d a.tmps.size=true)(hv:xs j= .bool e):
  Region.wanted o (yielded L.toArray (bp xs (L.take N) 0 a).tmps)=(e==b):=by
 have g:=Bw (xs:=xs) (a:=a) p hs;rw[hv] at g;have f:d<(bp xs (L.take N) 0 a).tmps.size:=by
  rcases aaw d (bp xs (L.take N) 0 a).tmps.size with h | h
  ·exact h
  ·exfalso;have c:(bp xs (L.take N) 0 a).tmps.getD d undef= .bool e:=g;rw[Array.getD_eq_getD_getElem?,Array.getElem?_eq_none h] at c;cases c
 have c:(bp xs (L.take N) 0 a).tmps.getD d undef= .bool e:=g;rw[Array.getD_eq_getD_getElem?,Array.getElem?_eq_getElem f] at c;have i:(bp xs (L.take N) 0 a).tmps[d]= .bool e:=c;unfold Region.wanted yielded;rw[m];simp only[l,aa9,Array.getElem?_eq_getElem f,i];cases b<;>cases e<;>rfl
theorem IW{L:List Oper}{N:Nat}{a:Act}{xs:Nat→Value}{o:Oper}{j d:Nat}{b:Bool}(i:o.guard=some (j,b))(g:(L.toArray[j]?).bind (·.dst)=some d)(l:fL d (L.take N) 0=some j)(hs:aaU d a.tmps.size=true)(hv:xs j=undef):
  Region.wanted o (yielded L.toArray (bp xs (L.take N) 0 a).tmps)=false:=by
 have f:=Bw (xs:=xs) (a:=a) l hs;rw[hv] at f;have c:(bp xs (L.take N) 0 a).tmps.getD d undef=undef:=f;unfold Region.wanted yielded;rw[i];simp only[g,aa9];rcases aaw d (bp xs (L.take N) 0 a).tmps.size with h | h
 ·rw[Array.getD_eq_getD_getElem?,Array.getElem?_eq_getElem h] at c;have e:(bp xs (L.take N) 0 a).tmps[d]=undef:=c;rw[Array.getElem?_eq_getElem h,e];rfl
 ·rw[Array.getElem?_eq_none h];rfl
section
variable {P:Program} {ρ:Operand→Value} {o:Oper} {w w':World}
theorem pV{c x y:Operand}{b:Bool}{v:Value}(e:o.op= .pick c x y)(d:ρ c= .bool b)(hv:(if b then ρ x else ρ y)=v):(execOp ρ o).run P w= .ok (.value v) w:=by
 unfold execOp;subst hv;cases b<;>simp [e,d,asBool]
end
section
variable {P:Program} {T:TypeId} {x y:Operand} {k:IntKind} {a b:Int} {w:World}
end
theorem Bx{P:Program}(w:World)(g off:Nat)(t f:TypeId)(cs:Array Value)(l:List Value){d:TypeDesc}(s:w.heap[g]? =some (.cells cs t (0,0)))(A:(cs.toList.drop off).take l.length=l)
  (H:P.underlying f=some d) (I:(match d with | .struct _ | .array _ _=>true | _=>false)=true) (p:(P.info? f).map (·.size)=some l.length):(loadVar f ⟨g,off,none⟩).run P w= .ok (.agg l.toArray) w:=by
 have r:(loadCells ⟨g,off,none⟩ l.length).run P w= .ok l.toArray w:=
  run_loadCells_list (P:=P) w ⟨g,off,none⟩ l (λj v q=>by
   have c:(⟨g,off,none⟩:Addr).add j=⟨g,off+j,none⟩:=by unfold Addr.add;split<;>simp_all
   rw[c,cell_of_row w g (off+j) cs t (0,0) s];have u:j<l.length:=(List.getElem?_eq_some_iff.1 q).1;have m:=ALca (λz=>z[j]?) A;simp only[aaD u,aaV] at m;rw[←Array.getElem?_toList,m];exact q)
 cases h:P.info? f with
 | none=>simp [h] at p
 | some i=>
  have C:i.size=l.length:=by simpa [h] using p
  have e:(isAgg f).run P w= .ok true w:=by
   unfold isAgg;rw[ZK,run_underlying H w];cases d<;>simp_all
  simp [loadVar,ZK,e,sizeOf,typeInfo,h,C,r]
inductive rA (R:World→World→Prop):List (Value→World→Prop)→Prop
 | nil:rA R []
 | const {l:List (Value→World→Prop)} (c:Value) (h:rA R l):rA R ((λv _=>v=c)::l)
 | cons {l:List (Value→World→Prop)} {p:Value→World→Prop} (hp: ∀v x y,p v x→R x y→p v y) (h:rA R l):rA R (p::l)
end
section
open Go Go.RowKit
abbrev ay:=List (Nat×Obj)
structure Zp (B:Nat) (base:World) (L:ay) (W:World):Prop where
 obj: ∀x∈L,W.heap[x.1]? =some x.2
 nd:L.Pairwise (λx y=>x.1≠y.1)
 lo: ∀x∈L,B≤x.1
 os:W.os=base.os
 tape:W.tape=base.tape
 output:W.output=base.output
 size:base.heap.size≤W.heap.size
 far: ∀b,b<base.heap.size→(∀x∈L,x.1≠b)→W.heap[b]? =base.heap[b]?
section
variable {B:Nat} {base W W':World} {L L':ay}
end
class By (F:Fence):Prop where
 out:Fence.free F
instance:By Fence.wide:=⟨Bu⟩
instance (l:Nat):By (Fence.wide.inRound l):=⟨Bv l⟩
section
variable {F:Fence} {n:Nat} {P:Program} {ops:Array Oper} {Q:Exit→Act→World→Prop} {a:Act} {W W':World} {rest:List Oper} {o:Oper} {B G:Nat} {base:World} {L:ay}
theorem rC{w:World}{T:TypeId}{p:Addr}{v:Value}(c:(isAgg T).run P w= .ok false w)(d:w.cell? p=some v):(loadVar T p).run P w= .ok v w:=by
 unfold loadVar;rw[ZK,c,ZJ];simp [d]
end
end
section
open Go Go.RowKit Go.Shelf
section
variable {B:Nat} {base W W':World} {L L':ay}
end
abbrev j9(D:Nat):Deferred:={target:= .collected D,args:=#[]}
abbrev dP(D:Nat):Nat×Obj:=(D,.deferred (some []))
theorem IX{P:Program}{t e:TypeId}{n:Nat}{cs:Array Value}{k:IntKind}{i:Nat}{v:Value}{w:World}(h:P.underlying t=some (.array n e))(j:i<n)(d: ∀w,(isAgg e).run P w= .ok false w)(c:(P.info? e).map (·.size)=some 1)(hv:cs[i]? =some v):
  (Instr.index t (.agg cs) (.int k (i:Int))).run P w= .ok v w:=by
 cases f:P.info? e with
 | none=>simp [f] at c
 | some g=>
  have l:g.size=1:=by simpa [f] using c
  unfold Instr.index;simp [asIntOf,ZK,run_underlying h,sizeOf,typeInfo,f,l,part,d,hv,j]
end
section
open Go Go.RowKit

end
section
open Go Go.RowKit
section
variable {F:Fence} {n:Nat} {P:Program} {ops:Array Oper} {Q:Exit→Act→World→Prop} {a:Act} {W W':World} {rest:List Oper} {o:Oper} {B G:Nat} {base:World} {L:ay}
end
section
variable {P:Program} {w:World} {o:Oper} {ρ:Operand→Value}
end
section
variable {F:Fence} {n:Nat} {P:Program} {ops:Array Oper} {Q:Exit→Act→World→Prop} {a:Act} {W:World} {rest:List Oper} {o:Oper}
end
end
section
open Go Go.RowKit
section
variable {P:Program} {T:TypeId} {x y:Operand} {a b:Int} {w:World}
theorem rE(h0: -9223372036854775808≤a+b)(h1:a+b≤9223372036854775807):(do eqGuard .add T x y (.int .i64 a) (.int .i64 b);Go.binOp .add T (.int .i64 a) (.int .i64 b):Sem Value).run P w= .ok (.int .i64 (a+b)) w:=by
 simp [eqGuard,Go.binOp,Op.intArith,IntWalk.i64_in _ (And.intro h0 h1)]
theorem rG(h0: -9223372036854775808≤a-b)(h1:a-b≤9223372036854775807):(do eqGuard .sub T x y (.int .i64 a) (.int .i64 b);Go.binOp .sub T (.int .i64 a) (.int .i64 b):Sem Value).run P w= .ok (.int .i64 (a-b)) w:=by
 simp [eqGuard,Go.binOp,Op.intArith,IntWalk.i64_in _ (And.intro h0 h1)]
theorem IY(h0: -9223372036854775808≤a*b)(h1:a*b≤9223372036854775807):(do eqGuard .mul T x y (.int .i64 a) (.int .i64 b);Go.binOp .mul T (.int .i64 a) (.int .i64 b):Sem Value).run P w= .ok (.int .i64 (a*b)) w:=by
 simp [eqGuard,Go.binOp,Op.intArith,IntWalk.i64_in _ (And.intro h0 h1)]
end
section
variable {P:Program} {d:Nat} {xs ys:Array Value} {f:Field} {fs:List Field} {w:World} {r e:Bool} {a b:Int}
end
section
variable {P:Program} {w:World} {o:Oper} {ρ:Operand→Value}
def aP(x:Int):UInt8:=UInt8.ofNat (x%256).toNat
theorem IZ(x:Int):((aP x).toNat:Int)=x%256:=by
 unfold aP;rw[abu];omega
theorem oJ{S T:TypeId}(c:P.underlying S=some (.int .i64))(h:P.underlying T=some (.int .u8)){x:Int}:(convert S T (.int .i64 x)).run P w= .ok (.int .u8 ((aP x).toNat:Int)) w:=by
 rw[IZ];simp [convert,run_underlying c,run_underlying h,ZK,Conv.intToInt,IntKind.wrap,IntKind.bits,IntKind.signed]
end
end
section
open Go Go.RowKit
structure Zq (g:Nat) (ws:List (Nat×Value)) (x y:World):Prop where
 os:y.os=x.os
 tape:y.tape=x.tape
 output:y.output=x.output
 size:x.heap.size≤y.heap.size
 far: ∀b,b<x.heap.size→b≠g→y.heap[b]? =x.heap[b]?
 ch: ∀t cs,x.heap[g]? =some (.cells cs t (0,0))→∃cs',y.heap[g]? =some (.cells cs' t (0,0))∧cs'.size=cs.size∧∀i:Nat,cs'[i]? =cs[i]?∨∃v,(i,v)∈ws∧cs'[i]? =some v
section
variable {g:Nat} {ws:List (Nat×Value)} {x y z w w' W W':World} {B:Nat} {base:World} {L L':ay}
end
section
variable {F:Fence} {n:Nat} {P:Program} {L:List Oper} {N:Nat} {Q:Exit→Act→World→Prop} {V:Nat→Value→World→Prop} {D:Nat→List Nat} {a:Act} {w:World} {k:Nat} {o:Oper} {g:Nat} {ws:List (Nat×Value)}
end
end
section
open Go Go.RowKit
section
variable {xs:Nat→Value} {l:List Oper} {a:Act} {t:Nat} {v:Value}
variable {P:Program} {W w':World} {B:Nat} {base:World} {L:ay} {g off:Nat} {T ty:TypeId} {cs:Array Value}
end
end
namespace E
section
open Go Go.RowKit Go.Shelf
structure ab where
 y:Nat→Nat
 num:Nat→Nat
 val:Nat→Value
def ab.zero:ab:=⟨λ_=>0,λ_=>0,λ_=>undef⟩
abbrev bC:=Nat→ab
abbrev B0(q:bC):Nat:=(q 0).y 0
abbrev B1(q:bC):Nat:=(q 1).y 0
abbrev B2(q:bC):Nat:=(q 2).y 0
abbrev B3(q:bC):Nat:=(q 3).y 0
abbrev B4(q:bC):Nat:=(q 4).y 0
abbrev B5(q:bC):Nat:=(q 5).y 0
abbrev B6(q:bC):Nat:=(q 6).y 0
abbrev B7(q:bC):Nat:=(q 7).y 0
inductive aA where
 | c (bs:ay)
 | p (P:ay→Prop)
abbrev ah:=List aA
abbrev ob(g:Nat)(cs:Array Value)(t:TypeId):aA:= .c [(g,.cells cs t (0,0))]
def aA.sat:aA→ay→Prop
 | .c l,b=>b=l
 | .p P,b=>P b
abbrev cD:=Nat→Option aA
abbrev Wr:=List (Nat×aA)
abbrev gC:=Nat→ay
abbrev bL(l:ay):List Nat:=l.map (·.1)
structure kW (R:List Nat) (base:World) (m:Nat) (f:cD) (c:gC) (W:World):Prop where
 sat: ∀p,p<m→∀x,f p=some x→x.sat (c p)
 nil: ∀p,p<m→f p=Option.none→c p=[]
 obj: ∀p,p<m→∀z∈c p,W.heap[z.1]? =some z.2
 inn: ∀p,p<m→(c p).Pairwise (λx y=>x.1≠y.1)
 nd: ∀p q,p<m→q<m→p≠q→∀z∈c p,∀u∈c q,z.1≠u.1
 lo: ∀p,p<m→∀z∈c p,z.1∈R∨base.heap.size≤z.1
 os:W.os=base.os
 tape:W.tape=base.tape
 output:W.output=base.output
 size:base.heap.size≤W.heap.size
 far: ∀b,b<base.heap.size→b∉R→W.heap[b]? =base.heap[b]?
def aF(R:List Nat)(base:World)(L:ah)(W:World):Prop:=∃c,kW R base L.length (λp=>L[p]?) c W
structure a6 (O:List Nat) (N:ay) (W W':World):Prop where
 os:W'.os=W.os
 tape:W'.tape=W.tape
 output:W'.output=W.output
 size:W.heap.size≤W'.heap.size
 obj: ∀x∈N,W'.heap[x.1]? =some x.2
 new: ∀x∈N,x.1∈O∨W.heap.size≤x.1
 nd:N.Pairwise (λx y=>x.1≠y.1)
 far: ∀b,b<W.heap.size→b∉O→W'.heap[b]? =W.heap[b]?
structure ez (R:ay) (W:World):Prop where
 obj: ∀x∈R,W.heap[x.1]? =some x.2
 nd:R.Pairwise (λx y=>x.1≠y.1)
structure mH (rd:Wr) (c:gC) (w:World):Prop where
 sat: ∀x∈rd,x.2.sat (c x.1)
 has:ez (rd.flatMap λx=>c x.1) w
def cQ:Wr→Nat→Option aA
 | [],_=>none
 | (q,x)::r,p=>if q=p then some x else cQ r p
theorem rH: ∀{w:Wr} {p:Nat} {x:aA},cQ w p=some x→(p,x)∈w
 | (q,y)::r,p,x,h=>by
  unfold cQ at h
  split at h
  ·rename_i e;subst e;cases h;exact aa6 ..
  ·exact aab _ (rH h)
theorem Bz: ∀{w:Wr} {p:Nat},cQ w p=none→∀x,(p,x)∉w
 | [],_,_,_,h=>by simp at h
 | (q,y)::r,p,h,x,b=>by
  unfold cQ at h
  split at h
  ·cases h
  ·rename_i e;rcases List.mem_cons.1 b with g | b
   ·cases g;exact e rfl
   ·exact Bz h x b
def lW(f:cD)(w:Wr):cD:=λp=>match cQ w p with | some x=>some x | none=>f p
def oK(c:gC)(w:Wr)(d:gC):gC:=λp=>match cQ w p with | some _=>d p | none=>c p
section
variable {m:Nat} {R:List Nat} {base W W':World} {f:cD} {c d:gC}
theorem kW.lt(h:kW R base m f c W){p:Nat}(hp:p<m){z:Nat×Obj}(b:z∈c p):z.1<W.heap.size:=(Array.getElem?_eq_some_iff.1 (h.obj p hp z b)).1
theorem I0{v:Wr}(h:(v.flatMap λx=>d x.1).Pairwise (λx y=>x.1≠y.1)){p q:Nat}{x y:aA}(g:(p,x)∈v)(C:(q,y)∈v)(r:p≠q): ∀z∈d p,∀u∈d q,z.1≠u.1:=by
 intro z B u A;rw[aal] at h;obtain⟨i,s,k⟩:=Z4 g;obtain⟨j,w,b⟩:=Z4 C;have o:i≠j:=λe=>by
  subst e;rw[k] at b;cases b;exact r rfl
 have g:=List.pairwise_iff_getElem.1 h.2;rcases aaK o with l | l
 ·have:=g i j s w l;rw[k,b] at this;exact this z B u A
 ·have:=g j i w s l;rw[k,b] at this;exact Ne.symm (this u A z B)
theorem I1{v:Wr}(h:(v.flatMap λx=>d x.1).Pairwise (λx y=>x.1≠y.1)){p:Nat}{x:aA}(hp:(p,x)∈v):(d p).Pairwise (λx y=>x.1≠y.1):=by
 rw[aal] at h;exact h.1 (p,x) hp
theorem kW.step(h:kW R base m f c W){O:List Nat}{v:Wr}(K: ∀x∈v,x.2.sat (d x.1))(hs:a6 O (v.flatMap λx=>d x.1) W W')(X: ∀b∈O,∃p,p<m∧(∃x,(p,x)∈v)∧∃z∈c p,z.1=b):kW R base m (lW f v) (oK c v d) W':=by
 have l: ∀p,((∃x,cQ v p=some x∧(p,x)∈v)∧oK c v d p=d p)∨(cQ v p=none∧(∀y,(p,y)∉v)∧oK c v d p=c p∧lW f v p=f p):=by
  intro p;cases i:cQ v p with
  | some x=>exact .inl ⟨⟨x,rfl,rH i⟩,by unfold oK;rw[i]⟩
  | none=>exact .inr ⟨rfl,λy j=>Bz i y j,by unfold oK;rw[i],by unfold lW;rw[i]⟩
 have M: ∀{q:Nat},q<m→(∀z,(q,z)∉v)→∀y∈c q,y.1∉O:=by
  intro q w s y hy j;obtain⟨p,k,⟨x,r⟩,z,g,e⟩:=X _ j;have Y:p≠q:=λe=>by subst e;exact s _ r
  exact h.nd p q k w Y z g y hy e
 have H: ∀{p:Nat} {x:aA},(p,x)∈v→∀z∈d p,z∈v.flatMap λx=>d x.1:=λ{p x} j z g=>List.mem_flatMap.2 ⟨(p,x),j,g⟩;have N: ∀p q,p<m→q<m→∀x,(p,x)∈v→(∀z,(q,z)∉v)→∀z∈d p,∀u∈c q,z.1≠u.1:=by
  intro p q k w x r s z g u o e;rcases hs.new z (H r z g) with A | A
  ·rw[e] at A;exact M w s u o A
  ·have:=h.lt w o;omega
 refine⟨?_,?_,?_,?_,?_,?_,hs.os.trans h.os,hs.tape.trans h.tape,hs.output.trans h.output,Z9 h.size hs.size,?_⟩
 ·intro p k x r;rcases l p with⟨⟨y,i,j⟩,e⟩ | ⟨i,s,e,C⟩
  ·unfold lW at r;rw[i] at r;cases r;rw[e];exact K _ j
  ·rw[e];rw[C] at r;exact h.sat p k x r
 ·intro p k r;rcases l p with⟨⟨y,i,j⟩,e⟩ | ⟨i,s,e,C⟩
  ·unfold lW at r;rw[i] at r;cases r
  ·rw[e];rw[C] at r;exact h.nil p k r
 ·intro p k z g;rcases l p with⟨⟨y,i,j⟩,e⟩ | ⟨i,s,e,C⟩
  ·rw[e] at g;exact hs.obj z (H j z g)
  ·rw[e] at g;exact(hs.far _ (h.lt k g) (M k s z g)).trans (h.obj p k z g)
 ·intro p k;rcases l p with⟨⟨y,i,j⟩,e⟩ | ⟨i,s,e,C⟩
  ·rw[e];exact I1 hs.nd j
  ·rw[e];exact h.inn p k
 ·intro p q k w J z g u o;rcases l p with⟨⟨y,i,j⟩,e⟩ | ⟨i,s,e,C⟩
  ·rw[e] at g;rcases l q with⟨⟨y',D,G⟩,B⟩ | ⟨D,I,B,U⟩
   ·rw[B] at o;exact I0 hs.nd j G J z g u o
   ·rw[B] at o;exact N p q k w y j I z g u o
  ·rw[e] at g;rcases l q with⟨⟨y',D,G⟩,B⟩ | ⟨D,I,B,U⟩
   ·rw[B] at o;exact Ne.symm (N q p w k y' G s u o z g)
   ·rw[B] at o;exact h.nd p q k w J z g u o
 ·intro p k z g;rcases l p with⟨⟨y,i,j⟩,e⟩ | ⟨i,s,e,C⟩
  ·rw[e] at g;rcases hs.new z (H j z g) with V | V
   ·obtain⟨q,w,_,u,o,T⟩:=X _ V;rw[←T];exact h.lo q w u o
   ·exact .inr (Z9 h.size V)
  ·rw[e] at g;exact h.lo p k z g
 ·intro b Z s;refine(hs.far b (aam Z h.size) λj=>?_).trans (h.far b Z s);obtain⟨q,w,_,u,o,T⟩:=X _ j;rcases h.lo q w u o with A | A
  ·rw[T] at A;exact s A
  ·rw[T] at A;omega
theorem kW.congr{i:cD}(h:kW R base m f c W)(e: ∀p,p<m→f p=i p):kW R base m i c W:=
 ⟨λp b x g=>h.sat p b x ((e p b).trans g),λp b g=>h.nil p b ((e p b).trans g),h.obj,h.inn,h.nd,h.lo,h.os,h.tape,h.output,h.size,h.far⟩
end
def dk(M0:ah)(wr:Nat→Wr)(S:Nat→Bool)(p:Nat):Nat→Option aA
 | 0=>M0[p]?
 | j+1=>match S j,cQ (wr j) p with
  | true,some x=>some x
  | _,_=>dk M0 wr S p j
section
variable {M0:ah} {wr wr':Nat→Wr} {S S':Nat→Bool} {p:Nat}
theorem ui{j:Nat}(h:S j=false∨cQ (wr j) p=none):dk M0 wr S p (j+1)=dk M0 wr S p j:=by
 rw[dk.eq_2];rcases h with h | h
 ·rw[h]
 ·rw[h];cases S j<;>rfl
theorem xw{N:Nat}(h: ∀j,j<N→S j=S' j∧(S j=true→cQ (wr j) p=cQ (wr' j) p)):dk M0 wr S p N=dk M0 wr' S' p N:=by
 induction N with
 | zero=>rfl
 | succ j ih=>
  have ih:=ih λi k=>h i Om;obtain⟨b,e⟩:=h j Om;rw[dk.eq_2,dk.eq_2,←b,ih];cases g:S j with
  | false=>rfl
  | true=>rw[e g]
theorem I2{k N:Nat}(r:k≤N)(g: ∀j,j<k→(cQ (wr j) p).isSome=true→S j=true)(b: ∀j,k≤j→j<N→(cQ (wr j) p).isSome=true→S j=false):dk M0 wr S p N=dk M0 wr (λ_=>true) p k:=by
 have h: ∀d,k+d≤N→dk M0 wr S p (k+d)=dk M0 wr S p k:=by
  intro d
  induction d with
  | zero=>intro _;rfl
  | succ d ih=>
   intro o;rw[show k+(d+1)=(k+d)+1 from rfl,ui,ih Om];cases e:cQ (wr (k+d)) p with
   | none=>exact .inr rfl
   | some x=>exact .inl (b _ Om Om (by rw[e];rfl))
 have l: ∀i,i≤k→dk M0 wr S p i=dk M0 wr (λ_=>true) p i:=by
  intro i
  induction i with
  | zero=>intro _;rfl
  | succ i ih=>
   intro q;rw[dk.eq_2,dk.eq_2,ih Om];cases e:cQ (wr i) p with
   | none=>cases S i<;>rfl
   | some x=>rw[g i Om (by rw[e];rfl)]
 have:=h (N-k) Om;rw[show k+(N-k)=N by omega] at this;rw[this,l k (ZT _)]
theorem BA{k N:Nat}(v:k<N)(o:S k=false)(e:(cQ (wr k) p).isSome=true→∀j,k<j→j<N→(cQ (wr j) p).isSome=true→S j=false):
  dk M0 wr (λj=>if j=k then true else S j) p N=match cQ (wr k) p with | some x=>some x | none=>dk M0 wr S p N:=by
 have h: ∀i,i≤k→dk M0 wr (λj=>if j=k then true else S j) p i=dk M0 wr S p i:=λi s=>xw λj u=>⟨by rw[ALifn Om],λ_=>rfl⟩;have l: ∀d,k+1+d≤N→dk M0 wr (λj=>if j=k then true else S j) p (k+1+d)=match cQ (wr k) p with | some x=>some x | none=>dk M0 wr S p (k+1+d):=by
  intro d
  induction d with
  | zero=>
   intro _;rw[Nat.add_zero,dk.eq_2,ALifp rfl,h k (ZT _),ui (S:=S) (.inl o)];cases cQ (wr k) p<;>rfl
  | succ d ih=>
   intro r;rw[show k+1+(d+1)=(k+1+d)+1 from rfl,dk.eq_2,dk.eq_2,ih Om,ALifn Om];cases q:cQ (wr k) p with
   | none=>cases S (k+1+d)<;>cases cQ (wr (k+1+d)) p<;>rfl
   | some x=>
    cases b:S (k+1+d) with
    | false=>rfl
    | true=>
     cases g:cQ (wr (k+1+d)) p with
     | none=>rfl
     | some y=>
      have:=e (by rw[q];rfl) (k+1+d) Om Om (by rw[g];rfl);rw[b] at this;cases this
 have:=l (N-(k+1)) Om;rwa [show k+1+(N-(k+1))=N by omega] at this
end
end
section
open Go Go.RowKit Go.Shelf
structure dQ where
 val:bC→Nat→ab→Value
 rd:bC→Nat→Wr
 wt:bC→Nat→ab→Wr
 ob:Nat→List Nat
 cds:Nat→List (Nat×Bool)
 D:Nat→List Nat
 L0:ah
 m:Nat
def dQ.vs(t:dQ)(η:bC)(k:Nat):Value:=t.val η k (η k)
def dQ.wr(t:dQ)(η:bC)(k:Nat):Wr:=t.wt η k (η k)
def dQ.Hold(t:dQ)(η:bC)(k:Nat):Prop:=∀c∈t.cds k,t.vs η c.1= .bool c.2
def dQ.Is(t:dQ)(η:bC)(i:Nat)(x:Value):Prop:=(t.Hold η i∧x=t.vs η i)∨(¬t.Hold η i∧x=undef)
def dQ.at(t:dQ)(η:bC)(p k:Nat):Option aA:=dk t.L0 (t.wr η) (λ_=>true) p k
def fM(η:bC)(k:Nat)(E:ab):bC:=λj=>if j=k then E else η j
def m8(D:List Nat)(η:bC):bC:=λj=>if D.contains j then η j else ab.zero
theorem BB{D:List Nat}{η:bC}{k:Nat}{E:ab}(h:k∉D):m8 D (fM η k E)=m8 D η:=by
 funext j
 unfold m8 fM;by_cases b:D.contains j=true
 ·have i:j∈D:=by simpa using b
  have g:j≠k:=λe=>by subst e;exact h i
  rw[ALifp b,ALifp b,ALifn g]
 ·rw[ALifn b,ALifn b]
section
variable (F:Fence) (n:Nat) (P:Program) (L:List Oper) (Q:Exit→Act→World→Prop) (a:Act) (t:dQ)
structure BC (η:bC) (k:Nat) (o:Oper):Prop where
 out: ∀(xs:Nat→Value) (w':World) (c:gC),(∀i∈t.D k,t.Is η i (xs i))→(∀i,i<L.length→(i=k∨k∈t.D i)→xs i=j8 L a i)→mH (t.rd η k) c w'→t.Hold η k→
  ∀K:Value→World→Prop,(∀E (d:gC) w'',(∀x∈t.wt η k E,x.2.sat (d x.1))→a6 ((t.ob k).flatMap λp=>bL (c p)) ((t.wt η k E).flatMap λx=>d x.1) w' w''→K (t.val η k E) w'')→
   o.wpIn F n P (bp xs L 0 a) w' (λa'' w''=>∃v,a''=(bp xs L 0 a).put o.dst v∧K v w'') Q
def uj(k:Nat)(o:Oper)(η:bC):Prop:=match o.guard with
 | none=>t.cds k=[]
 | some (j,b)=>t.cds k=t.cds j++[(j,b)]∧j∈t.D k∧(∃E,t.vs η j= .bool E)∧(∃d,(L.toArray[j]?).bind (·.dst)=some d∧fL d L 0=some j∧aaU d a.tmps.size=true)
def free(η:bC)(k p:Nat):Prop:=p<t.m∧∀j,j<L.length→j≠k→(cQ (t.wr η j) p).isSome=true→(j<k∧j∈t.D k)∨(k<j∧k∈t.D j)
structure jN:Prop where
 acts: ∀η k o,L[k]? =some o→BC F n P L Q a t η k o
 guard: ∀η k o,L[k]? =some o→uj L a t k o η
 cin: ∀k,k<L.length→∀c∈t.cds k,c.1∈t.D k
 still: ∀η k,k<L.length→t.cds k≠[]→t.wr η k=[]∨t.Hold η k
 rdf: ∀η k,k<L.length→∀x∈t.rd η k,free L t η k x.1∧t.at η x.1 k=some x.2
 rdn: ∀η k,k<L.length→((t.rd η k).map (·.1)).Nodup
 wrf: ∀η k,k<L.length→∀x∈t.wr η k,free L t η k x.1
 obf: ∀η k,k<L.length→∀p∈t.ob k,∃x,(p,x)∈t.wr η k
 mval: ∀η k,k<L.length→t.val (m8 (t.D k) η) k=t.val η k
 mwt: ∀η k,k<L.length→t.wt (m8 (t.D k) η) k=t.wt η k
end
section
variable {F:Fence} {n:Nat} {P:Program} {L:List Oper} {Q:Exit→Act→World→Prop} {a:Act} {t:dQ}
theorem jN.val_upd(h:jN F n P L Q a t){η:bC}{i k:Nat}{E:ab}(b:i<L.length)(e:k∉t.D i):t.val (fM η k E) i=t.val η i:=by
 rw[←h.mval (fM η k E) i b,BB e,h.mval η i b]
theorem jN.wt_upd(h:jN F n P L Q a t){η:bC}{i k:Nat}{E:ab}(b:i<L.length)(e:k∉t.D i):t.wt (fM η k E) i=t.wt η i:=by
 rw[←h.mwt (fM η k E) i b,BB e,h.mwt η i b]
theorem jN.vs_upd(h:jN F n P L Q a t){η:bC}{i k:Nat}{E:ab}(e:i<L.length)(g:k∉t.D i)(b:i≠k):t.vs (fM η k E) i=t.vs η i:=by
 unfold dQ.vs;rw[h.val_upd e g,show fM η k E i=η i from ALifn b]
theorem jN.wr_upd(h:jN F n P L Q a t){η:bC}{i k:Nat}{E:ab}(e:i<L.length)(g:k∉t.D i)(b:i≠k):t.wr (fM η k E) i=t.wr η i:=by
 unfold dQ.wr;rw[h.wt_upd e g,show fM η k E i=η i from ALifn b]
def gD(L:List Oper)(a:Act)(t:dQ)(R:List Nat)(base:World)(S:Nat→Bool)(xs:Nat→Value)(w:World):Prop:=
 ∃(η:bC) (c:gC),(∀i,i<L.length→S i=true→t.Is η i (xs i))∧(∀i,i<L.length→S i=false→xs i=j8 L a i)∧kW R base t.m (λp=>dk t.L0 (t.wr η) S p L.length) c w
theorem uk(h:jN F n P L Q a t){R:List Nat}{base:World}{S:Nat→Bool}{xs:Nat→Value}{w':World}{k:Nat}{o:Oper}(A:k<L.length)(ho:L[k]? =some o)
  (X:S k=false) (V: ∀j∈t.D k,j<L.length∧S j=true) (hcl: ∀i,i<L.length→S i=true→∀j∈t.D i,j<L.length∧S j=true) (inv:gD L a t R base S xs w')
  (K:Value→World→Prop) (hK: ∀v C,gD L a t R base (λj=>if j=k then true else S j) (λj=>if j=k then v else xs j) C→K v C) (hF:Fence.free F):
  if Region.wanted o (yielded L.toArray (bp xs L 0 a).tmps)=true then o.wpIn F n P (bp xs L 0 a) w' (λU C=>∃v,U=(bp xs L 0 a).put o.dst v∧K v C) Q
  else(∀f,o.about P w' (bp xs L 0 a).eval=some f→F.fn f)∧K undef w':=by
 obtain⟨η,c,B,Z,hO⟩:=inv;have hkD:k∉t.D k:=λhm=>by have:=(V k hm).2;rw[X] at this;cases this
 have l: ∀i,i<L.length→S i=true→k∉t.D i:=λi q g hm=>by have:=(hcl i q g k hm).2;rw[X] at this;cases this
 have hne: ∀i,S i=true→i≠k:=λi g e=>by subst e;rw[X] at g;cases g
 have rd: ∀(η':bC) (p:Nat),free L t η' k p→dk t.L0 (t.wr η') S p L.length=t.at η' p k:=by
  intro η' p hf;refine I2 (Nat.le_of_lt A) (λj hj O=>?_) (λj hj H O=>?_)
  ·rcases hf.2 j Om Om O with⟨_,y⟩ | ⟨s,_⟩
   ·exact(V j y).2
   ·omega
  ·by_cases e:j=k
   ·subst e;exact X
   ·rcases hf.2 j H e O with⟨s,_⟩ | ⟨_,y⟩
    ·omega
    ·cases hsj:S j with
     | false=>rfl
     | true=>exact absurd y (l j H hsj)
 have hg:=h.guard η k o ho
 have done:dQ.Hold t η k→o.wpIn F n P (bp xs L 0 a) w' (λU C=>∃v,U=(bp xs L 0 a).put o.dst v∧K v C) Q:=by
  intro I;refine(h.acts η k o ho).out xs w' c (λi q=>B i (V i q).1 (V i q).2) (λi q hik=>?_) ?_ I _ ?_
  ·refine Z i q ?_;rcases hik with rfl | hm
   ·exact X
   ·cases hsi:S i with
    | false=>rfl
    | true=>exact absurd hm (l i q hsi)
  ·refine⟨λx B=>?_,⟨λz hz=>?_,?_⟩⟩
   ·obtain⟨s,y⟩:=h.rdf η k A x B;exact hO.sat x.1 s.1 x.2 ((rd η x.1 s).trans y)
   ·obtain⟨x,B,hz⟩:=List.mem_flatMap.1 hz;obtain⟨s,y⟩:=h.rdf η k A x B;exact hO.obj x.1 s.1 z hz
   ·rw[aal];refine⟨λx B=>hO.inn x.1 (h.rdf η k A x B).1.1,?_⟩;rw[aan];intro i j q hj hij z hz u hu;obtain⟨s,y⟩:=h.rdf η k A _ (aad q);obtain⟨k1,k2⟩:=h.rdf η k A _ (aad hj);refine hO.nd _ _ s.1 k1.1 ?_ z hz u hu;have hnd:=h.rdn η k A;unfold List.Nodup at hnd;rw[List.pairwise_map,aan] at hnd;exact hnd i j q hj hij
  ·intro E d C hsat hst;refine hK _ _ ⟨fM η k E,oK c (t.wt η k E) d,λi q g=>?_,λi q g=>?_,?_⟩
   ·by_cases e:i=k
    ·subst e;simp only[if_true];refine .inl ⟨λc r=>?_,?_⟩
     ·have Y:=h.cin i A c r;have w:=V c.1 Y;rw[h.vs_upd w.1 (l c.1 w.1 w.2) (hne _ w.2)];exact I c r
     ·unfold dQ.vs;rw[h.val_upd A hkD,show fM η i E i=E from ALifp rfl]
    ·simp only[ALifn e] at g⊢;have hv:=h.vs_upd (η:=η) (E:=E) q (l i q g) e;have hcc:dQ.Hold t (fM η k E) i↔dQ.Hold t η i:=by
      have heq: ∀c∈t.cds i,t.vs (fM η k E) c.1=t.vs η c.1:=λc r=>by
       have Y:=h.cin i q c r;have w:=hcl i q g c.1 Y;exact h.vs_upd w.1 (l c.1 w.1 w.2) (hne _ w.2)
      exact⟨λI c r=>(heq c r).symm.trans (I c r),λI c r=>(heq c r).trans (I c r)⟩
     rcases B i q g with⟨s,y⟩ | ⟨s,y⟩
     ·exact .inl ⟨hcc.2 s,by rw[hv];exact y⟩
     ·exact .inr ⟨λh3=>s (hcc.1 h3),y⟩
   ·by_cases e:i=k
    ·subst e;simp at g
    ·simp only[ALifn e] at g⊢;exact Z i q g
   ·have hcg: ∀p,dk t.L0 (t.wr (fM η k E)) S p L.length=dk t.L0 (t.wr η) S p L.length:=λp=>xw λj hj=>⟨rfl,λg=>by rw[h.wr_upd hj (l j hj g) (hne j g)]⟩;have hwr:t.wr (fM η k E) k=t.wt η k E:=by
     unfold dQ.wr;rw[h.wt_upd A hkD,show fM η k E k=E from ALifp rfl]
    have hfr: ∀p,(cQ (t.wr (fM η k E) k) p).isSome=true→free L t (fM η k E) k p:=by
     intro p hp;obtain⟨x,B⟩:=Option.isSome_iff_exists.1 hp;exact h.wrf (fM η k E) k A _ (rH B)
    have hf:(λp=>dk t.L0 (t.wr (fM η k E)) (λj=>if j=k then true else S j) p L.length)=lW (λp=>dk t.L0 (t.wr η) S p L.length) (t.wt η k E):=by
     funext p
     rw[BA A X (λO j hkj H hlj=>?_),hwr,hcg]
     ·rfl
     ·rcases(hfr p O).2 j H Om hlj with⟨s,_⟩ | ⟨_,y⟩
      ·omega
      ·cases hsj:S j with
       | false=>rfl
       | true=>exact absurd y (l j H hsj)
    rw[hf];refine hO.step hsat hst λb hb=>?_;obtain⟨p,hp,hb⟩:=List.mem_flatMap.1 hb;obtain⟨z,hz,e⟩:=List.mem_map.1 hb;obtain⟨x,B⟩:=h.obf (fM η k E) k A p hp;have s:=h.wrf (fM η k E) k A _ B;exact⟨p,s.1,⟨x,by rw[←hwr];exact B⟩,z,hz,e⟩
 have T: ¬dQ.Hold t η k→t.cds k≠[]→K undef w':=by
  intro hn r;have hw:=(h.still η k A r).resolve_right hn;refine hK _ _ ⟨η,c,λi q g=>?_,λi q g=>?_,?_⟩
  ·by_cases e:i=k
   ·subst e;simp only[if_true];exact .inr ⟨hn,rfl⟩
   ·simp only[ALifn e] at g⊢;exact B i q g
  ·by_cases e:i=k
   ·subst e;simp at g
   ·simp only[ALifn e] at g⊢;exact Z i q g
  ·have hf:(λp=>dk t.L0 (t.wr η) (λj=>if j=k then true else S j) p L.length)=λp=>dk t.L0 (t.wr η) S p L.length:=by
    funext p
    rw[BA A X (λO=>by rw[hw] at O;cases O),hw];rfl
   rw[hf];exact hO
 unfold uj at hg;cases G:o.guard with
 | none=>
  rw[G] at hg;simp only at hg;rw[ALifp (by simp [Region.wanted,G])];exact done (λc r=>by rw[hg] at r;simp at r)
 | some jb=>
  obtain⟨j,b⟩:=jb;rw[G] at hg;simp only at hg;obtain⟨r,hjD,⟨E,hE⟩,d,hd,hw,g⟩:=hg;have hjx:=B j (V j hjD).1 (V j hjD).2;have M:L.take L.length=L:=aar;rcases hjx with⟨s,y⟩ | ⟨s,y⟩
  ·rw[hE] at y;have D:=IV (L:=L) (N:=L.length) (a:=a) (xs:=xs) G hd (by rw[M];exact hw) g y;rw[M] at D;by_cases e:E=b
   ·subst e;rw[D,ALifp (by cases E<;>rfl)];refine done λc J=>?_;rw[r] at J;rcases List.mem_append.1 J with h3 | h3
    ·exact s c h3
    ·obtain rfl:=List.mem_singleton.1 h3;exact hE
   ·rw[D,ALifn (by cases E<;>cases b<;>simp_all)];refine⟨λf _=>hF.2 f,T (λI=>e ?_) (by rw[r];simp)⟩;have:=I (j,b) (by rw[r];simp);rw[hE] at this;exact Value.bool.inj this
  ·have D:=IW (L:=L) (N:=L.length) (a:=a) (xs:=xs) G hd (by rw[M];exact hw) g y;rw[M] at D;rw[D,ALifn Dc];refine⟨λf _=>hF.2 f,T (λI=>s λc J=>I c (by rw[r];exact ZQ _ J)) (by rw[r];simp)⟩
end
end
section
open Go Go.RowKit Go.Shelf
section
variable {F:Fence} {n:Nat} {P:Program} {L:List Oper} {Q:Exit→Act→World→Prop} {a:Act} {t:dQ} {R:List Nat} {base:World}
theorem gD.congr{S S':Nat→Bool}{xs xs':Nat→Value}{w:World}(h:gD L a t R base S xs w)(hs: ∀i,i<L.length→S i=S' i)(k: ∀i,i<L.length→xs i=xs' i):gD L a t R base S' xs' w:=by
 obtain⟨η,c,l,o,q⟩:=h;refine⟨η,c,λi b g=>by rw[←k i b];exact l i b (by rw[hs i b];exact g),λi b g=>by rw[←k i b];exact o i b (by rw[hs i b];exact g),?_⟩;have e:(λp=>dk t.L0 (t.wr η) S' p L.length)=λp=>dk t.L0 (t.wr η) S p L.length:=by
  funext p
  exact(xw λj r=>⟨hs j r,λ_=>rfl⟩).symm
 rw[e];exact q
theorem gD.drew{S:Nat→Bool}{xs:Nat→Value}{w:World}(h:gD L a t R base S xs w):gD L a t R base S xs w.drew:=by
 obtain⟨η,c,e,g,b⟩:=h;exact⟨η,c,e,g,b.sat,b.nil,b.obj,b.inn,b.nd,b.lo,b.os,b.tape,b.output,b.size,b.far⟩
theorem BD(h:jN F n P L Q a t)(hF:Fence.free F)(hc:Region.chainB .any L.toArray L.length=true)(hb:m7 .any L.toArray L.length=true)(M:m7 .any L.toArray 0=true)(Y:mG L=true)(hD:ug .any L.toArray L.length t.D=true)
  (C: ∀xs w',gD L a t R base (λ_=>true) xs w'→Q .normal (bp xs L 0 a) w'):
  ∀(c g:Nat) (b:Array Bool) (xs:Nat→Value) (w':World),gV b L.length=c→c≤g→HeadInv .any L.toArray L.length b→
   (∀i,i<L.length→b.getD i false=true→∀j∈t.D i,b.getD j false=true)→gD L a t R base (λi=>b.getD i false) xs w'→wpAnyIn F n P .any L.toArray Q g b (bp xs L 0 a) w'
 | 0,g,b,xs,w',w,hf,q,hk,hI=>by
  have l:=xu L.length w;have u: ∀i,i<L.length→b.getD i false=true:=by
   intro i s;have r:i<b.size:=by rw[q.size,Z1];omega
   have:=l i s;simp [r] at this⊢;exact this
  refine xn hc hb 0 L.length g b _ w' (by rw[Z1];omega) (ZT _) Om q.size l u q.tail ?_;have e:L.toArray.toList.drop L.length=[]:=by simp
  rw[e];exact C xs w' (hI.congr (λi s=>u i s) (λ_ _=>rfl))
 | c+1,g,b,xs,w',w,hf,q,hk,hI=>by
  obtain⟨f,rfl⟩: ∃f,g=f+1:=⟨g-1,by omega⟩;have hun: ∃i,i<L.length∧b.getD i true=false:=by
   apply abb;intro hno;have l: ∀i,i<L.length→b.getD i true=true:=λi s=>by
    cases H:b.getD i true with
    | true=>rfl
    | false=>exact(hno ⟨i,s,H⟩).elim
   have: ∀k,k≤L.length→gV b k=0:=by
    intro k
    induction k with
    | zero=>intro _;rfl
    | succ k ih=>intro h;unfold gV;rw[ih Om,l k Om];rfl
   rw[this L.length (ZT _)] at w;omega
  obtain⟨i0,hi0,hu0⟩:=hun;have some:Region.ready .any L.toArray b=[]→∀d i,i=d→i<L.length→b.getD i true=true:=by
   intro y d
   induction d using Nat.strongRecOn with
   | _ d ih=>
    rintro i rfl s;cases H:b.getD i true with
    | true=>rfl
    | false=>
     exfalso;have D:i<L.toArray.size:=by rw[Z1];omega
     have V:L.toArray[i]? =some L.toArray[i]:=Array.getElem?_eq_getElem D;have hB:=List.all_eq_true.1 M i (List.mem_range.2 D);rw[V] at hB;simp only[aat,decide_eq_true_eq,ZW,aa8,Nat.not_lt_zero,false_or] at hB;have:i∈Region.ready .any L.toArray b:=mem_ready.2 ⟨H,_,V,λe he hbd=>by
      have r:=Array.all_eq_true'.1 hB e he;rw[hbd] at r;have Z:e.on<i:=by simpa using r
      have I:=ih e.on Z e.on rfl Om;have h5:e.on<b.size:=by rw[q.size,Z1];omega
      rw[Array.getD_eq_getD_getElem?,Array.getElem?_eq_getElem h5] at I⊢;exact I⟩
     rw[y] at this;cases this
  refine⟨λy=>(by have:=some y i0 i0 rfl hi0;rw[hu0] at this;cases this),λi s=>?_⟩;have z:i<L.length:=by
   obtain⟨_,o,U,_⟩:=mem_ready.1 s;have:=(Array.getElem?_eq_some_iff.1 U).1;rwa [Z1] at this
  obtain⟨H,o,U,l⟩:=mem_ready.1 s;have X:L[i]? =Option.some o:=by rw[←aau];exact U
  have J: ∀j∈t.D i,j<L.length∧b.getD j false=true:=by
   intro j x;have G:=List.all_eq_true.1 (List.all_eq_true.1 hD i (List.mem_range.2 z)) j x;rw[U] at G;simp only[ZW,aa8,ZS,decide_eq_true_eq] at G;refine⟨G.1,?_⟩;obtain⟨e,he,r⟩:=Array.any_eq_true'.1 G.2;simp only[ZS,aat,beq_iff_eq,decide_eq_true_eq] at r;have Z:=l e he r.1;rcases r.2 with I | ⟨I,h5⟩
   ·rw[←I];exact Z
   ·exact hk e.on I Z j (by simpa using h5)
  have K: ∀i,i<L.length→∀j∈t.D i,j<L.length:=by
   intro i s j x;have G:=List.all_eq_true.1 (List.all_eq_true.1 hD i (List.mem_range.2 s)) j x;simp only[ZS,decide_eq_true_eq] at G;exact G.1
  have hSi:b.getD i false=false:=by
   have r:i<b.size:=by rw[q.size,Z1];omega
   simp [r] at H⊢;exact H
  have A:=uk h (S:=λi=>b.getD i false) (xs:=xs) (w':=w') (k:=i) (o:=o) z X hSi (λj x=>J j x) (λi' N hs j x=>⟨K i' N j x,hk i' N hs j x⟩) hI
   (λv B=>wpAnyIn F n P .any L.toArray Q f (b.setIfInBounds i true) ((bp xs L 0 a).put o.dst v) B) (λv B hI2=>by
    rw[rz v _ 0 a i o Y X,ZV];refine BD h hF hc hb M Y hD C c f _ _ B (by have:=xr H L.length z;omega) Om (q.set s z) ?_ (hI2.congr (λj x=>?_) (λ_ _=>rfl))
    ·intro j x T j' O;by_cases e:j=i
     ·subst e;exact getD_set_true (J j' O).2
     ·rw[getD_set_ne false (Ne.symm e)] at T;exact getD_set_true (hk j x T j' O)
    ·show(if j=i then true else b.getD j false)=_;by_cases e:j=i
     ·subst e;have r:j<b.size:=by rw[q.size,Z1];omega
      simp [r]
     ·rw[ALifn e,getD_set_ne false (Ne.symm e)]) hF
  unfold wpOpIn;simp only[U]
  split
  ·rename_i hw;rw[ALifp hw] at A;exact Oper.wpIn_mono (λa'' B ⟨v,e,h⟩=>by rw[e];exact h) A
  ·rename_i hw;rw[ALifn hw] at A;exact A
theorem BE(h:jN F n P L Q a t)(B:Fence.free F)(u:mG L=true)(w: ∀k,k<L.length→∀j∈t.D k,j<k)
  (q: ∀xs w',gD L a t R base (λ_=>true) xs w'→Q .normal (bp xs L 0 a) w'):
  ∀(d k:Nat) (xs:Nat→Value) (w':World),k+d=L.length→gD L a t R base (λi=>decide (i<k)) xs w'→wpListIn F n P L.toArray Q (L.drop k) (bp xs L 0 a) w'
 | 0,k,xs,w',D,x=>by
  obtain rfl:k=L.length:=by omega
  rw[aaP];exact q xs w' (x.congr (λi z=>by simpa using z) (λ_ _=>rfl))
 | d+1,k,xs,w',D,x=>by
  have b:k<L.length:=by omega
  rw[aay b];have s:L[k]? =some L[k]:=ZL b;have g:=uk h (S:=λi=>decide (i<k)) (xs:=xs) (w':=w') (k:=k) (o:=L[k]) b s (by simp) (λj r=>⟨by have:=w k b j r;omega,by simpa using w k b j r⟩)
   (λi z G j r=>by
    have H:=w i z j r;have I:i<k:=by simpa using G
    exact⟨by omega,by simp;omega⟩) x
   (λv l=>wpListIn F n P L.toArray Q (L.drop (k+1)) ((bp xs L 0 a).put L[k].dst v) l) (λv l y=>by
    rw[rz v _ 0 a k _ u s,ZV];refine BE h B u w q d (k+1) _ l Om (y.congr (λj r=>?_) (λ_ _=>rfl));show(if j=k then true else decide (j<k))=decide (j<k+1);by_cases e:j=k
    ·subst e;simp
    ·rw[ALifn e,decide_eq_decide];omega) B
  unfold wpListIn
  split
  ·rename_i A;rw[ALifp A] at g;exact Oper.wpIn_mono (λC l ⟨v,e,h⟩=>by rw[e];exact h) g
  ·rename_i A;rw[ALifn A] at g;exact g
def mI(b:Bool)(L:List Oper)(D:Nat→List Nat):Bool:=
 mG L&&(if b then Region.chainB .any L.toArray L.length&&m7 .any L.toArray L.length&&m7 .any L.toArray 0&&ug .any L.toArray L.length D
  else(aaf L.length).all λk=>(D k).all λj=>decide (j<k))
theorem I3{id:Nat}{r:Bool}{w:World}(hm:P.follows .mixedOrders=true)(h:jN F n P L Q a t)(hF:Fence.free F)(hs:mI r L t.D=true)
  (OW:Hid (aF R base t.L0 w)) (Le:bC→ah) (G: ∀η,(aaf t.m).map (λp=>t.at η p L.length)=(Le η).map some)
  (H: ∀(η:bC) (C:Nat→Value) (w':World),(∀i,i<L.length→t.Is η i (C i))→Hid (aF R base (Le η) w')→Q .normal (bp C L 0 a) w'):(Code.region id L.toArray r).wpIn F n P Q a w:=by
 have A: ∀C w',gD L a t R base (λ_=>true) C w'→Q .normal (bp C L 0 a) w':=by
  intro C w' ⟨η,c,g,_,K⟩;refine H η C w' (λi hi=>g i hi rfl) ?_;have B:(Le η).length=t.m:=by
   have:=ALca abe (G η);simpa using this.symm
  have U: ∀p,p<t.m→t.at η p L.length=(Le η)[p]? :=by
   intro p hp;have:=ALca (λl=>l[p]?) (G η);simp only[Z3,aaT hp,ZW] at this;cases hq:(Le η)[p]? with
   | none=>rw[hq] at this;cases this
   | some x=>rw[hq] at this;simpa using this
  exact Lib.hid ⟨c,by rw[B];exact K.congr U⟩
 have h0:bp (j8 L a) L 0 a=a:=xq _ 0 a λi o d ho hd=>by
  unfold j8;rw[ZV,ho,aa9,hd]
 have X: ∀(wr:Nat→Wr) (p N:Nat),dk t.L0 wr (λ_=>false) p N=t.L0[p]? :=by
  intro wr p N
  induction N with
  | zero=>rfl
  | succ N ih=>rw[ui (.inl rfl),ih]
 have D:gD L a t R base (λ_=>false) (j8 L a) w:=by
  obtain⟨c,y⟩:=OW.out;refine⟨λ_=>ab.zero,λp=>if p<t.L0.length then c p else[],λi _ hs=>absurd hs Bool.false_ne_true,λ_ _ _=>rfl,?_⟩;have e:(λp=>dk t.L0 (t.wr λ_=>ab.zero) (λ_=>false) p L.length)=λp=>t.L0[p]? :=by funext p;exact X _ _ _
  rw[e];have s: ∀p,((p<t.L0.length)∧(if p<t.L0.length then c p else[])=c p)∨(¬p<t.L0.length∧(if p<t.L0.length then c p else[])=[]):=λp=>by
   by_cases h:p<t.L0.length
   ·exact .inl ⟨h,ALifp h⟩
   ·exact .inr ⟨h,ALifn h⟩
  refine⟨λp _ x O=>?_,λp _ O=>?_,λp _ z v=>?_,λp _=>?_,λp q _ _ Z z v u M=>?_,λp _ z v=>?_,y.os,y.tape,y.output,y.size,y.far⟩
  ·rcases s p with⟨g,b⟩ | ⟨g,b⟩
   ·rw[b];exact y.sat p g x O
   ·exact absurd (List.getElem?_eq_some_iff.1 O).1 g
  ·rcases s p with⟨g,b⟩ | ⟨g,b⟩
   ·rw[b];exact y.nil p g O
   ·exact b
  ·rcases s p with⟨g,b⟩ | ⟨g,b⟩
   ·rw[b] at v;exact y.obj p g z v
   ·rw[b] at v;simp at v
  ·rcases s p with⟨g,b⟩ | ⟨g,b⟩
   ·rw[b];exact y.inn p g
   ·rw[b];exact List.Pairwise.nil
  ·rcases s p with⟨g,b⟩ | ⟨g,b⟩
   ·rw[b] at v;rcases s q with⟨K,T⟩ | ⟨K,T⟩
    ·rw[T] at M;exact y.nd p q g K Z z v u M
    ·rw[T] at M;simp at M
   ·rw[b] at v;simp at v
  ·rcases s p with⟨g,b⟩ | ⟨g,b⟩
   ·rw[b] at v;exact y.lo p g z v
   ·rw[b] at v;simp at v
 unfold mI at hs;simp only[ZS] at hs;obtain⟨I,hs⟩:=hs;cases r with
 | true=>
  simp only[if_true,ZS] at hs;obtain⟨⟨⟨hc,hb⟩,V⟩,hD⟩:=hs;refine wpIn_region_any hm ?_;have Y: ∀k,gV (Array.replicate L.length false) k≤k:=by
   intro k
   induction k with
   | zero=>exact ZT _
   | succ k ih=>unfold gV;split<;>omega
  have h:=BD (R:=R) (base:=base) h hF hc hb V I hD A _ L.toArray.size (Array.replicate L.length false) (j8 L a) w.drew rfl (by rw[Z1];exact Y _)
   ⟨by simp,λj oj _ B e _ _=>(by rw[getD_replicate_false] at B;exact abc B),λt _ J=>(by rw[Z1] at J;simp [J])⟩ (λi _ B=>(by rw[getD_replicate_false] at B;exact abc B))
   (D.drew.congr (λi _=>(getD_replicate_false _ _).symm) (λ_ _=>rfl))
  rw[h0] at h;simpa using h
 | false=>
  simp only[aaH,if_false] at hs;refine wpIn_region_lit ?_;have h:=BE (R:=R) (base:=base) h hF I (λk hk j hj=>by
   have:=List.all_eq_true.1 (List.all_eq_true.1 hs k (List.mem_range.2 hk)) j hj;simpa using this) A L.length 0 (j8 L a) w Om (D.congr (λi _=>by simp) (λ_ _=>rfl))
  rw[h0,aaz] at h;exact h
end
end
section
open Go Go.RowKit Go.Shelf
abbrev Fe:=List (Nat×Value)
def lk:Fe→Nat→Option Value
 | [],_=>none
 | (j,v)::r,i=>match Nat.beq j i with
  | true=>some v
  | false=>lk r i
structure Sl where
 sz:Nat
 e:Fe
def Sl.ev(a:Sl):Operand→Value
 | .tmp i=>(lk a.e i).getD undef
 | .const v=>v
 | .global g=> .pointer (some ⟨g,0,none⟩)
 | .func f=> .func (.func f) #[] #[]
def Sl.kn(a:Sl)(i:Nat):Bool:=(lk a.e i).isSome
structure Fr (a:Sl) (Ds:List Nat) (b:Act):Prop where
 size:b.tmps.size=a.sz
 get: ∀i v,lk a.e i=some v→b.tmps.getD i undef=v
 defers:b.defers=Ds.map j9
theorem Fr.ev{a:Sl}{Ds:List Nat}{b:Act}(h:Fr a Ds b): ∀{x:Operand},(∀i,x= .tmp i→a.kn i=true)→b.eval x=a.ev x
 | .tmp i,e=>by
  have c:=e i rfl;unfold Sl.kn at c;obtain⟨v,d⟩:=Option.isSome_iff_exists.1 c;show b.tmps.getD i undef=(lk a.e i).getD undef;rw[h.get i v d,d];rfl
 | .const _,_=>rfl
 | .global _,_=>rfl
 | .func _,_=>rfl
def vS(s:Sem Value):Sem Next:=do pure (.value (←s))
def rJ:Op→Option (List Operand)
 | .move x=>some [x]
 | .assign x=>some [x]
 | .load _ x=>some [x]
 | .box _ x=>some [x]
 | .alloc _=>some []
 | .nilCheck x=>some [x]
 | .unOp _ _ x=>some [x]
 | .convert _ _ x=>some [x]
 | .sliceToArrayPointer _ x=>some [x]
 | .fieldAddr _ x _=>some [x]
 | .field _ x _=>some [x]
 | .extract x _=>some [x]
 | .binOp _ _ x y _=>some [x,y]
 | .indexAddr _ x y=>some [x,y]
 | .index _ x y=>some [x,y]
 | .lookup _ x y _=>some [x,y]
 | .store _ x y=>some [x,y]
 | .makeSlice _ x y=>some [x,y]
 | .mapUpdate _ x y z=>some [x,y,z]
 | .build _ d=>some (d.toList.map (·.2))
 | .buildSlice _ _ d=>some (d.toList.map (·.2))
 | .slice _ x g f h=>some (x::(g.toList++f.toList++h.toList))
 | .makeFunc _ first e=>some (first.toList++e.toList)
 | .makeMap _ r=>some r.toList
 | .call c=>match c.callee with | .builtin _=>some c.args.toList | _=>none
 | _=>none
theorem rK{ρ ρ':Operand→Value}{xs:Array Operand}(h: ∀x∈xs.toList,ρ x=ρ' x):xs.map ρ=xs.map ρ':=Array.map_congr_left λx c=>h x (by simpa using c)
theorem um{ρ ρ':Operand→Value}{x:Option Operand}(h: ∀y∈x.toList,ρ y=ρ' y):x.map ρ=x.map ρ':=by cases x<;>simp_all
theorem BF{ρ ρ':Operand→Value}{xs:Array (Nat×Operand)}(h: ∀x∈xs.toList.map (·.2),ρ x=ρ' x):xs.map (λ(i,x)=>(i,ρ x))=xs.map (λ(i,x)=>(i,ρ' x)):=
 Array.map_congr_left λx c=>by
  obtain⟨i,x⟩:=x;simp only;rw[h x (List.mem_map.2 ⟨(i,x),by simpa using c,rfl⟩)]
theorem BG{ρ ρ':Operand→Value}{o:Oper}{l:List Operand}(h:rJ o.op=some l)(d: ∀x∈l,ρ x=ρ' x):execOp ρ o=execOp ρ' o:=by
 unfold execOp;cases f:o.op<;>rw[f] at h<;>simp only[rJ,reduceCtorEq,Option.some.injEq] at h
 case call c=>
  cases g:c.callee<;>rw[g] at h<;>simp only[reduceCtorEq,Option.some.injEq] at h
  subst h;simp only[resolve,g,rK d]
 case build=>subst h;simp only[BF d]
 case buildSlice=>subst h;simp only[BF d]
 case makeFunc=>subst h;simp only[rK λx e=>d x (ZQ _ e),rK λx e=>d x (ZR _ e)]
 case makeMap=>subst h;simp only[um d]
 case slice=>
  subst h;simp only[d _ (aa6 ..),um λx e=>d x (aab _ (ZQ _ (ZQ _ e))),um λx e=>d x (aab _ (ZQ _ (ZR _ e))),um λx e=>d x (aab _ (ZR _ e))]
 all_goals (subst h;simp only[ZO,ZM,or_false,forall_eq_or_imp,forall_eq] at d;simp only[d])
abbrev a7:=(α:Type)×(α×α)
def sE{α:Type}(a b:α):a7:=⟨α,(a,b)⟩
def sB(b:Bool):a7:=⟨Bool,(b,true)⟩
def a7.lhs(e:a7):(α:Type)×α:=⟨e.1,e.2.1⟩
def a7.rhs(e:a7):(α:Type)×α:=⟨e.1,e.2.2⟩
theorem a7.of{e:a7}(h:e.lhs=e.rhs):e.2.1=e.2.2:=by
 obtain⟨α,x,y⟩:=e;unfold a7.lhs a7.rhs at h;simp only[Sigma.mk.injEq,heq_eq_eq,true_and] at h;exact h
theorem a7.all{l:List a7}(h:l.map a7.lhs=l.map a7.rhs): ∀e∈l,e.2.1=e.2.2:=by
 induction l with
 | nil=>intro e c;simp at c
 | cons x r ih=>
  simp only[aaI,List.cons.injEq] at h;intro e c;rcases List.mem_cons.1 c with rfl | c
  ·exact a7.of h.1
  ·exact ih h.2 e c
theorem bD(h: ∀e∈[sB false],e.2.1=e.2.2):False:=by
 have:=h _ (List.mem_singleton.2 rfl);cases this
def bq:ah→List ay→Prop
 | [],[]=>True
 | x::xs,c::cs=>x.sat c∧bq xs cs
 | _,_=>False
structure aa (P:Program) (f:FuncId) (args:Array Value) (rd:ah) (O:List Nat) (wt:ab→ah) (v:ab→Value):Prop where
 ent:Enters P f
 out: ∀(w:World) (cs:List ay),bq rd cs→ez cs.flatten w→Calls P f args w λe w'=>∃E ds,e= .returned (v E)∧bq (wt E) ds∧a6 (O.flatMap λi=>bL (cs.getD i [])) ds.flatten w w'
class kz (F:Fence):Prop where
 free:Fence.free F
 lift: ∀{n:Nat} {P:Program} {f:FuncId} {args:Array Value} {w:World} {R:Ending→World→Prop},Calls P f args w R→CallsIn F n P f args w R
instance:kz Fence.wide:=⟨Bu,callsIn_wide.2⟩
instance (l:Nat):kz (Fence.wide.inRound l):=⟨Bv l,λh=>CallsIn.inRound l (callsIn_wide.2 h)⟩
section
variable (P:Program)
abbrev TD:=Oper→(Operand→Value)→List a7
def TD.ok(d:TD)(val:Value):Prop:=∀(o:Oper) (ρ:Operand→Value),(∀e∈d o ρ,e.2.1=e.2.2)→∀w,(execOp ρ o).run P w= .ok (.value val) w
structure TH (val:Value) where
 d:TD
 h:TD.ok P d val
structure MD where
 rd:Wr
 wt:ab→Wr
 eqs:List a7
def MD.bad:MD:=⟨[],λ_=>[],[sB false]⟩
def MD.ok(val:ab→Value)(f:Oper→(Operand→Value)→cD→MD)(ob:List Nat):Prop:=∀(o:Oper) (ρ:Operand→Value) (C:cD),(∀e∈(f o ρ C).eqs,e.2.1=e.2.2)→∀(w:World) (c:gC),mH (f o ρ C).rd c w→
 ∃(E:ab) (z:gC) (d:World),((execOp ρ o).run P w= .ok (.value (val E)) d∨((execOp ρ o).run P w= .ok .skip d∧val E=undef))∧(∀x∈(f o ρ C).wt E,x.2.sat (z x.1))∧a6 (ob.flatMap λp=>bL (c p)) (((f o ρ C).wt E).flatMap λx=>z x.1) w d
structure MH (val:ab→Value) where
 ob:List Nat
 d:Oper→(Operand→Value)→cD→MD
 h:MD.ok P val d ob
end
inductive b4 (P:Program):Type 1
 | v (v:Value)
 | t {val:Value} (d:TH P val)
 | u {val:Value} (d:TD) (j:Nat) (E b:Bool) (h:E=b→TD.ok P d val)
 | k (v:Value)
 | d (v:Value)
 | m {val:ab→Value} (d:MH P val)
 | c {f:FuncId} {args:Array Value} {rd:ah} {O:List Nat} {wt:ab→ah} {v:ab→Value} (ps qs:List Nat) (h:aa P f args rd O wt v)
section
variable {P:Program}
def b4.val:b4 P→ab→Value
 | .v x,_ | .k x,_ | .d x,_=>x
 | @b4.t _ val _,_=>val
 | @b4.u _ val _ _ _ _ _,_=>val
 | @b4.m _ val _,E=>val E
 | @b4.c _ _ _ _ _ _ x _ _ _,E=>x E
def b4.rd:b4 P→Oper→(Operand→Value)→cD→Wr
 | .m x,o,ρ,C=>(x.d o ρ C).rd
 | @b4.c _ _ _ rd _ _ _ ps _ _,_,_,_=>ps.zip rd
 | _,_,_,_=>[]
def b4.wt:b4 P→Oper→(Operand→Value)→cD→ab→Wr
 | .m x,o,ρ,C,E=>(x.d o ρ C).wt E
 | @b4.c _ _ _ _ _ wt _ _ qs _,_,_,_,E=>qs.zip (wt E)
 | _,_,_,_,_=>[]
def b4.ob:b4 P→List Nat
 | .m x=>x.ob
 | @b4.c _ _ _ _ O _ _ ps _ _=>O.map λi=>ps.getD i 0
 | _=>[]
end
def BH(N:Nat):List Oper→List (List Nat)→List (List Nat)
 | [],c=>c
 | o::os,c=>BH N os (c++[(o.after.toList.foldl (λl e=>if Region.binds .any e&&aaU e.on N then(e.on::(c.getD e.on [])).foldl (λl j=>if l.contains j then l else j::l) l else l) [])])
def rL:List Oper→List (List (Nat×Bool))→List (List (Nat×Bool))
 | [],c=>c
 | o::os,c=>rL os (c++[match o.guard with | none=>[] | some (j,b)=>c.getD j []++[(j,b)]])
def rO(L:List Oper)(a:Sl)(c:List Nat)(vs:List Value):Operand→Value
 | .tmp i=>match fL i L 0 with
  | some j=>if c.contains j then vs.getD j undef else a.ev (.tmp i)
  | none=>a.ev (.tmp i)
 | x=>a.ev x
abbrev BI:=List Value×cD
def BJ{P:Program}(L:List Oper)(a:Sl)(c:List (List Nat))(η:bC):List Oper→List (b4 P)→Nat→BI→List BI
 | o::os,h::hs,k,s=>s::BJ L a c η os hs (k+1) (s.1++[h.val (η k)],lW s.2 (h.wt o (rO L a (c.getD k []) s.1) s.2 (η k)))
 | _,_,_,_=>[]
def BK{α:Type}{P:Program}(L:List Oper)(a:Sl)(c:List (List Nat))(d:ah)(hs:bC→List (b4 P))(η:bC)(k:Nat)(z:α)(f:b4 P→Oper→(Operand→Value)→cD→α):α:=
 match L[k]?,(hs η)[k]?,(BJ L a c η L (hs η) 0 ([],λp=>d[p]?))[k]? with
 | some o,some h,some s=>f h o (rO L a (c.getD k []) s.1) s.2
 | _,_,_=>z
def uq{P:Program}(L:List Oper)(a:Sl)(DL:List (List Nat))(CL:List (List (Nat×Bool)))(L0:ah)(m:Nat)(hs:bC→List (b4 P)):dQ where
 val η k:=match (hs η)[k]? with | some h=>h.val | none=>λ_=>undef
 rd η k:=BK L a DL L0 hs η k [] b4.rd
 wt η k:=BK L a DL L0 hs η k (λ_=>[]) b4.wt
 ob k:=match (hs λ_=>ab.zero)[k]? with | some h=>h.ob | none=>[]
 cds k:=CL.getD k []
 D k:=DL.getD k []
 L0:=L0
 m:=m
section
variable (L:List Oper) (a:Sl) (t:dQ) (η:bC) (k:Nat)
def fC:Operand→Value
 | .tmp i=>match fL i L 0 with
  | some j=>if(t.D k).contains j then t.vs η j else a.ev (.tmp i)
  | none=>a.ev (.tmp i)
 | x=>a.ev x
def lX(C:List (Nat×Bool)):Operand→Bool
 | .tmp i=>match fL i L 0 with
  | some j=>aaU i a.sz&&(if(t.D k).contains j then(t.cds j).all (C.contains ·) else(j==k||(t.D j).contains k)&&a.kn i)
  | none=>a.kn i
 | _=>true
def nU(o:Oper):Bool:=mF o&&match rJ o.op with | some l=>l.all (lX L a t k (t.cds k)) | none=>false
def dp:List Nat→Bool
 | []=>true
 | x::r=> !r.contains x&&dp r
def I4:Value→Bool
 | .bool _=>true
 | _=>false
def dI(P:Program)(T:TypeId):Bool:=match P.underlying T with | some (.struct _)=>true | some (.array _ _)=>true | _=>false
def nV(g off:Nat):Value:= .pointer (some ⟨g,off,none⟩)
def xx:Bool→Bool→Value→Option Value
 | true,E,.bool X=>some (.bool (E&&X))
 | _,_,_=>none
def xy:Bool→Bool→Value→Option Value
 | true,E,.bool X=>some (.bool (E||X))
 | _,_,_=>none
def BL(c x y:Operand):Option Value:=
 let C:=match c with | .tmp i=>(match fL i L 0 with | some j=>if(t.D k).contains j then some j else none | none=>none) | _=>none
 let d:=match C with | some j=>t.cds k++[(j,true)] | none=>t.cds k
 let e:=match C with | some j=>t.cds k++[(j,false)] | none=>t.cds k
 match fC L a t η k c with
 | .bool E=>match y with
  | .const (.bool false)=>xx (lX L a t k d x) E (fC L a t η k x)
  | _=>match x with
   | .const (.bool true)=>xy (lX L a t k e y) E (fC L a t η k y)
   | _=>none
 | _=>none
def xz:Value→List Value→Option (FuncId×List Value)
 | .func (.func f) first c,d=>some (f,first.toList++d++c.toList)
 | _,_=>none
theorem I5{v:Value}{vs:List Value}{f:FuncId}{args:List Value}(h:xz v vs=some (f,args)): ∃first c,v= .func (.func f) first c∧args=first.toList++vs++c.toList:=by
 unfold xz at h
 split at h
 ·simp only[Option.some.injEq,Prod.mk.injEq] at h;obtain⟨rfl,rfl⟩:=h;exact⟨_,_,rfl,rfl⟩
 ·cases h
def lY{P:Program}(o:Oper):b4 P→List a7
 | .v v=>[sB (nU L a t k o),sE (λw=>(execOp (fC L a t η k) o).run P w) (λw=> .ok (.value v) w)]
 | .t d=>sB (nU L a t k o)::d.d o (fC L a t η k)
 | .u d j E b _=>sB (nU L a t k o)::sB ((t.cds k).contains (j,b))::sE (t.vs η j) (.bool E)::d o (fC L a t η k)
 | .k v=>match o.op with
  | .pick c x y=>[sB (lX L a t k (t.cds k) c),sE (BL L a t η k c x y) (some v)]
  | _=>[sB false]
 | .d _=>match (t.cds k).getLast? with
  | some (j,b)=>[sE (t.vs η j) (.bool (!b))]
  | none=>[sB false]
 | .m d=>sB (nU L a t k o)::(d.d o (fC L a t η k) (λp=>t.at η p k)).eqs
 | @b4.c _ f e l _ q _ h g _=>match o.op with
  | .call ⟨.value (.func r),xs,_⟩=>[sE r f,sB (xs.toList.all (lX L a t k (t.cds k))),sE (xs.toList.map (fC L a t η k)) e.toList,sE h.length l.length,sE (λE=>(q E).length) (λ_=>g.length),sB (dp g)]
  | .call ⟨.value (.tmp i),xs,_⟩=>[sB (lX L a t k (t.cds k) (.tmp i)),sB (xs.toList.all (lX L a t k (t.cds k))),sE (xz (fC L a t η k (.tmp i)) (xs.toList.map (fC L a t η k))) (some (f,e.toList)),sE h.length l.length,sE (λE=>(q E).length) (λ_=>g.length),sB (dp g)]
  | _=>[sB false]
def rP:Bool→Value→Bool
 | b,.bool E=>E==b
 | _,_=>false
def pW(o:Oper):List a7:=
 [sE (t.cds k) (match o.guard with | none=>[] | some (j,b)=>t.cds j++[(j,b)]),
  sB (match o.guard with
   | none=>true
   | some (j,_)=>(t.D k).contains j&&I4 (t.vs η j)&&(match (L.toArray[j]?).bind (·.dst) with | some d=>(fL d L 0==some j)&&aaU d a.sz | none=>false)),
  sB ((t.cds k).all λc=>(t.D k).contains c.1),
  sB ((t.cds k).isEmpty||(t.wr η k).isEmpty||(t.cds k).all λc=>rP c.2 (t.vs η c.1)),
  sB (((t.rd η k).map (·.1)++(t.wr η k).map (·.1)).all λp=>aaU p t.m&&(aaf L.length).all λj=>j==k||(cQ (t.wr η j) p).isNone||(aaU j k&&(t.D k).contains j)||(aaU k j&&(t.D j).contains k)),
  sB (dp ((t.rd η k).map (·.1))),
  sE ((t.rd η k).map λx=>t.at η x.1 k) ((t.rd η k).map λx=>some x.2),
  sB ((t.ob k).all λp=>(cQ (t.wr η k) p).isSome),
  sE (t.val (m8 (t.D k) η) k) (t.val η k),
  sE (t.wt (m8 (t.D k) η) k) (t.wt η k)]
def rQ{P:Program}(o:Oper)(h:b4 P):List a7:=
 [sE (t.val η k) h.val,sE (t.rd η k) (h.rd o (fC L a t η k) (λp=>t.at η p k)),sE (t.wt η k) (h.wt o (fC L a t η k) (λp=>t.at η p k)),sE (t.ob k) h.ob]
end
def fu{P:Program}(L:List Oper)(a:Sl)(t:dQ)(η:bC)(k:Nat):List Oper→List (b4 P)→List a7
 | [],[]=>[]
 | o::os,h::hs=>pW L a t η k o++(rQ L a t η k o h++lY L a t η k o h)++fu L a t η (k+1) os hs
 | _,_=>[sB false]
theorem BM{P:Program}{L:List Oper}{a:Sl}{t:dQ}{η:bC}: ∀{k:Nat} {os:List Oper} {hs:List (b4 P)},(∀e∈fu L a t η k os hs,e.2.1=e.2.2)→∀i o,os[i]? =some o→∃h,hs[i]? =some h∧∀e∈pW L a t η (k+i) o++(rQ L a t η (k+i) o h++lY L a t η (k+i) o h),e.2.1=e.2.2
 | _,[],_,_,i,o,c=>by simp at c
 | k,p::os,[],h,i,o,c=>by
  have:=h (sB false) (by simp [fu]);cases this
 | k,p::os,g::hs,h,0,o,c=>by
  simp only[aaF,Option.some.injEq] at c;subst c;exact⟨g,rfl,λe d=>h e (by unfold fu;exact ZQ _ d)⟩
 | k,p::os,g::hs,h,i+1,o,c=>by
  rw[aaG] at c;have:=BM (k:=k+1) (os:=os) (hs:=hs) (λe d=>h e (by unfold fu;exact ZR _ d)) i o c;rwa [show k+1+i=k+(i+1) by omega] at this
end
section
open Go Go.RowKit Go.Shelf
theorem ur: ∀{t:Nat} {l:List Oper} {k i:Nat},fL t l k=some i→k≤i∧(l[i-k]?).bind (·.dst)=some t
 | _,[],_,_,h=>by cases h
 | t,o::os,k,i,h=>by
  unfold fL at h;cases f:fL t os (k+1) with
  | some j=>
   rw[f] at h;cases h;obtain⟨m,g⟩:=ur f;refine⟨by omega,?_⟩;rw[show i-k=(i-(k+1))+1 by omega,aaG];exact g
  | none=>
   rw[f] at h;simp only at h;cases c:o.dst with
   | none=>rw[c] at h;cases h
   | some d=>
    rw[c] at h;simp only at h;by_cases e:d=t
    ·subst e;simp only[BEq.rfl,if_true,Option.some.injEq] at h;subst h;exact⟨ZT _,by simp [c]⟩
    ·rw[ALifn (by simpa using e)] at h;cases h
theorem BN{t:Nat}{l:List Oper}{i:Nat}(h:fL t l 0=some i):i<l.length:=by
 obtain⟨_,c⟩:=ur h;rw[abG] at c;rcases aaw i l.length with d | d
 ·exact d
 ·rw[ZZ d] at c;cases c
theorem nW: ∀{l:List Nat},dp l=true→l.Nodup
 | [],_=>List.nodup_nil
 | x::r,h=>by
  simp only[dp,ZS,Bool.not_eq_true'] at h;exact List.nodup_cons.2 ⟨by simpa using h.1,nW h.2⟩
section
variable {F:Fence} {n:Nat} {P:Program} {L:List Oper} {Q:Exit→Act→World→Prop} {a:Sl} {b:Act} {Ds:List Nat} {t:dQ} {η:bC} {k:Nat} {o:Oper} {xs:Nat→Value} {C:List (Nat×Bool)}
theorem BO(f:Fr a Ds b)(u: ∀i∈t.D k,t.Is η i (xs i))(hf: ∀i,i<L.length→(i=k∨k∈t.D i)→xs i=j8 L b i)(hC: ∀c∈C,t.vs η c.1= .bool c.2){x:Operand}(d:lX L a t k C x=true):(bp xs L 0 b).eval x=fC L a t η k x:=by
 cases x with
 | tmp i=>
  rw[uh];simp only[lX] at d;simp only[fC];cases e:fL i L 0 with
  | none=>
   rw[e] at d;exact f.ev (x:= .tmp i) λq l=>by cases l;exact d
  | some j=>
   rw[e] at d;simp only[ZS] at d;simp only;rw[ALifp (by rw[f.size];exact aaS▸d.1)];by_cases g:(t.D k).contains j=true
   ·rw[ALifp g] at d⊢;have s:j∈t.D k:=by simpa using g
    have r:t.Hold η j:=λc p=>hC c (by have:=List.all_eq_true.1 d.2 c p;simpa using this);rcases u j s with⟨_,h⟩ | ⟨h,_⟩
    ·exact h
    ·exact absurd r h
   ·rw[ALifn g] at d⊢;rw[ZS] at d;have m:j=k∨k∈t.D j:=by simpa using d.2.1
    rw[hf j (BN e) m];unfold j8;have:=(ur e).2;rw[abG] at this;rw[this];exact f.ev (x:= .tmp i) λq l=>by cases l;exact d.2.2
 | _=>rfl
theorem pX(g:Fence.free F){b:Act}{w w':World}{v:Value}{K:Value→World→Prop}(d:mF o=true)(i:(execOp b.eval o).run P w= .ok (.value v) w')(h:K v w'):o.wpIn F n P b w (λc e=>∃v,c=b.put o.dst v∧K v e) Q:=by
 unfold Oper.wpIn;refine⟨λf _=>g.2 f,?_⟩;rw[Oper.semAt_plain F _ o (Br d),i];exact⟨v,rfl,h⟩
theorem I6(g:Fence.free F){b:Act}{w w':World}{K:Value→World→Prop}(d:mF o=true)(i:(execOp b.eval o).run P w= .ok .skip w')(h:K undef w'):o.wpIn F n P b w (λc e=>∃v,c=b.put o.dst v∧K v e) Q:=by
 unfold Oper.wpIn;refine⟨λf _=>g.2 f,?_⟩;rw[Oper.semAt_plain F _ o (Br d),i];exact⟨undef,rfl,h⟩
theorem I7(l:Fence.free F){b:Act}{w:World}{K:Value→World→Prop}{f:FuncId}{g:Array Operand}{j:Array TypeId}{vs:Array Value}(q:o.op= .call {callee:= .value (.func f),args:=g,argTypes:=j})(r:Enters P f)(hv:g.map b.eval=vs)
  (h:CallsIn F (n-1) P f vs w λe d=>∃v,e= .returned v∧K v d):o.wpIn F n P b w (λi d=>∃v,i=b.put o.dst v∧K v d) Q:=by
 subst hv;unfold Oper.wpIn;refine⟨λf _=>l.2 f,?_⟩;have u:(execOp b.eval o).run P w= .ok (.enter f (g.map b.eval)) w:=by
  unfold execOp;simp only[q,resolve,show b.eval (.func f)= .func (.func f) #[] #[] from rfl,Deferred.ofValue,ZK,ZP,ZJ,invoke];rw[r];simp
 rw[Oper.semAt_plain F _ o (λc m=>by rw[q] at m;cases m),u];refine⟨λp=>(by rw[l.1] at p;cases p),h.mono ?_⟩;rintro e d ⟨v,rfl,s⟩;exact⟨v,rfl,s⟩
theorem I8(l:Fence.free F){b:Act}{w:World}{K:Value→World→Prop}{f:FuncId}{x:Operand}{g:Array Operand}{j:Array TypeId}{first cap vs:Array Value}(q:o.op= .call {callee:= .value x,args:=g,argTypes:=j})(r:Enters P f)(y:b.eval x= .func (.func f) first cap)(hv:first++g.map b.eval++cap=vs)
  (h:CallsIn F (n-1) P f vs w λe d=>∃v,e= .returned v∧K v d):o.wpIn F n P b w (λi d=>∃v,i=b.put o.dst v∧K v d) Q:=by
 subst hv;unfold Oper.wpIn;refine⟨λf _=>l.2 f,?_⟩;have u:(execOp b.eval o).run P w= .ok (.enter f (first++g.map b.eval++cap)) w:=by
  unfold execOp;simp only[q,resolve,y,Deferred.ofValue,ZK,ZP,ZJ,invoke];rw[r]
 rw[Oper.semAt_plain F _ o (λc m=>by rw[q] at m;cases m),u];refine⟨λp=>(by rw[l.1] at p;cases p),h.mono ?_⟩;rintro e d ⟨v,rfl,s⟩;exact⟨v,rfl,s⟩
theorem a6.grow{O c:List Nat}{N:ay}{W d:World}(h:a6 O N W d)(hs: ∀b∈O,b∈c):a6 c N W d:=
 ⟨h.os,h.tape,h.output,h.size,h.obj,λx i=>(h.new x i).imp (hs _) id,h.nd,λb e g=>h.far b e λf=>g (hs b f)⟩
theorem a6.refl(W:World):a6 [] [] W W:=⟨rfl,rfl,rfl,ZT _,λ_ h=>by simp at h,λ_ h=>by simp at h,List.Pairwise.nil,λ_ _ _=>rfl⟩
theorem a6.alloc(W:World)(o:Obj):a6 [] [(W.heap.size,o)] W (W.alloc o):=
 have h:=(Below.refl W.heap.size W).alloc (ZT _) o
 ⟨h.os,h.tape,h.output,h.size,λx c=>by obtain rfl:=List.mem_singleton.1 c;exact aaQ W o,λx c=>by obtain rfl:=List.mem_singleton.1 c;exact .inr (ZT _),aap _ _,λb d _=>h.block b d⟩
theorem a6.put{W c:World}{g:Nat}{l:Obj}(f:c.os=W.os)(i:c.tape=W.tape)(d:c.output=W.output)(h:c.heap.size=W.heap.size)
  (p:c.heap[g]? =some l) (hf: ∀b,b≠g→c.heap[b]? =W.heap[b]?):a6 [g] [(g,l)] W c:=
 ⟨f,i,d,Nat.le_of_eq h.symm,λx j=>by obtain rfl:=List.mem_singleton.1 j;exact p,λx j=>by obtain rfl:=List.mem_singleton.1 j;exact .inl (List.mem_singleton.2 rfl),aap _ _,λb _ m=>hf b λe=>m (List.mem_singleton.2 e)⟩
theorem a6.setc{W:World}{g i:Nat}{t:TypeId}{cs:Array Value}(v:Value)(c:W.heap[g]? =some (.cells cs t (0,0))):a6 [g] [(g,.cells (cs.setIfInBounds i v) t (0,0))] W (W.setCell ⟨g,i,none⟩ v):=
 a6.put rfl rfl rfl (by simp [World.setCell]) (heap_setCell_same W g i cs t v c) (λb c=>heap_setCell_other W ⟨g,i,none⟩ b v c)
theorem a6.setRow{W:World}{g:Nat}{t:TypeId}{cs:Array Value}(c:Array Value)(d:W.heap[g]? =some (.cells cs t (0,0))):a6 [g] [(g,.cells c t (0,0))] W (W.setRow g c):=
 a6.put rfl rfl rfl (by simp) (setRow_heap W g cs c t (0,0) d) (λb d=>setRow_other W g b c d)
theorem uu{W:World}{g i:Nat}{T t:TypeId}{cs:Array Value}{v:Value}(l:W.heap[g]? =some (.cells cs t (0,0)))(p:i<cs.size)(h1:v.oneCell'=true)(e:(P.info? T).map (·.size)=some 1):(storeVar T ⟨g,i,none⟩ v).run P W= .ok () (W.setCell ⟨g,i,none⟩ v):=by
 have d:mE W g t cs:=l;cases f:P.info? T with
 | none=>simp [f] at e
 | some j=>
  have q:j.size=1:=by simpa [f] using e
  have m:v.cells=#[v]:=by cases v<;>first | rfl | simp [Value.oneCell'] at h1
  have h:(store ⟨g,i,none⟩ v).run P W= .ok () (W.setCell ⟨g,i,none⟩ v):=by
   rw[run_store P W ⟨g,i,none⟩ v .plain h1];have c:W.cell? ⟨g,i,none⟩=some cs[i]:=(d.cell i).trans (Array.getElem?_eq_getElem p);simp [c,d.frozen i]
  unfold storeVar;simp only[sizeOf,typeInfo,m,ZK];simp [f,q,storeCells,Addr.add,ZK,h]
theorem m9(S:Fr a Ds b)(N: ∀e∈pW L a t η k o,e.2.1=e.2.2):
  uj L b t k o η∧(∀c∈t.cds k,c.1∈t.D k)∧(t.cds k≠[]→t.wr η k=[]∨t.Hold η k)∧(∀x∈t.rd η k,free L t η k x.1∧t.at η x.1 k=some x.2)∧((t.rd η k).map (·.1)).Nodup∧
  (∀x∈t.wr η k,free L t η k x.1)∧(∀p∈t.ob k,∃x,(p,x)∈t.wr η k)∧
  t.val (m8 (t.D k) η) k=t.val η k∧t.wt (m8 (t.D k) η) k=t.wt η k:=by
 simp only[pW,ZO,ZM,or_false,forall_eq_or_imp,forall_eq,sE,sB] at N;obtain⟨A,v,T,K,U,V,W,X,B,D⟩:=N;have r: ∀p∈(t.rd η k).map (·.1)++(t.wr η k).map (·.1),free L t η k p:=by
  intro p J;have s:=List.all_eq_true.1 U p J;simp only[ZS] at s;refine⟨aaS▸s.1,λj Z H O=>?_⟩;have q:=List.all_eq_true.1 s.2 j (List.mem_range.2 Z);simp only[aat,ZS,beq_iff_eq] at q;rcases q with((q | q) | ⟨q,m⟩) | ⟨q,m⟩
  ·exact absurd q H
  ·rw[Option.isNone_iff_eq_none] at q;rw[q] at O;cases O
  ·exact .inl ⟨aaS▸q,by simpa using m⟩
  ·exact .inr ⟨aaS▸q,by simpa using m⟩
 have y: ∀{α:Type} {l:Wr} {f g:Nat×aA→α},l.map f=l.map g→∀x∈l,f x=g x:=λ{α l f g} h x u=>by
  obtain⟨i,Y,rfl⟩:=Z4 u;have:=ALca (λz=>z[i]?) h;simpa [Y] using this
 refine⟨?_,?_,?_,?_,nW V,?_,?_,B,D⟩
 ·unfold uj;cases w:o.guard with
  | none=>rw[w] at A;exact A
  | some jb=>
   obtain⟨j,b⟩:=jb;rw[w] at A v;simp only[ZS] at v;refine⟨A,by simpa using v.1.1,?_,?_⟩
   ·have m:=v.1.2;cases hv:t.vs η j with
    | bool E=>exact⟨E,rfl⟩
    | _=>rw[hv] at m;cases m
   ·have m:=v.2;cases M:(L.toArray[j]?).bind (·.dst) with
    | none=>rw[M] at m;cases m
    | some d=>
     rw[M] at m;simp only[ZS,beq_iff_eq] at m;exact⟨d,rfl,m.1,by rw[S.size];exact m.2⟩
 ·intro c G;have:=List.all_eq_true.1 T c G;simpa using this
 ·intro I;simp only[aat,List.isEmpty_iff] at K;refine(K.elim (λh=>h.elim (λh=>absurd h I) .inl) λh=> .inr λc G=>?_);have s:=List.all_eq_true.1 h c G;unfold rP at s
  split at s
  ·rename_i b E q m;rw[m,eq_of_beq s]
  ·cases s
 ·intro x u;exact⟨r _ (ZQ _ (List.mem_map.2 ⟨x,u,rfl⟩)),y W x u⟩
 ·intro x u;exact r _ (ZR _ (List.mem_map.2 ⟨x,u,rfl⟩))
 ·intro p J;have s:=List.all_eq_true.1 X p J;obtain⟨x,u⟩:=Option.isSome_iff_exists.1 s;exact⟨x,rH u⟩
end
theorem I9{b E:Bool}{x v:Value}(h:xx b E x=some v):b=true∧∃X,x= .bool X∧v= .bool (E&&X):=by
 unfold xx at h
 split at h
 ·cases h;exact⟨rfl,_,rfl,rfl⟩
 ·cases h
theorem Ja{b E:Bool}{x v:Value}(h:xy b E x=some v):b=true∧∃X,x= .bool X∧v= .bool (E||X):=by
 unfold xy at h
 split at h
 ·cases h;exact⟨rfl,_,rfl,rfl⟩
 ·cases h
theorem jO: ∀{rd:ah} {cs:List ay},bq rd cs→rd.length=cs.length
 | [],[],_=>rfl
 | _::_,_::_,h=>by rw[Z6,Z6,jO h.2]
 | [],_::_,h=>h.elim
 | _::_,[],h=>h.elim
theorem xA{c:gC}: ∀{d:List Nat} {rd:ah},d.length=rd.length→(∀x∈d.zip rd,x.2.sat (c x.1))→bq rd (d.map c)
 | [],[],_,_=>trivial
 | p::d,x::rd,h,e=>⟨e (p,x) (by simp),xA (by simpa using h) λy f=>e y (by rw[aa7];exact aab _ f)⟩
 | [],_::_,h,_=>by simp at h
 | _::_,[],h,_=>by simp at h
theorem pY{c:gC}: ∀{d:List Nat} {rd:ah},d.length=rd.length→(d.zip rd).flatMap (λx=>c x.1)=(d.map c).flatten
 | [],[],_=>rfl
 | p::d,x::rd,h=>by rw[aa7,ZU,aaI,aaM,pY (by simpa using h)]
 | [],_::_,h=>by simp at h
 | _::_,[],h=>by simp at h
def lZ:List Nat→List ay→gC
 | q::qs,d::ds=>λp=>if p=q then d else lZ qs ds p
 | _,_=>λ_=>[]
theorem uv: ∀{qs:List Nat} {ds:List ay},qs.length=ds.length→qs.Nodup→qs.map (lZ qs ds)=ds
 | [],[],_,_=>rfl
 | q::qs,d::ds,h,c=>by
  rw[List.nodup_cons] at c;have e: ∀p∈qs,lZ (q::qs) (d::ds) p=lZ qs ds p:=λp f=>ALifn λ(e:p=q)=>c.1 (e▸f);rw[aaI,abv e,uv (by simpa using h) c.2];exact ALca (· ::ds) (ALifp rfl)
 | [],_::_,h,_=>by simp at h
 | _::_,[],h,_=>by simp at h
theorem uw{c:gC}: ∀{qs:List Nat} {rd:ah} {ds:List ay},qs.map c=ds→bq rd ds→∀x∈qs.zip rd,x.2.sat (c x.1)
 | [],_,_,_,_,x,d=>by simp at d
 | q::qs,[],_,_,_,x,d=>by simp at d
 | q::qs,y::rd,ds,e,f,x,d=>by
  subst e;rw[aa7] at d;rcases List.mem_cons.1 d with rfl | d
  ·exact f.1
  ·exact uw rfl f.2 x d
section
variable {F:Fence} {n:Nat} {P:Program} {L:List Oper} {Q:Exit→Act→World→Prop} {a:Sl} {b:Act} {Ds:List Nat} {t:dQ} {η:bC} {k:Nat} {o:Oper}
theorem Jc[hL:kz F](HB:Fr a Ds b)(h:b4 P)(hq: ∀e∈rQ L a t η k o h,e.2.1=e.2.2)
  (he: ∀e∈lY L a t η k o h,e.2.1=e.2.2):BC F n P L Q b t η k o:=by
 have hF:=hL.free
 simp only[rQ,ZO,ZM,or_false,forall_eq_or_imp,forall_eq,sE] at hq
 obtain⟨hv,hrd,hwt,hob⟩:=hq
 refine⟨λxs w' c hx hf hH hC K hK=>?_⟩
 rw[hrd] at hH
 rw[hv,hwt,hob] at hK
 have ev: ∀{x},lX L a t k (t.cds k) x=true→(bp xs L 0 b).eval x=fC L a t η k x:=λho=>BO HB hx hf hC ho
 have nd:nU L a t k o=true→mF o=true:=λh=>by unfold nU at h;simp only[ZS] at h;exact h.1
 have cg:nU L a t k o=true→execOp (bp xs L 0 b).eval o=execOp (fC L a t η k) o:=λh=>by
  unfold nU at h
  simp only[ZS] at h
  cases hl:rJ o.op with
  | none=>rw[hl] at h;cases h.2
  | some l=>
   rw[hl] at h
   exact BG hl λx hxl=>ev (List.all_eq_true.1 h.2 x hxl)
 cases h with
 | v v=>
  simp only[lY,ZO,ZM,or_false,forall_eq_or_imp,forall_eq,sE,sB] at he
  exact pX hF (nd he.1) (by rw[cg he.1];exact congrFun he.2 w') (hK ab.zero (λ_=>[]) w' (λx h=>by simp [b4.wt] at h) (by simpa [b4.wt,b4.ob] using a6.refl w'))
 | t d=>
  simp only[lY,ZO,forall_eq_or_imp,sB] at he
  exact pX hF (nd he.1) (by rw[cg he.1];exact d.h o _ he.2 w') (hK ab.zero (λ_=>[]) w' (λx h=>by simp [b4.wt] at h) (by simpa [b4.wt,b4.ob] using a6.refl w'))
 | u d j E b h=>
  simp only[lY,ZO,forall_eq_or_imp,sE,sB] at he
  obtain⟨h1,h2,h3,h4⟩:=he
  have hE:E=b:=by
   have:=hC (j,b) (by simpa using h2)
   rw[h3] at this
   exact Value.bool.inj this
  exact pX hF (nd h1) (by rw[cg h1];exact h hE o _ h4 w') (hK ab.zero (λ_=>[]) w' (λx h=>by simp [b4.wt] at h) (by simpa [b4.wt,b4.ob] using a6.refl w'))
 | k v=>
  simp only[lY] at he
  have hz:K v w':=hK ab.zero (λ_=>[]) w' (λx h=>by simp [b4.wt] at h) (by simpa [b4.wt,b4.ob] using a6.refl w')
  split at he
  ·rename_i c x y hop
   simp only[ZO,ZM,or_false,forall_eq_or_imp,forall_eq,sE,sB] at he
   obtain⟨h1,h2⟩:=he
   have hnd:mF o=true:=by unfold mF;rw[hop]
   refine pX hF hnd ?_ (hz)
   have hc:=ev h1
   have evC: ∀{z:Operand} {E bb:Bool},fC L a t η k c= .bool E→E=bb→
     lX L a t k (match (match c with | .tmp i=>(match fL i L 0 with | some j=>if(t.D k).contains j then some j else none | none=>none) | _=>none) with | some j=>t.cds k++[(j,bb)] | none=>t.cds k) z=true→(bp xs L 0 b).eval z=fC L a t η k z:=by
    intro z E bb hcE hEb hz
    refine BO HB hx hf ?_ hz
    intro q hq
    cases c with
    | tmp i=>
     simp only at hq hcE
     simp only[fC] at hcE
     cases hw:fL i L 0 with
     | none=>rw[hw] at hq;exact hC q hq
     | some j=>
      rw[hw] at hq hcE
      simp only at hq hcE
      by_cases hd:(t.D k).contains j=true
      ·rw[ALifp hd] at hq hcE
       simp only at hq
       rcases List.mem_append.1 hq with h3 | h3
       ·exact hC q h3
       ·obtain rfl:=List.mem_singleton.1 h3
        rw[←hEb]
        exact hcE
      ·rw[ALifn hd] at hq
       exact hC q hq
    | _=>exact hC q hq
   unfold BL at h2
   simp only at h2
   split at h2
   ·rename_i E hcE
    have hcv:=hc.trans hcE
    split at h2
    ·obtain⟨hok,X,hX,rfl⟩:=I9 h2
     cases E with
     | false=>exact pV hop hcv rfl
     | true=>exact pV hop hcv ((evC hcE rfl hok).trans hX)
    ·split at h2
     ·obtain⟨hok,Y,hY,rfl⟩:=Ja h2
      cases E with
      | false=>exact pV hop hcv ((evC hcE rfl hok).trans hY)
      | true=>exact pV hop hcv rfl
     ·cases h2
   ·cases h2
  ·exact(bD he).elim
 | d v=>
  simp only[lY] at he
  split at he
  ·rename_i j b hl
   simp only[ZO,ZM,or_false,forall_eq,sE] at he
   have hm:=List.mem_of_getLast? hl
   have:=hC (j,b) hm
   rw[he] at this
   cases b<;>cases this
  ·exact(bD he).elim
 | m d=>
  simp only[lY,ZO,forall_eq_or_imp,sB] at he
  obtain⟨E,z,w'',hr,hs,hst⟩:=d.h o (fC L a t η k) (λp=>t.at η p k) he.2 w' c hH
  rcases hr with hr | ⟨hr,hu⟩
  ·exact pX hF (nd he.1) (by rw[cg he.1];exact hr) (hK E z w'' hs hst)
  ·refine I6 hF (nd he.1) (by rw[cg he.1];exact hr) ?_
   have:=hK E z w'' hs hst
   rw[show(b4.m d).val E=undef from hu] at this
   exact this
 | @c f args rd O wt v ps qs h=>
  simp only[lY] at he
  split at he
  ·rename_i f' xs' ats hop
   simp only[ZO,ZM,or_false,forall_eq_or_imp,forall_eq,sE,sB] at he
   obtain⟨h1,h2,h3,h4,h5,h6⟩:=he
   subst h1
   have hm:xs'.map (bp xs L 0 b).eval=args:=by
    rw[rK (ρ':=fC L a t η k) λx hx=>ev (List.all_eq_true.1 h2 x hx)]
    apply Array.toList_inj.1
    rw[Array.toList_map]
    exact h3
   have hs:=xA (c:=c) h4 hH.sat
   have hh:=hH.has
   rw[show b4.rd (b4.c ps qs h) o (fC L a t η k) (λp=>t.at η p k)=ps.zip rd from rfl,pY h4] at hh
   refine I7 hF hop h.ent hm ((hL.lift (h.out w' _ hs hh)).mono ?_)
   rintro e w'' ⟨E,ds,rfl,hd,hst⟩
   have hl:qs.length=ds.length:=by rw[←jO hd];exact(congrFun h5 E).symm
   have hpl:=uv hl (nW h6)
   refine⟨_,rfl,hK E (lZ qs ds) w'' (uw hpl hd) ?_⟩
   show a6 ((O.map λi=>ps.getD i 0).flatMap λp=>bL (c p)) ((qs.zip (wt E)).flatMap λx=>lZ qs ds x.1) w' w''
   rw[pY (by rw[hl,jO hd]),hpl]
   refine hst.grow ?_
   intro b hb
   obtain⟨i,hi,hb⟩:=List.mem_flatMap.1 hb
   refine List.mem_flatMap.2 ⟨ps.getD i 0,List.mem_map.2 ⟨i,hi,rfl⟩,?_⟩
   by_cases hlt:i<ps.length
   ·rw[ZN,Z3,ZL hlt] at hb
    rw[ZN,ZL hlt]
    exact hb
   ·rw[ZN,ZZ (by rw[aa0];omega)] at hb
    simp at hb
  ·rename_i ti xs' ats hop
   simp only[ZO,ZM,or_false,forall_eq_or_imp,forall_eq,sE,sB] at he
   obtain⟨h1,h2,h3,h4,h5,h6⟩:=he
   obtain⟨first,cap,hfv,hargs⟩:=I5 h3
   have hxv:=(ev h1).trans hfv
   have hm:first++xs'.map (bp xs L 0 b).eval++cap=args:=by
    rw[rK (ρ':=fC L a t η k) λx hx=>ev (List.all_eq_true.1 h2 x hx)]
    apply Array.toList_inj.1
    rw[Array.toList_append,Array.toList_append,Array.toList_map]
    exact hargs.symm
   have hs:=xA (c:=c) h4 hH.sat
   have hh:=hH.has
   rw[show b4.rd (b4.c ps qs h) o (fC L a t η k) (λp=>t.at η p k)=ps.zip rd from rfl,pY h4] at hh
   refine I8 hF hop h.ent hxv hm ((hL.lift (h.out w' _ hs hh)).mono ?_)
   rintro e w'' ⟨E,ds,rfl,hd,hst⟩
   have hl:qs.length=ds.length:=by rw[←jO hd];exact(congrFun h5 E).symm
   have hpl:=uv hl (nW h6)
   refine⟨_,rfl,hK E (lZ qs ds) w'' (uw hpl hd) ?_⟩
   show a6 ((O.map λi=>ps.getD i 0).flatMap λp=>bL (c p)) ((qs.zip (wt E)).flatMap λx=>lZ qs ds x.1) w' w''
   rw[pY (by rw[hl,jO hd]),hpl]
   refine hst.grow ?_
   intro b hb
   obtain⟨i,hi,hb⟩:=List.mem_flatMap.1 hb
   refine List.mem_flatMap.2 ⟨ps.getD i 0,List.mem_map.2 ⟨i,hi,rfl⟩,?_⟩
   by_cases hlt:i<ps.length
   ·rw[ZN,Z3,ZL hlt] at hb
    rw[ZN,ZL hlt]
    exact hb
   ·rw[ZN,ZZ (by rw[aa0];omega)] at hb
    simp at hb
  ·exact(bD he).elim
end
def jP(c:Bool)(L:List Oper):List (List Nat):=if c then BH L.length L [] else(aaf L.length).map aaf
section
variable {F:Fence} {n:Nat} {P:Program} {L:List Oper} {Q:Exit→Act→World→Prop} {a:Sl} {R:List Nat} {base:World}
theorem BP[hL:kz F]{b:Act}{Ds:List Nat}(g:Fr a Ds b){t:dQ}{hs:bC→List (b4 P)}
  (r: ∀η,(fu L a t η 0 L (hs η)).map a7.lhs=(fu L a t η 0 L (hs η)).map a7.rhs):jN F n P L Q b t:=by
 have i: ∀η k o,L[k]? =some o→∃h,(hs η)[k]? =some h∧(∀e∈pW L a t η k o,e.2.1=e.2.2)∧(∀e∈rQ L a t η k o h,e.2.1=e.2.2)∧∀e∈lY L a t η k o h,e.2.1=e.2.2:=by
  intro η k o l;obtain⟨h,m,d⟩:=BM (a7.all (r η)) k o l;rw[ZV] at d;exact⟨h,m,λe j=>d e (ZQ _ j),λe j=>d e (ZR _ (ZQ _ j)),λe j=>d e (ZR _ (ZR _ j))⟩
 have c: ∀η k,k<L.length→∃o,L[k]? =some o∧∀e∈pW L a t η k o,e.2.1=e.2.2:=by
  intro η k f;obtain⟨h,m,d,_⟩:=i η k L[k] (ZL f);exact⟨_,ZL f,d⟩
 refine⟨?_,?_,?_,?_,?_,?_,?_,?_,?_,?_⟩
 ·intro η k o l;obtain⟨h,_,_,p,q⟩:=i η k o l;exact Jc g h p q
 ·intro η k o l;obtain⟨h,_,d,_⟩:=i η k o l;exact(m9 g d).1
 ·intro k f;obtain⟨o,_,d⟩:=c (λ_=>ab.zero) k f;exact(m9 g d).2.1
 ·intro η k f;obtain⟨o,_,d⟩:=c η k f;exact(m9 g d).2.2.1
 ·intro η k f;obtain⟨o,_,d⟩:=c η k f;exact(m9 g d).2.2.2.1
 ·intro η k f;obtain⟨o,_,d⟩:=c η k f;exact(m9 g d).2.2.2.2.1
 ·intro η k f;obtain⟨o,_,d⟩:=c η k f;exact(m9 g d).2.2.2.2.2.1
 ·intro η k f;obtain⟨o,_,d⟩:=c η k f;exact(m9 g d).2.2.2.2.2.2.1
 ·intro η k f;obtain⟨o,_,d⟩:=c η k f;exact(m9 g d).2.2.2.2.2.2.2.1
 ·intro η k f;obtain⟨o,_,d⟩:=c η k f;exact(m9 g d).2.2.2.2.2.2.2.2
end
end
section
open Go Go.RowKit Go.Shelf
section
variable {P:Program}
theorem ux{w:World}{g off:Nat}{c T:TypeId}{cs:Array Value}{l:List Value}(d:w.heap[g]? =some (.cells cs c (0,0)))(i:(cs.toList.drop off).take l.length=l)(h:dI P T=true)(f:(P.info? T).map (·.size)=some l.length):(loadVar T ⟨g,off,none⟩).run P w= .ok (.agg l.toArray) w:=by
 unfold dI at h
 split at h
 ·rename_i e;exact Bx w g off c T cs l d i e rfl f
 ·rename_i e;exact Bx w g off c T cs l d i e rfl f
 ·cases h
theorem mH.one{p g:Nat}{x:Obj}{c:gC}{w:World}(h:mH [(p,.c [(g,x)])] c w):c p=[(g,x)]∧w.heap[g]? =some x:=by
 have d:c p=[(g,x)]:=h.sat _ (List.mem_singleton.2 rfl);exact⟨d,h.has.obj (g,x) (by simp [d])⟩
def ab.of(b:Nat):ab:=⟨λ_=>b,λ_=>0,λ_=>undef⟩
theorem l0{s:Sem Value}{v:Value}{w w':World}(h:s.run P w= .ok v w'):(vS s).run P w= .ok (.value v) w':=by
 unfold vS;simp only[ZK,h,ZJ,ZP]
def tv{v:Value}(s:Sem Value)(h: ∀w,s.run P w= .ok v w):TH P v:=⟨λo ρ=>[sE (λw=>(execOp ρ o).run P w) (λw=>(vS s).run P w)],λo ρ c w=>by
 simp only[aas,forall_eq,sE] at c;exact(congrFun c w).trans (l0 (h w))⟩
def rS(P:Program)(T:TypeId):Array Value:=match (P.info? T).bind (·.zero) with | some v=>v.cells | none=>#[]
def kX:Value→Option (Nat×Nat)
 | .pointer (some ⟨g,c,none⟩)=>some (g,c)
 | _=>none
theorem na{v:Value}{g off:Nat}(h:kX v=some (g,off)):v= .pointer (some ⟨g,off,none⟩):=by
 unfold kX at h
 split at h
 ·cases h;rfl
 ·cases h
def xB(P:Program)(p:Nat)(v:Value)(o:Oper)(ρ:Operand→Value)(C:cD):MD:=match o.op,C p with
 | .load T x,some (.c [(g,.cells e h (0,0))])=>match kX (ρ x) with
  | some (f,d)=>⟨[(p,ob g e h)],λ_=>[],[sE f g,sE e[d]? (some v),sE (λw=>(isAgg T).run P w) (λw=> .ok false w)]⟩
  | none=>MD.bad
 | _,_=>MD.bad
theorem Jd(p:Nat)(v:Value):MD.ok P (λ_=>v) (xB P p v) []:=by
 intro o ρ C d w c f;unfold xB at d f⊢
 split at d
 ·rename_i T x g l y e s;simp only[e,s] at f⊢
  split at d
  ·rename_i m i j;simp only[j] at f⊢;simp only[ZO,ZM,or_false,forall_eq_or_imp,forall_eq,sE] at d;obtain⟨rfl,q,r⟩:=d;have u:mE w m y l:=f.one.2;refine⟨ab.zero,λ_=>[],w,.inl ?_,λx h=>by simp at h,by simpa using a6.refl w⟩;unfold execOp;simp only[e,na j,Instr.loadAt,Instr.sureAddr,ZK,ZP,ZJ,rC (congrFun r w) ((u.cell i).trans q)]
  ·exact(bD d).elim
 ·exact(bD d).elim
def ld(p:Nat)(v:Value):MH P (λ_=>v):=⟨[],xB P p v,Jd p v⟩
def xC(P:Program)(p g off:Nat)(cs:Array Value)(t:TypeId)(o:Oper)(ρ:Operand→Value)(_:cD):MD:=match o.op with
 | .load T x=>⟨[(p,ob g cs t)],λ_=>[],[sE (kX (ρ x)) (some (g,off)),sE (λw=>(isAgg T).run P w) (λw=> .ok false w)]⟩
 | _=>MD.bad
theorem Je(p g off:Nat)(cs:Array Value)(t:TypeId)(v:Value)(h:cs[off]? =some v):MD.ok P (λ_=>v) (xC P p g off cs t) []:=by
 intro o ρ C d w c f;unfold xC at d f⊢
 split at d
 ·rename_i T x e;simp only[e] at f⊢;simp only[ZO,ZM,or_false,forall_eq_or_imp,forall_eq,sE] at d;obtain⟨j,i⟩:=d;have l:mE w g t cs:=f.one.2;refine⟨ab.zero,λ_=>[],w,.inl ?_,λx h=>by simp at h,by simpa using a6.refl w⟩;unfold execOp;simp only[e,na j,Instr.loadAt,Instr.sureAddr,ZK,ZP,ZJ,rC (congrFun i w) ((l.cell off).trans h)]
 ·exact(bD d).elim
def lt{v:Value}(p g off:Nat)(cs:Array Value)(t:TypeId)(h:cs[off]? =some v):MH P (λ_=>v):=⟨[],xC P p g off cs t,Je p g off cs t v h⟩
def xD(P:Program)(p:Nat)(l:List Value)(o:Oper)(ρ:Operand→Value)(C:cD):MD:=match o.op,C p with
 | .load T x,some (.c [(g,.cells e h (0,0))])=>match kX (ρ x) with
  | some (f,d)=>⟨[(p,ob g e h)],λ_=>[],[sE f g,sE ((e.toList.drop d).take l.length) l,sB (dI P T),sE ((P.info? T).map (·.size)) (some l.length)]⟩
  | none=>MD.bad
 | _,_=>MD.bad
theorem Jf(p:Nat)(l:List Value):MD.ok P (λ_=> .agg l.toArray) (xD P p l) []:=by
 intro o ρ C d w c f;unfold xD at d f⊢
 split at d
 ·rename_i T x g u y e r;simp only[e,r] at f⊢
  split at d
  ·rename_i v s i;simp only[i] at f⊢;simp only[ZO,ZM,or_false,forall_eq_or_imp,forall_eq,sE,sB] at d;obtain⟨rfl,j,m,q⟩:=d;refine⟨ab.zero,λ_=>[],w,.inl ?_,λx h=>by simp at h,by simpa using a6.refl w⟩;unfold execOp;simp only[e,na i,Instr.loadAt,Instr.sureAddr,ZK,ZP,ZJ,ux f.one.2 j m q]
  ·exact(bD d).elim
 ·exact(bD d).elim
def ls(p:Nat)(l:List Value):MH P (λ_=> .agg l.toArray):=⟨[],xD P p l,Jf p l⟩
def xF(P:Program)(p g off:Nat)(cs:Array Value)(t:TypeId)(l:List Value)(o:Oper)(ρ:Operand→Value)(_:cD):MD:=match o.op with
 | .load T x=>⟨[(p,ob g cs t)],λ_=>[],[sE (kX (ρ x)) (some (g,off)),sB (dI P T),sE ((P.info? T).map (·.size)) (some l.length)]⟩
 | _=>MD.bad
theorem Jg(p g off:Nat)(cs:Array Value)(t:TypeId)(l:List Value)(h:(cs.toList.drop off).take l.length=l):MD.ok P (λ_=> .agg l.toArray) (xF P p g off cs t l) []:=by
 intro o ρ C d w c f;unfold xF at d f⊢
 split at d
 ·rename_i T x e;simp only[e] at f⊢;simp only[ZO,ZM,or_false,forall_eq_or_imp,forall_eq,sE,sB] at d;obtain⟨m,i,j⟩:=d;refine⟨ab.zero,λ_=>[],w,.inl ?_,λx h=>by simp at h,by simpa using a6.refl w⟩;unfold execOp;simp only[e,na m,Instr.loadAt,Instr.sureAddr,ZK,ZP,ZJ,ux f.one.2 h i j]
 ·exact(bD d).elim
def lg(p g off:Nat)(cs:Array Value)(t:TypeId)(l:List Value)(h:(cs.toList.drop off).take l.length=l):MH P (λ_=> .agg l.toArray):=⟨[],xF P p g off cs t l,Jg p g off cs t l h⟩
def xG(P:Program)(p:Nat)(o:Oper)(_:Operand→Value)(_:cD):MD:=match o.op with
 | .alloc T=>⟨[],λE=>[(p,ob (E.y 0) (rS P T) T)],[sE (λw=>(Instr.alloc T true (.tuple #[])).run P w) (λw=> .ok (nV w.heap.size 0) (w.alloc (.cells (rS P T) T)))]⟩
 | _=>MD.bad
theorem Jh(p:Nat):MD.ok P (λE=> .pointer (some ⟨E.y 0,0,none⟩)) (xG P p) []:=by
 intro o ρ C d w c f;unfold xG at d f⊢
 split at d
 ·rename_i T e;simp only[e] at f⊢;simp only[aas,forall_eq,sE,nV] at d;refine⟨ab.of w.heap.size,λ_=>[(w.heap.size,.cells (rS P T) T (0,0))],_,.inl ?_,λx h=>?_,by simpa using a6.alloc w (.cells (rS P T) T)⟩
  ·unfold execOp;have:=congrFun d w;simp only[e,ZK,this,ZJ,ZP];rfl
  ·rw[List.mem_singleton.1 h];rfl
 ·exact(bD d).elim
def al(p:Nat):MH P (λE=> .pointer (some ⟨E.y 0,0,none⟩)):=⟨[],xG P p,Jh p⟩
def xH(p:Nat)(o:Oper)(ρ:Operand→Value)(_:cD):MD:=match o.op with
 | .box T x=>⟨[],λE=>[(p,ob (E.y 0) (ρ x).cells T)],[]⟩
 | _=>MD.bad
theorem Ji(p:Nat):MD.ok P (λE=> .pointer (some ⟨E.y 0,0,none⟩)) (xH p) []:=by
 intro o ρ C e w c f;unfold xH at e f⊢
 split at e
 ·rename_i T x d;simp only[d] at f⊢;refine⟨ab.of w.heap.size,λ_=>[(w.heap.size,.cells (ρ x).cells T (0,0))],_,.inl ?_,λy h=>?_,by simpa using a6.alloc w (.cells (ρ x).cells T)⟩
  ·unfold execOp;simp only[d,ZK,show(Instr.box T (ρ x)).run P w= .ok (.pointer (some ⟨w.heap.size,0,none⟩)) (w.alloc (.cells (ρ x).cells T)) from rfl,ZJ,ZP];rfl
  ·rw[List.mem_singleton.1 h];rfl
 ·exact(bD e).elim
def bx(p:Nat):MH P (λE=> .pointer (some ⟨E.y 0,0,none⟩)):=⟨[],xH p,Ji p⟩
def xI(P:Program)(p:Nat)(o:Oper)(ρ:Operand→Value)(C:cD):MD:=match o.op,C p with
 | .store T x y,some (.c [(g,.cells e f (0,0))])=>match kX (ρ x) with
  | some (h,d)=>⟨[(p,ob g e f)],λ_=>[(p,ob g (e.setIfInBounds d (ρ y)) f)],[sE h g,sB (aaU d e.size),sB (ρ y).oneCell',sE ((P.info? T).map (·.size)) (some 1)]⟩
  | none=>MD.bad
 | _,_=>MD.bad
theorem Jj(p:Nat):MD.ok P (λ_=>undef) (xI P p) [p]:=by
 intro o ρ C d w c f;unfold xI at d f⊢
 split at d
 ·rename_i T x y g m B e v;simp only[e,v] at f⊢
  split at d
  ·rename_i q i j;simp only[j] at f⊢;simp only[ZO,ZM,or_false,forall_eq_or_imp,forall_eq,sE,sB] at d;obtain⟨rfl,r,s,u⟩:=d;obtain⟨A,l⟩:=f.one;refine⟨ab.zero,λ_=>[(q,.cells (m.setIfInBounds i (ρ y)) B (0,0))],_,.inr ⟨?_,by simp⟩,λz h=>?_,by simpa [A,bL] using a6.setc (ρ y) l⟩
   ·unfold execOp;simp only[e,na j,Instr.storeAt,Instr.sureAddr,ZK,ZP,ZJ,uu l (aaS▸r) s u]
   ·rw[List.mem_singleton.1 h];rfl
  ·exact(bD d).elim
 ·exact(bD d).elim
def st(p:Nat):MH P (λ_=>undef):=⟨[p],xI P p,Jj p⟩
def xJ(P:Program)(p g off:Nat)(t:TypeId)(v:Value)(cs cs':Array Value)(o:Oper)(ρ:Operand→Value)(_:cD):MD:=match o.op with
 | .store T x y=>⟨[(p,ob g cs t)],λ_=>[(p,ob g cs' t)],[sE (kX (ρ x)) (some (g,off)),sE (ρ y) v,sB v.oneCell',sE ((P.info? T).map (·.size)) (some 1)]⟩
 | _=>MD.bad
theorem Jk(p g off:Nat)(t:TypeId)(v:Value)(cs cs':Array Value)(h:cs.setIfInBounds off v=cs')(r:off<cs.size):MD.ok P (λ_=>undef) (xJ P p g off t v cs cs') [p]:=by
 intro o ρ C d w c f;unfold xJ at d f⊢
 split at d
 ·rename_i T x y e;simp only[e] at f⊢;simp only[ZO,ZM,or_false,forall_eq_or_imp,forall_eq,sE,sB] at d;obtain⟨m,s,j,l⟩:=d;obtain⟨q,i⟩:=f.one;subst h;refine⟨ab.zero,λ_=>[(g,.cells (cs.setIfInBounds off v) t (0,0))],_,.inr ⟨?_,by simp⟩,λz h=>?_,by simpa [q,bL] using a6.setc v i⟩
  ·unfold execOp;simp only[e,na m,s,Instr.storeAt,Instr.sureAddr,ZK,ZP,ZJ,uu i r j l]
  ·rw[List.mem_singleton.1 h];rfl
 ·exact(bD d).elim
def sw(p g off:Nat)(t:TypeId)(v:Value)(cs cs':Array Value)(h:cs.setIfInBounds off v=cs')(c:off<cs.size):MH P (λ_=>undef):=⟨[p],xJ P p g off t v cs cs',Jk p g off t v cs cs' h c⟩
theorem uy{w:World}{g off:Nat}{i T:TypeId}{cs:Array Value}{l:List Value}(p:w.heap[g]? =some (.cells cs i (0,0)))(j:off+l.length≤cs.size)(m: ∀v∈l,v.oneCell'=true)(h:(P.info? T).map (·.size)=some l.length):(storeVar T ⟨g,off,none⟩ (.agg l.toArray)).run P w= .ok () (w.setRow g (cs.toList.take off++l++cs.toList.drop (off+l.length)).toArray):=by
 have d:=run_storeCells_at P g off i l 0 cs w p j m;cases c:P.info? T with
 | none=>simp [c] at h
 | some f=>
  have e:f.size=l.length:=by simpa [c] using h
  unfold storeVar;simp only[sizeOf,typeInfo,Value.cells,ZK];simp [c,e,d]
def nb:Value→Option (List Value)
 | .agg c=>some c.toList
 | _=>none
theorem uz{v:Value}{l:List Value}(h:nb v=some l):v= .agg l.toArray:=by
 unfold nb at h
 split at h
 ·cases h;rfl
 ·cases h
def xK(P:Program)(p:Nat)(o:Oper)(ρ:Operand→Value)(C:cD):MD:=match o.op,C p with
 | .store T x y,some (.c [(g,.cells e f (0,0))])=>match kX (ρ x),nb (ρ y) with
  | some (h,d),some l=>⟨[(p,ob g e f)],λ_=>[(p,ob g (e.toList.take d++l++e.toList.drop (d+l.length)).toArray f)],[sE h g,sB (Nat.ble (d+l.length) e.size),sB (l.all (·.oneCell')),sE ((P.info? T).map (·.size)) (some l.length)]⟩
  | _,_=>MD.bad
 | _,_=>MD.bad
theorem Jl(p:Nat):MD.ok P (λ_=>undef) (xK P p) [p]:=by
 intro o ρ C e w c j;unfold xK at e j⊢
 split at e
 ·rename_i T x y g i G f B;simp only[f,B] at j⊢
  split at e
  ·rename_i s d l m r;simp only[m,r] at j⊢;simp only[ZO,ZM,or_false,forall_eq_or_imp,forall_eq,sE,sB] at e;obtain⟨rfl,u,v,A⟩:=e;obtain⟨D,q⟩:=j.one;refine⟨ab.zero,λ_=>[(s,.cells (i.toList.take d++l++i.toList.drop (d+l.length)).toArray G (0,0))],_,.inr ⟨?_,by simp⟩,λz h=>?_,by rw[show([p].flatMap λp=>bL (c p))=_ by simp only[ZU,Z7,D,bL];rfl];exact a6.setRow (i.toList.take d++l++i.toList.drop (d+l.length)).toArray q⟩
   ·unfold execOp;simp only[f,na m,uz r,Instr.storeAt,Instr.sureAddr,ZK,ZP,ZJ,uy q (abq u) (List.all_eq_true.1 v) A]
   ·rw[List.mem_singleton.1 h];rfl
  ·exact(bD e).elim
 ·exact(bD e).elim
def ss(p:Nat):MH P (λ_=>undef):=⟨[p],xK P p,Jl p⟩
def xL(P:Program)(p g off:Nat)(t:TypeId)(l:List Value)(cs cs':Array Value)(o:Oper)(ρ:Operand→Value)(_:cD):MD:=match o.op with
 | .store T x y=>⟨[(p,ob g cs t)],λ_=>[(p,ob g cs' t)],[sE (kX (ρ x)) (some (g,off)),sE (nb (ρ y)) (some l),sE ((P.info? T).map (·.size)) (some l.length)]⟩
 | _=>MD.bad
theorem Jm(p g off:Nat)(t:TypeId)(l:List Value)(cs cs':Array Value)(h:cs.toList.take off++l++cs.toList.drop (off+l.length)=cs'.toList)(r:off+l.length≤cs.size)(h1: ∀u∈l,u.oneCell'=true):MD.ok P (λ_=>undef) (xL P p g off t l cs cs') [p]:=by
 intro o ρ C f w c j;unfold xL at f j⊢
 split at f
 ·rename_i T x y i;simp only[i] at j⊢;simp only[ZO,ZM,or_false,forall_eq_or_imp,forall_eq,sE] at f;obtain⟨q,v,m⟩:=f;obtain⟨s,d⟩:=j.one;have e:cs'=(cs.toList.take off++l++cs.toList.drop (off+l.length)).toArray:=by rw[h]
  subst e;refine⟨ab.zero,λ_=>[(g,.cells (cs.toList.take off++l++cs.toList.drop (off+l.length)).toArray t (0,0))],_,.inr ⟨?_,by simp⟩,λz h=>?_,by rw[show([p].flatMap λp=>bL (c p))=_ by simp only[ZU,Z7,s,bL];rfl];exact a6.setRow (cs.toList.take off++l++cs.toList.drop (off+l.length)).toArray d⟩
  ·unfold execOp;simp only[i,na q,uz v,Instr.storeAt,Instr.sureAddr,ZK,ZP,ZJ,uy d r h1 m]
  ·rw[List.mem_singleton.1 h];rfl
 ·exact(bD f).elim
def sg(p g off:Nat)(t:TypeId)(l:List Value)(cs cs':Array Value)(h:cs.toList.take off++l++cs.toList.drop (off+l.length)=cs'.toList)(c:off+l.length≤cs.size)(h1: ∀u∈l,u.oneCell'=true):MH P (λ_=>undef):=⟨[p],xL P p g off t l cs cs',Jm p g off t l cs cs' h c h1⟩
def BQ(P:Program)(s:Sem Next)(v:ab→Value)(rd:Wr)(ob:List Nat)(wt:ab→Wr):Prop:=∀(w:World) (c:gC),mH rd c w→
 ∃(E:ab) (z:gC) (d:World),(s.run P w= .ok (.value (v E)) d∨(s.run P w= .ok .skip d∧v E=undef))∧(∀x∈wt E,x.2.sat (z x.1))∧a6 (ob.flatMap λp=>bL (c p)) ((wt E).flatMap λx=>z x.1) w d
end
end
section
open Go Go.RowKit Go.Shelf
section
variable {R:List Nat} {base W W' w:World} {L L' N:ah}
theorem nc: ∀{L:ah} {cs:List ay},bq L cs→∀{i:Nat} {x:aA},L[i]? =some x→x.sat (cs.getD i [])
 | y::L,c::cs,h,0,x,a=>by simp only[aaF,Option.some.injEq] at a;subst a;exact h.1
 | y::L,c::cs,h,i+1,x,a=>nc h.2 (by simpa using a)
 | [],[],_,i,x,a=>by simp at a
 | [],_::_,h,_,_,_=>h.elim
 | _::_,[],h,_,_,_=>h.elim
theorem uA{c:gC}: ∀{L:ah} {a:List Nat},a.length=L.length→(∀(i:Nat) (x:aA),L[i]? =some x→x.sat (c (a.getD i 0)))→bq L (a.map c)
 | [],[],_,_=>trivial
 | x::L,p::a,h,b=>⟨b 0 x rfl,uA (by simpa using h) λi y d=>b (i+1) y (by simpa using d)⟩
 | [],_::_,h,_=>by simp at h
 | _::_,[],h,_=>by simp at h
theorem eA{x:aA}{xs:ah}{cs:List ay}(h:bq (x::xs) cs): ∃d ds,cs=d::ds∧x.sat d∧bq xs ds:=by
 cases cs with
 | nil=>exact h.elim
 | cons d ds=>exact⟨d,ds,rfl,h.1,h.2⟩
theorem oL{cs:List ay}(h:bq [] cs):cs=[]:=by
 cases cs with
 | nil=>rfl
 | cons d a=>exact h.elim
theorem nX{α:Type}{d:α}{cs:List α}{i:Nat}(h:i<cs.length):cs.getD i d∈cs:=by
 rw[ZN,ZL h];exact aad h
theorem pZ{α:Type}{d:α}{cs:List α}{i:Nat}(h: ¬i<cs.length):cs.getD i d=d:=by
 rw[ZN,ZZ Om];rfl
theorem rU{cs:List ay}(h:cs.flatten.Pairwise λx y=>x.1≠y.1):(∀i,(cs.getD i []).Pairwise λx y=>x.1≠y.1)∧∀i j,i≠j→∀z∈cs.getD i [],∀u∈cs.getD j [],z.1≠u.1:=by
 rw[abn] at h;refine⟨λi=>?_,λi j e z c u b=>?_⟩
 ·by_cases a:i<cs.length
  ·exact h.1 _ (nX a)
  ·rw[pZ a];exact List.Pairwise.nil
 ·by_cases a:i<cs.length
  ·by_cases d:j<cs.length
   ·have f:=List.pairwise_iff_getElem.1 h.2;rw[ZN,ZL a] at c;rw[ZN,ZL d] at b;rcases aaK e with l | l
    ·exact f i j a d l z c u b
    ·exact Ne.symm (f j i d a l u b z c)
   ·rw[pZ d] at b;simp at b
  ·rw[pZ a] at c;simp at c
theorem aF.start{cs:List ay}(hs:bq L cs)(e:ez cs.flatten w):aF (bL cs.flatten) w L w:=by
 have d:=rU e.nd;have k:=jO hs;have g: ∀i,∀z∈cs.getD i [],z∈cs.flatten:=λi z a=>by
  by_cases f:i<cs.length
  ·exact List.mem_flatten.2 ⟨_,nX f,a⟩
  ·rw[pZ f] at a;simp at a
 exact⟨λi=>cs.getD i [],λp h x c=>nc hs c,λp h c=>by rw[aao] at c;omega,λp _ z a=>e.obj z (g p z a),λp _=>d.1 p,λp q _ _ b=>d.2 p q b,
  λp _ z a=> .inl (List.mem_map.2 ⟨z,g p z a,rfl⟩),rfl,rfl,rfl,ZT _,λ_ _ _=>rfl⟩
def rV:List ah→ah→Prop
 | [],[]=>True
 | N::Ns,x::xs=>(∀a,bq N a→x.sat a.flatten)∧rV Ns xs
 | _,_=>False
theorem BR: ∀{a:List ah} {L:ah},rV a L→a.length=L.length
 | [],[],_=>rfl
 | _::_,_::_,h=>by rw[Z6,Z6,BR h.2]
 | [],_::_,h=>h.elim
 | _::_,[],h=>h.elim
theorem BS: ∀{b:List ah} {L:ah},rV b L→∀{i:Nat} {x:aA},L[i]? =some x→∃N,b[i]? =some N∧∀ds,bq N ds→x.sat ds.flatten
 | N::b,y::L,h,0,x,a=>by simp only[aaF,Option.some.injEq] at a;subst a;exact⟨N,rfl,h.1⟩
 | N::b,y::L,h,i+1,x,a=>by
  obtain⟨M,c,d⟩:=BS h.2 (i:=i) (x:=x) (by simpa using a);exact⟨M,by simpa using c,d⟩
 | [],[],_,i,x,a=>by simp at a
 | [],_::_,h,_,_,_=>h.elim
 | _::_,[],h,_,_,_=>h.elim
theorem Jn(x:aA): ∀ds,bq [x] ds→x.sat ds.flatten:=λds h=>by
 obtain⟨d,c,rfl,a,b⟩:=eA h;rw[oL b];simpa using a
theorem BT: ∀L:ah,rV (L.map λx=>[x]) L
 | []=>trivial
 | x::L=>⟨Jn x,BT L⟩
theorem BU{r:List (List Nat)}(h:r.flatten.Nodup){i j a b p:Nat}{g A:List Nat}(s:r[i]? =some g)(u:r[j]? =some A)(B:g[a]? =some p)(C:A[b]? =some p):i=j∧a=b:=by
 unfold List.Nodup at h;rw[abn] at h;by_cases e:i=j
 ·subst e;rw[s] at u;cases u;refine⟨rfl,?_⟩;have q:=List.pairwise_iff_getElem.1 (h.1 g (aaR s));obtain⟨c,d⟩:=List.getElem?_eq_some_iff.1 B;obtain⟨f,k⟩:=List.getElem?_eq_some_iff.1 C;apply abb;intro x;rcases aaK x with l | l
  ·exact q a b c f l (d.trans k.symm)
  ·exact q b a f c l (k.trans d.symm)
 ·exfalso;have q:=List.pairwise_iff_getElem.1 h.2;obtain⟨n,t⟩:=List.getElem?_eq_some_iff.1 s;obtain⟨o,v⟩:=List.getElem?_eq_some_iff.1 u;have y:=aaR B;have z:=aaR C;rw[←t] at y;rw[←v] at z;rcases aaK e with l | l
  ·exact q i j n o l p y p z rfl
  ·exact q j i o n l p z p y rfl
theorem aF.re(h:aF R base L W)(s:List (List Nat)){H:List ah}(he:(dp s.flatten,s.map λg=>g.map λp=>L[p]?)=(true,H.map λN=>N.map some))(hs:rV H L'):aF R base L' W:=by
 obtain⟨c,n⟩:=h;have hn:=nW (ALca (·.1) he);have I:=ALca (·.2) he;simp only at I;have hlen:s.length=L'.length:=by
  have d:=ALca abe I;rw[aa0,aa0] at d;exact d.trans (BR hs)
 have v: ∀i,i<L'.length→∃g N,s[i]? =some g∧H[i]? =some N∧g.map (λp=>L[p]?)=N.map some:=by
  intro i o;have d:=ALca (λz=>z[i]?) I;simp only[Z3] at d;rw[ZL (by omega:i<s.length)] at d;cases F:H[i]? with
  | none=>rw[F] at d;simp at d
  | some N=>rw[F] at d;exact⟨s[i],N,ZL Om,rfl,by simpa using d⟩
 have k: ∀{g:List Nat} {N:ah},g.map (λp=>L[p]?)=N.map some→∀p∈g,p<L.length:=by
  intro g N e p r;have:L[p]?∈N.map some:=by rw[←e];exact List.mem_map.2 ⟨p,r,rfl⟩
  obtain⟨x,_,G⟩:=List.mem_map.1 this;exact(List.getElem?_eq_some_iff.1 G.symm).1
 have t: ∀i g,s[i]? =some g→(s.getD i [])=g:=λi g D=>by rw[ZN,D];rfl
 refine⟨λi=>(s.getD i []).flatMap c,?_,?_,?_,?_,?_,?_,n.os,n.tape,n.output,n.size,n.far⟩
 ·intro i o x G;obtain⟨g,N,d,B,l⟩:=v i o;obtain⟨N',V,h5⟩:=BS hs G;rw[B] at V;cases V;rw[t i g d];have hS:bq N (g.map c):=by
   refine uA (by have:=ALca abe l;simpa using this) λj y hy=>?_;have C:=ALca (λz=>z[j]?) l;simp only[Z3,hy,ZW] at C;cases D:g[j]? with
   | none=>rw[D] at C;simp at C
   | some p=>
    rw[D] at C;rw[ZN,D];have X:L[p]? =some y:=by simpa using C
    exact n.sat p (List.getElem?_eq_some_iff.1 X).1 y X
  have:=h5 _ hS;rwa [←aaA] at this
 ·intro i o G;rw[aao] at G;omega
 ·intro i o z f;obtain⟨g,N,d,B,l⟩:=v i o;rw[t i g d] at f;obtain⟨p,r,f⟩:=List.mem_flatMap.1 f;exact n.obj p (k l p r) z f
 ·intro i o;obtain⟨g,N,d,B,l⟩:=v i o;rw[t i g d,aal];refine⟨λp r=>n.inn p (k l p r),?_⟩;rw[aan];intro a b Y Z hab z f u A;refine n.nd _ _ (k l _ (aad Y)) (k l _ (aad Z)) (λe=>?_) z f u A;have:=(BU hn d d (ZL Y) (by rw[ZL Z,e])).2;omega
 ·intro i j o hj T z f u A;obtain⟨g,N,d,B,l⟩:=v i o;obtain⟨g',N',k1,k2,k3⟩:=v j hj;rw[t i g d] at f;rw[t j g' k1] at A;obtain⟨p,r,f⟩:=List.mem_flatMap.1 f;obtain⟨q,F,A⟩:=List.mem_flatMap.1 A;refine n.nd p q (k l p r) (k k3 q F) (λe=>?_) z f u A;subst e;obtain⟨a,M,O⟩:=Z4 r;obtain⟨b,Q,S⟩:=Z4 F;exact T (BU hn d k1 (by rw[ZL M,O]) (by rw[ZL Q,S])).1
 ·intro i o z f;obtain⟨g,N,d,B,l⟩:=v i o;rw[t i g d] at f;obtain⟨p,r,f⟩:=List.mem_flatMap.1 f;exact n.lo p (k l p r) z f
theorem aF.pick(h:aF R base L W)(a:List Nat)(N:ah)(b:(dp (a.map λp=>[p]).flatten,(a.map λp=>[p]).map λg=>g.map λp=>L[p]?)=(true,(N.map λx=>[x]).map λN=>N.map some):=by kernel_rfl):aF R base N W:=
 h.re _ b (BT N)
theorem aF.open(h:aF R base L W)(k:Nat){Q:ay→Prop}(g:L[k]? =some (.p Q)): ∃f,Q f∧aF R base (L.set k (.c f)) W:=by
 obtain⟨c,a⟩:=h;have d:=(List.getElem?_eq_some_iff.1 g).1;refine⟨c k,a.sat k d _ g,c,?_⟩;rw[aav];refine⟨λp i x b=>?_,λp i b=>?_,a.obj,a.inn,a.nd,a.lo,a.os,a.tape,a.output,a.size,a.far⟩
 ·rw[abz] at b;by_cases e:k=p
  ·subst e;rw[ALifp rfl,ALifp d] at b;cases b;rfl
  ·rw[ALifn e] at b;exact a.sat p i x b
 ·rw[aao,aav] at b;omega
theorem aF.fin{rd:ah}{cs:List ay}(hs:bq rd cs)(hh:ez cs.flatten w)(h:aF (bL cs.flatten) w L W')(O:List Nat)(N:ah)(v:List Nat)(H:List (Nat×Nat))
  (he:(dp (v++H.map (·.2)),v.map (λp=>L[p]?),H.map (λx=>L[x.2]?),(aaf rd.length).all λi=>O.contains i||H.any λx=>x.1==i)=(true,N.map some,H.map (λx=>some (.c (cs.getD x.1 []))),true)):
  ∃ds,bq N ds∧a6 (O.flatMap λi=>bL (cs.getD i [])) ds.flatten w W':=by
 obtain⟨c,f⟩:=h;simp only[Prod.mk.injEq] at he;obtain⟨h1,I,h3,h4⟩:=he;have X:=nW h1;have l: ∀p∈v,p<L.length:=λp g=>by
  have:L[p]?∈N.map some:=by rw[←I];exact List.mem_map.2 ⟨p,g,rfl⟩
  obtain⟨x,_,G⟩:=List.mem_map.1 this;exact(List.getElem?_eq_some_iff.1 G.symm).1
 have s: ∀i,i<rd.length→i∉O→∃k,k<L.length∧k∉v∧c k=cs.getD i []:=by
  intro i q Y;have o:=List.all_eq_true.1 h4 i (List.mem_range.2 q);simp only[aat,List.any_eq_true,beq_iff_eq] at o;rcases o with o | ⟨x,G,rfl⟩
  ·exact absurd (by simpa using o) Y
  ·obtain⟨j,F,hx'⟩:=Z4 G;have n:=ALca (λz=>z[j]?) h3;simp only[Z3,ZL F,ZW,hx',Option.some.injEq] at n;have B:=(List.getElem?_eq_some_iff.1 n).1;refine⟨x.2,B,λg=>?_,f.sat x.2 B _ n⟩;rw[List.nodup_append] at X;exact X.2.2 x.2 g x.2 (List.mem_map.2 ⟨x,G,rfl⟩) rfl
 have D: ∀b,b∈bL cs.flatten→∃i,i<cs.length∧∃z∈cs.getD i [],z.1=b:=by
  intro b M;obtain⟨z,a,e⟩:=List.mem_map.1 M;obtain⟨d,hd,a⟩:=List.mem_flatten.1 a;obtain⟨i,q,e2⟩:=Z4 hd;exact⟨i,q,z,by rw[ZN,ZL q,e2];exact a,e⟩
 have hl:=jO hs;refine⟨v.map c,uA (by have:=ALca abe I;simpa using this) λj y hy=>?_,f.os,f.tape,f.output,f.size,λz a=>?_,λz a=>?_,?_,λb M Z=>?_⟩
 ·have n:=ALca (λz=>z[j]?) I;simp only[Z3,hy,ZW] at n;cases Q:v[j]? with
  | none=>rw[Q] at n;simp at n
  | some p=>
   rw[Q] at n;rw[ZN,Q];have h7:L[p]? =some y:=by simpa using n
   exact f.sat p (List.getElem?_eq_some_iff.1 h7).1 y h7
 ·rw[←aaA] at a;obtain⟨p,g,a⟩:=List.mem_flatMap.1 a;exact f.obj p (l p g) z a
 ·rw[←aaA] at a;obtain⟨p,g,a⟩:=List.mem_flatMap.1 a;rcases f.lo p (l p g) z a with o | o
  ·obtain⟨i,q,u,C,e⟩:=D _ o;by_cases r:i∈O
   ·exact .inl (List.mem_flatMap.2 ⟨i,r,List.mem_map.2 ⟨u,C,e⟩⟩)
   ·obtain⟨k,T,V,t⟩:=s i Om r;rw[←t] at C;exact absurd e.symm (f.nd p k (l p g) T (λe=>V (e▸g)) z a u C)
  ·exact .inr o
 ·rw[←aaA,aal];refine⟨λp g=>f.inn p (l p g),?_⟩;rw[aan];intro i j q F S z a u C;refine f.nd _ _ (l _ (aad q)) (l _ (aad F)) (λe=>?_) z a u C;have g:v.Nodup:=(List.nodup_append.1 X).1;have:=(List.pairwise_iff_getElem.1 g) i j q F S;exact this e
 ·by_cases A:b∈bL cs.flatten
  ·obtain⟨i,q,z,a,e⟩:=D b A;have r:i∉O:=λhm=>Z (List.mem_flatMap.2 ⟨i,hm,List.mem_map.2 ⟨z,a,e⟩⟩);obtain⟨k,T,_,t⟩:=s i Om r;have o:=f.obj k T z (by rw[t];exact a);have n:=hh.obj z (List.mem_flatten.2 ⟨_,nX q,a⟩);rw[←e,o,n]
  ·exact f.far b M A
end
theorem aF.get1{R:List Nat}{base W:World}{L:ah}(h:aF R base L W){k g:Nat}{x:Obj}(d:L[k]? =some (.c [(g,x)])):W.heap[g]? =some x:=by
 obtain⟨c,b⟩:=h;have a:=(List.getElem?_eq_some_iff.1 d).1;have e:c k=[(g,x)]:=b.sat k a _ d;exact b.obj k a (g,x) (by rw[e];exact List.mem_singleton.2 rfl)
inductive RV (P:Program):Type
 | t (v:Value)
 | c (v:Value) (k:Nat)
 | s (l:List Value) (k:Nat)
def RV.val{P:Program}:RV P→Value
 | t v=>v
 | c v _=>v
 | s l _=> .agg l.toArray
section
variable {P:Program} {L:ah} {tmps:Array Value}
def fP(P:Program)(L:ah)(tmps:Array Value):List ResultVar→List (RV P)→List a7
 | [],[]=>[]
 | .tmp i::rs,.t v::vs=>sE (tmps.getD i undef) v::fP P L tmps rs vs
 | .cell p T::rs,.c v k::vs=>(match L[k]? with
  | some (.c [(g,.cells a _ (0,0))])=>[sE (tmps.getD p undef) (nV g 0),sE a[0]? (some v),sE (λw=>(isAgg T).run P w) (λw=> .ok false w)]
  | _=>[sB false])++fP P L tmps rs vs
 | .cell p T::rs,.s l k::vs=>(match L[k]? with
  | some (.c [(g,.cells a _ (0,0))])=>[sE (tmps.getD p undef) (nV g 0),sE ((a.toList.drop 0).take l.length) l,sB (dI P T),sE ((P.info? T).map (·.size)) (some l.length)]
  | _=>[sB false])++fP P L tmps rs vs
 | _,_=>[sB false]
def nY:List (RV P)→Value
 | [v]=>v.val
 | vs=> .tuple (vs.map RV.val).toArray
def nZ(tmps:Array Value):ResultVar→Sem Value
 | .tmp t=>pure (tmps.getD t undef)
 | .cell a t=>do loadVar t (←asAddr (tmps.getD a undef))
theorem BV{p g:Nat}{T:TypeId}{v:Value}{W:World}(h:tmps.getD p undef=nV g 0)(b:(loadVar T ⟨g,0,none⟩).run P W= .ok v W):(nZ tmps (.cell p T)).run P W= .ok v W:=by
 have a:tmps[p]?.getD undef= .pointer (some ⟨g,0,none⟩):=by simpa [nV] using h
 simp [nZ,a,asAddr,b]
theorem Jo{R:List Nat}{base W:World}(y:aF R base L W): ∀(rs:List ResultVar) (d:List (RV P)),(∀e∈fP P L tmps rs d,e.2.1=e.2.2)→(rs.mapM (nZ tmps)).run P W= .ok (d.map RV.val) W:=by
 intro rs
 induction rs with
 | nil=>
  intro d a;cases d with
  | nil=>simp
  | cons v d=>exact(bD (by simpa [fP] using a)).elim
 | cons x rs ih=>
  intro d a;cases d with
  | nil=>exact(bD (by simpa [fP] using a)).elim
  | cons v d=>
   have b: ∀{w:Value},(nZ tmps x).run P W= .ok w W→v.val=w→(∀e∈fP P L tmps rs d,e.2.1=e.2.2)→((x::rs).mapM (nZ tmps)).run P W= .ok ((v::d).map RV.val) W:=by
    intro w n o q;rw[List.mapM_cons];simp only[ZK,n,ih d q,ZJ,ZP,aaI,o]
   cases x with
   | tmp i=>
    cases v with
    | t v=>
     simp only[fP,ZO,forall_eq_or_imp,sE] at a;exact b (w:=v) (by simp only[nZ,ZP];rw[a.1]) rfl a.2
    | _=>exact(bD (by simpa only[fP] using a)).elim
   | cell p T=>
    cases v with
    | t v=>exact(bD (by simpa only[fP] using a)).elim
    | c v k=>
     simp only[fP] at a
     split at a
     ·rename_i g u z f;simp only[abD,ZO,ZM,or_false,or_imp,forall_and,forall_eq,sE] at a;obtain⟨⟨n,o,q⟩,r⟩:=a;have B:mE W g z u:=y.get1 f;exact b (BV n (rC (congrFun q W) ((B.cell 0).trans o))) rfl r
     ·exact(bD λe h=>a e (ZQ _ h)).elim
    | s l k=>
     simp only[fP] at a
     split at a
     ·rename_i g u z f;simp only[abD,ZO,ZM,or_false,or_imp,forall_and,forall_eq,sE,sB] at a;obtain⟨⟨n,o,q,A⟩,r⟩:=a;exact b (BV n (ux (y.get1 f) o q A)) rfl r
     ·exact(bD λe h=>a e (ZQ _ h)).elim
theorem BW{R:List Nat}{base W:World}{b:Func}(d:aF R base L W)(a:List (RV P))(e:(fP P L tmps b.results.toList a).map a7.lhs=(fP P L tmps b.results.toList a).map a7.rhs):(results b tmps).run P W= .ok (nY a) W:=by
 have h:=Jo d _ _ (a7.all e);have c:(b.results.mapM (nZ tmps)).run P W= .ok (a.map RV.val).toArray W:=by
  rw[Array.mapM_eq_mapM_toList,map_eq_pure_bind,ZK,h];simp only[ZJ,ZP]
 unfold results;show Sem.run P (bind (b.results.mapM (nZ tmps)) _) W=_;rw[ZK,c];simp only[ZJ,ZP];cases a with
 | nil=>rfl
 | cons v a=>
  cases a with
  | nil=>rfl
  | cons u a=>rw[dif_neg (by simp)];rfl
end
theorem Jp{F:Fence}{n:Nat}{P:Program}{a:Func}{tmps:Array Value}{R:Ending→World→Prop}{c:List Nat}{base:World}{L:ah}{W:World}(b:Hid (aF c base L W))(vs:List (RV P))(d:(fP P L tmps a.results.toList vs).map a7.lhs=(fP P L tmps a.results.toList vs).map a7.rhs)
 (h:aF c base L W→R (.returned (nY vs)) W):LeavesInM F n P a tmps R [] .returning W:=⟨_,BW b.out vs d,h b.out⟩
end
section
open Go Go.RowKit Go.Shelf
structure cG (R:List Nat) (base:World) (L:ay) (W:World):Prop where
  obj: ∀x∈L,W.heap[x.1]? =some x.2
  nd:L.Pairwise (λx y=>x.1≠y.1)
  lo: ∀x∈L,x.1∈R∨base.heap.size≤x.1
  os:W.os=base.os
  tape:W.tape=base.tape
  output:W.output=base.output
  size:base.heap.size≤W.heap.size
  far: ∀b,b<base.heap.size→b∉R→W.heap[b]? =base.heap[b]?
section
variable {R R0:List Nat} {base w W W':World} {L L':ay}
theorem cG.start{R0:ay}(H:ez R0 w):cG (R0.map (·.1)) w R0 w:=
  ⟨H.obj,H.nd,λx a=> .inl (List.mem_map.2 ⟨x,a,rfl⟩),rfl,rfl,rfl,ZT _,λ_ _ _=>rfl⟩
theorem cG.lt(h:cG R base L W){x:Nat×Obj}(a:x∈L):x.1<W.heap.size:=(Array.getElem?_eq_some_iff.1 (h.obj x a)).1
theorem cG.sub(h:cG R base L W)(hs:L'.Sublist L):cG R base L' W:=⟨λx a=>h.obj x (hs.subset a),h.nd.sublist hs,λx a=>h.lo x (hs.subset a),h.os,h.tape,h.output,h.size,h.far⟩
end
section
variable {R R0:List Nat} {base w W W' W1:World} {L L' K:ay} {Ds:List Nat}
theorem cG.turn{O:Nat→Prop}(h:cG R base L W)(t:e7 (λb=>¬O b) W W')(f: ∀x∈L,O x.1)(hf: ∀b,b<base.heap.size→b∉R→O b):cG R base L W':=
  ⟨λx d=>t.heap (λe=>e (f x d)) (h.obj x d),h.nd,h.lo,t.os.trans h.os,t.tape.trans h.tape,t.output.trans h.output,Z9 h.size t.size,
    λb a c=>(t.same b (aam a h.size) (λe=>e (hf b a c))).trans (h.far b a c)⟩
theorem cG.join(h:cG R base L W)(k:cG (L.map (·.1)) W L' W'):cG R base L' W':=
  ⟨k.obj,k.nd,λx i=>(k.lo x i).elim (λa=>by obtain⟨y,c,e⟩:=List.mem_map.1 a;rw[←e];exact h.lo y c) (λa=> .inr (Z9 h.size a)),k.os.trans h.os,k.tape.trans h.tape,k.output.trans h.output,Z9 h.size k.size,
    λb f g=>(k.far b (aam f h.size) λa=>by
      obtain⟨y,c,e⟩:=List.mem_map.1 a;rcases h.lo y c with d | d
      · exact g (by rw[←e];exact d)
      · omega).trans (h.far b f g)⟩
theorem cG.has(h:cG R base L W):ez L W:=⟨h.obj,h.nd⟩
theorem cG.anew(h:cG R base L W):cG (L.map (·.1)) W L W:=cG.start h.has
def jR(R:List Nat)(base:World)(R0:List Nat)(w:World)(Ds:List Nat):Prop:=∀L W,cG R base L W→cG R0 w (L++Ds.map dP) W
theorem cG.seg(h:cG R0 w (L++Ds.map dP) W):jR (L.map (·.1)) W R0 w Ds:=by
  intro L' W' k;have o:=List.pairwise_append.1 h.nd;have i: ∀{D:Nat},D∈Ds→dP D∈L++Ds.map dP:=λc=>ZR _ (aaq c);have f: ∀{D:Nat},D∈Ds→D∉L.map (·.1):=λc a=>by
    obtain⟨y,g,e⟩:=List.mem_map.1 a;exact o.2.2 y g _ (aaq c) e
  refine⟨λx a=>?_,?_,λx a=>?_,k.os.trans h.os,k.tape.trans h.tape,k.output.trans h.output,Z9 h.size k.size,λb l n=>?_⟩
  · rcases List.mem_append.1 a with a | a
    · exact k.obj x a
    · obtain⟨D,c,rfl⟩:=List.mem_map.1 a;exact(k.far D (h.lt (i c)) (f c)).trans (h.obj _ (i c))
  · refine List.pairwise_append.2 ⟨k.nd,o.2.1,λx a y g e=>?_⟩;obtain⟨D,c,rfl⟩:=List.mem_map.1 g;rcases k.lo x a with d | d
    · exact f c (by rw[←show x.1=D from e];exact d)
    · have:=h.lt (i c);have p:x.1=D:=e;have q:(dP D).1=D:=rfl;omega
  · rcases List.mem_append.1 a with a | a
    · rcases k.lo x a with d | d
      · obtain⟨y,g,e⟩:=List.mem_map.1 d;rw[←e];exact h.lo y (ZQ _ g)
      · exact .inr (Z9 h.size d)
    · exact h.lo x (ZR _ a)
  · refine(k.far b (aam l h.size) λa=>?_).trans (h.far b l n);obtain⟨y,g,e⟩:=List.mem_map.1 a;rcases h.lo y (ZQ _ g) with d | d
    · exact n (by rw[←e];exact d)
    · omega
theorem jR.mark{D:Nat}(c:jR R base R0 w Ds)(h:cG R base (L++[dP D]) W):jR (L.map (·.1)) W R0 w (D::Ds):=by
  intro L' W' k;have a:cG R base (L++[D].map dP) W:=h;have b:=c _ _ (a.seg L' W' k);simpa using b
theorem cG.unmark{D:Nat}{M:ay}(o:Obj)(h:cG R base (L++dP D::M) W):cG R base (L++M) (W.putObj D o):=by
  have e:=List.pairwise_append.1 h.nd;have d:=List.pairwise_cons.1 e.2.1;have k:dP D∈L++dP D::M:=by simp
  have f: ∀x∈L++M,x.1≠D:=λx a=>by
    rcases List.mem_append.1 a with a | a
    · exact e.2.2 x a (dP D) (by simp)
    · exact Ne.symm (d.1 x a)
  have c: ∀x∈L++M,x∈L++dP D::M:=λx a=>by
    rcases List.mem_append.1 a with a | a
    · exact ZQ _ a
    · exact ZR _ (aab _ a)
  refine⟨λx a=>(Z2 (f x a)).trans (h.obj x (c x a)),?_,λx a=>h.lo x (c x a),h.os,h.tape,h.output,by simpa [aaZ] using h.size,λb l i=>?_⟩
  · exact List.pairwise_append.2 ⟨e.1,d.2,λx a y n=>e.2.2 x a y (aab _ n)⟩
  · refine(Z2 ?_).trans (h.far b l i);rintro rfl;rcases h.lo _ k with g | g
    · exact i g
    · have p:(dP b).1=b:=rfl;omega
end
section
variable {R R0:List Nat} {base w W W':World} {L L':ah} {Ds:List Nat}
theorem aF.conc(h:aF R base L W): ∃cs,bq L cs∧cG R base cs.flatten W:=by
  obtain⟨c,e⟩:=h;have l: ∀{z:Nat×Obj},z∈((aaf L.length).map c).flatten→∃p,p<L.length∧z∈c p:=λd=>by
    rw[←aaA] at d;obtain⟨p,f,d⟩:=List.mem_flatMap.1 d;exact⟨p,List.mem_range.1 f,d⟩
  refine⟨(aaf L.length).map c,uA (by rw[abA]) λi x n=>?_,λz d=>?_,?_,λz d=>?_,e.os,e.tape,e.output,e.size,e.far⟩
  · have k:=(List.getElem?_eq_some_iff.1 n).1;rw[ZN,aaT k];exact e.sat i k x n
  · obtain⟨p,f,d⟩:=l d;exact e.obj p f z d
  · rw[←aaA,aal];refine⟨λp f=>e.inn p (List.mem_range.1 f),?_⟩;exact List.Pairwise.imp_of_mem (λ{a b} o q g z d u r=>e.nd a b (List.mem_range.1 o) (List.mem_range.1 q) g z d u r) (show(aaf L.length).Pairwise (· ≠ ·) from List.nodup_range)
  · obtain⟨p,f,d⟩:=l d;exact e.lo p f z d
theorem aF.ofS{cs:List ay}(hs:bq L cs)(h:cG R base cs.flatten W):aF R base L W:=by
  have d:=rU h.nd;have k:=jO hs;have f: ∀i,∀z∈cs.getD i [],z∈cs.flatten:=λi z a=>by
    by_cases e:i<cs.length
    · exact List.mem_flatten.2 ⟨_,nX e,a⟩
    · rw[pZ e] at a;simp at a
  exact⟨λi=>cs.getD i [],λp g x c=>nc hs c,λp g c=>by rw[aao] at c;omega,λp _ z a=>h.obj z (f p z a),λp _=>d.1 p,λp q _ _ b=>d.2 p q b,
    λp _ z a=>h.lo z (f p z a),h.os,h.tape,h.output,h.size,h.far⟩
abbrev mk(D:Nat):aA:= .c [dP D]
theorem kA: ∀{L L':ah} {cs ds:List ay},bq L cs→bq L' ds→bq (L++L') (cs++ds)
  | [],_,[],_,_,h=>h
  | _::_,_,_::_,_,h,k=>⟨h.1,kA h.2 k⟩
  | [],_,_::_,_,h,_=>h.elim
  | _::_,_,[],_,h,_=>h.elim
theorem n1: ∀{L L':ah} {a:List ay},bq (L++L') a→∃ds es,a=ds++es∧bq L ds∧bq L' es
  | [],_,a,h=>⟨[],a,rfl,trivial,h⟩
  | x::L,L',[],h=>h.elim
  | x::L,L',d::a,h=>by
    obtain⟨ds,es,e,b,c⟩:=n1 (L:=L) h.2;exact⟨d::ds,es,by rw[e];rfl,⟨h.1,b⟩,c⟩
theorem rX: ∀Ds:List Nat,bq (Ds.map mk) (Ds.map λD=>[dP D])
  | []=>trivial
  | _::Ds=>⟨rfl,rX Ds⟩
theorem p6: ∀{Ds:List Nat} {es:List ay},bq (Ds.map mk) es→es.flatten=Ds.map dP
  | [],[],_=>rfl
  | D::Ds,e::es,h=>by
    have a:e=[dP D]:=h.1;rw[aaM,a,p6 h.2];rfl
  | [],_::_,h=>h.elim
  | _::_,[],h=>h.elim
theorem aF.seg(h:aF R0 w (L++Ds.map mk) W): ∃b,Hid (jR b W R0 w Ds)∧Hid (aF b W L W):=by
  obtain⟨f,e,a⟩:=h.conc;obtain⟨g,i,rfl,c,d⟩:=n1 e;rw[Z8,p6 d] at a;exact⟨_,Lib.hid a.seg,Lib.hid (aF.ofS c (cG.anew (a.sub (aaX _ _))))⟩
theorem jR.markE{D:Nat}(c:jR R base R0 w Ds)(h:aF R base (L++[mk D]) W): ∃b,Hid (jR b W R0 w (D::Ds))∧Hid (aF b W L W):=by
  obtain⟨g,f,a⟩:=h.conc;obtain⟨i,k,rfl,d,e⟩:=n1 f;rw[Z8,p6 (Ds:=[D]) e] at a;exact⟨_,Lib.hid (c.mark a),Lib.hid (aF.ofS d (cG.anew (a.sub (aaX _ _))))⟩
theorem jR.whole(c:jR R base R0 w Ds)(h:aF R base L W):aF R0 w (L++Ds.map mk) W:=by
  obtain⟨d,b,a⟩:=h.conc;refine aF.ofS (kA b (rX Ds)) ?_;have e:((Ds.map λD=>[dP D]):List ay).flatten=Ds.map dP:=p6 (rX Ds);rw[Z8,e];exact c _ _ a
end
theorem BX{F:Fence}{n:Nat}{P:Program}{c:Func}{tmps:Array Value}{Rp:Ending→World→Prop}{R R0:List Nat}{base w:World}{L:ah}{W:World}{Ds:List Nat}(e:Hid (jR R base R0 w Ds))(f:Hid (aF R base L W))(vs:List (RV P))(i:(fP P L tmps c.results.toList vs).map a7.lhs=(fP P L tmps c.results.toList vs).map a7.rhs)
    (h: ∀W',aF R0 w L W'→Rp (.returned (nY vs)) W'):LeavesInM F n P c tmps Rp (Ds.map j9) .returning W:=by
  obtain⟨g,l,a⟩:=f.out.conc;have d: ∀(Ds:List Nat) (W:World),cG R0 w (g.flatten++Ds.map dP) W→LeavesInM F n P c tmps Rp (Ds.map j9) .returning W:=by
    intro Ds
    induction Ds with
    | nil=>
      intro W a;have b:aF R0 w L W:=aF.ofS l (by simpa using a);exact⟨_,BW b vs i,h _ b⟩
    | cons D Ds ih=>
      intro W a;have k:W.heap[D]? =some (.deferred (some [])):=a.obj (dP D) (by simp);exact⟨by simp,.inl ⟨D,_,rfl,run_takeDeferred k,ih _ (a.unmark _)⟩⟩
  exact d Ds W (e.out _ W a)
structure gX (K O O':Nat→Prop) (W W':World):Prop where
  size:W.heap.size≤W'.heap.size
  old: ∀b,b<W.heap.size→O' b→O b
  new: ∀b,O' b→b<W'.heap.size
  keep: ∀b,b<W.heap.size→(¬O b∨K b)→W'.heap[b]? =W.heap[b]?
theorem gX.trans{K A B C:Nat→Prop}{W W1 d:World}(h:gX K A B W W1)(k:gX K B C W1 d):gX K A C W d:=by
  refine⟨Z9 h.size k.size,λb a f=>h.old b a (k.old b (aam a h.size) f),k.new,λb a c=>?_⟩;refine(k.keep b (aam a h.size) ?_).trans (h.keep b a c);rcases c with c | c
  · exact .inl λe=>c (h.old b a e)
  · exact .inr c
def oM{α:Type}(F:Fence)(n:Nat)(P:Program)(g:Nat)(f:Array Value)(encs:α→Array Value)(xs:List α)(K:Nat→Prop)(St:(Nat→Prop)→World→Prop):Prop:=
  ∀(l:Nat) (J c:Nat→(Nat→Prop)→World→Prop) (W:World) (O:Nat→Prop),St O W→gO J→gO c→(∀b,O b→b<W.heap.size)→
    (∀i x d W1,xs[i]? =some x→J i d W1→W.heap.size≤W1.heap.size→YieldAt F (n-1) P l (encs x) W1 λe W'=>∃a,gX K d a W1 W'∧
      ((e= .returned (.bool true)∧J (i+1) a W')∨(e= .returned (.bool false)∧c (i+1) a W')))→
    J 0 O W→
    CallsIn F n P g (#[.func (.yield l) #[] #[]]++f) W λe W'=>(∃v,e= .returned v)∧((∃a,J xs.length a W')∨∃i,i<xs.length∧∃a,c (i+1) a W')
def BY(K:Nat→Prop)(I:Nat→(Nat→Prop)→World→Prop)(b:Code→Nat→(Nat→Prop)→World→Prop)(i:Nat)(O:Nat→Prop)(W:World):Exit→Act→World→Prop
  | .normal,_,W'=>∃a,gX K O a W W'∧I i a W'
  | .ret,_,W'=>∃a,gX K O a W W'∧b .ret i a W'
  | .exit c,_,W'=>∃a,gX K O a W W'∧b (.exit c) i a W'
  | .goto t,_,W'=>∃a,gX K O a W W'∧b (.goto t) i a W'
  | .panic _,_,_=>False
  | .outgrown,_,_=>False
theorem BZ{α:Type}{F:Fence}{n:Nat}{P:Program}{g:Operand}{ps:Array Tmp}{assign body:Code}{Q:Exit→Act→World→Prop}{a:Act}{w:World}
    (hro:F.round=none) (h1:1≤n) {gf:Nat} {lb:Array Value} (hg:a.eval g= .func (.func gf) #[] lb) (hFg:F.fn gf) (eg: ∀args w,(callFunc gf args).run P w= .ok (.enter gf args) w)
    {encs:α→Array Value} {xs:List α} {K:Nat→Prop} {St:(Nat→Prop)→World→Prop} (hit:oM F (n-1) P gf lb encs xs K St) (O:Nat→Prop)
    (hSt: ∀W,(∀b,b<w.heap.size→W.heap[b]? =w.heap[b]?)→∀O1:Nat→Prop,(∀b,b<w.heap.size→O1 b→O b)→St O1 W) (hO: ∀b,O b→b<w.heap.size) (hKl: ∀b,K b→b<w.heap.size) (hps: ∀x,(encs x).size=ps.size)
    (I:Nat→(Nat→Prop)→World→Prop) (Ix:Code→Nat→(Nat→Prop)→World→Prop) (hI:gO I) (hIx: ∀c,gO (Ix c)) (h0:I 0 O w)
    (hround: ∀(l i:Nat) (x:α) (O1:Nat→Prop) (W:World),xs[i]? =some x→w.heap.size+2≤W.heap.size→I i O1 W→
      assign.wpIn (F.inRound l) (n-1-1) P (Exit.then (λa' Wa=>∃Oa,gX K O1 Oa W Wa∧∀U,e7 (λb=>¬Oa b) Wa U→U.heap.size=Wa.heap.size→
        body.wpIn (F.inRound l) (n-1-1) P (BY K I Ix (i+1) Oa U) a' U) (λ_ _ _=>False)) {tmps:=(ps.zip (encs x)).foldl (λt (p,v)=>t.setIfInBounds p v) a.tmps,defers:=[]} W)
    (hdone: ∀(D:Nat) (O1:Nat→Prop) (W:World),w.heap.size≤D→¬O1 D→I xs.length O1 W→W.heap[D]? =some (.deferred (some []))→Q .normal {a with defers:={target:= .collected D,args:=#[]}::a.defers} W)
    (hstop: ∀(D:Nat) (c:Code) (i:Nat) (O1:Nat→Prop) (W:World),w.heap.size≤D→¬O1 D→i<xs.length→Ix c (i+1) O1 W→W.heap[D]? =some (.deferred (some []))→c.wpIn F n P Q {a with defers:={target:= .collected D,args:=#[]}::a.defers} W):
    (Code.rangeFunc g ps assign body).wpIn F n P Q a w:=by
  refine wpIn_rangeFunc ?_
  intro fn hfn
  rw[hro]
  obtain⟨B,hB⟩: ∃B,w.heap.size=B:=⟨_,rfl⟩
  obtain⟨rec,hrec⟩: ∃rec:LoopState→Option Code→Loop,rec=λst pe=>{state:=st,pending:=pe,fn,tmps:=a.tmps,params:=ps,assign,body,defers:=B}:=⟨_,rfl⟩
  obtain⟨V,hV⟩: ∃V,(w.alloc (.deferred (some []))).alloc (.loop (rec .ready none))=V:=⟨_,rfl⟩
  have vl:V.heap[B+1]? =some (.loop (rec .ready none)):=by
    rw[←hV,←hB];have:=aaQ (w.alloc (.deferred (some []))) (.loop (rec .ready none));rwa [World.size_alloc] at this
  have vd:V.heap[B]? =some (.deferred (some [])):=by
    rw[←hV,←hB];exact(Below.heap_alloc _ _ _ (by simp)).trans (aaQ w _)
  have vo: ∀b,b<B→V.heap[b]? =w.heap[b]? :=by
    intro b hb
    rw[←hV];exact(Below.heap_alloc _ _ _ (by simp;omega)).trans (Below.heap_alloc _ _ _ Om)
  have vI:I 0 O V:=by
    rw[←hV];exact hI 0 _ _ _ (hI 0 _ _ _ h0 (e7.alloc _ _ _)) (e7.alloc _ _ _)
  have vs:V.heap.size=B+2:=by rw[←hV,←hB];simp
  refine⟨B+1,[{target:= .collected B,args:=#[]}],V,{target:= .fn (.func gf) lb,args:=#[.func (.yield (B+1)) #[] #[]]},V,gf,
    #[.func (.yield (B+1)) #[] #[]]++lb,V,?_,?_,?_,?_,λ_=>h1,?_⟩
  · rw[←hV,hrec,←hB];exact run_enterLoop_outer _ _ _ _ _
  · simp only[resolve,hg]
    simp [go_sem]
  · intro f' hf';simp [Target.leads] at hf';subst hf';exact hFg
  · simp [invoke,go_sem,eg]
  · obtain⟨up,hup⟩: ∃up:(Nat→Prop)→Nat→Prop,up=λOc b=>Oc b∨b=B∨b=B+1:=⟨_,rfl⟩
    have kept: ∀{Oc:Nat→Prop} {A C:World} {b:Nat} {o:Obj},e7 (λb=>¬up Oc b) A C→(b=B∨b=B+1)→A.heap[b]? =some o→C.heap[b]? =some o:=λ{Oc A C b o} t hb ho=>
      t.heap (λe=>e (by rw[hup];exact .inr hb)) ho
    have upT: ∀{Oc:Nat→Prop} {A C:World},e7 (λb=>¬up Oc b) A C→e7 (λb=>¬Oc b) A C:=λ{Oc A C} t=>t.mono λb hb h=>hb (by rw[hup];exact .inl h)
    refine(hit (B+1)
      (λi O1 W=>∃Oc,O1=up Oc∧(¬Oc B∧¬Oc (B+1))∧I i Oc W∧W.heap[B+1]? =some (.loop (rec .ready none))∧W.heap[B]? =some (.deferred (some [])))
      (λi O1 W=>∃Oc,O1=up Oc∧(¬Oc B∧¬Oc (B+1))∧∃c,Ix c i Oc W∧W.heap[B+1]? =some (.loop (rec .done (some c)))∧W.heap[B]? =some (.deferred (some [])))
      V (up O) (hSt V (by rw[hB];exact vo) (up O) λb hb h=>by
        rw[hup] at h
        rcases h with h | h | h
        · exact h
        · omega
        · omega)
      (λi O1 A C hs t=>by
        obtain⟨Oc,rfl,hn,h1,h2,h3⟩:=hs
        exact⟨Oc,rfl,hn,hI i _ A C h1 (upT t),kept t (.inr rfl) h2,kept t (.inl rfl) h3⟩)
      (λi O1 A C hs t=>by
        obtain⟨Oc,rfl,hn,c,h1,h2,h3⟩:=hs
        exact⟨Oc,rfl,hn,c,hIx c i _ A C h1 (upT t),kept t (.inr rfl) h2,kept t (.inl rfl) h3⟩)
      (λb hb=>by
        rw[hup] at hb
        rcases hb with h | h | h
        · have:=hO b h;omega
        · omega
        · omega)
      ?_ ⟨O,rfl,⟨λh=>by have:=hO _ h;omega,λh=>by have:=hO _ h;omega⟩,vI,vl,vd⟩).mono ?_
    · rintro i x O1 W hx ⟨Oc,rfl,hn,hi,hl,hd⟩ hVW
      have hlt:B+1<W.heap.size:=(Array.getElem?_eq_some_iff.1 hl).1
      have hy:=run_yield (P:=P) (args:=encs x) hl (by rw[hrec];exact hps x)
      rw[hrec] at hy
      have hra:=hround (B+1) i x Oc W hx Om hi
      refine⟨fn,_,assign,body,hy,roundIn_of_wpIn hfn (wpIn_mono hra ?_)⟩
      intro e0 a0 Wa hpa
      cases e0 with
      | normal=>?_
      | ret=>exact hpa.elim
      | exit id=>exact hpa.elim
      | goto t=>exact hpa.elim
      | panic ch=>exact hpa.elim
      | outgrown=>exact hpa.elim
      obtain⟨Oa,hga,hbody⟩:=hpa
      have was:=hga.size
      have hlW:=hl
      have hdW:=hd
      have hnW:=hn
      have hltW:=hlt
      have gW:gX K (up Oc) (up Oa) W Wa:=by
        refine⟨hga.size,?_,?_,λb hb h=>hga.keep b hb (h.imp (λh e=>h (by rw[hup];exact .inl e)) id)⟩
        · intro b hb h
          rw[hup] at h⊢
          exact h.elim (λh=> .inl (hga.old b hb h)) .inr
        · intro b h
          rw[hup] at h
          rcases h with h | h | h
          · exact hga.new b h
          · omega
          · omega
      have hl:=(hga.keep (B+1) hlt (.inl hn.2)).trans hlW
      have hd:=(hga.keep B Om (.inl hn.1)).trans hdW
      have hn: ¬Oa B∧¬Oa (B+1):=⟨λh=>hnW.1 (hga.old _ Om h),λh=>hnW.2 (hga.old _ hlt h)⟩
      have hlt:B+1<Wa.heap.size:=(Array.getElem?_eq_some_iff.1 hl).1
      refine⟨_,run_beginRound hl (by rw[hrec]),?_⟩
      obtain⟨U,hU⟩: ∃U,Wa.putObj (B+1) (.loop {rec .ready none with state:= .busy})=U:=⟨_,rfl⟩
      have ul:U.heap[B+1]? =some (.loop {rec .ready none with state:= .busy}):=by rw[←hU];exact aaY hlt
      have ud:U.heap[B]? =some (.deferred (some [])):=by rw[←hU];exact(Z2 Om).trans hd
      have us:U.heap.size=Wa.heap.size:=by rw[←hU];simp [aaZ]
      have uo: ∀b,b≠B+1→U.heap[b]? =Wa.heap[b]? :=λb hb=>by rw[←hU];exact Z2 hb
      have uT:e7 (λb=>¬Oa b) Wa U:=by rw[←hU];exact e7.putObj Wa hn.2 _
      rw[hU]
      refine wpIn_mono (hbody U uT us) ?_
      have fin: ∀(jump:Option Code) (O2:Nat→Prop) (W3:World),gX K Oa O2 U W3→
          (Instr.endRound (B+1) jump).run P W3= .ok (.bool jump.isNone) (W3.putObj (B+1) (.loop (rec (if jump.isNone then .ready else .done) jump)))∧
          (W3.putObj (B+1) (.loop (rec (if jump.isNone then .ready else .done) jump))).heap[B+1]? =some (.loop (rec (if jump.isNone then .ready else .done) jump))∧
          (W3.putObj (B+1) (.loop (rec (if jump.isNone then .ready else .done) jump))).heap[B]? =some (.deferred (some []))∧
          (¬O2 B∧¬O2 (B+1))∧gX K (up Oa) (up O2) Wa (W3.putObj (B+1) (.loop (rec (if jump.isNone then .ready else .done) jump))):=λjump O2 W3 hk=>by
        have l3:W3.heap[B+1]? =some (.loop {rec .ready none with state:= .busy}):=(hk.keep (B+1) Om (.inl hn.2)).trans ul
        have d3:W3.heap[B]? =some (.deferred (some [])):=(hk.keep B Om (.inl hn.1)).trans ud
        have n3: ¬O2 B∧¬O2 (B+1):=⟨λh=>hn.1 (hk.old _ Om h),λh=>hn.2 (hk.old _ Om h)⟩
        have hr:=run_endRound (P:=P) jump l3
        rw[hrec] at hr⊢
        rw[hrec] at l3
        have hsz: ∀o,(W3.putObj (B+1) o).heap.size=W3.heap.size:=λo=>by simp [aaZ]
        have hks:=hk.size
        refine⟨hr,aaY (Array.getElem?_eq_some_iff.1 l3).1,(Z2 Om).trans d3,n3,⟨by rw[hsz];omega,?_,?_,?_⟩⟩
        · intro b hb h
          rw[hup] at h⊢
          exact h.elim (λh=> .inl (hk.old b Om h)) .inr
        · intro b h
          rw[hup] at h
          rw[hsz]
          rcases h with h | h | h
          · exact hk.new b h
          · omega
          · omega
        · intro b hb h
          have hne:b≠B+1:=by
            rintro rfl
            rcases h with h | h
            · exact h (by rw[hup];exact .inr (.inr rfl))
            · have:=hKl _ h;omega
          refine(Z2 hne).trans ((hk.keep b Om ?_).trans (uo b hne))
          rcases h with h | h
          · exact .inl λe=>h (by rw[hup];exact .inl e)
          · exact .inr h
      have jumps: ∀(c:Code) (O2:Nat→Prop) (W3:World),gX K Oa O2 U W3→Ix c (i+1) O2 W3→∃v w',(Instr.endRound (B+1) (some c)).run P W3= .ok v w'∧∃O',gX K (up Oc) O' W w'∧
          ((Ending.returned v= .returned (.bool true)∧∃Oc',O'=up Oc'∧(¬Oc' B∧¬Oc' (B+1))∧I (i+1) Oc' w'∧w'.heap[B+1]? =some (.loop (rec .ready none))∧w'.heap[B]? =some (.deferred (some [])))∨
           (Ending.returned v= .returned (.bool false)∧∃Oc',O'=up Oc'∧(¬Oc' B∧¬Oc' (B+1))∧∃c,Ix c (i+1) Oc' w'∧w'.heap[B+1]? =some (.loop (rec .done (some c)))∧w'.heap[B]? =some (.deferred (some [])))):=λc O2 W3 hk hc=>by
        obtain⟨hr,l4,d4,n3,hg⟩:=fin (some c) O2 W3 hk
        exact⟨_,_,hr,up O2,gW.trans hg,.inr ⟨rfl,O2,rfl,n3,c,hIx c _ _ _ _ hc (e7.putObj W3 n3.2 _),l4,d4⟩⟩
      rintro e a3 W3 hp
      cases e with
      | normal=>
        obtain⟨O2,hk,hi3⟩:=hp
        obtain⟨hr,l4,d4,n3,hg⟩:=fin none O2 W3 hk
        exact⟨_,_,hr,up O2,gW.trans hg,.inl ⟨rfl,O2,rfl,n3,hI _ _ _ _ hi3 (e7.putObj W3 n3.2 _),l4,d4⟩⟩
      | ret=>obtain⟨O2,hk,hi3⟩:=hp;exact jumps _ O2 W3 hk hi3
      | exit id=>obtain⟨O2,hk,hi3⟩:=hp;exact jumps _ O2 W3 hk hi3
      | goto t=>obtain⟨O2,hk,hi3⟩:=hp;exact jumps _ O2 W3 hk hi3
      | panic ch=>exact hp.elim
      | outgrown=>exact hp.elim
    · rintro e W2 ⟨⟨v,rfl⟩,(⟨O',Oc,rfl,hn,hi,hl,hd⟩ | ⟨i,hlen,O',Oc,rfl,hn,c,hi,hl,hd⟩)⟩
      · exact⟨none,_,by have:=run_endLoop (P:=P) hl (by rw[hrec];simp);rw[hrec] at this;exact this,hdone _ _ _ Om hn.1 (hI _ _ _ _ hi (e7.putObj W2 hn.2 _)) ((Z2 Om).trans hd)⟩
      · exact⟨some c,_,by have:=run_endLoop (P:=P) hl (by rw[hrec];simp);rw[hrec] at this;exact this,hstop _ c i _ _ Om hn.1 hlen (hIx c _ _ _ _ hi (e7.putObj W2 hn.2 _)) ((Z2 Om).trans hd)⟩
end
section
open Go Go.RowKit Go.Shelf
def p7(a:List Nat)(W1:World)(Rel:ah→Prop)(W':World):Prop:=∃L',aF a W1 L' W'∧Rel L'
def l7(a:List Nat)(W1:World)(Rel:ah→Prop)(b:Code→ah→Prop):Exit→Act→World→Prop
 | .normal,_,W'=>p7 a W1 Rel W'
 | .ret,_,W'=>p7 a W1 (b .ret) W'
 | .exit c,_,W'=>p7 a W1 (b (.exit c)) W'
 | .goto t,_,W'=>p7 a W1 (b (.goto t)) W'
 | .panic _,_,_=>False
 | .outgrown,_,_=>False
def oN(U:Nat→Prop)(bs:ay)(b:Nat):Prop:=U b∨∃x∈bs,x.1=b
def oO(U:Nat→Prop)(m:Nat)(R:List Nat)(base:World)(Rel:Nat→ah→Prop)(i:Nat)(O:Nat→Prop)(W:World):Prop:=
 ∃L a,Rel i L∧bq L a∧O=oN U a.flatten∧cG R base a.flatten W∧m≤W.heap.size∧∀x∈a.flatten,¬U x.1
def jg(KO:ay)(L:ah):Prop:=∀x∈KO,∃a,aA.c a∈L∧x∈a
theorem jg.mem{KO:ay}{L:ah}{cs:List ay}(h:jg KO L)(hs:bq L cs): ∀x∈KO,x∈cs.flatten:=by
 intro x l;obtain⟨a,k,f⟩:=h x l;obtain⟨i,b,e⟩:=Z4 k;have d:cs.getD i []=a:=nc hs (i:=i) (x:= .c a) (by rw[ZL b,e]);have g:i<cs.length:=by rw[←jO hs];exact b
 exact List.mem_flatten.2 ⟨_,nX g,by rw[d];exact f⟩
section
variable {U:Nat→Prop} {m:Nat} {R:List Nat} {base:World} {Rel:Nat→ah→Prop}
theorem oO.stay(g: ∀b,b<base.heap.size→b∉R→U b):gO (oO U m R base Rel):=by
 rintro i O W W' ⟨L,a,c,l,rfl,d,e,f⟩ t;exact⟨L,a,c,l,rfl,d.turn t (λx n=> .inr ⟨x,n,rfl⟩) (λb h k=> .inl (g b h k)),Z9 e t.size,f⟩
theorem B8{K:Nat→Prop}{bs bs':ay}{W1 W':World}(h1:cG (bL bs) W1 bs' W')(o:cG R base bs W1)(p:m≤W1.heap.size)(k: ∀b,U b→b<m)(q: ∀x∈bs,¬U x.1)
  (n: ∀b,K b→b<W1.heap.size→W'.heap[b]? =W1.heap[b]?):gX K (oN U bs) (oN U bs') W1 W'∧cG R base bs' W'∧m≤W'.heap.size∧∀x∈bs',¬U x.1:=by
 have i: ∀b,U b→b∉bL bs:=λb i a=>by
  obtain⟨y,c,e⟩:=List.mem_map.1 a;exact q y c (by rw[e];exact i)
 refine⟨⟨h1.size,?_,?_,?_⟩,o.join h1,Z9 p h1.size,λx a l=>?_⟩
 ·rintro b i (h | ⟨y,c,rfl⟩)
  ·exact .inl h
  ·rcases h1.lo y c with d | d
   ·obtain⟨x,a,e⟩:=List.mem_map.1 d;exact .inr ⟨x,a,e⟩
   ·omega
 ·rintro b (h | ⟨y,c,rfl⟩)
  ·have:=k b h;have:=h1.size;omega
  ·exact h1.lt c
 ·intro b g f;rcases f with f | f
  ·refine h1.far b g λa=>?_;obtain⟨y,c,e⟩:=List.mem_map.1 a;exact f (.inr ⟨y,c,e⟩)
  ·exact n b f g
 ·rcases h1.lo x a with d | d
  ·exact i x.1 l d
  ·have:=k _ l;omega
theorem p7.grow{KO:ay}{i:Nat}{L:ah}{cs:List ay}{W1 W':World}(h:p7 (bL cs.flatten) W1 (Rel i) W')(hs:bq L cs)(e:cG R base cs.flatten W1)(t:m≤W1.heap.size)(s: ∀b,U b→b<m)(u: ∀x∈cs.flatten,¬U x.1)
  (q:jg KO L) (r: ∀L',Rel i L'→jg KO L'): ∃c,gX (λb=>∃x∈KO,x.1=b) (oN U cs.flatten) c W1 W'∧oO U m R base Rel i c W':=by
 obtain⟨L',a,d⟩:=h;obtain⟨l,f,a⟩:=a.conc;obtain⟨g,n,o,p⟩:=B8 (K:=λb=>∃x∈KO,x.1=b) a e t s u (by
  rintro b ⟨x,k,rfl⟩ _;exact(a.obj x ((r L' d).mem f x k)).trans (e.obj x (q.mem hs x k)).symm)
 exact⟨_,g,L',l,d,f,rfl,n,o,p⟩
end
def fv{α:Type}(n:Nat)(P:Program)(a:Nat)(c:Array Value)(encs:α→Array Value)(xs:List α)(KO:ay):Prop:=
 oM Fence.wide n P a c encs xs (λb=>∃x∈KO,x.1=b) (λ_=>ez KO)
def p8{α:Type}(n:Nat)(P:Program)(a:Nat)(c:Array Value)(encs:α→Array Value)(xs:List α)(KO XO:ay):Prop:=
 oM Fence.wide n P a c encs xs (λb=>∃x∈KO,x.1=b) (λO W=>ez (KO++XO) W∧∀x∈XO,¬O x.1)
def ij(t:Array Value)(a:Array Tmp)(vs:Array Value):Array Value:=(a.zip vs).foldl (λt (p,v)=>t.setIfInBounds p v) t
theorem B9{α:Type}{n:Nat}{P:Program}{g:Operand}{ps:Array Tmp}{q M:Code}{Q:Exit→Act→World→Prop}{a:Act}{W:World}
  (h1:1≤n) {gf:Nat} {lb:Array Value} (hg:a.eval g= .func (.func gf) #[] lb) (eg: ∀args w,(callFunc gf args).run P w= .ok (.enter gf args) w)
  {encs:α→Array Value} {xs:List α} {KO XO:ay} (hit:p8 (n-1) P gf lb encs xs KO XO)
  {R:List Nat} {base:World} (Rel:Nat→ah→Prop) (T:Code→Nat→ah→Prop) {L0:ah} (OW:Hid (aF R base (L0++[.c XO]) W)) (h0:Rel 0 L0)
  (V: ∀i L,Rel i L→jg KO L) (X: ∀c i L,T c i L→jg KO L) (hnd:(KO++XO).Pairwise λx y=>x.1≠y.1) (hps: ∀x,(encs x).size=ps.size)
  (r: ∀(l i:Nat) (x:α) (L:ah) (R1:List Nat) (W:World),xs[i]? =some x→Rel i L→Hid (aF R1 W L W)→
   q.wpIn (Fence.wide.inRound l) (n-1-1) P (Exit.then (λa' Wa=>∃La,aF R1 W La Wa∧jg KO La∧∀R2 W1,Hid (aF R2 W1 La W1)→
    M.wpIn (Fence.wide.inRound l) (n-1-1) P (l7 R2 W1 (Rel (i+1)) (λc=>T c (i+1))) a' W1) (λ_ _ _=>False)) {tmps:=ij a.tmps ps (encs x),defers:=[]} W)
  (hdone: ∀(D:Nat) (L:ah) (k:World),Rel xs.length L→Hid (aF R base (L++[mk D]) k)→Q .normal {a with defers:=j9 D::a.defers} k)
  (hstop: ∀(D:Nat) (c:Code) (i:Nat) (L:ah) (k:World),i<xs.length→T c (i+1) L→Hid (aF R base (L++[mk D]) k)→c.wpIn Fence.wide n P Q {a with defers:=j9 D::a.defers} k):
  (Code.rangeFunc g ps q M).wpIn Fence.wide n P Q a W:=by
 unfold ij at r;obtain⟨c9,hs9,p⟩:=OW.out.conc;obtain⟨O,c1,rfl,hs0,hs1⟩:=n1 hs9;have e1:c1.flatten=XO:=by
  match c1,hs1 with
  | [d],h=>have h1:d=XO:=h.1;simpa using h1
  | d::_::_,h=>exact h.2.elim
 rw[Z8,e1] at p;have s:cG R base O.flatten W:=p.sub (aaX _ _);have hXn: ∀x∈O.flatten,∀y∈XO,x.1≠y.1:=(List.pairwise_append.1 p.nd).2.2;obtain⟨m,hm⟩: ∃m,W.heap.size=m:=⟨_,rfl⟩;obtain⟨U,G⟩: ∃U:Nat→Prop,U=λb=>b<m∧b∉bL O.flatten∧b∉bL XO:=⟨_,rfl⟩;have hU: ∀b,U b→b<m:=λb h=>by rw[G] at h;exact h.1
 have Z: ∀b,b<base.heap.size→b∉R→U b:=λb hb A=>by
  rw[G];refine⟨by have:=s.size;omega,λf=>?_,λf=>?_⟩
  ·obtain⟨y,hy,e⟩:=List.mem_map.1 f;rcases s.lo y hy with h | h
   ·exact A (by rw[←e];exact h)
   ·omega
  ·obtain⟨y,hy,e⟩:=List.mem_map.1 f;rcases p.lo y (ZR _ hy) with h | h
   ·exact A (by rw[←e];exact h)
   ·omega
 have hn0: ∀x∈O.flatten,¬U x.1:=λx f h=>by rw[G] at h;exact h.2.1 (aaq f)
 have hset: ∀b,oN U O.flatten b→b<m:=λb h=>by
  rcases h with h | ⟨x,f,rfl⟩
  ·exact hU b h
  ·have:=s.lt f;omega
 have fin: ∀(D:Nat) (B:Nat→Prop) (L:ah) (cs:List ay) (k:World),W.heap.size≤D→¬B D→B=oN U cs.flatten→bq L cs→cG R base cs.flatten k→k.heap[D]? =some (.deferred (some []))→aF R base (L++[mk D]) k:=by
  rintro D B L cs k hD A rfl hs h hd;refine aF.ofS (cs:=cs++[[dP D]]) (kA hs ⟨rfl,trivial⟩) ?_;rw[Z8];show cG R base (cs.flatten++[dP D]) k;refine⟨?_,?_,?_,h.os,h.tape,h.output,h.size,h.far⟩
  ·intro x f;rcases List.mem_append.1 f with f | f
   ·exact h.obj x f
   ·obtain rfl:=List.mem_singleton.1 f;exact hd
  ·refine List.pairwise_append.2 ⟨h.nd,aap _ _,λx f y hy e=>?_⟩;obtain rfl:=List.mem_singleton.1 hy;exact A (.inr ⟨x,f,e⟩)
  ·intro x f;rcases List.mem_append.1 f with f | f
   ·exact h.lo x f
   ·obtain rfl:=List.mem_singleton.1 f;exact .inr (Z9 s.size hD)
 have hK0:=(V 0 L0 h0).mem hs0;refine BZ (n:=n) (F:=Fence.wide) rfl h1 hg trivial eg hit (oN U O.flatten) (λW' hW' B o=>?_) (λb hb=>by have:=hset b hb;omega) (λb hb=>?_) hps (oO U m R base Rel) (λc=>oO U m R base (T c)) (oO.stay Z) (λc=>oO.stay Z) ⟨L0,O,h0,hs0,rfl,s,by omega,hn0⟩ ?_ ?_ ?_
 ·refine⟨⟨λx f=>?_,hnd⟩,λx f h=>?_⟩
  ·have hm':x∈O.flatten++XO:=(List.mem_append.1 f).elim (λh=>ZQ _ (hK0 x h)) (ZR _);exact(hW' x.1 (p.lt hm')).trans (p.obj x hm')
  ·rcases o x.1 (p.lt (ZR _ f)) h with h | ⟨y,hy,e⟩
   ·rw[G] at h;exact h.2.2 (aaq f)
   ·exact hXn y hy x f e
 ·obtain⟨x,f,rfl⟩:=hb;exact s.lt (hK0 x f)
 ·rintro l i x B W0 f hs ⟨Ls0,cs0,hr,S,rfl,Y,hm0,hn1⟩;refine wpIn_mono (r l i x Ls0 (bL cs0.flatten) W0 f hr (Lib.hid (aF.ofS S Y.anew))) ?_;intro e0 a' Wa u;cases e0 with
  | normal=>?_
  | ret=>exact u.elim
  | exit id=>exact u.elim
  | goto t=>exact u.elim
  | panic ch=>exact u.elim
  | outgrown=>exact u.elim
  obtain⟨La,C,z,hbody⟩:=u;obtain⟨ca,v,C⟩:=C.conc;obtain⟨ga,hOW,hm1,I⟩:=B8 (K:=λb=>∃x∈KO,x.1=b) C Y hm0 hU hn1 (by
   rintro b ⟨x,f,rfl⟩ _;exact(C.obj x (z.mem v x f)).trans (Y.obj x ((V _ _ hr).mem S x f)).symm)
  refine⟨_,ga,?_⟩;intro W1 tW sW;have o:cG R base ca.flatten W1:=hOW.turn tW (λx f=> .inr ⟨x,f,rfl⟩) (λb hb A=> .inl (Z b hb A));have H:m≤W1.heap.size:=by omega
  refine wpIn_mono (hbody (bL ca.flatten) W1 (Lib.hid (aF.ofS v o.anew))) ?_;intro e a' W' h;cases e with
  | normal=>exact h.grow v o H hU I z (V (i+1))
  | ret=>exact h.grow (Rel:=T .ret) v o H hU I z (X .ret (i+1))
  | exit id=>exact h.grow (Rel:=T (.exit id)) v o H hU I z (X (.exit id) (i+1))
  | goto t=>exact h.grow (Rel:=T (.goto t)) v o H hU I z (X (.goto t) (i+1))
  | panic c=>exact h.elim
  | outgrown=>exact h.elim
 ·rintro D B k hD A ⟨L,cs,hr,hs,he,Y,hm1,hn1⟩ hd;exact hdone D L k hr (Lib.hid (fin D B L cs k hD A he hs Y hd))
 ·rintro D c i B k hD A hi ⟨L,cs,hr,hs,he,Y,hm1,hn1⟩ hd;exact hstop D c i L k hi hr (Lib.hid (fin D B L cs k hD A he hs Y hd))
theorem Jq{α:Type}{n:Nat}{P:Program}{g:Operand}{z:Array Tmp}{b e:Code}{Q:Exit→Act→World→Prop}{a:Act}{W:World}
  (h1:1≤n) {p:Nat} {F:Array Value} (V:a.eval g= .func (.func p) #[] F) (S: ∀args w,(callFunc p args).run P w= .ok (.enter p args) w)
  {encs:α→Array Value} {xs:List α} {KO:ay} (hit:fv (n-1) P p F encs xs KO)
  {R:List Nat} {base:World} (Rel:Nat→ah→Prop) (o:Code→Nat→ah→Prop) {A:ah} (H:Hid (aF R base A W)) (h0:Rel 0 A)
  (r: ∀i L,Rel i L→jg KO L) (s: ∀c i L,o c i L→jg KO L) (u:KO.Pairwise λx y=>x.1≠y.1) (v: ∀x,(encs x).size=z.size)
  (d: ∀(l i:Nat) (x:α) (L:ah) (B:List Nat) (W:World),xs[i]? =some x→Rel i L→Hid (aF B W L W)→
   b.wpIn (Fence.wide.inRound l) (n-1-1) P (Exit.then (λM I=>∃q,aF B W q I∧jg KO q∧∀C W1,Hid (aF C W1 q W1)→
    e.wpIn (Fence.wide.inRound l) (n-1-1) P (l7 C W1 (Rel (i+1)) (λc=>o c (i+1))) M W1) (λ_ _ _=>False)) {tmps:=ij a.tmps z (encs x),defers:=[]} W)
  (f: ∀(D:Nat) (L:ah) (k:World),Rel xs.length L→Hid (aF R base (L++[mk D]) k)→Q .normal {a with defers:=j9 D::a.defers} k)
  (h: ∀(D:Nat) (c:Code) (i:Nat) (L:ah) (k:World),i<xs.length→o c (i+1) L→Hid (aF R base (L++[mk D]) k)→c.wpIn Fence.wide n P Q {a with defers:=j9 D::a.defers} k):
  (Code.rangeFunc g z b e).wpIn Fence.wide n P Q a W:=by
 refine B9 (XO:=[]) h1 V S (λl J G W O t=>hit l J G W O (by simpa using t.1)) Rel o (Lib.hid ?_) h0 r s (by simpa using u) v d f h;obtain⟨cs,X,T⟩:=H.out.conc;exact aF.ofS (cs:=cs++[[]]) (kA X ⟨rfl,trivial⟩) (by simpa using T)
structure fR (J:Nat→(Nat→Prop)→World→Prop) (K:ay) (W0:World) (L:ay) (j:Nat) (wr:World):Prop where
 ex: ∃O,J j O wr∧(∀x∈L,¬O x.1)∧∀b,O b→b<wr.heap.size
 sz:W0.heap.size≤wr.heap.size
 has:ez (K++L) wr
section
variable {J:Nat→(Nat→Prop)→World→Prop} {K:ay} {W0 wr W':World} {L L':ay} {j:Nat}
theorem fR.step(p:gO J)(h:fR J K W0 L j wr)(a:cG ((K++L).map (·.1)) wr (K++L') W'):fR J K W0 L' j W':=by
 obtain⟨O,o,k,l⟩:=h.ex;have t:e7 (λb=>¬O b) wr W':=⟨a.os,a.tape,a.output,a.size,λb g q=>by
  have i:O b:=Classical.not_not.1 q;by_cases f:b∈(K++L).map (·.1)
  ·obtain⟨y,c,e⟩:=List.mem_map.1 f;rcases List.mem_append.1 c with c | c
   ·rw[←e];exact(a.obj y (ZQ _ c)).trans (h.has.obj y (ZQ _ c)).symm
   ·exact absurd i (by rw[←e];exact k y c)
  ·exact a.far b g f⟩
 refine⟨⟨O,p j O wr W' o t,λx f d=>?_,λb g=>aam (l b g) a.size⟩,Z9 h.sz a.size,a.obj,a.nd⟩;rcases a.lo x (ZR _ f) with n | n
 ·obtain⟨y,c,e⟩:=List.mem_map.1 n;rcases List.mem_append.1 c with c | c
  ·exact(List.pairwise_append.1 a.nd).2.2 y c x f e
  ·exact k y c (by rw[e];exact d)
 ·have:=l _ d;omega
theorem fR.stepE{A:ah}{LE:ah}(f:gO J)(h:fR J K W0 L j wr)(g: ∀ds,bq A ds→ds.flatten=K)(a:aF ((K++L).map (·.1)) wr (A++LE) W'): ∃ds,bq LE ds∧fR J K W0 ds.flatten j W':=by
 obtain⟨k,i,a⟩:=a.conc;obtain⟨b,c,rfl,d,e⟩:=n1 i;rw[Z8,g b d] at a;exact⟨c,e,h.step f a⟩
end
theorem Jr{α:Type}{n:Nat}{P:Program}{s:Nat}{y:Array Value}{encs:α→Array Value}{xs:List α}{KO:ay}
  (h: ∀(l:Nat) (J o:Nat→(Nat→Prop)→World→Prop) (W:World),gO J→
   Hid (∀(L:ay) (j:Nat) (x:α) (wr:World),xs[j]? =some x→fR J KO W L j wr→YieldAt Fence.wide (n-1) P l (encs x) wr λe W'=>(e= .returned (.bool true)∧fR J KO W L (j+1) W')∨(e= .returned (.bool false)∧∃g,o (j+1) g W'))→
   Hid (fR J KO W [] 0 W)→CallsIn Fence.wide n P s (#[.func (.yield l) #[] #[]]++y) W λe W'=>(∃v,e= .returned v)∧((∃L,fR J KO W L xs.length W')∨∃i,i<xs.length∧∃g,o (i+1) g W')):
  fv n P s y encs xs KO:=by
 intro l J o W O q C D G H z;refine(h l J o W C (Lib.hid ?_) (Lib.hid ⟨⟨O,z,λ_ h=>by simp at h,G⟩,ZT _,by simpa using q⟩)).mono ?_
 ·intro L j x wr c d;obtain⟨p,A,t,I⟩:=d.ex;refine(H j x p wr c A d.sz).mono ?_;rintro e W' ⟨g,k,a | a⟩
  ·refine .inl ⟨a.1,⟨g,a.2,λx c r=>?_,k.new⟩,Z9 d.sz k.size,⟨λx c=>?_,d.has.nd⟩⟩
   ·have b:x.1<wr.heap.size:=(Array.getElem?_eq_some_iff.1 (d.has.obj x (ZR _ c))).1;exact t x c (k.old _ b r)
   ·have b:x.1<wr.heap.size:=(Array.getElem?_eq_some_iff.1 (d.has.obj x c)).1;rcases List.mem_append.1 c with f | f
    ·exact(k.keep _ b (.inr ⟨x,f,rfl⟩)).trans (d.has.obj x c)
    ·exact(k.keep _ b (.inl (t x f))).trans (d.has.obj x c)
  ·exact .inr ⟨a.1,g,a.2⟩
 ·rintro e W' ⟨u,a | a⟩
  ·refine⟨u,.inl ?_⟩;obtain⟨L,F⟩:=a;obtain⟨p,B,_⟩:=F.ex;exact⟨p,B⟩
  ·exact⟨u,.inr a⟩
theorem Js{α:Type}{n:Nat}{P:Program}{s:Nat}{y:Array Value}{encs:α→Array Value}{xs:List α}{KO XO:ay}
  (h: ∀(l:Nat) (J p:Nat→(Nat→Prop)→World→Prop) (W:World),gO J→
   Hid (∀(L:ay) (j:Nat) (x:α) (wr:World),xs[j]? =some x→fR J KO W L j wr→YieldAt Fence.wide (n-1) P l (encs x) wr λe W'=>(e= .returned (.bool true)∧fR J KO W L (j+1) W')∨(e= .returned (.bool false)∧∃g,p (j+1) g W'))→
   Hid (fR J KO W XO 0 W)→CallsIn Fence.wide n P s (#[.func (.yield l) #[] #[]]++y) W λe W'=>(∃v,e= .returned v)∧((∃L,fR J KO W L xs.length W')∨∃i,i<xs.length∧∃g,p (i+1) g W')):
  p8 n P s y encs xs KO XO:=by
 intro l J p W O k C D G H z;refine(h l J p W C (Lib.hid ?_) (Lib.hid ⟨⟨O,z,k.2,G⟩,ZT _,k.1⟩)).mono ?_
 ·intro L j x wr c d;obtain⟨q,A,t,I⟩:=d.ex;refine(H j x q wr c A d.sz).mono ?_;rintro e W' ⟨g,o,a | a⟩
  ·refine .inl ⟨a.1,⟨g,a.2,λx c r=>?_,o.new⟩,Z9 d.sz o.size,⟨λx c=>?_,d.has.nd⟩⟩
   ·have b:x.1<wr.heap.size:=(Array.getElem?_eq_some_iff.1 (d.has.obj x (ZR _ c))).1;exact t x c (o.old _ b r)
   ·have b:x.1<wr.heap.size:=(Array.getElem?_eq_some_iff.1 (d.has.obj x c)).1;rcases List.mem_append.1 c with f | f
    ·exact(o.keep _ b (.inr ⟨x,f,rfl⟩)).trans (d.has.obj x c)
    ·exact(o.keep _ b (.inl (t x f))).trans (d.has.obj x c)
  ·exact .inr ⟨a.1,g,a.2⟩
 ·rintro e W' ⟨u,a | a⟩
  ·refine⟨u,.inl ?_⟩;obtain⟨L,F⟩:=a;obtain⟨q,B,_⟩:=F.ex;exact⟨q,B⟩
  ·exact⟨u,.inr a⟩
theorem n2{α:Type}{n i:Nat}{f:Nat→α}{x:α}(h:((aaf n).map f)[i]? =some x):i<n∧f i=x:=by
 rw[Z3] at h;rcases aaw i n with a | a
 ·rw[aaT a,ZW,Option.some.injEq] at h;exact⟨a,h⟩
 ·rw[ZZ (by rw[abA];exact a)] at h;cases h
theorem oP{α:Type}{n i:Nat}{f:Nat→α}(h:i<n):((aaf n).map f)[i]? =some (f i):=by rw[Z3,aaT h];rfl
theorem rY{α:Type}(d:α){i:Nat}{xs:List α}{x:α}(h:xs[i]? =some x):i<xs.length∧xs.getD i d=x:=by
 obtain⟨a,rfl⟩:=List.getElem?_eq_some_iff.1 h;exact⟨a,by rw[ZN,ZL a];rfl⟩
theorem Jt{α:Type}(d:α){i:Nat}{xs:List α}(h:i<xs.length):xs[i]? =some (xs.getD i d):=by rw[ZN,ZL h];rfl
end
section
open Go Go.RowKit Go.Shelf
def av(a:BinOp)(T:TypeId)(x y:Operand)(b c:Value):Sem Value:=do eqGuard a T x y b c;Go.binOp a T b c
section
variable {P:Program} {w:World}
theorem Ju(a b:UInt8):bits .xor .u8 (a.toNat:Int) (b.toNat:Int)=((a^^^b).toNat:Int):=by
 have h:=a.toNat_lt;have j:=b.toNat_lt;have g: ∀c:Nat,c<256→(BitVec.ofInt 8 (c:Int)).toNat=c:=by
  intro c o;rw[BitVec.ofInt_natCast,BitVec.toNat_ofNat];exact aaC Om
 have p:a.toNat^^^b.toNat<2^8:=abB h j;show IntKind.u8.wrap ((BitVec.ofInt 8 (a.toNat:Int)^^^BitVec.ofInt 8 (b.toNat:Int)).toNat:Int)=_;rw[BitVec.toNat_xor,g _ h,g _ j,UInt8.toNat_xor];exact IntWalk.u8_in _ Om
theorem l8{T:TypeId}{x y:Operand}(a b:UInt8):(av .xor T x y (.int .u8 (a.toNat:Int)) (.int .u8 (b.toNat:Int))).run P w= .ok (.int .u8 ((a^^^b).toNat:Int)) w:=by
 rw[←Ju];rfl
end
section
variable {P:Program} {T:TypeId} {x y:Operand} {w:World}
theorem iQ{yk:IntKind}{a:Int}(n:Nat)(b:n≤64):(av .shr T x y (.int .i64 a) (.int yk (n:Int))).run P w= .ok (.int .i64 (a/2^n)) w:=by
 unfold av;simp only[ZK,eqGuard_shr,ZP,ZJ,binOp_shr,shift_shr_i64 _ _ _ (aaW n) Om,aah]
theorem uB{yk:IntKind}{a:Nat}(n:Nat)(b:n≤64):(av .shr T x y (.int .u64 (a:Int)) (.int yk (n:Int))).run P w= .ok (.int .u64 ((a/2^n:Nat):Int)) w:=by
 unfold av;simp only[ZK,eqGuard_shr,ZP,ZJ,binOp_shr,shift_shr_u64 _ _ _ (aaW n) Om,aah];push_cast;rfl
theorem uC{yk:IntKind}{a:Nat}(n:Nat)(g:n≤64)(c:a*2^n<18446744073709551616):(av .shl T x y (.int .u64 (a:Int)) (.int yk (n:Int))).run P w= .ok (.int .u64 ((a*2^n:Nat):Int)) w:=by
 unfold av;have b:IntKind.u64.wrap ((a:Int)*2^n)=((a*2^n:Nat):Int):=by
  rw[show((a:Int)*2^n)=((a*2^n:Nat):Int) by push_cast;rfl,aax];omega
 simp only[ZK,eqGuard_shl,ZP,ZJ,binOp_shl,shift_shl_u64 _ _ _ (aaW n) Om,aah,b]
theorem Jv(a b:Nat)(h:a<18446744073709551616)(j:b<18446744073709551616):bits .or .u64 (a:Int) (b:Int)=((a||| b:Nat):Int):=by
 have g: ∀c:Nat,c<18446744073709551616→(BitVec.ofInt 64 (c:Int)).toNat=c:=by
  intro c o;rw[BitVec.ofInt_natCast,BitVec.toNat_ofNat];exact aaC Om
 have p:a||| b<2^64:=Nat.or_lt_two_pow h j;show IntKind.u64.wrap ((BitVec.ofInt 64 (a:Int)||| BitVec.ofInt 64 (b:Int)).toNat:Int)=_;rw[BitVec.toNat_or,g a h,g b j,aax];omega
theorem Jw(a b:Nat)(h:a<18446744073709551616)(j:b<18446744073709551616):bits .xor .u64 (a:Int) (b:Int)=((a^^^b:Nat):Int):=by
 have g: ∀c:Nat,c<18446744073709551616→(BitVec.ofInt 64 (c:Int)).toNat=c:=by
  intro c o;rw[BitVec.ofInt_natCast,BitVec.toNat_ofNat];exact aaC Om
 have p:a^^^b<2^64:=abB h j;show IntKind.u64.wrap ((BitVec.ofInt 64 (a:Int)^^^BitVec.ofInt 64 (b:Int)).toNat:Int)=_;rw[BitVec.toNat_xor,g a h,g b j,aax];omega
theorem Jy(a b:UInt8):bits .and .u8 (a.toNat:Int) (b.toNat:Int)=((a&&& b).toNat:Int):=by
 have g: ∀c:Nat,c<256→(BitVec.ofInt 8 (c:Int)).toNat=c:=by
  intro c h;rw[BitVec.ofInt_natCast,BitVec.toNat_ofNat];exact aaC Om
 show IntKind.u8.wrap ((BitVec.ofInt 8 (a.toNat:Int)&&& BitVec.ofInt 8 (b.toNat:Int)).toNat:Int)=_;rw[BitVec.toNat_and,g _ a.toNat_lt,g _ b.toNat_lt,←UInt8.toNat_and];exact IntWalk.u8_in _ (by have:=(a&&& b).toNat_lt;omega)
theorem Jz(a b:UInt8):bits .or .u8 (a.toNat:Int) (b.toNat:Int)=((a||| b).toNat:Int):=by
 have g: ∀c:Nat,c<256→(BitVec.ofInt 8 (c:Int)).toNat=c:=by
  intro c h;rw[BitVec.ofInt_natCast,BitVec.toNat_ofNat];exact aaC Om
 show IntKind.u8.wrap ((BitVec.ofInt 8 (a.toNat:Int)||| BitVec.ofInt 8 (b.toNat:Int)).toNat:Int)=_;rw[BitVec.toNat_or,g _ a.toNat_lt,g _ b.toNat_lt,←UInt8.toNat_or];exact IntWalk.u8_in _ (by have:=(a||| b).toNat_lt;omega)
theorem Ca{a b:Nat}(c:a<18446744073709551616)(g:b<18446744073709551616):(av .or T x y (.int .u64 (a:Int)) (.int .u64 (b:Int))).run P w= .ok (.int .u64 ((a||| b:Nat):Int)) w:=by
 rw[←Jv a b c g];rfl
theorem JA{a b:Nat}(c:a<18446744073709551616)(g:b<18446744073709551616):(av .xor T x y (.int .u64 (a:Int)) (.int .u64 (b:Int))).run P w= .ok (.int .u64 ((a^^^b:Nat):Int)) w:=by
 rw[←Jw a b c g];rfl
theorem xM(a b:UInt8):(av .and T x y (.int .u8 (a.toNat:Int)) (.int .u8 (b.toNat:Int))).run P w= .ok (.int .u8 ((a&&& b).toNat:Int)) w:=by
 rw[←Jy a b];rfl
theorem JB(a b:UInt8):(av .or T x y (.int .u8 (a.toNat:Int)) (.int .u8 (b.toNat:Int))).run P w= .ok (.int .u8 ((a||| b).toNat:Int)) w:=by
 rw[←Jz a b];rfl
theorem Cb{S T:TypeId}(a:P.underlying S=some (.int .u8))(b:P.underlying T=some (.int .u64)){c:UInt8}:(convert S T (.int .u8 (c.toNat:Int))).run P w= .ok (.int .u64 (c.toNat:Int)) w:=by
 have h:IntKind.u64.wrap (c.toNat:Int)=(c.toNat:Int):=by rw[aax];have:=c.toNat_lt;omega
 simp only[convert,ZK,run_underlying a,run_underlying b,ZJ,Conv.intToInt,h,ZP]
theorem uD{S T:TypeId}(a:P.underlying S=some (.int .u64))(b:P.underlying T=some (.int .u8)){c:Nat}:(convert S T (.int .u64 (c:Int))).run P w= .ok (.int .u8 ((UInt8.ofNat c).toNat:Int)) w:=by
 have h:IntKind.u8.wrap (c:Int)=((UInt8.ofNat c).toNat:Int):=by rw[IntKind.wrap_u8,abu];omega
 simp only[convert,ZK,run_underlying a,run_underlying b,ZJ,Conv.intToInt,h,ZP]
theorem ng{S T:TypeId}(a:P.underlying S=some (.int .i64))(b:P.underlying T=some (.int .u64)){c:Nat}(g:c<18446744073709551616):(convert S T (.int .i64 (c:Int))).run P w= .ok (.int .u64 (c:Int)) w:=by
 have h:IntKind.u64.wrap (c:Int)=(c:Int):=by rw[aax];omega
 simp only[convert,ZK,run_underlying a,run_underlying b,ZJ,Conv.intToInt,h,ZP]
end
def bE(cs z:List Value)(r:Nat):Array Value:=(cs++(aaa r z).flatten).toArray
theorem rZ(z:List Value)(r:Nat):((aaa r z).flatten).length=r*z.length:=by
 induction r with
 | zero=>simp
 | succ r ih=>rw[aa4,aaM,ZX,ih,aae];omega
theorem uE(cs z:List Value)(r:Nat):(bE cs z r).size=cs.length+r*z.length:=by unfold bE;rw[Z1,ZX,rZ]
theorem xN(z:Array Value)(n:Nat)(g:0<z.size):(Builtin.zeroCells z n).toList=(aaa n z.toList).flatten:=by
 have h: ∀n,∀i,i<n*z.size→((aaa n z.toList).flatten)[i]? =z[i%z.size]? :=by
  intro n
  induction n with
  | zero=>intro i b;omega
  | succ n ih=>
   intro i b;rw[aa4,aaM];by_cases a:i<z.size
   ·rw[List.getElem?_append_left (by simpa using a),aaC a,Array.getElem?_toList]
   ·rw[List.getElem?_append_right (by simpa using a),Array.length_toList,ih (i-z.size) (by rw[aae] at b;omega)]
    congr 1
    exact(Nat.mod_eq_sub_mod Om).symm
 apply aba;intro i;rcases aaw i (n*z.size) with a | a
 ·rw[h n i a];have c:i%z.size<z.size:=Nat.mod_lt _ g;unfold Builtin.zeroCells;simp [a,c]
 ·rw[ZZ (by rw[Array.length_toList,size_zeroCells];exact a),ZZ (by rw[rZ];simpa using a)]
def r5(T TY:TypeId)(v u:Value):Sem Next:=vS (Builtin.append_ #[T,T] TY #[v,u])
def JC(T U TY:TypeId)(v u:Value):Sem Next:=vS (Builtin.copy_ #[T,U] TY #[v,u])
theorem oQ{w:World}{g off:Nat}{t:TypeId}{cs:Array Value}{b:Nat×Nat}{news:List Value}(o:w.heap[g]? =some (.cells cs t b))(q:(cs.toList.drop off).take news.length=news): ∀j u,news[j]? =some u→w.cell? ((⟨g,off,none⟩:Addr).add j)=some u:=by
 intro j u h;have a:(⟨g,off,none⟩:Addr).add j=⟨g,off+j,none⟩:=by unfold Addr.add;split<;>simp_all
 rw[a,cell_of_row w g (off+j) cs t b o];have p:j<news.length:=(List.getElem?_eq_some_iff.1 h).1;have c:=ALca (λz=>z[j]?) q;simp only[aaD p,aaV] at c;rw[←Array.getElem?_toList,c];exact h
section
variable {P:Program} {T e:TypeId} {i:TypeInfo} {zv:Value}
structure eh (P:Program) (T e:TypeId) (z:List Value):Prop where
 ht:P.underlying T=some (.slice e)
 hi: ∃i zv,P.info? e=some i∧i.zero=some zv∧i.size=z.length∧zv.cells.toList=z∧i.bytes≤1048576
 h0:0<z.length
theorem eh.mk'{z:List Value}(ht:P.underlying T=some (.slice e))(a:(P.info? e).map (λi=>(i.zero.map (λv=>v.cells.toList),i.size,Nat.ble i.bytes 1048576))=some (some z,z.length,true))(h0:aaU 0 z.length=true):eh P T e z:=by
 refine⟨ht,?_,aaS▸h0⟩;cases c:P.info? e with
 | none=>rw[c] at a;cases a
 | some i=>
  rw[c] at a;simp only[ZW,Option.some.injEq,Prod.mk.injEq] at a;cases b:i.zero with
  | none=>rw[b] at a;simp at a
  | some zv=>
   rw[b] at a;exact⟨i,zv,rfl,b,a.2.1,by simpa using a.1,abq a.2.2⟩
end
section
variable {P:Program} {T e:TypeId} {x y:Operand} {w:World}
theorem JD{a b:Nat}(h:a*b<9223372036854775808):(av .mul T x y (.int .i64 (a:Int)) (.int .i64 (b:Int))).run P w= .ok (.int .i64 ((a*b:Nat):Int)) w:=by
 have c:((a*b:Nat):Int)<9223372036854775808:=by omega
 have g:=aaW (a*b);have e:((a*b:Nat):Int)=(a:Int)*(b:Int):=by push_cast;rfl
 rw[e] at c g⊢;exact IY (P:=P) (T:=T) (x:=x) (y:=y) (w:=w) (a:=(a:Int)) (b:=(b:Int)) Om Om
theorem JE{a b:Nat}(h:a+b<9223372036854775808):(av .add T x y (.int .i64 (a:Int)) (.int .i64 (b:Int))).run P w= .ok (.int .i64 ((a+b:Nat):Int)) w:=by
 have:=rE (P:=P) (T:=T) (x:=x) (y:=y) (w:=w) (a:=(a:Int)) (b:=(b:Int)) Om Om;rw[show((a+b:Nat):Int)=(a:Int)+(b:Int) by push_cast;rfl];exact this
theorem add_lit(g off m:Nat):(⟨g,off,none⟩:Addr).add m=⟨g,off+m,none⟩:=by unfold Addr.add;split<;>simp_all
def jh(P:Program)(e:TypeId):Option Nat:=(P.info? e).map (·.size)
theorem n4{s:Nat}(h:jh P e=some s):(sizeOf e).run P w= .ok s w:=by
 unfold jh at h;cases a:P.info? e with
 | none=>rw[a] at h;cases h
 | some i=>
  rw[a] at h;simp only[ZW,Option.some.injEq] at h;simp [sizeOf,typeInfo,a,h]
theorem bP{g off n c k s:Nat}(a:(P.underlying T,jh P (P.elem T))=(some (.slice (P.elem T)),some s))(b:k<n):(Instr.indexAt T (.slice (some ⟨g,off,none⟩) n c) (.int .i64 (k:Int))).run P w= .ok (.pointer (some ⟨g,off+k*s,none⟩)) w:=by
 rw[run_indexAt_slice w T _ n c .i64 (k:Int) (ALca (·.1) a),ALifp Om,n4 (ALca (·.2) a),ZJ,aah,add_lit]
theorem JF{g l h s N:Nat}(b:(P.underlying T,P.arrayLen T,jh P (P.elem T))=(some (.array N (P.elem T)),N,some s))(h1:l≤h)(h2:h≤N)(c:l<N):(Instr.sliceAt T (.pointer (some ⟨g,0,none⟩)) (some (.int .i64 (l:Int))) (some (.int .i64 (h:Int))) none).run P w= .ok (.slice (some ⟨g,l*s,none⟩) (h-l) (N-l)) w:=by
 have a:P.arrayLen T=N:=ALca (·.2.1) b;rw[run_sliceAt_array_lh w T ⟨g,0,none⟩ (by rw[a];exact ALca (·.1) b) .i64 .i64 (l:Int) (h:Int) Om Om (by rw[a];omega),n4 (ALca (·.2.2) b),ZJ];unfold slicedAt;rw[a,aah,aah,add_lit,ZV,ALifn Om]
theorem JG{g l s N:Nat}(b:(P.underlying T,P.arrayLen T,jh P (P.elem T))=(some (.array N (P.elem T)),N,some s))(c:l<N):(Instr.sliceAt T (.pointer (some ⟨g,0,none⟩)) (some (.int .i64 (l:Int))) none none).run P w= .ok (.slice (some ⟨g,l*s,none⟩) (N-l) (N-l)) w:=by
 have a:P.arrayLen T=N:=ALca (·.2.1) b;rw[run_sliceAt_array_l w T ⟨g,0,none⟩ (by rw[a];exact ALca (·.1) b) .i64 (l:Int) Om (by rw[a];omega),n4 (ALca (·.2.2) b),ZJ];unfold slicedAt;rw[a,aah,add_lit,ZV,ALifn Om]
theorem JH{g s N:Nat}(a:(P.underlying T,P.arrayLen T,jh P (P.elem T))=(some (.array N (P.elem T)),N,some s))(c:0<N):(Instr.sliceAt T (.pointer (some ⟨g,0,none⟩)) none none none).run P w= .ok (.slice (some ⟨g,0,none⟩) N N) w:=by
 have b:P.arrayLen T=N:=ALca (·.2.1) a;rw[run_sliceAt_array_all w T ⟨g,0,none⟩ (by rw[b];exact ALca (·.1) a),n4 (ALca (·.2.2) a),ZJ];unfold slicedAt;rw[b,add_lit,abp,ALifn Om];rfl
end
def bV(xs:List UInt8):List Value:=xs.map λb=> .int .u8 (b.toNat:Int)
theorem JI{cs z:List Value}{r:Nat}:((bE cs z r).toList.drop 0).take cs.length=cs:=by unfold bE;rw[aaz,ZY (ZT _),aar]
section
variable {P:Program} {f:FuncId} {args:Array Value} {w':World} {v:Value}
end
def jS(f:Nat→List Value):Nat→Nat→List Value
 | _,0=>[]
 | i,n+1=>f i++jS f (i+1) n
def cS{α:Type}(e:α→List Value)(d:α)(n:Nat)(xs:List α):List Value:=jS (λi=>e (xs.getD i d)) 0 n
def eB(b:UInt8):List Value:=[.int .u8 (b.toNat:Int)]
def eI(x:Int):List Value:=[.int .i64 x]
def eN(x:Nat):List Value:=[.int .i64 (x:Int)]
def eW(x:Nat):List Value:=[.int .u64 (x:Int)]
abbrev rB(n:Nat)(xs:List UInt8):List Value:=cS eB 0 n xs
abbrev rI(n:Nat)(xs:List Int):List Value:=cS eI 0 n xs
abbrev rN(n:Nat)(xs:List Nat):List Value:=cS eN 0 n xs
abbrev rW(n:Nat)(xs:List Nat):List Value:=cS eW 0 n xs
section
variable {α:Type} {e:α→List Value} {d:α} {n:Nat} {xs ys:List α}
theorem Cc{f:Nat→List Value}{k:Nat}(h: ∀i,(f i).length=k): ∀n i,(jS f i n).length=n*k
 | 0,_=>by simp [jS]
 | n+1,i=>by rw[jS,ZX,h,Cc h n,aae,aa2]
theorem Cd{f:Nat→List Value}{k:Nat}(h: ∀i,(f i).length=k): ∀n i j,j<n→((jS f i n).drop (j*k)).take k=f (i+j)
 | 0,_,_,a=>by omega
 | n+1,i,0,_=>by rw[jS,abp,aaz,ZY (by rw[h];exact ZT _),aaL (by rw[h];exact ZT _)];rfl
 | n+1,i,j+1,a=>by
  rw[jS,show(j+1)*k=k+j*k by rw[aae,aa2],←Z5,aa1 (h i),Cd h n (i+1) j Om,show i+1+j=i+(j+1) by omega]
theorem oR{k:Nat}(h: ∀x,(e x).length=k):(cS e d n xs).length=n*k:=Cc (λ_=>h _) _ _
theorem JJ{k j:Nat}(h: ∀x,(e x).length=k)(a:j<n):((cS e d n xs).drop (j*k)).take k=e (xs.getD j d):=by
 unfold cS;rw[Cd (λ_=>h _) _ _ _ a,ZV]
theorem r6{g:Nat→Value}: ∀n i j,j<n→(jS (λi=>[g i]) i n)[j]? =some (g (i+j))
 | 0,_,_,a=>by omega
 | n+1,i,0,_=>by rw[jS];rfl
 | n+1,i,j+1,a=>by
  rw[jS,List.singleton_append,aaG,r6 n (i+1) j Om,show i+1+j=i+(j+1) by omega]
theorem Ce{g:Nat→Value}: ∀n i,jS (λi=>[g i]) i n=(abf i n).map g
 | 0,_=>rfl
 | n+1,i=>by rw[jS,Ce n,abd,aaI];rfl
theorem xO{g:α→Value}(h:xs.length=n):cS (λx=>[g x]) d n xs=xs.map g:=by
 unfold cS;rw[Ce];apply aba;intro i;rw[Z3,Z3];rcases aaw i n with a | a
 ·rw[abr a,ZV,Nat.one_mul,ZL Om,ZW,ZW,ZN,ZL Om];rfl
 ·rw[ZZ (by rw[aby];exact a),ZZ Om];rfl
theorem uF{g:α→Value}{j:Nat}{u:α}(h:xs.length=n):(cS (λx=>[g x]) d n xs).set j (g u)=cS (λx=>[g x]) d n (xs.set j u):=by
 rw[xO h,xO (by rw[aav];exact h),List.map_set]
end
theorem n7{n j:Nat}{xs:List UInt8}(h:j<n):((rB n xs).toArray)[j]? =some (.int .u8 ((xs.getD j 0).toNat:Int)):=by
 rw[aau];exact(r6 n 0 j h).trans (by rw[ZV])
theorem JK{n j:Nat}{xs:List Nat}(h:j<n):((rW n xs).toArray)[j]? =some (.int .u64 ((xs.getD j 0:Nat):Int)):=by
 rw[aau];exact(r6 n 0 j h).trans (by rw[ZV])
theorem r7{n j:Nat}{xs:List Nat}(h:j<n):((rN n xs).toArray)[j]? =some (.int .i64 ((xs.getD j 0:Nat):Int)):=by
 rw[aau];exact(r6 n 0 j h).trans (by rw[ZV])
theorem JL{n j:Nat}{xs:List Int}(h:j<n):((rI n xs).toArray)[j]? =some (.int .i64 (xs.getD j 0)):=by
 rw[aau];exact(r6 n 0 j h).trans (by rw[ZV])
theorem mJ{n j:Nat}{xs:List UInt8}{u:UInt8}(h:xs.length=n):((rB n xs).toArray).setIfInBounds j (.int .u8 (u.toNat:Int))=(rB n (xs.set j u)).toArray:=by
 rw[aaj];exact ALca _ (uF (g:=λb:UInt8=>Value.int .u8 (b.toNat:Int)) h)
theorem JM{n j:Nat}{xs:List Nat}{u:Nat}(h:xs.length=n):((rW n xs).toArray).setIfInBounds j (.int .u64 (u:Int))=(rW n (xs.set j u)).toArray:=by
 rw[aaj];exact ALca _ (uF (g:=λb:Nat=>Value.int .u64 (b:Int)) h)
theorem JN{n j:Nat}{xs:List Nat}{u:Nat}(h:xs.length=n):((rN n xs).toArray).setIfInBounds j (.int .i64 (u:Int))=(rN n (xs.set j u)).toArray:=by
 rw[aaj];exact ALca _ (uF (g:=λb:Nat=>Value.int .i64 (b:Int)) h)
theorem Cg{n j:Nat}{xs:List Int}{u:Int}(h:xs.length=n):((rI n xs).toArray).setIfInBounds j (.int .i64 u)=(rI n (xs.set j u)).toArray:=by
 rw[aaj];exact ALca _ (uF (g:=λb:Int=>Value.int .i64 b) h)
theorem xP{n:Nat}{xs:List UInt8}(h:xs.length=n):rB n xs=bV xs:=xO (g:=λb:UInt8=>Value.int .u8 (b.toNat:Int)) h
theorem JO{n:Nat}{xs:List UInt8}:(rB n xs).length=n:=(oR (k:=1) λ_=>rfl).trans (aaE _)
def r9:Value→Value→Bool
 | .int _ a,.int _ b=>a==b
 | .bool a,.bool b=>a==b
 | _,_=>false
def fj:List Value→List Value→Bool
 | a::x,b::y=>r9 a b&&fj x y
 | _,_=>true
def oS:Option IntKind→Value→Bool
 | none,.bool _=>true
 | some k,.int a _=>decide (k=a)
 | _,_=>false
def eL:List (Option IntKind)→List Value→Bool
 | [],[]=>true
 | k::ks,v::vs=>oS k v&&eL ks vs
 | _,_=>false
def p9(P:Program)(c:TypeId→Option (List (Option IntKind))):List Field→Nat→Option (List (Option IntKind))
 | [],_=>some []
 | f::fs,b=>if f.name= "_" ∨f.offset≠b then none else
  match c f.type,(P.info? f.type).map (·.size) with
  | some a,some n=>if n=a.length then(p9 P c fs (b+a.length)).map (a++ ·) else none
  | _,_=>none
def jT(P:Program):Nat→TypeId→Option (List (Option IntKind))
 | 0,_=>none
 | d+1,T=>match P.underlying T with
  | some .bool=>some [none]
  | some (.int k)=>some [some k]
  | some (.struct b)=>if P.stoodInHeld T then none else p9 P (jT P d) b.toList 0
  | some (.array n e)=>match jT P d e,(P.info? e).map (·.size) with
   | some a,some m=>if m=a.length then some (aaa n a).flatten else none
   | _,_=>none
  | _=>none
theorem l9: ∀{a:List (Option IntKind)} {xs:List Value},eL a xs=true→xs.length=a.length
 | [],[],_=>rfl
 | _::a,_::xs,h=>by
  simp only[eL,ZS] at h;rw[Z6,Z6,l9 h.2]
 | [],_::_,h=>by simp [eL] at h
 | _::_,[],h=>by simp [eL] at h
theorem sa: ∀{a b:List (Option IntKind)} {xs:List Value},eL (a++b) xs=true→eL a (xs.take a.length)=true∧eL b (xs.drop a.length)=true
 | [],b,xs,h=>⟨by simp [eL],by simpa using h⟩
 | k::a,b,[],h=>by simp [eL] at h
 | k::a,b,x::xs,h=>by
  simp only[List.cons_append,eL,ZS] at h;obtain⟨c,g⟩:=sa h.2;exact⟨by simp only[Z6,aa5,eL,ZS];exact⟨h.1,c⟩,by simpa using g⟩
theorem uG: ∀(k:Nat) (xs ys:List Value),xs.length=ys.length→fj xs ys=(fj (xs.take k) (ys.take k)&&fj (xs.drop k) (ys.drop k))
 | 0,xs,ys,_=>by simp [fj]
 | k+1,[],[],_=>by simp [fj]
 | k+1,x::xs,y::ys,h=>by
  simp only[aa5,abw,fj];rw[uG k xs ys (by simpa using h),Bool.and_assoc]
 | k+1,[],_::_,h=>by simp at h
 | k+1,_::_,[],h=>by simp at h
theorem fk{a b c d:List Value}{E F:Bool}(g:a.length=c.length)(h:b.length=d.length)(h1:fj a c=E)(h2:fj b d=F):fj (a++b) (c++d)=(E&&F):=by
 rw[uG a.length _ _ (by rw[ZX,ZX,g,h]),ZY (ZT _),aar,aag (ZT _),aaP,abg,g,ZY (ZT _),aar,aag (ZT _),aaP,abg,h1,h2]
theorem Ch{α:Type}[DecidableEq α]{g:α→Value}(a: ∀x y,r9 (g x) (g y)=decide (x=y)): ∀{xs ys:List α},xs.length=ys.length→fj (xs.map g) (ys.map g)=decide (xs=ys)
 | [],[],_=>rfl
 | x::xs,y::ys,h=>by
  rw[aaI,aaI,fj,a,Ch a (by simpa using h)];simp [Bool.decide_and]
 | [],_::_,h=>by simp at h
 | _::_,[],h=>by simp at h
theorem JP(x y:UInt8):r9 (.int .u8 (x.toNat:Int)) (.int .u8 (y.toNat:Int))=decide (x=y):=by
 show((x.toNat:Int)==(y.toNat:Int))=_;rw[Bool.eq_iff_iff];simp only[beq_iff_eq,decide_eq_true_eq,Int.natCast_inj];exact UInt8.toNat_inj
theorem iR{n:Nat}{xs ys:List UInt8}(a:xs.length=n)(b:ys.length=n):fj (rB n xs) (rB n ys)=decide (xs=ys):=by
 rw[xP a,xP b];exact Ch JP (a.trans b.symm)
def ma(P:Program)(T:TypeId)(l:List Value):Value:=if dI P T then .agg l.toArray else l.headD undef
section
variable {P:Program}
theorem Ci{T:TypeId}{t:TypeDesc}(h:P.underlying T=some t)(w:World):(isAgg T).run P w= .ok (dI P T) w:=by
 unfold dI;rw[h];cases t<;>simp [isAgg,run_underlying h,ZK]
theorem sb{T:TypeId}{t:TypeDesc}{n off:Nat}{xs:Array Value}(h:P.underlying T=some t)(hs:(P.info? T).map (·.size)=some n)(j:dI P T=false→n=1)(p:off+n≤xs.size)(w:World):(part T xs off).run P w= .ok (ma P T ((xs.toList.drop off).take n)) w:=by
 obtain⟨i,g⟩: ∃i,P.info? T=some i:=by cases h:P.info? T<;>simp_all
 have o:i.size=n:=by simpa [g] using hs
 unfold ma;cases c:dI P T with
 | true=>
  have a:=Ci h w;rw[c] at a;have e:xs.extract off (off+n)=((xs.toList.drop off).take n).toArray:=by
   apply Array.toList_inj.1;simp [Array.toList_extract,List.extract_eq_take_drop]
  simp [part,a,ZK,sizeOf,typeInfo,g,o,e]
 | false=>
  have a:=Ci h w;rw[c] at a;obtain rfl:=j c;have b:off<xs.size:=by omega
  have e:(xs.toList.drop off).take 1=[xs[off]]:=by
   rw[aay (by simpa using b)];simp
  rw[e];simp [part,a,ZK,b]
theorem Cj{d:Nat}{T:TypeId}{b:List (Option IntKind)}(h:jT P d T=some b):(∃t,P.underlying T=some t)∧(dI P T=false→b.length=1):=by
 cases d with
 | zero=>cases h
 | succ d=>
  unfold jT at h;unfold dI;cases a:P.underlying T with
  | none=>rw[a] at h;cases h
  | some t=>
   rw[a] at h;refine⟨⟨t,rfl⟩,?_⟩;cases t<;>simp_all<;>(try (subst h;rfl))
theorem uH: ∀(d:Nat) (T:TypeId) (H:List (Option IntKind)) (j:Nat) (xs ys:List Value) (w:World),jT P d T=some H→eL H xs=true→eL H ys=true→(Op.equalIn (d+j) T (ma P T xs) (ma P T ys)).run P w= .ok (fj xs ys) w
 | 0,_,_,_,_,_,_,h,_,_=>by cases h
 | d+1,T,H,j,xs,ys,w,h,V,W=>by
  have Z:=l9 V;have hly:=l9 W;have O: ∀{k:Option IntKind},H=[k]→∃a b,xs=[a]∧ys=[b]∧oS k a=true∧oS k b=true:=by
   rintro k rfl
   match xs,ys,Z,hly with
   | [a],[b],_,_=>
    refine⟨a,b,rfl,rfl,?_,?_⟩
    ·simpa [eL] using V
    ·simpa [eL] using W
  rw[show d+1+j=d+j+1 by omega];unfold jT at h;cases q:P.underlying T with
  | none=>rw[q] at h;cases h
  | some t=>
   rw[q] at h;cases t<;>simp only[reduceCtorEq,Option.some.injEq] at h
   case bool=>
    obtain⟨a,b,rfl,rfl,B,F⟩:=O h.symm;cases a<;>simp only[oS,reduceCtorEq] at B
    cases b<;>simp only[oS,reduceCtorEq] at F
    rename_i a b;have p:dI P T=false:=by unfold dI;rw[q]
    simp only[ma,p,aaH,if_false,abE];rw[run_equalIn_bool' w _ T a b q];simp [fj,r9]
   case int k=>
    obtain⟨a,b,rfl,rfl,B,F⟩:=O h.symm;cases a<;>simp only[oS,reduceCtorEq,aaH,decide_eq_true_eq] at B
    cases b<;>simp only[oS,reduceCtorEq,aaH,decide_eq_true_eq] at F
    subst B;subst F;rename_i a b;have p:dI P T=false:=by unfold dI;rw[q]
    simp only[ma,p,aaH,if_false,abE];rw[run_equalIn_int w _ T k k a b q];simp [fj,r9]
   case struct fs=>
    have C:dI P T=true:=by unfold dI;rw[q]
    split at h
    ·cases h
    ·rename_i hst;have K:P.fieldsOf T=fs:=by unfold Program.fieldsOf;rw[q]
     simp only[ma,C,if_true];rw[run_equalIn_struct w (d+j) T _ _ (by rw[K];exact q) (by simpa using hst),K];have D: ∀(l:List Field) (off:Nat) (s:List (Option IntKind)) (xs ys:List Value) (w:World),p9 P (jT P d) l off=some s→eL s (xs.drop off)=true→eL s (ys.drop off)=true→off≤xs.length→off≤ys.length→
       (Op.eqFields (d+j) xs.toArray ys.toArray l).run P w= .ok (fj (xs.drop off) (ys.drop off)) w:=by
      intro l
      induction l with
      | nil=>
       intro off s xs ys w o u A _ _;simp only[p9,Option.some.injEq] at o;subst o;have I:=l9 u;have J:=l9 A;rw[aai,abk] at I J;rw[I,J];rfl
      | cons f l ih=>
       intro off s xs ys w o u A hox hoy;simp only[p9] at o
       split at o
       ·cases o
       ·rename_i S;rw[not_or,Classical.not_not] at S;obtain⟨S,rfl⟩:=S
        split at o
        ·rename_i a n B G
         split at o
         ·rename_i p;subst p;cases hr:p9 P (jT P d) l (f.offset+a.length) with
          | none=>rw[hr] at o;cases o
          | some b=>
           rw[hr] at o;simp only[ZW,Option.some.injEq] at o;subst o;obtain⟨p1,Q⟩:=sa u;obtain⟨q1,R⟩:=sa A;have l1:=l9 u;have l2:=l9 A;rw[ZX,Z0] at l1 l2;obtain⟨⟨t,M⟩,L⟩:=Cj B;rw[Z5] at Q R;have r1:=sb (xs:=xs.toArray) (off:=f.offset) M G L (by simp;omega) w;have r2:=sb (xs:=ys.toArray) (off:=f.offset) M G L (by simp;omega) w;have r3:=uH d f.type a j _ _ w B p1 q1;have r4:=ih (f.offset+a.length) b xs ys w hr Q R Om Om;rw[uG a.length (xs.drop f.offset) (ys.drop f.offset) (by rw[Z0,Z0];omega),Z5,Z5];simp only[Op.eqFields,ALifp S,ZK,r1,r2,r3,ZJ];cases F:fj ((xs.drop f.offset).take a.length) ((ys.drop f.offset).take a.length) with
           | false=>simp
           | true=>simpa using r4
         ·cases o
        ·cases o
     have:=D fs.toList 0 H xs ys w h (by simpa using V) (by simpa using W) (Nat.zero_le _) (Nat.zero_le _);simpa using this
   case array n e=>
    have C:dI P T=true:=by unfold dI;rw[q]
    simp only[ma,C,if_true]
    split at h
    ·rename_i g m B G
     split at h
     ·rename_i hm;subst hm;simp only[Option.some.injEq] at h;subst h;obtain⟨i,X⟩: ∃i,P.info? e=some i:=by cases h:P.info? e<;>simp_all
      have hz:i.size=g.length:=by simpa [X] using G
      have hc:P.cellsOf e=g.length:=by
       unfold Program.cellsOf;rw[X];exact hz
      rw[run_equalIn_array w (d+j) xs.toArray ys.toArray q X,hc];obtain⟨⟨t,M⟩,L⟩:=Cj B;have D: ∀(c k:Nat) (xs ys:List Value) (w:World),eL (aaa c g).flatten (xs.drop (k*g.length))=true→eL (aaa c g).flatten (ys.drop (k*g.length))=true→k*g.length≤xs.length→k*g.length≤ys.length→
        (Op.eqItems (d+j) e g.length xs.toArray ys.toArray (abf k c)).run P w= .ok (fj (xs.drop (k*g.length)) (ys.drop (k*g.length))) w:=by
       intro c
       induction c with
       | zero=>
        intro k xs ys w u A _ _;have I:=l9 u;have J:=l9 A;simp only[List.replicate_zero,List.flatten_nil,aai,abk] at I J;rw[I,J];rfl
       | succ c ih=>
        intro k xs ys w u A hox hoy;rw[aa4,aaM] at u A;obtain⟨p1,Q⟩:=sa u;obtain⟨q1,R⟩:=sa A;have l1:=l9 u;have l2:=l9 A;rw[ZX,Z0] at l1 l2;rw[Z5,show k*g.length+g.length=(k+1)*g.length by rw[aae]] at Q R;have Y:(k+1)*g.length=k*g.length+g.length:=by rw[aae]
        have r1:=sb (xs:=xs.toArray) (off:=k*g.length) M G L (by simp;omega) w;have r2:=sb (xs:=ys.toArray) (off:=k*g.length) M G L (by simp;omega) w;have r3:=uH d e g j _ _ w B p1 q1;have r4:=ih (k+1) xs ys w Q R Om Om;rw[uG g.length (xs.drop (k*g.length)) (ys.drop (k*g.length)) (by rw[Z0,Z0];omega),Z5,Z5,←Y,abd];simp only[Op.eqItems,ZK,r1,r2,r3,ZJ];cases F:fj ((xs.drop (k*g.length)).take g.length) ((ys.drop (k*g.length)).take g.length) with
        | false=>simp
        | true=>simpa using r4
      have:=D n 0 xs ys w (by simpa using V) (by simpa using W) (by simp) (by simp);rw[List.range_eq_range'];simpa using this
     ·cases h
    ·cases h
theorem uI{T:TypeId}{xs ys:List Value}{E:Bool}{x y:Operand}{w:World}(c:(dI P T,P.eqGuardType P.depth T,(jT P 8 T).map (λa=>eL a xs&&eL a ys))=(true,false,some true))(o:fj xs ys=E):(av .eql T x y (.agg xs.toArray) (.agg ys.toArray)).run P w= .ok (.bool E) w:=by
 have h:dI P T=true:=ALca (·.1) c;have j:P.eqGuardType P.depth T=false:=ALca (·.2.1) c;have b:(jT P 8 T).map (λa=>eL a xs&&eL a ys)=some true:=ALca (·.2.2) c;cases g:jT P 8 T with
 | none=>rw[g] at b;cases b
 | some a=>
  rw[g] at b;simp only[ZW,Option.some.injEq,ZS] at b;have:=uH 8 T a 9992 xs ys w g b.1 b.2;simp only[ma,h,if_true] at this;unfold av;simp [eqGuard,Go.binOp,Op.equal,Op.maxDepth,ZK,j,this,o]
theorem ji{T:TypeId}{xs ys:List Value}{E:Bool}{x y:Operand}{w:World}(c:(dI P T,P.eqGuardType P.depth T,(jT P 8 T).map (λa=>eL a xs&&eL a ys))=(true,false,some true))(o:fj xs ys=E):(av .neq T x y (.agg xs.toArray) (.agg ys.toArray)).run P w= .ok (.bool (!E)) w:=by
 have h:dI P T=true:=ALca (·.1) c;have j:P.eqGuardType P.depth T=false:=ALca (·.2.1) c;have b:(jT P 8 T).map (λa=>eL a xs&&eL a ys)=some true:=ALca (·.2.2) c;cases g:jT P 8 T with
 | none=>rw[g] at b;cases b
 | some a=>
  rw[g] at b;simp only[ZW,Option.some.injEq,ZS] at b;have:=uH 8 T a 9992 xs ys w g b.1 b.2;simp only[ma,h,if_true] at this;unfold av;simp [eqGuard,Go.binOp,Op.equal,Op.maxDepth,ZK,j,this,o]
end
def aj{α:Type}(e:α→List Value)(xs:List α):List Value:=xs.flatMap e
section
variable {α:Type} {e:α→List Value} {d:α} {xs ys:List α} {k n i r:Nat} {z:List Value}
theorem kC:aj e (xs++ys)=aj e xs++aj e ys:=List.flatMap_append
theorem fS(h: ∀x,(e x).length=k)(a:xs.length=n):(aj e xs).length=n*k:=by
 subst a;unfold aj
 induction xs with
 | nil=>simp
 | cons x xs ih=>rw[ZU,ZX,h,ih,Z6,aae,aa2]
theorem JQ{g:α→Value}(b: ∀x,(g x).oneCell'=true)(xs:List α): ∀u∈aj (λx=>[g x]) xs,u.oneCell'=true:=by
 intro u a;unfold aj at a;obtain⟨x,_,c⟩:=List.mem_flatMap.1 a;obtain rfl:=List.mem_singleton.1 c;exact b x
theorem Ck(b: ∀x,∀u∈e x,u.oneCell'=true): ∀u∈aj e xs,u.oneCell'=true:=by
 intro u a;unfold aj at a;obtain⟨x,_,c⟩:=List.mem_flatMap.1 a;exact b x u c
theorem Cl{f:Nat→List Value}: ∀n i,jS f i n=(abf i n).flatMap f
 | 0,_=>rfl
 | n+1,i=>by rw[jS,Cl n,abd,ZU]
theorem JR: ∀(xs:List α),(abf 0 xs.length).map (λi=>xs.getD i d)=xs:=by
 intro xs;apply aba;intro i;rw[Z3];rcases aaw i xs.length with a | a
 ·rw[abr a,ZW,ZN,ZV,Nat.one_mul,ZL a];rfl
 ·rw[ZZ (by rw[aby];exact a),ZZ a];rfl
theorem kY(h:xs.length=n):cS e d n xs=aj e xs:=by
 subst h;unfold cS aj;rw[Cl]
 conv=>rhs;rw[←JR (d:=d) xs]
 rw[List.flatMap_map]
theorem Cm(h:xs.length=n):(((cS e d n xs).toArray).toList.drop 0).take (aj e xs).length=aj e xs:=by
 rw[aaz,kY h,aar]
theorem ka{j:Nat}(h:j<n)(h1: ∀x,(e x).length=1:=by intro _;rfl):j<((cS e d n xs).toArray).size:=by
 rw[Z1,oR h1,aaE];exact h
theorem JS:((bE (aj e xs) z r).toList.drop 0).take (aj e xs).length=aj e xs:=JI
theorem uJ(h: ∀x,(e x).length=k)(a:i<xs.length):((aj e xs).drop (i*k)).take k=e (xs.getD i d):=by
 rw[←kY (d:=d) rfl];exact JJ h a
theorem Cn(h: ∀x,(e x).length=k)(a:i<xs.length):((bE (aj e xs) z r).toList.drop (0+i*k)).take (e (xs.getD i d)).length=e (xs.getD i d):=by
 have c:=fS h (xs:=xs) rfl;have b:(i+1)*k≤xs.length*k:=aac _ a;rw[aae] at b;rw[ZV,h];unfold bE;simp only;rw[aag Om,ZY (by rw[Z0];omega)];exact uJ h a
theorem JT{f:Nat}{v:Value}(h: ∀x,(e x).length=k)(b:i<xs.length)(hf:f<k)(hv:(e (xs.getD i d))[f]? =some v):(bE (aj e xs) z r)[0+i*k+f]? =some v:=by
 have c:=Cn (z:=z) (r:=r) (d:=d) h b;have a:=ALca (λl=>l[f]?) c;simp only[h,aaD hf,aaV] at a;rw[←Array.getElem?_toList,a];exact hv
theorem Co{x:α}(h: ∀x,(e x).length=k)(a:i<xs.length):(aj e xs).take (i*k)++e x++(aj e xs).drop (i*k+k)=aj e (xs.set i x):=by
 have o:xs.set i x=xs.take i++x::xs.drop (i+1):=List.set_eq_take_append_cons_drop .. |>.trans (by rw[ALifp a]);have g:xs=xs.take i++xs.drop i:=(aaO i xs).symm;have j:xs.drop i=xs[i]::xs.drop (i+1):=aay a;have b:(aj e (xs.take i)).length=i*k:=fS h (by rw[aaB];omega);rw[o,kC,show aj e (x::xs.drop (i+1))=e x++aj e (xs.drop (i+1)) from ZU ..];have c:aj e xs=aj e (xs.take i)++(e xs[i]++aj e (xs.drop (i+1))):=by
  conv=>lhs;rw[g,j]
  rw[kC];rfl
 rw[c,List.take_left' b,←Z5,aa1 b,aa1 (h _),aaN]
theorem JU{x:α}{l:List Value}(h: ∀x,(e x).length=k)(a:i<xs.length)(g:e x=l):(bE (aj e xs) z r).toList.take (0+i*k)++l++(bE (aj e xs) z r).toList.drop (0+i*k+l.length)=(bE (aj e (xs.set i x)) z r).toList:=by
 subst g;have b:=fS h (xs:=xs) rfl;have c:(i+1)*k≤xs.length*k:=aac _ a;rw[aae] at c;rw[ZV,h];unfold bE;simp only;rw[ZY Om,aag Om,←Co h a];simp only[aaN]
theorem JV{x:α}{f:Nat}{v:Value}(h: ∀x,(e x).length=k)(a:i<xs.length)(hf:f<k)(g:e x=(e (xs.getD i d)).set f v):(bE (aj e xs) z r).setIfInBounds (0+i*k+f) v=bE (aj e (xs.set i x)) z r:=by
 have b:=fS h (xs:=xs) rfl;have c:(i+1)*k≤xs.length*k:=aac _ a;rw[aae] at c;rw[ZV];unfold bE;rw[aaj,abt _ _ Om,←Co h a,g]
 congr 2
 have o:((aj e xs).take (i*k)).length=i*k:=by rw[aaB];omega
 have j:=uJ (d:=d) h a
 conv=>lhs;rw[←aaO (i*k) (aj e xs),←aaO k ((aj e xs).drop (i*k)),j,Z5]
 rw[List.set_append_right _ _ Om,o,show i*k+f-i*k=f by omega,abt _ _ (by rw[h];exact hf),aaN]
theorem JW{f:Nat}(h: ∀x,(e x).length=k)(c:i<xs.length)(hf:f<k):0+i*k+f<(bE (aj e xs) z r).size:=by
 have a:=fS h (xs:=xs) rfl;have b:(i+1)*k≤xs.length*k:=aac _ c;rw[aae] at b;rw[uE];omega
end
section
variable {P:Program} {T e:TypeId}
end
section
variable {α:Type} {e:α→List Value} {d:α} {xs ys:List α} {n l m N r:Nat} {z:List Value}
theorem xQ(h: ∀x,(e x).length=1)(g:l+m≤xs.length):((aj e xs).drop l).take m=aj e ((xs.drop l).take m):=by
 have b: ∀(l:Nat) (xs:List α),(aj e xs).drop l=aj e (xs.drop l):=by
  intro l
  induction l with
  | zero=>intro xs;rfl
  | succ l ih=>
   intro xs;cases xs with
   | nil=>simp [aj]
   | cons x xs=>
    rw[abw,←ih,show aj e (x::xs)=e x++aj e xs from ZU ..,aa2 l 1,←Z5,aa1 (h x)]
 have c: ∀(m:Nat) (xs:List α),m≤xs.length→(aj e xs).take m=aj e (xs.take m):=by
  intro m
  induction m with
  | zero=>intro xs _;rfl
  | succ m ih=>
   intro xs a;cases xs with
   | nil=>simp at a
   | cons x xs=>
    rw[aa5,show aj e (x::xs)=e x++aj e xs from ZU ..,show aj e (x::xs.take m)=e x++aj e (xs.take m) from ZU ..,←ih xs (by simpa using a),aa2 m 1,List.take_append,aaL (by rw[h];omega),h,abl]
 rw[b,c _ _ (by rw[Z0];omega)]
theorem Cp(h: ∀x,(e x).length=1)(a:xs.length=N)(b:l+m≤N):(((cS e d N xs).toArray).toList.drop (l*1)).take (aj e ((xs.drop l).take m)).length=aj e ((xs.drop l).take m):=by
 rw[fS (n:=m) h (by rw[aaB,Z0];omega),aaE,aaE,kY a];exact xQ h Om
theorem xR(h: ∀x,(e x).length=1)(b:xs.length=N)(a:l+m≤N):(((cS e d N xs).toArray).toList.drop (l*1)).take (cS e d m ((xs.drop l).take m)).length=cS e d m ((xs.drop l).take m):=by
 rw[kY (n:=m) (by rw[aaB,Z0];omega)];exact Cp h b a
theorem JX(h: ∀x,(e x).length=1)(b:xs.length=N)(a:l*m+m≤N):(((cS e d N xs).toArray).toList.drop (0+l*m)).take (cS e d m ((xs.drop (l*m)).take m)).length=cS e d m ((xs.drop (l*m)).take m):=by
 have:=xR (l:=l*m) (d:=d) h b a;rw[aaE] at this;rw[ZV];exact this
theorem sd{off:Nat}(h: ∀x,(e x).length=1)(c:xs.length=N)(g:ys.length=m)(j:off+m≤N):((cS e d N xs).toArray).toList.take off++aj e ys++((cS e d N xs).toArray).toList.drop (off+(aj e ys).length)=((cS e d N (xs.take off++ys++xs.drop (off+m))).toArray).toList:=by
 show(cS e d N xs).take off++aj e ys++(cS e d N xs).drop (off+(aj e ys).length)=cS e d N (xs.take off++ys++xs.drop (off+m));rw[kY c,kY (n:=N) (by rw[ZX,ZX,aaB,Z0];omega),kC,kC,fS (n:=m) h g,aaE];have a:=xQ (e:=e) (xs:=xs) (l:=0) (m:=off) h Om;have b:=xQ (e:=e) (xs:=xs) (l:=off+m) (m:=N-(off+m)) h Om;rw[aaz,aaz] at a;rw[a];rw[aaL (by rw[Z0,fS (n:=N) h c];omega),aaL (by rw[Z0];omega)] at b;rw[b]
end
section
variable {P:Program} {T e U:TypeId} {w:World}
theorem JY{g l m s N:Nat}(b:(P.underlying T,P.arrayLen T,jh P (P.elem T))=(some (.array N (P.elem T)),N,some s))(h2:l+m≤N)(a:l<N):(Instr.sliceAt T (.pointer (some ⟨g,0,none⟩)) (some (.int .i64 (l:Int))) (some (.int .i64 ((l+m:Nat):Int))) none).run P w= .ok (.slice (some ⟨g,l*s,none⟩) m (N-l)) w:=by
 have h:=JF (w:=w) (g:=g) (h:=l+m) b Om h2 a;rwa [abl] at h
theorem JZ{α:Type}{en:α→List Value}{d:α}{xs:List α}{n m N k:Nat}(c:(P.underlying T,(P.info? e).map (·.size),dI P e)=(some (.array n e),some m,true))(h: ∀x,(en x).length=1)(q:k<n)(F:n*m=N)(C:xs.length=N):(Instr.index T (.agg ((cS en d N xs).toArray)) (.int .i64 (k:Int))).run P w= .ok (.agg ((cS en d m ((xs.drop (k*m)).take m)).toArray)) w:=by
 have B:P.underlying T=some (.array n e):=ALca (·.1) c;have u:(P.info? e).map (·.size)=some m:=ALca (·.2.1) c;have a:dI P e=true:=ALca (·.2.2) c;obtain⟨o,b⟩: ∃i,P.info? e=some i:=by cases h:P.info? e<;>simp_all
 have D:o.size=m:=by simpa [b] using u
 have j: ∃t,P.underlying e=some t:=by
  unfold dI at a;cases b:P.underlying e with
  | none=>rw[b] at a;cases a
  | some t=>exact⟨t,rfl⟩
 obtain⟨G,g⟩:=j;have A:k*m+m≤N:=by
  have:=aac m (show k+1≤n from q);rw[aae] at this;omega
 have s:=sb (xs:=(cS en d N xs).toArray) (off:=k*m) g u (λh=>by rw[a] at h;cases h) (by rw[Z1,oR h];omega) w;have p:=JX (d:=d) (l:=k) (m:=m) h C A;rw[ZV,oR h,aaE] at p;rw[p] at s;unfold Instr.index;simp [asIntOf,ZK,run_underlying B,sizeOf,typeInfo,b,D,s,ma,a,q]
end
theorem Cq{α:Type}[BEq α][LawfulBEq α]{a b:α}(h:(a != b)=false):a=b:=by simpa using h
theorem se{P:Program}{w:World}(a:Array TypeId)(t:TypeId)(x y:Int):(Builtin.max_ a t #[.int .i64 x,.int .i64 y]).run P w= .ok (.int .i64 (max x y)) w:=by
 rw[run_max_int2]
 congr 2
 split<;>omega
theorem J0{P:Program}{w:World}(a:Array TypeId)(t:TypeId)(x y:Int):(Builtin.min_ a t #[.int .i64 x,.int .i64 y]).run P w= .ok (.int .i64 (min x y)) w:=by
 rw[run_min_int2]
 congr 2
 split<;>omega
section
variable {P:Program} {T e:TypeId}
end
theorem J1{α:Type}{e:α→List Value}{d:α}{xs ys:List α}{m N off:Nat}(h: ∀x,(e x).length=1)(c:xs.length=N)(a:ys.length=m)(b:off+m≤N):((cS e d N xs).toArray).toList.take off++cS e d m ys++((cS e d N xs).toArray).toList.drop (off+(cS e d m ys).length)=((cS e d N (xs.take off++ys++xs.drop (off+m))).toArray).toList:=by
 rw[kY (n:=m) a];exact sd h c a b
theorem J2{α:Type}{e:α→List Value}{d:α}{xs ys:List α}{m N off:Nat}(h: ∀x,(e x).length=1)(a:off+m≤N):off+(cS e d m ys).length≤((cS e d N xs).toArray).size:=by
 rw[Z1,oR h,oR h,aaE,aaE];exact a
theorem J3{α:Type}{g:α→Value}{d:α}{xs:List α}{n:Nat}(a: ∀x,(g x).oneCell'=true)(b:xs.length=n): ∀u∈cS (λx=>[g x]) d n xs,u.oneCell'=true:=by
 rw[kY b];exact JQ a xs
section
variable {P:Program} {T:TypeId} {x y:Operand} {w:World}
theorem J4{k:IntKind}{a d:Nat}(c:0<d)(b:k.wrap ((a/d:Nat):Int)=((a/d:Nat):Int)):Op.intDiv .quo k (a:Int) (d:Int)=pure (.int k ((a/d:Nat):Int)):=by
 unfold Op.intDiv;rw[ALifn Om,←b,Int.ofNat_tdiv]
theorem J5{k:IntKind}{a d:Nat}(b:0<d):Op.intDiv .rem k (a:Int) (d:Int)=pure (.int k ((a%d:Nat):Int)):=by
 unfold Op.intDiv;rw[ALifn Om,Int.ofNat_tmod]
theorem oT{a d:Nat}(b:0<d)(c:a<9223372036854775808):(av .quo T x y (.int .i64 (a:Int)) (.int .i64 (d:Int))).run P w= .ok (.int .i64 ((a/d:Nat):Int)) w:=by
 have h:a/d≤a:=Nat.div_le_self a d;have e:=ALca (λ(s:Sem Value)=>s.run P w) (J4 (k:= .i64) (a:=a) b (by generalize a/d=q at h⊢;rw[abx];omega));exact e
theorem n8{a d:Nat}(b:0<d):(av .rem T x y (.int .i64 (a:Int)) (.int .i64 (d:Int))).run P w= .ok (.int .i64 ((a%d:Nat):Int)) w:=
 ALca (λ(s:Sem Value)=>s.run P w) (J5 (k:= .i64) (a:=a) b)
theorem uK{a b:Nat}(h:a+b<18446744073709551616):(av .add T x y (.int .u64 (a:Int)) (.int .u64 (b:Int))).run P w= .ok (.int .u64 ((a+b:Nat):Int)) w:=by
 have c:IntKind.u64.wrap ((a:Int)+b)=((a+b:Nat):Int):=by rw[aax];omega
 rw[←c];rfl
theorem J6{S:TypeId}{a:Nat}(b:P.underlying S=some (.int .u8))(c:P.underlying T=some (.int .i64))(g:a<256):(convert S T (.int .u8 (a:Int))).run P w= .ok (.int .i64 (a:Int)) w:=by
 have h:IntKind.i64.wrap (a:Int)=(a:Int):=by rw[abx];omega
 simp only[convert,ZK,run_underlying b,run_underlying c,ZJ,Conv.intToInt,h,ZP]
end
end
section
open Go Go.RowKit Go.Shelf
def aq{α:Type}(en:α→List Value)(z:List Value)(T:TypeId)(v:Value)(xs:List α):ay→Prop:=λbs=>
 (xs=[]∧bs=[]∧∃a,v= .slice a 0 0)∨∃g r,v= .slice (some ⟨g,0,none⟩) xs.length (xs.length+r)∧bs=[(g,.cells (bE (aj en xs) z r) T (0,0))]
def fl(v:Value)(off:Nat):Value:=match v with | .slice (some a) _ _=> .pointer (some (a.add off)) | _=>undef
section
variable {α:Type} {P:Program} {en:α→List Value} {z:List Value} {e T:TypeId} {v:Value} {xs ys:List α} {bs:ay} {w:World}
theorem aq.nil(a:Option Addr):aq en z T (.slice a 0 0) ([]:List α) []:= .inl ⟨rfl,rfl,a,rfl⟩
theorem aq.form(h:aq en z T v xs bs): ∃a c,v= .slice a xs.length c:=by
 rcases h with⟨rfl,_,a,rfl⟩ | ⟨g,r,rfl,_⟩
 ·exact⟨a,0,rfl⟩
 ·exact⟨_,_,rfl⟩
theorem aq.some(h:aq en z T v xs bs){i:Nat}(a:i<xs.length): ∃g r,v= .slice (.some ⟨g,0,none⟩) xs.length (xs.length+r)∧bs=[(g,.cells (bE (aj en xs) z r) T (0,0))]:=by
 rcases h with⟨rfl,_⟩ | h
 ·simp at a
 ·exact h
theorem mH.ent{p:Nat}{x:aA}{c:gC}{w:World}(h:mH [(p,x)] c w):x.sat (c p)∧ez (c p) w:=by
 have:=h.has;exact⟨h.sat _ (List.mem_singleton.2 rfl),by simpa using this⟩
theorem ez.one{g:Nat}{x:Obj}{w:World}(h:ez [(g,x)] w):w.heap[g]? = .some x:=h.obj (g,x) (List.mem_singleton.2 rfl)
def xS(P:Program)(t:Array TypeId):Bool:=match t.toList with | [T]=>(match P.underlying T with | .some (.slice _)=>true | _=>false) | _=>false
theorem Cr{t:Array TypeId}(h:xS P t=true): ∃T e,t=#[T]∧P.underlying T= .some (.slice e):=by
 unfold xS at h
 split at h
 ·rename_i T b
  split at h
  ·rename_i e a;exact⟨T,e,Array.toList_inj.1 b,a⟩
  ·cases h
 ·cases h
def qa(P:Program)(p:Nat)(x:aA)(v:Value)(o:Oper)(ρ:Operand→Value)(_:cD):MD:=match o.op with
 | .call ⟨.builtin .len,_,t⟩=>⟨[(p,x)],λ_=>[],[sE (λw=>(execOp ρ o).run P w) (λw=>(vS (Builtin.len_ t o.type #[v])).run P w),sB (xS P t)]⟩
 | _=>MD.bad
theorem J7(p:Nat)(x:aA)(h: ∀bs,x.sat bs→aq en z T v xs bs):MD.ok P (λ_=> .int .i64 (xs.length:Int)) (qa P p x v) []:=by
 intro o ρ C g w c i;unfold qa at g i⊢
 split at g
 ·rename_i a t j;simp only[j] at i⊢;simp only[ZO,ZM,or_false,forall_eq_or_imp,forall_eq,sE,sB] at g;obtain⟨l,q⟩:=g;obtain⟨m,u⟩:=i.ent;obtain⟨b,k,rfl⟩:=(h _ m).form;obtain⟨r,s,rfl,n⟩:=Cr q;refine⟨ab.zero,λ_=>[],w,.inl ((congrFun l w).trans (l0 ?_)),λx h=>by simp at h,by simpa using a6.refl w⟩;simp [Builtin.len_,run_underlying n,goInt,ZK]
 ·exact(bD g).elim
def J8(p:Nat)(x:aA)(h: ∀bs,x.sat bs→aq en z T v xs bs):MH P (λ_=> .int .i64 (xs.length:Int)):=⟨[],qa P p x v,J7 p x h⟩
def qb(P:Program)(p:Nat)(x:aA)(v:Value)(i s:Nat)(o:Oper)(ρ:Operand→Value)(_:cD):MD:=match o.op with
 | .indexAddr T a b=>⟨[(p,x)],λ_=>[],[sE (ρ a) v,sE (ρ b) (.int .i64 (i:Int)),sE (P.underlying T,jh P (P.elem T)) (.some (.slice (P.elem T)),.some s)]⟩
 | _=>MD.bad
theorem J9(p:Nat)(x:aA)(i s:Nat)(h: ∀bs,x.sat bs→aq en z T v xs bs)(q:i<xs.length):MD.ok P (λ_=>fl v (i*s)) (qb P p x v i s) []:=by
 intro o ρ C j w c m;unfold qb at j m⊢
 split at j
 ·rename_i D a b l;simp only[l] at m⊢;simp only[ZO,ZM,or_false,forall_eq_or_imp,forall_eq,sE] at j;obtain⟨y,A,u⟩:=j;obtain⟨t,F⟩:=m.ent;obtain⟨g,r,rfl,_⟩:=(h _ t).some q;refine⟨ab.zero,λ_=>[],w,.inl ?_,λx h=>by simp at h,by simpa using a6.refl w⟩;unfold execOp;have B:=bP (P:=P) (w:=w) (g:=g) (off:=0) (n:=xs.length) (c:=xs.length+r) (k:=i) (s:=s) u q;simp only[l,y,A,ZK,B,ZJ,ZP,fl,add_lit]
 ·exact(bD j).elim
def Ka(p:Nat)(x:aA)(i s:Nat)(h: ∀bs,x.sat bs→aq en z T v xs bs)(a:i<xs.length):MH P (λ_=>fl v (i*s)):=⟨[],qb P p x v i s,J9 p x i s h a⟩
def xT(P:Program)(p:Nat)(x:aA)(v:Value)(off d:Nat)(o:Oper)(ρ:Operand→Value)(_:cD):MD:=match o.op with
 | .fieldAddr T a f=>⟨[(p,x)],λ_=>[],[sE (ρ a) (fl v off),sE (λ(q:Nat×Nat×World)=>(Instr.fieldAt T (.pointer (.some ⟨q.1,q.2.1,none⟩)) f).run P q.2.2) (λq=> .ok (.pointer (.some ⟨q.1,q.2.1+d,none⟩)) q.2.2)]⟩
 | _=>MD.bad
theorem Kb(p:Nat)(x:aA)(off d:Nat)(h: ∀bs,x.sat bs→aq en z T v xs bs)(q:0<xs.length):MD.ok P (λ_=>fl v (off+d)) (xT P p x v off d) []:=by
 intro o ρ C b w c j;unfold xT at b j⊢
 split at b
 ·rename_i s a f i;simp only[i] at j⊢;simp only[ZO,ZM,or_false,forall_eq_or_imp,forall_eq,sE] at b;obtain⟨k,n⟩:=b;obtain⟨m,t⟩:=j.ent;obtain⟨g,r,rfl,_⟩:=(h _ m).some q;refine⟨ab.zero,λ_=>[],w,.inl ?_,λx h=>by simp at h,by simpa using a6.refl w⟩;unfold execOp;have l:=congrFun n (g,0+off,w);simp only at l;simp only[fl,add_lit] at k;simp only[i,k,ZK,l,ZJ,ZP,fl,add_lit,abm]
 ·exact(bD b).elim
def Kc(p:Nat)(x:aA)(off d:Nat)(h: ∀bs,x.sat bs→aq en z T v xs bs)(a:0<xs.length):MH P (λ_=>fl v (off+d)):=⟨[],xT P p x v off d,Kb p x off d h a⟩
def qc(P:Program)(p:Nat)(x:aA)(v:Value)(off:Nat)(o:Oper)(ρ:Operand→Value)(_:cD):MD:=match o.op with
 | .load T a=>⟨[(p,x)],λ_=>[],[sE (ρ a) (fl v off),sE (λw=>(isAgg T).run P w) (λw=> .ok false w)]⟩
 | _=>MD.bad
theorem Ke(p:Nat)(x:aA)(i k f:Nat){d:α}{u:Value}(h: ∀bs,x.sat bs→aq en z T v xs bs)(F: ∀y,(en y).length=k)(s:i<xs.length)(hf:f<k)(G:(en (xs.getD i d))[f]? = .some u):MD.ok P (λ_=>u) (qc P p x v (i*k+f)) []:=by
 intro o ρ C b w c l;unfold qc at b l⊢
 split at b
 ·rename_i H a j;simp only[j] at l⊢;simp only[ZO,ZM,or_false,forall_eq_or_imp,forall_eq,sE] at b;obtain⟨q,B⟩:=b;obtain⟨A,n⟩:=l.ent;obtain⟨g,r,rfl,D⟩:=(h _ A).some s;rw[D] at n;have m:mE w g T (bE (aj en xs) z r):=n.one;refine⟨ab.zero,λ_=>[],w,.inl ?_,λx h=>by simp at h,by simpa using a6.refl w⟩;unfold execOp;simp only[fl,add_lit] at q;have t:=JT (z:=z) (r:=r) F s hf G;rw[show 0+i*k+f=0+(i*k+f) by omega] at t;simp only[j,q,Instr.loadAt,Instr.sureAddr,ZK,ZP,ZJ,rC (congrFun B w) ((m.cell _).trans t)]
 ·exact(bD b).elim
def Kf(p:Nat)(x:aA)(i k f:Nat){d:α}{u:Value}(h: ∀bs,x.sat bs→aq en z T v xs bs)(b: ∀y,(en y).length=k)(a:i<xs.length)(hf:f<k)(c:(en (xs.getD i d))[f]? = .some u):MH P (λ_=>u):=⟨[],qc P p x v (i*k+f),Ke p x i k f h b a hf c⟩
def nh(P:Program)(p:Nat)(x:aA)(v:Value)(off n:Nat)(o:Oper)(ρ:Operand→Value)(_:cD):MD:=match o.op with
 | .load T a=>⟨[(p,x)],λ_=>[],[sE (ρ a) (fl v off),sB (dI P T),sE ((P.info? T).map (·.size)) (.some n)]⟩
 | _=>MD.bad
theorem Kg(p:Nat)(x:aA)(i k f:Nat){d:α}{l:List Value}(h: ∀bs,x.sat bs→aq en z T v xs bs)(t: ∀y,(en y).length=k)(s:i<xs.length)(hf:f+l.length≤k)(I:((en (xs.getD i d)).drop f).take l.length=l):MD.ok P (λ_=> .agg l.toArray) (nh P p x v (i*k+f) l.length) []:=by
 intro o ρ C b w c m;unfold nh at b m⊢
 split at b
 ·rename_i J a j;simp only[j] at m⊢;simp only[ZO,ZM,or_false,forall_eq_or_imp,forall_eq,sE,sB] at b;obtain⟨q,F,H⟩:=b;obtain⟨A,n⟩:=m.ent;obtain⟨g,r,rfl,D⟩:=(h _ A).some s;rw[D] at n;refine⟨ab.zero,λ_=>[],w,.inl ?_,λx h=>by simp at h,by simpa using a6.refl w⟩;unfold execOp;simp only[fl,add_lit] at q;have u:=Cn (z:=z) (r:=r) (d:=d) t s;rw[t] at u;have G:((bE (aj en xs) z r).toList.drop (0+(i*k+f))).take l.length=l:=by
   have B:((bE (aj en xs) z r).toList.drop (0+(i*k+f))).take l.length=((((bE (aj en xs) z r).toList.drop (0+i*k)).take k).drop f).take l.length:=by
    rw[aa3,abi,Z5,show 0+i*k+f=0+(i*k+f) by omega,abh Om]
   rw[B,u,I]
  simp only[j,q,Instr.loadAt,Instr.sureAddr,ZK,ZP,ZJ,ux n.one G F H]
 ·exact(bD b).elim
def Kh(p:Nat)(x:aA)(i k f:Nat){d:α}{l:List Value}(h: ∀bs,x.sat bs→aq en z T v xs bs)(b: ∀y,(en y).length=k)(a:i<xs.length)(hf:f+l.length≤k)(c:((en (xs.getD i d)).drop f).take l.length=l):MH P (λ_=> .agg l.toArray):=⟨[],nh P p x v (i*k+f) l.length,Kg p x i k f h b a hf c⟩
end
end
section
open Go Go.RowKit Go.Shelf
section
variable {α:Type} {P:Program} {en:α→List Value} {z:List Value} {e T:TypeId} {v:Value} {xs ys:List α} {bs:ay} {w:World}
def xU(P:Program)(p:Nat)(x y:aA)(v:Value)(off:Nat)(u:Value)(o:Oper)(ρ:Operand→Value)(_:cD):MD:=match o.op with
 | .store T a b=>⟨[(p,x)],λ_=>[(p,y)],[sE (ρ a) (fl v off),sE (ρ b) u,sB u.oneCell',sE ((P.info? T).map (·.size)) (some 1)]⟩
 | _=>MD.bad
theorem Ki(p i k f:Nat){d a:α}{u:Value}(D: ∀y,(en y).length=k)(s:i<xs.length)(hf:f<k)(M:en a=(en (xs.getD i d)).set f u):MD.ok P (λ_=>undef) (xU P p (.p (aq en z T v xs)) (.p (aq en z T v (xs.set i a))) v (i*k+f) u) [p]:=by
 intro o ρ C j w c n;unfold xU at j n⊢
 split at j
 ·rename_i O x y l;simp only[l] at n⊢;simp only[ZO,ZM,or_false,forall_eq_or_imp,forall_eq,sE,sB] at j;obtain⟨A,K,I,J⟩:=j;obtain⟨H,t⟩:=n.ent;obtain⟨g,r,rfl,B⟩:=aq.some (show aq en z T v xs (c p) from H) s;rw[B] at t;have b:=t.one;have G:=JV (z:=z) (r:=r) D s hf M;have F:=JW (z:=z) (r:=r) (f:=f) (xs:=xs) D s hf;rw[show 0+i*k+f=0+(i*k+f) by omega] at G F;simp only[fl,add_lit] at A;have m:=a6.setc (i:=0+(i*k+f)) u b;rw[G] at m;refine⟨ab.zero,λ_=>[(g,.cells (bE (aj en (xs.set i a)) z r) T (0,0))],w.setCell ⟨g,0+(i*k+f),none⟩ u,.inr ⟨?_,by simp⟩,λq h=>?_,?_⟩
  ·unfold execOp;simp only[l,A,K,Instr.storeAt,Instr.sureAddr,ZK,ZP,ZJ,uu b F I J]
  ·rw[List.mem_singleton.1 h];exact .inr ⟨g,r,by rw[aav],rfl⟩
  ·rw[show([p].flatMap λp=>bL (c p))=_ by simp only[ZU,Z7,B,bL];rfl];exact m
 ·exact(bD j).elim
def Kj(p i k f:Nat){d a:α}{u:Value}(c: ∀y,(en y).length=k)(b:i<xs.length)(hf:f<k)(g:en a=(en (xs.getD i d)).set f u):MH P (λ_=>undef):=⟨[p],xU P p (.p (aq en z T v xs)) (.p (aq en z T v (xs.set i a))) v (i*k+f) u,Ki p i k f c b hf g⟩
def qd(P:Program)(p:Nat)(x y:aA)(v:Value)(off:Nat)(l:List Value)(o:Oper)(ρ:Operand→Value)(_:cD):MD:=match o.op with
 | .store T a b=>⟨[(p,x)],λ_=>[(p,y)],[sE (ρ a) (fl v off),sE (nb (ρ b)) (some l),sB (l.all (·.oneCell')),sE ((P.info? T).map (·.size)) (some l.length)]⟩
 | _=>MD.bad
theorem Kk(p i k:Nat){a:α}(s: ∀y,(en y).length=k)(n:i<xs.length):MD.ok P (λ_=>undef) (qd P p (.p (aq en z T v xs)) (.p (aq en z T v (xs.set i a))) v (i*k) (en a)) [p]:=by
 intro o ρ C j w c m;unfold qd at j m⊢
 split at j
 ·rename_i G x y l;simp only[l] at m⊢;simp only[ZO,ZM,or_false,forall_eq_or_imp,forall_eq,sE,sB] at j;obtain⟨B,K,I,J⟩:=j;obtain⟨H,A⟩:=m.ent;obtain⟨g,r,rfl,D⟩:=aq.some (show aq en z T v xs (c p) from H) n;rw[D] at A;have b:=A.one;have M:=JU (z:=z) (r:=r) (x:=a) s n rfl;have t:0+i*k+(en a).length≤(bE (aj en xs) z r).size:=by
   rw[uE,fS s rfl,s];have:=aac k (show i+1≤xs.length from n);rw[Nat.add_mul] at this;omega
  simp only[fl,add_lit] at B;have u:=a6.setRow (bE (aj en (xs.set i a)) z r) b;refine⟨ab.zero,λ_=>[(g,.cells (bE (aj en (xs.set i a)) z r) T (0,0))],w.setRow g (bE (aj en (xs.set i a)) z r),.inr ⟨?_,by simp⟩,λq h=>?_,?_⟩
  ·unfold execOp;have F:=uy (P:=P) (T:=G) b t (List.all_eq_true.1 I) J;rw[M,Array.toArray_toList] at F;simp only[l,B,uz K,Instr.storeAt,Instr.sureAddr,ZK,ZP,ZJ,F]
  ·rw[List.mem_singleton.1 h];exact .inr ⟨g,r,by rw[aav],rfl⟩
  ·rw[show([p].flatMap λp=>bL (c p))=_ by simp only[ZU,Z7,D,bL];rfl];exact u
 ·exact(bD j).elim
def Kl(p i k:Nat)(a:α)(c: ∀y,(en y).length=k)(b:i<xs.length):MH P (λ_=>undef):=⟨[p],qd P p (.p (aq en z T v xs)) (.p (aq en z T v (xs.set i a))) v (i*k) (en a),Kk p i k c b⟩
theorem uL{s:Sem Value}{v:Value}{w w':World}(h:s.run P w= .ok v w'):(vS s).run P w= .ok (.value v) w':=by
 unfold vS;simp only[ZK,h,ZJ,ZP]
theorem aq.slice(h:aq en z T v xs bs): ∃a r,v= .slice a xs.length (xs.length+r):=by
 rcases h with⟨rfl,_,a,rfl⟩ | ⟨g,r,rfl,_⟩
 ·exact⟨a,0,rfl⟩
 ·exact⟨_,r,rfl⟩
theorem Cs{T' TY:TypeId}(g:eh P T' e z)(a b:Option Addr)(n r c:Nat)(w:World):(Builtin.append_ #[T',T'] TY #[.slice a n (n+r),.slice b 0 c]).run P w= .ok (.slice a n (n+r)) w:=by
 obtain⟨k,⟨i,q,j,p,o,l,h⟩,m⟩:=g;cases a<;>cases b<;>simp [Builtin.append_,run_underlying k,sizeOf,typeInfo,j,Builtin.lenOf,Builtin.firstCells,loadCells,loadCellsFrom,storeCells]
theorem Cu{T' TY:TypeId}(hT:eh P T' e z){B:ay}(hv:aq en z e v xs B)(hh:ez B w){A:Addr}{c:Nat}(p: ∀y,(en y).length=z.length)(h1: ∀y,∀u∈en y,u.oneCell'=true)
  (k: ∀j u,(aj en ys)[j]? =some u→w.cell? (A.add j)=some u) (H:xs.length+ys.length≤1000000):
  ∃S m w',(Builtin.append_ #[T',T'] TY #[v,.slice (some A) ys.length c]).run P w= .ok S w'∧aq en z e S (xs++ys) m∧a6 (bL B) m w w':=by
 by_cases hy:ys=[]
 ·subst hy;obtain⟨a,r,rfl⟩:=hv.slice;refine⟨_,B,w,Cs hT a (some A) _ r c w,by rw[aaJ];exact hv,rfl,rfl,rfl,ZT _,hh.obj,λx O=> .inl (aaq O),hh.nd,λ_ _ _=>rfl⟩
 have K:0<ys.length:=List.length_pos_iff.2 hy;have hT':=hT;obtain⟨Y,⟨i,F,U,hz,X,Q,hby⟩,h0⟩:=hT;have hzz:0<F.cells.size:=by rw[←Array.length_toList,Q];exact h0
 have D:(aj en ys).length=ys.length*i.size:=by rw[X];exact fS p rfl
 have J:=Ck (e:=en) (xs:=ys) h1;have s: ∀(C:Array Value),a6 (bL B) [(w.heap.size,.cells C e (0,0))] w (w.drew.alloc (.cells C e)):=λC=>by
  have n:=(Below.refl w.heap.size w.drew).alloc (ZT _) (.cells C e);exact⟨n.os,n.tape,n.output,n.size,λx O=>by obtain rfl:=List.mem_singleton.1 O;exact aaQ w.drew _,λx O=>by obtain rfl:=List.mem_singleton.1 O;exact .inr (ZT _),aap _ _,λb H _=>n.block b H⟩
 have l: ∀(g0:Option Addr) (o:Nat) (G:Nat),G=grownCap w (xs.length+ys.length) o e→o<xs.length+ys.length→(Builtin.append_ #[T',T'] TY #[v,.slice (some A) ys.length c]).run P w= .ok (.slice (some ⟨w.heap.size,0,none⟩) (xs.length+ys.length) G) (w.drew.alloc (.cells ((aj en xs).toArray++(aj en ys).toArray++Builtin.zeroCells F.cells (G-(xs.length+ys.length))) e))→
   ∃S m w',(Builtin.append_ #[T',T'] TY #[v,.slice (some A) ys.length c]).run P w= .ok S w'∧aq en z e S (xs++ys) m∧a6 (bL B) m w w':=by
  intro g0 o G hG hcap V;have hge:=grownCap_ge w (xs.length+ys.length) o e;rw[←hG] at hge;have Z:(aj en xs).toArray++(aj en ys).toArray++Builtin.zeroCells F.cells (G-(xs.length+ys.length))=bE (aj en (xs++ys)) z (G-(xs.length+ys.length)):=by
   apply Array.toList_inj.1;unfold bE;simp only[Array.toList_append,xN _ _ hzz,Q,kC]
  rw[Z] at V;exact⟨_,_,_,V,.inr ⟨w.heap.size,G-(xs.length+ys.length),by rw[ZX];congr 1;omega,rfl⟩,s _⟩
 have t:(xs.length+ys.length)*i.bytes≤140737488355328:=Z9 (Nat.mul_le_mul H hby) Dc;rcases hv with⟨rfl,rfl,a,rfl⟩ | ⟨g,r,rfl,rfl⟩
 ·cases a with
  | none=>
   have h:=run_append_nil (P:=P) w T' TY e i F Y U hz A ys.length c (aj en ys) D k K (by simp only[aai] at H;omega) (by have:=t;simp only[aai,ZV] at this;omega);refine l none 0 _ rfl (by simp only[aai];omega) ?_;simp only[aai,ZV,aj,Z7];rw[h];simp [aj]
  | some a0=>
   have h:=run_append_grow (P:=P) w T' TY e i F Y U hz a0 0 0 [] (by simp) (λj u hu=>by simp at hu) A ys.length c (aj en ys) D k Om (by simp only[aai] at H;omega) (growslice_fits Om (by simpa using t));refine l none 0 _ rfl (by simp only[aai];omega) ?_;simp only[aai,aj,Z7] at h⊢;exact h
 ·have hg:w.heap[g]? =some (.cells (bE (aj en xs) z r) e (0,0)):=hh.one;have hn:(aj en xs).length=xs.length*i.size:=by rw[X];exact fS p rfl
  by_cases V:ys.length≤r
  ·have Z:((bE (aj en xs) z r).toList.take (xs.length*i.size)++aj en ys++(bE (aj en xs) z r).toList.drop (xs.length*i.size+(aj en ys).length)).toArray=bE (aj en (xs++ys)) z (r-ys.length):=by
    have M:(aaa r z).flatten=(aaa ys.length z).flatten++(aaa (r-ys.length) z).flatten:=by
     rw[←Z8,List.replicate_append_replicate,show ys.length+(r-ys.length)=r by omega]
    unfold bE;rw[←hn,M,kC];simp only[aaN]
    congr 1
    rw[ZY (ZT _),aar]
    congr 2
    rw[D,X,←rZ z ys.length,←ZX,←aaN (aj en xs),aag (ZT _),aaP,abg]
   have q:=run_append_room (P:=P) w T' TY e i Y U g xs.length (xs.length+r) (bE (aj en xs) z r) hg A ys.length c (aj en ys) D k J Om (by rw[←hn,D,uE,X];have:=aac z.length V;omega);rw[Z] at q;exact⟨_,_,_,q,.inr ⟨g,r-ys.length,by rw[ZX];congr 1;omega,rfl⟩,a6.setRow _ hg⟩
  ·have I:=oQ (news:=aj en xs) hg (off:=0) (by unfold bE;rw[aaz,ZY (ZT _),aar]);have h:=run_append_grow (P:=P) w T' TY e i F Y U hz ⟨g,0,none⟩ xs.length (xs.length+r) (aj en xs) hn I A ys.length c (aj en ys) D k Om Om (growslice_fits Om t);exact l none (xs.length+r) _ rfl Om h
def dR{α:Type}(en:α→List Value)(u:Value)(ys:List α):ay→Prop:=λbs=>
 (ys=[]∧∃a c,u= .slice a 0 c)∨∃(g b:Nat) (cs:Array Value) (t:TypeId) (h:Nat×Nat) (c:Nat),u= .slice (some ⟨g,b,none⟩) ys.length c∧(g,Obj.cells cs t h)∈bs∧(cs.toList.drop b).take (aj en ys).length=aj en ys
theorem aq.src(h:aq en z T v xs bs):dR en v xs bs:=by
 rcases h with⟨b,_,a,c⟩ | ⟨g,r,b,c⟩
 ·exact .inl ⟨b,a,0,c⟩
 ·exact .inr ⟨g,0,_,T,_,_,b,by rw[c];exact List.mem_singleton.2 rfl,JS⟩
def gY(v:Value)(l h s:Nat):Value:=match v with | .slice a _ c=>sliced a l h c s | _=>undef
def ab.ov(v:Value):ab:=⟨λ_=>0,λ_=>0,λ_=>v⟩
theorem Km{T' TY h:TypeId}{p q g off c m:Nat}{a:Array Value}(t:eh P T' e z)(b: ∀y,(en y).length=z.length)(h1: ∀y,∀u∈en y,u.oneCell'=true)(C:ys.length=m)(s:(a.toList.drop off).take (aj en ys).length=aj en ys)(A:xs.length+m≤1000000):
  BQ P (r5 T' TY v (.slice (some ⟨g,off,none⟩) m c)) (λE=>E.val 0) [(p,.p (aq en z e v xs)),(q,ob g a h)] [p] (λE=>[(p,.p (aq en z e (E.val 0) (xs++ys)))]):=by
 intro w k l;subst C;have D:aq en z e v xs (k p):=l.sat (p,.p (aq en z e v xs)) (by simp);have F:k q=[(g,.cells a h (0,0))]:=l.sat (q,ob g a h) (by simp);have i:=l.has;simp only[ZU,Z7,aaJ] at i;have B:w.heap[g]? =some (.cells a h (0,0)):=i.obj (g,.cells a h (0,0)) (by rw[F];simp);have n:ez (k p) w:=⟨λx r=>i.obj x (ZQ _ r),(List.pairwise_append.1 i.nd).1⟩;obtain⟨I,j,J,G,H,o⟩:=Cu (TY:=TY) (c:=c) t D n b h1 (oQ B s) A;exact⟨ab.ov I,λ_=>j,J,.inl (uL G),λx r=>by rw[List.mem_singleton.1 r];exact H,by simpa using o⟩
theorem Kn{T' TY:TypeId}{p q:Nat}{x:aA}{u:Value}(C:eh P T' e z)(l: ∀y,(en y).length=z.length)(h1: ∀y,∀u∈en y,u.oneCell'=true)(h: ∀bs,x.sat bs→dR en u ys bs)(F:xs.length+ys.length≤1000000):
  BQ P (r5 T' TY v u) (λE=>E.val 0) [(p,.p (aq en z e v xs)),(q,x)] [p] (λE=>[(p,.p (aq en z e (E.val 0) (xs++ys)))]):=by
 intro w k n;have A:aq en z e v xs (k p):=n.sat (p,.p (aq en z e v xs)) (by simp);have G:dR en u ys (k q):=h _ (n.sat (q,x) (by simp));have j:=n.has;simp only[ZU,Z7,aaJ] at j;have i:ez (k p) w:=⟨λx h=>j.obj x (ZQ _ h),(List.pairwise_append.1 j.nd).1⟩;have s:ez (k q) w:=⟨λx h=>j.obj x (ZR _ h),(List.pairwise_append.1 j.nd).2.1⟩;rcases G with⟨rfl,a,c,rfl⟩ | ⟨g,J,O,t,Q,c,rfl,o,D⟩
 ·obtain⟨b,r,rfl⟩:=A.slice;exact⟨ab.ov _,λ_=>k p,w,.inl (uL (Cs C b a _ r c w)),λx h=>by rw[List.mem_singleton.1 h,aaJ];exact A,rfl,rfl,rfl,ZT _,by simpa using i.obj,λx h=> .inl (by simp only[ZU,Z7,aaJ] at h⊢;exact aaq h),by simpa using i.nd,λ_ _ _=>rfl⟩
 ·obtain⟨K,m,M,H,I,B⟩:=Cu (TY:=TY) (c:=c) C A i l h1 (oQ (s.obj _ o) D) F;exact⟨ab.ov K,λ_=>m,M,.inl (uL H),λx h=>by rw[List.mem_singleton.1 h];exact I,by simpa using B⟩
end
end
section
open Go Go.RowKit Go.Shelf
structure kb {α:Type} (en:α→Value) (d:α) (f:Int→α) (es:List MapEntry):Prop where
 key: ∀x∈es,∃k,x.key= .int .i64 k∧x.val=en (f k)
 out: ∀k,(∀x∈es,x.key≠ .int .i64 k)→f k=d
 one:es.Pairwise λx y=>x.key≠y.key
def mb{α:Type}(en:α→Value)(d:α)(f:Int→α)(g:Nat):ay→Prop:=λbs=>∃b a,bs=[(g,.map b a)]∧kb en d f b.toList
def cq{α:Type}(f:Int→α)(k:Int)(a:α)(j:Int):α:=if j=k then a else f j
section
variable {α:Type} {P:Program} {en:α→Value} {d:α} {f:Int→α} {w:World}
theorem kb.find{k:Int}: ∀{es:List MapEntry} {i:Nat},(∀x∈es,∃k,x.key= .int .i64 k∧x.val=en (f k))→
  (Instr.findNow (.int .i64) (.int .i64 k) es i=some none∧∀x∈es,x.key≠ .int .i64 k)∨∃j y,es[j]? =some y∧y.key= .int .i64 k∧Instr.findNow (.int .i64) (.int .i64 k) es i=some (some (i+j,en (f k)))
 | [],i,_=> .inl ⟨rfl,λx h=>by simp at h⟩
 | y::es,i,h=>by
  obtain⟨q,b,l⟩:=h y aa6;by_cases e:k=q
  ·subst e;refine .inr ⟨0,y,rfl,b,?_⟩;unfold Instr.findNow;rw[b];simp [Instr.sameNow,l]
  ·have n:Instr.findNow (.int .i64) (.int .i64 k) (y::es) i=Instr.findNow (.int .i64) (.int .i64 k) es (i+1):=by
    rw[Instr.findNow,b];simp only[Instr.sameNow,if_true];rw[beq_false_of_ne e]
   rw[n];rcases kb.find (k:=k) (es:=es) (i:=i+1) (λx a=>h x (aab _ a)) with⟨c,g⟩ | ⟨j,z,c,g,m⟩
   ·refine .inl ⟨c,λx a=>?_⟩;rcases List.mem_cons.1 a with rfl | a
    ·rw[b];intro h;cases h;exact e rfl
    ·exact g x a
   ·exact .inr ⟨j+1,z,by simpa using c,g,by rw[m,show i+1+j=i+(j+1) by omega]⟩
theorem kb.nil:kb en d (λ_=>d) []:=⟨λx h=>by simp at h,λ_ _=>rfl,List.Pairwise.nil⟩
theorem kb.push{es:List MapEntry}(h:kb en d f es){k:Int}(l: ∀x∈es,x.key≠ .int .i64 k)(a:α)(c:Nat):kb en d (cq f k a) (es++[⟨.int .i64 k,en a,c⟩]):=by
 refine⟨λx b=>?_,λj i=>?_,?_⟩
 ·rcases List.mem_append.1 b with m | b
  ·obtain⟨q,g,n⟩:=h.key x m;refine⟨q,g,?_⟩;unfold cq;rw[ALifn]
   ·exact n
   ·intro e;exact l x m (by rw[g,e])
  ·obtain rfl:=List.mem_singleton.1 b;exact⟨k,rfl,by unfold cq;rw[ALifp rfl]⟩
 ·unfold cq;rw[ALifn]
  ·exact h.out j λx b=>i x (ZQ _ b)
  ·rintro rfl;exact i _ (ZR _ (List.mem_singleton.2 rfl)) rfl
 ·refine List.pairwise_append.2 ⟨h.one,aap _ _,λx b y o=>?_⟩;obtain rfl:=List.mem_singleton.1 o;exact l x b
theorem kb.set{es:List MapEntry}(h:kb en d f es){k:Int}{i:Nat}{y:MapEntry}(F:es[i]? =some y)(u:y.key= .int .i64 k)(a:α):kb en d (cq f k a) (es.modify i λe=>{e with key:= .int .i64 k,val:=en a}):=by
 have n:=(List.getElem?_eq_some_iff.1 F).1;have o:=(List.getElem?_eq_some_iff.1 F).2;have p: ∀j (g:j<es.length),(es.modify i λe=>{e with key:= .int .i64 k,val:=en a})[j]'(by simpa using g)=if i=j then{es[j] with key:= .int .i64 k,val:=en a} else es[j]:=λj g=>by
  rw[List.getElem_modify]
 have c: ∀j (g:j<es.length),((es.modify i λe=>{e with key:= .int .i64 k,val:=en a})[j]'(by simpa using g)).key=es[j].key:=λj g=>by
  rw[p j g]
  split
  ·rename_i e;subst e;simp only;rw[o,u]
  ·rfl
 refine⟨λx C=>?_,λj g=>?_,?_⟩
 ·obtain⟨j,g,rfl⟩:=Z4 C;have m:j<es.length:=by simpa using g
  rw[p j m]
  split
  ·exact⟨k,rfl,by unfold cq;rw[ALifp rfl]⟩
  ·rename_i r;obtain⟨q,A,G⟩:=h.key es[j] (aad m);refine⟨q,A,?_⟩;unfold cq;rw[ALifn]
   ·exact G
   ·rintro rfl;have D:=List.pairwise_iff_getElem.1 h.one;rcases aaK r with l | l
    ·exact D i j n m l (by rw[o,u,A])
    ·exact D j i m n l (by rw[o,u,A])
 ·unfold cq;have r:j≠k:=by
   rintro rfl;refine g _ (aad (show i<_ by simpa using n)) ?_;rw[c i n,o,u]
  rw[ALifn r];refine h.out j λx C=>?_;obtain⟨q,J,rfl⟩:=Z4 C;rw[←c q J];exact g _ (aad _)
 ·rw[aan];intro a b H I B;have s:a<es.length:=by simpa using H
  have t:b<es.length:=by simpa using I
  rw[c a s,c b t];exact(List.pairwise_iff_getElem.1 h.one) a b s t B
def uM(P:Program)(T:TypeId):Option (TypeId×TypeId):=match P.underlying T with
 | some (.map K V)=>match P.underlying K with
  | some (.int .i64)=>some (K,V)
  | _=>none
 | _=>none
theorem Cv{T K V:TypeId}(h:uM P T=some (K,V)):P.underlying T=some (.map K V)∧P.underlying K=some (.int .i64):=by
 unfold uM at h
 split at h
 ·rename_i c g a
  split at h
  ·rename_i b;cases h;exact⟨a,b⟩
  ·cases h
 ·cases h
theorem Cw{K:TypeId}(a:P.underlying K=some (.int .i64))(b:Bool)(n:Nat)(k:Int):(Instr.checkKey b (n+1) K (.int .i64 k)).run P w= .ok () w:=by
 unfold Instr.checkKey;simp [ZK,run_underlying a]
theorem uN{g:Nat}{es:Array MapEntry}{c:Nat}(h:w.heap[g]? =some (.map es c)):(getObj g).run P w= .ok (.map es c) w:=by simp [getObj,Sem.run,h]
theorem Cx{g:Nat}{es:Array MapEntry}{c:Nat}(o:Obj)(h:w.heap[g]? =some (.map es c)):(setObj g o).run P w= .ok () (w.putObj g o):=by simp [setObj,Sem.run,h,aaZ]
def xV(P:Program)(p:Nat)(x:aA)(g:Nat)(k:Int)(dv:Value)(o:Oper)(ρ:Operand→Value)(_:cD):MD:=match o.op with
 | .lookup T a b false=>match uM P T with
  | some (K,V)=>⟨[(p,x)],λ_=>[],[sE (ρ a) (.map (some g)),sE (ρ b) (.int .i64 k),sE (λw=>(zeroValue V).run P w) (λw=> .ok dv w)]⟩
  | none=>MD.bad
 | _=>MD.bad
theorem Ko(p:Nat)(x:aA)(g:Nat)(k:Int)(h: ∀bs,x.sat bs→mb en d f g bs):MD.ok P (λ_=>en (f k)) (xV P p x g k (en d)) []:=by
 intro o ρ C l w c q;unfold xV at l q⊢
 split at l
 ·rename_i T a b n;simp only[n] at q⊢
  split at l
  ·rename_i K V D;simp only[D] at q⊢;simp only[ZO,ZM,or_false,forall_eq_or_imp,forall_eq,sE] at l;obtain⟨M,O,u⟩:=l;obtain⟨I,B⟩:=q.ent;obtain⟨H,r,Q,G⟩:=h _ I;rw[Q] at B;have F:=B.one;obtain⟨A,s⟩:=Cv D;have u:=congrFun u w;refine⟨ab.zero,λ_=>[],w,.inl ?_,λx h=>by simp at h,by simpa using a6.refl w⟩;have U:(Instr.lookup T (.map (some g)) (.int .i64 k) false).run P w= .ok (en (f k)) w:=by
    unfold Instr.lookup;have m:=Cw (P:=P) (w:=w) s H.isEmpty 9999 k;rcases kb.find (en:=en) (f:=f) (k:=k) (i:=0) G.key with⟨t,J⟩ | ⟨j,y,_,_,t⟩
    ·have S:f k=d:=G.out k J;simp [ZK,run_underlying A,uN F,m,Instr.findKey,run_underlying s,t,u,S]
    ·simp [ZK,run_underlying A,uN F,m,Instr.findKey,run_underlying s,t]
   unfold execOp;simp only[n,M,O,ZK,U,ZJ,ZP]
  ·exact(bD l).elim
 ·exact(bD l).elim
def mg(p:Nat)(x:aA)(g:Nat)(k:Int)(h: ∀bs,x.sat bs→mb en d f g bs):MH P (λ_=>en (f k)):=⟨[],xV P p x g k (en d),Ko p x g k h⟩
def xW(P:Program)(p:Nat)(x y:aA)(g:Nat)(k:Int)(u:Value)(o:Oper)(ρ:Operand→Value)(_:cD):MD:=match o.op with
 | .mapUpdate T a b z=>match uM P T with
  | some _=>⟨[(p,x)],λ_=>[(p,y)],[sE (ρ a) (.map (some g)),sE (ρ b) (.int .i64 k),sE (ρ z) u]⟩
  | none=>MD.bad
 | _=>MD.bad
theorem Kp(p g:Nat)(k:Int)(a:α):MD.ok P (λ_=>undef) (xW P p (.p (mb en d f g)) (.p (mb en d (cq f k a) g)) g k (en a)) [p]:=by
 intro o ρ C u w c G;unfold xW at u G⊢
 split at u
 ·rename_i T m b z x;simp only[x] at G⊢
  split at u
  ·rename_i KV X;obtain⟨K,V⟩:=KV;simp only[X] at G⊢;simp only[ZO,ZM,or_false,forall_eq_or_imp,forall_eq,sE] at u;obtain⟨Y,H,hz⟩:=u;obtain⟨h1,U⟩:=G.ent;obtain⟨r,l,Z,Q⟩:=h1;rw[Z] at U;have B:=U.one;obtain⟨S,I⟩:=Cv X;have A:=Cw (P:=P) (w:=w) I false 9999 k;have s: ∀t n,a6 ([p].flatMap λp=>bL (c p)) ([(g,Obj.map t n)]++[]) w (w.putObj g (.map t n)):=λt n=>by
    rw[show([p].flatMap λp=>bL (c p))=[g] by simp only[ZU,Z7,Z,bL];rfl];exact a6.put rfl rfl rfl (by simp [aaZ]) (aaY (Array.getElem?_eq_some_iff.1 B).1) (λb H=>Z2 H)
   rcases kb.find (en:=en) (f:=f) (k:=k) (i:=0) Q.key with⟨F,h4⟩ | ⟨j,y,hj,D,F⟩
   ·refine⟨ab.zero,λ_=>[(g,.map (r.push ⟨.int .i64 k,en a,l⟩) (l+1))],w.putObj g (.map (r.push ⟨.int .i64 k,en a,l⟩) (l+1)),.inr ⟨?_,by simp⟩,λq h=>?_,s _ _⟩
    ·have O:(Instr.mapUpdate T (.map (some g)) (.int .i64 k) (en a)).run P w= .ok () (w.putObj g (.map (r.push ⟨.int .i64 k,en a,l⟩) (l+1))):=by
      unfold Instr.mapUpdate;simp [ZK,run_underlying S,uN B,A,Instr.findKey,run_underlying I,F,Cx _ B]
     unfold execOp;simp only[x,Y,H,hz,ZK,O,ZJ,ZP]
    ·rw[List.mem_singleton.1 h];exact⟨_,_,rfl,by rw[Array.toList_push];exact Q.push h4 a l⟩
   ·rw[ZV] at F;have J:r[j]? =some y:=by rw[←Array.getElem?_toList];exact hj
    have M:(Instr.keyThatStays (((r[j]?).map (·.key)).getD (.int .i64 k)) (.int .i64 k)).run P w= .ok (.int .i64 k) w:=by
     rw[J];simp [D,Instr.keyThatStays,Instr.sameBits]
    refine⟨ab.zero,λ_=>[(g,.map (r.modify j λe=>{e with key:= .int .i64 k,val:=en a}) l)],w.putObj g (.map (r.modify j λe=>{e with key:= .int .i64 k,val:=en a}) l),.inr ⟨?_,by simp⟩,λq h=>?_,s _ _⟩
    ·have O:(Instr.mapUpdate T (.map (some g)) (.int .i64 k) (en a)).run P w= .ok () (w.putObj g (.map (r.modify j λe=>{e with key:= .int .i64 k,val:=en a}) l)):=by
      unfold Instr.mapUpdate;simp only[ZK,run_underlying S,uN B,A,Instr.findKey,run_underlying I,F,M,ZJ,ZP,Cx _ B]
     unfold execOp;simp only[x,Y,H,hz,ZK,O,ZJ,ZP]
    ·rw[List.mem_singleton.1 h];exact⟨_,_,rfl,by rw[Array.toList_modify];exact Q.set hj D a⟩
  ·exact(bD u).elim
 ·exact(bD u).elim
def mu(p g:Nat)(k:Int)(en:α→Value)(d:α)(f:Int→α)(a:α):MH P (λ_=>undef):=⟨[p],xW P p (.p (mb en d f g)) (.p (mb en d (cq f k a) g)) g k (en a),Kp p g k a⟩
def xX(P:Program)(p:Nat)(Q:Nat→ay→Prop)(o:Oper)(_:Operand→Value)(_:cD):MD:=match o.op with
 | .makeMap T none=>⟨[],λE=>[(p,.p (Q (E.y 0)))],[sE (λw=>(Instr.makeMap T none).run P w) (λw=> .ok (.map (some w.heap.size)) (w.alloc (.map #[] 0)))]⟩
 | _=>MD.bad
theorem Kq(p:Nat)(en:α→Value)(d:α):MD.ok P (λE=> .map (some (E.y 0))) (xX P p (mb en d λ_=>d)) []:=by
 intro o ρ C a w c g;unfold xX at a g⊢
 split at a
 ·rename_i T b;simp only[b] at g⊢;simp only[aas,forall_eq,sE] at a;refine⟨ab.of w.heap.size,λ_=>[(w.heap.size,.map #[] 0)],_,.inl ?_,λx h=>?_,by simpa using a6.alloc w (.map #[] 0)⟩
  ·unfold execOp;have:=congrFun a w;simp only[b,abC,ZK,this,ZJ,ZP];rfl
  ·rw[List.mem_singleton.1 h];exact⟨#[],0,rfl,kb.nil⟩
 ·exact(bD a).elim
def mm(p:Nat)(en:α→Value)(d:α):MH P (λE=> .map (some (E.y 0))):=⟨[],xX P p (mb en d λ_=>d),Kq p en d⟩
end
def sf(S:ah→Prop):ay→Prop:=λbs=>∃L a,S L∧bq L a∧bs=a.flatten
abbrev pk(S:ah→Prop):aA:= .p (sf S)
theorem sh: ∀{cs ds:List ay},bq (cs.map .c) ds→ds=cs
 | [],[],_=>rfl
 | c::cs,d::ds,h=>by rw[show d=c from h.1,sh h.2]
 | [],_::_,h=>h.elim
 | _::_,[],h=>h.elim
section
variable {R:List Nat} {base W w:World} {L L' N:ah}
theorem aF.weak(h:aF R base L W){x y:aA}(k:Nat)(j:L[k]? =some x)(i: ∀bs,x.sat bs→y.sat bs):aF R base (L.set k y) W:=by
 obtain⟨c,a⟩:=h;have b:=(List.getElem?_eq_some_iff.1 j).1;refine⟨c,?_⟩;rw[aav];refine⟨λp l z g=>?_,λp l m=>?_,a.obj,a.inn,a.nd,a.lo,a.os,a.tape,a.output,a.size,a.far⟩
 ·rw[abz] at g;by_cases e:k=p
  ·subst e;rw[ALifp rfl,ALifp b] at g;cases g;exact i _ (a.sat k b x j)
  ·rw[ALifn e] at g;exact a.sat p l z g
 ·rw[aao,aav] at m;omega
theorem aF.nilS{α:Type}(h:aF R base L W)(en:α→List Value)(z:List Value)(T:TypeId):aF R base (L++[.p (aq en z T (.slice none 0 0) ([]:List α))]) W:=by
 obtain⟨cs,b,a⟩:=h.conc;refine aF.ofS (cs:=cs++[[]]) (kA b ⟨aq.nil none,trivial⟩) ?_;simpa using a
end
end
section
open Go Go.RowKit Go.Shelf
def ab.l(bs ns:List Nat)(vs:List Value):ab:=⟨λi=>bs.getD i 0,λi=>ns.getD i 0,λi=>vs.getD i undef⟩
section
variable {P:Program} {f:FuncId} {args:Array Value} {rd:ah} {O:List Nat} {wt:ab→ah} {v:ab→Value}
def Cy(O:List Nat)(wt:ab→ah)(v:ab→Value)(cs:List ay)(w:World)(e:Ending)(w':World):Prop:=
 ∃E a,e= .returned (v E)∧bq (wt E) a∧a6 (O.flatMap λi=>bL (cs.getD i [])) a.flatten w w'
def n9:Option aA→Bool
 | some (.c _)=>true
 | _=>false
theorem aF.fin2{R:List Nat}{w W':World}{L:ah}{cs:List ay}(hs:bq rd cs)(r:ez cs.flatten w)(h:aF (bL cs.flatten) w L W')(O:List Nat)(N:ah)(g:List Nat)(a:List (Nat×Nat))
  (k:(dp (g++a.map (·.2)),g.map (λp=>L[p]?),a.map (λx=>L[x.2]?),a.all (λx=>n9 rd[x.1]?),(aaf rd.length).all λi=>O.contains i||a.any λx=>x.1==i)=(true,N.map some,a.map (λx=>rd[x.1]?),true,true)):
  ∃ds,bq N ds∧a6 (O.flatMap λi=>bL (cs.getD i [])) ds.flatten w W':=by
 simp only[Prod.mk.injEq] at k;obtain⟨l,m,n,o,q⟩:=k;refine h.fin hs r O N g a ?_;simp only[Prod.mk.injEq];refine⟨l,m,?_,q⟩;rw[n];refine abv λx s=>?_;have b:=List.all_eq_true.1 o x s;cases d:rd[x.1]? with
 | none=>rw[d] at b;cases b
 | some y=>
  rw[d] at b;cases y with
  | c bs=>rw[show cs.getD x.1 []=bs from nc hs d]
  | p Q=>cases b
theorem aa.ro(i:Nat){Q:ay→Prop}(b:rd[i]? =some (.p Q))(h: ∀bs,Q bs→aa P f args (rd.set i (.c bs)) O wt v)(o:Enters P f):aa P f args rd O wt v:=by
 refine⟨o,λw a g q=>?_⟩;refine(h (a.getD i []) (nc g b)).out w a ?_ q;have k: ∀(rd:ah) (a:List ay) (i:Nat),bq rd a→i<rd.length→bq (rd.set i (.c (a.getD i []))) a:=by
  intro rd
  induction rd with
  | nil=>intro a i _ b;simp at b
  | cons x rd ih=>
   intro a i g b;obtain⟨d,m,rfl,n,l⟩:=eA g;cases i with
   | zero=>exact⟨rfl,l⟩
   | succ i=>exact⟨n,ih m i l (by simpa using b)⟩
 exact k rd a i g (List.getElem?_eq_some_iff.1 b).1
theorem aa.at(h:aa P f args rd O wt v){rd':ah}(b: ∀cs,bq rd' cs→bq rd cs):aa P f args rd' O wt v:=⟨h.ent,λw cs c a=>h.out w cs (b cs c) a⟩
end
section
variable {P:Program} {f:FuncId} {args:Array Value} {u:Value}
end
section
variable {P:Program}
def Cz(c:BinOp)(a b:Value):TD:=λo ρ=>match o.op with | .binOp op' _ x y _=>[sE op' c,sE (ρ x) a,sE (ρ y) b] | _=>[sB false]
theorem Ks{l:BinOp}{a b c:Value}(h: ∀(T:TypeId) (x y:Operand) (w:World),(av l T x y a b).run P w= .ok c w):TD.ok P (Cz l a b) c:=by
 intro o ρ d w;unfold Cz at d
 split at d
 ·rename_i p T x y q g;simp only[ZO,ZM,or_false,forall_eq_or_imp,forall_eq,sE] at d;obtain⟨rfl,m,n⟩:=d;have i:=h T x y w;unfold av at i;unfold execOp;simp only[g,m,n];have k:=l0 i;unfold vS at k;exact k
 ·exact(bD d).elim
def tb{d:BinOp}{a b c:Value}(h: ∀(T:TypeId) (x y:Operand) (w:World),(av d T x y a b).run P w= .ok c w):TH P c:=⟨_,Ks h⟩
def uO(c:BinOp)(T:TypeId)(a b:Value):TD:=λo ρ=>match o.op with | .binOp op' T' x y _=>[sE op' c,sE T' T,sE (ρ x) a,sE (ρ y) b] | _=>[sB false]
theorem xY{l:BinOp}{a b c:Value}(T:TypeId)(h: ∀(x y:Operand) (w:World),(av l T x y a b).run P w= .ok c w):TD.ok P (uO l T a b) c:=by
 intro o ρ d w;unfold uO at d
 split at d
 ·rename_i p T x y q g;simp only[ZO,ZM,or_false,forall_eq_or_imp,forall_eq,sE] at d;obtain⟨rfl,rfl,m,n⟩:=d;have i:=h x y w;unfold av at i;unfold execOp;simp only[g,m,n];have k:=l0 i;unfold vS at k;exact k
 ·exact(bD d).elim
def ik{d:BinOp}{a b c:Value}(T:TypeId)(h: ∀(x y:Operand) (w:World),(av d T x y a b).run P w= .ok c w):TH P c:=⟨_,xY T h⟩
def CA(P:Program)(k l:IntKind)(a:Value):TD:=λo ρ=>match o.op with | .convert S T x=>[sE (P.underlying S) (some (.int k)),sE (P.underlying T) (some (.int l)),sE (ρ x) a] | _=>[sB false]
theorem Kt{k l:IntKind}{a c:Value}(h: ∀(S T:TypeId) (w:World),P.underlying S=some (.int k)→P.underlying T=some (.int l)→(convert S T a).run P w= .ok c w):TD.ok P (CA P k l a) c:=by
 intro o ρ b w;unfold CA at b
 split at b
 ·rename_i S T x d;simp only[ZO,ZM,or_false,forall_eq_or_imp,forall_eq,sE] at b;obtain⟨i,m,n⟩:=b;unfold execOp;simp only[d,n];have g:=l0 (h S T w i m);unfold vS at g;exact g
 ·exact(bD b).elim
def tc{k l:IntKind}{a c:Value}(h: ∀(S T:TypeId) (w:World),P.underlying S=some (.int k)→P.underlying T=some (.int l)→(convert S T a).run P w= .ok c w):TH P c:=⟨_,Kt h⟩
def Zz(P:Program)(s:Sem Value):TD:=λo ρ=>[sE (λw=>(execOp ρ o).run P w) (λw=>(vS s).run P w)]
theorem Zr{v:Value}{s:Sem Value}(h: ∀w,s.run P w= .ok v w):TD.ok P (Zz P s) v:=λo ρ a w=>by
 simp only[Zz,aas,forall_eq,sE] at a;exact(congrFun a w).trans (l0 (h w))
end
end
section
open Go Go.RowKit Go.Shelf
abbrev bB(v:Value)(xs:List UInt8):aA:= .p (aq eB [.int .u8 0] 5 v xs)
abbrev dq(v:Value)(xs:List Int):aA:= .p (aq eI [.int .i64 0] 3 v xs)
section
variable {α:Type} {P:Program} {en:α→List Value} {z:List Value} {e T:TypeId} {v:Value} {xs ys:List α} {bs:ay} {w:World}
theorem cP{Q:ay→Prop}{bs:ay}(h:Q bs): ∀b,(aA.c bs).sat b→Q b:=λb a=>by rw[show b=bs from a];exact h
def xZ(P:Program)(p q:Nat)(T':TypeId)(v:Value)(x:aA)(y:ab→aA)(news:List Value)(m:Nat)(o:Oper)(ρ:Operand→Value)(C:cD):MD:=match C q,o.op with
 | some (.c [(g,.cells b h (0,0))]),.call ⟨.builtin .append,a,_⟩=>match a.toList.map ρ with
  | [_,.slice (some ⟨_,d,none⟩) _ c]=>⟨[(p,x),(q,ob g b h)],λE=>[(p,y E)],[sE (λw=>(execOp ρ o).run P w) (λw=>(r5 T' o.type v (.slice (some ⟨g,d,none⟩) m c)).run P w),sE ((b.toList.drop d).take news.length) news]⟩
  | _=>MD.bad
 | _,_=>MD.bad
theorem Ku{T':TypeId}(p q:Nat)(B:eh P T' e z)(v:Value)(i: ∀y,(en y).length=z.length)(h1: ∀y,∀u∈en y,u.oneCell'=true)(F:xs.length+ys.length≤1000000):
  MD.ok P (λE=>E.val 0) (xZ P p q T' v (.p (aq en z e v xs)) (λE=> .p (aq en z e (E.val 0) (xs++ys))) (aj en ys) ys.length) [p]:=by
 intro o ρ C b w c k;unfold xZ at b k⊢
 split at b
 ·rename_i g s N a t A l;simp only[A,l] at k⊢
  split at b
  ·rename_i Q L I M r D;simp only[D] at k⊢;simp only[ZO,ZM,or_false,forall_eq_or_imp,forall_eq,sE] at b;obtain⟨n,x⟩:=b;obtain⟨E,d,K,G,H,m⟩:=Km (T':=T') (TY:=o.type) (p:=p) (q:=q) (v:=v) (xs:=xs) (c:=r) B i h1 rfl x F w c k;exact⟨E,d,K,G.imp (λh=>(congrFun n w).trans h) (λh=>⟨(congrFun n w).trans h.1,h.2⟩),H,m⟩
  ·exact(bD b).elim
 ·exact(bD b).elim
def Kv{T':TypeId}(p q:Nat)(b:eh P T' e z)(v:Value)(h1: ∀y,∀u∈en y,u.oneCell'=true)(a: ∀y,(en y).length=z.length)(c:xs.length+ys.length≤1000000):MH P (λE=>E.val 0):=
 ⟨[p],xZ P p q T' v (.p (aq en z e v xs)) (λE=> .p (aq en z e (E.val 0) (xs++ys))) (aj en ys) ys.length,Ku p q b v a h1 c⟩
def x8(P:Program)(p q:Nat)(T':TypeId)(v u:Value)(x a:aA)(y:ab→aA)(o:Oper)(ρ:Operand→Value)(C:cD):MD:=
 ⟨[(p,x),(q,a)],λE=>[(p,y E)],[sE (λw=>(execOp ρ o).run P w) (λw=>(r5 T' o.type v u).run P w)]⟩
theorem Kw{T':TypeId}(p q:Nat)(l:eh P T' e z)(v u:Value)(k:aA)(s: ∀bs,k.sat bs→dR en u ys bs)(a: ∀y,(en y).length=z.length)(h1: ∀y,∀u∈en y,u.oneCell'=true)(m:xs.length+ys.length≤1000000):
  MD.ok P (λE=>E.val 0) (x8 P p q T' v u (.p (aq en z e v xs)) k (λE=> .p (aq en z e (E.val 0) (xs++ys)))) [p]:=by
 intro o ρ C b w c i;simp only[x8,aas,forall_eq,sE] at b i⊢;obtain⟨E,d,t,n,r,g⟩:=Kn (T':=T') (TY:=o.type) (p:=p) (q:=q) (v:=v) (xs:=xs) l a h1 s m w c i;exact⟨E,d,t,n.imp (λh=>(congrFun b w).trans h) (λh=>⟨(congrFun b w).trans h.1,h.2⟩),r _ (List.mem_singleton.2 rfl),g⟩
def mK{T':TypeId}(p q:Nat)(c:eh P T' e z)(v u:Value)(b:aA)(g: ∀bs,b.sat bs→dR en u ys bs)(h1: ∀y,∀u∈en y,u.oneCell'=true)(a: ∀y,(en y).length=z.length)(d:xs.length+ys.length≤1000000):MH P (λE=>E.val 0):=
 ⟨[p],x8 P p q T' v u (.p (aq en z e v xs)) b (λE=> .p (aq en z e (E.val 0) (xs++ys))),Kw p q c v u b g a h1 d⟩
end
section
variable {P:Program}
def uP(P:Program)(b:TypeId)(n:Nat)(a:List (Nat×Operand))(ρ:Operand→Value):Array Value:=
 ((aaf n).flatMap λi=>match a.find? (λx=>x.1==i) with | some x=>(ρ x.2).cells.toList | none=>(rS P b).toList).toArray
def x9(P:Program)(p n:Nat)(o:Oper)(ρ:Operand→Value)(_:cD):MD:=match o.op with
 | .buildSlice T b a=>⟨[],λE=>[(p,ob (E.y 0) (uP P (P.elem T) n a.toList ρ) (P.elem T))],[sE b n,sE (λw=>(execOp ρ o).run P w) (λw=> .ok (.value (.slice (some ⟨w.heap.size,0,none⟩) n n)) (w.alloc (.cells (uP P (P.elem T) n a.toList ρ) (P.elem T))))]⟩
 | _=>MD.bad
theorem Kx(p n:Nat):MD.ok P (λE=> .slice (some ⟨E.y 0,0,none⟩) n n) (x9 P p n) []:=by
 intro o ρ C a w c d;unfold x9 at a d⊢
 split at a
 ·rename_i T i g b;simp only[b] at d⊢;simp only[ZO,ZM,or_false,forall_eq_or_imp,forall_eq,sE] at a;refine⟨ab.of w.heap.size,λ_=>[(w.heap.size,.cells (uP P (P.elem T) n g.toList ρ) (P.elem T) (0,0))],_,.inl (congrFun a.2 w),λx h=>?_,by simpa using a6.alloc w (.cells (uP P (P.elem T) n g.toList ρ) (P.elem T))⟩;rw[List.mem_singleton.1 h];rfl
 ·exact(bD a).elim
def bs(p n:Nat):MH P (λE=> .slice (some ⟨E.y 0,0,none⟩) n n):=⟨[],x9 P p n,Kx p n⟩
def ya(P:Program){α:Type}(p:Nat)(en:α→List Value)(z:List Value)(a:TypeId)(o:Oper)(ρ:Operand→Value)(_:cD):MD:=
 ⟨[],λE=>[(p,.p (aq en z a (.slice (some ⟨E.y 0,0,none⟩) 0 0) []))],[sE (λw=>(execOp ρ o).run P w) (λw=> .ok (.value (.slice (some ⟨w.heap.size,0,none⟩) 0 0)) (w.alloc (.cells #[] a)))]⟩
theorem Ky{α:Type}(p:Nat)(en:α→List Value)(z:List Value)(d:TypeId):MD.ok P (λE=> .slice (some ⟨E.y 0,0,none⟩) 0 0) (ya P p en z d) []:=by
 intro o ρ C a w c g;simp only[ya,aas,forall_eq,sE] at a g⊢;refine⟨ab.of w.heap.size,λ_=>[],_,.inl (congrFun a w),aq.nil _,?_⟩;have:=a6.alloc w (.cells #[] d);exact⟨this.os,this.tape,this.output,this.size,λ_ h=>by simp at h,λ_ h=>by simp at h,by simp,λb i k=>this.far b i (by simp)⟩
def sj{α:Type}(p:Nat)(en:α→List Value)(z:List Value)(a:TypeId):MH P (λE=> .slice (some ⟨E.y 0,0,none⟩) 0 0):=⟨[],ya P p en z a,Ky p en z a⟩
end
section
variable {α:Type} {P:Program} {en:α→List Value} {z:List Value} {e T:TypeId} {v:Value} {xs:List α}
def yb(P:Program)(p:Nat)(x:aA)(v:Value)(l s:Nat)(o:Oper)(ρ:Operand→Value)(_:cD):MD:=match o.op with
 | .slice T a (some b) none none=>⟨[(p,x)],λ_=>[],[sE (ρ a) v,sE (ρ b) (.int .i64 (l:Int)),sE (P.underlying T,jh P (P.elem T)) (some (.slice (P.elem T)),some s)]⟩
 | _=>MD.bad
theorem Kz(p:Nat)(x:aA)(l s:Nat)(h: ∀bs,x.sat bs→aq en z T v xs bs)(D:l≤xs.length):MD.ok P (λ_=>gY v l xs.length s) (yb P p x v l s) []:=by
 intro o ρ C d w c k;unfold yb at d k⊢
 split at d
 ·rename_i i a b g;simp only[g] at k⊢;simp only[ZO,ZM,or_false,forall_eq_or_imp,forall_eq,sE] at d;obtain⟨t,y,n⟩:=d;obtain⟨h1,B⟩:=k.ent;obtain⟨m,r,rfl⟩:=(h _ h1).slice;have q:P.underlying i=some (.slice (P.elem i)):=ALca (·.1) n;have A:(Instr.sliceAt i (.slice m xs.length (xs.length+r)) (some (.int .i64 (l:Int))) none none).run P w= .ok (sliced m l xs.length (xs.length+r) s) w:=by
   rw[run_sliceAt_slice (h:=q),run_slice_l (ht:=q) (kl:= .i64) (l:=(l:Int)) (h0:=by omega) (h1:=by omega),n4 (ALca (·.2) n)];simp only[ZJ,aah]
  refine⟨ab.zero,λ_=>[],w,.inl ?_,λx h=>by simp at h,by simpa using a6.refl w⟩;unfold execOp;simp only[g,t,ZW,abC,y,ZK,A,ZJ,ZP,gY]
 ·exact(bD d).elim
def KA(p:Nat)(x:aA)(l s:Nat)(h: ∀bs,x.sat bs→aq en z T v xs bs)(a:l≤xs.length):MH P (λ_=>gY v l xs.length s):=⟨[],yb P p x v l s,Kz p x l s h a⟩
end
section
variable {P:Program}
theorem mH.two{a b:Nat×aA}{c:gC}{w:World}(h:mH [a,b] c w):mH [a] c w∧b.2.sat (c b.1):=by
 have d:=h.has;simp only[ZU,Z7,aaJ] at d;exact⟨⟨λx g=>h.sat x (by rw[List.mem_singleton.1 g];simp),by simpa using(⟨λx g=>d.obj x (ZQ _ g),(List.pairwise_append.1 d.nd).1⟩:ez (c a.1) w)⟩,h.sat b (by simp)⟩
def yc(P:Program)(p q:Nat)(x:aA)(v:Value)(o:Oper)(ρ:Operand→Value)(C:cD):MD:=match o.op,C p with
 | .store T a b,some (.c [(g,.cells h i (0,0))])=>match kX (ρ a) with
  | some (k,d)=>⟨[(p,ob g h i),(q,x)],λ_=>[(p,ob g (h.setIfInBounds d v) i)],[sE k g,sB (aaU d h.size),sE (ρ b) v,sE ((P.info? T).map (·.size)) (some 1)]⟩
  | none=>MD.bad
 | _,_=>MD.bad
theorem KB(p q:Nat)(x:aA)(v:Value)(hv: ∀bs,x.sat bs→v.oneCell'=true):MD.ok P (λ_=>undef) (yc P p q x v) [p]:=by
 intro o ρ C d w c k;unfold yc at d k⊢
 split at d
 ·rename_i T a b g s H i D;simp only[i,D] at k⊢
  split at d
  ·rename_i t m n;simp only[n] at k⊢;simp only[ZO,ZM,or_false,forall_eq_or_imp,forall_eq,sE,sB] at d;obtain⟨rfl,y,A,B⟩:=d;obtain⟨l,G⟩:=k.two;obtain⟨F,r⟩:=l.one;refine⟨ab.zero,λ_=>[(t,.cells (s.setIfInBounds m v) H (0,0))],_,.inr ⟨?_,by simp⟩,λz h=>?_,by simpa [F,bL] using a6.setc v r⟩
   ·unfold execOp;simp only[i,na n,A,Instr.storeAt,Instr.sureAddr,ZK,ZP,ZJ,uu r (aaS▸y) (hv _ G) B]
   ·rw[List.mem_singleton.1 h];rfl
  ·exact(bD d).elim
 ·exact(bD d).elim
def fT(p q:Nat)(x:aA)(v:Value)(hv: ∀bs,x.sat bs→v.oneCell'=true):MH P (λ_=>undef):=⟨[p],yc P p q x v,KB p q x v hv⟩
theorem aq.one{α:Type}{en:α→List Value}{z:List Value}{T:TypeId}{v:Value}{xs:List α}{bs:ay}(h:aq en z T v xs bs):v.oneCell'=true:=by
 obtain⟨a,r,rfl⟩:=h.slice;rfl
end
def TH.cast{P:Program}{a b:Value}(t:TH P a)(h:a=b):TH P b:=⟨t.d,h▸t.h⟩
def KC(P:Program)(a:Value):TD:=λo ρ=>[sE (λw=>(execOp ρ o).run P w) (λw=> .ok (.value a) w)]
def tk{P:Program}{a v:Value}(h:a=v):TH P v:=⟨KC P a,λo ρ b w=>by rw[←h];exact congrFun (b _ (List.mem_singleton.2 rfl)) w⟩
theorem oV: ∀(y:UInt8),∀u∈eB y,u.oneCell'=true:=λy u a=>by rw[List.mem_singleton.1 a];rfl
theorem oW:eh Tryz.prog 191 5 [.int .u8 0]:=eh.mk' Kr Kr rfl
end
section
open Go Go.RowKit Go.Shelf
section
variable {α:Type} {P:Program} {en:α→List Value} {v:Value} {xs:List α} {bs:ay} {w:World}
theorem dR.form(h:dR en v xs bs): ∃a c,v= .slice a xs.length c:=by
 rcases h with⟨rfl,a,c,rfl⟩ | ⟨g,b,d,t,i,c,rfl,_⟩
 ·exact⟨a,c,rfl⟩
 ·exact⟨_,_,rfl⟩
theorem dR.some(h:dR en v xs bs){i:Nat}(b:i<xs.length): ∃(g off:Nat) (cs:Array Value) (t:TypeId) (a:Nat×Nat) (c:Nat),v= .slice (.some ⟨g,off,none⟩) xs.length c∧(g,Obj.cells cs t a)∈bs∧(cs.toList.drop off).take (aj en xs).length=aj en xs:=by
 rcases h with⟨rfl,_⟩ | h
 ·simp at b
 ·exact h
theorem CB{l:List Value}{off k i:Nat}{d:α}(c:(l.drop off).take (aj en xs).length=aj en xs)(h: ∀x,(en x).length=k)(a:i<xs.length):(l.drop (off+i*k)).take k=en (xs.getD i d):=by
 have g:=fS h (xs:=xs) rfl;have b:(i+1)*k≤xs.length*k:=aac _ a;rw[aae] at b;rw[←uJ (d:=d) h a]
 conv=>rhs;rw[←c]
 rw[aa3,abi,Z5,abh Om]
theorem KD{cs:Array Value}{off k i f:Nat}{d:α}{u:Value}(c:(cs.toList.drop off).take (aj en xs).length=aj en xs)(h: ∀x,(en x).length=k)(b:i<xs.length)(hf:f<k)(g:(en (xs.getD i d))[f]? = .some u):cs[off+(i*k+f)]? = .some u:=by
 have a:=ALca (λl=>l[f]?) (CB (d:=d) c h b);simp only[aaD hf,aaV] at a;rw[←Array.getElem?_toList,←abm,a,g]
theorem CC{P:Program}{w:World}{g off:Nat}{p T:TypeId}{cs:Array Value}{d:Nat×Nat}{l:List Value}(m:w.heap[g]? = .some (.cells cs p d))(n:(cs.toList.drop off).take l.length=l)(h:dI P T=true)(c:(P.info? T).map (·.size)= .some l.length):(loadVar T ⟨g,off,none⟩).run P w= .ok (.agg l.toArray) w:=by
 have k:(loadCells ⟨g,off,none⟩ l.length).run P w= .ok l.toArray w:=run_loadCells_list (P:=P) w ⟨g,off,none⟩ l (oQ m n);cases b:P.info? T with
 | none=>simp [b] at c
 | some i=>
  have o:i.size=l.length:=by simpa [b] using c
  have a:(isAgg T).run P w= .ok true w:=by
   unfold isAgg;unfold dI at h
   split at h
   ·rename_i e;rw[ZK,run_underlying e w];simp
   ·rename_i e;rw[ZK,run_underlying e w];simp
   ·cases h
  simp [loadVar,ZK,a,sizeOf,typeInfo,b,o,k]
theorem KE(p:Nat)(x:aA)(h: ∀bs,x.sat bs→dR en v xs bs):MD.ok P (λ_=> .int .i64 (xs.length:Int)) (qa P p x v) []:=by
 intro o ρ C d w c g;unfold qa at d g⊢
 split at d
 ·rename_i a t i;simp only[i] at g⊢;simp only[ZO,ZM,or_false,forall_eq_or_imp,forall_eq,sE,sB] at d;obtain⟨l,q⟩:=d;obtain⟨m,y⟩:=g.ent;obtain⟨b,k,rfl⟩:=(h _ m).form;obtain⟨r,s,rfl,n⟩:=Cr q;refine⟨ab.zero,λ_=>[],w,.inl ((congrFun l w).trans (l0 ?_)),λx h=>by simp at h,by simpa using a6.refl w⟩;simp [Builtin.len_,run_underlying n,goInt,ZK]
 ·exact(bD d).elim
def KF(p:Nat)(x:aA)(h: ∀bs,x.sat bs→dR en v xs bs):MH P (λ_=> .int .i64 (xs.length:Int)):=⟨[],qa P p x v,KE p x h⟩
theorem KG(p:Nat)(x:aA)(i s:Nat)(h: ∀bs,x.sat bs→dR en v xs bs)(q:i<xs.length):MD.ok P (λ_=>fl v (i*s)) (qb P p x v i s) []:=by
 intro o ρ C d w c m;unfold qb at d m⊢
 split at d
 ·rename_i G a b l;simp only[l] at m⊢;simp only[ZO,ZM,or_false,forall_eq_or_imp,forall_eq,sE] at d;obtain⟨B,D,A⟩:=d;obtain⟨y,K⟩:=m.ent;obtain⟨g,off,H,t,I,r,rfl,_⟩:=(h _ y).some q;refine⟨ab.zero,λ_=>[],w,.inl ?_,λx h=>by simp at h,by simpa using a6.refl w⟩;unfold execOp;have F:=bP (P:=P) (w:=w) (g:=g) (off:=off) (n:=xs.length) (c:=r) (k:=i) (s:=s) A q;simp only[l,B,D,ZK,F,ZJ,ZP,fl,add_lit]
 ·exact(bD d).elim
def KH(p:Nat)(x:aA)(i s:Nat)(h: ∀bs,x.sat bs→dR en v xs bs)(a:i<xs.length):MH P (λ_=>fl v (i*s)):=⟨[],qb P p x v i s,KG p x i s h a⟩
theorem KJ(p:Nat)(x:aA)(i k f:Nat){d:α}{u:Value}(h: ∀bs,x.sat bs→dR en v xs bs)(I: ∀y,(en y).length=k)(r:i<xs.length)(hf:f<k)(K:(en (xs.getD i d))[f]? = .some u):MD.ok P (λ_=>u) (qc P p x v (i*k+f)) []:=by
 intro o ρ C b w c m;unfold qc at b m⊢
 split at b
 ·rename_i M a l;simp only[l] at m⊢;simp only[ZO,ZM,or_false,forall_eq_or_imp,forall_eq,sE] at b;obtain⟨q,G⟩:=b;obtain⟨B,D⟩:=m.ent;obtain⟨g,L,s,t,A,N,rfl,H,F⟩:=(h _ B).some r;have n:w.cell? ⟨g,L+(i*k+f),none⟩= .some u:=(cell_of_row w g _ s t A (D.obj _ H)).trans (KD F I r hf K);refine⟨ab.zero,λ_=>[],w,.inl ?_,λx h=>by simp at h,by simpa using a6.refl w⟩;unfold execOp;simp only[fl,add_lit] at q;simp only[l,q,Instr.loadAt,Instr.sureAddr,ZK,ZP,ZJ,rC (congrFun G w) n]
 ·exact(bD b).elim
def KK(p:Nat)(x:aA)(i k f:Nat){d:α}{u:Value}(h: ∀bs,x.sat bs→dR en v xs bs)(b: ∀y,(en y).length=k)(a:i<xs.length)(hf:f<k)(c:(en (xs.getD i d))[f]? = .some u):MH P (λ_=>u):=⟨[],qc P p x v (i*k+f),KJ p x i k f h b a hf c⟩
theorem KL(p:Nat)(x:aA)(i k f:Nat){d:α}{l:List Value}(h: ∀bs,x.sat bs→dR en v xs bs)(K: ∀y,(en y).length=k)(A:i<xs.length)(hf:f+l.length≤k)(N:((en (xs.getD i d)).drop f).take l.length=l):MD.ok P (λ_=> .agg l.toArray) (nh P p x v (i*k+f) l.length) []:=by
 intro o ρ C b w c q;unfold nh at b q⊢
 split at b
 ·rename_i S a m;simp only[m] at q⊢;simp only[ZO,ZM,or_false,forall_eq_or_imp,forall_eq,sE,sB] at b;obtain⟨s,I,M⟩:=b;obtain⟨B,D⟩:=q.ent;obtain⟨g,r,n,t,V,U,rfl,H,G⟩:=(h _ B).some A;refine⟨ab.zero,λ_=>[],w,.inl ?_,λx h=>by simp at h,by simpa using a6.refl w⟩;unfold execOp;simp only[fl,add_lit] at s;have Q:=CB (d:=d) G K A;have L:(n.toList.drop (r+(i*k+f))).take l.length=l:=by
   have F:(n.toList.drop (r+(i*k+f))).take l.length=(((n.toList.drop (r+i*k)).take k).drop f).take l.length:=by
    rw[aa3,abi,Z5,←abm,abh Om]
   rw[F,Q,N]
  simp only[m,s,Instr.loadAt,Instr.sureAddr,ZK,ZP,ZJ,CC (D.obj _ H) L I M]
 ·exact(bD b).elim
def KM(p:Nat)(x:aA)(i k f:Nat){d:α}{l:List Value}(h: ∀bs,x.sat bs→dR en v xs bs)(b: ∀y,(en y).length=k)(a:i<xs.length)(hf:f+l.length≤k)(c:((en (xs.getD i d)).drop f).take l.length=l):MH P (λ_=> .agg l.toArray):=⟨[],nh P p x v (i*k+f) l.length,KL p x i k f h b a hf c⟩
end
end
section
open Go Go.RowKit Go.Shelf
theorem qe{L:ah}(b:List Nat){Os:List ay}(g:b.map (λp=>L[p]?)=Os.map λo=>some (.c o)):jg Os.flatten L:=by
 intro x k;obtain⟨o,h,a⟩:=List.mem_flatten.1 k;have d:some (aA.c o)∈b.map (λp=>L[p]?):=by rw[g];exact List.mem_map.2 ⟨o,h,rfl⟩
 obtain⟨p,_,i⟩:=List.mem_map.1 d;exact⟨o,aaR i,a⟩
theorem uQ: ∀Os:List ay,bq (Os.map .c) Os
 | []=>trivial
 | _::Os=>⟨rfl,uQ Os⟩
theorem eD{Q:ay→Prop}{bs:ay}{L L':ah}(b:Q bs)(h: ∀cs,bq L' cs→bq L cs): ∀cs,bq (.c bs::L') cs→bq (.p Q::L) cs
 | [],a=>a.elim
 | d::cs,a=>⟨by rw[show d=bs from a.1];exact b,h cs a.2⟩
theorem atS{x:aA}{L L':ah}(h: ∀cs,bq L' cs→bq L cs): ∀cs,bq (x::L') cs→bq (x::L) cs
 | [],a=>a.elim
 | _::cs,a=>⟨a.1,h cs a.2⟩
theorem aa.v{P:Program}{f:FuncId}{args:Array Value}{rd:ah}{O:List Nat}{wt:ab→ah}{v a:ab→Value}(h:aa P f args rd O wt v)(e: ∀E,v E=a E):aa P f args rd O wt a:=by
 rwa [show a=v from funext λE=>(e E).symm]
section
variable {R:List Nat} {base W W':World} {Os:List ay}
theorem aF.ndC(h:aF R base (Os.map .c) W):Os.flatten.Pairwise λx y=>x.1≠y.1:=by
 obtain⟨d,b,a⟩:=h.conc;rw[sh b] at a;exact a.nd
variable {J:Nat→(Nat→Prop)→World→Prop} {W0 wr:World} {LE:ah} {j:Nat}
structure fD (J:Nat→(Nat→Prop)→World→Prop) (Os:List ay) (W0:World) (j:Nat) (R:List Nat) (base:World):Prop where
 ex: ∃L,fR J Os.flatten W0 L j base∧R=(Os.flatten++L).map (·.1)
def jj(J:Nat→(Nat→Prop)→World→Prop)(Os:List ay)(W0:World)(LE:ah)(j:Nat)(wr:World):Prop:=∃a,bq LE a∧fR J Os.flatten W0 a.flatten j wr
theorem fD.step(h:Hid (fD J Os W0 j R base))(b:gO J)(d:aF R base (Os.map .c++LE) W'):jj J Os W0 LE j W':=by
 obtain⟨L,a,rfl⟩:=h.out.ex;exact a.stepE b (λi g=>by rw[sh g]) d
theorem jj.start(h:jj J Os W0 LE j wr): ∃R,Hid (fD J Os W0 j R wr)∧Hid (aF R wr (Os.map .c++LE) wr):=by
 obtain⟨g,d,b⟩:=h;refine⟨_,Lib.hid ⟨_,b,rfl⟩,Lib.hid ?_⟩;have a:=aF.start (w:=wr) (kA (uQ Os) d) (by rw[Z8];exact b.has);rw[Z8] at a;exact a
theorem jj.zero(h:fR J Os.flatten W0 [] 0 W0):jj J Os W0 [] 0 W0:=⟨[],trivial,h⟩
theorem jj.leaf(h:jj J Os W0 LE j wr): ∃L,fR J Os.flatten W0 L j wr:=by
 obtain⟨b,_,a⟩:=h;exact⟨_,a⟩
end
end
section
open Go Go.RowKit Go.Shelf
def aK{α:Type}(en:α→List Value)(v:Value)(xs:List α):ay→Prop:=λbs=>dR en v xs bs∧∃a r,v= .slice a xs.length (xs.length+r)
section
variable {α:Type} {P:Program} {en:α→List Value} {z:List Value} {T:TypeId} {v:Value} {xs:List α} {bs:ay}
theorem aq.sq(h:aq en z T v xs bs):aK en v xs bs:=⟨h.src,h.slice⟩
theorem aK.drop{k:Nat}(F: ∀y,(en y).length=k)(h:aK en v xs bs){l:Nat}(I:l≤xs.length):aK en (gY v l xs.length k) (xs.drop l) bs:=by
 obtain⟨x,a,r,rfl⟩:=h;have d:(xs.drop l).length=xs.length-l:=Z0;refine⟨?_,?_⟩
 ·by_cases e:l=xs.length
  ·subst e;refine .inl ⟨aaP,?_⟩;simp only[gY,sliced,abF];exact⟨_,_,rfl⟩
  ·obtain⟨g,b,n,t,s,c,A,B,C⟩:=x.some (i:=l) Om;injection A with q G H;subst q;refine .inr ⟨g,b+l*k,n,t,s,xs.length+r-l,?_,B,?_⟩
   ·simp only[gY,sliced];rw[ALifn Om,d];simp only[ZW];rw[show(⟨g,b,none⟩:Addr).add (l*k)=⟨g,b+l*k,none⟩ from by unfold Addr.add;split<;>simp_all]
   ·have o:aj en xs=aj en (xs.take l)++aj en (xs.drop l):=by rw[←kC,aaO]
    have p:(aj en (xs.take l)).length=l*k:=by rw[fS F rfl,aaB];congr 1;omega
    rw[←Z5];have m:(((n.toList.drop b).take (aj en xs).length).drop (l*k))=(aj en xs).drop (l*k):=ALca (λy=>y.drop (l*k)) C;rw[aa3] at m;have D:(aj en xs).drop (l*k)=aj en (xs.drop l):=by
     conv=>lhs;rw[o]
     rw[←p,List.drop_left]
    rw[D] at m;rw[show(aj en (xs.drop l)).length=(aj en xs).length-l*k by rw[o,ZX,p];omega];exact m
 ·simp only[gY,sliced];exact⟨_,r,by rw[d];congr 1;omega⟩
end
theorem bM{Q b:ay→Prop}{L L':ah}(c: ∀bs,Q bs→b bs)(h: ∀cs,bq L' cs→bq L cs): ∀cs,bq (.p Q::L') cs→bq (.p b::L) cs
 | [],a=>a.elim
 | d::cs,a=>⟨c d a.1,h cs a.2⟩
end
end E
end Go.Proofs.YtbcodenfkijdnaaGreat
