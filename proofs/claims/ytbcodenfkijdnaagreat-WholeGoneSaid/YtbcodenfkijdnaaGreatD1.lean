/- WholeGone, in 7 texts: part 1. For every input; no condition. -/
import Derived.Below
import Derived.Laws.OwnMore
import Derived.Deep.Draws
import Derived.Laws.Rows
import Derived.OpenShut
import Derived.Test.YtbcodenfkijdnaaGreatRows
import Derived.WalkKit
import Derived.WalkSpells
import Derived.WalkLawsBesides
import Derived.Lib.Hide
import Derived.RangeFuncNested
import Derived.RangeFuncBound
import Derived.RangeFuncCalls
import Derived.RangeFuncLeaves
import Derived.RangeFuncBox
import Derived.Shelf.Abstract
import Derived.Sort.QuietIn
import Derived.OwnWalkIn
import Derived.StillTail
import Derived.Laws.Small
import Derived.Laws.CopyRow
import Derived.Laws.CopyOwn
import Derived.TacticsInMore
import Derived.WideShapes
import Derived.WideOpen
import Derived.Laws.AppendOwn
import Derived.StillTailTactics
import Derived.LoopNIn
import Derived.LoopIn
import Derived.Laws.StructEq
import Derived.ChangeKeysEq
import Derived.Sort.BigQuietIn
import Derived.Sort.CutIn
import Derived.Lib.Agree
import Derived.Deep.WholeRow
import Derived.Deep.RegionWith
import Derived.Deep.CutRange
import Derived.IntWalk
import Derived.Laws.Append
set_option linter.unusedVariables false
set_option linter.unusedSimpArgs false
set_option maxRecDepth 100000
namespace Go.Proofs.YtbcodenfkijdnaaGreat
open Go Go.RowKit
open List renaming replicate→dZ
theorem LL:(∀{α:Type} (l:List α) (i:Nat) (a:α),(l.set i a).length=l.length)∧(∀{α:Type} (l m:List α),(l++m).length=l.length+m.length)∧(∀{α:Type} (n:Nat) (a:α),(dZ n a).length=n)∧(∀{α:Type} (a:α) (l:List α),(a::l).length=l.length+1)∧(∀{α:Type},([]:List α).length=0)∧(∀{α β:Type} (f:α→β) (l:List α),(l.map f).length=l.length)∧(∀n:Nat,(List.range n).length=n)∧(∀{α:Type} (i:Nat) (l:List α),(l.take i).length=min i l.length)∧(∀{α:Type} (i:Nat) (l:List α),(l.drop i).length=l.length-i):=by simp
abbrev z6:List UInt8:=dZ 64 0
theorem Kr{p:Prop}(h:p:=by kernel_rfl):p:=h
theorem ALifn.{u} {c:Prop} [h:Decidable c] (g: ¬c) {α:Sort u} {t e:α}:ite c t e=e:=if_neg g
theorem ALifp.{u} {c:Prop} [h:Decidable c] (g:c) {α:Sort u} {t e:α}:ite c t e=t:=if_pos g
theorem ALcf.{u} {α:Type u} (a b:α):cond false a b=b:=rfl
theorem ALct.{u} {α:Type u} (a b:α):cond true a b=a:=rfl
theorem ALca.{u,v} {α:Sort u} {β:Sort v} {a b:α} (f:α→β) (h:a=b):f a=f b:=congrArg f h
theorem bj{p:Prop}[h:Decidable p](g: ¬p):decide p=false:=decide_eq_false g
theorem cC{p:Prop}[h:Decidable p](g:p):decide p=true:=decide_eq_true g
theorem dp{α:Type}[BEq α][LawfulBEq α]{a b:α}:(a==b)=false↔a≠b:=beq_eq_false_iff_ne
theorem Om{p:Prop}(h:p:=by omega):p:=h
theorem Dc{p:Prop}(h:p:=by decide):p:=h
theorem As{p:Prop}(h:p:=by assumption):p:=h
theorem bh{p:Prop}(h:p:=by rfl):p:=h
end Go.Proofs.YtbcodenfkijdnaaGreat
namespace Go.Proofs.YtbcodenfkijdnaaGreat
open Go.RowKit

def mF(w:World)(g:Nat)(t:TypeId)(cs:Array Value):Prop:=w.heap[g]? =some (.cells cs t (0,0))
section
variable {w w':World} {g:Nat} {t:TypeId} {cs:Array Value}
theorem mF.cell(h:mF w g t cs)(i:Nat):w.cell? ⟨g,i,none⟩=cs[i]? :=cell_of_row w g i cs t (0,0) h
theorem mF.frozen(h:mF w g t cs)(i:Nat):w.frozen? ⟨g,i,none⟩=false:=by
 unfold mF at h
 simp [World.frozen?,h]
end
end Go.Proofs.YtbcodenfkijdnaaGreat
namespace Go.Proofs.YtbcodenfkijdnaaGreat
open Nat renaming mod_two_eq_zero_or_one→dZ,pow_succ→eF,zero_add→ir
def eE:Nat→Nat→Nat
 | 0,_=>0
 | k+1,n=>n%2+eE k (n/2)
def pc(n:Nat):Nat:=eE 64 n
theorem w0(k:Nat):eE k 0=0:=by
 induction k with
 | zero=>rfl
 | succ k ih=>rw[eE];simpa using ih
theorem Ip(k:Nat): ∀n,n<2^k→∀d,eE (k+d) n=eE k n:=by
 induction k with
 | zero=>
  intro n hn d
  obtain rfl:n=0:=by omega
  rw[w0,w0]
 | succ k ih=>
  intro n hn d
  rw[show k+1+d=(k+d)+1 from by omega,eE,eE,ih (n/2) (by rw[eF] at hn;omega) d]
theorem tY(k n:Nat)(hn:n<2^k)(hk:k≤64):eE k n=pc n:=by
 have:=Ip k n hn (64-k)
 rw[show k+(64-k)=64 from by omega] at this
 exact this.symm
theorem A3:pc 0=0:=w0 64
theorem A4(k n:Nat):eE k n≤k:=by
 induction k generalizing n with
 | zero=>exact Nat.le_refl 0
 | succ k ih=>rw[eE];have:=ih (n/2);omega
theorem w5(n:Nat):pc n≤64:=A4 64 n
theorem Iq(a b:Nat):(a&&& b)/2=(a/2)&&& (b/2):=by
 have:=@Nat.shiftRight_and_distrib 1 a b
 simpa [Nat.shiftRight_eq_div_pow] using this
theorem Iu(a b:Nat):(a&&& b)%2=(a%2)*(b%2):=by
 have h:=@Nat.and_mod_two_pow a b 1
 rw[Nat.pow_one] at h
 rw[h]
 rcases dZ a with ha | ha<;>rcases dZ b with hb | hb<;>rw[ha,hb]<;>rfl
theorem Iv(k:Nat): ∀x,0<x→x<2^k→eE k x=eE k (x&&& (x-1))+1:=by
 induction k with
 | zero=>intro x h0 h;omega
 | succ k ih=>
  intro x h0 h
  rw[eE,eE,Iq,Iu]
  rw[eF] at h
  rcases dZ x with hx | hx
  ·have h1:(x-1)/2=x/2-1:=by omega
   rw[h1,hx,Nat.zero_mul,ir,ir,ih (x/2) Om Om]
  ·have h1:(x-1)/2=x/2:=by omega
   have h2:(x-1)%2=0:=by omega
   rw[h1,h2,hx,Nat.and_self]
   omega
theorem A5(x:Nat)(h0:0<x)(h:x<2^64):pc x=pc (x&&& (x-1))+1:=Iv 64 x h0 h
def eZ:Nat→Nat→Nat→List Nat
 | 0,_,_=>[]
 | k+1,i,x=>if x%2=1 then i::eZ k (i+1) (x/2) else eZ k (i+1) (x/2)
theorem w7(k:Nat): ∀i x p,p∈eZ k i x→i≤p∧p<i+k∧x/2^(p-i)%2=1:=by
 induction k with
 | zero=>intro i x p h;cases h
 | succ k ih=>
  intro i x p h
  have rest:p∈eZ k (i+1) (x/2)→i≤p∧p<i+(k+1)∧x/2^(p-i)%2=1:=by
   intro h
   obtain⟨h1,h2,h3⟩:=ih _ _ _ h
   refine⟨by omega,by omega,?_⟩
   rw[show p-i=(p-(i+1))+1 from by omega,eF,Nat.mul_comm,←Nat.div_div_eq_div_mul]
   exact h3
  rw[eZ] at h
  split at h
  ·rename_i hx
   rcases List.mem_cons.1 h with rfl | h
   ·refine⟨Nat.le_refl _,by omega,?_⟩
    rw[Nat.sub_self,Nat.pow_zero,Nat.div_one];exact hx
   ·exact rest h
  ·exact rest h
def bk(x:Nat):List Nat:=eZ 64 0 x
end Go.Proofs.YtbcodenfkijdnaaGreat
namespace Go.Proofs.YtbcodenfkijdnaaGreat
open Go.RowKit


end Go.Proofs.YtbcodenfkijdnaaGreat
namespace Go.Proofs.YtbcodenfkijdnaaGreat
open Go Go.RowKit
structure ff (S:Nat→Prop) (W W':World):Prop where
 os:W'.os=W.os
 tape:W'.tape=W.tape
 output:W'.output=W.output
 size:W.heap.size≤W'.heap.size
 same: ∀b,b<W.heap.size→¬S b→W'.heap[b]? =W.heap[b]?
structure Zf (K:Nat→Prop) (W W':World):Prop where
 size:W.heap.size≤W'.heap.size
 same: ∀b,K b→W'.heap[b]? =W.heap[b]?
theorem ff.mono{S S':Nat→Prop}{W W':World}(h:ff S W W')(hs: ∀b,S b→S' b):ff S' W W':=⟨h.os,h.tape,h.output,h.size,λb hb hn=>h.same b hb (λe=>hn (hs b e))⟩
theorem ff.alloc(S:Nat→Prop)(W:World)(o:Obj):ff S W (W.alloc o):=
 ⟨rfl,rfl,rfl,by simp,λb hb _=>Below.heap_alloc W o b hb⟩
theorem ff.putObj{S:Nat→Prop}(W:World){l:Nat}(hl:S l)(o:Obj):ff S W (W.putObj l o):=
 ⟨(grownBy_putObj' W l o).os,(grownBy_putObj' W l o).tape,(grownBy_putObj' W l o).output,(grownBy_putObj' W l o).size,λb hb hn=>(grownBy_putObj' W l o).block b hb (λe=>by cases e;exact hn hl)⟩
theorem ff.heap{S:Nat→Prop}{W W':World}(h:ff S W W'){b:Nat}(hp: ¬S b){o:Obj}(hc:W.heap[b]? =some o):W'.heap[b]? =some o:=by
 have hlt:b<W.heap.size:=(Array.getElem?_eq_some_iff.1 hc).1
 exact(h.same _ hlt hp).trans hc
structure Zg (K O O':Nat→Prop) (W W':World):Prop where
 size:W.heap.size≤W'.heap.size
 old: ∀b,b<W.heap.size→O' b→O b
 new: ∀b,O' b→b<W'.heap.size
 cells: ∀b o,O' b→W'.heap[b]? =some o→o.isCells=false→∃o':Obj,W.heap[b]? =some o'∧o'.isCells=false
 keep: ∀b,b<W.heap.size→(¬O b∨K b)→W'.heap[b]? =W.heap[b]?
def gU(J:Nat→(Nat→Prop)→World→Prop):Prop:=∀i O W W',J i O W→ff (λb=>¬O b) W W'→J i O W'
end Go.Proofs.YtbcodenfkijdnaaGreat
namespace Go.Proofs.YtbcodenfkijdnaaGreat
open Go Go.RowKit Go.Shelf
structure Zh (g0:Nat) (O:Nat→Prop) (W:World):Prop where
 non: ¬O g0
 lt: ∀b,O b→b<W.heap.size
 cells: ∀b o,g0≤b→O b→W.heap[b]? =some o→o.isCells=true
end Go.Proofs.YtbcodenfkijdnaaGreat
namespace Go.Proofs.YtbcodenfkijdnaaGreat
open Go Go.RowKit

end Go.Proofs.YtbcodenfkijdnaaGreat
namespace Go.Proofs.YtbcodenfkijdnaaGreat
open Go
section
variable {F:Fence} {n:Nat} {P:Program} {ops:Array Oper} {md:Region.Mode} {C:World→Prop}
def mG(o:Oper):Bool:=match o.op with | .defer _=>false | _=>true
theorem A6{o:Oper}(h:mG o=true): ∀c,o.op≠ .defer c:=by
 intro c hc
 unfold mG at h
 rw[hc] at h
 exact Bool.noConfusion (show false=true from h)
end
end Go.Proofs.YtbcodenfkijdnaaGreat
namespace Go.Proofs.YtbcodenfkijdnaaGreat
open Go
open Bool renaming or_eq_true→dZ
section
variable {F:Fence} {n:Nat} {P:Program} {md:Region.Mode} {C:World→Prop}
def nb(md:Region.Mode)(ops:Array Oper)(N:Nat):Bool:=
 (List.range ops.size).all λt=>decide (t<N)||((ops[t]?).map (·.after.all λe=> !Region.binds md e||decide (e.on<t))).getD false
theorem w8{ops:Array Oper}{N:Nat}{Q:Exit→Act→World→Prop}(hc:Region.chainB md ops N=true)(hb:nb md ops N=true): ∀(r k fuel:Nat) (listed:Array Bool) (a:Act) (w:World),
  ops.size=k+r→N≤k→r≤fuel→listed.size=ops.size→(∀i,i<k→listed.getD i true=true)→(∀i,i<k→listed.getD i false=true)→(∀i,k≤i→i<ops.size→listed.getD i true=false)→
  wpListIn F n P ops Q (ops.toList.drop k) a w→wpAnyIn F n P md ops Q fuel listed a w
 | 0,k,fuel,listed,a,w,hr,hN,hf,hsz,hl,hl2,hu,h=>by
  have hnone:Region.ready md ops listed=[]:=by
   apply List.eq_nil_iff_forall_not_mem.2
   intro j hj
   obtain⟨h1,o,ho,_⟩:=mem_ready.1 hj
   have hjlt:j<ops.size:=(Array.getElem?_eq_some_iff.1 ho).1
   rw[hl j Om] at h1;cases h1
  have hd:ops.toList.drop k=[]:=List.drop_eq_nil_iff.2 (by rw[Array.length_toList];omega)
  rw[hd] at h
  cases fuel with
  | zero=>exact⟨hnone,h⟩
  | succ f=>exact⟨λ_=>h,λi hi=>by rw[hnone] at hi;cases hi⟩
 | r+1,k,fuel,listed,a,w,hr,hN,hf,hsz,hl,hl2,hu,h=>by
  obtain⟨f,rfl⟩: ∃f,fuel=f+1:=⟨fuel-1,by omega⟩
  have hk:k<ops.size:=by omega
  have hkt:k<ops.toList.length:=by rw[Array.length_toList];exact hk
  rw[List.drop_eq_getElem_cons hkt] at h
  have hok:ops[k]? =some ops.toList[k]:=by rw[Array.getElem?_eq_getElem hk,Array.getElem_toList]
  have hB:=List.all_eq_true.1 hb k (List.mem_range.2 hk)
  rw[hok] at hB
  simp only[dZ,decide_eq_true_eq,Option.map_some,Option.getD_some] at hB
  have hback: ∀e∈ops.toList[k].after,Region.binds md e=true→e.on<k:=by
   intro e he hbd
   rcases hB with h1 | h1
   ·omega
   ·have h2:=Array.all_eq_true'.1 h1 e he
    rw[hbd] at h2
    simpa using h2
  have hin:k∈Region.ready md ops listed:=mem_ready.2 ⟨hu k (Nat.le_refl _) hk,_,hok,λe he hbd=>hl2 _ (hback e he hbd)⟩
  refine⟨λh0=>(by rw[h0] at hin;cases hin),λj hj=>?_⟩
  obtain⟨h1,o,ho,hall⟩:=mem_ready.1 hj
  have hjlt:j<ops.size:=(Array.getElem?_eq_some_iff.1 ho).1
  have hjk:j=k:=by
   rcases Nat.lt_trichotomy j k with h2 | h2 | h2
   ·rw[hl j h2] at h1;cases h1
   ·exact h2
   ·exfalso
    have h3:=List.all_eq_true.1 hc j (List.mem_range.2 hjlt)
    simp only[dZ,decide_eq_true_eq] at h3
    rcases h3 with h3 | h3
    ·omega
    ·obtain⟨o',ho',e,he,hbd,hon⟩:=Region.waitsFor_spec h3
     have:o'=o:=Option.some.inj (ho'.symm.trans ho)
     subst this
     have h4:=hall e he hbd
     rw[hon,getD_both (hu (j-1) Om Om)] at h4
     cases h4
  subst hjk
  unfold wpOpIn
  simp only[hok]
  have next: ∀a' w',wpListIn F n P ops Q (ops.toList.drop (j+1)) a' w'→wpAnyIn F n P md ops Q f (listed.setIfInBounds j true) a' w':=λa' w' h'=>by
   refine w8 hc hb r (j+1) f _ a' w' Om Om Om (by simp [hsz]) ?_ ?_ ?_ h'
   ·intro i hi
    by_cases hij:i=j
    ·subst hij;simp [hsz,hk]
    ·rw[getD_set_ne true Om];exact hl i Om
   ·intro i hi
    by_cases hij:i=j
    ·subst hij;simp [hsz,hk]
    ·rw[getD_set_ne false Om];exact hl2 i Om
   ·intro i hi hi2
    rw[getD_set_ne true Om];exact hu i Om hi2
  simp only[wpListIn] at h
  split
  ·rename_i hw;simp only[hw,if_true] at h;exact Oper.wpIn_mono next h
  ·rename_i hw;simp only[hw] at h;exact⟨h.1,next _ _ h.2⟩
end
end Go.Proofs.YtbcodenfkijdnaaGreat
namespace Go.Proofs.YtbcodenfkijdnaaGreat
open Go Go.RowKit Go.Shelf
open Bool renaming and_eq_true→dZ
open Nat renaming lt_or_ge→eF
open Option renaming bind_some→ir
open List renaming length_cons→jg
open Go.Sem renaming run_bind→jh
def bt(xs:Nat→Value):List Oper→Nat→Act→Act
 | [],_,a=>a
 | o::os,k,a=>bt xs os (k+1) (a.put o.dst (xs k))
def tZ(x y:Option Tmp):Bool:=match x,y with | some a,some b=>a != b | _,_=>true
def mH:List Oper→Bool
 | []=>true
 | o::os=>(os.all λp=>tZ o.dst p.dst)&&mH os
theorem Iz{x y:Option Tmp}(h:tZ x y=true): ∀d,x=some d→y≠some d:=by
 rintro d rfl rfl
 simp [tZ] at h
theorem IA(a:Act)(x:Option Tmp)(v u:Value):(a.put x v).put x u=a.put x u:=by
 cases x with
 | none=>rfl
 | some d=>simp [Act.put]
theorem xa{xs ys:Nat→Value}: ∀(l:List Oper) (k:Nat) (a:Act),(∀j,k≤j→j<k+l.length→xs j=ys j)→bt xs l k a=bt ys l k a
 | [],_,_,_=>rfl
 | o::os,k,a,h=>by
  unfold bt
  rw[h k (Nat.le_refl _) (by rw[jg];omega)]
  exact xa os (k+1) _ λj h1 h2=>h j Om (by rw[jg];omega)
theorem A7{xs:Nat→Value}(x:Option Tmp)(v:Value): ∀(l:List Oper) (k:Nat) (a:Act),(l.all λp=>tZ x p.dst)=true→(bt xs l k a).put x v=bt xs l k (a.put x v)
 | [],_,_,_=>rfl
 | o::os,k,a,h=>by
  simp only[List.all_cons,dZ] at h
  unfold bt
  rw[A7 x v os (k+1) _ h.2,Act.put_comm a v (xs k) (Iz h.1)]
theorem rq{xs:Nat→Value}(v:Value): ∀(l:List Oper) (k:Nat) (a:Act) (i:Nat) (o:Oper),mH l=true→l[i]? =some o→
  (bt xs l k a).put o.dst v=bt (λj=>if j=k+i then v else xs j) l k a
 | [],_,_,i,_,_,h=>by simp at h
 | p::os,k,a,0,o,hs,h=>by
  simp only[mH,dZ] at hs
  simp only[List.getElem?_cons_zero,Option.some.injEq] at h
  subst h
  unfold bt
  rw[A7 _ _ _ _ _ hs.1,IA,ALifp (show k=k+0 from rfl)]
  exact xa os (k+1) _ λj h1 _=>by rw[ALifn Om]
 | p::os,k,a,i+1,o,hs,h=>by
  simp only[mH,dZ] at hs
  rw[List.getElem?_cons_succ] at h
  unfold bt
  rw[rq v os (k+1) _ i o hs.2 h,ALifn Om]
  exact xa os (k+1) _ λj _ _=>by rw[show k+1+i=k+(i+1) by omega]
def kc(l:List Oper)(a:Act)(j:Nat):Value:=match (l[j]?).bind (·.dst) with | some d=>a.tmps.getD d undef | none=>undef
theorem IB(a:Act)(x:Option Tmp)(v:Value)(h: ∀d,x=some d→a.tmps.getD d undef=v):a.put x v=a:=by
 cases x with
 | none=>rfl
 | some d=>
  have:=h d rfl
  subst this
  have e:a.tmps.setIfInBounds d (a.tmps.getD d undef)=a.tmps:=by
   rcases eF d a.tmps.size with h | h
   ·apply Array.ext_getElem?
    intro i
    rw[Array.getElem?_setIfInBounds]
    split
    ·rename_i e;subst e
     simp [h]
    ·rfl
   ·exact Array.setIfInBounds_eq_of_size_le h
  show({a with tmps:=a.tmps.setIfInBounds d (a.tmps.getD d undef)}:Act)=a
  rw[e]
theorem xb{xs:Nat→Value}: ∀(l:List Oper) (k:Nat) (a:Act),(∀i o d,l[i]? =some o→o.dst=some d→xs (k+i)=a.tmps.getD d undef)→bt xs l k a=a
 | [],_,_,_=>rfl
 | o::os,k,a,h=>by
  unfold bt
  rw[IB a o.dst (xs k) (λd hd=>(h 0 o d rfl hd).symm)]
  exact xb os (k+1) a λi p d hp hd=>by rw[←h (i+1) p d (by simpa using hp) hd];congr 1;omega
def t3(md:Region.Mode)(ops:Array Oper)(N:Nat)(D:Nat→List Nat):Bool:=
 (List.range N).all λi=>(D i).all λj=>decide (j<N)&&((ops[i]?).map λo=>o.after.any λe=>Region.binds md e&&(e.on==j||(decide (e.on<N)&&(D e.on).contains j))).getD false
def ij(listed:Array Bool):Nat→Nat
 | 0=>0
 | k+1=>ij listed k+if listed.getD k true=true then 0 else 1
theorem A8{listed:Array Bool}{i:Nat}: ∀k,k≤i→ij (listed.setIfInBounds i true) k=ij listed k
 | 0,_=>rfl
 | k+1,h=>by
  unfold ij
  rw[A8 k Om,getD_set_ne true Om]
theorem xd{listed:Array Bool}{i:Nat}(hi:listed.getD i true=false): ∀k,i<k→ij (listed.setIfInBounds i true) k+1=ij listed k
 | 0,h=>by omega
 | k+1,h=>by
  unfold ij
  by_cases e:i=k
  ·subst e
   have hs:(listed.setIfInBounds i true).getD i true=true:=by
    rcases eF i listed.size with h' | h'
    ·simp [h']
    ·simp [Array.getElem?_eq_none h'] at hi
   rw[A8 i (Nat.le_refl _),hi,hs]
   simp
  ·rw[getD_set_ne true e,←xd hi k Om]
   omega
theorem xe{listed:Array Bool}: ∀k,ij listed k=0→∀i,i<k→listed.getD i true=true
 | 0,_,_,hi=>by omega
 | k+1,h,i,hi=>by
  unfold ij at h
  by_cases e:i=k
  ·subst e
   by_cases hl:listed.getD i true=true
   ·exact hl
   ·rw[ALifn hl] at h;omega
  ·exact xe k Om i Om
section
variable {F:Fence} {n:Nat} {P:Program}
structure Zi (F:Fence) (n:Nat) (P:Program) (L:List Oper) (N:Nat) (Q:Exit→Act→World→Prop) (V:Nat→Value→World→Prop) (R:World→World→Prop) (D:Nat→List Nat) (a:Act) (w:World) (k:Nat) (o:Oper):Prop where
 out: ∀(xs:Nat→Value) (w':World),(∀j∈D k,V j (xs j) w')→R w w'→∀K:Value→World→Prop,(∀v w'',V k v w''→R w' w''→K v w'')→
  if Region.wanted o (yielded L.toArray (bt xs (L.take N) 0 a).tmps)=true then o.wpIn F n P (bt xs (L.take N) 0 a) w' (λa'' w''=>∃v,a''=(bt xs (L.take N) 0 a).put o.dst v∧K v w'') Q
  else(∀f,o.about P w' (bt xs (L.take N) 0 a).eval=some f→F.fn f)∧K undef w'
def Fence.free(F:Fence):Prop:=F.depth=none∧∀f,F.fn f
theorem A9:Fence.free Fence.wide:=⟨rfl,λ_=>trivial⟩
theorem Ba(l:Nat):Fence.free (Fence.wide.inRound l):=⟨rfl,λ_=>trivial⟩
section
variable {L:List Oper} {N:Nat} {Q:Exit→Act→World→Prop} {V:Nat→Value→World→Prop} {R:World→World→Prop} {D:Nat→List Nat} {a:Act} {w:World} {k:Nat} {o:Oper}
structure Zj (L:List Oper) (N:Nat) (V:Nat→Value→World→Prop) (R:World→World→Prop) (D:Nat→List Nat) (a:Act) (w:World) (k:Nat) (o:Oper):Prop where
 out: ∀(xs:Nat→Value) (w':World),(∀j∈D k,V j (xs j) w')→R w w'→Region.wanted o (yielded L.toArray (bt xs (L.take N) 0 a).tmps)=true
end
end
def fT(t:Nat):List Oper→Nat→Option Nat
 | [],_=>none
 | o::os,k=>match fT t os (k+1) with
  | some i=>some i
  | none=>match o.dst with
   | some d=>if d==t then some k else none
   | none=>none
theorem IC(a:Act)(x:Option Tmp)(v:Value)(t:Nat):(a.put x v).eval (.tmp t)=if x=some t then(if t<a.tmps.size then v else undef) else a.eval (.tmp t):=by
 cases x with
 | none=>rfl
 | some d=>
  by_cases e:d=t
  ·subst e
   rw[ALifp rfl]
   by_cases h:d<a.tmps.size
   ·simp [Act.put,Act.eval,h]
   ·rw[ALifn h]
    simp [Act.put,Act.eval]
    exact λh'=>absurd h' h
  ·rw[ALifn (λh=>e (Option.some.inj h))]
   simp [Act.put,Act.eval,Array.getElem?_setIfInBounds_ne e]
theorem xf(a:Act)(x:Option Tmp)(v:Value):(a.put x v).tmps.size=a.tmps.size:=by cases x<;>simp [Act.put]
theorem t4{xs:Nat→Value}(t:Nat): ∀(l:List Oper) (k:Nat) (a:Act),(bt xs l k a).eval (.tmp t)=match fT t l k with
  | some i=>if t<a.tmps.size then xs i else undef
  | none=>a.eval (.tmp t)
 | [],_,_=>rfl
 | o::os,k,a=>by
  unfold bt fT
  rw[t4 t os (k+1) _,xf]
  cases h:fT t os (k+1) with
  | some i=>rfl
  | none=>
   simp only
   rw[IC]
   cases hd:o.dst with
   | none=>rfl
   | some d=>
    by_cases e:d=t
    ·subst e;simp
    ·rw[ALifn (λh=>e (Option.some.inj h))]
     have:(d==t)=false:=by simpa using e
     simp [this]
theorem Bb{xs:Nat→Value}{l:List Oper}{a:Act}{t i:Nat}(h:fT t l 0=some i)(ht:Nat.blt t a.tmps.size=true):(bt xs l 0 a).eval (.tmp t)=xs i:=by
 rw[t4,h]
 exact ALifp (Nat.blt_eq▸ht)
theorem ID{L:List Oper}{N:Nat}{a:Act}{xs:Nat→Value}{o:Oper}{j d:Nat}{b b':Bool}(hg:o.guard=some (j,b))(hd:(L.toArray[j]?).bind (·.dst)=some d)(hw:fT d (L.take N) 0=some j)(hs:Nat.blt d a.tmps.size=true)(hv:xs j= .bool b'):
  Region.wanted o (yielded L.toArray (bt xs (L.take N) 0 a).tmps)=(b'==b):=by
 have he:=Bb (xs:=xs) (a:=a) hw hs
 rw[hv] at he
 have hsz:d<(bt xs (L.take N) 0 a).tmps.size:=by
  rcases eF d (bt xs (L.take N) 0 a).tmps.size with h | h
  ·exact h
  ·exfalso
   have he':(bt xs (L.take N) 0 a).tmps.getD d undef= .bool b':=he
   rw[Array.getD_eq_getD_getElem?,Array.getElem?_eq_none h] at he'
   cases he'
 have he':(bt xs (L.take N) 0 a).tmps.getD d undef= .bool b':=he
 rw[Array.getD_eq_getD_getElem?,Array.getElem?_eq_getElem hsz] at he'
 have he2:(bt xs (L.take N) 0 a).tmps[d]= .bool b':=he'
 unfold Region.wanted yielded
 rw[hg]
 simp only[hd,ir,Array.getElem?_eq_getElem hsz,he2]
 cases b<;>cases b'<;>rfl
theorem IE{L:List Oper}{N:Nat}{a:Act}{xs:Nat→Value}{o:Oper}{j d:Nat}{b:Bool}(hg:o.guard=some (j,b))(hd:(L.toArray[j]?).bind (·.dst)=some d)(hw:fT d (L.take N) 0=some j)(hs:Nat.blt d a.tmps.size=true)(hv:xs j=undef):
  Region.wanted o (yielded L.toArray (bt xs (L.take N) 0 a).tmps)=false:=by
 have he:=Bb (xs:=xs) (a:=a) hw hs
 rw[hv] at he
 have he':(bt xs (L.take N) 0 a).tmps.getD d undef=undef:=he
 unfold Region.wanted yielded
 rw[hg]
 simp only[hd,ir]
 rcases eF d (bt xs (L.take N) 0 a).tmps.size with h | h
 ·rw[Array.getD_eq_getD_getElem?,Array.getElem?_eq_getElem h] at he'
  have he2:(bt xs (L.take N) 0 a).tmps[d]=undef:=he'
  rw[Array.getElem?_eq_getElem h,he2]
  rfl
 ·rw[Array.getElem?_eq_none h]
  rfl
section
variable {P:Program} {ρ:Operand→Value} {o:Oper} {w w':World}
theorem p7{c x y:Operand}{b:Bool}{v:Value}(ho:o.op= .pick c x y)(hc:ρ c= .bool b)(hv:(if b then ρ x else ρ y)=v):(execOp ρ o).run P w= .ok (.value v) w:=by
 unfold execOp
 subst hv
 cases b<;>simp [ho,hc,asBool]
end
section
variable {P:Program} {T:TypeId} {x y:Operand} {k:IntKind} {a b:Int} {w:World}
end
theorem Bc{P:Program}(w:World)(g off:Nat)(t ty:TypeId)(cs:Array Value)(l:List Value){d:TypeDesc}(hg:w.heap[g]? =some (.cells cs t (0,0)))(hl:(cs.toList.drop off).take l.length=l)
  (hu:P.underlying ty=some d) (hd:(match d with | .struct _ | .array _ _=>true | _=>false)=true) (hi:(P.info? ty).map (·.size)=some l.length):(loadVar ty ⟨g,off,none⟩).run P w= .ok (.agg l.toArray) w:=by
 have hc:(loadCells ⟨g,off,none⟩ l.length).run P w= .ok l.toArray w:=
  run_loadCells_list (P:=P) w ⟨g,off,none⟩ l (λj v hv=>by
   have hadd:(⟨g,off,none⟩:Addr).add j=⟨g,off+j,none⟩:=by unfold Addr.add;split<;>simp_all
   rw[hadd,cell_of_row w g (off+j) cs t (0,0) hg]
   have hj:j<l.length:=(List.getElem?_eq_some_iff.1 hv).1
   have h2:=ALca (λz=>z[j]?) hl
   simp only[List.getElem?_take_of_lt hj,List.getElem?_drop] at h2
   rw[←Array.getElem?_toList,h2]
   exact hv)
 cases hq:P.info? ty with
 | none=>simp [hq] at hi
 | some i=>
  have hs:i.size=l.length:=by simpa [hq] using hi
  have hagg:(isAgg ty).run P w= .ok true w:=by
   unfold isAgg
   rw[jh,run_underlying hu w]
   cases d<;>simp_all
  simp [loadVar,jh,hagg,sizeOf,typeInfo,hq,hs,hc]
inductive Zx (R:World→World→Prop):List (Value→World→Prop)→Prop
 | nil:Zx R []
 | const {l:List (Value→World→Prop)} (c:Value) (h:Zx R l):Zx R ((λv _=>v=c)::l)
 | cons {l:List (Value→World→Prop)} {p:Value→World→Prop} (hp: ∀v x y,p v x→R x y→p v y) (h:Zx R l):Zx R (p::l)
end Go.Proofs.YtbcodenfkijdnaaGreat
namespace Go.Proofs.YtbcodenfkijdnaaGreat
open Go Go.RowKit
abbrev aw:=List (Nat×Obj)
structure Zk (B:Nat) (base:World) (L:aw) (W:World):Prop where
 obj: ∀x∈L,W.heap[x.1]? =some x.2
 nd:L.Pairwise (λx y=>x.1≠y.1)
 lo: ∀x∈L,B≤x.1
 os:W.os=base.os
 tape:W.tape=base.tape
 output:W.output=base.output
 size:base.heap.size≤W.heap.size
 far: ∀b,b<base.heap.size→(∀x∈L,x.1≠b)→W.heap[b]? =base.heap[b]?
section
variable {B:Nat} {base W W':World} {L L':aw}
end
class Bd (F:Fence):Prop where
 out:Fence.free F
instance:Bd Fence.wide:=⟨A9⟩
instance (l:Nat):Bd (Fence.wide.inRound l):=⟨Ba l⟩
section
variable {F:Fence} {n:Nat} {P:Program} {ops:Array Oper} {Q:Exit→Act→World→Prop} {a:Act} {W W':World} {rest:List Oper} {o:Oper} {B G:Nat} {base:World} {L:aw}
theorem ru{w:World}{T:TypeId}{p:Addr}{v:Value}(hna:(isAgg T).run P w= .ok false w)(hc:w.cell? p=some v):(loadVar T p).run P w= .ok v w:=by
 unfold loadVar
 rw[Sem.run_bind,hna,Result.andThen_ok]
 simp [hc]
end
end Go.Proofs.YtbcodenfkijdnaaGreat
namespace Go.Proofs.YtbcodenfkijdnaaGreat
open Go Go.RowKit Go.Shelf
section
variable {B:Nat} {base W W':World} {L L':aw}
end
abbrev ke(D:Nat):Deferred:={target:= .collected D,args:=#[]}
abbrev dX(D:Nat):Nat×Obj:=(D,.deferred (some []))
theorem IF{P:Program}{t e:TypeId}{n:Nat}{cs:Array Value}{k:IntKind}{i:Nat}{v:Value}{w:World}(h:P.underlying t=some (.array n e))(hi:i<n)(hna: ∀w,(isAgg e).run P w= .ok false w)(hsz:(P.info? e).map (·.size)=some 1)(hv:cs[i]? =some v):
  (Instr.index t (.agg cs) (.int k (i:Int))).run P w= .ok v w:=by
 cases hq:P.info? e with
 | none=>simp [hq] at hsz
 | some inf=>
  have hs:inf.size=1:=by simpa [hq] using hsz
  unfold Instr.index
  simp [asIntOf,Sem.run_bind,run_underlying h,sizeOf,typeInfo,hq,hs,part,hna,hv,hi]
end Go.Proofs.YtbcodenfkijdnaaGreat
namespace Go.Proofs.YtbcodenfkijdnaaGreat
open Go Go.RowKit

section
variable {F:Fence} {n:Nat} {P:Program} {ops:Array Oper} {Q:Exit→Act→World→Prop} {a:Act} {W W':World} {rest:List Oper} {o:Oper} {B G:Nat} {base:World} {L:aw}
end
section
variable {P:Program} {w:World} {o:Oper} {ρ:Operand→Value}
end
section
variable {F:Fence} {n:Nat} {P:Program} {ops:Array Oper} {Q:Exit→Act→World→Prop} {a:Act} {W:World} {rest:List Oper} {o:Oper}
end
end Go.Proofs.YtbcodenfkijdnaaGreat
namespace Go.Proofs.YtbcodenfkijdnaaGreat
open Go Go.RowKit
section
variable {P:Program} {T:TypeId} {x y:Operand} {a b:Int} {w:World}
theorem rv(h0: -9223372036854775808≤a+b)(h1:a+b≤9223372036854775807):(do eqGuard .add T x y (.int .i64 a) (.int .i64 b);Go.binOp .add T (.int .i64 a) (.int .i64 b):Sem Value).run P w= .ok (.int .i64 (a+b)) w:=by
 simp [eqGuard,Go.binOp,Op.intArith,IntWalk.i64_in _ (And.intro h0 h1)]
theorem rx(h0: -9223372036854775808≤a-b)(h1:a-b≤9223372036854775807):(do eqGuard .sub T x y (.int .i64 a) (.int .i64 b);Go.binOp .sub T (.int .i64 a) (.int .i64 b):Sem Value).run P w= .ok (.int .i64 (a-b)) w:=by
 simp [eqGuard,Go.binOp,Op.intArith,IntWalk.i64_in _ (And.intro h0 h1)]
theorem IG(h0: -9223372036854775808≤a*b)(h1:a*b≤9223372036854775807):(do eqGuard .mul T x y (.int .i64 a) (.int .i64 b);Go.binOp .mul T (.int .i64 a) (.int .i64 b):Sem Value).run P w= .ok (.int .i64 (a*b)) w:=by
 simp [eqGuard,Go.binOp,Op.intArith,IntWalk.i64_in _ (And.intro h0 h1)]
end
section
variable {P:Program} {d:Nat} {xs ys:Array Value} {f:Field} {fs:List Field} {w:World} {r e:Bool} {a b:Int}
end
section
variable {P:Program} {w:World} {o:Oper} {ρ:Operand→Value}
def aO(x:Int):UInt8:=UInt8.ofNat (x%256).toNat
theorem IH(x:Int):((aO x).toNat:Int)=x%256:=by
 unfold aO
 rw[UInt8.toNat_ofNat']
 omega
theorem oY{S T:TypeId}(hS:P.underlying S=some (.int .i64))(hT:P.underlying T=some (.int .u8)){x:Int}:(convert S T (.int .i64 x)).run P w= .ok (.int .u8 ((aO x).toNat:Int)) w:=by
 rw[IH]
 simp [convert,run_underlying hS,run_underlying hT,Sem.run_bind,Conv.intToInt,IntKind.wrap,IntKind.bits,IntKind.signed]
end
end Go.Proofs.YtbcodenfkijdnaaGreat
namespace Go.Proofs.YtbcodenfkijdnaaGreat
open Go Go.RowKit
structure Zl (g:Nat) (ws:List (Nat×Value)) (x y:World):Prop where
 os:y.os=x.os
 tape:y.tape=x.tape
 output:y.output=x.output
 size:x.heap.size≤y.heap.size
 far: ∀b,b<x.heap.size→b≠g→y.heap[b]? =x.heap[b]?
 ch: ∀t cs,x.heap[g]? =some (.cells cs t (0,0))→∃cs',y.heap[g]? =some (.cells cs' t (0,0))∧cs'.size=cs.size∧∀i:Nat,cs'[i]? =cs[i]?∨∃v,(i,v)∈ws∧cs'[i]? =some v
section
variable {g:Nat} {ws:List (Nat×Value)} {x y z w w' W W':World} {B:Nat} {base:World} {L L':aw}
end
section
variable {F:Fence} {n:Nat} {P:Program} {L:List Oper} {N:Nat} {Q:Exit→Act→World→Prop} {V:Nat→Value→World→Prop} {D:Nat→List Nat} {a:Act} {w:World} {k:Nat} {o:Oper} {g:Nat} {ws:List (Nat×Value)}
end
end Go.Proofs.YtbcodenfkijdnaaGreat
namespace Go.Proofs.YtbcodenfkijdnaaGreat
open Go Go.RowKit
section
variable {xs:Nat→Value} {l:List Oper} {a:Act} {t:Nat} {v:Value}
variable {P:Program} {W w':World} {B:Nat} {base:World} {L:aw} {g off:Nat} {T ty:TypeId} {cs:Array Value}
end
end Go.Proofs.YtbcodenfkijdnaaGreat
namespace Go.Proofs.YtbcodenfkijdnaaGreat.E
open Go Go.RowKit Go.Shelf
open List renaming pairwise_flatMap→dZ,getElem_of_mem→eF
open Nat renaming le_trans→ir
structure ab where
 abd:Nat→Nat
 num:Nat→Nat
 val:Nat→Value
def ab.zero:ab:=⟨λ_=>0,λ_=>0,λ_=>undef⟩
abbrev bI:=Nat→ab
abbrev B0(q:bI):Nat:=(q 0).abd 0
abbrev B1(q:bI):Nat:=(q 1).abd 0
abbrev B2(q:bI):Nat:=(q 2).abd 0
abbrev B3(q:bI):Nat:=(q 3).abd 0
abbrev B4(q:bI):Nat:=(q 4).abd 0
abbrev B5(q:bI):Nat:=(q 5).abd 0
abbrev B6(q:bI):Nat:=(q 6).abd 0
abbrev B7(q:bI):Nat:=(q 7).abd 0
inductive az where
 | c (bs:aw)
 | p (P:aw→Prop)
abbrev ah:=List az
abbrev ob(g:Nat)(cs:Array Value)(t:TypeId):az:= .c [(g,.cells cs t (0,0))]
def az.sat:az→aw→Prop
 | .c l,bs=>bs=l
 | .p P,bs=>P bs
abbrev cx:=Nat→Option az
abbrev Wr:=List (Nat×az)
abbrev gJ:=Nat→aw
abbrev bN(l:aw):List Nat:=l.map (·.1)
structure li (R:List Nat) (base:World) (m:Nat) (f:cx) (c:gJ) (W:World):Prop where
 sat: ∀p,p<m→∀x,f p=some x→x.sat (c p)
 nil: ∀p,p<m→f p=Option.none→c p=[]
 obj: ∀p,p<m→∀z∈c p,W.heap[z.1]? =some z.2
 inn: ∀p,p<m→(c p).Pairwise (λx y=>x.1≠y.1)
 nd: ∀p q,p<m→q<m→p≠q→∀z∈c p,∀u∈c q,z.1≠u.1
 lo: ∀p,p<m→∀z∈c p,z.1∈R∨base.heap.size≤z.1
 os:W.os=base.os
 tape:W.tape=base.tape
 output:W.output=base.output
 size:base.heap.size≤W.heap.size
 far: ∀b,b<base.heap.size→b∉R→W.heap[b]? =base.heap[b]?
def aD(R:List Nat)(base:World)(L:ah)(W:World):Prop:=∃c,li R base L.length (λp=>L[p]?) c W
structure bc (O:List Nat) (N:aw) (W W':World):Prop where
 os:W'.os=W.os
 tape:W'.tape=W.tape
 output:W'.output=W.output
 size:W.heap.size≤W'.heap.size
 obj: ∀x∈N,W'.heap[x.1]? =some x.2
 new: ∀x∈N,x.1∈O∨W.heap.size≤x.1
 nd:N.Pairwise (λx y=>x.1≠y.1)
 far: ∀b,b<W.heap.size→b∉O→W'.heap[b]? =W.heap[b]?
structure Has (R:aw) (W:World):Prop where
 obj: ∀x∈R,W.heap[x.1]? =some x.2
 nd:R.Pairwise (λx y=>x.1≠y.1)
structure mI (rd:Wr) (c:gJ) (w:World):Prop where
 sat: ∀x∈rd,x.2.sat (c x.1)
 has:Has (rd.flatMap λx=>c x.1) w
def cO:Wr→Nat→Option az
 | [],_=>none
 | (q,x)::r,p=>if q=p then some x else cO r p
theorem ry: ∀{w:Wr} {p:Nat} {x:az},cO w p=some x→(p,x)∈w
 | (q,y)::r,p,x,h=>by
  unfold cO at h
  split at h
  ·rename_i e
   subst e
   cases h
   exact List.mem_cons_self ..
  ·exact List.mem_cons_of_mem _ (ry h)
theorem Be: ∀{w:Wr} {p:Nat},cO w p=none→∀x,(p,x)∉w
 | [],_,_,_,h=>by simp at h
 | (q,y)::r,p,h,x,hm=>by
  unfold cO at h
  split at h
  ·cases h
  ·rename_i e
   rcases List.mem_cons.1 hm with e2 | hm
   ·cases e2;exact e rfl
   ·exact Be h x hm
def l7(f:cx)(w:Wr):cx:=λp=>match cO w p with | some x=>some x | none=>f p
def oZ(c:gJ)(w:Wr)(d:gJ):gJ:=λp=>match cO w p with | some _=>d p | none=>c p
section
variable {m:Nat} {R:List Nat} {base W W':World} {f:cx} {c d:gJ}
theorem li.lt(h:li R base m f c W){p:Nat}(hp:p<m){z:Nat×Obj}(hz:z∈c p):z.1<W.heap.size:=(Array.getElem?_eq_some_iff.1 (h.obj p hp z hz)).1
theorem II{v:Wr}(h:(v.flatMap λx=>d x.1).Pairwise (λx y=>x.1≠y.1)){p q:Nat}{x y:az}(hp:(p,x)∈v)(hq:(q,y)∈v)(hne:p≠q): ∀z∈d p,∀u∈d q,z.1≠u.1:=by
 intro z hz u hu
 rw[dZ] at h
 obtain⟨i,hi,ei⟩:=eF hp
 obtain⟨j,hj,ej⟩:=eF hq
 have hij:i≠j:=λe=>by
  subst e
  rw[ei] at ej
  cases ej
  exact hne rfl
 have hp:=List.pairwise_iff_getElem.1 h.2
 rcases Nat.lt_or_gt_of_ne hij with l | l
 ·have:=hp i j hi hj l
  rw[ei,ej] at this
  exact this z hz u hu
 ·have:=hp j i hj hi l
  rw[ei,ej] at this
  exact Ne.symm (this u hu z hz)
theorem IJ{v:Wr}(h:(v.flatMap λx=>d x.1).Pairwise (λx y=>x.1≠y.1)){p:Nat}{x:az}(hp:(p,x)∈v):(d p).Pairwise (λx y=>x.1≠y.1):=by
 rw[dZ] at h
 exact h.1 (p,x) hp
theorem li.step(h:li R base m f c W){O:List Nat}{v:Wr}(hsat: ∀x∈v,x.2.sat (d x.1))(hs:bc O (v.flatMap λx=>d x.1) W W')(hO: ∀b∈O,∃p,p<m∧(∃x,(p,x)∈v)∧∃z∈c p,z.1=b):li R base m (l7 f v) (oZ c v d) W':=by
 have cas: ∀p,((∃x,cO v p=some x∧(p,x)∈v)∧oZ c v d p=d p)∨(cO v p=none∧(∀y,(p,y)∉v)∧oZ c v d p=c p∧l7 f v p=f p):=by
  intro p
  cases hl:cO v p with
  | some x=>exact .inl ⟨⟨x,rfl,ry hl⟩,by unfold oZ;rw[hl]⟩
  | none=>exact .inr ⟨rfl,λy hm=>Be hl y hm,by unfold oZ;rw[hl],by unfold l7;rw[hl]⟩
 have neO: ∀{q:Nat},q<m→(∀z,(q,z)∉v)→∀y∈c q,y.1∉O:=by
  intro q hq hn y hy hm
  obtain⟨p,hp,⟨x,hx⟩,z,hz,e⟩:=hO _ hm
  have hpq:p≠q:=λe=>by subst e;exact hn _ hx
  exact h.nd p q hp hq hpq z hz y hy e
 have inN: ∀{p:Nat} {x:az},(p,x)∈v→∀z∈d p,z∈v.flatMap λx=>d x.1:=λ{p x} hm z hz=>List.mem_flatMap.2 ⟨(p,x),hm,hz⟩
 have one: ∀p q,p<m→q<m→∀x,(p,x)∈v→(∀z,(q,z)∉v)→∀z∈d p,∀u∈c q,z.1≠u.1:=by
  intro p q hp hq x hx hn z hz u hu e
  rcases hs.new z (inN hx z hz) with h1 | h1
  ·rw[e] at h1
   exact neO hq hn u hu h1
  ·have:=h.lt hq hu
   omega
 refine⟨?_,?_,?_,?_,?_,?_,hs.os.trans h.os,hs.tape.trans h.tape,hs.output.trans h.output,ir h.size hs.size,?_⟩
 ·intro p hp x hx
  rcases cas p with⟨⟨y,hl,hm⟩,e⟩ | ⟨hl,hn,e,e2⟩
  ·unfold l7 at hx
   rw[hl] at hx
   cases hx
   rw[e]
   exact hsat _ hm
  ·rw[e]
   rw[e2] at hx
   exact h.sat p hp x hx
 ·intro p hp hx
  rcases cas p with⟨⟨y,hl,hm⟩,e⟩ | ⟨hl,hn,e,e2⟩
  ·unfold l7 at hx
   rw[hl] at hx
   cases hx
  ·rw[e]
   rw[e2] at hx
   exact h.nil p hp hx
 ·intro p hp z hz
  rcases cas p with⟨⟨y,hl,hm⟩,e⟩ | ⟨hl,hn,e,e2⟩
  ·rw[e] at hz
   exact hs.obj z (inN hm z hz)
  ·rw[e] at hz
   exact(hs.far _ (h.lt hp hz) (neO hp hn z hz)).trans (h.obj p hp z hz)
 ·intro p hp
  rcases cas p with⟨⟨y,hl,hm⟩,e⟩ | ⟨hl,hn,e,e2⟩
  ·rw[e];exact IJ hs.nd hm
  ·rw[e];exact h.inn p hp
 ·intro p q hp hq hne z hz u hu
  rcases cas p with⟨⟨y,hl,hm⟩,e⟩ | ⟨hl,hn,e,e2⟩
  ·rw[e] at hz
   rcases cas q with⟨⟨y',hl',hm'⟩,e'⟩ | ⟨hl',hn',e',e2'⟩
   ·rw[e'] at hu
    exact II hs.nd hm hm' hne z hz u hu
   ·rw[e'] at hu
    exact one p q hp hq y hm hn' z hz u hu
  ·rw[e] at hz
   rcases cas q with⟨⟨y',hl',hm'⟩,e'⟩ | ⟨hl',hn',e',e2'⟩
   ·rw[e'] at hu
    exact Ne.symm (one q p hq hp y' hm' hn u hu z hz)
   ·rw[e'] at hu
    exact h.nd p q hp hq hne z hz u hu
 ·intro p hp z hz
  rcases cas p with⟨⟨y,hl,hm⟩,e⟩ | ⟨hl,hn,e,e2⟩
  ·rw[e] at hz
   rcases hs.new z (inN hm z hz) with h3 | h3
   ·obtain⟨q,hq,_,u,hu,e3⟩:=hO _ h3
    rw[←e3]
    exact h.lo q hq u hu
   ·exact .inr (ir h.size h3)
  ·rw[e] at hz
   exact h.lo p hp z hz
 ·intro b hb hn
  refine(hs.far b (Nat.lt_of_lt_of_le hb h.size) λhm=>?_).trans (h.far b hb hn)
  obtain⟨q,hq,_,u,hu,e3⟩:=hO _ hm
  rcases h.lo q hq u hu with h1 | h1
  ·rw[e3] at h1;exact hn h1
  ·rw[e3] at h1;omega
theorem li.congr{f':cx}(h:li R base m f c W)(e: ∀p,p<m→f p=f' p):li R base m f' c W:=
 ⟨λp hp x hx=>h.sat p hp x ((e p hp).trans hx),λp hp hx=>h.nil p hp ((e p hp).trans hx),h.obj,h.inn,h.nd,h.lo,h.os,h.tape,h.output,h.size,h.far⟩
end
def dq(M0:ah)(wr:Nat→Wr)(S:Nat→Bool)(p:Nat):Nat→Option az
 | 0=>M0[p]?
 | j+1=>match S j,cO (wr j) p with
  | true,some x=>some x
  | _,_=>dq M0 wr S p j
section
variable {M0:ah} {wr wr':Nat→Wr} {S S':Nat→Bool} {p:Nat}
theorem t5{j:Nat}(h:S j=false∨cO (wr j) p=none):dq M0 wr S p (j+1)=dq M0 wr S p j:=by
 rw[dq.eq_2]
 rcases h with h | h
 ·rw[h]
 ·rw[h];cases S j<;>rfl
theorem xg{N:Nat}(h: ∀j,j<N→S j=S' j∧(S j=true→cO (wr j) p=cO (wr' j) p)):dq M0 wr S p N=dq M0 wr' S' p N:=by
 induction N with
 | zero=>rfl
 | succ j ih=>
  have ih:=ih λi hi=>h i Om
  obtain⟨h1,h2⟩:=h j Om
  rw[dq.eq_2,dq.eq_2,←h1,ih]
  cases hS:S j with
  | false=>rfl
  | true=>rw[h2 hS]
theorem IK{k N:Nat}(hk:k≤N)(hlo: ∀j,j<k→(cO (wr j) p).isSome=true→S j=true)(hhi: ∀j,k≤j→j<N→(cO (wr j) p).isSome=true→S j=false):dq M0 wr S p N=dq M0 wr (λ_=>true) p k:=by
 have h1: ∀d,k+d≤N→dq M0 wr S p (k+d)=dq M0 wr S p k:=by
  intro d
  induction d with
  | zero=>intro _;rfl
  | succ d ih=>
   intro hd
   rw[show k+(d+1)=(k+d)+1 from rfl,t5,ih Om]
   cases hl:cO (wr (k+d)) p with
   | none=>exact .inr rfl
   | some x=>exact .inl (hhi _ Om Om (by rw[hl];rfl))
 have h2: ∀i,i≤k→dq M0 wr S p i=dq M0 wr (λ_=>true) p i:=by
  intro i
  induction i with
  | zero=>intro _;rfl
  | succ i ih=>
   intro hi
   rw[dq.eq_2,dq.eq_2,ih Om]
   cases hl:cO (wr i) p with
   | none=>cases S i<;>rfl
   | some x=>rw[hlo i Om (by rw[hl];rfl)]
 have:=h1 (N-k) Om
 rw[show k+(N-k)=N by omega] at this
 rw[this,h2 k (Nat.le_refl _)]
theorem Bf{k N:Nat}(hk:k<N)(hS:S k=false)(hhi:(cO (wr k) p).isSome=true→∀j,k<j→j<N→(cO (wr j) p).isSome=true→S j=false):
  dq M0 wr (λj=>if j=k then true else S j) p N=match cO (wr k) p with | some x=>some x | none=>dq M0 wr S p N:=by
 have h0: ∀i,i≤k→dq M0 wr (λj=>if j=k then true else S j) p i=dq M0 wr S p i:=λi hi=>xg λj hj=>⟨by rw[ALifn Om],λ_=>rfl⟩
 have h1: ∀d,k+1+d≤N→dq M0 wr (λj=>if j=k then true else S j) p (k+1+d)=match cO (wr k) p with | some x=>some x | none=>dq M0 wr S p (k+1+d):=by
  intro d
  induction d with
  | zero=>
   intro _
   rw[Nat.add_zero,dq.eq_2,ALifp rfl,h0 k (Nat.le_refl _),t5 (S:=S) (.inl hS)]
   cases cO (wr k) p<;>rfl
  | succ d ih=>
   intro hd
   rw[show k+1+(d+1)=(k+1+d)+1 from rfl,dq.eq_2,dq.eq_2,ih Om,ALifn Om]
   cases hl:cO (wr k) p with
   | none=>cases S (k+1+d)<;>cases cO (wr (k+1+d)) p<;>rfl
   | some x=>
    cases hS2:S (k+1+d) with
    | false=>rfl
    | true=>
     cases hl2:cO (wr (k+1+d)) p with
     | none=>rfl
     | some y=>
      have:=hhi (by rw[hl];rfl) (k+1+d) Om Om (by rw[hl2];rfl)
      rw[hS2] at this
      cases this
 have:=h1 (N-(k+1)) Om
 rwa [show k+1+(N-(k+1))=N by omega] at this
end
end Go.Proofs.YtbcodenfkijdnaaGreat.E
namespace Go.Proofs.YtbcodenfkijdnaaGreat.E
open Go Go.RowKit Go.Shelf
open List renaming pairwise_iff_getElem→dZ,getElem_mem→eF
structure dY where
 val:bI→Nat→ab→Value
 rd:bI→Nat→Wr
 wt:bI→Nat→ab→Wr
 ob:Nat→List Nat
 cds:Nat→List (Nat×Bool)
 D:Nat→List Nat
 L0:ah
 m:Nat
def dY.vs(t:dY)(η:bI)(k:Nat):Value:=t.val η k (η k)
def dY.wr(t:dY)(η:bI)(k:Nat):Wr:=t.wt η k (η k)
def dY.Hold(t:dY)(η:bI)(k:Nat):Prop:=∀c∈t.cds k,t.vs η c.1= .bool c.2
def dY.Is(t:dY)(η:bI)(i:Nat)(x:Value):Prop:=(t.Hold η i∧x=t.vs η i)∨(¬t.Hold η i∧x=undef)
def dY.at(t:dY)(η:bI)(p k:Nat):Option az:=dq t.L0 (t.wr η) (λ_=>true) p k
def fU(η:bI)(k:Nat)(E:ab):bI:=λj=>if j=k then E else η j
def nc(D:List Nat)(η:bI):bI:=λj=>if D.contains j then η j else ab.zero
theorem Bg{D:List Nat}{η:bI}{k:Nat}{E:ab}(h:k∉D):nc D (fU η k E)=nc D η:=by
 funext j
 unfold nc fU
 by_cases hj:D.contains j=true
 ·have hm:j∈D:=by simpa using hj
  have hne:j≠k:=λe=>by subst e;exact h hm
  rw[ALifp hj,ALifp hj,ALifn hne]
 ·rw[ALifn hj,ALifn hj]
section
variable (F:Fence) (n:Nat) (P:Program) (L:List Oper) (Q:Exit→Act→World→Prop) (a:Act) (t:dY)
structure Bh (η:bI) (k:Nat) (o:Oper):Prop where
 out: ∀(xs:Nat→Value) (w':World) (c:gJ),(∀i∈t.D k,t.Is η i (xs i))→(∀i,i<L.length→(i=k∨k∈t.D i)→xs i=kc L a i)→mI (t.rd η k) c w'→t.Hold η k→
  ∀K:Value→World→Prop,(∀E (d:gJ) w'',(∀x∈t.wt η k E,x.2.sat (d x.1))→bc ((t.ob k).flatMap λp=>bN (c p)) ((t.wt η k E).flatMap λx=>d x.1) w' w''→K (t.val η k E) w'')→
   o.wpIn F n P (bt xs L 0 a) w' (λa'' w''=>∃v,a''=(bt xs L 0 a).put o.dst v∧K v w'') Q
def t6(k:Nat)(o:Oper)(η:bI):Prop:=match o.guard with
 | none=>t.cds k=[]
 | some (j,b)=>t.cds k=t.cds j++[(j,b)]∧j∈t.D k∧(∃E,t.vs η j= .bool E)∧(∃d,(L.toArray[j]?).bind (·.dst)=some d∧fT d L 0=some j∧Nat.blt d a.tmps.size=true)
def free(η:bI)(k p:Nat):Prop:=p<t.m∧∀j,j<L.length→j≠k→(cO (t.wr η j) p).isSome=true→(j<k∧j∈t.D k)∨(k<j∧k∈t.D j)
structure jR:Prop where
 acts: ∀η k o,L[k]? =some o→Bh F n P L Q a t η k o
 guard: ∀η k o,L[k]? =some o→t6 L a t k o η
 cin: ∀k,k<L.length→∀c∈t.cds k,c.1∈t.D k
 still: ∀η k,k<L.length→t.cds k≠[]→t.wr η k=[]∨t.Hold η k
 rdf: ∀η k,k<L.length→∀x∈t.rd η k,free L t η k x.1∧t.at η x.1 k=some x.2
 rdn: ∀η k,k<L.length→((t.rd η k).map (·.1)).Nodup
 wrf: ∀η k,k<L.length→∀x∈t.wr η k,free L t η k x.1
 obf: ∀η k,k<L.length→∀p∈t.ob k,∃x,(p,x)∈t.wr η k
 mval: ∀η k,k<L.length→t.val (nc (t.D k) η) k=t.val η k
 mwt: ∀η k,k<L.length→t.wt (nc (t.D k) η) k=t.wt η k
end
section
variable {F:Fence} {n:Nat} {P:Program} {L:List Oper} {Q:Exit→Act→World→Prop} {a:Act} {t:dY}
theorem jR.val_upd(h:jR F n P L Q a t){η:bI}{i k:Nat}{E:ab}(hi:i<L.length)(hk:k∉t.D i):t.val (fU η k E) i=t.val η i:=by
 rw[←h.mval (fU η k E) i hi,Bg hk,h.mval η i hi]
theorem jR.wt_upd(h:jR F n P L Q a t){η:bI}{i k:Nat}{E:ab}(hi:i<L.length)(hk:k∉t.D i):t.wt (fU η k E) i=t.wt η i:=by
 rw[←h.mwt (fU η k E) i hi,Bg hk,h.mwt η i hi]
theorem jR.vs_upd(h:jR F n P L Q a t){η:bI}{i k:Nat}{E:ab}(hi:i<L.length)(hk:k∉t.D i)(hne:i≠k):t.vs (fU η k E) i=t.vs η i:=by
 unfold dY.vs
 rw[h.val_upd hi hk,show fU η k E i=η i from ALifn hne]
theorem jR.wr_upd(h:jR F n P L Q a t){η:bI}{i k:Nat}{E:ab}(hi:i<L.length)(hk:k∉t.D i)(hne:i≠k):t.wr (fU η k E) i=t.wr η i:=by
 unfold dY.wr
 rw[h.wt_upd hi hk,show fU η k E i=η i from ALifn hne]
def gK(L:List Oper)(a:Act)(t:dY)(R:List Nat)(base:World)(S:Nat→Bool)(xs:Nat→Value)(w:World):Prop:=
 ∃(η:bI) (c:gJ),(∀i,i<L.length→S i=true→t.Is η i (xs i))∧(∀i,i<L.length→S i=false→xs i=kc L a i)∧li R base t.m (λp=>dq t.L0 (t.wr η) S p L.length) c w
theorem t7(h:jR F n P L Q a t){R:List Nat}{base:World}{S:Nat→Bool}{xs:Nat→Value}{w':World}{k:Nat}{o:Oper}(hk:k<L.length)(ho:L[k]? =some o)
  (hS:S k=false) (hD: ∀j∈t.D k,j<L.length∧S j=true) (hcl: ∀i,i<L.length→S i=true→∀j∈t.D i,j<L.length∧S j=true) (inv:gK L a t R base S xs w')
  (K:Value→World→Prop) (hK: ∀v w'',gK L a t R base (λj=>if j=k then true else S j) (λj=>if j=k then v else xs j) w''→K v w'') (hF:Fence.free F):
  if Region.wanted o (yielded L.toArray (bt xs L 0 a).tmps)=true then o.wpIn F n P (bt xs L 0 a) w' (λa'' w''=>∃v,a''=(bt xs L 0 a).put o.dst v∧K v w'') Q
  else(∀f,o.about P w' (bt xs L 0 a).eval=some f→F.fn f)∧K undef w':=by
 obtain⟨η,c,hx,hfx,hO⟩:=inv
 have hkD:k∉t.D k:=λhm=>by have:=(hD k hm).2;rw[hS] at this;cases this
 have hkDi: ∀i,i<L.length→S i=true→k∉t.D i:=λi hi hs hm=>by have:=(hcl i hi hs k hm).2;rw[hS] at this;cases this
 have hne: ∀i,S i=true→i≠k:=λi hs e=>by subst e;rw[hS] at hs;cases hs
 have rd: ∀(η':bI) (p:Nat),free L t η' k p→dq t.L0 (t.wr η') S p L.length=t.at η' p k:=by
  intro η' p hf
  refine IK (Nat.le_of_lt hk) (λj hj hl=>?_) (λj hj hjN hl=>?_)
  ·rcases hf.2 j Om Om hl with⟨_,h2⟩ | ⟨h1,_⟩
   ·exact(hD j h2).2
   ·omega
  ·by_cases e:j=k
   ·subst e;exact hS
   ·rcases hf.2 j hjN e hl with⟨h1,_⟩ | ⟨_,h2⟩
    ·omega
    ·cases hsj:S j with
     | false=>rfl
     | true=>exact absurd h2 (hkDi j hjN hsj)
 have hg:=h.guard η k o ho
 have done:dY.Hold t η k→o.wpIn F n P (bt xs L 0 a) w' (λa'' w''=>∃v,a''=(bt xs L 0 a).put o.dst v∧K v w'') Q:=by
  intro hh
  refine(h.acts η k o ho).out xs w' c (λi hi=>hx i (hD i hi).1 (hD i hi).2) (λi hi hik=>?_) ?_ hh _ ?_
  ·refine hfx i hi ?_
   rcases hik with rfl | hm
   ·exact hS
   ·cases hsi:S i with
    | false=>rfl
    | true=>exact absurd hm (hkDi i hi hsi)
  ·refine⟨λx hx=>?_,⟨λz hz=>?_,?_⟩⟩
   ·obtain⟨h1,h2⟩:=h.rdf η k hk x hx
    exact hO.sat x.1 h1.1 x.2 ((rd η x.1 h1).trans h2)
   ·obtain⟨x,hx,hz⟩:=List.mem_flatMap.1 hz
    obtain⟨h1,h2⟩:=h.rdf η k hk x hx
    exact hO.obj x.1 h1.1 z hz
   ·rw[List.pairwise_flatMap]
    refine⟨λx hx=>hO.inn x.1 (h.rdf η k hk x hx).1.1,?_⟩
    rw[dZ]
    intro i j hi hj hij z hz u hu
    obtain⟨h1,h2⟩:=h.rdf η k hk _ (eF hi)
    obtain⟨k1,k2⟩:=h.rdf η k hk _ (eF hj)
    refine hO.nd _ _ h1.1 k1.1 ?_ z hz u hu
    have hnd:=h.rdn η k hk
    unfold List.Nodup at hnd
    rw[List.pairwise_map,dZ] at hnd
    exact hnd i j hi hj hij
  ·intro E d w'' hsat hst
   refine hK _ _ ⟨fU η k E,oZ c (t.wt η k E) d,λi hi hs=>?_,λi hi hs=>?_,?_⟩
   ·by_cases e:i=k
    ·subst e
     simp only[if_true]
     refine .inl ⟨λc hc=>?_,?_⟩
     ·have hcd:=h.cin i hk c hc
      have hcs:=hD c.1 hcd
      rw[h.vs_upd hcs.1 (hkDi c.1 hcs.1 hcs.2) (hne _ hcs.2)]
      exact hh c hc
     ·unfold dY.vs
      rw[h.val_upd hk hkD,show fU η i E i=E from ALifp rfl]
    ·simp only[ALifn e] at hs⊢
     have hv:=h.vs_upd (η:=η) (E:=E) hi (hkDi i hi hs) e
     have hcc:dY.Hold t (fU η k E) i↔dY.Hold t η i:=by
      have heq: ∀c∈t.cds i,t.vs (fU η k E) c.1=t.vs η c.1:=λc hc=>by
       have hcd:=h.cin i hi c hc
       have hcs:=hcl i hi hs c.1 hcd
       exact h.vs_upd hcs.1 (hkDi c.1 hcs.1 hcs.2) (hne _ hcs.2)
      exact⟨λhh c hc=>(heq c hc).symm.trans (hh c hc),λhh c hc=>(heq c hc).trans (hh c hc)⟩
     rcases hx i hi hs with⟨h1,h2⟩ | ⟨h1,h2⟩
     ·exact .inl ⟨hcc.2 h1,by rw[hv];exact h2⟩
     ·exact .inr ⟨λh3=>h1 (hcc.1 h3),h2⟩
   ·by_cases e:i=k
    ·subst e;simp at hs
    ·simp only[ALifn e] at hs⊢
     exact hfx i hi hs
   ·have hcg: ∀p,dq t.L0 (t.wr (fU η k E)) S p L.length=dq t.L0 (t.wr η) S p L.length:=λp=>xg λj hj=>⟨rfl,λhs=>by rw[h.wr_upd hj (hkDi j hj hs) (hne j hs)]⟩
    have hwr:t.wr (fU η k E) k=t.wt η k E:=by
     unfold dY.wr
     rw[h.wt_upd hk hkD,show fU η k E k=E from ALifp rfl]
    have hfr: ∀p,(cO (t.wr (fU η k E) k) p).isSome=true→free L t (fU η k E) k p:=by
     intro p hp
     obtain⟨x,hx⟩:=Option.isSome_iff_exists.1 hp
     exact h.wrf (fU η k E) k hk _ (ry hx)
    have hf:(λp=>dq t.L0 (t.wr (fU η k E)) (λj=>if j=k then true else S j) p L.length)=l7 (λp=>dq t.L0 (t.wr η) S p L.length) (t.wt η k E):=by
     funext p
     rw[Bf hk hS (λhl j hkj hjN hlj=>?_),hwr,hcg]
     ·rfl
     ·rcases(hfr p hl).2 j hjN Om hlj with⟨h1,_⟩ | ⟨_,h2⟩
      ·omega
      ·cases hsj:S j with
       | false=>rfl
       | true=>exact absurd h2 (hkDi j hjN hsj)
    rw[hf]
    refine hO.step hsat hst λb hb=>?_
    obtain⟨p,hp,hb⟩:=List.mem_flatMap.1 hb
    obtain⟨z,hz,e⟩:=List.mem_map.1 hb
    obtain⟨x,hx⟩:=h.obf (fU η k E) k hk p hp
    have h1:=h.wrf (fU η k E) k hk _ hx
    exact⟨p,h1.1,⟨x,by rw[←hwr];exact hx⟩,z,hz,e⟩
 have skip: ¬dY.Hold t η k→t.cds k≠[]→K undef w':=by
  intro hn hc
  have hw:=(h.still η k hk hc).resolve_right hn
  refine hK _ _ ⟨η,c,λi hi hs=>?_,λi hi hs=>?_,?_⟩
  ·by_cases e:i=k
   ·subst e
    simp only[if_true]
    exact .inr ⟨hn,rfl⟩
   ·simp only[ALifn e] at hs⊢
    exact hx i hi hs
  ·by_cases e:i=k
   ·subst e;simp at hs
   ·simp only[ALifn e] at hs⊢
    exact hfx i hi hs
  ·have hf:(λp=>dq t.L0 (t.wr η) (λj=>if j=k then true else S j) p L.length)=λp=>dq t.L0 (t.wr η) S p L.length:=by
    funext p
    rw[Bf hk hS (λhl=>by rw[hw] at hl;cases hl),hw]
    rfl
   rw[hf]
   exact hO
 unfold t6 at hg
 cases hgd:o.guard with
 | none=>
  rw[hgd] at hg
  simp only at hg
  rw[ALifp (by simp [Region.wanted,hgd])]
  exact done (λc hc=>by rw[hg] at hc;simp at hc)
 | some jb=>
  obtain⟨j,b⟩:=jb
  rw[hgd] at hg
  simp only at hg
  obtain⟨hc,hjD,⟨E,hE⟩,d,hd,hw,hs⟩:=hg
  have hjx:=hx j (hD j hjD).1 (hD j hjD).2
  have hlt:L.take L.length=L:=List.take_length
  rcases hjx with⟨h1,h2⟩ | ⟨h1,h2⟩
  ·rw[hE] at h2
   have hwt:=ID (L:=L) (N:=L.length) (a:=a) (xs:=xs) hgd hd (by rw[hlt];exact hw) hs h2
   rw[hlt] at hwt
   by_cases e:E=b
   ·subst e
    rw[hwt,ALifp (by cases E<;>rfl)]
    refine done λc hcm=>?_
    rw[hc] at hcm
    rcases List.mem_append.1 hcm with h3 | h3
    ·exact h1 c h3
    ·obtain rfl:=List.mem_singleton.1 h3
     exact hE
   ·rw[hwt,ALifn (by cases E<;>cases b<;>simp_all)]
    refine⟨λf _=>hF.2 f,skip (λhh=>e ?_) (by rw[hc];simp)⟩
    have:=hh (j,b) (by rw[hc];simp)
    rw[hE] at this
    exact Value.bool.inj this
  ·have hwt:=IE (L:=L) (N:=L.length) (a:=a) (xs:=xs) hgd hd (by rw[hlt];exact hw) hs h2
   rw[hlt] at hwt
   rw[hwt,ALifn Dc]
   refine⟨λf _=>hF.2 f,skip (λhh=>h1 λc hcm=>hh c (by rw[hc];exact List.mem_append_left _ hcm)) (by rw[hc];simp)⟩
end
end Go.Proofs.YtbcodenfkijdnaaGreat.E
namespace Go.Proofs.YtbcodenfkijdnaaGreat.E
open Go Go.RowKit Go.Shelf
open List renaming size_toArray→dZ
open Bool renaming and_eq_true→eF,noConfusion→jw,or_eq_true→ka
open Option renaming map_some→ir,getD_some→jm
open Nat renaming zero_add→jg,le_refl→jh
section
variable {F:Fence} {n:Nat} {P:Program} {L:List Oper} {Q:Exit→Act→World→Prop} {a:Act} {t:dY} {R:List Nat} {base:World}
theorem gK.congr{S S':Nat→Bool}{xs xs':Nat→Value}{w:World}(h:gK L a t R base S xs w)(hs: ∀i,i<L.length→S i=S' i)(hx: ∀i,i<L.length→xs i=xs' i):gK L a t R base S' xs' w:=by
 obtain⟨η,c,h1,h2,h3⟩:=h
 refine⟨η,c,λi hi hS=>by rw[←hx i hi];exact h1 i hi (by rw[hs i hi];exact hS),λi hi hS=>by rw[←hx i hi];exact h2 i hi (by rw[hs i hi];exact hS),?_⟩
 have e:(λp=>dq t.L0 (t.wr η) S' p L.length)=λp=>dq t.L0 (t.wr η) S p L.length:=by
  funext p
  exact(xg λj hj=>⟨hs j hj,λ_=>rfl⟩).symm
 rw[e]
 exact h3
theorem gK.drew{S:Nat→Bool}{xs:Nat→Value}{w:World}(h:gK L a t R base S xs w):gK L a t R base S xs w.drew:=by
 obtain⟨η,c,h1,h2,h3⟩:=h
 exact⟨η,c,h1,h2,h3.sat,h3.nil,h3.obj,h3.inn,h3.nd,h3.lo,h3.os,h3.tape,h3.output,h3.size,h3.far⟩
theorem Bi(h:jR F n P L Q a t)(hF:Fence.free F)(hc:Region.chainB .any L.toArray L.length=true)(hb:nb .any L.toArray L.length=true)(hb0:nb .any L.toArray 0=true)(hsl:mH L=true)(hD:t3 .any L.toArray L.length t.D=true)
  (hend: ∀xs w',gK L a t R base (λ_=>true) xs w'→Q .normal (bt xs L 0 a) w'):
  ∀(c fuel:Nat) (listed:Array Bool) (xs:Nat→Value) (w':World),ij listed L.length=c→c≤fuel→HeadInv .any L.toArray L.length listed→
   (∀i,i<L.length→listed.getD i false=true→∀j∈t.D i,listed.getD j false=true)→gK L a t R base (λi=>listed.getD i false) xs w'→wpAnyIn F n P .any L.toArray Q fuel listed (bt xs L 0 a) w'
 | 0,fuel,listed,xs,w',hcnt,hf,inv,hk,hI=>by
  have hall:=xe L.length hcnt
  have hall2: ∀i,i<L.length→listed.getD i false=true:=by
   intro i hi
   have h2:i<listed.size:=by rw[inv.size,dZ];omega
   have:=hall i hi
   simp [h2] at this⊢
   exact this
  refine w8 hc hb 0 L.length fuel listed _ w' (by rw[dZ];omega) (jh _) Om inv.size hall hall2 inv.tail ?_
  have e:L.toArray.toList.drop L.length=[]:=by simp
  rw[e]
  exact hend xs w' (hI.congr (λi hi=>hall2 i hi) (λ_ _=>rfl))
 | c+1,fuel,listed,xs,w',hcnt,hf,inv,hk,hI=>by
  obtain⟨f,rfl⟩: ∃f,fuel=f+1:=⟨fuel-1,by omega⟩
  have hun: ∃i,i<L.length∧listed.getD i true=false:=by
   apply Classical.byContradiction
   intro hno
   have hall: ∀i,i<L.length→listed.getD i true=true:=λi hi=>by
    cases hl:listed.getD i true with
    | true=>rfl
    | false=>exact(hno ⟨i,hi,hl⟩).elim
   have: ∀k,k≤L.length→ij listed k=0:=by
    intro k
    induction k with
    | zero=>intro _;rfl
    | succ k ih=>intro h;unfold ij;rw[ih Om,hall k Om];rfl
   rw[this L.length (jh _)] at hcnt
   omega
  obtain⟨i0,hi0,hu0⟩:=hun
  have some:Region.ready .any L.toArray listed=[]→∀d i,i=d→i<L.length→listed.getD i true=true:=by
   intro hnil d
   induction d using Nat.strongRecOn with
   | _ d ih=>
    rintro i rfl hi
    cases hl:listed.getD i true with
    | true=>rfl
    | false=>
     exfalso
     have hilt:i<L.toArray.size:=by rw[dZ];omega
     have hok:L.toArray[i]? =some L.toArray[i]:=Array.getElem?_eq_getElem hilt
     have hB:=List.all_eq_true.1 hb0 i (List.mem_range.2 hilt)
     rw[hok] at hB
     simp only[ka,decide_eq_true_eq,ir,jm,Nat.not_lt_zero,false_or] at hB
     have:i∈Region.ready .any L.toArray listed:=mem_ready.2 ⟨hl,_,hok,λe he hbd=>by
      have h2:=Array.all_eq_true'.1 hB e he
      rw[hbd] at h2
      have h3:e.on<i:=by simpa using h2
      have h4:=ih e.on h3 e.on rfl Om
      have h5:e.on<listed.size:=by rw[inv.size,dZ];omega
      rw[Array.getD_eq_getD_getElem?,Array.getElem?_eq_getElem h5] at h4⊢
      exact h4⟩
     rw[hnil] at this;cases this
  refine⟨λhnil=>(by have:=some hnil i0 i0 rfl hi0;rw[hu0] at this;cases this),λi hi=>?_⟩
  have hiN:i<L.length:=by
   obtain⟨_,o,ho,_⟩:=mem_ready.1 hi
   have:=(Array.getElem?_eq_some_iff.1 ho).1
   rwa [dZ] at this
  obtain⟨hl,o,ho,hall⟩:=mem_ready.1 hi
  have hol:L[i]? =Option.some o:=by rw[←List.getElem?_toArray];exact ho
  have hDi: ∀j∈t.D i,j<L.length∧listed.getD j false=true:=by
   intro j hj
   have h1:=List.all_eq_true.1 (List.all_eq_true.1 hD i (List.mem_range.2 hiN)) j hj
   rw[ho] at h1
   simp only[ir,jm,eF,decide_eq_true_eq] at h1
   refine⟨h1.1,?_⟩
   obtain⟨e,he,h2⟩:=Array.any_eq_true'.1 h1.2
   simp only[eF,ka,beq_iff_eq,decide_eq_true_eq] at h2
   have h3:=hall e he h2.1
   rcases h2.2 with h4 | ⟨h4,h5⟩
   ·rw[←h4];exact h3
   ·exact hk e.on h4 h3 j (by simpa using h5)
  have hDlt: ∀i,i<L.length→∀j∈t.D i,j<L.length:=by
   intro i hi j hj
   have h1:=List.all_eq_true.1 (List.all_eq_true.1 hD i (List.mem_range.2 hi)) j hj
   simp only[eF,decide_eq_true_eq] at h1
   exact h1.1
  have hSi:listed.getD i false=false:=by
   have h2:i<listed.size:=by rw[inv.size,dZ];omega
   simp [h2] at hl⊢
   exact hl
  have hst:=t7 h (S:=λi=>listed.getD i false) (xs:=xs) (w':=w') (k:=i) (o:=o) hiN hol hSi (λj hj=>hDi j hj) (λi' hi' hs j hj=>⟨hDlt i' hi' j hj,hk i' hi' hs j hj⟩) hI
   (λv w''=>wpAnyIn F n P .any L.toArray Q f (listed.setIfInBounds i true) ((bt xs L 0 a).put o.dst v) w'') (λv w'' hI2=>by
    rw[rq v _ 0 a i o hsl hol,jg]
    refine Bi h hF hc hb hb0 hsl hD hend c f _ _ w'' (by have:=xd hl L.length hiN;omega) Om (inv.set hi hiN) ?_ (hI2.congr (λj hj=>?_) (λ_ _=>rfl))
    ·intro j hj hlj j' hj'
     by_cases e:j=i
     ·subst e
      exact getD_set_true (hDi j' hj').2
     ·rw[getD_set_ne false (Ne.symm e)] at hlj
      exact getD_set_true (hk j hj hlj j' hj')
    ·show(if j=i then true else listed.getD j false)=_
     by_cases e:j=i
     ·subst e
      have h2:j<listed.size:=by rw[inv.size,dZ];omega
      simp [h2]
     ·rw[ALifn e,getD_set_ne false (Ne.symm e)]) hF
  unfold wpOpIn
  simp only[ho]
  split
  ·rename_i hw
   rw[ALifp hw] at hst
   exact Oper.wpIn_mono (λa'' w'' ⟨v,e,h⟩=>by rw[e];exact h) hst
  ·rename_i hw
   rw[ALifn hw] at hst
   exact hst
theorem Bj(h:jR F n P L Q a t)(hF:Fence.free F)(hsl:mH L=true)(hD: ∀k,k<L.length→∀j∈t.D k,j<k)
  (hend: ∀xs w',gK L a t R base (λ_=>true) xs w'→Q .normal (bt xs L 0 a) w'):
  ∀(d k:Nat) (xs:Nat→Value) (w':World),k+d=L.length→gK L a t R base (λi=>decide (i<k)) xs w'→wpListIn F n P L.toArray Q (L.drop k) (bt xs L 0 a) w'
 | 0,k,xs,w',hk,hI=>by
  obtain rfl:k=L.length:=by omega
  rw[List.drop_length]
  exact hend xs w' (hI.congr (λi hi=>by simpa using hi) (λ_ _=>rfl))
 | d+1,k,xs,w',hk,hI=>by
  have hkl:k<L.length:=by omega
  rw[List.drop_eq_getElem_cons hkl]
  have hol:L[k]? =some L[k]:=List.getElem?_eq_getElem hkl
  have hst:=t7 h (S:=λi=>decide (i<k)) (xs:=xs) (w':=w') (k:=k) (o:=L[k]) hkl hol (by simp) (λj hj=>⟨by have:=hD k hkl j hj;omega,by simpa using hD k hkl j hj⟩)
   (λi hi hs j hj=>by
    have h1:=hD i hi j hj
    have h2:i<k:=by simpa using hs
    exact⟨by omega,by simp;omega⟩) hI
   (λv w''=>wpListIn F n P L.toArray Q (L.drop (k+1)) ((bt xs L 0 a).put L[k].dst v) w'') (λv w'' hI2=>by
    rw[rq v _ 0 a k _ hsl hol,jg]
    refine Bj h hF hsl hD hend d (k+1) _ w'' Om (hI2.congr (λj hj=>?_) (λ_ _=>rfl))
    show(if j=k then true else decide (j<k))=decide (j<k+1)
    by_cases e:j=k
    ·subst e;simp
    ·rw[ALifn e,decide_eq_decide];omega) hF
  unfold wpListIn
  split
  ·rename_i hw
   rw[ALifp hw] at hst
   exact Oper.wpIn_mono (λa'' w'' ⟨v,e,h⟩=>by rw[e];exact h) hst
  ·rename_i hw
   rw[ALifn hw] at hst
   exact hst
def ng(drawn:Bool)(L:List Oper)(D:Nat→List Nat):Bool:=
 mH L&&(if drawn then Region.chainB .any L.toArray L.length&&nb .any L.toArray L.length&&nb .any L.toArray 0&&t3 .any L.toArray L.length D
  else(List.range L.length).all λk=>(D k).all λj=>decide (j<k))
theorem IL{id:Nat}{drawn:Bool}{w:World}(hm:P.follows .mixedOrders=true)(h:jR F n P L Q a t)(hF:Fence.free F)(hs:ng drawn L t.D=true)
  (OW:Hid (aD R base t.L0 w)) (Le:bI→ah) (hLe: ∀η,(List.range t.m).map (λp=>t.at η p L.length)=(Le η).map some)
  (hend: ∀(η:bI) (xs:Nat→Value) (w':World),(∀i,i<L.length→t.Is η i (xs i))→Hid (aD R base (Le η) w')→Q .normal (bt xs L 0 a) w'):(Code.region id L.toArray drawn).wpIn F n P Q a w:=by
 have hend2: ∀xs w',gK L a t R base (λ_=>true) xs w'→Q .normal (bt xs L 0 a) w':=by
  intro xs w' ⟨η,c,h1,_,h3⟩
  refine hend η xs w' (λi hi=>h1 i hi rfl) ?_
  have hl:(Le η).length=t.m:=by
   have:=ALca List.length (hLe η)
   simpa using this.symm
  have hat: ∀p,p<t.m→t.at η p L.length=(Le η)[p]? :=by
   intro p hp
   have:=ALca (λl=>l[p]?) (hLe η)
   simp only[List.getElem?_map,List.getElem?_range hp,ir] at this
   cases hq:(Le η)[p]? with
   | none=>rw[hq] at this;cases this
   | some x=>rw[hq] at this;simpa using this
  exact Lib.hid ⟨c,by rw[hl];exact h3.congr hat⟩
 have h0:bt (kc L a) L 0 a=a:=xb _ 0 a λi o d ho hd=>by
  unfold kc
  rw[jg,ho,Option.bind_some,hd]
 have hc0: ∀(wr:Nat→Wr) (p N:Nat),dq t.L0 wr (λ_=>false) p N=t.L0[p]? :=by
  intro wr p N
  induction N with
  | zero=>rfl
  | succ N ih=>rw[t5 (.inl rfl),ih]
 have hI0:gK L a t R base (λ_=>false) (kc L a) w:=by
  obtain⟨c,hO⟩:=OW.out
  refine⟨λ_=>ab.zero,λp=>if p<t.L0.length then c p else[],λi _ hs=>absurd hs Bool.false_ne_true,λ_ _ _=>rfl,?_⟩
  have e:(λp=>dq t.L0 (t.wr λ_=>ab.zero) (λ_=>false) p L.length)=λp=>t.L0[p]? :=by funext p;exact hc0 _ _ _
  rw[e]
  have key: ∀p,((p<t.L0.length)∧(if p<t.L0.length then c p else[])=c p)∨(¬p<t.L0.length∧(if p<t.L0.length then c p else[])=[]):=λp=>by
   by_cases h:p<t.L0.length
   ·exact .inl ⟨h,ALifp h⟩
   ·exact .inr ⟨h,ALifn h⟩
  refine⟨λp _ x hx=>?_,λp _ hx=>?_,λp _ z hz=>?_,λp _=>?_,λp q _ _ hne z hz u hu=>?_,λp _ z hz=>?_,hO.os,hO.tape,hO.output,hO.size,hO.far⟩
  ·rcases key p with⟨h1,h2⟩ | ⟨h1,h2⟩
   ·rw[h2];exact hO.sat p h1 x hx
   ·exact absurd (List.getElem?_eq_some_iff.1 hx).1 h1
  ·rcases key p with⟨h1,h2⟩ | ⟨h1,h2⟩
   ·rw[h2];exact hO.nil p h1 hx
   ·exact h2
  ·rcases key p with⟨h1,h2⟩ | ⟨h1,h2⟩
   ·rw[h2] at hz;exact hO.obj p h1 z hz
   ·rw[h2] at hz;simp at hz
  ·rcases key p with⟨h1,h2⟩ | ⟨h1,h2⟩
   ·rw[h2];exact hO.inn p h1
   ·rw[h2];exact List.Pairwise.nil
  ·rcases key p with⟨h1,h2⟩ | ⟨h1,h2⟩
   ·rw[h2] at hz
    rcases key q with⟨h3,h4⟩ | ⟨h3,h4⟩
    ·rw[h4] at hu;exact hO.nd p q h1 h3 hne z hz u hu
    ·rw[h4] at hu;simp at hu
   ·rw[h2] at hz;simp at hz
  ·rcases key p with⟨h1,h2⟩ | ⟨h1,h2⟩
   ·rw[h2] at hz;exact hO.lo p h1 z hz
   ·rw[h2] at hz;simp at hz
 unfold ng at hs
 simp only[eF] at hs
 obtain⟨hsl,hs⟩:=hs
 cases drawn with
 | true=>
  simp only[if_true,eF] at hs
  obtain⟨⟨⟨hc,hb⟩,hb0⟩,hD⟩:=hs
  refine wpIn_region_any hm ?_
  have hle: ∀k,ij (Array.replicate L.length false) k≤k:=by
   intro k
   induction k with
   | zero=>exact jh _
   | succ k ih=>unfold ij;split<;>omega
  have h:=Bi (R:=R) (base:=base) h hF hc hb hb0 hsl hD hend2 _ L.toArray.size (Array.replicate L.length false) (kc L a) w.drew rfl (by rw[dZ];exact hle _)
   ⟨by simp,λj oj _ hl e _ _=>(by rw[getD_replicate_false] at hl;exact jw hl),λt _ htt=>(by rw[dZ] at htt;simp [htt])⟩ (λi _ hl=>(by rw[getD_replicate_false] at hl;exact jw hl))
   (hI0.drew.congr (λi _=>(getD_replicate_false _ _).symm) (λ_ _=>rfl))
  rw[h0] at h
  simpa using h
 | false=>
  simp only[Bool.false_eq_true,if_false] at hs
  refine wpIn_region_lit ?_
  have h:=Bj (R:=R) (base:=base) h hF hsl (λk hk j hj=>by
   have:=List.all_eq_true.1 (List.all_eq_true.1 hs k (List.mem_range.2 hk)) j hj
   simpa using this) hend2 L.length 0 (kc L a) w Om (hI0.congr (λi _=>by simp) (λ_ _=>rfl))
  rw[h0,List.drop_zero] at h
  exact h
end
end Go.Proofs.YtbcodenfkijdnaaGreat.E
namespace Go.Proofs.YtbcodenfkijdnaaGreat.E
open Go Go.RowKit Go.Shelf
open List renaming mem_append_left→dZ,mem_append_right→eF,mem_cons_of_mem→ir
open Nat renaming blt→jg
abbrev Fe:=List (Nat×Value)
def lk:Fe→Nat→Option Value
 | [],_=>none
 | (j,v)::r,i=>match Nat.beq j i with
  | true=>some v
  | false=>lk r i
structure Sl where
 sz:Nat
 e:Fe
def Sl.ev(a:Sl):Operand→Value
 | .tmp i=>(lk a.e i).getD undef
 | .const v=>v
 | .global g=> .pointer (some ⟨g,0,none⟩)
 | .func f=> .func (.func f) #[] #[]
def Sl.kn(a:Sl)(i:Nat):Bool:=(lk a.e i).isSome
structure Fr (a:Sl) (Ds:List Nat) (b:Act):Prop where
 size:b.tmps.size=a.sz
 get: ∀i v,lk a.e i=some v→b.tmps.getD i undef=v
 defers:b.defers=Ds.map ke
theorem Fr.ev{a:Sl}{Ds:List Nat}{b:Act}(h:Fr a Ds b): ∀{x:Operand},(∀i,x= .tmp i→a.kn i=true)→b.eval x=a.ev x
 | .tmp i,hk=>by
  have h1:=hk i rfl
  unfold Sl.kn at h1
  obtain⟨v,hv⟩:=Option.isSome_iff_exists.1 h1
  show b.tmps.getD i undef=(lk a.e i).getD undef
  rw[h.get i v hv,hv];rfl
 | .const _,_=>rfl
 | .global _,_=>rfl
 | .func _,_=>rfl
def vS(s:Sem Value):Sem Next:=do pure (.value (←s))
def rz:Op→Option (List Operand)
 | .move x=>some [x]
 | .assign x=>some [x]
 | .load _ x=>some [x]
 | .box _ x=>some [x]
 | .alloc _=>some []
 | .nilCheck x=>some [x]
 | .unOp _ _ x=>some [x]
 | .convert _ _ x=>some [x]
 | .sliceToArrayPointer _ x=>some [x]
 | .fieldAddr _ x _=>some [x]
 | .field _ x _=>some [x]
 | .extract x _=>some [x]
 | .binOp _ _ x y _=>some [x,y]
 | .indexAddr _ x y=>some [x,y]
 | .index _ x y=>some [x,y]
 | .lookup _ x y _=>some [x,y]
 | .store _ x y=>some [x,y]
 | .makeSlice _ x y=>some [x,y]
 | .mapUpdate _ x y z=>some [x,y,z]
 | .build _ parts=>some (parts.toList.map (·.2))
 | .buildSlice _ _ parts=>some (parts.toList.map (·.2))
 | .slice _ x lo hi mx=>some (x::(lo.toList++hi.toList++mx.toList))
 | .makeFunc _ first captured=>some (first.toList++captured.toList)
 | .makeMap _ r=>some r.toList
 | .call c=>match c.callee with | .builtin _=>some c.args.toList | _=>none
 | _=>none
theorem rA{ρ ρ':Operand→Value}{xs:Array Operand}(h: ∀x∈xs.toList,ρ x=ρ' x):xs.map ρ=xs.map ρ':=Array.map_congr_left λx hx=>h x (by simpa using hx)
theorem t8{ρ ρ':Operand→Value}{x:Option Operand}(h: ∀y∈x.toList,ρ y=ρ' y):x.map ρ=x.map ρ':=by cases x<;>simp_all
theorem Bl{ρ ρ':Operand→Value}{xs:Array (Nat×Operand)}(h: ∀x∈xs.toList.map (·.2),ρ x=ρ' x):xs.map (λ(i,x)=>(i,ρ x))=xs.map (λ(i,x)=>(i,ρ' x)):=
 Array.map_congr_left λx hx=>by
  obtain⟨i,x⟩:=x
  simp only
  rw[h x (List.mem_map.2 ⟨(i,x),by simpa using hx,rfl⟩)]
theorem Bm{ρ ρ':Operand→Value}{o:Oper}{l:List Operand}(h:rz o.op=some l)(hl: ∀x∈l,ρ x=ρ' x):execOp ρ o=execOp ρ' o:=by
 unfold execOp
 cases hop:o.op<;>rw[hop] at h<;>simp only[rz,reduceCtorEq,Option.some.injEq] at h
 case call c=>
  cases hc:c.callee<;>rw[hc] at h<;>simp only[reduceCtorEq,Option.some.injEq] at h
  subst h
  simp only[resolve,hc,rA hl]
 case build=>subst h;simp only[Bl hl]
 case buildSlice=>subst h;simp only[Bl hl]
 case makeFunc=>subst h;simp only[rA λx hx=>hl x (dZ _ hx),rA λx hx=>hl x (eF _ hx)]
 case makeMap=>subst h;simp only[t8 hl]
 case slice=>
  subst h
  simp only[hl _ (List.mem_cons_self ..),t8 λx hx=>hl x (ir _ (dZ _ (dZ _ hx))),t8 λx hx=>hl x (ir _ (dZ _ (eF _ hx))),t8 λx hx=>hl x (ir _ (eF _ hx))]
 all_goals (subst h;simp only[List.mem_cons,List.not_mem_nil,or_false,forall_eq_or_imp,forall_eq] at hl;simp only[hl])
abbrev bi:=(α:Type)×(α×α)
def sE{α:Type}(a b:α):bi:=⟨α,(a,b)⟩
def sB(b:Bool):bi:=⟨Bool,(b,true)⟩
def bi.lhs(e:bi):(α:Type)×α:=⟨e.1,e.2.1⟩
def bi.rhs(e:bi):(α:Type)×α:=⟨e.1,e.2.2⟩
theorem bi.of{e:bi}(h:e.lhs=e.rhs):e.2.1=e.2.2:=by
 obtain⟨α,x,y⟩:=e
 unfold bi.lhs bi.rhs at h
 simp only[Sigma.mk.injEq,heq_eq_eq,true_and] at h
 exact h
theorem bi.all{l:List bi}(h:l.map bi.lhs=l.map bi.rhs): ∀e∈l,e.2.1=e.2.2:=by
 induction l with
 | nil=>intro e he;simp at he
 | cons x r ih=>
  simp only[List.map_cons,List.cons.injEq] at h
  intro e he
  rcases List.mem_cons.1 he with rfl | he
  ·exact bi.of h.1
  ·exact ih h.2 e he
theorem bG(h: ∀e∈[sB false],e.2.1=e.2.2):False:=by
 have:=h _ (List.mem_singleton.2 rfl)
 cases this
def bu:ah→List aw→Prop
 | [],[]=>True
 | x::xs,c::cs=>x.sat c∧bu xs cs
 | _,_=>False
structure aa (P:Program) (f:FuncId) (args:Array Value) (rd:ah) (O:List Nat) (wt:ab→ah) (v:ab→Value):Prop where
 ent:Enters P f
 out: ∀(w:World) (cs:List aw),bu rd cs→Has cs.flatten w→Calls P f args w λe w'=>∃E ds,e= .returned (v E)∧bu (wt E) ds∧bc (O.flatMap λi=>bN (cs.getD i [])) ds.flatten w w'
class lj (F:Fence):Prop where
 free:Fence.free F
 lift: ∀{n:Nat} {P:Program} {f:FuncId} {args:Array Value} {w:World} {R:Ending→World→Prop},Calls P f args w R→CallsIn F n P f args w R
instance:lj Fence.wide:=⟨A9,callsIn_wide.2⟩
instance (l:Nat):lj (Fence.wide.inRound l):=⟨Ba l,λh=>CallsIn.inRound l (callsIn_wide.2 h)⟩
section
variable (P:Program)
abbrev TD:=Oper→(Operand→Value)→List bi
def TD.ok(d:TD)(val:Value):Prop:=∀(o:Oper) (ρ:Operand→Value),(∀e∈d o ρ,e.2.1=e.2.2)→∀w,(execOp ρ o).run P w= .ok (.value val) w
structure TH (val:Value) where
 d:TD
 h:TD.ok P d val
structure MD where
 rd:Wr
 wt:ab→Wr
 eqs:List bi
def MD.bad:MD:=⟨[],λ_=>[],[sB false]⟩
def MD.ok(val:ab→Value)(f:Oper→(Operand→Value)→cx→MD)(ob:List Nat):Prop:=∀(o:Oper) (ρ:Operand→Value) (C:cx),(∀e∈(f o ρ C).eqs,e.2.1=e.2.2)→∀(w:World) (c:gJ),mI (f o ρ C).rd c w→
 ∃(E:ab) (z:gJ) (w':World),((execOp ρ o).run P w= .ok (.value (val E)) w'∨((execOp ρ o).run P w= .ok .skip w'∧val E=undef))∧(∀x∈(f o ρ C).wt E,x.2.sat (z x.1))∧bc (ob.flatMap λp=>bN (c p)) (((f o ρ C).wt E).flatMap λx=>z x.1) w w'
structure MH (val:ab→Value) where
 ob:List Nat
 d:Oper→(Operand→Value)→cx→MD
 h:MD.ok P val d ob
end
inductive b7 (P:Program):Type 1
 | v (v:Value)
 | t {val:Value} (d:TH P val)
 | u {val:Value} (d:TD) (j:Nat) (E b:Bool) (h:E=b→TD.ok P d val)
 | k (v:Value)
 | d (v:Value)
 | m {val:ab→Value} (d:MH P val)
 | c {f:FuncId} {args:Array Value} {rd:ah} {O:List Nat} {wt:ab→ah} {v:ab→Value} (ps qs:List Nat) (h:aa P f args rd O wt v)
section
variable {P:Program}
def b7.val:b7 P→ab→Value
 | .v x,_ | .k x,_ | .d x,_=>x
 | @b7.t _ val _,_=>val
 | @b7.u _ val _ _ _ _ _,_=>val
 | @b7.m _ val _,E=>val E
 | @b7.c _ _ _ _ _ _ x _ _ _,E=>x E
def b7.rd:b7 P→Oper→(Operand→Value)→cx→Wr
 | .m x,o,ρ,C=>(x.d o ρ C).rd
 | @b7.c _ _ _ rd _ _ _ ps _ _,_,_,_=>ps.zip rd
 | _,_,_,_=>[]
def b7.wt:b7 P→Oper→(Operand→Value)→cx→ab→Wr
 | .m x,o,ρ,C,E=>(x.d o ρ C).wt E
 | @b7.c _ _ _ _ _ wt _ _ qs _,_,_,_,E=>qs.zip (wt E)
 | _,_,_,_,_=>[]
def b7.ob:b7 P→List Nat
 | .m x=>x.ob
 | @b7.c _ _ _ _ O _ _ ps _ _=>O.map λi=>ps.getD i 0
 | _=>[]
end
def Bn(N:Nat):List Oper→List (List Nat)→List (List Nat)
 | [],acc=>acc
 | o::os,acc=>Bn N os (acc++[(o.after.toList.foldl (λl e=>if Region.binds .any e&&jg e.on N then(e.on::(acc.getD e.on [])).foldl (λl j=>if l.contains j then l else j::l) l else l) [])])
def rC:List Oper→List (List (Nat×Bool))→List (List (Nat×Bool))
 | [],acc=>acc
 | o::os,acc=>rC os (acc++[match o.guard with | none=>[] | some (j,b)=>acc.getD j []++[(j,b)]])
def rE(L:List Oper)(a:Sl)(Dk:List Nat)(vs:List Value):Operand→Value
 | .tmp i=>match fT i L 0 with
  | some j=>if Dk.contains j then vs.getD j undef else a.ev (.tmp i)
  | none=>a.ev (.tmp i)
 | x=>a.ev x
abbrev Bo:=List Value×cx
def Bp{P:Program}(L:List Oper)(a:Sl)(DL:List (List Nat))(η:bI):List Oper→List (b7 P)→Nat→Bo→List Bo
 | o::os,h::hs,k,s=>s::Bp L a DL η os hs (k+1) (s.1++[h.val (η k)],l7 s.2 (h.wt o (rE L a (DL.getD k []) s.1) s.2 (η k)))
 | _,_,_,_=>[]
def Bq{α:Type}{P:Program}(L:List Oper)(a:Sl)(DL:List (List Nat))(L0:ah)(hs:bI→List (b7 P))(η:bI)(k:Nat)(z:α)(f:b7 P→Oper→(Operand→Value)→cx→α):α:=
 match L[k]?,(hs η)[k]?,(Bp L a DL η L (hs η) 0 ([],λp=>L0[p]?))[k]? with
 | some o,some h,some s=>f h o (rE L a (DL.getD k []) s.1) s.2
 | _,_,_=>z
def t9{P:Program}(L:List Oper)(a:Sl)(DL:List (List Nat))(CL:List (List (Nat×Bool)))(L0:ah)(m:Nat)(hs:bI→List (b7 P)):dY where
 val η k:=match (hs η)[k]? with | some h=>h.val | none=>λ_=>undef
 rd η k:=Bq L a DL L0 hs η k [] b7.rd
 wt η k:=Bq L a DL L0 hs η k (λ_=>[]) b7.wt
 ob k:=match (hs λ_=>ab.zero)[k]? with | some h=>h.ob | none=>[]
 cds k:=CL.getD k []
 D k:=DL.getD k []
 L0:=L0
 m:=m
section
variable (L:List Oper) (a:Sl) (t:dY) (η:bI) (k:Nat)
def fL:Operand→Value
 | .tmp i=>match fT i L 0 with
  | some j=>if(t.D k).contains j then t.vs η j else a.ev (.tmp i)
  | none=>a.ev (.tmp i)
 | x=>a.ev x
def l8(C:List (Nat×Bool)):Operand→Bool
 | .tmp i=>match fT i L 0 with
  | some j=>jg i a.sz&&(if(t.D k).contains j then(t.cds j).all (C.contains ·) else(j==k||(t.D j).contains k)&&a.kn i)
  | none=>a.kn i
 | _=>true
def n8(o:Oper):Bool:=mG o&&match rz o.op with | some l=>l.all (l8 L a t k (t.cds k)) | none=>false
def dx:List Nat→Bool
 | []=>true
 | x::r=> !r.contains x&&dx r
def IM:Value→Bool
 | .bool _=>true
 | _=>false
def dQ(P:Program)(T:TypeId):Bool:=match P.underlying T with | some (.struct _)=>true | some (.array _ _)=>true | _=>false
def n9(g off:Nat):Value:= .pointer (some ⟨g,off,none⟩)
def xh:Bool→Bool→Value→Option Value
 | true,E,.bool X=>some (.bool (E&&X))
 | _,_,_=>none
def xi:Bool→Bool→Value→Option Value
 | true,E,.bool X=>some (.bool (E||X))
 | _,_,_=>none
def Br(c x y:Operand):Option Value:=
 let C:=match c with | .tmp i=>(match fT i L 0 with | some j=>if(t.D k).contains j then some j else none | none=>none) | _=>none
 let Cx:=match C with | some j=>t.cds k++[(j,true)] | none=>t.cds k
 let Cy:=match C with | some j=>t.cds k++[(j,false)] | none=>t.cds k
 match fL L a t η k c with
 | .bool E=>match y with
  | .const (.bool false)=>xh (l8 L a t k Cx x) E (fL L a t η k x)
  | _=>match x with
   | .const (.bool true)=>xi (l8 L a t k Cy y) E (fL L a t η k y)
   | _=>none
 | _=>none
def xj:Value→List Value→Option (FuncId×List Value)
 | .func (.func f) first cap,vs=>some (f,first.toList++vs++cap.toList)
 | _,_=>none
theorem IN{v:Value}{vs:List Value}{f:FuncId}{args:List Value}(h:xj v vs=some (f,args)): ∃first cap,v= .func (.func f) first cap∧args=first.toList++vs++cap.toList:=by
 unfold xj at h
 split at h
 ·simp only[Option.some.injEq,Prod.mk.injEq] at h
  obtain⟨rfl,rfl⟩:=h
  exact⟨_,_,rfl,rfl⟩
 ·cases h
def l9{P:Program}(o:Oper):b7 P→List bi
 | .v v=>[sB (n8 L a t k o),sE (λw=>(execOp (fL L a t η k) o).run P w) (λw=> .ok (.value v) w)]
 | .t d=>sB (n8 L a t k o)::d.d o (fL L a t η k)
 | .u d j E b _=>sB (n8 L a t k o)::sB ((t.cds k).contains (j,b))::sE (t.vs η j) (.bool E)::d o (fL L a t η k)
 | .k v=>match o.op with
  | .pick c x y=>[sB (l8 L a t k (t.cds k) c),sE (Br L a t η k c x y) (some v)]
  | _=>[sB false]
 | .d _=>match (t.cds k).getLast? with
  | some (j,b)=>[sE (t.vs η j) (.bool (!b))]
  | none=>[sB false]
 | .m d=>sB (n8 L a t k o)::(d.d o (fL L a t η k) (λp=>t.at η p k)).eqs
 | @b7.c _ f args rd _ wt _ ps qs _=>match o.op with
  | .call ⟨.value (.func f'),xs,_⟩=>[sE f' f,sB (xs.toList.all (l8 L a t k (t.cds k))),sE (xs.toList.map (fL L a t η k)) args.toList,sE ps.length rd.length,sE (λE=>(wt E).length) (λ_=>qs.length),sB (dx qs)]
  | .call ⟨.value (.tmp i),xs,_⟩=>[sB (l8 L a t k (t.cds k) (.tmp i)),sB (xs.toList.all (l8 L a t k (t.cds k))),sE (xj (fL L a t η k (.tmp i)) (xs.toList.map (fL L a t η k))) (some (f,args.toList)),sE ps.length rd.length,sE (λE=>(wt E).length) (λ_=>qs.length),sB (dx qs)]
  | _=>[sB false]
def rG:Bool→Value→Bool
 | b,.bool E=>E==b
 | _,_=>false
def p8(o:Oper):List bi:=
 [sE (t.cds k) (match o.guard with | none=>[] | some (j,b)=>t.cds j++[(j,b)]),
  sB (match o.guard with
   | none=>true
   | some (j,_)=>(t.D k).contains j&&IM (t.vs η j)&&(match (L.toArray[j]?).bind (·.dst) with | some d=>(fT d L 0==some j)&&jg d a.sz | none=>false)),
  sB ((t.cds k).all λc=>(t.D k).contains c.1),
  sB ((t.cds k).isEmpty||(t.wr η k).isEmpty||(t.cds k).all λc=>rG c.2 (t.vs η c.1)),
  sB (((t.rd η k).map (·.1)++(t.wr η k).map (·.1)).all λp=>jg p t.m&&(List.range L.length).all λj=>j==k||(cO (t.wr η j) p).isNone||(jg j k&&(t.D k).contains j)||(jg k j&&(t.D j).contains k)),
  sB (dx ((t.rd η k).map (·.1))),
  sE ((t.rd η k).map λx=>t.at η x.1 k) ((t.rd η k).map λx=>some x.2),
  sB ((t.ob k).all λp=>(cO (t.wr η k) p).isSome),
  sE (t.val (nc (t.D k) η) k) (t.val η k),
  sE (t.wt (nc (t.D k) η) k) (t.wt η k)]
def rH{P:Program}(o:Oper)(h:b7 P):List bi:=
 [sE (t.val η k) h.val,sE (t.rd η k) (h.rd o (fL L a t η k) (λp=>t.at η p k)),sE (t.wt η k) (h.wt o (fL L a t η k) (λp=>t.at η p k)),sE (t.ob k) h.ob]
end
def fV{P:Program}(L:List Oper)(a:Sl)(t:dY)(η:bI)(k:Nat):List Oper→List (b7 P)→List bi
 | [],[]=>[]
 | o::os,h::hs=>p8 L a t η k o++(rH L a t η k o h++l9 L a t η k o h)++fV L a t η (k+1) os hs
 | _,_=>[sB false]
theorem Bs{P:Program}{L:List Oper}{a:Sl}{t:dY}{η:bI}: ∀{k:Nat} {os:List Oper} {hs:List (b7 P)},(∀e∈fV L a t η k os hs,e.2.1=e.2.2)→∀i o,os[i]? =some o→∃h,hs[i]? =some h∧∀e∈p8 L a t η (k+i) o++(rH L a t η (k+i) o h++l9 L a t η (k+i) o h),e.2.1=e.2.2
 | _,[],_,_,i,o,ho=>by simp at ho
 | k,p::os,[],h,i,o,ho=>by
  have:=h (sB false) (by simp [fV])
  cases this
 | k,p::os,g::hs,h,0,o,ho=>by
  simp only[List.getElem?_cons_zero,Option.some.injEq] at ho
  subst ho
  exact⟨g,rfl,λe he=>h e (by unfold fV;exact dZ _ he)⟩
 | k,p::os,g::hs,h,i+1,o,ho=>by
  rw[List.getElem?_cons_succ] at ho
  have:=Bs (k:=k+1) (os:=os) (hs:=hs) (λe he=>h e (by unfold fV;exact eF _ he)) i o ho
  rwa [show k+1+i=k+(i+1) by omega] at this
end Go.Proofs.YtbcodenfkijdnaaGreat.E
namespace Go.Proofs.YtbcodenfkijdnaaGreat.E
open Go Go.RowKit Go.Shelf
open List renaming getD_eq_getElem?_getD→dZ,getElem?_eq_getElem→eF,mem_cons→jg,not_mem_nil→jh,mem_append_right→jm,getElem?_eq_none→jw,mem_append_left→ka,zip_cons_cons→kP,pairwise_singleton→oG,getElem?_map→pD,length_cons→p4,length_map→qx,map_cons→qz
open Bool renaming and_eq_true→ir,or_eq_true→p6
open Go.Sem renaming run_bind→na,run_pure→qB
open Nat renaming le_refl→nN,blt_eq→n7,sub_zero→qA
open Go.Result renaming andThen_ok→po
theorem ua: ∀{t:Nat} {l:List Oper} {k i:Nat},fT t l k=some i→k≤i∧(l[i-k]?).bind (·.dst)=some t
 | _,[],_,_,h=>by cases h
 | t,o::os,k,i,h=>by
  unfold fT at h
  cases hr:fT t os (k+1) with
  | some j=>
   rw[hr] at h
   cases h
   obtain⟨h1,h2⟩:=ua hr
   refine⟨by omega,?_⟩
   rw[show i-k=(i-(k+1))+1 by omega,List.getElem?_cons_succ]
   exact h2
  | none=>
   rw[hr] at h
   simp only at h
   cases hd:o.dst with
   | none=>rw[hd] at h;cases h
   | some d=>
    rw[hd] at h
    simp only at h
    by_cases e:d=t
    ·subst e
     simp only[BEq.rfl,if_true,Option.some.injEq] at h
     subst h
     exact⟨nN _,by simp [hd]⟩
    ·rw[ALifn (by simpa using e)] at h
     cases h
theorem Bt{t:Nat}{l:List Oper}{i:Nat}(h:fT t l 0=some i):i<l.length:=by
 obtain⟨_,h2⟩:=ua h
 rw[qA] at h2
 rcases Nat.lt_or_ge i l.length with h3 | h3
 ·exact h3
 ·rw[jw h3] at h2;cases h2
theorem oa: ∀{l:List Nat},dx l=true→l.Nodup
 | [],_=>List.nodup_nil
 | x::r,h=>by
  simp only[dx,ir,Bool.not_eq_true'] at h
  exact List.nodup_cons.2 ⟨by simpa using h.1,oa h.2⟩
section
variable {F:Fence} {n:Nat} {P:Program} {L:List Oper} {Q:Exit→Act→World→Prop} {a:Sl} {b:Act} {Ds:List Nat} {t:dY} {η:bI} {k:Nat} {o:Oper} {xs:Nat→Value} {C:List (Nat×Bool)}
theorem Bu(HB:Fr a Ds b)(hx: ∀i∈t.D k,t.Is η i (xs i))(hf: ∀i,i<L.length→(i=k∨k∈t.D i)→xs i=kc L b i)(hC: ∀c∈C,t.vs η c.1= .bool c.2){x:Operand}(ho:l8 L a t k C x=true):(bt xs L 0 b).eval x=fL L a t η k x:=by
 cases x with
 | tmp i=>
  rw[t4]
  simp only[l8] at ho
  simp only[fL]
  cases hw:fT i L 0 with
  | none=>
   rw[hw] at ho
   exact HB.ev (x:= .tmp i) λq hq=>by cases hq;exact ho
  | some j=>
   rw[hw] at ho
   simp only[ir] at ho
   simp only
   rw[ALifp (by rw[HB.size];exact n7▸ho.1)]
   by_cases hd:(t.D k).contains j=true
   ·rw[ALifp hd] at ho⊢
    have hm:j∈t.D k:=by simpa using hd
    have hh:t.Hold η j:=λc hc=>hC c (by have:=List.all_eq_true.1 ho.2 c hc;simpa using this)
    rcases hx j hm with⟨_,h⟩ | ⟨h,_⟩
    ·exact h
    ·exact absurd hh h
   ·rw[ALifn hd] at ho⊢
    rw[ir] at ho
    have h2:j=k∨k∈t.D j:=by simpa using ho.2.1
    rw[hf j (Bt hw) h2]
    unfold kc
    have:=(ua hw).2
    rw[qA] at this
    rw[this]
    exact HB.ev (x:= .tmp i) λq hq=>by cases hq;exact ho.2.2
 | _=>rfl
theorem p9(hF:Fence.free F){b:Act}{w w':World}{v:Value}{K:Value→World→Prop}(hnd:mG o=true)(hr:(execOp b.eval o).run P w= .ok (.value v) w')(hK:K v w'):o.wpIn F n P b w (λa'' w''=>∃v,a''=b.put o.dst v∧K v w'') Q:=by
 unfold Oper.wpIn
 refine⟨λf _=>hF.2 f,?_⟩
 rw[Oper.semAt_plain F _ o (A6 hnd),hr]
 exact⟨v,rfl,hK⟩
theorem IP(hF:Fence.free F){b:Act}{w w':World}{K:Value→World→Prop}(hnd:mG o=true)(hr:(execOp b.eval o).run P w= .ok .skip w')(hK:K undef w'):o.wpIn F n P b w (λa'' w''=>∃v,a''=b.put o.dst v∧K v w'') Q:=by
 unfold Oper.wpIn
 refine⟨λf _=>hF.2 f,?_⟩
 rw[Oper.semAt_plain F _ o (A6 hnd),hr]
 exact⟨undef,rfl,hK⟩
theorem IQ(hF:Fence.free F){b:Act}{w:World}{K:Value→World→Prop}{f:FuncId}{ags:Array Operand}{ats:Array TypeId}{vs:Array Value}(ho:o.op= .call {callee:= .value (.func f),args:=ags,argTypes:=ats})(eg:Enters P f)(hv:ags.map b.eval=vs)
  (h:CallsIn F (n-1) P f vs w λe w''=>∃v,e= .returned v∧K v w''):o.wpIn F n P b w (λa'' w''=>∃v,a''=b.put o.dst v∧K v w'') Q:=by
 subst hv
 unfold Oper.wpIn
 refine⟨λf _=>hF.2 f,?_⟩
 have hr:(execOp b.eval o).run P w= .ok (.enter f (ags.map b.eval)) w:=by
  unfold execOp
  simp only[ho,resolve,show b.eval (.func f)= .func (.func f) #[] #[] from rfl,Deferred.ofValue,na,qB,po,invoke]
  rw[eg]
  simp
 rw[Oper.semAt_plain F _ o (λc hc=>by rw[ho] at hc;cases hc),hr]
 refine⟨λhd=>(by rw[hF.1] at hd;cases hd),h.mono ?_⟩
 rintro e w'' ⟨v,rfl,h3⟩
 exact⟨v,rfl,h3⟩
theorem IR(hF:Fence.free F){b:Act}{w:World}{K:Value→World→Prop}{f:FuncId}{x:Operand}{ags:Array Operand}{ats:Array TypeId}{first cap vs:Array Value}(ho:o.op= .call {callee:= .value x,args:=ags,argTypes:=ats})(eg:Enters P f)(hx:b.eval x= .func (.func f) first cap)(hv:first++ags.map b.eval++cap=vs)
  (h:CallsIn F (n-1) P f vs w λe w''=>∃v,e= .returned v∧K v w''):o.wpIn F n P b w (λa'' w''=>∃v,a''=b.put o.dst v∧K v w'') Q:=by
 subst hv
 unfold Oper.wpIn
 refine⟨λf _=>hF.2 f,?_⟩
 have hr:(execOp b.eval o).run P w= .ok (.enter f (first++ags.map b.eval++cap)) w:=by
  unfold execOp
  simp only[ho,resolve,hx,Deferred.ofValue,na,qB,po,invoke]
  rw[eg]
 rw[Oper.semAt_plain F _ o (λc hc=>by rw[ho] at hc;cases hc),hr]
 refine⟨λhd=>(by rw[hF.1] at hd;cases hd),h.mono ?_⟩
 rintro e w'' ⟨v,rfl,h3⟩
 exact⟨v,rfl,h3⟩
theorem bc.grow{O O':List Nat}{N:aw}{W W':World}(h:bc O N W W')(hs: ∀b∈O,b∈O'):bc O' N W W':=
 ⟨h.os,h.tape,h.output,h.size,h.obj,λx hx=>(h.new x hx).imp (hs _) id,h.nd,λb hb hn=>h.far b hb λhm=>hn (hs b hm)⟩
theorem bc.refl(W:World):bc [] [] W W:=⟨rfl,rfl,rfl,nN _,λ_ h=>by simp at h,λ_ h=>by simp at h,List.Pairwise.nil,λ_ _ _=>rfl⟩
theorem bc.alloc(W:World)(o:Obj):bc [] [(W.heap.size,o)] W (W.alloc o):=
 have h:=(Below.refl W.heap.size W).alloc (nN _) o
 ⟨h.os,h.tape,h.output,h.size,λx hx=>by obtain rfl:=List.mem_singleton.1 hx;exact World.alloc_heap_new W o,λx hx=>by obtain rfl:=List.mem_singleton.1 hx;exact .inr (nN _),oG _ _,λb hb _=>h.block b hb⟩
theorem bc.put{W W':World}{g:Nat}{o':Obj}(hos:W'.os=W.os)(htp:W'.tape=W.tape)(hout:W'.output=W.output)(hsz:W'.heap.size=W.heap.size)
  (hg:W'.heap[g]? =some o') (hf: ∀b,b≠g→W'.heap[b]? =W.heap[b]?):bc [g] [(g,o')] W W':=
 ⟨hos,htp,hout,Nat.le_of_eq hsz.symm,λx hx=>by obtain rfl:=List.mem_singleton.1 hx;exact hg,λx hx=>by obtain rfl:=List.mem_singleton.1 hx;exact .inl (List.mem_singleton.2 rfl),oG _ _,λb _ hb=>hf b λe=>hb (List.mem_singleton.2 e)⟩
theorem bc.setc{W:World}{g i:Nat}{t:TypeId}{cs:Array Value}(v:Value)(hb:W.heap[g]? =some (.cells cs t (0,0))):bc [g] [(g,.cells (cs.setIfInBounds i v) t (0,0))] W (W.setCell ⟨g,i,none⟩ v):=
 bc.put rfl rfl rfl (by simp [World.setCell]) (heap_setCell_same W g i cs t v hb) (λb hb=>heap_setCell_other W ⟨g,i,none⟩ b v hb)
theorem bc.setRow{W:World}{g:Nat}{t:TypeId}{cs:Array Value}(cs':Array Value)(hb:W.heap[g]? =some (.cells cs t (0,0))):bc [g] [(g,.cells cs' t (0,0))] W (W.setRow g cs'):=
 bc.put rfl rfl rfl (by simp) (setRow_heap W g cs cs' t (0,0) hb) (λb hb=>setRow_other W g b cs' hb)
theorem ub{W:World}{g i:Nat}{T t:TypeId}{cs:Array Value}{v:Value}(hb:W.heap[g]? =some (.cells cs t (0,0)))(hi:i<cs.size)(h1:v.oneCell'=true)(hsz:(P.info? T).map (·.size)=some 1):(storeVar T ⟨g,i,none⟩ v).run P W= .ok () (W.setCell ⟨g,i,none⟩ v):=by
 have hb':mF W g t cs:=hb
 cases hq:P.info? T with
 | none=>simp [hq] at hsz
 | some inf=>
  have hs:inf.size=1:=by simpa [hq] using hsz
  have hc:v.cells=#[v]:=by cases v<;>first | rfl | simp [Value.oneCell'] at h1
  have hst:(store ⟨g,i,none⟩ v).run P W= .ok () (W.setCell ⟨g,i,none⟩ v):=by
   rw[run_store P W ⟨g,i,none⟩ v .plain h1]
   have hcell:W.cell? ⟨g,i,none⟩=some cs[i]:=(hb'.cell i).trans (Array.getElem?_eq_getElem hi)
   simp [hcell,hb'.frozen i]
  unfold storeVar
  simp only[sizeOf,typeInfo,hc,na]
  simp [hq,hs,storeCells,Addr.add,na,hst]
theorem nj(HB:Fr a Ds b)(hg: ∀e∈p8 L a t η k o,e.2.1=e.2.2):
  t6 L b t k o η∧(∀c∈t.cds k,c.1∈t.D k)∧(t.cds k≠[]→t.wr η k=[]∨t.Hold η k)∧(∀x∈t.rd η k,free L t η k x.1∧t.at η x.1 k=some x.2)∧((t.rd η k).map (·.1)).Nodup∧
  (∀x∈t.wr η k,free L t η k x.1)∧(∀p∈t.ob k,∃x,(p,x)∈t.wr η k)∧
  t.val (nc (t.D k) η) k=t.val η k∧t.wt (nc (t.D k) η) k=t.wt η k:=by
 simp only[p8,jg,jh,or_false,forall_eq_or_imp,forall_eq,sE,sB] at hg
 obtain⟨g1,g2,g3,g4,g5,g6,g8,g9,g11,g12⟩:=hg
 have hfree: ∀p∈(t.rd η k).map (·.1)++(t.wr η k).map (·.1),free L t η k p:=by
  intro p hp
  have h1:=List.all_eq_true.1 g5 p hp
  simp only[ir] at h1
  refine⟨n7▸h1.1,λj hj hjk hl=>?_⟩
  have h2:=List.all_eq_true.1 h1.2 j (List.mem_range.2 hj)
  simp only[p6,ir,beq_iff_eq] at h2
  rcases h2 with((h2 | h2) | ⟨h2,h3⟩) | ⟨h2,h3⟩
  ·exact absurd h2 hjk
  ·rw[Option.isNone_iff_eq_none] at h2
   rw[h2] at hl
   cases hl
  ·exact .inl ⟨n7▸h2,by simpa using h3⟩
  ·exact .inr ⟨n7▸h2,by simpa using h3⟩
 have lmap: ∀{α:Type} {l:Wr} {f g:Nat×az→α},l.map f=l.map g→∀x∈l,f x=g x:=λ{α l f g} h x hx=>by
  obtain⟨i,hi,rfl⟩:=List.getElem_of_mem hx
  have:=ALca (λz=>z[i]?) h
  simpa [hi] using this
 refine⟨?_,?_,?_,?_,oa g6,?_,?_,g11,g12⟩
 ·unfold t6
  cases hgd:o.guard with
  | none=>rw[hgd] at g1;exact g1
  | some jb=>
   obtain⟨j,b⟩:=jb
   rw[hgd] at g1 g2
   simp only[ir] at g2
   refine⟨g1,by simpa using g2.1.1,?_,?_⟩
   ·have h3:=g2.1.2
    cases hv:t.vs η j with
    | bool E=>exact⟨E,rfl⟩
    | _=>rw[hv] at h3;cases h3
   ·have h3:=g2.2
    cases hd:(L.toArray[j]?).bind (·.dst) with
    | none=>rw[hd] at h3;cases h3
    | some d=>
     rw[hd] at h3
     simp only[ir,beq_iff_eq] at h3
     exact⟨d,rfl,h3.1,by rw[HB.size];exact h3.2⟩
 ·intro c hc
  have:=List.all_eq_true.1 g3 c hc
  simpa using this
 ·intro hne
  simp only[p6,List.isEmpty_iff] at g4
  refine(g4.elim (λh=>h.elim (λh=>absurd h hne) .inl) λh=> .inr λc hc=>?_)
  have h1:=List.all_eq_true.1 h c hc
  unfold rG at h1
  split at h1
  ·rename_i b E h2 h3
   rw[h3,eq_of_beq h1]
  ·cases h1
 ·intro x hx
  exact⟨hfree _ (ka _ (List.mem_map.2 ⟨x,hx,rfl⟩)),lmap g8 x hx⟩
 ·intro x hx
  exact hfree _ (jm _ (List.mem_map.2 ⟨x,hx,rfl⟩))
 ·intro p hp
  have h1:=List.all_eq_true.1 g9 p hp
  obtain⟨x,hx⟩:=Option.isSome_iff_exists.1 h1
  exact⟨x,ry hx⟩
end
theorem IS{b E:Bool}{x v:Value}(h:xh b E x=some v):b=true∧∃X,x= .bool X∧v= .bool (E&&X):=by
 unfold xh at h
 split at h
 ·cases h;exact⟨rfl,_,rfl,rfl⟩
 ·cases h
theorem IT{b E:Bool}{x v:Value}(h:xi b E x=some v):b=true∧∃X,x= .bool X∧v= .bool (E||X):=by
 unfold xi at h
 split at h
 ·cases h;exact⟨rfl,_,rfl,rfl⟩
 ·cases h
theorem jS: ∀{rd:ah} {cs:List aw},bu rd cs→rd.length=cs.length
 | [],[],_=>rfl
 | _::_,_::_,h=>by rw[p4,p4,jS h.2]
 | [],_::_,h=>h.elim
 | _::_,[],h=>h.elim
theorem xk{c:gJ}: ∀{ps:List Nat} {rd:ah},ps.length=rd.length→(∀x∈ps.zip rd,x.2.sat (c x.1))→bu rd (ps.map c)
 | [],[],_,_=>trivial
 | p::ps,x::rd,h,hs=>⟨hs (p,x) (by simp),xk (by simpa using h) λy hy=>hs y (by rw[kP];exact List.mem_cons_of_mem _ hy)⟩
 | [],_::_,h,_=>by simp at h
 | _::_,[],h,_=>by simp at h
theorem qa{c:gJ}: ∀{ps:List Nat} {rd:ah},ps.length=rd.length→(ps.zip rd).flatMap (λx=>c x.1)=(ps.map c).flatten
 | [],[],_=>rfl
 | p::ps,x::rd,h=>by rw[kP,List.flatMap_cons,qz,List.flatten_cons,qa (by simpa using h)]
 | [],_::_,h=>by simp at h
 | _::_,[],h=>by simp at h
def ma:List Nat→List aw→gJ
 | q::qs,d::ds=>λp=>if p=q then d else ma qs ds p
 | _,_=>λ_=>[]
theorem uc: ∀{qs:List Nat} {ds:List aw},qs.length=ds.length→qs.Nodup→qs.map (ma qs ds)=ds
 | [],[],_,_=>rfl
 | q::qs,d::ds,h,hn=>by
  rw[List.nodup_cons] at hn
  have e: ∀p∈qs,ma (q::qs) (d::ds) p=ma qs ds p:=λp hp=>ALifn λ(e:p=q)=>hn.1 (e▸hp)
  rw[qz,List.map_congr_left e,uc (by simpa using h) hn.2]
  exact ALca (· ::ds) (ALifp rfl)
 | [],_::_,h,_=>by simp at h
 | _::_,[],h,_=>by simp at h
theorem ue{c:gJ}: ∀{qs:List Nat} {rd:ah} {ds:List aw},qs.map c=ds→bu rd ds→∀x∈qs.zip rd,x.2.sat (c x.1)
 | [],_,_,_,_,x,hx=>by simp at hx
 | q::qs,[],_,_,_,x,hx=>by simp at hx
 | q::qs,y::rd,ds,e,hs,x,hx=>by
  subst e
  rw[kP] at hx
  rcases List.mem_cons.1 hx with rfl | hx
  ·exact hs.1
  ·exact ue rfl hs.2 x hx
section
variable {F:Fence} {n:Nat} {P:Program} {L:List Oper} {Q:Exit→Act→World→Prop} {a:Sl} {b:Act} {Ds:List Nat} {t:dY} {η:bI} {k:Nat} {o:Oper}
theorem IU[hL:lj F](HB:Fr a Ds b)(h:b7 P)(hq: ∀e∈rH L a t η k o h,e.2.1=e.2.2)
  (he: ∀e∈l9 L a t η k o h,e.2.1=e.2.2):Bh F n P L Q b t η k o:=by
 have hF:=hL.free
 simp only[rH,jg,jh,or_false,forall_eq_or_imp,forall_eq,sE] at hq
 obtain⟨hv,hrd,hwt,hob⟩:=hq
 refine⟨λxs w' c hx hf hH hC K hK=>?_⟩
 rw[hrd] at hH
 rw[hv,hwt,hob] at hK
 have ev: ∀{x},l8 L a t k (t.cds k) x=true→(bt xs L 0 b).eval x=fL L a t η k x:=λho=>Bu HB hx hf hC ho
 have nd:n8 L a t k o=true→mG o=true:=λh=>by unfold n8 at h;simp only[ir] at h;exact h.1
 have cg:n8 L a t k o=true→execOp (bt xs L 0 b).eval o=execOp (fL L a t η k) o:=λh=>by
  unfold n8 at h
  simp only[ir] at h
  cases hl:rz o.op with
  | none=>rw[hl] at h;cases h.2
  | some l=>
   rw[hl] at h
   exact Bm hl λx hxl=>ev (List.all_eq_true.1 h.2 x hxl)
 cases h with
 | v v=>
  simp only[l9,jg,jh,or_false,forall_eq_or_imp,forall_eq,sE,sB] at he
  exact p9 hF (nd he.1) (by rw[cg he.1];exact congrFun he.2 w') (hK ab.zero (λ_=>[]) w' (λx h=>by simp [b7.wt] at h) (by simpa [b7.wt,b7.ob] using bc.refl w'))
 | t d=>
  simp only[l9,jg,forall_eq_or_imp,sB] at he
  exact p9 hF (nd he.1) (by rw[cg he.1];exact d.h o _ he.2 w') (hK ab.zero (λ_=>[]) w' (λx h=>by simp [b7.wt] at h) (by simpa [b7.wt,b7.ob] using bc.refl w'))
 | u d j E b h=>
  simp only[l9,jg,forall_eq_or_imp,sE,sB] at he
  obtain⟨h1,h2,h3,h4⟩:=he
  have hE:E=b:=by
   have:=hC (j,b) (by simpa using h2)
   rw[h3] at this
   exact Value.bool.inj this
  exact p9 hF (nd h1) (by rw[cg h1];exact h hE o _ h4 w') (hK ab.zero (λ_=>[]) w' (λx h=>by simp [b7.wt] at h) (by simpa [b7.wt,b7.ob] using bc.refl w'))
 | k v=>
  simp only[l9] at he
  have hz:K v w':=hK ab.zero (λ_=>[]) w' (λx h=>by simp [b7.wt] at h) (by simpa [b7.wt,b7.ob] using bc.refl w')
  split at he
  ·rename_i c x y hop
   simp only[jg,jh,or_false,forall_eq_or_imp,forall_eq,sE,sB] at he
   obtain⟨h1,h2⟩:=he
   have hnd:mG o=true:=by unfold mG;rw[hop]
   refine p9 hF hnd ?_ (hz)
   have hc:=ev h1
   have evC: ∀{z:Operand} {E bb:Bool},fL L a t η k c= .bool E→E=bb→
     l8 L a t k (match (match c with | .tmp i=>(match fT i L 0 with | some j=>if(t.D k).contains j then some j else none | none=>none) | _=>none) with | some j=>t.cds k++[(j,bb)] | none=>t.cds k) z=true→(bt xs L 0 b).eval z=fL L a t η k z:=by
    intro z E bb hcE hEb hz
    refine Bu HB hx hf ?_ hz
    intro q hq
    cases c with
    | tmp i=>
     simp only at hq hcE
     simp only[fL] at hcE
     cases hw:fT i L 0 with
     | none=>rw[hw] at hq;exact hC q hq
     | some j=>
      rw[hw] at hq hcE
      simp only at hq hcE
      by_cases hd:(t.D k).contains j=true
      ·rw[ALifp hd] at hq hcE
       simp only at hq
       rcases List.mem_append.1 hq with h3 | h3
       ·exact hC q h3
       ·obtain rfl:=List.mem_singleton.1 h3
        rw[←hEb]
        exact hcE
      ·rw[ALifn hd] at hq
       exact hC q hq
    | _=>exact hC q hq
   unfold Br at h2
   simp only at h2
   split at h2
   ·rename_i E hcE
    have hcv:=hc.trans hcE
    split at h2
    ·obtain⟨hok,X,hX,rfl⟩:=IS h2
     cases E with
     | false=>exact p7 hop hcv rfl
     | true=>exact p7 hop hcv ((evC hcE rfl hok).trans hX)
    ·split at h2
     ·obtain⟨hok,Y,hY,rfl⟩:=IT h2
      cases E with
      | false=>exact p7 hop hcv ((evC hcE rfl hok).trans hY)
      | true=>exact p7 hop hcv rfl
     ·cases h2
   ·cases h2
  ·exact(bG he).elim
 | d v=>
  simp only[l9] at he
  split at he
  ·rename_i j b hl
   simp only[jg,jh,or_false,forall_eq,sE] at he
   have hm:=List.mem_of_getLast? hl
   have:=hC (j,b) hm
   rw[he] at this
   cases b<;>cases this
  ·exact(bG he).elim
 | m d=>
  simp only[l9,jg,forall_eq_or_imp,sB] at he
  obtain⟨E,z,w'',hr,hs,hst⟩:=d.h o (fL L a t η k) (λp=>t.at η p k) he.2 w' c hH
  rcases hr with hr | ⟨hr,hu⟩
  ·exact p9 hF (nd he.1) (by rw[cg he.1];exact hr) (hK E z w'' hs hst)
  ·refine IP hF (nd he.1) (by rw[cg he.1];exact hr) ?_
   have:=hK E z w'' hs hst
   rw[show(b7.m d).val E=undef from hu] at this
   exact this
 | @c f args rd O wt v ps qs h=>
  simp only[l9] at he
  split at he
  ·rename_i f' xs' ats hop
   simp only[jg,jh,or_false,forall_eq_or_imp,forall_eq,sE,sB] at he
   obtain⟨h1,h2,h3,h4,h5,h6⟩:=he
   subst h1
   have hm:xs'.map (bt xs L 0 b).eval=args:=by
    rw[rA (ρ':=fL L a t η k) λx hx=>ev (List.all_eq_true.1 h2 x hx)]
    apply Array.toList_inj.1
    rw[Array.toList_map]
    exact h3
   have hs:=xk (c:=c) h4 hH.sat
   have hh:=hH.has
   rw[show b7.rd (b7.c ps qs h) o (fL L a t η k) (λp=>t.at η p k)=ps.zip rd from rfl,qa h4] at hh
   refine IQ hF hop h.ent hm ((hL.lift (h.out w' _ hs hh)).mono ?_)
   rintro e w'' ⟨E,ds,rfl,hd,hst⟩
   have hl:qs.length=ds.length:=by rw[←jS hd];exact(congrFun h5 E).symm
   have hpl:=uc hl (oa h6)
   refine⟨_,rfl,hK E (ma qs ds) w'' (ue hpl hd) ?_⟩
   show bc ((O.map λi=>ps.getD i 0).flatMap λp=>bN (c p)) ((qs.zip (wt E)).flatMap λx=>ma qs ds x.1) w' w''
   rw[qa (by rw[hl,jS hd]),hpl]
   refine hst.grow ?_
   intro b hb
   obtain⟨i,hi,hb⟩:=List.mem_flatMap.1 hb
   refine List.mem_flatMap.2 ⟨ps.getD i 0,List.mem_map.2 ⟨i,hi,rfl⟩,?_⟩
   by_cases hlt:i<ps.length
   ·rw[dZ,pD,eF hlt] at hb
    rw[dZ,eF hlt]
    exact hb
   ·rw[dZ,jw (by rw[qx];omega)] at hb
    simp at hb
  ·rename_i ti xs' ats hop
   simp only[jg,jh,or_false,forall_eq_or_imp,forall_eq,sE,sB] at he
   obtain⟨h1,h2,h3,h4,h5,h6⟩:=he
   obtain⟨first,cap,hfv,hargs⟩:=IN h3
   have hxv:=(ev h1).trans hfv
   have hm:first++xs'.map (bt xs L 0 b).eval++cap=args:=by
    rw[rA (ρ':=fL L a t η k) λx hx=>ev (List.all_eq_true.1 h2 x hx)]
    apply Array.toList_inj.1
    rw[Array.toList_append,Array.toList_append,Array.toList_map]
    exact hargs.symm
   have hs:=xk (c:=c) h4 hH.sat
   have hh:=hH.has
   rw[show b7.rd (b7.c ps qs h) o (fL L a t η k) (λp=>t.at η p k)=ps.zip rd from rfl,qa h4] at hh
   refine IR hF hop h.ent hxv hm ((hL.lift (h.out w' _ hs hh)).mono ?_)
   rintro e w'' ⟨E,ds,rfl,hd,hst⟩
   have hl:qs.length=ds.length:=by rw[←jS hd];exact(congrFun h5 E).symm
   have hpl:=uc hl (oa h6)
   refine⟨_,rfl,hK E (ma qs ds) w'' (ue hpl hd) ?_⟩
   show bc ((O.map λi=>ps.getD i 0).flatMap λp=>bN (c p)) ((qs.zip (wt E)).flatMap λx=>ma qs ds x.1) w' w''
   rw[qa (by rw[hl,jS hd]),hpl]
   refine hst.grow ?_
   intro b hb
   obtain⟨i,hi,hb⟩:=List.mem_flatMap.1 hb
   refine List.mem_flatMap.2 ⟨ps.getD i 0,List.mem_map.2 ⟨i,hi,rfl⟩,?_⟩
   by_cases hlt:i<ps.length
   ·rw[dZ,pD,eF hlt] at hb
    rw[dZ,eF hlt]
    exact hb
   ·rw[dZ,jw (by rw[qx];omega)] at hb
    simp at hb
  ·exact(bG he).elim
end
def kf(drawn:Bool)(L:List Oper):List (List Nat):=if drawn then Bn L.length L [] else(List.range L.length).map List.range
section
variable {F:Fence} {n:Nat} {P:Program} {L:List Oper} {Q:Exit→Act→World→Prop} {a:Sl} {R:List Nat} {base:World}
theorem Bv[hL:lj F]{b:Act}{Ds:List Nat}(HB:Fr a Ds b){t:dY}{hs:bI→List (b7 P)}
  (he: ∀η,(fV L a t η 0 L (hs η)).map bi.lhs=(fV L a t η 0 L (hs η)).map bi.rhs):jR F n P L Q b t:=by
 have key: ∀η k o,L[k]? =some o→∃h,(hs η)[k]? =some h∧(∀e∈p8 L a t η k o,e.2.1=e.2.2)∧(∀e∈rH L a t η k o h,e.2.1=e.2.2)∧∀e∈l9 L a t η k o h,e.2.1=e.2.2:=by
  intro η k o ho
  obtain⟨h,h1,h2⟩:=Bs (bi.all (he η)) k o ho
  rw[Nat.zero_add] at h2
  exact⟨h,h1,λe hm=>h2 e (ka _ hm),λe hm=>h2 e (jm _ (ka _ hm)),λe hm=>h2 e (jm _ (jm _ hm))⟩
 have keyg: ∀η k,k<L.length→∃o,L[k]? =some o∧∀e∈p8 L a t η k o,e.2.1=e.2.2:=by
  intro η k hk
  obtain⟨h,h1,h2,_⟩:=key η k L[k] (eF hk)
  exact⟨_,eF hk,h2⟩
 refine⟨?_,?_,?_,?_,?_,?_,?_,?_,?_,?_⟩
 ·intro η k o ho
  obtain⟨h,_,_,h3,h4⟩:=key η k o ho
  exact IU HB h h3 h4
 ·intro η k o ho
  obtain⟨h,_,h2,_⟩:=key η k o ho
  exact(nj HB h2).1
 ·intro k hk
  obtain⟨o,_,h2⟩:=keyg (λ_=>ab.zero) k hk
  exact(nj HB h2).2.1
 ·intro η k hk
  obtain⟨o,_,h2⟩:=keyg η k hk
  exact(nj HB h2).2.2.1
 ·intro η k hk
  obtain⟨o,_,h2⟩:=keyg η k hk
  exact(nj HB h2).2.2.2.1
 ·intro η k hk
  obtain⟨o,_,h2⟩:=keyg η k hk
  exact(nj HB h2).2.2.2.2.1
 ·intro η k hk
  obtain⟨o,_,h2⟩:=keyg η k hk
  exact(nj HB h2).2.2.2.2.2.1
 ·intro η k hk
  obtain⟨o,_,h2⟩:=keyg η k hk
  exact(nj HB h2).2.2.2.2.2.2.1
 ·intro η k hk
  obtain⟨o,_,h2⟩:=keyg η k hk
  exact(nj HB h2).2.2.2.2.2.2.2.1
 ·intro η k hk
  obtain⟨o,_,h2⟩:=keyg η k hk
  exact(nj HB h2).2.2.2.2.2.2.2.2
end
end Go.Proofs.YtbcodenfkijdnaaGreat.E
namespace Go.Proofs.YtbcodenfkijdnaaGreat.E
open Go Go.RowKit Go.Shelf
open Go.Result renaming andThen_ok→dZ
open Go.Sem renaming run_bind→eF,run_pure→jg
open List renaming not_mem_nil→ir,mem_cons→jh,mem_singleton→jm,flatMap_cons→jw,flatMap_nil→ka
section
variable {P:Program}
theorem uf{w:World}{g off:Nat}{ty T:TypeId}{cs:Array Value}{l:List Value}(hg:w.heap[g]? =some (.cells cs ty (0,0)))(hl:(cs.toList.drop off).take l.length=l)(h:dQ P T=true)(hi:(P.info? T).map (·.size)=some l.length):(loadVar T ⟨g,off,none⟩).run P w= .ok (.agg l.toArray) w:=by
 unfold dQ at h
 split at h
 ·rename_i e;exact Bc w g off ty T cs l hg hl e rfl hi
 ·rename_i e;exact Bc w g off ty T cs l hg hl e rfl hi
 ·cases h
theorem mI.one{p g:Nat}{x:Obj}{c:gJ}{w:World}(h:mI [(p,.c [(g,x)])] c w):c p=[(g,x)]∧w.heap[g]? =some x:=by
 have h1:c p=[(g,x)]:=h.sat _ (List.mem_singleton.2 rfl)
 exact⟨h1,h.has.obj (g,x) (by simp [h1])⟩
def ab.of(b:Nat):ab:=⟨λ_=>b,λ_=>0,λ_=>undef⟩
theorem mb{s:Sem Value}{v:Value}{w w':World}(h:s.run P w= .ok v w'):(vS s).run P w= .ok (.value v) w':=by
 unfold vS
 simp only[eF,h,dZ,jg]
def tv{v:Value}(s:Sem Value)(h: ∀w,s.run P w= .ok v w):TH P v:=⟨λo ρ=>[sE (λw=>(execOp ρ o).run P w) (λw=>(vS s).run P w)],λo ρ he w=>by
 simp only[jm,forall_eq,sE] at he
 exact(congrFun he w).trans (mb (h w))⟩
def rJ(P:Program)(T:TypeId):Array Value:=match (P.info? T).bind (·.zero) with | some v=>v.cells | none=>#[]
def lm:Value→Option (Nat×Nat)
 | .pointer (some ⟨g,off,none⟩)=>some (g,off)
 | _=>none
theorem nk{v:Value}{g off:Nat}(h:lm v=some (g,off)):v= .pointer (some ⟨g,off,none⟩):=by
 unfold lm at h
 split at h
 ·cases h;rfl
 ·cases h
def xl(P:Program)(p:Nat)(v:Value)(o:Oper)(ρ:Operand→Value)(C:cx):MD:=match o.op,C p with
 | .load T x,some (.c [(g,.cells cs ty (0,0))])=>match lm (ρ x) with
  | some (g',off)=>⟨[(p,ob g cs ty)],λ_=>[],[sE g' g,sE cs[off]? (some v),sE (λw=>(isAgg T).run P w) (λw=> .ok false w)]⟩
  | none=>MD.bad
 | _,_=>MD.bad
theorem IV(p:Nat)(v:Value):MD.ok P (λ_=>v) (xl P p v) []:=by
 intro o ρ C he w c hH
 unfold xl at he hH⊢
 split at he
 ·rename_i T x g cs ty hop hC
  simp only[hop,hC] at hH⊢
  split at he
  ·rename_i g' off ha
   simp only[ha] at hH⊢
   simp only[jh,ir,or_false,forall_eq_or_imp,forall_eq,sE] at he
   obtain⟨rfl,h2,h3⟩:=he
   have hb:mF w g' ty cs:=hH.one.2
   refine⟨ab.zero,λ_=>[],w,.inl ?_,λx h=>by simp at h,by simpa using bc.refl w⟩
   unfold execOp
   simp only[hop,nk ha,Instr.loadAt,Instr.sureAddr,eF,jg,dZ,ru (congrFun h3 w) ((hb.cell off).trans h2)]
  ·exact(bG he).elim
 ·exact(bG he).elim
def ld(p:Nat)(v:Value):MH P (λ_=>v):=⟨[],xl P p v,IV p v⟩
def xm(P:Program)(p g off:Nat)(cs:Array Value)(t:TypeId)(o:Oper)(ρ:Operand→Value)(_:cx):MD:=match o.op with
 | .load T x=>⟨[(p,ob g cs t)],λ_=>[],[sE (lm (ρ x)) (some (g,off)),sE (λw=>(isAgg T).run P w) (λw=> .ok false w)]⟩
 | _=>MD.bad
theorem IW(p g off:Nat)(cs:Array Value)(t:TypeId)(v:Value)(h:cs[off]? =some v):MD.ok P (λ_=>v) (xm P p g off cs t) []:=by
 intro o ρ C he w c hH
 unfold xm at he hH⊢
 split at he
 ·rename_i T x hop
  simp only[hop] at hH⊢
  simp only[jh,ir,or_false,forall_eq_or_imp,forall_eq,sE] at he
  obtain⟨ha,h3⟩:=he
  have hb:mF w g t cs:=hH.one.2
  refine⟨ab.zero,λ_=>[],w,.inl ?_,λx h=>by simp at h,by simpa using bc.refl w⟩
  unfold execOp
  simp only[hop,nk ha,Instr.loadAt,Instr.sureAddr,eF,jg,dZ,ru (congrFun h3 w) ((hb.cell off).trans h)]
 ·exact(bG he).elim
def lt{v:Value}(p g off:Nat)(cs:Array Value)(t:TypeId)(h:cs[off]? =some v):MH P (λ_=>v):=⟨[],xm P p g off cs t,IW p g off cs t v h⟩
def xn(P:Program)(p:Nat)(l:List Value)(o:Oper)(ρ:Operand→Value)(C:cx):MD:=match o.op,C p with
 | .load T x,some (.c [(g,.cells cs ty (0,0))])=>match lm (ρ x) with
  | some (g',off)=>⟨[(p,ob g cs ty)],λ_=>[],[sE g' g,sE ((cs.toList.drop off).take l.length) l,sB (dQ P T),sE ((P.info? T).map (·.size)) (some l.length)]⟩
  | none=>MD.bad
 | _,_=>MD.bad
theorem IX(p:Nat)(l:List Value):MD.ok P (λ_=> .agg l.toArray) (xn P p l) []:=by
 intro o ρ C he w c hH
 unfold xn at he hH⊢
 split at he
 ·rename_i T x g cs ty hop hC
  simp only[hop,hC] at hH⊢
  split at he
  ·rename_i g' off ha
   simp only[ha] at hH⊢
   simp only[jh,ir,or_false,forall_eq_or_imp,forall_eq,sE,sB] at he
   obtain⟨rfl,h2,h3,h4⟩:=he
   refine⟨ab.zero,λ_=>[],w,.inl ?_,λx h=>by simp at h,by simpa using bc.refl w⟩
   unfold execOp
   simp only[hop,nk ha,Instr.loadAt,Instr.sureAddr,eF,jg,dZ,uf hH.one.2 h2 h3 h4]
  ·exact(bG he).elim
 ·exact(bG he).elim
def ls(p:Nat)(l:List Value):MH P (λ_=> .agg l.toArray):=⟨[],xn P p l,IX p l⟩
def xp(P:Program)(p g off:Nat)(cs:Array Value)(t:TypeId)(l:List Value)(o:Oper)(ρ:Operand→Value)(_:cx):MD:=match o.op with
 | .load T x=>⟨[(p,ob g cs t)],λ_=>[],[sE (lm (ρ x)) (some (g,off)),sB (dQ P T),sE ((P.info? T).map (·.size)) (some l.length)]⟩
 | _=>MD.bad
theorem IY(p g off:Nat)(cs:Array Value)(t:TypeId)(l:List Value)(h:(cs.toList.drop off).take l.length=l):MD.ok P (λ_=> .agg l.toArray) (xp P p g off cs t l) []:=by
 intro o ρ C he w c hH
 unfold xp at he hH⊢
 split at he
 ·rename_i T x hop
  simp only[hop] at hH⊢
  simp only[jh,ir,or_false,forall_eq_or_imp,forall_eq,sE,sB] at he
  obtain⟨ha,h3,h4⟩:=he
  refine⟨ab.zero,λ_=>[],w,.inl ?_,λx h=>by simp at h,by simpa using bc.refl w⟩
  unfold execOp
  simp only[hop,nk ha,Instr.loadAt,Instr.sureAddr,eF,jg,dZ,uf hH.one.2 h h3 h4]
 ·exact(bG he).elim
def lg(p g off:Nat)(cs:Array Value)(t:TypeId)(l:List Value)(h:(cs.toList.drop off).take l.length=l):MH P (λ_=> .agg l.toArray):=⟨[],xp P p g off cs t l,IY p g off cs t l h⟩
def xr(P:Program)(p:Nat)(o:Oper)(_:Operand→Value)(_:cx):MD:=match o.op with
 | .alloc T=>⟨[],λE=>[(p,ob (E.abd 0) (rJ P T) T)],[sE (λw=>(Instr.alloc T true (.tuple #[])).run P w) (λw=> .ok (n9 w.heap.size 0) (w.alloc (.cells (rJ P T) T)))]⟩
 | _=>MD.bad
theorem IZ(p:Nat):MD.ok P (λE=> .pointer (some ⟨E.abd 0,0,none⟩)) (xr P p) []:=by
 intro o ρ C he w c hH
 unfold xr at he hH⊢
 split at he
 ·rename_i T hop
  simp only[hop] at hH⊢
  simp only[jm,forall_eq,sE,n9] at he
  refine⟨ab.of w.heap.size,λ_=>[(w.heap.size,.cells (rJ P T) T (0,0))],_,.inl ?_,λx h=>?_,by simpa using bc.alloc w (.cells (rJ P T) T)⟩
  ·unfold execOp
   have:=congrFun he w
   simp only[hop,eF,this,dZ,jg]
   rfl
  ·rw[List.mem_singleton.1 h]
   rfl
 ·exact(bG he).elim
def al(p:Nat):MH P (λE=> .pointer (some ⟨E.abd 0,0,none⟩)):=⟨[],xr P p,IZ p⟩
def xu(p:Nat)(o:Oper)(ρ:Operand→Value)(_:cx):MD:=match o.op with
 | .box T x=>⟨[],λE=>[(p,ob (E.abd 0) (ρ x).cells T)],[]⟩
 | _=>MD.bad
theorem I0(p:Nat):MD.ok P (λE=> .pointer (some ⟨E.abd 0,0,none⟩)) (xu p) []:=by
 intro o ρ C he w c hH
 unfold xu at he hH⊢
 split at he
 ·rename_i T x hop
  simp only[hop] at hH⊢
  refine⟨ab.of w.heap.size,λ_=>[(w.heap.size,.cells (ρ x).cells T (0,0))],_,.inl ?_,λy h=>?_,by simpa using bc.alloc w (.cells (ρ x).cells T)⟩
  ·unfold execOp
   simp only[hop,eF,show(Instr.box T (ρ x)).run P w= .ok (.pointer (some ⟨w.heap.size,0,none⟩)) (w.alloc (.cells (ρ x).cells T)) from rfl,dZ,jg]
   rfl
  ·rw[List.mem_singleton.1 h]
   rfl
 ·exact(bG he).elim
def bx(p:Nat):MH P (λE=> .pointer (some ⟨E.abd 0,0,none⟩)):=⟨[],xu p,I0 p⟩
def xv(P:Program)(p:Nat)(o:Oper)(ρ:Operand→Value)(C:cx):MD:=match o.op,C p with
 | .store T x y,some (.c [(g,.cells cs ty (0,0))])=>match lm (ρ x) with
  | some (g',off)=>⟨[(p,ob g cs ty)],λ_=>[(p,ob g (cs.setIfInBounds off (ρ y)) ty)],[sE g' g,sB (Nat.blt off cs.size),sB (ρ y).oneCell',sE ((P.info? T).map (·.size)) (some 1)]⟩
  | none=>MD.bad
 | _,_=>MD.bad
theorem I1(p:Nat):MD.ok P (λ_=>undef) (xv P p) [p]:=by
 intro o ρ C he w c hH
 unfold xv at he hH⊢
 split at he
 ·rename_i T x y g cs ty hop hC
  simp only[hop,hC] at hH⊢
  split at he
  ·rename_i g' off ha
   simp only[ha] at hH⊢
   simp only[jh,ir,or_false,forall_eq_or_imp,forall_eq,sE,sB] at he
   obtain⟨rfl,h2,h3,h4⟩:=he
   obtain⟨hc,hb⟩:=hH.one
   refine⟨ab.zero,λ_=>[(g',.cells (cs.setIfInBounds off (ρ y)) ty (0,0))],_,.inr ⟨?_,by simp⟩,λz h=>?_,by simpa [hc,bN] using bc.setc (ρ y) hb⟩
   ·unfold execOp
    simp only[hop,nk ha,Instr.storeAt,Instr.sureAddr,eF,jg,dZ,ub hb (Nat.blt_eq▸h2) h3 h4]
   ·rw[List.mem_singleton.1 h]
    rfl
  ·exact(bG he).elim
 ·exact(bG he).elim
def st(p:Nat):MH P (λ_=>undef):=⟨[p],xv P p,I1 p⟩
def xw(P:Program)(p g off:Nat)(t:TypeId)(v:Value)(cs cs':Array Value)(o:Oper)(ρ:Operand→Value)(_:cx):MD:=match o.op with
 | .store T x y=>⟨[(p,ob g cs t)],λ_=>[(p,ob g cs' t)],[sE (lm (ρ x)) (some (g,off)),sE (ρ y) v,sB v.oneCell',sE ((P.info? T).map (·.size)) (some 1)]⟩
 | _=>MD.bad
theorem I2(p g off:Nat)(t:TypeId)(v:Value)(cs cs':Array Value)(h:cs.setIfInBounds off v=cs')(hi:off<cs.size):MD.ok P (λ_=>undef) (xw P p g off t v cs cs') [p]:=by
 intro o ρ C he w c hH
 unfold xw at he hH⊢
 split at he
 ·rename_i T x y hop
  simp only[hop] at hH⊢
  simp only[jh,ir,or_false,forall_eq_or_imp,forall_eq,sE,sB] at he
  obtain⟨ha,hv,h3,h4⟩:=he
  obtain⟨hc,hb⟩:=hH.one
  subst h
  refine⟨ab.zero,λ_=>[(g,.cells (cs.setIfInBounds off v) t (0,0))],_,.inr ⟨?_,by simp⟩,λz h=>?_,by simpa [hc,bN] using bc.setc v hb⟩
  ·unfold execOp
   simp only[hop,nk ha,hv,Instr.storeAt,Instr.sureAddr,eF,jg,dZ,ub hb hi h3 h4]
  ·rw[List.mem_singleton.1 h]
   rfl
 ·exact(bG he).elim
def sw(p g off:Nat)(t:TypeId)(v:Value)(cs cs':Array Value)(h:cs.setIfInBounds off v=cs')(hi:off<cs.size):MH P (λ_=>undef):=⟨[p],xw P p g off t v cs cs',I2 p g off t v cs cs' h hi⟩
theorem ug{w:World}{g off:Nat}{ty T:TypeId}{cs:Array Value}{l:List Value}(hb:w.heap[g]? =some (.cells cs ty (0,0)))(h7:off+l.length≤cs.size)(h8: ∀v∈l,v.oneCell'=true)(h9:(P.info? T).map (·.size)=some l.length):(storeVar T ⟨g,off,none⟩ (.agg l.toArray)).run P w= .ok () (w.setRow g (cs.toList.take off++l++cs.toList.drop (off+l.length)).toArray):=by
 have hr0:=run_storeCells_at P g off ty l 0 cs w hb h7 h8
 cases hq:P.info? T with
 | none=>simp [hq] at h9
 | some inf=>
  have hs2:inf.size=l.length:=by simpa [hq] using h9
  unfold storeVar
  simp only[sizeOf,typeInfo,Value.cells,eF]
  simp [hq,hs2,hr0]
def nm:Value→Option (List Value)
 | .agg cs=>some cs.toList
 | _=>none
theorem uh{v:Value}{l:List Value}(h:nm v=some l):v= .agg l.toArray:=by
 unfold nm at h
 split at h
 ·cases h;rfl
 ·cases h
def xx(P:Program)(p:Nat)(o:Oper)(ρ:Operand→Value)(C:cx):MD:=match o.op,C p with
 | .store T x y,some (.c [(g,.cells cs ty (0,0))])=>match lm (ρ x),nm (ρ y) with
  | some (g',off),some l=>⟨[(p,ob g cs ty)],λ_=>[(p,ob g (cs.toList.take off++l++cs.toList.drop (off+l.length)).toArray ty)],[sE g' g,sB (Nat.ble (off+l.length) cs.size),sB (l.all (·.oneCell')),sE ((P.info? T).map (·.size)) (some l.length)]⟩
  | _,_=>MD.bad
 | _,_=>MD.bad
theorem I3(p:Nat):MD.ok P (λ_=>undef) (xx P p) [p]:=by
 intro o ρ C he w c hH
 unfold xx at he hH⊢
 split at he
 ·rename_i T x y g cs ty hop hC
  simp only[hop,hC] at hH⊢
  split at he
  ·rename_i g' off l ha hl
   simp only[ha,hl] at hH⊢
   simp only[jh,ir,or_false,forall_eq_or_imp,forall_eq,sE,sB] at he
   obtain⟨rfl,h2,h3,h4⟩:=he
   obtain⟨hc,hb⟩:=hH.one
   refine⟨ab.zero,λ_=>[(g',.cells (cs.toList.take off++l++cs.toList.drop (off+l.length)).toArray ty (0,0))],_,.inr ⟨?_,by simp⟩,λz h=>?_,by rw[show([p].flatMap λp=>bN (c p))=_ by simp only[jw,ka,hc,bN];rfl];exact bc.setRow (cs.toList.take off++l++cs.toList.drop (off+l.length)).toArray hb⟩
   ·unfold execOp
    simp only[hop,nk ha,uh hl,Instr.storeAt,Instr.sureAddr,eF,jg,dZ,ug hb (Nat.le_of_ble_eq_true h2) (List.all_eq_true.1 h3) h4]
   ·rw[List.mem_singleton.1 h]
    rfl
  ·exact(bG he).elim
 ·exact(bG he).elim
def ss(p:Nat):MH P (λ_=>undef):=⟨[p],xx P p,I3 p⟩
def xy(P:Program)(p g off:Nat)(t:TypeId)(l:List Value)(cs cs':Array Value)(o:Oper)(ρ:Operand→Value)(_:cx):MD:=match o.op with
 | .store T x y=>⟨[(p,ob g cs t)],λ_=>[(p,ob g cs' t)],[sE (lm (ρ x)) (some (g,off)),sE (nm (ρ y)) (some l),sE ((P.info? T).map (·.size)) (some l.length)]⟩
 | _=>MD.bad
theorem I4(p g off:Nat)(t:TypeId)(l:List Value)(cs cs':Array Value)(h:cs.toList.take off++l++cs.toList.drop (off+l.length)=cs'.toList)(hb:off+l.length≤cs.size)(h1: ∀u∈l,u.oneCell'=true):MD.ok P (λ_=>undef) (xy P p g off t l cs cs') [p]:=by
 intro o ρ C he w c hH
 unfold xy at he hH⊢
 split at he
 ·rename_i T x y hop
  simp only[hop] at hH⊢
  simp only[jh,ir,or_false,forall_eq_or_imp,forall_eq,sE] at he
  obtain⟨ha,hv,h4⟩:=he
  obtain⟨hc,hbk⟩:=hH.one
  have e:cs'=(cs.toList.take off++l++cs.toList.drop (off+l.length)).toArray:=by rw[h]
  subst e
  refine⟨ab.zero,λ_=>[(g,.cells (cs.toList.take off++l++cs.toList.drop (off+l.length)).toArray t (0,0))],_,.inr ⟨?_,by simp⟩,λz h=>?_,by rw[show([p].flatMap λp=>bN (c p))=_ by simp only[jw,ka,hc,bN];rfl];exact bc.setRow (cs.toList.take off++l++cs.toList.drop (off+l.length)).toArray hbk⟩
  ·unfold execOp
   simp only[hop,nk ha,uh hv,Instr.storeAt,Instr.sureAddr,eF,jg,dZ,ug hbk hb h1 h4]
  ·rw[List.mem_singleton.1 h]
   rfl
 ·exact(bG he).elim
def sg(p g off:Nat)(t:TypeId)(l:List Value)(cs cs':Array Value)(h:cs.toList.take off++l++cs.toList.drop (off+l.length)=cs'.toList)(hb:off+l.length≤cs.size)(h1: ∀u∈l,u.oneCell'=true):MH P (λ_=>undef):=⟨[p],xy P p g off t l cs cs',I4 p g off t l cs cs' h hb h1⟩
def Bw(P:Program)(s:Sem Next)(v:ab→Value)(rd:Wr)(ob:List Nat)(wt:ab→Wr):Prop:=∀(w:World) (c:gJ),mI rd c w→
 ∃(E:ab) (z:gJ) (w':World),(s.run P w= .ok (.value (v E)) w'∨(s.run P w= .ok .skip w'∧v E=undef))∧(∀x∈wt E,x.2.sat (z x.1))∧bc (ob.flatMap λp=>bN (c p)) ((wt E).flatMap λx=>z x.1) w w'
end
end Go.Proofs.YtbcodenfkijdnaaGreat.E
namespace Go.Proofs.YtbcodenfkijdnaaGreat.E
open Go Go.RowKit Go.Shelf
open List renaming getElem?_eq_getElem→dZ,getD_eq_getElem?_getD→eF,getElem_mem→ir,getElem_of_mem→jg,getElem?_eq_none_iff→jh,getElem?_map→jm,flatMap_def→jw,mem_of_getElem?→ka,pairwise_iff_getElem→oG,getElem?_cons_zero→po,mem_cons→pD,pairwise_flatten→p4,pairwise_flatMap→p6,mem_append_left→qz,length→qA,length_cons→qB,not_mem_nil→rj,length_map→rm,length_set→rn,mem_append→sG
open Go.Result renaming andThen_ok→kP
open Nat renaming lt_or_gt_of_ne→na
open Option renaming map_some→nN
open Go.Sem renaming run_pure→n7,run_bind→qx
section
variable {R:List Nat} {base W W' w:World} {L L' N:ah}
theorem nn: ∀{L:ah} {cs:List aw},bu L cs→∀{i:Nat} {x:az},L[i]? =some x→x.sat (cs.getD i [])
 | y::L,c::cs,h,0,x,hx=>by simp only[po,Option.some.injEq] at hx;subst hx;exact h.1
 | y::L,c::cs,h,i+1,x,hx=>nn h.2 (by simpa using hx)
 | [],[],_,i,x,hx=>by simp at hx
 | [],_::_,h,_,_,_=>h.elim
 | _::_,[],h,_,_,_=>h.elim
theorem ui{c:gJ}: ∀{L:ah} {ps:List Nat},ps.length=L.length→(∀(i:Nat) (x:az),L[i]? =some x→x.sat (c (ps.getD i 0)))→bu L (ps.map c)
 | [],[],_,_=>trivial
 | x::L,p::ps,h,hs=>⟨hs 0 x rfl,ui (by simpa using h) λi y hy=>hs (i+1) y (by simpa using hy)⟩
 | [],_::_,h,_=>by simp at h
 | _::_,[],h,_=>by simp at h
theorem eG{x:az}{xs:ah}{cs:List aw}(h:bu (x::xs) cs): ∃d ds,cs=d::ds∧x.sat d∧bu xs ds:=by
 cases cs with
 | nil=>exact h.elim
 | cons d ds=>exact⟨d,ds,rfl,h.1,h.2⟩
theorem o0{cs:List aw}(h:bu [] cs):cs=[]:=by
 cases cs with
 | nil=>rfl
 | cons d ds=>exact h.elim
theorem oc{α:Type}{d:α}{cs:List α}{i:Nat}(h:i<cs.length):cs.getD i d∈cs:=by
 rw[eF,dZ h];exact ir h
theorem qb{α:Type}{d:α}{cs:List α}{i:Nat}(h: ¬i<cs.length):cs.getD i d=d:=by
 rw[eF,List.getElem?_eq_none Om];rfl
theorem rK{cs:List aw}(h:cs.flatten.Pairwise λx y=>x.1≠y.1):(∀i,(cs.getD i []).Pairwise λx y=>x.1≠y.1)∧∀i j,i≠j→∀z∈cs.getD i [],∀u∈cs.getD j [],z.1≠u.1:=by
 rw[p4] at h
 refine⟨λi=>?_,λi j hne z hz u hu=>?_⟩
 ·by_cases hi:i<cs.length
  ·exact h.1 _ (oc hi)
  ·rw[qb hi];exact List.Pairwise.nil
 ·by_cases hi:i<cs.length
  ·by_cases hj:j<cs.length
   ·have hp:=List.pairwise_iff_getElem.1 h.2
    rw[eF,dZ hi] at hz
    rw[eF,dZ hj] at hu
    rcases na hne with l | l
    ·exact hp i j hi hj l z hz u hu
    ·exact Ne.symm (hp j i hj hi l u hu z hz)
   ·rw[qb hj] at hu;simp at hu
  ·rw[qb hi] at hz;simp at hz
theorem aD.start{cs:List aw}(hs:bu L cs)(hh:Has cs.flatten w):aD (bN cs.flatten) w L w:=by
 have ha:=rK hh.nd
 have hl:=jS hs
 have hm: ∀i,∀z∈cs.getD i [],z∈cs.flatten:=λi z hz=>by
  by_cases hi:i<cs.length
  ·exact List.mem_flatten.2 ⟨_,oc hi,hz⟩
  ·rw[qb hi] at hz;simp at hz
 exact⟨λi=>cs.getD i [],λp hp x hx=>nn hs hx,λp hp hx=>by rw[jh] at hx;omega,λp _ z hz=>hh.obj z (hm p z hz),λp _=>ha.1 p,λp q _ _ hne=>ha.2 p q hne,
  λp _ z hz=> .inl (List.mem_map.2 ⟨z,hm p z hz,rfl⟩),rfl,rfl,rfl,Nat.le_refl _,λ_ _ _=>rfl⟩
def rL:List ah→ah→Prop
 | [],[]=>True
 | N::Ns,x::xs=>(∀ds,bu N ds→x.sat ds.flatten)∧rL Ns xs
 | _,_=>False
theorem Bx: ∀{Ns:List ah} {L:ah},rL Ns L→Ns.length=L.length
 | [],[],_=>rfl
 | _::_,_::_,h=>by rw[qB,qB,Bx h.2]
 | [],_::_,h=>h.elim
 | _::_,[],h=>h.elim
theorem By: ∀{Ns:List ah} {L:ah},rL Ns L→∀{i:Nat} {x:az},L[i]? =some x→∃N,Ns[i]? =some N∧∀ds,bu N ds→x.sat ds.flatten
 | N::Ns,y::L,h,0,x,hx=>by simp only[po,Option.some.injEq] at hx;subst hx;exact⟨N,rfl,h.1⟩
 | N::Ns,y::L,h,i+1,x,hx=>by
  obtain⟨M,h1,h2⟩:=By h.2 (i:=i) (x:=x) (by simpa using hx)
  exact⟨M,by simpa using h1,h2⟩
 | [],[],_,i,x,hx=>by simp at hx
 | [],_::_,h,_,_,_=>h.elim
 | _::_,[],h,_,_,_=>h.elim
theorem I5(x:az): ∀ds,bu [x] ds→x.sat ds.flatten:=λds h=>by
 obtain⟨d,es,rfl,h1,h2⟩:=eG h
 rw[o0 h2]
 simpa using h1
theorem Bz: ∀L:ah,rL (L.map λx=>[x]) L
 | []=>trivial
 | x::L=>⟨I5 x,Bz L⟩
theorem BA{gs:List (List Nat)}(h:gs.flatten.Nodup){i j a b p:Nat}{g g':List Nat}(hi:gs[i]? =some g)(hj:gs[j]? =some g')(ha:g[a]? =some p)(hb:g'[b]? =some p):i=j∧a=b:=by
 unfold List.Nodup at h
 rw[p4] at h
 by_cases e:i=j
 ·subst e
  rw[hi] at hj
  cases hj
  refine⟨rfl,?_⟩
  have hp:=List.pairwise_iff_getElem.1 (h.1 g (ka hi))
  obtain⟨ha1,ha2⟩:=List.getElem?_eq_some_iff.1 ha
  obtain⟨hb1,hb2⟩:=List.getElem?_eq_some_iff.1 hb
  apply Classical.byContradiction
  intro hne
  rcases na hne with l | l
  ·exact hp a b ha1 hb1 l (ha2.trans hb2.symm)
  ·exact hp b a hb1 ha1 l (hb2.trans ha2.symm)
 ·exfalso
  have hp:=List.pairwise_iff_getElem.1 h.2
  obtain⟨hi1,hi2⟩:=List.getElem?_eq_some_iff.1 hi
  obtain⟨hj1,hj2⟩:=List.getElem?_eq_some_iff.1 hj
  have m1:=ka ha
  have m2:=ka hb
  rw[←hi2] at m1
  rw[←hj2] at m2
  rcases na e with l | l
  ·exact hp i j hi1 hj1 l p m1 p m2 rfl
  ·exact hp j i hj1 hi1 l p m2 p m1 rfl
theorem aD.re(h:aD R base L W)(gs:List (List Nat)){Ns:List ah}(he:(dx gs.flatten,gs.map λg=>g.map λp=>L[p]?)=(true,Ns.map λN=>N.map some))(hs:rL Ns L'):aD R base L' W:=by
 obtain⟨c,hO⟩:=h
 have hn:=oa (ALca (·.1) he)
 have hN:=ALca (·.2) he
 simp only at hN
 have hlen:gs.length=L'.length:=by
  have h1:=ALca qA hN
  rw[rm,rm] at h1
  exact h1.trans (Bx hs)
 have gi: ∀i,i<L'.length→∃g N,gs[i]? =some g∧Ns[i]? =some N∧g.map (λp=>L[p]?)=N.map some:=by
  intro i hi
  have h1:=ALca (λz=>z[i]?) hN
  simp only[jm] at h1
  rw[dZ (by omega:i<gs.length)] at h1
  cases hq:Ns[i]? with
  | none=>rw[hq] at h1;simp at h1
  | some N=>rw[hq] at h1;exact⟨gs[i],N,dZ Om,rfl,by simpa using h1⟩
 have inL: ∀{g:List Nat} {N:ah},g.map (λp=>L[p]?)=N.map some→∀p∈g,p<L.length:=by
  intro g N e p hp
  have:L[p]?∈N.map some:=by rw[←e];exact List.mem_map.2 ⟨p,hp,rfl⟩
  obtain⟨x,_,hx⟩:=List.mem_map.1 this
  exact(List.getElem?_eq_some_iff.1 hx.symm).1
 have cG: ∀i g,gs[i]? =some g→(gs.getD i [])=g:=λi g hg=>by rw[eF,hg];rfl
 refine⟨λi=>(gs.getD i []).flatMap c,?_,?_,?_,?_,?_,?_,hO.os,hO.tape,hO.output,hO.size,hO.far⟩
 ·intro i hi x hx
  obtain⟨g,N,h1,h2,h3⟩:=gi i hi
  obtain⟨N',h4,h5⟩:=By hs hx
  rw[h2] at h4
  cases h4
  rw[cG i g h1]
  have hS:bu N (g.map c):=by
   refine ui (by have:=ALca qA h3;simpa using this) λj y hy=>?_
   have h6:=ALca (λz=>z[j]?) h3
   simp only[jm,hy,nN] at h6
   cases hg:g[j]? with
   | none=>rw[hg] at h6;simp at h6
   | some p=>
    rw[hg] at h6
    rw[eF,hg]
    have h7:L[p]? =some y:=by simpa using h6
    exact hO.sat p (List.getElem?_eq_some_iff.1 h7).1 y h7
  have:=h5 _ hS
  rwa [←jw] at this
 ·intro i hi hx
  rw[jh] at hx
  omega
 ·intro i hi z hz
  obtain⟨g,N,h1,h2,h3⟩:=gi i hi
  rw[cG i g h1] at hz
  obtain⟨p,hp,hz⟩:=List.mem_flatMap.1 hz
  exact hO.obj p (inL h3 p hp) z hz
 ·intro i hi
  obtain⟨g,N,h1,h2,h3⟩:=gi i hi
  rw[cG i g h1,p6]
  refine⟨λp hp=>hO.inn p (inL h3 p hp),?_⟩
  rw[oG]
  intro a b ha hb hab z hz u hu
  refine hO.nd _ _ (inL h3 _ (ir ha)) (inL h3 _ (ir hb)) (λe=>?_) z hz u hu
  have:=(BA hn h1 h1 (dZ ha) (by rw[dZ hb,e])).2
  omega
 ·intro i j hi hj hne z hz u hu
  obtain⟨g,N,h1,h2,h3⟩:=gi i hi
  obtain⟨g',N',k1,k2,k3⟩:=gi j hj
  rw[cG i g h1] at hz
  rw[cG j g' k1] at hu
  obtain⟨p,hp,hz⟩:=List.mem_flatMap.1 hz
  obtain⟨q,hq,hu⟩:=List.mem_flatMap.1 hu
  refine hO.nd p q (inL h3 p hp) (inL k3 q hq) (λe=>?_) z hz u hu
  subst e
  obtain⟨a,ha1,ha2⟩:=jg hp
  obtain⟨b,hb1,hb2⟩:=jg hq
  exact hne (BA hn h1 k1 (by rw[dZ ha1,ha2]) (by rw[dZ hb1,hb2])).1
 ·intro i hi z hz
  obtain⟨g,N,h1,h2,h3⟩:=gi i hi
  rw[cG i g h1] at hz
  obtain⟨p,hp,hz⟩:=List.mem_flatMap.1 hz
  exact hO.lo p (inL h3 p hp) z hz
theorem aD.pick(h:aD R base L W)(ps:List Nat)(N:ah)(he:(dx (ps.map λp=>[p]).flatten,(ps.map λp=>[p]).map λg=>g.map λp=>L[p]?)=(true,(N.map λx=>[x]).map λN=>N.map some):=by kernel_rfl):aD R base N W:=
 h.re _ he (Bz N)
theorem aD.open(h:aD R base L W)(k:Nat){Q:aw→Prop}(hk:L[k]? =some (.p Q)): ∃bs,Q bs∧aD R base (L.set k (.c bs)) W:=by
 obtain⟨c,hO⟩:=h
 have hlt:=(List.getElem?_eq_some_iff.1 hk).1
 refine⟨c k,hO.sat k hlt _ hk,c,?_⟩
 rw[rn]
 refine⟨λp hp x hx=>?_,λp hp hx=>?_,hO.obj,hO.inn,hO.nd,hO.lo,hO.os,hO.tape,hO.output,hO.size,hO.far⟩
 ·rw[List.getElem?_set] at hx
  by_cases e:k=p
  ·subst e
   rw[ALifp rfl,ALifp hlt] at hx
   cases hx
   rfl
  ·rw[ALifn e] at hx
   exact hO.sat p hp x hx
 ·rw[jh,rn] at hx
  omega
theorem aD.fin{rd:ah}{cs:List aw}(hs:bu rd cs)(hh:Has cs.flatten w)(h:aD (bN cs.flatten) w L W')(O:List Nat)(N:ah)(ps:List Nat)(ks:List (Nat×Nat))
  (he:(dx (ps++ks.map (·.2)),ps.map (λp=>L[p]?),ks.map (λx=>L[x.2]?),(List.range rd.length).all λi=>O.contains i||ks.any λx=>x.1==i)=(true,N.map some,ks.map (λx=>some (.c (cs.getD x.1 []))),true)):
  ∃ds,bu N ds∧bc (O.flatMap λi=>bN (cs.getD i [])) ds.flatten w W':=by
 obtain⟨c,hO⟩:=h
 simp only[Prod.mk.injEq] at he
 obtain⟨h1,h2,h3,h4⟩:=he
 have hn:=oa h1
 have inL: ∀p∈ps,p<L.length:=λp hp=>by
  have:L[p]?∈N.map some:=by rw[←h2];exact List.mem_map.2 ⟨p,hp,rfl⟩
  obtain⟨x,_,hx⟩:=List.mem_map.1 this
  exact(List.getElem?_eq_some_iff.1 hx.symm).1
 have kept: ∀i,i<rd.length→i∉O→∃k,k<L.length∧k∉ps∧c k=cs.getD i []:=by
  intro i hi hn'
  have h5:=List.all_eq_true.1 h4 i (List.mem_range.2 hi)
  simp only[Bool.or_eq_true,List.any_eq_true,beq_iff_eq] at h5
  rcases h5 with h5 | ⟨x,hx,rfl⟩
  ·exact absurd (by simpa using h5) hn'
  ·obtain⟨j,hj,hx'⟩:=jg hx
   have h6:=ALca (λz=>z[j]?) h3
   simp only[jm,dZ hj,nN,hx',Option.some.injEq] at h6
   have hlt:=(List.getElem?_eq_some_iff.1 h6).1
   refine⟨x.2,hlt,λhp=>?_,hO.sat x.2 hlt _ h6⟩
   rw[List.nodup_append] at hn
   exact hn.2.2 x.2 hp x.2 (List.mem_map.2 ⟨x,hx,rfl⟩) rfl
 have inR: ∀b,b∈bN cs.flatten→∃i,i<cs.length∧∃z∈cs.getD i [],z.1=b:=by
  intro b hb
  obtain⟨z,hz,e⟩:=List.mem_map.1 hb
  obtain⟨d,hd,hz⟩:=List.mem_flatten.1 hz
  obtain⟨i,hi,e2⟩:=jg hd
  exact⟨i,hi,z,by rw[eF,dZ hi,e2];exact hz,e⟩
 have hl:=jS hs
 refine⟨ps.map c,ui (by have:=ALca qA h2;simpa using this) λj y hy=>?_,hO.os,hO.tape,hO.output,hO.size,λz hz=>?_,λz hz=>?_,?_,λb hb hnO=>?_⟩
 ·have h6:=ALca (λz=>z[j]?) h2
  simp only[jm,hy,nN] at h6
  cases hg:ps[j]? with
  | none=>rw[hg] at h6;simp at h6
  | some p=>
   rw[hg] at h6
   rw[eF,hg]
   have h7:L[p]? =some y:=by simpa using h6
   exact hO.sat p (List.getElem?_eq_some_iff.1 h7).1 y h7
 ·rw[←jw] at hz
  obtain⟨p,hp,hz⟩:=List.mem_flatMap.1 hz
  exact hO.obj p (inL p hp) z hz
 ·rw[←jw] at hz
  obtain⟨p,hp,hz⟩:=List.mem_flatMap.1 hz
  rcases hO.lo p (inL p hp) z hz with h5 | h5
  ·obtain⟨i,hi,u,hu,e⟩:=inR _ h5
   by_cases hiO:i∈O
   ·exact .inl (List.mem_flatMap.2 ⟨i,hiO,List.mem_map.2 ⟨u,hu,e⟩⟩)
   ·obtain⟨k,hk,hkp,hck⟩:=kept i Om hiO
    rw[←hck] at hu
    exact absurd e.symm (hO.nd p k (inL p hp) hk (λe=>hkp (e▸hp)) z hz u hu)
  ·exact .inr h5
 ·rw[←jw,p6]
  refine⟨λp hp=>hO.inn p (inL p hp),?_⟩
  rw[oG]
  intro i j hi hj hij z hz u hu
  refine hO.nd _ _ (inL _ (ir hi)) (inL _ (ir hj)) (λe=>?_) z hz u hu
  have hp:ps.Nodup:=(List.nodup_append.1 hn).1
  have:=(List.pairwise_iff_getElem.1 hp) i j hi hj hij
  exact this e
 ·by_cases hbR:b∈bN cs.flatten
  ·obtain⟨i,hi,z,hz,e⟩:=inR b hbR
   have hiO:i∉O:=λhm=>hnO (List.mem_flatMap.2 ⟨i,hm,List.mem_map.2 ⟨z,hz,e⟩⟩)
   obtain⟨k,hk,_,hck⟩:=kept i Om hiO
   have h5:=hO.obj k hk z (by rw[hck];exact hz)
   have h6:=hh.obj z (List.mem_flatten.2 ⟨_,oc hi,hz⟩)
   rw[←e,h5,h6]
  ·exact hO.far b hb hbR
end
theorem aD.get1{R:List Nat}{base W:World}{L:ah}(h:aD R base L W){k g:Nat}{x:Obj}(hk:L[k]? =some (.c [(g,x)])):W.heap[g]? =some x:=by
 obtain⟨c,hO⟩:=h
 have hlt:=(List.getElem?_eq_some_iff.1 hk).1
 have hc:c k=[(g,x)]:=hO.sat k hlt _ hk
 exact hO.obj k hlt (g,x) (by rw[hc];exact List.mem_singleton.2 rfl)
inductive RV (P:Program):Type
 | t (v:Value)
 | c (v:Value) (k:Nat)
 | s (l:List Value) (k:Nat)
def RV.val{P:Program}:RV P→Value
 | t v=>v
 | c v _=>v
 | s l _=> .agg l.toArray
section
variable {P:Program} {L:ah} {tmps:Array Value}
def fW(P:Program)(L:ah)(tmps:Array Value):List ResultVar→List (RV P)→List bi
 | [],[]=>[]
 | .tmp i::rs,.t v::vs=>sE (tmps.getD i undef) v::fW P L tmps rs vs
 | .cell p T::rs,.c v k::vs=>(match L[k]? with
  | some (.c [(g,.cells cs _ (0,0))])=>[sE (tmps.getD p undef) (n9 g 0),sE cs[0]? (some v),sE (λw=>(isAgg T).run P w) (λw=> .ok false w)]
  | _=>[sB false])++fW P L tmps rs vs
 | .cell p T::rs,.s l k::vs=>(match L[k]? with
  | some (.c [(g,.cells cs _ (0,0))])=>[sE (tmps.getD p undef) (n9 g 0),sE ((cs.toList.drop 0).take l.length) l,sB (dQ P T),sE ((P.info? T).map (·.size)) (some l.length)]
  | _=>[sB false])++fW P L tmps rs vs
 | _,_=>[sB false]
def od:List (RV P)→Value
 | [v]=>v.val
 | vs=> .tuple (vs.map RV.val).toArray
def oe(tmps:Array Value):ResultVar→Sem Value
 | .tmp t=>pure (tmps.getD t undef)
 | .cell a t=>do loadVar t (←asAddr (tmps.getD a undef))
theorem BB{p g:Nat}{T:TypeId}{v:Value}{W:World}(h:tmps.getD p undef=n9 g 0)(hr:(loadVar T ⟨g,0,none⟩).run P W= .ok v W):(oe tmps (.cell p T)).run P W= .ok v W:=by
 have h':tmps[p]?.getD undef= .pointer (some ⟨g,0,none⟩):=by simpa [n9] using h
 simp [oe,h',asAddr,hr]
theorem I6{R:List Nat}{base W:World}(hO:aD R base L W): ∀(rs:List ResultVar) (vs:List (RV P)),(∀e∈fW P L tmps rs vs,e.2.1=e.2.2)→(rs.mapM (oe tmps)).run P W= .ok (vs.map RV.val) W:=by
 intro rs
 induction rs with
 | nil=>
  intro vs he
  cases vs with
  | nil=>simp
  | cons v vs=>exact(bG (by simpa [fW] using he)).elim
 | cons x rs ih=>
  intro vs he
  cases vs with
  | nil=>exact(bG (by simpa [fW] using he)).elim
  | cons v vs=>
   have tail: ∀{w:Value},(oe tmps x).run P W= .ok w W→v.val=w→(∀e∈fW P L tmps rs vs,e.2.1=e.2.2)→((x::rs).mapM (oe tmps)).run P W= .ok ((v::vs).map RV.val) W:=by
    intro w h1 h2 h3
    rw[List.mapM_cons]
    simp only[qx,h1,ih vs h3,kP,n7,List.map_cons,h2]
   cases x with
   | tmp i=>
    cases v with
    | t v=>
     simp only[fW,pD,forall_eq_or_imp,sE] at he
     exact tail (w:=v) (by simp only[oe,n7];rw[he.1]) rfl he.2
    | _=>exact(bG (by simpa only[fW] using he)).elim
   | cell p T=>
    cases v with
    | t v=>exact(bG (by simpa only[fW] using he)).elim
    | c v k=>
     simp only[fW] at he
     split at he
     ·rename_i g cs ty hat
      simp only[sG,pD,rj,or_false,or_imp,forall_and,forall_eq,sE] at he
      obtain⟨⟨h1,h2,h3⟩,h4⟩:=he
      have hb:mF W g ty cs:=hO.get1 hat
      exact tail (BB h1 (ru (congrFun h3 W) ((hb.cell 0).trans h2))) rfl h4
     ·exact(bG λe he'=>he e (qz _ he')).elim
    | s l k=>
     simp only[fW] at he
     split at he
     ·rename_i g cs ty hat
      simp only[sG,pD,rj,or_false,or_imp,forall_and,forall_eq,sE,sB] at he
      obtain⟨⟨h1,h2,h3,h5⟩,h4⟩:=he
      exact tail (BB h1 (uf (hO.get1 hat) h2 h3 h5)) rfl h4
     ·exact(bG λe he'=>he e (qz _ he')).elim
theorem BC{R:List Nat}{base W:World}{fn:Func}(hO:aD R base L W)(vs:List (RV P))(he:(fW P L tmps fn.results.toList vs).map bi.lhs=(fW P L tmps fn.results.toList vs).map bi.rhs):(results fn tmps).run P W= .ok (od vs) W:=by
 have h:=I6 hO _ _ (bi.all he)
 have h2:(fn.results.mapM (oe tmps)).run P W= .ok (vs.map RV.val).toArray W:=by
  rw[Array.mapM_eq_mapM_toList,map_eq_pure_bind,qx,h]
  simp only[kP,n7]
 unfold results
 show Sem.run P (bind (fn.results.mapM (oe tmps)) _) W=_
 rw[qx,h2]
 simp only[kP,n7]
 cases vs with
 | nil=>rfl
 | cons v vs=>
  cases vs with
  | nil=>rfl
  | cons u vs=>rw[dif_neg (by simp)];rfl
end
theorem I7{F:Fence}{n:Nat}{P:Program}{fn:Func}{tmps:Array Value}{R:Ending→World→Prop}{R1:List Nat}{base:World}{L:ah}{W:World}(OW:Hid (aD R1 base L W))(vs:List (RV P))(he:(fW P L tmps fn.results.toList vs).map bi.lhs=(fW P L tmps fn.results.toList vs).map bi.rhs)
 (h:aD R1 base L W→R (.returned (od vs)) W):LeavesInM F n P fn tmps R [] .returning W:=⟨_,BC OW.out vs he,h OW.out⟩
end Go.Proofs.YtbcodenfkijdnaaGreat.E
namespace Go.Proofs.YtbcodenfkijdnaaGreat.E
open Go Go.RowKit Go.Shelf
open Go.World renaming putObj_heap_other→dZ,putObj_heap_same→ka,putObj→kP,alloc_heap_new→na
open Nat renaming lt_of_lt_of_le→eF,le_trans→ir
open List renaming mem_append_right→jg,mem_append_left→jh,flatten_append→jm,sublist_append_left→jw,mem_cons_of_mem→nN,mem_map_of_mem→n7,range→oG,flatMap_def→po
structure cD (R:List Nat) (base:World) (L:aw) (W:World):Prop where
  obj: ∀x∈L,W.heap[x.1]? =some x.2
  nd:L.Pairwise (λx y=>x.1≠y.1)
  lo: ∀x∈L,x.1∈R∨base.heap.size≤x.1
  os:W.os=base.os
  tape:W.tape=base.tape
  output:W.output=base.output
  size:base.heap.size≤W.heap.size
  far: ∀b,b<base.heap.size→b∉R→W.heap[b]? =base.heap[b]?
section
variable {R R0:List Nat} {base w W W':World} {L L':aw}
theorem cD.start{R0:aw}(H:Has R0 w):cD (R0.map (·.1)) w R0 w:=
  ⟨H.obj,H.nd,λx hx=> .inl (List.mem_map.2 ⟨x,hx,rfl⟩),rfl,rfl,rfl,Nat.le_refl _,λ_ _ _=>rfl⟩
theorem cD.lt(h:cD R base L W){x:Nat×Obj}(hx:x∈L):x.1<W.heap.size:=(Array.getElem?_eq_some_iff.1 (h.obj x hx)).1
theorem cD.sub(h:cD R base L W)(hs:L'.Sublist L):cD R base L' W:=⟨λx hx=>h.obj x (hs.subset hx),h.nd.sublist hs,λx hx=>h.lo x (hs.subset hx),h.os,h.tape,h.output,h.size,h.far⟩
end
section
variable {R R0:List Nat} {base w W W' W1:World} {L L' K:aw} {Ds:List Nat}
theorem cD.turn{O:Nat→Prop}(h:cD R base L W)(t:ff (λb=>¬O b) W W')(hL: ∀x∈L,O x.1)(hf: ∀b,b<base.heap.size→b∉R→O b):cD R base L W':=
  ⟨λx hx=>t.heap (λe=>e (hL x hx)) (h.obj x hx),h.nd,h.lo,t.os.trans h.os,t.tape.trans h.tape,t.output.trans h.output,ir h.size t.size,
    λb hb hn=>(t.same b (eF hb h.size) (λe=>e (hf b hb hn))).trans (h.far b hb hn)⟩
theorem cD.join(h:cD R base L W)(k:cD (L.map (·.1)) W L' W'):cD R base L' W':=
  ⟨k.obj,k.nd,λx hx=>(k.lo x hx).elim (λhm=>by obtain⟨y,hy,e⟩:=List.mem_map.1 hm;rw[←e];exact h.lo y hy) (λhm=> .inr (ir h.size hm)),k.os.trans h.os,k.tape.trans h.tape,k.output.trans h.output,ir h.size k.size,
    λb hb hn=>(k.far b (eF hb h.size) λhm=>by
      obtain⟨y,hy,e⟩:=List.mem_map.1 hm
      rcases h.lo y hy with h1 | h1
      · exact hn (by rw[←e];exact h1)
      · omega).trans (h.far b hb hn)⟩
theorem cD.has(h:cD R base L W):Has L W:=⟨h.obj,h.nd⟩
theorem cD.anew(h:cD R base L W):cD (L.map (·.1)) W L W:=cD.start h.has
def jT(R:List Nat)(base:World)(R0:List Nat)(w:World)(Ds:List Nat):Prop:=∀L W,cD R base L W→cD R0 w (L++Ds.map dX) W
theorem cD.seg(h:cD R0 w (L++Ds.map dX) W):jT (L.map (·.1)) W R0 w Ds:=by
  intro L' W' k
  have hp:=List.pairwise_append.1 h.nd
  have hm: ∀{D:Nat},D∈Ds→dX D∈L++Ds.map dX:=λhD=>jg _ (n7 hD)
  have hnot: ∀{D:Nat},D∈Ds→D∉L.map (·.1):=λhD hx=>by
    obtain⟨y,hy,e⟩:=List.mem_map.1 hx
    exact hp.2.2 y hy _ (n7 hD) e
  refine⟨λx hx=>?_,?_,λx hx=>?_,k.os.trans h.os,k.tape.trans h.tape,k.output.trans h.output,ir h.size k.size,λb hb hn=>?_⟩
  · rcases List.mem_append.1 hx with hx | hx
    · exact k.obj x hx
    · obtain⟨D,hD,rfl⟩:=List.mem_map.1 hx
      exact(k.far D (h.lt (hm hD)) (hnot hD)).trans (h.obj _ (hm hD))
  · refine List.pairwise_append.2 ⟨k.nd,hp.2.1,λx hx y hy e=>?_⟩
    obtain⟨D,hD,rfl⟩:=List.mem_map.1 hy
    rcases k.lo x hx with h1 | h1
    · exact hnot hD (by rw[←show x.1=D from e];exact h1)
    · have:=h.lt (hm hD)
      have e':x.1=D:=e
      have h2:(dX D).1=D:=rfl
      omega
  · rcases List.mem_append.1 hx with hx | hx
    · rcases k.lo x hx with h1 | h1
      · obtain⟨y,hy,e⟩:=List.mem_map.1 h1
        rw[←e]
        exact h.lo y (jh _ hy)
      · exact .inr (ir h.size h1)
    · exact h.lo x (jg _ hx)
  · refine(k.far b (eF hb h.size) λhx=>?_).trans (h.far b hb hn)
    obtain⟨y,hy,e⟩:=List.mem_map.1 hx
    rcases h.lo y (jh _ hy) with h1 | h1
    · exact hn (by rw[←e];exact h1)
    · omega
theorem jT.mark{D:Nat}(c:jT R base R0 w Ds)(h:cD R base (L++[dX D]) W):jT (L.map (·.1)) W R0 w (D::Ds):=by
  intro L' W' k
  have h1:cD R base (L++[D].map dX) W:=h
  have h2:=c _ _ (h1.seg L' W' k)
  simpa using h2
theorem cD.unmark{D:Nat}{M:aw}(o:Obj)(h:cD R base (L++dX D::M) W):cD R base (L++M) (W.putObj D o):=by
  have hp:=List.pairwise_append.1 h.nd
  have hpc:=List.pairwise_cons.1 hp.2.1
  have hD:dX D∈L++dX D::M:=by simp
  have hne: ∀x∈L++M,x.1≠D:=λx hx=>by
    rcases List.mem_append.1 hx with hx | hx
    · exact hp.2.2 x hx (dX D) (by simp)
    · exact Ne.symm (hpc.1 x hx)
  have hin: ∀x∈L++M,x∈L++dX D::M:=λx hx=>by
    rcases List.mem_append.1 hx with hx | hx
    · exact jh _ hx
    · exact jg _ (nN _ hx)
  refine⟨λx hx=>(dZ (hne x hx)).trans (h.obj x (hin x hx)),?_,λx hx=>h.lo x (hin x hx),h.os,h.tape,h.output,by simpa [kP] using h.size,λb hb hn=>?_⟩
  · exact List.pairwise_append.2 ⟨hp.1,hpc.2,λx hx y hy=>hp.2.2 x hx y (nN _ hy)⟩
  · refine(dZ ?_).trans (h.far b hb hn)
    rintro rfl
    rcases h.lo _ hD with h1 | h1
    · exact hn h1
    · have h2:(dX b).1=b:=rfl
      omega
end
section
variable {R R0:List Nat} {base w W W':World} {L L':ah} {Ds:List Nat}
theorem aD.conc(h:aD R base L W): ∃cs,bu L cs∧cD R base cs.flatten W:=by
  obtain⟨c,hO⟩:=h
  have hm: ∀{z:Nat×Obj},z∈((oG L.length).map c).flatten→∃p,p<L.length∧z∈c p:=λhz=>by
    rw[←po] at hz
    obtain⟨p,hp,hz⟩:=List.mem_flatMap.1 hz
    exact⟨p,List.mem_range.1 hp,hz⟩
  refine⟨(oG L.length).map c,ui (by rw[List.length_range]) λi x hx=>?_,λz hz=>?_,?_,λz hz=>?_,hO.os,hO.tape,hO.output,hO.size,hO.far⟩
  · have hi:=(List.getElem?_eq_some_iff.1 hx).1
    rw[List.getD_eq_getElem?_getD,List.getElem?_range hi]
    exact hO.sat i hi x hx
  · obtain⟨p,hp,hz⟩:=hm hz
    exact hO.obj p hp z hz
  · rw[←po,List.pairwise_flatMap]
    refine⟨λp hp=>hO.inn p (List.mem_range.1 hp),?_⟩
    exact List.Pairwise.imp_of_mem (λ{a b} ha hb hne z hz u hu=>hO.nd a b (List.mem_range.1 ha) (List.mem_range.1 hb) hne z hz u hu) (show(oG L.length).Pairwise (· ≠ ·) from List.nodup_range)
  · obtain⟨p,hp,hz⟩:=hm hz
    exact hO.lo p hp z hz
theorem aD.ofS{cs:List aw}(hs:bu L cs)(h:cD R base cs.flatten W):aD R base L W:=by
  have ha:=rK h.nd
  have hl:=jS hs
  have hm: ∀i,∀z∈cs.getD i [],z∈cs.flatten:=λi z hz=>by
    by_cases hi:i<cs.length
    · exact List.mem_flatten.2 ⟨_,oc hi,hz⟩
    · rw[qb hi] at hz;simp at hz
  exact⟨λi=>cs.getD i [],λp hp x hx=>nn hs hx,λp hp hx=>by rw[List.getElem?_eq_none_iff] at hx;omega,λp _ z hz=>h.obj z (hm p z hz),λp _=>ha.1 p,λp q _ _ hne=>ha.2 p q hne,
    λp _ z hz=>h.lo z (hm p z hz),h.os,h.tape,h.output,h.size,h.far⟩
abbrev mk(D:Nat):az:= .c [dX D]
theorem kG: ∀{L L':ah} {cs ds:List aw},bu L cs→bu L' ds→bu (L++L') (cs++ds)
  | [],_,[],_,_,h=>h
  | _::_,_,_::_,_,h,k=>⟨h.1,kG h.2 k⟩
  | [],_,_::_,_,h,_=>h.elim
  | _::_,_,[],_,h,_=>h.elim
theorem og: ∀{L L':ah} {cs:List aw},bu (L++L') cs→∃ds es,cs=ds++es∧bu L ds∧bu L' es
  | [],_,cs,h=>⟨[],cs,rfl,trivial,h⟩
  | x::L,L',[],h=>h.elim
  | x::L,L',d::cs,h=>by
    obtain⟨ds,es,e,h1,h2⟩:=og (L:=L) h.2
    exact⟨d::ds,es,by rw[e];rfl,⟨h.1,h1⟩,h2⟩
theorem rO: ∀Ds:List Nat,bu (Ds.map mk) (Ds.map λD=>[dX D])
  | []=>trivial
  | _::Ds=>⟨rfl,rO Ds⟩
theorem qc: ∀{Ds:List Nat} {es:List aw},bu (Ds.map mk) es→es.flatten=Ds.map dX
  | [],[],_=>rfl
  | D::Ds,e::es,h=>by
    have h1:e=[dX D]:=h.1
    rw[List.flatten_cons,h1,qc h.2]
    rfl
  | [],_::_,h=>h.elim
  | _::_,[],h=>h.elim
theorem aD.seg(h:aD R0 w (L++Ds.map mk) W): ∃R1,Hid (jT R1 W R0 w Ds)∧Hid (aD R1 W L W):=by
  obtain⟨cs,hs,hO⟩:=h.conc
  obtain⟨ds,es,rfl,h1,h2⟩:=og hs
  rw[jm,qc h2] at hO
  exact⟨_,Lib.hid hO.seg,Lib.hid (aD.ofS h1 (cD.anew (hO.sub (jw _ _))))⟩
theorem jT.markE{D:Nat}(c:jT R base R0 w Ds)(h:aD R base (L++[mk D]) W): ∃R1,Hid (jT R1 W R0 w (D::Ds))∧Hid (aD R1 W L W):=by
  obtain⟨cs,hs,hO⟩:=h.conc
  obtain⟨ds,es,rfl,h1,h2⟩:=og hs
  rw[jm,qc (Ds:=[D]) h2] at hO
  exact⟨_,Lib.hid (c.mark hO),Lib.hid (aD.ofS h1 (cD.anew (hO.sub (jw _ _))))⟩
theorem jT.whole(c:jT R base R0 w Ds)(h:aD R base L W):aD R0 w (L++Ds.map mk) W:=by
  obtain⟨cs,hs,hO⟩:=h.conc
  refine aD.ofS (kG hs (rO Ds)) ?_
  have e:((Ds.map λD=>[dX D]):List aw).flatten=Ds.map dX:=qc (rO Ds)
  rw[jm,e]
  exact c _ _ hO
end
theorem BD{F:Fence}{n:Nat}{P:Program}{fn:Func}{tmps:Array Value}{Rp:Ending→World→Prop}{R R0:List Nat}{base w:World}{L:ah}{W:World}{Ds:List Nat}(OC:Hid (jT R base R0 w Ds))(OW:Hid (aD R base L W))(vs:List (RV P))(he:(fW P L tmps fn.results.toList vs).map bi.lhs=(fW P L tmps fn.results.toList vs).map bi.rhs)
    (h: ∀W',aD R0 w L W'→Rp (.returned (od vs)) W'):LeavesInM F n P fn tmps Rp (Ds.map ke) .returning W:=by
  obtain⟨cs,hs,hO⟩:=OW.out.conc
  have key: ∀(Ds:List Nat) (W:World),cD R0 w (cs.flatten++Ds.map dX) W→LeavesInM F n P fn tmps Rp (Ds.map ke) .returning W:=by
    intro Ds
    induction Ds with
    | nil=>
      intro W hO
      have hO':aD R0 w L W:=aD.ofS hs (by simpa using hO)
      exact⟨_,BC hO' vs he,h _ hO'⟩
    | cons D Ds ih=>
      intro W hO
      have hg:W.heap[D]? =some (.deferred (some [])):=hO.obj (dX D) (by simp)
      exact⟨by simp,.inl ⟨D,_,rfl,run_takeDeferred hg,ih _ (hO.unmark _)⟩⟩
  exact key Ds W (OC.out _ W hO)
structure ik (K O O':Nat→Prop) (W W':World):Prop where
  size:W.heap.size≤W'.heap.size
  old: ∀b,b<W.heap.size→O' b→O b
  new: ∀b,O' b→b<W'.heap.size
  keep: ∀b,b<W.heap.size→(¬O b∨K b)→W'.heap[b]? =W.heap[b]?
theorem ik.trans{K A B C:Nat→Prop}{W W1 W2:World}(h:ik K A B W W1)(k:ik K B C W1 W2):ik K A C W W2:=by
  refine⟨ir h.size k.size,λb hb hc=>h.old b hb (k.old b (eF hb h.size) hc),k.new,λb hb hk=>?_⟩
  refine(k.keep b (eF hb h.size) ?_).trans (h.keep b hb hk)
  rcases hk with hk | hk
  · exact .inl λhB=>hk (h.old b hb hB)
  · exact .inr hk
def o1{α:Type}(F:Fence)(n:Nat)(P:Program)(g:Nat)(lb:Array Value)(encs:α→Array Value)(xs:List α)(K:Nat→Prop)(St:(Nat→Prop)→World→Prop):Prop:=
  ∀(l:Nat) (J Jx:Nat→(Nat→Prop)→World→Prop) (W:World) (O:Nat→Prop),St O W→gU J→gU Jx→(∀b,O b→b<W.heap.size)→
    (∀i x O1 W1,xs[i]? =some x→J i O1 W1→W.heap.size≤W1.heap.size→YieldAt F (n-1) P l (encs x) W1 λe W'=>∃O',ik K O1 O' W1 W'∧
      ((e= .returned (.bool true)∧J (i+1) O' W')∨(e= .returned (.bool false)∧Jx (i+1) O' W')))→
    J 0 O W→
    CallsIn F n P g (#[.func (.yield l) #[] #[]]++lb) W λe W'=>(∃v,e= .returned v)∧((∃O',J xs.length O' W')∨∃i,i<xs.length∧∃O',Jx (i+1) O' W')
def BE(K:Nat→Prop)(I:Nat→(Nat→Prop)→World→Prop)(Ix:Code→Nat→(Nat→Prop)→World→Prop)(i:Nat)(O:Nat→Prop)(W:World):Exit→Act→World→Prop
  | .normal,_,W'=>∃O',ik K O O' W W'∧I i O' W'
  | .ret,_,W'=>∃O',ik K O O' W W'∧Ix .ret i O' W'
  | .exit id,_,W'=>∃O',ik K O O' W W'∧Ix (.exit id) i O' W'
  | .goto t,_,W'=>∃O',ik K O O' W W'∧Ix (.goto t) i O' W'
  | .panic _,_,_=>False
  | .outgrown,_,_=>False
theorem BF{α:Type}{F:Fence}{n:Nat}{P:Program}{g:Operand}{ps:Array Tmp}{assign body:Code}{Q:Exit→Act→World→Prop}{a:Act}{w:World}
    (hro:F.round=none) (h1:1≤n) {gf:Nat} {lb:Array Value} (hg:a.eval g= .func (.func gf) #[] lb) (hFg:F.fn gf) (eg: ∀args w,(callFunc gf args).run P w= .ok (.enter gf args) w)
    {encs:α→Array Value} {xs:List α} {K:Nat→Prop} {St:(Nat→Prop)→World→Prop} (hit:o1 F (n-1) P gf lb encs xs K St) (O:Nat→Prop)
    (hSt: ∀W,(∀b,b<w.heap.size→W.heap[b]? =w.heap[b]?)→∀O1:Nat→Prop,(∀b,b<w.heap.size→O1 b→O b)→St O1 W) (hO: ∀b,O b→b<w.heap.size) (hKl: ∀b,K b→b<w.heap.size) (hps: ∀x,(encs x).size=ps.size)
    (I:Nat→(Nat→Prop)→World→Prop) (Ix:Code→Nat→(Nat→Prop)→World→Prop) (hI:gU I) (hIx: ∀c,gU (Ix c)) (h0:I 0 O w)
    (hround: ∀(l i:Nat) (x:α) (O1:Nat→Prop) (W:World),xs[i]? =some x→w.heap.size+2≤W.heap.size→I i O1 W→
      assign.wpIn (F.inRound l) (n-1-1) P (Exit.then (λa' Wa=>∃Oa,ik K O1 Oa W Wa∧∀U,ff (λb=>¬Oa b) Wa U→U.heap.size=Wa.heap.size→
        body.wpIn (F.inRound l) (n-1-1) P (BE K I Ix (i+1) Oa U) a' U) (λ_ _ _=>False)) {tmps:=(ps.zip (encs x)).foldl (λt (p,v)=>t.setIfInBounds p v) a.tmps,defers:=[]} W)
    (hdone: ∀(D:Nat) (O1:Nat→Prop) (W:World),w.heap.size≤D→¬O1 D→I xs.length O1 W→W.heap[D]? =some (.deferred (some []))→Q .normal {a with defers:={target:= .collected D,args:=#[]}::a.defers} W)
    (hstop: ∀(D:Nat) (c:Code) (i:Nat) (O1:Nat→Prop) (W:World),w.heap.size≤D→¬O1 D→i<xs.length→Ix c (i+1) O1 W→W.heap[D]? =some (.deferred (some []))→c.wpIn F n P Q {a with defers:={target:= .collected D,args:=#[]}::a.defers} W):
    (Code.rangeFunc g ps assign body).wpIn F n P Q a w:=by
  refine wpIn_rangeFunc ?_
  intro fn hfn
  rw[hro]
  obtain⟨B,hB⟩: ∃B,w.heap.size=B:=⟨_,rfl⟩
  obtain⟨rec,hrec⟩: ∃rec:LoopState→Option Code→Loop,rec=λst pe=>{state:=st,pending:=pe,fn,tmps:=a.tmps,params:=ps,assign,body,defers:=B}:=⟨_,rfl⟩
  obtain⟨V,hV⟩: ∃V,(w.alloc (.deferred (some []))).alloc (.loop (rec .ready none))=V:=⟨_,rfl⟩
  have vl:V.heap[B+1]? =some (.loop (rec .ready none)):=by
    rw[←hV,←hB];have:=na (w.alloc (.deferred (some []))) (.loop (rec .ready none));rwa [World.size_alloc] at this
  have vd:V.heap[B]? =some (.deferred (some [])):=by
    rw[←hV,←hB];exact(Below.heap_alloc _ _ _ (by simp)).trans (na w _)
  have vo: ∀b,b<B→V.heap[b]? =w.heap[b]? :=by
    intro b hb
    rw[←hV];exact(Below.heap_alloc _ _ _ (by simp;omega)).trans (Below.heap_alloc _ _ _ Om)
  have vI:I 0 O V:=by
    rw[←hV];exact hI 0 _ _ _ (hI 0 _ _ _ h0 (ff.alloc _ _ _)) (ff.alloc _ _ _)
  have vs:V.heap.size=B+2:=by rw[←hV,←hB];simp
  refine⟨B+1,[{target:= .collected B,args:=#[]}],V,{target:= .fn (.func gf) lb,args:=#[.func (.yield (B+1)) #[] #[]]},V,gf,
    #[.func (.yield (B+1)) #[] #[]]++lb,V,?_,?_,?_,?_,λ_=>h1,?_⟩
  · rw[←hV,hrec,←hB];exact run_enterLoop_outer _ _ _ _ _
  · simp only[resolve,hg]
    simp [go_sem]
  · intro f' hf';simp [Target.leads] at hf';subst hf';exact hFg
  · simp [invoke,go_sem,eg]
  · obtain⟨up,hup⟩: ∃up:(Nat→Prop)→Nat→Prop,up=λOc b=>Oc b∨b=B∨b=B+1:=⟨_,rfl⟩
    have kept: ∀{Oc:Nat→Prop} {A C:World} {b:Nat} {o:Obj},ff (λb=>¬up Oc b) A C→(b=B∨b=B+1)→A.heap[b]? =some o→C.heap[b]? =some o:=λ{Oc A C b o} t hb ho=>
      t.heap (λe=>e (by rw[hup];exact .inr hb)) ho
    have upT: ∀{Oc:Nat→Prop} {A C:World},ff (λb=>¬up Oc b) A C→ff (λb=>¬Oc b) A C:=λ{Oc A C} t=>t.mono λb hb h=>hb (by rw[hup];exact .inl h)
    refine(hit (B+1)
      (λi O1 W=>∃Oc,O1=up Oc∧(¬Oc B∧¬Oc (B+1))∧I i Oc W∧W.heap[B+1]? =some (.loop (rec .ready none))∧W.heap[B]? =some (.deferred (some [])))
      (λi O1 W=>∃Oc,O1=up Oc∧(¬Oc B∧¬Oc (B+1))∧∃c,Ix c i Oc W∧W.heap[B+1]? =some (.loop (rec .done (some c)))∧W.heap[B]? =some (.deferred (some [])))
      V (up O) (hSt V (by rw[hB];exact vo) (up O) λb hb h=>by
        rw[hup] at h
        rcases h with h | h | h
        · exact h
        · omega
        · omega)
      (λi O1 A C hs t=>by
        obtain⟨Oc,rfl,hn,h1,h2,h3⟩:=hs
        exact⟨Oc,rfl,hn,hI i _ A C h1 (upT t),kept t (.inr rfl) h2,kept t (.inl rfl) h3⟩)
      (λi O1 A C hs t=>by
        obtain⟨Oc,rfl,hn,c,h1,h2,h3⟩:=hs
        exact⟨Oc,rfl,hn,c,hIx c i _ A C h1 (upT t),kept t (.inr rfl) h2,kept t (.inl rfl) h3⟩)
      (λb hb=>by
        rw[hup] at hb
        rcases hb with h | h | h
        · have:=hO b h;omega
        · omega
        · omega)
      ?_ ⟨O,rfl,⟨λh=>by have:=hO _ h;omega,λh=>by have:=hO _ h;omega⟩,vI,vl,vd⟩).mono ?_
    · rintro i x O1 W hx ⟨Oc,rfl,hn,hi,hl,hd⟩ hVW
      have hlt:B+1<W.heap.size:=(Array.getElem?_eq_some_iff.1 hl).1
      have hy:=run_yield (P:=P) (args:=encs x) hl (by rw[hrec];exact hps x)
      rw[hrec] at hy
      have hra:=hround (B+1) i x Oc W hx Om hi
      refine⟨fn,_,assign,body,hy,roundIn_of_wpIn hfn (wpIn_mono hra ?_)⟩
      intro e0 a0 Wa hpa
      cases e0 with
      | normal=>?_
      | ret=>exact hpa.elim
      | exit id=>exact hpa.elim
      | goto t=>exact hpa.elim
      | panic ch=>exact hpa.elim
      | outgrown=>exact hpa.elim
      obtain⟨Oa,hga,hbody⟩:=hpa
      have was:=hga.size
      have hlW:=hl
      have hdW:=hd
      have hnW:=hn
      have hltW:=hlt
      have gW:ik K (up Oc) (up Oa) W Wa:=by
        refine⟨hga.size,?_,?_,λb hb h=>hga.keep b hb (h.imp (λh e=>h (by rw[hup];exact .inl e)) id)⟩
        · intro b hb h
          rw[hup] at h⊢
          exact h.elim (λh=> .inl (hga.old b hb h)) .inr
        · intro b h
          rw[hup] at h
          rcases h with h | h | h
          · exact hga.new b h
          · omega
          · omega
      have hl:=(hga.keep (B+1) hlt (.inl hn.2)).trans hlW
      have hd:=(hga.keep B Om (.inl hn.1)).trans hdW
      have hn: ¬Oa B∧¬Oa (B+1):=⟨λh=>hnW.1 (hga.old _ Om h),λh=>hnW.2 (hga.old _ hlt h)⟩
      have hlt:B+1<Wa.heap.size:=(Array.getElem?_eq_some_iff.1 hl).1
      refine⟨_,run_beginRound hl (by rw[hrec]),?_⟩
      obtain⟨U,hU⟩: ∃U,Wa.putObj (B+1) (.loop {rec .ready none with state:= .busy})=U:=⟨_,rfl⟩
      have ul:U.heap[B+1]? =some (.loop {rec .ready none with state:= .busy}):=by rw[←hU];exact ka hlt
      have ud:U.heap[B]? =some (.deferred (some [])):=by rw[←hU];exact(dZ Om).trans hd
      have us:U.heap.size=Wa.heap.size:=by rw[←hU];simp [kP]
      have uo: ∀b,b≠B+1→U.heap[b]? =Wa.heap[b]? :=λb hb=>by rw[←hU];exact dZ hb
      have uT:ff (λb=>¬Oa b) Wa U:=by rw[←hU];exact ff.putObj Wa hn.2 _
      rw[hU]
      refine wpIn_mono (hbody U uT us) ?_
      have fin: ∀(jump:Option Code) (O2:Nat→Prop) (W3:World),ik K Oa O2 U W3→
          (Instr.endRound (B+1) jump).run P W3= .ok (.bool jump.isNone) (W3.putObj (B+1) (.loop (rec (if jump.isNone then .ready else .done) jump)))∧
          (W3.putObj (B+1) (.loop (rec (if jump.isNone then .ready else .done) jump))).heap[B+1]? =some (.loop (rec (if jump.isNone then .ready else .done) jump))∧
          (W3.putObj (B+1) (.loop (rec (if jump.isNone then .ready else .done) jump))).heap[B]? =some (.deferred (some []))∧
          (¬O2 B∧¬O2 (B+1))∧ik K (up Oa) (up O2) Wa (W3.putObj (B+1) (.loop (rec (if jump.isNone then .ready else .done) jump))):=λjump O2 W3 hk=>by
        have l3:W3.heap[B+1]? =some (.loop {rec .ready none with state:= .busy}):=(hk.keep (B+1) Om (.inl hn.2)).trans ul
        have d3:W3.heap[B]? =some (.deferred (some [])):=(hk.keep B Om (.inl hn.1)).trans ud
        have n3: ¬O2 B∧¬O2 (B+1):=⟨λh=>hn.1 (hk.old _ Om h),λh=>hn.2 (hk.old _ Om h)⟩
        have hr:=run_endRound (P:=P) jump l3
        rw[hrec] at hr⊢
        rw[hrec] at l3
        have hsz: ∀o,(W3.putObj (B+1) o).heap.size=W3.heap.size:=λo=>by simp [kP]
        have hks:=hk.size
        refine⟨hr,ka (Array.getElem?_eq_some_iff.1 l3).1,(dZ Om).trans d3,n3,⟨by rw[hsz];omega,?_,?_,?_⟩⟩
        · intro b hb h
          rw[hup] at h⊢
          exact h.elim (λh=> .inl (hk.old b Om h)) .inr
        · intro b h
          rw[hup] at h
          rw[hsz]
          rcases h with h | h | h
          · exact hk.new b h
          · omega
          · omega
        · intro b hb h
          have hne:b≠B+1:=by
            rintro rfl
            rcases h with h | h
            · exact h (by rw[hup];exact .inr (.inr rfl))
            · have:=hKl _ h;omega
          refine(dZ hne).trans ((hk.keep b Om ?_).trans (uo b hne))
          rcases h with h | h
          · exact .inl λe=>h (by rw[hup];exact .inl e)
          · exact .inr h
      have jumps: ∀(c:Code) (O2:Nat→Prop) (W3:World),ik K Oa O2 U W3→Ix c (i+1) O2 W3→∃v w',(Instr.endRound (B+1) (some c)).run P W3= .ok v w'∧∃O',ik K (up Oc) O' W w'∧
          ((Ending.returned v= .returned (.bool true)∧∃Oc',O'=up Oc'∧(¬Oc' B∧¬Oc' (B+1))∧I (i+1) Oc' w'∧w'.heap[B+1]? =some (.loop (rec .ready none))∧w'.heap[B]? =some (.deferred (some [])))∨
           (Ending.returned v= .returned (.bool false)∧∃Oc',O'=up Oc'∧(¬Oc' B∧¬Oc' (B+1))∧∃c,Ix c (i+1) Oc' w'∧w'.heap[B+1]? =some (.loop (rec .done (some c)))∧w'.heap[B]? =some (.deferred (some [])))):=λc O2 W3 hk hc=>by
        obtain⟨hr,l4,d4,n3,hg⟩:=fin (some c) O2 W3 hk
        exact⟨_,_,hr,up O2,gW.trans hg,.inr ⟨rfl,O2,rfl,n3,c,hIx c _ _ _ _ hc (ff.putObj W3 n3.2 _),l4,d4⟩⟩
      rintro e a3 W3 hp
      cases e with
      | normal=>
        obtain⟨O2,hk,hi3⟩:=hp
        obtain⟨hr,l4,d4,n3,hg⟩:=fin none O2 W3 hk
        exact⟨_,_,hr,up O2,gW.trans hg,.inl ⟨rfl,O2,rfl,n3,hI _ _ _ _ hi3 (ff.putObj W3 n3.2 _),l4,d4⟩⟩
      | ret=>obtain⟨O2,hk,hi3⟩:=hp;exact jumps _ O2 W3 hk hi3
      | exit id=>obtain⟨O2,hk,hi3⟩:=hp;exact jumps _ O2 W3 hk hi3
      | goto t=>obtain⟨O2,hk,hi3⟩:=hp;exact jumps _ O2 W3 hk hi3
      | panic ch=>exact hp.elim
      | outgrown=>exact hp.elim
    · rintro e W2 ⟨⟨v,rfl⟩,(⟨O',Oc,rfl,hn,hi,hl,hd⟩ | ⟨i,hlen,O',Oc,rfl,hn,c,hi,hl,hd⟩)⟩
      · exact⟨none,_,by have:=run_endLoop (P:=P) hl (by rw[hrec];simp);rw[hrec] at this;exact this,hdone _ _ _ Om hn.1 (hI _ _ _ _ hi (ff.putObj W2 hn.2 _)) ((dZ Om).trans hd)⟩
      · exact⟨some c,_,by have:=run_endLoop (P:=P) hl (by rw[hrec];simp);rw[hrec] at this;exact this,hstop _ c i _ _ Om hn.1 hlen (hIx c _ _ _ _ hi (ff.putObj W2 hn.2 _)) ((dZ Om).trans hd)⟩
end Go.Proofs.YtbcodenfkijdnaaGreat.E
namespace Go.Proofs.YtbcodenfkijdnaaGreat.E
open Go Go.RowKit Go.Shelf
open List renaming mem_append_right→dZ,mem_append_left→ir,flatten_append→jg,getElem?_eq_getElem→jh,mem_map_of_mem→jm,getElem?_range→jw,getElem?_map→ka
open Nat renaming le_trans→eF
def qd(R1:List Nat)(W1:World)(Rel:ah→Prop)(W':World):Prop:=∃L',aD R1 W1 L' W'∧Rel L'
def mc(R1:List Nat)(W1:World)(Rel:ah→Prop)(Rx:Code→ah→Prop):Exit→Act→World→Prop
 | .normal,_,W'=>qd R1 W1 Rel W'
 | .ret,_,W'=>qd R1 W1 (Rx .ret) W'
 | .exit id,_,W'=>qd R1 W1 (Rx (.exit id)) W'
 | .goto t,_,W'=>qd R1 W1 (Rx (.goto t)) W'
 | .panic _,_,_=>False
 | .outgrown,_,_=>False
def o2(U:Nat→Prop)(bs:aw)(b:Nat):Prop:=U b∨∃x∈bs,x.1=b
def o3(U:Nat→Prop)(m:Nat)(R:List Nat)(base:World)(Rel:Nat→ah→Prop)(i:Nat)(O:Nat→Prop)(W:World):Prop:=
 ∃L cs,Rel i L∧bu L cs∧O=o2 U cs.flatten∧cD R base cs.flatten W∧m≤W.heap.size∧∀x∈cs.flatten,¬U x.1
def jn(KO:aw)(L:ah):Prop:=∀x∈KO,∃bs,az.c bs∈L∧x∈bs
theorem jn.mem{KO:aw}{L:ah}{cs:List aw}(h:jn KO L)(hs:bu L cs): ∀x∈KO,x∈cs.flatten:=by
 intro x hx
 obtain⟨bs,hm,hb⟩:=h x hx
 obtain⟨i,hi,e⟩:=List.getElem_of_mem hm
 have h1:cs.getD i []=bs:=nn hs (i:=i) (x:= .c bs) (by rw[jh hi,e])
 have hl:i<cs.length:=by rw[←jS hs];exact hi
 exact List.mem_flatten.2 ⟨_,oc hl,by rw[h1];exact hb⟩
section
variable {U:Nat→Prop} {m:Nat} {R:List Nat} {base:World} {Rel:Nat→ah→Prop}
theorem o3.stay(hU: ∀b,b<base.heap.size→b∉R→U b):gU (o3 U m R base Rel):=by
 rintro i O W W' ⟨L,cs,h1,hs,rfl,h3,h4,h5⟩ t
 exact⟨L,cs,h1,hs,rfl,h3.turn t (λx hx=> .inr ⟨x,hx,rfl⟩) (λb hb hn=> .inl (hU b hb hn)),eF h4 t.size,h5⟩
theorem BG{K:Nat→Prop}{bs bs':aw}{W1 W':World}(h1:cD (bN bs) W1 bs' W')(hO:cD R base bs W1)(hm:m≤W1.heap.size)(hU: ∀b,U b→b<m)(hn: ∀x∈bs,¬U x.1)
  (hK: ∀b,K b→b<W1.heap.size→W'.heap[b]? =W1.heap[b]?):ik K (o2 U bs) (o2 U bs') W1 W'∧cD R base bs' W'∧m≤W'.heap.size∧∀x∈bs',¬U x.1:=by
 have hb: ∀b,U b→b∉bN bs:=λb hb hx=>by
  obtain⟨y,hy,e⟩:=List.mem_map.1 hx
  exact hn y hy (by rw[e];exact hb)
 refine⟨⟨h1.size,?_,?_,?_⟩,hO.join h1,eF hm h1.size,λx hx hu=>?_⟩
 ·rintro b hb (h | ⟨y,hy,rfl⟩)
  ·exact .inl h
  ·rcases h1.lo y hy with h4 | h4
   ·obtain⟨x,hx,e⟩:=List.mem_map.1 h4
    exact .inr ⟨x,hx,e⟩
   ·omega
 ·rintro b (h | ⟨y,hy,rfl⟩)
  ·have:=hU b h;have:=h1.size;omega
  ·exact h1.lt hy
 ·intro b hlt hk
  rcases hk with hk | hk
  ·refine h1.far b hlt λhx=>?_
   obtain⟨y,hy,e⟩:=List.mem_map.1 hx
   exact hk (.inr ⟨y,hy,e⟩)
  ·exact hK b hk hlt
 ·rcases h1.lo x hx with h4 | h4
  ·exact hb x.1 hu h4
  ·have:=hU _ hu;omega
theorem qd.grow{KO:aw}{i:Nat}{L:ah}{cs:List aw}{W1 W':World}(h:qd (bN cs.flatten) W1 (Rel i) W')(hs:bu L cs)(hO:cD R base cs.flatten W1)(hm:m≤W1.heap.size)(hU: ∀b,U b→b<m)(hn: ∀x∈cs.flatten,¬U x.1)
  (hK:jn KO L) (hR: ∀L',Rel i L'→jn KO L'): ∃O',ik (λb=>∃x∈KO,x.1=b) (o2 U cs.flatten) O' W1 W'∧o3 U m R base Rel i O' W':=by
 obtain⟨L',h1,h2⟩:=h
 obtain⟨ds,hd,h1⟩:=h1.conc
 obtain⟨g,h3,h4,h5⟩:=BG (K:=λb=>∃x∈KO,x.1=b) h1 hO hm hU hn (by
  rintro b ⟨x,hx,rfl⟩ _
  exact(h1.obj x ((hR L' h2).mem hd x hx)).trans (hO.obj x (hK.mem hs x hx)).symm)
 exact⟨_,g,L',ds,h2,hd,rfl,h3,h4,h5⟩
end
def fy{α:Type}(n:Nat)(P:Program)(gf:Nat)(lb:Array Value)(encs:α→Array Value)(xs:List α)(KO:aw):Prop:=
 o1 Fence.wide n P gf lb encs xs (λb=>∃x∈KO,x.1=b) (λ_=>Has KO)
def qe{α:Type}(n:Nat)(P:Program)(gf:Nat)(lb:Array Value)(encs:α→Array Value)(xs:List α)(KO XO:aw):Prop:=
 o1 Fence.wide n P gf lb encs xs (λb=>∃x∈KO,x.1=b) (λO W=>Has (KO++XO) W∧∀x∈XO,¬O x.1)
def iE(t:Array Value)(ps:Array Tmp)(vs:Array Value):Array Value:=(ps.zip vs).foldl (λt (p,v)=>t.setIfInBounds p v) t
theorem BH{α:Type}{n:Nat}{P:Program}{g:Operand}{ps:Array Tmp}{assign body:Code}{Q:Exit→Act→World→Prop}{a:Act}{W:World}
  (h1:1≤n) {gf:Nat} {lb:Array Value} (hg:a.eval g= .func (.func gf) #[] lb) (eg: ∀args w,(callFunc gf args).run P w= .ok (.enter gf args) w)
  {encs:α→Array Value} {xs:List α} {KO XO:aw} (hit:qe (n-1) P gf lb encs xs KO XO)
  {R:List Nat} {base:World} (Rel:Nat→ah→Prop) (Rx:Code→Nat→ah→Prop) {L0:ah} (OW:Hid (aD R base (L0++[.c XO]) W)) (h0:Rel 0 L0)
  (hKO: ∀i L,Rel i L→jn KO L) (hKx: ∀c i L,Rx c i L→jn KO L) (hnd:(KO++XO).Pairwise λx y=>x.1≠y.1) (hps: ∀x,(encs x).size=ps.size)
  (hround: ∀(l i:Nat) (x:α) (L:ah) (R1:List Nat) (W:World),xs[i]? =some x→Rel i L→Hid (aD R1 W L W)→
   assign.wpIn (Fence.wide.inRound l) (n-1-1) P (Exit.then (λa' Wa=>∃La,aD R1 W La Wa∧jn KO La∧∀R2 W1,Hid (aD R2 W1 La W1)→
    body.wpIn (Fence.wide.inRound l) (n-1-1) P (mc R2 W1 (Rel (i+1)) (λc=>Rx c (i+1))) a' W1) (λ_ _ _=>False)) {tmps:=iE a.tmps ps (encs x),defers:=[]} W)
  (hdone: ∀(D:Nat) (L:ah) (W2:World),Rel xs.length L→Hid (aD R base (L++[mk D]) W2)→Q .normal {a with defers:=ke D::a.defers} W2)
  (hstop: ∀(D:Nat) (c:Code) (i:Nat) (L:ah) (W2:World),i<xs.length→Rx c (i+1) L→Hid (aD R base (L++[mk D]) W2)→c.wpIn Fence.wide n P Q {a with defers:=ke D::a.defers} W2):
  (Code.rangeFunc g ps assign body).wpIn Fence.wide n P Q a W:=by
 unfold iE at hround
 obtain⟨c9,hs9,hO9⟩:=OW.out.conc
 obtain⟨c0,c1,rfl,hs0,hs1⟩:=og hs9
 have e1:c1.flatten=XO:=by
  match c1,hs1 with
  | [d],h=>have h1:d=XO:=h.1;simpa using h1
  | d::_::_,h=>exact h.2.elim
 rw[jg,e1] at hO9
 have hO0:cD R base c0.flatten W:=hO9.sub (List.sublist_append_left _ _)
 have hXn: ∀x∈c0.flatten,∀y∈XO,x.1≠y.1:=(List.pairwise_append.1 hO9.nd).2.2
 obtain⟨m,hm⟩: ∃m,W.heap.size=m:=⟨_,rfl⟩
 obtain⟨U,hUd⟩: ∃U:Nat→Prop,U=λb=>b<m∧b∉bN c0.flatten∧b∉bN XO:=⟨_,rfl⟩
 have hU: ∀b,U b→b<m:=λb h=>by rw[hUd] at h;exact h.1
 have hUR: ∀b,b<base.heap.size→b∉R→U b:=λb hb hn=>by
  rw[hUd]
  refine⟨by have:=hO0.size;omega,λhx=>?_,λhx=>?_⟩
  ·obtain⟨y,hy,e⟩:=List.mem_map.1 hx
   rcases hO0.lo y hy with h | h
   ·exact hn (by rw[←e];exact h)
   ·omega
  ·obtain⟨y,hy,e⟩:=List.mem_map.1 hx
   rcases hO9.lo y (dZ _ hy) with h | h
   ·exact hn (by rw[←e];exact h)
   ·omega
 have hn0: ∀x∈c0.flatten,¬U x.1:=λx hx h=>by rw[hUd] at h;exact h.2.1 (jm hx)
 have hset: ∀b,o2 U c0.flatten b→b<m:=λb h=>by
  rcases h with h | ⟨x,hx,rfl⟩
  ·exact hU b h
  ·have:=hO0.lt hx;omega
 have fin: ∀(D:Nat) (O1:Nat→Prop) (L:ah) (cs:List aw) (W2:World),W.heap.size≤D→¬O1 D→O1=o2 U cs.flatten→bu L cs→cD R base cs.flatten W2→W2.heap[D]? =some (.deferred (some []))→aD R base (L++[mk D]) W2:=by
  rintro D O1 L cs W2 hD hn rfl hs h hd
  refine aD.ofS (cs:=cs++[[dX D]]) (kG hs ⟨rfl,trivial⟩) ?_
  rw[jg]
  show cD R base (cs.flatten++[dX D]) W2
  refine⟨?_,?_,?_,h.os,h.tape,h.output,h.size,h.far⟩
  ·intro x hx
   rcases List.mem_append.1 hx with hx | hx
   ·exact h.obj x hx
   ·obtain rfl:=List.mem_singleton.1 hx;exact hd
  ·refine List.pairwise_append.2 ⟨h.nd,List.pairwise_singleton _ _,λx hx y hy e=>?_⟩
   obtain rfl:=List.mem_singleton.1 hy
   exact hn (.inr ⟨x,hx,e⟩)
  ·intro x hx
   rcases List.mem_append.1 hx with hx | hx
   ·exact h.lo x hx
   ·obtain rfl:=List.mem_singleton.1 hx
    exact .inr (eF hO0.size hD)
 have hK0:=(hKO 0 L0 h0).mem hs0
 refine BF (n:=n) (F:=Fence.wide) rfl h1 hg trivial eg hit (o2 U c0.flatten) (λW' hW' O1 hO1=>?_) (λb hb=>by have:=hset b hb;omega) (λb hb=>?_) hps (o3 U m R base Rel) (λc=>o3 U m R base (Rx c)) (o3.stay hUR) (λc=>o3.stay hUR) ⟨L0,c0,h0,hs0,rfl,hO0,by omega,hn0⟩ ?_ ?_ ?_
 ·refine⟨⟨λx hx=>?_,hnd⟩,λx hx h=>?_⟩
  ·have hm':x∈c0.flatten++XO:=(List.mem_append.1 hx).elim (λh=>ir _ (hK0 x h)) (dZ _)
   exact(hW' x.1 (hO9.lt hm')).trans (hO9.obj x hm')
  ·rcases hO1 x.1 (hO9.lt (dZ _ hx)) h with h | ⟨y,hy,e⟩
   ·rw[hUd] at h
    exact h.2.2 (jm hx)
   ·exact hXn y hy x hx e
 ·obtain⟨x,hx,rfl⟩:=hb
  exact hO0.lt (hK0 x hx)
 ·rintro l i x O1 W0 hx hs ⟨Ls0,cs0,hr,hsat,rfl,hO,hm0,hn1⟩
  refine wpIn_mono (hround l i x Ls0 (bN cs0.flatten) W0 hx hr (Lib.hid (aD.ofS hsat hO.anew))) ?_
  intro e0 a' Wa hpa
  cases e0 with
  | normal=>?_
  | ret=>exact hpa.elim
  | exit id=>exact hpa.elim
  | goto t=>exact hpa.elim
  | panic ch=>exact hpa.elim
  | outgrown=>exact hpa.elim
  obtain⟨La,hOa,hLa,hbody⟩:=hpa
  obtain⟨ca,hsa,hOa⟩:=hOa.conc
  obtain⟨ga,hOW,hm1,hna⟩:=BG (K:=λb=>∃x∈KO,x.1=b) hOa hO hm0 hU hn1 (by
   rintro b ⟨x,hx,rfl⟩ _
   exact(hOa.obj x (hLa.mem hsa x hx)).trans (hO.obj x ((hKO _ _ hr).mem hsat x hx)).symm)
  refine⟨_,ga,?_⟩
  intro W1 tW sW
  have hO1:cD R base ca.flatten W1:=hOW.turn tW (λx hx=> .inr ⟨x,hx,rfl⟩) (λb hb hn=> .inl (hUR b hb hn))
  have hm2:m≤W1.heap.size:=by omega
  refine wpIn_mono (hbody (bN ca.flatten) W1 (Lib.hid (aD.ofS hsa hO1.anew))) ?_
  intro e a' W' h
  cases e with
  | normal=>exact h.grow hsa hO1 hm2 hU hna hLa (hKO (i+1))
  | ret=>exact h.grow (Rel:=Rx .ret) hsa hO1 hm2 hU hna hLa (hKx .ret (i+1))
  | exit id=>exact h.grow (Rel:=Rx (.exit id)) hsa hO1 hm2 hU hna hLa (hKx (.exit id) (i+1))
  | goto t=>exact h.grow (Rel:=Rx (.goto t)) hsa hO1 hm2 hU hna hLa (hKx (.goto t) (i+1))
  | panic c=>exact h.elim
  | outgrown=>exact h.elim
 ·rintro D O1 W2 hD hn ⟨L,cs,hr,hs,he,hO,hm1,hn1⟩ hd
  exact hdone D L W2 hr (Lib.hid (fin D O1 L cs W2 hD hn he hs hO hd))
 ·rintro D c i O1 W2 hD hn hi ⟨L,cs,hr,hs,he,hO,hm1,hn1⟩ hd
  exact hstop D c i L W2 hi hr (Lib.hid (fin D O1 L cs W2 hD hn he hs hO hd))
theorem I8{α:Type}{n:Nat}{P:Program}{g:Operand}{ps:Array Tmp}{assign body:Code}{Q:Exit→Act→World→Prop}{a:Act}{W:World}
  (h1:1≤n) {gf:Nat} {lb:Array Value} (hg:a.eval g= .func (.func gf) #[] lb) (eg: ∀args w,(callFunc gf args).run P w= .ok (.enter gf args) w)
  {encs:α→Array Value} {xs:List α} {KO:aw} (hit:fy (n-1) P gf lb encs xs KO)
  {R:List Nat} {base:World} (Rel:Nat→ah→Prop) (Rx:Code→Nat→ah→Prop) {L0:ah} (OW:Hid (aD R base L0 W)) (h0:Rel 0 L0)
  (hKO: ∀i L,Rel i L→jn KO L) (hKx: ∀c i L,Rx c i L→jn KO L) (hnd:KO.Pairwise λx y=>x.1≠y.1) (hps: ∀x,(encs x).size=ps.size)
  (hround: ∀(l i:Nat) (x:α) (L:ah) (R1:List Nat) (W:World),xs[i]? =some x→Rel i L→Hid (aD R1 W L W)→
   assign.wpIn (Fence.wide.inRound l) (n-1-1) P (Exit.then (λa' Wa=>∃La,aD R1 W La Wa∧jn KO La∧∀R2 W1,Hid (aD R2 W1 La W1)→
    body.wpIn (Fence.wide.inRound l) (n-1-1) P (mc R2 W1 (Rel (i+1)) (λc=>Rx c (i+1))) a' W1) (λ_ _ _=>False)) {tmps:=iE a.tmps ps (encs x),defers:=[]} W)
  (hdone: ∀(D:Nat) (L:ah) (W2:World),Rel xs.length L→Hid (aD R base (L++[mk D]) W2)→Q .normal {a with defers:=ke D::a.defers} W2)
  (hstop: ∀(D:Nat) (c:Code) (i:Nat) (L:ah) (W2:World),i<xs.length→Rx c (i+1) L→Hid (aD R base (L++[mk D]) W2)→c.wpIn Fence.wide n P Q {a with defers:=ke D::a.defers} W2):
  (Code.rangeFunc g ps assign body).wpIn Fence.wide n P Q a W:=by
 refine BH (XO:=[]) h1 hg eg (λl J Jx W O hSt=>hit l J Jx W O (by simpa using hSt.1)) Rel Rx (Lib.hid ?_) h0 hKO hKx (by simpa using hnd) hps hround hdone hstop
 obtain⟨cs,hs,hO⟩:=OW.out.conc
 exact aD.ofS (cs:=cs++[[]]) (kG hs ⟨rfl,trivial⟩) (by simpa using hO)
structure fX (J:Nat→(Nat→Prop)→World→Prop) (K:aw) (W0:World) (L:aw) (j:Nat) (wr:World):Prop where
 ex: ∃O,J j O wr∧(∀x∈L,¬O x.1)∧∀b,O b→b<wr.heap.size
 sz:W0.heap.size≤wr.heap.size
 has:Has (K++L) wr
section
variable {J:Nat→(Nat→Prop)→World→Prop} {K:aw} {W0 wr W':World} {L L':aw} {j:Nat}
theorem fX.step(hJ:gU J)(h:fX J K W0 L j wr)(hO:cD ((K++L).map (·.1)) wr (K++L') W'):fX J K W0 L' j W':=by
 obtain⟨O,h1,h2,h3⟩:=h.ex
 have t:ff (λb=>¬O b) wr W':=⟨hO.os,hO.tape,hO.output,hO.size,λb hb hn=>by
  have hb':O b:=Classical.not_not.1 hn
  by_cases hx:b∈(K++L).map (·.1)
  ·obtain⟨y,hy,e⟩:=List.mem_map.1 hx
   rcases List.mem_append.1 hy with hy | hy
   ·rw[←e]
    exact(hO.obj y (ir _ hy)).trans (h.has.obj y (ir _ hy)).symm
   ·exact absurd hb' (by rw[←e];exact h2 y hy)
  ·exact hO.far b hb hx⟩
 refine⟨⟨O,hJ j O wr W' h1 t,λx hx hox=>?_,λb hb=>Nat.lt_of_lt_of_le (h3 b hb) hO.size⟩,eF h.sz hO.size,hO.obj,hO.nd⟩
 rcases hO.lo x (dZ _ hx) with h4 | h4
 ·obtain⟨y,hy,e⟩:=List.mem_map.1 h4
  rcases List.mem_append.1 hy with hy | hy
  ·exact(List.pairwise_append.1 hO.nd).2.2 y hy x hx e
  ·exact h2 y hy (by rw[e];exact hox)
 ·have:=h3 _ hox;omega
theorem fX.stepE{A:ah}{LE:ah}(hJ:gU J)(h:fX J K W0 L j wr)(hK: ∀ds,bu A ds→ds.flatten=K)(hO:aD ((K++L).map (·.1)) wr (A++LE) W'): ∃ds,bu LE ds∧fX J K W0 ds.flatten j W':=by
 obtain⟨es,hs,hO⟩:=hO.conc
 obtain⟨d1,d2,rfl,h1,h2⟩:=og hs
 rw[jg,hK d1 h1] at hO
 exact⟨d2,h2,h.step hJ hO⟩
end
theorem I9{α:Type}{n:Nat}{P:Program}{gf:Nat}{lb:Array Value}{encs:α→Array Value}{xs:List α}{KO:aw}
  (h: ∀(l:Nat) (J Jx:Nat→(Nat→Prop)→World→Prop) (W:World),gU J→
   Hid (∀(L:aw) (j:Nat) (x:α) (wr:World),xs[j]? =some x→fX J KO W L j wr→YieldAt Fence.wide (n-1) P l (encs x) wr λe W'=>(e= .returned (.bool true)∧fX J KO W L (j+1) W')∨(e= .returned (.bool false)∧∃O',Jx (j+1) O' W'))→
   Hid (fX J KO W [] 0 W)→CallsIn Fence.wide n P gf (#[.func (.yield l) #[] #[]]++lb) W λe W'=>(∃v,e= .returned v)∧((∃L,fX J KO W L xs.length W')∨∃i,i<xs.length∧∃O',Jx (i+1) O' W')):
  fy n P gf lb encs xs KO:=by
 intro l J Jx W O hSt hJ hJx hO hY h0
 refine(h l J Jx W hJ (Lib.hid ?_) (Lib.hid ⟨⟨O,h0,λ_ h=>by simp at h,hO⟩,Nat.le_refl _,by simpa using hSt⟩)).mono ?_
 ·intro L j x wr hx hi
  obtain⟨O1,h1,h2,h3⟩:=hi.ex
  refine(hY j x O1 wr hx h1 hi.sz).mono ?_
  rintro e W' ⟨O',hg,h4 | h4⟩
  ·refine .inl ⟨h4.1,⟨O',h4.2,λx hx hox=>?_,hg.new⟩,eF hi.sz hg.size,⟨λx hx=>?_,hi.has.nd⟩⟩
   ·have hlt:x.1<wr.heap.size:=(Array.getElem?_eq_some_iff.1 (hi.has.obj x (dZ _ hx))).1
    exact h2 x hx (hg.old _ hlt hox)
   ·have hlt:x.1<wr.heap.size:=(Array.getElem?_eq_some_iff.1 (hi.has.obj x hx)).1
    rcases List.mem_append.1 hx with hx' | hx'
    ·exact(hg.keep _ hlt (.inr ⟨x,hx',rfl⟩)).trans (hi.has.obj x hx)
    ·exact(hg.keep _ hlt (.inl (h2 x hx'))).trans (hi.has.obj x hx)
  ·exact .inr ⟨h4.1,O',h4.2⟩
 ·rintro e W' ⟨hv,h4 | h4⟩
  ·refine⟨hv,.inl ?_⟩
   obtain⟨L,hL⟩:=h4
   obtain⟨O1,h5,_⟩:=hL.ex
   exact⟨O1,h5⟩
  ·exact⟨hv,.inr h4⟩
theorem Ja{α:Type}{n:Nat}{P:Program}{gf:Nat}{lb:Array Value}{encs:α→Array Value}{xs:List α}{KO XO:aw}
  (h: ∀(l:Nat) (J Jx:Nat→(Nat→Prop)→World→Prop) (W:World),gU J→
   Hid (∀(L:aw) (j:Nat) (x:α) (wr:World),xs[j]? =some x→fX J KO W L j wr→YieldAt Fence.wide (n-1) P l (encs x) wr λe W'=>(e= .returned (.bool true)∧fX J KO W L (j+1) W')∨(e= .returned (.bool false)∧∃O',Jx (j+1) O' W'))→
   Hid (fX J KO W XO 0 W)→CallsIn Fence.wide n P gf (#[.func (.yield l) #[] #[]]++lb) W λe W'=>(∃v,e= .returned v)∧((∃L,fX J KO W L xs.length W')∨∃i,i<xs.length∧∃O',Jx (i+1) O' W')):
  qe n P gf lb encs xs KO XO:=by
 intro l J Jx W O hSt hJ hJx hO hY h0
 refine(h l J Jx W hJ (Lib.hid ?_) (Lib.hid ⟨⟨O,h0,hSt.2,hO⟩,Nat.le_refl _,hSt.1⟩)).mono ?_
 ·intro L j x wr hx hi
  obtain⟨O1,h1,h2,h3⟩:=hi.ex
  refine(hY j x O1 wr hx h1 hi.sz).mono ?_
  rintro e W' ⟨O',hg,h4 | h4⟩
  ·refine .inl ⟨h4.1,⟨O',h4.2,λx hx hox=>?_,hg.new⟩,eF hi.sz hg.size,⟨λx hx=>?_,hi.has.nd⟩⟩
   ·have hlt:x.1<wr.heap.size:=(Array.getElem?_eq_some_iff.1 (hi.has.obj x (dZ _ hx))).1
    exact h2 x hx (hg.old _ hlt hox)
   ·have hlt:x.1<wr.heap.size:=(Array.getElem?_eq_some_iff.1 (hi.has.obj x hx)).1
    rcases List.mem_append.1 hx with hx' | hx'
    ·exact(hg.keep _ hlt (.inr ⟨x,hx',rfl⟩)).trans (hi.has.obj x hx)
    ·exact(hg.keep _ hlt (.inl (h2 x hx'))).trans (hi.has.obj x hx)
  ·exact .inr ⟨h4.1,O',h4.2⟩
 ·rintro e W' ⟨hv,h4 | h4⟩
  ·refine⟨hv,.inl ?_⟩
   obtain⟨L,hL⟩:=h4
   obtain⟨O1,h5,_⟩:=hL.ex
   exact⟨O1,h5⟩
  ·exact⟨hv,.inr h4⟩
theorem oh{α:Type}{n i:Nat}{f:Nat→α}{x:α}(h:((List.range n).map f)[i]? =some x):i<n∧f i=x:=by
 rw[ka] at h
 rcases Nat.lt_or_ge i n with hi | hi
 ·rw[jw hi,Option.map_some,Option.some.injEq] at h
  exact⟨hi,h⟩
 ·rw[List.getElem?_eq_none (by rw[List.length_range];exact hi)] at h
  cases h
theorem o4{α:Type}{n i:Nat}{f:Nat→α}(h:i<n):((List.range n).map f)[i]? =some (f i):=by rw[ka,jw h];rfl
theorem rP{α:Type}(d:α){i:Nat}{xs:List α}{x:α}(h:xs[i]? =some x):i<xs.length∧xs.getD i d=x:=by
 obtain⟨hi,rfl⟩:=List.getElem?_eq_some_iff.1 h
 exact⟨hi,by rw[List.getD_eq_getElem?_getD,jh hi];rfl⟩
end Go.Proofs.YtbcodenfkijdnaaGreat.E
namespace Go.Proofs.YtbcodenfkijdnaaGreat.E
open Go Go.RowKit Go.Shelf
open Go.Result renaming andThen_ok→dZ
open List renaming length_drop→eF,length_append→ir,take_append_of_le_length→jg,drop_drop→jw,setIfInBounds_toArray→kP,getElem?_eq_none→na,drop_append_of_le_length→oG,flatMap_cons→po,replicate→p6,take_of_length_le→qA,getElem?_toArray→qB,length_take→rn,drop_zero→sN,size_toArray→tT,getElem?_eq_getElem→tX,take_length→vc,length_cons→vz,drop_left'→vA,take_append_drop→vB,replicate_succ→w6,take_succ_cons→yu,flatten_cons→yx,ext_getElem?→yS,getElem?_map→yT,append_assoc→yU,range'_succ→yV,range'→yW,getD_eq_getElem?_getD→yX,drop_eq_getElem_cons→yY,getElem?_take_of_lt→yZ,map_cons→y1,length_eq_zero_iff→y2,getElem?_range'→y8,set_append_left→AT,drop_succ_cons→AU,getElem?_drop→AX,length_range'→AZ,drop_length→A1,nil_append→Dj,headD_cons→Dl,length_nil→Dm
open Go.Sem renaming run_bind→jh,run_pure→rj
open Nat renaming zero_add→jm,succ_mul→ka,mul_le_mul_right→p4,mod_eq_of_lt→qx,mul_one→qz,le_refl→sG,add_comm→vC,add_sub_cancel_left→y4,lt_or_ge→y7,xor_lt_two_pow→A0,zero_mul→Dn
open Option renaming map_some→nN
open Int renaming toNat_natCast→n7,natCast_nonneg→sM
open Go.IntKind renaming wrap_u64→pD,wrap_i64→AV
open Bool renaming and_eq_true→rm,false_eq_true→sK
def ar(op:BinOp)(T:TypeId)(x y:Operand)(vx vy:Value):Sem Value:=do eqGuard op T x y vx vy;Go.binOp op T vx vy
section
variable {P:Program} {w:World}
theorem Jd(a b:UInt8):bits .xor .u8 (a.toNat:Int) (b.toNat:Int)=((a^^^b).toNat:Int):=by
 have ha:=a.toNat_lt
 have hb:=b.toNat_lt
 have h8: ∀c:Nat,c<256→(BitVec.ofInt 8 (c:Int)).toNat=c:=by
  intro c hc
  rw[BitVec.ofInt_natCast,BitVec.toNat_ofNat];exact qx Om
 have hx:a.toNat^^^b.toNat<2^8:=A0 ha hb
 show IntKind.u8.wrap ((BitVec.ofInt 8 (a.toNat:Int)^^^BitVec.ofInt 8 (b.toNat:Int)).toNat:Int)=_
 rw[BitVec.toNat_xor,h8 _ ha,h8 _ hb,UInt8.toNat_xor]
 exact IntWalk.u8_in _ Om
theorem Zs{T:TypeId}{x y:Operand}(a b:UInt8):(ar .xor T x y (.int .u8 (a.toNat:Int)) (.int .u8 (b.toNat:Int))).run P w= .ok (.int .u8 ((a^^^b).toNat:Int)) w:=by
 rw[←Jd];rfl
end
section
variable {P:Program} {T:TypeId} {x y:Operand} {w:World}
theorem i8{yk:IntKind}{a:Int}(n:Nat)(hn:n≤64):(ar .shr T x y (.int .i64 a) (.int yk (n:Int))).run P w= .ok (.int .i64 (a/2^n)) w:=by
 unfold ar
 simp only[jh,eqGuard_shr,rj,dZ,binOp_shr,shift_shr_i64 _ _ _ (sM n) Om,n7]
theorem uj{yk:IntKind}{a:Nat}(n:Nat)(hn:n≤64):(ar .shr T x y (.int .u64 (a:Int)) (.int yk (n:Int))).run P w= .ok (.int .u64 ((a/2^n:Nat):Int)) w:=by
 unfold ar
 simp only[jh,eqGuard_shr,rj,dZ,binOp_shr,shift_shr_u64 _ _ _ (sM n) Om,n7]
 push_cast
 rfl
theorem uk{yk:IntKind}{a:Nat}(n:Nat)(hn:n≤64)(ha:a*2^n<18446744073709551616):(ar .shl T x y (.int .u64 (a:Int)) (.int yk (n:Int))).run P w= .ok (.int .u64 ((a*2^n:Nat):Int)) w:=by
 unfold ar
 have h1:IntKind.u64.wrap ((a:Int)*2^n)=((a*2^n:Nat):Int):=by
  rw[show((a:Int)*2^n)=((a*2^n:Nat):Int) by push_cast;rfl,pD]
  omega
 simp only[jh,eqGuard_shl,rj,dZ,binOp_shl,shift_shl_u64 _ _ _ (sM n) Om,n7,h1]
theorem Je(a b:Nat)(ha:a<18446744073709551616)(hb:b<18446744073709551616):bits .or .u64 (a:Int) (b:Int)=((a||| b:Nat):Int):=by
 have h8: ∀c:Nat,c<18446744073709551616→(BitVec.ofInt 64 (c:Int)).toNat=c:=by
  intro c hc
  rw[BitVec.ofInt_natCast,BitVec.toNat_ofNat];exact qx Om
 have hx:a||| b<2^64:=Nat.or_lt_two_pow ha hb
 show IntKind.u64.wrap ((BitVec.ofInt 64 (a:Int)||| BitVec.ofInt 64 (b:Int)).toNat:Int)=_
 rw[BitVec.toNat_or,h8 a ha,h8 b hb,pD]
 omega
theorem Jf(a b:Nat)(ha:a<18446744073709551616)(hb:b<18446744073709551616):bits .xor .u64 (a:Int) (b:Int)=((a^^^b:Nat):Int):=by
 have h8: ∀c:Nat,c<18446744073709551616→(BitVec.ofInt 64 (c:Int)).toNat=c:=by
  intro c hc
  rw[BitVec.ofInt_natCast,BitVec.toNat_ofNat];exact qx Om
 have hx:a^^^b<2^64:=A0 ha hb
 show IntKind.u64.wrap ((BitVec.ofInt 64 (a:Int)^^^BitVec.ofInt 64 (b:Int)).toNat:Int)=_
 rw[BitVec.toNat_xor,h8 a ha,h8 b hb,pD]
 omega
theorem Jg(a b:UInt8):bits .and .u8 (a.toNat:Int) (b.toNat:Int)=((a&&& b).toNat:Int):=by
 have h8: ∀c:Nat,c<256→(BitVec.ofInt 8 (c:Int)).toNat=c:=by
  intro c hc
  rw[BitVec.ofInt_natCast,BitVec.toNat_ofNat];exact qx Om
 show IntKind.u8.wrap ((BitVec.ofInt 8 (a.toNat:Int)&&& BitVec.ofInt 8 (b.toNat:Int)).toNat:Int)=_
 rw[BitVec.toNat_and,h8 _ a.toNat_lt,h8 _ b.toNat_lt,←UInt8.toNat_and]
 exact IntWalk.u8_in _ (by have:=(a&&& b).toNat_lt;omega)
theorem Jh(a b:UInt8):bits .or .u8 (a.toNat:Int) (b.toNat:Int)=((a||| b).toNat:Int):=by
 have h8: ∀c:Nat,c<256→(BitVec.ofInt 8 (c:Int)).toNat=c:=by
  intro c hc
  rw[BitVec.ofInt_natCast,BitVec.toNat_ofNat];exact qx Om
 show IntKind.u8.wrap ((BitVec.ofInt 8 (a.toNat:Int)||| BitVec.ofInt 8 (b.toNat:Int)).toNat:Int)=_
 rw[BitVec.toNat_or,h8 _ a.toNat_lt,h8 _ b.toNat_lt,←UInt8.toNat_or]
 exact IntWalk.u8_in _ (by have:=(a||| b).toNat_lt;omega)
theorem BI{a b:Nat}(ha:a<18446744073709551616)(hb:b<18446744073709551616):(ar .or T x y (.int .u64 (a:Int)) (.int .u64 (b:Int))).run P w= .ok (.int .u64 ((a||| b:Nat):Int)) w:=by
 rw[←Je a b ha hb];rfl
theorem Ji{a b:Nat}(ha:a<18446744073709551616)(hb:b<18446744073709551616):(ar .xor T x y (.int .u64 (a:Int)) (.int .u64 (b:Int))).run P w= .ok (.int .u64 ((a^^^b:Nat):Int)) w:=by
 rw[←Jf a b ha hb];rfl
theorem xz(a b:UInt8):(ar .and T x y (.int .u8 (a.toNat:Int)) (.int .u8 (b.toNat:Int))).run P w= .ok (.int .u8 ((a&&& b).toNat:Int)) w:=by
 rw[←Jg a b];rfl
theorem Jj(a b:UInt8):(ar .or T x y (.int .u8 (a.toNat:Int)) (.int .u8 (b.toNat:Int))).run P w= .ok (.int .u8 ((a||| b).toNat:Int)) w:=by
 rw[←Jh a b];rfl
theorem BJ{S T:TypeId}(hS:P.underlying S=some (.int .u8))(hT:P.underlying T=some (.int .u64)){c:UInt8}:(convert S T (.int .u8 (c.toNat:Int))).run P w= .ok (.int .u64 (c.toNat:Int)) w:=by
 have h:IntKind.u64.wrap (c.toNat:Int)=(c.toNat:Int):=by rw[pD];have:=c.toNat_lt;omega
 simp only[convert,jh,run_underlying hS,run_underlying hT,dZ,Conv.intToInt,h,rj]
theorem um{S T:TypeId}(hS:P.underlying S=some (.int .u64))(hT:P.underlying T=some (.int .u8)){c:Nat}:(convert S T (.int .u64 (c:Int))).run P w= .ok (.int .u8 ((UInt8.ofNat c).toNat:Int)) w:=by
 have h:IntKind.u8.wrap (c:Int)=((UInt8.ofNat c).toNat:Int):=by rw[IntKind.wrap_u8,UInt8.toNat_ofNat'];omega
 simp only[convert,jh,run_underlying hS,run_underlying hT,dZ,Conv.intToInt,h,rj]
theorem Zu{S T:TypeId}(hS:P.underlying S=some (.int .i64))(hT:P.underlying T=some (.int .u64)){c:Nat}(hc:c<18446744073709551616):(convert S T (.int .i64 (c:Int))).run P w= .ok (.int .u64 (c:Int)) w:=by
 have h:IntKind.u64.wrap (c:Int)=(c:Int):=by rw[pD];omega
 simp only[convert,jh,run_underlying hS,run_underlying hT,dZ,Conv.intToInt,h,rj]
end
def bH(cs z:List Value)(r:Nat):Array Value:=(cs++(p6 r z).flatten).toArray
theorem rQ(z:List Value)(r:Nat):((p6 r z).flatten).length=r*z.length:=by
 induction r with
 | zero=>simp
 | succ r ih=>rw[w6,yx,ir,ih,ka];omega
theorem un(cs z:List Value)(r:Nat):(bH cs z r).size=cs.length+r*z.length:=by unfold bH;rw[tT,ir,rQ]
theorem xA(z:Array Value)(n:Nat)(hz:0<z.size):(Builtin.zeroCells z n).toList=(p6 n z.toList).flatten:=by
 have h: ∀n,∀i,i<n*z.size→((p6 n z.toList).flatten)[i]? =z[i%z.size]? :=by
  intro n
  induction n with
  | zero=>intro i hi;omega
  | succ n ih=>
   intro i hi
   rw[w6,yx]
   by_cases h1:i<z.size
   ·rw[List.getElem?_append_left (by simpa using h1),qx h1,Array.getElem?_toList]
   ·rw[List.getElem?_append_right (by simpa using h1),Array.length_toList,ih (i-z.size) (by rw[ka] at hi;omega)]
    congr 1
    exact(Nat.mod_eq_sub_mod Om).symm
 apply yS
 intro i
 rcases y7 i (n*z.size) with h1 | h1
 ·rw[h n i h1]
  have h2:i%z.size<z.size:=Nat.mod_lt _ hz
  unfold Builtin.zeroCells
  simp [h1,h2]
 ·rw[na (by rw[Array.length_toList,size_zeroCells];exact h1),na (by rw[rQ];simpa using h1)]
def rS(T TY:TypeId)(v u:Value):Sem Next:=vS (Builtin.append_ #[T,T] TY #[v,u])
def Jk(T U TY:TypeId)(v u:Value):Sem Next:=vS (Builtin.copy_ #[T,U] TY #[v,u])
theorem o5{w:World}{g off:Nat}{t:TypeId}{cs:Array Value}{fr:Nat×Nat}{news:List Value}(hb:w.heap[g]? =some (.cells cs t fr))(hn:(cs.toList.drop off).take news.length=news): ∀j u,news[j]? =some u→w.cell? ((⟨g,off,none⟩:Addr).add j)=some u:=by
 intro j u hu
 have hadd:(⟨g,off,none⟩:Addr).add j=⟨g,off+j,none⟩:=by unfold Addr.add;split<;>simp_all
 rw[hadd,cell_of_row w g (off+j) cs t fr hb]
 have hj:j<news.length:=(List.getElem?_eq_some_iff.1 hu).1
 have h2:=ALca (λz=>z[j]?) hn
 simp only[yZ hj,AX] at h2
 rw[←Array.getElem?_toList,h2]
 exact hu
section
variable {P:Program} {T e:TypeId} {i:TypeInfo} {zv:Value}
structure d9 (P:Program) (T e:TypeId) (z:List Value):Prop where
 ht:P.underlying T=some (.slice e)
 hi: ∃i zv,P.info? e=some i∧i.zero=some zv∧i.size=z.length∧zv.cells.toList=z∧i.bytes≤1048576
 h0:0<z.length
theorem d9.mk'{z:List Value}(ht:P.underlying T=some (.slice e))(hi:(P.info? e).map (λi=>(i.zero.map (λv=>v.cells.toList),i.size,Nat.ble i.bytes 1048576))=some (some z,z.length,true))(h0:Nat.blt 0 z.length=true):d9 P T e z:=by
 refine⟨ht,?_,Nat.blt_eq▸h0⟩
 cases hq:P.info? e with
 | none=>rw[hq] at hi;cases hi
 | some i=>
  rw[hq] at hi
  simp only[nN,Option.some.injEq,Prod.mk.injEq] at hi
  cases hz:i.zero with
  | none=>rw[hz] at hi;simp at hi
  | some zv=>
   rw[hz] at hi
   exact⟨i,zv,rfl,hz,hi.2.1,by simpa using hi.1,Nat.le_of_ble_eq_true hi.2.2⟩
end
section
variable {P:Program} {T e:TypeId} {x y:Operand} {w:World}
theorem Jl{a b:Nat}(h:a*b<9223372036854775808):(ar .mul T x y (.int .i64 (a:Int)) (.int .i64 (b:Int))).run P w= .ok (.int .i64 ((a*b:Nat):Int)) w:=by
 have h2:((a*b:Nat):Int)<9223372036854775808:=by omega
 have h3:=sM (a*b)
 have e:((a*b:Nat):Int)=(a:Int)*(b:Int):=by push_cast;rfl
 rw[e] at h2 h3⊢
 exact IG (P:=P) (T:=T) (x:=x) (y:=y) (w:=w) (a:=(a:Int)) (b:=(b:Int)) Om Om
theorem Jm{a b:Nat}(h:a+b<9223372036854775808):(ar .add T x y (.int .i64 (a:Int)) (.int .i64 (b:Int))).run P w= .ok (.int .i64 ((a+b:Nat):Int)) w:=by
 have:=rv (P:=P) (T:=T) (x:=x) (y:=y) (w:=w) (a:=(a:Int)) (b:=(b:Int)) Om Om
 rw[show((a+b:Nat):Int)=(a:Int)+(b:Int) by push_cast;rfl]
 exact this
theorem add_lit(g off m:Nat):(⟨g,off,none⟩:Addr).add m=⟨g,off+m,none⟩:=by unfold Addr.add;split<;>simp_all
def jo(P:Program)(e:TypeId):Option Nat:=(P.info? e).map (·.size)
theorem oi{s:Nat}(h:jo P e=some s):(sizeOf e).run P w= .ok s w:=by
 unfold jo at h
 cases hq:P.info? e with
 | none=>rw[hq] at h;cases h
 | some i=>
  rw[hq] at h
  simp only[nN,Option.some.injEq] at h
  simp [sizeOf,typeInfo,hq,h]
theorem bR{g off n c k s:Nat}(hT:(P.underlying T,jo P (P.elem T))=(some (.slice (P.elem T)),some s))(hk:k<n):(Instr.indexAt T (.slice (some ⟨g,off,none⟩) n c) (.int .i64 (k:Int))).run P w= .ok (.pointer (some ⟨g,off+k*s,none⟩)) w:=by
 rw[run_indexAt_slice w T _ n c .i64 (k:Int) (ALca (·.1) hT),ALifp Om,oi (ALca (·.2) hT),dZ,n7,add_lit]
theorem Jn{g l h s N:Nat}(hT:(P.underlying T,P.arrayLen T,jo P (P.elem T))=(some (.array N (P.elem T)),N,some s))(h1:l≤h)(h2:h≤N)(h3:l<N):(Instr.sliceAt T (.pointer (some ⟨g,0,none⟩)) (some (.int .i64 (l:Int))) (some (.int .i64 (h:Int))) none).run P w= .ok (.slice (some ⟨g,l*s,none⟩) (h-l) (N-l)) w:=by
 have e1:P.arrayLen T=N:=ALca (·.2.1) hT
 rw[run_sliceAt_array_lh w T ⟨g,0,none⟩ (by rw[e1];exact ALca (·.1) hT) .i64 .i64 (l:Int) (h:Int) Om Om (by rw[e1];omega),oi (ALca (·.2.2) hT),dZ]
 unfold slicedAt
 rw[e1,n7,n7,add_lit,jm,ALifn Om]
theorem Jo{g l s N:Nat}(hT:(P.underlying T,P.arrayLen T,jo P (P.elem T))=(some (.array N (P.elem T)),N,some s))(h3:l<N):(Instr.sliceAt T (.pointer (some ⟨g,0,none⟩)) (some (.int .i64 (l:Int))) none none).run P w= .ok (.slice (some ⟨g,l*s,none⟩) (N-l) (N-l)) w:=by
 have e1:P.arrayLen T=N:=ALca (·.2.1) hT
 rw[run_sliceAt_array_l w T ⟨g,0,none⟩ (by rw[e1];exact ALca (·.1) hT) .i64 (l:Int) Om (by rw[e1];omega),oi (ALca (·.2.2) hT),dZ]
 unfold slicedAt
 rw[e1,n7,add_lit,jm,ALifn Om]
theorem Jp{g s N:Nat}(hT:(P.underlying T,P.arrayLen T,jo P (P.elem T))=(some (.array N (P.elem T)),N,some s))(h3:0<N):(Instr.sliceAt T (.pointer (some ⟨g,0,none⟩)) none none none).run P w= .ok (.slice (some ⟨g,0,none⟩) N N) w:=by
 have e1:P.arrayLen T=N:=ALca (·.2.1) hT
 rw[run_sliceAt_array_all w T ⟨g,0,none⟩ (by rw[e1];exact ALca (·.1) hT),oi (ALca (·.2.2) hT),dZ]
 unfold slicedAt
 rw[e1,add_lit,Dn,ALifn Om]
 rfl
end
def bV(xs:List UInt8):List Value:=xs.map λb=> .int .u8 (b.toNat:Int)
theorem Jq{cs z:List Value}{r:Nat}:((bH cs z r).toList.drop 0).take cs.length=cs:=by unfold bH;rw[sN,jg (sG _),vc]
section
variable {P:Program} {f:FuncId} {args:Array Value} {w':World} {v:Value}
end
def jU(f:Nat→List Value):Nat→Nat→List Value
 | _,0=>[]
 | i,n+1=>f i++jU f (i+1) n
def cR{α:Type}(e:α→List Value)(d:α)(n:Nat)(xs:List α):List Value:=jU (λi=>e (xs.getD i d)) 0 n
def eB(b:UInt8):List Value:=[.int .u8 (b.toNat:Int)]
def eI(x:Int):List Value:=[.int .i64 x]
def eN(x:Nat):List Value:=[.int .i64 (x:Int)]
def eW(x:Nat):List Value:=[.int .u64 (x:Int)]
abbrev rB(n:Nat)(xs:List UInt8):List Value:=cR eB 0 n xs
abbrev rI(n:Nat)(xs:List Int):List Value:=cR eI 0 n xs
abbrev rN(n:Nat)(xs:List Nat):List Value:=cR eN 0 n xs
abbrev rW(n:Nat)(xs:List Nat):List Value:=cR eW 0 n xs
section
variable {α:Type} {e:α→List Value} {d:α} {n:Nat} {xs ys:List α}
theorem BK{f:Nat→List Value}{k:Nat}(h: ∀i,(f i).length=k): ∀n i,(jU f i n).length=n*k
 | 0,_=>by simp [jU]
 | n+1,i=>by rw[jU,ir,h,BK h n,ka,vC]
theorem BL{f:Nat→List Value}{k:Nat}(h: ∀i,(f i).length=k): ∀n i j,j<n→((jU f i n).drop (j*k)).take k=f (i+j)
 | 0,_,_,hj=>by omega
 | n+1,i,0,_=>by rw[jU,Dn,sN,jg (by rw[h];exact sG _),qA (by rw[h];exact sG _)];rfl
 | n+1,i,j+1,hj=>by
  rw[jU,show(j+1)*k=k+j*k by rw[ka,vC],←jw,vA (h i),BL h n (i+1) j Om,show i+1+j=i+(j+1) by omega]
theorem o6{k:Nat}(h: ∀x,(e x).length=k):(cR e d n xs).length=n*k:=BK (λ_=>h _) _ _
theorem Jr{k j:Nat}(h: ∀x,(e x).length=k)(hj:j<n):((cR e d n xs).drop (j*k)).take k=e (xs.getD j d):=by
 unfold cR
 rw[BL (λ_=>h _) _ _ _ hj,jm]
theorem rU{g:Nat→Value}: ∀n i j,j<n→(jU (λi=>[g i]) i n)[j]? =some (g (i+j))
 | 0,_,_,hj=>by omega
 | n+1,i,0,_=>by rw[jU];rfl
 | n+1,i,j+1,hj=>by
  rw[jU,List.singleton_append,List.getElem?_cons_succ,rU n (i+1) j Om,show i+1+j=i+(j+1) by omega]
theorem BM{g:Nat→Value}: ∀n i,jU (λi=>[g i]) i n=(yW i n).map g
 | 0,_=>rfl
 | n+1,i=>by rw[jU,BM n,yV,y1];rfl
theorem xB{g:α→Value}(h:xs.length=n):cR (λx=>[g x]) d n xs=xs.map g:=by
 unfold cR
 rw[BM]
 apply yS
 intro i
 rw[yT,yT]
 rcases y7 i n with hi | hi
 ·rw[y8 hi,jm,Nat.one_mul,tX Om,nN,nN,yX,tX Om]
  rfl
 ·rw[na (by rw[AZ];exact hi),na Om]
  rfl
theorem uq{g:α→Value}{j:Nat}{u:α}(h:xs.length=n):(cR (λx=>[g x]) d n xs).set j (g u)=cR (λx=>[g x]) d n (xs.set j u):=by
 rw[xB h,xB (by rw[List.length_set];exact h),List.map_set]
end
theorem ol{n j:Nat}{xs:List UInt8}(h:j<n):((rB n xs).toArray)[j]? =some (.int .u8 ((xs.getD j 0).toNat:Int)):=by
 rw[qB]
 exact(rU n 0 j h).trans (by rw[jm])
theorem Js{n j:Nat}{xs:List Nat}(h:j<n):((rW n xs).toArray)[j]? =some (.int .u64 ((xs.getD j 0:Nat):Int)):=by
 rw[qB]
 exact(rU n 0 j h).trans (by rw[jm])
theorem rV{n j:Nat}{xs:List Nat}(h:j<n):((rN n xs).toArray)[j]? =some (.int .i64 ((xs.getD j 0:Nat):Int)):=by
 rw[qB]
 exact(rU n 0 j h).trans (by rw[jm])
theorem Jt{n j:Nat}{xs:List Int}(h:j<n):((rI n xs).toArray)[j]? =some (.int .i64 (xs.getD j 0)):=by
 rw[qB]
 exact(rU n 0 j h).trans (by rw[jm])
theorem mJ{n j:Nat}{xs:List UInt8}{u:UInt8}(h:xs.length=n):((rB n xs).toArray).setIfInBounds j (.int .u8 (u.toNat:Int))=(rB n (xs.set j u)).toArray:=by
 rw[kP]
 exact ALca _ (uq (g:=λb:UInt8=>Value.int .u8 (b.toNat:Int)) h)
theorem Ju{n j:Nat}{xs:List Nat}{u:Nat}(h:xs.length=n):((rW n xs).toArray).setIfInBounds j (.int .u64 (u:Int))=(rW n (xs.set j u)).toArray:=by
 rw[kP]
 exact ALca _ (uq (g:=λb:Nat=>Value.int .u64 (b:Int)) h)
theorem Jv{n j:Nat}{xs:List Nat}{u:Nat}(h:xs.length=n):((rN n xs).toArray).setIfInBounds j (.int .i64 (u:Int))=(rN n (xs.set j u)).toArray:=by
 rw[kP]
 exact ALca _ (uq (g:=λb:Nat=>Value.int .i64 (b:Int)) h)
theorem BN{n j:Nat}{xs:List Int}{u:Int}(h:xs.length=n):((rI n xs).toArray).setIfInBounds j (.int .i64 u)=(rI n (xs.set j u)).toArray:=by
 rw[kP]
 exact ALca _ (uq (g:=λb:Int=>Value.int .i64 b) h)
theorem xC{n:Nat}{xs:List UInt8}(h:xs.length=n):rB n xs=bV xs:=xB (g:=λb:UInt8=>Value.int .u8 (b.toNat:Int)) h
theorem Jw{n:Nat}{xs:List UInt8}:(rB n xs).length=n:=(o6 (k:=1) λ_=>rfl).trans (qz _)
def rX:Value→Value→Bool
 | .int _ a,.int _ b=>a==b
 | .bool a,.bool b=>a==b
 | _,_=>false
def fo:List Value→List Value→Bool
 | a::x,b::y=>rX a b&&fo x y
 | _,_=>true
def o7:Option IntKind→Value→Bool
 | none,.bool _=>true
 | some k,.int k' _=>decide (k=k')
 | _,_=>false
def eO:List (Option IntKind)→List Value→Bool
 | [],[]=>true
 | k::ks,v::vs=>o7 k v&&eO ks vs
 | _,_=>false
def qf(P:Program)(kt:TypeId→Option (List (Option IntKind))):List Field→Nat→Option (List (Option IntKind))
 | [],_=>some []
 | f::fs,off=>if f.name= "_" ∨f.offset≠off then none else
  match kt f.type,(P.info? f.type).map (·.size) with
  | some a,some n=>if n=a.length then(qf P kt fs (off+a.length)).map (a++ ·) else none
  | _,_=>none
def jV(P:Program):Nat→TypeId→Option (List (Option IntKind))
 | 0,_=>none
 | d+1,T=>match P.underlying T with
  | some .bool=>some [none]
  | some (.int k)=>some [some k]
  | some (.struct fs)=>if P.stoodInHeld T then none else qf P (jV P d) fs.toList 0
  | some (.array n e)=>match jV P d e,(P.info? e).map (·.size) with
   | some ks,some m=>if m=ks.length then some (p6 n ks).flatten else none
   | _,_=>none
  | _=>none
theorem mf: ∀{ks:List (Option IntKind)} {xs:List Value},eO ks xs=true→xs.length=ks.length
 | [],[],_=>rfl
 | _::ks,_::xs,h=>by
  simp only[eO,rm] at h
  rw[vz,vz,mf h.2]
 | [],_::_,h=>by simp [eO] at h
 | _::_,[],h=>by simp [eO] at h
theorem rY: ∀{a b:List (Option IntKind)} {xs:List Value},eO (a++b) xs=true→eO a (xs.take a.length)=true∧eO b (xs.drop a.length)=true
 | [],b,xs,h=>⟨by simp [eO],by simpa using h⟩
 | k::a,b,[],h=>by simp [eO] at h
 | k::a,b,x::xs,h=>by
  simp only[List.cons_append,eO,rm] at h
  obtain⟨h1,h2⟩:=rY h.2
  exact⟨by simp only[vz,yu,eO,rm];exact⟨h.1,h1⟩,by simpa using h2⟩
theorem ur: ∀(k:Nat) (xs ys:List Value),xs.length=ys.length→fo xs ys=(fo (xs.take k) (ys.take k)&&fo (xs.drop k) (ys.drop k))
 | 0,xs,ys,_=>by simp [fo]
 | k+1,[],[],_=>by simp [fo]
 | k+1,x::xs,y::ys,h=>by
  simp only[yu,AU,fo]
  rw[ur k xs ys (by simpa using h),Bool.and_assoc]
 | k+1,[],_::_,h=>by simp at h
 | k+1,_::_,[],h=>by simp at h
theorem fz{a b c d:List Value}{E F:Bool}(hl:a.length=c.length)(hm:b.length=d.length)(h1:fo a c=E)(h2:fo b d=F):fo (a++b) (c++d)=(E&&F):=by
 rw[ur a.length _ _ (by rw[ir,ir,hl,hm]),jg (sG _),vc,oG (sG _),A1,Dj,hl,jg (sG _),vc,oG (sG _),A1,Dj,h1,h2]
theorem BO{α:Type}[DecidableEq α]{g:α→Value}(hg: ∀x y,rX (g x) (g y)=decide (x=y)): ∀{xs ys:List α},xs.length=ys.length→fo (xs.map g) (ys.map g)=decide (xs=ys)
 | [],[],_=>rfl
 | x::xs,y::ys,h=>by
  rw[y1,y1,fo,hg,BO hg (by simpa using h)]
  simp [Bool.decide_and]
 | [],_::_,h=>by simp at h
 | _::_,[],h=>by simp at h
theorem Jy(x y:UInt8):rX (.int .u8 (x.toNat:Int)) (.int .u8 (y.toNat:Int))=decide (x=y):=by
 show((x.toNat:Int)==(y.toNat:Int))=_
 rw[Bool.eq_iff_iff]
 simp only[beq_iff_eq,decide_eq_true_eq,Int.natCast_inj]
 exact UInt8.toNat_inj
theorem jp{n:Nat}{xs ys:List UInt8}(hx:xs.length=n)(hy:ys.length=n):fo (rB n xs) (rB n ys)=decide (xs=ys):=by
 rw[xC hx,xC hy]
 exact BO Jy (hx.trans hy.symm)
def mh(P:Program)(T:TypeId)(l:List Value):Value:=if dQ P T then .agg l.toArray else l.headD undef
section
variable {P:Program}
theorem BP{T:TypeId}{t:TypeDesc}(h:P.underlying T=some t)(w:World):(isAgg T).run P w= .ok (dQ P T) w:=by
 unfold dQ
 rw[h]
 cases t<;>simp [isAgg,run_underlying h,jh]
theorem rZ{T:TypeId}{t:TypeDesc}{n off:Nat}{xs:Array Value}(h:P.underlying T=some t)(hs:(P.info? T).map (·.size)=some n)(hn:dQ P T=false→n=1)(hl:off+n≤xs.size)(w:World):(part T xs off).run P w= .ok (mh P T ((xs.toList.drop off).take n)) w:=by
 obtain⟨i,hi⟩: ∃i,P.info? T=some i:=by cases h:P.info? T<;>simp_all
 have hz:i.size=n:=by simpa [hi] using hs
 unfold mh
 cases ha:dQ P T with
 | true=>
  have h1:=BP h w
  rw[ha] at h1
  have e:xs.extract off (off+n)=((xs.toList.drop off).take n).toArray:=by
   apply Array.toList_inj.1
   simp [Array.toList_extract,List.extract_eq_take_drop]
  simp [part,h1,jh,sizeOf,typeInfo,hi,hz,e]
 | false=>
  have h1:=BP h w
  rw[ha] at h1
  obtain rfl:=hn ha
  have hlt:off<xs.size:=by omega
  have e:(xs.toList.drop off).take 1=[xs[off]]:=by
   rw[yY (by simpa using hlt)]
   simp
  rw[e]
  simp [part,h1,jh,hlt]
theorem BQ{d:Nat}{T:TypeId}{ks:List (Option IntKind)}(h:jV P d T=some ks):(∃t,P.underlying T=some t)∧(dQ P T=false→ks.length=1):=by
 cases d with
 | zero=>cases h
 | succ d=>
  unfold jV at h
  unfold dQ
  cases hu:P.underlying T with
  | none=>rw[hu] at h;cases h
  | some t=>
   rw[hu] at h
   refine⟨⟨t,rfl⟩,?_⟩
   cases t<;>simp_all<;>(try (subst h;rfl))
theorem ut: ∀(d:Nat) (T:TypeId) (ks:List (Option IntKind)) (j:Nat) (xs ys:List Value) (w:World),jV P d T=some ks→eO ks xs=true→eO ks ys=true→(Op.equalIn (d+j) T (mh P T xs) (mh P T ys)).run P w= .ok (fo xs ys) w
 | 0,_,_,_,_,_,_,h,_,_=>by cases h
 | d+1,T,ks,j,xs,ys,w,h,hx,hy=>by
  have hlx:=mf hx
  have hly:=mf hy
  have one: ∀{k:Option IntKind},ks=[k]→∃a b,xs=[a]∧ys=[b]∧o7 k a=true∧o7 k b=true:=by
   rintro k rfl
   match xs,ys,hlx,hly with
   | [a],[b],_,_=>
    refine⟨a,b,rfl,rfl,?_,?_⟩
    ·simpa [eO] using hx
    ·simpa [eO] using hy
  rw[show d+1+j=d+j+1 by omega]
  unfold jV at h
  cases hu:P.underlying T with
  | none=>rw[hu] at h;cases h
  | some t=>
   rw[hu] at h
   cases t<;>simp only[reduceCtorEq,Option.some.injEq] at h
   case bool=>
    obtain⟨a,b,rfl,rfl,ha,hb⟩:=one h.symm
    cases a<;>simp only[o7,reduceCtorEq] at ha
    cases b<;>simp only[o7,reduceCtorEq] at hb
    rename_i a b
    have hna:dQ P T=false:=by unfold dQ;rw[hu]
    simp only[mh,hna,sK,if_false,Dl]
    rw[run_equalIn_bool' w _ T a b hu]
    simp [fo,rX]
   case int k=>
    obtain⟨a,b,rfl,rfl,ha,hb⟩:=one h.symm
    cases a<;>simp only[o7,reduceCtorEq,sK,decide_eq_true_eq] at ha
    cases b<;>simp only[o7,reduceCtorEq,sK,decide_eq_true_eq] at hb
    subst ha
    subst hb
    rename_i a b
    have hna:dQ P T=false:=by unfold dQ;rw[hu]
    simp only[mh,hna,sK,if_false,Dl]
    rw[run_equalIn_int w _ T k k a b hu]
    simp [fo,rX]
   case struct fs=>
    have hag:dQ P T=true:=by unfold dQ;rw[hu]
    split at h
    ·cases h
    ·rename_i hst
     have hff:P.fieldsOf T=fs:=by unfold Program.fieldsOf;rw[hu]
     simp only[mh,hag,if_true]
     rw[run_equalIn_struct w (d+j) T _ _ (by rw[hff];exact hu) (by simpa using hst),hff]
     have key: ∀(l:List Field) (off:Nat) (ks':List (Option IntKind)) (xs ys:List Value) (w:World),qf P (jV P d) l off=some ks'→eO ks' (xs.drop off)=true→eO ks' (ys.drop off)=true→off≤xs.length→off≤ys.length→
       (Op.eqFields (d+j) xs.toArray ys.toArray l).run P w= .ok (fo (xs.drop off) (ys.drop off)) w:=by
      intro l
      induction l with
      | nil=>
       intro off ks' xs ys w hk h1 h2 _ _
       simp only[qf,Option.some.injEq] at hk
       subst hk
       have e1:=mf h1
       have e2:=mf h2
       rw[Dm,y2] at e1 e2
       rw[e1,e2]
       rfl
      | cons f l ih=>
       intro off ks' xs ys w hk h1 h2 hox hoy
       simp only[qf] at hk
       split at hk
       ·cases hk
       ·rename_i hn
        rw[not_or,Classical.not_not] at hn
        obtain⟨hn,rfl⟩:=hn
        split at hk
        ·rename_i a n ha hs
         split at hk
         ·rename_i hna
          subst hna
          cases hr:qf P (jV P d) l (f.offset+a.length) with
          | none=>rw[hr] at hk;cases hk
          | some b=>
           rw[hr] at hk
           simp only[nN,Option.some.injEq] at hk
           subst hk
           obtain⟨p1,p2⟩:=rY h1
           obtain⟨q1,q2⟩:=rY h2
           have l1:=mf h1
           have l2:=mf h2
           rw[ir,eF] at l1 l2
           obtain⟨⟨t,ht⟩,ho⟩:=BQ ha
           rw[jw] at p2 q2
           have r1:=rZ (xs:=xs.toArray) (off:=f.offset) ht hs ho (by simp;omega) w
           have r2:=rZ (xs:=ys.toArray) (off:=f.offset) ht hs ho (by simp;omega) w
           have r3:=ut d f.type a j _ _ w ha p1 q1
           have r4:=ih (f.offset+a.length) b xs ys w hr p2 q2 Om Om
           rw[ur a.length (xs.drop f.offset) (ys.drop f.offset) (by rw[eF,eF];omega),jw,jw]
           simp only[Op.eqFields,ALifp hn,jh,r1,r2,r3,dZ]
           cases hb:fo ((xs.drop f.offset).take a.length) ((ys.drop f.offset).take a.length) with
           | false=>simp
           | true=>simpa using r4
         ·cases hk
        ·cases hk
     have:=key fs.toList 0 ks xs ys w h (by simpa using hx) (by simpa using hy) (Nat.zero_le _) (Nat.zero_le _)
     simpa using this
   case array n e=>
    have hag:dQ P T=true:=by unfold dQ;rw[hu]
    simp only[mh,hag,if_true]
    split at h
    ·rename_i ks1 m ha hs
     split at h
     ·rename_i hm
      subst hm
      simp only[Option.some.injEq] at h
      subst h
      obtain⟨i,hi⟩: ∃i,P.info? e=some i:=by cases h:P.info? e<;>simp_all
      have hz:i.size=ks1.length:=by simpa [hi] using hs
      have hc:P.cellsOf e=ks1.length:=by
       unfold Program.cellsOf
       rw[hi]
       exact hz
      rw[run_equalIn_array w (d+j) xs.toArray ys.toArray hu hi,hc]
      obtain⟨⟨t,ht⟩,ho⟩:=BQ ha
      have key: ∀(c k:Nat) (xs ys:List Value) (w:World),eO (p6 c ks1).flatten (xs.drop (k*ks1.length))=true→eO (p6 c ks1).flatten (ys.drop (k*ks1.length))=true→k*ks1.length≤xs.length→k*ks1.length≤ys.length→
        (Op.eqItems (d+j) e ks1.length xs.toArray ys.toArray (yW k c)).run P w= .ok (fo (xs.drop (k*ks1.length)) (ys.drop (k*ks1.length))) w:=by
       intro c
       induction c with
       | zero=>
        intro k xs ys w h1 h2 _ _
        have e1:=mf h1
        have e2:=mf h2
        simp only[List.replicate_zero,List.flatten_nil,Dm,y2] at e1 e2
        rw[e1,e2]
        rfl
       | succ c ih=>
        intro k xs ys w h1 h2 hox hoy
        rw[w6,yx] at h1 h2
        obtain⟨p1,p2⟩:=rY h1
        obtain⟨q1,q2⟩:=rY h2
        have l1:=mf h1
        have l2:=mf h2
        rw[ir,eF] at l1 l2
        rw[jw,show k*ks1.length+ks1.length=(k+1)*ks1.length by rw[ka]] at p2 q2
        have hkk:(k+1)*ks1.length=k*ks1.length+ks1.length:=by rw[ka]
        have r1:=rZ (xs:=xs.toArray) (off:=k*ks1.length) ht hs ho (by simp;omega) w
        have r2:=rZ (xs:=ys.toArray) (off:=k*ks1.length) ht hs ho (by simp;omega) w
        have r3:=ut d e ks1 j _ _ w ha p1 q1
        have r4:=ih (k+1) xs ys w p2 q2 Om Om
        rw[ur ks1.length (xs.drop (k*ks1.length)) (ys.drop (k*ks1.length)) (by rw[eF,eF];omega),jw,jw,←hkk,yV]
        simp only[Op.eqItems,jh,r1,r2,r3,dZ]
        cases hb:fo ((xs.drop (k*ks1.length)).take ks1.length) ((ys.drop (k*ks1.length)).take ks1.length) with
        | false=>simp
        | true=>simpa using r4
      have:=key n 0 xs ys w (by simpa using hx) (by simpa using hy) (by simp) (by simp)
      rw[List.range_eq_range']
      simpa using this
     ·cases h
    ·cases h
theorem uu{T:TypeId}{xs ys:List Value}{E:Bool}{x y:Operand}{w:World}(hk:(dQ P T,P.eqGuardType P.depth T,(jV P 8 T).map (λks=>eO ks xs&&eO ks ys))=(true,false,some true))(he:fo xs ys=E):(ar .eql T x y (.agg xs.toArray) (.agg ys.toArray)).run P w= .ok (.bool E) w:=by
 have h1:dQ P T=true:=ALca (·.1) hk
 have h2:P.eqGuardType P.depth T=false:=ALca (·.2.1) hk
 have h3:(jV P 8 T).map (λks=>eO ks xs&&eO ks ys)=some true:=ALca (·.2.2) hk
 cases hq:jV P 8 T with
 | none=>rw[hq] at h3;cases h3
 | some ks=>
  rw[hq] at h3
  simp only[nN,Option.some.injEq,rm] at h3
  have:=ut 8 T ks 9992 xs ys w hq h3.1 h3.2
  simp only[mh,h1,if_true] at this
  unfold ar
  simp [eqGuard,Go.binOp,Op.equal,Op.maxDepth,jh,h2,this,he]
theorem jW{T:TypeId}{xs ys:List Value}{E:Bool}{x y:Operand}{w:World}(hk:(dQ P T,P.eqGuardType P.depth T,(jV P 8 T).map (λks=>eO ks xs&&eO ks ys))=(true,false,some true))(he:fo xs ys=E):(ar .neq T x y (.agg xs.toArray) (.agg ys.toArray)).run P w= .ok (.bool (!E)) w:=by
 have h1:dQ P T=true:=ALca (·.1) hk
 have h2:P.eqGuardType P.depth T=false:=ALca (·.2.1) hk
 have h3:(jV P 8 T).map (λks=>eO ks xs&&eO ks ys)=some true:=ALca (·.2.2) hk
 cases hq:jV P 8 T with
 | none=>rw[hq] at h3;cases h3
 | some ks=>
  rw[hq] at h3
  simp only[nN,Option.some.injEq,rm] at h3
  have:=ut 8 T ks 9992 xs ys w hq h3.1 h3.2
  simp only[mh,h1,if_true] at this
  unfold ar
  simp [eqGuard,Go.binOp,Op.equal,Op.maxDepth,jh,h2,this,he]
end
def aj{α:Type}(e:α→List Value)(xs:List α):List Value:=xs.flatMap e
section
variable {α:Type} {e:α→List Value} {d:α} {xs ys:List α} {k n i r:Nat} {z:List Value}
theorem kH:aj e (xs++ys)=aj e xs++aj e ys:=List.flatMap_append
theorem fY(h: ∀x,(e x).length=k)(hn:xs.length=n):(aj e xs).length=n*k:=by
 subst hn
 unfold aj
 induction xs with
 | nil=>simp
 | cons x xs ih=>rw[po,ir,h,ih,vz,ka,vC]
theorem Jz{g:α→Value}(hg: ∀x,(g x).oneCell'=true)(xs:List α): ∀u∈aj (λx=>[g x]) xs,u.oneCell'=true:=by
 intro u hu
 unfold aj at hu
 obtain⟨x,_,hx⟩:=List.mem_flatMap.1 hu
 obtain rfl:=List.mem_singleton.1 hx
 exact hg x
theorem BR(he: ∀x,∀u∈e x,u.oneCell'=true): ∀u∈aj e xs,u.oneCell'=true:=by
 intro u hu
 unfold aj at hu
 obtain⟨x,_,hx⟩:=List.mem_flatMap.1 hu
 exact he x u hx
theorem BS{f:Nat→List Value}: ∀n i,jU f i n=(yW i n).flatMap f
 | 0,_=>rfl
 | n+1,i=>by rw[jU,BS n,yV,po]
theorem JA: ∀(xs:List α),(yW 0 xs.length).map (λi=>xs.getD i d)=xs:=by
 intro xs
 apply yS
 intro i
 rw[yT]
 rcases y7 i xs.length with hi | hi
 ·rw[y8 hi,nN,yX,jm,Nat.one_mul,tX hi]
  rfl
 ·rw[na (by rw[AZ];exact hi),na hi]
  rfl
theorem lw(h:xs.length=n):cR e d n xs=aj e xs:=by
 subst h
 unfold cR aj
 rw[BS]
 conv=>rhs;rw[←JA (d:=d) xs]
 rw[List.flatMap_map]
theorem BT(h:xs.length=n):(((cR e d n xs).toArray).toList.drop 0).take (aj e xs).length=aj e xs:=by
 rw[sN,lw h,vc]
theorem kg{j:Nat}(h:j<n)(h1: ∀x,(e x).length=1:=by intro _;rfl):j<((cR e d n xs).toArray).size:=by
 rw[tT,o6 h1,qz]
 exact h
theorem JB:((bH (aj e xs) z r).toList.drop 0).take (aj e xs).length=aj e xs:=Jq
theorem uv(h: ∀x,(e x).length=k)(hi:i<xs.length):((aj e xs).drop (i*k)).take k=e (xs.getD i d):=by
 rw[←lw (d:=d) rfl]
 exact Jr h hi
theorem BU(h: ∀x,(e x).length=k)(hi:i<xs.length):((bH (aj e xs) z r).toList.drop (0+i*k)).take (e (xs.getD i d)).length=e (xs.getD i d):=by
 have hl:=fY h (xs:=xs) rfl
 have h1:(i+1)*k≤xs.length*k:=p4 _ hi
 rw[ka] at h1
 rw[jm,h]
 unfold bH
 simp only
 rw[oG Om,jg (by rw[eF];omega)]
 exact uv h hi
theorem JC{f:Nat}{v:Value}(h: ∀x,(e x).length=k)(hi:i<xs.length)(hf:f<k)(hv:(e (xs.getD i d))[f]? =some v):(bH (aj e xs) z r)[0+i*k+f]? =some v:=by
 have hp:=BU (z:=z) (r:=r) (d:=d) h hi
 have h2:=ALca (λl=>l[f]?) hp
 simp only[h,yZ hf,AX] at h2
 rw[←Array.getElem?_toList,h2]
 exact hv
theorem BV{x:α}(h: ∀x,(e x).length=k)(hi:i<xs.length):(aj e xs).take (i*k)++e x++(aj e xs).drop (i*k+k)=aj e (xs.set i x):=by
 have hs:xs.set i x=xs.take i++x::xs.drop (i+1):=List.set_eq_take_append_cons_drop .. |>.trans (by rw[ALifp hi])
 have h0:xs=xs.take i++xs.drop i:=(vB i xs).symm
 have hd:xs.drop i=xs[i]::xs.drop (i+1):=yY hi
 have ht:(aj e (xs.take i)).length=i*k:=fY h (by rw[rn];omega)
 rw[hs,kH,show aj e (x::xs.drop (i+1))=e x++aj e (xs.drop (i+1)) from po ..]
 have e1:aj e xs=aj e (xs.take i)++(e xs[i]++aj e (xs.drop (i+1))):=by
  conv=>lhs;rw[h0,hd]
  rw[kH]
  rfl
 rw[e1,List.take_left' ht,←jw,vA ht,vA (h _),yU]
theorem JD{x:α}{l:List Value}(h: ∀x,(e x).length=k)(hi:i<xs.length)(hl:e x=l):(bH (aj e xs) z r).toList.take (0+i*k)++l++(bH (aj e xs) z r).toList.drop (0+i*k+l.length)=(bH (aj e (xs.set i x)) z r).toList:=by
 subst hl
 have hlen:=fY h (xs:=xs) rfl
 have h1:(i+1)*k≤xs.length*k:=p4 _ hi
 rw[ka] at h1
 rw[jm,h]
 unfold bH
 simp only
 rw[jg Om,oG Om,←BV h hi]
 simp only[yU]
theorem JE{x:α}{f:Nat}{v:Value}(h: ∀x,(e x).length=k)(hi:i<xs.length)(hf:f<k)(hl:e x=(e (xs.getD i d)).set f v):(bH (aj e xs) z r).setIfInBounds (0+i*k+f) v=bH (aj e (xs.set i x)) z r:=by
 have hlen:=fY h (xs:=xs) rfl
 have h1:(i+1)*k≤xs.length*k:=p4 _ hi
 rw[ka] at h1
 rw[jm]
 unfold bH
 rw[kP,AT _ _ Om,←BV h hi,hl]
 congr 2
 have ht:((aj e xs).take (i*k)).length=i*k:=by rw[rn];omega
 have hp:=uv (d:=d) h hi
 conv=>lhs;rw[←vB (i*k) (aj e xs),←vB k ((aj e xs).drop (i*k)),hp,jw]
 rw[List.set_append_right _ _ Om,ht,show i*k+f-i*k=f by omega,AT _ _ (by rw[h];exact hf),yU]
theorem JF{f:Nat}(h: ∀x,(e x).length=k)(hi:i<xs.length)(hf:f<k):0+i*k+f<(bH (aj e xs) z r).size:=by
 have hlen:=fY h (xs:=xs) rfl
 have h1:(i+1)*k≤xs.length*k:=p4 _ hi
 rw[ka] at h1
 rw[un]
 omega
end
section
variable {P:Program} {T e:TypeId}
end
section
variable {α:Type} {e:α→List Value} {d:α} {xs ys:List α} {n l m N r:Nat} {z:List Value}
theorem xD(h: ∀x,(e x).length=1)(hx:l+m≤xs.length):((aj e xs).drop l).take m=aj e ((xs.drop l).take m):=by
 have h1: ∀(l:Nat) (xs:List α),(aj e xs).drop l=aj e (xs.drop l):=by
  intro l
  induction l with
  | zero=>intro xs;rfl
  | succ l ih=>
   intro xs
   cases xs with
   | nil=>simp [aj]
   | cons x xs=>
    rw[AU,←ih,show aj e (x::xs)=e x++aj e xs from po ..,vC l 1,←jw,vA (h x)]
 have h2: ∀(m:Nat) (xs:List α),m≤xs.length→(aj e xs).take m=aj e (xs.take m):=by
  intro m
  induction m with
  | zero=>intro xs _;rfl
  | succ m ih=>
   intro xs hm
   cases xs with
   | nil=>simp at hm
   | cons x xs=>
    rw[yu,show aj e (x::xs)=e x++aj e xs from po ..,show aj e (x::xs.take m)=e x++aj e (xs.take m) from po ..,←ih xs (by simpa using hm),vC m 1,List.take_append,qA (by rw[h];omega),h,y4]
 rw[h1,h2 _ _ (by rw[eF];omega)]
theorem BW(h: ∀x,(e x).length=1)(hx:xs.length=N)(hl:l+m≤N):(((cR e d N xs).toArray).toList.drop (l*1)).take (aj e ((xs.drop l).take m)).length=aj e ((xs.drop l).take m):=by
 rw[fY (n:=m) h (by rw[rn,eF];omega),qz,qz,lw hx]
 exact xD h Om
theorem xF(h: ∀x,(e x).length=1)(hx:xs.length=N)(hl:l+m≤N):(((cR e d N xs).toArray).toList.drop (l*1)).take (cR e d m ((xs.drop l).take m)).length=cR e d m ((xs.drop l).take m):=by
 rw[lw (n:=m) (by rw[rn,eF];omega)]
 exact BW h hx hl
theorem JG(h: ∀x,(e x).length=1)(hx:xs.length=N)(hl:l*m+m≤N):(((cR e d N xs).toArray).toList.drop (0+l*m)).take (cR e d m ((xs.drop (l*m)).take m)).length=cR e d m ((xs.drop (l*m)).take m):=by
 have:=xF (l:=l*m) (d:=d) h hx hl
 rw[qz] at this
 rw[jm]
 exact this
theorem r5{off:Nat}(h: ∀x,(e x).length=1)(hx:xs.length=N)(hy:ys.length=m)(hl:off+m≤N):((cR e d N xs).toArray).toList.take off++aj e ys++((cR e d N xs).toArray).toList.drop (off+(aj e ys).length)=((cR e d N (xs.take off++ys++xs.drop (off+m))).toArray).toList:=by
 show(cR e d N xs).take off++aj e ys++(cR e d N xs).drop (off+(aj e ys).length)=cR e d N (xs.take off++ys++xs.drop (off+m))
 rw[lw hx,lw (n:=N) (by rw[ir,ir,rn,eF];omega),kH,kH,fY (n:=m) h hy,qz]
 have h1:=xD (e:=e) (xs:=xs) (l:=0) (m:=off) h Om
 have h2:=xD (e:=e) (xs:=xs) (l:=off+m) (m:=N-(off+m)) h Om
 rw[sN,sN] at h1
 rw[h1]
 rw[qA (by rw[eF,fY (n:=N) h hx];omega),qA (by rw[eF];omega)] at h2
 rw[h2]
end
section
variable {P:Program} {T e U:TypeId} {w:World}
theorem JH{g l m s N:Nat}(hT:(P.underlying T,P.arrayLen T,jo P (P.elem T))=(some (.array N (P.elem T)),N,some s))(h2:l+m≤N)(h3:l<N):(Instr.sliceAt T (.pointer (some ⟨g,0,none⟩)) (some (.int .i64 (l:Int))) (some (.int .i64 ((l+m:Nat):Int))) none).run P w= .ok (.slice (some ⟨g,l*s,none⟩) m (N-l)) w:=by
 have h:=Jn (w:=w) (g:=g) (h:=l+m) hT Om h2 h3
 rwa [y4] at h
theorem JI{α:Type}{en:α→List Value}{d:α}{xs:List α}{n m N k:Nat}(hT:(P.underlying T,(P.info? e).map (·.size),dQ P e)=(some (.array n e),some m,true))(h: ∀x,(en x).length=1)(hk:k<n)(hN:n*m=N)(hx:xs.length=N):(Instr.index T (.agg ((cR en d N xs).toArray)) (.int .i64 (k:Int))).run P w= .ok (.agg ((cR en d m ((xs.drop (k*m)).take m)).toArray)) w:=by
 have hu:P.underlying T=some (.array n e):=ALca (·.1) hT
 have hs:(P.info? e).map (·.size)=some m:=ALca (·.2.1) hT
 have ha:dQ P e=true:=ALca (·.2.2) hT
 obtain⟨inf,hq⟩: ∃i,P.info? e=some i:=by cases h:P.info? e<;>simp_all
 have hz:inf.size=m:=by simpa [hq] using hs
 have hue: ∃t,P.underlying e=some t:=by
  unfold dQ at ha
  cases hq:P.underlying e with
  | none=>rw[hq] at ha;cases ha
  | some t=>exact⟨t,rfl⟩
 obtain⟨te,hte⟩:=hue
 have hb:k*m+m≤N:=by
  have:=p4 m (show k+1≤n from hk)
  rw[ka] at this
  omega
 have hp:=rZ (xs:=(cR en d N xs).toArray) (off:=k*m) hte hs (λh=>by rw[ha] at h;cases h) (by rw[tT,o6 h];omega) w
 have e1:=JG (d:=d) (l:=k) (m:=m) h hx hb
 rw[jm,o6 h,qz] at e1
 rw[e1] at hp
 unfold Instr.index
 simp [asIntOf,jh,run_underlying hu,sizeOf,typeInfo,hq,hz,hp,mh,ha,hk]
end
theorem BX{α:Type}[BEq α][LawfulBEq α]{a b:α}(h:(a != b)=false):a=b:=by simpa using h
theorem r6{P:Program}{w:World}(ts:Array TypeId)(t:TypeId)(x y:Int):(Builtin.max_ ts t #[.int .i64 x,.int .i64 y]).run P w= .ok (.int .i64 (max x y)) w:=by
 rw[run_max_int2]
 congr 2
 split<;>omega
theorem JJ{P:Program}{w:World}(ts:Array TypeId)(t:TypeId)(x y:Int):(Builtin.min_ ts t #[.int .i64 x,.int .i64 y]).run P w= .ok (.int .i64 (min x y)) w:=by
 rw[run_min_int2]
 congr 2
 split<;>omega
section
variable {P:Program} {T e:TypeId}
end
theorem JK{α:Type}{e:α→List Value}{d:α}{xs ys:List α}{m N off:Nat}(h: ∀x,(e x).length=1)(hx:xs.length=N)(hy:ys.length=m)(hl:off+m≤N):((cR e d N xs).toArray).toList.take off++cR e d m ys++((cR e d N xs).toArray).toList.drop (off+(cR e d m ys).length)=((cR e d N (xs.take off++ys++xs.drop (off+m))).toArray).toList:=by
 rw[lw (n:=m) hy]
 exact r5 h hx hy hl
theorem JL{α:Type}{e:α→List Value}{d:α}{xs ys:List α}{m N off:Nat}(h: ∀x,(e x).length=1)(hl:off+m≤N):off+(cR e d m ys).length≤((cR e d N xs).toArray).size:=by
 rw[tT,o6 h,o6 h,qz,qz]
 exact hl
theorem JM{α:Type}{g:α→Value}{d:α}{xs:List α}{n:Nat}(hg: ∀x,(g x).oneCell'=true)(hx:xs.length=n): ∀u∈cR (λx=>[g x]) d n xs,u.oneCell'=true:=by
 rw[lw hx]
 exact Jz hg xs
section
variable {P:Program} {T:TypeId} {x y:Operand} {w:World}
theorem JN{k:IntKind}{a d:Nat}(hd:0<d)(hw:k.wrap ((a/d:Nat):Int)=((a/d:Nat):Int)):Op.intDiv .quo k (a:Int) (d:Int)=pure (.int k ((a/d:Nat):Int)):=by
 unfold Op.intDiv
 rw[ALifn Om,←hw,Int.ofNat_tdiv]
theorem JO{k:IntKind}{a d:Nat}(hd:0<d):Op.intDiv .rem k (a:Int) (d:Int)=pure (.int k ((a%d:Nat):Int)):=by
 unfold Op.intDiv
 rw[ALifn Om,Int.ofNat_tmod]
theorem o8{a d:Nat}(hd:0<d)(ha:a<9223372036854775808):(ar .quo T x y (.int .i64 (a:Int)) (.int .i64 (d:Int))).run P w= .ok (.int .i64 ((a/d:Nat):Int)) w:=by
 have h:a/d≤a:=Nat.div_le_self a d
 have e:=ALca (λ(s:Sem Value)=>s.run P w) (JN (k:= .i64) (a:=a) hd (by generalize a/d=q at h⊢;rw[AV];omega))
 exact e
theorem om{a d:Nat}(hd:0<d):(ar .rem T x y (.int .i64 (a:Int)) (.int .i64 (d:Int))).run P w= .ok (.int .i64 ((a%d:Nat):Int)) w:=
 ALca (λ(s:Sem Value)=>s.run P w) (JO (k:= .i64) (a:=a) hd)
theorem uw{a b:Nat}(h:a+b<18446744073709551616):(ar .add T x y (.int .u64 (a:Int)) (.int .u64 (b:Int))).run P w= .ok (.int .u64 ((a+b:Nat):Int)) w:=by
 have h1:IntKind.u64.wrap ((a:Int)+b)=((a+b:Nat):Int):=by rw[pD];omega
 rw[←h1];rfl
theorem JP{S:TypeId}{a:Nat}(hS:P.underlying S=some (.int .u8))(hT:P.underlying T=some (.int .i64))(ha:a<256):(convert S T (.int .u8 (a:Int))).run P w= .ok (.int .i64 (a:Int)) w:=by
 have h:IntKind.i64.wrap (a:Int)=(a:Int):=by rw[AV];omega
 simp only[convert,jh,run_underlying hS,run_underlying hT,dZ,Conv.intToInt,h,rj]
end
end Go.Proofs.YtbcodenfkijdnaaGreat.E
namespace Go.Proofs.YtbcodenfkijdnaaGreat.E
open Go Go.RowKit Go.Shelf
open List renaming not_mem_nil→dZ,mem_cons→ir
open Go.Result renaming andThen_ok→eF
open Go.Sem renaming run_bind→jg,run_pure→jh
def ap{α:Type}(en:α→List Value)(z:List Value)(T:TypeId)(v:Value)(xs:List α):aw→Prop:=λbs=>
 (xs=[]∧bs=[]∧∃a,v= .slice a 0 0)∨∃g r,v= .slice (some ⟨g,0,none⟩) xs.length (xs.length+r)∧bs=[(g,.cells (bH (aj en xs) z r) T (0,0))]
def fp(v:Value)(off:Nat):Value:=match v with | .slice (some a) _ _=> .pointer (some (a.add off)) | _=>undef
section
variable {α:Type} {P:Program} {en:α→List Value} {z:List Value} {e T:TypeId} {v:Value} {xs ys:List α} {bs:aw} {w:World}
theorem ap.nil(a:Option Addr):ap en z T (.slice a 0 0) ([]:List α) []:= .inl ⟨rfl,rfl,a,rfl⟩
theorem ap.form(h:ap en z T v xs bs): ∃a c,v= .slice a xs.length c:=by
 rcases h with⟨rfl,_,a,rfl⟩ | ⟨g,r,rfl,_⟩
 ·exact⟨a,0,rfl⟩
 ·exact⟨_,_,rfl⟩
theorem ap.some(h:ap en z T v xs bs){i:Nat}(hi:i<xs.length): ∃g r,v= .slice (.some ⟨g,0,none⟩) xs.length (xs.length+r)∧bs=[(g,.cells (bH (aj en xs) z r) T (0,0))]:=by
 rcases h with⟨rfl,_⟩ | h
 ·simp at hi
 ·exact h
theorem mI.ent{p:Nat}{x:az}{c:gJ}{w:World}(h:mI [(p,x)] c w):x.sat (c p)∧Has (c p) w:=by
 have:=h.has
 exact⟨h.sat _ (List.mem_singleton.2 rfl),by simpa using this⟩
theorem Has.one{g:Nat}{x:Obj}{w:World}(h:Has [(g,x)] w):w.heap[g]? = .some x:=h.obj (g,x) (List.mem_singleton.2 rfl)
def xG(P:Program)(t:Array TypeId):Bool:=match t.toList with | [T]=>(match P.underlying T with | .some (.slice _)=>true | _=>false) | _=>false
theorem BY{t:Array TypeId}(h:xG P t=true): ∃T e,t=#[T]∧P.underlying T= .some (.slice e):=by
 unfold xG at h
 split at h
 ·rename_i T ht
  split at h
  ·rename_i e h3
   exact⟨T,e,Array.toList_inj.1 ht,h3⟩
  ·cases h
 ·cases h
def qg(P:Program)(p:Nat)(x:az)(v:Value)(o:Oper)(ρ:Operand→Value)(_:cx):MD:=match o.op with
 | .call ⟨.builtin .len,_,t⟩=>⟨[(p,x)],λ_=>[],[sE (λw=>(execOp ρ o).run P w) (λw=>(vS (Builtin.len_ t o.type #[v])).run P w),sB (xG P t)]⟩
 | _=>MD.bad
theorem JQ(p:Nat)(x:az)(h: ∀bs,x.sat bs→ap en z T v xs bs):MD.ok P (λ_=> .int .i64 (xs.length:Int)) (qg P p x v) []:=by
 intro o ρ C he w c hH
 unfold qg at he hH⊢
 split at he
 ·rename_i a t hop
  simp only[hop] at hH⊢
  simp only[ir,dZ,or_false,forall_eq_or_imp,forall_eq,sE,sB] at he
  obtain⟨h0,ht⟩:=he
  obtain⟨h1,h2⟩:=hH.ent
  obtain⟨b,k,rfl⟩:=(h _ h1).form
  obtain⟨T',e',rfl,hT⟩:=BY ht
  refine⟨ab.zero,λ_=>[],w,.inl ((congrFun h0 w).trans (mb ?_)),λx h=>by simp at h,by simpa using bc.refl w⟩
  simp [Builtin.len_,run_underlying hT,goInt,jg]
 ·exact(bG he).elim
def JR(p:Nat)(x:az)(h: ∀bs,x.sat bs→ap en z T v xs bs):MH P (λ_=> .int .i64 (xs.length:Int)):=⟨[],qg P p x v,JQ p x h⟩
def qh(P:Program)(p:Nat)(x:az)(v:Value)(i s:Nat)(o:Oper)(ρ:Operand→Value)(_:cx):MD:=match o.op with
 | .indexAddr T a b=>⟨[(p,x)],λ_=>[],[sE (ρ a) v,sE (ρ b) (.int .i64 (i:Int)),sE (P.underlying T,jo P (P.elem T)) (.some (.slice (P.elem T)),.some s)]⟩
 | _=>MD.bad
theorem JS(p:Nat)(x:az)(i s:Nat)(h: ∀bs,x.sat bs→ap en z T v xs bs)(hi:i<xs.length):MD.ok P (λ_=>fp v (i*s)) (qh P p x v i s) []:=by
 intro o ρ C he w c hH
 unfold qh at he hH⊢
 split at he
 ·rename_i T' a b hop
  simp only[hop] at hH⊢
  simp only[ir,dZ,or_false,forall_eq_or_imp,forall_eq,sE] at he
  obtain⟨ha,hb,hT⟩:=he
  obtain⟨h1,h2⟩:=hH.ent
  obtain⟨g,r,rfl,_⟩:=(h _ h1).some hi
  refine⟨ab.zero,λ_=>[],w,.inl ?_,λx h=>by simp at h,by simpa using bc.refl w⟩
  unfold execOp
  have hr:=bR (P:=P) (w:=w) (g:=g) (off:=0) (n:=xs.length) (c:=xs.length+r) (k:=i) (s:=s) hT hi
  simp only[hop,ha,hb,jg,hr,eF,jh,fp,add_lit]
 ·exact(bG he).elim
def JT(p:Nat)(x:az)(i s:Nat)(h: ∀bs,x.sat bs→ap en z T v xs bs)(hi:i<xs.length):MH P (λ_=>fp v (i*s)):=⟨[],qh P p x v i s,JS p x i s h hi⟩
def xH(P:Program)(p:Nat)(x:az)(v:Value)(off d:Nat)(o:Oper)(ρ:Operand→Value)(_:cx):MD:=match o.op with
 | .fieldAddr T a f=>⟨[(p,x)],λ_=>[],[sE (ρ a) (fp v off),sE (λ(q:Nat×Nat×World)=>(Instr.fieldAt T (.pointer (.some ⟨q.1,q.2.1,none⟩)) f).run P q.2.2) (λq=> .ok (.pointer (.some ⟨q.1,q.2.1+d,none⟩)) q.2.2)]⟩
 | _=>MD.bad
theorem JU(p:Nat)(x:az)(off d:Nat)(h: ∀bs,x.sat bs→ap en z T v xs bs)(hi:0<xs.length):MD.ok P (λ_=>fp v (off+d)) (xH P p x v off d) []:=by
 intro o ρ C he w c hH
 unfold xH at he hH⊢
 split at he
 ·rename_i T' a f hop
  simp only[hop] at hH⊢
  simp only[ir,dZ,or_false,forall_eq_or_imp,forall_eq,sE] at he
  obtain⟨ha,hT⟩:=he
  obtain⟨h1,h2⟩:=hH.ent
  obtain⟨g,r,rfl,_⟩:=(h _ h1).some hi
  refine⟨ab.zero,λ_=>[],w,.inl ?_,λx h=>by simp at h,by simpa using bc.refl w⟩
  unfold execOp
  have hr:=congrFun hT (g,0+off,w)
  simp only at hr
  simp only[fp,add_lit] at ha
  simp only[hop,ha,jg,hr,eF,jh,fp,add_lit,Nat.add_assoc]
 ·exact(bG he).elim
def JV(p:Nat)(x:az)(off d:Nat)(h: ∀bs,x.sat bs→ap en z T v xs bs)(hi:0<xs.length):MH P (λ_=>fp v (off+d)):=⟨[],xH P p x v off d,JU p x off d h hi⟩
def qi(P:Program)(p:Nat)(x:az)(v:Value)(off:Nat)(o:Oper)(ρ:Operand→Value)(_:cx):MD:=match o.op with
 | .load T a=>⟨[(p,x)],λ_=>[],[sE (ρ a) (fp v off),sE (λw=>(isAgg T).run P w) (λw=> .ok false w)]⟩
 | _=>MD.bad
theorem JW(p:Nat)(x:az)(i k f:Nat){d:α}{u:Value}(h: ∀bs,x.sat bs→ap en z T v xs bs)(hk: ∀y,(en y).length=k)(hi:i<xs.length)(hf:f<k)(hu:(en (xs.getD i d))[f]? = .some u):MD.ok P (λ_=>u) (qi P p x v (i*k+f)) []:=by
 intro o ρ C he w c hH
 unfold qi at he hH⊢
 split at he
 ·rename_i T' a hop
  simp only[hop] at hH⊢
  simp only[ir,dZ,or_false,forall_eq_or_imp,forall_eq,sE] at he
  obtain⟨ha,hT⟩:=he
  obtain⟨h1,h2⟩:=hH.ent
  obtain⟨g,r,rfl,hb⟩:=(h _ h1).some hi
  rw[hb] at h2
  have hbk:mF w g T (bH (aj en xs) z r):=h2.one
  refine⟨ab.zero,λ_=>[],w,.inl ?_,λx h=>by simp at h,by simpa using bc.refl w⟩
  unfold execOp
  simp only[fp,add_lit] at ha
  have hz:=JC (z:=z) (r:=r) hk hi hf hu
  rw[show 0+i*k+f=0+(i*k+f) by omega] at hz
  simp only[hop,ha,Instr.loadAt,Instr.sureAddr,jg,jh,eF,ru (congrFun hT w) ((hbk.cell _).trans hz)]
 ·exact(bG he).elim
def JZ(p:Nat)(x:az)(i k f:Nat){d:α}{u:Value}(h: ∀bs,x.sat bs→ap en z T v xs bs)(hk: ∀y,(en y).length=k)(hi:i<xs.length)(hf:f<k)(hu:(en (xs.getD i d))[f]? = .some u):MH P (λ_=>u):=⟨[],qi P p x v (i*k+f),JW p x i k f h hk hi hf hu⟩
def nq(P:Program)(p:Nat)(x:az)(v:Value)(off n:Nat)(o:Oper)(ρ:Operand→Value)(_:cx):MD:=match o.op with
 | .load T a=>⟨[(p,x)],λ_=>[],[sE (ρ a) (fp v off),sB (dQ P T),sE ((P.info? T).map (·.size)) (.some n)]⟩
 | _=>MD.bad
theorem J1(p:Nat)(x:az)(i k f:Nat){d:α}{l:List Value}(h: ∀bs,x.sat bs→ap en z T v xs bs)(hk: ∀y,(en y).length=k)(hi:i<xs.length)(hf:f+l.length≤k)(hu:((en (xs.getD i d)).drop f).take l.length=l):MD.ok P (λ_=> .agg l.toArray) (nq P p x v (i*k+f) l.length) []:=by
 intro o ρ C he w c hH
 unfold nq at he hH⊢
 split at he
 ·rename_i T' a hop
  simp only[hop] at hH⊢
  simp only[ir,dZ,or_false,forall_eq_or_imp,forall_eq,sE,sB] at he
  obtain⟨ha,hg,hs⟩:=he
  obtain⟨h1,h2⟩:=hH.ent
  obtain⟨g,r,rfl,hb⟩:=(h _ h1).some hi
  rw[hb] at h2
  refine⟨ab.zero,λ_=>[],w,.inl ?_,λx h=>by simp at h,by simpa using bc.refl w⟩
  unfold execOp
  simp only[fp,add_lit] at ha
  have hz:=BU (z:=z) (r:=r) (d:=d) hk hi
  rw[hk] at hz
  have hp:((bH (aj en xs) z r).toList.drop (0+(i*k+f))).take l.length=l:=by
   have h5:((bH (aj en xs) z r).toList.drop (0+(i*k+f))).take l.length=((((bH (aj en xs) z r).toList.drop (0+i*k)).take k).drop f).take l.length:=by
    rw[List.drop_take,List.take_take,List.drop_drop,show 0+i*k+f=0+(i*k+f) by omega,Nat.min_eq_left Om]
   rw[h5,hz,hu]
  simp only[hop,ha,Instr.loadAt,Instr.sureAddr,jg,jh,eF,uf h2.one hp hg hs]
 ·exact(bG he).elim
def J2(p:Nat)(x:az)(i k f:Nat){d:α}{l:List Value}(h: ∀bs,x.sat bs→ap en z T v xs bs)(hk: ∀y,(en y).length=k)(hi:i<xs.length)(hf:f+l.length≤k)(hu:((en (xs.getD i d)).drop f).take l.length=l):MH P (λ_=> .agg l.toArray):=⟨[],nq P p x v (i*k+f) l.length,J1 p x i k f h hk hi hf hu⟩
end
end Go.Proofs.YtbcodenfkijdnaaGreat.E
namespace Go.Proofs.YtbcodenfkijdnaaGreat.E
open Go Go.RowKit Go.Shelf
open List renaming flatMap_nil→dZ,length_nil→eF,flatMap_cons→ir,append_nil→jg,length_append→jw,take_append_of_le_length→ka,replicate→kP,mem_append_left→n7,mem_map_of_mem→po,append_assoc→pD,not_mem_nil→p4,take_length→p6,length_set→qx,mem_cons→qz
open Nat renaming le_refl→jh,mul_le_mul_right→oG,zero_add→qA
open Go.Result renaming andThen_ok→jm
open Go.Sem renaming run_bind→na,run_pure→nN
section
variable {α:Type} {P:Program} {en:α→List Value} {z:List Value} {e T:TypeId} {v:Value} {xs ys:List α} {bs:aw} {w:World}
def xI(P:Program)(p:Nat)(x y:az)(v:Value)(off:Nat)(u:Value)(o:Oper)(ρ:Operand→Value)(_:cx):MD:=match o.op with
 | .store T a b=>⟨[(p,x)],λ_=>[(p,y)],[sE (ρ a) (fp v off),sE (ρ b) u,sB u.oneCell',sE ((P.info? T).map (·.size)) (some 1)]⟩
 | _=>MD.bad
theorem J3(p i k f:Nat){d a:α}{u:Value}(hk: ∀y,(en y).length=k)(hi:i<xs.length)(hf:f<k)(hu:en a=(en (xs.getD i d)).set f u):MD.ok P (λ_=>undef) (xI P p (.p (ap en z T v xs)) (.p (ap en z T v (xs.set i a))) v (i*k+f) u) [p]:=by
 intro o ρ C he w c hH
 unfold xI at he hH⊢
 split at he
 ·rename_i T' x y hop
  simp only[hop] at hH⊢
  simp only[qz,p4,or_false,forall_eq_or_imp,forall_eq,sE,sB] at he
  obtain⟨ha,hb,h3,h4⟩:=he
  obtain⟨h1,h2⟩:=hH.ent
  obtain⟨g,r,rfl,hc⟩:=ap.some (show ap en z T v xs (c p) from h1) hi
  rw[hc] at h2
  have hbk:=h2.one
  have hs:=JE (z:=z) (r:=r) hk hi hf hu
  have hl:=JF (z:=z) (r:=r) (f:=f) (xs:=xs) hk hi hf
  rw[show 0+i*k+f=0+(i*k+f) by omega] at hs hl
  simp only[fp,add_lit] at ha
  have hst:=bc.setc (i:=0+(i*k+f)) u hbk
  rw[hs] at hst
  refine⟨ab.zero,λ_=>[(g,.cells (bH (aj en (xs.set i a)) z r) T (0,0))],w.setCell ⟨g,0+(i*k+f),none⟩ u,.inr ⟨?_,by simp⟩,λq h=>?_,?_⟩
  ·unfold execOp
   simp only[hop,ha,hb,Instr.storeAt,Instr.sureAddr,na,nN,jm,ub hbk hl h3 h4]
  ·rw[List.mem_singleton.1 h]
   exact .inr ⟨g,r,by rw[qx],rfl⟩
  ·rw[show([p].flatMap λp=>bN (c p))=_ by simp only[ir,dZ,hc,bN];rfl]
   exact hst
 ·exact(bG he).elim
def J4(p i k f:Nat){d a:α}{u:Value}(hk: ∀y,(en y).length=k)(hi:i<xs.length)(hf:f<k)(hu:en a=(en (xs.getD i d)).set f u):MH P (λ_=>undef):=⟨[p],xI P p (.p (ap en z T v xs)) (.p (ap en z T v (xs.set i a))) v (i*k+f) u,J3 p i k f hk hi hf hu⟩
def qj(P:Program)(p:Nat)(x y:az)(v:Value)(off:Nat)(l:List Value)(o:Oper)(ρ:Operand→Value)(_:cx):MD:=match o.op with
 | .store T a b=>⟨[(p,x)],λ_=>[(p,y)],[sE (ρ a) (fp v off),sE (nm (ρ b)) (some l),sB (l.all (·.oneCell')),sE ((P.info? T).map (·.size)) (some l.length)]⟩
 | _=>MD.bad
theorem J5(p i k:Nat){a:α}(hk: ∀y,(en y).length=k)(hi:i<xs.length):MD.ok P (λ_=>undef) (qj P p (.p (ap en z T v xs)) (.p (ap en z T v (xs.set i a))) v (i*k) (en a)) [p]:=by
 intro o ρ C he w c hH
 unfold qj at he hH⊢
 split at he
 ·rename_i T' x y hop
  simp only[hop] at hH⊢
  simp only[qz,p4,or_false,forall_eq_or_imp,forall_eq,sE,sB] at he
  obtain⟨ha,hb,h3,h4⟩:=he
  obtain⟨h1,h2⟩:=hH.ent
  obtain⟨g,r,rfl,hc⟩:=ap.some (show ap en z T v xs (c p) from h1) hi
  rw[hc] at h2
  have hbk:=h2.one
  have hs:=JD (z:=z) (r:=r) (x:=a) hk hi rfl
  have hle:0+i*k+(en a).length≤(bH (aj en xs) z r).size:=by
   rw[un,fY hk rfl,hk]
   have:=oG k (show i+1≤xs.length from hi)
   rw[Nat.add_mul] at this
   omega
  simp only[fp,add_lit] at ha
  have hst:=bc.setRow (bH (aj en (xs.set i a)) z r) hbk
  refine⟨ab.zero,λ_=>[(g,.cells (bH (aj en (xs.set i a)) z r) T (0,0))],w.setRow g (bH (aj en (xs.set i a)) z r),.inr ⟨?_,by simp⟩,λq h=>?_,?_⟩
  ·unfold execOp
   have hr:=ug (P:=P) (T:=T') hbk hle (List.all_eq_true.1 h3) h4
   rw[hs,Array.toArray_toList] at hr
   simp only[hop,ha,uh hb,Instr.storeAt,Instr.sureAddr,na,nN,jm,hr]
  ·rw[List.mem_singleton.1 h]
   exact .inr ⟨g,r,by rw[qx],rfl⟩
  ·rw[show([p].flatMap λp=>bN (c p))=_ by simp only[ir,dZ,hc,bN];rfl]
   exact hst
 ·exact(bG he).elim
def J6(p i k:Nat)(a:α)(hk: ∀y,(en y).length=k)(hi:i<xs.length):MH P (λ_=>undef):=⟨[p],qj P p (.p (ap en z T v xs)) (.p (ap en z T v (xs.set i a))) v (i*k) (en a),J5 p i k hk hi⟩
theorem ux{s:Sem Value}{v:Value}{w w':World}(h:s.run P w= .ok v w'):(vS s).run P w= .ok (.value v) w':=by
 unfold vS
 simp only[na,h,jm,nN]
theorem ap.slice(h:ap en z T v xs bs): ∃a r,v= .slice a xs.length (xs.length+r):=by
 rcases h with⟨rfl,_,a,rfl⟩ | ⟨g,r,rfl,_⟩
 ·exact⟨a,0,rfl⟩
 ·exact⟨_,r,rfl⟩
theorem BZ{T' TY:TypeId}(hT:d9 P T' e z)(a b:Option Addr)(n r c:Nat)(w:World):(Builtin.append_ #[T',T'] TY #[.slice a n (n+r),.slice b 0 c]).run P w= .ok (.slice a n (n+r)) w:=by
 obtain⟨ht,⟨i,zv,hi,hz,hs,hzc,hby⟩,h0⟩:=hT
 cases a<;>cases b<;>simp [Builtin.append_,run_underlying ht,sizeOf,typeInfo,hi,Builtin.lenOf,Builtin.firstCells,loadCells,loadCellsFrom,storeCells]
theorem B8{T' TY:TypeId}(hT:d9 P T' e z){b1:aw}(hv:ap en z e v xs b1)(hh:Has b1 w){A:Addr}{c:Nat}(hlen: ∀y,(en y).length=z.length)(h1: ∀y,∀u∈en y,u.oneCell'=true)
  (hnews: ∀j u,(aj en ys)[j]? =some u→w.cell? (A.add j)=some u) (hb:xs.length+ys.length≤1000000):
  ∃v' bs' w',(Builtin.append_ #[T',T'] TY #[v,.slice (some A) ys.length c]).run P w= .ok v' w'∧ap en z e v' (xs++ys) bs'∧bc (bN b1) bs' w w':=by
 by_cases hy:ys=[]
 ·subst hy
  obtain⟨a,r,rfl⟩:=hv.slice
  refine⟨_,b1,w,BZ hT a (some A) _ r c w,by rw[jg];exact hv,rfl,rfl,rfl,jh _,hh.obj,λx hx=> .inl (po hx),hh.nd,λ_ _ _=>rfl⟩
 have hpos:0<ys.length:=List.length_pos_iff.2 hy
 have hT':=hT
 obtain⟨ht,⟨i,zv,hi,hz,hs,hzc,hby⟩,h0⟩:=hT
 have hzz:0<zv.cells.size:=by rw[←Array.length_toList,hzc];exact h0
 have hm:(aj en ys).length=ys.length*i.size:=by rw[hs];exact fY hlen rfl
 have hone:=BR (e:=en) (xs:=ys) h1
 have fresh: ∀(C:Array Value),bc (bN b1) [(w.heap.size,.cells C e (0,0))] w (w.drew.alloc (.cells C e)):=λC=>by
  have hal:=(Below.refl w.heap.size w.drew).alloc (jh _) (.cells C e)
  exact⟨hal.os,hal.tape,hal.output,hal.size,λx hx=>by obtain rfl:=List.mem_singleton.1 hx;exact World.alloc_heap_new w.drew _,λx hx=>by obtain rfl:=List.mem_singleton.1 hx;exact .inr (jh _),List.pairwise_singleton _ _,λb hb _=>hal.block b hb⟩
 have grown: ∀(g0:Option Addr) (cap:Nat) (G:Nat),G=grownCap w (xs.length+ys.length) cap e→cap<xs.length+ys.length→(Builtin.append_ #[T',T'] TY #[v,.slice (some A) ys.length c]).run P w= .ok (.slice (some ⟨w.heap.size,0,none⟩) (xs.length+ys.length) G) (w.drew.alloc (.cells ((aj en xs).toArray++(aj en ys).toArray++Builtin.zeroCells zv.cells (G-(xs.length+ys.length))) e))→
   ∃v' bs' w',(Builtin.append_ #[T',T'] TY #[v,.slice (some A) ys.length c]).run P w= .ok v' w'∧ap en z e v' (xs++ys) bs'∧bc (bN b1) bs' w w':=by
  intro g0 cap G hG hcap hr
  have hge:=grownCap_ge w (xs.length+ys.length) cap e
  rw[←hG] at hge
  have e1:(aj en xs).toArray++(aj en ys).toArray++Builtin.zeroCells zv.cells (G-(xs.length+ys.length))=bH (aj en (xs++ys)) z (G-(xs.length+ys.length)):=by
   apply Array.toList_inj.1
   unfold bH
   simp only[Array.toList_append,xA _ _ hzz,hzc,kH]
  rw[e1] at hr
  exact⟨_,_,_,hr,.inr ⟨w.heap.size,G-(xs.length+ys.length),by rw[jw];congr 1;omega,rfl⟩,fresh _⟩
 have hbb:(xs.length+ys.length)*i.bytes≤140737488355328:=Nat.le_trans (Nat.mul_le_mul hb hby) Dc
 rcases hv with⟨rfl,rfl,a,rfl⟩ | ⟨g,r,rfl,rfl⟩
 ·cases a with
  | none=>
   have h:=run_append_nil (P:=P) w T' TY e i zv ht hi hz A ys.length c (aj en ys) hm hnews hpos (by simp only[eF] at hb;omega) (by have:=hbb;simp only[eF,qA] at this;omega)
   refine grown none 0 _ rfl (by simp only[eF];omega) ?_
   simp only[eF,qA,aj,dZ]
   rw[h]
   simp [aj]
  | some a0=>
   have h:=run_append_grow (P:=P) w T' TY e i zv ht hi hz a0 0 0 [] (by simp) (λj u hu=>by simp at hu) A ys.length c (aj en ys) hm hnews Om (by simp only[eF] at hb;omega) (growslice_fits Om (by simpa using hbb))
   refine grown none 0 _ rfl (by simp only[eF];omega) ?_
   simp only[eF,aj,dZ] at h⊢
   exact h
 ·have hg:w.heap[g]? =some (.cells (bH (aj en xs) z r) e (0,0)):=hh.one
  have hn:(aj en xs).length=xs.length*i.size:=by rw[hs];exact fY hlen rfl
  by_cases hr:ys.length≤r
  ·have e1:((bH (aj en xs) z r).toList.take (xs.length*i.size)++aj en ys++(bH (aj en xs) z r).toList.drop (xs.length*i.size+(aj en ys).length)).toArray=bH (aj en (xs++ys)) z (r-ys.length):=by
    have hrep:(kP r z).flatten=(kP ys.length z).flatten++(kP (r-ys.length) z).flatten:=by
     rw[←List.flatten_append,List.replicate_append_replicate,show ys.length+(r-ys.length)=r by omega]
    unfold bH
    rw[←hn,hrep,kH]
    simp only[pD]
    congr 1
    rw[ka (jh _),p6]
    congr 2
    rw[hm,hs,←rQ z ys.length,←jw,←pD (aj en xs),List.drop_append_of_le_length (jh _),List.drop_length,List.nil_append]
   have hrun:=run_append_room (P:=P) w T' TY e i ht hi g xs.length (xs.length+r) (bH (aj en xs) z r) hg A ys.length c (aj en ys) hm hnews hone Om (by rw[←hn,hm,un,hs];have:=oG z.length hr;omega)
   rw[e1] at hrun
   exact⟨_,_,_,hrun,.inr ⟨g,r-ys.length,by rw[jw];congr 1;omega,rfl⟩,bc.setRow _ hg⟩
  ·have hold:=o5 (news:=aj en xs) hg (off:=0) (by unfold bH;rw[List.drop_zero,ka (jh _),p6])
   have h:=run_append_grow (P:=P) w T' TY e i zv ht hi hz ⟨g,0,none⟩ xs.length (xs.length+r) (aj en xs) hn hold A ys.length c (aj en ys) hm hnews Om Om (growslice_fits Om hbb)
   exact grown none (xs.length+r) _ rfl Om h
def SrE{α:Type}(en:α→List Value)(u:Value)(ys:List α):aw→Prop:=λbs=>
 (ys=[]∧∃a c,u= .slice a 0 c)∨∃(g off:Nat) (cs:Array Value) (t:TypeId) (fr:Nat×Nat) (c:Nat),u= .slice (some ⟨g,off,none⟩) ys.length c∧(g,Obj.cells cs t fr)∈bs∧(cs.toList.drop off).take (aj en ys).length=aj en ys
theorem ap.src(h:ap en z T v xs bs):SrE en v xs bs:=by
 rcases h with⟨h1,_,a,h2⟩ | ⟨g,r,h1,h2⟩
 ·exact .inl ⟨h1,a,0,h2⟩
 ·exact .inr ⟨g,0,_,T,_,_,h1,by rw[h2];exact List.mem_singleton.2 rfl,JB⟩
def im(v:Value)(l h s:Nat):Value:=match v with | .slice a _ c=>sliced a l h c s | _=>undef
def ab.ov(v:Value):ab:=⟨λ_=>0,λ_=>0,λ_=>v⟩
theorem J7{T' TY t':TypeId}{p q g off c m:Nat}{cs2:Array Value}(hT:d9 P T' e z)(hlen: ∀y,(en y).length=z.length)(h1: ∀y,∀u∈en y,u.oneCell'=true)(hm:ys.length=m)(hN:(cs2.toList.drop off).take (aj en ys).length=aj en ys)(hb:xs.length+m≤1000000):
  Bw P (rS T' TY v (.slice (some ⟨g,off,none⟩) m c)) (λE=>E.val 0) [(p,.p (ap en z e v xs)),(q,ob g cs2 t')] [p] (λE=>[(p,.p (ap en z e (E.val 0) (xs++ys)))]):=by
 intro w k hH
 subst hm
 have hp:ap en z e v xs (k p):=hH.sat (p,.p (ap en z e v xs)) (by simp)
 have hq:k q=[(g,.cells cs2 t' (0,0))]:=hH.sat (q,ob g cs2 t') (by simp)
 have hh:=hH.has
 simp only[ir,dZ,jg] at hh
 have hg:w.heap[g]? =some (.cells cs2 t' (0,0)):=hh.obj (g,.cells cs2 t' (0,0)) (by rw[hq];simp)
 have hhp:Has (k p) w:=⟨λx hx=>hh.obj x (n7 _ hx),(List.pairwise_append.1 hh.nd).1⟩
 obtain⟨v',bs',w',hr,hs,hst⟩:=B8 (TY:=TY) (c:=c) hT hp hhp hlen h1 (o5 hg hN) hb
 exact⟨ab.ov v',λ_=>bs',w',.inl (ux hr),λx hx=>by rw[List.mem_singleton.1 hx];exact hs,by simpa using hst⟩
theorem J8{T' TY:TypeId}{p q:Nat}{x:az}{u:Value}(hT:d9 P T' e z)(hlen: ∀y,(en y).length=z.length)(h1: ∀y,∀u∈en y,u.oneCell'=true)(hx: ∀bs,x.sat bs→SrE en u ys bs)(hb:xs.length+ys.length≤1000000):
  Bw P (rS T' TY v u) (λE=>E.val 0) [(p,.p (ap en z e v xs)),(q,x)] [p] (λE=>[(p,.p (ap en z e (E.val 0) (xs++ys)))]):=by
 intro w k hH
 have hp:ap en z e v xs (k p):=hH.sat (p,.p (ap en z e v xs)) (by simp)
 have hq:SrE en u ys (k q):=hx _ (hH.sat (q,x) (by simp))
 have hh:=hH.has
 simp only[ir,dZ,jg] at hh
 have hhp:Has (k p) w:=⟨λx hx=>hh.obj x (n7 _ hx),(List.pairwise_append.1 hh.nd).1⟩
 have hhq:Has (k q) w:=⟨λx hx=>hh.obj x (List.mem_append_right _ hx),(List.pairwise_append.1 hh.nd).2.1⟩
 rcases hq with⟨rfl,a,c,rfl⟩ | ⟨g,off,cs,t,fr,c,rfl,hbs,hN⟩
 ·obtain⟨b,r,rfl⟩:=hp.slice
  exact⟨ab.ov _,λ_=>k p,w,.inl (ux (BZ hT b a _ r c w)),λx hx=>by rw[List.mem_singleton.1 hx,jg];exact hp,rfl,rfl,rfl,jh _,by simpa using hhp.obj,λx hx=> .inl (by simp only[ir,dZ,jg] at hx⊢;exact po hx),by simpa using hhp.nd,λ_ _ _=>rfl⟩
 ·obtain⟨v',bs',w',hr,hs,hst⟩:=B8 (TY:=TY) (c:=c) hT hp hhp hlen h1 (o5 (hhq.obj _ hbs) hN) hb
  exact⟨ab.ov v',λ_=>bs',w',.inl (ux hr),λx hx=>by rw[List.mem_singleton.1 hx];exact hs,by simpa using hst⟩
end
end Go.Proofs.YtbcodenfkijdnaaGreat.E
namespace Go.Proofs.YtbcodenfkijdnaaGreat.E
open Go Go.RowKit Go.Shelf
open Go.Sem renaming run_bind→dZ,run_pure→ir
open Go.Result renaming andThen_ok→eF
open List renaming getElem_mem→jg,getElem_of_mem→jh,not_mem_nil→jm,length_set→jw,mem_cons→kP
open Go.World renaming putObj→ka
structure ki {α:Type} (en:α→Value) (d:α) (f:Int→α) (es:List MapEntry):Prop where
 key: ∀x∈es,∃k,x.key= .int .i64 k∧x.val=en (f k)
 out: ∀k,(∀x∈es,x.key≠ .int .i64 k)→f k=d
 one:es.Pairwise λx y=>x.key≠y.key
def mi{α:Type}(en:α→Value)(d:α)(f:Int→α)(g:Nat):aw→Prop:=λbs=>∃es clock,bs=[(g,.map es clock)]∧ki en d f es.toList
def cI{α:Type}(f:Int→α)(k:Int)(a:α)(j:Int):α:=if j=k then a else f j
section
variable {α:Type} {P:Program} {en:α→Value} {d:α} {f:Int→α} {w:World}
theorem ki.find{k:Int}: ∀{es:List MapEntry} {i:Nat},(∀x∈es,∃k,x.key= .int .i64 k∧x.val=en (f k))→
  (Instr.findNow (.int .i64) (.int .i64 k) es i=some none∧∀x∈es,x.key≠ .int .i64 k)∨∃j y,es[j]? =some y∧y.key= .int .i64 k∧Instr.findNow (.int .i64) (.int .i64 k) es i=some (some (i+j,en (f k)))
 | [],i,_=> .inl ⟨rfl,λx h=>by simp at h⟩
 | y::es,i,h=>by
  obtain⟨q,h1,h2⟩:=h y List.mem_cons_self
  by_cases e:k=q
  ·subst e
   refine .inr ⟨0,y,rfl,h1,?_⟩
   unfold Instr.findNow
   rw[h1]
   simp [Instr.sameNow,h2]
  ·have hf:Instr.findNow (.int .i64) (.int .i64 k) (y::es) i=Instr.findNow (.int .i64) (.int .i64 k) es (i+1):=by
    rw[Instr.findNow,h1]
    simp only[Instr.sameNow,if_true]
    rw[beq_false_of_ne e]
   rw[hf]
   rcases ki.find (k:=k) (es:=es) (i:=i+1) (λx hx=>h x (List.mem_cons_of_mem _ hx)) with⟨h3,h4⟩ | ⟨j,z,h3,h4,h5⟩
   ·refine .inl ⟨h3,λx hx=>?_⟩
    rcases List.mem_cons.1 hx with rfl | hx
    ·rw[h1];intro h;cases h;exact e rfl
    ·exact h4 x hx
   ·exact .inr ⟨j+1,z,by simpa using h3,h4,by rw[h5,show i+1+j=i+(j+1) by omega]⟩
theorem ki.nil:ki en d (λ_=>d) []:=⟨λx h=>by simp at h,λ_ _=>rfl,List.Pairwise.nil⟩
theorem ki.push{es:List MapEntry}(h:ki en d f es){k:Int}(hk: ∀x∈es,x.key≠ .int .i64 k)(a:α)(c:Nat):ki en d (cI f k a) (es++[⟨.int .i64 k,en a,c⟩]):=by
 refine⟨λx hx=>?_,λj hj=>?_,?_⟩
 ·rcases List.mem_append.1 hx with hm | hx
  ·obtain⟨q,h1,h2⟩:=h.key x hm
   refine⟨q,h1,?_⟩
   unfold cI
   rw[ALifn]
   ·exact h2
   ·intro e;exact hk x hm (by rw[h1,e])
  ·obtain rfl:=List.mem_singleton.1 hx
   exact⟨k,rfl,by unfold cI;rw[ALifp rfl]⟩
 ·unfold cI
  rw[ALifn]
  ·exact h.out j λx hx=>hj x (List.mem_append_left _ hx)
  ·rintro rfl
   exact hj _ (List.mem_append_right _ (List.mem_singleton.2 rfl)) rfl
 ·refine List.pairwise_append.2 ⟨h.one,List.pairwise_singleton _ _,λx hx y hy=>?_⟩
  obtain rfl:=List.mem_singleton.1 hy
  exact hk x hx
theorem ki.set{es:List MapEntry}(h:ki en d f es){k:Int}{i:Nat}{y:MapEntry}(hy:es[i]? =some y)(hk:y.key= .int .i64 k)(a:α):ki en d (cI f k a) (es.modify i λe=>{e with key:= .int .i64 k,val:=en a}):=by
 have hlt:=(List.getElem?_eq_some_iff.1 hy).1
 have hyi:=(List.getElem?_eq_some_iff.1 hy).2
 have hget: ∀j (hj:j<es.length),(es.modify i λe=>{e with key:= .int .i64 k,val:=en a})[j]'(by simpa using hj)=if i=j then{es[j] with key:= .int .i64 k,val:=en a} else es[j]:=λj hj=>by
  rw[List.getElem_modify]
 have hkey: ∀j (hj:j<es.length),((es.modify i λe=>{e with key:= .int .i64 k,val:=en a})[j]'(by simpa using hj)).key=es[j].key:=λj hj=>by
  rw[hget j hj]
  split
  ·rename_i e;subst e;simp only;rw[hyi,hk]
  ·rfl
 refine⟨λx hx=>?_,λj hj=>?_,?_⟩
 ·obtain⟨j,hj,rfl⟩:=jh hx
  have hj':j<es.length:=by simpa using hj
  rw[hget j hj']
  split
  ·exact⟨k,rfl,by unfold cI;rw[ALifp rfl]⟩
  ·rename_i hne
   obtain⟨q,h1,h2⟩:=h.key es[j] (jg hj')
   refine⟨q,h1,?_⟩
   unfold cI
   rw[ALifn]
   ·exact h2
   ·rintro rfl
    have hp:=List.pairwise_iff_getElem.1 h.one
    rcases Nat.lt_or_gt_of_ne hne with l | l
    ·exact hp i j hlt hj' l (by rw[hyi,hk,h1])
    ·exact hp j i hj' hlt l (by rw[hyi,hk,h1])
 ·unfold cI
  have hne:j≠k:=by
   rintro rfl
   refine hj _ (jg (show i<_ by simpa using hlt)) ?_
   rw[hkey i hlt,hyi,hk]
  rw[ALifn hne]
  refine h.out j λx hx=>?_
  obtain⟨q,hq,rfl⟩:=jh hx
  rw[←hkey q hq]
  exact hj _ (jg _)
 ·rw[List.pairwise_iff_getElem]
  intro a b ha hb hab
  have ha':a<es.length:=by simpa using ha
  have hb':b<es.length:=by simpa using hb
  rw[hkey a ha',hkey b hb']
  exact(List.pairwise_iff_getElem.1 h.one) a b ha' hb' hab
def uy(P:Program)(T:TypeId):Option (TypeId×TypeId):=match P.underlying T with
 | some (.map K V)=>match P.underlying K with
  | some (.int .i64)=>some (K,V)
  | _=>none
 | _=>none
theorem B9{T K V:TypeId}(h:uy P T=some (K,V)):P.underlying T=some (.map K V)∧P.underlying K=some (.int .i64):=by
 unfold uy at h
 split at h
 ·rename_i K' V' h1
  split at h
  ·rename_i h2;cases h;exact⟨h1,h2⟩
  ·cases h
 ·cases h
theorem Ca{K:TypeId}(hK:P.underlying K=some (.int .i64))(b:Bool)(n:Nat)(k:Int):(Instr.checkKey b (n+1) K (.int .i64 k)).run P w= .ok () w:=by
 unfold Instr.checkKey
 simp [dZ,run_underlying hK]
theorem uz{g:Nat}{es:Array MapEntry}{c:Nat}(h:w.heap[g]? =some (.map es c)):(getObj g).run P w= .ok (.map es c) w:=by simp [getObj,Sem.run,h]
theorem Cb{g:Nat}{es:Array MapEntry}{c:Nat}(o:Obj)(h:w.heap[g]? =some (.map es c)):(setObj g o).run P w= .ok () (w.putObj g o):=by simp [setObj,Sem.run,h,ka]
def xJ(P:Program)(p:Nat)(x:az)(g:Nat)(k:Int)(dv:Value)(o:Oper)(ρ:Operand→Value)(_:cx):MD:=match o.op with
 | .lookup T a b false=>match uy P T with
  | some (K,V)=>⟨[(p,x)],λ_=>[],[sE (ρ a) (.map (some g)),sE (ρ b) (.int .i64 k),sE (λw=>(zeroValue V).run P w) (λw=> .ok dv w)]⟩
  | none=>MD.bad
 | _=>MD.bad
theorem J9(p:Nat)(x:az)(g:Nat)(k:Int)(h: ∀bs,x.sat bs→mi en d f g bs):MD.ok P (λ_=>en (f k)) (xJ P p x g k (en d)) []:=by
 intro o ρ C he w c hH
 unfold xJ at he hH⊢
 split at he
 ·rename_i T a b hop
  simp only[hop] at hH⊢
  split at he
  ·rename_i K V hT
   simp only[hT] at hH⊢
   simp only[kP,jm,or_false,forall_eq_or_imp,forall_eq,sE] at he
   obtain⟨ha,hb,hz⟩:=he
   obtain⟨h1,h2⟩:=hH.ent
   obtain⟨es,clock,hc,hr⟩:=h _ h1
   rw[hc] at h2
   have hg:=h2.one
   obtain⟨e1,e2⟩:=B9 hT
   have hz:=congrFun hz w
   refine⟨ab.zero,λ_=>[],w,.inl ?_,λx h=>by simp at h,by simpa using bc.refl w⟩
   have hl:(Instr.lookup T (.map (some g)) (.int .i64 k) false).run P w= .ok (en (f k)) w:=by
    unfold Instr.lookup
    have hck:=Ca (P:=P) (w:=w) e2 es.isEmpty 9999 k
    rcases ki.find (en:=en) (f:=f) (k:=k) (i:=0) hr.key with⟨h3,h4⟩ | ⟨j,y,_,_,h3⟩
    ·have hd:f k=d:=hr.out k h4
     simp [dZ,run_underlying e1,uz hg,hck,Instr.findKey,run_underlying e2,h3,hz,hd]
    ·simp [dZ,run_underlying e1,uz hg,hck,Instr.findKey,run_underlying e2,h3]
   unfold execOp
   simp only[hop,ha,hb,dZ,hl,eF,ir]
  ·exact(bG he).elim
 ·exact(bG he).elim
def mg(p:Nat)(x:az)(g:Nat)(k:Int)(h: ∀bs,x.sat bs→mi en d f g bs):MH P (λ_=>en (f k)):=⟨[],xJ P p x g k (en d),J9 p x g k h⟩
def xK(P:Program)(p:Nat)(x y:az)(g:Nat)(k:Int)(u:Value)(o:Oper)(ρ:Operand→Value)(_:cx):MD:=match o.op with
 | .mapUpdate T a b z=>match uy P T with
  | some _=>⟨[(p,x)],λ_=>[(p,y)],[sE (ρ a) (.map (some g)),sE (ρ b) (.int .i64 k),sE (ρ z) u]⟩
  | none=>MD.bad
 | _=>MD.bad
theorem Ka(p g:Nat)(k:Int)(a:α):MD.ok P (λ_=>undef) (xK P p (.p (mi en d f g)) (.p (mi en d (cI f k a) g)) g k (en a)) [p]:=by
 intro o ρ C he w c hH
 unfold xK at he hH⊢
 split at he
 ·rename_i T m b z hop
  simp only[hop] at hH⊢
  split at he
  ·rename_i KV hT
   obtain⟨K,V⟩:=KV
   simp only[hT] at hH⊢
   simp only[kP,jm,or_false,forall_eq_or_imp,forall_eq,sE] at he
   obtain⟨ha,hb,hz⟩:=he
   obtain⟨h1,h2⟩:=hH.ent
   obtain⟨es,clock,hc,hr⟩:=h1
   rw[hc] at h2
   have hg:=h2.one
   obtain⟨e1,e2⟩:=B9 hT
   have hck:=Ca (P:=P) (w:=w) e2 false 9999 k
   have step: ∀es' clock',bc ([p].flatMap λp=>bN (c p)) ([(g,Obj.map es' clock')]++[]) w (w.putObj g (.map es' clock')):=λes' clock'=>by
    rw[show([p].flatMap λp=>bN (c p))=[g] by simp only[List.flatMap_cons,List.flatMap_nil,hc,bN];rfl]
    exact bc.put rfl rfl rfl (by simp [ka]) (World.putObj_heap_same (Array.getElem?_eq_some_iff.1 hg).1) (λb hb=>World.putObj_heap_other hb)
   rcases ki.find (en:=en) (f:=f) (k:=k) (i:=0) hr.key with⟨h3,h4⟩ | ⟨j,y,hj,hjk,h3⟩
   ·refine⟨ab.zero,λ_=>[(g,.map (es.push ⟨.int .i64 k,en a,clock⟩) (clock+1))],w.putObj g (.map (es.push ⟨.int .i64 k,en a,clock⟩) (clock+1)),.inr ⟨?_,by simp⟩,λq h=>?_,step _ _⟩
    ·have hl:(Instr.mapUpdate T (.map (some g)) (.int .i64 k) (en a)).run P w= .ok () (w.putObj g (.map (es.push ⟨.int .i64 k,en a,clock⟩) (clock+1))):=by
      unfold Instr.mapUpdate
      simp [dZ,run_underlying e1,uz hg,hck,Instr.findKey,run_underlying e2,h3,Cb _ hg]
     unfold execOp
     simp only[hop,ha,hb,hz,dZ,hl,eF,ir]
    ·rw[List.mem_singleton.1 h]
     exact⟨_,_,rfl,by rw[Array.toList_push];exact hr.push h4 a clock⟩
   ·rw[Nat.zero_add] at h3
    have hj':es[j]? =some y:=by rw[←Array.getElem?_toList];exact hj
    have hkk:(Instr.keyThatStays (((es[j]?).map (·.key)).getD (.int .i64 k)) (.int .i64 k)).run P w= .ok (.int .i64 k) w:=by
     rw[hj']
     simp [hjk,Instr.keyThatStays,Instr.sameBits]
    refine⟨ab.zero,λ_=>[(g,.map (es.modify j λe=>{e with key:= .int .i64 k,val:=en a}) clock)],w.putObj g (.map (es.modify j λe=>{e with key:= .int .i64 k,val:=en a}) clock),.inr ⟨?_,by simp⟩,λq h=>?_,step _ _⟩
    ·have hl:(Instr.mapUpdate T (.map (some g)) (.int .i64 k) (en a)).run P w= .ok () (w.putObj g (.map (es.modify j λe=>{e with key:= .int .i64 k,val:=en a}) clock)):=by
      unfold Instr.mapUpdate
      simp only[dZ,run_underlying e1,uz hg,hck,Instr.findKey,run_underlying e2,h3,hkk,eF,ir,Cb _ hg]
     unfold execOp
     simp only[hop,ha,hb,hz,dZ,hl,eF,ir]
    ·rw[List.mem_singleton.1 h]
     exact⟨_,_,rfl,by rw[Array.toList_modify];exact hr.set hj hjk a⟩
  ·exact(bG he).elim
 ·exact(bG he).elim
def mu(p g:Nat)(k:Int)(en:α→Value)(d:α)(f:Int→α)(a:α):MH P (λ_=>undef):=⟨[p],xK P p (.p (mi en d f g)) (.p (mi en d (cI f k a) g)) g k (en a),Ka p g k a⟩
def xL(P:Program)(p:Nat)(Q:Nat→aw→Prop)(o:Oper)(_:Operand→Value)(_:cx):MD:=match o.op with
 | .makeMap T none=>⟨[],λE=>[(p,.p (Q (E.abd 0)))],[sE (λw=>(Instr.makeMap T none).run P w) (λw=> .ok (.map (some w.heap.size)) (w.alloc (.map #[] 0)))]⟩
 | _=>MD.bad
theorem Kb(p:Nat)(en:α→Value)(d:α):MD.ok P (λE=> .map (some (E.abd 0))) (xL P p (mi en d λ_=>d)) []:=by
 intro o ρ C he w c hH
 unfold xL at he hH⊢
 split at he
 ·rename_i T hop
  simp only[hop] at hH⊢
  simp only[List.mem_singleton,forall_eq,sE] at he
  refine⟨ab.of w.heap.size,λ_=>[(w.heap.size,.map #[] 0)],_,.inl ?_,λx h=>?_,by simpa using bc.alloc w (.map #[] 0)⟩
  ·unfold execOp
   have:=congrFun he w
   simp only[hop,Option.map_none,dZ,this,eF,ir]
   rfl
  ·rw[List.mem_singleton.1 h]
   exact⟨#[],0,rfl,ki.nil⟩
 ·exact(bG he).elim
def mm(p:Nat)(en:α→Value)(d:α):MH P (λE=> .map (some (E.abd 0))):=⟨[],xL P p (mi en d λ_=>d),Kb p en d⟩
end
def r7(S:ah→Prop):aw→Prop:=λbs=>∃L cs,S L∧bu L cs∧bs=cs.flatten
abbrev pk(S:ah→Prop):az:= .p (r7 S)
theorem r9: ∀{cs ds:List aw},bu (cs.map .c) ds→ds=cs
 | [],[],_=>rfl
 | c::cs,d::ds,h=>by rw[show d=c from h.1,r9 h.2]
 | [],_::_,h=>h.elim
 | _::_,[],h=>h.elim
section
variable {R:List Nat} {base W w:World} {L L' N:ah}
theorem aD.weak(h:aD R base L W){x y:az}(k:Nat)(hk:L[k]? =some x)(hxy: ∀bs,x.sat bs→y.sat bs):aD R base (L.set k y) W:=by
 obtain⟨c,hO⟩:=h
 have hlt:=(List.getElem?_eq_some_iff.1 hk).1
 refine⟨c,?_⟩
 rw[jw]
 refine⟨λp hp z hz=>?_,λp hp hx=>?_,hO.obj,hO.inn,hO.nd,hO.lo,hO.os,hO.tape,hO.output,hO.size,hO.far⟩
 ·rw[List.getElem?_set] at hz
  by_cases e:k=p
  ·subst e
   rw[ALifp rfl,ALifp hlt] at hz
   cases hz
   exact hxy _ (hO.sat k hlt x hk)
  ·rw[ALifn e] at hz
   exact hO.sat p hp z hz
 ·rw[List.getElem?_eq_none_iff,jw] at hx
  omega
theorem aD.nilS{α:Type}(h:aD R base L W)(en:α→List Value)(z:List Value)(T:TypeId):aD R base (L++[.p (ap en z T (.slice none 0 0) ([]:List α))]) W:=by
 obtain⟨cs,hs,hO⟩:=h.conc
 refine aD.ofS (cs:=cs++[[]]) (kG hs ⟨ap.nil none,trivial⟩) ?_
 simpa using hO
end
end Go.Proofs.YtbcodenfkijdnaaGreat.E
namespace Go.Proofs.YtbcodenfkijdnaaGreat.E
open Go Go.RowKit Go.Shelf
open List renaming not_mem_nil→dZ,mem_cons→eF
def ab.l(bs ns:List Nat)(vs:List Value):ab:=⟨λi=>bs.getD i 0,λi=>ns.getD i 0,λi=>vs.getD i undef⟩
section
variable {P:Program} {f:FuncId} {args:Array Value} {rd:ah} {O:List Nat} {wt:ab→ah} {v:ab→Value}
def Cc(O:List Nat)(wt:ab→ah)(v:ab→Value)(cs:List aw)(w:World)(e:Ending)(w':World):Prop:=
 ∃E ds,e= .returned (v E)∧bu (wt E) ds∧bc (O.flatMap λi=>bN (cs.getD i [])) ds.flatten w w'
def oo:Option az→Bool
 | some (.c _)=>true
 | _=>false
theorem aD.fin2{R:List Nat}{w W':World}{L:ah}{cs:List aw}(hs:bu rd cs)(hh:Has cs.flatten w)(h:aD (bN cs.flatten) w L W')(O:List Nat)(N:ah)(ps:List Nat)(ks:List (Nat×Nat))
  (he:(dx (ps++ks.map (·.2)),ps.map (λp=>L[p]?),ks.map (λx=>L[x.2]?),ks.all (λx=>oo rd[x.1]?),(List.range rd.length).all λi=>O.contains i||ks.any λx=>x.1==i)=(true,N.map some,ks.map (λx=>rd[x.1]?),true,true)):
  ∃ds,bu N ds∧bc (O.flatMap λi=>bN (cs.getD i [])) ds.flatten w W':=by
 simp only[Prod.mk.injEq] at he
 obtain⟨h1,h2,h3,h4,h5⟩:=he
 refine h.fin hs hh O N ps ks ?_
 simp only[Prod.mk.injEq]
 refine⟨h1,h2,?_,h5⟩
 rw[h3]
 refine List.map_congr_left λx hx=>?_
 have h6:=List.all_eq_true.1 h4 x hx
 cases hq:rd[x.1]? with
 | none=>rw[hq] at h6;cases h6
 | some y=>
  rw[hq] at h6
  cases y with
  | c bs=>rw[show cs.getD x.1 []=bs from nn hs hq]
  | p Q=>cases h6
theorem aa.ro(i:Nat){Q:aw→Prop}(hi:rd[i]? =some (.p Q))(h: ∀bs,Q bs→aa P f args (rd.set i (.c bs)) O wt v)(hE:Enters P f):aa P f args rd O wt v:=by
 refine⟨hE,λw cs hs hh=>?_⟩
 refine(h (cs.getD i []) (nn hs hi)).out w cs ?_ hh
 have key: ∀(rd:ah) (cs:List aw) (i:Nat),bu rd cs→i<rd.length→bu (rd.set i (.c (cs.getD i []))) cs:=by
  intro rd
  induction rd with
  | nil=>intro cs i _ hi;simp at hi
  | cons x rd ih=>
   intro cs i hs hi
   obtain⟨d,ds,rfl,h1,h2⟩:=eG hs
   cases i with
   | zero=>exact⟨rfl,h2⟩
   | succ i=>exact⟨h1,ih ds i h2 (by simpa using hi)⟩
 exact key rd cs i hs (List.getElem?_eq_some_iff.1 hi).1
theorem aa.at(h:aa P f args rd O wt v){rd':ah}(hr: ∀cs,bu rd' cs→bu rd cs):aa P f args rd' O wt v:=⟨h.ent,λw cs hs hh=>h.out w cs (hr cs hs) hh⟩
end
section
variable {P:Program} {f:FuncId} {args:Array Value} {u:Value}
end
section
variable {P:Program}
def Cd(op:BinOp)(a b:Value):TD:=λo ρ=>match o.op with | .binOp op' _ x y _=>[sE op' op,sE (ρ x) a,sE (ρ y) b] | _=>[sB false]
theorem Kc{op:BinOp}{a b c:Value}(h: ∀(T:TypeId) (x y:Operand) (w:World),(ar op T x y a b).run P w= .ok c w):TD.ok P (Cd op a b) c:=by
 intro o ρ he w
 unfold Cd at he
 split at he
 ·rename_i op' T x y q hop
  simp only[eF,dZ,or_false,forall_eq_or_imp,forall_eq,sE] at he
  obtain⟨rfl,h2,h3⟩:=he
  have h4:=h T x y w
  unfold ar at h4
  unfold execOp
  simp only[hop,h2,h3]
  have h5:=mb h4
  unfold vS at h5
  exact h5
 ·exact(bG he).elim
def tb{op:BinOp}{a b c:Value}(h: ∀(T:TypeId) (x y:Operand) (w:World),(ar op T x y a b).run P w= .ok c w):TH P c:=⟨_,Kc h⟩
def uA(op:BinOp)(T:TypeId)(a b:Value):TD:=λo ρ=>match o.op with | .binOp op' T' x y _=>[sE op' op,sE T' T,sE (ρ x) a,sE (ρ y) b] | _=>[sB false]
theorem xM{op:BinOp}{a b c:Value}(T:TypeId)(h: ∀(x y:Operand) (w:World),(ar op T x y a b).run P w= .ok c w):TD.ok P (uA op T a b) c:=by
 intro o ρ he w
 unfold uA at he
 split at he
 ·rename_i op' T x y q hop
  simp only[eF,dZ,or_false,forall_eq_or_imp,forall_eq,sE] at he
  obtain⟨rfl,rfl,h2,h3⟩:=he
  have h4:=h x y w
  unfold ar at h4
  unfold execOp
  simp only[hop,h2,h3]
  have h5:=mb h4
  unfold vS at h5
  exact h5
 ·exact(bG he).elim
def i9{op:BinOp}{a b c:Value}(T:TypeId)(h: ∀(x y:Operand) (w:World),(ar op T x y a b).run P w= .ok c w):TH P c:=⟨_,xM T h⟩
def Ce(P:Program)(k l:IntKind)(a:Value):TD:=λo ρ=>match o.op with | .convert S T x=>[sE (P.underlying S) (some (.int k)),sE (P.underlying T) (some (.int l)),sE (ρ x) a] | _=>[sB false]
theorem Ke{k l:IntKind}{a c:Value}(h: ∀(S T:TypeId) (w:World),P.underlying S=some (.int k)→P.underlying T=some (.int l)→(convert S T a).run P w= .ok c w):TD.ok P (Ce P k l a) c:=by
 intro o ρ he w
 unfold Ce at he
 split at he
 ·rename_i S T x hop
  simp only[eF,dZ,or_false,forall_eq_or_imp,forall_eq,sE] at he
  obtain⟨h1,h2,h3⟩:=he
  unfold execOp
  simp only[hop,h3]
  have h5:=mb (h S T w h1 h2)
  unfold vS at h5
  exact h5
 ·exact(bG he).elim
def tc{k l:IntKind}{a c:Value}(h: ∀(S T:TypeId) (w:World),P.underlying S=some (.int k)→P.underlying T=some (.int l)→(convert S T a).run P w= .ok c w):TH P c:=⟨_,Ke h⟩
def Cg(P:Program)(s:Sem Value):TD:=λo ρ=>[sE (λw=>(execOp ρ o).run P w) (λw=>(vS s).run P w)]
theorem Zm{v:Value}{s:Sem Value}(h: ∀w,s.run P w= .ok v w):TD.ok P (Cg P s) v:=λo ρ he w=>by
 simp only[Cg,List.mem_singleton,forall_eq,sE] at he
 exact(congrFun he w).trans (mb (h w))
end
end Go.Proofs.YtbcodenfkijdnaaGreat.E
namespace Go.Proofs.YtbcodenfkijdnaaGreat.E
open Go Go.RowKit Go.Shelf
open List renaming not_mem_nil→dZ,mem_cons→eF,mem_singleton→jg
open Go.Result renaming andThen_ok→ir
open Go.Sem renaming run_bind→jh,run_pure→jm
abbrev bE(v:Value)(xs:List UInt8):az:= .p (ap eB [.int .u8 0] 5 v xs)
abbrev dy(v:Value)(xs:List Int):az:= .p (ap eI [.int .i64 0] 3 v xs)
section
variable {α:Type} {P:Program} {en:α→List Value} {z:List Value} {e T:TypeId} {v:Value} {xs ys:List α} {bs:aw} {w:World}
theorem cP{Q:aw→Prop}{bs:aw}(h:Q bs): ∀b,(az.c bs).sat b→Q b:=λb hb=>by rw[show b=bs from hb];exact h
def xN(P:Program)(p q:Nat)(T':TypeId)(v:Value)(x:az)(y:ab→az)(news:List Value)(m:Nat)(o:Oper)(ρ:Operand→Value)(C:cx):MD:=match C q,o.op with
 | some (.c [(g,.cells cs2 t' (0,0))]),.call ⟨.builtin .append,a,_⟩=>match a.toList.map ρ with
  | [_,.slice (some ⟨_,off,none⟩) _ c]=>⟨[(p,x),(q,ob g cs2 t')],λE=>[(p,y E)],[sE (λw=>(execOp ρ o).run P w) (λw=>(rS T' o.type v (.slice (some ⟨g,off,none⟩) m c)).run P w),sE ((cs2.toList.drop off).take news.length) news]⟩
  | _=>MD.bad
 | _,_=>MD.bad
theorem Kf{T':TypeId}(p q:Nat)(hT:d9 P T' e z)(v:Value)(hlen: ∀y,(en y).length=z.length)(h1: ∀y,∀u∈en y,u.oneCell'=true)(hb:xs.length+ys.length≤1000000):
  MD.ok P (λE=>E.val 0) (xN P p q T' v (.p (ap en z e v xs)) (λE=> .p (ap en z e (E.val 0) (xs++ys))) (aj en ys) ys.length) [p]:=by
 intro o ρ C he w c hH
 unfold xN at he hH⊢
 split at he
 ·rename_i g cs2 t' a t hC hop
  simp only[hC,hop] at hH⊢
  split at he
  ·rename_i x0 g' off m' c' ha
   simp only[ha] at hH⊢
   simp only[eF,dZ,or_false,forall_eq_or_imp,forall_eq,sE] at he
   obtain⟨h2,h3⟩:=he
   obtain⟨E,d,w',hr,hs,hst⟩:=J7 (T':=T') (TY:=o.type) (p:=p) (q:=q) (v:=v) (xs:=xs) (c:=c') hT hlen h1 rfl h3 hb w c hH
   exact⟨E,d,w',hr.imp (λh=>(congrFun h2 w).trans h) (λh=>⟨(congrFun h2 w).trans h.1,h.2⟩),hs,hst⟩
  ·exact(bG he).elim
 ·exact(bG he).elim
def Kg{T':TypeId}(p q:Nat)(hT:d9 P T' e z)(v:Value)(h1: ∀y,∀u∈en y,u.oneCell'=true)(hlen: ∀y,(en y).length=z.length)(hb:xs.length+ys.length≤1000000):MH P (λE=>E.val 0):=
 ⟨[p],xN P p q T' v (.p (ap en z e v xs)) (λE=> .p (ap en z e (E.val 0) (xs++ys))) (aj en ys) ys.length,Kf p q hT v hlen h1 hb⟩
def xO(P:Program)(p q:Nat)(T':TypeId)(v u:Value)(x xq:az)(y:ab→az)(o:Oper)(ρ:Operand→Value)(C:cx):MD:=
 ⟨[(p,x),(q,xq)],λE=>[(p,y E)],[sE (λw=>(execOp ρ o).run P w) (λw=>(rS T' o.type v u).run P w)]⟩
theorem Kh{T':TypeId}(p q:Nat)(hT:d9 P T' e z)(v u:Value)(xq:az)(hx: ∀bs,xq.sat bs→SrE en u ys bs)(hlen: ∀y,(en y).length=z.length)(h1: ∀y,∀u∈en y,u.oneCell'=true)(hb:xs.length+ys.length≤1000000):
  MD.ok P (λE=>E.val 0) (xO P p q T' v u (.p (ap en z e v xs)) xq (λE=> .p (ap en z e (E.val 0) (xs++ys)))) [p]:=by
 intro o ρ C he w c hH
 simp only[xO,jg,forall_eq,sE] at he hH⊢
 obtain⟨E,d,w',hr,hs,hst⟩:=J8 (T':=T') (TY:=o.type) (p:=p) (q:=q) (v:=v) (xs:=xs) hT hlen h1 hx hb w c hH
 exact⟨E,d,w',hr.imp (λh=>(congrFun he w).trans h) (λh=>⟨(congrFun he w).trans h.1,h.2⟩),hs _ (List.mem_singleton.2 rfl),hst⟩
def mK{T':TypeId}(p q:Nat)(hT:d9 P T' e z)(v u:Value)(xq:az)(hx: ∀bs,xq.sat bs→SrE en u ys bs)(h1: ∀y,∀u∈en y,u.oneCell'=true)(hlen: ∀y,(en y).length=z.length)(hb:xs.length+ys.length≤1000000):MH P (λE=>E.val 0):=
 ⟨[p],xO P p q T' v u (.p (ap en z e v xs)) xq (λE=> .p (ap en z e (E.val 0) (xs++ys))),Kh p q hT v u xq hx hlen h1 hb⟩
end
section
variable {P:Program}
def uB(P:Program)(te:TypeId)(n:Nat)(ps:List (Nat×Operand))(ρ:Operand→Value):Array Value:=
 ((List.range n).flatMap λi=>match ps.find? (λx=>x.1==i) with | some x=>(ρ x.2).cells.toList | none=>(rJ P te).toList).toArray
def xP(P:Program)(p n:Nat)(o:Oper)(ρ:Operand→Value)(_:cx):MD:=match o.op with
 | .buildSlice T n' ps=>⟨[],λE=>[(p,ob (E.abd 0) (uB P (P.elem T) n ps.toList ρ) (P.elem T))],[sE n' n,sE (λw=>(execOp ρ o).run P w) (λw=> .ok (.value (.slice (some ⟨w.heap.size,0,none⟩) n n)) (w.alloc (.cells (uB P (P.elem T) n ps.toList ρ) (P.elem T))))]⟩
 | _=>MD.bad
theorem Ki(p n:Nat):MD.ok P (λE=> .slice (some ⟨E.abd 0,0,none⟩) n n) (xP P p n) []:=by
 intro o ρ C he w c hH
 unfold xP at he hH⊢
 split at he
 ·rename_i T n' ps hop
  simp only[hop] at hH⊢
  simp only[eF,dZ,or_false,forall_eq_or_imp,forall_eq,sE] at he
  refine⟨ab.of w.heap.size,λ_=>[(w.heap.size,.cells (uB P (P.elem T) n ps.toList ρ) (P.elem T) (0,0))],_,.inl (congrFun he.2 w),λx h=>?_,by simpa using bc.alloc w (.cells (uB P (P.elem T) n ps.toList ρ) (P.elem T))⟩
  rw[List.mem_singleton.1 h]
  rfl
 ·exact(bG he).elim
def bs(p n:Nat):MH P (λE=> .slice (some ⟨E.abd 0,0,none⟩) n n):=⟨[],xP P p n,Ki p n⟩
def xQ(P:Program){α:Type}(p:Nat)(en:α→List Value)(z:List Value)(te:TypeId)(o:Oper)(ρ:Operand→Value)(_:cx):MD:=
 ⟨[],λE=>[(p,.p (ap en z te (.slice (some ⟨E.abd 0,0,none⟩) 0 0) []))],[sE (λw=>(execOp ρ o).run P w) (λw=> .ok (.value (.slice (some ⟨w.heap.size,0,none⟩) 0 0)) (w.alloc (.cells #[] te)))]⟩
theorem Kj{α:Type}(p:Nat)(en:α→List Value)(z:List Value)(te:TypeId):MD.ok P (λE=> .slice (some ⟨E.abd 0,0,none⟩) 0 0) (xQ P p en z te) []:=by
 intro o ρ C he w c hH
 simp only[xQ,jg,forall_eq,sE] at he hH⊢
 refine⟨ab.of w.heap.size,λ_=>[],_,.inl (congrFun he w),ap.nil _,?_⟩
 have:=bc.alloc w (.cells #[] te)
 exact⟨this.os,this.tape,this.output,this.size,λ_ h=>by simp at h,λ_ h=>by simp at h,by simp,λb hb hn=>this.far b hb (by simp)⟩
def sa{α:Type}(p:Nat)(en:α→List Value)(z:List Value)(te:TypeId):MH P (λE=> .slice (some ⟨E.abd 0,0,none⟩) 0 0):=⟨[],xQ P p en z te,Kj p en z te⟩
end
section
variable {α:Type} {P:Program} {en:α→List Value} {z:List Value} {e T:TypeId} {v:Value} {xs:List α}
def xR(P:Program)(p:Nat)(x:az)(v:Value)(l s:Nat)(o:Oper)(ρ:Operand→Value)(_:cx):MD:=match o.op with
 | .slice T a (some b) none none=>⟨[(p,x)],λ_=>[],[sE (ρ a) v,sE (ρ b) (.int .i64 (l:Int)),sE (P.underlying T,jo P (P.elem T)) (some (.slice (P.elem T)),some s)]⟩
 | _=>MD.bad
theorem Kk(p:Nat)(x:az)(l s:Nat)(h: ∀bs,x.sat bs→ap en z T v xs bs)(hl:l≤xs.length):MD.ok P (λ_=>im v l xs.length s) (xR P p x v l s) []:=by
 intro o ρ C he w c hH
 unfold xR at he hH⊢
 split at he
 ·rename_i T' a b hop
  simp only[hop] at hH⊢
  simp only[eF,dZ,or_false,forall_eq_or_imp,forall_eq,sE] at he
  obtain⟨ha,hb,hT⟩:=he
  obtain⟨h1,h2⟩:=hH.ent
  obtain⟨a0,r,rfl⟩:=(h _ h1).slice
  have hu:P.underlying T'=some (.slice (P.elem T')):=ALca (·.1) hT
  have hr:(Instr.sliceAt T' (.slice a0 xs.length (xs.length+r)) (some (.int .i64 (l:Int))) none none).run P w= .ok (sliced a0 l xs.length (xs.length+r) s) w:=by
   rw[run_sliceAt_slice (h:=hu),run_slice_l (ht:=hu) (kl:= .i64) (l:=(l:Int)) (h0:=by omega) (h1:=by omega),oi (ALca (·.2) hT)]
   simp only[ir,Int.toNat_natCast]
  refine⟨ab.zero,λ_=>[],w,.inl ?_,λx h=>by simp at h,by simpa using bc.refl w⟩
  unfold execOp
  simp only[hop,ha,Option.map_some,Option.map_none,hb,jh,hr,ir,jm,im]
 ·exact(bG he).elim
def Kl(p:Nat)(x:az)(l s:Nat)(h: ∀bs,x.sat bs→ap en z T v xs bs)(hl:l≤xs.length):MH P (λ_=>im v l xs.length s):=⟨[],xR P p x v l s,Kk p x l s h hl⟩
end
section
variable {P:Program}
theorem mI.two{a b:Nat×az}{c:gJ}{w:World}(h:mI [a,b] c w):mI [a] c w∧b.2.sat (c b.1):=by
 have hh:=h.has
 simp only[List.flatMap_cons,List.flatMap_nil,List.append_nil] at hh
 exact⟨⟨λx hx=>h.sat x (by rw[List.mem_singleton.1 hx];simp),by simpa using(⟨λx hx=>hh.obj x (List.mem_append_left _ hx),(List.pairwise_append.1 hh.nd).1⟩:Has (c a.1) w)⟩,h.sat b (by simp)⟩
def xS(P:Program)(p q:Nat)(x:az)(v:Value)(o:Oper)(ρ:Operand→Value)(C:cx):MD:=match o.op,C p with
 | .store T a b,some (.c [(g,.cells cs ty (0,0))])=>match lm (ρ a) with
  | some (g',off)=>⟨[(p,ob g cs ty),(q,x)],λ_=>[(p,ob g (cs.setIfInBounds off v) ty)],[sE g' g,sB (Nat.blt off cs.size),sE (ρ b) v,sE ((P.info? T).map (·.size)) (some 1)]⟩
  | none=>MD.bad
 | _,_=>MD.bad
theorem Km(p q:Nat)(x:az)(v:Value)(hv: ∀bs,x.sat bs→v.oneCell'=true):MD.ok P (λ_=>undef) (xS P p q x v) [p]:=by
 intro o ρ C he w c hH
 unfold xS at he hH⊢
 split at he
 ·rename_i T a b g cs ty hop hC
  simp only[hop,hC] at hH⊢
  split at he
  ·rename_i g' off ha
   simp only[ha] at hH⊢
   simp only[eF,dZ,or_false,forall_eq_or_imp,forall_eq,sE,sB] at he
   obtain⟨rfl,h2,h3,h4⟩:=he
   obtain⟨hH1,hs⟩:=hH.two
   obtain⟨hc,hb⟩:=hH1.one
   refine⟨ab.zero,λ_=>[(g',.cells (cs.setIfInBounds off v) ty (0,0))],_,.inr ⟨?_,by simp⟩,λz h=>?_,by simpa [hc,bN] using bc.setc v hb⟩
   ·unfold execOp
    simp only[hop,nk ha,h3,Instr.storeAt,Instr.sureAddr,jh,jm,ir,ub hb (Nat.blt_eq▸h2) (hv _ hs) h4]
   ·rw[List.mem_singleton.1 h]
    rfl
  ·exact(bG he).elim
 ·exact(bG he).elim
def fZ(p q:Nat)(x:az)(v:Value)(hv: ∀bs,x.sat bs→v.oneCell'=true):MH P (λ_=>undef):=⟨[p],xS P p q x v,Km p q x v hv⟩
theorem ap.one{α:Type}{en:α→List Value}{z:List Value}{T:TypeId}{v:Value}{xs:List α}{bs:aw}(h:ap en z T v xs bs):v.oneCell'=true:=by
 obtain⟨a,r,rfl⟩:=h.slice
 rfl
end
def TH.cast{P:Program}{a b:Value}(t:TH P a)(h:a=b):TH P b:=⟨t.d,h▸t.h⟩
def Kn(P:Program)(v0:Value):TD:=λo ρ=>[sE (λw=>(execOp ρ o).run P w) (λw=> .ok (.value v0) w)]
def tk{P:Program}{v0 v:Value}(h:v0=v):TH P v:=⟨Kn P v0,λo ρ he w=>by rw[←h];exact congrFun (he _ (List.mem_singleton.2 rfl)) w⟩
theorem o9: ∀(y:UInt8),∀u∈eB y,u.oneCell'=true:=λy u hu=>by rw[List.mem_singleton.1 hu];rfl
theorem pa:d9 Tryz.prog 191 5 [.int .u8 0]:=d9.mk' Kr Kr rfl
end Go.Proofs.YtbcodenfkijdnaaGreat.E
namespace Go.Proofs.YtbcodenfkijdnaaGreat.E
open Go Go.RowKit Go.Shelf
open Go.Sem renaming run_bind→dZ,run_pure→jh
open List renaming not_mem_nil→eF,mem_cons→ir,drop_take→jm,take_take→jw,drop_drop→ka
open Go.Result renaming andThen_ok→jg
open Nat renaming min_eq_left→kP,add_assoc→na
section
variable {α:Type} {P:Program} {en:α→List Value} {v:Value} {xs:List α} {bs:aw} {w:World}
theorem SrE.form(h:SrE en v xs bs): ∃a c,v= .slice a xs.length c:=by
 rcases h with⟨rfl,a,c,rfl⟩ | ⟨g,off,cs,t,fr,c,rfl,_⟩
 ·exact⟨a,c,rfl⟩
 ·exact⟨_,_,rfl⟩
theorem SrE.some(h:SrE en v xs bs){i:Nat}(hi:i<xs.length): ∃(g off:Nat) (cs:Array Value) (t:TypeId) (fr:Nat×Nat) (c:Nat),v= .slice (.some ⟨g,off,none⟩) xs.length c∧(g,Obj.cells cs t fr)∈bs∧(cs.toList.drop off).take (aj en xs).length=aj en xs:=by
 rcases h with⟨rfl,_⟩ | h
 ·simp at hi
 ·exact h
theorem Ch{l:List Value}{off k i:Nat}{d:α}(hl:(l.drop off).take (aj en xs).length=aj en xs)(h: ∀x,(en x).length=k)(hi:i<xs.length):(l.drop (off+i*k)).take k=en (xs.getD i d):=by
 have h0:=fY h (xs:=xs) rfl
 have h1:(i+1)*k≤xs.length*k:=Nat.mul_le_mul_right _ hi
 rw[Nat.succ_mul] at h1
 rw[←uv (d:=d) h hi]
 conv=>rhs;rw[←hl]
 rw[jm,jw,ka,kP Om]
theorem Ko{cs:Array Value}{off k i f:Nat}{d:α}{u:Value}(hl:(cs.toList.drop off).take (aj en xs).length=aj en xs)(h: ∀x,(en x).length=k)(hi:i<xs.length)(hf:f<k)(hu:(en (xs.getD i d))[f]? = .some u):cs[off+(i*k+f)]? = .some u:=by
 have h2:=ALca (λl=>l[f]?) (Ch (d:=d) hl h hi)
 simp only[List.getElem?_take_of_lt hf,List.getElem?_drop] at h2
 rw[←Array.getElem?_toList,←na,h2,hu]
theorem Ci{P:Program}{w:World}{g off:Nat}{ty T:TypeId}{cs:Array Value}{fr:Nat×Nat}{l:List Value}(hg:w.heap[g]? = .some (.cells cs ty fr))(hl:(cs.toList.drop off).take l.length=l)(h:dQ P T=true)(hi:(P.info? T).map (·.size)= .some l.length):(loadVar T ⟨g,off,none⟩).run P w= .ok (.agg l.toArray) w:=by
 have h1:(loadCells ⟨g,off,none⟩ l.length).run P w= .ok l.toArray w:=run_loadCells_list (P:=P) w ⟨g,off,none⟩ l (o5 hg hl)
 cases hq:P.info? T with
 | none=>simp [hq] at hi
 | some i=>
  have hs:i.size=l.length:=by simpa [hq] using hi
  have hagg:(isAgg T).run P w= .ok true w:=by
   unfold isAgg
   unfold dQ at h
   split at h
   ·rename_i e;rw[dZ,run_underlying e w];simp
   ·rename_i e;rw[dZ,run_underlying e w];simp
   ·cases h
  simp [loadVar,dZ,hagg,sizeOf,typeInfo,hq,hs,h1]
theorem Kp(p:Nat)(x:az)(h: ∀bs,x.sat bs→SrE en v xs bs):MD.ok P (λ_=> .int .i64 (xs.length:Int)) (qg P p x v) []:=by
 intro o ρ C he w c hH
 unfold qg at he hH⊢
 split at he
 ·rename_i a t hop
  simp only[hop] at hH⊢
  simp only[ir,eF,or_false,forall_eq_or_imp,forall_eq,sE,sB] at he
  obtain⟨h0,ht⟩:=he
  obtain⟨h1,h2⟩:=hH.ent
  obtain⟨b,k,rfl⟩:=(h _ h1).form
  obtain⟨T',e',rfl,hT⟩:=BY ht
  refine⟨ab.zero,λ_=>[],w,.inl ((congrFun h0 w).trans (mb ?_)),λx h=>by simp at h,by simpa using bc.refl w⟩
  simp [Builtin.len_,run_underlying hT,goInt,dZ]
 ·exact(bG he).elim
def Kq(p:Nat)(x:az)(h: ∀bs,x.sat bs→SrE en v xs bs):MH P (λ_=> .int .i64 (xs.length:Int)):=⟨[],qg P p x v,Kp p x h⟩
theorem Ks(p:Nat)(x:az)(i s:Nat)(h: ∀bs,x.sat bs→SrE en v xs bs)(hi:i<xs.length):MD.ok P (λ_=>fp v (i*s)) (qh P p x v i s) []:=by
 intro o ρ C he w c hH
 unfold qh at he hH⊢
 split at he
 ·rename_i T' a b hop
  simp only[hop] at hH⊢
  simp only[ir,eF,or_false,forall_eq_or_imp,forall_eq,sE] at he
  obtain⟨ha,hb,hT⟩:=he
  obtain⟨h1,h2⟩:=hH.ent
  obtain⟨g,off,cs,t,fr,c',rfl,_⟩:=(h _ h1).some hi
  refine⟨ab.zero,λ_=>[],w,.inl ?_,λx h=>by simp at h,by simpa using bc.refl w⟩
  unfold execOp
  have hr:=bR (P:=P) (w:=w) (g:=g) (off:=off) (n:=xs.length) (c:=c') (k:=i) (s:=s) hT hi
  simp only[hop,ha,hb,dZ,hr,jg,jh,fp,add_lit]
 ·exact(bG he).elim
def Kt(p:Nat)(x:az)(i s:Nat)(h: ∀bs,x.sat bs→SrE en v xs bs)(hi:i<xs.length):MH P (λ_=>fp v (i*s)):=⟨[],qh P p x v i s,Ks p x i s h hi⟩
theorem Ku(p:Nat)(x:az)(i k f:Nat){d:α}{u:Value}(h: ∀bs,x.sat bs→SrE en v xs bs)(hk: ∀y,(en y).length=k)(hi:i<xs.length)(hf:f<k)(hu:(en (xs.getD i d))[f]? = .some u):MD.ok P (λ_=>u) (qi P p x v (i*k+f)) []:=by
 intro o ρ C he w c hH
 unfold qi at he hH⊢
 split at he
 ·rename_i T' a hop
  simp only[hop] at hH⊢
  simp only[ir,eF,or_false,forall_eq_or_imp,forall_eq,sE] at he
  obtain⟨ha,hT⟩:=he
  obtain⟨h1,h2⟩:=hH.ent
  obtain⟨g,of,cs,t,fr,c',rfl,hb,hN⟩:=(h _ h1).some hi
  have hcc:w.cell? ⟨g,of+(i*k+f),none⟩= .some u:=(cell_of_row w g _ cs t fr (h2.obj _ hb)).trans (Ko hN hk hi hf hu)
  refine⟨ab.zero,λ_=>[],w,.inl ?_,λx h=>by simp at h,by simpa using bc.refl w⟩
  unfold execOp
  simp only[fp,add_lit] at ha
  simp only[hop,ha,Instr.loadAt,Instr.sureAddr,dZ,jh,jg,ru (congrFun hT w) hcc]
 ·exact(bG he).elim
def Kv(p:Nat)(x:az)(i k f:Nat){d:α}{u:Value}(h: ∀bs,x.sat bs→SrE en v xs bs)(hk: ∀y,(en y).length=k)(hi:i<xs.length)(hf:f<k)(hu:(en (xs.getD i d))[f]? = .some u):MH P (λ_=>u):=⟨[],qi P p x v (i*k+f),Ku p x i k f h hk hi hf hu⟩
theorem Kw(p:Nat)(x:az)(i k f:Nat){d:α}{l:List Value}(h: ∀bs,x.sat bs→SrE en v xs bs)(hk: ∀y,(en y).length=k)(hi:i<xs.length)(hf:f+l.length≤k)(hu:((en (xs.getD i d)).drop f).take l.length=l):MD.ok P (λ_=> .agg l.toArray) (nq P p x v (i*k+f) l.length) []:=by
 intro o ρ C he w c hH
 unfold nq at he hH⊢
 split at he
 ·rename_i T' a hop
  simp only[hop] at hH⊢
  simp only[ir,eF,or_false,forall_eq_or_imp,forall_eq,sE,sB] at he
  obtain⟨ha,hg,hs⟩:=he
  obtain⟨h1,h2⟩:=hH.ent
  obtain⟨g,of,cs,t,fr,c',rfl,hb,hN⟩:=(h _ h1).some hi
  refine⟨ab.zero,λ_=>[],w,.inl ?_,λx h=>by simp at h,by simpa using bc.refl w⟩
  unfold execOp
  simp only[fp,add_lit] at ha
  have hz:=Ch (d:=d) hN hk hi
  have hp:(cs.toList.drop (of+(i*k+f))).take l.length=l:=by
   have h5:(cs.toList.drop (of+(i*k+f))).take l.length=(((cs.toList.drop (of+i*k)).take k).drop f).take l.length:=by
    rw[jm,jw,ka,←na,kP Om]
   rw[h5,hz,hu]
  simp only[hop,ha,Instr.loadAt,Instr.sureAddr,dZ,jh,jg,Ci (h2.obj _ hb) hp hg hs]
 ·exact(bG he).elim
def Kx(p:Nat)(x:az)(i k f:Nat){d:α}{l:List Value}(h: ∀bs,x.sat bs→SrE en v xs bs)(hk: ∀y,(en y).length=k)(hi:i<xs.length)(hf:f+l.length≤k)(hu:((en (xs.getD i d)).drop f).take l.length=l):MH P (λ_=> .agg l.toArray):=⟨[],nq P p x v (i*k+f) l.length,Kw p x i k f h hk hi hf hu⟩
end
end Go.Proofs.YtbcodenfkijdnaaGreat.E
namespace Go.Proofs.YtbcodenfkijdnaaGreat.E
open Go Go.RowKit Go.Shelf
open List renaming flatten_append→dZ
theorem qk{L:ah}(ps:List Nat){Os:List aw}(he:ps.map (λp=>L[p]?)=Os.map λo=>some (.c o)):jn Os.flatten L:=by
 intro x hx
 obtain⟨o,ho,hxo⟩:=List.mem_flatten.1 hx
 have h1:some (az.c o)∈ps.map (λp=>L[p]?):=by rw[he];exact List.mem_map.2 ⟨o,ho,rfl⟩
 obtain⟨p,_,hp⟩:=List.mem_map.1 h1
 exact⟨o,List.mem_of_getElem? hp,hxo⟩
theorem uC: ∀Os:List aw,bu (Os.map .c) Os
 | []=>trivial
 | _::Os=>⟨rfl,uC Os⟩
theorem em{Q:aw→Prop}{bs:aw}{L L':ah}(hx:Q bs)(h: ∀cs,bu L' cs→bu L cs): ∀cs,bu (.c bs::L') cs→bu (.p Q::L) cs
 | [],hs=>hs.elim
 | d::cs,hs=>⟨by rw[show d=bs from hs.1];exact hx,h cs hs.2⟩
theorem ak{x:az}{L L':ah}(h: ∀cs,bu L' cs→bu L cs): ∀cs,bu (x::L') cs→bu (x::L) cs
 | [],hs=>hs.elim
 | _::cs,hs=>⟨hs.1,h cs hs.2⟩
theorem aa.v{P:Program}{f:FuncId}{args:Array Value}{rd:ah}{O:List Nat}{wt:ab→ah}{v v':ab→Value}(h:aa P f args rd O wt v)(e: ∀E,v E=v' E):aa P f args rd O wt v':=by
 rwa [show v'=v from funext λE=>(e E).symm]
section
variable {R:List Nat} {base W W':World} {Os:List aw}
theorem aD.ndC(h:aD R base (Os.map .c) W):Os.flatten.Pairwise λx y=>x.1≠y.1:=by
 obtain⟨cs,hs,hO⟩:=h.conc
 rw[r9 hs] at hO
 exact hO.nd
variable {J:Nat→(Nat→Prop)→World→Prop} {W0 wr:World} {LE:ah} {j:Nat}
structure fA (J:Nat→(Nat→Prop)→World→Prop) (Os:List aw) (W0:World) (j:Nat) (R:List Nat) (base:World):Prop where
 ex: ∃L,fX J Os.flatten W0 L j base∧R=(Os.flatten++L).map (·.1)
def jq(J:Nat→(Nat→Prop)→World→Prop)(Os:List aw)(W0:World)(LE:ah)(j:Nat)(wr:World):Prop:=∃ds,bu LE ds∧fX J Os.flatten W0 ds.flatten j wr
theorem fA.step(h:Hid (fA J Os W0 j R base))(hJ:gU J)(hO:aD R base (Os.map .c++LE) W'):jq J Os W0 LE j W':=by
 obtain⟨L,h1,rfl⟩:=h.out.ex
 exact h1.stepE hJ (λds hd=>by rw[r9 hd]) hO
theorem jq.start(h:jq J Os W0 LE j wr): ∃R,Hid (fA J Os W0 j R wr)∧Hid (aD R wr (Os.map .c++LE) wr):=by
 obtain⟨ds,hs,hI⟩:=h
 refine⟨_,Lib.hid ⟨_,hI,rfl⟩,Lib.hid ?_⟩
 have h1:=aD.start (w:=wr) (kG (uC Os) hs) (by rw[dZ];exact hI.has)
 rw[dZ] at h1
 exact h1
theorem jq.zero(h:fX J Os.flatten W0 [] 0 W0):jq J Os W0 [] 0 W0:=⟨[],trivial,h⟩
theorem jq.leaf(h:jq J Os W0 LE j wr): ∃L,fX J Os.flatten W0 L j wr:=by
 obtain⟨ds,_,hI⟩:=h
 exact⟨_,hI⟩
end
end Go.Proofs.YtbcodenfkijdnaaGreat.E
namespace Go.Proofs.YtbcodenfkijdnaaGreat.E
open Go Go.RowKit Go.Shelf
def aK{α:Type}(en:α→List Value)(v:Value)(xs:List α):aw→Prop:=λbs=>SrE en v xs bs∧∃a r,v= .slice a xs.length (xs.length+r)
section
variable {α:Type} {P:Program} {en:α→List Value} {z:List Value} {T:TypeId} {v:Value} {xs:List α} {bs:aw}
theorem ap.sq(h:ap en z T v xs bs):aK en v xs bs:=⟨h.src,h.slice⟩
theorem aK.drop{k:Nat}(hk: ∀y,(en y).length=k)(h:aK en v xs bs){l:Nat}(hl:l≤xs.length):aK en (im v l xs.length k) (xs.drop l) bs:=by
 obtain⟨h1,a,r,rfl⟩:=h
 have hlen:(xs.drop l).length=xs.length-l:=List.length_drop
 refine⟨?_,?_⟩
 ·by_cases e:l=xs.length
  ·subst e
   refine .inl ⟨List.drop_length,?_⟩
   simp only[im,sliced,Nat.sub_self]
   exact⟨_,_,rfl⟩
  ·obtain⟨g,off,cs,t,fr,c,h2,h3,h4⟩:=h1.some (i:=l) Om
   injection h2 with e1 e2 e3
   subst e1
   refine .inr ⟨g,off+l*k,cs,t,fr,xs.length+r-l,?_,h3,?_⟩
   ·simp only[im,sliced]
    rw[ALifn Om,hlen]
    simp only[Option.map_some]
    rw[show(⟨g,off,none⟩:Addr).add (l*k)=⟨g,off+l*k,none⟩ from by unfold Addr.add;split<;>simp_all]
   ·have h5:aj en xs=aj en (xs.take l)++aj en (xs.drop l):=by rw[←kH,List.take_append_drop]
    have h6:(aj en (xs.take l)).length=l*k:=by rw[fY hk rfl,List.length_take];congr 1;omega
    rw[←List.drop_drop]
    have h7:(((cs.toList.drop off).take (aj en xs).length).drop (l*k))=(aj en xs).drop (l*k):=ALca (λy=>y.drop (l*k)) h4
    rw[List.drop_take] at h7
    have h8:(aj en xs).drop (l*k)=aj en (xs.drop l):=by
     conv=>lhs;rw[h5]
     rw[←h6,List.drop_left]
    rw[h8] at h7
    rw[show(aj en (xs.drop l)).length=(aj en xs).length-l*k by rw[h5,List.length_append,h6];omega]
    exact h7
 ·simp only[im,sliced]
  exact⟨_,r,by rw[hlen];congr 1;omega⟩
end
theorem bO{Q Q':aw→Prop}{L L':ah}(hx: ∀bs,Q bs→Q' bs)(h: ∀cs,bu L' cs→bu L cs): ∀cs,bu (.p Q::L') cs→bu (.p Q'::L) cs
 | [],hs=>hs.elim
 | d::cs,hs=>⟨hx d hs.1,h cs hs.2⟩
end Go.Proofs.YtbcodenfkijdnaaGreat.E
