/- WholeLog, in 6 texts: part 3. For every input; no condition. -/
import Derived.Test.YtbcodenfkijdnaaGreatPg2
import Derived.WideShapes
import Derived.OpenShut
import Derived.WideOpen
import Derived.Deep.Slices
import Derived.IntWalk
import Derived.WalkKit
import Derived.Deep.RegionLaw
import Derived.Deep.LoopGhost
import Derived.Lib.SliceRun
import Derived.Lib.Walk
import Derived.Shelf.RegionOpenPlain
import Derived.Laws.AppendOwn
set_option linter.unusedVariables false
set_option linter.unusedSimpArgs false
set_option maxRecDepth 100000
namespace Go.Proofs.YtbcodenfkijdnaaGreat
open Go Go.RowKit
open Go.Proofs.Tryz renaming prog→UZ
open List renaming getD_eq_getElem?_getD→U0,range→U1,replicate→U2,getElem?_eq_getElem→U3,length_append→U4,length_take→U5,length_map→U6,length_drop→Vb,length_range→Vc,getElem?_append_left→Ve,getElem?_append_right→Vh,getElem?_eq_none→Vi,length_set→Vl,flatten_cons→Vm,append_assoc→Vn,length_replicate→Vp,getElem?_set→Vr,flatten_append→Vs,getElem?_take_of_lt→Vt,range_succ→Vu,getElem?_drop→Vv,getElem?_cons_succ→Vw,getElem?_map→Vy,length_tail→VA,append_nil→VC,drop_eq_getElem_cons→VE,ext_getElem?→VF,getElem?_cons_zero→VG,length_cons→VH,map_append→VJ,drop_drop→VL,getElem?_range→VM,replicate_succ→VN,take_add_one→VQ,foldl_append→VR,not_mem_nil→VU,take_left'→VW,drop_left'→VX,range'→VY,flatMap_singleton→V0,mem_append_left→V2,drop_replicate→V4,flatMap_append→V5,getElem_of_mem→V6,mem_cons_self→V8,size_toArray→Wb,range'_succ→Wc,flatten_nil→Wd,foldl_cons→We,mem_cons→Wi
open Bool renaming and_eq_true→U7,or_eq_false_iff→U9,and_true→Wj,or_false→Wk
open Nat renaming mod_lt→U8,mul_le_mul_right→Va,mul_comm→Vf,mul_assoc→Vg,le_trans→Vj,le_refl→Vk,add_mul→Vq,lt_of_le_of_lt→Vx,zero_le→Vz,div_lt_of_lt_mul→VB,not_lt_zero→VD,le_mul_of_pos_right→VI,lt_or_ge→VK,mul_le_mul→VO,xor_lt_two_pow→VP,zero_add→VT,and_le_right→VV,le_mul_of_pos_left→V1,succ_pos→V3,one_mul→V7,le_add_right→Wf,succ_lt_succ→Wg,div_le_self→Wh,mul_succ→Wm,zero_mul→Wn,succ_mul→Wo
open Int renaming toNat_of_nonneg→Vo,natCast_mul→VZ
open Option renaming map_some→VS
open Go.World renaming cells?_some→V9,cell?→Wl
namespace E
section
open Go.Shelf
def kI:Kd UZ Int:=⟨eI,[i6 0],74,3,0,1,λ_=>rfl,rfl,λ_=>rfl,dS.mk' Kr Kr rfl⟩
def jK(l:List Int):Int:=l.foldl max 0
def jF(l:List Int):Int:=l.foldl (λa k=>a+fb (k==1)) 0
theorem BT{l:List Int}{k:Nat}(h:k<l.length):l.take (k+1)=l.take k++[l.getD k 0]:=by
 rw[VQ,U3 h,U0,U3 h];rfl
theorem Lj(l:List Int)(x:Int):jK (l++[x])=max (jK l) x:=by unfold jK;rw[VR];rfl
theorem Ll(l:List Int)(x:Int):jF (l++[x])=jF l+fb (x==1):=by unfold jF;rw[VR];rfl
theorem BU(b:Bool):0≤fb b∧fb b≤1:=by cases b<;>decide
theorem BV(l:List Int):0≤jF l∧jF l≤l.length:=by
 suffices h: ∀(l:List Int) (a:Int),a≤l.foldl (λa k=>a+fb (k==1)) a∧l.foldl (λa k=>a+fb (k==1)) a≤a+l.length by
  have:=h l 0;unfold jF;omega
 intro l
 induction l with
 | nil=>intro a;simp
 | cons x l ih=>
  intro a;have b:=ih (a+fb (x==1));have c:=BU (x==1);rw[We,VH];push_cast;omega
theorem Lm{l:List Int}{k:Nat}(h:k<l.length):jK (l.take (k+1))=max (jK (l.take k)) (l.getD k 0):=by rw[BT h,Lj]
theorem Ln{l:List Int}{k:Nat}(h:k<l.length):jF (l.take (k+1))=jF (l.take k)+fb (l.getD k 0==1):=by rw[BT h,Ll]
attribute [local irreducible] jK jF fb
def iE(a:List Int):Int:=(bif (jK a) != 1 then 0 else(jF a))
theorem BW(v:Value)(a:List Int)(u:a.length≤1000):aa UZ 152 #[v] [.p (aJ eI v a)] [] N0 (λ_=> .agg #[i6 (jK a),i6 (iE a)]):=by
 refine fO Tryz.func152 0 rfl λg e=>fG Tryz.func152 λw r=>ra (λf=>[(2,pt (B0 f) 0)]) (λf=>[ob (B0 f) #[i6 0,i6 0] 79]) λf=>ra (λb=>[(3,pt (B0 b) 0)]) (λb=>[ob (B0 b) #[i6 0,i6 0] 79]) λb=>r0 [(1,ey e.1 0)] [(6,v),(7,iN a.length),(8,i6 0)] [] ?_;refine lq (λk=>k≤a.length) (λk=>[(8,iN k)]) (λk L=>L.set 2 (ob (B0 b) #[i6 (jK (a.take k)),i6 (jF (a.take k))] 79)) (λk=>a.length-k) 0 Om Kr (by rw[List.take_zero,show jK []=0 by unfold jK;rfl,show jF []=0 by unfold jF;rfl];kernel_rfl) (λk q=>?_);have m:=BV (a.take k);have n:(a.take k).length≤k:=by rw[U5];omega
 have o:=BU (a.getD k 0==1);refine r0 [] [(9,.bool (decide ((k:Int)<(a.length:Int))))] [] ?_;refine b4 (k:Int) (a.length:Int) (λj i=>?_) λj i=>?_
 ·exact r0 [(0,e7 e.1 0 k 1),(1,iz kI e.1 0 k 0)] [(5,i6 (a.getD k 0))] [] (rs [(1,.l 2),(3,.t (tv (Builtin.max_ #[3,3] 3 #[i6 (jK (a.take k)),i6 (a.getD k 0)]) (λ_=>qj _ _ _ _))),(5,.s 2)] 2 (ob (B0 b) #[i6 (max (jK (a.take k)) (a.getD k 0)),i6 (jF (a.take k))] 79) (rs [(1,.l 2),(4,.c [] [] (BN ((a.getD k 0)==1))),(5,aI (jF (a.take k)) ((fb ((a.getD k 0)==1))) Om),(7,.s 2)] 2 (ob (B0 b) #[i6 (max (jK (a.take k)) (a.getD k 0)),i6 ((jF (a.take k))+(fb ((a.getD k 0)==1)))] 79) (r0 [(0,ad k 1)] [(8,iN (k+1))] [8] (le (k+1) Om Om Kr [0,1,2] (by rw[Lm Om,Ln Om];kernel_rfl)))))
 obtain rfl:k=a.length:=by omega
 refine cl [.c g,ob (B0 f) #[i6 0,i6 0] 79,ob (B0 b) #[i6 (jK a),i6 (jF a)] 79] (by rw[List.take_length];kernel_rfl) (lx (r0 [(1,.l 2)] [(27,.bool ((jK a) != 1))] [] ?_));refine cJ ((jK a) != 1) N0 (λc=>[.c g,ob (B0 f) #[i6 0,i6 0] 79,ob (B0 b) #[i6 (jK a),i6 (bif c then 0 else(jF a))] 79]) (λd=>?_) (λd=>?_) ?_
 ·have h:=bne_iff_ne.1 d;refine rs [(1,.s 2)] 2 (ob (B0 b) #[i6 (jK a),i6 0] 79) ?_;exact cm Kr [0,1,2] Kr
 ·have h:=z3 d;exact cm Kr [0,1,2] Kr
 exact rs [(0,.l 2),(1,.s 1)] 1 (ob (B0 f) #[i6 (jK a),i6 (bif (jK a) != 1 then 0 else(jF a))] 79) (lf ab.zero [] [(0,0)] [1])
def ib(h:List UInt8)(k:Nat):List UInt8:=h.take (32*k)++U2 (64-32*k) 0
theorem Lp{h:List UInt8}(a:h.length=64){k:Nat}(b:k≤2):(ib h k).length=64:=by unfold ib;rw[U4,U5,Vp,a];omega
theorem Lq(h:List UInt8):ib h 0=U2 64 0:=rfl
theorem Lr{h:List UInt8}(a:h.length=64):ib h 2=h:=by unfold ib;rw[List.take_of_length_le Om,show 64-32*2=0 from rfl,List.replicate_zero,VC]
theorem Ls{h:List UInt8}(b:h.length=64){k:Nat}(c:k<2):(ib h k).take (32*k)++(h.drop (k*32)).take 32++(ib h k).drop (32*k+32)=ib h (k+1):=by
 unfold ib;have a:(h.take (32*k)).length=32*k:=by rw[U5];omega
 rw[VW a,←VL,VX a,V4,Vf k 32,←List.take_add,show 32*k+32=32*(k+1) by omega,show 64-32*k-32=64-32*(k+1) by omega]
attribute [local irreducible] ib
theorem Lt(h:List UInt8)(a:h.length=64):aa UZ 198 #[.agg (rB 64 h).toArray] [] [] N0 (λ_=> .agg (rB 64 h).toArray):=by
 refine fG Tryz.func198 λw p=>ra (λb=>[(1,pt (B0 b) 0),(2,pt (B1 b) 0)]) (λb=>[ob (B0 b) (rB 64 h).toArray 324,ob (B1 b) (rB 64 z6).toArray 43]) λb=>ra (λc=>[(3,pt (B0 c) 0)]) (λc=>[ob (B0 c) (rB 64 z6).toArray 43]) λc=>r0 [(0,.l 0)] [(6,.agg (rB 64 h).toArray),(7,i6 0)] [] ?_;refine lq (λk=>k≤2) (λk=>[(7,iN k)]) (λk L=>L.set 2 (ob (B0 c) (rB 64 (ib h k)).toArray 43)) (λk=>2-k) 0 Om Kr (by rw[Lq];kernel_rfl) (λk j=>?_);have g:=Lp a j;refine r0 [] [(8,.bool (decide ((k:Int)<2)))] [] ?_;refine b4 (k:Int) 2 (λo i=>?_) λo i=>?_
 ·exact rr (λ_=>[(1,.t (tv (Instr.index 324 (.agg (rB 64 h).toArray) (iN k)) (λ_=>GX (n:=2) (m:=32) (N:=64) (e:=267) Kr (λ_=>rfl) Om rfl a))),(4,.s 3)]) (λf=>[(5,pt (B2 f) 0),(4,iN k)]) [] (λf L=>L++[ob (B2 f) (rB 32 ((h.drop (k*32)).take 32)).toArray 267]) λf=>rs [(1,ml 32 k),(2,aL 43 (B0 c) 64 1 (32*k)),(3,aS 267 (B2 f) 32 1),(4,.m (ts kB 2 (B0 c) ((32*k)*1) (64-(32*k)) (64-(32*k)) (rB 64 (ib h k)).toArray (rB 64 ((ib h k).take (32*k)++((h.drop (k*32)).take 32)++(ib h k).drop ((32*k)+32))).toArray 43 191 191 3 (ob (B2 f) (rB 32 ((h.drop (k*32)).take 32)).toArray 267) (.slice (some ⟨(f 2).y 0,0,none⟩) 32 32) ((h.drop (k*32)).take 32) (λ_ h=>by rw[show _=_ from h];exact oc (λ_=>rfl) (by rw[U5,Vb,a];omega)) (by rw[(show((h.drop (k*32)).take 32).length=32 from(by rw[U5,Vb,a];omega))];omega) (by rw[Wb,jP];rw[(show((h.drop (k*32)).take 32).length=32 from(by rw[U5,Vb,a];omega))];omega) (by rw[Nat.mul_one];exact ALca List.toArray (qi (d:=0) (λ_=>rfl) (show(ib h k).length=64 by(simp only[LL,g,a];done)) (show((h.drop (k*32)).take 32).length=32 from(by rw[U5,Vb,a];omega)) Om))))] 2 (ob (B0 c) (rB 64 ((ib h k).take (32*k)++((h.drop (k*32)).take 32)++(ib h k).drop ((32*k)+32))).toArray 43) (r0 [(0,ad k 1)] [(7,iN (k+1))] [7] (le (k+1) Om Om Kr [0,1,2] (by rw[←Ls a Om];kernel_rfl)))
 obtain rfl:k=2:=by omega
 exact cl [ob (B0 b) (rB 64 h).toArray 324,ob (B1 b) (rB 64 z6).toArray 43,ob (B0 c) (rB 64 h).toArray 43] (by rw[Lr a];kernel_rfl) (lx (rs [(0,.l 2),(1,.s 1)] 1 (ob (B1 b) (rB 64 h).toArray 43) (lf ab.zero [] [] [1])))
theorem BX(ys:List UInt8): ∀k,k≤8→aZ (ys.take 8) 0 k=aZ ys 0 k
 | 0,_=>rfl
 | k+1,h=>by
  rw[w8,w8,BX ys k Om];rw[show(ys.take 8).getD k 0=ys.getD k 0 by rw[U0,U0,Vt Om]]
theorem Lu(v:Value)(ys:List UInt8)(a:8≤ys.length):aa UZ 228 #[gx v 0 8 1] [.p (aJ eB v ys)] [] N0 (λ_=> .int .u64 ((aZ ys 0 8:Nat):Int)):=by
 rw[←BX ys 8 (Vk _)];exact aa.at (K5 (gx v 0 8 1) (ys.take 8) (by rw[U5];omega)) (bN (λ_ h=>aJ.take (en:=eB) (k:=1) (λ_=>rfl) h a) λ_ h=>h)
attribute [local irreducible] dj db bO fV aZ gB aY
def xd:List Int:=[-1,64,65, -1,66, -1, -1,0,67, -1, -1,1, -1,2,3, -1,68, -1, -1,4, -1,5,6, -1, -1,7,8, -1,9, -1, -1,56,69, -1, -1,10, -1,11,12, -1, -1,13,14, -1,15, -1, -1,57, -1,16,17, -1,18, -1, -1,58,19, -1, -1,59, -1,60,61, -1,70, -1, -1,20, -1,21,22, -1, -1,23,24, -1,25, -1, -1,62, -1,26,27, -1,28, -1, -1,63,29, -1, -1,72, -1,73, -1, -1, -1,30,31, -1,32, -1, -1, -1,33, -1, -1, -1, -1, -1, -1, -1,34, -1, -1, -1, -1, -1, -1, -1, -1, -1, -1, -1, -1, -1, -1, -1,71, -1, -1,35, -1,36,37, -1, -1,38,39, -1,40, -1, -1, -1, -1,41,42, -1,43, -1, -1, -1,44, -1, -1, -1, -1, -1, -1, -1, -1,45,46, -1,47, -1, -1, -1,48, -1, -1, -1, -1, -1, -1, -1,49, -1, -1, -1, -1, -1, -1, -1, -1, -1, -1, -1, -1, -1, -1, -1, -1,50,51, -1,52, -1, -1, -1,53, -1, -1, -1, -1, -1, -1, -1,54, -1, -1, -1, -1, -1, -1, -1, -1, -1, -1, -1, -1, -1, -1, -1,55, -1, -1, -1, -1, -1, -1, -1, -1, -1, -1, -1, -1, -1, -1, -1, -1, -1, -1, -1, -1, -1, -1, -1, -1, -1, -1, -1, -1, -1, -1, -1]
theorem Lv:bQ 10=xd:=by decide+kernel
theorem hp: ∀k:UInt8,(dj k (bQ 10)==1)=true→0≤db k (bQ 10):=by
 have h: ∀n:Nat,n<256→(dj (UInt8.ofNat n) xd==1)=true→0≤db (UInt8.ofNat n) xd:=by decide+kernel
 intro k;have:=h k.toNat k.toNat_lt;rw[Lv];rwa [UInt8.ofNat_toNat] at this
theorem lQ(x:Int)(b:Bool):(dp x b).length=3:=by cases b<;>rfl
theorem Lw{b:Bool}{X Y:List UInt8}(a:X.length=36)(c:Y.length=36):(bif b then X.drop 4 else Y.drop 4).length=32:=by cases b<;>simp [a,c]
theorem xe{d v:List UInt8}(a:d.length=36):(gB d v).length=32:=by unfold gB;exact Lw (by rw[Vl];exact a) a
attribute [local irreducible] bC bQ cQ aQ aU dp fa cE eE
def jT(ys:List UInt8)(x:Int):Int:=(bif (dj ((bO (aZ ys 0 8) ((pc ((x%8388608).toNat)%2:Nat):Int) 0 (bC 10))^^^(ys.getD 8 0)) (bQ 10))==0 then 0 else(bif (dj ((bO (aZ ys 0 8) ((pc ((x%8388608).toNat)%2:Nat):Int) 0 (bC 10))^^^(ys.getD 8 0)) (bQ 10))==1 then 1 else(bif (dj ((bO (aZ ys 0 8) ((pc ((x%8388608).toNat)%2:Nat):Int) 0 (bC 10))^^^(ys.getD 8 0)) (bQ 10))==2 then 2 else 3)))
theorem Lx(l i o:Nat)(v:Value)(ys:List UInt8)(n:ys.length=9)(x:Int):aa UZ 195 #[pt l 0,v,i6 x] [ob l #[pt i 0,pt o 0] 242,ob i (rB 74 (bC 10)++rI 256 (bQ 10)).toArray 298,.p (aJ eB v ys)] [] N0 (λ_=> .tuple #[u6 (((fV (aZ ys 0 8) (ys.getD 8 0) ((pc ((x%8388608).toNat)%2:Nat):Int) (bC 10) (bQ 10)):Nat):Int),i6 (jT ys x)]):=by
 refine fO Tryz.func195 2 rfl λd a=>fG Tryz.func195 λw r=>r0 [] [(6,u6 0),(7,i6 0)] [] (rr (λq=>[(3,.m (ld 0 (pt i 0))),(5,.m (AN 2 (.c d) 8 1 (cP a) Om)),(6,.c [2] [] (aa.at (rd':=[.c d]) (Lu v ys Om) (ec a (λ_ h=>h)))),(8,e7 a.1 2 8 1),(9,iz kB a.1 2 8 0),(11,.c [] [] (tK x)),(12,.c [1] [] (KM i (aZ ys 0 8) (ys.getD 8 0) ((pc ((x%8388608).toNat)%2:Nat):Int) (bC 10) (bQ 10) (qK ys 0 (Vk 8)) (by(simp only[LL,jg,jh,n];done)) (by(simp only[LL,jg,jh,n];done)) hp)),]) (λ_=>[(8,u6 (((fV (aZ ys 0 8) (ys.getD 8 0) ((pc ((x%8388608).toNat)%2:Nat):Int) (bC 10) (bQ 10)):Nat):Int)),(9,i6 (dj ((bO (aZ ys 0 8) ((pc ((x%8388608).toNat)%2:Nat):Int) 0 (bC 10))^^^(ys.getD 8 0)) (bQ 10)))]) [] (λ_ L=>L) λq=>r0 [] [(28,i6 (dj ((bO (aZ ys 0 8) ((pc ((x%8388608).toNat)%2:Nat):Int) 0 (bC 10))^^^(ys.getD 8 0)) (bQ 10)))] [] (r0 [] [(29,.bool ((dj ((bO (aZ ys 0 8) ((pc ((x%8388608).toNat)%2:Nat):Int) 0 (bC 10))^^^(ys.getD 8 0)) (bQ 10))==0))] [] ?_));refine cD (dj ((bO (aZ ys 0 8) ((pc ((x%8388608).toNat)%2:Nat):Int) 0 (bC 10))^^^(ys.getD 8 0)) (bQ 10)) 0 (λf j=>?_) λf j=>?_
 ·exact r0 [] [(6,u6 (((fV (aZ ys 0 8) (ys.getD 8 0) ((pc ((x%8388608).toNat)%2:Nat):Int) (bC 10) (bQ 10)):Nat):Int)),(7,i6 0)] [6,7] (ak (.tuple #[u6 (((fV (aZ ys 0 8) (ys.getD 8 0) ((pc ((x%8388608).toNat)%2:Nat):Int) (bC 10) (bQ 10)):Nat):Int),i6 0]) ab.zero (by((try simp only[jT]);(repeat (first | rw[f] | rw[ALct])))<;>rfl) [] [(0,0),(1,1),(2,2)] [])
 refine r0 [] [(32,.bool ((dj ((bO (aZ ys 0 8) ((pc ((x%8388608).toNat)%2:Nat):Int) 0 (bC 10))^^^(ys.getD 8 0)) (bQ 10))==1))] [] ?_;refine cD (dj ((bO (aZ ys 0 8) ((pc ((x%8388608).toNat)%2:Nat):Int) 0 (bC 10))^^^(ys.getD 8 0)) (bQ 10)) 1 (λg k=>?_) λg k=>?_
 ·exact r0 [] [(6,u6 (((fV (aZ ys 0 8) (ys.getD 8 0) ((pc ((x%8388608).toNat)%2:Nat):Int) (bC 10) (bQ 10)):Nat):Int)),(7,i6 1)] [6,7] (ak (.tuple #[u6 (((fV (aZ ys 0 8) (ys.getD 8 0) ((pc ((x%8388608).toNat)%2:Nat):Int) (bC 10) (bQ 10)):Nat):Int),i6 1]) ab.zero (by((try simp only[jT]);(repeat (first | rw[f] | rw[g] | rw[ALct] | rw[ALcf])))<;>rfl) [] [(0,0),(1,1),(2,2)] [])
 refine r0 [] [(35,.bool ((dj ((bO (aZ ys 0 8) ((pc ((x%8388608).toNat)%2:Nat):Int) 0 (bC 10))^^^(ys.getD 8 0)) (bQ 10))==2))] [] ?_;refine cD (dj ((bO (aZ ys 0 8) ((pc ((x%8388608).toNat)%2:Nat):Int) 0 (bC 10))^^^(ys.getD 8 0)) (bQ 10)) 2 (λb e=>?_) λb e=>?_
 ·exact r0 [] [(6,u6 (((fV (aZ ys 0 8) (ys.getD 8 0) ((pc ((x%8388608).toNat)%2:Nat):Int) (bC 10) (bQ 10)):Nat):Int)),(7,i6 2)] [6,7] (ak (.tuple #[u6 (((fV (aZ ys 0 8) (ys.getD 8 0) ((pc ((x%8388608).toNat)%2:Nat):Int) (bC 10) (bQ 10)):Nat):Int),i6 2]) ab.zero (by((try simp only[jT]);(repeat (first | rw[f] | rw[g] | rw[b] | rw[ALct] | rw[ALcf])))<;>rfl) [] [(0,0),(1,1),(2,2)] [])
 exact r0 [] [(6,u6 (((fV (aZ ys 0 8) (ys.getD 8 0) ((pc ((x%8388608).toNat)%2:Nat):Int) (bC 10) (bQ 10)):Nat):Int)),(7,i6 3)] [6,7] (ak (.tuple #[u6 (((fV (aZ ys 0 8) (ys.getD 8 0) ((pc ((x%8388608).toNat)%2:Nat):Int) (bC 10) (bQ 10)):Nat):Int),i6 3]) ab.zero (by((try simp only[jT]);(repeat (first | rw[f] | rw[g] | rw[b] | rw[ALcf])))<;>rfl) [] [(0,0),(1,1),(2,2)] [])
end
section
open Go.Shelf
theorem Ly(a g:Nat)(u:Value)(d v:List UInt8)(c:d.length=36)(hv:v.length=3)(D:List UInt8)(b:gB d v=D)(k:Nat)(e:fa (aY d v)=k)(p:Int)(hp:cE (aY d v)=p)(q:UInt8)(f:eE (aY d v)=q):aa UZ 229 #[pt a 0,.agg (rB 36 d).toArray,.agg (rB 3 v).toArray] [ob a #[pt g 0,u] 309,ob g (rB 255 aQ++rN 256 aU).toArray 312,.p (aJ eB u cQ)] [] N0 (λ_=> .tuple #[.agg (rB 32 D).toArray,.agg #[iN k,i6 p,u1 (q.toNat:Int)]]):=by
 subst b e hp f;exact KH a g u d v c hv
def oo(a:Nat)(b:Int)(vl:UInt8):Int:=(bif (a:Int)==0 then 0 else(bif (a:Int)==1 then 1 else(bif (((a:Int)==2)&&(b==38))&&((vl.toNat:Int)==128) then 2 else 3)))
theorem Lz(G I j g:Nat)(u v:Value)(ys:List UInt8)(F:ys.length=36)(x:Int)(h0: -9223372036854775808≤x)(h1:x≤9223372036854775807)(D:List UInt8)(H:gB ys (dp x false)=D)(y:D.length=32)(a:Nat)(z:fa (aY ys (dp x false))=a)(e:Int)(A:cE (aY ys (dp x false))=e)(vl:UInt8)(C:eE (aY ys (dp x false))=vl):aa UZ 197 #[pt G 0,v,i6 x] [ob G #[pt I 0,pt j 0] 242,ob j #[pt g 0,u] 309,ob g (rB 255 aQ++rN 256 aU).toArray 312,.p (aJ eB u cQ),.p (aJ eB v ys)] [] N0 (λ_=> .tuple #[.agg (rB 32 D).toArray,i6 (oo a e vl)]):=by
 refine fO Tryz.func197 3 rfl λq B=>fO Tryz.func197 4 rfl λi n=>fG Tryz.func197 λw M=>ra (λb=>[(6,pt (B0 b) 0),(7,i6 0)]) (λb=>[ob (B0 b) (rB 32 (U2 32 0)).toArray 267]) λb=>rr (λ_=>[(3,.m (ld 0 (pt j 0))),(5,.m (AQ 4 (.c i) 36 (cP n.1) Dc Om)),(6,.m (AR 4 (.c i) 36 (rB 36 ys) (cP n.1) (kd F).symm Om (AS (λ_=>rfl) F))),(8,.c [] [] (BO x Om Om false)),(9,.c [1,2,3] [] (aa.at (rd':=[ob j #[pt g 0,u] 309,ob g (rB 255 aQ++rN 256 aU).toArray 312,.c q]) (Ly j g u ys (dp x false) (by(simp only[LL,lQ,F,y];done)) a7 D H a z e A vl C) (aN (aN (ec B (λ_ h=>h)))))),(13,.m (al 6)),(14,.m (al 7)),(15,.s 6),(16,.s 7)]) (λf=>[(8,pt ((f 13).y 0) 0),(9,pt ((f 14).y 0) 0)]) [] (λf L=>L++[ob ((f 13).y 0) (rB 32 D).toArray 267,ob ((f 14).y 0) #[iN a,i6 e,u1 (vl.toNat:Int)] 368]) λf=>r0 [(1,.l 7)] [(23,.bool ((a:Int)==0))] [] ?_;refine cD (a:Int) 0 (λk r=>?_) λk r=>?_
 ·exact rr (λ_=>[(0,.l 6),(1,.s 5)]) (λ_=>[(7,i6 0)]) [7] (λ_ L=>L.set 5 (ob (B0 b) (rB 32 D).toArray 267)) λN=>ak (.tuple #[.agg (rB 32 D).toArray,i6 0]) ab.zero (by((try simp only[oo]);(repeat (first | rw[k] | rw[ALct])))<;>rfl) [] [(0,0),(1,1),(2,2),(3,3),(4,4)] [5]
 refine r0 [(1,.l 7)] [(28,.bool ((a:Int)==1))] [] ?_;refine cD (a:Int) 1 (λo t=>?_) λo t=>?_
 ·exact rr (λ_=>[(0,.l 6),(1,.s 5)]) (λ_=>[(7,i6 1)]) [7] (λ_ L=>L.set 5 (ob (B0 b) (rB 32 D).toArray 267)) λO=>ak (.tuple #[.agg (rB 32 D).toArray,i6 1]) ab.zero (by((try simp only[oo]);(repeat (first | rw[k] | rw[o] | rw[ALct] | rw[ALcf])))<;>rfl) [] [(0,0),(1,1),(2,2),(3,3),(4,4)] [5]
 refine r0 [(1,.m (ld 7 (iN a))),(5,.m (ld 7 (i6 e))),(10,.m (ld 7 (u1 (vl.toNat:Int)))),] [(33,.bool ((((a:Int)==2)&&(e==38))&&((vl.toNat:Int)==128)))] [] ?_;refine cB ((((a:Int)==2)&&(e==38))&&((vl.toNat:Int)==128)) (λd=>?_) λd=>?_
 ·exact rr (λ_=>[(0,.l 6),(1,.s 5)]) (λ_=>[(7,i6 2)]) [7] (λ_ L=>L.set 5 (ob (B0 b) (rB 32 D).toArray 267)) λJ=>ak (.tuple #[.agg (rB 32 D).toArray,i6 2]) ab.zero (by((try simp only[oo]);(repeat (first | rw[k] | rw[o] | rw[d] | rw[ALct] | rw[ALcf])))<;>rfl) [] [(0,0),(1,1),(2,2),(3,3),(4,4)] [5]
 exact rr (λ_=>[(0,.l 6),(1,.s 5)]) (λ_=>[(7,i6 3)]) [7] (λ_ L=>L.set 5 (ob (B0 b) (rB 32 D).toArray 267)) λK=>ak (.tuple #[.agg (rB 32 D).toArray,i6 3]) ab.zero (by((try simp only[oo]);(repeat (first | rw[k] | rw[o] | rw[d] | rw[ALcf])))<;>rfl) [] [(0,0),(1,1),(2,2),(3,3),(4,4)] [5]
def mP(ys:List UInt8)(x:Int):Int:=oo (fa (aY ys (dp x false))) (cE (aY ys (dp x false))) (eE (aY ys (dp x false)))
theorem LA(b c a g:Nat)(u v:Value)(ys:List UInt8)(d:ys.length=36)(x:Int)(h0: -9223372036854775808≤x)(h1:x≤9223372036854775807):aa UZ 197 #[pt b 0,v,i6 x] [ob b #[pt c 0,pt a 0] 242,ob a #[pt g 0,u] 309,ob g (rB 255 aQ++rN 256 aU).toArray 312,.p (aJ eB u cQ),.p (aJ eB v ys)] [] N0 (λ_=> .tuple #[.agg (rB 32 (gB ys (dp x false))).toArray,i6 (mP ys x)]):=
 Lz b c a g u v ys d x h0 h1 _ rfl (xe d) _ rfl _ rfl _ rfl
end
section
open Go.Shelf
def fc{α:Type}(d:α)(N:Nat)(f:Nat→α)(n:Nat):List α:=(U1 N).map λi=>if i<n then f i else d
theorem mQ{α:Type}(d:α)(N:Nat)(f:Nat→α)(n:Nat):(fc d N f n).length=N:=by unfold fc;rw[U6,Vc]
theorem LB{α:Type}{d:α}{N:Nat}{f:Nat→α}{n i:Nat}(h:i<N):(fc d N f n).getD i d=if i<n then f i else d:=by
 unfold fc;rw[U0,Vy,VM h];rfl
theorem LC{α:Type}{d:α}{N:Nat}{f:Nat→α}{n:Nat}(h:n<N):(fc d N f n).set n (f n)=fc d N f (n+1):=by
 apply VF;intro i;rw[Vr];rcases VK i N with a | a
 ·unfold fc;simp only[U6,Vc,Vy,VM a,VS];by_cases e:n=i
  ·subst e;rw[ALifp rfl,ALifp h,ALifp Om]
  ·rw[ALifn e];by_cases b:i<n
   ·rw[ALifp b,ALifp Om]
   ·rw[ALifn b,ALifn Om]
 ·rw[Vi (l:=fc d N f (n+1)) (by rw[mQ];exact a),Vi (l:=fc d N f n) (by rw[mQ];exact a),mQ];rw[ALifn Om]
theorem LD{α:Type}(d:α)(N:Nat)(f:Nat→α):fc d N f 0=U2 N d:=by
 apply VF;intro i;rcases VK i N with a | a
 ·unfold fc;simp [a]
 ·rw[Vi (by rw[mQ];exact a),Vi (by simpa using a)]
def w9(xs:List UInt8)(k:Nat):List UInt8:=(xs.drop (9*k)).take 9
def oq(xs:List UInt8)(k:Nat):List UInt8:=(xs.drop (36*k)).take 36
def dW(xs:List UInt8)(x:Int)(k:Nat):Nat:=fV (aZ (w9 xs k) 0 8) ((w9 xs k).getD 8 0) ((pc ((x%8388608).toNat)%2:Nat):Int) (bC 10) (bQ 10)
def dK(xs:List UInt8)(x:Int)(k:Nat):Int:=jT (w9 xs k) x
def cW(xs:List UInt8)(x:Int)(k:Nat):List UInt8:=gB (oq xs k) (dp x false)
def cK(xs:List UInt8)(x:Int)(k:Nat):Int:=mP (oq xs k) x
theorem LF{d:Nat}{k:UInt8}{a:Int}{cl:List UInt8}{b:List Int}(h:d<18446744073709551616):fV d k a cl b<18446744073709551616:=by
 unfold fV;cases e:((dj ((bO d a 0 cl)^^^k) b)==1)&&(decide ((db ((bO d a 0 cl)^^^k) b)<64)) with
 | false=>exact h
 | true=>
  rw[U7] at e;have c:=of_decide_eq_true e.2;rw[ALct,V7];exact VP (n:=64) h (Nat.pow_lt_pow_right Dc Om)
theorem LH(xs:List UInt8)(x:Int)(k:Nat):dW xs x k<18446744073709551616:=LF (qK _ _ Dc)
theorem LJ{N:Nat}{f:Nat→Nat}{n B:Nat}(hB:0<B)(h: ∀i,f i<B)(i:Nat):(fc 0 N f n).getD i 0<B:=by
 rcases VK i N with a | a
 ·rw[LB a];split
  ·exact h i
  ·exact hB
 ·rw[U0,Vi (by rw[mQ];exact a)];exact hB
theorem BY{xs:List UInt8}{k:Nat}(b:xs.length=72)(a:k<2):(oq xs k).length=36:=by unfold oq;rw[U5,Vb];omega
theorem xf{f:Nat→List UInt8}{m:Nat}(h: ∀i,(f i).length=m)(k:Nat):((U1 k).flatMap f).length=m*k:=by
 induction k with
 | zero=>rfl
 | succ k ih=>rw[Vu,V5,U4,ih,V0,h,Wm]
theorem BZ{f:Nat→List UInt8}{m N:Nat}(h: ∀i,(f i).length=m){k:Nat}:
  ((U1 k).flatMap f++U2 (N-m*k) (0:UInt8)).take (m*k)++f k++((U1 k).flatMap f++U2 (N-m*k) (0:UInt8)).drop (m*k+m)=(U1 (k+1)).flatMap f++U2 (N-m*(k+1)) 0:=by
 have a:=xf h k;rw[VW a,←VL,VX a,V4,Vu,V5,V0,show N-m*k-m=N-m*(k+1) by rw[Wm];omega]
def fH(f:Nat→List UInt8)(k:Nat):List UInt8:=(U1 k).flatMap f++U2 (64-32*k) 0
theorem xg{f:Nat→List UInt8}(h: ∀i,(f i).length=32){k:Nat}(a:k≤2):(fH f k).length=64:=by
 unfold fH;rw[U4,xf h,Vp];omega
theorem LK{f:Nat→List UInt8}(h: ∀i,(f i).length=32){k:Nat}:(fH f k).take (0+k*32)++f k++(fH f k).drop (0+k*32+32)=fH f (k+1):=by
 have:=BZ (N:=64) h (k:=k);rw[VT,Vf k 32];exact this
theorem LM(f:Nat→List UInt8):fH f 0=U2 64 0:=rfl
theorem LN{xs:List UInt8}{x:Int}{k:Nat}(h:(oq xs k).length=36):(cW xs x k).length=32:=xe h
def ic(xs:List UInt8)(x:Int)(k:Nat):List UInt8:=if k<2 then cW xs x k else U2 32 0
theorem LP{xs:List UInt8}{x:Int}{k:Nat}(h:k<2):ic xs x k=cW xs x k:=ALifp h
theorem tO{xs:List UInt8}(a:xs.length=72)(x:Int)(k:Nat):(ic xs x k).length=32:=by
 unfold ic
 split
 ·rename_i h;exact LN (BY a h)
 ·rfl
attribute [local irreducible] dj db bO fV aZ gB aY bC bQ cQ aQ aU dp fa cE eE jT mP fc fH cc jK jF fb
theorem LQ(i g j:Nat)(xs:List UInt8)(o:xs.length=72)(x:Int):aa UZ 151 #[pt i 0,i6 1,.agg (rB 72 xs).toArray,i6 x] [ob i #[pt g 0,pt j 0] 242,ob g (rB 74 (bC 10)++rI 256 (bQ 10)).toArray 298] [] (λE=>[da (E.val 0) ((U1 8).map (dK xs x))]) (λE=> .tuple #[.agg (rB 64 (cc 64 (jj (fc 0 8 (dW xs x) 8)) (8*8))).toArray,(E.val 0)]):=by
 refine fG Tryz.func151 λw u=>ra (λf=>[(6,pt (B0 f) 0),(8,pt (B1 f) 0),(9,.slice none 0 0)]) (λf=>[ob (B0 f) (rB 72 xs).toArray 217,ob (B1 f) (rB 64 z6).toArray 43]) λf=>r0 [] [(10,.slice none 0 0)] [] (rT [] 20 (ra (λe=>[(11,pt (B0 e) 0)]) (λe=>[ob (B0 e) (rW 8 (U2 8 0)).toArray 320]) λe=>r0 [] [(21,i6 0)] [] (cz kI ?_)));refine mF (λk _=>k≤8) (λk a=>[(21,iN k),(10,a)]) (λk a L=>(L.set 4 (ob (B0 e) (rW 8 (fc 0 8 (dW xs x) k)).toArray 320)).set 5 (da a ((U1 k).map (dK xs x)))) (λk _=>8-k) 0 (.slice none 0 0) Om Kr (by rw[LD];kernel_rfl) (λk a q=>?_);have r:((U1 k).map (dK xs x)).length=k:=by rw[U6,Vc]
 refine r0 [] [(22,.bool (decide ((k:Int)<8)))] [] ?_;refine b4 (k:Int) 8 (λp n=>?_) λp n=>?_
 ·exact r0 [] [(12,iN k)] [] (rr (λd=>[(1,.m (ls 2 (rB 72 xs))),(4,.c [] [6] (BR xs (by(simp only[LL,mQ,lP,o];done)) k Om)),(6,.c [0,1,6] [] (aa.at (rd':=[ob i #[pt g 0,pt j 0] 242,ob g (rB 74 (bC 10)++rI 256 (bQ 10)).toArray 298,br ((d 4).val 0) ((xs.drop (9*k)).take 9)]) (Lx i g j ((d 4).val 0) ((xs.drop (9*k)).take 9) (by(simp only[LL,mQ,lP,o];omega)) x) (aN (aN (bN (λ_ h=>ao.sq h) (λ_ h=>h)))))),]) (λ_=>[(13,u6 (((fV (aZ ((xs.drop (9*k)).take 9) 0 8) (((xs.drop (9*k)).take 9).getD 8 0) ((pc ((x%8388608).toNat)%2:Nat):Int) (bC 10) (bQ 10)):Nat):Int)),(14,i6 (jT ((xs.drop (9*k)).take 9) x))]) [] (λd L=>L++[br ((d 4).val 0) ((xs.drop (9*k)).take 9)]) λd=>rs [(2,iA 320 .i64 (B0 e) 0 8 1 k),(3,wD 4 (B0 e) k 320 (u6 (((fV (aZ ((xs.drop (9*k)).take 9) 0 8) (((xs.drop (9*k)).take 9).getD 8 0) ((pc ((x%8388608).toNat)%2:Nat):Int) (bC 10) (bQ 10)):Nat):Int)) (rW 8 (fc 0 8 (dW xs x) k)) (rW 8 ((fc 0 8 (dW xs x) k).set k (fV (aZ ((xs.drop (9*k)).take 9) 0 8) (((xs.drop (9*k)).take 9).getD 8 0) ((pc ((x%8388608).toNat)%2:Nat):Int) (bC 10) (bQ 10)))) (jt Om) (GI (mQ ..)))] 4 (ob (B0 e) (rW 8 ((fc 0 8 (dW xs x) k).set k (fV (aZ ((xs.drop (9*k)).take 9) 0 8) (((xs.drop (9*k)).take 9).getD 8 0) ((pc ((x%8388608).toNat)%2:Nat):Int) (bC 10) (bQ 10)))).toArray 320) (rr (λ_=>[(2,.m (bs 7 1)),(3,eX kI (a) ((U1 k).map (dK xs x)) 5 7 ([(jT ((xs.drop (9*k)).take 9) x)]))]) (λb=>[(10,(b 3).val 0)]) [10] (λb L=>L.set 5 (da ((b 3).val 0) (((U1 k).map (dK xs x))++([(jT ((xs.drop (9*k)).take 9) x)])))++[ob (B2 b) #[i6 (jT ((xs.drop (9*k)).take 9) x)] 3]) λb=>r0 [(0,ad k 1)] [(21,iN (k+1))] [21] (kO (k+1) ((b 3).val 0) Om Om Kr [0,1,2,3,4,5] (by rw[←LC Om,Vu,VJ];kernel_rfl))))
 obtain rfl:k=8:=by omega
 refine kP ?_;exact rr (λ_=>[(0,.l 4),(1,.c [] [] (Lh (fc 0 8 (dW xs x) 8) (by(simp only[LL,mQ,lP,o];done)) (LJ Dc (LH xs x)))),(3,.s 3)]) (λ_=>[(9,a)]) [9] (λ_ L=>L.set 3 (ob (B1 f) (rB 64 (cc 64 (jj (fc 0 8 (dW xs x) 8)) (8*8))).toArray 43)) λt=>lf (.l [] [] [a]) [5] [(0,0),(1,1)] [3]
theorem LR(q v o g:Nat)(u:Value)(xs:List UInt8)(i:xs.length=72)(x:Int)(h0: -9223372036854775808≤x)(h1:x≤9223372036854775807):aa UZ 151 #[pt q 0,i6 2,.agg (rB 72 xs).toArray,i6 x] [ob q #[pt v 0,pt o 0] 242,ob o #[pt g 0,u] 309,ob g (rB 255 aQ++rN 256 aU).toArray 312,.p (aJ eB u cQ)] [] (λE=>[da (E.val 0) ((U1 2).map (cK xs x))]) (λE=> .tuple #[.agg (rB 64 (fH (ic xs x) 2)).toArray,(E.val 0)]):=by
 refine fO Tryz.func151 3 rfl λr z=>fG Tryz.func151 λw D=>ra (λn=>[(6,pt (B0 n) 0),(8,pt (B1 n) 0),(9,.slice none 0 0)]) (λn=>[ob (B0 n) (rB 72 xs).toArray 217,ob (B1 n) (rB 64 z6).toArray 43]) λn=>r0 [] [(10,.slice none 0 0)] [] (rF [] 20 (ra (λj=>[(15,pt (B0 j) 0)]) (λj=>[ob (B0 j) (rB 64 z6).toArray 324]) λj=>r0 [] [(45,i6 0)] [] (cz kI ?_)));refine mF (λk _=>k≤2) (λk a=>[(45,iN k),(10,a)]) (λk a L=>(L.set 6 (ob (B0 j) (rB 64 (fH (ic xs x) k)).toArray 324)).set 7 (da a ((U1 k).map (cK xs x)))) (λk _=>2-k) 0 (.slice none 0 0) Om Kr (by rw[LM];kernel_rfl) (λk a y=>?_);have B:((U1 k).map (cK xs x)).length=k:=by rw[U6,Vc]
 have e:=xg (tO i x) y;refine r0 [] [(46,.bool (decide ((k:Int)<2)))] [] ?_;refine b4 (k:Int) 2 (λA t=>?_) λA t=>?_
 ·refine r0 [] [(16,iN k)] [] ?_;have d:(gB ((xs.drop (36*k)).take 36) (dp x false)).length=32:=xe (BY i Om);exact rr (λb=>[(1,.m (ls 4 (rB 72 xs))),(4,.c [] [8] (BS xs (by(simp only[LL,d,e,i];done)) k Om)),(6,.c [0,1,2,3,8] [] (aa.at (rd':=[ob q #[pt v 0,pt o 0] 242,ob o #[pt g 0,u] 309,ob g (rB 255 aQ++rN 256 aU).toArray 312,.c r,br ((b 4).val 0) ((xs.drop (36*k)).take 36)]) (LA q v o g u ((b 4).val 0) ((xs.drop (36*k)).take 36) (by(simp only[LL,d,e,i];omega)) x Om Om) (aN (aN (aN (ec z (bN (λ_ h=>ao.sq h) (λ_ h=>h)))))))),(10,.m (al 9)),(11,.s 9)]) (λb=>[(17,pt ((b 10).y 0) 0),(18,i6 (mP ((xs.drop (36*k)).take 36) x))]) [] (λb L=>L++[br ((b 4).val 0) ((xs.drop (36*k)).take 36),ob ((b 10).y 0) (rB 32 (gB ((xs.drop (36*k)).take 36) (dp x false))).toArray 267]) λb=>rs [(1,.l 9),(2,iA 324 .i64 (B0 j) 0 2 32 k),(3,.m (sg 6 (B0 j) (0+k*32) 324 (rB 32 (gB ((xs.drop (36*k)).take 36) (dp x false))) (rB 64 (fH (ic xs x) k)).toArray (rB 64 ((fH (ic xs x) k).take (0+k*32)++(gB ((xs.drop (36*k)).take 36) (dp x false))++(fH (ic xs x) k).drop (0+k*32+32))).toArray (GZ (λ_=>rfl) (show(fH (ic xs x) k).length=64 by(simp only[LL,d,e,i];done)) (show(gB ((xs.drop (36*k)).take 36) (dp x false)).length=32 by(simp only[LL,d,e,i];done)) Om) (G0 (λ_=>rfl) Om) (G1 (λ_=>rfl) (show(gB ((xs.drop (36*k)).take 36) (dp x false)).length=32 by(simp only[LL,d,e,i];done)))))] 6 (ob (B0 j) (rB 64 ((fH (ic xs x) k).take (0+k*32)++(gB ((xs.drop (36*k)).take 36) (dp x false))++(fH (ic xs x) k).drop (0+k*32+32))).toArray 324) (rr (λ_=>[(2,.m (bs 10 1)),(3,eX kI (a) ((U1 k).map (cK xs x)) 7 10 ([(mP ((xs.drop (36*k)).take 36) x)]))]) (λf=>[(10,(f 3).val 0)]) [10] (λf L=>L.set 7 (da ((f 3).val 0) (((U1 k).map (cK xs x))++([(mP ((xs.drop (36*k)).take 36) x)])))++[ob (B2 f) #[i6 (mP ((xs.drop (36*k)).take 36) x)] 3]) λf=>r0 [(0,ad k 1)] [(45,iN (k+1))] [45] (kO (k+1) ((f 3).val 0) Om Om Kr [0,1,2,3,4,5,6,7] (by rw[←LK (tO i x),LP Om,Vu,VJ];kernel_rfl)))
 obtain rfl:k=2:=by omega
 refine kP ?_;have d:=trivial;exact rr (λ_=>[(0,.l 6),(1,.c [] [] (Lt (fH (ic xs x) 2) (by(simp only[LL,d,e,i];done)))),(3,.s 5)]) (λ_=>[(9,a)]) [9] (λ_ L=>L.set 5 (ob (B1 n) (rB 64 (fH (ic xs x) 2)).toArray 43)) λC=>lf (.l [] [] [a]) [7] [(0,0),(1,1),(2,2),(3,3)] [5]
def qL(xs:List UInt8)(x:Int):List UInt8:=(bif decide (2≤(jK ((U1 8).map (dK xs x)))) then U2 64 0 else cc 64 (jj (fc 0 8 (dW xs x) 8)) (8*8))
theorem LS(e i j:Nat)(xs:List UInt8)(m:xs.length=72)(x:Int):aa UZ 124 #[pt e 0,i6 1,.agg (rB 72 xs).toArray,i6 x] [ob e #[pt i 0,pt j 0] 242,ob i (rB 74 (bC 10)++rI 256 (bQ 10)).toArray 298] [] N0 (λ_=> .tuple #[.agg (rB 64 (qL xs x)).toArray,.agg #[i6 (jK ((U1 8).map (dK xs x))),i6 (iE ((U1 8).map (dK xs x)))]]):=by
 refine fG Tryz.func124 λw n=>ra (λa=>[(6,pt (B0 a) 0),(8,pt (B1 a) 0),(9,pt (B2 a) 0)]) (λa=>[ob (B0 a) (rB 72 xs).toArray 217,ob (B1 a) (rB 64 z6).toArray 43,ob (B2 a) #[i6 0,i6 0] 79]) λa=>r0 [(1,.c [] [] (om 1))] [(15,.bool (!((1==1)||(1==2))))] [] ?_;have k:(!((1==1)||(1==2)))=false:=by decide
 refine cF (!((1==1)||(1==2))) k (rr (λ_=>[(2,.l 2),(4,.c [0,1] [5] (LQ e i j xs (by(simp only[LL,lP,m];done)) x)),(9,.s 6)]) (λb=>[(10,pt ((b 8).y 0) 0),(11,((b 4).val 0))]) [] (λb L=>L++[da ((b 4).val 0) ((U1 8).map (dK xs x)),ob ((b 8).y 0) (rB 64 (cc 64 (jj (fc 0 8 (dW xs x) 8)) (8*8))).toArray 43]) λb=>rr (λ_=>[(1,.c [5] [] (aa.at (rd':=[da ((b 4).val 0) ((U1 8).map (dK xs x))]) (BW ((b 4).val 0) ((U1 8).map (dK xs x)) (by rw[U6,Vc];omega)) (bN (λ_ h=>ao.sq h) (λ_ h=>h)))),(3,.s 7)]) (λd=>[(12,pt (B2 d) 0)]) [] (λd L=>L++[ob (B2 d) #[i6 (jK ((U1 8).map (dK xs x))),i6 (iE ((U1 8).map (dK xs x)))] 79]) λd=>r0 [(1,.l 7)] [(30,.bool (decide (2≤(jK ((U1 8).map (dK xs x))))))] [] ?_);refine n7 2 (jK ((U1 8).map (dK xs x))) (λg f=>?_) λg f=>?_
 ·exact rr (λ_=>[(1,.l 7),(2,.s 3),(3,.s 4)]) N0 [] (λ_ L=>L.set 4 (ob (B2 a) #[i6 (jK ((U1 8).map (dK xs x))),i6 (iE ((U1 8).map (dK xs x)))] 79)) λo=>ak (.tuple #[.agg (rB 64 z6).toArray,.agg #[i6 (jK ((U1 8).map (dK xs x))),i6 (iE ((U1 8).map (dK xs x)))]]) ab.zero (by((try simp only[qL]);(repeat (first | rw[g] | rw[ALct])))<;>rfl) [] [(0,0),(1,1)] [3,4]
 exact rr (λ_=>[(0,.l 6),(1,.l 7),(2,.s 3),(3,.s 4)]) N0 [] (λ_ L=>(L.set 3 (ob (B1 a) (rB 64 (cc 64 (jj (fc 0 8 (dW xs x) 8)) (8*8))).toArray 43)).set 4 (ob (B2 a) #[i6 (jK ((U1 8).map (dK xs x))),i6 (iE ((U1 8).map (dK xs x)))] 79)) λp=>ak (.tuple #[.agg (rB 64 (cc 64 (jj (fc 0 8 (dW xs x) 8)) (8*8))).toArray,.agg #[i6 (jK ((U1 8).map (dK xs x))),i6 (iE ((U1 8).map (dK xs x)))]]) ab.zero (by((try simp only[qL]);(repeat (first | rw[g] | rw[ALcf])))<;>rfl) [] [(0,0),(1,1)] [3,4]
def qM(xs:List UInt8)(x:Int):List UInt8:=(bif decide (2≤(jK ((U1 2).map (cK xs x)))) then U2 64 0 else fH (ic xs x) 2)
theorem LU(e n d g:Nat)(u:Value)(xs:List UInt8)(q:xs.length=72)(x:Int)(h0: -9223372036854775808≤x)(h1:x≤9223372036854775807):aa UZ 124 #[pt e 0,i6 2,.agg (rB 72 xs).toArray,i6 x] [ob e #[pt n 0,pt d 0] 242,ob d #[pt g 0,u] 309,ob g (rB 255 aQ++rN 256 aU).toArray 312,.p (aJ eB u cQ)] [] N0 (λ_=> .tuple #[.agg (rB 64 (qM xs x)).toArray,.agg #[i6 (jK ((U1 2).map (cK xs x))),i6 (iE ((U1 2).map (cK xs x)))]]):=by
 have i:=xg (tO q x) (Vk 2);refine fO Tryz.func124 3 rfl λj o=>fG Tryz.func124 λw t=>ra (λa=>[(6,pt (B0 a) 0),(8,pt (B1 a) 0),(9,pt (B2 a) 0)]) (λa=>[ob (B0 a) (rB 72 xs).toArray 217,ob (B1 a) (rB 64 z6).toArray 43,ob (B2 a) #[i6 0,i6 0] 79]) λa=>r0 [(1,.c [] [] (om 2))] [(15,.bool (!((2==1)||(2==2))))] [] ?_;have r:(!((2==1)||(2==2)))=false:=by decide
 refine cF (!((2==1)||(2==2))) r (rr (λ_=>[(2,.l 4),(4,.c [0,1,2,3] [7] (aa.at (rd':=[ob e #[pt n 0,pt d 0] 242,ob d #[pt g 0,u] 309,ob g (rB 255 aQ++rN 256 aU).toArray 312,.c j]) (LR e n d g u xs (by(simp only[LL,i,q];done)) x Om Om) (aN (aN (aN (ec o (λ_ h=>h))))))),(9,.s 8)]) (λb=>[(10,pt ((b 8).y 0) 0),(11,((b 4).val 0))]) [] (λb L=>L++[da ((b 4).val 0) ((U1 2).map (cK xs x)),ob ((b 8).y 0) (rB 64 (fH (ic xs x) 2)).toArray 43]) λb=>rr (λ_=>[(1,.c [7] [] (aa.at (rd':=[da ((b 4).val 0) ((U1 2).map (cK xs x))]) (BW ((b 4).val 0) ((U1 2).map (cK xs x)) (by rw[U6,Vc];omega)) (bN (λ_ h=>ao.sq h) (λ_ h=>h)))),(3,.s 9)]) (λf=>[(12,pt (B2 f) 0)]) [] (λf L=>L++[ob (B2 f) #[i6 (jK ((U1 2).map (cK xs x))),i6 (iE ((U1 2).map (cK xs x)))] 79]) λf=>r0 [(1,.l 9)] [(30,.bool (decide (2≤(jK ((U1 2).map (cK xs x))))))] [] ?_);refine n7 2 (jK ((U1 2).map (cK xs x))) (λm k=>?_) λm k=>?_
 ·exact rr (λ_=>[(1,.l 9),(2,.s 5),(3,.s 6)]) N0 [] (λ_ L=>L.set 6 (ob (B2 a) #[i6 (jK ((U1 2).map (cK xs x))),i6 (iE ((U1 2).map (cK xs x)))] 79)) λv=>ak (.tuple #[.agg (rB 64 z6).toArray,.agg #[i6 (jK ((U1 2).map (cK xs x))),i6 (iE ((U1 2).map (cK xs x)))]]) ab.zero (by((try simp only[qM]);(repeat (first | rw[m] | rw[ALct])))<;>rfl) [] [(0,0),(1,1),(2,2),(3,3)] [5,6]
 exact rr (λ_=>[(0,.l 8),(1,.l 9),(2,.s 5),(3,.s 6)]) N0 [] (λ_ L=>(L.set 5 (ob (B1 a) (rB 64 (fH (ic xs x) 2)).toArray 43)).set 6 (ob (B2 a) #[i6 (jK ((U1 2).map (cK xs x))),i6 (iE ((U1 2).map (cK xs x)))] 79)) λy=>ak (.tuple #[.agg (rB 64 (fH (ic xs x) 2)).toArray,.agg #[i6 (jK ((U1 2).map (cK xs x))),i6 (iE ((U1 2).map (cK xs x)))]]) ab.zero (by((try simp only[qM]);(repeat (first | rw[m] | rw[ALcf])))<;>rfl) [] [(0,0),(1,1),(2,2),(3,3)] [5,6]
end
section
open Go.Shelf
def fI(n:Nat)(f:Nat→List UInt8)(k:Nat):List UInt8:=(U1 k).flatMap f++U2 (72-n*k) 0
theorem po{n:Nat}{f:Nat→List UInt8}(h: ∀i,(f i).length=n){k:Nat}(a:n*k≤72):(fI n f k).length=72:=by
 unfold fI;rw[U4,xf h,Vp];omega
theorem B8{n:Nat}{f:Nat→List UInt8}(h: ∀i,(f i).length=n){k m:Nat}(a:m=n):(fI n f k).take (n*k)++f k++(fI n f k).drop (n*k+m)=fI n f (k+1):=by subst a;exact BZ h
theorem B9(n:Nat)(f:Nat→List UInt8):fI n f 0=U2 72 0:=rfl
def kT(l:List UInt8)(x:Int)(p:Bool)(k:Nat):List UInt8:=ji (aZ l (8*k) 8) 8++[bO (aZ l (8*k) 8) ((pc ((x%8388608).toNat)%2:Nat):Int) (fb p) (bC 10)]
theorem qN(l:List UInt8)(x:Int)(p:Bool)(k:Nat):(kT l x p k).length=9:=by unfold kT;rw[U4,mO];rfl
def lS(l:List UInt8)(x:Int)(p:Bool)(k:Nat):List UInt8:=if k<2 then iC ((l.drop (32*k)).take 32) (dp x p)++(l.drop (32*k)).take 32 else U2 36 0
theorem qO{l:List UInt8}(a:l.length=64)(x:Int)(p:Bool)(k:Nat):(lS l x p k).length=36:=by
 unfold lS
 split
 ·rw[U4,jx,U5,Vb];omega
 ·rfl
theorem LV{l:List UInt8}{x:Int}{p:Bool}{k:Nat}(h:k<2):lS l x p k=iC ((l.drop (32*k)).take 32) (dp x p)++(l.drop (32*k)).take 32:=ALifp h
attribute [local irreducible] dj db bO fV aZ ji gB aY iC bC bQ cQ aQ aU dp fa cE eE jT mP fc fH cc jK jF fb fI
theorem LW(e j y:Nat)(l:List UInt8)(f:l.length=64)(x:Int)(p:Bool):aa UZ 125 #[pt e 0,i6 1,.agg (rB 64 l).toArray,i6 x,.bool p] [ob e #[pt j 0,pt y 0] 242,ob j (rB 74 (bC 10)++rI 256 (bQ 10)).toArray 298] [] N0 (λ_=> .agg (rB 72 (fI 9 (kT l x p) 8)).toArray):=by
 have a:=True.intro;refine fG Tryz.func125 λw G=>ra (λd=>[(5,pt (B0 d) 0),(6,pt (B1 d) 0),(7,pt (B2 d) 0),(9,pt (B3 d) 0),(10,pt (B4 d) 0)]) (λd=>[ob (B0 d) #[pt e 0] 116,ob (B1 d) #[i6 1] 3,ob (B2 d) (rB 64 l).toArray 43,ob (B3 d) #[.bool p] 4,ob (B4 d) (rB 72 (U2 72 0)).toArray 217]) λd=>ra (λg=>[(11,pt (B0 g) 0)]) (λg=>[ob (B0 g) (rB 72 (U2 72 0)).toArray 217]) λg=>r0 [(0,.l 3)] [(19,i6 1)] [] (rT [] 20 (rr (λ_=>[(1,.c [] [] (tK x)),(3,.s 8)]) (λo=>[(12,pt (B2 o) 0)]) [] (λo L=>L++[ob (B2 o) #[iN (pc ((x%8388608).toNat)%2)] 3]) λo=>rr (λ_=>[(0,.l 4),(1,.c [] [9] (K8 l (by(simp only[LL,mO,jg,jh,a,f];done))))]) (λi=>[(25,.func (.func 200) #[] #[pt ((B1 i)) 0])]) [] (λi L=>L++[ob (B1 i) (rB 64 l).toArray 43]) λi=>?_));refine n9 (encs:=λ(x:Nat×Nat)=>#[i6 (x.1:Int),u6 (x.2:Int)]) (xs:=(U1 8).map λk=>(k,aZ l (8*k) 8)) (KO:=[[((B1 i),.cells (rB 64 l).toArray 43 (0,0))]]) (K7 (B1 i) l (by(simp only[LL,mO,jg,jh,a,f];done))) (enters_of Tryz.func200 Kr rfl) (λk=>k≤8) (λk L=>L.set 7 (ob (B0 g) (rB 72 (fI 9 (kT l x p) k)).toArray 217)) [9] Om (by rw[B9];kernel_rfl) (λH k I B D t r=>?_) (λA r=>?_)
 ·obtain⟨u,rfl⟩:=nc t;have q:=qK l (8*k) (k:=8) Dc;have z:=mO (aZ l (8*k) 8) 8;have a:=po (n:=9) (qN l x p) (k:=k) Om;refine r0 [] [(13,iN k)] [] (r0 [] [(14,u6 ((aZ l (8*k) 8:Nat):Int))] [] ?_);refine ag [9] (λC F=>?_);exact rr (λb=>[(0,.m (ls 7 (rB 72 (fI 9 (kT l x p) k)))),(1,.m (ld 3 (i6 1))),(2,.v (iN k)),(3,.v (u6 ((aZ l (8*k) 8:Nat):Int))),(4,.c [] [10] (KY (aZ l (8*k) 8) Om)),(5,.m (ld 2 (pt e 0))),(6,.v (pt e 0)),(7,.v (pt e 0)),(8,.m (ld 0 (pt j 0))),(9,.v (u6 ((aZ l (8*k) 8:Nat):Int))),(10,.m (ld 8 (iN (pc ((x%8388608).toNat)%2)))),(11,.m (ld 5 (.bool p))),(12,.c [] [] (BN p)),(13,.c [1] [] (BM j (aZ l (8*k) 8) ((pc ((x%8388608).toNat)%2:Nat):Int) (fb p) (bC 10) (bQ 10) q (by(simp only[LL,mO,jg,jh,a,f];done)) (by(simp only[LL,mO,jg,jh,a,f];done)))),(14,.m (bs 11 1)),(15,eX kB (((b 4).val 0)) (ji (aZ l (8*k) 8) 8) 10 11 ([(bO (aZ l (8*k) 8) ((pc ((x%8388608).toNat)%2:Nat):Int) (fb p) (bC 10))])),(16,.c [10] [] (aa.at (rd':=[br ((b 15).val 0) ((ji (aZ l (8*k) 8) 8)++([(bO (aZ l (8*k) 8) ((pc ((x%8388608).toNat)%2:Nat):Int) (fb p) (bC 10))]))]) (Lc (fI 9 (kT l x p) k) ((ji (aZ l (8*k) 8) 8)++([(bO (aZ l (8*k) 8) ((pc ((x%8388608).toNat)%2:Nat):Int) (fb p) (bC 10))])) ((b 15).val 0) (by(simp only[LL,mO,jg,jh,a,f];done)) k Om (by(simp only[LL,mO,jg,jh,a,f];done))) (bN (λ_ h=>ao.sq h) (λ_ h=>h)))),(17,.s 7)]) N0 [] (λb L=>L.set 7 (ob (B0 g) (rB 72 ((fI 9 (kT l x p) k).take (9*k)++((ji (aZ l (8*k) 8) 8)++([(bO (aZ l (8*k) 8) ((pc ((x%8388608).toNat)%2:Nat):Int) (fb p) (bC 10))]))++(fI 9 (kT l x p) k).drop ((9*k)+((ji (aZ l (8*k) 8) 8)++([(bO (aZ l (8*k) 8) ((pc ((x%8388608).toNat)%2:Nat):Int) (fb p) (bC 10))])).length))).toArray 217)++[br ((b 15).val 0) ((ji (aZ l (8*k) 8) 8)++([(bO (aZ l (8*k) 8) ((pc ((x%8388608).toNat)%2:Nat):Int) (fb p) (bC 10))])),ob ((b 14).y 0) #[u1 ((bO (aZ l (8*k) 8) ((pc ((x%8388608).toNat)%2:Nat):Int) (fb p) (bC 10)).toNat:Int)] 5]) λb=>ne _ ⟨Om,rfl⟩ [0,1,2,3,4,5,6,7,8,9] (by rw[←B8 (qN l x p) (qN l x p k)];unfold kT;kernel_rfl)
 have a:=po (n:=9) (qN l x p) (k:=8) Om;exact rs [(0,.l 7),(1,.s 6)] 6 (ob (B4 d) (rB 72 (fI 9 (kT l x p) 8)).toArray 217) (lf ab.zero [] [(0,0),(1,1)] [6])
theorem LX(y D r g:Nat)(u:Value)(l:List UInt8)(e:l.length=64)(x:Int)(h0: -9223372036854775808≤x)(h1:x≤9223372036854775807)(p:Bool):aa UZ 125 #[pt y 0,i6 2,.agg (rB 64 l).toArray,i6 x,.bool p] [ob y #[pt D 0,pt r 0] 242,ob r #[pt g 0,u] 309,ob g (rB 255 aQ++rN 256 aU).toArray 312,.p (aJ eB u cQ)] [] N0 (λ_=> .agg (rB 72 (fI 36 (lS l x p) 2)).toArray):=by
 have a:=True.intro;have b:=True.intro;refine fO Tryz.func125 3 rfl λv B=>fG Tryz.func125 λw K=>ra (λf=>[(5,pt (B0 f) 0),(6,pt (B1 f) 0),(7,pt (B2 f) 0),(9,pt (B3 f) 0),(10,pt (B4 f) 0)]) (λf=>[ob (B0 f) #[pt y 0] 116,ob (B1 f) #[i6 2] 3,ob (B2 f) (rB 64 l).toArray 43,ob (B3 f) #[.bool p] 4,ob (B4 f) (rB 72 (U2 72 0)).toArray 217]) λf=>ra (λo=>[(11,pt (B0 o) 0)]) (λo=>[ob (B0 o) (rB 72 (U2 72 0)).toArray 217]) λo=>r0 [(0,.l 5)] [(19,i6 2)] [] (rF [] 20 (rT [] 45 (rr (λ_=>[(1,.l 7),(2,.c [] [] (BO x Om Om p)),(4,.s 10)]) (λt=>[(15,pt (B3 t) 0)]) [] (λt L=>L++[ob (B3 t) (rB 3 (dp x p)).toArray 262]) λt=>rr (λ_=>[(0,.l 6),(1,.c [] [11] (K9 l (by(simp only[LL,a,jx,lQ,b,e];done))))]) (λq=>[(51,.func (.func 202) #[] #[pt ((B1 q)) 0])]) [] (λq L=>L++[ob (B1 q) (rB 64 l).toArray 43]) λq=>?_)));refine n9 (encs:=λ(x:Nat×List UInt8)=>#[i6 (x.1:Int),.agg (rB 32 x.2).toArray]) (xs:=(U1 2).map λk=>(k,(l.drop (32*k)).take 32)) (KO:=[[((B1 q),.cells (rB 64 l).toArray 43 (0,0))]]) (Lb (B1 q) l (by(simp only[LL,a,jx,lQ,b,e];done))) (enters_of Tryz.func202 Kr rfl) (λk=>k≤2) (λk L=>L.set 9 (ob (B0 o) (rB 72 (fI 36 (lS l x p) k)).toArray 217)) [11] Om (by rw[B9];kernel_rfl) (λM k N G I C z=>?_) (λF z=>?_)
 ·obtain⟨A,rfl⟩:=nc C;have a:=po (n:=36) (qO e x p) (k:=k) Om;have b:((l.drop (32*k)).take 32).length=32:=by rw[U5,Vb];omega
  refine r0 [] [(16,iN k)] [] (rr (λ_=>[(1,.s 12)]) (λd=>[(17,pt (B0 d) 0)]) [] (λd L=>L++[ob (B0 d) (rB 32 ((l.drop (32*k)).take 32)).toArray 267]) λd=>?_);refine ag [11] (λH J=>?_);exact rr (λ_=>[(0,.l 4),(3,.l 0),(4,.l 12),(5,.l 10),(6,.c [1,2,3] [] (aa.at (rd':=[ob r #[pt g 0,u] 309,ob g (rB 255 aQ++rN 256 aU).toArray 312,.c v]) (Kw r g u ((l.drop (32*k)).take 32) (dp x p) (by(simp only[LL,a,jx,lQ,b,e];done)) (by(simp only[LL,a,jx,lQ,b,e];done))) (aN (aN (ec B (λ_ h=>h)))))),(8,.s 13)]) (λi=>[(18,pt (B7 i) 0)]) [] (λi L=>L++[ob (B7 i) (rB 4 (iC (((l.drop (32*k)).take 32)) ((dp x p)))).toArray 268]) λi=>rr (λj=>[(0,.l 9),(1,.l 5),(3,aS 268 (B7 i) 4 1),(4,aS 267 (B0 d) 32 1),(5,.m (Iw kB 14 13 12 (B7 i) 4 (rB 4 (iC (((l.drop (32*k)).take 32)) ((dp x p)))).toArray 268 (iC (((l.drop (32*k)).take 32)) ((dp x p))) ((l.drop (32*k)).take 32) (.slice (some ⟨(d 0).y 0,0,none⟩) 32 32) (ob (B0 d) (rB 32 ((l.drop (32*k)).take 32)).toArray 267) (λ_ h=>by rw[show _=_ from h];exact oc (λ_=>rfl) (show((l.drop (32*k)).take 32).length=32 by(simp only[LL,a,jx,lQ,b,e];done))) (jx ..) (zX (jx ..)) (by rw[(show((l.drop (32*k)).take 32).length=32 by(simp only[LL,a,jx,lQ,b,e];done))];omega) (by rw[(jx ..),(show((l.drop (32*k)).take 32).length=32 by(simp only[LL,a,jx,lQ,b,e];done))];omega))),(6,.c [14] [] (aa.at (rd':=[br ((j 5).val 0) ((iC (((l.drop (32*k)).take 32)) ((dp x p)))++((l.drop (32*k)).take 32))]) (Ld (fI 36 (lS l x p) k) ((iC (((l.drop (32*k)).take 32)) ((dp x p)))++((l.drop (32*k)).take 32)) ((j 5).val 0) (by(simp only[LL,a,jx,lQ,b,e];done)) k Om (by(simp only[LL,a,jx,lQ,b,e];done))) (bN (λ_ h=>ao.sq h) (λ_ h=>h)))),(7,.s 9)]) N0 [] (λj L=>L.set 9 (ob (B0 o) (rB 72 ((fI 36 (lS l x p) k).take (36*k)++((iC (((l.drop (32*k)).take 32)) ((dp x p)))++((l.drop (32*k)).take 32))++(fI 36 (lS l x p) k).drop ((36*k)+((iC (((l.drop (32*k)).take 32)) ((dp x p)))++((l.drop (32*k)).take 32)).length))).toArray 217)++[br ((j 5).val 0) ((iC (((l.drop (32*k)).take 32)) ((dp x p)))++((l.drop (32*k)).take 32))]) λj=>ne _ ⟨Om,rfl⟩ [0,1,2,3,4,5,6,7,8,9,10,11] (by rw[←B8 (qO e x p) (qO e x p k),LV Om];kernel_rfl)
 have a:=po (n:=36) (qO e x p) (k:=2) Om;exact rs [(0,.l 9),(1,.s 8)] 8 (ob (B4 f) (rB 72 (fI 36 (lS l x p) 2)).toArray 217) (lf ab.zero [] [(0,0),(1,1),(2,2),(3,3)] [8])
end
def aV(mode:Int):Nat:=if mode=1 then 9 else if mode=2 then 36 else 0
def dG(mode:Int):Nat:=if mode=1 then 8 else if mode=2 then 2 else 0
def dq(mode:Int)(a b:UInt8):Nat:=if mode=1 then pc (a^^^b).toNat else if a=b then 0 else 1
theorem Ca{n:Nat}(h:n<256):pc n≤8:=by
 have a:pc n=im 8 n:=(FF 8 n Om Om).symm;rw[a];exact yP 8 n
theorem LY(mode:Int)(a b:UInt8):dq mode a b≤if mode=1 then 8 else 1:=by
 unfold dq
 split
 ·exact Ca (a^^^b).toNat_lt
 ·split<;>omega
def dh(f:Nat→Nat):Nat→Nat
 | 0=>0
 | k+1=>dh f k+f k
def wC(mode:Int)(xs ys:List UInt8)(k:Nat):Nat:=dh (λj=>dq mode (xs.getD (aV mode*k+j) 0) (ys.getD (aV mode*k+j) 0)) (aV mode)
def kp(mode:Int)(xs ys:List UInt8):Nat→Nat
 | 0=>0
 | k+1=>max (kp mode xs ys k) (wC mode xs ys k)
def jU(mode:Int)(xs ys:List UInt8):Nat:=kp mode xs ys (dG mode)
section
open Go.Shelf

end
section
open Go.Shelf

end
section
open Go.Shelf
theorem Cb(l:List Int): ∀a:Int,(a≤l.foldl max a∧(∀x,x∈l→x≤l.foldl max a))∧∀m,a≤m→(∀x,x∈l→x≤m)→l.foldl max a≤m:=by
 induction l with
 | nil=>intro a;exact⟨⟨Int.le_refl _,λx h=>absurd h VU⟩,λm h _=>h⟩
 | cons y l ih=>
  intro a;obtain⟨⟨e,c⟩,d⟩:=ih (max a y);rw[We];refine⟨⟨by omega,λx b=>?_⟩,λm f b=>d m (by have:=b y V8;omega) λx h=>b x (List.mem_cons_of_mem _ h)⟩;rcases List.mem_cons.1 b with rfl | h
  ·omega
  ·exact c x h
theorem LZ(l:List Int):0≤jK l:=(Cb l 0).1.1
theorem L1{l:List Int}{m:Int}(h0:0≤m)(h: ∀x,x∈l→x≤m):jK l≤m:=(Cb l 0).2 m h0 h
end
end E
section
open Go.Shelf

end
namespace E
section
open Go.Shelf
theorem L2{r:List UInt8}{y:Int}{k b:Nat}{c:Int}{a:UInt8}(h:fU (Go.Proofs.YtbcodenfkijdnaaGreat.co (aY (oq r k) (dp y false)))=⟨b,c,a⟩):cK r y k=if b=0 then 0 else if b=1 then 1 else if b=2∧c=38∧a=128 then 2 else 3:=by
 unfold cK mP oo fa cE eE;rw[h];show(bif ((b:Nat):Int)==0 then 0 else(bif ((b:Nat):Int)==1 then 1 else(bif ((((b:Nat):Int)==2)&&(c==38))&&((a.toNat:Int)==128) then 2 else 3)))=(_:Int);by_cases e:b=0
 ·subst e;rfl
 by_cases f:b=1
 ·subst f;rfl
 rw[ALifn e,ALifn f];have i:(((b:Nat):Int)==0)=false:=by rw[dR];omega
 have j:(((b:Nat):Int)==1)=false:=by rw[dR];omega
 rw[i,j,ALcf,ALcf];by_cases d:b=2∧c=38∧a=128
 ·obtain⟨rfl,rfl,rfl⟩:=d;rfl
 ·rw[ALifn d];have l:((((b:Nat):Int)==2)&&(c==38)&&((a.toNat:Int)==128))=false:=by
   apply Bool.eq_false_iff.2;intro g;rw[U7,U7,beq_iff_eq,beq_iff_eq,beq_iff_eq] at g;exact d ⟨by omega,g.1.2,UInt8.toNat_inj.1 (by show a.toNat=128;omega)⟩
  rw[l,ALcf]
theorem L3(r:List UInt8)(y:Int)(k:Nat):cK r y k≤3:=by
 obtain⟨⟨b,c,a⟩,h⟩: ∃V,fU (Go.Proofs.YtbcodenfkijdnaaGreat.co (aY (oq r k) (dp y false)))=V:=⟨_,rfl⟩;rw[L2 h]
 split
 ·decide
 ·split
  ·decide
  ·split<;>decide
end
section
open Go.Shelf

end
end E
section
open Go.ChangeShapes Go.WideShapes Go.Deep
inductive gQ where
 | int (k:IntKind)
 | bool
def Cc:gQ→Value→Prop
 | .int k,v=>∃z:Int,v= .int k z∧(Lit.int k z).wf=true
 | .bool,v=>∃b:Bool,v= .bool b
def ot(P:Program)(r:TypeId→Option (List gQ)):Nat→List Field→Option (List gQ)
 | _,[]=>some []
 | off,f::fs=>match r f.type with
  | none=>none
  | some l=>if f.offset==off&&P.cellsOf f.type==l.length then(ot P r (off+l.length) fs).map λm=>l++m else none
def mS(P:Program):Nat→TypeId→Option (List gQ)
 | 0,_=>none
 | n+1,t=>match P.underlying t with
  | some .bool=>some [.bool]
  | some (.int k)=>some [.int k]
  | some (.struct a)=>match ot P (mS P n) 0 a.toList with
   | some l=>if P.cellsOf t==l.length then some l else none
   | none=>none
  | some (.array m e)=>match mS P n e with
   | some l=>if P.cellsOf e==l.length&&P.cellsOf t==m*l.length then some (U2 m l).flatten else none
   | none=>none
  | _=>none
def dU(ls:List gQ)(cs:List Value):Prop:=cs.length=ls.length∧∀(i:Nat) (lf:gQ),ls[i]? =some lf→∃v,cs[i]? =some v∧Cc lf v
theorem dU.append{l m:List gQ}{cs:List Value}{k:Nat}(q:k=l.length)(h1:dU l (cs.take k))(h2:dU m (cs.drop k)):dU (l++m) cs:=by
 subst q;obtain⟨f,g⟩:=h1;obtain⟨j,p⟩:=h2;rw[U5] at f;rw[Vb] at j;refine⟨by rw[U4];omega,λi e h=>?_⟩;rcases VK i l.length with c | c
 ·rw[Ve c] at h;obtain⟨v,a,d⟩:=g i e h;rw[Vt c] at a;exact⟨v,a,d⟩
 ·rw[Vh c] at h;obtain⟨v,a,d⟩:=p _ e h;rw[Vv,show l.length+(i-l.length)=i by omega] at a;exact⟨v,a,d⟩
section
variable {H:Type} {enc:TypeId×Value→H} {P:Program} {w:World} {base:Nat} {spare:Nat→Bool} {held:Bool}
theorem Cd{r:TypeId→Option (List gQ)}{m:Nat}(p: ∀t ls cs x,r t=some ls→DataW.trod enc P w base spare held m t cs=some x→dU ls cs):
  ∀(c:List Field) (off:Nat) (ls:List gQ) (cs:List Value),ot P r off c=some ls→off+ls.length=cs.length→
   (∀(i:Nat) (f:Field),c[i]? =some f→∃x,DataW.trod enc P w base spare held m f.type ((cs.drop f.offset).take (P.cellsOf f.type))=some x)→dU ls (cs.drop off)
 | [],off,ls,cs,h,e,_=>by
  simp only[ot,Option.some.injEq] at h;subst h;exact⟨by simp at e⊢;omega,λi z h=>by simp at h⟩
 | f::c,off,ls,cs,h,e,k=>by
  unfold ot at h;cases a:r f.type with
  | none=>rw[a] at h;cases h
  | some l=>
   rw[a] at h;simp only at h
   split at h
   ·rename_i d;simp only[U7,beq_iff_eq] at d;cases j:ot P r (off+l.length) c with
    | none=>rw[j] at h;cases h
    | some y=>
     rw[j] at h;simp only[VS,Option.some.injEq] at h;subst h;rw[U4] at e;obtain⟨x,q⟩:=k 0 f rfl;rw[d.1,d.2] at q;have s:=p _ _ _ _ a q;have u:=Cd p c (off+l.length) y cs j Om λi g v=>k (i+1) g (by simpa using v);exact dU.append rfl s (by rw[VL];exact u)
   ·cases h
theorem Ce{r:List Value→Prop}{l:List gQ}(d: ∀cs,r cs→dU l cs): ∀(m:Nat) (cs:List Value),cs.length=m*l.length→(∀i,i<m→r ((cs.drop (i*l.length)).take l.length))→dU (U2 m l).flatten cs
 | 0,cs,h,_=>by
  have:cs=[]:=List.eq_nil_of_length_eq_zero Om;subst this;exact⟨rfl,λi g h=>by simp at h⟩
 | m+1,cs,h,c=>by
  rw[VN,Vm];have a:=d _ (c 0 Om);rw[Wn,List.drop_zero] at a;refine dU.append rfl a (Ce d m _ (by rw[Vb,h,Wo];omega) λi f=>?_);have e:=c (i+1) Om;rw[VL];rwa [show(i+1)*l.length=l.length+i*l.length by rw[Wo];omega] at e
theorem tQ: ∀(n:Nat) (t:TypeId) (s:List gQ) (c:Nat) (a:List Value) (x:DataW H×List MemPlace),mS P n t=some s→DataW.trod enc P w base spare held c t a=some x→dU s a
 | 0,_,_,_,_,_,h,_=>by simp [mS] at h
 | n+1,t,s,c,a,x,h,y=>by
  unfold mS at h;cases q:P.underlying t with
  | none=>rw[q] at h;cases h
  | some d=>
   rw[q] at h;cases d with
   | bool=>
    simp only[Option.some.injEq] at h;subst h;obtain⟨b,rfl,_⟩:=DataW.trod_bool q y;exact⟨rfl,λi L h=>by
     cases i with
     | zero=>simp only[VG,Option.some.injEq] at h;subst h;exact⟨_,rfl,b,rfl⟩
     | succ i=>simp at h⟩
   | int k=>
    simp only[Option.some.injEq] at h;subst h;obtain⟨z,rfl,_,K⟩:=DataW.trod_int q y;exact⟨rfl,λi L h=>by
     cases i with
     | zero=>simp only[VG,Option.some.injEq] at h;subst h;exact⟨_,rfl,z,rfl,K⟩
     | succ i=>simp at h⟩
   | struct D=>
    simp only at h;cases j:ot P (mS P n) 0 D.toList with
    | none=>rw[j] at h;cases h
    | some l=>
     rw[j] at h;simp only at h
     split at h
     ·rename_i v;rw[beq_iff_eq] at v;cases h;obtain⟨B,m,_,_,J,u,g⟩:=DataW.trod_struct q y;have:=Cd (m:=m) (λt s a x p I=>tQ n t s m a x p I) D.toList 0 s a j Om λi f F=>by
       have p:=g i f (by simpa using F);have C:i<B.length:=by rw[u];have:=(List.getElem?_eq_some_iff.1 F).1;simpa using this
       exact⟨B[i],by rw[p,U3 C]⟩
      simpa using this
     ·cases h
   | array m e=>
    simp only at h;cases j:mS P n e with
    | none=>rw[j] at h;cases h
    | some l=>
     rw[j] at h;simp only at h
     split at h
     ·rename_i v;simp only[U7,beq_iff_eq] at v;cases h;obtain⟨B,G,_,_,J,u,g⟩:=DataW.trod_array q y;refine Ce (r:=λa=>∃x,DataW.trod enc P w base spare held G e a=some x) (λa ⟨x,h⟩=>tQ n e l G a x j h) m a Om λi C=>?_;have p:=g i C;rw[v.1] at p;exact⟨B[i]'Om,by rw[p,U3 Om]⟩
     ·cases h
   | _=>simp at h
theorem L4{t:TypeId}{v:Value}{d:DataW H}{p:List MemPlace}(n:Nat){ls:List gQ}(f:mS P n t=some ls)(c: ∃cs,v= .agg cs)(h:DataW.Trod enc P w base spare held t v d p): ∃cs:List Value,v= .agg cs.toArray∧dU ls cs:=by
 obtain⟨cs,rfl⟩:=c;obtain⟨a,e⟩:=h;exact⟨cs.toList,by simp,tQ n t ls a _ _ f e⟩
theorem L5{r:Reach}{c:Nat}{t:TypeId}{v:Value}{d:TypeDesc}(ht:P.underlying t=some d)(e:(match d with | .struct _ | .array _ _=>true | _=>false)=true)(h:Value.okWide P w r c t v): ∃cs,v= .agg cs:=by
 simp only[Value.okWide,ht] at h;cases d<;>simp at e
 ·obtain⟨cs,a,_⟩:=h;exact⟨cs,a⟩
 ·obtain⟨cs,a,_⟩:=h;exact⟨cs,a⟩
end
theorem L6{z:Int}(h:(Lit.int .i64 z).wf=true): -9223372036854775808≤z∧z≤9223372036854775807:=by
 have:=bounds_i64 h;omega
theorem tS: ∀(n:Nat) (a:List Value),dU (U2 n (.int .i64)) a→∃d:List Int,d.length=n∧a=d.map (λz=>Value.int .i64 z)∧∀z∈d, -9223372036854775808≤z∧z≤9223372036854775807
 | 0,a,h=>⟨[],rfl,by have:=h.1;simp at this;simpa using this,by simp⟩
 | n+1,a,h=>by
  obtain⟨g,j⟩:=h;cases a with
  | nil=>simp at g
  | cons c a=>
   obtain⟨v,f,z,k,l⟩:=j 0 (.int .i64) (by simp);obtain⟨d,m,p,q⟩:=tS n a ⟨by simpa using g,λi s r=>by simpa using j (i+1) s (by rw[VN,Vw];exact r)⟩;simp only[VG,Option.some.injEq] at f;subst f;subst k;refine⟨z::d,by simp [m],by simp [p],λy e=>?_⟩;rcases List.mem_cons.1 e with rfl | e
   ·exact L6 l
   ·exact q y e
end
section
open Go.ChangeShapes Go.WideShapes Go.Deep
def ou(n:Nat)(w:World)(A:Option Addr)(rows:List (List Value)):Prop:=
 ∀(i:Nat) (r:List Value),rows[i]? =some r→r.length=n∧∃b o,A=some ⟨b,o,none⟩∧b<w.heap.size∧∀(j:Nat) (v:Value),r[j]? =some v→w.cell? ⟨b,o+i*n+j,none⟩=some v
section
variable {n:Nat} {w w':World} {A:Option Addr} {rows:List (List Value)}
theorem ou.nil:ou n w A []:=λi r h=>by simp at h
end
section
variable {P:Program} {w:World} {b off:Nat}
end
section
variable {P:Program} {w:World} {o:Oper} {ρ:Operand→Value}
end
section
variable {H:Type} {enc:TypeId×Value→H} {P:Program} {w:World} {base:Nat} {spare:Nat→Bool} {held:Bool}
theorem L7{t e:TypeId}{A:Option Addr}{g s:Nat}{d:DataW H}{p:List MemPlace}(n:Nat){ls:List gQ}(Y:mS P n e=some ls)(hn:P.cellsOf e=ls.length)(h0:0<ls.length)(ht:P.underlying t=some (.slice e))
  (h:DataW.Trod enc P w base spare held t (.slice A g s) d p): ∃rows:List (List Value),rows.length=g∧(∀r∈rows,dU ls r)∧ou ls.length w A rows∧g≤s∧s≤maxLen:=by
 obtain⟨T,W⟩:=h;rcases open_slice ht W with⟨k,_⟩ | ⟨a,l,c,m,n',D,Pl,k,_,O,hm,R,_,hx⟩
 ·simp [Value.cells] at k;obtain⟨rfl,rfl,rfl⟩:=k;exact⟨[],rfl,by simp,ou.nil,Vk _,Vz _⟩
 ·simp [Value.cells] at k;obtain⟨rfl,rfl,rfl⟩:=k;have Z:g≤m:=by rw[R];split<;>omega
  obtain⟨f,z⟩:=choose_lt (α:=List Value) (n:=g) (p:=λi S=>w.cells? base (a.add (i*P.cellsOf e)) (P.cellsOf e)=some S∧dU ls S) λi G=>by
   obtain⟨F,K,L⟩:=hx i Om;exact⟨F,K,tQ n e ls n' F _ Y L⟩
  refine⟨(U1 g).map f,by simp,λr C=>?_,λi r C=>?_,O,hm⟩
  ·obtain⟨i,G,rfl⟩:=List.mem_map.1 C;exact(z i (List.mem_range.1 G)).2
  ·have G:i<g:=by have:=(List.getElem?_eq_some_iff.1 C).1;simpa using this
   rw[Vy,VM G] at C;simp only[VS,Option.some.injEq] at C;subst C;obtain⟨K,L⟩:=z i G;obtain⟨_,h3,U⟩:=V9 K;refine⟨L.1,?_⟩;obtain⟨b,o,J⟩:=a;have u:=U 0 Om;have M:(f i)[0]? =some ((f i)[0]'Om):=U3 Om;rw[M] at u;have B:J=none:=by
    obtain⟨z1,z2⟩:=z 0 Om;have I:=(V9 z1).2.2 0 Om;have hzl:=z2.1;rw[U3 (show 0<(f 0).length by omega)] at I;have:=World.cell?_spot I;simpa [Addr.add] using this
   subst B;have q: ∀(x y:Nat),((⟨b,o,none⟩:Addr).add x).add y=⟨b,o+x+y,none⟩:=λx y=>by
    unfold Addr.add
    split<;>split<;>simp_all
   refine⟨b,o,rfl,?_,λj v V=>?_⟩
   ·rcases VK b w.heap.size with Q | N
    ·exact Q
    ·exfalso;rw[q] at u;simp [Wl,Array.getElem?_eq_none N] at u
   ·have X:j<P.cellsOf e:=by have:=(List.getElem?_eq_some_iff.1 V).1;omega
    have:=U j X;rw[q,hn] at this;rw[this,V]
end
end
namespace E
section
open Go.Shelf
theorem L8{w:World}{b o:Nat}{v:Value}(h:w.cell? ⟨b,o,none⟩=some v): ∃cs t a,w.heap[b]? =some (.cells cs t a):=by
 unfold Wl at h;cases c:w.heap[b]? with
 | none=>simp [c] at h
 | some x=>
  cases x with
  | cells cs t a=>exact⟨cs,t,a,rfl⟩
  | _=>simp [c] at h
theorem L9{α:Type}{en:α→List Value}{k:Nat}(b: ∀y,(en y).length=k){xs:List α}{i r:Nat}(a:i<xs.length)(c:r<k)(d:α):(aj en xs)[i*k+r]? =(en (xs.getD i d))[r]? :=by
 have h:=ALca (λl=>l[r]?) (sM (d:=d) b a);simp only[Vt c,Vv] at h;exact h
theorem Ma{α:Type}{en:α→List Value}{k:Nat}{w:World}{A:Option Addr}{n c:Nat}{xs:List α}(f: ∀y,(en y).length=k)(h0:0<k)(h:ou k w A (xs.map en))(K:xs.length=n): ∃q,eb q w∧dF en (.slice A n c) xs q:=by
 subst K;cases m:xs with
 | nil=>exact⟨[],⟨λ_ h=>by simp at h,List.Pairwise.nil⟩,.inl ⟨rfl,A,c,rfl⟩⟩
 | cons a P=>
  rw[←m];have B:0<xs.length:=by rw[m];exact Nat.zero_lt_succ _
  obtain⟨_,b,o,rfl,J,G⟩:=h 0 (en a) (by rw[m];rfl);have d: ∃v,(en a)[0]? =some v:=⟨(en a)[0]'(by rw[f];exact h0),U3 _⟩;obtain⟨M,l⟩:=d;obtain⟨e,t,g,u⟩:=L8 (G 0 M l);refine⟨[(b,.cells e t g)],⟨λz L=>by rw[List.mem_singleton.1 L];exact u,List.pairwise_singleton _ _⟩,.inr ⟨b,o,e,t,g,c,rfl,List.mem_singleton.2 rfl,?_⟩⟩;have F:(aj en xs).length=xs.length*k:=fq f rfl;have p: ∀j,j<xs.length*k→e.toList[o+j]? =(aj en xs)[j]? :=by
   intro j d;have x:j/k<xs.length:=VB (by rw[Vf];exact d);have C:j%k<k:=U8 _ h0;have H:j=j/k*k+j%k:=(Nat.div_add_mod' j k).symm;obtain⟨_,N,O,I,_,i⟩:=h (j/k) (en (xs.getD (j/k) a)) (by rw[Vy,U0,U3 x];rfl);cases I;have D:(en (xs.getD (j/k) a))[j%k]? =some ((en (xs.getD (j/k) a))[j%k]'(by rw[f];exact C)):=U3 _;have r:=i (j%k) _ D;rw[cell_of_row w b _ e t g u,←Array.getElem?_toList] at r;have s:=L9 f x C a;rw[←H] at s;rw[s,D,←r]
   congr 1
   omega
  rw[F];apply VF;intro j;by_cases d:j<xs.length*k
  ·rw[Vt d,Vv];exact p j d
  ·rw[Vi (by rw[U5];omega),Vi Om]
end
section
open Go.Shelf
def dA(x:Int):Int:=IntKind.i64.wrap x
theorem Cg{x:Int}(h0: -9223372036854775808≤x)(h1:x≤9223372036854775807):dA x=x:=IntWalk.i64_in _ Om
section
variable {P:Program} {T:TypeId} {x y:Operand} {w:World}
theorem Mb(a b:Int):(au .and T x y (.int .i64 a) (.int .i64 b)).run P w= .ok (.int .i64 (bits .and .i64 a b)) w:=rfl
theorem Md(a b:Int):(au .add T x y (.int .i64 a) (.int .i64 b)).run P w= .ok (.int .i64 (dA (a+b))) w:=rfl
theorem Ch(a b:Int):(au .sub T x y (.int .i64 a) (.int .i64 b)).run P w= .ok (.int .i64 (dA (a-b))) w:=rfl
theorem xh(a b:Int):(au .mul T x y (.int .i64 a) (.int .i64 b)).run P w= .ok (.int .i64 (dA (a*b))) w:=rfl
end
def fe(n a:Int):Bool:=((decide (1≤n))&&(decide (n≤a)))&&((bits .and .i64 n (dA (n-1)))==0)
theorem lT{n a:Int}(h:fe n a=true):1≤n∧n≤a:=by
 unfold fe at h;simp only[U7,decide_eq_true_eq] at h;exact h.1
theorem Me: ∀n:Nat,n<1025→fe (n:Int) 1024=true→n∈[1,2,4,8,16,32,64,128,256,512,1024]:=by decide+kernel
theorem Ci{n:Nat}{a:Int}(c:a≤1024)(h:fe (n:Int) a=true):n∈[1,2,4,8,16,32,64,128,256,512,1024]:=by
 have b:=lT h;refine Me n Om ?_;unfold fe at h⊢;simp only[U7,decide_eq_true_eq] at h⊢;exact⟨⟨h.1.1,by omega⟩,h.2⟩
def iF(r s b m c:Int):Bool:=((((((fe r 8)&&(decide (0≤s)))&&(decide (s≤(dA (8-r)))))&&(fe b 16))&&(fe m 1024))&&(fe c 64))&&(decide ((dA (dA (dA (dA (r+s)*b)*m)*c))≤4096))
structure cu (R S B M C:Nat):Prop where
 ok:iF R S B M C=true
structure gR (R S B M C:Nat):Prop where
 r1:1≤R
 r8:R+S≤8
 b1:1≤B
 b16:B≤16
 m1:1≤M
 m10:M≤1024
 c1:1≤C
 c64:C≤64
 all:(R+S)*B*M*C≤4096
theorem Cj{r s b m c:Int}(h:iF r s b m c=true): ∃R S B M C:Nat,r=R∧s=S∧b=B∧m=M∧c=C∧cu R S B M C:=by
 have a:=h;unfold iF at h;simp only[U7,decide_eq_true_eq] at h;obtain⟨⟨⟨⟨⟨⟨d,i⟩,j⟩,e⟩,f⟩,g⟩,k⟩:=h;have:=lT d;have:=lT e;have:=lT f;have:=lT g;refine⟨r.toNat,s.toNat,b.toNat,m.toNat,c.toNat,by omega,by omega,by omega,by omega,by omega,⟨?_⟩⟩;rw[Vo Om,Vo Om,Vo Om,Vo Om,Vo Om];exact a
theorem cu.bd{R S B M C:Nat}(h:cu R S B M C):gR R S B M C:=by
 have h:=h.ok;unfold iF at h;simp only[U7,decide_eq_true_eq] at h;obtain⟨⟨⟨⟨⟨⟨e,u⟩,f⟩,g⟩,i⟩,j⟩,k⟩:=h;have p:=lT e;have q:=lT g;have r:=lT i;have s:=lT j;rw[Cg Om Om] at f;have b:R+S≤8:=by omega
 have c:(R+S)*B≤8*16:=VO b Om;have d:(R+S)*B*M≤128*1024:=VO c Om;have t:(R+S)*B*M*C≤131072*64:=VO d Om;have a: ∀x:Nat,x≤8388608→dA (x:Int)=(x:Int):=λx v=>Cg Om Om;have l:dA ((R:Int)+(S:Int))=((R+S:Nat):Int):=(a (R+S) Om);have m:dA (((R+S:Nat):Int)*(B:Int))=(((R+S)*B:Nat):Int):=by rw[←VZ];exact a _ Om
 have n:dA ((((R+S)*B:Nat):Int)*(M:Int))=(((R+S)*B*M:Nat):Int):=by rw[←VZ];exact a _ Om
 have o:dA ((((R+S)*B*M:Nat):Int)*(C:Int))=(((R+S)*B*M*C:Nat):Int):=by rw[←VZ];exact a _ Om
 rw[l,m,n,o] at k;exact⟨by omega,b,by omega,by omega,by omega,by omega,by omega,by omega,by omega⟩
theorem cu.pow{R S B M C:Nat}(h:cu R S B M C):B∈[1,2,4,8,16,32,64,128,256,512,1024]:=by
 have h:=h.ok;unfold iF at h;simp only[U7,decide_eq_true_eq] at h;obtain⟨⟨⟨⟨⟨⟨b,c⟩,d⟩,a⟩,e⟩,f⟩,g⟩:=h;exact Ci Dc a
section
variable {R S B M C:Nat} (h:gR R S B M C)
theorem gR.rb(h:gR R S B M C):R*B≤128:=VO (show R≤8 by have:=h.r8;omega) h.b16
theorem gR.sbm(h:gR R S B M C):(R+S)*B*M≤4096:=Vj (VI _ h.c1) h.all
theorem gR.rbm(h:gR R S B M C):R*B*M≤4096:=Vj (Va M (Va B (Wf R S))) h.sbm
theorem gR.rbmc(h:gR R S B M C):R*B*M*C≤4096:=Vj (Va C (Va M (Va B (Wf R S)))) h.all
theorem gR.bm(h:gR R S B M C):B*M≤4096:=by
 have a:B*M≤R*(B*M):=V1 _ h.r1;rw[←Vg] at a;exact Vj a h.rbm
theorem gR.bmc(h:gR R S B M C):B*M*C≤4096:=by
 have a:B*M*C≤R*(B*M*C):=V1 _ h.r1;rw[←Vg,←Vg] at a;exact Vj a h.rbmc
end
def bR(i n:Int):Bool:=(decide (0≤i))&&(decide (i<n))
theorem kU{i n:Int}:bR i n=true↔0≤i∧i<n:=by unfold bR;simp
def hold(R S B M C:Nat)(a p1 p2 p3:Int):Bool:=(((bR a ((R+S:Nat):Int))&&(bR p1 (B:Int)))&&(bR p2 (M:Int)))&&(bR p3 (C:Int))
theorem tT{R S B M C:Nat}{e p1 p2 p3:Int}:hold R S B M C e p1 p2 p3=true↔(0≤e∧e<((R+S:Nat):Int))∧(0≤p1∧p1<(B:Int))∧(0≤p2∧p2<(M:Int))∧(0≤p3∧p3<(C:Int)):=by
 unfold hold;rw[U7,U7,U7,kU,kU,kU,kU]
 constructor
 ·rintro ⟨⟨⟨a,b⟩,c⟩,d⟩;exact⟨a,b,c,d⟩
 ·rintro ⟨a,b,c,d⟩;exact⟨⟨⟨a,b⟩,c⟩,d⟩
def dH(a p1 p2 p3:Int):Int:=a*1048576+p1*65536+p2*64+p3
def fJ(R S B M C:Nat)(i:Int):Bool:= !(decide (i<0)|| !(hold R S B M C (i/1048576) (i/65536%16) (i/64%1024) (i%64)))
theorem Mf{R S B M C:Nat}(b:gR R S B M C){a p1 p2 p3:Int}(h:hold R S B M C a p1 p2 p3=true):dH a p1 p2 p3/1048576=a∧dH a p1 p2 p3/65536%16=p1∧dH a p1 p2 p3/64%1024=p2∧dH a p1 p2 p3%64=p3∧0≤dH a p1 p2 p3∧dH a p1 p2 p3<8388608:=by
 obtain⟨c,d,e,f⟩:=tT.1 h;have:=b.b16;have:=b.m10;have:=b.c64;have:=b.r8;unfold dH;omega
end
section
open Go.Shelf
theorem tV(n a:Int):aa UZ 97 #[i6 n,i6 a] [] [] N0 (λ_=> .bool (fe n a)):=by
 exact fG Tryz.func97 λw b=>r0 [] [(4,.bool false)] [] (r0 [(10,.t (tv (au .sub 3 (.tmp 14) (.const (i6 1)) (i6 n) (i6 1)) (λ_=>Ch n 1))),(11,.t (tv (au .and 3 (.tmp 13) (.tmp 15) (i6 n) (i6 (dA (n-1)))) (λ_=>Mb n _))),] [(4,.bool (((decide (1≤n))&&(decide (n≤a)))&&((bits .and .i64 n (dA (n-1)))==0)))] [4] (ak (.bool (((decide (1≤n))&&(decide (n≤a)))&&((bits .and .i64 n (dA (n-1)))==0))) ab.zero a7 [] [] []))
theorem tX(i n:Int):aa UZ 105 #[i6 i,i6 n] [] [] N0 (λ_=> .bool (bR i n)):=by
 exact fG Tryz.func105 λw a=>r0 [] [(4,.bool false)] [] (r0 [] [(4,.bool ((decide (0≤i))&&(decide (i<n))))] [4] (ak (.bool ((decide (0≤i))&&(decide (i<n)))) ab.zero a7 [] [] []))
theorem Ck(r s b m c:Int):aa UZ 57 #[.agg #[i6 r,i6 s,i6 b,i6 m,i6 c]] [] [] N0 (λ_=> .bool (iF r s b m c)):=by
 exact fG Tryz.func57 λw d=>ra (λa=>[(1,pt (B0 a) 0),(2,.bool false)]) (λa=>[ob (B0 a) #[i6 r,i6 s,i6 b,i6 m,i6 c] 23]) λa=>r0 [(1,.m (ld 0 (i6 r))),(2,.c [] [] (tV r 8)),(5,.m (ld 0 (i6 s))),(10,.m (ld 0 (i6 s))),(12,.m (ld 0 (i6 r))),(13,.t (tv (au .sub 3 (.const (i6 8)) (.tmp 15) (i6 8) (i6 r)) (λ_=>Ch 8 r))),(18,.m (ld 0 (i6 b))),(19,.c [] [] (tV b 16)),(23,.m (ld 0 (i6 m))),(24,.c [] [] (tV m 1024)),(28,.m (ld 0 (i6 c))),(29,.c [] [] (tV c 64)),(33,.m (ld 0 (i6 r))),(35,.m (ld 0 (i6 s))),(36,.t (tv (au .add 3 (.tmp 36) (.tmp 38) (i6 r) (i6 s)) (λ_=>Md r s))),(38,.m (ld 0 (i6 b))),(39,.t (tv (au .mul 3 (.tmp 39) (.tmp 41) (i6 (dA (r+s))) (i6 b)) (λ_=>xh _ _))),(41,.m (ld 0 (i6 m))),(42,.t (tv (au .mul 3 (.tmp 42) (.tmp 44) (i6 (dA (dA (r+s)*b))) (i6 m)) (λ_=>xh _ _))),(44,.m (ld 0 (i6 c))),(45,.t (tv (au .mul 3 (.tmp 45) (.tmp 47) (i6 (dA (dA (dA (r+s)*b)*m))) (i6 c)) (λ_=>xh _ _))),] [(2,.bool (((((((fe r 8)&&(decide (0≤s)))&&(decide (s≤(dA (8-r)))))&&(fe b 16))&&(fe m 1024))&&(fe c 64))&&(decide ((dA (dA (dA (dA (r+s)*b)*m)*c))≤4096))))] [2] (ak (.bool (((((((fe r 8)&&(decide (0≤s)))&&(decide (s≤(dA (8-r)))))&&(fe b 16))&&(fe m 1024))&&(fe c 64))&&(decide ((dA (dA (dA (dA (r+s)*b)*m)*c))≤4096)))) ab.zero a7 [] [] [])
theorem tY(R S B M C:Nat)(a:cu R S B M C):aa UZ 57 #[.agg #[iN R,iN S,iN B,iN M,iN C]] [] [] N0 (λ_=> .bool true):=by
 have h:=Ck R S B M C;rwa [a.ok] at h
attribute [local irreducible] bR fe dA
theorem qP(R S B M C:Nat)(d:cu R S B M C)(a p1 p2 p3:Int):aa UZ 73 #[.agg #[iN R,iN S,iN B,iN M,iN C],.agg #[i6 a,i6 p1,i6 p2,i6 p3]] [] [] N0 (λ_=> .bool (hold R S B M C a p1 p2 p3)):=by
 have e:=d.bd;have f:=e.r8;exact fG Tryz.func73 λw g=>ra (λb=>[(2,pt (B0 b) 0),(3,pt (B1 b) 0),(4,.bool false)]) (λb=>[ob (B0 b) #[iN R,iN S,iN B,iN M,iN C] 23,ob (B1 b) #[i6 a,i6 p1,i6 p2,i6 p3] 46]) λb=>r0 [(0,.m (ls 0 ([iN R,iN S,iN B,iN M,iN C]))),(1,.c [] [] (tY R S B M C d)),(4,.m (ld 1 (i6 a))),(6,.m (ld 0 (iN R))),(8,.m (ld 0 (iN S))),(9,ad R S),(10,.c [] [] (tX a ((R+S:Nat):Int))),(14,.m (ld 1 (i6 p1))),(16,.m (ld 0 (iN B))),(17,.c [] [] (tX p1 (B:Int))),(21,.m (ld 1 (i6 p2))),(23,.m (ld 0 (iN M))),(24,.c [] [] (tX p2 (M:Int))),(28,.m (ld 1 (i6 p3))),(30,.m (ld 0 (iN C))),(31,.c [] [] (tX p3 (C:Int)))] [(4,.bool ((((bR a ((R+S:Nat):Int))&&(bR p1 (B:Int)))&&(bR p2 (M:Int)))&&(bR p3 (C:Int))))] [4] (ak (.bool ((((bR a ((R+S:Nat):Int))&&(bR p1 (B:Int)))&&(bR p2 (M:Int)))&&(bR p3 (C:Int)))) ab.zero a7 [] [] [])
theorem Cl(a p1 p2 p3:Int)(c:0≤a)(g:a<8)(d:0≤p1)(h:p1<16)(e:0≤p2)(i:p2<1024)(f:0≤p3)(j:p3<64):aa UZ 102 #[.agg #[i6 a,i6 p1,i6 p2,i6 p3]] [] [] N0 (λ_=>i6 (dH a p1 p2 p3)):=by
 exact fG Tryz.func102 λw k=>ra (λb=>[(1,pt (B0 b) 0),(2,i6 0)]) (λb=>[ob (B0 b) #[i6 a,i6 p1,i6 p2,i6 p3] 46]) λb=>r0 [(1,.m (ld 0 (i6 a))),(2,.t (tv (au .shl 3 (.tmp 4) (.const (u6 20)) (i6 a) (u6 20)) (λ_=>fu 20 Dc Om Om))),(4,.m (ld 0 (i6 p1))),(5,.t (tv (au .shl 3 (.tmp 7) (.const (u6 16)) (i6 p1) (u6 16)) (λ_=>fu 16 Dc Om Om))),(6,.t (tv (au .or 3 (.tmp 5) (.tmp 8) (i6 (a*2^20)) (i6 (p1*2^16))) (λ_=>qz 20 1048576 rfl Om Om Om Om Om))),(8,.m (ld 0 (i6 p2))),(9,.t (tv (au .shl 3 (.tmp 11) (.const (u6 6)) (i6 p2) (u6 6)) (λ_=>fu 6 Dc Om Om))),(10,.t (tv (au .or 3 (.tmp 9) (.tmp 12) (i6 (a*2^20+p1*2^16)) (i6 (p2*2^6))) (λ_=>qz 16 65536 rfl Om Om Om Om Om))),(12,.m (ld 0 (i6 p3))),(13,.t (tv (au .or 3 (.tmp 13) (.tmp 15) (i6 (a*2^20+p1*2^16+p2*2^6)) (i6 p3)) (λ_=>qz 6 64 rfl Om Om Om Om Om)))] [(2,i6 (a*2^20+p1*2^16+p2*2^6+p3))] [2] (ak (i6 (a*2^20+p1*2^16+p2*2^6+p3)) ab.zero (by exact ALca (Value.int .i64) (by unfold dH;omega)) [] [] [])
theorem Mg{R S B M C:Nat}(a:gR R S B M C){b p1 p2 p3:Int}(h:hold R S B M C b p1 p2 p3=true):(0≤b∧b<8)∧(0≤p1∧p1<16)∧(0≤p2∧p2<1024)∧0≤p3∧p3<64:=by
 obtain⟨c,d,e,f⟩:=tT.1 h;have:=a.b16;have:=a.m10;have:=a.c64;have:=a.r8;omega
def qQ(R S B M C:Nat)(a p1 p2 p3:Int):Int:=(bif !(hold R S B M C a p1 p2 p3) then 0 else(dH a p1 p2 p3))
def qR(R S B M C:Nat)(a p1 p2 p3:Int):Int:=(bif !(hold R S B M C a p1 p2 p3) then 12 else 0)
theorem Cm(R S B M C:Nat)(e:cu R S B M C)(a p1 p2 p3:Int):aa UZ 147 #[.agg #[iN R,iN S,iN B,iN M,iN C],.agg #[i6 a,i6 p1,i6 p2,i6 p3]] [] [] N0 (λ_=> .tuple #[i6 (qQ R S B M C a p1 p2 p3),i6 (qR R S B M C a p1 p2 p3)]):=by
 refine fG Tryz.func147 λw f=>ra (λb=>[(2,pt (B0 b) 0),(3,pt (B1 b) 0),(4,i6 0),(5,i6 0)]) (λb=>[ob (B0 b) #[iN R,iN S,iN B,iN M,iN C] 23,ob (B1 b) #[i6 a,i6 p1,i6 p2,i6 p3] 46]) λb=>r0 [(0,.l 0),(1,.l 1),(2,.c [] [] (qP R S B M C e a p1 p2 p3))] [(9,.bool (!(hold R S B M C a p1 p2 p3)))] [] ?_;refine cB (!(hold R S B M C a p1 p2 p3)) (λd=>?_) λd=>?_
 ·exact r0 [] [(4,i6 0),(5,i6 12)] [4,5] (ak (.tuple #[i6 0,i6 12]) ab.zero (by((try simp only[qQ,qR]);(repeat (first | rw[d] | rw[ALct])))<;>rfl) [] [] [])
 obtain⟨⟨g,k⟩,⟨h,m⟩,⟨i,n⟩,j,o⟩:=Mg e.bd (by simpa using d);exact r0 [(0,.l 1),(1,.c [] [] (Cl a p1 p2 p3 Om Om Om Om Om Om Om Om))] [(4,i6 (dH a p1 p2 p3)),(5,i6 0)] [4,5] (ak (.tuple #[i6 (dH a p1 p2 p3),i6 0]) ab.zero (by((try simp only[qQ,qR]);(repeat (first | rw[d] | rw[ALcf])))<;>rfl) [] [] [])
theorem Mh(i:Int):aa UZ 104 #[i6 i] [] [] N0 (λ_=> .agg #[i6 (i/1048576),i6 (i/65536%16),i6 (i/64%1024),i6 (i%64)]):=by
 exact fG Tryz.func104 λw b=>ra (λa=>[(2,pt (B0 a) 0)]) (λa=>[ob (B0 a) #[i6 0,i6 0,i6 0,i6 0] 46]) λa=>rs [(1,.t (tv (au .shr 3 (.tmp 3) (.const (u6 20)) (i6 i) (u6 20)) (λ_=>hP 20 Dc))),(3,.t (tv (au .shr 3 (.tmp 5) (.const (u6 16)) (i6 i) (u6 16)) (λ_=>hP 16 Dc))),(4,.t (tv (au .and 3 (.tmp 6) (.const (i6 15)) (i6 (i/65536)) (i6 15)) (λ_=>lJ _ 4 16 Dc Dc Dc Dc))),(6,.t (tv (au .shr 3 (.tmp 8) (.const (u6 6)) (i6 i) (u6 6)) (λ_=>hP 6 Dc))),(7,.t (tv (au .and 3 (.tmp 9) (.const (i6 1023)) (i6 (i/64)) (i6 1023)) (λ_=>lJ _ 10 1024 Dc Dc Dc Dc))),(9,.t (tv (au .and 3 (.tmp 11) (.const (i6 63)) (i6 i) (i6 63)) (λ_=>lJ _ 6 64 Dc Dc Dc Dc))),(11,.s 0)] 0 (ob (B0 a) #[i6 (i/1048576),i6 (i/65536%16),i6 (i/64%1024),i6 (i%64)] 46) (lf ab.zero [] [] [0])
attribute [local irreducible] hold
def qS(R S B M C:Nat)(i:Int):Int:=(bif (decide (i<0))||(!(hold R S B M C (i/1048576) (i/65536%16) (i/64%1024) (i%64))) then 0 else(i/1048576))
def qT(R S B M C:Nat)(i:Int):Int:=(bif (decide (i<0))||(!(hold R S B M C (i/1048576) (i/65536%16) (i/64%1024) (i%64))) then 0 else(i/65536%16))
def qU(R S B M C:Nat)(i:Int):Int:=(bif (decide (i<0))||(!(hold R S B M C (i/1048576) (i/65536%16) (i/64%1024) (i%64))) then 0 else(i/64%1024))
def qV(R S B M C:Nat)(i:Int):Int:=(bif (decide (i<0))||(!(hold R S B M C (i/1048576) (i/65536%16) (i/64%1024) (i%64))) then 0 else(i%64))
def qW(R S B M C:Nat)(i:Int):Int:=(bif (decide (i<0))||(!(hold R S B M C (i/1048576) (i/65536%16) (i/64%1024) (i%64))) then 12 else 0)
theorem Cn(R S B M C:Nat)(e:cu R S B M C)(i:Int):aa UZ 68 #[.agg #[iN R,iN S,iN B,iN M,iN C],i6 i] [] [] N0 (λ_=> .tuple #[.agg #[i6 (qS R S B M C i),i6 (qT R S B M C i),i6 (qU R S B M C i),i6 (qV R S B M C i)],i6 (qW R S B M C i)]):=by
 refine fG Tryz.func68 λw f=>ra (λa=>[(2,pt (B0 a) 0),(4,pt (B1 a) 0),(5,i6 0)]) (λa=>[ob (B0 a) #[iN R,iN S,iN B,iN M,iN C] 23,ob (B1 a) #[i6 0,i6 0,i6 0,i6 0] 46]) λa=>rr (λ_=>[(1,.c [] [] (Mh i)),(3,.s 2)]) (λb=>[(6,pt (B2 b) 0)]) [] (λb L=>L++[ob (B2 b) #[i6 (i/1048576),i6 (i/65536%16),i6 (i/64%1024),i6 (i%64)] 46]) λb=>r0 [(3,.l 0),(4,.l 2),(5,.c [] [] (qP R S B M C e (i/1048576) (i/65536%16) (i/64%1024) (i%64)))] [(16,.bool ((decide (i<0))||(!(hold R S B M C (i/1048576) (i/65536%16) (i/64%1024) (i%64)))))] [] ?_;refine cB ((decide (i<0))||(!(hold R S B M C (i/1048576) (i/65536%16) (i/64%1024) (i%64)))) (λd=>?_) λd=>?_
 ·exact r0 [(1,.s 1)] [(5,i6 12)] [5] (ak (.tuple #[.agg #[i6 0,i6 0,i6 0,i6 0],i6 12]) ab.zero (by((try simp only[qS,qT,qU,qV,qW]);(repeat (first | rw[d] | rw[ALct])))<;>rfl) [] [] [1])
 exact rr (λ_=>[(0,.l 2),(1,.s 1)]) (λ_=>[(5,i6 0)]) [5] (λ_ L=>L.set 1 (ob (B1 a) #[i6 (i/1048576),i6 (i/65536%16),i6 (i/64%1024),i6 (i%64)] 46)) λg=>ak (.tuple #[.agg #[i6 (i/1048576),i6 (i/65536%16),i6 (i/64%1024),i6 (i%64)],i6 0]) ab.zero (by((try simp only[qS,qT,qU,qV,qW]);(repeat (first | rw[d] | rw[ALcf])))<;>rfl) [] [] [1]
theorem Mi(R S B M C:Nat)(d:cu R S B M C):aa UZ 224 #[.agg #[iN R,iN S,iN B,iN M,iN C]] [] [] N0 (λ_=>iN ((B*M)*C)):=by
 have b:=d.bd;have f:=b.bm;have g:=b.bmc;exact fG Tryz.func224 λw e=>ra (λa=>[(1,pt (B0 a) 0),(2,i6 0)]) (λa=>[ob (B0 a) #[iN R,iN S,iN B,iN M,iN C] 23]) λa=>rF [(0,.l 0),(1,.c [] [] (tY R S B M C d))] 5 (r0 [(1,.l 0),(3,.l 0),(4,ml B M),(6,.l 0),(7,ml (B*M) C)] [(2,iN ((B*M)*C))] [2] (lf ab.zero [] [] []))
theorem lU(R S B M C:Nat)(d:cu R S B M C):aa UZ 24 #[.agg #[iN R,iN S,iN B,iN M,iN C]] [] [] N0 (λ_=>iN ((R*B)*M)):=by
 have b:=d.bd;have f:=b.rb;have g:=b.rbm;exact fG Tryz.func24 λw e=>ra (λa=>[(1,pt (B0 a) 0),(2,i6 0)]) (λa=>[ob (B0 a) #[iN R,iN S,iN B,iN M,iN C] 23]) λa=>rF [(0,.l 0),(1,.c [] [] (tY R S B M C d))] 5 (r0 [(1,.l 0),(3,.l 0),(4,ml R B),(6,.l 0),(7,ml (R*B) M)] [(2,iN ((R*B)*M))] [2] (lf ab.zero [] [] []))
end
section
open Go.Shelf
def kq(v:Wr):Nat→ah→ah
 | _,[]=>[]
 | k,x::xs=>((cr v k).getD x)::kq v (k+1) xs
theorem qX(v:Wr): ∀(k:Nat) (L:ah),(kq v k L).length=L.length
 | _,[]=>rfl
 | k,x::xs=>by unfold kq;rw[VH,VH,qX v (k+1) xs]
theorem xi(v:Wr): ∀(k:Nat) (L:ah) (p:Nat),(kq v k L)[p]? =L[p]?.map λx=>(cr v (k+p)).getD x
 | _,[],_=>by unfold kq;simp
 | k,x::xs,0=>by unfold kq;simp
 | k,x::xs,p+1=>by unfold kq;rw[Vw,Vw,xi v (k+1) xs p,show k+1+p=k+(p+1) by omega]
section
variable {P:Program} {f:FuncId} {args:Array Value} {rest:ah} {wt:ab→ah} {v:ab→Value} {S S':ah→Prop}
theorem Mj{L:ah}{w:World}{cs:List av}(hs:bk L cs)(e:eb cs.flatten w):kb (bJ cs.flatten) w L.length (λp=>L[p]?) (λi=>cs.getD i []) w:=by
 have d:=p8 e.nd;have k:=iV hs;have h: ∀i,∀z∈cs.getD i [],z∈cs.flatten:=λi z a=>by
  by_cases g:i<cs.length
  ·exact List.mem_flatten.2 ⟨_,m8 g,a⟩
  ·rw[oY g] at a;simp at a
 exact⟨λp j x c=>mw hs c,λp j c=>by rw[List.getElem?_eq_none_iff] at c;omega,λp j z a=>e.obj z (h p z a),λp _=>d.1 p,λp q _ _ b=>d.2 p q b,
  λp _ z a=> .inl (List.mem_map.2 ⟨z,h p z a,rfl⟩),rfl,rfl,rfl,Vk _,λ_ _ _=>rfl⟩
theorem aa.pkR(d:Enters P f)(h: ∀L,S L→aa P f args (L++rest) [] wt v):aa P f args ((pk S)::rest) [] wt v:=by
 refine⟨d,λw a j b=>?_⟩;obtain⟨k,a,rfl,⟨L,c,e,g,rfl⟩,i⟩:=cU j;have:=(h L e).out w (c++a) (jJ g i) (by rw[Vs];rw[Vm] at b;exact b);simpa using this
theorem xj(q:Nat)(x:aB)(r:Wr)(p:Nat):cr ((q,x)::r) p=if q=p then some x else cr r p:=rfl
theorem Co: ∀(a b:Wr) (p:Nat),cr (a++b) p=(cr a p).or (cr b p)
 | [],b,p=>by simp [cr]
 | (q,x)::a,b,p=>by
  rw[List.cons_append,xj,xj];by_cases e:q=p
  ·rw[ALifp e,ALifp e];rfl
  ·rw[ALifn e,ALifn e];exact Co a b p
theorem Cp{qs:List Nat}{p:Nat}(h:p∉qs)(N:ah):cr (qs.zip N) p=none:=by
 cases e:cr (qs.zip N) p with
 | none=>rfl
 | some x=>exact absurd (List.of_mem_zip (pV e)).1 h
theorem Cq(m:Nat): ∀(N:ah) (k p:Nat),cr (((VY k N.length).map λi=>m+i).zip N) (m+k+p)=N[p]?
 | [],k,p=>by simp [cr]
 | x::N,k,0=>by simp [Wc,cr]
 | x::N,k,p+1=>by
  rw[VH,Wc,List.map_cons,List.zip_cons_cons,Vw,←Cq m N (k+1) p];rw[xj,ALifn Om,show m+k+(p+1)=m+(k+1)+p by omega]
theorem aa.pkW{n:Nat}{N:ab→ah}(hE:Enters P f)(h: ∀L,S L→∃(O:List Nat) (wt:ab→ah),aa P f args (L++rest) O (λE=>wt E++N E) v∧(cZ O&&O.all λi=>decide (i<L.length))=true∧∀E,(wt E).length=O.length∧(N E).length=n∧S' (kq (O.zip (wt E)) 0 L)):
  aa P f args ((pk S)::rest) [0] (λE=>(pk S')::N E) v:=by
 refine⟨hE,λw F hs C=>?_⟩;obtain⟨bs,F,rfl,⟨L,ds,hL,Q,rfl⟩,hr⟩:=cU hs;obtain⟨O,wt,hC,I,hW⟩:=h L hL;rw[U7] at I;have X:=m7 I.1;have q: ∀i∈O,i<L.length:=λi D=>by simpa using List.all_eq_true.1 I.2 i D
 have hlen:=iV Q;rw[Vm] at C;refine(callsIn_wide (n:=6)).1 ((callsIn_wide.2 (hC.out w (ds++F) (jJ Q hr) (by rw[Vs];exact C))).mono λe w' he=>?_);obtain⟨E,r,e1,y,hst⟩:=he;obtain⟨hWl,hNl,K⟩:=hW E;have T:=iV y;rw[U4] at T;have R:bk (L++(N E).map λ_=> .c []) (ds++(N E).map λ_=>[]):=jJ Q (by
  generalize N E=M
  induction M with
  | nil=>trivial
  | cons x M ih=>exact⟨rfl,ih⟩)
 have o:(ds++(N E).map λ_=>([]:av)).flatten=ds.flatten:=by
  rw[Vs];have:((N E).map λ_=>([]:av)).flatten=[]:=by
   generalize N E=M
   induction M with
   | nil=>rfl
   | cons x M ih=>simp
  rw[this,VC]
 have V:eb ds.flatten w:=⟨λx hx=>C.obj x (V2 _ hx),(List.pairwise_append.1 C.nd).1⟩;obtain⟨c,hF,hc⟩: ∃c,kb (bJ ds.flatten) w (L++(N E).map λ_=>aB.c []).length (λp=>(L++(N E).map λ_=>aB.c [])[p]?) c w∧∀p,c p=(ds++(N E).map λ_=>[]).getD p []:=
  ⟨λp=>(ds++(N E).map λ_=>[]).getD p [],by have:=Mj R (w:=w) (by rw[o];exact V);rwa [o] at this,λ_=>rfl⟩
 have t:(L++(N E).map λ_=>aB.c []).length=L.length+(N E).length:=by rw[U4,U6]
 obtain⟨qs,l⟩: ∃qs,qs=O++(VY 0 (N E).length).map λi=>L.length+i:=⟨_,rfl⟩;have Y:qs.length=r.length:=by rw[l,U4,U6,List.length_range'];omega
 have Z:qs.Nodup:=by
  rw[l,List.nodup_append];refine⟨X,?_,λa ha b m e=>?_⟩
  ·refine List.Pairwise.map _ (λa b h e=>h Om) (List.nodup_range' (s:=0) (n:=(N E).length))
  ·obtain⟨i,_,rfl⟩:=List.mem_map.1 m;have:=q a ha;omega
 have u:=sn (qs:=qs) (ds:=r) Y Z;have hzl:qs.length=(wt E++N E).length:=by rw[U4];omega
 have U:((qs.zip (wt E++N E)).flatMap λx=>kF qs r x.1)=r.flatten:=by rw[oX hzl,u]
 have H:=hF.step (d:=kF qs r) (v:=qs.zip (wt E++N E)) (sr u y) (by rw[U];exact hst) (λb m=>by
  obtain⟨i,D,m⟩:=List.mem_flatMap.1 m;have hil:=q i D;have hg:(ds++F).getD i []=c i:=by rw[hc,U0,U0,Ve Om,Ve Om]
  rw[hg] at m;obtain⟨z,hz,rfl⟩:=List.mem_map.1 m;refine⟨i,by omega,?_,z,hz,rfl⟩;obtain⟨j,hj,ej⟩:=V6 (show i∈qs from l▸V2 _ D);refine⟨(wt E++N E)[j]'Om,?_⟩;rw[←ej];exact List.mem_iff_getElem.2 ⟨j,by rw[List.length_zip];omega,by rw[List.getElem_zip]⟩)
 have A:qs.zip (wt E++N E)=O.zip (wt E)++((VY 0 (N E).length).map λi=>L.length+i).zip (N E):=by rw[l,List.zip_append Om]
 have J:aF (bJ ds.flatten) w (kq (O.zip (wt E)) 0 L++N E) w':=by
  refine⟨nT c (qs.zip (wt E++N E)) (kF qs r),?_⟩;rw[U4,qX,←t];refine H.congr λp hp=>?_;rw[t] at hp;unfold kC;rw[A,Co];by_cases k:p<L.length
  ·rw[Ve (by rw[qX];exact k),xi,VT,Cp (qs:=(VY 0 (N E).length).map λi=>L.length+i) (λW=>by obtain⟨i,_,e⟩:=List.mem_map.1 W;omega)];have e2:(L++(N E).map λ_=>aB.c [])[p]? =L[p]? :=Ve k;simp only[e2,U3 k];cases cr (O.zip (wt E)) p<;>rfl
  ·rw[Vh (by rw[qX];omega),qX,Cp (λW=>k (q p W))];have:=Cq L.length (N E) 0 (p-L.length);rw[show L.length+0+(p-L.length)=p by omega] at this;rw[this,U3 Om];rfl
 obtain⟨cs2,h2,g⟩:=J.conc;obtain⟨B,G,rfl,h3,h4⟩:=nb h2;refine⟨E,B.flatten::G,e1,⟨⟨_,B,K,h3,rfl⟩,h4⟩,?_⟩;have ef:(B.flatten::G).flatten=(B++G).flatten:=by rw[Vm,Vs]
 rw[ef];refine⟨g.os,g.tape,g.output,g.size,g.obj,λx hx=>?_,g.nd,λb m X=>g.far b m (by simpa using X)⟩;have:=g.lo x hx;simpa using this
theorem aa.pkZ{a:Func}(hf:P.funcs[f]? =some a)(h: ∀L,S L→∃(O:List Nat) (wt:ab→ah),aa P f args (L++rest) O (λE=>wt E++[]) v∧(cZ O&&O.all λi=>decide (i<L.length))=true∧∀E,(wt E).length=O.length∧([]:ah).length=0∧S' (kq (O.zip (wt E)) 0 L))(c:(a.name== "runtime.NumGoroutine")=false:=by kernel_rfl)(b:a.body.isSome=true:=by kernel_rfl):aa P f args (.p (nj S)::rest) [0] (λE=> .p (nj S')::[]) v:=aa.pkW (n:=0) (N:=λ_=>[]) (fN hf c b) h
theorem Mk: ∀cs:List av,(U1 cs.length).flatMap (λi=>bJ (cs.getD i []))=bJ cs.flatten:=by
 intro cs;have h:(U1 cs.length).map (λi=>cs.getD i [])=cs:=by
  apply List.ext_getElem (by simp);intro i b a;rw[List.getElem_map,List.getElem_range,U0,U3 a];rfl
 have a:(U1 cs.length).flatMap (λi=>bJ (cs.getD i []))=(((U1 cs.length).map λi=>cs.getD i []).map bJ).flatten:=by rw[List.flatMap_def,List.map_map];rfl
 rw[a,h];unfold bJ;rw[List.map_flatten]
theorem aa.unpk{a c:ah}{N:ab→ah}(h:aa P f args [pk λL=>L=a] [0] (λE=>(pk λL=>L=c)::N E) v):aa P f args a (U1 a.length) (λE=>c++N E) v:=by
 refine⟨h.ent,λw g j r=>?_⟩;refine(callsIn_wide (n:=6)).1 ((callsIn_wide.2 (h.out w [g.flatten] ⟨⟨a,g,rfl,j,rfl⟩,trivial⟩ (by simpa using r))).mono λe s q=>?_);obtain⟨E,i,k,l,m⟩:=q;obtain⟨d,i,rfl,⟨L,b,rfl,o,rfl⟩,p⟩:=cU l;refine⟨E,b++i,k,jJ o p,?_⟩;rw[iV j,Mk,Vs];simpa using m
theorem aa.outs{rd:ah}{O:List Nat}{b:ab→ah}(h:aa P f args rd O wt v)(p: ∀E ds,bk (wt E) ds→∃a,bk (b E) a∧a.flatten=ds.flatten):aa P f args rd O b v:=
 ⟨h.ent,λw c o m=>(callsIn_wide (n:=6)).1 ((callsIn_wide.2 (h.out w c o m)).mono λe q l=>by
  obtain⟨E,ds,d,g,i⟩:=l;obtain⟨a,j,k⟩:=p E ds g;exact⟨E,a,d,j,by rw[k];exact i⟩)⟩
theorem qY{S:ah→Prop}{L:ah}{ds:List av}(b:S L)(h:bk L ds): ∃a,bk [pk S] a∧a.flatten=ds.flatten:=⟨[ds.flatten],⟨⟨L,ds,b,h,rfl⟩,trivial⟩,by simp⟩
theorem aa.inW{x y:aB}{T T':ah→Prop}(h:aa P f args [x] [0] (λ_=>[y]) v)(m: ∀L,T L→∃j:Nat,L[j]? =some x∧T' (L.set j y)):aa P f args [pk T] [0] (λ_=>[pk T']) v:=by
 refine aa.pkW (n:=0) (N:=λ_=>[]) h.ent λL l=>?_;obtain⟨j,g,b⟩:=m L l;have a:=(List.getElem?_eq_some_iff.1 g).1;refine⟨[j],λ_=>[y],⟨h.ent,λw k c d=>?_⟩,by simp [cZ,a],λE=>⟨rfl,rfl,?_⟩⟩
 ·rw[VC] at c;have o:=iV c;have:=h.out w [k.getD j []] ⟨mw c g,trivial⟩ ⟨λy i=>d.obj y (by
   rw[Vm,Wd,VC] at i;exact List.mem_flatten.2 ⟨_,m8 Om,i⟩),by
   rw[Vm,Wd,VC];exact(p8 d.nd).1 j⟩
  simpa using this
 ·have e:kq ([j].zip [y]) 0 L=L.set j y:=by
   apply VF;intro p;rw[xi,VT,Vr];by_cases e:j=p
   ·subst e;simp [cr,a]
   ·rw[ALifn e];cases L[p]?<;>simp [cr,e]
  show T' (kq ([j].zip [y]) 0 L);rw[e];exact b
end
end
section
open Go.Shelf
def qZ(x:Nat):List Value:=[iN x]
def b8:Kd UZ Nat:=⟨qZ,[i6 0],74,3,0,1,λ_=>rfl,rfl,λ_=>rfl,dS.mk' Kr Kr rfl⟩
abbrev bL(v:Value)(xs:List Nat):aB:= .p (ao qZ ([i6 0]) 3 v xs)
def Cr(x:Bool):List Value:=[.bool x]
def jV:Kd UZ Bool:=⟨Cr,[.bool false],135,4,false,1,λ_=>rfl,rfl,λ_=>rfl,dS.mk' Kr Kr rfl⟩
abbrev eM(v:Value)(xs:List Bool):aB:= .p (ao Cr ([.bool false]) 4 v xs)
def iG(n:Nat)(bs:List Nat)(k:Nat):Nat:=(bs.take k).foldl (· / ·) n
def aE(n:Nat)(bs:List Nat)(k:Nat):List Nat:=(U1 k).map λi=>iG n bs i%bs.getD i 0
theorem Ml{n:Nat}{bs:List Nat}{k:Nat}(h:k<bs.length):iG n bs (k+1)=iG n bs k/bs.getD k 0:=by
 unfold iG;rw[VQ,U3 h,U0,U3 h,VR];rfl
theorem Mm(n:Nat)(bs:List Nat): ∀k,iG n bs k≤n:=by
 intro k;unfold iG;generalize bs.take k=l
 induction l generalizing n with
 | nil=>exact Vk _
 | cons b l ih=>exact Vj (ih (n/b)) (Wh _ _)
theorem Mn{n:Nat}{bs:List Nat}{k:Nat}:aE n bs (k+1)=aE n bs k++[iG n bs k%bs.getD k 0]:=by
 unfold aE;rw[Vu,VJ];rfl
theorem Mo(n:Nat)(bs:List Nat)(k:Nat):(aE n bs k).length=k:=by unfold aE;rw[U6,Vc]
def et(d a:List Nat):Nat→Nat
 | 0=>0
 | k+1=>et d a k*a.getD (a.length-1-k) 0+d.getD (a.length-1-k) 0
theorem Cs{e:BinOp}{f:Nat→Nat→Nat}(a b:Nat)(g:a<9223372036854775808)(i:b<9223372036854775808)(k:f a b<9223372036854775808)(h:bits e .i64 (a:Int) (b:Int)=IntKind.i64.wrap ((f (BitVec.ofInt 64 (a:Int)).toNat (BitVec.ofInt 64 (b:Int)).toNat:Nat):Int)):bits e .i64 (a:Int) (b:Int)=((f a b:Nat):Int):=by
 have d: ∀c:Nat,c<9223372036854775808→(BitVec.ofInt 64 (c:Int)).toNat=c:=by
  intro c j;rw[BitVec.ofInt_natCast,BitVec.toNat_ofNat];exact Nat.mod_eq_of_lt Om
 rw[h,d a g,d b i];exact IntWalk.i64_in _ Om
theorem Mq(a b:Nat)(c:a<9223372036854775808)(d:b<9223372036854775808):bits .and .i64 (a:Int) (b:Int)=((a&&& b:Nat):Int):=
 Cs (f:=λa b=>a&&& b) a b c d (Vx Nat.and_le_left c) (by show IntKind.i64.wrap ((BitVec.ofInt 64 (a:Int)&&& BitVec.ofInt 64 (b:Int)).toNat:Int)=_;rw[BitVec.toNat_and])
theorem Mr(a b:Nat)(c:a<9223372036854775808)(d:b<9223372036854775808):bits .xor .i64 (a:Int) (b:Int)=((a^^^b:Nat):Int):=
 Cs (f:=λa b=>a^^^b) a b c d (VP (n:=63) Om Om) (by show IntKind.i64.wrap ((BitVec.ofInt 64 (a:Int)^^^BitVec.ofInt 64 (b:Int)).toNat:Int)=_;rw[BitVec.toNat_xor])
section
variable {P:Program} {T:TypeId} {x y:Operand} {w:World}
theorem Cu(a b:Nat)(c:a<9223372036854775808)(d:b<9223372036854775808):(au .and T x y (.int .i64 (a:Int)) (.int .i64 (b:Int))).run P w= .ok (.int .i64 ((a&&& b:Nat):Int)) w:=by rw[←Mq a b c d];rfl
theorem Cv(a b:Nat)(c:a<9223372036854775808)(d:b<9223372036854775808):(au .xor T x y (.int .i64 (a:Int)) (.int .i64 (b:Int))).run P w= .ok (.int .i64 ((a^^^b:Nat):Int)) w:=by rw[←Mr a b c d];rfl
end
theorem dB{P:Program}{m:Sem Value}{w:World}{a b:Int}{k:IntKind}(h:m.run P w= .ok (.int k a) w)(e:a=b):m.run P w= .ok (.int k b) w:=e▸h
def bT(p0 p1 p2 p3:Nat):Nat:=p0*1048576+p1*65536+p2*64+p3
structure gS (R S B M C p0 p1 p2 p3:Nat):Prop where
 h0:p0<R+S
 h1:p1<B
 h2:p2<M
 h3:p3<C
section
variable {R S B M C p0 p1 p2 p3:Nat}
theorem gS.hold(h:gS R S B M C p0 p1 p2 p3):hold R S B M C p0 p1 p2 p3=true:=by
 have:=h.h0;have:=h.h1;have:=h.h2;have:=h.h3;exact tT.2 Om
theorem xk(a:gR R S B M C)(h:gS R S B M C p0 p1 p2 p3):bT p0 p1 p2 p3<8388608:=by
 have:=a.r8;have:=a.b16;have:=a.m10;have:=a.c64;have:=h.h0;have:=h.h1;have:=h.h2;have:=h.h3;unfold bT;omega
theorem tZ:dH (p0:Int) p1 p2 p3=(bT p0 p1 p2 p3:Int):=by unfold dH bT;omega
theorem Ms(a:gR R S B M C)(h:gS R S B M C p0 p1 p2 p3):bT p0 p1 p2 p3/1048576=p0∧bT p0 p1 p2 p3/65536%16=p1∧bT p0 p1 p2 p3/64%1024=p2∧bT p0 p1 p2 p3%64=p3:=by
 have:=a.r8;have:=a.b16;have:=a.m10;have:=a.c64;have:=h.h0;have:=h.h1;have:=h.h2;have:=h.h3;unfold bT;omega
theorem UO(a:cu R S B M C)(h:gS R S B M C p0 p1 p2 p3):aa UZ 147 #[.agg #[iN R,iN S,iN B,iN M,iN C],.agg #[iN p0,iN p1,iN p2,iN p3]] [] [] N0 (λ_=> .tuple #[i6 (bT p0 p1 p2 p3:Int),i6 0]):=by
 have:=Cm R S B M C a p0 p1 p2 p3;unfold qQ qR at this;rwa [h.hold,tZ] at this
theorem rh(a:cu R S B M C)(h:gS R S B M C p0 p1 p2 p3):aa UZ 68 #[.agg #[iN R,iN S,iN B,iN M,iN C],i6 (bT p0 p1 p2 p3:Int)] [] [] N0 (λ_=> .tuple #[.agg #[iN p0,iN p1,iN p2,iN p3],i6 0]):=by
 have:=Cn R S B M C a (bT p0 p1 p2 p3:Nat);have e:=Ms a.bd h;have b:((bT p0 p1 p2 p3:Nat):Int)/1048576=(p0:Int):=by omega
 have c:((bT p0 p1 p2 p3:Nat):Int)/65536%16=(p1:Int):=by omega
 have d:((bT p0 p1 p2 p3:Nat):Int)/64%1024=(p2:Int):=by omega
 have f:((bT p0 p1 p2 p3:Nat):Int)%64=(p3:Int):=by omega
 unfold qS qT qU qV qW at this;rw[b,c,d,f,h.hold,bg Om] at this;exact this
end
theorem pq{B r b:Nat}(h:B∈[1,2,4,8,16,32,64,128,256,512,1024])(d:b<B):b^^^(r&&& (B-1))<B:=by
 have c:r&&& (B-1)<B:=Vx VV Om;have a: ∀k,B=2^k→b^^^(r&&& (B-1))<B:=λk e=>by rw[e] at d c⊢;exact VP d c
 simp only[Wi,VU,or_false] at h;rcases h with h | h | h | h | h | h | h | h | h | h | h
 ·exact a 0 h
 ·exact a 1 h
 ·exact a 2 h
 ·exact a 3 h
 ·exact a 4 h
 ·exact a 5 h
 ·exact a 6 h
 ·exact a 7 h
 ·exact a 8 h
 ·exact a 9 h
 ·exact a 10 h
def gC(B r b:Nat):Nat:=b^^^(r&&& (B-1))
def lV(way R B M p:Nat):List Nat:=match way with
 | 0=>aE p [M,B,R] 3
 | 1=>aE p [B,M,R] 3
 | _=>aE p [R,B,M] 3
def aK(way R B M p:Nat):Nat:=match way with
 | 0=>(lV way R B M p).getD 2 0
 | 1=>(lV way R B M p).getD 2 0
 | _=>(lV way R B M p).getD 0 0
def fw(way R B M p:Nat):Nat:=match way with
 | 0=>(lV way R B M p).getD 0 0
 | 1=>(lV way R B M p).getD 1 0
 | _=>(lV way R B M p).getD 2 0
def fx(way R B M p:Nat):Nat:=match way with
 | 0=>(lV way R B M p).getD 1 0
 | 1=>(lV way R B M p).getD 0 0
 | 2=>(lV way R B M p).getD 1 0
 | _=>gC B (fw way R B M p) ((lV way R B M p).getD 1 0)
def lW(way R B M r b w:Nat):Nat:=match way with
 | 0=>et [w,b,r] [M,B,R] 3
 | 1=>et [b,w,r] [B,M,R] 3
 | 2=>et [r,b,w] [R,B,M] 3
 | _=>et [r,gC B w b,w] [R,B,M] 3
def gD(way R B M p:Nat):Nat:=bT (aK way R B M p) (fx way R B M p) (fw way R B M p) 0/64
theorem Mt(x y z a b c:Nat):et [x,y,z] [a,b,c] 3=((0*c+z)*b+y)*a+x:=rfl
theorem ri{x y z a b c:Nat}(g:x<a)(h:y<b)(f:z<c):et [x,y,z] [a,b,c] 3<c*b*a:=by
 rw[Mt,Wn,VT];have d:z*b+y<c*b:=by
  have:(z+1)*b≤c*b:=Va b f;rw[Vq] at this;omega
 have e:(z*b+y+1)*a≤c*b*a:=Va a d;rw[Vq] at e;omega
section
variable {R S B M C way p:Nat}
theorem ow(e:cu R S B M C)(hp:p<R*B*M):gS R S B M C (aK way R B M p) (fx way R B M p) (fw way R B M p) 0:=by
 have b:=e.bd;have c:=b.r1;have a:=b.b1;have d:=b.m1;have g:=b.c1;have h:aK way R B M p<R:=by
  match way with
  | 0=>exact U8 _ c
  | 1=>exact U8 _ c
  | w+2=>exact U8 p c
 have f:fw way R B M p<M:=by
  match way with
  | 0=>exact U8 p d
  | 1=>exact U8 _ d
  | w+2=>exact U8 _ d
 refine⟨by omega,?_,f,by omega⟩
 match way with
 | 0=>exact U8 _ a
 | 1=>exact U8 _ a
 | 2=>exact U8 _ a
 | w+3=>exact pq e.pow (U8 (p/R) a)
theorem rj(b:cu R S B M C):aK way R B M p<R:=by
 have a:=b.bd.r1
 match way with
 | 0=>exact U8 _ a
 | 1=>exact U8 _ a
 | w+2=>exact U8 p a
theorem Mu(a:cu R S B M C)(hp:p<R*B*M):gD way R B M p<131072:=by
 have:=xk a.bd (ow (way:=way) a hp);unfold gD;omega
theorem Mv(d a:List Nat): ∀j k,j≤k→k≤3→a.length=3→(∀i,i<3→1≤a.getD i 0)→et d a j≤et d a k:=by
 intro j k b
 induction b with
 | refl=>intros;exact Vk _
 | @step k h ih=>
  intro f e c;refine Vj (ih Om e c) ?_;show et d a k≤et d a k*a.getD (a.length-1-k) 0+_;have:=VI (et d a k) (c (a.length-1-k) Om);omega
theorem ua{x y z a b c:Nat}(d:x<a)(e:y<b)(f:z<c)(l:c*b*a≤1000000)(k:Nat)(g:k≤[a,b,c].length):et [x,y,z] [a,b,c] k≤1000000:=by
 have h:=ri d e f;refine Vj (Mv _ _ k 3 g (Vk _) rfl λi j=>?_) Om
 match i with
 | 0=>exact Vx (Vz _) d
 | 1=>exact Vx (Vz _) e
 | 2=>exact Vx (Vz _) f
theorem xl:gD way R B M p=aK way R B M p*16384+fx way R B M p*1024+fw way R B M p:=by unfold gD bT;omega
end
end
section
open Go.Shelf
theorem xm(r s b m c way:Int):aa UZ 134 #[.agg #[i6 r,i6 s,i6 b,i6 m,i6 c],i6 way] [] [] N0 (λ_=> .bool (((iF r s b m c)&&(decide (0≤way)))&&(decide (way<4)))):=by
 exact fG Tryz.func134 λw d=>ra (λa=>[(2,pt (B0 a) 0),(4,.bool false)]) (λa=>[ob (B0 a) #[i6 r,i6 s,i6 b,i6 m,i6 c] 23]) λa=>r0 [(0,.l 0),(1,.c [] [] (Ck r s b m c))] [(4,.bool (((iF r s b m c)&&(decide (0≤way)))&&(decide (way<4))))] [4] (ak (.bool (((iF r s b m c)&&(decide (0≤way)))&&(decide (way<4)))) ab.zero a7 [] [] [])
theorem mT(R S B M C:Nat)(a:cu R S B M C)(way:Nat)(b:way<4):aa UZ 134 #[.agg #[iN R,iN S,iN B,iN M,iN C],iN way] [] [] N0 (λ_=> .bool true):=by
 have h:=xm R S B M C way;rwa [a.ok,cS Om,cS Om] at h
theorem ub(v:Value)(n:Nat)(c:List Nat)(z:n≤1000000)(y:c.length≤1000)(o: ∀k,k<c.length→1≤c.getD k 0∧c.getD k 0≤1000000):aa UZ 146 #[iN n,v] [.p (aJ qZ v c)] [] (λE=>[bL (E.val 0) (aE n c c.length)]) (λE=>(E.val 0)):=by
 refine fO Tryz.func146 0 rfl λi f=>fG Tryz.func146 λw u=>r0 [] [(4,.slice none 0 0)] [] (r0 [] [(5,.slice none 0 0)] [] (r0 [(1,ey f.1 0)] [(8,v),(9,iN c.length),(10,i6 0)] [] (cz b8 ?_)));refine mF (λk _=>k≤c.length) (λk e=>[(0,iN (iG n c k)),(10,iN k),(5,e)]) (λk e L=>L.set 1 (bL e (aE n c k))) (λk _=>c.length-k) 0 (.slice none 0 0) Om Kr Kr (λk e s=>?_);have x:=Mm n c k;have r:=Mo n c k;refine r0 [] [(11,.bool (decide ((k:Int)<(c.length:Int))))] [] ?_;refine b4 (k:Int) (c.length:Int) (λj h=>?_) λj h=>?_
 ·refine r0 [(0,e7 f.1 0 k 1),(1,iz b8 f.1 0 k 0)] [(7,iN (c.getD k 0))] [] ?_;have q:=o k Om;exact rr (λ_=>[(3,.t (tb (a:=iN (iG n c k)) (b:=iN (c.getD k 0)) λ_ _ _ _=>ni (a:=iG n c k) (d:=(c.getD k 0)) Om)),(4,.m (bs 2 1)),(5,eX b8 (e) (aE n c k) 1 2 ([(iG n c k)%(c.getD k 0)]))]) (λg=>[(5,(g 5).val 0)]) [5] (λg L=>L.set 1 (bL ((g 5).val 0) ((aE n c k)++([(iG n c k)%(c.getD k 0)])))++[ob (B4 g) #[iN ((iG n c k)%(c.getD k 0))] 3]) λg=>r0 [(2,.t (tb (a:=iN (iG n c k)) (b:=iN (c.getD k 0)) λ_ _ _ _=>n1 (a:=iG n c k) (d:=(c.getD k 0)) Om Om))] [(0,iN ((iG n c k)/(c.getD k 0)))] [0] (r0 [(0,ad k 1)] [(10,iN (k+1))] [10] (kO (k+1) ((g 5).val 0) Om Om (by rw[Ml Om];kernel_rfl) [0,1] (by rw[Mn];kernel_rfl)))
 obtain rfl:c.length=k:=by omega
 refine kP ?_;exact r0 [] [(4,e)] [4] (lf (.l [] [] [e]) [1] [(0,0)] [])
theorem uc(v u:Value)(d a:List Nat)(q:a.length≤1000)(o:d.length=a.length)(j: ∀k,k≤a.length→et d a k≤1000000):aa UZ 145 #[v,u] [.p (aJ qZ v d),.p (aJ qZ u a)] [] N0 (λ_=>iN (et d a a.length)):=by
 refine fO Tryz.func145 0 rfl λg c=>fO Tryz.func145 1 rfl λh b=>fG Tryz.func145 λw n=>r0 [] [(4,i6 0)] [] (r0 [] [(5,i6 0)] [] (r0 [(1,ey b.1 1),(2,sI (a.length:Int) (1) Om)] [(6,i6 ((a.length:Int)-1))] [] ?_));refine lq (λk=>k≤a.length) (λk=>[(5,iN (et d a k)),(6,i6 (((a.length:Nat):Int)-1-((k:Nat):Int)))]) (λ_ L=>L) (λk=>a.length-k) 0 Om (by rw[show((a.length:Nat):Int)-1-((0:Nat):Int)=(a.length:Int)-1 by omega];kernel_rfl) Kr (λk m=>?_);refine r0 [] [(11,.bool (decide (0≤(((a.length:Nat):Int)-1-((k:Nat):Int)))))] [] ?_;refine n7 0 (((a.length:Nat):Int)-1-((k:Nat):Int)) (λi e=>?_) λi e=>?_
 ·have l:=j (k+1) Om;have f:et d a (k+1)=et d a k*a.getD (a.length-1-k) 0+d.getD (a.length-1-k) 0:=rfl;exact r0 [(2,.t (tk (show i6 (((a.length:Nat):Int)-1-((k:Nat):Int))=iN (a.length-1-k) from ALca (Value.int .i64) Om))),(3,e7 b.1 1 (a.length-1-k) 1),(4,iz b8 b.1 1 (a.length-1-k) 0),(5,ml (et d a k) (a.getD (a.length-1-k) 0)),(7,.t (tk (show i6 (((a.length:Nat):Int)-1-((k:Nat):Int))=iN (a.length-1-k) from ALca (Value.int .i64) Om))),(8,e7 c.1 0 (a.length-1-k) 1),(9,iz b8 c.1 0 (a.length-1-k) 0),(10,ad ((et d a k)*(a.getD (a.length-1-k) 0)) (d.getD (a.length-1-k) 0))] [(5,iN (((et d a k)*(a.getD (a.length-1-k) 0))+(d.getD (a.length-1-k) 0)))] [5] (r0 [(1,sI (((a.length:Nat):Int)-1-((k:Nat):Int)) (1) Om)] [(6,i6 ((((a.length:Nat):Int)-1-((k:Nat):Int))-1))] [6] (le (k+1) Om Om (by rw[show(((a.length:Nat):Int)-1-((k+1:Nat):Int))=((a.length:Nat):Int)-1-((k:Nat):Int)-1 by omega];kernel_rfl) [0,1] Kr))
 obtain rfl:k=a.length:=by omega
 exact lx (r0 [] [(4,iN (et d a a.length))] [4] (lf ab.zero [] [(0,0),(1,1)] []))
end
section
open Go.Shelf
theorem Mw(R S B M C:Nat)(f:cu R S B M C)(p:Nat)(hp:p<R*B*M):aa UZ 122 #[.agg #[iN R,iN S,iN B,iN M,iN C],i6 0,iN p] [] [] N0 (λ_=> .tuple #[iN (gD 0 R B M p),i6 0]):=by
 have e:=f.bd;have A:=e.rbm;have D:=e.r8;have n:=e.b16;have o:=e.b1;have v:=e.m10;have x:=e.m1;have y:=e.r1;have q:=e.c1;have r:(aE p [M,B,R] [M,B,R].length).length=3:=rfl;refine fG Tryz.func122 λw z=>ra (λi=>[(3,pt (B0 i) 0),(6,i6 0),(7,i6 0)]) (λi=>[ob (B0 i) #[iN R,iN S,iN B,iN M,iN C] 23]) λi=>r0 [(0,.m (ls 0 ([iN R,iN S,iN B,iN M,iN C]))),(2,.c [] [] (mT R S B M C f 0 Om)),(10,.m (ls 0 ([iN R,iN S,iN B,iN M,iN C]))),(11,.c [] [] (lU R S B M C f))] [(27,.bool ((decide ((p:Int)<0))||(decide ((((R*B)*M:Nat):Int)≤(p:Int)))))] [] ?_;have j:((decide ((p:Int)<0))||(decide ((((R*B)*M:Nat):Int)≤(p:Int))))=false:=(by rw[U9];exact⟨bg Om,bg Om⟩);exact cF ((decide ((p:Int)<0))||(decide ((((R*B)*M:Nat):Int)≤(p:Int)))) j (ra (λg=>[(8,pt (B0 g) 0)]) (λg=>[ob (B0 g) #[i6 0,i6 0,i6 0,i6 0] 46]) λg=>r0 [] [(28,i6 0)] [] (rT [] 50 (rr (λd=>[(2,.l 0),(4,.l 0),(6,.l 0),(7,gA b8 2 3 [M,B,R]),(8,.c [2] [3] (aa.at (rd':=[bL (.slice (some ⟨(d 7).y 0,0,none⟩) 3 3) ([M,B,R])]) (ub (.slice (some ⟨(d 7).y 0,0,none⟩) 3 3) p ([M,B,R]) Om (by simp) (λk u=>by rcases k with _ | _ | _ | k<;>first | exact⟨by first | assumption,by simp;omega⟩ | (simp at u;omega))) (bN (λ_ h=>ao.sq h) (λ_ h=>h))))]) (λd=>[(9,((d 8).val 0))]) [] (λd L=>L++[bL (.slice (some ⟨(d 7).y 0,0,none⟩) 3 3) ([M,B,R]),bL ((d 8).val 0) (aE p ([M,B,R]) ([M,B,R]).length)]) λd=>rs [(1,cp b8 ((d 8).val 0) (aE p ([M,B,R]) ([M,B,R]).length) 3 0),(2,eL b8 ((d 8).val 0) (aE p ([M,B,R]) ([M,B,R]).length) 3 0 0),(4,cp b8 ((d 8).val 0) (aE p ([M,B,R]) ([M,B,R]).length) 3 1),(5,eL b8 ((d 8).val 0) (aE p ([M,B,R]) ([M,B,R]).length) 3 1 0),(7,cp b8 ((d 8).val 0) (aE p ([M,B,R]) ([M,B,R]).length) 3 2),(8,eL b8 ((d 8).val 0) (aE p ([M,B,R]) ([M,B,R]).length) 3 2 0),(10,.s 1),(12,.s 1),(14,.s 1)] 1 (ob (B0 g) #[iN ((aE p ([M,B,R]) ([M,B,R]).length).getD 2 0),iN ((aE p ([M,B,R]) ([M,B,R]).length).getD 1 0),iN ((aE p ([M,B,R]) ([M,B,R]).length).getD 0 0),i6 0] 46) (rF [] 97 (r0 [(0,.l 0),(1,.l 1),(2,.c [] [] (UO f (ow (way:=0) f hp)))] [(12,iN (bT ((aE p ([M,B,R]) ([M,B,R]).length).getD 2 0) ((aE p ([M,B,R]) ([M,B,R]).length).getD 1 0) ((aE p ([M,B,R]) ([M,B,R]).length).getD 0 0) 0)),(13,i6 0)] [] (r0 [(1,.t (tb (a:=iN (bT ((aE p ([M,B,R]) ([M,B,R]).length).getD 2 0) ((aE p ([M,B,R]) ([M,B,R]).length).getD 1 0) ((aE p ([M,B,R]) ([M,B,R]).length).getD 0 0) 0)) (b:=u6 6) λ_ _ _ _=>hP 6 Dc))] [(6,i6 (((bT ((aE p ([M,B,R]) ([M,B,R]).length).getD 2 0) ((aE p ([M,B,R]) ([M,B,R]).length).getD 1 0) ((aE p ([M,B,R]) ([M,B,R]).length).getD 0 0) 0:Nat):Int)/64)),(7,i6 0)] [6,7] (ak (.tuple #[i6 (((bT ((aE p ([M,B,R]) ([M,B,R]).length).getD 2 0) ((aE p ([M,B,R]) ([M,B,R]).length).getD 1 0) ((aE p ([M,B,R]) ([M,B,R]).length).getD 0 0) 0:Nat):Int)/64),i6 0]) ab.zero a7 [] [] [])))))))
theorem Mx(R S B M C:Nat)(f:cu R S B M C)(p:Nat)(hp:p<R*B*M):aa UZ 122 #[.agg #[iN R,iN S,iN B,iN M,iN C],i6 1,iN p] [] [] N0 (λ_=> .tuple #[iN (gD 1 R B M p),i6 0]):=by
 have e:=f.bd;have A:=e.rbm;have D:=e.r8;have n:=e.b16;have o:=e.b1;have v:=e.m10;have x:=e.m1;have y:=e.r1;have q:=e.c1;have r:(aE p [B,M,R] [B,M,R].length).length=3:=rfl;refine fG Tryz.func122 λw z=>ra (λi=>[(3,pt (B0 i) 0),(6,i6 0),(7,i6 0)]) (λi=>[ob (B0 i) #[iN R,iN S,iN B,iN M,iN C] 23]) λi=>r0 [(0,.m (ls 0 ([iN R,iN S,iN B,iN M,iN C]))),(2,.c [] [] (mT R S B M C f 1 Om)),(10,.m (ls 0 ([iN R,iN S,iN B,iN M,iN C]))),(11,.c [] [] (lU R S B M C f))] [(27,.bool ((decide ((p:Int)<0))||(decide ((((R*B)*M:Nat):Int)≤(p:Int)))))] [] ?_;have j:((decide ((p:Int)<0))||(decide ((((R*B)*M:Nat):Int)≤(p:Int))))=false:=(by rw[U9];exact⟨bg Om,bg Om⟩);exact cF ((decide ((p:Int)<0))||(decide ((((R*B)*M:Nat):Int)≤(p:Int)))) j (ra (λg=>[(8,pt (B0 g) 0)]) (λg=>[ob (B0 g) #[i6 0,i6 0,i6 0,i6 0] 46]) λg=>r0 [] [(28,i6 1)] [] (rF [] 50 (rT [] 73 (rr (λd=>[(2,.l 0),(4,.l 0),(6,.l 0),(7,gA b8 2 3 [B,M,R]),(8,.c [2] [3] (aa.at (rd':=[bL (.slice (some ⟨(d 7).y 0,0,none⟩) 3 3) ([B,M,R])]) (ub (.slice (some ⟨(d 7).y 0,0,none⟩) 3 3) p ([B,M,R]) Om (by simp) (λk u=>by rcases k with _ | _ | _ | k<;>first | exact⟨by first | assumption,by simp;omega⟩ | (simp at u;omega))) (bN (λ_ h=>ao.sq h) (λ_ h=>h))))]) (λd=>[(10,((d 8).val 0))]) [] (λd L=>L++[bL (.slice (some ⟨(d 7).y 0,0,none⟩) 3 3) ([B,M,R]),bL ((d 8).val 0) (aE p ([B,M,R]) ([B,M,R]).length)]) λd=>rs [(1,cp b8 ((d 8).val 0) (aE p ([B,M,R]) ([B,M,R]).length) 3 0),(2,eL b8 ((d 8).val 0) (aE p ([B,M,R]) ([B,M,R]).length) 3 0 0),(4,cp b8 ((d 8).val 0) (aE p ([B,M,R]) ([B,M,R]).length) 3 1),(5,eL b8 ((d 8).val 0) (aE p ([B,M,R]) ([B,M,R]).length) 3 1 0),(7,cp b8 ((d 8).val 0) (aE p ([B,M,R]) ([B,M,R]).length) 3 2),(8,eL b8 ((d 8).val 0) (aE p ([B,M,R]) ([B,M,R]).length) 3 2 0),(10,.s 1),(12,.s 1),(14,.s 1)] 1 (ob (B0 g) #[iN ((aE p ([B,M,R]) ([B,M,R]).length).getD 2 0),iN ((aE p ([B,M,R]) ([B,M,R]).length).getD 0 0),iN ((aE p ([B,M,R]) ([B,M,R]).length).getD 1 0),i6 0] 46) (rF [] 97 (r0 [(0,.l 0),(1,.l 1),(2,.c [] [] (UO f (ow (way:=1) f hp)))] [(12,iN (bT ((aE p ([B,M,R]) ([B,M,R]).length).getD 2 0) ((aE p ([B,M,R]) ([B,M,R]).length).getD 0 0) ((aE p ([B,M,R]) ([B,M,R]).length).getD 1 0) 0)),(13,i6 0)] [] (r0 [(1,.t (tb (a:=iN (bT ((aE p ([B,M,R]) ([B,M,R]).length).getD 2 0) ((aE p ([B,M,R]) ([B,M,R]).length).getD 0 0) ((aE p ([B,M,R]) ([B,M,R]).length).getD 1 0) 0)) (b:=u6 6) λ_ _ _ _=>hP 6 Dc))] [(6,i6 (((bT ((aE p ([B,M,R]) ([B,M,R]).length).getD 2 0) ((aE p ([B,M,R]) ([B,M,R]).length).getD 0 0) ((aE p ([B,M,R]) ([B,M,R]).length).getD 1 0) 0:Nat):Int)/64)),(7,i6 0)] [6,7] (ak (.tuple #[i6 (((bT ((aE p ([B,M,R]) ([B,M,R]).length).getD 2 0) ((aE p ([B,M,R]) ([B,M,R]).length).getD 0 0) ((aE p ([B,M,R]) ([B,M,R]).length).getD 1 0) 0:Nat):Int)/64),i6 0]) ab.zero a7 [] [] []))))))))
theorem My(R S B M C:Nat)(f:cu R S B M C)(p:Nat)(hp:p<R*B*M):aa UZ 122 #[.agg #[iN R,iN S,iN B,iN M,iN C],i6 2,iN p] [] [] N0 (λ_=> .tuple #[iN (gD 2 R B M p),i6 0]):=by
 have e:=f.bd;have A:=e.rbm;have D:=e.r8;have n:=e.b16;have o:=e.b1;have v:=e.m10;have x:=e.m1;have y:=e.r1;have q:=e.c1;have r:(aE p [R,B,M] [R,B,M].length).length=3:=rfl;refine fG Tryz.func122 λw z=>ra (λi=>[(3,pt (B0 i) 0),(6,i6 0),(7,i6 0)]) (λi=>[ob (B0 i) #[iN R,iN S,iN B,iN M,iN C] 23]) λi=>r0 [(0,.m (ls 0 ([iN R,iN S,iN B,iN M,iN C]))),(2,.c [] [] (mT R S B M C f 2 Om)),(10,.m (ls 0 ([iN R,iN S,iN B,iN M,iN C]))),(11,.c [] [] (lU R S B M C f))] [(27,.bool ((decide ((p:Int)<0))||(decide ((((R*B)*M:Nat):Int)≤(p:Int)))))] [] ?_;have j:((decide ((p:Int)<0))||(decide ((((R*B)*M:Nat):Int)≤(p:Int))))=false:=(by rw[U9];exact⟨bg Om,bg Om⟩);exact cF ((decide ((p:Int)<0))||(decide ((((R*B)*M:Nat):Int)≤(p:Int)))) j (ra (λg=>[(8,pt (B0 g) 0)]) (λg=>[ob (B0 g) #[i6 0,i6 0,i6 0,i6 0] 46]) λg=>r0 [] [(28,i6 2)] [] (rF [] 50 (rF [] 73 (rr (λd=>[(2,.l 0),(4,.l 0),(6,.l 0),(7,gA b8 2 3 [R,B,M]),(8,.c [2] [3] (aa.at (rd':=[bL (.slice (some ⟨(d 7).y 0,0,none⟩) 3 3) ([R,B,M])]) (ub (.slice (some ⟨(d 7).y 0,0,none⟩) 3 3) p ([R,B,M]) Om (by simp) (λk u=>by rcases k with _ | _ | _ | k<;>first | exact⟨by first | assumption,by simp;omega⟩ | (simp at u;omega))) (bN (λ_ h=>ao.sq h) (λ_ h=>h))))]) (λd=>[(11,((d 8).val 0))]) [] (λd L=>L++[bL (.slice (some ⟨(d 7).y 0,0,none⟩) 3 3) ([R,B,M]),bL ((d 8).val 0) (aE p ([R,B,M]) ([R,B,M]).length)]) λd=>rs [(1,cp b8 ((d 8).val 0) (aE p ([R,B,M]) ([R,B,M]).length) 3 0),(2,eL b8 ((d 8).val 0) (aE p ([R,B,M]) ([R,B,M]).length) 3 0 0),(4,cp b8 ((d 8).val 0) (aE p ([R,B,M]) ([R,B,M]).length) 3 1),(5,eL b8 ((d 8).val 0) (aE p ([R,B,M]) ([R,B,M]).length) 3 1 0),(7,cp b8 ((d 8).val 0) (aE p ([R,B,M]) ([R,B,M]).length) 3 2),(8,eL b8 ((d 8).val 0) (aE p ([R,B,M]) ([R,B,M]).length) 3 2 0),(10,.s 1),(12,.s 1),(14,.s 1)] 1 (ob (B0 g) #[iN ((aE p ([R,B,M]) ([R,B,M]).length).getD 0 0),iN ((aE p ([R,B,M]) ([R,B,M]).length).getD 1 0),iN ((aE p ([R,B,M]) ([R,B,M]).length).getD 2 0),i6 0] 46) (rF [] 97 (r0 [(0,.l 0),(1,.l 1),(2,.c [] [] (UO f (ow (way:=2) f hp)))] [(12,iN (bT ((aE p ([R,B,M]) ([R,B,M]).length).getD 0 0) ((aE p ([R,B,M]) ([R,B,M]).length).getD 1 0) ((aE p ([R,B,M]) ([R,B,M]).length).getD 2 0) 0)),(13,i6 0)] [] (r0 [(1,.t (tb (a:=iN (bT ((aE p ([R,B,M]) ([R,B,M]).length).getD 0 0) ((aE p ([R,B,M]) ([R,B,M]).length).getD 1 0) ((aE p ([R,B,M]) ([R,B,M]).length).getD 2 0) 0)) (b:=u6 6) λ_ _ _ _=>hP 6 Dc))] [(6,i6 (((bT ((aE p ([R,B,M]) ([R,B,M]).length).getD 0 0) ((aE p ([R,B,M]) ([R,B,M]).length).getD 1 0) ((aE p ([R,B,M]) ([R,B,M]).length).getD 2 0) 0:Nat):Int)/64)),(7,i6 0)] [6,7] (ak (.tuple #[i6 (((bT ((aE p ([R,B,M]) ([R,B,M]).length).getD 0 0) ((aE p ([R,B,M]) ([R,B,M]).length).getD 1 0) ((aE p ([R,B,M]) ([R,B,M]).length).getD 2 0) 0:Nat):Int)/64),i6 0]) ab.zero a7 [] [] []))))))))
theorem Mz(R S B M C:Nat)(g:cu R S B M C)(p:Nat)(hp:p<R*B*M):aa UZ 122 #[.agg #[iN R,iN S,iN B,iN M,iN C],i6 3,iN p] [] [] N0 (λ_=> .tuple #[iN (gD 3 R B M p),i6 0]):=by
 have e:=g.bd;have A:=e.rbm;have D:=e.r8;have q:=e.b16;have j:=e.b1;have x:=e.m10;have n:=e.m1;have y:=e.r1;have r:=e.c1;have u:(aE p [R,B,M] [R,B,M].length).length=3:=rfl;refine fG Tryz.func122 λw z=>ra (λi=>[(3,pt (B0 i) 0),(6,i6 0),(7,i6 0)]) (λi=>[ob (B0 i) #[iN R,iN S,iN B,iN M,iN C] 23]) λi=>r0 [(0,.m (ls 0 ([iN R,iN S,iN B,iN M,iN C]))),(2,.c [] [] (mT R S B M C g 3 Om)),(10,.m (ls 0 ([iN R,iN S,iN B,iN M,iN C]))),(11,.c [] [] (lU R S B M C g))] [(27,.bool ((decide ((p:Int)<0))||(decide ((((R*B)*M:Nat):Int)≤(p:Int)))))] [] ?_;have o:((decide ((p:Int)<0))||(decide ((((R*B)*M:Nat):Int)≤(p:Int))))=false:=(by rw[U9];exact⟨bg Om,bg Om⟩);refine cF ((decide ((p:Int)<0))||(decide ((((R*B)*M:Nat):Int)≤(p:Int)))) o (ra (λf=>[(8,pt (B0 f) 0)]) (λf=>[ob (B0 f) #[i6 0,i6 0,i6 0,i6 0] 46]) λf=>r0 [] [(28,i6 3)] [] (rF [] 50 (rF [] 73 (rr (λd=>[(2,.l 0),(4,.l 0),(6,.l 0),(7,gA b8 2 3 [R,B,M]),(8,.c [2] [3] (aa.at (rd':=[bL (.slice (some ⟨(d 7).y 0,0,none⟩) 3 3) ([R,B,M])]) (ub (.slice (some ⟨(d 7).y 0,0,none⟩) 3 3) p ([R,B,M]) Om (by simp) (λk v=>by rcases k with _ | _ | _ | k<;>first | exact⟨by first | assumption,by simp;omega⟩ | (simp at v;omega))) (bN (λ_ h=>ao.sq h) (λ_ h=>h))))]) (λd=>[(11,((d 8).val 0))]) [] (λd L=>L++[bL (.slice (some ⟨(d 7).y 0,0,none⟩) 3 3) ([R,B,M]),bL ((d 8).val 0) (aE p ([R,B,M]) ([R,B,M]).length)]) λd=>rs [(1,cp b8 ((d 8).val 0) (aE p ([R,B,M]) ([R,B,M]).length) 3 0),(2,eL b8 ((d 8).val 0) (aE p ([R,B,M]) ([R,B,M]).length) 3 0 0),(4,cp b8 ((d 8).val 0) (aE p ([R,B,M]) ([R,B,M]).length) 3 1),(5,eL b8 ((d 8).val 0) (aE p ([R,B,M]) ([R,B,M]).length) 3 1 0),(7,cp b8 ((d 8).val 0) (aE p ([R,B,M]) ([R,B,M]).length) 3 2),(8,eL b8 ((d 8).val 0) (aE p ([R,B,M]) ([R,B,M]).length) 3 2 0),(10,.s 1),(12,.s 1),(14,.s 1)] 1 (ob (B0 f) #[iN ((aE p ([R,B,M]) ([R,B,M]).length).getD 0 0),iN ((aE p ([R,B,M]) ([R,B,M]).length).getD 1 0),iN ((aE p ([R,B,M]) ([R,B,M]).length).getD 2 0),i6 0] 46) (rT [] 97 ?_)))));have i:(aE p [R,B,M] [R,B,M].length).getD 2 0<M:=U8 _ n;have F:(aE p [R,B,M] [R,B,M].length).getD 1 0<B:=U8 _ j;have G:(aE p [R,B,M] 3).getD 2 0&&& (B-1)≤B-1:=VV;exact rs [(1,.l 1),(3,.l 1),(5,.l 0),(6,.t (tb (a:=iN B) (b:=i6 1) λ_ _ _ _=>kQ (a:=B) (b:=1) Om Om)),(7,.t (tv (au .and 3 (.tmp 101) (.tmp 104) (iN ((aE p ([R,B,M]) ([R,B,M]).length).getD 2 0)) (iN (B-1))) (λ_=>Cu _ (B-1) Om Om))),(8,.t (tv (au .xor 3 (.tmp 99) (.tmp 105) (iN ((aE p ([R,B,M]) ([R,B,M]).length).getD 1 0)) (iN (((aE p [R,B,M] 3).getD 2 0)&&& (B-1)))) (λ_=>Cv _ _ Om Om))),(10,.s 1)] 1 (ob (B0 f) #[iN ((aE p ([R,B,M]) ([R,B,M]).length).getD 0 0),iN (gC B ((aE p [R,B,M] 3).getD 2 0) ((aE p [R,B,M] 3).getD 1 0)),iN ((aE p ([R,B,M]) ([R,B,M]).length).getD 2 0),i6 0] 46) (r0 [(0,.l 0),(1,.l 1),(2,.c [] [] (UO g (ow (way:=3) g hp)))] [(12,iN (bT ((aE p ([R,B,M]) ([R,B,M]).length).getD 0 0) (gC B ((aE p [R,B,M] 3).getD 2 0) ((aE p [R,B,M] 3).getD 1 0)) ((aE p ([R,B,M]) ([R,B,M]).length).getD 2 0) 0)),(13,i6 0)] [] (r0 [(1,.t (tb (a:=iN (bT ((aE p ([R,B,M]) ([R,B,M]).length).getD 0 0) (gC B ((aE p [R,B,M] 3).getD 2 0) ((aE p [R,B,M] 3).getD 1 0)) ((aE p ([R,B,M]) ([R,B,M]).length).getD 2 0) 0)) (b:=u6 6) λ_ _ _ _=>hP 6 Dc))] [(6,i6 (((bT ((aE p ([R,B,M]) ([R,B,M]).length).getD 0 0) (gC B ((aE p [R,B,M] 3).getD 2 0) ((aE p [R,B,M] 3).getD 1 0)) ((aE p ([R,B,M]) ([R,B,M]).length).getD 2 0) 0:Nat):Int)/64)),(7,i6 0)] [6,7] (ak (.tuple #[i6 (((bT ((aE p ([R,B,M]) ([R,B,M]).length).getD 0 0) (gC B ((aE p [R,B,M] 3).getD 2 0) ((aE p [R,B,M] 3).getD 1 0)) ((aE p ([R,B,M]) ([R,B,M]).length).getD 2 0) 0:Nat):Int)/64),i6 0]) ab.zero a7 [] [] [])))
theorem Cw(R S B M C:Nat)(a:cu R S B M C)(way:Nat)(b:way<4)(p:Nat)(hp:p<R*B*M):aa UZ 122 #[.agg #[iN R,iN S,iN B,iN M,iN C],iN way,iN p] [] [] N0 (λ_=> .tuple #[iN (gD way R B M p),i6 0]):=by
 match way with
 | 0=>exact Mw R S B M C a p hp
 | 1=>exact Mx R S B M C a p hp
 | 2=>exact My R S B M C a p hp
 | 3=>exact Mz R S B M C a p hp
 | w+4=>exact absurd b Om
theorem MA(R S B M C:Nat)(i:cu R S B M C)(a d e:Nat)(h0:a<R)(h1:d<B)(h2:e<M):aa UZ 121 #[.agg #[iN R,iN S,iN B,iN M,iN C],i6 0,iN (a*16384+d*1024+e)] [] [] N0 (λ_=> .tuple #[iN (lW 0 R B M a d e),i6 0]):=by
 have g:=i.bd;have D:=g.r8;have q:=g.b16;have u:=g.m10;have r:=g.c1;have x:=g.rbm;have z:M*B*R=R*B*M:=by rw[Vf (R*B),Vf R,←Vg]
 have A:R*M*B=R*B*M:=by rw[Vg,Vf M,←Vg]
 have v:gC B e d<B:=pq i.pow h1;have n:gS R S B M C a d e 0:=⟨by omega,h1,h2,by omega⟩;refine fG Tryz.func121 λw y=>ra (λj=>[(3,pt (B0 j) 0),(6,i6 0),(7,i6 0)]) (λj=>[ob (B0 j) #[iN R,iN S,iN B,iN M,iN C] 23]) λj=>r0 [(0,.m (ls 0 ([iN R,iN S,iN B,iN M,iN C]))),(2,.c [] [] (mT R S B M C i 0 Om)),] [(21,.bool ((decide (((a*16384+d*1024+e:Nat):Int)<0))||(decide (131072≤((a*16384+d*1024+e:Nat):Int)))))] [] ?_;have o:((decide (((a*16384+d*1024+e:Nat):Int)<0))||(decide (131072≤((a*16384+d*1024+e:Nat):Int))))=false:=(by rw[U9];exact⟨bg Om,bg Om⟩);refine cF ((decide (((a*16384+d*1024+e:Nat):Int)<0))||(decide (131072≤((a*16384+d*1024+e:Nat):Int)))) o (rr (λ_=>[(0,.l 0),(2,.t (tv (au .shl 3 (.tmp 24) (.const (u6 6)) (iN (a*16384+d*1024+e)) (u6 6)) (λ_=>dB (b:=((bT a d e 0:Nat):Int)) (fu 6 Dc Om Om) (by unfold bT;omega)))),(3,.c [] [] (rh i n)),(8,.s 1)]) (λk=>[(8,pt (B7 k) 0),(9,i6 0)]) [] (λk L=>L++[ob (B7 k) #[iN a,iN d,iN e,i6 0] 46]) λk=>r0 [(4,.l 1),(6,.l 0)] [(37,.bool (decide ((R:Int)≤(a:Int))))] [] ?_);have p:(decide ((R:Int)≤(a:Int)))=false:=bg Om;exact cF (decide ((R:Int)≤(a:Int))) p (rF [] 39 (r0 [] [(50,i6 0)] [] (rT [] 51 (rr (λf=>[(1,.m (ld 1 (iN e))),(3,.m (ld 1 (iN d))),(5,.m (ld 1 (iN a))),(6,gA b8 2 3 [e,d,a]),(8,.m (ld 0 (iN M))),(10,.m (ld 0 (iN B))),(12,.m (ld 0 (iN R))),(13,gA b8 3 3 [M,B,R]),(14,.c [2,3] [] (aa.at (rd':=[bL (.slice (some ⟨(f 6).y 0,0,none⟩) 3 3) ([e,d,a]),bL (.slice (some ⟨(f 13).y 0,0,none⟩) 3 3) ([M,B,R])]) (uc (.slice (some ⟨(f 6).y 0,0,none⟩) 3 3) (.slice (some ⟨(f 13).y 0,0,none⟩) 3 3) ([e,d,a]) ([M,B,R]) (by simp) rfl (ua h2 h1 h0 Om)) (bN (λ_ h=>ao.sq h) (bN (λ_ h=>ao.sq h) (λ_ h=>h))))),]) (λ_=>[(6,iN (et ([e,d,a]) ([M,B,R]) ([M,B,R]).length)),(7,i6 0)]) [6,7] (λf L=>L++[bL (.slice (some ⟨(f 6).y 0,0,none⟩) 3 3) ([e,d,a]),bL (.slice (some ⟨(f 13).y 0,0,none⟩) 3 3) ([M,B,R])]) λf=>ak (.tuple #[iN (et ([e,d,a]) ([M,B,R]) ([M,B,R]).length),i6 0]) ab.zero a7 [] [] []))))
theorem MB(R S B M C:Nat)(i:cu R S B M C)(a d e:Nat)(h0:a<R)(h1:d<B)(h2:e<M):aa UZ 121 #[.agg #[iN R,iN S,iN B,iN M,iN C],i6 1,iN (a*16384+d*1024+e)] [] [] N0 (λ_=> .tuple #[iN (lW 1 R B M a d e),i6 0]):=by
 have g:=i.bd;have D:=g.r8;have q:=g.b16;have u:=g.m10;have r:=g.c1;have x:=g.rbm;have z:M*B*R=R*B*M:=by rw[Vf (R*B),Vf R,←Vg]
 have A:R*M*B=R*B*M:=by rw[Vg,Vf M,←Vg]
 have v:gC B e d<B:=pq i.pow h1;have n:gS R S B M C a d e 0:=⟨by omega,h1,h2,by omega⟩;refine fG Tryz.func121 λw y=>ra (λj=>[(3,pt (B0 j) 0),(6,i6 0),(7,i6 0)]) (λj=>[ob (B0 j) #[iN R,iN S,iN B,iN M,iN C] 23]) λj=>r0 [(0,.m (ls 0 ([iN R,iN S,iN B,iN M,iN C]))),(2,.c [] [] (mT R S B M C i 1 Om)),] [(21,.bool ((decide (((a*16384+d*1024+e:Nat):Int)<0))||(decide (131072≤((a*16384+d*1024+e:Nat):Int)))))] [] ?_;have o:((decide (((a*16384+d*1024+e:Nat):Int)<0))||(decide (131072≤((a*16384+d*1024+e:Nat):Int))))=false:=(by rw[U9];exact⟨bg Om,bg Om⟩);refine cF ((decide (((a*16384+d*1024+e:Nat):Int)<0))||(decide (131072≤((a*16384+d*1024+e:Nat):Int)))) o (rr (λ_=>[(0,.l 0),(2,.t (tv (au .shl 3 (.tmp 24) (.const (u6 6)) (iN (a*16384+d*1024+e)) (u6 6)) (λ_=>dB (b:=((bT a d e 0:Nat):Int)) (fu 6 Dc Om Om) (by unfold bT;omega)))),(3,.c [] [] (rh i n)),(8,.s 1)]) (λk=>[(8,pt (B7 k) 0),(9,i6 0)]) [] (λk L=>L++[ob (B7 k) #[iN a,iN d,iN e,i6 0] 46]) λk=>r0 [(4,.l 1),(6,.l 0)] [(37,.bool (decide ((R:Int)≤(a:Int))))] [] ?_);have p:(decide ((R:Int)≤(a:Int)))=false:=bg Om;exact cF (decide ((R:Int)≤(a:Int))) p (rF [] 39 (r0 [] [(50,i6 1)] [] (rF [] 51 (rT [] 68 (rr (λf=>[(1,.m (ld 1 (iN d))),(3,.m (ld 1 (iN e))),(5,.m (ld 1 (iN a))),(6,gA b8 2 3 [d,e,a]),(8,.m (ld 0 (iN B))),(10,.m (ld 0 (iN M))),(12,.m (ld 0 (iN R))),(13,gA b8 3 3 [B,M,R]),(14,.c [2,3] [] (aa.at (rd':=[bL (.slice (some ⟨(f 6).y 0,0,none⟩) 3 3) ([d,e,a]),bL (.slice (some ⟨(f 13).y 0,0,none⟩) 3 3) ([B,M,R])]) (uc (.slice (some ⟨(f 6).y 0,0,none⟩) 3 3) (.slice (some ⟨(f 13).y 0,0,none⟩) 3 3) ([d,e,a]) ([B,M,R]) (by simp) rfl (ua h1 h2 h0 Om)) (bN (λ_ h=>ao.sq h) (bN (λ_ h=>ao.sq h) (λ_ h=>h))))),]) (λ_=>[(6,iN (et ([d,e,a]) ([B,M,R]) ([B,M,R]).length)),(7,i6 0)]) [6,7] (λf L=>L++[bL (.slice (some ⟨(f 6).y 0,0,none⟩) 3 3) ([d,e,a]),bL (.slice (some ⟨(f 13).y 0,0,none⟩) 3 3) ([B,M,R])]) λf=>ak (.tuple #[iN (et ([d,e,a]) ([B,M,R]) ([B,M,R]).length),i6 0]) ab.zero a7 [] [] [])))))
theorem MC(R S B M C:Nat)(i:cu R S B M C)(a d e:Nat)(h0:a<R)(h1:d<B)(h2:e<M):aa UZ 121 #[.agg #[iN R,iN S,iN B,iN M,iN C],i6 2,iN (a*16384+d*1024+e)] [] [] N0 (λ_=> .tuple #[iN (lW 2 R B M a d e),i6 0]):=by
 have g:=i.bd;have D:=g.r8;have q:=g.b16;have u:=g.m10;have r:=g.c1;have x:=g.rbm;have z:M*B*R=R*B*M:=by rw[Vf (R*B),Vf R,←Vg]
 have A:R*M*B=R*B*M:=by rw[Vg,Vf M,←Vg]
 have v:gC B e d<B:=pq i.pow h1;have n:gS R S B M C a d e 0:=⟨by omega,h1,h2,by omega⟩;refine fG Tryz.func121 λw y=>ra (λj=>[(3,pt (B0 j) 0),(6,i6 0),(7,i6 0)]) (λj=>[ob (B0 j) #[iN R,iN S,iN B,iN M,iN C] 23]) λj=>r0 [(0,.m (ls 0 ([iN R,iN S,iN B,iN M,iN C]))),(2,.c [] [] (mT R S B M C i 2 Om)),] [(21,.bool ((decide (((a*16384+d*1024+e:Nat):Int)<0))||(decide (131072≤((a*16384+d*1024+e:Nat):Int)))))] [] ?_;have o:((decide (((a*16384+d*1024+e:Nat):Int)<0))||(decide (131072≤((a*16384+d*1024+e:Nat):Int))))=false:=(by rw[U9];exact⟨bg Om,bg Om⟩);refine cF ((decide (((a*16384+d*1024+e:Nat):Int)<0))||(decide (131072≤((a*16384+d*1024+e:Nat):Int)))) o (rr (λ_=>[(0,.l 0),(2,.t (tv (au .shl 3 (.tmp 24) (.const (u6 6)) (iN (a*16384+d*1024+e)) (u6 6)) (λ_=>dB (b:=((bT a d e 0:Nat):Int)) (fu 6 Dc Om Om) (by unfold bT;omega)))),(3,.c [] [] (rh i n)),(8,.s 1)]) (λk=>[(8,pt (B7 k) 0),(9,i6 0)]) [] (λk L=>L++[ob (B7 k) #[iN a,iN d,iN e,i6 0] 46]) λk=>r0 [(4,.l 1),(6,.l 0)] [(37,.bool (decide ((R:Int)≤(a:Int))))] [] ?_);have p:(decide ((R:Int)≤(a:Int)))=false:=bg Om;exact cF (decide ((R:Int)≤(a:Int))) p (rF [] 39 (r0 [] [(50,i6 2)] [] (rF [] 51 (rF [] 68 (rr (λf=>[(1,.m (ld 1 (iN a))),(3,.m (ld 1 (iN d))),(5,.m (ld 1 (iN e))),(6,gA b8 2 3 [a,d,e]),(8,.m (ld 0 (iN R))),(10,.m (ld 0 (iN B))),(12,.m (ld 0 (iN M))),(13,gA b8 3 3 [R,B,M]),(14,.c [2,3] [] (aa.at (rd':=[bL (.slice (some ⟨(f 6).y 0,0,none⟩) 3 3) ([a,d,e]),bL (.slice (some ⟨(f 13).y 0,0,none⟩) 3 3) ([R,B,M])]) (uc (.slice (some ⟨(f 6).y 0,0,none⟩) 3 3) (.slice (some ⟨(f 13).y 0,0,none⟩) 3 3) ([a,d,e]) ([R,B,M]) (by simp) rfl (ua h0 h1 h2 Om)) (bN (λ_ h=>ao.sq h) (bN (λ_ h=>ao.sq h) (λ_ h=>h))))),]) (λ_=>[(6,iN (et ([a,d,e]) ([R,B,M]) ([R,B,M]).length)),(7,i6 0)]) [6,7] (λf L=>L++[bL (.slice (some ⟨(f 6).y 0,0,none⟩) 3 3) ([a,d,e]),bL (.slice (some ⟨(f 13).y 0,0,none⟩) 3 3) ([R,B,M])]) λf=>ak (.tuple #[iN (et ([a,d,e]) ([R,B,M]) ([R,B,M]).length),i6 0]) ab.zero a7 [] [] [])))))
theorem ME(R S B M C:Nat)(k:cu R S B M C)(e f d:Nat)(h0:e<R)(h1:f<B)(h2:d<M):aa UZ 121 #[.agg #[iN R,iN S,iN B,iN M,iN C],i6 3,iN (e*16384+f*1024+d)] [] [] N0 (λ_=> .tuple #[iN (lW 3 R B M e f d),i6 0]):=by
 have i:=k.bd;have F:=i.r8;have u:=i.b16;have x:=i.m10;have v:=i.c1;have y:=i.rbm;have A:M*B*R=R*B*M:=by rw[Vf (R*B),Vf R,←Vg]
 have D:R*M*B=R*B*M:=by rw[Vg,Vf M,←Vg]
 have p:gC B d f<B:=pq k.pow h1;have o:gS R S B M C e f d 0:=⟨by omega,h1,h2,by omega⟩;refine fG Tryz.func121 λw z=>ra (λn=>[(3,pt (B0 n) 0),(6,i6 0),(7,i6 0)]) (λn=>[ob (B0 n) #[iN R,iN S,iN B,iN M,iN C] 23]) λn=>r0 [(0,.m (ls 0 ([iN R,iN S,iN B,iN M,iN C]))),(2,.c [] [] (mT R S B M C k 3 Om)),] [(21,.bool ((decide (((e*16384+f*1024+d:Nat):Int)<0))||(decide (131072≤((e*16384+f*1024+d:Nat):Int)))))] [] ?_;have q:((decide (((e*16384+f*1024+d:Nat):Int)<0))||(decide (131072≤((e*16384+f*1024+d:Nat):Int))))=false:=(by rw[U9];exact⟨bg Om,bg Om⟩);refine cF ((decide (((e*16384+f*1024+d:Nat):Int)<0))||(decide (131072≤((e*16384+f*1024+d:Nat):Int)))) q (rr (λ_=>[(0,.l 0),(2,.t (tv (au .shl 3 (.tmp 24) (.const (u6 6)) (iN (e*16384+f*1024+d)) (u6 6)) (λ_=>dB (b:=((bT e f d 0:Nat):Int)) (fu 6 Dc Om Om) (by unfold bT;omega)))),(3,.c [] [] (rh k o)),(8,.s 1)]) (λj=>[(8,pt (B7 j) 0),(9,i6 0)]) [] (λj L=>L++[ob (B7 j) #[iN e,iN f,iN d,i6 0] 46]) λj=>r0 [(4,.l 1),(6,.l 0)] [(37,.bool (decide ((R:Int)≤(e:Int))))] [] ?_);have r:(decide ((R:Int)≤(e:Int)))=false:=bg Om;refine cF (decide ((R:Int)≤(e:Int))) r (rT [] 39 ?_);have G:d&&& (B-1)≤B-1:=VV;exact rs [(1,.l 1),(3,.l 1),(5,.l 0),(6,.t (tb (a:=iN B) (b:=i6 1) λ_ _ _ _=>kQ (a:=B) (b:=1) Om Om)),(7,.t (tv (au .and 3 (.tmp 43) (.tmp 46) (iN d) (iN (B-1))) (λ_=>Cu _ (B-1) Om Om))),(8,.t (tv (au .xor 3 (.tmp 41) (.tmp 47) (iN f) (iN (d&&& (B-1)))) (λ_=>Cv _ _ Om Om))),(10,.s 1)] 1 (ob (B7 j) #[iN e,iN (gC B d f),iN d,i6 0] 46) (r0 [] [(50,i6 3)] [] (rF [] 51 (rF [] 68 (rr (λg=>[(1,.m (ld 1 (iN e))),(3,.m (ld 1 (iN (gC B d f)))),(5,.m (ld 1 (iN d))),(6,gA b8 2 3 [e,gC B d f,d]),(8,.m (ld 0 (iN R))),(10,.m (ld 0 (iN B))),(12,.m (ld 0 (iN M))),(13,gA b8 3 3 [R,B,M]),(14,.c [2,3] [] (aa.at (rd':=[bL (.slice (some ⟨(g 6).y 0,0,none⟩) 3 3) ([e,gC B d f,d]),bL (.slice (some ⟨(g 13).y 0,0,none⟩) 3 3) ([R,B,M])]) (uc (.slice (some ⟨(g 6).y 0,0,none⟩) 3 3) (.slice (some ⟨(g 13).y 0,0,none⟩) 3 3) ([e,gC B d f,d]) ([R,B,M]) (by simp) rfl (ua h0 p h2 Om)) (bN (λ_ h=>ao.sq h) (bN (λ_ h=>ao.sq h) (λ_ h=>h))))),]) (λ_=>[(6,iN (et ([e,gC B d f,d]) ([R,B,M]) ([R,B,M]).length)),(7,i6 0)]) [6,7] (λg L=>L++[bL (.slice (some ⟨(g 6).y 0,0,none⟩) 3 3) ([e,gC B d f,d]),bL (.slice (some ⟨(g 13).y 0,0,none⟩) 3 3) ([R,B,M])]) λg=>ak (.tuple #[iN (et ([e,gC B d f,d]) ([R,B,M]) ([R,B,M]).length),i6 0]) ab.zero a7 [] [] []))))
theorem MF(R S B M C:Nat)(d:cu R S B M C)(way:Nat)(e:way<4)(a b c:Nat)(h0:a<R)(h1:b<B)(h2:c<M):aa UZ 121 #[.agg #[iN R,iN S,iN B,iN M,iN C],iN way,iN (a*16384+b*1024+c)] [] [] N0 (λ_=> .tuple #[iN (lW way R B M a b c),i6 0]):=by
 match way with
 | 0=>exact MA R S B M C d a b c h0 h1 h2
 | 1=>exact MB R S B M C d a b c h0 h1 h2
 | 2=>exact MC R S B M C d a b c h0 h1 h2
 | 3=>exact ME R S B M C d a b c h0 h1 h2
 | w+4=>exact absurd e Om
end
section
open Go.Shelf
theorem MG{i n:Int}(h:bR i n=false)(h0:0≤i):n≤i:=by
 unfold bR at h;simp only[Bool.and_eq_false_iff,decide_eq_false_iff_not] at h;omega
structure gT (R S B M C way res:Nat):Prop where
 O:cu R S B M C
 G:way<4
 r64:res≤64
 rp:res<R*B*M
structure Mp where
 R:Nat
 S:Nat
 B:Nat
 M:Nat
 C:Nat
 G:Nat
 res:Nat
 N:List Nat
 P:List Bool
 K:List Int
 Q:Nat
 F:Nat
abbrev Mp.seen(m:Mp):Nat:=m.R*m.B*m.M-m.res
structure bn (m:Mp):Prop where
 ly:gT m.R m.S m.B m.M m.C m.G m.res
 ll:m.N.length=m.R*m.B*m.M-m.res
 ld:m.P.length=m.R*m.B*m.M
 ls:m.K.length=m.R
 pg:m.Q≤m.res
 rk:m.F≤m.S
 lv: ∀i,i<m.R*m.B*m.M-m.res→m.N.getD i 0<m.R*m.B*m.M
 sp: ∀i,i<m.R→m.K.getD i 0= -1∨((m.R:Int)≤m.K.getD i 0∧m.K.getD i 0<((m.R+m.S:Nat):Int))
abbrev aG(g:Nat)(m:Mp)(L:ah):Prop:=∃a b c:Value,L=[ob g #[iN m.R,iN m.S,iN m.B,iN m.M,iN m.C,iN m.G,iN m.res,a,b,c,iN m.Q,iN m.F] 137,bL a m.N,eM b m.P,da c m.K]
def ff(m:Mp)(r:Nat):Bool:= !(m.K.getD r 0== -1)
def jW(m:Mp)(r:Nat):Int:=bif ff m r then m.K.getD r 0 else 0
def kV(m:Mp)(p:Nat):Nat:=bif ff m (aK m.G m.R m.B m.M p) then(m.K.getD (aK m.G m.R m.B m.M p) 0).toNat else aK m.G m.R m.B m.M p
def bq(m:Mp)(p:Nat):Nat:=kV m p*16384+fx m.G m.R m.B m.M p*1024+fw m.G m.R m.B m.M p
section
variable {m:Mp}
theorem bn.O(h:bn m):cu m.R m.S m.B m.M m.C:=h.ly.O
theorem bn.np(h:bn m):m.R*m.B*m.M≤4096:=h.O.bd.rbm
theorem bn.lines(h:bn m):(m.R*m.B*m.M-m.res)*m.C≤4096:=Vj (Va _ (Nat.sub_le _ _)) h.O.bd.rbmc
theorem MI(h:bn m)(p:Nat):kV m p<m.R+m.S:=by
 have b:=rj (p:=p) (way:=m.G) h.O;unfold kV;cases a:ff m (aK m.G m.R m.B m.M p) with
 | false=>rw[ALcf];omega
 | true=>
  rw[ALct];unfold ff at a;have a:m.K.getD (aK m.G m.R m.B m.M p) 0≠ -1:=by simpa using a
  have:=(h.sp _ b).resolve_left a;omega
theorem ue(h:bn m){p:Nat}(hp:p<m.R*m.B*m.M):gS m.R m.S m.B m.M m.C (kV m p) (fx m.G m.R m.B m.M p) (fw m.G m.R m.B m.M p) 0:=by
 have a:=ow (way:=m.G) h.O hp;exact⟨MI h p,a.h1,a.h2,a.h3⟩
theorem MJ(h:bn m){p:Nat}(b:ff m (aK m.G m.R m.B m.M p)=true):(gD m.G m.R m.B m.M p:Int)+(jW m (aK m.G m.R m.B m.M p)-(aK m.G m.R m.B m.M p:Int))*2^14=(bq m p:Int):=by
 have c:=rj (p:=p) (way:=m.G) h.O;have a:=b;unfold ff at a;have a:m.K.getD (aK m.G m.R m.B m.M p) 0≠ -1:=by simpa using a
 have d:=(h.sp _ c).resolve_left a;unfold bq kV jW;rw[b,ALct,ALct,xl];have e:((m.K.getD (aK m.G m.R m.B m.M p) 0).toNat:Int)=m.K.getD (aK m.G m.R m.B m.M p) 0:=Vo Om;omega
theorem MK{p:Nat}(a:ff m (aK m.G m.R m.B m.M p)=false):gD m.G m.R m.B m.M p=bq m p:=by
 unfold bq kV;rw[a,ALcf,xl]
theorem ML(h:bn m){r:Nat}(b:r<m.R):0≤jW m r∧jW m r<((m.R+m.S:Nat):Int):=by
 unfold jW;cases a:ff m r with
 | false=>rw[ALcf];omega
 | true=>
  unfold ff at a;have a:m.K.getD r 0≠ -1:=by simpa using a
  have:=(h.sp _ b).resolve_left a;rw[ALct];omega
theorem Cx(h:bn m){p:Nat}(hp:p<m.R*m.B*m.M):gD m.G m.R m.B m.M p/16384=aK m.G m.R m.B m.M p:=by
 have a:=ow (way:=m.G) h.O hp;have b:=h.O.bd.b16;have c:=h.O.bd.m10;have:=a.h1;have:=a.h2;rw[xl];omega
theorem uf(h:bn m){p:Nat}(hp:p<m.R*m.B*m.M):bq m p<131072:=by
 have a:=ue h hp;have b:=h.O.bd.r8;have c:=h.O.bd.b16;have d:=h.O.bd.m10;have:=a.h0;have:=a.h1;have:=a.h2;unfold bq;omega
theorem Cy(h:bn m){n:Nat}(a:n<(m.R*m.B*m.M-m.res)*m.C):n/m.C<m.R*m.B*m.M-m.res:=VB (by rw[Vf m.C];exact a)
def ay(m:Mp)(n:Nat):Nat:=m.N.getD (n/m.C) 0
def eO(m:Mp)(n:Nat):Nat:=bq m (ay m n)*64+n%m.C
theorem ug(h:bn m){n:Nat}(a:n<(m.R*m.B*m.M-m.res)*m.C):ay m n<m.R*m.B*m.M:=h.lv _ (Cy h a)
end
def du(m:Mp):Bool:= !decide (m.Q=m.res)
def ei(m:Mp):Bool:= !decide (m.F=m.S)
def dV(m:Mp):Nat:=if m.Q=m.res then 0 else m.seen+m.Q
def fy(m:Mp):Nat:=if m.F=m.S then 0 else m.R+m.F
def dI(l:List Nat)(h t k:Nat):List Nat:=((l.take k).map λx=>if x=h then t else x)++l.drop k
theorem Cz(l:List Nat)(h t k:Nat):(dI l h t k).length=l.length:=by unfold dI;rw[U4,U6,U5,Vb];omega
theorem MM{l:List Nat}{h t k:Nat}(a:k<l.length):(dI l h t k).getD k 0=l.getD k 0:=by
 unfold dI;rw[U0,Vh (by rw[U6,U5];omega),U6,U5,Vv,U0]
 congr 2;omega
theorem MN(l:List Nat)(h t:Nat):dI l h t 0=l:=by unfold dI;simp
theorem CA{l:List Nat}{h t k:Nat}(a:k<l.length):dI l h t (k+1)=((l.take k).map λx=>if x=h then t else x)++(if l.getD k 0=h then t else l.getD k 0)::l.drop (k+1):=by
 unfold dI;rw[VQ,U3 a,VJ,Vn,U0,U3 a];rfl
theorem MO{l:List Nat}{h t k:Nat}(a:k<l.length)(e:l.getD k 0=h):(dI l h t k).set k t=dI l h t (k+1):=by
 rw[CA a,ALifp e];unfold dI;rw[VE a,List.set_append_right _ _ (by rw[U6,U5];omega),U6,U5,show k-min k l.length=0 by omega];rfl
theorem MP{l:List Nat}{h t k:Nat}(a:k<l.length)(e:l.getD k 0≠h):dI l h t k=dI l h t (k+1):=by
 rw[CA a,ALifn e];unfold dI;rw[VE a,U0,U3 a];rfl
theorem MQ{l:List Nat}{h t k:Nat}(a:k<l.length):(bif (((dI l h t k).getD k 0:Nat):Int)==(h:Int) then(dI l h t k).set k t else dI l h t k)=dI l h t (k+1):=by
 rw[MM a];by_cases e:l.getD k 0=h
 ·rw[show(((l.getD k 0:Nat):Int)==(h:Int))=true by rw[e];exact beq_self_eq_true _,ALct,MO a e]
 ·rw[show(((l.getD k 0:Nat):Int)==(h:Int))=false by rw[dR];omega,ALcf,MP a e]
def pr(m:Mp):Mp:={m with Q:=m.Q+1}
def pv(m:Mp):Mp:={m with F:=m.F+1}
def rl(m:Mp)(h t:Nat):Mp:={m with P:=m.P.set h true,N:=dI m.N h t m.N.length}
def rm(m:Mp)(r s:Nat):Mp:={m with K:=m.K.set r (s:Int)}
def kW(R S B M C way a:Nat):Mp:=⟨R,S,B,M,C,way,a,U1 (R*B*M-a),U2 (R*B*M) false,U2 R (-1),0,0⟩
end
section
open Go.Shelf
theorem uh(i n:Int):aa UZ 58 #[i6 i,i6 n] [] [] N0 (λ_=> .bool (bR i n)):=by
 exact fG Tryz.func58 λw a=>r0 [] [(4,.bool false)] [] (r0 [] [(4,.bool ((decide (0≤i))&&(decide (i<n))))] [4] (ak (.bool ((decide (0≤i))&&(decide (i<n)))) ab.zero a7 [] [] []))
theorem CB(R S B M C way a:Nat)(b:gT R S B M C way a):aa UZ 106 #[.agg #[iN R,iN S,iN B,iN M,iN C,iN way,iN a]] [] [] N0 (λ_=> .bool true):=by
 have e:=b.O;have i:=b.rp;have h:=e.bd.rbm;have g:=b.G;have f:=b.r64;exact fG Tryz.func106 λw j=>ra (λd=>[(1,pt (B0 d) 0),(2,.bool false)]) (λd=>[ob (B0 d) #[iN R,iN S,iN B,iN M,iN C,iN way,iN a] 25]) λd=>r0 [(1,.m (ls 0 ([iN R,iN S,iN B,iN M,iN C]))),(3,.m (ld 0 (iN way))),(4,.c [] [] (mT R S B M C e way Om)),(7,.m (ld 0 (iN a))),(12,.m (ld 0 (iN a))),(17,.m (ld 0 (iN a))),(19,.m (ls 0 ([iN R,iN S,iN B,iN M,iN C]))),(20,.c [] [] (lU R S B M C e)),] [(2,.bool (((decide (0≤(a:Int)))&&(decide ((a:Int)≤64)))&&(decide ((a:Int)<(((R*B)*M:Nat):Int)))))] [2] (ak (.bool (((decide (0≤(a:Int)))&&(decide ((a:Int)≤64)))&&(decide ((a:Int)<(((R*B)*M:Nat):Int))))) ab.zero (by exact ALca Value.bool (by simp only[U7,decide_eq_true_eq,true_and];omega)) [] [] [])
theorem px(R S B M C way d:Nat)(e:gT R S B M C way d):aa UZ 76 #[.agg #[iN R,iN S,iN B,iN M,iN C,iN way,iN d]] [] [] N0 (λ_=>iN (((R*B)*M)-d)):=by
 have g:=e.O;have k:=e.rp;have j:=g.bd.rbm;have i:=e.G;have h:=e.r64;exact fG Tryz.func76 λw m=>ra (λf=>[(1,pt (B0 f) 0),(2,i6 0)]) (λf=>[ob (B0 f) #[iN R,iN S,iN B,iN M,iN C,iN way,iN d] 25]) λf=>rF [(0,.l 0),(1,.c [] [] (CB R S B M C way d e))] 5 (r0 [(1,.l 0),(2,.c [] [] (lU R S B M C g)),(4,.l 0),(5,.t (tb (a:=iN ((R*B)*M)) (b:=iN d) λ_ _ _ _=>kQ (a:=(R*B)*M) (b:=d) Om Om))] [(2,iN (((R*B)*M)-d))] [2] (lf ab.zero [] [] []))
theorem xn(R S B M C way a:Nat)(b:gT R S B M C way a):aa UZ 39 #[.agg #[iN R,iN S,iN B,iN M,iN C,iN way,iN a]] [] [] N0 (λ_=>iN ((((R*B)*M)-a)*C)):=by
 have e:=b.O;have i:=b.rp;have h:=e.bd.rbm;have g:=b.G;have f:=b.r64;have k:=Vj (Va C (Nat.sub_le (R*B*M) a)) e.bd.rbmc;exact fG Tryz.func39 λw j=>ra (λd=>[(1,pt (B0 d) 0),(2,i6 0)]) (λd=>[ob (B0 d) #[iN R,iN S,iN B,iN M,iN C,iN way,iN a] 25]) λd=>r0 [(0,.l 0),(1,.c [] [] (px R S B M C way a b)),(4,.l 0),(5,ml (((R*B)*M)-a) C)] [(2,iN ((((R*B)*M)-a)*C))] [2] (lf ab.zero [] [] [])
theorem iH(g:Nat)(m:Mp)(a:bn m):aa UZ 63 #[pt g 0] [pk (aG g m)] [0] (λ_=>[pk (aG g m)]) (λ_=> .agg #[iN m.R,iN m.S,iN m.B,iN m.M,iN m.C,iN m.G,iN m.res]):=aa.pkZ Tryz.func63 λL e=>by
 obtain⟨q,r,t,rfl⟩:=e;refine⟨[1,2,3],λ_=>[bL q m.N,eM r m.P,da t m.K],?_,rfl,λE=>⟨rfl,rfl,⟨_,_,_,rfl⟩⟩⟩;have d:=a.O;have c:=a.ly;have j:=a.np;have h:=a.ll;have f:=a.ld;have i:=a.ls;have k:=a.pg;have o:=a.rk;have p:=c.rp;have n:=d.bd.r8;exact fG Tryz.func63 λw u=>ra (λb=>[(2,pt (B0 b) 0)]) (λb=>[ob (B0 b) #[i6 0,i6 0,i6 0,i6 0,i6 0,i6 0,i6 0] 25]) λb=>rs [(3,.l 0),(4,.s 4)] 4 (ob (B0 b) #[iN m.R,iN m.S,iN m.B,iN m.M,iN m.C,iN m.G,iN m.res] 25) (lf ab.zero [1,2,3] [(0,0)] [4])
theorem ox(i n:Nat)(h:i<n):aa UZ 58 #[iN i,iN n] [] [] N0 (λ_=> .bool true):=by
 have a:=uh i n;rwa [kU.2 ⟨by omega,by omega⟩] at a
theorem xp(g:Nat)(m:Mp)(a:bn m)(p:Nat)(hp:p<m.R*m.B*m.M):aa UZ 25 #[pt g 0,iN p] [pk (aG g m)] [0] (λ_=>[pk (aG g m)]) (λ_=> .bool (m.P.getD p false)):=aa.pkZ Tryz.func25 λL f=>by
 obtain⟨r,b,s,rfl⟩:=f;refine⟨[1,2,3],λ_=>[bL r m.N,eM b m.P,da s m.K],?_,rfl,λE=>⟨rfl,rfl,⟨_,_,_,rfl⟩⟩⟩;have e:=a.O;have d:=a.ly;have k:=a.np;have i:=a.ll;have h:=a.ld;have j:=a.ls;have l:=a.pg;have o:=a.rk;have q:=d.rp;have n:=e.bd.r8;exact fG Tryz.func25 λw t=>r0 [] [(4,.bool false)] [] (r0 [(4,.m (ld 0 (b))),(5,ew jV b m.P 2),(6,.c [] [] (ox p m.P.length Om)),(11,.m (ld 0 (b))),(13,cp jV b m.P 2 p),(14,eL jV b m.P 2 p 0)] [(4,.bool (m.P.getD p false))] [4] (lf ab.zero [1,2,3] [(0,0)] []))
theorem MR(g:Nat)(m:Mp)(a:bn m)(p:Nat)(hp:p<m.R*m.B*m.M):aa UZ 86 #[pt g 0,iN p] [pk (aG g m)] [0] (λ_=>[pk (aG g m)]) (λ_=> .bool (decide (p<m.R*m.B*m.M-m.res+m.Q)&& !m.P.getD p false)):=aa.pkZ Tryz.func86 λL i=>by
 obtain⟨t,f,u,rfl⟩:=i;refine⟨[1,2,3],λ_=>[bL t m.N,eM f m.P,da u m.K],?_,rfl,λE=>⟨rfl,rfl,⟨_,_,_,rfl⟩⟩⟩;have h:=a.O;have b:=a.ly;have n:=a.np;have k:=a.ll;have j:=a.ld;have l:=a.ls;have o:=a.pg;have r:=a.rk;have s:=b.rp;have q:=h.bd.r8;refine fG Tryz.func86 λw v=>r0 [] [(4,.bool false)] [] ?_;cases e:(bR (p:Int) (((((m.R*m.B)*m.M)-m.res)+m.Q:Nat):Int))
 case true=>
  exact r0 [(4,.m (ls 0 ([iN m.R,iN m.S,iN m.B,iN m.M,iN m.C,iN m.G,iN m.res]))),(5,.c [] [] (px m.R m.S m.B m.M m.C m.G m.res b)),(9,.m (ld 0 (iN m.Q))),(10,ad (((m.R*m.B)*m.M)-m.res) m.Q),(11,.c [] [] (aa.v ((uh (p:Int) (((((m.R*m.B)*m.M)-m.res)+m.Q:Nat):Int))) λ_=>ALca Value.bool (show(bR (p:Int) (((((m.R*m.B)*m.M)-m.res)+m.Q:Nat):Int))=true from e))),(16,.m (ld 0 (f))),(18,cp jV f m.P 2 p),(19,eL jV f m.P 2 p 0),] [(4,.bool (!(m.P.getD p false)))] [4] (ak (.bool (!(m.P.getD p false))) ab.zero (by(rw[cS (by have:=kU.1 e;omega)];rfl)) [1,2,3] [(0,0)] [])
 exact r0 [(4,.m (ls 0 ([iN m.R,iN m.S,iN m.B,iN m.M,iN m.C,iN m.G,iN m.res]))),(5,.c [] [] (px m.R m.S m.B m.M m.C m.G m.res b)),(9,.m (ld 0 (iN m.Q))),(10,ad (((m.R*m.B)*m.M)-m.res) m.Q),(11,.c [] [] (aa.v ((uh (p:Int) (((((m.R*m.B)*m.M)-m.res)+m.Q:Nat):Int))) λ_=>ALca Value.bool (show(bR (p:Int) (((((m.R*m.B)*m.M)-m.res)+m.Q:Nat):Int))=false from e))),(13,.d),(14,.d),(15,.d),(16,.d),(17,.d),(18,.d),(19,.d),(20,.d)] [(4,.bool false)] [4] (ak (.bool false) ab.zero (by(rw[bg (by have:=MG e Om;omega)];rfl)) [1,2,3] [(0,0)] [])
theorem CC(g:Nat)(m:Mp)(b:bn m)(h i a:Value)(r:Nat)(x:r<m.R):aa UZ 26 #[pt g 0,iN r] [ob g #[iN m.R,iN m.S,iN m.B,iN m.M,iN m.C,iN m.G,iN m.res,h,i,a,iN m.Q,iN m.F] 137,bL h m.N,eM i m.P,da a m.K] [1,2,3] (λ_=>[bL h m.N,eM i m.P,da a m.K]) (λ_=> .tuple #[i6 (jW m r),.bool (ff m r)]):=by
 have j:=b.O;have f:=b.ly;have p:=b.np;have n:=b.ll;have k:=b.ld;have o:=b.ls;have q:=b.pg;have t:=b.rk;have u:=f.rp;have s:=j.bd.r8;refine fG Tryz.func26 λw v=>r0 [] [(4,i6 0),(5,.bool false)] [] (r0 [(4,.m (ld 0 (a))),(5,ew kI a m.K 3),(6,.c [] [] (ox r m.K.length Om)),(12,.m (ld 0 (a))),(14,cp kI a m.K 3 r),(15,eL kI a m.K 3 r 0)] [(23,.bool ((m.K.getD r 0)==(-1)))] [] ?_);refine cD (m.K.getD r 0) (-1) (λe d=>?_) λe d=>?_
 ·exact r0 [] [(4,i6 0),(5,.bool false)] [4,5] (ak (.tuple #[i6 0,.bool false]) ab.zero (by unfold jW ff;(repeat (rw[e]));rfl) [1,2,3] [(0,0)] [])
 exact r0 [(3,.l 0),(5,cp kI a m.K 3 r),(6,eL kI a m.K 3 r 0)] [(4,i6 (m.K.getD r 0)),(5,.bool true)] [4,5] (ak (.tuple #[i6 (m.K.getD r 0),.bool true]) ab.zero (by unfold jW ff;(repeat (rw[e]));rfl) [1,2,3] [(0,0)] [])
theorem CD(g:Nat)(m:Mp)(e:bn m)(r:Nat)(f:r<m.R):aa UZ 26 #[pt g 0,iN r] [pk (aG g m)] [0] (λ_=>[pk (aG g m)]) (λ_=> .tuple #[i6 (jW m r),.bool (ff m r)]):=aa.pkZ Tryz.func26 λL d=>by
 obtain⟨a,b,c,rfl⟩:=d;exact⟨[1,2,3],λ_=>[bL a m.N,eM b m.P,da c m.K],CC g m e a b c r f,rfl,λE=>⟨rfl,rfl,⟨_,_,_,rfl⟩⟩⟩
theorem CE(g:Nat)(m:Mp)(a:bn m)(f h i:Value)(p:Nat)(hp:p<m.R*m.B*m.M):aa UZ 99 #[pt g 0,iN p] [ob g #[iN m.R,iN m.S,iN m.B,iN m.M,iN m.C,iN m.G,iN m.res,f,h,i,iN m.Q,iN m.F] 137,bL f m.N,eM h m.P,da i m.K] [1,2,3] (λ_=>[bL f m.N,eM h m.P,da i m.K]) (λ_=> .tuple #[iN (bq m p),iN (aK m.G m.R m.B m.M p),i6 0]):=by
 have e:=a.O;have d:=a.ly;have u:=a.np;have r:=a.ll;have q:=a.ld;have s:=a.ls;have v:=a.pg;have y:=a.rk;have z:=d.rp;have x:=e.bd.r8;have l:=d.G;have D:=Mu (way:=m.G) e hp;have B:=Cx a hp;have k:=rj (p:=p) (way:=m.G) e;have A:=ML a k;have o:=uf a hp;refine fG Tryz.func99 λw C=>r0 [] [(4,i6 0),(5,i6 0),(6,i6 0)] [] (r0 [(4,.m (ls 0 ([iN m.R,iN m.S,iN m.B,iN m.M,iN m.C]))),(9,.m (ld 0 (iN m.G))),(11,.c [] [] (Cw m.R m.S m.B m.M m.C e m.G Om p Om)),] [(7,iN (gD m.G m.R m.B m.M p)),(6,i6 0)] [6] (rF [] 26 (r0 [(1,.t (tv (au .shr 3 (.tmp 28) (.const (u6 14)) (iN (gD m.G m.R m.B m.M p)) (u6 14)) (λ_=>dB (b:=((aK m.G m.R m.B m.M p:Nat):Int)) (hP 14 Dc) Om)))] [(5,iN (aK m.G m.R m.B m.M p))] [5] (r0 [(2,.c [0,1,2,3] [1,2,3] (CC g m a f h i (aK m.G m.R m.B m.M p) Om))] [(8,i6 (jW m (aK m.G m.R m.B m.M p))),(9,.bool (ff m (aK m.G m.R m.B m.M p)))] [] (r0 [] [(36,.bool (ff m (aK m.G m.R m.B m.M p)))] [] ?_)))));refine cB (ff m (aK m.G m.R m.B m.M p)) (λj=>?_) λj=>?_
 ·have n:=MJ a j;exact r0 [(3,sI (jW m (aK m.G m.R m.B m.M p)) (((aK m.G m.R m.B m.M p:Nat):Int)) Om),(4,.t (tv (au .shl 3 (.tmp 40) (.const (u6 14)) (i6 ((jW m (aK m.G m.R m.B m.M p))-((aK m.G m.R m.B m.M p:Nat):Int))) (u6 14)) (λ_=>fu 14 Dc Om Om))),(5,.t (tv (au .add 3 (.tmp 37) (.tmp 41) (iN (gD m.G m.R m.B m.M p)) (i6 ((jW m (aK m.G m.R m.B m.M p)-(aK m.G m.R m.B m.M p:Int))*2^14))) (λ_=>dB (pT Om Om) n)))] [(7,iN (bq m p))] [7] (r0 [] [(4,iN (bq m p)),(5,iN (aK m.G m.R m.B m.M p)),(6,i6 0)] [4,5,6] (ak (.tuple #[iN (bq m p),iN (aK m.G m.R m.B m.M p),i6 0]) ab.zero a7 [1,2,3] [(0,0)] []))
 exact r0 [] [(4,iN (gD m.G m.R m.B m.M p)),(5,iN (aK m.G m.R m.B m.M p)),(6,i6 0)] [4,5,6] (ak (.tuple #[iN (gD m.G m.R m.B m.M p),iN (aK m.G m.R m.B m.M p),i6 0]) ab.zero (by(rw[MK j])) [1,2,3] [(0,0)] [])
theorem CF(g:Nat)(m:Mp)(a:bn m)(p:Nat)(hp:p<m.R*m.B*m.M):aa UZ 64 #[pt g 0,iN p] [pk (aG g m)] [0] (λ_=>[pk (aG g m)]) (λ_=> .tuple #[iN (bq m p),i6 0]):=aa.pkZ Tryz.func64 λL i=>by
 obtain⟨d,e,f,rfl⟩:=i;refine⟨[1,2,3],λ_=>[bL d m.N,eM e m.P,da f m.K],?_,rfl,λE=>⟨rfl,rfl,⟨_,_,_,rfl⟩⟩⟩;have h:=a.O;have b:=a.ly;have n:=a.np;have k:=a.ll;have j:=a.ld;have l:=a.ls;have o:=a.pg;have r:=a.rk;have s:=b.rp;have q:=h.bd.r8;exact fG Tryz.func64 λw t=>r0 [] [(4,i6 0),(5,i6 0)] [] (r0 [(2,.c [0,1,2,3] [1,2,3] (CE g m a d e f p Om))] [(6,iN (bq m p)),(8,i6 0)] [] (r0 [] [(4,iN (bq m p)),(5,i6 0)] [4,5] (lf ab.zero [1,2,3] [(0,0)] [])))
theorem xq(g:Nat)(m:Mp)(e:bn m)(n:Nat)(p:n<(m.R*m.B*m.M-m.res)*m.C):aa UZ 220 #[pt g 0,iN n] [pk (aG g m)] [0] (λ_=>[pk (aG g m)]) (λ_=> .tuple #[iN (eO m n),iN (ay m n),iN (aK m.G m.R m.B m.M (ay m n)),i6 0]):=aa.pkZ Tryz.func220 λL s=>by
 obtain⟨h,q,r,rfl⟩:=s;refine⟨[1,2,3],λ_=>[bL h m.N,eM q m.P,da r m.K],?_,rfl,λE=>⟨rfl,rfl,⟨_,_,_,rfl⟩⟩⟩;have i:=e.O;have f:=e.ly;have B:=e.np;have y:=e.ll;have x:=e.ld;have z:=e.ls;have C:=e.pg;have F:=e.rk;have G:=f.rp;have D:=i.bd.r8;have A:=e.lines;have j:=i.bd.c1;have k:=i.bd.c64;have I:=Cy e p;have u:m.N.getD (n/m.C) 0<m.R*m.B*m.M:=ug e p;have v:=uf e u;have o:=U8 n j;exact fG Tryz.func220 λw H=>r0 [] [(4,i6 0),(5,i6 0),(6,i6 0),(7,i6 0)] [] (rF [(4,.l 0),(5,.c [] [] (xn m.R m.S m.B m.M m.C m.G m.res f)),(6,.c [] [] (ox n ((((m.R*m.B)*m.M)-m.res)*m.C) Om))] 16 (r0 [(3,.m (ld 0 (h))),(10,.m (ld 0 (iN m.C))),(11,.t (tb (a:=iN n) (b:=iN m.C) λ_ _ _ _=>n1 (a:=n) (d:=m.C) Om Om)),(12,cp b8 h m.N 1 (n/m.C)),(13,eL b8 h m.N 1 (n/m.C) 0)] [(5,iN (m.N.getD (n/m.C) 0))] [5] (r0 [(2,.c [0,1,2,3] [1,2,3] (CE g m e h q r (m.N.getD (n/m.C) 0) Om))] [(8,iN (bq m (m.N.getD (n/m.C) 0))),(6,iN (aK m.G m.R m.B m.M (m.N.getD (n/m.C) 0))),(7,i6 0)] [6,7] (rF [] 39 (r0 [(1,.t (tv (au .shl 3 (.tmp 41) (.const (u6 6)) (iN (bq m (m.N.getD (n/m.C) 0))) (u6 6)) (λ_=>dB (b:=((bq m (m.N.getD (n/m.C) 0)*64:Nat):Int)) (fu 6 Dc Om Om) Om))),(8,.m (ld 0 (iN m.C))),(9,.t (tb (a:=iN n) (b:=iN m.C) λ_ _ _ _=>ni (a:=n) (d:=m.C) Om)),(10,.t (tv (au .or 3 (.tmp 42) (.tmp 50) (iN (bq m (m.N.getD (n/m.C) 0)*64)) (iN (n%m.C))) (λ_=>dB (b:=((eO m n:Nat):Int)) (qz 6 64 rfl Om Om Om Om Om) (by unfold eO ay;omega)))),] [(4,iN (eO m n)),(5,iN (m.N.getD (n/m.C) 0)),(6,iN (aK m.G m.R m.B m.M (m.N.getD (n/m.C) 0))),(7,i6 0)] [4,5,6,7] (ak (.tuple #[iN (eO m n),iN (m.N.getD (n/m.C) 0),iN (aK m.G m.R m.B m.M (m.N.getD (n/m.C) 0)),i6 0]) ab.zero a7 [1,2,3] [(0,0)] []))))))
theorem MS(g:Nat)(m:Mp)(a:bn m)(n:Int)(j:bR n (((m.R*m.B*m.M-m.res)*m.C:Nat):Int)=false):aa UZ 220 #[pt g 0,i6 n] [pk (aG g m)] [0] (λ_=>[pk (aG g m)]) (λ_=> .tuple #[i6 0,i6 0,i6 0,i6 12]):=aa.pkZ Tryz.func220 λL e=>by
 obtain⟨t,u,v,rfl⟩:=e;refine⟨[1,2,3],λ_=>[bL t m.N,eM u m.P,da v m.K],?_,rfl,λE=>⟨rfl,rfl,⟨_,_,_,rfl⟩⟩⟩;have d:=a.O;have b:=a.ly;have o:=a.np;have h:=a.ll;have f:=a.ld;have i:=a.ls;have p:=a.pg;have r:=a.rk;have s:=b.rp;have q:=d.bd.r8;have k:=a.lines;exact fG Tryz.func220 λw x=>r0 [] [(4,i6 0),(5,i6 0),(6,i6 0),(7,i6 0)] [] (rT [(4,.l 0),(5,.c [] [] (xn m.R m.S m.B m.M m.C m.G m.res b)),(6,.c [] [] (aa.v ((uh n (((((m.R*m.B)*m.M)-m.res)*m.C:Nat):Int))) λ_=>ALca Value.bool (show(bR n (((((m.R*m.B)*m.M)-m.res)*m.C:Nat):Int))=false from(by exact j))))] 16 (r0 [] [(4,i6 0),(5,i6 0),(6,i6 0),(7,i6 12)] [4,5,6,7] (lf ab.zero [1,2,3] [(0,0)] [])))
theorem xr(g:Nat)(m:Mp)(a:bn m)(f h i:Value):aa UZ 264 #[pt g 0] [ob g #[iN m.R,iN m.S,iN m.B,iN m.M,iN m.C,iN m.G,iN m.res,f,h,i,iN m.Q,iN m.F] 137,bL f m.N,eM h m.P,da i m.K] [1,2,3] (λ_=>[bL f m.N,eM h m.P,da i m.K]) (λ_=> .tuple #[iN (dV m),.bool (du m)]):=by
 have k:=a.O;have b:=a.ly;have q:=a.np;have o:=a.ll;have n:=a.ld;have p:=a.ls;have r:=a.pg;have t:=a.rk;have u:=b.rp;have s:=k.bd.r8;refine fG Tryz.func264 λw v=>r0 [] [(2,i6 0),(3,.bool false)] [] (r0 [(3,.l 0),(8,.l 0)] [(13,.bool ((m.Q:Int)==(m.res:Int)))] [] ?_);refine cD (m.Q:Int) (m.res:Int) (λj d=>?_) λj d=>?_
 ·exact r0 [] [(2,i6 0),(3,.bool false)] [2,3] (ak (.tuple #[i6 0,.bool false]) ab.zero (by by_cases e:m.Q=m.res<;>first | (exfalso;omega) | (simp [dV,du,e])) [1,2,3] [(0,0)] [])
 exact r0 [(3,.m (ls 0 ([iN m.R,iN m.S,iN m.B,iN m.M,iN m.C,iN m.G,iN m.res]))),(4,.c [] [] (px m.R m.S m.B m.M m.C m.G m.res b)),(8,.m (ld 0 (iN m.Q))),(9,ad (((m.R*m.B)*m.M)-m.res) m.Q),] [(2,iN ((((m.R*m.B)*m.M)-m.res)+m.Q)),(3,.bool true)] [2,3] (ak (.tuple #[iN ((((m.R*m.B)*m.M)-m.res)+m.Q),.bool true]) ab.zero (by by_cases e:m.Q=m.res<;>first | (exfalso;omega) | (simp [dV,du,e])) [1,2,3] [(0,0)] [])
theorem MT(g:Nat)(m:Mp)(e:bn m):aa UZ 264 #[pt g 0] [pk (aG g m)] [0] (λ_=>[pk (aG g m)]) (λ_=> .tuple #[iN (dV m),.bool (du m)]):=aa.pkZ Tryz.func264 λL d=>by
 obtain⟨a,b,c,rfl⟩:=d;exact⟨[1,2,3],λ_=>[bL a m.N,eM b m.P,da c m.K],xr g m e a b c,rfl,λE=>⟨rfl,rfl,⟨_,_,_,rfl⟩⟩⟩
theorem CG(g:Nat)(m:Mp)(a:bn m)(e f h:Value):aa UZ 281 #[pt g 0] [ob g #[iN m.R,iN m.S,iN m.B,iN m.M,iN m.C,iN m.G,iN m.res,e,f,h,iN m.Q,iN m.F] 137,bL e m.N,eM f m.P,da h m.K] [1,2,3] (λ_=>[bL e m.N,eM f m.P,da h m.K]) (λ_=> .tuple #[iN (fy m),.bool (ei m)]):=by
 have j:=a.O;have d:=a.ly;have p:=a.np;have n:=a.ll;have k:=a.ld;have o:=a.ls;have q:=a.pg;have s:=a.rk;have t:=d.rp;have r:=j.bd.r8;refine fG Tryz.func281 λw u=>r0 [] [(2,i6 0),(3,.bool false)] [] (r0 [(3,.l 0),(9,.l 0)] [(14,.bool ((m.F:Int)==(m.S:Int)))] [] ?_);refine cD (m.F:Int) (m.S:Int) (λi b=>?_) λi b=>?_
 ·exact r0 [] [(2,i6 0),(3,.bool false)] [2,3] (ak (.tuple #[i6 0,.bool false]) ab.zero (by by_cases c:m.F=m.S<;>first | (exfalso;omega) | (simp [fy,ei,c])) [1,2,3] [(0,0)] [])
 exact r0 [(5,.m (ld 0 (iN m.R))),(9,.m (ld 0 (iN m.F))),(10,ad m.R m.F),] [(2,iN (m.R+m.F)),(3,.bool true)] [2,3] (ak (.tuple #[iN (m.R+m.F),.bool true]) ab.zero (by by_cases c:m.F=m.S<;>first | (exfalso;omega) | (simp [fy,ei,c])) [1,2,3] [(0,0)] [])
end
section
open Go.Shelf
theorem MU(g:Nat)(m:Mp)(a:bn m)(f:du m=true):aa UZ 265 #[pt g 0] [pk (aG g m)] [0] (λ_=>[pk (aG g (pr m))]) (λ_=> .tuple #[iN (dV m),i6 0]):=aa.pkZ Tryz.func265 λL k=>by
 obtain⟨b,d,e,rfl⟩:=k;refine⟨[0,1,2,3],λ_=>[ob g #[iN m.R,iN m.S,iN m.B,iN m.M,iN m.C,iN m.G,iN m.res,b,d,e,iN (m.Q+1),iN m.F] 137,bL b m.N,eM d m.P,da e m.K],?_,rfl,λE=>⟨rfl,rfl,⟨_,_,_,rfl⟩⟩⟩;have j:=a.O;have h:=a.ly;have q:=a.np;have o:=a.ll;have n:=a.ld;have p:=a.ls;have r:=a.pg;have u:=a.rk;have v:=h.rp;have t:=j.bd.r8;refine fG Tryz.func265 λw x=>r0 [] [(2,i6 0),(3,i6 0)] [] (r0 [(1,.c [0,1,2,3] [1,2,3] (xr g m a b d e))] [(4,iN (dV m)),(5,.bool (du m))] [] (r0 [] [(12,.bool (!(du m)))] [] ?_));have i:(!(du m))=false:=(by rw[f];rfl);exact cF (!(du m)) i (rs [(3,.l 0),(4,ad m.Q 1),(7,.s 0)] 0 (ob g #[iN m.R,iN m.S,iN m.B,iN m.M,iN m.C,iN m.G,iN m.res,b,d,e,iN (m.Q+1),iN m.F] 137) (r0 [] [(2,iN (dV m)),(3,i6 0)] [2,3] (lf ab.zero [0,1,2,3] [] [])))
theorem MV(g:Nat)(m:Mp)(a:bn m)(b:du m=false):aa UZ 265 #[pt g 0] [pk (aG g m)] [0] (λ_=>[pk (aG g m)]) (λ_=> .tuple #[i6 0,i6 52]):=aa.pkZ Tryz.func265 λL k=>by
 obtain⟨e,f,h,rfl⟩:=k;refine⟨[1,2,3],λ_=>[bL e m.N,eM f m.P,da h m.K],?_,rfl,λE=>⟨rfl,rfl,⟨_,_,_,rfl⟩⟩⟩;have j:=a.O;have d:=a.ly;have p:=a.np;have n:=a.ll;have l:=a.ld;have o:=a.ls;have q:=a.pg;have s:=a.rk;have t:=d.rp;have r:=j.bd.r8;refine fG Tryz.func265 λw u=>r0 [] [(2,i6 0),(3,i6 0)] [] (r0 [(1,.c [0,1,2,3] [1,2,3] (xr g m a e f h))] [(4,iN (dV m)),(5,.bool (du m))] [] (r0 [] [(12,.bool (!(du m)))] [] ?_));have i:(!(du m))=true:=(by rw[b];rfl);exact cT (!(du m)) i (r0 [] [(2,i6 0),(3,i6 52)] [2,3] (lf ab.zero [1,2,3] [(0,0)] []))
theorem MW(g:Nat)(m:Mp)(a:bn m)(f:ei m=true):aa UZ 266 #[pt g 0] [pk (aG g m)] [0] (λ_=>[pk (aG g (pv m))]) (λ_=> .tuple #[iN (fy m),i6 0]):=aa.pkZ Tryz.func266 λL k=>by
 obtain⟨b,d,e,rfl⟩:=k;refine⟨[0,1,2,3],λ_=>[ob g #[iN m.R,iN m.S,iN m.B,iN m.M,iN m.C,iN m.G,iN m.res,b,d,e,iN m.Q,iN (m.F+1)] 137,bL b m.N,eM d m.P,da e m.K],?_,rfl,λE=>⟨rfl,rfl,⟨_,_,_,rfl⟩⟩⟩;have j:=a.O;have h:=a.ly;have q:=a.np;have o:=a.ll;have n:=a.ld;have p:=a.ls;have r:=a.pg;have u:=a.rk;have v:=h.rp;have t:=j.bd.r8;refine fG Tryz.func266 λw x=>r0 [] [(2,i6 0),(3,i6 0)] [] (r0 [(1,.c [0,1,2,3] [1,2,3] (CG g m a b d e))] [(4,iN (fy m)),(5,.bool (ei m))] [] (r0 [] [(12,.bool (!(ei m)))] [] ?_));have i:(!(ei m))=false:=(by rw[f];rfl);exact cF (!(ei m)) i (rs [(3,.l 0),(4,ad m.F 1),(7,.s 0)] 0 (ob g #[iN m.R,iN m.S,iN m.B,iN m.M,iN m.C,iN m.G,iN m.res,b,d,e,iN m.Q,iN (m.F+1)] 137) (r0 [] [(2,iN (fy m)),(3,i6 0)] [2,3] (lf ab.zero [0,1,2,3] [] [])))
theorem MX(g:Nat)(m:Mp)(a:bn m)(b:ei m=false):aa UZ 266 #[pt g 0] [pk (aG g m)] [0] (λ_=>[pk (aG g m)]) (λ_=> .tuple #[i6 0,i6 52]):=aa.pkZ Tryz.func266 λL k=>by
 obtain⟨e,f,h,rfl⟩:=k;refine⟨[1,2,3],λ_=>[bL e m.N,eM f m.P,da h m.K],?_,rfl,λE=>⟨rfl,rfl,⟨_,_,_,rfl⟩⟩⟩;have j:=a.O;have d:=a.ly;have p:=a.np;have n:=a.ll;have l:=a.ld;have o:=a.ls;have q:=a.pg;have s:=a.rk;have t:=d.rp;have r:=j.bd.r8;refine fG Tryz.func266 λw u=>r0 [] [(2,i6 0),(3,i6 0)] [] (r0 [(1,.c [0,1,2,3] [1,2,3] (CG g m a e f h))] [(4,iN (fy m)),(5,.bool (ei m))] [] (r0 [] [(12,.bool (!(ei m)))] [] ?_));have i:(!(ei m))=true:=(by rw[b];rfl);exact cT (!(ei m)) i (r0 [] [(2,i6 0),(3,i6 52)] [2,3] (lf ab.zero [1,2,3] [(0,0)] []))
theorem MY(g:Nat)(m:Mp)(f:bn m)(h t:Nat)(O:h<m.R*m.B*m.M)(K:m.R*m.B*m.M-m.res≤t)(M:t<m.R*m.B*m.M-m.res+m.Q)(x:m.P.getD h false=false)(p:m.P.getD t false=false)(C:h≠t):aa UZ 245 #[pt g 0,iN h,iN t] [pk (aG g m)] [0] (λ_=>[pk (aG g (rl m h t))]) (λ_=>i6 0):=aa.pkZ Tryz.func245 λL v=>by
 obtain⟨e,d,q,rfl⟩:=v;refine⟨[1,2,3],λ_=>[bL e (dI m.N h t m.N.length),eM d (m.P.set h true),da q m.K],?_,rfl,λE=>⟨rfl,rfl,⟨_,_,_,rfl⟩⟩⟩;have u:=f.O;have n:=f.ly;have D:=f.np;have A:=f.ll;have z:=f.ld;have B:=f.ls;have F:=f.pg;have H:=f.rk;have J:=n.rp;have G:=u.bd.r8;refine fG Tryz.func245 λw N=>r0 [] [(6,i6 0)] [] (rF [(4,.m (ld 0 (d))),(5,ew jV d m.P 2),(6,.c [] [] (ox h m.P.length Om)),(13,.m (ls 0 ([iN m.R,iN m.S,iN m.B,iN m.M,iN m.C,iN m.G,iN m.res]))),(14,.c [] [] (px m.R m.S m.B m.M m.C m.G m.res n)),(15,.t (tb (a:=iN t) (b:=iN (((m.R*m.B)*m.M)-m.res)) λ_ _ _ _=>kQ (a:=t) (b:=((m.R*m.B)*m.M)-m.res) Om Om)),(19,.m (ld 0 (iN m.Q))),(20,.c [] [] (ox (t-(((m.R*m.B)*m.M)-m.res)) m.Q Om)),] 9 (r0 [(3,.m (ld 0 (d))),(5,cp jV d m.P 2 h),(6,eL jV d m.P 2 h 0),(11,.m (ld 0 (d))),(13,cp jV d m.P 2 t),(14,eL jV d m.P 2 t 0),] [(33,.bool (((m.P.getD h false)||(m.P.getD t false))||((h:Int)==(t:Int))))] [] ?_));have r:(((m.P.getD h false)||(m.P.getD t false))||((h:Int)==(t:Int)))=false:=by rw[x,p];simpa using(show(h:Int)≠(t:Int) by omega)
 refine cF (((m.P.getD h false)||(m.P.getD t false))||((h:Int)==(t:Int))) r (rs [(3,.l 0),(5,cp jV d m.P 2 h),(6,qu jV d m.P 2 h 0 true (.bool true) Kr)] 2 (eM d (m.P.set h true)) (r0 [(3,.l 0),(4,ew b8 e m.N 1)] [(64,e),(65,iN m.N.length),(66,i6 0)] [] ?_));refine lq (λk=>k≤m.N.length) (λk=>[(66,iN k)]) (λk L=>L.set 1 (bL e (dI m.N h t k))) (λk=>m.N.length-k) 0 Om Kr (by rw[MN];kernel_rfl) (λk y=>?_);have I:=Cz m.N h t k;refine r0 [] [(67,.bool (decide ((k:Int)<(m.N.length:Int))))] [] ?_;refine b4 (k:Int) (m.N.length:Int) (λs o=>?_) λs o=>?_
 ·refine r0 [(1,cp b8 e (dI m.N h t k) 1 k),(2,eL b8 e (dI m.N h t k) 1 k 0)] [(7,iN k),(8,iN ((dI m.N h t k).getD k 0))] [] (r0 [] [(73,.bool (((((dI m.N h t k).getD k 0):Nat):Int)==(h:Int)))] [] ?_);refine cJ (((((dI m.N h t k).getD k 0):Nat):Int)==(h:Int)) N0 (λc=>[ob g #[iN m.R,iN m.S,iN m.B,iN m.M,iN m.C,iN m.G,iN m.res,e,d,q,iN m.Q,iN m.F] 137,bL e (bif c then(dI m.N h t k).set k t else dI m.N h t k),eM d (m.P.set h true),da q m.K]) (λi=>?_) (λi=>?_) ?_
  ·have j:=eq_of_beq i;refine rs [(3,.l 0),(6,cp b8 e (dI m.N h t k) 1 k),(7,qu b8 e (dI m.N h t k) 1 k 0 t (iN t) Kr)] 1 (bL e ((dI m.N h t k).set k t)) ?_;exact cm Kr [0,1,2,3] Kr
  ·have j:=ne_of_beq_false i;exact cm Kr [0,1,2,3] Kr
  exact r0 [(0,ad k 1)] [(66,iN (k+1))] [66] (le (k+1) Om Om Kr [0,1,2,3] (by rw[←MQ Om];kernel_rfl))
 obtain rfl:m.N.length=k:=by omega
 exact lx (r0 [] [(6,i6 0)] [6] (lf ab.zero [1,2,3] [(0,0)] []))
theorem MZ(g:Nat)(m:Mp)(d:bn m)(r t:Nat)(C:r<m.R)(x:m.R≤t)(y:t<m.R+m.F)(hs:ff m r=false):aa UZ 246 #[pt g 0,iN r,iN t] [pk (aG g m)] [0] (λ_=>[pk (aG g (rm m r t))]) (λ_=>i6 0):=aa.pkZ Tryz.func246 λL j=>by
 obtain⟨z,A,e,rfl⟩:=j;refine⟨[1,2,3],λ_=>[bL z m.N,eM A m.P,da e (m.K.set r (t:Int))],?_,rfl,λE=>⟨rfl,rfl,⟨_,_,_,rfl⟩⟩⟩;have i:=d.O;have f:=d.ly;have p:=d.np;have n:=d.ll;have k:=d.ld;have o:=d.ls;have q:=d.pg;have u:=d.rk;have v:=f.rp;have s:=i.bd.r8;refine fG Tryz.func246 λw B=>r0 [] [(6,i6 0)] [] (rF [(4,.m (ld 0 (e))),(5,ew kI e m.K 3),(6,.c [] [] (ox r m.K.length Om)),(15,.m (ld 0 (iN m.R))),(16,.t (tb (a:=iN t) (b:=iN m.R) λ_ _ _ _=>kQ (a:=t) (b:=m.R) Om Om)),(20,.m (ld 0 (iN m.F))),(21,.c [] [] (ox (t-m.R) m.F Om)),] 7 (r0 [(3,.l 0),(5,cp kI e m.K 3 r),(6,eL kI e m.K 3 r 0)] [(32,.bool ((m.K.getD r 0) != (-1)))] [] ?_));have h:((m.K.getD r 0) != (-1))=false:=by exact hs
 exact cF ((m.K.getD r 0) != (-1)) h (rs [(3,.l 0),(6,cp kI e m.K 3 r),(7,qu kI e m.K 3 r 0 (t:Int) (iN t) Kr)] 3 (da e (m.K.set r (t:Int))) (r0 [] [(6,i6 0)] [6] (lf ab.zero [1,2,3] [(0,0)] [])))
theorem M1(R S B M C way res:Nat)(hly:gT R S B M C way res):aa UZ 175 #[.agg #[iN R,iN S,iN B,iN M,iN C,iN way,iN res]] [] [] (λE=>[ob (E.y 0) #[iN R,iN S,iN B,iN M,iN C,iN way,iN res,(E.val 0),(E.val 1),(E.val 2),i6 0,i6 0] 137,bL (E.val 0) (U1 (R*B*M-res)),eM (E.val 1) (U2 ((R*B)*M) false),da (E.val 2) (U2 R (-1))]) (λE=> .tuple #[pt ((E.y 0)) 0,i6 0]):=by
 have hG:=hly.O
 have hrp:=hly.rp
 have hnp:=hG.bd.rbm
 have hway:=hly.G
 have hr64:=hly.r64
 have hlines:=hG.bd.r8
 refine fG Tryz.func175 λw cs=>ra (λq1=>[(1,pt (B0 q1) 0),(2,.pointer none),(3,i6 0)]) (λq1=>[ob (B0 q1) #[iN R,iN S,iN B,iN M,iN C,iN way,iN res] 25]) λq1=>rF [(0,.l 0),(1,.c [] [] (CB R S B M C way res hly))] 8 (rr (λ_=>[(0,.l 0),(2,.l 0),(3,.c [] [] (lU R S B M C hG)),(4,qA jV 1 ((R*B)*M))]) (λq3=>[(4,pt (B6 q3) 0)]) [] (λq3 L=>L++[eM (.slice (some ⟨(q3 4).y 0,0,none⟩) ((R*B)*M) ((R*B)*M)) (U2 ((R*B)*M) false),ob (B6 q3) #[iN R,iN S,iN B,iN M,iN C,iN way,iN res,.slice none 0 0,.slice (some ⟨(q3 4).y 0,0,none⟩) ((R*B)*M) ((R*B)*M),.slice none 0 0,i6 0,i6 0] 137]) λq3=>r0 [(0,.l 0),(1,.c [] [] (px R S B M C way res hly))] [(17,iN (((R*B)*M)-res)),(18,i6 0)] [] (cz b8 ?_))
 refine mF (λk _=>k≤(R*B*M-res)) (λk _=>[(18,iN k)]) (λk vC4_7 L=>(L.set 2 (ob (B6 q3) #[iN R,iN S,iN B,iN M,iN C,iN way,iN res,vC4_7,.slice (some ⟨(q3 4).y 0,0,none⟩) ((R*B)*M) ((R*B)*M),.slice none 0 0,i6 0,i6 0] 137)).set 3 (bL vC4_7 (U1 k))) (λk _=>(R*B*M-res)-k) 0 (.slice none 0 0) Om Kr Kr (λk vC4_7 hk5=>?_)
 have hkl:(U1 k).length=k:=Vc
 refine r0 [] [(19,.bool (decide ((k:Int)<((((R*B)*M)-res:Nat):Int))))] [] ?_
 refine b4 (k:Int) ((((R*B)*M)-res:Nat):Int) (λh7 dh7=>?_) λh7 dh7=>?_
 ·exact r0 [] [(5,iN k)] [] (rr (λq9=>[(4,.l 2),(6,.m (bs 4 1)),(7,eX b8 (vC4_7) (U1 k) 3 4 ([k])),(10,.m (e6 2 3 (bL ((q9 7).val 0) ((U1 k)++([k]))) ((q9 7).val 0) λbs h=>ao.one ((λ_ h=>h) bs h)))]) N0 [] (λq9 L=>(L.set 2 (ob (B6 q3) #[iN R,iN S,iN B,iN M,iN C,iN way,iN res,(q9 7).val 0,.slice (some ⟨(q3 4).y 0,0,none⟩) ((R*B)*M) ((R*B)*M),.slice none 0 0,i6 0,i6 0] 137)).set 3 (bL ((q9 7).val 0) ((U1 k)++([k])))++[ob (B6 q9) #[iN k] 3]) λq9=>r0 [(0,ad k 1)] [(18,iN (k+1))] [18] (kO (k+1) ((q9 7).val 0) Om Om Kr [0,1,2,3] (by rw[Vu];kernel_rfl)))
 obtain rfl:k=(R*B*M-res):=by omega
 refine kP ?_
 refine r0 [(2,.l 0)] [(34,iN R),(35,i6 0)] [] (cz kI ?_)
 refine mF (λj _=>j≤R) (λj _=>[(35,iN j)]) (λj vC4_9 L=>(L.set 2 (ob (B6 q3) #[iN R,iN S,iN B,iN M,iN C,iN way,iN res,vC4_7,.slice (some ⟨(q3 4).y 0,0,none⟩) ((R*B)*M) ((R*B)*M),vC4_9,i6 0,i6 0] 137)).set 4 (da vC4_9 (U2 j (-1)))) (λj _=>R-j) 0 (.slice none 0 0) Om Kr Kr (λj vC4_9 hk12=>?_)
 have hjl:(U2 j (-1:Int)).length=j:=Vp
 refine r0 [] [(36,.bool (decide ((j:Int)<(R:Int))))] [] ?_
 refine b4 (j:Int) (R:Int) (λh14 dh14=>?_) λh14 dh14=>?_
 ·exact rr (λq15=>[(4,.l 2),(5,.m (bs 5 1)),(6,eX kI (vC4_9) (U2 j (-1)) 4 5 ([(-1)])),(9,.m (e6 2 4 (da ((q15 6).val 0) ((U2 j (-1))++([(-1)]))) ((q15 6).val 0) λbs h=>ao.one ((λ_ h=>h) bs h)))]) N0 [] (λq15 L=>(L.set 2 (ob (B6 q3) #[iN R,iN S,iN B,iN M,iN C,iN way,iN res,vC4_7,.slice (some ⟨(q3 4).y 0,0,none⟩) ((R*B)*M) ((R*B)*M),(q15 6).val 0,i6 0,i6 0] 137)).set 4 (da ((q15 6).val 0) ((U2 j (-1))++([(-1)])))++[ob (B5 q15) #[i6 (-1)] 3]) λq15=>r0 [(0,ad j 1)] [(35,iN (j+1))] [35] (kO (j+1) ((q15 6).val 0) Om Om Kr [0,1,2,3,4] (by rw[List.replicate_succ'];kernel_rfl))
 obtain rfl:R=j:=by omega
 refine kP ?_
 exact r0 [] [(2,pt (B6 q3) 0),(3,i6 0)] [2,3] (lf (.l [(q3 6).y 0] [] [vC4_7,.slice (some ⟨(q3 4).y 0,0,none⟩) ((R*B)*M) ((R*B)*M),vC4_9]) [2,3,1,4] [] [])
theorem M3(R S B M C way a:Nat)(b:gT R S B M C way a):aa UZ 175 #[.agg #[iN R,iN S,iN B,iN M,iN C,iN way,iN a]] [] [] (λE=>[pk (aG (E.y 0) (kW R S B M C way a))]) (λE=> .tuple #[pt ((E.y 0)) 0,i6 0]):=(M1 R S B M C way a b).outs λE d c=>qY ⟨_,_,_,rfl⟩ c
end
section
open Go.Shelf
theorem kX(a b:Nat):((a:Int)==(b:Int))=decide (a=b):=by
 by_cases h:a=b
 ·subst h;rw[cS rfl];exact beq_self_eq_true _
 ·rw[bg h,dR];omega
theorem xu(a b:Nat):decide ((a:Int)≤(b:Int))=decide (a≤b):=by
 by_cases h:a≤b
 ·rw[cS h,cS Om]
 ·rw[bg h,bg Om]
structure Jb where
 A:Nat
 fr:Nat
 tg:Nat
 nx:Nat
def kY:Jb:=⟨0,0,0,0⟩
def gj(a B M C:Nat):Nat:=match a with
 | 0=>0
 | 1=>C
 | _=>B*M*C
structure nC (m:Mp) (fr t nx:Nat):Prop where
 hf:fr<m.R*m.B*m.M
 ht:t<m.R*m.B*m.M
 ne:fr≠t
 df:m.P.getD fr false=false
 dt:m.P.getD t false=false
 t0:m.R*m.B*m.M-m.res≤t
 t1:t<m.R*m.B*m.M-m.res+m.Q
 nx:nx≤m.C
 f1:fr<m.R*m.B*m.M-m.res+m.Q
structure nD (m:Mp) (fr t nx:Nat):Prop where
 hf:fr<m.R
 hs:ff m fr=false
 t0:m.R≤t
 t1:t<m.R+m.F
 nx:nx≤m.B*m.M*m.C
structure rn (m:Mp) (j:Jb):Prop where
 k:j=kY∨(j.A=1∧nC m j.fr j.tg j.nx)∨(j.A=2∧nD m j.fr j.tg j.nx)
def jX(m:Mp)(r i:Nat):Nat:=bT r (i/m.C/m.M) (i/m.C%m.M) (i%m.C)
def ba(m:Mp)(a w i:Nat):Nat:=match a with
 | 1=>bq m w*64+i
 | _=>jX m w i
def iI(m:Mp)(n:Nat):Nat:=(fx m.G m.R m.B m.M (ay m n)*m.M+fw m.G m.R m.B m.M (ay m n))*m.C+n%m.C
def aR(m:Mp)(j:Jb)(n:Nat):Nat:=match j.A with
 | 0=>eO m n
 | 1=>if ay m n=j.fr then(if n%m.C<j.nx then ba m 1 j.tg (n%m.C) else eO m n) else eO m n
 | _=>if aK m.G m.R m.B m.M (ay m n)=j.fr then(if iI m n<j.nx then ba m 2 j.tg (iI m n) else eO m n) else eO m n
section
variable {m:Mp}
theorem ui(h:bn m){r i:Nat}(c:r<m.R+m.S)(b:i<m.B*m.M*m.C):gS m.R m.S m.B m.M m.C r (i/m.C/m.M) (i/m.C%m.M) (i%m.C):=by
 have a:=h.O.bd;refine⟨c,?_,U8 _ a.m1,U8 _ a.c1⟩;exact VB (Vf m.B m.M▸VB (Vf (m.B*m.M) m.C▸b))
theorem xv(h:bn m){n:Nat}(d:n<(m.R*m.B*m.M-m.res)*m.C):iI m n<m.B*m.M*m.C:=by
 have a:=ue h (ug h d);have e:=U8 n h.O.bd.c1;have b:fx m.G m.R m.B m.M (ay m n)*m.M+fw m.G m.R m.B m.M (ay m n)<m.B*m.M:=by
  have:(fx m.G m.R m.B m.M (ay m n)+1)*m.M≤m.B*m.M:=Va _ a.h1;rw[Vq] at this;have:=a.h2;omega
 have c:(fx m.G m.R m.B m.M (ay m n)*m.M+fw m.G m.R m.B m.M (ay m n)+1)*m.C≤m.B*m.M*m.C:=Va _ b;rw[Vq] at c;unfold iI;omega
theorem CH(m:Mp)(n:Nat):eO m n=bT (kV m (ay m n)) (fx m.G m.R m.B m.M (ay m n)) (fw m.G m.R m.B m.M (ay m n)) (n%m.C):=by unfold eO bq bT;omega
theorem CI(h:bn m){n:Nat}(b:n<(m.R*m.B*m.M-m.res)*m.C):gS m.R m.S m.B m.M m.C (kV m (ay m n)) (fx m.G m.R m.B m.M (ay m n)) (fw m.G m.R m.B m.M (ay m n)) (n%m.C):=by
 have a:=ue h (ug h b);exact⟨a.h0,a.h1,a.h2,U8 _ h.O.bd.c1⟩
end
end
section
open Go.Shelf
theorem CJ(i n:Int):aa UZ 187 #[i6 i,i6 n] [] [] N0 (λ_=> .bool (bR i n)):=by
 exact fG Tryz.func187 λw a=>r0 [] [(4,.bool false)] [] (r0 [] [(4,.bool ((decide (0≤i))&&(decide (i<n))))] [4] (ak (.bool ((decide (0≤i))&&(decide (i<n)))) ab.zero a7 [] [] []))
theorem nE(i n:Nat)(h:i<n):aa UZ 187 #[iN i,iN n] [] [] N0 (λ_=> .bool true):=by
 have a:=CJ i n;rwa [kU.2 ⟨by omega,by omega⟩] at a
theorem M4(d t f R S B M C way a:Nat)(c:gT R S B M C way a):aa UZ 188 #[.agg #[i6 0,iN d,iN t,iN f],.agg #[iN R,iN S,iN B,iN M,iN C,iN way,iN a]] [] [] N0 (λ_=>i6 0):=by
 have g:=c.O;have e:=g.bd.bmc;exact fG Tryz.func188 λw h=>ra (λb=>[(2,pt (B0 b) 0),(3,pt (B1 b) 0),(4,i6 0)]) (λb=>[ob (B0 b) #[i6 0,iN d,iN t,iN f] 70,ob (B1 b) #[iN R,iN S,iN B,iN M,iN C,iN way,iN a] 25]) λb=>r0 [(1,.l 0)] [(6,i6 0)] [] (rF [] 7 (rF [] 12 (r0 [] [(4,i6 0)] [4] (lf ab.zero [] [] []))))
theorem xw(d t f R S B M C way a:Nat)(c:gT R S B M C way a):aa UZ 188 #[.agg #[i6 1,iN d,iN t,iN f],.agg #[iN R,iN S,iN B,iN M,iN C,iN way,iN a]] [] [] N0 (λ_=>iN C):=by
 have g:=c.O;have e:=g.bd.bmc;exact fG Tryz.func188 λw h=>ra (λb=>[(2,pt (B0 b) 0),(3,pt (B1 b) 0),(4,i6 0)]) (λb=>[ob (B0 b) #[i6 1,iN d,iN t,iN f] 70,ob (B1 b) #[iN R,iN S,iN B,iN M,iN C,iN way,iN a] 25]) λb=>r0 [(1,.l 0)] [(6,i6 1)] [] (rT [] 7 (r0 [(2,.l 1)] [(4,iN C)] [4] (lf ab.zero [] [] [])))
theorem xx(e t h R S B M C way a:Nat)(d:gT R S B M C way a):aa UZ 188 #[.agg #[i6 2,iN e,iN t,iN h],.agg #[iN R,iN S,iN B,iN M,iN C,iN way,iN a]] [] [] N0 (λ_=>iN ((B*M)*C)):=by
 have f:=d.O;have g:=f.bd.bmc;exact fG Tryz.func188 λw i=>ra (λb=>[(2,pt (B0 b) 0),(3,pt (B1 b) 0),(4,i6 0)]) (λb=>[ob (B0 b) #[i6 2,iN e,iN t,iN h] 70,ob (B1 b) #[iN R,iN S,iN B,iN M,iN C,iN way,iN a] 25]) λb=>r0 [(1,.l 0)] [(6,i6 2)] [] (rF [] 7 (rT [] 12 (r0 [(1,.l 1),(2,.c [] [] (Mi R S B M C f))] [(4,iN ((B*M)*C))] [4] (lf ab.zero [] [] []))))
theorem M5(f t b R S B M C way a:Nat)(e:gT R S B M C way a):aa UZ 211 #[.agg #[i6 1,iN f,iN t,iN b],.agg #[iN R,iN S,iN B,iN M,iN C,iN way,iN a]] [] [] N0 (λ_=> .bool (decide (b=C))):=by
 have h:=e.O;have g:=h.bd.bmc;exact fG Tryz.func211 λw i=>ra (λd=>[(2,pt (B0 d) 0),(3,pt (B1 d) 0),(4,.bool false)]) (λd=>[ob (B0 d) #[i6 1,iN f,iN t,iN b] 70,ob (B1 d) #[iN R,iN S,iN B,iN M,iN C,iN way,iN a] 25]) λd=>r0 [(1,.m (ld 0 (i6 1))),(5,.m (ld 0 (iN b))),(6,.m (ls 0 ([i6 1,iN f,iN t,iN b]))),(7,.m (ls 1 ([iN R,iN S,iN B,iN M,iN C,iN way,iN a]))),(8,.c [] [] (xw f t b R S B M C way a e)),] [(4,.bool ((b:Int)==(C:Int)))] [4] (ak (.bool ((b:Int)==(C:Int))) ab.zero (by exact ALca Value.bool (kX b C)) [] [] [])
theorem M6(f t b R S B M C way a:Nat)(e:gT R S B M C way a):aa UZ 211 #[.agg #[i6 2,iN f,iN t,iN b],.agg #[iN R,iN S,iN B,iN M,iN C,iN way,iN a]] [] [] N0 (λ_=> .bool (decide (b=B*M*C))):=by
 have h:=e.O;have g:=h.bd.bmc;exact fG Tryz.func211 λw i=>ra (λd=>[(2,pt (B0 d) 0),(3,pt (B1 d) 0),(4,.bool false)]) (λd=>[ob (B0 d) #[i6 2,iN f,iN t,iN b] 70,ob (B1 d) #[iN R,iN S,iN B,iN M,iN C,iN way,iN a] 25]) λd=>r0 [(1,.m (ld 0 (i6 2))),(5,.m (ld 0 (iN b))),(6,.m (ls 0 ([i6 2,iN f,iN t,iN b]))),(7,.m (ls 1 ([iN R,iN S,iN B,iN M,iN C,iN way,iN a]))),(8,.c [] [] (xx f t b R S B M C way a e)),] [(4,.bool ((b:Int)==(((B*M)*C:Nat):Int)))] [4] (ak (.bool ((b:Int)==(((B*M)*C:Nat):Int))) ab.zero (by exact ALca Value.bool (kX b (B*M*C))) [] [] [])
theorem M7(g:Nat)(m:Mp)(d:bn m)(a t h:Nat)(e:nC m a t h):aa UZ 222 #[.agg #[i6 1,iN a,iN t,iN h],pt g 0] [pk (aG g m)] [0] (λ_=>[pk (aG g m)]) (λ_=> .bool true):=by
 have b:=d.O;have p:=d.ly;have r:=d.np;have i:=b.bd.bmc;have k:=b.bd.c1;have q:=b.bd.m1;have j:=b.bd.c64;have s:=b.bd.r8;have l:=e.hf;have n:=e.ht;have o:=e.ne;exact fG Tryz.func222 λw u=>ra (λf=>[(2,pt (B0 f) 0),(4,.bool false)]) (λf=>[ob (B0 f) #[i6 1,iN a,iN t,iN h] 70]) λf=>r0 [(1,.c [0] [0] (iH g m d)),(3,.c [] [] (lU m.R m.S m.B m.M m.C b))] [(5,iN ((m.R*m.B)*m.M))] [] (r0 [(1,.m (ld 1 (iN a))),(3,.c [] [] (nE a ((m.R*m.B)*m.M) Om)),(6,.m (ld 1 (iN t))),(8,.c [] [] (nE t ((m.R*m.B)*m.M) Om)),(12,.m (ld 1 (iN a))),(14,.m (ld 1 (iN t))),(15,.t (tk (show Value.bool ((a:Int) != (t:Int))= .bool true from ALca Value.bool (by simp;omega)))),(20,.m (ld 1 (iN a))),(21,.c [0] [0] (aa.v ((xp g m d a Om)) λ_=>ALca Value.bool (show((m.P.getD a false))=false from(by exact e.df)))),(27,.m (ld 1 (iN t))),(28,.c [0] [0] (aa.v ((xp g m d t Om)) λ_=>ALca Value.bool (show((m.P.getD t false))=false from(by exact e.dt)))),] [(4,.bool true)] [4] (lf ab.zero [0] [] []))
theorem M8(g:Nat)(m:Mp)(e:bn m)(d t k:Nat)(h:nD m d t k):aa UZ 223 #[.agg #[i6 2,iN d,iN t,iN k],pt g 0] [pk (aG g m)] [0] (λ_=>[pk (aG g m)]) (λ_=> .bool true):=by
 have f:=e.O;have x:=e.ly;have z:=e.np;have n:=f.bd.bmc;have p:=f.bd.c1;have y:=f.bd.m1;have o:=f.bd.c64;have A:=f.bd.r8;have q:=h.hf;have r:=h.t0;have u:=h.t1;have v:=e.rk;exact fG Tryz.func223 λw B=>ra (λi=>[(2,pt (B0 i) 0),(4,.bool false)]) (λi=>[ob (B0 i) #[i6 2,iN d,iN t,iN k] 70]) λi=>rr (λ_=>[(1,.c [0] [0] (iH g m e)),(4,.s 2)]) (λj=>[(5,pt (B3 j) 0)]) [] (λj L=>L++[ob (B3 j) #[iN m.R,iN m.S,iN m.B,iN m.M,iN m.C] 23]) λj=>r0 [(2,.l 1),(3,.c [0] [0] (CD g m e d Om))] [(7,.bool (ff m d))] [] (r0 [(1,.m (ld 1 (iN d))),(3,.m (ld 2 (iN m.R))),(4,.c [] [] (nE d m.R Om)),(11,.m (ld 1 (iN t))),(13,.m (ld 2 (iN m.R))),(14,.t (tb (a:=iN t) (b:=iN m.R) λ_ _ _ _=>kQ (a:=t) (b:=m.R) Om Om)),(16,.m (ld 2 (iN m.S))),(17,.c [] [] (nE (t-m.R) m.S Om))] [(4,.bool ((!(ff m d))&&true))] [4] (ak (.bool ((!(ff m d))&&true)) ab.zero (by rw[h.hs];rfl) [0] [] []))
theorem M9(g:Nat)(m:Mp)(b:bn m):aa UZ 186 #[.agg #[i6 0,i6 0,i6 0,i6 0],pt g 0] [pk (aG g m)] [0] (λ_=>[pk (aG g m)]) (λ_=> .bool true):=by
 have a:=b.O;have f:=b.ly;have n:=b.np;have h:=a.bd.bmc;have j:=a.bd.c1;have k:=a.bd.m1;have i:=a.bd.c64;have o:=a.bd.r8;exact fG Tryz.func186 λw p=>ra (λd=>[(2,pt (B0 d) 0),(4,.bool false)]) (λd=>[ob (B0 d) #[i6 0,i6 0,i6 0,i6 0] 70]) λd=>r0 [(1,.l 1),(2,.l 1),(4,.c [0] [0] (iH g m b)),(5,.c [] [] (M4 0 0 0 m.R m.S m.B m.M m.C m.G m.res f)),(7,.c [] [] (CJ 0 1))] [(5,.bool (bR 0 1))] [] (r0 [(1,.l 1)] [(15,i6 0)] [] (rT [] 16 (r0 [(0,.l 1),(2,.e)] [(4,.bool (0==0&&(0==0&&(0==0&&(0==0&&true)))))] [4] (ak (.bool (0==0&&(0==0&&(0==0&&(0==0&&true))))) ab.zero a7 [0] [] []))))
theorem CK(g:Nat)(m:Mp)(e:bn m)(b t a:Nat)(k:nC m b t a):aa UZ 186 #[.agg #[i6 1,iN b,iN t,iN a],pt g 0] [pk (aG g m)] [0] (λ_=>[pk (aG g m)]) (λ_=> .bool true):=by
 have d:=e.O;have h:=e.ly;have q:=e.np;have i:=d.bd.bmc;have n:=d.bd.c1;have p:=d.bd.m1;have j:=d.bd.c64;have r:=d.bd.r8;have o:=k.nx;exact fG Tryz.func186 λw s=>ra (λf=>[(2,pt (B0 f) 0),(4,.bool false)]) (λf=>[ob (B0 f) #[i6 1,iN b,iN t,iN a] 70]) λf=>r0 [(1,.l 1),(2,.l 1),(4,.c [0] [0] (iH g m e)),(5,.c [] [] (xw b t a m.R m.S m.B m.M m.C m.G m.res h)),(6,ad m.C 1),(7,.c [] [] (nE a (m.C+1) Om))] [(5,.bool true)] [] (r0 [(1,.l 1)] [(15,i6 1)] [] (rF [] 16 (rT [] 21 (r0 [(2,.l 1),(4,.c [0] [0] (M7 g m e b t a k))] [(4,.bool true)] [4] (lf ab.zero [0] [] [])))))
theorem CM(g:Nat)(m:Mp)(e:bn m)(b t a:Nat)(k:nD m b t a):aa UZ 186 #[.agg #[i6 2,iN b,iN t,iN a],pt g 0] [pk (aG g m)] [0] (λ_=>[pk (aG g m)]) (λ_=> .bool true):=by
 have d:=e.O;have h:=e.ly;have q:=e.np;have i:=d.bd.bmc;have n:=d.bd.c1;have p:=d.bd.m1;have j:=d.bd.c64;have r:=d.bd.r8;have o:=k.nx;exact fG Tryz.func186 λw s=>ra (λf=>[(2,pt (B0 f) 0),(4,.bool false)]) (λf=>[ob (B0 f) #[i6 2,iN b,iN t,iN a] 70]) λf=>r0 [(1,.l 1),(2,.l 1),(4,.c [0] [0] (iH g m e)),(5,.c [] [] (xx b t a m.R m.S m.B m.M m.C m.G m.res h)),(6,ad ((m.B*m.M)*m.C) 1),(7,.c [] [] (nE a (((m.B*m.M)*m.C)+1) Om))] [(5,.bool true)] [] (r0 [(1,.l 1)] [(15,i6 2)] [] (rF [] 16 (rF [] 21 (rT [] 29 (r0 [(2,.l 1),(4,.c [0] [0] (M8 g m e b t a k))] [(4,.bool true)] [4] (lf ab.zero [0] [] []))))))
theorem Na(m:Mp)(j:bn m)(r i:Nat)(q:r<m.R+m.S)(o:i<m.B*m.M*m.C):aa UZ 189 #[.agg #[iN m.R,iN m.S,iN m.B,iN m.M,iN m.C],iN r,iN i] [] [] N0 (λ_=> .tuple #[iN (jX m r i),i6 0]):=by
 have f:=j.O;have h:=f.bd.bmc;have k:=f.bd.c1;have p:=f.bd.m1;have n:=Wh i m.C;exact fG Tryz.func189 λw u=>ra (λg=>[(3,pt (B0 g) 0),(6,i6 0),(7,i6 0)]) (λg=>[ob (B0 g) #[iN m.R,iN m.S,iN m.B,iN m.M,iN m.C] 23]) λg=>rr (λ_=>[(3,.l 0),(4,.t (tb (a:=iN i) (b:=iN m.C) λ_ _ _ _=>ni (a:=i) (d:=m.C) Om)),(7,.s 1)]) (λe=>[(8,pt (B6 e) 0)]) [] (λe L=>L++[ob (B6 e) #[iN r,i6 0,i6 0,iN (i%m.C)] 46]) λe=>r0 [(2,.l 0),(3,.t (tb (a:=iN i) (b:=iN m.C) λ_ _ _ _=>n1 (a:=i) (d:=m.C) Om Om))] [(2,iN (i/m.C))] [2] (rs [(2,.m (ld 0 (iN m.M))),(3,.t (tb (a:=iN (i/m.C)) (b:=iN m.M) λ_ _ _ _=>ni (a:=i/m.C) (d:=m.M) Om)),(6,.m (ld 0 (iN m.M))),(7,.t (tb (a:=iN (i/m.C)) (b:=iN m.M) λ_ _ _ _=>n1 (a:=i/m.C) (d:=m.M) Om Om)),(9,.s 1),(11,.s 1)] 1 (ob (B6 e) #[iN r,iN ((i/m.C)/m.M),iN ((i/m.C)%m.M),iN (i%m.C)] 46) (r0 [(0,.l 0),(1,.l 1),(2,.c [] [] (UO f (ui j q o)))] [(6,iN (bT r ((i/m.C)/m.M) ((i/m.C)%m.M) (i%m.C))),(7,i6 0)] [6,7] (ak (.tuple #[iN (bT r ((i/m.C)/m.M) ((i/m.C)%m.M) (i%m.C)),i6 0]) ab.zero a7 [] [] [])))
theorem CN(g:Nat)(m:Mp)(d:bn m)(a t e:Nat)(q:nC m a t e)(p i:Nat)(hp:p<m.R*m.B*m.M)(y:i<m.C):aa UZ 144 #[.agg #[i6 1,iN a,iN t,iN e],pt g 0,iN p,iN i] [pk (aG g m)] [0] (λ_=>[pk (aG g m)]) (λ_=> .tuple #[iN (bq m p*64+i),i6 0]):=by
 have f:=d.O;have j:=d.ly;have u:=d.np;have k:=f.bd.bmc;have o:=f.bd.c1;have s:=f.bd.m1;have n:=f.bd.c64;have v:=f.bd.r8;have r:=uf d hp;exact fG Tryz.func144 λw x=>ra (λh=>[(4,pt (B0 h) 0),(8,i6 0),(9,i6 0)]) (λh=>[ob (B0 h) #[i6 1,iN a,iN t,iN e] 70]) λh=>rF [(0,.m (ls 1 ([i6 1,iN a,iN t,iN e]))),(2,.c [0] [0] (CK g m d a t e q)),(6,.m (ls 1 ([i6 1,iN a,iN t,iN e]))),(8,.c [0] [0] (iH g m d)),(9,.c [] [] (xw a t e m.R m.S m.B m.M m.C m.G m.res j)),(10,.c [] [] (nE i m.C Om))] 24 (rF [(1,.l 1)] 27 (r0 [(2,.c [0] [0] (CF g m d p Om))] [(10,iN (bq m p)),(11,i6 0)] [] (rF [] 43 (r0 [(1,.t (tv (au .shl 3 (.tmp 45) (.const (u6 6)) (iN (bq m p)) (u6 6)) (λ_=>dB (b:=((bq m p*64:Nat):Int)) (fu 6 Dc Om Om) Om))),(3,.t (tv (au .or 3 (.tmp 46) (.tmp 47) (iN (bq m p*64)) (iN i)) (λ_=>dB (b:=((bq m p*64+i:Nat):Int)) (qz 6 64 rfl Om Om Om Om Om) Om)))] [(8,iN (bq m p*64+i)),(9,i6 0)] [8,9] (lf ab.zero [0] [] [])))))
theorem CO(g:Nat)(m:Mp)(b:bn m)(a t d:Nat)(o:nD m a t d)(r i:Nat)(x:r<m.R+m.S)(v:i<m.B*m.M*m.C):aa UZ 144 #[.agg #[i6 2,iN a,iN t,iN d],pt g 0,iN r,iN i] [pk (aG g m)] [0] (λ_=>[pk (aG g m)]) (λ_=> .tuple #[iN (jX m r i),i6 0]):=by
 have e:=b.O;have h:=b.ly;have q:=b.np;have j:=e.bd.bmc;have n:=e.bd.c1;have p:=e.bd.m1;have k:=e.bd.c64;have s:=e.bd.r8;exact fG Tryz.func144 λw u=>ra (λf=>[(4,pt (B0 f) 0),(8,i6 0),(9,i6 0)]) (λf=>[ob (B0 f) #[i6 2,iN a,iN t,iN d] 70]) λf=>rF [(0,.m (ls 1 ([i6 2,iN a,iN t,iN d]))),(2,.c [0] [0] (CM g m b a t d o)),(6,.m (ls 1 ([i6 2,iN a,iN t,iN d]))),(8,.c [0] [0] (iH g m b)),(9,.c [] [] (xx a t d m.R m.S m.B m.M m.C m.G m.res h)),(10,.c [] [] (nE i ((m.B*m.M)*m.C) Om))] 24 (rT [(1,.l 1)] 27 (r0 [(1,.c [0] [0] (iH g m b)),(5,.c [] [] (Na m b r i Om Om))] [(8,iN (jX m r i)),(9,i6 0)] [8,9] (lf ab.zero [0] [] [])))
theorem Nb(g:Nat)(m:Mp)(d:bn m)(a t e:Nat)(k:nC m a t e)(i:Nat)(v:i<m.C):aa UZ 119 #[.agg #[i6 1,iN a,iN t,iN e],pt g 0,iN i] [pk (aG g m)] [0] (λ_=>[pk (aG g m)]) (λ_=> .tuple #[iN (bq m a*64+i),i6 0]):=by
 have b:=d.O;have p:=d.ly;have r:=d.np;have h:=b.bd.bmc;have n:=b.bd.c1;have q:=b.bd.m1;have j:=b.bd.c64;have s:=b.bd.r8;have o:=k.hf;exact fG Tryz.func119 λw u=>ra (λf=>[(3,pt (B0 f) 0),(6,i6 0),(7,i6 0)]) (λf=>[ob (B0 f) #[i6 1,iN a,iN t,iN e] 70]) λf=>r0 [(0,.l 1),(3,.l 1),(5,.c [0] [0] (CN g m d a t e k a i Om Om))] [(6,iN (bq m a*64+i)),(7,i6 0)] [6,7] (lf ab.zero [0] [] [])
theorem Nc(g:Nat)(m:Mp)(d:bn m)(a t e:Nat)(k:nD m a t e)(i:Nat)(v:i<m.B*m.M*m.C):aa UZ 119 #[.agg #[i6 2,iN a,iN t,iN e],pt g 0,iN i] [pk (aG g m)] [0] (λ_=>[pk (aG g m)]) (λ_=> .tuple #[iN (jX m a i),i6 0]):=by
 have b:=d.O;have p:=d.ly;have r:=d.np;have h:=b.bd.bmc;have n:=b.bd.c1;have q:=b.bd.m1;have j:=b.bd.c64;have s:=b.bd.r8;have o:=k.hf;exact fG Tryz.func119 λw u=>ra (λf=>[(3,pt (B0 f) 0),(6,i6 0),(7,i6 0)]) (λf=>[ob (B0 f) #[i6 2,iN a,iN t,iN e] 70]) λf=>r0 [(0,.l 1),(3,.l 1),(5,.c [0] [0] (CO g m d a t e k a i Om Om))] [(6,iN (jX m a i)),(7,i6 0)] [6,7] (lf ab.zero [0] [] [])
theorem CP(g:Nat)(m:Mp)(d:bn m)(b t e:Nat)(k:nC m b t e)(i:Nat)(v:i<m.C):aa UZ 120 #[.agg #[i6 1,iN b,iN t,iN e],pt g 0,iN i] [pk (aG g m)] [0] (λ_=>[pk (aG g m)]) (λ_=> .tuple #[iN (bq m t*64+i),i6 0]):=by
 have a:=d.O;have p:=d.ly;have r:=d.np;have h:=a.bd.bmc;have n:=a.bd.c1;have q:=a.bd.m1;have j:=a.bd.c64;have s:=a.bd.r8;have o:=k.ht;exact fG Tryz.func120 λw u=>ra (λf=>[(3,pt (B0 f) 0),(6,i6 0),(7,i6 0)]) (λf=>[ob (B0 f) #[i6 1,iN b,iN t,iN e] 70]) λf=>r0 [(0,.l 1),(3,.l 1),(5,.c [0] [0] (CN g m d b t e k t i Om Om))] [(6,iN (bq m t*64+i)),(7,i6 0)] [6,7] (lf ab.zero [0] [] [])
theorem CQ(g:Nat)(m:Mp)(b:bn m)(d t e:Nat)(k:nD m d t e)(i:Nat)(x:i<m.B*m.M*m.C):aa UZ 120 #[.agg #[i6 2,iN d,iN t,iN e],pt g 0,iN i] [pk (aG g m)] [0] (λ_=>[pk (aG g m)]) (λ_=> .tuple #[iN (jX m t i),i6 0]):=by
 have a:=b.O;have q:=b.ly;have s:=b.np;have h:=a.bd.bmc;have n:=a.bd.c1;have r:=a.bd.m1;have j:=a.bd.c64;have u:=a.bd.r8;have o:=k.t1;have p:=b.rk;exact fG Tryz.func120 λw v=>ra (λf=>[(3,pt (B0 f) 0),(6,i6 0),(7,i6 0)]) (λf=>[ob (B0 f) #[i6 2,iN d,iN t,iN e] 70]) λf=>r0 [(0,.l 1),(3,.l 1),(5,.c [0] [0] (CO g m b d t e k t i Om Om))] [(6,iN (jX m t i)),(7,i6 0)] [6,7] (lf ab.zero [0] [] [])
theorem Nd(m:Mp)(f:bn m)(n:Nat)(h:n<(m.R*m.B*m.M-m.res)*m.C):aa UZ 221 #[.agg #[iN m.R,iN m.S,iN m.B,iN m.M,iN m.C],iN (bT (kV m (ay m n)) (fx m.G m.R m.B m.M (ay m n)) (fw m.G m.R m.B m.M (ay m n)) (n%m.C))] [] [] N0 (λ_=>iN (iI m n)):=by
 have d:=f.O;have g:=d.bd.bmc;have j:(fx m.G m.R m.B m.M (ay m n)*m.M+fw m.G m.R m.B m.M (ay m n))*m.C+n%m.C<m.B*m.M*m.C:=xv f h;have e:=d.bd.c1;have i:=VI (fx m.G m.R m.B m.M (ay m n)*m.M+fw m.G m.R m.B m.M (ay m n)) e;exact fG Tryz.func221 λw k=>ra (λa=>[(2,pt (B0 a) 0),(4,i6 0)]) (λa=>[ob (B0 a) #[iN m.R,iN m.S,iN m.B,iN m.M,iN m.C] 23]) λa=>rr (λ_=>[(0,.l 0),(2,.c [] [] (rh d (CI f h))),(7,.s 1)]) (λb=>[(5,pt (B6 b) 0),(6,i6 0)]) [] (λb L=>L++[ob (B6 b) #[iN (kV m (ay m n)),iN (fx m.G m.R m.B m.M (ay m n)),iN (fw m.G m.R m.B m.M (ay m n)),iN (n%m.C)] 46]) λb=>rF [] 14 (r0 [(1,.m (ld 1 (iN (fx m.G m.R m.B m.M (ay m n))))),(3,.m (ld 0 (iN m.M))),(4,ml (fx m.G m.R m.B m.M (ay m n)) m.M),(6,.m (ld 1 (iN (fw m.G m.R m.B m.M (ay m n))))),(7,ad ((fx m.G m.R m.B m.M (ay m n))*m.M) (fw m.G m.R m.B m.M (ay m n))),(9,.m (ld 0 (iN m.C))),(10,ml (((fx m.G m.R m.B m.M (ay m n))*m.M)+(fw m.G m.R m.B m.M (ay m n))) m.C),(12,.m (ld 1 (iN (n%m.C)))),(13,ad ((((fx m.G m.R m.B m.M (ay m n))*m.M)+(fw m.G m.R m.B m.M (ay m n)))*m.C) (n%m.C))] [(4,iN (((((fx m.G m.R m.B m.M (ay m n))*m.M)+(fw m.G m.R m.B m.M (ay m n)))*m.C)+(n%m.C)))] [4] (ak (iN (((((fx m.G m.R m.B m.M (ay m n))*m.M)+(fw m.G m.R m.B m.M (ay m n)))*m.C)+(n%m.C))) ab.zero a7 [] [] []))
end
section
open Go.Shelf
theorem Nf(m:Mp)(a:bn m)(n:Nat)(b:n<(m.R*m.B*m.M-m.res)*m.C):aa UZ 221 #[.agg #[iN m.R,iN m.S,iN m.B,iN m.M,iN m.C],iN (eO m n)] [] [] N0 (λ_=>iN (iI m n)):=by
 rw[CH];exact Nd m a n b
theorem Ng(g:Nat)(m:Mp)(a:bn m)(n:Nat)(t:n<(m.R*m.B*m.M-m.res)*m.C):aa UZ 185 #[.agg #[i6 0,i6 0,i6 0,i6 0],pt g 0,iN n] [pk (aG g m)] [0] (λ_=>[pk (aG g m)]) (λ_=> .tuple #[iN (eO m n),iN (ay m n),iN (aK m.G m.R m.B m.M (ay m n)),i6 0]):=by
 have b:=a.O;have k:=a.ly;have p:=a.np;have h:=b.bd.bmc;have j:=b.bd.c1;have o:=b.bd.m1;have i:=b.bd.c64;have q:=b.bd.r8;exact fG Tryz.func185 λw r=>ra (λe=>[(3,pt (B0 e) 0),(6,i6 0),(7,i6 0),(8,i6 0),(9,i6 0)]) (λe=>[ob (B0 e) #[i6 0,i6 0,i6 0,i6 0] 70]) λe=>r0 [(2,.c [0] [0] (xq g m a n Om)),] [(6,iN (eO m n)),(7,iN (ay m n)),(8,iN (aK m.G m.R m.B m.M (ay m n))),(9,i6 0)] [6,7,8,9] (rF [(3,.l 1),(5,.c [0] [0] (M9 g m a))] 27 (rr (λ_=>[(1,.c [0] [0] (iH g m a)),(4,.s 2)]) (λf=>[(10,pt (B3 f) 0)]) [] (λf L=>L++[ob (B3 f) #[iN m.R,iN m.S,iN m.B,iN m.M,iN m.C] 23]) λf=>r0 [] [(11,i6 0)] [] (rF [(1,.l 1),(4,.d),(5,.d),(6,.d),(7,.d)] 39 (rF [(1,.l 1),(4,.d),(5,.d),(6,.d),(7,.d)] 53 (r0 [] [(6,iN (eO m n)),(7,iN (ay m n)),(8,iN (aK m.G m.R m.B m.M (ay m n))),(9,i6 0)] [6,7,8,9] (lf ab.zero [0] [] []))))))
theorem Nh(g:Nat)(m:Mp)(h:bn m)(e t f:Nat)(z:nC m e t f)(n:Nat)(I:n<(m.R*m.B*m.M-m.res)*m.C):aa UZ 185 #[.agg #[i6 1,iN e,iN t,iN f],pt g 0,iN n] [pk (aG g m)] [0] (λ_=>[pk (aG g m)]) (λ_=> .tuple #[iN (aR m ⟨1,e,t,f⟩ n),iN (ay m n),iN (aK m.G m.R m.B m.M (ay m n)),i6 0]):=by
 have o:=h.O;have C:=h.ly;have F:=h.np;have x:=o.bd.bmc;have v:=o.bd.c1;have D:=o.bd.m1;have y:=o.bd.c64;have G:=o.bd.r8;have A:=U8 n v;refine fG Tryz.func185 λw H=>ra (λp=>[(3,pt (B0 p) 0),(6,i6 0),(7,i6 0),(8,i6 0),(9,i6 0)]) (λp=>[ob (B0 p) #[i6 1,iN e,iN t,iN f] 70]) λp=>r0 [(2,.c [0] [0] (xq g m h n Om)),] [(6,iN (eO m n)),(7,iN (ay m n)),(8,iN (aK m.G m.R m.B m.M (ay m n))),(9,i6 0)] [6,7,8,9] (rF [(3,.l 1),(5,.c [0] [0] (CK g m h e t f z))] 27 (rr (λ_=>[(1,.c [0] [0] (iH g m h)),(4,.s 2)]) (λq=>[(10,pt (B3 q) 0)]) [] (λq L=>L++[ob (B3 q) #[iN m.R,iN m.S,iN m.B,iN m.M,iN m.C] 23]) λq=>r0 [] [(11,i6 0)] [] (r0 [(1,.l 1),(6,.l 1)] [(39,.bool (((ay m n:Nat):Int)==(e:Int)))] [] ?_)));refine cD ((ay m n:Nat):Int) (e:Int) (λB r=>?_) λB r=>?_
 ·refine r0 [(2,.l 2),(3,.t (tb (a:=iN n) (b:=iN m.C) λ_ _ _ _=>ni (a:=n) (d:=m.C) Om))] [(11,iN (n%m.C))] [11] (r0 [(2,.l 1)] [(69,.bool (decide (((n%m.C:Nat):Int)<(f:Int))))] [] ?_);refine b4 ((n%m.C:Nat):Int) (f:Int) (λu k=>?_) λu k=>?_
  ·exact r0 [(0,.l 1),(3,.c [0] [0] (CP g m h e t f z (n%m.C) Om))] [(6,iN (bq m t*64+(n%m.C))),(9,i6 0)] [6,9] (r0 [] [(6,iN (bq m t*64+(n%m.C))),(7,iN (ay m n)),(8,iN (aK m.G m.R m.B m.M (ay m n))),(9,i6 0)] [6,7,8,9] (ak (.tuple #[iN (bq m t*64+(n%m.C)),iN (ay m n),iN (aK m.G m.R m.B m.M (ay m n)),i6 0]) ab.zero (by by_cases i:ay m n=e<;>by_cases j:n%m.C<f<;>first | (exfalso;omega) | (simp [aR,ba,i,j])) [0] [] []))
  exact r0 [] [(6,iN (eO m n)),(7,iN (ay m n)),(8,iN (aK m.G m.R m.B m.M (ay m n))),(9,i6 0)] [6,7,8,9] (ak (.tuple #[iN (eO m n),iN (ay m n),iN (aK m.G m.R m.B m.M (ay m n)),i6 0]) ab.zero (by by_cases i:ay m n=e<;>by_cases j:n%m.C<f<;>first | (exfalso;omega) | (simp [aR,ba,i,j])) [0] [] [])
 exact rF [(1,.l 1),(4,.d),(5,.d),(6,.d),(7,.d)] 53 (r0 [] [(6,iN (eO m n)),(7,iN (ay m n)),(8,iN (aK m.G m.R m.B m.M (ay m n))),(9,i6 0)] [6,7,8,9] (ak (.tuple #[iN (eO m n),iN (ay m n),iN (aK m.G m.R m.B m.M (ay m n)),i6 0]) ab.zero (by by_cases i:ay m n=e<;>by_cases j:n%m.C<f<;>first | (exfalso;omega) | (simp [aR,ba,i,j])) [0] [] []))
theorem Ni(g:Nat)(m:Mp)(e:bn m)(a t b:Nat)(v:nD m a t b)(n:Nat)(B:n<(m.R*m.B*m.M-m.res)*m.C):aa UZ 185 #[.agg #[i6 2,iN a,iN t,iN b],pt g 0,iN n] [pk (aG g m)] [0] (λ_=>[pk (aG g m)]) (λ_=> .tuple #[iN (aR m ⟨2,a,t,b⟩ n),iN (ay m n),iN (aK m.G m.R m.B m.M (ay m n)),i6 0]):=by
 have j:=e.O;have z:=e.ly;have C:=e.np;have r:=j.bd.bmc;have y:=j.bd.c1;have A:=j.bd.m1;have u:=j.bd.c64;have F:=j.bd.r8;have D:=xv e B;refine fG Tryz.func185 λw G=>ra (λk=>[(3,pt (B0 k) 0),(6,i6 0),(7,i6 0),(8,i6 0),(9,i6 0)]) (λk=>[ob (B0 k) #[i6 2,iN a,iN t,iN b] 70]) λk=>r0 [(2,.c [0] [0] (xq g m e n Om)),] [(6,iN (eO m n)),(7,iN (ay m n)),(8,iN (aK m.G m.R m.B m.M (ay m n))),(9,i6 0)] [6,7,8,9] (rF [(3,.l 1),(5,.c [0] [0] (CM g m e a t b v))] 27 (rr (λ_=>[(1,.c [0] [0] (iH g m e)),(4,.s 2)]) (λo=>[(10,pt (B3 o) 0)]) [] (λo L=>L++[ob (B3 o) #[iN m.R,iN m.S,iN m.B,iN m.M,iN m.C] 23]) λo=>r0 [] [(11,i6 0)] [] (rF [(1,.l 1),(4,.d),(5,.d),(6,.d),(7,.d)] 39 (r0 [(1,.l 1),(6,.l 1)] [(53,.bool (((aK m.G m.R m.B m.M (ay m n):Nat):Int)==(a:Int)))] [] ?_))));refine cD ((aK m.G m.R m.B m.M (ay m n):Nat):Int) (a:Int) (λx p=>?_) λx p=>?_
 ·refine r0 [(0,.l 2),(2,.c [] [] (Nf m e n Om))] [(11,iN (iI m n))] [11] (r0 [(2,.l 1)] [(69,.bool (decide (((iI m n:Nat):Int)<(b:Int))))] [] ?_);refine b4 ((iI m n:Nat):Int) (b:Int) (λq i=>?_) λq i=>?_
  ·exact r0 [(0,.l 1),(3,.c [0] [0] (CQ g m e a t b v (iI m n) Om))] [(6,iN (jX m t (iI m n))),(9,i6 0)] [6,9] (r0 [] [(6,iN (jX m t (iI m n))),(7,iN (ay m n)),(8,iN (aK m.G m.R m.B m.M (ay m n))),(9,i6 0)] [6,7,8,9] (ak (.tuple #[iN (jX m t (iI m n)),iN (ay m n),iN (aK m.G m.R m.B m.M (ay m n)),i6 0]) ab.zero (by by_cases f:aK m.G m.R m.B m.M (ay m n)=a<;>by_cases h:iI m n<b<;>first | (exfalso;omega) | (simp [aR,ba,f,h])) [0] [] []))
  exact r0 [] [(6,iN (eO m n)),(7,iN (ay m n)),(8,iN (aK m.G m.R m.B m.M (ay m n))),(9,i6 0)] [6,7,8,9] (ak (.tuple #[iN (eO m n),iN (ay m n),iN (aK m.G m.R m.B m.M (ay m n)),i6 0]) ab.zero (by by_cases f:aK m.G m.R m.B m.M (ay m n)=a<;>by_cases h:iI m n<b<;>first | (exfalso;omega) | (simp [aR,ba,f,h])) [0] [] [])
 exact r0 [] [(6,iN (eO m n)),(7,iN (ay m n)),(8,iN (aK m.G m.R m.B m.M (ay m n))),(9,i6 0)] [6,7,8,9] (ak (.tuple #[iN (eO m n),iN (ay m n),iN (aK m.G m.R m.B m.M (ay m n)),i6 0]) ab.zero (by by_cases f:aK m.G m.R m.B m.M (ay m n)=a<;>by_cases h:iI m n<b<;>first | (exfalso;omega) | (simp [aR,ba,f,h])) [0] [] [])
theorem Nj(g:Nat)(m:Mp)(b:bn m)(j f t k:Nat)(n:Int)(q:bR n (((m.R*m.B*m.M-m.res)*m.C:Nat):Int)=false):aa UZ 185 #[.agg #[iN j,iN f,iN t,iN k],pt g 0,i6 n] [pk (aG g m)] [0] (λ_=>[pk (aG g m)]) (λ_=> .tuple #[i6 0,i6 0,i6 0,i6 12]):=by
 have a:=b.O;have o:=b.ly;have r:=b.np;have h:=a.bd.bmc;have l:=a.bd.c1;have p:=a.bd.m1;have i:=a.bd.c64;have s:=a.bd.r8;exact fG Tryz.func185 λw u=>ra (λe=>[(3,pt (B0 e) 0),(6,i6 0),(7,i6 0),(8,i6 0),(9,i6 0)]) (λe=>[ob (B0 e) #[iN j,iN f,iN t,iN k] 70]) λe=>r0 [(2,.c [0] [0] (MS g m b n q)),] [(6,i6 0),(7,i6 0),(8,i6 0),(9,i6 12)] [6,7,8,9] (rT [(3,.d),(4,.d),(5,.d),(6,.d)] 27 (r0 [] [(6,i6 0),(7,i6 0),(8,i6 0),(9,i6 12)] [6,7,8,9] (lf ab.zero [0] [] [])))
theorem Nk(g:Nat)(m:Mp)(b:bn m)(j:Jb)(f:rn m j)(n:Nat)(c:n<(m.R*m.B*m.M-m.res)*m.C):aa UZ 185 #[.agg #[iN j.A,iN j.fr,iN j.tg,iN j.nx],pt g 0,iN n] [pk (aG g m)] [0] (λ_=>[pk (aG g m)]) (λ_=> .tuple #[iN (aR m j n),iN (ay m n),iN (aK m.G m.R m.B m.M (ay m n)),i6 0]):=by
 obtain⟨i,d,t,e⟩:=j;rcases f.k with h | ⟨a,h⟩ | ⟨a,h⟩
 ·cases h;exact Ng g m b n c
 ·cases a;exact Nh g m b d t e h n c
 ·cases a;exact Ni g m b d t e h n c
def kZ(m:Mp)(j:Jb):Bool:=decide (j.A≠0)&&decide (j.nx=gj j.A m.B m.M m.C)
theorem CR(m:Mp)(d:bn m)(b a t c:Nat)(e:b=1∨b=2):aa UZ 211 #[.agg #[iN b,iN a,iN t,iN c],.agg #[iN m.R,iN m.S,iN m.B,iN m.M,iN m.C,iN m.G,iN m.res]] [] [] N0 (λ_=> .bool (kZ m ⟨b,a,t,c⟩)):=by
 rcases e with rfl | rfl
 ·exact M5 a t c m.R m.S m.B m.M m.C m.G m.res d.ly
 ·exact M6 a t c m.R m.S m.B m.M m.C m.G m.res d.ly
theorem Nl(g:Nat)(m:Mp)(d:bn m)(j:Jb)(f:rn m j)(i:Nat)(a:i<gj j.A m.B m.M m.C):aa UZ 119 #[.agg #[iN j.A,iN j.fr,iN j.tg,iN j.nx],pt g 0,iN i] [pk (aG g m)] [0] (λ_=>[pk (aG g m)]) (λ_=> .tuple #[iN (ba m j.A j.fr i),i6 0]):=by
 obtain⟨k,c,t,e⟩:=j;rcases f.k with h | ⟨b,h⟩ | ⟨b,h⟩
 ·cases h;exact absurd a (VD i)
 ·cases b;exact Nb g m d c t e h i a
 ·cases b;exact Nc g m d c t e h i a
theorem Nm(g:Nat)(m:Mp)(d:bn m)(j:Jb)(f:rn m j)(i:Nat)(a:i<gj j.A m.B m.M m.C):aa UZ 120 #[.agg #[iN j.A,iN j.fr,iN j.tg,iN j.nx],pt g 0,iN i] [pk (aG g m)] [0] (λ_=>[pk (aG g m)]) (λ_=> .tuple #[iN (ba m j.A j.tg i),i6 0]):=by
 obtain⟨k,c,t,e⟩:=j;rcases f.k with h | ⟨b,h⟩ | ⟨b,h⟩
 ·cases h;exact absurd a (VD i)
 ·cases b;exact CP g m d c t e h i a
 ·cases b;exact CQ g m d c t e h i a
end
section
open Go.Shelf
structure Ak where
 k:Nat
 w:Nat
deriving DecidableEq
def aH:Ak:=⟨0,0⟩
def rq(x:Ak):List Value:=[iN x.k,iN x.w]
def lX:Kd UZ Ak:=⟨rq,[i6 0,i6 0],351,285,aH,2,λ_=>rfl,rfl,λ_=>rfl,dS.mk' Kr Kr rfl⟩
abbrev eY(v:Value)(xs:List Ak):aB:= .p (ao rq ([i6 0,i6 0]) 285 v xs)
def lY(arr:List Ak)(a i:Nat):Ak:=arr.getD ((a+i)%arr.length) aH
def oy(arr:List Ak)(a n:Nat)(x:Ak):Bool:=(U1 n).any λj=>decide (lY arr a j=x)
theorem CS{arr:List Ak}{a n:Nat}{x:Ak}{j:Nat}(b:j<n)(e:lY arr a j=x):oy arr a n x=true:=List.any_eq_true.2 ⟨j,List.mem_range.2 b,cS e⟩
theorem CT{arr:List Ak}{a n:Nat}{x:Ak}(h: ∀j,j<n→lY arr a j≠x):oy arr a n x=false:=List.any_eq_false.2 λj b=>by simpa using h j (List.mem_range.1 b)
theorem Nn{x y:Ak}(h:((((x.k:Nat):Int)==((y.k:Nat):Int))&&((((x.w:Nat):Int)==((y.w:Nat):Int))&&true))=true):y=x:=by
 rw[Wj,kX,kX,U7,decide_eq_true_eq,decide_eq_true_eq] at h;obtain⟨a,b⟩:=x;obtain⟨c,d⟩:=y;simp only at h;rw[h.1,h.2]
theorem No{x y:Ak}(h:((((x.k:Nat):Int)==((y.k:Nat):Int))&&((((x.w:Nat):Int)==((y.w:Nat):Int))&&true))=false):y≠x:=by
 intro e;subst e;rw[Wj,kX,kX,cS rfl,cS rfl] at h;cases h
theorem xy{P:Nat→Prop}{k:Nat}(h: ∀j,j<k→P j)(h1:P k): ∀j,j<k+1→P j:=λj c=>by
 rcases Nat.lt_succ_iff_lt_or_eq.1 c with b | rfl
 ·exact h j b
 ·exact h1
structure iJ (arr:List Ak) (a:Nat) (q:List Ak):Prop where
 l:arr.length=256
 lt:a<256
 n:q.length≤256
 q: ∀i,i<q.length→lY arr a i=q.getD i aH
abbrev bD(g:Nat)(q:List Ak)(L:ah):Prop:=∃(v:Value) (arr:List Ak) (a:Nat) (b:iJ arr a q),L=[ob g #[v,iN a,iN q.length] 353,eY v arr]
def py(q:List Ak)(x:Ak):List Ak:=if x∈q then q else if q.length=256 then q else q++[x]
def uj(q:List Ak)(x:Ak):Int:=if x∈q then 15 else if q.length=256 then 14 else 0
section
variable {arr:List Ak} {a:Nat} {q:List Ak}
theorem iJ.has(h:iJ arr a q)(x:Ak):oy arr a q.length x=decide (x∈q):=by
 by_cases c:x∈q
 ·obtain⟨j,b,e⟩:=V6 c;rw[cS c];refine CS b ?_;rw[h.q j b,U0,U3 b];exact e
 ·rw[bg c];refine CT λj b e=>c ?_;rw[h.q j b,U0,U3 b] at e;exact e▸List.getElem_mem b
theorem iJ.push(h:iJ arr a q)(x:Ak)(f:q.length<256):iJ (arr.set ((a+q.length)%arr.length) x) a (q++[x]):=by
 have c:=h.l;have d:=h.lt;refine⟨by rw[Vl];exact h.l,h.lt,by rw[U4];show q.length+1≤256;omega,λi b=>?_⟩;rw[U4] at b;have b:i<q.length+1:=b;unfold lY;rw[Vl,U0,Vr];by_cases e:i=q.length
 ·subst e;rw[ALifp rfl,ALifp (U8 _ Om),U0,Vh (Vk _)];simp
 ·rw[ALifn (by rw[c];omega),U0,Ve Om];have:=h.q i Om;unfold lY at this;rwa [U0,U0] at this
theorem iJ.pop(h:iJ arr a q)(f:0<q.length):iJ (arr.set a aH) ((a+1)%(arr.set a aH).length) q.tail:=by
 have b:=h.l;have e:=h.lt;rw[Vl];refine⟨by rw[Vl];exact h.l,by rw[b];exact U8 _ Dc,by rw[VA];have:=h.n;omega,λi c=>?_⟩;rw[VA] at c;have:=h.q (i+1) Om;have d:=h.n;unfold lY at this⊢;rw[Vl,U0,Vr,ALifn (by rw[b];omega)];rw[U0] at this;rw[show((a+1)%arr.length+i)%arr.length=(a+(i+1))%arr.length by rw[b];omega,this,U0,U0,List.getElem?_tail]
theorem iJ.first(h:iJ arr a q)(b:0<q.length):lY arr a 0=q.headD aH:=by
 rw[h.q 0 b];cases q with
 | nil=>cases b
 | cons x q=>rfl
end
def k4(q:List Ak):Int:=if q.length=0 then 13 else 0
theorem Np:iJ (U2 256 aH) 0 []:=⟨by rw[Vp],by decide,by decide,λi b=>absurd b (VD i)⟩
end
section
open Go.Shelf
theorem uk(g:Nat)(v:Value)(c:List Ak)(a n i:Nat)(l:c.length=256)(j:a<256)(k:i≤256):aa UZ 283 #[pt g 0,iN i] [ob g #[v,iN a,iN n] 353,.p (aJ rq v c)] [] N0 (λ_=>iN ((a+i)%c.length)):=by
 exact fO Tryz.func283 1 rfl λf e=>fG Tryz.func283 λw h=>r0 [] [(4,i6 0)] [] (r0 [(3,.m (ld 0 (iN a))),(5,ad a i),(9,.m (ld 0 (v))),(10,ey e.1 1),(11,.t (tb (a:=iN (a+i)) (b:=iN c.length) λ_ _ _ _=>ni (a:=a+i) (d:=c.length) Om))] [(4,iN ((a+i)%c.length))] [4] (lf ab.zero [] [(0,0),(1,1)] []))
theorem Nq(g:Nat):aa UZ 282 #[pt g 0] [] [] (λE=>[ob (E.y 0) #[pt g 0] 131]) (λE=> .func (.func 287) #[] #[pt ((E.y 0)) 0]):=by
 exact fG Tryz.func282 λw b=>ra (λa=>[(1,pt (B0 a) 0),(2,.nilFunc)]) (λa=>[ob (B0 a) #[pt g 0] 131]) λa=>r0 [] [(2,.func (.func 287) #[] #[pt (B0 a) 0])] [2] (lf (.l [(a 0).y 0] [] []) [0] [] [])
theorem Nr(b g:Nat)(v:Value)(d:List Ak)(a n:Nat)(bs:av)(j:aJ rq v d bs)(u:d.length=256)(H:a<256)(I:n≤256):eT 5 UZ 287 #[pt b 0] (λ(x:Nat×Ak)=>#[i6 (x.1:Int),.agg #[i6 (x.2.k:Int),i6 (x.2.w:Int)]]) ((U1 n).map λk=>(k,d.getD ((a+k)%d.length) aH)) (List.flatten [[(b,.cells #[pt g 0] 131 (0,0))],[(g,.cells #[v,iN a,iN n] 353 (0,0))],bs]):=by
 refine gi (KO:=[[(b,.cells #[pt g 0] 131 (0,0))],[(g,.cells #[v,iN a,iN n] 353 (0,0))],bs]) Tryz.func287 (λz B A G D m s r=>?_);refine r0 [(0,.l 0),(3,.l 1)] [(7,iN n),(8,i6 0)] [] ?_;refine jv (λk=>k≤n) (λk=>[(8,iN k)]) (λ_ L=>L) (λk=>n-k) (λk=>k) 0 Om r Kr Kr (λk C F t f=>?_);have y:(a+k)%d.length<d.length:=U8 _ Om;refine r0 [] [(9,.bool (decide ((k:Int)<(n:Int))))] [] ?_;refine b4 (k:Int) (n:Int) (λq i=>?_) λq i=>?_
 ·refine r0 [] [(3,iN k)] [] ?_;refine iy m s f 11 (λ_=>[(2,.l 0),(5,.l 1),(6,.l 0),(8,.c [1,2] [] (aa.at (rd':=[ob g #[v,iN a,iN n] 353,.c bs]) (uk g v d a n k (by(simp only[LL,u];done)) Om Om) (aN (ec j (λ_ h=>h))))),(9,e7 j.1 2 ((a+k)%d.length) 2),(10,mG lX j.1 2 ((a+k)%d.length) 0 2)]) (λ_=>[(11,.func (.yield z) #[] #[]),(12,iN k),(21,.agg #[iN ((d.getD ((a+k)%d.length) aH).k),iN ((d.getD ((a+k)%d.length) aH).w)])]) [] (λ_ L=>L) N0 [0,1,2] (nX Om) (λJ o p e=>?_);refine cF _ rfl (r0 [(0,ad k 1)] [(8,iN (k+1))] [8] ?_);exact ia (k+1) Om e Om Kr [0,1,2] Kr
 obtain rfl:n=k:=by omega
 refine jw ?_;exact kk m f (by rw[U6,Vc]) [] [0,1,2]
theorem xz(g:Nat)(v:Value)(b:List Ak)(a n:Nat)(x:Ak)(G:b.length=256)(N:a<256)(A:n≤256):aa UZ 267 #[pt g 0,.agg #[iN x.k,iN x.w]] [ob g #[v,iN a,iN n] 353,.p (aJ rq v b)] [] N0 (λ_=> .bool (oy b a n x)):=by
 refine fO Tryz.func267 1 rfl λi t=>fG Tryz.func267 λw M=>ra (λd=>[(3,pt (B0 d) 0),(4,pt (B1 d) 0)]) (λd=>[ob (B0 d) #[iN x.k,iN x.w] 285,ob (B1 d) #[.bool false] 4]) λd=>rr (λ_=>[(1,.c [] [4] (Nq g))]) (λf=>[(8,.func (.func 287) #[] #[pt ((B1 f)) 0])]) [] (λf L=>L++[ob (B1 f) #[pt g 0] 131]) λf=>?_;refine Az (encs:=λ(x:Nat×Ak)=>#[i6 (x.1:Int),.agg #[i6 (x.2.k:Int),i6 (x.2.w:Int)]]) (xs:=(U1 n).map λk=>(k,b.getD ((a+k)%b.length) aH)) (KO:=[[((B1 f),.cells #[pt g 0] 131 (0,0))],[(g,.cells #[v,iN a,iN n] 353 (0,0))],i]) (Nr (B1 f) g v b a n i t (by(simp only[LL,G];done)) Om Om) (enters_of Tryz.func287 Kr rfl) (λk=>k≤n∧(∀j,j<k→lY b a j≠x)) (λ_ L=>L) (λc k=>(c=Code.ret∧(∃j,j+1=k∧lY b a j=x))) (λ_ _ L=>L.set 3 (ob (B1 d) #[.bool true] 4)) [4,0,1] ⟨by omega,(λ_ h=>absurd h (VD _))⟩ Kr (λP k R H J y ⟨m,o⟩=>?_) (λB ⟨m,o⟩=>?_) λB c k F D=>?_
 ·obtain⟨z,rfl⟩:=nc y;refine rr (λ_=>[(1,.s 5)]) (λq=>[(6,pt (B0 q) 0)]) [] (λq L=>L++[ob (B0 q) #[iN ((b.getD ((a+k)%b.length) aH).k),iN ((b.getD ((a+k)%b.length) aH).w)] 285]) λq=>?_;refine ag [4,0,1] (λI K=>?_);refine r0 [(0,.l 2),(1,.l 5),(2,.e)] [(13,.bool ((x.k:Int)==(((b.getD ((a+k)%b.length) aH).k:Nat):Int)&&((x.w:Int)==(((b.getD ((a+k)%b.length) aH).w:Nat):Int)&&true)))] [] ?_;refine cB (((x.k:Int)==(((b.getD ((a+k)%b.length) aH).k:Nat):Int)&&((x.w:Int)==(((b.getD ((a+k)%b.length) aH).w:Nat):Int)&&true))) (λC=>?_) λC=>?_
  ·refine rr (λ_=>[(0,.s 3)]) N0 [] (λ_ L=>L.set 3 (ob (B1 d) #[.bool true] 4)) λQ=>?_;exact nr _ ⟨⟨rfl,⟨_,rfl,Nn As⟩⟩,rfl⟩ [0,1,2,3,4] Kr
  exact ne _ ⟨⟨by omega,xy o (No As)⟩,rfl⟩ [0,1,2,3,4] Kr
 ·simp only[U6,Vc] at m;exact r0 [(0,.s 3)] [] [] (ak (.bool false) ab.zero (by(simp only[U6,Vc] at o;rw[CT o])) [] [(0,0),(1,1)] [3])
 obtain⟨rfl,u⟩:=D;exact ak (.bool true) ab.zero (by(obtain⟨j,O,A⟩:=u;have r:=F;simp only[U6,Vc] at r;rw[CS (j:=j) Om A])) [] [(0,0),(1,1)] [3]
theorem Nu(g:Nat)(v:Value)(b:List Ak)(a:Nat)(q:List Ak)(e:iJ b a q)(x:Ak)(o:q.length<256):aa UZ 268 #[pt g 0,.agg #[iN x.k,iN x.w]] [ob g #[v,iN a,iN q.length] 353,eY v b] [0,1] (λ_=>[ob g #[v,iN a,iN (q.length+1)] 353,eY v (b.set ((a+q.length)%b.length) x)]) (λ_=>i6 0):=by
 have f:=e.l;have k:=e.lt;have n:=e.n;have i:(a+q.length)%b.length<b.length:=U8 _ Om;exact fG Tryz.func268 λw j=>ra (λd=>[(3,pt (B0 d) 0),(4,i6 0)]) (λd=>[ob (B0 d) #[iN x.k,iN x.w] 285]) λd=>rF [(3,.l 0),(7,.l 0),(8,ew lX v b 1),(9,.t (tk (show Value.bool ((q.length:Int)==(b.length:Int))= .bool false from ALca Value.bool (by rw[dR];omega))))] 14 (rs [(3,.m (ld 0 (v))),(8,.m (ld 0 (iN q.length))),(9,.c [0,1] [] (aa.at (rd':=[ob g #[v,iN a,iN q.length] 353,eY v b]) (uk g v b a q.length q.length (by(simp only[LL,f];done)) Om Om) (aN (bN (λ_ h=>ao.sq h) (λ_ h=>h))))),(10,.m (ls 2 ([iN x.k,iN x.w]))),(11,cp lX v b 1 ((a+q.length)%b.length)),(12,qt lX v b 1 ((a+q.length)%b.length) x)] 1 (eY v (b.set ((a+q.length)%b.length) x)) (rs [(3,.l 0),(4,ad q.length 1),(7,.s 0)] 0 (ob g #[v,iN a,iN (q.length+1)] 353) (r0 [] [(4,i6 0)] [4] (lf ab.zero [0,1] [] []))))
theorem Nv(g:Nat)(v:Value)(b:List Ak)(a:Nat)(q:List Ak)(d:iJ b a q)(x:Ak)(f:q.length=256):aa UZ 268 #[pt g 0,.agg #[iN x.k,iN x.w]] [ob g #[v,iN a,iN q.length] 353,eY v b] [1] (λ_=>[eY v b]) (λ_=>i6 14):=by
 have e:=d.l;have i:=d.lt;have j:=d.n;exact fG Tryz.func268 λw h=>ra (λc=>[(3,pt (B0 c) 0),(4,i6 0)]) (λc=>[ob (B0 c) #[iN x.k,iN x.w] 285]) λc=>rT [(3,.l 0),(7,.l 0),(8,ew lX v b 1),(9,.t (tk (show Value.bool ((q.length:Int)==(b.length:Int))= .bool true from ALca Value.bool (by rw[e,f];rfl))))] 14 (r0 [] [(4,i6 14)] [4] (lf ab.zero [1] [(0,0)] []))
theorem Nw(g:Nat)(q:List Ak)(x:Ak)(j:x∈q):aa UZ 242 #[pt g 0,.agg #[iN x.k,iN x.w]] [pk (bD g q)] [0] (λ_=>[pk (bD g q)]) (λ_=>i6 15):=aa.pkZ Tryz.func242 λL f=>by
 obtain⟨v,b,a,d,rfl⟩:=f;refine⟨[1],λ_=>[eY v b],?_,rfl,λE=>⟨rfl,rfl,⟨_,_,_,d,rfl⟩⟩⟩;have i:=d.l;have m:=d.lt;have n:=d.n;exact fG Tryz.func242 λw k=>ra (λe=>[(3,pt (B0 e) 0),(4,i6 0)]) (λe=>[ob (B0 e) #[iN x.k,iN x.w] 285]) λe=>rT [(1,.l 2),(2,.c [0,1] [] (aa.v ((aa.at (rd':=[ob g #[v,iN a,iN q.length] 353,eY v b]) (xz g v b a q.length x (by(simp only[LL,i];done)) Om Om) (aN (bN (λ_ h=>ao.sq h) (λ_ h=>h))))) λ_=>ALca Value.bool (show(oy b a q.length x)=true from(by rw[d.has,cS j]))))] 7 (r0 [] [(4,i6 15)] [4] (lf ab.zero [1] [(0,0)] []))
theorem Nx(g:Nat)(q:List Ak)(x:Ak)(k:x∉q)(i:q.length=256):aa UZ 242 #[pt g 0,.agg #[iN x.k,iN x.w]] [pk (bD g q)] [0] (λ_=>[pk (bD g q)]) (λ_=>i6 14):=aa.pkZ Tryz.func242 λL j=>by
 obtain⟨v,b,a,d,rfl⟩:=j;refine⟨[1],λ_=>[eY v b],?_,rfl,λE=>⟨rfl,rfl,⟨_,_,_,d,rfl⟩⟩⟩;have f:=d.l;have n:=d.lt;have o:=d.n;exact fG Tryz.func242 λw m=>ra (λe=>[(3,pt (B0 e) 0),(4,i6 0)]) (λe=>[ob (B0 e) #[iN x.k,iN x.w] 285]) λe=>rF [(1,.l 2),(2,.c [0,1] [] (aa.v ((aa.at (rd':=[ob g #[v,iN a,iN q.length] 353,eY v b]) (xz g v b a q.length x (by(simp only[LL,f,i];done)) Om Om) (aN (bN (λ_ h=>ao.sq h) (λ_ h=>h))))) λ_=>ALca Value.bool (show(oy b a q.length x)=false from(by rw[d.has,bg k]))))] 7 (r0 [(1,.l 2),(2,.c [0,1] [1] (Nv g v b a q d x (by(simp only[LL,f,i];done))))] [(4,i6 14)] [4] (lf ab.zero [1] [(0,0)] []))
theorem Ny(g:Nat)(q:List Ak)(x:Ak)(k:x∉q)(j:q.length<256):aa UZ 242 #[pt g 0,.agg #[iN x.k,iN x.w]] [pk (bD g q)] [0] (λ_=>[pk (bD g (q++[x]))]) (λ_=>i6 0):=aa.pkZ Tryz.func242 λL f=>by
 obtain⟨v,b,a,d,rfl⟩:=f;refine⟨[0,1],λ_=>[ob g #[v,iN a,iN (q.length+1)] 353,eY v (b.set ((a+q.length)%b.length) x)],?_,rfl,λE=>⟨rfl,rfl,⟨_,_,_,d.push x j,ALca (λn:Nat=>[ob g #[v,iN a,iN n] _,_]) (show q.length+1=(q++[x]).length by rw[U4];rfl)⟩⟩⟩;have i:=d.l;have o:=d.lt;have p:=d.n;exact fG Tryz.func242 λw m=>ra (λe=>[(3,pt (B0 e) 0),(4,i6 0)]) (λe=>[ob (B0 e) #[iN x.k,iN x.w] 285]) λe=>rF [(1,.l 2),(2,.c [0,1] [] (aa.v ((aa.at (rd':=[ob g #[v,iN a,iN q.length] 353,eY v b]) (xz g v b a q.length x (by(simp only[LL,i];done)) Om Om) (aN (bN (λ_ h=>ao.sq h) (λ_ h=>h))))) λ_=>ALca Value.bool (show(oy b a q.length x)=false from(by rw[d.has,bg k]))))] 7 (rr (λ_=>[(1,.l 2),(2,.c [0,1] [0,1] (Nu g v b a q d x Om))]) (λ_=>[(4,i6 0)]) [4] (λ_ L=>(L.set 0 (ob g #[v,iN a,iN (q.length+1)] 353)).set 1 (eY v (b.set ((a+q.length)%b.length) x))) λr=>lf ab.zero [0,1] [] [])
theorem Nz(g:Nat)(v:Value)(d:List Ak)(a:Nat)(q:List Ak)(j:iJ d a q)(z:0<q.length):aa UZ 269 #[pt g 0,i6 0] [ob g #[v,iN a,iN q.length] 353,eY v d] [0,1] (λ_=>[ob g #[v,iN ((a+1)%(d.set a (⟨0,0⟩:Ak)).length),iN (q.length-1)] 353,eY v (d.set a (⟨0,0⟩:Ak))]) (λ_=> .tuple #[.agg #[iN ((d.getD ((a+0)%d.length) aH).k),iN ((d.getD ((a+0)%d.length) aH).w)],i6 0]):=by
 have m:=j.l;have x:=j.lt;have y:=j.n;have p:(a+0)%d.length<d.length:=U8 _ Om;refine fG Tryz.func269 λw u=>ra (λe=>[(4,pt (B0 e) 0),(5,i6 0)]) (λe=>[ob (B0 e) #[i6 0,i6 0] 285]) λe=>ra (λf=>[(6,pt (B0 f) 0)]) (λf=>[ob (B0 f) #[i6 0,i6 0] 285]) λf=>r0 [(7,.l 0)] [(18,.bool (decide ((q.length:Int)≤0)))] [] ?_;have n:(decide ((q.length:Int)≤0))=false:=by exact bg Om
 refine cF (decide ((q.length:Int)≤0)) n (rr (λ_=>[(3,.l 0),(6,.c [0,1] [] (aa.at (rd':=[ob g #[v,iN a,iN q.length] 353,eY v d]) (uk g v d a q.length 0 (by(simp only[LL,m];done)) Om Om) (aN (bN (λ_ h=>ao.sq h) (λ_ h=>h))))),(7,cp lX v d 1 ((a+0)%d.length)),(8,nm lX v d 1 ((a+0)%d.length) 0 2),(10,.s 4)]) (λi=>[(7,pt ((i 9).y 0) 0)]) [] (λi L=>L++[ob ((i 9).y 0) #[iN ((d.getD ((a+0)%d.length) aH).k),iN ((d.getD ((a+0)%d.length) aH).w)] 285]) λi=>r0 [] [(8,i6 0)] [] ?_);refine lq (λk=>k≤0) (λ_=>[(8,i6 0)]) (λ_ L=>L) (λk=>0-k) 0 Om Kr Kr (λk o=>?_);exact rF [] 31 (lx (rs [(3,.l 0),(7,.l 0),(8,.l 3),(9,cp lX v d 1 a),(10,qt lX v d 1 a (⟨0,0⟩:Ak))] 1 (eY v (d.set a (⟨0,0⟩:Ak))) (rs [(2,.c [0,1] [] (aa.at (rd':=[ob g #[v,iN a,iN q.length] 353,eY v (d.set a (⟨0,0⟩:Ak))]) (uk g v (d.set a (⟨0,0⟩:Ak)) a q.length 1 (by(simp only[LL,m];done)) Om Om) (aN (bN (λ_ h=>ao.sq h) (λ_ h=>h))))),(5,.s 0)] 0 (ob g #[v,iN ((a+1)%(d.set a (⟨0,0⟩:Ak)).length),iN q.length] 353) (rs [(3,.l 0),(4,.t (tb (a:=iN q.length) (b:=i6 1) λ_ _ _ _=>kQ (a:=q.length) (b:=1) Om Om)),(7,.s 0)] 0 (ob g #[v,iN ((a+1)%(d.set a (⟨0,0⟩:Ak)).length),iN (q.length-1)] 353) (rr (λ_=>[(0,.l 4),(1,.s 2)]) (λ_=>[(5,i6 0)]) [5] (λ_ L=>L.set 2 (ob (B0 e) #[iN ((d.getD ((a+0)%d.length) aH).k),iN ((d.getD ((a+0)%d.length) aH).w)] 285)) λr=>lf ab.zero [0,1] [] [2])))))
theorem NA(g:Nat)(q:List Ak)(f:0<q.length):aa UZ 247 #[pt g 0] [pk (bD g q)] [0] (λ_=>[pk (bD g q.tail)]) (λ_=> .tuple #[.agg #[iN ((q.headD aH).k),iN ((q.headD aH).w)],i6 0]):=aa.pkZ Tryz.func247 λL h=>by
 obtain⟨v,b,a,d,rfl⟩:=h;refine⟨[0,1],λ_=>[ob g #[v,iN ((a+1)%(b.set a (⟨0,0⟩:Ak)).length),iN (q.length-1)] 353,eY v (b.set a (⟨0,0⟩:Ak))],?_,rfl,λE=>⟨rfl,rfl,⟨_,_,_,d.pop f,ALca (λn:Nat=>[ob g #[v,iN ((a+1)%(b.set a (⟨0,0⟩:Ak)).length),iN n] _,_]) (show q.length-1=q.tail.length by rw[VA])⟩⟩⟩;have l:=d.l;have j:=d.lt;have m:=d.n;exact fG Tryz.func247 λw i=>ra (λe=>[(2,pt (B0 e) 0),(3,i6 0)]) (λe=>[ob (B0 e) #[i6 0,i6 0] 285]) λe=>rr (λ_=>[(1,.c [0,1] [0,1] (Nz g v b a q d Om)),(4,.s 2)]) (λ_=>[(3,i6 0)]) [3] (λ_ L=>((L.set 0 (ob g #[v,iN ((a+1)%(b.set a (⟨0,0⟩:Ak)).length),iN (q.length-1)] 353)).set 1 (eY v (b.set a (⟨0,0⟩:Ak)))).set 2 (ob (B0 e) #[iN ((b.getD ((a+0)%b.length) aH).k),iN ((b.getD ((a+0)%b.length) aH).w)] 285)) λo=>ak (.tuple #[.agg #[iN ((b.getD ((a+0)%b.length) aH).k),iN ((b.getD ((a+0)%b.length) aH).w)],i6 0]) ab.zero (by rw[←d.first f];rfl) [0,1] [] [2]
theorem NB(g:Nat)(v:Value)(b:List Ak)(a:Nat)(q:List Ak)(e:iJ b a q)(m:q.length=0):aa UZ 269 #[pt g 0,i6 0] [ob g #[v,iN a,iN q.length] 353,eY v b] [1] (λ_=>[eY v b]) (λ_=> .tuple #[.agg #[i6 0,i6 0],i6 13]):=by
 have j:=e.l;have i:=e.lt;have k:=e.n;refine fG Tryz.func269 λw h=>ra (λc=>[(4,pt (B0 c) 0),(5,i6 0)]) (λc=>[ob (B0 c) #[i6 0,i6 0] 285]) λc=>ra (λd=>[(6,pt (B0 d) 0)]) (λd=>[ob (B0 d) #[i6 0,i6 0] 285]) λd=>r0 [(7,.l 0)] [(18,.bool (decide ((q.length:Int)≤0)))] [] ?_;have f:(decide ((q.length:Int)≤0))=true:=by exact cS Om
 exact cT (decide ((q.length:Int)≤0)) f (r0 [(0,.l 3),(1,.s 2)] [(5,i6 13)] [5] (lf ab.zero [1] [(0,0)] [2]))
theorem NC(g:Nat)(q:List Ak)(i:q.length=0):aa UZ 247 #[pt g 0] [pk (bD g q)] [0] (λ_=>[pk (bD g q)]) (λ_=> .tuple #[.agg #[i6 0,i6 0],i6 13]):=aa.pkZ Tryz.func247 λL f=>by
 obtain⟨v,b,a,d,rfl⟩:=f;refine⟨[1],λ_=>[eY v b],?_,rfl,λE=>⟨rfl,rfl,⟨_,_,_,d,rfl⟩⟩⟩;have h:=d.l;have k:=d.lt;have l:=d.n;exact fG Tryz.func247 λw j=>ra (λe=>[(2,pt (B0 e) 0),(3,i6 0)]) (λe=>[ob (B0 e) #[i6 0,i6 0] 285]) λe=>r0 [(1,.c [0,1] [1] (NB g v b a q d (by(simp only[LL,h,i];done)))),(4,.s 2)] [(3,i6 13)] [3] (lf ab.zero [1] [(0,0)] [2])
theorem CU(g:Nat)(q:List Ak):aa UZ 247 #[pt g 0] [pk (bD g q)] [0] (λ_=>[pk (bD g q.tail)]) (λ_=> .tuple #[.agg #[i6 ((q.headD aH).k:Int),i6 ((q.headD aH).w:Int)],i6 (k4 q)]):=by
 cases q with
 | nil=>exact NC g [] rfl
 | cons x q=>exact NA g (x::q) (V3 _)
theorem ND:aa UZ 176 #[i6 256] [] [] (λE=>[ob (E.y 0) #[(E.val 0),i6 0,i6 0] 353,eY (E.val 0) (U2 256 aH)]) (λE=> .tuple #[pt ((E.y 0)) 0,i6 0]):=by
 exact fG Tryz.func176 λw b=>r0 [] [(2,.pointer none),(3,i6 0)] [] (rF [] 9 (rr (λ_=>[(1,qA lX 0 256)]) (λa=>[(2,pt (B3 a) 0),(3,i6 0)]) [2,3] (λa L=>L++[eY (.slice (some ⟨(a 1).y 0,0,none⟩) 256 256) (U2 256 aH),ob (B3 a) #[.slice (some ⟨(a 1).y 0,0,none⟩) 256 256,i6 0,i6 0] 353]) λa=>lf (.l [(a 3).y 0] [] [.slice (some ⟨(a 1).y 0,0,none⟩) 256 256]) [1,0] [] []))
theorem NF:aa UZ 176 #[i6 256] [] [] (λE=>[pk (bD (E.y 0) [])]) (λE=> .tuple #[pt ((E.y 0)) 0,i6 0]):=(ND).outs λE b a=>qY ⟨_,_,_,Np,rfl⟩ a
end
section
open Go.Shelf
structure Ev where
 k:Nat
 f:Nat
 t:Nat
deriving DecidableEq
def cx:Ev:=⟨0,0,0⟩
def xA(x:Ev):List Value:=[iN x.k,iN x.f,iN x.t]
def iK:Kd UZ Ev:=⟨xA,[i6 0,i6 0,i6 0],271,349,cx,3,λ_=>rfl,rfl,λ_=>rfl,dS.mk' Kr Kr rfl⟩
abbrev bf(v:Value)(xs:List Ev):aB:= .p (ao xA ([i6 0,i6 0,i6 0]) 349 v xs)
structure Rp where
 m:Mp
 j:Jb
 q:List Ak
structure ek (m:Mp) (a:Ak):Prop where
 k:(a.k=1∧a.w<m.R*m.B*m.M)∨(a.k=2∧a.w<m.R)
structure NG (m:Mp):Prop where
 P: ∀x,m.R*m.B*m.M-m.res+m.Q≤x→m.P.getD x false=false
structure a2 (r:Rp):Prop where
 m:bn r.m
 j:rn r.m r.j
 q: ∀a∈r.q,ek r.m a
 n:r.q.length≤256
 fr:NG r.m
abbrev aq(g a b:Nat)(r:Rp)(L:ah):Prop:=L=[ob g #[pt a 0,iN r.j.A,iN r.j.fr,iN r.j.tg,iN r.j.nx,pt b 0] 133,pk (aG a r.m),pk (bD b r.q)]
def pz(r:Rp)(w:Nat):Bool:=(r.m.P.getD w false||(du r.m&&decide (dV r.m≤w)))||(decide (r.j.A=1)&&decide (r.j.fr=w))
def pA(r:Rp)(w:Nat):Bool:=ff r.m w||(decide (r.j.A=2)&&decide (r.j.fr=w))
def c6(r:Rp)(a:Ak):Bool:=bif a.k==1 then pz r a.w else pA r a.w
def xB(a:Ak):List Ev:=[⟨5,a.w,a.k-1⟩]
def dc(r:Rp)(a:Ak):Rp:=bif a.k==1 then(bif du r.m then{r with m:=pr r.m,j:=⟨1,a.w,dV r.m,0⟩} else r) else(bif ei r.m then{r with m:=pv r.m,j:=⟨2,a.w,fy r.m,0⟩} else r)
def fz(r:Rp)(a:Ak):List Ev:=bif a.k==1 then(bif du r.m then[⟨3,a.w,dV r.m⟩] else xB a) else(bif ei r.m then[⟨4,a.w,fy r.m⟩] else xB a)
def bp(r:Rp)(a:Ak):Rp:=bif c6 r a then r else bif r.j.A==0 then dc r a else{r with q:=py r.q a}
def bU(r:Rp)(a:Ak):List Ev:=bif c6 r a then[] else bif r.j.A==0 then fz r a else bif uj r.q a==14 then xB a else[]
def a1(r:Rp):Rp:={r with q:=r.q.tail}
def gU(s:Rp×List Ev):Rp×List Ev:=bif c6 (a1 s.1) (s.1.q.headD aH) then(a1 s.1,s.2) else(dc (a1 s.1) (s.1.q.headD aH),s.2++fz (a1 s.1) (s.1.q.headD aH))
def af(s:Rp×List Ev):Nat→Rp×List Ev
 | 0=>s
 | k+1=>gU (af s k)
def eZ:Nat→Rp×List Ev→Rp×List Ev
 | 0,s=>s
 | n+1,s=>if s.1.j.A=0 then eZ n (gU s) else s
def jk(r:Rp):Rp:={r with m:=bif r.j.A==1 then rl r.m r.j.fr r.j.tg else rm r.m r.j.fr r.j.tg,j:=kY}
def ae(r:Rp):Rp×List Ev:=(jk r,[⟨6,r.j.fr,r.j.tg⟩])
def cy(r:Rp):Rp×List Ev:=eZ r.q.length (ae r)
def bE(r:Rp):Rp:={r with j:={r.j with nx:=r.j.nx+1}}
def fg(r:Rp):Rp×List Ev:=bif kZ r.m (bE r).j then cy (bE r) else(bE r,[])
section
variable {m:Mp}
theorem NH(h:bn m)(hp:du m=true):bn (pr m):=by
 have:m.Q≠m.res:=by unfold du at hp;simpa using hp
 have:=h.pg;exact⟨h.ly,h.ll,h.ld,h.ls,by show m.Q+1≤m.res;omega,h.rk,h.lv,h.sp⟩
theorem NI(h:bn m)(hp:ei m=true):bn (pv m):=by
 have:m.F≠m.S:=by unfold ei at hp;simpa using hp
 have:=h.rk;exact⟨h.ly,h.ll,h.ld,h.ls,h.pg,by show m.F+1≤m.S;omega,h.lv,h.sp⟩
theorem NJ{l:List Nat}{h t k n b:Nat}(c: ∀i,i<n→l.getD i 0<b)(e:n=l.length)(ht:t<b): ∀i,i<n→(dI l h t k).getD i 0<b:=by
 intro i a;by_cases d:i<k
 ·unfold dI;rw[U0,Ve (by rw[U6,U5];omega),Vy,List.getElem?_take,ALifp d,U3 Om];have:=c i a;rw[U0,U3 Om] at this;show(if _=h then t else _)<b
  split
  ·exact ht
  ·exact this
 ·unfold dI;rw[U0,Vh (by rw[U6,U5];omega),U6,U5,Vv,show k+(i-min k l.length)=i by omega,←U0];exact c i a
theorem NK(h:bn m){x t:Nat}(ht:t<m.R*m.B*m.M):bn (rl m x t):=
 ⟨h.ly,(Cz ..).trans h.ll,by show(m.P.set x true).length=_;rw[Vl];exact h.ld,h.ls,h.pg,h.rk,NJ h.lv h.ll.symm ht,h.sp⟩
theorem NL(h:bn m){x t:Nat}(h0:m.R≤t)(h1:t<m.R+m.S):bn (rm m x t):=by
 refine⟨h.ly,h.ll,h.ld,by show(m.K.set x (t:Int)).length=_;rw[Vl];exact h.ls,h.pg,h.rk,h.lv,λi a=>?_⟩;show(m.K.set x (t:Int)).getD i 0= -1∨((m.R:Int)≤(m.K.set x (t:Int)).getD i 0∧(m.K.set x (t:Int)).getD i 0<((m.R+m.S:Nat):Int));have a:i<m.R:=a;have b:=h.ls;rw[U0,Vr];by_cases e:x=i
 ·rw[ALifp e,ALifp Om];refine .inr ?_;show(m.R:Int)≤(t:Int)∧(t:Int)<((m.R+m.S:Nat):Int);omega
 ·rw[ALifn e,←U0];exact h.sp i a
theorem getD_set_ne{α:Type}{l:List α}{i j:Nat}{x d:α}(h:i≠j):(l.set i x).getD j d=l.getD j d:=by rw[U0,Vr,ALifn h,←U0]
theorem CV{r:Rp}{a:Ak}(h:a2 r)(i:ek r.m a)(b:c6 r a=false):a2 (dc r a):=by
 unfold dc;unfold c6 at b;rcases i.k with⟨f,g⟩ | ⟨f,g⟩
 ·rw[f] at b⊢;have b:pz r a.w=false:=b;show a2 (bif du r.m then _ else _);cases c:du r.m with
  | false=>exact h
  | true=>
   unfold pz at b;rw[c] at b;simp only[Bool.true_and,U9,decide_eq_false_iff_not] at b;have d:r.m.Q≠r.m.res:=by unfold du at c;simpa using c
   have j:dV r.m=r.m.R*r.m.B*r.m.M-r.m.res+r.m.Q:=by unfold dV;rw[ALifn d]
   have n:=h.m.pg;have o:=h.m.ly.rp;have l:a.w<dV r.m:=by omega
   refine⟨NH h.m c,⟨.inr (.inl ⟨rfl,?_⟩)⟩,λx e=>⟨(h.q x e).k⟩,h.n,⟨λx e=>h.fr.P x ?_⟩⟩
   ·exact⟨g,by show dV r.m<r.m.R*r.m.B*r.m.M;omega,by show a.w≠dV r.m;omega,b.1.1,h.fr.P _ (by show _≤dV r.m;omega),by show r.m.R*r.m.B*r.m.M-r.m.res≤dV r.m;omega,by show dV r.m<r.m.R*r.m.B*r.m.M-r.m.res+(r.m.Q+1);omega,Vz _,by show a.w<r.m.R*r.m.B*r.m.M-r.m.res+(r.m.Q+1);omega⟩
   ·have e:r.m.R*r.m.B*r.m.M-r.m.res+(r.m.Q+1)≤x:=e;omega
 ·rw[f] at b⊢;have b:pA r a.w=false:=b;show a2 (bif ei r.m then _ else _);cases c:ei r.m with
  | false=>exact h
  | true=>
   unfold pA at b;rw[U9] at b;have d:r.m.F≠r.m.S:=by unfold ei at c;simpa using c
   have j:fy r.m=r.m.R+r.m.F:=by unfold fy;rw[ALifn d]
   refine⟨NI h.m c,⟨.inr (.inr ⟨rfl,?_⟩)⟩,λx e=>⟨(h.q x e).k⟩,h.n,⟨h.fr.P⟩⟩;exact⟨g,b.1,by show r.m.R≤fy r.m;omega,by show fy r.m<r.m.R+(r.m.F+1);omega,Vz _⟩
theorem um{r:Rp}(h:a2 r)(c:r.j.A≠0):a2 (jk r):=by
 unfold jk;rcases h.j.k with e | ⟨e,b⟩ | ⟨e,b⟩
 ·rw[e] at c;exact absurd rfl c
 ·rw[e];show a2 {r with m:=rl r.m r.j.fr r.j.tg,j:=kY};refine⟨NK h.m b.ht,⟨.inl rfl⟩,λx a=>⟨(h.q x a).k⟩,h.n,⟨λx a=>?_⟩⟩;have a:r.m.R*r.m.B*r.m.M-r.m.res+r.m.Q≤x:=a;have:=b.f1;show(r.m.P.set r.j.fr true).getD x false=false;rw[getD_set_ne Om];exact h.fr.P x a
 ·rw[e];show a2 {r with m:=rm r.m r.j.fr r.j.tg,j:=kY};have:=b.t1;have:=h.m.rk;exact⟨NL h.m b.t0 Om,⟨.inl rfl⟩,λx a=>⟨(h.q x a).k⟩,h.n,⟨h.fr.P⟩⟩
theorem CW{r:Rp}(h:a2 r)(a:r.j.A≠0):r.j.A=1∨r.j.A=2:=by
 rcases h.j.k with e | ⟨e,_⟩ | ⟨e,_⟩
 ·rw[e] at a;exact absurd rfl a
 ·exact .inl e
 ·exact .inr e
theorem CX{r:Rp}(h:a2 r):r.j.nx≤4096:=by
 rcases h.j.k with e | ⟨e,a⟩ | ⟨e,a⟩
 ·rw[e];exact Vz _
 ·have:=a.nx;have:=h.m.O.bd.c64;omega
 ·have:=a.nx;have:=h.m.O.bd.bmc;omega
theorem uq{r:Rp}(h:a2 r)(c:r.j.A≠0)(b:r.j.nx<gj r.j.A r.m.B r.m.M r.m.C):a2 (bE r):=by
 refine⟨h.m,⟨?_⟩,h.q,h.n,h.fr⟩;rcases h.j.k with e | ⟨e,a⟩ | ⟨e,a⟩
 ·rw[e] at c;exact absurd rfl c
 ·rw[e] at b;exact .inr (.inl ⟨e,a.hf,a.ht,a.ne,a.df,a.dt,a.t0,a.t1,b,a.f1⟩)
 ·rw[e] at b;exact .inr (.inr ⟨e,a.hf,a.hs,a.t0,a.t1,b⟩)
theorem ur{r:Rp}(h:a2 r):a2 (a1 r):=⟨h.m,h.j,λx a=>h.q x (List.mem_of_mem_tail a),by show r.q.tail.length≤256;rw[VA];have:=h.n;omega,h.fr⟩
theorem ru{r:Rp}(h:a2 r)(a:0<r.q.length):ek r.m (r.q.headD aH):=by
 refine h.q _ ?_;cases e:r.q with
 | nil=>rw[e] at a;cases a
 | cons x q=>exact V8 ..
theorem xC{s:Rp×List Ev}(h:a2 s.1)(c:0<s.1.q.length):a2 (gU s).1:=by
 have a:=ur h;have b:=ru h c;unfold gU;cases d:c6 (a1 s.1) (s.1.q.headD aH) with
 | true=>exact a
 | false=>exact CV a ⟨b.k⟩ d
theorem NM(r:Rp)(a:Ak):(dc r a).q=r.q:=by
 unfold dc;cases a.k==1<;>cases du r.m<;>cases ei r.m<;>rfl
theorem uu(r:Rp)(a:Ak):(fz r a).length=1:=by
 unfold fz;cases a.k==1<;>cases du r.m<;>cases ei r.m<;>rfl
theorem xD(s:Rp×List Ev):(gU s).1.q=s.1.q.tail:=by
 unfold gU;cases c6 (a1 s.1) (s.1.q.headD aH) with
 | true=>rfl
 | false=>exact NM _ _
theorem CY(s:Rp×List Ev):(gU s).2.length≤s.2.length+1:=by
 unfold gU;cases c6 (a1 s.1) (s.1.q.headD aH) with
 | true=>exact Nat.le_succ _
 | false=>show(s.2++fz _ _).length≤_;rw[U4,uu];exact Vk _
theorem uv(s:Rp×List Ev): ∀k,(af s k).1.q.length=s.1.q.length-k
 | 0=>rfl
 | k+1=>by rw[af,xD,VA,uv s k];omega
theorem xF(s:Rp×List Ev): ∀k,(af s k).2.length≤s.2.length+k
 | 0=>Vk _
 | k+1=>by rw[af];exact Vj (CY _) (by have:=xF s k;omega)
theorem xG{s:Rp×List Ev}(h:a2 s.1): ∀k,k≤s.1.q.length→a2 (af s k).1
 | 0,_=>h
 | k+1,a=>xC (xG h k Om) (by rw[uv];omega)
theorem CZ{s:Rp×List Ev}{k:Nat}(h:c6 (a1 (af s k).1) ((af s k).1.q.headD aH)=true):af s (k+1)=(a1 (af s k).1,(af s k).2):=by rw[af,gU,h,ALct]
theorem C0{s:Rp×List Ev}{k:Nat}(h:c6 (a1 (af s k).1) ((af s k).1.q.headD aH)=false):af s (k+1)=(dc (a1 (af s k).1) ((af s k).1.q.headD aH),(af s k).2++fz (a1 (af s k).1) ((af s k).1.q.headD aH)):=by rw[af,gU,h,ALcf]
theorem C1{s:Rp×List Ev}{k:Nat}(a:k<s.1.q.length)(h:eZ s.1.q.length s=eZ (s.1.q.length-k) (af s k))(h0:(af s k).1.j.A=0):eZ s.1.q.length s=eZ (s.1.q.length-(k+1)) (af s (k+1)):=by
 rw[h,show s.1.q.length-k=(s.1.q.length-(k+1))+1 by omega,eZ,ALifp h0];rfl
theorem uw{q:List Ak}(h:q.length=0):q.tail=q:=by rw[List.length_eq_zero_iff.1 h];rfl
theorem ux{s:Rp×List Ev}(h0:s.1.j.A≠0)(n:Nat):eZ n s=s:=by
 cases n with
 | zero=>rfl
 | succ n=>rw[eZ,ALifn h0]
end
end
section
open Go.Shelf
theorem NN(R S B M C way a:Nat)(b:gT R S B M C way a):aa UZ 137 #[.agg #[iN R,iN S,iN B,iN M,iN C,iN way,iN a]] [] [] (λE=>[ob (E.y 0) #[pt ((E.y 1)) 0,i6 0,i6 0,i6 0,i6 0,pt ((E.y 2)) 0] 133,pk (aG (E.y 1) (kW R S B M C way a)),pk (bD (E.y 2) [])]) (λE=> .tuple #[pt ((E.y 0)) 0,i6 0]):=by
 have j:=b.O;have m:=b.rp;have k:=j.bd.rbm;have i:=b.G;have h:=b.r64;exact fG Tryz.func137 λw n=>ra (λg=>[(1,pt (B0 g) 0),(2,.pointer none),(3,i6 0)]) (λg=>[ob (B0 g) #[iN R,iN S,iN B,iN M,iN C,iN way,iN a] 25]) λg=>rr (λ_=>[(0,.l 0),(1,.c [] [1] (M3 R S B M C way a b))]) (λd=>[(4,pt ((B1 d)) 0),(5,i6 0)]) [] (λd L=>L++[pk (aG (B1 d) (kW R S B M C way a))]) λd=>rF [] 13 (rr (λ_=>[(0,.c [] [2] (NF))]) (λe=>[(6,pt ((B0 e)) 0),(5,i6 0)]) [5] (λe L=>L++[pk (bD (B0 e) [])]) λe=>rF [] 20 (rr N0 (λf=>[(2,pt (B3 f) 0),(3,i6 0)]) [2,3] (λf L=>L++[ob (B3 f) #[pt ((B1 d)) 0,i6 0,i6 0,i6 0,i6 0,pt ((B0 e)) 0] 133]) λf=>lf (.l [(f 3).y 0,(B1 d),(B0 e)] [] []) [3,1,2] [] []))
theorem NO(R S B M C way a:Nat)(b:gT R S B M C way a):aa UZ 137 #[.agg #[iN R,iN S,iN B,iN M,iN C,iN way,iN a]] [] [] (λE=>[pk (aq (E.y 0) (E.y 1) (E.y 2) ⟨kW R S B M C way a,kY,[]⟩)]) (λE=> .tuple #[pt ((E.y 0)) 0,i6 0]):=(NN R S B M C way a b).outs λE d c=>qY rfl c
theorem uy(g a b:Nat)(r:Rp)(d:a2 r):aa UZ 23 #[pt g 0] [pk (aq g a b r)] [0] (λ_=>[pk (aq g a b r)]) (λ_=>pt a 0):=aa.pkZ Tryz.func23 λL e=>by
 obtain⟨rfl⟩:=e;refine⟨[1,2],λ_=>[pk (aG a r.m),pk (bD b r.q)],?_,rfl,λE=>⟨rfl,rfl,rfl⟩⟩;have c:=d.m;have m:=d.j;have i:=d.n;have k:=c.O;have f:=c.ly;have h:=c.np;exact fG Tryz.func23 λw j=>r0 [] [(2,.pointer none)] [] (r0 [(3,.l 0)] [(2,pt a 0)] [2] (lf ab.zero [1,2] [(0,0)] []))
theorem xH(g b c:Nat)(r:Rp)(e:a2 r):aa UZ 27 #[pt g 0] [pk (aq g b c r)] [0] (λ_=>[pk (aq g b c r)]) (λ_=> .agg #[iN r.j.A,iN r.j.fr,iN r.j.tg,iN r.j.nx]):=aa.pkZ Tryz.func27 λL f=>by
 obtain⟨rfl⟩:=f;refine⟨[1,2],λ_=>[pk (aG b r.m),pk (bD c r.q)],?_,rfl,λE=>⟨rfl,rfl,rfl⟩⟩;have d:=e.m;have n:=e.j;have j:=e.n;have m:=d.O;have h:=d.ly;have i:=d.np;exact fG Tryz.func27 λw k=>ra (λa=>[(2,pt (B0 a) 0)]) (λa=>[ob (B0 a) #[i6 0,i6 0,i6 0,i6 0] 70]) λa=>rs [(3,.l 0),(4,.s 3)] 3 (ob (B0 a) #[iN r.j.A,iN r.j.fr,iN r.j.tg,iN r.j.nx] 70) (lf ab.zero [1,2] [(0,0)] [3])
theorem lZ(g a b:Nat)(r:Rp):aa UZ 118 #[pt g 0] [ob g #[pt a 0,iN r.j.A,iN r.j.fr,iN r.j.tg,iN r.j.nx,pt b 0] 133,pk (aG a r.m),pk (bD b r.q)] [1,2] (λ_=>[pk (aG a r.m),pk (bD b r.q)]) (λ_=> .bool ((r.j.A:Int) != 0)):=by
 exact fG Tryz.func118 λw c=>r0 [] [(2,.bool false)] [] (r0 [(4,.l 0)] [(2,.bool ((r.j.A:Int) != 0))] [2] (lf ab.zero [1,2] [(0,0)] []))
theorem NP(g a d:Nat)(r:Rp)(e:a2 r)(n:Nat)(p:n<(r.m.R*r.m.B*r.m.M-r.m.res)*r.m.C):aa UZ 143 #[pt g 0,iN n] [pk (aq g a d r)] [0] (λ_=>[pk (aq g a d r)]) (λ_=> .tuple #[iN (aR r.m r.j n),iN (ay r.m n),iN (aK r.m.G r.m.R r.m.B r.m.M (ay r.m n)),i6 0]):=aa.pkZ Tryz.func143 λL f=>by
 obtain⟨rfl⟩:=f;refine⟨[1,2],λ_=>[pk (aG a r.m),pk (bD d r.q)],?_,rfl,λE=>⟨rfl,rfl,rfl⟩⟩;have b:=e.m;have h:=e.j;have k:=e.n;have o:=b.O;have i:=b.ly;have j:=b.np;exact fG Tryz.func143 λw l=>r0 [] [(4,i6 0),(5,i6 0),(6,i6 0),(7,i6 0)] [] (r0 [(3,.m (ls 0 ([iN r.j.A,iN r.j.fr,iN r.j.tg,iN r.j.nx]))),(7,.m (ld 0 (pt a 0))),(9,.c [1] [1] (Nk a r.m b r.j h n Om)),] [(4,iN (aR r.m r.j n)),(5,iN (ay r.m n)),(6,iN (aK r.m.G r.m.R r.m.B r.m.M (ay r.m n))),(7,i6 0)] [4,5,6,7] (lf ab.zero [1,2] [(0,0)] []))
theorem NQ(g a d:Nat)(r:Rp)(e:a2 r)(n:Int)(i:bR n (((r.m.R*r.m.B*r.m.M-r.m.res)*r.m.C:Nat):Int)=false):aa UZ 143 #[pt g 0,i6 n] [pk (aq g a d r)] [0] (λ_=>[pk (aq g a d r)]) (λ_=> .tuple #[i6 0,i6 0,i6 0,i6 12]):=aa.pkZ Tryz.func143 λL f=>by
 obtain⟨rfl⟩:=f;refine⟨[1,2],λ_=>[pk (aG a r.m),pk (bD d r.q)],?_,rfl,λE=>⟨rfl,rfl,rfl⟩⟩;have b:=e.m;have p:=e.j;have k:=e.n;have o:=b.O;have h:=b.ly;have j:=b.np;exact fG Tryz.func143 λw l=>r0 [] [(4,i6 0),(5,i6 0),(6,i6 0),(7,i6 0)] [] (r0 [(3,.m (ls 0 ([iN r.j.A,iN r.j.fr,iN r.j.tg,iN r.j.nx]))),(7,.m (ld 0 (pt a 0))),(9,.c [1] [1] (Nj a r.m b r.j.A r.j.fr r.j.tg r.j.nx n i)),] [(4,i6 0),(5,i6 0),(6,i6 0),(7,i6 12)] [4,5,6,7] (lf ab.zero [1,2] [(0,0)] []))
theorem xI(k u:Nat)(g:1≤k)(e:k≤2):aa UZ 243 #[.agg #[iN k,iN u]] [] [] (λE=>[bf (E.val 0) ([(⟨5,u,k-1⟩:Ev)])]) (λE=>(E.val 0)):=by
 exact fG Tryz.func243 λw f=>ra (λd=>[(1,pt (B0 d) 0),(2,.slice none 0 0)]) (λd=>[ob (B0 d) #[iN k,iN u] 285]) λd=>rr (λ_=>[(1,.l 0),(3,.l 0),(4,.t (tb (a:=iN k) (b:=i6 1) λ_ _ _ _=>kQ (a:=k) (b:=1) Om Om)),(6,gA iK 1 1 [(⟨5,u,k-1⟩:Ev)])]) (λc=>[(2,.slice (some ⟨(c 6).y 0,0,none⟩) 1 1)]) [2] (λc L=>L++[bf (.slice (some ⟨(c 6).y 0,0,none⟩) 1 1) ([(⟨5,u,k-1⟩:Ev)])]) λc=>lf (.l [] [] [.slice (some ⟨(c 6).y 0,0,none⟩) 1 1]) [1] [] []
theorem NR(g a f:Nat)(r:Rp)(i:a2 r)(u:Nat)(x:u<r.m.R*r.m.B*r.m.M):aa UZ 240 #[pt g 0,.agg #[i6 1,iN u]] [pk (aq g a f r)] [0] (λ_=>[pk (aq g a f r)]) (λ_=> .bool (pz r u)):=aa.pkZ Tryz.func240 λL k=>by
 obtain⟨rfl⟩:=k;refine⟨[1,2],λ_=>[pk (aG a r.m),pk (bD f r.q)],?_,rfl,λE=>⟨rfl,rfl,rfl⟩⟩;have b:=i.m;have v:=i.j;have p:=i.n;have j:=b.O;have n:=b.ly;have o:=b.np;refine fG Tryz.func240 λw q=>ra (λd=>[(3,pt (B0 d) 0),(4,.bool false)]) (λd=>[ob (B0 d) #[i6 1,iN u] 285]) λd=>rr (λ_=>[(3,.l 0),(4,.c [1] [1] (iH a r.m b)),(7,.s 4)]) (λe=>[(5,pt (B6 e) 0)]) [] (λe L=>L++[ob (B6 e) #[iN r.m.R,iN r.m.S,iN r.m.B,iN r.m.M,iN r.m.C] 23]) λe=>r0 [(1,.l 3)] [(17,i6 1)] [] (rT [] 18 (r0 [(3,.l 0),(4,.c [1] [1] (MT a r.m b))] [(6,iN (dV r.m)),(7,.bool (du r.m))] [] (r0 [(1,.m (ld 3 (iN u))),(2,.t (tk (show Value.bool (decide ((u:Int)<0))= .bool false from ALca Value.bool (by exact bg Om)))),(5,.m (ld 3 (iN u))),(6,.m (ls 4 ([iN r.m.R,iN r.m.S,iN r.m.B,iN r.m.M,iN r.m.C]))),(7,.c [] [] (lU r.m.R r.m.S r.m.B r.m.M r.m.C j)),(8,.t (tk (show Value.bool (decide ((((r.m.R*r.m.B)*r.m.M:Nat):Int)≤(u:Int)))= .bool false from ALca Value.bool (by exact bg Om)))),(14,.m (ld 0 (pt a 0))),(16,.m (ld 3 (iN u))),(17,.c [1] [1] (xp a r.m b u Om)),(23,.m (ld 3 (iN u))),] [(55,.bool ((r.m.P.getD u false)||((du r.m)&&(decide (((dV r.m:Nat):Int)≤(u:Int))))))] [] ?_)));refine cB ((r.m.P.getD u false)||((du r.m)&&(decide (((dV r.m:Nat):Int)≤(u:Int))))) (λh=>?_) λh=>?_
 ·exact r0 [] [(4,.bool true)] [4] (ak (.bool true) ab.zero (by unfold pz;simp only[←xu,←kX];(repeat (rw[h]));rfl) [1,2] [(0,0)] [])
 exact r0 [(4,.m (ld 0 (iN r.j.A))),(6,.m (ld 3 (i6 1))),(13,.m (ld 0 (iN r.j.fr))),(15,.m (ld 3 (iN u))),] [(4,.bool (((r.j.A:Int)==1)&&((r.j.fr:Int)==(u:Int))))] [4] (ak (.bool (((r.j.A:Int)==1)&&((r.j.fr:Int)==(u:Int)))) ab.zero (by unfold pz;simp only[←xu,←kX];(repeat (rw[h]));rfl) [1,2] [(0,0)] [])
theorem NS(g a h:Nat)(r:Rp)(j:a2 r)(u:Nat)(y:u<r.m.R):aa UZ 240 #[pt g 0,.agg #[i6 2,iN u]] [pk (aq g a h r)] [0] (λ_=>[pk (aq g a h r)]) (λ_=> .bool (pA r u)):=aa.pkZ Tryz.func240 λL k=>by
 obtain⟨rfl⟩:=k;refine⟨[1,2],λ_=>[pk (aG a r.m),pk (bD h r.q)],?_,rfl,λE=>⟨rfl,rfl,rfl⟩⟩;have b:=j.m;have x:=j.j;have p:=j.n;have v:=b.O;have n:=b.ly;have o:=b.np;refine fG Tryz.func240 λw q=>ra (λe=>[(3,pt (B0 e) 0),(4,.bool false)]) (λe=>[ob (B0 e) #[i6 2,iN u] 285]) λe=>rr (λ_=>[(3,.l 0),(4,.c [1] [1] (iH a r.m b)),(7,.s 4)]) (λf=>[(5,pt (B6 f) 0)]) [] (λf L=>L++[ob (B6 f) #[iN r.m.R,iN r.m.S,iN r.m.B,iN r.m.M,iN r.m.C] 23]) λf=>r0 [(1,.l 3)] [(17,i6 2)] [] (rF [] 18 (rT [] 56 (r0 [(3,.m (ld 0 (pt a 0))),(5,.m (ld 3 (iN u))),(6,.c [1] [1] (CD a r.m b u Om)),] [(9,.bool (ff r.m u))] [] (r0 [(3,.m (ld 3 (iN u))),(4,.t (tk (show Value.bool (decide ((u:Int)<0))= .bool false from ALca Value.bool (by exact bg Om)))),(8,.m (ld 3 (iN u))),(10,.m (ld 4 (iN r.m.R))),(11,.t (tk (show Value.bool (decide ((r.m.R:Int)≤(u:Int)))= .bool false from ALca Value.bool (by exact bg Om))))] [(80,.bool (((ff r.m u)||false)||false))] [] ?_))));refine cB (((ff r.m u)||false)||false) (λi=>?_) λi=>?_
 ·exact r0 [] [(4,.bool true)] [4] (ak (.bool true) ab.zero (by unfold pA;simp only[←kX];have d:=i;simp only[Wk] at d;rw[d];rfl) [1,2] [(0,0)] [])
 exact r0 [(4,.m (ld 0 (iN r.j.A))),(6,.m (ld 3 (i6 2))),(13,.m (ld 0 (iN r.j.fr))),(15,.m (ld 3 (iN u))),] [(4,.bool (((r.j.A:Int)==2)&&((r.j.fr:Int)==(u:Int))))] [4] (ak (.bool (((r.j.A:Int)==2)&&((r.j.fr:Int)==(u:Int)))) ab.zero (by unfold pA;simp only[←kX];have d:=i;simp only[Wk] at d;rw[d];rfl) [1,2] [(0,0)] [])
theorem NT(g a b:Nat)(r:Rp)(h:a2 r)(u:Nat)(hp:du r.m=true):aa UZ 241 #[pt g 0,.agg #[i6 1,iN u]] [pk (aq g a b r)] [0] (λE=>[pk (aq g a b {r with m:=pr r.m,j:=⟨1,u,dV r.m,0⟩}),bf (E.val 0) ([(⟨3,u,dV r.m⟩:Ev)])]) (λE=>(E.val 0)):=aa.pkW (n:=1) (N:=λE=>[bf (E.val 0) ([(⟨3,u,dV r.m⟩:Ev)])]) (enters_of Tryz.func241 Kr rfl) λL i=>by
 obtain⟨rfl⟩:=i;refine⟨[0,1,2],λ_=>[ob g #[pt a 0,i6 1,iN u,iN (dV r.m),i6 0,pt b 0] 133,pk (aG a (pr r.m)),pk (bD b r.q)],?_,rfl,λE=>⟨rfl,rfl,rfl⟩⟩;have e:=h.m;have v:=h.j;have p:=h.n;have t:=e.O;have k:=e.ly;have o:=e.np;exact fG Tryz.func241 λw q=>ra (λf=>[(3,pt (B0 f) 0),(4,.slice none 0 0)]) (λf=>[ob (B0 f) #[i6 1,iN u] 285]) λf=>r0 [] [(5,i6 3)] [] (r0 [(3,.l 0)] [(6,.func (.func 265) #[pt a 0] #[])] [] (rF [(1,.l 3)] 16 (rr (λ_=>[(1,.c [1] [1] (MU a r.m e Om))]) (λ_=>[(7,iN (dV r.m)),(8,i6 0)]) [] (λ_ L=>L.set 1 ((pk (aG a (pr r.m))))) λx=>rF [] 28 (rs [(2,.l 3),(4,.l 3),(9,.s 0)] 0 (ob g #[pt a 0,i6 1,iN u,iN (dV r.m),i6 0,pt b 0] 133) (rr (λ_=>[(2,.l 3),(5,gA iK 4 1 [(⟨3,u,dV r.m⟩:Ev)])]) (λd=>[(4,.slice (some ⟨(d 5).y 0,0,none⟩) 1 1)]) [4] (λd L=>L++[bf (.slice (some ⟨(d 5).y 0,0,none⟩) 1 1) ([(⟨3,u,dV r.m⟩:Ev)])]) λd=>lf (.l [] [] [.slice (some ⟨(d 5).y 0,0,none⟩) 1 1]) [0,1,2,4] [] [])))))
theorem NU(g b f:Nat)(r:Rp)(h:a2 r)(u:Nat)(hp:du r.m=false):aa UZ 241 #[pt g 0,.agg #[i6 1,iN u]] [pk (aq g b f r)] [0] (λE=>[pk (aq g b f r),bf (E.val 0) ([(⟨5,u,1-1⟩:Ev)])]) (λE=>(E.val 0)):=aa.pkW (n:=1) (N:=λE=>[bf (E.val 0) ([(⟨5,u,1-1⟩:Ev)])]) (enters_of Tryz.func241 Kr rfl) λL i=>by
 obtain⟨rfl⟩:=i;refine⟨[1,2],λ_=>[pk (aG b r.m),pk (bD f r.q)],?_,rfl,λE=>⟨rfl,rfl,rfl⟩⟩;have d:=h.m;have q:=h.j;have m:=h.n;have p:=d.O;have j:=d.ly;have k:=d.np;exact fG Tryz.func241 λw o=>ra (λe=>[(3,pt (B0 e) 0),(4,.slice none 0 0)]) (λe=>[ob (B0 e) #[i6 1,iN u] 285]) λe=>r0 [] [(5,i6 3)] [] (r0 [(3,.l 0)] [(6,.func (.func 265) #[pt b 0] #[])] [] (rF [(1,.l 3)] 16 (r0 [(1,.c [1] [1] (MV b r.m d Om))] [(7,i6 0),(8,i6 52)] [] (rT [] 28 (rr (λ_=>[(0,.l 3),(1,.c [] [4] (xI 1 u Om Om))]) (λa=>[(4,((a 1).val 0))]) [4] (λa L=>L++[bf ((a 1).val 0) ([(⟨5,u,1-1⟩:Ev)])]) λa=>lf (.l [] [] [((a 1).val 0),(a 1).val 0]) [1,2,4] [(0,0)] [])))))
theorem NV(g a b:Nat)(r:Rp)(h:a2 r)(u:Nat)(hp:ei r.m=true):aa UZ 241 #[pt g 0,.agg #[i6 2,iN u]] [pk (aq g a b r)] [0] (λE=>[pk (aq g a b {r with m:=pv r.m,j:=⟨2,u,fy r.m,0⟩}),bf (E.val 0) ([(⟨4,u,fy r.m⟩:Ev)])]) (λE=>(E.val 0)):=aa.pkW (n:=1) (N:=λE=>[bf (E.val 0) ([(⟨4,u,fy r.m⟩:Ev)])]) (enters_of Tryz.func241 Kr rfl) λL i=>by
 obtain⟨rfl⟩:=i;refine⟨[0,1,2],λ_=>[ob g #[pt a 0,i6 2,iN u,iN (fy r.m),i6 0,pt b 0] 133,pk (aG a (pv r.m)),pk (bD b r.q)],?_,rfl,λE=>⟨rfl,rfl,rfl⟩⟩;have e:=h.m;have v:=h.j;have p:=h.n;have t:=e.O;have k:=e.ly;have o:=e.np;exact fG Tryz.func241 λw q=>ra (λf=>[(3,pt (B0 f) 0),(4,.slice none 0 0)]) (λf=>[ob (B0 f) #[i6 2,iN u] 285]) λf=>r0 [] [(5,i6 3)] [] (r0 [(3,.l 0)] [(6,.func (.func 265) #[pt a 0] #[])] [] (rT [(1,.l 3)] 16 (r0 [(3,.l 0)] [(5,i6 4),(6,.func (.func 266) #[pt a 0] #[])] [5,6] (rr (λ_=>[(1,.c [1] [1] (MW a r.m e Om))]) (λ_=>[(7,iN (fy r.m)),(8,i6 0)]) [] (λ_ L=>L.set 1 ((pk (aG a (pv r.m))))) λx=>rF [] 28 (rs [(2,.l 3),(4,.l 3),(9,.s 0)] 0 (ob g #[pt a 0,i6 2,iN u,iN (fy r.m),i6 0,pt b 0] 133) (rr (λ_=>[(2,.l 3),(5,gA iK 4 1 [(⟨4,u,fy r.m⟩:Ev)])]) (λd=>[(4,.slice (some ⟨(d 5).y 0,0,none⟩) 1 1)]) [4] (λd L=>L++[bf (.slice (some ⟨(d 5).y 0,0,none⟩) 1 1) ([(⟨4,u,fy r.m⟩:Ev)])]) λd=>lf (.l [] [] [.slice (some ⟨(d 5).y 0,0,none⟩) 1 1]) [0,1,2,4] [] []))))))
theorem NW(g a f:Nat)(r:Rp)(h:a2 r)(u:Nat)(hp:ei r.m=false):aa UZ 241 #[pt g 0,.agg #[i6 2,iN u]] [pk (aq g a f r)] [0] (λE=>[pk (aq g a f r),bf (E.val 0) ([(⟨5,u,2-1⟩:Ev)])]) (λE=>(E.val 0)):=aa.pkW (n:=1) (N:=λE=>[bf (E.val 0) ([(⟨5,u,2-1⟩:Ev)])]) (enters_of Tryz.func241 Kr rfl) λL i=>by
 obtain⟨rfl⟩:=i;refine⟨[1,2],λ_=>[pk (aG a r.m),pk (bD f r.q)],?_,rfl,λE=>⟨rfl,rfl,rfl⟩⟩;have d:=h.m;have q:=h.j;have m:=h.n;have p:=d.O;have j:=d.ly;have k:=d.np;exact fG Tryz.func241 λw o=>ra (λe=>[(3,pt (B0 e) 0),(4,.slice none 0 0)]) (λe=>[ob (B0 e) #[i6 2,iN u] 285]) λe=>r0 [] [(5,i6 3)] [] (r0 [(3,.l 0)] [(6,.func (.func 265) #[pt a 0] #[])] [] (rT [(1,.l 3)] 16 (r0 [(3,.l 0)] [(5,i6 4),(6,.func (.func 266) #[pt a 0] #[])] [5,6] (r0 [(1,.c [1] [1] (MX a r.m d Om))] [(7,i6 0),(8,i6 52)] [] (rT [] 28 (rr (λ_=>[(0,.l 3),(1,.c [] [4] (xI 2 u Om Om))]) (λb=>[(4,((b 1).val 0))]) [4] (λb L=>L++[bf ((b 1).val 0) ([(⟨5,u,2-1⟩:Ev)])]) λb=>lf (.l [] [] [((b 1).val 0),(b 1).val 0]) [1,2,4] [(0,0)] []))))))
end
section
open Go.Shelf
theorem NX(g b c:Nat)(r:Rp)(f:a2 r)(a:Ak)(h:ek r.m a):aa UZ 240 #[pt g 0,.agg #[iN a.k,iN a.w]] [pk (aq g b c r)] [0] (λ_=>[pk (aq g b c r)]) (λ_=> .bool (c6 r a)):=by
 obtain⟨k,u⟩:=a;rcases h.k with⟨d,e⟩ | ⟨d,e⟩
 ·cases d;exact NR g b c r f u e
 ·cases d;exact NS g b c r f u e
theorem NY(g b c:Nat)(r:Rp)(e:a2 r)(a:Ak)(h:ek r.m a):aa UZ 241 #[pt g 0,.agg #[iN a.k,iN a.w]] [pk (aq g b c r)] [0] (λE=>[pk (aq g b c (dc r a)),bf (E.val 0) (fz r a)]) (λE=>E.val 0):=by
 obtain⟨k,u⟩:=a;unfold dc fz;rcases h.k with⟨f,i⟩ | ⟨f,i⟩
 ·cases f;cases d:du r.m with
  | true=>exact NT g b c r e u d
  | false=>exact NU g b c r e u d
 ·cases f;cases d:ei r.m with
  | true=>exact NV g b c r e u d
  | false=>exact NW g b c r e u d
abbrev pB(g a b:Nat)(r:Rp):ah:=[ob g #[pt a 0,iN r.j.A,iN r.j.fr,iN r.j.tg,iN r.j.nx,pt b 0] 133,pk (aG a r.m),pk (bD b r.q)]
theorem oz(g b c:Nat)(r:Rp)(e:a2 r)(a:Ak)(d:ek r.m a):aa UZ 240 #[pt g 0,.agg #[iN a.k,iN a.w]] (pB g b c r) [0,1,2] (λ_=>pB g b c r) (λ_=> .bool (c6 r a)):=(NX g b c r e a d).unpk (N:=λ_=>[])
theorem xJ(g b c:Nat)(r:Rp)(e:a2 r)(a:Ak)(d:ek r.m a):aa UZ 241 #[pt g 0,.agg #[iN a.k,iN a.w]] (pB g b c r) [0,1,2] (λE=>pB g b c (dc r a)++[bf (E.val 0) (fz r a)]) (λE=>E.val 0):=(NY g b c r e a d).unpk (N:=λE=>[bf (E.val 0) (fz r a)])
theorem NZ(g b d:Nat)(r:Rp)(e:a2 r)(a:Ak)(j:ek r.m a)(hv:c6 r a=true):aa UZ 207 #[pt g 0,.agg #[iN a.k,iN a.w]] [pk (aq g b d r)] [0] (λE=>[pk (aq g b d r),bf (E.val 0) ([])]) (λE=>(E.val 0)):=aa.pkW (n:=1) (N:=λE=>[bf (E.val 0) ([])]) (enters_of Tryz.func207 Kr rfl) λL i=>by
 obtain⟨rfl⟩:=i;refine⟨[1,2],λ_=>[pk (aG b r.m),pk (bD d r.q)],?_,rfl,λE=>⟨rfl,rfl,rfl⟩⟩;have h:=e.m;have s:=e.j;have o:=e.n;have q:=h.O;have k:=h.ly;have m:=h.np;exact fG Tryz.func207 λw p=>ra (λf=>[(3,pt (B0 f) 0),(4,.slice none 0 0)]) (λf=>[ob (B0 f) #[iN a.k,iN a.w] 285]) λf=>rT [(1,.l 3),(2,.c [0,1,2] [0,1,2] (aa.v ((oz g b d r e a j)) λ_=>ALca Value.bool (show(c6 r a)=true from(by exact hv))))] 5 (r0 [] [(4,.slice none 0 0)] [4] (cz iK (lf (.l [] [] [.slice none 0 0]) [1,2,4] [(0,0)] [])))
theorem N1(g b d:Nat)(r:Rp)(f:a2 r)(a:Ak)(k:ek r.m a)(hv:c6 r a=false)(s:r.j.A=0):aa UZ 207 #[pt g 0,.agg #[iN a.k,iN a.w]] [pk (aq g b d r)] [0] (λE=>[pk (aq g b d (dc r a)),bf (E.val 0) (fz r a)]) (λE=>(E.val 0)):=aa.pkW (n:=1) (N:=λE=>[bf (E.val 0) (fz r a)]) (enters_of Tryz.func207 Kr rfl) λL p=>by
 obtain⟨rfl⟩:=p;refine⟨[0,1,2],λ_=>[ob g #[pt b 0,iN ((dc r a).j.A),iN ((dc r a).j.fr),iN ((dc r a).j.tg),iN ((dc r a).j.nx),pt d 0] 133,pk (aG b (dc r a).m),pk (bD d (dc r a).q)],?_,rfl,λE=>⟨rfl,rfl,rfl⟩⟩;have i:=f.m;have z:=f.j;have v:=f.n;have y:=i.O;have t:=i.ly;have u:=i.np;refine fG Tryz.func207 λw x=>ra (λh=>[(3,pt (B0 h) 0),(4,.slice none 0 0)]) (λh=>[ob (B0 h) #[iN a.k,iN a.w] 285]) λh=>rF [(1,.l 3),(2,.c [0,1,2] [0,1,2] (aa.v ((oz g b d r f a k)) λ_=>ALca Value.bool (show(c6 r a)=false from(by exact hv))))] 5 (r0 [(1,.c [0,1,2] [1,2] (lZ g b d r))] [(9,.bool (!((r.j.A:Int) != 0)))] [] ?_);have o:(!((r.j.A:Int) != 0))=true:=by rw[s];rfl
 exact cT (!((r.j.A:Int) != 0)) o (rr (λ_=>[(1,.l 3),(2,.c [0,1,2] [0,1,2,4] (xJ g b d r f a k))]) (λe=>[(4,(e 2).val 0)]) [4] (λe L=>((L.set 0 (ob g #[pt b 0,iN ((dc r a).j.A),iN ((dc r a).j.fr),iN ((dc r a).j.tg),iN ((dc r a).j.nx),pt d 0] 133)).set 1 ((pk (aG b (dc r a).m)))).set 2 ((pk (bD d (dc r a).q)))++[bf ((e 2).val 0) (fz r a)]) λe=>lf (.l [] [] [((e 2).val 0),(e 2).val 0]) [0,1,2,4] [] [])
theorem N2(g d b:Nat)(r:Rp)(e:a2 r)(a:Ak)(m:ek r.m a)(hv:c6 r a=false)(u:r.j.A≠0)(x:a∈r.q):aa UZ 207 #[pt g 0,.agg #[iN a.k,iN a.w]] [pk (aq g d b r)] [0] (λE=>[pk (aq g d b r),bf (E.val 0) ([])]) (λE=>(E.val 0)):=aa.pkW (n:=1) (N:=λE=>[bf (E.val 0) ([])]) (enters_of Tryz.func207 Kr rfl) λL k=>by
 obtain⟨rfl⟩:=k;refine⟨[1,2],λ_=>[pk (aG d r.m),pk (bD b r.q)],?_,rfl,λE=>⟨rfl,rfl,rfl⟩⟩;have h:=e.m;have v:=e.j;have q:=e.n;have t:=h.O;have o:=h.ly;have p:=h.np;refine fG Tryz.func207 λw s=>ra (λf=>[(3,pt (B0 f) 0),(4,.slice none 0 0)]) (λf=>[ob (B0 f) #[iN a.k,iN a.w] 285]) λf=>rF [(1,.l 3),(2,.c [0,1,2] [0,1,2] (aa.v ((oz g d b r e a m)) λ_=>ALca Value.bool (show(c6 r a)=false from(by exact hv))))] 5 (r0 [(1,.c [0,1,2] [1,2] (lZ g d b r))] [(9,.bool (!((r.j.A:Int) != 0)))] [] ?_);have i:(!((r.j.A:Int) != 0))=false:=by(have j:((r.j.A:Int)==0)=false:=by rw[dR];omega);(rw[bne,j];rfl)
 exact cF (!((r.j.A:Int) != 0)) i (rF [(3,.l 0),(4,.l 3),(5,.c [2] [2] (Nw b r.q a Om))] 22 (r0 [] [(4,.slice none 0 0)] [4] (cz iK (lf (.l [] [] [.slice none 0 0]) [1,2,4] [(0,0)] []))))
theorem N3(g e b:Nat)(r:Rp)(f:a2 r)(a:Ak)(k:ek r.m a)(hv:c6 r a=false)(A:r.j.A≠0)(x:a∉r.q)(s:r.q.length=256):aa UZ 207 #[pt g 0,.agg #[iN a.k,iN a.w]] [pk (aq g e b r)] [0] (λE=>[pk (aq g e b r),bf (E.val 0) ([(⟨5,a.w,a.k-1⟩:Ev)])]) (λE=>(E.val 0)):=aa.pkW (n:=1) (N:=λE=>[bf (E.val 0) ([(⟨5,a.w,a.k-1⟩:Ev)])]) (enters_of Tryz.func207 Kr rfl) λL p=>by
 obtain⟨rfl⟩:=p;refine⟨[1,2],λ_=>[pk (aG e r.m),pk (bD b r.q)],?_,rfl,λE=>⟨rfl,rfl,rfl⟩⟩;have j:=f.m;have B:=f.j;have v:=f.n;have z:=j.O;have t:=j.ly;have u:=j.np;have q:1≤a.k∧a.k≤2:=by rcases k.k with h | h<;>omega
 refine fG Tryz.func207 λw y=>ra (λi=>[(3,pt (B0 i) 0),(4,.slice none 0 0)]) (λi=>[ob (B0 i) #[iN a.k,iN a.w] 285]) λi=>rF [(1,.l 3),(2,.c [0,1,2] [0,1,2] (aa.v ((oz g e b r f a k)) λ_=>ALca Value.bool (show(c6 r a)=false from(by exact hv))))] 5 (r0 [(1,.c [0,1,2] [1,2] (lZ g e b r))] [(9,.bool (!((r.j.A:Int) != 0)))] [] ?_);have m:(!((r.j.A:Int) != 0))=false:=by(have o:((r.j.A:Int)==0)=false:=by rw[dR];omega);(rw[bne,o];rfl)
 exact cF (!((r.j.A:Int) != 0)) m (rT [(3,.l 0),(4,.l 3),(5,.c [2] [2] (Nx b r.q a x (by(simp only[LL,s];done))))] 22 (rr (λ_=>[(0,.l 3),(1,.c [] [4] (xI a.k a.w Om Om))]) (λd=>[(4,((d 1).val 0))]) [4] (λd L=>L++[bf ((d 1).val 0) ([(⟨5,a.w,a.k-1⟩:Ev)])]) λd=>lf (.l [] [] [((d 1).val 0),(d 1).val 0]) [1,2,4] [(0,0)] []))
theorem N4(g d b:Nat)(r:Rp)(e:a2 r)(a:Ak)(m:ek r.m a)(hv:c6 r a=false)(x:r.j.A≠0)(t:a∉r.q)(z:r.q.length<256):aa UZ 207 #[pt g 0,.agg #[iN a.k,iN a.w]] [pk (aq g d b r)] [0] (λE=>[pk (aq g d b {r with q:=r.q++[a]}),bf (E.val 0) ([])]) (λE=>(E.val 0)):=aa.pkW (n:=1) (N:=λE=>[bf (E.val 0) ([])]) (enters_of Tryz.func207 Kr rfl) λL k=>by
 obtain⟨rfl⟩:=k;refine⟨[1,2],λ_=>[pk (aG d r.m),pk (bD b (r.q++[a]))],?_,rfl,λE=>⟨rfl,rfl,rfl⟩⟩;have h:=e.m;have y:=e.j;have s:=e.n;have v:=h.O;have o:=h.ly;have p:=h.np;refine fG Tryz.func207 λw u=>ra (λf=>[(3,pt (B0 f) 0),(4,.slice none 0 0)]) (λf=>[ob (B0 f) #[iN a.k,iN a.w] 285]) λf=>rF [(1,.l 3),(2,.c [0,1,2] [0,1,2] (aa.v ((oz g d b r e a m)) λ_=>ALca Value.bool (show(c6 r a)=false from(by exact hv))))] 5 (r0 [(1,.c [0,1,2] [1,2] (lZ g d b r))] [(9,.bool (!((r.j.A:Int) != 0)))] [] ?_);have i:(!((r.j.A:Int) != 0))=false:=by(have j:((r.j.A:Int)==0)=false:=by rw[dR];omega);(rw[bne,j];rfl)
 exact cF (!((r.j.A:Int) != 0)) i (rr (λ_=>[(3,.l 0),(4,.l 3),(5,.c [2] [2] (Ny b r.q a t Om))]) (λ_=>[(22,.bool false)]) [] (λ_ L=>L.set 2 ((pk (bD b (r.q++[a]))))) λA=>cF _ rfl (r0 [] [(4,.slice none 0 0)] [4] (cz iK (lf (.l [] [] [.slice none 0 0]) [1,2,4] [(0,0)] []))))
theorem pC(g b c:Nat)(r:Rp)(f:a2 r)(a:Ak)(h:ek r.m a):aa UZ 207 #[pt g 0,.agg #[iN a.k,iN a.w]] [pk (aq g b c r)] [0] (λE=>[pk (aq g b c (bp r a)),bf (E.val 0) (bU r a)]) (λE=>E.val 0):=by
 unfold bp bU;cases j:c6 r a with
 | true=>exact NZ g b c r f a h j
 | false=>
  rw[ALcf,ALcf];by_cases e:r.j.A=0
  ·rw[e];exact N1 g b c r f a h j e
  ·rw[show(r.j.A==0)=false from dR.2 e,ALcf,ALcf];unfold py uj;by_cases d:a∈r.q
   ·rw[ALifp d,ALifp d];exact N2 g b c r f a h j e d
   ·rw[ALifn d,ALifn d];by_cases i:r.q.length=256
    ·rw[ALifp i,ALifp i];exact N3 g b c r f a h j e d i
    ·rw[ALifn i,ALifn i];exact N4 g b c r f a h j e d (by have:=f.n;omega)
theorem N5(g a d:Nat)(r:Rp)(e:a2 r)(s:r.j.A≠0)(f:r.j.nx<gj r.j.A r.m.B r.m.M r.m.C):aa UZ 84 #[pt g 0] [pk (aq g a d r)] [0] (λ_=>[pk (aq g a d r)]) (λ_=> .tuple #[iN (ba r.m r.j.A r.j.fr r.j.nx),iN (ba r.m r.j.A r.j.tg r.j.nx),i6 0]):=aa.pkZ Tryz.func84 λL k=>by
 obtain⟨rfl⟩:=k;refine⟨[1,2],λ_=>[pk (aG a r.m),pk (bD d r.q)],?_,rfl,λE=>⟨rfl,rfl,rfl⟩⟩;have b:=e.m;have h:=e.j;have o:=e.n;have q:=b.O;have l:=b.ly;have n:=b.np;refine fG Tryz.func84 λw p=>r0 [] [(2,i6 0),(3,i6 0),(4,i6 0)] [] (r0 [(1,.c [0,1,2] [1,2] (lZ g a d r))] [(7,.bool (!((r.j.A:Int) != 0)))] [] ?_);have i:(!((r.j.A:Int) != 0))=false:=by(have j:((r.j.A:Int)==0)=false:=by rw[dR];omega);(rw[bne,j];rfl)
 exact cF (!((r.j.A:Int) != 0)) i (r0 [(3,.m (ls 0 ([iN r.j.A,iN r.j.fr,iN r.j.tg,iN r.j.nx]))),(7,.m (ld 0 (pt a 0))),(12,.m (ld 0 (iN r.j.nx))),(13,.c [1] [1] (Nl a r.m b r.j h r.j.nx f)),] [(2,iN (ba r.m r.j.A r.j.fr r.j.nx)),(4,i6 0)] [2,4] (rT [] 26 (r0 [(3,.m (ls 0 ([iN r.j.A,iN r.j.fr,iN r.j.tg,iN r.j.nx]))),(7,.m (ld 0 (pt a 0))),(12,.m (ld 0 (iN r.j.nx))),(13,.c [1] [1] (Nm a r.m b r.j h r.j.nx f)),] [(3,iN (ba r.m r.j.A r.j.tg r.j.nx)),(4,i6 0)] [3,4] (r0 [] [(2,iN (ba r.m r.j.A r.j.fr r.j.nx)),(3,iN (ba r.m r.j.A r.j.tg r.j.nx)),(4,i6 0)] [2,3,4] (lf ab.zero [1,2] [(0,0)] [])))))
theorem N6(g a b:Nat)(r:Rp)(e:a2 r)(i:r.j.A=0):aa UZ 84 #[pt g 0] [pk (aq g a b r)] [0] (λ_=>[pk (aq g a b r)]) (λ_=> .tuple #[i6 0,i6 0,i6 51]):=aa.pkZ Tryz.func84 λL h=>by
 obtain⟨rfl⟩:=h;refine⟨[1,2],λ_=>[pk (aG a r.m),pk (bD b r.q)],?_,rfl,λE=>⟨rfl,rfl,rfl⟩⟩;have d:=e.m;have o:=e.j;have l:=e.n;have n:=d.O;have j:=d.ly;have k:=d.np;refine fG Tryz.func84 λw m=>r0 [] [(2,i6 0),(3,i6 0),(4,i6 0)] [] (r0 [(1,.c [0,1,2] [1,2] (lZ g a b r))] [(7,.bool (!((r.j.A:Int) != 0)))] [] ?_);have f:(!((r.j.A:Int) != 0))=true:=by rw[i];rfl
 exact cT (!((r.j.A:Int) != 0)) f (r0 [] [(2,i6 0),(3,i6 0),(4,i6 51)] [2,3,4] (lf ab.zero [1,2] [(0,0)] []))
end
section
open Go.Shelf
theorem N7(g b d:Nat)(m:Mp)(f t x:Nat)(q:List Ak)(J:a2 ⟨m,⟨1,f,t,x⟩,q⟩)(z:nC m f t x):aa UZ 212 #[pt g 0] [pk (aq g b d ⟨m,⟨1,f,t,x⟩,q⟩)] [0] (λE=>[pk (aq g b d (cy ⟨m,⟨1,f,t,x⟩,q⟩).1),bf (E.val 0) ((cy ⟨m,⟨1,f,t,x⟩,q⟩).2)]) (λE=>(E.val 0)):=aa.pkW (n:=1) (N:=λE=>[bf (E.val 0) ((cy ⟨m,⟨1,f,t,x⟩,q⟩).2)]) (enters_of Tryz.func212 Kr rfl) λL P=>by
 obtain⟨rfl⟩:=P;refine⟨[0,1,2],λ_=>[ob g #[pt b 0,iN ((cy ⟨m,⟨1,f,t,x⟩,q⟩).1.j.A),iN ((cy ⟨m,⟨1,f,t,x⟩,q⟩).1.j.fr),iN ((cy ⟨m,⟨1,f,t,x⟩,q⟩).1.j.tg),iN ((cy ⟨m,⟨1,f,t,x⟩,q⟩).1.j.nx),pt d 0] 133,pk (aG b (cy ⟨m,⟨1,f,t,x⟩,q⟩).1.m),pk (bD d (cy ⟨m,⟨1,f,t,x⟩,q⟩).1.q)],?_,rfl,λE=>⟨rfl,rfl,rfl⟩⟩;have U:=J.m;have V:q.length≤256:=J.n;have Q:=um J (show(1:Nat)≠0 by decide);refine fG Tryz.func212 λw W=>r0 [] [(2,.slice none 0 0)] [] (rr (λ_=>[(3,.l 0),(5,.s 3)]) (λu=>[(3,pt (B4 u) 0)]) [] (λu L=>L++[ob (B4 u) #[i6 1,iN f,iN t,iN x] 70]) λu=>rs [(4,.s 0)] 0 (ob g #[pt b 0,i6 0,i6 0,i6 0,i6 0,pt d 0] 133) (rT [(1,.l 3)] 17 (rs [(3,.l 0),(5,.l 3),(7,.l 3),(8,.c [1] [1] (MY b m U f t z.hf z.t0 z.t1 z.df z.dt z.ne))] 1 ((pk (aG b (rl m f t)))) (rr (λ_=>[(1,.l 3),(3,.l 3),(5,gA iK 4 1 [(⟨6,f,t⟩:Ev)])]) (λD=>[(4,.slice (some ⟨(D 5).y 0,0,none⟩) 1 1)]) [] (λD L=>L++[bf (.slice (some ⟨(D 5).y 0,0,none⟩) 1 1) ([(⟨6,f,t⟩:Ev)])]) λD=>?_))));refine mF (λk _=>k≤q.length∧(eZ q.length (ae ⟨m,⟨1,f,t,x⟩,q⟩)=eZ (q.length-k) (af (ae ⟨m,⟨1,f,t,x⟩,q⟩) k))) (λ_ a=>[(4,a)]) (λk a L=>(((L.set 0 (ob g #[pt b 0,iN ((af (ae ⟨m,⟨1,f,t,x⟩,q⟩) k).1.j.A),iN ((af (ae ⟨m,⟨1,f,t,x⟩,q⟩) k).1.j.fr),iN ((af (ae ⟨m,⟨1,f,t,x⟩,q⟩) k).1.j.tg),iN ((af (ae ⟨m,⟨1,f,t,x⟩,q⟩) k).1.j.nx),pt d 0] 133)).set 1 ((pk (aG b (af (ae ⟨m,⟨1,f,t,x⟩,q⟩) k).1.m)))).set 2 ((pk (bD d (af (ae ⟨m,⟨1,f,t,x⟩,q⟩) k).1.q)))).set 4 (bf a ((af (ae ⟨m,⟨1,f,t,x⟩,q⟩) k).2))) (λk _=>q.length-k) 0 (.slice (some ⟨(D 5).y 0,0,none⟩) 1 1) ⟨by omega,rfl⟩ Kr Kr (λk a ⟨T,K⟩=>?_);have M:a2 (af (ae ⟨m,⟨1,f,t,x⟩,q⟩) k).1:=xG Q k (show k≤q.length by omega);have R:=xF (ae ⟨m,⟨1,f,t,x⟩,q⟩) k;have O:(ae ⟨m,⟨1,f,t,x⟩,q⟩).2.length=1:=rfl;have S:(af (ae ⟨m,⟨1,f,t,x⟩,q⟩) k).1.q.length=q.length-k:=uv (ae ⟨m,⟨1,f,t,x⟩,q⟩) k;refine rr (λ_=>[(1,.c [0,1,2] [1,2] (lZ g b d ((af (ae ⟨m,⟨1,f,t,x⟩,q⟩) k).1)))]) (λ_=>[(44,.bool (!((((af (ae ⟨m,⟨1,f,t,x⟩,q⟩) k).1).j.A:Int) != 0)))]) [] (λ_ L=>(L.set 1 ((pk (aG b ((af (ae ⟨m,⟨1,f,t,x⟩,q⟩) k).1).m)))).set 2 ((pk (bD d ((af (ae ⟨m,⟨1,f,t,x⟩,q⟩) k).1).q)))) λX=>?_;refine cB (!((((af (ae ⟨m,⟨1,f,t,x⟩,q⟩) k).1).j.A:Int) != 0)) (λH=>?_) λH=>?_
 ·have v:(af (ae ⟨m,⟨1,f,t,x⟩,q⟩) k).1.j.A=0:=by simpa using H
  refine rr (λ_=>[(3,.l 0),(4,.c [2] [2] (CU d (((af (ae ⟨m,⟨1,f,t,x⟩,q⟩) k).1).q))),(9,.s 5)]) (λi=>[(5,pt ((i 8).y 0) 0),(6,i6 (k4 (((af (ae ⟨m,⟨1,f,t,x⟩,q⟩) k).1).q)))]) [] (λi L=>L.set 2 ((pk (bD d (((af (ae ⟨m,⟨1,f,t,x⟩,q⟩) k).1).q).tail)))++[ob ((i 8).y 0) #[iN (((((af (ae ⟨m,⟨1,f,t,x⟩,q⟩) k).1).q).headD aH).k),iN (((((af (ae ⟨m,⟨1,f,t,x⟩,q⟩) k).1).q).headD aH).w)] 285]) λi=>r0 [] [(54,.bool ((k4 (((af (ae ⟨m,⟨1,f,t,x⟩,q⟩) k).1).q)) != 0))] [] ?_;refine mE (k4 (((af (ae ⟨m,⟨1,f,t,x⟩,q⟩) k).1).q)) 0 (λF o=>?_) λF o=>?_
  ·refine kP ?_;have r:((af (ae ⟨m,⟨1,f,t,x⟩,q⟩) k).1.j.A≠0)∨(af (ae ⟨m,⟨1,f,t,x⟩,q⟩) k).1.q.length=0:=by(right;have y:=o;unfold k4 at y;split at y<;>first | assumption | exact absurd rfl y)
   have p:cy ⟨m,⟨1,f,t,x⟩,q⟩=(af (ae ⟨m,⟨1,f,t,x⟩,q⟩) k):=by show eZ q.length (ae ⟨m,⟨1,f,t,x⟩,q⟩)=_;rw[K];rcases r with h | h;exact ux h _;rw[show q.length-k=0 by omega];rfl
   exact cl [ob g #[pt b 0,iN ((af (ae ⟨m,⟨1,f,t,x⟩,q⟩) k).1.j.A),iN ((af (ae ⟨m,⟨1,f,t,x⟩,q⟩) k).1.j.fr),iN ((af (ae ⟨m,⟨1,f,t,x⟩,q⟩) k).1.j.tg),iN ((af (ae ⟨m,⟨1,f,t,x⟩,q⟩) k).1.j.nx),pt d 0] 133,pk (aG b ((af (ae ⟨m,⟨1,f,t,x⟩,q⟩) k).1).m),pk (bD d (af (ae ⟨m,⟨1,f,t,x⟩,q⟩) k).1.q),ob (B4 u) #[i6 1,iN f,iN t,iN x] 70,bf a ((af (ae ⟨m,⟨1,f,t,x⟩,q⟩) k).2),ob ((i 8).y 0) #[iN (((((af (ae ⟨m,⟨1,f,t,x⟩,q⟩) k).1).q).headD aH).k),iN (((((af (ae ⟨m,⟨1,f,t,x⟩,q⟩) k).1).q).headD aH).w)] 285] (by(try rw[show(af (ae ⟨m,⟨1,f,t,x⟩,q⟩) k).1.q.tail=(af (ae ⟨m,⟨1,f,t,x⟩,q⟩) k).1.q from uw (r.resolve_left (λh=>h v))]);kernel_rfl) (r0 [] [(2,a)] [2] (lf (.l [] [] [a]) [0,1,2,4] [] [] (hf:=by rw[p];kernel_rfl)))
  have I:0<(af (ae ⟨m,⟨1,f,t,x⟩,q⟩) k).1.q.length:=by have y:=o;unfold k4 at y;split at y<;>omega
  have C:=C1 (s:=(ae ⟨m,⟨1,f,t,x⟩,q⟩)) (k:=k) (by show k<q.length;omega) K v;have A:=ur M;have B:ek (a1 (af (ae ⟨m,⟨1,f,t,x⟩,q⟩) k).1).m ((af (ae ⟨m,⟨1,f,t,x⟩,q⟩) k).1.q.headD aH):=⟨(ru M I).k⟩;refine cl [ob g #[pt b 0,iN ((a1 (af (ae ⟨m,⟨1,f,t,x⟩,q⟩) k).1).j.A),iN ((a1 (af (ae ⟨m,⟨1,f,t,x⟩,q⟩) k).1).j.fr),iN ((a1 (af (ae ⟨m,⟨1,f,t,x⟩,q⟩) k).1).j.tg),iN ((a1 (af (ae ⟨m,⟨1,f,t,x⟩,q⟩) k).1).j.nx),pt d 0] 133,pk (aG b ((af (ae ⟨m,⟨1,f,t,x⟩,q⟩) k).1).m),pk (bD d (((af (ae ⟨m,⟨1,f,t,x⟩,q⟩) k).1).q).tail),ob (B4 u) #[i6 1,iN f,iN t,iN x] 70,bf a ((af (ae ⟨m,⟨1,f,t,x⟩,q⟩) k).2),ob ((i 8).y 0) #[iN (((((af (ae ⟨m,⟨1,f,t,x⟩,q⟩) k).1).q).headD aH).k),iN (((((af (ae ⟨m,⟨1,f,t,x⟩,q⟩) k).1).q).headD aH).w)] 285] (by skip;kernel_rfl) (cl [ob g #[pt b 0,iN ((a1 (af (ae ⟨m,⟨1,f,t,x⟩,q⟩) k).1).j.A),iN ((a1 (af (ae ⟨m,⟨1,f,t,x⟩,q⟩) k).1).j.fr),iN ((a1 (af (ae ⟨m,⟨1,f,t,x⟩,q⟩) k).1).j.tg),iN ((a1 (af (ae ⟨m,⟨1,f,t,x⟩,q⟩) k).1).j.nx),pt d 0] 133,pk (aG b (a1 (af (ae ⟨m,⟨1,f,t,x⟩,q⟩) k).1).m),pk (bD d (((af (ae ⟨m,⟨1,f,t,x⟩,q⟩) k).1).q).tail),ob (B4 u) #[i6 1,iN f,iN t,iN x] 70,bf a ((af (ae ⟨m,⟨1,f,t,x⟩,q⟩) k).2),ob ((i 8).y 0) #[iN (((((af (ae ⟨m,⟨1,f,t,x⟩,q⟩) k).1).q).headD aH).k),iN (((((af (ae ⟨m,⟨1,f,t,x⟩,q⟩) k).1).q).headD aH).w)] 285] (by skip;kernel_rfl) (cl [ob g #[pt b 0,iN ((a1 (af (ae ⟨m,⟨1,f,t,x⟩,q⟩) k).1).j.A),iN ((a1 (af (ae ⟨m,⟨1,f,t,x⟩,q⟩) k).1).j.fr),iN ((a1 (af (ae ⟨m,⟨1,f,t,x⟩,q⟩) k).1).j.tg),iN ((a1 (af (ae ⟨m,⟨1,f,t,x⟩,q⟩) k).1).j.nx),pt d 0] 133,pk (aG b (a1 (af (ae ⟨m,⟨1,f,t,x⟩,q⟩) k).1).m),pk (bD d (a1 (af (ae ⟨m,⟨1,f,t,x⟩,q⟩) k).1).q),ob (B4 u) #[i6 1,iN f,iN t,iN x] 70,bf a ((af (ae ⟨m,⟨1,f,t,x⟩,q⟩) k).2),ob ((i 8).y 0) #[iN (((((af (ae ⟨m,⟨1,f,t,x⟩,q⟩) k).1).q).headD aH).k),iN (((((af (ae ⟨m,⟨1,f,t,x⟩,q⟩) k).1).q).headD aH).w)] 285] (by skip;kernel_rfl) (r0 [(1,.l 5),(2,.c [0,1,2] [0,1,2] (oz g b d (a1 (af (ae ⟨m,⟨1,f,t,x⟩,q⟩) k).1) A ((((af (ae ⟨m,⟨1,f,t,x⟩,q⟩) k).1).q).headD aH) B))] [(58,.bool (!(c6 (a1 (af (ae ⟨m,⟨1,f,t,x⟩,q⟩) k).1) ((((af (ae ⟨m,⟨1,f,t,x⟩,q⟩) k).1).q).headD aH))))] [] ?_)));refine cB (!(c6 (a1 (af (ae ⟨m,⟨1,f,t,x⟩,q⟩) k).1) ((((af (ae ⟨m,⟨1,f,t,x⟩,q⟩) k).1).q).headD aH))) (λG=>?_) λG=>?_
  ·exact rr (λe=>[(2,.l 5),(3,.c [0,1,2] [0,1,2,6] (xJ g b d (a1 (af (ae ⟨m,⟨1,f,t,x⟩,q⟩) k).1) A ((((af (ae ⟨m,⟨1,f,t,x⟩,q⟩) k).1).q).headD aH) B)),(4,.m (lG 4 6 iK.hT (a) ((e 3).val 0) (xs:=(af (ae ⟨m,⟨1,f,t,x⟩,q⟩) k).2) (ys:=fz (a1 (af (ae ⟨m,⟨1,f,t,x⟩,q⟩) k).1) ((((af (ae ⟨m,⟨1,f,t,x⟩,q⟩) k).1).q).headD aH)) (bf ((e 3).val 0) (fz (a1 (af (ae ⟨m,⟨1,f,t,x⟩,q⟩) k).1) ((((af (ae ⟨m,⟨1,f,t,x⟩,q⟩) k).1).q).headD aH))) (λ_ h=>ao.src ((λ_ h=>h) _ h)) iK.one iK.lz (by simp only[LL,uu];omega)))]) (λe=>[(4,(e 4).val 0)]) [4] (λe L=>(((L.set 0 (ob g #[pt b 0,iN ((dc (a1 (af (ae ⟨m,⟨1,f,t,x⟩,q⟩) k).1) ((((af (ae ⟨m,⟨1,f,t,x⟩,q⟩) k).1).q).headD aH)).j.A),iN ((dc (a1 (af (ae ⟨m,⟨1,f,t,x⟩,q⟩) k).1) ((((af (ae ⟨m,⟨1,f,t,x⟩,q⟩) k).1).q).headD aH)).j.fr),iN ((dc (a1 (af (ae ⟨m,⟨1,f,t,x⟩,q⟩) k).1) ((((af (ae ⟨m,⟨1,f,t,x⟩,q⟩) k).1).q).headD aH)).j.tg),iN ((dc (a1 (af (ae ⟨m,⟨1,f,t,x⟩,q⟩) k).1) ((((af (ae ⟨m,⟨1,f,t,x⟩,q⟩) k).1).q).headD aH)).j.nx),pt d 0] 133)).set 1 ((pk (aG b (dc (a1 (af (ae ⟨m,⟨1,f,t,x⟩,q⟩) k).1) ((((af (ae ⟨m,⟨1,f,t,x⟩,q⟩) k).1).q).headD aH)).m)))).set 2 ((pk (bD d (dc (a1 (af (ae ⟨m,⟨1,f,t,x⟩,q⟩) k).1) ((((af (ae ⟨m,⟨1,f,t,x⟩,q⟩) k).1).q).headD aH)).q)))).set 4 (bf ((e 4).val 0) (((af (ae ⟨m,⟨1,f,t,x⟩,q⟩) k).2)++(fz (a1 (af (ae ⟨m,⟨1,f,t,x⟩,q⟩) k).1) ((((af (ae ⟨m,⟨1,f,t,x⟩,q⟩) k).1).q).headD aH))))++[bf ((e 3).val 0) (fz (a1 (af (ae ⟨m,⟨1,f,t,x⟩,q⟩) k).1) ((((af (ae ⟨m,⟨1,f,t,x⟩,q⟩) k).1).q).headD aH))]) λe=>kO (k+1) ((e 4).val 0) ⟨by omega,C⟩ Om Kr [0,1,2,3,4] (by(rw[C0 (s:=(ae ⟨m,⟨1,f,t,x⟩,q⟩)) (k:=k) (by simpa using ‹(!c6 (a1 (af (ae ⟨m,⟨1,f,t,x⟩,q⟩) k).1) ((af (ae ⟨m,⟨1,f,t,x⟩,q⟩) k).1.q.headD aH))=true›)]);kernel_rfl)
  exact kO (k+1) a ⟨by omega,C⟩ Om Kr [0,1,2,3,4] (by(rw[CZ (s:=(ae ⟨m,⟨1,f,t,x⟩,q⟩)) (k:=k) (by simpa using ‹(!c6 (a1 (af (ae ⟨m,⟨1,f,t,x⟩,q⟩) k).1) ((af (ae ⟨m,⟨1,f,t,x⟩,q⟩) k).1.q.headD aH))=false›)]);kernel_rfl)
 refine kP ?_;have r:((af (ae ⟨m,⟨1,f,t,x⟩,q⟩) k).1.j.A≠0)∨(af (ae ⟨m,⟨1,f,t,x⟩,q⟩) k).1.q.length=0:=by(left;simpa using H)
 have p:cy ⟨m,⟨1,f,t,x⟩,q⟩=(af (ae ⟨m,⟨1,f,t,x⟩,q⟩) k):=by show eZ q.length (ae ⟨m,⟨1,f,t,x⟩,q⟩)=_;rw[K];rcases r with h | h;exact ux h _;rw[show q.length-k=0 by omega];rfl
 exact cl [ob g #[pt b 0,iN ((af (ae ⟨m,⟨1,f,t,x⟩,q⟩) k).1.j.A),iN ((af (ae ⟨m,⟨1,f,t,x⟩,q⟩) k).1.j.fr),iN ((af (ae ⟨m,⟨1,f,t,x⟩,q⟩) k).1.j.tg),iN ((af (ae ⟨m,⟨1,f,t,x⟩,q⟩) k).1.j.nx),pt d 0] 133,pk (aG b ((af (ae ⟨m,⟨1,f,t,x⟩,q⟩) k).1).m),pk (bD d (af (ae ⟨m,⟨1,f,t,x⟩,q⟩) k).1.q),ob (B4 u) #[i6 1,iN f,iN t,iN x] 70,bf a ((af (ae ⟨m,⟨1,f,t,x⟩,q⟩) k).2)] (by(try rw[show(af (ae ⟨m,⟨1,f,t,x⟩,q⟩) k).1.q.tail=(af (ae ⟨m,⟨1,f,t,x⟩,q⟩) k).1.q from uw (r.resolve_left (λh=>h v))]);kernel_rfl) (r0 [] [(2,a)] [2] (lf (.l [] [] [a]) [0,1,2,4] [] [] (hf:=by rw[p];kernel_rfl)))
theorem N8(g b d:Nat)(m:Mp)(f t x:Nat)(q:List Ak)(J:a2 ⟨m,⟨2,f,t,x⟩,q⟩)(D:nD m f t x):aa UZ 212 #[pt g 0] [pk (aq g b d ⟨m,⟨2,f,t,x⟩,q⟩)] [0] (λE=>[pk (aq g b d (cy ⟨m,⟨2,f,t,x⟩,q⟩).1),bf (E.val 0) ((cy ⟨m,⟨2,f,t,x⟩,q⟩).2)]) (λE=>(E.val 0)):=aa.pkW (n:=1) (N:=λE=>[bf (E.val 0) ((cy ⟨m,⟨2,f,t,x⟩,q⟩).2)]) (enters_of Tryz.func212 Kr rfl) λL P=>by
 obtain⟨rfl⟩:=P;refine⟨[0,1,2],λ_=>[ob g #[pt b 0,iN ((cy ⟨m,⟨2,f,t,x⟩,q⟩).1.j.A),iN ((cy ⟨m,⟨2,f,t,x⟩,q⟩).1.j.fr),iN ((cy ⟨m,⟨2,f,t,x⟩,q⟩).1.j.tg),iN ((cy ⟨m,⟨2,f,t,x⟩,q⟩).1.j.nx),pt d 0] 133,pk (aG b (cy ⟨m,⟨2,f,t,x⟩,q⟩).1.m),pk (bD d (cy ⟨m,⟨2,f,t,x⟩,q⟩).1.q)],?_,rfl,λE=>⟨rfl,rfl,rfl⟩⟩;have U:=J.m;have V:q.length≤256:=J.n;have Q:=um J (show(2:Nat)≠0 by decide);refine fG Tryz.func212 λw W=>r0 [] [(2,.slice none 0 0)] [] (rr (λ_=>[(3,.l 0),(5,.s 3)]) (λu=>[(3,pt (B4 u) 0)]) [] (λu L=>L++[ob (B4 u) #[i6 2,iN f,iN t,iN x] 70]) λu=>rs [(4,.s 0)] 0 (ob g #[pt b 0,i6 0,i6 0,i6 0,i6 0,pt d 0] 133) (rF [(1,.l 3)] 17 (rs [(3,.l 0),(5,.l 3),(7,.l 3),(8,.c [1] [1] (MZ b m U f t D.hf D.t0 D.t1 D.hs))] 1 ((pk (aG b (rm m f t)))) (rr (λ_=>[(1,.l 3),(3,.l 3),(5,gA iK 4 1 [(⟨6,f,t⟩:Ev)])]) (λC=>[(4,.slice (some ⟨(C 5).y 0,0,none⟩) 1 1)]) [] (λC L=>L++[bf (.slice (some ⟨(C 5).y 0,0,none⟩) 1 1) ([(⟨6,f,t⟩:Ev)])]) λC=>?_))));refine mF (λk _=>k≤q.length∧(eZ q.length (ae ⟨m,⟨2,f,t,x⟩,q⟩)=eZ (q.length-k) (af (ae ⟨m,⟨2,f,t,x⟩,q⟩) k))) (λ_ a=>[(4,a)]) (λk a L=>(((L.set 0 (ob g #[pt b 0,iN ((af (ae ⟨m,⟨2,f,t,x⟩,q⟩) k).1.j.A),iN ((af (ae ⟨m,⟨2,f,t,x⟩,q⟩) k).1.j.fr),iN ((af (ae ⟨m,⟨2,f,t,x⟩,q⟩) k).1.j.tg),iN ((af (ae ⟨m,⟨2,f,t,x⟩,q⟩) k).1.j.nx),pt d 0] 133)).set 1 ((pk (aG b (af (ae ⟨m,⟨2,f,t,x⟩,q⟩) k).1.m)))).set 2 ((pk (bD d (af (ae ⟨m,⟨2,f,t,x⟩,q⟩) k).1.q)))).set 4 (bf a ((af (ae ⟨m,⟨2,f,t,x⟩,q⟩) k).2))) (λk _=>q.length-k) 0 (.slice (some ⟨(C 5).y 0,0,none⟩) 1 1) ⟨by omega,rfl⟩ Kr Kr (λk a ⟨T,K⟩=>?_);have M:a2 (af (ae ⟨m,⟨2,f,t,x⟩,q⟩) k).1:=xG Q k (show k≤q.length by omega);have R:=xF (ae ⟨m,⟨2,f,t,x⟩,q⟩) k;have O:(ae ⟨m,⟨2,f,t,x⟩,q⟩).2.length=1:=rfl;have S:(af (ae ⟨m,⟨2,f,t,x⟩,q⟩) k).1.q.length=q.length-k:=uv (ae ⟨m,⟨2,f,t,x⟩,q⟩) k;refine rr (λ_=>[(1,.c [0,1,2] [1,2] (lZ g b d ((af (ae ⟨m,⟨2,f,t,x⟩,q⟩) k).1)))]) (λ_=>[(44,.bool (!((((af (ae ⟨m,⟨2,f,t,x⟩,q⟩) k).1).j.A:Int) != 0)))]) [] (λ_ L=>(L.set 1 ((pk (aG b ((af (ae ⟨m,⟨2,f,t,x⟩,q⟩) k).1).m)))).set 2 ((pk (bD d ((af (ae ⟨m,⟨2,f,t,x⟩,q⟩) k).1).q)))) λX=>?_;refine cB (!((((af (ae ⟨m,⟨2,f,t,x⟩,q⟩) k).1).j.A:Int) != 0)) (λH=>?_) λH=>?_
 ·have v:(af (ae ⟨m,⟨2,f,t,x⟩,q⟩) k).1.j.A=0:=by simpa using H
  refine rr (λ_=>[(3,.l 0),(4,.c [2] [2] (CU d (((af (ae ⟨m,⟨2,f,t,x⟩,q⟩) k).1).q))),(9,.s 5)]) (λi=>[(5,pt ((i 8).y 0) 0),(6,i6 (k4 (((af (ae ⟨m,⟨2,f,t,x⟩,q⟩) k).1).q)))]) [] (λi L=>L.set 2 ((pk (bD d (((af (ae ⟨m,⟨2,f,t,x⟩,q⟩) k).1).q).tail)))++[ob ((i 8).y 0) #[iN (((((af (ae ⟨m,⟨2,f,t,x⟩,q⟩) k).1).q).headD aH).k),iN (((((af (ae ⟨m,⟨2,f,t,x⟩,q⟩) k).1).q).headD aH).w)] 285]) λi=>r0 [] [(54,.bool ((k4 (((af (ae ⟨m,⟨2,f,t,x⟩,q⟩) k).1).q)) != 0))] [] ?_;refine mE (k4 (((af (ae ⟨m,⟨2,f,t,x⟩,q⟩) k).1).q)) 0 (λF o=>?_) λF o=>?_
  ·refine kP ?_;have r:((af (ae ⟨m,⟨2,f,t,x⟩,q⟩) k).1.j.A≠0)∨(af (ae ⟨m,⟨2,f,t,x⟩,q⟩) k).1.q.length=0:=by(right;have y:=o;unfold k4 at y;split at y<;>first | assumption | exact absurd rfl y)
   have p:cy ⟨m,⟨2,f,t,x⟩,q⟩=(af (ae ⟨m,⟨2,f,t,x⟩,q⟩) k):=by show eZ q.length (ae ⟨m,⟨2,f,t,x⟩,q⟩)=_;rw[K];rcases r with h | h;exact ux h _;rw[show q.length-k=0 by omega];rfl
   exact cl [ob g #[pt b 0,iN ((af (ae ⟨m,⟨2,f,t,x⟩,q⟩) k).1.j.A),iN ((af (ae ⟨m,⟨2,f,t,x⟩,q⟩) k).1.j.fr),iN ((af (ae ⟨m,⟨2,f,t,x⟩,q⟩) k).1.j.tg),iN ((af (ae ⟨m,⟨2,f,t,x⟩,q⟩) k).1.j.nx),pt d 0] 133,pk (aG b ((af (ae ⟨m,⟨2,f,t,x⟩,q⟩) k).1).m),pk (bD d (af (ae ⟨m,⟨2,f,t,x⟩,q⟩) k).1.q),ob (B4 u) #[i6 2,iN f,iN t,iN x] 70,bf a ((af (ae ⟨m,⟨2,f,t,x⟩,q⟩) k).2),ob ((i 8).y 0) #[iN (((((af (ae ⟨m,⟨2,f,t,x⟩,q⟩) k).1).q).headD aH).k),iN (((((af (ae ⟨m,⟨2,f,t,x⟩,q⟩) k).1).q).headD aH).w)] 285] (by(try rw[show(af (ae ⟨m,⟨2,f,t,x⟩,q⟩) k).1.q.tail=(af (ae ⟨m,⟨2,f,t,x⟩,q⟩) k).1.q from uw (r.resolve_left (λh=>h v))]);kernel_rfl) (r0 [] [(2,a)] [2] (lf (.l [] [] [a]) [0,1,2,4] [] [] (hf:=by rw[p];kernel_rfl)))
  have I:0<(af (ae ⟨m,⟨2,f,t,x⟩,q⟩) k).1.q.length:=by have y:=o;unfold k4 at y;split at y<;>omega
  have B:=C1 (s:=(ae ⟨m,⟨2,f,t,x⟩,q⟩)) (k:=k) (by show k<q.length;omega) K v;have z:=ur M;have A:ek (a1 (af (ae ⟨m,⟨2,f,t,x⟩,q⟩) k).1).m ((af (ae ⟨m,⟨2,f,t,x⟩,q⟩) k).1.q.headD aH):=⟨(ru M I).k⟩;refine cl [ob g #[pt b 0,iN ((a1 (af (ae ⟨m,⟨2,f,t,x⟩,q⟩) k).1).j.A),iN ((a1 (af (ae ⟨m,⟨2,f,t,x⟩,q⟩) k).1).j.fr),iN ((a1 (af (ae ⟨m,⟨2,f,t,x⟩,q⟩) k).1).j.tg),iN ((a1 (af (ae ⟨m,⟨2,f,t,x⟩,q⟩) k).1).j.nx),pt d 0] 133,pk (aG b ((af (ae ⟨m,⟨2,f,t,x⟩,q⟩) k).1).m),pk (bD d (((af (ae ⟨m,⟨2,f,t,x⟩,q⟩) k).1).q).tail),ob (B4 u) #[i6 2,iN f,iN t,iN x] 70,bf a ((af (ae ⟨m,⟨2,f,t,x⟩,q⟩) k).2),ob ((i 8).y 0) #[iN (((((af (ae ⟨m,⟨2,f,t,x⟩,q⟩) k).1).q).headD aH).k),iN (((((af (ae ⟨m,⟨2,f,t,x⟩,q⟩) k).1).q).headD aH).w)] 285] (by skip;kernel_rfl) (cl [ob g #[pt b 0,iN ((a1 (af (ae ⟨m,⟨2,f,t,x⟩,q⟩) k).1).j.A),iN ((a1 (af (ae ⟨m,⟨2,f,t,x⟩,q⟩) k).1).j.fr),iN ((a1 (af (ae ⟨m,⟨2,f,t,x⟩,q⟩) k).1).j.tg),iN ((a1 (af (ae ⟨m,⟨2,f,t,x⟩,q⟩) k).1).j.nx),pt d 0] 133,pk (aG b (a1 (af (ae ⟨m,⟨2,f,t,x⟩,q⟩) k).1).m),pk (bD d (((af (ae ⟨m,⟨2,f,t,x⟩,q⟩) k).1).q).tail),ob (B4 u) #[i6 2,iN f,iN t,iN x] 70,bf a ((af (ae ⟨m,⟨2,f,t,x⟩,q⟩) k).2),ob ((i 8).y 0) #[iN (((((af (ae ⟨m,⟨2,f,t,x⟩,q⟩) k).1).q).headD aH).k),iN (((((af (ae ⟨m,⟨2,f,t,x⟩,q⟩) k).1).q).headD aH).w)] 285] (by skip;kernel_rfl) (cl [ob g #[pt b 0,iN ((a1 (af (ae ⟨m,⟨2,f,t,x⟩,q⟩) k).1).j.A),iN ((a1 (af (ae ⟨m,⟨2,f,t,x⟩,q⟩) k).1).j.fr),iN ((a1 (af (ae ⟨m,⟨2,f,t,x⟩,q⟩) k).1).j.tg),iN ((a1 (af (ae ⟨m,⟨2,f,t,x⟩,q⟩) k).1).j.nx),pt d 0] 133,pk (aG b (a1 (af (ae ⟨m,⟨2,f,t,x⟩,q⟩) k).1).m),pk (bD d (a1 (af (ae ⟨m,⟨2,f,t,x⟩,q⟩) k).1).q),ob (B4 u) #[i6 2,iN f,iN t,iN x] 70,bf a ((af (ae ⟨m,⟨2,f,t,x⟩,q⟩) k).2),ob ((i 8).y 0) #[iN (((((af (ae ⟨m,⟨2,f,t,x⟩,q⟩) k).1).q).headD aH).k),iN (((((af (ae ⟨m,⟨2,f,t,x⟩,q⟩) k).1).q).headD aH).w)] 285] (by skip;kernel_rfl) (r0 [(1,.l 5),(2,.c [0,1,2] [0,1,2] (oz g b d (a1 (af (ae ⟨m,⟨2,f,t,x⟩,q⟩) k).1) z ((((af (ae ⟨m,⟨2,f,t,x⟩,q⟩) k).1).q).headD aH) A))] [(58,.bool (!(c6 (a1 (af (ae ⟨m,⟨2,f,t,x⟩,q⟩) k).1) ((((af (ae ⟨m,⟨2,f,t,x⟩,q⟩) k).1).q).headD aH))))] [] ?_)));refine cB (!(c6 (a1 (af (ae ⟨m,⟨2,f,t,x⟩,q⟩) k).1) ((((af (ae ⟨m,⟨2,f,t,x⟩,q⟩) k).1).q).headD aH))) (λG=>?_) λG=>?_
  ·exact rr (λe=>[(2,.l 5),(3,.c [0,1,2] [0,1,2,6] (xJ g b d (a1 (af (ae ⟨m,⟨2,f,t,x⟩,q⟩) k).1) z ((((af (ae ⟨m,⟨2,f,t,x⟩,q⟩) k).1).q).headD aH) A)),(4,.m (lG 4 6 iK.hT (a) ((e 3).val 0) (xs:=(af (ae ⟨m,⟨2,f,t,x⟩,q⟩) k).2) (ys:=fz (a1 (af (ae ⟨m,⟨2,f,t,x⟩,q⟩) k).1) ((((af (ae ⟨m,⟨2,f,t,x⟩,q⟩) k).1).q).headD aH)) (bf ((e 3).val 0) (fz (a1 (af (ae ⟨m,⟨2,f,t,x⟩,q⟩) k).1) ((((af (ae ⟨m,⟨2,f,t,x⟩,q⟩) k).1).q).headD aH))) (λ_ h=>ao.src ((λ_ h=>h) _ h)) iK.one iK.lz (by simp only[LL,uu];omega)))]) (λe=>[(4,(e 4).val 0)]) [4] (λe L=>(((L.set 0 (ob g #[pt b 0,iN ((dc (a1 (af (ae ⟨m,⟨2,f,t,x⟩,q⟩) k).1) ((((af (ae ⟨m,⟨2,f,t,x⟩,q⟩) k).1).q).headD aH)).j.A),iN ((dc (a1 (af (ae ⟨m,⟨2,f,t,x⟩,q⟩) k).1) ((((af (ae ⟨m,⟨2,f,t,x⟩,q⟩) k).1).q).headD aH)).j.fr),iN ((dc (a1 (af (ae ⟨m,⟨2,f,t,x⟩,q⟩) k).1) ((((af (ae ⟨m,⟨2,f,t,x⟩,q⟩) k).1).q).headD aH)).j.tg),iN ((dc (a1 (af (ae ⟨m,⟨2,f,t,x⟩,q⟩) k).1) ((((af (ae ⟨m,⟨2,f,t,x⟩,q⟩) k).1).q).headD aH)).j.nx),pt d 0] 133)).set 1 ((pk (aG b (dc (a1 (af (ae ⟨m,⟨2,f,t,x⟩,q⟩) k).1) ((((af (ae ⟨m,⟨2,f,t,x⟩,q⟩) k).1).q).headD aH)).m)))).set 2 ((pk (bD d (dc (a1 (af (ae ⟨m,⟨2,f,t,x⟩,q⟩) k).1) ((((af (ae ⟨m,⟨2,f,t,x⟩,q⟩) k).1).q).headD aH)).q)))).set 4 (bf ((e 4).val 0) (((af (ae ⟨m,⟨2,f,t,x⟩,q⟩) k).2)++(fz (a1 (af (ae ⟨m,⟨2,f,t,x⟩,q⟩) k).1) ((((af (ae ⟨m,⟨2,f,t,x⟩,q⟩) k).1).q).headD aH))))++[bf ((e 3).val 0) (fz (a1 (af (ae ⟨m,⟨2,f,t,x⟩,q⟩) k).1) ((((af (ae ⟨m,⟨2,f,t,x⟩,q⟩) k).1).q).headD aH))]) λe=>kO (k+1) ((e 4).val 0) ⟨by omega,B⟩ Om Kr [0,1,2,3,4] (by(rw[C0 (s:=(ae ⟨m,⟨2,f,t,x⟩,q⟩)) (k:=k) (by simpa using ‹(!c6 (a1 (af (ae ⟨m,⟨2,f,t,x⟩,q⟩) k).1) ((af (ae ⟨m,⟨2,f,t,x⟩,q⟩) k).1.q.headD aH))=true›)]);kernel_rfl)
  exact kO (k+1) a ⟨by omega,B⟩ Om Kr [0,1,2,3,4] (by(rw[CZ (s:=(ae ⟨m,⟨2,f,t,x⟩,q⟩)) (k:=k) (by simpa using ‹(!c6 (a1 (af (ae ⟨m,⟨2,f,t,x⟩,q⟩) k).1) ((af (ae ⟨m,⟨2,f,t,x⟩,q⟩) k).1.q.headD aH))=false›)]);kernel_rfl)
 refine kP ?_;have r:((af (ae ⟨m,⟨2,f,t,x⟩,q⟩) k).1.j.A≠0)∨(af (ae ⟨m,⟨2,f,t,x⟩,q⟩) k).1.q.length=0:=by(left;simpa using H)
 have p:cy ⟨m,⟨2,f,t,x⟩,q⟩=(af (ae ⟨m,⟨2,f,t,x⟩,q⟩) k):=by show eZ q.length (ae ⟨m,⟨2,f,t,x⟩,q⟩)=_;rw[K];rcases r with h | h;exact ux h _;rw[show q.length-k=0 by omega];rfl
 exact cl [ob g #[pt b 0,iN ((af (ae ⟨m,⟨2,f,t,x⟩,q⟩) k).1.j.A),iN ((af (ae ⟨m,⟨2,f,t,x⟩,q⟩) k).1.j.fr),iN ((af (ae ⟨m,⟨2,f,t,x⟩,q⟩) k).1.j.tg),iN ((af (ae ⟨m,⟨2,f,t,x⟩,q⟩) k).1.j.nx),pt d 0] 133,pk (aG b ((af (ae ⟨m,⟨2,f,t,x⟩,q⟩) k).1).m),pk (bD d (af (ae ⟨m,⟨2,f,t,x⟩,q⟩) k).1.q),ob (B4 u) #[i6 2,iN f,iN t,iN x] 70,bf a ((af (ae ⟨m,⟨2,f,t,x⟩,q⟩) k).2)] (by(try rw[show(af (ae ⟨m,⟨2,f,t,x⟩,q⟩) k).1.q.tail=(af (ae ⟨m,⟨2,f,t,x⟩,q⟩) k).1.q from uw (r.resolve_left (λh=>h v))]);kernel_rfl) (r0 [] [(2,a)] [2] (lf (.l [] [] [a]) [0,1,2,4] [] [] (hf:=by rw[p];kernel_rfl)))
theorem N9(g a b:Nat)(r:Rp)(d:a2 r)(e:r.j.A≠0):aa UZ 212 #[pt g 0] [pk (aq g a b r)] [0] (λE=>[pk (aq g a b (cy r).1),bf (E.val 0) (cy r).2]) (λE=>E.val 0):=by
 obtain⟨m,⟨i,f,t,x⟩,q⟩:=r;rcases d.j.k with h | ⟨c,h⟩ | ⟨c,h⟩
 ·cases h;exact absurd rfl e
 ·cases c;exact N7 g a b m f t x q d h
 ·cases c;exact N8 g a b m f t x q d h
theorem Ob(g a b:Nat)(r:Rp)(d:a2 r)(c:r.j.A≠0):aa UZ 212 #[pt g 0] (pB g a b r) [0,1,2] (λE=>pB g a b (cy r).1++[bf (E.val 0) (cy r).2]) (λE=>E.val 0):=(N9 g a b r d c).unpk (N:=λE=>[bf (E.val 0) (cy r).2])
theorem bz{r:Rp}(a:r.j.A≠0):((r.j.A:Int)==0)=false:=by rw[dR];omega
theorem Od(g a b:Nat)(r:Rp)(d:a2 r)(h:r.j.A≠0)(t:r.j.nx<gj r.j.A r.m.B r.m.M r.m.C)(p:kZ r.m (bE r).j=true):aa UZ 165 #[pt g 0] [pk (aq g a b r)] [0] (λE=>[pk (aq g a b (cy (bE r)).1),bf (E.val 0) ((cy (bE r)).2)]) (λE=> .tuple #[(E.val 0),i6 0]):=aa.pkW (n:=1) (N:=λE=>[bf (E.val 0) ((cy (bE r)).2)]) (enters_of Tryz.func165 Kr rfl) λL o=>by
 obtain⟨rfl⟩:=o;refine⟨[0,1,2],λ_=>[ob g #[pt a 0,iN ((cy (bE r)).1.j.A),iN ((cy (bE r)).1.j.fr),iN ((cy (bE r)).1.j.tg),iN ((cy (bE r)).1.j.nx),pt b 0] 133,pk (aG a (cy (bE r)).1.m),pk (bD b (cy (bE r)).1.q)],?_,rfl,λE=>⟨rfl,rfl,rfl⟩⟩;have f:=d.m;have B:=d.j;have y:=d.n;have A:=f.O;have u:=f.ly;have v:=f.np;have i:r.j.A=1∨r.j.A=2:=CW d h;have x:r.j.nx≤4096:=CX d;refine fG Tryz.func165 λw z=>r0 [] [(2,.slice none 0 0),(3,i6 0)] [] (r0 [(1,.c [0,1,2] [1,2] (lZ g a b r))] [(6,.bool (!((r.j.A:Int) != 0)))] [] ?_);have k:(!((r.j.A:Int) != 0))=false:=by(rw[bne,bz h];rfl)
 exact cF (!((r.j.A:Int) != 0)) k (rs [(4,.l 0),(5,ad r.j.nx 1),(9,.s 0)] 0 (ob g #[pt a 0,iN r.j.A,iN r.j.fr,iN r.j.tg,iN (r.j.nx+1),pt b 0] 133) (rF [(3,.l 0),(7,.l 0),(8,.c [1] [1] (iH a r.m f)),(9,.c [] [] (aa.v ((CR r.m f r.j.A r.j.fr r.j.tg (r.j.nx+1) i)) λ_=>ALca Value.bool (show(kZ r.m ⟨r.j.A,r.j.fr,r.j.tg,(r.j.nx+1)⟩)=true from(by exact p))))] 26 (cl [ob g #[pt a 0,iN ((bE r).j.A),iN ((bE r).j.fr),iN ((bE r).j.tg),iN ((bE r).j.nx),pt b 0] 133,pk (aG a r.m),pk (bD b r.q)] (by skip;kernel_rfl) (cl [ob g #[pt a 0,iN ((bE r).j.A),iN ((bE r).j.fr),iN ((bE r).j.tg),iN ((bE r).j.nx),pt b 0] 133,pk (aG a (bE r).m),pk (bD b r.q)] (by skip;kernel_rfl) (cl [ob g #[pt a 0,iN ((bE r).j.A),iN ((bE r).j.fr),iN ((bE r).j.tg),iN ((bE r).j.nx),pt b 0] 133,pk (aG a (bE r).m),pk (bD b (bE r).q)] (by skip;kernel_rfl) (rr (λ_=>[(1,.c [0,1,2] [0,1,2,3] (Ob g a b (bE r) (uq d h t) h))]) (λe=>[(2,(e 1).val 0),(3,i6 0)]) [2,3] (λe L=>((L.set 0 (ob g #[pt a 0,iN ((cy (bE r)).1.j.A),iN ((cy (bE r)).1.j.fr),iN ((cy (bE r)).1.j.tg),iN ((cy (bE r)).1.j.nx),pt b 0] 133)).set 1 ((pk (aG a (cy (bE r)).1.m)))).set 2 ((pk (bD b (cy (bE r)).1.q)))++[bf ((e 1).val 0) ((cy (bE r)).2)]) λe=>lf (.l [] [] [((e 1).val 0),(e 1).val 0]) [0,1,2,3] [] []))))))
theorem Oe(g a b:Nat)(r:Rp)(e:a2 r)(h:r.j.A≠0)(x:r.j.nx<gj r.j.A r.m.B r.m.M r.m.C)(m:kZ r.m (bE r).j=false):aa UZ 165 #[pt g 0] [pk (aq g a b r)] [0] (λE=>[pk (aq g a b (bE r)),bf (E.val 0) ([])]) (λE=> .tuple #[(E.val 0),i6 0]):=aa.pkW (n:=1) (N:=λE=>[bf (E.val 0) ([])]) (enters_of Tryz.func165 Kr rfl) λL k=>by
 obtain⟨rfl⟩:=k;refine⟨[0,1,2],λ_=>[ob g #[pt a 0,iN r.j.A,iN r.j.fr,iN r.j.tg,iN (r.j.nx+1),pt b 0] 133,pk (aG a r.m),pk (bD b r.q)],?_,rfl,λE=>⟨rfl,rfl,rfl⟩⟩;have d:=e.m;have y:=e.j;have t:=e.n;have v:=d.O;have o:=d.ly;have p:=d.np;have f:r.j.A=1∨r.j.A=2:=CW e h;have q:r.j.nx≤4096:=CX e;refine fG Tryz.func165 λw u=>r0 [] [(2,.slice none 0 0),(3,i6 0)] [] (r0 [(1,.c [0,1,2] [1,2] (lZ g a b r))] [(6,.bool (!((r.j.A:Int) != 0)))] [] ?_);have i:(!((r.j.A:Int) != 0))=false:=by(rw[bne,bz h];rfl)
 exact cF (!((r.j.A:Int) != 0)) i (rs [(4,.l 0),(5,ad r.j.nx 1),(9,.s 0)] 0 (ob g #[pt a 0,iN r.j.A,iN r.j.fr,iN r.j.tg,iN (r.j.nx+1),pt b 0] 133) (rT [(3,.l 0),(7,.l 0),(8,.c [1] [1] (iH a r.m d)),(9,.c [] [] (aa.v ((CR r.m d r.j.A r.j.fr r.j.tg (r.j.nx+1) f)) λ_=>ALca Value.bool (show(kZ r.m ⟨r.j.A,r.j.fr,r.j.tg,(r.j.nx+1)⟩)=false from(by exact m))))] 26 (r0 [] [(2,.slice none 0 0),(3,i6 0)] [2,3] (cz iK (lf (.l [] [] [.slice none 0 0]) [0,1,2,3] [] [])))))
theorem Of(g a b:Nat)(r:Rp)(f:a2 r)(c:r.j.A≠0)(e:r.j.nx<gj r.j.A r.m.B r.m.M r.m.C):aa UZ 165 #[pt g 0] [pk (aq g a b r)] [0] (λE=>[pk (aq g a b (fg r).1),bf (E.val 0) (fg r).2]) (λE=> .tuple #[E.val 0,i6 0]):=by
 unfold fg;cases d:kZ r.m (bE r).j with
 | true=>exact Od g a b r f c e d
 | false=>exact Oe g a b r f c e d
end
section
open Go.Shelf
theorem Og(a b:Nat):decide ((a:Int)<(b:Int))=decide (a<b):=by
 by_cases h:a<b
 ·rw[cS h,cS Om]
 ·rw[bg h,bg Om]
structure Bk where
 l:Nat
 a:Nat
deriving DecidableEq
def bh:Bk:=⟨0,0⟩
def xK(x:Bk):List Value:=[iN x.l,iN x.a]
def kr:Kd UZ Bk:=⟨xK,[i6 0,i6 0],292,290,bh,2,λ_=>rfl,rfl,λ_=>rfl,dS.mk' Kr Kr rfl⟩
abbrev jY(v:Value)(xs:List Bk):aB:= .p (ao xK ([i6 0,i6 0]) 290 v xs)
structure ie (lim ev:Nat):Prop where
 l1:1≤lim
 l2:lim≤65536
 e1:1≤ev
 e2:ev≤65536
structure eP (ev:Nat) (l a:Nat):Prop where
 l:l≤65536
 a:a<ev
def jC(n a b:Int):Bool:=decide (a≤n)&&decide (n≤b)
def gF(l e:Int):Bool:=jC l 1 65536&&jC e 1 65536
theorem C2{l e:Int}(h:gF l e=true): ∃a b:Nat,l=a∧e=b∧ie a b:=by
 unfold gF jC at h;simp only[U7,decide_eq_true_eq] at h;exact⟨l.toNat,e.toNat,by omega,by omega,by omega,by omega,by omega,by omega⟩
theorem ie.r{a b:Nat}(h:ie a b):gF a b=true:=by
 have:=h.l1;have:=h.l2;have:=h.e1;have:=h.e2;unfold gF jC;simp only[U7,decide_eq_true_eq];omega
def cc(l n:Nat):Nat:=l+min n (65536-l)
def cC(a l n:Nat):Bool:=decide (l<a)&&decide (a≤cc l n)
def gV(ev l a:Nat):Nat:=if 1<ev-a then l else l-1
def gX(ev l a:Nat):Nat:=if 1<ev-a then a+1 else 0
theorem C3{ev l a n:Nat}(h:eP ev l a):eP ev (cc l n) a:=⟨by have:=h.l;unfold cc;omega,h.a⟩
theorem C4{ev l a:Nat}(h:eP ev l a):eP ev (gV ev l a) (gX ev l a):=by
 have:=h.l;have:=h.a;unfold gV gX
 constructor<;>split<;>omega
end
section
open Go.Shelf
theorem uz(n a b:Int):aa UZ 174 #[i6 n,i6 a,i6 b] [] [] N0 (λ_=> .bool (jC n a b)):=by
 exact fG Tryz.func174 λw c=>r0 [] [(6,.bool false)] [] (r0 [] [(6,.bool ((decide (a≤n))&&(decide (n≤b))))] [6] (ak (.bool ((decide (a≤n))&&(decide (n≤b)))) ab.zero a7 [] [] []))
theorem xL(l e:Int):aa UZ 136 #[.agg #[i6 l,i6 e]] [] [] N0 (λ_=> .bool (gF l e)):=by
 exact fG Tryz.func136 λw b=>ra (λa=>[(1,pt (B0 a) 0),(2,.bool false)]) (λa=>[ob (B0 a) #[i6 l,i6 e] 27]) λa=>r0 [(1,.l 0),(2,.c [] [] (uz l 1 65536)),(5,.l 0),(6,.c [] [] (uz e 1 65536))] [(2,.bool ((jC l 1 65536)&&(jC e 1 65536)))] [2] (ak (.bool ((jC l 1 65536)&&(jC e 1 65536))) ab.zero a7 [] [] [])
theorem Oh(a b:Nat)(h:ie a b):aa UZ 136 #[.agg #[iN a,iN b]] [] [] N0 (λ_=> .bool true):=by
 have c:=xL a b;rwa [h.r] at c
theorem C5(d b l a:Nat)(f:ie d b)(g:eP b l a):aa UZ 260 #[.agg #[iN l,iN a],.agg #[iN d,iN b]] [] [] N0 (λ_=> .bool true):=by
 have i:=g.l;have j:=g.a;have k:=f.e2;exact fG Tryz.func260 λw h=>ra (λe=>[(2,pt (B0 e) 0),(3,pt (B1 e) 0),(4,.bool false)]) (λe=>[ob (B0 e) #[iN l,iN a] 290,ob (B1 e) #[iN d,iN b] 27]) λe=>r0 [(0,.m (ls 1 ([iN d,iN b]))),(1,.c [] [] (Oh d b f)),(4,.m (ld 0 (iN l))),(5,.c [] [] (uz (l:Int) 0 65536)),(9,.m (ld 0 (iN a))),(11,.m (ld 1 (iN b))),(12,sI (b:Int) (1) Om),(13,.c [] [] (uz (a:Int) 0 ((b:Int)-1)))] [(4,.bool ((jC (l:Int) 0 65536)&&(jC (a:Int) 0 ((b:Int)-1))))] [4] (ak (.bool ((jC (l:Int) 0 65536)&&(jC (a:Int) 0 ((b:Int)-1)))) ab.zero (by exact ALca Value.bool (by unfold jC;simp only[U7,decide_eq_true_eq];omega)) [] [] [])
theorem C6(d f l a n:Nat)(g:ie d f)(i:eP f l a)(o:n≤65536):aa UZ 237 #[.agg #[iN l,iN a],.agg #[iN d,iN f],iN n] [] [] N0 (λ_=> .tuple #[.agg #[iN (cc l n),iN a],.bool (cC d l n)]):=by
 have k:=i.l;have h:=g.l2;refine fG Tryz.func237 λw j=>ra (λe=>[(3,pt (B0 e) 0),(4,pt (B1 e) 0),(6,pt (B2 e) 0),(7,.bool false)]) (λe=>[ob (B0 e) #[iN l,iN a] 290,ob (B1 e) #[iN d,iN f] 27,ob (B2 e) #[i6 0,i6 0] 290]) λe=>r0 [(0,.l 0),(1,.l 1),(2,.c [] [] (C5 d f l a g i))] [(16,.bool (decide ((n:Int)<0)))] [] ?_;have h:(decide ((n:Int)<0))=false:=by exact bg Om
 exact cF (decide ((n:Int)<0)) h (r0 [(1,.l 0)] [(8,iN l)] [] (rs [(1,.l 0),(4,.l 0),(5,sI 65536 ((l:Int)) Om),(6,.t (tv (Builtin.min_ #[3,3] 3 #[iN n,i6 (65536-(l:Int))]) (λ_=>GY _ _ _ _))),(7,.t (tv (au .add 3 (.tmp 21) (.tmp 26) (iN l) (i6 (min (n:Int) (65536-(l:Int))))) (λ_=>dB (b:=((cc l n:Nat):Int)) (pT Om Om) (by unfold cc;omega)))),(9,.s 0)] 0 (ob (B0 e) #[iN (cc l n),iN a] 290) (rr (λ_=>[(0,.m (ls 0 ([iN (cc l n),iN a]))),(3,.m (ld 1 (iN d))),(7,.m (ld 0 (iN (cc l n)))),(9,.m (ld 1 (iN d))),(12,.s 2)]) (λ_=>[(7,.bool ((decide ((l:Int)<(d:Int)))&&(decide ((d:Int)≤((cc l n:Nat):Int)))))]) [7] (λ_ L=>L.set 2 (ob (B2 e) #[iN (cc l n),iN a] 290)) λp=>ak (.tuple #[.agg #[iN (cc l n),iN a],.bool ((decide ((l:Int)<(d:Int)))&&(decide ((d:Int)≤((cc l n:Nat):Int))))]) ab.zero (by unfold cC;rw[←xu,←Og]) [] [] [2])))
theorem Oi(g e l a:Nat)(h:ie g e)(j:eP e l a):aa UZ 244 #[.agg #[iN l,iN a],.agg #[iN g,iN e],i6 1] [] [] N0 (λ_=> .agg #[iN (gV e l a),iN (gX e l a)]):=by
 have o:=j.l;have p:=j.a;have q:=h.e2;have r:=h.e1;refine fG Tryz.func244 λw n=>ra (λf=>[(3,pt (B0 f) 0),(4,pt (B1 f) 0),(6,pt (B2 f) 0)]) (λf=>[ob (B0 f) #[iN l,iN a] 290,ob (B1 f) #[iN g,iN e] 27,ob (B2 f) #[i6 0,i6 0] 290]) λf=>rF [(0,.l 0),(1,.l 1),(2,.c [] [] (C5 g e l a h j))] 15 (r0 [(1,.l 1),(3,.l 0),(4,.t (tb (a:=iN e) (b:=iN a) λ_ _ _ _=>kQ (a:=e) (b:=a) Om Om))] [(7,iN (e-a))] [] (r0 [] [(24,.bool (decide (1<((e-a:Nat):Int))))] [] ?_));refine b4 1 ((e-a:Nat):Int) (λk i=>?_) λk i=>?_
 ·exact rr (λ_=>[(1,.l 0),(3,ad a 1),(5,.s 0)]) N0 [] (λ_ L=>L.set 0 (ob (B0 f) #[iN l,iN (a+1)] 290)) λu=>rs [(0,.l 0),(1,.s 2)] 2 (ob (B2 f) #[iN l,iN (a+1)] 290) (ak (.agg #[iN l,iN (a+1)]) ab.zero (by unfold gV gX;(rw[ALifp (show 1<e-a by omega),ALifp (show 1<e-a by omega)])) [] [] [2])
 exact r0 [(2,.t (tv (au .sub 3 (.tmp 31) (.tmp 32) (i6 1) (iN (e-a))) (λ_=>dB (b:=0) (pU Om Om) Om)))] [(2,i6 0)] [2] (rs [(2,.l 1),(3,.t (tv (au .rem 3 (.tmp 34) (.tmp 36) (i6 0) (iN e)) (λ_=>dB (b:=0) (ni (a:=0) (d:=e) Om) (by simp)))),(5,.s 0)] 0 (ob (B0 f) #[iN l,i6 0] 290) (rs [(1,.m (ld 0 (iN l))),(2,sI (l:Int) (1) Om),(5,.m (ld 1 (iN e))),(6,.t (tv (au .quo 3 (.tmp 42) (.tmp 44) (i6 0) (iN e)) (λ_=>dB (b:=0) (n1 (a:=0) (d:=e) Om Om) (by simp)))),(8,sI ((l:Int)-1) (0) Om),(9,.t (tv (Builtin.max_ #[3,3] 3 #[i6 0,i6 (((l:Int)-1)-0)]) (λ_=>qj _ _ _ _))),(11,.s 0)] 0 (ob (B0 f) #[i6 (max 0 (((l:Int)-1)-0)),i6 0] 290) (rs [(0,.l 0),(1,.s 2)] 2 (ob (B2 f) #[i6 (max 0 (((l:Int)-1)-0)),i6 0] 290) (ak (.agg #[i6 (max 0 (((l:Int)-1)-0)),i6 0]) ab.zero (by unfold gV gX;(rw[ALifn (show ¬1<e-a by omega),ALifn (show ¬1<e-a by omega)];exact ALca (λz:Int=>Value.agg #[i6 z,i6 0]) Om)) [] [] [2]))))
theorem C7(d b l a:Nat)(f:ie d b)(g:eP b l a):aa UZ 208 #[.agg #[iN l,iN a],.agg #[iN d,iN b]] [] [] N0 (λ_=> .agg #[iN (gV b l a),iN (gX b l a)]):=by
 exact fG Tryz.func208 λw h=>ra (λe=>[(2,pt (B0 e) 0),(3,pt (B1 e) 0),(4,pt (B2 e) 0)]) (λe=>[ob (B0 e) #[iN l,iN a] 290,ob (B1 e) #[iN d,iN b] 27,ob (B2 e) #[i6 0,i6 0] 290]) λe=>rs [(0,.l 0),(1,.l 1),(2,.c [] [] (Oi d b l a f g)),(3,.s 2)] 2 (ob (B2 e) #[iN (gV b l a),iN (gX b l a)] 290) (lf ab.zero [] [] [2])
end
section
open Go.Shelf
structure Re where
 s:Nat
 t:Nat
 k:Nat
 i:Nat
 o:Nat
deriving DecidableEq
def aW:Re:=⟨0,0,0,0,0⟩
def l0(x:Re):List Value:=[iN x.s,iN x.t,iN x.k,iN x.i,iN x.o]
def dJ:Kd UZ Re:=⟨l0,[i6 0,i6 0,i6 0,i6 0,i6 0],41,59,aW,5,λ_=>rfl,rfl,λ_=>rfl,dS.mk' Kr Kr rfl⟩
abbrev eF(v:Value)(xs:List Re):aB:= .p (ao l0 ([i6 0,i6 0,i6 0,i6 0,i6 0]) 59 v xs)
def aO{α:Type}(p:α→Bool):List α→Nat
 | []=>0
 | x::xs=>bif p x then 0 else aO p xs+1
def gY{α:Type}(p:α→Bool)(xs:List α):Int:=if aO p xs=xs.length then -1 else(aO p xs:Int)
theorem mU{α:Type}(p:α→Bool): ∀xs:List α,aO p xs≤xs.length
 | []=>Vk _
 | x::xs=>by
  unfold aO;cases p x with
  | true=>exact Vz _
  | false=>exact Nat.succ_le_succ (mU p xs)
theorem C8{α:Type}{p:α→Bool}{d:α}: ∀{xs:List α},(∀j,j<xs.length→p (xs.getD j d)=false)→aO p xs=xs.length
 | [],_=>rfl
 | x::xs,h=>by
  unfold aO;rw[show p x=false from h 0 (V3 _),ALcf,C8 (d:=d) λj a=>h (j+1) (Wg a)];rfl
theorem C9{α:Type}{p:α→Bool}{d:α}: ∀{xs:List α} {k:Nat},k<xs.length→(∀j,j<k→p (xs.getD j d)=false)→p (xs.getD k d)=true→aO p xs=k
 | [],k,b,_,_=>by cases b
 | x::xs,0,_,_,a=>by
  unfold aO;rw[show p x=true from a];rfl
 | x::xs,k+1,b,h,a=>by
  unfold aO;rw[show p x=false from h 0 (V3 _),ALcf,C9 (d:=d) (Nat.lt_of_succ_lt_succ b) (λj c=>h (j+1) (Wg c)) a]
theorem Da{α:Type}{p:α→Bool}{d:α}{xs:List α}(h: ∀j,j<xs.length→p (xs.getD j d)=false):gY p xs= -1:=by unfold gY;rw[ALifp (C8 h)]
theorem Db{α:Type}{p:α→Bool}{d:α}{xs:List α}{k:Nat}(a:k<xs.length)(h: ∀j,j<k→p (xs.getD j d)=false)(h1:p (xs.getD k d)=true):gY p xs=(k:Int):=by
 unfold gY;rw[C9 a h h1,ALifn Om]
def bW(x:Re):Bool:= !((x.k:Int)==2)
structure Lg where
 l:List Re
 H:Nat
 next:Nat
 lost:Bool
structure fA (g:Lg):Prop where
 l:g.l.length≤g.H
 r1:1≤g.H
 r:g.H≤256
 n:g.next≤1000000000
abbrev aA(g:Nat)(c:Lg)(L:ah):Prop:=∃v:Value,L=[ob g #[v,iN c.H,iN c.next,.bool c.lost] 124,eF v c.l]
def l7(x:Re)(n:Nat):Re:={x with s:=n}
def bF(c:Lg)(x:Re):Lg:=
 if c.l.length=c.H then
  (if bW x=true∨aO bW c.l=c.l.length then{c with next:=c.next+1,lost:=true}
   else{c with l:=c.l.eraseIdx (aO bW c.l)++[l7 x c.next],next:=c.next+1,lost:=true})
 else{c with l:=c.l++[l7 x c.next],next:=c.next+1}
def Dd(c:Lg)(x:Re):Bool:= !(decide (c.l.length=c.H)&&(bW x||decide (aO bW c.l=c.l.length)))
def jD(c:Lg):Lg:={c with l:=[],lost:=false}
def oA(room:Nat):Lg:=⟨[],room,1,false⟩
end
section
open Go.Shelf
theorem pD(x:Re):aa UZ 19 #[.agg #[iN x.s,iN x.t,iN x.k,iN x.i,iN x.o]] [] [] N0 (λ_=> .bool ((x.k:Int)==2)):=by
 exact fG Tryz.func19 λw cs=>ra (λa=>[(1,pt (B0 a) 0),(2,.bool false)]) (λa=>[ob (B0 a) #[iN x.s,iN x.t,iN x.k,iN x.i,iN x.o] 59]) λa=>r0 [(1,.l 0)] [(2,.bool ((x.k:Int)==2))] [2] (lf ab.zero [] [] [])
theorem Oj(x:Re):aa UZ 277 #[.agg #[iN x.s,iN x.t,iN x.k,iN x.i,iN x.o]] [] [] N0 (λ_=> .bool (bW x)):=by
 exact fG Tryz.func277 λw cs=>ra (λa=>[(1,pt (B0 a) 0),(2,.bool false)]) (λa=>[ob (B0 a) #[iN x.s,iN x.t,iN x.k,iN x.i,iN x.o] 59]) λa=>r0 [(0,.l 0),(1,.c [] [] (pD x))] [(2,.bool (!((x.k:Int)==2)))] [2] (ak (.bool (!((x.k:Int)==2))) ab.zero a7 [] [] [])
theorem Ok(v:Value)(xs:List Re)(l:xs.length≤1000000):aa UZ 276 #[v,.func (.func 277) #[] #[]] [.p (aJ l0 v xs)] [] N0 (λ_=>i6 (gY bW xs)):=by
 refine fO Tryz.func276 0 rfl λe a=>fG Tryz.func276 λw cs=>r0 [] [(4,i6 0)] [] (r0 [(1,ey a.1 0)] [(7,iN xs.length),(8,i6 0)] [] ?_);refine lq (λk=>k≤xs.length∧(∀j,j<k→bW (xs.getD j aW)=false)) (λk=>[(8,iN k)]) (λ_ L=>L) (λk=>xs.length-k) 0 ⟨by omega,(λ_ h=>absurd h (VD _))⟩ Kr Kr (λk ⟨i,d⟩=>?_);refine r0 [] [(9,.bool (decide ((k:Int)<(xs.length:Int))))] [] ?_;refine b4 (k:Int) (xs.length:Int) (λf b=>?_) λf b=>?_
 ·refine r0 [] [(5,iN k)] [] (r0 [(3,e7 a.1 0 k 5),(4,mG dJ a.1 0 k 0 5),(5,.c [] [] (Oj (xs.getD k aW)))] [(16,.bool (bW (xs.getD k aW)))] [] ?_);refine cB (bW (xs.getD k aW)) (λg=>?_) λg=>?_
  ·exact r0 [] [(4,iN k)] [] (ak (iN k) ab.zero (by(rw[Db Om d As];done)) [] [(0,0)] [])
  exact r0 [(0,ad k 1)] [(8,iN (k+1))] [8] (le (k+1) ⟨by omega,xy d As⟩ Om Kr [0] Kr)
 obtain rfl:xs.length=k:=by omega
 exact lx (r0 [] [(4,i6 (-1))] [] (ak (i6 (-1)) ab.zero (by(rw[Da d];done)) [] [(0,0)] []))
theorem De(g:Nat)(c:Lg):aa UZ 20 #[pt g 0] [pk (aA g c)] [0] (λ_=>[pk (aA g c)]) (λ_=>iN c.l.length):=aa.pkZ Tryz.func20 λL a=>by
 obtain⟨v,rfl⟩:=a;refine⟨[1],λ_=>[eF v c.l],?_,rfl,λE=>⟨rfl,rfl,⟨_,rfl⟩⟩⟩;exact fG Tryz.func20 λw cs=>r0 [] [(2,i6 0)] [] (r0 [(3,.l 0),(4,ew dJ v c.l 1)] [(2,iN c.l.length)] [2] (lf ab.zero [1] [(0,0)] []))
theorem Ol(g:Nat)(c:Lg):aa UZ 15 #[pt g 0] [pk (aA g c)] [0] (λ_=>[pk (aA g c)]) (λ_=>iN c.next):=aa.pkZ Tryz.func15 λL a=>by
 obtain⟨v,rfl⟩:=a;refine⟨[1],λ_=>[eF v c.l],?_,rfl,λE=>⟨rfl,rfl,⟨_,rfl⟩⟩⟩;exact fG Tryz.func15 λw cs=>r0 [] [(2,i6 0)] [] (r0 [(3,.l 0)] [(2,iN c.next)] [2] (lf ab.zero [1] [(0,0)] []))
theorem On(g:Nat)(c:Lg):aa UZ 21 #[pt g 0] [pk (aA g c)] [0] (λ_=>[pk (aA g c)]) (λ_=> .bool c.lost):=aa.pkZ Tryz.func21 λL a=>by
 obtain⟨v,rfl⟩:=a;refine⟨[1],λ_=>[eF v c.l],?_,rfl,λE=>⟨rfl,rfl,⟨_,rfl⟩⟩⟩;exact fG Tryz.func21 λw cs=>r0 [] [(2,.bool false)] [] (r0 [(3,.l 0)] [(2,.bool c.lost)] [2] (lf ab.zero [1] [(0,0)] []))
theorem xM(g:Nat)(v:Value)(l:List Re)(room next:Nat)(lost:Bool)(d:l.length≤1000000):aa UZ 258 #[pt g 0] [ob g #[v,iN room,iN next,.bool lost] 124,.p (aJ l0 v l)] [] N0 (λ_=>i6 (gY bW l)):=by
 exact fO Tryz.func258 1 rfl λa b=>fG Tryz.func258 λw cs=>r0 [] [(2,i6 0)] [] (r0 [(3,.l 0),(4,.c [1] [] (aa.at (rd':=[.c a]) (Ok v l Om) (ec b (λ_ h=>h))))] [(2,i6 (gY bW l))] [2] (lf ab.zero [] [(0,0),(1,1)] []))
theorem Oo(g:Nat)(v:Value)(l:List Re)(room next:Nat)(lost:Bool)(b:l.length≤1000000)(h:aO bW l<l.length):aa UZ 258 #[pt g 0] [ob g #[v,iN room,iN next,.bool lost] 124,.p (aJ l0 v l)] [] N0 (λ_=>iN (aO bW l)):=by
 have a:=xM g v l room next lost b
 unfold gY at a;rwa [ALifn Om] at a
theorem Oq(g:Nat)(v:Value)(l:List Re)(room next:Nat)(lost:Bool)(b:l.length≤1000000)(h:aO bW l=l.length):aa UZ 258 #[pt g 0] [ob g #[v,iN room,iN next,.bool lost] 124,.p (aJ l0 v l)] [] N0 (λ_=>i6 (-1)):=by
 have a:=xM g v l room next lost b
 unfold gY at a;rwa [ALifp h] at a
theorem Ot(room:Nat)(h1:1≤room)(h2:room≤256):aa UZ 139 #[iN room] [] [] (λE=>[ob (E.y 0) #[.slice none 0 0,iN room,i6 1,.bool false] 124]) (λE=> .tuple #[pt ((E.y 0)) 0,i6 0]):=by
 refine fG Tryz.func139 λw cs=>r0 [] [(2,.pointer none),(3,i6 0)] [] (r0 [] [(9,.bool ((decide ((room:Int)<1))||(decide (256<(room:Int)))))] [] ?_);have b:((decide ((room:Int)<1))||(decide (256<(room:Int))))=false:=by rw[U9];exact⟨bg Om,bg Om⟩
 exact cF ((decide ((room:Int)<1))||(decide (256<(room:Int)))) b (rr N0 (λa=>[(2,pt (B2 a) 0),(3,i6 0)]) [2,3] (λa L=>L++[ob (B2 a) #[.slice none 0 0,iN room,i6 1,.bool false] 124]) λa=>lf (.l [(a 2).y 0] [] []) [0] [] [])
theorem xN{α:Type}{en:α→List Value}{z:List Value}{T:TypeId}{S:ah→Prop}{L:ah}{ds:List av}(b:S (L++[.p (ao en z T (.slice none 0 0) ([]:List α))]))(h:bk L ds): ∃a,bk [pk S] a∧a.flatten=ds.flatten:=
 ⟨[ds.flatten],⟨⟨_,ds++[[]],b,jJ h ⟨ao.nil none,trivial⟩,by simp⟩,trivial⟩,by simp⟩
theorem Ou(room:Nat)(h1:1≤room)(h2:room≤256):aa UZ 139 #[iN room] [] [] (λE=>[pk (aA (E.y 0) (oA room))]) (λE=> .tuple #[pt (E.y 0) 0,i6 0]):=(Ot room h1 h2).outs λE b a=>xN ⟨_,rfl⟩ a
theorem Ov(g:Nat)(c:Lg):aa UZ 167 #[pt g 0] [pk (aA g c)] [0] (λ_=>[pk (aA g (jD c))]) (λ_=>iN c.l.length):=aa.pkZ Tryz.func167 λL a=>by
 obtain⟨v,rfl⟩:=a;refine⟨[0,1],λ_=>[ob g #[.slice none 0 0,iN c.H,iN c.next,.bool false] 124,eF (.slice none 0 0) ([])],?_,rfl,λE=>⟨rfl,rfl,⟨_,rfl⟩⟩⟩;exact fG Tryz.func167 λw cs=>r0 [] [(2,i6 0)] [] (r0 [(3,.l 0),(4,ew dJ v c.l 1)] [(3,iN c.l.length)] [] (rs [(4,.s 0),(7,.s 0)] 0 (ob g #[.slice none 0 0,iN c.H,iN c.next,.bool false] 124) (r0 [] [(2,iN c.l.length)] [2] (cz dJ (lf ab.zero [0,2] [] [])))))
end
section
open Go.Lib Go.Shelf
theorem Df{P:Program}{p:Array Oper}{o:Oper}{a:Act}{w:World}{K:Act→World→Prop}{Q:Exit→Act→World→Prop}{E:Prop}
  (B:o.guard=none) (s x:Operand) (t:TypeId) (v:o.op=Op.call {callee:=Callee.builtin Builtin.append,args:=#[s,x],argTypes:=#[t,t]})
  (e:TypeId) (i:TypeInfo) (b:Nat) (h1:P.underlying t=some (.slice e)) (h2:P.info? e=some i) (z:i.size=b)
  (g n f:Nat) (d:Array Value) (r:w.heap[g]? =some (.cells d e (0,0))) (hs:a.eval s= .slice (some ⟨g,0,none⟩) n f)
  (ad:Addr) (m c:Nat) (news:List Value) (F:a.eval x= .slice (some ad) m c) (C:news.length=m*b) (A: ∀j u,news[j]? =some u→w.cell? (ad.add j)=some u) (q: ∀u∈news,u.oneCell'=true)
  (h:n+m≤f) (k:n*b+news.length≤d.size)
  (y:K (a.put o.dst (.slice (some ⟨g,0,none⟩) (n+m) f)) (w.setRow g (d.toList.take (n*b)++news++d.toList.drop (n*b+news.length)).toArray)):
  if Region.wanted o (yielded p a.tmps)=true then Oper.wp P o a w K Q else E:=by
 have D:Region.wanted o (yielded p a.tmps)=true:=by simp [Region.wanted,B]
 rw[ALifp D];subst z;have l:=run_append_room (P:=P) w t o.type e i h1 h2 g n f d r ad m c news C A q h k;unfold Oper.wp;simp [execOp,v,resolve,invoke,builtin,hs,F,l,Result.andThen];rw[Vn] at y;exact y
theorem Dg{P:Program}{T' e y t:TypeId}{z:List Value}{w:World}{g off m c:Nat}{cs:Array Value}(p:dS P T' e z)(q:w.heap[g]? =some (.cells cs t (0,0)))(B:0<m)(A:off+m*z.length≤cs.size)(h1: ∀u∈z,u.oneCell'=true):
  (Builtin.clear_ #[T'] y #[.slice (some ⟨g,off,none⟩) m c]).run P w= .ok (.tuple #[]) (w.setRow g (cs.toList.take off++(U2 m z).flatten++cs.toList.drop (off+m*z.length)).toArray):=by
 obtain⟨v,⟨i,n,s,x,C,b,r⟩,o⟩:=p;have j:0<n.cells.size:=by rw[←Array.length_toList,b];exact o
 have h:(zeroValue e).run P w= .ok n w:=by simp [zeroValue,typeInfo,s,x]
 have d:=qb z m;have a:=run_storeCells_at P g off t (U2 m z).flatten 0 cs w q (by rw[d];omega) (λu f=>by
  obtain⟨l,d,f⟩:=List.mem_flatten.1 f;rw[List.eq_of_mem_replicate d] at f;exact h1 u f)
 simp only[Nat.add_zero] at a;obtain⟨m,rfl⟩: ∃k,m=k+1:=⟨m-1,by omega⟩;rw[d] at a;simp [Builtin.clear_,run_underlying v,h,vQ _ _ j,b,a]
set_option maxRecDepth 1000000 in
set_option maxHeartbeats 1000000 in
theorem Ow(g n b i j:Nat)(w:World)(S:i<j)(R:j≤n)(H:n≤b)(a:Array Value)(x:w.heap[g]? =some (.cells a 59 (0,0)))(news:List Value)(d:news.length=(n-(j))*5)(m: ∀u∈news,u.oneCell'=true)(o: ∀t u,news[t]? =some u→w.cell? ⟨g,(j)*5+t,none⟩=some u)(k:i*5+news.length≤a.size)(C:n*5≤a.size):Calls UZ 259 #[.slice (some ⟨g,0,none⟩) n b,.int .i64 (i:Int),.int .i64 (j:Int)] w λe w'=>e= .returned (.slice (some ⟨g,0,none⟩) (n-(j-i)) b)∧w'=(w.drew.setRow g (a.toList.take (i*5)++news++a.toList.drop (i*5+news.length)).toArray).setRow g ((a.toList.take (i*5)++news++a.toList.drop (i*5+news.length)).toArray.toList.take ((i+(n-j))*5)++(U2 (n-(i+(n-j))) dJ.z).flatten++(a.toList.take (i*5)++news++a.toList.drop (i*5+news.length)).toArray.toList.drop ((i+(n-j))*5+(n-(i+(n-j)))*5)).toArray:=by
 have F:Tryz.prog.follows .mixedOrders=true:=by kernel_rfl
 have P:i≤b:=by omega
 have Q:j≤b:=by omega
 obtain⟨V,Z,B,T,D,U,N⟩:=dJ.hT.hi;obtain⟨A,hA,s⟩: ∃A:Addr,(if b=j then some (⟨g,0,none⟩:Addr) else some ⟨g,(j)*5,none⟩)=some A∧Hid (∀t u,news[t]? =some u→w.drew.cell? (A.add t)=some u):=by
  by_cases h:b=j
  ·refine⟨⟨g,0,none⟩,by simp [h],λt u v=>?_⟩;have K:news.length=0:=by rw[d];omega
   rw[List.length_eq_zero_iff.1 K] at v;simp at v
  ·exact⟨⟨g,(j)*5,none⟩,by simp [h],λt u v=>by rw[Addr.add_lit];exact o t u v⟩
 have W:Hid (news.length=(n-(j))*5):=d;have X:Hid (∀u∈news,u.oneCell'=true):=m;have Y:Hid (i*5+news.length≤a.size):=k;have I:Hid (w.drew.heap[g]? =some (.cells a 59 (0,0))):=x;obtain⟨p,q⟩: ∃p,p=w.drew.setRow g (a.toList.take (i*5)++news++a.toList.drop (i*5+news.length)).toArray:=⟨_,rfl⟩;have G:Hid (p=w.drew.setRow g (a.toList.take (i*5)++news++a.toList.drop (i*5+news.length)).toArray):=q;obtain⟨c,f⟩: ∃c,c=(a.toList.take (i*5)++news++a.toList.drop (i*5+news.length)).toArray:=⟨_,rfl⟩;have y:c.size=a.size:=by
  rw[f];simp only[Wb,U4,U5,Vb,Array.length_toList];omega
 have l:p.heap[g]? =some (.cells c 59 (0,0)):=by rw[q,←f];exact setRow_heap _ g a _ _ _ I.out
 obtain⟨z,r⟩: ∃z,z=p.setRow g (c.toList.take ((i+(n-j))*5)++(U2 (n-(i+(n-j))) dJ.z).flatten++c.toList.drop ((i+(n-j))*5+(n-(i+(n-j)))*5)).toArray:=⟨_,rfl⟩;have O: ∀J,(Builtin.clear_ #[41] J #[.slice (some ⟨g,(i+(n-j))*5,none⟩) (n-(i+(n-j))) (b-(i+(n-j)))]).run UZ p= .ok (.tuple #[]) z:=λJ=>by
  rw[r];exact Dg dJ.hT l Om (by show _+_*5≤_;rw[y];omega) (λu v=>by
   simp only[dJ,Wi,VU,or_false] at v;rcases v with rfl | rfl | rfl | rfl | rfl<;>rfl)
 have L:Hid (z=p.setRow g (c.toList.take ((i+(n-j))*5)++(U2 (n-(i+(n-j))) dJ.z).flatten++c.toList.drop ((i+(n-j))*5+(n-(i+(n-j)))*5)).toArray):=r;have M:Hid (c=(a.toList.take (i*5)++news++a.toList.drop (i*5+news.length)).toArray):=f;clear q o d m k x r l y f
 go_enter Tryz.func259,Tryz.ntmps259
 go_wp2_with fail
 go_region_law_o (refine Df rfl (.tmp 22) (.tmp 25) 41 rfl 59 V 5 dJ.hT.ht B D g i b a I.out (by simp [Act.eval,Act.put]) A (n-(j)) (b-(j)) news (by simp [Act.eval,Act.put]) W.out s.out X.out Om Y.out ?_;rw[←G.out])
 go_wp2
 go_ret
 refine⟨by rw[show n-(j-i)=i+(n-j) by omega];rfl,?_⟩;rw[L.out,G.out,M.out]
theorem Ox(A B C Z a:List Value)(h:B.length=a.length):
  ((A++(B++(C++Z))).take A.length++C++(A++(B++(C++Z))).drop (A.length+C.length)).take (A.length+C.length)++a++((A++(B++(C++Z))).take A.length++C++(A++(B++(C++Z))).drop (A.length+C.length)).drop (A.length+C.length+a.length)=A++C++(a++Z):=by
 have b:(A++(B++(C++Z))).take A.length=A:=List.take_left;have c:(A++(B++(C++Z))).drop (A.length+C.length)=(B++C).drop C.length++Z:=by
  rw[List.drop_append,List.drop_eq_nil_of_le Om,List.nil_append,Nat.add_sub_cancel_left,←Vn B,List.drop_append_of_le_length (by rw[U4];omega)]
 have d:((B++C).drop C.length).length=a.length:=by rw[Vb,U4];omega
 rw[b,c];have e:(A++C++((B++C).drop C.length++Z)).take (A.length+C.length)=A++C:=VW (by rw[U4]);have f:(A++C++((B++C).drop C.length++Z)).drop (A.length+C.length+a.length)=Z:=by
  rw[←Vn (A++C)];exact VX (by rw[U4,U4,d])
 rw[e,f,Vn (A++C)]
theorem Dh{P:Program}{f:FuncId}{α:Type}(K:Kd P α){v:Value}{xs:List α}{i:Nat}(N:Enters P f)(C:i<xs.length)
  (o: ∀(g k:Nat) (w:World) (a:Array Value) (news:List Value),xs.length≤k→w.heap[g]? =some (.cells a K.T (0,0))→news.length=(xs.length-(i+1))*K.k→(∀u∈news,u.oneCell'=true)→(∀t u,news[t]? =some u→w.cell? ⟨g,(i+1)*K.k+t,none⟩=some u)→i*K.k+news.length≤a.size→xs.length*K.k≤a.size→
   Calls P f #[.slice (some ⟨g,0,none⟩) xs.length k,.int .i64 (i:Int),.int .i64 ((i+1:Nat):Int)] w λe w'=>e= .returned (.slice (some ⟨g,0,none⟩) (xs.length-(i+1-i)) k)∧w'=(w.drew.setRow g (a.toList.take (i*K.k)++news++a.toList.drop (i*K.k+news.length)).toArray).setRow g ((a.toList.take (i*K.k)++news++a.toList.drop (i*K.k+news.length)).toArray.toList.take ((i+(xs.length-(i+1)))*K.k)++(U2 (xs.length-(i+(xs.length-(i+1)))) K.z).flatten++(a.toList.take (i*K.k)++news++a.toList.drop (i*K.k+news.length)).toArray.toList.drop ((i+(xs.length-(i+1)))*K.k+(xs.length-(i+(xs.length-(i+1))))*K.k)).toArray):
  aa P f #[v,.int .i64 (i:Int),.int .i64 ((i+1:Nat):Int)] [sl K v xs] [0] (λE=>[sl K (E.val 0) (xs.eraseIdx i)]) (λE=>E.val 0):=by
 refine⟨N,λw cs R Q=>?_⟩;obtain⟨bs,cs,rfl,y,l⟩:=cU R;have l:=mx l;subst l;obtain⟨g,r,rfl,rfl⟩: ∃g r,v= .slice (some ⟨g,0,none⟩) xs.length (xs.length+r)∧bs=[(g,.cells (bA (aj K.en xs) K.z r) K.T (0,0))]:=by
  rcases y with⟨rfl,_,_⟩ | h
  ·cases C
  ·exact h
 have m:w.heap[g]? =some (.cells (bA (aj K.en xs) K.z r) K.T (0,0)):=Q.obj (g,_) (by simp);have F:=K.hz
 have hA:(aj K.en (xs.take i)).length=i*K.k:=fq K.hk (by rw[U5];omega);have hC:(aj K.en (xs.drop (i+1))).length=(xs.length-(i+1))*K.k:=fq K.hk (by rw[Vb]);have hB:(K.en xs[i]).length=K.z.length:=(K.hk _).trans F;have j:(bA (aj K.en xs) K.z r).toList=aj K.en (xs.take i)++(K.en xs[i]++(aj K.en (xs.drop (i+1))++(U2 r K.z).flatten)):=by
  have e:xs=xs.take i++(xs[i]::xs.drop (i+1)):=by rw[←VE C,List.take_append_drop]
  have A:aj K.en xs=aj K.en (xs.take i)++(K.en xs[i]++aj K.en (xs.drop (i+1))):=by
   conv=>lhs;rw[e]
   rw[jL];rfl
  unfold bA;show aj K.en xs++_=_;rw[A,Vn,Vn]
 have G:(xs.length-(i+1))*K.k+i*K.k+K.k=xs.length*K.k:=by
  have:xs.length=(xs.length-(i+1))+i+1:=by omega
  conv=>rhs;rw[this]
  rw[Vq,Vq,V7]
 have s:(bA (aj K.en xs) K.z r).size=xs.length*K.k+r*K.k:=by
  rw[←Array.length_toList];unfold bA;rw[U4,fq K.hk rfl,qb,←F]
 have B:=o g (xs.length+r) w (bA (aj K.en xs) K.z r) (aj K.en (xs.drop (i+1))) Om m hC (zV K.one) (λt u H=>by
  have M:(bA (aj K.en xs) K.z r).toList[(i+1)*K.k+t]? =some u:=by
   rw[j,Vh (by rw[hA,Vq];omega),hA,Vh (by rw[K.hk,Vq];omega),K.hk,show(i+1)*K.k+t-i*K.k-K.k=t by rw[Vq];omega];have D:=(List.getElem?_eq_some_iff.1 H).1;rw[Ve D];exact H
  rw[cell_of_row w g _ _ _ _ m,←Array.getElem?_toList];exact M) (by rw[hC,s];omega) (by rw[s];omega)
 refine(callsIn_wide (n:=6)).1 ((callsIn_wide.2 B).mono λe w' O=>?_);obtain⟨rfl,rfl⟩:=O;have q:(xs.eraseIdx i).length=xs.length-1:=by rw[List.length_eraseIdx,ALifp C]
 have p:(((bA (aj K.en xs) K.z r).toList.take (i*K.k)++aj K.en (xs.drop (i+1))++(bA (aj K.en xs) K.z r).toList.drop (i*K.k+(aj K.en (xs.drop (i+1))).length)).toArray.toList.take ((i+(xs.length-(i+1)))*K.k)++(U2 (xs.length-(i+(xs.length-(i+1)))) K.z).flatten++((bA (aj K.en xs) K.z r).toList.take (i*K.k)++aj K.en (xs.drop (i+1))++(bA (aj K.en xs) K.z r).toList.drop (i*K.k+(aj K.en (xs.drop (i+1))).length)).toArray.toList.drop ((i+(xs.length-(i+1)))*K.k+(xs.length-(i+(xs.length-(i+1))))*K.k)).toArray=bA (aj K.en (xs.eraseIdx i)) K.z (r+1):=by
  have J:xs.length-(i+(xs.length-(i+1)))=1:=by omega
  have A:(i+(xs.length-(i+1)))*K.k=(aj K.en (xs.take i)).length+(aj K.en (xs.drop (i+1))).length:=by rw[hA,hC,Vq]
  have L:(U2 1 K.z).flatten=K.z:=by simp
  rw[J,A,←hA,j,V7,L,F,List.toList_toArray,Ox _ _ _ _ _ hB];unfold bA;rw[List.eraseIdx_eq_take_drop_succ,jL,VN,Vm]
 rw[p];refine⟨ab.ov _,[[(g,.cells (bA (aj K.en (xs.eraseIdx i)) K.z (r+1)) K.T (0,0))]],rfl,⟨.inr ⟨g,r+1,?_,rfl⟩,trivial⟩,?_⟩
 ·show Value.slice _ _ _=_;rw[q,show xs.length-(i+1-i)=xs.length-1 by omega,show xs.length-1+(r+1)=xs.length+r by omega]
 ·have c:=a8.setRow (W:=w.drew) ((bA (aj K.en xs) K.z r).toList.take (i*K.k)++aj K.en (xs.drop (i+1))++(bA (aj K.en xs) K.z r).toList.drop (i*K.k+(aj K.en (xs.drop (i+1))).length)).toArray m;have d:=a8.setRow (bA (aj K.en (xs.eraseIdx i)) K.z (r+1)) (c.obj _ (List.mem_singleton.2 rfl));exact⟨d.os.trans c.os,d.tape.trans c.tape,d.output.trans c.output,Vj c.size d.size,by simpa using d.obj,λx I=>by simp at I;left;simp [I],by simp,λb y z=>by
   have z:b∉[g]:=by simpa using z
   exact(d.far b (Nat.lt_of_lt_of_le y c.size) z).trans (c.far b y z)⟩
theorem Oy(v:Value)(xs:List Re)(i:Nat)(k:i<xs.length):aa UZ 259 #[v,iN i,iN (i+1)] [eF v xs] [0] (λE=>[eF (E.val 0) (xs.eraseIdx i)]) (λE=>E.val 0):=
 Dh dJ (enters_of Tryz.func259 Kr rfl) k λg f w h e b j m l d c a=>Ow g xs.length f i (i+1) w (Nat.lt_succ_self i) k b h j e m l d c a
end
end E
end Go.Proofs.YtbcodenfkijdnaaGreat
