/- WholeReserve, in 6 texts: part 3. For every input; no condition. -/
import Derived.Test.YtbcodenfkijdnaaGreatPr2
import Derived.WideShapes
import Derived.OpenShut
import Derived.WideOpen
import Derived.Deep.Slices
import Derived.IntWalk
import Derived.WalkKit
import Derived.Deep.RegionLaw
import Derived.Deep.LoopGhost
import Derived.Lib.SliceRun
import Derived.Lib.Walk
import Derived.Shelf.RegionOpenPlain
import Derived.Laws.AppendOwn
set_option linter.unusedVariables false
set_option linter.unusedSimpArgs false
set_option maxRecDepth 100000
namespace Go.Proofs.YtbcodenfkijdnaaGreat
open Go Go.RowKit
open Go.Proofs.Tryz renaming prog→VA
open List renaming getD_eq_getElem?_getD→VB,range→VC,replicate→VD,getElem?_eq_getElem→VE,length_append→VF,length_take→VG,length_map→VH,length_drop→VM,length_range→VN,getElem?_append_left→VO,getElem?_append_right→VR,getElem?_eq_none→VS,length_set→VV,flatten_cons→VW,append_assoc→VX,length_replicate→VZ,getElem?_set→V1,flatten_append→V2,getElem?_take_of_lt→V3,range_succ→V4,getElem?_drop→V5,getElem?_cons_succ→V6,getElem?_map→V8,length_tail→Wb,append_nil→Wd,drop_eq_getElem_cons→Wf,ext_getElem?→Wg,getElem?_cons_zero→Wh,length_cons→Wi,map_append→Wk,drop_drop→Wm,getElem?_range→Wn,replicate_succ→Wo,take_add_one→Ws,foldl_append→Wt,not_mem_nil→Ww,take_left'→Wy,drop_left'→Wz,range'→WA,flatMap_singleton→WC,mem_append_left→WE,drop_replicate→WH,flatMap_append→WI,getElem_of_mem→WJ,mem_cons_self→WL,size_toArray→WN,range'_succ→WO,flatten_nil→WQ,foldl_cons→WR,mem_cons→WV
open Bool renaming and_eq_true→VI,or_eq_false_iff→VK,and_true→WW,or_false→WX
open Nat renaming mod_lt→VJ,mul_le_mul_right→VL,mul_comm→VP,mul_assoc→VQ,le_trans→VT,le_refl→VU,add_mul→V0,lt_of_le_of_lt→V7,zero_le→V9,div_lt_of_lt_mul→Wc,not_lt_zero→We,le_mul_of_pos_right→Wj,lt_or_ge→Wl,mul_le_mul→Wp,xor_lt_two_pow→Wq,zero_add→Wv,and_le_right→Wx,le_mul_of_pos_left→WD,succ_pos→WG,one_mul→WK,le_add_right→WS,succ_lt_succ→WT,div_le_self→WU,mul_succ→WZ,zero_mul→W4,succ_mul→W5
open Int renaming toNat_of_nonneg→VY,natCast_mul→WB
open Option renaming map_some→Wu
open Go.World renaming cells?_some→WM,cell?→WY
namespace E
section
open Go.Shelf
def kI:Kd VA Int:=⟨eI,[i6 0],74,3,0,1,λ_=>rfl,rfl,λ_=>rfl,dU.mk' Kr Kr rfl⟩
def jK(l:List Int):Int:=l.foldl max 0
def jF(l:List Int):Int:=l.foldl (λa k=>a+fe (k==1)) 0
theorem Cd{l:List Int}{k:Nat}(h:k<l.length):l.take (k+1)=l.take k++[l.getD k 0]:=by
 rw[Ws,VE h,VB,VE h];rfl
theorem Lw(l:List Int)(x:Int):jK (l++[x])=max (jK l) x:=by unfold jK;rw[Wt];rfl
theorem Lx(l:List Int)(x:Int):jF (l++[x])=jF l+fe (x==1):=by unfold jF;rw[Wt];rfl
theorem Ce(b:Bool):0≤fe b∧fe b≤1:=by cases b<;>decide
theorem Cg(l:List Int):0≤jF l∧jF l≤l.length:=by
 suffices h: ∀(l:List Int) (a:Int),a≤l.foldl (λa k=>a+fe (k==1)) a∧l.foldl (λa k=>a+fe (k==1)) a≤a+l.length by
  have:=h l 0;unfold jF;omega
 intro l
 induction l with
 | nil=>intro a;simp
 | cons x l ih=>
  intro a;have b:=ih (a+fe (x==1));have c:=Ce (x==1);rw[WR,Wi];push_cast;omega
theorem Ly{l:List Int}{k:Nat}(h:k<l.length):jK (l.take (k+1))=max (jK (l.take k)) (l.getD k 0):=by rw[Cd h,Lw]
theorem Lz{l:List Int}{k:Nat}(h:k<l.length):jF (l.take (k+1))=jF (l.take k)+fe (l.getD k 0==1):=by rw[Cd h,Lx]
attribute [local irreducible] jK jF fe
def iI(a:List Int):Int:=(bif (jK a) != 1 then 0 else(jF a))
theorem Ch(v:Value)(a:List Int)(u:a.length≤1000):aa VA 152 #[v] [.p (aH eI v a)] [] N0 (λ_=> .agg #[i6 (jK a),i6 (iI a)]):=by
 refine fO Tryz.func152 0 rfl λg e=>fG Tryz.func152 λw r=>ra (λf=>[(2,pt (B0 f) 0)]) (λf=>[ob (B0 f) #[i6 0,i6 0] 79]) λf=>ra (λb=>[(3,pt (B0 b) 0)]) (λb=>[ob (B0 b) #[i6 0,i6 0] 79]) λb=>r0 [(1,eD e.1 0)] [(6,v),(7,iN a.length),(8,i6 0)] [] ?_;refine lq (λk=>k≤a.length) (λk=>[(8,iN k)]) (λk L=>L.set 2 (ob (B0 b) #[i6 (jK (a.take k)),i6 (jF (a.take k))] 79)) (λk=>a.length-k) 0 Om Kr (by rw[List.take_zero,show jK []=0 by unfold jK;rfl,show jF []=0 by unfold jF;rfl];kernel_rfl) (λk q=>?_);have m:=Cg (a.take k);have n:(a.take k).length≤k:=by rw[VG];omega
 have o:=Ce (a.getD k 0==1);refine r0 [] [(9,.bool (decide ((k:Int)<(a.length:Int))))] [] ?_;refine b0 (k:Int) (a.length:Int) (λj i=>?_) λj i=>?_
 ·exact r0 [(0,fa e.1 0 k 1),(1,iE kI e.1 0 k 0)] [(5,i6 (a.getD k 0))] [] (rs [(1,.l 2),(3,.t (tv (Builtin.max_ #[3,3] 3 #[i6 (jK (a.take k)),i6 (a.getD k 0)]) (λ_=>qu _ _ _ _))),(5,.s 2)] 2 (ob (B0 b) #[i6 (max (jK (a.take k)) (a.getD k 0)),i6 (jF (a.take k))] 79) (rs [(1,.l 2),(4,.c [] [] (BZ ((a.getD k 0)==1))),(5,aI (jF (a.take k)) ((fe ((a.getD k 0)==1))) Om),(7,.s 2)] 2 (ob (B0 b) #[i6 (max (jK (a.take k)) (a.getD k 0)),i6 ((jF (a.take k))+(fe ((a.getD k 0)==1)))] 79) (r0 [(0,ad k 1)] [(8,iN (k+1))] [8] (le (k+1) Om Om Kr [0,1,2] (by rw[Ly Om,Lz Om];kernel_rfl)))))
 obtain rfl:k=a.length:=by omega
 refine cl [.c g,ob (B0 f) #[i6 0,i6 0] 79,ob (B0 b) #[i6 (jK a),i6 (jF a)] 79] (by rw[List.take_length];kernel_rfl) (lx (r0 [(1,.l 2)] [(27,.bool ((jK a) != 1))] [] ?_));refine cJ ((jK a) != 1) N0 (λc=>[.c g,ob (B0 f) #[i6 0,i6 0] 79,ob (B0 b) #[i6 (jK a),i6 (bif c then 0 else(jF a))] 79]) (λd=>?_) (λd=>?_) ?_
 ·have h:=bne_iff_ne.1 d;refine rs [(1,.s 2)] 2 (ob (B0 b) #[i6 (jK a),i6 0] 79) ?_;exact cm Kr [0,1,2] Kr
 ·have h:=wo d;exact cm Kr [0,1,2] Kr
 exact rs [(0,.l 2),(1,.s 1)] 1 (ob (B0 f) #[i6 (jK a),i6 (bif (jK a) != 1 then 0 else(jF a))] 79) (lf ab.zero [] [(0,0)] [1])
def ik(h:List UInt8)(k:Nat):List UInt8:=h.take (32*k)++VD (64-32*k) 0
theorem LA{h:List UInt8}(a:h.length=64){k:Nat}(b:k≤2):(ik h k).length=64:=by unfold ik;rw[VF,VG,VZ,a];omega
theorem LB(h:List UInt8):ik h 0=VD 64 0:=rfl
theorem LC{h:List UInt8}(a:h.length=64):ik h 2=h:=by unfold ik;rw[List.take_of_length_le Om,show 64-32*2=0 from rfl,List.replicate_zero,Wd]
theorem LD{h:List UInt8}(b:h.length=64){k:Nat}(c:k<2):(ik h k).take (32*k)++(h.drop (k*32)).take 32++(ik h k).drop (32*k+32)=ik h (k+1):=by
 unfold ik;have a:(h.take (32*k)).length=32*k:=by rw[VG];omega
 rw[Wy a,←Wm,Wz a,WH,VP k 32,←List.take_add,show 32*k+32=32*(k+1) by omega,show 64-32*k-32=64-32*(k+1) by omega]
attribute [local irreducible] ik
theorem LF(h:List UInt8)(a:h.length=64):aa VA 198 #[.agg (rB 64 h).toArray] [] [] N0 (λ_=> .agg (rB 64 h).toArray):=by
 refine fG Tryz.func198 λw p=>ra (λb=>[(1,pt (B0 b) 0),(2,pt (B1 b) 0)]) (λb=>[ob (B0 b) (rB 64 h).toArray 324,ob (B1 b) (rB 64 z6).toArray 43]) λb=>ra (λc=>[(3,pt (B0 c) 0)]) (λc=>[ob (B0 c) (rB 64 z6).toArray 43]) λc=>r0 [(0,.l 0)] [(6,.agg (rB 64 h).toArray),(7,i6 0)] [] ?_;refine lq (λk=>k≤2) (λk=>[(7,iN k)]) (λk L=>L.set 2 (ob (B0 c) (rB 64 (ik h k)).toArray 43)) (λk=>2-k) 0 Om Kr (by rw[LB];kernel_rfl) (λk j=>?_);have g:=LA a j;refine r0 [] [(8,.bool (decide ((k:Int)<2)))] [] ?_;refine b0 (k:Int) 2 (λo i=>?_) λo i=>?_
 ·exact rr (λ_=>[(1,.t (tv (Instr.index 324 (.agg (rB 64 h).toArray) (iN k)) (λ_=>G9 (n:=2) (m:=32) (N:=64) (e:=267) Kr (λ_=>rfl) Om rfl a))),(4,.s 3)]) (λf=>[(5,pt (B2 f) 0),(4,iN k)]) [] (λf L=>L++[ob (B2 f) (rB 32 ((h.drop (k*32)).take 32)).toArray 267]) λf=>rs [(1,ml 32 k),(2,aL 43 (B0 c) 64 1 (32*k)),(3,aS 267 (B2 f) 32 1),(4,.m (tK kB 2 (B0 c) ((32*k)*1) (64-(32*k)) (64-(32*k)) (rB 64 (ik h k)).toArray (rB 64 ((ik h k).take (32*k)++((h.drop (k*32)).take 32)++(ik h k).drop ((32*k)+32))).toArray 43 191 191 3 (ob (B2 f) (rB 32 ((h.drop (k*32)).take 32)).toArray 267) (.slice (some ⟨(f 2).y 0,0,none⟩) 32 32) ((h.drop (k*32)).take 32) (λ_ h=>by rw[show _=_ from h];exact ot (λ_=>rfl) (by rw[VG,VM,a];omega)) (by rw[(show((h.drop (k*32)).take 32).length=32 from(by rw[VG,VM,a];omega))];omega) (by rw[WN,jZ];rw[(show((h.drop (k*32)).take 32).length=32 from(by rw[VG,VM,a];omega))];omega) (by rw[Nat.mul_one];exact ALca List.toArray (qt (d:=0) (λ_=>rfl) (show(ik h k).length=64 by(simp only[LL,g,a];done)) (show((h.drop (k*32)).take 32).length=32 from(by rw[VG,VM,a];omega)) Om))))] 2 (ob (B0 c) (rB 64 ((ik h k).take (32*k)++((h.drop (k*32)).take 32)++(ik h k).drop ((32*k)+32))).toArray 43) (r0 [(0,ad k 1)] [(7,iN (k+1))] [7] (le (k+1) Om Om Kr [0,1,2] (by rw[←LD a Om];kernel_rfl)))
 obtain rfl:k=2:=by omega
 exact cl [ob (B0 b) (rB 64 h).toArray 324,ob (B1 b) (rB 64 z6).toArray 43,ob (B0 c) (rB 64 h).toArray 43] (by rw[LC a];kernel_rfl) (lx (rs [(0,.l 2),(1,.s 1)] 1 (ob (B1 b) (rB 64 h).toArray 43) (lf ab.zero [] [] [1])))
theorem Ci(ys:List UInt8): ∀k,k≤8→a1 (ys.take 8) 0 k=a1 ys 0 k
 | 0,_=>rfl
 | k+1,h=>by
  rw[xr,xr,Ci ys k Om];rw[show(ys.take 8).getD k 0=ys.getD k 0 by rw[VB,VB,V3 Om]]
theorem LH(v:Value)(ys:List UInt8)(a:8≤ys.length):aa VA 228 #[gD v 0 8 1] [.p (aH eB v ys)] [] N0 (λ_=> .int .u64 ((a1 ys 0 8:Nat):Int)):=by
 rw[←Ci ys 8 (VU _)];exact aa.at (Lj (gD v 0 8 1) (ys.take 8) (by rw[VG];omega)) (bM (λ_ h=>aH.take (en:=eB) (k:=1) (λ_=>rfl) h a) λ_ h=>h)
attribute [local irreducible] du di bN gb a1 gI aZ
def xw:List Int:=[-1,64,65, -1,66, -1, -1,0,67, -1, -1,1, -1,2,3, -1,68, -1, -1,4, -1,5,6, -1, -1,7,8, -1,9, -1, -1,56,69, -1, -1,10, -1,11,12, -1, -1,13,14, -1,15, -1, -1,57, -1,16,17, -1,18, -1, -1,58,19, -1, -1,59, -1,60,61, -1,70, -1, -1,20, -1,21,22, -1, -1,23,24, -1,25, -1, -1,62, -1,26,27, -1,28, -1, -1,63,29, -1, -1,72, -1,73, -1, -1, -1,30,31, -1,32, -1, -1, -1,33, -1, -1, -1, -1, -1, -1, -1,34, -1, -1, -1, -1, -1, -1, -1, -1, -1, -1, -1, -1, -1, -1, -1,71, -1, -1,35, -1,36,37, -1, -1,38,39, -1,40, -1, -1, -1, -1,41,42, -1,43, -1, -1, -1,44, -1, -1, -1, -1, -1, -1, -1, -1,45,46, -1,47, -1, -1, -1,48, -1, -1, -1, -1, -1, -1, -1,49, -1, -1, -1, -1, -1, -1, -1, -1, -1, -1, -1, -1, -1, -1, -1, -1,50,51, -1,52, -1, -1, -1,53, -1, -1, -1, -1, -1, -1, -1,54, -1, -1, -1, -1, -1, -1, -1, -1, -1, -1, -1, -1, -1, -1, -1,55, -1, -1, -1, -1, -1, -1, -1, -1, -1, -1, -1, -1, -1, -1, -1, -1, -1, -1, -1, -1, -1, -1, -1, -1, -1, -1, -1, -1, -1, -1, -1]
theorem LJ:bQ 10=xw:=by decide+kernel
theorem hp: ∀k:UInt8,(du k (bQ 10)==1)=true→0≤di k (bQ 10):=by
 have h: ∀n:Nat,n<256→(du (UInt8.ofNat n) xw==1)=true→0≤di (UInt8.ofNat n) xw:=by decide+kernel
 intro k;have:=h k.toNat k.toNat_lt;rw[LJ];rwa [UInt8.ofNat_toNat] at this
theorem l8(x:Int)(b:Bool):(dy x b).length=3:=by cases b<;>rfl
theorem LK{b:Bool}{X Y:List UInt8}(a:X.length=36)(c:Y.length=36):(bif b then X.drop 4 else Y.drop 4).length=32:=by cases b<;>simp [a,c]
theorem xx{d v:List UInt8}(a:d.length=36):(gI d v).length=32:=by unfold gI;exact LK (by rw[VV];exact a) a
attribute [local irreducible] bD bQ Vn aO aV dy fc cQ eJ
def j5(ys:List UInt8)(x:Int):Int:=(bif (du ((bN (a1 ys 0 8) ((pc ((x%8388608).toNat)%2:Nat):Int) 0 (bD 10))^^^(ys.getD 8 0)) (bQ 10))==0 then 0 else(bif (du ((bN (a1 ys 0 8) ((pc ((x%8388608).toNat)%2:Nat):Int) 0 (bD 10))^^^(ys.getD 8 0)) (bQ 10))==1 then 1 else(bif (du ((bN (a1 ys 0 8) ((pc ((x%8388608).toNat)%2:Nat):Int) 0 (bD 10))^^^(ys.getD 8 0)) (bQ 10))==2 then 2 else 3)))
theorem LM(l i o:Nat)(v:Value)(ys:List UInt8)(n:ys.length=9)(x:Int):aa VA 195 #[pt l 0,v,i6 x] [ob l #[pt i 0,pt o 0] 242,ob i (rB 74 (bD 10)++rI 256 (bQ 10)).toArray 298,.p (aH eB v ys)] [] N0 (λ_=> .tuple #[u6 (((gb (a1 ys 0 8) (ys.getD 8 0) ((pc ((x%8388608).toNat)%2:Nat):Int) (bD 10) (bQ 10)):Nat):Int),i6 (j5 ys x)]):=by
 refine fO Tryz.func195 2 rfl λd a=>fG Tryz.func195 λw r=>r0 [] [(6,u6 0),(7,i6 0)] [] (rr (λq=>[(3,.m (ld 0 (pt i 0))),(5,.m (AZ 2 (.c d) 8 1 (cP a) Om)),(6,.c [2] [] (aa.at (rd':=[.c d]) (LH v ys Om) (ei a (λ_ h=>h)))),(8,fa a.1 2 8 1),(9,iE kB a.1 2 8 0),(11,.c [] [] (uc x)),(12,.c [1] [] (KZ i (a1 ys 0 8) (ys.getD 8 0) ((pc ((x%8388608).toNat)%2:Nat):Int) (bD 10) (bQ 10) (qS ys 0 (VU 8)) (by(simp only[LL,jt,ju,n];done)) (by(simp only[LL,jt,ju,n];done)) hp)),]) (λ_=>[(8,u6 (((gb (a1 ys 0 8) (ys.getD 8 0) ((pc ((x%8388608).toNat)%2:Nat):Int) (bD 10) (bQ 10)):Nat):Int)),(9,i6 (du ((bN (a1 ys 0 8) ((pc ((x%8388608).toNat)%2:Nat):Int) 0 (bD 10))^^^(ys.getD 8 0)) (bQ 10)))]) [] (λ_ L=>L) λq=>r0 [] [(28,i6 (du ((bN (a1 ys 0 8) ((pc ((x%8388608).toNat)%2:Nat):Int) 0 (bD 10))^^^(ys.getD 8 0)) (bQ 10)))] [] (r0 [] [(29,.bool ((du ((bN (a1 ys 0 8) ((pc ((x%8388608).toNat)%2:Nat):Int) 0 (bD 10))^^^(ys.getD 8 0)) (bQ 10))==0))] [] ?_));refine cO (du ((bN (a1 ys 0 8) ((pc ((x%8388608).toNat)%2:Nat):Int) 0 (bD 10))^^^(ys.getD 8 0)) (bQ 10)) 0 (λf j=>?_) λf j=>?_
 ·exact r0 [] [(6,u6 (((gb (a1 ys 0 8) (ys.getD 8 0) ((pc ((x%8388608).toNat)%2:Nat):Int) (bD 10) (bQ 10)):Nat):Int)),(7,i6 0)] [6,7] (ak (.tuple #[u6 (((gb (a1 ys 0 8) (ys.getD 8 0) ((pc ((x%8388608).toNat)%2:Nat):Int) (bD 10) (bQ 10)):Nat):Int),i6 0]) ab.zero (by((try simp only[j5]);(repeat (first | rw[f] | rw[ALct])))<;>rfl) [] [(0,0),(1,1),(2,2)] [])
 refine r0 [] [(32,.bool ((du ((bN (a1 ys 0 8) ((pc ((x%8388608).toNat)%2:Nat):Int) 0 (bD 10))^^^(ys.getD 8 0)) (bQ 10))==1))] [] ?_;refine cO (du ((bN (a1 ys 0 8) ((pc ((x%8388608).toNat)%2:Nat):Int) 0 (bD 10))^^^(ys.getD 8 0)) (bQ 10)) 1 (λg k=>?_) λg k=>?_
 ·exact r0 [] [(6,u6 (((gb (a1 ys 0 8) (ys.getD 8 0) ((pc ((x%8388608).toNat)%2:Nat):Int) (bD 10) (bQ 10)):Nat):Int)),(7,i6 1)] [6,7] (ak (.tuple #[u6 (((gb (a1 ys 0 8) (ys.getD 8 0) ((pc ((x%8388608).toNat)%2:Nat):Int) (bD 10) (bQ 10)):Nat):Int),i6 1]) ab.zero (by((try simp only[j5]);(repeat (first | rw[f] | rw[g] | rw[ALct] | rw[ALcf])))<;>rfl) [] [(0,0),(1,1),(2,2)] [])
 refine r0 [] [(35,.bool ((du ((bN (a1 ys 0 8) ((pc ((x%8388608).toNat)%2:Nat):Int) 0 (bD 10))^^^(ys.getD 8 0)) (bQ 10))==2))] [] ?_;refine cO (du ((bN (a1 ys 0 8) ((pc ((x%8388608).toNat)%2:Nat):Int) 0 (bD 10))^^^(ys.getD 8 0)) (bQ 10)) 2 (λb e=>?_) λb e=>?_
 ·exact r0 [] [(6,u6 (((gb (a1 ys 0 8) (ys.getD 8 0) ((pc ((x%8388608).toNat)%2:Nat):Int) (bD 10) (bQ 10)):Nat):Int)),(7,i6 2)] [6,7] (ak (.tuple #[u6 (((gb (a1 ys 0 8) (ys.getD 8 0) ((pc ((x%8388608).toNat)%2:Nat):Int) (bD 10) (bQ 10)):Nat):Int),i6 2]) ab.zero (by((try simp only[j5]);(repeat (first | rw[f] | rw[g] | rw[b] | rw[ALct] | rw[ALcf])))<;>rfl) [] [(0,0),(1,1),(2,2)] [])
 exact r0 [] [(6,u6 (((gb (a1 ys 0 8) (ys.getD 8 0) ((pc ((x%8388608).toNat)%2:Nat):Int) (bD 10) (bQ 10)):Nat):Int)),(7,i6 3)] [6,7] (ak (.tuple #[u6 (((gb (a1 ys 0 8) (ys.getD 8 0) ((pc ((x%8388608).toNat)%2:Nat):Int) (bD 10) (bQ 10)):Nat):Int),i6 3]) ab.zero (by((try simp only[j5]);(repeat (first | rw[f] | rw[g] | rw[b] | rw[ALcf])))<;>rfl) [] [(0,0),(1,1),(2,2)] [])
end
section
open Go.Shelf
theorem LN(a g:Nat)(u:Value)(d v:List UInt8)(c:d.length=36)(hv:v.length=3)(D:List UInt8)(b:gI d v=D)(k:Nat)(e:fc (aZ d v)=k)(p:Int)(hp:cQ (aZ d v)=p)(q:UInt8)(f:eJ (aZ d v)=q):aa VA 229 #[pt a 0,.agg (rB 36 d).toArray,.agg (rB 3 v).toArray] [ob a #[pt g 0,u] 309,ob g (rB 255 aO++rN 256 aV).toArray 312,.p (aH eB u Vn)] [] N0 (λ_=> .tuple #[.agg (rB 32 D).toArray,.agg #[iN k,i6 p,u1 (q.toNat:Int)]]):=by
 subst b e hp f;exact KU a g u d v c hv
def oB(a:Nat)(b:Int)(vl:UInt8):Int:=(bif (a:Int)==0 then 0 else(bif (a:Int)==1 then 1 else(bif (((a:Int)==2)&&(b==38))&&((vl.toNat:Int)==128) then 2 else 3)))
theorem LP(G I j g:Nat)(u v:Value)(ys:List UInt8)(F:ys.length=36)(x:Int)(h0: -9223372036854775808≤x)(h1:x≤9223372036854775807)(D:List UInt8)(H:gI ys (dy x false)=D)(y:D.length=32)(a:Nat)(z:fc (aZ ys (dy x false))=a)(e:Int)(A:cQ (aZ ys (dy x false))=e)(vl:UInt8)(C:eJ (aZ ys (dy x false))=vl):aa VA 197 #[pt G 0,v,i6 x] [ob G #[pt I 0,pt j 0] 242,ob j #[pt g 0,u] 309,ob g (rB 255 aO++rN 256 aV).toArray 312,.p (aH eB u Vn),.p (aH eB v ys)] [] N0 (λ_=> .tuple #[.agg (rB 32 D).toArray,i6 (oB a e vl)]):=by
 refine fO Tryz.func197 3 rfl λq B=>fO Tryz.func197 4 rfl λi n=>fG Tryz.func197 λw M=>ra (λb=>[(6,pt (B0 b) 0),(7,i6 0)]) (λb=>[ob (B0 b) (rB 32 (VD 32 0)).toArray 267]) λb=>rr (λ_=>[(3,.m (ld 0 (pt j 0))),(5,.m (A2 4 (.c i) 36 (cP n.1) Dc Om)),(6,.m (A3 4 (.c i) 36 (rB 36 ys) (cP n.1) (km F).symm Om (A4 (λ_=>rfl) F))),(8,.c [] [] (B8 x Om Om false)),(9,.c [1,2,3] [] (aa.at (rd':=[ob j #[pt g 0,u] 309,ob g (rB 255 aO++rN 256 aV).toArray 312,.c q]) (LN j g u ys (dy x false) (by(simp only[LL,l8,F,y];done)) Vm D H a z e A vl C) (aK (aK (ei B (λ_ h=>h)))))),(13,.m (al 6)),(14,.m (al 7)),(15,.s 6),(16,.s 7)]) (λf=>[(8,pt ((f 13).y 0) 0),(9,pt ((f 14).y 0) 0)]) [] (λf L=>L++[ob ((f 13).y 0) (rB 32 D).toArray 267,ob ((f 14).y 0) #[iN a,i6 e,u1 (vl.toNat:Int)] 368]) λf=>r0 [(1,.l 7)] [(23,.bool ((a:Int)==0))] [] ?_;refine cO (a:Int) 0 (λk r=>?_) λk r=>?_
 ·exact rr (λ_=>[(0,.l 6),(1,.s 5)]) (λ_=>[(7,i6 0)]) [7] (λ_ L=>L.set 5 (ob (B0 b) (rB 32 D).toArray 267)) λN=>ak (.tuple #[.agg (rB 32 D).toArray,i6 0]) ab.zero (by((try simp only[oB]);(repeat (first | rw[k] | rw[ALct])))<;>rfl) [] [(0,0),(1,1),(2,2),(3,3),(4,4)] [5]
 refine r0 [(1,.l 7)] [(28,.bool ((a:Int)==1))] [] ?_;refine cO (a:Int) 1 (λo t=>?_) λo t=>?_
 ·exact rr (λ_=>[(0,.l 6),(1,.s 5)]) (λ_=>[(7,i6 1)]) [7] (λ_ L=>L.set 5 (ob (B0 b) (rB 32 D).toArray 267)) λO=>ak (.tuple #[.agg (rB 32 D).toArray,i6 1]) ab.zero (by((try simp only[oB]);(repeat (first | rw[k] | rw[o] | rw[ALct] | rw[ALcf])))<;>rfl) [] [(0,0),(1,1),(2,2),(3,3),(4,4)] [5]
 refine r0 [(1,.m (ld 7 (iN a))),(5,.m (ld 7 (i6 e))),(10,.m (ld 7 (u1 (vl.toNat:Int)))),] [(33,.bool ((((a:Int)==2)&&(e==38))&&((vl.toNat:Int)==128)))] [] ?_;refine cB ((((a:Int)==2)&&(e==38))&&((vl.toNat:Int)==128)) (λd=>?_) λd=>?_
 ·exact rr (λ_=>[(0,.l 6),(1,.s 5)]) (λ_=>[(7,i6 2)]) [7] (λ_ L=>L.set 5 (ob (B0 b) (rB 32 D).toArray 267)) λJ=>ak (.tuple #[.agg (rB 32 D).toArray,i6 2]) ab.zero (by((try simp only[oB]);(repeat (first | rw[k] | rw[o] | rw[d] | rw[ALct] | rw[ALcf])))<;>rfl) [] [(0,0),(1,1),(2,2),(3,3),(4,4)] [5]
 exact rr (λ_=>[(0,.l 6),(1,.s 5)]) (λ_=>[(7,i6 3)]) [7] (λ_ L=>L.set 5 (ob (B0 b) (rB 32 D).toArray 267)) λK=>ak (.tuple #[.agg (rB 32 D).toArray,i6 3]) ab.zero (by((try simp only[oB]);(repeat (first | rw[k] | rw[o] | rw[d] | rw[ALcf])))<;>rfl) [] [(0,0),(1,1),(2,2),(3,3),(4,4)] [5]
def m0(ys:List UInt8)(x:Int):Int:=oB (fc (aZ ys (dy x false))) (cQ (aZ ys (dy x false))) (eJ (aZ ys (dy x false)))
theorem LQ(b c a g:Nat)(u v:Value)(ys:List UInt8)(d:ys.length=36)(x:Int)(h0: -9223372036854775808≤x)(h1:x≤9223372036854775807):aa VA 197 #[pt b 0,v,i6 x] [ob b #[pt c 0,pt a 0] 242,ob a #[pt g 0,u] 309,ob g (rB 255 aO++rN 256 aV).toArray 312,.p (aH eB u Vn),.p (aH eB v ys)] [] N0 (λ_=> .tuple #[.agg (rB 32 (gI ys (dy x false))).toArray,i6 (m0 ys x)]):=
 LP b c a g u v ys d x h0 h1 _ rfl (xx d) _ rfl _ rfl _ rfl
end
section
open Go.Shelf
def ff{α:Type}(d:α)(N:Nat)(f:Nat→α)(n:Nat):List α:=(VC N).map λi=>if i<n then f i else d
theorem m3{α:Type}(d:α)(N:Nat)(f:Nat→α)(n:Nat):(ff d N f n).length=N:=by unfold ff;rw[VH,VN]
theorem LR{α:Type}{d:α}{N:Nat}{f:Nat→α}{n i:Nat}(h:i<N):(ff d N f n).getD i d=if i<n then f i else d:=by
 unfold ff;rw[VB,V8,Wn h];rfl
theorem LS{α:Type}{d:α}{N:Nat}{f:Nat→α}{n:Nat}(h:n<N):(ff d N f n).set n (f n)=ff d N f (n+1):=by
 apply Wg;intro i;rw[V1];rcases Wl i N with a | a
 ·unfold ff;simp only[VH,VN,V8,Wn a,Wu];by_cases e:n=i
  ·subst e;rw[ALifp rfl,ALifp h,ALifp Om]
  ·rw[ALifn e];by_cases b:i<n
   ·rw[ALifp b,ALifp Om]
   ·rw[ALifn b,ALifn Om]
 ·rw[VS (l:=ff d N f (n+1)) (by rw[m3];exact a),VS (l:=ff d N f n) (by rw[m3];exact a),m3];rw[ALifn Om]
theorem LU{α:Type}(d:α)(N:Nat)(f:Nat→α):ff d N f 0=VD N d:=by
 apply Wg;intro i;rcases Wl i N with a | a
 ·unfold ff;simp [a]
 ·rw[VS (by rw[m3];exact a),VS (by simpa using a)]
def w9(xs:List UInt8)(k:Nat):List UInt8:=(xs.drop (9*k)).take 9
def oC(xs:List UInt8)(k:Nat):List UInt8:=(xs.drop (36*k)).take 36
def dW(xs:List UInt8)(x:Int)(k:Nat):Nat:=gb (a1 (w9 xs k) 0 8) ((w9 xs k).getD 8 0) ((pc ((x%8388608).toNat)%2:Nat):Int) (bD 10) (bQ 10)
def dK(xs:List UInt8)(x:Int)(k:Nat):Int:=j5 (w9 xs k) x
def cW(xs:List UInt8)(x:Int)(k:Nat):List UInt8:=gI (oC xs k) (dy x false)
def cK(xs:List UInt8)(x:Int)(k:Nat):Int:=m0 (oC xs k) x
theorem LV{d:Nat}{k:UInt8}{a:Int}{cl:List UInt8}{b:List Int}(h:d<18446744073709551616):gb d k a cl b<18446744073709551616:=by
 unfold gb;cases e:((du ((bN d a 0 cl)^^^k) b)==1)&&(decide ((di ((bN d a 0 cl)^^^k) b)<64)) with
 | false=>exact h
 | true=>
  rw[VI] at e;have c:=of_decide_eq_true e.2;rw[ALct,WK];exact Wq (n:=64) h (Nat.pow_lt_pow_right Dc Om)
theorem LW(xs:List UInt8)(x:Int)(k:Nat):dW xs x k<18446744073709551616:=LV (qS _ _ Dc)
theorem LX{N:Nat}{f:Nat→Nat}{n B:Nat}(hB:0<B)(h: ∀i,f i<B)(i:Nat):(ff 0 N f n).getD i 0<B:=by
 rcases Wl i N with a | a
 ·rw[LR a];split
  ·exact h i
  ·exact hB
 ·rw[VB,VS (by rw[m3];exact a)];exact hB
theorem Cj{xs:List UInt8}{k:Nat}(b:xs.length=72)(a:k<2):(oC xs k).length=36:=by unfold oC;rw[VG,VM];omega
theorem xy{f:Nat→List UInt8}{m:Nat}(h: ∀i,(f i).length=m)(k:Nat):((VC k).flatMap f).length=m*k:=by
 induction k with
 | zero=>rfl
 | succ k ih=>rw[V4,WI,VF,ih,WC,h,WZ]
theorem Ck{f:Nat→List UInt8}{m N:Nat}(h: ∀i,(f i).length=m){k:Nat}:
  ((VC k).flatMap f++VD (N-m*k) (0:UInt8)).take (m*k)++f k++((VC k).flatMap f++VD (N-m*k) (0:UInt8)).drop (m*k+m)=(VC (k+1)).flatMap f++VD (N-m*(k+1)) 0:=by
 have a:=xy h k;rw[Wy a,←Wm,Wz a,WH,V4,WI,WC,show N-m*k-m=N-m*(k+1) by rw[WZ];omega]
def fL(f:Nat→List UInt8)(k:Nat):List UInt8:=(VC k).flatMap f++VD (64-32*k) 0
theorem xz{f:Nat→List UInt8}(h: ∀i,(f i).length=32){k:Nat}(a:k≤2):(fL f k).length=64:=by
 unfold fL;rw[VF,xy h,VZ];omega
theorem LY{f:Nat→List UInt8}(h: ∀i,(f i).length=32){k:Nat}:(fL f k).take (0+k*32)++f k++(fL f k).drop (0+k*32+32)=fL f (k+1):=by
 have:=Ck (N:=64) h (k:=k);rw[Wv,VP k 32];exact this
theorem LZ(f:Nat→List UInt8):fL f 0=VD 64 0:=rfl
theorem L1{xs:List UInt8}{x:Int}{k:Nat}(h:(oC xs k).length=36):(cW xs x k).length=32:=xx h
def im(xs:List UInt8)(x:Int)(k:Nat):List UInt8:=if k<2 then cW xs x k else VD 32 0
theorem L2{xs:List UInt8}{x:Int}{k:Nat}(h:k<2):im xs x k=cW xs x k:=ALifp h
theorem uh{xs:List UInt8}(a:xs.length=72)(x:Int)(k:Nat):(im xs x k).length=32:=by
 unfold im
 split
 ·rename_i h;exact L1 (Cj a h)
 ·rfl
attribute [local irreducible] du di bN gb a1 gI aZ bD bQ Vn aO aV dy fc cQ eJ j5 m0 ff fL cp jK jF fe
theorem L3(i g j:Nat)(xs:List UInt8)(o:xs.length=72)(x:Int):aa VA 151 #[pt i 0,i6 1,.agg (rB 72 xs).toArray,i6 x] [ob i #[pt g 0,pt j 0] 242,ob g (rB 74 (bD 10)++rI 256 (bQ 10)).toArray 298] [] (λE=>[dg (E.val 0) ((VC 8).map (dK xs x))]) (λE=> .tuple #[.agg (rB 64 (cp 64 (jw (ff 0 8 (dW xs x) 8)) (8*8))).toArray,(E.val 0)]):=by
 refine fG Tryz.func151 λw u=>ra (λf=>[(6,pt (B0 f) 0),(8,pt (B1 f) 0),(9,.slice none 0 0)]) (λf=>[ob (B0 f) (rB 72 xs).toArray 217,ob (B1 f) (rB 64 z6).toArray 43]) λf=>r0 [] [(10,.slice none 0 0)] [] (rT [] 20 (ra (λe=>[(11,pt (B0 e) 0)]) (λe=>[ob (B0 e) (rW 8 (VD 8 0)).toArray 320]) λe=>r0 [] [(21,i6 0)] [] (cz kI ?_)));refine mP (λk _=>k≤8) (λk a=>[(21,iN k),(10,a)]) (λk a L=>(L.set 4 (ob (B0 e) (rW 8 (ff 0 8 (dW xs x) k)).toArray 320)).set 5 (dg a ((VC k).map (dK xs x)))) (λk _=>8-k) 0 (.slice none 0 0) Om Kr (by rw[LU];kernel_rfl) (λk a q=>?_);have r:((VC k).map (dK xs x)).length=k:=by rw[VH,VN]
 refine r0 [] [(22,.bool (decide ((k:Int)<8)))] [] ?_;refine b0 (k:Int) 8 (λp n=>?_) λp n=>?_
 ·exact r0 [] [(12,iN k)] [] (rr (λd=>[(1,.m (ls 2 (rB 72 xs))),(4,.c [] [6] (Cb xs (by(simp only[LL,m3,l7,o];done)) k Om)),(6,.c [0,1,6] [] (aa.at (rd':=[ob i #[pt g 0,pt j 0] 242,ob g (rB 74 (bD 10)++rI 256 (bQ 10)).toArray 298,bt ((d 4).val 0) ((xs.drop (9*k)).take 9)]) (LM i g j ((d 4).val 0) ((xs.drop (9*k)).take 9) (by(simp only[LL,m3,l7,o];omega)) x) (aK (aK (bM (λ_ h=>ar.sq h) (λ_ h=>h)))))),]) (λ_=>[(13,u6 (((gb (a1 ((xs.drop (9*k)).take 9) 0 8) (((xs.drop (9*k)).take 9).getD 8 0) ((pc ((x%8388608).toNat)%2:Nat):Int) (bD 10) (bQ 10)):Nat):Int)),(14,i6 (j5 ((xs.drop (9*k)).take 9) x))]) [] (λd L=>L++[bt ((d 4).val 0) ((xs.drop (9*k)).take 9)]) λd=>rs [(2,iA 320 .i64 (B0 e) 0 8 1 k),(3,wD 4 (B0 e) k 320 (u6 (((gb (a1 ((xs.drop (9*k)).take 9) 0 8) (((xs.drop (9*k)).take 9).getD 8 0) ((pc ((x%8388608).toNat)%2:Nat):Int) (bD 10) (bQ 10)):Nat):Int)) (rW 8 (ff 0 8 (dW xs x) k)) (rW 8 ((ff 0 8 (dW xs x) k).set k (gb (a1 ((xs.drop (9*k)).take 9) 0 8) (((xs.drop (9*k)).take 9).getD 8 0) ((pc ((x%8388608).toNat)%2:Nat):Int) (bD 10) (bQ 10)))) (jk Om) (GW (m3 ..)))] 4 (ob (B0 e) (rW 8 ((ff 0 8 (dW xs x) k).set k (gb (a1 ((xs.drop (9*k)).take 9) 0 8) (((xs.drop (9*k)).take 9).getD 8 0) ((pc ((x%8388608).toNat)%2:Nat):Int) (bD 10) (bQ 10)))).toArray 320) (rr (λ_=>[(2,.m (bs 7 1)),(3,fp kI (a) ((VC k).map (dK xs x)) 5 7 ([(j5 ((xs.drop (9*k)).take 9) x)]))]) (λb=>[(10,(b 3).val 0)]) [10] (λb L=>L.set 5 (dg ((b 3).val 0) (((VC k).map (dK xs x))++([(j5 ((xs.drop (9*k)).take 9) x)])))++[ob (B2 b) #[i6 (j5 ((xs.drop (9*k)).take 9) x)] 3]) λb=>r0 [(0,ad k 1)] [(21,iN (k+1))] [21] (kY (k+1) ((b 3).val 0) Om Om Kr [0,1,2,3,4,5] (by rw[←LS Om,V4,Wk];kernel_rfl))))
 obtain rfl:k=8:=by omega
 refine kZ ?_;exact rr (λ_=>[(0,.l 4),(1,.c [] [] (Lu (ff 0 8 (dW xs x) 8) (by(simp only[LL,m3,l7,o];done)) (LX Dc (LW xs x)))),(3,.s 3)]) (λ_=>[(9,a)]) [9] (λ_ L=>L.set 3 (ob (B1 f) (rB 64 (cp 64 (jw (ff 0 8 (dW xs x) 8)) (8*8))).toArray 43)) λt=>lf (.l [] [] [a]) [5] [(0,0),(1,1)] [3]
theorem L4(q v o g:Nat)(u:Value)(xs:List UInt8)(i:xs.length=72)(x:Int)(h0: -9223372036854775808≤x)(h1:x≤9223372036854775807):aa VA 151 #[pt q 0,i6 2,.agg (rB 72 xs).toArray,i6 x] [ob q #[pt v 0,pt o 0] 242,ob o #[pt g 0,u] 309,ob g (rB 255 aO++rN 256 aV).toArray 312,.p (aH eB u Vn)] [] (λE=>[dg (E.val 0) ((VC 2).map (cK xs x))]) (λE=> .tuple #[.agg (rB 64 (fL (im xs x) 2)).toArray,(E.val 0)]):=by
 refine fO Tryz.func151 3 rfl λr z=>fG Tryz.func151 λw D=>ra (λn=>[(6,pt (B0 n) 0),(8,pt (B1 n) 0),(9,.slice none 0 0)]) (λn=>[ob (B0 n) (rB 72 xs).toArray 217,ob (B1 n) (rB 64 z6).toArray 43]) λn=>r0 [] [(10,.slice none 0 0)] [] (rF [] 20 (ra (λj=>[(15,pt (B0 j) 0)]) (λj=>[ob (B0 j) (rB 64 z6).toArray 324]) λj=>r0 [] [(45,i6 0)] [] (cz kI ?_)));refine mP (λk _=>k≤2) (λk a=>[(45,iN k),(10,a)]) (λk a L=>(L.set 6 (ob (B0 j) (rB 64 (fL (im xs x) k)).toArray 324)).set 7 (dg a ((VC k).map (cK xs x)))) (λk _=>2-k) 0 (.slice none 0 0) Om Kr (by rw[LZ];kernel_rfl) (λk a y=>?_);have B:((VC k).map (cK xs x)).length=k:=by rw[VH,VN]
 have e:=xz (uh i x) y;refine r0 [] [(46,.bool (decide ((k:Int)<2)))] [] ?_;refine b0 (k:Int) 2 (λA t=>?_) λA t=>?_
 ·refine r0 [] [(16,iN k)] [] ?_;have d:(gI ((xs.drop (36*k)).take 36) (dy x false)).length=32:=xx (Cj i Om);exact rr (λb=>[(1,.m (ls 4 (rB 72 xs))),(4,.c [] [8] (Cc xs (by(simp only[LL,d,e,i];done)) k Om)),(6,.c [0,1,2,3,8] [] (aa.at (rd':=[ob q #[pt v 0,pt o 0] 242,ob o #[pt g 0,u] 309,ob g (rB 255 aO++rN 256 aV).toArray 312,.c r,bt ((b 4).val 0) ((xs.drop (36*k)).take 36)]) (LQ q v o g u ((b 4).val 0) ((xs.drop (36*k)).take 36) (by(simp only[LL,d,e,i];omega)) x Om Om) (aK (aK (aK (ei z (bM (λ_ h=>ar.sq h) (λ_ h=>h)))))))),(10,.m (al 9)),(11,.s 9)]) (λb=>[(17,pt ((b 10).y 0) 0),(18,i6 (m0 ((xs.drop (36*k)).take 36) x))]) [] (λb L=>L++[bt ((b 4).val 0) ((xs.drop (36*k)).take 36),ob ((b 10).y 0) (rB 32 (gI ((xs.drop (36*k)).take 36) (dy x false))).toArray 267]) λb=>rs [(1,.l 9),(2,iA 324 .i64 (B0 j) 0 2 32 k),(3,.m (sg 6 (B0 j) (0+k*32) 324 (rB 32 (gI ((xs.drop (36*k)).take 36) (dy x false))) (rB 64 (fL (im xs x) k)).toArray (rB 64 ((fL (im xs x) k).take (0+k*32)++(gI ((xs.drop (36*k)).take 36) (dy x false))++(fL (im xs x) k).drop (0+k*32+32))).toArray (Hb (λ_=>rfl) (show(fL (im xs x) k).length=64 by(simp only[LL,d,e,i];done)) (show(gI ((xs.drop (36*k)).take 36) (dy x false)).length=32 by(simp only[LL,d,e,i];done)) Om) (Hc (λ_=>rfl) Om) (Hd (λ_=>rfl) (show(gI ((xs.drop (36*k)).take 36) (dy x false)).length=32 by(simp only[LL,d,e,i];done)))))] 6 (ob (B0 j) (rB 64 ((fL (im xs x) k).take (0+k*32)++(gI ((xs.drop (36*k)).take 36) (dy x false))++(fL (im xs x) k).drop (0+k*32+32))).toArray 324) (rr (λ_=>[(2,.m (bs 10 1)),(3,fp kI (a) ((VC k).map (cK xs x)) 7 10 ([(m0 ((xs.drop (36*k)).take 36) x)]))]) (λf=>[(10,(f 3).val 0)]) [10] (λf L=>L.set 7 (dg ((f 3).val 0) (((VC k).map (cK xs x))++([(m0 ((xs.drop (36*k)).take 36) x)])))++[ob (B2 f) #[i6 (m0 ((xs.drop (36*k)).take 36) x)] 3]) λf=>r0 [(0,ad k 1)] [(45,iN (k+1))] [45] (kY (k+1) ((f 3).val 0) Om Om Kr [0,1,2,3,4,5,6,7] (by rw[←LY (uh i x),L2 Om,V4,Wk];kernel_rfl)))
 obtain rfl:k=2:=by omega
 refine kZ ?_;have d:=trivial;exact rr (λ_=>[(0,.l 6),(1,.c [] [] (LF (fL (im xs x) 2) (by(simp only[LL,d,e,i];done)))),(3,.s 5)]) (λ_=>[(9,a)]) [9] (λ_ L=>L.set 5 (ob (B1 n) (rB 64 (fL (im xs x) 2)).toArray 43)) λC=>lf (.l [] [] [a]) [7] [(0,0),(1,1),(2,2),(3,3)] [5]
def qT(xs:List UInt8)(x:Int):List UInt8:=(bif decide (2≤(jK ((VC 8).map (dK xs x)))) then VD 64 0 else cp 64 (jw (ff 0 8 (dW xs x) 8)) (8*8))
theorem L5(e i j:Nat)(xs:List UInt8)(m:xs.length=72)(x:Int):aa VA 124 #[pt e 0,i6 1,.agg (rB 72 xs).toArray,i6 x] [ob e #[pt i 0,pt j 0] 242,ob i (rB 74 (bD 10)++rI 256 (bQ 10)).toArray 298] [] N0 (λ_=> .tuple #[.agg (rB 64 (qT xs x)).toArray,.agg #[i6 (jK ((VC 8).map (dK xs x))),i6 (iI ((VC 8).map (dK xs x)))]]):=by
 refine fG Tryz.func124 λw n=>ra (λa=>[(6,pt (B0 a) 0),(8,pt (B1 a) 0),(9,pt (B2 a) 0)]) (λa=>[ob (B0 a) (rB 72 xs).toArray 217,ob (B1 a) (rB 64 z6).toArray 43,ob (B2 a) #[i6 0,i6 0] 79]) λa=>r0 [(1,.c [] [] (oA 1))] [(15,.bool (!((1==1)||(1==2))))] [] ?_;have k:(!((1==1)||(1==2)))=false:=by decide
 refine cF (!((1==1)||(1==2))) k (rr (λ_=>[(2,.l 2),(4,.c [0,1] [5] (L3 e i j xs (by(simp only[LL,l7,m];done)) x)),(9,.s 6)]) (λb=>[(10,pt ((b 8).y 0) 0),(11,((b 4).val 0))]) [] (λb L=>L++[dg ((b 4).val 0) ((VC 8).map (dK xs x)),ob ((b 8).y 0) (rB 64 (cp 64 (jw (ff 0 8 (dW xs x) 8)) (8*8))).toArray 43]) λb=>rr (λ_=>[(1,.c [5] [] (aa.at (rd':=[dg ((b 4).val 0) ((VC 8).map (dK xs x))]) (Ch ((b 4).val 0) ((VC 8).map (dK xs x)) (by rw[VH,VN];omega)) (bM (λ_ h=>ar.sq h) (λ_ h=>h)))),(3,.s 7)]) (λd=>[(12,pt (B2 d) 0)]) [] (λd L=>L++[ob (B2 d) #[i6 (jK ((VC 8).map (dK xs x))),i6 (iI ((VC 8).map (dK xs x)))] 79]) λd=>r0 [(1,.l 7)] [(30,.bool (decide (2≤(jK ((VC 8).map (dK xs x))))))] [] ?_);refine om 2 (jK ((VC 8).map (dK xs x))) (λg f=>?_) λg f=>?_
 ·exact rr (λ_=>[(1,.l 7),(2,.s 3),(3,.s 4)]) N0 [] (λ_ L=>L.set 4 (ob (B2 a) #[i6 (jK ((VC 8).map (dK xs x))),i6 (iI ((VC 8).map (dK xs x)))] 79)) λo=>ak (.tuple #[.agg (rB 64 z6).toArray,.agg #[i6 (jK ((VC 8).map (dK xs x))),i6 (iI ((VC 8).map (dK xs x)))]]) ab.zero (by((try simp only[qT]);(repeat (first | rw[g] | rw[ALct])))<;>rfl) [] [(0,0),(1,1)] [3,4]
 exact rr (λ_=>[(0,.l 6),(1,.l 7),(2,.s 3),(3,.s 4)]) N0 [] (λ_ L=>(L.set 3 (ob (B1 a) (rB 64 (cp 64 (jw (ff 0 8 (dW xs x) 8)) (8*8))).toArray 43)).set 4 (ob (B2 a) #[i6 (jK ((VC 8).map (dK xs x))),i6 (iI ((VC 8).map (dK xs x)))] 79)) λp=>ak (.tuple #[.agg (rB 64 (cp 64 (jw (ff 0 8 (dW xs x) 8)) (8*8))).toArray,.agg #[i6 (jK ((VC 8).map (dK xs x))),i6 (iI ((VC 8).map (dK xs x)))]]) ab.zero (by((try simp only[qT]);(repeat (first | rw[g] | rw[ALcf])))<;>rfl) [] [(0,0),(1,1)] [3,4]
def qU(xs:List UInt8)(x:Int):List UInt8:=(bif decide (2≤(jK ((VC 2).map (cK xs x)))) then VD 64 0 else fL (im xs x) 2)
theorem L6(e n d g:Nat)(u:Value)(xs:List UInt8)(q:xs.length=72)(x:Int)(h0: -9223372036854775808≤x)(h1:x≤9223372036854775807):aa VA 124 #[pt e 0,i6 2,.agg (rB 72 xs).toArray,i6 x] [ob e #[pt n 0,pt d 0] 242,ob d #[pt g 0,u] 309,ob g (rB 255 aO++rN 256 aV).toArray 312,.p (aH eB u Vn)] [] N0 (λ_=> .tuple #[.agg (rB 64 (qU xs x)).toArray,.agg #[i6 (jK ((VC 2).map (cK xs x))),i6 (iI ((VC 2).map (cK xs x)))]]):=by
 have i:=xz (uh q x) (VU 2);refine fO Tryz.func124 3 rfl λj o=>fG Tryz.func124 λw t=>ra (λa=>[(6,pt (B0 a) 0),(8,pt (B1 a) 0),(9,pt (B2 a) 0)]) (λa=>[ob (B0 a) (rB 72 xs).toArray 217,ob (B1 a) (rB 64 z6).toArray 43,ob (B2 a) #[i6 0,i6 0] 79]) λa=>r0 [(1,.c [] [] (oA 2))] [(15,.bool (!((2==1)||(2==2))))] [] ?_;have r:(!((2==1)||(2==2)))=false:=by decide
 refine cF (!((2==1)||(2==2))) r (rr (λ_=>[(2,.l 4),(4,.c [0,1,2,3] [7] (aa.at (rd':=[ob e #[pt n 0,pt d 0] 242,ob d #[pt g 0,u] 309,ob g (rB 255 aO++rN 256 aV).toArray 312,.c j]) (L4 e n d g u xs (by(simp only[LL,i,q];done)) x Om Om) (aK (aK (aK (ei o (λ_ h=>h))))))),(9,.s 8)]) (λb=>[(10,pt ((b 8).y 0) 0),(11,((b 4).val 0))]) [] (λb L=>L++[dg ((b 4).val 0) ((VC 2).map (cK xs x)),ob ((b 8).y 0) (rB 64 (fL (im xs x) 2)).toArray 43]) λb=>rr (λ_=>[(1,.c [7] [] (aa.at (rd':=[dg ((b 4).val 0) ((VC 2).map (cK xs x))]) (Ch ((b 4).val 0) ((VC 2).map (cK xs x)) (by rw[VH,VN];omega)) (bM (λ_ h=>ar.sq h) (λ_ h=>h)))),(3,.s 9)]) (λf=>[(12,pt (B2 f) 0)]) [] (λf L=>L++[ob (B2 f) #[i6 (jK ((VC 2).map (cK xs x))),i6 (iI ((VC 2).map (cK xs x)))] 79]) λf=>r0 [(1,.l 9)] [(30,.bool (decide (2≤(jK ((VC 2).map (cK xs x))))))] [] ?_);refine om 2 (jK ((VC 2).map (cK xs x))) (λm k=>?_) λm k=>?_
 ·exact rr (λ_=>[(1,.l 9),(2,.s 5),(3,.s 6)]) N0 [] (λ_ L=>L.set 6 (ob (B2 a) #[i6 (jK ((VC 2).map (cK xs x))),i6 (iI ((VC 2).map (cK xs x)))] 79)) λv=>ak (.tuple #[.agg (rB 64 z6).toArray,.agg #[i6 (jK ((VC 2).map (cK xs x))),i6 (iI ((VC 2).map (cK xs x)))]]) ab.zero (by((try simp only[qU]);(repeat (first | rw[m] | rw[ALct])))<;>rfl) [] [(0,0),(1,1),(2,2),(3,3)] [5,6]
 exact rr (λ_=>[(0,.l 8),(1,.l 9),(2,.s 5),(3,.s 6)]) N0 [] (λ_ L=>(L.set 5 (ob (B1 a) (rB 64 (fL (im xs x) 2)).toArray 43)).set 6 (ob (B2 a) #[i6 (jK ((VC 2).map (cK xs x))),i6 (iI ((VC 2).map (cK xs x)))] 79)) λy=>ak (.tuple #[.agg (rB 64 (fL (im xs x) 2)).toArray,.agg #[i6 (jK ((VC 2).map (cK xs x))),i6 (iI ((VC 2).map (cK xs x)))]]) ab.zero (by((try simp only[qU]);(repeat (first | rw[m] | rw[ALcf])))<;>rfl) [] [(0,0),(1,1),(2,2),(3,3)] [5,6]
end
section
open Go.Shelf
def fM(n:Nat)(f:Nat→List UInt8)(k:Nat):List UInt8:=(VC k).flatMap f++VD (72-n*k) 0
theorem pC{n:Nat}{f:Nat→List UInt8}(h: ∀i,(f i).length=n){k:Nat}(a:n*k≤72):(fM n f k).length=72:=by
 unfold fM;rw[VF,xy h,VZ];omega
theorem Cl{n:Nat}{f:Nat→List UInt8}(h: ∀i,(f i).length=n){k m:Nat}(a:m=n):(fM n f k).take (n*k)++f k++(fM n f k).drop (n*k+m)=fM n f (k+1):=by subst a;exact Ck h
theorem Cm(n:Nat)(f:Nat→List UInt8):fM n f 0=VD 72 0:=rfl
def k7(l:List UInt8)(x:Int)(p:Bool)(k:Nat):List UInt8:=jv (a1 l (8*k) 8) 8++[bN (a1 l (8*k) 8) ((pc ((x%8388608).toNat)%2:Nat):Int) (fe p) (bD 10)]
theorem qV(l:List UInt8)(x:Int)(p:Bool)(k:Nat):(k7 l x p k).length=9:=by unfold k7;rw[VF,mZ];rfl
def l9(l:List UInt8)(x:Int)(p:Bool)(k:Nat):List UInt8:=if k<2 then iG ((l.drop (32*k)).take 32) (dy x p)++(l.drop (32*k)).take 32 else VD 36 0
theorem qW{l:List UInt8}(a:l.length=64)(x:Int)(p:Bool)(k:Nat):(l9 l x p k).length=36:=by
 unfold l9
 split
 ·rw[VF,jG,VG,VM];omega
 ·rfl
theorem L7{l:List UInt8}{x:Int}{p:Bool}{k:Nat}(h:k<2):l9 l x p k=iG ((l.drop (32*k)).take 32) (dy x p)++(l.drop (32*k)).take 32:=ALifp h
attribute [local irreducible] du di bN gb a1 jv gI aZ iG bD bQ Vn aO aV dy fc cQ eJ j5 m0 ff fL cp jK jF fe fM
theorem L8(e j y:Nat)(l:List UInt8)(f:l.length=64)(x:Int)(p:Bool):aa VA 125 #[pt e 0,i6 1,.agg (rB 64 l).toArray,i6 x,.bool p] [ob e #[pt j 0,pt y 0] 242,ob j (rB 74 (bD 10)++rI 256 (bQ 10)).toArray 298] [] N0 (λ_=> .agg (rB 72 (fM 9 (k7 l x p) 8)).toArray):=by
 have a:=True.intro;refine fG Tryz.func125 λw G=>ra (λd=>[(5,pt (B0 d) 0),(6,pt (B1 d) 0),(7,pt (B2 d) 0),(9,pt (B3 d) 0),(10,pt (B4 d) 0)]) (λd=>[ob (B0 d) #[pt e 0] 116,ob (B1 d) #[i6 1] 3,ob (B2 d) (rB 64 l).toArray 43,ob (B3 d) #[.bool p] 4,ob (B4 d) (rB 72 (VD 72 0)).toArray 217]) λd=>ra (λg=>[(11,pt (B0 g) 0)]) (λg=>[ob (B0 g) (rB 72 (VD 72 0)).toArray 217]) λg=>r0 [(0,.l 3)] [(19,i6 1)] [] (rT [] 20 (rr (λ_=>[(1,.c [] [] (uc x)),(3,.s 8)]) (λo=>[(12,pt (B2 o) 0)]) [] (λo L=>L++[ob (B2 o) #[iN (pc ((x%8388608).toNat)%2)] 3]) λo=>rr (λ_=>[(0,.l 4),(1,.c [] [9] (Ln l (by(simp only[LL,mZ,jt,ju,a,f];done))))]) (λi=>[(25,.func (.func 200) #[] #[pt ((B1 i)) 0])]) [] (λi L=>L++[ob (B1 i) (rB 64 l).toArray 43]) λi=>?_));refine ny (encs:=λ(x:Nat×Nat)=>#[i6 (x.1:Int),u6 (x.2:Int)]) (xs:=(VC 8).map λk=>(k,a1 l (8*k) 8)) (KO:=[[((B1 i),.cells (rB 64 l).toArray 43 (0,0))]]) (Lm (B1 i) l (by(simp only[LL,mZ,jt,ju,a,f];done))) (enters_of Tryz.func200 Kr rfl) (λk=>k≤8) (λk L=>L.set 7 (ob (B0 g) (rB 72 (fM 9 (k7 l x p) k)).toArray 217)) [9] Om (by rw[Cm];kernel_rfl) (λH k I B D t r=>?_) (λA r=>?_)
 ·obtain⟨u,rfl⟩:=nn t;have q:=qS l (8*k) (k:=8) Dc;have z:=mZ (a1 l (8*k) 8) 8;have a:=pC (n:=9) (qV l x p) (k:=k) Om;refine r0 [] [(13,iN k)] [] (r0 [] [(14,u6 ((a1 l (8*k) 8:Nat):Int))] [] ?_);refine ag [9] (λC F=>?_);exact rr (λb=>[(0,.m (ls 7 (rB 72 (fM 9 (k7 l x p) k)))),(1,.m (ld 3 (i6 1))),(2,.v (iN k)),(3,.v (u6 ((a1 l (8*k) 8:Nat):Int))),(4,.c [] [10] (K9 (a1 l (8*k) 8) Om)),(5,.m (ld 2 (pt e 0))),(6,.v (pt e 0)),(7,.v (pt e 0)),(8,.m (ld 0 (pt j 0))),(9,.v (u6 ((a1 l (8*k) 8:Nat):Int))),(10,.m (ld 8 (iN (pc ((x%8388608).toNat)%2)))),(11,.m (ld 5 (.bool p))),(12,.c [] [] (BZ p)),(13,.c [1] [] (BY j (a1 l (8*k) 8) ((pc ((x%8388608).toNat)%2:Nat):Int) (fe p) (bD 10) (bQ 10) q (by(simp only[LL,mZ,jt,ju,a,f];done)) (by(simp only[LL,mZ,jt,ju,a,f];done)))),(14,.m (bs 11 1)),(15,fp kB (((b 4).val 0)) (jv (a1 l (8*k) 8) 8) 10 11 ([(bN (a1 l (8*k) 8) ((pc ((x%8388608).toNat)%2:Nat):Int) (fe p) (bD 10))])),(16,.c [10] [] (aa.at (rd':=[bt ((b 15).val 0) ((jv (a1 l (8*k) 8) 8)++([(bN (a1 l (8*k) 8) ((pc ((x%8388608).toNat)%2:Nat):Int) (fe p) (bD 10))]))]) (Lr (fM 9 (k7 l x p) k) ((jv (a1 l (8*k) 8) 8)++([(bN (a1 l (8*k) 8) ((pc ((x%8388608).toNat)%2:Nat):Int) (fe p) (bD 10))])) ((b 15).val 0) (by(simp only[LL,mZ,jt,ju,a,f];done)) k Om (by(simp only[LL,mZ,jt,ju,a,f];done))) (bM (λ_ h=>ar.sq h) (λ_ h=>h)))),(17,.s 7)]) N0 [] (λb L=>L.set 7 (ob (B0 g) (rB 72 ((fM 9 (k7 l x p) k).take (9*k)++((jv (a1 l (8*k) 8) 8)++([(bN (a1 l (8*k) 8) ((pc ((x%8388608).toNat)%2:Nat):Int) (fe p) (bD 10))]))++(fM 9 (k7 l x p) k).drop ((9*k)+((jv (a1 l (8*k) 8) 8)++([(bN (a1 l (8*k) 8) ((pc ((x%8388608).toNat)%2:Nat):Int) (fe p) (bD 10))])).length))).toArray 217)++[bt ((b 15).val 0) ((jv (a1 l (8*k) 8) 8)++([(bN (a1 l (8*k) 8) ((pc ((x%8388608).toNat)%2:Nat):Int) (fe p) (bD 10))])),ob ((b 14).y 0) #[u1 ((bN (a1 l (8*k) 8) ((pc ((x%8388608).toNat)%2:Nat):Int) (fe p) (bD 10)).toNat:Int)] 5]) λb=>ne _ ⟨Om,rfl⟩ [0,1,2,3,4,5,6,7,8,9] (by rw[←Cl (qV l x p) (qV l x p k)];unfold k7;kernel_rfl)
 have a:=pC (n:=9) (qV l x p) (k:=8) Om;exact rs [(0,.l 7),(1,.s 6)] 6 (ob (B4 d) (rB 72 (fM 9 (k7 l x p) 8)).toArray 217) (lf ab.zero [] [(0,0),(1,1)] [6])
theorem L9(y D r g:Nat)(u:Value)(l:List UInt8)(e:l.length=64)(x:Int)(h0: -9223372036854775808≤x)(h1:x≤9223372036854775807)(p:Bool):aa VA 125 #[pt y 0,i6 2,.agg (rB 64 l).toArray,i6 x,.bool p] [ob y #[pt D 0,pt r 0] 242,ob r #[pt g 0,u] 309,ob g (rB 255 aO++rN 256 aV).toArray 312,.p (aH eB u Vn)] [] N0 (λ_=> .agg (rB 72 (fM 36 (l9 l x p) 2)).toArray):=by
 have a:=True.intro;have b:=True.intro;refine fO Tryz.func125 3 rfl λv B=>fG Tryz.func125 λw K=>ra (λf=>[(5,pt (B0 f) 0),(6,pt (B1 f) 0),(7,pt (B2 f) 0),(9,pt (B3 f) 0),(10,pt (B4 f) 0)]) (λf=>[ob (B0 f) #[pt y 0] 116,ob (B1 f) #[i6 2] 3,ob (B2 f) (rB 64 l).toArray 43,ob (B3 f) #[.bool p] 4,ob (B4 f) (rB 72 (VD 72 0)).toArray 217]) λf=>ra (λo=>[(11,pt (B0 o) 0)]) (λo=>[ob (B0 o) (rB 72 (VD 72 0)).toArray 217]) λo=>r0 [(0,.l 5)] [(19,i6 2)] [] (rF [] 20 (rT [] 45 (rr (λ_=>[(1,.l 7),(2,.c [] [] (B8 x Om Om p)),(4,.s 10)]) (λt=>[(15,pt (B3 t) 0)]) [] (λt L=>L++[ob (B3 t) (rB 3 (dy x p)).toArray 262]) λt=>rr (λ_=>[(0,.l 6),(1,.c [] [11] (Lp l (by(simp only[LL,a,jG,l8,b,e];done))))]) (λq=>[(51,.func (.func 202) #[] #[pt ((B1 q)) 0])]) [] (λq L=>L++[ob (B1 q) (rB 64 l).toArray 43]) λq=>?_)));refine ny (encs:=λ(x:Nat×List UInt8)=>#[i6 (x.1:Int),.agg (rB 32 x.2).toArray]) (xs:=(VC 2).map λk=>(k,(l.drop (32*k)).take 32)) (KO:=[[((B1 q),.cells (rB 64 l).toArray 43 (0,0))]]) (Lq (B1 q) l (by(simp only[LL,a,jG,l8,b,e];done))) (enters_of Tryz.func202 Kr rfl) (λk=>k≤2) (λk L=>L.set 9 (ob (B0 o) (rB 72 (fM 36 (l9 l x p) k)).toArray 217)) [11] Om (by rw[Cm];kernel_rfl) (λM k N G I C z=>?_) (λF z=>?_)
 ·obtain⟨A,rfl⟩:=nn C;have a:=pC (n:=36) (qW e x p) (k:=k) Om;have b:((l.drop (32*k)).take 32).length=32:=by rw[VG,VM];omega
  refine r0 [] [(16,iN k)] [] (rr (λ_=>[(1,.s 12)]) (λd=>[(17,pt (B0 d) 0)]) [] (λd L=>L++[ob (B0 d) (rB 32 ((l.drop (32*k)).take 32)).toArray 267]) λd=>?_);refine ag [11] (λH J=>?_);exact rr (λ_=>[(0,.l 4),(3,.l 0),(4,.l 12),(5,.l 10),(6,.c [1,2,3] [] (aa.at (rd':=[ob r #[pt g 0,u] 309,ob g (rB 255 aO++rN 256 aV).toArray 312,.c v]) (KH r g u ((l.drop (32*k)).take 32) (dy x p) (by(simp only[LL,a,jG,l8,b,e];done)) (by(simp only[LL,a,jG,l8,b,e];done))) (aK (aK (ei B (λ_ h=>h)))))),(8,.s 13)]) (λi=>[(18,pt (B7 i) 0)]) [] (λi L=>L++[ob (B7 i) (rB 4 (iG (((l.drop (32*k)).take 32)) ((dy x p)))).toArray 268]) λi=>rr (λj=>[(0,.l 9),(1,.l 5),(3,aS 268 (B7 i) 4 1),(4,aS 267 (B0 d) 32 1),(5,.m (II kB 14 13 12 (B7 i) 4 (rB 4 (iG (((l.drop (32*k)).take 32)) ((dy x p)))).toArray 268 (iG (((l.drop (32*k)).take 32)) ((dy x p))) ((l.drop (32*k)).take 32) (.slice (some ⟨(d 0).y 0,0,none⟩) 32 32) (ob (B0 d) (rB 32 ((l.drop (32*k)).take 32)).toArray 267) (λ_ h=>by rw[show _=_ from h];exact ot (λ_=>rfl) (show((l.drop (32*k)).take 32).length=32 by(simp only[LL,a,jG,l8,b,e];done))) (jG ..) (Ae (jG ..)) (by rw[(show((l.drop (32*k)).take 32).length=32 by(simp only[LL,a,jG,l8,b,e];done))];omega) (by rw[(jG ..),(show((l.drop (32*k)).take 32).length=32 by(simp only[LL,a,jG,l8,b,e];done))];omega))),(6,.c [14] [] (aa.at (rd':=[bt ((j 5).val 0) ((iG (((l.drop (32*k)).take 32)) ((dy x p)))++((l.drop (32*k)).take 32))]) (Ls (fM 36 (l9 l x p) k) ((iG (((l.drop (32*k)).take 32)) ((dy x p)))++((l.drop (32*k)).take 32)) ((j 5).val 0) (by(simp only[LL,a,jG,l8,b,e];done)) k Om (by(simp only[LL,a,jG,l8,b,e];done))) (bM (λ_ h=>ar.sq h) (λ_ h=>h)))),(7,.s 9)]) N0 [] (λj L=>L.set 9 (ob (B0 o) (rB 72 ((fM 36 (l9 l x p) k).take (36*k)++((iG (((l.drop (32*k)).take 32)) ((dy x p)))++((l.drop (32*k)).take 32))++(fM 36 (l9 l x p) k).drop ((36*k)+((iG (((l.drop (32*k)).take 32)) ((dy x p)))++((l.drop (32*k)).take 32)).length))).toArray 217)++[bt ((j 5).val 0) ((iG (((l.drop (32*k)).take 32)) ((dy x p)))++((l.drop (32*k)).take 32))]) λj=>ne _ ⟨Om,rfl⟩ [0,1,2,3,4,5,6,7,8,9,10,11] (by rw[←Cl (qW e x p) (qW e x p k),L7 Om];kernel_rfl)
 have a:=pC (n:=36) (qW e x p) (k:=2) Om;exact rs [(0,.l 9),(1,.s 8)] 8 (ob (B4 f) (rB 72 (fM 36 (l9 l x p) 2)).toArray 217) (lf ab.zero [] [(0,0),(1,1),(2,2),(3,3)] [8])
end
def aW(mode:Int):Nat:=if mode=1 then 9 else if mode=2 then 36 else 0
def dL(mode:Int):Nat:=if mode=1 then 8 else if mode=2 then 2 else 0
def dz(mode:Int)(a b:UInt8):Nat:=if mode=1 then pc (a^^^b).toNat else if a=b then 0 else 1
theorem Cn{n:Nat}(h:n<256):pc n≤8:=by
 have a:pc n=iw 8 n:=(FT 8 n Om Om).symm;rw[a];exact y4 8 n
theorem Ma(mode:Int)(a b:UInt8):dz mode a b≤if mode=1 then 8 else 1:=by
 unfold dz
 split
 ·exact Cn (a^^^b).toNat_lt
 ·split<;>omega
def dn(f:Nat→Nat):Nat→Nat
 | 0=>0
 | k+1=>dn f k+f k
def wC(mode:Int)(xs ys:List UInt8)(k:Nat):Nat:=dn (λj=>dz mode (xs.getD (aW mode*k+j) 0) (ys.getD (aW mode*k+j) 0)) (aW mode)
def ky(mode:Int)(xs ys:List UInt8):Nat→Nat
 | 0=>0
 | k+1=>max (ky mode xs ys k) (wC mode xs ys k)
def j6(mode:Int)(xs ys:List UInt8):Nat:=ky mode xs ys (dL mode)
section
open Go.Shelf

end
section
open Go.Shelf

end
section
open Go.Shelf
theorem Co(l:List Int): ∀a:Int,(a≤l.foldl max a∧(∀x,x∈l→x≤l.foldl max a))∧∀m,a≤m→(∀x,x∈l→x≤m)→l.foldl max a≤m:=by
 induction l with
 | nil=>intro a;exact⟨⟨Int.le_refl _,λx h=>absurd h Ww⟩,λm h _=>h⟩
 | cons y l ih=>
  intro a;obtain⟨⟨e,c⟩,d⟩:=ih (max a y);rw[WR];refine⟨⟨by omega,λx b=>?_⟩,λm f b=>d m (by have:=b y WL;omega) λx h=>b x (List.mem_cons_of_mem _ h)⟩;rcases List.mem_cons.1 b with rfl | h
  ·omega
  ·exact c x h
theorem Mb(l:List Int):0≤jK l:=(Co l 0).1.1
theorem Md{l:List Int}{m:Int}(h0:0≤m)(h: ∀x,x∈l→x≤m):jK l≤m:=(Co l 0).2 m h0 h
end
end E
section
open Go.Shelf

end
namespace E
section
open Go.Shelf
theorem Me{r:List UInt8}{y:Int}{k b:Nat}{c:Int}{a:UInt8}(h:fZ (Go.Proofs.YtbcodenfkijdnaaGreat.co (aZ (oC r k) (dy y false)))=⟨b,c,a⟩):cK r y k=if b=0 then 0 else if b=1 then 1 else if b=2∧c=38∧a=128 then 2 else 3:=by
 unfold cK m0 oB fc cQ eJ;rw[h];show(bif ((b:Nat):Int)==0 then 0 else(bif ((b:Nat):Int)==1 then 1 else(bif ((((b:Nat):Int)==2)&&(c==38))&&((a.toNat:Int)==128) then 2 else 3)))=(_:Int);by_cases e:b=0
 ·subst e;rfl
 by_cases f:b=1
 ·subst f;rfl
 rw[ALifn e,ALifn f];have i:(((b:Nat):Int)==0)=false:=by rw[dP];omega
 have j:(((b:Nat):Int)==1)=false:=by rw[dP];omega
 rw[i,j,ALcf,ALcf];by_cases d:b=2∧c=38∧a=128
 ·obtain⟨rfl,rfl,rfl⟩:=d;rfl
 ·rw[ALifn d];have l:((((b:Nat):Int)==2)&&(c==38)&&((a.toNat:Int)==128))=false:=by
   apply Bool.eq_false_iff.2;intro g;rw[VI,VI,beq_iff_eq,beq_iff_eq,beq_iff_eq] at g;exact d ⟨by omega,g.1.2,UInt8.toNat_inj.1 (by show a.toNat=128;omega)⟩
  rw[l,ALcf]
theorem Mf(r:List UInt8)(y:Int)(k:Nat):cK r y k≤3:=by
 obtain⟨⟨b,c,a⟩,h⟩: ∃V,fZ (Go.Proofs.YtbcodenfkijdnaaGreat.co (aZ (oC r k) (dy y false)))=V:=⟨_,rfl⟩;rw[Me h]
 split
 ·decide
 ·split
  ·decide
  ·split<;>decide
end
section
open Go.Shelf

end
end E
section
open Go.WideShapes Go.ChangeShapes Go.Deep
inductive gX where
 | int (k:IntKind)
 | bool
def Cp:gX→Value→Prop
 | .int k,v=>∃z:Int,v= .int k z∧(Lit.int k z).wf=true
 | .bool,v=>∃b:Bool,v= .bool b
def oD(P:Program)(r:TypeId→Option (List gX)):Nat→List Field→Option (List gX)
 | _,[]=>some []
 | off,f::fs=>match r f.type with
  | none=>none
  | some l=>if f.offset==off&&P.cellsOf f.type==l.length then(oD P r (off+l.length) fs).map λm=>l++m else none
def m4(P:Program):Nat→TypeId→Option (List gX)
 | 0,_=>none
 | n+1,t=>match P.underlying t with
  | some .bool=>some [.bool]
  | some (.int k)=>some [.int k]
  | some (.struct a)=>match oD P (m4 P n) 0 a.toList with
   | some l=>if P.cellsOf t==l.length then some l else none
   | none=>none
  | some (.array m e)=>match m4 P n e with
   | some l=>if P.cellsOf e==l.length&&P.cellsOf t==m*l.length then some (VD m l).flatten else none
   | none=>none
  | _=>none
def dX(ls:List gX)(cs:List Value):Prop:=cs.length=ls.length∧∀(i:Nat) (lf:gX),ls[i]? =some lf→∃v,cs[i]? =some v∧Cp lf v
theorem dX.append{l m:List gX}{cs:List Value}{k:Nat}(q:k=l.length)(h1:dX l (cs.take k))(h2:dX m (cs.drop k)):dX (l++m) cs:=by
 subst q;obtain⟨f,g⟩:=h1;obtain⟨j,p⟩:=h2;rw[VG] at f;rw[VM] at j;refine⟨by rw[VF];omega,λi e h=>?_⟩;rcases Wl i l.length with c | c
 ·rw[VO c] at h;obtain⟨v,a,d⟩:=g i e h;rw[V3 c] at a;exact⟨v,a,d⟩
 ·rw[VR c] at h;obtain⟨v,a,d⟩:=p _ e h;rw[V5,show l.length+(i-l.length)=i by omega] at a;exact⟨v,a,d⟩
section
variable {H:Type} {enc:TypeId×Value→H} {P:Program} {w:World} {base:Nat} {spare:Nat→Bool} {held:Bool}
theorem Cq{r:TypeId→Option (List gX)}{m:Nat}(p: ∀t ls cs x,r t=some ls→DataW.trod enc P w base spare held m t cs=some x→dX ls cs):
  ∀(c:List Field) (off:Nat) (ls:List gX) (cs:List Value),oD P r off c=some ls→off+ls.length=cs.length→
   (∀(i:Nat) (f:Field),c[i]? =some f→∃x,DataW.trod enc P w base spare held m f.type ((cs.drop f.offset).take (P.cellsOf f.type))=some x)→dX ls (cs.drop off)
 | [],off,ls,cs,h,e,_=>by
  simp only[oD,Option.some.injEq] at h;subst h;exact⟨by simp at e⊢;omega,λi z h=>by simp at h⟩
 | f::c,off,ls,cs,h,e,k=>by
  unfold oD at h;cases a:r f.type with
  | none=>rw[a] at h;cases h
  | some l=>
   rw[a] at h;simp only at h
   split at h
   ·rename_i d;simp only[VI,beq_iff_eq] at d;cases j:oD P r (off+l.length) c with
    | none=>rw[j] at h;cases h
    | some y=>
     rw[j] at h;simp only[Wu,Option.some.injEq] at h;subst h;rw[VF] at e;obtain⟨x,q⟩:=k 0 f rfl;rw[d.1,d.2] at q;have s:=p _ _ _ _ a q;have u:=Cq p c (off+l.length) y cs j Om λi g v=>k (i+1) g (by simpa using v);exact dX.append rfl s (by rw[Wm];exact u)
   ·cases h
theorem Cr{r:List Value→Prop}{l:List gX}(d: ∀cs,r cs→dX l cs): ∀(m:Nat) (cs:List Value),cs.length=m*l.length→(∀i,i<m→r ((cs.drop (i*l.length)).take l.length))→dX (VD m l).flatten cs
 | 0,cs,h,_=>by
  have:cs=[]:=List.eq_nil_of_length_eq_zero Om;subst this;exact⟨rfl,λi g h=>by simp at h⟩
 | m+1,cs,h,c=>by
  rw[Wo,VW];have a:=d _ (c 0 Om);rw[W4,List.drop_zero] at a;refine dX.append rfl a (Cr d m _ (by rw[VM,h,W5];omega) λi f=>?_);have e:=c (i+1) Om;rw[Wm];rwa [show(i+1)*l.length=l.length+i*l.length by rw[W5];omega] at e
theorem ui: ∀(n:Nat) (t:TypeId) (s:List gX) (c:Nat) (a:List Value) (x:DataW H×List MemPlace),m4 P n t=some s→DataW.trod enc P w base spare held c t a=some x→dX s a
 | 0,_,_,_,_,_,h,_=>by simp [m4] at h
 | n+1,t,s,c,a,x,h,y=>by
  unfold m4 at h;cases q:P.underlying t with
  | none=>rw[q] at h;cases h
  | some d=>
   rw[q] at h;cases d with
   | bool=>
    simp only[Option.some.injEq] at h;subst h;obtain⟨b,rfl,_⟩:=DataW.trod_bool q y;exact⟨rfl,λi L h=>by
     cases i with
     | zero=>simp only[Wh,Option.some.injEq] at h;subst h;exact⟨_,rfl,b,rfl⟩
     | succ i=>simp at h⟩
   | int k=>
    simp only[Option.some.injEq] at h;subst h;obtain⟨z,rfl,_,K⟩:=DataW.trod_int q y;exact⟨rfl,λi L h=>by
     cases i with
     | zero=>simp only[Wh,Option.some.injEq] at h;subst h;exact⟨_,rfl,z,rfl,K⟩
     | succ i=>simp at h⟩
   | struct D=>
    simp only at h;cases j:oD P (m4 P n) 0 D.toList with
    | none=>rw[j] at h;cases h
    | some l=>
     rw[j] at h;simp only at h
     split at h
     ·rename_i v;rw[beq_iff_eq] at v;cases h;obtain⟨B,m,_,_,J,u,g⟩:=DataW.trod_struct q y;have:=Cq (m:=m) (λt s a x p I=>ui n t s m a x p I) D.toList 0 s a j Om λi f F=>by
       have p:=g i f (by simpa using F);have C:i<B.length:=by rw[u];have:=(List.getElem?_eq_some_iff.1 F).1;simpa using this
       exact⟨B[i],by rw[p,VE C]⟩
      simpa using this
     ·cases h
   | array m e=>
    simp only at h;cases j:m4 P n e with
    | none=>rw[j] at h;cases h
    | some l=>
     rw[j] at h;simp only at h
     split at h
     ·rename_i v;simp only[VI,beq_iff_eq] at v;cases h;obtain⟨B,G,_,_,J,u,g⟩:=DataW.trod_array q y;refine Cr (r:=λa=>∃x,DataW.trod enc P w base spare held G e a=some x) (λa ⟨x,h⟩=>ui n e l G a x j h) m a Om λi C=>?_;have p:=g i C;rw[v.1] at p;exact⟨B[i]'Om,by rw[p,VE Om]⟩
     ·cases h
   | _=>simp at h
theorem Mg{t:TypeId}{v:Value}{d:DataW H}{p:List MemPlace}(n:Nat){ls:List gX}(f:m4 P n t=some ls)(c: ∃cs,v= .agg cs)(h:DataW.Trod enc P w base spare held t v d p): ∃cs:List Value,v= .agg cs.toArray∧dX ls cs:=by
 obtain⟨cs,rfl⟩:=c;obtain⟨a,e⟩:=h;exact⟨cs.toList,by simp,ui n t ls a _ _ f e⟩
theorem Mh{r:Reach}{c:Nat}{t:TypeId}{v:Value}{d:TypeDesc}(ht:P.underlying t=some d)(e:(match d with | .struct _ | .array _ _=>true | _=>false)=true)(h:Value.okWide P w r c t v): ∃cs,v= .agg cs:=by
 simp only[Value.okWide,ht] at h;cases d<;>simp at e
 ·obtain⟨cs,a,_⟩:=h;exact⟨cs,a⟩
 ·obtain⟨cs,a,_⟩:=h;exact⟨cs,a⟩
end
theorem Mi{z:Int}(h:(Lit.int .i64 z).wf=true): -9223372036854775808≤z∧z≤9223372036854775807:=by
 have:=bounds_i64 h;omega
theorem uj: ∀(n:Nat) (a:List Value),dX (VD n (.int .i64)) a→∃d:List Int,d.length=n∧a=d.map (λz=>Value.int .i64 z)∧∀z∈d, -9223372036854775808≤z∧z≤9223372036854775807
 | 0,a,h=>⟨[],rfl,by have:=h.1;simp at this;simpa using this,by simp⟩
 | n+1,a,h=>by
  obtain⟨g,j⟩:=h;cases a with
  | nil=>simp at g
  | cons c a=>
   obtain⟨v,f,z,k,l⟩:=j 0 (.int .i64) (by simp);obtain⟨d,m,p,q⟩:=uj n a ⟨by simpa using g,λi s r=>by simpa using j (i+1) s (by rw[Wo,V6];exact r)⟩;simp only[Wh,Option.some.injEq] at f;subst f;subst k;refine⟨z::d,by simp [m],by simp [p],λy e=>?_⟩;rcases List.mem_cons.1 e with rfl | e
   ·exact Mi l
   ·exact q y e
end
section
open Go.WideShapes Go.ChangeShapes Go.Deep
def oE(n:Nat)(w:World)(A:Option Addr)(rows:List (List Value)):Prop:=
 ∀(i:Nat) (r:List Value),rows[i]? =some r→r.length=n∧∃b o,A=some ⟨b,o,none⟩∧b<w.heap.size∧∀(j:Nat) (v:Value),r[j]? =some v→w.cell? ⟨b,o+i*n+j,none⟩=some v
section
variable {n:Nat} {w w':World} {A:Option Addr} {rows:List (List Value)}
theorem oE.nil:oE n w A []:=λi r h=>by simp at h
end
section
variable {P:Program} {w:World} {b off:Nat}
end
section
variable {P:Program} {w:World} {o:Oper} {ρ:Operand→Value}
end
section
variable {H:Type} {enc:TypeId×Value→H} {P:Program} {w:World} {base:Nat} {spare:Nat→Bool} {held:Bool}
theorem Mj{t e:TypeId}{A:Option Addr}{g s:Nat}{d:DataW H}{p:List MemPlace}(n:Nat){ls:List gX}(Y:m4 P n e=some ls)(hn:P.cellsOf e=ls.length)(h0:0<ls.length)(ht:P.underlying t=some (.slice e))
  (h:DataW.Trod enc P w base spare held t (.slice A g s) d p): ∃rows:List (List Value),rows.length=g∧(∀r∈rows,dX ls r)∧oE ls.length w A rows∧g≤s∧s≤maxLen:=by
 obtain⟨T,W⟩:=h;rcases open_slice ht W with⟨k,_⟩ | ⟨a,l,c,m,n',D,Pl,k,_,O,hm,R,_,hx⟩
 ·simp [Value.cells] at k;obtain⟨rfl,rfl,rfl⟩:=k;exact⟨[],rfl,by simp,oE.nil,VU _,V9 _⟩
 ·simp [Value.cells] at k;obtain⟨rfl,rfl,rfl⟩:=k;have Z:g≤m:=by rw[R];split<;>omega
  obtain⟨f,z⟩:=choose_lt (α:=List Value) (n:=g) (p:=λi S=>w.cells? base (a.add (i*P.cellsOf e)) (P.cellsOf e)=some S∧dX ls S) λi G=>by
   obtain⟨F,K,L⟩:=hx i Om;exact⟨F,K,ui n e ls n' F _ Y L⟩
  refine⟨(VC g).map f,by simp,λr C=>?_,λi r C=>?_,O,hm⟩
  ·obtain⟨i,G,rfl⟩:=List.mem_map.1 C;exact(z i (List.mem_range.1 G)).2
  ·have G:i<g:=by have:=(List.getElem?_eq_some_iff.1 C).1;simpa using this
   rw[V8,Wn G] at C;simp only[Wu,Option.some.injEq] at C;subst C;obtain⟨K,L⟩:=z i G;obtain⟨_,h3,U⟩:=WM K;refine⟨L.1,?_⟩;obtain⟨b,o,J⟩:=a;have u:=U 0 Om;have M:(f i)[0]? =some ((f i)[0]'Om):=VE Om;rw[M] at u;have B:J=none:=by
    obtain⟨z1,z2⟩:=z 0 Om;have I:=(WM z1).2.2 0 Om;have hzl:=z2.1;rw[VE (show 0<(f 0).length by omega)] at I;have:=World.cell?_spot I;simpa [Addr.add] using this
   subst B;have q: ∀(x y:Nat),((⟨b,o,none⟩:Addr).add x).add y=⟨b,o+x+y,none⟩:=λx y=>by
    unfold Addr.add
    split<;>split<;>simp_all
   refine⟨b,o,rfl,?_,λj v V=>?_⟩
   ·rcases Wl b w.heap.size with Q | N
    ·exact Q
    ·exfalso;rw[q] at u;simp [WY,Array.getElem?_eq_none N] at u
   ·have X:j<P.cellsOf e:=by have:=(List.getElem?_eq_some_iff.1 V).1;omega
    have:=U j X;rw[q,hn] at this;rw[this,V]
end
end
namespace E
section
open Go.Shelf
theorem Mk{w:World}{b o:Nat}{v:Value}(h:w.cell? ⟨b,o,none⟩=some v): ∃cs t a,w.heap[b]? =some (.cells cs t a):=by
 unfold WY at h;cases c:w.heap[b]? with
 | none=>simp [c] at h
 | some x=>
  cases x with
  | cells cs t a=>exact⟨cs,t,a,rfl⟩
  | _=>simp [c] at h
theorem Ml{α:Type}{en:α→List Value}{k:Nat}(b: ∀y,(en y).length=k){xs:List α}{i r:Nat}(a:i<xs.length)(c:r<k)(d:α):(aj en xs)[i*k+r]? =(en (xs.getD i d))[r]? :=by
 have h:=ALca (λl=>l[r]?) (s7 (d:=d) b a);simp only[V3 c,V5] at h;exact h
theorem Mm{α:Type}{en:α→List Value}{k:Nat}{w:World}{A:Option Addr}{n c:Nat}{xs:List α}(f: ∀y,(en y).length=k)(h0:0<k)(h:oE k w A (xs.map en))(K:xs.length=n): ∃q,eh q w∧dJ en (.slice A n c) xs q:=by
 subst K;cases m:xs with
 | nil=>exact⟨[],⟨λ_ h=>by simp at h,List.Pairwise.nil⟩,.inl ⟨rfl,A,c,rfl⟩⟩
 | cons a P=>
  rw[←m];have B:0<xs.length:=by rw[m];exact Nat.zero_lt_succ _
  obtain⟨_,b,o,rfl,J,G⟩:=h 0 (en a) (by rw[m];rfl);have d: ∃v,(en a)[0]? =some v:=⟨(en a)[0]'(by rw[f];exact h0),VE _⟩;obtain⟨M,l⟩:=d;obtain⟨e,t,g,u⟩:=Mk (G 0 M l);refine⟨[(b,.cells e t g)],⟨λz L=>by rw[List.mem_singleton.1 L];exact u,List.pairwise_singleton _ _⟩,.inr ⟨b,o,e,t,g,c,rfl,List.mem_singleton.2 rfl,?_⟩⟩;have F:(aj en xs).length=xs.length*k:=fy f rfl;have p: ∀j,j<xs.length*k→e.toList[o+j]? =(aj en xs)[j]? :=by
   intro j d;have x:j/k<xs.length:=Wc (by rw[VP];exact d);have C:j%k<k:=VJ _ h0;have H:j=j/k*k+j%k:=(Nat.div_add_mod' j k).symm;obtain⟨_,N,O,I,_,i⟩:=h (j/k) (en (xs.getD (j/k) a)) (by rw[V8,VB,VE x];rfl);cases I;have D:(en (xs.getD (j/k) a))[j%k]? =some ((en (xs.getD (j/k) a))[j%k]'(by rw[f];exact C)):=VE _;have r:=i (j%k) _ D;rw[cell_of_row w b _ e t g u,←Array.getElem?_toList] at r;have s:=Ml f x C a;rw[←H] at s;rw[s,D,←r]
   congr 1
   omega
  rw[F];apply Wg;intro j;by_cases d:j<xs.length*k
  ·rw[V3 d,V5];exact p j d
  ·rw[VS (by rw[VG];omega),VS Om]
end
section
open Go.Shelf
def dE(x:Int):Int:=IntKind.i64.wrap x
theorem Cs{x:Int}(h0: -9223372036854775808≤x)(h1:x≤9223372036854775807):dE x=x:=IntWalk.i64_in _ Om
section
variable {P:Program} {T:TypeId} {x y:Operand} {w:World}
theorem Mn(a b:Int):(av .and T x y (.int .i64 a) (.int .i64 b)).run P w= .ok (.int .i64 (bits .and .i64 a b)) w:=rfl
theorem Mo(a b:Int):(av .add T x y (.int .i64 a) (.int .i64 b)).run P w= .ok (.int .i64 (dE (a+b))) w:=rfl
theorem Cu(a b:Int):(av .sub T x y (.int .i64 a) (.int .i64 b)).run P w= .ok (.int .i64 (dE (a-b))) w:=rfl
theorem xA(a b:Int):(av .mul T x y (.int .i64 a) (.int .i64 b)).run P w= .ok (.int .i64 (dE (a*b))) w:=rfl
end
def fg(n a:Int):Bool:=((decide (1≤n))&&(decide (n≤a)))&&((bits .and .i64 n (dE (n-1)))==0)
theorem ma{n a:Int}(h:fg n a=true):1≤n∧n≤a:=by
 unfold fg at h;simp only[VI,decide_eq_true_eq] at h;exact h.1
theorem Mq: ∀n:Nat,n<1025→fg (n:Int) 1024=true→n∈[1,2,4,8,16,32,64,128,256,512,1024]:=by decide+kernel
theorem Cv{n:Nat}{a:Int}(c:a≤1024)(h:fg (n:Int) a=true):n∈[1,2,4,8,16,32,64,128,256,512,1024]:=by
 have b:=ma h;refine Mq n Om ?_;unfold fg at h⊢;simp only[VI,decide_eq_true_eq] at h⊢;exact⟨⟨h.1.1,by omega⟩,h.2⟩
def iJ(r s b m c:Int):Bool:=((((((fg r 8)&&(decide (0≤s)))&&(decide (s≤(dE (8-r)))))&&(fg b 16))&&(fg m 1024))&&(fg c 64))&&(decide ((dE (dE (dE (dE (r+s)*b)*m)*c))≤4096))
structure cE (R S B M C:Nat):Prop where
 ok:iJ R S B M C=true
structure gY (R S B M C:Nat):Prop where
 r1:1≤R
 r8:R+S≤8
 b1:1≤B
 b16:B≤16
 m1:1≤M
 m10:M≤1024
 c1:1≤C
 c64:C≤64
 all:(R+S)*B*M*C≤4096
theorem Cw{r s b m c:Int}(h:iJ r s b m c=true): ∃R S B M C:Nat,r=R∧s=S∧b=B∧m=M∧c=C∧cE R S B M C:=by
 have a:=h;unfold iJ at h;simp only[VI,decide_eq_true_eq] at h;obtain⟨⟨⟨⟨⟨⟨d,i⟩,j⟩,e⟩,f⟩,g⟩,k⟩:=h;have:=ma d;have:=ma e;have:=ma f;have:=ma g;refine⟨r.toNat,s.toNat,b.toNat,m.toNat,c.toNat,by omega,by omega,by omega,by omega,by omega,⟨?_⟩⟩;rw[VY Om,VY Om,VY Om,VY Om,VY Om];exact a
theorem cE.bd{R S B M C:Nat}(h:cE R S B M C):gY R S B M C:=by
 have h:=h.ok;unfold iJ at h;simp only[VI,decide_eq_true_eq] at h;obtain⟨⟨⟨⟨⟨⟨e,u⟩,f⟩,g⟩,i⟩,j⟩,k⟩:=h;have p:=ma e;have q:=ma g;have r:=ma i;have s:=ma j;rw[Cs Om Om] at f;have b:R+S≤8:=by omega
 have c:(R+S)*B≤8*16:=Wp b Om;have d:(R+S)*B*M≤128*1024:=Wp c Om;have t:(R+S)*B*M*C≤131072*64:=Wp d Om;have a: ∀x:Nat,x≤8388608→dE (x:Int)=(x:Int):=λx v=>Cs Om Om;have l:dE ((R:Int)+(S:Int))=((R+S:Nat):Int):=(a (R+S) Om);have m:dE (((R+S:Nat):Int)*(B:Int))=(((R+S)*B:Nat):Int):=by rw[←WB];exact a _ Om
 have n:dE ((((R+S)*B:Nat):Int)*(M:Int))=(((R+S)*B*M:Nat):Int):=by rw[←WB];exact a _ Om
 have o:dE ((((R+S)*B*M:Nat):Int)*(C:Int))=(((R+S)*B*M*C:Nat):Int):=by rw[←WB];exact a _ Om
 rw[l,m,n,o] at k;exact⟨by omega,b,by omega,by omega,by omega,by omega,by omega,by omega,by omega⟩
theorem cE.pow{R S B M C:Nat}(h:cE R S B M C):B∈[1,2,4,8,16,32,64,128,256,512,1024]:=by
 have h:=h.ok;unfold iJ at h;simp only[VI,decide_eq_true_eq] at h;obtain⟨⟨⟨⟨⟨⟨b,c⟩,d⟩,a⟩,e⟩,f⟩,g⟩:=h;exact Cv Dc a
section
variable {R S B M C:Nat} (h:gY R S B M C)
theorem gY.rb(h:gY R S B M C):R*B≤128:=Wp (show R≤8 by have:=h.r8;omega) h.b16
theorem gY.sbm(h:gY R S B M C):(R+S)*B*M≤4096:=VT (Wj _ h.c1) h.all
theorem gY.rbm(h:gY R S B M C):R*B*M≤4096:=VT (VL M (VL B (WS R S))) h.sbm
theorem gY.rbmc(h:gY R S B M C):R*B*M*C≤4096:=VT (VL C (VL M (VL B (WS R S)))) h.all
theorem gY.bm(h:gY R S B M C):B*M≤4096:=by
 have a:B*M≤R*(B*M):=WD _ h.r1;rw[←VQ] at a;exact VT a h.rbm
theorem gY.bmc(h:gY R S B M C):B*M*C≤4096:=by
 have a:B*M*C≤R*(B*M*C):=WD _ h.r1;rw[←VQ,←VQ] at a;exact VT a h.rbmc
end
def bR(i n:Int):Bool:=(decide (0≤i))&&(decide (i<n))
theorem k8{i n:Int}:bR i n=true↔0≤i∧i<n:=by unfold bR;simp
def hold(R S B M C:Nat)(a p1 p2 p3:Int):Bool:=(((bR a ((R+S:Nat):Int))&&(bR p1 (B:Int)))&&(bR p2 (M:Int)))&&(bR p3 (C:Int))
theorem uk{R S B M C:Nat}{e p1 p2 p3:Int}:hold R S B M C e p1 p2 p3=true↔(0≤e∧e<((R+S:Nat):Int))∧(0≤p1∧p1<(B:Int))∧(0≤p2∧p2<(M:Int))∧(0≤p3∧p3<(C:Int)):=by
 unfold hold;rw[VI,VI,VI,k8,k8,k8,k8]
 constructor
 ·rintro ⟨⟨⟨a,b⟩,c⟩,d⟩;exact⟨a,b,c,d⟩
 ·rintro ⟨a,b,c,d⟩;exact⟨⟨⟨a,b⟩,c⟩,d⟩
def dM(a p1 p2 p3:Int):Int:=a*1048576+p1*65536+p2*64+p3
def fP(R S B M C:Nat)(i:Int):Bool:= !(decide (i<0)|| !(hold R S B M C (i/1048576) (i/65536%16) (i/64%1024) (i%64)))
theorem Mr{R S B M C:Nat}(b:gY R S B M C){a p1 p2 p3:Int}(h:hold R S B M C a p1 p2 p3=true):dM a p1 p2 p3/1048576=a∧dM a p1 p2 p3/65536%16=p1∧dM a p1 p2 p3/64%1024=p2∧dM a p1 p2 p3%64=p3∧0≤dM a p1 p2 p3∧dM a p1 p2 p3<8388608:=by
 obtain⟨c,d,e,f⟩:=uk.1 h;have:=b.b16;have:=b.m10;have:=b.c64;have:=b.r8;unfold dM;omega
end
section
open Go.Shelf
theorem um(n a:Int):aa VA 97 #[i6 n,i6 a] [] [] N0 (λ_=> .bool (fg n a)):=by
 exact fG Tryz.func97 λw b=>r0 [] [(4,.bool false)] [] (r0 [(10,.t (tv (av .sub 3 (.tmp 14) (.const (i6 1)) (i6 n) (i6 1)) (λ_=>Cu n 1))),(11,.t (tv (av .and 3 (.tmp 13) (.tmp 15) (i6 n) (i6 (dE (n-1)))) (λ_=>Mn n _))),] [(4,.bool (((decide (1≤n))&&(decide (n≤a)))&&((bits .and .i64 n (dE (n-1)))==0)))] [4] (ak (.bool (((decide (1≤n))&&(decide (n≤a)))&&((bits .and .i64 n (dE (n-1)))==0))) ab.zero Vm [] [] []))
theorem uq(i n:Int):aa VA 105 #[i6 i,i6 n] [] [] N0 (λ_=> .bool (bR i n)):=by
 exact fG Tryz.func105 λw a=>r0 [] [(4,.bool false)] [] (r0 [] [(4,.bool ((decide (0≤i))&&(decide (i<n))))] [4] (ak (.bool ((decide (0≤i))&&(decide (i<n)))) ab.zero Vm [] [] []))
theorem Cx(r s b m c:Int):aa VA 57 #[.agg #[i6 r,i6 s,i6 b,i6 m,i6 c]] [] [] N0 (λ_=> .bool (iJ r s b m c)):=by
 exact fG Tryz.func57 λw d=>ra (λa=>[(1,pt (B0 a) 0),(2,.bool false)]) (λa=>[ob (B0 a) #[i6 r,i6 s,i6 b,i6 m,i6 c] 23]) λa=>r0 [(1,.m (ld 0 (i6 r))),(2,.c [] [] (um r 8)),(5,.m (ld 0 (i6 s))),(10,.m (ld 0 (i6 s))),(12,.m (ld 0 (i6 r))),(13,.t (tv (av .sub 3 (.const (i6 8)) (.tmp 15) (i6 8) (i6 r)) (λ_=>Cu 8 r))),(18,.m (ld 0 (i6 b))),(19,.c [] [] (um b 16)),(23,.m (ld 0 (i6 m))),(24,.c [] [] (um m 1024)),(28,.m (ld 0 (i6 c))),(29,.c [] [] (um c 64)),(33,.m (ld 0 (i6 r))),(35,.m (ld 0 (i6 s))),(36,.t (tv (av .add 3 (.tmp 36) (.tmp 38) (i6 r) (i6 s)) (λ_=>Mo r s))),(38,.m (ld 0 (i6 b))),(39,.t (tv (av .mul 3 (.tmp 39) (.tmp 41) (i6 (dE (r+s))) (i6 b)) (λ_=>xA _ _))),(41,.m (ld 0 (i6 m))),(42,.t (tv (av .mul 3 (.tmp 42) (.tmp 44) (i6 (dE (dE (r+s)*b))) (i6 m)) (λ_=>xA _ _))),(44,.m (ld 0 (i6 c))),(45,.t (tv (av .mul 3 (.tmp 45) (.tmp 47) (i6 (dE (dE (dE (r+s)*b)*m))) (i6 c)) (λ_=>xA _ _))),] [(2,.bool (((((((fg r 8)&&(decide (0≤s)))&&(decide (s≤(dE (8-r)))))&&(fg b 16))&&(fg m 1024))&&(fg c 64))&&(decide ((dE (dE (dE (dE (r+s)*b)*m)*c))≤4096))))] [2] (ak (.bool (((((((fg r 8)&&(decide (0≤s)))&&(decide (s≤(dE (8-r)))))&&(fg b 16))&&(fg m 1024))&&(fg c 64))&&(decide ((dE (dE (dE (dE (r+s)*b)*m)*c))≤4096)))) ab.zero Vm [] [] [])
theorem ur(R S B M C:Nat)(a:cE R S B M C):aa VA 57 #[.agg #[iN R,iN S,iN B,iN M,iN C]] [] [] N0 (λ_=> .bool true):=by
 have h:=Cx R S B M C;rwa [a.ok] at h
attribute [local irreducible] bR fg dE
theorem qX(R S B M C:Nat)(d:cE R S B M C)(a p1 p2 p3:Int):aa VA 73 #[.agg #[iN R,iN S,iN B,iN M,iN C],.agg #[i6 a,i6 p1,i6 p2,i6 p3]] [] [] N0 (λ_=> .bool (hold R S B M C a p1 p2 p3)):=by
 have e:=d.bd;have f:=e.r8;exact fG Tryz.func73 λw g=>ra (λb=>[(2,pt (B0 b) 0),(3,pt (B1 b) 0),(4,.bool false)]) (λb=>[ob (B0 b) #[iN R,iN S,iN B,iN M,iN C] 23,ob (B1 b) #[i6 a,i6 p1,i6 p2,i6 p3] 46]) λb=>r0 [(0,.m (ls 0 ([iN R,iN S,iN B,iN M,iN C]))),(1,.c [] [] (ur R S B M C d)),(4,.m (ld 1 (i6 a))),(6,.m (ld 0 (iN R))),(8,.m (ld 0 (iN S))),(9,ad R S),(10,.c [] [] (uq a ((R+S:Nat):Int))),(14,.m (ld 1 (i6 p1))),(16,.m (ld 0 (iN B))),(17,.c [] [] (uq p1 (B:Int))),(21,.m (ld 1 (i6 p2))),(23,.m (ld 0 (iN M))),(24,.c [] [] (uq p2 (M:Int))),(28,.m (ld 1 (i6 p3))),(30,.m (ld 0 (iN C))),(31,.c [] [] (uq p3 (C:Int)))] [(4,.bool ((((bR a ((R+S:Nat):Int))&&(bR p1 (B:Int)))&&(bR p2 (M:Int)))&&(bR p3 (C:Int))))] [4] (ak (.bool ((((bR a ((R+S:Nat):Int))&&(bR p1 (B:Int)))&&(bR p2 (M:Int)))&&(bR p3 (C:Int)))) ab.zero Vm [] [] [])
theorem Cy(a p1 p2 p3:Int)(c:0≤a)(g:a<8)(d:0≤p1)(h:p1<16)(e:0≤p2)(i:p2<1024)(f:0≤p3)(j:p3<64):aa VA 102 #[.agg #[i6 a,i6 p1,i6 p2,i6 p3]] [] [] N0 (λ_=>i6 (dM a p1 p2 p3)):=by
 exact fG Tryz.func102 λw k=>ra (λb=>[(1,pt (B0 b) 0),(2,i6 0)]) (λb=>[ob (B0 b) #[i6 a,i6 p1,i6 p2,i6 p3] 46]) λb=>r0 [(1,.m (ld 0 (i6 a))),(2,.t (tv (av .shl 3 (.tmp 4) (.const (u6 20)) (i6 a) (u6 20)) (λ_=>fB 20 Dc Om Om))),(4,.m (ld 0 (i6 p1))),(5,.t (tv (av .shl 3 (.tmp 7) (.const (u6 16)) (i6 p1) (u6 16)) (λ_=>fB 16 Dc Om Om))),(6,.t (tv (av .or 3 (.tmp 5) (.tmp 8) (i6 (a*2^20)) (i6 (p1*2^16))) (λ_=>qH 20 1048576 rfl Om Om Om Om Om))),(8,.m (ld 0 (i6 p2))),(9,.t (tv (av .shl 3 (.tmp 11) (.const (u6 6)) (i6 p2) (u6 6)) (λ_=>fB 6 Dc Om Om))),(10,.t (tv (av .or 3 (.tmp 9) (.tmp 12) (i6 (a*2^20+p1*2^16)) (i6 (p2*2^6))) (λ_=>qH 16 65536 rfl Om Om Om Om Om))),(12,.m (ld 0 (i6 p3))),(13,.t (tv (av .or 3 (.tmp 13) (.tmp 15) (i6 (a*2^20+p1*2^16+p2*2^6)) (i6 p3)) (λ_=>qH 6 64 rfl Om Om Om Om Om)))] [(2,i6 (a*2^20+p1*2^16+p2*2^6+p3))] [2] (ak (i6 (a*2^20+p1*2^16+p2*2^6+p3)) ab.zero (by exact ALca (Value.int .i64) (by unfold dM;omega)) [] [] [])
theorem Ms{R S B M C:Nat}(a:gY R S B M C){b p1 p2 p3:Int}(h:hold R S B M C b p1 p2 p3=true):(0≤b∧b<8)∧(0≤p1∧p1<16)∧(0≤p2∧p2<1024)∧0≤p3∧p3<64:=by
 obtain⟨c,d,e,f⟩:=uk.1 h;have:=a.b16;have:=a.m10;have:=a.c64;have:=a.r8;omega
def qY(R S B M C:Nat)(a p1 p2 p3:Int):Int:=(bif !(hold R S B M C a p1 p2 p3) then 0 else(dM a p1 p2 p3))
def qZ(R S B M C:Nat)(a p1 p2 p3:Int):Int:=(bif !(hold R S B M C a p1 p2 p3) then 12 else 0)
theorem Cz(R S B M C:Nat)(e:cE R S B M C)(a p1 p2 p3:Int):aa VA 147 #[.agg #[iN R,iN S,iN B,iN M,iN C],.agg #[i6 a,i6 p1,i6 p2,i6 p3]] [] [] N0 (λ_=> .tuple #[i6 (qY R S B M C a p1 p2 p3),i6 (qZ R S B M C a p1 p2 p3)]):=by
 refine fG Tryz.func147 λw f=>ra (λb=>[(2,pt (B0 b) 0),(3,pt (B1 b) 0),(4,i6 0),(5,i6 0)]) (λb=>[ob (B0 b) #[iN R,iN S,iN B,iN M,iN C] 23,ob (B1 b) #[i6 a,i6 p1,i6 p2,i6 p3] 46]) λb=>r0 [(0,.l 0),(1,.l 1),(2,.c [] [] (qX R S B M C e a p1 p2 p3))] [(9,.bool (!(hold R S B M C a p1 p2 p3)))] [] ?_;refine cB (!(hold R S B M C a p1 p2 p3)) (λd=>?_) λd=>?_
 ·exact r0 [] [(4,i6 0),(5,i6 12)] [4,5] (ak (.tuple #[i6 0,i6 12]) ab.zero (by((try simp only[qY,qZ]);(repeat (first | rw[d] | rw[ALct])))<;>rfl) [] [] [])
 obtain⟨⟨g,k⟩,⟨h,m⟩,⟨i,n⟩,j,o⟩:=Ms e.bd (by simpa using d);exact r0 [(0,.l 1),(1,.c [] [] (Cy a p1 p2 p3 Om Om Om Om Om Om Om Om))] [(4,i6 (dM a p1 p2 p3)),(5,i6 0)] [4,5] (ak (.tuple #[i6 (dM a p1 p2 p3),i6 0]) ab.zero (by((try simp only[qY,qZ]);(repeat (first | rw[d] | rw[ALcf])))<;>rfl) [] [] [])
theorem Mt(i:Int):aa VA 104 #[i6 i] [] [] N0 (λ_=> .agg #[i6 (i/1048576),i6 (i/65536%16),i6 (i/64%1024),i6 (i%64)]):=by
 exact fG Tryz.func104 λw b=>ra (λa=>[(2,pt (B0 a) 0)]) (λa=>[ob (B0 a) #[i6 0,i6 0,i6 0,i6 0] 46]) λa=>rs [(1,.t (tv (av .shr 3 (.tmp 3) (.const (u6 20)) (i6 i) (u6 20)) (λ_=>ie 20 Dc))),(3,.t (tv (av .shr 3 (.tmp 5) (.const (u6 16)) (i6 i) (u6 16)) (λ_=>ie 16 Dc))),(4,.t (tv (av .and 3 (.tmp 6) (.const (i6 15)) (i6 (i/65536)) (i6 15)) (λ_=>lV _ 4 16 Dc Dc Dc Dc))),(6,.t (tv (av .shr 3 (.tmp 8) (.const (u6 6)) (i6 i) (u6 6)) (λ_=>ie 6 Dc))),(7,.t (tv (av .and 3 (.tmp 9) (.const (i6 1023)) (i6 (i/64)) (i6 1023)) (λ_=>lV _ 10 1024 Dc Dc Dc Dc))),(9,.t (tv (av .and 3 (.tmp 11) (.const (i6 63)) (i6 i) (i6 63)) (λ_=>lV _ 6 64 Dc Dc Dc Dc))),(11,.s 0)] 0 (ob (B0 a) #[i6 (i/1048576),i6 (i/65536%16),i6 (i/64%1024),i6 (i%64)] 46) (lf ab.zero [] [] [0])
attribute [local irreducible] hold
def Vp(R S B M C:Nat)(i:Int):Int:=(bif (decide (i<0))||(!(hold R S B M C (i/1048576) (i/65536%16) (i/64%1024) (i%64))) then 0 else(i/1048576))
def rh(R S B M C:Nat)(i:Int):Int:=(bif (decide (i<0))||(!(hold R S B M C (i/1048576) (i/65536%16) (i/64%1024) (i%64))) then 0 else(i/65536%16))
def ri(R S B M C:Nat)(i:Int):Int:=(bif (decide (i<0))||(!(hold R S B M C (i/1048576) (i/65536%16) (i/64%1024) (i%64))) then 0 else(i/64%1024))
def rj(R S B M C:Nat)(i:Int):Int:=(bif (decide (i<0))||(!(hold R S B M C (i/1048576) (i/65536%16) (i/64%1024) (i%64))) then 0 else(i%64))
def rl(R S B M C:Nat)(i:Int):Int:=(bif (decide (i<0))||(!(hold R S B M C (i/1048576) (i/65536%16) (i/64%1024) (i%64))) then 12 else 0)
theorem CA(R S B M C:Nat)(e:cE R S B M C)(i:Int):aa VA 68 #[.agg #[iN R,iN S,iN B,iN M,iN C],i6 i] [] [] N0 (λ_=> .tuple #[.agg #[i6 (Vp R S B M C i),i6 (rh R S B M C i),i6 (ri R S B M C i),i6 (rj R S B M C i)],i6 (rl R S B M C i)]):=by
 refine fG Tryz.func68 λw f=>ra (λa=>[(2,pt (B0 a) 0),(4,pt (B1 a) 0),(5,i6 0)]) (λa=>[ob (B0 a) #[iN R,iN S,iN B,iN M,iN C] 23,ob (B1 a) #[i6 0,i6 0,i6 0,i6 0] 46]) λa=>rr (λ_=>[(1,.c [] [] (Mt i)),(3,.s 2)]) (λb=>[(6,pt (B2 b) 0)]) [] (λb L=>L++[ob (B2 b) #[i6 (i/1048576),i6 (i/65536%16),i6 (i/64%1024),i6 (i%64)] 46]) λb=>r0 [(3,.l 0),(4,.l 2),(5,.c [] [] (qX R S B M C e (i/1048576) (i/65536%16) (i/64%1024) (i%64)))] [(16,.bool ((decide (i<0))||(!(hold R S B M C (i/1048576) (i/65536%16) (i/64%1024) (i%64)))))] [] ?_;refine cB ((decide (i<0))||(!(hold R S B M C (i/1048576) (i/65536%16) (i/64%1024) (i%64)))) (λd=>?_) λd=>?_
 ·exact r0 [(1,.s 1)] [(5,i6 12)] [5] (ak (.tuple #[.agg #[i6 0,i6 0,i6 0,i6 0],i6 12]) ab.zero (by((try simp only[Vp,rh,ri,rj,rl]);(repeat (first | rw[d] | rw[ALct])))<;>rfl) [] [] [1])
 exact rr (λ_=>[(0,.l 2),(1,.s 1)]) (λ_=>[(5,i6 0)]) [5] (λ_ L=>L.set 1 (ob (B1 a) #[i6 (i/1048576),i6 (i/65536%16),i6 (i/64%1024),i6 (i%64)] 46)) λg=>ak (.tuple #[.agg #[i6 (i/1048576),i6 (i/65536%16),i6 (i/64%1024),i6 (i%64)],i6 0]) ab.zero (by((try simp only[Vp,rh,ri,rj,rl]);(repeat (first | rw[d] | rw[ALcf])))<;>rfl) [] [] [1]
theorem Mu(R S B M C:Nat)(d:cE R S B M C):aa VA 224 #[.agg #[iN R,iN S,iN B,iN M,iN C]] [] [] N0 (λ_=>iN ((B*M)*C)):=by
 have b:=d.bd;have f:=b.bm;have g:=b.bmc;exact fG Tryz.func224 λw e=>ra (λa=>[(1,pt (B0 a) 0),(2,i6 0)]) (λa=>[ob (B0 a) #[iN R,iN S,iN B,iN M,iN C] 23]) λa=>rF [(0,.l 0),(1,.c [] [] (ur R S B M C d))] 5 (r0 [(1,.l 0),(3,.l 0),(4,ml B M),(6,.l 0),(7,ml (B*M) C)] [(2,iN ((B*M)*C))] [2] (lf ab.zero [] [] []))
theorem k9(R S B M C:Nat)(d:cE R S B M C):aa VA 24 #[.agg #[iN R,iN S,iN B,iN M,iN C]] [] [] N0 (λ_=>iN ((R*B)*M)):=by
 have b:=d.bd;have f:=b.rb;have g:=b.rbm;exact fG Tryz.func24 λw e=>ra (λa=>[(1,pt (B0 a) 0),(2,i6 0)]) (λa=>[ob (B0 a) #[iN R,iN S,iN B,iN M,iN C] 23]) λa=>rF [(0,.l 0),(1,.c [] [] (ur R S B M C d))] 5 (r0 [(1,.l 0),(3,.l 0),(4,ml R B),(6,.l 0),(7,ml (R*B) M)] [(2,iN ((R*B)*M))] [2] (lf ab.zero [] [] []))
end
section
open Go.Shelf
def kz(v:Wr):Nat→ah→ah
 | _,[]=>[]
 | k,x::xs=>((cC v k).getD x)::kz v (k+1) xs
theorem rm(v:Wr): ∀(k:Nat) (L:ah),(kz v k L).length=L.length
 | _,[]=>rfl
 | k,x::xs=>by unfold kz;rw[Wi,Wi,rm v (k+1) xs]
theorem xB(v:Wr): ∀(k:Nat) (L:ah) (p:Nat),(kz v k L)[p]? =L[p]?.map λx=>(cC v (k+p)).getD x
 | _,[],_=>by unfold kz;simp
 | k,x::xs,0=>by unfold kz;simp
 | k,x::xs,p+1=>by unfold kz;rw[V6,V6,xB v (k+1) xs p,show k+1+p=k+(p+1) by omega]
section
variable {P:Program} {f:FuncId} {args:Array Value} {rest:ah} {wt:ab→ah} {v:ab→Value} {S S':ah→Prop}
theorem Mw{L:ah}{w:World}{cs:List aw}(hs:bl L cs)(e:eh cs.flatten w):kj (bI cs.flatten) w L.length (λp=>L[p]?) (λi=>cs.getD i []) w:=by
 have d:=qg e.nd;have k:=jd hs;have h: ∀i,∀z∈cs.getD i [],z∈cs.flatten:=λi z a=>by
  by_cases g:i<cs.length
  ·exact List.mem_flatten.2 ⟨_,ni g,a⟩
  ·rw[o7 g] at a;simp at a
 exact⟨λp j x c=>mI hs c,λp j c=>by rw[List.getElem?_eq_none_iff] at c;omega,λp j z a=>e.obj z (h p z a),λp _=>d.1 p,λp q _ _ b=>d.2 p q b,
  λp _ z a=> .inl (List.mem_map.2 ⟨z,h p z a,rfl⟩),rfl,rfl,rfl,VU _,λ_ _ _=>rfl⟩
theorem aa.pkR(d:Enters P f)(h: ∀L,S L→aa P f args (L++rest) [] wt v):aa P f args ((pk S)::rest) [] wt v:=by
 refine⟨d,λw a j b=>?_⟩;obtain⟨k,a,rfl,⟨L,c,e,g,rfl⟩,i⟩:=cD j;have:=(h L e).out w (c++a) (jU g i) (by rw[V2];rw[VW] at b;exact b);simpa using this
theorem xC(q:Nat)(x:aB)(r:Wr)(p:Nat):cC ((q,x)::r) p=if q=p then some x else cC r p:=rfl
theorem CB: ∀(a b:Wr) (p:Nat),cC (a++b) p=(cC a p).or (cC b p)
 | [],b,p=>by simp [cC]
 | (q,x)::a,b,p=>by
  rw[List.cons_append,xC,xC];by_cases e:q=p
  ·rw[ALifp e,ALifp e];rfl
  ·rw[ALifn e,ALifn e];exact CB a b p
theorem CC{qs:List Nat}{p:Nat}(h:p∉qs)(N:ah):cC (qs.zip N) p=none:=by
 cases e:cC (qs.zip N) p with
 | none=>rfl
 | some x=>exact absurd (List.of_mem_zip (p8 e)).1 h
theorem CD(m:Nat): ∀(N:ah) (k p:Nat),cC (((WA k N.length).map λi=>m+i).zip N) (m+k+p)=N[p]?
 | [],k,p=>by simp [cC]
 | x::N,k,0=>by simp [WO,cC]
 | x::N,k,p+1=>by
  rw[Wi,WO,List.map_cons,List.zip_cons_cons,V6,←CD m N (k+1) p];rw[xC,ALifn Om,show m+k+(p+1)=m+(k+1)+p by omega]
theorem aa.pkW{n:Nat}{N:ab→ah}(hE:Enters P f)(h: ∀L,S L→∃(O:List Nat) (wt:ab→ah),aa P f args (L++rest) O (λE=>wt E++N E) v∧(de O&&O.all λi=>decide (i<L.length))=true∧∀E,(wt E).length=O.length∧(N E).length=n∧S' (kz (O.zip (wt E)) 0 L)):
  aa P f args ((pk S)::rest) [0] (λE=>(pk S')::N E) v:=by
 refine⟨hE,λw F hs C=>?_⟩;obtain⟨bs,F,rfl,⟨L,ds,hL,Q,rfl⟩,hr⟩:=cD hs;obtain⟨O,wt,hC,I,hW⟩:=h L hL;rw[VI] at I;have X:=nh I.1;have q: ∀i∈O,i<L.length:=λi D=>by simpa using List.all_eq_true.1 I.2 i D
 have hlen:=jd Q;rw[VW] at C;refine(callsIn_wide (n:=6)).1 ((callsIn_wide.2 (hC.out w (ds++F) (jU Q hr) (by rw[V2];exact C))).mono λe w' he=>?_);obtain⟨E,r,e1,y,hst⟩:=he;obtain⟨hWl,hNl,K⟩:=hW E;have T:=jd y;rw[VF] at T;have R:bl (L++(N E).map λ_=> .c []) (ds++(N E).map λ_=>[]):=jU Q (by
  generalize N E=M
  induction M with
  | nil=>trivial
  | cons x M ih=>exact⟨rfl,ih⟩)
 have o:(ds++(N E).map λ_=>([]:aw)).flatten=ds.flatten:=by
  rw[V2];have:((N E).map λ_=>([]:aw)).flatten=[]:=by
   generalize N E=M
   induction M with
   | nil=>rfl
   | cons x M ih=>simp
  rw[this,Wd]
 have V:eh ds.flatten w:=⟨λx hx=>C.obj x (WE _ hx),(List.pairwise_append.1 C.nd).1⟩;obtain⟨c,hF,hc⟩: ∃c,kj (bI ds.flatten) w (L++(N E).map λ_=>aB.c []).length (λp=>(L++(N E).map λ_=>aB.c [])[p]?) c w∧∀p,c p=(ds++(N E).map λ_=>[]).getD p []:=
  ⟨λp=>(ds++(N E).map λ_=>[]).getD p [],by have:=Mw R (w:=w) (by rw[o];exact V);rwa [o] at this,λ_=>rfl⟩
 have t:(L++(N E).map λ_=>aB.c []).length=L.length+(N E).length:=by rw[VF,VH]
 obtain⟨qs,l⟩: ∃qs,qs=O++(WA 0 (N E).length).map λi=>L.length+i:=⟨_,rfl⟩;have Y:qs.length=r.length:=by rw[l,VF,VH,List.length_range'];omega
 have Z:qs.Nodup:=by
  rw[l,List.nodup_append];refine⟨X,?_,λa ha b m e=>?_⟩
  ·refine List.Pairwise.map _ (λa b h e=>h Om) (List.nodup_range' (s:=0) (n:=(N E).length))
  ·obtain⟨i,_,rfl⟩:=List.mem_map.1 m;have:=q a ha;omega
 have u:=sN (qs:=qs) (ds:=r) Y Z;have hzl:qs.length=(wt E++N E).length:=by rw[VF];omega
 have U:((qs.zip (wt E++N E)).flatMap λx=>kQ qs r x.1)=r.flatten:=by rw[o6 hzl,u]
 have H:=hF.step (d:=kQ qs r) (v:=qs.zip (wt E++N E)) (sP u y) (by rw[U];exact hst) (λb m=>by
  obtain⟨i,D,m⟩:=List.mem_flatMap.1 m;have hil:=q i D;have hg:(ds++F).getD i []=c i:=by rw[hc,VB,VB,VO Om,VO Om]
  rw[hg] at m;obtain⟨z,hz,rfl⟩:=List.mem_map.1 m;refine⟨i,by omega,?_,z,hz,rfl⟩;obtain⟨j,hj,ej⟩:=WJ (show i∈qs from l▸WE _ D);refine⟨(wt E++N E)[j]'Om,?_⟩;rw[←ej];exact List.mem_iff_getElem.2 ⟨j,by rw[List.length_zip];omega,by rw[List.getElem_zip]⟩)
 have A:qs.zip (wt E++N E)=O.zip (wt E)++((WA 0 (N E).length).map λi=>L.length+i).zip (N E):=by rw[l,List.zip_append Om]
 have J:aE (bI ds.flatten) w (kz (O.zip (wt E)) 0 L++N E) w':=by
  refine⟨n4 c (qs.zip (wt E++N E)) (kQ qs r),?_⟩;rw[VF,rm,←t];refine H.congr λp hp=>?_;rw[t] at hp;unfold kN;rw[A,CB];by_cases k:p<L.length
  ·rw[VO (by rw[rm];exact k),xB,Wv,CC (qs:=(WA 0 (N E).length).map λi=>L.length+i) (λW=>by obtain⟨i,_,e⟩:=List.mem_map.1 W;omega)];have e2:(L++(N E).map λ_=>aB.c [])[p]? =L[p]? :=VO k;simp only[e2,VE k];cases cC (O.zip (wt E)) p<;>rfl
  ·rw[VR (by rw[rm];omega),rm,CC (λW=>k (q p W))];have:=CD L.length (N E) 0 (p-L.length);rw[show L.length+0+(p-L.length)=p by omega] at this;rw[this,VE Om];rfl
 obtain⟨cs2,h2,g⟩:=J.conc;obtain⟨B,G,rfl,h3,h4⟩:=nm h2;refine⟨E,B.flatten::G,e1,⟨⟨_,B,K,h3,rfl⟩,h4⟩,?_⟩;have ef:(B.flatten::G).flatten=(B++G).flatten:=by rw[VW,V2]
 rw[ef];refine⟨g.os,g.tape,g.output,g.size,g.obj,λx hx=>?_,g.nd,λb m X=>g.far b m (by simpa using X)⟩;have:=g.lo x hx;simpa using this
theorem aa.pkZ{a:Func}(hf:P.funcs[f]? =some a)(h: ∀L,S L→∃(O:List Nat) (wt:ab→ah),aa P f args (L++rest) O (λE=>wt E++[]) v∧(de O&&O.all λi=>decide (i<L.length))=true∧∀E,(wt E).length=O.length∧([]:ah).length=0∧S' (kz (O.zip (wt E)) 0 L))(c:(a.name== "runtime.NumGoroutine")=false:=by kernel_rfl)(b:a.body.isSome=true:=by kernel_rfl):aa P f args (.p (mM S)::rest) [0] (λE=> .p (mM S')::[]) v:=aa.pkW (n:=0) (N:=λ_=>[]) (fN hf c b) h
theorem Mx: ∀cs:List aw,(VC cs.length).flatMap (λi=>bI (cs.getD i []))=bI cs.flatten:=by
 intro cs;have h:(VC cs.length).map (λi=>cs.getD i [])=cs:=by
  apply List.ext_getElem (by simp);intro i b a;rw[List.getElem_map,List.getElem_range,VB,VE a];rfl
 have a:(VC cs.length).flatMap (λi=>bI (cs.getD i []))=(((VC cs.length).map λi=>cs.getD i []).map bI).flatten:=by rw[List.flatMap_def,List.map_map];rfl
 rw[a,h];unfold bI;rw[List.map_flatten]
theorem aa.unpk{a c:ah}{N:ab→ah}(h:aa P f args [pk λL=>L=a] [0] (λE=>(pk λL=>L=c)::N E) v):aa P f args a (VC a.length) (λE=>c++N E) v:=by
 refine⟨h.ent,λw g j r=>?_⟩;refine(callsIn_wide (n:=6)).1 ((callsIn_wide.2 (h.out w [g.flatten] ⟨⟨a,g,rfl,j,rfl⟩,trivial⟩ (by simpa using r))).mono λe s q=>?_);obtain⟨E,i,k,l,m⟩:=q;obtain⟨d,i,rfl,⟨L,b,rfl,o,rfl⟩,p⟩:=cD l;refine⟨E,b++i,k,jU o p,?_⟩;rw[jd j,Mx,V2];simpa using m
theorem aa.outs{rd:ah}{O:List Nat}{b:ab→ah}(h:aa P f args rd O wt v)(p: ∀E ds,bl (wt E) ds→∃a,bl (b E) a∧a.flatten=ds.flatten):aa P f args rd O b v:=
 ⟨h.ent,λw c o m=>(callsIn_wide (n:=6)).1 ((callsIn_wide.2 (h.out w c o m)).mono λe q l=>by
  obtain⟨E,ds,d,g,i⟩:=l;obtain⟨a,j,k⟩:=p E ds g;exact⟨E,a,d,j,by rw[k];exact i⟩)⟩
theorem rn{S:ah→Prop}{L:ah}{ds:List aw}(b:S L)(h:bl L ds): ∃a,bl [pk S] a∧a.flatten=ds.flatten:=⟨[ds.flatten],⟨⟨L,ds,b,h,rfl⟩,trivial⟩,by simp⟩
theorem aa.inW{x y:aB}{T T':ah→Prop}(h:aa P f args [x] [0] (λ_=>[y]) v)(m: ∀L,T L→∃j:Nat,L[j]? =some x∧T' (L.set j y)):aa P f args [pk T] [0] (λ_=>[pk T']) v:=by
 refine aa.pkW (n:=0) (N:=λ_=>[]) h.ent λL l=>?_;obtain⟨j,g,b⟩:=m L l;have a:=(List.getElem?_eq_some_iff.1 g).1;refine⟨[j],λ_=>[y],⟨h.ent,λw k c d=>?_⟩,by simp [de,a],λE=>⟨rfl,rfl,?_⟩⟩
 ·rw[Wd] at c;have o:=jd c;have:=h.out w [k.getD j []] ⟨mI c g,trivial⟩ ⟨λy i=>d.obj y (by
   rw[VW,WQ,Wd] at i;exact List.mem_flatten.2 ⟨_,ni Om,i⟩),by
   rw[VW,WQ,Wd];exact(qg d.nd).1 j⟩
  simpa using this
 ·have e:kz ([j].zip [y]) 0 L=L.set j y:=by
   apply Wg;intro p;rw[xB,Wv,V1];by_cases e:j=p
   ·subst e;simp [cC,a]
   ·rw[ALifn e];cases L[p]?<;>simp [cC,e]
  show T' (kz ([j].zip [y]) 0 L);rw[e];exact b
end
end
section
open Go.Shelf
def rq(x:Nat):List Value:=[iN x]
def cc:Kd VA Nat:=⟨rq,[i6 0],74,3,0,1,λ_=>rfl,rfl,λ_=>rfl,dU.mk' Kr Kr rfl⟩
abbrev bK(v:Value)(xs:List Nat):aB:= .p (ar rq ([i6 0]) 3 v xs)
def CE(x:Bool):List Value:=[.bool x]
def j7:Kd VA Bool:=⟨CE,[.bool false],135,4,false,1,λ_=>rfl,rfl,λ_=>rfl,dU.mk' Kr Kr rfl⟩
abbrev eQ(v:Value)(xs:List Bool):aB:= .p (ar CE ([.bool false]) 4 v xs)
def iK(n:Nat)(bs:List Nat)(k:Nat):Nat:=(bs.take k).foldl (· / ·) n
def aD(n:Nat)(bs:List Nat)(k:Nat):List Nat:=(VC k).map λi=>iK n bs i%bs.getD i 0
theorem My{n:Nat}{bs:List Nat}{k:Nat}(h:k<bs.length):iK n bs (k+1)=iK n bs k/bs.getD k 0:=by
 unfold iK;rw[Ws,VE h,VB,VE h,Wt];rfl
theorem Mz(n:Nat)(bs:List Nat): ∀k,iK n bs k≤n:=by
 intro k;unfold iK;generalize bs.take k=l
 induction l generalizing n with
 | nil=>exact VU _
 | cons b l ih=>exact VT (ih (n/b)) (WU _ _)
theorem MA{n:Nat}{bs:List Nat}{k:Nat}:aD n bs (k+1)=aD n bs k++[iK n bs k%bs.getD k 0]:=by
 unfold aD;rw[V4,Wk];rfl
theorem MB(n:Nat)(bs:List Nat)(k:Nat):(aD n bs k).length=k:=by unfold aD;rw[VH,VN]
def ez(d a:List Nat):Nat→Nat
 | 0=>0
 | k+1=>ez d a k*a.getD (a.length-1-k) 0+d.getD (a.length-1-k) 0
theorem CF{e:BinOp}{f:Nat→Nat→Nat}(a b:Nat)(g:a<9223372036854775808)(i:b<9223372036854775808)(k:f a b<9223372036854775808)(h:bits e .i64 (a:Int) (b:Int)=IntKind.i64.wrap ((f (BitVec.ofInt 64 (a:Int)).toNat (BitVec.ofInt 64 (b:Int)).toNat:Nat):Int)):bits e .i64 (a:Int) (b:Int)=((f a b:Nat):Int):=by
 have d: ∀c:Nat,c<9223372036854775808→(BitVec.ofInt 64 (c:Int)).toNat=c:=by
  intro c j;rw[BitVec.ofInt_natCast,BitVec.toNat_ofNat];exact Nat.mod_eq_of_lt Om
 rw[h,d a g,d b i];exact IntWalk.i64_in _ Om
theorem MC(a b:Nat)(c:a<9223372036854775808)(d:b<9223372036854775808):bits .and .i64 (a:Int) (b:Int)=((a&&& b:Nat):Int):=
 CF (f:=λa b=>a&&& b) a b c d (V7 Nat.and_le_left c) (by show IntKind.i64.wrap ((BitVec.ofInt 64 (a:Int)&&& BitVec.ofInt 64 (b:Int)).toNat:Int)=_;rw[BitVec.toNat_and])
theorem ME(a b:Nat)(c:a<9223372036854775808)(d:b<9223372036854775808):bits .xor .i64 (a:Int) (b:Int)=((a^^^b:Nat):Int):=
 CF (f:=λa b=>a^^^b) a b c d (Wq (n:=63) Om Om) (by show IntKind.i64.wrap ((BitVec.ofInt 64 (a:Int)^^^BitVec.ofInt 64 (b:Int)).toNat:Int)=_;rw[BitVec.toNat_xor])
section
variable {P:Program} {T:TypeId} {x y:Operand} {w:World}
theorem CG(a b:Nat)(c:a<9223372036854775808)(d:b<9223372036854775808):(av .and T x y (.int .i64 (a:Int)) (.int .i64 (b:Int))).run P w= .ok (.int .i64 ((a&&& b:Nat):Int)) w:=by rw[←MC a b c d];rfl
theorem CH(a b:Nat)(c:a<9223372036854775808)(d:b<9223372036854775808):(av .xor T x y (.int .i64 (a:Int)) (.int .i64 (b:Int))).run P w= .ok (.int .i64 ((a^^^b:Nat):Int)) w:=by rw[←ME a b c d];rfl
end
theorem dF{P:Program}{m:Sem Value}{w:World}{a b:Int}{k:IntKind}(h:m.run P w= .ok (.int k a) w)(e:a=b):m.run P w= .ok (.int k b) w:=e▸h
def bU(p0 p1 p2 p3:Nat):Nat:=p0*1048576+p1*65536+p2*64+p3
structure gZ (R S B M C p0 p1 p2 p3:Nat):Prop where
 h0:p0<R+S
 h1:p1<B
 h2:p2<M
 h3:p3<C
section
variable {R S B M C p0 p1 p2 p3:Nat}
theorem gZ.hold(h:gZ R S B M C p0 p1 p2 p3):hold R S B M C p0 p1 p2 p3=true:=by
 have:=h.h0;have:=h.h1;have:=h.h2;have:=h.h3;exact uk.2 Om
theorem xD(a:gY R S B M C)(h:gZ R S B M C p0 p1 p2 p3):bU p0 p1 p2 p3<8388608:=by
 have:=a.r8;have:=a.b16;have:=a.m10;have:=a.c64;have:=h.h0;have:=h.h1;have:=h.h2;have:=h.h3;unfold bU;omega
theorem uu:dM (p0:Int) p1 p2 p3=(bU p0 p1 p2 p3:Int):=by unfold dM bU;omega
theorem MF(a:gY R S B M C)(h:gZ R S B M C p0 p1 p2 p3):bU p0 p1 p2 p3/1048576=p0∧bU p0 p1 p2 p3/65536%16=p1∧bU p0 p1 p2 p3/64%1024=p2∧bU p0 p1 p2 p3%64=p3:=by
 have:=a.r8;have:=a.b16;have:=a.m10;have:=a.c64;have:=h.h0;have:=h.h1;have:=h.h2;have:=h.h3;unfold bU;omega
theorem ru(a:cE R S B M C)(h:gZ R S B M C p0 p1 p2 p3):aa VA 147 #[.agg #[iN R,iN S,iN B,iN M,iN C],.agg #[iN p0,iN p1,iN p2,iN p3]] [] [] N0 (λ_=> .tuple #[i6 (bU p0 p1 p2 p3:Int),i6 0]):=by
 have:=Cz R S B M C a p0 p1 p2 p3;unfold qY qZ at this;rwa [h.hold,uu] at this
theorem rv(a:cE R S B M C)(h:gZ R S B M C p0 p1 p2 p3):aa VA 68 #[.agg #[iN R,iN S,iN B,iN M,iN C],i6 (bU p0 p1 p2 p3:Int)] [] [] N0 (λ_=> .tuple #[.agg #[iN p0,iN p1,iN p2,iN p3],i6 0]):=by
 have:=CA R S B M C a (bU p0 p1 p2 p3:Nat);have e:=MF a.bd h;have b:((bU p0 p1 p2 p3:Nat):Int)/1048576=(p0:Int):=by omega
 have c:((bU p0 p1 p2 p3:Nat):Int)/65536%16=(p1:Int):=by omega
 have d:((bU p0 p1 p2 p3:Nat):Int)/64%1024=(p2:Int):=by omega
 have f:((bU p0 p1 p2 p3:Nat):Int)%64=(p3:Int):=by omega
 unfold Vp rh ri rj rl at this;rw[b,c,d,f,h.hold,bh Om] at this;exact this
end
theorem pD{B r b:Nat}(h:B∈[1,2,4,8,16,32,64,128,256,512,1024])(d:b<B):b^^^(r&&& (B-1))<B:=by
 have c:r&&& (B-1)<B:=V7 Wx Om;have a: ∀k,B=2^k→b^^^(r&&& (B-1))<B:=λk e=>by rw[e] at d c⊢;exact Wq d c
 simp only[WV,Ww,or_false] at h;rcases h with h | h | h | h | h | h | h | h | h | h | h
 ·exact a 0 h
 ·exact a 1 h
 ·exact a 2 h
 ·exact a 3 h
 ·exact a 4 h
 ·exact a 5 h
 ·exact a 6 h
 ·exact a 7 h
 ·exact a 8 h
 ·exact a 9 h
 ·exact a 10 h
def gJ(B r b:Nat):Nat:=b^^^(r&&& (B-1))
def mb(way R B M p:Nat):List Nat:=match way with
 | 0=>aD p [M,B,R] 3
 | 1=>aD p [B,M,R] 3
 | _=>aD p [R,B,M] 3
def aJ(way R B M p:Nat):Nat:=match way with
 | 0=>(mb way R B M p).getD 2 0
 | 1=>(mb way R B M p).getD 2 0
 | _=>(mb way R B M p).getD 0 0
def fD(way R B M p:Nat):Nat:=match way with
 | 0=>(mb way R B M p).getD 0 0
 | 1=>(mb way R B M p).getD 1 0
 | _=>(mb way R B M p).getD 2 0
def fF(way R B M p:Nat):Nat:=match way with
 | 0=>(mb way R B M p).getD 1 0
 | 1=>(mb way R B M p).getD 0 0
 | 2=>(mb way R B M p).getD 1 0
 | _=>gJ B (fD way R B M p) ((mb way R B M p).getD 1 0)
def mc(way R B M r b w:Nat):Nat:=match way with
 | 0=>ez [w,b,r] [M,B,R] 3
 | 1=>ez [b,w,r] [B,M,R] 3
 | 2=>ez [r,b,w] [R,B,M] 3
 | _=>ez [r,gJ B w b,w] [R,B,M] 3
def gK(way R B M p:Nat):Nat:=bU (aJ way R B M p) (fF way R B M p) (fD way R B M p) 0/64
theorem MG(x y z a b c:Nat):ez [x,y,z] [a,b,c] 3=((0*c+z)*b+y)*a+x:=rfl
theorem ry{x y z a b c:Nat}(g:x<a)(h:y<b)(f:z<c):ez [x,y,z] [a,b,c] 3<c*b*a:=by
 rw[MG,W4,Wv];have d:z*b+y<c*b:=by
  have:(z+1)*b≤c*b:=VL b f;rw[V0] at this;omega
 have e:(z*b+y+1)*a≤c*b*a:=VL a d;rw[V0] at e;omega
section
variable {R S B M C way p:Nat}
theorem oF(e:cE R S B M C)(hp:p<R*B*M):gZ R S B M C (aJ way R B M p) (fF way R B M p) (fD way R B M p) 0:=by
 have b:=e.bd;have c:=b.r1;have a:=b.b1;have d:=b.m1;have g:=b.c1;have h:aJ way R B M p<R:=by
  match way with
  | 0=>exact VJ _ c
  | 1=>exact VJ _ c
  | w+2=>exact VJ p c
 have f:fD way R B M p<M:=by
  match way with
  | 0=>exact VJ p d
  | 1=>exact VJ _ d
  | w+2=>exact VJ _ d
 refine⟨by omega,?_,f,by omega⟩
 match way with
 | 0=>exact VJ _ a
 | 1=>exact VJ _ a
 | 2=>exact VJ _ a
 | w+3=>exact pD e.pow (VJ (p/R) a)
theorem rz(b:cE R S B M C):aJ way R B M p<R:=by
 have a:=b.bd.r1
 match way with
 | 0=>exact VJ _ a
 | 1=>exact VJ _ a
 | w+2=>exact VJ p a
theorem MI(a:cE R S B M C)(hp:p<R*B*M):gK way R B M p<131072:=by
 have:=xD a.bd (oF (way:=way) a hp);unfold gK;omega
theorem MJ(d a:List Nat): ∀j k,j≤k→k≤3→a.length=3→(∀i,i<3→1≤a.getD i 0)→ez d a j≤ez d a k:=by
 intro j k b
 induction b with
 | refl=>intros;exact VU _
 | @step k h ih=>
  intro f e c;refine VT (ih Om e c) ?_;show ez d a k≤ez d a k*a.getD (a.length-1-k) 0+_;have:=Wj (ez d a k) (c (a.length-1-k) Om);omega
theorem uv{x y z a b c:Nat}(d:x<a)(e:y<b)(f:z<c)(l:c*b*a≤1000000)(k:Nat)(g:k≤[a,b,c].length):ez [x,y,z] [a,b,c] k≤1000000:=by
 have h:=ry d e f;refine VT (MJ _ _ k 3 g (VU _) rfl λi j=>?_) Om
 match i with
 | 0=>exact V7 (V9 _) d
 | 1=>exact V7 (V9 _) e
 | 2=>exact V7 (V9 _) f
theorem xF:gK way R B M p=aJ way R B M p*16384+fF way R B M p*1024+fD way R B M p:=by unfold gK bU;omega
end
end
section
open Go.Shelf
theorem xG(r s b m c way:Int):aa VA 134 #[.agg #[i6 r,i6 s,i6 b,i6 m,i6 c],i6 way] [] [] N0 (λ_=> .bool (((iJ r s b m c)&&(decide (0≤way)))&&(decide (way<4)))):=by
 exact fG Tryz.func134 λw d=>ra (λa=>[(2,pt (B0 a) 0),(4,.bool false)]) (λa=>[ob (B0 a) #[i6 r,i6 s,i6 b,i6 m,i6 c] 23]) λa=>r0 [(0,.l 0),(1,.c [] [] (Cx r s b m c))] [(4,.bool (((iJ r s b m c)&&(decide (0≤way)))&&(decide (way<4))))] [4] (ak (.bool (((iJ r s b m c)&&(decide (0≤way)))&&(decide (way<4)))) ab.zero Vm [] [] [])
theorem m5(R S B M C:Nat)(a:cE R S B M C)(way:Nat)(b:way<4):aa VA 134 #[.agg #[iN R,iN S,iN B,iN M,iN C],iN way] [] [] N0 (λ_=> .bool true):=by
 have h:=xG R S B M C way;rwa [a.ok,cx Om,cx Om] at h
theorem uw(v:Value)(n:Nat)(c:List Nat)(z:n≤1000000)(y:c.length≤1000)(o: ∀k,k<c.length→1≤c.getD k 0∧c.getD k 0≤1000000):aa VA 146 #[iN n,v] [.p (aH rq v c)] [] (λE=>[bK (E.val 0) (aD n c c.length)]) (λE=>(E.val 0)):=by
 refine fO Tryz.func146 0 rfl λi f=>fG Tryz.func146 λw u=>r0 [] [(4,.slice none 0 0)] [] (r0 [] [(5,.slice none 0 0)] [] (r0 [(1,eD f.1 0)] [(8,v),(9,iN c.length),(10,i6 0)] [] (cz cc ?_)));refine mP (λk _=>k≤c.length) (λk e=>[(0,iN (iK n c k)),(10,iN k),(5,e)]) (λk e L=>L.set 1 (bK e (aD n c k))) (λk _=>c.length-k) 0 (.slice none 0 0) Om Kr Kr (λk e s=>?_);have x:=Mz n c k;have r:=MB n c k;refine r0 [] [(11,.bool (decide ((k:Int)<(c.length:Int))))] [] ?_;refine b0 (k:Int) (c.length:Int) (λj h=>?_) λj h=>?_
 ·refine r0 [(0,fa f.1 0 k 1),(1,iE cc f.1 0 k 0)] [(7,iN (c.getD k 0))] [] ?_;have q:=o k Om;exact rr (λ_=>[(3,.t (tb (a:=iN (iK n c k)) (b:=iN (c.getD k 0)) λ_ _ _ _=>nu (a:=iK n c k) (d:=(c.getD k 0)) Om)),(4,.m (bs 2 1)),(5,fp cc (e) (aD n c k) 1 2 ([(iK n c k)%(c.getD k 0)]))]) (λg=>[(5,(g 5).val 0)]) [5] (λg L=>L.set 1 (bK ((g 5).val 0) ((aD n c k)++([(iK n c k)%(c.getD k 0)])))++[ob (B4 g) #[iN ((iK n c k)%(c.getD k 0))] 3]) λg=>r0 [(2,.t (tb (a:=iN (iK n c k)) (b:=iN (c.getD k 0)) λ_ _ _ _=>og (a:=iK n c k) (d:=(c.getD k 0)) Om Om))] [(0,iN ((iK n c k)/(c.getD k 0)))] [0] (r0 [(0,ad k 1)] [(10,iN (k+1))] [10] (kY (k+1) ((g 5).val 0) Om Om (by rw[My Om];kernel_rfl) [0,1] (by rw[MA];kernel_rfl)))
 obtain rfl:c.length=k:=by omega
 refine kZ ?_;exact r0 [] [(4,e)] [4] (lf (.l [] [] [e]) [1] [(0,0)] [])
theorem ux(v u:Value)(d a:List Nat)(q:a.length≤1000)(o:d.length=a.length)(j: ∀k,k≤a.length→ez d a k≤1000000):aa VA 145 #[v,u] [.p (aH rq v d),.p (aH rq u a)] [] N0 (λ_=>iN (ez d a a.length)):=by
 refine fO Tryz.func145 0 rfl λg c=>fO Tryz.func145 1 rfl λh b=>fG Tryz.func145 λw n=>r0 [] [(4,i6 0)] [] (r0 [] [(5,i6 0)] [] (r0 [(1,eD b.1 1),(2,sI (a.length:Int) (1) Om)] [(6,i6 ((a.length:Int)-1))] [] ?_));refine lq (λk=>k≤a.length) (λk=>[(5,iN (ez d a k)),(6,i6 (((a.length:Nat):Int)-1-((k:Nat):Int)))]) (λ_ L=>L) (λk=>a.length-k) 0 Om (by rw[show((a.length:Nat):Int)-1-((0:Nat):Int)=(a.length:Int)-1 by omega];kernel_rfl) Kr (λk m=>?_);refine r0 [] [(11,.bool (decide (0≤(((a.length:Nat):Int)-1-((k:Nat):Int)))))] [] ?_;refine om 0 (((a.length:Nat):Int)-1-((k:Nat):Int)) (λi e=>?_) λi e=>?_
 ·have l:=j (k+1) Om;have f:ez d a (k+1)=ez d a k*a.getD (a.length-1-k) 0+d.getD (a.length-1-k) 0:=rfl;exact r0 [(2,.t (tk (show i6 (((a.length:Nat):Int)-1-((k:Nat):Int))=iN (a.length-1-k) from ALca (Value.int .i64) Om))),(3,fa b.1 1 (a.length-1-k) 1),(4,iE cc b.1 1 (a.length-1-k) 0),(5,ml (ez d a k) (a.getD (a.length-1-k) 0)),(7,.t (tk (show i6 (((a.length:Nat):Int)-1-((k:Nat):Int))=iN (a.length-1-k) from ALca (Value.int .i64) Om))),(8,fa c.1 0 (a.length-1-k) 1),(9,iE cc c.1 0 (a.length-1-k) 0),(10,ad ((ez d a k)*(a.getD (a.length-1-k) 0)) (d.getD (a.length-1-k) 0))] [(5,iN (((ez d a k)*(a.getD (a.length-1-k) 0))+(d.getD (a.length-1-k) 0)))] [5] (r0 [(1,sI (((a.length:Nat):Int)-1-((k:Nat):Int)) (1) Om)] [(6,i6 ((((a.length:Nat):Int)-1-((k:Nat):Int))-1))] [6] (le (k+1) Om Om (by rw[show(((a.length:Nat):Int)-1-((k+1:Nat):Int))=((a.length:Nat):Int)-1-((k:Nat):Int)-1 by omega];kernel_rfl) [0,1] Kr))
 obtain rfl:k=a.length:=by omega
 exact lx (r0 [] [(4,iN (ez d a a.length))] [4] (lf ab.zero [] [(0,0),(1,1)] []))
end
section
open Go.Shelf
theorem MK(R S B M C:Nat)(f:cE R S B M C)(p:Nat)(hp:p<R*B*M):aa VA 122 #[.agg #[iN R,iN S,iN B,iN M,iN C],i6 0,iN p] [] [] N0 (λ_=> .tuple #[iN (gK 0 R B M p),i6 0]):=by
 have e:=f.bd;have A:=e.rbm;have D:=e.r8;have n:=e.b16;have o:=e.b1;have v:=e.m10;have x:=e.m1;have y:=e.r1;have q:=e.c1;have r:(aD p [M,B,R] [M,B,R].length).length=3:=rfl;refine fG Tryz.func122 λw z=>ra (λi=>[(3,pt (B0 i) 0),(6,i6 0),(7,i6 0)]) (λi=>[ob (B0 i) #[iN R,iN S,iN B,iN M,iN C] 23]) λi=>r0 [(0,.m (ls 0 ([iN R,iN S,iN B,iN M,iN C]))),(2,.c [] [] (m5 R S B M C f 0 Om)),(10,.m (ls 0 ([iN R,iN S,iN B,iN M,iN C]))),(11,.c [] [] (k9 R S B M C f))] [(27,.bool ((decide ((p:Int)<0))||(decide ((((R*B)*M:Nat):Int)≤(p:Int)))))] [] ?_;have j:((decide ((p:Int)<0))||(decide ((((R*B)*M:Nat):Int)≤(p:Int))))=false:=(by rw[VK];exact⟨bh Om,bh Om⟩);exact cF ((decide ((p:Int)<0))||(decide ((((R*B)*M:Nat):Int)≤(p:Int)))) j (ra (λg=>[(8,pt (B0 g) 0)]) (λg=>[ob (B0 g) #[i6 0,i6 0,i6 0,i6 0] 46]) λg=>r0 [] [(28,i6 0)] [] (rT [] 50 (rr (λd=>[(2,.l 0),(4,.l 0),(6,.l 0),(7,gH cc 2 3 [M,B,R]),(8,.c [2] [3] (aa.at (rd':=[bK (.slice (some ⟨(d 7).y 0,0,none⟩) 3 3) ([M,B,R])]) (uw (.slice (some ⟨(d 7).y 0,0,none⟩) 3 3) p ([M,B,R]) Om (by simp) (λk u=>by rcases k with _ | _ | _ | k<;>first | exact⟨by first | assumption,by simp;omega⟩ | (simp at u;omega))) (bM (λ_ h=>ar.sq h) (λ_ h=>h))))]) (λd=>[(9,((d 8).val 0))]) [] (λd L=>L++[bK (.slice (some ⟨(d 7).y 0,0,none⟩) 3 3) ([M,B,R]),bK ((d 8).val 0) (aD p ([M,B,R]) ([M,B,R]).length)]) λd=>rs [(1,cH cc ((d 8).val 0) (aD p ([M,B,R]) ([M,B,R]).length) 3 0),(2,eP cc ((d 8).val 0) (aD p ([M,B,R]) ([M,B,R]).length) 3 0 0),(4,cH cc ((d 8).val 0) (aD p ([M,B,R]) ([M,B,R]).length) 3 1),(5,eP cc ((d 8).val 0) (aD p ([M,B,R]) ([M,B,R]).length) 3 1 0),(7,cH cc ((d 8).val 0) (aD p ([M,B,R]) ([M,B,R]).length) 3 2),(8,eP cc ((d 8).val 0) (aD p ([M,B,R]) ([M,B,R]).length) 3 2 0),(10,.s 1),(12,.s 1),(14,.s 1)] 1 (ob (B0 g) #[iN ((aD p ([M,B,R]) ([M,B,R]).length).getD 2 0),iN ((aD p ([M,B,R]) ([M,B,R]).length).getD 1 0),iN ((aD p ([M,B,R]) ([M,B,R]).length).getD 0 0),i6 0] 46) (rF [] 97 (r0 [(0,.l 0),(1,.l 1),(2,.c [] [] (ru f (oF (way:=0) f hp)))] [(12,iN (bU ((aD p ([M,B,R]) ([M,B,R]).length).getD 2 0) ((aD p ([M,B,R]) ([M,B,R]).length).getD 1 0) ((aD p ([M,B,R]) ([M,B,R]).length).getD 0 0) 0)),(13,i6 0)] [] (r0 [(1,.t (tb (a:=iN (bU ((aD p ([M,B,R]) ([M,B,R]).length).getD 2 0) ((aD p ([M,B,R]) ([M,B,R]).length).getD 1 0) ((aD p ([M,B,R]) ([M,B,R]).length).getD 0 0) 0)) (b:=u6 6) λ_ _ _ _=>ie 6 Dc))] [(6,i6 (((bU ((aD p ([M,B,R]) ([M,B,R]).length).getD 2 0) ((aD p ([M,B,R]) ([M,B,R]).length).getD 1 0) ((aD p ([M,B,R]) ([M,B,R]).length).getD 0 0) 0:Nat):Int)/64)),(7,i6 0)] [6,7] (ak (.tuple #[i6 (((bU ((aD p ([M,B,R]) ([M,B,R]).length).getD 2 0) ((aD p ([M,B,R]) ([M,B,R]).length).getD 1 0) ((aD p ([M,B,R]) ([M,B,R]).length).getD 0 0) 0:Nat):Int)/64),i6 0]) ab.zero Vm [] [] [])))))))
theorem ML(R S B M C:Nat)(f:cE R S B M C)(p:Nat)(hp:p<R*B*M):aa VA 122 #[.agg #[iN R,iN S,iN B,iN M,iN C],i6 1,iN p] [] [] N0 (λ_=> .tuple #[iN (gK 1 R B M p),i6 0]):=by
 have e:=f.bd;have A:=e.rbm;have D:=e.r8;have n:=e.b16;have o:=e.b1;have v:=e.m10;have x:=e.m1;have y:=e.r1;have q:=e.c1;have r:(aD p [B,M,R] [B,M,R].length).length=3:=rfl;refine fG Tryz.func122 λw z=>ra (λi=>[(3,pt (B0 i) 0),(6,i6 0),(7,i6 0)]) (λi=>[ob (B0 i) #[iN R,iN S,iN B,iN M,iN C] 23]) λi=>r0 [(0,.m (ls 0 ([iN R,iN S,iN B,iN M,iN C]))),(2,.c [] [] (m5 R S B M C f 1 Om)),(10,.m (ls 0 ([iN R,iN S,iN B,iN M,iN C]))),(11,.c [] [] (k9 R S B M C f))] [(27,.bool ((decide ((p:Int)<0))||(decide ((((R*B)*M:Nat):Int)≤(p:Int)))))] [] ?_;have j:((decide ((p:Int)<0))||(decide ((((R*B)*M:Nat):Int)≤(p:Int))))=false:=(by rw[VK];exact⟨bh Om,bh Om⟩);exact cF ((decide ((p:Int)<0))||(decide ((((R*B)*M:Nat):Int)≤(p:Int)))) j (ra (λg=>[(8,pt (B0 g) 0)]) (λg=>[ob (B0 g) #[i6 0,i6 0,i6 0,i6 0] 46]) λg=>r0 [] [(28,i6 1)] [] (rF [] 50 (rT [] 73 (rr (λd=>[(2,.l 0),(4,.l 0),(6,.l 0),(7,gH cc 2 3 [B,M,R]),(8,.c [2] [3] (aa.at (rd':=[bK (.slice (some ⟨(d 7).y 0,0,none⟩) 3 3) ([B,M,R])]) (uw (.slice (some ⟨(d 7).y 0,0,none⟩) 3 3) p ([B,M,R]) Om (by simp) (λk u=>by rcases k with _ | _ | _ | k<;>first | exact⟨by first | assumption,by simp;omega⟩ | (simp at u;omega))) (bM (λ_ h=>ar.sq h) (λ_ h=>h))))]) (λd=>[(10,((d 8).val 0))]) [] (λd L=>L++[bK (.slice (some ⟨(d 7).y 0,0,none⟩) 3 3) ([B,M,R]),bK ((d 8).val 0) (aD p ([B,M,R]) ([B,M,R]).length)]) λd=>rs [(1,cH cc ((d 8).val 0) (aD p ([B,M,R]) ([B,M,R]).length) 3 0),(2,eP cc ((d 8).val 0) (aD p ([B,M,R]) ([B,M,R]).length) 3 0 0),(4,cH cc ((d 8).val 0) (aD p ([B,M,R]) ([B,M,R]).length) 3 1),(5,eP cc ((d 8).val 0) (aD p ([B,M,R]) ([B,M,R]).length) 3 1 0),(7,cH cc ((d 8).val 0) (aD p ([B,M,R]) ([B,M,R]).length) 3 2),(8,eP cc ((d 8).val 0) (aD p ([B,M,R]) ([B,M,R]).length) 3 2 0),(10,.s 1),(12,.s 1),(14,.s 1)] 1 (ob (B0 g) #[iN ((aD p ([B,M,R]) ([B,M,R]).length).getD 2 0),iN ((aD p ([B,M,R]) ([B,M,R]).length).getD 0 0),iN ((aD p ([B,M,R]) ([B,M,R]).length).getD 1 0),i6 0] 46) (rF [] 97 (r0 [(0,.l 0),(1,.l 1),(2,.c [] [] (ru f (oF (way:=1) f hp)))] [(12,iN (bU ((aD p ([B,M,R]) ([B,M,R]).length).getD 2 0) ((aD p ([B,M,R]) ([B,M,R]).length).getD 0 0) ((aD p ([B,M,R]) ([B,M,R]).length).getD 1 0) 0)),(13,i6 0)] [] (r0 [(1,.t (tb (a:=iN (bU ((aD p ([B,M,R]) ([B,M,R]).length).getD 2 0) ((aD p ([B,M,R]) ([B,M,R]).length).getD 0 0) ((aD p ([B,M,R]) ([B,M,R]).length).getD 1 0) 0)) (b:=u6 6) λ_ _ _ _=>ie 6 Dc))] [(6,i6 (((bU ((aD p ([B,M,R]) ([B,M,R]).length).getD 2 0) ((aD p ([B,M,R]) ([B,M,R]).length).getD 0 0) ((aD p ([B,M,R]) ([B,M,R]).length).getD 1 0) 0:Nat):Int)/64)),(7,i6 0)] [6,7] (ak (.tuple #[i6 (((bU ((aD p ([B,M,R]) ([B,M,R]).length).getD 2 0) ((aD p ([B,M,R]) ([B,M,R]).length).getD 0 0) ((aD p ([B,M,R]) ([B,M,R]).length).getD 1 0) 0:Nat):Int)/64),i6 0]) ab.zero Vm [] [] []))))))))
theorem MM(R S B M C:Nat)(f:cE R S B M C)(p:Nat)(hp:p<R*B*M):aa VA 122 #[.agg #[iN R,iN S,iN B,iN M,iN C],i6 2,iN p] [] [] N0 (λ_=> .tuple #[iN (gK 2 R B M p),i6 0]):=by
 have e:=f.bd;have A:=e.rbm;have D:=e.r8;have n:=e.b16;have o:=e.b1;have v:=e.m10;have x:=e.m1;have y:=e.r1;have q:=e.c1;have r:(aD p [R,B,M] [R,B,M].length).length=3:=rfl;refine fG Tryz.func122 λw z=>ra (λi=>[(3,pt (B0 i) 0),(6,i6 0),(7,i6 0)]) (λi=>[ob (B0 i) #[iN R,iN S,iN B,iN M,iN C] 23]) λi=>r0 [(0,.m (ls 0 ([iN R,iN S,iN B,iN M,iN C]))),(2,.c [] [] (m5 R S B M C f 2 Om)),(10,.m (ls 0 ([iN R,iN S,iN B,iN M,iN C]))),(11,.c [] [] (k9 R S B M C f))] [(27,.bool ((decide ((p:Int)<0))||(decide ((((R*B)*M:Nat):Int)≤(p:Int)))))] [] ?_;have j:((decide ((p:Int)<0))||(decide ((((R*B)*M:Nat):Int)≤(p:Int))))=false:=(by rw[VK];exact⟨bh Om,bh Om⟩);exact cF ((decide ((p:Int)<0))||(decide ((((R*B)*M:Nat):Int)≤(p:Int)))) j (ra (λg=>[(8,pt (B0 g) 0)]) (λg=>[ob (B0 g) #[i6 0,i6 0,i6 0,i6 0] 46]) λg=>r0 [] [(28,i6 2)] [] (rF [] 50 (rF [] 73 (rr (λd=>[(2,.l 0),(4,.l 0),(6,.l 0),(7,gH cc 2 3 [R,B,M]),(8,.c [2] [3] (aa.at (rd':=[bK (.slice (some ⟨(d 7).y 0,0,none⟩) 3 3) ([R,B,M])]) (uw (.slice (some ⟨(d 7).y 0,0,none⟩) 3 3) p ([R,B,M]) Om (by simp) (λk u=>by rcases k with _ | _ | _ | k<;>first | exact⟨by first | assumption,by simp;omega⟩ | (simp at u;omega))) (bM (λ_ h=>ar.sq h) (λ_ h=>h))))]) (λd=>[(11,((d 8).val 0))]) [] (λd L=>L++[bK (.slice (some ⟨(d 7).y 0,0,none⟩) 3 3) ([R,B,M]),bK ((d 8).val 0) (aD p ([R,B,M]) ([R,B,M]).length)]) λd=>rs [(1,cH cc ((d 8).val 0) (aD p ([R,B,M]) ([R,B,M]).length) 3 0),(2,eP cc ((d 8).val 0) (aD p ([R,B,M]) ([R,B,M]).length) 3 0 0),(4,cH cc ((d 8).val 0) (aD p ([R,B,M]) ([R,B,M]).length) 3 1),(5,eP cc ((d 8).val 0) (aD p ([R,B,M]) ([R,B,M]).length) 3 1 0),(7,cH cc ((d 8).val 0) (aD p ([R,B,M]) ([R,B,M]).length) 3 2),(8,eP cc ((d 8).val 0) (aD p ([R,B,M]) ([R,B,M]).length) 3 2 0),(10,.s 1),(12,.s 1),(14,.s 1)] 1 (ob (B0 g) #[iN ((aD p ([R,B,M]) ([R,B,M]).length).getD 0 0),iN ((aD p ([R,B,M]) ([R,B,M]).length).getD 1 0),iN ((aD p ([R,B,M]) ([R,B,M]).length).getD 2 0),i6 0] 46) (rF [] 97 (r0 [(0,.l 0),(1,.l 1),(2,.c [] [] (ru f (oF (way:=2) f hp)))] [(12,iN (bU ((aD p ([R,B,M]) ([R,B,M]).length).getD 0 0) ((aD p ([R,B,M]) ([R,B,M]).length).getD 1 0) ((aD p ([R,B,M]) ([R,B,M]).length).getD 2 0) 0)),(13,i6 0)] [] (r0 [(1,.t (tb (a:=iN (bU ((aD p ([R,B,M]) ([R,B,M]).length).getD 0 0) ((aD p ([R,B,M]) ([R,B,M]).length).getD 1 0) ((aD p ([R,B,M]) ([R,B,M]).length).getD 2 0) 0)) (b:=u6 6) λ_ _ _ _=>ie 6 Dc))] [(6,i6 (((bU ((aD p ([R,B,M]) ([R,B,M]).length).getD 0 0) ((aD p ([R,B,M]) ([R,B,M]).length).getD 1 0) ((aD p ([R,B,M]) ([R,B,M]).length).getD 2 0) 0:Nat):Int)/64)),(7,i6 0)] [6,7] (ak (.tuple #[i6 (((bU ((aD p ([R,B,M]) ([R,B,M]).length).getD 0 0) ((aD p ([R,B,M]) ([R,B,M]).length).getD 1 0) ((aD p ([R,B,M]) ([R,B,M]).length).getD 2 0) 0:Nat):Int)/64),i6 0]) ab.zero Vm [] [] []))))))))
theorem MN(R S B M C:Nat)(g:cE R S B M C)(p:Nat)(hp:p<R*B*M):aa VA 122 #[.agg #[iN R,iN S,iN B,iN M,iN C],i6 3,iN p] [] [] N0 (λ_=> .tuple #[iN (gK 3 R B M p),i6 0]):=by
 have e:=g.bd;have A:=e.rbm;have D:=e.r8;have q:=e.b16;have j:=e.b1;have x:=e.m10;have n:=e.m1;have y:=e.r1;have r:=e.c1;have u:(aD p [R,B,M] [R,B,M].length).length=3:=rfl;refine fG Tryz.func122 λw z=>ra (λi=>[(3,pt (B0 i) 0),(6,i6 0),(7,i6 0)]) (λi=>[ob (B0 i) #[iN R,iN S,iN B,iN M,iN C] 23]) λi=>r0 [(0,.m (ls 0 ([iN R,iN S,iN B,iN M,iN C]))),(2,.c [] [] (m5 R S B M C g 3 Om)),(10,.m (ls 0 ([iN R,iN S,iN B,iN M,iN C]))),(11,.c [] [] (k9 R S B M C g))] [(27,.bool ((decide ((p:Int)<0))||(decide ((((R*B)*M:Nat):Int)≤(p:Int)))))] [] ?_;have o:((decide ((p:Int)<0))||(decide ((((R*B)*M:Nat):Int)≤(p:Int))))=false:=(by rw[VK];exact⟨bh Om,bh Om⟩);refine cF ((decide ((p:Int)<0))||(decide ((((R*B)*M:Nat):Int)≤(p:Int)))) o (ra (λf=>[(8,pt (B0 f) 0)]) (λf=>[ob (B0 f) #[i6 0,i6 0,i6 0,i6 0] 46]) λf=>r0 [] [(28,i6 3)] [] (rF [] 50 (rF [] 73 (rr (λd=>[(2,.l 0),(4,.l 0),(6,.l 0),(7,gH cc 2 3 [R,B,M]),(8,.c [2] [3] (aa.at (rd':=[bK (.slice (some ⟨(d 7).y 0,0,none⟩) 3 3) ([R,B,M])]) (uw (.slice (some ⟨(d 7).y 0,0,none⟩) 3 3) p ([R,B,M]) Om (by simp) (λk v=>by rcases k with _ | _ | _ | k<;>first | exact⟨by first | assumption,by simp;omega⟩ | (simp at v;omega))) (bM (λ_ h=>ar.sq h) (λ_ h=>h))))]) (λd=>[(11,((d 8).val 0))]) [] (λd L=>L++[bK (.slice (some ⟨(d 7).y 0,0,none⟩) 3 3) ([R,B,M]),bK ((d 8).val 0) (aD p ([R,B,M]) ([R,B,M]).length)]) λd=>rs [(1,cH cc ((d 8).val 0) (aD p ([R,B,M]) ([R,B,M]).length) 3 0),(2,eP cc ((d 8).val 0) (aD p ([R,B,M]) ([R,B,M]).length) 3 0 0),(4,cH cc ((d 8).val 0) (aD p ([R,B,M]) ([R,B,M]).length) 3 1),(5,eP cc ((d 8).val 0) (aD p ([R,B,M]) ([R,B,M]).length) 3 1 0),(7,cH cc ((d 8).val 0) (aD p ([R,B,M]) ([R,B,M]).length) 3 2),(8,eP cc ((d 8).val 0) (aD p ([R,B,M]) ([R,B,M]).length) 3 2 0),(10,.s 1),(12,.s 1),(14,.s 1)] 1 (ob (B0 f) #[iN ((aD p ([R,B,M]) ([R,B,M]).length).getD 0 0),iN ((aD p ([R,B,M]) ([R,B,M]).length).getD 1 0),iN ((aD p ([R,B,M]) ([R,B,M]).length).getD 2 0),i6 0] 46) (rT [] 97 ?_)))));have i:(aD p [R,B,M] [R,B,M].length).getD 2 0<M:=VJ _ n;have F:(aD p [R,B,M] [R,B,M].length).getD 1 0<B:=VJ _ j;have G:(aD p [R,B,M] 3).getD 2 0&&& (B-1)≤B-1:=Wx;exact rs [(1,.l 1),(3,.l 1),(5,.l 0),(6,.t (tb (a:=iN B) (b:=i6 1) λ_ _ _ _=>k4 (a:=B) (b:=1) Om Om)),(7,.t (tv (av .and 3 (.tmp 101) (.tmp 104) (iN ((aD p ([R,B,M]) ([R,B,M]).length).getD 2 0)) (iN (B-1))) (λ_=>CG _ (B-1) Om Om))),(8,.t (tv (av .xor 3 (.tmp 99) (.tmp 105) (iN ((aD p ([R,B,M]) ([R,B,M]).length).getD 1 0)) (iN (((aD p [R,B,M] 3).getD 2 0)&&& (B-1)))) (λ_=>CH _ _ Om Om))),(10,.s 1)] 1 (ob (B0 f) #[iN ((aD p ([R,B,M]) ([R,B,M]).length).getD 0 0),iN (gJ B ((aD p [R,B,M] 3).getD 2 0) ((aD p [R,B,M] 3).getD 1 0)),iN ((aD p ([R,B,M]) ([R,B,M]).length).getD 2 0),i6 0] 46) (r0 [(0,.l 0),(1,.l 1),(2,.c [] [] (ru g (oF (way:=3) g hp)))] [(12,iN (bU ((aD p ([R,B,M]) ([R,B,M]).length).getD 0 0) (gJ B ((aD p [R,B,M] 3).getD 2 0) ((aD p [R,B,M] 3).getD 1 0)) ((aD p ([R,B,M]) ([R,B,M]).length).getD 2 0) 0)),(13,i6 0)] [] (r0 [(1,.t (tb (a:=iN (bU ((aD p ([R,B,M]) ([R,B,M]).length).getD 0 0) (gJ B ((aD p [R,B,M] 3).getD 2 0) ((aD p [R,B,M] 3).getD 1 0)) ((aD p ([R,B,M]) ([R,B,M]).length).getD 2 0) 0)) (b:=u6 6) λ_ _ _ _=>ie 6 Dc))] [(6,i6 (((bU ((aD p ([R,B,M]) ([R,B,M]).length).getD 0 0) (gJ B ((aD p [R,B,M] 3).getD 2 0) ((aD p [R,B,M] 3).getD 1 0)) ((aD p ([R,B,M]) ([R,B,M]).length).getD 2 0) 0:Nat):Int)/64)),(7,i6 0)] [6,7] (ak (.tuple #[i6 (((bU ((aD p ([R,B,M]) ([R,B,M]).length).getD 0 0) (gJ B ((aD p [R,B,M] 3).getD 2 0) ((aD p [R,B,M] 3).getD 1 0)) ((aD p ([R,B,M]) ([R,B,M]).length).getD 2 0) 0:Nat):Int)/64),i6 0]) ab.zero Vm [] [] [])))
theorem CI(R S B M C:Nat)(a:cE R S B M C)(way:Nat)(b:way<4)(p:Nat)(hp:p<R*B*M):aa VA 122 #[.agg #[iN R,iN S,iN B,iN M,iN C],iN way,iN p] [] [] N0 (λ_=> .tuple #[iN (gK way R B M p),i6 0]):=by
 match way with
 | 0=>exact MK R S B M C a p hp
 | 1=>exact ML R S B M C a p hp
 | 2=>exact MM R S B M C a p hp
 | 3=>exact MN R S B M C a p hp
 | w+4=>exact absurd b Om
theorem MO(R S B M C:Nat)(i:cE R S B M C)(a d e:Nat)(h0:a<R)(h1:d<B)(h2:e<M):aa VA 121 #[.agg #[iN R,iN S,iN B,iN M,iN C],i6 0,iN (a*16384+d*1024+e)] [] [] N0 (λ_=> .tuple #[iN (mc 0 R B M a d e),i6 0]):=by
 have g:=i.bd;have D:=g.r8;have q:=g.b16;have u:=g.m10;have r:=g.c1;have x:=g.rbm;have z:M*B*R=R*B*M:=by rw[VP (R*B),VP R,←VQ]
 have A:R*M*B=R*B*M:=by rw[VQ,VP M,←VQ]
 have v:gJ B e d<B:=pD i.pow h1;have n:gZ R S B M C a d e 0:=⟨by omega,h1,h2,by omega⟩;refine fG Tryz.func121 λw y=>ra (λj=>[(3,pt (B0 j) 0),(6,i6 0),(7,i6 0)]) (λj=>[ob (B0 j) #[iN R,iN S,iN B,iN M,iN C] 23]) λj=>r0 [(0,.m (ls 0 ([iN R,iN S,iN B,iN M,iN C]))),(2,.c [] [] (m5 R S B M C i 0 Om)),] [(21,.bool ((decide (((a*16384+d*1024+e:Nat):Int)<0))||(decide (131072≤((a*16384+d*1024+e:Nat):Int)))))] [] ?_;have o:((decide (((a*16384+d*1024+e:Nat):Int)<0))||(decide (131072≤((a*16384+d*1024+e:Nat):Int))))=false:=(by rw[VK];exact⟨bh Om,bh Om⟩);refine cF ((decide (((a*16384+d*1024+e:Nat):Int)<0))||(decide (131072≤((a*16384+d*1024+e:Nat):Int)))) o (rr (λ_=>[(0,.l 0),(2,.t (tv (av .shl 3 (.tmp 24) (.const (u6 6)) (iN (a*16384+d*1024+e)) (u6 6)) (λ_=>dF (b:=((bU a d e 0:Nat):Int)) (fB 6 Dc Om Om) (by unfold bU;omega)))),(3,.c [] [] (rv i n)),(8,.s 1)]) (λk=>[(8,pt (B7 k) 0),(9,i6 0)]) [] (λk L=>L++[ob (B7 k) #[iN a,iN d,iN e,i6 0] 46]) λk=>r0 [(4,.l 1),(6,.l 0)] [(37,.bool (decide ((R:Int)≤(a:Int))))] [] ?_);have p:(decide ((R:Int)≤(a:Int)))=false:=bh Om;exact cF (decide ((R:Int)≤(a:Int))) p (rF [] 39 (r0 [] [(50,i6 0)] [] (rT [] 51 (rr (λf=>[(1,.m (ld 1 (iN e))),(3,.m (ld 1 (iN d))),(5,.m (ld 1 (iN a))),(6,gH cc 2 3 [e,d,a]),(8,.m (ld 0 (iN M))),(10,.m (ld 0 (iN B))),(12,.m (ld 0 (iN R))),(13,gH cc 3 3 [M,B,R]),(14,.c [2,3] [] (aa.at (rd':=[bK (.slice (some ⟨(f 6).y 0,0,none⟩) 3 3) ([e,d,a]),bK (.slice (some ⟨(f 13).y 0,0,none⟩) 3 3) ([M,B,R])]) (ux (.slice (some ⟨(f 6).y 0,0,none⟩) 3 3) (.slice (some ⟨(f 13).y 0,0,none⟩) 3 3) ([e,d,a]) ([M,B,R]) (by simp) rfl (uv h2 h1 h0 Om)) (bM (λ_ h=>ar.sq h) (bM (λ_ h=>ar.sq h) (λ_ h=>h))))),]) (λ_=>[(6,iN (ez ([e,d,a]) ([M,B,R]) ([M,B,R]).length)),(7,i6 0)]) [6,7] (λf L=>L++[bK (.slice (some ⟨(f 6).y 0,0,none⟩) 3 3) ([e,d,a]),bK (.slice (some ⟨(f 13).y 0,0,none⟩) 3 3) ([M,B,R])]) λf=>ak (.tuple #[iN (ez ([e,d,a]) ([M,B,R]) ([M,B,R]).length),i6 0]) ab.zero Vm [] [] []))))
theorem MP(R S B M C:Nat)(i:cE R S B M C)(a d e:Nat)(h0:a<R)(h1:d<B)(h2:e<M):aa VA 121 #[.agg #[iN R,iN S,iN B,iN M,iN C],i6 1,iN (a*16384+d*1024+e)] [] [] N0 (λ_=> .tuple #[iN (mc 1 R B M a d e),i6 0]):=by
 have g:=i.bd;have D:=g.r8;have q:=g.b16;have u:=g.m10;have r:=g.c1;have x:=g.rbm;have z:M*B*R=R*B*M:=by rw[VP (R*B),VP R,←VQ]
 have A:R*M*B=R*B*M:=by rw[VQ,VP M,←VQ]
 have v:gJ B e d<B:=pD i.pow h1;have n:gZ R S B M C a d e 0:=⟨by omega,h1,h2,by omega⟩;refine fG Tryz.func121 λw y=>ra (λj=>[(3,pt (B0 j) 0),(6,i6 0),(7,i6 0)]) (λj=>[ob (B0 j) #[iN R,iN S,iN B,iN M,iN C] 23]) λj=>r0 [(0,.m (ls 0 ([iN R,iN S,iN B,iN M,iN C]))),(2,.c [] [] (m5 R S B M C i 1 Om)),] [(21,.bool ((decide (((a*16384+d*1024+e:Nat):Int)<0))||(decide (131072≤((a*16384+d*1024+e:Nat):Int)))))] [] ?_;have o:((decide (((a*16384+d*1024+e:Nat):Int)<0))||(decide (131072≤((a*16384+d*1024+e:Nat):Int))))=false:=(by rw[VK];exact⟨bh Om,bh Om⟩);refine cF ((decide (((a*16384+d*1024+e:Nat):Int)<0))||(decide (131072≤((a*16384+d*1024+e:Nat):Int)))) o (rr (λ_=>[(0,.l 0),(2,.t (tv (av .shl 3 (.tmp 24) (.const (u6 6)) (iN (a*16384+d*1024+e)) (u6 6)) (λ_=>dF (b:=((bU a d e 0:Nat):Int)) (fB 6 Dc Om Om) (by unfold bU;omega)))),(3,.c [] [] (rv i n)),(8,.s 1)]) (λk=>[(8,pt (B7 k) 0),(9,i6 0)]) [] (λk L=>L++[ob (B7 k) #[iN a,iN d,iN e,i6 0] 46]) λk=>r0 [(4,.l 1),(6,.l 0)] [(37,.bool (decide ((R:Int)≤(a:Int))))] [] ?_);have p:(decide ((R:Int)≤(a:Int)))=false:=bh Om;exact cF (decide ((R:Int)≤(a:Int))) p (rF [] 39 (r0 [] [(50,i6 1)] [] (rF [] 51 (rT [] 68 (rr (λf=>[(1,.m (ld 1 (iN d))),(3,.m (ld 1 (iN e))),(5,.m (ld 1 (iN a))),(6,gH cc 2 3 [d,e,a]),(8,.m (ld 0 (iN B))),(10,.m (ld 0 (iN M))),(12,.m (ld 0 (iN R))),(13,gH cc 3 3 [B,M,R]),(14,.c [2,3] [] (aa.at (rd':=[bK (.slice (some ⟨(f 6).y 0,0,none⟩) 3 3) ([d,e,a]),bK (.slice (some ⟨(f 13).y 0,0,none⟩) 3 3) ([B,M,R])]) (ux (.slice (some ⟨(f 6).y 0,0,none⟩) 3 3) (.slice (some ⟨(f 13).y 0,0,none⟩) 3 3) ([d,e,a]) ([B,M,R]) (by simp) rfl (uv h1 h2 h0 Om)) (bM (λ_ h=>ar.sq h) (bM (λ_ h=>ar.sq h) (λ_ h=>h))))),]) (λ_=>[(6,iN (ez ([d,e,a]) ([B,M,R]) ([B,M,R]).length)),(7,i6 0)]) [6,7] (λf L=>L++[bK (.slice (some ⟨(f 6).y 0,0,none⟩) 3 3) ([d,e,a]),bK (.slice (some ⟨(f 13).y 0,0,none⟩) 3 3) ([B,M,R])]) λf=>ak (.tuple #[iN (ez ([d,e,a]) ([B,M,R]) ([B,M,R]).length),i6 0]) ab.zero Vm [] [] [])))))
theorem MQ(R S B M C:Nat)(i:cE R S B M C)(a d e:Nat)(h0:a<R)(h1:d<B)(h2:e<M):aa VA 121 #[.agg #[iN R,iN S,iN B,iN M,iN C],i6 2,iN (a*16384+d*1024+e)] [] [] N0 (λ_=> .tuple #[iN (mc 2 R B M a d e),i6 0]):=by
 have g:=i.bd;have D:=g.r8;have q:=g.b16;have u:=g.m10;have r:=g.c1;have x:=g.rbm;have z:M*B*R=R*B*M:=by rw[VP (R*B),VP R,←VQ]
 have A:R*M*B=R*B*M:=by rw[VQ,VP M,←VQ]
 have v:gJ B e d<B:=pD i.pow h1;have n:gZ R S B M C a d e 0:=⟨by omega,h1,h2,by omega⟩;refine fG Tryz.func121 λw y=>ra (λj=>[(3,pt (B0 j) 0),(6,i6 0),(7,i6 0)]) (λj=>[ob (B0 j) #[iN R,iN S,iN B,iN M,iN C] 23]) λj=>r0 [(0,.m (ls 0 ([iN R,iN S,iN B,iN M,iN C]))),(2,.c [] [] (m5 R S B M C i 2 Om)),] [(21,.bool ((decide (((a*16384+d*1024+e:Nat):Int)<0))||(decide (131072≤((a*16384+d*1024+e:Nat):Int)))))] [] ?_;have o:((decide (((a*16384+d*1024+e:Nat):Int)<0))||(decide (131072≤((a*16384+d*1024+e:Nat):Int))))=false:=(by rw[VK];exact⟨bh Om,bh Om⟩);refine cF ((decide (((a*16384+d*1024+e:Nat):Int)<0))||(decide (131072≤((a*16384+d*1024+e:Nat):Int)))) o (rr (λ_=>[(0,.l 0),(2,.t (tv (av .shl 3 (.tmp 24) (.const (u6 6)) (iN (a*16384+d*1024+e)) (u6 6)) (λ_=>dF (b:=((bU a d e 0:Nat):Int)) (fB 6 Dc Om Om) (by unfold bU;omega)))),(3,.c [] [] (rv i n)),(8,.s 1)]) (λk=>[(8,pt (B7 k) 0),(9,i6 0)]) [] (λk L=>L++[ob (B7 k) #[iN a,iN d,iN e,i6 0] 46]) λk=>r0 [(4,.l 1),(6,.l 0)] [(37,.bool (decide ((R:Int)≤(a:Int))))] [] ?_);have p:(decide ((R:Int)≤(a:Int)))=false:=bh Om;exact cF (decide ((R:Int)≤(a:Int))) p (rF [] 39 (r0 [] [(50,i6 2)] [] (rF [] 51 (rF [] 68 (rr (λf=>[(1,.m (ld 1 (iN a))),(3,.m (ld 1 (iN d))),(5,.m (ld 1 (iN e))),(6,gH cc 2 3 [a,d,e]),(8,.m (ld 0 (iN R))),(10,.m (ld 0 (iN B))),(12,.m (ld 0 (iN M))),(13,gH cc 3 3 [R,B,M]),(14,.c [2,3] [] (aa.at (rd':=[bK (.slice (some ⟨(f 6).y 0,0,none⟩) 3 3) ([a,d,e]),bK (.slice (some ⟨(f 13).y 0,0,none⟩) 3 3) ([R,B,M])]) (ux (.slice (some ⟨(f 6).y 0,0,none⟩) 3 3) (.slice (some ⟨(f 13).y 0,0,none⟩) 3 3) ([a,d,e]) ([R,B,M]) (by simp) rfl (uv h0 h1 h2 Om)) (bM (λ_ h=>ar.sq h) (bM (λ_ h=>ar.sq h) (λ_ h=>h))))),]) (λ_=>[(6,iN (ez ([a,d,e]) ([R,B,M]) ([R,B,M]).length)),(7,i6 0)]) [6,7] (λf L=>L++[bK (.slice (some ⟨(f 6).y 0,0,none⟩) 3 3) ([a,d,e]),bK (.slice (some ⟨(f 13).y 0,0,none⟩) 3 3) ([R,B,M])]) λf=>ak (.tuple #[iN (ez ([a,d,e]) ([R,B,M]) ([R,B,M]).length),i6 0]) ab.zero Vm [] [] [])))))
theorem MR(R S B M C:Nat)(k:cE R S B M C)(e f d:Nat)(h0:e<R)(h1:f<B)(h2:d<M):aa VA 121 #[.agg #[iN R,iN S,iN B,iN M,iN C],i6 3,iN (e*16384+f*1024+d)] [] [] N0 (λ_=> .tuple #[iN (mc 3 R B M e f d),i6 0]):=by
 have i:=k.bd;have F:=i.r8;have u:=i.b16;have x:=i.m10;have v:=i.c1;have y:=i.rbm;have A:M*B*R=R*B*M:=by rw[VP (R*B),VP R,←VQ]
 have D:R*M*B=R*B*M:=by rw[VQ,VP M,←VQ]
 have p:gJ B d f<B:=pD k.pow h1;have o:gZ R S B M C e f d 0:=⟨by omega,h1,h2,by omega⟩;refine fG Tryz.func121 λw z=>ra (λn=>[(3,pt (B0 n) 0),(6,i6 0),(7,i6 0)]) (λn=>[ob (B0 n) #[iN R,iN S,iN B,iN M,iN C] 23]) λn=>r0 [(0,.m (ls 0 ([iN R,iN S,iN B,iN M,iN C]))),(2,.c [] [] (m5 R S B M C k 3 Om)),] [(21,.bool ((decide (((e*16384+f*1024+d:Nat):Int)<0))||(decide (131072≤((e*16384+f*1024+d:Nat):Int)))))] [] ?_;have q:((decide (((e*16384+f*1024+d:Nat):Int)<0))||(decide (131072≤((e*16384+f*1024+d:Nat):Int))))=false:=(by rw[VK];exact⟨bh Om,bh Om⟩);refine cF ((decide (((e*16384+f*1024+d:Nat):Int)<0))||(decide (131072≤((e*16384+f*1024+d:Nat):Int)))) q (rr (λ_=>[(0,.l 0),(2,.t (tv (av .shl 3 (.tmp 24) (.const (u6 6)) (iN (e*16384+f*1024+d)) (u6 6)) (λ_=>dF (b:=((bU e f d 0:Nat):Int)) (fB 6 Dc Om Om) (by unfold bU;omega)))),(3,.c [] [] (rv k o)),(8,.s 1)]) (λj=>[(8,pt (B7 j) 0),(9,i6 0)]) [] (λj L=>L++[ob (B7 j) #[iN e,iN f,iN d,i6 0] 46]) λj=>r0 [(4,.l 1),(6,.l 0)] [(37,.bool (decide ((R:Int)≤(e:Int))))] [] ?_);have r:(decide ((R:Int)≤(e:Int)))=false:=bh Om;refine cF (decide ((R:Int)≤(e:Int))) r (rT [] 39 ?_);have G:d&&& (B-1)≤B-1:=Wx;exact rs [(1,.l 1),(3,.l 1),(5,.l 0),(6,.t (tb (a:=iN B) (b:=i6 1) λ_ _ _ _=>k4 (a:=B) (b:=1) Om Om)),(7,.t (tv (av .and 3 (.tmp 43) (.tmp 46) (iN d) (iN (B-1))) (λ_=>CG _ (B-1) Om Om))),(8,.t (tv (av .xor 3 (.tmp 41) (.tmp 47) (iN f) (iN (d&&& (B-1)))) (λ_=>CH _ _ Om Om))),(10,.s 1)] 1 (ob (B7 j) #[iN e,iN (gJ B d f),iN d,i6 0] 46) (r0 [] [(50,i6 3)] [] (rF [] 51 (rF [] 68 (rr (λg=>[(1,.m (ld 1 (iN e))),(3,.m (ld 1 (iN (gJ B d f)))),(5,.m (ld 1 (iN d))),(6,gH cc 2 3 [e,gJ B d f,d]),(8,.m (ld 0 (iN R))),(10,.m (ld 0 (iN B))),(12,.m (ld 0 (iN M))),(13,gH cc 3 3 [R,B,M]),(14,.c [2,3] [] (aa.at (rd':=[bK (.slice (some ⟨(g 6).y 0,0,none⟩) 3 3) ([e,gJ B d f,d]),bK (.slice (some ⟨(g 13).y 0,0,none⟩) 3 3) ([R,B,M])]) (ux (.slice (some ⟨(g 6).y 0,0,none⟩) 3 3) (.slice (some ⟨(g 13).y 0,0,none⟩) 3 3) ([e,gJ B d f,d]) ([R,B,M]) (by simp) rfl (uv h0 p h2 Om)) (bM (λ_ h=>ar.sq h) (bM (λ_ h=>ar.sq h) (λ_ h=>h))))),]) (λ_=>[(6,iN (ez ([e,gJ B d f,d]) ([R,B,M]) ([R,B,M]).length)),(7,i6 0)]) [6,7] (λg L=>L++[bK (.slice (some ⟨(g 6).y 0,0,none⟩) 3 3) ([e,gJ B d f,d]),bK (.slice (some ⟨(g 13).y 0,0,none⟩) 3 3) ([R,B,M])]) λg=>ak (.tuple #[iN (ez ([e,gJ B d f,d]) ([R,B,M]) ([R,B,M]).length),i6 0]) ab.zero Vm [] [] []))))
theorem MS(R S B M C:Nat)(d:cE R S B M C)(way:Nat)(e:way<4)(a b c:Nat)(h0:a<R)(h1:b<B)(h2:c<M):aa VA 121 #[.agg #[iN R,iN S,iN B,iN M,iN C],iN way,iN (a*16384+b*1024+c)] [] [] N0 (λ_=> .tuple #[iN (mc way R B M a b c),i6 0]):=by
 match way with
 | 0=>exact MO R S B M C d a b c h0 h1 h2
 | 1=>exact MP R S B M C d a b c h0 h1 h2
 | 2=>exact MQ R S B M C d a b c h0 h1 h2
 | 3=>exact MR R S B M C d a b c h0 h1 h2
 | w+4=>exact absurd e Om
end
section
open Go.Shelf
theorem MT{i n:Int}(h:bR i n=false)(h0:0≤i):n≤i:=by
 unfold bR at h;simp only[Bool.and_eq_false_iff,decide_eq_false_iff_not] at h;omega
structure g5 (R S B M C way res:Nat):Prop where
 Q:cE R S B M C
 G:way<4
 r64:res≤64
 rp:res<R*B*M
structure Mp where
 R:Nat
 S:Nat
 B:Nat
 M:Nat
 C:Nat
 G:Nat
 res:Nat
 P:List Nat
 N:List Bool
 K:List Int
 O:Nat
 F:Nat
abbrev Mp.seen(m:Mp):Nat:=m.R*m.B*m.M-m.res
structure bo (m:Mp):Prop where
 ly:g5 m.R m.S m.B m.M m.C m.G m.res
 ll:m.P.length=m.R*m.B*m.M-m.res
 ld:m.N.length=m.R*m.B*m.M
 ls:m.K.length=m.R
 pg:m.O≤m.res
 rk:m.F≤m.S
 lv: ∀i,i<m.R*m.B*m.M-m.res→m.P.getD i 0<m.R*m.B*m.M
 sp: ∀i,i<m.R→m.K.getD i 0= -1∨((m.R:Int)≤m.K.getD i 0∧m.K.getD i 0<((m.R+m.S:Nat):Int))
abbrev aF(g:Nat)(m:Mp)(L:ah):Prop:=∃a b c:Value,L=[ob g #[iN m.R,iN m.S,iN m.B,iN m.M,iN m.C,iN m.G,iN m.res,a,b,c,iN m.O,iN m.F] 137,bK a m.P,eQ b m.N,dg c m.K]
def c6(m:Mp)(r:Nat):Bool:= !(m.K.getD r 0== -1)
def jx(m:Mp)(r:Nat):Int:=bif c6 m r then m.K.getD r 0 else 0
def lh(m:Mp)(p:Nat):Nat:=bif c6 m (aJ m.G m.R m.B m.M p) then(m.K.getD (aJ m.G m.R m.B m.M p) 0).toNat else aJ m.G m.R m.B m.M p
def bq(m:Mp)(p:Nat):Nat:=lh m p*16384+fF m.G m.R m.B m.M p*1024+fD m.G m.R m.B m.M p
section
variable {m:Mp}
theorem bo.Q(h:bo m):cE m.R m.S m.B m.M m.C:=h.ly.Q
theorem bo.np(h:bo m):m.R*m.B*m.M≤4096:=h.Q.bd.rbm
theorem bo.lines(h:bo m):(m.R*m.B*m.M-m.res)*m.C≤4096:=VT (VL _ (Nat.sub_le _ _)) h.Q.bd.rbmc
theorem MU(h:bo m)(p:Nat):lh m p<m.R+m.S:=by
 have b:=rz (p:=p) (way:=m.G) h.Q;unfold lh;cases a:c6 m (aJ m.G m.R m.B m.M p) with
 | false=>rw[ALcf];omega
 | true=>
  rw[ALct];unfold c6 at a;have a:m.K.getD (aJ m.G m.R m.B m.M p) 0≠ -1:=by simpa using a
  have:=(h.sp _ b).resolve_left a;omega
theorem uy(h:bo m){p:Nat}(hp:p<m.R*m.B*m.M):gZ m.R m.S m.B m.M m.C (lh m p) (fF m.G m.R m.B m.M p) (fD m.G m.R m.B m.M p) 0:=by
 have a:=oF (way:=m.G) h.Q hp;exact⟨MU h p,a.h1,a.h2,a.h3⟩
theorem MV(h:bo m){p:Nat}(b:c6 m (aJ m.G m.R m.B m.M p)=true):(gK m.G m.R m.B m.M p:Int)+(jx m (aJ m.G m.R m.B m.M p)-(aJ m.G m.R m.B m.M p:Int))*2^14=(bq m p:Int):=by
 have c:=rz (p:=p) (way:=m.G) h.Q;have a:=b;unfold c6 at a;have a:m.K.getD (aJ m.G m.R m.B m.M p) 0≠ -1:=by simpa using a
 have d:=(h.sp _ c).resolve_left a;unfold bq lh jx;rw[b,ALct,ALct,xF];have e:((m.K.getD (aJ m.G m.R m.B m.M p) 0).toNat:Int)=m.K.getD (aJ m.G m.R m.B m.M p) 0:=VY Om;omega
theorem MW{p:Nat}(a:c6 m (aJ m.G m.R m.B m.M p)=false):gK m.G m.R m.B m.M p=bq m p:=by
 unfold bq lh;rw[a,ALcf,xF]
theorem MX(h:bo m){r:Nat}(b:r<m.R):0≤jx m r∧jx m r<((m.R+m.S:Nat):Int):=by
 unfold jx;cases a:c6 m r with
 | false=>rw[ALcf];omega
 | true=>
  unfold c6 at a;have a:m.K.getD r 0≠ -1:=by simpa using a
  have:=(h.sp _ b).resolve_left a;rw[ALct];omega
theorem CJ(h:bo m){p:Nat}(hp:p<m.R*m.B*m.M):gK m.G m.R m.B m.M p/16384=aJ m.G m.R m.B m.M p:=by
 have a:=oF (way:=m.G) h.Q hp;have b:=h.Q.bd.b16;have c:=h.Q.bd.m10;have:=a.h1;have:=a.h2;rw[xF];omega
theorem uz(h:bo m){p:Nat}(hp:p<m.R*m.B*m.M):bq m p<131072:=by
 have a:=uy h hp;have b:=h.Q.bd.r8;have c:=h.Q.bd.b16;have d:=h.Q.bd.m10;have:=a.h0;have:=a.h1;have:=a.h2;unfold bq;omega
theorem CK(h:bo m){n:Nat}(a:n<(m.R*m.B*m.M-m.res)*m.C):n/m.C<m.R*m.B*m.M-m.res:=Wc (by rw[VP m.C];exact a)
def az(m:Mp)(n:Nat):Nat:=m.P.getD (n/m.C) 0
def eR(m:Mp)(n:Nat):Nat:=bq m (az m n)*64+n%m.C
theorem uA(h:bo m){n:Nat}(a:n<(m.R*m.B*m.M-m.res)*m.C):az m n<m.R*m.B*m.M:=h.lv _ (CK h a)
end
def dp(m:Mp):Bool:= !decide (m.O=m.res)
def dR(m:Mp):Bool:= !decide (m.F=m.S)
def dY(m:Mp):Nat:=if m.O=m.res then 0 else m.seen+m.O
def fH(m:Mp):Nat:=if m.F=m.S then 0 else m.R+m.F
def dN(l:List Nat)(h t k:Nat):List Nat:=((l.take k).map λx=>if x=h then t else x)++l.drop k
theorem CM(l:List Nat)(h t k:Nat):(dN l h t k).length=l.length:=by unfold dN;rw[VF,VH,VG,VM];omega
theorem MY{l:List Nat}{h t k:Nat}(a:k<l.length):(dN l h t k).getD k 0=l.getD k 0:=by
 unfold dN;rw[VB,VR (by rw[VH,VG];omega),VH,VG,V5,VB]
 congr 2;omega
theorem MZ(l:List Nat)(h t:Nat):dN l h t 0=l:=by unfold dN;simp
theorem CN{l:List Nat}{h t k:Nat}(a:k<l.length):dN l h t (k+1)=((l.take k).map λx=>if x=h then t else x)++(if l.getD k 0=h then t else l.getD k 0)::l.drop (k+1):=by
 unfold dN;rw[Ws,VE a,Wk,VX,VB,VE a];rfl
theorem M1{l:List Nat}{h t k:Nat}(a:k<l.length)(e:l.getD k 0=h):(dN l h t k).set k t=dN l h t (k+1):=by
 rw[CN a,ALifp e];unfold dN;rw[Wf a,List.set_append_right _ _ (by rw[VH,VG];omega),VH,VG,show k-min k l.length=0 by omega];rfl
theorem M3{l:List Nat}{h t k:Nat}(a:k<l.length)(e:l.getD k 0≠h):dN l h t k=dN l h t (k+1):=by
 rw[CN a,ALifn e];unfold dN;rw[Wf a,VB,VE a];rfl
theorem M4{l:List Nat}{h t k:Nat}(a:k<l.length):(bif (((dN l h t k).getD k 0:Nat):Int)==(h:Int) then(dN l h t k).set k t else dN l h t k)=dN l h t (k+1):=by
 rw[MY a];by_cases e:l.getD k 0=h
 ·rw[show(((l.getD k 0:Nat):Int)==(h:Int))=true by rw[e];exact beq_self_eq_true _,ALct,M1 a e]
 ·rw[show(((l.getD k 0:Nat):Int)==(h:Int))=false by rw[dP];omega,ALcf,M3 a e]
def pE(m:Mp):Mp:={m with O:=m.O+1}
def pF(m:Mp):Mp:={m with F:=m.F+1}
def rA(m:Mp)(h t:Nat):Mp:={m with N:=m.N.set h true,P:=dN m.P h t m.P.length}
def rC(m:Mp)(r s:Nat):Mp:={m with K:=m.K.set r (s:Int)}
def lj(R S B M C way a:Nat):Mp:=⟨R,S,B,M,C,way,a,VC (R*B*M-a),VD (R*B*M) false,VD R (-1),0,0⟩
end
section
open Go.Shelf
theorem uB(i n:Int):aa VA 58 #[i6 i,i6 n] [] [] N0 (λ_=> .bool (bR i n)):=by
 exact fG Tryz.func58 λw a=>r0 [] [(4,.bool false)] [] (r0 [] [(4,.bool ((decide (0≤i))&&(decide (i<n))))] [4] (ak (.bool ((decide (0≤i))&&(decide (i<n)))) ab.zero Vm [] [] []))
theorem CO(R S B M C way a:Nat)(b:g5 R S B M C way a):aa VA 106 #[.agg #[iN R,iN S,iN B,iN M,iN C,iN way,iN a]] [] [] N0 (λ_=> .bool true):=by
 have e:=b.Q;have i:=b.rp;have h:=e.bd.rbm;have g:=b.G;have f:=b.r64;exact fG Tryz.func106 λw j=>ra (λd=>[(1,pt (B0 d) 0),(2,.bool false)]) (λd=>[ob (B0 d) #[iN R,iN S,iN B,iN M,iN C,iN way,iN a] 25]) λd=>r0 [(1,.m (ls 0 ([iN R,iN S,iN B,iN M,iN C]))),(3,.m (ld 0 (iN way))),(4,.c [] [] (m5 R S B M C e way Om)),(7,.m (ld 0 (iN a))),(12,.m (ld 0 (iN a))),(17,.m (ld 0 (iN a))),(19,.m (ls 0 ([iN R,iN S,iN B,iN M,iN C]))),(20,.c [] [] (k9 R S B M C e)),] [(2,.bool (((decide (0≤(a:Int)))&&(decide ((a:Int)≤64)))&&(decide ((a:Int)<(((R*B)*M:Nat):Int)))))] [2] (ak (.bool (((decide (0≤(a:Int)))&&(decide ((a:Int)≤64)))&&(decide ((a:Int)<(((R*B)*M:Nat):Int))))) ab.zero (by exact ALca Value.bool (by simp only[VI,decide_eq_true_eq,true_and];omega)) [] [] [])
theorem pG(R S B M C way d:Nat)(e:g5 R S B M C way d):aa VA 76 #[.agg #[iN R,iN S,iN B,iN M,iN C,iN way,iN d]] [] [] N0 (λ_=>iN (((R*B)*M)-d)):=by
 have g:=e.Q;have k:=e.rp;have j:=g.bd.rbm;have i:=e.G;have h:=e.r64;exact fG Tryz.func76 λw m=>ra (λf=>[(1,pt (B0 f) 0),(2,i6 0)]) (λf=>[ob (B0 f) #[iN R,iN S,iN B,iN M,iN C,iN way,iN d] 25]) λf=>rF [(0,.l 0),(1,.c [] [] (CO R S B M C way d e))] 5 (r0 [(1,.l 0),(2,.c [] [] (k9 R S B M C g)),(4,.l 0),(5,.t (tb (a:=iN ((R*B)*M)) (b:=iN d) λ_ _ _ _=>k4 (a:=(R*B)*M) (b:=d) Om Om))] [(2,iN (((R*B)*M)-d))] [2] (lf ab.zero [] [] []))
theorem xH(R S B M C way a:Nat)(b:g5 R S B M C way a):aa VA 39 #[.agg #[iN R,iN S,iN B,iN M,iN C,iN way,iN a]] [] [] N0 (λ_=>iN ((((R*B)*M)-a)*C)):=by
 have e:=b.Q;have i:=b.rp;have h:=e.bd.rbm;have g:=b.G;have f:=b.r64;have k:=VT (VL C (Nat.sub_le (R*B*M) a)) e.bd.rbmc;exact fG Tryz.func39 λw j=>ra (λd=>[(1,pt (B0 d) 0),(2,i6 0)]) (λd=>[ob (B0 d) #[iN R,iN S,iN B,iN M,iN C,iN way,iN a] 25]) λd=>r0 [(0,.l 0),(1,.c [] [] (pG R S B M C way a b)),(4,.l 0),(5,ml (((R*B)*M)-a) C)] [(2,iN ((((R*B)*M)-a)*C))] [2] (lf ab.zero [] [] [])
theorem iL(g:Nat)(m:Mp)(a:bo m):aa VA 63 #[pt g 0] [pk (aF g m)] [0] (λ_=>[pk (aF g m)]) (λ_=> .agg #[iN m.R,iN m.S,iN m.B,iN m.M,iN m.C,iN m.G,iN m.res]):=aa.pkZ Tryz.func63 λL e=>by
 obtain⟨q,r,t,rfl⟩:=e;refine⟨[1,2,3],λ_=>[bK q m.P,eQ r m.N,dg t m.K],?_,rfl,λE=>⟨rfl,rfl,⟨_,_,_,rfl⟩⟩⟩;have d:=a.Q;have c:=a.ly;have j:=a.np;have h:=a.ll;have f:=a.ld;have i:=a.ls;have k:=a.pg;have o:=a.rk;have p:=c.rp;have n:=d.bd.r8;exact fG Tryz.func63 λw u=>ra (λb=>[(2,pt (B0 b) 0)]) (λb=>[ob (B0 b) #[i6 0,i6 0,i6 0,i6 0,i6 0,i6 0,i6 0] 25]) λb=>rs [(3,.l 0),(4,.s 4)] 4 (ob (B0 b) #[iN m.R,iN m.S,iN m.B,iN m.M,iN m.C,iN m.G,iN m.res] 25) (lf ab.zero [1,2,3] [(0,0)] [4])
theorem oG(i n:Nat)(h:i<n):aa VA 58 #[iN i,iN n] [] [] N0 (λ_=> .bool true):=by
 have a:=uB i n;rwa [k8.2 ⟨by omega,by omega⟩] at a
theorem uC(g:Nat)(m:Mp)(a:bo m)(p:Nat)(hp:p<m.R*m.B*m.M):aa VA 25 #[pt g 0,iN p] [pk (aF g m)] [0] (λ_=>[pk (aF g m)]) (λ_=> .bool (m.N.getD p false)):=aa.pkZ Tryz.func25 λL f=>by
 obtain⟨r,b,s,rfl⟩:=f;refine⟨[1,2,3],λ_=>[bK r m.P,eQ b m.N,dg s m.K],?_,rfl,λE=>⟨rfl,rfl,⟨_,_,_,rfl⟩⟩⟩;have e:=a.Q;have d:=a.ly;have k:=a.np;have i:=a.ll;have h:=a.ld;have j:=a.ls;have l:=a.pg;have o:=a.rk;have q:=d.rp;have n:=e.bd.r8;exact fG Tryz.func25 λw t=>r0 [] [(4,.bool false)] [] (r0 [(4,.m (ld 0 (b))),(5,e8 j7 b m.N 2),(6,.c [] [] (oG p m.N.length Om)),(11,.m (ld 0 (b))),(13,cH j7 b m.N 2 p),(14,eP j7 b m.N 2 p 0)] [(4,.bool (m.N.getD p false))] [4] (lf ab.zero [1,2,3] [(0,0)] []))
theorem M5(g:Nat)(m:Mp)(a:bo m)(p:Nat)(hp:p<m.R*m.B*m.M):aa VA 86 #[pt g 0,iN p] [pk (aF g m)] [0] (λ_=>[pk (aF g m)]) (λ_=> .bool (decide (p<m.R*m.B*m.M-m.res+m.O)&& !m.N.getD p false)):=aa.pkZ Tryz.func86 λL i=>by
 obtain⟨t,f,u,rfl⟩:=i;refine⟨[1,2,3],λ_=>[bK t m.P,eQ f m.N,dg u m.K],?_,rfl,λE=>⟨rfl,rfl,⟨_,_,_,rfl⟩⟩⟩;have h:=a.Q;have b:=a.ly;have n:=a.np;have k:=a.ll;have j:=a.ld;have l:=a.ls;have o:=a.pg;have r:=a.rk;have s:=b.rp;have q:=h.bd.r8;refine fG Tryz.func86 λw v=>r0 [] [(4,.bool false)] [] ?_;cases e:(bR (p:Int) (((((m.R*m.B)*m.M)-m.res)+m.O:Nat):Int))
 case true=>
  exact r0 [(4,.m (ls 0 ([iN m.R,iN m.S,iN m.B,iN m.M,iN m.C,iN m.G,iN m.res]))),(5,.c [] [] (pG m.R m.S m.B m.M m.C m.G m.res b)),(9,.m (ld 0 (iN m.O))),(10,ad (((m.R*m.B)*m.M)-m.res) m.O),(11,.c [] [] (aa.v ((uB (p:Int) (((((m.R*m.B)*m.M)-m.res)+m.O:Nat):Int))) λ_=>ALca Value.bool (show(bR (p:Int) (((((m.R*m.B)*m.M)-m.res)+m.O:Nat):Int))=true from e))),(16,.m (ld 0 (f))),(18,cH j7 f m.N 2 p),(19,eP j7 f m.N 2 p 0),] [(4,.bool (!(m.N.getD p false)))] [4] (ak (.bool (!(m.N.getD p false))) ab.zero (by(rw[cx (by have:=k8.1 e;omega)];rfl)) [1,2,3] [(0,0)] [])
 exact r0 [(4,.m (ls 0 ([iN m.R,iN m.S,iN m.B,iN m.M,iN m.C,iN m.G,iN m.res]))),(5,.c [] [] (pG m.R m.S m.B m.M m.C m.G m.res b)),(9,.m (ld 0 (iN m.O))),(10,ad (((m.R*m.B)*m.M)-m.res) m.O),(11,.c [] [] (aa.v ((uB (p:Int) (((((m.R*m.B)*m.M)-m.res)+m.O:Nat):Int))) λ_=>ALca Value.bool (show(bR (p:Int) (((((m.R*m.B)*m.M)-m.res)+m.O:Nat):Int))=false from e))),(13,.d),(14,.d),(15,.d),(16,.d),(17,.d),(18,.d),(19,.d),(20,.d)] [(4,.bool false)] [4] (ak (.bool false) ab.zero (by(rw[bh (by have:=MT e Om;omega)];rfl)) [1,2,3] [(0,0)] [])
theorem CP(g:Nat)(m:Mp)(b:bo m)(h i a:Value)(r:Nat)(x:r<m.R):aa VA 26 #[pt g 0,iN r] [ob g #[iN m.R,iN m.S,iN m.B,iN m.M,iN m.C,iN m.G,iN m.res,h,i,a,iN m.O,iN m.F] 137,bK h m.P,eQ i m.N,dg a m.K] [1,2,3] (λ_=>[bK h m.P,eQ i m.N,dg a m.K]) (λ_=> .tuple #[i6 (jx m r),.bool (c6 m r)]):=by
 have j:=b.Q;have f:=b.ly;have p:=b.np;have n:=b.ll;have k:=b.ld;have o:=b.ls;have q:=b.pg;have t:=b.rk;have u:=f.rp;have s:=j.bd.r8;refine fG Tryz.func26 λw v=>r0 [] [(4,i6 0),(5,.bool false)] [] (r0 [(4,.m (ld 0 (a))),(5,e8 kI a m.K 3),(6,.c [] [] (oG r m.K.length Om)),(12,.m (ld 0 (a))),(14,cH kI a m.K 3 r),(15,eP kI a m.K 3 r 0)] [(23,.bool ((m.K.getD r 0)==(-1)))] [] ?_);refine cO (m.K.getD r 0) (-1) (λe d=>?_) λe d=>?_
 ·exact r0 [] [(4,i6 0),(5,.bool false)] [4,5] (ak (.tuple #[i6 0,.bool false]) ab.zero (by unfold jx c6;(repeat (rw[e]));rfl) [1,2,3] [(0,0)] [])
 exact r0 [(3,.l 0),(5,cH kI a m.K 3 r),(6,eP kI a m.K 3 r 0)] [(4,i6 (m.K.getD r 0)),(5,.bool true)] [4,5] (ak (.tuple #[i6 (m.K.getD r 0),.bool true]) ab.zero (by unfold jx c6;(repeat (rw[e]));rfl) [1,2,3] [(0,0)] [])
theorem xI(g:Nat)(m:Mp)(e:bo m)(r:Nat)(f:r<m.R):aa VA 26 #[pt g 0,iN r] [pk (aF g m)] [0] (λ_=>[pk (aF g m)]) (λ_=> .tuple #[i6 (jx m r),.bool (c6 m r)]):=aa.pkZ Tryz.func26 λL d=>by
 obtain⟨a,b,c,rfl⟩:=d;exact⟨[1,2,3],λ_=>[bK a m.P,eQ b m.N,dg c m.K],CP g m e a b c r f,rfl,λE=>⟨rfl,rfl,⟨_,_,_,rfl⟩⟩⟩
theorem CQ(g:Nat)(m:Mp)(a:bo m)(f h i:Value)(p:Nat)(hp:p<m.R*m.B*m.M):aa VA 99 #[pt g 0,iN p] [ob g #[iN m.R,iN m.S,iN m.B,iN m.M,iN m.C,iN m.G,iN m.res,f,h,i,iN m.O,iN m.F] 137,bK f m.P,eQ h m.N,dg i m.K] [1,2,3] (λ_=>[bK f m.P,eQ h m.N,dg i m.K]) (λ_=> .tuple #[iN (bq m p),iN (aJ m.G m.R m.B m.M p),i6 0]):=by
 have e:=a.Q;have d:=a.ly;have u:=a.np;have r:=a.ll;have q:=a.ld;have s:=a.ls;have v:=a.pg;have y:=a.rk;have z:=d.rp;have x:=e.bd.r8;have l:=d.G;have D:=MI (way:=m.G) e hp;have B:=CJ a hp;have k:=rz (p:=p) (way:=m.G) e;have A:=MX a k;have o:=uz a hp;refine fG Tryz.func99 λw C=>r0 [] [(4,i6 0),(5,i6 0),(6,i6 0)] [] (r0 [(4,.m (ls 0 ([iN m.R,iN m.S,iN m.B,iN m.M,iN m.C]))),(9,.m (ld 0 (iN m.G))),(11,.c [] [] (CI m.R m.S m.B m.M m.C e m.G Om p Om)),] [(7,iN (gK m.G m.R m.B m.M p)),(6,i6 0)] [6] (rF [] 26 (r0 [(1,.t (tv (av .shr 3 (.tmp 28) (.const (u6 14)) (iN (gK m.G m.R m.B m.M p)) (u6 14)) (λ_=>dF (b:=((aJ m.G m.R m.B m.M p:Nat):Int)) (ie 14 Dc) Om)))] [(5,iN (aJ m.G m.R m.B m.M p))] [5] (r0 [(2,.c [0,1,2,3] [1,2,3] (CP g m a f h i (aJ m.G m.R m.B m.M p) Om))] [(8,i6 (jx m (aJ m.G m.R m.B m.M p))),(9,.bool (c6 m (aJ m.G m.R m.B m.M p)))] [] (r0 [] [(36,.bool (c6 m (aJ m.G m.R m.B m.M p)))] [] ?_)))));refine cB (c6 m (aJ m.G m.R m.B m.M p)) (λj=>?_) λj=>?_
 ·have n:=MV a j;exact r0 [(3,sI (jx m (aJ m.G m.R m.B m.M p)) (((aJ m.G m.R m.B m.M p:Nat):Int)) Om),(4,.t (tv (av .shl 3 (.tmp 40) (.const (u6 14)) (i6 ((jx m (aJ m.G m.R m.B m.M p))-((aJ m.G m.R m.B m.M p:Nat):Int))) (u6 14)) (λ_=>fB 14 Dc Om Om))),(5,.t (tv (av .add 3 (.tmp 37) (.tmp 41) (iN (gK m.G m.R m.B m.M p)) (i6 ((jx m (aJ m.G m.R m.B m.M p)-(aJ m.G m.R m.B m.M p:Int))*2^14))) (λ_=>dF (p6 Om Om) n)))] [(7,iN (bq m p))] [7] (r0 [] [(4,iN (bq m p)),(5,iN (aJ m.G m.R m.B m.M p)),(6,i6 0)] [4,5,6] (ak (.tuple #[iN (bq m p),iN (aJ m.G m.R m.B m.M p),i6 0]) ab.zero Vm [1,2,3] [(0,0)] []))
 exact r0 [] [(4,iN (gK m.G m.R m.B m.M p)),(5,iN (aJ m.G m.R m.B m.M p)),(6,i6 0)] [4,5,6] (ak (.tuple #[iN (gK m.G m.R m.B m.M p),iN (aJ m.G m.R m.B m.M p),i6 0]) ab.zero (by(rw[MW j])) [1,2,3] [(0,0)] [])
theorem CR(g:Nat)(m:Mp)(a:bo m)(p:Nat)(hp:p<m.R*m.B*m.M):aa VA 64 #[pt g 0,iN p] [pk (aF g m)] [0] (λ_=>[pk (aF g m)]) (λ_=> .tuple #[iN (bq m p),i6 0]):=aa.pkZ Tryz.func64 λL i=>by
 obtain⟨d,e,f,rfl⟩:=i;refine⟨[1,2,3],λ_=>[bK d m.P,eQ e m.N,dg f m.K],?_,rfl,λE=>⟨rfl,rfl,⟨_,_,_,rfl⟩⟩⟩;have h:=a.Q;have b:=a.ly;have n:=a.np;have k:=a.ll;have j:=a.ld;have l:=a.ls;have o:=a.pg;have r:=a.rk;have s:=b.rp;have q:=h.bd.r8;exact fG Tryz.func64 λw t=>r0 [] [(4,i6 0),(5,i6 0)] [] (r0 [(2,.c [0,1,2,3] [1,2,3] (CQ g m a d e f p Om))] [(6,iN (bq m p)),(8,i6 0)] [] (r0 [] [(4,iN (bq m p)),(5,i6 0)] [4,5] (lf ab.zero [1,2,3] [(0,0)] [])))
theorem xJ(g:Nat)(m:Mp)(e:bo m)(n:Nat)(p:n<(m.R*m.B*m.M-m.res)*m.C):aa VA 220 #[pt g 0,iN n] [pk (aF g m)] [0] (λ_=>[pk (aF g m)]) (λ_=> .tuple #[iN (eR m n),iN (az m n),iN (aJ m.G m.R m.B m.M (az m n)),i6 0]):=aa.pkZ Tryz.func220 λL s=>by
 obtain⟨h,q,r,rfl⟩:=s;refine⟨[1,2,3],λ_=>[bK h m.P,eQ q m.N,dg r m.K],?_,rfl,λE=>⟨rfl,rfl,⟨_,_,_,rfl⟩⟩⟩;have i:=e.Q;have f:=e.ly;have B:=e.np;have y:=e.ll;have x:=e.ld;have z:=e.ls;have C:=e.pg;have F:=e.rk;have G:=f.rp;have D:=i.bd.r8;have A:=e.lines;have j:=i.bd.c1;have k:=i.bd.c64;have I:=CK e p;have u:m.P.getD (n/m.C) 0<m.R*m.B*m.M:=uA e p;have v:=uz e u;have o:=VJ n j;exact fG Tryz.func220 λw H=>r0 [] [(4,i6 0),(5,i6 0),(6,i6 0),(7,i6 0)] [] (rF [(4,.l 0),(5,.c [] [] (xH m.R m.S m.B m.M m.C m.G m.res f)),(6,.c [] [] (oG n ((((m.R*m.B)*m.M)-m.res)*m.C) Om))] 16 (r0 [(3,.m (ld 0 (h))),(10,.m (ld 0 (iN m.C))),(11,.t (tb (a:=iN n) (b:=iN m.C) λ_ _ _ _=>og (a:=n) (d:=m.C) Om Om)),(12,cH cc h m.P 1 (n/m.C)),(13,eP cc h m.P 1 (n/m.C) 0)] [(5,iN (m.P.getD (n/m.C) 0))] [5] (r0 [(2,.c [0,1,2,3] [1,2,3] (CQ g m e h q r (m.P.getD (n/m.C) 0) Om))] [(8,iN (bq m (m.P.getD (n/m.C) 0))),(6,iN (aJ m.G m.R m.B m.M (m.P.getD (n/m.C) 0))),(7,i6 0)] [6,7] (rF [] 39 (r0 [(1,.t (tv (av .shl 3 (.tmp 41) (.const (u6 6)) (iN (bq m (m.P.getD (n/m.C) 0))) (u6 6)) (λ_=>dF (b:=((bq m (m.P.getD (n/m.C) 0)*64:Nat):Int)) (fB 6 Dc Om Om) Om))),(8,.m (ld 0 (iN m.C))),(9,.t (tb (a:=iN n) (b:=iN m.C) λ_ _ _ _=>nu (a:=n) (d:=m.C) Om)),(10,.t (tv (av .or 3 (.tmp 42) (.tmp 50) (iN (bq m (m.P.getD (n/m.C) 0)*64)) (iN (n%m.C))) (λ_=>dF (b:=((eR m n:Nat):Int)) (qH 6 64 rfl Om Om Om Om Om) (by unfold eR az;omega)))),] [(4,iN (eR m n)),(5,iN (m.P.getD (n/m.C) 0)),(6,iN (aJ m.G m.R m.B m.M (m.P.getD (n/m.C) 0))),(7,i6 0)] [4,5,6,7] (ak (.tuple #[iN (eR m n),iN (m.P.getD (n/m.C) 0),iN (aJ m.G m.R m.B m.M (m.P.getD (n/m.C) 0)),i6 0]) ab.zero Vm [1,2,3] [(0,0)] []))))))
theorem M6(g:Nat)(m:Mp)(a:bo m)(n:Int)(j:bR n (((m.R*m.B*m.M-m.res)*m.C:Nat):Int)=false):aa VA 220 #[pt g 0,i6 n] [pk (aF g m)] [0] (λ_=>[pk (aF g m)]) (λ_=> .tuple #[i6 0,i6 0,i6 0,i6 12]):=aa.pkZ Tryz.func220 λL e=>by
 obtain⟨t,u,v,rfl⟩:=e;refine⟨[1,2,3],λ_=>[bK t m.P,eQ u m.N,dg v m.K],?_,rfl,λE=>⟨rfl,rfl,⟨_,_,_,rfl⟩⟩⟩;have d:=a.Q;have b:=a.ly;have o:=a.np;have h:=a.ll;have f:=a.ld;have i:=a.ls;have p:=a.pg;have r:=a.rk;have s:=b.rp;have q:=d.bd.r8;have k:=a.lines;exact fG Tryz.func220 λw x=>r0 [] [(4,i6 0),(5,i6 0),(6,i6 0),(7,i6 0)] [] (rT [(4,.l 0),(5,.c [] [] (xH m.R m.S m.B m.M m.C m.G m.res b)),(6,.c [] [] (aa.v ((uB n (((((m.R*m.B)*m.M)-m.res)*m.C:Nat):Int))) λ_=>ALca Value.bool (show(bR n (((((m.R*m.B)*m.M)-m.res)*m.C:Nat):Int))=false from(by exact j))))] 16 (r0 [] [(4,i6 0),(5,i6 0),(6,i6 0),(7,i6 12)] [4,5,6,7] (lf ab.zero [1,2,3] [(0,0)] [])))
theorem xK(g:Nat)(m:Mp)(a:bo m)(f h i:Value):aa VA 264 #[pt g 0] [ob g #[iN m.R,iN m.S,iN m.B,iN m.M,iN m.C,iN m.G,iN m.res,f,h,i,iN m.O,iN m.F] 137,bK f m.P,eQ h m.N,dg i m.K] [1,2,3] (λ_=>[bK f m.P,eQ h m.N,dg i m.K]) (λ_=> .tuple #[iN (dY m),.bool (dp m)]):=by
 have k:=a.Q;have b:=a.ly;have q:=a.np;have o:=a.ll;have n:=a.ld;have p:=a.ls;have r:=a.pg;have t:=a.rk;have u:=b.rp;have s:=k.bd.r8;refine fG Tryz.func264 λw v=>r0 [] [(2,i6 0),(3,.bool false)] [] (r0 [(3,.l 0),(8,.l 0)] [(13,.bool ((m.O:Int)==(m.res:Int)))] [] ?_);refine cO (m.O:Int) (m.res:Int) (λj d=>?_) λj d=>?_
 ·exact r0 [] [(2,i6 0),(3,.bool false)] [2,3] (ak (.tuple #[i6 0,.bool false]) ab.zero (by by_cases e:m.O=m.res<;>first | (exfalso;omega) | (simp [dY,dp,e])) [1,2,3] [(0,0)] [])
 exact r0 [(3,.m (ls 0 ([iN m.R,iN m.S,iN m.B,iN m.M,iN m.C,iN m.G,iN m.res]))),(4,.c [] [] (pG m.R m.S m.B m.M m.C m.G m.res b)),(8,.m (ld 0 (iN m.O))),(9,ad (((m.R*m.B)*m.M)-m.res) m.O),] [(2,iN ((((m.R*m.B)*m.M)-m.res)+m.O)),(3,.bool true)] [2,3] (ak (.tuple #[iN ((((m.R*m.B)*m.M)-m.res)+m.O),.bool true]) ab.zero (by by_cases e:m.O=m.res<;>first | (exfalso;omega) | (simp [dY,dp,e])) [1,2,3] [(0,0)] [])
theorem M7(g:Nat)(m:Mp)(e:bo m):aa VA 264 #[pt g 0] [pk (aF g m)] [0] (λ_=>[pk (aF g m)]) (λ_=> .tuple #[iN (dY m),.bool (dp m)]):=aa.pkZ Tryz.func264 λL d=>by
 obtain⟨a,b,c,rfl⟩:=d;exact⟨[1,2,3],λ_=>[bK a m.P,eQ b m.N,dg c m.K],xK g m e a b c,rfl,λE=>⟨rfl,rfl,⟨_,_,_,rfl⟩⟩⟩
theorem CS(g:Nat)(m:Mp)(a:bo m)(e f h:Value):aa VA 281 #[pt g 0] [ob g #[iN m.R,iN m.S,iN m.B,iN m.M,iN m.C,iN m.G,iN m.res,e,f,h,iN m.O,iN m.F] 137,bK e m.P,eQ f m.N,dg h m.K] [1,2,3] (λ_=>[bK e m.P,eQ f m.N,dg h m.K]) (λ_=> .tuple #[iN (fH m),.bool (dR m)]):=by
 have j:=a.Q;have d:=a.ly;have p:=a.np;have n:=a.ll;have k:=a.ld;have o:=a.ls;have q:=a.pg;have s:=a.rk;have t:=d.rp;have r:=j.bd.r8;refine fG Tryz.func281 λw u=>r0 [] [(2,i6 0),(3,.bool false)] [] (r0 [(3,.l 0),(9,.l 0)] [(14,.bool ((m.F:Int)==(m.S:Int)))] [] ?_);refine cO (m.F:Int) (m.S:Int) (λi b=>?_) λi b=>?_
 ·exact r0 [] [(2,i6 0),(3,.bool false)] [2,3] (ak (.tuple #[i6 0,.bool false]) ab.zero (by by_cases c:m.F=m.S<;>first | (exfalso;omega) | (simp [fH,dR,c])) [1,2,3] [(0,0)] [])
 exact r0 [(5,.m (ld 0 (iN m.R))),(9,.m (ld 0 (iN m.F))),(10,ad m.R m.F),] [(2,iN (m.R+m.F)),(3,.bool true)] [2,3] (ak (.tuple #[iN (m.R+m.F),.bool true]) ab.zero (by by_cases c:m.F=m.S<;>first | (exfalso;omega) | (simp [fH,dR,c])) [1,2,3] [(0,0)] [])
end
section
open Go.Shelf
theorem M8(g:Nat)(m:Mp)(a:bo m)(f:dp m=true):aa VA 265 #[pt g 0] [pk (aF g m)] [0] (λ_=>[pk (aF g (pE m))]) (λ_=> .tuple #[iN (dY m),i6 0]):=aa.pkZ Tryz.func265 λL k=>by
 obtain⟨b,d,e,rfl⟩:=k;refine⟨[0,1,2,3],λ_=>[ob g #[iN m.R,iN m.S,iN m.B,iN m.M,iN m.C,iN m.G,iN m.res,b,d,e,iN (m.O+1),iN m.F] 137,bK b m.P,eQ d m.N,dg e m.K],?_,rfl,λE=>⟨rfl,rfl,⟨_,_,_,rfl⟩⟩⟩;have j:=a.Q;have h:=a.ly;have q:=a.np;have o:=a.ll;have n:=a.ld;have p:=a.ls;have r:=a.pg;have u:=a.rk;have v:=h.rp;have t:=j.bd.r8;refine fG Tryz.func265 λw x=>r0 [] [(2,i6 0),(3,i6 0)] [] (r0 [(1,.c [0,1,2,3] [1,2,3] (xK g m a b d e))] [(4,iN (dY m)),(5,.bool (dp m))] [] (r0 [] [(12,.bool (!(dp m)))] [] ?_));have i:(!(dp m))=false:=(by rw[f];rfl);exact cF (!(dp m)) i (rs [(3,.l 0),(4,ad m.O 1),(7,.s 0)] 0 (ob g #[iN m.R,iN m.S,iN m.B,iN m.M,iN m.C,iN m.G,iN m.res,b,d,e,iN (m.O+1),iN m.F] 137) (r0 [] [(2,iN (dY m)),(3,i6 0)] [2,3] (lf ab.zero [0,1,2,3] [] [])))
theorem M9(g:Nat)(m:Mp)(a:bo m)(b:dp m=false):aa VA 265 #[pt g 0] [pk (aF g m)] [0] (λ_=>[pk (aF g m)]) (λ_=> .tuple #[i6 0,i6 52]):=aa.pkZ Tryz.func265 λL k=>by
 obtain⟨e,f,h,rfl⟩:=k;refine⟨[1,2,3],λ_=>[bK e m.P,eQ f m.N,dg h m.K],?_,rfl,λE=>⟨rfl,rfl,⟨_,_,_,rfl⟩⟩⟩;have j:=a.Q;have d:=a.ly;have p:=a.np;have n:=a.ll;have l:=a.ld;have o:=a.ls;have q:=a.pg;have s:=a.rk;have t:=d.rp;have r:=j.bd.r8;refine fG Tryz.func265 λw u=>r0 [] [(2,i6 0),(3,i6 0)] [] (r0 [(1,.c [0,1,2,3] [1,2,3] (xK g m a e f h))] [(4,iN (dY m)),(5,.bool (dp m))] [] (r0 [] [(12,.bool (!(dp m)))] [] ?_));have i:(!(dp m))=true:=(by rw[b];rfl);exact cT (!(dp m)) i (r0 [] [(2,i6 0),(3,i6 52)] [2,3] (lf ab.zero [1,2,3] [(0,0)] []))
theorem Na(g:Nat)(m:Mp)(a:bo m)(f:dR m=true):aa VA 266 #[pt g 0] [pk (aF g m)] [0] (λ_=>[pk (aF g (pF m))]) (λ_=> .tuple #[iN (fH m),i6 0]):=aa.pkZ Tryz.func266 λL k=>by
 obtain⟨b,d,e,rfl⟩:=k;refine⟨[0,1,2,3],λ_=>[ob g #[iN m.R,iN m.S,iN m.B,iN m.M,iN m.C,iN m.G,iN m.res,b,d,e,iN m.O,iN (m.F+1)] 137,bK b m.P,eQ d m.N,dg e m.K],?_,rfl,λE=>⟨rfl,rfl,⟨_,_,_,rfl⟩⟩⟩;have j:=a.Q;have h:=a.ly;have q:=a.np;have o:=a.ll;have n:=a.ld;have p:=a.ls;have r:=a.pg;have u:=a.rk;have v:=h.rp;have t:=j.bd.r8;refine fG Tryz.func266 λw x=>r0 [] [(2,i6 0),(3,i6 0)] [] (r0 [(1,.c [0,1,2,3] [1,2,3] (CS g m a b d e))] [(4,iN (fH m)),(5,.bool (dR m))] [] (r0 [] [(12,.bool (!(dR m)))] [] ?_));have i:(!(dR m))=false:=(by rw[f];rfl);exact cF (!(dR m)) i (rs [(3,.l 0),(4,ad m.F 1),(7,.s 0)] 0 (ob g #[iN m.R,iN m.S,iN m.B,iN m.M,iN m.C,iN m.G,iN m.res,b,d,e,iN m.O,iN (m.F+1)] 137) (r0 [] [(2,iN (fH m)),(3,i6 0)] [2,3] (lf ab.zero [0,1,2,3] [] [])))
theorem Nb(g:Nat)(m:Mp)(a:bo m)(b:dR m=false):aa VA 266 #[pt g 0] [pk (aF g m)] [0] (λ_=>[pk (aF g m)]) (λ_=> .tuple #[i6 0,i6 52]):=aa.pkZ Tryz.func266 λL k=>by
 obtain⟨e,f,h,rfl⟩:=k;refine⟨[1,2,3],λ_=>[bK e m.P,eQ f m.N,dg h m.K],?_,rfl,λE=>⟨rfl,rfl,⟨_,_,_,rfl⟩⟩⟩;have j:=a.Q;have d:=a.ly;have p:=a.np;have n:=a.ll;have l:=a.ld;have o:=a.ls;have q:=a.pg;have s:=a.rk;have t:=d.rp;have r:=j.bd.r8;refine fG Tryz.func266 λw u=>r0 [] [(2,i6 0),(3,i6 0)] [] (r0 [(1,.c [0,1,2,3] [1,2,3] (CS g m a e f h))] [(4,iN (fH m)),(5,.bool (dR m))] [] (r0 [] [(12,.bool (!(dR m)))] [] ?_));have i:(!(dR m))=true:=(by rw[b];rfl);exact cT (!(dR m)) i (r0 [] [(2,i6 0),(3,i6 52)] [2,3] (lf ab.zero [1,2,3] [(0,0)] []))
theorem Nc(g:Nat)(m:Mp)(f:bo m)(h t:Nat)(O:h<m.R*m.B*m.M)(K:m.R*m.B*m.M-m.res≤t)(M:t<m.R*m.B*m.M-m.res+m.O)(x:m.N.getD h false=false)(p:m.N.getD t false=false)(C:h≠t):aa VA 245 #[pt g 0,iN h,iN t] [pk (aF g m)] [0] (λ_=>[pk (aF g (rA m h t))]) (λ_=>i6 0):=aa.pkZ Tryz.func245 λL v=>by
 obtain⟨e,d,q,rfl⟩:=v;refine⟨[1,2,3],λ_=>[bK e (dN m.P h t m.P.length),eQ d (m.N.set h true),dg q m.K],?_,rfl,λE=>⟨rfl,rfl,⟨_,_,_,rfl⟩⟩⟩;have u:=f.Q;have n:=f.ly;have D:=f.np;have A:=f.ll;have z:=f.ld;have B:=f.ls;have F:=f.pg;have H:=f.rk;have J:=n.rp;have G:=u.bd.r8;refine fG Tryz.func245 λw N=>r0 [] [(6,i6 0)] [] (rF [(4,.m (ld 0 (d))),(5,e8 j7 d m.N 2),(6,.c [] [] (oG h m.N.length Om)),(13,.m (ls 0 ([iN m.R,iN m.S,iN m.B,iN m.M,iN m.C,iN m.G,iN m.res]))),(14,.c [] [] (pG m.R m.S m.B m.M m.C m.G m.res n)),(15,.t (tb (a:=iN t) (b:=iN (((m.R*m.B)*m.M)-m.res)) λ_ _ _ _=>k4 (a:=t) (b:=((m.R*m.B)*m.M)-m.res) Om Om)),(19,.m (ld 0 (iN m.O))),(20,.c [] [] (oG (t-(((m.R*m.B)*m.M)-m.res)) m.O Om)),] 9 (r0 [(3,.m (ld 0 (d))),(5,cH j7 d m.N 2 h),(6,eP j7 d m.N 2 h 0),(11,.m (ld 0 (d))),(13,cH j7 d m.N 2 t),(14,eP j7 d m.N 2 t 0),] [(33,.bool (((m.N.getD h false)||(m.N.getD t false))||((h:Int)==(t:Int))))] [] ?_));have r:(((m.N.getD h false)||(m.N.getD t false))||((h:Int)==(t:Int)))=false:=by rw[x,p];simpa using(show(h:Int)≠(t:Int) by omega)
 refine cF (((m.N.getD h false)||(m.N.getD t false))||((h:Int)==(t:Int))) r (rs [(3,.l 0),(5,cH j7 d m.N 2 h),(6,qC j7 d m.N 2 h 0 true (.bool true) Kr)] 2 (eQ d (m.N.set h true)) (r0 [(3,.l 0),(4,e8 cc e m.P 1)] [(64,e),(65,iN m.P.length),(66,i6 0)] [] ?_));refine lq (λk=>k≤m.P.length) (λk=>[(66,iN k)]) (λk L=>L.set 1 (bK e (dN m.P h t k))) (λk=>m.P.length-k) 0 Om Kr (by rw[MZ];kernel_rfl) (λk y=>?_);have I:=CM m.P h t k;refine r0 [] [(67,.bool (decide ((k:Int)<(m.P.length:Int))))] [] ?_;refine b0 (k:Int) (m.P.length:Int) (λs o=>?_) λs o=>?_
 ·refine r0 [(1,cH cc e (dN m.P h t k) 1 k),(2,eP cc e (dN m.P h t k) 1 k 0)] [(7,iN k),(8,iN ((dN m.P h t k).getD k 0))] [] (r0 [] [(73,.bool (((((dN m.P h t k).getD k 0):Nat):Int)==(h:Int)))] [] ?_);refine cJ (((((dN m.P h t k).getD k 0):Nat):Int)==(h:Int)) N0 (λc=>[ob g #[iN m.R,iN m.S,iN m.B,iN m.M,iN m.C,iN m.G,iN m.res,e,d,q,iN m.O,iN m.F] 137,bK e (bif c then(dN m.P h t k).set k t else dN m.P h t k),eQ d (m.N.set h true),dg q m.K]) (λi=>?_) (λi=>?_) ?_
  ·have j:=eq_of_beq i;refine rs [(3,.l 0),(6,cH cc e (dN m.P h t k) 1 k),(7,qC cc e (dN m.P h t k) 1 k 0 t (iN t) Kr)] 1 (bK e ((dN m.P h t k).set k t)) ?_;exact cm Kr [0,1,2,3] Kr
  ·have j:=ne_of_beq_false i;exact cm Kr [0,1,2,3] Kr
  exact r0 [(0,ad k 1)] [(66,iN (k+1))] [66] (le (k+1) Om Om Kr [0,1,2,3] (by rw[←M4 Om];kernel_rfl))
 obtain rfl:m.P.length=k:=by omega
 exact lx (r0 [] [(6,i6 0)] [6] (lf ab.zero [1,2,3] [(0,0)] []))
theorem Nd(g:Nat)(m:Mp)(d:bo m)(r t:Nat)(C:r<m.R)(x:m.R≤t)(y:t<m.R+m.F)(hs:c6 m r=false):aa VA 246 #[pt g 0,iN r,iN t] [pk (aF g m)] [0] (λ_=>[pk (aF g (rC m r t))]) (λ_=>i6 0):=aa.pkZ Tryz.func246 λL j=>by
 obtain⟨z,A,e,rfl⟩:=j;refine⟨[1,2,3],λ_=>[bK z m.P,eQ A m.N,dg e (m.K.set r (t:Int))],?_,rfl,λE=>⟨rfl,rfl,⟨_,_,_,rfl⟩⟩⟩;have i:=d.Q;have f:=d.ly;have p:=d.np;have n:=d.ll;have k:=d.ld;have o:=d.ls;have q:=d.pg;have u:=d.rk;have v:=f.rp;have s:=i.bd.r8;refine fG Tryz.func246 λw B=>r0 [] [(6,i6 0)] [] (rF [(4,.m (ld 0 (e))),(5,e8 kI e m.K 3),(6,.c [] [] (oG r m.K.length Om)),(15,.m (ld 0 (iN m.R))),(16,.t (tb (a:=iN t) (b:=iN m.R) λ_ _ _ _=>k4 (a:=t) (b:=m.R) Om Om)),(20,.m (ld 0 (iN m.F))),(21,.c [] [] (oG (t-m.R) m.F Om)),] 7 (r0 [(3,.l 0),(5,cH kI e m.K 3 r),(6,eP kI e m.K 3 r 0)] [(32,.bool ((m.K.getD r 0) != (-1)))] [] ?_));have h:((m.K.getD r 0) != (-1))=false:=by exact hs
 exact cF ((m.K.getD r 0) != (-1)) h (rs [(3,.l 0),(6,cH kI e m.K 3 r),(7,qC kI e m.K 3 r 0 (t:Int) (iN t) Kr)] 3 (dg e (m.K.set r (t:Int))) (r0 [] [(6,i6 0)] [6] (lf ab.zero [1,2,3] [(0,0)] [])))
theorem Nf(R S B M C way res:Nat)(hly:g5 R S B M C way res):aa VA 175 #[.agg #[iN R,iN S,iN B,iN M,iN C,iN way,iN res]] [] [] (λE=>[ob (E.y 0) #[iN R,iN S,iN B,iN M,iN C,iN way,iN res,(E.val 0),(E.val 1),(E.val 2),i6 0,i6 0] 137,bK (E.val 0) (VC (R*B*M-res)),eQ (E.val 1) (VD ((R*B)*M) false),dg (E.val 2) (VD R (-1))]) (λE=> .tuple #[pt ((E.y 0)) 0,i6 0]):=by
 have hG:=hly.Q
 have hrp:=hly.rp
 have hnp:=hG.bd.rbm
 have hway:=hly.G
 have hr64:=hly.r64
 have hlines:=hG.bd.r8
 refine fG Tryz.func175 λw cs=>ra (λq1=>[(1,pt (B0 q1) 0),(2,.pointer none),(3,i6 0)]) (λq1=>[ob (B0 q1) #[iN R,iN S,iN B,iN M,iN C,iN way,iN res] 25]) λq1=>rF [(0,.l 0),(1,.c [] [] (CO R S B M C way res hly))] 8 (rr (λ_=>[(0,.l 0),(2,.l 0),(3,.c [] [] (k9 R S B M C hG)),(4,qI j7 1 ((R*B)*M))]) (λq3=>[(4,pt (B6 q3) 0)]) [] (λq3 L=>L++[eQ (.slice (some ⟨(q3 4).y 0,0,none⟩) ((R*B)*M) ((R*B)*M)) (VD ((R*B)*M) false),ob (B6 q3) #[iN R,iN S,iN B,iN M,iN C,iN way,iN res,.slice none 0 0,.slice (some ⟨(q3 4).y 0,0,none⟩) ((R*B)*M) ((R*B)*M),.slice none 0 0,i6 0,i6 0] 137]) λq3=>r0 [(0,.l 0),(1,.c [] [] (pG R S B M C way res hly))] [(17,iN (((R*B)*M)-res)),(18,i6 0)] [] (cz cc ?_))
 refine mP (λk _=>k≤(R*B*M-res)) (λk _=>[(18,iN k)]) (λk vC4_7 L=>(L.set 2 (ob (B6 q3) #[iN R,iN S,iN B,iN M,iN C,iN way,iN res,vC4_7,.slice (some ⟨(q3 4).y 0,0,none⟩) ((R*B)*M) ((R*B)*M),.slice none 0 0,i6 0,i6 0] 137)).set 3 (bK vC4_7 (VC k))) (λk _=>(R*B*M-res)-k) 0 (.slice none 0 0) Om Kr Kr (λk vC4_7 hk5=>?_)
 have hkl:(VC k).length=k:=VN
 refine r0 [] [(19,.bool (decide ((k:Int)<((((R*B)*M)-res:Nat):Int))))] [] ?_
 refine b0 (k:Int) ((((R*B)*M)-res:Nat):Int) (λh7 dh7=>?_) λh7 dh7=>?_
 ·exact r0 [] [(5,iN k)] [] (rr (λq9=>[(4,.l 2),(6,.m (bs 4 1)),(7,fp cc (vC4_7) (VC k) 3 4 ([k])),(10,.m (fz 2 3 (bK ((q9 7).val 0) ((VC k)++([k]))) ((q9 7).val 0) λbs h=>ar.one ((λ_ h=>h) bs h)))]) N0 [] (λq9 L=>(L.set 2 (ob (B6 q3) #[iN R,iN S,iN B,iN M,iN C,iN way,iN res,(q9 7).val 0,.slice (some ⟨(q3 4).y 0,0,none⟩) ((R*B)*M) ((R*B)*M),.slice none 0 0,i6 0,i6 0] 137)).set 3 (bK ((q9 7).val 0) ((VC k)++([k])))++[ob (B6 q9) #[iN k] 3]) λq9=>r0 [(0,ad k 1)] [(18,iN (k+1))] [18] (kY (k+1) ((q9 7).val 0) Om Om Kr [0,1,2,3] (by rw[V4];kernel_rfl)))
 obtain rfl:k=(R*B*M-res):=by omega
 refine kZ ?_
 refine r0 [(2,.l 0)] [(34,iN R),(35,i6 0)] [] (cz kI ?_)
 refine mP (λj _=>j≤R) (λj _=>[(35,iN j)]) (λj vC4_9 L=>(L.set 2 (ob (B6 q3) #[iN R,iN S,iN B,iN M,iN C,iN way,iN res,vC4_7,.slice (some ⟨(q3 4).y 0,0,none⟩) ((R*B)*M) ((R*B)*M),vC4_9,i6 0,i6 0] 137)).set 4 (dg vC4_9 (VD j (-1)))) (λj _=>R-j) 0 (.slice none 0 0) Om Kr Kr (λj vC4_9 hk12=>?_)
 have hjl:(VD j (-1:Int)).length=j:=VZ
 refine r0 [] [(36,.bool (decide ((j:Int)<(R:Int))))] [] ?_
 refine b0 (j:Int) (R:Int) (λh14 dh14=>?_) λh14 dh14=>?_
 ·exact rr (λq15=>[(4,.l 2),(5,.m (bs 5 1)),(6,fp kI (vC4_9) (VD j (-1)) 4 5 ([(-1)])),(9,.m (fz 2 4 (dg ((q15 6).val 0) ((VD j (-1))++([(-1)]))) ((q15 6).val 0) λbs h=>ar.one ((λ_ h=>h) bs h)))]) N0 [] (λq15 L=>(L.set 2 (ob (B6 q3) #[iN R,iN S,iN B,iN M,iN C,iN way,iN res,vC4_7,.slice (some ⟨(q3 4).y 0,0,none⟩) ((R*B)*M) ((R*B)*M),(q15 6).val 0,i6 0,i6 0] 137)).set 4 (dg ((q15 6).val 0) ((VD j (-1))++([(-1)])))++[ob (B5 q15) #[i6 (-1)] 3]) λq15=>r0 [(0,ad j 1)] [(35,iN (j+1))] [35] (kY (j+1) ((q15 6).val 0) Om Om Kr [0,1,2,3,4] (by rw[List.replicate_succ'];kernel_rfl))
 obtain rfl:R=j:=by omega
 refine kZ ?_
 exact r0 [] [(2,pt (B6 q3) 0),(3,i6 0)] [2,3] (lf (.l [(q3 6).y 0] [] [vC4_7,.slice (some ⟨(q3 4).y 0,0,none⟩) ((R*B)*M) ((R*B)*M),vC4_9]) [2,3,1,4] [] [])
theorem Ng(R S B M C way a:Nat)(b:g5 R S B M C way a):aa VA 175 #[.agg #[iN R,iN S,iN B,iN M,iN C,iN way,iN a]] [] [] (λE=>[pk (aF (E.y 0) (lj R S B M C way a))]) (λE=> .tuple #[pt ((E.y 0)) 0,i6 0]):=(Nf R S B M C way a b).outs λE d c=>rn ⟨_,_,_,rfl⟩ c
end
section
open Go.Shelf
theorem lB(a b:Nat):((a:Int)==(b:Int))=decide (a=b):=by
 by_cases h:a=b
 ·subst h;rw[cx rfl];exact beq_self_eq_true _
 ·rw[bh h,dP];omega
theorem xL(a b:Nat):decide ((a:Int)≤(b:Int))=decide (a≤b):=by
 by_cases h:a≤b
 ·rw[cx h,cx Om]
 ·rw[bh h,bh Om]
structure Jb where
 A:Nat
 fr:Nat
 tg:Nat
 nx:Nat
def lC:Jb:=⟨0,0,0,0⟩
def gh(a B M C:Nat):Nat:=match a with
 | 0=>0
 | 1=>C
 | _=>B*M*C
structure nK (m:Mp) (fr t nx:Nat):Prop where
 hf:fr<m.R*m.B*m.M
 ht:t<m.R*m.B*m.M
 ne:fr≠t
 df:m.N.getD fr false=false
 dt:m.N.getD t false=false
 t0:m.R*m.B*m.M-m.res≤t
 t1:t<m.R*m.B*m.M-m.res+m.O
 nx:nx≤m.C
 f1:fr<m.R*m.B*m.M-m.res+m.O
structure nM (m:Mp) (fr t nx:Nat):Prop where
 hf:fr<m.R
 hs:c6 m fr=false
 t0:m.R≤t
 t1:t<m.R+m.F
 nx:nx≤m.B*m.M*m.C
structure rE (m:Mp) (j:Jb):Prop where
 k:j=lC∨(j.A=1∧nK m j.fr j.tg j.nx)∨(j.A=2∧nM m j.fr j.tg j.nx)
def j8(m:Mp)(r i:Nat):Nat:=bU r (i/m.C/m.M) (i/m.C%m.M) (i%m.C)
def a8(m:Mp)(a w i:Nat):Nat:=match a with
 | 1=>bq m w*64+i
 | _=>j8 m w i
def iM(m:Mp)(n:Nat):Nat:=(fF m.G m.R m.B m.M (az m n)*m.M+fD m.G m.R m.B m.M (az m n))*m.C+n%m.C
def aR(m:Mp)(j:Jb)(n:Nat):Nat:=match j.A with
 | 0=>eR m n
 | 1=>if az m n=j.fr then(if n%m.C<j.nx then a8 m 1 j.tg (n%m.C) else eR m n) else eR m n
 | _=>if aJ m.G m.R m.B m.M (az m n)=j.fr then(if iM m n<j.nx then a8 m 2 j.tg (iM m n) else eR m n) else eR m n
section
variable {m:Mp}
theorem uD(h:bo m){r i:Nat}(c:r<m.R+m.S)(b:i<m.B*m.M*m.C):gZ m.R m.S m.B m.M m.C r (i/m.C/m.M) (i/m.C%m.M) (i%m.C):=by
 have a:=h.Q.bd;refine⟨c,?_,VJ _ a.m1,VJ _ a.c1⟩;exact Wc (VP m.B m.M▸Wc (VP (m.B*m.M) m.C▸b))
theorem xM(h:bo m){n:Nat}(d:n<(m.R*m.B*m.M-m.res)*m.C):iM m n<m.B*m.M*m.C:=by
 have a:=uy h (uA h d);have e:=VJ n h.Q.bd.c1;have b:fF m.G m.R m.B m.M (az m n)*m.M+fD m.G m.R m.B m.M (az m n)<m.B*m.M:=by
  have:(fF m.G m.R m.B m.M (az m n)+1)*m.M≤m.B*m.M:=VL _ a.h1;rw[V0] at this;have:=a.h2;omega
 have c:(fF m.G m.R m.B m.M (az m n)*m.M+fD m.G m.R m.B m.M (az m n)+1)*m.C≤m.B*m.M*m.C:=VL _ b;rw[V0] at c;unfold iM;omega
theorem CT(m:Mp)(n:Nat):eR m n=bU (lh m (az m n)) (fF m.G m.R m.B m.M (az m n)) (fD m.G m.R m.B m.M (az m n)) (n%m.C):=by unfold eR bq bU;omega
theorem CU(h:bo m){n:Nat}(b:n<(m.R*m.B*m.M-m.res)*m.C):gZ m.R m.S m.B m.M m.C (lh m (az m n)) (fF m.G m.R m.B m.M (az m n)) (fD m.G m.R m.B m.M (az m n)) (n%m.C):=by
 have a:=uy h (uA h b);exact⟨a.h0,a.h1,a.h2,VJ _ h.Q.bd.c1⟩
end
end
section
open Go.Shelf
theorem CV(i n:Int):aa VA 187 #[i6 i,i6 n] [] [] N0 (λ_=> .bool (bR i n)):=by
 exact fG Tryz.func187 λw a=>r0 [] [(4,.bool false)] [] (r0 [] [(4,.bool ((decide (0≤i))&&(decide (i<n))))] [4] (ak (.bool ((decide (0≤i))&&(decide (i<n)))) ab.zero Vm [] [] []))
theorem nN(i n:Nat)(h:i<n):aa VA 187 #[iN i,iN n] [] [] N0 (λ_=> .bool true):=by
 have a:=CV i n;rwa [k8.2 ⟨by omega,by omega⟩] at a
theorem Nh(d t f R S B M C way a:Nat)(c:g5 R S B M C way a):aa VA 188 #[.agg #[i6 0,iN d,iN t,iN f],.agg #[iN R,iN S,iN B,iN M,iN C,iN way,iN a]] [] [] N0 (λ_=>i6 0):=by
 have g:=c.Q;have e:=g.bd.bmc;exact fG Tryz.func188 λw h=>ra (λb=>[(2,pt (B0 b) 0),(3,pt (B1 b) 0),(4,i6 0)]) (λb=>[ob (B0 b) #[i6 0,iN d,iN t,iN f] 70,ob (B1 b) #[iN R,iN S,iN B,iN M,iN C,iN way,iN a] 25]) λb=>r0 [(1,.l 0)] [(6,i6 0)] [] (rF [] 7 (rF [] 12 (r0 [] [(4,i6 0)] [4] (lf ab.zero [] [] []))))
theorem xN(d t f R S B M C way a:Nat)(c:g5 R S B M C way a):aa VA 188 #[.agg #[i6 1,iN d,iN t,iN f],.agg #[iN R,iN S,iN B,iN M,iN C,iN way,iN a]] [] [] N0 (λ_=>iN C):=by
 have g:=c.Q;have e:=g.bd.bmc;exact fG Tryz.func188 λw h=>ra (λb=>[(2,pt (B0 b) 0),(3,pt (B1 b) 0),(4,i6 0)]) (λb=>[ob (B0 b) #[i6 1,iN d,iN t,iN f] 70,ob (B1 b) #[iN R,iN S,iN B,iN M,iN C,iN way,iN a] 25]) λb=>r0 [(1,.l 0)] [(6,i6 1)] [] (rT [] 7 (r0 [(2,.l 1)] [(4,iN C)] [4] (lf ab.zero [] [] [])))
theorem xO(e t h R S B M C way a:Nat)(d:g5 R S B M C way a):aa VA 188 #[.agg #[i6 2,iN e,iN t,iN h],.agg #[iN R,iN S,iN B,iN M,iN C,iN way,iN a]] [] [] N0 (λ_=>iN ((B*M)*C)):=by
 have f:=d.Q;have g:=f.bd.bmc;exact fG Tryz.func188 λw i=>ra (λb=>[(2,pt (B0 b) 0),(3,pt (B1 b) 0),(4,i6 0)]) (λb=>[ob (B0 b) #[i6 2,iN e,iN t,iN h] 70,ob (B1 b) #[iN R,iN S,iN B,iN M,iN C,iN way,iN a] 25]) λb=>r0 [(1,.l 0)] [(6,i6 2)] [] (rF [] 7 (rT [] 12 (r0 [(1,.l 1),(2,.c [] [] (Mu R S B M C f))] [(4,iN ((B*M)*C))] [4] (lf ab.zero [] [] []))))
theorem Ni(f t b R S B M C way a:Nat)(e:g5 R S B M C way a):aa VA 211 #[.agg #[i6 1,iN f,iN t,iN b],.agg #[iN R,iN S,iN B,iN M,iN C,iN way,iN a]] [] [] N0 (λ_=> .bool (decide (b=C))):=by
 have h:=e.Q;have g:=h.bd.bmc;exact fG Tryz.func211 λw i=>ra (λd=>[(2,pt (B0 d) 0),(3,pt (B1 d) 0),(4,.bool false)]) (λd=>[ob (B0 d) #[i6 1,iN f,iN t,iN b] 70,ob (B1 d) #[iN R,iN S,iN B,iN M,iN C,iN way,iN a] 25]) λd=>r0 [(1,.m (ld 0 (i6 1))),(5,.m (ld 0 (iN b))),(6,.m (ls 0 ([i6 1,iN f,iN t,iN b]))),(7,.m (ls 1 ([iN R,iN S,iN B,iN M,iN C,iN way,iN a]))),(8,.c [] [] (xN f t b R S B M C way a e)),] [(4,.bool ((b:Int)==(C:Int)))] [4] (ak (.bool ((b:Int)==(C:Int))) ab.zero (by exact ALca Value.bool (lB b C)) [] [] [])
theorem Nj(f t b R S B M C way a:Nat)(e:g5 R S B M C way a):aa VA 211 #[.agg #[i6 2,iN f,iN t,iN b],.agg #[iN R,iN S,iN B,iN M,iN C,iN way,iN a]] [] [] N0 (λ_=> .bool (decide (b=B*M*C))):=by
 have h:=e.Q;have g:=h.bd.bmc;exact fG Tryz.func211 λw i=>ra (λd=>[(2,pt (B0 d) 0),(3,pt (B1 d) 0),(4,.bool false)]) (λd=>[ob (B0 d) #[i6 2,iN f,iN t,iN b] 70,ob (B1 d) #[iN R,iN S,iN B,iN M,iN C,iN way,iN a] 25]) λd=>r0 [(1,.m (ld 0 (i6 2))),(5,.m (ld 0 (iN b))),(6,.m (ls 0 ([i6 2,iN f,iN t,iN b]))),(7,.m (ls 1 ([iN R,iN S,iN B,iN M,iN C,iN way,iN a]))),(8,.c [] [] (xO f t b R S B M C way a e)),] [(4,.bool ((b:Int)==(((B*M)*C:Nat):Int)))] [4] (ak (.bool ((b:Int)==(((B*M)*C:Nat):Int))) ab.zero (by exact ALca Value.bool (lB b (B*M*C))) [] [] [])
theorem Nk(g:Nat)(m:Mp)(d:bo m)(a t h:Nat)(e:nK m a t h):aa VA 222 #[.agg #[i6 1,iN a,iN t,iN h],pt g 0] [pk (aF g m)] [0] (λ_=>[pk (aF g m)]) (λ_=> .bool true):=by
 have b:=d.Q;have p:=d.ly;have r:=d.np;have i:=b.bd.bmc;have k:=b.bd.c1;have q:=b.bd.m1;have j:=b.bd.c64;have s:=b.bd.r8;have l:=e.hf;have n:=e.ht;have o:=e.ne;exact fG Tryz.func222 λw u=>ra (λf=>[(2,pt (B0 f) 0),(4,.bool false)]) (λf=>[ob (B0 f) #[i6 1,iN a,iN t,iN h] 70]) λf=>r0 [(1,.c [0] [0] (iL g m d)),(3,.c [] [] (k9 m.R m.S m.B m.M m.C b))] [(5,iN ((m.R*m.B)*m.M))] [] (r0 [(1,.m (ld 1 (iN a))),(3,.c [] [] (nN a ((m.R*m.B)*m.M) Om)),(6,.m (ld 1 (iN t))),(8,.c [] [] (nN t ((m.R*m.B)*m.M) Om)),(12,.m (ld 1 (iN a))),(14,.m (ld 1 (iN t))),(15,.t (tk (show Value.bool ((a:Int) != (t:Int))= .bool true from ALca Value.bool (by simp;omega)))),(20,.m (ld 1 (iN a))),(21,.c [0] [0] (aa.v ((uC g m d a Om)) λ_=>ALca Value.bool (show((m.N.getD a false))=false from(by exact e.df)))),(27,.m (ld 1 (iN t))),(28,.c [0] [0] (aa.v ((uC g m d t Om)) λ_=>ALca Value.bool (show((m.N.getD t false))=false from(by exact e.dt)))),] [(4,.bool true)] [4] (lf ab.zero [0] [] []))
theorem Nl(g:Nat)(m:Mp)(e:bo m)(d t k:Nat)(h:nM m d t k):aa VA 223 #[.agg #[i6 2,iN d,iN t,iN k],pt g 0] [pk (aF g m)] [0] (λ_=>[pk (aF g m)]) (λ_=> .bool true):=by
 have f:=e.Q;have x:=e.ly;have z:=e.np;have n:=f.bd.bmc;have p:=f.bd.c1;have y:=f.bd.m1;have o:=f.bd.c64;have A:=f.bd.r8;have q:=h.hf;have r:=h.t0;have u:=h.t1;have v:=e.rk;exact fG Tryz.func223 λw B=>ra (λi=>[(2,pt (B0 i) 0),(4,.bool false)]) (λi=>[ob (B0 i) #[i6 2,iN d,iN t,iN k] 70]) λi=>rr (λ_=>[(1,.c [0] [0] (iL g m e)),(4,.s 2)]) (λj=>[(5,pt (B3 j) 0)]) [] (λj L=>L++[ob (B3 j) #[iN m.R,iN m.S,iN m.B,iN m.M,iN m.C] 23]) λj=>r0 [(2,.l 1),(3,.c [0] [0] (xI g m e d Om))] [(7,.bool (c6 m d))] [] (r0 [(1,.m (ld 1 (iN d))),(3,.m (ld 2 (iN m.R))),(4,.c [] [] (nN d m.R Om)),(11,.m (ld 1 (iN t))),(13,.m (ld 2 (iN m.R))),(14,.t (tb (a:=iN t) (b:=iN m.R) λ_ _ _ _=>k4 (a:=t) (b:=m.R) Om Om)),(16,.m (ld 2 (iN m.S))),(17,.c [] [] (nN (t-m.R) m.S Om))] [(4,.bool ((!(c6 m d))&&true))] [4] (ak (.bool ((!(c6 m d))&&true)) ab.zero (by rw[h.hs];rfl) [0] [] []))
theorem Nm(g:Nat)(m:Mp)(b:bo m):aa VA 186 #[.agg #[i6 0,i6 0,i6 0,i6 0],pt g 0] [pk (aF g m)] [0] (λ_=>[pk (aF g m)]) (λ_=> .bool true):=by
 have a:=b.Q;have f:=b.ly;have n:=b.np;have h:=a.bd.bmc;have j:=a.bd.c1;have k:=a.bd.m1;have i:=a.bd.c64;have o:=a.bd.r8;exact fG Tryz.func186 λw p=>ra (λd=>[(2,pt (B0 d) 0),(4,.bool false)]) (λd=>[ob (B0 d) #[i6 0,i6 0,i6 0,i6 0] 70]) λd=>r0 [(1,.l 1),(2,.l 1),(4,.c [0] [0] (iL g m b)),(5,.c [] [] (Nh 0 0 0 m.R m.S m.B m.M m.C m.G m.res f)),(7,.c [] [] (CV 0 1))] [(5,.bool (bR 0 1))] [] (r0 [(1,.l 1)] [(15,i6 0)] [] (rT [] 16 (r0 [(0,.l 1),(2,.e)] [(4,.bool (0==0&&(0==0&&(0==0&&(0==0&&true)))))] [4] (ak (.bool (0==0&&(0==0&&(0==0&&(0==0&&true))))) ab.zero Vm [0] [] []))))
theorem CW(g:Nat)(m:Mp)(e:bo m)(b t a:Nat)(k:nK m b t a):aa VA 186 #[.agg #[i6 1,iN b,iN t,iN a],pt g 0] [pk (aF g m)] [0] (λ_=>[pk (aF g m)]) (λ_=> .bool true):=by
 have d:=e.Q;have h:=e.ly;have q:=e.np;have i:=d.bd.bmc;have n:=d.bd.c1;have p:=d.bd.m1;have j:=d.bd.c64;have r:=d.bd.r8;have o:=k.nx;exact fG Tryz.func186 λw s=>ra (λf=>[(2,pt (B0 f) 0),(4,.bool false)]) (λf=>[ob (B0 f) #[i6 1,iN b,iN t,iN a] 70]) λf=>r0 [(1,.l 1),(2,.l 1),(4,.c [0] [0] (iL g m e)),(5,.c [] [] (xN b t a m.R m.S m.B m.M m.C m.G m.res h)),(6,ad m.C 1),(7,.c [] [] (nN a (m.C+1) Om))] [(5,.bool true)] [] (r0 [(1,.l 1)] [(15,i6 1)] [] (rF [] 16 (rT [] 21 (r0 [(2,.l 1),(4,.c [0] [0] (Nk g m e b t a k))] [(4,.bool true)] [4] (lf ab.zero [0] [] [])))))
theorem CX(g:Nat)(m:Mp)(e:bo m)(b t a:Nat)(k:nM m b t a):aa VA 186 #[.agg #[i6 2,iN b,iN t,iN a],pt g 0] [pk (aF g m)] [0] (λ_=>[pk (aF g m)]) (λ_=> .bool true):=by
 have d:=e.Q;have h:=e.ly;have q:=e.np;have i:=d.bd.bmc;have n:=d.bd.c1;have p:=d.bd.m1;have j:=d.bd.c64;have r:=d.bd.r8;have o:=k.nx;exact fG Tryz.func186 λw s=>ra (λf=>[(2,pt (B0 f) 0),(4,.bool false)]) (λf=>[ob (B0 f) #[i6 2,iN b,iN t,iN a] 70]) λf=>r0 [(1,.l 1),(2,.l 1),(4,.c [0] [0] (iL g m e)),(5,.c [] [] (xO b t a m.R m.S m.B m.M m.C m.G m.res h)),(6,ad ((m.B*m.M)*m.C) 1),(7,.c [] [] (nN a (((m.B*m.M)*m.C)+1) Om))] [(5,.bool true)] [] (r0 [(1,.l 1)] [(15,i6 2)] [] (rF [] 16 (rF [] 21 (rT [] 29 (r0 [(2,.l 1),(4,.c [0] [0] (Nl g m e b t a k))] [(4,.bool true)] [4] (lf ab.zero [0] [] []))))))
theorem Nn(m:Mp)(j:bo m)(r i:Nat)(q:r<m.R+m.S)(o:i<m.B*m.M*m.C):aa VA 189 #[.agg #[iN m.R,iN m.S,iN m.B,iN m.M,iN m.C],iN r,iN i] [] [] N0 (λ_=> .tuple #[iN (j8 m r i),i6 0]):=by
 have f:=j.Q;have h:=f.bd.bmc;have k:=f.bd.c1;have p:=f.bd.m1;have n:=WU i m.C;exact fG Tryz.func189 λw u=>ra (λg=>[(3,pt (B0 g) 0),(6,i6 0),(7,i6 0)]) (λg=>[ob (B0 g) #[iN m.R,iN m.S,iN m.B,iN m.M,iN m.C] 23]) λg=>rr (λ_=>[(3,.l 0),(4,.t (tb (a:=iN i) (b:=iN m.C) λ_ _ _ _=>nu (a:=i) (d:=m.C) Om)),(7,.s 1)]) (λe=>[(8,pt (B6 e) 0)]) [] (λe L=>L++[ob (B6 e) #[iN r,i6 0,i6 0,iN (i%m.C)] 46]) λe=>r0 [(2,.l 0),(3,.t (tb (a:=iN i) (b:=iN m.C) λ_ _ _ _=>og (a:=i) (d:=m.C) Om Om))] [(2,iN (i/m.C))] [2] (rs [(2,.m (ld 0 (iN m.M))),(3,.t (tb (a:=iN (i/m.C)) (b:=iN m.M) λ_ _ _ _=>nu (a:=i/m.C) (d:=m.M) Om)),(6,.m (ld 0 (iN m.M))),(7,.t (tb (a:=iN (i/m.C)) (b:=iN m.M) λ_ _ _ _=>og (a:=i/m.C) (d:=m.M) Om Om)),(9,.s 1),(11,.s 1)] 1 (ob (B6 e) #[iN r,iN ((i/m.C)/m.M),iN ((i/m.C)%m.M),iN (i%m.C)] 46) (r0 [(0,.l 0),(1,.l 1),(2,.c [] [] (ru f (uD j q o)))] [(6,iN (bU r ((i/m.C)/m.M) ((i/m.C)%m.M) (i%m.C))),(7,i6 0)] [6,7] (ak (.tuple #[iN (bU r ((i/m.C)/m.M) ((i/m.C)%m.M) (i%m.C)),i6 0]) ab.zero Vm [] [] [])))
theorem CY(g:Nat)(m:Mp)(d:bo m)(a t e:Nat)(q:nK m a t e)(p i:Nat)(hp:p<m.R*m.B*m.M)(y:i<m.C):aa VA 144 #[.agg #[i6 1,iN a,iN t,iN e],pt g 0,iN p,iN i] [pk (aF g m)] [0] (λ_=>[pk (aF g m)]) (λ_=> .tuple #[iN (bq m p*64+i),i6 0]):=by
 have f:=d.Q;have j:=d.ly;have u:=d.np;have k:=f.bd.bmc;have o:=f.bd.c1;have s:=f.bd.m1;have n:=f.bd.c64;have v:=f.bd.r8;have r:=uz d hp;exact fG Tryz.func144 λw x=>ra (λh=>[(4,pt (B0 h) 0),(8,i6 0),(9,i6 0)]) (λh=>[ob (B0 h) #[i6 1,iN a,iN t,iN e] 70]) λh=>rF [(0,.m (ls 1 ([i6 1,iN a,iN t,iN e]))),(2,.c [0] [0] (CW g m d a t e q)),(6,.m (ls 1 ([i6 1,iN a,iN t,iN e]))),(8,.c [0] [0] (iL g m d)),(9,.c [] [] (xN a t e m.R m.S m.B m.M m.C m.G m.res j)),(10,.c [] [] (nN i m.C Om))] 24 (rF [(1,.l 1)] 27 (r0 [(2,.c [0] [0] (CR g m d p Om))] [(10,iN (bq m p)),(11,i6 0)] [] (rF [] 43 (r0 [(1,.t (tv (av .shl 3 (.tmp 45) (.const (u6 6)) (iN (bq m p)) (u6 6)) (λ_=>dF (b:=((bq m p*64:Nat):Int)) (fB 6 Dc Om Om) Om))),(3,.t (tv (av .or 3 (.tmp 46) (.tmp 47) (iN (bq m p*64)) (iN i)) (λ_=>dF (b:=((bq m p*64+i:Nat):Int)) (qH 6 64 rfl Om Om Om Om Om) Om)))] [(8,iN (bq m p*64+i)),(9,i6 0)] [8,9] (lf ab.zero [0] [] [])))))
theorem CZ(g:Nat)(m:Mp)(b:bo m)(a t d:Nat)(o:nM m a t d)(r i:Nat)(x:r<m.R+m.S)(v:i<m.B*m.M*m.C):aa VA 144 #[.agg #[i6 2,iN a,iN t,iN d],pt g 0,iN r,iN i] [pk (aF g m)] [0] (λ_=>[pk (aF g m)]) (λ_=> .tuple #[iN (j8 m r i),i6 0]):=by
 have e:=b.Q;have h:=b.ly;have q:=b.np;have j:=e.bd.bmc;have n:=e.bd.c1;have p:=e.bd.m1;have k:=e.bd.c64;have s:=e.bd.r8;exact fG Tryz.func144 λw u=>ra (λf=>[(4,pt (B0 f) 0),(8,i6 0),(9,i6 0)]) (λf=>[ob (B0 f) #[i6 2,iN a,iN t,iN d] 70]) λf=>rF [(0,.m (ls 1 ([i6 2,iN a,iN t,iN d]))),(2,.c [0] [0] (CX g m b a t d o)),(6,.m (ls 1 ([i6 2,iN a,iN t,iN d]))),(8,.c [0] [0] (iL g m b)),(9,.c [] [] (xO a t d m.R m.S m.B m.M m.C m.G m.res h)),(10,.c [] [] (nN i ((m.B*m.M)*m.C) Om))] 24 (rT [(1,.l 1)] 27 (r0 [(1,.c [0] [0] (iL g m b)),(5,.c [] [] (Nn m b r i Om Om))] [(8,iN (j8 m r i)),(9,i6 0)] [8,9] (lf ab.zero [0] [] [])))
theorem No(g:Nat)(m:Mp)(d:bo m)(a t e:Nat)(k:nK m a t e)(i:Nat)(v:i<m.C):aa VA 119 #[.agg #[i6 1,iN a,iN t,iN e],pt g 0,iN i] [pk (aF g m)] [0] (λ_=>[pk (aF g m)]) (λ_=> .tuple #[iN (bq m a*64+i),i6 0]):=by
 have b:=d.Q;have p:=d.ly;have r:=d.np;have h:=b.bd.bmc;have n:=b.bd.c1;have q:=b.bd.m1;have j:=b.bd.c64;have s:=b.bd.r8;have o:=k.hf;exact fG Tryz.func119 λw u=>ra (λf=>[(3,pt (B0 f) 0),(6,i6 0),(7,i6 0)]) (λf=>[ob (B0 f) #[i6 1,iN a,iN t,iN e] 70]) λf=>r0 [(0,.l 1),(3,.l 1),(5,.c [0] [0] (CY g m d a t e k a i Om Om))] [(6,iN (bq m a*64+i)),(7,i6 0)] [6,7] (lf ab.zero [0] [] [])
theorem Np(g:Nat)(m:Mp)(d:bo m)(a t e:Nat)(k:nM m a t e)(i:Nat)(v:i<m.B*m.M*m.C):aa VA 119 #[.agg #[i6 2,iN a,iN t,iN e],pt g 0,iN i] [pk (aF g m)] [0] (λ_=>[pk (aF g m)]) (λ_=> .tuple #[iN (j8 m a i),i6 0]):=by
 have b:=d.Q;have p:=d.ly;have r:=d.np;have h:=b.bd.bmc;have n:=b.bd.c1;have q:=b.bd.m1;have j:=b.bd.c64;have s:=b.bd.r8;have o:=k.hf;exact fG Tryz.func119 λw u=>ra (λf=>[(3,pt (B0 f) 0),(6,i6 0),(7,i6 0)]) (λf=>[ob (B0 f) #[i6 2,iN a,iN t,iN e] 70]) λf=>r0 [(0,.l 1),(3,.l 1),(5,.c [0] [0] (CZ g m d a t e k a i Om Om))] [(6,iN (j8 m a i)),(7,i6 0)] [6,7] (lf ab.zero [0] [] [])
theorem C0(g:Nat)(m:Mp)(d:bo m)(b t e:Nat)(k:nK m b t e)(i:Nat)(v:i<m.C):aa VA 120 #[.agg #[i6 1,iN b,iN t,iN e],pt g 0,iN i] [pk (aF g m)] [0] (λ_=>[pk (aF g m)]) (λ_=> .tuple #[iN (bq m t*64+i),i6 0]):=by
 have a:=d.Q;have p:=d.ly;have r:=d.np;have h:=a.bd.bmc;have n:=a.bd.c1;have q:=a.bd.m1;have j:=a.bd.c64;have s:=a.bd.r8;have o:=k.ht;exact fG Tryz.func120 λw u=>ra (λf=>[(3,pt (B0 f) 0),(6,i6 0),(7,i6 0)]) (λf=>[ob (B0 f) #[i6 1,iN b,iN t,iN e] 70]) λf=>r0 [(0,.l 1),(3,.l 1),(5,.c [0] [0] (CY g m d b t e k t i Om Om))] [(6,iN (bq m t*64+i)),(7,i6 0)] [6,7] (lf ab.zero [0] [] [])
theorem C1(g:Nat)(m:Mp)(b:bo m)(d t e:Nat)(k:nM m d t e)(i:Nat)(x:i<m.B*m.M*m.C):aa VA 120 #[.agg #[i6 2,iN d,iN t,iN e],pt g 0,iN i] [pk (aF g m)] [0] (λ_=>[pk (aF g m)]) (λ_=> .tuple #[iN (j8 m t i),i6 0]):=by
 have a:=b.Q;have q:=b.ly;have s:=b.np;have h:=a.bd.bmc;have n:=a.bd.c1;have r:=a.bd.m1;have j:=a.bd.c64;have u:=a.bd.r8;have o:=k.t1;have p:=b.rk;exact fG Tryz.func120 λw v=>ra (λf=>[(3,pt (B0 f) 0),(6,i6 0),(7,i6 0)]) (λf=>[ob (B0 f) #[i6 2,iN d,iN t,iN e] 70]) λf=>r0 [(0,.l 1),(3,.l 1),(5,.c [0] [0] (CZ g m b d t e k t i Om Om))] [(6,iN (j8 m t i)),(7,i6 0)] [6,7] (lf ab.zero [0] [] [])
theorem Nq(m:Mp)(f:bo m)(n:Nat)(h:n<(m.R*m.B*m.M-m.res)*m.C):aa VA 221 #[.agg #[iN m.R,iN m.S,iN m.B,iN m.M,iN m.C],iN (bU (lh m (az m n)) (fF m.G m.R m.B m.M (az m n)) (fD m.G m.R m.B m.M (az m n)) (n%m.C))] [] [] N0 (λ_=>iN (iM m n)):=by
 have d:=f.Q;have g:=d.bd.bmc;have j:(fF m.G m.R m.B m.M (az m n)*m.M+fD m.G m.R m.B m.M (az m n))*m.C+n%m.C<m.B*m.M*m.C:=xM f h;have e:=d.bd.c1;have i:=Wj (fF m.G m.R m.B m.M (az m n)*m.M+fD m.G m.R m.B m.M (az m n)) e;exact fG Tryz.func221 λw k=>ra (λa=>[(2,pt (B0 a) 0),(4,i6 0)]) (λa=>[ob (B0 a) #[iN m.R,iN m.S,iN m.B,iN m.M,iN m.C] 23]) λa=>rr (λ_=>[(0,.l 0),(2,.c [] [] (rv d (CU f h))),(7,.s 1)]) (λb=>[(5,pt (B6 b) 0),(6,i6 0)]) [] (λb L=>L++[ob (B6 b) #[iN (lh m (az m n)),iN (fF m.G m.R m.B m.M (az m n)),iN (fD m.G m.R m.B m.M (az m n)),iN (n%m.C)] 46]) λb=>rF [] 14 (r0 [(1,.m (ld 1 (iN (fF m.G m.R m.B m.M (az m n))))),(3,.m (ld 0 (iN m.M))),(4,ml (fF m.G m.R m.B m.M (az m n)) m.M),(6,.m (ld 1 (iN (fD m.G m.R m.B m.M (az m n))))),(7,ad ((fF m.G m.R m.B m.M (az m n))*m.M) (fD m.G m.R m.B m.M (az m n))),(9,.m (ld 0 (iN m.C))),(10,ml (((fF m.G m.R m.B m.M (az m n))*m.M)+(fD m.G m.R m.B m.M (az m n))) m.C),(12,.m (ld 1 (iN (n%m.C)))),(13,ad ((((fF m.G m.R m.B m.M (az m n))*m.M)+(fD m.G m.R m.B m.M (az m n)))*m.C) (n%m.C))] [(4,iN (((((fF m.G m.R m.B m.M (az m n))*m.M)+(fD m.G m.R m.B m.M (az m n)))*m.C)+(n%m.C)))] [4] (ak (iN (((((fF m.G m.R m.B m.M (az m n))*m.M)+(fD m.G m.R m.B m.M (az m n)))*m.C)+(n%m.C))) ab.zero Vm [] [] []))
end
section
open Go.Shelf
theorem Nr(m:Mp)(a:bo m)(n:Nat)(b:n<(m.R*m.B*m.M-m.res)*m.C):aa VA 221 #[.agg #[iN m.R,iN m.S,iN m.B,iN m.M,iN m.C],iN (eR m n)] [] [] N0 (λ_=>iN (iM m n)):=by
 rw[CT];exact Nq m a n b
theorem Nu(g:Nat)(m:Mp)(a:bo m)(n:Nat)(t:n<(m.R*m.B*m.M-m.res)*m.C):aa VA 185 #[.agg #[i6 0,i6 0,i6 0,i6 0],pt g 0,iN n] [pk (aF g m)] [0] (λ_=>[pk (aF g m)]) (λ_=> .tuple #[iN (eR m n),iN (az m n),iN (aJ m.G m.R m.B m.M (az m n)),i6 0]):=by
 have b:=a.Q;have k:=a.ly;have p:=a.np;have h:=b.bd.bmc;have j:=b.bd.c1;have o:=b.bd.m1;have i:=b.bd.c64;have q:=b.bd.r8;exact fG Tryz.func185 λw r=>ra (λe=>[(3,pt (B0 e) 0),(6,i6 0),(7,i6 0),(8,i6 0),(9,i6 0)]) (λe=>[ob (B0 e) #[i6 0,i6 0,i6 0,i6 0] 70]) λe=>r0 [(2,.c [0] [0] (xJ g m a n Om)),] [(6,iN (eR m n)),(7,iN (az m n)),(8,iN (aJ m.G m.R m.B m.M (az m n))),(9,i6 0)] [6,7,8,9] (rF [(3,.l 1),(5,.c [0] [0] (Nm g m a))] 27 (rr (λ_=>[(1,.c [0] [0] (iL g m a)),(4,.s 2)]) (λf=>[(10,pt (B3 f) 0)]) [] (λf L=>L++[ob (B3 f) #[iN m.R,iN m.S,iN m.B,iN m.M,iN m.C] 23]) λf=>r0 [] [(11,i6 0)] [] (rF [(1,.l 1),(4,.d),(5,.d),(6,.d),(7,.d)] 39 (rF [(1,.l 1),(4,.d),(5,.d),(6,.d),(7,.d)] 53 (r0 [] [(6,iN (eR m n)),(7,iN (az m n)),(8,iN (aJ m.G m.R m.B m.M (az m n))),(9,i6 0)] [6,7,8,9] (lf ab.zero [0] [] []))))))
theorem Nv(g:Nat)(m:Mp)(h:bo m)(e t f:Nat)(z:nK m e t f)(n:Nat)(I:n<(m.R*m.B*m.M-m.res)*m.C):aa VA 185 #[.agg #[i6 1,iN e,iN t,iN f],pt g 0,iN n] [pk (aF g m)] [0] (λ_=>[pk (aF g m)]) (λ_=> .tuple #[iN (aR m ⟨1,e,t,f⟩ n),iN (az m n),iN (aJ m.G m.R m.B m.M (az m n)),i6 0]):=by
 have o:=h.Q;have C:=h.ly;have F:=h.np;have x:=o.bd.bmc;have v:=o.bd.c1;have D:=o.bd.m1;have y:=o.bd.c64;have G:=o.bd.r8;have A:=VJ n v;refine fG Tryz.func185 λw H=>ra (λp=>[(3,pt (B0 p) 0),(6,i6 0),(7,i6 0),(8,i6 0),(9,i6 0)]) (λp=>[ob (B0 p) #[i6 1,iN e,iN t,iN f] 70]) λp=>r0 [(2,.c [0] [0] (xJ g m h n Om)),] [(6,iN (eR m n)),(7,iN (az m n)),(8,iN (aJ m.G m.R m.B m.M (az m n))),(9,i6 0)] [6,7,8,9] (rF [(3,.l 1),(5,.c [0] [0] (CW g m h e t f z))] 27 (rr (λ_=>[(1,.c [0] [0] (iL g m h)),(4,.s 2)]) (λq=>[(10,pt (B3 q) 0)]) [] (λq L=>L++[ob (B3 q) #[iN m.R,iN m.S,iN m.B,iN m.M,iN m.C] 23]) λq=>r0 [] [(11,i6 0)] [] (r0 [(1,.l 1),(6,.l 1)] [(39,.bool (((az m n:Nat):Int)==(e:Int)))] [] ?_)));refine cO ((az m n:Nat):Int) (e:Int) (λB r=>?_) λB r=>?_
 ·refine r0 [(2,.l 2),(3,.t (tb (a:=iN n) (b:=iN m.C) λ_ _ _ _=>nu (a:=n) (d:=m.C) Om))] [(11,iN (n%m.C))] [11] (r0 [(2,.l 1)] [(69,.bool (decide (((n%m.C:Nat):Int)<(f:Int))))] [] ?_);refine b0 ((n%m.C:Nat):Int) (f:Int) (λu k=>?_) λu k=>?_
  ·exact r0 [(0,.l 1),(3,.c [0] [0] (C0 g m h e t f z (n%m.C) Om))] [(6,iN (bq m t*64+(n%m.C))),(9,i6 0)] [6,9] (r0 [] [(6,iN (bq m t*64+(n%m.C))),(7,iN (az m n)),(8,iN (aJ m.G m.R m.B m.M (az m n))),(9,i6 0)] [6,7,8,9] (ak (.tuple #[iN (bq m t*64+(n%m.C)),iN (az m n),iN (aJ m.G m.R m.B m.M (az m n)),i6 0]) ab.zero (by by_cases i:az m n=e<;>by_cases j:n%m.C<f<;>first | (exfalso;omega) | (simp [aR,a8,i,j])) [0] [] []))
  exact r0 [] [(6,iN (eR m n)),(7,iN (az m n)),(8,iN (aJ m.G m.R m.B m.M (az m n))),(9,i6 0)] [6,7,8,9] (ak (.tuple #[iN (eR m n),iN (az m n),iN (aJ m.G m.R m.B m.M (az m n)),i6 0]) ab.zero (by by_cases i:az m n=e<;>by_cases j:n%m.C<f<;>first | (exfalso;omega) | (simp [aR,a8,i,j])) [0] [] [])
 exact rF [(1,.l 1),(4,.d),(5,.d),(6,.d),(7,.d)] 53 (r0 [] [(6,iN (eR m n)),(7,iN (az m n)),(8,iN (aJ m.G m.R m.B m.M (az m n))),(9,i6 0)] [6,7,8,9] (ak (.tuple #[iN (eR m n),iN (az m n),iN (aJ m.G m.R m.B m.M (az m n)),i6 0]) ab.zero (by by_cases i:az m n=e<;>by_cases j:n%m.C<f<;>first | (exfalso;omega) | (simp [aR,a8,i,j])) [0] [] []))
theorem Nw(g:Nat)(m:Mp)(e:bo m)(a t b:Nat)(v:nM m a t b)(n:Nat)(B:n<(m.R*m.B*m.M-m.res)*m.C):aa VA 185 #[.agg #[i6 2,iN a,iN t,iN b],pt g 0,iN n] [pk (aF g m)] [0] (λ_=>[pk (aF g m)]) (λ_=> .tuple #[iN (aR m ⟨2,a,t,b⟩ n),iN (az m n),iN (aJ m.G m.R m.B m.M (az m n)),i6 0]):=by
 have j:=e.Q;have z:=e.ly;have C:=e.np;have r:=j.bd.bmc;have y:=j.bd.c1;have A:=j.bd.m1;have u:=j.bd.c64;have F:=j.bd.r8;have D:=xM e B;refine fG Tryz.func185 λw G=>ra (λk=>[(3,pt (B0 k) 0),(6,i6 0),(7,i6 0),(8,i6 0),(9,i6 0)]) (λk=>[ob (B0 k) #[i6 2,iN a,iN t,iN b] 70]) λk=>r0 [(2,.c [0] [0] (xJ g m e n Om)),] [(6,iN (eR m n)),(7,iN (az m n)),(8,iN (aJ m.G m.R m.B m.M (az m n))),(9,i6 0)] [6,7,8,9] (rF [(3,.l 1),(5,.c [0] [0] (CX g m e a t b v))] 27 (rr (λ_=>[(1,.c [0] [0] (iL g m e)),(4,.s 2)]) (λo=>[(10,pt (B3 o) 0)]) [] (λo L=>L++[ob (B3 o) #[iN m.R,iN m.S,iN m.B,iN m.M,iN m.C] 23]) λo=>r0 [] [(11,i6 0)] [] (rF [(1,.l 1),(4,.d),(5,.d),(6,.d),(7,.d)] 39 (r0 [(1,.l 1),(6,.l 1)] [(53,.bool (((aJ m.G m.R m.B m.M (az m n):Nat):Int)==(a:Int)))] [] ?_))));refine cO ((aJ m.G m.R m.B m.M (az m n):Nat):Int) (a:Int) (λx p=>?_) λx p=>?_
 ·refine r0 [(0,.l 2),(2,.c [] [] (Nr m e n Om))] [(11,iN (iM m n))] [11] (r0 [(2,.l 1)] [(69,.bool (decide (((iM m n:Nat):Int)<(b:Int))))] [] ?_);refine b0 ((iM m n:Nat):Int) (b:Int) (λq i=>?_) λq i=>?_
  ·exact r0 [(0,.l 1),(3,.c [0] [0] (C1 g m e a t b v (iM m n) Om))] [(6,iN (j8 m t (iM m n))),(9,i6 0)] [6,9] (r0 [] [(6,iN (j8 m t (iM m n))),(7,iN (az m n)),(8,iN (aJ m.G m.R m.B m.M (az m n))),(9,i6 0)] [6,7,8,9] (ak (.tuple #[iN (j8 m t (iM m n)),iN (az m n),iN (aJ m.G m.R m.B m.M (az m n)),i6 0]) ab.zero (by by_cases f:aJ m.G m.R m.B m.M (az m n)=a<;>by_cases h:iM m n<b<;>first | (exfalso;omega) | (simp [aR,a8,f,h])) [0] [] []))
  exact r0 [] [(6,iN (eR m n)),(7,iN (az m n)),(8,iN (aJ m.G m.R m.B m.M (az m n))),(9,i6 0)] [6,7,8,9] (ak (.tuple #[iN (eR m n),iN (az m n),iN (aJ m.G m.R m.B m.M (az m n)),i6 0]) ab.zero (by by_cases f:aJ m.G m.R m.B m.M (az m n)=a<;>by_cases h:iM m n<b<;>first | (exfalso;omega) | (simp [aR,a8,f,h])) [0] [] [])
 exact r0 [] [(6,iN (eR m n)),(7,iN (az m n)),(8,iN (aJ m.G m.R m.B m.M (az m n))),(9,i6 0)] [6,7,8,9] (ak (.tuple #[iN (eR m n),iN (az m n),iN (aJ m.G m.R m.B m.M (az m n)),i6 0]) ab.zero (by by_cases f:aJ m.G m.R m.B m.M (az m n)=a<;>by_cases h:iM m n<b<;>first | (exfalso;omega) | (simp [aR,a8,f,h])) [0] [] [])
theorem Nx(g:Nat)(m:Mp)(b:bo m)(j f t k:Nat)(n:Int)(q:bR n (((m.R*m.B*m.M-m.res)*m.C:Nat):Int)=false):aa VA 185 #[.agg #[iN j,iN f,iN t,iN k],pt g 0,i6 n] [pk (aF g m)] [0] (λ_=>[pk (aF g m)]) (λ_=> .tuple #[i6 0,i6 0,i6 0,i6 12]):=by
 have a:=b.Q;have o:=b.ly;have r:=b.np;have h:=a.bd.bmc;have l:=a.bd.c1;have p:=a.bd.m1;have i:=a.bd.c64;have s:=a.bd.r8;exact fG Tryz.func185 λw u=>ra (λe=>[(3,pt (B0 e) 0),(6,i6 0),(7,i6 0),(8,i6 0),(9,i6 0)]) (λe=>[ob (B0 e) #[iN j,iN f,iN t,iN k] 70]) λe=>r0 [(2,.c [0] [0] (M6 g m b n q)),] [(6,i6 0),(7,i6 0),(8,i6 0),(9,i6 12)] [6,7,8,9] (rT [(3,.d),(4,.d),(5,.d),(6,.d)] 27 (r0 [] [(6,i6 0),(7,i6 0),(8,i6 0),(9,i6 12)] [6,7,8,9] (lf ab.zero [0] [] [])))
theorem Ny(g:Nat)(m:Mp)(b:bo m)(j:Jb)(f:rE m j)(n:Nat)(c:n<(m.R*m.B*m.M-m.res)*m.C):aa VA 185 #[.agg #[iN j.A,iN j.fr,iN j.tg,iN j.nx],pt g 0,iN n] [pk (aF g m)] [0] (λ_=>[pk (aF g m)]) (λ_=> .tuple #[iN (aR m j n),iN (az m n),iN (aJ m.G m.R m.B m.M (az m n)),i6 0]):=by
 obtain⟨i,d,t,e⟩:=j;rcases f.k with h | ⟨a,h⟩ | ⟨a,h⟩
 ·cases h;exact Nu g m b n c
 ·cases a;exact Nv g m b d t e h n c
 ·cases a;exact Nw g m b d t e h n c
def kA(m:Mp)(j:Jb):Bool:=decide (j.A≠0)&&decide (j.nx=gh j.A m.B m.M m.C)
theorem C2(m:Mp)(d:bo m)(b a t c:Nat)(e:b=1∨b=2):aa VA 211 #[.agg #[iN b,iN a,iN t,iN c],.agg #[iN m.R,iN m.S,iN m.B,iN m.M,iN m.C,iN m.G,iN m.res]] [] [] N0 (λ_=> .bool (kA m ⟨b,a,t,c⟩)):=by
 rcases e with rfl | rfl
 ·exact Ni a t c m.R m.S m.B m.M m.C m.G m.res d.ly
 ·exact Nj a t c m.R m.S m.B m.M m.C m.G m.res d.ly
theorem Nz(g:Nat)(m:Mp)(d:bo m)(j:Jb)(f:rE m j)(i:Nat)(a:i<gh j.A m.B m.M m.C):aa VA 119 #[.agg #[iN j.A,iN j.fr,iN j.tg,iN j.nx],pt g 0,iN i] [pk (aF g m)] [0] (λ_=>[pk (aF g m)]) (λ_=> .tuple #[iN (a8 m j.A j.fr i),i6 0]):=by
 obtain⟨k,c,t,e⟩:=j;rcases f.k with h | ⟨b,h⟩ | ⟨b,h⟩
 ·cases h;exact absurd a (We i)
 ·cases b;exact No g m d c t e h i a
 ·cases b;exact Np g m d c t e h i a
theorem NA(g:Nat)(m:Mp)(d:bo m)(j:Jb)(f:rE m j)(i:Nat)(a:i<gh j.A m.B m.M m.C):aa VA 120 #[.agg #[iN j.A,iN j.fr,iN j.tg,iN j.nx],pt g 0,iN i] [pk (aF g m)] [0] (λ_=>[pk (aF g m)]) (λ_=> .tuple #[iN (a8 m j.A j.tg i),i6 0]):=by
 obtain⟨k,c,t,e⟩:=j;rcases f.k with h | ⟨b,h⟩ | ⟨b,h⟩
 ·cases h;exact absurd a (We i)
 ·cases b;exact C0 g m d c t e h i a
 ·cases b;exact C1 g m d c t e h i a
end
section
open Go.Shelf
structure Ak where
 k:Nat
 w:Nat
deriving DecidableEq
def aG:Ak:=⟨0,0⟩
def rG(x:Ak):List Value:=[iN x.k,iN x.w]
def mf:Kd VA Ak:=⟨rG,[i6 0,i6 0],351,285,aG,2,λ_=>rfl,rfl,λ_=>rfl,dU.mk' Kr Kr rfl⟩
abbrev e3(v:Value)(xs:List Ak):aB:= .p (ar rG ([i6 0,i6 0]) 285 v xs)
def mh(arr:List Ak)(a i:Nat):Ak:=arr.getD ((a+i)%arr.length) aG
def oH(arr:List Ak)(a n:Nat)(x:Ak):Bool:=(VC n).any λj=>decide (mh arr a j=x)
theorem C3{arr:List Ak}{a n:Nat}{x:Ak}{j:Nat}(b:j<n)(e:mh arr a j=x):oH arr a n x=true:=List.any_eq_true.2 ⟨j,List.mem_range.2 b,cx e⟩
theorem C4{arr:List Ak}{a n:Nat}{x:Ak}(h: ∀j,j<n→mh arr a j≠x):oH arr a n x=false:=List.any_eq_false.2 λj b=>by simpa using h j (List.mem_range.1 b)
theorem NB{x y:Ak}(h:((((x.k:Nat):Int)==((y.k:Nat):Int))&&((((x.w:Nat):Int)==((y.w:Nat):Int))&&true))=true):y=x:=by
 rw[WW,lB,lB,VI,decide_eq_true_eq,decide_eq_true_eq] at h;obtain⟨a,b⟩:=x;obtain⟨c,d⟩:=y;simp only at h;rw[h.1,h.2]
theorem NC{x y:Ak}(h:((((x.k:Nat):Int)==((y.k:Nat):Int))&&((((x.w:Nat):Int)==((y.w:Nat):Int))&&true))=false):y≠x:=by
 intro e;subst e;rw[WW,lB,lB,cx rfl,cx rfl] at h;cases h
theorem xP{P:Nat→Prop}{k:Nat}(h: ∀j,j<k→P j)(h1:P k): ∀j,j<k+1→P j:=λj c=>by
 rcases Nat.lt_succ_iff_lt_or_eq.1 c with b | rfl
 ·exact h j b
 ·exact h1
structure iO (arr:List Ak) (a:Nat) (q:List Ak):Prop where
 l:arr.length=256
 lt:a<256
 n:q.length≤256
 q: ∀i,i<q.length→mh arr a i=q.getD i aG
abbrev bE(g:Nat)(q:List Ak)(L:ah):Prop:=∃(v:Value) (arr:List Ak) (a:Nat) (b:iO arr a q),L=[ob g #[v,iN a,iN q.length] 353,e3 v arr]
def pH(q:List Ak)(x:Ak):List Ak:=if x∈q then q else if q.length=256 then q else q++[x]
def rH(q:List Ak)(x:Ak):Int:=if x∈q then 15 else if q.length=256 then 14 else 0
section
variable {arr:List Ak} {a:Nat} {q:List Ak}
theorem iO.has(h:iO arr a q)(x:Ak):oH arr a q.length x=decide (x∈q):=by
 by_cases c:x∈q
 ·obtain⟨j,b,e⟩:=WJ c;rw[cx c];refine C3 b ?_;rw[h.q j b,VB,VE b];exact e
 ·rw[bh c];refine C4 λj b e=>c ?_;rw[h.q j b,VB,VE b] at e;exact e▸List.getElem_mem b
theorem iO.push(h:iO arr a q)(x:Ak)(f:q.length<256):iO (arr.set ((a+q.length)%arr.length) x) a (q++[x]):=by
 have c:=h.l;have d:=h.lt;refine⟨by rw[VV];exact h.l,h.lt,by rw[VF];show q.length+1≤256;omega,λi b=>?_⟩;rw[VF] at b;have b:i<q.length+1:=b;unfold mh;rw[VV,VB,V1];by_cases e:i=q.length
 ·subst e;rw[ALifp rfl,ALifp (VJ _ Om),VB,VR (VU _)];simp
 ·rw[ALifn (by rw[c];omega),VB,VO Om];have:=h.q i Om;unfold mh at this;rwa [VB,VB] at this
theorem iO.pop(h:iO arr a q)(f:0<q.length):iO (arr.set a aG) ((a+1)%(arr.set a aG).length) q.tail:=by
 have b:=h.l;have e:=h.lt;rw[VV];refine⟨by rw[VV];exact h.l,by rw[b];exact VJ _ Dc,by rw[Wb];have:=h.n;omega,λi c=>?_⟩;rw[Wb] at c;have:=h.q (i+1) Om;have d:=h.n;unfold mh at this⊢;rw[VV,VB,V1,ALifn (by rw[b];omega)];rw[VB] at this;rw[show((a+1)%arr.length+i)%arr.length=(a+(i+1))%arr.length by rw[b];omega,this,VB,VB,List.getElem?_tail]
theorem iO.first(h:iO arr a q)(b:0<q.length):mh arr a 0=q.headD aG:=by
 rw[h.q 0 b];cases q with
 | nil=>cases b
 | cons x q=>rfl
end
def lD(q:List Ak):Int:=if q.length=0 then 13 else 0
theorem ND:iO (VD 256 aG) 0 []:=⟨by rw[VZ],by decide,by decide,λi b=>absurd b (We i)⟩
end
section
open Go.Shelf
theorem uE(g:Nat)(v:Value)(c:List Ak)(a n i:Nat)(l:c.length=256)(j:a<256)(k:i≤256):aa VA 283 #[pt g 0,iN i] [ob g #[v,iN a,iN n] 353,.p (aH rG v c)] [] N0 (λ_=>iN ((a+i)%c.length)):=by
 exact fO Tryz.func283 1 rfl λf e=>fG Tryz.func283 λw h=>r0 [] [(4,i6 0)] [] (r0 [(3,.m (ld 0 (iN a))),(5,ad a i),(9,.m (ld 0 (v))),(10,eD e.1 1),(11,.t (tb (a:=iN (a+i)) (b:=iN c.length) λ_ _ _ _=>nu (a:=a+i) (d:=c.length) Om))] [(4,iN ((a+i)%c.length))] [4] (lf ab.zero [] [(0,0),(1,1)] []))
theorem NF(g:Nat):aa VA 282 #[pt g 0] [] [] (λE=>[ob (E.y 0) #[pt g 0] 131]) (λE=> .func (.func 287) #[] #[pt ((E.y 0)) 0]):=by
 exact fG Tryz.func282 λw b=>ra (λa=>[(1,pt (B0 a) 0),(2,.nilFunc)]) (λa=>[ob (B0 a) #[pt g 0] 131]) λa=>r0 [] [(2,.func (.func 287) #[] #[pt (B0 a) 0])] [2] (lf (.l [(a 0).y 0] [] []) [0] [] [])
theorem NG(b g:Nat)(v:Value)(d:List Ak)(a n:Nat)(bs:aw)(j:aH rG v d bs)(u:d.length=256)(H:a<256)(I:n≤256):eX 5 VA 287 #[pt b 0] (λ(x:Nat×Ak)=>#[i6 (x.1:Int),.agg #[i6 (x.2.k:Int),i6 (x.2.w:Int)]]) ((VC n).map λk=>(k,d.getD ((a+k)%d.length) aG)) (List.flatten [[(b,.cells #[pt g 0] 131 (0,0))],[(g,.cells #[v,iN a,iN n] 353 (0,0))],bs]):=by
 refine gi (KO:=[[(b,.cells #[pt g 0] 131 (0,0))],[(g,.cells #[v,iN a,iN n] 353 (0,0))],bs]) Tryz.func287 (λz B A G D m s r=>?_);refine r0 [(0,.l 0),(3,.l 1)] [(7,iN n),(8,i6 0)] [] ?_;refine jD (λk=>k≤n) (λk=>[(8,iN k)]) (λ_ L=>L) (λk=>n-k) (λk=>k) 0 Om r Kr Kr (λk C F t f=>?_);have y:(a+k)%d.length<d.length:=VJ _ Om;refine r0 [] [(9,.bool (decide ((k:Int)<(n:Int))))] [] ?_;refine b0 (k:Int) (n:Int) (λq i=>?_) λq i=>?_
 ·refine r0 [] [(3,iN k)] [] ?_;refine iy m s f 11 (λ_=>[(2,.l 0),(5,.l 1),(6,.l 0),(8,.c [1,2] [] (aa.at (rd':=[ob g #[v,iN a,iN n] 353,.c bs]) (uE g v d a n k (by(simp only[LL,u];done)) Om Om) (aK (ei j (λ_ h=>h))))),(9,fa j.1 2 ((a+k)%d.length) 2),(10,mQ mf j.1 2 ((a+k)%d.length) 0 2)]) (λ_=>[(11,.func (.yield z) #[] #[]),(12,iN k),(21,.agg #[iN ((d.getD ((a+k)%d.length) aG).k),iN ((d.getD ((a+k)%d.length) aG).w)])]) [] (λ_ L=>L) N0 [0,1,2] (oa Om) (λJ o p e=>?_);refine cF _ rfl (r0 [(0,ad k 1)] [(8,iN (k+1))] [8] ?_);exact ij (k+1) Om e Om Kr [0,1,2] Kr
 obtain rfl:n=k:=by omega
 refine jE ?_;exact ku m f (by rw[VH,VN]) [] [0,1,2]
theorem xQ(g:Nat)(v:Value)(b:List Ak)(a n:Nat)(x:Ak)(G:b.length=256)(N:a<256)(A:n≤256):aa VA 267 #[pt g 0,.agg #[iN x.k,iN x.w]] [ob g #[v,iN a,iN n] 353,.p (aH rG v b)] [] N0 (λ_=> .bool (oH b a n x)):=by
 refine fO Tryz.func267 1 rfl λi t=>fG Tryz.func267 λw M=>ra (λd=>[(3,pt (B0 d) 0),(4,pt (B1 d) 0)]) (λd=>[ob (B0 d) #[iN x.k,iN x.w] 285,ob (B1 d) #[.bool false] 4]) λd=>rr (λ_=>[(1,.c [] [4] (NF g))]) (λf=>[(8,.func (.func 287) #[] #[pt ((B1 f)) 0])]) [] (λf L=>L++[ob (B1 f) #[pt g 0] 131]) λf=>?_;refine AO (encs:=λ(x:Nat×Ak)=>#[i6 (x.1:Int),.agg #[i6 (x.2.k:Int),i6 (x.2.w:Int)]]) (xs:=(VC n).map λk=>(k,b.getD ((a+k)%b.length) aG)) (KO:=[[((B1 f),.cells #[pt g 0] 131 (0,0))],[(g,.cells #[v,iN a,iN n] 353 (0,0))],i]) (NG (B1 f) g v b a n i t (by(simp only[LL,G];done)) Om Om) (enters_of Tryz.func287 Kr rfl) (λk=>k≤n∧(∀j,j<k→mh b a j≠x)) (λ_ L=>L) (λc k=>(c=Code.ret∧(∃j,j+1=k∧mh b a j=x))) (λ_ _ L=>L.set 3 (ob (B1 d) #[.bool true] 4)) [4,0,1] ⟨by omega,(λ_ h=>absurd h (We _))⟩ Kr (λP k R H J y ⟨m,o⟩=>?_) (λB ⟨m,o⟩=>?_) λB c k F D=>?_
 ·obtain⟨z,rfl⟩:=nn y;refine rr (λ_=>[(1,.s 5)]) (λq=>[(6,pt (B0 q) 0)]) [] (λq L=>L++[ob (B0 q) #[iN ((b.getD ((a+k)%b.length) aG).k),iN ((b.getD ((a+k)%b.length) aG).w)] 285]) λq=>?_;refine ag [4,0,1] (λI K=>?_);refine r0 [(0,.l 2),(1,.l 5),(2,.e)] [(13,.bool ((x.k:Int)==(((b.getD ((a+k)%b.length) aG).k:Nat):Int)&&((x.w:Int)==(((b.getD ((a+k)%b.length) aG).w:Nat):Int)&&true)))] [] ?_;refine cB (((x.k:Int)==(((b.getD ((a+k)%b.length) aG).k:Nat):Int)&&((x.w:Int)==(((b.getD ((a+k)%b.length) aG).w:Nat):Int)&&true))) (λC=>?_) λC=>?_
  ·refine rr (λ_=>[(0,.s 3)]) N0 [] (λ_ L=>L.set 3 (ob (B1 d) #[.bool true] 4)) λQ=>?_;exact nr _ ⟨⟨rfl,⟨_,rfl,NB As⟩⟩,rfl⟩ [0,1,2,3,4] Kr
  exact ne _ ⟨⟨by omega,xP o (NC As)⟩,rfl⟩ [0,1,2,3,4] Kr
 ·simp only[VH,VN] at m;exact r0 [(0,.s 3)] [] [] (ak (.bool false) ab.zero (by(simp only[VH,VN] at o;rw[C4 o])) [] [(0,0),(1,1)] [3])
 obtain⟨rfl,u⟩:=D;exact ak (.bool true) ab.zero (by(obtain⟨j,O,A⟩:=u;have r:=F;simp only[VH,VN] at r;rw[C3 (j:=j) Om A])) [] [(0,0),(1,1)] [3]
theorem NH(g:Nat)(v:Value)(b:List Ak)(a:Nat)(q:List Ak)(e:iO b a q)(x:Ak)(o:q.length<256):aa VA 268 #[pt g 0,.agg #[iN x.k,iN x.w]] [ob g #[v,iN a,iN q.length] 353,e3 v b] [0,1] (λ_=>[ob g #[v,iN a,iN (q.length+1)] 353,e3 v (b.set ((a+q.length)%b.length) x)]) (λ_=>i6 0):=by
 have f:=e.l;have k:=e.lt;have n:=e.n;have i:(a+q.length)%b.length<b.length:=VJ _ Om;exact fG Tryz.func268 λw j=>ra (λd=>[(3,pt (B0 d) 0),(4,i6 0)]) (λd=>[ob (B0 d) #[iN x.k,iN x.w] 285]) λd=>rF [(3,.l 0),(7,.l 0),(8,e8 mf v b 1),(9,.t (tk (show Value.bool ((q.length:Int)==(b.length:Int))= .bool false from ALca Value.bool (by rw[dP];omega))))] 14 (rs [(3,.m (ld 0 (v))),(8,.m (ld 0 (iN q.length))),(9,.c [0,1] [] (aa.at (rd':=[ob g #[v,iN a,iN q.length] 353,e3 v b]) (uE g v b a q.length q.length (by(simp only[LL,f];done)) Om Om) (aK (bM (λ_ h=>ar.sq h) (λ_ h=>h))))),(10,.m (ls 2 ([iN x.k,iN x.w]))),(11,cH mf v b 1 ((a+q.length)%b.length)),(12,qB mf v b 1 ((a+q.length)%b.length) x)] 1 (e3 v (b.set ((a+q.length)%b.length) x)) (rs [(3,.l 0),(4,ad q.length 1),(7,.s 0)] 0 (ob g #[v,iN a,iN (q.length+1)] 353) (r0 [] [(4,i6 0)] [4] (lf ab.zero [0,1] [] []))))
theorem NI(g:Nat)(v:Value)(b:List Ak)(a:Nat)(q:List Ak)(d:iO b a q)(x:Ak)(f:q.length=256):aa VA 268 #[pt g 0,.agg #[iN x.k,iN x.w]] [ob g #[v,iN a,iN q.length] 353,e3 v b] [1] (λ_=>[e3 v b]) (λ_=>i6 14):=by
 have e:=d.l;have i:=d.lt;have j:=d.n;exact fG Tryz.func268 λw h=>ra (λc=>[(3,pt (B0 c) 0),(4,i6 0)]) (λc=>[ob (B0 c) #[iN x.k,iN x.w] 285]) λc=>rT [(3,.l 0),(7,.l 0),(8,e8 mf v b 1),(9,.t (tk (show Value.bool ((q.length:Int)==(b.length:Int))= .bool true from ALca Value.bool (by rw[e,f];rfl))))] 14 (r0 [] [(4,i6 14)] [4] (lf ab.zero [1] [(0,0)] []))
theorem NJ(g:Nat)(q:List Ak)(x:Ak)(j:x∈q):aa VA 242 #[pt g 0,.agg #[iN x.k,iN x.w]] [pk (bE g q)] [0] (λ_=>[pk (bE g q)]) (λ_=>i6 15):=aa.pkZ Tryz.func242 λL f=>by
 obtain⟨v,b,a,d,rfl⟩:=f;refine⟨[1],λ_=>[e3 v b],?_,rfl,λE=>⟨rfl,rfl,⟨_,_,_,d,rfl⟩⟩⟩;have i:=d.l;have m:=d.lt;have n:=d.n;exact fG Tryz.func242 λw k=>ra (λe=>[(3,pt (B0 e) 0),(4,i6 0)]) (λe=>[ob (B0 e) #[iN x.k,iN x.w] 285]) λe=>rT [(1,.l 2),(2,.c [0,1] [] (aa.v ((aa.at (rd':=[ob g #[v,iN a,iN q.length] 353,e3 v b]) (xQ g v b a q.length x (by(simp only[LL,i];done)) Om Om) (aK (bM (λ_ h=>ar.sq h) (λ_ h=>h))))) λ_=>ALca Value.bool (show(oH b a q.length x)=true from(by rw[d.has,cx j]))))] 7 (r0 [] [(4,i6 15)] [4] (lf ab.zero [1] [(0,0)] []))
theorem NK(g:Nat)(q:List Ak)(x:Ak)(k:x∉q)(i:q.length=256):aa VA 242 #[pt g 0,.agg #[iN x.k,iN x.w]] [pk (bE g q)] [0] (λ_=>[pk (bE g q)]) (λ_=>i6 14):=aa.pkZ Tryz.func242 λL j=>by
 obtain⟨v,b,a,d,rfl⟩:=j;refine⟨[1],λ_=>[e3 v b],?_,rfl,λE=>⟨rfl,rfl,⟨_,_,_,d,rfl⟩⟩⟩;have f:=d.l;have n:=d.lt;have o:=d.n;exact fG Tryz.func242 λw m=>ra (λe=>[(3,pt (B0 e) 0),(4,i6 0)]) (λe=>[ob (B0 e) #[iN x.k,iN x.w] 285]) λe=>rF [(1,.l 2),(2,.c [0,1] [] (aa.v ((aa.at (rd':=[ob g #[v,iN a,iN q.length] 353,e3 v b]) (xQ g v b a q.length x (by(simp only[LL,f,i];done)) Om Om) (aK (bM (λ_ h=>ar.sq h) (λ_ h=>h))))) λ_=>ALca Value.bool (show(oH b a q.length x)=false from(by rw[d.has,bh k]))))] 7 (r0 [(1,.l 2),(2,.c [0,1] [1] (NI g v b a q d x (by(simp only[LL,f,i];done))))] [(4,i6 14)] [4] (lf ab.zero [1] [(0,0)] []))
theorem NL(g:Nat)(q:List Ak)(x:Ak)(k:x∉q)(j:q.length<256):aa VA 242 #[pt g 0,.agg #[iN x.k,iN x.w]] [pk (bE g q)] [0] (λ_=>[pk (bE g (q++[x]))]) (λ_=>i6 0):=aa.pkZ Tryz.func242 λL f=>by
 obtain⟨v,b,a,d,rfl⟩:=f;refine⟨[0,1],λ_=>[ob g #[v,iN a,iN (q.length+1)] 353,e3 v (b.set ((a+q.length)%b.length) x)],?_,rfl,λE=>⟨rfl,rfl,⟨_,_,_,d.push x j,ALca (λn:Nat=>[ob g #[v,iN a,iN n] _,_]) (show q.length+1=(q++[x]).length by rw[VF];rfl)⟩⟩⟩;have i:=d.l;have o:=d.lt;have p:=d.n;exact fG Tryz.func242 λw m=>ra (λe=>[(3,pt (B0 e) 0),(4,i6 0)]) (λe=>[ob (B0 e) #[iN x.k,iN x.w] 285]) λe=>rF [(1,.l 2),(2,.c [0,1] [] (aa.v ((aa.at (rd':=[ob g #[v,iN a,iN q.length] 353,e3 v b]) (xQ g v b a q.length x (by(simp only[LL,i];done)) Om Om) (aK (bM (λ_ h=>ar.sq h) (λ_ h=>h))))) λ_=>ALca Value.bool (show(oH b a q.length x)=false from(by rw[d.has,bh k]))))] 7 (rr (λ_=>[(1,.l 2),(2,.c [0,1] [0,1] (NH g v b a q d x Om))]) (λ_=>[(4,i6 0)]) [4] (λ_ L=>(L.set 0 (ob g #[v,iN a,iN (q.length+1)] 353)).set 1 (e3 v (b.set ((a+q.length)%b.length) x))) λr=>lf ab.zero [0,1] [] [])
theorem NM(g:Nat)(v:Value)(d:List Ak)(a:Nat)(q:List Ak)(j:iO d a q)(z:0<q.length):aa VA 269 #[pt g 0,i6 0] [ob g #[v,iN a,iN q.length] 353,e3 v d] [0,1] (λ_=>[ob g #[v,iN ((a+1)%(d.set a (⟨0,0⟩:Ak)).length),iN (q.length-1)] 353,e3 v (d.set a (⟨0,0⟩:Ak))]) (λ_=> .tuple #[.agg #[iN ((d.getD ((a+0)%d.length) aG).k),iN ((d.getD ((a+0)%d.length) aG).w)],i6 0]):=by
 have m:=j.l;have x:=j.lt;have y:=j.n;have p:(a+0)%d.length<d.length:=VJ _ Om;refine fG Tryz.func269 λw u=>ra (λe=>[(4,pt (B0 e) 0),(5,i6 0)]) (λe=>[ob (B0 e) #[i6 0,i6 0] 285]) λe=>ra (λf=>[(6,pt (B0 f) 0)]) (λf=>[ob (B0 f) #[i6 0,i6 0] 285]) λf=>r0 [(7,.l 0)] [(18,.bool (decide ((q.length:Int)≤0)))] [] ?_;have n:(decide ((q.length:Int)≤0))=false:=by exact bh Om
 refine cF (decide ((q.length:Int)≤0)) n (rr (λ_=>[(3,.l 0),(6,.c [0,1] [] (aa.at (rd':=[ob g #[v,iN a,iN q.length] 353,e3 v d]) (uE g v d a q.length 0 (by(simp only[LL,m];done)) Om Om) (aK (bM (λ_ h=>ar.sq h) (λ_ h=>h))))),(7,cH mf v d 1 ((a+0)%d.length)),(8,pr mf v d 1 ((a+0)%d.length) 0 2),(10,.s 4)]) (λi=>[(7,pt ((i 9).y 0) 0)]) [] (λi L=>L++[ob ((i 9).y 0) #[iN ((d.getD ((a+0)%d.length) aG).k),iN ((d.getD ((a+0)%d.length) aG).w)] 285]) λi=>r0 [] [(8,i6 0)] [] ?_);refine lq (λk=>k≤0) (λ_=>[(8,i6 0)]) (λ_ L=>L) (λk=>0-k) 0 Om Kr Kr (λk o=>?_);exact rF [] 31 (lx (rs [(3,.l 0),(7,.l 0),(8,.l 3),(9,cH mf v d 1 a),(10,qB mf v d 1 a (⟨0,0⟩:Ak))] 1 (e3 v (d.set a (⟨0,0⟩:Ak))) (rs [(2,.c [0,1] [] (aa.at (rd':=[ob g #[v,iN a,iN q.length] 353,e3 v (d.set a (⟨0,0⟩:Ak))]) (uE g v (d.set a (⟨0,0⟩:Ak)) a q.length 1 (by(simp only[LL,m];done)) Om Om) (aK (bM (λ_ h=>ar.sq h) (λ_ h=>h))))),(5,.s 0)] 0 (ob g #[v,iN ((a+1)%(d.set a (⟨0,0⟩:Ak)).length),iN q.length] 353) (rs [(3,.l 0),(4,.t (tb (a:=iN q.length) (b:=i6 1) λ_ _ _ _=>k4 (a:=q.length) (b:=1) Om Om)),(7,.s 0)] 0 (ob g #[v,iN ((a+1)%(d.set a (⟨0,0⟩:Ak)).length),iN (q.length-1)] 353) (rr (λ_=>[(0,.l 4),(1,.s 2)]) (λ_=>[(5,i6 0)]) [5] (λ_ L=>L.set 2 (ob (B0 e) #[iN ((d.getD ((a+0)%d.length) aG).k),iN ((d.getD ((a+0)%d.length) aG).w)] 285)) λr=>lf ab.zero [0,1] [] [2])))))
theorem NN(g:Nat)(q:List Ak)(f:0<q.length):aa VA 247 #[pt g 0] [pk (bE g q)] [0] (λ_=>[pk (bE g q.tail)]) (λ_=> .tuple #[.agg #[iN ((q.headD aG).k),iN ((q.headD aG).w)],i6 0]):=aa.pkZ Tryz.func247 λL h=>by
 obtain⟨v,b,a,d,rfl⟩:=h;refine⟨[0,1],λ_=>[ob g #[v,iN ((a+1)%(b.set a (⟨0,0⟩:Ak)).length),iN (q.length-1)] 353,e3 v (b.set a (⟨0,0⟩:Ak))],?_,rfl,λE=>⟨rfl,rfl,⟨_,_,_,d.pop f,ALca (λn:Nat=>[ob g #[v,iN ((a+1)%(b.set a (⟨0,0⟩:Ak)).length),iN n] _,_]) (show q.length-1=q.tail.length by rw[Wb])⟩⟩⟩;have l:=d.l;have j:=d.lt;have m:=d.n;exact fG Tryz.func247 λw i=>ra (λe=>[(2,pt (B0 e) 0),(3,i6 0)]) (λe=>[ob (B0 e) #[i6 0,i6 0] 285]) λe=>rr (λ_=>[(1,.c [0,1] [0,1] (NM g v b a q d Om)),(4,.s 2)]) (λ_=>[(3,i6 0)]) [3] (λ_ L=>((L.set 0 (ob g #[v,iN ((a+1)%(b.set a (⟨0,0⟩:Ak)).length),iN (q.length-1)] 353)).set 1 (e3 v (b.set a (⟨0,0⟩:Ak)))).set 2 (ob (B0 e) #[iN ((b.getD ((a+0)%b.length) aG).k),iN ((b.getD ((a+0)%b.length) aG).w)] 285)) λo=>ak (.tuple #[.agg #[iN ((b.getD ((a+0)%b.length) aG).k),iN ((b.getD ((a+0)%b.length) aG).w)],i6 0]) ab.zero (by rw[←d.first f];rfl) [0,1] [] [2]
theorem NO(g:Nat)(v:Value)(b:List Ak)(a:Nat)(q:List Ak)(e:iO b a q)(m:q.length=0):aa VA 269 #[pt g 0,i6 0] [ob g #[v,iN a,iN q.length] 353,e3 v b] [1] (λ_=>[e3 v b]) (λ_=> .tuple #[.agg #[i6 0,i6 0],i6 13]):=by
 have j:=e.l;have i:=e.lt;have k:=e.n;refine fG Tryz.func269 λw h=>ra (λc=>[(4,pt (B0 c) 0),(5,i6 0)]) (λc=>[ob (B0 c) #[i6 0,i6 0] 285]) λc=>ra (λd=>[(6,pt (B0 d) 0)]) (λd=>[ob (B0 d) #[i6 0,i6 0] 285]) λd=>r0 [(7,.l 0)] [(18,.bool (decide ((q.length:Int)≤0)))] [] ?_;have f:(decide ((q.length:Int)≤0))=true:=by exact cx Om
 exact cT (decide ((q.length:Int)≤0)) f (r0 [(0,.l 3),(1,.s 2)] [(5,i6 13)] [5] (lf ab.zero [1] [(0,0)] [2]))
theorem NP(g:Nat)(q:List Ak)(i:q.length=0):aa VA 247 #[pt g 0] [pk (bE g q)] [0] (λ_=>[pk (bE g q)]) (λ_=> .tuple #[.agg #[i6 0,i6 0],i6 13]):=aa.pkZ Tryz.func247 λL f=>by
 obtain⟨v,b,a,d,rfl⟩:=f;refine⟨[1],λ_=>[e3 v b],?_,rfl,λE=>⟨rfl,rfl,⟨_,_,_,d,rfl⟩⟩⟩;have h:=d.l;have k:=d.lt;have l:=d.n;exact fG Tryz.func247 λw j=>ra (λe=>[(2,pt (B0 e) 0),(3,i6 0)]) (λe=>[ob (B0 e) #[i6 0,i6 0] 285]) λe=>r0 [(1,.c [0,1] [1] (NO g v b a q d (by(simp only[LL,h,i];done)))),(4,.s 2)] [(3,i6 13)] [3] (lf ab.zero [1] [(0,0)] [2])
theorem C5(g:Nat)(q:List Ak):aa VA 247 #[pt g 0] [pk (bE g q)] [0] (λ_=>[pk (bE g q.tail)]) (λ_=> .tuple #[.agg #[i6 ((q.headD aG).k:Int),i6 ((q.headD aG).w:Int)],i6 (lD q)]):=by
 cases q with
 | nil=>exact NP g [] rfl
 | cons x q=>exact NN g (x::q) (WG _)
theorem NQ:aa VA 176 #[i6 256] [] [] (λE=>[ob (E.y 0) #[(E.val 0),i6 0,i6 0] 353,e3 (E.val 0) (VD 256 aG)]) (λE=> .tuple #[pt ((E.y 0)) 0,i6 0]):=by
 exact fG Tryz.func176 λw b=>r0 [] [(2,.pointer none),(3,i6 0)] [] (rF [] 9 (rr (λ_=>[(1,qI mf 0 256)]) (λa=>[(2,pt (B3 a) 0),(3,i6 0)]) [2,3] (λa L=>L++[e3 (.slice (some ⟨(a 1).y 0,0,none⟩) 256 256) (VD 256 aG),ob (B3 a) #[.slice (some ⟨(a 1).y 0,0,none⟩) 256 256,i6 0,i6 0] 353]) λa=>lf (.l [(a 3).y 0] [] [.slice (some ⟨(a 1).y 0,0,none⟩) 256 256]) [1,0] [] []))
theorem NR:aa VA 176 #[i6 256] [] [] (λE=>[pk (bE (E.y 0) [])]) (λE=> .tuple #[pt ((E.y 0)) 0,i6 0]):=(NQ).outs λE b a=>rn ⟨_,_,_,ND,rfl⟩ a
end
section
open Go.Shelf
structure Ev where
 k:Nat
 f:Nat
 t:Nat
deriving DecidableEq
def cI:Ev:=⟨0,0,0⟩
def xR(x:Ev):List Value:=[iN x.k,iN x.f,iN x.t]
def iP:Kd VA Ev:=⟨xR,[i6 0,i6 0,i6 0],271,349,cI,3,λ_=>rfl,rfl,λ_=>rfl,dU.mk' Kr Kr rfl⟩
abbrev ba(v:Value)(xs:List Ev):aB:= .p (ar xR ([i6 0,i6 0,i6 0]) 349 v xs)
structure Rp where
 m:Mp
 j:Jb
 q:List Ak
structure et (m:Mp) (a:Ak):Prop where
 k:(a.k=1∧a.w<m.R*m.B*m.M)∨(a.k=2∧a.w<m.R)
structure NS (m:Mp):Prop where
 N: ∀x,m.R*m.B*m.M-m.res+m.O≤x→m.N.getD x false=false
structure aT (r:Rp):Prop where
 m:bo r.m
 j:rE r.m r.j
 q: ∀a∈r.q,et r.m a
 n:r.q.length≤256
 fr:NS r.m
abbrev aq(g a b:Nat)(r:Rp)(L:ah):Prop:=L=[ob g #[pt a 0,iN r.j.A,iN r.j.fr,iN r.j.tg,iN r.j.nx,pt b 0] 133,pk (aF a r.m),pk (bE b r.q)]
def pI(r:Rp)(w:Nat):Bool:=(r.m.N.getD w false||(dp r.m&&decide (dY r.m≤w)))||(decide (r.j.A=1)&&decide (r.j.fr=w))
def pJ(r:Rp)(w:Nat):Bool:=c6 r.m w||(decide (r.j.A=2)&&decide (r.j.fr=w))
def cX(r:Rp)(a:Ak):Bool:=bif a.k==1 then pI r a.w else pJ r a.w
def xS(a:Ak):List Ev:=[⟨5,a.w,a.k-1⟩]
def cM(r:Rp)(a:Ak):Rp:=bif a.k==1 then(bif dp r.m then{r with m:=pE r.m,j:=⟨1,a.w,dY r.m,0⟩} else r) else(bif dR r.m then{r with m:=pF r.m,j:=⟨2,a.w,fH r.m,0⟩} else r)
def fh(r:Rp)(a:Ak):List Ev:=bif a.k==1 then(bif dp r.m then[⟨3,a.w,dY r.m⟩] else xS a) else(bif dR r.m then[⟨4,a.w,fH r.m⟩] else xS a)
def bc(r:Rp)(a:Ak):Rp:=bif cX r a then r else bif r.j.A==0 then cM r a else{r with q:=pH r.q a}
def bO(r:Rp)(a:Ak):List Ev:=bif cX r a then[] else bif r.j.A==0 then fh r a else bif rH r.q a==14 then xS a else[]
def aX(r:Rp):Rp:={r with q:=r.q.tail}
def fq(s:Rp×List Ev):Rp×List Ev:=bif cX (aX s.1) (s.1.q.headD aG) then(aX s.1,s.2) else(cM (aX s.1) (s.1.q.headD aG),s.2++fh (aX s.1) (s.1.q.headD aG))
def af(s:Rp×List Ev):Nat→Rp×List Ev
 | 0=>s
 | k+1=>fq (af s k)
def eu:Nat→Rp×List Ev→Rp×List Ev
 | 0,s=>s
 | n+1,s=>if s.1.j.A=0 then eu n (fq s) else s
def dj(r:Rp):Rp:={r with m:=bif r.j.A==1 then rA r.m r.j.fr r.j.tg else rC r.m r.j.fr r.j.tg,j:=lC}
def ae(r:Rp):Rp×List Ev:=(dj r,[⟨6,r.j.fr,r.j.tg⟩])
def cv(r:Rp):Rp×List Ev:=eu r.q.length (ae r)
def bk(r:Rp):Rp:={r with j:={r.j with nx:=r.j.nx+1}}
def eA(r:Rp):Rp×List Ev:=bif kA r.m (bk r).j then cv (bk r) else(bk r,[])
section
variable {m:Mp}
theorem NT(h:bo m)(hp:dp m=true):bo (pE m):=by
 have:m.O≠m.res:=by unfold dp at hp;simpa using hp
 have:=h.pg;exact⟨h.ly,h.ll,h.ld,h.ls,by show m.O+1≤m.res;omega,h.rk,h.lv,h.sp⟩
theorem NU(h:bo m)(hp:dR m=true):bo (pF m):=by
 have:m.F≠m.S:=by unfold dR at hp;simpa using hp
 have:=h.rk;exact⟨h.ly,h.ll,h.ld,h.ls,h.pg,by show m.F+1≤m.S;omega,h.lv,h.sp⟩
theorem NV{l:List Nat}{h t k n b:Nat}(c: ∀i,i<n→l.getD i 0<b)(e:n=l.length)(ht:t<b): ∀i,i<n→(dN l h t k).getD i 0<b:=by
 intro i a;by_cases d:i<k
 ·unfold dN;rw[VB,VO (by rw[VH,VG];omega),V8,List.getElem?_take,ALifp d,VE Om];have:=c i a;rw[VB,VE Om] at this;show(if _=h then t else _)<b
  split
  ·exact ht
  ·exact this
 ·unfold dN;rw[VB,VR (by rw[VH,VG];omega),VH,VG,V5,show k+(i-min k l.length)=i by omega,←VB];exact c i a
theorem NW(h:bo m){x t:Nat}(ht:t<m.R*m.B*m.M):bo (rA m x t):=
 ⟨h.ly,(CM ..).trans h.ll,by show(m.N.set x true).length=_;rw[VV];exact h.ld,h.ls,h.pg,h.rk,NV h.lv h.ll.symm ht,h.sp⟩
theorem NX(h:bo m){x t:Nat}(h0:m.R≤t)(h1:t<m.R+m.S):bo (rC m x t):=by
 refine⟨h.ly,h.ll,h.ld,by show(m.K.set x (t:Int)).length=_;rw[VV];exact h.ls,h.pg,h.rk,h.lv,λi a=>?_⟩;show(m.K.set x (t:Int)).getD i 0= -1∨((m.R:Int)≤(m.K.set x (t:Int)).getD i 0∧(m.K.set x (t:Int)).getD i 0<((m.R+m.S:Nat):Int));have a:i<m.R:=a;have b:=h.ls;rw[VB,V1];by_cases e:x=i
 ·rw[ALifp e,ALifp Om];refine .inr ?_;show(m.R:Int)≤(t:Int)∧(t:Int)<((m.R+m.S:Nat):Int);omega
 ·rw[ALifn e,←VB];exact h.sp i a
theorem getD_set_ne{α:Type}{l:List α}{i j:Nat}{x d:α}(h:i≠j):(l.set i x).getD j d=l.getD j d:=by rw[VB,V1,ALifn h,←VB]
theorem C6{r:Rp}{a:Ak}(h:aT r)(i:et r.m a)(b:cX r a=false):aT (cM r a):=by
 unfold cM;unfold cX at b;rcases i.k with⟨f,g⟩ | ⟨f,g⟩
 ·rw[f] at b⊢;have b:pI r a.w=false:=b;show aT (bif dp r.m then _ else _);cases c:dp r.m with
  | false=>exact h
  | true=>
   unfold pI at b;rw[c] at b;simp only[Bool.true_and,VK,decide_eq_false_iff_not] at b;have d:r.m.O≠r.m.res:=by unfold dp at c;simpa using c
   have j:dY r.m=r.m.R*r.m.B*r.m.M-r.m.res+r.m.O:=by unfold dY;rw[ALifn d]
   have n:=h.m.pg;have o:=h.m.ly.rp;have l:a.w<dY r.m:=by omega
   refine⟨NT h.m c,⟨.inr (.inl ⟨rfl,?_⟩)⟩,λx e=>⟨(h.q x e).k⟩,h.n,⟨λx e=>h.fr.N x ?_⟩⟩
   ·exact⟨g,by show dY r.m<r.m.R*r.m.B*r.m.M;omega,by show a.w≠dY r.m;omega,b.1.1,h.fr.N _ (by show _≤dY r.m;omega),by show r.m.R*r.m.B*r.m.M-r.m.res≤dY r.m;omega,by show dY r.m<r.m.R*r.m.B*r.m.M-r.m.res+(r.m.O+1);omega,V9 _,by show a.w<r.m.R*r.m.B*r.m.M-r.m.res+(r.m.O+1);omega⟩
   ·have e:r.m.R*r.m.B*r.m.M-r.m.res+(r.m.O+1)≤x:=e;omega
 ·rw[f] at b⊢;have b:pJ r a.w=false:=b;show aT (bif dR r.m then _ else _);cases c:dR r.m with
  | false=>exact h
  | true=>
   unfold pJ at b;rw[VK] at b;have d:r.m.F≠r.m.S:=by unfold dR at c;simpa using c
   have j:fH r.m=r.m.R+r.m.F:=by unfold fH;rw[ALifn d]
   refine⟨NU h.m c,⟨.inr (.inr ⟨rfl,?_⟩)⟩,λx e=>⟨(h.q x e).k⟩,h.n,⟨h.fr.N⟩⟩;exact⟨g,b.1,by show r.m.R≤fH r.m;omega,by show fH r.m<r.m.R+(r.m.F+1);omega,V9 _⟩
theorem uF{r:Rp}(h:aT r)(c:r.j.A≠0):aT (dj r):=by
 unfold dj;rcases h.j.k with e | ⟨e,b⟩ | ⟨e,b⟩
 ·rw[e] at c;exact absurd rfl c
 ·rw[e];show aT {r with m:=rA r.m r.j.fr r.j.tg,j:=lC};refine⟨NW h.m b.ht,⟨.inl rfl⟩,λx a=>⟨(h.q x a).k⟩,h.n,⟨λx a=>?_⟩⟩;have a:r.m.R*r.m.B*r.m.M-r.m.res+r.m.O≤x:=a;have:=b.f1;show(r.m.N.set r.j.fr true).getD x false=false;rw[getD_set_ne Om];exact h.fr.N x a
 ·rw[e];show aT {r with m:=rC r.m r.j.fr r.j.tg,j:=lC};have:=b.t1;have:=h.m.rk;exact⟨NX h.m b.t0 Om,⟨.inl rfl⟩,λx a=>⟨(h.q x a).k⟩,h.n,⟨h.fr.N⟩⟩
theorem C7{r:Rp}(h:aT r)(a:r.j.A≠0):r.j.A=1∨r.j.A=2:=by
 rcases h.j.k with e | ⟨e,_⟩ | ⟨e,_⟩
 ·rw[e] at a;exact absurd rfl a
 ·exact .inl e
 ·exact .inr e
theorem C8{r:Rp}(h:aT r):r.j.nx≤4096:=by
 rcases h.j.k with e | ⟨e,a⟩ | ⟨e,a⟩
 ·rw[e];exact V9 _
 ·have:=a.nx;have:=h.m.Q.bd.c64;omega
 ·have:=a.nx;have:=h.m.Q.bd.bmc;omega
theorem rJ{r:Rp}(h:aT r)(c:r.j.A≠0)(b:r.j.nx<gh r.j.A r.m.B r.m.M r.m.C):aT (bk r):=by
 refine⟨h.m,⟨?_⟩,h.q,h.n,h.fr⟩;rcases h.j.k with e | ⟨e,a⟩ | ⟨e,a⟩
 ·rw[e] at c;exact absurd rfl c
 ·rw[e] at b;exact .inr (.inl ⟨e,a.hf,a.ht,a.ne,a.df,a.dt,a.t0,a.t1,b,a.f1⟩)
 ·rw[e] at b;exact .inr (.inr ⟨e,a.hf,a.hs,a.t0,a.t1,b⟩)
theorem uG{r:Rp}(h:aT r):aT (aX r):=⟨h.m,h.j,λx a=>h.q x (List.mem_of_mem_tail a),by show r.q.tail.length≤256;rw[Wb];have:=h.n;omega,h.fr⟩
theorem rK{r:Rp}(h:aT r)(a:0<r.q.length):et r.m (r.q.headD aG):=by
 refine h.q _ ?_;cases e:r.q with
 | nil=>rw[e] at a;cases a
 | cons x q=>exact WL ..
theorem xT{s:Rp×List Ev}(h:aT s.1)(c:0<s.1.q.length):aT (fq s).1:=by
 have a:=uG h;have b:=rK h c;unfold fq;cases d:cX (aX s.1) (s.1.q.headD aG) with
 | true=>exact a
 | false=>exact C6 a ⟨b.k⟩ d
theorem NY(r:Rp)(a:Ak):(cM r a).q=r.q:=by
 unfold cM;cases a.k==1<;>cases dp r.m<;>cases dR r.m<;>rfl
theorem uH(r:Rp)(a:Ak):(fh r a).length=1:=by
 unfold fh;cases a.k==1<;>cases dp r.m<;>cases dR r.m<;>rfl
theorem xU(s:Rp×List Ev):(fq s).1.q=s.1.q.tail:=by
 unfold fq;cases cX (aX s.1) (s.1.q.headD aG) with
 | true=>rfl
 | false=>exact NY _ _
theorem C9(s:Rp×List Ev):(fq s).2.length≤s.2.length+1:=by
 unfold fq;cases cX (aX s.1) (s.1.q.headD aG) with
 | true=>exact Nat.le_succ _
 | false=>show(s.2++fh _ _).length≤_;rw[VF,uH];exact VU _
theorem uI(s:Rp×List Ev): ∀k,(af s k).1.q.length=s.1.q.length-k
 | 0=>rfl
 | k+1=>by rw[af,xU,Wb,uI s k];omega
theorem xV(s:Rp×List Ev): ∀k,(af s k).2.length≤s.2.length+k
 | 0=>VU _
 | k+1=>by rw[af];exact VT (C9 _) (by have:=xV s k;omega)
theorem xW{s:Rp×List Ev}(h:aT s.1): ∀k,k≤s.1.q.length→aT (af s k).1
 | 0,_=>h
 | k+1,a=>xT (xW h k Om) (by rw[uI];omega)
theorem Da{s:Rp×List Ev}{k:Nat}(h:cX (aX (af s k).1) ((af s k).1.q.headD aG)=true):af s (k+1)=(aX (af s k).1,(af s k).2):=by rw[af,fq,h,ALct]
theorem Db{s:Rp×List Ev}{k:Nat}(h:cX (aX (af s k).1) ((af s k).1.q.headD aG)=false):af s (k+1)=(cM (aX (af s k).1) ((af s k).1.q.headD aG),(af s k).2++fh (aX (af s k).1) ((af s k).1.q.headD aG)):=by rw[af,fq,h,ALcf]
theorem Dd{s:Rp×List Ev}{k:Nat}(a:k<s.1.q.length)(h:eu s.1.q.length s=eu (s.1.q.length-k) (af s k))(h0:(af s k).1.j.A=0):eu s.1.q.length s=eu (s.1.q.length-(k+1)) (af s (k+1)):=by
 rw[h,show s.1.q.length-k=(s.1.q.length-(k+1))+1 by omega,eu,ALifp h0];rfl
theorem uJ{q:List Ak}(h:q.length=0):q.tail=q:=by rw[List.length_eq_zero_iff.1 h];rfl
theorem uK{s:Rp×List Ev}(h0:s.1.j.A≠0)(n:Nat):eu n s=s:=by
 cases n with
 | zero=>rfl
 | succ n=>rw[eu,ALifn h0]
end
end
section
open Go.Shelf
theorem NZ(R S B M C way a:Nat)(b:g5 R S B M C way a):aa VA 137 #[.agg #[iN R,iN S,iN B,iN M,iN C,iN way,iN a]] [] [] (λE=>[ob (E.y 0) #[pt ((E.y 1)) 0,i6 0,i6 0,i6 0,i6 0,pt ((E.y 2)) 0] 133,pk (aF (E.y 1) (lj R S B M C way a)),pk (bE (E.y 2) [])]) (λE=> .tuple #[pt ((E.y 0)) 0,i6 0]):=by
 have j:=b.Q;have m:=b.rp;have k:=j.bd.rbm;have i:=b.G;have h:=b.r64;exact fG Tryz.func137 λw n=>ra (λg=>[(1,pt (B0 g) 0),(2,.pointer none),(3,i6 0)]) (λg=>[ob (B0 g) #[iN R,iN S,iN B,iN M,iN C,iN way,iN a] 25]) λg=>rr (λ_=>[(0,.l 0),(1,.c [] [1] (Ng R S B M C way a b))]) (λd=>[(4,pt ((B1 d)) 0),(5,i6 0)]) [] (λd L=>L++[pk (aF (B1 d) (lj R S B M C way a))]) λd=>rF [] 13 (rr (λ_=>[(0,.c [] [2] (NR))]) (λe=>[(6,pt ((B0 e)) 0),(5,i6 0)]) [5] (λe L=>L++[pk (bE (B0 e) [])]) λe=>rF [] 20 (rr N0 (λf=>[(2,pt (B3 f) 0),(3,i6 0)]) [2,3] (λf L=>L++[ob (B3 f) #[pt ((B1 d)) 0,i6 0,i6 0,i6 0,i6 0,pt ((B0 e)) 0] 133]) λf=>lf (.l [(f 3).y 0,(B1 d),(B0 e)] [] []) [3,1,2] [] []))
theorem N1(R S B M C way a:Nat)(b:g5 R S B M C way a):aa VA 137 #[.agg #[iN R,iN S,iN B,iN M,iN C,iN way,iN a]] [] [] (λE=>[pk (aq (E.y 0) (E.y 1) (E.y 2) ⟨lj R S B M C way a,lC,[]⟩)]) (λE=> .tuple #[pt ((E.y 0)) 0,i6 0]):=(NZ R S B M C way a b).outs λE d c=>rn rfl c
theorem rL(g a b:Nat)(r:Rp)(d:aT r):aa VA 23 #[pt g 0] [pk (aq g a b r)] [0] (λ_=>[pk (aq g a b r)]) (λ_=>pt a 0):=aa.pkZ Tryz.func23 λL e=>by
 obtain⟨rfl⟩:=e;refine⟨[1,2],λ_=>[pk (aF a r.m),pk (bE b r.q)],?_,rfl,λE=>⟨rfl,rfl,rfl⟩⟩;have c:=d.m;have m:=d.j;have i:=d.n;have k:=c.Q;have f:=c.ly;have h:=c.np;exact fG Tryz.func23 λw j=>r0 [] [(2,.pointer none)] [] (r0 [(3,.l 0)] [(2,pt a 0)] [2] (lf ab.zero [1,2] [(0,0)] []))
theorem uL(g b c:Nat)(r:Rp)(e:aT r):aa VA 27 #[pt g 0] [pk (aq g b c r)] [0] (λ_=>[pk (aq g b c r)]) (λ_=> .agg #[iN r.j.A,iN r.j.fr,iN r.j.tg,iN r.j.nx]):=aa.pkZ Tryz.func27 λL f=>by
 obtain⟨rfl⟩:=f;refine⟨[1,2],λ_=>[pk (aF b r.m),pk (bE c r.q)],?_,rfl,λE=>⟨rfl,rfl,rfl⟩⟩;have d:=e.m;have n:=e.j;have j:=e.n;have m:=d.Q;have h:=d.ly;have i:=d.np;exact fG Tryz.func27 λw k=>ra (λa=>[(2,pt (B0 a) 0)]) (λa=>[ob (B0 a) #[i6 0,i6 0,i6 0,i6 0] 70]) λa=>rs [(3,.l 0),(4,.s 3)] 3 (ob (B0 a) #[iN r.j.A,iN r.j.fr,iN r.j.tg,iN r.j.nx] 70) (lf ab.zero [1,2] [(0,0)] [3])
theorem mi(g a b:Nat)(r:Rp):aa VA 118 #[pt g 0] [ob g #[pt a 0,iN r.j.A,iN r.j.fr,iN r.j.tg,iN r.j.nx,pt b 0] 133,pk (aF a r.m),pk (bE b r.q)] [1,2] (λ_=>[pk (aF a r.m),pk (bE b r.q)]) (λ_=> .bool ((r.j.A:Int) != 0)):=by
 exact fG Tryz.func118 λw c=>r0 [] [(2,.bool false)] [] (r0 [(4,.l 0)] [(2,.bool ((r.j.A:Int) != 0))] [2] (lf ab.zero [1,2] [(0,0)] []))
theorem N2(g a d:Nat)(r:Rp)(e:aT r)(n:Nat)(p:n<(r.m.R*r.m.B*r.m.M-r.m.res)*r.m.C):aa VA 143 #[pt g 0,iN n] [pk (aq g a d r)] [0] (λ_=>[pk (aq g a d r)]) (λ_=> .tuple #[iN (aR r.m r.j n),iN (az r.m n),iN (aJ r.m.G r.m.R r.m.B r.m.M (az r.m n)),i6 0]):=aa.pkZ Tryz.func143 λL f=>by
 obtain⟨rfl⟩:=f;refine⟨[1,2],λ_=>[pk (aF a r.m),pk (bE d r.q)],?_,rfl,λE=>⟨rfl,rfl,rfl⟩⟩;have b:=e.m;have h:=e.j;have k:=e.n;have o:=b.Q;have i:=b.ly;have j:=b.np;exact fG Tryz.func143 λw l=>r0 [] [(4,i6 0),(5,i6 0),(6,i6 0),(7,i6 0)] [] (r0 [(3,.m (ls 0 ([iN r.j.A,iN r.j.fr,iN r.j.tg,iN r.j.nx]))),(7,.m (ld 0 (pt a 0))),(9,.c [1] [1] (Ny a r.m b r.j h n Om)),] [(4,iN (aR r.m r.j n)),(5,iN (az r.m n)),(6,iN (aJ r.m.G r.m.R r.m.B r.m.M (az r.m n))),(7,i6 0)] [4,5,6,7] (lf ab.zero [1,2] [(0,0)] []))
theorem N3(g a d:Nat)(r:Rp)(e:aT r)(n:Int)(i:bR n (((r.m.R*r.m.B*r.m.M-r.m.res)*r.m.C:Nat):Int)=false):aa VA 143 #[pt g 0,i6 n] [pk (aq g a d r)] [0] (λ_=>[pk (aq g a d r)]) (λ_=> .tuple #[i6 0,i6 0,i6 0,i6 12]):=aa.pkZ Tryz.func143 λL f=>by
 obtain⟨rfl⟩:=f;refine⟨[1,2],λ_=>[pk (aF a r.m),pk (bE d r.q)],?_,rfl,λE=>⟨rfl,rfl,rfl⟩⟩;have b:=e.m;have p:=e.j;have k:=e.n;have o:=b.Q;have h:=b.ly;have j:=b.np;exact fG Tryz.func143 λw l=>r0 [] [(4,i6 0),(5,i6 0),(6,i6 0),(7,i6 0)] [] (r0 [(3,.m (ls 0 ([iN r.j.A,iN r.j.fr,iN r.j.tg,iN r.j.nx]))),(7,.m (ld 0 (pt a 0))),(9,.c [1] [1] (Nx a r.m b r.j.A r.j.fr r.j.tg r.j.nx n i)),] [(4,i6 0),(5,i6 0),(6,i6 0),(7,i6 12)] [4,5,6,7] (lf ab.zero [1,2] [(0,0)] []))
theorem xX(k u:Nat)(g:1≤k)(e:k≤2):aa VA 243 #[.agg #[iN k,iN u]] [] [] (λE=>[ba (E.val 0) ([(⟨5,u,k-1⟩:Ev)])]) (λE=>(E.val 0)):=by
 exact fG Tryz.func243 λw f=>ra (λd=>[(1,pt (B0 d) 0),(2,.slice none 0 0)]) (λd=>[ob (B0 d) #[iN k,iN u] 285]) λd=>rr (λ_=>[(1,.l 0),(3,.l 0),(4,.t (tb (a:=iN k) (b:=i6 1) λ_ _ _ _=>k4 (a:=k) (b:=1) Om Om)),(6,gH iP 1 1 [(⟨5,u,k-1⟩:Ev)])]) (λc=>[(2,.slice (some ⟨(c 6).y 0,0,none⟩) 1 1)]) [2] (λc L=>L++[ba (.slice (some ⟨(c 6).y 0,0,none⟩) 1 1) ([(⟨5,u,k-1⟩:Ev)])]) λc=>lf (.l [] [] [.slice (some ⟨(c 6).y 0,0,none⟩) 1 1]) [1] [] []
theorem N4(g a f:Nat)(r:Rp)(i:aT r)(u:Nat)(x:u<r.m.R*r.m.B*r.m.M):aa VA 240 #[pt g 0,.agg #[i6 1,iN u]] [pk (aq g a f r)] [0] (λ_=>[pk (aq g a f r)]) (λ_=> .bool (pI r u)):=aa.pkZ Tryz.func240 λL k=>by
 obtain⟨rfl⟩:=k;refine⟨[1,2],λ_=>[pk (aF a r.m),pk (bE f r.q)],?_,rfl,λE=>⟨rfl,rfl,rfl⟩⟩;have b:=i.m;have v:=i.j;have p:=i.n;have j:=b.Q;have n:=b.ly;have o:=b.np;refine fG Tryz.func240 λw q=>ra (λd=>[(3,pt (B0 d) 0),(4,.bool false)]) (λd=>[ob (B0 d) #[i6 1,iN u] 285]) λd=>rr (λ_=>[(3,.l 0),(4,.c [1] [1] (iL a r.m b)),(7,.s 4)]) (λe=>[(5,pt (B6 e) 0)]) [] (λe L=>L++[ob (B6 e) #[iN r.m.R,iN r.m.S,iN r.m.B,iN r.m.M,iN r.m.C] 23]) λe=>r0 [(1,.l 3)] [(17,i6 1)] [] (rT [] 18 (r0 [(3,.l 0),(4,.c [1] [1] (M7 a r.m b))] [(6,iN (dY r.m)),(7,.bool (dp r.m))] [] (r0 [(1,.m (ld 3 (iN u))),(2,.t (tk (show Value.bool (decide ((u:Int)<0))= .bool false from ALca Value.bool (by exact bh Om)))),(5,.m (ld 3 (iN u))),(6,.m (ls 4 ([iN r.m.R,iN r.m.S,iN r.m.B,iN r.m.M,iN r.m.C]))),(7,.c [] [] (k9 r.m.R r.m.S r.m.B r.m.M r.m.C j)),(8,.t (tk (show Value.bool (decide ((((r.m.R*r.m.B)*r.m.M:Nat):Int)≤(u:Int)))= .bool false from ALca Value.bool (by exact bh Om)))),(14,.m (ld 0 (pt a 0))),(16,.m (ld 3 (iN u))),(17,.c [1] [1] (uC a r.m b u Om)),(23,.m (ld 3 (iN u))),] [(55,.bool ((r.m.N.getD u false)||((dp r.m)&&(decide (((dY r.m:Nat):Int)≤(u:Int))))))] [] ?_)));refine cB ((r.m.N.getD u false)||((dp r.m)&&(decide (((dY r.m:Nat):Int)≤(u:Int))))) (λh=>?_) λh=>?_
 ·exact r0 [] [(4,.bool true)] [4] (ak (.bool true) ab.zero (by unfold pI;simp only[←xL,←lB];(repeat (rw[h]));rfl) [1,2] [(0,0)] [])
 exact r0 [(4,.m (ld 0 (iN r.j.A))),(6,.m (ld 3 (i6 1))),(13,.m (ld 0 (iN r.j.fr))),(15,.m (ld 3 (iN u))),] [(4,.bool (((r.j.A:Int)==1)&&((r.j.fr:Int)==(u:Int))))] [4] (ak (.bool (((r.j.A:Int)==1)&&((r.j.fr:Int)==(u:Int)))) ab.zero (by unfold pI;simp only[←xL,←lB];(repeat (rw[h]));rfl) [1,2] [(0,0)] [])
theorem N5(g a h:Nat)(r:Rp)(j:aT r)(u:Nat)(y:u<r.m.R):aa VA 240 #[pt g 0,.agg #[i6 2,iN u]] [pk (aq g a h r)] [0] (λ_=>[pk (aq g a h r)]) (λ_=> .bool (pJ r u)):=aa.pkZ Tryz.func240 λL k=>by
 obtain⟨rfl⟩:=k;refine⟨[1,2],λ_=>[pk (aF a r.m),pk (bE h r.q)],?_,rfl,λE=>⟨rfl,rfl,rfl⟩⟩;have b:=j.m;have x:=j.j;have p:=j.n;have v:=b.Q;have n:=b.ly;have o:=b.np;refine fG Tryz.func240 λw q=>ra (λe=>[(3,pt (B0 e) 0),(4,.bool false)]) (λe=>[ob (B0 e) #[i6 2,iN u] 285]) λe=>rr (λ_=>[(3,.l 0),(4,.c [1] [1] (iL a r.m b)),(7,.s 4)]) (λf=>[(5,pt (B6 f) 0)]) [] (λf L=>L++[ob (B6 f) #[iN r.m.R,iN r.m.S,iN r.m.B,iN r.m.M,iN r.m.C] 23]) λf=>r0 [(1,.l 3)] [(17,i6 2)] [] (rF [] 18 (rT [] 56 (r0 [(3,.m (ld 0 (pt a 0))),(5,.m (ld 3 (iN u))),(6,.c [1] [1] (xI a r.m b u Om)),] [(9,.bool (c6 r.m u))] [] (r0 [(3,.m (ld 3 (iN u))),(4,.t (tk (show Value.bool (decide ((u:Int)<0))= .bool false from ALca Value.bool (by exact bh Om)))),(8,.m (ld 3 (iN u))),(10,.m (ld 4 (iN r.m.R))),(11,.t (tk (show Value.bool (decide ((r.m.R:Int)≤(u:Int)))= .bool false from ALca Value.bool (by exact bh Om))))] [(80,.bool (((c6 r.m u)||false)||false))] [] ?_))));refine cB (((c6 r.m u)||false)||false) (λi=>?_) λi=>?_
 ·exact r0 [] [(4,.bool true)] [4] (ak (.bool true) ab.zero (by unfold pJ;simp only[←lB];have d:=i;simp only[WX] at d;rw[d];rfl) [1,2] [(0,0)] [])
 exact r0 [(4,.m (ld 0 (iN r.j.A))),(6,.m (ld 3 (i6 2))),(13,.m (ld 0 (iN r.j.fr))),(15,.m (ld 3 (iN u))),] [(4,.bool (((r.j.A:Int)==2)&&((r.j.fr:Int)==(u:Int))))] [4] (ak (.bool (((r.j.A:Int)==2)&&((r.j.fr:Int)==(u:Int)))) ab.zero (by unfold pJ;simp only[←lB];have d:=i;simp only[WX] at d;rw[d];rfl) [1,2] [(0,0)] [])
theorem N6(g a b:Nat)(r:Rp)(h:aT r)(u:Nat)(hp:dp r.m=true):aa VA 241 #[pt g 0,.agg #[i6 1,iN u]] [pk (aq g a b r)] [0] (λE=>[pk (aq g a b {r with m:=pE r.m,j:=⟨1,u,dY r.m,0⟩}),ba (E.val 0) ([(⟨3,u,dY r.m⟩:Ev)])]) (λE=>(E.val 0)):=aa.pkW (n:=1) (N:=λE=>[ba (E.val 0) ([(⟨3,u,dY r.m⟩:Ev)])]) (enters_of Tryz.func241 Kr rfl) λL i=>by
 obtain⟨rfl⟩:=i;refine⟨[0,1,2],λ_=>[ob g #[pt a 0,i6 1,iN u,iN (dY r.m),i6 0,pt b 0] 133,pk (aF a (pE r.m)),pk (bE b r.q)],?_,rfl,λE=>⟨rfl,rfl,rfl⟩⟩;have e:=h.m;have v:=h.j;have p:=h.n;have t:=e.Q;have k:=e.ly;have o:=e.np;exact fG Tryz.func241 λw q=>ra (λf=>[(3,pt (B0 f) 0),(4,.slice none 0 0)]) (λf=>[ob (B0 f) #[i6 1,iN u] 285]) λf=>r0 [] [(5,i6 3)] [] (r0 [(3,.l 0)] [(6,.func (.func 265) #[pt a 0] #[])] [] (rF [(1,.l 3)] 16 (rr (λ_=>[(1,.c [1] [1] (M8 a r.m e Om))]) (λ_=>[(7,iN (dY r.m)),(8,i6 0)]) [] (λ_ L=>L.set 1 ((pk (aF a (pE r.m))))) λx=>rF [] 28 (rs [(2,.l 3),(4,.l 3),(9,.s 0)] 0 (ob g #[pt a 0,i6 1,iN u,iN (dY r.m),i6 0,pt b 0] 133) (rr (λ_=>[(2,.l 3),(5,gH iP 4 1 [(⟨3,u,dY r.m⟩:Ev)])]) (λd=>[(4,.slice (some ⟨(d 5).y 0,0,none⟩) 1 1)]) [4] (λd L=>L++[ba (.slice (some ⟨(d 5).y 0,0,none⟩) 1 1) ([(⟨3,u,dY r.m⟩:Ev)])]) λd=>lf (.l [] [] [.slice (some ⟨(d 5).y 0,0,none⟩) 1 1]) [0,1,2,4] [] [])))))
theorem N7(g b f:Nat)(r:Rp)(h:aT r)(u:Nat)(hp:dp r.m=false):aa VA 241 #[pt g 0,.agg #[i6 1,iN u]] [pk (aq g b f r)] [0] (λE=>[pk (aq g b f r),ba (E.val 0) ([(⟨5,u,1-1⟩:Ev)])]) (λE=>(E.val 0)):=aa.pkW (n:=1) (N:=λE=>[ba (E.val 0) ([(⟨5,u,1-1⟩:Ev)])]) (enters_of Tryz.func241 Kr rfl) λL i=>by
 obtain⟨rfl⟩:=i;refine⟨[1,2],λ_=>[pk (aF b r.m),pk (bE f r.q)],?_,rfl,λE=>⟨rfl,rfl,rfl⟩⟩;have d:=h.m;have q:=h.j;have m:=h.n;have p:=d.Q;have j:=d.ly;have k:=d.np;exact fG Tryz.func241 λw o=>ra (λe=>[(3,pt (B0 e) 0),(4,.slice none 0 0)]) (λe=>[ob (B0 e) #[i6 1,iN u] 285]) λe=>r0 [] [(5,i6 3)] [] (r0 [(3,.l 0)] [(6,.func (.func 265) #[pt b 0] #[])] [] (rF [(1,.l 3)] 16 (r0 [(1,.c [1] [1] (M9 b r.m d Om))] [(7,i6 0),(8,i6 52)] [] (rT [] 28 (rr (λ_=>[(0,.l 3),(1,.c [] [4] (xX 1 u Om Om))]) (λa=>[(4,((a 1).val 0))]) [4] (λa L=>L++[ba ((a 1).val 0) ([(⟨5,u,1-1⟩:Ev)])]) λa=>lf (.l [] [] [((a 1).val 0),(a 1).val 0]) [1,2,4] [(0,0)] [])))))
theorem N8(g a b:Nat)(r:Rp)(h:aT r)(u:Nat)(hp:dR r.m=true):aa VA 241 #[pt g 0,.agg #[i6 2,iN u]] [pk (aq g a b r)] [0] (λE=>[pk (aq g a b {r with m:=pF r.m,j:=⟨2,u,fH r.m,0⟩}),ba (E.val 0) ([(⟨4,u,fH r.m⟩:Ev)])]) (λE=>(E.val 0)):=aa.pkW (n:=1) (N:=λE=>[ba (E.val 0) ([(⟨4,u,fH r.m⟩:Ev)])]) (enters_of Tryz.func241 Kr rfl) λL i=>by
 obtain⟨rfl⟩:=i;refine⟨[0,1,2],λ_=>[ob g #[pt a 0,i6 2,iN u,iN (fH r.m),i6 0,pt b 0] 133,pk (aF a (pF r.m)),pk (bE b r.q)],?_,rfl,λE=>⟨rfl,rfl,rfl⟩⟩;have e:=h.m;have v:=h.j;have p:=h.n;have t:=e.Q;have k:=e.ly;have o:=e.np;exact fG Tryz.func241 λw q=>ra (λf=>[(3,pt (B0 f) 0),(4,.slice none 0 0)]) (λf=>[ob (B0 f) #[i6 2,iN u] 285]) λf=>r0 [] [(5,i6 3)] [] (r0 [(3,.l 0)] [(6,.func (.func 265) #[pt a 0] #[])] [] (rT [(1,.l 3)] 16 (r0 [(3,.l 0)] [(5,i6 4),(6,.func (.func 266) #[pt a 0] #[])] [5,6] (rr (λ_=>[(1,.c [1] [1] (Na a r.m e Om))]) (λ_=>[(7,iN (fH r.m)),(8,i6 0)]) [] (λ_ L=>L.set 1 ((pk (aF a (pF r.m))))) λx=>rF [] 28 (rs [(2,.l 3),(4,.l 3),(9,.s 0)] 0 (ob g #[pt a 0,i6 2,iN u,iN (fH r.m),i6 0,pt b 0] 133) (rr (λ_=>[(2,.l 3),(5,gH iP 4 1 [(⟨4,u,fH r.m⟩:Ev)])]) (λd=>[(4,.slice (some ⟨(d 5).y 0,0,none⟩) 1 1)]) [4] (λd L=>L++[ba (.slice (some ⟨(d 5).y 0,0,none⟩) 1 1) ([(⟨4,u,fH r.m⟩:Ev)])]) λd=>lf (.l [] [] [.slice (some ⟨(d 5).y 0,0,none⟩) 1 1]) [0,1,2,4] [] []))))))
theorem N9(g a f:Nat)(r:Rp)(h:aT r)(u:Nat)(hp:dR r.m=false):aa VA 241 #[pt g 0,.agg #[i6 2,iN u]] [pk (aq g a f r)] [0] (λE=>[pk (aq g a f r),ba (E.val 0) ([(⟨5,u,2-1⟩:Ev)])]) (λE=>(E.val 0)):=aa.pkW (n:=1) (N:=λE=>[ba (E.val 0) ([(⟨5,u,2-1⟩:Ev)])]) (enters_of Tryz.func241 Kr rfl) λL i=>by
 obtain⟨rfl⟩:=i;refine⟨[1,2],λ_=>[pk (aF a r.m),pk (bE f r.q)],?_,rfl,λE=>⟨rfl,rfl,rfl⟩⟩;have d:=h.m;have q:=h.j;have m:=h.n;have p:=d.Q;have j:=d.ly;have k:=d.np;exact fG Tryz.func241 λw o=>ra (λe=>[(3,pt (B0 e) 0),(4,.slice none 0 0)]) (λe=>[ob (B0 e) #[i6 2,iN u] 285]) λe=>r0 [] [(5,i6 3)] [] (r0 [(3,.l 0)] [(6,.func (.func 265) #[pt a 0] #[])] [] (rT [(1,.l 3)] 16 (r0 [(3,.l 0)] [(5,i6 4),(6,.func (.func 266) #[pt a 0] #[])] [5,6] (r0 [(1,.c [1] [1] (Nb a r.m d Om))] [(7,i6 0),(8,i6 52)] [] (rT [] 28 (rr (λ_=>[(0,.l 3),(1,.c [] [4] (xX 2 u Om Om))]) (λb=>[(4,((b 1).val 0))]) [4] (λb L=>L++[ba ((b 1).val 0) ([(⟨5,u,2-1⟩:Ev)])]) λb=>lf (.l [] [] [((b 1).val 0),(b 1).val 0]) [1,2,4] [(0,0)] []))))))
end
section
open Go.Shelf
theorem Ob(g b c:Nat)(r:Rp)(f:aT r)(a:Ak)(h:et r.m a):aa VA 240 #[pt g 0,.agg #[iN a.k,iN a.w]] [pk (aq g b c r)] [0] (λ_=>[pk (aq g b c r)]) (λ_=> .bool (cX r a)):=by
 obtain⟨k,u⟩:=a;rcases h.k with⟨d,e⟩ | ⟨d,e⟩
 ·cases d;exact N4 g b c r f u e
 ·cases d;exact N5 g b c r f u e
theorem Od(g b c:Nat)(r:Rp)(e:aT r)(a:Ak)(h:et r.m a):aa VA 241 #[pt g 0,.agg #[iN a.k,iN a.w]] [pk (aq g b c r)] [0] (λE=>[pk (aq g b c (cM r a)),ba (E.val 0) (fh r a)]) (λE=>E.val 0):=by
 obtain⟨k,u⟩:=a;unfold cM fh;rcases h.k with⟨f,i⟩ | ⟨f,i⟩
 ·cases f;cases d:dp r.m with
  | true=>exact N6 g b c r e u d
  | false=>exact N7 g b c r e u d
 ·cases f;cases d:dR r.m with
  | true=>exact N8 g b c r e u d
  | false=>exact N9 g b c r e u d
abbrev pK(g a b:Nat)(r:Rp):ah:=[ob g #[pt a 0,iN r.j.A,iN r.j.fr,iN r.j.tg,iN r.j.nx,pt b 0] 133,pk (aF a r.m),pk (bE b r.q)]
theorem oI(g b c:Nat)(r:Rp)(e:aT r)(a:Ak)(d:et r.m a):aa VA 240 #[pt g 0,.agg #[iN a.k,iN a.w]] (pK g b c r) [0,1,2] (λ_=>pK g b c r) (λ_=> .bool (cX r a)):=(Ob g b c r e a d).unpk (N:=λ_=>[])
theorem xY(g b c:Nat)(r:Rp)(e:aT r)(a:Ak)(d:et r.m a):aa VA 241 #[pt g 0,.agg #[iN a.k,iN a.w]] (pK g b c r) [0,1,2] (λE=>pK g b c (cM r a)++[ba (E.val 0) (fh r a)]) (λE=>E.val 0):=(Od g b c r e a d).unpk (N:=λE=>[ba (E.val 0) (fh r a)])
theorem Oe(g b d:Nat)(r:Rp)(e:aT r)(a:Ak)(j:et r.m a)(hv:cX r a=true):aa VA 207 #[pt g 0,.agg #[iN a.k,iN a.w]] [pk (aq g b d r)] [0] (λE=>[pk (aq g b d r),ba (E.val 0) ([])]) (λE=>(E.val 0)):=aa.pkW (n:=1) (N:=λE=>[ba (E.val 0) ([])]) (enters_of Tryz.func207 Kr rfl) λL i=>by
 obtain⟨rfl⟩:=i;refine⟨[1,2],λ_=>[pk (aF b r.m),pk (bE d r.q)],?_,rfl,λE=>⟨rfl,rfl,rfl⟩⟩;have h:=e.m;have s:=e.j;have o:=e.n;have q:=h.Q;have k:=h.ly;have m:=h.np;exact fG Tryz.func207 λw p=>ra (λf=>[(3,pt (B0 f) 0),(4,.slice none 0 0)]) (λf=>[ob (B0 f) #[iN a.k,iN a.w] 285]) λf=>rT [(1,.l 3),(2,.c [0,1,2] [0,1,2] (aa.v ((oI g b d r e a j)) λ_=>ALca Value.bool (show(cX r a)=true from(by exact hv))))] 5 (r0 [] [(4,.slice none 0 0)] [4] (cz iP (lf (.l [] [] [.slice none 0 0]) [1,2,4] [(0,0)] [])))
theorem Of(g b d:Nat)(r:Rp)(f:aT r)(a:Ak)(k:et r.m a)(hv:cX r a=false)(s:r.j.A=0):aa VA 207 #[pt g 0,.agg #[iN a.k,iN a.w]] [pk (aq g b d r)] [0] (λE=>[pk (aq g b d (cM r a)),ba (E.val 0) (fh r a)]) (λE=>(E.val 0)):=aa.pkW (n:=1) (N:=λE=>[ba (E.val 0) (fh r a)]) (enters_of Tryz.func207 Kr rfl) λL p=>by
 obtain⟨rfl⟩:=p;refine⟨[0,1,2],λ_=>[ob g #[pt b 0,iN ((cM r a).j.A),iN ((cM r a).j.fr),iN ((cM r a).j.tg),iN ((cM r a).j.nx),pt d 0] 133,pk (aF b (cM r a).m),pk (bE d (cM r a).q)],?_,rfl,λE=>⟨rfl,rfl,rfl⟩⟩;have i:=f.m;have z:=f.j;have v:=f.n;have y:=i.Q;have t:=i.ly;have u:=i.np;refine fG Tryz.func207 λw x=>ra (λh=>[(3,pt (B0 h) 0),(4,.slice none 0 0)]) (λh=>[ob (B0 h) #[iN a.k,iN a.w] 285]) λh=>rF [(1,.l 3),(2,.c [0,1,2] [0,1,2] (aa.v ((oI g b d r f a k)) λ_=>ALca Value.bool (show(cX r a)=false from(by exact hv))))] 5 (r0 [(1,.c [0,1,2] [1,2] (mi g b d r))] [(9,.bool (!((r.j.A:Int) != 0)))] [] ?_);have o:(!((r.j.A:Int) != 0))=true:=by rw[s];rfl
 exact cT (!((r.j.A:Int) != 0)) o (rr (λ_=>[(1,.l 3),(2,.c [0,1,2] [0,1,2,4] (xY g b d r f a k))]) (λe=>[(4,(e 2).val 0)]) [4] (λe L=>((L.set 0 (ob g #[pt b 0,iN ((cM r a).j.A),iN ((cM r a).j.fr),iN ((cM r a).j.tg),iN ((cM r a).j.nx),pt d 0] 133)).set 1 ((pk (aF b (cM r a).m)))).set 2 ((pk (bE d (cM r a).q)))++[ba ((e 2).val 0) (fh r a)]) λe=>lf (.l [] [] [((e 2).val 0),(e 2).val 0]) [0,1,2,4] [] [])
theorem Og(g d b:Nat)(r:Rp)(e:aT r)(a:Ak)(m:et r.m a)(hv:cX r a=false)(u:r.j.A≠0)(x:a∈r.q):aa VA 207 #[pt g 0,.agg #[iN a.k,iN a.w]] [pk (aq g d b r)] [0] (λE=>[pk (aq g d b r),ba (E.val 0) ([])]) (λE=>(E.val 0)):=aa.pkW (n:=1) (N:=λE=>[ba (E.val 0) ([])]) (enters_of Tryz.func207 Kr rfl) λL k=>by
 obtain⟨rfl⟩:=k;refine⟨[1,2],λ_=>[pk (aF d r.m),pk (bE b r.q)],?_,rfl,λE=>⟨rfl,rfl,rfl⟩⟩;have h:=e.m;have v:=e.j;have q:=e.n;have t:=h.Q;have o:=h.ly;have p:=h.np;refine fG Tryz.func207 λw s=>ra (λf=>[(3,pt (B0 f) 0),(4,.slice none 0 0)]) (λf=>[ob (B0 f) #[iN a.k,iN a.w] 285]) λf=>rF [(1,.l 3),(2,.c [0,1,2] [0,1,2] (aa.v ((oI g d b r e a m)) λ_=>ALca Value.bool (show(cX r a)=false from(by exact hv))))] 5 (r0 [(1,.c [0,1,2] [1,2] (mi g d b r))] [(9,.bool (!((r.j.A:Int) != 0)))] [] ?_);have i:(!((r.j.A:Int) != 0))=false:=by(have j:((r.j.A:Int)==0)=false:=by rw[dP];omega);(rw[bne,j];rfl)
 exact cF (!((r.j.A:Int) != 0)) i (rF [(3,.l 0),(4,.l 3),(5,.c [2] [2] (NJ b r.q a Om))] 22 (r0 [] [(4,.slice none 0 0)] [4] (cz iP (lf (.l [] [] [.slice none 0 0]) [1,2,4] [(0,0)] []))))
theorem Oh(g e b:Nat)(r:Rp)(f:aT r)(a:Ak)(k:et r.m a)(hv:cX r a=false)(A:r.j.A≠0)(x:a∉r.q)(s:r.q.length=256):aa VA 207 #[pt g 0,.agg #[iN a.k,iN a.w]] [pk (aq g e b r)] [0] (λE=>[pk (aq g e b r),ba (E.val 0) ([(⟨5,a.w,a.k-1⟩:Ev)])]) (λE=>(E.val 0)):=aa.pkW (n:=1) (N:=λE=>[ba (E.val 0) ([(⟨5,a.w,a.k-1⟩:Ev)])]) (enters_of Tryz.func207 Kr rfl) λL p=>by
 obtain⟨rfl⟩:=p;refine⟨[1,2],λ_=>[pk (aF e r.m),pk (bE b r.q)],?_,rfl,λE=>⟨rfl,rfl,rfl⟩⟩;have j:=f.m;have B:=f.j;have v:=f.n;have z:=j.Q;have t:=j.ly;have u:=j.np;have q:1≤a.k∧a.k≤2:=by rcases k.k with h | h<;>omega
 refine fG Tryz.func207 λw y=>ra (λi=>[(3,pt (B0 i) 0),(4,.slice none 0 0)]) (λi=>[ob (B0 i) #[iN a.k,iN a.w] 285]) λi=>rF [(1,.l 3),(2,.c [0,1,2] [0,1,2] (aa.v ((oI g e b r f a k)) λ_=>ALca Value.bool (show(cX r a)=false from(by exact hv))))] 5 (r0 [(1,.c [0,1,2] [1,2] (mi g e b r))] [(9,.bool (!((r.j.A:Int) != 0)))] [] ?_);have m:(!((r.j.A:Int) != 0))=false:=by(have o:((r.j.A:Int)==0)=false:=by rw[dP];omega);(rw[bne,o];rfl)
 exact cF (!((r.j.A:Int) != 0)) m (rT [(3,.l 0),(4,.l 3),(5,.c [2] [2] (NK b r.q a x (by(simp only[LL,s];done))))] 22 (rr (λ_=>[(0,.l 3),(1,.c [] [4] (xX a.k a.w Om Om))]) (λd=>[(4,((d 1).val 0))]) [4] (λd L=>L++[ba ((d 1).val 0) ([(⟨5,a.w,a.k-1⟩:Ev)])]) λd=>lf (.l [] [] [((d 1).val 0),(d 1).val 0]) [1,2,4] [(0,0)] []))
theorem Oi(g d b:Nat)(r:Rp)(e:aT r)(a:Ak)(m:et r.m a)(hv:cX r a=false)(x:r.j.A≠0)(t:a∉r.q)(z:r.q.length<256):aa VA 207 #[pt g 0,.agg #[iN a.k,iN a.w]] [pk (aq g d b r)] [0] (λE=>[pk (aq g d b {r with q:=r.q++[a]}),ba (E.val 0) ([])]) (λE=>(E.val 0)):=aa.pkW (n:=1) (N:=λE=>[ba (E.val 0) ([])]) (enters_of Tryz.func207 Kr rfl) λL k=>by
 obtain⟨rfl⟩:=k;refine⟨[1,2],λ_=>[pk (aF d r.m),pk (bE b (r.q++[a]))],?_,rfl,λE=>⟨rfl,rfl,rfl⟩⟩;have h:=e.m;have y:=e.j;have s:=e.n;have v:=h.Q;have o:=h.ly;have p:=h.np;refine fG Tryz.func207 λw u=>ra (λf=>[(3,pt (B0 f) 0),(4,.slice none 0 0)]) (λf=>[ob (B0 f) #[iN a.k,iN a.w] 285]) λf=>rF [(1,.l 3),(2,.c [0,1,2] [0,1,2] (aa.v ((oI g d b r e a m)) λ_=>ALca Value.bool (show(cX r a)=false from(by exact hv))))] 5 (r0 [(1,.c [0,1,2] [1,2] (mi g d b r))] [(9,.bool (!((r.j.A:Int) != 0)))] [] ?_);have i:(!((r.j.A:Int) != 0))=false:=by(have j:((r.j.A:Int)==0)=false:=by rw[dP];omega);(rw[bne,j];rfl)
 exact cF (!((r.j.A:Int) != 0)) i (rr (λ_=>[(3,.l 0),(4,.l 3),(5,.c [2] [2] (NL b r.q a t Om))]) (λ_=>[(22,.bool false)]) [] (λ_ L=>L.set 2 ((pk (bE b (r.q++[a]))))) λA=>cF _ rfl (r0 [] [(4,.slice none 0 0)] [4] (cz iP (lf (.l [] [] [.slice none 0 0]) [1,2,4] [(0,0)] []))))
theorem pL(g b c:Nat)(r:Rp)(f:aT r)(a:Ak)(h:et r.m a):aa VA 207 #[pt g 0,.agg #[iN a.k,iN a.w]] [pk (aq g b c r)] [0] (λE=>[pk (aq g b c (bc r a)),ba (E.val 0) (bO r a)]) (λE=>E.val 0):=by
 unfold bc bO;cases j:cX r a with
 | true=>exact Oe g b c r f a h j
 | false=>
  rw[ALcf,ALcf];by_cases e:r.j.A=0
  ·rw[e];exact Of g b c r f a h j e
  ·rw[show(r.j.A==0)=false from dP.2 e,ALcf,ALcf];unfold pH rH;by_cases d:a∈r.q
   ·rw[ALifp d,ALifp d];exact Og g b c r f a h j e d
   ·rw[ALifn d,ALifn d];by_cases i:r.q.length=256
    ·rw[ALifp i,ALifp i];exact Oh g b c r f a h j e d i
    ·rw[ALifn i,ALifn i];exact Oi g b c r f a h j e d (by have:=f.n;omega)
theorem Oj(g a d:Nat)(r:Rp)(e:aT r)(s:r.j.A≠0)(f:r.j.nx<gh r.j.A r.m.B r.m.M r.m.C):aa VA 84 #[pt g 0] [pk (aq g a d r)] [0] (λ_=>[pk (aq g a d r)]) (λ_=> .tuple #[iN (a8 r.m r.j.A r.j.fr r.j.nx),iN (a8 r.m r.j.A r.j.tg r.j.nx),i6 0]):=aa.pkZ Tryz.func84 λL k=>by
 obtain⟨rfl⟩:=k;refine⟨[1,2],λ_=>[pk (aF a r.m),pk (bE d r.q)],?_,rfl,λE=>⟨rfl,rfl,rfl⟩⟩;have b:=e.m;have h:=e.j;have o:=e.n;have q:=b.Q;have l:=b.ly;have n:=b.np;refine fG Tryz.func84 λw p=>r0 [] [(2,i6 0),(3,i6 0),(4,i6 0)] [] (r0 [(1,.c [0,1,2] [1,2] (mi g a d r))] [(7,.bool (!((r.j.A:Int) != 0)))] [] ?_);have i:(!((r.j.A:Int) != 0))=false:=by(have j:((r.j.A:Int)==0)=false:=by rw[dP];omega);(rw[bne,j];rfl)
 exact cF (!((r.j.A:Int) != 0)) i (r0 [(3,.m (ls 0 ([iN r.j.A,iN r.j.fr,iN r.j.tg,iN r.j.nx]))),(7,.m (ld 0 (pt a 0))),(12,.m (ld 0 (iN r.j.nx))),(13,.c [1] [1] (Nz a r.m b r.j h r.j.nx f)),] [(2,iN (a8 r.m r.j.A r.j.fr r.j.nx)),(4,i6 0)] [2,4] (rT [] 26 (r0 [(3,.m (ls 0 ([iN r.j.A,iN r.j.fr,iN r.j.tg,iN r.j.nx]))),(7,.m (ld 0 (pt a 0))),(12,.m (ld 0 (iN r.j.nx))),(13,.c [1] [1] (NA a r.m b r.j h r.j.nx f)),] [(3,iN (a8 r.m r.j.A r.j.tg r.j.nx)),(4,i6 0)] [3,4] (r0 [] [(2,iN (a8 r.m r.j.A r.j.fr r.j.nx)),(3,iN (a8 r.m r.j.A r.j.tg r.j.nx)),(4,i6 0)] [2,3,4] (lf ab.zero [1,2] [(0,0)] [])))))
theorem Ok(g a b:Nat)(r:Rp)(e:aT r)(i:r.j.A=0):aa VA 84 #[pt g 0] [pk (aq g a b r)] [0] (λ_=>[pk (aq g a b r)]) (λ_=> .tuple #[i6 0,i6 0,i6 51]):=aa.pkZ Tryz.func84 λL h=>by
 obtain⟨rfl⟩:=h;refine⟨[1,2],λ_=>[pk (aF a r.m),pk (bE b r.q)],?_,rfl,λE=>⟨rfl,rfl,rfl⟩⟩;have d:=e.m;have o:=e.j;have l:=e.n;have n:=d.Q;have j:=d.ly;have k:=d.np;refine fG Tryz.func84 λw m=>r0 [] [(2,i6 0),(3,i6 0),(4,i6 0)] [] (r0 [(1,.c [0,1,2] [1,2] (mi g a b r))] [(7,.bool (!((r.j.A:Int) != 0)))] [] ?_);have f:(!((r.j.A:Int) != 0))=true:=by rw[i];rfl
 exact cT (!((r.j.A:Int) != 0)) f (r0 [] [(2,i6 0),(3,i6 0),(4,i6 51)] [2,3,4] (lf ab.zero [1,2] [(0,0)] []))
end
section
open Go.Shelf
theorem Ol(g b d:Nat)(m:Mp)(f t x:Nat)(q:List Ak)(J:aT ⟨m,⟨1,f,t,x⟩,q⟩)(z:nK m f t x):aa VA 212 #[pt g 0] [pk (aq g b d ⟨m,⟨1,f,t,x⟩,q⟩)] [0] (λE=>[pk (aq g b d (cv ⟨m,⟨1,f,t,x⟩,q⟩).1),ba (E.val 0) ((cv ⟨m,⟨1,f,t,x⟩,q⟩).2)]) (λE=>(E.val 0)):=aa.pkW (n:=1) (N:=λE=>[ba (E.val 0) ((cv ⟨m,⟨1,f,t,x⟩,q⟩).2)]) (enters_of Tryz.func212 Kr rfl) λL P=>by
 obtain⟨rfl⟩:=P;refine⟨[0,1,2],λ_=>[ob g #[pt b 0,iN ((cv ⟨m,⟨1,f,t,x⟩,q⟩).1.j.A),iN ((cv ⟨m,⟨1,f,t,x⟩,q⟩).1.j.fr),iN ((cv ⟨m,⟨1,f,t,x⟩,q⟩).1.j.tg),iN ((cv ⟨m,⟨1,f,t,x⟩,q⟩).1.j.nx),pt d 0] 133,pk (aF b (cv ⟨m,⟨1,f,t,x⟩,q⟩).1.m),pk (bE d (cv ⟨m,⟨1,f,t,x⟩,q⟩).1.q)],?_,rfl,λE=>⟨rfl,rfl,rfl⟩⟩;have U:=J.m;have V:q.length≤256:=J.n;have Q:=uF J (show(1:Nat)≠0 by decide);refine fG Tryz.func212 λw W=>r0 [] [(2,.slice none 0 0)] [] (rr (λ_=>[(3,.l 0),(5,.s 3)]) (λu=>[(3,pt (B4 u) 0)]) [] (λu L=>L++[ob (B4 u) #[i6 1,iN f,iN t,iN x] 70]) λu=>rs [(4,.s 0)] 0 (ob g #[pt b 0,i6 0,i6 0,i6 0,i6 0,pt d 0] 133) (rT [(1,.l 3)] 17 (rs [(3,.l 0),(5,.l 3),(7,.l 3),(8,.c [1] [1] (Nc b m U f t z.hf z.t0 z.t1 z.df z.dt z.ne))] 1 ((pk (aF b (rA m f t)))) (rr (λ_=>[(1,.l 3),(3,.l 3),(5,gH iP 4 1 [(⟨6,f,t⟩:Ev)])]) (λD=>[(4,.slice (some ⟨(D 5).y 0,0,none⟩) 1 1)]) [] (λD L=>L++[ba (.slice (some ⟨(D 5).y 0,0,none⟩) 1 1) ([(⟨6,f,t⟩:Ev)])]) λD=>?_))));refine mP (λk _=>k≤q.length∧(eu q.length (ae ⟨m,⟨1,f,t,x⟩,q⟩)=eu (q.length-k) (af (ae ⟨m,⟨1,f,t,x⟩,q⟩) k))) (λ_ a=>[(4,a)]) (λk a L=>(((L.set 0 (ob g #[pt b 0,iN ((af (ae ⟨m,⟨1,f,t,x⟩,q⟩) k).1.j.A),iN ((af (ae ⟨m,⟨1,f,t,x⟩,q⟩) k).1.j.fr),iN ((af (ae ⟨m,⟨1,f,t,x⟩,q⟩) k).1.j.tg),iN ((af (ae ⟨m,⟨1,f,t,x⟩,q⟩) k).1.j.nx),pt d 0] 133)).set 1 ((pk (aF b (af (ae ⟨m,⟨1,f,t,x⟩,q⟩) k).1.m)))).set 2 ((pk (bE d (af (ae ⟨m,⟨1,f,t,x⟩,q⟩) k).1.q)))).set 4 (ba a ((af (ae ⟨m,⟨1,f,t,x⟩,q⟩) k).2))) (λk _=>q.length-k) 0 (.slice (some ⟨(D 5).y 0,0,none⟩) 1 1) ⟨by omega,rfl⟩ Kr Kr (λk a ⟨T,K⟩=>?_);have M:aT (af (ae ⟨m,⟨1,f,t,x⟩,q⟩) k).1:=xW Q k (show k≤q.length by omega);have R:=xV (ae ⟨m,⟨1,f,t,x⟩,q⟩) k;have O:(ae ⟨m,⟨1,f,t,x⟩,q⟩).2.length=1:=rfl;have S:(af (ae ⟨m,⟨1,f,t,x⟩,q⟩) k).1.q.length=q.length-k:=uI (ae ⟨m,⟨1,f,t,x⟩,q⟩) k;refine rr (λ_=>[(1,.c [0,1,2] [1,2] (mi g b d ((af (ae ⟨m,⟨1,f,t,x⟩,q⟩) k).1)))]) (λ_=>[(44,.bool (!((((af (ae ⟨m,⟨1,f,t,x⟩,q⟩) k).1).j.A:Int) != 0)))]) [] (λ_ L=>(L.set 1 ((pk (aF b ((af (ae ⟨m,⟨1,f,t,x⟩,q⟩) k).1).m)))).set 2 ((pk (bE d ((af (ae ⟨m,⟨1,f,t,x⟩,q⟩) k).1).q)))) λX=>?_;refine cB (!((((af (ae ⟨m,⟨1,f,t,x⟩,q⟩) k).1).j.A:Int) != 0)) (λH=>?_) λH=>?_
 ·have v:(af (ae ⟨m,⟨1,f,t,x⟩,q⟩) k).1.j.A=0:=by simpa using H
  refine rr (λ_=>[(3,.l 0),(4,.c [2] [2] (C5 d (((af (ae ⟨m,⟨1,f,t,x⟩,q⟩) k).1).q))),(9,.s 5)]) (λi=>[(5,pt ((i 8).y 0) 0),(6,i6 (lD (((af (ae ⟨m,⟨1,f,t,x⟩,q⟩) k).1).q)))]) [] (λi L=>L.set 2 ((pk (bE d (((af (ae ⟨m,⟨1,f,t,x⟩,q⟩) k).1).q).tail)))++[ob ((i 8).y 0) #[iN (((((af (ae ⟨m,⟨1,f,t,x⟩,q⟩) k).1).q).headD aG).k),iN (((((af (ae ⟨m,⟨1,f,t,x⟩,q⟩) k).1).q).headD aG).w)] 285]) λi=>r0 [] [(54,.bool ((lD (((af (ae ⟨m,⟨1,f,t,x⟩,q⟩) k).1).q)) != 0))] [] ?_;refine lU (lD (((af (ae ⟨m,⟨1,f,t,x⟩,q⟩) k).1).q)) 0 (λF o=>?_) λF o=>?_
  ·refine kZ ?_;have r:((af (ae ⟨m,⟨1,f,t,x⟩,q⟩) k).1.j.A≠0)∨(af (ae ⟨m,⟨1,f,t,x⟩,q⟩) k).1.q.length=0:=by(right;have y:=o;unfold lD at y;split at y<;>first | assumption | exact absurd rfl y)
   have p:cv ⟨m,⟨1,f,t,x⟩,q⟩=(af (ae ⟨m,⟨1,f,t,x⟩,q⟩) k):=by show eu q.length (ae ⟨m,⟨1,f,t,x⟩,q⟩)=_;rw[K];rcases r with h | h;exact uK h _;rw[show q.length-k=0 by omega];rfl
   exact cl [ob g #[pt b 0,iN ((af (ae ⟨m,⟨1,f,t,x⟩,q⟩) k).1.j.A),iN ((af (ae ⟨m,⟨1,f,t,x⟩,q⟩) k).1.j.fr),iN ((af (ae ⟨m,⟨1,f,t,x⟩,q⟩) k).1.j.tg),iN ((af (ae ⟨m,⟨1,f,t,x⟩,q⟩) k).1.j.nx),pt d 0] 133,pk (aF b ((af (ae ⟨m,⟨1,f,t,x⟩,q⟩) k).1).m),pk (bE d (af (ae ⟨m,⟨1,f,t,x⟩,q⟩) k).1.q),ob (B4 u) #[i6 1,iN f,iN t,iN x] 70,ba a ((af (ae ⟨m,⟨1,f,t,x⟩,q⟩) k).2),ob ((i 8).y 0) #[iN (((((af (ae ⟨m,⟨1,f,t,x⟩,q⟩) k).1).q).headD aG).k),iN (((((af (ae ⟨m,⟨1,f,t,x⟩,q⟩) k).1).q).headD aG).w)] 285] (by(try rw[show(af (ae ⟨m,⟨1,f,t,x⟩,q⟩) k).1.q.tail=(af (ae ⟨m,⟨1,f,t,x⟩,q⟩) k).1.q from uJ (r.resolve_left (λh=>h v))]);kernel_rfl) (r0 [] [(2,a)] [2] (lf (.l [] [] [a]) [0,1,2,4] [] [] (hf:=by rw[p];kernel_rfl)))
  have I:0<(af (ae ⟨m,⟨1,f,t,x⟩,q⟩) k).1.q.length:=by have y:=o;unfold lD at y;split at y<;>omega
  have C:=Dd (s:=(ae ⟨m,⟨1,f,t,x⟩,q⟩)) (k:=k) (by show k<q.length;omega) K v;have A:=uG M;have B:et (aX (af (ae ⟨m,⟨1,f,t,x⟩,q⟩) k).1).m ((af (ae ⟨m,⟨1,f,t,x⟩,q⟩) k).1.q.headD aG):=⟨(rK M I).k⟩;refine cl [ob g #[pt b 0,iN ((aX (af (ae ⟨m,⟨1,f,t,x⟩,q⟩) k).1).j.A),iN ((aX (af (ae ⟨m,⟨1,f,t,x⟩,q⟩) k).1).j.fr),iN ((aX (af (ae ⟨m,⟨1,f,t,x⟩,q⟩) k).1).j.tg),iN ((aX (af (ae ⟨m,⟨1,f,t,x⟩,q⟩) k).1).j.nx),pt d 0] 133,pk (aF b ((af (ae ⟨m,⟨1,f,t,x⟩,q⟩) k).1).m),pk (bE d (((af (ae ⟨m,⟨1,f,t,x⟩,q⟩) k).1).q).tail),ob (B4 u) #[i6 1,iN f,iN t,iN x] 70,ba a ((af (ae ⟨m,⟨1,f,t,x⟩,q⟩) k).2),ob ((i 8).y 0) #[iN (((((af (ae ⟨m,⟨1,f,t,x⟩,q⟩) k).1).q).headD aG).k),iN (((((af (ae ⟨m,⟨1,f,t,x⟩,q⟩) k).1).q).headD aG).w)] 285] (by skip;kernel_rfl) (cl [ob g #[pt b 0,iN ((aX (af (ae ⟨m,⟨1,f,t,x⟩,q⟩) k).1).j.A),iN ((aX (af (ae ⟨m,⟨1,f,t,x⟩,q⟩) k).1).j.fr),iN ((aX (af (ae ⟨m,⟨1,f,t,x⟩,q⟩) k).1).j.tg),iN ((aX (af (ae ⟨m,⟨1,f,t,x⟩,q⟩) k).1).j.nx),pt d 0] 133,pk (aF b (aX (af (ae ⟨m,⟨1,f,t,x⟩,q⟩) k).1).m),pk (bE d (((af (ae ⟨m,⟨1,f,t,x⟩,q⟩) k).1).q).tail),ob (B4 u) #[i6 1,iN f,iN t,iN x] 70,ba a ((af (ae ⟨m,⟨1,f,t,x⟩,q⟩) k).2),ob ((i 8).y 0) #[iN (((((af (ae ⟨m,⟨1,f,t,x⟩,q⟩) k).1).q).headD aG).k),iN (((((af (ae ⟨m,⟨1,f,t,x⟩,q⟩) k).1).q).headD aG).w)] 285] (by skip;kernel_rfl) (cl [ob g #[pt b 0,iN ((aX (af (ae ⟨m,⟨1,f,t,x⟩,q⟩) k).1).j.A),iN ((aX (af (ae ⟨m,⟨1,f,t,x⟩,q⟩) k).1).j.fr),iN ((aX (af (ae ⟨m,⟨1,f,t,x⟩,q⟩) k).1).j.tg),iN ((aX (af (ae ⟨m,⟨1,f,t,x⟩,q⟩) k).1).j.nx),pt d 0] 133,pk (aF b (aX (af (ae ⟨m,⟨1,f,t,x⟩,q⟩) k).1).m),pk (bE d (aX (af (ae ⟨m,⟨1,f,t,x⟩,q⟩) k).1).q),ob (B4 u) #[i6 1,iN f,iN t,iN x] 70,ba a ((af (ae ⟨m,⟨1,f,t,x⟩,q⟩) k).2),ob ((i 8).y 0) #[iN (((((af (ae ⟨m,⟨1,f,t,x⟩,q⟩) k).1).q).headD aG).k),iN (((((af (ae ⟨m,⟨1,f,t,x⟩,q⟩) k).1).q).headD aG).w)] 285] (by skip;kernel_rfl) (r0 [(1,.l 5),(2,.c [0,1,2] [0,1,2] (oI g b d (aX (af (ae ⟨m,⟨1,f,t,x⟩,q⟩) k).1) A ((((af (ae ⟨m,⟨1,f,t,x⟩,q⟩) k).1).q).headD aG) B))] [(58,.bool (!(cX (aX (af (ae ⟨m,⟨1,f,t,x⟩,q⟩) k).1) ((((af (ae ⟨m,⟨1,f,t,x⟩,q⟩) k).1).q).headD aG))))] [] ?_)));refine cB (!(cX (aX (af (ae ⟨m,⟨1,f,t,x⟩,q⟩) k).1) ((((af (ae ⟨m,⟨1,f,t,x⟩,q⟩) k).1).q).headD aG))) (λG=>?_) λG=>?_
  ·exact rr (λe=>[(2,.l 5),(3,.c [0,1,2] [0,1,2,6] (xY g b d (aX (af (ae ⟨m,⟨1,f,t,x⟩,q⟩) k).1) A ((((af (ae ⟨m,⟨1,f,t,x⟩,q⟩) k).1).q).headD aG) B)),(4,.m (lQ 4 6 iP.hT (a) ((e 3).val 0) (xs:=(af (ae ⟨m,⟨1,f,t,x⟩,q⟩) k).2) (ys:=fh (aX (af (ae ⟨m,⟨1,f,t,x⟩,q⟩) k).1) ((((af (ae ⟨m,⟨1,f,t,x⟩,q⟩) k).1).q).headD aG)) (ba ((e 3).val 0) (fh (aX (af (ae ⟨m,⟨1,f,t,x⟩,q⟩) k).1) ((((af (ae ⟨m,⟨1,f,t,x⟩,q⟩) k).1).q).headD aG))) (λ_ h=>ar.src ((λ_ h=>h) _ h)) iP.one iP.lz (by simp only[LL,uH];omega)))]) (λe=>[(4,(e 4).val 0)]) [4] (λe L=>(((L.set 0 (ob g #[pt b 0,iN ((cM (aX (af (ae ⟨m,⟨1,f,t,x⟩,q⟩) k).1) ((((af (ae ⟨m,⟨1,f,t,x⟩,q⟩) k).1).q).headD aG)).j.A),iN ((cM (aX (af (ae ⟨m,⟨1,f,t,x⟩,q⟩) k).1) ((((af (ae ⟨m,⟨1,f,t,x⟩,q⟩) k).1).q).headD aG)).j.fr),iN ((cM (aX (af (ae ⟨m,⟨1,f,t,x⟩,q⟩) k).1) ((((af (ae ⟨m,⟨1,f,t,x⟩,q⟩) k).1).q).headD aG)).j.tg),iN ((cM (aX (af (ae ⟨m,⟨1,f,t,x⟩,q⟩) k).1) ((((af (ae ⟨m,⟨1,f,t,x⟩,q⟩) k).1).q).headD aG)).j.nx),pt d 0] 133)).set 1 ((pk (aF b (cM (aX (af (ae ⟨m,⟨1,f,t,x⟩,q⟩) k).1) ((((af (ae ⟨m,⟨1,f,t,x⟩,q⟩) k).1).q).headD aG)).m)))).set 2 ((pk (bE d (cM (aX (af (ae ⟨m,⟨1,f,t,x⟩,q⟩) k).1) ((((af (ae ⟨m,⟨1,f,t,x⟩,q⟩) k).1).q).headD aG)).q)))).set 4 (ba ((e 4).val 0) (((af (ae ⟨m,⟨1,f,t,x⟩,q⟩) k).2)++(fh (aX (af (ae ⟨m,⟨1,f,t,x⟩,q⟩) k).1) ((((af (ae ⟨m,⟨1,f,t,x⟩,q⟩) k).1).q).headD aG))))++[ba ((e 3).val 0) (fh (aX (af (ae ⟨m,⟨1,f,t,x⟩,q⟩) k).1) ((((af (ae ⟨m,⟨1,f,t,x⟩,q⟩) k).1).q).headD aG))]) λe=>kY (k+1) ((e 4).val 0) ⟨by omega,C⟩ Om Kr [0,1,2,3,4] (by(rw[Db (s:=(ae ⟨m,⟨1,f,t,x⟩,q⟩)) (k:=k) (by simpa using ‹(!cX (aX (af (ae ⟨m,⟨1,f,t,x⟩,q⟩) k).1) ((af (ae ⟨m,⟨1,f,t,x⟩,q⟩) k).1.q.headD aG))=true›)]);kernel_rfl)
  exact kY (k+1) a ⟨by omega,C⟩ Om Kr [0,1,2,3,4] (by(rw[Da (s:=(ae ⟨m,⟨1,f,t,x⟩,q⟩)) (k:=k) (by simpa using ‹(!cX (aX (af (ae ⟨m,⟨1,f,t,x⟩,q⟩) k).1) ((af (ae ⟨m,⟨1,f,t,x⟩,q⟩) k).1.q.headD aG))=false›)]);kernel_rfl)
 refine kZ ?_;have r:((af (ae ⟨m,⟨1,f,t,x⟩,q⟩) k).1.j.A≠0)∨(af (ae ⟨m,⟨1,f,t,x⟩,q⟩) k).1.q.length=0:=by(left;simpa using H)
 have p:cv ⟨m,⟨1,f,t,x⟩,q⟩=(af (ae ⟨m,⟨1,f,t,x⟩,q⟩) k):=by show eu q.length (ae ⟨m,⟨1,f,t,x⟩,q⟩)=_;rw[K];rcases r with h | h;exact uK h _;rw[show q.length-k=0 by omega];rfl
 exact cl [ob g #[pt b 0,iN ((af (ae ⟨m,⟨1,f,t,x⟩,q⟩) k).1.j.A),iN ((af (ae ⟨m,⟨1,f,t,x⟩,q⟩) k).1.j.fr),iN ((af (ae ⟨m,⟨1,f,t,x⟩,q⟩) k).1.j.tg),iN ((af (ae ⟨m,⟨1,f,t,x⟩,q⟩) k).1.j.nx),pt d 0] 133,pk (aF b ((af (ae ⟨m,⟨1,f,t,x⟩,q⟩) k).1).m),pk (bE d (af (ae ⟨m,⟨1,f,t,x⟩,q⟩) k).1.q),ob (B4 u) #[i6 1,iN f,iN t,iN x] 70,ba a ((af (ae ⟨m,⟨1,f,t,x⟩,q⟩) k).2)] (by(try rw[show(af (ae ⟨m,⟨1,f,t,x⟩,q⟩) k).1.q.tail=(af (ae ⟨m,⟨1,f,t,x⟩,q⟩) k).1.q from uJ (r.resolve_left (λh=>h v))]);kernel_rfl) (r0 [] [(2,a)] [2] (lf (.l [] [] [a]) [0,1,2,4] [] [] (hf:=by rw[p];kernel_rfl)))
theorem On(g b d:Nat)(m:Mp)(f t x:Nat)(q:List Ak)(J:aT ⟨m,⟨2,f,t,x⟩,q⟩)(D:nM m f t x):aa VA 212 #[pt g 0] [pk (aq g b d ⟨m,⟨2,f,t,x⟩,q⟩)] [0] (λE=>[pk (aq g b d (cv ⟨m,⟨2,f,t,x⟩,q⟩).1),ba (E.val 0) ((cv ⟨m,⟨2,f,t,x⟩,q⟩).2)]) (λE=>(E.val 0)):=aa.pkW (n:=1) (N:=λE=>[ba (E.val 0) ((cv ⟨m,⟨2,f,t,x⟩,q⟩).2)]) (enters_of Tryz.func212 Kr rfl) λL P=>by
 obtain⟨rfl⟩:=P;refine⟨[0,1,2],λ_=>[ob g #[pt b 0,iN ((cv ⟨m,⟨2,f,t,x⟩,q⟩).1.j.A),iN ((cv ⟨m,⟨2,f,t,x⟩,q⟩).1.j.fr),iN ((cv ⟨m,⟨2,f,t,x⟩,q⟩).1.j.tg),iN ((cv ⟨m,⟨2,f,t,x⟩,q⟩).1.j.nx),pt d 0] 133,pk (aF b (cv ⟨m,⟨2,f,t,x⟩,q⟩).1.m),pk (bE d (cv ⟨m,⟨2,f,t,x⟩,q⟩).1.q)],?_,rfl,λE=>⟨rfl,rfl,rfl⟩⟩;have U:=J.m;have V:q.length≤256:=J.n;have Q:=uF J (show(2:Nat)≠0 by decide);refine fG Tryz.func212 λw W=>r0 [] [(2,.slice none 0 0)] [] (rr (λ_=>[(3,.l 0),(5,.s 3)]) (λu=>[(3,pt (B4 u) 0)]) [] (λu L=>L++[ob (B4 u) #[i6 2,iN f,iN t,iN x] 70]) λu=>rs [(4,.s 0)] 0 (ob g #[pt b 0,i6 0,i6 0,i6 0,i6 0,pt d 0] 133) (rF [(1,.l 3)] 17 (rs [(3,.l 0),(5,.l 3),(7,.l 3),(8,.c [1] [1] (Nd b m U f t D.hf D.t0 D.t1 D.hs))] 1 ((pk (aF b (rC m f t)))) (rr (λ_=>[(1,.l 3),(3,.l 3),(5,gH iP 4 1 [(⟨6,f,t⟩:Ev)])]) (λC=>[(4,.slice (some ⟨(C 5).y 0,0,none⟩) 1 1)]) [] (λC L=>L++[ba (.slice (some ⟨(C 5).y 0,0,none⟩) 1 1) ([(⟨6,f,t⟩:Ev)])]) λC=>?_))));refine mP (λk _=>k≤q.length∧(eu q.length (ae ⟨m,⟨2,f,t,x⟩,q⟩)=eu (q.length-k) (af (ae ⟨m,⟨2,f,t,x⟩,q⟩) k))) (λ_ a=>[(4,a)]) (λk a L=>(((L.set 0 (ob g #[pt b 0,iN ((af (ae ⟨m,⟨2,f,t,x⟩,q⟩) k).1.j.A),iN ((af (ae ⟨m,⟨2,f,t,x⟩,q⟩) k).1.j.fr),iN ((af (ae ⟨m,⟨2,f,t,x⟩,q⟩) k).1.j.tg),iN ((af (ae ⟨m,⟨2,f,t,x⟩,q⟩) k).1.j.nx),pt d 0] 133)).set 1 ((pk (aF b (af (ae ⟨m,⟨2,f,t,x⟩,q⟩) k).1.m)))).set 2 ((pk (bE d (af (ae ⟨m,⟨2,f,t,x⟩,q⟩) k).1.q)))).set 4 (ba a ((af (ae ⟨m,⟨2,f,t,x⟩,q⟩) k).2))) (λk _=>q.length-k) 0 (.slice (some ⟨(C 5).y 0,0,none⟩) 1 1) ⟨by omega,rfl⟩ Kr Kr (λk a ⟨T,K⟩=>?_);have M:aT (af (ae ⟨m,⟨2,f,t,x⟩,q⟩) k).1:=xW Q k (show k≤q.length by omega);have R:=xV (ae ⟨m,⟨2,f,t,x⟩,q⟩) k;have O:(ae ⟨m,⟨2,f,t,x⟩,q⟩).2.length=1:=rfl;have S:(af (ae ⟨m,⟨2,f,t,x⟩,q⟩) k).1.q.length=q.length-k:=uI (ae ⟨m,⟨2,f,t,x⟩,q⟩) k;refine rr (λ_=>[(1,.c [0,1,2] [1,2] (mi g b d ((af (ae ⟨m,⟨2,f,t,x⟩,q⟩) k).1)))]) (λ_=>[(44,.bool (!((((af (ae ⟨m,⟨2,f,t,x⟩,q⟩) k).1).j.A:Int) != 0)))]) [] (λ_ L=>(L.set 1 ((pk (aF b ((af (ae ⟨m,⟨2,f,t,x⟩,q⟩) k).1).m)))).set 2 ((pk (bE d ((af (ae ⟨m,⟨2,f,t,x⟩,q⟩) k).1).q)))) λX=>?_;refine cB (!((((af (ae ⟨m,⟨2,f,t,x⟩,q⟩) k).1).j.A:Int) != 0)) (λH=>?_) λH=>?_
 ·have v:(af (ae ⟨m,⟨2,f,t,x⟩,q⟩) k).1.j.A=0:=by simpa using H
  refine rr (λ_=>[(3,.l 0),(4,.c [2] [2] (C5 d (((af (ae ⟨m,⟨2,f,t,x⟩,q⟩) k).1).q))),(9,.s 5)]) (λi=>[(5,pt ((i 8).y 0) 0),(6,i6 (lD (((af (ae ⟨m,⟨2,f,t,x⟩,q⟩) k).1).q)))]) [] (λi L=>L.set 2 ((pk (bE d (((af (ae ⟨m,⟨2,f,t,x⟩,q⟩) k).1).q).tail)))++[ob ((i 8).y 0) #[iN (((((af (ae ⟨m,⟨2,f,t,x⟩,q⟩) k).1).q).headD aG).k),iN (((((af (ae ⟨m,⟨2,f,t,x⟩,q⟩) k).1).q).headD aG).w)] 285]) λi=>r0 [] [(54,.bool ((lD (((af (ae ⟨m,⟨2,f,t,x⟩,q⟩) k).1).q)) != 0))] [] ?_;refine lU (lD (((af (ae ⟨m,⟨2,f,t,x⟩,q⟩) k).1).q)) 0 (λF o=>?_) λF o=>?_
  ·refine kZ ?_;have r:((af (ae ⟨m,⟨2,f,t,x⟩,q⟩) k).1.j.A≠0)∨(af (ae ⟨m,⟨2,f,t,x⟩,q⟩) k).1.q.length=0:=by(right;have y:=o;unfold lD at y;split at y<;>first | assumption | exact absurd rfl y)
   have p:cv ⟨m,⟨2,f,t,x⟩,q⟩=(af (ae ⟨m,⟨2,f,t,x⟩,q⟩) k):=by show eu q.length (ae ⟨m,⟨2,f,t,x⟩,q⟩)=_;rw[K];rcases r with h | h;exact uK h _;rw[show q.length-k=0 by omega];rfl
   exact cl [ob g #[pt b 0,iN ((af (ae ⟨m,⟨2,f,t,x⟩,q⟩) k).1.j.A),iN ((af (ae ⟨m,⟨2,f,t,x⟩,q⟩) k).1.j.fr),iN ((af (ae ⟨m,⟨2,f,t,x⟩,q⟩) k).1.j.tg),iN ((af (ae ⟨m,⟨2,f,t,x⟩,q⟩) k).1.j.nx),pt d 0] 133,pk (aF b ((af (ae ⟨m,⟨2,f,t,x⟩,q⟩) k).1).m),pk (bE d (af (ae ⟨m,⟨2,f,t,x⟩,q⟩) k).1.q),ob (B4 u) #[i6 2,iN f,iN t,iN x] 70,ba a ((af (ae ⟨m,⟨2,f,t,x⟩,q⟩) k).2),ob ((i 8).y 0) #[iN (((((af (ae ⟨m,⟨2,f,t,x⟩,q⟩) k).1).q).headD aG).k),iN (((((af (ae ⟨m,⟨2,f,t,x⟩,q⟩) k).1).q).headD aG).w)] 285] (by(try rw[show(af (ae ⟨m,⟨2,f,t,x⟩,q⟩) k).1.q.tail=(af (ae ⟨m,⟨2,f,t,x⟩,q⟩) k).1.q from uJ (r.resolve_left (λh=>h v))]);kernel_rfl) (r0 [] [(2,a)] [2] (lf (.l [] [] [a]) [0,1,2,4] [] [] (hf:=by rw[p];kernel_rfl)))
  have I:0<(af (ae ⟨m,⟨2,f,t,x⟩,q⟩) k).1.q.length:=by have y:=o;unfold lD at y;split at y<;>omega
  have B:=Dd (s:=(ae ⟨m,⟨2,f,t,x⟩,q⟩)) (k:=k) (by show k<q.length;omega) K v;have z:=uG M;have A:et (aX (af (ae ⟨m,⟨2,f,t,x⟩,q⟩) k).1).m ((af (ae ⟨m,⟨2,f,t,x⟩,q⟩) k).1.q.headD aG):=⟨(rK M I).k⟩;refine cl [ob g #[pt b 0,iN ((aX (af (ae ⟨m,⟨2,f,t,x⟩,q⟩) k).1).j.A),iN ((aX (af (ae ⟨m,⟨2,f,t,x⟩,q⟩) k).1).j.fr),iN ((aX (af (ae ⟨m,⟨2,f,t,x⟩,q⟩) k).1).j.tg),iN ((aX (af (ae ⟨m,⟨2,f,t,x⟩,q⟩) k).1).j.nx),pt d 0] 133,pk (aF b ((af (ae ⟨m,⟨2,f,t,x⟩,q⟩) k).1).m),pk (bE d (((af (ae ⟨m,⟨2,f,t,x⟩,q⟩) k).1).q).tail),ob (B4 u) #[i6 2,iN f,iN t,iN x] 70,ba a ((af (ae ⟨m,⟨2,f,t,x⟩,q⟩) k).2),ob ((i 8).y 0) #[iN (((((af (ae ⟨m,⟨2,f,t,x⟩,q⟩) k).1).q).headD aG).k),iN (((((af (ae ⟨m,⟨2,f,t,x⟩,q⟩) k).1).q).headD aG).w)] 285] (by skip;kernel_rfl) (cl [ob g #[pt b 0,iN ((aX (af (ae ⟨m,⟨2,f,t,x⟩,q⟩) k).1).j.A),iN ((aX (af (ae ⟨m,⟨2,f,t,x⟩,q⟩) k).1).j.fr),iN ((aX (af (ae ⟨m,⟨2,f,t,x⟩,q⟩) k).1).j.tg),iN ((aX (af (ae ⟨m,⟨2,f,t,x⟩,q⟩) k).1).j.nx),pt d 0] 133,pk (aF b (aX (af (ae ⟨m,⟨2,f,t,x⟩,q⟩) k).1).m),pk (bE d (((af (ae ⟨m,⟨2,f,t,x⟩,q⟩) k).1).q).tail),ob (B4 u) #[i6 2,iN f,iN t,iN x] 70,ba a ((af (ae ⟨m,⟨2,f,t,x⟩,q⟩) k).2),ob ((i 8).y 0) #[iN (((((af (ae ⟨m,⟨2,f,t,x⟩,q⟩) k).1).q).headD aG).k),iN (((((af (ae ⟨m,⟨2,f,t,x⟩,q⟩) k).1).q).headD aG).w)] 285] (by skip;kernel_rfl) (cl [ob g #[pt b 0,iN ((aX (af (ae ⟨m,⟨2,f,t,x⟩,q⟩) k).1).j.A),iN ((aX (af (ae ⟨m,⟨2,f,t,x⟩,q⟩) k).1).j.fr),iN ((aX (af (ae ⟨m,⟨2,f,t,x⟩,q⟩) k).1).j.tg),iN ((aX (af (ae ⟨m,⟨2,f,t,x⟩,q⟩) k).1).j.nx),pt d 0] 133,pk (aF b (aX (af (ae ⟨m,⟨2,f,t,x⟩,q⟩) k).1).m),pk (bE d (aX (af (ae ⟨m,⟨2,f,t,x⟩,q⟩) k).1).q),ob (B4 u) #[i6 2,iN f,iN t,iN x] 70,ba a ((af (ae ⟨m,⟨2,f,t,x⟩,q⟩) k).2),ob ((i 8).y 0) #[iN (((((af (ae ⟨m,⟨2,f,t,x⟩,q⟩) k).1).q).headD aG).k),iN (((((af (ae ⟨m,⟨2,f,t,x⟩,q⟩) k).1).q).headD aG).w)] 285] (by skip;kernel_rfl) (r0 [(1,.l 5),(2,.c [0,1,2] [0,1,2] (oI g b d (aX (af (ae ⟨m,⟨2,f,t,x⟩,q⟩) k).1) z ((((af (ae ⟨m,⟨2,f,t,x⟩,q⟩) k).1).q).headD aG) A))] [(58,.bool (!(cX (aX (af (ae ⟨m,⟨2,f,t,x⟩,q⟩) k).1) ((((af (ae ⟨m,⟨2,f,t,x⟩,q⟩) k).1).q).headD aG))))] [] ?_)));refine cB (!(cX (aX (af (ae ⟨m,⟨2,f,t,x⟩,q⟩) k).1) ((((af (ae ⟨m,⟨2,f,t,x⟩,q⟩) k).1).q).headD aG))) (λG=>?_) λG=>?_
  ·exact rr (λe=>[(2,.l 5),(3,.c [0,1,2] [0,1,2,6] (xY g b d (aX (af (ae ⟨m,⟨2,f,t,x⟩,q⟩) k).1) z ((((af (ae ⟨m,⟨2,f,t,x⟩,q⟩) k).1).q).headD aG) A)),(4,.m (lQ 4 6 iP.hT (a) ((e 3).val 0) (xs:=(af (ae ⟨m,⟨2,f,t,x⟩,q⟩) k).2) (ys:=fh (aX (af (ae ⟨m,⟨2,f,t,x⟩,q⟩) k).1) ((((af (ae ⟨m,⟨2,f,t,x⟩,q⟩) k).1).q).headD aG)) (ba ((e 3).val 0) (fh (aX (af (ae ⟨m,⟨2,f,t,x⟩,q⟩) k).1) ((((af (ae ⟨m,⟨2,f,t,x⟩,q⟩) k).1).q).headD aG))) (λ_ h=>ar.src ((λ_ h=>h) _ h)) iP.one iP.lz (by simp only[LL,uH];omega)))]) (λe=>[(4,(e 4).val 0)]) [4] (λe L=>(((L.set 0 (ob g #[pt b 0,iN ((cM (aX (af (ae ⟨m,⟨2,f,t,x⟩,q⟩) k).1) ((((af (ae ⟨m,⟨2,f,t,x⟩,q⟩) k).1).q).headD aG)).j.A),iN ((cM (aX (af (ae ⟨m,⟨2,f,t,x⟩,q⟩) k).1) ((((af (ae ⟨m,⟨2,f,t,x⟩,q⟩) k).1).q).headD aG)).j.fr),iN ((cM (aX (af (ae ⟨m,⟨2,f,t,x⟩,q⟩) k).1) ((((af (ae ⟨m,⟨2,f,t,x⟩,q⟩) k).1).q).headD aG)).j.tg),iN ((cM (aX (af (ae ⟨m,⟨2,f,t,x⟩,q⟩) k).1) ((((af (ae ⟨m,⟨2,f,t,x⟩,q⟩) k).1).q).headD aG)).j.nx),pt d 0] 133)).set 1 ((pk (aF b (cM (aX (af (ae ⟨m,⟨2,f,t,x⟩,q⟩) k).1) ((((af (ae ⟨m,⟨2,f,t,x⟩,q⟩) k).1).q).headD aG)).m)))).set 2 ((pk (bE d (cM (aX (af (ae ⟨m,⟨2,f,t,x⟩,q⟩) k).1) ((((af (ae ⟨m,⟨2,f,t,x⟩,q⟩) k).1).q).headD aG)).q)))).set 4 (ba ((e 4).val 0) (((af (ae ⟨m,⟨2,f,t,x⟩,q⟩) k).2)++(fh (aX (af (ae ⟨m,⟨2,f,t,x⟩,q⟩) k).1) ((((af (ae ⟨m,⟨2,f,t,x⟩,q⟩) k).1).q).headD aG))))++[ba ((e 3).val 0) (fh (aX (af (ae ⟨m,⟨2,f,t,x⟩,q⟩) k).1) ((((af (ae ⟨m,⟨2,f,t,x⟩,q⟩) k).1).q).headD aG))]) λe=>kY (k+1) ((e 4).val 0) ⟨by omega,B⟩ Om Kr [0,1,2,3,4] (by(rw[Db (s:=(ae ⟨m,⟨2,f,t,x⟩,q⟩)) (k:=k) (by simpa using ‹(!cX (aX (af (ae ⟨m,⟨2,f,t,x⟩,q⟩) k).1) ((af (ae ⟨m,⟨2,f,t,x⟩,q⟩) k).1.q.headD aG))=true›)]);kernel_rfl)
  exact kY (k+1) a ⟨by omega,B⟩ Om Kr [0,1,2,3,4] (by(rw[Da (s:=(ae ⟨m,⟨2,f,t,x⟩,q⟩)) (k:=k) (by simpa using ‹(!cX (aX (af (ae ⟨m,⟨2,f,t,x⟩,q⟩) k).1) ((af (ae ⟨m,⟨2,f,t,x⟩,q⟩) k).1.q.headD aG))=false›)]);kernel_rfl)
 refine kZ ?_;have r:((af (ae ⟨m,⟨2,f,t,x⟩,q⟩) k).1.j.A≠0)∨(af (ae ⟨m,⟨2,f,t,x⟩,q⟩) k).1.q.length=0:=by(left;simpa using H)
 have p:cv ⟨m,⟨2,f,t,x⟩,q⟩=(af (ae ⟨m,⟨2,f,t,x⟩,q⟩) k):=by show eu q.length (ae ⟨m,⟨2,f,t,x⟩,q⟩)=_;rw[K];rcases r with h | h;exact uK h _;rw[show q.length-k=0 by omega];rfl
 exact cl [ob g #[pt b 0,iN ((af (ae ⟨m,⟨2,f,t,x⟩,q⟩) k).1.j.A),iN ((af (ae ⟨m,⟨2,f,t,x⟩,q⟩) k).1.j.fr),iN ((af (ae ⟨m,⟨2,f,t,x⟩,q⟩) k).1.j.tg),iN ((af (ae ⟨m,⟨2,f,t,x⟩,q⟩) k).1.j.nx),pt d 0] 133,pk (aF b ((af (ae ⟨m,⟨2,f,t,x⟩,q⟩) k).1).m),pk (bE d (af (ae ⟨m,⟨2,f,t,x⟩,q⟩) k).1.q),ob (B4 u) #[i6 2,iN f,iN t,iN x] 70,ba a ((af (ae ⟨m,⟨2,f,t,x⟩,q⟩) k).2)] (by(try rw[show(af (ae ⟨m,⟨2,f,t,x⟩,q⟩) k).1.q.tail=(af (ae ⟨m,⟨2,f,t,x⟩,q⟩) k).1.q from uJ (r.resolve_left (λh=>h v))]);kernel_rfl) (r0 [] [(2,a)] [2] (lf (.l [] [] [a]) [0,1,2,4] [] [] (hf:=by rw[p];kernel_rfl)))
theorem Oo(g a b:Nat)(r:Rp)(d:aT r)(e:r.j.A≠0):aa VA 212 #[pt g 0] [pk (aq g a b r)] [0] (λE=>[pk (aq g a b (cv r).1),ba (E.val 0) (cv r).2]) (λE=>E.val 0):=by
 obtain⟨m,⟨i,f,t,x⟩,q⟩:=r;rcases d.j.k with h | ⟨c,h⟩ | ⟨c,h⟩
 ·cases h;exact absurd rfl e
 ·cases c;exact Ol g a b m f t x q d h
 ·cases c;exact On g a b m f t x q d h
theorem Oq(g a b:Nat)(r:Rp)(d:aT r)(c:r.j.A≠0):aa VA 212 #[pt g 0] (pK g a b r) [0,1,2] (λE=>pK g a b (cv r).1++[ba (E.val 0) (cv r).2]) (λE=>E.val 0):=(Oo g a b r d c).unpk (N:=λE=>[ba (E.val 0) (cv r).2])
theorem bz{r:Rp}(a:r.j.A≠0):((r.j.A:Int)==0)=false:=by rw[dP];omega
theorem Ot(g a b:Nat)(r:Rp)(d:aT r)(h:r.j.A≠0)(t:r.j.nx<gh r.j.A r.m.B r.m.M r.m.C)(p:kA r.m (bk r).j=true):aa VA 165 #[pt g 0] [pk (aq g a b r)] [0] (λE=>[pk (aq g a b (cv (bk r)).1),ba (E.val 0) ((cv (bk r)).2)]) (λE=> .tuple #[(E.val 0),i6 0]):=aa.pkW (n:=1) (N:=λE=>[ba (E.val 0) ((cv (bk r)).2)]) (enters_of Tryz.func165 Kr rfl) λL o=>by
 obtain⟨rfl⟩:=o;refine⟨[0,1,2],λ_=>[ob g #[pt a 0,iN ((cv (bk r)).1.j.A),iN ((cv (bk r)).1.j.fr),iN ((cv (bk r)).1.j.tg),iN ((cv (bk r)).1.j.nx),pt b 0] 133,pk (aF a (cv (bk r)).1.m),pk (bE b (cv (bk r)).1.q)],?_,rfl,λE=>⟨rfl,rfl,rfl⟩⟩;have f:=d.m;have B:=d.j;have y:=d.n;have A:=f.Q;have u:=f.ly;have v:=f.np;have i:r.j.A=1∨r.j.A=2:=C7 d h;have x:r.j.nx≤4096:=C8 d;refine fG Tryz.func165 λw z=>r0 [] [(2,.slice none 0 0),(3,i6 0)] [] (r0 [(1,.c [0,1,2] [1,2] (mi g a b r))] [(6,.bool (!((r.j.A:Int) != 0)))] [] ?_);have k:(!((r.j.A:Int) != 0))=false:=by(rw[bne,bz h];rfl)
 exact cF (!((r.j.A:Int) != 0)) k (rs [(4,.l 0),(5,ad r.j.nx 1),(9,.s 0)] 0 (ob g #[pt a 0,iN r.j.A,iN r.j.fr,iN r.j.tg,iN (r.j.nx+1),pt b 0] 133) (rF [(3,.l 0),(7,.l 0),(8,.c [1] [1] (iL a r.m f)),(9,.c [] [] (aa.v ((C2 r.m f r.j.A r.j.fr r.j.tg (r.j.nx+1) i)) λ_=>ALca Value.bool (show(kA r.m ⟨r.j.A,r.j.fr,r.j.tg,(r.j.nx+1)⟩)=true from(by exact p))))] 26 (cl [ob g #[pt a 0,iN ((bk r).j.A),iN ((bk r).j.fr),iN ((bk r).j.tg),iN ((bk r).j.nx),pt b 0] 133,pk (aF a r.m),pk (bE b r.q)] (by skip;kernel_rfl) (cl [ob g #[pt a 0,iN ((bk r).j.A),iN ((bk r).j.fr),iN ((bk r).j.tg),iN ((bk r).j.nx),pt b 0] 133,pk (aF a (bk r).m),pk (bE b r.q)] (by skip;kernel_rfl) (cl [ob g #[pt a 0,iN ((bk r).j.A),iN ((bk r).j.fr),iN ((bk r).j.tg),iN ((bk r).j.nx),pt b 0] 133,pk (aF a (bk r).m),pk (bE b (bk r).q)] (by skip;kernel_rfl) (rr (λ_=>[(1,.c [0,1,2] [0,1,2,3] (Oq g a b (bk r) (rJ d h t) h))]) (λe=>[(2,(e 1).val 0),(3,i6 0)]) [2,3] (λe L=>((L.set 0 (ob g #[pt a 0,iN ((cv (bk r)).1.j.A),iN ((cv (bk r)).1.j.fr),iN ((cv (bk r)).1.j.tg),iN ((cv (bk r)).1.j.nx),pt b 0] 133)).set 1 ((pk (aF a (cv (bk r)).1.m)))).set 2 ((pk (bE b (cv (bk r)).1.q)))++[ba ((e 1).val 0) ((cv (bk r)).2)]) λe=>lf (.l [] [] [((e 1).val 0),(e 1).val 0]) [0,1,2,3] [] []))))))
theorem Ou(g a b:Nat)(r:Rp)(e:aT r)(h:r.j.A≠0)(x:r.j.nx<gh r.j.A r.m.B r.m.M r.m.C)(m:kA r.m (bk r).j=false):aa VA 165 #[pt g 0] [pk (aq g a b r)] [0] (λE=>[pk (aq g a b (bk r)),ba (E.val 0) ([])]) (λE=> .tuple #[(E.val 0),i6 0]):=aa.pkW (n:=1) (N:=λE=>[ba (E.val 0) ([])]) (enters_of Tryz.func165 Kr rfl) λL k=>by
 obtain⟨rfl⟩:=k;refine⟨[0,1,2],λ_=>[ob g #[pt a 0,iN r.j.A,iN r.j.fr,iN r.j.tg,iN (r.j.nx+1),pt b 0] 133,pk (aF a r.m),pk (bE b r.q)],?_,rfl,λE=>⟨rfl,rfl,rfl⟩⟩;have d:=e.m;have y:=e.j;have t:=e.n;have v:=d.Q;have o:=d.ly;have p:=d.np;have f:r.j.A=1∨r.j.A=2:=C7 e h;have q:r.j.nx≤4096:=C8 e;refine fG Tryz.func165 λw u=>r0 [] [(2,.slice none 0 0),(3,i6 0)] [] (r0 [(1,.c [0,1,2] [1,2] (mi g a b r))] [(6,.bool (!((r.j.A:Int) != 0)))] [] ?_);have i:(!((r.j.A:Int) != 0))=false:=by(rw[bne,bz h];rfl)
 exact cF (!((r.j.A:Int) != 0)) i (rs [(4,.l 0),(5,ad r.j.nx 1),(9,.s 0)] 0 (ob g #[pt a 0,iN r.j.A,iN r.j.fr,iN r.j.tg,iN (r.j.nx+1),pt b 0] 133) (rT [(3,.l 0),(7,.l 0),(8,.c [1] [1] (iL a r.m d)),(9,.c [] [] (aa.v ((C2 r.m d r.j.A r.j.fr r.j.tg (r.j.nx+1) f)) λ_=>ALca Value.bool (show(kA r.m ⟨r.j.A,r.j.fr,r.j.tg,(r.j.nx+1)⟩)=false from(by exact m))))] 26 (r0 [] [(2,.slice none 0 0),(3,i6 0)] [2,3] (cz iP (lf (.l [] [] [.slice none 0 0]) [0,1,2,3] [] [])))))
theorem Ov(g a b:Nat)(r:Rp)(f:aT r)(c:r.j.A≠0)(e:r.j.nx<gh r.j.A r.m.B r.m.M r.m.C):aa VA 165 #[pt g 0] [pk (aq g a b r)] [0] (λE=>[pk (aq g a b (eA r).1),ba (E.val 0) (eA r).2]) (λE=> .tuple #[E.val 0,i6 0]):=by
 unfold eA;cases d:kA r.m (bk r).j with
 | true=>exact Ot g a b r f c e d
 | false=>exact Ou g a b r f c e d
end
section
open Go.Shelf
theorem Ow(a b:Nat):decide ((a:Int)<(b:Int))=decide (a<b):=by
 by_cases h:a<b
 ·rw[cx h,cx Om]
 ·rw[bh h,bh Om]
structure Bk where
 l:Nat
 a:Nat
deriving DecidableEq
def bg:Bk:=⟨0,0⟩
def xZ(x:Bk):List Value:=[iN x.l,iN x.a]
def kC:Kd VA Bk:=⟨xZ,[i6 0,i6 0],292,290,bg,2,λ_=>rfl,rfl,λ_=>rfl,dU.mk' Kr Kr rfl⟩
abbrev j9(v:Value)(xs:List Bk):aB:= .p (ar xZ ([i6 0,i6 0]) 290 v xs)
structure iq (lim ev:Nat):Prop where
 l1:1≤lim
 l2:lim≤65536
 e1:1≤ev
 e2:ev≤65536
structure eS (ev:Nat) (l a:Nat):Prop where
 l:l≤65536
 a:a<ev
def jM(n a b:Int):Bool:=decide (a≤n)&&decide (n≤b)
def gM(l e:Int):Bool:=jM l 1 65536&&jM e 1 65536
theorem De{l e:Int}(h:gM l e=true): ∃a b:Nat,l=a∧e=b∧iq a b:=by
 unfold gM jM at h;simp only[VI,decide_eq_true_eq] at h;exact⟨l.toNat,e.toNat,by omega,by omega,by omega,by omega,by omega,by omega⟩
theorem iq.r{a b:Nat}(h:iq a b):gM a b=true:=by
 have:=h.l1;have:=h.l2;have:=h.e1;have:=h.e2;unfold gM jM;simp only[VI,decide_eq_true_eq];omega
def cp(l n:Nat):Nat:=l+min n (65536-l)
def cN(a l n:Nat):Bool:=decide (l<a)&&decide (a≤cp l n)
def g8(ev l a:Nat):Nat:=if 1<ev-a then l else l-1
def g9(ev l a:Nat):Nat:=if 1<ev-a then a+1 else 0
theorem Df{ev l a n:Nat}(h:eS ev l a):eS ev (cp l n) a:=⟨by have:=h.l;unfold cp;omega,h.a⟩
theorem Dg{ev l a:Nat}(h:eS ev l a):eS ev (g8 ev l a) (g9 ev l a):=by
 have:=h.l;have:=h.a;unfold g8 g9
 constructor<;>split<;>omega
end
section
open Go.Shelf
theorem uM(n a b:Int):aa VA 174 #[i6 n,i6 a,i6 b] [] [] N0 (λ_=> .bool (jM n a b)):=by
 exact fG Tryz.func174 λw c=>r0 [] [(6,.bool false)] [] (r0 [] [(6,.bool ((decide (a≤n))&&(decide (n≤b))))] [6] (ak (.bool ((decide (a≤n))&&(decide (n≤b)))) ab.zero Vm [] [] []))
theorem x8(l e:Int):aa VA 136 #[.agg #[i6 l,i6 e]] [] [] N0 (λ_=> .bool (gM l e)):=by
 exact fG Tryz.func136 λw b=>ra (λa=>[(1,pt (B0 a) 0),(2,.bool false)]) (λa=>[ob (B0 a) #[i6 l,i6 e] 27]) λa=>r0 [(1,.l 0),(2,.c [] [] (uM l 1 65536)),(5,.l 0),(6,.c [] [] (uM e 1 65536))] [(2,.bool ((jM l 1 65536)&&(jM e 1 65536)))] [2] (ak (.bool ((jM l 1 65536)&&(jM e 1 65536))) ab.zero Vm [] [] [])
theorem Ox(a b:Nat)(h:iq a b):aa VA 136 #[.agg #[iN a,iN b]] [] [] N0 (λ_=> .bool true):=by
 have c:=x8 a b;rwa [h.r] at c
theorem Dh(d b l a:Nat)(f:iq d b)(g:eS b l a):aa VA 260 #[.agg #[iN l,iN a],.agg #[iN d,iN b]] [] [] N0 (λ_=> .bool true):=by
 have i:=g.l;have j:=g.a;have k:=f.e2;exact fG Tryz.func260 λw h=>ra (λe=>[(2,pt (B0 e) 0),(3,pt (B1 e) 0),(4,.bool false)]) (λe=>[ob (B0 e) #[iN l,iN a] 290,ob (B1 e) #[iN d,iN b] 27]) λe=>r0 [(0,.m (ls 1 ([iN d,iN b]))),(1,.c [] [] (Ox d b f)),(4,.m (ld 0 (iN l))),(5,.c [] [] (uM (l:Int) 0 65536)),(9,.m (ld 0 (iN a))),(11,.m (ld 1 (iN b))),(12,sI (b:Int) (1) Om),(13,.c [] [] (uM (a:Int) 0 ((b:Int)-1)))] [(4,.bool ((jM (l:Int) 0 65536)&&(jM (a:Int) 0 ((b:Int)-1))))] [4] (ak (.bool ((jM (l:Int) 0 65536)&&(jM (a:Int) 0 ((b:Int)-1)))) ab.zero (by exact ALca Value.bool (by unfold jM;simp only[VI,decide_eq_true_eq];omega)) [] [] [])
theorem Di(d f l a n:Nat)(g:iq d f)(i:eS f l a)(o:n≤65536):aa VA 237 #[.agg #[iN l,iN a],.agg #[iN d,iN f],iN n] [] [] N0 (λ_=> .tuple #[.agg #[iN (cp l n),iN a],.bool (cN d l n)]):=by
 have k:=i.l;have h:=g.l2;refine fG Tryz.func237 λw j=>ra (λe=>[(3,pt (B0 e) 0),(4,pt (B1 e) 0),(6,pt (B2 e) 0),(7,.bool false)]) (λe=>[ob (B0 e) #[iN l,iN a] 290,ob (B1 e) #[iN d,iN f] 27,ob (B2 e) #[i6 0,i6 0] 290]) λe=>r0 [(0,.l 0),(1,.l 1),(2,.c [] [] (Dh d f l a g i))] [(16,.bool (decide ((n:Int)<0)))] [] ?_;have h:(decide ((n:Int)<0))=false:=by exact bh Om
 exact cF (decide ((n:Int)<0)) h (r0 [(1,.l 0)] [(8,iN l)] [] (rs [(1,.l 0),(4,.l 0),(5,sI 65536 ((l:Int)) Om),(6,.t (tv (Builtin.min_ #[3,3] 3 #[iN n,i6 (65536-(l:Int))]) (λ_=>Ha _ _ _ _))),(7,.t (tv (av .add 3 (.tmp 21) (.tmp 26) (iN l) (i6 (min (n:Int) (65536-(l:Int))))) (λ_=>dF (b:=((cp l n:Nat):Int)) (p6 Om Om) (by unfold cp;omega)))),(9,.s 0)] 0 (ob (B0 e) #[iN (cp l n),iN a] 290) (rr (λ_=>[(0,.m (ls 0 ([iN (cp l n),iN a]))),(3,.m (ld 1 (iN d))),(7,.m (ld 0 (iN (cp l n)))),(9,.m (ld 1 (iN d))),(12,.s 2)]) (λ_=>[(7,.bool ((decide ((l:Int)<(d:Int)))&&(decide ((d:Int)≤((cp l n:Nat):Int)))))]) [7] (λ_ L=>L.set 2 (ob (B2 e) #[iN (cp l n),iN a] 290)) λp=>ak (.tuple #[.agg #[iN (cp l n),iN a],.bool ((decide ((l:Int)<(d:Int)))&&(decide ((d:Int)≤((cp l n:Nat):Int))))]) ab.zero (by unfold cN;rw[←xL,←Ow]) [] [] [2])))
theorem Oy(g e l a:Nat)(h:iq g e)(j:eS e l a):aa VA 244 #[.agg #[iN l,iN a],.agg #[iN g,iN e],i6 1] [] [] N0 (λ_=> .agg #[iN (g8 e l a),iN (g9 e l a)]):=by
 have o:=j.l;have p:=j.a;have q:=h.e2;have r:=h.e1;refine fG Tryz.func244 λw n=>ra (λf=>[(3,pt (B0 f) 0),(4,pt (B1 f) 0),(6,pt (B2 f) 0)]) (λf=>[ob (B0 f) #[iN l,iN a] 290,ob (B1 f) #[iN g,iN e] 27,ob (B2 f) #[i6 0,i6 0] 290]) λf=>rF [(0,.l 0),(1,.l 1),(2,.c [] [] (Dh g e l a h j))] 15 (r0 [(1,.l 1),(3,.l 0),(4,.t (tb (a:=iN e) (b:=iN a) λ_ _ _ _=>k4 (a:=e) (b:=a) Om Om))] [(7,iN (e-a))] [] (r0 [] [(24,.bool (decide (1<((e-a:Nat):Int))))] [] ?_));refine b0 1 ((e-a:Nat):Int) (λk i=>?_) λk i=>?_
 ·exact rr (λ_=>[(1,.l 0),(3,ad a 1),(5,.s 0)]) N0 [] (λ_ L=>L.set 0 (ob (B0 f) #[iN l,iN (a+1)] 290)) λu=>rs [(0,.l 0),(1,.s 2)] 2 (ob (B2 f) #[iN l,iN (a+1)] 290) (ak (.agg #[iN l,iN (a+1)]) ab.zero (by unfold g8 g9;(rw[ALifp (show 1<e-a by omega),ALifp (show 1<e-a by omega)])) [] [] [2])
 exact r0 [(2,.t (tv (av .sub 3 (.tmp 31) (.tmp 32) (i6 1) (iN (e-a))) (λ_=>dF (b:=0) (p7 Om Om) Om)))] [(2,i6 0)] [2] (rs [(2,.l 1),(3,.t (tv (av .rem 3 (.tmp 34) (.tmp 36) (i6 0) (iN e)) (λ_=>dF (b:=0) (nu (a:=0) (d:=e) Om) (by simp)))),(5,.s 0)] 0 (ob (B0 f) #[iN l,i6 0] 290) (rs [(1,.m (ld 0 (iN l))),(2,sI (l:Int) (1) Om),(5,.m (ld 1 (iN e))),(6,.t (tv (av .quo 3 (.tmp 42) (.tmp 44) (i6 0) (iN e)) (λ_=>dF (b:=0) (og (a:=0) (d:=e) Om Om) (by simp)))),(8,sI ((l:Int)-1) (0) Om),(9,.t (tv (Builtin.max_ #[3,3] 3 #[i6 0,i6 (((l:Int)-1)-0)]) (λ_=>qu _ _ _ _))),(11,.s 0)] 0 (ob (B0 f) #[i6 (max 0 (((l:Int)-1)-0)),i6 0] 290) (rs [(0,.l 0),(1,.s 2)] 2 (ob (B2 f) #[i6 (max 0 (((l:Int)-1)-0)),i6 0] 290) (ak (.agg #[i6 (max 0 (((l:Int)-1)-0)),i6 0]) ab.zero (by unfold g8 g9;(rw[ALifn (show ¬1<e-a by omega),ALifn (show ¬1<e-a by omega)];exact ALca (λz:Int=>Value.agg #[i6 z,i6 0]) Om)) [] [] [2]))))
theorem Dj(d b l a:Nat)(f:iq d b)(g:eS b l a):aa VA 208 #[.agg #[iN l,iN a],.agg #[iN d,iN b]] [] [] N0 (λ_=> .agg #[iN (g8 b l a),iN (g9 b l a)]):=by
 exact fG Tryz.func208 λw h=>ra (λe=>[(2,pt (B0 e) 0),(3,pt (B1 e) 0),(4,pt (B2 e) 0)]) (λe=>[ob (B0 e) #[iN l,iN a] 290,ob (B1 e) #[iN d,iN b] 27,ob (B2 e) #[i6 0,i6 0] 290]) λe=>rs [(0,.l 0),(1,.l 1),(2,.c [] [] (Oy d b l a f g)),(3,.s 2)] 2 (ob (B2 e) #[iN (g8 b l a),iN (g9 b l a)] 290) (lf ab.zero [] [] [2])
end
section
open Go.Shelf
structure Re where
 s:Nat
 t:Nat
 k:Nat
 i:Nat
 o:Nat
deriving DecidableEq
def br:Re:=⟨0,0,0,0,0⟩
def mj(x:Re):List Value:=[iN x.s,iN x.t,iN x.k,iN x.i,iN x.o]
def gN:Kd VA Re:=⟨mj,[i6 0,i6 0,i6 0,i6 0,i6 0],41,59,br,5,λ_=>rfl,rfl,λ_=>rfl,dU.mk' Kr Kr rfl⟩
abbrev gw(v:Value)(xs:List Re):aB:= .p (ar mj ([i6 0,i6 0,i6 0,i6 0,i6 0]) 59 v xs)
def aU{α:Type}(p:α→Bool):List α→Nat
 | []=>0
 | x::xs=>bif p x then 0 else aU p xs+1
def hP{α:Type}(p:α→Bool)(xs:List α):Int:=if aU p xs=xs.length then -1 else(aU p xs:Int)
theorem nO{α:Type}(p:α→Bool): ∀xs:List α,aU p xs≤xs.length
 | []=>VU _
 | x::xs=>by
  unfold aU;cases p x with
  | true=>exact V9 _
  | false=>exact Nat.succ_le_succ (nO p xs)
theorem Dk{α:Type}{p:α→Bool}{d:α}: ∀{xs:List α},(∀j,j<xs.length→p (xs.getD j d)=false)→aU p xs=xs.length
 | [],_=>rfl
 | x::xs,h=>by
  unfold aU;rw[show p x=false from h 0 (WG _),ALcf,Dk (d:=d) λj a=>h (j+1) (WT a)];rfl
theorem Dl{α:Type}{p:α→Bool}{d:α}: ∀{xs:List α} {k:Nat},k<xs.length→(∀j,j<k→p (xs.getD j d)=false)→p (xs.getD k d)=true→aU p xs=k
 | [],k,b,_,_=>by cases b
 | x::xs,0,_,_,a=>by
  unfold aU;rw[show p x=true from a];rfl
 | x::xs,k+1,b,h,a=>by
  unfold aU;rw[show p x=false from h 0 (WG _),ALcf,Dl (d:=d) (Nat.lt_of_succ_lt_succ b) (λj c=>h (j+1) (WT c)) a]
theorem Dm{α:Type}{p:α→Bool}{d:α}{xs:List α}(h: ∀j,j<xs.length→p (xs.getD j d)=false):hP p xs= -1:=by unfold hP;rw[ALifp (Dk h)]
theorem Dn{α:Type}{p:α→Bool}{d:α}{xs:List α}{k:Nat}(a:k<xs.length)(h: ∀j,j<k→p (xs.getD j d)=false)(h1:p (xs.getD k d)=true):hP p xs=(k:Int):=by
 unfold hP;rw[Dl a h h1,ALifn Om]
def cq(x:Re):Bool:= !((x.k:Int)==2)
structure Lg where
 l:List Re
 I:Nat
 next:Nat
 lost:Bool
structure fI (g:Lg):Prop where
 l:g.l.length≤g.I
 r1:1≤g.I
 r:g.I≤256
 n:g.next≤1000000000
abbrev aA(g:Nat)(c:Lg)(L:ah):Prop:=∃v:Value,L=[ob g #[v,iN c.I,iN c.next,.bool c.lost] 124,gw v c.l]
def iQ(x:Re)(n:Nat):Re:={x with s:=n}
def bP(c:Lg)(x:Re):Lg:=
 if c.l.length=c.I then
  (if cq x=true∨aU cq c.l=c.l.length then{c with next:=c.next+1,lost:=true}
   else{c with l:=c.l.eraseIdx (aU cq c.l)++[iQ x c.next],next:=c.next+1,lost:=true})
 else{c with l:=c.l++[iQ x c.next],next:=c.next+1}
def Dp(c:Lg)(x:Re):Bool:= !(decide (c.l.length=c.I)&&(cq x||decide (aU cq c.l=c.l.length)))
def mn(c:Lg):Lg:={c with l:=[],lost:=false}
def oJ(room:Nat):Lg:=⟨[],room,1,false⟩
end
section
open Go.Shelf
theorem uN(x:Re):aa VA 19 #[.agg #[iN x.s,iN x.t,iN x.k,iN x.i,iN x.o]] [] [] N0 (λ_=> .bool ((x.k:Int)==2)):=by
 exact fG Tryz.func19 λw cs=>ra (λa=>[(1,pt (B0 a) 0),(2,.bool false)]) (λa=>[ob (B0 a) #[iN x.s,iN x.t,iN x.k,iN x.i,iN x.o] 59]) λa=>r0 [(1,.l 0)] [(2,.bool ((x.k:Int)==2))] [2] (lf ab.zero [] [] [])
theorem Oz(x:Re):aa VA 277 #[.agg #[iN x.s,iN x.t,iN x.k,iN x.i,iN x.o]] [] [] N0 (λ_=> .bool (cq x)):=by
 exact fG Tryz.func277 λw cs=>ra (λa=>[(1,pt (B0 a) 0),(2,.bool false)]) (λa=>[ob (B0 a) #[iN x.s,iN x.t,iN x.k,iN x.i,iN x.o] 59]) λa=>r0 [(0,.l 0),(1,.c [] [] (uN x))] [(2,.bool (!((x.k:Int)==2)))] [2] (ak (.bool (!((x.k:Int)==2))) ab.zero Vm [] [] [])
theorem OA(v:Value)(xs:List Re)(l:xs.length≤1000000):aa VA 276 #[v,.func (.func 277) #[] #[]] [.p (aH mj v xs)] [] N0 (λ_=>i6 (hP cq xs)):=by
 refine fO Tryz.func276 0 rfl λe a=>fG Tryz.func276 λw cs=>r0 [] [(4,i6 0)] [] (r0 [(1,eD a.1 0)] [(7,iN xs.length),(8,i6 0)] [] ?_);refine lq (λk=>k≤xs.length∧(∀j,j<k→cq (xs.getD j br)=false)) (λk=>[(8,iN k)]) (λ_ L=>L) (λk=>xs.length-k) 0 ⟨by omega,(λ_ h=>absurd h (We _))⟩ Kr Kr (λk ⟨i,d⟩=>?_);refine r0 [] [(9,.bool (decide ((k:Int)<(xs.length:Int))))] [] ?_;refine b0 (k:Int) (xs.length:Int) (λf b=>?_) λf b=>?_
 ·refine r0 [] [(5,iN k)] [] (r0 [(3,fa a.1 0 k 5),(4,mQ gN a.1 0 k 0 5),(5,.c [] [] (Oz (xs.getD k br)))] [(16,.bool (cq (xs.getD k br)))] [] ?_);refine cB (cq (xs.getD k br)) (λg=>?_) λg=>?_
  ·exact r0 [] [(4,iN k)] [] (ak (iN k) ab.zero (by(rw[Dn Om d As];done)) [] [(0,0)] [])
  exact r0 [(0,ad k 1)] [(8,iN (k+1))] [8] (le (k+1) ⟨by omega,xP d As⟩ Om Kr [0] Kr)
 obtain rfl:xs.length=k:=by omega
 exact lx (r0 [] [(4,i6 (-1))] [] (ak (i6 (-1)) ab.zero (by(rw[Dm d];done)) [] [(0,0)] []))
theorem Dq(g:Nat)(c:Lg):aa VA 20 #[pt g 0] [pk (aA g c)] [0] (λ_=>[pk (aA g c)]) (λ_=>iN c.l.length):=aa.pkZ Tryz.func20 λL a=>by
 obtain⟨v,rfl⟩:=a;refine⟨[1],λ_=>[gw v c.l],?_,rfl,λE=>⟨rfl,rfl,⟨_,rfl⟩⟩⟩;exact fG Tryz.func20 λw cs=>r0 [] [(2,i6 0)] [] (r0 [(3,.l 0),(4,e8 gN v c.l 1)] [(2,iN c.l.length)] [2] (lf ab.zero [1] [(0,0)] []))
theorem OB(g:Nat)(c:Lg):aa VA 15 #[pt g 0] [pk (aA g c)] [0] (λ_=>[pk (aA g c)]) (λ_=>iN c.next):=aa.pkZ Tryz.func15 λL a=>by
 obtain⟨v,rfl⟩:=a;refine⟨[1],λ_=>[gw v c.l],?_,rfl,λE=>⟨rfl,rfl,⟨_,rfl⟩⟩⟩;exact fG Tryz.func15 λw cs=>r0 [] [(2,i6 0)] [] (r0 [(3,.l 0)] [(2,iN c.next)] [2] (lf ab.zero [1] [(0,0)] []))
theorem OD(g:Nat)(c:Lg):aa VA 21 #[pt g 0] [pk (aA g c)] [0] (λ_=>[pk (aA g c)]) (λ_=> .bool c.lost):=aa.pkZ Tryz.func21 λL a=>by
 obtain⟨v,rfl⟩:=a;refine⟨[1],λ_=>[gw v c.l],?_,rfl,λE=>⟨rfl,rfl,⟨_,rfl⟩⟩⟩;exact fG Tryz.func21 λw cs=>r0 [] [(2,.bool false)] [] (r0 [(3,.l 0)] [(2,.bool c.lost)] [2] (lf ab.zero [1] [(0,0)] []))
theorem x9(g:Nat)(v:Value)(l:List Re)(room next:Nat)(lost:Bool)(d:l.length≤1000000):aa VA 258 #[pt g 0] [ob g #[v,iN room,iN next,.bool lost] 124,.p (aH mj v l)] [] N0 (λ_=>i6 (hP cq l)):=by
 exact fO Tryz.func258 1 rfl λa b=>fG Tryz.func258 λw cs=>r0 [] [(2,i6 0)] [] (r0 [(3,.l 0),(4,.c [1] [] (aa.at (rd':=[.c a]) (OA v l Om) (ei b (λ_ h=>h))))] [(2,i6 (hP cq l))] [2] (lf ab.zero [] [(0,0),(1,1)] []))
theorem OE(g:Nat)(v:Value)(l:List Re)(room next:Nat)(lost:Bool)(b:l.length≤1000000)(h:aU cq l<l.length):aa VA 258 #[pt g 0] [ob g #[v,iN room,iN next,.bool lost] 124,.p (aH mj v l)] [] N0 (λ_=>iN (aU cq l)):=by
 have a:=x9 g v l room next lost b
 unfold hP at a;rwa [ALifn Om] at a
theorem OF(g:Nat)(v:Value)(l:List Re)(room next:Nat)(lost:Bool)(b:l.length≤1000000)(h:aU cq l=l.length):aa VA 258 #[pt g 0] [ob g #[v,iN room,iN next,.bool lost] 124,.p (aH mj v l)] [] N0 (λ_=>i6 (-1)):=by
 have a:=x9 g v l room next lost b
 unfold hP at a;rwa [ALifp h] at a
theorem OG(room:Nat)(h1:1≤room)(h2:room≤256):aa VA 139 #[iN room] [] [] (λE=>[ob (E.y 0) #[.slice none 0 0,iN room,i6 1,.bool false] 124]) (λE=> .tuple #[pt ((E.y 0)) 0,i6 0]):=by
 refine fG Tryz.func139 λw cs=>r0 [] [(2,.pointer none),(3,i6 0)] [] (r0 [] [(9,.bool ((decide ((room:Int)<1))||(decide (256<(room:Int)))))] [] ?_);have b:((decide ((room:Int)<1))||(decide (256<(room:Int))))=false:=by rw[VK];exact⟨bh Om,bh Om⟩
 exact cF ((decide ((room:Int)<1))||(decide (256<(room:Int)))) b (rr N0 (λa=>[(2,pt (B2 a) 0),(3,i6 0)]) [2,3] (λa L=>L++[ob (B2 a) #[.slice none 0 0,iN room,i6 1,.bool false] 124]) λa=>lf (.l [(a 2).y 0] [] []) [0] [] [])
theorem ya{α:Type}{en:α→List Value}{z:List Value}{T:TypeId}{S:ah→Prop}{L:ah}{ds:List aw}(b:S (L++[.p (ar en z T (.slice none 0 0) ([]:List α))]))(h:bl L ds): ∃a,bl [pk S] a∧a.flatten=ds.flatten:=
 ⟨[ds.flatten],⟨⟨_,ds++[[]],b,jU h ⟨ar.nil none,trivial⟩,by simp⟩,trivial⟩,by simp⟩
theorem OH(room:Nat)(h1:1≤room)(h2:room≤256):aa VA 139 #[iN room] [] [] (λE=>[pk (aA (E.y 0) (oJ room))]) (λE=> .tuple #[pt (E.y 0) 0,i6 0]):=(OG room h1 h2).outs λE b a=>ya ⟨_,rfl⟩ a
theorem OI(g:Nat)(c:Lg):aa VA 167 #[pt g 0] [pk (aA g c)] [0] (λ_=>[pk (aA g (mn c))]) (λ_=>iN c.l.length):=aa.pkZ Tryz.func167 λL a=>by
 obtain⟨v,rfl⟩:=a;refine⟨[0,1],λ_=>[ob g #[.slice none 0 0,iN c.I,iN c.next,.bool false] 124,gw (.slice none 0 0) ([])],?_,rfl,λE=>⟨rfl,rfl,⟨_,rfl⟩⟩⟩;exact fG Tryz.func167 λw cs=>r0 [] [(2,i6 0)] [] (r0 [(3,.l 0),(4,e8 gN v c.l 1)] [(3,iN c.l.length)] [] (rs [(4,.s 0),(7,.s 0)] 0 (ob g #[.slice none 0 0,iN c.I,iN c.next,.bool false] 124) (r0 [] [(2,iN c.l.length)] [2] (cz gN (lf ab.zero [0,2] [] [])))))
end
section
open Go.Shelf Go.Lib
theorem Dt{P:Program}{p:Array Oper}{o:Oper}{a:Act}{w:World}{K:Act→World→Prop}{Q:Exit→Act→World→Prop}{E:Prop}
  (B:o.guard=none) (s x:Operand) (t:TypeId) (v:o.op=Op.call {callee:=Callee.builtin Builtin.append,args:=#[s,x],argTypes:=#[t,t]})
  (e:TypeId) (i:TypeInfo) (b:Nat) (h1:P.underlying t=some (.slice e)) (h2:P.info? e=some i) (z:i.size=b)
  (g n f:Nat) (d:Array Value) (r:w.heap[g]? =some (.cells d e (0,0))) (hs:a.eval s= .slice (some ⟨g,0,none⟩) n f)
  (ad:Addr) (m c:Nat) (news:List Value) (F:a.eval x= .slice (some ad) m c) (C:news.length=m*b) (A: ∀j u,news[j]? =some u→w.cell? (ad.add j)=some u) (q: ∀u∈news,u.oneCell'=true)
  (h:n+m≤f) (k:n*b+news.length≤d.size)
  (y:K (a.put o.dst (.slice (some ⟨g,0,none⟩) (n+m) f)) (w.setRow g (d.toList.take (n*b)++news++d.toList.drop (n*b+news.length)).toArray)):
  if Region.wanted o (yielded p a.tmps)=true then Oper.wp P o a w K Q else E:=by
 have D:Region.wanted o (yielded p a.tmps)=true:=by simp [Region.wanted,B]
 rw[ALifp D];subst z;have l:=run_append_room (P:=P) w t o.type e i h1 h2 g n f d r ad m c news C A q h k;unfold Oper.wp;simp [execOp,v,resolve,invoke,builtin,hs,F,l,Result.andThen];rw[VX] at y;exact y
theorem Du{P:Program}{T' e y t:TypeId}{z:List Value}{w:World}{g off m c:Nat}{cs:Array Value}(p:dU P T' e z)(q:w.heap[g]? =some (.cells cs t (0,0)))(B:0<m)(A:off+m*z.length≤cs.size)(h1: ∀u∈z,u.oneCell'=true):
  (Builtin.clear_ #[T'] y #[.slice (some ⟨g,off,none⟩) m c]).run P w= .ok (.tuple #[]) (w.setRow g (cs.toList.take off++(VD m z).flatten++cs.toList.drop (off+m*z.length)).toArray):=by
 obtain⟨v,⟨i,n,s,x,C,b,r⟩,o⟩:=p;have j:0<n.cells.size:=by rw[←Array.length_toList,b];exact o
 have h:(zeroValue e).run P w= .ok n w:=by simp [zeroValue,typeInfo,s,x]
 have d:=qk z m;have a:=run_storeCells_at P g off t (VD m z).flatten 0 cs w q (by rw[d];omega) (λu f=>by
  obtain⟨l,d,f⟩:=List.mem_flatten.1 f;rw[List.eq_of_mem_replicate d] at f;exact h1 u f)
 simp only[Nat.add_zero] at a;obtain⟨m,rfl⟩: ∃k,m=k+1:=⟨m-1,by omega⟩;rw[d] at a;simp [Builtin.clear_,run_underlying v,h,wc _ _ j,b,a]
set_option maxRecDepth 1000000 in
set_option maxHeartbeats 1000000 in
theorem OJ(g n b i j:Nat)(w:World)(S:i<j)(R:j≤n)(H:n≤b)(a:Array Value)(x:w.heap[g]? =some (.cells a 59 (0,0)))(news:List Value)(d:news.length=(n-(j))*5)(m: ∀u∈news,u.oneCell'=true)(o: ∀t u,news[t]? =some u→w.cell? ⟨g,(j)*5+t,none⟩=some u)(k:i*5+news.length≤a.size)(C:n*5≤a.size):Calls VA 259 #[.slice (some ⟨g,0,none⟩) n b,.int .i64 (i:Int),.int .i64 (j:Int)] w λe w'=>e= .returned (.slice (some ⟨g,0,none⟩) (n-(j-i)) b)∧w'=(w.drew.setRow g (a.toList.take (i*5)++news++a.toList.drop (i*5+news.length)).toArray).setRow g ((a.toList.take (i*5)++news++a.toList.drop (i*5+news.length)).toArray.toList.take ((i+(n-j))*5)++(VD (n-(i+(n-j))) gN.z).flatten++(a.toList.take (i*5)++news++a.toList.drop (i*5+news.length)).toArray.toList.drop ((i+(n-j))*5+(n-(i+(n-j)))*5)).toArray:=by
 have F:Tryz.prog.follows .mixedOrders=true:=by kernel_rfl
 have P:i≤b:=by omega
 have Q:j≤b:=by omega
 obtain⟨V,Z,B,T,D,U,N⟩:=gN.hT.hi;obtain⟨A,hA,s⟩: ∃A:Addr,(if b=j then some (⟨g,0,none⟩:Addr) else some ⟨g,(j)*5,none⟩)=some A∧Hid (∀t u,news[t]? =some u→w.drew.cell? (A.add t)=some u):=by
  by_cases h:b=j
  ·refine⟨⟨g,0,none⟩,by simp [h],λt u v=>?_⟩;have K:news.length=0:=by rw[d];omega
   rw[List.length_eq_zero_iff.1 K] at v;simp at v
  ·exact⟨⟨g,(j)*5,none⟩,by simp [h],λt u v=>by rw[Addr.add_lit];exact o t u v⟩
 have W:Hid (news.length=(n-(j))*5):=d;have X:Hid (∀u∈news,u.oneCell'=true):=m;have Y:Hid (i*5+news.length≤a.size):=k;have I:Hid (w.drew.heap[g]? =some (.cells a 59 (0,0))):=x;obtain⟨p,q⟩: ∃p,p=w.drew.setRow g (a.toList.take (i*5)++news++a.toList.drop (i*5+news.length)).toArray:=⟨_,rfl⟩;have G:Hid (p=w.drew.setRow g (a.toList.take (i*5)++news++a.toList.drop (i*5+news.length)).toArray):=q;obtain⟨c,f⟩: ∃c,c=(a.toList.take (i*5)++news++a.toList.drop (i*5+news.length)).toArray:=⟨_,rfl⟩;have y:c.size=a.size:=by
  rw[f];simp only[WN,VF,VG,VM,Array.length_toList];omega
 have l:p.heap[g]? =some (.cells c 59 (0,0)):=by rw[q,←f];exact setRow_heap _ g a _ _ _ I.out
 obtain⟨z,r⟩: ∃z,z=p.setRow g (c.toList.take ((i+(n-j))*5)++(VD (n-(i+(n-j))) gN.z).flatten++c.toList.drop ((i+(n-j))*5+(n-(i+(n-j)))*5)).toArray:=⟨_,rfl⟩;have O: ∀J,(Builtin.clear_ #[41] J #[.slice (some ⟨g,(i+(n-j))*5,none⟩) (n-(i+(n-j))) (b-(i+(n-j)))]).run VA p= .ok (.tuple #[]) z:=λJ=>by
  rw[r];exact Du gN.hT l Om (by show _+_*5≤_;rw[y];omega) (λu v=>by
   simp only[gN,WV,Ww,or_false] at v;rcases v with rfl | rfl | rfl | rfl | rfl<;>rfl)
 have L:Hid (z=p.setRow g (c.toList.take ((i+(n-j))*5)++(VD (n-(i+(n-j))) gN.z).flatten++c.toList.drop ((i+(n-j))*5+(n-(i+(n-j)))*5)).toArray):=r;have M:Hid (c=(a.toList.take (i*5)++news++a.toList.drop (i*5+news.length)).toArray):=f;clear q o d m k x r l y f
 go_enter Tryz.func259,Tryz.ntmps259
 go_wp2_with fail
 go_region_law_o (refine Dt rfl (.tmp 22) (.tmp 25) 41 rfl 59 V 5 gN.hT.ht B D g i b a I.out (by simp [Act.eval,Act.put]) A (n-(j)) (b-(j)) news (by simp [Act.eval,Act.put]) W.out s.out X.out Om Y.out ?_;rw[←G.out])
 go_wp2
 go_ret
 refine⟨by rw[show n-(j-i)=i+(n-j) by omega];rfl,?_⟩;rw[L.out,G.out,M.out]
theorem OK(A B C Z a:List Value)(h:B.length=a.length):
  ((A++(B++(C++Z))).take A.length++C++(A++(B++(C++Z))).drop (A.length+C.length)).take (A.length+C.length)++a++((A++(B++(C++Z))).take A.length++C++(A++(B++(C++Z))).drop (A.length+C.length)).drop (A.length+C.length+a.length)=A++C++(a++Z):=by
 have b:(A++(B++(C++Z))).take A.length=A:=List.take_left;have c:(A++(B++(C++Z))).drop (A.length+C.length)=(B++C).drop C.length++Z:=by
  rw[List.drop_append,List.drop_eq_nil_of_le Om,List.nil_append,Nat.add_sub_cancel_left,←VX B,List.drop_append_of_le_length (by rw[VF];omega)]
 have d:((B++C).drop C.length).length=a.length:=by rw[VM,VF];omega
 rw[b,c];have e:(A++C++((B++C).drop C.length++Z)).take (A.length+C.length)=A++C:=Wy (by rw[VF]);have f:(A++C++((B++C).drop C.length++Z)).drop (A.length+C.length+a.length)=Z:=by
  rw[←VX (A++C)];exact Wz (by rw[VF,VF,d])
 rw[e,f,VX (A++C)]
theorem Dw{P:Program}{f:FuncId}{α:Type}(K:Kd P α){v:Value}{xs:List α}{i:Nat}(N:Enters P f)(C:i<xs.length)
  (o: ∀(g k:Nat) (w:World) (a:Array Value) (news:List Value),xs.length≤k→w.heap[g]? =some (.cells a K.T (0,0))→news.length=(xs.length-(i+1))*K.k→(∀u∈news,u.oneCell'=true)→(∀t u,news[t]? =some u→w.cell? ⟨g,(i+1)*K.k+t,none⟩=some u)→i*K.k+news.length≤a.size→xs.length*K.k≤a.size→
   Calls P f #[.slice (some ⟨g,0,none⟩) xs.length k,.int .i64 (i:Int),.int .i64 ((i+1:Nat):Int)] w λe w'=>e= .returned (.slice (some ⟨g,0,none⟩) (xs.length-(i+1-i)) k)∧w'=(w.drew.setRow g (a.toList.take (i*K.k)++news++a.toList.drop (i*K.k+news.length)).toArray).setRow g ((a.toList.take (i*K.k)++news++a.toList.drop (i*K.k+news.length)).toArray.toList.take ((i+(xs.length-(i+1)))*K.k)++(VD (xs.length-(i+(xs.length-(i+1)))) K.z).flatten++(a.toList.take (i*K.k)++news++a.toList.drop (i*K.k+news.length)).toArray.toList.drop ((i+(xs.length-(i+1)))*K.k+(xs.length-(i+(xs.length-(i+1))))*K.k)).toArray):
  aa P f #[v,.int .i64 (i:Int),.int .i64 ((i+1:Nat):Int)] [sl K v xs] [0] (λE=>[sl K (E.val 0) (xs.eraseIdx i)]) (λE=>E.val 0):=by
 refine⟨N,λw cs R Q=>?_⟩;obtain⟨bs,cs,rfl,y,l⟩:=cD R;have l:=mJ l;subst l;obtain⟨g,r,rfl,rfl⟩: ∃g r,v= .slice (some ⟨g,0,none⟩) xs.length (xs.length+r)∧bs=[(g,.cells (bB (aj K.en xs) K.z r) K.T (0,0))]:=by
  rcases y with⟨rfl,_,_⟩ | h
  ·cases C
  ·exact h
 have m:w.heap[g]? =some (.cells (bB (aj K.en xs) K.z r) K.T (0,0)):=Q.obj (g,_) (by simp);have F:=K.hz
 have hA:(aj K.en (xs.take i)).length=i*K.k:=fy K.hk (by rw[VG];omega);have hC:(aj K.en (xs.drop (i+1))).length=(xs.length-(i+1))*K.k:=fy K.hk (by rw[VM]);have hB:(K.en xs[i]).length=K.z.length:=(K.hk _).trans F;have j:(bB (aj K.en xs) K.z r).toList=aj K.en (xs.take i)++(K.en xs[i]++(aj K.en (xs.drop (i+1))++(VD r K.z).flatten)):=by
  have e:xs=xs.take i++(xs[i]::xs.drop (i+1)):=by rw[←Wf C,List.take_append_drop]
  have A:aj K.en xs=aj K.en (xs.take i)++(K.en xs[i]++aj K.en (xs.drop (i+1))):=by
   conv=>lhs;rw[e]
   rw[jV];rfl
  unfold bB;show aj K.en xs++_=_;rw[A,VX,VX]
 have G:(xs.length-(i+1))*K.k+i*K.k+K.k=xs.length*K.k:=by
  have:xs.length=(xs.length-(i+1))+i+1:=by omega
  conv=>rhs;rw[this]
  rw[V0,V0,WK]
 have s:(bB (aj K.en xs) K.z r).size=xs.length*K.k+r*K.k:=by
  rw[←Array.length_toList];unfold bB;rw[VF,fy K.hk rfl,qk,←F]
 have B:=o g (xs.length+r) w (bB (aj K.en xs) K.z r) (aj K.en (xs.drop (i+1))) Om m hC (Ab K.one) (λt u H=>by
  have M:(bB (aj K.en xs) K.z r).toList[(i+1)*K.k+t]? =some u:=by
   rw[j,VR (by rw[hA,V0];omega),hA,VR (by rw[K.hk,V0];omega),K.hk,show(i+1)*K.k+t-i*K.k-K.k=t by rw[V0];omega];have D:=(List.getElem?_eq_some_iff.1 H).1;rw[VO D];exact H
  rw[cell_of_row w g _ _ _ _ m,←Array.getElem?_toList];exact M) (by rw[hC,s];omega) (by rw[s];omega)
 refine(callsIn_wide (n:=6)).1 ((callsIn_wide.2 B).mono λe w' O=>?_);obtain⟨rfl,rfl⟩:=O;have q:(xs.eraseIdx i).length=xs.length-1:=by rw[List.length_eraseIdx,ALifp C]
 have p:(((bB (aj K.en xs) K.z r).toList.take (i*K.k)++aj K.en (xs.drop (i+1))++(bB (aj K.en xs) K.z r).toList.drop (i*K.k+(aj K.en (xs.drop (i+1))).length)).toArray.toList.take ((i+(xs.length-(i+1)))*K.k)++(VD (xs.length-(i+(xs.length-(i+1)))) K.z).flatten++((bB (aj K.en xs) K.z r).toList.take (i*K.k)++aj K.en (xs.drop (i+1))++(bB (aj K.en xs) K.z r).toList.drop (i*K.k+(aj K.en (xs.drop (i+1))).length)).toArray.toList.drop ((i+(xs.length-(i+1)))*K.k+(xs.length-(i+(xs.length-(i+1))))*K.k)).toArray=bB (aj K.en (xs.eraseIdx i)) K.z (r+1):=by
  have J:xs.length-(i+(xs.length-(i+1)))=1:=by omega
  have A:(i+(xs.length-(i+1)))*K.k=(aj K.en (xs.take i)).length+(aj K.en (xs.drop (i+1))).length:=by rw[hA,hC,V0]
  have L:(VD 1 K.z).flatten=K.z:=by simp
  rw[J,A,←hA,j,WK,L,F,List.toList_toArray,OK _ _ _ _ _ hB];unfold bB;rw[List.eraseIdx_eq_take_drop_succ,jV,Wo,VW]
 rw[p];refine⟨ab.ov _,[[(g,.cells (bB (aj K.en (xs.eraseIdx i)) K.z (r+1)) K.T (0,0))]],rfl,⟨.inr ⟨g,r+1,?_,rfl⟩,trivial⟩,?_⟩
 ·show Value.slice _ _ _=_;rw[q,show xs.length-(i+1-i)=xs.length-1 by omega,show xs.length-1+(r+1)=xs.length+r by omega]
 ·have c:=a6.setRow (W:=w.drew) ((bB (aj K.en xs) K.z r).toList.take (i*K.k)++aj K.en (xs.drop (i+1))++(bB (aj K.en xs) K.z r).toList.drop (i*K.k+(aj K.en (xs.drop (i+1))).length)).toArray m;have d:=a6.setRow (bB (aj K.en (xs.eraseIdx i)) K.z (r+1)) (c.obj _ (List.mem_singleton.2 rfl));exact⟨d.os.trans c.os,d.tape.trans c.tape,d.output.trans c.output,VT c.size d.size,by simpa using d.obj,λx I=>by simp at I;left;simp [I],by simp,λb y z=>by
   have z:b∉[g]:=by simpa using z
   exact(d.far b (Nat.lt_of_lt_of_le y c.size) z).trans (c.far b y z)⟩
theorem OL(v:Value)(xs:List Re)(i:Nat)(k:i<xs.length):aa VA 259 #[v,iN i,iN (i+1)] [gw v xs] [0] (λE=>[gw (E.val 0) (xs.eraseIdx i)]) (λE=>E.val 0):=
 Dw gN (enters_of Tryz.func259 Kr rfl) k λg f w h e b j m l d c a=>OJ g xs.length f i (i+1) w (Nat.lt_succ_self i) k b h j e m l d c a
end
end E
end Go.Proofs.YtbcodenfkijdnaaGreat
