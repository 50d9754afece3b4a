/- WholeLater, in 7 texts: part 3. For every input; no condition. -/
import Derived.Test.YtbcodenfkijdnaaGreatPl2
import Derived.WideShapes
import Derived.OpenShut
import Derived.WideOpen
import Derived.Deep.Slices
import Derived.IntWalk
import Derived.WalkKit
import Derived.Deep.RegionLaw
import Derived.Deep.LoopGhost
import Derived.Lib.SliceRun
import Derived.Lib.Walk
import Derived.Shelf.RegionOpenPlain
import Derived.Laws.AppendOwn
set_option linter.unusedVariables false
set_option linter.unusedSimpArgs false
set_option maxRecDepth 100000
namespace Go.Proofs.YtbcodenfkijdnaaGreat
open Go Go.RowKit
open Go.Proofs.Tryz renaming prog→WJ
open List renaming getD_eq_getElem?_getD→WK,range→WL,replicate→WM,getElem?_eq_getElem→WN,length_append→WO,length_take→WQ,length_map→WR,length_drop→WY,length_range→WZ,getElem?_append_left→W4,getElem?_append_right→W5,getElem?_eq_none→W6,length_set→W9,flatten_cons→Xa,append_assoc→Xc,length_replicate→Xe,getElem?_set→Xg,flatten_append→Xh,getElem?_take_of_lt→Xi,range_succ→Xk,getElem?_drop→Xl,getElem?_cons_succ→Xm,getElem?_map→Xo,length_tail→Xq,mem_cons_of_mem→Xr,append_nil→Xu,mem_cons_self→Xw,drop_eq_getElem_cons→Xx,ext_getElem?→Xy,getElem?_cons_zero→Xz,length_cons→XA,map_append→XC,drop_drop→XE,getElem?_range→XF,replicate_succ→XG,take_add_one→XJ,foldl_append→XK,not_mem_nil→XM,take_left'→XQ,drop_left'→XR,range'→XS,flatMap_singleton→XV,mem_append_left→XX,drop_replicate→X0,flatMap_append→X1,getElem_of_mem→X2,size_toArray→X5,range'_succ→X6,flatten_nil→X7,foldl_cons→X8,mem_cons→Ye
open Bool renaming and_eq_true→WS,or_eq_false_iff→WV,and_true→Yf,or_false→Yg
open Nat renaming mul_comm→WT,mod_lt→WU,mul_le_mul_right→WW,mul_assoc→WX,le_trans→W7,le_refl→W8,div_lt_of_lt_mul→Xb,add_mul→Xf,zero_add→Xj,lt_of_le_of_lt→Xn,zero_le→Xp,mod_eq_of_lt→Xs,not_lt_zero→Xv,le_mul_of_pos_right→XB,lt_or_ge→XD,mul_le_mul→XH,xor_lt_two_pow→XI,zero_mul→XN,and_le_right→XP,add_mul_mod_self_right→XU,le_mul_of_pos_left→XW,add_mul_div_right→XY,succ_pos→XZ,one_mul→X3,le_add_right→X9,div_eq_of_lt→Ya,succ_lt_succ→Yb,div_le_self→Yc,div_add_mod→Yd,mul_succ→Yi,succ_mul→Yj,add_comm→Yk
open Int renaming toNat_of_nonneg→Xd,natCast_mul→XT
open Option renaming map_some→XL
open Go.World renaming cells?_some→X4,cell?→Yh
namespace E
section
open Go.Shelf
def kI:Kd WJ Int:=⟨eI,[i6 0],74,3,0,1,λ_=>rfl,rfl,λ_=>rfl,dX.mk' Kr Kr rfl⟩
def jK(l:List Int):Int:=l.foldl max 0
def jF(l:List Int):Int:=l.foldl (λa k=>a+fo (k==1)) 0
theorem CV{l:List Int}{k:Nat}(h:k<l.length):l.take (k+1)=l.take k++[l.getD k 0]:=by
 rw[XJ,WN h,WK,WN h];rfl
theorem MO(l:List Int)(x:Int):jK (l++[x])=max (jK l) x:=by unfold jK;rw[XK];rfl
theorem MP(l:List Int)(x:Int):jF (l++[x])=jF l+fo (x==1):=by unfold jF;rw[XK];rfl
theorem CW(b:Bool):0≤fo b∧fo b≤1:=by cases b<;>decide
theorem CX(l:List Int):0≤jF l∧jF l≤l.length:=by
 suffices h: ∀(l:List Int) (a:Int),a≤l.foldl (λa k=>a+fo (k==1)) a∧l.foldl (λa k=>a+fo (k==1)) a≤a+l.length by
  have:=h l 0;unfold jF;omega
 intro l
 induction l with
 | nil=>intro a;simp
 | cons x l ih=>
  intro a;have b:=ih (a+fo (x==1));have c:=CW (x==1);rw[X8,XA];push_cast;omega
theorem MQ{l:List Int}{k:Nat}(h:k<l.length):jK (l.take (k+1))=max (jK (l.take k)) (l.getD k 0):=by rw[CV h,MO]
theorem MR{l:List Int}{k:Nat}(h:k<l.length):jF (l.take (k+1))=jF (l.take k)+fo (l.getD k 0==1):=by rw[CV h,MP]
attribute [local irreducible] jK jF fo
def jh(a:List Int):Int:=(bif (jK a) != 1 then 0 else(jF a))
theorem CY(v:Value)(a:List Int)(u:a.length≤1000):aa WJ 152 #[v] [.p (aG eI v a)] [] N0 (λ_=> .agg #[i6 (jK a),i6 (jh a)]):=by
 refine fO Tryz.func152 0 rfl λg e=>fG Tryz.func152 λw r=>ra (λf=>[(2,pt (B0 f) 0)]) (λf=>[ob (B0 f) #[i6 0,i6 0] 79]) λf=>ra (λb=>[(3,pt (B0 b) 0)]) (λb=>[ob (B0 b) #[i6 0,i6 0] 79]) λb=>r0 [(1,du e.1 0)] [(6,v),(7,iN a.length),(8,i6 0)] [] ?_;refine lq (λk=>k≤a.length) (λk=>[(8,iN k)]) (λk L=>L.set 2 (ob (B0 b) #[i6 (jK (a.take k)),i6 (jF (a.take k))] 79)) (λk=>a.length-k) 0 Om Kr (by rw[List.take_zero,show jK []=0 by unfold jK;rfl,show jF []=0 by unfold jF;rfl];kernel_rfl) (λk q=>?_);have m:=CX (a.take k);have n:(a.take k).length≤k:=by rw[WQ];omega
 have o:=CW (a.getD k 0==1);refine r0 [] [(9,.bool (decide ((k:Int)<(a.length:Int))))] [] ?_;refine bW (k:Int) (a.length:Int) (λj i=>?_) λj i=>?_
 ·exact r0 [(0,eU e.1 0 k 1),(1,iG kI e.1 0 k 0)] [(5,i6 (a.getD k 0))] [] (rs [(1,.l 2),(3,.t (tv (Builtin.max_ #[3,3] 3 #[i6 (jK (a.take k)),i6 (a.getD k 0)]) (λ_=>qR _ _ _ _))),(5,.s 2)] 2 (ob (B0 b) #[i6 (max (jK (a.take k)) (a.getD k 0)),i6 (jF (a.take k))] 79) (rs [(1,.l 2),(4,.c [] [] (CP ((a.getD k 0)==1))),(5,aI (jF (a.take k)) ((fo ((a.getD k 0)==1))) Om),(7,.s 2)] 2 (ob (B0 b) #[i6 (max (jK (a.take k)) (a.getD k 0)),i6 ((jF (a.take k))+(fo ((a.getD k 0)==1)))] 79) (r0 [(0,ad k 1)] [(8,iN (k+1))] [8] (le (k+1) Om Om Kr [0,1,2] (by rw[MQ Om,MR Om];kernel_rfl)))))
 obtain rfl:k=a.length:=by omega
 refine cl [.c g,ob (B0 f) #[i6 0,i6 0] 79,ob (B0 b) #[i6 (jK a),i6 (jF a)] 79] (by rw[List.take_length];kernel_rfl) (lx (r0 [(1,.l 2)] [(27,.bool ((jK a) != 1))] [] ?_));refine cJ ((jK a) != 1) N0 (λc=>[.c g,ob (B0 f) #[i6 0,i6 0] 79,ob (B0 b) #[i6 (jK a),i6 (bif c then 0 else(jF a))] 79]) (λd=>?_) (λd=>?_) ?_
 ·have h:=bne_iff_ne.1 d;refine rs [(1,.s 2)] 2 (ob (B0 b) #[i6 (jK a),i6 0] 79) ?_;exact cm Kr [0,1,2] Kr
 ·have h:=A2 d;exact cm Kr [0,1,2] Kr
 exact rs [(0,.l 2),(1,.s 1)] 1 (ob (B0 f) #[i6 (jK a),i6 (bif (jK a) != 1 then 0 else(jF a))] 79) (lf ab.zero [] [(0,0)] [1])
def iJ(h:List UInt8)(k:Nat):List UInt8:=h.take (32*k)++WM (64-32*k) 0
theorem MS{h:List UInt8}(a:h.length=64){k:Nat}(b:k≤2):(iJ h k).length=64:=by unfold iJ;rw[WO,WQ,Xe,a];omega
theorem MT(h:List UInt8):iJ h 0=WM 64 0:=rfl
theorem MU{h:List UInt8}(a:h.length=64):iJ h 2=h:=by unfold iJ;rw[List.take_of_length_le Om,show 64-32*2=0 from rfl,List.replicate_zero,Xu]
theorem MV{h:List UInt8}(b:h.length=64){k:Nat}(c:k<2):(iJ h k).take (32*k)++(h.drop (k*32)).take 32++(iJ h k).drop (32*k+32)=iJ h (k+1):=by
 unfold iJ;have a:(h.take (32*k)).length=32*k:=by rw[WQ];omega
 rw[XQ a,←XE,XR a,X0,WT k 32,←List.take_add,show 32*k+32=32*(k+1) by omega,show 64-32*k-32=64-32*(k+1) by omega]
attribute [local irreducible] iJ
theorem MW(h:List UInt8)(a:h.length=64):aa WJ 198 #[.agg (rB 64 h).toArray] [] [] N0 (λ_=> .agg (rB 64 h).toArray):=by
 refine fG Tryz.func198 λw p=>ra (λb=>[(1,pt (B0 b) 0),(2,pt (B1 b) 0)]) (λb=>[ob (B0 b) (rB 64 h).toArray 324,ob (B1 b) (rB 64 z6).toArray 43]) λb=>ra (λc=>[(3,pt (B0 c) 0)]) (λc=>[ob (B0 c) (rB 64 z6).toArray 43]) λc=>r0 [(0,.l 0)] [(6,.agg (rB 64 h).toArray),(7,i6 0)] [] ?_;refine lq (λk=>k≤2) (λk=>[(7,iN k)]) (λk L=>L.set 2 (ob (B0 c) (rB 64 (iJ h k)).toArray 43)) (λk=>2-k) 0 Om Kr (by rw[MT];kernel_rfl) (λk j=>?_);have g:=MS a j;refine r0 [] [(8,.bool (decide ((k:Int)<2)))] [] ?_;refine bW (k:Int) 2 (λo i=>?_) λo i=>?_
 ·exact rr (λ_=>[(1,.t (tv (Instr.index 324 (.agg (rB 64 h).toArray) (iN k)) (λ_=>Io (n:=2) (m:=32) (N:=64) (e:=267) Kr (λ_=>rfl) Om rfl a))),(4,.s 3)]) (λf=>[(5,pt (B2 f) 0),(4,iN k)]) [] (λf L=>L++[ob (B2 f) (rB 32 ((h.drop (k*32)).take 32)).toArray 267]) λf=>rs [(1,ml 32 k),(2,aL 43 (B0 c) 64 1 (32*k)),(3,aS 267 (B2 f) 32 1),(4,.m (uv kB 2 (B0 c) ((32*k)*1) (64-(32*k)) (64-(32*k)) (rB 64 (iJ h k)).toArray (rB 64 ((iJ h k).take (32*k)++((h.drop (k*32)).take 32)++(iJ h k).drop ((32*k)+32))).toArray 43 191 191 3 (ob (B2 f) (rB 32 ((h.drop (k*32)).take 32)).toArray 267) (.slice (some ⟨(f 2).y 0,0,none⟩) 32 32) ((h.drop (k*32)).take 32) (λ_ h=>by rw[show _=_ from h];exact oR (λ_=>rfl) (by rw[WQ,WY,a];omega)) (by rw[(show((h.drop (k*32)).take 32).length=32 from(by rw[WQ,WY,a];omega))];omega) (by rw[X5,ku];rw[(show((h.drop (k*32)).take 32).length=32 from(by rw[WQ,WY,a];omega))];omega) (by rw[Nat.mul_one];exact ALca List.toArray (qQ (d:=0) (λ_=>rfl) (show(iJ h k).length=64 by(simp only[LL,g,a];done)) (show((h.drop (k*32)).take 32).length=32 from(by rw[WQ,WY,a];omega)) Om))))] 2 (ob (B0 c) (rB 64 ((iJ h k).take (32*k)++((h.drop (k*32)).take 32)++(iJ h k).drop ((32*k)+32))).toArray 43) (r0 [(0,ad k 1)] [(7,iN (k+1))] [7] (le (k+1) Om Om Kr [0,1,2] (by rw[←MV a Om];kernel_rfl)))
 obtain rfl:k=2:=by omega
 exact cl [ob (B0 b) (rB 64 h).toArray 324,ob (B1 b) (rB 64 z6).toArray 43,ob (B0 c) (rB 64 h).toArray 43] (by rw[MU a];kernel_rfl) (lx (rs [(0,.l 2),(1,.s 1)] 1 (ob (B1 b) (rB 64 h).toArray 43) (lf ab.zero [] [] [1])))
theorem CZ(ys:List UInt8): ∀k,k≤8→Wv (ys.take 8) 0 k=Wv ys 0 k
 | 0,_=>rfl
 | k+1,h=>by
  rw[ya,ya,CZ ys k Om];rw[show(ys.take 8).getD k 0=ys.getD k 0 by rw[WK,WK,Xi Om]]
theorem MX(v:Value)(ys:List UInt8)(a:8≤ys.length):aa WJ 228 #[gT v 0 8 1] [.p (aG eB v ys)] [] N0 (λ_=> .int .u64 ((Wv ys 0 8:Nat):Int)):=by
 rw[←CZ ys 8 (W8 _)];exact aa.at (MB (gT v 0 8 1) (ys.take 8) (by rw[WQ];omega)) (bL (λ_ h=>aG.take (en:=eB) (k:=1) (λ_=>rfl) h a) λ_ h=>h)
attribute [local irreducible] dy dm bP gA Wv gX a4
def yd:List Int:=[-1,64,65, -1,66, -1, -1,0,67, -1, -1,1, -1,2,3, -1,68, -1, -1,4, -1,5,6, -1, -1,7,8, -1,9, -1, -1,56,69, -1, -1,10, -1,11,12, -1, -1,13,14, -1,15, -1, -1,57, -1,16,17, -1,18, -1, -1,58,19, -1, -1,59, -1,60,61, -1,70, -1, -1,20, -1,21,22, -1, -1,23,24, -1,25, -1, -1,62, -1,26,27, -1,28, -1, -1,63,29, -1, -1,72, -1,73, -1, -1, -1,30,31, -1,32, -1, -1, -1,33, -1, -1, -1, -1, -1, -1, -1,34, -1, -1, -1, -1, -1, -1, -1, -1, -1, -1, -1, -1, -1, -1, -1,71, -1, -1,35, -1,36,37, -1, -1,38,39, -1,40, -1, -1, -1, -1,41,42, -1,43, -1, -1, -1,44, -1, -1, -1, -1, -1, -1, -1, -1,45,46, -1,47, -1, -1, -1,48, -1, -1, -1, -1, -1, -1, -1,49, -1, -1, -1, -1, -1, -1, -1, -1, -1, -1, -1, -1, -1, -1, -1, -1,50,51, -1,52, -1, -1, -1,53, -1, -1, -1, -1, -1, -1, -1,54, -1, -1, -1, -1, -1, -1, -1, -1, -1, -1, -1, -1, -1, -1, -1,55, -1, -1, -1, -1, -1, -1, -1, -1, -1, -1, -1, -1, -1, -1, -1, -1, -1, -1, -1, -1, -1, -1, -1, -1, -1, -1, -1, -1, -1, -1, -1]
theorem MY:bR 10=yd:=by decide+kernel
theorem hp: ∀k:UInt8,(dy k (bR 10)==1)=true→0≤dm k (bR 10):=by
 have h: ∀n:Nat,n<256→(dy (UInt8.ofNat n) yd==1)=true→0≤dm (UInt8.ofNat n) yd:=by decide+kernel
 intro k;have:=h k.toNat k.toNat_lt;rw[MY];rwa [UInt8.ofNat_toNat] at this
theorem mH(x:Int)(b:Bool):(dF x b).length=3:=by cases b<;>rfl
theorem MZ{b:Bool}{X Y:List UInt8}(a:X.length=36)(c:Y.length=36):(bif b then X.drop 4 else Y.drop 4).length=32:=by cases b<;>simp [a,c]
theorem ye{d v:List UInt8}(a:d.length=36):(gX d v).length=32:=by unfold gX;exact MZ (by rw[W9];exact a) a
attribute [local irreducible] bI bR c8 aT aW dF fm cU eO
def ky(ys:List UInt8)(x:Int):Int:=(bif (dy ((bP (Wv ys 0 8) ((pc ((x%8388608).toNat)%2:Nat):Int) 0 (bI 10))^^^(ys.getD 8 0)) (bR 10))==0 then 0 else(bif (dy ((bP (Wv ys 0 8) ((pc ((x%8388608).toNat)%2:Nat):Int) 0 (bI 10))^^^(ys.getD 8 0)) (bR 10))==1 then 1 else(bif (dy ((bP (Wv ys 0 8) ((pc ((x%8388608).toNat)%2:Nat):Int) 0 (bI 10))^^^(ys.getD 8 0)) (bR 10))==2 then 2 else 3)))
theorem M1(l i o:Nat)(v:Value)(ys:List UInt8)(n:ys.length=9)(x:Int):aa WJ 195 #[pt l 0,v,i6 x] [ob l #[pt i 0,pt o 0] 242,ob i (rB 74 (bI 10)++rI 256 (bR 10)).toArray 298,.p (aG eB v ys)] [] N0 (λ_=> .tuple #[u6 (((gA (Wv ys 0 8) (ys.getD 8 0) ((pc ((x%8388608).toNat)%2:Nat):Int) (bI 10) (bR 10)):Nat):Int),i6 (ky ys x)]):=by
 refine fO Tryz.func195 2 rfl λd a=>fG Tryz.func195 λw r=>r0 [] [(6,u6 0),(7,i6 0)] [] (rr (λq=>[(3,.m (ld 0 (pt i 0))),(5,.m (BF 2 (.c d) 8 1 (cP a) Om)),(6,.c [2] [] (aa.at (rd':=[.c d]) (MX v ys Om) (ec a (λ_ h=>h)))),(8,eU a.1 2 8 1),(9,iG kB a.1 2 8 0),(11,.c [] [] (uJ x)),(12,.c [1] [] (Mj i (Wv ys 0 8) (ys.getD 8 0) ((pc ((x%8388608).toNat)%2:Nat):Int) (bI 10) (bR 10) (rH ys 0 (W8 8)) (by(simp only[LL,jI,jJ,n];done)) (by(simp only[LL,jI,jJ,n];done)) hp)),]) (λ_=>[(8,u6 (((gA (Wv ys 0 8) (ys.getD 8 0) ((pc ((x%8388608).toNat)%2:Nat):Int) (bI 10) (bR 10)):Nat):Int)),(9,i6 (dy ((bP (Wv ys 0 8) ((pc ((x%8388608).toNat)%2:Nat):Int) 0 (bI 10))^^^(ys.getD 8 0)) (bR 10)))]) [] (λ_ L=>L) λq=>r0 [] [(28,i6 (dy ((bP (Wv ys 0 8) ((pc ((x%8388608).toNat)%2:Nat):Int) 0 (bI 10))^^^(ys.getD 8 0)) (bR 10)))] [] (r0 [] [(29,.bool ((dy ((bP (Wv ys 0 8) ((pc ((x%8388608).toNat)%2:Nat):Int) 0 (bI 10))^^^(ys.getD 8 0)) (bR 10))==0))] [] ?_));refine cN (dy ((bP (Wv ys 0 8) ((pc ((x%8388608).toNat)%2:Nat):Int) 0 (bI 10))^^^(ys.getD 8 0)) (bR 10)) 0 (λf j=>?_) λf j=>?_
 ·exact r0 [] [(6,u6 (((gA (Wv ys 0 8) (ys.getD 8 0) ((pc ((x%8388608).toNat)%2:Nat):Int) (bI 10) (bR 10)):Nat):Int)),(7,i6 0)] [6,7] (ao (.tuple #[u6 (((gA (Wv ys 0 8) (ys.getD 8 0) ((pc ((x%8388608).toNat)%2:Nat):Int) (bI 10) (bR 10)):Nat):Int),i6 0]) ab.zero (by((try simp only[ky]);(repeat (first | rw[f] | rw[ALct])))<;>rfl) [] [(0,0),(1,1),(2,2)] [])
 refine r0 [] [(32,.bool ((dy ((bP (Wv ys 0 8) ((pc ((x%8388608).toNat)%2:Nat):Int) 0 (bI 10))^^^(ys.getD 8 0)) (bR 10))==1))] [] ?_;refine cN (dy ((bP (Wv ys 0 8) ((pc ((x%8388608).toNat)%2:Nat):Int) 0 (bI 10))^^^(ys.getD 8 0)) (bR 10)) 1 (λg k=>?_) λg k=>?_
 ·exact r0 [] [(6,u6 (((gA (Wv ys 0 8) (ys.getD 8 0) ((pc ((x%8388608).toNat)%2:Nat):Int) (bI 10) (bR 10)):Nat):Int)),(7,i6 1)] [6,7] (ao (.tuple #[u6 (((gA (Wv ys 0 8) (ys.getD 8 0) ((pc ((x%8388608).toNat)%2:Nat):Int) (bI 10) (bR 10)):Nat):Int),i6 1]) ab.zero (by((try simp only[ky]);(repeat (first | rw[f] | rw[g] | rw[ALct] | rw[ALcf])))<;>rfl) [] [(0,0),(1,1),(2,2)] [])
 refine r0 [] [(35,.bool ((dy ((bP (Wv ys 0 8) ((pc ((x%8388608).toNat)%2:Nat):Int) 0 (bI 10))^^^(ys.getD 8 0)) (bR 10))==2))] [] ?_;refine cN (dy ((bP (Wv ys 0 8) ((pc ((x%8388608).toNat)%2:Nat):Int) 0 (bI 10))^^^(ys.getD 8 0)) (bR 10)) 2 (λb e=>?_) λb e=>?_
 ·exact r0 [] [(6,u6 (((gA (Wv ys 0 8) (ys.getD 8 0) ((pc ((x%8388608).toNat)%2:Nat):Int) (bI 10) (bR 10)):Nat):Int)),(7,i6 2)] [6,7] (ao (.tuple #[u6 (((gA (Wv ys 0 8) (ys.getD 8 0) ((pc ((x%8388608).toNat)%2:Nat):Int) (bI 10) (bR 10)):Nat):Int),i6 2]) ab.zero (by((try simp only[ky]);(repeat (first | rw[f] | rw[g] | rw[b] | rw[ALct] | rw[ALcf])))<;>rfl) [] [(0,0),(1,1),(2,2)] [])
 exact r0 [] [(6,u6 (((gA (Wv ys 0 8) (ys.getD 8 0) ((pc ((x%8388608).toNat)%2:Nat):Int) (bI 10) (bR 10)):Nat):Int)),(7,i6 3)] [6,7] (ao (.tuple #[u6 (((gA (Wv ys 0 8) (ys.getD 8 0) ((pc ((x%8388608).toNat)%2:Nat):Int) (bI 10) (bR 10)):Nat):Int),i6 3]) ab.zero (by((try simp only[ky]);(repeat (first | rw[f] | rw[g] | rw[b] | rw[ALcf])))<;>rfl) [] [(0,0),(1,1),(2,2)] [])
end
section
open Go.Shelf
theorem M3(a g:Nat)(u:Value)(d v:List UInt8)(c:d.length=36)(hv:v.length=3)(D:List UInt8)(b:gX d v=D)(k:Nat)(e:fm (a4 d v)=k)(p:Int)(hp:cU (a4 d v)=p)(q:UInt8)(f:eO (a4 d v)=q):aa WJ 229 #[pt a 0,.agg (rB 36 d).toArray,.agg (rB 3 v).toArray] [ob a #[pt g 0,u] 309,ob g (rB 255 aT++rN 256 aW).toArray 312,.p (aG eB u c8)] [] N0 (λ_=> .tuple #[.agg (rB 32 D).toArray,.agg #[iN k,i6 p,u1 (q.toNat:Int)]]):=by
 subst b e hp f;exact Mf a g u d v c hv
def oZ(a:Nat)(b:Int)(vl:UInt8):Int:=(bif (a:Int)==0 then 0 else(bif (a:Int)==1 then 1 else(bif (((a:Int)==2)&&(b==38))&&((vl.toNat:Int)==128) then 2 else 3)))
theorem M4(G I j g:Nat)(u v:Value)(ys:List UInt8)(F:ys.length=36)(x:Int)(h0: -9223372036854775808≤x)(h1:x≤9223372036854775807)(D:List UInt8)(H:gX ys (dF x false)=D)(y:D.length=32)(a:Nat)(z:fm (a4 ys (dF x false))=a)(e:Int)(A:cU (a4 ys (dF x false))=e)(vl:UInt8)(C:eO (a4 ys (dF x false))=vl):aa WJ 197 #[pt G 0,v,i6 x] [ob G #[pt I 0,pt j 0] 242,ob j #[pt g 0,u] 309,ob g (rB 255 aT++rN 256 aW).toArray 312,.p (aG eB u c8),.p (aG eB v ys)] [] N0 (λ_=> .tuple #[.agg (rB 32 D).toArray,i6 (oZ a e vl)]):=by
 refine fO Tryz.func197 3 rfl λq B=>fO Tryz.func197 4 rfl λi n=>fG Tryz.func197 λw M=>ra (λb=>[(6,pt (B0 b) 0),(7,i6 0)]) (λb=>[ob (B0 b) (rB 32 (WM 32 0)).toArray 267]) λb=>rr (λ_=>[(3,.m (ld 0 (pt j 0))),(5,.m (BI 4 (.c i) 36 (cP n.1) Dc Om)),(6,.m (BJ 4 (.c i) 36 (rB 36 ys) (cP n.1) (kL F).symm Om (BK (λ_=>rfl) F))),(8,.c [] [] (CQ x Om Om false)),(9,.c [1,2,3] [] (aa.at (rd':=[ob j #[pt g 0,u] 309,ob g (rB 255 aT++rN 256 aW).toArray 312,.c q]) (M3 j g u ys (dF x false) (by(simp only[LL,mH,F,y];done)) bg D H a z e A vl C) (aP (aP (ec B (λ_ h=>h)))))),(13,.m (al 6)),(14,.m (al 7)),(15,.s 6),(16,.s 7)]) (λf=>[(8,pt ((f 13).y 0) 0),(9,pt ((f 14).y 0) 0)]) [] (λf L=>L++[ob ((f 13).y 0) (rB 32 D).toArray 267,ob ((f 14).y 0) #[iN a,i6 e,u1 (vl.toNat:Int)] 368]) λf=>r0 [(1,.l 7)] [(23,.bool ((a:Int)==0))] [] ?_;refine cN (a:Int) 0 (λk r=>?_) λk r=>?_
 ·exact rr (λ_=>[(0,.l 6),(1,.s 5)]) (λ_=>[(7,i6 0)]) [7] (λ_ L=>L.set 5 (ob (B0 b) (rB 32 D).toArray 267)) λN=>ao (.tuple #[.agg (rB 32 D).toArray,i6 0]) ab.zero (by((try simp only[oZ]);(repeat (first | rw[k] | rw[ALct])))<;>rfl) [] [(0,0),(1,1),(2,2),(3,3),(4,4)] [5]
 refine r0 [(1,.l 7)] [(28,.bool ((a:Int)==1))] [] ?_;refine cN (a:Int) 1 (λo t=>?_) λo t=>?_
 ·exact rr (λ_=>[(0,.l 6),(1,.s 5)]) (λ_=>[(7,i6 1)]) [7] (λ_ L=>L.set 5 (ob (B0 b) (rB 32 D).toArray 267)) λO=>ao (.tuple #[.agg (rB 32 D).toArray,i6 1]) ab.zero (by((try simp only[oZ]);(repeat (first | rw[k] | rw[o] | rw[ALct] | rw[ALcf])))<;>rfl) [] [(0,0),(1,1),(2,2),(3,3),(4,4)] [5]
 refine r0 [(1,.m (ld 7 (iN a))),(5,.m (ld 7 (i6 e))),(10,.m (ld 7 (u1 (vl.toNat:Int)))),] [(33,.bool ((((a:Int)==2)&&(e==38))&&((vl.toNat:Int)==128)))] [] ?_;refine cB ((((a:Int)==2)&&(e==38))&&((vl.toNat:Int)==128)) (λd=>?_) λd=>?_
 ·exact rr (λ_=>[(0,.l 6),(1,.s 5)]) (λ_=>[(7,i6 2)]) [7] (λ_ L=>L.set 5 (ob (B0 b) (rB 32 D).toArray 267)) λJ=>ao (.tuple #[.agg (rB 32 D).toArray,i6 2]) ab.zero (by((try simp only[oZ]);(repeat (first | rw[k] | rw[o] | rw[d] | rw[ALct] | rw[ALcf])))<;>rfl) [] [(0,0),(1,1),(2,2),(3,3),(4,4)] [5]
 exact rr (λ_=>[(0,.l 6),(1,.s 5)]) (λ_=>[(7,i6 3)]) [7] (λ_ L=>L.set 5 (ob (B0 b) (rB 32 D).toArray 267)) λK=>ao (.tuple #[.agg (rB 32 D).toArray,i6 3]) ab.zero (by((try simp only[oZ]);(repeat (first | rw[k] | rw[o] | rw[d] | rw[ALcf])))<;>rfl) [] [(0,0),(1,1),(2,2),(3,3),(4,4)] [5]
def nm(ys:List UInt8)(x:Int):Int:=oZ (fm (a4 ys (dF x false))) (cU (a4 ys (dF x false))) (eO (a4 ys (dF x false)))
theorem M5(b c a g:Nat)(u v:Value)(ys:List UInt8)(d:ys.length=36)(x:Int)(h0: -9223372036854775808≤x)(h1:x≤9223372036854775807):aa WJ 197 #[pt b 0,v,i6 x] [ob b #[pt c 0,pt a 0] 242,ob a #[pt g 0,u] 309,ob g (rB 255 aT++rN 256 aW).toArray 312,.p (aG eB u c8),.p (aG eB v ys)] [] N0 (λ_=> .tuple #[.agg (rB 32 (gX ys (dF x false))).toArray,i6 (nm ys x)]):=
 M4 b c a g u v ys d x h0 h1 _ rfl (ye d) _ rfl _ rfl _ rfl
end
section
open Go.Shelf
def fp{α:Type}(d:α)(N:Nat)(f:Nat→α)(n:Nat):List α:=(WL N).map λi=>if i<n then f i else d
theorem nn{α:Type}(d:α)(N:Nat)(f:Nat→α)(n:Nat):(fp d N f n).length=N:=by unfold fp;rw[WR,WZ]
theorem M6{α:Type}{d:α}{N:Nat}{f:Nat→α}{n i:Nat}(h:i<N):(fp d N f n).getD i d=if i<n then f i else d:=by
 unfold fp;rw[WK,Xo,XF h];rfl
theorem M7{α:Type}{d:α}{N:Nat}{f:Nat→α}{n:Nat}(h:n<N):(fp d N f n).set n (f n)=fp d N f (n+1):=by
 apply Xy;intro i;rw[Xg];rcases XD i N with a | a
 ·unfold fp;simp only[WR,WZ,Xo,XF a,XL];by_cases e:n=i
  ·subst e;rw[ALifp rfl,ALifp h,ALifp Om]
  ·rw[ALifn e];by_cases b:i<n
   ·rw[ALifp b,ALifp Om]
   ·rw[ALifn b,ALifn Om]
 ·rw[W6 (l:=fp d N f (n+1)) (by rw[nn];exact a),W6 (l:=fp d N f n) (by rw[nn];exact a),nn];rw[ALifn Om]
theorem M8{α:Type}(d:α)(N:Nat)(f:Nat→α):fp d N f 0=WM N d:=by
 apply Xy;intro i;rcases XD i N with a | a
 ·unfold fp;simp [a]
 ·rw[W6 (by rw[nn];exact a),W6 (by simpa using a)]
def w9(xs:List UInt8)(k:Nat):List UInt8:=(xs.drop (9*k)).take 9
def o0(xs:List UInt8)(k:Nat):List UInt8:=(xs.drop (36*k)).take 36
def dW(xs:List UInt8)(x:Int)(k:Nat):Nat:=gA (Wv (w9 xs k) 0 8) ((w9 xs k).getD 8 0) ((pc ((x%8388608).toNat)%2:Nat):Int) (bI 10) (bR 10)
def dK(xs:List UInt8)(x:Int)(k:Nat):Int:=ky (w9 xs k) x
def cW(xs:List UInt8)(x:Int)(k:Nat):List UInt8:=gX (o0 xs k) (dF x false)
def cK(xs:List UInt8)(x:Int)(k:Nat):Int:=nm (o0 xs k) x
theorem M9{d:Nat}{k:UInt8}{a:Int}{cl:List UInt8}{b:List Int}(h:d<18446744073709551616):gA d k a cl b<18446744073709551616:=by
 unfold gA;cases e:((dy ((bP d a 0 cl)^^^k) b)==1)&&(decide ((dm ((bP d a 0 cl)^^^k) b)<64)) with
 | false=>exact h
 | true=>
  rw[WS] at e;have c:=of_decide_eq_true e.2;rw[ALct,X3];exact XI (n:=64) h (Nat.pow_lt_pow_right Dc Om)
theorem Na(xs:List UInt8)(x:Int)(k:Nat):dW xs x k<18446744073709551616:=M9 (rH _ _ Dc)
theorem Nb{N:Nat}{f:Nat→Nat}{n B:Nat}(hB:0<B)(h: ∀i,f i<B)(i:Nat):(fp 0 N f n).getD i 0<B:=by
 rcases XD i N with a | a
 ·rw[M6 a];split
  ·exact h i
  ·exact hB
 ·rw[WK,W6 (by rw[nn];exact a)];exact hB
theorem C0{xs:List UInt8}{k:Nat}(b:xs.length=72)(a:k<2):(o0 xs k).length=36:=by unfold o0;rw[WQ,WY];omega
theorem yf{f:Nat→List UInt8}{m:Nat}(h: ∀i,(f i).length=m)(k:Nat):((WL k).flatMap f).length=m*k:=by
 induction k with
 | zero=>rfl
 | succ k ih=>rw[Xk,X1,WO,ih,XV,h,Yi]
theorem C1{f:Nat→List UInt8}{m N:Nat}(h: ∀i,(f i).length=m){k:Nat}:
  ((WL k).flatMap f++WM (N-m*k) (0:UInt8)).take (m*k)++f k++((WL k).flatMap f++WM (N-m*k) (0:UInt8)).drop (m*k+m)=(WL (k+1)).flatMap f++WM (N-m*(k+1)) 0:=by
 have a:=yf h k;rw[XQ a,←XE,XR a,X0,Xk,X1,XV,show N-m*k-m=N-m*(k+1) by rw[Yi];omega]
def fX(f:Nat→List UInt8)(k:Nat):List UInt8:=(WL k).flatMap f++WM (64-32*k) 0
theorem yg{f:Nat→List UInt8}(h: ∀i,(f i).length=32){k:Nat}(a:k≤2):(fX f k).length=64:=by
 unfold fX;rw[WO,yf h,Xe];omega
theorem Nc{f:Nat→List UInt8}(h: ∀i,(f i).length=32){k:Nat}:(fX f k).take (0+k*32)++f k++(fX f k).drop (0+k*32+32)=fX f (k+1):=by
 have:=C1 (N:=64) h (k:=k);rw[Xj,WT k 32];exact this
theorem Nd(f:Nat→List UInt8):fX f 0=WM 64 0:=rfl
theorem Nf{xs:List UInt8}{x:Int}{k:Nat}(h:(o0 xs k).length=36):(cW xs x k).length=32:=ye h
def iK(xs:List UInt8)(x:Int)(k:Nat):List UInt8:=if k<2 then cW xs x k else WM 32 0
theorem Ng{xs:List UInt8}{x:Int}{k:Nat}(h:k<2):iK xs x k=cW xs x k:=ALifp h
theorem uN{xs:List UInt8}(a:xs.length=72)(x:Int)(k:Nat):(iK xs x k).length=32:=by
 unfold iK
 split
 ·rename_i h;exact Nf (C0 a h)
 ·rfl
attribute [local irreducible] dy dm bP gA Wv gX a4 bI bR c8 aT aW dF fm cU eO ky nm fp fX cq jK jF fo
theorem Nh(i g j:Nat)(xs:List UInt8)(o:xs.length=72)(x:Int):aa WJ 151 #[pt i 0,i6 1,.agg (rB 72 xs).toArray,i6 x] [ob i #[pt g 0,pt j 0] 242,ob g (rB 74 (bI 10)++rI 256 (bR 10)).toArray 298] [] (λE=>[dk (E.val 0) ((WL 8).map (dK xs x))]) (λE=> .tuple #[.agg (rB 64 (cq 64 (jM (fp 0 8 (dW xs x) 8)) (8*8))).toArray,(E.val 0)]):=by
 refine fG Tryz.func151 λw u=>ra (λf=>[(6,pt (B0 f) 0),(8,pt (B1 f) 0),(9,.slice none 0 0)]) (λf=>[ob (B0 f) (rB 72 xs).toArray 217,ob (B1 f) (rB 64 z6).toArray 43]) λf=>r0 [] [(10,.slice none 0 0)] [] (rT [] 20 (ra (λe=>[(11,pt (B0 e) 0)]) (λe=>[ob (B0 e) (rW 8 (WM 8 0)).toArray 320]) λe=>r0 [] [(21,i6 0)] [] (cz kI ?_)));refine mw (λk _=>k≤8) (λk a=>[(21,iN k),(10,a)]) (λk a L=>(L.set 4 (ob (B0 e) (rW 8 (fp 0 8 (dW xs x) k)).toArray 320)).set 5 (dk a ((WL k).map (dK xs x)))) (λk _=>8-k) 0 (.slice none 0 0) Om Kr (by rw[M8];kernel_rfl) (λk a q=>?_);have r:((WL k).map (dK xs x)).length=k:=by rw[WR,WZ]
 refine r0 [] [(22,.bool (decide ((k:Int)<8)))] [] ?_;refine bW (k:Int) 8 (λp n=>?_) λp n=>?_
 ·exact r0 [] [(12,iN k)] [] (rr (λd=>[(1,.m (ls 2 (rB 72 xs))),(4,.c [] [6] (CT xs (by(simp only[LL,nn,mG,o];done)) k Om)),(6,.c [0,1,6] [] (aa.at (rd':=[ob i #[pt g 0,pt j 0] 242,ob g (rB 74 (bI 10)++rI 256 (bR 10)).toArray 298,bC ((d 4).val 0) ((xs.drop (9*k)).take 9)]) (M1 i g j ((d 4).val 0) ((xs.drop (9*k)).take 9) (by(simp only[LL,nn,mG,o];omega)) x) (aP (aP (bL (λ_ h=>aq.sq h) (λ_ h=>h)))))),]) (λ_=>[(13,u6 (((gA (Wv ((xs.drop (9*k)).take 9) 0 8) (((xs.drop (9*k)).take 9).getD 8 0) ((pc ((x%8388608).toNat)%2:Nat):Int) (bI 10) (bR 10)):Nat):Int)),(14,i6 (ky ((xs.drop (9*k)).take 9) x))]) [] (λd L=>L++[bC ((d 4).val 0) ((xs.drop (9*k)).take 9)]) λd=>rs [(2,iA 320 .i64 (B0 e) 0 8 1 k),(3,wD 4 (B0 e) k 320 (u6 (((gA (Wv ((xs.drop (9*k)).take 9) 0 8) (((xs.drop (9*k)).take 9).getD 8 0) ((pc ((x%8388608).toNat)%2:Nat):Int) (bI 10) (bR 10)):Nat):Int)) (rW 8 (fp 0 8 (dW xs x) k)) (rW 8 ((fp 0 8 (dW xs x) k).set k (gA (Wv ((xs.drop (9*k)).take 9) 0 8) (((xs.drop (9*k)).take 9).getD 8 0) ((pc ((x%8388608).toNat)%2:Nat):Int) (bI 10) (bR 10)))) (jV Om) (H7 (nn ..)))] 4 (ob (B0 e) (rW 8 ((fp 0 8 (dW xs x) k).set k (gA (Wv ((xs.drop (9*k)).take 9) 0 8) (((xs.drop (9*k)).take 9).getD 8 0) ((pc ((x%8388608).toNat)%2:Nat):Int) (bI 10) (bR 10)))).toArray 320) (rr (λ_=>[(2,.m (bs 7 1)),(3,eT kI (a) ((WL k).map (dK xs x)) 5 7 ([(ky ((xs.drop (9*k)).take 9) x)]))]) (λb=>[(10,(b 3).val 0)]) [10] (λb L=>L.set 5 (dk ((b 3).val 0) (((WL k).map (dK xs x))++([(ky ((xs.drop (9*k)).take 9) x)])))++[ob (B2 b) #[i6 (ky ((xs.drop (9*k)).take 9) x)] 3]) λb=>r0 [(0,ad k 1)] [(21,iN (k+1))] [21] (kQ (k+1) ((b 3).val 0) Om Om Kr [0,1,2,3,4,5] (by rw[←M7 Om,Xk,XC];kernel_rfl))))
 obtain rfl:k=8:=by omega
 refine kR ?_;exact rr (λ_=>[(0,.l 4),(1,.c [] [] (MM (fp 0 8 (dW xs x) 8) (by(simp only[LL,nn,mG,o];done)) (Nb Dc (Na xs x)))),(3,.s 3)]) (λ_=>[(9,a)]) [9] (λ_ L=>L.set 3 (ob (B1 f) (rB 64 (cq 64 (jM (fp 0 8 (dW xs x) 8)) (8*8))).toArray 43)) λt=>lf (.l [] [] [a]) [5] [(0,0),(1,1)] [3]
theorem Ni(q v o g:Nat)(u:Value)(xs:List UInt8)(i:xs.length=72)(x:Int)(h0: -9223372036854775808≤x)(h1:x≤9223372036854775807):aa WJ 151 #[pt q 0,i6 2,.agg (rB 72 xs).toArray,i6 x] [ob q #[pt v 0,pt o 0] 242,ob o #[pt g 0,u] 309,ob g (rB 255 aT++rN 256 aW).toArray 312,.p (aG eB u c8)] [] (λE=>[dk (E.val 0) ((WL 2).map (cK xs x))]) (λE=> .tuple #[.agg (rB 64 (fX (iK xs x) 2)).toArray,(E.val 0)]):=by
 refine fO Tryz.func151 3 rfl λr z=>fG Tryz.func151 λw D=>ra (λn=>[(6,pt (B0 n) 0),(8,pt (B1 n) 0),(9,.slice none 0 0)]) (λn=>[ob (B0 n) (rB 72 xs).toArray 217,ob (B1 n) (rB 64 z6).toArray 43]) λn=>r0 [] [(10,.slice none 0 0)] [] (rF [] 20 (ra (λj=>[(15,pt (B0 j) 0)]) (λj=>[ob (B0 j) (rB 64 z6).toArray 324]) λj=>r0 [] [(45,i6 0)] [] (cz kI ?_)));refine mw (λk _=>k≤2) (λk a=>[(45,iN k),(10,a)]) (λk a L=>(L.set 6 (ob (B0 j) (rB 64 (fX (iK xs x) k)).toArray 324)).set 7 (dk a ((WL k).map (cK xs x)))) (λk _=>2-k) 0 (.slice none 0 0) Om Kr (by rw[Nd];kernel_rfl) (λk a y=>?_);have B:((WL k).map (cK xs x)).length=k:=by rw[WR,WZ]
 have e:=yg (uN i x) y;refine r0 [] [(46,.bool (decide ((k:Int)<2)))] [] ?_;refine bW (k:Int) 2 (λA t=>?_) λA t=>?_
 ·refine r0 [] [(16,iN k)] [] ?_;have d:(gX ((xs.drop (36*k)).take 36) (dF x false)).length=32:=ye (C0 i Om);exact rr (λb=>[(1,.m (ls 4 (rB 72 xs))),(4,.c [] [8] (CU xs (by(simp only[LL,d,e,i];done)) k Om)),(6,.c [0,1,2,3,8] [] (aa.at (rd':=[ob q #[pt v 0,pt o 0] 242,ob o #[pt g 0,u] 309,ob g (rB 255 aT++rN 256 aW).toArray 312,.c r,bC ((b 4).val 0) ((xs.drop (36*k)).take 36)]) (M5 q v o g u ((b 4).val 0) ((xs.drop (36*k)).take 36) (by(simp only[LL,d,e,i];omega)) x Om Om) (aP (aP (aP (ec z (bL (λ_ h=>aq.sq h) (λ_ h=>h)))))))),(10,.m (al 9)),(11,.s 9)]) (λb=>[(17,pt ((b 10).y 0) 0),(18,i6 (nm ((xs.drop (36*k)).take 36) x))]) [] (λb L=>L++[bC ((b 4).val 0) ((xs.drop (36*k)).take 36),ob ((b 10).y 0) (rB 32 (gX ((xs.drop (36*k)).take 36) (dF x false))).toArray 267]) λb=>rs [(1,.l 9),(2,iA 324 .i64 (B0 j) 0 2 32 k),(3,.m (sg 6 (B0 j) (0+k*32) 324 (rB 32 (gX ((xs.drop (36*k)).take 36) (dF x false))) (rB 64 (fX (iK xs x) k)).toArray (rB 64 ((fX (iK xs x) k).take (0+k*32)++(gX ((xs.drop (36*k)).take 36) (dF x false))++(fX (iK xs x) k).drop (0+k*32+32))).toArray (Iq (λ_=>rfl) (show(fX (iK xs x) k).length=64 by(simp only[LL,d,e,i];done)) (show(gX ((xs.drop (36*k)).take 36) (dF x false)).length=32 by(simp only[LL,d,e,i];done)) Om) (Ir (λ_=>rfl) Om) (Iu (λ_=>rfl) (show(gX ((xs.drop (36*k)).take 36) (dF x false)).length=32 by(simp only[LL,d,e,i];done)))))] 6 (ob (B0 j) (rB 64 ((fX (iK xs x) k).take (0+k*32)++(gX ((xs.drop (36*k)).take 36) (dF x false))++(fX (iK xs x) k).drop (0+k*32+32))).toArray 324) (rr (λ_=>[(2,.m (bs 10 1)),(3,eT kI (a) ((WL k).map (cK xs x)) 7 10 ([(nm ((xs.drop (36*k)).take 36) x)]))]) (λf=>[(10,(f 3).val 0)]) [10] (λf L=>L.set 7 (dk ((f 3).val 0) (((WL k).map (cK xs x))++([(nm ((xs.drop (36*k)).take 36) x)])))++[ob (B2 f) #[i6 (nm ((xs.drop (36*k)).take 36) x)] 3]) λf=>r0 [(0,ad k 1)] [(45,iN (k+1))] [45] (kQ (k+1) ((f 3).val 0) Om Om Kr [0,1,2,3,4,5,6,7] (by rw[←Nc (uN i x),Ng Om,Xk,XC];kernel_rfl)))
 obtain rfl:k=2:=by omega
 refine kR ?_;have d:=trivial;exact rr (λ_=>[(0,.l 6),(1,.c [] [] (MW (fX (iK xs x) 2) (by(simp only[LL,d,e,i];done)))),(3,.s 5)]) (λ_=>[(9,a)]) [9] (λ_ L=>L.set 5 (ob (B1 n) (rB 64 (fX (iK xs x) 2)).toArray 43)) λC=>lf (.l [] [] [a]) [7] [(0,0),(1,1),(2,2),(3,3)] [5]
def rJ(xs:List UInt8)(x:Int):List UInt8:=(bif decide (2≤(jK ((WL 8).map (dK xs x)))) then WM 64 0 else cq 64 (jM (fp 0 8 (dW xs x) 8)) (8*8))
theorem Nj(e i j:Nat)(xs:List UInt8)(m:xs.length=72)(x:Int):aa WJ 124 #[pt e 0,i6 1,.agg (rB 72 xs).toArray,i6 x] [ob e #[pt i 0,pt j 0] 242,ob i (rB 74 (bI 10)++rI 256 (bR 10)).toArray 298] [] N0 (λ_=> .tuple #[.agg (rB 64 (rJ xs x)).toArray,.agg #[i6 (jK ((WL 8).map (dK xs x))),i6 (jh ((WL 8).map (dK xs x)))]]):=by
 refine fG Tryz.func124 λw n=>ra (λa=>[(6,pt (B0 a) 0),(8,pt (B1 a) 0),(9,pt (B2 a) 0)]) (λa=>[ob (B0 a) (rB 72 xs).toArray 217,ob (B1 a) (rB 64 z6).toArray 43,ob (B2 a) #[i6 0,i6 0] 79]) λa=>r0 [(1,.c [] [] (oY 1))] [(15,.bool (!((1==1)||(1==2))))] [] ?_;have k:(!((1==1)||(1==2)))=false:=by decide
 refine cF (!((1==1)||(1==2))) k (rr (λ_=>[(2,.l 2),(4,.c [0,1] [5] (Nh e i j xs (by(simp only[LL,mG,m];done)) x)),(9,.s 6)]) (λb=>[(10,pt ((b 8).y 0) 0),(11,((b 4).val 0))]) [] (λb L=>L++[dk ((b 4).val 0) ((WL 8).map (dK xs x)),ob ((b 8).y 0) (rB 64 (cq 64 (jM (fp 0 8 (dW xs x) 8)) (8*8))).toArray 43]) λb=>rr (λ_=>[(1,.c [5] [] (aa.at (rd':=[dk ((b 4).val 0) ((WL 8).map (dK xs x))]) (CY ((b 4).val 0) ((WL 8).map (dK xs x)) (by rw[WR,WZ];omega)) (bL (λ_ h=>aq.sq h) (λ_ h=>h)))),(3,.s 7)]) (λd=>[(12,pt (B2 d) 0)]) [] (λd L=>L++[ob (B2 d) #[i6 (jK ((WL 8).map (dK xs x))),i6 (jh ((WL 8).map (dK xs x)))] 79]) λd=>r0 [(1,.l 7)] [(30,.bool (decide (2≤(jK ((WL 8).map (dK xs x))))))] [] ?_);refine oN 2 (jK ((WL 8).map (dK xs x))) (λg f=>?_) λg f=>?_
 ·exact rr (λ_=>[(1,.l 7),(2,.s 3),(3,.s 4)]) N0 [] (λ_ L=>L.set 4 (ob (B2 a) #[i6 (jK ((WL 8).map (dK xs x))),i6 (jh ((WL 8).map (dK xs x)))] 79)) λo=>ao (.tuple #[.agg (rB 64 z6).toArray,.agg #[i6 (jK ((WL 8).map (dK xs x))),i6 (jh ((WL 8).map (dK xs x)))]]) ab.zero (by((try simp only[rJ]);(repeat (first | rw[g] | rw[ALct])))<;>rfl) [] [(0,0),(1,1)] [3,4]
 exact rr (λ_=>[(0,.l 6),(1,.l 7),(2,.s 3),(3,.s 4)]) N0 [] (λ_ L=>(L.set 3 (ob (B1 a) (rB 64 (cq 64 (jM (fp 0 8 (dW xs x) 8)) (8*8))).toArray 43)).set 4 (ob (B2 a) #[i6 (jK ((WL 8).map (dK xs x))),i6 (jh ((WL 8).map (dK xs x)))] 79)) λp=>ao (.tuple #[.agg (rB 64 (cq 64 (jM (fp 0 8 (dW xs x) 8)) (8*8))).toArray,.agg #[i6 (jK ((WL 8).map (dK xs x))),i6 (jh ((WL 8).map (dK xs x)))]]) ab.zero (by((try simp only[rJ]);(repeat (first | rw[g] | rw[ALcf])))<;>rfl) [] [(0,0),(1,1)] [3,4]
def rK(xs:List UInt8)(x:Int):List UInt8:=(bif decide (2≤(jK ((WL 2).map (cK xs x)))) then WM 64 0 else fX (iK xs x) 2)
theorem Nk(e n d g:Nat)(u:Value)(xs:List UInt8)(q:xs.length=72)(x:Int)(h0: -9223372036854775808≤x)(h1:x≤9223372036854775807):aa WJ 124 #[pt e 0,i6 2,.agg (rB 72 xs).toArray,i6 x] [ob e #[pt n 0,pt d 0] 242,ob d #[pt g 0,u] 309,ob g (rB 255 aT++rN 256 aW).toArray 312,.p (aG eB u c8)] [] N0 (λ_=> .tuple #[.agg (rB 64 (rK xs x)).toArray,.agg #[i6 (jK ((WL 2).map (cK xs x))),i6 (jh ((WL 2).map (cK xs x)))]]):=by
 have i:=yg (uN q x) (W8 2);refine fO Tryz.func124 3 rfl λj o=>fG Tryz.func124 λw t=>ra (λa=>[(6,pt (B0 a) 0),(8,pt (B1 a) 0),(9,pt (B2 a) 0)]) (λa=>[ob (B0 a) (rB 72 xs).toArray 217,ob (B1 a) (rB 64 z6).toArray 43,ob (B2 a) #[i6 0,i6 0] 79]) λa=>r0 [(1,.c [] [] (oY 2))] [(15,.bool (!((2==1)||(2==2))))] [] ?_;have r:(!((2==1)||(2==2)))=false:=by decide
 refine cF (!((2==1)||(2==2))) r (rr (λ_=>[(2,.l 4),(4,.c [0,1,2,3] [7] (aa.at (rd':=[ob e #[pt n 0,pt d 0] 242,ob d #[pt g 0,u] 309,ob g (rB 255 aT++rN 256 aW).toArray 312,.c j]) (Ni e n d g u xs (by(simp only[LL,i,q];done)) x Om Om) (aP (aP (aP (ec o (λ_ h=>h))))))),(9,.s 8)]) (λb=>[(10,pt ((b 8).y 0) 0),(11,((b 4).val 0))]) [] (λb L=>L++[dk ((b 4).val 0) ((WL 2).map (cK xs x)),ob ((b 8).y 0) (rB 64 (fX (iK xs x) 2)).toArray 43]) λb=>rr (λ_=>[(1,.c [7] [] (aa.at (rd':=[dk ((b 4).val 0) ((WL 2).map (cK xs x))]) (CY ((b 4).val 0) ((WL 2).map (cK xs x)) (by rw[WR,WZ];omega)) (bL (λ_ h=>aq.sq h) (λ_ h=>h)))),(3,.s 9)]) (λf=>[(12,pt (B2 f) 0)]) [] (λf L=>L++[ob (B2 f) #[i6 (jK ((WL 2).map (cK xs x))),i6 (jh ((WL 2).map (cK xs x)))] 79]) λf=>r0 [(1,.l 9)] [(30,.bool (decide (2≤(jK ((WL 2).map (cK xs x))))))] [] ?_);refine oN 2 (jK ((WL 2).map (cK xs x))) (λm k=>?_) λm k=>?_
 ·exact rr (λ_=>[(1,.l 9),(2,.s 5),(3,.s 6)]) N0 [] (λ_ L=>L.set 6 (ob (B2 a) #[i6 (jK ((WL 2).map (cK xs x))),i6 (jh ((WL 2).map (cK xs x)))] 79)) λv=>ao (.tuple #[.agg (rB 64 z6).toArray,.agg #[i6 (jK ((WL 2).map (cK xs x))),i6 (jh ((WL 2).map (cK xs x)))]]) ab.zero (by((try simp only[rK]);(repeat (first | rw[m] | rw[ALct])))<;>rfl) [] [(0,0),(1,1),(2,2),(3,3)] [5,6]
 exact rr (λ_=>[(0,.l 8),(1,.l 9),(2,.s 5),(3,.s 6)]) N0 [] (λ_ L=>(L.set 5 (ob (B1 a) (rB 64 (fX (iK xs x) 2)).toArray 43)).set 6 (ob (B2 a) #[i6 (jK ((WL 2).map (cK xs x))),i6 (jh ((WL 2).map (cK xs x)))] 79)) λy=>ao (.tuple #[.agg (rB 64 (fX (iK xs x) 2)).toArray,.agg #[i6 (jK ((WL 2).map (cK xs x))),i6 (jh ((WL 2).map (cK xs x)))]]) ab.zero (by((try simp only[rK]);(repeat (first | rw[m] | rw[ALcf])))<;>rfl) [] [(0,0),(1,1),(2,2),(3,3)] [5,6]
end
section
open Go.Shelf
def fY(n:Nat)(f:Nat→List UInt8)(k:Nat):List UInt8:=(WL k).flatMap f++WM (72-n*k) 0
theorem pT{n:Nat}{f:Nat→List UInt8}(h: ∀i,(f i).length=n){k:Nat}(a:n*k≤72):(fY n f k).length=72:=by
 unfold fY;rw[WO,yf h,Xe];omega
theorem C2{n:Nat}{f:Nat→List UInt8}(h: ∀i,(f i).length=n){k m:Nat}(a:m=n):(fY n f k).take (n*k)++f k++(fY n f k).drop (n*k+m)=fY n f (k+1):=by subst a;exact C1 h
theorem C3(n:Nat)(f:Nat→List UInt8):fY n f 0=WM 72 0:=rfl
def lU(l:List UInt8)(x:Int)(p:Bool)(k:Nat):List UInt8:=jL (Wv l (8*k) 8) 8++[bP (Wv l (8*k) 8) ((pc ((x%8388608).toNat)%2:Nat):Int) (fo p) (bI 10)]
theorem rL(l:List UInt8)(x:Int)(p:Bool)(k:Nat):(lU l x p k).length=9:=by unfold lU;rw[WO,nk];rfl
def mI(l:List UInt8)(x:Int)(p:Bool)(k:Nat):List UInt8:=if k<2 then jf ((l.drop (32*k)).take 32) (dF x p)++(l.drop (32*k)).take 32 else WM 36 0
theorem rO{l:List UInt8}(a:l.length=64)(x:Int)(p:Bool)(k:Nat):(mI l x p k).length=36:=by
 unfold mI
 split
 ·rw[WO,jZ,WQ,WY];omega
 ·rfl
theorem Nl{l:List UInt8}{x:Int}{p:Bool}{k:Nat}(h:k<2):mI l x p k=jf ((l.drop (32*k)).take 32) (dF x p)++(l.drop (32*k)).take 32:=ALifp h
attribute [local irreducible] dy dm bP gA Wv jL gX a4 jf bI bR c8 aT aW dF fm cU eO ky nm fp fX cq jK jF fo fY
theorem Nm(e j y:Nat)(l:List UInt8)(f:l.length=64)(x:Int)(p:Bool):aa WJ 125 #[pt e 0,i6 1,.agg (rB 64 l).toArray,i6 x,.bool p] [ob e #[pt j 0,pt y 0] 242,ob j (rB 74 (bI 10)++rI 256 (bR 10)).toArray 298] [] N0 (λ_=> .agg (rB 72 (fY 9 (lU l x p) 8)).toArray):=by
 have a:=True.intro;refine fG Tryz.func125 λw G=>ra (λd=>[(5,pt (B0 d) 0),(6,pt (B1 d) 0),(7,pt (B2 d) 0),(9,pt (B3 d) 0),(10,pt (B4 d) 0)]) (λd=>[ob (B0 d) #[pt e 0] 116,ob (B1 d) #[i6 1] 3,ob (B2 d) (rB 64 l).toArray 43,ob (B3 d) #[.bool p] 4,ob (B4 d) (rB 72 (WM 72 0)).toArray 217]) λd=>ra (λg=>[(11,pt (B0 g) 0)]) (λg=>[ob (B0 g) (rB 72 (WM 72 0)).toArray 217]) λg=>r0 [(0,.l 3)] [(19,i6 1)] [] (rT [] 20 (rr (λ_=>[(1,.c [] [] (uJ x)),(3,.s 8)]) (λo=>[(12,pt (B2 o) 0)]) [] (λo L=>L++[ob (B2 o) #[iN (pc ((x%8388608).toNat)%2)] 3]) λo=>rr (λ_=>[(0,.l 4),(1,.c [] [9] (MF l (by(simp only[LL,nk,jI,jJ,a,f];done))))]) (λi=>[(25,.func (.func 200) #[] #[pt ((B1 i)) 0])]) [] (λi L=>L++[ob (B1 i) (rB 64 l).toArray 43]) λi=>?_));refine oP (encs:=λ(x:Nat×Nat)=>#[i6 (x.1:Int),u6 (x.2:Int)]) (xs:=(WL 8).map λk=>(k,Wv l (8*k) 8)) (KO:=[[((B1 i),.cells (rB 64 l).toArray 43 (0,0))]]) (ME (B1 i) l (by(simp only[LL,nk,jI,jJ,a,f];done))) (enters_of Tryz.func200 Kr rfl) (λk=>k≤8) (λk L=>L.set 7 (ob (B0 g) (rB 72 (fY 9 (lU l x p) k)).toArray 217)) [9] Om (by rw[C3];kernel_rfl) (λH k I B D t r=>?_) (λA r=>?_)
 ·obtain⟨u,rfl⟩:=lK t;have q:=rH l (8*k) (k:=8) Dc;have z:=nk (Wv l (8*k) 8) 8;have a:=pT (n:=9) (rL l x p) (k:=k) Om;refine r0 [] [(13,iN k)] [] (r0 [] [(14,u6 ((Wv l (8*k) 8:Nat):Int))] [] ?_);refine ag [9] (λC F=>?_);exact rr (λb=>[(0,.m (ls 7 (rB 72 (fY 9 (lU l x p) k)))),(1,.m (ld 3 (i6 1))),(2,.v (iN k)),(3,.v (u6 ((Wv l (8*k) 8:Nat):Int))),(4,.c [] [10] (Mu (Wv l (8*k) 8) Om)),(5,.m (ld 2 (pt e 0))),(6,.v (pt e 0)),(7,.v (pt e 0)),(8,.m (ld 0 (pt j 0))),(9,.v (u6 ((Wv l (8*k) 8:Nat):Int))),(10,.m (ld 8 (iN (pc ((x%8388608).toNat)%2)))),(11,.m (ld 5 (.bool p))),(12,.c [] [] (CP p)),(13,.c [1] [] (CO j (Wv l (8*k) 8) ((pc ((x%8388608).toNat)%2:Nat):Int) (fo p) (bI 10) (bR 10) q (by(simp only[LL,nk,jI,jJ,a,f];done)) (by(simp only[LL,nk,jI,jJ,a,f];done)))),(14,.m (bs 11 1)),(15,eT kB (((b 4).val 0)) (jL (Wv l (8*k) 8) 8) 10 11 ([(bP (Wv l (8*k) 8) ((pc ((x%8388608).toNat)%2:Nat):Int) (fo p) (bI 10))])),(16,.c [10] [] (aa.at (rd':=[bC ((b 15).val 0) ((jL (Wv l (8*k) 8) 8)++([(bP (Wv l (8*k) 8) ((pc ((x%8388608).toNat)%2:Nat):Int) (fo p) (bI 10))]))]) (MJ (fY 9 (lU l x p) k) ((jL (Wv l (8*k) 8) 8)++([(bP (Wv l (8*k) 8) ((pc ((x%8388608).toNat)%2:Nat):Int) (fo p) (bI 10))])) ((b 15).val 0) (by(simp only[LL,nk,jI,jJ,a,f];done)) k Om (by(simp only[LL,nk,jI,jJ,a,f];done))) (bL (λ_ h=>aq.sq h) (λ_ h=>h)))),(17,.s 7)]) N0 [] (λb L=>L.set 7 (ob (B0 g) (rB 72 ((fY 9 (lU l x p) k).take (9*k)++((jL (Wv l (8*k) 8) 8)++([(bP (Wv l (8*k) 8) ((pc ((x%8388608).toNat)%2:Nat):Int) (fo p) (bI 10))]))++(fY 9 (lU l x p) k).drop ((9*k)+((jL (Wv l (8*k) 8) 8)++([(bP (Wv l (8*k) 8) ((pc ((x%8388608).toNat)%2:Nat):Int) (fo p) (bI 10))])).length))).toArray 217)++[bC ((b 15).val 0) ((jL (Wv l (8*k) 8) 8)++([(bP (Wv l (8*k) 8) ((pc ((x%8388608).toNat)%2:Nat):Int) (fo p) (bI 10))])),ob ((b 14).y 0) #[u1 ((bP (Wv l (8*k) 8) ((pc ((x%8388608).toNat)%2:Nat):Int) (fo p) (bI 10)).toNat:Int)] 5]) λb=>ne _ ⟨Om,rfl⟩ [0,1,2,3,4,5,6,7,8,9] (by rw[←C2 (rL l x p) (rL l x p k)];unfold lU;kernel_rfl)
 have a:=pT (n:=9) (rL l x p) (k:=8) Om;exact rs [(0,.l 7),(1,.s 6)] 6 (ob (B4 d) (rB 72 (fY 9 (lU l x p) 8)).toArray 217) (lf ab.zero [] [(0,0),(1,1)] [6])
theorem Nn(y D r g:Nat)(u:Value)(l:List UInt8)(e:l.length=64)(x:Int)(h0: -9223372036854775808≤x)(h1:x≤9223372036854775807)(p:Bool):aa WJ 125 #[pt y 0,i6 2,.agg (rB 64 l).toArray,i6 x,.bool p] [ob y #[pt D 0,pt r 0] 242,ob r #[pt g 0,u] 309,ob g (rB 255 aT++rN 256 aW).toArray 312,.p (aG eB u c8)] [] N0 (λ_=> .agg (rB 72 (fY 36 (mI l x p) 2)).toArray):=by
 have a:=True.intro;have b:=True.intro;refine fO Tryz.func125 3 rfl λv B=>fG Tryz.func125 λw K=>ra (λf=>[(5,pt (B0 f) 0),(6,pt (B1 f) 0),(7,pt (B2 f) 0),(9,pt (B3 f) 0),(10,pt (B4 f) 0)]) (λf=>[ob (B0 f) #[pt y 0] 116,ob (B1 f) #[i6 2] 3,ob (B2 f) (rB 64 l).toArray 43,ob (B3 f) #[.bool p] 4,ob (B4 f) (rB 72 (WM 72 0)).toArray 217]) λf=>ra (λo=>[(11,pt (B0 o) 0)]) (λo=>[ob (B0 o) (rB 72 (WM 72 0)).toArray 217]) λo=>r0 [(0,.l 5)] [(19,i6 2)] [] (rF [] 20 (rT [] 45 (rr (λ_=>[(1,.l 7),(2,.c [] [] (CQ x Om Om p)),(4,.s 10)]) (λt=>[(15,pt (B3 t) 0)]) [] (λt L=>L++[ob (B3 t) (rB 3 (dF x p)).toArray 262]) λt=>rr (λ_=>[(0,.l 6),(1,.c [] [11] (MG l (by(simp only[LL,a,jZ,mH,b,e];done))))]) (λq=>[(51,.func (.func 202) #[] #[pt ((B1 q)) 0])]) [] (λq L=>L++[ob (B1 q) (rB 64 l).toArray 43]) λq=>?_)));refine oP (encs:=λ(x:Nat×List UInt8)=>#[i6 (x.1:Int),.agg (rB 32 x.2).toArray]) (xs:=(WL 2).map λk=>(k,(l.drop (32*k)).take 32)) (KO:=[[((B1 q),.cells (rB 64 l).toArray 43 (0,0))]]) (MI (B1 q) l (by(simp only[LL,a,jZ,mH,b,e];done))) (enters_of Tryz.func202 Kr rfl) (λk=>k≤2) (λk L=>L.set 9 (ob (B0 o) (rB 72 (fY 36 (mI l x p) k)).toArray 217)) [11] Om (by rw[C3];kernel_rfl) (λM k N G I C z=>?_) (λF z=>?_)
 ·obtain⟨A,rfl⟩:=lK C;have a:=pT (n:=36) (rO e x p) (k:=k) Om;have b:((l.drop (32*k)).take 32).length=32:=by rw[WQ,WY];omega
  refine r0 [] [(16,iN k)] [] (rr (λ_=>[(1,.s 12)]) (λd=>[(17,pt (B0 d) 0)]) [] (λd L=>L++[ob (B0 d) (rB 32 ((l.drop (32*k)).take 32)).toArray 267]) λd=>?_);refine ag [11] (λH J=>?_);exact rr (λ_=>[(0,.l 4),(3,.l 0),(4,.l 12),(5,.l 10),(6,.c [1,2,3] [] (aa.at (rd':=[ob r #[pt g 0,u] 309,ob g (rB 255 aT++rN 256 aW).toArray 312,.c v]) (L3 r g u ((l.drop (32*k)).take 32) (dF x p) (by(simp only[LL,a,jZ,mH,b,e];done)) (by(simp only[LL,a,jZ,mH,b,e];done))) (aP (aP (ec B (λ_ h=>h)))))),(8,.s 13)]) (λi=>[(18,pt (B7 i) 0)]) [] (λi L=>L++[ob (B7 i) (rB 4 (jf (((l.drop (32*k)).take 32)) ((dF x p)))).toArray 268]) λi=>rr (λj=>[(0,.l 9),(1,.l 5),(3,aS 268 (B7 i) 4 1),(4,aS 267 (B0 d) 32 1),(5,.m (JT kB 14 13 12 (B7 i) 4 (rB 4 (jf (((l.drop (32*k)).take 32)) ((dF x p)))).toArray 268 (jf (((l.drop (32*k)).take 32)) ((dF x p))) ((l.drop (32*k)).take 32) (.slice (some ⟨(d 0).y 0,0,none⟩) 32 32) (ob (B0 d) (rB 32 ((l.drop (32*k)).take 32)).toArray 267) (λ_ h=>by rw[show _=_ from h];exact oR (λ_=>rfl) (show((l.drop (32*k)).take 32).length=32 by(simp only[LL,a,jZ,mH,b,e];done))) (jZ ..) (AY (jZ ..)) (by rw[(show((l.drop (32*k)).take 32).length=32 by(simp only[LL,a,jZ,mH,b,e];done))];omega) (by rw[(jZ ..),(show((l.drop (32*k)).take 32).length=32 by(simp only[LL,a,jZ,mH,b,e];done))];omega))),(6,.c [14] [] (aa.at (rd':=[bC ((j 5).val 0) ((jf (((l.drop (32*k)).take 32)) ((dF x p)))++((l.drop (32*k)).take 32))]) (MK (fY 36 (mI l x p) k) ((jf (((l.drop (32*k)).take 32)) ((dF x p)))++((l.drop (32*k)).take 32)) ((j 5).val 0) (by(simp only[LL,a,jZ,mH,b,e];done)) k Om (by(simp only[LL,a,jZ,mH,b,e];done))) (bL (λ_ h=>aq.sq h) (λ_ h=>h)))),(7,.s 9)]) N0 [] (λj L=>L.set 9 (ob (B0 o) (rB 72 ((fY 36 (mI l x p) k).take (36*k)++((jf (((l.drop (32*k)).take 32)) ((dF x p)))++((l.drop (32*k)).take 32))++(fY 36 (mI l x p) k).drop ((36*k)+((jf (((l.drop (32*k)).take 32)) ((dF x p)))++((l.drop (32*k)).take 32)).length))).toArray 217)++[bC ((j 5).val 0) ((jf (((l.drop (32*k)).take 32)) ((dF x p)))++((l.drop (32*k)).take 32))]) λj=>ne _ ⟨Om,rfl⟩ [0,1,2,3,4,5,6,7,8,9,10,11] (by rw[←C2 (rO e x p) (rO e x p k),Nl Om];kernel_rfl)
 have a:=pT (n:=36) (rO e x p) (k:=2) Om;exact rs [(0,.l 9),(1,.s 8)] 8 (ob (B4 f) (rB 72 (fY 36 (mI l x p) 2)).toArray 217) (lf ab.zero [] [(0,0),(1,1),(2,2),(3,3)] [8])
end
def aX(mode:Int):Nat:=if mode=1 then 9 else if mode=2 then 36 else 0
def dT(mode:Int):Nat:=if mode=1 then 8 else if mode=2 then 2 else 0
def dG(mode:Int)(a b:UInt8):Nat:=if mode=1 then pc (a^^^b).toNat else if a=b then 0 else 1
theorem C4{n:Nat}(h:n<256):pc n≤8:=by
 have a:pc n=iV 8 n:=(G5 8 n Om Om).symm;rw[a];exact zZ 8 n
theorem No(mode:Int)(a b:UInt8):dG mode a b≤if mode=1 then 8 else 1:=by
 unfold dG
 split
 ·exact C4 (a^^^b).toNat_lt
 ·split<;>omega
def dw(f:Nat→Nat):Nat→Nat
 | 0=>0
 | k+1=>dw f k+f k
def wC(mode:Int)(xs ys:List UInt8)(k:Nat):Nat:=dw (λj=>dG mode (xs.getD (aX mode*k+j) 0) (ys.getD (aX mode*k+j) 0)) (aX mode)
def kW(mode:Int)(xs ys:List UInt8):Nat→Nat
 | 0=>0
 | k+1=>max (kW mode xs ys k) (wC mode xs ys k)
def kz(mode:Int)(xs ys:List UInt8):Nat:=kW mode xs ys (dT mode)
section
open Go.Shelf

end
section
open Go.Shelf

end
section
open Go.Shelf
theorem C5(l:List Int): ∀a:Int,(a≤l.foldl max a∧(∀x,x∈l→x≤l.foldl max a))∧∀m,a≤m→(∀x,x∈l→x≤m)→l.foldl max a≤m:=by
 induction l with
 | nil=>intro a;exact⟨⟨Int.le_refl _,λx h=>absurd h XM⟩,λm h _=>h⟩
 | cons y l ih=>
  intro a;obtain⟨⟨e,c⟩,d⟩:=ih (max a y);rw[X8];refine⟨⟨by omega,λx b=>?_⟩,λm f b=>d m (by have:=b y Xw;omega) λx h=>b x (Xr _ h)⟩;rcases List.mem_cons.1 b with rfl | h
  ·omega
  ·exact c x h
theorem Np(l:List Int):0≤jK l:=(C5 l 0).1.1
theorem Nq{l:List Int}{m:Int}(h0:0≤m)(h: ∀x,x∈l→x≤m):jK l≤m:=(C5 l 0).2 m h0 h
end
end E
section
open Go.Shelf

end
namespace E
section
open Go.Shelf
theorem Nr{r:List UInt8}{y:Int}{k b:Nat}{c:Int}{a:UInt8}(h:gz (Go.Proofs.YtbcodenfkijdnaaGreat.co (a4 (o0 r k) (dF y false)))=⟨b,c,a⟩):cK r y k=if b=0 then 0 else if b=1 then 1 else if b=2∧c=38∧a=128 then 2 else 3:=by
 unfold cK nm oZ fm cU eO;rw[h];show(bif ((b:Nat):Int)==0 then 0 else(bif ((b:Nat):Int)==1 then 1 else(bif ((((b:Nat):Int)==2)&&(c==38))&&((a.toNat:Int)==128) then 2 else 3)))=(_:Int);by_cases e:b=0
 ·subst e;rfl
 by_cases f:b=1
 ·subst f;rfl
 rw[ALifn e,ALifn f];have i:(((b:Nat):Int)==0)=false:=by rw[dN];omega
 have j:(((b:Nat):Int)==1)=false:=by rw[dN];omega
 rw[i,j,ALcf,ALcf];by_cases d:b=2∧c=38∧a=128
 ·obtain⟨rfl,rfl,rfl⟩:=d;rfl
 ·rw[ALifn d];have l:((((b:Nat):Int)==2)&&(c==38)&&((a.toNat:Int)==128))=false:=by
   apply Bool.eq_false_iff.2;intro g;rw[WS,WS,beq_iff_eq,beq_iff_eq,beq_iff_eq] at g;exact d ⟨by omega,g.1.2,UInt8.toNat_inj.1 (by show a.toNat=128;omega)⟩
  rw[l,ALcf]
theorem Nu(r:List UInt8)(y:Int)(k:Nat):cK r y k≤3:=by
 obtain⟨⟨b,c,a⟩,h⟩: ∃V,gz (Go.Proofs.YtbcodenfkijdnaaGreat.co (a4 (o0 r k) (dF y false)))=V:=⟨_,rfl⟩;rw[Nr h]
 split
 ·decide
 ·split
  ·decide
  ·split<;>decide
end
section
open Go.Shelf

end
end E
section
open Go.ChangeShapes Go.Deep Go.WideShapes
inductive gY where
 | int (k:IntKind)
 | bool
def C6:gY→Value→Prop
 | .int k,v=>∃z:Int,v= .int k z∧(Lit.int k z).wf=true
 | .bool,v=>∃b:Bool,v= .bool b
def o1(P:Program)(r:TypeId→Option (List gY)):Nat→List Field→Option (List gY)
 | _,[]=>some []
 | off,f::fs=>match r f.type with
  | none=>none
  | some l=>if f.offset==off&&P.cellsOf f.type==l.length then(o1 P r (off+l.length) fs).map λm=>l++m else none
def nq(P:Program):Nat→TypeId→Option (List gY)
 | 0,_=>none
 | n+1,t=>match P.underlying t with
  | some .bool=>some [.bool]
  | some (.int k)=>some [.int k]
  | some (.struct a)=>match o1 P (nq P n) 0 a.toList with
   | some l=>if P.cellsOf t==l.length then some l else none
   | none=>none
  | some (.array m e)=>match nq P n e with
   | some l=>if P.cellsOf e==l.length&&P.cellsOf t==m*l.length then some (WM m l).flatten else none
   | none=>none
  | _=>none
def dY(ls:List gY)(cs:List Value):Prop:=cs.length=ls.length∧∀(i:Nat) (lf:gY),ls[i]? =some lf→∃v,cs[i]? =some v∧C6 lf v
theorem dY.append{l m:List gY}{cs:List Value}{k:Nat}(q:k=l.length)(h1:dY l (cs.take k))(h2:dY m (cs.drop k)):dY (l++m) cs:=by
 subst q;obtain⟨f,g⟩:=h1;obtain⟨j,p⟩:=h2;rw[WQ] at f;rw[WY] at j;refine⟨by rw[WO];omega,λi e h=>?_⟩;rcases XD i l.length with c | c
 ·rw[W4 c] at h;obtain⟨v,a,d⟩:=g i e h;rw[Xi c] at a;exact⟨v,a,d⟩
 ·rw[W5 c] at h;obtain⟨v,a,d⟩:=p _ e h;rw[Xl,show l.length+(i-l.length)=i by omega] at a;exact⟨v,a,d⟩
section
variable {H:Type} {enc:TypeId×Value→H} {P:Program} {w:World} {base:Nat} {spare:Nat→Bool} {held:Bool}
theorem C7{r:TypeId→Option (List gY)}{m:Nat}(p: ∀t ls cs x,r t=some ls→DataW.trod enc P w base spare held m t cs=some x→dY ls cs):
  ∀(c:List Field) (off:Nat) (ls:List gY) (cs:List Value),o1 P r off c=some ls→off+ls.length=cs.length→
   (∀(i:Nat) (f:Field),c[i]? =some f→∃x,DataW.trod enc P w base spare held m f.type ((cs.drop f.offset).take (P.cellsOf f.type))=some x)→dY ls (cs.drop off)
 | [],off,ls,cs,h,e,_=>by
  simp only[o1,Option.some.injEq] at h;subst h;exact⟨by simp at e⊢;omega,λi z h=>by simp at h⟩
 | f::c,off,ls,cs,h,e,k=>by
  unfold o1 at h;cases a:r f.type with
  | none=>rw[a] at h;cases h
  | some l=>
   rw[a] at h;simp only at h
   split at h
   ·rename_i d;simp only[WS,beq_iff_eq] at d;cases j:o1 P r (off+l.length) c with
    | none=>rw[j] at h;cases h
    | some y=>
     rw[j] at h;simp only[XL,Option.some.injEq] at h;subst h;rw[WO] at e;obtain⟨x,q⟩:=k 0 f rfl;rw[d.1,d.2] at q;have s:=p _ _ _ _ a q;have u:=C7 p c (off+l.length) y cs j Om λi g v=>k (i+1) g (by simpa using v);exact dY.append rfl s (by rw[XE];exact u)
   ·cases h
theorem C8{r:List Value→Prop}{l:List gY}(d: ∀cs,r cs→dY l cs): ∀(m:Nat) (cs:List Value),cs.length=m*l.length→(∀i,i<m→r ((cs.drop (i*l.length)).take l.length))→dY (WM m l).flatten cs
 | 0,cs,h,_=>by
  have:cs=[]:=List.eq_nil_of_length_eq_zero Om;subst this;exact⟨rfl,λi g h=>by simp at h⟩
 | m+1,cs,h,c=>by
  rw[XG,Xa];have a:=d _ (c 0 Om);rw[XN,List.drop_zero] at a;refine dY.append rfl a (C8 d m _ (by rw[WY,h,Yj];omega) λi f=>?_);have e:=c (i+1) Om;rw[XE];rwa [show(i+1)*l.length=l.length+i*l.length by rw[Yj];omega] at e
theorem uO: ∀(n:Nat) (t:TypeId) (s:List gY) (c:Nat) (a:List Value) (x:DataW H×List MemPlace),nq P n t=some s→DataW.trod enc P w base spare held c t a=some x→dY s a
 | 0,_,_,_,_,_,h,_=>by simp [nq] at h
 | n+1,t,s,c,a,x,h,y=>by
  unfold nq at h;cases q:P.underlying t with
  | none=>rw[q] at h;cases h
  | some d=>
   rw[q] at h;cases d with
   | bool=>
    simp only[Option.some.injEq] at h;subst h;obtain⟨b,rfl,_⟩:=DataW.trod_bool q y;exact⟨rfl,λi L h=>by
     cases i with
     | zero=>simp only[Xz,Option.some.injEq] at h;subst h;exact⟨_,rfl,b,rfl⟩
     | succ i=>simp at h⟩
   | int k=>
    simp only[Option.some.injEq] at h;subst h;obtain⟨z,rfl,_,K⟩:=DataW.trod_int q y;exact⟨rfl,λi L h=>by
     cases i with
     | zero=>simp only[Xz,Option.some.injEq] at h;subst h;exact⟨_,rfl,z,rfl,K⟩
     | succ i=>simp at h⟩
   | struct D=>
    simp only at h;cases j:o1 P (nq P n) 0 D.toList with
    | none=>rw[j] at h;cases h
    | some l=>
     rw[j] at h;simp only at h
     split at h
     ·rename_i v;rw[beq_iff_eq] at v;cases h;obtain⟨B,m,_,_,J,u,g⟩:=DataW.trod_struct q y;have:=C7 (m:=m) (λt s a x p I=>uO n t s m a x p I) D.toList 0 s a j Om λi f F=>by
       have p:=g i f (by simpa using F);have C:i<B.length:=by rw[u];have:=(List.getElem?_eq_some_iff.1 F).1;simpa using this
       exact⟨B[i],by rw[p,WN C]⟩
      simpa using this
     ·cases h
   | array m e=>
    simp only at h;cases j:nq P n e with
    | none=>rw[j] at h;cases h
    | some l=>
     rw[j] at h;simp only at h
     split at h
     ·rename_i v;simp only[WS,beq_iff_eq] at v;cases h;obtain⟨B,G,_,_,J,u,g⟩:=DataW.trod_array q y;refine C8 (r:=λa=>∃x,DataW.trod enc P w base spare held G e a=some x) (λa ⟨x,h⟩=>uO n e l G a x j h) m a Om λi C=>?_;have p:=g i C;rw[v.1] at p;exact⟨B[i]'Om,by rw[p,WN Om]⟩
     ·cases h
   | _=>simp at h
theorem Nv{t:TypeId}{v:Value}{d:DataW H}{p:List MemPlace}(n:Nat){ls:List gY}(f:nq P n t=some ls)(c: ∃cs,v= .agg cs)(h:DataW.Trod enc P w base spare held t v d p): ∃cs:List Value,v= .agg cs.toArray∧dY ls cs:=by
 obtain⟨cs,rfl⟩:=c;obtain⟨a,e⟩:=h;exact⟨cs.toList,by simp,uO n t ls a _ _ f e⟩
theorem Nw{r:Reach}{c:Nat}{t:TypeId}{v:Value}{d:TypeDesc}(ht:P.underlying t=some d)(e:(match d with | .struct _ | .array _ _=>true | _=>false)=true)(h:Value.okWide P w r c t v): ∃cs,v= .agg cs:=by
 simp only[Value.okWide,ht] at h;cases d<;>simp at e
 ·obtain⟨cs,a,_⟩:=h;exact⟨cs,a⟩
 ·obtain⟨cs,a,_⟩:=h;exact⟨cs,a⟩
end
theorem Nx{z:Int}(h:(Lit.int .i64 z).wf=true): -9223372036854775808≤z∧z≤9223372036854775807:=by
 have:=bounds_i64 h;omega
theorem rP: ∀(n:Nat) (a:List Value),dY (WM n (.int .i64)) a→∃d:List Int,d.length=n∧a=d.map (λz=>Value.int .i64 z)∧∀z∈d, -9223372036854775808≤z∧z≤9223372036854775807
 | 0,a,h=>⟨[],rfl,by have:=h.1;simp at this;simpa using this,by simp⟩
 | n+1,a,h=>by
  obtain⟨g,j⟩:=h;cases a with
  | nil=>simp at g
  | cons c a=>
   obtain⟨v,f,z,k,l⟩:=j 0 (.int .i64) (by simp);obtain⟨d,m,p,q⟩:=rP n a ⟨by simpa using g,λi s r=>by simpa using j (i+1) s (by rw[XG,Xm];exact r)⟩;simp only[Xz,Option.some.injEq] at f;subst f;subst k;refine⟨z::d,by simp [m],by simp [p],λy e=>?_⟩;rcases List.mem_cons.1 e with rfl | e
   ·exact Nx l
   ·exact q y e
end
section
open Go.ChangeShapes Go.Deep Go.WideShapes
def mJ(n:Nat)(w:World)(A:Option Addr)(rows:List (List Value)):Prop:=
 ∀(i:Nat) (r:List Value),rows[i]? =some r→r.length=n∧∃b o,A=some ⟨b,o,none⟩∧b<w.heap.size∧∀(j:Nat) (v:Value),r[j]? =some v→w.cell? ⟨b,o+i*n+j,none⟩=some v
section
variable {n:Nat} {w w':World} {A:Option Addr} {rows:List (List Value)}
theorem mJ.nil:mJ n w A []:=λi r h=>by simp at h
end
section
variable {P:Program} {w:World} {b off:Nat}
end
section
variable {P:Program} {w:World} {o:Oper} {ρ:Operand→Value}
end
section
variable {H:Type} {enc:TypeId×Value→H} {P:Program} {w:World} {base:Nat} {spare:Nat→Bool} {held:Bool}
theorem yh{t e:TypeId}{A:Option Addr}{g s:Nat}{d:DataW H}{p:List MemPlace}(n:Nat){ls:List gY}(Y:nq P n e=some ls)(hn:P.cellsOf e=ls.length)(h0:0<ls.length)(ht:P.underlying t=some (.slice e))
  (h:DataW.Trod enc P w base spare held t (.slice A g s) d p): ∃rows:List (List Value),rows.length=g∧(∀r∈rows,dY ls r)∧mJ ls.length w A rows∧g≤s∧s≤maxLen:=by
 obtain⟨T,W⟩:=h;rcases open_slice ht W with⟨k,_⟩ | ⟨a,l,c,m,n',D,Pl,k,_,O,hm,R,_,hx⟩
 ·simp [Value.cells] at k;obtain⟨rfl,rfl,rfl⟩:=k;exact⟨[],rfl,by simp,mJ.nil,W8 _,Xp _⟩
 ·simp [Value.cells] at k;obtain⟨rfl,rfl,rfl⟩:=k;have Z:g≤m:=by rw[R];split<;>omega
  obtain⟨f,z⟩:=choose_lt (α:=List Value) (n:=g) (p:=λi S=>w.cells? base (a.add (i*P.cellsOf e)) (P.cellsOf e)=some S∧dY ls S) λi G=>by
   obtain⟨F,K,L⟩:=hx i Om;exact⟨F,K,uO n e ls n' F _ Y L⟩
  refine⟨(WL g).map f,by simp,λr C=>?_,λi r C=>?_,O,hm⟩
  ·obtain⟨i,G,rfl⟩:=List.mem_map.1 C;exact(z i (List.mem_range.1 G)).2
  ·have G:i<g:=by have:=(List.getElem?_eq_some_iff.1 C).1;simpa using this
   rw[Xo,XF G] at C;simp only[XL,Option.some.injEq] at C;subst C;obtain⟨K,L⟩:=z i G;obtain⟨_,h3,U⟩:=X4 K;refine⟨L.1,?_⟩;obtain⟨b,o,J⟩:=a;have u:=U 0 Om;have M:(f i)[0]? =some ((f i)[0]'Om):=WN Om;rw[M] at u;have B:J=none:=by
    obtain⟨z1,z2⟩:=z 0 Om;have I:=(X4 z1).2.2 0 Om;have hzl:=z2.1;rw[WN (show 0<(f 0).length by omega)] at I;have:=World.cell?_spot I;simpa [Addr.add] using this
   subst B;have q: ∀(x y:Nat),((⟨b,o,none⟩:Addr).add x).add y=⟨b,o+x+y,none⟩:=λx y=>by
    unfold Addr.add
    split<;>split<;>simp_all
   refine⟨b,o,rfl,?_,λj v V=>?_⟩
   ·rcases XD b w.heap.size with Q | N
    ·exact Q
    ·exfalso;rw[q] at u;simp [Yh,Array.getElem?_eq_none N] at u
   ·have X:j<P.cellsOf e:=by have:=(List.getElem?_eq_some_iff.1 V).1;omega
    have:=U j X;rw[q,hn] at this;rw[this,V]
end
end
namespace E
section
open Go.Shelf
theorem Ny{w:World}{b o:Nat}{v:Value}(h:w.cell? ⟨b,o,none⟩=some v): ∃cs t a,w.heap[b]? =some (.cells cs t a):=by
 unfold Yh at h;cases c:w.heap[b]? with
 | none=>simp [c] at h
 | some x=>
  cases x with
  | cells cs t a=>exact⟨cs,t,a,rfl⟩
  | _=>simp [c] at h
theorem Nz{α:Type}{en:α→List Value}{k:Nat}(b: ∀y,(en y).length=k){xs:List α}{i r:Nat}(a:i<xs.length)(c:r<k)(d:α):(ak en xs)[i*k+r]? =(en (xs.getD i d))[r]? :=by
 have h:=ALca (λl=>l[r]?) (tI (d:=d) b a);simp only[Xi c,Xl] at h;exact h
theorem C9{α:Type}{en:α→List Value}{k:Nat}{w:World}{A:Option Addr}{n c:Nat}{xs:List α}(f: ∀y,(en y).length=k)(h0:0<k)(h:mJ k w A (xs.map en))(K:xs.length=n): ∃q,Has q w∧SrE en (.slice A n c) xs q:=by
 subst K;cases m:xs with
 | nil=>exact⟨[],⟨λ_ h=>by simp at h,List.Pairwise.nil⟩,.inl ⟨rfl,A,c,rfl⟩⟩
 | cons a P=>
  rw[←m];have B:0<xs.length:=by rw[m];exact Nat.zero_lt_succ _
  obtain⟨_,b,o,rfl,J,G⟩:=h 0 (en a) (by rw[m];rfl);have d: ∃v,(en a)[0]? =some v:=⟨(en a)[0]'(by rw[f];exact h0),WN _⟩;obtain⟨M,l⟩:=d;obtain⟨e,t,g,u⟩:=Ny (G 0 M l);refine⟨[(b,.cells e t g)],⟨λz L=>by rw[List.mem_singleton.1 L];exact u,List.pairwise_singleton _ _⟩,.inr ⟨b,o,e,t,g,c,rfl,List.mem_singleton.2 rfl,?_⟩⟩;have F:(ak en xs).length=xs.length*k:=fJ f rfl;have p: ∀j,j<xs.length*k→e.toList[o+j]? =(ak en xs)[j]? :=by
   intro j d;have x:j/k<xs.length:=Xb (by rw[WT];exact d);have C:j%k<k:=WU _ h0;have H:j=j/k*k+j%k:=(Nat.div_add_mod' j k).symm;obtain⟨_,N,O,I,_,i⟩:=h (j/k) (en (xs.getD (j/k) a)) (by rw[Xo,WK,WN x];rfl);cases I;have D:(en (xs.getD (j/k) a))[j%k]? =some ((en (xs.getD (j/k) a))[j%k]'(by rw[f];exact C)):=WN _;have r:=i (j%k) _ D;rw[cell_of_row w b _ e t g u,←Array.getElem?_toList] at r;have s:=Nz f x C a;rw[←H] at s;rw[s,D,←r]
   congr 1
   omega
  rw[F];apply Xy;intro j;by_cases d:j<xs.length*k
  ·rw[Xi d,Xl];exact p j d
  ·rw[W6 (by rw[WQ];omega),W6 Om]
theorem SrE.mono{α:Type}{en:α→List Value}{v:Value}{xs:List α}{bs bs':ay}(h:SrE en v xs bs)(hs: ∀x∈bs,x∈bs'):SrE en v xs bs':=by
 rcases h with h | ⟨g,a,b,t,d,c,e,f,i⟩
 ·exact .inl h
 ·exact .inr ⟨g,a,b,t,d,c,e,hs _ f,i⟩
theorem Has.join{w:World}: ∀{a b:ay},Has a w→Has b w→∃c,Has c w∧(∀x∈a,x∈c)∧∀x∈b,x∈c
 | [],b,_,k=>⟨b,k,λx h=>by simp at h,λ_ h=>h⟩
 | y::a,b,i,k=>by
  have j:Has a w:=⟨λx d=>i.obj x (Xr _ d),(List.pairwise_cons.1 i.nd).2⟩;obtain⟨c,f,m,n⟩:=Has.join j k;have p:=i.obj y (Xw ..);by_cases o: ∃z∈c,z.1=y.1
  ·obtain⟨z,g,e⟩:=o;have l:z=y:=by
    have:=f.obj z g;rw[e,p] at this;exact Prod.ext e (Option.some.inj this).symm
   exact⟨c,f,λx d=>by
    rcases List.mem_cons.1 d with rfl | d
    ·rw[←l];exact g
    ·exact m x d,n⟩
  ·refine⟨y::c,⟨λx d=>?_,List.pairwise_cons.2 ⟨λz g e=>o ⟨z,g,e.symm⟩,f.nd⟩⟩,λx d=>?_,λx d=>Xr _ (n x d)⟩
   ·rcases List.mem_cons.1 d with rfl | d
    ·exact p
    ·exact f.obj x d
   ·rcases List.mem_cons.1 d with rfl | d
    ·exact Xw ..
    ·exact Xr _ (m x d)
end
section
open Go.Shelf
def dP(x:Int):Int:=IntKind.i64.wrap x
theorem Da{x:Int}(h0: -9223372036854775808≤x)(h1:x≤9223372036854775807):dP x=x:=IntWalk.i64_in _ Om
section
variable {P:Program} {T:TypeId} {x y:Operand} {w:World}
theorem NA(a b:Int):(av .and T x y (.int .i64 a) (.int .i64 b)).run P w= .ok (.int .i64 (bits .and .i64 a b)) w:=rfl
theorem NB(a b:Int):(av .add T x y (.int .i64 a) (.int .i64 b)).run P w= .ok (.int .i64 (dP (a+b))) w:=rfl
theorem Db(a b:Int):(av .sub T x y (.int .i64 a) (.int .i64 b)).run P w= .ok (.int .i64 (dP (a-b))) w:=rfl
theorem yi(a b:Int):(av .mul T x y (.int .i64 a) (.int .i64 b)).run P w= .ok (.int .i64 (dP (a*b))) w:=rfl
end
def fq(n a:Int):Bool:=((decide (1≤n))&&(decide (n≤a)))&&((bits .and .i64 n (dP (n-1)))==0)
theorem mK{n a:Int}(h:fq n a=true):1≤n∧n≤a:=by
 unfold fq at h;simp only[WS,decide_eq_true_eq] at h;exact h.1
theorem NC: ∀n:Nat,n<1025→fq (n:Int) 1024=true→n∈[1,2,4,8,16,32,64,128,256,512,1024]:=by decide+kernel
theorem Dd{n:Nat}{a:Int}(c:a≤1024)(h:fq (n:Int) a=true):n∈[1,2,4,8,16,32,64,128,256,512,1024]:=by
 have b:=mK h;refine NC n Om ?_;unfold fq at h⊢;simp only[WS,decide_eq_true_eq] at h⊢;exact⟨⟨h.1.1,by omega⟩,h.2⟩
def ji(r s b m c:Int):Bool:=((((((fq r 8)&&(decide (0≤s)))&&(decide (s≤(dP (8-r)))))&&(fq b 16))&&(fq m 1024))&&(fq c 64))&&(decide ((dP (dP (dP (dP (r+s)*b)*m)*c))≤4096))
structure b6 (R S B M C:Nat):Prop where
 ok:ji R S B M C=true
structure gZ (R S B M C:Nat):Prop where
 r1:1≤R
 r8:R+S≤8
 b1:1≤B
 b16:B≤16
 m1:1≤M
 m10:M≤1024
 c1:1≤C
 c64:C≤64
 all:(R+S)*B*M*C≤4096
theorem De{r s b m c:Int}(h:ji r s b m c=true): ∃R S B M C:Nat,r=R∧s=S∧b=B∧m=M∧c=C∧b6 R S B M C:=by
 have a:=h;unfold ji at h;simp only[WS,decide_eq_true_eq] at h;obtain⟨⟨⟨⟨⟨⟨d,i⟩,j⟩,e⟩,f⟩,g⟩,k⟩:=h;have:=mK d;have:=mK e;have:=mK f;have:=mK g;refine⟨r.toNat,s.toNat,b.toNat,m.toNat,c.toNat,by omega,by omega,by omega,by omega,by omega,⟨?_⟩⟩;rw[Xd Om,Xd Om,Xd Om,Xd Om,Xd Om];exact a
theorem b6.bd{R S B M C:Nat}(h:b6 R S B M C):gZ R S B M C:=by
 have h:=h.ok;unfold ji at h;simp only[WS,decide_eq_true_eq] at h;obtain⟨⟨⟨⟨⟨⟨e,u⟩,f⟩,g⟩,i⟩,j⟩,k⟩:=h;have p:=mK e;have q:=mK g;have r:=mK i;have s:=mK j;rw[Da Om Om] at f;have b:R+S≤8:=by omega
 have c:(R+S)*B≤8*16:=XH b Om;have d:(R+S)*B*M≤128*1024:=XH c Om;have t:(R+S)*B*M*C≤131072*64:=XH d Om;have a: ∀x:Nat,x≤8388608→dP (x:Int)=(x:Int):=λx v=>Da Om Om;have l:dP ((R:Int)+(S:Int))=((R+S:Nat):Int):=(a (R+S) Om);have m:dP (((R+S:Nat):Int)*(B:Int))=(((R+S)*B:Nat):Int):=by rw[←XT];exact a _ Om
 have n:dP ((((R+S)*B:Nat):Int)*(M:Int))=(((R+S)*B*M:Nat):Int):=by rw[←XT];exact a _ Om
 have o:dP ((((R+S)*B*M:Nat):Int)*(C:Int))=(((R+S)*B*M*C:Nat):Int):=by rw[←XT];exact a _ Om
 rw[l,m,n,o] at k;exact⟨by omega,b,by omega,by omega,by omega,by omega,by omega,by omega,by omega⟩
theorem b6.pow{R S B M C:Nat}(h:b6 R S B M C):B∈[1,2,4,8,16,32,64,128,256,512,1024]:=by
 have h:=h.ok;unfold ji at h;simp only[WS,decide_eq_true_eq] at h;obtain⟨⟨⟨⟨⟨⟨b,c⟩,d⟩,a⟩,e⟩,f⟩,g⟩:=h;exact Dd Dc a
section
variable {R S B M C:Nat} (h:gZ R S B M C)
theorem gZ.rb(h:gZ R S B M C):R*B≤128:=XH (show R≤8 by have:=h.r8;omega) h.b16
theorem gZ.sbm(h:gZ R S B M C):(R+S)*B*M≤4096:=W7 (XB _ h.c1) h.all
theorem gZ.rbm(h:gZ R S B M C):R*B*M≤4096:=W7 (WW M (WW B (X9 R S))) h.sbm
theorem gZ.rbmc(h:gZ R S B M C):R*B*M*C≤4096:=W7 (WW C (WW M (WW B (X9 R S)))) h.all
theorem gZ.bm(h:gZ R S B M C):B*M≤4096:=by
 have a:B*M≤R*(B*M):=XW _ h.r1;rw[←WX] at a;exact W7 a h.rbm
theorem gZ.bmc(h:gZ R S B M C):B*M*C≤4096:=by
 have a:B*M*C≤R*(B*M*C):=XW _ h.r1;rw[←WX,←WX] at a;exact W7 a h.rbmc
end
def bK(i n:Int):Bool:=(decide (0≤i))&&(decide (i<n))
theorem lV{i n:Int}:bK i n=true↔0≤i∧i<n:=by unfold bK;simp
def hold(R S B M C:Nat)(a p1 p2 p3:Int):Bool:=(((bK a ((R+S:Nat):Int))&&(bK p1 (B:Int)))&&(bK p2 (M:Int)))&&(bK p3 (C:Int))
theorem rQ{R S B M C:Nat}{e p1 p2 p3:Int}:hold R S B M C e p1 p2 p3=true↔(0≤e∧e<((R+S:Nat):Int))∧(0≤p1∧p1<(B:Int))∧(0≤p2∧p2<(M:Int))∧(0≤p3∧p3<(C:Int)):=by
 unfold hold;rw[WS,WS,WS,lV,lV,lV,lV]
 constructor
 ·rintro ⟨⟨⟨a,b⟩,c⟩,d⟩;exact⟨a,b,c,d⟩
 ·rintro ⟨a,b,c,d⟩;exact⟨⟨⟨a,b⟩,c⟩,d⟩
def dn(a p1 p2 p3:Int):Int:=a*1048576+p1*65536+p2*64+p3
def fZ(R S B M C:Nat)(i:Int):Bool:= !(decide (i<0)|| !(hold R S B M C (i/1048576) (i/65536%16) (i/64%1024) (i%64)))
theorem ND{R S B M C:Nat}(b:gZ R S B M C){a p1 p2 p3:Int}(h:hold R S B M C a p1 p2 p3=true):dn a p1 p2 p3/1048576=a∧dn a p1 p2 p3/65536%16=p1∧dn a p1 p2 p3/64%1024=p2∧dn a p1 p2 p3%64=p3∧0≤dn a p1 p2 p3∧dn a p1 p2 p3<8388608:=by
 obtain⟨c,d,e,f⟩:=rQ.1 h;have:=b.b16;have:=b.m10;have:=b.c64;have:=b.r8;unfold dn;omega
end
section
open Go.Shelf
theorem uP(n a:Int):aa WJ 97 #[i6 n,i6 a] [] [] N0 (λ_=> .bool (fq n a)):=by
 exact fG Tryz.func97 λw b=>r0 [] [(4,.bool false)] [] (r0 [(10,.t (tv (av .sub 3 (.tmp 14) (.const (i6 1)) (i6 n) (i6 1)) (λ_=>Db n 1))),(11,.t (tv (av .and 3 (.tmp 13) (.tmp 15) (i6 n) (i6 (dP (n-1)))) (λ_=>NA n _))),] [(4,.bool (((decide (1≤n))&&(decide (n≤a)))&&((bits .and .i64 n (dP (n-1)))==0)))] [4] (ao (.bool (((decide (1≤n))&&(decide (n≤a)))&&((bits .and .i64 n (dP (n-1)))==0))) ab.zero bg [] [] []))
theorem uQ(i n:Int):aa WJ 105 #[i6 i,i6 n] [] [] N0 (λ_=> .bool (bK i n)):=by
 exact fG Tryz.func105 λw a=>r0 [] [(4,.bool false)] [] (r0 [] [(4,.bool ((decide (0≤i))&&(decide (i<n))))] [4] (ao (.bool ((decide (0≤i))&&(decide (i<n)))) ab.zero bg [] [] []))
theorem Df(r s b m c:Int):aa WJ 57 #[.agg #[i6 r,i6 s,i6 b,i6 m,i6 c]] [] [] N0 (λ_=> .bool (ji r s b m c)):=by
 exact fG Tryz.func57 λw d=>ra (λa=>[(1,pt (B0 a) 0),(2,.bool false)]) (λa=>[ob (B0 a) #[i6 r,i6 s,i6 b,i6 m,i6 c] 23]) λa=>r0 [(1,.m (ld 0 (i6 r))),(2,.c [] [] (uP r 8)),(5,.m (ld 0 (i6 s))),(10,.m (ld 0 (i6 s))),(12,.m (ld 0 (i6 r))),(13,.t (tv (av .sub 3 (.const (i6 8)) (.tmp 15) (i6 8) (i6 r)) (λ_=>Db 8 r))),(18,.m (ld 0 (i6 b))),(19,.c [] [] (uP b 16)),(23,.m (ld 0 (i6 m))),(24,.c [] [] (uP m 1024)),(28,.m (ld 0 (i6 c))),(29,.c [] [] (uP c 64)),(33,.m (ld 0 (i6 r))),(35,.m (ld 0 (i6 s))),(36,.t (tv (av .add 3 (.tmp 36) (.tmp 38) (i6 r) (i6 s)) (λ_=>NB r s))),(38,.m (ld 0 (i6 b))),(39,.t (tv (av .mul 3 (.tmp 39) (.tmp 41) (i6 (dP (r+s))) (i6 b)) (λ_=>yi _ _))),(41,.m (ld 0 (i6 m))),(42,.t (tv (av .mul 3 (.tmp 42) (.tmp 44) (i6 (dP (dP (r+s)*b))) (i6 m)) (λ_=>yi _ _))),(44,.m (ld 0 (i6 c))),(45,.t (tv (av .mul 3 (.tmp 45) (.tmp 47) (i6 (dP (dP (dP (r+s)*b)*m))) (i6 c)) (λ_=>yi _ _))),] [(2,.bool (((((((fq r 8)&&(decide (0≤s)))&&(decide (s≤(dP (8-r)))))&&(fq b 16))&&(fq m 1024))&&(fq c 64))&&(decide ((dP (dP (dP (dP (r+s)*b)*m)*c))≤4096))))] [2] (ao (.bool (((((((fq r 8)&&(decide (0≤s)))&&(decide (s≤(dP (8-r)))))&&(fq b 16))&&(fq m 1024))&&(fq c 64))&&(decide ((dP (dP (dP (dP (r+s)*b)*m)*c))≤4096)))) ab.zero bg [] [] [])
theorem uR(R S B M C:Nat)(a:b6 R S B M C):aa WJ 57 #[.agg #[iN R,iN S,iN B,iN M,iN C]] [] [] N0 (λ_=> .bool true):=by
 have h:=Df R S B M C;rwa [a.ok] at h
attribute [local irreducible] bK fq dP
theorem rS(R S B M C:Nat)(d:b6 R S B M C)(a p1 p2 p3:Int):aa WJ 73 #[.agg #[iN R,iN S,iN B,iN M,iN C],.agg #[i6 a,i6 p1,i6 p2,i6 p3]] [] [] N0 (λ_=> .bool (hold R S B M C a p1 p2 p3)):=by
 have e:=d.bd;have f:=e.r8;exact fG Tryz.func73 λw g=>ra (λb=>[(2,pt (B0 b) 0),(3,pt (B1 b) 0),(4,.bool false)]) (λb=>[ob (B0 b) #[iN R,iN S,iN B,iN M,iN C] 23,ob (B1 b) #[i6 a,i6 p1,i6 p2,i6 p3] 46]) λb=>r0 [(0,.m (ls 0 ([iN R,iN S,iN B,iN M,iN C]))),(1,.c [] [] (uR R S B M C d)),(4,.m (ld 1 (i6 a))),(6,.m (ld 0 (iN R))),(8,.m (ld 0 (iN S))),(9,ad R S),(10,.c [] [] (uQ a ((R+S:Nat):Int))),(14,.m (ld 1 (i6 p1))),(16,.m (ld 0 (iN B))),(17,.c [] [] (uQ p1 (B:Int))),(21,.m (ld 1 (i6 p2))),(23,.m (ld 0 (iN M))),(24,.c [] [] (uQ p2 (M:Int))),(28,.m (ld 1 (i6 p3))),(30,.m (ld 0 (iN C))),(31,.c [] [] (uQ p3 (C:Int)))] [(4,.bool ((((bK a ((R+S:Nat):Int))&&(bK p1 (B:Int)))&&(bK p2 (M:Int)))&&(bK p3 (C:Int))))] [4] (ao (.bool ((((bK a ((R+S:Nat):Int))&&(bK p1 (B:Int)))&&(bK p2 (M:Int)))&&(bK p3 (C:Int)))) ab.zero bg [] [] [])
theorem Dg(a p1 p2 p3:Int)(c:0≤a)(g:a<8)(d:0≤p1)(h:p1<16)(e:0≤p2)(i:p2<1024)(f:0≤p3)(j:p3<64):aa WJ 102 #[.agg #[i6 a,i6 p1,i6 p2,i6 p3]] [] [] N0 (λ_=>i6 (dn a p1 p2 p3)):=by
 exact fG Tryz.func102 λw k=>ra (λb=>[(1,pt (B0 b) 0),(2,i6 0)]) (λb=>[ob (B0 b) #[i6 a,i6 p1,i6 p2,i6 p3] 46]) λb=>r0 [(1,.m (ld 0 (i6 a))),(2,.t (tv (av .shl 3 (.tmp 4) (.const (u6 20)) (i6 a) (u6 20)) (λ_=>fk 20 Dc Om Om))),(4,.m (ld 0 (i6 p1))),(5,.t (tv (av .shl 3 (.tmp 7) (.const (u6 16)) (i6 p1) (u6 16)) (λ_=>fk 16 Dc Om Om))),(6,.t (tv (av .or 3 (.tmp 5) (.tmp 8) (i6 (a*2^20)) (i6 (p1*2^16))) (λ_=>pM 20 1048576 rfl Om Om Om Om Om))),(8,.m (ld 0 (i6 p2))),(9,.t (tv (av .shl 3 (.tmp 11) (.const (u6 6)) (i6 p2) (u6 6)) (λ_=>fk 6 Dc Om Om))),(10,.t (tv (av .or 3 (.tmp 9) (.tmp 12) (i6 (a*2^20+p1*2^16)) (i6 (p2*2^6))) (λ_=>pM 16 65536 rfl Om Om Om Om Om))),(12,.m (ld 0 (i6 p3))),(13,.t (tv (av .or 3 (.tmp 13) (.tmp 15) (i6 (a*2^20+p1*2^16+p2*2^6)) (i6 p3)) (λ_=>pM 6 64 rfl Om Om Om Om Om)))] [(2,i6 (a*2^20+p1*2^16+p2*2^6+p3))] [2] (ao (i6 (a*2^20+p1*2^16+p2*2^6+p3)) ab.zero (by exact ALca (Value.int .i64) (by unfold dn;omega)) [] [] [])
theorem NF{R S B M C:Nat}(a:gZ R S B M C){b p1 p2 p3:Int}(h:hold R S B M C b p1 p2 p3=true):(0≤b∧b<8)∧(0≤p1∧p1<16)∧(0≤p2∧p2<1024)∧0≤p3∧p3<64:=by
 obtain⟨c,d,e,f⟩:=rQ.1 h;have:=a.b16;have:=a.m10;have:=a.c64;have:=a.r8;omega
def rU(R S B M C:Nat)(a p1 p2 p3:Int):Int:=(bif !(hold R S B M C a p1 p2 p3) then 0 else(dn a p1 p2 p3))
def rV(R S B M C:Nat)(a p1 p2 p3:Int):Int:=(bif !(hold R S B M C a p1 p2 p3) then 12 else 0)
theorem Dh(R S B M C:Nat)(e:b6 R S B M C)(a p1 p2 p3:Int):aa WJ 147 #[.agg #[iN R,iN S,iN B,iN M,iN C],.agg #[i6 a,i6 p1,i6 p2,i6 p3]] [] [] N0 (λ_=> .tuple #[i6 (rU R S B M C a p1 p2 p3),i6 (rV R S B M C a p1 p2 p3)]):=by
 refine fG Tryz.func147 λw f=>ra (λb=>[(2,pt (B0 b) 0),(3,pt (B1 b) 0),(4,i6 0),(5,i6 0)]) (λb=>[ob (B0 b) #[iN R,iN S,iN B,iN M,iN C] 23,ob (B1 b) #[i6 a,i6 p1,i6 p2,i6 p3] 46]) λb=>r0 [(0,.l 0),(1,.l 1),(2,.c [] [] (rS R S B M C e a p1 p2 p3))] [(9,.bool (!(hold R S B M C a p1 p2 p3)))] [] ?_;refine cB (!(hold R S B M C a p1 p2 p3)) (λd=>?_) λd=>?_
 ·exact r0 [] [(4,i6 0),(5,i6 12)] [4,5] (ao (.tuple #[i6 0,i6 12]) ab.zero (by((try simp only[rU,rV]);(repeat (first | rw[d] | rw[ALct])))<;>rfl) [] [] [])
 obtain⟨⟨g,k⟩,⟨h,m⟩,⟨i,n⟩,j,o⟩:=NF e.bd (by simpa using d);exact r0 [(0,.l 1),(1,.c [] [] (Dg a p1 p2 p3 Om Om Om Om Om Om Om Om))] [(4,i6 (dn a p1 p2 p3)),(5,i6 0)] [4,5] (ao (.tuple #[i6 (dn a p1 p2 p3),i6 0]) ab.zero (by((try simp only[rU,rV]);(repeat (first | rw[d] | rw[ALcf])))<;>rfl) [] [] [])
theorem NG(i:Int):aa WJ 104 #[i6 i] [] [] N0 (λ_=> .agg #[i6 (i/1048576),i6 (i/65536%16),i6 (i/64%1024),i6 (i%64)]):=by
 exact fG Tryz.func104 λw b=>ra (λa=>[(2,pt (B0 a) 0)]) (λa=>[ob (B0 a) #[i6 0,i6 0,i6 0,i6 0] 46]) λa=>rs [(1,.t (tv (av .shr 3 (.tmp 3) (.const (u6 20)) (i6 i) (u6 20)) (λ_=>iD 20 Dc))),(3,.t (tv (av .shr 3 (.tmp 5) (.const (u6 16)) (i6 i) (u6 16)) (λ_=>iD 16 Dc))),(4,.t (tv (av .and 3 (.tmp 6) (.const (i6 15)) (i6 (i/65536)) (i6 15)) (λ_=>mA _ 4 16 Dc Dc Dc Dc))),(6,.t (tv (av .shr 3 (.tmp 8) (.const (u6 6)) (i6 i) (u6 6)) (λ_=>iD 6 Dc))),(7,.t (tv (av .and 3 (.tmp 9) (.const (i6 1023)) (i6 (i/64)) (i6 1023)) (λ_=>mA _ 10 1024 Dc Dc Dc Dc))),(9,.t (tv (av .and 3 (.tmp 11) (.const (i6 63)) (i6 i) (i6 63)) (λ_=>mA _ 6 64 Dc Dc Dc Dc))),(11,.s 0)] 0 (ob (B0 a) #[i6 (i/1048576),i6 (i/65536%16),i6 (i/64%1024),i6 (i%64)] 46) (lf ab.zero [] [] [0])
attribute [local irreducible] hold
def rX(R S B M C:Nat)(i:Int):Int:=(bif (decide (i<0))||(!(hold R S B M C (i/1048576) (i/65536%16) (i/64%1024) (i%64))) then 0 else(i/1048576))
def rY(R S B M C:Nat)(i:Int):Int:=(bif (decide (i<0))||(!(hold R S B M C (i/1048576) (i/65536%16) (i/64%1024) (i%64))) then 0 else(i/65536%16))
def rZ(R S B M C:Nat)(i:Int):Int:=(bif (decide (i<0))||(!(hold R S B M C (i/1048576) (i/65536%16) (i/64%1024) (i%64))) then 0 else(i/64%1024))
def r5(R S B M C:Nat)(i:Int):Int:=(bif (decide (i<0))||(!(hold R S B M C (i/1048576) (i/65536%16) (i/64%1024) (i%64))) then 0 else(i%64))
def r6(R S B M C:Nat)(i:Int):Int:=(bif (decide (i<0))||(!(hold R S B M C (i/1048576) (i/65536%16) (i/64%1024) (i%64))) then 12 else 0)
theorem Di(R S B M C:Nat)(e:b6 R S B M C)(i:Int):aa WJ 68 #[.agg #[iN R,iN S,iN B,iN M,iN C],i6 i] [] [] N0 (λ_=> .tuple #[.agg #[i6 (rX R S B M C i),i6 (rY R S B M C i),i6 (rZ R S B M C i),i6 (r5 R S B M C i)],i6 (r6 R S B M C i)]):=by
 refine fG Tryz.func68 λw f=>ra (λa=>[(2,pt (B0 a) 0),(4,pt (B1 a) 0),(5,i6 0)]) (λa=>[ob (B0 a) #[iN R,iN S,iN B,iN M,iN C] 23,ob (B1 a) #[i6 0,i6 0,i6 0,i6 0] 46]) λa=>rr (λ_=>[(1,.c [] [] (NG i)),(3,.s 2)]) (λb=>[(6,pt (B2 b) 0)]) [] (λb L=>L++[ob (B2 b) #[i6 (i/1048576),i6 (i/65536%16),i6 (i/64%1024),i6 (i%64)] 46]) λb=>r0 [(3,.l 0),(4,.l 2),(5,.c [] [] (rS R S B M C e (i/1048576) (i/65536%16) (i/64%1024) (i%64)))] [(16,.bool ((decide (i<0))||(!(hold R S B M C (i/1048576) (i/65536%16) (i/64%1024) (i%64)))))] [] ?_;refine cB ((decide (i<0))||(!(hold R S B M C (i/1048576) (i/65536%16) (i/64%1024) (i%64)))) (λd=>?_) λd=>?_
 ·exact r0 [(1,.s 1)] [(5,i6 12)] [5] (ao (.tuple #[.agg #[i6 0,i6 0,i6 0,i6 0],i6 12]) ab.zero (by((try simp only[rX,rY,rZ,r5,r6]);(repeat (first | rw[d] | rw[ALct])))<;>rfl) [] [] [1])
 exact rr (λ_=>[(0,.l 2),(1,.s 1)]) (λ_=>[(5,i6 0)]) [5] (λ_ L=>L.set 1 (ob (B1 a) #[i6 (i/1048576),i6 (i/65536%16),i6 (i/64%1024),i6 (i%64)] 46)) λg=>ao (.tuple #[.agg #[i6 (i/1048576),i6 (i/65536%16),i6 (i/64%1024),i6 (i%64)],i6 0]) ab.zero (by((try simp only[rX,rY,rZ,r5,r6]);(repeat (first | rw[d] | rw[ALcf])))<;>rfl) [] [] [1]
theorem NH(R S B M C:Nat)(d:b6 R S B M C):aa WJ 224 #[.agg #[iN R,iN S,iN B,iN M,iN C]] [] [] N0 (λ_=>iN ((B*M)*C)):=by
 have b:=d.bd;have f:=b.bm;have g:=b.bmc;exact fG Tryz.func224 λw e=>ra (λa=>[(1,pt (B0 a) 0),(2,i6 0)]) (λa=>[ob (B0 a) #[iN R,iN S,iN B,iN M,iN C] 23]) λa=>rF [(0,.l 0),(1,.c [] [] (uR R S B M C d))] 5 (r0 [(1,.l 0),(3,.l 0),(4,ml B M),(6,.l 0),(7,ml (B*M) C)] [(2,iN ((B*M)*C))] [2] (lf ab.zero [] [] []))
theorem lW(R S B M C:Nat)(d:b6 R S B M C):aa WJ 24 #[.agg #[iN R,iN S,iN B,iN M,iN C]] [] [] N0 (λ_=>iN ((R*B)*M)):=by
 have b:=d.bd;have f:=b.rb;have g:=b.rbm;exact fG Tryz.func24 λw e=>ra (λa=>[(1,pt (B0 a) 0),(2,i6 0)]) (λa=>[ob (B0 a) #[iN R,iN S,iN B,iN M,iN C] 23]) λa=>rF [(0,.l 0),(1,.c [] [] (uR R S B M C d))] 5 (r0 [(1,.l 0),(3,.l 0),(4,ml R B),(6,.l 0),(7,ml (R*B) M)] [(2,iN ((R*B)*M))] [2] (lf ab.zero [] [] []))
end
section
open Go.Shelf
def j9(v:Wr):Nat→aj→aj
 | _,[]=>[]
 | k,x::xs=>((cv v k).getD x)::j9 v (k+1) xs
theorem r7(v:Wr): ∀(k:Nat) (L:aj),(j9 v k L).length=L.length
 | _,[]=>rfl
 | k,x::xs=>by unfold j9;rw[XA,XA,r7 v (k+1) xs]
theorem uS(v:Wr): ∀(k:Nat) (L:aj) (p:Nat),(j9 v k L)[p]? =L[p]?.map λx=>(cv v (k+p)).getD x
 | _,[],_=>by unfold j9;simp
 | k,x::xs,0=>by unfold j9;simp
 | k,x::xs,p+1=>by unfold j9;rw[Xm,Xm,uS v (k+1) xs p,show k+1+p=k+(p+1) by omega]
section
variable {P:Program} {f:FuncId} {args:Array Value} {rest:aj} {wt:ab→aj} {v:ab→Value} {S S':aj→Prop}
theorem NI{L:aj}{w:World}{cs:List ay}(hs:bt L cs)(e:Has cs.flatten w):kJ (bN cs.flatten) w L.length (λp=>L[p]?) (λi=>cs.getD i []) w:=by
 have d:=pz e.nd;have k:=iW hs;have h: ∀i,∀z∈cs.getD i [],z∈cs.flatten:=λi z a=>by
  by_cases g:i<cs.length
  ·exact List.mem_flatten.2 ⟨_,m3 g,a⟩
  ·rw[py g] at a;simp at a
 exact⟨λp j x c=>mj hs c,λp j c=>by rw[List.getElem?_eq_none_iff] at c;omega,λp j z a=>e.obj z (h p z a),λp _=>d.1 p,λp q _ _ b=>d.2 p q b,
  λp _ z a=> .inl (List.mem_map.2 ⟨z,h p z a,rfl⟩),rfl,rfl,rfl,W8 _,λ_ _ _=>rfl⟩
theorem aa.pkR(d:Enters P f)(h: ∀L,S L→aa P f args (L++rest) [] wt v):aa P f args ((pk S)::rest) [] wt v:=by
 refine⟨d,λw a j b=>?_⟩;obtain⟨k,a,rfl,⟨L,c,e,g,rfl⟩,i⟩:=et j;have:=(h L e).out w (c++a) (ko g i) (by rw[Xh];rw[Xa] at b;exact b);simpa using this
theorem yj(q:Nat)(x:aA)(r:Wr)(p:Nat):cv ((q,x)::r) p=if q=p then some x else cv r p:=rfl
theorem Dj: ∀(a b:Wr) (p:Nat),cv (a++b) p=(cv a p).or (cv b p)
 | [],b,p=>by simp [cv]
 | (q,x)::a,b,p=>by
  rw[List.cons_append,yj,yj];by_cases e:q=p
  ·rw[ALifp e,ALifp e];rfl
  ·rw[ALifn e,ALifn e];exact Dj a b p
theorem Dk{qs:List Nat}{p:Nat}(h:p∉qs)(N:aj):cv (qs.zip N) p=none:=by
 cases e:cv (qs.zip N) p with
 | none=>rfl
 | some x=>exact absurd (List.of_mem_zip (qz e)).1 h
theorem Dl(m:Nat): ∀(N:aj) (k p:Nat),cv (((XS k N.length).map λi=>m+i).zip N) (m+k+p)=N[p]?
 | [],k,p=>by simp [cv]
 | x::N,k,0=>by simp [X6,cv]
 | x::N,k,p+1=>by
  rw[XA,X6,List.map_cons,List.zip_cons_cons,Xm,←Dl m N (k+1) p];rw[yj,ALifn Om,show m+k+(p+1)=m+(k+1)+p by omega]
theorem aa.pkW{n:Nat}{N:ab→aj}(hE:Enters P f)(h: ∀L,S L→∃(O:List Nat) (wt:ab→aj),aa P f args (L++rest) O (λE=>wt E++N E) v∧(dc O&&O.all λi=>decide (i<L.length))=true∧∀E,(wt E).length=O.length∧(N E).length=n∧S' (j9 (O.zip (wt E)) 0 L)):
  aa P f args ((pk S)::rest) [0] (λE=>(pk S')::N E) v:=by
 refine⟨hE,λw F hs C=>?_⟩;obtain⟨bs,F,rfl,⟨L,ds,hL,Q,rfl⟩,hr⟩:=et hs;obtain⟨O,wt,hC,I,hW⟩:=h L hL;rw[WS] at I;have X:=nO I.1;have q: ∀i∈O,i<L.length:=λi D=>by simpa using List.all_eq_true.1 I.2 i D
 have hlen:=iW Q;rw[Xa] at C;refine(callsIn_wide (n:=6)).1 ((callsIn_wide.2 (hC.out w (ds++F) (ko Q hr) (by rw[Xh];exact C))).mono λe w' he=>?_);obtain⟨E,r,e1,y,hst⟩:=he;obtain⟨hWl,hNl,K⟩:=hW E;have T:=iW y;rw[WO] at T;have R:bt (L++(N E).map λ_=> .c []) (ds++(N E).map λ_=>[]):=ko Q (by
  generalize N E=M
  induction M with
  | nil=>trivial
  | cons x M ih=>exact⟨rfl,ih⟩)
 have o:(ds++(N E).map λ_=>([]:ay)).flatten=ds.flatten:=by
  rw[Xh];have:((N E).map λ_=>([]:ay)).flatten=[]:=by
   generalize N E=M
   induction M with
   | nil=>rfl
   | cons x M ih=>simp
  rw[this,Xu]
 have V:Has ds.flatten w:=⟨λx hx=>C.obj x (XX _ hx),(List.pairwise_append.1 C.nd).1⟩;obtain⟨c,hF,hc⟩: ∃c,kJ (bN ds.flatten) w (L++(N E).map λ_=>aA.c []).length (λp=>(L++(N E).map λ_=>aA.c [])[p]?) c w∧∀p,c p=(ds++(N E).map λ_=>[]).getD p []:=
  ⟨λp=>(ds++(N E).map λ_=>[]).getD p [],by have:=NI R (w:=w) (by rw[o];exact V);rwa [o] at this,λ_=>rfl⟩
 have t:(L++(N E).map λ_=>aA.c []).length=L.length+(N E).length:=by rw[WO,WR]
 obtain⟨qs,l⟩: ∃qs,qs=O++(XS 0 (N E).length).map λi=>L.length+i:=⟨_,rfl⟩;have Y:qs.length=r.length:=by rw[l,WO,WR,List.length_range'];omega
 have Z:qs.Nodup:=by
  rw[l,List.nodup_append];refine⟨X,?_,λa ha b m e=>?_⟩
  ·refine List.Pairwise.map _ (λa b h e=>h Om) (List.nodup_range' (s:=0) (n:=(N E).length))
  ·obtain⟨i,_,rfl⟩:=List.mem_map.1 m;have:=q a ha;omega
 have u:=tp (qs:=qs) (ds:=r) Y Z;have hzl:qs.length=(wt E++N E).length:=by rw[WO];omega
 have U:((qs.zip (wt E++N E)).flatMap λx=>lH qs r x.1)=r.flatten:=by rw[px hzl,u]
 have H:=hF.step (d:=lH qs r) (v:=qs.zip (wt E++N E)) (tq u y) (by rw[U];exact hst) (λb m=>by
  obtain⟨i,D,m⟩:=List.mem_flatMap.1 m;have hil:=q i D;have hg:(ds++F).getD i []=c i:=by rw[hc,WK,WK,W4 Om,W4 Om]
  rw[hg] at m;obtain⟨z,hz,rfl⟩:=List.mem_map.1 m;refine⟨i,by omega,?_,z,hz,rfl⟩;obtain⟨j,hj,ej⟩:=X2 (show i∈qs from l▸XX _ D);refine⟨(wt E++N E)[j]'Om,?_⟩;rw[←ej];exact List.mem_iff_getElem.2 ⟨j,by rw[List.length_zip];omega,by rw[List.getElem_zip]⟩)
 have A:qs.zip (wt E++N E)=O.zip (wt E)++((XS 0 (N E).length).map λi=>L.length+i).zip (N E):=by rw[l,List.zip_append Om]
 have J:aE (bN ds.flatten) w (j9 (O.zip (wt E)) 0 L++N E) w':=by
  refine⟨oC c (qs.zip (wt E++N E)) (lH qs r),?_⟩;rw[WO,r7,←t];refine H.congr λp hp=>?_;rw[t] at hp;unfold lE;rw[A,Dj];by_cases k:p<L.length
  ·rw[W4 (by rw[r7];exact k),uS,Xj,Dk (qs:=(XS 0 (N E).length).map λi=>L.length+i) (λW=>by obtain⟨i,_,e⟩:=List.mem_map.1 W;omega)];have e2:(L++(N E).map λ_=>aA.c [])[p]? =L[p]? :=W4 k;simp only[e2,WN k];cases cv (O.zip (wt E)) p<;>rfl
  ·rw[W5 (by rw[r7];omega),r7,Dk (λW=>k (q p W))];have:=Dl L.length (N E) 0 (p-L.length);rw[show L.length+0+(p-L.length)=p by omega] at this;rw[this,WN Om];rfl
 obtain⟨cs2,h2,g⟩:=J.conc;obtain⟨B,G,rfl,h3,h4⟩:=nR h2;refine⟨E,B.flatten::G,e1,⟨⟨_,B,K,h3,rfl⟩,h4⟩,?_⟩;have ef:(B.flatten::G).flatten=(B++G).flatten:=by rw[Xa,Xh]
 rw[ef];refine⟨g.os,g.tape,g.output,g.size,g.obj,λx hx=>?_,g.nd,λb m X=>g.far b m (by simpa using X)⟩;have:=g.lo x hx;simpa using this
theorem aa.pkZ{a:Func}(hf:P.funcs[f]? =some a)(h: ∀L,S L→∃(O:List Nat) (wt:ab→aj),aa P f args (L++rest) O (λE=>wt E++[]) v∧(dc O&&O.all λi=>decide (i<L.length))=true∧∀E,(wt E).length=O.length∧([]:aj).length=0∧S' (j9 (O.zip (wt E)) 0 L))(c:(a.name== "runtime.NumGoroutine")=false:=by kernel_rfl)(b:a.body.isSome=true:=by kernel_rfl):aa P f args (.p (qS S)::rest) [0] (λE=> .p (qS S')::[]) v:=aa.pkW (n:=0) (N:=λ_=>[]) (fN hf c b) h
theorem NJ: ∀cs:List ay,(WL cs.length).flatMap (λi=>bN (cs.getD i []))=bN cs.flatten:=by
 intro cs;have h:(WL cs.length).map (λi=>cs.getD i [])=cs:=by
  apply List.ext_getElem (by simp);intro i b a;rw[List.getElem_map,List.getElem_range,WK,WN a];rfl
 have a:(WL cs.length).flatMap (λi=>bN (cs.getD i []))=(((WL cs.length).map λi=>cs.getD i []).map bN).flatten:=by rw[List.flatMap_def,List.map_map];rfl
 rw[a,h];unfold bN;rw[List.map_flatten]
theorem aa.unpk{a c:aj}{N:ab→aj}(h:aa P f args [pk λL=>L=a] [0] (λE=>(pk λL=>L=c)::N E) v):aa P f args a (WL a.length) (λE=>c++N E) v:=by
 refine⟨h.ent,λw g j r=>?_⟩;refine(callsIn_wide (n:=6)).1 ((callsIn_wide.2 (h.out w [g.flatten] ⟨⟨a,g,rfl,j,rfl⟩,trivial⟩ (by simpa using r))).mono λe s q=>?_);obtain⟨E,i,k,l,m⟩:=q;obtain⟨d,i,rfl,⟨L,b,rfl,o,rfl⟩,p⟩:=et l;refine⟨E,b++i,k,ko o p,?_⟩;rw[iW j,NJ,Xh];simpa using m
theorem aa.outs{rd:aj}{O:List Nat}{b:ab→aj}(h:aa P f args rd O wt v)(p: ∀E ds,bt (wt E) ds→∃a,bt (b E) a∧a.flatten=ds.flatten):aa P f args rd O b v:=
 ⟨h.ent,λw c o m=>(callsIn_wide (n:=6)).1 ((callsIn_wide.2 (h.out w c o m)).mono λe q l=>by
  obtain⟨E,ds,d,g,i⟩:=l;obtain⟨a,j,k⟩:=p E ds g;exact⟨E,a,d,j,by rw[k];exact i⟩)⟩
theorem r9{S:aj→Prop}{L:aj}{ds:List ay}(b:S L)(h:bt L ds): ∃a,bt [pk S] a∧a.flatten=ds.flatten:=⟨[ds.flatten],⟨⟨L,ds,b,h,rfl⟩,trivial⟩,by simp⟩
theorem aa.inW{x y:aA}{T T':aj→Prop}(h:aa P f args [x] [0] (λ_=>[y]) v)(m: ∀L,T L→∃j:Nat,L[j]? =some x∧T' (L.set j y)):aa P f args [pk T] [0] (λ_=>[pk T']) v:=by
 refine aa.pkW (n:=0) (N:=λ_=>[]) h.ent λL l=>?_;obtain⟨j,g,b⟩:=m L l;have a:=(List.getElem?_eq_some_iff.1 g).1;refine⟨[j],λ_=>[y],⟨h.ent,λw k c d=>?_⟩,by simp [dc,a],λE=>⟨rfl,rfl,?_⟩⟩
 ·rw[Xu] at c;have o:=iW c;have:=h.out w [k.getD j []] ⟨mj c g,trivial⟩ ⟨λy i=>d.obj y (by
   rw[Xa,X7,Xu] at i;exact List.mem_flatten.2 ⟨_,m3 Om,i⟩),by
   rw[Xa,X7,Xu];exact(pz d.nd).1 j⟩
  simpa using this
 ·have e:j9 ([j].zip [y]) 0 L=L.set j y:=by
   apply Xy;intro p;rw[uS,Xj,Xg];by_cases e:j=p
   ·subst e;simp [cv,a]
   ·rw[ALifn e];cases L[p]?<;>simp [cv,e]
  show T' (j9 ([j].zip [y]) 0 L);rw[e];exact b
end
end
section
open Go.Shelf
def pU(x:Nat):List Value:=[iN x]
def b0:Kd WJ Nat:=⟨pU,[i6 0],74,3,0,1,λ_=>rfl,rfl,λ_=>rfl,dX.mk' Kr Kr rfl⟩
abbrev bo(v:Value)(xs:List Nat):aA:= .p (aq pU ([i6 0]) 3 v xs)
def Dm(x:Bool):List Value:=[.bool x]
def kA:Kd WJ Bool:=⟨Dm,[.bool false],135,4,false,1,λ_=>rfl,rfl,λ_=>rfl,dX.mk' Kr Kr rfl⟩
abbrev eV(v:Value)(xs:List Bool):aA:= .p (aq Dm ([.bool false]) 4 v xs)
def jj(n:Nat)(bs:List Nat)(k:Nat):Nat:=(bs.take k).foldl (· / ·) n
def aC(n:Nat)(bs:List Nat)(k:Nat):List Nat:=(WL k).map λi=>jj n bs i%bs.getD i 0
theorem NK{n:Nat}{bs:List Nat}{k:Nat}(h:k<bs.length):jj n bs (k+1)=jj n bs k/bs.getD k 0:=by
 unfold jj;rw[XJ,WN h,WK,WN h,XK];rfl
theorem NL(n:Nat)(bs:List Nat): ∀k,jj n bs k≤n:=by
 intro k;unfold jj;generalize bs.take k=l
 induction l generalizing n with
 | nil=>exact W8 _
 | cons b l ih=>exact W7 (ih (n/b)) (Yc _ _)
theorem NM{n:Nat}{bs:List Nat}{k:Nat}:aC n bs (k+1)=aC n bs k++[jj n bs k%bs.getD k 0]:=by
 unfold aC;rw[Xk,XC];rfl
theorem NN(n:Nat)(bs:List Nat)(k:Nat):(aC n bs k).length=k:=by unfold aC;rw[WR,WZ]
def dH(d a:List Nat):Nat→Nat
 | 0=>0
 | k+1=>dH d a k*a.getD (a.length-1-k) 0+d.getD (a.length-1-k) 0
theorem Dn{e:BinOp}{f:Nat→Nat→Nat}(a b:Nat)(g:a<9223372036854775808)(i:b<9223372036854775808)(k:f a b<9223372036854775808)(h:bits e .i64 (a:Int) (b:Int)=IntKind.i64.wrap ((f (BitVec.ofInt 64 (a:Int)).toNat (BitVec.ofInt 64 (b:Int)).toNat:Nat):Int)):bits e .i64 (a:Int) (b:Int)=((f a b:Nat):Int):=by
 have d: ∀c:Nat,c<9223372036854775808→(BitVec.ofInt 64 (c:Int)).toNat=c:=by
  intro c j;rw[BitVec.ofInt_natCast,BitVec.toNat_ofNat];exact Xs Om
 rw[h,d a g,d b i];exact IntWalk.i64_in _ Om
theorem NO(a b:Nat)(c:a<9223372036854775808)(d:b<9223372036854775808):bits .and .i64 (a:Int) (b:Int)=((a&&& b:Nat):Int):=
 Dn (f:=λa b=>a&&& b) a b c d (Xn Nat.and_le_left c) (by show IntKind.i64.wrap ((BitVec.ofInt 64 (a:Int)&&& BitVec.ofInt 64 (b:Int)).toNat:Int)=_;rw[BitVec.toNat_and])
theorem NP(a b:Nat)(c:a<9223372036854775808)(d:b<9223372036854775808):bits .xor .i64 (a:Int) (b:Int)=((a^^^b:Nat):Int):=
 Dn (f:=λa b=>a^^^b) a b c d (XI (n:=63) Om Om) (by show IntKind.i64.wrap ((BitVec.ofInt 64 (a:Int)^^^BitVec.ofInt 64 (b:Int)).toNat:Int)=_;rw[BitVec.toNat_xor])
section
variable {P:Program} {T:TypeId} {x y:Operand} {w:World}
theorem Dp(a b:Nat)(c:a<9223372036854775808)(d:b<9223372036854775808):(av .and T x y (.int .i64 (a:Int)) (.int .i64 (b:Int))).run P w= .ok (.int .i64 ((a&&& b:Nat):Int)) w:=by rw[←NO a b c d];rfl
theorem Dq(a b:Nat)(c:a<9223372036854775808)(d:b<9223372036854775808):(av .xor T x y (.int .i64 (a:Int)) (.int .i64 (b:Int))).run P w= .ok (.int .i64 ((a^^^b:Nat):Int)) w:=by rw[←NP a b c d];rfl
end
theorem dQ{P:Program}{m:Sem Value}{w:World}{a b:Int}{k:IntKind}(h:m.run P w= .ok (.int k a) w)(e:a=b):m.run P w= .ok (.int k b) w:=e▸h
def bl(p0 p1 p2 p3:Nat):Nat:=p0*1048576+p1*65536+p2*64+p3
structure gb (R S B M C p0 p1 p2 p3:Nat):Prop where
 h0:p0<R+S
 h1:p1<B
 h2:p2<M
 h3:p3<C
section
variable {R S B M C p0 p1 p2 p3:Nat}
theorem gb.hold(h:gb R S B M C p0 p1 p2 p3):hold R S B M C p0 p1 p2 p3=true:=by
 have:=h.h0;have:=h.h1;have:=h.h2;have:=h.h3;exact rQ.2 Om
theorem uU(a:gZ R S B M C)(h:gb R S B M C p0 p1 p2 p3):bl p0 p1 p2 p3<8388608:=by
 have:=a.r8;have:=a.b16;have:=a.m10;have:=a.c64;have:=h.h0;have:=h.h1;have:=h.h2;have:=h.h3;unfold bl;omega
theorem uV:dn (p0:Int) p1 p2 p3=(bl p0 p1 p2 p3:Int):=by unfold dn bl;omega
theorem yl(a:gZ R S B M C)(h:gb R S B M C p0 p1 p2 p3):bl p0 p1 p2 p3/1048576=p0∧bl p0 p1 p2 p3/65536%16=p1∧bl p0 p1 p2 p3/64%1024=p2∧bl p0 p1 p2 p3%64=p3:=by
 have:=a.r8;have:=a.b16;have:=a.m10;have:=a.c64;have:=h.h0;have:=h.h1;have:=h.h2;have:=h.h3;unfold bl;omega
theorem sa(a:b6 R S B M C)(h:gb R S B M C p0 p1 p2 p3):aa WJ 147 #[.agg #[iN R,iN S,iN B,iN M,iN C],.agg #[iN p0,iN p1,iN p2,iN p3]] [] [] N0 (λ_=> .tuple #[i6 (bl p0 p1 p2 p3:Int),i6 0]):=by
 have:=Dh R S B M C a p0 p1 p2 p3;unfold rU rV at this;rwa [h.hold,uV] at this
theorem pV(a:b6 R S B M C)(h:gb R S B M C p0 p1 p2 p3):aa WJ 68 #[.agg #[iN R,iN S,iN B,iN M,iN C],i6 (bl p0 p1 p2 p3:Int)] [] [] N0 (λ_=> .tuple #[.agg #[iN p0,iN p1,iN p2,iN p3],i6 0]):=by
 have:=Di R S B M C a (bl p0 p1 p2 p3:Nat);have e:=yl a.bd h;have b:((bl p0 p1 p2 p3:Nat):Int)/1048576=(p0:Int):=by omega
 have c:((bl p0 p1 p2 p3:Nat):Int)/65536%16=(p1:Int):=by omega
 have d:((bl p0 p1 p2 p3:Nat):Int)/64%1024=(p2:Int):=by omega
 have f:((bl p0 p1 p2 p3:Nat):Int)%64=(p3:Int):=by omega
 unfold rX rY rZ r5 r6 at this;rw[b,c,d,f,h.hold,bf Om] at this;exact this
end
theorem o2{B r b:Nat}(h:B∈[1,2,4,8,16,32,64,128,256,512,1024])(d:b<B):b^^^(r&&& (B-1))<B:=by
 have c:r&&& (B-1)<B:=Xn XP Om;have a: ∀k,B=2^k→b^^^(r&&& (B-1))<B:=λk e=>by rw[e] at d c⊢;exact XI d c
 simp only[Ye,XM,or_false] at h;rcases h with h | h | h | h | h | h | h | h | h | h | h
 ·exact a 0 h
 ·exact a 1 h
 ·exact a 2 h
 ·exact a 3 h
 ·exact a 4 h
 ·exact a 5 h
 ·exact a 6 h
 ·exact a 7 h
 ·exact a 8 h
 ·exact a 9 h
 ·exact a 10 h
def eH(B r b:Nat):Nat:=b^^^(r&&& (B-1))
theorem Dt(B r b:Nat):eH B r (eH B r b)=b:=by unfold eH;rw[Nat.xor_assoc,Nat.xor_self,Nat.xor_zero]
def mL(way R B M p:Nat):List Nat:=match way with
 | 0=>aC p [M,B,R] 3
 | 1=>aC p [B,M,R] 3
 | _=>aC p [R,B,M] 3
def aB(way R B M p:Nat):Nat:=match way with
 | 0=>(mL way R B M p).getD 2 0
 | 1=>(mL way R B M p).getD 2 0
 | _=>(mL way R B M p).getD 0 0
def cV(way R B M p:Nat):Nat:=match way with
 | 0=>(mL way R B M p).getD 0 0
 | 1=>(mL way R B M p).getD 1 0
 | _=>(mL way R B M p).getD 2 0
def cQ(way R B M p:Nat):Nat:=match way with
 | 0=>(mL way R B M p).getD 1 0
 | 1=>(mL way R B M p).getD 0 0
 | 2=>(mL way R B M p).getD 1 0
 | _=>eH B (cV way R B M p) ((mL way R B M p).getD 1 0)
def ka(way R B M r b w:Nat):Nat:=match way with
 | 0=>dH [w,b,r] [M,B,R] 3
 | 1=>dH [b,w,r] [B,M,R] 3
 | 2=>dH [r,b,w] [R,B,M] 3
 | _=>dH [r,eH B w b,w] [R,B,M] 3
def g5(way R B M p:Nat):Nat:=bl (aB way R B M p) (cQ way R B M p) (cV way R B M p) 0/64
theorem ym(x y z a b c:Nat):dH [x,y,z] [a,b,c] 3=((0*c+z)*b+y)*a+x:=rfl
theorem NQ(n a b c:Nat):aC n [a,b,c] 3=[n%a,n/a%b,n/a/b%c]:=rfl
theorem sb{x y z a b c:Nat}(g:x<a)(h:y<b)(f:z<c):dH [x,y,z] [a,b,c] 3<c*b*a:=by
 rw[ym,XN,Xj];have d:z*b+y<c*b:=by
  have:(z+1)*b≤c*b:=WW b f;rw[Xf] at this;omega
 have e:(z*b+y+1)*a≤c*b*a:=WW a d;rw[Xf] at e;omega
theorem uW{n a b c:Nat}(h:n<c*b*a)(i:0<a)(j:0<b):dH [n%a,n/a%b,n/a/b%c] [a,b,c] 3=n:=by
 have d:n/a<c*b:=Xb (by rw[WT a];exact h);have e:n/a/b<c:=Xb (by rw[WT b];exact d);rw[ym,XN,Xj,Xs e];have f:=Yd (n/a) b;have g:=Yd n a;rw[WT (n/a/b),f,WT (n/a),g]
theorem uX{x y z a b c:Nat}(d:x<a)(e:y<b)(f:z<c):aC (dH [x,y,z] [a,b,c] 3) [a,b,c] 3=[x,y,z]:=by
 rw[NQ,ym,XN,Xj,Yk _ x,XU,Xs d,XY _ _ Om,Ya d,Xj,Yk _ y,XU,Xs e,XY _ _ Om,Ya e,Xj,Xs f]
section
variable {R S B M C way p:Nat}
theorem oa(e:b6 R S B M C)(hp:p<R*B*M):gb R S B M C (aB way R B M p) (cQ way R B M p) (cV way R B M p) 0:=by
 have b:=e.bd;have c:=b.r1;have a:=b.b1;have d:=b.m1;have g:=b.c1;have h:aB way R B M p<R:=by
  match way with
  | 0=>exact WU _ c
  | 1=>exact WU _ c
  | w+2=>exact WU p c
 have f:cV way R B M p<M:=by
  match way with
  | 0=>exact WU p d
  | 1=>exact WU _ d
  | w+2=>exact WU _ d
 refine⟨by omega,?_,f,by omega⟩
 match way with
 | 0=>exact WU _ a
 | 1=>exact WU _ a
 | 2=>exact WU _ a
 | w+3=>exact o2 e.pow (WU (p/R) a)
theorem nu(b:b6 R S B M C):aB way R B M p<R:=by
 have a:=b.bd.r1
 match way with
 | 0=>exact WU _ a
 | 1=>exact WU _ a
 | w+2=>exact WU p a
theorem Du(g:b6 R S B M C)(hp:p<R*B*M):ka way R B M (aB way R B M p) (cQ way R B M p) (cV way R B M p)=p:=by
 have b:=g.bd;have d:=b.r1;have a:=b.b1;have e:=b.m1;have c:R*B*M=M*B*R:=by rw[WT (R*B),WT R,←WX]
 have f:R*B*M=R*M*B:=by rw[WX,WT B,WX]
 match way with
 | 0=>exact uW hp e a
 | 1=>exact uW (f▸hp) a e
 | 2=>exact uW (c▸hp) d a
 | w+3=>
  show dH [p%R,eH B (p/R/B%M) (eH B (p/R/B%M) (p/R%B)),p/R/B%M] [R,B,M] 3=p;rw[Dt];exact uW (c▸hp) d a
theorem NR(a:b6 R S B M C)(hp:p<R*B*M):g5 way R B M p<131072:=by
 have:=uU a.bd (oa (way:=way) a hp);unfold g5;omega
theorem NS(d a:List Nat): ∀j k,j≤k→k≤3→a.length=3→(∀i,i<3→1≤a.getD i 0)→dH d a j≤dH d a k:=by
 intro j k b
 induction b with
 | refl=>intros;exact W8 _
 | @step k h ih=>
  intro f e c;refine W7 (ih Om e c) ?_;show dH d a k≤dH d a k*a.getD (a.length-1-k) 0+_;have:=XB (dH d a k) (c (a.length-1-k) Om);omega
theorem uY{x y z a b c:Nat}(d:x<a)(e:y<b)(f:z<c)(l:c*b*a≤1000000)(k:Nat)(g:k≤[a,b,c].length):dH [x,y,z] [a,b,c] k≤1000000:=by
 have h:=sb d e f;refine W7 (NS _ _ k 3 g (W8 _) rfl λi j=>?_) Om
 match i with
 | 0=>exact Xn (Xp _) d
 | 1=>exact Xn (Xp _) e
 | 2=>exact Xn (Xp _) f
theorem yn:g5 way R B M p=aB way R B M p*16384+cQ way R B M p*1024+cV way R B M p:=by unfold g5 bl;omega
end
end
section
open Go.Shelf
theorem yo(r s b m c way:Int):aa WJ 134 #[.agg #[i6 r,i6 s,i6 b,i6 m,i6 c],i6 way] [] [] N0 (λ_=> .bool (((ji r s b m c)&&(decide (0≤way)))&&(decide (way<4)))):=by
 exact fG Tryz.func134 λw d=>ra (λa=>[(2,pt (B0 a) 0),(4,.bool false)]) (λa=>[ob (B0 a) #[i6 r,i6 s,i6 b,i6 m,i6 c] 23]) λa=>r0 [(0,.l 0),(1,.c [] [] (Df r s b m c))] [(4,.bool (((ji r s b m c)&&(decide (0≤way)))&&(decide (way<4))))] [4] (ao (.bool (((ji r s b m c)&&(decide (0≤way)))&&(decide (way<4)))) ab.zero bg [] [] [])
theorem nv(R S B M C:Nat)(a:b6 R S B M C)(way:Nat)(b:way<4):aa WJ 134 #[.agg #[iN R,iN S,iN B,iN M,iN C],iN way] [] [] N0 (λ_=> .bool true):=by
 have h:=yo R S B M C way;rwa [a.ok,cD Om,cD Om] at h
theorem uZ(v:Value)(n:Nat)(c:List Nat)(z:n≤1000000)(y:c.length≤1000)(o: ∀k,k<c.length→1≤c.getD k 0∧c.getD k 0≤1000000):aa WJ 146 #[iN n,v] [.p (aG pU v c)] [] (λE=>[bo (E.val 0) (aC n c c.length)]) (λE=>(E.val 0)):=by
 refine fO Tryz.func146 0 rfl λi f=>fG Tryz.func146 λw u=>r0 [] [(4,.slice none 0 0)] [] (r0 [] [(5,.slice none 0 0)] [] (r0 [(1,du f.1 0)] [(8,v),(9,iN c.length),(10,i6 0)] [] (cz b0 ?_)));refine mw (λk _=>k≤c.length) (λk e=>[(0,iN (jj n c k)),(10,iN k),(5,e)]) (λk e L=>L.set 1 (bo e (aC n c k))) (λk _=>c.length-k) 0 (.slice none 0 0) Om Kr Kr (λk e s=>?_);have x:=NL n c k;have r:=NN n c k;refine r0 [] [(11,.bool (decide ((k:Int)<(c.length:Int))))] [] ?_;refine bW (k:Int) (c.length:Int) (λj h=>?_) λj h=>?_
 ·refine r0 [(0,eU f.1 0 k 1),(1,iG b0 f.1 0 k 0)] [(7,iN (c.getD k 0))] [] ?_;have q:=o k Om;exact rr (λ_=>[(3,.t (tb (a:=iN (jj n c k)) (b:=iN (c.getD k 0)) λ_ _ _ _=>nV (a:=jj n c k) (d:=(c.getD k 0)) Om)),(4,.m (bs 2 1)),(5,eT b0 (e) (aC n c k) 1 2 ([(jj n c k)%(c.getD k 0)]))]) (λg=>[(5,(g 5).val 0)]) [5] (λg L=>L.set 1 (bo ((g 5).val 0) ((aC n c k)++([(jj n c k)%(c.getD k 0)])))++[ob (B4 g) #[iN ((jj n c k)%(c.getD k 0))] 3]) λg=>r0 [(2,.t (tb (a:=iN (jj n c k)) (b:=iN (c.getD k 0)) λ_ _ _ _=>oK (a:=jj n c k) (d:=(c.getD k 0)) Om Om))] [(0,iN ((jj n c k)/(c.getD k 0)))] [0] (r0 [(0,ad k 1)] [(10,iN (k+1))] [10] (kQ (k+1) ((g 5).val 0) Om Om (by rw[NK Om];kernel_rfl) [0,1] (by rw[NM];kernel_rfl)))
 obtain rfl:c.length=k:=by omega
 refine kR ?_;exact r0 [] [(4,e)] [4] (lf (.l [] [] [e]) [1] [(0,0)] [])
theorem u0(v u:Value)(d a:List Nat)(q:a.length≤1000)(o:d.length=a.length)(j: ∀k,k≤a.length→dH d a k≤1000000):aa WJ 145 #[v,u] [.p (aG pU v d),.p (aG pU u a)] [] N0 (λ_=>iN (dH d a a.length)):=by
 refine fO Tryz.func145 0 rfl λg c=>fO Tryz.func145 1 rfl λh b=>fG Tryz.func145 λw n=>r0 [] [(4,i6 0)] [] (r0 [] [(5,i6 0)] [] (r0 [(1,du b.1 1),(2,sI (a.length:Int) (1) Om)] [(6,i6 ((a.length:Int)-1))] [] ?_));refine lq (λk=>k≤a.length) (λk=>[(5,iN (dH d a k)),(6,i6 (((a.length:Nat):Int)-1-((k:Nat):Int)))]) (λ_ L=>L) (λk=>a.length-k) 0 Om (by rw[show((a.length:Nat):Int)-1-((0:Nat):Int)=(a.length:Int)-1 by omega];kernel_rfl) Kr (λk m=>?_);refine r0 [] [(11,.bool (decide (0≤(((a.length:Nat):Int)-1-((k:Nat):Int)))))] [] ?_;refine oN 0 (((a.length:Nat):Int)-1-((k:Nat):Int)) (λi e=>?_) λi e=>?_
 ·have l:=j (k+1) Om;have f:dH d a (k+1)=dH d a k*a.getD (a.length-1-k) 0+d.getD (a.length-1-k) 0:=rfl;exact r0 [(2,.t (tk (show i6 (((a.length:Nat):Int)-1-((k:Nat):Int))=iN (a.length-1-k) from ALca (Value.int .i64) Om))),(3,eU b.1 1 (a.length-1-k) 1),(4,iG b0 b.1 1 (a.length-1-k) 0),(5,ml (dH d a k) (a.getD (a.length-1-k) 0)),(7,.t (tk (show i6 (((a.length:Nat):Int)-1-((k:Nat):Int))=iN (a.length-1-k) from ALca (Value.int .i64) Om))),(8,eU c.1 0 (a.length-1-k) 1),(9,iG b0 c.1 0 (a.length-1-k) 0),(10,ad ((dH d a k)*(a.getD (a.length-1-k) 0)) (d.getD (a.length-1-k) 0))] [(5,iN (((dH d a k)*(a.getD (a.length-1-k) 0))+(d.getD (a.length-1-k) 0)))] [5] (r0 [(1,sI (((a.length:Nat):Int)-1-((k:Nat):Int)) (1) Om)] [(6,i6 ((((a.length:Nat):Int)-1-((k:Nat):Int))-1))] [6] (le (k+1) Om Om (by rw[show(((a.length:Nat):Int)-1-((k+1:Nat):Int))=((a.length:Nat):Int)-1-((k:Nat):Int)-1 by omega];kernel_rfl) [0,1] Kr))
 obtain rfl:k=a.length:=by omega
 exact lx (r0 [] [(4,iN (dH d a a.length))] [4] (lf ab.zero [] [(0,0),(1,1)] []))
end
section
open Go.Shelf
theorem NT(R S B M C:Nat)(f:b6 R S B M C)(p:Nat)(hp:p<R*B*M):aa WJ 122 #[.agg #[iN R,iN S,iN B,iN M,iN C],i6 0,iN p] [] [] N0 (λ_=> .tuple #[iN (g5 0 R B M p),i6 0]):=by
 have e:=f.bd;have A:=e.rbm;have D:=e.r8;have n:=e.b16;have o:=e.b1;have v:=e.m10;have x:=e.m1;have y:=e.r1;have q:=e.c1;have r:(aC p [M,B,R] [M,B,R].length).length=3:=rfl;refine fG Tryz.func122 λw z=>ra (λi=>[(3,pt (B0 i) 0),(6,i6 0),(7,i6 0)]) (λi=>[ob (B0 i) #[iN R,iN S,iN B,iN M,iN C] 23]) λi=>r0 [(0,.m (ls 0 ([iN R,iN S,iN B,iN M,iN C]))),(2,.c [] [] (nv R S B M C f 0 Om)),(10,.m (ls 0 ([iN R,iN S,iN B,iN M,iN C]))),(11,.c [] [] (lW R S B M C f))] [(27,.bool ((decide ((p:Int)<0))||(decide ((((R*B)*M:Nat):Int)≤(p:Int)))))] [] ?_;have j:((decide ((p:Int)<0))||(decide ((((R*B)*M:Nat):Int)≤(p:Int))))=false:=(by rw[WV];exact⟨bf Om,bf Om⟩);exact cF ((decide ((p:Int)<0))||(decide ((((R*B)*M:Nat):Int)≤(p:Int)))) j (ra (λg=>[(8,pt (B0 g) 0)]) (λg=>[ob (B0 g) #[i6 0,i6 0,i6 0,i6 0] 46]) λg=>r0 [] [(28,i6 0)] [] (rT [] 50 (rr (λd=>[(2,.l 0),(4,.l 0),(6,.l 0),(7,gV b0 2 3 [M,B,R]),(8,.c [2] [3] (aa.at (rd':=[bo (.slice (some ⟨(d 7).y 0,0,none⟩) 3 3) ([M,B,R])]) (uZ (.slice (some ⟨(d 7).y 0,0,none⟩) 3 3) p ([M,B,R]) Om (by simp) (λk u=>by rcases k with _ | _ | _ | k<;>first | exact⟨by first | assumption,by simp;omega⟩ | (simp at u;omega))) (bL (λ_ h=>aq.sq h) (λ_ h=>h))))]) (λd=>[(9,((d 8).val 0))]) [] (λd L=>L++[bo (.slice (some ⟨(d 7).y 0,0,none⟩) 3 3) ([M,B,R]),bo ((d 8).val 0) (aC p ([M,B,R]) ([M,B,R]).length)]) λd=>rs [(1,cO b0 ((d 8).val 0) (aC p ([M,B,R]) ([M,B,R]).length) 3 0),(2,eS b0 ((d 8).val 0) (aC p ([M,B,R]) ([M,B,R]).length) 3 0 0),(4,cO b0 ((d 8).val 0) (aC p ([M,B,R]) ([M,B,R]).length) 3 1),(5,eS b0 ((d 8).val 0) (aC p ([M,B,R]) ([M,B,R]).length) 3 1 0),(7,cO b0 ((d 8).val 0) (aC p ([M,B,R]) ([M,B,R]).length) 3 2),(8,eS b0 ((d 8).val 0) (aC p ([M,B,R]) ([M,B,R]).length) 3 2 0),(10,.s 1),(12,.s 1),(14,.s 1)] 1 (ob (B0 g) #[iN ((aC p ([M,B,R]) ([M,B,R]).length).getD 2 0),iN ((aC p ([M,B,R]) ([M,B,R]).length).getD 1 0),iN ((aC p ([M,B,R]) ([M,B,R]).length).getD 0 0),i6 0] 46) (rF [] 97 (r0 [(0,.l 0),(1,.l 1),(2,.c [] [] (sa f (oa (way:=0) f hp)))] [(12,iN (bl ((aC p ([M,B,R]) ([M,B,R]).length).getD 2 0) ((aC p ([M,B,R]) ([M,B,R]).length).getD 1 0) ((aC p ([M,B,R]) ([M,B,R]).length).getD 0 0) 0)),(13,i6 0)] [] (r0 [(1,.t (tb (a:=iN (bl ((aC p ([M,B,R]) ([M,B,R]).length).getD 2 0) ((aC p ([M,B,R]) ([M,B,R]).length).getD 1 0) ((aC p ([M,B,R]) ([M,B,R]).length).getD 0 0) 0)) (b:=u6 6) λ_ _ _ _=>iD 6 Dc))] [(6,i6 (((bl ((aC p ([M,B,R]) ([M,B,R]).length).getD 2 0) ((aC p ([M,B,R]) ([M,B,R]).length).getD 1 0) ((aC p ([M,B,R]) ([M,B,R]).length).getD 0 0) 0:Nat):Int)/64)),(7,i6 0)] [6,7] (ao (.tuple #[i6 (((bl ((aC p ([M,B,R]) ([M,B,R]).length).getD 2 0) ((aC p ([M,B,R]) ([M,B,R]).length).getD 1 0) ((aC p ([M,B,R]) ([M,B,R]).length).getD 0 0) 0:Nat):Int)/64),i6 0]) ab.zero bg [] [] [])))))))
theorem NU(R S B M C:Nat)(f:b6 R S B M C)(p:Nat)(hp:p<R*B*M):aa WJ 122 #[.agg #[iN R,iN S,iN B,iN M,iN C],i6 1,iN p] [] [] N0 (λ_=> .tuple #[iN (g5 1 R B M p),i6 0]):=by
 have e:=f.bd;have A:=e.rbm;have D:=e.r8;have n:=e.b16;have o:=e.b1;have v:=e.m10;have x:=e.m1;have y:=e.r1;have q:=e.c1;have r:(aC p [B,M,R] [B,M,R].length).length=3:=rfl;refine fG Tryz.func122 λw z=>ra (λi=>[(3,pt (B0 i) 0),(6,i6 0),(7,i6 0)]) (λi=>[ob (B0 i) #[iN R,iN S,iN B,iN M,iN C] 23]) λi=>r0 [(0,.m (ls 0 ([iN R,iN S,iN B,iN M,iN C]))),(2,.c [] [] (nv R S B M C f 1 Om)),(10,.m (ls 0 ([iN R,iN S,iN B,iN M,iN C]))),(11,.c [] [] (lW R S B M C f))] [(27,.bool ((decide ((p:Int)<0))||(decide ((((R*B)*M:Nat):Int)≤(p:Int)))))] [] ?_;have j:((decide ((p:Int)<0))||(decide ((((R*B)*M:Nat):Int)≤(p:Int))))=false:=(by rw[WV];exact⟨bf Om,bf Om⟩);exact cF ((decide ((p:Int)<0))||(decide ((((R*B)*M:Nat):Int)≤(p:Int)))) j (ra (λg=>[(8,pt (B0 g) 0)]) (λg=>[ob (B0 g) #[i6 0,i6 0,i6 0,i6 0] 46]) λg=>r0 [] [(28,i6 1)] [] (rF [] 50 (rT [] 73 (rr (λd=>[(2,.l 0),(4,.l 0),(6,.l 0),(7,gV b0 2 3 [B,M,R]),(8,.c [2] [3] (aa.at (rd':=[bo (.slice (some ⟨(d 7).y 0,0,none⟩) 3 3) ([B,M,R])]) (uZ (.slice (some ⟨(d 7).y 0,0,none⟩) 3 3) p ([B,M,R]) Om (by simp) (λk u=>by rcases k with _ | _ | _ | k<;>first | exact⟨by first | assumption,by simp;omega⟩ | (simp at u;omega))) (bL (λ_ h=>aq.sq h) (λ_ h=>h))))]) (λd=>[(10,((d 8).val 0))]) [] (λd L=>L++[bo (.slice (some ⟨(d 7).y 0,0,none⟩) 3 3) ([B,M,R]),bo ((d 8).val 0) (aC p ([B,M,R]) ([B,M,R]).length)]) λd=>rs [(1,cO b0 ((d 8).val 0) (aC p ([B,M,R]) ([B,M,R]).length) 3 0),(2,eS b0 ((d 8).val 0) (aC p ([B,M,R]) ([B,M,R]).length) 3 0 0),(4,cO b0 ((d 8).val 0) (aC p ([B,M,R]) ([B,M,R]).length) 3 1),(5,eS b0 ((d 8).val 0) (aC p ([B,M,R]) ([B,M,R]).length) 3 1 0),(7,cO b0 ((d 8).val 0) (aC p ([B,M,R]) ([B,M,R]).length) 3 2),(8,eS b0 ((d 8).val 0) (aC p ([B,M,R]) ([B,M,R]).length) 3 2 0),(10,.s 1),(12,.s 1),(14,.s 1)] 1 (ob (B0 g) #[iN ((aC p ([B,M,R]) ([B,M,R]).length).getD 2 0),iN ((aC p ([B,M,R]) ([B,M,R]).length).getD 0 0),iN ((aC p ([B,M,R]) ([B,M,R]).length).getD 1 0),i6 0] 46) (rF [] 97 (r0 [(0,.l 0),(1,.l 1),(2,.c [] [] (sa f (oa (way:=1) f hp)))] [(12,iN (bl ((aC p ([B,M,R]) ([B,M,R]).length).getD 2 0) ((aC p ([B,M,R]) ([B,M,R]).length).getD 0 0) ((aC p ([B,M,R]) ([B,M,R]).length).getD 1 0) 0)),(13,i6 0)] [] (r0 [(1,.t (tb (a:=iN (bl ((aC p ([B,M,R]) ([B,M,R]).length).getD 2 0) ((aC p ([B,M,R]) ([B,M,R]).length).getD 0 0) ((aC p ([B,M,R]) ([B,M,R]).length).getD 1 0) 0)) (b:=u6 6) λ_ _ _ _=>iD 6 Dc))] [(6,i6 (((bl ((aC p ([B,M,R]) ([B,M,R]).length).getD 2 0) ((aC p ([B,M,R]) ([B,M,R]).length).getD 0 0) ((aC p ([B,M,R]) ([B,M,R]).length).getD 1 0) 0:Nat):Int)/64)),(7,i6 0)] [6,7] (ao (.tuple #[i6 (((bl ((aC p ([B,M,R]) ([B,M,R]).length).getD 2 0) ((aC p ([B,M,R]) ([B,M,R]).length).getD 0 0) ((aC p ([B,M,R]) ([B,M,R]).length).getD 1 0) 0:Nat):Int)/64),i6 0]) ab.zero bg [] [] []))))))))
theorem NV(R S B M C:Nat)(f:b6 R S B M C)(p:Nat)(hp:p<R*B*M):aa WJ 122 #[.agg #[iN R,iN S,iN B,iN M,iN C],i6 2,iN p] [] [] N0 (λ_=> .tuple #[iN (g5 2 R B M p),i6 0]):=by
 have e:=f.bd;have A:=e.rbm;have D:=e.r8;have n:=e.b16;have o:=e.b1;have v:=e.m10;have x:=e.m1;have y:=e.r1;have q:=e.c1;have r:(aC p [R,B,M] [R,B,M].length).length=3:=rfl;refine fG Tryz.func122 λw z=>ra (λi=>[(3,pt (B0 i) 0),(6,i6 0),(7,i6 0)]) (λi=>[ob (B0 i) #[iN R,iN S,iN B,iN M,iN C] 23]) λi=>r0 [(0,.m (ls 0 ([iN R,iN S,iN B,iN M,iN C]))),(2,.c [] [] (nv R S B M C f 2 Om)),(10,.m (ls 0 ([iN R,iN S,iN B,iN M,iN C]))),(11,.c [] [] (lW R S B M C f))] [(27,.bool ((decide ((p:Int)<0))||(decide ((((R*B)*M:Nat):Int)≤(p:Int)))))] [] ?_;have j:((decide ((p:Int)<0))||(decide ((((R*B)*M:Nat):Int)≤(p:Int))))=false:=(by rw[WV];exact⟨bf Om,bf Om⟩);exact cF ((decide ((p:Int)<0))||(decide ((((R*B)*M:Nat):Int)≤(p:Int)))) j (ra (λg=>[(8,pt (B0 g) 0)]) (λg=>[ob (B0 g) #[i6 0,i6 0,i6 0,i6 0] 46]) λg=>r0 [] [(28,i6 2)] [] (rF [] 50 (rF [] 73 (rr (λd=>[(2,.l 0),(4,.l 0),(6,.l 0),(7,gV b0 2 3 [R,B,M]),(8,.c [2] [3] (aa.at (rd':=[bo (.slice (some ⟨(d 7).y 0,0,none⟩) 3 3) ([R,B,M])]) (uZ (.slice (some ⟨(d 7).y 0,0,none⟩) 3 3) p ([R,B,M]) Om (by simp) (λk u=>by rcases k with _ | _ | _ | k<;>first | exact⟨by first | assumption,by simp;omega⟩ | (simp at u;omega))) (bL (λ_ h=>aq.sq h) (λ_ h=>h))))]) (λd=>[(11,((d 8).val 0))]) [] (λd L=>L++[bo (.slice (some ⟨(d 7).y 0,0,none⟩) 3 3) ([R,B,M]),bo ((d 8).val 0) (aC p ([R,B,M]) ([R,B,M]).length)]) λd=>rs [(1,cO b0 ((d 8).val 0) (aC p ([R,B,M]) ([R,B,M]).length) 3 0),(2,eS b0 ((d 8).val 0) (aC p ([R,B,M]) ([R,B,M]).length) 3 0 0),(4,cO b0 ((d 8).val 0) (aC p ([R,B,M]) ([R,B,M]).length) 3 1),(5,eS b0 ((d 8).val 0) (aC p ([R,B,M]) ([R,B,M]).length) 3 1 0),(7,cO b0 ((d 8).val 0) (aC p ([R,B,M]) ([R,B,M]).length) 3 2),(8,eS b0 ((d 8).val 0) (aC p ([R,B,M]) ([R,B,M]).length) 3 2 0),(10,.s 1),(12,.s 1),(14,.s 1)] 1 (ob (B0 g) #[iN ((aC p ([R,B,M]) ([R,B,M]).length).getD 0 0),iN ((aC p ([R,B,M]) ([R,B,M]).length).getD 1 0),iN ((aC p ([R,B,M]) ([R,B,M]).length).getD 2 0),i6 0] 46) (rF [] 97 (r0 [(0,.l 0),(1,.l 1),(2,.c [] [] (sa f (oa (way:=2) f hp)))] [(12,iN (bl ((aC p ([R,B,M]) ([R,B,M]).length).getD 0 0) ((aC p ([R,B,M]) ([R,B,M]).length).getD 1 0) ((aC p ([R,B,M]) ([R,B,M]).length).getD 2 0) 0)),(13,i6 0)] [] (r0 [(1,.t (tb (a:=iN (bl ((aC p ([R,B,M]) ([R,B,M]).length).getD 0 0) ((aC p ([R,B,M]) ([R,B,M]).length).getD 1 0) ((aC p ([R,B,M]) ([R,B,M]).length).getD 2 0) 0)) (b:=u6 6) λ_ _ _ _=>iD 6 Dc))] [(6,i6 (((bl ((aC p ([R,B,M]) ([R,B,M]).length).getD 0 0) ((aC p ([R,B,M]) ([R,B,M]).length).getD 1 0) ((aC p ([R,B,M]) ([R,B,M]).length).getD 2 0) 0:Nat):Int)/64)),(7,i6 0)] [6,7] (ao (.tuple #[i6 (((bl ((aC p ([R,B,M]) ([R,B,M]).length).getD 0 0) ((aC p ([R,B,M]) ([R,B,M]).length).getD 1 0) ((aC p ([R,B,M]) ([R,B,M]).length).getD 2 0) 0:Nat):Int)/64),i6 0]) ab.zero bg [] [] []))))))))
theorem NW(R S B M C:Nat)(g:b6 R S B M C)(p:Nat)(hp:p<R*B*M):aa WJ 122 #[.agg #[iN R,iN S,iN B,iN M,iN C],i6 3,iN p] [] [] N0 (λ_=> .tuple #[iN (g5 3 R B M p),i6 0]):=by
 have e:=g.bd;have A:=e.rbm;have D:=e.r8;have q:=e.b16;have j:=e.b1;have x:=e.m10;have n:=e.m1;have y:=e.r1;have r:=e.c1;have u:(aC p [R,B,M] [R,B,M].length).length=3:=rfl;refine fG Tryz.func122 λw z=>ra (λi=>[(3,pt (B0 i) 0),(6,i6 0),(7,i6 0)]) (λi=>[ob (B0 i) #[iN R,iN S,iN B,iN M,iN C] 23]) λi=>r0 [(0,.m (ls 0 ([iN R,iN S,iN B,iN M,iN C]))),(2,.c [] [] (nv R S B M C g 3 Om)),(10,.m (ls 0 ([iN R,iN S,iN B,iN M,iN C]))),(11,.c [] [] (lW R S B M C g))] [(27,.bool ((decide ((p:Int)<0))||(decide ((((R*B)*M:Nat):Int)≤(p:Int)))))] [] ?_;have o:((decide ((p:Int)<0))||(decide ((((R*B)*M:Nat):Int)≤(p:Int))))=false:=(by rw[WV];exact⟨bf Om,bf Om⟩);refine cF ((decide ((p:Int)<0))||(decide ((((R*B)*M:Nat):Int)≤(p:Int)))) o (ra (λf=>[(8,pt (B0 f) 0)]) (λf=>[ob (B0 f) #[i6 0,i6 0,i6 0,i6 0] 46]) λf=>r0 [] [(28,i6 3)] [] (rF [] 50 (rF [] 73 (rr (λd=>[(2,.l 0),(4,.l 0),(6,.l 0),(7,gV b0 2 3 [R,B,M]),(8,.c [2] [3] (aa.at (rd':=[bo (.slice (some ⟨(d 7).y 0,0,none⟩) 3 3) ([R,B,M])]) (uZ (.slice (some ⟨(d 7).y 0,0,none⟩) 3 3) p ([R,B,M]) Om (by simp) (λk v=>by rcases k with _ | _ | _ | k<;>first | exact⟨by first | assumption,by simp;omega⟩ | (simp at v;omega))) (bL (λ_ h=>aq.sq h) (λ_ h=>h))))]) (λd=>[(11,((d 8).val 0))]) [] (λd L=>L++[bo (.slice (some ⟨(d 7).y 0,0,none⟩) 3 3) ([R,B,M]),bo ((d 8).val 0) (aC p ([R,B,M]) ([R,B,M]).length)]) λd=>rs [(1,cO b0 ((d 8).val 0) (aC p ([R,B,M]) ([R,B,M]).length) 3 0),(2,eS b0 ((d 8).val 0) (aC p ([R,B,M]) ([R,B,M]).length) 3 0 0),(4,cO b0 ((d 8).val 0) (aC p ([R,B,M]) ([R,B,M]).length) 3 1),(5,eS b0 ((d 8).val 0) (aC p ([R,B,M]) ([R,B,M]).length) 3 1 0),(7,cO b0 ((d 8).val 0) (aC p ([R,B,M]) ([R,B,M]).length) 3 2),(8,eS b0 ((d 8).val 0) (aC p ([R,B,M]) ([R,B,M]).length) 3 2 0),(10,.s 1),(12,.s 1),(14,.s 1)] 1 (ob (B0 f) #[iN ((aC p ([R,B,M]) ([R,B,M]).length).getD 0 0),iN ((aC p ([R,B,M]) ([R,B,M]).length).getD 1 0),iN ((aC p ([R,B,M]) ([R,B,M]).length).getD 2 0),i6 0] 46) (rT [] 97 ?_)))));have i:(aC p [R,B,M] [R,B,M].length).getD 2 0<M:=WU _ n;have F:(aC p [R,B,M] [R,B,M].length).getD 1 0<B:=WU _ j;have G:(aC p [R,B,M] 3).getD 2 0&&& (B-1)≤B-1:=XP;exact rs [(1,.l 1),(3,.l 1),(5,.l 0),(6,.t (tb (a:=iN B) (b:=i6 1) λ_ _ _ _=>lQ (a:=B) (b:=1) Om Om)),(7,.t (tv (av .and 3 (.tmp 101) (.tmp 104) (iN ((aC p ([R,B,M]) ([R,B,M]).length).getD 2 0)) (iN (B-1))) (λ_=>Dp _ (B-1) Om Om))),(8,.t (tv (av .xor 3 (.tmp 99) (.tmp 105) (iN ((aC p ([R,B,M]) ([R,B,M]).length).getD 1 0)) (iN (((aC p [R,B,M] 3).getD 2 0)&&& (B-1)))) (λ_=>Dq _ _ Om Om))),(10,.s 1)] 1 (ob (B0 f) #[iN ((aC p ([R,B,M]) ([R,B,M]).length).getD 0 0),iN (eH B ((aC p [R,B,M] 3).getD 2 0) ((aC p [R,B,M] 3).getD 1 0)),iN ((aC p ([R,B,M]) ([R,B,M]).length).getD 2 0),i6 0] 46) (r0 [(0,.l 0),(1,.l 1),(2,.c [] [] (sa g (oa (way:=3) g hp)))] [(12,iN (bl ((aC p ([R,B,M]) ([R,B,M]).length).getD 0 0) (eH B ((aC p [R,B,M] 3).getD 2 0) ((aC p [R,B,M] 3).getD 1 0)) ((aC p ([R,B,M]) ([R,B,M]).length).getD 2 0) 0)),(13,i6 0)] [] (r0 [(1,.t (tb (a:=iN (bl ((aC p ([R,B,M]) ([R,B,M]).length).getD 0 0) (eH B ((aC p [R,B,M] 3).getD 2 0) ((aC p [R,B,M] 3).getD 1 0)) ((aC p ([R,B,M]) ([R,B,M]).length).getD 2 0) 0)) (b:=u6 6) λ_ _ _ _=>iD 6 Dc))] [(6,i6 (((bl ((aC p ([R,B,M]) ([R,B,M]).length).getD 0 0) (eH B ((aC p [R,B,M] 3).getD 2 0) ((aC p [R,B,M] 3).getD 1 0)) ((aC p ([R,B,M]) ([R,B,M]).length).getD 2 0) 0:Nat):Int)/64)),(7,i6 0)] [6,7] (ao (.tuple #[i6 (((bl ((aC p ([R,B,M]) ([R,B,M]).length).getD 0 0) (eH B ((aC p [R,B,M] 3).getD 2 0) ((aC p [R,B,M] 3).getD 1 0)) ((aC p ([R,B,M]) ([R,B,M]).length).getD 2 0) 0:Nat):Int)/64),i6 0]) ab.zero bg [] [] [])))
theorem Dw(R S B M C:Nat)(a:b6 R S B M C)(way:Nat)(b:way<4)(p:Nat)(hp:p<R*B*M):aa WJ 122 #[.agg #[iN R,iN S,iN B,iN M,iN C],iN way,iN p] [] [] N0 (λ_=> .tuple #[iN (g5 way R B M p),i6 0]):=by
 match way with
 | 0=>exact NT R S B M C a p hp
 | 1=>exact NU R S B M C a p hp
 | 2=>exact NV R S B M C a p hp
 | 3=>exact NW R S B M C a p hp
 | w+4=>exact absurd b Om
theorem NX(R S B M C:Nat)(i:b6 R S B M C)(a d e:Nat)(h0:a<R)(h1:d<B)(h2:e<M):aa WJ 121 #[.agg #[iN R,iN S,iN B,iN M,iN C],i6 0,iN (a*16384+d*1024+e)] [] [] N0 (λ_=> .tuple #[iN (ka 0 R B M a d e),i6 0]):=by
 have g:=i.bd;have D:=g.r8;have q:=g.b16;have u:=g.m10;have r:=g.c1;have x:=g.rbm;have z:M*B*R=R*B*M:=by rw[WT (R*B),WT R,←WX]
 have A:R*M*B=R*B*M:=by rw[WX,WT M,←WX]
 have v:eH B e d<B:=o2 i.pow h1;have n:gb R S B M C a d e 0:=⟨by omega,h1,h2,by omega⟩;refine fG Tryz.func121 λw y=>ra (λj=>[(3,pt (B0 j) 0),(6,i6 0),(7,i6 0)]) (λj=>[ob (B0 j) #[iN R,iN S,iN B,iN M,iN C] 23]) λj=>r0 [(0,.m (ls 0 ([iN R,iN S,iN B,iN M,iN C]))),(2,.c [] [] (nv R S B M C i 0 Om)),] [(21,.bool ((decide (((a*16384+d*1024+e:Nat):Int)<0))||(decide (131072≤((a*16384+d*1024+e:Nat):Int)))))] [] ?_;have o:((decide (((a*16384+d*1024+e:Nat):Int)<0))||(decide (131072≤((a*16384+d*1024+e:Nat):Int))))=false:=(by rw[WV];exact⟨bf Om,bf Om⟩);refine cF ((decide (((a*16384+d*1024+e:Nat):Int)<0))||(decide (131072≤((a*16384+d*1024+e:Nat):Int)))) o (rr (λ_=>[(0,.l 0),(2,.t (tv (av .shl 3 (.tmp 24) (.const (u6 6)) (iN (a*16384+d*1024+e)) (u6 6)) (λ_=>dQ (b:=((bl a d e 0:Nat):Int)) (fk 6 Dc Om Om) (by unfold bl;omega)))),(3,.c [] [] (pV i n)),(8,.s 1)]) (λk=>[(8,pt (B7 k) 0),(9,i6 0)]) [] (λk L=>L++[ob (B7 k) #[iN a,iN d,iN e,i6 0] 46]) λk=>r0 [(4,.l 1),(6,.l 0)] [(37,.bool (decide ((R:Int)≤(a:Int))))] [] ?_);have p:(decide ((R:Int)≤(a:Int)))=false:=bf Om;exact cF (decide ((R:Int)≤(a:Int))) p (rF [] 39 (r0 [] [(50,i6 0)] [] (rT [] 51 (rr (λf=>[(1,.m (ld 1 (iN e))),(3,.m (ld 1 (iN d))),(5,.m (ld 1 (iN a))),(6,gV b0 2 3 [e,d,a]),(8,.m (ld 0 (iN M))),(10,.m (ld 0 (iN B))),(12,.m (ld 0 (iN R))),(13,gV b0 3 3 [M,B,R]),(14,.c [2,3] [] (aa.at (rd':=[bo (.slice (some ⟨(f 6).y 0,0,none⟩) 3 3) ([e,d,a]),bo (.slice (some ⟨(f 13).y 0,0,none⟩) 3 3) ([M,B,R])]) (u0 (.slice (some ⟨(f 6).y 0,0,none⟩) 3 3) (.slice (some ⟨(f 13).y 0,0,none⟩) 3 3) ([e,d,a]) ([M,B,R]) (by simp) rfl (uY h2 h1 h0 Om)) (bL (λ_ h=>aq.sq h) (bL (λ_ h=>aq.sq h) (λ_ h=>h))))),]) (λ_=>[(6,iN (dH ([e,d,a]) ([M,B,R]) ([M,B,R]).length)),(7,i6 0)]) [6,7] (λf L=>L++[bo (.slice (some ⟨(f 6).y 0,0,none⟩) 3 3) ([e,d,a]),bo (.slice (some ⟨(f 13).y 0,0,none⟩) 3 3) ([M,B,R])]) λf=>ao (.tuple #[iN (dH ([e,d,a]) ([M,B,R]) ([M,B,R]).length),i6 0]) ab.zero bg [] [] []))))
theorem NY(R S B M C:Nat)(i:b6 R S B M C)(a d e:Nat)(h0:a<R)(h1:d<B)(h2:e<M):aa WJ 121 #[.agg #[iN R,iN S,iN B,iN M,iN C],i6 1,iN (a*16384+d*1024+e)] [] [] N0 (λ_=> .tuple #[iN (ka 1 R B M a d e),i6 0]):=by
 have g:=i.bd;have D:=g.r8;have q:=g.b16;have u:=g.m10;have r:=g.c1;have x:=g.rbm;have z:M*B*R=R*B*M:=by rw[WT (R*B),WT R,←WX]
 have A:R*M*B=R*B*M:=by rw[WX,WT M,←WX]
 have v:eH B e d<B:=o2 i.pow h1;have n:gb R S B M C a d e 0:=⟨by omega,h1,h2,by omega⟩;refine fG Tryz.func121 λw y=>ra (λj=>[(3,pt (B0 j) 0),(6,i6 0),(7,i6 0)]) (λj=>[ob (B0 j) #[iN R,iN S,iN B,iN M,iN C] 23]) λj=>r0 [(0,.m (ls 0 ([iN R,iN S,iN B,iN M,iN C]))),(2,.c [] [] (nv R S B M C i 1 Om)),] [(21,.bool ((decide (((a*16384+d*1024+e:Nat):Int)<0))||(decide (131072≤((a*16384+d*1024+e:Nat):Int)))))] [] ?_;have o:((decide (((a*16384+d*1024+e:Nat):Int)<0))||(decide (131072≤((a*16384+d*1024+e:Nat):Int))))=false:=(by rw[WV];exact⟨bf Om,bf Om⟩);refine cF ((decide (((a*16384+d*1024+e:Nat):Int)<0))||(decide (131072≤((a*16384+d*1024+e:Nat):Int)))) o (rr (λ_=>[(0,.l 0),(2,.t (tv (av .shl 3 (.tmp 24) (.const (u6 6)) (iN (a*16384+d*1024+e)) (u6 6)) (λ_=>dQ (b:=((bl a d e 0:Nat):Int)) (fk 6 Dc Om Om) (by unfold bl;omega)))),(3,.c [] [] (pV i n)),(8,.s 1)]) (λk=>[(8,pt (B7 k) 0),(9,i6 0)]) [] (λk L=>L++[ob (B7 k) #[iN a,iN d,iN e,i6 0] 46]) λk=>r0 [(4,.l 1),(6,.l 0)] [(37,.bool (decide ((R:Int)≤(a:Int))))] [] ?_);have p:(decide ((R:Int)≤(a:Int)))=false:=bf Om;exact cF (decide ((R:Int)≤(a:Int))) p (rF [] 39 (r0 [] [(50,i6 1)] [] (rF [] 51 (rT [] 68 (rr (λf=>[(1,.m (ld 1 (iN d))),(3,.m (ld 1 (iN e))),(5,.m (ld 1 (iN a))),(6,gV b0 2 3 [d,e,a]),(8,.m (ld 0 (iN B))),(10,.m (ld 0 (iN M))),(12,.m (ld 0 (iN R))),(13,gV b0 3 3 [B,M,R]),(14,.c [2,3] [] (aa.at (rd':=[bo (.slice (some ⟨(f 6).y 0,0,none⟩) 3 3) ([d,e,a]),bo (.slice (some ⟨(f 13).y 0,0,none⟩) 3 3) ([B,M,R])]) (u0 (.slice (some ⟨(f 6).y 0,0,none⟩) 3 3) (.slice (some ⟨(f 13).y 0,0,none⟩) 3 3) ([d,e,a]) ([B,M,R]) (by simp) rfl (uY h1 h2 h0 Om)) (bL (λ_ h=>aq.sq h) (bL (λ_ h=>aq.sq h) (λ_ h=>h))))),]) (λ_=>[(6,iN (dH ([d,e,a]) ([B,M,R]) ([B,M,R]).length)),(7,i6 0)]) [6,7] (λf L=>L++[bo (.slice (some ⟨(f 6).y 0,0,none⟩) 3 3) ([d,e,a]),bo (.slice (some ⟨(f 13).y 0,0,none⟩) 3 3) ([B,M,R])]) λf=>ao (.tuple #[iN (dH ([d,e,a]) ([B,M,R]) ([B,M,R]).length),i6 0]) ab.zero bg [] [] [])))))
theorem NZ(R S B M C:Nat)(i:b6 R S B M C)(a d e:Nat)(h0:a<R)(h1:d<B)(h2:e<M):aa WJ 121 #[.agg #[iN R,iN S,iN B,iN M,iN C],i6 2,iN (a*16384+d*1024+e)] [] [] N0 (λ_=> .tuple #[iN (ka 2 R B M a d e),i6 0]):=by
 have g:=i.bd;have D:=g.r8;have q:=g.b16;have u:=g.m10;have r:=g.c1;have x:=g.rbm;have z:M*B*R=R*B*M:=by rw[WT (R*B),WT R,←WX]
 have A:R*M*B=R*B*M:=by rw[WX,WT M,←WX]
 have v:eH B e d<B:=o2 i.pow h1;have n:gb R S B M C a d e 0:=⟨by omega,h1,h2,by omega⟩;refine fG Tryz.func121 λw y=>ra (λj=>[(3,pt (B0 j) 0),(6,i6 0),(7,i6 0)]) (λj=>[ob (B0 j) #[iN R,iN S,iN B,iN M,iN C] 23]) λj=>r0 [(0,.m (ls 0 ([iN R,iN S,iN B,iN M,iN C]))),(2,.c [] [] (nv R S B M C i 2 Om)),] [(21,.bool ((decide (((a*16384+d*1024+e:Nat):Int)<0))||(decide (131072≤((a*16384+d*1024+e:Nat):Int)))))] [] ?_;have o:((decide (((a*16384+d*1024+e:Nat):Int)<0))||(decide (131072≤((a*16384+d*1024+e:Nat):Int))))=false:=(by rw[WV];exact⟨bf Om,bf Om⟩);refine cF ((decide (((a*16384+d*1024+e:Nat):Int)<0))||(decide (131072≤((a*16384+d*1024+e:Nat):Int)))) o (rr (λ_=>[(0,.l 0),(2,.t (tv (av .shl 3 (.tmp 24) (.const (u6 6)) (iN (a*16384+d*1024+e)) (u6 6)) (λ_=>dQ (b:=((bl a d e 0:Nat):Int)) (fk 6 Dc Om Om) (by unfold bl;omega)))),(3,.c [] [] (pV i n)),(8,.s 1)]) (λk=>[(8,pt (B7 k) 0),(9,i6 0)]) [] (λk L=>L++[ob (B7 k) #[iN a,iN d,iN e,i6 0] 46]) λk=>r0 [(4,.l 1),(6,.l 0)] [(37,.bool (decide ((R:Int)≤(a:Int))))] [] ?_);have p:(decide ((R:Int)≤(a:Int)))=false:=bf Om;exact cF (decide ((R:Int)≤(a:Int))) p (rF [] 39 (r0 [] [(50,i6 2)] [] (rF [] 51 (rF [] 68 (rr (λf=>[(1,.m (ld 1 (iN a))),(3,.m (ld 1 (iN d))),(5,.m (ld 1 (iN e))),(6,gV b0 2 3 [a,d,e]),(8,.m (ld 0 (iN R))),(10,.m (ld 0 (iN B))),(12,.m (ld 0 (iN M))),(13,gV b0 3 3 [R,B,M]),(14,.c [2,3] [] (aa.at (rd':=[bo (.slice (some ⟨(f 6).y 0,0,none⟩) 3 3) ([a,d,e]),bo (.slice (some ⟨(f 13).y 0,0,none⟩) 3 3) ([R,B,M])]) (u0 (.slice (some ⟨(f 6).y 0,0,none⟩) 3 3) (.slice (some ⟨(f 13).y 0,0,none⟩) 3 3) ([a,d,e]) ([R,B,M]) (by simp) rfl (uY h0 h1 h2 Om)) (bL (λ_ h=>aq.sq h) (bL (λ_ h=>aq.sq h) (λ_ h=>h))))),]) (λ_=>[(6,iN (dH ([a,d,e]) ([R,B,M]) ([R,B,M]).length)),(7,i6 0)]) [6,7] (λf L=>L++[bo (.slice (some ⟨(f 6).y 0,0,none⟩) 3 3) ([a,d,e]),bo (.slice (some ⟨(f 13).y 0,0,none⟩) 3 3) ([R,B,M])]) λf=>ao (.tuple #[iN (dH ([a,d,e]) ([R,B,M]) ([R,B,M]).length),i6 0]) ab.zero bg [] [] [])))))
theorem N1(R S B M C:Nat)(k:b6 R S B M C)(e f d:Nat)(h0:e<R)(h1:f<B)(h2:d<M):aa WJ 121 #[.agg #[iN R,iN S,iN B,iN M,iN C],i6 3,iN (e*16384+f*1024+d)] [] [] N0 (λ_=> .tuple #[iN (ka 3 R B M e f d),i6 0]):=by
 have i:=k.bd;have F:=i.r8;have u:=i.b16;have x:=i.m10;have v:=i.c1;have y:=i.rbm;have A:M*B*R=R*B*M:=by rw[WT (R*B),WT R,←WX]
 have D:R*M*B=R*B*M:=by rw[WX,WT M,←WX]
 have p:eH B d f<B:=o2 k.pow h1;have o:gb R S B M C e f d 0:=⟨by omega,h1,h2,by omega⟩;refine fG Tryz.func121 λw z=>ra (λn=>[(3,pt (B0 n) 0),(6,i6 0),(7,i6 0)]) (λn=>[ob (B0 n) #[iN R,iN S,iN B,iN M,iN C] 23]) λn=>r0 [(0,.m (ls 0 ([iN R,iN S,iN B,iN M,iN C]))),(2,.c [] [] (nv R S B M C k 3 Om)),] [(21,.bool ((decide (((e*16384+f*1024+d:Nat):Int)<0))||(decide (131072≤((e*16384+f*1024+d:Nat):Int)))))] [] ?_;have q:((decide (((e*16384+f*1024+d:Nat):Int)<0))||(decide (131072≤((e*16384+f*1024+d:Nat):Int))))=false:=(by rw[WV];exact⟨bf Om,bf Om⟩);refine cF ((decide (((e*16384+f*1024+d:Nat):Int)<0))||(decide (131072≤((e*16384+f*1024+d:Nat):Int)))) q (rr (λ_=>[(0,.l 0),(2,.t (tv (av .shl 3 (.tmp 24) (.const (u6 6)) (iN (e*16384+f*1024+d)) (u6 6)) (λ_=>dQ (b:=((bl e f d 0:Nat):Int)) (fk 6 Dc Om Om) (by unfold bl;omega)))),(3,.c [] [] (pV k o)),(8,.s 1)]) (λj=>[(8,pt (B7 j) 0),(9,i6 0)]) [] (λj L=>L++[ob (B7 j) #[iN e,iN f,iN d,i6 0] 46]) λj=>r0 [(4,.l 1),(6,.l 0)] [(37,.bool (decide ((R:Int)≤(e:Int))))] [] ?_);have r:(decide ((R:Int)≤(e:Int)))=false:=bf Om;refine cF (decide ((R:Int)≤(e:Int))) r (rT [] 39 ?_);have G:d&&& (B-1)≤B-1:=XP;exact rs [(1,.l 1),(3,.l 1),(5,.l 0),(6,.t (tb (a:=iN B) (b:=i6 1) λ_ _ _ _=>lQ (a:=B) (b:=1) Om Om)),(7,.t (tv (av .and 3 (.tmp 43) (.tmp 46) (iN d) (iN (B-1))) (λ_=>Dp _ (B-1) Om Om))),(8,.t (tv (av .xor 3 (.tmp 41) (.tmp 47) (iN f) (iN (d&&& (B-1)))) (λ_=>Dq _ _ Om Om))),(10,.s 1)] 1 (ob (B7 j) #[iN e,iN (eH B d f),iN d,i6 0] 46) (r0 [] [(50,i6 3)] [] (rF [] 51 (rF [] 68 (rr (λg=>[(1,.m (ld 1 (iN e))),(3,.m (ld 1 (iN (eH B d f)))),(5,.m (ld 1 (iN d))),(6,gV b0 2 3 [e,eH B d f,d]),(8,.m (ld 0 (iN R))),(10,.m (ld 0 (iN B))),(12,.m (ld 0 (iN M))),(13,gV b0 3 3 [R,B,M]),(14,.c [2,3] [] (aa.at (rd':=[bo (.slice (some ⟨(g 6).y 0,0,none⟩) 3 3) ([e,eH B d f,d]),bo (.slice (some ⟨(g 13).y 0,0,none⟩) 3 3) ([R,B,M])]) (u0 (.slice (some ⟨(g 6).y 0,0,none⟩) 3 3) (.slice (some ⟨(g 13).y 0,0,none⟩) 3 3) ([e,eH B d f,d]) ([R,B,M]) (by simp) rfl (uY h0 p h2 Om)) (bL (λ_ h=>aq.sq h) (bL (λ_ h=>aq.sq h) (λ_ h=>h))))),]) (λ_=>[(6,iN (dH ([e,eH B d f,d]) ([R,B,M]) ([R,B,M]).length)),(7,i6 0)]) [6,7] (λg L=>L++[bo (.slice (some ⟨(g 6).y 0,0,none⟩) 3 3) ([e,eH B d f,d]),bo (.slice (some ⟨(g 13).y 0,0,none⟩) 3 3) ([R,B,M])]) λg=>ao (.tuple #[iN (dH ([e,eH B d f,d]) ([R,B,M]) ([R,B,M]).length),i6 0]) ab.zero bg [] [] []))))
theorem N2(R S B M C:Nat)(d:b6 R S B M C)(way:Nat)(e:way<4)(a b c:Nat)(h0:a<R)(h1:b<B)(h2:c<M):aa WJ 121 #[.agg #[iN R,iN S,iN B,iN M,iN C],iN way,iN (a*16384+b*1024+c)] [] [] N0 (λ_=> .tuple #[iN (ka way R B M a b c),i6 0]):=by
 match way with
 | 0=>exact NX R S B M C d a b c h0 h1 h2
 | 1=>exact NY R S B M C d a b c h0 h1 h2
 | 2=>exact NZ R S B M C d a b c h0 h1 h2
 | 3=>exact N1 R S B M C d a b c h0 h1 h2
 | w+4=>exact absurd e Om
end
section
open Go.Shelf
theorem N3{i n:Int}(h:bK i n=false)(h0:0≤i):n≤i:=by
 unfold bK at h;simp only[Bool.and_eq_false_iff,decide_eq_false_iff_not] at h;omega
structure ij (R S B M C way res:Nat):Prop where
 O:b6 R S B M C
 G:way<4
 r64:res≤64
 rp:res<R*B*M
structure Mp where
 R:Nat
 S:Nat
 B:Nat
 M:Nat
 C:Nat
 G:Nat
 res:Nat
 N:List Nat
 P:List Bool
 I:List Int
 Q:Nat
 F:Nat
abbrev Mp.seen(m:Mp):Nat:=m.R*m.B*m.M-m.res
structure ba (m:Mp):Prop where
 ly:ij m.R m.S m.B m.M m.C m.G m.res
 ll:m.N.length=m.R*m.B*m.M-m.res
 ld:m.P.length=m.R*m.B*m.M
 ls:m.I.length=m.R
 pg:m.Q≤m.res
 rk:m.F≤m.S
 lv: ∀i,i<m.R*m.B*m.M-m.res→m.N.getD i 0<m.R*m.B*m.M
 sp: ∀i,i<m.R→m.I.getD i 0= -1∨((m.R:Int)≤m.I.getD i 0∧m.I.getD i 0<((m.R+m.S:Nat):Int))
abbrev aF(g:Nat)(m:Mp)(L:aj):Prop:=∃a b c:Value,L=[ob g #[iN m.R,iN m.S,iN m.B,iN m.M,iN m.C,iN m.G,iN m.res,a,b,c,iN m.Q,iN m.F] 137,bo a m.N,eV b m.P,dk c m.I]
def cy(m:Mp)(r:Nat):Bool:= !(m.I.getD r 0== -1)
def jN(m:Mp)(r:Nat):Int:=bif cy m r then m.I.getD r 0 else 0
def eX(m:Mp)(p:Nat):Nat:=bif cy m (aB m.G m.R m.B m.M p) then(m.I.getD (aB m.G m.R m.B m.M p) 0).toNat else aB m.G m.R m.B m.M p
def aO(m:Mp)(p:Nat):Nat:=eX m p*16384+cQ m.G m.R m.B m.M p*1024+cV m.G m.R m.B m.M p
section
variable {m:Mp}
theorem ba.O(h:ba m):b6 m.R m.S m.B m.M m.C:=h.ly.O
theorem ba.np(h:ba m):m.R*m.B*m.M≤4096:=h.O.bd.rbm
theorem ba.lines(h:ba m):(m.R*m.B*m.M-m.res)*m.C≤4096:=W7 (WW _ (Nat.sub_le _ _)) h.O.bd.rbmc
theorem N4(h:ba m)(p:Nat):eX m p<m.R+m.S:=by
 have b:=nu (p:=p) (way:=m.G) h.O;unfold eX;cases a:cy m (aB m.G m.R m.B m.M p) with
 | false=>rw[ALcf];omega
 | true=>
  rw[ALct];unfold cy at a;have a:m.I.getD (aB m.G m.R m.B m.M p) 0≠ -1:=by simpa using a
  have:=(h.sp _ b).resolve_left a;omega
theorem nw(h:ba m){p:Nat}(hp:p<m.R*m.B*m.M):gb m.R m.S m.B m.M m.C (eX m p) (cQ m.G m.R m.B m.M p) (cV m.G m.R m.B m.M p) 0:=by
 have a:=oa (way:=m.G) h.O hp;exact⟨N4 h p,a.h1,a.h2,a.h3⟩
theorem N5(h:ba m){p:Nat}(b:cy m (aB m.G m.R m.B m.M p)=true):(g5 m.G m.R m.B m.M p:Int)+(jN m (aB m.G m.R m.B m.M p)-(aB m.G m.R m.B m.M p:Int))*2^14=(aO m p:Int):=by
 have c:=nu (p:=p) (way:=m.G) h.O;have a:=b;unfold cy at a;have a:m.I.getD (aB m.G m.R m.B m.M p) 0≠ -1:=by simpa using a
 have d:=(h.sp _ c).resolve_left a;unfold aO eX jN;rw[b,ALct,ALct,yn];have e:((m.I.getD (aB m.G m.R m.B m.M p) 0).toNat:Int)=m.I.getD (aB m.G m.R m.B m.M p) 0:=Xd Om;omega
theorem N6{p:Nat}(a:cy m (aB m.G m.R m.B m.M p)=false):g5 m.G m.R m.B m.M p=aO m p:=by
 unfold aO eX;rw[a,ALcf,yn]
theorem N7(h:ba m){r:Nat}(b:r<m.R):0≤jN m r∧jN m r<((m.R+m.S:Nat):Int):=by
 unfold jN;cases a:cy m r with
 | false=>rw[ALcf];omega
 | true=>
  unfold cy at a;have a:m.I.getD r 0≠ -1:=by simpa using a
  have:=(h.sp _ b).resolve_left a;rw[ALct];omega
theorem Dx(h:ba m){p:Nat}(hp:p<m.R*m.B*m.M):g5 m.G m.R m.B m.M p/16384=aB m.G m.R m.B m.M p:=by
 have a:=oa (way:=m.G) h.O hp;have b:=h.O.bd.b16;have c:=h.O.bd.m10;have:=a.h1;have:=a.h2;rw[yn];omega
theorem u2(h:ba m){p:Nat}(hp:p<m.R*m.B*m.M):aO m p<131072:=by
 have a:=nw h hp;have b:=h.O.bd.r8;have c:=h.O.bd.b16;have d:=h.O.bd.m10;have:=a.h0;have:=a.h1;have:=a.h2;unfold aO;omega
theorem yp(h:ba m){n:Nat}(a:n<(m.R*m.B*m.M-m.res)*m.C):n/m.C<m.R*m.B*m.M-m.res:=Xb (by rw[WT m.C];exact a)
def au(m:Mp)(n:Nat):Nat:=m.N.getD (n/m.C) 0
def di(m:Mp)(n:Nat):Nat:=aO m (au m n)*64+n%m.C
theorem sd(h:ba m){n:Nat}(a:n<(m.R*m.B*m.M-m.res)*m.C):au m n<m.R*m.B*m.M:=h.lv _ (yp h a)
end
def dp(m:Mp):Bool:= !decide (m.Q=m.res)
def dU(m:Mp):Bool:= !decide (m.F=m.S)
def dI(m:Mp):Nat:=if m.Q=m.res then 0 else m.seen+m.Q
def fa(m:Mp):Nat:=if m.F=m.S then 0 else m.R+m.F
def dz(l:List Nat)(h t k:Nat):List Nat:=((l.take k).map λx=>if x=h then t else x)++l.drop k
theorem Dy(l:List Nat)(h t k:Nat):(dz l h t k).length=l.length:=by unfold dz;rw[WO,WR,WQ,WY];omega
theorem N8{l:List Nat}{h t k:Nat}(a:k<l.length):(dz l h t k).getD k 0=l.getD k 0:=by
 unfold dz;rw[WK,W5 (by rw[WR,WQ];omega),WR,WQ,Xl,WK]
 congr 2;omega
theorem N9(l:List Nat)(h t:Nat):dz l h t 0=l:=by unfold dz;simp
theorem Ob(l:List Nat)(h t:Nat):dz l h t l.length=l.map λx=>if x=h then t else x:=by unfold dz;simp
theorem Dz{l:List Nat}{h t k:Nat}(a:k<l.length):dz l h t (k+1)=((l.take k).map λx=>if x=h then t else x)++(if l.getD k 0=h then t else l.getD k 0)::l.drop (k+1):=by
 unfold dz;rw[XJ,WN a,XC,Xc,WK,WN a];rfl
theorem Od{l:List Nat}{h t k:Nat}(a:k<l.length)(e:l.getD k 0=h):(dz l h t k).set k t=dz l h t (k+1):=by
 rw[Dz a,ALifp e];unfold dz;rw[Xx a,List.set_append_right _ _ (by rw[WR,WQ];omega),WR,WQ,show k-min k l.length=0 by omega];rfl
theorem Oe{l:List Nat}{h t k:Nat}(a:k<l.length)(e:l.getD k 0≠h):dz l h t k=dz l h t (k+1):=by
 rw[Dz a,ALifn e];unfold dz;rw[Xx a,WK,WN a];rfl
theorem Of{l:List Nat}{h t k:Nat}(a:k<l.length):(bif (((dz l h t k).getD k 0:Nat):Int)==(h:Int) then(dz l h t k).set k t else dz l h t k)=dz l h t (k+1):=by
 rw[N8 a];by_cases e:l.getD k 0=h
 ·rw[show(((l.getD k 0:Nat):Int)==(h:Int))=true by rw[e];exact beq_self_eq_true _,ALct,Od a e]
 ·rw[show(((l.getD k 0:Nat):Int)==(h:Int))=false by rw[dN];omega,ALcf,Oe a e]
def pW(m:Mp):Mp:={m with Q:=m.Q+1}
def pX(m:Mp):Mp:={m with F:=m.F+1}
def jO(m:Mp)(h t:Nat):Mp:={m with P:=m.P.set h true,N:=dz m.N h t m.N.length}
def fy(m:Mp)(r s:Nat):Mp:={m with I:=m.I.set r (s:Int)}
def kX(R S B M C way a:Nat):Mp:=⟨R,S,B,M,C,way,a,WL (R*B*M-a),WM (R*B*M) false,WM R (-1),0,0⟩
end
section
open Go.Shelf
theorem u3(i n:Int):aa WJ 58 #[i6 i,i6 n] [] [] N0 (λ_=> .bool (bK i n)):=by
 exact fG Tryz.func58 λw a=>r0 [] [(4,.bool false)] [] (r0 [] [(4,.bool ((decide (0≤i))&&(decide (i<n))))] [4] (ao (.bool ((decide (0≤i))&&(decide (i<n)))) ab.zero bg [] [] []))
theorem DA(R S B M C way a:Nat)(b:ij R S B M C way a):aa WJ 106 #[.agg #[iN R,iN S,iN B,iN M,iN C,iN way,iN a]] [] [] N0 (λ_=> .bool true):=by
 have e:=b.O;have i:=b.rp;have h:=e.bd.rbm;have g:=b.G;have f:=b.r64;exact fG Tryz.func106 λw j=>ra (λd=>[(1,pt (B0 d) 0),(2,.bool false)]) (λd=>[ob (B0 d) #[iN R,iN S,iN B,iN M,iN C,iN way,iN a] 25]) λd=>r0 [(1,.m (ls 0 ([iN R,iN S,iN B,iN M,iN C]))),(3,.m (ld 0 (iN way))),(4,.c [] [] (nv R S B M C e way Om)),(7,.m (ld 0 (iN a))),(12,.m (ld 0 (iN a))),(17,.m (ld 0 (iN a))),(19,.m (ls 0 ([iN R,iN S,iN B,iN M,iN C]))),(20,.c [] [] (lW R S B M C e)),] [(2,.bool (((decide (0≤(a:Int)))&&(decide ((a:Int)≤64)))&&(decide ((a:Int)<(((R*B)*M:Nat):Int)))))] [2] (ao (.bool (((decide (0≤(a:Int)))&&(decide ((a:Int)≤64)))&&(decide ((a:Int)<(((R*B)*M:Nat):Int))))) ab.zero (by exact ALca Value.bool (by simp only[WS,decide_eq_true_eq,true_and];omega)) [] [] [])
theorem pY(R S B M C way d:Nat)(e:ij R S B M C way d):aa WJ 76 #[.agg #[iN R,iN S,iN B,iN M,iN C,iN way,iN d]] [] [] N0 (λ_=>iN (((R*B)*M)-d)):=by
 have g:=e.O;have k:=e.rp;have j:=g.bd.rbm;have i:=e.G;have h:=e.r64;exact fG Tryz.func76 λw m=>ra (λf=>[(1,pt (B0 f) 0),(2,i6 0)]) (λf=>[ob (B0 f) #[iN R,iN S,iN B,iN M,iN C,iN way,iN d] 25]) λf=>rF [(0,.l 0),(1,.c [] [] (DA R S B M C way d e))] 5 (r0 [(1,.l 0),(2,.c [] [] (lW R S B M C g)),(4,.l 0),(5,.t (tb (a:=iN ((R*B)*M)) (b:=iN d) λ_ _ _ _=>lQ (a:=(R*B)*M) (b:=d) Om Om))] [(2,iN (((R*B)*M)-d))] [2] (lf ab.zero [] [] []))
theorem yq(R S B M C way a:Nat)(b:ij R S B M C way a):aa WJ 39 #[.agg #[iN R,iN S,iN B,iN M,iN C,iN way,iN a]] [] [] N0 (λ_=>iN ((((R*B)*M)-a)*C)):=by
 have e:=b.O;have i:=b.rp;have h:=e.bd.rbm;have g:=b.G;have f:=b.r64;have k:=W7 (WW C (Nat.sub_le (R*B*M) a)) e.bd.rbmc;exact fG Tryz.func39 λw j=>ra (λd=>[(1,pt (B0 d) 0),(2,i6 0)]) (λd=>[ob (B0 d) #[iN R,iN S,iN B,iN M,iN C,iN way,iN a] 25]) λd=>r0 [(0,.l 0),(1,.c [] [] (pY R S B M C way a b)),(4,.l 0),(5,ml (((R*B)*M)-a) C)] [(2,iN ((((R*B)*M)-a)*C))] [2] (lf ab.zero [] [] [])
theorem jk(g:Nat)(m:Mp)(a:ba m):aa WJ 63 #[pt g 0] [pk (aF g m)] [0] (λ_=>[pk (aF g m)]) (λ_=> .agg #[iN m.R,iN m.S,iN m.B,iN m.M,iN m.C,iN m.G,iN m.res]):=aa.pkZ Tryz.func63 λL e=>by
 obtain⟨q,r,t,rfl⟩:=e;refine⟨[1,2,3],λ_=>[bo q m.N,eV r m.P,dk t m.I],?_,rfl,λE=>⟨rfl,rfl,⟨_,_,_,rfl⟩⟩⟩;have d:=a.O;have c:=a.ly;have j:=a.np;have h:=a.ll;have f:=a.ld;have i:=a.ls;have k:=a.pg;have o:=a.rk;have p:=c.rp;have n:=d.bd.r8;exact fG Tryz.func63 λw u=>ra (λb=>[(2,pt (B0 b) 0)]) (λb=>[ob (B0 b) #[i6 0,i6 0,i6 0,i6 0,i6 0,i6 0,i6 0] 25]) λb=>rs [(3,.l 0),(4,.s 4)] 4 (ob (B0 b) #[iN m.R,iN m.S,iN m.B,iN m.M,iN m.C,iN m.G,iN m.res] 25) (lf ab.zero [1,2,3] [(0,0)] [4])
theorem o3(i n:Nat)(h:i<n):aa WJ 58 #[iN i,iN n] [] [] N0 (λ_=> .bool true):=by
 have a:=u3 i n;rwa [lV.2 ⟨by omega,by omega⟩] at a
theorem u4(g:Nat)(m:Mp)(a:ba m)(p:Nat)(hp:p<m.R*m.B*m.M):aa WJ 25 #[pt g 0,iN p] [pk (aF g m)] [0] (λ_=>[pk (aF g m)]) (λ_=> .bool (m.P.getD p false)):=aa.pkZ Tryz.func25 λL f=>by
 obtain⟨r,b,s,rfl⟩:=f;refine⟨[1,2,3],λ_=>[bo r m.N,eV b m.P,dk s m.I],?_,rfl,λE=>⟨rfl,rfl,⟨_,_,_,rfl⟩⟩⟩;have e:=a.O;have d:=a.ly;have k:=a.np;have i:=a.ll;have h:=a.ld;have j:=a.ls;have l:=a.pg;have o:=a.rk;have q:=d.rp;have n:=e.bd.r8;exact fG Tryz.func25 λw t=>r0 [] [(4,.bool false)] [] (r0 [(4,.m (ld 0 (b))),(5,e8 kA b m.P 2),(6,.c [] [] (o3 p m.P.length Om)),(11,.m (ld 0 (b))),(13,cO kA b m.P 2 p),(14,eS kA b m.P 2 p 0)] [(4,.bool (m.P.getD p false))] [4] (lf ab.zero [1,2,3] [(0,0)] []))
theorem Og(g:Nat)(m:Mp)(a:ba m)(p:Nat)(hp:p<m.R*m.B*m.M):aa WJ 86 #[pt g 0,iN p] [pk (aF g m)] [0] (λ_=>[pk (aF g m)]) (λ_=> .bool (decide (p<m.R*m.B*m.M-m.res+m.Q)&& !m.P.getD p false)):=aa.pkZ Tryz.func86 λL i=>by
 obtain⟨t,f,u,rfl⟩:=i;refine⟨[1,2,3],λ_=>[bo t m.N,eV f m.P,dk u m.I],?_,rfl,λE=>⟨rfl,rfl,⟨_,_,_,rfl⟩⟩⟩;have h:=a.O;have b:=a.ly;have n:=a.np;have k:=a.ll;have j:=a.ld;have l:=a.ls;have o:=a.pg;have r:=a.rk;have s:=b.rp;have q:=h.bd.r8;refine fG Tryz.func86 λw v=>r0 [] [(4,.bool false)] [] ?_;cases e:(bK (p:Int) (((((m.R*m.B)*m.M)-m.res)+m.Q:Nat):Int))
 case true=>
  exact r0 [(4,.m (ls 0 ([iN m.R,iN m.S,iN m.B,iN m.M,iN m.C,iN m.G,iN m.res]))),(5,.c [] [] (pY m.R m.S m.B m.M m.C m.G m.res b)),(9,.m (ld 0 (iN m.Q))),(10,ad (((m.R*m.B)*m.M)-m.res) m.Q),(11,.c [] [] (aa.v ((u3 (p:Int) (((((m.R*m.B)*m.M)-m.res)+m.Q:Nat):Int))) λ_=>ALca Value.bool (show(bK (p:Int) (((((m.R*m.B)*m.M)-m.res)+m.Q:Nat):Int))=true from e))),(16,.m (ld 0 (f))),(18,cO kA f m.P 2 p),(19,eS kA f m.P 2 p 0),] [(4,.bool (!(m.P.getD p false)))] [4] (ao (.bool (!(m.P.getD p false))) ab.zero (by(rw[cD (by have:=lV.1 e;omega)];rfl)) [1,2,3] [(0,0)] [])
 exact r0 [(4,.m (ls 0 ([iN m.R,iN m.S,iN m.B,iN m.M,iN m.C,iN m.G,iN m.res]))),(5,.c [] [] (pY m.R m.S m.B m.M m.C m.G m.res b)),(9,.m (ld 0 (iN m.Q))),(10,ad (((m.R*m.B)*m.M)-m.res) m.Q),(11,.c [] [] (aa.v ((u3 (p:Int) (((((m.R*m.B)*m.M)-m.res)+m.Q:Nat):Int))) λ_=>ALca Value.bool (show(bK (p:Int) (((((m.R*m.B)*m.M)-m.res)+m.Q:Nat):Int))=false from e))),(13,.d),(14,.d),(15,.d),(16,.d),(17,.d),(18,.d),(19,.d),(20,.d)] [(4,.bool false)] [4] (ao (.bool false) ab.zero (by(rw[bf (by have:=N3 e Om;omega)];rfl)) [1,2,3] [(0,0)] [])
theorem DB(g:Nat)(m:Mp)(b:ba m)(h i a:Value)(r:Nat)(x:r<m.R):aa WJ 26 #[pt g 0,iN r] [ob g #[iN m.R,iN m.S,iN m.B,iN m.M,iN m.C,iN m.G,iN m.res,h,i,a,iN m.Q,iN m.F] 137,bo h m.N,eV i m.P,dk a m.I] [1,2,3] (λ_=>[bo h m.N,eV i m.P,dk a m.I]) (λ_=> .tuple #[i6 (jN m r),.bool (cy m r)]):=by
 have j:=b.O;have f:=b.ly;have p:=b.np;have n:=b.ll;have k:=b.ld;have o:=b.ls;have q:=b.pg;have t:=b.rk;have u:=f.rp;have s:=j.bd.r8;refine fG Tryz.func26 λw v=>r0 [] [(4,i6 0),(5,.bool false)] [] (r0 [(4,.m (ld 0 (a))),(5,e8 kI a m.I 3),(6,.c [] [] (o3 r m.I.length Om)),(12,.m (ld 0 (a))),(14,cO kI a m.I 3 r),(15,eS kI a m.I 3 r 0)] [(23,.bool ((m.I.getD r 0)==(-1)))] [] ?_);refine cN (m.I.getD r 0) (-1) (λe d=>?_) λe d=>?_
 ·exact r0 [] [(4,i6 0),(5,.bool false)] [4,5] (ao (.tuple #[i6 0,.bool false]) ab.zero (by unfold jN cy;(repeat (rw[e]));rfl) [1,2,3] [(0,0)] [])
 exact r0 [(3,.l 0),(5,cO kI a m.I 3 r),(6,eS kI a m.I 3 r 0)] [(4,i6 (m.I.getD r 0)),(5,.bool true)] [4,5] (ao (.tuple #[i6 (m.I.getD r 0),.bool true]) ab.zero (by unfold jN cy;(repeat (rw[e]));rfl) [1,2,3] [(0,0)] [])
theorem yr(g:Nat)(m:Mp)(e:ba m)(r:Nat)(f:r<m.R):aa WJ 26 #[pt g 0,iN r] [pk (aF g m)] [0] (λ_=>[pk (aF g m)]) (λ_=> .tuple #[i6 (jN m r),.bool (cy m r)]):=aa.pkZ Tryz.func26 λL d=>by
 obtain⟨a,b,c,rfl⟩:=d;exact⟨[1,2,3],λ_=>[bo a m.N,eV b m.P,dk c m.I],DB g m e a b c r f,rfl,λE=>⟨rfl,rfl,⟨_,_,_,rfl⟩⟩⟩
theorem DC(g:Nat)(m:Mp)(a:ba m)(f h i:Value)(p:Nat)(hp:p<m.R*m.B*m.M):aa WJ 99 #[pt g 0,iN p] [ob g #[iN m.R,iN m.S,iN m.B,iN m.M,iN m.C,iN m.G,iN m.res,f,h,i,iN m.Q,iN m.F] 137,bo f m.N,eV h m.P,dk i m.I] [1,2,3] (λ_=>[bo f m.N,eV h m.P,dk i m.I]) (λ_=> .tuple #[iN (aO m p),iN (aB m.G m.R m.B m.M p),i6 0]):=by
 have e:=a.O;have d:=a.ly;have u:=a.np;have r:=a.ll;have q:=a.ld;have s:=a.ls;have v:=a.pg;have y:=a.rk;have z:=d.rp;have x:=e.bd.r8;have l:=d.G;have D:=NR (way:=m.G) e hp;have B:=Dx a hp;have k:=nu (p:=p) (way:=m.G) e;have A:=N7 a k;have o:=u2 a hp;refine fG Tryz.func99 λw C=>r0 [] [(4,i6 0),(5,i6 0),(6,i6 0)] [] (r0 [(4,.m (ls 0 ([iN m.R,iN m.S,iN m.B,iN m.M,iN m.C]))),(9,.m (ld 0 (iN m.G))),(11,.c [] [] (Dw m.R m.S m.B m.M m.C e m.G Om p Om)),] [(7,iN (g5 m.G m.R m.B m.M p)),(6,i6 0)] [6] (rF [] 26 (r0 [(1,.t (tv (av .shr 3 (.tmp 28) (.const (u6 14)) (iN (g5 m.G m.R m.B m.M p)) (u6 14)) (λ_=>dQ (b:=((aB m.G m.R m.B m.M p:Nat):Int)) (iD 14 Dc) Om)))] [(5,iN (aB m.G m.R m.B m.M p))] [5] (r0 [(2,.c [0,1,2,3] [1,2,3] (DB g m a f h i (aB m.G m.R m.B m.M p) Om))] [(8,i6 (jN m (aB m.G m.R m.B m.M p))),(9,.bool (cy m (aB m.G m.R m.B m.M p)))] [] (r0 [] [(36,.bool (cy m (aB m.G m.R m.B m.M p)))] [] ?_)))));refine cB (cy m (aB m.G m.R m.B m.M p)) (λj=>?_) λj=>?_
 ·have n:=N5 a j;exact r0 [(3,sI (jN m (aB m.G m.R m.B m.M p)) (((aB m.G m.R m.B m.M p:Nat):Int)) Om),(4,.t (tv (av .shl 3 (.tmp 40) (.const (u6 14)) (i6 ((jN m (aB m.G m.R m.B m.M p))-((aB m.G m.R m.B m.M p:Nat):Int))) (u6 14)) (λ_=>fk 14 Dc Om Om))),(5,.t (tv (av .add 3 (.tmp 37) (.tmp 41) (iN (g5 m.G m.R m.B m.M p)) (i6 ((jN m (aB m.G m.R m.B m.M p)-(aB m.G m.R m.B m.M p:Int))*2^14))) (λ_=>dQ (qx Om Om) n)))] [(7,iN (aO m p))] [7] (r0 [] [(4,iN (aO m p)),(5,iN (aB m.G m.R m.B m.M p)),(6,i6 0)] [4,5,6] (ao (.tuple #[iN (aO m p),iN (aB m.G m.R m.B m.M p),i6 0]) ab.zero bg [1,2,3] [(0,0)] []))
 exact r0 [] [(4,iN (g5 m.G m.R m.B m.M p)),(5,iN (aB m.G m.R m.B m.M p)),(6,i6 0)] [4,5,6] (ao (.tuple #[iN (g5 m.G m.R m.B m.M p),iN (aB m.G m.R m.B m.M p),i6 0]) ab.zero (by(rw[N6 j])) [1,2,3] [(0,0)] [])
theorem DD(g:Nat)(m:Mp)(a:ba m)(p:Nat)(hp:p<m.R*m.B*m.M):aa WJ 64 #[pt g 0,iN p] [pk (aF g m)] [0] (λ_=>[pk (aF g m)]) (λ_=> .tuple #[iN (aO m p),i6 0]):=aa.pkZ Tryz.func64 λL i=>by
 obtain⟨d,e,f,rfl⟩:=i;refine⟨[1,2,3],λ_=>[bo d m.N,eV e m.P,dk f m.I],?_,rfl,λE=>⟨rfl,rfl,⟨_,_,_,rfl⟩⟩⟩;have h:=a.O;have b:=a.ly;have n:=a.np;have k:=a.ll;have j:=a.ld;have l:=a.ls;have o:=a.pg;have r:=a.rk;have s:=b.rp;have q:=h.bd.r8;exact fG Tryz.func64 λw t=>r0 [] [(4,i6 0),(5,i6 0)] [] (r0 [(2,.c [0,1,2,3] [1,2,3] (DC g m a d e f p Om))] [(6,iN (aO m p)),(8,i6 0)] [] (r0 [] [(4,iN (aO m p)),(5,i6 0)] [4,5] (lf ab.zero [1,2,3] [(0,0)] [])))
theorem yt(g:Nat)(m:Mp)(e:ba m)(n:Nat)(p:n<(m.R*m.B*m.M-m.res)*m.C):aa WJ 220 #[pt g 0,iN n] [pk (aF g m)] [0] (λ_=>[pk (aF g m)]) (λ_=> .tuple #[iN (di m n),iN (au m n),iN (aB m.G m.R m.B m.M (au m n)),i6 0]):=aa.pkZ Tryz.func220 λL s=>by
 obtain⟨h,q,r,rfl⟩:=s;refine⟨[1,2,3],λ_=>[bo h m.N,eV q m.P,dk r m.I],?_,rfl,λE=>⟨rfl,rfl,⟨_,_,_,rfl⟩⟩⟩;have i:=e.O;have f:=e.ly;have B:=e.np;have y:=e.ll;have x:=e.ld;have z:=e.ls;have C:=e.pg;have F:=e.rk;have G:=f.rp;have D:=i.bd.r8;have A:=e.lines;have j:=i.bd.c1;have k:=i.bd.c64;have I:=yp e p;have u:m.N.getD (n/m.C) 0<m.R*m.B*m.M:=sd e p;have v:=u2 e u;have o:=WU n j;exact fG Tryz.func220 λw H=>r0 [] [(4,i6 0),(5,i6 0),(6,i6 0),(7,i6 0)] [] (rF [(4,.l 0),(5,.c [] [] (yq m.R m.S m.B m.M m.C m.G m.res f)),(6,.c [] [] (o3 n ((((m.R*m.B)*m.M)-m.res)*m.C) Om))] 16 (r0 [(3,.m (ld 0 (h))),(10,.m (ld 0 (iN m.C))),(11,.t (tb (a:=iN n) (b:=iN m.C) λ_ _ _ _=>oK (a:=n) (d:=m.C) Om Om)),(12,cO b0 h m.N 1 (n/m.C)),(13,eS b0 h m.N 1 (n/m.C) 0)] [(5,iN (m.N.getD (n/m.C) 0))] [5] (r0 [(2,.c [0,1,2,3] [1,2,3] (DC g m e h q r (m.N.getD (n/m.C) 0) Om))] [(8,iN (aO m (m.N.getD (n/m.C) 0))),(6,iN (aB m.G m.R m.B m.M (m.N.getD (n/m.C) 0))),(7,i6 0)] [6,7] (rF [] 39 (r0 [(1,.t (tv (av .shl 3 (.tmp 41) (.const (u6 6)) (iN (aO m (m.N.getD (n/m.C) 0))) (u6 6)) (λ_=>dQ (b:=((aO m (m.N.getD (n/m.C) 0)*64:Nat):Int)) (fk 6 Dc Om Om) Om))),(8,.m (ld 0 (iN m.C))),(9,.t (tb (a:=iN n) (b:=iN m.C) λ_ _ _ _=>nV (a:=n) (d:=m.C) Om)),(10,.t (tv (av .or 3 (.tmp 42) (.tmp 50) (iN (aO m (m.N.getD (n/m.C) 0)*64)) (iN (n%m.C))) (λ_=>dQ (b:=((di m n:Nat):Int)) (pM 6 64 rfl Om Om Om Om Om) (by unfold di au;omega)))),] [(4,iN (di m n)),(5,iN (m.N.getD (n/m.C) 0)),(6,iN (aB m.G m.R m.B m.M (m.N.getD (n/m.C) 0))),(7,i6 0)] [4,5,6,7] (ao (.tuple #[iN (di m n),iN (m.N.getD (n/m.C) 0),iN (aB m.G m.R m.B m.M (m.N.getD (n/m.C) 0)),i6 0]) ab.zero bg [1,2,3] [(0,0)] []))))))
theorem Oh(g:Nat)(m:Mp)(a:ba m)(n:Int)(j:bK n (((m.R*m.B*m.M-m.res)*m.C:Nat):Int)=false):aa WJ 220 #[pt g 0,i6 n] [pk (aF g m)] [0] (λ_=>[pk (aF g m)]) (λ_=> .tuple #[i6 0,i6 0,i6 0,i6 12]):=aa.pkZ Tryz.func220 λL e=>by
 obtain⟨t,u,v,rfl⟩:=e;refine⟨[1,2,3],λ_=>[bo t m.N,eV u m.P,dk v m.I],?_,rfl,λE=>⟨rfl,rfl,⟨_,_,_,rfl⟩⟩⟩;have d:=a.O;have b:=a.ly;have o:=a.np;have h:=a.ll;have f:=a.ld;have i:=a.ls;have p:=a.pg;have r:=a.rk;have s:=b.rp;have q:=d.bd.r8;have k:=a.lines;exact fG Tryz.func220 λw x=>r0 [] [(4,i6 0),(5,i6 0),(6,i6 0),(7,i6 0)] [] (rT [(4,.l 0),(5,.c [] [] (yq m.R m.S m.B m.M m.C m.G m.res b)),(6,.c [] [] (aa.v ((u3 n (((((m.R*m.B)*m.M)-m.res)*m.C:Nat):Int))) λ_=>ALca Value.bool (show(bK n (((((m.R*m.B)*m.M)-m.res)*m.C:Nat):Int))=false from(by exact j))))] 16 (r0 [] [(4,i6 0),(5,i6 0),(6,i6 0),(7,i6 12)] [4,5,6,7] (lf ab.zero [1,2,3] [(0,0)] [])))
theorem yu(g:Nat)(m:Mp)(a:ba m)(f h i:Value):aa WJ 264 #[pt g 0] [ob g #[iN m.R,iN m.S,iN m.B,iN m.M,iN m.C,iN m.G,iN m.res,f,h,i,iN m.Q,iN m.F] 137,bo f m.N,eV h m.P,dk i m.I] [1,2,3] (λ_=>[bo f m.N,eV h m.P,dk i m.I]) (λ_=> .tuple #[iN (dI m),.bool (dp m)]):=by
 have k:=a.O;have b:=a.ly;have q:=a.np;have o:=a.ll;have n:=a.ld;have p:=a.ls;have r:=a.pg;have t:=a.rk;have u:=b.rp;have s:=k.bd.r8;refine fG Tryz.func264 λw v=>r0 [] [(2,i6 0),(3,.bool false)] [] (r0 [(3,.l 0),(8,.l 0)] [(13,.bool ((m.Q:Int)==(m.res:Int)))] [] ?_);refine cN (m.Q:Int) (m.res:Int) (λj d=>?_) λj d=>?_
 ·exact r0 [] [(2,i6 0),(3,.bool false)] [2,3] (ao (.tuple #[i6 0,.bool false]) ab.zero (by by_cases e:m.Q=m.res<;>first | (exfalso;omega) | (simp [dI,dp,e])) [1,2,3] [(0,0)] [])
 exact r0 [(3,.m (ls 0 ([iN m.R,iN m.S,iN m.B,iN m.M,iN m.C,iN m.G,iN m.res]))),(4,.c [] [] (pY m.R m.S m.B m.M m.C m.G m.res b)),(8,.m (ld 0 (iN m.Q))),(9,ad (((m.R*m.B)*m.M)-m.res) m.Q),] [(2,iN ((((m.R*m.B)*m.M)-m.res)+m.Q)),(3,.bool true)] [2,3] (ao (.tuple #[iN ((((m.R*m.B)*m.M)-m.res)+m.Q),.bool true]) ab.zero (by by_cases e:m.Q=m.res<;>first | (exfalso;omega) | (simp [dI,dp,e])) [1,2,3] [(0,0)] [])
theorem Oi(g:Nat)(m:Mp)(e:ba m):aa WJ 264 #[pt g 0] [pk (aF g m)] [0] (λ_=>[pk (aF g m)]) (λ_=> .tuple #[iN (dI m),.bool (dp m)]):=aa.pkZ Tryz.func264 λL d=>by
 obtain⟨a,b,c,rfl⟩:=d;exact⟨[1,2,3],λ_=>[bo a m.N,eV b m.P,dk c m.I],yu g m e a b c,rfl,λE=>⟨rfl,rfl,⟨_,_,_,rfl⟩⟩⟩
theorem DE(g:Nat)(m:Mp)(a:ba m)(e f h:Value):aa WJ 281 #[pt g 0] [ob g #[iN m.R,iN m.S,iN m.B,iN m.M,iN m.C,iN m.G,iN m.res,e,f,h,iN m.Q,iN m.F] 137,bo e m.N,eV f m.P,dk h m.I] [1,2,3] (λ_=>[bo e m.N,eV f m.P,dk h m.I]) (λ_=> .tuple #[iN (fa m),.bool (dU m)]):=by
 have j:=a.O;have d:=a.ly;have p:=a.np;have n:=a.ll;have k:=a.ld;have o:=a.ls;have q:=a.pg;have s:=a.rk;have t:=d.rp;have r:=j.bd.r8;refine fG Tryz.func281 λw u=>r0 [] [(2,i6 0),(3,.bool false)] [] (r0 [(3,.l 0),(9,.l 0)] [(14,.bool ((m.F:Int)==(m.S:Int)))] [] ?_);refine cN (m.F:Int) (m.S:Int) (λi b=>?_) λi b=>?_
 ·exact r0 [] [(2,i6 0),(3,.bool false)] [2,3] (ao (.tuple #[i6 0,.bool false]) ab.zero (by by_cases c:m.F=m.S<;>first | (exfalso;omega) | (simp [fa,dU,c])) [1,2,3] [(0,0)] [])
 exact r0 [(5,.m (ld 0 (iN m.R))),(9,.m (ld 0 (iN m.F))),(10,ad m.R m.F),] [(2,iN (m.R+m.F)),(3,.bool true)] [2,3] (ao (.tuple #[iN (m.R+m.F),.bool true]) ab.zero (by by_cases c:m.F=m.S<;>first | (exfalso;omega) | (simp [fa,dU,c])) [1,2,3] [(0,0)] [])
end
section
open Go.Shelf
theorem Oj(g:Nat)(m:Mp)(a:ba m)(f:dp m=true):aa WJ 265 #[pt g 0] [pk (aF g m)] [0] (λ_=>[pk (aF g (pW m))]) (λ_=> .tuple #[iN (dI m),i6 0]):=aa.pkZ Tryz.func265 λL k=>by
 obtain⟨b,d,e,rfl⟩:=k;refine⟨[0,1,2,3],λ_=>[ob g #[iN m.R,iN m.S,iN m.B,iN m.M,iN m.C,iN m.G,iN m.res,b,d,e,iN (m.Q+1),iN m.F] 137,bo b m.N,eV d m.P,dk e m.I],?_,rfl,λE=>⟨rfl,rfl,⟨_,_,_,rfl⟩⟩⟩;have j:=a.O;have h:=a.ly;have q:=a.np;have o:=a.ll;have n:=a.ld;have p:=a.ls;have r:=a.pg;have u:=a.rk;have v:=h.rp;have t:=j.bd.r8;refine fG Tryz.func265 λw x=>r0 [] [(2,i6 0),(3,i6 0)] [] (r0 [(1,.c [0,1,2,3] [1,2,3] (yu g m a b d e))] [(4,iN (dI m)),(5,.bool (dp m))] [] (r0 [] [(12,.bool (!(dp m)))] [] ?_));have i:(!(dp m))=false:=(by rw[f];rfl);exact cF (!(dp m)) i (rs [(3,.l 0),(4,ad m.Q 1),(7,.s 0)] 0 (ob g #[iN m.R,iN m.S,iN m.B,iN m.M,iN m.C,iN m.G,iN m.res,b,d,e,iN (m.Q+1),iN m.F] 137) (r0 [] [(2,iN (dI m)),(3,i6 0)] [2,3] (lf ab.zero [0,1,2,3] [] [])))
theorem Ok(g:Nat)(m:Mp)(a:ba m)(b:dp m=false):aa WJ 265 #[pt g 0] [pk (aF g m)] [0] (λ_=>[pk (aF g m)]) (λ_=> .tuple #[i6 0,i6 52]):=aa.pkZ Tryz.func265 λL k=>by
 obtain⟨e,f,h,rfl⟩:=k;refine⟨[1,2,3],λ_=>[bo e m.N,eV f m.P,dk h m.I],?_,rfl,λE=>⟨rfl,rfl,⟨_,_,_,rfl⟩⟩⟩;have j:=a.O;have d:=a.ly;have p:=a.np;have n:=a.ll;have l:=a.ld;have o:=a.ls;have q:=a.pg;have s:=a.rk;have t:=d.rp;have r:=j.bd.r8;refine fG Tryz.func265 λw u=>r0 [] [(2,i6 0),(3,i6 0)] [] (r0 [(1,.c [0,1,2,3] [1,2,3] (yu g m a e f h))] [(4,iN (dI m)),(5,.bool (dp m))] [] (r0 [] [(12,.bool (!(dp m)))] [] ?_));have i:(!(dp m))=true:=(by rw[b];rfl);exact cT (!(dp m)) i (r0 [] [(2,i6 0),(3,i6 52)] [2,3] (lf ab.zero [1,2,3] [(0,0)] []))
theorem Ol(g:Nat)(m:Mp)(a:ba m)(f:dU m=true):aa WJ 266 #[pt g 0] [pk (aF g m)] [0] (λ_=>[pk (aF g (pX m))]) (λ_=> .tuple #[iN (fa m),i6 0]):=aa.pkZ Tryz.func266 λL k=>by
 obtain⟨b,d,e,rfl⟩:=k;refine⟨[0,1,2,3],λ_=>[ob g #[iN m.R,iN m.S,iN m.B,iN m.M,iN m.C,iN m.G,iN m.res,b,d,e,iN m.Q,iN (m.F+1)] 137,bo b m.N,eV d m.P,dk e m.I],?_,rfl,λE=>⟨rfl,rfl,⟨_,_,_,rfl⟩⟩⟩;have j:=a.O;have h:=a.ly;have q:=a.np;have o:=a.ll;have n:=a.ld;have p:=a.ls;have r:=a.pg;have u:=a.rk;have v:=h.rp;have t:=j.bd.r8;refine fG Tryz.func266 λw x=>r0 [] [(2,i6 0),(3,i6 0)] [] (r0 [(1,.c [0,1,2,3] [1,2,3] (DE g m a b d e))] [(4,iN (fa m)),(5,.bool (dU m))] [] (r0 [] [(12,.bool (!(dU m)))] [] ?_));have i:(!(dU m))=false:=(by rw[f];rfl);exact cF (!(dU m)) i (rs [(3,.l 0),(4,ad m.F 1),(7,.s 0)] 0 (ob g #[iN m.R,iN m.S,iN m.B,iN m.M,iN m.C,iN m.G,iN m.res,b,d,e,iN m.Q,iN (m.F+1)] 137) (r0 [] [(2,iN (fa m)),(3,i6 0)] [2,3] (lf ab.zero [0,1,2,3] [] [])))
theorem On(g:Nat)(m:Mp)(a:ba m)(b:dU m=false):aa WJ 266 #[pt g 0] [pk (aF g m)] [0] (λ_=>[pk (aF g m)]) (λ_=> .tuple #[i6 0,i6 52]):=aa.pkZ Tryz.func266 λL k=>by
 obtain⟨e,f,h,rfl⟩:=k;refine⟨[1,2,3],λ_=>[bo e m.N,eV f m.P,dk h m.I],?_,rfl,λE=>⟨rfl,rfl,⟨_,_,_,rfl⟩⟩⟩;have j:=a.O;have d:=a.ly;have p:=a.np;have n:=a.ll;have l:=a.ld;have o:=a.ls;have q:=a.pg;have s:=a.rk;have t:=d.rp;have r:=j.bd.r8;refine fG Tryz.func266 λw u=>r0 [] [(2,i6 0),(3,i6 0)] [] (r0 [(1,.c [0,1,2,3] [1,2,3] (DE g m a e f h))] [(4,iN (fa m)),(5,.bool (dU m))] [] (r0 [] [(12,.bool (!(dU m)))] [] ?_));have i:(!(dU m))=true:=(by rw[b];rfl);exact cT (!(dU m)) i (r0 [] [(2,i6 0),(3,i6 52)] [2,3] (lf ab.zero [1,2,3] [(0,0)] []))
theorem Oo(g:Nat)(m:Mp)(f:ba m)(h t:Nat)(O:h<m.R*m.B*m.M)(K:m.R*m.B*m.M-m.res≤t)(M:t<m.R*m.B*m.M-m.res+m.Q)(x:m.P.getD h false=false)(p:m.P.getD t false=false)(C:h≠t):aa WJ 245 #[pt g 0,iN h,iN t] [pk (aF g m)] [0] (λ_=>[pk (aF g (jO m h t))]) (λ_=>i6 0):=aa.pkZ Tryz.func245 λL v=>by
 obtain⟨e,d,q,rfl⟩:=v;refine⟨[1,2,3],λ_=>[bo e (dz m.N h t m.N.length),eV d (m.P.set h true),dk q m.I],?_,rfl,λE=>⟨rfl,rfl,⟨_,_,_,rfl⟩⟩⟩;have u:=f.O;have n:=f.ly;have D:=f.np;have A:=f.ll;have z:=f.ld;have B:=f.ls;have F:=f.pg;have H:=f.rk;have J:=n.rp;have G:=u.bd.r8;refine fG Tryz.func245 λw N=>r0 [] [(6,i6 0)] [] (rF [(4,.m (ld 0 (d))),(5,e8 kA d m.P 2),(6,.c [] [] (o3 h m.P.length Om)),(13,.m (ls 0 ([iN m.R,iN m.S,iN m.B,iN m.M,iN m.C,iN m.G,iN m.res]))),(14,.c [] [] (pY m.R m.S m.B m.M m.C m.G m.res n)),(15,.t (tb (a:=iN t) (b:=iN (((m.R*m.B)*m.M)-m.res)) λ_ _ _ _=>lQ (a:=t) (b:=((m.R*m.B)*m.M)-m.res) Om Om)),(19,.m (ld 0 (iN m.Q))),(20,.c [] [] (o3 (t-(((m.R*m.B)*m.M)-m.res)) m.Q Om)),] 9 (r0 [(3,.m (ld 0 (d))),(5,cO kA d m.P 2 h),(6,eS kA d m.P 2 h 0),(11,.m (ld 0 (d))),(13,cO kA d m.P 2 t),(14,eS kA d m.P 2 t 0),] [(33,.bool (((m.P.getD h false)||(m.P.getD t false))||((h:Int)==(t:Int))))] [] ?_));have r:(((m.P.getD h false)||(m.P.getD t false))||((h:Int)==(t:Int)))=false:=by rw[x,p];simpa using(show(h:Int)≠(t:Int) by omega)
 refine cF (((m.P.getD h false)||(m.P.getD t false))||((h:Int)==(t:Int))) r (rs [(3,.l 0),(5,cO kA d m.P 2 h),(6,rh kA d m.P 2 h 0 true (.bool true) Kr)] 2 (eV d (m.P.set h true)) (r0 [(3,.l 0),(4,e8 b0 e m.N 1)] [(64,e),(65,iN m.N.length),(66,i6 0)] [] ?_));refine lq (λk=>k≤m.N.length) (λk=>[(66,iN k)]) (λk L=>L.set 1 (bo e (dz m.N h t k))) (λk=>m.N.length-k) 0 Om Kr (by rw[N9];kernel_rfl) (λk y=>?_);have I:=Dy m.N h t k;refine r0 [] [(67,.bool (decide ((k:Int)<(m.N.length:Int))))] [] ?_;refine bW (k:Int) (m.N.length:Int) (λs o=>?_) λs o=>?_
 ·refine r0 [(1,cO b0 e (dz m.N h t k) 1 k),(2,eS b0 e (dz m.N h t k) 1 k 0)] [(7,iN k),(8,iN ((dz m.N h t k).getD k 0))] [] (r0 [] [(73,.bool (((((dz m.N h t k).getD k 0):Nat):Int)==(h:Int)))] [] ?_);refine cJ (((((dz m.N h t k).getD k 0):Nat):Int)==(h:Int)) N0 (λc=>[ob g #[iN m.R,iN m.S,iN m.B,iN m.M,iN m.C,iN m.G,iN m.res,e,d,q,iN m.Q,iN m.F] 137,bo e (bif c then(dz m.N h t k).set k t else dz m.N h t k),eV d (m.P.set h true),dk q m.I]) (λi=>?_) (λi=>?_) ?_
  ·have j:=eq_of_beq i;refine rs [(3,.l 0),(6,cO b0 e (dz m.N h t k) 1 k),(7,rh b0 e (dz m.N h t k) 1 k 0 t (iN t) Kr)] 1 (bo e ((dz m.N h t k).set k t)) ?_;exact cm Kr [0,1,2,3] Kr
  ·have j:=ne_of_beq_false i;exact cm Kr [0,1,2,3] Kr
  exact r0 [(0,ad k 1)] [(66,iN (k+1))] [66] (le (k+1) Om Om Kr [0,1,2,3] (by rw[←Of Om];kernel_rfl))
 obtain rfl:m.N.length=k:=by omega
 exact lx (r0 [] [(6,i6 0)] [6] (lf ab.zero [1,2,3] [(0,0)] []))
theorem Oq(g:Nat)(m:Mp)(d:ba m)(r t:Nat)(C:r<m.R)(x:m.R≤t)(y:t<m.R+m.F)(hs:cy m r=false):aa WJ 246 #[pt g 0,iN r,iN t] [pk (aF g m)] [0] (λ_=>[pk (aF g (fy m r t))]) (λ_=>i6 0):=aa.pkZ Tryz.func246 λL j=>by
 obtain⟨z,A,e,rfl⟩:=j;refine⟨[1,2,3],λ_=>[bo z m.N,eV A m.P,dk e (m.I.set r (t:Int))],?_,rfl,λE=>⟨rfl,rfl,⟨_,_,_,rfl⟩⟩⟩;have i:=d.O;have f:=d.ly;have p:=d.np;have n:=d.ll;have k:=d.ld;have o:=d.ls;have q:=d.pg;have u:=d.rk;have v:=f.rp;have s:=i.bd.r8;refine fG Tryz.func246 λw B=>r0 [] [(6,i6 0)] [] (rF [(4,.m (ld 0 (e))),(5,e8 kI e m.I 3),(6,.c [] [] (o3 r m.I.length Om)),(15,.m (ld 0 (iN m.R))),(16,.t (tb (a:=iN t) (b:=iN m.R) λ_ _ _ _=>lQ (a:=t) (b:=m.R) Om Om)),(20,.m (ld 0 (iN m.F))),(21,.c [] [] (o3 (t-m.R) m.F Om)),] 7 (r0 [(3,.l 0),(5,cO kI e m.I 3 r),(6,eS kI e m.I 3 r 0)] [(32,.bool ((m.I.getD r 0) != (-1)))] [] ?_));have h:((m.I.getD r 0) != (-1))=false:=by exact hs
 exact cF ((m.I.getD r 0) != (-1)) h (rs [(3,.l 0),(6,cO kI e m.I 3 r),(7,rh kI e m.I 3 r 0 (t:Int) (iN t) Kr)] 3 (dk e (m.I.set r (t:Int))) (r0 [] [(6,i6 0)] [6] (lf ab.zero [1,2,3] [(0,0)] [])))
theorem Ot(R S B M C way res:Nat)(hly:ij R S B M C way res):aa WJ 175 #[.agg #[iN R,iN S,iN B,iN M,iN C,iN way,iN res]] [] [] (λE=>[ob (E.y 0) #[iN R,iN S,iN B,iN M,iN C,iN way,iN res,(E.val 0),(E.val 1),(E.val 2),i6 0,i6 0] 137,bo (E.val 0) (WL (R*B*M-res)),eV (E.val 1) (WM ((R*B)*M) false),dk (E.val 2) (WM R (-1))]) (λE=> .tuple #[pt ((E.y 0)) 0,i6 0]):=by
 have hG:=hly.O
 have hrp:=hly.rp
 have hnp:=hG.bd.rbm
 have hway:=hly.G
 have hr64:=hly.r64
 have hlines:=hG.bd.r8
 refine fG Tryz.func175 λw cs=>ra (λq1=>[(1,pt (B0 q1) 0),(2,.pointer none),(3,i6 0)]) (λq1=>[ob (B0 q1) #[iN R,iN S,iN B,iN M,iN C,iN way,iN res] 25]) λq1=>rF [(0,.l 0),(1,.c [] [] (DA R S B M C way res hly))] 8 (rr (λ_=>[(0,.l 0),(2,.l 0),(3,.c [] [] (lW R S B M C hG)),(4,rn kA 1 ((R*B)*M))]) (λq3=>[(4,pt (B6 q3) 0)]) [] (λq3 L=>L++[eV (.slice (some ⟨(q3 4).y 0,0,none⟩) ((R*B)*M) ((R*B)*M)) (WM ((R*B)*M) false),ob (B6 q3) #[iN R,iN S,iN B,iN M,iN C,iN way,iN res,.slice none 0 0,.slice (some ⟨(q3 4).y 0,0,none⟩) ((R*B)*M) ((R*B)*M),.slice none 0 0,i6 0,i6 0] 137]) λq3=>r0 [(0,.l 0),(1,.c [] [] (pY R S B M C way res hly))] [(17,iN (((R*B)*M)-res)),(18,i6 0)] [] (cz b0 ?_))
 refine mw (λk _=>k≤(R*B*M-res)) (λk _=>[(18,iN k)]) (λk vC4_7 L=>(L.set 2 (ob (B6 q3) #[iN R,iN S,iN B,iN M,iN C,iN way,iN res,vC4_7,.slice (some ⟨(q3 4).y 0,0,none⟩) ((R*B)*M) ((R*B)*M),.slice none 0 0,i6 0,i6 0] 137)).set 3 (bo vC4_7 (WL k))) (λk _=>(R*B*M-res)-k) 0 (.slice none 0 0) Om Kr Kr (λk vC4_7 hk5=>?_)
 have hkl:(WL k).length=k:=WZ
 refine r0 [] [(19,.bool (decide ((k:Int)<((((R*B)*M)-res:Nat):Int))))] [] ?_
 refine bW (k:Int) ((((R*B)*M)-res:Nat):Int) (λh7 dh7=>?_) λh7 dh7=>?_
 ·exact r0 [] [(5,iN k)] [] (rr (λq9=>[(4,.l 2),(6,.m (bs 4 1)),(7,eT b0 (vC4_7) (WL k) 3 4 ([k])),(10,.m (fj 2 3 (bo ((q9 7).val 0) ((WL k)++([k]))) ((q9 7).val 0) λbs h=>aq.one ((λ_ h=>h) bs h)))]) N0 [] (λq9 L=>(L.set 2 (ob (B6 q3) #[iN R,iN S,iN B,iN M,iN C,iN way,iN res,(q9 7).val 0,.slice (some ⟨(q3 4).y 0,0,none⟩) ((R*B)*M) ((R*B)*M),.slice none 0 0,i6 0,i6 0] 137)).set 3 (bo ((q9 7).val 0) ((WL k)++([k])))++[ob (B6 q9) #[iN k] 3]) λq9=>r0 [(0,ad k 1)] [(18,iN (k+1))] [18] (kQ (k+1) ((q9 7).val 0) Om Om Kr [0,1,2,3] (by rw[Xk];kernel_rfl)))
 obtain rfl:k=(R*B*M-res):=by omega
 refine kR ?_
 refine r0 [(2,.l 0)] [(34,iN R),(35,i6 0)] [] (cz kI ?_)
 refine mw (λj _=>j≤R) (λj _=>[(35,iN j)]) (λj vC4_9 L=>(L.set 2 (ob (B6 q3) #[iN R,iN S,iN B,iN M,iN C,iN way,iN res,vC4_7,.slice (some ⟨(q3 4).y 0,0,none⟩) ((R*B)*M) ((R*B)*M),vC4_9,i6 0,i6 0] 137)).set 4 (dk vC4_9 (WM j (-1)))) (λj _=>R-j) 0 (.slice none 0 0) Om Kr Kr (λj vC4_9 hk12=>?_)
 have hjl:(WM j (-1:Int)).length=j:=Xe
 refine r0 [] [(36,.bool (decide ((j:Int)<(R:Int))))] [] ?_
 refine bW (j:Int) (R:Int) (λh14 dh14=>?_) λh14 dh14=>?_
 ·exact rr (λq15=>[(4,.l 2),(5,.m (bs 5 1)),(6,eT kI (vC4_9) (WM j (-1)) 4 5 ([(-1)])),(9,.m (fj 2 4 (dk ((q15 6).val 0) ((WM j (-1))++([(-1)]))) ((q15 6).val 0) λbs h=>aq.one ((λ_ h=>h) bs h)))]) N0 [] (λq15 L=>(L.set 2 (ob (B6 q3) #[iN R,iN S,iN B,iN M,iN C,iN way,iN res,vC4_7,.slice (some ⟨(q3 4).y 0,0,none⟩) ((R*B)*M) ((R*B)*M),(q15 6).val 0,i6 0,i6 0] 137)).set 4 (dk ((q15 6).val 0) ((WM j (-1))++([(-1)])))++[ob (B5 q15) #[i6 (-1)] 3]) λq15=>r0 [(0,ad j 1)] [(35,iN (j+1))] [35] (kQ (j+1) ((q15 6).val 0) Om Om Kr [0,1,2,3,4] (by rw[List.replicate_succ'];kernel_rfl))
 obtain rfl:R=j:=by omega
 refine kR ?_
 exact r0 [] [(2,pt (B6 q3) 0),(3,i6 0)] [2,3] (lf (.l [(q3 6).y 0] [] [vC4_7,.slice (some ⟨(q3 4).y 0,0,none⟩) ((R*B)*M) ((R*B)*M),vC4_9]) [2,3,1,4] [] [])
theorem Ou(R S B M C way a:Nat)(b:ij R S B M C way a):aa WJ 175 #[.agg #[iN R,iN S,iN B,iN M,iN C,iN way,iN a]] [] [] (λE=>[pk (aF (E.y 0) (kX R S B M C way a))]) (λE=> .tuple #[pt ((E.y 0)) 0,i6 0]):=(Ot R S B M C way a b).outs λE d c=>r9 ⟨_,_,_,rfl⟩ c
end
section
open Go.Shelf
theorem lX(a b:Nat):((a:Int)==(b:Int))=decide (a=b):=by
 by_cases h:a=b
 ·subst h;rw[cD rfl];exact beq_self_eq_true _
 ·rw[bf h,dN];omega
theorem yv(a b:Nat):decide ((a:Int)≤(b:Int))=decide (a≤b):=by
 by_cases h:a≤b
 ·rw[cD h,cD Om]
 ·rw[bf h,bf Om]
structure Jb where
 A:Nat
 fr:Nat
 tg:Nat
 nx:Nat
def kb:Jb:=⟨0,0,0,0⟩
def ft(a B M C:Nat):Nat:=match a with
 | 0=>0
 | 1=>C
 | _=>B*M*C
structure oc (m:Mp) (fr t nx:Nat):Prop where
 hf:fr<m.R*m.B*m.M
 ht:t<m.R*m.B*m.M
 ne:fr≠t
 df:m.P.getD fr false=false
 dt:m.P.getD t false=false
 t0:m.R*m.B*m.M-m.res≤t
 t1:t<m.R*m.B*m.M-m.res+m.Q
 nx:nx≤m.C
 f1:fr<m.R*m.B*m.M-m.res+m.Q
structure od (m:Mp) (fr t nx:Nat):Prop where
 hf:fr<m.R
 hs:cy m fr=false
 t0:m.R≤t
 t1:t<m.R+m.F
 nx:nx≤m.B*m.M*m.C
structure se (m:Mp) (j:Jb):Prop where
 k:j=kb∨(j.A=1∧oc m j.fr j.tg j.nx)∨(j.A=2∧od m j.fr j.tg j.nx)
def gj(m:Mp)(r i:Nat):Nat:=bl r (i/m.C/m.M) (i/m.C%m.M) (i%m.C)
def a7(m:Mp)(a w i:Nat):Nat:=match a with
 | 1=>aO m w*64+i
 | _=>gj m w i
def fu(m:Mp)(n:Nat):Nat:=(cQ m.G m.R m.B m.M (au m n)*m.M+cV m.G m.R m.B m.M (au m n))*m.C+n%m.C
def aN(m:Mp)(j:Jb)(n:Nat):Nat:=match j.A with
 | 0=>di m n
 | 1=>if au m n=j.fr then(if n%m.C<j.nx then a7 m 1 j.tg (n%m.C) else di m n) else di m n
 | _=>if aB m.G m.R m.B m.M (au m n)=j.fr then(if fu m n<j.nx then a7 m 2 j.tg (fu m n) else di m n) else di m n
section
variable {m:Mp}
theorem ny(h:ba m){r i:Nat}(c:r<m.R+m.S)(b:i<m.B*m.M*m.C):gb m.R m.S m.B m.M m.C r (i/m.C/m.M) (i/m.C%m.M) (i%m.C):=by
 have a:=h.O.bd;refine⟨c,?_,WU _ a.m1,WU _ a.c1⟩;exact Xb (WT m.B m.M▸Xb (WT (m.B*m.M) m.C▸b))
theorem u5(h:ba m){n:Nat}(d:n<(m.R*m.B*m.M-m.res)*m.C):fu m n<m.B*m.M*m.C:=by
 have a:=nw h (sd h d);have e:=WU n h.O.bd.c1;have b:cQ m.G m.R m.B m.M (au m n)*m.M+cV m.G m.R m.B m.M (au m n)<m.B*m.M:=by
  have:(cQ m.G m.R m.B m.M (au m n)+1)*m.M≤m.B*m.M:=WW _ a.h1;rw[Xf] at this;have:=a.h2;omega
 have c:(cQ m.G m.R m.B m.M (au m n)*m.M+cV m.G m.R m.B m.M (au m n)+1)*m.C≤m.B*m.M*m.C:=WW _ b;rw[Xf] at c;unfold fu;omega
theorem sf(m:Mp)(n:Nat):di m n=bl (eX m (au m n)) (cQ m.G m.R m.B m.M (au m n)) (cV m.G m.R m.B m.M (au m n)) (n%m.C):=by unfold di aO bl;omega
theorem yw(h:ba m){n:Nat}(b:n<(m.R*m.B*m.M-m.res)*m.C):gb m.R m.S m.B m.M m.C (eX m (au m n)) (cQ m.G m.R m.B m.M (au m n)) (cV m.G m.R m.B m.M (au m n)) (n%m.C):=by
 have a:=nw h (sd h b);exact⟨a.h0,a.h1,a.h2,WU _ h.O.bd.c1⟩
end
end
section
open Go.Shelf
theorem DF(i n:Int):aa WJ 187 #[i6 i,i6 n] [] [] N0 (λ_=> .bool (bK i n)):=by
 exact fG Tryz.func187 λw a=>r0 [] [(4,.bool false)] [] (r0 [] [(4,.bool ((decide (0≤i))&&(decide (i<n))))] [4] (ao (.bool ((decide (0≤i))&&(decide (i<n)))) ab.zero bg [] [] []))
theorem oe(i n:Nat)(h:i<n):aa WJ 187 #[iN i,iN n] [] [] N0 (λ_=> .bool true):=by
 have a:=DF i n;rwa [lV.2 ⟨by omega,by omega⟩] at a
theorem Ov(d t f R S B M C way a:Nat)(c:ij R S B M C way a):aa WJ 188 #[.agg #[i6 0,iN d,iN t,iN f],.agg #[iN R,iN S,iN B,iN M,iN C,iN way,iN a]] [] [] N0 (λ_=>i6 0):=by
 have g:=c.O;have e:=g.bd.bmc;exact fG Tryz.func188 λw h=>ra (λb=>[(2,pt (B0 b) 0),(3,pt (B1 b) 0),(4,i6 0)]) (λb=>[ob (B0 b) #[i6 0,iN d,iN t,iN f] 70,ob (B1 b) #[iN R,iN S,iN B,iN M,iN C,iN way,iN a] 25]) λb=>r0 [(1,.l 0)] [(6,i6 0)] [] (rF [] 7 (rF [] 12 (r0 [] [(4,i6 0)] [4] (lf ab.zero [] [] []))))
theorem yx(d t f R S B M C way a:Nat)(c:ij R S B M C way a):aa WJ 188 #[.agg #[i6 1,iN d,iN t,iN f],.agg #[iN R,iN S,iN B,iN M,iN C,iN way,iN a]] [] [] N0 (λ_=>iN C):=by
 have g:=c.O;have e:=g.bd.bmc;exact fG Tryz.func188 λw h=>ra (λb=>[(2,pt (B0 b) 0),(3,pt (B1 b) 0),(4,i6 0)]) (λb=>[ob (B0 b) #[i6 1,iN d,iN t,iN f] 70,ob (B1 b) #[iN R,iN S,iN B,iN M,iN C,iN way,iN a] 25]) λb=>r0 [(1,.l 0)] [(6,i6 1)] [] (rT [] 7 (r0 [(2,.l 1)] [(4,iN C)] [4] (lf ab.zero [] [] [])))
theorem yy(e t h R S B M C way a:Nat)(d:ij R S B M C way a):aa WJ 188 #[.agg #[i6 2,iN e,iN t,iN h],.agg #[iN R,iN S,iN B,iN M,iN C,iN way,iN a]] [] [] N0 (λ_=>iN ((B*M)*C)):=by
 have f:=d.O;have g:=f.bd.bmc;exact fG Tryz.func188 λw i=>ra (λb=>[(2,pt (B0 b) 0),(3,pt (B1 b) 0),(4,i6 0)]) (λb=>[ob (B0 b) #[i6 2,iN e,iN t,iN h] 70,ob (B1 b) #[iN R,iN S,iN B,iN M,iN C,iN way,iN a] 25]) λb=>r0 [(1,.l 0)] [(6,i6 2)] [] (rF [] 7 (rT [] 12 (r0 [(1,.l 1),(2,.c [] [] (NH R S B M C f))] [(4,iN ((B*M)*C))] [4] (lf ab.zero [] [] []))))
theorem Ow(f t b R S B M C way a:Nat)(e:ij R S B M C way a):aa WJ 211 #[.agg #[i6 1,iN f,iN t,iN b],.agg #[iN R,iN S,iN B,iN M,iN C,iN way,iN a]] [] [] N0 (λ_=> .bool (decide (b=C))):=by
 have h:=e.O;have g:=h.bd.bmc;exact fG Tryz.func211 λw i=>ra (λd=>[(2,pt (B0 d) 0),(3,pt (B1 d) 0),(4,.bool false)]) (λd=>[ob (B0 d) #[i6 1,iN f,iN t,iN b] 70,ob (B1 d) #[iN R,iN S,iN B,iN M,iN C,iN way,iN a] 25]) λd=>r0 [(1,.m (ld 0 (i6 1))),(5,.m (ld 0 (iN b))),(6,.m (ls 0 ([i6 1,iN f,iN t,iN b]))),(7,.m (ls 1 ([iN R,iN S,iN B,iN M,iN C,iN way,iN a]))),(8,.c [] [] (yx f t b R S B M C way a e)),] [(4,.bool ((b:Int)==(C:Int)))] [4] (ao (.bool ((b:Int)==(C:Int))) ab.zero (by exact ALca Value.bool (lX b C)) [] [] [])
theorem Ox(f t b R S B M C way a:Nat)(e:ij R S B M C way a):aa WJ 211 #[.agg #[i6 2,iN f,iN t,iN b],.agg #[iN R,iN S,iN B,iN M,iN C,iN way,iN a]] [] [] N0 (λ_=> .bool (decide (b=B*M*C))):=by
 have h:=e.O;have g:=h.bd.bmc;exact fG Tryz.func211 λw i=>ra (λd=>[(2,pt (B0 d) 0),(3,pt (B1 d) 0),(4,.bool false)]) (λd=>[ob (B0 d) #[i6 2,iN f,iN t,iN b] 70,ob (B1 d) #[iN R,iN S,iN B,iN M,iN C,iN way,iN a] 25]) λd=>r0 [(1,.m (ld 0 (i6 2))),(5,.m (ld 0 (iN b))),(6,.m (ls 0 ([i6 2,iN f,iN t,iN b]))),(7,.m (ls 1 ([iN R,iN S,iN B,iN M,iN C,iN way,iN a]))),(8,.c [] [] (yy f t b R S B M C way a e)),] [(4,.bool ((b:Int)==(((B*M)*C:Nat):Int)))] [4] (ao (.bool ((b:Int)==(((B*M)*C:Nat):Int))) ab.zero (by exact ALca Value.bool (lX b (B*M*C))) [] [] [])
theorem Oy(g:Nat)(m:Mp)(d:ba m)(a t h:Nat)(e:oc m a t h):aa WJ 222 #[.agg #[i6 1,iN a,iN t,iN h],pt g 0] [pk (aF g m)] [0] (λ_=>[pk (aF g m)]) (λ_=> .bool true):=by
 have b:=d.O;have p:=d.ly;have r:=d.np;have i:=b.bd.bmc;have k:=b.bd.c1;have q:=b.bd.m1;have j:=b.bd.c64;have s:=b.bd.r8;have l:=e.hf;have n:=e.ht;have o:=e.ne;exact fG Tryz.func222 λw u=>ra (λf=>[(2,pt (B0 f) 0),(4,.bool false)]) (λf=>[ob (B0 f) #[i6 1,iN a,iN t,iN h] 70]) λf=>r0 [(1,.c [0] [0] (jk g m d)),(3,.c [] [] (lW m.R m.S m.B m.M m.C b))] [(5,iN ((m.R*m.B)*m.M))] [] (r0 [(1,.m (ld 1 (iN a))),(3,.c [] [] (oe a ((m.R*m.B)*m.M) Om)),(6,.m (ld 1 (iN t))),(8,.c [] [] (oe t ((m.R*m.B)*m.M) Om)),(12,.m (ld 1 (iN a))),(14,.m (ld 1 (iN t))),(15,.t (tk (show Value.bool ((a:Int) != (t:Int))= .bool true from ALca Value.bool (by simp;omega)))),(20,.m (ld 1 (iN a))),(21,.c [0] [0] (aa.v ((u4 g m d a Om)) λ_=>ALca Value.bool (show((m.P.getD a false))=false from(by exact e.df)))),(27,.m (ld 1 (iN t))),(28,.c [0] [0] (aa.v ((u4 g m d t Om)) λ_=>ALca Value.bool (show((m.P.getD t false))=false from(by exact e.dt)))),] [(4,.bool true)] [4] (lf ab.zero [0] [] []))
theorem Oz(g:Nat)(m:Mp)(e:ba m)(d t k:Nat)(h:od m d t k):aa WJ 223 #[.agg #[i6 2,iN d,iN t,iN k],pt g 0] [pk (aF g m)] [0] (λ_=>[pk (aF g m)]) (λ_=> .bool true):=by
 have f:=e.O;have x:=e.ly;have z:=e.np;have n:=f.bd.bmc;have p:=f.bd.c1;have y:=f.bd.m1;have o:=f.bd.c64;have A:=f.bd.r8;have q:=h.hf;have r:=h.t0;have u:=h.t1;have v:=e.rk;exact fG Tryz.func223 λw B=>ra (λi=>[(2,pt (B0 i) 0),(4,.bool false)]) (λi=>[ob (B0 i) #[i6 2,iN d,iN t,iN k] 70]) λi=>rr (λ_=>[(1,.c [0] [0] (jk g m e)),(4,.s 2)]) (λj=>[(5,pt (B3 j) 0)]) [] (λj L=>L++[ob (B3 j) #[iN m.R,iN m.S,iN m.B,iN m.M,iN m.C] 23]) λj=>r0 [(2,.l 1),(3,.c [0] [0] (yr g m e d Om))] [(7,.bool (cy m d))] [] (r0 [(1,.m (ld 1 (iN d))),(3,.m (ld 2 (iN m.R))),(4,.c [] [] (oe d m.R Om)),(11,.m (ld 1 (iN t))),(13,.m (ld 2 (iN m.R))),(14,.t (tb (a:=iN t) (b:=iN m.R) λ_ _ _ _=>lQ (a:=t) (b:=m.R) Om Om)),(16,.m (ld 2 (iN m.S))),(17,.c [] [] (oe (t-m.R) m.S Om))] [(4,.bool ((!(cy m d))&&true))] [4] (ao (.bool ((!(cy m d))&&true)) ab.zero (by rw[h.hs];rfl) [0] [] []))
theorem OA(g:Nat)(m:Mp)(b:ba m):aa WJ 186 #[.agg #[i6 0,i6 0,i6 0,i6 0],pt g 0] [pk (aF g m)] [0] (λ_=>[pk (aF g m)]) (λ_=> .bool true):=by
 have a:=b.O;have f:=b.ly;have n:=b.np;have h:=a.bd.bmc;have j:=a.bd.c1;have k:=a.bd.m1;have i:=a.bd.c64;have o:=a.bd.r8;exact fG Tryz.func186 λw p=>ra (λd=>[(2,pt (B0 d) 0),(4,.bool false)]) (λd=>[ob (B0 d) #[i6 0,i6 0,i6 0,i6 0] 70]) λd=>r0 [(1,.l 1),(2,.l 1),(4,.c [0] [0] (jk g m b)),(5,.c [] [] (Ov 0 0 0 m.R m.S m.B m.M m.C m.G m.res f)),(7,.c [] [] (DF 0 1))] [(5,.bool (bK 0 1))] [] (r0 [(1,.l 1)] [(15,i6 0)] [] (rT [] 16 (r0 [(0,.l 1),(2,.e)] [(4,.bool (0==0&&(0==0&&(0==0&&(0==0&&true)))))] [4] (ao (.bool (0==0&&(0==0&&(0==0&&(0==0&&true))))) ab.zero bg [0] [] []))))
theorem DG(g:Nat)(m:Mp)(e:ba m)(b t a:Nat)(k:oc m b t a):aa WJ 186 #[.agg #[i6 1,iN b,iN t,iN a],pt g 0] [pk (aF g m)] [0] (λ_=>[pk (aF g m)]) (λ_=> .bool true):=by
 have d:=e.O;have h:=e.ly;have q:=e.np;have i:=d.bd.bmc;have n:=d.bd.c1;have p:=d.bd.m1;have j:=d.bd.c64;have r:=d.bd.r8;have o:=k.nx;exact fG Tryz.func186 λw s=>ra (λf=>[(2,pt (B0 f) 0),(4,.bool false)]) (λf=>[ob (B0 f) #[i6 1,iN b,iN t,iN a] 70]) λf=>r0 [(1,.l 1),(2,.l 1),(4,.c [0] [0] (jk g m e)),(5,.c [] [] (yx b t a m.R m.S m.B m.M m.C m.G m.res h)),(6,ad m.C 1),(7,.c [] [] (oe a (m.C+1) Om))] [(5,.bool true)] [] (r0 [(1,.l 1)] [(15,i6 1)] [] (rF [] 16 (rT [] 21 (r0 [(2,.l 1),(4,.c [0] [0] (Oy g m e b t a k))] [(4,.bool true)] [4] (lf ab.zero [0] [] [])))))
theorem DH(g:Nat)(m:Mp)(e:ba m)(b t a:Nat)(k:od m b t a):aa WJ 186 #[.agg #[i6 2,iN b,iN t,iN a],pt g 0] [pk (aF g m)] [0] (λ_=>[pk (aF g m)]) (λ_=> .bool true):=by
 have d:=e.O;have h:=e.ly;have q:=e.np;have i:=d.bd.bmc;have n:=d.bd.c1;have p:=d.bd.m1;have j:=d.bd.c64;have r:=d.bd.r8;have o:=k.nx;exact fG Tryz.func186 λw s=>ra (λf=>[(2,pt (B0 f) 0),(4,.bool false)]) (λf=>[ob (B0 f) #[i6 2,iN b,iN t,iN a] 70]) λf=>r0 [(1,.l 1),(2,.l 1),(4,.c [0] [0] (jk g m e)),(5,.c [] [] (yy b t a m.R m.S m.B m.M m.C m.G m.res h)),(6,ad ((m.B*m.M)*m.C) 1),(7,.c [] [] (oe a (((m.B*m.M)*m.C)+1) Om))] [(5,.bool true)] [] (r0 [(1,.l 1)] [(15,i6 2)] [] (rF [] 16 (rF [] 21 (rT [] 29 (r0 [(2,.l 1),(4,.c [0] [0] (Oz g m e b t a k))] [(4,.bool true)] [4] (lf ab.zero [0] [] []))))))
theorem OB(m:Mp)(j:ba m)(r i:Nat)(q:r<m.R+m.S)(o:i<m.B*m.M*m.C):aa WJ 189 #[.agg #[iN m.R,iN m.S,iN m.B,iN m.M,iN m.C],iN r,iN i] [] [] N0 (λ_=> .tuple #[iN (gj m r i),i6 0]):=by
 have f:=j.O;have h:=f.bd.bmc;have k:=f.bd.c1;have p:=f.bd.m1;have n:=Yc i m.C;exact fG Tryz.func189 λw u=>ra (λg=>[(3,pt (B0 g) 0),(6,i6 0),(7,i6 0)]) (λg=>[ob (B0 g) #[iN m.R,iN m.S,iN m.B,iN m.M,iN m.C] 23]) λg=>rr (λ_=>[(3,.l 0),(4,.t (tb (a:=iN i) (b:=iN m.C) λ_ _ _ _=>nV (a:=i) (d:=m.C) Om)),(7,.s 1)]) (λe=>[(8,pt (B6 e) 0)]) [] (λe L=>L++[ob (B6 e) #[iN r,i6 0,i6 0,iN (i%m.C)] 46]) λe=>r0 [(2,.l 0),(3,.t (tb (a:=iN i) (b:=iN m.C) λ_ _ _ _=>oK (a:=i) (d:=m.C) Om Om))] [(2,iN (i/m.C))] [2] (rs [(2,.m (ld 0 (iN m.M))),(3,.t (tb (a:=iN (i/m.C)) (b:=iN m.M) λ_ _ _ _=>nV (a:=i/m.C) (d:=m.M) Om)),(6,.m (ld 0 (iN m.M))),(7,.t (tb (a:=iN (i/m.C)) (b:=iN m.M) λ_ _ _ _=>oK (a:=i/m.C) (d:=m.M) Om Om)),(9,.s 1),(11,.s 1)] 1 (ob (B6 e) #[iN r,iN ((i/m.C)/m.M),iN ((i/m.C)%m.M),iN (i%m.C)] 46) (r0 [(0,.l 0),(1,.l 1),(2,.c [] [] (sa f (ny j q o)))] [(6,iN (bl r ((i/m.C)/m.M) ((i/m.C)%m.M) (i%m.C))),(7,i6 0)] [6,7] (ao (.tuple #[iN (bl r ((i/m.C)/m.M) ((i/m.C)%m.M) (i%m.C)),i6 0]) ab.zero bg [] [] [])))
theorem DI(g:Nat)(m:Mp)(d:ba m)(a t e:Nat)(q:oc m a t e)(p i:Nat)(hp:p<m.R*m.B*m.M)(y:i<m.C):aa WJ 144 #[.agg #[i6 1,iN a,iN t,iN e],pt g 0,iN p,iN i] [pk (aF g m)] [0] (λ_=>[pk (aF g m)]) (λ_=> .tuple #[iN (aO m p*64+i),i6 0]):=by
 have f:=d.O;have j:=d.ly;have u:=d.np;have k:=f.bd.bmc;have o:=f.bd.c1;have s:=f.bd.m1;have n:=f.bd.c64;have v:=f.bd.r8;have r:=u2 d hp;exact fG Tryz.func144 λw x=>ra (λh=>[(4,pt (B0 h) 0),(8,i6 0),(9,i6 0)]) (λh=>[ob (B0 h) #[i6 1,iN a,iN t,iN e] 70]) λh=>rF [(0,.m (ls 1 ([i6 1,iN a,iN t,iN e]))),(2,.c [0] [0] (DG g m d a t e q)),(6,.m (ls 1 ([i6 1,iN a,iN t,iN e]))),(8,.c [0] [0] (jk g m d)),(9,.c [] [] (yx a t e m.R m.S m.B m.M m.C m.G m.res j)),(10,.c [] [] (oe i m.C Om))] 24 (rF [(1,.l 1)] 27 (r0 [(2,.c [0] [0] (DD g m d p Om))] [(10,iN (aO m p)),(11,i6 0)] [] (rF [] 43 (r0 [(1,.t (tv (av .shl 3 (.tmp 45) (.const (u6 6)) (iN (aO m p)) (u6 6)) (λ_=>dQ (b:=((aO m p*64:Nat):Int)) (fk 6 Dc Om Om) Om))),(3,.t (tv (av .or 3 (.tmp 46) (.tmp 47) (iN (aO m p*64)) (iN i)) (λ_=>dQ (b:=((aO m p*64+i:Nat):Int)) (pM 6 64 rfl Om Om Om Om Om) Om)))] [(8,iN (aO m p*64+i)),(9,i6 0)] [8,9] (lf ab.zero [0] [] [])))))
theorem DJ(g:Nat)(m:Mp)(b:ba m)(a t d:Nat)(o:od m a t d)(r i:Nat)(x:r<m.R+m.S)(v:i<m.B*m.M*m.C):aa WJ 144 #[.agg #[i6 2,iN a,iN t,iN d],pt g 0,iN r,iN i] [pk (aF g m)] [0] (λ_=>[pk (aF g m)]) (λ_=> .tuple #[iN (gj m r i),i6 0]):=by
 have e:=b.O;have h:=b.ly;have q:=b.np;have j:=e.bd.bmc;have n:=e.bd.c1;have p:=e.bd.m1;have k:=e.bd.c64;have s:=e.bd.r8;exact fG Tryz.func144 λw u=>ra (λf=>[(4,pt (B0 f) 0),(8,i6 0),(9,i6 0)]) (λf=>[ob (B0 f) #[i6 2,iN a,iN t,iN d] 70]) λf=>rF [(0,.m (ls 1 ([i6 2,iN a,iN t,iN d]))),(2,.c [0] [0] (DH g m b a t d o)),(6,.m (ls 1 ([i6 2,iN a,iN t,iN d]))),(8,.c [0] [0] (jk g m b)),(9,.c [] [] (yy a t d m.R m.S m.B m.M m.C m.G m.res h)),(10,.c [] [] (oe i ((m.B*m.M)*m.C) Om))] 24 (rT [(1,.l 1)] 27 (r0 [(1,.c [0] [0] (jk g m b)),(5,.c [] [] (OB m b r i Om Om))] [(8,iN (gj m r i)),(9,i6 0)] [8,9] (lf ab.zero [0] [] [])))
theorem OD(g:Nat)(m:Mp)(d:ba m)(a t e:Nat)(k:oc m a t e)(i:Nat)(v:i<m.C):aa WJ 119 #[.agg #[i6 1,iN a,iN t,iN e],pt g 0,iN i] [pk (aF g m)] [0] (λ_=>[pk (aF g m)]) (λ_=> .tuple #[iN (aO m a*64+i),i6 0]):=by
 have b:=d.O;have p:=d.ly;have r:=d.np;have h:=b.bd.bmc;have n:=b.bd.c1;have q:=b.bd.m1;have j:=b.bd.c64;have s:=b.bd.r8;have o:=k.hf;exact fG Tryz.func119 λw u=>ra (λf=>[(3,pt (B0 f) 0),(6,i6 0),(7,i6 0)]) (λf=>[ob (B0 f) #[i6 1,iN a,iN t,iN e] 70]) λf=>r0 [(0,.l 1),(3,.l 1),(5,.c [0] [0] (DI g m d a t e k a i Om Om))] [(6,iN (aO m a*64+i)),(7,i6 0)] [6,7] (lf ab.zero [0] [] [])
theorem OE(g:Nat)(m:Mp)(d:ba m)(a t e:Nat)(k:od m a t e)(i:Nat)(v:i<m.B*m.M*m.C):aa WJ 119 #[.agg #[i6 2,iN a,iN t,iN e],pt g 0,iN i] [pk (aF g m)] [0] (λ_=>[pk (aF g m)]) (λ_=> .tuple #[iN (gj m a i),i6 0]):=by
 have b:=d.O;have p:=d.ly;have r:=d.np;have h:=b.bd.bmc;have n:=b.bd.c1;have q:=b.bd.m1;have j:=b.bd.c64;have s:=b.bd.r8;have o:=k.hf;exact fG Tryz.func119 λw u=>ra (λf=>[(3,pt (B0 f) 0),(6,i6 0),(7,i6 0)]) (λf=>[ob (B0 f) #[i6 2,iN a,iN t,iN e] 70]) λf=>r0 [(0,.l 1),(3,.l 1),(5,.c [0] [0] (DJ g m d a t e k a i Om Om))] [(6,iN (gj m a i)),(7,i6 0)] [6,7] (lf ab.zero [0] [] [])
theorem DK(g:Nat)(m:Mp)(d:ba m)(b t e:Nat)(k:oc m b t e)(i:Nat)(v:i<m.C):aa WJ 120 #[.agg #[i6 1,iN b,iN t,iN e],pt g 0,iN i] [pk (aF g m)] [0] (λ_=>[pk (aF g m)]) (λ_=> .tuple #[iN (aO m t*64+i),i6 0]):=by
 have a:=d.O;have p:=d.ly;have r:=d.np;have h:=a.bd.bmc;have n:=a.bd.c1;have q:=a.bd.m1;have j:=a.bd.c64;have s:=a.bd.r8;have o:=k.ht;exact fG Tryz.func120 λw u=>ra (λf=>[(3,pt (B0 f) 0),(6,i6 0),(7,i6 0)]) (λf=>[ob (B0 f) #[i6 1,iN b,iN t,iN e] 70]) λf=>r0 [(0,.l 1),(3,.l 1),(5,.c [0] [0] (DI g m d b t e k t i Om Om))] [(6,iN (aO m t*64+i)),(7,i6 0)] [6,7] (lf ab.zero [0] [] [])
theorem DM(g:Nat)(m:Mp)(b:ba m)(d t e:Nat)(k:od m d t e)(i:Nat)(x:i<m.B*m.M*m.C):aa WJ 120 #[.agg #[i6 2,iN d,iN t,iN e],pt g 0,iN i] [pk (aF g m)] [0] (λ_=>[pk (aF g m)]) (λ_=> .tuple #[iN (gj m t i),i6 0]):=by
 have a:=b.O;have q:=b.ly;have s:=b.np;have h:=a.bd.bmc;have n:=a.bd.c1;have r:=a.bd.m1;have j:=a.bd.c64;have u:=a.bd.r8;have o:=k.t1;have p:=b.rk;exact fG Tryz.func120 λw v=>ra (λf=>[(3,pt (B0 f) 0),(6,i6 0),(7,i6 0)]) (λf=>[ob (B0 f) #[i6 2,iN d,iN t,iN e] 70]) λf=>r0 [(0,.l 1),(3,.l 1),(5,.c [0] [0] (DJ g m b d t e k t i Om Om))] [(6,iN (gj m t i)),(7,i6 0)] [6,7] (lf ab.zero [0] [] [])
theorem OF(m:Mp)(f:ba m)(n:Nat)(h:n<(m.R*m.B*m.M-m.res)*m.C):aa WJ 221 #[.agg #[iN m.R,iN m.S,iN m.B,iN m.M,iN m.C],iN (bl (eX m (au m n)) (cQ m.G m.R m.B m.M (au m n)) (cV m.G m.R m.B m.M (au m n)) (n%m.C))] [] [] N0 (λ_=>iN (fu m n)):=by
 have d:=f.O;have g:=d.bd.bmc;have j:(cQ m.G m.R m.B m.M (au m n)*m.M+cV m.G m.R m.B m.M (au m n))*m.C+n%m.C<m.B*m.M*m.C:=u5 f h;have e:=d.bd.c1;have i:=XB (cQ m.G m.R m.B m.M (au m n)*m.M+cV m.G m.R m.B m.M (au m n)) e;exact fG Tryz.func221 λw k=>ra (λa=>[(2,pt (B0 a) 0),(4,i6 0)]) (λa=>[ob (B0 a) #[iN m.R,iN m.S,iN m.B,iN m.M,iN m.C] 23]) λa=>rr (λ_=>[(0,.l 0),(2,.c [] [] (pV d (yw f h))),(7,.s 1)]) (λb=>[(5,pt (B6 b) 0),(6,i6 0)]) [] (λb L=>L++[ob (B6 b) #[iN (eX m (au m n)),iN (cQ m.G m.R m.B m.M (au m n)),iN (cV m.G m.R m.B m.M (au m n)),iN (n%m.C)] 46]) λb=>rF [] 14 (r0 [(1,.m (ld 1 (iN (cQ m.G m.R m.B m.M (au m n))))),(3,.m (ld 0 (iN m.M))),(4,ml (cQ m.G m.R m.B m.M (au m n)) m.M),(6,.m (ld 1 (iN (cV m.G m.R m.B m.M (au m n))))),(7,ad ((cQ m.G m.R m.B m.M (au m n))*m.M) (cV m.G m.R m.B m.M (au m n))),(9,.m (ld 0 (iN m.C))),(10,ml (((cQ m.G m.R m.B m.M (au m n))*m.M)+(cV m.G m.R m.B m.M (au m n))) m.C),(12,.m (ld 1 (iN (n%m.C)))),(13,ad ((((cQ m.G m.R m.B m.M (au m n))*m.M)+(cV m.G m.R m.B m.M (au m n)))*m.C) (n%m.C))] [(4,iN (((((cQ m.G m.R m.B m.M (au m n))*m.M)+(cV m.G m.R m.B m.M (au m n)))*m.C)+(n%m.C)))] [4] (ao (iN (((((cQ m.G m.R m.B m.M (au m n))*m.M)+(cV m.G m.R m.B m.M (au m n)))*m.C)+(n%m.C))) ab.zero bg [] [] []))
end
section
open Go.Shelf
theorem OG(m:Mp)(a:ba m)(n:Nat)(b:n<(m.R*m.B*m.M-m.res)*m.C):aa WJ 221 #[.agg #[iN m.R,iN m.S,iN m.B,iN m.M,iN m.C],iN (di m n)] [] [] N0 (λ_=>iN (fu m n)):=by
 rw[sf];exact OF m a n b
theorem OH(g:Nat)(m:Mp)(a:ba m)(n:Nat)(t:n<(m.R*m.B*m.M-m.res)*m.C):aa WJ 185 #[.agg #[i6 0,i6 0,i6 0,i6 0],pt g 0,iN n] [pk (aF g m)] [0] (λ_=>[pk (aF g m)]) (λ_=> .tuple #[iN (di m n),iN (au m n),iN (aB m.G m.R m.B m.M (au m n)),i6 0]):=by
 have b:=a.O;have k:=a.ly;have p:=a.np;have h:=b.bd.bmc;have j:=b.bd.c1;have o:=b.bd.m1;have i:=b.bd.c64;have q:=b.bd.r8;exact fG Tryz.func185 λw r=>ra (λe=>[(3,pt (B0 e) 0),(6,i6 0),(7,i6 0),(8,i6 0),(9,i6 0)]) (λe=>[ob (B0 e) #[i6 0,i6 0,i6 0,i6 0] 70]) λe=>r0 [(2,.c [0] [0] (yt g m a n Om)),] [(6,iN (di m n)),(7,iN (au m n)),(8,iN (aB m.G m.R m.B m.M (au m n))),(9,i6 0)] [6,7,8,9] (rF [(3,.l 1),(5,.c [0] [0] (OA g m a))] 27 (rr (λ_=>[(1,.c [0] [0] (jk g m a)),(4,.s 2)]) (λf=>[(10,pt (B3 f) 0)]) [] (λf L=>L++[ob (B3 f) #[iN m.R,iN m.S,iN m.B,iN m.M,iN m.C] 23]) λf=>r0 [] [(11,i6 0)] [] (rF [(1,.l 1),(4,.d),(5,.d),(6,.d),(7,.d)] 39 (rF [(1,.l 1),(4,.d),(5,.d),(6,.d),(7,.d)] 53 (r0 [] [(6,iN (di m n)),(7,iN (au m n)),(8,iN (aB m.G m.R m.B m.M (au m n))),(9,i6 0)] [6,7,8,9] (lf ab.zero [0] [] []))))))
theorem OI(g:Nat)(m:Mp)(h:ba m)(e t f:Nat)(z:oc m e t f)(n:Nat)(I:n<(m.R*m.B*m.M-m.res)*m.C):aa WJ 185 #[.agg #[i6 1,iN e,iN t,iN f],pt g 0,iN n] [pk (aF g m)] [0] (λ_=>[pk (aF g m)]) (λ_=> .tuple #[iN (aN m ⟨1,e,t,f⟩ n),iN (au m n),iN (aB m.G m.R m.B m.M (au m n)),i6 0]):=by
 have o:=h.O;have C:=h.ly;have F:=h.np;have x:=o.bd.bmc;have v:=o.bd.c1;have D:=o.bd.m1;have y:=o.bd.c64;have G:=o.bd.r8;have A:=WU n v;refine fG Tryz.func185 λw H=>ra (λp=>[(3,pt (B0 p) 0),(6,i6 0),(7,i6 0),(8,i6 0),(9,i6 0)]) (λp=>[ob (B0 p) #[i6 1,iN e,iN t,iN f] 70]) λp=>r0 [(2,.c [0] [0] (yt g m h n Om)),] [(6,iN (di m n)),(7,iN (au m n)),(8,iN (aB m.G m.R m.B m.M (au m n))),(9,i6 0)] [6,7,8,9] (rF [(3,.l 1),(5,.c [0] [0] (DG g m h e t f z))] 27 (rr (λ_=>[(1,.c [0] [0] (jk g m h)),(4,.s 2)]) (λq=>[(10,pt (B3 q) 0)]) [] (λq L=>L++[ob (B3 q) #[iN m.R,iN m.S,iN m.B,iN m.M,iN m.C] 23]) λq=>r0 [] [(11,i6 0)] [] (r0 [(1,.l 1),(6,.l 1)] [(39,.bool (((au m n:Nat):Int)==(e:Int)))] [] ?_)));refine cN ((au m n:Nat):Int) (e:Int) (λB r=>?_) λB r=>?_
 ·refine r0 [(2,.l 2),(3,.t (tb (a:=iN n) (b:=iN m.C) λ_ _ _ _=>nV (a:=n) (d:=m.C) Om))] [(11,iN (n%m.C))] [11] (r0 [(2,.l 1)] [(69,.bool (decide (((n%m.C:Nat):Int)<(f:Int))))] [] ?_);refine bW ((n%m.C:Nat):Int) (f:Int) (λu k=>?_) λu k=>?_
  ·exact r0 [(0,.l 1),(3,.c [0] [0] (DK g m h e t f z (n%m.C) Om))] [(6,iN (aO m t*64+(n%m.C))),(9,i6 0)] [6,9] (r0 [] [(6,iN (aO m t*64+(n%m.C))),(7,iN (au m n)),(8,iN (aB m.G m.R m.B m.M (au m n))),(9,i6 0)] [6,7,8,9] (ao (.tuple #[iN (aO m t*64+(n%m.C)),iN (au m n),iN (aB m.G m.R m.B m.M (au m n)),i6 0]) ab.zero (by by_cases i:au m n=e<;>by_cases j:n%m.C<f<;>first | (exfalso;omega) | (simp [aN,a7,i,j])) [0] [] []))
  exact r0 [] [(6,iN (di m n)),(7,iN (au m n)),(8,iN (aB m.G m.R m.B m.M (au m n))),(9,i6 0)] [6,7,8,9] (ao (.tuple #[iN (di m n),iN (au m n),iN (aB m.G m.R m.B m.M (au m n)),i6 0]) ab.zero (by by_cases i:au m n=e<;>by_cases j:n%m.C<f<;>first | (exfalso;omega) | (simp [aN,a7,i,j])) [0] [] [])
 exact rF [(1,.l 1),(4,.d),(5,.d),(6,.d),(7,.d)] 53 (r0 [] [(6,iN (di m n)),(7,iN (au m n)),(8,iN (aB m.G m.R m.B m.M (au m n))),(9,i6 0)] [6,7,8,9] (ao (.tuple #[iN (di m n),iN (au m n),iN (aB m.G m.R m.B m.M (au m n)),i6 0]) ab.zero (by by_cases i:au m n=e<;>by_cases j:n%m.C<f<;>first | (exfalso;omega) | (simp [aN,a7,i,j])) [0] [] []))
theorem OJ(g:Nat)(m:Mp)(e:ba m)(a t b:Nat)(v:od m a t b)(n:Nat)(B:n<(m.R*m.B*m.M-m.res)*m.C):aa WJ 185 #[.agg #[i6 2,iN a,iN t,iN b],pt g 0,iN n] [pk (aF g m)] [0] (λ_=>[pk (aF g m)]) (λ_=> .tuple #[iN (aN m ⟨2,a,t,b⟩ n),iN (au m n),iN (aB m.G m.R m.B m.M (au m n)),i6 0]):=by
 have j:=e.O;have z:=e.ly;have C:=e.np;have r:=j.bd.bmc;have y:=j.bd.c1;have A:=j.bd.m1;have u:=j.bd.c64;have F:=j.bd.r8;have D:=u5 e B;refine fG Tryz.func185 λw G=>ra (λk=>[(3,pt (B0 k) 0),(6,i6 0),(7,i6 0),(8,i6 0),(9,i6 0)]) (λk=>[ob (B0 k) #[i6 2,iN a,iN t,iN b] 70]) λk=>r0 [(2,.c [0] [0] (yt g m e n Om)),] [(6,iN (di m n)),(7,iN (au m n)),(8,iN (aB m.G m.R m.B m.M (au m n))),(9,i6 0)] [6,7,8,9] (rF [(3,.l 1),(5,.c [0] [0] (DH g m e a t b v))] 27 (rr (λ_=>[(1,.c [0] [0] (jk g m e)),(4,.s 2)]) (λo=>[(10,pt (B3 o) 0)]) [] (λo L=>L++[ob (B3 o) #[iN m.R,iN m.S,iN m.B,iN m.M,iN m.C] 23]) λo=>r0 [] [(11,i6 0)] [] (rF [(1,.l 1),(4,.d),(5,.d),(6,.d),(7,.d)] 39 (r0 [(1,.l 1),(6,.l 1)] [(53,.bool (((aB m.G m.R m.B m.M (au m n):Nat):Int)==(a:Int)))] [] ?_))));refine cN ((aB m.G m.R m.B m.M (au m n):Nat):Int) (a:Int) (λx p=>?_) λx p=>?_
 ·refine r0 [(0,.l 2),(2,.c [] [] (OG m e n Om))] [(11,iN (fu m n))] [11] (r0 [(2,.l 1)] [(69,.bool (decide (((fu m n:Nat):Int)<(b:Int))))] [] ?_);refine bW ((fu m n:Nat):Int) (b:Int) (λq i=>?_) λq i=>?_
  ·exact r0 [(0,.l 1),(3,.c [0] [0] (DM g m e a t b v (fu m n) Om))] [(6,iN (gj m t (fu m n))),(9,i6 0)] [6,9] (r0 [] [(6,iN (gj m t (fu m n))),(7,iN (au m n)),(8,iN (aB m.G m.R m.B m.M (au m n))),(9,i6 0)] [6,7,8,9] (ao (.tuple #[iN (gj m t (fu m n)),iN (au m n),iN (aB m.G m.R m.B m.M (au m n)),i6 0]) ab.zero (by by_cases f:aB m.G m.R m.B m.M (au m n)=a<;>by_cases h:fu m n<b<;>first | (exfalso;omega) | (simp [aN,a7,f,h])) [0] [] []))
  exact r0 [] [(6,iN (di m n)),(7,iN (au m n)),(8,iN (aB m.G m.R m.B m.M (au m n))),(9,i6 0)] [6,7,8,9] (ao (.tuple #[iN (di m n),iN (au m n),iN (aB m.G m.R m.B m.M (au m n)),i6 0]) ab.zero (by by_cases f:aB m.G m.R m.B m.M (au m n)=a<;>by_cases h:fu m n<b<;>first | (exfalso;omega) | (simp [aN,a7,f,h])) [0] [] [])
 exact r0 [] [(6,iN (di m n)),(7,iN (au m n)),(8,iN (aB m.G m.R m.B m.M (au m n))),(9,i6 0)] [6,7,8,9] (ao (.tuple #[iN (di m n),iN (au m n),iN (aB m.G m.R m.B m.M (au m n)),i6 0]) ab.zero (by by_cases f:aB m.G m.R m.B m.M (au m n)=a<;>by_cases h:fu m n<b<;>first | (exfalso;omega) | (simp [aN,a7,f,h])) [0] [] [])
theorem OK(g:Nat)(m:Mp)(b:ba m)(j f t k:Nat)(n:Int)(q:bK n (((m.R*m.B*m.M-m.res)*m.C:Nat):Int)=false):aa WJ 185 #[.agg #[iN j,iN f,iN t,iN k],pt g 0,i6 n] [pk (aF g m)] [0] (λ_=>[pk (aF g m)]) (λ_=> .tuple #[i6 0,i6 0,i6 0,i6 12]):=by
 have a:=b.O;have o:=b.ly;have r:=b.np;have h:=a.bd.bmc;have l:=a.bd.c1;have p:=a.bd.m1;have i:=a.bd.c64;have s:=a.bd.r8;exact fG Tryz.func185 λw u=>ra (λe=>[(3,pt (B0 e) 0),(6,i6 0),(7,i6 0),(8,i6 0),(9,i6 0)]) (λe=>[ob (B0 e) #[iN j,iN f,iN t,iN k] 70]) λe=>r0 [(2,.c [0] [0] (Oh g m b n q)),] [(6,i6 0),(7,i6 0),(8,i6 0),(9,i6 12)] [6,7,8,9] (rT [(3,.d),(4,.d),(5,.d),(6,.d)] 27 (r0 [] [(6,i6 0),(7,i6 0),(8,i6 0),(9,i6 12)] [6,7,8,9] (lf ab.zero [0] [] [])))
theorem OL(g:Nat)(m:Mp)(b:ba m)(j:Jb)(f:se m j)(n:Nat)(c:n<(m.R*m.B*m.M-m.res)*m.C):aa WJ 185 #[.agg #[iN j.A,iN j.fr,iN j.tg,iN j.nx],pt g 0,iN n] [pk (aF g m)] [0] (λ_=>[pk (aF g m)]) (λ_=> .tuple #[iN (aN m j n),iN (au m n),iN (aB m.G m.R m.B m.M (au m n)),i6 0]):=by
 obtain⟨i,d,t,e⟩:=j;rcases f.k with h | ⟨a,h⟩ | ⟨a,h⟩
 ·cases h;exact OH g m b n c
 ·cases a;exact OI g m b d t e h n c
 ·cases a;exact OJ g m b d t e h n c
def kc(m:Mp)(j:Jb):Bool:=decide (j.A≠0)&&decide (j.nx=ft j.A m.B m.M m.C)
theorem DN(m:Mp)(d:ba m)(b a t c:Nat)(e:b=1∨b=2):aa WJ 211 #[.agg #[iN b,iN a,iN t,iN c],.agg #[iN m.R,iN m.S,iN m.B,iN m.M,iN m.C,iN m.G,iN m.res]] [] [] N0 (λ_=> .bool (kc m ⟨b,a,t,c⟩)):=by
 rcases e with rfl | rfl
 ·exact Ow a t c m.R m.S m.B m.M m.C m.G m.res d.ly
 ·exact Ox a t c m.R m.S m.B m.M m.C m.G m.res d.ly
theorem OM(g:Nat)(m:Mp)(d:ba m)(j:Jb)(f:se m j)(i:Nat)(a:i<ft j.A m.B m.M m.C):aa WJ 119 #[.agg #[iN j.A,iN j.fr,iN j.tg,iN j.nx],pt g 0,iN i] [pk (aF g m)] [0] (λ_=>[pk (aF g m)]) (λ_=> .tuple #[iN (a7 m j.A j.fr i),i6 0]):=by
 obtain⟨k,c,t,e⟩:=j;rcases f.k with h | ⟨b,h⟩ | ⟨b,h⟩
 ·cases h;exact absurd a (Xv i)
 ·cases b;exact OD g m d c t e h i a
 ·cases b;exact OE g m d c t e h i a
theorem ON(g:Nat)(m:Mp)(d:ba m)(j:Jb)(f:se m j)(i:Nat)(a:i<ft j.A m.B m.M m.C):aa WJ 120 #[.agg #[iN j.A,iN j.fr,iN j.tg,iN j.nx],pt g 0,iN i] [pk (aF g m)] [0] (λ_=>[pk (aF g m)]) (λ_=> .tuple #[iN (a7 m j.A j.tg i),i6 0]):=by
 obtain⟨k,c,t,e⟩:=j;rcases f.k with h | ⟨b,h⟩ | ⟨b,h⟩
 ·cases h;exact absurd a (Xv i)
 ·cases b;exact DK g m d c t e h i a
 ·cases b;exact DM g m d c t e h i a
end
section
open Go.Shelf
structure Ak where
 k:Nat
 w:Nat
deriving DecidableEq
def aJ:Ak:=⟨0,0⟩
def sh(x:Ak):List Value:=[iN x.k,iN x.w]
def mM:Kd WJ Ak:=⟨sh,[i6 0,i6 0],351,285,aJ,2,λ_=>rfl,rfl,λ_=>rfl,dX.mk' Kr Kr rfl⟩
abbrev fb(v:Value)(xs:List Ak):aA:= .p (aq sh ([i6 0,i6 0]) 285 v xs)
def mN(arr:List Ak)(a i:Nat):Ak:=arr.getD ((a+i)%arr.length) aJ
def o4(arr:List Ak)(a n:Nat)(x:Ak):Bool:=(WL n).any λj=>decide (mN arr a j=x)
theorem DO{arr:List Ak}{a n:Nat}{x:Ak}{j:Nat}(b:j<n)(e:mN arr a j=x):o4 arr a n x=true:=List.any_eq_true.2 ⟨j,List.mem_range.2 b,cD e⟩
theorem DP{arr:List Ak}{a n:Nat}{x:Ak}(h: ∀j,j<n→mN arr a j≠x):o4 arr a n x=false:=List.any_eq_false.2 λj b=>by simpa using h j (List.mem_range.1 b)
theorem OO{x y:Ak}(h:((((x.k:Nat):Int)==((y.k:Nat):Int))&&((((x.w:Nat):Int)==((y.w:Nat):Int))&&true))=true):y=x:=by
 rw[Yf,lX,lX,WS,decide_eq_true_eq,decide_eq_true_eq] at h;obtain⟨a,b⟩:=x;obtain⟨c,d⟩:=y;simp only at h;rw[h.1,h.2]
theorem OP{x y:Ak}(h:((((x.k:Nat):Int)==((y.k:Nat):Int))&&((((x.w:Nat):Int)==((y.w:Nat):Int))&&true))=false):y≠x:=by
 intro e;subst e;rw[Yf,lX,lX,cD rfl,cD rfl] at h;cases h
theorem yz{P:Nat→Prop}{k:Nat}(h: ∀j,j<k→P j)(h1:P k): ∀j,j<k+1→P j:=λj c=>by
 rcases Nat.lt_succ_iff_lt_or_eq.1 c with b | rfl
 ·exact h j b
 ·exact h1
structure jm (arr:List Ak) (a:Nat) (q:List Ak):Prop where
 l:arr.length=256
 lt:a<256
 n:q.length≤256
 q: ∀i,i<q.length→mN arr a i=q.getD i aJ
abbrev bJ(g:Nat)(q:List Ak)(L:aj):Prop:=∃(v:Value) (arr:List Ak) (a:Nat) (b:jm arr a q),L=[ob g #[v,iN a,iN q.length] 353,fb v arr]
def pZ(q:List Ak)(x:Ak):List Ak:=if x∈q then q else if q.length=256 then q else q++[x]
def u7(q:List Ak)(x:Ak):Int:=if x∈q then 15 else if q.length=256 then 14 else 0
section
variable {arr:List Ak} {a:Nat} {q:List Ak}
theorem jm.has(h:jm arr a q)(x:Ak):o4 arr a q.length x=decide (x∈q):=by
 by_cases c:x∈q
 ·obtain⟨j,b,e⟩:=X2 c;rw[cD c];refine DO b ?_;rw[h.q j b,WK,WN b];exact e
 ·rw[bf c];refine DP λj b e=>c ?_;rw[h.q j b,WK,WN b] at e;exact e▸List.getElem_mem b
theorem jm.push(h:jm arr a q)(x:Ak)(f:q.length<256):jm (arr.set ((a+q.length)%arr.length) x) a (q++[x]):=by
 have c:=h.l;have d:=h.lt;refine⟨by rw[W9];exact h.l,h.lt,by rw[WO];show q.length+1≤256;omega,λi b=>?_⟩;rw[WO] at b;have b:i<q.length+1:=b;unfold mN;rw[W9,WK,Xg];by_cases e:i=q.length
 ·subst e;rw[ALifp rfl,ALifp (WU _ Om),WK,W5 (W8 _)];simp
 ·rw[ALifn (by rw[c];omega),WK,W4 Om];have:=h.q i Om;unfold mN at this;rwa [WK,WK] at this
theorem jm.pop(h:jm arr a q)(f:0<q.length):jm (arr.set a aJ) ((a+1)%(arr.set a aJ).length) q.tail:=by
 have b:=h.l;have e:=h.lt;rw[W9];refine⟨by rw[W9];exact h.l,by rw[b];exact WU _ Dc,by rw[Xq];have:=h.n;omega,λi c=>?_⟩;rw[Xq] at c;have:=h.q (i+1) Om;have d:=h.n;unfold mN at this⊢;rw[W9,WK,Xg,ALifn (by rw[b];omega)];rw[WK] at this;rw[show((a+1)%arr.length+i)%arr.length=(a+(i+1))%arr.length by rw[b];omega,this,WK,WK,List.getElem?_tail]
theorem jm.first(h:jm arr a q)(b:0<q.length):mN arr a 0=q.headD aJ:=by
 rw[h.q 0 b];cases q with
 | nil=>cases b
 | cons x q=>rfl
end
def lY(q:List Ak):Int:=if q.length=0 then 13 else 0
theorem OQ:jm (WM 256 aJ) 0 []:=⟨by rw[Xe],by decide,by decide,λi b=>absurd b (Xv i)⟩
end
section
open Go.Shelf
theorem u9(g:Nat)(v:Value)(c:List Ak)(a n i:Nat)(l:c.length=256)(j:a<256)(k:i≤256):aa WJ 283 #[pt g 0,iN i] [ob g #[v,iN a,iN n] 353,.p (aG sh v c)] [] N0 (λ_=>iN ((a+i)%c.length)):=by
 exact fO Tryz.func283 1 rfl λf e=>fG Tryz.func283 λw h=>r0 [] [(4,i6 0)] [] (r0 [(3,.m (ld 0 (iN a))),(5,ad a i),(9,.m (ld 0 (v))),(10,du e.1 1),(11,.t (tb (a:=iN (a+i)) (b:=iN c.length) λ_ _ _ _=>nV (a:=a+i) (d:=c.length) Om))] [(4,iN ((a+i)%c.length))] [4] (lf ab.zero [] [(0,0),(1,1)] []))
theorem OR(g:Nat):aa WJ 282 #[pt g 0] [] [] (λE=>[ob (E.y 0) #[pt g 0] 131]) (λE=> .func (.func 287) #[] #[pt ((E.y 0)) 0]):=by
 exact fG Tryz.func282 λw b=>ra (λa=>[(1,pt (B0 a) 0),(2,.nilFunc)]) (λa=>[ob (B0 a) #[pt g 0] 131]) λa=>r0 [] [(2,.func (.func 287) #[] #[pt (B0 a) 0])] [2] (lf (.l [(a 0).y 0] [] []) [0] [] [])
theorem OS(b g:Nat)(v:Value)(d:List Ak)(a n:Nat)(bs:ay)(j:aG sh v d bs)(u:d.length=256)(H:a<256)(I:n≤256):e4 5 WJ 287 #[pt b 0] (λ(x:Nat×Ak)=>#[i6 (x.1:Int),.agg #[i6 (x.2.k:Int),i6 (x.2.w:Int)]]) ((WL n).map λk=>(k,d.getD ((a+k)%d.length) aJ)) (List.flatten [[(b,.cells #[pt g 0] 131 (0,0))],[(g,.cells #[v,iN a,iN n] 353 (0,0))],bs]):=by
 refine gi (KO:=[[(b,.cells #[pt g 0] 131 (0,0))],[(g,.cells #[v,iN a,iN n] 353 (0,0))],bs]) Tryz.func287 (λz B A G D m s r=>?_);refine r0 [(0,.l 0),(3,.l 1)] [(7,iN n),(8,i6 0)] [] ?_;refine jX (λk=>k≤n) (λk=>[(8,iN k)]) (λ_ L=>L) (λk=>n-k) (λk=>k) 0 Om r Kr Kr (λk C F t f=>?_);have y:(a+k)%d.length<d.length:=WU _ Om;refine r0 [] [(9,.bool (decide ((k:Int)<(n:Int))))] [] ?_;refine bW (k:Int) (n:Int) (λq i=>?_) λq i=>?_
 ·refine r0 [] [(3,iN k)] [] ?_;refine iy m s f 11 (λ_=>[(2,.l 0),(5,.l 1),(6,.l 0),(8,.c [1,2] [] (aa.at (rd':=[ob g #[v,iN a,iN n] 353,.c bs]) (u9 g v d a n k (by(simp only[LL,u];done)) Om Om) (aP (ec j (λ_ h=>h))))),(9,eU j.1 2 ((a+k)%d.length) 2),(10,mx mM j.1 2 ((a+k)%d.length) 0 2)]) (λ_=>[(11,.func (.yield z) #[] #[]),(12,iN k),(21,.agg #[iN ((d.getD ((a+k)%d.length) aJ).k),iN ((d.getD ((a+k)%d.length) aJ).w)])]) [] (λ_ L=>L) N0 [0,1,2] (nS Om) (λJ o p e=>?_);refine cF _ rfl (r0 [(0,ad k 1)] [(8,iN (k+1))] [8] ?_);exact iI (k+1) Om e Om Kr [0,1,2] Kr
 obtain rfl:n=k:=by omega
 refine jY ?_;exact kT m f (by rw[WR,WZ]) [] [0,1,2]
theorem yA(g:Nat)(v:Value)(b:List Ak)(a n:Nat)(x:Ak)(G:b.length=256)(N:a<256)(A:n≤256):aa WJ 267 #[pt g 0,.agg #[iN x.k,iN x.w]] [ob g #[v,iN a,iN n] 353,.p (aG sh v b)] [] N0 (λ_=> .bool (o4 b a n x)):=by
 refine fO Tryz.func267 1 rfl λi t=>fG Tryz.func267 λw M=>ra (λd=>[(3,pt (B0 d) 0),(4,pt (B1 d) 0)]) (λd=>[ob (B0 d) #[iN x.k,iN x.w] 285,ob (B1 d) #[.bool false] 4]) λd=>rr (λ_=>[(1,.c [] [4] (OR g))]) (λf=>[(8,.func (.func 287) #[] #[pt ((B1 f)) 0])]) [] (λf L=>L++[ob (B1 f) #[pt g 0] 131]) λf=>?_;refine xp (encs:=λ(x:Nat×Ak)=>#[i6 (x.1:Int),.agg #[i6 (x.2.k:Int),i6 (x.2.w:Int)]]) (xs:=(WL n).map λk=>(k,b.getD ((a+k)%b.length) aJ)) (KO:=[[((B1 f),.cells #[pt g 0] 131 (0,0))],[(g,.cells #[v,iN a,iN n] 353 (0,0))],i]) (OS (B1 f) g v b a n i t (by(simp only[LL,G];done)) Om Om) (enters_of Tryz.func287 Kr rfl) (λk=>k≤n∧(∀j,j<k→mN b a j≠x)) (λ_ L=>L) (λc k=>(c=Code.ret∧(∃j,j+1=k∧mN b a j=x))) (λ_ _ L=>L.set 3 (ob (B1 d) #[.bool true] 4)) [4,0,1] ⟨by omega,(λ_ h=>absurd h (Xv _))⟩ Kr (λP k R H J y ⟨m,o⟩=>?_) (λB ⟨m,o⟩=>?_) λB c k F D=>?_
 ·obtain⟨z,rfl⟩:=lK y;refine rr (λ_=>[(1,.s 5)]) (λq=>[(6,pt (B0 q) 0)]) [] (λq L=>L++[ob (B0 q) #[iN ((b.getD ((a+k)%b.length) aJ).k),iN ((b.getD ((a+k)%b.length) aJ).w)] 285]) λq=>?_;refine ag [4,0,1] (λI K=>?_);refine r0 [(0,.l 2),(1,.l 5),(2,.e)] [(13,.bool ((x.k:Int)==(((b.getD ((a+k)%b.length) aJ).k:Nat):Int)&&((x.w:Int)==(((b.getD ((a+k)%b.length) aJ).w:Nat):Int)&&true)))] [] ?_;refine cB (((x.k:Int)==(((b.getD ((a+k)%b.length) aJ).k:Nat):Int)&&((x.w:Int)==(((b.getD ((a+k)%b.length) aJ).w:Nat):Int)&&true))) (λC=>?_) λC=>?_
  ·refine rr (λ_=>[(0,.s 3)]) N0 [] (λ_ L=>L.set 3 (ob (B1 d) #[.bool true] 4)) λQ=>?_;exact nr _ ⟨⟨rfl,⟨_,rfl,OO As⟩⟩,rfl⟩ [0,1,2,3,4] Kr
  exact ne _ ⟨⟨by omega,yz o (OP As)⟩,rfl⟩ [0,1,2,3,4] Kr
 ·simp only[WR,WZ] at m;exact r0 [(0,.s 3)] [] [] (ao (.bool false) ab.zero (by(simp only[WR,WZ] at o;rw[DP o])) [] [(0,0),(1,1)] [3])
 obtain⟨rfl,u⟩:=D;exact ao (.bool true) ab.zero (by(obtain⟨j,O,A⟩:=u;have r:=F;simp only[WR,WZ] at r;rw[DO (j:=j) Om A])) [] [(0,0),(1,1)] [3]
theorem OT(g:Nat)(v:Value)(b:List Ak)(a:Nat)(q:List Ak)(e:jm b a q)(x:Ak)(o:q.length<256):aa WJ 268 #[pt g 0,.agg #[iN x.k,iN x.w]] [ob g #[v,iN a,iN q.length] 353,fb v b] [0,1] (λ_=>[ob g #[v,iN a,iN (q.length+1)] 353,fb v (b.set ((a+q.length)%b.length) x)]) (λ_=>i6 0):=by
 have f:=e.l;have k:=e.lt;have n:=e.n;have i:(a+q.length)%b.length<b.length:=WU _ Om;exact fG Tryz.func268 λw j=>ra (λd=>[(3,pt (B0 d) 0),(4,i6 0)]) (λd=>[ob (B0 d) #[iN x.k,iN x.w] 285]) λd=>rF [(3,.l 0),(7,.l 0),(8,e8 mM v b 1),(9,.t (tk (show Value.bool ((q.length:Int)==(b.length:Int))= .bool false from ALca Value.bool (by rw[dN];omega))))] 14 (rs [(3,.m (ld 0 (v))),(8,.m (ld 0 (iN q.length))),(9,.c [0,1] [] (aa.at (rd':=[ob g #[v,iN a,iN q.length] 353,fb v b]) (u9 g v b a q.length q.length (by(simp only[LL,f];done)) Om Om) (aP (bL (λ_ h=>aq.sq h) (λ_ h=>h))))),(10,.m (ls 2 ([iN x.k,iN x.w]))),(11,cO mM v b 1 ((a+q.length)%b.length)),(12,Wy mM v b 1 ((a+q.length)%b.length) x)] 1 (fb v (b.set ((a+q.length)%b.length) x)) (rs [(3,.l 0),(4,ad q.length 1),(7,.s 0)] 0 (ob g #[v,iN a,iN (q.length+1)] 353) (r0 [] [(4,i6 0)] [4] (lf ab.zero [0,1] [] []))))
theorem OU(g:Nat)(v:Value)(b:List Ak)(a:Nat)(q:List Ak)(d:jm b a q)(x:Ak)(f:q.length=256):aa WJ 268 #[pt g 0,.agg #[iN x.k,iN x.w]] [ob g #[v,iN a,iN q.length] 353,fb v b] [1] (λ_=>[fb v b]) (λ_=>i6 14):=by
 have e:=d.l;have i:=d.lt;have j:=d.n;exact fG Tryz.func268 λw h=>ra (λc=>[(3,pt (B0 c) 0),(4,i6 0)]) (λc=>[ob (B0 c) #[iN x.k,iN x.w] 285]) λc=>rT [(3,.l 0),(7,.l 0),(8,e8 mM v b 1),(9,.t (tk (show Value.bool ((q.length:Int)==(b.length:Int))= .bool true from ALca Value.bool (by rw[e,f];rfl))))] 14 (r0 [] [(4,i6 14)] [4] (lf ab.zero [1] [(0,0)] []))
theorem OV(g:Nat)(q:List Ak)(x:Ak)(j:x∈q):aa WJ 242 #[pt g 0,.agg #[iN x.k,iN x.w]] [pk (bJ g q)] [0] (λ_=>[pk (bJ g q)]) (λ_=>i6 15):=aa.pkZ Tryz.func242 λL f=>by
 obtain⟨v,b,a,d,rfl⟩:=f;refine⟨[1],λ_=>[fb v b],?_,rfl,λE=>⟨rfl,rfl,⟨_,_,_,d,rfl⟩⟩⟩;have i:=d.l;have m:=d.lt;have n:=d.n;exact fG Tryz.func242 λw k=>ra (λe=>[(3,pt (B0 e) 0),(4,i6 0)]) (λe=>[ob (B0 e) #[iN x.k,iN x.w] 285]) λe=>rT [(1,.l 2),(2,.c [0,1] [] (aa.v ((aa.at (rd':=[ob g #[v,iN a,iN q.length] 353,fb v b]) (yA g v b a q.length x (by(simp only[LL,i];done)) Om Om) (aP (bL (λ_ h=>aq.sq h) (λ_ h=>h))))) λ_=>ALca Value.bool (show(o4 b a q.length x)=true from(by rw[d.has,cD j]))))] 7 (r0 [] [(4,i6 15)] [4] (lf ab.zero [1] [(0,0)] []))
theorem OX(g:Nat)(q:List Ak)(x:Ak)(k:x∉q)(i:q.length=256):aa WJ 242 #[pt g 0,.agg #[iN x.k,iN x.w]] [pk (bJ g q)] [0] (λ_=>[pk (bJ g q)]) (λ_=>i6 14):=aa.pkZ Tryz.func242 λL j=>by
 obtain⟨v,b,a,d,rfl⟩:=j;refine⟨[1],λ_=>[fb v b],?_,rfl,λE=>⟨rfl,rfl,⟨_,_,_,d,rfl⟩⟩⟩;have f:=d.l;have n:=d.lt;have o:=d.n;exact fG Tryz.func242 λw m=>ra (λe=>[(3,pt (B0 e) 0),(4,i6 0)]) (λe=>[ob (B0 e) #[iN x.k,iN x.w] 285]) λe=>rF [(1,.l 2),(2,.c [0,1] [] (aa.v ((aa.at (rd':=[ob g #[v,iN a,iN q.length] 353,fb v b]) (yA g v b a q.length x (by(simp only[LL,f,i];done)) Om Om) (aP (bL (λ_ h=>aq.sq h) (λ_ h=>h))))) λ_=>ALca Value.bool (show(o4 b a q.length x)=false from(by rw[d.has,bf k]))))] 7 (r0 [(1,.l 2),(2,.c [0,1] [1] (OU g v b a q d x (by(simp only[LL,f,i];done))))] [(4,i6 14)] [4] (lf ab.zero [1] [(0,0)] []))
theorem OY(g:Nat)(q:List Ak)(x:Ak)(k:x∉q)(j:q.length<256):aa WJ 242 #[pt g 0,.agg #[iN x.k,iN x.w]] [pk (bJ g q)] [0] (λ_=>[pk (bJ g (q++[x]))]) (λ_=>i6 0):=aa.pkZ Tryz.func242 λL f=>by
 obtain⟨v,b,a,d,rfl⟩:=f;refine⟨[0,1],λ_=>[ob g #[v,iN a,iN (q.length+1)] 353,fb v (b.set ((a+q.length)%b.length) x)],?_,rfl,λE=>⟨rfl,rfl,⟨_,_,_,d.push x j,ALca (λn:Nat=>[ob g #[v,iN a,iN n] _,_]) (show q.length+1=(q++[x]).length by rw[WO];rfl)⟩⟩⟩;have i:=d.l;have o:=d.lt;have p:=d.n;exact fG Tryz.func242 λw m=>ra (λe=>[(3,pt (B0 e) 0),(4,i6 0)]) (λe=>[ob (B0 e) #[iN x.k,iN x.w] 285]) λe=>rF [(1,.l 2),(2,.c [0,1] [] (aa.v ((aa.at (rd':=[ob g #[v,iN a,iN q.length] 353,fb v b]) (yA g v b a q.length x (by(simp only[LL,i];done)) Om Om) (aP (bL (λ_ h=>aq.sq h) (λ_ h=>h))))) λ_=>ALca Value.bool (show(o4 b a q.length x)=false from(by rw[d.has,bf k]))))] 7 (rr (λ_=>[(1,.l 2),(2,.c [0,1] [0,1] (OT g v b a q d x Om))]) (λ_=>[(4,i6 0)]) [4] (λ_ L=>(L.set 0 (ob g #[v,iN a,iN (q.length+1)] 353)).set 1 (fb v (b.set ((a+q.length)%b.length) x))) λr=>lf ab.zero [0,1] [] [])
theorem OZ(g:Nat)(v:Value)(d:List Ak)(a:Nat)(q:List Ak)(j:jm d a q)(z:0<q.length):aa WJ 269 #[pt g 0,i6 0] [ob g #[v,iN a,iN q.length] 353,fb v d] [0,1] (λ_=>[ob g #[v,iN ((a+1)%(d.set a (⟨0,0⟩:Ak)).length),iN (q.length-1)] 353,fb v (d.set a (⟨0,0⟩:Ak))]) (λ_=> .tuple #[.agg #[iN ((d.getD ((a+0)%d.length) aJ).k),iN ((d.getD ((a+0)%d.length) aJ).w)],i6 0]):=by
 have m:=j.l;have x:=j.lt;have y:=j.n;have p:(a+0)%d.length<d.length:=WU _ Om;refine fG Tryz.func269 λw u=>ra (λe=>[(4,pt (B0 e) 0),(5,i6 0)]) (λe=>[ob (B0 e) #[i6 0,i6 0] 285]) λe=>ra (λf=>[(6,pt (B0 f) 0)]) (λf=>[ob (B0 f) #[i6 0,i6 0] 285]) λf=>r0 [(7,.l 0)] [(18,.bool (decide ((q.length:Int)≤0)))] [] ?_;have n:(decide ((q.length:Int)≤0))=false:=by exact bf Om
 refine cF (decide ((q.length:Int)≤0)) n (rr (λ_=>[(3,.l 0),(6,.c [0,1] [] (aa.at (rd':=[ob g #[v,iN a,iN q.length] 353,fb v d]) (u9 g v d a q.length 0 (by(simp only[LL,m];done)) Om Om) (aP (bL (λ_ h=>aq.sq h) (λ_ h=>h))))),(7,cO mM v d 1 ((a+0)%d.length)),(8,pL mM v d 1 ((a+0)%d.length) 0 2),(10,.s 4)]) (λi=>[(7,pt ((i 9).y 0) 0)]) [] (λi L=>L++[ob ((i 9).y 0) #[iN ((d.getD ((a+0)%d.length) aJ).k),iN ((d.getD ((a+0)%d.length) aJ).w)] 285]) λi=>r0 [] [(8,i6 0)] [] ?_);refine lq (λk=>k≤0) (λ_=>[(8,i6 0)]) (λ_ L=>L) (λk=>0-k) 0 Om Kr Kr (λk o=>?_);exact rF [] 31 (lx (rs [(3,.l 0),(7,.l 0),(8,.l 3),(9,cO mM v d 1 a),(10,Wy mM v d 1 a (⟨0,0⟩:Ak))] 1 (fb v (d.set a (⟨0,0⟩:Ak))) (rs [(2,.c [0,1] [] (aa.at (rd':=[ob g #[v,iN a,iN q.length] 353,fb v (d.set a (⟨0,0⟩:Ak))]) (u9 g v (d.set a (⟨0,0⟩:Ak)) a q.length 1 (by(simp only[LL,m];done)) Om Om) (aP (bL (λ_ h=>aq.sq h) (λ_ h=>h))))),(5,.s 0)] 0 (ob g #[v,iN ((a+1)%(d.set a (⟨0,0⟩:Ak)).length),iN q.length] 353) (rs [(3,.l 0),(4,.t (tb (a:=iN q.length) (b:=i6 1) λ_ _ _ _=>lQ (a:=q.length) (b:=1) Om Om)),(7,.s 0)] 0 (ob g #[v,iN ((a+1)%(d.set a (⟨0,0⟩:Ak)).length),iN (q.length-1)] 353) (rr (λ_=>[(0,.l 4),(1,.s 2)]) (λ_=>[(5,i6 0)]) [5] (λ_ L=>L.set 2 (ob (B0 e) #[iN ((d.getD ((a+0)%d.length) aJ).k),iN ((d.getD ((a+0)%d.length) aJ).w)] 285)) λr=>lf ab.zero [0,1] [] [2])))))
theorem O0(g:Nat)(q:List Ak)(f:0<q.length):aa WJ 247 #[pt g 0] [pk (bJ g q)] [0] (λ_=>[pk (bJ g q.tail)]) (λ_=> .tuple #[.agg #[iN ((q.headD aJ).k),iN ((q.headD aJ).w)],i6 0]):=aa.pkZ Tryz.func247 λL h=>by
 obtain⟨v,b,a,d,rfl⟩:=h;refine⟨[0,1],λ_=>[ob g #[v,iN ((a+1)%(b.set a (⟨0,0⟩:Ak)).length),iN (q.length-1)] 353,fb v (b.set a (⟨0,0⟩:Ak))],?_,rfl,λE=>⟨rfl,rfl,⟨_,_,_,d.pop f,ALca (λn:Nat=>[ob g #[v,iN ((a+1)%(b.set a (⟨0,0⟩:Ak)).length),iN n] _,_]) (show q.length-1=q.tail.length by rw[Xq])⟩⟩⟩;have l:=d.l;have j:=d.lt;have m:=d.n;exact fG Tryz.func247 λw i=>ra (λe=>[(2,pt (B0 e) 0),(3,i6 0)]) (λe=>[ob (B0 e) #[i6 0,i6 0] 285]) λe=>rr (λ_=>[(1,.c [0,1] [0,1] (OZ g v b a q d Om)),(4,.s 2)]) (λ_=>[(3,i6 0)]) [3] (λ_ L=>((L.set 0 (ob g #[v,iN ((a+1)%(b.set a (⟨0,0⟩:Ak)).length),iN (q.length-1)] 353)).set 1 (fb v (b.set a (⟨0,0⟩:Ak)))).set 2 (ob (B0 e) #[iN ((b.getD ((a+0)%b.length) aJ).k),iN ((b.getD ((a+0)%b.length) aJ).w)] 285)) λo=>ao (.tuple #[.agg #[iN ((b.getD ((a+0)%b.length) aJ).k),iN ((b.getD ((a+0)%b.length) aJ).w)],i6 0]) ab.zero (by rw[←d.first f];rfl) [0,1] [] [2]
theorem O3(g:Nat)(v:Value)(b:List Ak)(a:Nat)(q:List Ak)(e:jm b a q)(m:q.length=0):aa WJ 269 #[pt g 0,i6 0] [ob g #[v,iN a,iN q.length] 353,fb v b] [1] (λ_=>[fb v b]) (λ_=> .tuple #[.agg #[i6 0,i6 0],i6 13]):=by
 have j:=e.l;have i:=e.lt;have k:=e.n;refine fG Tryz.func269 λw h=>ra (λc=>[(4,pt (B0 c) 0),(5,i6 0)]) (λc=>[ob (B0 c) #[i6 0,i6 0] 285]) λc=>ra (λd=>[(6,pt (B0 d) 0)]) (λd=>[ob (B0 d) #[i6 0,i6 0] 285]) λd=>r0 [(7,.l 0)] [(18,.bool (decide ((q.length:Int)≤0)))] [] ?_;have f:(decide ((q.length:Int)≤0))=true:=by exact cD Om
 exact cT (decide ((q.length:Int)≤0)) f (r0 [(0,.l 3),(1,.s 2)] [(5,i6 13)] [5] (lf ab.zero [1] [(0,0)] [2]))
theorem O4(g:Nat)(q:List Ak)(i:q.length=0):aa WJ 247 #[pt g 0] [pk (bJ g q)] [0] (λ_=>[pk (bJ g q)]) (λ_=> .tuple #[.agg #[i6 0,i6 0],i6 13]):=aa.pkZ Tryz.func247 λL f=>by
 obtain⟨v,b,a,d,rfl⟩:=f;refine⟨[1],λ_=>[fb v b],?_,rfl,λE=>⟨rfl,rfl,⟨_,_,_,d,rfl⟩⟩⟩;have h:=d.l;have k:=d.lt;have l:=d.n;exact fG Tryz.func247 λw j=>ra (λe=>[(2,pt (B0 e) 0),(3,i6 0)]) (λe=>[ob (B0 e) #[i6 0,i6 0] 285]) λe=>r0 [(1,.c [0,1] [1] (O3 g v b a q d (by(simp only[LL,h,i];done)))),(4,.s 2)] [(3,i6 13)] [3] (lf ab.zero [1] [(0,0)] [2])
theorem DQ(g:Nat)(q:List Ak):aa WJ 247 #[pt g 0] [pk (bJ g q)] [0] (λ_=>[pk (bJ g q.tail)]) (λ_=> .tuple #[.agg #[i6 ((q.headD aJ).k:Int),i6 ((q.headD aJ).w:Int)],i6 (lY q)]):=by
 cases q with
 | nil=>exact O4 g [] rfl
 | cons x q=>exact O0 g (x::q) (XZ _)
theorem O5:aa WJ 176 #[i6 256] [] [] (λE=>[ob (E.y 0) #[(E.val 0),i6 0,i6 0] 353,fb (E.val 0) (WM 256 aJ)]) (λE=> .tuple #[pt ((E.y 0)) 0,i6 0]):=by
 exact fG Tryz.func176 λw b=>r0 [] [(2,.pointer none),(3,i6 0)] [] (rF [] 9 (rr (λ_=>[(1,rn mM 0 256)]) (λa=>[(2,pt (B3 a) 0),(3,i6 0)]) [2,3] (λa L=>L++[fb (.slice (some ⟨(a 1).y 0,0,none⟩) 256 256) (WM 256 aJ),ob (B3 a) #[.slice (some ⟨(a 1).y 0,0,none⟩) 256 256,i6 0,i6 0] 353]) λa=>lf (.l [(a 3).y 0] [] [.slice (some ⟨(a 1).y 0,0,none⟩) 256 256]) [1,0] [] []))
theorem O6:aa WJ 176 #[i6 256] [] [] (λE=>[pk (bJ (E.y 0) [])]) (λE=> .tuple #[pt ((E.y 0)) 0,i6 0]):=(O5).outs λE b a=>r9 ⟨_,_,_,OQ,rfl⟩ a
end
section
open Go.Shelf
structure Ev where
 k:Nat
 f:Nat
 t:Nat
deriving DecidableEq
def cR:Ev:=⟨0,0,0⟩
def yB(x:Ev):List Value:=[iN x.k,iN x.f,iN x.t]
def jn:Kd WJ Ev:=⟨yB,[i6 0,i6 0,i6 0],271,349,cR,3,λ_=>rfl,rfl,λ_=>rfl,dX.mk' Kr Kr rfl⟩
abbrev bh(v:Value)(xs:List Ev):aA:= .p (aq yB ([i6 0,i6 0,i6 0]) 349 v xs)
structure Rp where
 m:Mp
 j:Jb
 q:List Ak
structure ey (m:Mp) (a:Ak):Prop where
 k:(a.k=1∧a.w<m.R*m.B*m.M)∨(a.k=2∧a.w<m.R)
structure O7 (m:Mp):Prop where
 P: ∀x,m.R*m.B*m.M-m.res+m.Q≤x→m.P.getD x false=false
structure aK (r:Rp):Prop where
 m:ba r.m
 j:se r.m r.j
 q: ∀a∈r.q,ey r.m a
 n:r.q.length≤256
 fr:O7 r.m
abbrev ar(g a b:Nat)(r:Rp)(L:aj):Prop:=L=[ob g #[pt a 0,iN r.j.A,iN r.j.fr,iN r.j.tg,iN r.j.nx,pt b 0] 133,pk (aF a r.m),pk (bJ b r.q)]
def p4(r:Rp)(w:Nat):Bool:=(r.m.P.getD w false||(dp r.m&&decide (dI r.m≤w)))||(decide (r.j.A=1)&&decide (r.j.fr=w))
def p6(r:Rp)(w:Nat):Bool:=cy r.m w||(decide (r.j.A=2)&&decide (r.j.fr=w))
def cX(r:Rp)(a:Ak):Bool:=bif a.k==1 then p4 r a.w else p6 r a.w
def yC(a:Ak):List Ev:=[⟨5,a.w,a.k-1⟩]
def c6(r:Rp)(a:Ak):Rp:=bif a.k==1 then(bif dp r.m then{r with m:=pW r.m,j:=⟨1,a.w,dI r.m,0⟩} else r) else(bif dU r.m then{r with m:=pX r.m,j:=⟨2,a.w,fa r.m,0⟩} else r)
def fM(r:Rp)(a:Ak):List Ev:=bif a.k==1 then(bif dp r.m then[⟨3,a.w,dI r.m⟩] else yC a) else(bif dU r.m then[⟨4,a.w,fa r.m⟩] else yC a)
def bn(r:Rp)(a:Ak):Rp:=bif cX r a then r else bif r.j.A==0 then c6 r a else{r with q:=pZ r.q a}
def bU(r:Rp)(a:Ak):List Ev:=bif cX r a then[] else bif r.j.A==0 then fM r a else bif u7 r.q a==14 then yC a else[]
def aY(r:Rp):Rp:={r with q:=r.q.tail}
def fz(s:Rp×List Ev):Rp×List Ev:=bif cX (aY s.1) (s.1.q.headD aJ) then(aY s.1,s.2) else(c6 (aY s.1) (s.1.q.headD aJ),s.2++fM (aY s.1) (s.1.q.headD aJ))
def ah(s:Rp×List Ev):Nat→Rp×List Ev
 | 0=>s
 | k+1=>fz (ah s k)
def eC:Nat→Rp×List Ev→Rp×List Ev
 | 0,s=>s
 | n+1,s=>if s.1.j.A=0 then eC n (fz s) else s
def fv(r:Rp):Rp:={r with m:=bif r.j.A==1 then jO r.m r.j.fr r.j.tg else fy r.m r.j.fr r.j.tg,j:=kb}
def af(r:Rp):Rp×List Ev:=(fv r,[⟨6,r.j.fr,r.j.tg⟩])
def cS(r:Rp):Rp×List Ev:=eC r.q.length (af r)
def bu(r:Rp):Rp:={r with j:={r.j with nx:=r.j.nx+1}}
def eJ(r:Rp):Rp×List Ev:=bif kc r.m (bu r).j then cS (bu r) else(bu r,[])
section
variable {m:Mp}
theorem O8(h:ba m)(hp:dp m=true):ba (pW m):=by
 have:m.Q≠m.res:=by unfold dp at hp;simpa using hp
 have:=h.pg;exact⟨h.ly,h.ll,h.ld,h.ls,by show m.Q+1≤m.res;omega,h.rk,h.lv,h.sp⟩
theorem O9(h:ba m)(hp:dU m=true):ba (pX m):=by
 have:m.F≠m.S:=by unfold dU at hp;simpa using hp
 have:=h.rk;exact⟨h.ly,h.ll,h.ld,h.ls,h.pg,by show m.F+1≤m.S;omega,h.lv,h.sp⟩
theorem Pb{l:List Nat}{h t k n b:Nat}(c: ∀i,i<n→l.getD i 0<b)(e:n=l.length)(ht:t<b): ∀i,i<n→(dz l h t k).getD i 0<b:=by
 intro i a;by_cases d:i<k
 ·unfold dz;rw[WK,W4 (by rw[WR,WQ];omega),Xo,List.getElem?_take,ALifp d,WN Om];have:=c i a;rw[WK,WN Om] at this;show(if _=h then t else _)<b
  split
  ·exact ht
  ·exact this
 ·unfold dz;rw[WK,W5 (by rw[WR,WQ];omega),WR,WQ,Xl,show k+(i-min k l.length)=i by omega,←WK];exact c i a
theorem Pc(h:ba m){x t:Nat}(ht:t<m.R*m.B*m.M):ba (jO m x t):=
 ⟨h.ly,(Dy ..).trans h.ll,by show(m.P.set x true).length=_;rw[W9];exact h.ld,h.ls,h.pg,h.rk,Pb h.lv h.ll.symm ht,h.sp⟩
theorem Pd(h:ba m){x t:Nat}(h0:m.R≤t)(h1:t<m.R+m.S):ba (fy m x t):=by
 refine⟨h.ly,h.ll,h.ld,by show(m.I.set x (t:Int)).length=_;rw[W9];exact h.ls,h.pg,h.rk,h.lv,λi a=>?_⟩;show(m.I.set x (t:Int)).getD i 0= -1∨((m.R:Int)≤(m.I.set x (t:Int)).getD i 0∧(m.I.set x (t:Int)).getD i 0<((m.R+m.S:Nat):Int));have a:i<m.R:=a;have b:=h.ls;rw[WK,Xg];by_cases e:x=i
 ·rw[ALifp e,ALifp Om];refine .inr ?_;show(m.R:Int)≤(t:Int)∧(t:Int)<((m.R+m.S:Nat):Int);omega
 ·rw[ALifn e,←WK];exact h.sp i a
theorem getD_set_ne{α:Type}{l:List α}{i j:Nat}{x d:α}(h:i≠j):(l.set i x).getD j d=l.getD j d:=by rw[WK,Xg,ALifn h,←WK]
theorem DR{r:Rp}{a:Ak}(h:aK r)(i:ey r.m a)(b:cX r a=false):aK (c6 r a):=by
 unfold c6;unfold cX at b;rcases i.k with⟨f,g⟩ | ⟨f,g⟩
 ·rw[f] at b⊢;have b:p4 r a.w=false:=b;show aK (bif dp r.m then _ else _);cases c:dp r.m with
  | false=>exact h
  | true=>
   unfold p4 at b;rw[c] at b;simp only[Bool.true_and,WV,decide_eq_false_iff_not] at b;have d:r.m.Q≠r.m.res:=by unfold dp at c;simpa using c
   have j:dI r.m=r.m.R*r.m.B*r.m.M-r.m.res+r.m.Q:=by unfold dI;rw[ALifn d]
   have n:=h.m.pg;have o:=h.m.ly.rp;have l:a.w<dI r.m:=by omega
   refine⟨O8 h.m c,⟨.inr (.inl ⟨rfl,?_⟩)⟩,λx e=>⟨(h.q x e).k⟩,h.n,⟨λx e=>h.fr.P x ?_⟩⟩
   ·exact⟨g,by show dI r.m<r.m.R*r.m.B*r.m.M;omega,by show a.w≠dI r.m;omega,b.1.1,h.fr.P _ (by show _≤dI r.m;omega),by show r.m.R*r.m.B*r.m.M-r.m.res≤dI r.m;omega,by show dI r.m<r.m.R*r.m.B*r.m.M-r.m.res+(r.m.Q+1);omega,Xp _,by show a.w<r.m.R*r.m.B*r.m.M-r.m.res+(r.m.Q+1);omega⟩
   ·have e:r.m.R*r.m.B*r.m.M-r.m.res+(r.m.Q+1)≤x:=e;omega
 ·rw[f] at b⊢;have b:p6 r a.w=false:=b;show aK (bif dU r.m then _ else _);cases c:dU r.m with
  | false=>exact h
  | true=>
   unfold p6 at b;rw[WV] at b;have d:r.m.F≠r.m.S:=by unfold dU at c;simpa using c
   have j:fa r.m=r.m.R+r.m.F:=by unfold fa;rw[ALifn d]
   refine⟨O9 h.m c,⟨.inr (.inr ⟨rfl,?_⟩)⟩,λx e=>⟨(h.q x e).k⟩,h.n,⟨h.fr.P⟩⟩;exact⟨g,b.1,by show r.m.R≤fa r.m;omega,by show fa r.m<r.m.R+(r.m.F+1);omega,Xp _⟩
theorem va{r:Rp}(h:aK r)(c:r.j.A≠0):aK (fv r):=by
 unfold fv;rcases h.j.k with e | ⟨e,b⟩ | ⟨e,b⟩
 ·rw[e] at c;exact absurd rfl c
 ·rw[e];show aK {r with m:=jO r.m r.j.fr r.j.tg,j:=kb};refine⟨Pc h.m b.ht,⟨.inl rfl⟩,λx a=>⟨(h.q x a).k⟩,h.n,⟨λx a=>?_⟩⟩;have a:r.m.R*r.m.B*r.m.M-r.m.res+r.m.Q≤x:=a;have:=b.f1;show(r.m.P.set r.j.fr true).getD x false=false;rw[getD_set_ne Om];exact h.fr.P x a
 ·rw[e];show aK {r with m:=fy r.m r.j.fr r.j.tg,j:=kb};have:=b.t1;have:=h.m.rk;exact⟨Pd h.m b.t0 Om,⟨.inl rfl⟩,λx a=>⟨(h.q x a).k⟩,h.n,⟨h.fr.P⟩⟩
theorem vb{r:Rp}(h:aK r)(a:r.j.A≠0):r.j.A=1∨r.j.A=2:=by
 rcases h.j.k with e | ⟨e,_⟩ | ⟨e,_⟩
 ·rw[e] at a;exact absurd rfl a
 ·exact .inl e
 ·exact .inr e
theorem DS{r:Rp}(h:aK r):r.j.nx≤4096:=by
 rcases h.j.k with e | ⟨e,a⟩ | ⟨e,a⟩
 ·rw[e];exact Xp _
 ·have:=a.nx;have:=h.m.O.bd.c64;omega
 ·have:=a.nx;have:=h.m.O.bd.bmc;omega
theorem p7{r:Rp}(h:aK r)(c:r.j.A≠0)(b:r.j.nx<ft r.j.A r.m.B r.m.M r.m.C):aK (bu r):=by
 refine⟨h.m,⟨?_⟩,h.q,h.n,h.fr⟩;rcases h.j.k with e | ⟨e,a⟩ | ⟨e,a⟩
 ·rw[e] at c;exact absurd rfl c
 ·rw[e] at b;exact .inr (.inl ⟨e,a.hf,a.ht,a.ne,a.df,a.dt,a.t0,a.t1,b,a.f1⟩)
 ·rw[e] at b;exact .inr (.inr ⟨e,a.hf,a.hs,a.t0,a.t1,b⟩)
theorem vc{r:Rp}(h:aK r):aK (aY r):=⟨h.m,h.j,λx a=>h.q x (List.mem_of_mem_tail a),by show r.q.tail.length≤256;rw[Xq];have:=h.n;omega,h.fr⟩
theorem sj{r:Rp}(h:aK r)(a:0<r.q.length):ey r.m (r.q.headD aJ):=by
 refine h.q _ ?_;cases e:r.q with
 | nil=>rw[e] at a;cases a
 | cons x q=>exact Xw ..
theorem yD{s:Rp×List Ev}(h:aK s.1)(c:0<s.1.q.length):aK (fz s).1:=by
 have a:=vc h;have b:=sj h c;unfold fz;cases d:cX (aY s.1) (s.1.q.headD aJ) with
 | true=>exact a
 | false=>exact DR a ⟨b.k⟩ d
theorem Pe(r:Rp)(a:Ak):(c6 r a).q=r.q:=by
 unfold c6;cases a.k==1<;>cases dp r.m<;>cases dU r.m<;>rfl
theorem ve(r:Rp)(a:Ak):(fM r a).length=1:=by
 unfold fM;cases a.k==1<;>cases dp r.m<;>cases dU r.m<;>rfl
theorem yE(s:Rp×List Ev):(fz s).1.q=s.1.q.tail:=by
 unfold fz;cases cX (aY s.1) (s.1.q.headD aJ) with
 | true=>rfl
 | false=>exact Pe _ _
theorem DT(s:Rp×List Ev):(fz s).2.length≤s.2.length+1:=by
 unfold fz;cases cX (aY s.1) (s.1.q.headD aJ) with
 | true=>exact Nat.le_succ _
 | false=>show(s.2++fM _ _).length≤_;rw[WO,ve];exact W8 _
theorem vf(s:Rp×List Ev): ∀k,(ah s k).1.q.length=s.1.q.length-k
 | 0=>rfl
 | k+1=>by rw[ah,yE,Xq,vf s k];omega
theorem yF(s:Rp×List Ev): ∀k,(ah s k).2.length≤s.2.length+k
 | 0=>W8 _
 | k+1=>by rw[ah];exact W7 (DT _) (by have:=yF s k;omega)
theorem yG{s:Rp×List Ev}(h:aK s.1): ∀k,k≤s.1.q.length→aK (ah s k).1
 | 0,_=>h
 | k+1,a=>yD (yG h k Om) (by rw[vf];omega)
theorem DU{s:Rp×List Ev}{k:Nat}(h:cX (aY (ah s k).1) ((ah s k).1.q.headD aJ)=true):ah s (k+1)=(aY (ah s k).1,(ah s k).2):=by rw[ah,fz,h,ALct]
theorem DV{s:Rp×List Ev}{k:Nat}(h:cX (aY (ah s k).1) ((ah s k).1.q.headD aJ)=false):ah s (k+1)=(c6 (aY (ah s k).1) ((ah s k).1.q.headD aJ),(ah s k).2++fM (aY (ah s k).1) ((ah s k).1.q.headD aJ)):=by rw[ah,fz,h,ALcf]
theorem DW{s:Rp×List Ev}{k:Nat}(a:k<s.1.q.length)(h:eC s.1.q.length s=eC (s.1.q.length-k) (ah s k))(h0:(ah s k).1.j.A=0):eC s.1.q.length s=eC (s.1.q.length-(k+1)) (ah s (k+1)):=by
 rw[h,show s.1.q.length-k=(s.1.q.length-(k+1))+1 by omega,eC,ALifp h0];rfl
theorem vg{q:List Ak}(h:q.length=0):q.tail=q:=by rw[List.length_eq_zero_iff.1 h];rfl
theorem vh{s:Rp×List Ev}(h0:s.1.j.A≠0)(n:Nat):eC n s=s:=by
 cases n with
 | zero=>rfl
 | succ n=>rw[eC,ALifn h0]
end
end
section
open Go.Shelf
theorem Pf(R S B M C way a:Nat)(b:ij R S B M C way a):aa WJ 137 #[.agg #[iN R,iN S,iN B,iN M,iN C,iN way,iN a]] [] [] (λE=>[ob (E.y 0) #[pt ((E.y 1)) 0,i6 0,i6 0,i6 0,i6 0,pt ((E.y 2)) 0] 133,pk (aF (E.y 1) (kX R S B M C way a)),pk (bJ (E.y 2) [])]) (λE=> .tuple #[pt ((E.y 0)) 0,i6 0]):=by
 have j:=b.O;have m:=b.rp;have k:=j.bd.rbm;have i:=b.G;have h:=b.r64;exact fG Tryz.func137 λw n=>ra (λg=>[(1,pt (B0 g) 0),(2,.pointer none),(3,i6 0)]) (λg=>[ob (B0 g) #[iN R,iN S,iN B,iN M,iN C,iN way,iN a] 25]) λg=>rr (λ_=>[(0,.l 0),(1,.c [] [1] (Ou R S B M C way a b))]) (λd=>[(4,pt ((B1 d)) 0),(5,i6 0)]) [] (λd L=>L++[pk (aF (B1 d) (kX R S B M C way a))]) λd=>rF [] 13 (rr (λ_=>[(0,.c [] [2] (O6))]) (λe=>[(6,pt ((B0 e)) 0),(5,i6 0)]) [5] (λe L=>L++[pk (bJ (B0 e) [])]) λe=>rF [] 20 (rr N0 (λf=>[(2,pt (B3 f) 0),(3,i6 0)]) [2,3] (λf L=>L++[ob (B3 f) #[pt ((B1 d)) 0,i6 0,i6 0,i6 0,i6 0,pt ((B0 e)) 0] 133]) λf=>lf (.l [(f 3).y 0,(B1 d),(B0 e)] [] []) [3,1,2] [] []))
theorem Pg(R S B M C way a:Nat)(b:ij R S B M C way a):aa WJ 137 #[.agg #[iN R,iN S,iN B,iN M,iN C,iN way,iN a]] [] [] (λE=>[pk (ar (E.y 0) (E.y 1) (E.y 2) ⟨kX R S B M C way a,kb,[]⟩)]) (λE=> .tuple #[pt ((E.y 0)) 0,i6 0]):=(Pf R S B M C way a b).outs λE d c=>r9 rfl c
theorem sk(g a b:Nat)(r:Rp)(d:aK r):aa WJ 23 #[pt g 0] [pk (ar g a b r)] [0] (λ_=>[pk (ar g a b r)]) (λ_=>pt a 0):=aa.pkZ Tryz.func23 λL e=>by
 obtain⟨rfl⟩:=e;refine⟨[1,2],λ_=>[pk (aF a r.m),pk (bJ b r.q)],?_,rfl,λE=>⟨rfl,rfl,rfl⟩⟩;have c:=d.m;have m:=d.j;have i:=d.n;have k:=c.O;have f:=c.ly;have h:=c.np;exact fG Tryz.func23 λw j=>r0 [] [(2,.pointer none)] [] (r0 [(3,.l 0)] [(2,pt a 0)] [2] (lf ab.zero [1,2] [(0,0)] []))
theorem yH(g b c:Nat)(r:Rp)(e:aK r):aa WJ 27 #[pt g 0] [pk (ar g b c r)] [0] (λ_=>[pk (ar g b c r)]) (λ_=> .agg #[iN r.j.A,iN r.j.fr,iN r.j.tg,iN r.j.nx]):=aa.pkZ Tryz.func27 λL f=>by
 obtain⟨rfl⟩:=f;refine⟨[1,2],λ_=>[pk (aF b r.m),pk (bJ c r.q)],?_,rfl,λE=>⟨rfl,rfl,rfl⟩⟩;have d:=e.m;have n:=e.j;have j:=e.n;have m:=d.O;have h:=d.ly;have i:=d.np;exact fG Tryz.func27 λw k=>ra (λa=>[(2,pt (B0 a) 0)]) (λa=>[ob (B0 a) #[i6 0,i6 0,i6 0,i6 0] 70]) λa=>rs [(3,.l 0),(4,.s 3)] 3 (ob (B0 a) #[iN r.j.A,iN r.j.fr,iN r.j.tg,iN r.j.nx] 70) (lf ab.zero [1,2] [(0,0)] [3])
theorem mO(g a b:Nat)(r:Rp):aa WJ 118 #[pt g 0] [ob g #[pt a 0,iN r.j.A,iN r.j.fr,iN r.j.tg,iN r.j.nx,pt b 0] 133,pk (aF a r.m),pk (bJ b r.q)] [1,2] (λ_=>[pk (aF a r.m),pk (bJ b r.q)]) (λ_=> .bool ((r.j.A:Int) != 0)):=by
 exact fG Tryz.func118 λw c=>r0 [] [(2,.bool false)] [] (r0 [(4,.l 0)] [(2,.bool ((r.j.A:Int) != 0))] [2] (lf ab.zero [1,2] [(0,0)] []))
theorem Ph(g a d:Nat)(r:Rp)(e:aK r)(n:Nat)(p:n<(r.m.R*r.m.B*r.m.M-r.m.res)*r.m.C):aa WJ 143 #[pt g 0,iN n] [pk (ar g a d r)] [0] (λ_=>[pk (ar g a d r)]) (λ_=> .tuple #[iN (aN r.m r.j n),iN (au r.m n),iN (aB r.m.G r.m.R r.m.B r.m.M (au r.m n)),i6 0]):=aa.pkZ Tryz.func143 λL f=>by
 obtain⟨rfl⟩:=f;refine⟨[1,2],λ_=>[pk (aF a r.m),pk (bJ d r.q)],?_,rfl,λE=>⟨rfl,rfl,rfl⟩⟩;have b:=e.m;have h:=e.j;have k:=e.n;have o:=b.O;have i:=b.ly;have j:=b.np;exact fG Tryz.func143 λw l=>r0 [] [(4,i6 0),(5,i6 0),(6,i6 0),(7,i6 0)] [] (r0 [(3,.m (ls 0 ([iN r.j.A,iN r.j.fr,iN r.j.tg,iN r.j.nx]))),(7,.m (ld 0 (pt a 0))),(9,.c [1] [1] (OL a r.m b r.j h n Om)),] [(4,iN (aN r.m r.j n)),(5,iN (au r.m n)),(6,iN (aB r.m.G r.m.R r.m.B r.m.M (au r.m n))),(7,i6 0)] [4,5,6,7] (lf ab.zero [1,2] [(0,0)] []))
theorem Pj(g a d:Nat)(r:Rp)(e:aK r)(n:Int)(i:bK n (((r.m.R*r.m.B*r.m.M-r.m.res)*r.m.C:Nat):Int)=false):aa WJ 143 #[pt g 0,i6 n] [pk (ar g a d r)] [0] (λ_=>[pk (ar g a d r)]) (λ_=> .tuple #[i6 0,i6 0,i6 0,i6 12]):=aa.pkZ Tryz.func143 λL f=>by
 obtain⟨rfl⟩:=f;refine⟨[1,2],λ_=>[pk (aF a r.m),pk (bJ d r.q)],?_,rfl,λE=>⟨rfl,rfl,rfl⟩⟩;have b:=e.m;have p:=e.j;have k:=e.n;have o:=b.O;have h:=b.ly;have j:=b.np;exact fG Tryz.func143 λw l=>r0 [] [(4,i6 0),(5,i6 0),(6,i6 0),(7,i6 0)] [] (r0 [(3,.m (ls 0 ([iN r.j.A,iN r.j.fr,iN r.j.tg,iN r.j.nx]))),(7,.m (ld 0 (pt a 0))),(9,.c [1] [1] (OK a r.m b r.j.A r.j.fr r.j.tg r.j.nx n i)),] [(4,i6 0),(5,i6 0),(6,i6 0),(7,i6 12)] [4,5,6,7] (lf ab.zero [1,2] [(0,0)] []))
theorem yI(k u:Nat)(g:1≤k)(e:k≤2):aa WJ 243 #[.agg #[iN k,iN u]] [] [] (λE=>[bh (E.val 0) ([(⟨5,u,k-1⟩:Ev)])]) (λE=>(E.val 0)):=by
 exact fG Tryz.func243 λw f=>ra (λd=>[(1,pt (B0 d) 0),(2,.slice none 0 0)]) (λd=>[ob (B0 d) #[iN k,iN u] 285]) λd=>rr (λ_=>[(1,.l 0),(3,.l 0),(4,.t (tb (a:=iN k) (b:=i6 1) λ_ _ _ _=>lQ (a:=k) (b:=1) Om Om)),(6,gV jn 1 1 [(⟨5,u,k-1⟩:Ev)])]) (λc=>[(2,.slice (some ⟨(c 6).y 0,0,none⟩) 1 1)]) [2] (λc L=>L++[bh (.slice (some ⟨(c 6).y 0,0,none⟩) 1 1) ([(⟨5,u,k-1⟩:Ev)])]) λc=>lf (.l [] [] [.slice (some ⟨(c 6).y 0,0,none⟩) 1 1]) [1] [] []
theorem Pk(g a f:Nat)(r:Rp)(i:aK r)(u:Nat)(x:u<r.m.R*r.m.B*r.m.M):aa WJ 240 #[pt g 0,.agg #[i6 1,iN u]] [pk (ar g a f r)] [0] (λ_=>[pk (ar g a f r)]) (λ_=> .bool (p4 r u)):=aa.pkZ Tryz.func240 λL k=>by
 obtain⟨rfl⟩:=k;refine⟨[1,2],λ_=>[pk (aF a r.m),pk (bJ f r.q)],?_,rfl,λE=>⟨rfl,rfl,rfl⟩⟩;have b:=i.m;have v:=i.j;have p:=i.n;have j:=b.O;have n:=b.ly;have o:=b.np;refine fG Tryz.func240 λw q=>ra (λd=>[(3,pt (B0 d) 0),(4,.bool false)]) (λd=>[ob (B0 d) #[i6 1,iN u] 285]) λd=>rr (λ_=>[(3,.l 0),(4,.c [1] [1] (jk a r.m b)),(7,.s 4)]) (λe=>[(5,pt (B6 e) 0)]) [] (λe L=>L++[ob (B6 e) #[iN r.m.R,iN r.m.S,iN r.m.B,iN r.m.M,iN r.m.C] 23]) λe=>r0 [(1,.l 3)] [(17,i6 1)] [] (rT [] 18 (r0 [(3,.l 0),(4,.c [1] [1] (Oi a r.m b))] [(6,iN (dI r.m)),(7,.bool (dp r.m))] [] (r0 [(1,.m (ld 3 (iN u))),(2,.t (tk (show Value.bool (decide ((u:Int)<0))= .bool false from ALca Value.bool (by exact bf Om)))),(5,.m (ld 3 (iN u))),(6,.m (ls 4 ([iN r.m.R,iN r.m.S,iN r.m.B,iN r.m.M,iN r.m.C]))),(7,.c [] [] (lW r.m.R r.m.S r.m.B r.m.M r.m.C j)),(8,.t (tk (show Value.bool (decide ((((r.m.R*r.m.B)*r.m.M:Nat):Int)≤(u:Int)))= .bool false from ALca Value.bool (by exact bf Om)))),(14,.m (ld 0 (pt a 0))),(16,.m (ld 3 (iN u))),(17,.c [1] [1] (u4 a r.m b u Om)),(23,.m (ld 3 (iN u))),] [(55,.bool ((r.m.P.getD u false)||((dp r.m)&&(decide (((dI r.m:Nat):Int)≤(u:Int))))))] [] ?_)));refine cB ((r.m.P.getD u false)||((dp r.m)&&(decide (((dI r.m:Nat):Int)≤(u:Int))))) (λh=>?_) λh=>?_
 ·exact r0 [] [(4,.bool true)] [4] (ao (.bool true) ab.zero (by unfold p4;simp only[←yv,←lX];(repeat (rw[h]));rfl) [1,2] [(0,0)] [])
 exact r0 [(4,.m (ld 0 (iN r.j.A))),(6,.m (ld 3 (i6 1))),(13,.m (ld 0 (iN r.j.fr))),(15,.m (ld 3 (iN u))),] [(4,.bool (((r.j.A:Int)==1)&&((r.j.fr:Int)==(u:Int))))] [4] (ao (.bool (((r.j.A:Int)==1)&&((r.j.fr:Int)==(u:Int)))) ab.zero (by unfold p4;simp only[←yv,←lX];(repeat (rw[h]));rfl) [1,2] [(0,0)] [])
theorem Pm(g a h:Nat)(r:Rp)(j:aK r)(u:Nat)(y:u<r.m.R):aa WJ 240 #[pt g 0,.agg #[i6 2,iN u]] [pk (ar g a h r)] [0] (λ_=>[pk (ar g a h r)]) (λ_=> .bool (p6 r u)):=aa.pkZ Tryz.func240 λL k=>by
 obtain⟨rfl⟩:=k;refine⟨[1,2],λ_=>[pk (aF a r.m),pk (bJ h r.q)],?_,rfl,λE=>⟨rfl,rfl,rfl⟩⟩;have b:=j.m;have x:=j.j;have p:=j.n;have v:=b.O;have n:=b.ly;have o:=b.np;refine fG Tryz.func240 λw q=>ra (λe=>[(3,pt (B0 e) 0),(4,.bool false)]) (λe=>[ob (B0 e) #[i6 2,iN u] 285]) λe=>rr (λ_=>[(3,.l 0),(4,.c [1] [1] (jk a r.m b)),(7,.s 4)]) (λf=>[(5,pt (B6 f) 0)]) [] (λf L=>L++[ob (B6 f) #[iN r.m.R,iN r.m.S,iN r.m.B,iN r.m.M,iN r.m.C] 23]) λf=>r0 [(1,.l 3)] [(17,i6 2)] [] (rF [] 18 (rT [] 56 (r0 [(3,.m (ld 0 (pt a 0))),(5,.m (ld 3 (iN u))),(6,.c [1] [1] (yr a r.m b u Om)),] [(9,.bool (cy r.m u))] [] (r0 [(3,.m (ld 3 (iN u))),(4,.t (tk (show Value.bool (decide ((u:Int)<0))= .bool false from ALca Value.bool (by exact bf Om)))),(8,.m (ld 3 (iN u))),(10,.m (ld 4 (iN r.m.R))),(11,.t (tk (show Value.bool (decide ((r.m.R:Int)≤(u:Int)))= .bool false from ALca Value.bool (by exact bf Om))))] [(80,.bool (((cy r.m u)||false)||false))] [] ?_))));refine cB (((cy r.m u)||false)||false) (λi=>?_) λi=>?_
 ·exact r0 [] [(4,.bool true)] [4] (ao (.bool true) ab.zero (by unfold p6;simp only[←lX];have d:=i;simp only[Yg] at d;rw[d];rfl) [1,2] [(0,0)] [])
 exact r0 [(4,.m (ld 0 (iN r.j.A))),(6,.m (ld 3 (i6 2))),(13,.m (ld 0 (iN r.j.fr))),(15,.m (ld 3 (iN u))),] [(4,.bool (((r.j.A:Int)==2)&&((r.j.fr:Int)==(u:Int))))] [4] (ao (.bool (((r.j.A:Int)==2)&&((r.j.fr:Int)==(u:Int)))) ab.zero (by unfold p6;simp only[←lX];have d:=i;simp only[Yg] at d;rw[d];rfl) [1,2] [(0,0)] [])
theorem Pn(g a b:Nat)(r:Rp)(h:aK r)(u:Nat)(hp:dp r.m=true):aa WJ 241 #[pt g 0,.agg #[i6 1,iN u]] [pk (ar g a b r)] [0] (λE=>[pk (ar g a b {r with m:=pW r.m,j:=⟨1,u,dI r.m,0⟩}),bh (E.val 0) ([(⟨3,u,dI r.m⟩:Ev)])]) (λE=>(E.val 0)):=aa.pkW (n:=1) (N:=λE=>[bh (E.val 0) ([(⟨3,u,dI r.m⟩:Ev)])]) (enters_of Tryz.func241 Kr rfl) λL i=>by
 obtain⟨rfl⟩:=i;refine⟨[0,1,2],λ_=>[ob g #[pt a 0,i6 1,iN u,iN (dI r.m),i6 0,pt b 0] 133,pk (aF a (pW r.m)),pk (bJ b r.q)],?_,rfl,λE=>⟨rfl,rfl,rfl⟩⟩;have e:=h.m;have v:=h.j;have p:=h.n;have t:=e.O;have k:=e.ly;have o:=e.np;exact fG Tryz.func241 λw q=>ra (λf=>[(3,pt (B0 f) 0),(4,.slice none 0 0)]) (λf=>[ob (B0 f) #[i6 1,iN u] 285]) λf=>r0 [] [(5,i6 3)] [] (r0 [(3,.l 0)] [(6,.func (.func 265) #[pt a 0] #[])] [] (rF [(1,.l 3)] 16 (rr (λ_=>[(1,.c [1] [1] (Oj a r.m e Om))]) (λ_=>[(7,iN (dI r.m)),(8,i6 0)]) [] (λ_ L=>L.set 1 ((pk (aF a (pW r.m))))) λx=>rF [] 28 (rs [(2,.l 3),(4,.l 3),(9,.s 0)] 0 (ob g #[pt a 0,i6 1,iN u,iN (dI r.m),i6 0,pt b 0] 133) (rr (λ_=>[(2,.l 3),(5,gV jn 4 1 [(⟨3,u,dI r.m⟩:Ev)])]) (λd=>[(4,.slice (some ⟨(d 5).y 0,0,none⟩) 1 1)]) [4] (λd L=>L++[bh (.slice (some ⟨(d 5).y 0,0,none⟩) 1 1) ([(⟨3,u,dI r.m⟩:Ev)])]) λd=>lf (.l [] [] [.slice (some ⟨(d 5).y 0,0,none⟩) 1 1]) [0,1,2,4] [] [])))))
theorem Po(g b f:Nat)(r:Rp)(h:aK r)(u:Nat)(hp:dp r.m=false):aa WJ 241 #[pt g 0,.agg #[i6 1,iN u]] [pk (ar g b f r)] [0] (λE=>[pk (ar g b f r),bh (E.val 0) ([(⟨5,u,1-1⟩:Ev)])]) (λE=>(E.val 0)):=aa.pkW (n:=1) (N:=λE=>[bh (E.val 0) ([(⟨5,u,1-1⟩:Ev)])]) (enters_of Tryz.func241 Kr rfl) λL i=>by
 obtain⟨rfl⟩:=i;refine⟨[1,2],λ_=>[pk (aF b r.m),pk (bJ f r.q)],?_,rfl,λE=>⟨rfl,rfl,rfl⟩⟩;have d:=h.m;have q:=h.j;have m:=h.n;have p:=d.O;have j:=d.ly;have k:=d.np;exact fG Tryz.func241 λw o=>ra (λe=>[(3,pt (B0 e) 0),(4,.slice none 0 0)]) (λe=>[ob (B0 e) #[i6 1,iN u] 285]) λe=>r0 [] [(5,i6 3)] [] (r0 [(3,.l 0)] [(6,.func (.func 265) #[pt b 0] #[])] [] (rF [(1,.l 3)] 16 (r0 [(1,.c [1] [1] (Ok b r.m d Om))] [(7,i6 0),(8,i6 52)] [] (rT [] 28 (rr (λ_=>[(0,.l 3),(1,.c [] [4] (yI 1 u Om Om))]) (λa=>[(4,((a 1).val 0))]) [4] (λa L=>L++[bh ((a 1).val 0) ([(⟨5,u,1-1⟩:Ev)])]) λa=>lf (.l [] [] [((a 1).val 0),(a 1).val 0]) [1,2,4] [(0,0)] [])))))
theorem Pp(g a b:Nat)(r:Rp)(h:aK r)(u:Nat)(hp:dU r.m=true):aa WJ 241 #[pt g 0,.agg #[i6 2,iN u]] [pk (ar g a b r)] [0] (λE=>[pk (ar g a b {r with m:=pX r.m,j:=⟨2,u,fa r.m,0⟩}),bh (E.val 0) ([(⟨4,u,fa r.m⟩:Ev)])]) (λE=>(E.val 0)):=aa.pkW (n:=1) (N:=λE=>[bh (E.val 0) ([(⟨4,u,fa r.m⟩:Ev)])]) (enters_of Tryz.func241 Kr rfl) λL i=>by
 obtain⟨rfl⟩:=i;refine⟨[0,1,2],λ_=>[ob g #[pt a 0,i6 2,iN u,iN (fa r.m),i6 0,pt b 0] 133,pk (aF a (pX r.m)),pk (bJ b r.q)],?_,rfl,λE=>⟨rfl,rfl,rfl⟩⟩;have e:=h.m;have v:=h.j;have p:=h.n;have t:=e.O;have k:=e.ly;have o:=e.np;exact fG Tryz.func241 λw q=>ra (λf=>[(3,pt (B0 f) 0),(4,.slice none 0 0)]) (λf=>[ob (B0 f) #[i6 2,iN u] 285]) λf=>r0 [] [(5,i6 3)] [] (r0 [(3,.l 0)] [(6,.func (.func 265) #[pt a 0] #[])] [] (rT [(1,.l 3)] 16 (r0 [(3,.l 0)] [(5,i6 4),(6,.func (.func 266) #[pt a 0] #[])] [5,6] (rr (λ_=>[(1,.c [1] [1] (Ol a r.m e Om))]) (λ_=>[(7,iN (fa r.m)),(8,i6 0)]) [] (λ_ L=>L.set 1 ((pk (aF a (pX r.m))))) λx=>rF [] 28 (rs [(2,.l 3),(4,.l 3),(9,.s 0)] 0 (ob g #[pt a 0,i6 2,iN u,iN (fa r.m),i6 0,pt b 0] 133) (rr (λ_=>[(2,.l 3),(5,gV jn 4 1 [(⟨4,u,fa r.m⟩:Ev)])]) (λd=>[(4,.slice (some ⟨(d 5).y 0,0,none⟩) 1 1)]) [4] (λd L=>L++[bh (.slice (some ⟨(d 5).y 0,0,none⟩) 1 1) ([(⟨4,u,fa r.m⟩:Ev)])]) λd=>lf (.l [] [] [.slice (some ⟨(d 5).y 0,0,none⟩) 1 1]) [0,1,2,4] [] []))))))
theorem Pq(g a f:Nat)(r:Rp)(h:aK r)(u:Nat)(hp:dU r.m=false):aa WJ 241 #[pt g 0,.agg #[i6 2,iN u]] [pk (ar g a f r)] [0] (λE=>[pk (ar g a f r),bh (E.val 0) ([(⟨5,u,2-1⟩:Ev)])]) (λE=>(E.val 0)):=aa.pkW (n:=1) (N:=λE=>[bh (E.val 0) ([(⟨5,u,2-1⟩:Ev)])]) (enters_of Tryz.func241 Kr rfl) λL i=>by
 obtain⟨rfl⟩:=i;refine⟨[1,2],λ_=>[pk (aF a r.m),pk (bJ f r.q)],?_,rfl,λE=>⟨rfl,rfl,rfl⟩⟩;have d:=h.m;have q:=h.j;have m:=h.n;have p:=d.O;have j:=d.ly;have k:=d.np;exact fG Tryz.func241 λw o=>ra (λe=>[(3,pt (B0 e) 0),(4,.slice none 0 0)]) (λe=>[ob (B0 e) #[i6 2,iN u] 285]) λe=>r0 [] [(5,i6 3)] [] (r0 [(3,.l 0)] [(6,.func (.func 265) #[pt a 0] #[])] [] (rT [(1,.l 3)] 16 (r0 [(3,.l 0)] [(5,i6 4),(6,.func (.func 266) #[pt a 0] #[])] [5,6] (r0 [(1,.c [1] [1] (On a r.m d Om))] [(7,i6 0),(8,i6 52)] [] (rT [] 28 (rr (λ_=>[(0,.l 3),(1,.c [] [4] (yI 2 u Om Om))]) (λb=>[(4,((b 1).val 0))]) [4] (λb L=>L++[bh ((b 1).val 0) ([(⟨5,u,2-1⟩:Ev)])]) λb=>lf (.l [] [] [((b 1).val 0),(b 1).val 0]) [1,2,4] [(0,0)] []))))))
end
section
open Go.Shelf
theorem Pr(g b c:Nat)(r:Rp)(f:aK r)(a:Ak)(h:ey r.m a):aa WJ 240 #[pt g 0,.agg #[iN a.k,iN a.w]] [pk (ar g b c r)] [0] (λ_=>[pk (ar g b c r)]) (λ_=> .bool (cX r a)):=by
 obtain⟨k,u⟩:=a;rcases h.k with⟨d,e⟩ | ⟨d,e⟩
 ·cases d;exact Pk g b c r f u e
 ·cases d;exact Pm g b c r f u e
theorem Ps(g b c:Nat)(r:Rp)(e:aK r)(a:Ak)(h:ey r.m a):aa WJ 241 #[pt g 0,.agg #[iN a.k,iN a.w]] [pk (ar g b c r)] [0] (λE=>[pk (ar g b c (c6 r a)),bh (E.val 0) (fM r a)]) (λE=>E.val 0):=by
 obtain⟨k,u⟩:=a;unfold c6 fM;rcases h.k with⟨f,i⟩ | ⟨f,i⟩
 ·cases f;cases d:dp r.m with
  | true=>exact Pn g b c r e u d
  | false=>exact Po g b c r e u d
 ·cases f;cases d:dU r.m with
  | true=>exact Pp g b c r e u d
  | false=>exact Pq g b c r e u d
abbrev p8(g a b:Nat)(r:Rp):aj:=[ob g #[pt a 0,iN r.j.A,iN r.j.fr,iN r.j.tg,iN r.j.nx,pt b 0] 133,pk (aF a r.m),pk (bJ b r.q)]
theorem o5(g b c:Nat)(r:Rp)(e:aK r)(a:Ak)(d:ey r.m a):aa WJ 240 #[pt g 0,.agg #[iN a.k,iN a.w]] (p8 g b c r) [0,1,2] (λ_=>p8 g b c r) (λ_=> .bool (cX r a)):=(Pr g b c r e a d).unpk (N:=λ_=>[])
theorem yJ(g b c:Nat)(r:Rp)(e:aK r)(a:Ak)(d:ey r.m a):aa WJ 241 #[pt g 0,.agg #[iN a.k,iN a.w]] (p8 g b c r) [0,1,2] (λE=>p8 g b c (c6 r a)++[bh (E.val 0) (fM r a)]) (λE=>E.val 0):=(Ps g b c r e a d).unpk (N:=λE=>[bh (E.val 0) (fM r a)])
theorem Pt(g b d:Nat)(r:Rp)(e:aK r)(a:Ak)(j:ey r.m a)(hv:cX r a=true):aa WJ 207 #[pt g 0,.agg #[iN a.k,iN a.w]] [pk (ar g b d r)] [0] (λE=>[pk (ar g b d r),bh (E.val 0) ([])]) (λE=>(E.val 0)):=aa.pkW (n:=1) (N:=λE=>[bh (E.val 0) ([])]) (enters_of Tryz.func207 Kr rfl) λL i=>by
 obtain⟨rfl⟩:=i;refine⟨[1,2],λ_=>[pk (aF b r.m),pk (bJ d r.q)],?_,rfl,λE=>⟨rfl,rfl,rfl⟩⟩;have h:=e.m;have s:=e.j;have o:=e.n;have q:=h.O;have k:=h.ly;have m:=h.np;exact fG Tryz.func207 λw p=>ra (λf=>[(3,pt (B0 f) 0),(4,.slice none 0 0)]) (λf=>[ob (B0 f) #[iN a.k,iN a.w] 285]) λf=>rT [(1,.l 3),(2,.c [0,1,2] [0,1,2] (aa.v ((o5 g b d r e a j)) λ_=>ALca Value.bool (show(cX r a)=true from(by exact hv))))] 5 (r0 [] [(4,.slice none 0 0)] [4] (cz jn (lf (.l [] [] [.slice none 0 0]) [1,2,4] [(0,0)] [])))
theorem Pu(g b d:Nat)(r:Rp)(f:aK r)(a:Ak)(k:ey r.m a)(hv:cX r a=false)(s:r.j.A=0):aa WJ 207 #[pt g 0,.agg #[iN a.k,iN a.w]] [pk (ar g b d r)] [0] (λE=>[pk (ar g b d (c6 r a)),bh (E.val 0) (fM r a)]) (λE=>(E.val 0)):=aa.pkW (n:=1) (N:=λE=>[bh (E.val 0) (fM r a)]) (enters_of Tryz.func207 Kr rfl) λL p=>by
 obtain⟨rfl⟩:=p;refine⟨[0,1,2],λ_=>[ob g #[pt b 0,iN ((c6 r a).j.A),iN ((c6 r a).j.fr),iN ((c6 r a).j.tg),iN ((c6 r a).j.nx),pt d 0] 133,pk (aF b (c6 r a).m),pk (bJ d (c6 r a).q)],?_,rfl,λE=>⟨rfl,rfl,rfl⟩⟩;have i:=f.m;have z:=f.j;have v:=f.n;have y:=i.O;have t:=i.ly;have u:=i.np;refine fG Tryz.func207 λw x=>ra (λh=>[(3,pt (B0 h) 0),(4,.slice none 0 0)]) (λh=>[ob (B0 h) #[iN a.k,iN a.w] 285]) λh=>rF [(1,.l 3),(2,.c [0,1,2] [0,1,2] (aa.v ((o5 g b d r f a k)) λ_=>ALca Value.bool (show(cX r a)=false from(by exact hv))))] 5 (r0 [(1,.c [0,1,2] [1,2] (mO g b d r))] [(9,.bool (!((r.j.A:Int) != 0)))] [] ?_);have o:(!((r.j.A:Int) != 0))=true:=by rw[s];rfl
 exact cT (!((r.j.A:Int) != 0)) o (rr (λ_=>[(1,.l 3),(2,.c [0,1,2] [0,1,2,4] (yJ g b d r f a k))]) (λe=>[(4,(e 2).val 0)]) [4] (λe L=>((L.set 0 (ob g #[pt b 0,iN ((c6 r a).j.A),iN ((c6 r a).j.fr),iN ((c6 r a).j.tg),iN ((c6 r a).j.nx),pt d 0] 133)).set 1 ((pk (aF b (c6 r a).m)))).set 2 ((pk (bJ d (c6 r a).q)))++[bh ((e 2).val 0) (fM r a)]) λe=>lf (.l [] [] [((e 2).val 0),(e 2).val 0]) [0,1,2,4] [] [])
theorem Pv(g d b:Nat)(r:Rp)(e:aK r)(a:Ak)(m:ey r.m a)(hv:cX r a=false)(u:r.j.A≠0)(x:a∈r.q):aa WJ 207 #[pt g 0,.agg #[iN a.k,iN a.w]] [pk (ar g d b r)] [0] (λE=>[pk (ar g d b r),bh (E.val 0) ([])]) (λE=>(E.val 0)):=aa.pkW (n:=1) (N:=λE=>[bh (E.val 0) ([])]) (enters_of Tryz.func207 Kr rfl) λL k=>by
 obtain⟨rfl⟩:=k;refine⟨[1,2],λ_=>[pk (aF d r.m),pk (bJ b r.q)],?_,rfl,λE=>⟨rfl,rfl,rfl⟩⟩;have h:=e.m;have v:=e.j;have q:=e.n;have t:=h.O;have o:=h.ly;have p:=h.np;refine fG Tryz.func207 λw s=>ra (λf=>[(3,pt (B0 f) 0),(4,.slice none 0 0)]) (λf=>[ob (B0 f) #[iN a.k,iN a.w] 285]) λf=>rF [(1,.l 3),(2,.c [0,1,2] [0,1,2] (aa.v ((o5 g d b r e a m)) λ_=>ALca Value.bool (show(cX r a)=false from(by exact hv))))] 5 (r0 [(1,.c [0,1,2] [1,2] (mO g d b r))] [(9,.bool (!((r.j.A:Int) != 0)))] [] ?_);have i:(!((r.j.A:Int) != 0))=false:=by(have j:((r.j.A:Int)==0)=false:=by rw[dN];omega);(rw[bne,j];rfl)
 exact cF (!((r.j.A:Int) != 0)) i (rF [(3,.l 0),(4,.l 3),(5,.c [2] [2] (OV b r.q a Om))] 22 (r0 [] [(4,.slice none 0 0)] [4] (cz jn (lf (.l [] [] [.slice none 0 0]) [1,2,4] [(0,0)] []))))
theorem Pw(g e b:Nat)(r:Rp)(f:aK r)(a:Ak)(k:ey r.m a)(hv:cX r a=false)(A:r.j.A≠0)(x:a∉r.q)(s:r.q.length=256):aa WJ 207 #[pt g 0,.agg #[iN a.k,iN a.w]] [pk (ar g e b r)] [0] (λE=>[pk (ar g e b r),bh (E.val 0) ([(⟨5,a.w,a.k-1⟩:Ev)])]) (λE=>(E.val 0)):=aa.pkW (n:=1) (N:=λE=>[bh (E.val 0) ([(⟨5,a.w,a.k-1⟩:Ev)])]) (enters_of Tryz.func207 Kr rfl) λL p=>by
 obtain⟨rfl⟩:=p;refine⟨[1,2],λ_=>[pk (aF e r.m),pk (bJ b r.q)],?_,rfl,λE=>⟨rfl,rfl,rfl⟩⟩;have j:=f.m;have B:=f.j;have v:=f.n;have z:=j.O;have t:=j.ly;have u:=j.np;have q:1≤a.k∧a.k≤2:=by rcases k.k with h | h<;>omega
 refine fG Tryz.func207 λw y=>ra (λi=>[(3,pt (B0 i) 0),(4,.slice none 0 0)]) (λi=>[ob (B0 i) #[iN a.k,iN a.w] 285]) λi=>rF [(1,.l 3),(2,.c [0,1,2] [0,1,2] (aa.v ((o5 g e b r f a k)) λ_=>ALca Value.bool (show(cX r a)=false from(by exact hv))))] 5 (r0 [(1,.c [0,1,2] [1,2] (mO g e b r))] [(9,.bool (!((r.j.A:Int) != 0)))] [] ?_);have m:(!((r.j.A:Int) != 0))=false:=by(have o:((r.j.A:Int)==0)=false:=by rw[dN];omega);(rw[bne,o];rfl)
 exact cF (!((r.j.A:Int) != 0)) m (rT [(3,.l 0),(4,.l 3),(5,.c [2] [2] (OX b r.q a x (by(simp only[LL,s];done))))] 22 (rr (λ_=>[(0,.l 3),(1,.c [] [4] (yI a.k a.w Om Om))]) (λd=>[(4,((d 1).val 0))]) [4] (λd L=>L++[bh ((d 1).val 0) ([(⟨5,a.w,a.k-1⟩:Ev)])]) λd=>lf (.l [] [] [((d 1).val 0),(d 1).val 0]) [1,2,4] [(0,0)] []))
theorem Px(g d b:Nat)(r:Rp)(e:aK r)(a:Ak)(m:ey r.m a)(hv:cX r a=false)(x:r.j.A≠0)(t:a∉r.q)(z:r.q.length<256):aa WJ 207 #[pt g 0,.agg #[iN a.k,iN a.w]] [pk (ar g d b r)] [0] (λE=>[pk (ar g d b {r with q:=r.q++[a]}),bh (E.val 0) ([])]) (λE=>(E.val 0)):=aa.pkW (n:=1) (N:=λE=>[bh (E.val 0) ([])]) (enters_of Tryz.func207 Kr rfl) λL k=>by
 obtain⟨rfl⟩:=k;refine⟨[1,2],λ_=>[pk (aF d r.m),pk (bJ b (r.q++[a]))],?_,rfl,λE=>⟨rfl,rfl,rfl⟩⟩;have h:=e.m;have y:=e.j;have s:=e.n;have v:=h.O;have o:=h.ly;have p:=h.np;refine fG Tryz.func207 λw u=>ra (λf=>[(3,pt (B0 f) 0),(4,.slice none 0 0)]) (λf=>[ob (B0 f) #[iN a.k,iN a.w] 285]) λf=>rF [(1,.l 3),(2,.c [0,1,2] [0,1,2] (aa.v ((o5 g d b r e a m)) λ_=>ALca Value.bool (show(cX r a)=false from(by exact hv))))] 5 (r0 [(1,.c [0,1,2] [1,2] (mO g d b r))] [(9,.bool (!((r.j.A:Int) != 0)))] [] ?_);have i:(!((r.j.A:Int) != 0))=false:=by(have j:((r.j.A:Int)==0)=false:=by rw[dN];omega);(rw[bne,j];rfl)
 exact cF (!((r.j.A:Int) != 0)) i (rr (λ_=>[(3,.l 0),(4,.l 3),(5,.c [2] [2] (OY b r.q a t Om))]) (λ_=>[(22,.bool false)]) [] (λ_ L=>L.set 2 ((pk (bJ b (r.q++[a]))))) λA=>cF _ rfl (r0 [] [(4,.slice none 0 0)] [4] (cz jn (lf (.l [] [] [.slice none 0 0]) [1,2,4] [(0,0)] []))))
theorem p9(g b c:Nat)(r:Rp)(f:aK r)(a:Ak)(h:ey r.m a):aa WJ 207 #[pt g 0,.agg #[iN a.k,iN a.w]] [pk (ar g b c r)] [0] (λE=>[pk (ar g b c (bn r a)),bh (E.val 0) (bU r a)]) (λE=>E.val 0):=by
 unfold bn bU;cases j:cX r a with
 | true=>exact Pt g b c r f a h j
 | false=>
  rw[ALcf,ALcf];by_cases e:r.j.A=0
  ·rw[e];exact Pu g b c r f a h j e
  ·rw[show(r.j.A==0)=false from dN.2 e,ALcf,ALcf];unfold pZ u7;by_cases d:a∈r.q
   ·rw[ALifp d,ALifp d];exact Pv g b c r f a h j e d
   ·rw[ALifn d,ALifn d];by_cases i:r.q.length=256
    ·rw[ALifp i,ALifp i];exact Pw g b c r f a h j e d i
    ·rw[ALifn i,ALifn i];exact Px g b c r f a h j e d (by have:=f.n;omega)
theorem Py(g a d:Nat)(r:Rp)(e:aK r)(s:r.j.A≠0)(f:r.j.nx<ft r.j.A r.m.B r.m.M r.m.C):aa WJ 84 #[pt g 0] [pk (ar g a d r)] [0] (λ_=>[pk (ar g a d r)]) (λ_=> .tuple #[iN (a7 r.m r.j.A r.j.fr r.j.nx),iN (a7 r.m r.j.A r.j.tg r.j.nx),i6 0]):=aa.pkZ Tryz.func84 λL k=>by
 obtain⟨rfl⟩:=k;refine⟨[1,2],λ_=>[pk (aF a r.m),pk (bJ d r.q)],?_,rfl,λE=>⟨rfl,rfl,rfl⟩⟩;have b:=e.m;have h:=e.j;have o:=e.n;have q:=b.O;have l:=b.ly;have n:=b.np;refine fG Tryz.func84 λw p=>r0 [] [(2,i6 0),(3,i6 0),(4,i6 0)] [] (r0 [(1,.c [0,1,2] [1,2] (mO g a d r))] [(7,.bool (!((r.j.A:Int) != 0)))] [] ?_);have i:(!((r.j.A:Int) != 0))=false:=by(have j:((r.j.A:Int)==0)=false:=by rw[dN];omega);(rw[bne,j];rfl)
 exact cF (!((r.j.A:Int) != 0)) i (r0 [(3,.m (ls 0 ([iN r.j.A,iN r.j.fr,iN r.j.tg,iN r.j.nx]))),(7,.m (ld 0 (pt a 0))),(12,.m (ld 0 (iN r.j.nx))),(13,.c [1] [1] (OM a r.m b r.j h r.j.nx f)),] [(2,iN (a7 r.m r.j.A r.j.fr r.j.nx)),(4,i6 0)] [2,4] (rT [] 26 (r0 [(3,.m (ls 0 ([iN r.j.A,iN r.j.fr,iN r.j.tg,iN r.j.nx]))),(7,.m (ld 0 (pt a 0))),(12,.m (ld 0 (iN r.j.nx))),(13,.c [1] [1] (ON a r.m b r.j h r.j.nx f)),] [(3,iN (a7 r.m r.j.A r.j.tg r.j.nx)),(4,i6 0)] [3,4] (r0 [] [(2,iN (a7 r.m r.j.A r.j.fr r.j.nx)),(3,iN (a7 r.m r.j.A r.j.tg r.j.nx)),(4,i6 0)] [2,3,4] (lf ab.zero [1,2] [(0,0)] [])))))
theorem Pz(g a b:Nat)(r:Rp)(e:aK r)(i:r.j.A=0):aa WJ 84 #[pt g 0] [pk (ar g a b r)] [0] (λ_=>[pk (ar g a b r)]) (λ_=> .tuple #[i6 0,i6 0,i6 51]):=aa.pkZ Tryz.func84 λL h=>by
 obtain⟨rfl⟩:=h;refine⟨[1,2],λ_=>[pk (aF a r.m),pk (bJ b r.q)],?_,rfl,λE=>⟨rfl,rfl,rfl⟩⟩;have d:=e.m;have o:=e.j;have l:=e.n;have n:=d.O;have j:=d.ly;have k:=d.np;refine fG Tryz.func84 λw m=>r0 [] [(2,i6 0),(3,i6 0),(4,i6 0)] [] (r0 [(1,.c [0,1,2] [1,2] (mO g a b r))] [(7,.bool (!((r.j.A:Int) != 0)))] [] ?_);have f:(!((r.j.A:Int) != 0))=true:=by rw[i];rfl
 exact cT (!((r.j.A:Int) != 0)) f (r0 [] [(2,i6 0),(3,i6 0),(4,i6 51)] [2,3,4] (lf ab.zero [1,2] [(0,0)] []))
end
section
open Go.Shelf
theorem PA(g b d:Nat)(m:Mp)(f t x:Nat)(q:List Ak)(J:aK ⟨m,⟨1,f,t,x⟩,q⟩)(z:oc m f t x):aa WJ 212 #[pt g 0] [pk (ar g b d ⟨m,⟨1,f,t,x⟩,q⟩)] [0] (λE=>[pk (ar g b d (cS ⟨m,⟨1,f,t,x⟩,q⟩).1),bh (E.val 0) ((cS ⟨m,⟨1,f,t,x⟩,q⟩).2)]) (λE=>(E.val 0)):=aa.pkW (n:=1) (N:=λE=>[bh (E.val 0) ((cS ⟨m,⟨1,f,t,x⟩,q⟩).2)]) (enters_of Tryz.func212 Kr rfl) λL P=>by
 obtain⟨rfl⟩:=P;refine⟨[0,1,2],λ_=>[ob g #[pt b 0,iN ((cS ⟨m,⟨1,f,t,x⟩,q⟩).1.j.A),iN ((cS ⟨m,⟨1,f,t,x⟩,q⟩).1.j.fr),iN ((cS ⟨m,⟨1,f,t,x⟩,q⟩).1.j.tg),iN ((cS ⟨m,⟨1,f,t,x⟩,q⟩).1.j.nx),pt d 0] 133,pk (aF b (cS ⟨m,⟨1,f,t,x⟩,q⟩).1.m),pk (bJ d (cS ⟨m,⟨1,f,t,x⟩,q⟩).1.q)],?_,rfl,λE=>⟨rfl,rfl,rfl⟩⟩;have U:=J.m;have V:q.length≤256:=J.n;have Q:=va J (show(1:Nat)≠0 by decide);refine fG Tryz.func212 λw W=>r0 [] [(2,.slice none 0 0)] [] (rr (λ_=>[(3,.l 0),(5,.s 3)]) (λu=>[(3,pt (B4 u) 0)]) [] (λu L=>L++[ob (B4 u) #[i6 1,iN f,iN t,iN x] 70]) λu=>rs [(4,.s 0)] 0 (ob g #[pt b 0,i6 0,i6 0,i6 0,i6 0,pt d 0] 133) (rT [(1,.l 3)] 17 (rs [(3,.l 0),(5,.l 3),(7,.l 3),(8,.c [1] [1] (Oo b m U f t z.hf z.t0 z.t1 z.df z.dt z.ne))] 1 ((pk (aF b (jO m f t)))) (rr (λ_=>[(1,.l 3),(3,.l 3),(5,gV jn 4 1 [(⟨6,f,t⟩:Ev)])]) (λD=>[(4,.slice (some ⟨(D 5).y 0,0,none⟩) 1 1)]) [] (λD L=>L++[bh (.slice (some ⟨(D 5).y 0,0,none⟩) 1 1) ([(⟨6,f,t⟩:Ev)])]) λD=>?_))));refine mw (λk _=>k≤q.length∧(eC q.length (af ⟨m,⟨1,f,t,x⟩,q⟩)=eC (q.length-k) (ah (af ⟨m,⟨1,f,t,x⟩,q⟩) k))) (λ_ a=>[(4,a)]) (λk a L=>(((L.set 0 (ob g #[pt b 0,iN ((ah (af ⟨m,⟨1,f,t,x⟩,q⟩) k).1.j.A),iN ((ah (af ⟨m,⟨1,f,t,x⟩,q⟩) k).1.j.fr),iN ((ah (af ⟨m,⟨1,f,t,x⟩,q⟩) k).1.j.tg),iN ((ah (af ⟨m,⟨1,f,t,x⟩,q⟩) k).1.j.nx),pt d 0] 133)).set 1 ((pk (aF b (ah (af ⟨m,⟨1,f,t,x⟩,q⟩) k).1.m)))).set 2 ((pk (bJ d (ah (af ⟨m,⟨1,f,t,x⟩,q⟩) k).1.q)))).set 4 (bh a ((ah (af ⟨m,⟨1,f,t,x⟩,q⟩) k).2))) (λk _=>q.length-k) 0 (.slice (some ⟨(D 5).y 0,0,none⟩) 1 1) ⟨by omega,rfl⟩ Kr Kr (λk a ⟨T,K⟩=>?_);have M:aK (ah (af ⟨m,⟨1,f,t,x⟩,q⟩) k).1:=yG Q k (show k≤q.length by omega);have R:=yF (af ⟨m,⟨1,f,t,x⟩,q⟩) k;have O:(af ⟨m,⟨1,f,t,x⟩,q⟩).2.length=1:=rfl;have S:(ah (af ⟨m,⟨1,f,t,x⟩,q⟩) k).1.q.length=q.length-k:=vf (af ⟨m,⟨1,f,t,x⟩,q⟩) k;refine rr (λ_=>[(1,.c [0,1,2] [1,2] (mO g b d ((ah (af ⟨m,⟨1,f,t,x⟩,q⟩) k).1)))]) (λ_=>[(44,.bool (!((((ah (af ⟨m,⟨1,f,t,x⟩,q⟩) k).1).j.A:Int) != 0)))]) [] (λ_ L=>(L.set 1 ((pk (aF b ((ah (af ⟨m,⟨1,f,t,x⟩,q⟩) k).1).m)))).set 2 ((pk (bJ d ((ah (af ⟨m,⟨1,f,t,x⟩,q⟩) k).1).q)))) λX=>?_;refine cB (!((((ah (af ⟨m,⟨1,f,t,x⟩,q⟩) k).1).j.A:Int) != 0)) (λH=>?_) λH=>?_
 ·have v:(ah (af ⟨m,⟨1,f,t,x⟩,q⟩) k).1.j.A=0:=by simpa using H
  refine rr (λ_=>[(3,.l 0),(4,.c [2] [2] (DQ d (((ah (af ⟨m,⟨1,f,t,x⟩,q⟩) k).1).q))),(9,.s 5)]) (λi=>[(5,pt ((i 8).y 0) 0),(6,i6 (lY (((ah (af ⟨m,⟨1,f,t,x⟩,q⟩) k).1).q)))]) [] (λi L=>L.set 2 ((pk (bJ d (((ah (af ⟨m,⟨1,f,t,x⟩,q⟩) k).1).q).tail)))++[ob ((i 8).y 0) #[iN (((((ah (af ⟨m,⟨1,f,t,x⟩,q⟩) k).1).q).headD aJ).k),iN (((((ah (af ⟨m,⟨1,f,t,x⟩,q⟩) k).1).q).headD aJ).w)] 285]) λi=>r0 [] [(54,.bool ((lY (((ah (af ⟨m,⟨1,f,t,x⟩,q⟩) k).1).q)) != 0))] [] ?_;refine m9 (lY (((ah (af ⟨m,⟨1,f,t,x⟩,q⟩) k).1).q)) 0 (λF o=>?_) λF o=>?_
  ·refine kR ?_;have r:((ah (af ⟨m,⟨1,f,t,x⟩,q⟩) k).1.j.A≠0)∨(ah (af ⟨m,⟨1,f,t,x⟩,q⟩) k).1.q.length=0:=by(right;have y:=o;unfold lY at y;split at y<;>first | assumption | exact absurd rfl y)
   have p:cS ⟨m,⟨1,f,t,x⟩,q⟩=(ah (af ⟨m,⟨1,f,t,x⟩,q⟩) k):=by show eC q.length (af ⟨m,⟨1,f,t,x⟩,q⟩)=_;rw[K];rcases r with h | h;exact vh h _;rw[show q.length-k=0 by omega];rfl
   exact cl [ob g #[pt b 0,iN ((ah (af ⟨m,⟨1,f,t,x⟩,q⟩) k).1.j.A),iN ((ah (af ⟨m,⟨1,f,t,x⟩,q⟩) k).1.j.fr),iN ((ah (af ⟨m,⟨1,f,t,x⟩,q⟩) k).1.j.tg),iN ((ah (af ⟨m,⟨1,f,t,x⟩,q⟩) k).1.j.nx),pt d 0] 133,pk (aF b ((ah (af ⟨m,⟨1,f,t,x⟩,q⟩) k).1).m),pk (bJ d (ah (af ⟨m,⟨1,f,t,x⟩,q⟩) k).1.q),ob (B4 u) #[i6 1,iN f,iN t,iN x] 70,bh a ((ah (af ⟨m,⟨1,f,t,x⟩,q⟩) k).2),ob ((i 8).y 0) #[iN (((((ah (af ⟨m,⟨1,f,t,x⟩,q⟩) k).1).q).headD aJ).k),iN (((((ah (af ⟨m,⟨1,f,t,x⟩,q⟩) k).1).q).headD aJ).w)] 285] (by(try rw[show(ah (af ⟨m,⟨1,f,t,x⟩,q⟩) k).1.q.tail=(ah (af ⟨m,⟨1,f,t,x⟩,q⟩) k).1.q from vg (r.resolve_left (λh=>h v))]);kernel_rfl) (r0 [] [(2,a)] [2] (lf (.l [] [] [a]) [0,1,2,4] [] [] (hf:=by rw[p];kernel_rfl)))
  have I:0<(ah (af ⟨m,⟨1,f,t,x⟩,q⟩) k).1.q.length:=by have y:=o;unfold lY at y;split at y<;>omega
  have C:=DW (s:=(af ⟨m,⟨1,f,t,x⟩,q⟩)) (k:=k) (by show k<q.length;omega) K v;have A:=vc M;have B:ey (aY (ah (af ⟨m,⟨1,f,t,x⟩,q⟩) k).1).m ((ah (af ⟨m,⟨1,f,t,x⟩,q⟩) k).1.q.headD aJ):=⟨(sj M I).k⟩;refine cl [ob g #[pt b 0,iN ((aY (ah (af ⟨m,⟨1,f,t,x⟩,q⟩) k).1).j.A),iN ((aY (ah (af ⟨m,⟨1,f,t,x⟩,q⟩) k).1).j.fr),iN ((aY (ah (af ⟨m,⟨1,f,t,x⟩,q⟩) k).1).j.tg),iN ((aY (ah (af ⟨m,⟨1,f,t,x⟩,q⟩) k).1).j.nx),pt d 0] 133,pk (aF b ((ah (af ⟨m,⟨1,f,t,x⟩,q⟩) k).1).m),pk (bJ d (((ah (af ⟨m,⟨1,f,t,x⟩,q⟩) k).1).q).tail),ob (B4 u) #[i6 1,iN f,iN t,iN x] 70,bh a ((ah (af ⟨m,⟨1,f,t,x⟩,q⟩) k).2),ob ((i 8).y 0) #[iN (((((ah (af ⟨m,⟨1,f,t,x⟩,q⟩) k).1).q).headD aJ).k),iN (((((ah (af ⟨m,⟨1,f,t,x⟩,q⟩) k).1).q).headD aJ).w)] 285] (by skip;kernel_rfl) (cl [ob g #[pt b 0,iN ((aY (ah (af ⟨m,⟨1,f,t,x⟩,q⟩) k).1).j.A),iN ((aY (ah (af ⟨m,⟨1,f,t,x⟩,q⟩) k).1).j.fr),iN ((aY (ah (af ⟨m,⟨1,f,t,x⟩,q⟩) k).1).j.tg),iN ((aY (ah (af ⟨m,⟨1,f,t,x⟩,q⟩) k).1).j.nx),pt d 0] 133,pk (aF b (aY (ah (af ⟨m,⟨1,f,t,x⟩,q⟩) k).1).m),pk (bJ d (((ah (af ⟨m,⟨1,f,t,x⟩,q⟩) k).1).q).tail),ob (B4 u) #[i6 1,iN f,iN t,iN x] 70,bh a ((ah (af ⟨m,⟨1,f,t,x⟩,q⟩) k).2),ob ((i 8).y 0) #[iN (((((ah (af ⟨m,⟨1,f,t,x⟩,q⟩) k).1).q).headD aJ).k),iN (((((ah (af ⟨m,⟨1,f,t,x⟩,q⟩) k).1).q).headD aJ).w)] 285] (by skip;kernel_rfl) (cl [ob g #[pt b 0,iN ((aY (ah (af ⟨m,⟨1,f,t,x⟩,q⟩) k).1).j.A),iN ((aY (ah (af ⟨m,⟨1,f,t,x⟩,q⟩) k).1).j.fr),iN ((aY (ah (af ⟨m,⟨1,f,t,x⟩,q⟩) k).1).j.tg),iN ((aY (ah (af ⟨m,⟨1,f,t,x⟩,q⟩) k).1).j.nx),pt d 0] 133,pk (aF b (aY (ah (af ⟨m,⟨1,f,t,x⟩,q⟩) k).1).m),pk (bJ d (aY (ah (af ⟨m,⟨1,f,t,x⟩,q⟩) k).1).q),ob (B4 u) #[i6 1,iN f,iN t,iN x] 70,bh a ((ah (af ⟨m,⟨1,f,t,x⟩,q⟩) k).2),ob ((i 8).y 0) #[iN (((((ah (af ⟨m,⟨1,f,t,x⟩,q⟩) k).1).q).headD aJ).k),iN (((((ah (af ⟨m,⟨1,f,t,x⟩,q⟩) k).1).q).headD aJ).w)] 285] (by skip;kernel_rfl) (r0 [(1,.l 5),(2,.c [0,1,2] [0,1,2] (o5 g b d (aY (ah (af ⟨m,⟨1,f,t,x⟩,q⟩) k).1) A ((((ah (af ⟨m,⟨1,f,t,x⟩,q⟩) k).1).q).headD aJ) B))] [(58,.bool (!(cX (aY (ah (af ⟨m,⟨1,f,t,x⟩,q⟩) k).1) ((((ah (af ⟨m,⟨1,f,t,x⟩,q⟩) k).1).q).headD aJ))))] [] ?_)));refine cB (!(cX (aY (ah (af ⟨m,⟨1,f,t,x⟩,q⟩) k).1) ((((ah (af ⟨m,⟨1,f,t,x⟩,q⟩) k).1).q).headD aJ))) (λG=>?_) λG=>?_
  ·exact rr (λe=>[(2,.l 5),(3,.c [0,1,2] [0,1,2,6] (yJ g b d (aY (ah (af ⟨m,⟨1,f,t,x⟩,q⟩) k).1) A ((((ah (af ⟨m,⟨1,f,t,x⟩,q⟩) k).1).q).headD aJ) B)),(4,.m (mo 4 6 jn.hT (a) ((e 3).val 0) (xs:=(ah (af ⟨m,⟨1,f,t,x⟩,q⟩) k).2) (ys:=fM (aY (ah (af ⟨m,⟨1,f,t,x⟩,q⟩) k).1) ((((ah (af ⟨m,⟨1,f,t,x⟩,q⟩) k).1).q).headD aJ)) (bh ((e 3).val 0) (fM (aY (ah (af ⟨m,⟨1,f,t,x⟩,q⟩) k).1) ((((ah (af ⟨m,⟨1,f,t,x⟩,q⟩) k).1).q).headD aJ))) (λ_ h=>aq.src ((λ_ h=>h) _ h)) jn.one jn.lz (by simp only[LL,ve];omega)))]) (λe=>[(4,(e 4).val 0)]) [4] (λe L=>(((L.set 0 (ob g #[pt b 0,iN ((c6 (aY (ah (af ⟨m,⟨1,f,t,x⟩,q⟩) k).1) ((((ah (af ⟨m,⟨1,f,t,x⟩,q⟩) k).1).q).headD aJ)).j.A),iN ((c6 (aY (ah (af ⟨m,⟨1,f,t,x⟩,q⟩) k).1) ((((ah (af ⟨m,⟨1,f,t,x⟩,q⟩) k).1).q).headD aJ)).j.fr),iN ((c6 (aY (ah (af ⟨m,⟨1,f,t,x⟩,q⟩) k).1) ((((ah (af ⟨m,⟨1,f,t,x⟩,q⟩) k).1).q).headD aJ)).j.tg),iN ((c6 (aY (ah (af ⟨m,⟨1,f,t,x⟩,q⟩) k).1) ((((ah (af ⟨m,⟨1,f,t,x⟩,q⟩) k).1).q).headD aJ)).j.nx),pt d 0] 133)).set 1 ((pk (aF b (c6 (aY (ah (af ⟨m,⟨1,f,t,x⟩,q⟩) k).1) ((((ah (af ⟨m,⟨1,f,t,x⟩,q⟩) k).1).q).headD aJ)).m)))).set 2 ((pk (bJ d (c6 (aY (ah (af ⟨m,⟨1,f,t,x⟩,q⟩) k).1) ((((ah (af ⟨m,⟨1,f,t,x⟩,q⟩) k).1).q).headD aJ)).q)))).set 4 (bh ((e 4).val 0) (((ah (af ⟨m,⟨1,f,t,x⟩,q⟩) k).2)++(fM (aY (ah (af ⟨m,⟨1,f,t,x⟩,q⟩) k).1) ((((ah (af ⟨m,⟨1,f,t,x⟩,q⟩) k).1).q).headD aJ))))++[bh ((e 3).val 0) (fM (aY (ah (af ⟨m,⟨1,f,t,x⟩,q⟩) k).1) ((((ah (af ⟨m,⟨1,f,t,x⟩,q⟩) k).1).q).headD aJ))]) λe=>kQ (k+1) ((e 4).val 0) ⟨by omega,C⟩ Om Kr [0,1,2,3,4] (by(rw[DV (s:=(af ⟨m,⟨1,f,t,x⟩,q⟩)) (k:=k) (by simpa using ‹(!cX (aY (ah (af ⟨m,⟨1,f,t,x⟩,q⟩) k).1) ((ah (af ⟨m,⟨1,f,t,x⟩,q⟩) k).1.q.headD aJ))=true›)]);kernel_rfl)
  exact kQ (k+1) a ⟨by omega,C⟩ Om Kr [0,1,2,3,4] (by(rw[DU (s:=(af ⟨m,⟨1,f,t,x⟩,q⟩)) (k:=k) (by simpa using ‹(!cX (aY (ah (af ⟨m,⟨1,f,t,x⟩,q⟩) k).1) ((ah (af ⟨m,⟨1,f,t,x⟩,q⟩) k).1.q.headD aJ))=false›)]);kernel_rfl)
 refine kR ?_;have r:((ah (af ⟨m,⟨1,f,t,x⟩,q⟩) k).1.j.A≠0)∨(ah (af ⟨m,⟨1,f,t,x⟩,q⟩) k).1.q.length=0:=by(left;simpa using H)
 have p:cS ⟨m,⟨1,f,t,x⟩,q⟩=(ah (af ⟨m,⟨1,f,t,x⟩,q⟩) k):=by show eC q.length (af ⟨m,⟨1,f,t,x⟩,q⟩)=_;rw[K];rcases r with h | h;exact vh h _;rw[show q.length-k=0 by omega];rfl
 exact cl [ob g #[pt b 0,iN ((ah (af ⟨m,⟨1,f,t,x⟩,q⟩) k).1.j.A),iN ((ah (af ⟨m,⟨1,f,t,x⟩,q⟩) k).1.j.fr),iN ((ah (af ⟨m,⟨1,f,t,x⟩,q⟩) k).1.j.tg),iN ((ah (af ⟨m,⟨1,f,t,x⟩,q⟩) k).1.j.nx),pt d 0] 133,pk (aF b ((ah (af ⟨m,⟨1,f,t,x⟩,q⟩) k).1).m),pk (bJ d (ah (af ⟨m,⟨1,f,t,x⟩,q⟩) k).1.q),ob (B4 u) #[i6 1,iN f,iN t,iN x] 70,bh a ((ah (af ⟨m,⟨1,f,t,x⟩,q⟩) k).2)] (by(try rw[show(ah (af ⟨m,⟨1,f,t,x⟩,q⟩) k).1.q.tail=(ah (af ⟨m,⟨1,f,t,x⟩,q⟩) k).1.q from vg (r.resolve_left (λh=>h v))]);kernel_rfl) (r0 [] [(2,a)] [2] (lf (.l [] [] [a]) [0,1,2,4] [] [] (hf:=by rw[p];kernel_rfl)))
theorem PB(g b d:Nat)(m:Mp)(f t x:Nat)(q:List Ak)(J:aK ⟨m,⟨2,f,t,x⟩,q⟩)(D:od m f t x):aa WJ 212 #[pt g 0] [pk (ar g b d ⟨m,⟨2,f,t,x⟩,q⟩)] [0] (λE=>[pk (ar g b d (cS ⟨m,⟨2,f,t,x⟩,q⟩).1),bh (E.val 0) ((cS ⟨m,⟨2,f,t,x⟩,q⟩).2)]) (λE=>(E.val 0)):=aa.pkW (n:=1) (N:=λE=>[bh (E.val 0) ((cS ⟨m,⟨2,f,t,x⟩,q⟩).2)]) (enters_of Tryz.func212 Kr rfl) λL P=>by
 obtain⟨rfl⟩:=P;refine⟨[0,1,2],λ_=>[ob g #[pt b 0,iN ((cS ⟨m,⟨2,f,t,x⟩,q⟩).1.j.A),iN ((cS ⟨m,⟨2,f,t,x⟩,q⟩).1.j.fr),iN ((cS ⟨m,⟨2,f,t,x⟩,q⟩).1.j.tg),iN ((cS ⟨m,⟨2,f,t,x⟩,q⟩).1.j.nx),pt d 0] 133,pk (aF b (cS ⟨m,⟨2,f,t,x⟩,q⟩).1.m),pk (bJ d (cS ⟨m,⟨2,f,t,x⟩,q⟩).1.q)],?_,rfl,λE=>⟨rfl,rfl,rfl⟩⟩;have U:=J.m;have V:q.length≤256:=J.n;have Q:=va J (show(2:Nat)≠0 by decide);refine fG Tryz.func212 λw W=>r0 [] [(2,.slice none 0 0)] [] (rr (λ_=>[(3,.l 0),(5,.s 3)]) (λu=>[(3,pt (B4 u) 0)]) [] (λu L=>L++[ob (B4 u) #[i6 2,iN f,iN t,iN x] 70]) λu=>rs [(4,.s 0)] 0 (ob g #[pt b 0,i6 0,i6 0,i6 0,i6 0,pt d 0] 133) (rF [(1,.l 3)] 17 (rs [(3,.l 0),(5,.l 3),(7,.l 3),(8,.c [1] [1] (Oq b m U f t D.hf D.t0 D.t1 D.hs))] 1 ((pk (aF b (fy m f t)))) (rr (λ_=>[(1,.l 3),(3,.l 3),(5,gV jn 4 1 [(⟨6,f,t⟩:Ev)])]) (λC=>[(4,.slice (some ⟨(C 5).y 0,0,none⟩) 1 1)]) [] (λC L=>L++[bh (.slice (some ⟨(C 5).y 0,0,none⟩) 1 1) ([(⟨6,f,t⟩:Ev)])]) λC=>?_))));refine mw (λk _=>k≤q.length∧(eC q.length (af ⟨m,⟨2,f,t,x⟩,q⟩)=eC (q.length-k) (ah (af ⟨m,⟨2,f,t,x⟩,q⟩) k))) (λ_ a=>[(4,a)]) (λk a L=>(((L.set 0 (ob g #[pt b 0,iN ((ah (af ⟨m,⟨2,f,t,x⟩,q⟩) k).1.j.A),iN ((ah (af ⟨m,⟨2,f,t,x⟩,q⟩) k).1.j.fr),iN ((ah (af ⟨m,⟨2,f,t,x⟩,q⟩) k).1.j.tg),iN ((ah (af ⟨m,⟨2,f,t,x⟩,q⟩) k).1.j.nx),pt d 0] 133)).set 1 ((pk (aF b (ah (af ⟨m,⟨2,f,t,x⟩,q⟩) k).1.m)))).set 2 ((pk (bJ d (ah (af ⟨m,⟨2,f,t,x⟩,q⟩) k).1.q)))).set 4 (bh a ((ah (af ⟨m,⟨2,f,t,x⟩,q⟩) k).2))) (λk _=>q.length-k) 0 (.slice (some ⟨(C 5).y 0,0,none⟩) 1 1) ⟨by omega,rfl⟩ Kr Kr (λk a ⟨T,K⟩=>?_);have M:aK (ah (af ⟨m,⟨2,f,t,x⟩,q⟩) k).1:=yG Q k (show k≤q.length by omega);have R:=yF (af ⟨m,⟨2,f,t,x⟩,q⟩) k;have O:(af ⟨m,⟨2,f,t,x⟩,q⟩).2.length=1:=rfl;have S:(ah (af ⟨m,⟨2,f,t,x⟩,q⟩) k).1.q.length=q.length-k:=vf (af ⟨m,⟨2,f,t,x⟩,q⟩) k;refine rr (λ_=>[(1,.c [0,1,2] [1,2] (mO g b d ((ah (af ⟨m,⟨2,f,t,x⟩,q⟩) k).1)))]) (λ_=>[(44,.bool (!((((ah (af ⟨m,⟨2,f,t,x⟩,q⟩) k).1).j.A:Int) != 0)))]) [] (λ_ L=>(L.set 1 ((pk (aF b ((ah (af ⟨m,⟨2,f,t,x⟩,q⟩) k).1).m)))).set 2 ((pk (bJ d ((ah (af ⟨m,⟨2,f,t,x⟩,q⟩) k).1).q)))) λX=>?_;refine cB (!((((ah (af ⟨m,⟨2,f,t,x⟩,q⟩) k).1).j.A:Int) != 0)) (λH=>?_) λH=>?_
 ·have v:(ah (af ⟨m,⟨2,f,t,x⟩,q⟩) k).1.j.A=0:=by simpa using H
  refine rr (λ_=>[(3,.l 0),(4,.c [2] [2] (DQ d (((ah (af ⟨m,⟨2,f,t,x⟩,q⟩) k).1).q))),(9,.s 5)]) (λi=>[(5,pt ((i 8).y 0) 0),(6,i6 (lY (((ah (af ⟨m,⟨2,f,t,x⟩,q⟩) k).1).q)))]) [] (λi L=>L.set 2 ((pk (bJ d (((ah (af ⟨m,⟨2,f,t,x⟩,q⟩) k).1).q).tail)))++[ob ((i 8).y 0) #[iN (((((ah (af ⟨m,⟨2,f,t,x⟩,q⟩) k).1).q).headD aJ).k),iN (((((ah (af ⟨m,⟨2,f,t,x⟩,q⟩) k).1).q).headD aJ).w)] 285]) λi=>r0 [] [(54,.bool ((lY (((ah (af ⟨m,⟨2,f,t,x⟩,q⟩) k).1).q)) != 0))] [] ?_;refine m9 (lY (((ah (af ⟨m,⟨2,f,t,x⟩,q⟩) k).1).q)) 0 (λF o=>?_) λF o=>?_
  ·refine kR ?_;have r:((ah (af ⟨m,⟨2,f,t,x⟩,q⟩) k).1.j.A≠0)∨(ah (af ⟨m,⟨2,f,t,x⟩,q⟩) k).1.q.length=0:=by(right;have y:=o;unfold lY at y;split at y<;>first | assumption | exact absurd rfl y)
   have p:cS ⟨m,⟨2,f,t,x⟩,q⟩=(ah (af ⟨m,⟨2,f,t,x⟩,q⟩) k):=by show eC q.length (af ⟨m,⟨2,f,t,x⟩,q⟩)=_;rw[K];rcases r with h | h;exact vh h _;rw[show q.length-k=0 by omega];rfl
   exact cl [ob g #[pt b 0,iN ((ah (af ⟨m,⟨2,f,t,x⟩,q⟩) k).1.j.A),iN ((ah (af ⟨m,⟨2,f,t,x⟩,q⟩) k).1.j.fr),iN ((ah (af ⟨m,⟨2,f,t,x⟩,q⟩) k).1.j.tg),iN ((ah (af ⟨m,⟨2,f,t,x⟩,q⟩) k).1.j.nx),pt d 0] 133,pk (aF b ((ah (af ⟨m,⟨2,f,t,x⟩,q⟩) k).1).m),pk (bJ d (ah (af ⟨m,⟨2,f,t,x⟩,q⟩) k).1.q),ob (B4 u) #[i6 2,iN f,iN t,iN x] 70,bh a ((ah (af ⟨m,⟨2,f,t,x⟩,q⟩) k).2),ob ((i 8).y 0) #[iN (((((ah (af ⟨m,⟨2,f,t,x⟩,q⟩) k).1).q).headD aJ).k),iN (((((ah (af ⟨m,⟨2,f,t,x⟩,q⟩) k).1).q).headD aJ).w)] 285] (by(try rw[show(ah (af ⟨m,⟨2,f,t,x⟩,q⟩) k).1.q.tail=(ah (af ⟨m,⟨2,f,t,x⟩,q⟩) k).1.q from vg (r.resolve_left (λh=>h v))]);kernel_rfl) (r0 [] [(2,a)] [2] (lf (.l [] [] [a]) [0,1,2,4] [] [] (hf:=by rw[p];kernel_rfl)))
  have I:0<(ah (af ⟨m,⟨2,f,t,x⟩,q⟩) k).1.q.length:=by have y:=o;unfold lY at y;split at y<;>omega
  have B:=DW (s:=(af ⟨m,⟨2,f,t,x⟩,q⟩)) (k:=k) (by show k<q.length;omega) K v;have z:=vc M;have A:ey (aY (ah (af ⟨m,⟨2,f,t,x⟩,q⟩) k).1).m ((ah (af ⟨m,⟨2,f,t,x⟩,q⟩) k).1.q.headD aJ):=⟨(sj M I).k⟩;refine cl [ob g #[pt b 0,iN ((aY (ah (af ⟨m,⟨2,f,t,x⟩,q⟩) k).1).j.A),iN ((aY (ah (af ⟨m,⟨2,f,t,x⟩,q⟩) k).1).j.fr),iN ((aY (ah (af ⟨m,⟨2,f,t,x⟩,q⟩) k).1).j.tg),iN ((aY (ah (af ⟨m,⟨2,f,t,x⟩,q⟩) k).1).j.nx),pt d 0] 133,pk (aF b ((ah (af ⟨m,⟨2,f,t,x⟩,q⟩) k).1).m),pk (bJ d (((ah (af ⟨m,⟨2,f,t,x⟩,q⟩) k).1).q).tail),ob (B4 u) #[i6 2,iN f,iN t,iN x] 70,bh a ((ah (af ⟨m,⟨2,f,t,x⟩,q⟩) k).2),ob ((i 8).y 0) #[iN (((((ah (af ⟨m,⟨2,f,t,x⟩,q⟩) k).1).q).headD aJ).k),iN (((((ah (af ⟨m,⟨2,f,t,x⟩,q⟩) k).1).q).headD aJ).w)] 285] (by skip;kernel_rfl) (cl [ob g #[pt b 0,iN ((aY (ah (af ⟨m,⟨2,f,t,x⟩,q⟩) k).1).j.A),iN ((aY (ah (af ⟨m,⟨2,f,t,x⟩,q⟩) k).1).j.fr),iN ((aY (ah (af ⟨m,⟨2,f,t,x⟩,q⟩) k).1).j.tg),iN ((aY (ah (af ⟨m,⟨2,f,t,x⟩,q⟩) k).1).j.nx),pt d 0] 133,pk (aF b (aY (ah (af ⟨m,⟨2,f,t,x⟩,q⟩) k).1).m),pk (bJ d (((ah (af ⟨m,⟨2,f,t,x⟩,q⟩) k).1).q).tail),ob (B4 u) #[i6 2,iN f,iN t,iN x] 70,bh a ((ah (af ⟨m,⟨2,f,t,x⟩,q⟩) k).2),ob ((i 8).y 0) #[iN (((((ah (af ⟨m,⟨2,f,t,x⟩,q⟩) k).1).q).headD aJ).k),iN (((((ah (af ⟨m,⟨2,f,t,x⟩,q⟩) k).1).q).headD aJ).w)] 285] (by skip;kernel_rfl) (cl [ob g #[pt b 0,iN ((aY (ah (af ⟨m,⟨2,f,t,x⟩,q⟩) k).1).j.A),iN ((aY (ah (af ⟨m,⟨2,f,t,x⟩,q⟩) k).1).j.fr),iN ((aY (ah (af ⟨m,⟨2,f,t,x⟩,q⟩) k).1).j.tg),iN ((aY (ah (af ⟨m,⟨2,f,t,x⟩,q⟩) k).1).j.nx),pt d 0] 133,pk (aF b (aY (ah (af ⟨m,⟨2,f,t,x⟩,q⟩) k).1).m),pk (bJ d (aY (ah (af ⟨m,⟨2,f,t,x⟩,q⟩) k).1).q),ob (B4 u) #[i6 2,iN f,iN t,iN x] 70,bh a ((ah (af ⟨m,⟨2,f,t,x⟩,q⟩) k).2),ob ((i 8).y 0) #[iN (((((ah (af ⟨m,⟨2,f,t,x⟩,q⟩) k).1).q).headD aJ).k),iN (((((ah (af ⟨m,⟨2,f,t,x⟩,q⟩) k).1).q).headD aJ).w)] 285] (by skip;kernel_rfl) (r0 [(1,.l 5),(2,.c [0,1,2] [0,1,2] (o5 g b d (aY (ah (af ⟨m,⟨2,f,t,x⟩,q⟩) k).1) z ((((ah (af ⟨m,⟨2,f,t,x⟩,q⟩) k).1).q).headD aJ) A))] [(58,.bool (!(cX (aY (ah (af ⟨m,⟨2,f,t,x⟩,q⟩) k).1) ((((ah (af ⟨m,⟨2,f,t,x⟩,q⟩) k).1).q).headD aJ))))] [] ?_)));refine cB (!(cX (aY (ah (af ⟨m,⟨2,f,t,x⟩,q⟩) k).1) ((((ah (af ⟨m,⟨2,f,t,x⟩,q⟩) k).1).q).headD aJ))) (λG=>?_) λG=>?_
  ·exact rr (λe=>[(2,.l 5),(3,.c [0,1,2] [0,1,2,6] (yJ g b d (aY (ah (af ⟨m,⟨2,f,t,x⟩,q⟩) k).1) z ((((ah (af ⟨m,⟨2,f,t,x⟩,q⟩) k).1).q).headD aJ) A)),(4,.m (mo 4 6 jn.hT (a) ((e 3).val 0) (xs:=(ah (af ⟨m,⟨2,f,t,x⟩,q⟩) k).2) (ys:=fM (aY (ah (af ⟨m,⟨2,f,t,x⟩,q⟩) k).1) ((((ah (af ⟨m,⟨2,f,t,x⟩,q⟩) k).1).q).headD aJ)) (bh ((e 3).val 0) (fM (aY (ah (af ⟨m,⟨2,f,t,x⟩,q⟩) k).1) ((((ah (af ⟨m,⟨2,f,t,x⟩,q⟩) k).1).q).headD aJ))) (λ_ h=>aq.src ((λ_ h=>h) _ h)) jn.one jn.lz (by simp only[LL,ve];omega)))]) (λe=>[(4,(e 4).val 0)]) [4] (λe L=>(((L.set 0 (ob g #[pt b 0,iN ((c6 (aY (ah (af ⟨m,⟨2,f,t,x⟩,q⟩) k).1) ((((ah (af ⟨m,⟨2,f,t,x⟩,q⟩) k).1).q).headD aJ)).j.A),iN ((c6 (aY (ah (af ⟨m,⟨2,f,t,x⟩,q⟩) k).1) ((((ah (af ⟨m,⟨2,f,t,x⟩,q⟩) k).1).q).headD aJ)).j.fr),iN ((c6 (aY (ah (af ⟨m,⟨2,f,t,x⟩,q⟩) k).1) ((((ah (af ⟨m,⟨2,f,t,x⟩,q⟩) k).1).q).headD aJ)).j.tg),iN ((c6 (aY (ah (af ⟨m,⟨2,f,t,x⟩,q⟩) k).1) ((((ah (af ⟨m,⟨2,f,t,x⟩,q⟩) k).1).q).headD aJ)).j.nx),pt d 0] 133)).set 1 ((pk (aF b (c6 (aY (ah (af ⟨m,⟨2,f,t,x⟩,q⟩) k).1) ((((ah (af ⟨m,⟨2,f,t,x⟩,q⟩) k).1).q).headD aJ)).m)))).set 2 ((pk (bJ d (c6 (aY (ah (af ⟨m,⟨2,f,t,x⟩,q⟩) k).1) ((((ah (af ⟨m,⟨2,f,t,x⟩,q⟩) k).1).q).headD aJ)).q)))).set 4 (bh ((e 4).val 0) (((ah (af ⟨m,⟨2,f,t,x⟩,q⟩) k).2)++(fM (aY (ah (af ⟨m,⟨2,f,t,x⟩,q⟩) k).1) ((((ah (af ⟨m,⟨2,f,t,x⟩,q⟩) k).1).q).headD aJ))))++[bh ((e 3).val 0) (fM (aY (ah (af ⟨m,⟨2,f,t,x⟩,q⟩) k).1) ((((ah (af ⟨m,⟨2,f,t,x⟩,q⟩) k).1).q).headD aJ))]) λe=>kQ (k+1) ((e 4).val 0) ⟨by omega,B⟩ Om Kr [0,1,2,3,4] (by(rw[DV (s:=(af ⟨m,⟨2,f,t,x⟩,q⟩)) (k:=k) (by simpa using ‹(!cX (aY (ah (af ⟨m,⟨2,f,t,x⟩,q⟩) k).1) ((ah (af ⟨m,⟨2,f,t,x⟩,q⟩) k).1.q.headD aJ))=true›)]);kernel_rfl)
  exact kQ (k+1) a ⟨by omega,B⟩ Om Kr [0,1,2,3,4] (by(rw[DU (s:=(af ⟨m,⟨2,f,t,x⟩,q⟩)) (k:=k) (by simpa using ‹(!cX (aY (ah (af ⟨m,⟨2,f,t,x⟩,q⟩) k).1) ((ah (af ⟨m,⟨2,f,t,x⟩,q⟩) k).1.q.headD aJ))=false›)]);kernel_rfl)
 refine kR ?_;have r:((ah (af ⟨m,⟨2,f,t,x⟩,q⟩) k).1.j.A≠0)∨(ah (af ⟨m,⟨2,f,t,x⟩,q⟩) k).1.q.length=0:=by(left;simpa using H)
 have p:cS ⟨m,⟨2,f,t,x⟩,q⟩=(ah (af ⟨m,⟨2,f,t,x⟩,q⟩) k):=by show eC q.length (af ⟨m,⟨2,f,t,x⟩,q⟩)=_;rw[K];rcases r with h | h;exact vh h _;rw[show q.length-k=0 by omega];rfl
 exact cl [ob g #[pt b 0,iN ((ah (af ⟨m,⟨2,f,t,x⟩,q⟩) k).1.j.A),iN ((ah (af ⟨m,⟨2,f,t,x⟩,q⟩) k).1.j.fr),iN ((ah (af ⟨m,⟨2,f,t,x⟩,q⟩) k).1.j.tg),iN ((ah (af ⟨m,⟨2,f,t,x⟩,q⟩) k).1.j.nx),pt d 0] 133,pk (aF b ((ah (af ⟨m,⟨2,f,t,x⟩,q⟩) k).1).m),pk (bJ d (ah (af ⟨m,⟨2,f,t,x⟩,q⟩) k).1.q),ob (B4 u) #[i6 2,iN f,iN t,iN x] 70,bh a ((ah (af ⟨m,⟨2,f,t,x⟩,q⟩) k).2)] (by(try rw[show(ah (af ⟨m,⟨2,f,t,x⟩,q⟩) k).1.q.tail=(ah (af ⟨m,⟨2,f,t,x⟩,q⟩) k).1.q from vg (r.resolve_left (λh=>h v))]);kernel_rfl) (r0 [] [(2,a)] [2] (lf (.l [] [] [a]) [0,1,2,4] [] [] (hf:=by rw[p];kernel_rfl)))
theorem PC(g a b:Nat)(r:Rp)(d:aK r)(e:r.j.A≠0):aa WJ 212 #[pt g 0] [pk (ar g a b r)] [0] (λE=>[pk (ar g a b (cS r).1),bh (E.val 0) (cS r).2]) (λE=>E.val 0):=by
 obtain⟨m,⟨i,f,t,x⟩,q⟩:=r;rcases d.j.k with h | ⟨c,h⟩ | ⟨c,h⟩
 ·cases h;exact absurd rfl e
 ·cases c;exact PA g a b m f t x q d h
 ·cases c;exact PB g a b m f t x q d h
theorem PD(g a b:Nat)(r:Rp)(d:aK r)(c:r.j.A≠0):aa WJ 212 #[pt g 0] (p8 g a b r) [0,1,2] (λE=>p8 g a b (cS r).1++[bh (E.val 0) (cS r).2]) (λE=>E.val 0):=(PC g a b r d c).unpk (N:=λE=>[bh (E.val 0) (cS r).2])
theorem bz{r:Rp}(a:r.j.A≠0):((r.j.A:Int)==0)=false:=by rw[dN];omega
theorem PE(g a b:Nat)(r:Rp)(d:aK r)(h:r.j.A≠0)(t:r.j.nx<ft r.j.A r.m.B r.m.M r.m.C)(p:kc r.m (bu r).j=true):aa WJ 165 #[pt g 0] [pk (ar g a b r)] [0] (λE=>[pk (ar g a b (cS (bu r)).1),bh (E.val 0) ((cS (bu r)).2)]) (λE=> .tuple #[(E.val 0),i6 0]):=aa.pkW (n:=1) (N:=λE=>[bh (E.val 0) ((cS (bu r)).2)]) (enters_of Tryz.func165 Kr rfl) λL o=>by
 obtain⟨rfl⟩:=o;refine⟨[0,1,2],λ_=>[ob g #[pt a 0,iN ((cS (bu r)).1.j.A),iN ((cS (bu r)).1.j.fr),iN ((cS (bu r)).1.j.tg),iN ((cS (bu r)).1.j.nx),pt b 0] 133,pk (aF a (cS (bu r)).1.m),pk (bJ b (cS (bu r)).1.q)],?_,rfl,λE=>⟨rfl,rfl,rfl⟩⟩;have f:=d.m;have B:=d.j;have y:=d.n;have A:=f.O;have u:=f.ly;have v:=f.np;have i:r.j.A=1∨r.j.A=2:=vb d h;have x:r.j.nx≤4096:=DS d;refine fG Tryz.func165 λw z=>r0 [] [(2,.slice none 0 0),(3,i6 0)] [] (r0 [(1,.c [0,1,2] [1,2] (mO g a b r))] [(6,.bool (!((r.j.A:Int) != 0)))] [] ?_);have k:(!((r.j.A:Int) != 0))=false:=by(rw[bne,bz h];rfl)
 exact cF (!((r.j.A:Int) != 0)) k (rs [(4,.l 0),(5,ad r.j.nx 1),(9,.s 0)] 0 (ob g #[pt a 0,iN r.j.A,iN r.j.fr,iN r.j.tg,iN (r.j.nx+1),pt b 0] 133) (rF [(3,.l 0),(7,.l 0),(8,.c [1] [1] (jk a r.m f)),(9,.c [] [] (aa.v ((DN r.m f r.j.A r.j.fr r.j.tg (r.j.nx+1) i)) λ_=>ALca Value.bool (show(kc r.m ⟨r.j.A,r.j.fr,r.j.tg,(r.j.nx+1)⟩)=true from(by exact p))))] 26 (cl [ob g #[pt a 0,iN ((bu r).j.A),iN ((bu r).j.fr),iN ((bu r).j.tg),iN ((bu r).j.nx),pt b 0] 133,pk (aF a r.m),pk (bJ b r.q)] (by skip;kernel_rfl) (cl [ob g #[pt a 0,iN ((bu r).j.A),iN ((bu r).j.fr),iN ((bu r).j.tg),iN ((bu r).j.nx),pt b 0] 133,pk (aF a (bu r).m),pk (bJ b r.q)] (by skip;kernel_rfl) (cl [ob g #[pt a 0,iN ((bu r).j.A),iN ((bu r).j.fr),iN ((bu r).j.tg),iN ((bu r).j.nx),pt b 0] 133,pk (aF a (bu r).m),pk (bJ b (bu r).q)] (by skip;kernel_rfl) (rr (λ_=>[(1,.c [0,1,2] [0,1,2,3] (PD g a b (bu r) (p7 d h t) h))]) (λe=>[(2,(e 1).val 0),(3,i6 0)]) [2,3] (λe L=>((L.set 0 (ob g #[pt a 0,iN ((cS (bu r)).1.j.A),iN ((cS (bu r)).1.j.fr),iN ((cS (bu r)).1.j.tg),iN ((cS (bu r)).1.j.nx),pt b 0] 133)).set 1 ((pk (aF a (cS (bu r)).1.m)))).set 2 ((pk (bJ b (cS (bu r)).1.q)))++[bh ((e 1).val 0) ((cS (bu r)).2)]) λe=>lf (.l [] [] [((e 1).val 0),(e 1).val 0]) [0,1,2,3] [] []))))))
theorem PF(g a b:Nat)(r:Rp)(e:aK r)(h:r.j.A≠0)(x:r.j.nx<ft r.j.A r.m.B r.m.M r.m.C)(m:kc r.m (bu r).j=false):aa WJ 165 #[pt g 0] [pk (ar g a b r)] [0] (λE=>[pk (ar g a b (bu r)),bh (E.val 0) ([])]) (λE=> .tuple #[(E.val 0),i6 0]):=aa.pkW (n:=1) (N:=λE=>[bh (E.val 0) ([])]) (enters_of Tryz.func165 Kr rfl) λL k=>by
 obtain⟨rfl⟩:=k;refine⟨[0,1,2],λ_=>[ob g #[pt a 0,iN r.j.A,iN r.j.fr,iN r.j.tg,iN (r.j.nx+1),pt b 0] 133,pk (aF a r.m),pk (bJ b r.q)],?_,rfl,λE=>⟨rfl,rfl,rfl⟩⟩;have d:=e.m;have y:=e.j;have t:=e.n;have v:=d.O;have o:=d.ly;have p:=d.np;have f:r.j.A=1∨r.j.A=2:=vb e h;have q:r.j.nx≤4096:=DS e;refine fG Tryz.func165 λw u=>r0 [] [(2,.slice none 0 0),(3,i6 0)] [] (r0 [(1,.c [0,1,2] [1,2] (mO g a b r))] [(6,.bool (!((r.j.A:Int) != 0)))] [] ?_);have i:(!((r.j.A:Int) != 0))=false:=by(rw[bne,bz h];rfl)
 exact cF (!((r.j.A:Int) != 0)) i (rs [(4,.l 0),(5,ad r.j.nx 1),(9,.s 0)] 0 (ob g #[pt a 0,iN r.j.A,iN r.j.fr,iN r.j.tg,iN (r.j.nx+1),pt b 0] 133) (rT [(3,.l 0),(7,.l 0),(8,.c [1] [1] (jk a r.m d)),(9,.c [] [] (aa.v ((DN r.m d r.j.A r.j.fr r.j.tg (r.j.nx+1) f)) λ_=>ALca Value.bool (show(kc r.m ⟨r.j.A,r.j.fr,r.j.tg,(r.j.nx+1)⟩)=false from(by exact m))))] 26 (r0 [] [(2,.slice none 0 0),(3,i6 0)] [2,3] (cz jn (lf (.l [] [] [.slice none 0 0]) [0,1,2,3] [] [])))))
theorem PG(g a b:Nat)(r:Rp)(f:aK r)(c:r.j.A≠0)(e:r.j.nx<ft r.j.A r.m.B r.m.M r.m.C):aa WJ 165 #[pt g 0] [pk (ar g a b r)] [0] (λE=>[pk (ar g a b (eJ r).1),bh (E.val 0) (eJ r).2]) (λE=> .tuple #[E.val 0,i6 0]):=by
 unfold eJ;cases d:kc r.m (bu r).j with
 | true=>exact PE g a b r f c e d
 | false=>exact PF g a b r f c e d
end
section
open Go.Shelf
theorem PH(a b:Nat):decide ((a:Int)<(b:Int))=decide (a<b):=by
 by_cases h:a<b
 ·rw[cD h,cD Om]
 ·rw[bf h,bf Om]
structure Bk where
 l:Nat
 a:Nat
deriving DecidableEq
def bj:Bk:=⟨0,0⟩
def yK(x:Bk):List Value:=[iN x.l,iN x.a]
def kY:Kd WJ Bk:=⟨yK,[i6 0,i6 0],292,290,bj,2,λ_=>rfl,rfl,λ_=>rfl,dX.mk' Kr Kr rfl⟩
abbrev kC(v:Value)(xs:List Bk):aA:= .p (aq yK ([i6 0,i6 0]) 290 v xs)
structure iL (lim ev:Nat):Prop where
 l1:1≤lim
 l2:lim≤65536
 e1:1≤ev
 e2:ev≤65536
structure eY (ev:Nat) (l a:Nat):Prop where
 l:l≤65536
 a:a<ev
def kd(n a b:Int):Bool:=decide (a≤n)&&decide (n≤b)
def g8(l e:Int):Bool:=kd l 1 65536&&kd e 1 65536
theorem DX{l e:Int}(h:g8 l e=true): ∃a b:Nat,l=a∧e=b∧iL a b:=by
 unfold g8 kd at h;simp only[WS,decide_eq_true_eq] at h;exact⟨l.toNat,e.toNat,by omega,by omega,by omega,by omega,by omega,by omega⟩
theorem iL.r{a b:Nat}(h:iL a b):g8 a b=true:=by
 have:=h.l1;have:=h.l2;have:=h.e1;have:=h.e2;unfold g8 kd;simp only[WS,decide_eq_true_eq];omega
def cq(l n:Nat):Nat:=l+min n (65536-l)
def cE(a l n:Nat):Bool:=decide (l<a)&&decide (a≤cq l n)
def ik(ev l a:Nat):Nat:=if 1<ev-a then l else l-1
def im(ev l a:Nat):Nat:=if 1<ev-a then a+1 else 0
theorem DY{ev l a n:Nat}(h:eY ev l a):eY ev (cq l n) a:=⟨by have:=h.l;unfold cq;omega,h.a⟩
theorem DZ{ev l a:Nat}(h:eY ev l a):eY ev (ik ev l a) (im ev l a):=by
 have:=h.l;have:=h.a;unfold ik im
 constructor<;>split<;>omega
end
section
open Go.Shelf
theorem vi(n a b:Int):aa WJ 174 #[i6 n,i6 a,i6 b] [] [] N0 (λ_=> .bool (kd n a b)):=by
 exact fG Tryz.func174 λw c=>r0 [] [(6,.bool false)] [] (r0 [] [(6,.bool ((decide (a≤n))&&(decide (n≤b))))] [6] (ao (.bool ((decide (a≤n))&&(decide (n≤b)))) ab.zero bg [] [] []))
theorem yL(l e:Int):aa WJ 136 #[.agg #[i6 l,i6 e]] [] [] N0 (λ_=> .bool (g8 l e)):=by
 exact fG Tryz.func136 λw b=>ra (λa=>[(1,pt (B0 a) 0),(2,.bool false)]) (λa=>[ob (B0 a) #[i6 l,i6 e] 27]) λa=>r0 [(1,.l 0),(2,.c [] [] (vi l 1 65536)),(5,.l 0),(6,.c [] [] (vi e 1 65536))] [(2,.bool ((kd l 1 65536)&&(kd e 1 65536)))] [2] (ao (.bool ((kd l 1 65536)&&(kd e 1 65536))) ab.zero bg [] [] [])
theorem PI(a b:Nat)(h:iL a b):aa WJ 136 #[.agg #[iN a,iN b]] [] [] N0 (λ_=> .bool true):=by
 have c:=yL a b;rwa [h.r] at c
theorem D0(d b l a:Nat)(f:iL d b)(g:eY b l a):aa WJ 260 #[.agg #[iN l,iN a],.agg #[iN d,iN b]] [] [] N0 (λ_=> .bool true):=by
 have i:=g.l;have j:=g.a;have k:=f.e2;exact fG Tryz.func260 λw h=>ra (λe=>[(2,pt (B0 e) 0),(3,pt (B1 e) 0),(4,.bool false)]) (λe=>[ob (B0 e) #[iN l,iN a] 290,ob (B1 e) #[iN d,iN b] 27]) λe=>r0 [(0,.m (ls 1 ([iN d,iN b]))),(1,.c [] [] (PI d b f)),(4,.m (ld 0 (iN l))),(5,.c [] [] (vi (l:Int) 0 65536)),(9,.m (ld 0 (iN a))),(11,.m (ld 1 (iN b))),(12,sI (b:Int) (1) Om),(13,.c [] [] (vi (a:Int) 0 ((b:Int)-1)))] [(4,.bool ((kd (l:Int) 0 65536)&&(kd (a:Int) 0 ((b:Int)-1))))] [4] (ao (.bool ((kd (l:Int) 0 65536)&&(kd (a:Int) 0 ((b:Int)-1)))) ab.zero (by exact ALca Value.bool (by unfold kd;simp only[WS,decide_eq_true_eq];omega)) [] [] [])
theorem D1(d f l a n:Nat)(g:iL d f)(i:eY f l a)(o:n≤65536):aa WJ 237 #[.agg #[iN l,iN a],.agg #[iN d,iN f],iN n] [] [] N0 (λ_=> .tuple #[.agg #[iN (cq l n),iN a],.bool (cE d l n)]):=by
 have k:=i.l;have h:=g.l2;refine fG Tryz.func237 λw j=>ra (λe=>[(3,pt (B0 e) 0),(4,pt (B1 e) 0),(6,pt (B2 e) 0),(7,.bool false)]) (λe=>[ob (B0 e) #[iN l,iN a] 290,ob (B1 e) #[iN d,iN f] 27,ob (B2 e) #[i6 0,i6 0] 290]) λe=>r0 [(0,.l 0),(1,.l 1),(2,.c [] [] (D0 d f l a g i))] [(16,.bool (decide ((n:Int)<0)))] [] ?_;have h:(decide ((n:Int)<0))=false:=by exact bf Om
 exact cF (decide ((n:Int)<0)) h (r0 [(1,.l 0)] [(8,iN l)] [] (rs [(1,.l 0),(4,.l 0),(5,sI 65536 ((l:Int)) Om),(6,.t (tv (Builtin.min_ #[3,3] 3 #[iN n,i6 (65536-(l:Int))]) (λ_=>Ip _ _ _ _))),(7,.t (tv (av .add 3 (.tmp 21) (.tmp 26) (iN l) (i6 (min (n:Int) (65536-(l:Int))))) (λ_=>dQ (b:=((cq l n:Nat):Int)) (qx Om Om) (by unfold cq;omega)))),(9,.s 0)] 0 (ob (B0 e) #[iN (cq l n),iN a] 290) (rr (λ_=>[(0,.m (ls 0 ([iN (cq l n),iN a]))),(3,.m (ld 1 (iN d))),(7,.m (ld 0 (iN (cq l n)))),(9,.m (ld 1 (iN d))),(12,.s 2)]) (λ_=>[(7,.bool ((decide ((l:Int)<(d:Int)))&&(decide ((d:Int)≤((cq l n:Nat):Int)))))]) [7] (λ_ L=>L.set 2 (ob (B2 e) #[iN (cq l n),iN a] 290)) λp=>ao (.tuple #[.agg #[iN (cq l n),iN a],.bool ((decide ((l:Int)<(d:Int)))&&(decide ((d:Int)≤((cq l n:Nat):Int))))]) ab.zero (by unfold cE;rw[←yv,←PH]) [] [] [2])))
theorem PJ(g e l a:Nat)(h:iL g e)(j:eY e l a):aa WJ 244 #[.agg #[iN l,iN a],.agg #[iN g,iN e],i6 1] [] [] N0 (λ_=> .agg #[iN (ik e l a),iN (im e l a)]):=by
 have o:=j.l;have p:=j.a;have q:=h.e2;have r:=h.e1;refine fG Tryz.func244 λw n=>ra (λf=>[(3,pt (B0 f) 0),(4,pt (B1 f) 0),(6,pt (B2 f) 0)]) (λf=>[ob (B0 f) #[iN l,iN a] 290,ob (B1 f) #[iN g,iN e] 27,ob (B2 f) #[i6 0,i6 0] 290]) λf=>rF [(0,.l 0),(1,.l 1),(2,.c [] [] (D0 g e l a h j))] 15 (r0 [(1,.l 1),(3,.l 0),(4,.t (tb (a:=iN e) (b:=iN a) λ_ _ _ _=>lQ (a:=e) (b:=a) Om Om))] [(7,iN (e-a))] [] (r0 [] [(24,.bool (decide (1<((e-a:Nat):Int))))] [] ?_));refine bW 1 ((e-a:Nat):Int) (λk i=>?_) λk i=>?_
 ·exact rr (λ_=>[(1,.l 0),(3,ad a 1),(5,.s 0)]) N0 [] (λ_ L=>L.set 0 (ob (B0 f) #[iN l,iN (a+1)] 290)) λu=>rs [(0,.l 0),(1,.s 2)] 2 (ob (B2 f) #[iN l,iN (a+1)] 290) (ao (.agg #[iN l,iN (a+1)]) ab.zero (by unfold ik im;(rw[ALifp (show 1<e-a by omega),ALifp (show 1<e-a by omega)])) [] [] [2])
 exact r0 [(2,.t (tv (av .sub 3 (.tmp 31) (.tmp 32) (i6 1) (iN (e-a))) (λ_=>dQ (b:=0) (qy Om Om) Om)))] [(2,i6 0)] [2] (rs [(2,.l 1),(3,.t (tv (av .rem 3 (.tmp 34) (.tmp 36) (i6 0) (iN e)) (λ_=>dQ (b:=0) (nV (a:=0) (d:=e) Om) (by simp)))),(5,.s 0)] 0 (ob (B0 f) #[iN l,i6 0] 290) (rs [(1,.m (ld 0 (iN l))),(2,sI (l:Int) (1) Om),(5,.m (ld 1 (iN e))),(6,.t (tv (av .quo 3 (.tmp 42) (.tmp 44) (i6 0) (iN e)) (λ_=>dQ (b:=0) (oK (a:=0) (d:=e) Om Om) (by simp)))),(8,sI ((l:Int)-1) (0) Om),(9,.t (tv (Builtin.max_ #[3,3] 3 #[i6 0,i6 (((l:Int)-1)-0)]) (λ_=>qR _ _ _ _))),(11,.s 0)] 0 (ob (B0 f) #[i6 (max 0 (((l:Int)-1)-0)),i6 0] 290) (rs [(0,.l 0),(1,.s 2)] 2 (ob (B2 f) #[i6 (max 0 (((l:Int)-1)-0)),i6 0] 290) (ao (.agg #[i6 (max 0 (((l:Int)-1)-0)),i6 0]) ab.zero (by unfold ik im;(rw[ALifn (show ¬1<e-a by omega),ALifn (show ¬1<e-a by omega)];exact ALca (λz:Int=>Value.agg #[i6 z,i6 0]) Om)) [] [] [2]))))
theorem D2(d b l a:Nat)(f:iL d b)(g:eY b l a):aa WJ 208 #[.agg #[iN l,iN a],.agg #[iN d,iN b]] [] [] N0 (λ_=> .agg #[iN (ik b l a),iN (im b l a)]):=by
 exact fG Tryz.func208 λw h=>ra (λe=>[(2,pt (B0 e) 0),(3,pt (B1 e) 0),(4,pt (B2 e) 0)]) (λe=>[ob (B0 e) #[iN l,iN a] 290,ob (B1 e) #[iN d,iN b] 27,ob (B2 e) #[i6 0,i6 0] 290]) λe=>rs [(0,.l 0),(1,.l 1),(2,.c [] [] (PJ d b l a f g)),(3,.s 2)] 2 (ob (B2 e) #[iN (ik b l a),iN (im b l a)] 290) (lf ab.zero [] [] [2])
end
section
open Go.Shelf
structure Re where
 s:Nat
 t:Nat
 k:Nat
 i:Nat
 o:Nat
deriving DecidableEq
def sm:Re:=⟨0,0,0,0,0⟩
def qa(x:Re):List Value:=[iN x.s,iN x.t,iN x.k,iN x.i,iN x.o]
def iq:Kd WJ Re:=⟨qa,[i6 0,i6 0,i6 0,i6 0,i6 0],41,59,sm,5,λ_=>rfl,rfl,λ_=>rfl,dX.mk' Kr Kr rfl⟩
abbrev ir(v:Value)(xs:List Re):aA:= .p (aq qa ([i6 0,i6 0,i6 0,i6 0,i6 0]) 59 v xs)
def a1{α:Type}(p:α→Bool):List α→Nat
 | []=>0
 | x::xs=>bif p x then 0 else a1 p xs+1
def iu{α:Type}(p:α→Bool)(xs:List α):Int:=if a1 p xs=xs.length then -1 else(a1 p xs:Int)
theorem o6{α:Type}(p:α→Bool): ∀xs:List α,a1 p xs≤xs.length
 | []=>W8 _
 | x::xs=>by
  unfold a1;cases p x with
  | true=>exact Xp _
  | false=>exact Nat.succ_le_succ (o6 p xs)
theorem D3{α:Type}{p:α→Bool}{d:α}: ∀{xs:List α},(∀j,j<xs.length→p (xs.getD j d)=false)→a1 p xs=xs.length
 | [],_=>rfl
 | x::xs,h=>by
  unfold a1;rw[show p x=false from h 0 (XZ _),ALcf,D3 (d:=d) λj a=>h (j+1) (Yb a)];rfl
theorem WB{α:Type}{p:α→Bool}{d:α}: ∀{xs:List α} {k:Nat},k<xs.length→(∀j,j<k→p (xs.getD j d)=false)→p (xs.getD k d)=true→a1 p xs=k
 | [],k,b,_,_=>by cases b
 | x::xs,0,_,_,a=>by
  unfold a1;rw[show p x=true from a];rfl
 | x::xs,k+1,b,h,a=>by
  unfold a1;rw[show p x=false from h 0 (XZ _),ALcf,WB (d:=d) (Nat.lt_of_succ_lt_succ b) (λj c=>h (j+1) (Yb c)) a]
theorem D5{α:Type}{p:α→Bool}{d:α}{xs:List α}(h: ∀j,j<xs.length→p (xs.getD j d)=false):iu p xs= -1:=by unfold iu;rw[ALifp (D3 h)]
theorem D6{α:Type}{p:α→Bool}{d:α}{xs:List α}{k:Nat}(a:k<xs.length)(h: ∀j,j<k→p (xs.getD j d)=false)(h1:p (xs.getD k d)=true):iu p xs=(k:Int):=by
 unfold iu;rw[WB a h h1,ALifn Om]
def cY(x:Re):Bool:= !((x.k:Int)==2)
structure Lg where
 l:List Re
 K:Nat
 next:Nat
 lost:Bool
structure fP (g:Lg):Prop where
 l:g.l.length≤g.K
 r1:1≤g.K
 r:g.K≤256
 n:g.next≤1000000000
abbrev az(g:Nat)(c:Lg)(L:aj):Prop:=∃v:Value,L=[ob g #[v,iN c.K,iN c.next,.bool c.lost] 124,ir v c.l]
def qb(x:Re)(n:Nat):Re:={x with s:=n}
def bX(c:Lg)(x:Re):Lg:=
 if c.l.length=c.K then
  (if cY x=true∨a1 cY c.l=c.l.length then{c with next:=c.next+1,lost:=true}
   else{c with l:=c.l.eraseIdx (a1 cY c.l)++[qb x c.next],next:=c.next+1,lost:=true})
 else{c with l:=c.l++[qb x c.next],next:=c.next+1}
def D7(c:Lg)(x:Re):Bool:= !(decide (c.l.length=c.K)&&(cY x||decide (a1 cY c.l=c.l.length)))
def nz(c:Lg):Lg:={c with l:=[],lost:=false}
def o7(room:Nat):Lg:=⟨[],room,1,false⟩
end
section
open Go.Shelf
theorem vk(x:Re):aa WJ 19 #[.agg #[iN x.s,iN x.t,iN x.k,iN x.i,iN x.o]] [] [] N0 (λ_=> .bool ((x.k:Int)==2)):=by
 exact fG Tryz.func19 λw cs=>ra (λa=>[(1,pt (B0 a) 0),(2,.bool false)]) (λa=>[ob (B0 a) #[iN x.s,iN x.t,iN x.k,iN x.i,iN x.o] 59]) λa=>r0 [(1,.l 0)] [(2,.bool ((x.k:Int)==2))] [2] (lf ab.zero [] [] [])
theorem PK(x:Re):aa WJ 277 #[.agg #[iN x.s,iN x.t,iN x.k,iN x.i,iN x.o]] [] [] N0 (λ_=> .bool (cY x)):=by
 exact fG Tryz.func277 λw cs=>ra (λa=>[(1,pt (B0 a) 0),(2,.bool false)]) (λa=>[ob (B0 a) #[iN x.s,iN x.t,iN x.k,iN x.i,iN x.o] 59]) λa=>r0 [(0,.l 0),(1,.c [] [] (vk x))] [(2,.bool (!((x.k:Int)==2)))] [2] (ao (.bool (!((x.k:Int)==2))) ab.zero bg [] [] [])
theorem PL(v:Value)(xs:List Re)(l:xs.length≤1000000):aa WJ 276 #[v,.func (.func 277) #[] #[]] [.p (aG qa v xs)] [] N0 (λ_=>i6 (iu cY xs)):=by
 refine fO Tryz.func276 0 rfl λe a=>fG Tryz.func276 λw cs=>r0 [] [(4,i6 0)] [] (r0 [(1,du a.1 0)] [(7,iN xs.length),(8,i6 0)] [] ?_);refine lq (λk=>k≤xs.length∧(∀j,j<k→cY (xs.getD j sm)=false)) (λk=>[(8,iN k)]) (λ_ L=>L) (λk=>xs.length-k) 0 ⟨by omega,(λ_ h=>absurd h (Xv _))⟩ Kr Kr (λk ⟨i,d⟩=>?_);refine r0 [] [(9,.bool (decide ((k:Int)<(xs.length:Int))))] [] ?_;refine bW (k:Int) (xs.length:Int) (λf b=>?_) λf b=>?_
 ·refine r0 [] [(5,iN k)] [] (r0 [(3,eU a.1 0 k 5),(4,mx iq a.1 0 k 0 5),(5,.c [] [] (PK (xs.getD k sm)))] [(16,.bool (cY (xs.getD k sm)))] [] ?_);refine cB (cY (xs.getD k sm)) (λg=>?_) λg=>?_
  ·exact r0 [] [(4,iN k)] [] (ao (iN k) ab.zero (by(rw[D6 Om d As];done)) [] [(0,0)] [])
  exact r0 [(0,ad k 1)] [(8,iN (k+1))] [8] (le (k+1) ⟨by omega,yz d As⟩ Om Kr [0] Kr)
 obtain rfl:xs.length=k:=by omega
 exact lx (r0 [] [(4,i6 (-1))] [] (ao (i6 (-1)) ab.zero (by(rw[D5 d];done)) [] [(0,0)] []))
theorem D8(g:Nat)(c:Lg):aa WJ 20 #[pt g 0] [pk (az g c)] [0] (λ_=>[pk (az g c)]) (λ_=>iN c.l.length):=aa.pkZ Tryz.func20 λL a=>by
 obtain⟨v,rfl⟩:=a;refine⟨[1],λ_=>[ir v c.l],?_,rfl,λE=>⟨rfl,rfl,⟨_,rfl⟩⟩⟩;exact fG Tryz.func20 λw cs=>r0 [] [(2,i6 0)] [] (r0 [(3,.l 0),(4,e8 iq v c.l 1)] [(2,iN c.l.length)] [2] (lf ab.zero [1] [(0,0)] []))
theorem yM(g:Nat)(v:Value)(l:List Re)(room next:Nat)(lost:Bool)(d:l.length≤1000000):aa WJ 258 #[pt g 0] [ob g #[v,iN room,iN next,.bool lost] 124,.p (aG qa v l)] [] N0 (λ_=>i6 (iu cY l)):=by
 exact fO Tryz.func258 1 rfl λa b=>fG Tryz.func258 λw cs=>r0 [] [(2,i6 0)] [] (r0 [(3,.l 0),(4,.c [1] [] (aa.at (rd':=[.c a]) (PL v l Om) (ec b (λ_ h=>h))))] [(2,i6 (iu cY l))] [2] (lf ab.zero [] [(0,0),(1,1)] []))
theorem PM(g:Nat)(v:Value)(l:List Re)(room next:Nat)(lost:Bool)(b:l.length≤1000000)(h:a1 cY l<l.length):aa WJ 258 #[pt g 0] [ob g #[v,iN room,iN next,.bool lost] 124,.p (aG qa v l)] [] N0 (λ_=>iN (a1 cY l)):=by
 have a:=yM g v l room next lost b
 unfold iu at a;rwa [ALifn Om] at a
theorem PN(g:Nat)(v:Value)(l:List Re)(room next:Nat)(lost:Bool)(b:l.length≤1000000)(h:a1 cY l=l.length):aa WJ 258 #[pt g 0] [ob g #[v,iN room,iN next,.bool lost] 124,.p (aG qa v l)] [] N0 (λ_=>i6 (-1)):=by
 have a:=yM g v l room next lost b
 unfold iu at a;rwa [ALifp h] at a
theorem PO(room:Nat)(h1:1≤room)(h2:room≤256):aa WJ 139 #[iN room] [] [] (λE=>[ob (E.y 0) #[.slice none 0 0,iN room,i6 1,.bool false] 124]) (λE=> .tuple #[pt ((E.y 0)) 0,i6 0]):=by
 refine fG Tryz.func139 λw cs=>r0 [] [(2,.pointer none),(3,i6 0)] [] (r0 [] [(9,.bool ((decide ((room:Int)<1))||(decide (256<(room:Int)))))] [] ?_);have b:((decide ((room:Int)<1))||(decide (256<(room:Int))))=false:=by rw[WV];exact⟨bf Om,bf Om⟩
 exact cF ((decide ((room:Int)<1))||(decide (256<(room:Int)))) b (rr N0 (λa=>[(2,pt (B2 a) 0),(3,i6 0)]) [2,3] (λa L=>L++[ob (B2 a) #[.slice none 0 0,iN room,i6 1,.bool false] 124]) λa=>lf (.l [(a 2).y 0] [] []) [0] [] [])
theorem yN{α:Type}{en:α→List Value}{z:List Value}{T:TypeId}{S:aj→Prop}{L:aj}{ds:List ay}(b:S (L++[.p (aq en z T (.slice none 0 0) ([]:List α))]))(h:bt L ds): ∃a,bt [pk S] a∧a.flatten=ds.flatten:=
 ⟨[ds.flatten],⟨⟨_,ds++[[]],b,ko h ⟨aq.nil none,trivial⟩,by simp⟩,trivial⟩,by simp⟩
theorem PQ(room:Nat)(h1:1≤room)(h2:room≤256):aa WJ 139 #[iN room] [] [] (λE=>[pk (az (E.y 0) (o7 room))]) (λE=> .tuple #[pt (E.y 0) 0,i6 0]):=(PO room h1 h2).outs λE b a=>yN ⟨_,rfl⟩ a
theorem PR(g:Nat)(c:Lg):aa WJ 167 #[pt g 0] [pk (az g c)] [0] (λ_=>[pk (az g (nz c))]) (λ_=>iN c.l.length):=aa.pkZ Tryz.func167 λL a=>by
 obtain⟨v,rfl⟩:=a;refine⟨[0,1],λ_=>[ob g #[.slice none 0 0,iN c.K,iN c.next,.bool false] 124,ir (.slice none 0 0) ([])],?_,rfl,λE=>⟨rfl,rfl,⟨_,rfl⟩⟩⟩;exact fG Tryz.func167 λw cs=>r0 [] [(2,i6 0)] [] (r0 [(3,.l 0),(4,e8 iq v c.l 1)] [(3,iN c.l.length)] [] (rs [(4,.s 0),(7,.s 0)] 0 (ob g #[.slice none 0 0,iN c.K,iN c.next,.bool false] 124) (r0 [] [(2,iN c.l.length)] [2] (cz iq (lf ab.zero [0,2] [] [])))))
end
section
open Go.Lib Go.Shelf
theorem D9{P:Program}{p:Array Oper}{o:Oper}{a:Act}{w:World}{K:Act→World→Prop}{Q:Exit→Act→World→Prop}{E:Prop}
  (B:o.guard=none) (s x:Operand) (t:TypeId) (v:o.op=Op.call {callee:=Callee.builtin Builtin.append,args:=#[s,x],argTypes:=#[t,t]})
  (e:TypeId) (i:TypeInfo) (b:Nat) (h1:P.underlying t=some (.slice e)) (h2:P.info? e=some i) (z:i.size=b)
  (g n f:Nat) (d:Array Value) (r:w.heap[g]? =some (.cells d e (0,0))) (hs:a.eval s= .slice (some ⟨g,0,none⟩) n f)
  (ad:Addr) (m c:Nat) (news:List Value) (F:a.eval x= .slice (some ad) m c) (C:news.length=m*b) (A: ∀j u,news[j]? =some u→w.cell? (ad.add j)=some u) (q: ∀u∈news,u.oneCell'=true)
  (h:n+m≤f) (k:n*b+news.length≤d.size)
  (y:K (a.put o.dst (.slice (some ⟨g,0,none⟩) (n+m) f)) (w.setRow g (d.toList.take (n*b)++news++d.toList.drop (n*b+news.length)).toArray)):
  if Region.wanted o (yielded p a.tmps)=true then Oper.wp P o a w K Q else E:=by
 have D:Region.wanted o (yielded p a.tmps)=true:=by simp [Region.wanted,B]
 rw[ALifp D];subst z;have l:=run_append_room (P:=P) w t o.type e i h1 h2 g n f d r ad m c news C A q h k;unfold Oper.wp;simp [execOp,v,resolve,invoke,builtin,hs,F,l,Result.andThen];rw[Xc] at y;exact y
theorem Ea{P:Program}{T' e y t:TypeId}{z:List Value}{w:World}{g off m c:Nat}{cs:Array Value}(p:dX P T' e z)(q:w.heap[g]? =some (.cells cs t (0,0)))(B:0<m)(A:off+m*z.length≤cs.size)(h1: ∀u∈z,u.oneCell'=true):
  (Builtin.clear_ #[T'] y #[.slice (some ⟨g,off,none⟩) m c]).run P w= .ok (.tuple #[]) (w.setRow g (cs.toList.take off++(WM m z).flatten++cs.toList.drop (off+m*z.length)).toArray):=by
 obtain⟨v,⟨i,n,s,x,C,b,r⟩,o⟩:=p;have j:0<n.cells.size:=by rw[←Array.length_toList,b];exact o
 have h:(zeroValue e).run P w= .ok n w:=by simp [zeroValue,typeInfo,s,x]
 have d:=qJ z m;have a:=run_storeCells_at P g off t (WM m z).flatten 0 cs w q (by rw[d];omega) (λu f=>by
  obtain⟨l,d,f⟩:=List.mem_flatten.1 f;rw[List.eq_of_mem_replicate d] at f;exact h1 u f)
 simp only[Nat.add_zero] at a;obtain⟨m,rfl⟩: ∃k,m=k+1:=⟨m-1,by omega⟩;rw[d] at a;simp [Builtin.clear_,run_underlying v,h,wW _ _ j,b,a]
set_option maxRecDepth 1000000 in
set_option maxHeartbeats 1000000 in
theorem PS(g n b i j:Nat)(w:World)(S:i<j)(R:j≤n)(H:n≤b)(a:Array Value)(x:w.heap[g]? =some (.cells a 59 (0,0)))(news:List Value)(d:news.length=(n-(j))*5)(m: ∀u∈news,u.oneCell'=true)(o: ∀t u,news[t]? =some u→w.cell? ⟨g,(j)*5+t,none⟩=some u)(k:i*5+news.length≤a.size)(C:n*5≤a.size):Calls WJ 259 #[.slice (some ⟨g,0,none⟩) n b,.int .i64 (i:Int),.int .i64 (j:Int)] w λe w'=>e= .returned (.slice (some ⟨g,0,none⟩) (n-(j-i)) b)∧w'=(w.drew.setRow g (a.toList.take (i*5)++news++a.toList.drop (i*5+news.length)).toArray).setRow g ((a.toList.take (i*5)++news++a.toList.drop (i*5+news.length)).toArray.toList.take ((i+(n-j))*5)++(WM (n-(i+(n-j))) iq.z).flatten++(a.toList.take (i*5)++news++a.toList.drop (i*5+news.length)).toArray.toList.drop ((i+(n-j))*5+(n-(i+(n-j)))*5)).toArray:=by
 have F:Tryz.prog.follows .mixedOrders=true:=by kernel_rfl
 have P:i≤b:=by omega
 have Q:j≤b:=by omega
 obtain⟨V,Z,B,T,D,U,N⟩:=iq.hT.hi;obtain⟨A,hA,s⟩: ∃A:Addr,(if b=j then some (⟨g,0,none⟩:Addr) else some ⟨g,(j)*5,none⟩)=some A∧Hid (∀t u,news[t]? =some u→w.drew.cell? (A.add t)=some u):=by
  by_cases h:b=j
  ·refine⟨⟨g,0,none⟩,by simp [h],λt u v=>?_⟩;have K:news.length=0:=by rw[d];omega
   rw[List.length_eq_zero_iff.1 K] at v;simp at v
  ·exact⟨⟨g,(j)*5,none⟩,by simp [h],λt u v=>by rw[Addr.add_lit];exact o t u v⟩
 have W:Hid (news.length=(n-(j))*5):=d;have X:Hid (∀u∈news,u.oneCell'=true):=m;have Y:Hid (i*5+news.length≤a.size):=k;have I:Hid (w.drew.heap[g]? =some (.cells a 59 (0,0))):=x;obtain⟨p,q⟩: ∃p,p=w.drew.setRow g (a.toList.take (i*5)++news++a.toList.drop (i*5+news.length)).toArray:=⟨_,rfl⟩;have G:Hid (p=w.drew.setRow g (a.toList.take (i*5)++news++a.toList.drop (i*5+news.length)).toArray):=q;obtain⟨c,f⟩: ∃c,c=(a.toList.take (i*5)++news++a.toList.drop (i*5+news.length)).toArray:=⟨_,rfl⟩;have y:c.size=a.size:=by
  rw[f];simp only[X5,WO,WQ,WY,Array.length_toList];omega
 have l:p.heap[g]? =some (.cells c 59 (0,0)):=by rw[q,←f];exact setRow_heap _ g a _ _ _ I.out
 obtain⟨z,r⟩: ∃z,z=p.setRow g (c.toList.take ((i+(n-j))*5)++(WM (n-(i+(n-j))) iq.z).flatten++c.toList.drop ((i+(n-j))*5+(n-(i+(n-j)))*5)).toArray:=⟨_,rfl⟩;have O: ∀J,(Builtin.clear_ #[41] J #[.slice (some ⟨g,(i+(n-j))*5,none⟩) (n-(i+(n-j))) (b-(i+(n-j)))]).run WJ p= .ok (.tuple #[]) z:=λJ=>by
  rw[r];exact Ea iq.hT l Om (by show _+_*5≤_;rw[y];omega) (λu v=>by
   simp only[iq,Ye,XM,or_false] at v;rcases v with rfl | rfl | rfl | rfl | rfl<;>rfl)
 have L:Hid (z=p.setRow g (c.toList.take ((i+(n-j))*5)++(WM (n-(i+(n-j))) iq.z).flatten++c.toList.drop ((i+(n-j))*5+(n-(i+(n-j)))*5)).toArray):=r;have M:Hid (c=(a.toList.take (i*5)++news++a.toList.drop (i*5+news.length)).toArray):=f;clear q o d m k x r l y f
 go_enter Tryz.func259,Tryz.ntmps259
 go_wp2_with fail
 go_region_law_o (refine D9 rfl (.tmp 22) (.tmp 25) 41 rfl 59 V 5 iq.hT.ht B D g i b a I.out (by simp [Act.eval,Act.put]) A (n-(j)) (b-(j)) news (by simp [Act.eval,Act.put]) W.out s.out X.out Om Y.out ?_;rw[←G.out])
 go_wp2
 go_ret
 refine⟨by rw[show n-(j-i)=i+(n-j) by omega];rfl,?_⟩;rw[L.out,G.out,M.out]
theorem PT(A B C Z a:List Value)(h:B.length=a.length):
  ((A++(B++(C++Z))).take A.length++C++(A++(B++(C++Z))).drop (A.length+C.length)).take (A.length+C.length)++a++((A++(B++(C++Z))).take A.length++C++(A++(B++(C++Z))).drop (A.length+C.length)).drop (A.length+C.length+a.length)=A++C++(a++Z):=by
 have b:(A++(B++(C++Z))).take A.length=A:=List.take_left;have c:(A++(B++(C++Z))).drop (A.length+C.length)=(B++C).drop C.length++Z:=by
  rw[List.drop_append,List.drop_eq_nil_of_le Om,List.nil_append,Nat.add_sub_cancel_left,←Xc B,List.drop_append_of_le_length (by rw[WO];omega)]
 have d:((B++C).drop C.length).length=a.length:=by rw[WY,WO];omega
 rw[b,c];have e:(A++C++((B++C).drop C.length++Z)).take (A.length+C.length)=A++C:=XQ (by rw[WO]);have f:(A++C++((B++C).drop C.length++Z)).drop (A.length+C.length+a.length)=Z:=by
  rw[←Xc (A++C)];exact XR (by rw[WO,WO,d])
 rw[e,f,Xc (A++C)]
theorem Eb{P:Program}{f:FuncId}{α:Type}(K:Kd P α){v:Value}{xs:List α}{i:Nat}(N:Enters P f)(C:i<xs.length)
  (o: ∀(g k:Nat) (w:World) (a:Array Value) (news:List Value),xs.length≤k→w.heap[g]? =some (.cells a K.T (0,0))→news.length=(xs.length-(i+1))*K.k→(∀u∈news,u.oneCell'=true)→(∀t u,news[t]? =some u→w.cell? ⟨g,(i+1)*K.k+t,none⟩=some u)→i*K.k+news.length≤a.size→xs.length*K.k≤a.size→
   Calls P f #[.slice (some ⟨g,0,none⟩) xs.length k,.int .i64 (i:Int),.int .i64 ((i+1:Nat):Int)] w λe w'=>e= .returned (.slice (some ⟨g,0,none⟩) (xs.length-(i+1-i)) k)∧w'=(w.drew.setRow g (a.toList.take (i*K.k)++news++a.toList.drop (i*K.k+news.length)).toArray).setRow g ((a.toList.take (i*K.k)++news++a.toList.drop (i*K.k+news.length)).toArray.toList.take ((i+(xs.length-(i+1)))*K.k)++(WM (xs.length-(i+(xs.length-(i+1)))) K.z).flatten++(a.toList.take (i*K.k)++news++a.toList.drop (i*K.k+news.length)).toArray.toList.drop ((i+(xs.length-(i+1)))*K.k+(xs.length-(i+(xs.length-(i+1))))*K.k)).toArray):
  aa P f #[v,.int .i64 (i:Int),.int .i64 ((i+1:Nat):Int)] [sl K v xs] [0] (λE=>[sl K (E.val 0) (xs.eraseIdx i)]) (λE=>E.val 0):=by
 refine⟨N,λw cs R Q=>?_⟩;obtain⟨bs,cs,rfl,y,l⟩:=et R;have l:=oD l;subst l;obtain⟨g,r,rfl,rfl⟩: ∃g r,v= .slice (some ⟨g,0,none⟩) xs.length (xs.length+r)∧bs=[(g,.cells (bF (ak K.en xs) K.z r) K.T (0,0))]:=by
  rcases y with⟨rfl,_,_⟩ | h
  ·cases C
  ·exact h
 have m:w.heap[g]? =some (.cells (bF (ak K.en xs) K.z r) K.T (0,0)):=Q.obj (g,_) (by simp);have F:=K.hz
 have hA:(ak K.en (xs.take i)).length=i*K.k:=fJ K.hk (by rw[WQ];omega);have hC:(ak K.en (xs.drop (i+1))).length=(xs.length-(i+1))*K.k:=fJ K.hk (by rw[WY]);have hB:(K.en xs[i]).length=K.z.length:=(K.hk _).trans F;have j:(bF (ak K.en xs) K.z r).toList=ak K.en (xs.take i)++(K.en xs[i]++(ak K.en (xs.drop (i+1))++(WM r K.z).flatten)):=by
  have e:xs=xs.take i++(xs[i]::xs.drop (i+1)):=by rw[←Xx C,List.take_append_drop]
  have A:ak K.en xs=ak K.en (xs.take i)++(K.en xs[i]++ak K.en (xs.drop (i+1))):=by
   conv=>lhs;rw[e]
   rw[kp];rfl
  unfold bF;show ak K.en xs++_=_;rw[A,Xc,Xc]
 have G:(xs.length-(i+1))*K.k+i*K.k+K.k=xs.length*K.k:=by
  have:xs.length=(xs.length-(i+1))+i+1:=by omega
  conv=>rhs;rw[this]
  rw[Xf,Xf,X3]
 have s:(bF (ak K.en xs) K.z r).size=xs.length*K.k+r*K.k:=by
  rw[←Array.length_toList];unfold bF;rw[WO,fJ K.hk rfl,qJ,←F]
 have B:=o g (xs.length+r) w (bF (ak K.en xs) K.z r) (ak K.en (xs.drop (i+1))) Om m hC (AW K.one) (λt u H=>by
  have M:(bF (ak K.en xs) K.z r).toList[(i+1)*K.k+t]? =some u:=by
   rw[j,W5 (by rw[hA,Xf];omega),hA,W5 (by rw[K.hk,Xf];omega),K.hk,show(i+1)*K.k+t-i*K.k-K.k=t by rw[Xf];omega];have D:=(List.getElem?_eq_some_iff.1 H).1;rw[W4 D];exact H
  rw[cell_of_row w g _ _ _ _ m,←Array.getElem?_toList];exact M) (by rw[hC,s];omega) (by rw[s];omega)
 refine(callsIn_wide (n:=6)).1 ((callsIn_wide.2 B).mono λe w' O=>?_);obtain⟨rfl,rfl⟩:=O;have q:(xs.eraseIdx i).length=xs.length-1:=by rw[List.length_eraseIdx,ALifp C]
 have p:(((bF (ak K.en xs) K.z r).toList.take (i*K.k)++ak K.en (xs.drop (i+1))++(bF (ak K.en xs) K.z r).toList.drop (i*K.k+(ak K.en (xs.drop (i+1))).length)).toArray.toList.take ((i+(xs.length-(i+1)))*K.k)++(WM (xs.length-(i+(xs.length-(i+1)))) K.z).flatten++((bF (ak K.en xs) K.z r).toList.take (i*K.k)++ak K.en (xs.drop (i+1))++(bF (ak K.en xs) K.z r).toList.drop (i*K.k+(ak K.en (xs.drop (i+1))).length)).toArray.toList.drop ((i+(xs.length-(i+1)))*K.k+(xs.length-(i+(xs.length-(i+1))))*K.k)).toArray=bF (ak K.en (xs.eraseIdx i)) K.z (r+1):=by
  have J:xs.length-(i+(xs.length-(i+1)))=1:=by omega
  have A:(i+(xs.length-(i+1)))*K.k=(ak K.en (xs.take i)).length+(ak K.en (xs.drop (i+1))).length:=by rw[hA,hC,Xf]
  have L:(WM 1 K.z).flatten=K.z:=by simp
  rw[J,A,←hA,j,X3,L,F,List.toList_toArray,PT _ _ _ _ _ hB];unfold bF;rw[List.eraseIdx_eq_take_drop_succ,kp,XG,Xa]
 rw[p];refine⟨ab.ov _,[[(g,.cells (bF (ak K.en (xs.eraseIdx i)) K.z (r+1)) K.T (0,0))]],rfl,⟨.inr ⟨g,r+1,?_,rfl⟩,trivial⟩,?_⟩
 ·show Value.slice _ _ _=_;rw[q,show xs.length-(i+1-i)=xs.length-1 by omega,show xs.length-1+(r+1)=xs.length+r by omega]
 ·have c:=a8.setRow (W:=w.drew) ((bF (ak K.en xs) K.z r).toList.take (i*K.k)++ak K.en (xs.drop (i+1))++(bF (ak K.en xs) K.z r).toList.drop (i*K.k+(ak K.en (xs.drop (i+1))).length)).toArray m;have d:=a8.setRow (bF (ak K.en (xs.eraseIdx i)) K.z (r+1)) (c.obj _ (List.mem_singleton.2 rfl));exact⟨d.os.trans c.os,d.tape.trans c.tape,d.output.trans c.output,W7 c.size d.size,by simpa using d.obj,λx I=>by simp at I;left;simp [I],by simp,λb y z=>by
   have z:b∉[g]:=by simpa using z
   exact(d.far b (Nat.lt_of_lt_of_le y c.size) z).trans (c.far b y z)⟩
theorem PU(v:Value)(xs:List Re)(i:Nat)(k:i<xs.length):aa WJ 259 #[v,iN i,iN (i+1)] [ir v xs] [0] (λE=>[ir (E.val 0) (xs.eraseIdx i)]) (λE=>E.val 0):=
 Eb iq (enters_of Tryz.func259 Kr rfl) k λg f w h e b j m l d c a=>PS g xs.length f i (i+1) w (Nat.lt_succ_self i) k b h j e m l d c a
end
end E
end Go.Proofs.YtbcodenfkijdnaaGreat
