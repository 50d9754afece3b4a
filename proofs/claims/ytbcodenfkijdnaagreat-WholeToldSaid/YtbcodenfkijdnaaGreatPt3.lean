/- WholeTold, in 7 texts: part 3. For every input; no condition. -/
import Derived.Test.YtbcodenfkijdnaaGreatPt2
import Derived.WideShapes
import Derived.OpenShut
import Derived.WideOpen
import Derived.Deep.Slices
import Derived.IntWalk
set_option linter.unusedVariables false
set_option linter.unusedSimpArgs false
set_option maxRecDepth 100000
namespace Go.Proofs.YtbcodenfkijdnaaGreat
open List renaming getD_eq_getElem?_getD→YU,range→YW,getElem?_eq_getElem→YX,replicate→YY,length_append→YZ,length_take→Y0,length_map→Y1,getElem?_append_left→Y2,getElem?_eq_none→Y8,getElem?_append_right→Y9,length_drop→Zb,length_range→Zc,length_set→Ze,length_replicate→Zf,getElem?_take_of_lt→Zn,getElem?_set→Zo,getElem?_drop→Zr,append_nil→Zs,range_succ→Zt,flatten_cons→Zw,length_cons→Zx,flatten_append→Zy,mem_cons_self→ZB,getElem?_cons_succ→ZC,getElem?_map→ZE,length_tail→ZG,take_add_one→ZL,ext_getElem?→ZM,append_assoc→ZN,getElem?_cons_zero→ZO,not_mem_nil→ZP,flatMap_singleton→ZR,drop_left'→ZT,map_append→ZU,mem_cons_of_mem→ZW,drop_drop→ZY,getElem?_range→Z0,flatMap_append→Z1,size_toArray→Z4,foldl_append→Z5,eq_nil_of_length_eq_zero→Z7,foldl_cons→Z9,take_left'→aaa,range'→aab,drop_eq_getElem_cons→aah,take_of_length_le→aaj,toArray→aal,mem_append_left→aap,drop_replicate→aaq,replicate_succ→aas,getElem_of_mem→aat,take_length→aaw,ext_getElem→aax,range'_succ→aaz,flatten_nil→aaA,drop_zero→aaE
open Go.Proofs.Tryz renaming prog→YV
open Bool renaming and_eq_true→Y3,or_eq_false_iff→Zd,and_eq_false_iff→aam,and_true→aaG,or_false→aaH
open Nat renaming mod_lt→Y4,mul_comm→Y5,mul_le_mul_right→Y6,mul_assoc→Za,le_trans→Zg,xor_lt_two_pow→Zh,xor_assoc→Zi,le_refl→Zj,xor_zero→Zk,xor_self→Zl,zero_add→Zp,zero_xor→Zu,zero_le→Zz,pow_succ→ZA,lt_of_le_of_lt→ZD,lt_or_ge→ZF,pow_lt_pow_right→ZH,div_lt_of_lt_mul→ZI,mod_two_eq_zero_or_one→ZJ,le_mul_of_pos_right→ZQ,mod_eq_of_lt→ZS,not_lt_zero→ZV,add_mul_div_left→ZZ,mul_le_mul→Z2,and_le_right→Z8,pow_mul→aac,add_mul→aaf,add_mul_mod_self_left→aai,add_sub_cancel_left→aak,le_mul_of_pos_left→aan,xor_comm→aao,mul_one→aau,div_eq_of_lt→aaC,le_add_right→aaD,div_le_self→aaF,add_assoc→aaI,mul_succ→aaK,pow_zero→aaL,zero_mul→aaM,succ_mul→aaN
open UInt8 renaming xor_self→Y7,toNat_xor→Zm,zero_xor→ZK,xor_zero→ZX,ofNat_toNat→Z3,toNat_lt→aad,toNat_ofNat'→aar,xor_assoc→aay,xor_comm→aaB
open Int renaming toNat_of_nonneg→Zq,natCast_mul→aae
open Classical renaming byContradiction→Zv,not_forall→aag
open Option renaming map_some→Z6
open Go.World renaming cells?_some→aav,cell?→aaJ
namespace E
section
open Go Go.RowKit Go.Shelf
theorem oW(m:Int):aa YV 71 #[i6 m] [] [] N0 (λ_=> .bool ((m==1)||(m==2))):=by
 exact fG Tryz.func71 λw a=>r0 [] [(2,.bool false)] [] (r0 [] [(2,.bool ((m==1)||(m==2)))] [2] (lf ab.zero [] [] []))
theorem u0:aa YV 75 #[i6 1] [] [] N0 (λ_=>i6 9):=by
 exact fG Tryz.func75 λw a=>r0 [] [(2,i6 0)] [] (r0 [] [(3,i6 1)] [] (rT [] 4 (r0 [] [(2,i6 9)] [2] (aq (i6 9) ab.zero ba [] [] []))))
theorem u2:aa YV 75 #[i6 2] [] [] N0 (λ_=>i6 36):=by
 exact fG Tryz.func75 λw a=>r0 [] [(2,i6 0)] [] (r0 [] [(3,i6 2)] [] (rF [] 4 (rT [] 6 (r0 [] [(2,i6 36)] [2] (aq (i6 36) ab.zero ba [] [] [])))))
theorem yF:aa YV 192 #[i6 1] [] [] N0 (λ_=>i6 8):=by
 refine fG Tryz.func192 λw f=>r0 [] [(2,i6 0)] [] (r0 [(1,.c [] [] (oW 1))] [(5,.bool (!((1==1)||(1==2))))] [] ?_);have e:(!((1==1)||(1==2)))=false:=by decide
 exact cF (!((1==1)||(1==2))) e (r0 [(1,.c [] [] (u0)),(2,.t (tb (a:=i6 72) (b:=i6 9) λ_ _ _ _=>oF (a:=72) (d:=9) Dc Om))] [(2,iN (72/9))] [2] (aq (iN (72/9)) ab.zero ba [] [] []))
theorem yG:aa YV 192 #[i6 2] [] [] N0 (λ_=>i6 2):=by
 refine fG Tryz.func192 λw f=>r0 [] [(2,i6 0)] [] (r0 [(1,.c [] [] (oW 2))] [(5,.bool (!((2==1)||(2==2))))] [] ?_);have e:(!((2==1)||(2==2)))=false:=by decide
 exact cF (!((2==1)||(2==2))) e (r0 [(1,.c [] [] (u2)),(2,.t (tb (a:=i6 72) (b:=i6 36) λ_ _ _ _=>oF (a:=72) (d:=36) Dc Om))] [(2,iN (72/36))] [2] (aq (iN (72/36)) ab.zero ba [] [] []))
theorem DR{α:Type}{en:α→List Value}{d:α}{a l m c N:Nat}{ys:List α}{t:TypeId}(h1: ∀x,(en x).length=1)(h:ys.length=N)(b:l+m≤N):dO en (.slice (some ⟨a,l*1,none⟩) m c) ((ys.drop l).take m) [(a,.cells ((cD en d N ys).toArray) t (0,0))]:=
 .inr ⟨a,l*1,_,t,(0,0),c,by rw[show((ys.drop l).take m).length=m by rw[Y0,Zb];omega],by simp,BQ (d:=d) h1 h b⟩
theorem DS(xs:List UInt8)(d:xs.length=72)(q:Nat)(g:q<8):aa YV 194 #[.agg (rB 72 xs).toArray,i6 1,iN q] [] [] (λE=>[bC (E.val 0) ((xs.drop (9*q)).take 9)]) (λE=>(E.val 0)):=by
 refine fG Tryz.func194 λw f=>ra (λa=>[(3,pt (B0 a) 0),(6,.slice none 0 0)]) (λa=>[ob (B0 a) (rB 72 xs).toArray 217]) λa=>r0 [(5,.c [] [] (yF))] [(15,.bool ((decide ((q:Int)<0))||(decide (8≤(q:Int)))))] [] ?_;have e:((decide ((q:Int)<0))||(decide (8≤(q:Int))))=false:=by rw[bj Om,bj Om];rfl
 exact cF ((decide ((q:Int)<0))||(decide (8≤(q:Int)))) e (r0 [(1,.c [] [] (u0))] [(7,i6 9)] [] (rr (λb=>[(0,.m (rn 1 eB ([u1 0]) 5)),(3,ml 9 q),(6,ml 9 q),(8,ad (9*q) 9),(9,aM 217 (B0 a) 72 1 (9*q) 9),(10,.m (mn 1 0 oH (.slice (some ⟨(b 0).y 0,0,none⟩) 0 0) (.slice (some ⟨(a 0).y 0,(9*q)*1,none⟩) 9 (72-(9*q))) (xs:=[]) (ys:=(xs.drop (9*q)).take 9) (ob (B0 a) (rB 72 xs).toArray 217) (λ_ h=>by rw[show _=_ from h];exact DR (λ_=>rfl) d Om) oG (λ_=>rfl) (by simp only[LL,d];omega)))]) (λb=>[(6,(b 10).val 0)]) [6] (λb L=>L++[bC ((b 10).val 0) ([]++((xs.drop (9*q)).take 9))]) λb=>lf (.l [] [] [(b 10).val 0]) [1] [] [] (hf:=by kernel_rfl)))
theorem DT(xs:List UInt8)(d:xs.length=72)(q:Nat)(g:q<2):aa YV 194 #[.agg (rB 72 xs).toArray,i6 2,iN q] [] [] (λE=>[bC (E.val 0) ((xs.drop (36*q)).take 36)]) (λE=>(E.val 0)):=by
 refine fG Tryz.func194 λw f=>ra (λa=>[(3,pt (B0 a) 0),(6,.slice none 0 0)]) (λa=>[ob (B0 a) (rB 72 xs).toArray 217]) λa=>r0 [(5,.c [] [] (yG))] [(15,.bool ((decide ((q:Int)<0))||(decide (2≤(q:Int)))))] [] ?_;have e:((decide ((q:Int)<0))||(decide (2≤(q:Int))))=false:=by rw[bj Om,bj Om];rfl
 exact cF ((decide ((q:Int)<0))||(decide (2≤(q:Int)))) e (r0 [(1,.c [] [] (u2))] [(7,i6 36)] [] (rr (λb=>[(0,.m (rn 1 eB ([u1 0]) 5)),(3,ml 36 q),(6,ml 36 q),(8,ad (36*q) 36),(9,aM 217 (B0 a) 72 1 (36*q) 36),(10,.m (mn 1 0 oH (.slice (some ⟨(b 0).y 0,0,none⟩) 0 0) (.slice (some ⟨(a 0).y 0,(36*q)*1,none⟩) 36 (72-(36*q))) (xs:=[]) (ys:=(xs.drop (36*q)).take 36) (ob (B0 a) (rB 72 xs).toArray 217) (λ_ h=>by rw[show _=_ from h];exact DR (λ_=>rfl) d Om) oG (λ_=>rfl) (by simp only[LL,d];omega)))]) (λb=>[(6,(b 10).val 0)]) [6] (λb L=>L++[bC ((b 10).val 0) ([]++((xs.drop (36*q)).take 36))]) λb=>lf (.l [] [] [(b 10).val 0]) [1] [] [] (hf:=by kernel_rfl)))
theorem NI(xs ys:List UInt8)(v:Value)(g:xs.length=72)(q:Nat)(j:q<8)(h:ys.length=9):aa YV 155 #[.agg (rB 72 xs).toArray,i6 1,iN q,v] [.p (aP eB v ys)] [] N0 (λ_=> .agg (rB 72 (xs.take (9*q)++ys++xs.drop ((9*q)+ys.length))).toArray):=by
 refine fO Tryz.func155 0 rfl λe b=>fG Tryz.func155 λw i=>ra (λa=>[(4,pt (B0 a) 0),(8,pt (B1 a) 0)]) (λa=>[ob (B0 a) (rB 72 xs).toArray 217,ob (B1 a) (rB 72 (YY 72 0)).toArray 217]) λa=>r0 [(1,.c [] [] (u0))] [(9,i6 9)] [] (r0 [(5,.c [] [] (yF)),(10,eD b.1 0),] [(25,.bool (((decide (0≤(q:Int)))&&(decide ((q:Int)<8)))&&((ys.length:Int)==9)))] [] ?_);have f:(((decide (0≤(q:Int)))&&(decide ((q:Int)<8)))&&((ys.length:Int)==9))=true:=by rw[c0 Om,c0 Om];simp [h]
 exact cT (((decide (0≤(q:Int)))&&(decide ((q:Int)<8)))&&((ys.length:Int)==9)) f (rs [(2,ml 9 q),(3,aL 217 (B0 a) 72 1 (9*q)),(5,.m (uH kB 1 (B0 a) ((9*q)*1) (72-(9*q)) (72-(9*q)) (rB 72 xs).toArray (rB 72 (xs.take (9*q)++ys++xs.drop ((9*q)+ys.length))).toArray 217 191 191 0 (.c e) v ys (cP b.1) Om (by rw[Z4,kq];omega) (by rw[aau];exact ALca aal (rl (d:=0) (λ_=>rfl) g rfl Om))))] 1 (ob (B0 a) (rB 72 (xs.take (9*q)++ys++xs.drop ((9*q)+ys.length))).toArray 217) (rs [(0,.l 1),(1,.s 2)] 2 (ob (B1 a) (rB 72 (xs.take (9*q)++ys++xs.drop ((9*q)+ys.length))).toArray 217) (lf ab.zero [] [(0,0)] [2])))
theorem NJ(xs ys:List UInt8)(v:Value)(g:xs.length=72)(q:Nat)(j:q<2)(h:ys.length=36):aa YV 155 #[.agg (rB 72 xs).toArray,i6 2,iN q,v] [.p (aP eB v ys)] [] N0 (λ_=> .agg (rB 72 (xs.take (36*q)++ys++xs.drop ((36*q)+ys.length))).toArray):=by
 refine fO Tryz.func155 0 rfl λe b=>fG Tryz.func155 λw i=>ra (λa=>[(4,pt (B0 a) 0),(8,pt (B1 a) 0)]) (λa=>[ob (B0 a) (rB 72 xs).toArray 217,ob (B1 a) (rB 72 (YY 72 0)).toArray 217]) λa=>r0 [(1,.c [] [] (u2))] [(9,i6 36)] [] (r0 [(5,.c [] [] (yG)),(10,eD b.1 0),] [(25,.bool (((decide (0≤(q:Int)))&&(decide ((q:Int)<2)))&&((ys.length:Int)==36)))] [] ?_);have f:(((decide (0≤(q:Int)))&&(decide ((q:Int)<2)))&&((ys.length:Int)==36))=true:=by rw[c0 Om,c0 Om];simp [h]
 exact cT (((decide (0≤(q:Int)))&&(decide ((q:Int)<2)))&&((ys.length:Int)==36)) f (rs [(2,ml 36 q),(3,aL 217 (B0 a) 72 1 (36*q)),(5,.m (uH kB 1 (B0 a) ((36*q)*1) (72-(36*q)) (72-(36*q)) (rB 72 xs).toArray (rB 72 (xs.take (36*q)++ys++xs.drop ((36*q)+ys.length))).toArray 217 191 191 0 (.c e) v ys (cP b.1) Om (by rw[Z4,kq];omega) (by rw[aau];exact ALca aal (rl (d:=0) (λ_=>rfl) g rfl Om))))] 1 (ob (B0 a) (rB 72 (xs.take (36*q)++ys++xs.drop ((36*q)+ys.length))).toArray 217) (rs [(0,.l 1),(1,.s 2)] 2 (ob (B1 a) (rB 72 (xs.take (36*q)++ys++xs.drop ((36*q)+ys.length))).toArray 217) (lf ab.zero [] [(0,0)] [2])))
end
section
open Go Go.RowKit Go.Shelf
def ib(a:List Nat)(i:Nat):UInt8:=UInt8.ofNat (a.getD (i/8) 0/2^(8*(i%8)))
theorem NK{a:List Nat}{k j:Nat}(b:j<8):ib a (8*k+j)=UInt8.ofNat (a.getD k 0/2^(8*j)):=by
 unfold ib;rw[show(8*k+j)/8=k by omega,show(8*k+j)%8=j by omega]
attribute [local irreducible] b6
theorem NL(b:List Nat)(x:b.length=8)(v: ∀i,b.getD i 0<18446744073709551616):aa YV 196 #[.agg (rW 8 b).toArray] [] [] N0 (λ_=> .agg (rB 64 (b6 64 (ib b) (8*8))).toArray):=by
 refine fG Tryz.func196 λw u=>ra (λd=>[(1,pt (B0 d) 0),(2,pt (B1 d) 0)]) (λd=>[ob (B0 d) (rW 8 b).toArray 320,ob (B1 d) (rB 64 z6).toArray 43]) λd=>ra (λc=>[(3,pt (B0 c) 0)]) (λc=>[ob (B0 c) (rB 64 z6).toArray 43]) λc=>r0 [(0,.l 0)] [(7,.agg (rW 8 b).toArray),(8,i6 0)] [] ?_;refine lq (λk=>k≤8) (λk=>[(8,iN k)]) (λk L=>L.set 2 (ob (B0 c) (rB 64 (b6 64 (ib b) (8*k))).toArray 43)) (λk=>8-k) 0 Om Kr (by rw[Nat.mul_zero,Nx];kernel_rfl) (λk q=>?_);refine r0 [] [(9,.bool (decide ((k:Int)<8)))] [] ?_;refine cc (k:Int) 8 (λm g=>?_) λm g=>?_
 ·refine r0 [(1,.t (tv (Instr.index 320 (.agg (rW 8 b).toArray) (iN k)) (λ_=>Ie (n:=8) (e:=44) Tryz.underlying320 Om (λ_=>by kernel_rfl) Kr (I6 Om))))] [(4,iN k),(5,u6 ((b.getD k 0:Nat):Int))] [] (r0 [] [(12,i6 0)] [] ?_);refine lq (λj=>j≤8) (λj=>[(12,iN j)]) (λj L=>L.set 2 (ob (B0 c) (rB 64 (b6 64 (ib b) (8*k+j))).toArray 43)) (λj=>8-j) 0 Om Kr Kr (λj r=>?_);refine r0 [] [(13,.bool (decide ((j:Int)<8)))] [] ?_;refine cc (j:Int) 8 (λh f=>?_) λh f=>?_
  ·exact r0 [] [(6,iN j)] [] (rs [(1,ml 8 k),(3,ad (8*k) j),(6,ml 8 j),(7,.t (tv (convert 3 201 (iN (8*j))) (λ_=>m0 Tryz.underlying3 Tryz.underlying201 Om))),(8,.t (tv (av .shr 44 (.tmp 19) (.tmp 22) (u6 ((b.getD k 0:Nat):Int)) (u6 ((8*j:Nat):Int))) (λ_=>tO (8*j) Om))),(9,.t (tc (k:= .u64) (l:= .u8) (a:=u6 ((b.getD k 0/2^(8*j):Nat):Int)) λ_ _ _ o p=>tS o p)),(10,iA 43 .i64 (B0 c) 0 64 1 ((8*k)+j)),(11,wD 2 (B0 c) ((8*k)+j) 43 (u1 ((UInt8.ofNat (b.getD k 0/2^(8*j))).toNat:Int)) (rB 64 (b6 64 (ib b) (8*k+j))) (rB 64 ((b6 64 (ib b) (8*k+j)).set ((8*k)+j) (UInt8.ofNat (b.getD k 0/2^(8*j))))) (jT Om) (mj (k4 ..)))] 2 (ob (B0 c) (rB 64 ((b6 64 (ib b) (8*k+j)).set ((8*k)+j) (UInt8.ofNat (b.getD k 0/2^(8*j))))).toArray 43) (r0 [(0,ad j 1)] [(12,iN (j+1))] [12] (le (j+1) Om Om Kr [0,1,2] (by rw[←aaI,←Nw Om,NK Om];kernel_rfl))))
  obtain rfl:j=8:=by omega
  exact lx (r0 [(0,ad k 1)] [(8,iN (k+1))] [8] (le (k+1) Om Om Kr [0,1,2] Kr))
 obtain rfl:k=8:=by omega
 exact lx (rs [(0,.l 2),(1,.s 1)] 1 (ob (B1 d) (rB 64 (b6 64 (ib b) (8*8))).toArray 43) (lf ab.zero [] [] [1]))
end
section
open Go Go.RowKit Go.Shelf
attribute [local irreducible] a6 bL cu aQ aW
theorem NM:aa YV 115 #[] [] [] (λE=>[ob (E.y 0) #[pt ((E.y 1)) 0,pt ((E.y 2)) 0] 242,ob (E.y 1) (rB 74 (a6 10)++rI 256 (bL 10)).toArray 298,ob (E.y 2) #[pt ((E.y 3)) 0,(E.val 0)] 309,ob (E.y 3) (rB 255 aQ++rN 256 aW).toArray 312,bC (E.val 0) cu]) (λE=>pt ((E.y 0)) 0):=by
 exact fG Tryz.func115 λw b=>r0 [] [(0,.pointer none)] [] (rr (λa=>[(0,.c [] [0] (Nn)),(1,.c [] [1] (Lq)),(2,.c [1] [2,3] (MS (B1 a)))]) (λa=>[(0,pt (B4 a) 0)]) [0] (λa L=>L++[ob (B0 a) (rB 74 (a6 10)++rI 256 (bL 10)).toArray 298,ob (B1 a) (rB 255 aQ++rN 256 aW).toArray 312,ob (B2 a) #[pt ((B1 a)) 0,((a 2).val 0)] 309,bC ((a 2).val 0) cu,ob (B4 a) #[pt ((B0 a)) 0,pt ((B2 a)) 0] 242]) λa=>lf (.l [(a 4).y 0,(B0 a),(B2 a),(B1 a)] [] [((a 2).val 0)]) [4,0,2,1,3] [] [])
end
section
open Go Go.RowKit Go.Shelf
def kI:Kd YV Int:=⟨eI,[i6 0],74,3,0,1,λ_=>rfl,rfl,λ_=>rfl,dT.mk' Kr Kr rfl⟩
def jK(l:List Int):Int:=l.foldl max 0
def jF(l:List Int):Int:=l.foldl (λa k=>a+dX (k==1)) 0
theorem DU{l:List Int}{k:Nat}(h:k<l.length):l.take (k+1)=l.take k++[l.getD k 0]:=by
 rw[ZL,YX h,YU,YX h];rfl
theorem NN(l:List Int)(x:Int):jK (l++[x])=max (jK l) x:=by unfold jK;rw[Z5];rfl
theorem NO(l:List Int)(x:Int):jF (l++[x])=jF l+dX (x==1):=by unfold jF;rw[Z5];rfl
theorem yH(b:Bool):0≤dX b∧dX b≤1:=by cases b<;>decide
theorem DV(l:List Int):0≤jF l∧jF l≤l.length:=by
 suffices h: ∀(l:List Int) (a:Int),a≤l.foldl (λa k=>a+dX (k==1)) a∧l.foldl (λa k=>a+dX (k==1)) a≤a+l.length by
  have:=h l 0;unfold jF;omega
 intro l
 induction l with
 | nil=>intro a;simp
 | cons x l ih=>
  intro a;have b:=ih (a+dX (x==1));have c:=yH (x==1);rw[Z9,Zx];push_cast;omega
theorem NP{l:List Int}{k:Nat}(h:k<l.length):jK (l.take (k+1))=max (jK (l.take k)) (l.getD k 0):=by rw[DU h,NN]
theorem NQ{l:List Int}{k:Nat}(h:k<l.length):jF (l.take (k+1))=jF (l.take k)+dX (l.getD k 0==1):=by rw[DU h,NO]
attribute [local irreducible] jK jF dX
def gx(a:List Int):Int:=(bif (jK a) != 1 then 0 else(jF a))
theorem DW(v:Value)(a:List Int)(u:a.length≤1000):aa YV 152 #[v] [.p (aP eI v a)] [] N0 (λ_=> .agg #[i6 (jK a),i6 (gx a)]):=by
 refine fO Tryz.func152 0 rfl λg e=>fG Tryz.func152 λw r=>ra (λf=>[(2,pt (B0 f) 0)]) (λf=>[ob (B0 f) #[i6 0,i6 0] 79]) λf=>ra (λb=>[(3,pt (B0 b) 0)]) (λb=>[ob (B0 b) #[i6 0,i6 0] 79]) λb=>r0 [(1,eD e.1 0)] [(6,v),(7,iN a.length),(8,i6 0)] [] ?_;refine lq (λk=>k≤a.length) (λk=>[(8,iN k)]) (λk L=>L.set 2 (ob (B0 b) #[i6 (jK (a.take k)),i6 (jF (a.take k))] 79)) (λk=>a.length-k) 0 Om Kr (by rw[List.take_zero,show jK []=0 by unfold jK;rfl,show jF []=0 by unfold jF;rfl];kernel_rfl) (λk q=>?_);have m:=DV (a.take k);have n:(a.take k).length≤k:=by rw[Y0];omega
 have o:=yH (a.getD k 0==1);refine r0 [] [(9,.bool (decide ((k:Int)<(a.length:Int))))] [] ?_;refine cc (k:Int) (a.length:Int) (λj i=>?_) λj i=>?_
 ·exact r0 [(0,fh e.1 0 k 1),(1,iU kI e.1 0 k 0)] [(5,i6 (a.getD k 0))] [] (rs [(1,.l 2),(3,.t (tv (Builtin.max_ #[3,3] 3 #[i6 (jK (a.take k)),i6 (a.getD k 0)]) (λ_=>pH _ _ _ _))),(5,.s 2)] 2 (ob (B0 b) #[i6 (max (jK (a.take k)) (a.getD k 0)),i6 (jF (a.take k))] 79) (rs [(1,.l 2),(4,.c [] [] (DO ((a.getD k 0)==1))),(5,aI (jF (a.take k)) ((dX ((a.getD k 0)==1))) Om),(7,.s 2)] 2 (ob (B0 b) #[i6 (max (jK (a.take k)) (a.getD k 0)),i6 ((jF (a.take k))+(dX ((a.getD k 0)==1)))] 79) (r0 [(0,ad k 1)] [(8,iN (k+1))] [8] (le (k+1) Om Om Kr [0,1,2] (by rw[NP Om,NQ Om];kernel_rfl)))))
 obtain rfl:k=a.length:=by omega
 refine cl [.c g,ob (B0 f) #[i6 0,i6 0] 79,ob (B0 b) #[i6 (jK a),i6 (jF a)] 79] (by rw[aaw];kernel_rfl) (lx (r0 [(1,.l 2)] [(27,.bool ((jK a) != 1))] [] ?_));refine cJ ((jK a) != 1) N0 (λc=>[.c g,ob (B0 f) #[i6 0,i6 0] 79,ob (B0 b) #[i6 (jK a),i6 (bif c then 0 else(jF a))] 79]) (λd=>?_) (λd=>?_) ?_
 ·have h:=bne_iff_ne.1 d;refine rs [(1,.s 2)] 2 (ob (B0 b) #[i6 (jK a),i6 0] 79) ?_;exact cm Kr [0,1,2] Kr
 ·have h:=BR d;exact cm Kr [0,1,2] Kr
 exact rs [(0,.l 2),(1,.s 1)] 1 (ob (B0 f) #[i6 (jK a),i6 (bif (jK a) != 1 then 0 else(jF a))] 79) (lf ab.zero [] [(0,0)] [1])
def ic(h:List UInt8)(k:Nat):List UInt8:=h.take (32*k)++YY (64-32*k) 0
theorem NR{h:List UInt8}(a:h.length=64){k:Nat}(b:k≤2):(ic h k).length=64:=by unfold ic;rw[YZ,Y0,Zf,a];omega
theorem NS(h:List UInt8):ic h 0=YY 64 0:=rfl
theorem yI{h:List UInt8}(a:h.length=64):ic h 2=h:=by unfold ic;rw[aaj Om,show 64-32*2=0 from rfl,List.replicate_zero,Zs]
theorem NT{h:List UInt8}(b:h.length=64){k:Nat}(c:k<2):(ic h k).take (32*k)++(h.drop (k*32)).take 32++(ic h k).drop (32*k+32)=ic h (k+1):=by
 unfold ic;have a:(h.take (32*k)).length=32*k:=by rw[Y0];omega
 rw[aaa a,←ZY,ZT a,aaq,Y5 k 32,←List.take_add,show 32*k+32=32*(k+1) by omega,show 64-32*k-32=64-32*(k+1) by omega]
attribute [local irreducible] ic
theorem NU(h:List UInt8)(a:h.length=64):aa YV 198 #[.agg (rB 64 h).toArray] [] [] N0 (λ_=> .agg (rB 64 h).toArray):=by
 refine fG Tryz.func198 λw p=>ra (λb=>[(1,pt (B0 b) 0),(2,pt (B1 b) 0)]) (λb=>[ob (B0 b) (rB 64 h).toArray 324,ob (B1 b) (rB 64 z6).toArray 43]) λb=>ra (λc=>[(3,pt (B0 c) 0)]) (λc=>[ob (B0 c) (rB 64 z6).toArray 43]) λc=>r0 [(0,.l 0)] [(6,.agg (rB 64 h).toArray),(7,i6 0)] [] ?_;refine lq (λk=>k≤2) (λk=>[(7,iN k)]) (λk L=>L.set 2 (ob (B0 c) (rB 64 (ic h k)).toArray 43)) (λk=>2-k) 0 Om Kr (by rw[NS];kernel_rfl) (λk j=>?_);have g:=NR a j;refine r0 [] [(8,.bool (decide ((k:Int)<2)))] [] ?_;refine cc (k:Int) 2 (λo i=>?_) λo i=>?_
 ·exact rr (λ_=>[(1,.t (tv (Instr.index 324 (.agg (rB 64 h).toArray) (iN k)) (λ_=>Jm (n:=2) (m:=32) (N:=64) (e:=267) Kr (λ_=>rfl) Om rfl a))),(4,.s 3)]) (λf=>[(5,pt (B2 f) 0),(4,iN k)]) [] (λf L=>L++[ob (B2 f) (rB 32 ((h.drop (k*32)).take 32)).toArray 267]) λf=>rs [(1,ml 32 k),(2,aL 43 (B0 c) 64 1 (32*k)),(3,aS 267 (B2 f) 32 1),(4,.m (uH kB 2 (B0 c) ((32*k)*1) (64-(32*k)) (64-(32*k)) (rB 64 (ic h k)).toArray (rB 64 ((ic h k).take (32*k)++((h.drop (k*32)).take 32)++(ic h k).drop ((32*k)+32))).toArray 43 191 191 3 (ob (B2 f) (rB 32 ((h.drop (k*32)).take 32)).toArray 267) (.slice (some ⟨(f 2).y 0,0,none⟩) 32 32) ((h.drop (k*32)).take 32) (λ_ h=>by rw[show _=_ from h];exact oL (λ_=>rfl) (by rw[Y0,Zb,a];omega)) (by rw[(show((h.drop (k*32)).take 32).length=32 from(by rw[Y0,Zb,a];omega))];omega) (by rw[Z4,kq];rw[(show((h.drop (k*32)).take 32).length=32 from(by rw[Y0,Zb,a];omega))];omega) (by rw[aau];exact ALca aal (rl (d:=0) (λ_=>rfl) (show(ic h k).length=64 by(simp only[LL,g,a];done)) (show((h.drop (k*32)).take 32).length=32 from(by rw[Y0,Zb,a];omega)) Om))))] 2 (ob (B0 c) (rB 64 ((ic h k).take (32*k)++((h.drop (k*32)).take 32)++(ic h k).drop ((32*k)+32))).toArray 43) (r0 [(0,ad k 1)] [(7,iN (k+1))] [7] (le (k+1) Om Om Kr [0,1,2] (by rw[←NT a Om];kernel_rfl)))
 obtain rfl:k=2:=by omega
 exact cl [ob (B0 b) (rB 64 h).toArray 324,ob (B1 b) (rB 64 z6).toArray 43,ob (B0 c) (rB 64 h).toArray 43] (by rw[yI a];kernel_rfl) (lx (rs [(0,.l 2),(1,.s 1)] 1 (ob (B1 b) (rB 64 h).toArray 43) (lf ab.zero [] [] [1])))
theorem DX(ys:List UInt8): ∀k,k≤8→aE (ys.take 8) 0 k=aE ys 0 k
 | 0,_=>rfl
 | k+1,h=>by
  rw[yE,yE,DX ys k Om];rw[show(ys.take 8).getD k 0=ys.getD k 0 by rw[YU,YU,Zn Om]]
theorem NV(v:Value)(ys:List UInt8)(a:8≤ys.length):aa YV 228 #[gM v 0 8 1] [.p (aP eB v ys)] [] N0 (λ_=> .int .u64 ((aE ys 0 8:Nat):Int)):=by
 rw[←DX ys 8 (Zj _)];exact aa.at (NB (gM v 0 8 1) (ys.take 8) (by rw[Y0];omega)) (bP (λ_ h=>aP.take (en:=eB) (k:=1) (λ_=>rfl) h a) λ_ h=>h)
attribute [local irreducible] dd c7 bl fL aE fK aR
def j6:List Int:=[-1,64,65, -1,66, -1, -1,0,67, -1, -1,1, -1,2,3, -1,68, -1, -1,4, -1,5,6, -1, -1,7,8, -1,9, -1, -1,56,69, -1, -1,10, -1,11,12, -1, -1,13,14, -1,15, -1, -1,57, -1,16,17, -1,18, -1, -1,58,19, -1, -1,59, -1,60,61, -1,70, -1, -1,20, -1,21,22, -1, -1,23,24, -1,25, -1, -1,62, -1,26,27, -1,28, -1, -1,63,29, -1, -1,72, -1,73, -1, -1, -1,30,31, -1,32, -1, -1, -1,33, -1, -1, -1, -1, -1, -1, -1,34, -1, -1, -1, -1, -1, -1, -1, -1, -1, -1, -1, -1, -1, -1, -1,71, -1, -1,35, -1,36,37, -1, -1,38,39, -1,40, -1, -1, -1, -1,41,42, -1,43, -1, -1, -1,44, -1, -1, -1, -1, -1, -1, -1, -1,45,46, -1,47, -1, -1, -1,48, -1, -1, -1, -1, -1, -1, -1,49, -1, -1, -1, -1, -1, -1, -1, -1, -1, -1, -1, -1, -1, -1, -1, -1,50,51, -1,52, -1, -1, -1,53, -1, -1, -1, -1, -1, -1, -1,54, -1, -1, -1, -1, -1, -1, -1, -1, -1, -1, -1, -1, -1, -1, -1,55, -1, -1, -1, -1, -1, -1, -1, -1, -1, -1, -1, -1, -1, -1, -1, -1, -1, -1, -1, -1, -1, -1, -1, -1, -1, -1, -1, -1, -1, -1, -1]
theorem DY:bL 10=j6:=by decide+kernel
theorem hp: ∀k:UInt8,(dd k (bL 10)==1)=true→0≤c7 k (bL 10):=by
 have h: ∀n:Nat,n<256→(dd (UInt8.ofNat n) j6==1)=true→0≤c7 (UInt8.ofNat n) j6:=by decide+kernel
 intro k;have:=h k.toNat k.toNat_lt;rw[DY];rwa [Z3] at this
theorem k5(x:Int)(b:Bool):(bT x b).length=3:=by cases b<;>rfl
theorem NW{b:Bool}{X Y:List UInt8}(a:X.length=36)(c:Y.length=36):(bif b then X.drop 4 else Y.drop 4).length=32:=by cases b<;>simp [a,c]
theorem yJ{d v:List UInt8}(a:d.length=36):(fK d v).length=32:=by unfold fK;exact NW (by rw[Ze];exact a) a
attribute [local irreducible] a6 bL cu aQ aW bT fk cM eM
def j7(ys:List UInt8)(x:Int):Int:=(bif (dd ((bl (aE ys 0 8) ((pc ((x%8388608).toNat)%2:Nat):Int) 0 (a6 10))^^^(ys.getD 8 0)) (bL 10))==0 then 0 else(bif (dd ((bl (aE ys 0 8) ((pc ((x%8388608).toNat)%2:Nat):Int) 0 (a6 10))^^^(ys.getD 8 0)) (bL 10))==1 then 1 else(bif (dd ((bl (aE ys 0 8) ((pc ((x%8388608).toNat)%2:Nat):Int) 0 (a6 10))^^^(ys.getD 8 0)) (bL 10))==2 then 2 else 3)))
theorem NX(l i o:Nat)(v:Value)(ys:List UInt8)(n:ys.length=9)(x:Int):aa YV 195 #[pt l 0,v,i6 x] [ob l #[pt i 0,pt o 0] 242,ob i (rB 74 (a6 10)++rI 256 (bL 10)).toArray 298,.p (aP eB v ys)] [] N0 (λ_=> .tuple #[u6 (((fL (aE ys 0 8) (ys.getD 8 0) ((pc ((x%8388608).toNat)%2:Nat):Int) (a6 10) (bL 10)):Nat):Int),i6 (j7 ys x)]):=by
 refine fO Tryz.func195 2 rfl λd a=>fG Tryz.func195 λw r=>r0 [] [(6,u6 0),(7,i6 0)] [] (rr (λq=>[(3,.m (ld 0 (pt i 0))),(5,.m (CE 2 (.c d) 8 1 (cP a) Om)),(6,.c [2] [] (aa.at (rd':=[.c d]) (NV v ys Om) (ei a (λ_ h=>h)))),(8,fh a.1 2 8 1),(9,iU kB a.1 2 8 0),(11,.c [] [] (uY x)),(12,.c [1] [] (Ni i (aE ys 0 8) (ys.getD 8 0) ((pc ((x%8388608).toNat)%2:Nat):Int) (a6 10) (bL 10) (pX ys 0 (Zj 8)) (by(simp only[LL,iY,jJ,n];done)) (by(simp only[LL,iY,jJ,n];done)) hp)),]) (λ_=>[(8,u6 (((fL (aE ys 0 8) (ys.getD 8 0) ((pc ((x%8388608).toNat)%2:Nat):Int) (a6 10) (bL 10)):Nat):Int)),(9,i6 (dd ((bl (aE ys 0 8) ((pc ((x%8388608).toNat)%2:Nat):Int) 0 (a6 10))^^^(ys.getD 8 0)) (bL 10)))]) [] (λ_ L=>L) λq=>r0 [] [(28,i6 (dd ((bl (aE ys 0 8) ((pc ((x%8388608).toNat)%2:Nat):Int) 0 (a6 10))^^^(ys.getD 8 0)) (bL 10)))] [] (r0 [] [(29,.bool ((dd ((bl (aE ys 0 8) ((pc ((x%8388608).toNat)%2:Nat):Int) 0 (a6 10))^^^(ys.getD 8 0)) (bL 10))==0))] [] ?_));refine cE (dd ((bl (aE ys 0 8) ((pc ((x%8388608).toNat)%2:Nat):Int) 0 (a6 10))^^^(ys.getD 8 0)) (bL 10)) 0 (λf j=>?_) λf j=>?_
 ·exact r0 [] [(6,u6 (((fL (aE ys 0 8) (ys.getD 8 0) ((pc ((x%8388608).toNat)%2:Nat):Int) (a6 10) (bL 10)):Nat):Int)),(7,i6 0)] [6,7] (aq (.tuple #[u6 (((fL (aE ys 0 8) (ys.getD 8 0) ((pc ((x%8388608).toNat)%2:Nat):Int) (a6 10) (bL 10)):Nat):Int),i6 0]) ab.zero (by((try simp only[j7]);(repeat (first | rw[f] | rw[ALct])))<;>rfl) [] [(0,0),(1,1),(2,2)] [])
 refine r0 [] [(32,.bool ((dd ((bl (aE ys 0 8) ((pc ((x%8388608).toNat)%2:Nat):Int) 0 (a6 10))^^^(ys.getD 8 0)) (bL 10))==1))] [] ?_;refine cE (dd ((bl (aE ys 0 8) ((pc ((x%8388608).toNat)%2:Nat):Int) 0 (a6 10))^^^(ys.getD 8 0)) (bL 10)) 1 (λg k=>?_) λg k=>?_
 ·exact r0 [] [(6,u6 (((fL (aE ys 0 8) (ys.getD 8 0) ((pc ((x%8388608).toNat)%2:Nat):Int) (a6 10) (bL 10)):Nat):Int)),(7,i6 1)] [6,7] (aq (.tuple #[u6 (((fL (aE ys 0 8) (ys.getD 8 0) ((pc ((x%8388608).toNat)%2:Nat):Int) (a6 10) (bL 10)):Nat):Int),i6 1]) ab.zero (by((try simp only[j7]);(repeat (first | rw[f] | rw[g] | rw[ALct] | rw[ALcf])))<;>rfl) [] [(0,0),(1,1),(2,2)] [])
 refine r0 [] [(35,.bool ((dd ((bl (aE ys 0 8) ((pc ((x%8388608).toNat)%2:Nat):Int) 0 (a6 10))^^^(ys.getD 8 0)) (bL 10))==2))] [] ?_;refine cE (dd ((bl (aE ys 0 8) ((pc ((x%8388608).toNat)%2:Nat):Int) 0 (a6 10))^^^(ys.getD 8 0)) (bL 10)) 2 (λb e=>?_) λb e=>?_
 ·exact r0 [] [(6,u6 (((fL (aE ys 0 8) (ys.getD 8 0) ((pc ((x%8388608).toNat)%2:Nat):Int) (a6 10) (bL 10)):Nat):Int)),(7,i6 2)] [6,7] (aq (.tuple #[u6 (((fL (aE ys 0 8) (ys.getD 8 0) ((pc ((x%8388608).toNat)%2:Nat):Int) (a6 10) (bL 10)):Nat):Int),i6 2]) ab.zero (by((try simp only[j7]);(repeat (first | rw[f] | rw[g] | rw[b] | rw[ALct] | rw[ALcf])))<;>rfl) [] [(0,0),(1,1),(2,2)] [])
 exact r0 [] [(6,u6 (((fL (aE ys 0 8) (ys.getD 8 0) ((pc ((x%8388608).toNat)%2:Nat):Int) (a6 10) (bL 10)):Nat):Int)),(7,i6 3)] [6,7] (aq (.tuple #[u6 (((fL (aE ys 0 8) (ys.getD 8 0) ((pc ((x%8388608).toNat)%2:Nat):Int) (a6 10) (bL 10)):Nat):Int),i6 3]) ab.zero (by((try simp only[j7]);(repeat (first | rw[f] | rw[g] | rw[b] | rw[ALcf])))<;>rfl) [] [(0,0),(1,1),(2,2)] [])
end
section
open Go Go.RowKit Go.Shelf
theorem NY(a g:Nat)(u:Value)(d v:List UInt8)(c:d.length=36)(hv:v.length=3)(D:List UInt8)(b:fK d v=D)(k:Nat)(e:fk (aR d v)=k)(p:Int)(hp:cM (aR d v)=p)(q:UInt8)(f:eM (aR d v)=q):aa YV 229 #[pt a 0,.agg (rB 36 d).toArray,.agg (rB 3 v).toArray] [ob a #[pt g 0,u] 309,ob g (rB 255 aQ++rN 256 aW).toArray 312,.p (aP eB u cu)] [] N0 (λ_=> .tuple #[.agg (rB 32 D).toArray,.agg #[iN k,i6 p,u1 (q.toNat:Int)]]):=by
 subst b e hp f;exact Nd a g u d v c hv
def oX(a:Nat)(b:Int)(vl:UInt8):Int:=(bif (a:Int)==0 then 0 else(bif (a:Int)==1 then 1 else(bif (((a:Int)==2)&&(b==38))&&((vl.toNat:Int)==128) then 2 else 3)))
theorem NZ(G I j g:Nat)(u v:Value)(ys:List UInt8)(F:ys.length=36)(x:Int)(h0: -9223372036854775808≤x)(h1:x≤9223372036854775807)(D:List UInt8)(H:fK ys (bT x false)=D)(y:D.length=32)(a:Nat)(z:fk (aR ys (bT x false))=a)(e:Int)(A:cM (aR ys (bT x false))=e)(vl:UInt8)(C:eM (aR ys (bT x false))=vl):aa YV 197 #[pt G 0,v,i6 x] [ob G #[pt I 0,pt j 0] 242,ob j #[pt g 0,u] 309,ob g (rB 255 aQ++rN 256 aW).toArray 312,.p (aP eB u cu),.p (aP eB v ys)] [] N0 (λ_=> .tuple #[.agg (rB 32 D).toArray,i6 (oX a e vl)]):=by
 refine fO Tryz.func197 3 rfl λq B=>fO Tryz.func197 4 rfl λi n=>fG Tryz.func197 λw M=>ra (λb=>[(6,pt (B0 b) 0),(7,i6 0)]) (λb=>[ob (B0 b) (rB 32 (YY 32 0)).toArray 267]) λb=>rr (λ_=>[(3,.m (ld 0 (pt j 0))),(5,.m (CG 4 (.c i) 36 (cP n.1) Dc Om)),(6,.m (CH 4 (.c i) 36 (rB 36 ys) (cP n.1) (kN F).symm Om (CI (λ_=>rfl) F))),(8,.c [] [] (DP x Om Om false)),(9,.c [1,2,3] [] (aa.at (rd':=[ob j #[pt g 0,u] 309,ob g (rB 255 aQ++rN 256 aW).toArray 312,.c q]) (NY j g u ys (bT x false) (by(simp only[LL,k5,F,y];done)) ba D H a z e A vl C) (atS (atS (ei B (λ_ h=>h)))))),(13,.m (al 6)),(14,.m (al 7)),(15,.s 6),(16,.s 7)]) (λf=>[(8,pt ((f 13).y 0) 0),(9,pt ((f 14).y 0) 0)]) [] (λf L=>L++[ob ((f 13).y 0) (rB 32 D).toArray 267,ob ((f 14).y 0) #[iN a,i6 e,u1 (vl.toNat:Int)] 368]) λf=>r0 [(1,.l 7)] [(23,.bool ((a:Int)==0))] [] ?_;refine cE (a:Int) 0 (λk r=>?_) λk r=>?_
 ·exact rr (λ_=>[(0,.l 6),(1,.s 5)]) (λ_=>[(7,i6 0)]) [7] (λ_ L=>L.set 5 (ob (B0 b) (rB 32 D).toArray 267)) λN=>aq (.tuple #[.agg (rB 32 D).toArray,i6 0]) ab.zero (by((try simp only[oX]);(repeat (first | rw[k] | rw[ALct])))<;>rfl) [] [(0,0),(1,1),(2,2),(3,3),(4,4)] [5]
 refine r0 [(1,.l 7)] [(28,.bool ((a:Int)==1))] [] ?_;refine cE (a:Int) 1 (λo t=>?_) λo t=>?_
 ·exact rr (λ_=>[(0,.l 6),(1,.s 5)]) (λ_=>[(7,i6 1)]) [7] (λ_ L=>L.set 5 (ob (B0 b) (rB 32 D).toArray 267)) λO=>aq (.tuple #[.agg (rB 32 D).toArray,i6 1]) ab.zero (by((try simp only[oX]);(repeat (first | rw[k] | rw[o] | rw[ALct] | rw[ALcf])))<;>rfl) [] [(0,0),(1,1),(2,2),(3,3),(4,4)] [5]
 refine r0 [(1,.m (ld 7 (iN a))),(5,.m (ld 7 (i6 e))),(10,.m (ld 7 (u1 (vl.toNat:Int)))),] [(33,.bool ((((a:Int)==2)&&(e==38))&&((vl.toNat:Int)==128)))] [] ?_;refine cB ((((a:Int)==2)&&(e==38))&&((vl.toNat:Int)==128)) (λd=>?_) λd=>?_
 ·exact rr (λ_=>[(0,.l 6),(1,.s 5)]) (λ_=>[(7,i6 2)]) [7] (λ_ L=>L.set 5 (ob (B0 b) (rB 32 D).toArray 267)) λJ=>aq (.tuple #[.agg (rB 32 D).toArray,i6 2]) ab.zero (by((try simp only[oX]);(repeat (first | rw[k] | rw[o] | rw[d] | rw[ALct] | rw[ALcf])))<;>rfl) [] [(0,0),(1,1),(2,2),(3,3),(4,4)] [5]
 exact rr (λ_=>[(0,.l 6),(1,.s 5)]) (λ_=>[(7,i6 3)]) [7] (λ_ L=>L.set 5 (ob (B0 b) (rB 32 D).toArray 267)) λK=>aq (.tuple #[.agg (rB 32 D).toArray,i6 3]) ab.zero (by((try simp only[oX]);(repeat (first | rw[k] | rw[o] | rw[d] | rw[ALcf])))<;>rfl) [] [(0,0),(1,1),(2,2),(3,3),(4,4)] [5]
def ng(ys:List UInt8)(x:Int):Int:=oX (fk (aR ys (bT x false))) (cM (aR ys (bT x false))) (eM (aR ys (bT x false)))
theorem N1(b c a g:Nat)(u v:Value)(ys:List UInt8)(d:ys.length=36)(x:Int)(h0: -9223372036854775808≤x)(h1:x≤9223372036854775807):aa YV 197 #[pt b 0,v,i6 x] [ob b #[pt c 0,pt a 0] 242,ob a #[pt g 0,u] 309,ob g (rB 255 aQ++rN 256 aW).toArray 312,.p (aP eB u cu),.p (aP eB v ys)] [] N0 (λ_=> .tuple #[.agg (rB 32 (fK ys (bT x false))).toArray,i6 (ng ys x)]):=
 NZ b c a g u v ys d x h0 h1 _ rfl (yJ d) _ rfl _ rfl _ rfl
end
section
open Go Go.RowKit Go.Shelf
def eT{α:Type}(d:α)(N:Nat)(f:Nat→α)(n:Nat):List α:=(YW N).map λi=>if i<n then f i else d
theorem nh{α:Type}(d:α)(N:Nat)(f:Nat→α)(n:Nat):(eT d N f n).length=N:=by unfold eT;rw[Y1,Zc]
theorem DZ{α:Type}{d:α}{N:Nat}{f:Nat→α}{n i:Nat}(h:i<N):(eT d N f n).getD i d=if i<n then f i else d:=by
 unfold eT;rw[YU,ZE,Z0 h];rfl
theorem N2{α:Type}{d:α}{N:Nat}{f:Nat→α}{n:Nat}(h:n<N):(eT d N f n).set n (f n)=eT d N f (n+1):=by
 apply ZM;intro i;rw[Zo];rcases ZF i N with a | a
 ·unfold eT;simp only[Y1,Zc,ZE,Z0 a,Z6];by_cases e:n=i
  ·subst e;rw[ALifp rfl,ALifp h,ALifp Om]
  ·rw[ALifn e];by_cases b:i<n
   ·rw[ALifp b,ALifp Om]
   ·rw[ALifn b,ALifn Om]
 ·rw[Y8 (l:=eT d N f (n+1)) (by rw[nh];exact a),Y8 (l:=eT d N f n) (by rw[nh];exact a),nh];rw[ALifn Om]
theorem N3{α:Type}(d:α)(N:Nat)(f:Nat→α):eT d N f 0=YY N d:=by
 apply ZM;intro i;rcases ZF i N with a | a
 ·unfold eT;simp [a]
 ·rw[Y8 (by rw[nh];exact a),Y8 (by simpa using a)]
def w9(xs:List UInt8)(k:Nat):List UInt8:=(xs.drop (9*k)).take 9
def iH(xs:List UInt8)(k:Nat):List UInt8:=(xs.drop (36*k)).take 36
def dW(xs:List UInt8)(x:Int)(k:Nat):Nat:=fL (aE (w9 xs k) 0 8) ((w9 xs k).getD 8 0) ((pc ((x%8388608).toNat)%2:Nat):Int) (a6 10) (bL 10)
def dK(xs:List UInt8)(x:Int)(k:Nat):Int:=j7 (w9 xs k) x
def cW(xs:List UInt8)(x:Int)(k:Nat):List UInt8:=fK (iH xs k) (bT x false)
def cK(xs:List UInt8)(x:Int)(k:Nat):Int:=ng (iH xs k) x
theorem N4{d:Nat}{k:UInt8}{a:Int}{cl:List UInt8}{b:List Int}(h:d<18446744073709551616):fL d k a cl b<18446744073709551616:=by
 unfold fL;cases e:((dd ((bl d a 0 cl)^^^k) b)==1)&&(decide ((c7 ((bl d a 0 cl)^^^k) b)<64)) with
 | false=>exact h
 | true=>
  rw[Y3] at e;have c:=of_decide_eq_true e.2;rw[ALct,Nat.one_mul];exact Zh (n:=64) h (ZH Dc Om)
theorem N5(xs:List UInt8)(x:Int)(k:Nat):dW xs x k<18446744073709551616:=N4 (pX _ _ Dc)
theorem N6{N:Nat}{f:Nat→Nat}{n B:Nat}(hB:0<B)(h: ∀i,f i<B)(i:Nat):(eT 0 N f n).getD i 0<B:=by
 rcases ZF i N with a | a
 ·rw[DZ a];split
  ·exact h i
  ·exact hB
 ·rw[YU,Y8 (by rw[nh];exact a)];exact hB
theorem ni{xs:List UInt8}{k:Nat}(b:xs.length=72)(a:k<2):(iH xs k).length=36:=by unfold iH;rw[Y0,Zb];omega
theorem u3{f:Nat→List UInt8}{m:Nat}(h: ∀i,(f i).length=m)(k:Nat):((YW k).flatMap f).length=m*k:=by
 induction k with
 | zero=>rfl
 | succ k ih=>rw[Zt,Z1,YZ,ih,ZR,h,aaK]
theorem D0{f:Nat→List UInt8}{m N:Nat}(h: ∀i,(f i).length=m){k:Nat}:
  ((YW k).flatMap f++YY (N-m*k) (0:UInt8)).take (m*k)++f k++((YW k).flatMap f++YY (N-m*k) (0:UInt8)).drop (m*k+m)=(YW (k+1)).flatMap f++YY (N-m*(k+1)) 0:=by
 have a:=u3 h k;rw[aaa a,←ZY,ZT a,aaq,Zt,Z1,ZR,show N-m*k-m=N-m*(k+1) by rw[aaK];omega]
def fx(f:Nat→List UInt8)(k:Nat):List UInt8:=(YW k).flatMap f++YY (64-32*k) 0
theorem u4{f:Nat→List UInt8}(h: ∀i,(f i).length=32){k:Nat}(a:k≤2):(fx f k).length=64:=by
 unfold fx;rw[YZ,u3 h,Zf];omega
theorem N7{f:Nat→List UInt8}(h: ∀i,(f i).length=32){k:Nat}:(fx f k).take (0+k*32)++f k++(fx f k).drop (0+k*32+32)=fx f (k+1):=by
 have:=D0 (N:=64) h (k:=k);rw[Zp,Y5 k 32];exact this
theorem N8(f:Nat→List UInt8):fx f 0=YY 64 0:=rfl
theorem N9{xs:List UInt8}{x:Int}{k:Nat}(h:(iH xs k).length=36):(cW xs x k).length=32:=yJ h
def iI(xs:List UInt8)(x:Int)(k:Nat):List UInt8:=if k<2 then cW xs x k else YY 32 0
theorem D1{xs:List UInt8}{x:Int}{k:Nat}(h:k<2):iI xs x k=cW xs x k:=ALifp h
theorem r5{xs:List UInt8}(a:xs.length=72)(x:Int)(k:Nat):(iI xs x k).length=32:=by
 unfold iI
 split
 ·rename_i h;exact N9 (ni a h)
 ·rfl
attribute [local irreducible] dd c7 bl fL aE fK aR a6 bL cu aQ aW bT fk cM eM j7 ng eT fx b6 jK jF dX
theorem Ob(i g j:Nat)(xs:List UInt8)(o:xs.length=72)(x:Int):aa YV 151 #[pt i 0,i6 1,.agg (rB 72 xs).toArray,i6 x] [ob i #[pt g 0,pt j 0] 242,ob g (rB 74 (a6 10)++rI 256 (bL 10)).toArray 298] [] (λE=>[dk (E.val 0) ((YW 8).map (dK xs x))]) (λE=> .tuple #[.agg (rB 64 (b6 64 (ib (eT 0 8 (dW xs x) 8)) (8*8))).toArray,(E.val 0)]):=by
 refine fG Tryz.func151 λw u=>ra (λf=>[(6,pt (B0 f) 0),(8,pt (B1 f) 0),(9,.slice none 0 0)]) (λf=>[ob (B0 f) (rB 72 xs).toArray 217,ob (B1 f) (rB 64 z6).toArray 43]) λf=>r0 [] [(10,.slice none 0 0)] [] (rT [] 20 (ra (λe=>[(11,pt (B0 e) 0)]) (λe=>[ob (B0 e) (rW 8 (YY 8 0)).toArray 320]) λe=>r0 [] [(21,i6 0)] [] (cz kI ?_)));refine mv (λk _=>k≤8) (λk a=>[(21,iN k),(10,a)]) (λk a L=>(L.set 4 (ob (B0 e) (rW 8 (eT 0 8 (dW xs x) k)).toArray 320)).set 5 (dk a ((YW k).map (dK xs x)))) (λk _=>8-k) 0 (.slice none 0 0) Om Kr (by rw[N3];kernel_rfl) (λk a q=>?_);have r:((YW k).map (dK xs x)).length=k:=by rw[Y1,Zc]
 refine r0 [] [(22,.bool (decide ((k:Int)<8)))] [] ?_;refine cc (k:Int) 8 (λp n=>?_) λp n=>?_
 ·exact r0 [] [(12,iN k)] [] (rr (λd=>[(1,.m (ls 2 (rB 72 xs))),(4,.c [] [6] (DS xs (by(simp only[LL,nh,k4,o];done)) k Om)),(6,.c [0,1,6] [] (aa.at (rd':=[ob i #[pt g 0,pt j 0] 242,ob g (rB 74 (a6 10)++rI 256 (bL 10)).toArray 298,bC ((d 4).val 0) ((xs.drop (9*k)).take 9)]) (NX i g j ((d 4).val 0) ((xs.drop (9*k)).take 9) (by(simp only[LL,nh,k4,o];omega)) x) (atS (atS (bP (λ_ h=>ar.sq h) (λ_ h=>h)))))),]) (λ_=>[(13,u6 (((fL (aE ((xs.drop (9*k)).take 9) 0 8) (((xs.drop (9*k)).take 9).getD 8 0) ((pc ((x%8388608).toNat)%2:Nat):Int) (a6 10) (bL 10)):Nat):Int)),(14,i6 (j7 ((xs.drop (9*k)).take 9) x))]) [] (λd L=>L++[bC ((d 4).val 0) ((xs.drop (9*k)).take 9)]) λd=>rs [(2,iA 320 .i64 (B0 e) 0 8 1 k),(3,wD 4 (B0 e) k 320 (u6 (((fL (aE ((xs.drop (9*k)).take 9) 0 8) (((xs.drop (9*k)).take 9).getD 8 0) ((pc ((x%8388608).toNat)%2:Nat):Int) (a6 10) (bL 10)):Nat):Int)) (rW 8 (eT 0 8 (dW xs x) k)) (rW 8 ((eT 0 8 (dW xs x) k).set k (fL (aE ((xs.drop (9*k)).take 9) 0 8) (((xs.drop (9*k)).take 9).getD 8 0) ((pc ((x%8388608).toNat)%2:Nat):Int) (a6 10) (bL 10)))) (jT Om) (I8 (nh ..)))] 4 (ob (B0 e) (rW 8 ((eT 0 8 (dW xs x) k).set k (fL (aE ((xs.drop (9*k)).take 9) 0 8) (((xs.drop (9*k)).take 9).getD 8 0) ((pc ((x%8388608).toNat)%2:Nat):Int) (a6 10) (bL 10)))).toArray 320) (rr (λ_=>[(2,.m (bs 7 1)),(3,e7 kI (a) ((YW k).map (dK xs x)) 5 7 ([(j7 ((xs.drop (9*k)).take 9) x)]))]) (λb=>[(10,(b 3).val 0)]) [10] (λb L=>L.set 5 (dk ((b 3).val 0) (((YW k).map (dK xs x))++([(j7 ((xs.drop (9*k)).take 9) x)])))++[ob (B2 b) #[i6 (j7 ((xs.drop (9*k)).take 9) x)] 3]) λb=>r0 [(0,ad k 1)] [(21,iN (k+1))] [21] (kS (k+1) ((b 3).val 0) Om Om Kr [0,1,2,3,4,5] (by rw[←N2 Om,Zt,ZU];kernel_rfl))))
 obtain rfl:k=8:=by omega
 refine kT ?_;exact rr (λ_=>[(0,.l 4),(1,.c [] [] (NL (eT 0 8 (dW xs x) 8) (by(simp only[LL,nh,k4,o];done)) (N6 Dc (N5 xs x)))),(3,.s 3)]) (λ_=>[(9,a)]) [9] (λ_ L=>L.set 3 (ob (B1 f) (rB 64 (b6 64 (ib (eT 0 8 (dW xs x) 8)) (8*8))).toArray 43)) λt=>lf (.l [] [] [a]) [5] [(0,0),(1,1)] [3]
theorem Od(q v o g:Nat)(u:Value)(xs:List UInt8)(i:xs.length=72)(x:Int)(h0: -9223372036854775808≤x)(h1:x≤9223372036854775807):aa YV 151 #[pt q 0,i6 2,.agg (rB 72 xs).toArray,i6 x] [ob q #[pt v 0,pt o 0] 242,ob o #[pt g 0,u] 309,ob g (rB 255 aQ++rN 256 aW).toArray 312,.p (aP eB u cu)] [] (λE=>[dk (E.val 0) ((YW 2).map (cK xs x))]) (λE=> .tuple #[.agg (rB 64 (fx (iI xs x) 2)).toArray,(E.val 0)]):=by
 refine fO Tryz.func151 3 rfl λr z=>fG Tryz.func151 λw D=>ra (λn=>[(6,pt (B0 n) 0),(8,pt (B1 n) 0),(9,.slice none 0 0)]) (λn=>[ob (B0 n) (rB 72 xs).toArray 217,ob (B1 n) (rB 64 z6).toArray 43]) λn=>r0 [] [(10,.slice none 0 0)] [] (rF [] 20 (ra (λj=>[(15,pt (B0 j) 0)]) (λj=>[ob (B0 j) (rB 64 z6).toArray 324]) λj=>r0 [] [(45,i6 0)] [] (cz kI ?_)));refine mv (λk _=>k≤2) (λk a=>[(45,iN k),(10,a)]) (λk a L=>(L.set 6 (ob (B0 j) (rB 64 (fx (iI xs x) k)).toArray 324)).set 7 (dk a ((YW k).map (cK xs x)))) (λk _=>2-k) 0 (.slice none 0 0) Om Kr (by rw[N8];kernel_rfl) (λk a y=>?_);have B:((YW k).map (cK xs x)).length=k:=by rw[Y1,Zc]
 have e:=u4 (r5 i x) y;refine r0 [] [(46,.bool (decide ((k:Int)<2)))] [] ?_;refine cc (k:Int) 2 (λA t=>?_) λA t=>?_
 ·refine r0 [] [(16,iN k)] [] ?_;have d:(fK ((xs.drop (36*k)).take 36) (bT x false)).length=32:=yJ (ni i Om);exact rr (λb=>[(1,.m (ls 4 (rB 72 xs))),(4,.c [] [8] (DT xs (by(simp only[LL,d,e,i];done)) k Om)),(6,.c [0,1,2,3,8] [] (aa.at (rd':=[ob q #[pt v 0,pt o 0] 242,ob o #[pt g 0,u] 309,ob g (rB 255 aQ++rN 256 aW).toArray 312,.c r,bC ((b 4).val 0) ((xs.drop (36*k)).take 36)]) (N1 q v o g u ((b 4).val 0) ((xs.drop (36*k)).take 36) (by(simp only[LL,d,e,i];omega)) x Om Om) (atS (atS (atS (ei z (bP (λ_ h=>ar.sq h) (λ_ h=>h)))))))),(10,.m (al 9)),(11,.s 9)]) (λb=>[(17,pt ((b 10).y 0) 0),(18,i6 (ng ((xs.drop (36*k)).take 36) x))]) [] (λb L=>L++[bC ((b 4).val 0) ((xs.drop (36*k)).take 36),ob ((b 10).y 0) (rB 32 (fK ((xs.drop (36*k)).take 36) (bT x false))).toArray 267]) λb=>rs [(1,.l 9),(2,iA 324 .i64 (B0 j) 0 2 32 k),(3,.m (sg 6 (B0 j) (0+k*32) 324 (rB 32 (fK ((xs.drop (36*k)).take 36) (bT x false))) (rB 64 (fx (iI xs x) k)).toArray (rB 64 ((fx (iI xs x) k).take (0+k*32)++(fK ((xs.drop (36*k)).take 36) (bT x false))++(fx (iI xs x) k).drop (0+k*32+32))).toArray (Jo (λ_=>rfl) (show(fx (iI xs x) k).length=64 by(simp only[LL,d,e,i];done)) (show(fK ((xs.drop (36*k)).take 36) (bT x false)).length=32 by(simp only[LL,d,e,i];done)) Om) (Jp (λ_=>rfl) Om) (Jq (λ_=>rfl) (show(fK ((xs.drop (36*k)).take 36) (bT x false)).length=32 by(simp only[LL,d,e,i];done)))))] 6 (ob (B0 j) (rB 64 ((fx (iI xs x) k).take (0+k*32)++(fK ((xs.drop (36*k)).take 36) (bT x false))++(fx (iI xs x) k).drop (0+k*32+32))).toArray 324) (rr (λ_=>[(2,.m (bs 10 1)),(3,e7 kI (a) ((YW k).map (cK xs x)) 7 10 ([(ng ((xs.drop (36*k)).take 36) x)]))]) (λf=>[(10,(f 3).val 0)]) [10] (λf L=>L.set 7 (dk ((f 3).val 0) (((YW k).map (cK xs x))++([(ng ((xs.drop (36*k)).take 36) x)])))++[ob (B2 f) #[i6 (ng ((xs.drop (36*k)).take 36) x)] 3]) λf=>r0 [(0,ad k 1)] [(45,iN (k+1))] [45] (kS (k+1) ((f 3).val 0) Om Om Kr [0,1,2,3,4,5,6,7] (by rw[←N7 (r5 i x),D1 Om,Zt,ZU];kernel_rfl)))
 obtain rfl:k=2:=by omega
 refine kT ?_;have d:=trivial;exact rr (λ_=>[(0,.l 6),(1,.c [] [] (NU (fx (iI xs x) 2) (by(simp only[LL,d,e,i];done)))),(3,.s 5)]) (λ_=>[(9,a)]) [9] (λ_ L=>L.set 5 (ob (B1 n) (rB 64 (fx (iI xs x) 2)).toArray 43)) λC=>lf (.l [] [] [a]) [7] [(0,0),(1,1),(2,2),(3,3)] [5]
def oY(xs:List UInt8)(x:Int):List UInt8:=(bif decide (2≤(jK ((YW 8).map (dK xs x)))) then YY 64 0 else b6 64 (ib (eT 0 8 (dW xs x) 8)) (8*8))
theorem Oe(e i j:Nat)(xs:List UInt8)(m:xs.length=72)(x:Int):aa YV 124 #[pt e 0,i6 1,.agg (rB 72 xs).toArray,i6 x] [ob e #[pt i 0,pt j 0] 242,ob i (rB 74 (a6 10)++rI 256 (bL 10)).toArray 298] [] N0 (λ_=> .tuple #[.agg (rB 64 (oY xs x)).toArray,.agg #[i6 (jK ((YW 8).map (dK xs x))),i6 (gx ((YW 8).map (dK xs x)))]]):=by
 refine fG Tryz.func124 λw n=>ra (λa=>[(6,pt (B0 a) 0),(8,pt (B1 a) 0),(9,pt (B2 a) 0)]) (λa=>[ob (B0 a) (rB 72 xs).toArray 217,ob (B1 a) (rB 64 z6).toArray 43,ob (B2 a) #[i6 0,i6 0] 79]) λa=>r0 [(1,.c [] [] (oW 1))] [(15,.bool (!((1==1)||(1==2))))] [] ?_;have k:(!((1==1)||(1==2)))=false:=by decide
 refine cF (!((1==1)||(1==2))) k (rr (λ_=>[(2,.l 2),(4,.c [0,1] [5] (Ob e i j xs (by(simp only[LL,k4,m];done)) x)),(9,.s 6)]) (λb=>[(10,pt ((b 8).y 0) 0),(11,((b 4).val 0))]) [] (λb L=>L++[dk ((b 4).val 0) ((YW 8).map (dK xs x)),ob ((b 8).y 0) (rB 64 (b6 64 (ib (eT 0 8 (dW xs x) 8)) (8*8))).toArray 43]) λb=>rr (λ_=>[(1,.c [5] [] (aa.at (rd':=[dk ((b 4).val 0) ((YW 8).map (dK xs x))]) (DW ((b 4).val 0) ((YW 8).map (dK xs x)) (by rw[Y1,Zc];omega)) (bP (λ_ h=>ar.sq h) (λ_ h=>h)))),(3,.s 7)]) (λd=>[(12,pt (B2 d) 0)]) [] (λd L=>L++[ob (B2 d) #[i6 (jK ((YW 8).map (dK xs x))),i6 (gx ((YW 8).map (dK xs x)))] 79]) λd=>r0 [(1,.l 7)] [(30,.bool (decide (2≤(jK ((YW 8).map (dK xs x))))))] [] ?_);refine oI 2 (jK ((YW 8).map (dK xs x))) (λg f=>?_) λg f=>?_
 ·exact rr (λ_=>[(1,.l 7),(2,.s 3),(3,.s 4)]) N0 [] (λ_ L=>L.set 4 (ob (B2 a) #[i6 (jK ((YW 8).map (dK xs x))),i6 (gx ((YW 8).map (dK xs x)))] 79)) λo=>aq (.tuple #[.agg (rB 64 z6).toArray,.agg #[i6 (jK ((YW 8).map (dK xs x))),i6 (gx ((YW 8).map (dK xs x)))]]) ab.zero (by((try simp only[oY]);(repeat (first | rw[g] | rw[ALct])))<;>rfl) [] [(0,0),(1,1)] [3,4]
 exact rr (λ_=>[(0,.l 6),(1,.l 7),(2,.s 3),(3,.s 4)]) N0 [] (λ_ L=>(L.set 3 (ob (B1 a) (rB 64 (b6 64 (ib (eT 0 8 (dW xs x) 8)) (8*8))).toArray 43)).set 4 (ob (B2 a) #[i6 (jK ((YW 8).map (dK xs x))),i6 (gx ((YW 8).map (dK xs x)))] 79)) λp=>aq (.tuple #[.agg (rB 64 (b6 64 (ib (eT 0 8 (dW xs x) 8)) (8*8))).toArray,.agg #[i6 (jK ((YW 8).map (dK xs x))),i6 (gx ((YW 8).map (dK xs x)))]]) ab.zero (by((try simp only[oY]);(repeat (first | rw[g] | rw[ALcf])))<;>rfl) [] [(0,0),(1,1)] [3,4]
def oZ(xs:List UInt8)(x:Int):List UInt8:=(bif decide (2≤(jK ((YW 2).map (cK xs x)))) then YY 64 0 else fx (iI xs x) 2)
theorem Of(e n d g:Nat)(u:Value)(xs:List UInt8)(q:xs.length=72)(x:Int)(h0: -9223372036854775808≤x)(h1:x≤9223372036854775807):aa YV 124 #[pt e 0,i6 2,.agg (rB 72 xs).toArray,i6 x] [ob e #[pt n 0,pt d 0] 242,ob d #[pt g 0,u] 309,ob g (rB 255 aQ++rN 256 aW).toArray 312,.p (aP eB u cu)] [] N0 (λ_=> .tuple #[.agg (rB 64 (oZ xs x)).toArray,.agg #[i6 (jK ((YW 2).map (cK xs x))),i6 (gx ((YW 2).map (cK xs x)))]]):=by
 have i:=u4 (r5 q x) (Zj 2);refine fO Tryz.func124 3 rfl λj o=>fG Tryz.func124 λw t=>ra (λa=>[(6,pt (B0 a) 0),(8,pt (B1 a) 0),(9,pt (B2 a) 0)]) (λa=>[ob (B0 a) (rB 72 xs).toArray 217,ob (B1 a) (rB 64 z6).toArray 43,ob (B2 a) #[i6 0,i6 0] 79]) λa=>r0 [(1,.c [] [] (oW 2))] [(15,.bool (!((2==1)||(2==2))))] [] ?_;have r:(!((2==1)||(2==2)))=false:=by decide
 refine cF (!((2==1)||(2==2))) r (rr (λ_=>[(2,.l 4),(4,.c [0,1,2,3] [7] (aa.at (rd':=[ob e #[pt n 0,pt d 0] 242,ob d #[pt g 0,u] 309,ob g (rB 255 aQ++rN 256 aW).toArray 312,.c j]) (Od e n d g u xs (by(simp only[LL,i,q];done)) x Om Om) (atS (atS (atS (ei o (λ_ h=>h))))))),(9,.s 8)]) (λb=>[(10,pt ((b 8).y 0) 0),(11,((b 4).val 0))]) [] (λb L=>L++[dk ((b 4).val 0) ((YW 2).map (cK xs x)),ob ((b 8).y 0) (rB 64 (fx (iI xs x) 2)).toArray 43]) λb=>rr (λ_=>[(1,.c [7] [] (aa.at (rd':=[dk ((b 4).val 0) ((YW 2).map (cK xs x))]) (DW ((b 4).val 0) ((YW 2).map (cK xs x)) (by rw[Y1,Zc];omega)) (bP (λ_ h=>ar.sq h) (λ_ h=>h)))),(3,.s 9)]) (λf=>[(12,pt (B2 f) 0)]) [] (λf L=>L++[ob (B2 f) #[i6 (jK ((YW 2).map (cK xs x))),i6 (gx ((YW 2).map (cK xs x)))] 79]) λf=>r0 [(1,.l 9)] [(30,.bool (decide (2≤(jK ((YW 2).map (cK xs x))))))] [] ?_);refine oI 2 (jK ((YW 2).map (cK xs x))) (λm k=>?_) λm k=>?_
 ·exact rr (λ_=>[(1,.l 9),(2,.s 5),(3,.s 6)]) N0 [] (λ_ L=>L.set 6 (ob (B2 a) #[i6 (jK ((YW 2).map (cK xs x))),i6 (gx ((YW 2).map (cK xs x)))] 79)) λv=>aq (.tuple #[.agg (rB 64 z6).toArray,.agg #[i6 (jK ((YW 2).map (cK xs x))),i6 (gx ((YW 2).map (cK xs x)))]]) ab.zero (by((try simp only[oZ]);(repeat (first | rw[m] | rw[ALct])))<;>rfl) [] [(0,0),(1,1),(2,2),(3,3)] [5,6]
 exact rr (λ_=>[(0,.l 8),(1,.l 9),(2,.s 5),(3,.s 6)]) N0 [] (λ_ L=>(L.set 5 (ob (B1 a) (rB 64 (fx (iI xs x) 2)).toArray 43)).set 6 (ob (B2 a) #[i6 (jK ((YW 2).map (cK xs x))),i6 (gx ((YW 2).map (cK xs x)))] 79)) λy=>aq (.tuple #[.agg (rB 64 (fx (iI xs x) 2)).toArray,.agg #[i6 (jK ((YW 2).map (cK xs x))),i6 (gx ((YW 2).map (cK xs x)))]]) ab.zero (by((try simp only[oZ]);(repeat (first | rw[m] | rw[ALcf])))<;>rfl) [] [(0,0),(1,1),(2,2),(3,3)] [5,6]
end
section
open Go Go.RowKit Go.Shelf
def bf(n:Nat)(f:Nat→List UInt8)(k:Nat):List UInt8:=(YW k).flatMap f++YY (72-n*k) 0
theorem n7{n:Nat}{f:Nat→List UInt8}(h: ∀i,(f i).length=n){k:Nat}(a:n*k≤72):(bf n f k).length=72:=by
 unfold bf;rw[YZ,u3 h,Zf];omega
theorem D2{n:Nat}{f:Nat→List UInt8}(h: ∀i,(f i).length=n){k m:Nat}(a:m=n):(bf n f k).take (n*k)++f k++(bf n f k).drop (n*k+m)=bf n f (k+1):=by subst a;exact D0 h
theorem D3(n:Nat)(f:Nat→List UInt8):bf n f 0=YY 72 0:=rfl
def dP(l:List UInt8)(x:Int)(p:Bool)(k:Nat):List UInt8:=ia (aE l (8*k) 8) 8++[bl (aE l (8*k) 8) ((pc ((x%8388608).toNat)%2:Nat):Int) (dX p) (a6 10)]
theorem n8(l:List UInt8)(x:Int)(p:Bool)(k:Nat):(dP l x p k).length=9:=by unfold dP;rw[YZ,jL];rfl
def cN(l:List UInt8)(x:Int)(p:Bool)(k:Nat):List UInt8:=if k<2 then gQ ((l.drop (32*k)).take 32) (bT x p)++(l.drop (32*k)).take 32 else YY 36 0
theorem o0{l:List UInt8}(a:l.length=64)(x:Int)(p:Bool)(k:Nat):(cN l x p k).length=36:=by
 unfold cN
 split
 ·rw[YZ,h8,Y0,Zb];omega
 ·rfl
theorem YB{l:List UInt8}{x:Int}{p:Bool}{k:Nat}(h:k<2):cN l x p k=gQ ((l.drop (32*k)).take 32) (bT x p)++(l.drop (32*k)).take 32:=ALifp h
attribute [local irreducible] dd c7 bl fL aE ia fK aR gQ a6 bL cu aQ aW bT fk cM eM j7 ng eT fx b6 jK jF dX bf
theorem Og(e j y:Nat)(l:List UInt8)(f:l.length=64)(x:Int)(p:Bool):aa YV 125 #[pt e 0,i6 1,.agg (rB 64 l).toArray,i6 x,.bool p] [ob e #[pt j 0,pt y 0] 242,ob j (rB 74 (a6 10)++rI 256 (bL 10)).toArray 298] [] N0 (λ_=> .agg (rB 72 (bf 9 (dP l x p) 8)).toArray):=by
 have a:=True.intro;refine fG Tryz.func125 λw G=>ra (λd=>[(5,pt (B0 d) 0),(6,pt (B1 d) 0),(7,pt (B2 d) 0),(9,pt (B3 d) 0),(10,pt (B4 d) 0)]) (λd=>[ob (B0 d) #[pt e 0] 116,ob (B1 d) #[i6 1] 3,ob (B2 d) (rB 64 l).toArray 43,ob (B3 d) #[.bool p] 4,ob (B4 d) (rB 72 (YY 72 0)).toArray 217]) λd=>ra (λg=>[(11,pt (B0 g) 0)]) (λg=>[ob (B0 g) (rB 72 (YY 72 0)).toArray 217]) λg=>r0 [(0,.l 3)] [(19,i6 1)] [] (rT [] 20 (rr (λ_=>[(1,.c [] [] (uY x)),(3,.s 8)]) (λo=>[(12,pt (B2 o) 0)]) [] (λo L=>L++[ob (B2 o) #[iN (pc ((x%8388608).toNat)%2)] 3]) λo=>rr (λ_=>[(0,.l 4),(1,.c [] [9] (NF l (by(simp only[LL,jL,iY,jJ,a,f];done))))]) (λi=>[(25,.func (.func 200) #[] #[pt ((B1 i)) 0])]) [] (λi L=>L++[ob (B1 i) (rB 64 l).toArray 43]) λi=>?_));refine nR (encs:=λ(x:Nat×Nat)=>#[i6 (x.1:Int),u6 (x.2:Int)]) (xs:=(YW 8).map λk=>(k,aE l (8*k) 8)) (KO:=[[((B1 i),.cells (rB 64 l).toArray 43 (0,0))]]) (ND (B1 i) l (by(simp only[LL,jL,iY,jJ,a,f];done))) (enters_of Tryz.func200 Kr rfl) (λk=>k≤8) (λk L=>L.set 7 (ob (B0 g) (rB 72 (bf 9 (dP l x p) k)).toArray 217)) [9] Om (by rw[D3];kernel_rfl) (λH k I B D t r=>?_) (λA r=>?_)
 ·obtain⟨u,rfl⟩:=mi t;have q:=pX l (8*k) (k:=8) Dc;have z:=jL (aE l (8*k) 8) 8;have a:=n7 (n:=9) (n8 l x p) (k:=k) Om;refine r0 [] [(13,iN k)] [] (r0 [] [(14,u6 ((aE l (8*k) 8:Nat):Int))] [] ?_);refine ag [9] (λC F=>?_);exact rr (λb=>[(0,.m (ls 7 (rB 72 (bf 9 (dP l x p) k)))),(1,.m (ld 3 (i6 1))),(2,.v (iN k)),(3,.v (u6 ((aE l (8*k) 8:Nat):Int))),(4,.c [] [10] (Nu (aE l (8*k) 8) Om)),(5,.m (ld 2 (pt e 0))),(6,.v (pt e 0)),(7,.v (pt e 0)),(8,.m (ld 0 (pt j 0))),(9,.v (u6 ((aE l (8*k) 8:Nat):Int))),(10,.m (ld 8 (iN (pc ((x%8388608).toNat)%2)))),(11,.m (ld 5 (.bool p))),(12,.c [] [] (DO p)),(13,.c [1] [] (DN j (aE l (8*k) 8) ((pc ((x%8388608).toNat)%2:Nat):Int) (dX p) (a6 10) (bL 10) q (by(simp only[LL,jL,iY,jJ,a,f];done)) (by(simp only[LL,jL,iY,jJ,a,f];done)))),(14,.m (bs 11 1)),(15,e7 kB (((b 4).val 0)) (ia (aE l (8*k) 8) 8) 10 11 ([(bl (aE l (8*k) 8) ((pc ((x%8388608).toNat)%2:Nat):Int) (dX p) (a6 10))])),(16,.c [10] [] (aa.at (rd':=[bC ((b 15).val 0) ((ia (aE l (8*k) 8) 8)++([(bl (aE l (8*k) 8) ((pc ((x%8388608).toNat)%2:Nat):Int) (dX p) (a6 10))]))]) (NI (bf 9 (dP l x p) k) ((ia (aE l (8*k) 8) 8)++([(bl (aE l (8*k) 8) ((pc ((x%8388608).toNat)%2:Nat):Int) (dX p) (a6 10))])) ((b 15).val 0) (by(simp only[LL,jL,iY,jJ,a,f];done)) k Om (by(simp only[LL,jL,iY,jJ,a,f];done))) (bP (λ_ h=>ar.sq h) (λ_ h=>h)))),(17,.s 7)]) N0 [] (λb L=>L.set 7 (ob (B0 g) (rB 72 ((bf 9 (dP l x p) k).take (9*k)++((ia (aE l (8*k) 8) 8)++([(bl (aE l (8*k) 8) ((pc ((x%8388608).toNat)%2:Nat):Int) (dX p) (a6 10))]))++(bf 9 (dP l x p) k).drop ((9*k)+((ia (aE l (8*k) 8) 8)++([(bl (aE l (8*k) 8) ((pc ((x%8388608).toNat)%2:Nat):Int) (dX p) (a6 10))])).length))).toArray 217)++[bC ((b 15).val 0) ((ia (aE l (8*k) 8) 8)++([(bl (aE l (8*k) 8) ((pc ((x%8388608).toNat)%2:Nat):Int) (dX p) (a6 10))])),ob ((b 14).y 0) #[u1 ((bl (aE l (8*k) 8) ((pc ((x%8388608).toNat)%2:Nat):Int) (dX p) (a6 10)).toNat:Int)] 5]) λb=>ne _ ⟨Om,rfl⟩ [0,1,2,3,4,5,6,7,8,9] (by rw[←D2 (n8 l x p) (n8 l x p k)];unfold dP;kernel_rfl)
 have a:=n7 (n:=9) (n8 l x p) (k:=8) Om;exact rs [(0,.l 7),(1,.s 6)] 6 (ob (B4 d) (rB 72 (bf 9 (dP l x p) 8)).toArray 217) (lf ab.zero [] [(0,0),(1,1)] [6])
theorem Oh(y D r g:Nat)(u:Value)(l:List UInt8)(e:l.length=64)(x:Int)(h0: -9223372036854775808≤x)(h1:x≤9223372036854775807)(p:Bool):aa YV 125 #[pt y 0,i6 2,.agg (rB 64 l).toArray,i6 x,.bool p] [ob y #[pt D 0,pt r 0] 242,ob r #[pt g 0,u] 309,ob g (rB 255 aQ++rN 256 aW).toArray 312,.p (aP eB u cu)] [] N0 (λ_=> .agg (rB 72 (bf 36 (cN l x p) 2)).toArray):=by
 have a:=True.intro;have b:=True.intro;refine fO Tryz.func125 3 rfl λv B=>fG Tryz.func125 λw K=>ra (λf=>[(5,pt (B0 f) 0),(6,pt (B1 f) 0),(7,pt (B2 f) 0),(9,pt (B3 f) 0),(10,pt (B4 f) 0)]) (λf=>[ob (B0 f) #[pt y 0] 116,ob (B1 f) #[i6 2] 3,ob (B2 f) (rB 64 l).toArray 43,ob (B3 f) #[.bool p] 4,ob (B4 f) (rB 72 (YY 72 0)).toArray 217]) λf=>ra (λo=>[(11,pt (B0 o) 0)]) (λo=>[ob (B0 o) (rB 72 (YY 72 0)).toArray 217]) λo=>r0 [(0,.l 5)] [(19,i6 2)] [] (rF [] 20 (rT [] 45 (rr (λ_=>[(1,.l 7),(2,.c [] [] (DP x Om Om p)),(4,.s 10)]) (λt=>[(15,pt (B3 t) 0)]) [] (λt L=>L++[ob (B3 t) (rB 3 (bT x p)).toArray 262]) λt=>rr (λ_=>[(0,.l 6),(1,.c [] [11] (NG l (by(simp only[LL,a,h8,k5,b,e];done))))]) (λq=>[(51,.func (.func 202) #[] #[pt ((B1 q)) 0])]) [] (λq L=>L++[ob (B1 q) (rB 64 l).toArray 43]) λq=>?_)));refine nR (encs:=λ(x:Nat×List UInt8)=>#[i6 (x.1:Int),.agg (rB 32 x.2).toArray]) (xs:=(YW 2).map λk=>(k,(l.drop (32*k)).take 32)) (KO:=[[((B1 q),.cells (rB 64 l).toArray 43 (0,0))]]) (NH (B1 q) l (by(simp only[LL,a,h8,k5,b,e];done))) (enters_of Tryz.func202 Kr rfl) (λk=>k≤2) (λk L=>L.set 9 (ob (B0 o) (rB 72 (bf 36 (cN l x p) k)).toArray 217)) [11] Om (by rw[D3];kernel_rfl) (λM k N G I C z=>?_) (λF z=>?_)
 ·obtain⟨A,rfl⟩:=mi C;have a:=n7 (n:=36) (o0 e x p) (k:=k) Om;have b:((l.drop (32*k)).take 32).length=32:=by rw[Y0,Zb];omega
  refine r0 [] [(16,iN k)] [] (rr (λ_=>[(1,.s 12)]) (λd=>[(17,pt (B0 d) 0)]) [] (λd L=>L++[ob (B0 d) (rB 32 ((l.drop (32*k)).take 32)).toArray 267]) λd=>?_);refine ag [11] (λH J=>?_);exact rr (λ_=>[(0,.l 4),(3,.l 0),(4,.l 12),(5,.l 10),(6,.c [1,2,3] [] (aa.at (rd':=[ob r #[pt g 0,u] 309,ob g (rB 255 aQ++rN 256 aW).toArray 312,.c v]) (M1 r g u ((l.drop (32*k)).take 32) (bT x p) (by(simp only[LL,a,h8,k5,b,e];done)) (by(simp only[LL,a,h8,k5,b,e];done))) (atS (atS (ei B (λ_ h=>h)))))),(8,.s 13)]) (λi=>[(18,pt (B7 i) 0)]) [] (λi L=>L++[ob (B7 i) (rB 4 (gQ (((l.drop (32*k)).take 32)) ((bT x p)))).toArray 268]) λi=>rr (λj=>[(0,.l 9),(1,.l 5),(3,aS 268 (B7 i) 4 1),(4,aS 267 (B0 d) 32 1),(5,.m (KQ kB 14 13 12 (B7 i) 4 (rB 4 (gQ (((l.drop (32*k)).take 32)) ((bT x p)))).toArray 268 (gQ (((l.drop (32*k)).take 32)) ((bT x p))) ((l.drop (32*k)).take 32) (.slice (some ⟨(d 0).y 0,0,none⟩) 32 32) (ob (B0 d) (rB 32 ((l.drop (32*k)).take 32)).toArray 267) (λ_ h=>by rw[show _=_ from h];exact oL (λ_=>rfl) (show((l.drop (32*k)).take 32).length=32 by(simp only[LL,a,h8,k5,b,e];done))) (h8 ..) (BN (h8 ..)) (by rw[(show((l.drop (32*k)).take 32).length=32 by(simp only[LL,a,h8,k5,b,e];done))];omega) (by rw[(h8 ..),(show((l.drop (32*k)).take 32).length=32 by(simp only[LL,a,h8,k5,b,e];done))];omega))),(6,.c [14] [] (aa.at (rd':=[bC ((j 5).val 0) ((gQ (((l.drop (32*k)).take 32)) ((bT x p)))++((l.drop (32*k)).take 32))]) (NJ (bf 36 (cN l x p) k) ((gQ (((l.drop (32*k)).take 32)) ((bT x p)))++((l.drop (32*k)).take 32)) ((j 5).val 0) (by(simp only[LL,a,h8,k5,b,e];done)) k Om (by(simp only[LL,a,h8,k5,b,e];done))) (bP (λ_ h=>ar.sq h) (λ_ h=>h)))),(7,.s 9)]) N0 [] (λj L=>L.set 9 (ob (B0 o) (rB 72 ((bf 36 (cN l x p) k).take (36*k)++((gQ (((l.drop (32*k)).take 32)) ((bT x p)))++((l.drop (32*k)).take 32))++(bf 36 (cN l x p) k).drop ((36*k)+((gQ (((l.drop (32*k)).take 32)) ((bT x p)))++((l.drop (32*k)).take 32)).length))).toArray 217)++[bC ((j 5).val 0) ((gQ (((l.drop (32*k)).take 32)) ((bT x p)))++((l.drop (32*k)).take 32))]) λj=>ne _ ⟨Om,rfl⟩ [0,1,2,3,4,5,6,7,8,9,10,11] (by rw[←D2 (o0 e x p) (o0 e x p k),YB Om];kernel_rfl)
 have a:=n7 (n:=36) (o0 e x p) (k:=2) Om;exact rs [(0,.l 9),(1,.s 8)] 8 (ob (B4 f) (rB 72 (bf 36 (cN l x p) 2)).toArray 217) (lf ab.zero [] [(0,0),(1,1),(2,2),(3,3)] [8])
end
end E
def yK:Nat→Nat→Nat→List Nat
 | 0,_,_=>[]
 | m+1,x,k=>if pc x=k then x::yK m (x+1) k else yK m (x+1) k
def choose(n k:Nat):List Nat:=yK (2^n) 0 k
namespace Hs
def r6(s:List Nat×List Int)(i x:Nat):List Nat×List Int:=(s.1.set i x,s.2.set x (i:Int))
def Oi:List Nat×List Int:=(YY 74 0,YY 256 (-1))
def hA:Nat→List Nat×List Int
 | 0=>Oi
 | k+1=>r6 (hA k) (64+k) (2^k)
def hB:Nat→List Nat×List Int
 | 0=>hA 8
 | k+1=>r6 (hB k) k ((choose 8 3).getD k 0)
def Oj(k:Nat):Nat:=if k<8 then 56+k else 64+k
def hC:Nat→List Nat×List Int
 | 0=>hB 56
 | k+1=>r6 (hC k) (Oj k) ((choose 8 5).getD k 0)
def yL:List Nat:=(hC 10).1
def hats:List Int:=(hC 10).2
theorem pY(s:List Nat×List Int)(i x:Nat):(r6 s i x).1.length=s.1.length∧(r6 s i x).2.length=s.2.length:=⟨Ze,Ze⟩
theorem Ok(k:Nat):(hA k).1.length=74∧(hA k).2.length=256:=by
 induction k with
 | zero=>exact⟨Zf,Zf⟩
 | succ k ih=>rw[hA];exact⟨(pY _ _ _).1.trans ih.1,(pY _ _ _).2.trans ih.2⟩
theorem Ol(k:Nat):(hB k).1.length=74∧(hB k).2.length=256:=by
 induction k with
 | zero=>exact Ok 8
 | succ k ih=>rw[hB];exact⟨(pY _ _ _).1.trans ih.1,(pY _ _ _).2.trans ih.2⟩
theorem On(k:Nat):(hC k).1.length=74∧(hC k).2.length=256:=by
 induction k with
 | zero=>exact Ol 56
 | succ k ih=>rw[hC];exact⟨(pY _ _ _).1.trans ih.1,(pY _ _ _).2.trans ih.2⟩
theorem hcols_len:yL.length=74:=(On 10).1
def col(i:Nat):Nat:=yL.getD i 0
def atS(s:Nat):Int:=hats.getD s (-1)
def hcolL:List Nat:=[7,11,13,14,19,21,22,25,26,28,35,37,38,41,42,44,49,50,52,56,67,69,70,73,74,76,81,82,84,88,97,98,100,104,112,131,133,134,137,138,140,145,146,148,152,161,162,164,168,176,193,194,196,200,208,224,31,47,55,59,61,62,79,87,1,2,4,8,16,32,64,128,91,93]
theorem hcols_eq:yL=hcolL:=by decide+kernel
theorem D5: ∀i,i<74→hcolL.getD i 0<256∧0<hcolL.getD i 0:=by decide+kernel
theorem D6(i:Nat):col i<256:=by
 rcases ZF i 74 with h | h
 ·unfold col;rw[hcols_eq];exact(D5 i h).1
 ·unfold col;rw[YU,Y8 (by rw[hcols_len];exact h)];decide
theorem col_pos{i:Nat}(h:i<74):0<col i:=by unfold col;rw[hcols_eq];exact(D5 i h).2
theorem Oo: ∀i,i<74→hats.getD (hcolL.getD i 0) (-1)=(i:Int):=by decide+kernel
theorem at_col{i:Nat}(h:i<74):atS (col i)=(i:Int):=by unfold atS col;rw[hcols_eq];exact Oo i h
theorem Oq: ∀i,i<74→pc (hcolL.getD i 0)%2=1:=by decide+kernel
theorem col_odd{i:Nat}(h:i<74):pc (col i)%2=1:=by unfold col;rw[hcols_eq];exact Oq i h
theorem Ot: ∀s,s<256→pc s%2=0→hats.getD s (-1)= -1:=by decide+kernel
theorem Ou{s:Nat}(h:s<256)(a:pc s%2=0):atS s= -1:=Ot s h a
theorem Ov: ∀j,j<8→hcolL.getD (64+j) 0=2^j:=by decide+kernel
theorem col_check{j:Nat}(h:j<8):col (64+j)=2^j:=by unfold col;rw[hcols_eq];exact Ov j h
def iZ:Nat→Nat→Nat→Nat
 | 0,_,_=>0
 | r+1,k,z=>(if z%2=1 then col k else 0)^^^iZ r (k+1) (z/2)
def cs(d:Nat):Nat:=iZ 64 0 d
theorem D7(a b c:Nat):(if(a^^^b)%2=1 then c else 0)=(if a%2=1 then c else 0)^^^(if b%2=1 then c else 0):=by
 rw[tp];rcases ZJ a with d | d<;>rcases ZJ b with e | e<;>rw[d,e]<;>simp
theorem Ow(a b c:Nat):a^^^(b^^^c)=b^^^(a^^^c):=by rw[←Zi,aao a b,Zi]
theorem Ox(r:Nat): ∀k a b,iZ r k (a^^^b)=iZ r k a^^^iZ r k b:=by
 induction r with
 | zero=>intro k a b;simp [iZ]
 | succ r ih=>
  intro k a b;rw[iZ,iZ,iZ,D7,AV,ih];simp only[Zi,Ow]
theorem cs_xor(a b:Nat):cs (a^^^b)=cs a^^^cs b:=Ox 64 0 a b
theorem csTo_zero(r:Nat): ∀k,iZ r k 0=0:=by
 induction r with
 | zero=>intro k;rfl
 | succ r ih=>intro k;rw[iZ];simp [ih]
theorem Oy(r:Nat): ∀k i,i<r→iZ r k (2^i)=col (k+i):=by
 induction r with
 | zero=>intro k i h;omega
 | succ r ih=>
  intro k i h;rw[iZ];cases i with
  | zero=>simp [csTo_zero]
  | succ i=>
   have a:2^(i+1)%2=0:=by rw[ZA];omega
   have b:2^(i+1)/2=2^i:=by rw[ZA];omega
   rw[a,b,ih (k+1) i Om,ALifn Dc,Zu]
   congr 1;omega
theorem cs_pow{i:Nat}(h:i<64):cs (2^i)=col i:=by unfold cs;rw[Oy 64 0 i h,Zp]
def xfold(s:Nat)(l:List Nat):Nat:=l.foldl (λs i=>s^^^col i) s
theorem xfold_ones(r:Nat): ∀k z s,xfold s (ft r k z)=s^^^iZ r k z:=by
 induction r with
 | zero=>intro k z s;simp [ft,iZ,xfold]
 | succ r ih=>
  intro k z s;rw[ft,iZ]
  split
  ·show xfold (s^^^col k) _=_;rw[ih,Zi]
  ·rw[ih,Zu]
theorem xfold_snoc(s:Nat)(l:List Nat)(i:Nat):xfold s (l++[i])=xfold s l^^^col i:=by simp [xfold]
def mark(a c:Nat):Nat:=if a%2=1 then col c else 0
def chk(d a p:Nat):Nat:=cs d^^^mark a 72^^^mark p 73
theorem mark_xor(a b c:Nat):mark (a^^^b) c=mark a c^^^mark b c:=D7 a b _
def verdict(s:Nat):Nat×Int:=
 if s=0 then(0, -1) else if atS s= -1 then(4, -1) else if atS s=72 then(3, -1) else if atS s=73 then(2, -1) else(1,atS s)
def low(a:Int):Nat:=(a%2).toNat
def decD(d:Nat)(v:Nat×Int):Nat:=if v.1=1∧v.2<64 then d^^^2^v.2.toNat else d
def tD(d i:Nat):Nat:=if i<64 then d^^^2^i else d
def tK(k i:Nat):Nat:=if 64≤i∧i<72 then k^^^2^(i-64) else k
theorem tD_lt{d:Nat}(i:Nat)(h:d<18446744073709551616):tD d i<18446744073709551616:=by
 unfold tD
 split
 ·exact Zh (n:=64) h (ZH Dc As)
 ·exact h
theorem tK_lt{k:Nat}(i:Nat)(h:k<256):tK k i<256:=by
 unfold tK
 split
 ·exact Zh (n:=8) h (ZH Dc Om)
 ·exact h
theorem Oz: ∀i,i<74→∀j,j<74→i≠j→hcolL.getD i 0^^^hcolL.getD j 0≠0:=by decide+kernel
theorem two_lost{i j:Nat}(b:i<74)(c:j<74)(h:i≠j):verdict (col i^^^col j)=(4, -1):=by
 have d:col i^^^col j≠0:=by
  unfold col;rw[hcols_eq];exact Oz i b j c h
 have a:col i^^^col j<256:=Zh (n:=8) (D6 i) (D6 j);have f:=AY (col i) (col j);have g:=col_odd b;have k:=col_odd c;have e:=Ou a Om;unfold verdict;rw[ALifn d,ALifp e]
theorem verdict_73:verdict (col 73)=(2, -1):=by
 unfold verdict;rw[ALifn (by have:=col_pos (i:=73) Om;omega),at_col Om];rfl
end Hs
namespace E
section
open Go Go.RowKit
def aT(mode:Int):Nat:=if mode=1 then 9 else if mode=2 then 36 else 0
def dB(mode:Int):Nat:=if mode=1 then 8 else if mode=2 then 2 else 0
def c8(mode:Int)(a b:UInt8):Nat:=if mode=1 then pc (a^^^b).toNat else if a=b then 0 else 1
theorem D8{n:Nat}(h:n<2^64):pc n=0↔n=0:=by
 constructor
 ·intro b;rcases Nat.eq_zero_or_pos n with a | a
  ·exact a
  ·have:=AX n a h;omega
 ·rintro rfl;exact wY
theorem OA(mode:Int)(a b:UInt8):c8 mode a b=c8 mode b a:=by
 unfold c8;rw[aaB];by_cases h:a=b
 ·subst h;rfl
 ·rw[ALifn h,ALifn (Ne.symm h)]
theorem D9{n:Nat}(h:n<256):pc n≤8:=by
 have a:pc n=dw 8 n:=(tn 8 n Om Om).symm;rw[a];exact AT 8 n
theorem OB(mode:Int)(a b:UInt8):c8 mode a b≤if mode=1 then 8 else 1:=by
 unfold c8
 split
 ·exact D9 (a^^^b).toNat_lt
 ·split<;>omega
def cd(f:Nat→Nat):Nat→Nat
 | 0=>0
 | k+1=>cd f k+f k
theorem yM{f g:Nat→Nat}: ∀n,(∀i,i<n→f i=g i)→cd f n=cd g n
 | 0,_=>rfl
 | n+1,h=>by rw[cd,cd,yM n (λi a=>h i Om),h n Om]
theorem yN{f:Nat→Nat}: ∀n,cd f n=0↔∀i,i<n→f i=0
 | 0=>⟨λ_ i a=>by omega,λ_=>rfl⟩
 | n+1=>by
  rw[cd]
  constructor
  ·intro h i a;by_cases e:i=n
   ·subst e;omega
   ·exact(yN n).1 Om i Om
  ·intro h;rw[(yN n).2 (λi a=>h i Om),h n Om]
def wC(mode:Int)(xs ys:List UInt8)(k:Nat):Nat:=cd (λj=>c8 mode (xs.getD (aT mode*k+j) 0) (ys.getD (aT mode*k+j) 0)) (aT mode)
def j8(mode:Int)(xs ys:List UInt8):Nat→Nat
 | 0=>0
 | k+1=>max (j8 mode xs ys k) (wC mode xs ys k)
def b0(mode:Int)(xs ys:List UInt8):Nat:=j8 mode xs ys (dB mode)
theorem u5{mode:Int}{xs ys:List UInt8}{m:Nat}: ∀k,j8 mode xs ys k≤m↔∀i,i<k→wC mode xs ys i≤m
 | 0=>⟨λ_ i a=>by omega,λ_=>Zz _⟩
 | k+1=>by
  rw[j8]
  constructor
  ·intro h i a;by_cases e:i=k
   ·subst e;omega
   ·exact(u5 k).1 Om i Om
  ·intro h;have b:=(u5 k).2 (λi a=>h i Om);have c:=h k Om;omega
theorem r7{mode:Int}{xs ys:List UInt8}(a:xs.length=72)(b:ys.length=72){m:Nat}:b0 mode xs ys≤m↔∀i,i<dB mode→wC mode xs ys i≤m:=u5 _
theorem r9{mode:Int}{xs ys:List UInt8}(b:xs.length=72)(c:ys.length=72){i:Nat}(a:i<dB mode):wC mode xs ys i≤b0 mode xs ys:=(r7 b c).1 (Zj _) i a
theorem Ea(mode:Int)(xs ys:List UInt8)(k:Nat):wC mode xs ys k=wC mode ys xs k:=yM _ λ_ _=>OA _ _ _
theorem OD{mode:Int}{xs ys:List UInt8}(a:xs.length=72)(b:ys.length=72):b0 mode xs ys=b0 mode ys xs:=by
 have d:=(r7 (mode:=mode) a b).2 λi c=>by rw[Ea];exact r9 b a c
 have e:=(r7 (mode:=mode) b a).2 λi c=>by rw[Ea];exact r9 a b c
 omega
end
section
open Go Go.RowKit Go.Shelf
theorem OE(x k:Nat):ia x (k+1)=ia x k++[UInt8.ofNat (x/256^k)]:=rfl
theorem Eb(a b:Nat):(a^^^b)/2=a/2^^^b/2:=Nat.xor_div_two
theorem OF(i:Nat):2^(i+1)/2=2^i:=by rw[ZA];omega
theorem OG(i:Nat):2^(i+1)%2=0:=by rw[ZA];omega
theorem OH(k:Nat): ∀n,n<2^k→n≠0→∃i,i<k∧dw k n=dw k (n^^^2^i)+1:=by
 induction k with
 | zero=>intro n a b;omega
 | succ k ih=>
  intro n a b;rw[ZA] at a;rcases ZJ n with h | h
  ·obtain⟨i,c,e⟩:=ih (n/2) Om Om;refine⟨i+1,by omega,?_⟩;rw[dw,dw,Eb,OF,tp,OG,h,e];omega
  ·refine⟨0,by omega,?_⟩;rw[dw,dw,Eb,tp,h];simp;omega
theorem Ec{n k:Nat}(c:k≤64)(a:n<2^k)(h0:n≠0): ∃i,i<k∧pc n=pc (n^^^2^i)+1:=by
 obtain⟨i,b,e⟩:=OH k n a h0;refine⟨i,b,?_⟩;rw[←tn k n a c,←tn k _ (Zh a (ZH Dc b)) c,e]
theorem OI(a b:Nat): ∀n,dw (a+b) n=dw a (n%2^a)+dw b (n/2^a):=by
 induction a with
 | zero=>intro n;rw[Zp,aaL,Nat.div_one,dw,Zp]
 | succ a ih=>
  intro n;rw[show a+1+b=(a+b)+1 by omega,dw,dw,ih (n/2)];have c:n%2^(a+1)%2=n%2:=Nat.mod_mod_of_dvd n (by rw[ZA];exact Nat.dvd_mul_left 2 _);have d:n%2^(a+1)/2=n/2%2^a:=by rw[ZA,Y5,Nat.mod_mul_right_div_self]
  have e:n/2/2^a=n/2^(a+1):=by rw[ZA,Y5,Nat.div_div_eq_div_mul]
  rw[c,d,e,aaI]
theorem OJ{xs:List UInt8}{off n j:Nat}(d:j<n):aE xs off n/256^j%256=(xs.getD (off+j) 0).toNat:=by
 induction n with
 | zero=>omega
 | succ n ih=>
  rw[pW];have c:=(xs.getD (off+n) 0).toNat_lt;by_cases e:j=n
  ·subst e;have a:=pV xs off j;rw[aac,show(2:Nat)^8=256 from rfl] at a;rw[ZZ _ _ (Nat.pow_pos Dc),aaC a,Zp,ZS c]
  ·have b:256^n*(xs.getD (off+n) 0).toNat=256^j*(256*(256^(n-j-1)*(xs.getD (off+n) 0).toNat)):=by
    rw[←Za 256,←Nat.pow_succ',←Za,←Nat.pow_add,show j+(n-j-1+1)=n by omega]
   rw[b,ZZ _ _ (Nat.pow_pos Dc),aai,ih Om]
theorem Ed{xs:List UInt8}{off D:Nat}: ∀n,(∀j,j<n→(xs.getD (off+j) 0).toNat=D/256^j%256)→aE xs off n=D%256^n
 | 0,_=>by rw[aaL,Nat.mod_one];rfl
 | n+1,h=>by rw[pW,Ed n (λj a=>h j Om),h n Om,Nat.mod_pow_succ]
theorem Ee{xs ys:List UInt8}{a b:Nat}: ∀n,(∀j,j<n→xs.getD (a+j) 0=ys.getD (b+j) 0)→aE xs a n=aE ys b n
 | 0,_=>rfl
 | n+1,h=>by rw[pW,pW,Ee n (λj c=>h j Om),h n Om]
theorem OK(x:Nat): ∀n j,j<n→(ia x n).getD j 0=UInt8.ofNat (x/256^j):=by
 intro n
 induction n with
 | zero=>intro j a;omega
 | succ n ih=>
  intro j a;rw[OE,YU];by_cases e:j=n
  ·subst e;rw[Y9 (by rw[jL];omega),jL,Nat.sub_self];rfl
  ·rw[Y2 (by rw[jL];omega),←YU];exact ih j Om
theorem Ef(c ys:List UInt8)(a b:Nat): ∀n,n≤8→dw (8*n) (aE c a n^^^aE ys b n)=cd (λj=>pc (c.getD (a+j) 0^^^ys.getD (b+j) 0).toNat) n
 | 0,_=>rfl
 | n+1,f=>by
  have h:=λ(c:List UInt8) (a:Nat)=>pV c a n;have d:=λ(c:List UInt8) (a:Nat)=>(show aE c a (n+1)/2^(8*n)=(c.getD (a+n) 0).toNat by
   rw[pW,show(256:Nat)^n=2^(8*n) by rw[aac],ZZ _ _ (Nat.two_pow_pos _),aaC (h c a),Zp])
  have e:=λ(c:List UInt8) (a:Nat)=>(show aE c a (n+1)%2^(8*n)=aE c a n by
   rw[pW,show(256:Nat)^n=2^(8*n) by rw[aac],aai,ZS (h c a)])
  rw[cd,←Ef c ys a b n Om,show 8*(n+1)=8*n+8 by omega,OI,Nat.xor_mod_two_pow,Nat.xor_div_two_pow,d,d,e,e,←Zm];rw[tn 8 _ ((c.getD (a+n) 0^^^ys.getD (b+n) 0).toNat_lt) Dc]
def eU(z k:Nat):Nat:=pc z+pc k
def ky(z k:Nat):Nat:=Hs.cs z^^^k
theorem u7:ky 0 0=0:=by unfold ky;rw[show Hs.cs 0=0 from Hs.csTo_zero 64 0];rfl
theorem pZ{z k:Nat}(a:z<2^64)(d:k<2^8):eU z k=0↔z=0∧k=0:=by
 unfold eU;have b:=D8 a;have c:=D8 (n:=k) Om;omega
theorem yO{z k:Nat}(f:z<2^64)(d:k<2^8)(h:eU z k≠0): ∃t,t<72∧eU z k=eU (Hs.tD z t) (Hs.tK k t)+1∧ky z k=ky (Hs.tD z t) (Hs.tK k t)^^^Hs.col t:=by
 by_cases c:z=0
 ·have b:k≠0:=λe=>h ((pZ f d).2 ⟨c,e⟩);obtain⟨i,a,e⟩:=Ec Dc d b;refine⟨64+i,by omega,?_⟩;unfold Hs.tD Hs.tK;rw[ALifn Om,ALifp Om,aak];refine⟨by unfold eU;omega,?_⟩;unfold ky;rw[Hs.col_check a,Zi,Zi,Zl,Zk]
 ·obtain⟨i,a,e⟩:=Ec Dc f c;refine⟨i,by omega,?_⟩;unfold Hs.tD Hs.tK;rw[ALifp a,ALifn Om];refine⟨by unfold eU;omega,?_⟩;unfold ky;rw[Hs.cs_xor,Hs.cs_pow a,Zi,Zi,aao k,←Zi (Hs.col i),Zl,Zu]
theorem yP{z:Nat}(t:Nat)(h:z<2^64):Hs.tD z t<2^64:=Hs.tD_lt t h
theorem yQ{k:Nat}(t:Nat)(h:k<2^8):Hs.tK k t<2^8:=Hs.tK_lt t h
theorem OL{z k:Nat}(b:z<2^64)(a:k<2^8):pc (ky z k)%2=eU z k%2:=by
 obtain⟨n,c⟩: ∃n,eU z k=n:=⟨_,rfl⟩
 induction n generalizing z k with
 | zero=>
  obtain⟨rfl,rfl⟩:=(pZ b a).1 c;rw[c,u7,wY]
 | succ n ih=>
  obtain⟨t,j,d,e⟩:=yO b a Om;have f:=ih (yP t b) (yQ t a) Om;have g:=Hs.col_odd (i:=t) Om;have h:=AY (ky (Hs.tD z t) (Hs.tK k t)) (Hs.col t);rw[e,d];omega
theorem yR(z t:Nat):Hs.tD (Hs.tD z t) t=z:=by
 unfold Hs.tD;by_cases h:t<64
 ·rw[ALifp h,ALifp h,Zi,Zl,Zk]
 ·rw[ALifn h,ALifn h]
theorem yS(z t:Nat):Hs.tK (Hs.tK z t) t=z:=by
 unfold Hs.tK;by_cases h:64≤t∧t<72
 ·rw[ALifp h,ALifp h,Zi,Zl,Zk]
 ·rw[ALifn h,ALifn h]
theorem yT{z k:Nat}(d:z<2^64)(c:k<2^8)(h:eU z k=1): ∃t,t<72∧ky z k=Hs.col t∧z=Hs.tD 0 t∧k=Hs.tK 0 t:=by
 obtain⟨t,f,g,e⟩:=yO d c Om;obtain⟨a,b⟩:=(pZ (yP t d) (yQ t c)).1 Om;refine⟨t,f,?_,?_,?_⟩
 ·rw[e,a,b,u7,Zu]
 ·rw[←a,yR]
 ·rw[←b,yS]
theorem OM{z k:Nat}(d:z<2^64)(b:k<2^8)(h:eU z k=2): ∃s t,s<72∧t<72∧s≠t∧ky z k=Hs.col s^^^Hs.col t:=by
 obtain⟨t,m,n,f⟩:=yO d b Om;obtain⟨s,l,g,i,j⟩:=yT (yP t d) (yQ t b) Om;refine⟨s,t,l,m,?_,by rw[f,g]⟩;intro a;have e:z=0:=by rw[←yR z t,i,a,yR]
 have c:k=0:=by rw[←yS k t,j,a,yS]
 have o:=(pZ d b).2 ⟨e,c⟩;omega
end
section
open Go Go.RowKit Go.Shelf
def ON(x:Int):Nat:=(x%8388608).toNat
def iJ(x:Int):Nat:=pc (ON x)%2
def u9(d:Nat)(a p:Int):UInt8:=bl d a p (a6 10)
def nj(d:Nat)(k:UInt8)(a:Int):Nat:=(bl d a 0 (a6 10)^^^k).toNat
theorem yU(i:Nat):((a6 10).getD i 0).toNat=Hs.col i:=by
 have h: ∀i,i<74→((a6 10).getD i 0).toNat=Hs.hcolL.getD i 0:=by decide+kernel
 rcases ZF i 74 with a | a
 ·rw[h i a];unfold Hs.col;rw[Hs.hcols_eq]
 ·unfold Hs.col;rw[YU,Y8 (by rw[iY];exact a),YU,Y8 (by rw[Hs.hcols_len];exact a)];rfl
theorem OO{l:List Nat}{k:Nat}(h:k<l.length):l.take (k+1)=l.take k++[l.getD k 0]:=by
 rw[ZL,YX h,YU,YX h];rfl
theorem Eg(d:Nat): ∀k,k≤(bA d).length→(xc (a6 10) d k).toNat=Hs.xfold 0 ((bA d).take k)
 | 0,_=>rfl
 | k+1,h=>by rw[xc,Zm,Eg d k Om,yU,OO Om,Hs.xfold_snoc]
theorem OP(d:Nat):(xc (a6 10) d (bA d).length).toNat=Hs.cs d:=by
 rw[Eg d _ (Zj _),aaw];have h:=Hs.xfold_ones 64 0 d 0;rw[Zu] at h;exact h
theorem Eh(a:Int)(c:Nat):Hs.mark (Hs.low a) c=if a%2=1 then Hs.col c else 0:=by
 unfold Hs.mark Hs.low;by_cases h:a%2=1
 ·rw[ALifp h,ALifp Om]
 ·rw[ALifn h,ALifn Om]
theorem Ei(d:Nat)(a p:Int):(u9 d a p).toNat=Hs.chk d (Hs.low a) (Hs.low p):=by
 unfold u9 bl Hs.chk;rw[Eh,Eh,←OP,←yU 72,←yU 73];by_cases c:a%2=1
 ·by_cases b:p%2=1
  ·rw[ALifp c,ALifp b,beq_iff_eq.2 c,beq_iff_eq.2 b,ALct,ALct,Zm,Zm]
  ·rw[ALifp c,ALifn b,beq_iff_eq.2 c,beq_false_of_ne b,ALct,ALcf,Zm,Zk]
 ·by_cases b:p%2=1
  ·rw[ALifn c,ALifp b,beq_false_of_ne c,beq_iff_eq.2 b,ALct,ALcf,Zm,Zk]
  ·rw[ALifn c,ALifn b,beq_false_of_ne c,beq_false_of_ne b,ALcf,ALcf,Zk,Zk]
theorem OQ(d:Nat)(k:UInt8)(a:Int):nj d k a=Hs.chk d (Hs.low a) 0^^^k.toNat:=by
 unfold nj;rw[Zm];exact ALca (· ^^^k.toNat) (Ei d a 0)
theorem OR:Hs.hats=j6:=by decide+kernel
theorem OS(n:Nat):Hs.verdict n=if n=0 then(0, -1) else if j6.getD n (-1)= -1 then(4, -1) else if j6.getD n (-1)=72 then(3, -1) else if j6.getD n (-1)=73 then(2, -1) else(1,j6.getD n (-1)):=by unfold Hs.verdict Hs.atS;rw[OR]
theorem OT: ∀n:Nat,n<256→(dd (UInt8.ofNat n) j6,c7 (UInt8.ofNat n) j6)=(if n=0 then((0:Int),(-1:Int)) else if j6.getD n (-1)= -1 then(4, -1) else if j6.getD n (-1)=72 then(3, -1) else if j6.getD n (-1)=73 then(2, -1) else(1,j6.getD n (-1))):=by decide+kernel
theorem vv{n:Nat}{z A B:Int}(h:(A,B)=(if n=0 then((0:Int),(-1:Int)) else if z= -1 then(4, -1) else if z=72 then(3, -1) else if z=73 then(2, -1) else(1,z))):
  A=(((if n=0 then((0:Nat),(-1:Int)) else if z= -1 then(4, -1) else if z=72 then(3, -1) else if z=73 then(2, -1) else(1,z)).1:Nat):Int)∧B=(if n=0 then((0:Nat),(-1:Int)) else if z= -1 then(4, -1) else if z=72 then(3, -1) else if z=73 then(2, -1) else(1,z)).2:=by
 by_cases a:n=0
 ·simp only[ALifp a,Prod.mk.injEq] at h⊢;exact h
 ·by_cases b:z= -1
  ·simp only[ALifn a,ALifp b,Prod.mk.injEq] at h⊢;exact h
  ·by_cases c:z=72
   ·simp only[ALifn a,ALifn b,ALifp c,Prod.mk.injEq] at h⊢;exact h
   ·by_cases d:z=73
    ·simp only[ALifn a,ALifn b,ALifn c,ALifp d,Prod.mk.injEq] at h⊢;exact h
    ·simp only[ALifn a,ALifn b,ALifn c,ALifn d,Prod.mk.injEq] at h⊢;exact h
theorem Ej(s:UInt8):dd s (bL 10)=((Hs.verdict s.toNat).1:Int)∧c7 s (bL 10)=(Hs.verdict s.toNat).2:=by
 have h:=OT s.toNat s.toNat_lt;rw[Z3] at h;rw[DY,OS];exact vv h
theorem OU{f:Nat→List UInt8}{m:Nat}(h: ∀i,(f i).length=m): ∀n k,k<n→∀z,(((YW n).flatMap f++z).drop (m*k)).take m=f k:=by
 intro n
 induction n with
 | zero=>intro k a;omega
 | succ n ih=>
  intro k a z;rw[Zt,Z1,ZR,ZN];by_cases e:k=n
  ·subst e;rw[ZT (u3 h k),aaa (h k)]
  ·exact ih k Om _
theorem yV{xs:List UInt8}{a n j:Nat}(b:j<n):((xs.drop a).take n).getD j 0=xs.getD (a+j) 0:=by
 rw[YU,YU,Zn b,Zr]
theorem yW{f:Nat→List UInt8}{m:Nat}(h: ∀i,(f i).length=m){n k j:Nat}(b:k<n)(a:j<m):(bf m f n).getD (m*k+j) 0=(f k).getD j 0:=by
 rw[←yV a];unfold bf;rw[OU h n k b]
theorem Ek{xs:List UInt8}{k j:Nat}(a:j<9):(w9 xs k).getD j 0=xs.getD (9*k+j) 0:=yV a
theorem OV{xs:List UInt8}{k j:Nat}(a:j<36):(iH xs k).getD j 0=xs.getD (36*k+j) 0:=yV a
theorem OX{l:List UInt8}{x:Int}{p:Bool}{k j:Nat}(a:j<8):(dP l x p k).getD j 0=UInt8.ofNat (aE l (8*k) 8/256^j):=by
 unfold dP;rw[YU,Y2 (by rw[jL];exact a),←YU,OK _ _ _ a]
theorem OY{l:List UInt8}{x:Int}{p:Bool}{k:Nat}:(dP l x p k).getD 8 0=u9 (aE l (8*k) 8) ((iJ x:Nat):Int) (dX p):=by
 unfold dP;rw[YU,Y9 (by rw[jL];omega),jL];rfl
theorem OZ{l:List UInt8}{x:Int}{p:Bool}{k:Nat}(b:k<8):aE (bf 9 (dP l x p) 8) (9*k) 8=aE l (8*k) 8:=by
 rw[Ed (D:=aE l (8*k) 8) 8 λj a=>by
  rw[yW (n8 l x p) b Om,OX a,aar]]
 exact ZS (pX _ _ Dc)
def zD(l ys:List UInt8)(k:Nat):Nat:=aE l (8*k) 8^^^aE (w9 ys k) 0 8
def zK(l:List UInt8)(x:Int)(p:Bool)(ys:List UInt8)(k:Nat):Nat:=(u9 (aE l (8*k) 8) ((iJ x:Nat):Int) (dX p)).toNat^^^((w9 ys k).getD 8 0).toNat
theorem p4(l ys:List UInt8)(k:Nat):zD l ys k<2^64:=Zh (pV _ _ 8) (pV _ _ 8)
theorem p6(l:List UInt8)(x:Int)(p:Bool)(ys:List UInt8)(k:Nat):zK l x p ys k<2^8:=Zh (aad _) (aad _)
theorem El{l:List UInt8}{x:Int}{p:Bool}{ys:List UInt8}{k:Nat}(c:k<8):wC 1 (bf 9 (dP l x p) 8) ys k=eU (zD l ys k) (zK l x p ys k):=by
 have d:wC 1 (bf 9 (dP l x p) 8) ys k=cd (λj=>pc ((bf 9 (dP l x p) 8).getD (9*k+j) 0^^^ys.getD (9*k+j) 0).toNat) (8+1):=rfl;rw[d,cd,←Ef _ _ _ _ 8 (Zj 8),OZ c,yW (n8 l x p) c Om,OY,Zm];unfold eU zD zK;rw[Ek Om,Ee (xs:=w9 ys k) (ys:=ys) (a:=0) (b:=9*k) 8 λj e=>by rw[Zp];exact Ek Om];rfl
theorem Em(x:Int):Hs.low ((iJ x:Nat):Int)=iJ x:=by unfold Hs.low iJ;omega
theorem O0(p:Bool):Hs.low (dX p)=p.toNat:=by cases p<;>rfl
theorem x5(a b:Nat):a^^^(a^^^b)=b:=by rw[←Zi,Zl,Zu]
theorem va(l:List UInt8)(x:Int)(p:Bool)(ys:List UInt8)(y:Int)(k:Nat):
  nj (aE (w9 ys k) 0 8) ((w9 ys k).getD 8 0) ((iJ y:Nat):Int)=ky (zD l ys k) (zK l x p ys k)^^^(Hs.mark (iJ x^^^iJ y) 72^^^Hs.mark p.toNat 73):=by
 have b:aE (w9 ys k) 0 8=aE l (8*k) 8^^^zD l ys k:=by unfold zD;rw[x5]
 have c:((w9 ys k).getD 8 0).toNat=zK l x p ys k^^^Hs.chk (aE l (8*k) 8) (iJ x) p.toNat:=by
  unfold zK;rw[Ei,Em,O0,aao,x5]
 rw[OQ,Em,c,b];unfold Hs.chk ky;rw[Hs.cs_xor,show Hs.mark 0 73=0 from rfl,Hs.mark_xor];generalize Hs.cs (aE l (8*k) 8)=A;generalize Hs.cs (zD l ys k)=B;generalize Hs.mark (iJ y) 72=C;generalize Hs.mark (iJ x) 72=a;generalize zK l x p ys k=D;generalize Hs.mark p.toNat 73=E;apply Nat.eq_of_testBit_eq;intro i;simp only[Nat.testBit_xor,Nat.zero_testBit];cases A.testBit i<;>cases B.testBit i<;>cases C.testBit i<;>cases a.testBit i<;>cases D.testBit i<;>cases E.testBit i<;>rfl
theorem O3:Hs.verdict 0=(0, -1):=by unfold Hs.verdict;rw[ALifp rfl]
theorem O4{t:Nat}(h:t<72):Hs.verdict (Hs.col t)=(1,(t:Int)):=by
 unfold Hs.verdict;rw[ALifn (by have:=Hs.col_pos (i:=t) Om;omega),Hs.at_col Om,ALifn Om,ALifn Om,ALifn Om]
theorem O5(d:Nat)(k:UInt8)(a:Int):fL d k a (a6 10) (bL 10)=Hs.decD d (Hs.verdict (nj d k a)):=by
 have h:=Ej (bl d a 0 (a6 10)^^^k);unfold fL Hs.decD;rw[h.1,h.2];show _=if(Hs.verdict (bl d a 0 (a6 10)^^^k).toNat).1=1∧(Hs.verdict (bl d a 0 (a6 10)^^^k).toNat).2<64 then _ else d
 by_cases e:(Hs.verdict (bl d a 0 (a6 10)^^^k).toNat).1=1∧(Hs.verdict (bl d a 0 (a6 10)^^^k).toNat).2<64
 ·rw[ALifp e,c0 e.2,e.1];show d^^^1*2^_=d^^^2^_;rw[Nat.one_mul];rfl
 ·rw[ALifn e];have:(((((Hs.verdict (bl d a 0 (a6 10)^^^k).toNat).1:Nat):Int)==1)&&decide ((Hs.verdict (bl d a 0 (a6 10)^^^k).toNat).2<64))=false:=by
   rw[aam];by_cases b:(Hs.verdict (bl d a 0 (a6 10)^^^k).toNat).1=1
   ·exact .inr (bj λc=>e ⟨b,c⟩)
   ·exact .inl (beq_false_of_ne Om)
  rw[this];rfl
theorem p7{ys:List UInt8}{y:Int}{k v:Nat}{a:Int}(h:Hs.verdict (nj (aE (w9 ys k) 0 8) ((w9 ys k).getD 8 0) ((iJ y:Nat):Int))=(v,a)):dK ys y k=if v=0 then 0 else if v=1 then 1 else if v=2 then 2 else 3:=by
 have e:dd ((bl (aE (w9 ys k) 0 8) ((pc ((y%8388608).toNat)%2:Nat):Int) 0 (a6 10))^^^((w9 ys k).getD 8 0)) (bL 10)=((v:Nat):Int):=by
  have b:=(Ej ((bl (aE (w9 ys k) 0 8) ((iJ y:Nat):Int) 0 (a6 10))^^^((w9 ys k).getD 8 0))).1;unfold nj at h;rw[h] at b;exact b
 unfold dK j7;rw[e];by_cases c:v=0
 ·subst c;rfl
 by_cases d:v=1
 ·subst d;rfl
 by_cases b:v=2
 ·subst b;rfl
 rw[ALifn c,ALifn d,ALifn b];have f:(((v:Nat):Int)==0)=false:=by rw[dz];omega
 have g:(((v:Nat):Int)==1)=false:=by rw[dz];omega
 have i:(((v:Nat):Int)==2)=false:=by rw[dz];omega
 rw[f,g,i];rfl
theorem En{ys:List UInt8}{y:Int}{k v:Nat}{a:Int}(h:Hs.verdict (nj (aE (w9 ys k) 0 8) ((w9 ys k).getD 8 0) ((iJ y:Nat):Int))=(v,a)):dW ys y k=Hs.decD (aE (w9 ys k) 0 8) (v,a):=by
 have e:=O5 (aE (w9 ys k) 0 8) ((w9 ys k).getD 8 0) ((iJ y:Nat):Int);rw[h] at e;exact e
theorem vb:Hs.mark 0 72=0:=rfl
theorem O6{l:List UInt8}{x:Int}{ys:List UInt8}{k:Nat}(h:eU (zD l ys k) (zK l x false ys k)≤1):dK ys x k=(eU (zD l ys k) (zK l x false ys k):Int)∧dW ys x k=aE l (8*k) 8:=by
 have a:=va l x false ys x k;rw[Zl,vb,show Hs.mark false.toNat 73=0 from rfl,Zl,Zk] at a;have i:aE (w9 ys k) 0 8=aE l (8*k) 8^^^zD l ys k:=by unfold zD;rw[x5]
 rcases(show eU (zD l ys k) (zK l x false ys k)=0∨eU (zD l ys k) (zK l x false ys k)=1 by omega) with f | g
 ·obtain⟨c,d⟩:=(pZ (p4 l ys k) (p6 l x false ys k)).1 f;rw[c,d,u7] at a;have b:=(ALca Hs.verdict a).trans (O3);refine⟨by rw[p7 b,f];rfl,?_⟩;rw[En b,i,c,Zk];rfl
 ·obtain⟨t,m,c,d,_⟩:=yT (p4 l ys k) (p6 l x false ys k) g;rw[c] at a;have b:=(ALca Hs.verdict a).trans (O4 m);refine⟨by rw[p7 b,g];rfl,?_⟩;rw[En b,i,d];unfold Hs.decD Hs.tD;by_cases e:t<64
  ·rw[ALifp ⟨rfl,by show(t:Int)<64;omega⟩,ALifp e,Zu,Zi];show aE l (8*k) 8^^^(2^t^^^2^t)=_;rw[Zl,Zk]
  ·rw[ALifn (by rintro ⟨_,j⟩;exact e (by have:(t:Int)<64:=j;omega)),ALifn e,Zk]
theorem O7{l:List UInt8}{x:Int}{ys:List UInt8}{k:Nat}(h:eU (zD l ys k) (zK l x false ys k)=2):dK ys x k=3:=by
 have a:=va l x false ys x k;rw[Zl,vb,show Hs.mark false.toNat 73=0 from rfl,Zl,Zk] at a;obtain⟨s,t,d,f,b,e⟩:=OM (p4 l ys k) (p6 l x false ys k) h;have c:=(ALca Hs.verdict (a.trans e)).trans (Hs.two_lost (i:=s) (j:=t) Om Om b);rw[p7 c];rfl
theorem O8{l:List UInt8}{x:Int}{ys:List UInt8}{k:Nat}(h:eU (zD l ys k) (zK l x true ys k)≤1):2≤dK ys x k:=by
 have a:=va l x true ys x k;rw[Zl,vb,show Hs.mark true.toNat 73=Hs.col 73 from rfl,Zu] at a;rcases(show eU (zD l ys k) (zK l x true ys k)=0∨eU (zD l ys k) (zK l x true ys k)=1 by omega) with e | f
 ·obtain⟨b,d⟩:=(pZ (p4 l ys k) (p6 l x true ys k)).1 e;rw[b,d,u7,Zu] at a;have c:=(ALca Hs.verdict a).trans (Hs.verdict_73);rw[p7 c];decide
 ·obtain⟨t,g,b,d,_⟩:=yT (p4 l ys k) (p6 l x true ys k) f;have c:=(ALca Hs.verdict (a.trans (by rw[b]))).trans (Hs.two_lost (i:=t) (j:=73) Om Om Om);rw[p7 c];decide
end
section
open Go Go.RowKit Go.Shelf
theorem yX(l:List Int): ∀a:Int,(a≤l.foldl max a∧(∀x,x∈l→x≤l.foldl max a))∧∀m,a≤m→(∀x,x∈l→x≤m)→l.foldl max a≤m:=by
 induction l with
 | nil=>intro a;exact⟨⟨Int.le_refl _,λx h=>absurd h ZP⟩,λm h _=>h⟩
 | cons y l ih=>
  intro a;obtain⟨⟨e,c⟩,d⟩:=ih (max a y);rw[Z9];refine⟨⟨by omega,λx b=>?_⟩,λm f b=>d m (by have:=b y ZB;omega) λx h=>b x (ZW _ h)⟩;rcases List.mem_cons.1 b with rfl | h
  ·omega
  ·exact c x h
theorem vc(l:List Int):0≤jK l:=(yX l 0).1.1
theorem o1{l:List Int}{x:Int}(h:x∈l):x≤jK l:=(yX l 0).1.2 x h
theorem yY{l:List Int}{m:Int}(h0:0≤m)(h: ∀x,x∈l→x≤m):jK l≤m:=(yX l 0).2 m h0 h
theorem O9(l:List Int): ∀a:Int,a≤l.foldl (λa k=>a+dX (k==1)) a∧((1:Int)∈l→a<l.foldl (λa k=>a+dX (k==1)) a):=by
 induction l with
 | nil=>intro a;exact⟨Int.le_refl _,λh=>absurd h ZP⟩
 | cons y l ih=>
  intro a;obtain⟨d,b⟩:=ih (a+dX (y==1));have e:=yH (y==1);rw[Z9];refine⟨by omega,λc=>?_⟩;rcases List.mem_cons.1 c with rfl | h
  ·have f:dX ((1:Int)==1)=1:=rfl;omega
  ·have:=b h;omega
theorem Pb{l:List Int}(h:(1:Int)∈l):0<jF l:=(O9 l 0).2 h
theorem o2{f:Nat→Int}{n k:Nat}(h:k<n):f k∈(YW n).map f:=List.mem_map.2 ⟨k,List.mem_range.2 h,rfl⟩
theorem Eo{f:Nat→Int}{n:Nat}{P:Int→Prop}(h: ∀k,k<n→P (f k)): ∀x,x∈(YW n).map f→P x:=by
 intro x b;obtain⟨k,a,rfl⟩:=List.mem_map.1 b;exact h k (List.mem_range.1 a)
theorem Ep{f:Nat→Int}{c:Nat→Nat}{n e:Nat}(h: ∀k,k<n→f k=(c k:Int))(j: ∀k,k<n→c k≤e)(p:e≤1)(h1:e=1→∃k,k<n∧c k=1):
  jK ((YW n).map f)=(e:Int)∧(decide (0<gx ((YW n).map f))=((e:Int)==1)):=by
 have m:jK ((YW n).map f)≤(e:Int):=yY Om (Eo λk a=>by rw[h k a];have:=j k a;omega);have l:=vc ((YW n).map f);rcases(show e=0∨e=1 by omega) with rfl | rfl
 ·have b:jK ((YW n).map f)=0:=by omega
  refine⟨b,?_⟩;unfold gx;rw[b];rfl
 ·obtain⟨k,a,i⟩:=h1 rfl;have g:(1:Int)∈(YW n).map f:=by
   have:=o2 (f:=f) a;rwa [h k a,i] at this
  have o:=o1 g;have d:jK ((YW n).map f)=1:=by omega
  refine⟨d,?_⟩;unfold gx;rw[d];show decide (0<jF _)=true;exact c0 (Pb g)
theorem yZ{f:Nat→Int}{n k:Nat}(a:k<n)(h:2≤f k):2≤jK ((YW n).map f):=Int.le_trans h (o1 (o2 a))
theorem Er(l:List UInt8)(x:Int)(p:Bool):(bf 9 (dP l x p) 8).length=72:=n7 (n:=9) (n8 l x p) (k:=8) Dc
theorem Pc{l:List UInt8}(g:l.length=64){f:Nat→Nat}(h: ∀k,k<8→f k=aE l (8*k) 8):b6 64 (ib (eT 0 8 f 8)) (8*8)=l:=by
 refine aax (by rw[k4,g]) λi a d=>?_;have b:i<64:=by rw[k4] at a;exact a
 have e:(b6 64 (ib (eT 0 8 f 8)) (8*8)).getD i 0=l.getD i 0:=by
  rw[Nv b,ALifp b];unfold ib;rw[DZ (show i/8<8 by omega),ALifp Om,h _ Om];have c:=OJ (xs:=l) (off:=8*(i/8)) (n:=8) (j:=i%8) Om;rw[show 8*(i/8)+i%8=i by omega] at c;apply UInt8.toNat_inj.1;rw[aar,aac,←c]
 rw[YU,YU,YX a,YX d] at e;exact e
theorem ve{l:List UInt8}{x:Int}{p:Bool}{r:List UInt8}(b:r.length=72){k:Nat}(a:k<8):eU (zD l r k) (zK l x p r k)≤b0 1 (bf 9 (dP l x p) 8) r:=by
 rw[←El a];exact r9 (Er l x p) b a
theorem vf{l:List UInt8}{x:Int}{p:Bool}{r:List UInt8}(c:r.length=72){m:Nat}(h:b0 1 (bf 9 (dP l x p) 8) r=m+1): ∃k,k<8∧eU (zD l r k) (zK l x p r k)=m+1:=by
 have a: ¬b0 1 (bf 9 (dP l x p) 8) r≤m:=by omega
 rw[r7 (Er l x p) c] at a;simp only[aag] at a;obtain⟨k,b,d⟩:=a;have e:=ve (l:=l) (x:=x) (p:=p) c b;rw[El b] at d;exact⟨k,b,by omega⟩
theorem Pd{l:List UInt8}(j:l.length=64){x:Int}{r:List UInt8}(b:r.length=72)(h:b0 1 (bf 9 (dP l x false) 8) r≤1):
  oY r x=l∧jK ((YW 8).map (dK r x))=(b0 1 (bf 9 (dP l x false) 8) r:Int)∧(decide (0<gx ((YW 8).map (dK r x)))=((b0 1 (bf 9 (dP l x false) 8) r:Int)==1)):=by
 have g:=λk (a:k<8)=>O6 (Zg (ve (l:=l) (x:=x) (p:=false) b a) h);have d:=Ep (f:=dK r x) (c:=λk=>eU (zD l r k) (zK l x false r k)) (n:=8) (e:=b0 1 (bf 9 (dP l x false) 8) r) (λk a=>(g k a).1) (λk a=>ve b a) h λi=>vf b i;refine⟨?_,d⟩;unfold oY;rw[d.1,bj Om,ALcf];exact Pc j λk a=>(g k a).2
theorem Pe{l:List UInt8}{x:Int}{r:List UInt8}(b:r.length=72)(h:b0 1 (bf 9 (dP l x false) 8) r=2):2≤jK ((YW 8).map (dK r x)):=by
 obtain⟨k,a,e⟩:=vf b h;exact yZ a (by rw[O7 e];decide)
theorem Pf{l:List UInt8}{x:Int}{r:List UInt8}(a:r.length=72)(h:b0 1 (bf 9 (dP l x true) 8) r≤1):2≤jK ((YW 8).map (dK r x)):=
 yZ (k:=0) Dc (O8 (Zg (ve a Dc) h))
end
end E
section
open Go Go.RowKit Go.Shelf
theorem n9{x y:List UInt8}{i:Nat}(h:i<x.length):co (x++y) i=x.getD i 0:=by
 unfold co;rw[YU,YU,Y2 h]
theorem vg{x y:List UInt8}{n i:Nat}(h:x.length=n):co (x++y) (n+i)=y.getD i 0:=by
 unfold co;rw[YU,YU,Y9 Om,←h,aak]
def gR(d v:List UInt8):List UInt8:=gQ d v++d
theorem p8(d v:List UInt8)(a:d.length=32):(gR d v).length=36:=by unfold gR;rw[YZ,h8,a]
theorem Pg{l m:List Nat}(g:l.Nodup)(h: ∀x∈l,x∈m):l.length≤m.length:=by
 induction l generalizing m with
 | nil=>exact Zz _
 | cons a l ih=>
  obtain⟨d,f⟩:=List.nodup_cons.1 g;have b:=h a (ZB ..);have:=ih f (m:=m.erase a) λx c=>(List.mem_erase_of_ne (λ(e:x=a)=>d (by rw[←e];exact c))).2 (h x (ZW _ c));rw[List.length_erase_of_mem b] at this;have:=List.length_pos_of_mem b;rw[Zx];omega
theorem p9{e:Nat→UInt8}{n i:Nat}:i∈et e n↔i<n∧e i≠0:=by
 unfold et;rw[List.mem_filter,List.mem_range,bne_iff_ne]
theorem Ph(e:Nat→UInt8)(n:Nat):(et e n).Nodup:=List.Pairwise.filter _ List.nodup_range
theorem y0{e:Nat→UInt8}{n:Nat}{l:List Nat}(h: ∀i,i<n→e i≠0→i∈l):(et e n).length≤l.length:=
 Pg (Ph e n) λx c=>by obtain⟨a,b⟩:=p9.1 c;exact h x a b
theorem Pj{n k:Nat}{f:Nat→UInt8}(c:k<n)(h: ∀i,i<n→i≠k→f i=0):xs n f=f k:=by
 induction n with
 | zero=>omega
 | succ n ih=>
  rw[oM];by_cases e:k=n
  ·subst e;rw[mA λi b=>h i Om Om,ZK]
  ·rw[ih Om λi b a=>h i Om a,h n Om Om,ZX]
def Sy(f:Nat→UInt8)(j:Nat):UInt8:=xs 39 λi=>gm (f i) (pw (pw 2 j) i)
theorem Es{f g:Nat→UInt8}(h: ∀i,i<39→f i=g i)(j:Nat):Sy f j=Sy g j:=ku λi a=>by rw[h i a]
theorem Et(f g:Nat→UInt8)(j:Nat):Sy (λi=>f i^^^g i) j=Sy f j^^^Sy g j:=by
 unfold Sy;rw[←uP];exact ku λi _=>rU _ _ _
def one(k:Nat)(a:UInt8)(i:Nat):UInt8:=if i=k then a else 0
theorem Eu{k:Nat}(c:k<39)(a:UInt8)(j:Nat):Sy (one k a) j=gm a (pw (pw 2 j) k):=by
 unfold Sy;rw[Pj c λi _ b=>by rw[show one k a i=0 from ALifn b,gP],show one k a k=a from ALifp rfl]
theorem Pk{w v:List UInt8}(h:(w++v).length=39)(j:Nat):pT w v j=Sy (co (w++v)) j:=by
 unfold pT e8;rw[h];rfl
theorem YN(w v:List UInt8){j:Nat}(a:j<4):co (aR w v) j=pT w v j:=by unfold aR;rw[kY,ALifp a]
theorem Pm(n:Nat):pw 1 n=1:=by
 induction n with
 | zero=>rfl
 | succ n ih=>rw[pw,ih,nU]
theorem sa(k:Nat):pw (pw 2 0) k=1:=Pm k
theorem qa(j k:Nat):pw (pw 2 (j+1)) k=gm (pw (pw 2 j) k) (pw 2 k):=by rw[yt,pw,yt]
theorem Ew{s:Nat→UInt8}{a:UInt8}{k:Nat}(b:a≠0)(h: ∀j,j<4→s j=gm a (pw (pw 2 j) k)):hit s k=true:=by
 rw[nY,h 0 Om,h 1 Om,h 2 Om,h 3 Om,sa,nU];refine⟨b,?_,?_,?_⟩
 ·rw[qa 0,sa,yf]
 ·rw[qa 1,kr]
 ·rw[qa 2,kr]
theorem Pn{s:Nat→UInt8}{k:Nat}(h:hit s k=true)(j:Nat)(i:j<4):s j=gm (s 0) (pw (pw 2 j) k):=by
 obtain⟨_,e,f,g⟩:=(nY s k).1 h;have c:s 0=gm (s 0) (pw (pw 2 0) k):=by rw[sa,nU]
 have a:s 1=gm (s 0) (pw (pw 2 1) k):=by rw[qa 0,sa,yf];exact e
 have b:s 2=gm (s 0) (pw (pw 2 2) k):=by rw[qa 1,←kr,←a];exact f
 have d:s 3=gm (s 0) (pw (pw 2 3) k):=by rw[qa 2,←kr,←b];exact g
 match j,i with
 | 0,_=>exact c
 | 1,_=>exact a
 | 2,_=>exact b
 | 3,_=>exact d
theorem y1{f:Nat→UInt8}(a:(et f 39).length≤4)(h: ∀j,j<4→Sy f j=0): ∀i,i<39→f i=0:=MF Om a h
theorem Po{s:Nat→UInt8}{a:UInt8}{k:Nat}(f:k<39)(h: ∀j,j<4→s j=gm a (pw (pw 2 j) k)):
  dx s=if a=0 then⟨0, -1,0⟩ else if 35<k then⟨2,k,a⟩ else⟨1,k,a⟩:=by
 by_cases d:a=0
 ·rw[ALifp d];have b: ∀j,j<4→s j=0:=λj e=>by rw[h j e,d,gP]
  exact yu ⟨b 0 Om,b 1 Om,b 2 Om,b 3 Om⟩
 ·rw[ALifn d];have b:s 0=a:=by rw[h 0 Om,sa,nU]
  by_cases c:35<k
  ·rw[ALifp c,DB c f (Ew d h),b]
  ·rw[ALifn c,DA Om (Ew d h),b]
theorem Pp{f:Nat→UInt8}(h2:2≤(et f 39).length)(r:(et f 39).length≤3):dx (Sy f)=⟨3, -1,0⟩:=by
 apply uW
 ·rintro ⟨b,m,n,o⟩;have k:=y1 (f:=f) Om λj d=>by
   match j,d with
   | 0,_=>exact b
   | 1,_=>exact m
   | 2,_=>exact n
   | 3,_=>exact o
  have:(et f 39).length≤([]:List Nat).length:=y0 λi c a=>absurd (k i c) a;simp at this;rw[this] at h2;simp at h2
 ·intro i c;apply Bool.eq_false_iff.2;intro p;have q:=Pn p;have k:=y1 (f:=λt=>f t^^^one i (Sy f 0) t) (by
   refine Zg (y0 (l:=i::et f 39) λt g a=>?_) (by rw[Zx];omega);by_cases e:t=i
   ·rw[e];exact ZB ..
   ·refine ZW _ (p9.2 ⟨g,λb=>a ?_⟩);show f t^^^one i (Sy f 0) t=0;rw[b,show one i (Sy f 0) t=0 from ALifn e,ZX]) λj d=>by
   rw[Et,Eu c,←q j d,Y7]
  have:(et f 39).length≤[i].length:=y0 λt g a=>by
   by_cases e:t=i
   ·rw[e];exact ZB ..
   ·have h:=k t g;rw[show one i (Sy f 0) t=0 from ALifn e,ZX] at h;exact absurd h a
  simp at this;omega
def nO(f:Nat→UInt8):Prop:=∀j,j<4→Sy f j=0
theorem Pq(d v:List UInt8)(b:d.length=32)(i:Nat):co (gR d v++v) i=co (oT d v) i^^^co (kx d v) i:=by
 have c:=yv d v;unfold gR oT;rw[ZN,ZN];by_cases h:i<4
 ·rw[n9 (by rw[h8];omega),n9 (by simpa using h)];have a:(YY 4 (0:UInt8)).getD i 0=0:=by rw[YU,List.getElem?_replicate,ALifp h];rfl
  rw[a,ZK];show co (gQ d v) i=_;unfold gQ;rw[kY,ALifp h]
 ·obtain⟨t,rfl⟩: ∃t,i=4+t:=⟨i-4,by omega⟩;rw[vg (h8 d v),vg (Zf),fJ (p:=kx d v) Om,ZX]
theorem Pr(j:Nat)(a:j<4):e8 cu (pw 2 j)=0:=by
 rw[DD];revert j;decide+kernel
theorem Ps(d v:List UInt8)(a:d.length=32)(hv:v.length=3):(gR d v++v).length=39:=by rw[YZ,p8 d v a,hv]
theorem Pt(d v:List UInt8)(a:d.length=32)(hv:v.length=3):nO (co (gR d v++v)):=by
 intro j b;have e:Sy (co (gR d v++v)) j=e8 (gR d v++v) (pw 2 j):=by
  unfold e8;rw[Ps d v a hv];rfl
 rw[e,LM (q:=rY (oT d v) (kx d v)) _ λi=>by rw[yo];exact Pq d v a i,LN];have:=L1 (p:=oT d v) (q:=cu) (t:=gi (co cu (aZ cu-1))) (by rw[oV];omega) (DE (nV cu (t:=aZ cu-1) (by rw[oV]))) (Pr j b);rw[show e8 (kx d v) (pw 2 j)=e8 (oT d v) (pw 2 j) from this,Y7]
theorem Pu(d v w u:List UInt8)(e:Nat→UInt8)(b:d.length=32)(hv:v.length=3)(c:(w++u).length=39)(h: ∀i,i<39→co (w++u) i=co (gR d v++v) i^^^e i):dx (co (aR w u))=dx (Sy e):=by
 refine MG λj a=>?_;rw[YN _ _ a,Pk c,Es h,Et,Pt d v b hv j a,ZK]
end
namespace E
section
open Go Go.RowKit Go.Shelf
def iK(l:List UInt8)(k:Nat):List UInt8:=(l.drop (32*k)).take 32
theorem qb{l:List UInt8}(b:l.length=64){k:Nat}(a:k<2):(iK l k).length=32:=by unfold iK;rw[Y0,Zb];omega
theorem Pv{l:List UInt8}{x:Int}{p:Bool}{k:Nat}(a:k<2):cN l x p k=gR (iK l k) (bT x p):=YB a
theorem y2{l:List UInt8}(a:l.length=64)(x:Int)(p:Bool):(bf 36 (cN l x p) 2).length=72:=n7 (n:=36) (o0 a x p) (k:=2) Dc
def eC(l:List UInt8)(x:Int)(p:Bool)(r:List UInt8)(y:Int)(q:Bool)(k i:Nat):UInt8:=Go.Proofs.YtbcodenfkijdnaaGreat.co (iH r k++bT y q) i^^^Go.Proofs.YtbcodenfkijdnaaGreat.co (gR (iK l k) (bT x p)++bT x p) i
theorem vh(e:Nat→UInt8)(n:Nat):(et e n).length=cd (λi=>if e i=0 then 0 else 1) n:=by
 induction n with
 | zero=>rfl
 | succ n ih=>
  rw[Dt,YZ,ih,cd];by_cases h:e n=0
  ·rw[ALifp h,h];rfl
  ·rw[ALifn h,ALifp (bne_iff_ne.2 h)];rfl
theorem vi{a b:UInt8}:a^^^b=0↔b=a:=UInt8.xor_eq_zero_iff.trans eq_comm
theorem vk{l:List UInt8}(c:l.length=64)(x:Int)(p:Bool){r:List UInt8}(f:r.length=72)(y:Int)(q:Bool){k:Nat}(a:k<2):wC 2 (bf 36 (cN l x p) 2) r k=(et (eC l x p r y q k) 36).length:=by
 rw[vh];have d:wC 2 (bf 36 (cN l x p) 2) r k=cd (λj=>c8 2 ((bf 36 (cN l x p) 2).getD (36*k+j) 0) (r.getD (36*k+j) 0)) 36:=rfl;rw[d];refine yM 36 λj b=>?_;have g:=ni f a;unfold eC c8;rw[ALifn Dc,n9 Om,n9 (by rw[p8 _ _ (qb c a)];exact b),yW (o0 c x p) a b,OV b,Pv a];by_cases h:(gR (iK l k) (bT x p)).getD j 0=r.getD (36*k+j) 0
 ·rw[ALifp h,ALifp (vi.2 h)]
 ·rw[ALifn h,ALifn λe=>h (vi.1 e)]
theorem vm{l:List UInt8}(b:l.length=64)(x:Int)(p:Bool){r:List UInt8}(c:r.length=72)(y:Int)(q:Bool){k:Nat}(a:k<2)(t:Nat):eC l x p r y q k (36+t)=(bT y q).getD t 0^^^(bT x p).getD t 0:=by
 unfold eC;rw[vg (ni c a),vg (p8 _ _ (qb b a))]
theorem vn(e:Nat→UInt8):(et e 39).length=(et e 36).length+(if e 36=0 then 0 else 1)+(if e 37=0 then 0 else 1)+(if e 38=0 then 0 else 1):=by
 rw[vh,vh];rfl
theorem sb{l:List UInt8}(b:l.length=64)(x:Int)(p:Bool){r:List UInt8}(c:r.length=72)(y:Int)(q:Bool){k:Nat}(a:k<2):dx (Go.Proofs.YtbcodenfkijdnaaGreat.co (aR (iH r k) (bT y q)))=dx (Sy (eC l x p r y q k)):=by
 refine Pu (iK l k) (bT x p) _ _ _ (qb b a) (k5 x p) (by rw[YZ,ni c a,k5]) λi d=>?_;unfold eC;rw[aaB (Go.Proofs.YtbcodenfkijdnaaGreat.co (iH r k++bT y q) i),←aay,Y7,ZK]
theorem Pw{e:Nat→UInt8}(h:(et e 39).length=0):dx (Sy e)=⟨0, -1,0⟩:=by
 have c: ∀i,i<39→e i=0:=λi b=>Zv λd=>by
  have:=Z7 h;have a:=p9.2 ⟨b,d⟩;rw[this] at a;exact absurd a ZP
 have a: ∀j,Sy e j=0:=λj=>mA λi b=>by rw[c i b,gP]
 exact yu ⟨a 0,a 1,a 2,a 3⟩
theorem Ex{e:Nat→UInt8}{n:Nat}(h:(et e n).length=1): ∃k,k<n∧e k≠0∧∀i,i<n→i≠k→e i=0:=by
 obtain⟨k,c⟩:=List.length_eq_one_iff.1 h;obtain⟨d,f⟩:=p9.1 (show k∈et e n by rw[c];exact List.mem_singleton.2 rfl);refine⟨k,d,f,λi g a=>Zv λj=>a ?_⟩;have b:=p9.2 ⟨g,j⟩;rw[c] at b;exact List.mem_singleton.1 b
theorem Ey{e:Nat→UInt8}{k:Nat}(c:k<39)(h:e k≠0)(g: ∀i,i<39→i≠k→e i=0):dx (Sy e)=if 35<k then⟨2,k,e k⟩ else⟨1,k,e k⟩:=by
 have d:=Po (s:=Sy e) (a:=e k) c λj _=>by
  rw[←Eu c];refine Es (λi f=>?_) j;unfold one;by_cases b:i=k
  ·rw[ALifp b,b]
  ·rw[ALifn b,g i f b]
 rw[d,ALifn h]
theorem qc{r:List UInt8}{y:Int}{k b:Nat}{c:Int}{a:UInt8}(h:dx (Go.Proofs.YtbcodenfkijdnaaGreat.co (aR (iH r k) (bT y false)))=⟨b,c,a⟩):cK r y k=if b=0 then 0 else if b=1 then 1 else if b=2∧c=38∧a=128 then 2 else 3:=by
 unfold cK ng oX fk cM eM;rw[h];show(bif ((b:Nat):Int)==0 then 0 else(bif ((b:Nat):Int)==1 then 1 else(bif ((((b:Nat):Int)==2)&&(c==38))&&((a.toNat:Int)==128) then 2 else 3)))=(_:Int);by_cases e:b=0
 ·subst e;rfl
 by_cases f:b=1
 ·subst f;rfl
 rw[ALifn e,ALifn f];have i:(((b:Nat):Int)==0)=false:=by rw[dz];omega
 have j:(((b:Nat):Int)==1)=false:=by rw[dz];omega
 rw[i,j,ALcf,ALcf];by_cases d:b=2∧c=38∧a=128
 ·obtain⟨rfl,rfl,rfl⟩:=d;rfl
 ·rw[ALifn d];have l:((((b:Nat):Int)==2)&&(c==38)&&((a.toNat:Int)==128))=false:=by
   apply Bool.eq_false_iff.2;intro g;rw[Y3,Y3,beq_iff_eq,beq_iff_eq,beq_iff_eq] at g;exact d ⟨by omega,g.1.2,UInt8.toNat_inj.1 (by show a.toNat=128;omega)⟩
  rw[l,ALcf]
theorem Ez(r:List UInt8)(y:Int)(k:Nat):cK r y k≤3:=by
 obtain⟨⟨b,c,a⟩,h⟩: ∃V,dx (Go.Proofs.YtbcodenfkijdnaaGreat.co (aR (iH r k) (bT y false)))=V:=⟨_,rfl⟩;rw[qc h]
 split
 ·decide
 ·split
  ·decide
  ·split<;>decide
theorem Px{d v:List UInt8}{b:Nat}{e:Int}{a:UInt8}(h:dx (Go.Proofs.YtbcodenfkijdnaaGreat.co (aR d v))=⟨b,e,a⟩)(f:b≠1):fK d v=d.drop 4:=by
 unfold fK;rw[h];have c:(((b:Nat):Int)==1)=false:=by rw[dz];omega
 show(bif ((b:Nat):Int)==1 then _ else _)=_;rw[c,ALcf]
theorem Py{d v:List UInt8}{t:Nat}{a:UInt8}(h:dx (Go.Proofs.YtbcodenfkijdnaaGreat.co (aR d v))=⟨1,(t:Int),a⟩):fK d v=(d.set t (d.getD t 0^^^a)).drop 4:=by
 unfold fK;rw[h];rfl
theorem EA(d v:List UInt8):(gR d v).drop 4=d:=by unfold gR;exact ZT (h8 d v)
theorem Pz{l:List UInt8}(j:l.length=64){x:Int}{r:List UInt8}(d:r.length=72){k:Nat}(a:k<2)(h:wC 2 (bf 36 (cN l x false) 2) r k=0):cK r x k=0∧cW r x k=iK l k:=by
 have f:=vk j x false d x false a;have n:=vm j x false d x false a;have g:=vn (eC l x false r x false k);rw[show(36:Nat)=36+0 from rfl,show(37:Nat)=36+1 from rfl,show(38:Nat)=36+2 from rfl,n 0,n 1,n 2,Y7,Y7,Y7,ALifp rfl,←f,h] at g;have b:=(sb j x false d x false a).trans (Pw g);refine⟨by rw[qc b];rfl,?_⟩;unfold cW;rw[Px b Dc];have p: ∀i,i<36→(iH r k).getD i 0=(gR (iK l k) (bT x false)).getD i 0:=by
  intro i c;have o:(et (eC l x false r x false k) 36).length=0:=by rw[←f,h]
  rw[vh] at o;have m:=(yN 36).1 o i c;unfold eC at m;rw[n9 (by rw[ni d a];exact c),n9 (by rw[p8 _ _ (qb j a)];exact c)] at m;by_cases e:(iH r k).getD i 0^^^(gR (iK l k) (bT x false)).getD i 0=0
  ·exact(vi.1 e).symm
  ·rw[ALifn e] at m;omega
 have q:iH r k=gR (iK l k) (bT x false):=oO (by rw[ni d a,p8 _ _ (qb j a)]) λi c=>p i (by rw[ni d a] at c;exact c);rw[q,EA]
theorem PA{l:List UInt8}(g:l.length=64){x:Int}{r:List UInt8}(j:r.length=72){k:Nat}(d:k<2)(h:wC 2 (bf 36 (cN l x false) 2) r k=1):cK r x k=1∧cW r x k=iK l k:=by
 have n:=vk g x false j x false d;have m:=vm g x false j x false d;have b:=vn (eC l x false r x false k);rw[show(36:Nat)=36+0 from rfl,show(37:Nat)=36+1 from rfl,show(38:Nat)=36+2 from rfl,m 0,m 1,m 2,Y7,Y7,Y7,ALifp rfl,←n,h] at b;obtain⟨t,y,p,q⟩:=Ex b;have u:t<36:=Zv λA=>p (by
  have e:=m (t-36);rw[show 36+(t-36)=t by omega,Y7] at e;exact e)
 have a:=(sb g x false j x false d).trans (Ey y p q);rw[ALifn Om] at a;refine⟨by rw[qc a];rfl,?_⟩;unfold cW;rw[Py a];have f:=ni j d;have o:=p8 (iK l k) (bT x false) (qb g d);have z:(iH r k).set t ((iH r k).getD t 0^^^eC l x false r x false k t)=gR (iK l k) (bT x false):=by
  refine oO (by rw[Ze,f,o]) λi w=>?_;rw[Ze,f] at w;have c:eC l x false r x false k i=(iH r k).getD i 0^^^(gR (iK l k) (bT x false)).getD i 0:=by
   unfold eC;rw[n9 Om,n9 Om]
  unfold Go.Proofs.YtbcodenfkijdnaaGreat.co;rw[YU,Zo];by_cases e:t=i
  ·subst e;rw[ALifp rfl,ALifp Om,Option.getD_some,c,←aay,Y7,ZK]
  ·rw[ALifn e,←YU];have s:=q i Om (λv=>e v.symm);rw[c] at s;exact(vi.1 s).symm
 rw[z,EA]
theorem EB{l:List UInt8}(d:l.length=64){x:Int}{p:Bool}{r:List UInt8}(e:r.length=72){y:Int}{k:Nat}(c:k<2)(h2:2≤(et (eC l x p r y false k) 39).length)(b:(et (eC l x p r y false k) 39).length≤3):cK r y k=3:=by
 have a:=(sb d x p e y false c).trans (Pp h2 b);rw[qc a];rfl
theorem PB: ∀n,n<256→(UInt8.ofNat n&&& 127)^^^((UInt8.ofNat n&&& 127)||| 128)=128:=by decide+kernel
theorem EC(x:Int)(p:Bool):(bT x p).getD 0 0=aN x:=by cases p<;>rfl
theorem ED(x:Int)(p:Bool):(bT x p).getD 1 0=aN (x/256):=by cases p<;>rfl
theorem PC(x:Int):(bT x false).getD 2 0=aN (x/65536)&&& 127:=rfl
theorem PD(x:Int):(bT x true).getD 2 0=(aN (x/65536)&&& 127)||| 128:=rfl
theorem PE(x:Int):(bT x false).getD 2 0^^^(bT x true).getD 2 0=128:=by
 rw[PC,PD];have h:=PB (aN (x/65536)).toNat (aad _);rwa [Z3] at h
theorem EE{l:List UInt8}(h:l.length=64){x:Int}{r:List UInt8}(i:r.length=72){k:Nat}(g:k<2):(et (eC l x true r x false k) 39).length=wC 2 (bf 36 (cN l x true) 2) r k+1∧eC l x true r x false k 38=128:=by
 have e:=vk h x true i x false g;have f:=vm h x true i x false g;have b:=vn (eC l x true r x false k);have a:eC l x true r x false k 38=128:=(f 2).trans (PE x);have c:eC l x true r x false k 36=0:=(f 0).trans (by rw[EC,EC,Y7]);have d:eC l x true r x false k 37=0:=(f 1).trans (by rw[ED,ED,Y7]);rw[c,d,a,ALifp rfl,ALifn Dc,←e] at b;exact⟨b,a⟩
theorem PF{l:List UInt8}(g:l.length=64){x:Int}{r:List UInt8}(i:r.length=72){k:Nat}(f:k<2)(h:wC 2 (bf 36 (cN l x true) 2) r k≤2):2≤cK r x k:=by
 obtain⟨c,b⟩:=EE g (x:=x) i f;by_cases n:wC 2 (bf 36 (cN l x true) 2) r k=0
 ·rw[n] at c;obtain⟨t,q,m,j⟩:=Ex c;have d:t=38:=Zv λo=>absurd (j 38 Dc (λe=>o e.symm)) (by rw[b];decide);subst d;have a:=(sb g x true i x false f).trans (Ey q m j);rw[ALifp Dc,b] at a;rw[qc a];decide
 ·rw[EB g (x:=x) (p:=true) i f Om Om];decide
end
section
open Go Go.RowKit Go.Shelf
theorem PG{l:List UInt8}(a:l.length=64){f:Nat→List UInt8}(h: ∀k,k<2→f k=iK l k):ic (fx f 2) 2=l:=by
 have e:fx f 2=l:=by
  show(f 0++(f 1++[]))++[]=l;rw[Zs,Zs,h 0 Dc,h 1 Dc];unfold iK;rw[show 32*0=0 from rfl,show 32*1=32 from rfl,aaE,aaj (l:=l.drop 32) (by rw[Zb];omega),List.take_append_drop]
 rw[e,yI a]
theorem vp{l:List UInt8}(c:l.length=64){x:Int}{p:Bool}{r:List UInt8}(d:r.length=72){m:Nat}(h:b0 2 (bf 36 (cN l x p) 2) r=m+1): ∃k,k<2∧wC 2 (bf 36 (cN l x p) 2) r k=m+1:=by
 have a: ¬b0 2 (bf 36 (cN l x p) 2) r≤m:=by omega
 rw[r7 (y2 c x p) d] at a;simp only[aag] at a;obtain⟨k,b,e⟩:=a;have f:=r9 (mode:=2) (y2 c x p) d b;exact⟨k,b,by omega⟩
theorem y4{l:List UInt8}(b:l.length=64)(x:Int)(p:Bool){r:List UInt8}(c:r.length=72){k:Nat}(a:k<2):wC 2 (bf 36 (cN l x p) 2) r k≤b0 2 (bf 36 (cN l x p) 2) r:=r9 (mode:=2) (y2 b x p) c a
theorem PH{l:List UInt8}(b:l.length=64){x:Int}{r:List UInt8}(d:r.length=72)(h:b0 2 (bf 36 (cN l x false) 2) r≤1):
  oZ r x=l∧jK ((YW 2).map (cK r x))=(b0 2 (bf 36 (cN l x false) 2) r:Int)∧(decide (0<gx ((YW 2).map (cK r x)))=((b0 2 (bf 36 (cN l x false) 2) r:Int)==1)):=by
 have m: ∀k,k<2→cK r x k=(wC 2 (bf 36 (cN l x false) 2) r k:Int)∧cW r x k=iK l k:=by
  intro k a;have i:=y4 b x false d a;rcases(show wC 2 (bf 36 (cN l x false) 2) r k=0∨wC 2 (bf 36 (cN l x false) 2) r k=1 by omega) with g | g
  ·rw[g];exact Pz b d a g
  ·rw[g];exact PA b d a g
 have j:=Ep (f:=cK r x) (c:=λk=>wC 2 (bf 36 (cN l x false) 2) r k) (n:=2) (e:=b0 2 (bf 36 (cN l x false) 2) r) (λk a=>(m k a).1) (λk a=>y4 b x false d a) h λi=>vp b d i;refine⟨?_,j⟩;unfold oZ;rw[j.1,bj Om,ALcf];exact(yI (u4 (r5 d x) (Zj 2))).symm.trans (PG b λk a=>by rw[D1 a];exact(m k a).2)
theorem EF{l:List UInt8}(d:l.length=64){x:Int}{r:List UInt8}(e:r.length=72){k:Nat}(c:k<2):(et (eC l x false r x false k) 39).length=wC 2 (bf 36 (cN l x false) 2) r k:=by
 have f:=vk d x false e x false c;have b:=vm d x false e x false c;have a:=vn (eC l x false r x false k);have g:eC l x false r x false k 36=0:=(b 0).trans Y7;have h:eC l x false r x false k 37=0:=(b 1).trans Y7;have i:eC l x false r x false k 38=0:=(b 2).trans Y7;rw[g,h,i,ALifp rfl] at a;omega
theorem PI{l:List UInt8}(b:l.length=64){x:Int}{r:List UInt8}(c:r.length=72)(h2:2≤b0 2 (bf 36 (cN l x false) 2) r)(n:b0 2 (bf 36 (cN l x false) 2) r≤3):jK ((YW 2).map (cK r x))=3:=by
 obtain⟨m,j⟩: ∃m,b0 2 (bf 36 (cN l x false) 2) r=m+1:=⟨b0 2 (bf 36 (cN l x false) 2) r-1,by omega⟩;obtain⟨k,a,e⟩:=vp b c j;have i:=EF b (x:=x) c a;have h:=EB b (x:=x) (p:=false) (y:=x) c a Om Om;have d:=o1 (o2 (f:=cK r x) a);have g:jK ((YW 2).map (cK r x))≤3:=yY Dc (Eo (P:=λz=>z≤3) λk _=>Ez r x k);rw[h] at d;generalize jK ((YW 2).map (cK r x))=z at d g⊢;omega
theorem PJ{l:List UInt8}(a:l.length=64){x:Int}{r:List UInt8}(b:r.length=72)(h:b0 2 (bf 36 (cN l x true) 2) r≤2):2≤jK ((YW 2).map (cK r x)):=
 yZ (k:=0) Dc (PF a b Dc (Zg (y4 a x true b Dc) h))
end
end E
section
open Go Go.ChangeShapes Go.Deep Go.RowKit Go.WideShapes
inductive Yj where
 | int (k:IntKind)
 | bool
def YC:Yj→Value→Prop
 | .int k,v=>∃z:Int,v= .int k z∧(Lit.int k z).wf=true
 | .bool,v=>∃b:Bool,v= .bool b
def Yt(P:Program)(r:TypeId→Option (List Yj)):Nat→List Field→Option (List Yj)
 | _,[]=>some []
 | off,f::fs=>match r f.type with
  | none=>none
  | some l=>if f.offset==off&&P.cellsOf f.type==l.length then(Yt P r (off+l.length) fs).map λm=>l++m else none
def Ys(P:Program):Nat→TypeId→Option (List Yj)
 | 0,_=>none
 | n+1,t=>match P.underlying t with
  | some .bool=>some [.bool]
  | some (.int k)=>some [.int k]
  | some (.struct a)=>match Yt P (Ys P n) 0 a.toList with
   | some l=>if P.cellsOf t==l.length then some l else none
   | none=>none
  | some (.array m e)=>match Ys P n e with
   | some l=>if P.cellsOf e==l.length&&P.cellsOf t==m*l.length then some (YY m l).flatten else none
   | none=>none
  | _=>none
def Yq(ls:List Yj)(cs:List Value):Prop:=cs.length=ls.length∧∀(i:Nat) (lf:Yj),ls[i]? =some lf→∃v,cs[i]? =some v∧YC lf v
theorem Yq.append{l m:List Yj}{cs:List Value}{k:Nat}(q:k=l.length)(h1:Yq l (cs.take k))(h2:Yq m (cs.drop k)):Yq (l++m) cs:=by
 subst q;obtain⟨f,g⟩:=h1;obtain⟨j,p⟩:=h2;rw[Y0] at f;rw[Zb] at j;refine⟨by rw[YZ];omega,λi e h=>?_⟩;rcases ZF i l.length with c | c
 ·rw[Y2 c] at h;obtain⟨v,a,d⟩:=g i e h;rw[Zn c] at a;exact⟨v,a,d⟩
 ·rw[Y9 c] at h;obtain⟨v,a,d⟩:=p _ e h;rw[Zr,show l.length+(i-l.length)=i by omega] at a;exact⟨v,a,d⟩
section
variable {H:Type} {enc:TypeId×Value→H} {P:Program} {w:World} {base:Nat} {spare:Nat→Bool} {held:Bool}
theorem YD{r:TypeId→Option (List Yj)}{m:Nat}(p: ∀t ls cs x,r t=some ls→DataW.trod enc P w base spare held m t cs=some x→Yq ls cs):
  ∀(c:List Field) (off:Nat) (ls:List Yj) (cs:List Value),Yt P r off c=some ls→off+ls.length=cs.length→
   (∀(i:Nat) (f:Field),c[i]? =some f→∃x,DataW.trod enc P w base spare held m f.type ((cs.drop f.offset).take (P.cellsOf f.type))=some x)→Yq ls (cs.drop off)
 | [],off,ls,cs,h,e,_=>by
  simp only[Yt,Option.some.injEq] at h;subst h;exact⟨by simp at e⊢;omega,λi z h=>by simp at h⟩
 | f::c,off,ls,cs,h,e,k=>by
  unfold Yt at h;cases a:r f.type with
  | none=>rw[a] at h;cases h
  | some l=>
   rw[a] at h;simp only at h
   split at h
   ·rename_i d;simp only[Y3,beq_iff_eq] at d;cases j:Yt P r (off+l.length) c with
    | none=>rw[j] at h;cases h
    | some y=>
     rw[j] at h;simp only[Z6,Option.some.injEq] at h;subst h;rw[YZ] at e;obtain⟨x,q⟩:=k 0 f rfl;rw[d.1,d.2] at q;have s:=p _ _ _ _ a q;have u:=YD p c (off+l.length) y cs j Om λi g v=>k (i+1) g (by simpa using v);exact Yq.append rfl s (by rw[ZY];exact u)
   ·cases h
theorem YE{r:List Value→Prop}{l:List Yj}(d: ∀cs,r cs→Yq l cs): ∀(m:Nat) (cs:List Value),cs.length=m*l.length→(∀i,i<m→r ((cs.drop (i*l.length)).take l.length))→Yq (YY m l).flatten cs
 | 0,cs,h,_=>by
  have:cs=[]:=Z7 Om;subst this;exact⟨rfl,λi g h=>by simp at h⟩
 | m+1,cs,h,c=>by
  rw[aas,Zw];have a:=d _ (c 0 Om);rw[aaM,aaE] at a;refine Yq.append rfl a (YE d m _ (by rw[Zb,h,aaN];omega) λi f=>?_);have e:=c (i+1) Om;rw[ZY];rwa [show(i+1)*l.length=l.length+i*l.length by rw[aaN];omega] at e
theorem Yv: ∀(n:Nat) (t:TypeId) (s:List Yj) (c:Nat) (a:List Value) (x:DataW H×List MemPlace),Ys P n t=some s→DataW.trod enc P w base spare held c t a=some x→Yq s a
 | 0,_,_,_,_,_,h,_=>by simp [Ys] at h
 | n+1,t,s,c,a,x,h,y=>by
  unfold Ys at h;cases q:P.underlying t with
  | none=>rw[q] at h;cases h
  | some d=>
   rw[q] at h;cases d with
   | bool=>
    simp only[Option.some.injEq] at h;subst h;obtain⟨b,rfl,_⟩:=DataW.trod_bool q y;exact⟨rfl,λi L h=>by
     cases i with
     | zero=>simp only[ZO,Option.some.injEq] at h;subst h;exact⟨_,rfl,b,rfl⟩
     | succ i=>simp at h⟩
   | int k=>
    simp only[Option.some.injEq] at h;subst h;obtain⟨z,rfl,_,K⟩:=DataW.trod_int q y;exact⟨rfl,λi L h=>by
     cases i with
     | zero=>simp only[ZO,Option.some.injEq] at h;subst h;exact⟨_,rfl,z,rfl,K⟩
     | succ i=>simp at h⟩
   | struct D=>
    simp only at h;cases j:Yt P (Ys P n) 0 D.toList with
    | none=>rw[j] at h;cases h
    | some l=>
     rw[j] at h;simp only at h
     split at h
     ·rename_i v;rw[beq_iff_eq] at v;cases h;obtain⟨B,m,_,_,J,u,g⟩:=DataW.trod_struct q y;have:=YD (m:=m) (λt s a x p I=>Yv n t s m a x p I) D.toList 0 s a j Om λi f F=>by
       have p:=g i f (by simpa using F);have C:i<B.length:=by rw[u];have:=(List.getElem?_eq_some_iff.1 F).1;simpa using this
       exact⟨B[i],by rw[p,YX C]⟩
      simpa using this
     ·cases h
   | array m e=>
    simp only at h;cases j:Ys P n e with
    | none=>rw[j] at h;cases h
    | some l=>
     rw[j] at h;simp only at h
     split at h
     ·rename_i v;simp only[Y3,beq_iff_eq] at v;cases h;obtain⟨B,G,_,_,J,u,g⟩:=DataW.trod_array q y;refine YE (r:=λa=>∃x,DataW.trod enc P w base spare held G e a=some x) (λa ⟨x,h⟩=>Yv n e l G a x j h) m a Om λi C=>?_;have p:=g i C;rw[v.1] at p;exact⟨B[i]'Om,by rw[p,YX Om]⟩
     ·cases h
   | _=>simp at h
theorem YO{t:TypeId}{v:Value}{d:DataW H}{p:List MemPlace}(n:Nat){ls:List Yj}(f:Ys P n t=some ls)(c: ∃cs,v= .agg cs)(h:DataW.Trod enc P w base spare held t v d p): ∃cs:List Value,v= .agg cs.toArray∧Yq ls cs:=by
 obtain⟨cs,rfl⟩:=c;obtain⟨a,e⟩:=h;exact⟨cs.toList,by simp,Yv n t ls a _ _ f e⟩
theorem YP{r:Reach}{c:Nat}{t:TypeId}{v:Value}{d:TypeDesc}(ht:P.underlying t=some d)(e:(match d with | .struct _ | .array _ _=>true | _=>false)=true)(h:Value.okWide P w r c t v): ∃cs,v= .agg cs:=by
 simp only[Value.okWide,ht] at h;cases d<;>simp at e
 ·obtain⟨cs,a,_⟩:=h;exact⟨cs,a⟩
 ·obtain⟨cs,a,_⟩:=h;exact⟨cs,a⟩
end
theorem YQ{z:Int}(h:(Lit.int .i64 z).wf=true): -9223372036854775808≤z∧z≤9223372036854775807:=by
 have:=bounds_i64 h;omega
theorem Yw: ∀(n:Nat) (a:List Value),Yq (YY n (.int .i64)) a→∃d:List Int,d.length=n∧a=d.map (λz=>Value.int .i64 z)∧∀z∈d, -9223372036854775808≤z∧z≤9223372036854775807
 | 0,a,h=>⟨[],rfl,by have:=h.1;simp at this;simpa using this,by simp⟩
 | n+1,a,h=>by
  obtain⟨g,j⟩:=h;cases a with
  | nil=>simp at g
  | cons c a=>
   obtain⟨v,f,z,k,l⟩:=j 0 (.int .i64) (by simp);obtain⟨d,m,p,q⟩:=Yw n a ⟨by simpa using g,λi s r=>by simpa using j (i+1) s (by rw[aas,ZC];exact r)⟩;simp only[ZO,Option.some.injEq] at f;subst f;subst k;refine⟨z::d,by simp [m],by simp [p],λy e=>?_⟩;rcases List.mem_cons.1 e with rfl | e
   ·exact YQ l
   ·exact q y e
end
section
open Go Go.ChangeShapes Go.Deep Go.RowKit Go.WideShapes
def y7(n:Nat)(w:World)(A:Option Addr)(rows:List (List Value)):Prop:=
 ∀(i:Nat) (r:List Value),rows[i]? =some r→r.length=n∧∃b o,A=some ⟨b,o,none⟩∧b<w.heap.size∧∀(j:Nat) (v:Value),r[j]? =some v→w.cell? ⟨b,o+i*n+j,none⟩=some v
section
variable {n:Nat} {w w':World} {A:Option Addr} {rows:List (List Value)}
theorem y7.nil:y7 n w A []:=λi r h=>by simp at h
end
section
variable {P:Program} {w:World} {b off:Nat}
end
section
variable {P:Program} {w:World} {o:Oper} {ρ:Operand→Value}
end
section
variable {H:Type} {enc:TypeId×Value→H} {P:Program} {w:World} {base:Nat} {spare:Nat→Bool} {held:Bool}
theorem YR{t e:TypeId}{A:Option Addr}{g s:Nat}{d:DataW H}{p:List MemPlace}(n:Nat){ls:List Yj}(Y:Ys P n e=some ls)(hn:P.cellsOf e=ls.length)(h0:0<ls.length)(ht:P.underlying t=some (.slice e))
  (h:DataW.Trod enc P w base spare held t (.slice A g s) d p): ∃rows:List (List Value),rows.length=g∧(∀r∈rows,Yq ls r)∧y7 ls.length w A rows∧g≤s∧s≤maxLen:=by
 obtain⟨T,W⟩:=h;rcases open_slice ht W with⟨k,_⟩ | ⟨a,l,c,m,n',D,Pl,k,_,O,hm,R,_,hx⟩
 ·simp [Value.cells] at k;obtain⟨rfl,rfl,rfl⟩:=k;exact⟨[],rfl,by simp,y7.nil,Zj _,Zz _⟩
 ·simp [Value.cells] at k;obtain⟨rfl,rfl,rfl⟩:=k;have Z:g≤m:=by rw[R];split<;>omega
  obtain⟨f,z⟩:=choose_lt (α:=List Value) (n:=g) (p:=λi S=>w.cells? base (a.add (i*P.cellsOf e)) (P.cellsOf e)=some S∧Yq ls S) λi G=>by
   obtain⟨F,K,L⟩:=hx i Om;exact⟨F,K,Yv n e ls n' F _ Y L⟩
  refine⟨(YW g).map f,by simp,λr C=>?_,λi r C=>?_,O,hm⟩
  ·obtain⟨i,G,rfl⟩:=List.mem_map.1 C;exact(z i (List.mem_range.1 G)).2
  ·have G:i<g:=by have:=(List.getElem?_eq_some_iff.1 C).1;simpa using this
   rw[ZE,Z0 G] at C;simp only[Z6,Option.some.injEq] at C;subst C;obtain⟨K,L⟩:=z i G;obtain⟨_,h3,U⟩:=aav K;refine⟨L.1,?_⟩;obtain⟨b,o,J⟩:=a;have u:=U 0 Om;have M:(f i)[0]? =some ((f i)[0]'Om):=YX Om;rw[M] at u;have B:J=none:=by
    obtain⟨z1,z2⟩:=z 0 Om;have I:=(aav z1).2.2 0 Om;have hzl:=z2.1;rw[YX (show 0<(f 0).length by omega)] at I;have:=World.cell?_spot I;simpa [Addr.add] using this
   subst B;have q: ∀(x y:Nat),((⟨b,o,none⟩:Addr).add x).add y=⟨b,o+x+y,none⟩:=λx y=>by
    unfold Addr.add
    split<;>split<;>simp_all
   refine⟨b,o,rfl,?_,λj v V=>?_⟩
   ·rcases ZF b w.heap.size with Q | N
    ·exact Q
    ·exfalso;rw[q] at u;simp [aaJ,Array.getElem?_eq_none N] at u
   ·have X:j<P.cellsOf e:=by have:=(List.getElem?_eq_some_iff.1 V).1;omega
    have:=U j X;rw[q,hn] at this;rw[this,V]
end
end
namespace E
section
open Go Go.RowKit Go.Shelf
theorem PK{w:World}{b o:Nat}{v:Value}(h:w.cell? ⟨b,o,none⟩=some v): ∃cs t a,w.heap[b]? =some (.cells cs t a):=by
 unfold aaJ at h;cases c:w.heap[b]? with
 | none=>simp [c] at h
 | some x=>
  cases x with
  | cells cs t a=>exact⟨cs,t,a,rfl⟩
  | _=>simp [c] at h
theorem PL{α:Type}{en:α→List Value}{k:Nat}(b: ∀y,(en y).length=k){xs:List α}{i r:Nat}(a:i<xs.length)(c:r<k)(d:α):(ao en xs)[i*k+r]? =(en (xs.getD i d))[r]? :=by
 have h:=ALca (λl=>l[r]?) (tZ (d:=d) b a);simp only[Zn c,Zr] at h;exact h
theorem PM{α:Type}{en:α→List Value}{k:Nat}{w:World}{A:Option Addr}{n c:Nat}{xs:List α}(f: ∀y,(en y).length=k)(h0:0<k)(h:y7 k w A (xs.map en))(K:xs.length=n): ∃q,eh q w∧dO en (.slice A n c) xs q:=by
 subst K;cases m:xs with
 | nil=>exact⟨[],⟨λ_ h=>by simp at h,List.Pairwise.nil⟩,.inl ⟨rfl,A,c,rfl⟩⟩
 | cons a P=>
  rw[←m];have B:0<xs.length:=by rw[m];exact Nat.zero_lt_succ _
  obtain⟨_,b,o,rfl,J,G⟩:=h 0 (en a) (by rw[m];rfl);have d: ∃v,(en a)[0]? =some v:=⟨(en a)[0]'(by rw[f];exact h0),YX _⟩;obtain⟨M,l⟩:=d;obtain⟨e,t,g,u⟩:=PK (G 0 M l);refine⟨[(b,.cells e t g)],⟨λz L=>by rw[List.mem_singleton.1 L];exact u,List.pairwise_singleton _ _⟩,.inr ⟨b,o,e,t,g,c,rfl,List.mem_singleton.2 rfl,?_⟩⟩;have F:(ao en xs).length=xs.length*k:=fD f rfl;have p: ∀j,j<xs.length*k→e.toList[o+j]? =(ao en xs)[j]? :=by
   intro j d;have x:j/k<xs.length:=ZI (by rw[Y5];exact d);have C:j%k<k:=Y4 _ h0;have H:j=j/k*k+j%k:=(Nat.div_add_mod' j k).symm;obtain⟨_,N,O,I,_,i⟩:=h (j/k) (en (xs.getD (j/k) a)) (by rw[ZE,YU,YX x];rfl);cases I;have D:(en (xs.getD (j/k) a))[j%k]? =some ((en (xs.getD (j/k) a))[j%k]'(by rw[f];exact C)):=YX _;have r:=i (j%k) _ D;rw[cell_of_row w b _ e t g u,←Array.getElem?_toList] at r;have s:=PL f x C a;rw[←H] at s;rw[s,D,←r]
   congr 1
   omega
  rw[F];apply ZM;intro j;by_cases d:j<xs.length*k
  ·rw[Zn d,Zr];exact p j d
  ·rw[Y8 (by rw[Y0];omega),Y8 Om]
end
section
open Go Go.RowKit Go.Shelf
def dI(x:Int):Int:=IntKind.i64.wrap x
theorem EG{x:Int}(h0: -9223372036854775808≤x)(h1:x≤9223372036854775807):dI x=x:=IntWalk.i64_in _ Om
section
variable {P:Program} {T:TypeId} {x y:Operand} {w:World}
theorem PN(a b:Int):(av .and T x y (.int .i64 a) (.int .i64 b)).run P w= .ok (.int .i64 (bits .and .i64 a b)) w:=rfl
theorem PO(a b:Int):(av .add T x y (.int .i64 a) (.int .i64 b)).run P w= .ok (.int .i64 (dI (a+b))) w:=rfl
theorem EH(a b:Int):(av .sub T x y (.int .i64 a) (.int .i64 b)).run P w= .ok (.int .i64 (dI (a-b))) w:=rfl
theorem y8(a b:Int):(av .mul T x y (.int .i64 a) (.int .i64 b)).run P w= .ok (.int .i64 (dI (a*b))) w:=rfl
end
def fl(n a:Int):Bool:=((decide (1≤n))&&(decide (n≤a)))&&((bits .and .i64 n (dI (n-1)))==0)
theorem mC{n a:Int}(h:fl n a=true):1≤n∧n≤a:=by
 unfold fl at h;simp only[Y3,decide_eq_true_eq] at h;exact h.1
theorem PQ: ∀n:Nat,n<1025→fl (n:Int) 1024=true→n∈[1,2,4,8,16,32,64,128,256,512,1024]:=by decide+kernel
theorem EI{n:Nat}{a:Int}(c:a≤1024)(h:fl (n:Int) a=true):n∈[1,2,4,8,16,32,64,128,256,512,1024]:=by
 have b:=mC h;refine PQ n Om ?_;unfold fl at h⊢;simp only[Y3,decide_eq_true_eq] at h⊢;exact⟨⟨h.1.1,by omega⟩,h.2⟩
def ja(r s b m c:Int):Bool:=((((((fl r 8)&&(decide (0≤s)))&&(decide (s≤(dI (8-r)))))&&(fl b 16))&&(fl m 1024))&&(fl c 64))&&(decide ((dI (dI (dI (dI (r+s)*b)*m)*c))≤4096))
structure cC (R S B M C:Nat):Prop where
 ok:ja R S B M C=true
structure ie (R S B M C:Nat):Prop where
 r1:1≤R
 r8:R+S≤8
 b1:1≤B
 b16:B≤16
 m1:1≤M
 m10:M≤1024
 c1:1≤C
 c64:C≤64
 all:(R+S)*B*M*C≤4096
theorem EJ{r s b m c:Int}(h:ja r s b m c=true): ∃R S B M C:Nat,r=R∧s=S∧b=B∧m=M∧c=C∧cC R S B M C:=by
 have a:=h;unfold ja at h;simp only[Y3,decide_eq_true_eq] at h;obtain⟨⟨⟨⟨⟨⟨d,i⟩,j⟩,e⟩,f⟩,g⟩,k⟩:=h;have:=mC d;have:=mC e;have:=mC f;have:=mC g;refine⟨r.toNat,s.toNat,b.toNat,m.toNat,c.toNat,by omega,by omega,by omega,by omega,by omega,⟨?_⟩⟩;rw[Zq Om,Zq Om,Zq Om,Zq Om,Zq Om];exact a
theorem cC.bd{R S B M C:Nat}(h:cC R S B M C):ie R S B M C:=by
 have h:=h.ok;unfold ja at h;simp only[Y3,decide_eq_true_eq] at h;obtain⟨⟨⟨⟨⟨⟨e,u⟩,f⟩,g⟩,i⟩,j⟩,k⟩:=h;have p:=mC e;have q:=mC g;have r:=mC i;have s:=mC j;rw[EG Om Om] at f;have b:R+S≤8:=by omega
 have c:(R+S)*B≤8*16:=Z2 b Om;have d:(R+S)*B*M≤128*1024:=Z2 c Om;have t:(R+S)*B*M*C≤131072*64:=Z2 d Om;have a: ∀x:Nat,x≤8388608→dI (x:Int)=(x:Int):=λx v=>EG Om Om;have l:dI ((R:Int)+(S:Int))=((R+S:Nat):Int):=(a (R+S) Om);have m:dI (((R+S:Nat):Int)*(B:Int))=(((R+S)*B:Nat):Int):=by rw[←aae];exact a _ Om
 have n:dI ((((R+S)*B:Nat):Int)*(M:Int))=(((R+S)*B*M:Nat):Int):=by rw[←aae];exact a _ Om
 have o:dI ((((R+S)*B*M:Nat):Int)*(C:Int))=(((R+S)*B*M*C:Nat):Int):=by rw[←aae];exact a _ Om
 rw[l,m,n,o] at k;exact⟨by omega,b,by omega,by omega,by omega,by omega,by omega,by omega,by omega⟩
theorem cC.pow{R S B M C:Nat}(h:cC R S B M C):B∈[1,2,4,8,16,32,64,128,256,512,1024]:=by
 have h:=h.ok;unfold ja at h;simp only[Y3,decide_eq_true_eq] at h;obtain⟨⟨⟨⟨⟨⟨b,c⟩,d⟩,a⟩,e⟩,f⟩,g⟩:=h;exact EI Dc a
section
variable {R S B M C:Nat} (h:ie R S B M C)
theorem ie.rb(h:ie R S B M C):R*B≤128:=Z2 (show R≤8 by have:=h.r8;omega) h.b16
theorem ie.sbm(h:ie R S B M C):(R+S)*B*M≤4096:=Zg (ZQ _ h.c1) h.all
theorem ie.rbm(h:ie R S B M C):R*B*M≤4096:=Zg (Y6 M (Y6 B (aaD R S))) h.sbm
theorem ie.rbmc(h:ie R S B M C):R*B*M*C≤4096:=Zg (Y6 C (Y6 M (Y6 B (aaD R S)))) h.all
theorem ie.bm(h:ie R S B M C):B*M≤4096:=by
 have a:B*M≤R*(B*M):=aan _ h.r1;rw[←Za] at a;exact Zg a h.rbm
theorem ie.bmc(h:ie R S B M C):B*M*C≤4096:=by
 have a:B*M*C≤R*(B*M*C):=aan _ h.r1;rw[←Za,←Za] at a;exact Zg a h.rbmc
end
def bQ(i n:Int):Bool:=(decide (0≤i))&&(decide (i<n))
theorem lS{i n:Int}:bQ i n=true↔0≤i∧i<n:=by unfold bQ;simp
def hold(R S B M C:Nat)(a p1 p2 p3:Int):Bool:=(((bQ a ((R+S:Nat):Int))&&(bQ p1 (B:Int)))&&(bQ p2 (M:Int)))&&(bQ p3 (C:Int))
theorem vq{R S B M C:Nat}{e p1 p2 p3:Int}:hold R S B M C e p1 p2 p3=true↔(0≤e∧e<((R+S:Nat):Int))∧(0≤p1∧p1<(B:Int))∧(0≤p2∧p2<(M:Int))∧(0≤p3∧p3<(C:Int)):=by
 unfold hold;rw[Y3,Y3,Y3,lS,lS,lS,lS]
 constructor
 ·rintro ⟨⟨⟨a,b⟩,c⟩,d⟩;exact⟨a,b,c,d⟩
 ·rintro ⟨a,b,c,d⟩;exact⟨⟨⟨a,b⟩,c⟩,d⟩
def dQ(a p1 p2 p3:Int):Int:=a*1048576+p1*65536+p2*64+p3
def fY(R S B M C:Nat)(i:Int):Bool:= !(decide (i<0)|| !(hold R S B M C (i/1048576) (i/65536%16) (i/64%1024) (i%64)))
theorem PR{R S B M C:Nat}(b:ie R S B M C){a p1 p2 p3:Int}(h:hold R S B M C a p1 p2 p3=true):dQ a p1 p2 p3/1048576=a∧dQ a p1 p2 p3/65536%16=p1∧dQ a p1 p2 p3/64%1024=p2∧dQ a p1 p2 p3%64=p3∧0≤dQ a p1 p2 p3∧dQ a p1 p2 p3<8388608:=by
 obtain⟨c,d,e,f⟩:=vq.1 h;have:=b.b16;have:=b.m10;have:=b.c64;have:=b.r8;unfold dQ;omega
end
section
open Go Go.RowKit Go.Shelf
theorem vr(n a:Int):aa YV 97 #[i6 n,i6 a] [] [] N0 (λ_=> .bool (fl n a)):=by
 exact fG Tryz.func97 λw b=>r0 [] [(4,.bool false)] [] (r0 [(10,.t (tv (av .sub 3 (.tmp 14) (.const (i6 1)) (i6 n) (i6 1)) (λ_=>EH n 1))),(11,.t (tv (av .and 3 (.tmp 13) (.tmp 15) (i6 n) (i6 (dI (n-1)))) (λ_=>PN n _))),] [(4,.bool (((decide (1≤n))&&(decide (n≤a)))&&((bits .and .i64 n (dI (n-1)))==0)))] [4] (aq (.bool (((decide (1≤n))&&(decide (n≤a)))&&((bits .and .i64 n (dI (n-1)))==0))) ab.zero ba [] [] []))
theorem vt(i n:Int):aa YV 105 #[i6 i,i6 n] [] [] N0 (λ_=> .bool (bQ i n)):=by
 exact fG Tryz.func105 λw a=>r0 [] [(4,.bool false)] [] (r0 [] [(4,.bool ((decide (0≤i))&&(decide (i<n))))] [4] (aq (.bool ((decide (0≤i))&&(decide (i<n)))) ab.zero ba [] [] []))
theorem EK(r s b m c:Int):aa YV 57 #[.agg #[i6 r,i6 s,i6 b,i6 m,i6 c]] [] [] N0 (λ_=> .bool (ja r s b m c)):=by
 exact fG Tryz.func57 λw d=>ra (λa=>[(1,pt (B0 a) 0),(2,.bool false)]) (λa=>[ob (B0 a) #[i6 r,i6 s,i6 b,i6 m,i6 c] 23]) λa=>r0 [(1,.m (ld 0 (i6 r))),(2,.c [] [] (vr r 8)),(5,.m (ld 0 (i6 s))),(10,.m (ld 0 (i6 s))),(12,.m (ld 0 (i6 r))),(13,.t (tv (av .sub 3 (.const (i6 8)) (.tmp 15) (i6 8) (i6 r)) (λ_=>EH 8 r))),(18,.m (ld 0 (i6 b))),(19,.c [] [] (vr b 16)),(23,.m (ld 0 (i6 m))),(24,.c [] [] (vr m 1024)),(28,.m (ld 0 (i6 c))),(29,.c [] [] (vr c 64)),(33,.m (ld 0 (i6 r))),(35,.m (ld 0 (i6 s))),(36,.t (tv (av .add 3 (.tmp 36) (.tmp 38) (i6 r) (i6 s)) (λ_=>PO r s))),(38,.m (ld 0 (i6 b))),(39,.t (tv (av .mul 3 (.tmp 39) (.tmp 41) (i6 (dI (r+s))) (i6 b)) (λ_=>y8 _ _))),(41,.m (ld 0 (i6 m))),(42,.t (tv (av .mul 3 (.tmp 42) (.tmp 44) (i6 (dI (dI (r+s)*b))) (i6 m)) (λ_=>y8 _ _))),(44,.m (ld 0 (i6 c))),(45,.t (tv (av .mul 3 (.tmp 45) (.tmp 47) (i6 (dI (dI (dI (r+s)*b)*m))) (i6 c)) (λ_=>y8 _ _))),] [(2,.bool (((((((fl r 8)&&(decide (0≤s)))&&(decide (s≤(dI (8-r)))))&&(fl b 16))&&(fl m 1024))&&(fl c 64))&&(decide ((dI (dI (dI (dI (r+s)*b)*m)*c))≤4096))))] [2] (aq (.bool (((((((fl r 8)&&(decide (0≤s)))&&(decide (s≤(dI (8-r)))))&&(fl b 16))&&(fl m 1024))&&(fl c 64))&&(decide ((dI (dI (dI (dI (r+s)*b)*m)*c))≤4096)))) ab.zero ba [] [] [])
theorem vu(R S B M C:Nat)(a:cC R S B M C):aa YV 57 #[.agg #[iN R,iN S,iN B,iN M,iN C]] [] [] N0 (λ_=> .bool true):=by
 have h:=EK R S B M C;rwa [a.ok] at h
attribute [local irreducible] bQ fl dI
theorem sd(R S B M C:Nat)(d:cC R S B M C)(a p1 p2 p3:Int):aa YV 73 #[.agg #[iN R,iN S,iN B,iN M,iN C],.agg #[i6 a,i6 p1,i6 p2,i6 p3]] [] [] N0 (λ_=> .bool (hold R S B M C a p1 p2 p3)):=by
 have e:=d.bd;have f:=e.r8;exact fG Tryz.func73 λw g=>ra (λb=>[(2,pt (B0 b) 0),(3,pt (B1 b) 0),(4,.bool false)]) (λb=>[ob (B0 b) #[iN R,iN S,iN B,iN M,iN C] 23,ob (B1 b) #[i6 a,i6 p1,i6 p2,i6 p3] 46]) λb=>r0 [(0,.m (ls 0 ([iN R,iN S,iN B,iN M,iN C]))),(1,.c [] [] (vu R S B M C d)),(4,.m (ld 1 (i6 a))),(6,.m (ld 0 (iN R))),(8,.m (ld 0 (iN S))),(9,ad R S),(10,.c [] [] (vt a ((R+S:Nat):Int))),(14,.m (ld 1 (i6 p1))),(16,.m (ld 0 (iN B))),(17,.c [] [] (vt p1 (B:Int))),(21,.m (ld 1 (i6 p2))),(23,.m (ld 0 (iN M))),(24,.c [] [] (vt p2 (M:Int))),(28,.m (ld 1 (i6 p3))),(30,.m (ld 0 (iN C))),(31,.c [] [] (vt p3 (C:Int)))] [(4,.bool ((((bQ a ((R+S:Nat):Int))&&(bQ p1 (B:Int)))&&(bQ p2 (M:Int)))&&(bQ p3 (C:Int))))] [4] (aq (.bool ((((bQ a ((R+S:Nat):Int))&&(bQ p1 (B:Int)))&&(bQ p2 (M:Int)))&&(bQ p3 (C:Int)))) ab.zero ba [] [] [])
theorem EL(a p1 p2 p3:Int)(c:0≤a)(g:a<8)(d:0≤p1)(h:p1<16)(e:0≤p2)(i:p2<1024)(f:0≤p3)(j:p3<64):aa YV 102 #[.agg #[i6 a,i6 p1,i6 p2,i6 p3]] [] [] N0 (λ_=>i6 (dQ a p1 p2 p3)):=by
 exact fG Tryz.func102 λw k=>ra (λb=>[(1,pt (B0 b) 0),(2,i6 0)]) (λb=>[ob (B0 b) #[i6 a,i6 p1,i6 p2,i6 p3] 46]) λb=>r0 [(1,.m (ld 0 (i6 a))),(2,.t (tv (av .shl 3 (.tmp 4) (.const (u6 20)) (i6 a) (u6 20)) (λ_=>fH 20 Dc Om Om))),(4,.m (ld 0 (i6 p1))),(5,.t (tv (av .shl 3 (.tmp 7) (.const (u6 16)) (i6 p1) (u6 16)) (λ_=>fH 16 Dc Om Om))),(6,.t (tv (av .or 3 (.tmp 5) (.tmp 8) (i6 (a*2^20)) (i6 (p1*2^16))) (λ_=>rJ 20 1048576 rfl Om Om Om Om Om))),(8,.m (ld 0 (i6 p2))),(9,.t (tv (av .shl 3 (.tmp 11) (.const (u6 6)) (i6 p2) (u6 6)) (λ_=>fH 6 Dc Om Om))),(10,.t (tv (av .or 3 (.tmp 9) (.tmp 12) (i6 (a*2^20+p1*2^16)) (i6 (p2*2^6))) (λ_=>rJ 16 65536 rfl Om Om Om Om Om))),(12,.m (ld 0 (i6 p3))),(13,.t (tv (av .or 3 (.tmp 13) (.tmp 15) (i6 (a*2^20+p1*2^16+p2*2^6)) (i6 p3)) (λ_=>rJ 6 64 rfl Om Om Om Om Om)))] [(2,i6 (a*2^20+p1*2^16+p2*2^6+p3))] [2] (aq (i6 (a*2^20+p1*2^16+p2*2^6+p3)) ab.zero (by exact ALca (Value.int .i64) (by unfold dQ;omega)) [] [] [])
theorem PS{R S B M C:Nat}(a:ie R S B M C){b p1 p2 p3:Int}(h:hold R S B M C b p1 p2 p3=true):(0≤b∧b<8)∧(0≤p1∧p1<16)∧(0≤p2∧p2<1024)∧0≤p3∧p3<64:=by
 obtain⟨c,d,e,f⟩:=vq.1 h;have:=a.b16;have:=a.m10;have:=a.c64;have:=a.r8;omega
def se(R S B M C:Nat)(a p1 p2 p3:Int):Int:=(bif !(hold R S B M C a p1 p2 p3) then 0 else(dQ a p1 p2 p3))
def sf(R S B M C:Nat)(a p1 p2 p3:Int):Int:=(bif !(hold R S B M C a p1 p2 p3) then 12 else 0)
theorem EM(R S B M C:Nat)(e:cC R S B M C)(a p1 p2 p3:Int):aa YV 147 #[.agg #[iN R,iN S,iN B,iN M,iN C],.agg #[i6 a,i6 p1,i6 p2,i6 p3]] [] [] N0 (λ_=> .tuple #[i6 (se R S B M C a p1 p2 p3),i6 (sf R S B M C a p1 p2 p3)]):=by
 refine fG Tryz.func147 λw f=>ra (λb=>[(2,pt (B0 b) 0),(3,pt (B1 b) 0),(4,i6 0),(5,i6 0)]) (λb=>[ob (B0 b) #[iN R,iN S,iN B,iN M,iN C] 23,ob (B1 b) #[i6 a,i6 p1,i6 p2,i6 p3] 46]) λb=>r0 [(0,.l 0),(1,.l 1),(2,.c [] [] (sd R S B M C e a p1 p2 p3))] [(9,.bool (!(hold R S B M C a p1 p2 p3)))] [] ?_;refine cB (!(hold R S B M C a p1 p2 p3)) (λd=>?_) λd=>?_
 ·exact r0 [] [(4,i6 0),(5,i6 12)] [4,5] (aq (.tuple #[i6 0,i6 12]) ab.zero (by((try simp only[se,sf]);(repeat (first | rw[d] | rw[ALct])))<;>rfl) [] [] [])
 obtain⟨⟨g,k⟩,⟨h,m⟩,⟨i,n⟩,j,o⟩:=PS e.bd (by simpa using d);exact r0 [(0,.l 1),(1,.c [] [] (EL a p1 p2 p3 Om Om Om Om Om Om Om Om))] [(4,i6 (dQ a p1 p2 p3)),(5,i6 0)] [4,5] (aq (.tuple #[i6 (dQ a p1 p2 p3),i6 0]) ab.zero (by((try simp only[se,sf]);(repeat (first | rw[d] | rw[ALcf])))<;>rfl) [] [] [])
theorem PT(i:Int):aa YV 104 #[i6 i] [] [] N0 (λ_=> .agg #[i6 (i/1048576),i6 (i/65536%16),i6 (i/64%1024),i6 (i%64)]):=by
 exact fG Tryz.func104 λw b=>ra (λa=>[(2,pt (B0 a) 0)]) (λa=>[ob (B0 a) #[i6 0,i6 0,i6 0,i6 0] 46]) λa=>rs [(1,.t (tv (av .shr 3 (.tmp 3) (.const (u6 20)) (i6 i) (u6 20)) (λ_=>iE 20 Dc))),(3,.t (tv (av .shr 3 (.tmp 5) (.const (u6 16)) (i6 i) (u6 16)) (λ_=>iE 16 Dc))),(4,.t (tv (av .and 3 (.tmp 6) (.const (i6 15)) (i6 (i/65536)) (i6 15)) (λ_=>mw _ 4 16 Dc Dc Dc Dc))),(6,.t (tv (av .shr 3 (.tmp 8) (.const (u6 6)) (i6 i) (u6 6)) (λ_=>iE 6 Dc))),(7,.t (tv (av .and 3 (.tmp 9) (.const (i6 1023)) (i6 (i/64)) (i6 1023)) (λ_=>mw _ 10 1024 Dc Dc Dc Dc))),(9,.t (tv (av .and 3 (.tmp 11) (.const (i6 63)) (i6 i) (i6 63)) (λ_=>mw _ 6 64 Dc Dc Dc Dc))),(11,.s 0)] 0 (ob (B0 a) #[i6 (i/1048576),i6 (i/65536%16),i6 (i/64%1024),i6 (i%64)] 46) (lf ab.zero [] [] [0])
attribute [local irreducible] hold
def sh(R S B M C:Nat)(i:Int):Int:=(bif (decide (i<0))||(!(hold R S B M C (i/1048576) (i/65536%16) (i/64%1024) (i%64))) then 0 else(i/1048576))
def si(R S B M C:Nat)(i:Int):Int:=(bif (decide (i<0))||(!(hold R S B M C (i/1048576) (i/65536%16) (i/64%1024) (i%64))) then 0 else(i/65536%16))
def sj(R S B M C:Nat)(i:Int):Int:=(bif (decide (i<0))||(!(hold R S B M C (i/1048576) (i/65536%16) (i/64%1024) (i%64))) then 0 else(i/64%1024))
def sk(R S B M C:Nat)(i:Int):Int:=(bif (decide (i<0))||(!(hold R S B M C (i/1048576) (i/65536%16) (i/64%1024) (i%64))) then 0 else(i%64))
def sm(R S B M C:Nat)(i:Int):Int:=(bif (decide (i<0))||(!(hold R S B M C (i/1048576) (i/65536%16) (i/64%1024) (i%64))) then 12 else 0)
theorem EN(R S B M C:Nat)(e:cC R S B M C)(i:Int):aa YV 68 #[.agg #[iN R,iN S,iN B,iN M,iN C],i6 i] [] [] N0 (λ_=> .tuple #[.agg #[i6 (sh R S B M C i),i6 (si R S B M C i),i6 (sj R S B M C i),i6 (sk R S B M C i)],i6 (sm R S B M C i)]):=by
 refine fG Tryz.func68 λw f=>ra (λa=>[(2,pt (B0 a) 0),(4,pt (B1 a) 0),(5,i6 0)]) (λa=>[ob (B0 a) #[iN R,iN S,iN B,iN M,iN C] 23,ob (B1 a) #[i6 0,i6 0,i6 0,i6 0] 46]) λa=>rr (λ_=>[(1,.c [] [] (PT i)),(3,.s 2)]) (λb=>[(6,pt (B2 b) 0)]) [] (λb L=>L++[ob (B2 b) #[i6 (i/1048576),i6 (i/65536%16),i6 (i/64%1024),i6 (i%64)] 46]) λb=>r0 [(3,.l 0),(4,.l 2),(5,.c [] [] (sd R S B M C e (i/1048576) (i/65536%16) (i/64%1024) (i%64)))] [(16,.bool ((decide (i<0))||(!(hold R S B M C (i/1048576) (i/65536%16) (i/64%1024) (i%64)))))] [] ?_;refine cB ((decide (i<0))||(!(hold R S B M C (i/1048576) (i/65536%16) (i/64%1024) (i%64)))) (λd=>?_) λd=>?_
 ·exact r0 [(1,.s 1)] [(5,i6 12)] [5] (aq (.tuple #[.agg #[i6 0,i6 0,i6 0,i6 0],i6 12]) ab.zero (by((try simp only[sh,si,sj,sk,sm]);(repeat (first | rw[d] | rw[ALct])))<;>rfl) [] [] [1])
 exact rr (λ_=>[(0,.l 2),(1,.s 1)]) (λ_=>[(5,i6 0)]) [5] (λ_ L=>L.set 1 (ob (B1 a) #[i6 (i/1048576),i6 (i/65536%16),i6 (i/64%1024),i6 (i%64)] 46)) λg=>aq (.tuple #[.agg #[i6 (i/1048576),i6 (i/65536%16),i6 (i/64%1024),i6 (i%64)],i6 0]) ab.zero (by((try simp only[sh,si,sj,sk,sm]);(repeat (first | rw[d] | rw[ALcf])))<;>rfl) [] [] [1]
theorem PU(R S B M C:Nat)(d:cC R S B M C):aa YV 224 #[.agg #[iN R,iN S,iN B,iN M,iN C]] [] [] N0 (λ_=>iN ((B*M)*C)):=by
 have b:=d.bd;have f:=b.bm;have g:=b.bmc;exact fG Tryz.func224 λw e=>ra (λa=>[(1,pt (B0 a) 0),(2,i6 0)]) (λa=>[ob (B0 a) #[iN R,iN S,iN B,iN M,iN C] 23]) λa=>rF [(0,.l 0),(1,.c [] [] (vu R S B M C d))] 5 (r0 [(1,.l 0),(3,.l 0),(4,ml B M),(6,.l 0),(7,ml (B*M) C)] [(2,iN ((B*M)*C))] [2] (lf ab.zero [] [] []))
theorem mD(R S B M C:Nat)(d:cC R S B M C):aa YV 24 #[.agg #[iN R,iN S,iN B,iN M,iN C]] [] [] N0 (λ_=>iN ((R*B)*M)):=by
 have b:=d.bd;have f:=b.rb;have g:=b.rbm;exact fG Tryz.func24 λw e=>ra (λa=>[(1,pt (B0 a) 0),(2,i6 0)]) (λa=>[ob (B0 a) #[iN R,iN S,iN B,iN M,iN C] 23]) λa=>rF [(0,.l 0),(1,.c [] [] (vu R S B M C d))] 5 (r0 [(1,.l 0),(3,.l 0),(4,ml R B),(6,.l 0),(7,ml (R*B) M)] [(2,iN ((R*B)*M))] [2] (lf ab.zero [] [] []))
end
section
open Go Go.RowKit Go.Shelf
def k6(v:Wr):Nat→ah→ah
 | _,[]=>[]
 | k,x::xs=>((cx v k).getD x)::k6 v (k+1) xs
theorem sn(v:Wr): ∀(k:Nat) (L:ah),(k6 v k L).length=L.length
 | _,[]=>rfl
 | k,x::xs=>by unfold k6;rw[Zx,Zx,sn v (k+1) xs]
theorem y9(v:Wr): ∀(k:Nat) (L:ah) (p:Nat),(k6 v k L)[p]? =L[p]?.map λx=>(cx v (k+p)).getD x
 | _,[],_=>by unfold k6;simp
 | k,x::xs,0=>by unfold k6;simp
 | k,x::xs,p+1=>by unfold k6;rw[ZC,ZC,y9 v (k+1) xs p,show k+1+p=k+(p+1) by omega]
section
variable {P:Program} {f:FuncId} {args:Array Value} {rest:ah} {wt:ab→ah} {v:ab→Value} {S S':ah→Prop}
theorem PV{L:ah}{w:World}{cs:List aA}(hs:bo L cs)(e:eh cs.flatten w):kL (bN cs.flatten) w L.length (λp=>L[p]?) (λi=>cs.getD i []) w:=by
 have d:=qU e.nd;have k:=jv hs;have h: ∀i,∀z∈cs.getD i [],z∈cs.flatten:=λi z a=>by
  by_cases g:i<cs.length
  ·exact List.mem_flatten.2 ⟨_,nE g,a⟩
  ·rw[pC g] at a;simp at a
 exact⟨λp j x c=>mZ hs c,λp j c=>by rw[List.getElem?_eq_none_iff] at c;omega,λp j z a=>e.obj z (h p z a),λp _=>d.1 p,λp q _ _ b=>d.2 p q b,
  λp _ z a=> .inl (List.mem_map.2 ⟨z,h p z a,rfl⟩),rfl,rfl,rfl,Zj _,λ_ _ _=>rfl⟩
theorem aa.pkR(d:Enters P f)(h: ∀L,S L→aa P f args (L++rest) [] wt v):aa P f args ((pk S)::rest) [] wt v:=by
 refine⟨d,λw a j b=>?_⟩;obtain⟨k,a,rfl,⟨L,c,e,g,rfl⟩,i⟩:=Yp j;have:=(h L e).out w (c++a) (kj g i) (by rw[Zy];rw[Zw] at b;exact b);simpa using this
theorem zp(q:Nat)(x:aC)(r:Wr)(p:Nat):cx ((q,x)::r) p=if q=p then some x else cx r p:=rfl
theorem EO: ∀(a b:Wr) (p:Nat),cx (a++b) p=(cx a p).or (cx b p)
 | [],b,p=>by simp [cx]
 | (q,x)::a,b,p=>by
  rw[List.cons_append,zp,zp];by_cases e:q=p
  ·rw[ALifp e,ALifp e];rfl
  ·rw[ALifn e,ALifn e];exact EO a b p
theorem EP{qs:List Nat}{p:Nat}(h:p∉qs)(N:ah):cx (qs.zip N) p=none:=by
 cases e:cx (qs.zip N) p with
 | none=>rfl
 | some x=>exact absurd (List.of_mem_zip (qM e)).1 h
theorem ER(m:Nat): ∀(N:ah) (k p:Nat),cx (((aab k N.length).map λi=>m+i).zip N) (m+k+p)=N[p]?
 | [],k,p=>by simp [cx]
 | x::N,k,0=>by simp [aaz,cx]
 | x::N,k,p+1=>by
  rw[Zx,aaz,List.map_cons,List.zip_cons_cons,ZC,←ER m N (k+1) p];rw[zp,ALifn Om,show m+k+(p+1)=m+(k+1)+p by omega]
theorem aa.pkW{n:Nat}{N:ab→ah}(hE:Enters P f)(h: ∀L,S L→∃(O:List Nat) (wt:ab→ah),aa P f args (L++rest) O (λE=>wt E++N E) v∧(dj O&&O.all λi=>decide (i<L.length))=true∧∀E,(wt E).length=O.length∧(N E).length=n∧S' (k6 (O.zip (wt E)) 0 L)):
  aa P f args ((pk S)::rest) [0] (λE=>(pk S')::N E) v:=by
 refine⟨hE,λw F hs C=>?_⟩;obtain⟨bs,F,rfl,⟨L,ds,hL,Q,rfl⟩,hr⟩:=Yp hs;obtain⟨O,wt,hC,I,hW⟩:=h L hL;rw[Y3] at I;have X:=nC I.1;have q: ∀i∈O,i<L.length:=λi D=>by simpa using List.all_eq_true.1 I.2 i D
 have hlen:=jv Q;rw[Zw] at C;refine(callsIn_wide (n:=6)).1 ((callsIn_wide.2 (hC.out w (ds++F) (kj Q hr) (by rw[Zy];exact C))).mono λe w' he=>?_);obtain⟨E,r,e1,y,hst⟩:=he;obtain⟨hWl,hNl,K⟩:=hW E;have T:=jv y;rw[YZ] at T;have R:bo (L++(N E).map λ_=> .c []) (ds++(N E).map λ_=>[]):=kj Q (by
  generalize N E=M
  induction M with
  | nil=>trivial
  | cons x M ih=>exact⟨rfl,ih⟩)
 have o:(ds++(N E).map λ_=>([]:aA)).flatten=ds.flatten:=by
  rw[Zy];have:((N E).map λ_=>([]:aA)).flatten=[]:=by
   generalize N E=M
   induction M with
   | nil=>rfl
   | cons x M ih=>simp
  rw[this,Zs]
 have V:eh ds.flatten w:=⟨λx hx=>C.obj x (aap _ hx),(List.pairwise_append.1 C.nd).1⟩;obtain⟨c,hF,hc⟩: ∃c,kL (bN ds.flatten) w (L++(N E).map λ_=>aC.c []).length (λp=>(L++(N E).map λ_=>aC.c [])[p]?) c w∧∀p,c p=(ds++(N E).map λ_=>[]).getD p []:=
  ⟨λp=>(ds++(N E).map λ_=>[]).getD p [],by have:=PV R (w:=w) (by rw[o];exact V);rwa [o] at this,λ_=>rfl⟩
 have t:(L++(N E).map λ_=>aC.c []).length=L.length+(N E).length:=by rw[YZ,Y1]
 obtain⟨qs,l⟩: ∃qs,qs=O++(aab 0 (N E).length).map λi=>L.length+i:=⟨_,rfl⟩;have Y:qs.length=r.length:=by rw[l,YZ,Y1,List.length_range'];omega
 have Z:qs.Nodup:=by
  rw[l,List.nodup_append];refine⟨X,?_,λa ha b m e=>?_⟩
  ·refine List.Pairwise.map _ (λa b h e=>h Om) (List.nodup_range' (s:=0) (n:=(N E).length))
  ·obtain⟨i,_,rfl⟩:=List.mem_map.1 m;have:=q a ha;omega
 have u:=tF (qs:=qs) (ds:=r) Y Z;have hzl:qs.length=(wt E++N E).length:=by rw[YZ];omega
 have U:((qs.zip (wt E++N E)).flatMap λx=>lI qs r x.1)=r.flatten:=by rw[pB hzl,u]
 have H:=hF.step (d:=lI qs r) (v:=qs.zip (wt E++N E)) (tH u y) (by rw[U];exact hst) (λb m=>by
  obtain⟨i,D,m⟩:=List.mem_flatMap.1 m;have hil:=q i D;have hg:(ds++F).getD i []=c i:=by rw[hc,YU,YU,Y2 Om,Y2 Om]
  rw[hg] at m;obtain⟨z,hz,rfl⟩:=List.mem_map.1 m;refine⟨i,by omega,?_,z,hz,rfl⟩;obtain⟨j,hj,ej⟩:=aat (show i∈qs from l▸aap _ D);refine⟨(wt E++N E)[j]'Om,?_⟩;rw[←ej];exact List.mem_iff_getElem.2 ⟨j,by rw[List.length_zip];omega,by rw[List.getElem_zip]⟩)
 have A:qs.zip (wt E++N E)=O.zip (wt E)++((aab 0 (N E).length).map λi=>L.length+i).zip (N E):=by rw[l,List.zip_append Om]
 have J:aH (bN ds.flatten) w (k6 (O.zip (wt E)) 0 L++N E) w':=by
  refine⟨oy c (qs.zip (wt E++N E)) (lI qs r),?_⟩;rw[YZ,sn,←t];refine H.congr λp hp=>?_;rw[t] at hp;unfold lF;rw[A,EO];by_cases k:p<L.length
  ·rw[Y2 (by rw[sn];exact k),y9,Zp,EP (qs:=(aab 0 (N E).length).map λi=>L.length+i) (λW=>by obtain⟨i,_,e⟩:=List.mem_map.1 W;omega)];have e2:(L++(N E).map λ_=>aC.c [])[p]? =L[p]? :=Y2 k;simp only[e2,YX k];cases cx (O.zip (wt E)) p<;>rfl
  ·rw[Y9 (by rw[sn];omega),sn,EP (λW=>k (q p W))];have:=ER L.length (N E) 0 (p-L.length);rw[show L.length+0+(p-L.length)=p by omega] at this;rw[this,YX Om];rfl
 obtain⟨cs2,h2,g⟩:=J.conc;obtain⟨B,G,rfl,h3,h4⟩:=nH h2;refine⟨E,B.flatten::G,e1,⟨⟨_,B,K,h3,rfl⟩,h4⟩,?_⟩;have ef:(B.flatten::G).flatten=(B++G).flatten:=by rw[Zw,Zy]
 rw[ef];refine⟨g.os,g.tape,g.output,g.size,g.obj,λx hx=>?_,g.nd,λb m X=>g.far b m (by simpa using X)⟩;have:=g.lo x hx;simpa using this
theorem aa.pkZ{a:Func}(hf:P.funcs[f]? =some a)(h: ∀L,S L→∃(O:List Nat) (wt:ab→ah),aa P f args (L++rest) O (λE=>wt E++[]) v∧(dj O&&O.all λi=>decide (i<L.length))=true∧∀E,(wt E).length=O.length∧([]:ah).length=0∧S' (k6 (O.zip (wt E)) 0 L))(c:(a.name== "runtime.NumGoroutine")=false:=by kernel_rfl)(b:a.body.isSome=true:=by kernel_rfl):aa P f args (.p (nN S)::rest) [0] (λE=> .p (nN S')::[]) v:=aa.pkW (n:=0) (N:=λ_=>[]) (fN hf c b) h
theorem PW: ∀cs:List aA,(YW cs.length).flatMap (λi=>bN (cs.getD i []))=bN cs.flatten:=by
 intro cs;have h:(YW cs.length).map (λi=>cs.getD i [])=cs:=by
  apply aax (by simp);intro i b a;rw[List.getElem_map,List.getElem_range,YU,YX a];rfl
 have a:(YW cs.length).flatMap (λi=>bN (cs.getD i []))=(((YW cs.length).map λi=>cs.getD i []).map bN).flatten:=by rw[List.flatMap_def,List.map_map];rfl
 rw[a,h];unfold bN;rw[List.map_flatten]
theorem aa.unpk{a c:ah}{N:ab→ah}(h:aa P f args [pk λL=>L=a] [0] (λE=>(pk λL=>L=c)::N E) v):aa P f args a (YW a.length) (λE=>c++N E) v:=by
 refine⟨h.ent,λw g j r=>?_⟩;refine(callsIn_wide (n:=6)).1 ((callsIn_wide.2 (h.out w [g.flatten] ⟨⟨a,g,rfl,j,rfl⟩,trivial⟩ (by simpa using r))).mono λe s q=>?_);obtain⟨E,i,k,l,m⟩:=q;obtain⟨d,i,rfl,⟨L,b,rfl,o,rfl⟩,p⟩:=Yp l;refine⟨E,b++i,k,kj o p,?_⟩;rw[jv j,PW,Zy];simpa using m
theorem aa.outs{rd:ah}{O:List Nat}{b:ab→ah}(h:aa P f args rd O wt v)(p: ∀E ds,bo (wt E) ds→∃a,bo (b E) a∧a.flatten=ds.flatten):aa P f args rd O b v:=
 ⟨h.ent,λw c o m=>(callsIn_wide (n:=6)).1 ((callsIn_wide.2 (h.out w c o m)).mono λe q l=>by
  obtain⟨E,ds,d,g,i⟩:=l;obtain⟨a,j,k⟩:=p E ds g;exact⟨E,a,d,j,by rw[k];exact i⟩)⟩
theorem sr{S:ah→Prop}{L:ah}{ds:List aA}(b:S L)(h:bo L ds): ∃a,bo [pk S] a∧a.flatten=ds.flatten:=⟨[ds.flatten],⟨⟨L,ds,b,h,rfl⟩,trivial⟩,by simp⟩
theorem aa.inW{x y:aC}{T T':ah→Prop}(h:aa P f args [x] [0] (λ_=>[y]) v)(m: ∀L,T L→∃j:Nat,L[j]? =some x∧T' (L.set j y)):aa P f args [pk T] [0] (λ_=>[pk T']) v:=by
 refine aa.pkW (n:=0) (N:=λ_=>[]) h.ent λL l=>?_;obtain⟨j,g,b⟩:=m L l;have a:=(List.getElem?_eq_some_iff.1 g).1;refine⟨[j],λ_=>[y],⟨h.ent,λw k c d=>?_⟩,by simp [dj,a],λE=>⟨rfl,rfl,?_⟩⟩
 ·rw[Zs] at c;have o:=jv c;have:=h.out w [k.getD j []] ⟨mZ c g,trivial⟩ ⟨λy i=>d.obj y (by
   rw[Zw,aaA,Zs] at i;exact List.mem_flatten.2 ⟨_,nE Om,i⟩),by
   rw[Zw,aaA,Zs];exact(qU d.nd).1 j⟩
  simpa using this
 ·have e:k6 ([j].zip [y]) 0 L=L.set j y:=by
   apply ZM;intro p;rw[y9,Zp,Zo];by_cases e:j=p
   ·subst e;simp [cx,a]
   ·rw[ALifn e];cases L[p]?<;>simp [cx,e]
  show T' (k6 ([j].zip [y]) 0 L);rw[e];exact b
end
end
section
open Go Go.RowKit Go.Shelf
def su(x:Nat):List Value:=[iN x]
def bX:Kd YV Nat:=⟨su,[i6 0],74,3,0,1,λ_=>rfl,rfl,λ_=>rfl,dT.mk' Kr Kr rfl⟩
abbrev bt(v:Value)(xs:List Nat):aC:= .p (ar su ([i6 0]) 3 v xs)
def ES(x:Bool):List Value:=[.bool x]
def kz:Kd YV Bool:=⟨ES,[.bool false],135,4,false,1,λ_=>rfl,rfl,λ_=>rfl,dT.mk' Kr Kr rfl⟩
abbrev eV(v:Value)(xs:List Bool):aC:= .p (ar ES ([.bool false]) 4 v xs)
def jc(n:Nat)(bs:List Nat)(k:Nat):Nat:=(bs.take k).foldl (· / ·) n
def aG(n:Nat)(bs:List Nat)(k:Nat):List Nat:=(YW k).map λi=>jc n bs i%bs.getD i 0
theorem PX{n:Nat}{bs:List Nat}{k:Nat}(h:k<bs.length):jc n bs (k+1)=jc n bs k/bs.getD k 0:=by
 unfold jc;rw[ZL,YX h,YU,YX h,Z5];rfl
theorem PY(n:Nat)(bs:List Nat): ∀k,jc n bs k≤n:=by
 intro k;unfold jc;generalize bs.take k=l
 induction l generalizing n with
 | nil=>exact Zj _
 | cons b l ih=>exact Zg (ih (n/b)) (aaF _ _)
theorem PZ{n:Nat}{bs:List Nat}{k:Nat}:aG n bs (k+1)=aG n bs k++[jc n bs k%bs.getD k 0]:=by
 unfold aG;rw[Zt,ZU];rfl
theorem P0(n:Nat)(bs:List Nat)(k:Nat):(aG n bs k).length=k:=by unfold aG;rw[Y1,Zc]
def ez(d a:List Nat):Nat→Nat
 | 0=>0
 | k+1=>ez d a k*a.getD (a.length-1-k) 0+d.getD (a.length-1-k) 0
theorem ET{e:BinOp}{f:Nat→Nat→Nat}(a b:Nat)(g:a<9223372036854775808)(i:b<9223372036854775808)(k:f a b<9223372036854775808)(h:bits e .i64 (a:Int) (b:Int)=IntKind.i64.wrap ((f (BitVec.ofInt 64 (a:Int)).toNat (BitVec.ofInt 64 (b:Int)).toNat:Nat):Int)):bits e .i64 (a:Int) (b:Int)=((f a b:Nat):Int):=by
 have d: ∀c:Nat,c<9223372036854775808→(BitVec.ofInt 64 (c:Int)).toNat=c:=by
  intro c j;rw[BitVec.ofInt_natCast,BitVec.toNat_ofNat];exact ZS Om
 rw[h,d a g,d b i];exact IntWalk.i64_in _ Om
theorem P1(a b:Nat)(c:a<9223372036854775808)(d:b<9223372036854775808):bits .and .i64 (a:Int) (b:Int)=((a&&& b:Nat):Int):=
 ET (f:=λa b=>a&&& b) a b c d (ZD Nat.and_le_left c) (by show IntKind.i64.wrap ((BitVec.ofInt 64 (a:Int)&&& BitVec.ofInt 64 (b:Int)).toNat:Int)=_;rw[BitVec.toNat_and])
theorem P2(a b:Nat)(c:a<9223372036854775808)(d:b<9223372036854775808):bits .xor .i64 (a:Int) (b:Int)=((a^^^b:Nat):Int):=
 ET (f:=λa b=>a^^^b) a b c d (Zh (n:=63) Om Om) (by show IntKind.i64.wrap ((BitVec.ofInt 64 (a:Int)^^^BitVec.ofInt 64 (b:Int)).toNat:Int)=_;rw[BitVec.toNat_xor])
section
variable {P:Program} {T:TypeId} {x y:Operand} {w:World}
theorem EU(a b:Nat)(c:a<9223372036854775808)(d:b<9223372036854775808):(av .and T x y (.int .i64 (a:Int)) (.int .i64 (b:Int))).run P w= .ok (.int .i64 ((a&&& b:Nat):Int)) w:=by rw[←P1 a b c d];rfl
theorem EV(a b:Nat)(c:a<9223372036854775808)(d:b<9223372036854775808):(av .xor T x y (.int .i64 (a:Int)) (.int .i64 (b:Int))).run P w= .ok (.int .i64 ((a^^^b:Nat):Int)) w:=by rw[←P2 a b c d];rfl
end
theorem dJ{P:Program}{m:Sem Value}{w:World}{a b:Int}{k:IntKind}(h:m.run P w= .ok (.int k a) w)(e:a=b):m.run P w= .ok (.int k b) w:=e▸h
def bU(p0 p1 p2 p3:Nat):Nat:=p0*1048576+p1*65536+p2*64+p3
structure ig (R S B M C p0 p1 p2 p3:Nat):Prop where
 h0:p0<R+S
 h1:p1<B
 h2:p2<M
 h3:p3<C
section
variable {R S B M C p0 p1 p2 p3:Nat}
theorem ig.hold(h:ig R S B M C p0 p1 p2 p3):hold R S B M C p0 p1 p2 p3=true:=by
 have:=h.h0;have:=h.h1;have:=h.h2;have:=h.h3;exact vq.2 Om
theorem zr(a:ie R S B M C)(h:ig R S B M C p0 p1 p2 p3):bU p0 p1 p2 p3<8388608:=by
 have:=a.r8;have:=a.b16;have:=a.m10;have:=a.c64;have:=h.h0;have:=h.h1;have:=h.h2;have:=h.h3;unfold bU;omega
theorem vw:dQ (p0:Int) p1 p2 p3=(bU p0 p1 p2 p3:Int):=by unfold dQ bU;omega
theorem P3(a:ie R S B M C)(h:ig R S B M C p0 p1 p2 p3):bU p0 p1 p2 p3/1048576=p0∧bU p0 p1 p2 p3/65536%16=p1∧bU p0 p1 p2 p3/64%1024=p2∧bU p0 p1 p2 p3%64=p3:=by
 have:=a.r8;have:=a.b16;have:=a.m10;have:=a.c64;have:=h.h0;have:=h.h1;have:=h.h2;have:=h.h3;unfold bU;omega
theorem sx(a:cC R S B M C)(h:ig R S B M C p0 p1 p2 p3):aa YV 147 #[.agg #[iN R,iN S,iN B,iN M,iN C],.agg #[iN p0,iN p1,iN p2,iN p3]] [] [] N0 (λ_=> .tuple #[i6 (bU p0 p1 p2 p3:Int),i6 0]):=by
 have:=EM R S B M C a p0 p1 p2 p3;unfold se sf at this;rwa [h.hold,vw] at this
theorem sy(a:cC R S B M C)(h:ig R S B M C p0 p1 p2 p3):aa YV 68 #[.agg #[iN R,iN S,iN B,iN M,iN C],i6 (bU p0 p1 p2 p3:Int)] [] [] N0 (λ_=> .tuple #[.agg #[iN p0,iN p1,iN p2,iN p3],i6 0]):=by
 have:=EN R S B M C a (bU p0 p1 p2 p3:Nat);have e:=P3 a.bd h;have b:((bU p0 p1 p2 p3:Nat):Int)/1048576=(p0:Int):=by omega
 have c:((bU p0 p1 p2 p3:Nat):Int)/65536%16=(p1:Int):=by omega
 have d:((bU p0 p1 p2 p3:Nat):Int)/64%1024=(p2:Int):=by omega
 have f:((bU p0 p1 p2 p3:Nat):Int)%64=(p3:Int):=by omega
 unfold sh si sj sk sm at this;rw[b,c,d,f,h.hold,bj Om] at this;exact this
end
theorem qd{B r b:Nat}(h:B∈[1,2,4,8,16,32,64,128,256,512,1024])(d:b<B):b^^^(r&&& (B-1))<B:=by
 have c:r&&& (B-1)<B:=ZD Z8 Om;have a: ∀k,B=2^k→b^^^(r&&& (B-1))<B:=λk e=>by rw[e] at d c⊢;exact Zh d c
 simp only[List.mem_cons,ZP,or_false] at h;rcases h with h | h | h | h | h | h | h | h | h | h | h
 ·exact a 0 h
 ·exact a 1 h
 ·exact a 2 h
 ·exact a 3 h
 ·exact a 4 h
 ·exact a 5 h
 ·exact a 6 h
 ·exact a 7 h
 ·exact a 8 h
 ·exact a 9 h
 ·exact a 10 h
def gS(B r b:Nat):Nat:=b^^^(r&&& (B-1))
def mE(way R B M p:Nat):List Nat:=match way with
 | 0=>aG p [M,B,R] 3
 | 1=>aG p [B,M,R] 3
 | _=>aG p [R,B,M] 3
def aO(way R B M p:Nat):Nat:=match way with
 | 0=>(mE way R B M p).getD 2 0
 | 1=>(mE way R B M p).getD 2 0
 | _=>(mE way R B M p).getD 0 0
def fM(way R B M p:Nat):Nat:=match way with
 | 0=>(mE way R B M p).getD 0 0
 | 1=>(mE way R B M p).getD 1 0
 | _=>(mE way R B M p).getD 2 0
def fP(way R B M p:Nat):Nat:=match way with
 | 0=>(mE way R B M p).getD 1 0
 | 1=>(mE way R B M p).getD 0 0
 | 2=>(mE way R B M p).getD 1 0
 | _=>gS B (fM way R B M p) ((mE way R B M p).getD 1 0)
def mF(way R B M r b w:Nat):Nat:=match way with
 | 0=>ez [w,b,r] [M,B,R] 3
 | 1=>ez [b,w,r] [B,M,R] 3
 | 2=>ez [r,b,w] [R,B,M] 3
 | _=>ez [r,gS B w b,w] [R,B,M] 3
def gT(way R B M p:Nat):Nat:=bU (aO way R B M p) (fP way R B M p) (fM way R B M p) 0/64
theorem P4(x y z a b c:Nat):ez [x,y,z] [a,b,c] 3=((0*c+z)*b+y)*a+x:=rfl
theorem sA{x y z a b c:Nat}(g:x<a)(h:y<b)(f:z<c):ez [x,y,z] [a,b,c] 3<c*b*a:=by
 rw[P4,aaM,Zp];have d:z*b+y<c*b:=by
  have:(z+1)*b≤c*b:=Y6 b f;rw[aaf] at this;omega
 have e:(z*b+y+1)*a≤c*b*a:=Y6 a d;rw[aaf] at e;omega
section
variable {R S B M C way p:Nat}
theorem o3(e:cC R S B M C)(hp:p<R*B*M):ig R S B M C (aO way R B M p) (fP way R B M p) (fM way R B M p) 0:=by
 have b:=e.bd;have c:=b.r1;have a:=b.b1;have d:=b.m1;have g:=b.c1;have h:aO way R B M p<R:=by
  match way with
  | 0=>exact Y4 _ c
  | 1=>exact Y4 _ c
  | w+2=>exact Y4 p c
 have f:fM way R B M p<M:=by
  match way with
  | 0=>exact Y4 p d
  | 1=>exact Y4 _ d
  | w+2=>exact Y4 _ d
 refine⟨by omega,?_,f,by omega⟩
 match way with
 | 0=>exact Y4 _ a
 | 1=>exact Y4 _ a
 | 2=>exact Y4 _ a
 | w+3=>exact qd e.pow (Y4 (p/R) a)
theorem sC(b:cC R S B M C):aO way R B M p<R:=by
 have a:=b.bd.r1
 match way with
 | 0=>exact Y4 _ a
 | 1=>exact Y4 _ a
 | w+2=>exact Y4 p a
theorem P5(a:cC R S B M C)(hp:p<R*B*M):gT way R B M p<131072:=by
 have:=zr a.bd (o3 (way:=way) a hp);unfold gT;omega
theorem P6(d a:List Nat): ∀j k,j≤k→k≤3→a.length=3→(∀i,i<3→1≤a.getD i 0)→ez d a j≤ez d a k:=by
 intro j k b
 induction b with
 | refl=>intros;exact Zj _
 | @step k h ih=>
  intro f e c;refine Zg (ih Om e c) ?_;show ez d a k≤ez d a k*a.getD (a.length-1-k) 0+_;have:=ZQ (ez d a k) (c (a.length-1-k) Om);omega
theorem vx{x y z a b c:Nat}(d:x<a)(e:y<b)(f:z<c)(l:c*b*a≤1000000)(k:Nat)(g:k≤[a,b,c].length):ez [x,y,z] [a,b,c] k≤1000000:=by
 have h:=sA d e f;refine Zg (P6 _ _ k 3 g (Zj _) rfl λi j=>?_) Om
 match i with
 | 0=>exact ZD (Zz _) d
 | 1=>exact ZD (Zz _) e
 | 2=>exact ZD (Zz _) f
theorem zs:gT way R B M p=aO way R B M p*16384+fP way R B M p*1024+fM way R B M p:=by unfold gT bU;omega
end
end
section
open Go Go.RowKit Go.Shelf
theorem zt(r s b m c way:Int):aa YV 134 #[.agg #[i6 r,i6 s,i6 b,i6 m,i6 c],i6 way] [] [] N0 (λ_=> .bool (((ja r s b m c)&&(decide (0≤way)))&&(decide (way<4)))):=by
 exact fG Tryz.func134 λw d=>ra (λa=>[(2,pt (B0 a) 0),(4,.bool false)]) (λa=>[ob (B0 a) #[i6 r,i6 s,i6 b,i6 m,i6 c] 23]) λa=>r0 [(0,.l 0),(1,.c [] [] (EK r s b m c))] [(4,.bool (((ja r s b m c)&&(decide (0≤way)))&&(decide (way<4))))] [4] (aq (.bool (((ja r s b m c)&&(decide (0≤way)))&&(decide (way<4)))) ab.zero ba [] [] [])
theorem nk(R S B M C:Nat)(a:cC R S B M C)(way:Nat)(b:way<4):aa YV 134 #[.agg #[iN R,iN S,iN B,iN M,iN C],iN way] [] [] N0 (λ_=> .bool true):=by
 have h:=zt R S B M C way;rwa [a.ok,c0 Om,c0 Om] at h
theorem vy(v:Value)(n:Nat)(c:List Nat)(z:n≤1000000)(y:c.length≤1000)(o: ∀k,k<c.length→1≤c.getD k 0∧c.getD k 0≤1000000):aa YV 146 #[iN n,v] [.p (aP su v c)] [] (λE=>[bt (E.val 0) (aG n c c.length)]) (λE=>(E.val 0)):=by
 refine fO Tryz.func146 0 rfl λi f=>fG Tryz.func146 λw u=>r0 [] [(4,.slice none 0 0)] [] (r0 [] [(5,.slice none 0 0)] [] (r0 [(1,eD f.1 0)] [(8,v),(9,iN c.length),(10,i6 0)] [] (cz bX ?_)));refine mv (λk _=>k≤c.length) (λk e=>[(0,iN (jc n c k)),(10,iN k),(5,e)]) (λk e L=>L.set 1 (bt e (aG n c k))) (λk _=>c.length-k) 0 (.slice none 0 0) Om Kr Kr (λk e s=>?_);have x:=PY n c k;have r:=P0 n c k;refine r0 [] [(11,.bool (decide ((k:Int)<(c.length:Int))))] [] ?_;refine cc (k:Int) (c.length:Int) (λj h=>?_) λj h=>?_
 ·refine r0 [(0,fh f.1 0 k 1),(1,iU bX f.1 0 k 0)] [(7,iN (c.getD k 0))] [] ?_;have q:=o k Om;exact rr (λ_=>[(3,.t (tb (a:=iN (jc n c k)) (b:=iN (c.getD k 0)) λ_ _ _ _=>nM (a:=jc n c k) (d:=(c.getD k 0)) Om)),(4,.m (bs 2 1)),(5,e7 bX (e) (aG n c k) 1 2 ([(jc n c k)%(c.getD k 0)]))]) (λg=>[(5,(g 5).val 0)]) [5] (λg L=>L.set 1 (bt ((g 5).val 0) ((aG n c k)++([(jc n c k)%(c.getD k 0)])))++[ob (B4 g) #[iN ((jc n c k)%(c.getD k 0))] 3]) λg=>r0 [(2,.t (tb (a:=iN (jc n c k)) (b:=iN (c.getD k 0)) λ_ _ _ _=>oF (a:=jc n c k) (d:=(c.getD k 0)) Om Om))] [(0,iN ((jc n c k)/(c.getD k 0)))] [0] (r0 [(0,ad k 1)] [(10,iN (k+1))] [10] (kS (k+1) ((g 5).val 0) Om Om (by rw[PX Om];kernel_rfl) [0,1] (by rw[PZ];kernel_rfl)))
 obtain rfl:c.length=k:=by omega
 refine kT ?_;exact r0 [] [(4,e)] [4] (lf (.l [] [] [e]) [1] [(0,0)] [])
theorem vz(v u:Value)(d a:List Nat)(q:a.length≤1000)(o:d.length=a.length)(j: ∀k,k≤a.length→ez d a k≤1000000):aa YV 145 #[v,u] [.p (aP su v d),.p (aP su u a)] [] N0 (λ_=>iN (ez d a a.length)):=by
 refine fO Tryz.func145 0 rfl λg c=>fO Tryz.func145 1 rfl λh b=>fG Tryz.func145 λw n=>r0 [] [(4,i6 0)] [] (r0 [] [(5,i6 0)] [] (r0 [(1,eD b.1 1),(2,sI (a.length:Int) (1) Om)] [(6,i6 ((a.length:Int)-1))] [] ?_));refine lq (λk=>k≤a.length) (λk=>[(5,iN (ez d a k)),(6,i6 (((a.length:Nat):Int)-1-((k:Nat):Int)))]) (λ_ L=>L) (λk=>a.length-k) 0 Om (by rw[show((a.length:Nat):Int)-1-((0:Nat):Int)=(a.length:Int)-1 by omega];kernel_rfl) Kr (λk m=>?_);refine r0 [] [(11,.bool (decide (0≤(((a.length:Nat):Int)-1-((k:Nat):Int)))))] [] ?_;refine oI 0 (((a.length:Nat):Int)-1-((k:Nat):Int)) (λi e=>?_) λi e=>?_
 ·have l:=j (k+1) Om;have f:ez d a (k+1)=ez d a k*a.getD (a.length-1-k) 0+d.getD (a.length-1-k) 0:=rfl;exact r0 [(2,.t (tk (show i6 (((a.length:Nat):Int)-1-((k:Nat):Int))=iN (a.length-1-k) from ALca (Value.int .i64) Om))),(3,fh b.1 1 (a.length-1-k) 1),(4,iU bX b.1 1 (a.length-1-k) 0),(5,ml (ez d a k) (a.getD (a.length-1-k) 0)),(7,.t (tk (show i6 (((a.length:Nat):Int)-1-((k:Nat):Int))=iN (a.length-1-k) from ALca (Value.int .i64) Om))),(8,fh c.1 0 (a.length-1-k) 1),(9,iU bX c.1 0 (a.length-1-k) 0),(10,ad ((ez d a k)*(a.getD (a.length-1-k) 0)) (d.getD (a.length-1-k) 0))] [(5,iN (((ez d a k)*(a.getD (a.length-1-k) 0))+(d.getD (a.length-1-k) 0)))] [5] (r0 [(1,sI (((a.length:Nat):Int)-1-((k:Nat):Int)) (1) Om)] [(6,i6 ((((a.length:Nat):Int)-1-((k:Nat):Int))-1))] [6] (le (k+1) Om Om (by rw[show(((a.length:Nat):Int)-1-((k+1:Nat):Int))=((a.length:Nat):Int)-1-((k:Nat):Int)-1 by omega];kernel_rfl) [0,1] Kr))
 obtain rfl:k=a.length:=by omega
 exact lx (r0 [] [(4,iN (ez d a a.length))] [4] (lf ab.zero [] [(0,0),(1,1)] []))
end
section
open Go Go.RowKit Go.Shelf
theorem P7(R S B M C:Nat)(f:cC R S B M C)(p:Nat)(hp:p<R*B*M):aa YV 122 #[.agg #[iN R,iN S,iN B,iN M,iN C],i6 0,iN p] [] [] N0 (λ_=> .tuple #[iN (gT 0 R B M p),i6 0]):=by
 have e:=f.bd;have A:=e.rbm;have D:=e.r8;have n:=e.b16;have o:=e.b1;have v:=e.m10;have x:=e.m1;have y:=e.r1;have q:=e.c1;have r:(aG p [M,B,R] [M,B,R].length).length=3:=rfl;refine fG Tryz.func122 λw z=>ra (λi=>[(3,pt (B0 i) 0),(6,i6 0),(7,i6 0)]) (λi=>[ob (B0 i) #[iN R,iN S,iN B,iN M,iN C] 23]) λi=>r0 [(0,.m (ls 0 ([iN R,iN S,iN B,iN M,iN C]))),(2,.c [] [] (nk R S B M C f 0 Om)),(10,.m (ls 0 ([iN R,iN S,iN B,iN M,iN C]))),(11,.c [] [] (mD R S B M C f))] [(27,.bool ((decide ((p:Int)<0))||(decide ((((R*B)*M:Nat):Int)≤(p:Int)))))] [] ?_;have j:((decide ((p:Int)<0))||(decide ((((R*B)*M:Nat):Int)≤(p:Int))))=false:=(by rw[Zd];exact⟨bj Om,bj Om⟩);exact cF ((decide ((p:Int)<0))||(decide ((((R*B)*M:Nat):Int)≤(p:Int)))) j (ra (λg=>[(8,pt (B0 g) 0)]) (λg=>[ob (B0 g) #[i6 0,i6 0,i6 0,i6 0] 46]) λg=>r0 [] [(28,i6 0)] [] (rT [] 50 (rr (λd=>[(2,.l 0),(4,.l 0),(6,.l 0),(7,gO bX 2 3 [M,B,R]),(8,.c [2] [3] (aa.at (rd':=[bt (.slice (some ⟨(d 7).y 0,0,none⟩) 3 3) ([M,B,R])]) (vy (.slice (some ⟨(d 7).y 0,0,none⟩) 3 3) p ([M,B,R]) Om (by simp) (λk u=>by rcases k with _ | _ | _ | k<;>first | exact⟨by first | assumption,by simp;omega⟩ | (simp at u;omega))) (bP (λ_ h=>ar.sq h) (λ_ h=>h))))]) (λd=>[(9,((d 8).val 0))]) [] (λd L=>L++[bt (.slice (some ⟨(d 7).y 0,0,none⟩) 3 3) ([M,B,R]),bt ((d 8).val 0) (aG p ([M,B,R]) ([M,B,R]).length)]) λd=>rs [(1,cy bX ((d 8).val 0) (aG p ([M,B,R]) ([M,B,R]).length) 3 0),(2,eL bX ((d 8).val 0) (aG p ([M,B,R]) ([M,B,R]).length) 3 0 0),(4,cy bX ((d 8).val 0) (aG p ([M,B,R]) ([M,B,R]).length) 3 1),(5,eL bX ((d 8).val 0) (aG p ([M,B,R]) ([M,B,R]).length) 3 1 0),(7,cy bX ((d 8).val 0) (aG p ([M,B,R]) ([M,B,R]).length) 3 2),(8,eL bX ((d 8).val 0) (aG p ([M,B,R]) ([M,B,R]).length) 3 2 0),(10,.s 1),(12,.s 1),(14,.s 1)] 1 (ob (B0 g) #[iN ((aG p ([M,B,R]) ([M,B,R]).length).getD 2 0),iN ((aG p ([M,B,R]) ([M,B,R]).length).getD 1 0),iN ((aG p ([M,B,R]) ([M,B,R]).length).getD 0 0),i6 0] 46) (rF [] 97 (r0 [(0,.l 0),(1,.l 1),(2,.c [] [] (sx f (o3 (way:=0) f hp)))] [(12,iN (bU ((aG p ([M,B,R]) ([M,B,R]).length).getD 2 0) ((aG p ([M,B,R]) ([M,B,R]).length).getD 1 0) ((aG p ([M,B,R]) ([M,B,R]).length).getD 0 0) 0)),(13,i6 0)] [] (r0 [(1,.t (tb (a:=iN (bU ((aG p ([M,B,R]) ([M,B,R]).length).getD 2 0) ((aG p ([M,B,R]) ([M,B,R]).length).getD 1 0) ((aG p ([M,B,R]) ([M,B,R]).length).getD 0 0) 0)) (b:=u6 6) λ_ _ _ _=>iE 6 Dc))] [(6,i6 (((bU ((aG p ([M,B,R]) ([M,B,R]).length).getD 2 0) ((aG p ([M,B,R]) ([M,B,R]).length).getD 1 0) ((aG p ([M,B,R]) ([M,B,R]).length).getD 0 0) 0:Nat):Int)/64)),(7,i6 0)] [6,7] (aq (.tuple #[i6 (((bU ((aG p ([M,B,R]) ([M,B,R]).length).getD 2 0) ((aG p ([M,B,R]) ([M,B,R]).length).getD 1 0) ((aG p ([M,B,R]) ([M,B,R]).length).getD 0 0) 0:Nat):Int)/64),i6 0]) ab.zero ba [] [] [])))))))
theorem P8(R S B M C:Nat)(f:cC R S B M C)(p:Nat)(hp:p<R*B*M):aa YV 122 #[.agg #[iN R,iN S,iN B,iN M,iN C],i6 1,iN p] [] [] N0 (λ_=> .tuple #[iN (gT 1 R B M p),i6 0]):=by
 have e:=f.bd;have A:=e.rbm;have D:=e.r8;have n:=e.b16;have o:=e.b1;have v:=e.m10;have x:=e.m1;have y:=e.r1;have q:=e.c1;have r:(aG p [B,M,R] [B,M,R].length).length=3:=rfl;refine fG Tryz.func122 λw z=>ra (λi=>[(3,pt (B0 i) 0),(6,i6 0),(7,i6 0)]) (λi=>[ob (B0 i) #[iN R,iN S,iN B,iN M,iN C] 23]) λi=>r0 [(0,.m (ls 0 ([iN R,iN S,iN B,iN M,iN C]))),(2,.c [] [] (nk R S B M C f 1 Om)),(10,.m (ls 0 ([iN R,iN S,iN B,iN M,iN C]))),(11,.c [] [] (mD R S B M C f))] [(27,.bool ((decide ((p:Int)<0))||(decide ((((R*B)*M:Nat):Int)≤(p:Int)))))] [] ?_;have j:((decide ((p:Int)<0))||(decide ((((R*B)*M:Nat):Int)≤(p:Int))))=false:=(by rw[Zd];exact⟨bj Om,bj Om⟩);exact cF ((decide ((p:Int)<0))||(decide ((((R*B)*M:Nat):Int)≤(p:Int)))) j (ra (λg=>[(8,pt (B0 g) 0)]) (λg=>[ob (B0 g) #[i6 0,i6 0,i6 0,i6 0] 46]) λg=>r0 [] [(28,i6 1)] [] (rF [] 50 (rT [] 73 (rr (λd=>[(2,.l 0),(4,.l 0),(6,.l 0),(7,gO bX 2 3 [B,M,R]),(8,.c [2] [3] (aa.at (rd':=[bt (.slice (some ⟨(d 7).y 0,0,none⟩) 3 3) ([B,M,R])]) (vy (.slice (some ⟨(d 7).y 0,0,none⟩) 3 3) p ([B,M,R]) Om (by simp) (λk u=>by rcases k with _ | _ | _ | k<;>first | exact⟨by first | assumption,by simp;omega⟩ | (simp at u;omega))) (bP (λ_ h=>ar.sq h) (λ_ h=>h))))]) (λd=>[(10,((d 8).val 0))]) [] (λd L=>L++[bt (.slice (some ⟨(d 7).y 0,0,none⟩) 3 3) ([B,M,R]),bt ((d 8).val 0) (aG p ([B,M,R]) ([B,M,R]).length)]) λd=>rs [(1,cy bX ((d 8).val 0) (aG p ([B,M,R]) ([B,M,R]).length) 3 0),(2,eL bX ((d 8).val 0) (aG p ([B,M,R]) ([B,M,R]).length) 3 0 0),(4,cy bX ((d 8).val 0) (aG p ([B,M,R]) ([B,M,R]).length) 3 1),(5,eL bX ((d 8).val 0) (aG p ([B,M,R]) ([B,M,R]).length) 3 1 0),(7,cy bX ((d 8).val 0) (aG p ([B,M,R]) ([B,M,R]).length) 3 2),(8,eL bX ((d 8).val 0) (aG p ([B,M,R]) ([B,M,R]).length) 3 2 0),(10,.s 1),(12,.s 1),(14,.s 1)] 1 (ob (B0 g) #[iN ((aG p ([B,M,R]) ([B,M,R]).length).getD 2 0),iN ((aG p ([B,M,R]) ([B,M,R]).length).getD 0 0),iN ((aG p ([B,M,R]) ([B,M,R]).length).getD 1 0),i6 0] 46) (rF [] 97 (r0 [(0,.l 0),(1,.l 1),(2,.c [] [] (sx f (o3 (way:=1) f hp)))] [(12,iN (bU ((aG p ([B,M,R]) ([B,M,R]).length).getD 2 0) ((aG p ([B,M,R]) ([B,M,R]).length).getD 0 0) ((aG p ([B,M,R]) ([B,M,R]).length).getD 1 0) 0)),(13,i6 0)] [] (r0 [(1,.t (tb (a:=iN (bU ((aG p ([B,M,R]) ([B,M,R]).length).getD 2 0) ((aG p ([B,M,R]) ([B,M,R]).length).getD 0 0) ((aG p ([B,M,R]) ([B,M,R]).length).getD 1 0) 0)) (b:=u6 6) λ_ _ _ _=>iE 6 Dc))] [(6,i6 (((bU ((aG p ([B,M,R]) ([B,M,R]).length).getD 2 0) ((aG p ([B,M,R]) ([B,M,R]).length).getD 0 0) ((aG p ([B,M,R]) ([B,M,R]).length).getD 1 0) 0:Nat):Int)/64)),(7,i6 0)] [6,7] (aq (.tuple #[i6 (((bU ((aG p ([B,M,R]) ([B,M,R]).length).getD 2 0) ((aG p ([B,M,R]) ([B,M,R]).length).getD 0 0) ((aG p ([B,M,R]) ([B,M,R]).length).getD 1 0) 0:Nat):Int)/64),i6 0]) ab.zero ba [] [] []))))))))
theorem P9(R S B M C:Nat)(f:cC R S B M C)(p:Nat)(hp:p<R*B*M):aa YV 122 #[.agg #[iN R,iN S,iN B,iN M,iN C],i6 2,iN p] [] [] N0 (λ_=> .tuple #[iN (gT 2 R B M p),i6 0]):=by
 have e:=f.bd;have A:=e.rbm;have D:=e.r8;have n:=e.b16;have o:=e.b1;have v:=e.m10;have x:=e.m1;have y:=e.r1;have q:=e.c1;have r:(aG p [R,B,M] [R,B,M].length).length=3:=rfl;refine fG Tryz.func122 λw z=>ra (λi=>[(3,pt (B0 i) 0),(6,i6 0),(7,i6 0)]) (λi=>[ob (B0 i) #[iN R,iN S,iN B,iN M,iN C] 23]) λi=>r0 [(0,.m (ls 0 ([iN R,iN S,iN B,iN M,iN C]))),(2,.c [] [] (nk R S B M C f 2 Om)),(10,.m (ls 0 ([iN R,iN S,iN B,iN M,iN C]))),(11,.c [] [] (mD R S B M C f))] [(27,.bool ((decide ((p:Int)<0))||(decide ((((R*B)*M:Nat):Int)≤(p:Int)))))] [] ?_;have j:((decide ((p:Int)<0))||(decide ((((R*B)*M:Nat):Int)≤(p:Int))))=false:=(by rw[Zd];exact⟨bj Om,bj Om⟩);exact cF ((decide ((p:Int)<0))||(decide ((((R*B)*M:Nat):Int)≤(p:Int)))) j (ra (λg=>[(8,pt (B0 g) 0)]) (λg=>[ob (B0 g) #[i6 0,i6 0,i6 0,i6 0] 46]) λg=>r0 [] [(28,i6 2)] [] (rF [] 50 (rF [] 73 (rr (λd=>[(2,.l 0),(4,.l 0),(6,.l 0),(7,gO bX 2 3 [R,B,M]),(8,.c [2] [3] (aa.at (rd':=[bt (.slice (some ⟨(d 7).y 0,0,none⟩) 3 3) ([R,B,M])]) (vy (.slice (some ⟨(d 7).y 0,0,none⟩) 3 3) p ([R,B,M]) Om (by simp) (λk u=>by rcases k with _ | _ | _ | k<;>first | exact⟨by first | assumption,by simp;omega⟩ | (simp at u;omega))) (bP (λ_ h=>ar.sq h) (λ_ h=>h))))]) (λd=>[(11,((d 8).val 0))]) [] (λd L=>L++[bt (.slice (some ⟨(d 7).y 0,0,none⟩) 3 3) ([R,B,M]),bt ((d 8).val 0) (aG p ([R,B,M]) ([R,B,M]).length)]) λd=>rs [(1,cy bX ((d 8).val 0) (aG p ([R,B,M]) ([R,B,M]).length) 3 0),(2,eL bX ((d 8).val 0) (aG p ([R,B,M]) ([R,B,M]).length) 3 0 0),(4,cy bX ((d 8).val 0) (aG p ([R,B,M]) ([R,B,M]).length) 3 1),(5,eL bX ((d 8).val 0) (aG p ([R,B,M]) ([R,B,M]).length) 3 1 0),(7,cy bX ((d 8).val 0) (aG p ([R,B,M]) ([R,B,M]).length) 3 2),(8,eL bX ((d 8).val 0) (aG p ([R,B,M]) ([R,B,M]).length) 3 2 0),(10,.s 1),(12,.s 1),(14,.s 1)] 1 (ob (B0 g) #[iN ((aG p ([R,B,M]) ([R,B,M]).length).getD 0 0),iN ((aG p ([R,B,M]) ([R,B,M]).length).getD 1 0),iN ((aG p ([R,B,M]) ([R,B,M]).length).getD 2 0),i6 0] 46) (rF [] 97 (r0 [(0,.l 0),(1,.l 1),(2,.c [] [] (sx f (o3 (way:=2) f hp)))] [(12,iN (bU ((aG p ([R,B,M]) ([R,B,M]).length).getD 0 0) ((aG p ([R,B,M]) ([R,B,M]).length).getD 1 0) ((aG p ([R,B,M]) ([R,B,M]).length).getD 2 0) 0)),(13,i6 0)] [] (r0 [(1,.t (tb (a:=iN (bU ((aG p ([R,B,M]) ([R,B,M]).length).getD 0 0) ((aG p ([R,B,M]) ([R,B,M]).length).getD 1 0) ((aG p ([R,B,M]) ([R,B,M]).length).getD 2 0) 0)) (b:=u6 6) λ_ _ _ _=>iE 6 Dc))] [(6,i6 (((bU ((aG p ([R,B,M]) ([R,B,M]).length).getD 0 0) ((aG p ([R,B,M]) ([R,B,M]).length).getD 1 0) ((aG p ([R,B,M]) ([R,B,M]).length).getD 2 0) 0:Nat):Int)/64)),(7,i6 0)] [6,7] (aq (.tuple #[i6 (((bU ((aG p ([R,B,M]) ([R,B,M]).length).getD 0 0) ((aG p ([R,B,M]) ([R,B,M]).length).getD 1 0) ((aG p ([R,B,M]) ([R,B,M]).length).getD 2 0) 0:Nat):Int)/64),i6 0]) ab.zero ba [] [] []))))))))
theorem Qa(R S B M C:Nat)(g:cC R S B M C)(p:Nat)(hp:p<R*B*M):aa YV 122 #[.agg #[iN R,iN S,iN B,iN M,iN C],i6 3,iN p] [] [] N0 (λ_=> .tuple #[iN (gT 3 R B M p),i6 0]):=by
 have e:=g.bd;have A:=e.rbm;have D:=e.r8;have q:=e.b16;have j:=e.b1;have x:=e.m10;have n:=e.m1;have y:=e.r1;have r:=e.c1;have u:(aG p [R,B,M] [R,B,M].length).length=3:=rfl;refine fG Tryz.func122 λw z=>ra (λi=>[(3,pt (B0 i) 0),(6,i6 0),(7,i6 0)]) (λi=>[ob (B0 i) #[iN R,iN S,iN B,iN M,iN C] 23]) λi=>r0 [(0,.m (ls 0 ([iN R,iN S,iN B,iN M,iN C]))),(2,.c [] [] (nk R S B M C g 3 Om)),(10,.m (ls 0 ([iN R,iN S,iN B,iN M,iN C]))),(11,.c [] [] (mD R S B M C g))] [(27,.bool ((decide ((p:Int)<0))||(decide ((((R*B)*M:Nat):Int)≤(p:Int)))))] [] ?_;have o:((decide ((p:Int)<0))||(decide ((((R*B)*M:Nat):Int)≤(p:Int))))=false:=(by rw[Zd];exact⟨bj Om,bj Om⟩);refine cF ((decide ((p:Int)<0))||(decide ((((R*B)*M:Nat):Int)≤(p:Int)))) o (ra (λf=>[(8,pt (B0 f) 0)]) (λf=>[ob (B0 f) #[i6 0,i6 0,i6 0,i6 0] 46]) λf=>r0 [] [(28,i6 3)] [] (rF [] 50 (rF [] 73 (rr (λd=>[(2,.l 0),(4,.l 0),(6,.l 0),(7,gO bX 2 3 [R,B,M]),(8,.c [2] [3] (aa.at (rd':=[bt (.slice (some ⟨(d 7).y 0,0,none⟩) 3 3) ([R,B,M])]) (vy (.slice (some ⟨(d 7).y 0,0,none⟩) 3 3) p ([R,B,M]) Om (by simp) (λk v=>by rcases k with _ | _ | _ | k<;>first | exact⟨by first | assumption,by simp;omega⟩ | (simp at v;omega))) (bP (λ_ h=>ar.sq h) (λ_ h=>h))))]) (λd=>[(11,((d 8).val 0))]) [] (λd L=>L++[bt (.slice (some ⟨(d 7).y 0,0,none⟩) 3 3) ([R,B,M]),bt ((d 8).val 0) (aG p ([R,B,M]) ([R,B,M]).length)]) λd=>rs [(1,cy bX ((d 8).val 0) (aG p ([R,B,M]) ([R,B,M]).length) 3 0),(2,eL bX ((d 8).val 0) (aG p ([R,B,M]) ([R,B,M]).length) 3 0 0),(4,cy bX ((d 8).val 0) (aG p ([R,B,M]) ([R,B,M]).length) 3 1),(5,eL bX ((d 8).val 0) (aG p ([R,B,M]) ([R,B,M]).length) 3 1 0),(7,cy bX ((d 8).val 0) (aG p ([R,B,M]) ([R,B,M]).length) 3 2),(8,eL bX ((d 8).val 0) (aG p ([R,B,M]) ([R,B,M]).length) 3 2 0),(10,.s 1),(12,.s 1),(14,.s 1)] 1 (ob (B0 f) #[iN ((aG p ([R,B,M]) ([R,B,M]).length).getD 0 0),iN ((aG p ([R,B,M]) ([R,B,M]).length).getD 1 0),iN ((aG p ([R,B,M]) ([R,B,M]).length).getD 2 0),i6 0] 46) (rT [] 97 ?_)))));have i:(aG p [R,B,M] [R,B,M].length).getD 2 0<M:=Y4 _ n;have F:(aG p [R,B,M] [R,B,M].length).getD 1 0<B:=Y4 _ j;have G:(aG p [R,B,M] 3).getD 2 0&&& (B-1)≤B-1:=Z8;exact rs [(1,.l 1),(3,.l 1),(5,.l 0),(6,.t (tb (a:=iN B) (b:=i6 1) λ_ _ _ _=>lQ (a:=B) (b:=1) Om Om)),(7,.t (tv (av .and 3 (.tmp 101) (.tmp 104) (iN ((aG p ([R,B,M]) ([R,B,M]).length).getD 2 0)) (iN (B-1))) (λ_=>EU _ (B-1) Om Om))),(8,.t (tv (av .xor 3 (.tmp 99) (.tmp 105) (iN ((aG p ([R,B,M]) ([R,B,M]).length).getD 1 0)) (iN (((aG p [R,B,M] 3).getD 2 0)&&& (B-1)))) (λ_=>EV _ _ Om Om))),(10,.s 1)] 1 (ob (B0 f) #[iN ((aG p ([R,B,M]) ([R,B,M]).length).getD 0 0),iN (gS B ((aG p [R,B,M] 3).getD 2 0) ((aG p [R,B,M] 3).getD 1 0)),iN ((aG p ([R,B,M]) ([R,B,M]).length).getD 2 0),i6 0] 46) (r0 [(0,.l 0),(1,.l 1),(2,.c [] [] (sx g (o3 (way:=3) g hp)))] [(12,iN (bU ((aG p ([R,B,M]) ([R,B,M]).length).getD 0 0) (gS B ((aG p [R,B,M] 3).getD 2 0) ((aG p [R,B,M] 3).getD 1 0)) ((aG p ([R,B,M]) ([R,B,M]).length).getD 2 0) 0)),(13,i6 0)] [] (r0 [(1,.t (tb (a:=iN (bU ((aG p ([R,B,M]) ([R,B,M]).length).getD 0 0) (gS B ((aG p [R,B,M] 3).getD 2 0) ((aG p [R,B,M] 3).getD 1 0)) ((aG p ([R,B,M]) ([R,B,M]).length).getD 2 0) 0)) (b:=u6 6) λ_ _ _ _=>iE 6 Dc))] [(6,i6 (((bU ((aG p ([R,B,M]) ([R,B,M]).length).getD 0 0) (gS B ((aG p [R,B,M] 3).getD 2 0) ((aG p [R,B,M] 3).getD 1 0)) ((aG p ([R,B,M]) ([R,B,M]).length).getD 2 0) 0:Nat):Int)/64)),(7,i6 0)] [6,7] (aq (.tuple #[i6 (((bU ((aG p ([R,B,M]) ([R,B,M]).length).getD 0 0) (gS B ((aG p [R,B,M] 3).getD 2 0) ((aG p [R,B,M] 3).getD 1 0)) ((aG p ([R,B,M]) ([R,B,M]).length).getD 2 0) 0:Nat):Int)/64),i6 0]) ab.zero ba [] [] [])))
theorem EW(R S B M C:Nat)(a:cC R S B M C)(way:Nat)(b:way<4)(p:Nat)(hp:p<R*B*M):aa YV 122 #[.agg #[iN R,iN S,iN B,iN M,iN C],iN way,iN p] [] [] N0 (λ_=> .tuple #[iN (gT way R B M p),i6 0]):=by
 match way with
 | 0=>exact P7 R S B M C a p hp
 | 1=>exact P8 R S B M C a p hp
 | 2=>exact P9 R S B M C a p hp
 | 3=>exact Qa R S B M C a p hp
 | w+4=>exact absurd b Om
theorem Qb(R S B M C:Nat)(i:cC R S B M C)(a d e:Nat)(h0:a<R)(h1:d<B)(h2:e<M):aa YV 121 #[.agg #[iN R,iN S,iN B,iN M,iN C],i6 0,iN (a*16384+d*1024+e)] [] [] N0 (λ_=> .tuple #[iN (mF 0 R B M a d e),i6 0]):=by
 have g:=i.bd;have D:=g.r8;have q:=g.b16;have u:=g.m10;have r:=g.c1;have x:=g.rbm;have z:M*B*R=R*B*M:=by rw[Y5 (R*B),Y5 R,←Za]
 have A:R*M*B=R*B*M:=by rw[Za,Y5 M,←Za]
 have v:gS B e d<B:=qd i.pow h1;have n:ig R S B M C a d e 0:=⟨by omega,h1,h2,by omega⟩;refine fG Tryz.func121 λw y=>ra (λj=>[(3,pt (B0 j) 0),(6,i6 0),(7,i6 0)]) (λj=>[ob (B0 j) #[iN R,iN S,iN B,iN M,iN C] 23]) λj=>r0 [(0,.m (ls 0 ([iN R,iN S,iN B,iN M,iN C]))),(2,.c [] [] (nk R S B M C i 0 Om)),] [(21,.bool ((decide (((a*16384+d*1024+e:Nat):Int)<0))||(decide (131072≤((a*16384+d*1024+e:Nat):Int)))))] [] ?_;have o:((decide (((a*16384+d*1024+e:Nat):Int)<0))||(decide (131072≤((a*16384+d*1024+e:Nat):Int))))=false:=(by rw[Zd];exact⟨bj Om,bj Om⟩);refine cF ((decide (((a*16384+d*1024+e:Nat):Int)<0))||(decide (131072≤((a*16384+d*1024+e:Nat):Int)))) o (rr (λ_=>[(0,.l 0),(2,.t (tv (av .shl 3 (.tmp 24) (.const (u6 6)) (iN (a*16384+d*1024+e)) (u6 6)) (λ_=>dJ (b:=((bU a d e 0:Nat):Int)) (fH 6 Dc Om Om) (by unfold bU;omega)))),(3,.c [] [] (sy i n)),(8,.s 1)]) (λk=>[(8,pt (B7 k) 0),(9,i6 0)]) [] (λk L=>L++[ob (B7 k) #[iN a,iN d,iN e,i6 0] 46]) λk=>r0 [(4,.l 1),(6,.l 0)] [(37,.bool (decide ((R:Int)≤(a:Int))))] [] ?_);have p:(decide ((R:Int)≤(a:Int)))=false:=bj Om;exact cF (decide ((R:Int)≤(a:Int))) p (rF [] 39 (r0 [] [(50,i6 0)] [] (rT [] 51 (rr (λf=>[(1,.m (ld 1 (iN e))),(3,.m (ld 1 (iN d))),(5,.m (ld 1 (iN a))),(6,gO bX 2 3 [e,d,a]),(8,.m (ld 0 (iN M))),(10,.m (ld 0 (iN B))),(12,.m (ld 0 (iN R))),(13,gO bX 3 3 [M,B,R]),(14,.c [2,3] [] (aa.at (rd':=[bt (.slice (some ⟨(f 6).y 0,0,none⟩) 3 3) ([e,d,a]),bt (.slice (some ⟨(f 13).y 0,0,none⟩) 3 3) ([M,B,R])]) (vz (.slice (some ⟨(f 6).y 0,0,none⟩) 3 3) (.slice (some ⟨(f 13).y 0,0,none⟩) 3 3) ([e,d,a]) ([M,B,R]) (by simp) rfl (vx h2 h1 h0 Om)) (bP (λ_ h=>ar.sq h) (bP (λ_ h=>ar.sq h) (λ_ h=>h))))),]) (λ_=>[(6,iN (ez ([e,d,a]) ([M,B,R]) ([M,B,R]).length)),(7,i6 0)]) [6,7] (λf L=>L++[bt (.slice (some ⟨(f 6).y 0,0,none⟩) 3 3) ([e,d,a]),bt (.slice (some ⟨(f 13).y 0,0,none⟩) 3 3) ([M,B,R])]) λf=>aq (.tuple #[iN (ez ([e,d,a]) ([M,B,R]) ([M,B,R]).length),i6 0]) ab.zero ba [] [] []))))
theorem Qc(R S B M C:Nat)(i:cC R S B M C)(a d e:Nat)(h0:a<R)(h1:d<B)(h2:e<M):aa YV 121 #[.agg #[iN R,iN S,iN B,iN M,iN C],i6 1,iN (a*16384+d*1024+e)] [] [] N0 (λ_=> .tuple #[iN (mF 1 R B M a d e),i6 0]):=by
 have g:=i.bd;have D:=g.r8;have q:=g.b16;have u:=g.m10;have r:=g.c1;have x:=g.rbm;have z:M*B*R=R*B*M:=by rw[Y5 (R*B),Y5 R,←Za]
 have A:R*M*B=R*B*M:=by rw[Za,Y5 M,←Za]
 have v:gS B e d<B:=qd i.pow h1;have n:ig R S B M C a d e 0:=⟨by omega,h1,h2,by omega⟩;refine fG Tryz.func121 λw y=>ra (λj=>[(3,pt (B0 j) 0),(6,i6 0),(7,i6 0)]) (λj=>[ob (B0 j) #[iN R,iN S,iN B,iN M,iN C] 23]) λj=>r0 [(0,.m (ls 0 ([iN R,iN S,iN B,iN M,iN C]))),(2,.c [] [] (nk R S B M C i 1 Om)),] [(21,.bool ((decide (((a*16384+d*1024+e:Nat):Int)<0))||(decide (131072≤((a*16384+d*1024+e:Nat):Int)))))] [] ?_;have o:((decide (((a*16384+d*1024+e:Nat):Int)<0))||(decide (131072≤((a*16384+d*1024+e:Nat):Int))))=false:=(by rw[Zd];exact⟨bj Om,bj Om⟩);refine cF ((decide (((a*16384+d*1024+e:Nat):Int)<0))||(decide (131072≤((a*16384+d*1024+e:Nat):Int)))) o (rr (λ_=>[(0,.l 0),(2,.t (tv (av .shl 3 (.tmp 24) (.const (u6 6)) (iN (a*16384+d*1024+e)) (u6 6)) (λ_=>dJ (b:=((bU a d e 0:Nat):Int)) (fH 6 Dc Om Om) (by unfold bU;omega)))),(3,.c [] [] (sy i n)),(8,.s 1)]) (λk=>[(8,pt (B7 k) 0),(9,i6 0)]) [] (λk L=>L++[ob (B7 k) #[iN a,iN d,iN e,i6 0] 46]) λk=>r0 [(4,.l 1),(6,.l 0)] [(37,.bool (decide ((R:Int)≤(a:Int))))] [] ?_);have p:(decide ((R:Int)≤(a:Int)))=false:=bj Om;exact cF (decide ((R:Int)≤(a:Int))) p (rF [] 39 (r0 [] [(50,i6 1)] [] (rF [] 51 (rT [] 68 (rr (λf=>[(1,.m (ld 1 (iN d))),(3,.m (ld 1 (iN e))),(5,.m (ld 1 (iN a))),(6,gO bX 2 3 [d,e,a]),(8,.m (ld 0 (iN B))),(10,.m (ld 0 (iN M))),(12,.m (ld 0 (iN R))),(13,gO bX 3 3 [B,M,R]),(14,.c [2,3] [] (aa.at (rd':=[bt (.slice (some ⟨(f 6).y 0,0,none⟩) 3 3) ([d,e,a]),bt (.slice (some ⟨(f 13).y 0,0,none⟩) 3 3) ([B,M,R])]) (vz (.slice (some ⟨(f 6).y 0,0,none⟩) 3 3) (.slice (some ⟨(f 13).y 0,0,none⟩) 3 3) ([d,e,a]) ([B,M,R]) (by simp) rfl (vx h1 h2 h0 Om)) (bP (λ_ h=>ar.sq h) (bP (λ_ h=>ar.sq h) (λ_ h=>h))))),]) (λ_=>[(6,iN (ez ([d,e,a]) ([B,M,R]) ([B,M,R]).length)),(7,i6 0)]) [6,7] (λf L=>L++[bt (.slice (some ⟨(f 6).y 0,0,none⟩) 3 3) ([d,e,a]),bt (.slice (some ⟨(f 13).y 0,0,none⟩) 3 3) ([B,M,R])]) λf=>aq (.tuple #[iN (ez ([d,e,a]) ([B,M,R]) ([B,M,R]).length),i6 0]) ab.zero ba [] [] [])))))
theorem Qd(R S B M C:Nat)(i:cC R S B M C)(a d e:Nat)(h0:a<R)(h1:d<B)(h2:e<M):aa YV 121 #[.agg #[iN R,iN S,iN B,iN M,iN C],i6 2,iN (a*16384+d*1024+e)] [] [] N0 (λ_=> .tuple #[iN (mF 2 R B M a d e),i6 0]):=by
 have g:=i.bd;have D:=g.r8;have q:=g.b16;have u:=g.m10;have r:=g.c1;have x:=g.rbm;have z:M*B*R=R*B*M:=by rw[Y5 (R*B),Y5 R,←Za]
 have A:R*M*B=R*B*M:=by rw[Za,Y5 M,←Za]
 have v:gS B e d<B:=qd i.pow h1;have n:ig R S B M C a d e 0:=⟨by omega,h1,h2,by omega⟩;refine fG Tryz.func121 λw y=>ra (λj=>[(3,pt (B0 j) 0),(6,i6 0),(7,i6 0)]) (λj=>[ob (B0 j) #[iN R,iN S,iN B,iN M,iN C] 23]) λj=>r0 [(0,.m (ls 0 ([iN R,iN S,iN B,iN M,iN C]))),(2,.c [] [] (nk R S B M C i 2 Om)),] [(21,.bool ((decide (((a*16384+d*1024+e:Nat):Int)<0))||(decide (131072≤((a*16384+d*1024+e:Nat):Int)))))] [] ?_;have o:((decide (((a*16384+d*1024+e:Nat):Int)<0))||(decide (131072≤((a*16384+d*1024+e:Nat):Int))))=false:=(by rw[Zd];exact⟨bj Om,bj Om⟩);refine cF ((decide (((a*16384+d*1024+e:Nat):Int)<0))||(decide (131072≤((a*16384+d*1024+e:Nat):Int)))) o (rr (λ_=>[(0,.l 0),(2,.t (tv (av .shl 3 (.tmp 24) (.const (u6 6)) (iN (a*16384+d*1024+e)) (u6 6)) (λ_=>dJ (b:=((bU a d e 0:Nat):Int)) (fH 6 Dc Om Om) (by unfold bU;omega)))),(3,.c [] [] (sy i n)),(8,.s 1)]) (λk=>[(8,pt (B7 k) 0),(9,i6 0)]) [] (λk L=>L++[ob (B7 k) #[iN a,iN d,iN e,i6 0] 46]) λk=>r0 [(4,.l 1),(6,.l 0)] [(37,.bool (decide ((R:Int)≤(a:Int))))] [] ?_);have p:(decide ((R:Int)≤(a:Int)))=false:=bj Om;exact cF (decide ((R:Int)≤(a:Int))) p (rF [] 39 (r0 [] [(50,i6 2)] [] (rF [] 51 (rF [] 68 (rr (λf=>[(1,.m (ld 1 (iN a))),(3,.m (ld 1 (iN d))),(5,.m (ld 1 (iN e))),(6,gO bX 2 3 [a,d,e]),(8,.m (ld 0 (iN R))),(10,.m (ld 0 (iN B))),(12,.m (ld 0 (iN M))),(13,gO bX 3 3 [R,B,M]),(14,.c [2,3] [] (aa.at (rd':=[bt (.slice (some ⟨(f 6).y 0,0,none⟩) 3 3) ([a,d,e]),bt (.slice (some ⟨(f 13).y 0,0,none⟩) 3 3) ([R,B,M])]) (vz (.slice (some ⟨(f 6).y 0,0,none⟩) 3 3) (.slice (some ⟨(f 13).y 0,0,none⟩) 3 3) ([a,d,e]) ([R,B,M]) (by simp) rfl (vx h0 h1 h2 Om)) (bP (λ_ h=>ar.sq h) (bP (λ_ h=>ar.sq h) (λ_ h=>h))))),]) (λ_=>[(6,iN (ez ([a,d,e]) ([R,B,M]) ([R,B,M]).length)),(7,i6 0)]) [6,7] (λf L=>L++[bt (.slice (some ⟨(f 6).y 0,0,none⟩) 3 3) ([a,d,e]),bt (.slice (some ⟨(f 13).y 0,0,none⟩) 3 3) ([R,B,M])]) λf=>aq (.tuple #[iN (ez ([a,d,e]) ([R,B,M]) ([R,B,M]).length),i6 0]) ab.zero ba [] [] [])))))
theorem Qe(R S B M C:Nat)(k:cC R S B M C)(e f d:Nat)(h0:e<R)(h1:f<B)(h2:d<M):aa YV 121 #[.agg #[iN R,iN S,iN B,iN M,iN C],i6 3,iN (e*16384+f*1024+d)] [] [] N0 (λ_=> .tuple #[iN (mF 3 R B M e f d),i6 0]):=by
 have i:=k.bd;have F:=i.r8;have u:=i.b16;have x:=i.m10;have v:=i.c1;have y:=i.rbm;have A:M*B*R=R*B*M:=by rw[Y5 (R*B),Y5 R,←Za]
 have D:R*M*B=R*B*M:=by rw[Za,Y5 M,←Za]
 have p:gS B d f<B:=qd k.pow h1;have o:ig R S B M C e f d 0:=⟨by omega,h1,h2,by omega⟩;refine fG Tryz.func121 λw z=>ra (λn=>[(3,pt (B0 n) 0),(6,i6 0),(7,i6 0)]) (λn=>[ob (B0 n) #[iN R,iN S,iN B,iN M,iN C] 23]) λn=>r0 [(0,.m (ls 0 ([iN R,iN S,iN B,iN M,iN C]))),(2,.c [] [] (nk R S B M C k 3 Om)),] [(21,.bool ((decide (((e*16384+f*1024+d:Nat):Int)<0))||(decide (131072≤((e*16384+f*1024+d:Nat):Int)))))] [] ?_;have q:((decide (((e*16384+f*1024+d:Nat):Int)<0))||(decide (131072≤((e*16384+f*1024+d:Nat):Int))))=false:=(by rw[Zd];exact⟨bj Om,bj Om⟩);refine cF ((decide (((e*16384+f*1024+d:Nat):Int)<0))||(decide (131072≤((e*16384+f*1024+d:Nat):Int)))) q (rr (λ_=>[(0,.l 0),(2,.t (tv (av .shl 3 (.tmp 24) (.const (u6 6)) (iN (e*16384+f*1024+d)) (u6 6)) (λ_=>dJ (b:=((bU e f d 0:Nat):Int)) (fH 6 Dc Om Om) (by unfold bU;omega)))),(3,.c [] [] (sy k o)),(8,.s 1)]) (λj=>[(8,pt (B7 j) 0),(9,i6 0)]) [] (λj L=>L++[ob (B7 j) #[iN e,iN f,iN d,i6 0] 46]) λj=>r0 [(4,.l 1),(6,.l 0)] [(37,.bool (decide ((R:Int)≤(e:Int))))] [] ?_);have r:(decide ((R:Int)≤(e:Int)))=false:=bj Om;refine cF (decide ((R:Int)≤(e:Int))) r (rT [] 39 ?_);have G:d&&& (B-1)≤B-1:=Z8;exact rs [(1,.l 1),(3,.l 1),(5,.l 0),(6,.t (tb (a:=iN B) (b:=i6 1) λ_ _ _ _=>lQ (a:=B) (b:=1) Om Om)),(7,.t (tv (av .and 3 (.tmp 43) (.tmp 46) (iN d) (iN (B-1))) (λ_=>EU _ (B-1) Om Om))),(8,.t (tv (av .xor 3 (.tmp 41) (.tmp 47) (iN f) (iN (d&&& (B-1)))) (λ_=>EV _ _ Om Om))),(10,.s 1)] 1 (ob (B7 j) #[iN e,iN (gS B d f),iN d,i6 0] 46) (r0 [] [(50,i6 3)] [] (rF [] 51 (rF [] 68 (rr (λg=>[(1,.m (ld 1 (iN e))),(3,.m (ld 1 (iN (gS B d f)))),(5,.m (ld 1 (iN d))),(6,gO bX 2 3 [e,gS B d f,d]),(8,.m (ld 0 (iN R))),(10,.m (ld 0 (iN B))),(12,.m (ld 0 (iN M))),(13,gO bX 3 3 [R,B,M]),(14,.c [2,3] [] (aa.at (rd':=[bt (.slice (some ⟨(g 6).y 0,0,none⟩) 3 3) ([e,gS B d f,d]),bt (.slice (some ⟨(g 13).y 0,0,none⟩) 3 3) ([R,B,M])]) (vz (.slice (some ⟨(g 6).y 0,0,none⟩) 3 3) (.slice (some ⟨(g 13).y 0,0,none⟩) 3 3) ([e,gS B d f,d]) ([R,B,M]) (by simp) rfl (vx h0 p h2 Om)) (bP (λ_ h=>ar.sq h) (bP (λ_ h=>ar.sq h) (λ_ h=>h))))),]) (λ_=>[(6,iN (ez ([e,gS B d f,d]) ([R,B,M]) ([R,B,M]).length)),(7,i6 0)]) [6,7] (λg L=>L++[bt (.slice (some ⟨(g 6).y 0,0,none⟩) 3 3) ([e,gS B d f,d]),bt (.slice (some ⟨(g 13).y 0,0,none⟩) 3 3) ([R,B,M])]) λg=>aq (.tuple #[iN (ez ([e,gS B d f,d]) ([R,B,M]) ([R,B,M]).length),i6 0]) ab.zero ba [] [] []))))
theorem Qf(R S B M C:Nat)(d:cC R S B M C)(way:Nat)(e:way<4)(a b c:Nat)(h0:a<R)(h1:b<B)(h2:c<M):aa YV 121 #[.agg #[iN R,iN S,iN B,iN M,iN C],iN way,iN (a*16384+b*1024+c)] [] [] N0 (λ_=> .tuple #[iN (mF way R B M a b c),i6 0]):=by
 match way with
 | 0=>exact Qb R S B M C d a b c h0 h1 h2
 | 1=>exact Qc R S B M C d a b c h0 h1 h2
 | 2=>exact Qd R S B M C d a b c h0 h1 h2
 | 3=>exact Qe R S B M C d a b c h0 h1 h2
 | w+4=>exact absurd e Om
end
section
open Go Go.RowKit Go.Shelf
theorem Qg{i n:Int}(h:bQ i n=false)(h0:0≤i):n≤i:=by
 unfold bQ at h;simp only[aam,decide_eq_false_iff_not] at h;omega
structure ij (R S B M C way res:Nat):Prop where
 O:cC R S B M C
 G:way<4
 r64:res≤64
 rp:res<R*B*M
structure Mp where
 R:Nat
 S:Nat
 B:Nat
 M:Nat
 C:Nat
 G:Nat
 res:Nat
 N:List Nat
 P:List Bool
 K:List Int
 Q:Nat
 F:Nat
abbrev Mp.seen(m:Mp):Nat:=m.R*m.B*m.M-m.res
structure bp (m:Mp):Prop where
 ly:ij m.R m.S m.B m.M m.C m.G m.res
 ll:m.N.length=m.R*m.B*m.M-m.res
 ld:m.P.length=m.R*m.B*m.M
 ls:m.K.length=m.R
 pg:m.Q≤m.res
 rk:m.F≤m.S
 lv: ∀i,i<m.R*m.B*m.M-m.res→m.N.getD i 0<m.R*m.B*m.M
 sp: ∀i,i<m.R→m.K.getD i 0= -1∨((m.R:Int)≤m.K.getD i 0∧m.K.getD i 0<((m.R+m.S:Nat):Int))
abbrev aJ(g:Nat)(m:Mp)(L:ah):Prop:=∃a b c:Value,L=[ob g #[iN m.R,iN m.S,iN m.B,iN m.M,iN m.C,iN m.G,iN m.res,a,b,c,iN m.Q,iN m.F] 137,bt a m.N,eV b m.P,dk c m.K]
def fm(m:Mp)(r:Nat):Bool:= !(m.K.getD r 0== -1)
def kA(m:Mp)(r:Nat):Int:=bif fm m r then m.K.getD r 0 else 0
def lT(m:Mp)(p:Nat):Nat:=bif fm m (aO m.G m.R m.B m.M p) then(m.K.getD (aO m.G m.R m.B m.M p) 0).toNat else aO m.G m.R m.B m.M p
def bB(m:Mp)(p:Nat):Nat:=lT m p*16384+fP m.G m.R m.B m.M p*1024+fM m.G m.R m.B m.M p
section
variable {m:Mp}
theorem bp.O(h:bp m):cC m.R m.S m.B m.M m.C:=h.ly.O
theorem bp.np(h:bp m):m.R*m.B*m.M≤4096:=h.O.bd.rbm
theorem bp.lines(h:bp m):(m.R*m.B*m.M-m.res)*m.C≤4096:=Zg (Y6 _ (Nat.sub_le _ _)) h.O.bd.rbmc
theorem Qh(h:bp m)(p:Nat):lT m p<m.R+m.S:=by
 have b:=sC (p:=p) (way:=m.G) h.O;unfold lT;cases a:fm m (aO m.G m.R m.B m.M p) with
 | false=>rw[ALcf];omega
 | true=>
  rw[ALct];unfold fm at a;have a:m.K.getD (aO m.G m.R m.B m.M p) 0≠ -1:=by simpa using a
  have:=(h.sp _ b).resolve_left a;omega
theorem vA(h:bp m){p:Nat}(hp:p<m.R*m.B*m.M):ig m.R m.S m.B m.M m.C (lT m p) (fP m.G m.R m.B m.M p) (fM m.G m.R m.B m.M p) 0:=by
 have a:=o3 (way:=m.G) h.O hp;exact⟨Qh h p,a.h1,a.h2,a.h3⟩
theorem Qi(h:bp m){p:Nat}(b:fm m (aO m.G m.R m.B m.M p)=true):(gT m.G m.R m.B m.M p:Int)+(kA m (aO m.G m.R m.B m.M p)-(aO m.G m.R m.B m.M p:Int))*2^14=(bB m p:Int):=by
 have c:=sC (p:=p) (way:=m.G) h.O;have a:=b;unfold fm at a;have a:m.K.getD (aO m.G m.R m.B m.M p) 0≠ -1:=by simpa using a
 have d:=(h.sp _ c).resolve_left a;unfold bB lT kA;rw[b,ALct,ALct,zs];have e:((m.K.getD (aO m.G m.R m.B m.M p) 0).toNat:Int)=m.K.getD (aO m.G m.R m.B m.M p) 0:=Zq Om;omega
theorem Qj{p:Nat}(a:fm m (aO m.G m.R m.B m.M p)=false):gT m.G m.R m.B m.M p=bB m p:=by
 unfold bB lT;rw[a,ALcf,zs]
theorem Qk(h:bp m){r:Nat}(b:r<m.R):0≤kA m r∧kA m r<((m.R+m.S:Nat):Int):=by
 unfold kA;cases a:fm m r with
 | false=>rw[ALcf];omega
 | true=>
  unfold fm at a;have a:m.K.getD r 0≠ -1:=by simpa using a
  have:=(h.sp _ b).resolve_left a;rw[ALct];omega
theorem EX(h:bp m){p:Nat}(hp:p<m.R*m.B*m.M):gT m.G m.R m.B m.M p/16384=aO m.G m.R m.B m.M p:=by
 have a:=o3 (way:=m.G) h.O hp;have b:=h.O.bd.b16;have c:=h.O.bd.m10;have:=a.h1;have:=a.h2;rw[zs];omega
theorem vB(h:bp m){p:Nat}(hp:p<m.R*m.B*m.M):bB m p<131072:=by
 have a:=vA h hp;have b:=h.O.bd.r8;have c:=h.O.bd.b16;have d:=h.O.bd.m10;have:=a.h0;have:=a.h1;have:=a.h2;unfold bB;omega
theorem EY(h:bp m){n:Nat}(a:n<(m.R*m.B*m.M-m.res)*m.C):n/m.C<m.R*m.B*m.M-m.res:=ZI (by rw[Y5 m.C];exact a)
def az(m:Mp)(n:Nat):Nat:=m.N.getD (n/m.C) 0
def eX(m:Mp)(n:Nat):Nat:=bB m (az m n)*64+n%m.C
theorem vC(h:bp m){n:Nat}(a:n<(m.R*m.B*m.M-m.res)*m.C):az m n<m.R*m.B*m.M:=h.lv _ (EY h a)
end
def dC(m:Mp):Bool:= !decide (m.Q=m.res)
def eu(m:Mp):Bool:= !decide (m.F=m.S)
def dY(m:Mp):Nat:=if m.Q=m.res then 0 else m.seen+m.Q
def fR(m:Mp):Nat:=if m.F=m.S then 0 else m.R+m.F
def dR(l:List Nat)(h t k:Nat):List Nat:=((l.take k).map λx=>if x=h then t else x)++l.drop k
theorem EZ(l:List Nat)(h t k:Nat):(dR l h t k).length=l.length:=by unfold dR;rw[YZ,Y1,Y0,Zb];omega
theorem Ql{l:List Nat}{h t k:Nat}(a:k<l.length):(dR l h t k).getD k 0=l.getD k 0:=by
 unfold dR;rw[YU,Y9 (by rw[Y1,Y0];omega),Y1,Y0,Zr,YU]
 congr 2;omega
theorem Qm(l:List Nat)(h t:Nat):dR l h t 0=l:=by unfold dR;simp
theorem E0{l:List Nat}{h t k:Nat}(a:k<l.length):dR l h t (k+1)=((l.take k).map λx=>if x=h then t else x)++(if l.getD k 0=h then t else l.getD k 0)::l.drop (k+1):=by
 unfold dR;rw[ZL,YX a,ZU,ZN,YU,YX a];rfl
theorem Qn{l:List Nat}{h t k:Nat}(a:k<l.length)(e:l.getD k 0=h):(dR l h t k).set k t=dR l h t (k+1):=by
 rw[E0 a,ALifp e];unfold dR;rw[aah a,List.set_append_right _ _ (by rw[Y1,Y0];omega),Y1,Y0,show k-min k l.length=0 by omega];rfl
theorem Qo{l:List Nat}{h t k:Nat}(a:k<l.length)(e:l.getD k 0≠h):dR l h t k=dR l h t (k+1):=by
 rw[E0 a,ALifn e];unfold dR;rw[aah a,YU,YX a];rfl
theorem Qp{l:List Nat}{h t k:Nat}(a:k<l.length):(bif (((dR l h t k).getD k 0:Nat):Int)==(h:Int) then(dR l h t k).set k t else dR l h t k)=dR l h t (k+1):=by
 rw[Ql a];by_cases e:l.getD k 0=h
 ·rw[show(((l.getD k 0:Nat):Int)==(h:Int))=true by rw[e];exact beq_self_eq_true _,ALct,Qn a e]
 ·rw[show(((l.getD k 0:Nat):Int)==(h:Int))=false by rw[dz];omega,ALcf,Qo a e]
def qe(m:Mp):Mp:={m with Q:=m.Q+1}
def qf(m:Mp):Mp:={m with F:=m.F+1}
def sD(m:Mp)(h t:Nat):Mp:={m with P:=m.P.set h true,N:=dR m.N h t m.N.length}
def sF(m:Mp)(r s:Nat):Mp:={m with K:=m.K.set r (s:Int)}
def lU(R S B M C way a:Nat):Mp:=⟨R,S,B,M,C,way,a,YW (R*B*M-a),YY (R*B*M) false,YY R (-1),0,0⟩
end
section
open Go Go.RowKit Go.Shelf
theorem vD(i n:Int):aa YV 58 #[i6 i,i6 n] [] [] N0 (λ_=> .bool (bQ i n)):=by
 exact fG Tryz.func58 λw a=>r0 [] [(4,.bool false)] [] (r0 [] [(4,.bool ((decide (0≤i))&&(decide (i<n))))] [4] (aq (.bool ((decide (0≤i))&&(decide (i<n)))) ab.zero ba [] [] []))
theorem E1(R S B M C way a:Nat)(b:ij R S B M C way a):aa YV 106 #[.agg #[iN R,iN S,iN B,iN M,iN C,iN way,iN a]] [] [] N0 (λ_=> .bool true):=by
 have e:=b.O;have i:=b.rp;have h:=e.bd.rbm;have g:=b.G;have f:=b.r64;exact fG Tryz.func106 λw j=>ra (λd=>[(1,pt (B0 d) 0),(2,.bool false)]) (λd=>[ob (B0 d) #[iN R,iN S,iN B,iN M,iN C,iN way,iN a] 25]) λd=>r0 [(1,.m (ls 0 ([iN R,iN S,iN B,iN M,iN C]))),(3,.m (ld 0 (iN way))),(4,.c [] [] (nk R S B M C e way Om)),(7,.m (ld 0 (iN a))),(12,.m (ld 0 (iN a))),(17,.m (ld 0 (iN a))),(19,.m (ls 0 ([iN R,iN S,iN B,iN M,iN C]))),(20,.c [] [] (mD R S B M C e)),] [(2,.bool (((decide (0≤(a:Int)))&&(decide ((a:Int)≤64)))&&(decide ((a:Int)<(((R*B)*M:Nat):Int)))))] [2] (aq (.bool (((decide (0≤(a:Int)))&&(decide ((a:Int)≤64)))&&(decide ((a:Int)<(((R*B)*M:Nat):Int))))) ab.zero (by exact ALca Value.bool (by simp only[Y3,decide_eq_true_eq,true_and];omega)) [] [] [])
theorem qg(R S B M C way d:Nat)(e:ij R S B M C way d):aa YV 76 #[.agg #[iN R,iN S,iN B,iN M,iN C,iN way,iN d]] [] [] N0 (λ_=>iN (((R*B)*M)-d)):=by
 have g:=e.O;have k:=e.rp;have j:=g.bd.rbm;have i:=e.G;have h:=e.r64;exact fG Tryz.func76 λw m=>ra (λf=>[(1,pt (B0 f) 0),(2,i6 0)]) (λf=>[ob (B0 f) #[iN R,iN S,iN B,iN M,iN C,iN way,iN d] 25]) λf=>rF [(0,.l 0),(1,.c [] [] (E1 R S B M C way d e))] 5 (r0 [(1,.l 0),(2,.c [] [] (mD R S B M C g)),(4,.l 0),(5,.t (tb (a:=iN ((R*B)*M)) (b:=iN d) λ_ _ _ _=>lQ (a:=(R*B)*M) (b:=d) Om Om))] [(2,iN (((R*B)*M)-d))] [2] (lf ab.zero [] [] []))
theorem zu(R S B M C way a:Nat)(b:ij R S B M C way a):aa YV 39 #[.agg #[iN R,iN S,iN B,iN M,iN C,iN way,iN a]] [] [] N0 (λ_=>iN ((((R*B)*M)-a)*C)):=by
 have e:=b.O;have i:=b.rp;have h:=e.bd.rbm;have g:=b.G;have f:=b.r64;have k:=Zg (Y6 C (Nat.sub_le (R*B*M) a)) e.bd.rbmc;exact fG Tryz.func39 λw j=>ra (λd=>[(1,pt (B0 d) 0),(2,i6 0)]) (λd=>[ob (B0 d) #[iN R,iN S,iN B,iN M,iN C,iN way,iN a] 25]) λd=>r0 [(0,.l 0),(1,.c [] [] (qg R S B M C way a b)),(4,.l 0),(5,ml (((R*B)*M)-a) C)] [(2,iN ((((R*B)*M)-a)*C))] [2] (lf ab.zero [] [] [])
theorem jd(g:Nat)(m:Mp)(a:bp m):aa YV 63 #[pt g 0] [pk (aJ g m)] [0] (λ_=>[pk (aJ g m)]) (λ_=> .agg #[iN m.R,iN m.S,iN m.B,iN m.M,iN m.C,iN m.G,iN m.res]):=aa.pkZ Tryz.func63 λL e=>by
 obtain⟨q,r,t,rfl⟩:=e;refine⟨[1,2,3],λ_=>[bt q m.N,eV r m.P,dk t m.K],?_,rfl,λE=>⟨rfl,rfl,⟨_,_,_,rfl⟩⟩⟩;have d:=a.O;have c:=a.ly;have j:=a.np;have h:=a.ll;have f:=a.ld;have i:=a.ls;have k:=a.pg;have o:=a.rk;have p:=c.rp;have n:=d.bd.r8;exact fG Tryz.func63 λw u=>ra (λb=>[(2,pt (B0 b) 0)]) (λb=>[ob (B0 b) #[i6 0,i6 0,i6 0,i6 0,i6 0,i6 0,i6 0] 25]) λb=>rs [(3,.l 0),(4,.s 4)] 4 (ob (B0 b) #[iN m.R,iN m.S,iN m.B,iN m.M,iN m.C,iN m.G,iN m.res] 25) (lf ab.zero [1,2,3] [(0,0)] [4])
theorem o4(i n:Nat)(h:i<n):aa YV 58 #[iN i,iN n] [] [] N0 (λ_=> .bool true):=by
 have a:=vD i n;rwa [lS.2 ⟨by omega,by omega⟩] at a
theorem zw(g:Nat)(m:Mp)(a:bp m)(p:Nat)(hp:p<m.R*m.B*m.M):aa YV 25 #[pt g 0,iN p] [pk (aJ g m)] [0] (λ_=>[pk (aJ g m)]) (λ_=> .bool (m.P.getD p false)):=aa.pkZ Tryz.func25 λL f=>by
 obtain⟨r,b,s,rfl⟩:=f;refine⟨[1,2,3],λ_=>[bt r m.N,eV b m.P,dk s m.K],?_,rfl,λE=>⟨rfl,rfl,⟨_,_,_,rfl⟩⟩⟩;have e:=a.O;have d:=a.ly;have k:=a.np;have i:=a.ll;have h:=a.ld;have j:=a.ls;have l:=a.pg;have o:=a.rk;have q:=d.rp;have n:=e.bd.r8;exact fG Tryz.func25 λw t=>r0 [] [(4,.bool false)] [] (r0 [(4,.m (ld 0 (b))),(5,eS kz b m.P 2),(6,.c [] [] (o4 p m.P.length Om)),(11,.m (ld 0 (b))),(13,cy kz b m.P 2 p),(14,eL kz b m.P 2 p 0)] [(4,.bool (m.P.getD p false))] [4] (lf ab.zero [1,2,3] [(0,0)] []))
theorem Qq(g:Nat)(m:Mp)(a:bp m)(p:Nat)(hp:p<m.R*m.B*m.M):aa YV 86 #[pt g 0,iN p] [pk (aJ g m)] [0] (λ_=>[pk (aJ g m)]) (λ_=> .bool (decide (p<m.R*m.B*m.M-m.res+m.Q)&& !m.P.getD p false)):=aa.pkZ Tryz.func86 λL i=>by
 obtain⟨t,f,u,rfl⟩:=i;refine⟨[1,2,3],λ_=>[bt t m.N,eV f m.P,dk u m.K],?_,rfl,λE=>⟨rfl,rfl,⟨_,_,_,rfl⟩⟩⟩;have h:=a.O;have b:=a.ly;have n:=a.np;have k:=a.ll;have j:=a.ld;have l:=a.ls;have o:=a.pg;have r:=a.rk;have s:=b.rp;have q:=h.bd.r8;refine fG Tryz.func86 λw v=>r0 [] [(4,.bool false)] [] ?_;cases e:(bQ (p:Int) (((((m.R*m.B)*m.M)-m.res)+m.Q:Nat):Int))
 case true=>
  exact r0 [(4,.m (ls 0 ([iN m.R,iN m.S,iN m.B,iN m.M,iN m.C,iN m.G,iN m.res]))),(5,.c [] [] (qg m.R m.S m.B m.M m.C m.G m.res b)),(9,.m (ld 0 (iN m.Q))),(10,ad (((m.R*m.B)*m.M)-m.res) m.Q),(11,.c [] [] (aa.v ((vD (p:Int) (((((m.R*m.B)*m.M)-m.res)+m.Q:Nat):Int))) λ_=>ALca Value.bool (show(bQ (p:Int) (((((m.R*m.B)*m.M)-m.res)+m.Q:Nat):Int))=true from e))),(16,.m (ld 0 (f))),(18,cy kz f m.P 2 p),(19,eL kz f m.P 2 p 0),] [(4,.bool (!(m.P.getD p false)))] [4] (aq (.bool (!(m.P.getD p false))) ab.zero (by(rw[c0 (by have:=lS.1 e;omega)];rfl)) [1,2,3] [(0,0)] [])
 exact r0 [(4,.m (ls 0 ([iN m.R,iN m.S,iN m.B,iN m.M,iN m.C,iN m.G,iN m.res]))),(5,.c [] [] (qg m.R m.S m.B m.M m.C m.G m.res b)),(9,.m (ld 0 (iN m.Q))),(10,ad (((m.R*m.B)*m.M)-m.res) m.Q),(11,.c [] [] (aa.v ((vD (p:Int) (((((m.R*m.B)*m.M)-m.res)+m.Q:Nat):Int))) λ_=>ALca Value.bool (show(bQ (p:Int) (((((m.R*m.B)*m.M)-m.res)+m.Q:Nat):Int))=false from e))),(13,.d),(14,.d),(15,.d),(16,.d),(17,.d),(18,.d),(19,.d),(20,.d)] [(4,.bool false)] [4] (aq (.bool false) ab.zero (by(rw[bj (by have:=Qg e Om;omega)];rfl)) [1,2,3] [(0,0)] [])
theorem E2(g:Nat)(m:Mp)(b:bp m)(h i a:Value)(r:Nat)(x:r<m.R):aa YV 26 #[pt g 0,iN r] [ob g #[iN m.R,iN m.S,iN m.B,iN m.M,iN m.C,iN m.G,iN m.res,h,i,a,iN m.Q,iN m.F] 137,bt h m.N,eV i m.P,dk a m.K] [1,2,3] (λ_=>[bt h m.N,eV i m.P,dk a m.K]) (λ_=> .tuple #[i6 (kA m r),.bool (fm m r)]):=by
 have j:=b.O;have f:=b.ly;have p:=b.np;have n:=b.ll;have k:=b.ld;have o:=b.ls;have q:=b.pg;have t:=b.rk;have u:=f.rp;have s:=j.bd.r8;refine fG Tryz.func26 λw v=>r0 [] [(4,i6 0),(5,.bool false)] [] (r0 [(4,.m (ld 0 (a))),(5,eS kI a m.K 3),(6,.c [] [] (o4 r m.K.length Om)),(12,.m (ld 0 (a))),(14,cy kI a m.K 3 r),(15,eL kI a m.K 3 r 0)] [(23,.bool ((m.K.getD r 0)==(-1)))] [] ?_);refine cE (m.K.getD r 0) (-1) (λe d=>?_) λe d=>?_
 ·exact r0 [] [(4,i6 0),(5,.bool false)] [4,5] (aq (.tuple #[i6 0,.bool false]) ab.zero (by unfold kA fm;(repeat (rw[e]));rfl) [1,2,3] [(0,0)] [])
 exact r0 [(3,.l 0),(5,cy kI a m.K 3 r),(6,eL kI a m.K 3 r 0)] [(4,i6 (m.K.getD r 0)),(5,.bool true)] [4,5] (aq (.tuple #[i6 (m.K.getD r 0),.bool true]) ab.zero (by unfold kA fm;(repeat (rw[e]));rfl) [1,2,3] [(0,0)] [])
theorem E3(g:Nat)(m:Mp)(e:bp m)(r:Nat)(f:r<m.R):aa YV 26 #[pt g 0,iN r] [pk (aJ g m)] [0] (λ_=>[pk (aJ g m)]) (λ_=> .tuple #[i6 (kA m r),.bool (fm m r)]):=aa.pkZ Tryz.func26 λL d=>by
 obtain⟨a,b,c,rfl⟩:=d;exact⟨[1,2,3],λ_=>[bt a m.N,eV b m.P,dk c m.K],E2 g m e a b c r f,rfl,λE=>⟨rfl,rfl,⟨_,_,_,rfl⟩⟩⟩
theorem E4(g:Nat)(m:Mp)(a:bp m)(f h i:Value)(p:Nat)(hp:p<m.R*m.B*m.M):aa YV 99 #[pt g 0,iN p] [ob g #[iN m.R,iN m.S,iN m.B,iN m.M,iN m.C,iN m.G,iN m.res,f,h,i,iN m.Q,iN m.F] 137,bt f m.N,eV h m.P,dk i m.K] [1,2,3] (λ_=>[bt f m.N,eV h m.P,dk i m.K]) (λ_=> .tuple #[iN (bB m p),iN (aO m.G m.R m.B m.M p),i6 0]):=by
 have e:=a.O;have d:=a.ly;have u:=a.np;have r:=a.ll;have q:=a.ld;have s:=a.ls;have v:=a.pg;have y:=a.rk;have z:=d.rp;have x:=e.bd.r8;have l:=d.G;have D:=P5 (way:=m.G) e hp;have B:=EX a hp;have k:=sC (p:=p) (way:=m.G) e;have A:=Qk a k;have o:=vB a hp;refine fG Tryz.func99 λw C=>r0 [] [(4,i6 0),(5,i6 0),(6,i6 0)] [] (r0 [(4,.m (ls 0 ([iN m.R,iN m.S,iN m.B,iN m.M,iN m.C]))),(9,.m (ld 0 (iN m.G))),(11,.c [] [] (EW m.R m.S m.B m.M m.C e m.G Om p Om)),] [(7,iN (gT m.G m.R m.B m.M p)),(6,i6 0)] [6] (rF [] 26 (r0 [(1,.t (tv (av .shr 3 (.tmp 28) (.const (u6 14)) (iN (gT m.G m.R m.B m.M p)) (u6 14)) (λ_=>dJ (b:=((aO m.G m.R m.B m.M p:Nat):Int)) (iE 14 Dc) Om)))] [(5,iN (aO m.G m.R m.B m.M p))] [5] (r0 [(2,.c [0,1,2,3] [1,2,3] (E2 g m a f h i (aO m.G m.R m.B m.M p) Om))] [(8,i6 (kA m (aO m.G m.R m.B m.M p))),(9,.bool (fm m (aO m.G m.R m.B m.M p)))] [] (r0 [] [(36,.bool (fm m (aO m.G m.R m.B m.M p)))] [] ?_)))));refine cB (fm m (aO m.G m.R m.B m.M p)) (λj=>?_) λj=>?_
 ·have n:=Qi a j;exact r0 [(3,sI (kA m (aO m.G m.R m.B m.M p)) (((aO m.G m.R m.B m.M p:Nat):Int)) Om),(4,.t (tv (av .shl 3 (.tmp 40) (.const (u6 14)) (i6 ((kA m (aO m.G m.R m.B m.M p))-((aO m.G m.R m.B m.M p:Nat):Int))) (u6 14)) (λ_=>fH 14 Dc Om Om))),(5,.t (tv (av .add 3 (.tmp 37) (.tmp 41) (iN (gT m.G m.R m.B m.M p)) (i6 ((kA m (aO m.G m.R m.B m.M p)-(aO m.G m.R m.B m.M p:Int))*2^14))) (λ_=>dJ (qK Om Om) n)))] [(7,iN (bB m p))] [7] (r0 [] [(4,iN (bB m p)),(5,iN (aO m.G m.R m.B m.M p)),(6,i6 0)] [4,5,6] (aq (.tuple #[iN (bB m p),iN (aO m.G m.R m.B m.M p),i6 0]) ab.zero ba [1,2,3] [(0,0)] []))
 exact r0 [] [(4,iN (gT m.G m.R m.B m.M p)),(5,iN (aO m.G m.R m.B m.M p)),(6,i6 0)] [4,5,6] (aq (.tuple #[iN (gT m.G m.R m.B m.M p),iN (aO m.G m.R m.B m.M p),i6 0]) ab.zero (by(rw[Qj j])) [1,2,3] [(0,0)] [])
theorem E5(g:Nat)(m:Mp)(a:bp m)(p:Nat)(hp:p<m.R*m.B*m.M):aa YV 64 #[pt g 0,iN p] [pk (aJ g m)] [0] (λ_=>[pk (aJ g m)]) (λ_=> .tuple #[iN (bB m p),i6 0]):=aa.pkZ Tryz.func64 λL i=>by
 obtain⟨d,e,f,rfl⟩:=i;refine⟨[1,2,3],λ_=>[bt d m.N,eV e m.P,dk f m.K],?_,rfl,λE=>⟨rfl,rfl,⟨_,_,_,rfl⟩⟩⟩;have h:=a.O;have b:=a.ly;have n:=a.np;have k:=a.ll;have j:=a.ld;have l:=a.ls;have o:=a.pg;have r:=a.rk;have s:=b.rp;have q:=h.bd.r8;exact fG Tryz.func64 λw t=>r0 [] [(4,i6 0),(5,i6 0)] [] (r0 [(2,.c [0,1,2,3] [1,2,3] (E4 g m a d e f p Om))] [(6,iN (bB m p)),(8,i6 0)] [] (r0 [] [(4,iN (bB m p)),(5,i6 0)] [4,5] (lf ab.zero [1,2,3] [(0,0)] [])))
theorem zx(g:Nat)(m:Mp)(e:bp m)(n:Nat)(p:n<(m.R*m.B*m.M-m.res)*m.C):aa YV 220 #[pt g 0,iN n] [pk (aJ g m)] [0] (λ_=>[pk (aJ g m)]) (λ_=> .tuple #[iN (eX m n),iN (az m n),iN (aO m.G m.R m.B m.M (az m n)),i6 0]):=aa.pkZ Tryz.func220 λL s=>by
 obtain⟨h,q,r,rfl⟩:=s;refine⟨[1,2,3],λ_=>[bt h m.N,eV q m.P,dk r m.K],?_,rfl,λE=>⟨rfl,rfl,⟨_,_,_,rfl⟩⟩⟩;have i:=e.O;have f:=e.ly;have B:=e.np;have y:=e.ll;have x:=e.ld;have z:=e.ls;have C:=e.pg;have F:=e.rk;have G:=f.rp;have D:=i.bd.r8;have A:=e.lines;have j:=i.bd.c1;have k:=i.bd.c64;have I:=EY e p;have u:m.N.getD (n/m.C) 0<m.R*m.B*m.M:=vC e p;have v:=vB e u;have o:=Y4 n j;exact fG Tryz.func220 λw H=>r0 [] [(4,i6 0),(5,i6 0),(6,i6 0),(7,i6 0)] [] (rF [(4,.l 0),(5,.c [] [] (zu m.R m.S m.B m.M m.C m.G m.res f)),(6,.c [] [] (o4 n ((((m.R*m.B)*m.M)-m.res)*m.C) Om))] 16 (r0 [(3,.m (ld 0 (h))),(10,.m (ld 0 (iN m.C))),(11,.t (tb (a:=iN n) (b:=iN m.C) λ_ _ _ _=>oF (a:=n) (d:=m.C) Om Om)),(12,cy bX h m.N 1 (n/m.C)),(13,eL bX h m.N 1 (n/m.C) 0)] [(5,iN (m.N.getD (n/m.C) 0))] [5] (r0 [(2,.c [0,1,2,3] [1,2,3] (E4 g m e h q r (m.N.getD (n/m.C) 0) Om))] [(8,iN (bB m (m.N.getD (n/m.C) 0))),(6,iN (aO m.G m.R m.B m.M (m.N.getD (n/m.C) 0))),(7,i6 0)] [6,7] (rF [] 39 (r0 [(1,.t (tv (av .shl 3 (.tmp 41) (.const (u6 6)) (iN (bB m (m.N.getD (n/m.C) 0))) (u6 6)) (λ_=>dJ (b:=((bB m (m.N.getD (n/m.C) 0)*64:Nat):Int)) (fH 6 Dc Om Om) Om))),(8,.m (ld 0 (iN m.C))),(9,.t (tb (a:=iN n) (b:=iN m.C) λ_ _ _ _=>nM (a:=n) (d:=m.C) Om)),(10,.t (tv (av .or 3 (.tmp 42) (.tmp 50) (iN (bB m (m.N.getD (n/m.C) 0)*64)) (iN (n%m.C))) (λ_=>dJ (b:=((eX m n:Nat):Int)) (rJ 6 64 rfl Om Om Om Om Om) (by unfold eX az;omega)))),] [(4,iN (eX m n)),(5,iN (m.N.getD (n/m.C) 0)),(6,iN (aO m.G m.R m.B m.M (m.N.getD (n/m.C) 0))),(7,i6 0)] [4,5,6,7] (aq (.tuple #[iN (eX m n),iN (m.N.getD (n/m.C) 0),iN (aO m.G m.R m.B m.M (m.N.getD (n/m.C) 0)),i6 0]) ab.zero ba [1,2,3] [(0,0)] []))))))
theorem Qr(g:Nat)(m:Mp)(a:bp m)(n:Int)(j:bQ n (((m.R*m.B*m.M-m.res)*m.C:Nat):Int)=false):aa YV 220 #[pt g 0,i6 n] [pk (aJ g m)] [0] (λ_=>[pk (aJ g m)]) (λ_=> .tuple #[i6 0,i6 0,i6 0,i6 12]):=aa.pkZ Tryz.func220 λL e=>by
 obtain⟨t,u,v,rfl⟩:=e;refine⟨[1,2,3],λ_=>[bt t m.N,eV u m.P,dk v m.K],?_,rfl,λE=>⟨rfl,rfl,⟨_,_,_,rfl⟩⟩⟩;have d:=a.O;have b:=a.ly;have o:=a.np;have h:=a.ll;have f:=a.ld;have i:=a.ls;have p:=a.pg;have r:=a.rk;have s:=b.rp;have q:=d.bd.r8;have k:=a.lines;exact fG Tryz.func220 λw x=>r0 [] [(4,i6 0),(5,i6 0),(6,i6 0),(7,i6 0)] [] (rT [(4,.l 0),(5,.c [] [] (zu m.R m.S m.B m.M m.C m.G m.res b)),(6,.c [] [] (aa.v ((vD n (((((m.R*m.B)*m.M)-m.res)*m.C:Nat):Int))) λ_=>ALca Value.bool (show(bQ n (((((m.R*m.B)*m.M)-m.res)*m.C:Nat):Int))=false from(by exact j))))] 16 (r0 [] [(4,i6 0),(5,i6 0),(6,i6 0),(7,i6 12)] [4,5,6,7] (lf ab.zero [1,2,3] [(0,0)] [])))
theorem zy(g:Nat)(m:Mp)(a:bp m)(f h i:Value):aa YV 264 #[pt g 0] [ob g #[iN m.R,iN m.S,iN m.B,iN m.M,iN m.C,iN m.G,iN m.res,f,h,i,iN m.Q,iN m.F] 137,bt f m.N,eV h m.P,dk i m.K] [1,2,3] (λ_=>[bt f m.N,eV h m.P,dk i m.K]) (λ_=> .tuple #[iN (dY m),.bool (dC m)]):=by
 have k:=a.O;have b:=a.ly;have q:=a.np;have o:=a.ll;have n:=a.ld;have p:=a.ls;have r:=a.pg;have t:=a.rk;have u:=b.rp;have s:=k.bd.r8;refine fG Tryz.func264 λw v=>r0 [] [(2,i6 0),(3,.bool false)] [] (r0 [(3,.l 0),(8,.l 0)] [(13,.bool ((m.Q:Int)==(m.res:Int)))] [] ?_);refine cE (m.Q:Int) (m.res:Int) (λj d=>?_) λj d=>?_
 ·exact r0 [] [(2,i6 0),(3,.bool false)] [2,3] (aq (.tuple #[i6 0,.bool false]) ab.zero (by by_cases e:m.Q=m.res<;>first | (exfalso;omega) | (simp [dY,dC,e])) [1,2,3] [(0,0)] [])
 exact r0 [(3,.m (ls 0 ([iN m.R,iN m.S,iN m.B,iN m.M,iN m.C,iN m.G,iN m.res]))),(4,.c [] [] (qg m.R m.S m.B m.M m.C m.G m.res b)),(8,.m (ld 0 (iN m.Q))),(9,ad (((m.R*m.B)*m.M)-m.res) m.Q),] [(2,iN ((((m.R*m.B)*m.M)-m.res)+m.Q)),(3,.bool true)] [2,3] (aq (.tuple #[iN ((((m.R*m.B)*m.M)-m.res)+m.Q),.bool true]) ab.zero (by by_cases e:m.Q=m.res<;>first | (exfalso;omega) | (simp [dY,dC,e])) [1,2,3] [(0,0)] [])
theorem Qs(g:Nat)(m:Mp)(e:bp m):aa YV 264 #[pt g 0] [pk (aJ g m)] [0] (λ_=>[pk (aJ g m)]) (λ_=> .tuple #[iN (dY m),.bool (dC m)]):=aa.pkZ Tryz.func264 λL d=>by
 obtain⟨a,b,c,rfl⟩:=d;exact⟨[1,2,3],λ_=>[bt a m.N,eV b m.P,dk c m.K],zy g m e a b c,rfl,λE=>⟨rfl,rfl,⟨_,_,_,rfl⟩⟩⟩
theorem E6(g:Nat)(m:Mp)(a:bp m)(e f h:Value):aa YV 281 #[pt g 0] [ob g #[iN m.R,iN m.S,iN m.B,iN m.M,iN m.C,iN m.G,iN m.res,e,f,h,iN m.Q,iN m.F] 137,bt e m.N,eV f m.P,dk h m.K] [1,2,3] (λ_=>[bt e m.N,eV f m.P,dk h m.K]) (λ_=> .tuple #[iN (fR m),.bool (eu m)]):=by
 have j:=a.O;have d:=a.ly;have p:=a.np;have n:=a.ll;have k:=a.ld;have o:=a.ls;have q:=a.pg;have s:=a.rk;have t:=d.rp;have r:=j.bd.r8;refine fG Tryz.func281 λw u=>r0 [] [(2,i6 0),(3,.bool false)] [] (r0 [(3,.l 0),(9,.l 0)] [(14,.bool ((m.F:Int)==(m.S:Int)))] [] ?_);refine cE (m.F:Int) (m.S:Int) (λi b=>?_) λi b=>?_
 ·exact r0 [] [(2,i6 0),(3,.bool false)] [2,3] (aq (.tuple #[i6 0,.bool false]) ab.zero (by by_cases c:m.F=m.S<;>first | (exfalso;omega) | (simp [fR,eu,c])) [1,2,3] [(0,0)] [])
 exact r0 [(5,.m (ld 0 (iN m.R))),(9,.m (ld 0 (iN m.F))),(10,ad m.R m.F),] [(2,iN (m.R+m.F)),(3,.bool true)] [2,3] (aq (.tuple #[iN (m.R+m.F),.bool true]) ab.zero (by by_cases c:m.F=m.S<;>first | (exfalso;omega) | (simp [fR,eu,c])) [1,2,3] [(0,0)] [])
end
section
open Go Go.RowKit Go.Shelf
theorem Qt(g:Nat)(m:Mp)(a:bp m)(f:dC m=true):aa YV 265 #[pt g 0] [pk (aJ g m)] [0] (λ_=>[pk (aJ g (qe m))]) (λ_=> .tuple #[iN (dY m),i6 0]):=aa.pkZ Tryz.func265 λL k=>by
 obtain⟨b,d,e,rfl⟩:=k;refine⟨[0,1,2,3],λ_=>[ob g #[iN m.R,iN m.S,iN m.B,iN m.M,iN m.C,iN m.G,iN m.res,b,d,e,iN (m.Q+1),iN m.F] 137,bt b m.N,eV d m.P,dk e m.K],?_,rfl,λE=>⟨rfl,rfl,⟨_,_,_,rfl⟩⟩⟩;have j:=a.O;have h:=a.ly;have q:=a.np;have o:=a.ll;have n:=a.ld;have p:=a.ls;have r:=a.pg;have u:=a.rk;have v:=h.rp;have t:=j.bd.r8;refine fG Tryz.func265 λw x=>r0 [] [(2,i6 0),(3,i6 0)] [] (r0 [(1,.c [0,1,2,3] [1,2,3] (zy g m a b d e))] [(4,iN (dY m)),(5,.bool (dC m))] [] (r0 [] [(12,.bool (!(dC m)))] [] ?_));have i:(!(dC m))=false:=(by rw[f];rfl);exact cF (!(dC m)) i (rs [(3,.l 0),(4,ad m.Q 1),(7,.s 0)] 0 (ob g #[iN m.R,iN m.S,iN m.B,iN m.M,iN m.C,iN m.G,iN m.res,b,d,e,iN (m.Q+1),iN m.F] 137) (r0 [] [(2,iN (dY m)),(3,i6 0)] [2,3] (lf ab.zero [0,1,2,3] [] [])))
theorem Qu(g:Nat)(m:Mp)(a:bp m)(b:dC m=false):aa YV 265 #[pt g 0] [pk (aJ g m)] [0] (λ_=>[pk (aJ g m)]) (λ_=> .tuple #[i6 0,i6 52]):=aa.pkZ Tryz.func265 λL k=>by
 obtain⟨e,f,h,rfl⟩:=k;refine⟨[1,2,3],λ_=>[bt e m.N,eV f m.P,dk h m.K],?_,rfl,λE=>⟨rfl,rfl,⟨_,_,_,rfl⟩⟩⟩;have j:=a.O;have d:=a.ly;have p:=a.np;have n:=a.ll;have l:=a.ld;have o:=a.ls;have q:=a.pg;have s:=a.rk;have t:=d.rp;have r:=j.bd.r8;refine fG Tryz.func265 λw u=>r0 [] [(2,i6 0),(3,i6 0)] [] (r0 [(1,.c [0,1,2,3] [1,2,3] (zy g m a e f h))] [(4,iN (dY m)),(5,.bool (dC m))] [] (r0 [] [(12,.bool (!(dC m)))] [] ?_));have i:(!(dC m))=true:=(by rw[b];rfl);exact cT (!(dC m)) i (r0 [] [(2,i6 0),(3,i6 52)] [2,3] (lf ab.zero [1,2,3] [(0,0)] []))
theorem Qv(g:Nat)(m:Mp)(a:bp m)(f:eu m=true):aa YV 266 #[pt g 0] [pk (aJ g m)] [0] (λ_=>[pk (aJ g (qf m))]) (λ_=> .tuple #[iN (fR m),i6 0]):=aa.pkZ Tryz.func266 λL k=>by
 obtain⟨b,d,e,rfl⟩:=k;refine⟨[0,1,2,3],λ_=>[ob g #[iN m.R,iN m.S,iN m.B,iN m.M,iN m.C,iN m.G,iN m.res,b,d,e,iN m.Q,iN (m.F+1)] 137,bt b m.N,eV d m.P,dk e m.K],?_,rfl,λE=>⟨rfl,rfl,⟨_,_,_,rfl⟩⟩⟩;have j:=a.O;have h:=a.ly;have q:=a.np;have o:=a.ll;have n:=a.ld;have p:=a.ls;have r:=a.pg;have u:=a.rk;have v:=h.rp;have t:=j.bd.r8;refine fG Tryz.func266 λw x=>r0 [] [(2,i6 0),(3,i6 0)] [] (r0 [(1,.c [0,1,2,3] [1,2,3] (E6 g m a b d e))] [(4,iN (fR m)),(5,.bool (eu m))] [] (r0 [] [(12,.bool (!(eu m)))] [] ?_));have i:(!(eu m))=false:=(by rw[f];rfl);exact cF (!(eu m)) i (rs [(3,.l 0),(4,ad m.F 1),(7,.s 0)] 0 (ob g #[iN m.R,iN m.S,iN m.B,iN m.M,iN m.C,iN m.G,iN m.res,b,d,e,iN m.Q,iN (m.F+1)] 137) (r0 [] [(2,iN (fR m)),(3,i6 0)] [2,3] (lf ab.zero [0,1,2,3] [] [])))
theorem Qw(g:Nat)(m:Mp)(a:bp m)(b:eu m=false):aa YV 266 #[pt g 0] [pk (aJ g m)] [0] (λ_=>[pk (aJ g m)]) (λ_=> .tuple #[i6 0,i6 52]):=aa.pkZ Tryz.func266 λL k=>by
 obtain⟨e,f,h,rfl⟩:=k;refine⟨[1,2,3],λ_=>[bt e m.N,eV f m.P,dk h m.K],?_,rfl,λE=>⟨rfl,rfl,⟨_,_,_,rfl⟩⟩⟩;have j:=a.O;have d:=a.ly;have p:=a.np;have n:=a.ll;have l:=a.ld;have o:=a.ls;have q:=a.pg;have s:=a.rk;have t:=d.rp;have r:=j.bd.r8;refine fG Tryz.func266 λw u=>r0 [] [(2,i6 0),(3,i6 0)] [] (r0 [(1,.c [0,1,2,3] [1,2,3] (E6 g m a e f h))] [(4,iN (fR m)),(5,.bool (eu m))] [] (r0 [] [(12,.bool (!(eu m)))] [] ?_));have i:(!(eu m))=true:=(by rw[b];rfl);exact cT (!(eu m)) i (r0 [] [(2,i6 0),(3,i6 52)] [2,3] (lf ab.zero [1,2,3] [(0,0)] []))
theorem Qx(g:Nat)(m:Mp)(f:bp m)(h t:Nat)(O:h<m.R*m.B*m.M)(K:m.R*m.B*m.M-m.res≤t)(M:t<m.R*m.B*m.M-m.res+m.Q)(x:m.P.getD h false=false)(p:m.P.getD t false=false)(C:h≠t):aa YV 245 #[pt g 0,iN h,iN t] [pk (aJ g m)] [0] (λ_=>[pk (aJ g (sD m h t))]) (λ_=>i6 0):=aa.pkZ Tryz.func245 λL v=>by
 obtain⟨e,d,q,rfl⟩:=v;refine⟨[1,2,3],λ_=>[bt e (dR m.N h t m.N.length),eV d (m.P.set h true),dk q m.K],?_,rfl,λE=>⟨rfl,rfl,⟨_,_,_,rfl⟩⟩⟩;have u:=f.O;have n:=f.ly;have D:=f.np;have A:=f.ll;have z:=f.ld;have B:=f.ls;have F:=f.pg;have H:=f.rk;have J:=n.rp;have G:=u.bd.r8;refine fG Tryz.func245 λw N=>r0 [] [(6,i6 0)] [] (rF [(4,.m (ld 0 (d))),(5,eS kz d m.P 2),(6,.c [] [] (o4 h m.P.length Om)),(13,.m (ls 0 ([iN m.R,iN m.S,iN m.B,iN m.M,iN m.C,iN m.G,iN m.res]))),(14,.c [] [] (qg m.R m.S m.B m.M m.C m.G m.res n)),(15,.t (tb (a:=iN t) (b:=iN (((m.R*m.B)*m.M)-m.res)) λ_ _ _ _=>lQ (a:=t) (b:=((m.R*m.B)*m.M)-m.res) Om Om)),(19,.m (ld 0 (iN m.Q))),(20,.c [] [] (o4 (t-(((m.R*m.B)*m.M)-m.res)) m.Q Om)),] 9 (r0 [(3,.m (ld 0 (d))),(5,cy kz d m.P 2 h),(6,eL kz d m.P 2 h 0),(11,.m (ld 0 (d))),(13,cy kz d m.P 2 t),(14,eL kz d m.P 2 t 0),] [(33,.bool (((m.P.getD h false)||(m.P.getD t false))||((h:Int)==(t:Int))))] [] ?_));have r:(((m.P.getD h false)||(m.P.getD t false))||((h:Int)==(t:Int)))=false:=by rw[x,p];simpa using(show(h:Int)≠(t:Int) by omega)
 refine cF (((m.P.getD h false)||(m.P.getD t false))||((h:Int)==(t:Int))) r (rs [(3,.l 0),(5,cy kz d m.P 2 h),(6,rA kz d m.P 2 h 0 true (.bool true) Kr)] 2 (eV d (m.P.set h true)) (r0 [(3,.l 0),(4,eS bX e m.N 1)] [(64,e),(65,iN m.N.length),(66,i6 0)] [] ?_));refine lq (λk=>k≤m.N.length) (λk=>[(66,iN k)]) (λk L=>L.set 1 (bt e (dR m.N h t k))) (λk=>m.N.length-k) 0 Om Kr (by rw[Qm];kernel_rfl) (λk y=>?_);have I:=EZ m.N h t k;refine r0 [] [(67,.bool (decide ((k:Int)<(m.N.length:Int))))] [] ?_;refine cc (k:Int) (m.N.length:Int) (λs o=>?_) λs o=>?_
 ·refine r0 [(1,cy bX e (dR m.N h t k) 1 k),(2,eL bX e (dR m.N h t k) 1 k 0)] [(7,iN k),(8,iN ((dR m.N h t k).getD k 0))] [] (r0 [] [(73,.bool (((((dR m.N h t k).getD k 0):Nat):Int)==(h:Int)))] [] ?_);refine cJ (((((dR m.N h t k).getD k 0):Nat):Int)==(h:Int)) N0 (λc=>[ob g #[iN m.R,iN m.S,iN m.B,iN m.M,iN m.C,iN m.G,iN m.res,e,d,q,iN m.Q,iN m.F] 137,bt e (bif c then(dR m.N h t k).set k t else dR m.N h t k),eV d (m.P.set h true),dk q m.K]) (λi=>?_) (λi=>?_) ?_
  ·have j:=eq_of_beq i;refine rs [(3,.l 0),(6,cy bX e (dR m.N h t k) 1 k),(7,rA bX e (dR m.N h t k) 1 k 0 t (iN t) Kr)] 1 (bt e ((dR m.N h t k).set k t)) ?_;exact cm Kr [0,1,2,3] Kr
  ·have j:=ne_of_beq_false i;exact cm Kr [0,1,2,3] Kr
  exact r0 [(0,ad k 1)] [(66,iN (k+1))] [66] (le (k+1) Om Om Kr [0,1,2,3] (by rw[←Qp Om];kernel_rfl))
 obtain rfl:m.N.length=k:=by omega
 exact lx (r0 [] [(6,i6 0)] [6] (lf ab.zero [1,2,3] [(0,0)] []))
theorem Qy(g:Nat)(m:Mp)(d:bp m)(r t:Nat)(C:r<m.R)(x:m.R≤t)(y:t<m.R+m.F)(hs:fm m r=false):aa YV 246 #[pt g 0,iN r,iN t] [pk (aJ g m)] [0] (λ_=>[pk (aJ g (sF m r t))]) (λ_=>i6 0):=aa.pkZ Tryz.func246 λL j=>by
 obtain⟨z,A,e,rfl⟩:=j;refine⟨[1,2,3],λ_=>[bt z m.N,eV A m.P,dk e (m.K.set r (t:Int))],?_,rfl,λE=>⟨rfl,rfl,⟨_,_,_,rfl⟩⟩⟩;have i:=d.O;have f:=d.ly;have p:=d.np;have n:=d.ll;have k:=d.ld;have o:=d.ls;have q:=d.pg;have u:=d.rk;have v:=f.rp;have s:=i.bd.r8;refine fG Tryz.func246 λw B=>r0 [] [(6,i6 0)] [] (rF [(4,.m (ld 0 (e))),(5,eS kI e m.K 3),(6,.c [] [] (o4 r m.K.length Om)),(15,.m (ld 0 (iN m.R))),(16,.t (tb (a:=iN t) (b:=iN m.R) λ_ _ _ _=>lQ (a:=t) (b:=m.R) Om Om)),(20,.m (ld 0 (iN m.F))),(21,.c [] [] (o4 (t-m.R) m.F Om)),] 7 (r0 [(3,.l 0),(5,cy kI e m.K 3 r),(6,eL kI e m.K 3 r 0)] [(32,.bool ((m.K.getD r 0) != (-1)))] [] ?_));have h:((m.K.getD r 0) != (-1))=false:=by exact hs
 exact cF ((m.K.getD r 0) != (-1)) h (rs [(3,.l 0),(6,cy kI e m.K 3 r),(7,rA kI e m.K 3 r 0 (t:Int) (iN t) Kr)] 3 (dk e (m.K.set r (t:Int))) (r0 [] [(6,i6 0)] [6] (lf ab.zero [1,2,3] [(0,0)] [])))
theorem Qz(R S B M C way res:Nat)(hly:ij R S B M C way res):aa YV 175 #[.agg #[iN R,iN S,iN B,iN M,iN C,iN way,iN res]] [] [] (λE=>[ob (E.y 0) #[iN R,iN S,iN B,iN M,iN C,iN way,iN res,(E.val 0),(E.val 1),(E.val 2),i6 0,i6 0] 137,bt (E.val 0) (YW (R*B*M-res)),eV (E.val 1) (YY ((R*B)*M) false),dk (E.val 2) (YY R (-1))]) (λE=> .tuple #[pt ((E.y 0)) 0,i6 0]):=by
 have hG:=hly.O
 have hrp:=hly.rp
 have hnp:=hG.bd.rbm
 have hway:=hly.G
 have hr64:=hly.r64
 have hlines:=hG.bd.r8
 refine fG Tryz.func175 λw cs=>ra (λq1=>[(1,pt (B0 q1) 0),(2,.pointer none),(3,i6 0)]) (λq1=>[ob (B0 q1) #[iN R,iN S,iN B,iN M,iN C,iN way,iN res] 25]) λq1=>rF [(0,.l 0),(1,.c [] [] (E1 R S B M C way res hly))] 8 (rr (λ_=>[(0,.l 0),(2,.l 0),(3,.c [] [] (mD R S B M C hG)),(4,rK kz 1 ((R*B)*M))]) (λq3=>[(4,pt (B6 q3) 0)]) [] (λq3 L=>L++[eV (.slice (some ⟨(q3 4).y 0,0,none⟩) ((R*B)*M) ((R*B)*M)) (YY ((R*B)*M) false),ob (B6 q3) #[iN R,iN S,iN B,iN M,iN C,iN way,iN res,.slice none 0 0,.slice (some ⟨(q3 4).y 0,0,none⟩) ((R*B)*M) ((R*B)*M),.slice none 0 0,i6 0,i6 0] 137]) λq3=>r0 [(0,.l 0),(1,.c [] [] (qg R S B M C way res hly))] [(17,iN (((R*B)*M)-res)),(18,i6 0)] [] (cz bX ?_))
 refine mv (λk _=>k≤(R*B*M-res)) (λk _=>[(18,iN k)]) (λk vC4_7 L=>(L.set 2 (ob (B6 q3) #[iN R,iN S,iN B,iN M,iN C,iN way,iN res,vC4_7,.slice (some ⟨(q3 4).y 0,0,none⟩) ((R*B)*M) ((R*B)*M),.slice none 0 0,i6 0,i6 0] 137)).set 3 (bt vC4_7 (YW k))) (λk _=>(R*B*M-res)-k) 0 (.slice none 0 0) Om Kr Kr (λk vC4_7 hk5=>?_)
 have hkl:(YW k).length=k:=Zc
 refine r0 [] [(19,.bool (decide ((k:Int)<((((R*B)*M)-res:Nat):Int))))] [] ?_
 refine cc (k:Int) ((((R*B)*M)-res:Nat):Int) (λh7 dh7=>?_) λh7 dh7=>?_
 ·exact r0 [] [(5,iN k)] [] (rr (λq9=>[(4,.l 2),(6,.m (bs 4 1)),(7,e7 bX (vC4_7) (YW k) 3 4 ([k])),(10,.m (fv 2 3 (bt ((q9 7).val 0) ((YW k)++([k]))) ((q9 7).val 0) λbs h=>ar.one ((λ_ h=>h) bs h)))]) N0 [] (λq9 L=>(L.set 2 (ob (B6 q3) #[iN R,iN S,iN B,iN M,iN C,iN way,iN res,(q9 7).val 0,.slice (some ⟨(q3 4).y 0,0,none⟩) ((R*B)*M) ((R*B)*M),.slice none 0 0,i6 0,i6 0] 137)).set 3 (bt ((q9 7).val 0) ((YW k)++([k])))++[ob (B6 q9) #[iN k] 3]) λq9=>r0 [(0,ad k 1)] [(18,iN (k+1))] [18] (kS (k+1) ((q9 7).val 0) Om Om Kr [0,1,2,3] (by rw[Zt];kernel_rfl)))
 obtain rfl:k=(R*B*M-res):=by omega
 refine kT ?_
 refine r0 [(2,.l 0)] [(34,iN R),(35,i6 0)] [] (cz kI ?_)
 refine mv (λj _=>j≤R) (λj _=>[(35,iN j)]) (λj vC4_9 L=>(L.set 2 (ob (B6 q3) #[iN R,iN S,iN B,iN M,iN C,iN way,iN res,vC4_7,.slice (some ⟨(q3 4).y 0,0,none⟩) ((R*B)*M) ((R*B)*M),vC4_9,i6 0,i6 0] 137)).set 4 (dk vC4_9 (YY j (-1)))) (λj _=>R-j) 0 (.slice none 0 0) Om Kr Kr (λj vC4_9 hk12=>?_)
 have hjl:(YY j (-1:Int)).length=j:=Zf
 refine r0 [] [(36,.bool (decide ((j:Int)<(R:Int))))] [] ?_
 refine cc (j:Int) (R:Int) (λh14 dh14=>?_) λh14 dh14=>?_
 ·exact rr (λq15=>[(4,.l 2),(5,.m (bs 5 1)),(6,e7 kI (vC4_9) (YY j (-1)) 4 5 ([(-1)])),(9,.m (fv 2 4 (dk ((q15 6).val 0) ((YY j (-1))++([(-1)]))) ((q15 6).val 0) λbs h=>ar.one ((λ_ h=>h) bs h)))]) N0 [] (λq15 L=>(L.set 2 (ob (B6 q3) #[iN R,iN S,iN B,iN M,iN C,iN way,iN res,vC4_7,.slice (some ⟨(q3 4).y 0,0,none⟩) ((R*B)*M) ((R*B)*M),(q15 6).val 0,i6 0,i6 0] 137)).set 4 (dk ((q15 6).val 0) ((YY j (-1))++([(-1)])))++[ob (B5 q15) #[i6 (-1)] 3]) λq15=>r0 [(0,ad j 1)] [(35,iN (j+1))] [35] (kS (j+1) ((q15 6).val 0) Om Om Kr [0,1,2,3,4] (by rw[List.replicate_succ'];kernel_rfl))
 obtain rfl:R=j:=by omega
 refine kT ?_
 exact r0 [] [(2,pt (B6 q3) 0),(3,i6 0)] [2,3] (lf (.l [(q3 6).y 0] [] [vC4_7,.slice (some ⟨(q3 4).y 0,0,none⟩) ((R*B)*M) ((R*B)*M),vC4_9]) [2,3,1,4] [] [])
theorem QA(R S B M C way a:Nat)(b:ij R S B M C way a):aa YV 175 #[.agg #[iN R,iN S,iN B,iN M,iN C,iN way,iN a]] [] [] (λE=>[pk (aJ (E.y 0) (lU R S B M C way a))]) (λE=> .tuple #[pt ((E.y 0)) 0,i6 0]):=(Qz R S B M C way a b).outs λE d c=>sr ⟨_,_,_,rfl⟩ c
end
section
open Go Go.RowKit Go.Shelf
theorem lV(a b:Nat):((a:Int)==(b:Int))=decide (a=b):=by
 by_cases h:a=b
 ·subst h;rw[c0 rfl];exact beq_self_eq_true _
 ·rw[bj h,dz];omega
theorem zz(a b:Nat):decide ((a:Int)≤(b:Int))=decide (a≤b):=by
 by_cases h:a≤b
 ·rw[c0 h,c0 Om]
 ·rw[bj h,bj Om]
structure Jb where
 A:Nat
 fr:Nat
 tg:Nat
 nx:Nat
def lW:Jb:=⟨0,0,0,0⟩
def gD(a B M C:Nat):Nat:=match a with
 | 0=>0
 | 1=>C
 | _=>B*M*C
structure oa (m:Mp) (fr t nx:Nat):Prop where
 hf:fr<m.R*m.B*m.M
 ht:t<m.R*m.B*m.M
 ne:fr≠t
 df:m.P.getD fr false=false
 dt:m.P.getD t false=false
 t0:m.R*m.B*m.M-m.res≤t
 t1:t<m.R*m.B*m.M-m.res+m.Q
 nx:nx≤m.C
 f1:fr<m.R*m.B*m.M-m.res+m.Q
structure oc (m:Mp) (fr t nx:Nat):Prop where
 hf:fr<m.R
 hs:fm m fr=false
 t0:m.R≤t
 t1:t<m.R+m.F
 nx:nx≤m.B*m.M*m.C
structure sG (m:Mp) (j:Jb):Prop where
 k:j=lW∨(j.A=1∧oa m j.fr j.tg j.nx)∨(j.A=2∧oc m j.fr j.tg j.nx)
def kC(m:Mp)(r i:Nat):Nat:=bU r (i/m.C/m.M) (i/m.C%m.M) (i%m.C)
def a9(m:Mp)(a w i:Nat):Nat:=match a with
 | 1=>bB m w*64+i
 | _=>kC m w i
def je(m:Mp)(n:Nat):Nat:=(fP m.G m.R m.B m.M (az m n)*m.M+fM m.G m.R m.B m.M (az m n))*m.C+n%m.C
def aU(m:Mp)(j:Jb)(n:Nat):Nat:=match j.A with
 | 0=>eX m n
 | 1=>if az m n=j.fr then(if n%m.C<j.nx then a9 m 1 j.tg (n%m.C) else eX m n) else eX m n
 | _=>if aO m.G m.R m.B m.M (az m n)=j.fr then(if je m n<j.nx then a9 m 2 j.tg (je m n) else eX m n) else eX m n
section
variable {m:Mp}
theorem vE(h:bp m){r i:Nat}(c:r<m.R+m.S)(b:i<m.B*m.M*m.C):ig m.R m.S m.B m.M m.C r (i/m.C/m.M) (i/m.C%m.M) (i%m.C):=by
 have a:=h.O.bd;refine⟨c,?_,Y4 _ a.m1,Y4 _ a.c1⟩;exact ZI (Y5 m.B m.M▸ZI (Y5 (m.B*m.M) m.C▸b))
theorem zA(h:bp m){n:Nat}(d:n<(m.R*m.B*m.M-m.res)*m.C):je m n<m.B*m.M*m.C:=by
 have a:=vA h (vC h d);have e:=Y4 n h.O.bd.c1;have b:fP m.G m.R m.B m.M (az m n)*m.M+fM m.G m.R m.B m.M (az m n)<m.B*m.M:=by
  have:(fP m.G m.R m.B m.M (az m n)+1)*m.M≤m.B*m.M:=Y6 _ a.h1;rw[aaf] at this;have:=a.h2;omega
 have c:(fP m.G m.R m.B m.M (az m n)*m.M+fM m.G m.R m.B m.M (az m n)+1)*m.C≤m.B*m.M*m.C:=Y6 _ b;rw[aaf] at c;unfold je;omega
theorem E7(m:Mp)(n:Nat):eX m n=bU (lT m (az m n)) (fP m.G m.R m.B m.M (az m n)) (fM m.G m.R m.B m.M (az m n)) (n%m.C):=by unfold eX bB bU;omega
theorem E8(h:bp m){n:Nat}(b:n<(m.R*m.B*m.M-m.res)*m.C):ig m.R m.S m.B m.M m.C (lT m (az m n)) (fP m.G m.R m.B m.M (az m n)) (fM m.G m.R m.B m.M (az m n)) (n%m.C):=by
 have a:=vA h (vC h b);exact⟨a.h0,a.h1,a.h2,Y4 _ h.O.bd.c1⟩
end
end
section
open Go Go.RowKit Go.Shelf
theorem E9(i n:Int):aa YV 187 #[i6 i,i6 n] [] [] N0 (λ_=> .bool (bQ i n)):=by
 exact fG Tryz.func187 λw a=>r0 [] [(4,.bool false)] [] (r0 [] [(4,.bool ((decide (0≤i))&&(decide (i<n))))] [4] (aq (.bool ((decide (0≤i))&&(decide (i<n)))) ab.zero ba [] [] []))
theorem od(i n:Nat)(h:i<n):aa YV 187 #[iN i,iN n] [] [] N0 (λ_=> .bool true):=by
 have a:=E9 i n;rwa [lS.2 ⟨by omega,by omega⟩] at a
theorem QB(d t f R S B M C way a:Nat)(c:ij R S B M C way a):aa YV 188 #[.agg #[i6 0,iN d,iN t,iN f],.agg #[iN R,iN S,iN B,iN M,iN C,iN way,iN a]] [] [] N0 (λ_=>i6 0):=by
 have g:=c.O;have e:=g.bd.bmc;exact fG Tryz.func188 λw h=>ra (λb=>[(2,pt (B0 b) 0),(3,pt (B1 b) 0),(4,i6 0)]) (λb=>[ob (B0 b) #[i6 0,iN d,iN t,iN f] 70,ob (B1 b) #[iN R,iN S,iN B,iN M,iN C,iN way,iN a] 25]) λb=>r0 [(1,.l 0)] [(6,i6 0)] [] (rF [] 7 (rF [] 12 (r0 [] [(4,i6 0)] [4] (lf ab.zero [] [] []))))
theorem zB(d t f R S B M C way a:Nat)(c:ij R S B M C way a):aa YV 188 #[.agg #[i6 1,iN d,iN t,iN f],.agg #[iN R,iN S,iN B,iN M,iN C,iN way,iN a]] [] [] N0 (λ_=>iN C):=by
 have g:=c.O;have e:=g.bd.bmc;exact fG Tryz.func188 λw h=>ra (λb=>[(2,pt (B0 b) 0),(3,pt (B1 b) 0),(4,i6 0)]) (λb=>[ob (B0 b) #[i6 1,iN d,iN t,iN f] 70,ob (B1 b) #[iN R,iN S,iN B,iN M,iN C,iN way,iN a] 25]) λb=>r0 [(1,.l 0)] [(6,i6 1)] [] (rT [] 7 (r0 [(2,.l 1)] [(4,iN C)] [4] (lf ab.zero [] [] [])))
theorem zC(e t h R S B M C way a:Nat)(d:ij R S B M C way a):aa YV 188 #[.agg #[i6 2,iN e,iN t,iN h],.agg #[iN R,iN S,iN B,iN M,iN C,iN way,iN a]] [] [] N0 (λ_=>iN ((B*M)*C)):=by
 have f:=d.O;have g:=f.bd.bmc;exact fG Tryz.func188 λw i=>ra (λb=>[(2,pt (B0 b) 0),(3,pt (B1 b) 0),(4,i6 0)]) (λb=>[ob (B0 b) #[i6 2,iN e,iN t,iN h] 70,ob (B1 b) #[iN R,iN S,iN B,iN M,iN C,iN way,iN a] 25]) λb=>r0 [(1,.l 0)] [(6,i6 2)] [] (rF [] 7 (rT [] 12 (r0 [(1,.l 1),(2,.c [] [] (PU R S B M C f))] [(4,iN ((B*M)*C))] [4] (lf ab.zero [] [] []))))
theorem QC(f t b R S B M C way a:Nat)(e:ij R S B M C way a):aa YV 211 #[.agg #[i6 1,iN f,iN t,iN b],.agg #[iN R,iN S,iN B,iN M,iN C,iN way,iN a]] [] [] N0 (λ_=> .bool (decide (b=C))):=by
 have h:=e.O;have g:=h.bd.bmc;exact fG Tryz.func211 λw i=>ra (λd=>[(2,pt (B0 d) 0),(3,pt (B1 d) 0),(4,.bool false)]) (λd=>[ob (B0 d) #[i6 1,iN f,iN t,iN b] 70,ob (B1 d) #[iN R,iN S,iN B,iN M,iN C,iN way,iN a] 25]) λd=>r0 [(1,.m (ld 0 (i6 1))),(5,.m (ld 0 (iN b))),(6,.m (ls 0 ([i6 1,iN f,iN t,iN b]))),(7,.m (ls 1 ([iN R,iN S,iN B,iN M,iN C,iN way,iN a]))),(8,.c [] [] (zB f t b R S B M C way a e)),] [(4,.bool ((b:Int)==(C:Int)))] [4] (aq (.bool ((b:Int)==(C:Int))) ab.zero (by exact ALca Value.bool (lV b C)) [] [] [])
theorem QD(f t b R S B M C way a:Nat)(e:ij R S B M C way a):aa YV 211 #[.agg #[i6 2,iN f,iN t,iN b],.agg #[iN R,iN S,iN B,iN M,iN C,iN way,iN a]] [] [] N0 (λ_=> .bool (decide (b=B*M*C))):=by
 have h:=e.O;have g:=h.bd.bmc;exact fG Tryz.func211 λw i=>ra (λd=>[(2,pt (B0 d) 0),(3,pt (B1 d) 0),(4,.bool false)]) (λd=>[ob (B0 d) #[i6 2,iN f,iN t,iN b] 70,ob (B1 d) #[iN R,iN S,iN B,iN M,iN C,iN way,iN a] 25]) λd=>r0 [(1,.m (ld 0 (i6 2))),(5,.m (ld 0 (iN b))),(6,.m (ls 0 ([i6 2,iN f,iN t,iN b]))),(7,.m (ls 1 ([iN R,iN S,iN B,iN M,iN C,iN way,iN a]))),(8,.c [] [] (zC f t b R S B M C way a e)),] [(4,.bool ((b:Int)==(((B*M)*C:Nat):Int)))] [4] (aq (.bool ((b:Int)==(((B*M)*C:Nat):Int))) ab.zero (by exact ALca Value.bool (lV b (B*M*C))) [] [] [])
theorem QE(g:Nat)(m:Mp)(d:bp m)(a t h:Nat)(e:oa m a t h):aa YV 222 #[.agg #[i6 1,iN a,iN t,iN h],pt g 0] [pk (aJ g m)] [0] (λ_=>[pk (aJ g m)]) (λ_=> .bool true):=by
 have b:=d.O;have p:=d.ly;have r:=d.np;have i:=b.bd.bmc;have k:=b.bd.c1;have q:=b.bd.m1;have j:=b.bd.c64;have s:=b.bd.r8;have l:=e.hf;have n:=e.ht;have o:=e.ne;exact fG Tryz.func222 λw u=>ra (λf=>[(2,pt (B0 f) 0),(4,.bool false)]) (λf=>[ob (B0 f) #[i6 1,iN a,iN t,iN h] 70]) λf=>r0 [(1,.c [0] [0] (jd g m d)),(3,.c [] [] (mD m.R m.S m.B m.M m.C b))] [(5,iN ((m.R*m.B)*m.M))] [] (r0 [(1,.m (ld 1 (iN a))),(3,.c [] [] (od a ((m.R*m.B)*m.M) Om)),(6,.m (ld 1 (iN t))),(8,.c [] [] (od t ((m.R*m.B)*m.M) Om)),(12,.m (ld 1 (iN a))),(14,.m (ld 1 (iN t))),(15,.t (tk (show Value.bool ((a:Int) != (t:Int))= .bool true from ALca Value.bool (by simp;omega)))),(20,.m (ld 1 (iN a))),(21,.c [0] [0] (aa.v ((zw g m d a Om)) λ_=>ALca Value.bool (show((m.P.getD a false))=false from(by exact e.df)))),(27,.m (ld 1 (iN t))),(28,.c [0] [0] (aa.v ((zw g m d t Om)) λ_=>ALca Value.bool (show((m.P.getD t false))=false from(by exact e.dt)))),] [(4,.bool true)] [4] (lf ab.zero [0] [] []))
theorem QF(g:Nat)(m:Mp)(e:bp m)(d t k:Nat)(h:oc m d t k):aa YV 223 #[.agg #[i6 2,iN d,iN t,iN k],pt g 0] [pk (aJ g m)] [0] (λ_=>[pk (aJ g m)]) (λ_=> .bool true):=by
 have f:=e.O;have x:=e.ly;have z:=e.np;have n:=f.bd.bmc;have p:=f.bd.c1;have y:=f.bd.m1;have o:=f.bd.c64;have A:=f.bd.r8;have q:=h.hf;have r:=h.t0;have u:=h.t1;have v:=e.rk;exact fG Tryz.func223 λw B=>ra (λi=>[(2,pt (B0 i) 0),(4,.bool false)]) (λi=>[ob (B0 i) #[i6 2,iN d,iN t,iN k] 70]) λi=>rr (λ_=>[(1,.c [0] [0] (jd g m e)),(4,.s 2)]) (λj=>[(5,pt (B3 j) 0)]) [] (λj L=>L++[ob (B3 j) #[iN m.R,iN m.S,iN m.B,iN m.M,iN m.C] 23]) λj=>r0 [(2,.l 1),(3,.c [0] [0] (E3 g m e d Om))] [(7,.bool (fm m d))] [] (r0 [(1,.m (ld 1 (iN d))),(3,.m (ld 2 (iN m.R))),(4,.c [] [] (od d m.R Om)),(11,.m (ld 1 (iN t))),(13,.m (ld 2 (iN m.R))),(14,.t (tb (a:=iN t) (b:=iN m.R) λ_ _ _ _=>lQ (a:=t) (b:=m.R) Om Om)),(16,.m (ld 2 (iN m.S))),(17,.c [] [] (od (t-m.R) m.S Om))] [(4,.bool ((!(fm m d))&&true))] [4] (aq (.bool ((!(fm m d))&&true)) ab.zero (by rw[h.hs];rfl) [0] [] []))
theorem QG(g:Nat)(m:Mp)(b:bp m):aa YV 186 #[.agg #[i6 0,i6 0,i6 0,i6 0],pt g 0] [pk (aJ g m)] [0] (λ_=>[pk (aJ g m)]) (λ_=> .bool true):=by
 have a:=b.O;have f:=b.ly;have n:=b.np;have h:=a.bd.bmc;have j:=a.bd.c1;have k:=a.bd.m1;have i:=a.bd.c64;have o:=a.bd.r8;exact fG Tryz.func186 λw p=>ra (λd=>[(2,pt (B0 d) 0),(4,.bool false)]) (λd=>[ob (B0 d) #[i6 0,i6 0,i6 0,i6 0] 70]) λd=>r0 [(1,.l 1),(2,.l 1),(4,.c [0] [0] (jd g m b)),(5,.c [] [] (QB 0 0 0 m.R m.S m.B m.M m.C m.G m.res f)),(7,.c [] [] (E9 0 1))] [(5,.bool (bQ 0 1))] [] (r0 [(1,.l 1)] [(15,i6 0)] [] (rT [] 16 (r0 [(0,.l 1),(2,.e)] [(4,.bool (0==0&&(0==0&&(0==0&&(0==0&&true)))))] [4] (aq (.bool (0==0&&(0==0&&(0==0&&(0==0&&true))))) ab.zero ba [0] [] []))))
theorem Fb(g:Nat)(m:Mp)(e:bp m)(b t a:Nat)(k:oa m b t a):aa YV 186 #[.agg #[i6 1,iN b,iN t,iN a],pt g 0] [pk (aJ g m)] [0] (λ_=>[pk (aJ g m)]) (λ_=> .bool true):=by
 have d:=e.O;have h:=e.ly;have q:=e.np;have i:=d.bd.bmc;have n:=d.bd.c1;have p:=d.bd.m1;have j:=d.bd.c64;have r:=d.bd.r8;have o:=k.nx;exact fG Tryz.func186 λw s=>ra (λf=>[(2,pt (B0 f) 0),(4,.bool false)]) (λf=>[ob (B0 f) #[i6 1,iN b,iN t,iN a] 70]) λf=>r0 [(1,.l 1),(2,.l 1),(4,.c [0] [0] (jd g m e)),(5,.c [] [] (zB b t a m.R m.S m.B m.M m.C m.G m.res h)),(6,ad m.C 1),(7,.c [] [] (od a (m.C+1) Om))] [(5,.bool true)] [] (r0 [(1,.l 1)] [(15,i6 1)] [] (rF [] 16 (rT [] 21 (r0 [(2,.l 1),(4,.c [0] [0] (QE g m e b t a k))] [(4,.bool true)] [4] (lf ab.zero [0] [] [])))))
theorem Fc(g:Nat)(m:Mp)(e:bp m)(b t a:Nat)(k:oc m b t a):aa YV 186 #[.agg #[i6 2,iN b,iN t,iN a],pt g 0] [pk (aJ g m)] [0] (λ_=>[pk (aJ g m)]) (λ_=> .bool true):=by
 have d:=e.O;have h:=e.ly;have q:=e.np;have i:=d.bd.bmc;have n:=d.bd.c1;have p:=d.bd.m1;have j:=d.bd.c64;have r:=d.bd.r8;have o:=k.nx;exact fG Tryz.func186 λw s=>ra (λf=>[(2,pt (B0 f) 0),(4,.bool false)]) (λf=>[ob (B0 f) #[i6 2,iN b,iN t,iN a] 70]) λf=>r0 [(1,.l 1),(2,.l 1),(4,.c [0] [0] (jd g m e)),(5,.c [] [] (zC b t a m.R m.S m.B m.M m.C m.G m.res h)),(6,ad ((m.B*m.M)*m.C) 1),(7,.c [] [] (od a (((m.B*m.M)*m.C)+1) Om))] [(5,.bool true)] [] (r0 [(1,.l 1)] [(15,i6 2)] [] (rF [] 16 (rF [] 21 (rT [] 29 (r0 [(2,.l 1),(4,.c [0] [0] (QF g m e b t a k))] [(4,.bool true)] [4] (lf ab.zero [0] [] []))))))
theorem QH(m:Mp)(j:bp m)(r i:Nat)(q:r<m.R+m.S)(o:i<m.B*m.M*m.C):aa YV 189 #[.agg #[iN m.R,iN m.S,iN m.B,iN m.M,iN m.C],iN r,iN i] [] [] N0 (λ_=> .tuple #[iN (kC m r i),i6 0]):=by
 have f:=j.O;have h:=f.bd.bmc;have k:=f.bd.c1;have p:=f.bd.m1;have n:=aaF i m.C;exact fG Tryz.func189 λw u=>ra (λg=>[(3,pt (B0 g) 0),(6,i6 0),(7,i6 0)]) (λg=>[ob (B0 g) #[iN m.R,iN m.S,iN m.B,iN m.M,iN m.C] 23]) λg=>rr (λ_=>[(3,.l 0),(4,.t (tb (a:=iN i) (b:=iN m.C) λ_ _ _ _=>nM (a:=i) (d:=m.C) Om)),(7,.s 1)]) (λe=>[(8,pt (B6 e) 0)]) [] (λe L=>L++[ob (B6 e) #[iN r,i6 0,i6 0,iN (i%m.C)] 46]) λe=>r0 [(2,.l 0),(3,.t (tb (a:=iN i) (b:=iN m.C) λ_ _ _ _=>oF (a:=i) (d:=m.C) Om Om))] [(2,iN (i/m.C))] [2] (rs [(2,.m (ld 0 (iN m.M))),(3,.t (tb (a:=iN (i/m.C)) (b:=iN m.M) λ_ _ _ _=>nM (a:=i/m.C) (d:=m.M) Om)),(6,.m (ld 0 (iN m.M))),(7,.t (tb (a:=iN (i/m.C)) (b:=iN m.M) λ_ _ _ _=>oF (a:=i/m.C) (d:=m.M) Om Om)),(9,.s 1),(11,.s 1)] 1 (ob (B6 e) #[iN r,iN ((i/m.C)/m.M),iN ((i/m.C)%m.M),iN (i%m.C)] 46) (r0 [(0,.l 0),(1,.l 1),(2,.c [] [] (sx f (vE j q o)))] [(6,iN (bU r ((i/m.C)/m.M) ((i/m.C)%m.M) (i%m.C))),(7,i6 0)] [6,7] (aq (.tuple #[iN (bU r ((i/m.C)/m.M) ((i/m.C)%m.M) (i%m.C)),i6 0]) ab.zero ba [] [] [])))
theorem Ff(g:Nat)(m:Mp)(d:bp m)(a t e:Nat)(q:oa m a t e)(p i:Nat)(hp:p<m.R*m.B*m.M)(y:i<m.C):aa YV 144 #[.agg #[i6 1,iN a,iN t,iN e],pt g 0,iN p,iN i] [pk (aJ g m)] [0] (λ_=>[pk (aJ g m)]) (λ_=> .tuple #[iN (bB m p*64+i),i6 0]):=by
 have f:=d.O;have j:=d.ly;have u:=d.np;have k:=f.bd.bmc;have o:=f.bd.c1;have s:=f.bd.m1;have n:=f.bd.c64;have v:=f.bd.r8;have r:=vB d hp;exact fG Tryz.func144 λw x=>ra (λh=>[(4,pt (B0 h) 0),(8,i6 0),(9,i6 0)]) (λh=>[ob (B0 h) #[i6 1,iN a,iN t,iN e] 70]) λh=>rF [(0,.m (ls 1 ([i6 1,iN a,iN t,iN e]))),(2,.c [0] [0] (Fb g m d a t e q)),(6,.m (ls 1 ([i6 1,iN a,iN t,iN e]))),(8,.c [0] [0] (jd g m d)),(9,.c [] [] (zB a t e m.R m.S m.B m.M m.C m.G m.res j)),(10,.c [] [] (od i m.C Om))] 24 (rF [(1,.l 1)] 27 (r0 [(2,.c [0] [0] (E5 g m d p Om))] [(10,iN (bB m p)),(11,i6 0)] [] (rF [] 43 (r0 [(1,.t (tv (av .shl 3 (.tmp 45) (.const (u6 6)) (iN (bB m p)) (u6 6)) (λ_=>dJ (b:=((bB m p*64:Nat):Int)) (fH 6 Dc Om Om) Om))),(3,.t (tv (av .or 3 (.tmp 46) (.tmp 47) (iN (bB m p*64)) (iN i)) (λ_=>dJ (b:=((bB m p*64+i:Nat):Int)) (rJ 6 64 rfl Om Om Om Om Om) Om)))] [(8,iN (bB m p*64+i)),(9,i6 0)] [8,9] (lf ab.zero [0] [] [])))))
theorem Fg(g:Nat)(m:Mp)(b:bp m)(a t d:Nat)(o:oc m a t d)(r i:Nat)(x:r<m.R+m.S)(v:i<m.B*m.M*m.C):aa YV 144 #[.agg #[i6 2,iN a,iN t,iN d],pt g 0,iN r,iN i] [pk (aJ g m)] [0] (λ_=>[pk (aJ g m)]) (λ_=> .tuple #[iN (kC m r i),i6 0]):=by
 have e:=b.O;have h:=b.ly;have q:=b.np;have j:=e.bd.bmc;have n:=e.bd.c1;have p:=e.bd.m1;have k:=e.bd.c64;have s:=e.bd.r8;exact fG Tryz.func144 λw u=>ra (λf=>[(4,pt (B0 f) 0),(8,i6 0),(9,i6 0)]) (λf=>[ob (B0 f) #[i6 2,iN a,iN t,iN d] 70]) λf=>rF [(0,.m (ls 1 ([i6 2,iN a,iN t,iN d]))),(2,.c [0] [0] (Fc g m b a t d o)),(6,.m (ls 1 ([i6 2,iN a,iN t,iN d]))),(8,.c [0] [0] (jd g m b)),(9,.c [] [] (zC a t d m.R m.S m.B m.M m.C m.G m.res h)),(10,.c [] [] (od i ((m.B*m.M)*m.C) Om))] 24 (rT [(1,.l 1)] 27 (r0 [(1,.c [0] [0] (jd g m b)),(5,.c [] [] (QH m b r i Om Om))] [(8,iN (kC m r i)),(9,i6 0)] [8,9] (lf ab.zero [0] [] [])))
theorem QI(g:Nat)(m:Mp)(d:bp m)(a t e:Nat)(k:oa m a t e)(i:Nat)(v:i<m.C):aa YV 119 #[.agg #[i6 1,iN a,iN t,iN e],pt g 0,iN i] [pk (aJ g m)] [0] (λ_=>[pk (aJ g m)]) (λ_=> .tuple #[iN (bB m a*64+i),i6 0]):=by
 have b:=d.O;have p:=d.ly;have r:=d.np;have h:=b.bd.bmc;have n:=b.bd.c1;have q:=b.bd.m1;have j:=b.bd.c64;have s:=b.bd.r8;have o:=k.hf;exact fG Tryz.func119 λw u=>ra (λf=>[(3,pt (B0 f) 0),(6,i6 0),(7,i6 0)]) (λf=>[ob (B0 f) #[i6 1,iN a,iN t,iN e] 70]) λf=>r0 [(0,.l 1),(3,.l 1),(5,.c [0] [0] (Ff g m d a t e k a i Om Om))] [(6,iN (bB m a*64+i)),(7,i6 0)] [6,7] (lf ab.zero [0] [] [])
theorem QJ(g:Nat)(m:Mp)(d:bp m)(a t e:Nat)(k:oc m a t e)(i:Nat)(v:i<m.B*m.M*m.C):aa YV 119 #[.agg #[i6 2,iN a,iN t,iN e],pt g 0,iN i] [pk (aJ g m)] [0] (λ_=>[pk (aJ g m)]) (λ_=> .tuple #[iN (kC m a i),i6 0]):=by
 have b:=d.O;have p:=d.ly;have r:=d.np;have h:=b.bd.bmc;have n:=b.bd.c1;have q:=b.bd.m1;have j:=b.bd.c64;have s:=b.bd.r8;have o:=k.hf;exact fG Tryz.func119 λw u=>ra (λf=>[(3,pt (B0 f) 0),(6,i6 0),(7,i6 0)]) (λf=>[ob (B0 f) #[i6 2,iN a,iN t,iN e] 70]) λf=>r0 [(0,.l 1),(3,.l 1),(5,.c [0] [0] (Fg g m d a t e k a i Om Om))] [(6,iN (kC m a i)),(7,i6 0)] [6,7] (lf ab.zero [0] [] [])
theorem Fh(g:Nat)(m:Mp)(d:bp m)(b t e:Nat)(k:oa m b t e)(i:Nat)(v:i<m.C):aa YV 120 #[.agg #[i6 1,iN b,iN t,iN e],pt g 0,iN i] [pk (aJ g m)] [0] (λ_=>[pk (aJ g m)]) (λ_=> .tuple #[iN (bB m t*64+i),i6 0]):=by
 have a:=d.O;have p:=d.ly;have r:=d.np;have h:=a.bd.bmc;have n:=a.bd.c1;have q:=a.bd.m1;have j:=a.bd.c64;have s:=a.bd.r8;have o:=k.ht;exact fG Tryz.func120 λw u=>ra (λf=>[(3,pt (B0 f) 0),(6,i6 0),(7,i6 0)]) (λf=>[ob (B0 f) #[i6 1,iN b,iN t,iN e] 70]) λf=>r0 [(0,.l 1),(3,.l 1),(5,.c [0] [0] (Ff g m d b t e k t i Om Om))] [(6,iN (bB m t*64+i)),(7,i6 0)] [6,7] (lf ab.zero [0] [] [])
theorem Fi(g:Nat)(m:Mp)(b:bp m)(d t e:Nat)(k:oc m d t e)(i:Nat)(x:i<m.B*m.M*m.C):aa YV 120 #[.agg #[i6 2,iN d,iN t,iN e],pt g 0,iN i] [pk (aJ g m)] [0] (λ_=>[pk (aJ g m)]) (λ_=> .tuple #[iN (kC m t i),i6 0]):=by
 have a:=b.O;have q:=b.ly;have s:=b.np;have h:=a.bd.bmc;have n:=a.bd.c1;have r:=a.bd.m1;have j:=a.bd.c64;have u:=a.bd.r8;have o:=k.t1;have p:=b.rk;exact fG Tryz.func120 λw v=>ra (λf=>[(3,pt (B0 f) 0),(6,i6 0),(7,i6 0)]) (λf=>[ob (B0 f) #[i6 2,iN d,iN t,iN e] 70]) λf=>r0 [(0,.l 1),(3,.l 1),(5,.c [0] [0] (Fg g m b d t e k t i Om Om))] [(6,iN (kC m t i)),(7,i6 0)] [6,7] (lf ab.zero [0] [] [])
theorem QK(m:Mp)(f:bp m)(n:Nat)(h:n<(m.R*m.B*m.M-m.res)*m.C):aa YV 221 #[.agg #[iN m.R,iN m.S,iN m.B,iN m.M,iN m.C],iN (bU (lT m (az m n)) (fP m.G m.R m.B m.M (az m n)) (fM m.G m.R m.B m.M (az m n)) (n%m.C))] [] [] N0 (λ_=>iN (je m n)):=by
 have d:=f.O;have g:=d.bd.bmc;have j:(fP m.G m.R m.B m.M (az m n)*m.M+fM m.G m.R m.B m.M (az m n))*m.C+n%m.C<m.B*m.M*m.C:=zA f h;have e:=d.bd.c1;have i:=ZQ (fP m.G m.R m.B m.M (az m n)*m.M+fM m.G m.R m.B m.M (az m n)) e;exact fG Tryz.func221 λw k=>ra (λa=>[(2,pt (B0 a) 0),(4,i6 0)]) (λa=>[ob (B0 a) #[iN m.R,iN m.S,iN m.B,iN m.M,iN m.C] 23]) λa=>rr (λ_=>[(0,.l 0),(2,.c [] [] (sy d (E8 f h))),(7,.s 1)]) (λb=>[(5,pt (B6 b) 0),(6,i6 0)]) [] (λb L=>L++[ob (B6 b) #[iN (lT m (az m n)),iN (fP m.G m.R m.B m.M (az m n)),iN (fM m.G m.R m.B m.M (az m n)),iN (n%m.C)] 46]) λb=>rF [] 14 (r0 [(1,.m (ld 1 (iN (fP m.G m.R m.B m.M (az m n))))),(3,.m (ld 0 (iN m.M))),(4,ml (fP m.G m.R m.B m.M (az m n)) m.M),(6,.m (ld 1 (iN (fM m.G m.R m.B m.M (az m n))))),(7,ad ((fP m.G m.R m.B m.M (az m n))*m.M) (fM m.G m.R m.B m.M (az m n))),(9,.m (ld 0 (iN m.C))),(10,ml (((fP m.G m.R m.B m.M (az m n))*m.M)+(fM m.G m.R m.B m.M (az m n))) m.C),(12,.m (ld 1 (iN (n%m.C)))),(13,ad ((((fP m.G m.R m.B m.M (az m n))*m.M)+(fM m.G m.R m.B m.M (az m n)))*m.C) (n%m.C))] [(4,iN (((((fP m.G m.R m.B m.M (az m n))*m.M)+(fM m.G m.R m.B m.M (az m n)))*m.C)+(n%m.C)))] [4] (aq (iN (((((fP m.G m.R m.B m.M (az m n))*m.M)+(fM m.G m.R m.B m.M (az m n)))*m.C)+(n%m.C))) ab.zero ba [] [] []))
end
section
open Go Go.RowKit Go.Shelf
theorem QL(m:Mp)(a:bp m)(n:Nat)(b:n<(m.R*m.B*m.M-m.res)*m.C):aa YV 221 #[.agg #[iN m.R,iN m.S,iN m.B,iN m.M,iN m.C],iN (eX m n)] [] [] N0 (λ_=>iN (je m n)):=by
 rw[E7];exact QK m a n b
theorem QM(g:Nat)(m:Mp)(a:bp m)(n:Nat)(t:n<(m.R*m.B*m.M-m.res)*m.C):aa YV 185 #[.agg #[i6 0,i6 0,i6 0,i6 0],pt g 0,iN n] [pk (aJ g m)] [0] (λ_=>[pk (aJ g m)]) (λ_=> .tuple #[iN (eX m n),iN (az m n),iN (aO m.G m.R m.B m.M (az m n)),i6 0]):=by
 have b:=a.O;have k:=a.ly;have p:=a.np;have h:=b.bd.bmc;have j:=b.bd.c1;have o:=b.bd.m1;have i:=b.bd.c64;have q:=b.bd.r8;exact fG Tryz.func185 λw r=>ra (λe=>[(3,pt (B0 e) 0),(6,i6 0),(7,i6 0),(8,i6 0),(9,i6 0)]) (λe=>[ob (B0 e) #[i6 0,i6 0,i6 0,i6 0] 70]) λe=>r0 [(2,.c [0] [0] (zx g m a n Om)),] [(6,iN (eX m n)),(7,iN (az m n)),(8,iN (aO m.G m.R m.B m.M (az m n))),(9,i6 0)] [6,7,8,9] (rF [(3,.l 1),(5,.c [0] [0] (QG g m a))] 27 (rr (λ_=>[(1,.c [0] [0] (jd g m a)),(4,.s 2)]) (λf=>[(10,pt (B3 f) 0)]) [] (λf L=>L++[ob (B3 f) #[iN m.R,iN m.S,iN m.B,iN m.M,iN m.C] 23]) λf=>r0 [] [(11,i6 0)] [] (rF [(1,.l 1),(4,.d),(5,.d),(6,.d),(7,.d)] 39 (rF [(1,.l 1),(4,.d),(5,.d),(6,.d),(7,.d)] 53 (r0 [] [(6,iN (eX m n)),(7,iN (az m n)),(8,iN (aO m.G m.R m.B m.M (az m n))),(9,i6 0)] [6,7,8,9] (lf ab.zero [0] [] []))))))
theorem QN(g:Nat)(m:Mp)(h:bp m)(e t f:Nat)(z:oa m e t f)(n:Nat)(I:n<(m.R*m.B*m.M-m.res)*m.C):aa YV 185 #[.agg #[i6 1,iN e,iN t,iN f],pt g 0,iN n] [pk (aJ g m)] [0] (λ_=>[pk (aJ g m)]) (λ_=> .tuple #[iN (aU m ⟨1,e,t,f⟩ n),iN (az m n),iN (aO m.G m.R m.B m.M (az m n)),i6 0]):=by
 have o:=h.O;have C:=h.ly;have F:=h.np;have x:=o.bd.bmc;have v:=o.bd.c1;have D:=o.bd.m1;have y:=o.bd.c64;have G:=o.bd.r8;have A:=Y4 n v;refine fG Tryz.func185 λw H=>ra (λp=>[(3,pt (B0 p) 0),(6,i6 0),(7,i6 0),(8,i6 0),(9,i6 0)]) (λp=>[ob (B0 p) #[i6 1,iN e,iN t,iN f] 70]) λp=>r0 [(2,.c [0] [0] (zx g m h n Om)),] [(6,iN (eX m n)),(7,iN (az m n)),(8,iN (aO m.G m.R m.B m.M (az m n))),(9,i6 0)] [6,7,8,9] (rF [(3,.l 1),(5,.c [0] [0] (Fb g m h e t f z))] 27 (rr (λ_=>[(1,.c [0] [0] (jd g m h)),(4,.s 2)]) (λq=>[(10,pt (B3 q) 0)]) [] (λq L=>L++[ob (B3 q) #[iN m.R,iN m.S,iN m.B,iN m.M,iN m.C] 23]) λq=>r0 [] [(11,i6 0)] [] (r0 [(1,.l 1),(6,.l 1)] [(39,.bool (((az m n:Nat):Int)==(e:Int)))] [] ?_)));refine cE ((az m n:Nat):Int) (e:Int) (λB r=>?_) λB r=>?_
 ·refine r0 [(2,.l 2),(3,.t (tb (a:=iN n) (b:=iN m.C) λ_ _ _ _=>nM (a:=n) (d:=m.C) Om))] [(11,iN (n%m.C))] [11] (r0 [(2,.l 1)] [(69,.bool (decide (((n%m.C:Nat):Int)<(f:Int))))] [] ?_);refine cc ((n%m.C:Nat):Int) (f:Int) (λu k=>?_) λu k=>?_
  ·exact r0 [(0,.l 1),(3,.c [0] [0] (Fh g m h e t f z (n%m.C) Om))] [(6,iN (bB m t*64+(n%m.C))),(9,i6 0)] [6,9] (r0 [] [(6,iN (bB m t*64+(n%m.C))),(7,iN (az m n)),(8,iN (aO m.G m.R m.B m.M (az m n))),(9,i6 0)] [6,7,8,9] (aq (.tuple #[iN (bB m t*64+(n%m.C)),iN (az m n),iN (aO m.G m.R m.B m.M (az m n)),i6 0]) ab.zero (by by_cases i:az m n=e<;>by_cases j:n%m.C<f<;>first | (exfalso;omega) | (simp [aU,a9,i,j])) [0] [] []))
  exact r0 [] [(6,iN (eX m n)),(7,iN (az m n)),(8,iN (aO m.G m.R m.B m.M (az m n))),(9,i6 0)] [6,7,8,9] (aq (.tuple #[iN (eX m n),iN (az m n),iN (aO m.G m.R m.B m.M (az m n)),i6 0]) ab.zero (by by_cases i:az m n=e<;>by_cases j:n%m.C<f<;>first | (exfalso;omega) | (simp [aU,a9,i,j])) [0] [] [])
 exact rF [(1,.l 1),(4,.d),(5,.d),(6,.d),(7,.d)] 53 (r0 [] [(6,iN (eX m n)),(7,iN (az m n)),(8,iN (aO m.G m.R m.B m.M (az m n))),(9,i6 0)] [6,7,8,9] (aq (.tuple #[iN (eX m n),iN (az m n),iN (aO m.G m.R m.B m.M (az m n)),i6 0]) ab.zero (by by_cases i:az m n=e<;>by_cases j:n%m.C<f<;>first | (exfalso;omega) | (simp [aU,a9,i,j])) [0] [] []))
theorem QO(g:Nat)(m:Mp)(e:bp m)(a t b:Nat)(v:oc m a t b)(n:Nat)(B:n<(m.R*m.B*m.M-m.res)*m.C):aa YV 185 #[.agg #[i6 2,iN a,iN t,iN b],pt g 0,iN n] [pk (aJ g m)] [0] (λ_=>[pk (aJ g m)]) (λ_=> .tuple #[iN (aU m ⟨2,a,t,b⟩ n),iN (az m n),iN (aO m.G m.R m.B m.M (az m n)),i6 0]):=by
 have j:=e.O;have z:=e.ly;have C:=e.np;have r:=j.bd.bmc;have y:=j.bd.c1;have A:=j.bd.m1;have u:=j.bd.c64;have F:=j.bd.r8;have D:=zA e B;refine fG Tryz.func185 λw G=>ra (λk=>[(3,pt (B0 k) 0),(6,i6 0),(7,i6 0),(8,i6 0),(9,i6 0)]) (λk=>[ob (B0 k) #[i6 2,iN a,iN t,iN b] 70]) λk=>r0 [(2,.c [0] [0] (zx g m e n Om)),] [(6,iN (eX m n)),(7,iN (az m n)),(8,iN (aO m.G m.R m.B m.M (az m n))),(9,i6 0)] [6,7,8,9] (rF [(3,.l 1),(5,.c [0] [0] (Fc g m e a t b v))] 27 (rr (λ_=>[(1,.c [0] [0] (jd g m e)),(4,.s 2)]) (λo=>[(10,pt (B3 o) 0)]) [] (λo L=>L++[ob (B3 o) #[iN m.R,iN m.S,iN m.B,iN m.M,iN m.C] 23]) λo=>r0 [] [(11,i6 0)] [] (rF [(1,.l 1),(4,.d),(5,.d),(6,.d),(7,.d)] 39 (r0 [(1,.l 1),(6,.l 1)] [(53,.bool (((aO m.G m.R m.B m.M (az m n):Nat):Int)==(a:Int)))] [] ?_))));refine cE ((aO m.G m.R m.B m.M (az m n):Nat):Int) (a:Int) (λx p=>?_) λx p=>?_
 ·refine r0 [(0,.l 2),(2,.c [] [] (QL m e n Om))] [(11,iN (je m n))] [11] (r0 [(2,.l 1)] [(69,.bool (decide (((je m n:Nat):Int)<(b:Int))))] [] ?_);refine cc ((je m n:Nat):Int) (b:Int) (λq i=>?_) λq i=>?_
  ·exact r0 [(0,.l 1),(3,.c [0] [0] (Fi g m e a t b v (je m n) Om))] [(6,iN (kC m t (je m n))),(9,i6 0)] [6,9] (r0 [] [(6,iN (kC m t (je m n))),(7,iN (az m n)),(8,iN (aO m.G m.R m.B m.M (az m n))),(9,i6 0)] [6,7,8,9] (aq (.tuple #[iN (kC m t (je m n)),iN (az m n),iN (aO m.G m.R m.B m.M (az m n)),i6 0]) ab.zero (by by_cases f:aO m.G m.R m.B m.M (az m n)=a<;>by_cases h:je m n<b<;>first | (exfalso;omega) | (simp [aU,a9,f,h])) [0] [] []))
  exact r0 [] [(6,iN (eX m n)),(7,iN (az m n)),(8,iN (aO m.G m.R m.B m.M (az m n))),(9,i6 0)] [6,7,8,9] (aq (.tuple #[iN (eX m n),iN (az m n),iN (aO m.G m.R m.B m.M (az m n)),i6 0]) ab.zero (by by_cases f:aO m.G m.R m.B m.M (az m n)=a<;>by_cases h:je m n<b<;>first | (exfalso;omega) | (simp [aU,a9,f,h])) [0] [] [])
 exact r0 [] [(6,iN (eX m n)),(7,iN (az m n)),(8,iN (aO m.G m.R m.B m.M (az m n))),(9,i6 0)] [6,7,8,9] (aq (.tuple #[iN (eX m n),iN (az m n),iN (aO m.G m.R m.B m.M (az m n)),i6 0]) ab.zero (by by_cases f:aO m.G m.R m.B m.M (az m n)=a<;>by_cases h:je m n<b<;>first | (exfalso;omega) | (simp [aU,a9,f,h])) [0] [] [])
theorem QP(g:Nat)(m:Mp)(b:bp m)(j f t k:Nat)(n:Int)(q:bQ n (((m.R*m.B*m.M-m.res)*m.C:Nat):Int)=false):aa YV 185 #[.agg #[iN j,iN f,iN t,iN k],pt g 0,i6 n] [pk (aJ g m)] [0] (λ_=>[pk (aJ g m)]) (λ_=> .tuple #[i6 0,i6 0,i6 0,i6 12]):=by
 have a:=b.O;have o:=b.ly;have r:=b.np;have h:=a.bd.bmc;have l:=a.bd.c1;have p:=a.bd.m1;have i:=a.bd.c64;have s:=a.bd.r8;exact fG Tryz.func185 λw u=>ra (λe=>[(3,pt (B0 e) 0),(6,i6 0),(7,i6 0),(8,i6 0),(9,i6 0)]) (λe=>[ob (B0 e) #[iN j,iN f,iN t,iN k] 70]) λe=>r0 [(2,.c [0] [0] (Qr g m b n q)),] [(6,i6 0),(7,i6 0),(8,i6 0),(9,i6 12)] [6,7,8,9] (rT [(3,.d),(4,.d),(5,.d),(6,.d)] 27 (r0 [] [(6,i6 0),(7,i6 0),(8,i6 0),(9,i6 12)] [6,7,8,9] (lf ab.zero [0] [] [])))
theorem QQ(g:Nat)(m:Mp)(b:bp m)(j:Jb)(f:sG m j)(n:Nat)(c:n<(m.R*m.B*m.M-m.res)*m.C):aa YV 185 #[.agg #[iN j.A,iN j.fr,iN j.tg,iN j.nx],pt g 0,iN n] [pk (aJ g m)] [0] (λ_=>[pk (aJ g m)]) (λ_=> .tuple #[iN (aU m j n),iN (az m n),iN (aO m.G m.R m.B m.M (az m n)),i6 0]):=by
 obtain⟨i,d,t,e⟩:=j;rcases f.k with h | ⟨a,h⟩ | ⟨a,h⟩
 ·cases h;exact QM g m b n c
 ·cases a;exact QN g m b d t e h n c
 ·cases a;exact QO g m b d t e h n c
def lX(m:Mp)(j:Jb):Bool:=decide (j.A≠0)&&decide (j.nx=gD j.A m.B m.M m.C)
theorem Fj(m:Mp)(d:bp m)(b a t c:Nat)(e:b=1∨b=2):aa YV 211 #[.agg #[iN b,iN a,iN t,iN c],.agg #[iN m.R,iN m.S,iN m.B,iN m.M,iN m.C,iN m.G,iN m.res]] [] [] N0 (λ_=> .bool (lX m ⟨b,a,t,c⟩)):=by
 rcases e with rfl | rfl
 ·exact QC a t c m.R m.S m.B m.M m.C m.G m.res d.ly
 ·exact QD a t c m.R m.S m.B m.M m.C m.G m.res d.ly
theorem QR(g:Nat)(m:Mp)(d:bp m)(j:Jb)(f:sG m j)(i:Nat)(a:i<gD j.A m.B m.M m.C):aa YV 119 #[.agg #[iN j.A,iN j.fr,iN j.tg,iN j.nx],pt g 0,iN i] [pk (aJ g m)] [0] (λ_=>[pk (aJ g m)]) (λ_=> .tuple #[iN (a9 m j.A j.fr i),i6 0]):=by
 obtain⟨k,c,t,e⟩:=j;rcases f.k with h | ⟨b,h⟩ | ⟨b,h⟩
 ·cases h;exact absurd a (ZV i)
 ·cases b;exact QI g m d c t e h i a
 ·cases b;exact QJ g m d c t e h i a
theorem QS(g:Nat)(m:Mp)(d:bp m)(j:Jb)(f:sG m j)(i:Nat)(a:i<gD j.A m.B m.M m.C):aa YV 120 #[.agg #[iN j.A,iN j.fr,iN j.tg,iN j.nx],pt g 0,iN i] [pk (aJ g m)] [0] (λ_=>[pk (aJ g m)]) (λ_=> .tuple #[iN (a9 m j.A j.tg i),i6 0]):=by
 obtain⟨k,c,t,e⟩:=j;rcases f.k with h | ⟨b,h⟩ | ⟨b,h⟩
 ·cases h;exact absurd a (ZV i)
 ·cases b;exact Fh g m d c t e h i a
 ·cases b;exact Fi g m d c t e h i a
end
section
open Go Go.RowKit Go.Shelf
structure Ak where
 k:Nat
 w:Nat
deriving DecidableEq
def aK:Ak:=⟨0,0⟩
def sH(x:Ak):List Value:=[iN x.k,iN x.w]
def mG:Kd YV Ak:=⟨sH,[i6 0,i6 0],351,285,aK,2,λ_=>rfl,rfl,λ_=>rfl,dT.mk' Kr Kr rfl⟩
abbrev fa(v:Value)(xs:List Ak):aC:= .p (ar sH ([i6 0,i6 0]) 285 v xs)
def mH(arr:List Ak)(a i:Nat):Ak:=arr.getD ((a+i)%arr.length) aK
def o5(arr:List Ak)(a n:Nat)(x:Ak):Bool:=(YW n).any λj=>decide (mH arr a j=x)
theorem Fk{arr:List Ak}{a n:Nat}{x:Ak}{j:Nat}(b:j<n)(e:mH arr a j=x):o5 arr a n x=true:=List.any_eq_true.2 ⟨j,List.mem_range.2 b,c0 e⟩
theorem Fl{arr:List Ak}{a n:Nat}{x:Ak}(h: ∀j,j<n→mH arr a j≠x):o5 arr a n x=false:=List.any_eq_false.2 λj b=>by simpa using h j (List.mem_range.1 b)
theorem QT{x y:Ak}(h:((((x.k:Nat):Int)==((y.k:Nat):Int))&&((((x.w:Nat):Int)==((y.w:Nat):Int))&&true))=true):y=x:=by
 rw[aaG,lV,lV,Y3,decide_eq_true_eq,decide_eq_true_eq] at h;obtain⟨a,b⟩:=x;obtain⟨c,d⟩:=y;simp only at h;rw[h.1,h.2]
theorem QU{x y:Ak}(h:((((x.k:Nat):Int)==((y.k:Nat):Int))&&((((x.w:Nat):Int)==((y.w:Nat):Int))&&true))=false):y≠x:=by
 intro e;subst e;rw[aaG,lV,lV,c0 rfl,c0 rfl] at h;cases h
theorem zE{P:Nat→Prop}{k:Nat}(h: ∀j,j<k→P j)(h1:P k): ∀j,j<k+1→P j:=λj c=>by
 rcases Nat.lt_succ_iff_lt_or_eq.1 c with b | rfl
 ·exact h j b
 ·exact h1
structure jf (arr:List Ak) (a:Nat) (q:List Ak):Prop where
 l:arr.length=256
 lt:a<256
 n:q.length≤256
 q: ∀i,i<q.length→mH arr a i=q.getD i aK
abbrev bH(g:Nat)(q:List Ak)(L:ah):Prop:=∃(v:Value) (arr:List Ak) (a:Nat) (b:jf arr a q),L=[ob g #[v,iN a,iN q.length] 353,fa v arr]
def qh(q:List Ak)(x:Ak):List Ak:=if x∈q then q else if q.length=256 then q else q++[x]
def vF(q:List Ak)(x:Ak):Int:=if x∈q then 15 else if q.length=256 then 14 else 0
section
variable {arr:List Ak} {a:Nat} {q:List Ak}
theorem jf.has(h:jf arr a q)(x:Ak):o5 arr a q.length x=decide (x∈q):=by
 by_cases c:x∈q
 ·obtain⟨j,b,e⟩:=aat c;rw[c0 c];refine Fk b ?_;rw[h.q j b,YU,YX b];exact e
 ·rw[bj c];refine Fl λj b e=>c ?_;rw[h.q j b,YU,YX b] at e;exact e▸List.getElem_mem b
theorem jf.push(h:jf arr a q)(x:Ak)(f:q.length<256):jf (arr.set ((a+q.length)%arr.length) x) a (q++[x]):=by
 have c:=h.l;have d:=h.lt;refine⟨by rw[Ze];exact h.l,h.lt,by rw[YZ];show q.length+1≤256;omega,λi b=>?_⟩;rw[YZ] at b;have b:i<q.length+1:=b;unfold mH;rw[Ze,YU,Zo];by_cases e:i=q.length
 ·subst e;rw[ALifp rfl,ALifp (Y4 _ Om),YU,Y9 (Zj _)];simp
 ·rw[ALifn (by rw[c];omega),YU,Y2 Om];have:=h.q i Om;unfold mH at this;rwa [YU,YU] at this
theorem jf.pop(h:jf arr a q)(f:0<q.length):jf (arr.set a aK) ((a+1)%(arr.set a aK).length) q.tail:=by
 have b:=h.l;have e:=h.lt;rw[Ze];refine⟨by rw[Ze];exact h.l,by rw[b];exact Y4 _ Dc,by rw[ZG];have:=h.n;omega,λi c=>?_⟩;rw[ZG] at c;have:=h.q (i+1) Om;have d:=h.n;unfold mH at this⊢;rw[Ze,YU,Zo,ALifn (by rw[b];omega)];rw[YU] at this;rw[show((a+1)%arr.length+i)%arr.length=(a+(i+1))%arr.length by rw[b];omega,this,YU,YU,List.getElem?_tail]
theorem jf.first(h:jf arr a q)(b:0<q.length):mH arr a 0=q.headD aK:=by
 rw[h.q 0 b];cases q with
 | nil=>cases b
 | cons x q=>rfl
end
def lY(q:List Ak):Int:=if q.length=0 then 13 else 0
theorem QV:jf (YY 256 aK) 0 []:=⟨by rw[Zf],by decide,by decide,λi b=>absurd b (ZV i)⟩
end
section
open Go Go.RowKit Go.Shelf
theorem vG(g:Nat)(v:Value)(c:List Ak)(a n i:Nat)(l:c.length=256)(j:a<256)(k:i≤256):aa YV 283 #[pt g 0,iN i] [ob g #[v,iN a,iN n] 353,.p (aP sH v c)] [] N0 (λ_=>iN ((a+i)%c.length)):=by
 exact fO Tryz.func283 1 rfl λf e=>fG Tryz.func283 λw h=>r0 [] [(4,i6 0)] [] (r0 [(3,.m (ld 0 (iN a))),(5,ad a i),(9,.m (ld 0 (v))),(10,eD e.1 1),(11,.t (tb (a:=iN (a+i)) (b:=iN c.length) λ_ _ _ _=>nM (a:=a+i) (d:=c.length) Om))] [(4,iN ((a+i)%c.length))] [4] (lf ab.zero [] [(0,0),(1,1)] []))
theorem QW(g:Nat):aa YV 282 #[pt g 0] [] [] (λE=>[ob (E.y 0) #[pt g 0] 131]) (λE=> .func (.func 287) #[] #[pt ((E.y 0)) 0]):=by
 exact fG Tryz.func282 λw b=>ra (λa=>[(1,pt (B0 a) 0),(2,.nilFunc)]) (λa=>[ob (B0 a) #[pt g 0] 131]) λa=>r0 [] [(2,.func (.func 287) #[] #[pt (B0 a) 0])] [2] (lf (.l [(a 0).y 0] [] []) [0] [] [])
theorem QX(b g:Nat)(v:Value)(d:List Ak)(a n:Nat)(bs:aA)(j:aP sH v d bs)(u:d.length=256)(H:a<256)(I:n≤256):e4 5 YV 287 #[pt b 0] (λ(x:Nat×Ak)=>#[i6 (x.1:Int),.agg #[i6 (x.2.k:Int),i6 (x.2.w:Int)]]) ((YW n).map λk=>(k,d.getD ((a+k)%d.length) aK)) (List.flatten [[(b,.cells #[pt g 0] 131 (0,0))],[(g,.cells #[v,iN a,iN n] 353 (0,0))],bs]):=by
 refine gi (KO:=[[(b,.cells #[pt g 0] 131 (0,0))],[(g,.cells #[v,iN a,iN n] 353 (0,0))],bs]) Tryz.func287 (λz B A G D m s r=>?_);refine r0 [(0,.l 0),(3,.l 1)] [(7,iN n),(8,i6 0)] [] ?_;refine jW (λk=>k≤n) (λk=>[(8,iN k)]) (λ_ L=>L) (λk=>n-k) (λk=>k) 0 Om r Kr Kr (λk C F t f=>?_);have y:(a+k)%d.length<d.length:=Y4 _ Om;refine r0 [] [(9,.bool (decide ((k:Int)<(n:Int))))] [] ?_;refine cc (k:Int) (n:Int) (λq i=>?_) λq i=>?_
 ·refine r0 [] [(3,iN k)] [] ?_;refine iy m s f 11 (λ_=>[(2,.l 0),(5,.l 1),(6,.l 0),(8,.c [1,2] [] (aa.at (rd':=[ob g #[v,iN a,iN n] 353,.c bs]) (vG g v d a n k (by(simp only[LL,u];done)) Om Om) (atS (ei j (λ_ h=>h))))),(9,fh j.1 2 ((a+k)%d.length) 2),(10,m7 mG j.1 2 ((a+k)%d.length) 0 2)]) (λ_=>[(11,.func (.yield z) #[] #[]),(12,iN k),(21,.agg #[iN ((d.getD ((a+k)%d.length) aK).k),iN ((d.getD ((a+k)%d.length) aK).w)])]) [] (λ_ L=>L) N0 [0,1,2] (nI Om) (λJ o p e=>?_);refine cF _ rfl (r0 [(0,ad k 1)] [(8,iN (k+1))] [8] ?_);exact iG (k+1) Om e Om Kr [0,1,2] Kr
 obtain rfl:n=k:=by omega
 refine jX ?_;exact kV m f (by rw[Y1,Zc]) [] [0,1,2]
theorem zF(g:Nat)(v:Value)(b:List Ak)(a n:Nat)(x:Ak)(G:b.length=256)(N:a<256)(A:n≤256):aa YV 267 #[pt g 0,.agg #[iN x.k,iN x.w]] [ob g #[v,iN a,iN n] 353,.p (aP sH v b)] [] N0 (λ_=> .bool (o5 b a n x)):=by
 refine fO Tryz.func267 1 rfl λi t=>fG Tryz.func267 λw M=>ra (λd=>[(3,pt (B0 d) 0),(4,pt (B1 d) 0)]) (λd=>[ob (B0 d) #[iN x.k,iN x.w] 285,ob (B1 d) #[.bool false] 4]) λd=>rr (λ_=>[(1,.c [] [4] (QW g))]) (λf=>[(8,.func (.func 287) #[] #[pt ((B1 f)) 0])]) [] (λf L=>L++[ob (B1 f) #[pt g 0] 131]) λf=>?_;refine Cs (encs:=λ(x:Nat×Ak)=>#[i6 (x.1:Int),.agg #[i6 (x.2.k:Int),i6 (x.2.w:Int)]]) (xs:=(YW n).map λk=>(k,b.getD ((a+k)%b.length) aK)) (KO:=[[((B1 f),.cells #[pt g 0] 131 (0,0))],[(g,.cells #[v,iN a,iN n] 353 (0,0))],i]) (QX (B1 f) g v b a n i t (by(simp only[LL,G];done)) Om Om) (enters_of Tryz.func287 Kr rfl) (λk=>k≤n∧(∀j,j<k→mH b a j≠x)) (λ_ L=>L) (λc k=>(c=Code.ret∧(∃j,j+1=k∧mH b a j=x))) (λ_ _ L=>L.set 3 (ob (B1 d) #[.bool true] 4)) [4,0,1] ⟨by omega,(λ_ h=>absurd h (ZV _))⟩ Kr (λP k R H J y ⟨m,o⟩=>?_) (λB ⟨m,o⟩=>?_) λB c k F D=>?_
 ·obtain⟨z,rfl⟩:=mi y;refine rr (λ_=>[(1,.s 5)]) (λq=>[(6,pt (B0 q) 0)]) [] (λq L=>L++[ob (B0 q) #[iN ((b.getD ((a+k)%b.length) aK).k),iN ((b.getD ((a+k)%b.length) aK).w)] 285]) λq=>?_;refine ag [4,0,1] (λI K=>?_);refine r0 [(0,.l 2),(1,.l 5),(2,.e)] [(13,.bool ((x.k:Int)==(((b.getD ((a+k)%b.length) aK).k:Nat):Int)&&((x.w:Int)==(((b.getD ((a+k)%b.length) aK).w:Nat):Int)&&true)))] [] ?_;refine cB (((x.k:Int)==(((b.getD ((a+k)%b.length) aK).k:Nat):Int)&&((x.w:Int)==(((b.getD ((a+k)%b.length) aK).w:Nat):Int)&&true))) (λC=>?_) λC=>?_
  ·refine rr (λ_=>[(0,.s 3)]) N0 [] (λ_ L=>L.set 3 (ob (B1 d) #[.bool true] 4)) λQ=>?_;exact nr _ ⟨⟨rfl,⟨_,rfl,QT As⟩⟩,rfl⟩ [0,1,2,3,4] Kr
  exact ne _ ⟨⟨by omega,zE o (QU As)⟩,rfl⟩ [0,1,2,3,4] Kr
 ·simp only[Y1,Zc] at m;exact r0 [(0,.s 3)] [] [] (aq (.bool false) ab.zero (by(simp only[Y1,Zc] at o;rw[Fl o])) [] [(0,0),(1,1)] [3])
 obtain⟨rfl,u⟩:=D;exact aq (.bool true) ab.zero (by(obtain⟨j,O,A⟩:=u;have r:=F;simp only[Y1,Zc] at r;rw[Fk (j:=j) Om A])) [] [(0,0),(1,1)] [3]
theorem QY(g:Nat)(v:Value)(b:List Ak)(a:Nat)(q:List Ak)(e:jf b a q)(x:Ak)(o:q.length<256):aa YV 268 #[pt g 0,.agg #[iN x.k,iN x.w]] [ob g #[v,iN a,iN q.length] 353,fa v b] [0,1] (λ_=>[ob g #[v,iN a,iN (q.length+1)] 353,fa v (b.set ((a+q.length)%b.length) x)]) (λ_=>i6 0):=by
 have f:=e.l;have k:=e.lt;have n:=e.n;have i:(a+q.length)%b.length<b.length:=Y4 _ Om;exact fG Tryz.func268 λw j=>ra (λd=>[(3,pt (B0 d) 0),(4,i6 0)]) (λd=>[ob (B0 d) #[iN x.k,iN x.w] 285]) λd=>rF [(3,.l 0),(7,.l 0),(8,eS mG v b 1),(9,.t (tk (show Value.bool ((q.length:Int)==(b.length:Int))= .bool false from ALca Value.bool (by rw[dz];omega))))] 14 (rs [(3,.m (ld 0 (v))),(8,.m (ld 0 (iN q.length))),(9,.c [0,1] [] (aa.at (rd':=[ob g #[v,iN a,iN q.length] 353,fa v b]) (vG g v b a q.length q.length (by(simp only[LL,f];done)) Om Om) (atS (bP (λ_ h=>ar.sq h) (λ_ h=>h))))),(10,.m (ls 2 ([iN x.k,iN x.w]))),(11,cy mG v b 1 ((a+q.length)%b.length)),(12,rz mG v b 1 ((a+q.length)%b.length) x)] 1 (fa v (b.set ((a+q.length)%b.length) x)) (rs [(3,.l 0),(4,ad q.length 1),(7,.s 0)] 0 (ob g #[v,iN a,iN (q.length+1)] 353) (r0 [] [(4,i6 0)] [4] (lf ab.zero [0,1] [] []))))
theorem QZ(g:Nat)(v:Value)(b:List Ak)(a:Nat)(q:List Ak)(d:jf b a q)(x:Ak)(f:q.length=256):aa YV 268 #[pt g 0,.agg #[iN x.k,iN x.w]] [ob g #[v,iN a,iN q.length] 353,fa v b] [1] (λ_=>[fa v b]) (λ_=>i6 14):=by
 have e:=d.l;have i:=d.lt;have j:=d.n;exact fG Tryz.func268 λw h=>ra (λc=>[(3,pt (B0 c) 0),(4,i6 0)]) (λc=>[ob (B0 c) #[iN x.k,iN x.w] 285]) λc=>rT [(3,.l 0),(7,.l 0),(8,eS mG v b 1),(9,.t (tk (show Value.bool ((q.length:Int)==(b.length:Int))= .bool true from ALca Value.bool (by rw[e,f];rfl))))] 14 (r0 [] [(4,i6 14)] [4] (lf ab.zero [1] [(0,0)] []))
theorem Q2(g:Nat)(q:List Ak)(x:Ak)(j:x∈q):aa YV 242 #[pt g 0,.agg #[iN x.k,iN x.w]] [pk (bH g q)] [0] (λ_=>[pk (bH g q)]) (λ_=>i6 15):=aa.pkZ Tryz.func242 λL f=>by
 obtain⟨v,b,a,d,rfl⟩:=f;refine⟨[1],λ_=>[fa v b],?_,rfl,λE=>⟨rfl,rfl,⟨_,_,_,d,rfl⟩⟩⟩;have i:=d.l;have m:=d.lt;have n:=d.n;exact fG Tryz.func242 λw k=>ra (λe=>[(3,pt (B0 e) 0),(4,i6 0)]) (λe=>[ob (B0 e) #[iN x.k,iN x.w] 285]) λe=>rT [(1,.l 2),(2,.c [0,1] [] (aa.v ((aa.at (rd':=[ob g #[v,iN a,iN q.length] 353,fa v b]) (zF g v b a q.length x (by(simp only[LL,i];done)) Om Om) (atS (bP (λ_ h=>ar.sq h) (λ_ h=>h))))) λ_=>ALca Value.bool (show(o5 b a q.length x)=true from(by rw[d.has,c0 j]))))] 7 (r0 [] [(4,i6 15)] [4] (lf ab.zero [1] [(0,0)] []))
theorem Q3(g:Nat)(q:List Ak)(x:Ak)(k:x∉q)(i:q.length=256):aa YV 242 #[pt g 0,.agg #[iN x.k,iN x.w]] [pk (bH g q)] [0] (λ_=>[pk (bH g q)]) (λ_=>i6 14):=aa.pkZ Tryz.func242 λL j=>by
 obtain⟨v,b,a,d,rfl⟩:=j;refine⟨[1],λ_=>[fa v b],?_,rfl,λE=>⟨rfl,rfl,⟨_,_,_,d,rfl⟩⟩⟩;have f:=d.l;have n:=d.lt;have o:=d.n;exact fG Tryz.func242 λw m=>ra (λe=>[(3,pt (B0 e) 0),(4,i6 0)]) (λe=>[ob (B0 e) #[iN x.k,iN x.w] 285]) λe=>rF [(1,.l 2),(2,.c [0,1] [] (aa.v ((aa.at (rd':=[ob g #[v,iN a,iN q.length] 353,fa v b]) (zF g v b a q.length x (by(simp only[LL,f,i];done)) Om Om) (atS (bP (λ_ h=>ar.sq h) (λ_ h=>h))))) λ_=>ALca Value.bool (show(o5 b a q.length x)=false from(by rw[d.has,bj k]))))] 7 (r0 [(1,.l 2),(2,.c [0,1] [1] (QZ g v b a q d x (by(simp only[LL,f,i];done))))] [(4,i6 14)] [4] (lf ab.zero [1] [(0,0)] []))
theorem Q4(g:Nat)(q:List Ak)(x:Ak)(k:x∉q)(j:q.length<256):aa YV 242 #[pt g 0,.agg #[iN x.k,iN x.w]] [pk (bH g q)] [0] (λ_=>[pk (bH g (q++[x]))]) (λ_=>i6 0):=aa.pkZ Tryz.func242 λL f=>by
 obtain⟨v,b,a,d,rfl⟩:=f;refine⟨[0,1],λ_=>[ob g #[v,iN a,iN (q.length+1)] 353,fa v (b.set ((a+q.length)%b.length) x)],?_,rfl,λE=>⟨rfl,rfl,⟨_,_,_,d.push x j,ALca (λn:Nat=>[ob g #[v,iN a,iN n] _,_]) (show q.length+1=(q++[x]).length by rw[YZ];rfl)⟩⟩⟩;have i:=d.l;have o:=d.lt;have p:=d.n;exact fG Tryz.func242 λw m=>ra (λe=>[(3,pt (B0 e) 0),(4,i6 0)]) (λe=>[ob (B0 e) #[iN x.k,iN x.w] 285]) λe=>rF [(1,.l 2),(2,.c [0,1] [] (aa.v ((aa.at (rd':=[ob g #[v,iN a,iN q.length] 353,fa v b]) (zF g v b a q.length x (by(simp only[LL,i];done)) Om Om) (atS (bP (λ_ h=>ar.sq h) (λ_ h=>h))))) λ_=>ALca Value.bool (show(o5 b a q.length x)=false from(by rw[d.has,bj k]))))] 7 (rr (λ_=>[(1,.l 2),(2,.c [0,1] [0,1] (QY g v b a q d x Om))]) (λ_=>[(4,i6 0)]) [4] (λ_ L=>(L.set 0 (ob g #[v,iN a,iN (q.length+1)] 353)).set 1 (fa v (b.set ((a+q.length)%b.length) x))) λr=>lf ab.zero [0,1] [] [])
theorem Q5(g:Nat)(v:Value)(d:List Ak)(a:Nat)(q:List Ak)(j:jf d a q)(z:0<q.length):aa YV 269 #[pt g 0,i6 0] [ob g #[v,iN a,iN q.length] 353,fa v d] [0,1] (λ_=>[ob g #[v,iN ((a+1)%(d.set a (⟨0,0⟩:Ak)).length),iN (q.length-1)] 353,fa v (d.set a (⟨0,0⟩:Ak))]) (λ_=> .tuple #[.agg #[iN ((d.getD ((a+0)%d.length) aK).k),iN ((d.getD ((a+0)%d.length) aK).w)],i6 0]):=by
 have m:=j.l;have x:=j.lt;have y:=j.n;have p:(a+0)%d.length<d.length:=Y4 _ Om;refine fG Tryz.func269 λw u=>ra (λe=>[(4,pt (B0 e) 0),(5,i6 0)]) (λe=>[ob (B0 e) #[i6 0,i6 0] 285]) λe=>ra (λf=>[(6,pt (B0 f) 0)]) (λf=>[ob (B0 f) #[i6 0,i6 0] 285]) λf=>r0 [(7,.l 0)] [(18,.bool (decide ((q.length:Int)≤0)))] [] ?_;have n:(decide ((q.length:Int)≤0))=false:=by exact bj Om
 refine cF (decide ((q.length:Int)≤0)) n (rr (λ_=>[(3,.l 0),(6,.c [0,1] [] (aa.at (rd':=[ob g #[v,iN a,iN q.length] 353,fa v d]) (vG g v d a q.length 0 (by(simp only[LL,m];done)) Om Om) (atS (bP (λ_ h=>ar.sq h) (λ_ h=>h))))),(7,cy mG v d 1 ((a+0)%d.length)),(8,pO mG v d 1 ((a+0)%d.length) 0 2),(10,.s 4)]) (λi=>[(7,pt ((i 9).y 0) 0)]) [] (λi L=>L++[ob ((i 9).y 0) #[iN ((d.getD ((a+0)%d.length) aK).k),iN ((d.getD ((a+0)%d.length) aK).w)] 285]) λi=>r0 [] [(8,i6 0)] [] ?_);refine lq (λk=>k≤0) (λ_=>[(8,i6 0)]) (λ_ L=>L) (λk=>0-k) 0 Om Kr Kr (λk o=>?_);exact rF [] 31 (lx (rs [(3,.l 0),(7,.l 0),(8,.l 3),(9,cy mG v d 1 a),(10,rz mG v d 1 a (⟨0,0⟩:Ak))] 1 (fa v (d.set a (⟨0,0⟩:Ak))) (rs [(2,.c [0,1] [] (aa.at (rd':=[ob g #[v,iN a,iN q.length] 353,fa v (d.set a (⟨0,0⟩:Ak))]) (vG g v (d.set a (⟨0,0⟩:Ak)) a q.length 1 (by(simp only[LL,m];done)) Om Om) (atS (bP (λ_ h=>ar.sq h) (λ_ h=>h))))),(5,.s 0)] 0 (ob g #[v,iN ((a+1)%(d.set a (⟨0,0⟩:Ak)).length),iN q.length] 353) (rs [(3,.l 0),(4,.t (tb (a:=iN q.length) (b:=i6 1) λ_ _ _ _=>lQ (a:=q.length) (b:=1) Om Om)),(7,.s 0)] 0 (ob g #[v,iN ((a+1)%(d.set a (⟨0,0⟩:Ak)).length),iN (q.length-1)] 353) (rr (λ_=>[(0,.l 4),(1,.s 2)]) (λ_=>[(5,i6 0)]) [5] (λ_ L=>L.set 2 (ob (B0 e) #[iN ((d.getD ((a+0)%d.length) aK).k),iN ((d.getD ((a+0)%d.length) aK).w)] 285)) λr=>lf ab.zero [0,1] [] [2])))))
theorem Q6(g:Nat)(q:List Ak)(f:0<q.length):aa YV 247 #[pt g 0] [pk (bH g q)] [0] (λ_=>[pk (bH g q.tail)]) (λ_=> .tuple #[.agg #[iN ((q.headD aK).k),iN ((q.headD aK).w)],i6 0]):=aa.pkZ Tryz.func247 λL h=>by
 obtain⟨v,b,a,d,rfl⟩:=h;refine⟨[0,1],λ_=>[ob g #[v,iN ((a+1)%(b.set a (⟨0,0⟩:Ak)).length),iN (q.length-1)] 353,fa v (b.set a (⟨0,0⟩:Ak))],?_,rfl,λE=>⟨rfl,rfl,⟨_,_,_,d.pop f,ALca (λn:Nat=>[ob g #[v,iN ((a+1)%(b.set a (⟨0,0⟩:Ak)).length),iN n] _,_]) (show q.length-1=q.tail.length by rw[ZG])⟩⟩⟩;have l:=d.l;have j:=d.lt;have m:=d.n;exact fG Tryz.func247 λw i=>ra (λe=>[(2,pt (B0 e) 0),(3,i6 0)]) (λe=>[ob (B0 e) #[i6 0,i6 0] 285]) λe=>rr (λ_=>[(1,.c [0,1] [0,1] (Q5 g v b a q d Om)),(4,.s 2)]) (λ_=>[(3,i6 0)]) [3] (λ_ L=>((L.set 0 (ob g #[v,iN ((a+1)%(b.set a (⟨0,0⟩:Ak)).length),iN (q.length-1)] 353)).set 1 (fa v (b.set a (⟨0,0⟩:Ak)))).set 2 (ob (B0 e) #[iN ((b.getD ((a+0)%b.length) aK).k),iN ((b.getD ((a+0)%b.length) aK).w)] 285)) λo=>aq (.tuple #[.agg #[iN ((b.getD ((a+0)%b.length) aK).k),iN ((b.getD ((a+0)%b.length) aK).w)],i6 0]) ab.zero (by rw[←d.first f];rfl) [0,1] [] [2]
theorem Q7(g:Nat)(v:Value)(b:List Ak)(a:Nat)(q:List Ak)(e:jf b a q)(m:q.length=0):aa YV 269 #[pt g 0,i6 0] [ob g #[v,iN a,iN q.length] 353,fa v b] [1] (λ_=>[fa v b]) (λ_=> .tuple #[.agg #[i6 0,i6 0],i6 13]):=by
 have j:=e.l;have i:=e.lt;have k:=e.n;refine fG Tryz.func269 λw h=>ra (λc=>[(4,pt (B0 c) 0),(5,i6 0)]) (λc=>[ob (B0 c) #[i6 0,i6 0] 285]) λc=>ra (λd=>[(6,pt (B0 d) 0)]) (λd=>[ob (B0 d) #[i6 0,i6 0] 285]) λd=>r0 [(7,.l 0)] [(18,.bool (decide ((q.length:Int)≤0)))] [] ?_;have f:(decide ((q.length:Int)≤0))=true:=by exact c0 Om
 exact cT (decide ((q.length:Int)≤0)) f (r0 [(0,.l 3),(1,.s 2)] [(5,i6 13)] [5] (lf ab.zero [1] [(0,0)] [2]))
theorem Q8(g:Nat)(q:List Ak)(i:q.length=0):aa YV 247 #[pt g 0] [pk (bH g q)] [0] (λ_=>[pk (bH g q)]) (λ_=> .tuple #[.agg #[i6 0,i6 0],i6 13]):=aa.pkZ Tryz.func247 λL f=>by
 obtain⟨v,b,a,d,rfl⟩:=f;refine⟨[1],λ_=>[fa v b],?_,rfl,λE=>⟨rfl,rfl,⟨_,_,_,d,rfl⟩⟩⟩;have h:=d.l;have k:=d.lt;have l:=d.n;exact fG Tryz.func247 λw j=>ra (λe=>[(2,pt (B0 e) 0),(3,i6 0)]) (λe=>[ob (B0 e) #[i6 0,i6 0] 285]) λe=>r0 [(1,.c [0,1] [1] (Q7 g v b a q d (by(simp only[LL,h,i];done)))),(4,.s 2)] [(3,i6 13)] [3] (lf ab.zero [1] [(0,0)] [2])
theorem Fm(g:Nat)(q:List Ak):aa YV 247 #[pt g 0] [pk (bH g q)] [0] (λ_=>[pk (bH g q.tail)]) (λ_=> .tuple #[.agg #[i6 ((q.headD aK).k:Int),i6 ((q.headD aK).w:Int)],i6 (lY q)]):=by
 cases q with
 | nil=>exact Q8 g [] rfl
 | cons x q=>exact Q6 g (x::q) (Nat.succ_pos _)
theorem Q9:aa YV 176 #[i6 256] [] [] (λE=>[ob (E.y 0) #[(E.val 0),i6 0,i6 0] 353,fa (E.val 0) (YY 256 aK)]) (λE=> .tuple #[pt ((E.y 0)) 0,i6 0]):=by
 exact fG Tryz.func176 λw b=>r0 [] [(2,.pointer none),(3,i6 0)] [] (rF [] 9 (rr (λ_=>[(1,rK mG 0 256)]) (λa=>[(2,pt (B3 a) 0),(3,i6 0)]) [2,3] (λa L=>L++[fa (.slice (some ⟨(a 1).y 0,0,none⟩) 256 256) (YY 256 aK),ob (B3 a) #[.slice (some ⟨(a 1).y 0,0,none⟩) 256 256,i6 0,i6 0] 353]) λa=>lf (.l [(a 3).y 0] [] [.slice (some ⟨(a 1).y 0,0,none⟩) 256 256]) [1,0] [] []))
theorem Ra:aa YV 176 #[i6 256] [] [] (λE=>[pk (bH (E.y 0) [])]) (λE=> .tuple #[pt ((E.y 0)) 0,i6 0]):=(Q9).outs λE b a=>sr ⟨_,_,_,QV,rfl⟩ a
end
section
open Go Go.RowKit Go.Shelf
structure Ev where
 k:Nat
 f:Nat
 t:Nat
deriving DecidableEq
def cG:Ev:=⟨0,0,0⟩
def zG(x:Ev):List Value:=[iN x.k,iN x.f,iN x.t]
def jg:Kd YV Ev:=⟨zG,[i6 0,i6 0,i6 0],271,349,cG,3,λ_=>rfl,rfl,λ_=>rfl,dT.mk' Kr Kr rfl⟩
abbrev bc(v:Value)(xs:List Ev):aC:= .p (ar zG ([i6 0,i6 0,i6 0]) 349 v xs)
structure Rp where
 m:Mp
 j:Jb
 q:List Ak
structure ew (m:Mp) (a:Ak):Prop where
 k:(a.k=1∧a.w<m.R*m.B*m.M)∨(a.k=2∧a.w<m.R)
structure Rb (m:Mp):Prop where
 P: ∀x,m.R*m.B*m.M-m.res+m.Q≤x→m.P.getD x false=false
structure Yo (r:Rp):Prop where
 m:bp r.m
 j:sG r.m r.j
 q: ∀a∈r.q,ew r.m a
 n:r.q.length≤256
 fr:Rb r.m
abbrev au(g a b:Nat)(r:Rp)(L:ah):Prop:=L=[ob g #[pt a 0,iN r.j.A,iN r.j.fr,iN r.j.tg,iN r.j.nx,pt b 0] 133,pk (aJ a r.m),pk (bH b r.q)]
def qi(r:Rp)(w:Nat):Bool:=(r.m.P.getD w false||(dC r.m&&decide (dY r.m≤w)))||(decide (r.j.A=1)&&decide (r.j.fr=w))
def qj(r:Rp)(w:Nat):Bool:=fm r.m w||(decide (r.j.A=2)&&decide (r.j.fr=w))
def de(r:Rp)(a:Ak):Bool:=bif a.k==1 then qi r a.w else qj r a.w
def zH(a:Ak):List Ev:=[⟨5,a.w,a.k-1⟩]
def dn(r:Rp)(a:Ak):Rp:=bif a.k==1 then(bif dC r.m then{r with m:=qe r.m,j:=⟨1,a.w,dY r.m,0⟩} else r) else(bif eu r.m then{r with m:=qf r.m,j:=⟨2,a.w,fR r.m,0⟩} else r)
def fS(r:Rp)(a:Ak):List Ev:=bif a.k==1 then(bif dC r.m then[⟨3,a.w,dY r.m⟩] else zH a) else(bif eu r.m then[⟨4,a.w,fR r.m⟩] else zH a)
def br(r:Rp)(a:Ak):Rp:=bif de r a then r else bif r.j.A==0 then dn r a else{r with q:=qh r.q a}
def bW(r:Rp)(a:Ak):List Ev:=bif de r a then[] else bif r.j.A==0 then fS r a else bif vF r.q a==14 then zH a else[]
def a4(r:Rp):Rp:={r with q:=r.q.tail}
def ik(s:Rp×List Ev):Rp×List Ev:=bif de (a4 s.1) (s.1.q.headD aK) then(a4 s.1,s.2) else(dn (a4 s.1) (s.1.q.headD aK),s.2++fS (a4 s.1) (s.1.q.headD aK))
def af(s:Rp×List Ev):Nat→Rp×List Ev
 | 0=>s
 | k+1=>ik (af s k)
def fb:Nat→Rp×List Ev→Rp×List Ev
 | 0,s=>s
 | n+1,s=>if s.1.j.A=0 then fb n (ik s) else s
def jM(r:Rp):Rp:={r with m:=bif r.j.A==1 then sD r.m r.j.fr r.j.tg else sF r.m r.j.fr r.j.tg,j:=lW}
def ae(r:Rp):Rp×List Ev:=(jM r,[⟨6,r.j.fr,r.j.tg⟩])
def cH(r:Rp):Rp×List Ev:=fb r.q.length (ae r)
def bI(r:Rp):Rp:={r with j:={r.j with nx:=r.j.nx+1}}
def fo(r:Rp):Rp×List Ev:=bif lX r.m (bI r).j then cH (bI r) else(bI r,[])
section
variable {m:Mp}
theorem Rc(h:bp m)(hp:dC m=true):bp (qe m):=by
 have:m.Q≠m.res:=by unfold dC at hp;simpa using hp
 have:=h.pg;exact⟨h.ly,h.ll,h.ld,h.ls,by show m.Q+1≤m.res;omega,h.rk,h.lv,h.sp⟩
theorem Rd(h:bp m)(hp:eu m=true):bp (qf m):=by
 have:m.F≠m.S:=by unfold eu at hp;simpa using hp
 have:=h.rk;exact⟨h.ly,h.ll,h.ld,h.ls,h.pg,by show m.F+1≤m.S;omega,h.lv,h.sp⟩
theorem Rf{l:List Nat}{h t k n b:Nat}(c: ∀i,i<n→l.getD i 0<b)(e:n=l.length)(ht:t<b): ∀i,i<n→(dR l h t k).getD i 0<b:=by
 intro i a;by_cases d:i<k
 ·unfold dR;rw[YU,Y2 (by rw[Y1,Y0];omega),ZE,List.getElem?_take,ALifp d,YX Om];have:=c i a;rw[YU,YX Om] at this;show(if _=h then t else _)<b
  split
  ·exact ht
  ·exact this
 ·unfold dR;rw[YU,Y9 (by rw[Y1,Y0];omega),Y1,Y0,Zr,show k+(i-min k l.length)=i by omega,←YU];exact c i a
theorem Rg(h:bp m){x t:Nat}(ht:t<m.R*m.B*m.M):bp (sD m x t):=
 ⟨h.ly,(EZ ..).trans h.ll,by show(m.P.set x true).length=_;rw[Ze];exact h.ld,h.ls,h.pg,h.rk,Rf h.lv h.ll.symm ht,h.sp⟩
theorem Rh(h:bp m){x t:Nat}(h0:m.R≤t)(h1:t<m.R+m.S):bp (sF m x t):=by
 refine⟨h.ly,h.ll,h.ld,by show(m.K.set x (t:Int)).length=_;rw[Ze];exact h.ls,h.pg,h.rk,h.lv,λi a=>?_⟩;show(m.K.set x (t:Int)).getD i 0= -1∨((m.R:Int)≤(m.K.set x (t:Int)).getD i 0∧(m.K.set x (t:Int)).getD i 0<((m.R+m.S:Nat):Int));have a:i<m.R:=a;have b:=h.ls;rw[YU,Zo];by_cases e:x=i
 ·rw[ALifp e,ALifp Om];refine .inr ?_;show(m.R:Int)≤(t:Int)∧(t:Int)<((m.R+m.S:Nat):Int);omega
 ·rw[ALifn e,←YU];exact h.sp i a
theorem getD_set_ne{α:Type}{l:List α}{i j:Nat}{x d:α}(h:i≠j):(l.set i x).getD j d=l.getD j d:=by rw[YU,Zo,ALifn h,←YU]
theorem Fo{r:Rp}{a:Ak}(h:Yo r)(i:ew r.m a)(b:de r a=false):Yo (dn r a):=by
 unfold dn;unfold de at b;rcases i.k with⟨f,g⟩ | ⟨f,g⟩
 ·rw[f] at b⊢;have b:qi r a.w=false:=b;show Yo (bif dC r.m then _ else _);cases c:dC r.m with
  | false=>exact h
  | true=>
   unfold qi at b;rw[c] at b;simp only[Bool.true_and,Zd,decide_eq_false_iff_not] at b;have d:r.m.Q≠r.m.res:=by unfold dC at c;simpa using c
   have j:dY r.m=r.m.R*r.m.B*r.m.M-r.m.res+r.m.Q:=by unfold dY;rw[ALifn d]
   have n:=h.m.pg;have o:=h.m.ly.rp;have l:a.w<dY r.m:=by omega
   refine⟨Rc h.m c,⟨.inr (.inl ⟨rfl,?_⟩)⟩,λx e=>⟨(h.q x e).k⟩,h.n,⟨λx e=>h.fr.P x ?_⟩⟩
   ·exact⟨g,by show dY r.m<r.m.R*r.m.B*r.m.M;omega,by show a.w≠dY r.m;omega,b.1.1,h.fr.P _ (by show _≤dY r.m;omega),by show r.m.R*r.m.B*r.m.M-r.m.res≤dY r.m;omega,by show dY r.m<r.m.R*r.m.B*r.m.M-r.m.res+(r.m.Q+1);omega,Zz _,by show a.w<r.m.R*r.m.B*r.m.M-r.m.res+(r.m.Q+1);omega⟩
   ·have e:r.m.R*r.m.B*r.m.M-r.m.res+(r.m.Q+1)≤x:=e;omega
 ·rw[f] at b⊢;have b:qj r a.w=false:=b;show Yo (bif eu r.m then _ else _);cases c:eu r.m with
  | false=>exact h
  | true=>
   unfold qj at b;rw[Zd] at b;have d:r.m.F≠r.m.S:=by unfold eu at c;simpa using c
   have j:fR r.m=r.m.R+r.m.F:=by unfold fR;rw[ALifn d]
   refine⟨Rd h.m c,⟨.inr (.inr ⟨rfl,?_⟩)⟩,λx e=>⟨(h.q x e).k⟩,h.n,⟨h.fr.P⟩⟩;exact⟨g,b.1,by show r.m.R≤fR r.m;omega,by show fR r.m<r.m.R+(r.m.F+1);omega,Zz _⟩
theorem vH{r:Rp}(h:Yo r)(c:r.j.A≠0):Yo (jM r):=by
 unfold jM;rcases h.j.k with e | ⟨e,b⟩ | ⟨e,b⟩
 ·rw[e] at c;exact absurd rfl c
 ·rw[e];show Yo {r with m:=sD r.m r.j.fr r.j.tg,j:=lW};refine⟨Rg h.m b.ht,⟨.inl rfl⟩,λx a=>⟨(h.q x a).k⟩,h.n,⟨λx a=>?_⟩⟩;have a:r.m.R*r.m.B*r.m.M-r.m.res+r.m.Q≤x:=a;have:=b.f1;show(r.m.P.set r.j.fr true).getD x false=false;rw[getD_set_ne Om];exact h.fr.P x a
 ·rw[e];show Yo {r with m:=sF r.m r.j.fr r.j.tg,j:=lW};have:=b.t1;have:=h.m.rk;exact⟨Rh h.m b.t0 Om,⟨.inl rfl⟩,λx a=>⟨(h.q x a).k⟩,h.n,⟨h.fr.P⟩⟩
theorem Fp{r:Rp}(h:Yo r)(a:r.j.A≠0):r.j.A=1∨r.j.A=2:=by
 rcases h.j.k with e | ⟨e,_⟩ | ⟨e,_⟩
 ·rw[e] at a;exact absurd rfl a
 ·exact .inl e
 ·exact .inr e
theorem Fq{r:Rp}(h:Yo r):r.j.nx≤4096:=by
 rcases h.j.k with e | ⟨e,a⟩ | ⟨e,a⟩
 ·rw[e];exact Zz _
 ·have:=a.nx;have:=h.m.O.bd.c64;omega
 ·have:=a.nx;have:=h.m.O.bd.bmc;omega
theorem vJ{r:Rp}(h:Yo r)(c:r.j.A≠0)(b:r.j.nx<gD r.j.A r.m.B r.m.M r.m.C):Yo (bI r):=by
 refine⟨h.m,⟨?_⟩,h.q,h.n,h.fr⟩;rcases h.j.k with e | ⟨e,a⟩ | ⟨e,a⟩
 ·rw[e] at c;exact absurd rfl c
 ·rw[e] at b;exact .inr (.inl ⟨e,a.hf,a.ht,a.ne,a.df,a.dt,a.t0,a.t1,b,a.f1⟩)
 ·rw[e] at b;exact .inr (.inr ⟨e,a.hf,a.hs,a.t0,a.t1,b⟩)
theorem vK{r:Rp}(h:Yo r):Yo (a4 r):=⟨h.m,h.j,λx a=>h.q x (List.mem_of_mem_tail a),by show r.q.tail.length≤256;rw[ZG];have:=h.n;omega,h.fr⟩
theorem sJ{r:Rp}(h:Yo r)(a:0<r.q.length):ew r.m (r.q.headD aK):=by
 refine h.q _ ?_;cases e:r.q with
 | nil=>rw[e] at a;cases a
 | cons x q=>exact ZB ..
theorem zI{s:Rp×List Ev}(h:Yo s.1)(c:0<s.1.q.length):Yo (ik s).1:=by
 have a:=vK h;have b:=sJ h c;unfold ik;cases d:de (a4 s.1) (s.1.q.headD aK) with
 | true=>exact a
 | false=>exact Fo a ⟨b.k⟩ d
theorem Ri(r:Rp)(a:Ak):(dn r a).q=r.q:=by
 unfold dn;cases a.k==1<;>cases dC r.m<;>cases eu r.m<;>rfl
theorem vL(r:Rp)(a:Ak):(fS r a).length=1:=by
 unfold fS;cases a.k==1<;>cases dC r.m<;>cases eu r.m<;>rfl
theorem zJ(s:Rp×List Ev):(ik s).1.q=s.1.q.tail:=by
 unfold ik;cases de (a4 s.1) (s.1.q.headD aK) with
 | true=>rfl
 | false=>exact Ri _ _
theorem Fs(s:Rp×List Ev):(ik s).2.length≤s.2.length+1:=by
 unfold ik;cases de (a4 s.1) (s.1.q.headD aK) with
 | true=>exact Nat.le_succ _
 | false=>show(s.2++fS _ _).length≤_;rw[YZ,vL];exact Zj _
theorem vM(s:Rp×List Ev): ∀k,(af s k).1.q.length=s.1.q.length-k
 | 0=>rfl
 | k+1=>by rw[af,zJ,ZG,vM s k];omega
theorem zL(s:Rp×List Ev): ∀k,(af s k).2.length≤s.2.length+k
 | 0=>Zj _
 | k+1=>by rw[af];exact Zg (Fs _) (by have:=zL s k;omega)
theorem zM{s:Rp×List Ev}(h:Yo s.1): ∀k,k≤s.1.q.length→Yo (af s k).1
 | 0,_=>h
 | k+1,a=>zI (zM h k Om) (by rw[vM];omega)
theorem Ft{s:Rp×List Ev}{k:Nat}(h:de (a4 (af s k).1) ((af s k).1.q.headD aK)=true):af s (k+1)=(a4 (af s k).1,(af s k).2):=by rw[af,ik,h,ALct]
theorem Fu{s:Rp×List Ev}{k:Nat}(h:de (a4 (af s k).1) ((af s k).1.q.headD aK)=false):af s (k+1)=(dn (a4 (af s k).1) ((af s k).1.q.headD aK),(af s k).2++fS (a4 (af s k).1) ((af s k).1.q.headD aK)):=by rw[af,ik,h,ALcf]
theorem Fv{s:Rp×List Ev}{k:Nat}(a:k<s.1.q.length)(h:fb s.1.q.length s=fb (s.1.q.length-k) (af s k))(h0:(af s k).1.j.A=0):fb s.1.q.length s=fb (s.1.q.length-(k+1)) (af s (k+1)):=by
 rw[h,show s.1.q.length-k=(s.1.q.length-(k+1))+1 by omega,fb,ALifp h0];rfl
theorem vN{q:List Ak}(h:q.length=0):q.tail=q:=by rw[List.length_eq_zero_iff.1 h];rfl
theorem vO{s:Rp×List Ev}(h0:s.1.j.A≠0)(n:Nat):fb n s=s:=by
 cases n with
 | zero=>rfl
 | succ n=>rw[fb,ALifn h0]
end
end
section
open Go Go.RowKit Go.Shelf
theorem Rj(R S B M C way a:Nat)(b:ij R S B M C way a):aa YV 137 #[.agg #[iN R,iN S,iN B,iN M,iN C,iN way,iN a]] [] [] (λE=>[ob (E.y 0) #[pt ((E.y 1)) 0,i6 0,i6 0,i6 0,i6 0,pt ((E.y 2)) 0] 133,pk (aJ (E.y 1) (lU R S B M C way a)),pk (bH (E.y 2) [])]) (λE=> .tuple #[pt ((E.y 0)) 0,i6 0]):=by
 have j:=b.O;have m:=b.rp;have k:=j.bd.rbm;have i:=b.G;have h:=b.r64;exact fG Tryz.func137 λw n=>ra (λg=>[(1,pt (B0 g) 0),(2,.pointer none),(3,i6 0)]) (λg=>[ob (B0 g) #[iN R,iN S,iN B,iN M,iN C,iN way,iN a] 25]) λg=>rr (λ_=>[(0,.l 0),(1,.c [] [1] (QA R S B M C way a b))]) (λd=>[(4,pt ((B1 d)) 0),(5,i6 0)]) [] (λd L=>L++[pk (aJ (B1 d) (lU R S B M C way a))]) λd=>rF [] 13 (rr (λ_=>[(0,.c [] [2] (Ra))]) (λe=>[(6,pt ((B0 e)) 0),(5,i6 0)]) [5] (λe L=>L++[pk (bH (B0 e) [])]) λe=>rF [] 20 (rr N0 (λf=>[(2,pt (B3 f) 0),(3,i6 0)]) [2,3] (λf L=>L++[ob (B3 f) #[pt ((B1 d)) 0,i6 0,i6 0,i6 0,i6 0,pt ((B0 e)) 0] 133]) λf=>lf (.l [(f 3).y 0,(B1 d),(B0 e)] [] []) [3,1,2] [] []))
theorem Rk(R S B M C way a:Nat)(b:ij R S B M C way a):aa YV 137 #[.agg #[iN R,iN S,iN B,iN M,iN C,iN way,iN a]] [] [] (λE=>[pk (au (E.y 0) (E.y 1) (E.y 2) ⟨lU R S B M C way a,lW,[]⟩)]) (λE=> .tuple #[pt ((E.y 0)) 0,i6 0]):=(Rj R S B M C way a b).outs λE d c=>sr rfl c
theorem vP(g a b:Nat)(r:Rp)(d:Yo r):aa YV 23 #[pt g 0] [pk (au g a b r)] [0] (λ_=>[pk (au g a b r)]) (λ_=>pt a 0):=aa.pkZ Tryz.func23 λL e=>by
 obtain⟨rfl⟩:=e;refine⟨[1,2],λ_=>[pk (aJ a r.m),pk (bH b r.q)],?_,rfl,λE=>⟨rfl,rfl,rfl⟩⟩;have c:=d.m;have m:=d.j;have i:=d.n;have k:=c.O;have f:=c.ly;have h:=c.np;exact fG Tryz.func23 λw j=>r0 [] [(2,.pointer none)] [] (r0 [(3,.l 0)] [(2,pt a 0)] [2] (lf ab.zero [1,2] [(0,0)] []))
theorem zN(g b c:Nat)(r:Rp)(e:Yo r):aa YV 27 #[pt g 0] [pk (au g b c r)] [0] (λ_=>[pk (au g b c r)]) (λ_=> .agg #[iN r.j.A,iN r.j.fr,iN r.j.tg,iN r.j.nx]):=aa.pkZ Tryz.func27 λL f=>by
 obtain⟨rfl⟩:=f;refine⟨[1,2],λ_=>[pk (aJ b r.m),pk (bH c r.q)],?_,rfl,λE=>⟨rfl,rfl,rfl⟩⟩;have d:=e.m;have n:=e.j;have j:=e.n;have m:=d.O;have h:=d.ly;have i:=d.np;exact fG Tryz.func27 λw k=>ra (λa=>[(2,pt (B0 a) 0)]) (λa=>[ob (B0 a) #[i6 0,i6 0,i6 0,i6 0] 70]) λa=>rs [(3,.l 0),(4,.s 3)] 3 (ob (B0 a) #[iN r.j.A,iN r.j.fr,iN r.j.tg,iN r.j.nx] 70) (lf ab.zero [1,2] [(0,0)] [3])
theorem mI(g a b:Nat)(r:Rp):aa YV 118 #[pt g 0] [ob g #[pt a 0,iN r.j.A,iN r.j.fr,iN r.j.tg,iN r.j.nx,pt b 0] 133,pk (aJ a r.m),pk (bH b r.q)] [1,2] (λ_=>[pk (aJ a r.m),pk (bH b r.q)]) (λ_=> .bool ((r.j.A:Int) != 0)):=by
 exact fG Tryz.func118 λw c=>r0 [] [(2,.bool false)] [] (r0 [(4,.l 0)] [(2,.bool ((r.j.A:Int) != 0))] [2] (lf ab.zero [1,2] [(0,0)] []))
theorem Rl(g a d:Nat)(r:Rp)(e:Yo r)(n:Nat)(p:n<(r.m.R*r.m.B*r.m.M-r.m.res)*r.m.C):aa YV 143 #[pt g 0,iN n] [pk (au g a d r)] [0] (λ_=>[pk (au g a d r)]) (λ_=> .tuple #[iN (aU r.m r.j n),iN (az r.m n),iN (aO r.m.G r.m.R r.m.B r.m.M (az r.m n)),i6 0]):=aa.pkZ Tryz.func143 λL f=>by
 obtain⟨rfl⟩:=f;refine⟨[1,2],λ_=>[pk (aJ a r.m),pk (bH d r.q)],?_,rfl,λE=>⟨rfl,rfl,rfl⟩⟩;have b:=e.m;have h:=e.j;have k:=e.n;have o:=b.O;have i:=b.ly;have j:=b.np;exact fG Tryz.func143 λw l=>r0 [] [(4,i6 0),(5,i6 0),(6,i6 0),(7,i6 0)] [] (r0 [(3,.m (ls 0 ([iN r.j.A,iN r.j.fr,iN r.j.tg,iN r.j.nx]))),(7,.m (ld 0 (pt a 0))),(9,.c [1] [1] (QQ a r.m b r.j h n Om)),] [(4,iN (aU r.m r.j n)),(5,iN (az r.m n)),(6,iN (aO r.m.G r.m.R r.m.B r.m.M (az r.m n))),(7,i6 0)] [4,5,6,7] (lf ab.zero [1,2] [(0,0)] []))
theorem Rm(g a d:Nat)(r:Rp)(e:Yo r)(n:Int)(i:bQ n (((r.m.R*r.m.B*r.m.M-r.m.res)*r.m.C:Nat):Int)=false):aa YV 143 #[pt g 0,i6 n] [pk (au g a d r)] [0] (λ_=>[pk (au g a d r)]) (λ_=> .tuple #[i6 0,i6 0,i6 0,i6 12]):=aa.pkZ Tryz.func143 λL f=>by
 obtain⟨rfl⟩:=f;refine⟨[1,2],λ_=>[pk (aJ a r.m),pk (bH d r.q)],?_,rfl,λE=>⟨rfl,rfl,rfl⟩⟩;have b:=e.m;have p:=e.j;have k:=e.n;have o:=b.O;have h:=b.ly;have j:=b.np;exact fG Tryz.func143 λw l=>r0 [] [(4,i6 0),(5,i6 0),(6,i6 0),(7,i6 0)] [] (r0 [(3,.m (ls 0 ([iN r.j.A,iN r.j.fr,iN r.j.tg,iN r.j.nx]))),(7,.m (ld 0 (pt a 0))),(9,.c [1] [1] (QP a r.m b r.j.A r.j.fr r.j.tg r.j.nx n i)),] [(4,i6 0),(5,i6 0),(6,i6 0),(7,i6 12)] [4,5,6,7] (lf ab.zero [1,2] [(0,0)] []))
theorem zO(k u:Nat)(g:1≤k)(e:k≤2):aa YV 243 #[.agg #[iN k,iN u]] [] [] (λE=>[bc (E.val 0) ([(⟨5,u,k-1⟩:Ev)])]) (λE=>(E.val 0)):=by
 exact fG Tryz.func243 λw f=>ra (λd=>[(1,pt (B0 d) 0),(2,.slice none 0 0)]) (λd=>[ob (B0 d) #[iN k,iN u] 285]) λd=>rr (λ_=>[(1,.l 0),(3,.l 0),(4,.t (tb (a:=iN k) (b:=i6 1) λ_ _ _ _=>lQ (a:=k) (b:=1) Om Om)),(6,gO jg 1 1 [(⟨5,u,k-1⟩:Ev)])]) (λc=>[(2,.slice (some ⟨(c 6).y 0,0,none⟩) 1 1)]) [2] (λc L=>L++[bc (.slice (some ⟨(c 6).y 0,0,none⟩) 1 1) ([(⟨5,u,k-1⟩:Ev)])]) λc=>lf (.l [] [] [.slice (some ⟨(c 6).y 0,0,none⟩) 1 1]) [1] [] []
theorem Rn(g a f:Nat)(r:Rp)(i:Yo r)(u:Nat)(x:u<r.m.R*r.m.B*r.m.M):aa YV 240 #[pt g 0,.agg #[i6 1,iN u]] [pk (au g a f r)] [0] (λ_=>[pk (au g a f r)]) (λ_=> .bool (qi r u)):=aa.pkZ Tryz.func240 λL k=>by
 obtain⟨rfl⟩:=k;refine⟨[1,2],λ_=>[pk (aJ a r.m),pk (bH f r.q)],?_,rfl,λE=>⟨rfl,rfl,rfl⟩⟩;have b:=i.m;have v:=i.j;have p:=i.n;have j:=b.O;have n:=b.ly;have o:=b.np;refine fG Tryz.func240 λw q=>ra (λd=>[(3,pt (B0 d) 0),(4,.bool false)]) (λd=>[ob (B0 d) #[i6 1,iN u] 285]) λd=>rr (λ_=>[(3,.l 0),(4,.c [1] [1] (jd a r.m b)),(7,.s 4)]) (λe=>[(5,pt (B6 e) 0)]) [] (λe L=>L++[ob (B6 e) #[iN r.m.R,iN r.m.S,iN r.m.B,iN r.m.M,iN r.m.C] 23]) λe=>r0 [(1,.l 3)] [(17,i6 1)] [] (rT [] 18 (r0 [(3,.l 0),(4,.c [1] [1] (Qs a r.m b))] [(6,iN (dY r.m)),(7,.bool (dC r.m))] [] (r0 [(1,.m (ld 3 (iN u))),(2,.t (tk (show Value.bool (decide ((u:Int)<0))= .bool false from ALca Value.bool (by exact bj Om)))),(5,.m (ld 3 (iN u))),(6,.m (ls 4 ([iN r.m.R,iN r.m.S,iN r.m.B,iN r.m.M,iN r.m.C]))),(7,.c [] [] (mD r.m.R r.m.S r.m.B r.m.M r.m.C j)),(8,.t (tk (show Value.bool (decide ((((r.m.R*r.m.B)*r.m.M:Nat):Int)≤(u:Int)))= .bool false from ALca Value.bool (by exact bj Om)))),(14,.m (ld 0 (pt a 0))),(16,.m (ld 3 (iN u))),(17,.c [1] [1] (zw a r.m b u Om)),(23,.m (ld 3 (iN u))),] [(55,.bool ((r.m.P.getD u false)||((dC r.m)&&(decide (((dY r.m:Nat):Int)≤(u:Int))))))] [] ?_)));refine cB ((r.m.P.getD u false)||((dC r.m)&&(decide (((dY r.m:Nat):Int)≤(u:Int))))) (λh=>?_) λh=>?_
 ·exact r0 [] [(4,.bool true)] [4] (aq (.bool true) ab.zero (by unfold qi;simp only[←zz,←lV];(repeat (rw[h]));rfl) [1,2] [(0,0)] [])
 exact r0 [(4,.m (ld 0 (iN r.j.A))),(6,.m (ld 3 (i6 1))),(13,.m (ld 0 (iN r.j.fr))),(15,.m (ld 3 (iN u))),] [(4,.bool (((r.j.A:Int)==1)&&((r.j.fr:Int)==(u:Int))))] [4] (aq (.bool (((r.j.A:Int)==1)&&((r.j.fr:Int)==(u:Int)))) ab.zero (by unfold qi;simp only[←zz,←lV];(repeat (rw[h]));rfl) [1,2] [(0,0)] [])
theorem Ro(g a h:Nat)(r:Rp)(j:Yo r)(u:Nat)(y:u<r.m.R):aa YV 240 #[pt g 0,.agg #[i6 2,iN u]] [pk (au g a h r)] [0] (λ_=>[pk (au g a h r)]) (λ_=> .bool (qj r u)):=aa.pkZ Tryz.func240 λL k=>by
 obtain⟨rfl⟩:=k;refine⟨[1,2],λ_=>[pk (aJ a r.m),pk (bH h r.q)],?_,rfl,λE=>⟨rfl,rfl,rfl⟩⟩;have b:=j.m;have x:=j.j;have p:=j.n;have v:=b.O;have n:=b.ly;have o:=b.np;refine fG Tryz.func240 λw q=>ra (λe=>[(3,pt (B0 e) 0),(4,.bool false)]) (λe=>[ob (B0 e) #[i6 2,iN u] 285]) λe=>rr (λ_=>[(3,.l 0),(4,.c [1] [1] (jd a r.m b)),(7,.s 4)]) (λf=>[(5,pt (B6 f) 0)]) [] (λf L=>L++[ob (B6 f) #[iN r.m.R,iN r.m.S,iN r.m.B,iN r.m.M,iN r.m.C] 23]) λf=>r0 [(1,.l 3)] [(17,i6 2)] [] (rF [] 18 (rT [] 56 (r0 [(3,.m (ld 0 (pt a 0))),(5,.m (ld 3 (iN u))),(6,.c [1] [1] (E3 a r.m b u Om)),] [(9,.bool (fm r.m u))] [] (r0 [(3,.m (ld 3 (iN u))),(4,.t (tk (show Value.bool (decide ((u:Int)<0))= .bool false from ALca Value.bool (by exact bj Om)))),(8,.m (ld 3 (iN u))),(10,.m (ld 4 (iN r.m.R))),(11,.t (tk (show Value.bool (decide ((r.m.R:Int)≤(u:Int)))= .bool false from ALca Value.bool (by exact bj Om))))] [(80,.bool (((fm r.m u)||false)||false))] [] ?_))));refine cB (((fm r.m u)||false)||false) (λi=>?_) λi=>?_
 ·exact r0 [] [(4,.bool true)] [4] (aq (.bool true) ab.zero (by unfold qj;simp only[←lV];have d:=i;simp only[aaH] at d;rw[d];rfl) [1,2] [(0,0)] [])
 exact r0 [(4,.m (ld 0 (iN r.j.A))),(6,.m (ld 3 (i6 2))),(13,.m (ld 0 (iN r.j.fr))),(15,.m (ld 3 (iN u))),] [(4,.bool (((r.j.A:Int)==2)&&((r.j.fr:Int)==(u:Int))))] [4] (aq (.bool (((r.j.A:Int)==2)&&((r.j.fr:Int)==(u:Int)))) ab.zero (by unfold qj;simp only[←lV];have d:=i;simp only[aaH] at d;rw[d];rfl) [1,2] [(0,0)] [])
theorem Rq(g a b:Nat)(r:Rp)(h:Yo r)(u:Nat)(hp:dC r.m=true):aa YV 241 #[pt g 0,.agg #[i6 1,iN u]] [pk (au g a b r)] [0] (λE=>[pk (au g a b {r with m:=qe r.m,j:=⟨1,u,dY r.m,0⟩}),bc (E.val 0) ([(⟨3,u,dY r.m⟩:Ev)])]) (λE=>(E.val 0)):=aa.pkW (n:=1) (N:=λE=>[bc (E.val 0) ([(⟨3,u,dY r.m⟩:Ev)])]) (enters_of Tryz.func241 Kr rfl) λL i=>by
 obtain⟨rfl⟩:=i;refine⟨[0,1,2],λ_=>[ob g #[pt a 0,i6 1,iN u,iN (dY r.m),i6 0,pt b 0] 133,pk (aJ a (qe r.m)),pk (bH b r.q)],?_,rfl,λE=>⟨rfl,rfl,rfl⟩⟩;have e:=h.m;have v:=h.j;have p:=h.n;have t:=e.O;have k:=e.ly;have o:=e.np;exact fG Tryz.func241 λw q=>ra (λf=>[(3,pt (B0 f) 0),(4,.slice none 0 0)]) (λf=>[ob (B0 f) #[i6 1,iN u] 285]) λf=>r0 [] [(5,i6 3)] [] (r0 [(3,.l 0)] [(6,.func (.func 265) #[pt a 0] #[])] [] (rF [(1,.l 3)] 16 (rr (λ_=>[(1,.c [1] [1] (Qt a r.m e Om))]) (λ_=>[(7,iN (dY r.m)),(8,i6 0)]) [] (λ_ L=>L.set 1 ((pk (aJ a (qe r.m))))) λx=>rF [] 28 (rs [(2,.l 3),(4,.l 3),(9,.s 0)] 0 (ob g #[pt a 0,i6 1,iN u,iN (dY r.m),i6 0,pt b 0] 133) (rr (λ_=>[(2,.l 3),(5,gO jg 4 1 [(⟨3,u,dY r.m⟩:Ev)])]) (λd=>[(4,.slice (some ⟨(d 5).y 0,0,none⟩) 1 1)]) [4] (λd L=>L++[bc (.slice (some ⟨(d 5).y 0,0,none⟩) 1 1) ([(⟨3,u,dY r.m⟩:Ev)])]) λd=>lf (.l [] [] [.slice (some ⟨(d 5).y 0,0,none⟩) 1 1]) [0,1,2,4] [] [])))))
theorem Rr(g b f:Nat)(r:Rp)(h:Yo r)(u:Nat)(hp:dC r.m=false):aa YV 241 #[pt g 0,.agg #[i6 1,iN u]] [pk (au g b f r)] [0] (λE=>[pk (au g b f r),bc (E.val 0) ([(⟨5,u,1-1⟩:Ev)])]) (λE=>(E.val 0)):=aa.pkW (n:=1) (N:=λE=>[bc (E.val 0) ([(⟨5,u,1-1⟩:Ev)])]) (enters_of Tryz.func241 Kr rfl) λL i=>by
 obtain⟨rfl⟩:=i;refine⟨[1,2],λ_=>[pk (aJ b r.m),pk (bH f r.q)],?_,rfl,λE=>⟨rfl,rfl,rfl⟩⟩;have d:=h.m;have q:=h.j;have m:=h.n;have p:=d.O;have j:=d.ly;have k:=d.np;exact fG Tryz.func241 λw o=>ra (λe=>[(3,pt (B0 e) 0),(4,.slice none 0 0)]) (λe=>[ob (B0 e) #[i6 1,iN u] 285]) λe=>r0 [] [(5,i6 3)] [] (r0 [(3,.l 0)] [(6,.func (.func 265) #[pt b 0] #[])] [] (rF [(1,.l 3)] 16 (r0 [(1,.c [1] [1] (Qu b r.m d Om))] [(7,i6 0),(8,i6 52)] [] (rT [] 28 (rr (λ_=>[(0,.l 3),(1,.c [] [4] (zO 1 u Om Om))]) (λa=>[(4,((a 1).val 0))]) [4] (λa L=>L++[bc ((a 1).val 0) ([(⟨5,u,1-1⟩:Ev)])]) λa=>lf (.l [] [] [((a 1).val 0),(a 1).val 0]) [1,2,4] [(0,0)] [])))))
theorem Rs(g a b:Nat)(r:Rp)(h:Yo r)(u:Nat)(hp:eu r.m=true):aa YV 241 #[pt g 0,.agg #[i6 2,iN u]] [pk (au g a b r)] [0] (λE=>[pk (au g a b {r with m:=qf r.m,j:=⟨2,u,fR r.m,0⟩}),bc (E.val 0) ([(⟨4,u,fR r.m⟩:Ev)])]) (λE=>(E.val 0)):=aa.pkW (n:=1) (N:=λE=>[bc (E.val 0) ([(⟨4,u,fR r.m⟩:Ev)])]) (enters_of Tryz.func241 Kr rfl) λL i=>by
 obtain⟨rfl⟩:=i;refine⟨[0,1,2],λ_=>[ob g #[pt a 0,i6 2,iN u,iN (fR r.m),i6 0,pt b 0] 133,pk (aJ a (qf r.m)),pk (bH b r.q)],?_,rfl,λE=>⟨rfl,rfl,rfl⟩⟩;have e:=h.m;have v:=h.j;have p:=h.n;have t:=e.O;have k:=e.ly;have o:=e.np;exact fG Tryz.func241 λw q=>ra (λf=>[(3,pt (B0 f) 0),(4,.slice none 0 0)]) (λf=>[ob (B0 f) #[i6 2,iN u] 285]) λf=>r0 [] [(5,i6 3)] [] (r0 [(3,.l 0)] [(6,.func (.func 265) #[pt a 0] #[])] [] (rT [(1,.l 3)] 16 (r0 [(3,.l 0)] [(5,i6 4),(6,.func (.func 266) #[pt a 0] #[])] [5,6] (rr (λ_=>[(1,.c [1] [1] (Qv a r.m e Om))]) (λ_=>[(7,iN (fR r.m)),(8,i6 0)]) [] (λ_ L=>L.set 1 ((pk (aJ a (qf r.m))))) λx=>rF [] 28 (rs [(2,.l 3),(4,.l 3),(9,.s 0)] 0 (ob g #[pt a 0,i6 2,iN u,iN (fR r.m),i6 0,pt b 0] 133) (rr (λ_=>[(2,.l 3),(5,gO jg 4 1 [(⟨4,u,fR r.m⟩:Ev)])]) (λd=>[(4,.slice (some ⟨(d 5).y 0,0,none⟩) 1 1)]) [4] (λd L=>L++[bc (.slice (some ⟨(d 5).y 0,0,none⟩) 1 1) ([(⟨4,u,fR r.m⟩:Ev)])]) λd=>lf (.l [] [] [.slice (some ⟨(d 5).y 0,0,none⟩) 1 1]) [0,1,2,4] [] []))))))
theorem Ru(g a f:Nat)(r:Rp)(h:Yo r)(u:Nat)(hp:eu r.m=false):aa YV 241 #[pt g 0,.agg #[i6 2,iN u]] [pk (au g a f r)] [0] (λE=>[pk (au g a f r),bc (E.val 0) ([(⟨5,u,2-1⟩:Ev)])]) (λE=>(E.val 0)):=aa.pkW (n:=1) (N:=λE=>[bc (E.val 0) ([(⟨5,u,2-1⟩:Ev)])]) (enters_of Tryz.func241 Kr rfl) λL i=>by
 obtain⟨rfl⟩:=i;refine⟨[1,2],λ_=>[pk (aJ a r.m),pk (bH f r.q)],?_,rfl,λE=>⟨rfl,rfl,rfl⟩⟩;have d:=h.m;have q:=h.j;have m:=h.n;have p:=d.O;have j:=d.ly;have k:=d.np;exact fG Tryz.func241 λw o=>ra (λe=>[(3,pt (B0 e) 0),(4,.slice none 0 0)]) (λe=>[ob (B0 e) #[i6 2,iN u] 285]) λe=>r0 [] [(5,i6 3)] [] (r0 [(3,.l 0)] [(6,.func (.func 265) #[pt a 0] #[])] [] (rT [(1,.l 3)] 16 (r0 [(3,.l 0)] [(5,i6 4),(6,.func (.func 266) #[pt a 0] #[])] [5,6] (r0 [(1,.c [1] [1] (Qw a r.m d Om))] [(7,i6 0),(8,i6 52)] [] (rT [] 28 (rr (λ_=>[(0,.l 3),(1,.c [] [4] (zO 2 u Om Om))]) (λb=>[(4,((b 1).val 0))]) [4] (λb L=>L++[bc ((b 1).val 0) ([(⟨5,u,2-1⟩:Ev)])]) λb=>lf (.l [] [] [((b 1).val 0),(b 1).val 0]) [1,2,4] [(0,0)] []))))))
end
section
open Go Go.RowKit Go.Shelf
theorem Rv(g b c:Nat)(r:Rp)(f:Yo r)(a:Ak)(h:ew r.m a):aa YV 240 #[pt g 0,.agg #[iN a.k,iN a.w]] [pk (au g b c r)] [0] (λ_=>[pk (au g b c r)]) (λ_=> .bool (de r a)):=by
 obtain⟨k,u⟩:=a;rcases h.k with⟨d,e⟩ | ⟨d,e⟩
 ·cases d;exact Rn g b c r f u e
 ·cases d;exact Ro g b c r f u e
theorem Rw(g b c:Nat)(r:Rp)(e:Yo r)(a:Ak)(h:ew r.m a):aa YV 241 #[pt g 0,.agg #[iN a.k,iN a.w]] [pk (au g b c r)] [0] (λE=>[pk (au g b c (dn r a)),bc (E.val 0) (fS r a)]) (λE=>E.val 0):=by
 obtain⟨k,u⟩:=a;unfold dn fS;rcases h.k with⟨f,i⟩ | ⟨f,i⟩
 ·cases f;cases d:dC r.m with
  | true=>exact Rq g b c r e u d
  | false=>exact Rr g b c r e u d
 ·cases f;cases d:eu r.m with
  | true=>exact Rs g b c r e u d
  | false=>exact Ru g b c r e u d
abbrev qk(g a b:Nat)(r:Rp):ah:=[ob g #[pt a 0,iN r.j.A,iN r.j.fr,iN r.j.tg,iN r.j.nx,pt b 0] 133,pk (aJ a r.m),pk (bH b r.q)]
theorem o6(g b c:Nat)(r:Rp)(e:Yo r)(a:Ak)(d:ew r.m a):aa YV 240 #[pt g 0,.agg #[iN a.k,iN a.w]] (qk g b c r) [0,1,2] (λ_=>qk g b c r) (λ_=> .bool (de r a)):=(Rv g b c r e a d).unpk (N:=λ_=>[])
theorem zP(g b c:Nat)(r:Rp)(e:Yo r)(a:Ak)(d:ew r.m a):aa YV 241 #[pt g 0,.agg #[iN a.k,iN a.w]] (qk g b c r) [0,1,2] (λE=>qk g b c (dn r a)++[bc (E.val 0) (fS r a)]) (λE=>E.val 0):=(Rw g b c r e a d).unpk (N:=λE=>[bc (E.val 0) (fS r a)])
theorem Rx(g b d:Nat)(r:Rp)(e:Yo r)(a:Ak)(j:ew r.m a)(hv:de r a=true):aa YV 207 #[pt g 0,.agg #[iN a.k,iN a.w]] [pk (au g b d r)] [0] (λE=>[pk (au g b d r),bc (E.val 0) ([])]) (λE=>(E.val 0)):=aa.pkW (n:=1) (N:=λE=>[bc (E.val 0) ([])]) (enters_of Tryz.func207 Kr rfl) λL i=>by
 obtain⟨rfl⟩:=i;refine⟨[1,2],λ_=>[pk (aJ b r.m),pk (bH d r.q)],?_,rfl,λE=>⟨rfl,rfl,rfl⟩⟩;have h:=e.m;have s:=e.j;have o:=e.n;have q:=h.O;have k:=h.ly;have m:=h.np;exact fG Tryz.func207 λw p=>ra (λf=>[(3,pt (B0 f) 0),(4,.slice none 0 0)]) (λf=>[ob (B0 f) #[iN a.k,iN a.w] 285]) λf=>rT [(1,.l 3),(2,.c [0,1,2] [0,1,2] (aa.v ((o6 g b d r e a j)) λ_=>ALca Value.bool (show(de r a)=true from(by exact hv))))] 5 (r0 [] [(4,.slice none 0 0)] [4] (cz jg (lf (.l [] [] [.slice none 0 0]) [1,2,4] [(0,0)] [])))
theorem Ry(g b d:Nat)(r:Rp)(f:Yo r)(a:Ak)(k:ew r.m a)(hv:de r a=false)(s:r.j.A=0):aa YV 207 #[pt g 0,.agg #[iN a.k,iN a.w]] [pk (au g b d r)] [0] (λE=>[pk (au g b d (dn r a)),bc (E.val 0) (fS r a)]) (λE=>(E.val 0)):=aa.pkW (n:=1) (N:=λE=>[bc (E.val 0) (fS r a)]) (enters_of Tryz.func207 Kr rfl) λL p=>by
 obtain⟨rfl⟩:=p;refine⟨[0,1,2],λ_=>[ob g #[pt b 0,iN ((dn r a).j.A),iN ((dn r a).j.fr),iN ((dn r a).j.tg),iN ((dn r a).j.nx),pt d 0] 133,pk (aJ b (dn r a).m),pk (bH d (dn r a).q)],?_,rfl,λE=>⟨rfl,rfl,rfl⟩⟩;have i:=f.m;have z:=f.j;have v:=f.n;have y:=i.O;have t:=i.ly;have u:=i.np;refine fG Tryz.func207 λw x=>ra (λh=>[(3,pt (B0 h) 0),(4,.slice none 0 0)]) (λh=>[ob (B0 h) #[iN a.k,iN a.w] 285]) λh=>rF [(1,.l 3),(2,.c [0,1,2] [0,1,2] (aa.v ((o6 g b d r f a k)) λ_=>ALca Value.bool (show(de r a)=false from(by exact hv))))] 5 (r0 [(1,.c [0,1,2] [1,2] (mI g b d r))] [(9,.bool (!((r.j.A:Int) != 0)))] [] ?_);have o:(!((r.j.A:Int) != 0))=true:=by rw[s];rfl
 exact cT (!((r.j.A:Int) != 0)) o (rr (λ_=>[(1,.l 3),(2,.c [0,1,2] [0,1,2,4] (zP g b d r f a k))]) (λe=>[(4,(e 2).val 0)]) [4] (λe L=>((L.set 0 (ob g #[pt b 0,iN ((dn r a).j.A),iN ((dn r a).j.fr),iN ((dn r a).j.tg),iN ((dn r a).j.nx),pt d 0] 133)).set 1 ((pk (aJ b (dn r a).m)))).set 2 ((pk (bH d (dn r a).q)))++[bc ((e 2).val 0) (fS r a)]) λe=>lf (.l [] [] [((e 2).val 0),(e 2).val 0]) [0,1,2,4] [] [])
theorem Rz(g d b:Nat)(r:Rp)(e:Yo r)(a:Ak)(m:ew r.m a)(hv:de r a=false)(u:r.j.A≠0)(x:a∈r.q):aa YV 207 #[pt g 0,.agg #[iN a.k,iN a.w]] [pk (au g d b r)] [0] (λE=>[pk (au g d b r),bc (E.val 0) ([])]) (λE=>(E.val 0)):=aa.pkW (n:=1) (N:=λE=>[bc (E.val 0) ([])]) (enters_of Tryz.func207 Kr rfl) λL k=>by
 obtain⟨rfl⟩:=k;refine⟨[1,2],λ_=>[pk (aJ d r.m),pk (bH b r.q)],?_,rfl,λE=>⟨rfl,rfl,rfl⟩⟩;have h:=e.m;have v:=e.j;have q:=e.n;have t:=h.O;have o:=h.ly;have p:=h.np;refine fG Tryz.func207 λw s=>ra (λf=>[(3,pt (B0 f) 0),(4,.slice none 0 0)]) (λf=>[ob (B0 f) #[iN a.k,iN a.w] 285]) λf=>rF [(1,.l 3),(2,.c [0,1,2] [0,1,2] (aa.v ((o6 g d b r e a m)) λ_=>ALca Value.bool (show(de r a)=false from(by exact hv))))] 5 (r0 [(1,.c [0,1,2] [1,2] (mI g d b r))] [(9,.bool (!((r.j.A:Int) != 0)))] [] ?_);have i:(!((r.j.A:Int) != 0))=false:=by(have j:((r.j.A:Int)==0)=false:=by rw[dz];omega);(rw[bne,j];rfl)
 exact cF (!((r.j.A:Int) != 0)) i (rF [(3,.l 0),(4,.l 3),(5,.c [2] [2] (Q2 b r.q a Om))] 22 (r0 [] [(4,.slice none 0 0)] [4] (cz jg (lf (.l [] [] [.slice none 0 0]) [1,2,4] [(0,0)] []))))
theorem RA(g e b:Nat)(r:Rp)(f:Yo r)(a:Ak)(k:ew r.m a)(hv:de r a=false)(A:r.j.A≠0)(x:a∉r.q)(s:r.q.length=256):aa YV 207 #[pt g 0,.agg #[iN a.k,iN a.w]] [pk (au g e b r)] [0] (λE=>[pk (au g e b r),bc (E.val 0) ([(⟨5,a.w,a.k-1⟩:Ev)])]) (λE=>(E.val 0)):=aa.pkW (n:=1) (N:=λE=>[bc (E.val 0) ([(⟨5,a.w,a.k-1⟩:Ev)])]) (enters_of Tryz.func207 Kr rfl) λL p=>by
 obtain⟨rfl⟩:=p;refine⟨[1,2],λ_=>[pk (aJ e r.m),pk (bH b r.q)],?_,rfl,λE=>⟨rfl,rfl,rfl⟩⟩;have j:=f.m;have B:=f.j;have v:=f.n;have z:=j.O;have t:=j.ly;have u:=j.np;have q:1≤a.k∧a.k≤2:=by rcases k.k with h | h<;>omega
 refine fG Tryz.func207 λw y=>ra (λi=>[(3,pt (B0 i) 0),(4,.slice none 0 0)]) (λi=>[ob (B0 i) #[iN a.k,iN a.w] 285]) λi=>rF [(1,.l 3),(2,.c [0,1,2] [0,1,2] (aa.v ((o6 g e b r f a k)) λ_=>ALca Value.bool (show(de r a)=false from(by exact hv))))] 5 (r0 [(1,.c [0,1,2] [1,2] (mI g e b r))] [(9,.bool (!((r.j.A:Int) != 0)))] [] ?_);have m:(!((r.j.A:Int) != 0))=false:=by(have o:((r.j.A:Int)==0)=false:=by rw[dz];omega);(rw[bne,o];rfl)
 exact cF (!((r.j.A:Int) != 0)) m (rT [(3,.l 0),(4,.l 3),(5,.c [2] [2] (Q3 b r.q a x (by(simp only[LL,s];done))))] 22 (rr (λ_=>[(0,.l 3),(1,.c [] [4] (zO a.k a.w Om Om))]) (λd=>[(4,((d 1).val 0))]) [4] (λd L=>L++[bc ((d 1).val 0) ([(⟨5,a.w,a.k-1⟩:Ev)])]) λd=>lf (.l [] [] [((d 1).val 0),(d 1).val 0]) [1,2,4] [(0,0)] []))
theorem RB(g d b:Nat)(r:Rp)(e:Yo r)(a:Ak)(m:ew r.m a)(hv:de r a=false)(x:r.j.A≠0)(t:a∉r.q)(z:r.q.length<256):aa YV 207 #[pt g 0,.agg #[iN a.k,iN a.w]] [pk (au g d b r)] [0] (λE=>[pk (au g d b {r with q:=r.q++[a]}),bc (E.val 0) ([])]) (λE=>(E.val 0)):=aa.pkW (n:=1) (N:=λE=>[bc (E.val 0) ([])]) (enters_of Tryz.func207 Kr rfl) λL k=>by
 obtain⟨rfl⟩:=k;refine⟨[1,2],λ_=>[pk (aJ d r.m),pk (bH b (r.q++[a]))],?_,rfl,λE=>⟨rfl,rfl,rfl⟩⟩;have h:=e.m;have y:=e.j;have s:=e.n;have v:=h.O;have o:=h.ly;have p:=h.np;refine fG Tryz.func207 λw u=>ra (λf=>[(3,pt (B0 f) 0),(4,.slice none 0 0)]) (λf=>[ob (B0 f) #[iN a.k,iN a.w] 285]) λf=>rF [(1,.l 3),(2,.c [0,1,2] [0,1,2] (aa.v ((o6 g d b r e a m)) λ_=>ALca Value.bool (show(de r a)=false from(by exact hv))))] 5 (r0 [(1,.c [0,1,2] [1,2] (mI g d b r))] [(9,.bool (!((r.j.A:Int) != 0)))] [] ?_);have i:(!((r.j.A:Int) != 0))=false:=by(have j:((r.j.A:Int)==0)=false:=by rw[dz];omega);(rw[bne,j];rfl)
 exact cF (!((r.j.A:Int) != 0)) i (rr (λ_=>[(3,.l 0),(4,.l 3),(5,.c [2] [2] (Q4 b r.q a t Om))]) (λ_=>[(22,.bool false)]) [] (λ_ L=>L.set 2 ((pk (bH b (r.q++[a]))))) λA=>cF _ rfl (r0 [] [(4,.slice none 0 0)] [4] (cz jg (lf (.l [] [] [.slice none 0 0]) [1,2,4] [(0,0)] []))))
theorem ql(g b c:Nat)(r:Rp)(f:Yo r)(a:Ak)(h:ew r.m a):aa YV 207 #[pt g 0,.agg #[iN a.k,iN a.w]] [pk (au g b c r)] [0] (λE=>[pk (au g b c (br r a)),bc (E.val 0) (bW r a)]) (λE=>E.val 0):=by
 unfold br bW;cases j:de r a with
 | true=>exact Rx g b c r f a h j
 | false=>
  rw[ALcf,ALcf];by_cases e:r.j.A=0
  ·rw[e];exact Ry g b c r f a h j e
  ·rw[show(r.j.A==0)=false from dz.2 e,ALcf,ALcf];unfold qh vF;by_cases d:a∈r.q
   ·rw[ALifp d,ALifp d];exact Rz g b c r f a h j e d
   ·rw[ALifn d,ALifn d];by_cases i:r.q.length=256
    ·rw[ALifp i,ALifp i];exact RA g b c r f a h j e d i
    ·rw[ALifn i,ALifn i];exact RB g b c r f a h j e d (by have:=f.n;omega)
theorem RC(g a d:Nat)(r:Rp)(e:Yo r)(s:r.j.A≠0)(f:r.j.nx<gD r.j.A r.m.B r.m.M r.m.C):aa YV 84 #[pt g 0] [pk (au g a d r)] [0] (λ_=>[pk (au g a d r)]) (λ_=> .tuple #[iN (a9 r.m r.j.A r.j.fr r.j.nx),iN (a9 r.m r.j.A r.j.tg r.j.nx),i6 0]):=aa.pkZ Tryz.func84 λL k=>by
 obtain⟨rfl⟩:=k;refine⟨[1,2],λ_=>[pk (aJ a r.m),pk (bH d r.q)],?_,rfl,λE=>⟨rfl,rfl,rfl⟩⟩;have b:=e.m;have h:=e.j;have o:=e.n;have q:=b.O;have l:=b.ly;have n:=b.np;refine fG Tryz.func84 λw p=>r0 [] [(2,i6 0),(3,i6 0),(4,i6 0)] [] (r0 [(1,.c [0,1,2] [1,2] (mI g a d r))] [(7,.bool (!((r.j.A:Int) != 0)))] [] ?_);have i:(!((r.j.A:Int) != 0))=false:=by(have j:((r.j.A:Int)==0)=false:=by rw[dz];omega);(rw[bne,j];rfl)
 exact cF (!((r.j.A:Int) != 0)) i (r0 [(3,.m (ls 0 ([iN r.j.A,iN r.j.fr,iN r.j.tg,iN r.j.nx]))),(7,.m (ld 0 (pt a 0))),(12,.m (ld 0 (iN r.j.nx))),(13,.c [1] [1] (QR a r.m b r.j h r.j.nx f)),] [(2,iN (a9 r.m r.j.A r.j.fr r.j.nx)),(4,i6 0)] [2,4] (rT [] 26 (r0 [(3,.m (ls 0 ([iN r.j.A,iN r.j.fr,iN r.j.tg,iN r.j.nx]))),(7,.m (ld 0 (pt a 0))),(12,.m (ld 0 (iN r.j.nx))),(13,.c [1] [1] (QS a r.m b r.j h r.j.nx f)),] [(3,iN (a9 r.m r.j.A r.j.tg r.j.nx)),(4,i6 0)] [3,4] (r0 [] [(2,iN (a9 r.m r.j.A r.j.fr r.j.nx)),(3,iN (a9 r.m r.j.A r.j.tg r.j.nx)),(4,i6 0)] [2,3,4] (lf ab.zero [1,2] [(0,0)] [])))))
theorem RD(g a b:Nat)(r:Rp)(e:Yo r)(i:r.j.A=0):aa YV 84 #[pt g 0] [pk (au g a b r)] [0] (λ_=>[pk (au g a b r)]) (λ_=> .tuple #[i6 0,i6 0,i6 51]):=aa.pkZ Tryz.func84 λL h=>by
 obtain⟨rfl⟩:=h;refine⟨[1,2],λ_=>[pk (aJ a r.m),pk (bH b r.q)],?_,rfl,λE=>⟨rfl,rfl,rfl⟩⟩;have d:=e.m;have o:=e.j;have l:=e.n;have n:=d.O;have j:=d.ly;have k:=d.np;refine fG Tryz.func84 λw m=>r0 [] [(2,i6 0),(3,i6 0),(4,i6 0)] [] (r0 [(1,.c [0,1,2] [1,2] (mI g a b r))] [(7,.bool (!((r.j.A:Int) != 0)))] [] ?_);have f:(!((r.j.A:Int) != 0))=true:=by rw[i];rfl
 exact cT (!((r.j.A:Int) != 0)) f (r0 [] [(2,i6 0),(3,i6 0),(4,i6 51)] [2,3,4] (lf ab.zero [1,2] [(0,0)] []))
end
end E
end Go.Proofs.YtbcodenfkijdnaaGreat
