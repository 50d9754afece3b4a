/- WholeModes, in 7 texts: part 3. For every input; no condition. -/
import Derived.Test.YtbcodenfkijdnaaGreatPm2
import Derived.WideShapes
import Derived.OpenShut
import Derived.WideOpen
import Derived.Deep.Slices
import Derived.IntWalk
set_option linter.unusedVariables false
set_option linter.unusedSimpArgs false
set_option maxRecDepth 100000
namespace Go.Proofs.YtbcodenfkijdnaaGreat
open List renaming getD_eq_getElem?_getD→Zl,range→Zn,getElem?_eq_getElem→Zo,replicate→Zp,length_append→Zq,length_take→Zr,length_map→Zs,getElem?_append_left→Zu,getElem?_append_right→Zz,length_drop→ZA,length_range→ZB,getElem?_eq_none→ZD,length_set→ZF,length_replicate→ZG,getElem?_take_of_lt→ZO,getElem?_set→ZP,getElem?_drop→ZT,append_nil→ZU,range_succ→ZV,flatten_cons→ZW,flatten_append→ZX,getElem?_cons_succ→Z0,getElem?_map→Z2,length_cons→Z4,length_tail→Z5,take_add_one→aac,ext_getElem?→aad,append_assoc→aae,getElem?_cons_zero→aaf,not_mem_nil→aag,flatMap_singleton→aai,drop_left'→aaj,map_append→aak,drop_drop→aam,getElem?_range→aao,flatMap_append→aap,mem_cons_self→aar,size_toArray→aas,foldl_append→aat,ext_getElem→aav,eq_nil_of_length_eq_zero→aaw,foldl_cons→aay,take_left'→aaz,range'→aaA,drop_eq_getElem_cons→aaG,take_of_length_le→aaI,toArray→aaK,mem_cons_of_mem→aaO,mem_append_left→aaQ,drop_replicate→aaR,replicate_succ→aaT,getElem_of_mem→aaU,take_length→aaY,range'_succ→aa0,flatten_nil→aa1,drop_zero→aa7
open Go.Proofs.Tryz renaming prog→Zm
open Nat renaming mul_comm→Zt,mul_assoc→Zw,mod_lt→Zx,mul_le_mul_right→Zy,xor_assoc→ZE,le_refl→ZH,xor_lt_two_pow→ZJ,xor_zero→ZL,le_trans→ZM,zero_add→ZN,div_lt_of_lt_mul→ZQ,xor_self→ZR,zero_le→ZY,pow_succ→ZZ,lt_of_le_of_lt→Z1,zero_xor→Z3,mod_eq_of_lt→Z6,pow_lt_pow_right→Z7,mod_two_eq_zero_or_one→Z9,lt_or_ge→aab,le_mul_of_pos_right→aah,not_lt_zero→aal,add_mul_div_left→aan,mul_le_mul→aaq,and_le_right→aax,div_add_mod→aaB,pow_mul→aaC,add_mul→aaE,add_mul_mod_self_left→aaH,add_sub_cancel_left→aaJ,le_mul_of_pos_left→aaM,xor_comm→aaN,zero_mul→aaP,mul_one→aaV,div_eq_of_lt→aa3,le_add_right→aa6,div_le_self→aa8,add_assoc→abb,mul_succ→abd,pow_zero→abe,succ_mul→abf
open Bool renaming and_eq_true→Zv,or_eq_false_iff→ZC,and_eq_false_iff→aaL,and_true→aa9,or_false→aba
open UInt8 renaming toNat_xor→ZI,xor_self→ZK,zero_xor→aaa,toNat_ofNat'→aaS,ofNat_toNat→aaW,xor_assoc→aaZ,xor_comm→aa2,toNat_lt→aa4,xor_zero→aa5
open Int renaming toNat_of_nonneg→ZS,natCast_mul→aaD
open Classical renaming byContradiction→Z8,not_forall→aaF
open Option renaming map_some→aau
open Go.World renaming cells?_some→aaX,cell?→abc
namespace E
section
open Go Go.RowKit Go.Shelf
theorem o9(m:Int):aa Zm 71 #[i6 m] [] [] N0 (λ_=> .bool ((m==1)||(m==2))):=by
 exact fG Tryz.func71 λw a=>r0 [] [(2,.bool false)] [] (r0 [] [(2,.bool ((m==1)||(m==2)))] [2] (lf ab.zero [] [] []))
theorem vB:aa Zm 75 #[i6 1] [] [] N0 (λ_=>i6 9):=by
 exact fG Tryz.func75 λw a=>r0 [] [(2,i6 0)] [] (r0 [] [(3,i6 1)] [] (rT [] 4 (r0 [] [(2,i6 9)] [2] (ao (i6 9) ab.zero bc [] [] []))))
theorem vC:aa Zm 75 #[i6 2] [] [] N0 (λ_=>i6 36):=by
 exact fG Tryz.func75 λw a=>r0 [] [(2,i6 0)] [] (r0 [] [(3,i6 2)] [] (rF [] 4 (rT [] 6 (r0 [] [(2,i6 36)] [2] (ao (i6 36) ab.zero bc [] [] [])))))
theorem y1:aa Zm 192 #[i6 1] [] [] N0 (λ_=>i6 8):=by
 refine fG Tryz.func192 λw f=>r0 [] [(2,i6 0)] [] (r0 [(1,.c [] [] (o9 1))] [(5,.bool (!((1==1)||(1==2))))] [] ?_);have e:(!((1==1)||(1==2)))=false:=by decide
 exact cF (!((1==1)||(1==2))) e (r0 [(1,.c [] [] (vB)),(2,.t (tb (a:=i6 72) (b:=i6 9) λ_ _ _ _=>oR (a:=72) (d:=9) Dc Om))] [(2,iN (72/9))] [2] (ao (iN (72/9)) ab.zero bc [] [] []))
theorem y2:aa Zm 192 #[i6 2] [] [] N0 (λ_=>i6 2):=by
 refine fG Tryz.func192 λw f=>r0 [] [(2,i6 0)] [] (r0 [(1,.c [] [] (o9 2))] [(5,.bool (!((2==1)||(2==2))))] [] ?_);have e:(!((2==1)||(2==2)))=false:=by decide
 exact cF (!((2==1)||(2==2))) e (r0 [(1,.c [] [] (vC)),(2,.t (tb (a:=i6 72) (b:=i6 36) λ_ _ _ _=>oR (a:=72) (d:=36) Dc Om))] [(2,iN (72/36))] [2] (ao (iN (72/36)) ab.zero bc [] [] []))
theorem Ea{α:Type}{en:α→List Value}{d:α}{a l m c N:Nat}{ys:List α}{t:TypeId}(h1: ∀x,(en x).length=1)(h:ys.length=N)(b:l+m≤N):dQ en (.slice (some ⟨a,l*1,none⟩) m c) ((ys.drop l).take m) [(a,.cells ((cN en d N ys).toArray) t (0,0))]:=
 .inr ⟨a,l*1,_,t,(0,0),c,by rw[show((ys.drop l).take m).length=m by rw[Zr,ZA];omega],by simp,Ck (d:=d) h1 h b⟩
theorem Eb(xs:List UInt8)(d:xs.length=72)(q:Nat)(g:q<8):aa Zm 194 #[.agg (rB 72 xs).toArray,i6 1,iN q] [] [] (λE=>[bD (E.val 0) ((xs.drop (9*q)).take 9)]) (λE=>(E.val 0)):=by
 refine fG Tryz.func194 λw f=>ra (λa=>[(3,pt (B0 a) 0),(6,.slice none 0 0)]) (λa=>[ob (B0 a) (rB 72 xs).toArray 217]) λa=>r0 [(5,.c [] [] (y1))] [(15,.bool ((decide ((q:Int)<0))||(decide (8≤(q:Int)))))] [] ?_;have e:((decide ((q:Int)<0))||(decide (8≤(q:Int))))=false:=by rw[bl Om,bl Om];rfl
 exact cF ((decide ((q:Int)<0))||(decide (8≤(q:Int)))) e (r0 [(1,.c [] [] (vB))] [(7,i6 9)] [] (rr (λb=>[(0,.m (sd 1 eB ([u1 0]) 5)),(3,ml 9 q),(6,ml 9 q),(8,ad (9*q) 9),(9,aM 217 (B0 a) 72 1 (9*q) 9),(10,.m (mD 1 0 oT (.slice (some ⟨(b 0).y 0,0,none⟩) 0 0) (.slice (some ⟨(a 0).y 0,(9*q)*1,none⟩) 9 (72-(9*q))) (xs:=[]) (ys:=(xs.drop (9*q)).take 9) (ob (B0 a) (rB 72 xs).toArray 217) (λ_ h=>by rw[show _=_ from h];exact Ea (λ_=>rfl) d Om) oS (λ_=>rfl) (by simp only[LL,d];omega)))]) (λb=>[(6,(b 10).val 0)]) [6] (λb L=>L++[bD ((b 10).val 0) ([]++((xs.drop (9*q)).take 9))]) λb=>lf (.l [] [] [(b 10).val 0]) [1] [] [] (hf:=by kernel_rfl)))
theorem Ec(xs:List UInt8)(d:xs.length=72)(q:Nat)(g:q<2):aa Zm 194 #[.agg (rB 72 xs).toArray,i6 2,iN q] [] [] (λE=>[bD (E.val 0) ((xs.drop (36*q)).take 36)]) (λE=>(E.val 0)):=by
 refine fG Tryz.func194 λw f=>ra (λa=>[(3,pt (B0 a) 0),(6,.slice none 0 0)]) (λa=>[ob (B0 a) (rB 72 xs).toArray 217]) λa=>r0 [(5,.c [] [] (y2))] [(15,.bool ((decide ((q:Int)<0))||(decide (2≤(q:Int)))))] [] ?_;have e:((decide ((q:Int)<0))||(decide (2≤(q:Int))))=false:=by rw[bl Om,bl Om];rfl
 exact cF ((decide ((q:Int)<0))||(decide (2≤(q:Int)))) e (r0 [(1,.c [] [] (vC))] [(7,i6 36)] [] (rr (λb=>[(0,.m (sd 1 eB ([u1 0]) 5)),(3,ml 36 q),(6,ml 36 q),(8,ad (36*q) 36),(9,aM 217 (B0 a) 72 1 (36*q) 36),(10,.m (mD 1 0 oT (.slice (some ⟨(b 0).y 0,0,none⟩) 0 0) (.slice (some ⟨(a 0).y 0,(36*q)*1,none⟩) 36 (72-(36*q))) (xs:=[]) (ys:=(xs.drop (36*q)).take 36) (ob (B0 a) (rB 72 xs).toArray 217) (λ_ h=>by rw[show _=_ from h];exact Ea (λ_=>rfl) d Om) oS (λ_=>rfl) (by simp only[LL,d];omega)))]) (λb=>[(6,(b 10).val 0)]) [6] (λb L=>L++[bD ((b 10).val 0) ([]++((xs.drop (36*q)).take 36))]) λb=>lf (.l [] [] [(b 10).val 0]) [1] [] [] (hf:=by kernel_rfl)))
theorem Ob(xs ys:List UInt8)(v:Value)(g:xs.length=72)(q:Nat)(j:q<8)(h:ys.length=9):aa Zm 155 #[.agg (rB 72 xs).toArray,i6 1,iN q,v] [.p (aK eB v ys)] [] N0 (λ_=> .agg (rB 72 (xs.take (9*q)++ys++xs.drop ((9*q)+ys.length))).toArray):=by
 refine fO Tryz.func155 0 rfl λe b=>fG Tryz.func155 λw i=>ra (λa=>[(4,pt (B0 a) 0),(8,pt (B1 a) 0)]) (λa=>[ob (B0 a) (rB 72 xs).toArray 217,ob (B1 a) (rB 72 (Zp 72 0)).toArray 217]) λa=>r0 [(1,.c [] [] (vB))] [(9,i6 9)] [] (r0 [(5,.c [] [] (y1)),(10,eP b.1 0),] [(25,.bool (((decide (0≤(q:Int)))&&(decide ((q:Int)<8)))&&((ys.length:Int)==9)))] [] ?_);have f:(((decide (0≤(q:Int)))&&(decide ((q:Int)<8)))&&((ys.length:Int)==9))=true:=by rw[cC Om,cC Om];simp [h]
 exact cT (((decide (0≤(q:Int)))&&(decide ((q:Int)<8)))&&((ys.length:Int)==9)) f (rs [(2,ml 9 q),(3,aL 217 (B0 a) 72 1 (9*q)),(5,.m (ve kB 1 (B0 a) ((9*q)*1) (72-(9*q)) (72-(9*q)) (rB 72 xs).toArray (rB 72 (xs.take (9*q)++ys++xs.drop ((9*q)+ys.length))).toArray 217 191 191 0 (.c e) v ys (cP b.1) Om (by rw[aas,kD];omega) (by rw[aaV];exact ALca aaK (r7 (d:=0) (λ_=>rfl) g rfl Om))))] 1 (ob (B0 a) (rB 72 (xs.take (9*q)++ys++xs.drop ((9*q)+ys.length))).toArray 217) (rs [(0,.l 1),(1,.s 2)] 2 (ob (B1 a) (rB 72 (xs.take (9*q)++ys++xs.drop ((9*q)+ys.length))).toArray 217) (lf ab.zero [] [(0,0)] [2])))
theorem Od(xs ys:List UInt8)(v:Value)(g:xs.length=72)(q:Nat)(j:q<2)(h:ys.length=36):aa Zm 155 #[.agg (rB 72 xs).toArray,i6 2,iN q,v] [.p (aK eB v ys)] [] N0 (λ_=> .agg (rB 72 (xs.take (36*q)++ys++xs.drop ((36*q)+ys.length))).toArray):=by
 refine fO Tryz.func155 0 rfl λe b=>fG Tryz.func155 λw i=>ra (λa=>[(4,pt (B0 a) 0),(8,pt (B1 a) 0)]) (λa=>[ob (B0 a) (rB 72 xs).toArray 217,ob (B1 a) (rB 72 (Zp 72 0)).toArray 217]) λa=>r0 [(1,.c [] [] (vC))] [(9,i6 36)] [] (r0 [(5,.c [] [] (y2)),(10,eP b.1 0),] [(25,.bool (((decide (0≤(q:Int)))&&(decide ((q:Int)<2)))&&((ys.length:Int)==36)))] [] ?_);have f:(((decide (0≤(q:Int)))&&(decide ((q:Int)<2)))&&((ys.length:Int)==36))=true:=by rw[cC Om,cC Om];simp [h]
 exact cT (((decide (0≤(q:Int)))&&(decide ((q:Int)<2)))&&((ys.length:Int)==36)) f (rs [(2,ml 36 q),(3,aL 217 (B0 a) 72 1 (36*q)),(5,.m (ve kB 1 (B0 a) ((36*q)*1) (72-(36*q)) (72-(36*q)) (rB 72 xs).toArray (rB 72 (xs.take (36*q)++ys++xs.drop ((36*q)+ys.length))).toArray 217 191 191 0 (.c e) v ys (cP b.1) Om (by rw[aas,kD];omega) (by rw[aaV];exact ALca aaK (r7 (d:=0) (λ_=>rfl) g rfl Om))))] 1 (ob (B0 a) (rB 72 (xs.take (36*q)++ys++xs.drop ((36*q)+ys.length))).toArray 217) (rs [(0,.l 1),(1,.s 2)] 2 (ob (B1 a) (rB 72 (xs.take (36*q)++ys++xs.drop ((36*q)+ys.length))).toArray 217) (lf ab.zero [] [(0,0)] [2])))
end
section
open Go Go.RowKit Go.Shelf
def iv(a:List Nat)(i:Nat):UInt8:=UInt8.ofNat (a.getD (i/8) 0/2^(8*(i%8)))
theorem Oe{a:List Nat}{k j:Nat}(b:j<8):iv a (8*k+j)=UInt8.ofNat (a.getD k 0/2^(8*j)):=by
 unfold iv;rw[show(8*k+j)/8=k by omega,show(8*k+j)%8=j by omega]
attribute [local irreducible] b4
theorem Of(b:List Nat)(x:b.length=8)(v: ∀i,b.getD i 0<18446744073709551616):aa Zm 196 #[.agg (rW 8 b).toArray] [] [] N0 (λ_=> .agg (rB 64 (b4 64 (iv b) (8*8))).toArray):=by
 refine fG Tryz.func196 λw u=>ra (λd=>[(1,pt (B0 d) 0),(2,pt (B1 d) 0)]) (λd=>[ob (B0 d) (rW 8 b).toArray 320,ob (B1 d) (rB 64 z6).toArray 43]) λd=>ra (λc=>[(3,pt (B0 c) 0)]) (λc=>[ob (B0 c) (rB 64 z6).toArray 43]) λc=>r0 [(0,.l 0)] [(7,.agg (rW 8 b).toArray),(8,i6 0)] [] ?_;refine lq (λk=>k≤8) (λk=>[(8,iN k)]) (λk L=>L.set 2 (ob (B0 c) (rB 64 (b4 64 (iv b) (8*k))).toArray 43)) (λk=>8-k) 0 Om Kr (by rw[Nat.mul_zero,NZ];kernel_rfl) (λk q=>?_);refine r0 [] [(9,.bool (decide ((k:Int)<8)))] [] ?_;refine cj (k:Int) 8 (λm g=>?_) λm g=>?_
 ·refine r0 [(1,.t (tv (Instr.index 320 (.agg (rW 8 b).toArray) (iN k)) (λ_=>IL (n:=8) (e:=44) Tryz.underlying320 Om (λ_=>by kernel_rfl) Kr (JA Om))))] [(4,iN k),(5,u6 ((b.getD k 0:Nat):Int))] [] (r0 [] [(12,i6 0)] [] ?_);refine lq (λj=>j≤8) (λj=>[(12,iN j)]) (λj L=>L.set 2 (ob (B0 c) (rB 64 (b4 64 (iv b) (8*k+j))).toArray 43)) (λj=>8-j) 0 Om Kr Kr (λj r=>?_);refine r0 [] [(13,.bool (decide ((j:Int)<8)))] [] ?_;refine cj (j:Int) 8 (λh f=>?_) λh f=>?_
  ·exact r0 [] [(6,iN j)] [] (rs [(1,ml 8 k),(3,ad (8*k) j),(6,ml 8 j),(7,.t (tv (convert 3 201 (iN (8*j))) (λ_=>m5 Tryz.underlying3 Tryz.underlying201 Om))),(8,.t (tv (av .shr 44 (.tmp 19) (.tmp 22) (u6 ((b.getD k 0:Nat):Int)) (u6 ((8*j:Nat):Int))) (λ_=>uA (8*j) Om))),(9,.t (tc (k:= .u64) (l:= .u8) (a:=u6 ((b.getD k 0/2^(8*j):Nat):Int)) λ_ _ _ o p=>uC o p)),(10,iA 43 .i64 (B0 c) 0 64 1 ((8*k)+j)),(11,wD 2 (B0 c) ((8*k)+j) 43 (u1 ((UInt8.ofNat (b.getD k 0/2^(8*j))).toNat:Int)) (rB 64 (b4 64 (iv b) (8*k+j))) (rB 64 ((b4 64 (iv b) (8*k+j)).set ((8*k)+j) (UInt8.ofNat (b.getD k 0/2^(8*j))))) (j6 Om) (mC (lj ..)))] 2 (ob (B0 c) (rB 64 ((b4 64 (iv b) (8*k+j)).set ((8*k)+j) (UInt8.ofNat (b.getD k 0/2^(8*j))))).toArray 43) (r0 [(0,ad j 1)] [(12,iN (j+1))] [12] (le (j+1) Om Om Kr [0,1,2] (by rw[←abb,←NY Om,Oe Om];kernel_rfl))))
  obtain rfl:j=8:=by omega
  exact lx (r0 [(0,ad k 1)] [(8,iN (k+1))] [8] (le (k+1) Om Om Kr [0,1,2] Kr))
 obtain rfl:k=8:=by omega
 exact lx (rs [(0,.l 2),(1,.s 1)] 1 (ob (B1 d) (rB 64 (b4 64 (iv b) (8*8))).toArray 43) (lf ab.zero [] [] [1]))
end
section
open Go Go.RowKit Go.Shelf
attribute [local irreducible] a6 bK cE aR aY
theorem Og:aa Zm 115 #[] [] [] (λE=>[ob (E.y 0) #[pt ((E.y 1)) 0,pt ((E.y 2)) 0] 242,ob (E.y 1) (rB 74 (a6 10)++rI 256 (bK 10)).toArray 298,ob (E.y 2) #[pt ((E.y 3)) 0,(E.val 0)] 309,ob (E.y 3) (rB 255 aR++rN 256 aY).toArray 312,bD (E.val 0) cE]) (λE=>pt ((E.y 0)) 0):=by
 exact fG Tryz.func115 λw b=>r0 [] [(0,.pointer none)] [] (rr (λa=>[(0,.c [] [0] (NR)),(1,.c [] [1] (LZ)),(2,.c [1] [2,3] (Nm (B1 a)))]) (λa=>[(0,pt (B4 a) 0)]) [0] (λa L=>L++[ob (B0 a) (rB 74 (a6 10)++rI 256 (bK 10)).toArray 298,ob (B1 a) (rB 255 aR++rN 256 aY).toArray 312,ob (B2 a) #[pt ((B1 a)) 0,((a 2).val 0)] 309,bD ((a 2).val 0) cE,ob (B4 a) #[pt ((B0 a)) 0,pt ((B2 a)) 0] 242]) λa=>lf (.l [(a 4).y 0,(B0 a),(B2 a),(B1 a)] [] [((a 2).val 0)]) [4,0,2,1,3] [] [])
end
section
open Go Go.RowKit Go.Shelf
def kI:Kd Zm Int:=⟨eI,[i6 0],74,3,0,1,λ_=>rfl,rfl,λ_=>rfl,ec.mk' Kr Kr rfl⟩
def jK(l:List Int):Int:=l.foldl max 0
def jF(l:List Int):Int:=l.foldl (λa k=>a+ed (k==1)) 0
theorem Ed{l:List Int}{k:Nat}(h:k<l.length):l.take (k+1)=l.take k++[l.getD k 0]:=by
 rw[aac,Zo h,Zl,Zo h];rfl
theorem Oh(l:List Int)(x:Int):jK (l++[x])=max (jK l) x:=by unfold jK;rw[aat];rfl
theorem Oi(l:List Int)(x:Int):jF (l++[x])=jF l+ed (x==1):=by unfold jF;rw[aat];rfl
theorem y4(b:Bool):0≤ed b∧ed b≤1:=by cases b<;>decide
theorem Ee(l:List Int):0≤jF l∧jF l≤l.length:=by
 suffices h: ∀(l:List Int) (a:Int),a≤l.foldl (λa k=>a+ed (k==1)) a∧l.foldl (λa k=>a+ed (k==1)) a≤a+l.length by
  have:=h l 0;unfold jF;omega
 intro l
 induction l with
 | nil=>intro a;simp
 | cons x l ih=>
  intro a;have b:=ih (a+ed (x==1));have c:=y4 (x==1);rw[aay,Z4];push_cast;omega
theorem Oj{l:List Int}{k:Nat}(h:k<l.length):jK (l.take (k+1))=max (jK (l.take k)) (l.getD k 0):=by rw[Ed h,Oh]
theorem Ok{l:List Int}{k:Nat}(h:k<l.length):jF (l.take (k+1))=jF (l.take k)+ed (l.getD k 0==1):=by rw[Ed h,Oi]
attribute [local irreducible] jK jF ed
def gF(a:List Int):Int:=(bif (jK a) != 1 then 0 else(jF a))
theorem Ef(v:Value)(a:List Int)(u:a.length≤1000):aa Zm 152 #[v] [.p (aK eI v a)] [] N0 (λ_=> .agg #[i6 (jK a),i6 (gF a)]):=by
 refine fO Tryz.func152 0 rfl λg e=>fG Tryz.func152 λw r=>ra (λf=>[(2,pt (B0 f) 0)]) (λf=>[ob (B0 f) #[i6 0,i6 0] 79]) λf=>ra (λb=>[(3,pt (B0 b) 0)]) (λb=>[ob (B0 b) #[i6 0,i6 0] 79]) λb=>r0 [(1,eP e.1 0)] [(6,v),(7,iN a.length),(8,i6 0)] [] ?_;refine lq (λk=>k≤a.length) (λk=>[(8,iN k)]) (λk L=>L.set 2 (ob (B0 b) #[i6 (jK (a.take k)),i6 (jF (a.take k))] 79)) (λk=>a.length-k) 0 Om Kr (by rw[List.take_zero,show jK []=0 by unfold jK;rfl,show jF []=0 by unfold jF;rfl];kernel_rfl) (λk q=>?_);have m:=Ee (a.take k);have n:(a.take k).length≤k:=by rw[Zr];omega
 have o:=y4 (a.getD k 0==1);refine r0 [] [(9,.bool (decide ((k:Int)<(a.length:Int))))] [] ?_;refine cj (k:Int) (a.length:Int) (λj i=>?_) λj i=>?_
 ·exact r0 [(0,fv e.1 0 k 1),(1,ji kI e.1 0 k 0)] [(5,i6 (a.getD k 0))] [] (rs [(1,.l 2),(3,.t (tv (Builtin.max_ #[3,3] 3 #[i6 (jK (a.take k)),i6 (a.getD k 0)]) (λ_=>r9 _ _ _ _))),(5,.s 2)] 2 (ob (B0 b) #[i6 (max (jK (a.take k)) (a.getD k 0)),i6 (jF (a.take k))] 79) (rs [(1,.l 2),(4,.c [] [] (D7 ((a.getD k 0)==1))),(5,aI (jF (a.take k)) ((ed ((a.getD k 0)==1))) Om),(7,.s 2)] 2 (ob (B0 b) #[i6 (max (jK (a.take k)) (a.getD k 0)),i6 ((jF (a.take k))+(ed ((a.getD k 0)==1)))] 79) (r0 [(0,ad k 1)] [(8,iN (k+1))] [8] (le (k+1) Om Om Kr [0,1,2] (by rw[Oj Om,Ok Om];kernel_rfl)))))
 obtain rfl:k=a.length:=by omega
 refine cl [.c g,ob (B0 f) #[i6 0,i6 0] 79,ob (B0 b) #[i6 (jK a),i6 (jF a)] 79] (by rw[aaY];kernel_rfl) (lx (r0 [(1,.l 2)] [(27,.bool ((jK a) != 1))] [] ?_));refine cJ ((jK a) != 1) N0 (λc=>[.c g,ob (B0 f) #[i6 0,i6 0] 79,ob (B0 b) #[i6 (jK a),i6 (bif c then 0 else(jF a))] 79]) (λd=>?_) (λd=>?_) ?_
 ·have h:=bne_iff_ne.1 d;refine rs [(1,.s 2)] 2 (ob (B0 b) #[i6 (jK a),i6 0] 79) ?_;exact cm Kr [0,1,2] Kr
 ·have h:=xT d;exact cm Kr [0,1,2] Kr
 exact rs [(0,.l 2),(1,.s 1)] 1 (ob (B0 f) #[i6 (jK a),i6 (bif (jK a) != 1 then 0 else(jF a))] 79) (lf ab.zero [] [(0,0)] [1])
def iw(h:List UInt8)(k:Nat):List UInt8:=h.take (32*k)++Zp (64-32*k) 0
theorem Ol{h:List UInt8}(a:h.length=64){k:Nat}(b:k≤2):(iw h k).length=64:=by unfold iw;rw[Zq,Zr,ZG,a];omega
theorem On(h:List UInt8):iw h 0=Zp 64 0:=rfl
theorem y7{h:List UInt8}(a:h.length=64):iw h 2=h:=by unfold iw;rw[aaI Om,show 64-32*2=0 from rfl,List.replicate_zero,ZU]
theorem Oo{h:List UInt8}(b:h.length=64){k:Nat}(c:k<2):(iw h k).take (32*k)++(h.drop (k*32)).take 32++(iw h k).drop (32*k+32)=iw h (k+1):=by
 unfold iw;have a:(h.take (32*k)).length=32*k:=by rw[Zr];omega
 rw[aaz a,←aam,aaj a,aaR,Zt k 32,←List.take_add,show 32*k+32=32*(k+1) by omega,show 64-32*k-32=64-32*(k+1) by omega]
attribute [local irreducible] iw
theorem Oq(h:List UInt8)(a:h.length=64):aa Zm 198 #[.agg (rB 64 h).toArray] [] [] N0 (λ_=> .agg (rB 64 h).toArray):=by
 refine fG Tryz.func198 λw p=>ra (λb=>[(1,pt (B0 b) 0),(2,pt (B1 b) 0)]) (λb=>[ob (B0 b) (rB 64 h).toArray 324,ob (B1 b) (rB 64 z6).toArray 43]) λb=>ra (λc=>[(3,pt (B0 c) 0)]) (λc=>[ob (B0 c) (rB 64 z6).toArray 43]) λc=>r0 [(0,.l 0)] [(6,.agg (rB 64 h).toArray),(7,i6 0)] [] ?_;refine lq (λk=>k≤2) (λk=>[(7,iN k)]) (λk L=>L.set 2 (ob (B0 c) (rB 64 (iw h k)).toArray 43)) (λk=>2-k) 0 Om Kr (by rw[On];kernel_rfl) (λk j=>?_);have g:=Ol a j;refine r0 [] [(8,.bool (decide ((k:Int)<2)))] [] ?_;refine cj (k:Int) 2 (λo i=>?_) λo i=>?_
 ·exact rr (λ_=>[(1,.t (tv (Instr.index 324 (.agg (rB 64 h).toArray) (iN k)) (λ_=>JP (n:=2) (m:=32) (N:=64) (e:=267) Kr (λ_=>rfl) Om rfl a))),(4,.s 3)]) (λf=>[(5,pt (B2 f) 0),(4,iN k)]) [] (λf L=>L++[ob (B2 f) (rB 32 ((h.drop (k*32)).take 32)).toArray 267]) λf=>rs [(1,ml 32 k),(2,aL 43 (B0 c) 64 1 (32*k)),(3,aS 267 (B2 f) 32 1),(4,.m (ve kB 2 (B0 c) ((32*k)*1) (64-(32*k)) (64-(32*k)) (rB 64 (iw h k)).toArray (rB 64 ((iw h k).take (32*k)++((h.drop (k*32)).take 32)++(iw h k).drop ((32*k)+32))).toArray 43 191 191 3 (ob (B2 f) (rB 32 ((h.drop (k*32)).take 32)).toArray 267) (.slice (some ⟨(f 2).y 0,0,none⟩) 32 32) ((h.drop (k*32)).take 32) (λ_ h=>by rw[show _=_ from h];exact oZ (λ_=>rfl) (by rw[Zr,ZA,a];omega)) (by rw[(show((h.drop (k*32)).take 32).length=32 from(by rw[Zr,ZA,a];omega))];omega) (by rw[aas,kD];rw[(show((h.drop (k*32)).take 32).length=32 from(by rw[Zr,ZA,a];omega))];omega) (by rw[aaV];exact ALca aaK (r7 (d:=0) (λ_=>rfl) (show(iw h k).length=64 by(simp only[LL,g,a];done)) (show((h.drop (k*32)).take 32).length=32 from(by rw[Zr,ZA,a];omega)) Om))))] 2 (ob (B0 c) (rB 64 ((iw h k).take (32*k)++((h.drop (k*32)).take 32)++(iw h k).drop ((32*k)+32))).toArray 43) (r0 [(0,ad k 1)] [(7,iN (k+1))] [7] (le (k+1) Om Om Kr [0,1,2] (by rw[←Oo a Om];kernel_rfl)))
 obtain rfl:k=2:=by omega
 exact cl [ob (B0 b) (rB 64 h).toArray 324,ob (B1 b) (rB 64 z6).toArray 43,ob (B0 c) (rB 64 h).toArray 43] (by rw[y7 a];kernel_rfl) (lx (rs [(0,.l 2),(1,.s 1)] 1 (ob (B1 b) (rB 64 h).toArray 43) (lf ab.zero [] [] [1])))
theorem Eg(ys:List UInt8): ∀k,k≤8→aC (ys.take 8) 0 k=aC ys 0 k
 | 0,_=>rfl
 | k+1,h=>by
  rw[y0,y0,Eg ys k Om];rw[show(ys.take 8).getD k 0=ys.getD k 0 by rw[Zl,Zl,ZO Om]]
theorem Ot(v:Value)(ys:List UInt8)(a:8≤ys.length):aa Zm 228 #[gY v 0 8 1] [.p (aK eB v ys)] [] N0 (λ_=> .int .u64 ((aC ys 0 8:Nat):Int)):=by
 rw[←Eg ys 8 (ZH _)];exact aa.at (N4 (gY v 0 8 1) (ys.take 8) (by rw[Zr];omega)) (bO (λ_ h=>aK.take (en:=eB) (k:=1) (λ_=>rfl) h a) λ_ h=>h)
attribute [local irreducible] dm dd bp fY aC fX aW
def kg:List Int:=[-1,64,65, -1,66, -1, -1,0,67, -1, -1,1, -1,2,3, -1,68, -1, -1,4, -1,5,6, -1, -1,7,8, -1,9, -1, -1,56,69, -1, -1,10, -1,11,12, -1, -1,13,14, -1,15, -1, -1,57, -1,16,17, -1,18, -1, -1,58,19, -1, -1,59, -1,60,61, -1,70, -1, -1,20, -1,21,22, -1, -1,23,24, -1,25, -1, -1,62, -1,26,27, -1,28, -1, -1,63,29, -1, -1,72, -1,73, -1, -1, -1,30,31, -1,32, -1, -1, -1,33, -1, -1, -1, -1, -1, -1, -1,34, -1, -1, -1, -1, -1, -1, -1, -1, -1, -1, -1, -1, -1, -1, -1,71, -1, -1,35, -1,36,37, -1, -1,38,39, -1,40, -1, -1, -1, -1,41,42, -1,43, -1, -1, -1,44, -1, -1, -1, -1, -1, -1, -1, -1,45,46, -1,47, -1, -1, -1,48, -1, -1, -1, -1, -1, -1, -1,49, -1, -1, -1, -1, -1, -1, -1, -1, -1, -1, -1, -1, -1, -1, -1, -1,50,51, -1,52, -1, -1, -1,53, -1, -1, -1, -1, -1, -1, -1,54, -1, -1, -1, -1, -1, -1, -1, -1, -1, -1, -1, -1, -1, -1, -1,55, -1, -1, -1, -1, -1, -1, -1, -1, -1, -1, -1, -1, -1, -1, -1, -1, -1, -1, -1, -1, -1, -1, -1, -1, -1, -1, -1, -1, -1, -1, -1]
theorem Eh:bK 10=kg:=by decide+kernel
theorem hp: ∀k:UInt8,(dm k (bK 10)==1)=true→0≤dd k (bK 10):=by
 have h: ∀n:Nat,n<256→(dm (UInt8.ofNat n) kg==1)=true→0≤dd (UInt8.ofNat n) kg:=by decide+kernel
 intro k;have:=h k.toNat k.toNat_lt;rw[Eh];rwa [aaW] at this
theorem lB(x:Int)(b:Bool):(b9 x b).length=3:=by cases b<;>rfl
theorem Ou{b:Bool}{X Y:List UInt8}(a:X.length=36)(c:Y.length=36):(bif b then X.drop 4 else Y.drop 4).length=32:=by cases b<;>simp [a,c]
theorem y8{d v:List UInt8}(a:d.length=36):(fX d v).length=32:=by unfold fX;exact Ou (by rw[ZF];exact a) a
attribute [local irreducible] a6 bK cE aR aY b9 fx cY eY
def ki(ys:List UInt8)(x:Int):Int:=(bif (dm ((bp (aC ys 0 8) ((pc ((x%8388608).toNat)%2:Nat):Int) 0 (a6 10))^^^(ys.getD 8 0)) (bK 10))==0 then 0 else(bif (dm ((bp (aC ys 0 8) ((pc ((x%8388608).toNat)%2:Nat):Int) 0 (a6 10))^^^(ys.getD 8 0)) (bK 10))==1 then 1 else(bif (dm ((bp (aC ys 0 8) ((pc ((x%8388608).toNat)%2:Nat):Int) 0 (a6 10))^^^(ys.getD 8 0)) (bK 10))==2 then 2 else 3)))
theorem Ov(l i o:Nat)(v:Value)(ys:List UInt8)(n:ys.length=9)(x:Int):aa Zm 195 #[pt l 0,v,i6 x] [ob l #[pt i 0,pt o 0] 242,ob i (rB 74 (a6 10)++rI 256 (bK 10)).toArray 298,.p (aK eB v ys)] [] N0 (λ_=> .tuple #[u6 (((fY (aC ys 0 8) (ys.getD 8 0) ((pc ((x%8388608).toNat)%2:Nat):Int) (a6 10) (bK 10)):Nat):Int),i6 (ki ys x)]):=by
 refine fO Tryz.func195 2 rfl λd a=>fG Tryz.func195 λw r=>r0 [] [(6,u6 0),(7,i6 0)] [] (rr (λq=>[(3,.m (ld 0 (pt i 0))),(5,.m (CX 2 (.c d) 8 1 (cP a) Om)),(6,.c [2] [] (aa.at (rd':=[.c d]) (Ot v ys Om) (eD a (λ_ h=>h)))),(8,fv a.1 2 8 1),(9,ji kB a.1 2 8 0),(11,.c [] [] (vz x)),(12,.c [1] [] (NM i (aC ys 0 8) (ys.getD 8 0) ((pc ((x%8388608).toNat)%2:Nat):Int) (a6 10) (bK 10) (qm ys 0 (ZH 8)) (by(simp only[LL,jm,jW,n];done)) (by(simp only[LL,jm,jW,n];done)) hp)),]) (λ_=>[(8,u6 (((fY (aC ys 0 8) (ys.getD 8 0) ((pc ((x%8388608).toNat)%2:Nat):Int) (a6 10) (bK 10)):Nat):Int)),(9,i6 (dm ((bp (aC ys 0 8) ((pc ((x%8388608).toNat)%2:Nat):Int) 0 (a6 10))^^^(ys.getD 8 0)) (bK 10)))]) [] (λ_ L=>L) λq=>r0 [] [(28,i6 (dm ((bp (aC ys 0 8) ((pc ((x%8388608).toNat)%2:Nat):Int) 0 (a6 10))^^^(ys.getD 8 0)) (bK 10)))] [] (r0 [] [(29,.bool ((dm ((bp (aC ys 0 8) ((pc ((x%8388608).toNat)%2:Nat):Int) 0 (a6 10))^^^(ys.getD 8 0)) (bK 10))==0))] [] ?_));refine cX (dm ((bp (aC ys 0 8) ((pc ((x%8388608).toNat)%2:Nat):Int) 0 (a6 10))^^^(ys.getD 8 0)) (bK 10)) 0 (λf j=>?_) λf j=>?_
 ·exact r0 [] [(6,u6 (((fY (aC ys 0 8) (ys.getD 8 0) ((pc ((x%8388608).toNat)%2:Nat):Int) (a6 10) (bK 10)):Nat):Int)),(7,i6 0)] [6,7] (ao (.tuple #[u6 (((fY (aC ys 0 8) (ys.getD 8 0) ((pc ((x%8388608).toNat)%2:Nat):Int) (a6 10) (bK 10)):Nat):Int),i6 0]) ab.zero (by((try simp only[ki]);(repeat (first | rw[f] | rw[ALct])))<;>rfl) [] [(0,0),(1,1),(2,2)] [])
 refine r0 [] [(32,.bool ((dm ((bp (aC ys 0 8) ((pc ((x%8388608).toNat)%2:Nat):Int) 0 (a6 10))^^^(ys.getD 8 0)) (bK 10))==1))] [] ?_;refine cX (dm ((bp (aC ys 0 8) ((pc ((x%8388608).toNat)%2:Nat):Int) 0 (a6 10))^^^(ys.getD 8 0)) (bK 10)) 1 (λg k=>?_) λg k=>?_
 ·exact r0 [] [(6,u6 (((fY (aC ys 0 8) (ys.getD 8 0) ((pc ((x%8388608).toNat)%2:Nat):Int) (a6 10) (bK 10)):Nat):Int)),(7,i6 1)] [6,7] (ao (.tuple #[u6 (((fY (aC ys 0 8) (ys.getD 8 0) ((pc ((x%8388608).toNat)%2:Nat):Int) (a6 10) (bK 10)):Nat):Int),i6 1]) ab.zero (by((try simp only[ki]);(repeat (first | rw[f] | rw[g] | rw[ALct] | rw[ALcf])))<;>rfl) [] [(0,0),(1,1),(2,2)] [])
 refine r0 [] [(35,.bool ((dm ((bp (aC ys 0 8) ((pc ((x%8388608).toNat)%2:Nat):Int) 0 (a6 10))^^^(ys.getD 8 0)) (bK 10))==2))] [] ?_;refine cX (dm ((bp (aC ys 0 8) ((pc ((x%8388608).toNat)%2:Nat):Int) 0 (a6 10))^^^(ys.getD 8 0)) (bK 10)) 2 (λb e=>?_) λb e=>?_
 ·exact r0 [] [(6,u6 (((fY (aC ys 0 8) (ys.getD 8 0) ((pc ((x%8388608).toNat)%2:Nat):Int) (a6 10) (bK 10)):Nat):Int)),(7,i6 2)] [6,7] (ao (.tuple #[u6 (((fY (aC ys 0 8) (ys.getD 8 0) ((pc ((x%8388608).toNat)%2:Nat):Int) (a6 10) (bK 10)):Nat):Int),i6 2]) ab.zero (by((try simp only[ki]);(repeat (first | rw[f] | rw[g] | rw[b] | rw[ALct] | rw[ALcf])))<;>rfl) [] [(0,0),(1,1),(2,2)] [])
 exact r0 [] [(6,u6 (((fY (aC ys 0 8) (ys.getD 8 0) ((pc ((x%8388608).toNat)%2:Nat):Int) (a6 10) (bK 10)):Nat):Int)),(7,i6 3)] [6,7] (ao (.tuple #[u6 (((fY (aC ys 0 8) (ys.getD 8 0) ((pc ((x%8388608).toNat)%2:Nat):Int) (a6 10) (bK 10)):Nat):Int),i6 3]) ab.zero (by((try simp only[ki]);(repeat (first | rw[f] | rw[g] | rw[b] | rw[ALcf])))<;>rfl) [] [(0,0),(1,1),(2,2)] [])
end
section
open Go Go.RowKit Go.Shelf
theorem Ow(a g:Nat)(u:Value)(d v:List UInt8)(c:d.length=36)(hv:v.length=3)(D:List UInt8)(b:fX d v=D)(k:Nat)(e:fx (aW d v)=k)(p:Int)(hp:cY (aW d v)=p)(q:UInt8)(f:eY (aW d v)=q):aa Zm 229 #[pt a 0,.agg (rB 36 d).toArray,.agg (rB 3 v).toArray] [ob a #[pt g 0,u] 309,ob g (rB 255 aR++rN 256 aY).toArray 312,.p (aK eB u cE)] [] N0 (λ_=> .tuple #[.agg (rB 32 D).toArray,.agg #[iN k,i6 p,u1 (q.toNat:Int)]]):=by
 subst b e hp f;exact NI a g u d v c hv
def pa(a:Nat)(b:Int)(vl:UInt8):Int:=(bif (a:Int)==0 then 0 else(bif (a:Int)==1 then 1 else(bif (((a:Int)==2)&&(b==38))&&((vl.toNat:Int)==128) then 2 else 3)))
theorem Ox(G I j g:Nat)(u v:Value)(ys:List UInt8)(F:ys.length=36)(x:Int)(h0: -9223372036854775808≤x)(h1:x≤9223372036854775807)(D:List UInt8)(H:fX ys (b9 x false)=D)(y:D.length=32)(a:Nat)(z:fx (aW ys (b9 x false))=a)(e:Int)(A:cY (aW ys (b9 x false))=e)(vl:UInt8)(C:eY (aW ys (b9 x false))=vl):aa Zm 197 #[pt G 0,v,i6 x] [ob G #[pt I 0,pt j 0] 242,ob j #[pt g 0,u] 309,ob g (rB 255 aR++rN 256 aY).toArray 312,.p (aK eB u cE),.p (aK eB v ys)] [] N0 (λ_=> .tuple #[.agg (rB 32 D).toArray,i6 (pa a e vl)]):=by
 refine fO Tryz.func197 3 rfl λq B=>fO Tryz.func197 4 rfl λi n=>fG Tryz.func197 λw M=>ra (λb=>[(6,pt (B0 b) 0),(7,i6 0)]) (λb=>[ob (B0 b) (rB 32 (Zp 32 0)).toArray 267]) λb=>rr (λ_=>[(3,.m (ld 0 (pt j 0))),(5,.m (C0 4 (.c i) 36 (cP n.1) Dc Om)),(6,.m (C1 4 (.c i) 36 (rB 36 ys) (cP n.1) (kX F).symm Om (C2 (λ_=>rfl) F))),(8,.c [] [] (D8 x Om Om false)),(9,.c [1,2,3] [] (aa.at (rd':=[ob j #[pt g 0,u] 309,ob g (rB 255 aR++rN 256 aY).toArray 312,.c q]) (Ow j g u ys (b9 x false) (by(simp only[LL,lB,F,y];done)) bc D H a z e A vl C) (atS (atS (eD B (λ_ h=>h)))))),(13,.m (al 6)),(14,.m (al 7)),(15,.s 6),(16,.s 7)]) (λf=>[(8,pt ((f 13).y 0) 0),(9,pt ((f 14).y 0) 0)]) [] (λf L=>L++[ob ((f 13).y 0) (rB 32 D).toArray 267,ob ((f 14).y 0) #[iN a,i6 e,u1 (vl.toNat:Int)] 368]) λf=>r0 [(1,.l 7)] [(23,.bool ((a:Int)==0))] [] ?_;refine cX (a:Int) 0 (λk r=>?_) λk r=>?_
 ·exact rr (λ_=>[(0,.l 6),(1,.s 5)]) (λ_=>[(7,i6 0)]) [7] (λ_ L=>L.set 5 (ob (B0 b) (rB 32 D).toArray 267)) λN=>ao (.tuple #[.agg (rB 32 D).toArray,i6 0]) ab.zero (by((try simp only[pa]);(repeat (first | rw[k] | rw[ALct])))<;>rfl) [] [(0,0),(1,1),(2,2),(3,3),(4,4)] [5]
 refine r0 [(1,.l 7)] [(28,.bool ((a:Int)==1))] [] ?_;refine cX (a:Int) 1 (λo t=>?_) λo t=>?_
 ·exact rr (λ_=>[(0,.l 6),(1,.s 5)]) (λ_=>[(7,i6 1)]) [7] (λ_ L=>L.set 5 (ob (B0 b) (rB 32 D).toArray 267)) λO=>ao (.tuple #[.agg (rB 32 D).toArray,i6 1]) ab.zero (by((try simp only[pa]);(repeat (first | rw[k] | rw[o] | rw[ALct] | rw[ALcf])))<;>rfl) [] [(0,0),(1,1),(2,2),(3,3),(4,4)] [5]
 refine r0 [(1,.m (ld 7 (iN a))),(5,.m (ld 7 (i6 e))),(10,.m (ld 7 (u1 (vl.toNat:Int)))),] [(33,.bool ((((a:Int)==2)&&(e==38))&&((vl.toNat:Int)==128)))] [] ?_;refine cB ((((a:Int)==2)&&(e==38))&&((vl.toNat:Int)==128)) (λd=>?_) λd=>?_
 ·exact rr (λ_=>[(0,.l 6),(1,.s 5)]) (λ_=>[(7,i6 2)]) [7] (λ_ L=>L.set 5 (ob (B0 b) (rB 32 D).toArray 267)) λJ=>ao (.tuple #[.agg (rB 32 D).toArray,i6 2]) ab.zero (by((try simp only[pa]);(repeat (first | rw[k] | rw[o] | rw[d] | rw[ALct] | rw[ALcf])))<;>rfl) [] [(0,0),(1,1),(2,2),(3,3),(4,4)] [5]
 exact rr (λ_=>[(0,.l 6),(1,.s 5)]) (λ_=>[(7,i6 3)]) [7] (λ_ L=>L.set 5 (ob (B0 b) (rB 32 D).toArray 267)) λK=>ao (.tuple #[.agg (rB 32 D).toArray,i6 3]) ab.zero (by((try simp only[pa]);(repeat (first | rw[k] | rw[o] | rw[d] | rw[ALcf])))<;>rfl) [] [(0,0),(1,1),(2,2),(3,3),(4,4)] [5]
def nm(ys:List UInt8)(x:Int):Int:=pa (fx (aW ys (b9 x false))) (cY (aW ys (b9 x false))) (eY (aW ys (b9 x false)))
theorem Oy(b c a g:Nat)(u v:Value)(ys:List UInt8)(d:ys.length=36)(x:Int)(h0: -9223372036854775808≤x)(h1:x≤9223372036854775807):aa Zm 197 #[pt b 0,v,i6 x] [ob b #[pt c 0,pt a 0] 242,ob a #[pt g 0,u] 309,ob g (rB 255 aR++rN 256 aY).toArray 312,.p (aK eB u cE),.p (aK eB v ys)] [] N0 (λ_=> .tuple #[.agg (rB 32 (fX ys (b9 x false))).toArray,i6 (nm ys x)]):=
 Ox b c a g u v ys d x h0 h1 _ rfl (y8 d) _ rfl _ rfl _ rfl
end
section
open Go Go.RowKit Go.Shelf
def e8{α:Type}(d:α)(N:Nat)(f:Nat→α)(n:Nat):List α:=(Zn N).map λi=>if i<n then f i else d
theorem nn{α:Type}(d:α)(N:Nat)(f:Nat→α)(n:Nat):(e8 d N f n).length=N:=by unfold e8;rw[Zs,ZB]
theorem Ei{α:Type}{d:α}{N:Nat}{f:Nat→α}{n i:Nat}(h:i<N):(e8 d N f n).getD i d=if i<n then f i else d:=by
 unfold e8;rw[Zl,Z2,aao h];rfl
theorem Oz{α:Type}{d:α}{N:Nat}{f:Nat→α}{n:Nat}(h:n<N):(e8 d N f n).set n (f n)=e8 d N f (n+1):=by
 apply aad;intro i;rw[ZP];rcases aab i N with a | a
 ·unfold e8;simp only[Zs,ZB,Z2,aao a,aau];by_cases e:n=i
  ·subst e;rw[ALifp rfl,ALifp h,ALifp Om]
  ·rw[ALifn e];by_cases b:i<n
   ·rw[ALifp b,ALifp Om]
   ·rw[ALifn b,ALifn Om]
 ·rw[ZD (l:=e8 d N f (n+1)) (by rw[nn];exact a),ZD (l:=e8 d N f n) (by rw[nn];exact a),nn];rw[ALifn Om]
theorem OA{α:Type}(d:α)(N:Nat)(f:Nat→α):e8 d N f 0=Zp N d:=by
 apply aad;intro i;rcases aab i N with a | a
 ·unfold e8;simp [a]
 ·rw[ZD (by rw[nn];exact a),ZD (by simpa using a)]
def w9(xs:List UInt8)(k:Nat):List UInt8:=(xs.drop (9*k)).take 9
def iT(xs:List UInt8)(k:Nat):List UInt8:=(xs.drop (36*k)).take 36
def dW(xs:List UInt8)(x:Int)(k:Nat):Nat:=fY (aC (w9 xs k) 0 8) ((w9 xs k).getD 8 0) ((pc ((x%8388608).toNat)%2:Nat):Int) (a6 10) (bK 10)
def dK(xs:List UInt8)(x:Int)(k:Nat):Int:=ki (w9 xs k) x
def cW(xs:List UInt8)(x:Int)(k:Nat):List UInt8:=fX (iT xs k) (b9 x false)
def cK(xs:List UInt8)(x:Int)(k:Nat):Int:=nm (iT xs k) x
theorem OB{d:Nat}{k:UInt8}{a:Int}{cl:List UInt8}{b:List Int}(h:d<18446744073709551616):fY d k a cl b<18446744073709551616:=by
 unfold fY;cases e:((dm ((bp d a 0 cl)^^^k) b)==1)&&(decide ((dd ((bp d a 0 cl)^^^k) b)<64)) with
 | false=>exact h
 | true=>
  rw[Zv] at e;have c:=of_decide_eq_true e.2;rw[ALct,Nat.one_mul];exact ZJ (n:=64) h (Z7 Dc Om)
theorem OD(xs:List UInt8)(x:Int)(k:Nat):dW xs x k<18446744073709551616:=OB (qm _ _ Dc)
theorem OE{N:Nat}{f:Nat→Nat}{n B:Nat}(hB:0<B)(h: ∀i,f i<B)(i:Nat):(e8 0 N f n).getD i 0<B:=by
 rcases aab i N with a | a
 ·rw[Ei a];split
  ·exact h i
  ·exact hB
 ·rw[Zl,ZD (by rw[nn];exact a)];exact hB
theorem nq{xs:List UInt8}{k:Nat}(b:xs.length=72)(a:k<2):(iT xs k).length=36:=by unfold iT;rw[Zr,ZA];omega
theorem vD{f:Nat→List UInt8}{m:Nat}(h: ∀i,(f i).length=m)(k:Nat):((Zn k).flatMap f).length=m*k:=by
 induction k with
 | zero=>rfl
 | succ k ih=>rw[ZV,aap,Zq,ih,aai,h,abd]
theorem Ej{f:Nat→List UInt8}{m N:Nat}(h: ∀i,(f i).length=m){k:Nat}:
  ((Zn k).flatMap f++Zp (N-m*k) (0:UInt8)).take (m*k)++f k++((Zn k).flatMap f++Zp (N-m*k) (0:UInt8)).drop (m*k+m)=(Zn (k+1)).flatMap f++Zp (N-m*(k+1)) 0:=by
 have a:=vD h k;rw[aaz a,←aam,aaj a,aaR,ZV,aap,aai,show N-m*k-m=N-m*(k+1) by rw[abd];omega]
def fD(f:Nat→List UInt8)(k:Nat):List UInt8:=(Zn k).flatMap f++Zp (64-32*k) 0
theorem vE{f:Nat→List UInt8}(h: ∀i,(f i).length=32){k:Nat}(a:k≤2):(fD f k).length=64:=by
 unfold fD;rw[Zq,vD h,ZG];omega
theorem OF{f:Nat→List UInt8}(h: ∀i,(f i).length=32){k:Nat}:(fD f k).take (0+k*32)++f k++(fD f k).drop (0+k*32+32)=fD f (k+1):=by
 have:=Ej (N:=64) h (k:=k);rw[ZN,Zt k 32];exact this
theorem OG(f:Nat→List UInt8):fD f 0=Zp 64 0:=rfl
theorem OH{xs:List UInt8}{x:Int}{k:Nat}(h:(iT xs k).length=36):(cW xs x k).length=32:=y8 h
def iU(xs:List UInt8)(x:Int)(k:Nat):List UInt8:=if k<2 then cW xs x k else Zp 32 0
theorem Ek{xs:List UInt8}{x:Int}{k:Nat}(h:k<2):iU xs x k=cW xs x k:=ALifp h
theorem sS{xs:List UInt8}(a:xs.length=72)(x:Int)(k:Nat):(iU xs x k).length=32:=by
 unfold iU
 split
 ·rename_i h;exact OH (nq a h)
 ·rfl
attribute [local irreducible] dm dd bp fY aC fX aW a6 bK cE aR aY b9 fx cY eY ki nm e8 fD b4 jK jF ed
theorem OI(i g j:Nat)(xs:List UInt8)(o:xs.length=72)(x:Int):aa Zm 151 #[pt i 0,i6 1,.agg (rB 72 xs).toArray,i6 x] [ob i #[pt g 0,pt j 0] 242,ob g (rB 74 (a6 10)++rI 256 (bK 10)).toArray 298] [] (λE=>[dq (E.val 0) ((Zn 8).map (dK xs x))]) (λE=> .tuple #[.agg (rB 64 (b4 64 (iv (e8 0 8 (dW xs x) 8)) (8*8))).toArray,(E.val 0)]):=by
 refine fG Tryz.func151 λw u=>ra (λf=>[(6,pt (B0 f) 0),(8,pt (B1 f) 0),(9,.slice none 0 0)]) (λf=>[ob (B0 f) (rB 72 xs).toArray 217,ob (B1 f) (rB 64 z6).toArray 43]) λf=>r0 [] [(10,.slice none 0 0)] [] (rT [] 20 (ra (λe=>[(11,pt (B0 e) 0)]) (λe=>[ob (B0 e) (rW 8 (Zp 8 0)).toArray 320]) λe=>r0 [] [(21,i6 0)] [] (cz kI ?_)));refine na (λk _=>k≤8) (λk a=>[(21,iN k),(10,a)]) (λk a L=>(L.set 4 (ob (B0 e) (rW 8 (e8 0 8 (dW xs x) k)).toArray 320)).set 5 (dq a ((Zn k).map (dK xs x)))) (λk _=>8-k) 0 (.slice none 0 0) Om Kr (by rw[OA];kernel_rfl) (λk a q=>?_);have r:((Zn k).map (dK xs x)).length=k:=by rw[Zs,ZB]
 refine r0 [] [(22,.bool (decide ((k:Int)<8)))] [] ?_;refine cj (k:Int) 8 (λp n=>?_) λp n=>?_
 ·exact r0 [] [(12,iN k)] [] (rr (λd=>[(1,.m (ls 2 (rB 72 xs))),(4,.c [] [6] (Eb xs (by(simp only[LL,nn,lj,o];done)) k Om)),(6,.c [0,1,6] [] (aa.at (rd':=[ob i #[pt g 0,pt j 0] 242,ob g (rB 74 (a6 10)++rI 256 (bK 10)).toArray 298,bD ((d 4).val 0) ((xs.drop (9*k)).take 9)]) (Ov i g j ((d 4).val 0) ((xs.drop (9*k)).take 9) (by(simp only[LL,nn,lj,o];omega)) x) (atS (atS (bO (λ_ h=>ar.sq h) (λ_ h=>h)))))),]) (λ_=>[(13,u6 (((fY (aC ((xs.drop (9*k)).take 9) 0 8) (((xs.drop (9*k)).take 9).getD 8 0) ((pc ((x%8388608).toNat)%2:Nat):Int) (a6 10) (bK 10)):Nat):Int)),(14,i6 (ki ((xs.drop (9*k)).take 9) x))]) [] (λd L=>L++[bD ((d 4).val 0) ((xs.drop (9*k)).take 9)]) λd=>rs [(2,iA 320 .i64 (B0 e) 0 8 1 k),(3,wD 4 (B0 e) k 320 (u6 (((fY (aC ((xs.drop (9*k)).take 9) 0 8) (((xs.drop (9*k)).take 9).getD 8 0) ((pc ((x%8388608).toNat)%2:Nat):Int) (a6 10) (bK 10)):Nat):Int)) (rW 8 (e8 0 8 (dW xs x) k)) (rW 8 ((e8 0 8 (dW xs x) k).set k (fY (aC ((xs.drop (9*k)).take 9) 0 8) (((xs.drop (9*k)).take 9).getD 8 0) ((pc ((x%8388608).toNat)%2:Nat):Int) (a6 10) (bK 10)))) (j6 Om) (JC (nn ..)))] 4 (ob (B0 e) (rW 8 ((e8 0 8 (dW xs x) k).set k (fY (aC ((xs.drop (9*k)).take 9) 0 8) (((xs.drop (9*k)).take 9).getD 8 0) ((pc ((x%8388608).toNat)%2:Nat):Int) (a6 10) (bK 10)))).toArray 320) (rr (λ_=>[(2,.m (bs 7 1)),(3,fC kI (a) ((Zn k).map (dK xs x)) 5 7 ([(ki ((xs.drop (9*k)).take 9) x)]))]) (λb=>[(10,(b 3).val 0)]) [10] (λb L=>L.set 5 (dq ((b 3).val 0) (((Zn k).map (dK xs x))++([(ki ((xs.drop (9*k)).take 9) x)])))++[ob (B2 b) #[i6 (ki ((xs.drop (9*k)).take 9) x)] 3]) λb=>r0 [(0,ad k 1)] [(21,iN (k+1))] [21] (l8 (k+1) ((b 3).val 0) Om Om Kr [0,1,2,3,4,5] (by rw[←Oz Om,ZV,aak];kernel_rfl))))
 obtain rfl:k=8:=by omega
 refine l9 ?_;exact rr (λ_=>[(0,.l 4),(1,.c [] [] (Of (e8 0 8 (dW xs x) 8) (by(simp only[LL,nn,lj,o];done)) (OE Dc (OD xs x)))),(3,.s 3)]) (λ_=>[(9,a)]) [9] (λ_ L=>L.set 3 (ob (B1 f) (rB 64 (b4 64 (iv (e8 0 8 (dW xs x) 8)) (8*8))).toArray 43)) λt=>lf (.l [] [] [a]) [5] [(0,0),(1,1)] [3]
theorem OJ(q v o g:Nat)(u:Value)(xs:List UInt8)(i:xs.length=72)(x:Int)(h0: -9223372036854775808≤x)(h1:x≤9223372036854775807):aa Zm 151 #[pt q 0,i6 2,.agg (rB 72 xs).toArray,i6 x] [ob q #[pt v 0,pt o 0] 242,ob o #[pt g 0,u] 309,ob g (rB 255 aR++rN 256 aY).toArray 312,.p (aK eB u cE)] [] (λE=>[dq (E.val 0) ((Zn 2).map (cK xs x))]) (λE=> .tuple #[.agg (rB 64 (fD (iU xs x) 2)).toArray,(E.val 0)]):=by
 refine fO Tryz.func151 3 rfl λr z=>fG Tryz.func151 λw D=>ra (λn=>[(6,pt (B0 n) 0),(8,pt (B1 n) 0),(9,.slice none 0 0)]) (λn=>[ob (B0 n) (rB 72 xs).toArray 217,ob (B1 n) (rB 64 z6).toArray 43]) λn=>r0 [] [(10,.slice none 0 0)] [] (rF [] 20 (ra (λj=>[(15,pt (B0 j) 0)]) (λj=>[ob (B0 j) (rB 64 z6).toArray 324]) λj=>r0 [] [(45,i6 0)] [] (cz kI ?_)));refine na (λk _=>k≤2) (λk a=>[(45,iN k),(10,a)]) (λk a L=>(L.set 6 (ob (B0 j) (rB 64 (fD (iU xs x) k)).toArray 324)).set 7 (dq a ((Zn k).map (cK xs x)))) (λk _=>2-k) 0 (.slice none 0 0) Om Kr (by rw[OG];kernel_rfl) (λk a y=>?_);have B:((Zn k).map (cK xs x)).length=k:=by rw[Zs,ZB]
 have e:=vE (sS i x) y;refine r0 [] [(46,.bool (decide ((k:Int)<2)))] [] ?_;refine cj (k:Int) 2 (λA t=>?_) λA t=>?_
 ·refine r0 [] [(16,iN k)] [] ?_;have d:(fX ((xs.drop (36*k)).take 36) (b9 x false)).length=32:=y8 (nq i Om);exact rr (λb=>[(1,.m (ls 4 (rB 72 xs))),(4,.c [] [8] (Ec xs (by(simp only[LL,d,e,i];done)) k Om)),(6,.c [0,1,2,3,8] [] (aa.at (rd':=[ob q #[pt v 0,pt o 0] 242,ob o #[pt g 0,u] 309,ob g (rB 255 aR++rN 256 aY).toArray 312,.c r,bD ((b 4).val 0) ((xs.drop (36*k)).take 36)]) (Oy q v o g u ((b 4).val 0) ((xs.drop (36*k)).take 36) (by(simp only[LL,d,e,i];omega)) x Om Om) (atS (atS (atS (eD z (bO (λ_ h=>ar.sq h) (λ_ h=>h)))))))),(10,.m (al 9)),(11,.s 9)]) (λb=>[(17,pt ((b 10).y 0) 0),(18,i6 (nm ((xs.drop (36*k)).take 36) x))]) [] (λb L=>L++[bD ((b 4).val 0) ((xs.drop (36*k)).take 36),ob ((b 10).y 0) (rB 32 (fX ((xs.drop (36*k)).take 36) (b9 x false))).toArray 267]) λb=>rs [(1,.l 9),(2,iA 324 .i64 (B0 j) 0 2 32 k),(3,.m (sg 6 (B0 j) (0+k*32) 324 (rB 32 (fX ((xs.drop (36*k)).take 36) (b9 x false))) (rB 64 (fD (iU xs x) k)).toArray (rB 64 ((fD (iU xs x) k).take (0+k*32)++(fX ((xs.drop (36*k)).take 36) (b9 x false))++(fD (iU xs x) k).drop (0+k*32+32))).toArray (JR (λ_=>rfl) (show(fD (iU xs x) k).length=64 by(simp only[LL,d,e,i];done)) (show(fX ((xs.drop (36*k)).take 36) (b9 x false)).length=32 by(simp only[LL,d,e,i];done)) Om) (JS (λ_=>rfl) Om) (JT (λ_=>rfl) (show(fX ((xs.drop (36*k)).take 36) (b9 x false)).length=32 by(simp only[LL,d,e,i];done)))))] 6 (ob (B0 j) (rB 64 ((fD (iU xs x) k).take (0+k*32)++(fX ((xs.drop (36*k)).take 36) (b9 x false))++(fD (iU xs x) k).drop (0+k*32+32))).toArray 324) (rr (λ_=>[(2,.m (bs 10 1)),(3,fC kI (a) ((Zn k).map (cK xs x)) 7 10 ([(nm ((xs.drop (36*k)).take 36) x)]))]) (λf=>[(10,(f 3).val 0)]) [10] (λf L=>L.set 7 (dq ((f 3).val 0) (((Zn k).map (cK xs x))++([(nm ((xs.drop (36*k)).take 36) x)])))++[ob (B2 f) #[i6 (nm ((xs.drop (36*k)).take 36) x)] 3]) λf=>r0 [(0,ad k 1)] [(45,iN (k+1))] [45] (l8 (k+1) ((f 3).val 0) Om Om Kr [0,1,2,3,4,5,6,7] (by rw[←OF (sS i x),Ek Om,ZV,aak];kernel_rfl)))
 obtain rfl:k=2:=by omega
 refine l9 ?_;have d:=trivial;exact rr (λ_=>[(0,.l 6),(1,.c [] [] (Oq (fD (iU xs x) 2) (by(simp only[LL,d,e,i];done)))),(3,.s 5)]) (λ_=>[(9,a)]) [9] (λ_ L=>L.set 5 (ob (B1 n) (rB 64 (fD (iU xs x) 2)).toArray 43)) λC=>lf (.l [] [] [a]) [7] [(0,0),(1,1),(2,2),(3,3)] [5]
def pb(xs:List UInt8)(x:Int):List UInt8:=(bif decide (2≤(jK ((Zn 8).map (dK xs x)))) then Zp 64 0 else b4 64 (iv (e8 0 8 (dW xs x) 8)) (8*8))
theorem OK(e i j:Nat)(xs:List UInt8)(m:xs.length=72)(x:Int):aa Zm 124 #[pt e 0,i6 1,.agg (rB 72 xs).toArray,i6 x] [ob e #[pt i 0,pt j 0] 242,ob i (rB 74 (a6 10)++rI 256 (bK 10)).toArray 298] [] N0 (λ_=> .tuple #[.agg (rB 64 (pb xs x)).toArray,.agg #[i6 (jK ((Zn 8).map (dK xs x))),i6 (gF ((Zn 8).map (dK xs x)))]]):=by
 refine fG Tryz.func124 λw n=>ra (λa=>[(6,pt (B0 a) 0),(8,pt (B1 a) 0),(9,pt (B2 a) 0)]) (λa=>[ob (B0 a) (rB 72 xs).toArray 217,ob (B1 a) (rB 64 z6).toArray 43,ob (B2 a) #[i6 0,i6 0] 79]) λa=>r0 [(1,.c [] [] (o9 1))] [(15,.bool (!((1==1)||(1==2))))] [] ?_;have k:(!((1==1)||(1==2)))=false:=by decide
 refine cF (!((1==1)||(1==2))) k (rr (λ_=>[(2,.l 2),(4,.c [0,1] [5] (OI e i j xs (by(simp only[LL,lj,m];done)) x)),(9,.s 6)]) (λb=>[(10,pt ((b 8).y 0) 0),(11,((b 4).val 0))]) [] (λb L=>L++[dq ((b 4).val 0) ((Zn 8).map (dK xs x)),ob ((b 8).y 0) (rB 64 (b4 64 (iv (e8 0 8 (dW xs x) 8)) (8*8))).toArray 43]) λb=>rr (λ_=>[(1,.c [5] [] (aa.at (rd':=[dq ((b 4).val 0) ((Zn 8).map (dK xs x))]) (Ef ((b 4).val 0) ((Zn 8).map (dK xs x)) (by rw[Zs,ZB];omega)) (bO (λ_ h=>ar.sq h) (λ_ h=>h)))),(3,.s 7)]) (λd=>[(12,pt (B2 d) 0)]) [] (λd L=>L++[ob (B2 d) #[i6 (jK ((Zn 8).map (dK xs x))),i6 (gF ((Zn 8).map (dK xs x)))] 79]) λd=>r0 [(1,.l 7)] [(30,.bool (decide (2≤(jK ((Zn 8).map (dK xs x))))))] [] ?_);refine oV 2 (jK ((Zn 8).map (dK xs x))) (λg f=>?_) λg f=>?_
 ·exact rr (λ_=>[(1,.l 7),(2,.s 3),(3,.s 4)]) N0 [] (λ_ L=>L.set 4 (ob (B2 a) #[i6 (jK ((Zn 8).map (dK xs x))),i6 (gF ((Zn 8).map (dK xs x)))] 79)) λo=>ao (.tuple #[.agg (rB 64 z6).toArray,.agg #[i6 (jK ((Zn 8).map (dK xs x))),i6 (gF ((Zn 8).map (dK xs x)))]]) ab.zero (by((try simp only[pb]);(repeat (first | rw[g] | rw[ALct])))<;>rfl) [] [(0,0),(1,1)] [3,4]
 exact rr (λ_=>[(0,.l 6),(1,.l 7),(2,.s 3),(3,.s 4)]) N0 [] (λ_ L=>(L.set 3 (ob (B1 a) (rB 64 (b4 64 (iv (e8 0 8 (dW xs x) 8)) (8*8))).toArray 43)).set 4 (ob (B2 a) #[i6 (jK ((Zn 8).map (dK xs x))),i6 (gF ((Zn 8).map (dK xs x)))] 79)) λp=>ao (.tuple #[.agg (rB 64 (b4 64 (iv (e8 0 8 (dW xs x) 8)) (8*8))).toArray,.agg #[i6 (jK ((Zn 8).map (dK xs x))),i6 (gF ((Zn 8).map (dK xs x)))]]) ab.zero (by((try simp only[pb]);(repeat (first | rw[g] | rw[ALcf])))<;>rfl) [] [(0,0),(1,1)] [3,4]
def pd(xs:List UInt8)(x:Int):List UInt8:=(bif decide (2≤(jK ((Zn 2).map (cK xs x)))) then Zp 64 0 else fD (iU xs x) 2)
theorem OL(e n d g:Nat)(u:Value)(xs:List UInt8)(q:xs.length=72)(x:Int)(h0: -9223372036854775808≤x)(h1:x≤9223372036854775807):aa Zm 124 #[pt e 0,i6 2,.agg (rB 72 xs).toArray,i6 x] [ob e #[pt n 0,pt d 0] 242,ob d #[pt g 0,u] 309,ob g (rB 255 aR++rN 256 aY).toArray 312,.p (aK eB u cE)] [] N0 (λ_=> .tuple #[.agg (rB 64 (pd xs x)).toArray,.agg #[i6 (jK ((Zn 2).map (cK xs x))),i6 (gF ((Zn 2).map (cK xs x)))]]):=by
 have i:=vE (sS q x) (ZH 2);refine fO Tryz.func124 3 rfl λj o=>fG Tryz.func124 λw t=>ra (λa=>[(6,pt (B0 a) 0),(8,pt (B1 a) 0),(9,pt (B2 a) 0)]) (λa=>[ob (B0 a) (rB 72 xs).toArray 217,ob (B1 a) (rB 64 z6).toArray 43,ob (B2 a) #[i6 0,i6 0] 79]) λa=>r0 [(1,.c [] [] (o9 2))] [(15,.bool (!((2==1)||(2==2))))] [] ?_;have r:(!((2==1)||(2==2)))=false:=by decide
 refine cF (!((2==1)||(2==2))) r (rr (λ_=>[(2,.l 4),(4,.c [0,1,2,3] [7] (aa.at (rd':=[ob e #[pt n 0,pt d 0] 242,ob d #[pt g 0,u] 309,ob g (rB 255 aR++rN 256 aY).toArray 312,.c j]) (OJ e n d g u xs (by(simp only[LL,i,q];done)) x Om Om) (atS (atS (atS (eD o (λ_ h=>h))))))),(9,.s 8)]) (λb=>[(10,pt ((b 8).y 0) 0),(11,((b 4).val 0))]) [] (λb L=>L++[dq ((b 4).val 0) ((Zn 2).map (cK xs x)),ob ((b 8).y 0) (rB 64 (fD (iU xs x) 2)).toArray 43]) λb=>rr (λ_=>[(1,.c [7] [] (aa.at (rd':=[dq ((b 4).val 0) ((Zn 2).map (cK xs x))]) (Ef ((b 4).val 0) ((Zn 2).map (cK xs x)) (by rw[Zs,ZB];omega)) (bO (λ_ h=>ar.sq h) (λ_ h=>h)))),(3,.s 9)]) (λf=>[(12,pt (B2 f) 0)]) [] (λf L=>L++[ob (B2 f) #[i6 (jK ((Zn 2).map (cK xs x))),i6 (gF ((Zn 2).map (cK xs x)))] 79]) λf=>r0 [(1,.l 9)] [(30,.bool (decide (2≤(jK ((Zn 2).map (cK xs x))))))] [] ?_);refine oV 2 (jK ((Zn 2).map (cK xs x))) (λm k=>?_) λm k=>?_
 ·exact rr (λ_=>[(1,.l 9),(2,.s 5),(3,.s 6)]) N0 [] (λ_ L=>L.set 6 (ob (B2 a) #[i6 (jK ((Zn 2).map (cK xs x))),i6 (gF ((Zn 2).map (cK xs x)))] 79)) λv=>ao (.tuple #[.agg (rB 64 z6).toArray,.agg #[i6 (jK ((Zn 2).map (cK xs x))),i6 (gF ((Zn 2).map (cK xs x)))]]) ab.zero (by((try simp only[pd]);(repeat (first | rw[m] | rw[ALct])))<;>rfl) [] [(0,0),(1,1),(2,2),(3,3)] [5,6]
 exact rr (λ_=>[(0,.l 8),(1,.l 9),(2,.s 5),(3,.s 6)]) N0 [] (λ_ L=>(L.set 5 (ob (B1 a) (rB 64 (fD (iU xs x) 2)).toArray 43)).set 6 (ob (B2 a) #[i6 (jK ((Zn 2).map (cK xs x))),i6 (gF ((Zn 2).map (cK xs x)))] 79)) λy=>ao (.tuple #[.agg (rB 64 (fD (iU xs x) 2)).toArray,.agg #[i6 (jK ((Zn 2).map (cK xs x))),i6 (gF ((Zn 2).map (cK xs x)))]]) ab.zero (by((try simp only[pd]);(repeat (first | rw[m] | rw[ALcf])))<;>rfl) [] [(0,0),(1,1),(2,2),(3,3)] [5,6]
end
section
open Go Go.RowKit Go.Shelf
def bU(n:Nat)(f:Nat→List UInt8)(k:Nat):List UInt8:=(Zn k).flatMap f++Zp (72-n*k) 0
theorem oh{n:Nat}{f:Nat→List UInt8}(h: ∀i,(f i).length=n){k:Nat}(a:n*k≤72):(bU n f k).length=72:=by
 unfold bU;rw[Zq,vD h,ZG];omega
theorem El{n:Nat}{f:Nat→List UInt8}(h: ∀i,(f i).length=n){k m:Nat}(a:m=n):(bU n f k).take (n*k)++f k++(bU n f k).drop (n*k+m)=bU n f (k+1):=by subst a;exact Ej h
theorem Em(n:Nat)(f:Nat→List UInt8):bU n f 0=Zp 72 0:=rfl
def eZ(l:List UInt8)(x:Int)(p:Bool)(k:Nat):List UInt8:=iu (aC l (8*k) 8) 8++[bp (aC l (8*k) 8) ((pc ((x%8388608).toNat)%2:Nat):Int) (ed p) (a6 10)]
theorem oi(l:List UInt8)(x:Int)(p:Bool)(k:Nat):(eZ l x p k).length=9:=by unfold eZ;rw[Zq,jX];rfl
def eG(l:List UInt8)(x:Int)(p:Bool)(k:Nat):List UInt8:=if k<2 then g8 ((l.drop (32*k)).take 32) (b9 x p)++(l.drop (32*k)).take 32 else Zp 36 0
theorem pf{l:List UInt8}(a:l.length=64)(x:Int)(p:Bool)(k:Nat):(eG l x p k).length=36:=by
 unfold eG
 split
 ·rw[Zq,ir,Zr,ZA];omega
 ·rfl
theorem En{l:List UInt8}{x:Int}{p:Bool}{k:Nat}(h:k<2):eG l x p k=g8 ((l.drop (32*k)).take 32) (b9 x p)++(l.drop (32*k)).take 32:=ALifp h
attribute [local irreducible] dm dd bp fY aC iu fX aW g8 a6 bK cE aR aY b9 fx cY eY ki nm e8 fD b4 jK jF ed bU
theorem OM(e j y:Nat)(l:List UInt8)(f:l.length=64)(x:Int)(p:Bool):aa Zm 125 #[pt e 0,i6 1,.agg (rB 64 l).toArray,i6 x,.bool p] [ob e #[pt j 0,pt y 0] 242,ob j (rB 74 (a6 10)++rI 256 (bK 10)).toArray 298] [] N0 (λ_=> .agg (rB 72 (bU 9 (eZ l x p) 8)).toArray):=by
 have a:=True.intro;refine fG Tryz.func125 λw G=>ra (λd=>[(5,pt (B0 d) 0),(6,pt (B1 d) 0),(7,pt (B2 d) 0),(9,pt (B3 d) 0),(10,pt (B4 d) 0)]) (λd=>[ob (B0 d) #[pt e 0] 116,ob (B1 d) #[i6 1] 3,ob (B2 d) (rB 64 l).toArray 43,ob (B3 d) #[.bool p] 4,ob (B4 d) (rB 72 (Zp 72 0)).toArray 217]) λd=>ra (λg=>[(11,pt (B0 g) 0)]) (λg=>[ob (B0 g) (rB 72 (Zp 72 0)).toArray 217]) λg=>r0 [(0,.l 3)] [(19,i6 1)] [] (rT [] 20 (rr (λ_=>[(1,.c [] [] (vz x)),(3,.s 8)]) (λo=>[(12,pt (B2 o) 0)]) [] (λo L=>L++[ob (B2 o) #[iN (pc ((x%8388608).toNat)%2)] 3]) λo=>rr (λ_=>[(0,.l 4),(1,.c [] [9] (N7 l (by(simp only[LL,jX,jm,jW,a,f];done))))]) (λi=>[(25,.func (.func 200) #[] #[pt ((B1 i)) 0])]) [] (λi L=>L++[ob (B1 i) (rB 64 l).toArray 43]) λi=>?_));refine oX (encs:=λ(x:Nat×Nat)=>#[i6 (x.1:Int),u6 (x.2:Int)]) (xs:=(Zn 8).map λk=>(k,aC l (8*k) 8)) (KO:=[[((B1 i),.cells (rB 64 l).toArray 43 (0,0))]]) (N6 (B1 i) l (by(simp only[LL,jX,jm,jW,a,f];done))) (enters_of Tryz.func200 Kr rfl) (λk=>k≤8) (λk L=>L.set 7 (ob (B0 g) (rB 72 (bU 9 (eZ l x p) k)).toArray 217)) [9] Om (by rw[Em];kernel_rfl) (λH k I B D t r=>?_) (λA r=>?_)
 ·obtain⟨u,rfl⟩:=nW t;have q:=qm l (8*k) (k:=8) Dc;have z:=jX (aC l (8*k) 8) 8;have a:=oh (n:=9) (oi l x p) (k:=k) Om;refine r0 [] [(13,iN k)] [] (r0 [] [(14,u6 ((aC l (8*k) 8:Nat):Int))] [] ?_);refine ag [9] (λC F=>?_);exact rr (λb=>[(0,.m (ls 7 (rB 72 (bU 9 (eZ l x p) k)))),(1,.m (ld 3 (i6 1))),(2,.v (iN k)),(3,.v (u6 ((aC l (8*k) 8:Nat):Int))),(4,.c [] [10] (NW (aC l (8*k) 8) Om)),(5,.m (ld 2 (pt e 0))),(6,.v (pt e 0)),(7,.v (pt e 0)),(8,.m (ld 0 (pt j 0))),(9,.v (u6 ((aC l (8*k) 8:Nat):Int))),(10,.m (ld 8 (iN (pc ((x%8388608).toNat)%2)))),(11,.m (ld 5 (.bool p))),(12,.c [] [] (D7 p)),(13,.c [1] [] (D6 j (aC l (8*k) 8) ((pc ((x%8388608).toNat)%2:Nat):Int) (ed p) (a6 10) (bK 10) q (by(simp only[LL,jX,jm,jW,a,f];done)) (by(simp only[LL,jX,jm,jW,a,f];done)))),(14,.m (bs 11 1)),(15,fC kB (((b 4).val 0)) (iu (aC l (8*k) 8) 8) 10 11 ([(bp (aC l (8*k) 8) ((pc ((x%8388608).toNat)%2:Nat):Int) (ed p) (a6 10))])),(16,.c [10] [] (aa.at (rd':=[bD ((b 15).val 0) ((iu (aC l (8*k) 8) 8)++([(bp (aC l (8*k) 8) ((pc ((x%8388608).toNat)%2:Nat):Int) (ed p) (a6 10))]))]) (Ob (bU 9 (eZ l x p) k) ((iu (aC l (8*k) 8) 8)++([(bp (aC l (8*k) 8) ((pc ((x%8388608).toNat)%2:Nat):Int) (ed p) (a6 10))])) ((b 15).val 0) (by(simp only[LL,jX,jm,jW,a,f];done)) k Om (by(simp only[LL,jX,jm,jW,a,f];done))) (bO (λ_ h=>ar.sq h) (λ_ h=>h)))),(17,.s 7)]) N0 [] (λb L=>L.set 7 (ob (B0 g) (rB 72 ((bU 9 (eZ l x p) k).take (9*k)++((iu (aC l (8*k) 8) 8)++([(bp (aC l (8*k) 8) ((pc ((x%8388608).toNat)%2:Nat):Int) (ed p) (a6 10))]))++(bU 9 (eZ l x p) k).drop ((9*k)+((iu (aC l (8*k) 8) 8)++([(bp (aC l (8*k) 8) ((pc ((x%8388608).toNat)%2:Nat):Int) (ed p) (a6 10))])).length))).toArray 217)++[bD ((b 15).val 0) ((iu (aC l (8*k) 8) 8)++([(bp (aC l (8*k) 8) ((pc ((x%8388608).toNat)%2:Nat):Int) (ed p) (a6 10))])),ob ((b 14).y 0) #[u1 ((bp (aC l (8*k) 8) ((pc ((x%8388608).toNat)%2:Nat):Int) (ed p) (a6 10)).toNat:Int)] 5]) λb=>ne _ ⟨Om,rfl⟩ [0,1,2,3,4,5,6,7,8,9] (by rw[←El (oi l x p) (oi l x p k)];unfold eZ;kernel_rfl)
 have a:=oh (n:=9) (oi l x p) (k:=8) Om;exact rs [(0,.l 7),(1,.s 6)] 6 (ob (B4 d) (rB 72 (bU 9 (eZ l x p) 8)).toArray 217) (lf ab.zero [] [(0,0),(1,1)] [6])
theorem ON(y D r g:Nat)(u:Value)(l:List UInt8)(e:l.length=64)(x:Int)(h0: -9223372036854775808≤x)(h1:x≤9223372036854775807)(p:Bool):aa Zm 125 #[pt y 0,i6 2,.agg (rB 64 l).toArray,i6 x,.bool p] [ob y #[pt D 0,pt r 0] 242,ob r #[pt g 0,u] 309,ob g (rB 255 aR++rN 256 aY).toArray 312,.p (aK eB u cE)] [] N0 (λ_=> .agg (rB 72 (bU 36 (eG l x p) 2)).toArray):=by
 have a:=True.intro;have b:=True.intro;refine fO Tryz.func125 3 rfl λv B=>fG Tryz.func125 λw K=>ra (λf=>[(5,pt (B0 f) 0),(6,pt (B1 f) 0),(7,pt (B2 f) 0),(9,pt (B3 f) 0),(10,pt (B4 f) 0)]) (λf=>[ob (B0 f) #[pt y 0] 116,ob (B1 f) #[i6 2] 3,ob (B2 f) (rB 64 l).toArray 43,ob (B3 f) #[.bool p] 4,ob (B4 f) (rB 72 (Zp 72 0)).toArray 217]) λf=>ra (λo=>[(11,pt (B0 o) 0)]) (λo=>[ob (B0 o) (rB 72 (Zp 72 0)).toArray 217]) λo=>r0 [(0,.l 5)] [(19,i6 2)] [] (rF [] 20 (rT [] 45 (rr (λ_=>[(1,.l 7),(2,.c [] [] (D8 x Om Om p)),(4,.s 10)]) (λt=>[(15,pt (B3 t) 0)]) [] (λt L=>L++[ob (B3 t) (rB 3 (b9 x p)).toArray 262]) λt=>rr (λ_=>[(0,.l 6),(1,.c [] [11] (N8 l (by(simp only[LL,a,ir,lB,b,e];done))))]) (λq=>[(51,.func (.func 202) #[] #[pt ((B1 q)) 0])]) [] (λq L=>L++[ob (B1 q) (rB 64 l).toArray 43]) λq=>?_)));refine oX (encs:=λ(x:Nat×List UInt8)=>#[i6 (x.1:Int),.agg (rB 32 x.2).toArray]) (xs:=(Zn 2).map λk=>(k,(l.drop (32*k)).take 32)) (KO:=[[((B1 q),.cells (rB 64 l).toArray 43 (0,0))]]) (N9 (B1 q) l (by(simp only[LL,a,ir,lB,b,e];done))) (enters_of Tryz.func202 Kr rfl) (λk=>k≤2) (λk L=>L.set 9 (ob (B0 o) (rB 72 (bU 36 (eG l x p) k)).toArray 217)) [11] Om (by rw[Em];kernel_rfl) (λM k N G I C z=>?_) (λF z=>?_)
 ·obtain⟨A,rfl⟩:=nW C;have a:=oh (n:=36) (pf e x p) (k:=k) Om;have b:((l.drop (32*k)).take 32).length=32:=by rw[Zr,ZA];omega
  refine r0 [] [(16,iN k)] [] (rr (λ_=>[(1,.s 12)]) (λd=>[(17,pt (B0 d) 0)]) [] (λd L=>L++[ob (B0 d) (rB 32 ((l.drop (32*k)).take 32)).toArray 267]) λd=>?_);refine ag [11] (λH J=>?_);exact rr (λ_=>[(0,.l 4),(3,.l 0),(4,.l 12),(5,.l 10),(6,.c [1,2,3] [] (aa.at (rd':=[ob r #[pt g 0,u] 309,ob g (rB 255 aR++rN 256 aY).toArray 312,.c v]) (Nw r g u ((l.drop (32*k)).take 32) (b9 x p) (by(simp only[LL,a,ir,lB,b,e];done)) (by(simp only[LL,a,ir,lB,b,e];done))) (atS (atS (eD B (λ_ h=>h)))))),(8,.s 13)]) (λi=>[(18,pt (B7 i) 0)]) [] (λi L=>L++[ob (B7 i) (rB 4 (g8 (((l.drop (32*k)).take 32)) ((b9 x p)))).toArray 268]) λi=>rr (λj=>[(0,.l 9),(1,.l 5),(3,aS 268 (B7 i) 4 1),(4,aS 267 (B0 d) 32 1),(5,.m (Ln kB 14 13 12 (B7 i) 4 (rB 4 (g8 (((l.drop (32*k)).take 32)) ((b9 x p)))).toArray 268 (g8 (((l.drop (32*k)).take 32)) ((b9 x p))) ((l.drop (32*k)).take 32) (.slice (some ⟨(d 0).y 0,0,none⟩) 32 32) (ob (B0 d) (rB 32 ((l.drop (32*k)).take 32)).toArray 267) (λ_ h=>by rw[show _=_ from h];exact oZ (λ_=>rfl) (show((l.drop (32*k)).take 32).length=32 by(simp only[LL,a,ir,lB,b,e];done))) (ir ..) (Ch (ir ..)) (by rw[(show((l.drop (32*k)).take 32).length=32 by(simp only[LL,a,ir,lB,b,e];done))];omega) (by rw[(ir ..),(show((l.drop (32*k)).take 32).length=32 by(simp only[LL,a,ir,lB,b,e];done))];omega))),(6,.c [14] [] (aa.at (rd':=[bD ((j 5).val 0) ((g8 (((l.drop (32*k)).take 32)) ((b9 x p)))++((l.drop (32*k)).take 32))]) (Od (bU 36 (eG l x p) k) ((g8 (((l.drop (32*k)).take 32)) ((b9 x p)))++((l.drop (32*k)).take 32)) ((j 5).val 0) (by(simp only[LL,a,ir,lB,b,e];done)) k Om (by(simp only[LL,a,ir,lB,b,e];done))) (bO (λ_ h=>ar.sq h) (λ_ h=>h)))),(7,.s 9)]) N0 [] (λj L=>L.set 9 (ob (B0 o) (rB 72 ((bU 36 (eG l x p) k).take (36*k)++((g8 (((l.drop (32*k)).take 32)) ((b9 x p)))++((l.drop (32*k)).take 32))++(bU 36 (eG l x p) k).drop ((36*k)+((g8 (((l.drop (32*k)).take 32)) ((b9 x p)))++((l.drop (32*k)).take 32)).length))).toArray 217)++[bD ((j 5).val 0) ((g8 (((l.drop (32*k)).take 32)) ((b9 x p)))++((l.drop (32*k)).take 32))]) λj=>ne _ ⟨Om,rfl⟩ [0,1,2,3,4,5,6,7,8,9,10,11] (by rw[←El (pf e x p) (pf e x p k),En Om];kernel_rfl)
 have a:=oh (n:=36) (pf e x p) (k:=2) Om;exact rs [(0,.l 9),(1,.s 8)] 8 (ob (B4 f) (rB 72 (bU 36 (eG l x p) 2)).toArray 217) (lf ab.zero [] [(0,0),(1,1),(2,2),(3,3)] [8])
end
end E
def y9:Nat→Nat→Nat→List Nat
 | 0,_,_=>[]
 | m+1,x,k=>if pc x=k then x::y9 m (x+1) k else y9 m (x+1) k
def choose(n k:Nat):List Nat:=y9 (2^n) 0 k
namespace Hs
def sT(s:List Nat×List Int)(i x:Nat):List Nat×List Int:=(s.1.set i x,s.2.set x (i:Int))
def OO:List Nat×List Int:=(Zp 74 0,Zp 256 (-1))
def hA:Nat→List Nat×List Int
 | 0=>OO
 | k+1=>sT (hA k) (64+k) (2^k)
def hB:Nat→List Nat×List Int
 | 0=>hA 8
 | k+1=>sT (hB k) k ((choose 8 3).getD k 0)
def OP(k:Nat):Nat:=if k<8 then 56+k else 64+k
def hC:Nat→List Nat×List Int
 | 0=>hB 56
 | k+1=>sT (hC k) (OP k) ((choose 8 5).getD k 0)
def zp:List Nat:=(hC 10).1
def hats:List Int:=(hC 10).2
theorem qn(s:List Nat×List Int)(i x:Nat):(sT s i x).1.length=s.1.length∧(sT s i x).2.length=s.2.length:=⟨ZF,ZF⟩
theorem OQ(k:Nat):(hA k).1.length=74∧(hA k).2.length=256:=by
 induction k with
 | zero=>exact⟨ZG,ZG⟩
 | succ k ih=>rw[hA];exact⟨(qn _ _ _).1.trans ih.1,(qn _ _ _).2.trans ih.2⟩
theorem OR(k:Nat):(hB k).1.length=74∧(hB k).2.length=256:=by
 induction k with
 | zero=>exact OQ 8
 | succ k ih=>rw[hB];exact⟨(qn _ _ _).1.trans ih.1,(qn _ _ _).2.trans ih.2⟩
theorem OS(k:Nat):(hC k).1.length=74∧(hC k).2.length=256:=by
 induction k with
 | zero=>exact OR 56
 | succ k ih=>rw[hC];exact⟨(qn _ _ _).1.trans ih.1,(qn _ _ _).2.trans ih.2⟩
theorem hcols_len:zp.length=74:=(OS 10).1
def col(i:Nat):Nat:=zp.getD i 0
def atS(s:Nat):Int:=hats.getD s (-1)
def hcolL:List Nat:=[7,11,13,14,19,21,22,25,26,28,35,37,38,41,42,44,49,50,52,56,67,69,70,73,74,76,81,82,84,88,97,98,100,104,112,131,133,134,137,138,140,145,146,148,152,161,162,164,168,176,193,194,196,200,208,224,31,47,55,59,61,62,79,87,1,2,4,8,16,32,64,128,91,93]
theorem hcols_eq:zp=hcolL:=by decide+kernel
theorem OT: ∀i,i<74→hcolL.getD i 0<256∧0<hcolL.getD i 0:=by decide+kernel
theorem col_pos{i:Nat}(h:i<74):0<col i:=by unfold col;rw[hcols_eq];exact(OT i h).2
theorem OU: ∀i,i<74→hats.getD (hcolL.getD i 0) (-1)=(i:Int):=by decide+kernel
theorem at_col{i:Nat}(h:i<74):atS (col i)=(i:Int):=by unfold atS col;rw[hcols_eq];exact OU i h
theorem OV: ∀j,j<8→hcolL.getD (64+j) 0=2^j:=by decide+kernel
theorem col_check{j:Nat}(h:j<8):col (64+j)=2^j:=by unfold col;rw[hcols_eq];exact OV j h
def jn:Nat→Nat→Nat→Nat
 | 0,_,_=>0
 | r+1,k,z=>(if z%2=1 then col k else 0)^^^jn r (k+1) (z/2)
def cs(d:Nat):Nat:=jn 64 0 d
theorem Eo(a b c:Nat):(if(a^^^b)%2=1 then c else 0)=(if a%2=1 then c else 0)^^^(if b%2=1 then c else 0):=by
 rw[xm];rcases Z9 a with d | d<;>rcases Z9 b with e | e<;>rw[d,e]<;>simp
theorem OX(a b c:Nat):a^^^(b^^^c)=b^^^(a^^^c):=by rw[←ZE,aaN a b,ZE]
theorem OY(r:Nat): ∀k a b,jn r k (a^^^b)=jn r k a^^^jn r k b:=by
 induction r with
 | zero=>intro k a b;simp [jn]
 | succ r ih=>
  intro k a b;rw[jn,jn,jn,Eo,IA,ih];simp only[ZE,OX]
theorem cs_xor(a b:Nat):cs (a^^^b)=cs a^^^cs b:=OY 64 0 a b
theorem csTo_zero(r:Nat): ∀k,jn r k 0=0:=by
 induction r with
 | zero=>intro k;rfl
 | succ r ih=>intro k;rw[jn];simp [ih]
theorem OZ(r:Nat): ∀k i,i<r→jn r k (2^i)=col (k+i):=by
 induction r with
 | zero=>intro k i h;omega
 | succ r ih=>
  intro k i h;rw[jn];cases i with
  | zero=>simp [csTo_zero]
  | succ i=>
   have a:2^(i+1)%2=0:=by rw[ZZ];omega
   have b:2^(i+1)/2=2^i:=by rw[ZZ];omega
   rw[a,b,ih (k+1) i Om,ALifn Dc,Z3]
   congr 1;omega
theorem cs_pow{i:Nat}(h:i<64):cs (2^i)=col i:=by unfold cs;rw[OZ 64 0 i h,ZN]
def xfold(s:Nat)(l:List Nat):Nat:=l.foldl (λs i=>s^^^col i) s
theorem xfold_ones(r:Nat): ∀k z s,xfold s (eX r k z)=s^^^jn r k z:=by
 induction r with
 | zero=>intro k z s;simp [eX,jn,xfold]
 | succ r ih=>
  intro k z s;rw[eX,jn]
  split
  ·show xfold (s^^^col k) _=_;rw[ih,ZE]
  ·rw[ih,Z3]
theorem xfold_snoc(s:Nat)(l:List Nat)(i:Nat):xfold s (l++[i])=xfold s l^^^col i:=by simp [xfold]
def mark(a c:Nat):Nat:=if a%2=1 then col c else 0
def chk(d a p:Nat):Nat:=cs d^^^mark a 72^^^mark p 73
theorem mark_xor(a b c:Nat):mark (a^^^b) c=mark a c^^^mark b c:=Eo a b _
def verdict(s:Nat):Nat×Int:=
 if s=0 then(0, -1) else if atS s= -1 then(4, -1) else if atS s=72 then(3, -1) else if atS s=73 then(2, -1) else(1,atS s)
def low(a:Int):Nat:=(a%2).toNat
def decD(d:Nat)(v:Nat×Int):Nat:=if v.1=1∧v.2<64 then d^^^2^v.2.toNat else d
def tD(d i:Nat):Nat:=if i<64 then d^^^2^i else d
def tK(k i:Nat):Nat:=if 64≤i∧i<72 then k^^^2^(i-64) else k
theorem tD_lt{d:Nat}(i:Nat)(h:d<18446744073709551616):tD d i<18446744073709551616:=by
 unfold tD
 split
 ·exact ZJ (n:=64) h (Z7 Dc As)
 ·exact h
theorem tK_lt{k:Nat}(i:Nat)(h:k<256):tK k i<256:=by
 unfold tK
 split
 ·exact ZJ (n:=8) h (Z7 Dc Om)
 ·exact h
end Hs
namespace E
section
open Go Go.RowKit
def aP(mode:Int):Nat:=if mode=1 then 9 else if mode=2 then 36 else 0
def dA(mode:Int):Nat:=if mode=1 then 8 else if mode=2 then 2 else 0
def cQ(mode:Int)(a b:UInt8):Nat:=if mode=1 then pc (a^^^b).toNat else if a=b then 0 else 1
theorem zr{n:Nat}(h:n<2^64):pc n=0↔n=0:=by
 constructor
 ·intro b;rcases Nat.eq_zero_or_pos n with a | a
  ·exact a
  ·have:=Bl n a h;omega
 ·rintro rfl;exact xk
theorem O0(a:UInt8):a^^^a=0:=by
 apply UInt8.toNat_inj.1;rw[ZI,ZR];rfl
theorem O3{a b:UInt8}(h:(a^^^b).toNat=0):a=b:=by
 apply UInt8.toNat_inj.1;rw[ZI] at h;have c:=ALca (· ^^^b.toNat) h;simpa [ZE] using c
theorem Ep(mode:Int)(a:UInt8):cQ mode a a=0:=by
 unfold cQ
 split
 ·rw[O0];exact xk
 ·rw[ALifp rfl]
theorem O4{mode:Int}{a b:UInt8}:cQ mode a b=0↔a=b:=by
 constructor
 ·intro h;unfold cQ at h
  split at h
  ·have:=(a^^^b).toNat_lt;exact O3 ((zr Om).1 h)
  ·split at h
   ·assumption
   ·omega
 ·rintro rfl;exact Ep _ _
theorem O5(mode:Int)(a b:UInt8):cQ mode a b=cQ mode b a:=by
 unfold cQ;rw[aa2];by_cases h:a=b
 ·subst h;rfl
 ·rw[ALifn h,ALifn (Ne.symm h)]
theorem Er{n:Nat}(h:n<256):pc n≤8:=by
 have a:pc n=ey 8 n:=(uc 8 n Om Om).symm;rw[a];exact Bj 8 n
theorem O6(mode:Int)(a b:UInt8):cQ mode a b≤if mode=1 then 8 else 1:=by
 unfold cQ
 split
 ·exact Er (a^^^b).toNat_lt
 ·split<;>omega
def cp(f:Nat→Nat):Nat→Nat
 | 0=>0
 | k+1=>cp f k+f k
theorem zs{f g:Nat→Nat}: ∀n,(∀i,i<n→f i=g i)→cp f n=cp g n
 | 0,_=>rfl
 | n+1,h=>by rw[cp,cp,zs n (λi a=>h i Om),h n Om]
theorem sU{f:Nat→Nat}: ∀n,cp f n=0↔∀i,i<n→f i=0
 | 0=>⟨λ_ i a=>by omega,λ_=>rfl⟩
 | n+1=>by
  rw[cp]
  constructor
  ·intro h i a;by_cases e:i=n
   ·subst e;omega
   ·exact(sU n).1 Om i Om
  ·intro h;rw[(sU n).2 (λi a=>h i Om),h n Om]
def wC(mode:Int)(xs ys:List UInt8)(k:Nat):Nat:=cp (λj=>cQ mode (xs.getD (aP mode*k+j) 0) (ys.getD (aP mode*k+j) 0)) (aP mode)
def kj(mode:Int)(xs ys:List UInt8):Nat→Nat
 | 0=>0
 | k+1=>max (kj mode xs ys k) (wC mode xs ys k)
def c7(mode:Int)(xs ys:List UInt8):Nat:=kj mode xs ys (dA mode)
theorem zt{mode:Int}{xs ys:List UInt8}{m:Nat}: ∀k,kj mode xs ys k≤m↔∀i,i<k→wC mode xs ys i≤m
 | 0=>⟨λ_ i a=>by omega,λ_=>ZY _⟩
 | k+1=>by
  rw[kj]
  constructor
  ·intro h i a;by_cases e:i=k
   ·subst e;omega
   ·exact(zt k).1 Om i Om
  ·intro h;have b:=(zt k).2 (λi a=>h i Om);have c:=h k Om;omega
theorem qo{mode:Int}{xs ys:List UInt8}(a:xs.length=72)(b:ys.length=72){m:Nat}:c7 mode xs ys≤m↔∀i,i<dA mode→wC mode xs ys i≤m:=zt _
theorem qp{mode:Int}{xs ys:List UInt8}(b:xs.length=72)(c:ys.length=72){i:Nat}(a:i<dA mode):wC mode xs ys i≤c7 mode xs ys:=(qo b c).1 (ZH _) i a
theorem Es(mode:Int)(xs ys:List UInt8)(k:Nat):wC mode xs ys k=wC mode ys xs k:=zs _ λ_ _=>O5 _ _ _
theorem O7{mode:Int}{xs ys:List UInt8}(a:xs.length=72)(b:ys.length=72):c7 mode xs ys=c7 mode ys xs:=by
 have d:=(qo (mode:=mode) a b).2 λi c=>by rw[Es];exact qp b a c
 have e:=(qo (mode:=mode) b a).2 λi c=>by rw[Es];exact qp a b c
 omega
theorem O8{mode:Int}(h:mode=1∨mode=2){i:Nat}(b:i<72):i/aP mode<dA mode∧i%aP mode<aP mode∧aP mode*(i/aP mode)+i%aP mode=i:=by
 have a:0<aP mode:=by rcases h with rfl | rfl<;>decide
 refine⟨?_,Zx _ a,aaB _ _⟩;rcases h with rfl | rfl
 ·show i/9<8;omega
 ·show i/36<2;omega
theorem O9{mode:Int}(h:mode=1∨mode=2){xs ys:List UInt8}(a:xs.length=72)(e:ys.length=72):c7 mode xs ys=0↔xs=ys:=by
 constructor
 ·intro k;refine aav Om λi c d=>?_;obtain⟨f,g,j⟩:=O8 h (show i<72 by omega);have l:=qp a e f;have b:=(sU _).1 (show wC mode xs ys (i/aP mode)=0 by omega) _ g;rw[j,O4,Zl,Zl,Zo c,Zo d] at b;exact b
 ·rintro rfl;have:=(qo (mode:=mode) a a (m:=0)).2 λi _=>Nat.le_of_eq ((sU _).2 λ_ _=>Ep _ _);omega
end
section
open Go Go.RowKit Go.Shelf
theorem Pb(x k:Nat):iu x (k+1)=iu x k++[UInt8.ofNat (x/256^k)]:=rfl
theorem Et(a b:Nat):(a^^^b)/2=a/2^^^b/2:=Nat.xor_div_two
theorem Pc(i:Nat):2^(i+1)/2=2^i:=by rw[ZZ];omega
theorem Pd(i:Nat):2^(i+1)%2=0:=by rw[ZZ];omega
theorem Pe(k:Nat): ∀n,n<2^k→n≠0→∃i,i<k∧ey k n=ey k (n^^^2^i)+1:=by
 induction k with
 | zero=>intro n a b;omega
 | succ k ih=>
  intro n a b;rw[ZZ] at a;rcases Z9 n with h | h
  ·obtain⟨i,c,e⟩:=ih (n/2) Om Om;refine⟨i+1,by omega,?_⟩;rw[ey,ey,Et,Pc,xm,Pd,h,e];omega
  ·refine⟨0,by omega,?_⟩;rw[ey,ey,Et,xm,h];simp;omega
theorem Eu{n k:Nat}(c:k≤64)(a:n<2^k)(h0:n≠0): ∃i,i<k∧pc n=pc (n^^^2^i)+1:=by
 obtain⟨i,b,e⟩:=Pe k n a h0;refine⟨i,b,?_⟩;rw[←uc k n a c,←uc k _ (ZJ a (Z7 Dc b)) c,e]
theorem Pf(a b:Nat): ∀n,ey (a+b) n=ey a (n%2^a)+ey b (n/2^a):=by
 induction a with
 | zero=>intro n;rw[ZN,abe,Nat.div_one,ey,ZN]
 | succ a ih=>
  intro n;rw[show a+1+b=(a+b)+1 by omega,ey,ey,ih (n/2)];have c:n%2^(a+1)%2=n%2:=Nat.mod_mod_of_dvd n (by rw[ZZ];exact Nat.dvd_mul_left 2 _);have d:n%2^(a+1)/2=n/2%2^a:=by rw[ZZ,Zt,Nat.mod_mul_right_div_self]
  have e:n/2/2^a=n/2^(a+1):=by rw[ZZ,Zt,Nat.div_div_eq_div_mul]
  rw[c,d,e,abb]
theorem Pg{xs:List UInt8}{off n j:Nat}(d:j<n):aC xs off n/256^j%256=(xs.getD (off+j) 0).toNat:=by
 induction n with
 | zero=>omega
 | succ n ih=>
  rw[ql];have c:=(xs.getD (off+n) 0).toNat_lt;by_cases e:j=n
  ·subst e;have a:=qk xs off j;rw[aaC,show(2:Nat)^8=256 from rfl] at a;rw[aan _ _ (Nat.pow_pos Dc),aa3 a,ZN,Z6 c]
  ·have b:256^n*(xs.getD (off+n) 0).toNat=256^j*(256*(256^(n-j-1)*(xs.getD (off+n) 0).toNat)):=by
    rw[←Zw 256,←Nat.pow_succ',←Zw,←Nat.pow_add,show j+(n-j-1+1)=n by omega]
   rw[b,aan _ _ (Nat.pow_pos Dc),aaH,ih Om]
theorem Ew{xs:List UInt8}{off D:Nat}: ∀n,(∀j,j<n→(xs.getD (off+j) 0).toNat=D/256^j%256)→aC xs off n=D%256^n
 | 0,_=>by rw[abe,Nat.mod_one];rfl
 | n+1,h=>by rw[ql,Ew n (λj a=>h j Om),h n Om,Nat.mod_pow_succ]
theorem Ex{xs ys:List UInt8}{a b:Nat}: ∀n,(∀j,j<n→xs.getD (a+j) 0=ys.getD (b+j) 0)→aC xs a n=aC ys b n
 | 0,_=>rfl
 | n+1,h=>by rw[ql,ql,Ex n (λj c=>h j Om),h n Om]
theorem Ph(x:Nat): ∀n j,j<n→(iu x n).getD j 0=UInt8.ofNat (x/256^j):=by
 intro n
 induction n with
 | zero=>intro j a;omega
 | succ n ih=>
  intro j a;rw[Pb,Zl];by_cases e:j=n
  ·subst e;rw[Zz (by rw[jX];omega),jX,Nat.sub_self];rfl
  ·rw[Zu (by rw[jX];omega),←Zl];exact ih j Om
theorem Ey(c ys:List UInt8)(a b:Nat): ∀n,n≤8→ey (8*n) (aC c a n^^^aC ys b n)=cp (λj=>pc (c.getD (a+j) 0^^^ys.getD (b+j) 0).toNat) n
 | 0,_=>rfl
 | n+1,f=>by
  have h:=λ(c:List UInt8) (a:Nat)=>qk c a n;have d:=λ(c:List UInt8) (a:Nat)=>(show aC c a (n+1)/2^(8*n)=(c.getD (a+n) 0).toNat by
   rw[ql,show(256:Nat)^n=2^(8*n) by rw[aaC],aan _ _ (Nat.two_pow_pos _),aa3 (h c a),ZN])
  have e:=λ(c:List UInt8) (a:Nat)=>(show aC c a (n+1)%2^(8*n)=aC c a n by
   rw[ql,show(256:Nat)^n=2^(8*n) by rw[aaC],aaH,Z6 (h c a)])
  rw[cp,←Ey c ys a b n Om,show 8*(n+1)=8*n+8 by omega,Pf,Nat.xor_mod_two_pow,Nat.xor_div_two_pow,d,d,e,e,←ZI];rw[uc 8 _ ((c.getD (a+n) 0^^^ys.getD (b+n) 0).toNat_lt) Dc]
def iV(z k:Nat):Nat:=pc z+pc k
def nu(z k:Nat):Nat:=Hs.cs z^^^k
theorem Ez:nu 0 0=0:=by unfold nu;rw[show Hs.cs 0=0 from Hs.csTo_zero 64 0];rfl
theorem zu{z k:Nat}(a:z<2^64)(d:k<2^8):iV z k=0↔z=0∧k=0:=by
 unfold iV;have b:=zr a;have c:=zr (n:=k) Om;omega
theorem Pj{z k:Nat}(f:z<2^64)(d:k<2^8)(h:iV z k≠0): ∃t,t<72∧iV z k=iV (Hs.tD z t) (Hs.tK k t)+1∧nu z k=nu (Hs.tD z t) (Hs.tK k t)^^^Hs.col t:=by
 by_cases c:z=0
 ·have b:k≠0:=λe=>h ((zu f d).2 ⟨c,e⟩);obtain⟨i,a,e⟩:=Eu Dc d b;refine⟨64+i,by omega,?_⟩;unfold Hs.tD Hs.tK;rw[ALifn Om,ALifp Om,aaJ];refine⟨by unfold iV;omega,?_⟩;unfold nu;rw[Hs.col_check a,ZE,ZE,ZR,ZL]
 ·obtain⟨i,a,e⟩:=Eu Dc f c;refine⟨i,by omega,?_⟩;unfold Hs.tD Hs.tK;rw[ALifp a,ALifn Om];refine⟨by unfold iV;omega,?_⟩;unfold nu;rw[Hs.cs_xor,Hs.cs_pow a,ZE,ZE,aaN k,←ZE (Hs.col i),ZR,Z3]
theorem Pk{z:Nat}(t:Nat)(h:z<2^64):Hs.tD z t<2^64:=Hs.tD_lt t h
theorem Pm{k:Nat}(t:Nat)(h:k<2^8):Hs.tK k t<2^8:=Hs.tK_lt t h
theorem Pn(z t:Nat):Hs.tD (Hs.tD z t) t=z:=by
 unfold Hs.tD;by_cases h:t<64
 ·rw[ALifp h,ALifp h,ZE,ZR,ZL]
 ·rw[ALifn h,ALifn h]
theorem Po(z t:Nat):Hs.tK (Hs.tK z t) t=z:=by
 unfold Hs.tK;by_cases h:64≤t∧t<72
 ·rw[ALifp h,ALifp h,ZE,ZR,ZL]
 ·rw[ALifn h,ALifn h]
theorem Pp{z k:Nat}(d:z<2^64)(c:k<2^8)(h:iV z k=1): ∃t,t<72∧nu z k=Hs.col t∧z=Hs.tD 0 t∧k=Hs.tK 0 t:=by
 obtain⟨t,f,g,e⟩:=Pj d c Om;obtain⟨a,b⟩:=(zu (Pk t d) (Pm t c)).1 Om;refine⟨t,f,?_,?_,?_⟩
 ·rw[e,a,b,Ez,Z3]
 ·rw[←a,Pn]
 ·rw[←b,Po]
end
section
open Go Go.RowKit Go.Shelf
def Pq(x:Int):Nat:=(x%8388608).toNat
def jY(x:Int):Nat:=pc (Pq x)%2
def vF(d:Nat)(a p:Int):UInt8:=bp d a p (a6 10)
def ph(d:Nat)(k:UInt8)(a:Int):Nat:=(bp d a 0 (a6 10)^^^k).toNat
theorem zw(i:Nat):((a6 10).getD i 0).toNat=Hs.col i:=by
 have h: ∀i,i<74→((a6 10).getD i 0).toNat=Hs.hcolL.getD i 0:=by decide+kernel
 rcases aab i 74 with a | a
 ·rw[h i a];unfold Hs.col;rw[Hs.hcols_eq]
 ·unfold Hs.col;rw[Zl,ZD (by rw[jm];exact a),Zl,ZD (by rw[Hs.hcols_len];exact a)];rfl
theorem Pr{l:List Nat}{k:Nat}(h:k<l.length):l.take (k+1)=l.take k++[l.getD k 0]:=by
 rw[aac,Zo h,Zl,Zo h];rfl
theorem EA(d:Nat): ∀k,k≤(bn d).length→(xc (a6 10) d k).toNat=Hs.xfold 0 ((bn d).take k)
 | 0,_=>rfl
 | k+1,h=>by rw[xc,ZI,EA d k Om,zw,Pr Om,Hs.xfold_snoc]
theorem Ps(d:Nat):(xc (a6 10) d (bn d).length).toNat=Hs.cs d:=by
 rw[EA d _ (ZH _),aaY];have h:=Hs.xfold_ones 64 0 d 0;rw[Z3] at h;exact h
theorem EB(a:Int)(c:Nat):Hs.mark (Hs.low a) c=if a%2=1 then Hs.col c else 0:=by
 unfold Hs.mark Hs.low;by_cases h:a%2=1
 ·rw[ALifp h,ALifp Om]
 ·rw[ALifn h,ALifn Om]
theorem EC(d:Nat)(a p:Int):(vF d a p).toNat=Hs.chk d (Hs.low a) (Hs.low p):=by
 unfold vF bp Hs.chk;rw[EB,EB,←Ps,←zw 72,←zw 73];by_cases c:a%2=1
 ·by_cases b:p%2=1
  ·rw[ALifp c,ALifp b,beq_iff_eq.2 c,beq_iff_eq.2 b,ALct,ALct,ZI,ZI]
  ·rw[ALifp c,ALifn b,beq_iff_eq.2 c,beq_false_of_ne b,ALct,ALcf,ZI,ZL]
 ·by_cases b:p%2=1
  ·rw[ALifn c,ALifp b,beq_false_of_ne c,beq_iff_eq.2 b,ALct,ALcf,ZI,ZL]
  ·rw[ALifn c,ALifn b,beq_false_of_ne c,beq_false_of_ne b,ALcf,ALcf,ZL,ZL]
theorem Pt(d:Nat)(k:UInt8)(a:Int):ph d k a=Hs.chk d (Hs.low a) 0^^^k.toNat:=by
 unfold ph;rw[ZI];exact ALca (· ^^^k.toNat) (EC d a 0)
theorem Pu:Hs.hats=kg:=by decide+kernel
theorem Pv(n:Nat):Hs.verdict n=if n=0 then(0, -1) else if kg.getD n (-1)= -1 then(4, -1) else if kg.getD n (-1)=72 then(3, -1) else if kg.getD n (-1)=73 then(2, -1) else(1,kg.getD n (-1)):=by unfold Hs.verdict Hs.atS;rw[Pu]
theorem Pw: ∀n:Nat,n<256→(dm (UInt8.ofNat n) kg,dd (UInt8.ofNat n) kg)=(if n=0 then((0:Int),(-1:Int)) else if kg.getD n (-1)= -1 then(4, -1) else if kg.getD n (-1)=72 then(3, -1) else if kg.getD n (-1)=73 then(2, -1) else(1,kg.getD n (-1))):=by decide+kernel
theorem vv{n:Nat}{z A B:Int}(h:(A,B)=(if n=0 then((0:Int),(-1:Int)) else if z= -1 then(4, -1) else if z=72 then(3, -1) else if z=73 then(2, -1) else(1,z))):
  A=(((if n=0 then((0:Nat),(-1:Int)) else if z= -1 then(4, -1) else if z=72 then(3, -1) else if z=73 then(2, -1) else(1,z)).1:Nat):Int)∧B=(if n=0 then((0:Nat),(-1:Int)) else if z= -1 then(4, -1) else if z=72 then(3, -1) else if z=73 then(2, -1) else(1,z)).2:=by
 by_cases a:n=0
 ·simp only[ALifp a,Prod.mk.injEq] at h⊢;exact h
 ·by_cases b:z= -1
  ·simp only[ALifn a,ALifp b,Prod.mk.injEq] at h⊢;exact h
  ·by_cases c:z=72
   ·simp only[ALifn a,ALifn b,ALifp c,Prod.mk.injEq] at h⊢;exact h
   ·by_cases d:z=73
    ·simp only[ALifn a,ALifn b,ALifn c,ALifp d,Prod.mk.injEq] at h⊢;exact h
    ·simp only[ALifn a,ALifn b,ALifn c,ALifn d,Prod.mk.injEq] at h⊢;exact h
theorem ED(s:UInt8):dm s (bK 10)=((Hs.verdict s.toNat).1:Int)∧dd s (bK 10)=(Hs.verdict s.toNat).2:=by
 have h:=Pw s.toNat s.toNat_lt;rw[aaW] at h;rw[Eh,Pv];exact vv h
theorem Px{f:Nat→List UInt8}{m:Nat}(h: ∀i,(f i).length=m): ∀n k,k<n→∀z,(((Zn n).flatMap f++z).drop (m*k)).take m=f k:=by
 intro n
 induction n with
 | zero=>intro k a;omega
 | succ n ih=>
  intro k a z;rw[ZV,aap,aai,aae];by_cases e:k=n
  ·subst e;rw[aaj (vD h k),aaz (h k)]
  ·exact ih k Om _
theorem zx{xs:List UInt8}{a n j:Nat}(b:j<n):((xs.drop a).take n).getD j 0=xs.getD (a+j) 0:=by
 rw[Zl,Zl,ZO b,ZT]
theorem zy{f:Nat→List UInt8}{m:Nat}(h: ∀i,(f i).length=m){n k j:Nat}(b:k<n)(a:j<m):(bU m f n).getD (m*k+j) 0=(f k).getD j 0:=by
 rw[←zx a];unfold bU;rw[Px h n k b]
theorem EE{xs:List UInt8}{k j:Nat}(a:j<9):(w9 xs k).getD j 0=xs.getD (9*k+j) 0:=zx a
theorem Py{xs:List UInt8}{k j:Nat}(a:j<36):(iT xs k).getD j 0=xs.getD (36*k+j) 0:=zx a
theorem Pz{l:List UInt8}{x:Int}{p:Bool}{k j:Nat}(a:j<8):(eZ l x p k).getD j 0=UInt8.ofNat (aC l (8*k) 8/256^j):=by
 unfold eZ;rw[Zl,Zu (by rw[jX];exact a),←Zl,Ph _ _ _ a]
theorem PA{l:List UInt8}{x:Int}{p:Bool}{k:Nat}:(eZ l x p k).getD 8 0=vF (aC l (8*k) 8) ((jY x:Nat):Int) (ed p):=by
 unfold eZ;rw[Zl,Zz (by rw[jX];omega),jX];rfl
theorem PB{l:List UInt8}{x:Int}{p:Bool}{k:Nat}(b:k<8):aC (bU 9 (eZ l x p) 8) (9*k) 8=aC l (8*k) 8:=by
 rw[Ew (D:=aC l (8*k) 8) 8 λj a=>by
  rw[zy (oi l x p) b Om,Pz a,aaS]]
 exact Z6 (qm _ _ Dc)
def zD(l ys:List UInt8)(k:Nat):Nat:=aC l (8*k) 8^^^aC (w9 ys k) 0 8
def zK(l:List UInt8)(x:Int)(p:Bool)(ys:List UInt8)(k:Nat):Nat:=(vF (aC l (8*k) 8) ((jY x:Nat):Int) (ed p)).toNat^^^((w9 ys k).getD 8 0).toNat
theorem EF(l ys:List UInt8)(k:Nat):zD l ys k<2^64:=ZJ (qk _ _ 8) (qk _ _ 8)
theorem EG(l:List UInt8)(x:Int)(p:Bool)(ys:List UInt8)(k:Nat):zK l x p ys k<2^8:=ZJ (aa4 _) (aa4 _)
theorem EH{l:List UInt8}{x:Int}{p:Bool}{ys:List UInt8}{k:Nat}(c:k<8):wC 1 (bU 9 (eZ l x p) 8) ys k=iV (zD l ys k) (zK l x p ys k):=by
 have d:wC 1 (bU 9 (eZ l x p) 8) ys k=cp (λj=>pc ((bU 9 (eZ l x p) 8).getD (9*k+j) 0^^^ys.getD (9*k+j) 0).toNat) (8+1):=rfl;rw[d,cp,←Ey _ _ _ _ 8 (ZH 8),PB c,zy (oi l x p) c Om,PA,ZI];unfold iV zD zK;rw[EE Om,Ex (xs:=w9 ys k) (ys:=ys) (a:=0) (b:=9*k) 8 λj e=>by rw[ZN];exact EE Om];rfl
theorem EI(x:Int):Hs.low ((jY x:Nat):Int)=jY x:=by unfold Hs.low jY;omega
theorem PC(p:Bool):Hs.low (ed p)=p.toNat:=by cases p<;>rfl
theorem x5(a b:Nat):a^^^(a^^^b)=b:=by rw[←ZE,ZR,Z3]
theorem PD(l:List UInt8)(x:Int)(p:Bool)(ys:List UInt8)(y:Int)(k:Nat):
  ph (aC (w9 ys k) 0 8) ((w9 ys k).getD 8 0) ((jY y:Nat):Int)=nu (zD l ys k) (zK l x p ys k)^^^(Hs.mark (jY x^^^jY y) 72^^^Hs.mark p.toNat 73):=by
 have b:aC (w9 ys k) 0 8=aC l (8*k) 8^^^zD l ys k:=by unfold zD;rw[x5]
 have c:((w9 ys k).getD 8 0).toNat=zK l x p ys k^^^Hs.chk (aC l (8*k) 8) (jY x) p.toNat:=by
  unfold zK;rw[EC,EI,PC,aaN,x5]
 rw[Pt,EI,c,b];unfold Hs.chk nu;rw[Hs.cs_xor,show Hs.mark 0 73=0 from rfl,Hs.mark_xor];generalize Hs.cs (aC l (8*k) 8)=A;generalize Hs.cs (zD l ys k)=B;generalize Hs.mark (jY y) 72=C;generalize Hs.mark (jY x) 72=a;generalize zK l x p ys k=D;generalize Hs.mark p.toNat 73=E;apply Nat.eq_of_testBit_eq;intro i;simp only[Nat.testBit_xor,Nat.zero_testBit];cases A.testBit i<;>cases B.testBit i<;>cases C.testBit i<;>cases a.testBit i<;>cases D.testBit i<;>cases E.testBit i<;>rfl
theorem PE:Hs.verdict 0=(0, -1):=by unfold Hs.verdict;rw[ALifp rfl]
theorem PF{t:Nat}(h:t<72):Hs.verdict (Hs.col t)=(1,(t:Int)):=by
 unfold Hs.verdict;rw[ALifn (by have:=Hs.col_pos (i:=t) Om;omega),Hs.at_col Om,ALifn Om,ALifn Om,ALifn Om]
theorem PG(d:Nat)(k:UInt8)(a:Int):fY d k a (a6 10) (bK 10)=Hs.decD d (Hs.verdict (ph d k a)):=by
 have h:=ED (bp d a 0 (a6 10)^^^k);unfold fY Hs.decD;rw[h.1,h.2];show _=if(Hs.verdict (bp d a 0 (a6 10)^^^k).toNat).1=1∧(Hs.verdict (bp d a 0 (a6 10)^^^k).toNat).2<64 then _ else d
 by_cases e:(Hs.verdict (bp d a 0 (a6 10)^^^k).toNat).1=1∧(Hs.verdict (bp d a 0 (a6 10)^^^k).toNat).2<64
 ·rw[ALifp e,cC e.2,e.1];show d^^^1*2^_=d^^^2^_;rw[Nat.one_mul];rfl
 ·rw[ALifn e];have:(((((Hs.verdict (bp d a 0 (a6 10)^^^k).toNat).1:Nat):Int)==1)&&decide ((Hs.verdict (bp d a 0 (a6 10)^^^k).toNat).2<64))=false:=by
   rw[aaL];by_cases b:(Hs.verdict (bp d a 0 (a6 10)^^^k).toNat).1=1
   ·exact .inr (bl λc=>e ⟨b,c⟩)
   ·exact .inl (beq_false_of_ne Om)
  rw[this];rfl
theorem EJ{ys:List UInt8}{y:Int}{k v:Nat}{a:Int}(h:Hs.verdict (ph (aC (w9 ys k) 0 8) ((w9 ys k).getD 8 0) ((jY y:Nat):Int))=(v,a)):dK ys y k=if v=0 then 0 else if v=1 then 1 else if v=2 then 2 else 3:=by
 have e:dm ((bp (aC (w9 ys k) 0 8) ((pc ((y%8388608).toNat)%2:Nat):Int) 0 (a6 10))^^^((w9 ys k).getD 8 0)) (bK 10)=((v:Nat):Int):=by
  have b:=(ED ((bp (aC (w9 ys k) 0 8) ((jY y:Nat):Int) 0 (a6 10))^^^((w9 ys k).getD 8 0))).1;unfold ph at h;rw[h] at b;exact b
 unfold dK ki;rw[e];by_cases c:v=0
 ·subst c;rfl
 by_cases d:v=1
 ·subst d;rfl
 by_cases b:v=2
 ·subst b;rfl
 rw[ALifn c,ALifn d,ALifn b];have f:(((v:Nat):Int)==0)=false:=by rw[db];omega
 have g:(((v:Nat):Int)==1)=false:=by rw[db];omega
 have i:(((v:Nat):Int)==2)=false:=by rw[db];omega
 rw[f,g,i];rfl
theorem EK{ys:List UInt8}{y:Int}{k v:Nat}{a:Int}(h:Hs.verdict (ph (aC (w9 ys k) 0 8) ((w9 ys k).getD 8 0) ((jY y:Nat):Int))=(v,a)):dW ys y k=Hs.decD (aC (w9 ys k) 0 8) (v,a):=by
 have e:=PG (aC (w9 ys k) 0 8) ((w9 ys k).getD 8 0) ((jY y:Nat):Int);rw[h] at e;exact e
theorem PH:Hs.mark 0 72=0:=rfl
theorem PI{l:List UInt8}{x:Int}{ys:List UInt8}{k:Nat}(h:iV (zD l ys k) (zK l x false ys k)≤1):dK ys x k=(iV (zD l ys k) (zK l x false ys k):Int)∧dW ys x k=aC l (8*k) 8:=by
 have a:=PD l x false ys x k;rw[ZR,PH,show Hs.mark false.toNat 73=0 from rfl,ZR,ZL] at a;have i:aC (w9 ys k) 0 8=aC l (8*k) 8^^^zD l ys k:=by unfold zD;rw[x5]
 rcases(show iV (zD l ys k) (zK l x false ys k)=0∨iV (zD l ys k) (zK l x false ys k)=1 by omega) with f | g
 ·obtain⟨c,d⟩:=(zu (EF l ys k) (EG l x false ys k)).1 f;rw[c,d,Ez] at a;have b:=(ALca Hs.verdict a).trans (PE);refine⟨by rw[EJ b,f];rfl,?_⟩;rw[EK b,i,c,ZL];rfl
 ·obtain⟨t,m,c,d,_⟩:=Pp (EF l ys k) (EG l x false ys k) g;rw[c] at a;have b:=(ALca Hs.verdict a).trans (PF m);refine⟨by rw[EJ b,g];rfl,?_⟩;rw[EK b,i,d];unfold Hs.decD Hs.tD;by_cases e:t<64
  ·rw[ALifp ⟨rfl,by show(t:Int)<64;omega⟩,ALifp e,Z3,ZE];show aC l (8*k) 8^^^(2^t^^^2^t)=_;rw[ZR,ZL]
  ·rw[ALifn (by rintro ⟨_,j⟩;exact e (by have:(t:Int)<64:=j;omega)),ALifn e,ZL]
end
section
open Go Go.RowKit Go.Shelf
theorem zz(l:List Int): ∀a:Int,(a≤l.foldl max a∧(∀x,x∈l→x≤l.foldl max a))∧∀m,a≤m→(∀x,x∈l→x≤m)→l.foldl max a≤m:=by
 induction l with
 | nil=>intro a;exact⟨⟨Int.le_refl _,λx h=>absurd h aag⟩,λm h _=>h⟩
 | cons y l ih=>
  intro a;obtain⟨⟨e,c⟩,d⟩:=ih (max a y);rw[aay];refine⟨⟨by omega,λx b=>?_⟩,λm f b=>d m (by have:=b y aar;omega) λx h=>b x (aaO _ h)⟩;rcases List.mem_cons.1 b with rfl | h
  ·omega
  ·exact c x h
theorem EL(l:List Int):0≤jK l:=(zz l 0).1.1
theorem PJ{l:List Int}{x:Int}(h:x∈l):x≤jK l:=(zz l 0).1.2 x h
theorem EM{l:List Int}{m:Int}(h0:0≤m)(h: ∀x,x∈l→x≤m):jK l≤m:=(zz l 0).2 m h0 h
theorem PK(l:List Int): ∀a:Int,a≤l.foldl (λa k=>a+ed (k==1)) a∧((1:Int)∈l→a<l.foldl (λa k=>a+ed (k==1)) a):=by
 induction l with
 | nil=>intro a;exact⟨Int.le_refl _,λh=>absurd h aag⟩
 | cons y l ih=>
  intro a;obtain⟨d,b⟩:=ih (a+ed (y==1));have e:=y4 (y==1);rw[aay];refine⟨by omega,λc=>?_⟩;rcases List.mem_cons.1 c with rfl | h
  ·have f:ed ((1:Int)==1)=1:=rfl;omega
  ·have:=b h;omega
theorem PL{l:List Int}(h:(1:Int)∈l):0<jF l:=(PK l 0).2 h
theorem PM{f:Nat→Int}{n k:Nat}(h:k<n):f k∈(Zn n).map f:=List.mem_map.2 ⟨k,List.mem_range.2 h,rfl⟩
theorem PN{f:Nat→Int}{n:Nat}{P:Int→Prop}(h: ∀k,k<n→P (f k)): ∀x,x∈(Zn n).map f→P x:=by
 intro x b;obtain⟨k,a,rfl⟩:=List.mem_map.1 b;exact h k (List.mem_range.1 a)
theorem EN{f:Nat→Int}{c:Nat→Nat}{n e:Nat}(h: ∀k,k<n→f k=(c k:Int))(j: ∀k,k<n→c k≤e)(p:e≤1)(h1:e=1→∃k,k<n∧c k=1):
  jK ((Zn n).map f)=(e:Int)∧(decide (0<gF ((Zn n).map f))=((e:Int)==1)):=by
 have m:jK ((Zn n).map f)≤(e:Int):=EM Om (PN λk a=>by rw[h k a];have:=j k a;omega);have l:=EL ((Zn n).map f);rcases(show e=0∨e=1 by omega) with rfl | rfl
 ·have b:jK ((Zn n).map f)=0:=by omega
  refine⟨b,?_⟩;unfold gF;rw[b];rfl
 ·obtain⟨k,a,i⟩:=h1 rfl;have g:(1:Int)∈(Zn n).map f:=by
   have:=PM (f:=f) a;rwa [h k a,i] at this
  have o:=PJ g;have d:jK ((Zn n).map f)=1:=by omega
  refine⟨d,?_⟩;unfold gF;rw[d];show decide (0<jF _)=true;exact cC (PL g)
theorem EO(l:List UInt8)(x:Int)(p:Bool):(bU 9 (eZ l x p) 8).length=72:=oh (n:=9) (oi l x p) (k:=8) Dc
theorem PO{l:List UInt8}(g:l.length=64){f:Nat→Nat}(h: ∀k,k<8→f k=aC l (8*k) 8):b4 64 (iv (e8 0 8 f 8)) (8*8)=l:=by
 refine aav (by rw[lj,g]) λi a d=>?_;have b:i<64:=by rw[lj] at a;exact a
 have e:(b4 64 (iv (e8 0 8 f 8)) (8*8)).getD i 0=l.getD i 0:=by
  rw[NX b,ALifp b];unfold iv;rw[Ei (show i/8<8 by omega),ALifp Om,h _ Om];have c:=Pg (xs:=l) (off:=8*(i/8)) (n:=8) (j:=i%8) Om;rw[show 8*(i/8)+i%8=i by omega] at c;apply UInt8.toNat_inj.1;rw[aaS,aaC,←c]
 rw[Zl,Zl,Zo a,Zo d] at e;exact e
theorem zA{l:List UInt8}{x:Int}{p:Bool}{r:List UInt8}(b:r.length=72){k:Nat}(a:k<8):iV (zD l r k) (zK l x p r k)≤c7 1 (bU 9 (eZ l x p) 8) r:=by
 rw[←EH a];exact qp (EO l x p) b a
theorem PQ{l:List UInt8}{x:Int}{p:Bool}{r:List UInt8}(c:r.length=72){m:Nat}(h:c7 1 (bU 9 (eZ l x p) 8) r=m+1): ∃k,k<8∧iV (zD l r k) (zK l x p r k)=m+1:=by
 have a: ¬c7 1 (bU 9 (eZ l x p) 8) r≤m:=by omega
 rw[qo (EO l x p) c] at a;simp only[aaF] at a;obtain⟨k,b,d⟩:=a;have e:=zA (l:=l) (x:=x) (p:=p) c b;rw[EH b] at d;exact⟨k,b,by omega⟩
theorem PR{l:List UInt8}(j:l.length=64){x:Int}{r:List UInt8}(b:r.length=72)(h:c7 1 (bU 9 (eZ l x false) 8) r≤1):
  pb r x=l∧jK ((Zn 8).map (dK r x))=(c7 1 (bU 9 (eZ l x false) 8) r:Int)∧(decide (0<gF ((Zn 8).map (dK r x)))=((c7 1 (bU 9 (eZ l x false) 8) r:Int)==1)):=by
 have g:=λk (a:k<8)=>PI (ZM (zA (l:=l) (x:=x) (p:=false) b a) h);have d:=EN (f:=dK r x) (c:=λk=>iV (zD l r k) (zK l x false r k)) (n:=8) (e:=c7 1 (bU 9 (eZ l x false) 8) r) (λk a=>(g k a).1) (λk a=>zA b a) h λi=>PQ b i;refine⟨?_,d⟩;unfold pb;rw[d.1,bl Om,ALcf];exact PO j λk a=>(g k a).2
end
end E
section
open Go Go.RowKit Go.Shelf
theorem om{x y:List UInt8}{i:Nat}(h:i<x.length):co (x++y) i=x.getD i 0:=by
 unfold co;rw[Zl,Zl,Zu h]
theorem vG{x y:List UInt8}{n i:Nat}(h:x.length=n):co (x++y) (n+i)=y.getD i 0:=by
 unfold co;rw[Zl,Zl,Zz Om,←h,aaJ]
def g9(d v:List UInt8):List UInt8:=g8 d v++d
theorem qq(d v:List UInt8)(a:d.length=32):(g9 d v).length=36:=by unfold g9;rw[Zq,ir,a]
theorem PS{l m:List Nat}(g:l.Nodup)(h: ∀x∈l,x∈m):l.length≤m.length:=by
 induction l generalizing m with
 | nil=>exact ZY _
 | cons a l ih=>
  obtain⟨d,f⟩:=List.nodup_cons.1 g;have b:=h a (aar ..);have:=ih f (m:=m.erase a) λx c=>(List.mem_erase_of_ne (λ(e:x=a)=>d (by rw[←e];exact c))).2 (h x (aaO _ c));rw[List.length_erase_of_mem b] at this;have:=List.length_pos_of_mem b;rw[Z4];omega
theorem zB{e:Nat→UInt8}{n i:Nat}:i∈kH e n↔i<n∧e i≠0:=by
 unfold kH;rw[List.mem_filter,List.mem_range,bne_iff_ne]
theorem PT{n k:Nat}{f:Nat→UInt8}(c:k<n)(h: ∀i,i<n→i≠k→f i=0):xs n f=f k:=by
 induction n with
 | zero=>omega
 | succ n ih=>
  rw[qh];by_cases e:k=n
  ·subst e;rw[mI λi b=>h i Om Om,aaa]
  ·rw[ih Om λi b a=>h i Om a,h n Om Om,aa5]
def Sy(f:Nat→UInt8)(j:Nat):UInt8:=xs 39 λi=>gm (f i) (pw (pw 2 j) i)
theorem EP{f g:Nat→UInt8}(h: ∀i,i<39→f i=g i)(j:Nat):Sy f j=Sy g j:=kF λi a=>by rw[h i a]
theorem PU(f g:Nat→UInt8)(j:Nat):Sy (λi=>f i^^^g i) j=Sy f j^^^Sy g j:=by
 unfold Sy;rw[←vq];exact kF λi _=>vm _ _ _
def one(k:Nat)(a:UInt8)(i:Nat):UInt8:=if i=k then a else 0
theorem PV{k:Nat}(c:k<39)(a:UInt8)(j:Nat):Sy (one k a) j=gm a (pw (pw 2 j) k):=by
 unfold Sy;rw[PT c λi _ b=>by rw[show one k a i=0 from ALifn b,iS],show one k a k=a from ALifp rfl]
theorem PW{w v:List UInt8}(h:(w++v).length=39)(j:Nat):qi w v j=Sy (co (w++v)) j:=by
 unfold qi fk;rw[h];rfl
theorem PX(w v:List UInt8){j:Nat}(a:j<4):co (aW w v) j=qi w v j:=by unfold aW;rw[k9,ALifp a]
theorem PY(n:Nat):pw 1 n=1:=by
 induction n with
 | zero=>rfl
 | succ n ih=>rw[pw,ih,qe]
theorem zC(k:Nat):pw (pw 2 0) k=1:=PY k
theorem zE(j k:Nat):pw (pw 2 (j+1)) k=gm (pw (pw 2 j) k) (pw 2 k):=by rw[DN,pw,DN]
theorem ER{s:Nat→UInt8}{a:UInt8}{k:Nat}(b:a≠0)(h: ∀j,j<4→s j=gm a (pw (pw 2 j) k)):hit s k=true:=by
 rw[o6,h 0 Om,h 1 Om,h 2 Om,h 3 Om,zC,qe];refine⟨b,?_,?_,?_⟩
 ·rw[zE 0,zC,Dl]
 ·rw[zE 1,ni]
 ·rw[zE 2,ni]
theorem PZ{s:Nat→UInt8}{a:UInt8}{k:Nat}(f:k<39)(h: ∀j,j<4→s j=gm a (pw (pw 2 j) k)):
  dU s=if a=0 then⟨0, -1,0⟩ else if 35<k then⟨2,k,a⟩ else⟨1,k,a⟩:=by
 by_cases d:a=0
 ·rw[ALifp d];have b: ∀j,j<4→s j=0:=λj e=>by rw[h j e,d,iS]
  exact yP ⟨b 0 Om,b 1 Om,b 2 Om,b 3 Om⟩
 ·rw[ALifn d];have b:s 0=a:=by rw[h 0 Om,zC,qe]
  by_cases c:35<k
  ·rw[ALifp c,DV c f (ER d h),b]
  ·rw[ALifn c,DU Om (ER d h),b]
def n0(f:Nat→UInt8):Prop:=∀j,j<4→Sy f j=0
theorem P0(d v:List UInt8)(b:d.length=32)(i:Nat):co (g9 d v++v) i=co (o7 d v) i^^^co (kK d v) i:=by
 have c:=yR d v;unfold g9 o7;rw[aae,aae];by_cases h:i<4
 ·rw[om (by rw[ir];omega),om (by simpa using h)];have a:(Zp 4 (0:UInt8)).getD i 0=0:=by rw[Zl,List.getElem?_replicate,ALifp h];rfl
  rw[a,aaa];show co (g8 d v) i=_;unfold g8;rw[k9,ALifp h]
 ·obtain⟨t,rfl⟩: ∃t,i=4+t:=⟨i-4,by omega⟩;rw[vG (ir d v),vG (ZG),fW (p:=kK d v) Om,aa5]
theorem P1(j:Nat)(a:j<4):fk cE (pw 2 j)=0:=by
 rw[DX];revert j;decide+kernel
theorem P2(d v:List UInt8)(a:d.length=32)(hv:v.length=3):(g9 d v++v).length=39:=by rw[Zq,qq d v a,hv]
theorem P3(d v:List UInt8)(a:d.length=32)(hv:v.length=3):n0 (co (g9 d v++v)):=by
 intro j b;have e:Sy (co (g9 d v++v)) j=fk (g9 d v++v) (pw 2 j):=by
  unfold fk;rw[P2 d v a hv];rfl
 rw[e,Mj (q:=sP (o7 d v) (kK d v)) _ λi=>by rw[yL];exact P0 d v a i,Mk];have:=Mw (p:=o7 d v) (q:=cE) (t:=gi (co cE (a4 cE-1))) (by rw[o8];omega) (DY (n8 cE (t:=a4 cE-1) (by rw[o8]))) (P1 j b);rw[show fk (kK d v) (pw 2 j)=fk (o7 d v) (pw 2 j) from this,ZK]
theorem P4(d v w u:List UInt8)(e:Nat→UInt8)(b:d.length=32)(hv:v.length=3)(c:(w++u).length=39)(h: ∀i,i<39→co (w++u) i=co (g9 d v++v) i^^^e i):dU (co (aW w u))=dU (Sy e):=by
 refine Na λj a=>?_;rw[PX _ _ a,PW c,EP h,PU,P3 d v b hv j a,aaa]
end
namespace E
section
open Go Go.RowKit Go.Shelf
def iW(l:List UInt8)(k:Nat):List UInt8:=(l.drop (32*k)).take 32
theorem qt{l:List UInt8}(b:l.length=64){k:Nat}(a:k<2):(iW l k).length=32:=by unfold iW;rw[Zr,ZA];omega
theorem P5{l:List UInt8}{x:Int}{p:Bool}{k:Nat}(a:k<2):eG l x p k=g9 (iW l k) (b9 x p):=En a
theorem zF{l:List UInt8}(a:l.length=64)(x:Int)(p:Bool):(bU 36 (eG l x p) 2).length=72:=oh (n:=36) (pf a x p) (k:=2) Dc
def eC(l:List UInt8)(x:Int)(p:Bool)(r:List UInt8)(y:Int)(q:Bool)(k i:Nat):UInt8:=Go.Proofs.YtbcodenfkijdnaaGreat.co (iT r k++b9 y q) i^^^Go.Proofs.YtbcodenfkijdnaaGreat.co (g9 (iW l k) (b9 x p)++b9 x p) i
theorem vH(e:Nat→UInt8)(n:Nat):(kH e n).length=cp (λi=>if e i=0 then 0 else 1) n:=by
 induction n with
 | zero=>rfl
 | succ n ih=>
  rw[M9,Zq,ih,cp];by_cases h:e n=0
  ·rw[ALifp h,h];rfl
  ·rw[ALifn h,ALifp (bne_iff_ne.2 h)];rfl
theorem vJ{a b:UInt8}:a^^^b=0↔b=a:=UInt8.xor_eq_zero_iff.trans eq_comm
theorem ES{l:List UInt8}(c:l.length=64)(x:Int)(p:Bool){r:List UInt8}(f:r.length=72)(y:Int)(q:Bool){k:Nat}(a:k<2):wC 2 (bU 36 (eG l x p) 2) r k=(kH (eC l x p r y q k) 36).length:=by
 rw[vH];have d:wC 2 (bU 36 (eG l x p) 2) r k=cp (λj=>cQ 2 ((bU 36 (eG l x p) 2).getD (36*k+j) 0) (r.getD (36*k+j) 0)) 36:=rfl;rw[d];refine zs 36 λj b=>?_;have g:=nq f a;unfold eC cQ;rw[ALifn Dc,om Om,om (by rw[qq _ _ (qt c a)];exact b),zy (pf c x p) a b,Py b,P5 a];by_cases h:(g9 (iW l k) (b9 x p)).getD j 0=r.getD (36*k+j) 0
 ·rw[ALifp h,ALifp (vJ.2 h)]
 ·rw[ALifn h,ALifn λe=>h (vJ.1 e)]
theorem ET{l:List UInt8}(b:l.length=64)(x:Int)(p:Bool){r:List UInt8}(c:r.length=72)(y:Int)(q:Bool){k:Nat}(a:k<2)(t:Nat):eC l x p r y q k (36+t)=(b9 y q).getD t 0^^^(b9 x p).getD t 0:=by
 unfold eC;rw[vG (nq c a),vG (qq _ _ (qt b a))]
theorem EU(e:Nat→UInt8):(kH e 39).length=(kH e 36).length+(if e 36=0 then 0 else 1)+(if e 37=0 then 0 else 1)+(if e 38=0 then 0 else 1):=by
 rw[vH,vH];rfl
theorem EV{l:List UInt8}(b:l.length=64)(x:Int)(p:Bool){r:List UInt8}(c:r.length=72)(y:Int)(q:Bool){k:Nat}(a:k<2):dU (Go.Proofs.YtbcodenfkijdnaaGreat.co (aW (iT r k) (b9 y q)))=dU (Sy (eC l x p r y q k)):=by
 refine P4 (iW l k) (b9 x p) _ _ _ (qt b a) (lB x p) (by rw[Zq,nq c a,lB]) λi d=>?_;unfold eC;rw[aa2 (Go.Proofs.YtbcodenfkijdnaaGreat.co (iT r k++b9 y q) i),←aaZ,ZK,aaa]
theorem P6{e:Nat→UInt8}(h:(kH e 39).length=0):dU (Sy e)=⟨0, -1,0⟩:=by
 have c: ∀i,i<39→e i=0:=λi b=>Z8 λd=>by
  have:=aaw h;have a:=zB.2 ⟨b,d⟩;rw[this] at a;exact absurd a aag
 have a: ∀j,Sy e j=0:=λj=>mI λi b=>by rw[c i b,iS]
 exact yP ⟨a 0,a 1,a 2,a 3⟩
theorem P7{e:Nat→UInt8}{n:Nat}(h:(kH e n).length=1): ∃k,k<n∧e k≠0∧∀i,i<n→i≠k→e i=0:=by
 obtain⟨k,c⟩:=List.length_eq_one_iff.1 h;obtain⟨d,f⟩:=zB.1 (show k∈kH e n by rw[c];exact List.mem_singleton.2 rfl);refine⟨k,d,f,λi g a=>Z8 λj=>a ?_⟩;have b:=zB.2 ⟨g,j⟩;rw[c] at b;exact List.mem_singleton.1 b
theorem P8{e:Nat→UInt8}{k:Nat}(c:k<39)(h:e k≠0)(g: ∀i,i<39→i≠k→e i=0):dU (Sy e)=if 35<k then⟨2,k,e k⟩ else⟨1,k,e k⟩:=by
 have d:=PZ (s:=Sy e) (a:=e k) c λj _=>by
  rw[←PV c];refine EP (λi f=>?_) j;unfold one;by_cases b:i=k
  ·rw[ALifp b,b]
  ·rw[ALifn b,g i f b]
 rw[d,ALifn h]
theorem zG{r:List UInt8}{y:Int}{k b:Nat}{c:Int}{a:UInt8}(h:dU (Go.Proofs.YtbcodenfkijdnaaGreat.co (aW (iT r k) (b9 y false)))=⟨b,c,a⟩):cK r y k=if b=0 then 0 else if b=1 then 1 else if b=2∧c=38∧a=128 then 2 else 3:=by
 unfold cK nm pa fx cY eY;rw[h];show(bif ((b:Nat):Int)==0 then 0 else(bif ((b:Nat):Int)==1 then 1 else(bif ((((b:Nat):Int)==2)&&(c==38))&&((a.toNat:Int)==128) then 2 else 3)))=(_:Int);by_cases e:b=0
 ·subst e;rfl
 by_cases f:b=1
 ·subst f;rfl
 rw[ALifn e,ALifn f];have i:(((b:Nat):Int)==0)=false:=by rw[db];omega
 have j:(((b:Nat):Int)==1)=false:=by rw[db];omega
 rw[i,j,ALcf,ALcf];by_cases d:b=2∧c=38∧a=128
 ·obtain⟨rfl,rfl,rfl⟩:=d;rfl
 ·rw[ALifn d];have l:((((b:Nat):Int)==2)&&(c==38)&&((a.toNat:Int)==128))=false:=by
   apply Bool.eq_false_iff.2;intro g;rw[Zv,Zv,beq_iff_eq,beq_iff_eq,beq_iff_eq] at g;exact d ⟨by omega,g.1.2,UInt8.toNat_inj.1 (by show a.toNat=128;omega)⟩
  rw[l,ALcf]
theorem P9(r:List UInt8)(y:Int)(k:Nat):cK r y k≤3:=by
 obtain⟨⟨b,c,a⟩,h⟩: ∃V,dU (Go.Proofs.YtbcodenfkijdnaaGreat.co (aW (iT r k) (b9 y false)))=V:=⟨_,rfl⟩;rw[zG h]
 split
 ·decide
 ·split
  ·decide
  ·split<;>decide
theorem Qa{d v:List UInt8}{b:Nat}{e:Int}{a:UInt8}(h:dU (Go.Proofs.YtbcodenfkijdnaaGreat.co (aW d v))=⟨b,e,a⟩)(f:b≠1):fX d v=d.drop 4:=by
 unfold fX;rw[h];have c:(((b:Nat):Int)==1)=false:=by rw[db];omega
 show(bif ((b:Nat):Int)==1 then _ else _)=_;rw[c,ALcf]
theorem Qb{d v:List UInt8}{t:Nat}{a:UInt8}(h:dU (Go.Proofs.YtbcodenfkijdnaaGreat.co (aW d v))=⟨1,(t:Int),a⟩):fX d v=(d.set t (d.getD t 0^^^a)).drop 4:=by
 unfold fX;rw[h];rfl
theorem EW(d v:List UInt8):(g9 d v).drop 4=d:=by unfold g9;exact aaj (ir d v)
theorem Qc{l:List UInt8}(j:l.length=64){x:Int}{r:List UInt8}(d:r.length=72){k:Nat}(a:k<2)(h:wC 2 (bU 36 (eG l x false) 2) r k=0):cK r x k=0∧cW r x k=iW l k:=by
 have f:=ES j x false d x false a;have n:=ET j x false d x false a;have g:=EU (eC l x false r x false k);rw[show(36:Nat)=36+0 from rfl,show(37:Nat)=36+1 from rfl,show(38:Nat)=36+2 from rfl,n 0,n 1,n 2,ZK,ZK,ZK,ALifp rfl,←f,h] at g;have b:=(EV j x false d x false a).trans (P6 g);refine⟨by rw[zG b];rfl,?_⟩;unfold cW;rw[Qa b Dc];have p: ∀i,i<36→(iT r k).getD i 0=(g9 (iW l k) (b9 x false)).getD i 0:=by
  intro i c;have o:(kH (eC l x false r x false k) 36).length=0:=by rw[←f,h]
  rw[vH] at o;have m:=(sU 36).1 o i c;unfold eC at m;rw[om (by rw[nq d a];exact c),om (by rw[qq _ _ (qt j a)];exact c)] at m;by_cases e:(iT r k).getD i 0^^^(g9 (iW l k) (b9 x false)).getD i 0=0
  ·exact(vJ.1 e).symm
  ·rw[ALifn e] at m;omega
 have q:iT r k=g9 (iW l k) (b9 x false):=o1 (by rw[nq d a,qq _ _ (qt j a)]) λi c=>p i (by rw[nq d a] at c;exact c);rw[q,EW]
theorem Qd{l:List UInt8}(g:l.length=64){x:Int}{r:List UInt8}(j:r.length=72){k:Nat}(d:k<2)(h:wC 2 (bU 36 (eG l x false) 2) r k=1):cK r x k=1∧cW r x k=iW l k:=by
 have n:=ES g x false j x false d;have m:=ET g x false j x false d;have b:=EU (eC l x false r x false k);rw[show(36:Nat)=36+0 from rfl,show(37:Nat)=36+1 from rfl,show(38:Nat)=36+2 from rfl,m 0,m 1,m 2,ZK,ZK,ZK,ALifp rfl,←n,h] at b;obtain⟨t,y,p,q⟩:=P7 b;have u:t<36:=Z8 λA=>p (by
  have e:=m (t-36);rw[show 36+(t-36)=t by omega,ZK] at e;exact e)
 have a:=(EV g x false j x false d).trans (P8 y p q);rw[ALifn Om] at a;refine⟨by rw[zG a];rfl,?_⟩;unfold cW;rw[Qb a];have f:=nq j d;have o:=qq (iW l k) (b9 x false) (qt g d);have z:(iT r k).set t ((iT r k).getD t 0^^^eC l x false r x false k t)=g9 (iW l k) (b9 x false):=by
  refine o1 (by rw[ZF,f,o]) λi w=>?_;rw[ZF,f] at w;have c:eC l x false r x false k i=(iT r k).getD i 0^^^(g9 (iW l k) (b9 x false)).getD i 0:=by
   unfold eC;rw[om Om,om Om]
  unfold Go.Proofs.YtbcodenfkijdnaaGreat.co;rw[Zl,ZP];by_cases e:t=i
  ·subst e;rw[ALifp rfl,ALifp Om,Option.getD_some,c,←aaZ,ZK,aaa]
  ·rw[ALifn e,←Zl];have s:=q i Om (λv=>e v.symm);rw[c] at s;exact(vJ.1 s).symm
 rw[z,EW]
end
section
open Go Go.RowKit Go.Shelf
theorem Qe{l:List UInt8}(a:l.length=64){f:Nat→List UInt8}(h: ∀k,k<2→f k=iW l k):iw (fD f 2) 2=l:=by
 have e:fD f 2=l:=by
  show(f 0++(f 1++[]))++[]=l;rw[ZU,ZU,h 0 Dc,h 1 Dc];unfold iW;rw[show 32*0=0 from rfl,show 32*1=32 from rfl,aa7,aaI (l:=l.drop 32) (by rw[ZA];omega),List.take_append_drop]
 rw[e,y7 a]
theorem Qf{l:List UInt8}(c:l.length=64){x:Int}{p:Bool}{r:List UInt8}(d:r.length=72){m:Nat}(h:c7 2 (bU 36 (eG l x p) 2) r=m+1): ∃k,k<2∧wC 2 (bU 36 (eG l x p) 2) r k=m+1:=by
 have a: ¬c7 2 (bU 36 (eG l x p) 2) r≤m:=by omega
 rw[qo (zF c x p) d] at a;simp only[aaF] at a;obtain⟨k,b,e⟩:=a;have f:=qp (mode:=2) (zF c x p) d b;exact⟨k,b,by omega⟩
theorem EX{l:List UInt8}(b:l.length=64)(x:Int)(p:Bool){r:List UInt8}(c:r.length=72){k:Nat}(a:k<2):wC 2 (bU 36 (eG l x p) 2) r k≤c7 2 (bU 36 (eG l x p) 2) r:=qp (mode:=2) (zF b x p) c a
theorem Qg{l:List UInt8}(b:l.length=64){x:Int}{r:List UInt8}(d:r.length=72)(h:c7 2 (bU 36 (eG l x false) 2) r≤1):
  pd r x=l∧jK ((Zn 2).map (cK r x))=(c7 2 (bU 36 (eG l x false) 2) r:Int)∧(decide (0<gF ((Zn 2).map (cK r x)))=((c7 2 (bU 36 (eG l x false) 2) r:Int)==1)):=by
 have m: ∀k,k<2→cK r x k=(wC 2 (bU 36 (eG l x false) 2) r k:Int)∧cW r x k=iW l k:=by
  intro k a;have i:=EX b x false d a;rcases(show wC 2 (bU 36 (eG l x false) 2) r k=0∨wC 2 (bU 36 (eG l x false) 2) r k=1 by omega) with g | g
  ·rw[g];exact Qc b d a g
  ·rw[g];exact Qd b d a g
 have j:=EN (f:=cK r x) (c:=λk=>wC 2 (bU 36 (eG l x false) 2) r k) (n:=2) (e:=c7 2 (bU 36 (eG l x false) 2) r) (λk a=>(m k a).1) (λk a=>EX b x false d a) h λi=>Qf b d i;refine⟨?_,j⟩;unfold pd;rw[j.1,bl Om,ALcf];exact(y7 (vE (sS d x) (ZH 2))).symm.trans (Qe b λk a=>by rw[Ek a];exact(m k a).2)
end
end E
section
open Go Go.ChangeShapes Go.Deep Go.RowKit Go.WideShapes
inductive iz where
 | int (k:IntKind)
 | bool
def EY:iz→Value→Prop
 | .int k,v=>∃z:Int,v= .int k z∧(Lit.int k z).wf=true
 | .bool,v=>∃b:Bool,v= .bool b
def pj(P:Program)(r:TypeId→Option (List iz)):Nat→List Field→Option (List iz)
 | _,[]=>some []
 | off,f::fs=>match r f.type with
  | none=>none
  | some l=>if f.offset==off&&P.cellsOf f.type==l.length then(pj P r (off+l.length) fs).map λm=>l++m else none
def nv(P:Program):Nat→TypeId→Option (List iz)
 | 0,_=>none
 | n+1,t=>match P.underlying t with
  | some .bool=>some [.bool]
  | some (.int k)=>some [.int k]
  | some (.struct a)=>match pj P (nv P n) 0 a.toList with
   | some l=>if P.cellsOf t==l.length then some l else none
   | none=>none
  | some (.array m e)=>match nv P n e with
   | some l=>if P.cellsOf e==l.length&&P.cellsOf t==m*l.length then some (Zp m l).flatten else none
   | none=>none
  | _=>none
def eh(ls:List iz)(cs:List Value):Prop:=cs.length=ls.length∧∀(i:Nat) (lf:iz),ls[i]? =some lf→∃v,cs[i]? =some v∧EY lf v
theorem eh.append{l m:List iz}{cs:List Value}{k:Nat}(q:k=l.length)(h1:eh l (cs.take k))(h2:eh m (cs.drop k)):eh (l++m) cs:=by
 subst q;obtain⟨f,g⟩:=h1;obtain⟨j,p⟩:=h2;rw[Zr] at f;rw[ZA] at j;refine⟨by rw[Zq];omega,λi e h=>?_⟩;rcases aab i l.length with c | c
 ·rw[Zu c] at h;obtain⟨v,a,d⟩:=g i e h;rw[ZO c] at a;exact⟨v,a,d⟩
 ·rw[Zz c] at h;obtain⟨v,a,d⟩:=p _ e h;rw[ZT,show l.length+(i-l.length)=i by omega] at a;exact⟨v,a,d⟩
section
variable {H:Type} {enc:TypeId×Value→H} {P:Program} {w:World} {base:Nat} {spare:Nat→Bool} {held:Bool}
theorem EZ{r:TypeId→Option (List iz)}{m:Nat}(p: ∀t ls cs x,r t=some ls→DataW.trod enc P w base spare held m t cs=some x→eh ls cs):
  ∀(c:List Field) (off:Nat) (ls:List iz) (cs:List Value),pj P r off c=some ls→off+ls.length=cs.length→
   (∀(i:Nat) (f:Field),c[i]? =some f→∃x,DataW.trod enc P w base spare held m f.type ((cs.drop f.offset).take (P.cellsOf f.type))=some x)→eh ls (cs.drop off)
 | [],off,ls,cs,h,e,_=>by
  simp only[pj,Option.some.injEq] at h;subst h;exact⟨by simp at e⊢;omega,λi z h=>by simp at h⟩
 | f::c,off,ls,cs,h,e,k=>by
  unfold pj at h;cases a:r f.type with
  | none=>rw[a] at h;cases h
  | some l=>
   rw[a] at h;simp only at h
   split at h
   ·rename_i d;simp only[Zv,beq_iff_eq] at d;cases j:pj P r (off+l.length) c with
    | none=>rw[j] at h;cases h
    | some y=>
     rw[j] at h;simp only[aau,Option.some.injEq] at h;subst h;rw[Zq] at e;obtain⟨x,q⟩:=k 0 f rfl;rw[d.1,d.2] at q;have s:=p _ _ _ _ a q;have u:=EZ p c (off+l.length) y cs j Om λi g v=>k (i+1) g (by simpa using v);exact eh.append rfl s (by rw[aam];exact u)
   ·cases h
theorem E0{r:List Value→Prop}{l:List iz}(d: ∀cs,r cs→eh l cs): ∀(m:Nat) (cs:List Value),cs.length=m*l.length→(∀i,i<m→r ((cs.drop (i*l.length)).take l.length))→eh (Zp m l).flatten cs
 | 0,cs,h,_=>by
  have:cs=[]:=aaw Om;subst this;exact⟨rfl,λi g h=>by simp at h⟩
 | m+1,cs,h,c=>by
  rw[aaT,ZW];have a:=d _ (c 0 Om);rw[aaP,aa7] at a;refine eh.append rfl a (E0 d m _ (by rw[ZA,h,abf];omega) λi f=>?_);have e:=c (i+1) Om;rw[aam];rwa [show(i+1)*l.length=l.length+i*l.length by rw[abf];omega] at e
theorem vK: ∀(n:Nat) (t:TypeId) (s:List iz) (c:Nat) (a:List Value) (x:DataW H×List MemPlace),nv P n t=some s→DataW.trod enc P w base spare held c t a=some x→eh s a
 | 0,_,_,_,_,_,h,_=>by simp [nv] at h
 | n+1,t,s,c,a,x,h,y=>by
  unfold nv at h;cases q:P.underlying t with
  | none=>rw[q] at h;cases h
  | some d=>
   rw[q] at h;cases d with
   | bool=>
    simp only[Option.some.injEq] at h;subst h;obtain⟨b,rfl,_⟩:=DataW.trod_bool q y;exact⟨rfl,λi L h=>by
     cases i with
     | zero=>simp only[aaf,Option.some.injEq] at h;subst h;exact⟨_,rfl,b,rfl⟩
     | succ i=>simp at h⟩
   | int k=>
    simp only[Option.some.injEq] at h;subst h;obtain⟨z,rfl,_,K⟩:=DataW.trod_int q y;exact⟨rfl,λi L h=>by
     cases i with
     | zero=>simp only[aaf,Option.some.injEq] at h;subst h;exact⟨_,rfl,z,rfl,K⟩
     | succ i=>simp at h⟩
   | struct D=>
    simp only at h;cases j:pj P (nv P n) 0 D.toList with
    | none=>rw[j] at h;cases h
    | some l=>
     rw[j] at h;simp only at h
     split at h
     ·rename_i v;rw[beq_iff_eq] at v;cases h;obtain⟨B,m,_,_,J,u,g⟩:=DataW.trod_struct q y;have:=EZ (m:=m) (λt s a x p I=>vK n t s m a x p I) D.toList 0 s a j Om λi f F=>by
       have p:=g i f (by simpa using F);have C:i<B.length:=by rw[u];have:=(List.getElem?_eq_some_iff.1 F).1;simpa using this
       exact⟨B[i],by rw[p,Zo C]⟩
      simpa using this
     ·cases h
   | array m e=>
    simp only at h;cases j:nv P n e with
    | none=>rw[j] at h;cases h
    | some l=>
     rw[j] at h;simp only at h
     split at h
     ·rename_i v;simp only[Zv,beq_iff_eq] at v;cases h;obtain⟨B,G,_,_,J,u,g⟩:=DataW.trod_array q y;refine E0 (r:=λa=>∃x,DataW.trod enc P w base spare held G e a=some x) (λa ⟨x,h⟩=>vK n e l G a x j h) m a Om λi C=>?_;have p:=g i C;rw[v.1] at p;exact⟨B[i]'Om,by rw[p,Zo Om]⟩
     ·cases h
   | _=>simp at h
theorem Qh{t:TypeId}{v:Value}{d:DataW H}{p:List MemPlace}(n:Nat){ls:List iz}(f:nv P n t=some ls)(c: ∃cs,v= .agg cs)(h:DataW.Trod enc P w base spare held t v d p): ∃cs:List Value,v= .agg cs.toArray∧eh ls cs:=by
 obtain⟨cs,rfl⟩:=c;obtain⟨a,e⟩:=h;exact⟨cs.toList,by simp,vK n t ls a _ _ f e⟩
theorem Qi{r:Reach}{c:Nat}{t:TypeId}{v:Value}{d:TypeDesc}(ht:P.underlying t=some d)(e:(match d with | .struct _ | .array _ _=>true | _=>false)=true)(h:Value.okWide P w r c t v): ∃cs,v= .agg cs:=by
 simp only[Value.okWide,ht] at h;cases d<;>simp at e
 ·obtain⟨cs,a,_⟩:=h;exact⟨cs,a⟩
 ·obtain⟨cs,a,_⟩:=h;exact⟨cs,a⟩
end
theorem Qj{z:Int}(h:(Lit.int .i64 z).wf=true): -9223372036854775808≤z∧z≤9223372036854775807:=by
 have:=bounds_i64 h;omega
theorem vL: ∀(n:Nat) (a:List Value),eh (Zp n (.int .i64)) a→∃d:List Int,d.length=n∧a=d.map (λz=>Value.int .i64 z)∧∀z∈d, -9223372036854775808≤z∧z≤9223372036854775807
 | 0,a,h=>⟨[],rfl,by have:=h.1;simp at this;simpa using this,by simp⟩
 | n+1,a,h=>by
  obtain⟨g,j⟩:=h;cases a with
  | nil=>simp at g
  | cons c a=>
   obtain⟨v,f,z,k,l⟩:=j 0 (.int .i64) (by simp);obtain⟨d,m,p,q⟩:=vL n a ⟨by simpa using g,λi s r=>by simpa using j (i+1) s (by rw[aaT,Z0];exact r)⟩;simp only[aaf,Option.some.injEq] at f;subst f;subst k;refine⟨z::d,by simp [m],by simp [p],λy e=>?_⟩;rcases List.mem_cons.1 e with rfl | e
   ·exact Qj l
   ·exact q y e
end
section
open Go Go.ChangeShapes Go.Deep Go.RowKit Go.WideShapes
def pn(n:Nat)(w:World)(A:Option Addr)(rows:List (List Value)):Prop:=
 ∀(i:Nat) (r:List Value),rows[i]? =some r→r.length=n∧∃b o,A=some ⟨b,o,none⟩∧b<w.heap.size∧∀(j:Nat) (v:Value),r[j]? =some v→w.cell? ⟨b,o+i*n+j,none⟩=some v
section
variable {n:Nat} {w w':World} {A:Option Addr} {rows:List (List Value)}
theorem pn.nil:pn n w A []:=λi r h=>by simp at h
end
section
variable {P:Program} {w:World} {b off:Nat}
end
section
variable {P:Program} {w:World} {o:Oper} {ρ:Operand→Value}
end
section
variable {H:Type} {enc:TypeId×Value→H} {P:Program} {w:World} {base:Nat} {spare:Nat→Bool} {held:Bool}
theorem Qk{t e:TypeId}{A:Option Addr}{g s:Nat}{d:DataW H}{p:List MemPlace}(n:Nat){ls:List iz}(Y:nv P n e=some ls)(hn:P.cellsOf e=ls.length)(h0:0<ls.length)(ht:P.underlying t=some (.slice e))
  (h:DataW.Trod enc P w base spare held t (.slice A g s) d p): ∃rows:List (List Value),rows.length=g∧(∀r∈rows,eh ls r)∧pn ls.length w A rows∧g≤s∧s≤maxLen:=by
 obtain⟨T,W⟩:=h;rcases open_slice ht W with⟨k,_⟩ | ⟨a,l,c,m,n',D,Pl,k,_,O,hm,R,_,hx⟩
 ·simp [Value.cells] at k;obtain⟨rfl,rfl,rfl⟩:=k;exact⟨[],rfl,by simp,pn.nil,ZH _,ZY _⟩
 ·simp [Value.cells] at k;obtain⟨rfl,rfl,rfl⟩:=k;have Z:g≤m:=by rw[R];split<;>omega
  obtain⟨f,z⟩:=choose_lt (α:=List Value) (n:=g) (p:=λi S=>w.cells? base (a.add (i*P.cellsOf e)) (P.cellsOf e)=some S∧eh ls S) λi G=>by
   obtain⟨F,K,L⟩:=hx i Om;exact⟨F,K,vK n e ls n' F _ Y L⟩
  refine⟨(Zn g).map f,by simp,λr C=>?_,λi r C=>?_,O,hm⟩
  ·obtain⟨i,G,rfl⟩:=List.mem_map.1 C;exact(z i (List.mem_range.1 G)).2
  ·have G:i<g:=by have:=(List.getElem?_eq_some_iff.1 C).1;simpa using this
   rw[Z2,aao G] at C;simp only[aau,Option.some.injEq] at C;subst C;obtain⟨K,L⟩:=z i G;obtain⟨_,h3,U⟩:=aaX K;refine⟨L.1,?_⟩;obtain⟨b,o,J⟩:=a;have u:=U 0 Om;have M:(f i)[0]? =some ((f i)[0]'Om):=Zo Om;rw[M] at u;have B:J=none:=by
    obtain⟨z1,z2⟩:=z 0 Om;have I:=(aaX z1).2.2 0 Om;have hzl:=z2.1;rw[Zo (show 0<(f 0).length by omega)] at I;have:=World.cell?_spot I;simpa [Addr.add] using this
   subst B;have q: ∀(x y:Nat),((⟨b,o,none⟩:Addr).add x).add y=⟨b,o+x+y,none⟩:=λx y=>by
    unfold Addr.add
    split<;>split<;>simp_all
   refine⟨b,o,rfl,?_,λj v V=>?_⟩
   ·rcases aab b w.heap.size with Q | N
    ·exact Q
    ·exfalso;rw[q] at u;simp [abc,Array.getElem?_eq_none N] at u
   ·have X:j<P.cellsOf e:=by have:=(List.getElem?_eq_some_iff.1 V).1;omega
    have:=U j X;rw[q,hn] at this;rw[this,V]
end
end
namespace E
section
open Go Go.RowKit Go.Shelf
theorem Ql{w:World}{b o:Nat}{v:Value}(h:w.cell? ⟨b,o,none⟩=some v): ∃cs t a,w.heap[b]? =some (.cells cs t a):=by
 unfold abc at h;cases c:w.heap[b]? with
 | none=>simp [c] at h
 | some x=>
  cases x with
  | cells cs t a=>exact⟨cs,t,a,rfl⟩
  | _=>simp [c] at h
theorem Qm{α:Type}{en:α→List Value}{k:Nat}(b: ∀y,(en y).length=k){xs:List α}{i r:Nat}(a:i<xs.length)(c:r<k)(d:α):(ak en xs)[i*k+r]? =(en (xs.getD i d))[r]? :=by
 have h:=ALca (λl=>l[r]?) (uI (d:=d) b a);simp only[ZO c,ZT] at h;exact h
theorem Qn{α:Type}{en:α→List Value}{k:Nat}{w:World}{A:Option Addr}{n c:Nat}{xs:List α}(f: ∀y,(en y).length=k)(h0:0<k)(h:pn k w A (xs.map en))(K:xs.length=n): ∃q,ez q w∧dQ en (.slice A n c) xs q:=by
 subst K;cases m:xs with
 | nil=>exact⟨[],⟨λ_ h=>by simp at h,List.Pairwise.nil⟩,.inl ⟨rfl,A,c,rfl⟩⟩
 | cons a P=>
  rw[←m];have B:0<xs.length:=by rw[m];exact Nat.zero_lt_succ _
  obtain⟨_,b,o,rfl,J,G⟩:=h 0 (en a) (by rw[m];rfl);have d: ∃v,(en a)[0]? =some v:=⟨(en a)[0]'(by rw[f];exact h0),Zo _⟩;obtain⟨M,l⟩:=d;obtain⟨e,t,g,u⟩:=Ql (G 0 M l);refine⟨[(b,.cells e t g)],⟨λz L=>by rw[List.mem_singleton.1 L];exact u,List.pairwise_singleton _ _⟩,.inr ⟨b,o,e,t,g,c,rfl,List.mem_singleton.2 rfl,?_⟩⟩;have F:(ak en xs).length=xs.length*k:=fR f rfl;have p: ∀j,j<xs.length*k→e.toList[o+j]? =(ak en xs)[j]? :=by
   intro j d;have x:j/k<xs.length:=ZQ (by rw[Zt];exact d);have C:j%k<k:=Zx _ h0;have H:j=j/k*k+j%k:=(Nat.div_add_mod' j k).symm;obtain⟨_,N,O,I,_,i⟩:=h (j/k) (en (xs.getD (j/k) a)) (by rw[Z2,Zl,Zo x];rfl);cases I;have D:(en (xs.getD (j/k) a))[j%k]? =some ((en (xs.getD (j/k) a))[j%k]'(by rw[f];exact C)):=Zo _;have r:=i (j%k) _ D;rw[cell_of_row w b _ e t g u,←Array.getElem?_toList] at r;have s:=Qm f x C a;rw[←H] at s;rw[s,D,←r]
   congr 1
   omega
  rw[F];apply aad;intro j;by_cases d:j<xs.length*k
  ·rw[ZO d,ZT];exact p j d
  ·rw[ZD (by rw[Zr];omega),ZD Om]
end
section
open Go Go.RowKit Go.Shelf
def dL(x:Int):Int:=IntKind.i64.wrap x
theorem E1{x:Int}(h0: -9223372036854775808≤x)(h1:x≤9223372036854775807):dL x=x:=IntWalk.i64_in _ Om
section
variable {P:Program} {T:TypeId} {x y:Operand} {w:World}
theorem Qo(a b:Int):(av .and T x y (.int .i64 a) (.int .i64 b)).run P w= .ok (.int .i64 (bits .and .i64 a b)) w:=rfl
theorem Qp(a b:Int):(av .add T x y (.int .i64 a) (.int .i64 b)).run P w= .ok (.int .i64 (dL (a+b))) w:=rfl
theorem E2(a b:Int):(av .sub T x y (.int .i64 a) (.int .i64 b)).run P w= .ok (.int .i64 (dL (a-b))) w:=rfl
theorem zH(a b:Int):(av .mul T x y (.int .i64 a) (.int .i64 b)).run P w= .ok (.int .i64 (dL (a*b))) w:=rfl
end
def fy(n a:Int):Bool:=((decide (1≤n))&&(decide (n≤a)))&&((bits .and .i64 n (dL (n-1)))==0)
theorem mK{n a:Int}(h:fy n a=true):1≤n∧n≤a:=by
 unfold fy at h;simp only[Zv,decide_eq_true_eq] at h;exact h.1
theorem Qq: ∀n:Nat,n<1025→fy (n:Int) 1024=true→n∈[1,2,4,8,16,32,64,128,256,512,1024]:=by decide+kernel
theorem E3{n:Nat}{a:Int}(c:a≤1024)(h:fy (n:Int) a=true):n∈[1,2,4,8,16,32,64,128,256,512,1024]:=by
 have b:=mK h;refine Qq n Om ?_;unfold fy at h⊢;simp only[Zv,decide_eq_true_eq] at h⊢;exact⟨⟨h.1.1,by omega⟩,h.2⟩
def jo(r s b m c:Int):Bool:=((((((fy r 8)&&(decide (0≤s)))&&(decide (s≤(dL (8-r)))))&&(fy b 16))&&(fy m 1024))&&(fy c 64))&&(decide ((dL (dL (dL (dL (r+s)*b)*m)*c))≤4096))
structure cG (R S B M C:Nat):Prop where
 ok:jo R S B M C=true
structure hP (R S B M C:Nat):Prop where
 r1:1≤R
 r8:R+S≤8
 b1:1≤B
 b16:B≤16
 m1:1≤M
 m10:M≤1024
 c1:1≤C
 c64:C≤64
 all:(R+S)*B*M*C≤4096
theorem E4{r s b m c:Int}(h:jo r s b m c=true): ∃R S B M C:Nat,r=R∧s=S∧b=B∧m=M∧c=C∧cG R S B M C:=by
 have a:=h;unfold jo at h;simp only[Zv,decide_eq_true_eq] at h;obtain⟨⟨⟨⟨⟨⟨d,i⟩,j⟩,e⟩,f⟩,g⟩,k⟩:=h;have:=mK d;have:=mK e;have:=mK f;have:=mK g;refine⟨r.toNat,s.toNat,b.toNat,m.toNat,c.toNat,by omega,by omega,by omega,by omega,by omega,⟨?_⟩⟩;rw[ZS Om,ZS Om,ZS Om,ZS Om,ZS Om];exact a
theorem cG.bd{R S B M C:Nat}(h:cG R S B M C):hP R S B M C:=by
 have h:=h.ok;unfold jo at h;simp only[Zv,decide_eq_true_eq] at h;obtain⟨⟨⟨⟨⟨⟨e,u⟩,f⟩,g⟩,i⟩,j⟩,k⟩:=h;have p:=mK e;have q:=mK g;have r:=mK i;have s:=mK j;rw[E1 Om Om] at f;have b:R+S≤8:=by omega
 have c:(R+S)*B≤8*16:=aaq b Om;have d:(R+S)*B*M≤128*1024:=aaq c Om;have t:(R+S)*B*M*C≤131072*64:=aaq d Om;have a: ∀x:Nat,x≤8388608→dL (x:Int)=(x:Int):=λx v=>E1 Om Om;have l:dL ((R:Int)+(S:Int))=((R+S:Nat):Int):=(a (R+S) Om);have m:dL (((R+S:Nat):Int)*(B:Int))=(((R+S)*B:Nat):Int):=by rw[←aaD];exact a _ Om
 have n:dL ((((R+S)*B:Nat):Int)*(M:Int))=(((R+S)*B*M:Nat):Int):=by rw[←aaD];exact a _ Om
 have o:dL ((((R+S)*B*M:Nat):Int)*(C:Int))=(((R+S)*B*M*C:Nat):Int):=by rw[←aaD];exact a _ Om
 rw[l,m,n,o] at k;exact⟨by omega,b,by omega,by omega,by omega,by omega,by omega,by omega,by omega⟩
theorem cG.pow{R S B M C:Nat}(h:cG R S B M C):B∈[1,2,4,8,16,32,64,128,256,512,1024]:=by
 have h:=h.ok;unfold jo at h;simp only[Zv,decide_eq_true_eq] at h;obtain⟨⟨⟨⟨⟨⟨b,c⟩,d⟩,a⟩,e⟩,f⟩,g⟩:=h;exact E3 Dc a
section
variable {R S B M C:Nat} (h:hP R S B M C)
theorem hP.rb(h:hP R S B M C):R*B≤128:=aaq (show R≤8 by have:=h.r8;omega) h.b16
theorem hP.sbm(h:hP R S B M C):(R+S)*B*M≤4096:=ZM (aah _ h.c1) h.all
theorem hP.rbm(h:hP R S B M C):R*B*M≤4096:=ZM (Zy M (Zy B (aa6 R S))) h.sbm
theorem hP.rbmc(h:hP R S B M C):R*B*M*C≤4096:=ZM (Zy C (Zy M (Zy B (aa6 R S)))) h.all
theorem hP.bm(h:hP R S B M C):B*M≤4096:=by
 have a:B*M≤R*(B*M):=aaM _ h.r1;rw[←Zw] at a;exact ZM a h.rbm
theorem hP.bmc(h:hP R S B M C):B*M*C≤4096:=by
 have a:B*M*C≤R*(B*M*C):=aaM _ h.r1;rw[←Zw,←Zw] at a;exact ZM a h.rbmc
end
def bL(i n:Int):Bool:=(decide (0≤i))&&(decide (i<n))
theorem mc{i n:Int}:bL i n=true↔0≤i∧i<n:=by unfold bL;simp
def hold(R S B M C:Nat)(a p1 p2 p3:Int):Bool:=(((bL a ((R+S:Nat):Int))&&(bL p1 (B:Int)))&&(bL p2 (M:Int)))&&(bL p3 (C:Int))
theorem vM{R S B M C:Nat}{e p1 p2 p3:Int}:hold R S B M C e p1 p2 p3=true↔(0≤e∧e<((R+S:Nat):Int))∧(0≤p1∧p1<(B:Int))∧(0≤p2∧p2<(M:Int))∧(0≤p3∧p3<(C:Int)):=by
 unfold hold;rw[Zv,Zv,Zv,mc,mc,mc,mc]
 constructor
 ·rintro ⟨⟨⟨a,b⟩,c⟩,d⟩;exact⟨a,b,c,d⟩
 ·rintro ⟨a,b,c,d⟩;exact⟨⟨⟨a,b⟩,c⟩,d⟩
def dR(a p1 p2 p3:Int):Int:=a*1048576+p1*65536+p2*64+p3
def gx(R S B M C:Nat)(i:Int):Bool:= !(decide (i<0)|| !(hold R S B M C (i/1048576) (i/65536%16) (i/64%1024) (i%64)))
theorem Qr{R S B M C:Nat}(b:hP R S B M C){a p1 p2 p3:Int}(h:hold R S B M C a p1 p2 p3=true):dR a p1 p2 p3/1048576=a∧dR a p1 p2 p3/65536%16=p1∧dR a p1 p2 p3/64%1024=p2∧dR a p1 p2 p3%64=p3∧0≤dR a p1 p2 p3∧dR a p1 p2 p3<8388608:=by
 obtain⟨c,d,e,f⟩:=vM.1 h;have:=b.b16;have:=b.m10;have:=b.c64;have:=b.r8;unfold dR;omega
end
section
open Go Go.RowKit Go.Shelf
theorem vN(n a:Int):aa Zm 97 #[i6 n,i6 a] [] [] N0 (λ_=> .bool (fy n a)):=by
 exact fG Tryz.func97 λw b=>r0 [] [(4,.bool false)] [] (r0 [(10,.t (tv (av .sub 3 (.tmp 14) (.const (i6 1)) (i6 n) (i6 1)) (λ_=>E2 n 1))),(11,.t (tv (av .and 3 (.tmp 13) (.tmp 15) (i6 n) (i6 (dL (n-1)))) (λ_=>Qo n _))),] [(4,.bool (((decide (1≤n))&&(decide (n≤a)))&&((bits .and .i64 n (dL (n-1)))==0)))] [4] (ao (.bool (((decide (1≤n))&&(decide (n≤a)))&&((bits .and .i64 n (dL (n-1)))==0))) ab.zero bc [] [] []))
theorem vO(i n:Int):aa Zm 105 #[i6 i,i6 n] [] [] N0 (λ_=> .bool (bL i n)):=by
 exact fG Tryz.func105 λw a=>r0 [] [(4,.bool false)] [] (r0 [] [(4,.bool ((decide (0≤i))&&(decide (i<n))))] [4] (ao (.bool ((decide (0≤i))&&(decide (i<n)))) ab.zero bc [] [] []))
theorem E5(r s b m c:Int):aa Zm 57 #[.agg #[i6 r,i6 s,i6 b,i6 m,i6 c]] [] [] N0 (λ_=> .bool (jo r s b m c)):=by
 exact fG Tryz.func57 λw d=>ra (λa=>[(1,pt (B0 a) 0),(2,.bool false)]) (λa=>[ob (B0 a) #[i6 r,i6 s,i6 b,i6 m,i6 c] 23]) λa=>r0 [(1,.m (ld 0 (i6 r))),(2,.c [] [] (vN r 8)),(5,.m (ld 0 (i6 s))),(10,.m (ld 0 (i6 s))),(12,.m (ld 0 (i6 r))),(13,.t (tv (av .sub 3 (.const (i6 8)) (.tmp 15) (i6 8) (i6 r)) (λ_=>E2 8 r))),(18,.m (ld 0 (i6 b))),(19,.c [] [] (vN b 16)),(23,.m (ld 0 (i6 m))),(24,.c [] [] (vN m 1024)),(28,.m (ld 0 (i6 c))),(29,.c [] [] (vN c 64)),(33,.m (ld 0 (i6 r))),(35,.m (ld 0 (i6 s))),(36,.t (tv (av .add 3 (.tmp 36) (.tmp 38) (i6 r) (i6 s)) (λ_=>Qp r s))),(38,.m (ld 0 (i6 b))),(39,.t (tv (av .mul 3 (.tmp 39) (.tmp 41) (i6 (dL (r+s))) (i6 b)) (λ_=>zH _ _))),(41,.m (ld 0 (i6 m))),(42,.t (tv (av .mul 3 (.tmp 42) (.tmp 44) (i6 (dL (dL (r+s)*b))) (i6 m)) (λ_=>zH _ _))),(44,.m (ld 0 (i6 c))),(45,.t (tv (av .mul 3 (.tmp 45) (.tmp 47) (i6 (dL (dL (dL (r+s)*b)*m))) (i6 c)) (λ_=>zH _ _))),] [(2,.bool (((((((fy r 8)&&(decide (0≤s)))&&(decide (s≤(dL (8-r)))))&&(fy b 16))&&(fy m 1024))&&(fy c 64))&&(decide ((dL (dL (dL (dL (r+s)*b)*m)*c))≤4096))))] [2] (ao (.bool (((((((fy r 8)&&(decide (0≤s)))&&(decide (s≤(dL (8-r)))))&&(fy b 16))&&(fy m 1024))&&(fy c 64))&&(decide ((dL (dL (dL (dL (r+s)*b)*m)*c))≤4096)))) ab.zero bc [] [] [])
theorem vP(R S B M C:Nat)(a:cG R S B M C):aa Zm 57 #[.agg #[iN R,iN S,iN B,iN M,iN C]] [] [] N0 (λ_=> .bool true):=by
 have h:=E5 R S B M C;rwa [a.ok] at h
attribute [local irreducible] bL fy dL
theorem sX(R S B M C:Nat)(d:cG R S B M C)(a p1 p2 p3:Int):aa Zm 73 #[.agg #[iN R,iN S,iN B,iN M,iN C],.agg #[i6 a,i6 p1,i6 p2,i6 p3]] [] [] N0 (λ_=> .bool (hold R S B M C a p1 p2 p3)):=by
 have e:=d.bd;have f:=e.r8;exact fG Tryz.func73 λw g=>ra (λb=>[(2,pt (B0 b) 0),(3,pt (B1 b) 0),(4,.bool false)]) (λb=>[ob (B0 b) #[iN R,iN S,iN B,iN M,iN C] 23,ob (B1 b) #[i6 a,i6 p1,i6 p2,i6 p3] 46]) λb=>r0 [(0,.m (ls 0 ([iN R,iN S,iN B,iN M,iN C]))),(1,.c [] [] (vP R S B M C d)),(4,.m (ld 1 (i6 a))),(6,.m (ld 0 (iN R))),(8,.m (ld 0 (iN S))),(9,ad R S),(10,.c [] [] (vO a ((R+S:Nat):Int))),(14,.m (ld 1 (i6 p1))),(16,.m (ld 0 (iN B))),(17,.c [] [] (vO p1 (B:Int))),(21,.m (ld 1 (i6 p2))),(23,.m (ld 0 (iN M))),(24,.c [] [] (vO p2 (M:Int))),(28,.m (ld 1 (i6 p3))),(30,.m (ld 0 (iN C))),(31,.c [] [] (vO p3 (C:Int)))] [(4,.bool ((((bL a ((R+S:Nat):Int))&&(bL p1 (B:Int)))&&(bL p2 (M:Int)))&&(bL p3 (C:Int))))] [4] (ao (.bool ((((bL a ((R+S:Nat):Int))&&(bL p1 (B:Int)))&&(bL p2 (M:Int)))&&(bL p3 (C:Int)))) ab.zero bc [] [] [])
theorem E6(a p1 p2 p3:Int)(c:0≤a)(g:a<8)(d:0≤p1)(h:p1<16)(e:0≤p2)(i:p2<1024)(f:0≤p3)(j:p3<64):aa Zm 102 #[.agg #[i6 a,i6 p1,i6 p2,i6 p3]] [] [] N0 (λ_=>i6 (dR a p1 p2 p3)):=by
 exact fG Tryz.func102 λw k=>ra (λb=>[(1,pt (B0 b) 0),(2,i6 0)]) (λb=>[ob (B0 b) #[i6 a,i6 p1,i6 p2,i6 p3] 46]) λb=>r0 [(1,.m (ld 0 (i6 a))),(2,.t (tv (av .shl 3 (.tmp 4) (.const (u6 20)) (i6 a) (u6 20)) (λ_=>fU 20 Dc Om Om))),(4,.m (ld 0 (i6 p1))),(5,.t (tv (av .shl 3 (.tmp 7) (.const (u6 16)) (i6 p1) (u6 16)) (λ_=>fU 16 Dc Om Om))),(6,.t (tv (av .or 3 (.tmp 5) (.tmp 8) (i6 (a*2^20)) (i6 (p1*2^16))) (λ_=>sA 20 1048576 rfl Om Om Om Om Om))),(8,.m (ld 0 (i6 p2))),(9,.t (tv (av .shl 3 (.tmp 11) (.const (u6 6)) (i6 p2) (u6 6)) (λ_=>fU 6 Dc Om Om))),(10,.t (tv (av .or 3 (.tmp 9) (.tmp 12) (i6 (a*2^20+p1*2^16)) (i6 (p2*2^6))) (λ_=>sA 16 65536 rfl Om Om Om Om Om))),(12,.m (ld 0 (i6 p3))),(13,.t (tv (av .or 3 (.tmp 13) (.tmp 15) (i6 (a*2^20+p1*2^16+p2*2^6)) (i6 p3)) (λ_=>sA 6 64 rfl Om Om Om Om Om)))] [(2,i6 (a*2^20+p1*2^16+p2*2^6+p3))] [2] (ao (i6 (a*2^20+p1*2^16+p2*2^6+p3)) ab.zero (by exact ALca (Value.int .i64) (by unfold dR;omega)) [] [] [])
theorem Qs{R S B M C:Nat}(a:hP R S B M C){b p1 p2 p3:Int}(h:hold R S B M C b p1 p2 p3=true):(0≤b∧b<8)∧(0≤p1∧p1<16)∧(0≤p2∧p2<1024)∧0≤p3∧p3<64:=by
 obtain⟨c,d,e,f⟩:=vM.1 h;have:=a.b16;have:=a.m10;have:=a.c64;have:=a.r8;omega
def sY(R S B M C:Nat)(a p1 p2 p3:Int):Int:=(bif !(hold R S B M C a p1 p2 p3) then 0 else(dR a p1 p2 p3))
def sZ(R S B M C:Nat)(a p1 p2 p3:Int):Int:=(bif !(hold R S B M C a p1 p2 p3) then 12 else 0)
theorem E7(R S B M C:Nat)(e:cG R S B M C)(a p1 p2 p3:Int):aa Zm 147 #[.agg #[iN R,iN S,iN B,iN M,iN C],.agg #[i6 a,i6 p1,i6 p2,i6 p3]] [] [] N0 (λ_=> .tuple #[i6 (sY R S B M C a p1 p2 p3),i6 (sZ R S B M C a p1 p2 p3)]):=by
 refine fG Tryz.func147 λw f=>ra (λb=>[(2,pt (B0 b) 0),(3,pt (B1 b) 0),(4,i6 0),(5,i6 0)]) (λb=>[ob (B0 b) #[iN R,iN S,iN B,iN M,iN C] 23,ob (B1 b) #[i6 a,i6 p1,i6 p2,i6 p3] 46]) λb=>r0 [(0,.l 0),(1,.l 1),(2,.c [] [] (sX R S B M C e a p1 p2 p3))] [(9,.bool (!(hold R S B M C a p1 p2 p3)))] [] ?_;refine cB (!(hold R S B M C a p1 p2 p3)) (λd=>?_) λd=>?_
 ·exact r0 [] [(4,i6 0),(5,i6 12)] [4,5] (ao (.tuple #[i6 0,i6 12]) ab.zero (by((try simp only[sY,sZ]);(repeat (first | rw[d] | rw[ALct])))<;>rfl) [] [] [])
 obtain⟨⟨g,k⟩,⟨h,m⟩,⟨i,n⟩,j,o⟩:=Qs e.bd (by simpa using d);exact r0 [(0,.l 1),(1,.c [] [] (E6 a p1 p2 p3 Om Om Om Om Om Om Om Om))] [(4,i6 (dR a p1 p2 p3)),(5,i6 0)] [4,5] (ao (.tuple #[i6 (dR a p1 p2 p3),i6 0]) ab.zero (by((try simp only[sY,sZ]);(repeat (first | rw[d] | rw[ALcf])))<;>rfl) [] [] [])
theorem Qt(i:Int):aa Zm 104 #[i6 i] [] [] N0 (λ_=> .agg #[i6 (i/1048576),i6 (i/65536%16),i6 (i/64%1024),i6 (i%64)]):=by
 exact fG Tryz.func104 λw b=>ra (λa=>[(2,pt (B0 a) 0)]) (λa=>[ob (B0 a) #[i6 0,i6 0,i6 0,i6 0] 46]) λa=>rs [(1,.t (tv (av .shr 3 (.tmp 3) (.const (u6 20)) (i6 i) (u6 20)) (λ_=>iO 20 Dc))),(3,.t (tv (av .shr 3 (.tmp 5) (.const (u6 16)) (i6 i) (u6 16)) (λ_=>iO 16 Dc))),(4,.t (tv (av .and 3 (.tmp 6) (.const (i6 15)) (i6 (i/65536)) (i6 15)) (λ_=>mG _ 4 16 Dc Dc Dc Dc))),(6,.t (tv (av .shr 3 (.tmp 8) (.const (u6 6)) (i6 i) (u6 6)) (λ_=>iO 6 Dc))),(7,.t (tv (av .and 3 (.tmp 9) (.const (i6 1023)) (i6 (i/64)) (i6 1023)) (λ_=>mG _ 10 1024 Dc Dc Dc Dc))),(9,.t (tv (av .and 3 (.tmp 11) (.const (i6 63)) (i6 i) (i6 63)) (λ_=>mG _ 6 64 Dc Dc Dc Dc))),(11,.s 0)] 0 (ob (B0 a) #[i6 (i/1048576),i6 (i/65536%16),i6 (i/64%1024),i6 (i%64)] 46) (lf ab.zero [] [] [0])
attribute [local irreducible] hold
def s0(R S B M C:Nat)(i:Int):Int:=(bif (decide (i<0))||(!(hold R S B M C (i/1048576) (i/65536%16) (i/64%1024) (i%64))) then 0 else(i/1048576))
def s4(R S B M C:Nat)(i:Int):Int:=(bif (decide (i<0))||(!(hold R S B M C (i/1048576) (i/65536%16) (i/64%1024) (i%64))) then 0 else(i/65536%16))
def s5(R S B M C:Nat)(i:Int):Int:=(bif (decide (i<0))||(!(hold R S B M C (i/1048576) (i/65536%16) (i/64%1024) (i%64))) then 0 else(i/64%1024))
def s6(R S B M C:Nat)(i:Int):Int:=(bif (decide (i<0))||(!(hold R S B M C (i/1048576) (i/65536%16) (i/64%1024) (i%64))) then 0 else(i%64))
def s7(R S B M C:Nat)(i:Int):Int:=(bif (decide (i<0))||(!(hold R S B M C (i/1048576) (i/65536%16) (i/64%1024) (i%64))) then 12 else 0)
theorem E8(R S B M C:Nat)(e:cG R S B M C)(i:Int):aa Zm 68 #[.agg #[iN R,iN S,iN B,iN M,iN C],i6 i] [] [] N0 (λ_=> .tuple #[.agg #[i6 (s0 R S B M C i),i6 (s4 R S B M C i),i6 (s5 R S B M C i),i6 (s6 R S B M C i)],i6 (s7 R S B M C i)]):=by
 refine fG Tryz.func68 λw f=>ra (λa=>[(2,pt (B0 a) 0),(4,pt (B1 a) 0),(5,i6 0)]) (λa=>[ob (B0 a) #[iN R,iN S,iN B,iN M,iN C] 23,ob (B1 a) #[i6 0,i6 0,i6 0,i6 0] 46]) λa=>rr (λ_=>[(1,.c [] [] (Qt i)),(3,.s 2)]) (λb=>[(6,pt (B2 b) 0)]) [] (λb L=>L++[ob (B2 b) #[i6 (i/1048576),i6 (i/65536%16),i6 (i/64%1024),i6 (i%64)] 46]) λb=>r0 [(3,.l 0),(4,.l 2),(5,.c [] [] (sX R S B M C e (i/1048576) (i/65536%16) (i/64%1024) (i%64)))] [(16,.bool ((decide (i<0))||(!(hold R S B M C (i/1048576) (i/65536%16) (i/64%1024) (i%64)))))] [] ?_;refine cB ((decide (i<0))||(!(hold R S B M C (i/1048576) (i/65536%16) (i/64%1024) (i%64)))) (λd=>?_) λd=>?_
 ·exact r0 [(1,.s 1)] [(5,i6 12)] [5] (ao (.tuple #[.agg #[i6 0,i6 0,i6 0,i6 0],i6 12]) ab.zero (by((try simp only[s0,s4,s5,s6,s7]);(repeat (first | rw[d] | rw[ALct])))<;>rfl) [] [] [1])
 exact rr (λ_=>[(0,.l 2),(1,.s 1)]) (λ_=>[(5,i6 0)]) [5] (λ_ L=>L.set 1 (ob (B1 a) #[i6 (i/1048576),i6 (i/65536%16),i6 (i/64%1024),i6 (i%64)] 46)) λg=>ao (.tuple #[.agg #[i6 (i/1048576),i6 (i/65536%16),i6 (i/64%1024),i6 (i%64)],i6 0]) ab.zero (by((try simp only[s0,s4,s5,s6,s7]);(repeat (first | rw[d] | rw[ALcf])))<;>rfl) [] [] [1]
theorem Qu(R S B M C:Nat)(d:cG R S B M C):aa Zm 224 #[.agg #[iN R,iN S,iN B,iN M,iN C]] [] [] N0 (λ_=>iN ((B*M)*C)):=by
 have b:=d.bd;have f:=b.bm;have g:=b.bmc;exact fG Tryz.func224 λw e=>ra (λa=>[(1,pt (B0 a) 0),(2,i6 0)]) (λa=>[ob (B0 a) #[iN R,iN S,iN B,iN M,iN C] 23]) λa=>rF [(0,.l 0),(1,.c [] [] (vP R S B M C d))] 5 (r0 [(1,.l 0),(3,.l 0),(4,ml B M),(6,.l 0),(7,ml (B*M) C)] [(2,iN ((B*M)*C))] [2] (lf ab.zero [] [] []))
theorem mL(R S B M C:Nat)(d:cG R S B M C):aa Zm 24 #[.agg #[iN R,iN S,iN B,iN M,iN C]] [] [] N0 (λ_=>iN ((R*B)*M)):=by
 have b:=d.bd;have f:=b.rb;have g:=b.rbm;exact fG Tryz.func24 λw e=>ra (λa=>[(1,pt (B0 a) 0),(2,i6 0)]) (λa=>[ob (B0 a) #[iN R,iN S,iN B,iN M,iN C] 23]) λa=>rF [(0,.l 0),(1,.c [] [] (vP R S B M C d))] 5 (r0 [(1,.l 0),(3,.l 0),(4,ml R B),(6,.l 0),(7,ml (R*B) M)] [(2,iN ((R*B)*M))] [2] (lf ab.zero [] [] []))
end
section
open Go Go.RowKit Go.Shelf
def lC(v:Wr):Nat→aj→aj
 | _,[]=>[]
 | k,x::xs=>((cI v k).getD x)::lC v (k+1) xs
theorem s8(v:Wr): ∀(k:Nat) (L:aj),(lC v k L).length=L.length
 | _,[]=>rfl
 | k,x::xs=>by unfold lC;rw[Z4,Z4,s8 v (k+1) xs]
theorem zI(v:Wr): ∀(k:Nat) (L:aj) (p:Nat),(lC v k L)[p]? =L[p]?.map λx=>(cI v (k+p)).getD x
 | _,[],_=>by unfold lC;simp
 | k,x::xs,0=>by unfold lC;simp
 | k,x::xs,p+1=>by unfold lC;rw[Z0,Z0,zI v (k+1) xs p,show k+1+p=k+(p+1) by omega]
section
variable {P:Program} {f:FuncId} {args:Array Value} {rest:aj} {wt:ab→aj} {v:ab→Value} {S S':aj→Prop}
theorem Qv{L:aj}{w:World}{cs:List ay}(hs:bt L cs)(e:ez cs.flatten w):kV (bN cs.flatten) w L.length (λp=>L[p]?) (λi=>cs.getD i []) w:=by
 have d:=rO e.nd;have k:=jJ hs;have h: ∀i,∀z∈cs.getD i [],z∈cs.flatten:=λi z a=>by
  by_cases g:i<cs.length
  ·exact List.mem_flatten.2 ⟨_,nS g,a⟩
  ·rw[pV g] at a;simp at a
 exact⟨λp j x c=>m4 hs c,λp j c=>by rw[List.getElem?_eq_none_iff] at c;omega,λp j z a=>e.obj z (h p z a),λp _=>d.1 p,λp q _ _ b=>d.2 p q b,
  λp _ z a=> .inl (List.mem_map.2 ⟨z,h p z a,rfl⟩),rfl,rfl,rfl,ZH _,λ_ _ _=>rfl⟩
theorem aa.pkR(d:Enters P f)(h: ∀L,S L→aa P f args (L++rest) [] wt v):aa P f args ((pk S)::rest) [] wt v:=by
 refine⟨d,λw a j b=>?_⟩;obtain⟨k,a,rfl,⟨L,c,e,g,rfl⟩,i⟩:=eA j;have:=(h L e).out w (c++a) (kx g i) (by rw[ZX];rw[ZW] at b;exact b);simpa using this
theorem zJ(q:Nat)(x:aB)(r:Wr)(p:Nat):cI ((q,x)::r) p=if q=p then some x else cI r p:=rfl
theorem E9: ∀(a b:Wr) (p:Nat),cI (a++b) p=(cI a p).or (cI b p)
 | [],b,p=>by simp [cI]
 | (q,x)::a,b,p=>by
  rw[List.cons_append,zJ,zJ];by_cases e:q=p
  ·rw[ALifp e,ALifp e];rfl
  ·rw[ALifn e,ALifn e];exact E9 a b p
theorem Fb{qs:List Nat}{p:Nat}(h:p∉qs)(N:aj):cI (qs.zip N) p=none:=by
 cases e:cI (qs.zip N) p with
 | none=>rfl
 | some x=>exact absurd (List.of_mem_zip (rA e)).1 h
theorem Fc(m:Nat): ∀(N:aj) (k p:Nat),cI (((aaA k N.length).map λi=>m+i).zip N) (m+k+p)=N[p]?
 | [],k,p=>by simp [cI]
 | x::N,k,0=>by simp [aa0,cI]
 | x::N,k,p+1=>by
  rw[Z4,aa0,List.map_cons,List.zip_cons_cons,Z0,←Fc m N (k+1) p];rw[zJ,ALifn Om,show m+k+(p+1)=m+(k+1)+p by omega]
theorem aa.pkW{n:Nat}{N:ab→aj}(hE:Enters P f)(h: ∀L,S L→∃(O:List Nat) (wt:ab→aj),aa P f args (L++rest) O (λE=>wt E++N E) v∧(dp O&&O.all λi=>decide (i<L.length))=true∧∀E,(wt E).length=O.length∧(N E).length=n∧S' (lC (O.zip (wt E)) 0 L)):
  aa P f args ((pk S)::rest) [0] (λE=>(pk S')::N E) v:=by
 refine⟨hE,λw F hs C=>?_⟩;obtain⟨bs,F,rfl,⟨L,ds,hL,Q,rfl⟩,hr⟩:=eA hs;obtain⟨O,wt,hC,I,hW⟩:=h L hL;rw[Zv] at I;have X:=nR I.1;have q: ∀i∈O,i<L.length:=λi D=>by simpa using List.all_eq_true.1 I.2 i D
 have hlen:=jJ Q;rw[ZW] at C;refine(callsIn_wide (n:=6)).1 ((callsIn_wide.2 (hC.out w (ds++F) (kx Q hr) (by rw[ZX];exact C))).mono λe w' he=>?_);obtain⟨E,r,e1,y,hst⟩:=he;obtain⟨hWl,hNl,K⟩:=hW E;have T:=jJ y;rw[Zq] at T;have R:bt (L++(N E).map λ_=> .c []) (ds++(N E).map λ_=>[]):=kx Q (by
  generalize N E=M
  induction M with
  | nil=>trivial
  | cons x M ih=>exact⟨rfl,ih⟩)
 have o:(ds++(N E).map λ_=>([]:ay)).flatten=ds.flatten:=by
  rw[ZX];have:((N E).map λ_=>([]:ay)).flatten=[]:=by
   generalize N E=M
   induction M with
   | nil=>rfl
   | cons x M ih=>simp
  rw[this,ZU]
 have V:ez ds.flatten w:=⟨λx hx=>C.obj x (aaQ _ hx),(List.pairwise_append.1 C.nd).1⟩;obtain⟨c,hF,hc⟩: ∃c,kV (bN ds.flatten) w (L++(N E).map λ_=>aB.c []).length (λp=>(L++(N E).map λ_=>aB.c [])[p]?) c w∧∀p,c p=(ds++(N E).map λ_=>[]).getD p []:=
  ⟨λp=>(ds++(N E).map λ_=>[]).getD p [],by have:=Qv R (w:=w) (by rw[o];exact V);rwa [o] at this,λ_=>rfl⟩
 have t:(L++(N E).map λ_=>aB.c []).length=L.length+(N E).length:=by rw[Zq,Zs]
 obtain⟨qs,l⟩: ∃qs,qs=O++(aaA 0 (N E).length).map λi=>L.length+i:=⟨_,rfl⟩;have Y:qs.length=r.length:=by rw[l,Zq,Zs,List.length_range'];omega
 have Z:qs.Nodup:=by
  rw[l,List.nodup_append];refine⟨X,?_,λa ha b m e=>?_⟩
  ·refine List.Pairwise.map _ (λa b h e=>h Om) (List.nodup_range' (s:=0) (n:=(N E).length))
  ·obtain⟨i,_,rfl⟩:=List.mem_map.1 m;have:=q a ha;omega
 have u:=uu (qs:=qs) (ds:=r) Y Z;have hzl:qs.length=(wt E++N E).length:=by rw[Zq];omega
 have U:((qs.zip (wt E++N E)).flatMap λx=>lU qs r x.1)=r.flatten:=by rw[pU hzl,u]
 have H:=hF.step (d:=lU qs r) (v:=qs.zip (wt E++N E)) (uv u y) (by rw[U];exact hst) (λb m=>by
  obtain⟨i,D,m⟩:=List.mem_flatMap.1 m;have hil:=q i D;have hg:(ds++F).getD i []=c i:=by rw[hc,Zl,Zl,Zu Om,Zu Om]
  rw[hg] at m;obtain⟨z,hz,rfl⟩:=List.mem_map.1 m;refine⟨i,by omega,?_,z,hz,rfl⟩;obtain⟨j,hj,ej⟩:=aaU (show i∈qs from l▸aaQ _ D);refine⟨(wt E++N E)[j]'Om,?_⟩;rw[←ej];exact List.mem_iff_getElem.2 ⟨j,by rw[List.length_zip];omega,by rw[List.getElem_zip]⟩)
 have A:qs.zip (wt E++N E)=O.zip (wt E)++((aaA 0 (N E).length).map λi=>L.length+i).zip (N E):=by rw[l,List.zip_append Om]
 have J:aF (bN ds.flatten) w (lC (O.zip (wt E)) 0 L++N E) w':=by
  refine⟨oI c (qs.zip (wt E++N E)) (lU qs r),?_⟩;rw[Zq,s8,←t];refine H.congr λp hp=>?_;rw[t] at hp;unfold lQ;rw[A,E9];by_cases k:p<L.length
  ·rw[Zu (by rw[s8];exact k),zI,ZN,Fb (qs:=(aaA 0 (N E).length).map λi=>L.length+i) (λW=>by obtain⟨i,_,e⟩:=List.mem_map.1 W;omega)];have e2:(L++(N E).map λ_=>aB.c [])[p]? =L[p]? :=Zu k;simp only[e2,Zo k];cases cI (O.zip (wt E)) p<;>rfl
  ·rw[Zz (by rw[s8];omega),s8,Fb (λW=>k (q p W))];have:=Fc L.length (N E) 0 (p-L.length);rw[show L.length+0+(p-L.length)=p by omega] at this;rw[this,Zo Om];rfl
 obtain⟨cs2,h2,g⟩:=J.conc;obtain⟨B,G,rfl,h3,h4⟩:=nV h2;refine⟨E,B.flatten::G,e1,⟨⟨_,B,K,h3,rfl⟩,h4⟩,?_⟩;have ef:(B.flatten::G).flatten=(B++G).flatten:=by rw[ZW,ZX]
 rw[ef];refine⟨g.os,g.tape,g.output,g.size,g.obj,λx hx=>?_,g.nd,λb m X=>g.far b m (by simpa using X)⟩;have:=g.lo x hx;simpa using this
theorem aa.pkZ{a:Func}(hf:P.funcs[f]? =some a)(h: ∀L,S L→∃(O:List Nat) (wt:ab→aj),aa P f args (L++rest) O (λE=>wt E++[]) v∧(dp O&&O.all λi=>decide (i<L.length))=true∧∀E,(wt E).length=O.length∧([]:aj).length=0∧S' (lC (O.zip (wt E)) 0 L))(c:(a.name== "runtime.NumGoroutine")=false:=by kernel_rfl)(b:a.body.isSome=true:=by kernel_rfl):aa P f args (.p (sa S)::rest) [0] (λE=> .p (sa S')::[]) v:=aa.pkW (n:=0) (N:=λ_=>[]) (fN hf c b) h
theorem Qw: ∀cs:List ay,(Zn cs.length).flatMap (λi=>bN (cs.getD i []))=bN cs.flatten:=by
 intro cs;have h:(Zn cs.length).map (λi=>cs.getD i [])=cs:=by
  apply aav (by simp);intro i b a;rw[List.getElem_map,List.getElem_range,Zl,Zo a];rfl
 have a:(Zn cs.length).flatMap (λi=>bN (cs.getD i []))=(((Zn cs.length).map λi=>cs.getD i []).map bN).flatten:=by rw[List.flatMap_def,List.map_map];rfl
 rw[a,h];unfold bN;rw[List.map_flatten]
theorem aa.unpk{a c:aj}{N:ab→aj}(h:aa P f args [pk λL=>L=a] [0] (λE=>(pk λL=>L=c)::N E) v):aa P f args a (Zn a.length) (λE=>c++N E) v:=by
 refine⟨h.ent,λw g j r=>?_⟩;refine(callsIn_wide (n:=6)).1 ((callsIn_wide.2 (h.out w [g.flatten] ⟨⟨a,g,rfl,j,rfl⟩,trivial⟩ (by simpa using r))).mono λe s q=>?_);obtain⟨E,i,k,l,m⟩:=q;obtain⟨d,i,rfl,⟨L,b,rfl,o,rfl⟩,p⟩:=eA l;refine⟨E,b++i,k,kx o p,?_⟩;rw[jJ j,Qw,ZX];simpa using m
theorem aa.outs{rd:aj}{O:List Nat}{b:ab→aj}(h:aa P f args rd O wt v)(p: ∀E ds,bt (wt E) ds→∃a,bt (b E) a∧a.flatten=ds.flatten):aa P f args rd O b v:=
 ⟨h.ent,λw c o m=>(callsIn_wide (n:=6)).1 ((callsIn_wide.2 (h.out w c o m)).mono λe q l=>by
  obtain⟨E,ds,d,g,i⟩:=l;obtain⟨a,j,k⟩:=p E ds g;exact⟨E,a,d,j,by rw[k];exact i⟩)⟩
theorem s9{S:aj→Prop}{L:aj}{ds:List ay}(b:S L)(h:bt L ds): ∃a,bt [pk S] a∧a.flatten=ds.flatten:=⟨[ds.flatten],⟨⟨L,ds,b,h,rfl⟩,trivial⟩,by simp⟩
theorem aa.inW{x y:aB}{T T':aj→Prop}(h:aa P f args [x] [0] (λ_=>[y]) v)(m: ∀L,T L→∃j:Nat,L[j]? =some x∧T' (L.set j y)):aa P f args [pk T] [0] (λ_=>[pk T']) v:=by
 refine aa.pkW (n:=0) (N:=λ_=>[]) h.ent λL l=>?_;obtain⟨j,g,b⟩:=m L l;have a:=(List.getElem?_eq_some_iff.1 g).1;refine⟨[j],λ_=>[y],⟨h.ent,λw k c d=>?_⟩,by simp [dp,a],λE=>⟨rfl,rfl,?_⟩⟩
 ·rw[ZU] at c;have o:=jJ c;have:=h.out w [k.getD j []] ⟨m4 c g,trivial⟩ ⟨λy i=>d.obj y (by
   rw[ZW,aa1,ZU] at i;exact List.mem_flatten.2 ⟨_,nS Om,i⟩),by
   rw[ZW,aa1,ZU];exact(rO d.nd).1 j⟩
  simpa using this
 ·have e:lC ([j].zip [y]) 0 L=L.set j y:=by
   apply aad;intro p;rw[zI,ZN,ZP];by_cases e:j=p
   ·subst e;simp [cI,a]
   ·rw[ALifn e];cases L[p]?<;>simp [cI,e]
  show T' (lC ([j].zip [y]) 0 L);rw[e];exact b
end
end
section
open Go Go.RowKit Go.Shelf
def ta(x:Nat):List Value:=[iN x]
def cu:Kd Zm Nat:=⟨ta,[i6 0],74,3,0,1,λ_=>rfl,rfl,λ_=>rfl,ec.mk' Kr Kr rfl⟩
abbrev bQ(v:Value)(xs:List Nat):aB:= .p (ar ta ([i6 0]) 3 v xs)
def Ff(x:Bool):List Value:=[.bool x]
def kL:Kd Zm Bool:=⟨Ff,[.bool false],135,4,false,1,λ_=>rfl,rfl,λ_=>rfl,ec.mk' Kr Kr rfl⟩
abbrev fa(v:Value)(xs:List Bool):aB:= .p (ar Ff ([.bool false]) 4 v xs)
def jq(n:Nat)(bs:List Nat)(k:Nat):Nat:=(bs.take k).foldl (· / ·) n
def aE(n:Nat)(bs:List Nat)(k:Nat):List Nat:=(Zn k).map λi=>jq n bs i%bs.getD i 0
theorem Qx{n:Nat}{bs:List Nat}{k:Nat}(h:k<bs.length):jq n bs (k+1)=jq n bs k/bs.getD k 0:=by
 unfold jq;rw[aac,Zo h,Zl,Zo h,aat];rfl
theorem Qy(n:Nat)(bs:List Nat): ∀k,jq n bs k≤n:=by
 intro k;unfold jq;generalize bs.take k=l
 induction l generalizing n with
 | nil=>exact ZH _
 | cons b l ih=>exact ZM (ih (n/b)) (aa8 _ _)
theorem Qz{n:Nat}{bs:List Nat}{k:Nat}:aE n bs (k+1)=aE n bs k++[jq n bs k%bs.getD k 0]:=by
 unfold aE;rw[ZV,aak];rfl
theorem QA(n:Nat)(bs:List Nat)(k:Nat):(aE n bs k).length=k:=by unfold aE;rw[Zs,ZB]
def ei(d a:List Nat):Nat→Nat
 | 0=>0
 | k+1=>ei d a k*a.getD (a.length-1-k) 0+d.getD (a.length-1-k) 0
theorem Fg{e:BinOp}{f:Nat→Nat→Nat}(a b:Nat)(g:a<9223372036854775808)(i:b<9223372036854775808)(k:f a b<9223372036854775808)(h:bits e .i64 (a:Int) (b:Int)=IntKind.i64.wrap ((f (BitVec.ofInt 64 (a:Int)).toNat (BitVec.ofInt 64 (b:Int)).toNat:Nat):Int)):bits e .i64 (a:Int) (b:Int)=((f a b:Nat):Int):=by
 have d: ∀c:Nat,c<9223372036854775808→(BitVec.ofInt 64 (c:Int)).toNat=c:=by
  intro c j;rw[BitVec.ofInt_natCast,BitVec.toNat_ofNat];exact Z6 Om
 rw[h,d a g,d b i];exact IntWalk.i64_in _ Om
theorem QB(a b:Nat)(c:a<9223372036854775808)(d:b<9223372036854775808):bits .and .i64 (a:Int) (b:Int)=((a&&& b:Nat):Int):=
 Fg (f:=λa b=>a&&& b) a b c d (Z1 Nat.and_le_left c) (by show IntKind.i64.wrap ((BitVec.ofInt 64 (a:Int)&&& BitVec.ofInt 64 (b:Int)).toNat:Int)=_;rw[BitVec.toNat_and])
theorem QC(a b:Nat)(c:a<9223372036854775808)(d:b<9223372036854775808):bits .xor .i64 (a:Int) (b:Int)=((a^^^b:Nat):Int):=
 Fg (f:=λa b=>a^^^b) a b c d (ZJ (n:=63) Om Om) (by show IntKind.i64.wrap ((BitVec.ofInt 64 (a:Int)^^^BitVec.ofInt 64 (b:Int)).toNat:Int)=_;rw[BitVec.toNat_xor])
section
variable {P:Program} {T:TypeId} {x y:Operand} {w:World}
theorem Fh(a b:Nat)(c:a<9223372036854775808)(d:b<9223372036854775808):(av .and T x y (.int .i64 (a:Int)) (.int .i64 (b:Int))).run P w= .ok (.int .i64 ((a&&& b:Nat):Int)) w:=by rw[←QB a b c d];rfl
theorem Fi(a b:Nat)(c:a<9223372036854775808)(d:b<9223372036854775808):(av .xor T x y (.int .i64 (a:Int)) (.int .i64 (b:Int))).run P w= .ok (.int .i64 ((a^^^b:Nat):Int)) w:=by rw[←QC a b c d];rfl
end
theorem dM{P:Program}{m:Sem Value}{w:World}{a b:Int}{k:IntKind}(h:m.run P w= .ok (.int k a) w)(e:a=b):m.run P w= .ok (.int k b) w:=e▸h
def bI(p0 p1 p2 p3:Nat):Nat:=p0*1048576+p1*65536+p2*64+p3
structure gR (R S B M C p0 p1 p2 p3:Nat):Prop where
 h0:p0<R+S
 h1:p1<B
 h2:p2<M
 h3:p3<C
section
variable {R S B M C p0 p1 p2 p3:Nat}
theorem gR.hold(h:gR R S B M C p0 p1 p2 p3):hold R S B M C p0 p1 p2 p3=true:=by
 have:=h.h0;have:=h.h1;have:=h.h2;have:=h.h3;exact vM.2 Om
theorem zL(a:hP R S B M C)(h:gR R S B M C p0 p1 p2 p3):bI p0 p1 p2 p3<8388608:=by
 have:=a.r8;have:=a.b16;have:=a.m10;have:=a.c64;have:=h.h0;have:=h.h1;have:=h.h2;have:=h.h3;unfold bI;omega
theorem vQ:dR (p0:Int) p1 p2 p3=(bI p0 p1 p2 p3:Int):=by unfold dR bI;omega
theorem zM(a:hP R S B M C)(h:gR R S B M C p0 p1 p2 p3):bI p0 p1 p2 p3/1048576=p0∧bI p0 p1 p2 p3/65536%16=p1∧bI p0 p1 p2 p3/64%1024=p2∧bI p0 p1 p2 p3%64=p3:=by
 have:=a.r8;have:=a.b16;have:=a.m10;have:=a.c64;have:=h.h0;have:=h.h1;have:=h.h2;have:=h.h3;unfold bI;omega
theorem td(a:cG R S B M C)(h:gR R S B M C p0 p1 p2 p3):aa Zm 147 #[.agg #[iN R,iN S,iN B,iN M,iN C],.agg #[iN p0,iN p1,iN p2,iN p3]] [] [] N0 (λ_=> .tuple #[i6 (bI p0 p1 p2 p3:Int),i6 0]):=by
 have:=E7 R S B M C a p0 p1 p2 p3;unfold sY sZ at this;rwa [h.hold,vQ] at this
theorem te(a:cG R S B M C)(h:gR R S B M C p0 p1 p2 p3):aa Zm 68 #[.agg #[iN R,iN S,iN B,iN M,iN C],i6 (bI p0 p1 p2 p3:Int)] [] [] N0 (λ_=> .tuple #[.agg #[iN p0,iN p1,iN p2,iN p3],i6 0]):=by
 have:=E8 R S B M C a (bI p0 p1 p2 p3:Nat);have e:=zM a.bd h;have b:((bI p0 p1 p2 p3:Nat):Int)/1048576=(p0:Int):=by omega
 have c:((bI p0 p1 p2 p3:Nat):Int)/65536%16=(p1:Int):=by omega
 have d:((bI p0 p1 p2 p3:Nat):Int)/64%1024=(p2:Int):=by omega
 have f:((bI p0 p1 p2 p3:Nat):Int)%64=(p3:Int):=by omega
 unfold s0 s4 s5 s6 s7 at this;rw[b,c,d,f,h.hold,bl Om] at this;exact this
end
theorem qu{B r b:Nat}(h:B∈[1,2,4,8,16,32,64,128,256,512,1024])(d:b<B):b^^^(r&&& (B-1))<B:=by
 have c:r&&& (B-1)<B:=Z1 aax Om;have a: ∀k,B=2^k→b^^^(r&&& (B-1))<B:=λk e=>by rw[e] at d c⊢;exact ZJ d c
 simp only[List.mem_cons,aag,or_false] at h;rcases h with h | h | h | h | h | h | h | h | h | h | h
 ·exact a 0 h
 ·exact a 1 h
 ·exact a 2 h
 ·exact a 3 h
 ·exact a 4 h
 ·exact a 5 h
 ·exact a 6 h
 ·exact a 7 h
 ·exact a 8 h
 ·exact a 9 h
 ·exact a 10 h
def fF(B r b:Nat):Nat:=b^^^(r&&& (B-1))
theorem QD(B r b:Nat):fF B r (fF B r b)=b:=by unfold fF;rw[ZE,ZR,ZL]
def mM(way R B M p:Nat):List Nat:=match way with
 | 0=>aE p [M,B,R] 3
 | 1=>aE p [B,M,R] 3
 | _=>aE p [R,B,M] 3
def aG(way R B M p:Nat):Nat:=match way with
 | 0=>(mM way R B M p).getD 2 0
 | 1=>(mM way R B M p).getD 2 0
 | _=>(mM way R B M p).getD 0 0
def dV(way R B M p:Nat):Nat:=match way with
 | 0=>(mM way R B M p).getD 0 0
 | 1=>(mM way R B M p).getD 1 0
 | _=>(mM way R B M p).getD 2 0
def dX(way R B M p:Nat):Nat:=match way with
 | 0=>(mM way R B M p).getD 1 0
 | 1=>(mM way R B M p).getD 0 0
 | 2=>(mM way R B M p).getD 1 0
 | _=>fF B (dV way R B M p) ((mM way R B M p).getD 1 0)
def mf(way R B M r b w:Nat):Nat:=match way with
 | 0=>ei [w,b,r] [M,B,R] 3
 | 1=>ei [b,w,r] [B,M,R] 3
 | 2=>ei [r,b,w] [R,B,M] 3
 | _=>ei [r,fF B w b,w] [R,B,M] 3
def hZ(way R B M p:Nat):Nat:=bI (aG way R B M p) (dX way R B M p) (dV way R B M p) 0/64
theorem Fj(x y z a b c:Nat):ei [x,y,z] [a,b,c] 3=((0*c+z)*b+y)*a+x:=rfl
theorem tf{x y z a b c:Nat}(g:x<a)(h:y<b)(f:z<c):ei [x,y,z] [a,b,c] 3<c*b*a:=by
 rw[Fj,aaP,ZN];have d:z*b+y<c*b:=by
  have:(z+1)*b≤c*b:=Zy b f;rw[aaE] at this;omega
 have e:(z*b+y+1)*a≤c*b*a:=Zy a d;rw[aaE] at e;omega
theorem vR{n a b c:Nat}(h:n<c*b*a)(i:0<a)(j:0<b):ei [n%a,n/a%b,n/a/b%c] [a,b,c] 3=n:=by
 have d:n/a<c*b:=ZQ (by rw[Zt a];exact h);have e:n/a/b<c:=ZQ (by rw[Zt b];exact d);rw[Fj,aaP,ZN,Z6 e];have f:=aaB (n/a) b;have g:=aaB n a;rw[Zt (n/a/b),f,Zt (n/a),g]
section
variable {R S B M C way p:Nat}
theorem po(e:cG R S B M C)(hp:p<R*B*M):gR R S B M C (aG way R B M p) (dX way R B M p) (dV way R B M p) 0:=by
 have b:=e.bd;have c:=b.r1;have a:=b.b1;have d:=b.m1;have g:=b.c1;have h:aG way R B M p<R:=by
  match way with
  | 0=>exact Zx _ c
  | 1=>exact Zx _ c
  | w+2=>exact Zx p c
 have f:dV way R B M p<M:=by
  match way with
  | 0=>exact Zx p d
  | 1=>exact Zx _ d
  | w+2=>exact Zx _ d
 refine⟨by omega,?_,f,by omega⟩
 match way with
 | 0=>exact Zx _ a
 | 1=>exact Zx _ a
 | 2=>exact Zx _ a
 | w+3=>exact qu e.pow (Zx (p/R) a)
theorem nw(b:cG R S B M C):aG way R B M p<R:=by
 have a:=b.bd.r1
 match way with
 | 0=>exact Zx _ a
 | 1=>exact Zx _ a
 | w+2=>exact Zx p a
theorem zN(g:cG R S B M C)(hp:p<R*B*M):mf way R B M (aG way R B M p) (dX way R B M p) (dV way R B M p)=p:=by
 have b:=g.bd;have d:=b.r1;have a:=b.b1;have e:=b.m1;have c:R*B*M=M*B*R:=by rw[Zt (R*B),Zt R,←Zw]
 have f:R*B*M=R*M*B:=by rw[Zw,Zt B,Zw]
 match way with
 | 0=>exact vR hp e a
 | 1=>exact vR (f▸hp) a e
 | 2=>exact vR (c▸hp) d a
 | w+3=>
  show ei [p%R,fF B (p/R/B%M) (fF B (p/R/B%M) (p/R%B)),p/R/B%M] [R,B,M] 3=p;rw[QD];exact vR (c▸hp) d a
theorem QE(a:cG R S B M C)(hp:p<R*B*M):hZ way R B M p<131072:=by
 have:=zL a.bd (po (way:=way) a hp);unfold hZ;omega
theorem QF(d a:List Nat): ∀j k,j≤k→k≤3→a.length=3→(∀i,i<3→1≤a.getD i 0)→ei d a j≤ei d a k:=by
 intro j k b
 induction b with
 | refl=>intros;exact ZH _
 | @step k h ih=>
  intro f e c;refine ZM (ih Om e c) ?_;show ei d a k≤ei d a k*a.getD (a.length-1-k) 0+_;have:=aah (ei d a k) (c (a.length-1-k) Om);omega
theorem vT{x y z a b c:Nat}(d:x<a)(e:y<b)(f:z<c)(l:c*b*a≤1000000)(k:Nat)(g:k≤[a,b,c].length):ei [x,y,z] [a,b,c] k≤1000000:=by
 have h:=tf d e f;refine ZM (QF _ _ k 3 g (ZH _) rfl λi j=>?_) Om
 match i with
 | 0=>exact Z1 (ZY _) d
 | 1=>exact Z1 (ZY _) e
 | 2=>exact Z1 (ZY _) f
theorem zO:hZ way R B M p=aG way R B M p*16384+dX way R B M p*1024+dV way R B M p:=by unfold hZ bI;omega
end
end
section
open Go Go.RowKit Go.Shelf
theorem zP(r s b m c way:Int):aa Zm 134 #[.agg #[i6 r,i6 s,i6 b,i6 m,i6 c],i6 way] [] [] N0 (λ_=> .bool (((jo r s b m c)&&(decide (0≤way)))&&(decide (way<4)))):=by
 exact fG Tryz.func134 λw d=>ra (λa=>[(2,pt (B0 a) 0),(4,.bool false)]) (λa=>[ob (B0 a) #[i6 r,i6 s,i6 b,i6 m,i6 c] 23]) λa=>r0 [(0,.l 0),(1,.c [] [] (E5 r s b m c))] [(4,.bool (((jo r s b m c)&&(decide (0≤way)))&&(decide (way<4))))] [4] (ao (.bool (((jo r s b m c)&&(decide (0≤way)))&&(decide (way<4)))) ab.zero bc [] [] [])
theorem ny(R S B M C:Nat)(a:cG R S B M C)(way:Nat)(b:way<4):aa Zm 134 #[.agg #[iN R,iN S,iN B,iN M,iN C],iN way] [] [] N0 (λ_=> .bool true):=by
 have h:=zP R S B M C way;rwa [a.ok,cC Om,cC Om] at h
theorem vU(v:Value)(n:Nat)(c:List Nat)(z:n≤1000000)(y:c.length≤1000)(o: ∀k,k<c.length→1≤c.getD k 0∧c.getD k 0≤1000000):aa Zm 146 #[iN n,v] [.p (aK ta v c)] [] (λE=>[bQ (E.val 0) (aE n c c.length)]) (λE=>(E.val 0)):=by
 refine fO Tryz.func146 0 rfl λi f=>fG Tryz.func146 λw u=>r0 [] [(4,.slice none 0 0)] [] (r0 [] [(5,.slice none 0 0)] [] (r0 [(1,eP f.1 0)] [(8,v),(9,iN c.length),(10,i6 0)] [] (cz cu ?_)));refine na (λk _=>k≤c.length) (λk e=>[(0,iN (jq n c k)),(10,iN k),(5,e)]) (λk e L=>L.set 1 (bQ e (aE n c k))) (λk _=>c.length-k) 0 (.slice none 0 0) Om Kr Kr (λk e s=>?_);have x:=Qy n c k;have r:=QA n c k;refine r0 [] [(11,.bool (decide ((k:Int)<(c.length:Int))))] [] ?_;refine cj (k:Int) (c.length:Int) (λj h=>?_) λj h=>?_
 ·refine r0 [(0,fv f.1 0 k 1),(1,ji cu f.1 0 k 0)] [(7,iN (c.getD k 0))] [] ?_;have q:=o k Om;exact rr (λ_=>[(3,.t (tb (a:=iN (jq n c k)) (b:=iN (c.getD k 0)) λ_ _ _ _=>nZ (a:=jq n c k) (d:=(c.getD k 0)) Om)),(4,.m (bs 2 1)),(5,fC cu (e) (aE n c k) 1 2 ([(jq n c k)%(c.getD k 0)]))]) (λg=>[(5,(g 5).val 0)]) [5] (λg L=>L.set 1 (bQ ((g 5).val 0) ((aE n c k)++([(jq n c k)%(c.getD k 0)])))++[ob (B4 g) #[iN ((jq n c k)%(c.getD k 0))] 3]) λg=>r0 [(2,.t (tb (a:=iN (jq n c k)) (b:=iN (c.getD k 0)) λ_ _ _ _=>oR (a:=jq n c k) (d:=(c.getD k 0)) Om Om))] [(0,iN ((jq n c k)/(c.getD k 0)))] [0] (r0 [(0,ad k 1)] [(10,iN (k+1))] [10] (l8 (k+1) ((g 5).val 0) Om Om (by rw[Qx Om];kernel_rfl) [0,1] (by rw[Qz];kernel_rfl)))
 obtain rfl:c.length=k:=by omega
 refine l9 ?_;exact r0 [] [(4,e)] [4] (lf (.l [] [] [e]) [1] [(0,0)] [])
theorem vV(v u:Value)(d a:List Nat)(q:a.length≤1000)(o:d.length=a.length)(j: ∀k,k≤a.length→ei d a k≤1000000):aa Zm 145 #[v,u] [.p (aK ta v d),.p (aK ta u a)] [] N0 (λ_=>iN (ei d a a.length)):=by
 refine fO Tryz.func145 0 rfl λg c=>fO Tryz.func145 1 rfl λh b=>fG Tryz.func145 λw n=>r0 [] [(4,i6 0)] [] (r0 [] [(5,i6 0)] [] (r0 [(1,eP b.1 1),(2,sI (a.length:Int) (1) Om)] [(6,i6 ((a.length:Int)-1))] [] ?_));refine lq (λk=>k≤a.length) (λk=>[(5,iN (ei d a k)),(6,i6 (((a.length:Nat):Int)-1-((k:Nat):Int)))]) (λ_ L=>L) (λk=>a.length-k) 0 Om (by rw[show((a.length:Nat):Int)-1-((0:Nat):Int)=(a.length:Int)-1 by omega];kernel_rfl) Kr (λk m=>?_);refine r0 [] [(11,.bool (decide (0≤(((a.length:Nat):Int)-1-((k:Nat):Int)))))] [] ?_;refine oV 0 (((a.length:Nat):Int)-1-((k:Nat):Int)) (λi e=>?_) λi e=>?_
 ·have l:=j (k+1) Om;have f:ei d a (k+1)=ei d a k*a.getD (a.length-1-k) 0+d.getD (a.length-1-k) 0:=rfl;exact r0 [(2,.t (tk (show i6 (((a.length:Nat):Int)-1-((k:Nat):Int))=iN (a.length-1-k) from ALca (Value.int .i64) Om))),(3,fv b.1 1 (a.length-1-k) 1),(4,ji cu b.1 1 (a.length-1-k) 0),(5,ml (ei d a k) (a.getD (a.length-1-k) 0)),(7,.t (tk (show i6 (((a.length:Nat):Int)-1-((k:Nat):Int))=iN (a.length-1-k) from ALca (Value.int .i64) Om))),(8,fv c.1 0 (a.length-1-k) 1),(9,ji cu c.1 0 (a.length-1-k) 0),(10,ad ((ei d a k)*(a.getD (a.length-1-k) 0)) (d.getD (a.length-1-k) 0))] [(5,iN (((ei d a k)*(a.getD (a.length-1-k) 0))+(d.getD (a.length-1-k) 0)))] [5] (r0 [(1,sI (((a.length:Nat):Int)-1-((k:Nat):Int)) (1) Om)] [(6,i6 ((((a.length:Nat):Int)-1-((k:Nat):Int))-1))] [6] (le (k+1) Om Om (by rw[show(((a.length:Nat):Int)-1-((k+1:Nat):Int))=((a.length:Nat):Int)-1-((k:Nat):Int)-1 by omega];kernel_rfl) [0,1] Kr))
 obtain rfl:k=a.length:=by omega
 exact lx (r0 [] [(4,iN (ei d a a.length))] [4] (lf ab.zero [] [(0,0),(1,1)] []))
end
section
open Go Go.RowKit Go.Shelf
theorem QG(R S B M C:Nat)(f:cG R S B M C)(p:Nat)(hp:p<R*B*M):aa Zm 122 #[.agg #[iN R,iN S,iN B,iN M,iN C],i6 0,iN p] [] [] N0 (λ_=> .tuple #[iN (hZ 0 R B M p),i6 0]):=by
 have e:=f.bd;have A:=e.rbm;have D:=e.r8;have n:=e.b16;have o:=e.b1;have v:=e.m10;have x:=e.m1;have y:=e.r1;have q:=e.c1;have r:(aE p [M,B,R] [M,B,R].length).length=3:=rfl;refine fG Tryz.func122 λw z=>ra (λi=>[(3,pt (B0 i) 0),(6,i6 0),(7,i6 0)]) (λi=>[ob (B0 i) #[iN R,iN S,iN B,iN M,iN C] 23]) λi=>r0 [(0,.m (ls 0 ([iN R,iN S,iN B,iN M,iN C]))),(2,.c [] [] (ny R S B M C f 0 Om)),(10,.m (ls 0 ([iN R,iN S,iN B,iN M,iN C]))),(11,.c [] [] (mL R S B M C f))] [(27,.bool ((decide ((p:Int)<0))||(decide ((((R*B)*M:Nat):Int)≤(p:Int)))))] [] ?_;have j:((decide ((p:Int)<0))||(decide ((((R*B)*M:Nat):Int)≤(p:Int))))=false:=(by rw[ZC];exact⟨bl Om,bl Om⟩);exact cF ((decide ((p:Int)<0))||(decide ((((R*B)*M:Nat):Int)≤(p:Int)))) j (ra (λg=>[(8,pt (B0 g) 0)]) (λg=>[ob (B0 g) #[i6 0,i6 0,i6 0,i6 0] 46]) λg=>r0 [] [(28,i6 0)] [] (rT [] 50 (rr (λd=>[(2,.l 0),(4,.l 0),(6,.l 0),(7,g5 cu 2 3 [M,B,R]),(8,.c [2] [3] (aa.at (rd':=[bQ (.slice (some ⟨(d 7).y 0,0,none⟩) 3 3) ([M,B,R])]) (vU (.slice (some ⟨(d 7).y 0,0,none⟩) 3 3) p ([M,B,R]) Om (by simp) (λk u=>by rcases k with _ | _ | _ | k<;>first | exact⟨by first | assumption,by simp;omega⟩ | (simp at u;omega))) (bO (λ_ h=>ar.sq h) (λ_ h=>h))))]) (λd=>[(9,((d 8).val 0))]) [] (λd L=>L++[bQ (.slice (some ⟨(d 7).y 0,0,none⟩) 3 3) ([M,B,R]),bQ ((d 8).val 0) (aE p ([M,B,R]) ([M,B,R]).length)]) λd=>rs [(1,cO cu ((d 8).val 0) (aE p ([M,B,R]) ([M,B,R]).length) 3 0),(2,e7 cu ((d 8).val 0) (aE p ([M,B,R]) ([M,B,R]).length) 3 0 0),(4,cO cu ((d 8).val 0) (aE p ([M,B,R]) ([M,B,R]).length) 3 1),(5,e7 cu ((d 8).val 0) (aE p ([M,B,R]) ([M,B,R]).length) 3 1 0),(7,cO cu ((d 8).val 0) (aE p ([M,B,R]) ([M,B,R]).length) 3 2),(8,e7 cu ((d 8).val 0) (aE p ([M,B,R]) ([M,B,R]).length) 3 2 0),(10,.s 1),(12,.s 1),(14,.s 1)] 1 (ob (B0 g) #[iN ((aE p ([M,B,R]) ([M,B,R]).length).getD 2 0),iN ((aE p ([M,B,R]) ([M,B,R]).length).getD 1 0),iN ((aE p ([M,B,R]) ([M,B,R]).length).getD 0 0),i6 0] 46) (rF [] 97 (r0 [(0,.l 0),(1,.l 1),(2,.c [] [] (td f (po (way:=0) f hp)))] [(12,iN (bI ((aE p ([M,B,R]) ([M,B,R]).length).getD 2 0) ((aE p ([M,B,R]) ([M,B,R]).length).getD 1 0) ((aE p ([M,B,R]) ([M,B,R]).length).getD 0 0) 0)),(13,i6 0)] [] (r0 [(1,.t (tb (a:=iN (bI ((aE p ([M,B,R]) ([M,B,R]).length).getD 2 0) ((aE p ([M,B,R]) ([M,B,R]).length).getD 1 0) ((aE p ([M,B,R]) ([M,B,R]).length).getD 0 0) 0)) (b:=u6 6) λ_ _ _ _=>iO 6 Dc))] [(6,i6 (((bI ((aE p ([M,B,R]) ([M,B,R]).length).getD 2 0) ((aE p ([M,B,R]) ([M,B,R]).length).getD 1 0) ((aE p ([M,B,R]) ([M,B,R]).length).getD 0 0) 0:Nat):Int)/64)),(7,i6 0)] [6,7] (ao (.tuple #[i6 (((bI ((aE p ([M,B,R]) ([M,B,R]).length).getD 2 0) ((aE p ([M,B,R]) ([M,B,R]).length).getD 1 0) ((aE p ([M,B,R]) ([M,B,R]).length).getD 0 0) 0:Nat):Int)/64),i6 0]) ab.zero bc [] [] [])))))))
theorem QH(R S B M C:Nat)(f:cG R S B M C)(p:Nat)(hp:p<R*B*M):aa Zm 122 #[.agg #[iN R,iN S,iN B,iN M,iN C],i6 1,iN p] [] [] N0 (λ_=> .tuple #[iN (hZ 1 R B M p),i6 0]):=by
 have e:=f.bd;have A:=e.rbm;have D:=e.r8;have n:=e.b16;have o:=e.b1;have v:=e.m10;have x:=e.m1;have y:=e.r1;have q:=e.c1;have r:(aE p [B,M,R] [B,M,R].length).length=3:=rfl;refine fG Tryz.func122 λw z=>ra (λi=>[(3,pt (B0 i) 0),(6,i6 0),(7,i6 0)]) (λi=>[ob (B0 i) #[iN R,iN S,iN B,iN M,iN C] 23]) λi=>r0 [(0,.m (ls 0 ([iN R,iN S,iN B,iN M,iN C]))),(2,.c [] [] (ny R S B M C f 1 Om)),(10,.m (ls 0 ([iN R,iN S,iN B,iN M,iN C]))),(11,.c [] [] (mL R S B M C f))] [(27,.bool ((decide ((p:Int)<0))||(decide ((((R*B)*M:Nat):Int)≤(p:Int)))))] [] ?_;have j:((decide ((p:Int)<0))||(decide ((((R*B)*M:Nat):Int)≤(p:Int))))=false:=(by rw[ZC];exact⟨bl Om,bl Om⟩);exact cF ((decide ((p:Int)<0))||(decide ((((R*B)*M:Nat):Int)≤(p:Int)))) j (ra (λg=>[(8,pt (B0 g) 0)]) (λg=>[ob (B0 g) #[i6 0,i6 0,i6 0,i6 0] 46]) λg=>r0 [] [(28,i6 1)] [] (rF [] 50 (rT [] 73 (rr (λd=>[(2,.l 0),(4,.l 0),(6,.l 0),(7,g5 cu 2 3 [B,M,R]),(8,.c [2] [3] (aa.at (rd':=[bQ (.slice (some ⟨(d 7).y 0,0,none⟩) 3 3) ([B,M,R])]) (vU (.slice (some ⟨(d 7).y 0,0,none⟩) 3 3) p ([B,M,R]) Om (by simp) (λk u=>by rcases k with _ | _ | _ | k<;>first | exact⟨by first | assumption,by simp;omega⟩ | (simp at u;omega))) (bO (λ_ h=>ar.sq h) (λ_ h=>h))))]) (λd=>[(10,((d 8).val 0))]) [] (λd L=>L++[bQ (.slice (some ⟨(d 7).y 0,0,none⟩) 3 3) ([B,M,R]),bQ ((d 8).val 0) (aE p ([B,M,R]) ([B,M,R]).length)]) λd=>rs [(1,cO cu ((d 8).val 0) (aE p ([B,M,R]) ([B,M,R]).length) 3 0),(2,e7 cu ((d 8).val 0) (aE p ([B,M,R]) ([B,M,R]).length) 3 0 0),(4,cO cu ((d 8).val 0) (aE p ([B,M,R]) ([B,M,R]).length) 3 1),(5,e7 cu ((d 8).val 0) (aE p ([B,M,R]) ([B,M,R]).length) 3 1 0),(7,cO cu ((d 8).val 0) (aE p ([B,M,R]) ([B,M,R]).length) 3 2),(8,e7 cu ((d 8).val 0) (aE p ([B,M,R]) ([B,M,R]).length) 3 2 0),(10,.s 1),(12,.s 1),(14,.s 1)] 1 (ob (B0 g) #[iN ((aE p ([B,M,R]) ([B,M,R]).length).getD 2 0),iN ((aE p ([B,M,R]) ([B,M,R]).length).getD 0 0),iN ((aE p ([B,M,R]) ([B,M,R]).length).getD 1 0),i6 0] 46) (rF [] 97 (r0 [(0,.l 0),(1,.l 1),(2,.c [] [] (td f (po (way:=1) f hp)))] [(12,iN (bI ((aE p ([B,M,R]) ([B,M,R]).length).getD 2 0) ((aE p ([B,M,R]) ([B,M,R]).length).getD 0 0) ((aE p ([B,M,R]) ([B,M,R]).length).getD 1 0) 0)),(13,i6 0)] [] (r0 [(1,.t (tb (a:=iN (bI ((aE p ([B,M,R]) ([B,M,R]).length).getD 2 0) ((aE p ([B,M,R]) ([B,M,R]).length).getD 0 0) ((aE p ([B,M,R]) ([B,M,R]).length).getD 1 0) 0)) (b:=u6 6) λ_ _ _ _=>iO 6 Dc))] [(6,i6 (((bI ((aE p ([B,M,R]) ([B,M,R]).length).getD 2 0) ((aE p ([B,M,R]) ([B,M,R]).length).getD 0 0) ((aE p ([B,M,R]) ([B,M,R]).length).getD 1 0) 0:Nat):Int)/64)),(7,i6 0)] [6,7] (ao (.tuple #[i6 (((bI ((aE p ([B,M,R]) ([B,M,R]).length).getD 2 0) ((aE p ([B,M,R]) ([B,M,R]).length).getD 0 0) ((aE p ([B,M,R]) ([B,M,R]).length).getD 1 0) 0:Nat):Int)/64),i6 0]) ab.zero bc [] [] []))))))))
theorem QI(R S B M C:Nat)(f:cG R S B M C)(p:Nat)(hp:p<R*B*M):aa Zm 122 #[.agg #[iN R,iN S,iN B,iN M,iN C],i6 2,iN p] [] [] N0 (λ_=> .tuple #[iN (hZ 2 R B M p),i6 0]):=by
 have e:=f.bd;have A:=e.rbm;have D:=e.r8;have n:=e.b16;have o:=e.b1;have v:=e.m10;have x:=e.m1;have y:=e.r1;have q:=e.c1;have r:(aE p [R,B,M] [R,B,M].length).length=3:=rfl;refine fG Tryz.func122 λw z=>ra (λi=>[(3,pt (B0 i) 0),(6,i6 0),(7,i6 0)]) (λi=>[ob (B0 i) #[iN R,iN S,iN B,iN M,iN C] 23]) λi=>r0 [(0,.m (ls 0 ([iN R,iN S,iN B,iN M,iN C]))),(2,.c [] [] (ny R S B M C f 2 Om)),(10,.m (ls 0 ([iN R,iN S,iN B,iN M,iN C]))),(11,.c [] [] (mL R S B M C f))] [(27,.bool ((decide ((p:Int)<0))||(decide ((((R*B)*M:Nat):Int)≤(p:Int)))))] [] ?_;have j:((decide ((p:Int)<0))||(decide ((((R*B)*M:Nat):Int)≤(p:Int))))=false:=(by rw[ZC];exact⟨bl Om,bl Om⟩);exact cF ((decide ((p:Int)<0))||(decide ((((R*B)*M:Nat):Int)≤(p:Int)))) j (ra (λg=>[(8,pt (B0 g) 0)]) (λg=>[ob (B0 g) #[i6 0,i6 0,i6 0,i6 0] 46]) λg=>r0 [] [(28,i6 2)] [] (rF [] 50 (rF [] 73 (rr (λd=>[(2,.l 0),(4,.l 0),(6,.l 0),(7,g5 cu 2 3 [R,B,M]),(8,.c [2] [3] (aa.at (rd':=[bQ (.slice (some ⟨(d 7).y 0,0,none⟩) 3 3) ([R,B,M])]) (vU (.slice (some ⟨(d 7).y 0,0,none⟩) 3 3) p ([R,B,M]) Om (by simp) (λk u=>by rcases k with _ | _ | _ | k<;>first | exact⟨by first | assumption,by simp;omega⟩ | (simp at u;omega))) (bO (λ_ h=>ar.sq h) (λ_ h=>h))))]) (λd=>[(11,((d 8).val 0))]) [] (λd L=>L++[bQ (.slice (some ⟨(d 7).y 0,0,none⟩) 3 3) ([R,B,M]),bQ ((d 8).val 0) (aE p ([R,B,M]) ([R,B,M]).length)]) λd=>rs [(1,cO cu ((d 8).val 0) (aE p ([R,B,M]) ([R,B,M]).length) 3 0),(2,e7 cu ((d 8).val 0) (aE p ([R,B,M]) ([R,B,M]).length) 3 0 0),(4,cO cu ((d 8).val 0) (aE p ([R,B,M]) ([R,B,M]).length) 3 1),(5,e7 cu ((d 8).val 0) (aE p ([R,B,M]) ([R,B,M]).length) 3 1 0),(7,cO cu ((d 8).val 0) (aE p ([R,B,M]) ([R,B,M]).length) 3 2),(8,e7 cu ((d 8).val 0) (aE p ([R,B,M]) ([R,B,M]).length) 3 2 0),(10,.s 1),(12,.s 1),(14,.s 1)] 1 (ob (B0 g) #[iN ((aE p ([R,B,M]) ([R,B,M]).length).getD 0 0),iN ((aE p ([R,B,M]) ([R,B,M]).length).getD 1 0),iN ((aE p ([R,B,M]) ([R,B,M]).length).getD 2 0),i6 0] 46) (rF [] 97 (r0 [(0,.l 0),(1,.l 1),(2,.c [] [] (td f (po (way:=2) f hp)))] [(12,iN (bI ((aE p ([R,B,M]) ([R,B,M]).length).getD 0 0) ((aE p ([R,B,M]) ([R,B,M]).length).getD 1 0) ((aE p ([R,B,M]) ([R,B,M]).length).getD 2 0) 0)),(13,i6 0)] [] (r0 [(1,.t (tb (a:=iN (bI ((aE p ([R,B,M]) ([R,B,M]).length).getD 0 0) ((aE p ([R,B,M]) ([R,B,M]).length).getD 1 0) ((aE p ([R,B,M]) ([R,B,M]).length).getD 2 0) 0)) (b:=u6 6) λ_ _ _ _=>iO 6 Dc))] [(6,i6 (((bI ((aE p ([R,B,M]) ([R,B,M]).length).getD 0 0) ((aE p ([R,B,M]) ([R,B,M]).length).getD 1 0) ((aE p ([R,B,M]) ([R,B,M]).length).getD 2 0) 0:Nat):Int)/64)),(7,i6 0)] [6,7] (ao (.tuple #[i6 (((bI ((aE p ([R,B,M]) ([R,B,M]).length).getD 0 0) ((aE p ([R,B,M]) ([R,B,M]).length).getD 1 0) ((aE p ([R,B,M]) ([R,B,M]).length).getD 2 0) 0:Nat):Int)/64),i6 0]) ab.zero bc [] [] []))))))))
theorem QJ(R S B M C:Nat)(g:cG R S B M C)(p:Nat)(hp:p<R*B*M):aa Zm 122 #[.agg #[iN R,iN S,iN B,iN M,iN C],i6 3,iN p] [] [] N0 (λ_=> .tuple #[iN (hZ 3 R B M p),i6 0]):=by
 have e:=g.bd;have A:=e.rbm;have D:=e.r8;have q:=e.b16;have j:=e.b1;have x:=e.m10;have n:=e.m1;have y:=e.r1;have r:=e.c1;have u:(aE p [R,B,M] [R,B,M].length).length=3:=rfl;refine fG Tryz.func122 λw z=>ra (λi=>[(3,pt (B0 i) 0),(6,i6 0),(7,i6 0)]) (λi=>[ob (B0 i) #[iN R,iN S,iN B,iN M,iN C] 23]) λi=>r0 [(0,.m (ls 0 ([iN R,iN S,iN B,iN M,iN C]))),(2,.c [] [] (ny R S B M C g 3 Om)),(10,.m (ls 0 ([iN R,iN S,iN B,iN M,iN C]))),(11,.c [] [] (mL R S B M C g))] [(27,.bool ((decide ((p:Int)<0))||(decide ((((R*B)*M:Nat):Int)≤(p:Int)))))] [] ?_;have o:((decide ((p:Int)<0))||(decide ((((R*B)*M:Nat):Int)≤(p:Int))))=false:=(by rw[ZC];exact⟨bl Om,bl Om⟩);refine cF ((decide ((p:Int)<0))||(decide ((((R*B)*M:Nat):Int)≤(p:Int)))) o (ra (λf=>[(8,pt (B0 f) 0)]) (λf=>[ob (B0 f) #[i6 0,i6 0,i6 0,i6 0] 46]) λf=>r0 [] [(28,i6 3)] [] (rF [] 50 (rF [] 73 (rr (λd=>[(2,.l 0),(4,.l 0),(6,.l 0),(7,g5 cu 2 3 [R,B,M]),(8,.c [2] [3] (aa.at (rd':=[bQ (.slice (some ⟨(d 7).y 0,0,none⟩) 3 3) ([R,B,M])]) (vU (.slice (some ⟨(d 7).y 0,0,none⟩) 3 3) p ([R,B,M]) Om (by simp) (λk v=>by rcases k with _ | _ | _ | k<;>first | exact⟨by first | assumption,by simp;omega⟩ | (simp at v;omega))) (bO (λ_ h=>ar.sq h) (λ_ h=>h))))]) (λd=>[(11,((d 8).val 0))]) [] (λd L=>L++[bQ (.slice (some ⟨(d 7).y 0,0,none⟩) 3 3) ([R,B,M]),bQ ((d 8).val 0) (aE p ([R,B,M]) ([R,B,M]).length)]) λd=>rs [(1,cO cu ((d 8).val 0) (aE p ([R,B,M]) ([R,B,M]).length) 3 0),(2,e7 cu ((d 8).val 0) (aE p ([R,B,M]) ([R,B,M]).length) 3 0 0),(4,cO cu ((d 8).val 0) (aE p ([R,B,M]) ([R,B,M]).length) 3 1),(5,e7 cu ((d 8).val 0) (aE p ([R,B,M]) ([R,B,M]).length) 3 1 0),(7,cO cu ((d 8).val 0) (aE p ([R,B,M]) ([R,B,M]).length) 3 2),(8,e7 cu ((d 8).val 0) (aE p ([R,B,M]) ([R,B,M]).length) 3 2 0),(10,.s 1),(12,.s 1),(14,.s 1)] 1 (ob (B0 f) #[iN ((aE p ([R,B,M]) ([R,B,M]).length).getD 0 0),iN ((aE p ([R,B,M]) ([R,B,M]).length).getD 1 0),iN ((aE p ([R,B,M]) ([R,B,M]).length).getD 2 0),i6 0] 46) (rT [] 97 ?_)))));have i:(aE p [R,B,M] [R,B,M].length).getD 2 0<M:=Zx _ n;have F:(aE p [R,B,M] [R,B,M].length).getD 1 0<B:=Zx _ j;have G:(aE p [R,B,M] 3).getD 2 0&&& (B-1)≤B-1:=aax;exact rs [(1,.l 1),(3,.l 1),(5,.l 0),(6,.t (tb (a:=iN B) (b:=i6 1) λ_ _ _ _=>ma (a:=B) (b:=1) Om Om)),(7,.t (tv (av .and 3 (.tmp 101) (.tmp 104) (iN ((aE p ([R,B,M]) ([R,B,M]).length).getD 2 0)) (iN (B-1))) (λ_=>Fh _ (B-1) Om Om))),(8,.t (tv (av .xor 3 (.tmp 99) (.tmp 105) (iN ((aE p ([R,B,M]) ([R,B,M]).length).getD 1 0)) (iN (((aE p [R,B,M] 3).getD 2 0)&&& (B-1)))) (λ_=>Fi _ _ Om Om))),(10,.s 1)] 1 (ob (B0 f) #[iN ((aE p ([R,B,M]) ([R,B,M]).length).getD 0 0),iN (fF B ((aE p [R,B,M] 3).getD 2 0) ((aE p [R,B,M] 3).getD 1 0)),iN ((aE p ([R,B,M]) ([R,B,M]).length).getD 2 0),i6 0] 46) (r0 [(0,.l 0),(1,.l 1),(2,.c [] [] (td g (po (way:=3) g hp)))] [(12,iN (bI ((aE p ([R,B,M]) ([R,B,M]).length).getD 0 0) (fF B ((aE p [R,B,M] 3).getD 2 0) ((aE p [R,B,M] 3).getD 1 0)) ((aE p ([R,B,M]) ([R,B,M]).length).getD 2 0) 0)),(13,i6 0)] [] (r0 [(1,.t (tb (a:=iN (bI ((aE p ([R,B,M]) ([R,B,M]).length).getD 0 0) (fF B ((aE p [R,B,M] 3).getD 2 0) ((aE p [R,B,M] 3).getD 1 0)) ((aE p ([R,B,M]) ([R,B,M]).length).getD 2 0) 0)) (b:=u6 6) λ_ _ _ _=>iO 6 Dc))] [(6,i6 (((bI ((aE p ([R,B,M]) ([R,B,M]).length).getD 0 0) (fF B ((aE p [R,B,M] 3).getD 2 0) ((aE p [R,B,M] 3).getD 1 0)) ((aE p ([R,B,M]) ([R,B,M]).length).getD 2 0) 0:Nat):Int)/64)),(7,i6 0)] [6,7] (ao (.tuple #[i6 (((bI ((aE p ([R,B,M]) ([R,B,M]).length).getD 0 0) (fF B ((aE p [R,B,M] 3).getD 2 0) ((aE p [R,B,M] 3).getD 1 0)) ((aE p ([R,B,M]) ([R,B,M]).length).getD 2 0) 0:Nat):Int)/64),i6 0]) ab.zero bc [] [] [])))
theorem Fk(R S B M C:Nat)(a:cG R S B M C)(way:Nat)(b:way<4)(p:Nat)(hp:p<R*B*M):aa Zm 122 #[.agg #[iN R,iN S,iN B,iN M,iN C],iN way,iN p] [] [] N0 (λ_=> .tuple #[iN (hZ way R B M p),i6 0]):=by
 match way with
 | 0=>exact QG R S B M C a p hp
 | 1=>exact QH R S B M C a p hp
 | 2=>exact QI R S B M C a p hp
 | 3=>exact QJ R S B M C a p hp
 | w+4=>exact absurd b Om
theorem QK(R S B M C:Nat)(i:cG R S B M C)(a d e:Nat)(h0:a<R)(h1:d<B)(h2:e<M):aa Zm 121 #[.agg #[iN R,iN S,iN B,iN M,iN C],i6 0,iN (a*16384+d*1024+e)] [] [] N0 (λ_=> .tuple #[iN (mf 0 R B M a d e),i6 0]):=by
 have g:=i.bd;have D:=g.r8;have q:=g.b16;have u:=g.m10;have r:=g.c1;have x:=g.rbm;have z:M*B*R=R*B*M:=by rw[Zt (R*B),Zt R,←Zw]
 have A:R*M*B=R*B*M:=by rw[Zw,Zt M,←Zw]
 have v:fF B e d<B:=qu i.pow h1;have n:gR R S B M C a d e 0:=⟨by omega,h1,h2,by omega⟩;refine fG Tryz.func121 λw y=>ra (λj=>[(3,pt (B0 j) 0),(6,i6 0),(7,i6 0)]) (λj=>[ob (B0 j) #[iN R,iN S,iN B,iN M,iN C] 23]) λj=>r0 [(0,.m (ls 0 ([iN R,iN S,iN B,iN M,iN C]))),(2,.c [] [] (ny R S B M C i 0 Om)),] [(21,.bool ((decide (((a*16384+d*1024+e:Nat):Int)<0))||(decide (131072≤((a*16384+d*1024+e:Nat):Int)))))] [] ?_;have o:((decide (((a*16384+d*1024+e:Nat):Int)<0))||(decide (131072≤((a*16384+d*1024+e:Nat):Int))))=false:=(by rw[ZC];exact⟨bl Om,bl Om⟩);refine cF ((decide (((a*16384+d*1024+e:Nat):Int)<0))||(decide (131072≤((a*16384+d*1024+e:Nat):Int)))) o (rr (λ_=>[(0,.l 0),(2,.t (tv (av .shl 3 (.tmp 24) (.const (u6 6)) (iN (a*16384+d*1024+e)) (u6 6)) (λ_=>dM (b:=((bI a d e 0:Nat):Int)) (fU 6 Dc Om Om) (by unfold bI;omega)))),(3,.c [] [] (te i n)),(8,.s 1)]) (λk=>[(8,pt (B7 k) 0),(9,i6 0)]) [] (λk L=>L++[ob (B7 k) #[iN a,iN d,iN e,i6 0] 46]) λk=>r0 [(4,.l 1),(6,.l 0)] [(37,.bool (decide ((R:Int)≤(a:Int))))] [] ?_);have p:(decide ((R:Int)≤(a:Int)))=false:=bl Om;exact cF (decide ((R:Int)≤(a:Int))) p (rF [] 39 (r0 [] [(50,i6 0)] [] (rT [] 51 (rr (λf=>[(1,.m (ld 1 (iN e))),(3,.m (ld 1 (iN d))),(5,.m (ld 1 (iN a))),(6,g5 cu 2 3 [e,d,a]),(8,.m (ld 0 (iN M))),(10,.m (ld 0 (iN B))),(12,.m (ld 0 (iN R))),(13,g5 cu 3 3 [M,B,R]),(14,.c [2,3] [] (aa.at (rd':=[bQ (.slice (some ⟨(f 6).y 0,0,none⟩) 3 3) ([e,d,a]),bQ (.slice (some ⟨(f 13).y 0,0,none⟩) 3 3) ([M,B,R])]) (vV (.slice (some ⟨(f 6).y 0,0,none⟩) 3 3) (.slice (some ⟨(f 13).y 0,0,none⟩) 3 3) ([e,d,a]) ([M,B,R]) (by simp) rfl (vT h2 h1 h0 Om)) (bO (λ_ h=>ar.sq h) (bO (λ_ h=>ar.sq h) (λ_ h=>h))))),]) (λ_=>[(6,iN (ei ([e,d,a]) ([M,B,R]) ([M,B,R]).length)),(7,i6 0)]) [6,7] (λf L=>L++[bQ (.slice (some ⟨(f 6).y 0,0,none⟩) 3 3) ([e,d,a]),bQ (.slice (some ⟨(f 13).y 0,0,none⟩) 3 3) ([M,B,R])]) λf=>ao (.tuple #[iN (ei ([e,d,a]) ([M,B,R]) ([M,B,R]).length),i6 0]) ab.zero bc [] [] []))))
theorem QL(R S B M C:Nat)(i:cG R S B M C)(a d e:Nat)(h0:a<R)(h1:d<B)(h2:e<M):aa Zm 121 #[.agg #[iN R,iN S,iN B,iN M,iN C],i6 1,iN (a*16384+d*1024+e)] [] [] N0 (λ_=> .tuple #[iN (mf 1 R B M a d e),i6 0]):=by
 have g:=i.bd;have D:=g.r8;have q:=g.b16;have u:=g.m10;have r:=g.c1;have x:=g.rbm;have z:M*B*R=R*B*M:=by rw[Zt (R*B),Zt R,←Zw]
 have A:R*M*B=R*B*M:=by rw[Zw,Zt M,←Zw]
 have v:fF B e d<B:=qu i.pow h1;have n:gR R S B M C a d e 0:=⟨by omega,h1,h2,by omega⟩;refine fG Tryz.func121 λw y=>ra (λj=>[(3,pt (B0 j) 0),(6,i6 0),(7,i6 0)]) (λj=>[ob (B0 j) #[iN R,iN S,iN B,iN M,iN C] 23]) λj=>r0 [(0,.m (ls 0 ([iN R,iN S,iN B,iN M,iN C]))),(2,.c [] [] (ny R S B M C i 1 Om)),] [(21,.bool ((decide (((a*16384+d*1024+e:Nat):Int)<0))||(decide (131072≤((a*16384+d*1024+e:Nat):Int)))))] [] ?_;have o:((decide (((a*16384+d*1024+e:Nat):Int)<0))||(decide (131072≤((a*16384+d*1024+e:Nat):Int))))=false:=(by rw[ZC];exact⟨bl Om,bl Om⟩);refine cF ((decide (((a*16384+d*1024+e:Nat):Int)<0))||(decide (131072≤((a*16384+d*1024+e:Nat):Int)))) o (rr (λ_=>[(0,.l 0),(2,.t (tv (av .shl 3 (.tmp 24) (.const (u6 6)) (iN (a*16384+d*1024+e)) (u6 6)) (λ_=>dM (b:=((bI a d e 0:Nat):Int)) (fU 6 Dc Om Om) (by unfold bI;omega)))),(3,.c [] [] (te i n)),(8,.s 1)]) (λk=>[(8,pt (B7 k) 0),(9,i6 0)]) [] (λk L=>L++[ob (B7 k) #[iN a,iN d,iN e,i6 0] 46]) λk=>r0 [(4,.l 1),(6,.l 0)] [(37,.bool (decide ((R:Int)≤(a:Int))))] [] ?_);have p:(decide ((R:Int)≤(a:Int)))=false:=bl Om;exact cF (decide ((R:Int)≤(a:Int))) p (rF [] 39 (r0 [] [(50,i6 1)] [] (rF [] 51 (rT [] 68 (rr (λf=>[(1,.m (ld 1 (iN d))),(3,.m (ld 1 (iN e))),(5,.m (ld 1 (iN a))),(6,g5 cu 2 3 [d,e,a]),(8,.m (ld 0 (iN B))),(10,.m (ld 0 (iN M))),(12,.m (ld 0 (iN R))),(13,g5 cu 3 3 [B,M,R]),(14,.c [2,3] [] (aa.at (rd':=[bQ (.slice (some ⟨(f 6).y 0,0,none⟩) 3 3) ([d,e,a]),bQ (.slice (some ⟨(f 13).y 0,0,none⟩) 3 3) ([B,M,R])]) (vV (.slice (some ⟨(f 6).y 0,0,none⟩) 3 3) (.slice (some ⟨(f 13).y 0,0,none⟩) 3 3) ([d,e,a]) ([B,M,R]) (by simp) rfl (vT h1 h2 h0 Om)) (bO (λ_ h=>ar.sq h) (bO (λ_ h=>ar.sq h) (λ_ h=>h))))),]) (λ_=>[(6,iN (ei ([d,e,a]) ([B,M,R]) ([B,M,R]).length)),(7,i6 0)]) [6,7] (λf L=>L++[bQ (.slice (some ⟨(f 6).y 0,0,none⟩) 3 3) ([d,e,a]),bQ (.slice (some ⟨(f 13).y 0,0,none⟩) 3 3) ([B,M,R])]) λf=>ao (.tuple #[iN (ei ([d,e,a]) ([B,M,R]) ([B,M,R]).length),i6 0]) ab.zero bc [] [] [])))))
theorem QM(R S B M C:Nat)(i:cG R S B M C)(a d e:Nat)(h0:a<R)(h1:d<B)(h2:e<M):aa Zm 121 #[.agg #[iN R,iN S,iN B,iN M,iN C],i6 2,iN (a*16384+d*1024+e)] [] [] N0 (λ_=> .tuple #[iN (mf 2 R B M a d e),i6 0]):=by
 have g:=i.bd;have D:=g.r8;have q:=g.b16;have u:=g.m10;have r:=g.c1;have x:=g.rbm;have z:M*B*R=R*B*M:=by rw[Zt (R*B),Zt R,←Zw]
 have A:R*M*B=R*B*M:=by rw[Zw,Zt M,←Zw]
 have v:fF B e d<B:=qu i.pow h1;have n:gR R S B M C a d e 0:=⟨by omega,h1,h2,by omega⟩;refine fG Tryz.func121 λw y=>ra (λj=>[(3,pt (B0 j) 0),(6,i6 0),(7,i6 0)]) (λj=>[ob (B0 j) #[iN R,iN S,iN B,iN M,iN C] 23]) λj=>r0 [(0,.m (ls 0 ([iN R,iN S,iN B,iN M,iN C]))),(2,.c [] [] (ny R S B M C i 2 Om)),] [(21,.bool ((decide (((a*16384+d*1024+e:Nat):Int)<0))||(decide (131072≤((a*16384+d*1024+e:Nat):Int)))))] [] ?_;have o:((decide (((a*16384+d*1024+e:Nat):Int)<0))||(decide (131072≤((a*16384+d*1024+e:Nat):Int))))=false:=(by rw[ZC];exact⟨bl Om,bl Om⟩);refine cF ((decide (((a*16384+d*1024+e:Nat):Int)<0))||(decide (131072≤((a*16384+d*1024+e:Nat):Int)))) o (rr (λ_=>[(0,.l 0),(2,.t (tv (av .shl 3 (.tmp 24) (.const (u6 6)) (iN (a*16384+d*1024+e)) (u6 6)) (λ_=>dM (b:=((bI a d e 0:Nat):Int)) (fU 6 Dc Om Om) (by unfold bI;omega)))),(3,.c [] [] (te i n)),(8,.s 1)]) (λk=>[(8,pt (B7 k) 0),(9,i6 0)]) [] (λk L=>L++[ob (B7 k) #[iN a,iN d,iN e,i6 0] 46]) λk=>r0 [(4,.l 1),(6,.l 0)] [(37,.bool (decide ((R:Int)≤(a:Int))))] [] ?_);have p:(decide ((R:Int)≤(a:Int)))=false:=bl Om;exact cF (decide ((R:Int)≤(a:Int))) p (rF [] 39 (r0 [] [(50,i6 2)] [] (rF [] 51 (rF [] 68 (rr (λf=>[(1,.m (ld 1 (iN a))),(3,.m (ld 1 (iN d))),(5,.m (ld 1 (iN e))),(6,g5 cu 2 3 [a,d,e]),(8,.m (ld 0 (iN R))),(10,.m (ld 0 (iN B))),(12,.m (ld 0 (iN M))),(13,g5 cu 3 3 [R,B,M]),(14,.c [2,3] [] (aa.at (rd':=[bQ (.slice (some ⟨(f 6).y 0,0,none⟩) 3 3) ([a,d,e]),bQ (.slice (some ⟨(f 13).y 0,0,none⟩) 3 3) ([R,B,M])]) (vV (.slice (some ⟨(f 6).y 0,0,none⟩) 3 3) (.slice (some ⟨(f 13).y 0,0,none⟩) 3 3) ([a,d,e]) ([R,B,M]) (by simp) rfl (vT h0 h1 h2 Om)) (bO (λ_ h=>ar.sq h) (bO (λ_ h=>ar.sq h) (λ_ h=>h))))),]) (λ_=>[(6,iN (ei ([a,d,e]) ([R,B,M]) ([R,B,M]).length)),(7,i6 0)]) [6,7] (λf L=>L++[bQ (.slice (some ⟨(f 6).y 0,0,none⟩) 3 3) ([a,d,e]),bQ (.slice (some ⟨(f 13).y 0,0,none⟩) 3 3) ([R,B,M])]) λf=>ao (.tuple #[iN (ei ([a,d,e]) ([R,B,M]) ([R,B,M]).length),i6 0]) ab.zero bc [] [] [])))))
theorem QN(R S B M C:Nat)(k:cG R S B M C)(e f d:Nat)(h0:e<R)(h1:f<B)(h2:d<M):aa Zm 121 #[.agg #[iN R,iN S,iN B,iN M,iN C],i6 3,iN (e*16384+f*1024+d)] [] [] N0 (λ_=> .tuple #[iN (mf 3 R B M e f d),i6 0]):=by
 have i:=k.bd;have F:=i.r8;have u:=i.b16;have x:=i.m10;have v:=i.c1;have y:=i.rbm;have A:M*B*R=R*B*M:=by rw[Zt (R*B),Zt R,←Zw]
 have D:R*M*B=R*B*M:=by rw[Zw,Zt M,←Zw]
 have p:fF B d f<B:=qu k.pow h1;have o:gR R S B M C e f d 0:=⟨by omega,h1,h2,by omega⟩;refine fG Tryz.func121 λw z=>ra (λn=>[(3,pt (B0 n) 0),(6,i6 0),(7,i6 0)]) (λn=>[ob (B0 n) #[iN R,iN S,iN B,iN M,iN C] 23]) λn=>r0 [(0,.m (ls 0 ([iN R,iN S,iN B,iN M,iN C]))),(2,.c [] [] (ny R S B M C k 3 Om)),] [(21,.bool ((decide (((e*16384+f*1024+d:Nat):Int)<0))||(decide (131072≤((e*16384+f*1024+d:Nat):Int)))))] [] ?_;have q:((decide (((e*16384+f*1024+d:Nat):Int)<0))||(decide (131072≤((e*16384+f*1024+d:Nat):Int))))=false:=(by rw[ZC];exact⟨bl Om,bl Om⟩);refine cF ((decide (((e*16384+f*1024+d:Nat):Int)<0))||(decide (131072≤((e*16384+f*1024+d:Nat):Int)))) q (rr (λ_=>[(0,.l 0),(2,.t (tv (av .shl 3 (.tmp 24) (.const (u6 6)) (iN (e*16384+f*1024+d)) (u6 6)) (λ_=>dM (b:=((bI e f d 0:Nat):Int)) (fU 6 Dc Om Om) (by unfold bI;omega)))),(3,.c [] [] (te k o)),(8,.s 1)]) (λj=>[(8,pt (B7 j) 0),(9,i6 0)]) [] (λj L=>L++[ob (B7 j) #[iN e,iN f,iN d,i6 0] 46]) λj=>r0 [(4,.l 1),(6,.l 0)] [(37,.bool (decide ((R:Int)≤(e:Int))))] [] ?_);have r:(decide ((R:Int)≤(e:Int)))=false:=bl Om;refine cF (decide ((R:Int)≤(e:Int))) r (rT [] 39 ?_);have G:d&&& (B-1)≤B-1:=aax;exact rs [(1,.l 1),(3,.l 1),(5,.l 0),(6,.t (tb (a:=iN B) (b:=i6 1) λ_ _ _ _=>ma (a:=B) (b:=1) Om Om)),(7,.t (tv (av .and 3 (.tmp 43) (.tmp 46) (iN d) (iN (B-1))) (λ_=>Fh _ (B-1) Om Om))),(8,.t (tv (av .xor 3 (.tmp 41) (.tmp 47) (iN f) (iN (d&&& (B-1)))) (λ_=>Fi _ _ Om Om))),(10,.s 1)] 1 (ob (B7 j) #[iN e,iN (fF B d f),iN d,i6 0] 46) (r0 [] [(50,i6 3)] [] (rF [] 51 (rF [] 68 (rr (λg=>[(1,.m (ld 1 (iN e))),(3,.m (ld 1 (iN (fF B d f)))),(5,.m (ld 1 (iN d))),(6,g5 cu 2 3 [e,fF B d f,d]),(8,.m (ld 0 (iN R))),(10,.m (ld 0 (iN B))),(12,.m (ld 0 (iN M))),(13,g5 cu 3 3 [R,B,M]),(14,.c [2,3] [] (aa.at (rd':=[bQ (.slice (some ⟨(g 6).y 0,0,none⟩) 3 3) ([e,fF B d f,d]),bQ (.slice (some ⟨(g 13).y 0,0,none⟩) 3 3) ([R,B,M])]) (vV (.slice (some ⟨(g 6).y 0,0,none⟩) 3 3) (.slice (some ⟨(g 13).y 0,0,none⟩) 3 3) ([e,fF B d f,d]) ([R,B,M]) (by simp) rfl (vT h0 p h2 Om)) (bO (λ_ h=>ar.sq h) (bO (λ_ h=>ar.sq h) (λ_ h=>h))))),]) (λ_=>[(6,iN (ei ([e,fF B d f,d]) ([R,B,M]) ([R,B,M]).length)),(7,i6 0)]) [6,7] (λg L=>L++[bQ (.slice (some ⟨(g 6).y 0,0,none⟩) 3 3) ([e,fF B d f,d]),bQ (.slice (some ⟨(g 13).y 0,0,none⟩) 3 3) ([R,B,M])]) λg=>ao (.tuple #[iN (ei ([e,fF B d f,d]) ([R,B,M]) ([R,B,M]).length),i6 0]) ab.zero bc [] [] []))))
theorem QO(R S B M C:Nat)(d:cG R S B M C)(way:Nat)(e:way<4)(a b c:Nat)(h0:a<R)(h1:b<B)(h2:c<M):aa Zm 121 #[.agg #[iN R,iN S,iN B,iN M,iN C],iN way,iN (a*16384+b*1024+c)] [] [] N0 (λ_=> .tuple #[iN (mf way R B M a b c),i6 0]):=by
 match way with
 | 0=>exact QK R S B M C d a b c h0 h1 h2
 | 1=>exact QL R S B M C d a b c h0 h1 h2
 | 2=>exact QM R S B M C d a b c h0 h1 h2
 | 3=>exact QN R S B M C d a b c h0 h1 h2
 | w+4=>exact absurd e Om
end
section
open Go Go.RowKit Go.Shelf
theorem QP{i n:Int}(h:bL i n=false)(h0:0≤i):n≤i:=by
 unfold bL at h;simp only[aaL,decide_eq_false_iff_not] at h;omega
structure iB (R S B M C way res:Nat):Prop where
 O:cG R S B M C
 G:way<4
 r64:res≤64
 rp:res<R*B*M
structure Mp where
 R:Nat
 S:Nat
 B:Nat
 M:Nat
 C:Nat
 G:Nat
 res:Nat
 N:List Nat
 Q:List Bool
 K:List Int
 P:Nat
 F:Nat
abbrev Mp.seen(m:Mp):Nat:=m.R*m.B*m.M-m.res
structure bf (m:Mp):Prop where
 ly:iB m.R m.S m.B m.M m.C m.G m.res
 ll:m.N.length=m.R*m.B*m.M-m.res
 ld:m.Q.length=m.R*m.B*m.M
 ls:m.K.length=m.R
 pg:m.P≤m.res
 rk:m.F≤m.S
 lv: ∀i,i<m.R*m.B*m.M-m.res→m.N.getD i 0<m.R*m.B*m.M
 sp: ∀i,i<m.R→m.K.getD i 0= -1∨((m.R:Int)≤m.K.getD i 0∧m.K.getD i 0<((m.R+m.S:Nat):Int))
abbrev aH(g:Nat)(m:Mp)(L:aj):Prop:=∃a b c:Value,L=[ob g #[iN m.R,iN m.S,iN m.B,iN m.M,iN m.C,iN m.G,iN m.res,a,b,c,iN m.P,iN m.F] 137,bQ a m.N,fa b m.Q,dq c m.K]
def dD(m:Mp)(r:Nat):Bool:= !(m.K.getD r 0== -1)
def kM(m:Mp)(r:Nat):Int:=bif dD m r then m.K.getD r 0 else 0
def gH(m:Mp)(p:Nat):Nat:=bif dD m (aG m.G m.R m.B m.M p) then(m.K.getD (aG m.G m.R m.B m.M p) 0).toNat else aG m.G m.R m.B m.M p
def bB(m:Mp)(p:Nat):Nat:=gH m p*16384+dX m.G m.R m.B m.M p*1024+dV m.G m.R m.B m.M p
section
variable {m:Mp}
theorem bf.O(h:bf m):cG m.R m.S m.B m.M m.C:=h.ly.O
theorem bf.np(h:bf m):m.R*m.B*m.M≤4096:=h.O.bd.rbm
theorem bf.lines(h:bf m):(m.R*m.B*m.M-m.res)*m.C≤4096:=ZM (Zy _ (Nat.sub_le _ _)) h.O.bd.rbmc
theorem QQ(h:bf m)(p:Nat):gH m p<m.R+m.S:=by
 have b:=nw (p:=p) (way:=m.G) h.O;unfold gH;cases a:dD m (aG m.G m.R m.B m.M p) with
 | false=>rw[ALcf];omega
 | true=>
  rw[ALct];unfold dD at a;have a:m.K.getD (aG m.G m.R m.B m.M p) 0≠ -1:=by simpa using a
  have:=(h.sp _ b).resolve_left a;omega
theorem qv(h:bf m){p:Nat}(hp:p<m.R*m.B*m.M):gR m.R m.S m.B m.M m.C (gH m p) (dX m.G m.R m.B m.M p) (dV m.G m.R m.B m.M p) 0:=by
 have a:=po (way:=m.G) h.O hp;exact⟨QQ h p,a.h1,a.h2,a.h3⟩
theorem QR(h:bf m){p:Nat}(b:dD m (aG m.G m.R m.B m.M p)=true):(hZ m.G m.R m.B m.M p:Int)+(kM m (aG m.G m.R m.B m.M p)-(aG m.G m.R m.B m.M p:Int))*2^14=(bB m p:Int):=by
 have c:=nw (p:=p) (way:=m.G) h.O;have a:=b;unfold dD at a;have a:m.K.getD (aG m.G m.R m.B m.M p) 0≠ -1:=by simpa using a
 have d:=(h.sp _ c).resolve_left a;unfold bB gH kM;rw[b,ALct,ALct,zO];have e:((m.K.getD (aG m.G m.R m.B m.M p) 0).toNat:Int)=m.K.getD (aG m.G m.R m.B m.M p) 0:=ZS Om;omega
theorem QS{p:Nat}(a:dD m (aG m.G m.R m.B m.M p)=false):hZ m.G m.R m.B m.M p=bB m p:=by
 unfold bB gH;rw[a,ALcf,zO]
theorem QT(h:bf m){r:Nat}(b:r<m.R):0≤kM m r∧kM m r<((m.R+m.S:Nat):Int):=by
 unfold kM;cases a:dD m r with
 | false=>rw[ALcf];omega
 | true=>
  unfold dD at a;have a:m.K.getD r 0≠ -1:=by simpa using a
  have:=(h.sp _ b).resolve_left a;rw[ALct];omega
theorem Fl(h:bf m){p:Nat}(hp:p<m.R*m.B*m.M):hZ m.G m.R m.B m.M p/16384=aG m.G m.R m.B m.M p:=by
 have a:=po (way:=m.G) h.O hp;have b:=h.O.bd.b16;have c:=h.O.bd.m10;have:=a.h1;have:=a.h2;rw[zO];omega
theorem vW(h:bf m){p:Nat}(hp:p<m.R*m.B*m.M):bB m p<131072:=by
 have a:=qv h hp;have b:=h.O.bd.r8;have c:=h.O.bd.b16;have d:=h.O.bd.m10;have:=a.h0;have:=a.h1;have:=a.h2;unfold bB;omega
theorem zQ(h:bf m){n:Nat}(a:n<(m.R*m.B*m.M-m.res)*m.C):n/m.C<m.R*m.B*m.M-m.res:=ZQ (by rw[Zt m.C];exact a)
def aq(m:Mp)(n:Nat):Nat:=m.N.getD (n/m.C) 0
def cM(m:Mp)(n:Nat):Nat:=bB m (aq m n)*64+n%m.C
theorem nz(h:bf m){n:Nat}(a:n<(m.R*m.B*m.M-m.res)*m.C):aq m n<m.R*m.B*m.M:=h.lv _ (zQ h a)
end
def dy(m:Mp):Bool:= !decide (m.P=m.res)
def dY(m:Mp):Bool:= !decide (m.F=m.S)
def dE(m:Mp):Nat:=if m.P=m.res then 0 else m.seen+m.P
def fl(m:Mp):Nat:=if m.F=m.S then 0 else m.R+m.F
def dB(l:List Nat)(h t k:Nat):List Nat:=((l.take k).map λx=>if x=h then t else x)++l.drop k
theorem Fm(l:List Nat)(h t k:Nat):(dB l h t k).length=l.length:=by unfold dB;rw[Zq,Zs,Zr,ZA];omega
theorem QU{l:List Nat}{h t k:Nat}(a:k<l.length):(dB l h t k).getD k 0=l.getD k 0:=by
 unfold dB;rw[Zl,Zz (by rw[Zs,Zr];omega),Zs,Zr,ZT,Zl]
 congr 2;omega
theorem QV(l:List Nat)(h t:Nat):dB l h t 0=l:=by unfold dB;simp
theorem QW(l:List Nat)(h t:Nat):dB l h t l.length=l.map λx=>if x=h then t else x:=by unfold dB;simp
theorem Fo{l:List Nat}{h t k:Nat}(a:k<l.length):dB l h t (k+1)=((l.take k).map λx=>if x=h then t else x)++(if l.getD k 0=h then t else l.getD k 0)::l.drop (k+1):=by
 unfold dB;rw[aac,Zo a,aak,aae,Zl,Zo a];rfl
theorem QX{l:List Nat}{h t k:Nat}(a:k<l.length)(e:l.getD k 0=h):(dB l h t k).set k t=dB l h t (k+1):=by
 rw[Fo a,ALifp e];unfold dB;rw[aaG a,List.set_append_right _ _ (by rw[Zs,Zr];omega),Zs,Zr,show k-min k l.length=0 by omega];rfl
theorem QY{l:List Nat}{h t k:Nat}(a:k<l.length)(e:l.getD k 0≠h):dB l h t k=dB l h t (k+1):=by
 rw[Fo a,ALifn e];unfold dB;rw[aaG a,Zl,Zo a];rfl
theorem QZ{l:List Nat}{h t k:Nat}(a:k<l.length):(bif (((dB l h t k).getD k 0:Nat):Int)==(h:Int) then(dB l h t k).set k t else dB l h t k)=dB l h t (k+1):=by
 rw[QU a];by_cases e:l.getD k 0=h
 ·rw[show(((l.getD k 0:Nat):Int)==(h:Int))=true by rw[e];exact beq_self_eq_true _,ALct,QX a e]
 ·rw[show(((l.getD k 0:Nat):Int)==(h:Int))=false by rw[db];omega,ALcf,QY a e]
def qw(m:Mp):Mp:={m with P:=m.P+1}
def qx(m:Mp):Mp:={m with F:=m.F+1}
def kk(m:Mp)(h t:Nat):Mp:={m with Q:=m.Q.set h true,N:=dB m.N h t m.N.length}
def jr(m:Mp)(r s:Nat):Mp:={m with K:=m.K.set r (s:Int)}
def lD(R S B M C way a:Nat):Mp:=⟨R,S,B,M,C,way,a,Zn (R*B*M-a),Zp (R*B*M) false,Zp R (-1),0,0⟩
end
section
open Go Go.RowKit Go.Shelf
theorem vX(i n:Int):aa Zm 58 #[i6 i,i6 n] [] [] N0 (λ_=> .bool (bL i n)):=by
 exact fG Tryz.func58 λw a=>r0 [] [(4,.bool false)] [] (r0 [] [(4,.bool ((decide (0≤i))&&(decide (i<n))))] [4] (ao (.bool ((decide (0≤i))&&(decide (i<n)))) ab.zero bc [] [] []))
theorem Fp(R S B M C way a:Nat)(b:iB R S B M C way a):aa Zm 106 #[.agg #[iN R,iN S,iN B,iN M,iN C,iN way,iN a]] [] [] N0 (λ_=> .bool true):=by
 have e:=b.O;have i:=b.rp;have h:=e.bd.rbm;have g:=b.G;have f:=b.r64;exact fG Tryz.func106 λw j=>ra (λd=>[(1,pt (B0 d) 0),(2,.bool false)]) (λd=>[ob (B0 d) #[iN R,iN S,iN B,iN M,iN C,iN way,iN a] 25]) λd=>r0 [(1,.m (ls 0 ([iN R,iN S,iN B,iN M,iN C]))),(3,.m (ld 0 (iN way))),(4,.c [] [] (ny R S B M C e way Om)),(7,.m (ld 0 (iN a))),(12,.m (ld 0 (iN a))),(17,.m (ld 0 (iN a))),(19,.m (ls 0 ([iN R,iN S,iN B,iN M,iN C]))),(20,.c [] [] (mL R S B M C e)),] [(2,.bool (((decide (0≤(a:Int)))&&(decide ((a:Int)≤64)))&&(decide ((a:Int)<(((R*B)*M:Nat):Int)))))] [2] (ao (.bool (((decide (0≤(a:Int)))&&(decide ((a:Int)≤64)))&&(decide ((a:Int)<(((R*B)*M:Nat):Int))))) ab.zero (by exact ALca Value.bool (by simp only[Zv,decide_eq_true_eq,true_and];omega)) [] [] [])
theorem qy(R S B M C way d:Nat)(e:iB R S B M C way d):aa Zm 76 #[.agg #[iN R,iN S,iN B,iN M,iN C,iN way,iN d]] [] [] N0 (λ_=>iN (((R*B)*M)-d)):=by
 have g:=e.O;have k:=e.rp;have j:=g.bd.rbm;have i:=e.G;have h:=e.r64;exact fG Tryz.func76 λw m=>ra (λf=>[(1,pt (B0 f) 0),(2,i6 0)]) (λf=>[ob (B0 f) #[iN R,iN S,iN B,iN M,iN C,iN way,iN d] 25]) λf=>rF [(0,.l 0),(1,.c [] [] (Fp R S B M C way d e))] 5 (r0 [(1,.l 0),(2,.c [] [] (mL R S B M C g)),(4,.l 0),(5,.t (tb (a:=iN ((R*B)*M)) (b:=iN d) λ_ _ _ _=>ma (a:=(R*B)*M) (b:=d) Om Om))] [(2,iN (((R*B)*M)-d))] [2] (lf ab.zero [] [] []))
theorem zR(R S B M C way a:Nat)(b:iB R S B M C way a):aa Zm 39 #[.agg #[iN R,iN S,iN B,iN M,iN C,iN way,iN a]] [] [] N0 (λ_=>iN ((((R*B)*M)-a)*C)):=by
 have e:=b.O;have i:=b.rp;have h:=e.bd.rbm;have g:=b.G;have f:=b.r64;have k:=ZM (Zy C (Nat.sub_le (R*B*M) a)) e.bd.rbmc;exact fG Tryz.func39 λw j=>ra (λd=>[(1,pt (B0 d) 0),(2,i6 0)]) (λd=>[ob (B0 d) #[iN R,iN S,iN B,iN M,iN C,iN way,iN a] 25]) λd=>r0 [(0,.l 0),(1,.c [] [] (qy R S B M C way a b)),(4,.l 0),(5,ml (((R*B)*M)-a) C)] [(2,iN ((((R*B)*M)-a)*C))] [2] (lf ab.zero [] [] [])
theorem jt(g:Nat)(m:Mp)(a:bf m):aa Zm 63 #[pt g 0] [pk (aH g m)] [0] (λ_=>[pk (aH g m)]) (λ_=> .agg #[iN m.R,iN m.S,iN m.B,iN m.M,iN m.C,iN m.G,iN m.res]):=aa.pkZ Tryz.func63 λL e=>by
 obtain⟨q,r,t,rfl⟩:=e;refine⟨[1,2,3],λ_=>[bQ q m.N,fa r m.Q,dq t m.K],?_,rfl,λE=>⟨rfl,rfl,⟨_,_,_,rfl⟩⟩⟩;have d:=a.O;have c:=a.ly;have j:=a.np;have h:=a.ll;have f:=a.ld;have i:=a.ls;have k:=a.pg;have o:=a.rk;have p:=c.rp;have n:=d.bd.r8;exact fG Tryz.func63 λw u=>ra (λb=>[(2,pt (B0 b) 0)]) (λb=>[ob (B0 b) #[i6 0,i6 0,i6 0,i6 0,i6 0,i6 0,i6 0] 25]) λb=>rs [(3,.l 0),(4,.s 4)] 4 (ob (B0 b) #[iN m.R,iN m.S,iN m.B,iN m.M,iN m.C,iN m.G,iN m.res] 25) (lf ab.zero [1,2,3] [(0,0)] [4])
theorem pq(i n:Nat)(h:i<n):aa Zm 58 #[iN i,iN n] [] [] N0 (λ_=> .bool true):=by
 have a:=vX i n;rwa [mc.2 ⟨by omega,by omega⟩] at a
theorem zS(g:Nat)(m:Mp)(a:bf m)(p:Nat)(hp:p<m.R*m.B*m.M):aa Zm 25 #[pt g 0,iN p] [pk (aH g m)] [0] (λ_=>[pk (aH g m)]) (λ_=> .bool (m.Q.getD p false)):=aa.pkZ Tryz.func25 λL f=>by
 obtain⟨r,b,s,rfl⟩:=f;refine⟨[1,2,3],λ_=>[bQ r m.N,fa b m.Q,dq s m.K],?_,rfl,λE=>⟨rfl,rfl,⟨_,_,_,rfl⟩⟩⟩;have e:=a.O;have d:=a.ly;have k:=a.np;have i:=a.ll;have h:=a.ld;have j:=a.ls;have l:=a.pg;have o:=a.rk;have q:=d.rp;have n:=e.bd.r8;exact fG Tryz.func25 λw t=>r0 [] [(4,.bool false)] [] (r0 [(4,.m (ld 0 (b))),(5,fu kL b m.Q 2),(6,.c [] [] (pq p m.Q.length Om)),(11,.m (ld 0 (b))),(13,cO kL b m.Q 2 p),(14,e7 kL b m.Q 2 p 0)] [(4,.bool (m.Q.getD p false))] [4] (lf ab.zero [1,2,3] [(0,0)] []))
theorem Q2(g:Nat)(m:Mp)(a:bf m)(p:Nat)(hp:p<m.R*m.B*m.M):aa Zm 86 #[pt g 0,iN p] [pk (aH g m)] [0] (λ_=>[pk (aH g m)]) (λ_=> .bool (decide (p<m.R*m.B*m.M-m.res+m.P)&& !m.Q.getD p false)):=aa.pkZ Tryz.func86 λL i=>by
 obtain⟨t,f,u,rfl⟩:=i;refine⟨[1,2,3],λ_=>[bQ t m.N,fa f m.Q,dq u m.K],?_,rfl,λE=>⟨rfl,rfl,⟨_,_,_,rfl⟩⟩⟩;have h:=a.O;have b:=a.ly;have n:=a.np;have k:=a.ll;have j:=a.ld;have l:=a.ls;have o:=a.pg;have r:=a.rk;have s:=b.rp;have q:=h.bd.r8;refine fG Tryz.func86 λw v=>r0 [] [(4,.bool false)] [] ?_;cases e:(bL (p:Int) (((((m.R*m.B)*m.M)-m.res)+m.P:Nat):Int))
 case true=>
  exact r0 [(4,.m (ls 0 ([iN m.R,iN m.S,iN m.B,iN m.M,iN m.C,iN m.G,iN m.res]))),(5,.c [] [] (qy m.R m.S m.B m.M m.C m.G m.res b)),(9,.m (ld 0 (iN m.P))),(10,ad (((m.R*m.B)*m.M)-m.res) m.P),(11,.c [] [] (aa.v ((vX (p:Int) (((((m.R*m.B)*m.M)-m.res)+m.P:Nat):Int))) λ_=>ALca Value.bool (show(bL (p:Int) (((((m.R*m.B)*m.M)-m.res)+m.P:Nat):Int))=true from e))),(16,.m (ld 0 (f))),(18,cO kL f m.Q 2 p),(19,e7 kL f m.Q 2 p 0),] [(4,.bool (!(m.Q.getD p false)))] [4] (ao (.bool (!(m.Q.getD p false))) ab.zero (by(rw[cC (by have:=mc.1 e;omega)];rfl)) [1,2,3] [(0,0)] [])
 exact r0 [(4,.m (ls 0 ([iN m.R,iN m.S,iN m.B,iN m.M,iN m.C,iN m.G,iN m.res]))),(5,.c [] [] (qy m.R m.S m.B m.M m.C m.G m.res b)),(9,.m (ld 0 (iN m.P))),(10,ad (((m.R*m.B)*m.M)-m.res) m.P),(11,.c [] [] (aa.v ((vX (p:Int) (((((m.R*m.B)*m.M)-m.res)+m.P:Nat):Int))) λ_=>ALca Value.bool (show(bL (p:Int) (((((m.R*m.B)*m.M)-m.res)+m.P:Nat):Int))=false from e))),(13,.d),(14,.d),(15,.d),(16,.d),(17,.d),(18,.d),(19,.d),(20,.d)] [(4,.bool false)] [4] (ao (.bool false) ab.zero (by(rw[bl (by have:=QP e Om;omega)];rfl)) [1,2,3] [(0,0)] [])
theorem Fq(g:Nat)(m:Mp)(b:bf m)(h i a:Value)(r:Nat)(x:r<m.R):aa Zm 26 #[pt g 0,iN r] [ob g #[iN m.R,iN m.S,iN m.B,iN m.M,iN m.C,iN m.G,iN m.res,h,i,a,iN m.P,iN m.F] 137,bQ h m.N,fa i m.Q,dq a m.K] [1,2,3] (λ_=>[bQ h m.N,fa i m.Q,dq a m.K]) (λ_=> .tuple #[i6 (kM m r),.bool (dD m r)]):=by
 have j:=b.O;have f:=b.ly;have p:=b.np;have n:=b.ll;have k:=b.ld;have o:=b.ls;have q:=b.pg;have t:=b.rk;have u:=f.rp;have s:=j.bd.r8;refine fG Tryz.func26 λw v=>r0 [] [(4,i6 0),(5,.bool false)] [] (r0 [(4,.m (ld 0 (a))),(5,fu kI a m.K 3),(6,.c [] [] (pq r m.K.length Om)),(12,.m (ld 0 (a))),(14,cO kI a m.K 3 r),(15,e7 kI a m.K 3 r 0)] [(23,.bool ((m.K.getD r 0)==(-1)))] [] ?_);refine cX (m.K.getD r 0) (-1) (λe d=>?_) λe d=>?_
 ·exact r0 [] [(4,i6 0),(5,.bool false)] [4,5] (ao (.tuple #[i6 0,.bool false]) ab.zero (by unfold kM dD;(repeat (rw[e]));rfl) [1,2,3] [(0,0)] [])
 exact r0 [(3,.l 0),(5,cO kI a m.K 3 r),(6,e7 kI a m.K 3 r 0)] [(4,i6 (m.K.getD r 0)),(5,.bool true)] [4,5] (ao (.tuple #[i6 (m.K.getD r 0),.bool true]) ab.zero (by unfold kM dD;(repeat (rw[e]));rfl) [1,2,3] [(0,0)] [])
theorem Fs(g:Nat)(m:Mp)(e:bf m)(r:Nat)(f:r<m.R):aa Zm 26 #[pt g 0,iN r] [pk (aH g m)] [0] (λ_=>[pk (aH g m)]) (λ_=> .tuple #[i6 (kM m r),.bool (dD m r)]):=aa.pkZ Tryz.func26 λL d=>by
 obtain⟨a,b,c,rfl⟩:=d;exact⟨[1,2,3],λ_=>[bQ a m.N,fa b m.Q,dq c m.K],Fq g m e a b c r f,rfl,λE=>⟨rfl,rfl,⟨_,_,_,rfl⟩⟩⟩
theorem Ft(g:Nat)(m:Mp)(a:bf m)(f h i:Value)(p:Nat)(hp:p<m.R*m.B*m.M):aa Zm 99 #[pt g 0,iN p] [ob g #[iN m.R,iN m.S,iN m.B,iN m.M,iN m.C,iN m.G,iN m.res,f,h,i,iN m.P,iN m.F] 137,bQ f m.N,fa h m.Q,dq i m.K] [1,2,3] (λ_=>[bQ f m.N,fa h m.Q,dq i m.K]) (λ_=> .tuple #[iN (bB m p),iN (aG m.G m.R m.B m.M p),i6 0]):=by
 have e:=a.O;have d:=a.ly;have u:=a.np;have r:=a.ll;have q:=a.ld;have s:=a.ls;have v:=a.pg;have y:=a.rk;have z:=d.rp;have x:=e.bd.r8;have l:=d.G;have D:=QE (way:=m.G) e hp;have B:=Fl a hp;have k:=nw (p:=p) (way:=m.G) e;have A:=QT a k;have o:=vW a hp;refine fG Tryz.func99 λw C=>r0 [] [(4,i6 0),(5,i6 0),(6,i6 0)] [] (r0 [(4,.m (ls 0 ([iN m.R,iN m.S,iN m.B,iN m.M,iN m.C]))),(9,.m (ld 0 (iN m.G))),(11,.c [] [] (Fk m.R m.S m.B m.M m.C e m.G Om p Om)),] [(7,iN (hZ m.G m.R m.B m.M p)),(6,i6 0)] [6] (rF [] 26 (r0 [(1,.t (tv (av .shr 3 (.tmp 28) (.const (u6 14)) (iN (hZ m.G m.R m.B m.M p)) (u6 14)) (λ_=>dM (b:=((aG m.G m.R m.B m.M p:Nat):Int)) (iO 14 Dc) Om)))] [(5,iN (aG m.G m.R m.B m.M p))] [5] (r0 [(2,.c [0,1,2,3] [1,2,3] (Fq g m a f h i (aG m.G m.R m.B m.M p) Om))] [(8,i6 (kM m (aG m.G m.R m.B m.M p))),(9,.bool (dD m (aG m.G m.R m.B m.M p)))] [] (r0 [] [(36,.bool (dD m (aG m.G m.R m.B m.M p)))] [] ?_)))));refine cB (dD m (aG m.G m.R m.B m.M p)) (λj=>?_) λj=>?_
 ·have n:=QR a j;exact r0 [(3,sI (kM m (aG m.G m.R m.B m.M p)) (((aG m.G m.R m.B m.M p:Nat):Int)) Om),(4,.t (tv (av .shl 3 (.tmp 40) (.const (u6 14)) (i6 ((kM m (aG m.G m.R m.B m.M p))-((aG m.G m.R m.B m.M p:Nat):Int))) (u6 14)) (λ_=>fU 14 Dc Om Om))),(5,.t (tv (av .add 3 (.tmp 37) (.tmp 41) (iN (hZ m.G m.R m.B m.M p)) (i6 ((kM m (aG m.G m.R m.B m.M p)-(aG m.G m.R m.B m.M p:Int))*2^14))) (λ_=>dM (ry Om Om) n)))] [(7,iN (bB m p))] [7] (r0 [] [(4,iN (bB m p)),(5,iN (aG m.G m.R m.B m.M p)),(6,i6 0)] [4,5,6] (ao (.tuple #[iN (bB m p),iN (aG m.G m.R m.B m.M p),i6 0]) ab.zero bc [1,2,3] [(0,0)] []))
 exact r0 [] [(4,iN (hZ m.G m.R m.B m.M p)),(5,iN (aG m.G m.R m.B m.M p)),(6,i6 0)] [4,5,6] (ao (.tuple #[iN (hZ m.G m.R m.B m.M p),iN (aG m.G m.R m.B m.M p),i6 0]) ab.zero (by(rw[QS j])) [1,2,3] [(0,0)] [])
theorem Fu(g:Nat)(m:Mp)(a:bf m)(p:Nat)(hp:p<m.R*m.B*m.M):aa Zm 64 #[pt g 0,iN p] [pk (aH g m)] [0] (λ_=>[pk (aH g m)]) (λ_=> .tuple #[iN (bB m p),i6 0]):=aa.pkZ Tryz.func64 λL i=>by
 obtain⟨d,e,f,rfl⟩:=i;refine⟨[1,2,3],λ_=>[bQ d m.N,fa e m.Q,dq f m.K],?_,rfl,λE=>⟨rfl,rfl,⟨_,_,_,rfl⟩⟩⟩;have h:=a.O;have b:=a.ly;have n:=a.np;have k:=a.ll;have j:=a.ld;have l:=a.ls;have o:=a.pg;have r:=a.rk;have s:=b.rp;have q:=h.bd.r8;exact fG Tryz.func64 λw t=>r0 [] [(4,i6 0),(5,i6 0)] [] (r0 [(2,.c [0,1,2,3] [1,2,3] (Ft g m a d e f p Om))] [(6,iN (bB m p)),(8,i6 0)] [] (r0 [] [(4,iN (bB m p)),(5,i6 0)] [4,5] (lf ab.zero [1,2,3] [(0,0)] [])))
theorem zT(g:Nat)(m:Mp)(e:bf m)(n:Nat)(p:n<(m.R*m.B*m.M-m.res)*m.C):aa Zm 220 #[pt g 0,iN n] [pk (aH g m)] [0] (λ_=>[pk (aH g m)]) (λ_=> .tuple #[iN (cM m n),iN (aq m n),iN (aG m.G m.R m.B m.M (aq m n)),i6 0]):=aa.pkZ Tryz.func220 λL s=>by
 obtain⟨h,q,r,rfl⟩:=s;refine⟨[1,2,3],λ_=>[bQ h m.N,fa q m.Q,dq r m.K],?_,rfl,λE=>⟨rfl,rfl,⟨_,_,_,rfl⟩⟩⟩;have i:=e.O;have f:=e.ly;have B:=e.np;have y:=e.ll;have x:=e.ld;have z:=e.ls;have C:=e.pg;have F:=e.rk;have G:=f.rp;have D:=i.bd.r8;have A:=e.lines;have j:=i.bd.c1;have k:=i.bd.c64;have I:=zQ e p;have u:m.N.getD (n/m.C) 0<m.R*m.B*m.M:=nz e p;have v:=vW e u;have o:=Zx n j;exact fG Tryz.func220 λw H=>r0 [] [(4,i6 0),(5,i6 0),(6,i6 0),(7,i6 0)] [] (rF [(4,.l 0),(5,.c [] [] (zR m.R m.S m.B m.M m.C m.G m.res f)),(6,.c [] [] (pq n ((((m.R*m.B)*m.M)-m.res)*m.C) Om))] 16 (r0 [(3,.m (ld 0 (h))),(10,.m (ld 0 (iN m.C))),(11,.t (tb (a:=iN n) (b:=iN m.C) λ_ _ _ _=>oR (a:=n) (d:=m.C) Om Om)),(12,cO cu h m.N 1 (n/m.C)),(13,e7 cu h m.N 1 (n/m.C) 0)] [(5,iN (m.N.getD (n/m.C) 0))] [5] (r0 [(2,.c [0,1,2,3] [1,2,3] (Ft g m e h q r (m.N.getD (n/m.C) 0) Om))] [(8,iN (bB m (m.N.getD (n/m.C) 0))),(6,iN (aG m.G m.R m.B m.M (m.N.getD (n/m.C) 0))),(7,i6 0)] [6,7] (rF [] 39 (r0 [(1,.t (tv (av .shl 3 (.tmp 41) (.const (u6 6)) (iN (bB m (m.N.getD (n/m.C) 0))) (u6 6)) (λ_=>dM (b:=((bB m (m.N.getD (n/m.C) 0)*64:Nat):Int)) (fU 6 Dc Om Om) Om))),(8,.m (ld 0 (iN m.C))),(9,.t (tb (a:=iN n) (b:=iN m.C) λ_ _ _ _=>nZ (a:=n) (d:=m.C) Om)),(10,.t (tv (av .or 3 (.tmp 42) (.tmp 50) (iN (bB m (m.N.getD (n/m.C) 0)*64)) (iN (n%m.C))) (λ_=>dM (b:=((cM m n:Nat):Int)) (sA 6 64 rfl Om Om Om Om Om) (by unfold cM aq;omega)))),] [(4,iN (cM m n)),(5,iN (m.N.getD (n/m.C) 0)),(6,iN (aG m.G m.R m.B m.M (m.N.getD (n/m.C) 0))),(7,i6 0)] [4,5,6,7] (ao (.tuple #[iN (cM m n),iN (m.N.getD (n/m.C) 0),iN (aG m.G m.R m.B m.M (m.N.getD (n/m.C) 0)),i6 0]) ab.zero bc [1,2,3] [(0,0)] []))))))
theorem Q3(g:Nat)(m:Mp)(a:bf m)(n:Int)(j:bL n (((m.R*m.B*m.M-m.res)*m.C:Nat):Int)=false):aa Zm 220 #[pt g 0,i6 n] [pk (aH g m)] [0] (λ_=>[pk (aH g m)]) (λ_=> .tuple #[i6 0,i6 0,i6 0,i6 12]):=aa.pkZ Tryz.func220 λL e=>by
 obtain⟨t,u,v,rfl⟩:=e;refine⟨[1,2,3],λ_=>[bQ t m.N,fa u m.Q,dq v m.K],?_,rfl,λE=>⟨rfl,rfl,⟨_,_,_,rfl⟩⟩⟩;have d:=a.O;have b:=a.ly;have o:=a.np;have h:=a.ll;have f:=a.ld;have i:=a.ls;have p:=a.pg;have r:=a.rk;have s:=b.rp;have q:=d.bd.r8;have k:=a.lines;exact fG Tryz.func220 λw x=>r0 [] [(4,i6 0),(5,i6 0),(6,i6 0),(7,i6 0)] [] (rT [(4,.l 0),(5,.c [] [] (zR m.R m.S m.B m.M m.C m.G m.res b)),(6,.c [] [] (aa.v ((vX n (((((m.R*m.B)*m.M)-m.res)*m.C:Nat):Int))) λ_=>ALca Value.bool (show(bL n (((((m.R*m.B)*m.M)-m.res)*m.C:Nat):Int))=false from(by exact j))))] 16 (r0 [] [(4,i6 0),(5,i6 0),(6,i6 0),(7,i6 12)] [4,5,6,7] (lf ab.zero [1,2,3] [(0,0)] [])))
theorem zU(g:Nat)(m:Mp)(a:bf m)(f h i:Value):aa Zm 264 #[pt g 0] [ob g #[iN m.R,iN m.S,iN m.B,iN m.M,iN m.C,iN m.G,iN m.res,f,h,i,iN m.P,iN m.F] 137,bQ f m.N,fa h m.Q,dq i m.K] [1,2,3] (λ_=>[bQ f m.N,fa h m.Q,dq i m.K]) (λ_=> .tuple #[iN (dE m),.bool (dy m)]):=by
 have k:=a.O;have b:=a.ly;have q:=a.np;have o:=a.ll;have n:=a.ld;have p:=a.ls;have r:=a.pg;have t:=a.rk;have u:=b.rp;have s:=k.bd.r8;refine fG Tryz.func264 λw v=>r0 [] [(2,i6 0),(3,.bool false)] [] (r0 [(3,.l 0),(8,.l 0)] [(13,.bool ((m.P:Int)==(m.res:Int)))] [] ?_);refine cX (m.P:Int) (m.res:Int) (λj d=>?_) λj d=>?_
 ·exact r0 [] [(2,i6 0),(3,.bool false)] [2,3] (ao (.tuple #[i6 0,.bool false]) ab.zero (by by_cases e:m.P=m.res<;>first | (exfalso;omega) | (simp [dE,dy,e])) [1,2,3] [(0,0)] [])
 exact r0 [(3,.m (ls 0 ([iN m.R,iN m.S,iN m.B,iN m.M,iN m.C,iN m.G,iN m.res]))),(4,.c [] [] (qy m.R m.S m.B m.M m.C m.G m.res b)),(8,.m (ld 0 (iN m.P))),(9,ad (((m.R*m.B)*m.M)-m.res) m.P),] [(2,iN ((((m.R*m.B)*m.M)-m.res)+m.P)),(3,.bool true)] [2,3] (ao (.tuple #[iN ((((m.R*m.B)*m.M)-m.res)+m.P),.bool true]) ab.zero (by by_cases e:m.P=m.res<;>first | (exfalso;omega) | (simp [dE,dy,e])) [1,2,3] [(0,0)] [])
theorem Q4(g:Nat)(m:Mp)(e:bf m):aa Zm 264 #[pt g 0] [pk (aH g m)] [0] (λ_=>[pk (aH g m)]) (λ_=> .tuple #[iN (dE m),.bool (dy m)]):=aa.pkZ Tryz.func264 λL d=>by
 obtain⟨a,b,c,rfl⟩:=d;exact⟨[1,2,3],λ_=>[bQ a m.N,fa b m.Q,dq c m.K],zU g m e a b c,rfl,λE=>⟨rfl,rfl,⟨_,_,_,rfl⟩⟩⟩
theorem Fv(g:Nat)(m:Mp)(a:bf m)(e f h:Value):aa Zm 281 #[pt g 0] [ob g #[iN m.R,iN m.S,iN m.B,iN m.M,iN m.C,iN m.G,iN m.res,e,f,h,iN m.P,iN m.F] 137,bQ e m.N,fa f m.Q,dq h m.K] [1,2,3] (λ_=>[bQ e m.N,fa f m.Q,dq h m.K]) (λ_=> .tuple #[iN (fl m),.bool (dY m)]):=by
 have j:=a.O;have d:=a.ly;have p:=a.np;have n:=a.ll;have k:=a.ld;have o:=a.ls;have q:=a.pg;have s:=a.rk;have t:=d.rp;have r:=j.bd.r8;refine fG Tryz.func281 λw u=>r0 [] [(2,i6 0),(3,.bool false)] [] (r0 [(3,.l 0),(9,.l 0)] [(14,.bool ((m.F:Int)==(m.S:Int)))] [] ?_);refine cX (m.F:Int) (m.S:Int) (λi b=>?_) λi b=>?_
 ·exact r0 [] [(2,i6 0),(3,.bool false)] [2,3] (ao (.tuple #[i6 0,.bool false]) ab.zero (by by_cases c:m.F=m.S<;>first | (exfalso;omega) | (simp [fl,dY,c])) [1,2,3] [(0,0)] [])
 exact r0 [(5,.m (ld 0 (iN m.R))),(9,.m (ld 0 (iN m.F))),(10,ad m.R m.F),] [(2,iN (m.R+m.F)),(3,.bool true)] [2,3] (ao (.tuple #[iN (m.R+m.F),.bool true]) ab.zero (by by_cases c:m.F=m.S<;>first | (exfalso;omega) | (simp [fl,dY,c])) [1,2,3] [(0,0)] [])
end
section
open Go Go.RowKit Go.Shelf
theorem Q5(g:Nat)(m:Mp)(a:bf m)(f:dy m=true):aa Zm 265 #[pt g 0] [pk (aH g m)] [0] (λ_=>[pk (aH g (qw m))]) (λ_=> .tuple #[iN (dE m),i6 0]):=aa.pkZ Tryz.func265 λL k=>by
 obtain⟨b,d,e,rfl⟩:=k;refine⟨[0,1,2,3],λ_=>[ob g #[iN m.R,iN m.S,iN m.B,iN m.M,iN m.C,iN m.G,iN m.res,b,d,e,iN (m.P+1),iN m.F] 137,bQ b m.N,fa d m.Q,dq e m.K],?_,rfl,λE=>⟨rfl,rfl,⟨_,_,_,rfl⟩⟩⟩;have j:=a.O;have h:=a.ly;have q:=a.np;have o:=a.ll;have n:=a.ld;have p:=a.ls;have r:=a.pg;have u:=a.rk;have v:=h.rp;have t:=j.bd.r8;refine fG Tryz.func265 λw x=>r0 [] [(2,i6 0),(3,i6 0)] [] (r0 [(1,.c [0,1,2,3] [1,2,3] (zU g m a b d e))] [(4,iN (dE m)),(5,.bool (dy m))] [] (r0 [] [(12,.bool (!(dy m)))] [] ?_));have i:(!(dy m))=false:=(by rw[f];rfl);exact cF (!(dy m)) i (rs [(3,.l 0),(4,ad m.P 1),(7,.s 0)] 0 (ob g #[iN m.R,iN m.S,iN m.B,iN m.M,iN m.C,iN m.G,iN m.res,b,d,e,iN (m.P+1),iN m.F] 137) (r0 [] [(2,iN (dE m)),(3,i6 0)] [2,3] (lf ab.zero [0,1,2,3] [] [])))
theorem Q6(g:Nat)(m:Mp)(a:bf m)(b:dy m=false):aa Zm 265 #[pt g 0] [pk (aH g m)] [0] (λ_=>[pk (aH g m)]) (λ_=> .tuple #[i6 0,i6 52]):=aa.pkZ Tryz.func265 λL k=>by
 obtain⟨e,f,h,rfl⟩:=k;refine⟨[1,2,3],λ_=>[bQ e m.N,fa f m.Q,dq h m.K],?_,rfl,λE=>⟨rfl,rfl,⟨_,_,_,rfl⟩⟩⟩;have j:=a.O;have d:=a.ly;have p:=a.np;have n:=a.ll;have l:=a.ld;have o:=a.ls;have q:=a.pg;have s:=a.rk;have t:=d.rp;have r:=j.bd.r8;refine fG Tryz.func265 λw u=>r0 [] [(2,i6 0),(3,i6 0)] [] (r0 [(1,.c [0,1,2,3] [1,2,3] (zU g m a e f h))] [(4,iN (dE m)),(5,.bool (dy m))] [] (r0 [] [(12,.bool (!(dy m)))] [] ?_));have i:(!(dy m))=true:=(by rw[b];rfl);exact cT (!(dy m)) i (r0 [] [(2,i6 0),(3,i6 52)] [2,3] (lf ab.zero [1,2,3] [(0,0)] []))
theorem Q7(g:Nat)(m:Mp)(a:bf m)(f:dY m=true):aa Zm 266 #[pt g 0] [pk (aH g m)] [0] (λ_=>[pk (aH g (qx m))]) (λ_=> .tuple #[iN (fl m),i6 0]):=aa.pkZ Tryz.func266 λL k=>by
 obtain⟨b,d,e,rfl⟩:=k;refine⟨[0,1,2,3],λ_=>[ob g #[iN m.R,iN m.S,iN m.B,iN m.M,iN m.C,iN m.G,iN m.res,b,d,e,iN m.P,iN (m.F+1)] 137,bQ b m.N,fa d m.Q,dq e m.K],?_,rfl,λE=>⟨rfl,rfl,⟨_,_,_,rfl⟩⟩⟩;have j:=a.O;have h:=a.ly;have q:=a.np;have o:=a.ll;have n:=a.ld;have p:=a.ls;have r:=a.pg;have u:=a.rk;have v:=h.rp;have t:=j.bd.r8;refine fG Tryz.func266 λw x=>r0 [] [(2,i6 0),(3,i6 0)] [] (r0 [(1,.c [0,1,2,3] [1,2,3] (Fv g m a b d e))] [(4,iN (fl m)),(5,.bool (dY m))] [] (r0 [] [(12,.bool (!(dY m)))] [] ?_));have i:(!(dY m))=false:=(by rw[f];rfl);exact cF (!(dY m)) i (rs [(3,.l 0),(4,ad m.F 1),(7,.s 0)] 0 (ob g #[iN m.R,iN m.S,iN m.B,iN m.M,iN m.C,iN m.G,iN m.res,b,d,e,iN m.P,iN (m.F+1)] 137) (r0 [] [(2,iN (fl m)),(3,i6 0)] [2,3] (lf ab.zero [0,1,2,3] [] [])))
theorem Q8(g:Nat)(m:Mp)(a:bf m)(b:dY m=false):aa Zm 266 #[pt g 0] [pk (aH g m)] [0] (λ_=>[pk (aH g m)]) (λ_=> .tuple #[i6 0,i6 52]):=aa.pkZ Tryz.func266 λL k=>by
 obtain⟨e,f,h,rfl⟩:=k;refine⟨[1,2,3],λ_=>[bQ e m.N,fa f m.Q,dq h m.K],?_,rfl,λE=>⟨rfl,rfl,⟨_,_,_,rfl⟩⟩⟩;have j:=a.O;have d:=a.ly;have p:=a.np;have n:=a.ll;have l:=a.ld;have o:=a.ls;have q:=a.pg;have s:=a.rk;have t:=d.rp;have r:=j.bd.r8;refine fG Tryz.func266 λw u=>r0 [] [(2,i6 0),(3,i6 0)] [] (r0 [(1,.c [0,1,2,3] [1,2,3] (Fv g m a e f h))] [(4,iN (fl m)),(5,.bool (dY m))] [] (r0 [] [(12,.bool (!(dY m)))] [] ?_));have i:(!(dY m))=true:=(by rw[b];rfl);exact cT (!(dY m)) i (r0 [] [(2,i6 0),(3,i6 52)] [2,3] (lf ab.zero [1,2,3] [(0,0)] []))
theorem Q9(g:Nat)(m:Mp)(f:bf m)(h t:Nat)(O:h<m.R*m.B*m.M)(K:m.R*m.B*m.M-m.res≤t)(M:t<m.R*m.B*m.M-m.res+m.P)(x:m.Q.getD h false=false)(p:m.Q.getD t false=false)(C:h≠t):aa Zm 245 #[pt g 0,iN h,iN t] [pk (aH g m)] [0] (λ_=>[pk (aH g (kk m h t))]) (λ_=>i6 0):=aa.pkZ Tryz.func245 λL v=>by
 obtain⟨e,d,q,rfl⟩:=v;refine⟨[1,2,3],λ_=>[bQ e (dB m.N h t m.N.length),fa d (m.Q.set h true),dq q m.K],?_,rfl,λE=>⟨rfl,rfl,⟨_,_,_,rfl⟩⟩⟩;have u:=f.O;have n:=f.ly;have D:=f.np;have A:=f.ll;have z:=f.ld;have B:=f.ls;have F:=f.pg;have H:=f.rk;have J:=n.rp;have G:=u.bd.r8;refine fG Tryz.func245 λw N=>r0 [] [(6,i6 0)] [] (rF [(4,.m (ld 0 (d))),(5,fu kL d m.Q 2),(6,.c [] [] (pq h m.Q.length Om)),(13,.m (ls 0 ([iN m.R,iN m.S,iN m.B,iN m.M,iN m.C,iN m.G,iN m.res]))),(14,.c [] [] (qy m.R m.S m.B m.M m.C m.G m.res n)),(15,.t (tb (a:=iN t) (b:=iN (((m.R*m.B)*m.M)-m.res)) λ_ _ _ _=>ma (a:=t) (b:=((m.R*m.B)*m.M)-m.res) Om Om)),(19,.m (ld 0 (iN m.P))),(20,.c [] [] (pq (t-(((m.R*m.B)*m.M)-m.res)) m.P Om)),] 9 (r0 [(3,.m (ld 0 (d))),(5,cO kL d m.Q 2 h),(6,e7 kL d m.Q 2 h 0),(11,.m (ld 0 (d))),(13,cO kL d m.Q 2 t),(14,e7 kL d m.Q 2 t 0),] [(33,.bool (((m.Q.getD h false)||(m.Q.getD t false))||((h:Int)==(t:Int))))] [] ?_));have r:(((m.Q.getD h false)||(m.Q.getD t false))||((h:Int)==(t:Int)))=false:=by rw[x,p];simpa using(show(h:Int)≠(t:Int) by omega)
 refine cF (((m.Q.getD h false)||(m.Q.getD t false))||((h:Int)==(t:Int))) r (rs [(3,.l 0),(5,cO kL d m.Q 2 h),(6,sn kL d m.Q 2 h 0 true (.bool true) Kr)] 2 (fa d (m.Q.set h true)) (r0 [(3,.l 0),(4,fu cu e m.N 1)] [(64,e),(65,iN m.N.length),(66,i6 0)] [] ?_));refine lq (λk=>k≤m.N.length) (λk=>[(66,iN k)]) (λk L=>L.set 1 (bQ e (dB m.N h t k))) (λk=>m.N.length-k) 0 Om Kr (by rw[QV];kernel_rfl) (λk y=>?_);have I:=Fm m.N h t k;refine r0 [] [(67,.bool (decide ((k:Int)<(m.N.length:Int))))] [] ?_;refine cj (k:Int) (m.N.length:Int) (λs o=>?_) λs o=>?_
 ·refine r0 [(1,cO cu e (dB m.N h t k) 1 k),(2,e7 cu e (dB m.N h t k) 1 k 0)] [(7,iN k),(8,iN ((dB m.N h t k).getD k 0))] [] (r0 [] [(73,.bool (((((dB m.N h t k).getD k 0):Nat):Int)==(h:Int)))] [] ?_);refine cJ (((((dB m.N h t k).getD k 0):Nat):Int)==(h:Int)) N0 (λc=>[ob g #[iN m.R,iN m.S,iN m.B,iN m.M,iN m.C,iN m.G,iN m.res,e,d,q,iN m.P,iN m.F] 137,bQ e (bif c then(dB m.N h t k).set k t else dB m.N h t k),fa d (m.Q.set h true),dq q m.K]) (λi=>?_) (λi=>?_) ?_
  ·have j:=eq_of_beq i;refine rs [(3,.l 0),(6,cO cu e (dB m.N h t k) 1 k),(7,sn cu e (dB m.N h t k) 1 k 0 t (iN t) Kr)] 1 (bQ e ((dB m.N h t k).set k t)) ?_;exact cm Kr [0,1,2,3] Kr
  ·have j:=ne_of_beq_false i;exact cm Kr [0,1,2,3] Kr
  exact r0 [(0,ad k 1)] [(66,iN (k+1))] [66] (le (k+1) Om Om Kr [0,1,2,3] (by rw[←QZ Om];kernel_rfl))
 obtain rfl:m.N.length=k:=by omega
 exact lx (r0 [] [(6,i6 0)] [6] (lf ab.zero [1,2,3] [(0,0)] []))
theorem Ra(g:Nat)(m:Mp)(d:bf m)(r t:Nat)(C:r<m.R)(x:m.R≤t)(y:t<m.R+m.F)(hs:dD m r=false):aa Zm 246 #[pt g 0,iN r,iN t] [pk (aH g m)] [0] (λ_=>[pk (aH g (jr m r t))]) (λ_=>i6 0):=aa.pkZ Tryz.func246 λL j=>by
 obtain⟨z,A,e,rfl⟩:=j;refine⟨[1,2,3],λ_=>[bQ z m.N,fa A m.Q,dq e (m.K.set r (t:Int))],?_,rfl,λE=>⟨rfl,rfl,⟨_,_,_,rfl⟩⟩⟩;have i:=d.O;have f:=d.ly;have p:=d.np;have n:=d.ll;have k:=d.ld;have o:=d.ls;have q:=d.pg;have u:=d.rk;have v:=f.rp;have s:=i.bd.r8;refine fG Tryz.func246 λw B=>r0 [] [(6,i6 0)] [] (rF [(4,.m (ld 0 (e))),(5,fu kI e m.K 3),(6,.c [] [] (pq r m.K.length Om)),(15,.m (ld 0 (iN m.R))),(16,.t (tb (a:=iN t) (b:=iN m.R) λ_ _ _ _=>ma (a:=t) (b:=m.R) Om Om)),(20,.m (ld 0 (iN m.F))),(21,.c [] [] (pq (t-m.R) m.F Om)),] 7 (r0 [(3,.l 0),(5,cO kI e m.K 3 r),(6,e7 kI e m.K 3 r 0)] [(32,.bool ((m.K.getD r 0) != (-1)))] [] ?_));have h:((m.K.getD r 0) != (-1))=false:=by exact hs
 exact cF ((m.K.getD r 0) != (-1)) h (rs [(3,.l 0),(6,cO kI e m.K 3 r),(7,sn kI e m.K 3 r 0 (t:Int) (iN t) Kr)] 3 (dq e (m.K.set r (t:Int))) (r0 [] [(6,i6 0)] [6] (lf ab.zero [1,2,3] [(0,0)] [])))
theorem Rb(R S B M C way res:Nat)(hly:iB R S B M C way res):aa Zm 175 #[.agg #[iN R,iN S,iN B,iN M,iN C,iN way,iN res]] [] [] (λE=>[ob (E.y 0) #[iN R,iN S,iN B,iN M,iN C,iN way,iN res,(E.val 0),(E.val 1),(E.val 2),i6 0,i6 0] 137,bQ (E.val 0) (Zn (R*B*M-res)),fa (E.val 1) (Zp ((R*B)*M) false),dq (E.val 2) (Zp R (-1))]) (λE=> .tuple #[pt ((E.y 0)) 0,i6 0]):=by
 have hG:=hly.O
 have hrp:=hly.rp
 have hnp:=hG.bd.rbm
 have hway:=hly.G
 have hr64:=hly.r64
 have hlines:=hG.bd.r8
 refine fG Tryz.func175 λw cs=>ra (λq1=>[(1,pt (B0 q1) 0),(2,.pointer none),(3,i6 0)]) (λq1=>[ob (B0 q1) #[iN R,iN S,iN B,iN M,iN C,iN way,iN res] 25]) λq1=>rF [(0,.l 0),(1,.c [] [] (Fp R S B M C way res hly))] 8 (rr (λ_=>[(0,.l 0),(2,.l 0),(3,.c [] [] (mL R S B M C hG)),(4,sC kL 1 ((R*B)*M))]) (λq3=>[(4,pt (B6 q3) 0)]) [] (λq3 L=>L++[fa (.slice (some ⟨(q3 4).y 0,0,none⟩) ((R*B)*M) ((R*B)*M)) (Zp ((R*B)*M) false),ob (B6 q3) #[iN R,iN S,iN B,iN M,iN C,iN way,iN res,.slice none 0 0,.slice (some ⟨(q3 4).y 0,0,none⟩) ((R*B)*M) ((R*B)*M),.slice none 0 0,i6 0,i6 0] 137]) λq3=>r0 [(0,.l 0),(1,.c [] [] (qy R S B M C way res hly))] [(17,iN (((R*B)*M)-res)),(18,i6 0)] [] (cz cu ?_))
 refine na (λk _=>k≤(R*B*M-res)) (λk _=>[(18,iN k)]) (λk vC4_7 L=>(L.set 2 (ob (B6 q3) #[iN R,iN S,iN B,iN M,iN C,iN way,iN res,vC4_7,.slice (some ⟨(q3 4).y 0,0,none⟩) ((R*B)*M) ((R*B)*M),.slice none 0 0,i6 0,i6 0] 137)).set 3 (bQ vC4_7 (Zn k))) (λk _=>(R*B*M-res)-k) 0 (.slice none 0 0) Om Kr Kr (λk vC4_7 hk5=>?_)
 have hkl:(Zn k).length=k:=ZB
 refine r0 [] [(19,.bool (decide ((k:Int)<((((R*B)*M)-res:Nat):Int))))] [] ?_
 refine cj (k:Int) ((((R*B)*M)-res:Nat):Int) (λh7 dh7=>?_) λh7 dh7=>?_
 ·exact r0 [] [(5,iN k)] [] (rr (λq9=>[(4,.l 2),(6,.m (bs 4 1)),(7,fC cu (vC4_7) (Zn k) 3 4 ([k])),(10,.m (fS 2 3 (bQ ((q9 7).val 0) ((Zn k)++([k]))) ((q9 7).val 0) λbs h=>ar.one ((λ_ h=>h) bs h)))]) N0 [] (λq9 L=>(L.set 2 (ob (B6 q3) #[iN R,iN S,iN B,iN M,iN C,iN way,iN res,(q9 7).val 0,.slice (some ⟨(q3 4).y 0,0,none⟩) ((R*B)*M) ((R*B)*M),.slice none 0 0,i6 0,i6 0] 137)).set 3 (bQ ((q9 7).val 0) ((Zn k)++([k])))++[ob (B6 q9) #[iN k] 3]) λq9=>r0 [(0,ad k 1)] [(18,iN (k+1))] [18] (l8 (k+1) ((q9 7).val 0) Om Om Kr [0,1,2,3] (by rw[ZV];kernel_rfl)))
 obtain rfl:k=(R*B*M-res):=by omega
 refine l9 ?_
 refine r0 [(2,.l 0)] [(34,iN R),(35,i6 0)] [] (cz kI ?_)
 refine na (λj _=>j≤R) (λj _=>[(35,iN j)]) (λj vC4_9 L=>(L.set 2 (ob (B6 q3) #[iN R,iN S,iN B,iN M,iN C,iN way,iN res,vC4_7,.slice (some ⟨(q3 4).y 0,0,none⟩) ((R*B)*M) ((R*B)*M),vC4_9,i6 0,i6 0] 137)).set 4 (dq vC4_9 (Zp j (-1)))) (λj _=>R-j) 0 (.slice none 0 0) Om Kr Kr (λj vC4_9 hk12=>?_)
 have hjl:(Zp j (-1:Int)).length=j:=ZG
 refine r0 [] [(36,.bool (decide ((j:Int)<(R:Int))))] [] ?_
 refine cj (j:Int) (R:Int) (λh14 dh14=>?_) λh14 dh14=>?_
 ·exact rr (λq15=>[(4,.l 2),(5,.m (bs 5 1)),(6,fC kI (vC4_9) (Zp j (-1)) 4 5 ([(-1)])),(9,.m (fS 2 4 (dq ((q15 6).val 0) ((Zp j (-1))++([(-1)]))) ((q15 6).val 0) λbs h=>ar.one ((λ_ h=>h) bs h)))]) N0 [] (λq15 L=>(L.set 2 (ob (B6 q3) #[iN R,iN S,iN B,iN M,iN C,iN way,iN res,vC4_7,.slice (some ⟨(q3 4).y 0,0,none⟩) ((R*B)*M) ((R*B)*M),(q15 6).val 0,i6 0,i6 0] 137)).set 4 (dq ((q15 6).val 0) ((Zp j (-1))++([(-1)])))++[ob (B5 q15) #[i6 (-1)] 3]) λq15=>r0 [(0,ad j 1)] [(35,iN (j+1))] [35] (l8 (j+1) ((q15 6).val 0) Om Om Kr [0,1,2,3,4] (by rw[List.replicate_succ'];kernel_rfl))
 obtain rfl:R=j:=by omega
 refine l9 ?_
 exact r0 [] [(2,pt (B6 q3) 0),(3,i6 0)] [2,3] (lf (.l [(q3 6).y 0] [] [vC4_7,.slice (some ⟨(q3 4).y 0,0,none⟩) ((R*B)*M) ((R*B)*M),vC4_9]) [2,3,1,4] [] [])
theorem Rc(R S B M C way a:Nat)(b:iB R S B M C way a):aa Zm 175 #[.agg #[iN R,iN S,iN B,iN M,iN C,iN way,iN a]] [] [] (λE=>[pk (aH (E.y 0) (lD R S B M C way a))]) (λE=> .tuple #[pt ((E.y 0)) 0,i6 0]):=(Rb R S B M C way a b).outs λE d c=>s9 ⟨_,_,_,rfl⟩ c
end
section
open Go Go.RowKit Go.Shelf
theorem mh(a b:Nat):((a:Int)==(b:Int))=decide (a=b):=by
 by_cases h:a=b
 ·subst h;rw[cC rfl];exact beq_self_eq_true _
 ·rw[bl h,db];omega
theorem zV(a b:Nat):decide ((a:Int)≤(b:Int))=decide (a≤b):=by
 by_cases h:a≤b
 ·rw[cC h,cC Om]
 ·rw[bl h,bl Om]
structure Jb where
 A:Nat
 fr:Nat
 tg:Nat
 nx:Nat
def km:Jb:=⟨0,0,0,0⟩
def eH(a B M C:Nat):Nat:=match a with
 | 0=>0
 | 1=>C
 | _=>B*M*C
structure oo (m:Mp) (fr t nx:Nat):Prop where
 hf:fr<m.R*m.B*m.M
 ht:t<m.R*m.B*m.M
 ne:fr≠t
 df:m.Q.getD fr false=false
 dt:m.Q.getD t false=false
 t0:m.R*m.B*m.M-m.res≤t
 t1:t<m.R*m.B*m.M-m.res+m.P
 nx:nx≤m.C
 f1:fr<m.R*m.B*m.M-m.res+m.P
structure oq (m:Mp) (fr t nx:Nat):Prop where
 hf:fr<m.R
 hs:dD m fr=false
 t0:m.R≤t
 t1:t<m.R+m.F
 nx:nx≤m.B*m.M*m.C
structure th (m:Mp) (j:Jb):Prop where
 k:j=km∨(j.A=1∧oo m j.fr j.tg j.nx)∨(j.A=2∧oq m j.fr j.tg j.nx)
def iC(m:Mp)(r i:Nat):Nat:=bI r (i/m.C/m.M) (i/m.C%m.M) (i%m.C)
def aU(m:Mp)(a w i:Nat):Nat:=match a with
 | 1=>bB m w*64+i
 | _=>iC m w i
def fm(m:Mp)(n:Nat):Nat:=(dX m.G m.R m.B m.M (aq m n)*m.M+dV m.G m.R m.B m.M (aq m n))*m.C+n%m.C
def aJ(m:Mp)(j:Jb)(n:Nat):Nat:=match j.A with
 | 0=>cM m n
 | 1=>if aq m n=j.fr then(if n%m.C<j.nx then aU m 1 j.tg (n%m.C) else cM m n) else cM m n
 | _=>if aG m.G m.R m.B m.M (aq m n)=j.fr then(if fm m n<j.nx then aU m 2 j.tg (fm m n) else cM m n) else cM m n
section
variable {m:Mp}
theorem ot(h:bf m){r i:Nat}(c:r<m.R+m.S)(b:i<m.B*m.M*m.C):gR m.R m.S m.B m.M m.C r (i/m.C/m.M) (i/m.C%m.M) (i%m.C):=by
 have a:=h.O.bd;refine⟨c,?_,Zx _ a.m1,Zx _ a.c1⟩;exact ZQ (Zt m.B m.M▸ZQ (Zt (m.B*m.M) m.C▸b))
theorem tj(h:bf m){n:Nat}(d:n<(m.R*m.B*m.M-m.res)*m.C):fm m n<m.B*m.M*m.C:=by
 have a:=qv h (nz h d);have e:=Zx n h.O.bd.c1;have b:dX m.G m.R m.B m.M (aq m n)*m.M+dV m.G m.R m.B m.M (aq m n)<m.B*m.M:=by
  have:(dX m.G m.R m.B m.M (aq m n)+1)*m.M≤m.B*m.M:=Zy _ a.h1;rw[aaE] at this;have:=a.h2;omega
 have c:(dX m.G m.R m.B m.M (aq m n)*m.M+dV m.G m.R m.B m.M (aq m n)+1)*m.C≤m.B*m.M*m.C:=Zy _ b;rw[aaE] at c;unfold fm;omega
theorem pr(m:Mp)(n:Nat):cM m n=bI (gH m (aq m n)) (dX m.G m.R m.B m.M (aq m n)) (dV m.G m.R m.B m.M (aq m n)) (n%m.C):=by unfold cM bB bI;omega
theorem qz(h:bf m){n:Nat}(b:n<(m.R*m.B*m.M-m.res)*m.C):gR m.R m.S m.B m.M m.C (gH m (aq m n)) (dX m.G m.R m.B m.M (aq m n)) (dV m.G m.R m.B m.M (aq m n)) (n%m.C):=by
 have a:=qv h (nz h b);exact⟨a.h0,a.h1,a.h2,Zx _ h.O.bd.c1⟩
end
end
section
open Go Go.RowKit Go.Shelf
theorem Fw(i n:Int):aa Zm 187 #[i6 i,i6 n] [] [] N0 (λ_=> .bool (bL i n)):=by
 exact fG Tryz.func187 λw a=>r0 [] [(4,.bool false)] [] (r0 [] [(4,.bool ((decide (0≤i))&&(decide (i<n))))] [4] (ao (.bool ((decide (0≤i))&&(decide (i<n)))) ab.zero bc [] [] []))
theorem ou(i n:Nat)(h:i<n):aa Zm 187 #[iN i,iN n] [] [] N0 (λ_=> .bool true):=by
 have a:=Fw i n;rwa [mc.2 ⟨by omega,by omega⟩] at a
theorem Rd(d t f R S B M C way a:Nat)(c:iB R S B M C way a):aa Zm 188 #[.agg #[i6 0,iN d,iN t,iN f],.agg #[iN R,iN S,iN B,iN M,iN C,iN way,iN a]] [] [] N0 (λ_=>i6 0):=by
 have g:=c.O;have e:=g.bd.bmc;exact fG Tryz.func188 λw h=>ra (λb=>[(2,pt (B0 b) 0),(3,pt (B1 b) 0),(4,i6 0)]) (λb=>[ob (B0 b) #[i6 0,iN d,iN t,iN f] 70,ob (B1 b) #[iN R,iN S,iN B,iN M,iN C,iN way,iN a] 25]) λb=>r0 [(1,.l 0)] [(6,i6 0)] [] (rF [] 7 (rF [] 12 (r0 [] [(4,i6 0)] [4] (lf ab.zero [] [] []))))
theorem zW(d t f R S B M C way a:Nat)(c:iB R S B M C way a):aa Zm 188 #[.agg #[i6 1,iN d,iN t,iN f],.agg #[iN R,iN S,iN B,iN M,iN C,iN way,iN a]] [] [] N0 (λ_=>iN C):=by
 have g:=c.O;have e:=g.bd.bmc;exact fG Tryz.func188 λw h=>ra (λb=>[(2,pt (B0 b) 0),(3,pt (B1 b) 0),(4,i6 0)]) (λb=>[ob (B0 b) #[i6 1,iN d,iN t,iN f] 70,ob (B1 b) #[iN R,iN S,iN B,iN M,iN C,iN way,iN a] 25]) λb=>r0 [(1,.l 0)] [(6,i6 1)] [] (rT [] 7 (r0 [(2,.l 1)] [(4,iN C)] [4] (lf ab.zero [] [] [])))
theorem zX(e t h R S B M C way a:Nat)(d:iB R S B M C way a):aa Zm 188 #[.agg #[i6 2,iN e,iN t,iN h],.agg #[iN R,iN S,iN B,iN M,iN C,iN way,iN a]] [] [] N0 (λ_=>iN ((B*M)*C)):=by
 have f:=d.O;have g:=f.bd.bmc;exact fG Tryz.func188 λw i=>ra (λb=>[(2,pt (B0 b) 0),(3,pt (B1 b) 0),(4,i6 0)]) (λb=>[ob (B0 b) #[i6 2,iN e,iN t,iN h] 70,ob (B1 b) #[iN R,iN S,iN B,iN M,iN C,iN way,iN a] 25]) λb=>r0 [(1,.l 0)] [(6,i6 2)] [] (rF [] 7 (rT [] 12 (r0 [(1,.l 1),(2,.c [] [] (Qu R S B M C f))] [(4,iN ((B*M)*C))] [4] (lf ab.zero [] [] []))))
theorem Rf(f t b R S B M C way a:Nat)(e:iB R S B M C way a):aa Zm 211 #[.agg #[i6 1,iN f,iN t,iN b],.agg #[iN R,iN S,iN B,iN M,iN C,iN way,iN a]] [] [] N0 (λ_=> .bool (decide (b=C))):=by
 have h:=e.O;have g:=h.bd.bmc;exact fG Tryz.func211 λw i=>ra (λd=>[(2,pt (B0 d) 0),(3,pt (B1 d) 0),(4,.bool false)]) (λd=>[ob (B0 d) #[i6 1,iN f,iN t,iN b] 70,ob (B1 d) #[iN R,iN S,iN B,iN M,iN C,iN way,iN a] 25]) λd=>r0 [(1,.m (ld 0 (i6 1))),(5,.m (ld 0 (iN b))),(6,.m (ls 0 ([i6 1,iN f,iN t,iN b]))),(7,.m (ls 1 ([iN R,iN S,iN B,iN M,iN C,iN way,iN a]))),(8,.c [] [] (zW f t b R S B M C way a e)),] [(4,.bool ((b:Int)==(C:Int)))] [4] (ao (.bool ((b:Int)==(C:Int))) ab.zero (by exact ALca Value.bool (mh b C)) [] [] [])
theorem Rg(f t b R S B M C way a:Nat)(e:iB R S B M C way a):aa Zm 211 #[.agg #[i6 2,iN f,iN t,iN b],.agg #[iN R,iN S,iN B,iN M,iN C,iN way,iN a]] [] [] N0 (λ_=> .bool (decide (b=B*M*C))):=by
 have h:=e.O;have g:=h.bd.bmc;exact fG Tryz.func211 λw i=>ra (λd=>[(2,pt (B0 d) 0),(3,pt (B1 d) 0),(4,.bool false)]) (λd=>[ob (B0 d) #[i6 2,iN f,iN t,iN b] 70,ob (B1 d) #[iN R,iN S,iN B,iN M,iN C,iN way,iN a] 25]) λd=>r0 [(1,.m (ld 0 (i6 2))),(5,.m (ld 0 (iN b))),(6,.m (ls 0 ([i6 2,iN f,iN t,iN b]))),(7,.m (ls 1 ([iN R,iN S,iN B,iN M,iN C,iN way,iN a]))),(8,.c [] [] (zX f t b R S B M C way a e)),] [(4,.bool ((b:Int)==(((B*M)*C:Nat):Int)))] [4] (ao (.bool ((b:Int)==(((B*M)*C:Nat):Int))) ab.zero (by exact ALca Value.bool (mh b (B*M*C))) [] [] [])
theorem Rh(g:Nat)(m:Mp)(d:bf m)(a t h:Nat)(e:oo m a t h):aa Zm 222 #[.agg #[i6 1,iN a,iN t,iN h],pt g 0] [pk (aH g m)] [0] (λ_=>[pk (aH g m)]) (λ_=> .bool true):=by
 have b:=d.O;have p:=d.ly;have r:=d.np;have i:=b.bd.bmc;have k:=b.bd.c1;have q:=b.bd.m1;have j:=b.bd.c64;have s:=b.bd.r8;have l:=e.hf;have n:=e.ht;have o:=e.ne;exact fG Tryz.func222 λw u=>ra (λf=>[(2,pt (B0 f) 0),(4,.bool false)]) (λf=>[ob (B0 f) #[i6 1,iN a,iN t,iN h] 70]) λf=>r0 [(1,.c [0] [0] (jt g m d)),(3,.c [] [] (mL m.R m.S m.B m.M m.C b))] [(5,iN ((m.R*m.B)*m.M))] [] (r0 [(1,.m (ld 1 (iN a))),(3,.c [] [] (ou a ((m.R*m.B)*m.M) Om)),(6,.m (ld 1 (iN t))),(8,.c [] [] (ou t ((m.R*m.B)*m.M) Om)),(12,.m (ld 1 (iN a))),(14,.m (ld 1 (iN t))),(15,.t (tk (show Value.bool ((a:Int) != (t:Int))= .bool true from ALca Value.bool (by simp;omega)))),(20,.m (ld 1 (iN a))),(21,.c [0] [0] (aa.v ((zS g m d a Om)) λ_=>ALca Value.bool (show((m.Q.getD a false))=false from(by exact e.df)))),(27,.m (ld 1 (iN t))),(28,.c [0] [0] (aa.v ((zS g m d t Om)) λ_=>ALca Value.bool (show((m.Q.getD t false))=false from(by exact e.dt)))),] [(4,.bool true)] [4] (lf ab.zero [0] [] []))
theorem Ri(g:Nat)(m:Mp)(e:bf m)(d t k:Nat)(h:oq m d t k):aa Zm 223 #[.agg #[i6 2,iN d,iN t,iN k],pt g 0] [pk (aH g m)] [0] (λ_=>[pk (aH g m)]) (λ_=> .bool true):=by
 have f:=e.O;have x:=e.ly;have z:=e.np;have n:=f.bd.bmc;have p:=f.bd.c1;have y:=f.bd.m1;have o:=f.bd.c64;have A:=f.bd.r8;have q:=h.hf;have r:=h.t0;have u:=h.t1;have v:=e.rk;exact fG Tryz.func223 λw B=>ra (λi=>[(2,pt (B0 i) 0),(4,.bool false)]) (λi=>[ob (B0 i) #[i6 2,iN d,iN t,iN k] 70]) λi=>rr (λ_=>[(1,.c [0] [0] (jt g m e)),(4,.s 2)]) (λj=>[(5,pt (B3 j) 0)]) [] (λj L=>L++[ob (B3 j) #[iN m.R,iN m.S,iN m.B,iN m.M,iN m.C] 23]) λj=>r0 [(2,.l 1),(3,.c [0] [0] (Fs g m e d Om))] [(7,.bool (dD m d))] [] (r0 [(1,.m (ld 1 (iN d))),(3,.m (ld 2 (iN m.R))),(4,.c [] [] (ou d m.R Om)),(11,.m (ld 1 (iN t))),(13,.m (ld 2 (iN m.R))),(14,.t (tb (a:=iN t) (b:=iN m.R) λ_ _ _ _=>ma (a:=t) (b:=m.R) Om Om)),(16,.m (ld 2 (iN m.S))),(17,.c [] [] (ou (t-m.R) m.S Om))] [(4,.bool ((!(dD m d))&&true))] [4] (ao (.bool ((!(dD m d))&&true)) ab.zero (by rw[h.hs];rfl) [0] [] []))
theorem Rj(g:Nat)(m:Mp)(b:bf m):aa Zm 186 #[.agg #[i6 0,i6 0,i6 0,i6 0],pt g 0] [pk (aH g m)] [0] (λ_=>[pk (aH g m)]) (λ_=> .bool true):=by
 have a:=b.O;have f:=b.ly;have n:=b.np;have h:=a.bd.bmc;have j:=a.bd.c1;have k:=a.bd.m1;have i:=a.bd.c64;have o:=a.bd.r8;exact fG Tryz.func186 λw p=>ra (λd=>[(2,pt (B0 d) 0),(4,.bool false)]) (λd=>[ob (B0 d) #[i6 0,i6 0,i6 0,i6 0] 70]) λd=>r0 [(1,.l 1),(2,.l 1),(4,.c [0] [0] (jt g m b)),(5,.c [] [] (Rd 0 0 0 m.R m.S m.B m.M m.C m.G m.res f)),(7,.c [] [] (Fw 0 1))] [(5,.bool (bL 0 1))] [] (r0 [(1,.l 1)] [(15,i6 0)] [] (rT [] 16 (r0 [(0,.l 1),(2,.e)] [(4,.bool (0==0&&(0==0&&(0==0&&(0==0&&true)))))] [4] (ao (.bool (0==0&&(0==0&&(0==0&&(0==0&&true))))) ab.zero bc [0] [] []))))
theorem Fx(g:Nat)(m:Mp)(e:bf m)(b t a:Nat)(k:oo m b t a):aa Zm 186 #[.agg #[i6 1,iN b,iN t,iN a],pt g 0] [pk (aH g m)] [0] (λ_=>[pk (aH g m)]) (λ_=> .bool true):=by
 have d:=e.O;have h:=e.ly;have q:=e.np;have i:=d.bd.bmc;have n:=d.bd.c1;have p:=d.bd.m1;have j:=d.bd.c64;have r:=d.bd.r8;have o:=k.nx;exact fG Tryz.func186 λw s=>ra (λf=>[(2,pt (B0 f) 0),(4,.bool false)]) (λf=>[ob (B0 f) #[i6 1,iN b,iN t,iN a] 70]) λf=>r0 [(1,.l 1),(2,.l 1),(4,.c [0] [0] (jt g m e)),(5,.c [] [] (zW b t a m.R m.S m.B m.M m.C m.G m.res h)),(6,ad m.C 1),(7,.c [] [] (ou a (m.C+1) Om))] [(5,.bool true)] [] (r0 [(1,.l 1)] [(15,i6 1)] [] (rF [] 16 (rT [] 21 (r0 [(2,.l 1),(4,.c [0] [0] (Rh g m e b t a k))] [(4,.bool true)] [4] (lf ab.zero [0] [] [])))))
theorem Fy(g:Nat)(m:Mp)(e:bf m)(b t a:Nat)(k:oq m b t a):aa Zm 186 #[.agg #[i6 2,iN b,iN t,iN a],pt g 0] [pk (aH g m)] [0] (λ_=>[pk (aH g m)]) (λ_=> .bool true):=by
 have d:=e.O;have h:=e.ly;have q:=e.np;have i:=d.bd.bmc;have n:=d.bd.c1;have p:=d.bd.m1;have j:=d.bd.c64;have r:=d.bd.r8;have o:=k.nx;exact fG Tryz.func186 λw s=>ra (λf=>[(2,pt (B0 f) 0),(4,.bool false)]) (λf=>[ob (B0 f) #[i6 2,iN b,iN t,iN a] 70]) λf=>r0 [(1,.l 1),(2,.l 1),(4,.c [0] [0] (jt g m e)),(5,.c [] [] (zX b t a m.R m.S m.B m.M m.C m.G m.res h)),(6,ad ((m.B*m.M)*m.C) 1),(7,.c [] [] (ou a (((m.B*m.M)*m.C)+1) Om))] [(5,.bool true)] [] (r0 [(1,.l 1)] [(15,i6 2)] [] (rF [] 16 (rF [] 21 (rT [] 29 (r0 [(2,.l 1),(4,.c [0] [0] (Ri g m e b t a k))] [(4,.bool true)] [4] (lf ab.zero [0] [] []))))))
theorem Rk(m:Mp)(j:bf m)(r i:Nat)(q:r<m.R+m.S)(o:i<m.B*m.M*m.C):aa Zm 189 #[.agg #[iN m.R,iN m.S,iN m.B,iN m.M,iN m.C],iN r,iN i] [] [] N0 (λ_=> .tuple #[iN (iC m r i),i6 0]):=by
 have f:=j.O;have h:=f.bd.bmc;have k:=f.bd.c1;have p:=f.bd.m1;have n:=aa8 i m.C;exact fG Tryz.func189 λw u=>ra (λg=>[(3,pt (B0 g) 0),(6,i6 0),(7,i6 0)]) (λg=>[ob (B0 g) #[iN m.R,iN m.S,iN m.B,iN m.M,iN m.C] 23]) λg=>rr (λ_=>[(3,.l 0),(4,.t (tb (a:=iN i) (b:=iN m.C) λ_ _ _ _=>nZ (a:=i) (d:=m.C) Om)),(7,.s 1)]) (λe=>[(8,pt (B6 e) 0)]) [] (λe L=>L++[ob (B6 e) #[iN r,i6 0,i6 0,iN (i%m.C)] 46]) λe=>r0 [(2,.l 0),(3,.t (tb (a:=iN i) (b:=iN m.C) λ_ _ _ _=>oR (a:=i) (d:=m.C) Om Om))] [(2,iN (i/m.C))] [2] (rs [(2,.m (ld 0 (iN m.M))),(3,.t (tb (a:=iN (i/m.C)) (b:=iN m.M) λ_ _ _ _=>nZ (a:=i/m.C) (d:=m.M) Om)),(6,.m (ld 0 (iN m.M))),(7,.t (tb (a:=iN (i/m.C)) (b:=iN m.M) λ_ _ _ _=>oR (a:=i/m.C) (d:=m.M) Om Om)),(9,.s 1),(11,.s 1)] 1 (ob (B6 e) #[iN r,iN ((i/m.C)/m.M),iN ((i/m.C)%m.M),iN (i%m.C)] 46) (r0 [(0,.l 0),(1,.l 1),(2,.c [] [] (td f (ot j q o)))] [(6,iN (bI r ((i/m.C)/m.M) ((i/m.C)%m.M) (i%m.C))),(7,i6 0)] [6,7] (ao (.tuple #[iN (bI r ((i/m.C)/m.M) ((i/m.C)%m.M) (i%m.C)),i6 0]) ab.zero bc [] [] [])))
theorem Fz(g:Nat)(m:Mp)(d:bf m)(a t e:Nat)(q:oo m a t e)(p i:Nat)(hp:p<m.R*m.B*m.M)(y:i<m.C):aa Zm 144 #[.agg #[i6 1,iN a,iN t,iN e],pt g 0,iN p,iN i] [pk (aH g m)] [0] (λ_=>[pk (aH g m)]) (λ_=> .tuple #[iN (bB m p*64+i),i6 0]):=by
 have f:=d.O;have j:=d.ly;have u:=d.np;have k:=f.bd.bmc;have o:=f.bd.c1;have s:=f.bd.m1;have n:=f.bd.c64;have v:=f.bd.r8;have r:=vW d hp;exact fG Tryz.func144 λw x=>ra (λh=>[(4,pt (B0 h) 0),(8,i6 0),(9,i6 0)]) (λh=>[ob (B0 h) #[i6 1,iN a,iN t,iN e] 70]) λh=>rF [(0,.m (ls 1 ([i6 1,iN a,iN t,iN e]))),(2,.c [0] [0] (Fx g m d a t e q)),(6,.m (ls 1 ([i6 1,iN a,iN t,iN e]))),(8,.c [0] [0] (jt g m d)),(9,.c [] [] (zW a t e m.R m.S m.B m.M m.C m.G m.res j)),(10,.c [] [] (ou i m.C Om))] 24 (rF [(1,.l 1)] 27 (r0 [(2,.c [0] [0] (Fu g m d p Om))] [(10,iN (bB m p)),(11,i6 0)] [] (rF [] 43 (r0 [(1,.t (tv (av .shl 3 (.tmp 45) (.const (u6 6)) (iN (bB m p)) (u6 6)) (λ_=>dM (b:=((bB m p*64:Nat):Int)) (fU 6 Dc Om Om) Om))),(3,.t (tv (av .or 3 (.tmp 46) (.tmp 47) (iN (bB m p*64)) (iN i)) (λ_=>dM (b:=((bB m p*64+i:Nat):Int)) (sA 6 64 rfl Om Om Om Om Om) Om)))] [(8,iN (bB m p*64+i)),(9,i6 0)] [8,9] (lf ab.zero [0] [] [])))))
theorem FA(g:Nat)(m:Mp)(b:bf m)(a t d:Nat)(o:oq m a t d)(r i:Nat)(x:r<m.R+m.S)(v:i<m.B*m.M*m.C):aa Zm 144 #[.agg #[i6 2,iN a,iN t,iN d],pt g 0,iN r,iN i] [pk (aH g m)] [0] (λ_=>[pk (aH g m)]) (λ_=> .tuple #[iN (iC m r i),i6 0]):=by
 have e:=b.O;have h:=b.ly;have q:=b.np;have j:=e.bd.bmc;have n:=e.bd.c1;have p:=e.bd.m1;have k:=e.bd.c64;have s:=e.bd.r8;exact fG Tryz.func144 λw u=>ra (λf=>[(4,pt (B0 f) 0),(8,i6 0),(9,i6 0)]) (λf=>[ob (B0 f) #[i6 2,iN a,iN t,iN d] 70]) λf=>rF [(0,.m (ls 1 ([i6 2,iN a,iN t,iN d]))),(2,.c [0] [0] (Fy g m b a t d o)),(6,.m (ls 1 ([i6 2,iN a,iN t,iN d]))),(8,.c [0] [0] (jt g m b)),(9,.c [] [] (zX a t d m.R m.S m.B m.M m.C m.G m.res h)),(10,.c [] [] (ou i ((m.B*m.M)*m.C) Om))] 24 (rT [(1,.l 1)] 27 (r0 [(1,.c [0] [0] (jt g m b)),(5,.c [] [] (Rk m b r i Om Om))] [(8,iN (iC m r i)),(9,i6 0)] [8,9] (lf ab.zero [0] [] [])))
theorem Rl(g:Nat)(m:Mp)(d:bf m)(a t e:Nat)(k:oo m a t e)(i:Nat)(v:i<m.C):aa Zm 119 #[.agg #[i6 1,iN a,iN t,iN e],pt g 0,iN i] [pk (aH g m)] [0] (λ_=>[pk (aH g m)]) (λ_=> .tuple #[iN (bB m a*64+i),i6 0]):=by
 have b:=d.O;have p:=d.ly;have r:=d.np;have h:=b.bd.bmc;have n:=b.bd.c1;have q:=b.bd.m1;have j:=b.bd.c64;have s:=b.bd.r8;have o:=k.hf;exact fG Tryz.func119 λw u=>ra (λf=>[(3,pt (B0 f) 0),(6,i6 0),(7,i6 0)]) (λf=>[ob (B0 f) #[i6 1,iN a,iN t,iN e] 70]) λf=>r0 [(0,.l 1),(3,.l 1),(5,.c [0] [0] (Fz g m d a t e k a i Om Om))] [(6,iN (bB m a*64+i)),(7,i6 0)] [6,7] (lf ab.zero [0] [] [])
theorem Rm(g:Nat)(m:Mp)(d:bf m)(a t e:Nat)(k:oq m a t e)(i:Nat)(v:i<m.B*m.M*m.C):aa Zm 119 #[.agg #[i6 2,iN a,iN t,iN e],pt g 0,iN i] [pk (aH g m)] [0] (λ_=>[pk (aH g m)]) (λ_=> .tuple #[iN (iC m a i),i6 0]):=by
 have b:=d.O;have p:=d.ly;have r:=d.np;have h:=b.bd.bmc;have n:=b.bd.c1;have q:=b.bd.m1;have j:=b.bd.c64;have s:=b.bd.r8;have o:=k.hf;exact fG Tryz.func119 λw u=>ra (λf=>[(3,pt (B0 f) 0),(6,i6 0),(7,i6 0)]) (λf=>[ob (B0 f) #[i6 2,iN a,iN t,iN e] 70]) λf=>r0 [(0,.l 1),(3,.l 1),(5,.c [0] [0] (FA g m d a t e k a i Om Om))] [(6,iN (iC m a i)),(7,i6 0)] [6,7] (lf ab.zero [0] [] [])
theorem FB(g:Nat)(m:Mp)(d:bf m)(b t e:Nat)(k:oo m b t e)(i:Nat)(v:i<m.C):aa Zm 120 #[.agg #[i6 1,iN b,iN t,iN e],pt g 0,iN i] [pk (aH g m)] [0] (λ_=>[pk (aH g m)]) (λ_=> .tuple #[iN (bB m t*64+i),i6 0]):=by
 have a:=d.O;have p:=d.ly;have r:=d.np;have h:=a.bd.bmc;have n:=a.bd.c1;have q:=a.bd.m1;have j:=a.bd.c64;have s:=a.bd.r8;have o:=k.ht;exact fG Tryz.func120 λw u=>ra (λf=>[(3,pt (B0 f) 0),(6,i6 0),(7,i6 0)]) (λf=>[ob (B0 f) #[i6 1,iN b,iN t,iN e] 70]) λf=>r0 [(0,.l 1),(3,.l 1),(5,.c [0] [0] (Fz g m d b t e k t i Om Om))] [(6,iN (bB m t*64+i)),(7,i6 0)] [6,7] (lf ab.zero [0] [] [])
theorem FC(g:Nat)(m:Mp)(b:bf m)(d t e:Nat)(k:oq m d t e)(i:Nat)(x:i<m.B*m.M*m.C):aa Zm 120 #[.agg #[i6 2,iN d,iN t,iN e],pt g 0,iN i] [pk (aH g m)] [0] (λ_=>[pk (aH g m)]) (λ_=> .tuple #[iN (iC m t i),i6 0]):=by
 have a:=b.O;have q:=b.ly;have s:=b.np;have h:=a.bd.bmc;have n:=a.bd.c1;have r:=a.bd.m1;have j:=a.bd.c64;have u:=a.bd.r8;have o:=k.t1;have p:=b.rk;exact fG Tryz.func120 λw v=>ra (λf=>[(3,pt (B0 f) 0),(6,i6 0),(7,i6 0)]) (λf=>[ob (B0 f) #[i6 2,iN d,iN t,iN e] 70]) λf=>r0 [(0,.l 1),(3,.l 1),(5,.c [0] [0] (FA g m b d t e k t i Om Om))] [(6,iN (iC m t i)),(7,i6 0)] [6,7] (lf ab.zero [0] [] [])
theorem Rn(m:Mp)(f:bf m)(n:Nat)(h:n<(m.R*m.B*m.M-m.res)*m.C):aa Zm 221 #[.agg #[iN m.R,iN m.S,iN m.B,iN m.M,iN m.C],iN (bI (gH m (aq m n)) (dX m.G m.R m.B m.M (aq m n)) (dV m.G m.R m.B m.M (aq m n)) (n%m.C))] [] [] N0 (λ_=>iN (fm m n)):=by
 have d:=f.O;have g:=d.bd.bmc;have j:(dX m.G m.R m.B m.M (aq m n)*m.M+dV m.G m.R m.B m.M (aq m n))*m.C+n%m.C<m.B*m.M*m.C:=tj f h;have e:=d.bd.c1;have i:=aah (dX m.G m.R m.B m.M (aq m n)*m.M+dV m.G m.R m.B m.M (aq m n)) e;exact fG Tryz.func221 λw k=>ra (λa=>[(2,pt (B0 a) 0),(4,i6 0)]) (λa=>[ob (B0 a) #[iN m.R,iN m.S,iN m.B,iN m.M,iN m.C] 23]) λa=>rr (λ_=>[(0,.l 0),(2,.c [] [] (te d (qz f h))),(7,.s 1)]) (λb=>[(5,pt (B6 b) 0),(6,i6 0)]) [] (λb L=>L++[ob (B6 b) #[iN (gH m (aq m n)),iN (dX m.G m.R m.B m.M (aq m n)),iN (dV m.G m.R m.B m.M (aq m n)),iN (n%m.C)] 46]) λb=>rF [] 14 (r0 [(1,.m (ld 1 (iN (dX m.G m.R m.B m.M (aq m n))))),(3,.m (ld 0 (iN m.M))),(4,ml (dX m.G m.R m.B m.M (aq m n)) m.M),(6,.m (ld 1 (iN (dV m.G m.R m.B m.M (aq m n))))),(7,ad ((dX m.G m.R m.B m.M (aq m n))*m.M) (dV m.G m.R m.B m.M (aq m n))),(9,.m (ld 0 (iN m.C))),(10,ml (((dX m.G m.R m.B m.M (aq m n))*m.M)+(dV m.G m.R m.B m.M (aq m n))) m.C),(12,.m (ld 1 (iN (n%m.C)))),(13,ad ((((dX m.G m.R m.B m.M (aq m n))*m.M)+(dV m.G m.R m.B m.M (aq m n)))*m.C) (n%m.C))] [(4,iN (((((dX m.G m.R m.B m.M (aq m n))*m.M)+(dV m.G m.R m.B m.M (aq m n)))*m.C)+(n%m.C)))] [4] (ao (iN (((((dX m.G m.R m.B m.M (aq m n))*m.M)+(dV m.G m.R m.B m.M (aq m n)))*m.C)+(n%m.C))) ab.zero bc [] [] []))
end
section
open Go Go.RowKit Go.Shelf
theorem Ro(m:Mp)(a:bf m)(n:Nat)(b:n<(m.R*m.B*m.M-m.res)*m.C):aa Zm 221 #[.agg #[iN m.R,iN m.S,iN m.B,iN m.M,iN m.C],iN (cM m n)] [] [] N0 (λ_=>iN (fm m n)):=by
 rw[pr];exact Rn m a n b
theorem Rq(g:Nat)(m:Mp)(a:bf m)(n:Nat)(t:n<(m.R*m.B*m.M-m.res)*m.C):aa Zm 185 #[.agg #[i6 0,i6 0,i6 0,i6 0],pt g 0,iN n] [pk (aH g m)] [0] (λ_=>[pk (aH g m)]) (λ_=> .tuple #[iN (cM m n),iN (aq m n),iN (aG m.G m.R m.B m.M (aq m n)),i6 0]):=by
 have b:=a.O;have k:=a.ly;have p:=a.np;have h:=b.bd.bmc;have j:=b.bd.c1;have o:=b.bd.m1;have i:=b.bd.c64;have q:=b.bd.r8;exact fG Tryz.func185 λw r=>ra (λe=>[(3,pt (B0 e) 0),(6,i6 0),(7,i6 0),(8,i6 0),(9,i6 0)]) (λe=>[ob (B0 e) #[i6 0,i6 0,i6 0,i6 0] 70]) λe=>r0 [(2,.c [0] [0] (zT g m a n Om)),] [(6,iN (cM m n)),(7,iN (aq m n)),(8,iN (aG m.G m.R m.B m.M (aq m n))),(9,i6 0)] [6,7,8,9] (rF [(3,.l 1),(5,.c [0] [0] (Rj g m a))] 27 (rr (λ_=>[(1,.c [0] [0] (jt g m a)),(4,.s 2)]) (λf=>[(10,pt (B3 f) 0)]) [] (λf L=>L++[ob (B3 f) #[iN m.R,iN m.S,iN m.B,iN m.M,iN m.C] 23]) λf=>r0 [] [(11,i6 0)] [] (rF [(1,.l 1),(4,.d),(5,.d),(6,.d),(7,.d)] 39 (rF [(1,.l 1),(4,.d),(5,.d),(6,.d),(7,.d)] 53 (r0 [] [(6,iN (cM m n)),(7,iN (aq m n)),(8,iN (aG m.G m.R m.B m.M (aq m n))),(9,i6 0)] [6,7,8,9] (lf ab.zero [0] [] []))))))
theorem Rr(g:Nat)(m:Mp)(h:bf m)(e t f:Nat)(z:oo m e t f)(n:Nat)(I:n<(m.R*m.B*m.M-m.res)*m.C):aa Zm 185 #[.agg #[i6 1,iN e,iN t,iN f],pt g 0,iN n] [pk (aH g m)] [0] (λ_=>[pk (aH g m)]) (λ_=> .tuple #[iN (aJ m ⟨1,e,t,f⟩ n),iN (aq m n),iN (aG m.G m.R m.B m.M (aq m n)),i6 0]):=by
 have o:=h.O;have C:=h.ly;have F:=h.np;have x:=o.bd.bmc;have v:=o.bd.c1;have D:=o.bd.m1;have y:=o.bd.c64;have G:=o.bd.r8;have A:=Zx n v;refine fG Tryz.func185 λw H=>ra (λp=>[(3,pt (B0 p) 0),(6,i6 0),(7,i6 0),(8,i6 0),(9,i6 0)]) (λp=>[ob (B0 p) #[i6 1,iN e,iN t,iN f] 70]) λp=>r0 [(2,.c [0] [0] (zT g m h n Om)),] [(6,iN (cM m n)),(7,iN (aq m n)),(8,iN (aG m.G m.R m.B m.M (aq m n))),(9,i6 0)] [6,7,8,9] (rF [(3,.l 1),(5,.c [0] [0] (Fx g m h e t f z))] 27 (rr (λ_=>[(1,.c [0] [0] (jt g m h)),(4,.s 2)]) (λq=>[(10,pt (B3 q) 0)]) [] (λq L=>L++[ob (B3 q) #[iN m.R,iN m.S,iN m.B,iN m.M,iN m.C] 23]) λq=>r0 [] [(11,i6 0)] [] (r0 [(1,.l 1),(6,.l 1)] [(39,.bool (((aq m n:Nat):Int)==(e:Int)))] [] ?_)));refine cX ((aq m n:Nat):Int) (e:Int) (λB r=>?_) λB r=>?_
 ·refine r0 [(2,.l 2),(3,.t (tb (a:=iN n) (b:=iN m.C) λ_ _ _ _=>nZ (a:=n) (d:=m.C) Om))] [(11,iN (n%m.C))] [11] (r0 [(2,.l 1)] [(69,.bool (decide (((n%m.C:Nat):Int)<(f:Int))))] [] ?_);refine cj ((n%m.C:Nat):Int) (f:Int) (λu k=>?_) λu k=>?_
  ·exact r0 [(0,.l 1),(3,.c [0] [0] (FB g m h e t f z (n%m.C) Om))] [(6,iN (bB m t*64+(n%m.C))),(9,i6 0)] [6,9] (r0 [] [(6,iN (bB m t*64+(n%m.C))),(7,iN (aq m n)),(8,iN (aG m.G m.R m.B m.M (aq m n))),(9,i6 0)] [6,7,8,9] (ao (.tuple #[iN (bB m t*64+(n%m.C)),iN (aq m n),iN (aG m.G m.R m.B m.M (aq m n)),i6 0]) ab.zero (by by_cases i:aq m n=e<;>by_cases j:n%m.C<f<;>first | (exfalso;omega) | (simp [aJ,aU,i,j])) [0] [] []))
  exact r0 [] [(6,iN (cM m n)),(7,iN (aq m n)),(8,iN (aG m.G m.R m.B m.M (aq m n))),(9,i6 0)] [6,7,8,9] (ao (.tuple #[iN (cM m n),iN (aq m n),iN (aG m.G m.R m.B m.M (aq m n)),i6 0]) ab.zero (by by_cases i:aq m n=e<;>by_cases j:n%m.C<f<;>first | (exfalso;omega) | (simp [aJ,aU,i,j])) [0] [] [])
 exact rF [(1,.l 1),(4,.d),(5,.d),(6,.d),(7,.d)] 53 (r0 [] [(6,iN (cM m n)),(7,iN (aq m n)),(8,iN (aG m.G m.R m.B m.M (aq m n))),(9,i6 0)] [6,7,8,9] (ao (.tuple #[iN (cM m n),iN (aq m n),iN (aG m.G m.R m.B m.M (aq m n)),i6 0]) ab.zero (by by_cases i:aq m n=e<;>by_cases j:n%m.C<f<;>first | (exfalso;omega) | (simp [aJ,aU,i,j])) [0] [] []))
theorem Rs(g:Nat)(m:Mp)(e:bf m)(a t b:Nat)(v:oq m a t b)(n:Nat)(B:n<(m.R*m.B*m.M-m.res)*m.C):aa Zm 185 #[.agg #[i6 2,iN a,iN t,iN b],pt g 0,iN n] [pk (aH g m)] [0] (λ_=>[pk (aH g m)]) (λ_=> .tuple #[iN (aJ m ⟨2,a,t,b⟩ n),iN (aq m n),iN (aG m.G m.R m.B m.M (aq m n)),i6 0]):=by
 have j:=e.O;have z:=e.ly;have C:=e.np;have r:=j.bd.bmc;have y:=j.bd.c1;have A:=j.bd.m1;have u:=j.bd.c64;have F:=j.bd.r8;have D:=tj e B;refine fG Tryz.func185 λw G=>ra (λk=>[(3,pt (B0 k) 0),(6,i6 0),(7,i6 0),(8,i6 0),(9,i6 0)]) (λk=>[ob (B0 k) #[i6 2,iN a,iN t,iN b] 70]) λk=>r0 [(2,.c [0] [0] (zT g m e n Om)),] [(6,iN (cM m n)),(7,iN (aq m n)),(8,iN (aG m.G m.R m.B m.M (aq m n))),(9,i6 0)] [6,7,8,9] (rF [(3,.l 1),(5,.c [0] [0] (Fy g m e a t b v))] 27 (rr (λ_=>[(1,.c [0] [0] (jt g m e)),(4,.s 2)]) (λo=>[(10,pt (B3 o) 0)]) [] (λo L=>L++[ob (B3 o) #[iN m.R,iN m.S,iN m.B,iN m.M,iN m.C] 23]) λo=>r0 [] [(11,i6 0)] [] (rF [(1,.l 1),(4,.d),(5,.d),(6,.d),(7,.d)] 39 (r0 [(1,.l 1),(6,.l 1)] [(53,.bool (((aG m.G m.R m.B m.M (aq m n):Nat):Int)==(a:Int)))] [] ?_))));refine cX ((aG m.G m.R m.B m.M (aq m n):Nat):Int) (a:Int) (λx p=>?_) λx p=>?_
 ·refine r0 [(0,.l 2),(2,.c [] [] (Ro m e n Om))] [(11,iN (fm m n))] [11] (r0 [(2,.l 1)] [(69,.bool (decide (((fm m n:Nat):Int)<(b:Int))))] [] ?_);refine cj ((fm m n:Nat):Int) (b:Int) (λq i=>?_) λq i=>?_
  ·exact r0 [(0,.l 1),(3,.c [0] [0] (FC g m e a t b v (fm m n) Om))] [(6,iN (iC m t (fm m n))),(9,i6 0)] [6,9] (r0 [] [(6,iN (iC m t (fm m n))),(7,iN (aq m n)),(8,iN (aG m.G m.R m.B m.M (aq m n))),(9,i6 0)] [6,7,8,9] (ao (.tuple #[iN (iC m t (fm m n)),iN (aq m n),iN (aG m.G m.R m.B m.M (aq m n)),i6 0]) ab.zero (by by_cases f:aG m.G m.R m.B m.M (aq m n)=a<;>by_cases h:fm m n<b<;>first | (exfalso;omega) | (simp [aJ,aU,f,h])) [0] [] []))
  exact r0 [] [(6,iN (cM m n)),(7,iN (aq m n)),(8,iN (aG m.G m.R m.B m.M (aq m n))),(9,i6 0)] [6,7,8,9] (ao (.tuple #[iN (cM m n),iN (aq m n),iN (aG m.G m.R m.B m.M (aq m n)),i6 0]) ab.zero (by by_cases f:aG m.G m.R m.B m.M (aq m n)=a<;>by_cases h:fm m n<b<;>first | (exfalso;omega) | (simp [aJ,aU,f,h])) [0] [] [])
 exact r0 [] [(6,iN (cM m n)),(7,iN (aq m n)),(8,iN (aG m.G m.R m.B m.M (aq m n))),(9,i6 0)] [6,7,8,9] (ao (.tuple #[iN (cM m n),iN (aq m n),iN (aG m.G m.R m.B m.M (aq m n)),i6 0]) ab.zero (by by_cases f:aG m.G m.R m.B m.M (aq m n)=a<;>by_cases h:fm m n<b<;>first | (exfalso;omega) | (simp [aJ,aU,f,h])) [0] [] [])
theorem Ru(g:Nat)(m:Mp)(b:bf m)(j f t k:Nat)(n:Int)(q:bL n (((m.R*m.B*m.M-m.res)*m.C:Nat):Int)=false):aa Zm 185 #[.agg #[iN j,iN f,iN t,iN k],pt g 0,i6 n] [pk (aH g m)] [0] (λ_=>[pk (aH g m)]) (λ_=> .tuple #[i6 0,i6 0,i6 0,i6 12]):=by
 have a:=b.O;have o:=b.ly;have r:=b.np;have h:=a.bd.bmc;have l:=a.bd.c1;have p:=a.bd.m1;have i:=a.bd.c64;have s:=a.bd.r8;exact fG Tryz.func185 λw u=>ra (λe=>[(3,pt (B0 e) 0),(6,i6 0),(7,i6 0),(8,i6 0),(9,i6 0)]) (λe=>[ob (B0 e) #[iN j,iN f,iN t,iN k] 70]) λe=>r0 [(2,.c [0] [0] (Q3 g m b n q)),] [(6,i6 0),(7,i6 0),(8,i6 0),(9,i6 12)] [6,7,8,9] (rT [(3,.d),(4,.d),(5,.d),(6,.d)] 27 (r0 [] [(6,i6 0),(7,i6 0),(8,i6 0),(9,i6 12)] [6,7,8,9] (lf ab.zero [0] [] [])))
theorem Rv(g:Nat)(m:Mp)(b:bf m)(j:Jb)(f:th m j)(n:Nat)(c:n<(m.R*m.B*m.M-m.res)*m.C):aa Zm 185 #[.agg #[iN j.A,iN j.fr,iN j.tg,iN j.nx],pt g 0,iN n] [pk (aH g m)] [0] (λ_=>[pk (aH g m)]) (λ_=> .tuple #[iN (aJ m j n),iN (aq m n),iN (aG m.G m.R m.B m.M (aq m n)),i6 0]):=by
 obtain⟨i,d,t,e⟩:=j;rcases f.k with h | ⟨a,h⟩ | ⟨a,h⟩
 ·cases h;exact Rq g m b n c
 ·cases a;exact Rr g m b d t e h n c
 ·cases a;exact Rs g m b d t e h n c
def kN(m:Mp)(j:Jb):Bool:=decide (j.A≠0)&&decide (j.nx=eH j.A m.B m.M m.C)
theorem FD(m:Mp)(d:bf m)(b a t c:Nat)(e:b=1∨b=2):aa Zm 211 #[.agg #[iN b,iN a,iN t,iN c],.agg #[iN m.R,iN m.S,iN m.B,iN m.M,iN m.C,iN m.G,iN m.res]] [] [] N0 (λ_=> .bool (kN m ⟨b,a,t,c⟩)):=by
 rcases e with rfl | rfl
 ·exact Rf a t c m.R m.S m.B m.M m.C m.G m.res d.ly
 ·exact Rg a t c m.R m.S m.B m.M m.C m.G m.res d.ly
theorem Rw(g:Nat)(m:Mp)(d:bf m)(j:Jb)(f:th m j)(i:Nat)(a:i<eH j.A m.B m.M m.C):aa Zm 119 #[.agg #[iN j.A,iN j.fr,iN j.tg,iN j.nx],pt g 0,iN i] [pk (aH g m)] [0] (λ_=>[pk (aH g m)]) (λ_=> .tuple #[iN (aU m j.A j.fr i),i6 0]):=by
 obtain⟨k,c,t,e⟩:=j;rcases f.k with h | ⟨b,h⟩ | ⟨b,h⟩
 ·cases h;exact absurd a (aal i)
 ·cases b;exact Rl g m d c t e h i a
 ·cases b;exact Rm g m d c t e h i a
theorem Rx(g:Nat)(m:Mp)(d:bf m)(j:Jb)(f:th m j)(i:Nat)(a:i<eH j.A m.B m.M m.C):aa Zm 120 #[.agg #[iN j.A,iN j.fr,iN j.tg,iN j.nx],pt g 0,iN i] [pk (aH g m)] [0] (λ_=>[pk (aH g m)]) (λ_=> .tuple #[iN (aU m j.A j.tg i),i6 0]):=by
 obtain⟨k,c,t,e⟩:=j;rcases f.k with h | ⟨b,h⟩ | ⟨b,h⟩
 ·cases h;exact absurd a (aal i)
 ·cases b;exact FB g m d c t e h i a
 ·cases b;exact FC g m d c t e h i a
end
section
open Go Go.RowKit Go.Shelf
structure Ak where
 k:Nat
 w:Nat
deriving DecidableEq
def aN:Ak:=⟨0,0⟩
def tm(x:Ak):List Value:=[iN x.k,iN x.w]
def mN:Kd Zm Ak:=⟨tm,[i6 0,i6 0],351,285,aN,2,λ_=>rfl,rfl,λ_=>rfl,ec.mk' Kr Kr rfl⟩
abbrev fo(v:Value)(xs:List Ak):aB:= .p (ar tm ([i6 0,i6 0]) 285 v xs)
def mO(arr:List Ak)(a i:Nat):Ak:=arr.getD ((a+i)%arr.length) aN
def pv(arr:List Ak)(a n:Nat)(x:Ak):Bool:=(Zn n).any λj=>decide (mO arr a j=x)
theorem FE{arr:List Ak}{a n:Nat}{x:Ak}{j:Nat}(b:j<n)(e:mO arr a j=x):pv arr a n x=true:=List.any_eq_true.2 ⟨j,List.mem_range.2 b,cC e⟩
theorem FF{arr:List Ak}{a n:Nat}{x:Ak}(h: ∀j,j<n→mO arr a j≠x):pv arr a n x=false:=List.any_eq_false.2 λj b=>by simpa using h j (List.mem_range.1 b)
theorem Ry{x y:Ak}(h:((((x.k:Nat):Int)==((y.k:Nat):Int))&&((((x.w:Nat):Int)==((y.w:Nat):Int))&&true))=true):y=x:=by
 rw[aa9,mh,mh,Zv,decide_eq_true_eq,decide_eq_true_eq] at h;obtain⟨a,b⟩:=x;obtain⟨c,d⟩:=y;simp only at h;rw[h.1,h.2]
theorem Rz{x y:Ak}(h:((((x.k:Nat):Int)==((y.k:Nat):Int))&&((((x.w:Nat):Int)==((y.w:Nat):Int))&&true))=false):y≠x:=by
 intro e;subst e;rw[aa9,mh,mh,cC rfl,cC rfl] at h;cases h
theorem zY{P:Nat→Prop}{k:Nat}(h: ∀j,j<k→P j)(h1:P k): ∀j,j<k+1→P j:=λj c=>by
 rcases Nat.lt_succ_iff_lt_or_eq.1 c with b | rfl
 ·exact h j b
 ·exact h1
structure ju (arr:List Ak) (a:Nat) (q:List Ak):Prop where
 l:arr.length=256
 lt:a<256
 n:q.length≤256
 q: ∀i,i<q.length→mO arr a i=q.getD i aN
abbrev bJ(g:Nat)(q:List Ak)(L:aj):Prop:=∃(v:Value) (arr:List Ak) (a:Nat) (b:ju arr a q),L=[ob g #[v,iN a,iN q.length] 353,fo v arr]
def qB(q:List Ak)(x:Ak):List Ak:=if x∈q then q else if q.length=256 then q else q++[x]
def vY(q:List Ak)(x:Ak):Int:=if x∈q then 15 else if q.length=256 then 14 else 0
section
variable {arr:List Ak} {a:Nat} {q:List Ak}
theorem ju.has(h:ju arr a q)(x:Ak):pv arr a q.length x=decide (x∈q):=by
 by_cases c:x∈q
 ·obtain⟨j,b,e⟩:=aaU c;rw[cC c];refine FE b ?_;rw[h.q j b,Zl,Zo b];exact e
 ·rw[bl c];refine FF λj b e=>c ?_;rw[h.q j b,Zl,Zo b] at e;exact e▸List.getElem_mem b
theorem ju.push(h:ju arr a q)(x:Ak)(f:q.length<256):ju (arr.set ((a+q.length)%arr.length) x) a (q++[x]):=by
 have c:=h.l;have d:=h.lt;refine⟨by rw[ZF];exact h.l,h.lt,by rw[Zq];show q.length+1≤256;omega,λi b=>?_⟩;rw[Zq] at b;have b:i<q.length+1:=b;unfold mO;rw[ZF,Zl,ZP];by_cases e:i=q.length
 ·subst e;rw[ALifp rfl,ALifp (Zx _ Om),Zl,Zz (ZH _)];simp
 ·rw[ALifn (by rw[c];omega),Zl,Zu Om];have:=h.q i Om;unfold mO at this;rwa [Zl,Zl] at this
theorem ju.pop(h:ju arr a q)(f:0<q.length):ju (arr.set a aN) ((a+1)%(arr.set a aN).length) q.tail:=by
 have b:=h.l;have e:=h.lt;rw[ZF];refine⟨by rw[ZF];exact h.l,by rw[b];exact Zx _ Dc,by rw[Z5];have:=h.n;omega,λi c=>?_⟩;rw[Z5] at c;have:=h.q (i+1) Om;have d:=h.n;unfold mO at this⊢;rw[ZF,Zl,ZP,ALifn (by rw[b];omega)];rw[Zl] at this;rw[show((a+1)%arr.length+i)%arr.length=(a+(i+1))%arr.length by rw[b];omega,this,Zl,Zl,List.getElem?_tail]
theorem ju.first(h:ju arr a q)(b:0<q.length):mO arr a 0=q.headD aN:=by
 rw[h.q 0 b];cases q with
 | nil=>cases b
 | cons x q=>rfl
end
def mi(q:List Ak):Int:=if q.length=0 then 13 else 0
theorem RA:ju (Zp 256 aN) 0 []:=⟨by rw[ZG],by decide,by decide,λi b=>absurd b (aal i)⟩
end
section
open Go Go.RowKit Go.Shelf
theorem vZ(g:Nat)(v:Value)(c:List Ak)(a n i:Nat)(l:c.length=256)(j:a<256)(k:i≤256):aa Zm 283 #[pt g 0,iN i] [ob g #[v,iN a,iN n] 353,.p (aK tm v c)] [] N0 (λ_=>iN ((a+i)%c.length)):=by
 exact fO Tryz.func283 1 rfl λf e=>fG Tryz.func283 λw h=>r0 [] [(4,i6 0)] [] (r0 [(3,.m (ld 0 (iN a))),(5,ad a i),(9,.m (ld 0 (v))),(10,eP e.1 1),(11,.t (tb (a:=iN (a+i)) (b:=iN c.length) λ_ _ _ _=>nZ (a:=a+i) (d:=c.length) Om))] [(4,iN ((a+i)%c.length))] [4] (lf ab.zero [] [(0,0),(1,1)] []))
theorem RB(g:Nat):aa Zm 282 #[pt g 0] [] [] (λE=>[ob (E.y 0) #[pt g 0] 131]) (λE=> .func (.func 287) #[] #[pt ((E.y 0)) 0]):=by
 exact fG Tryz.func282 λw b=>ra (λa=>[(1,pt (B0 a) 0),(2,.nilFunc)]) (λa=>[ob (B0 a) #[pt g 0] 131]) λa=>r0 [] [(2,.func (.func 287) #[] #[pt (B0 a) 0])] [2] (lf (.l [(a 0).y 0] [] []) [0] [] [])
theorem RC(b g:Nat)(v:Value)(d:List Ak)(a n:Nat)(bs:ay)(j:aK tm v d bs)(u:d.length=256)(H:a<256)(I:n≤256):ft 5 Zm 287 #[pt b 0] (λ(x:Nat×Ak)=>#[i6 (x.1:Int),.agg #[i6 (x.2.k:Int),i6 (x.2.w:Int)]]) ((Zn n).map λk=>(k,d.getD ((a+k)%d.length) aN)) (List.flatten [[(b,.cells #[pt g 0] 131 (0,0))],[(g,.cells #[v,iN a,iN n] 353 (0,0))],bs]):=by
 refine gi (KO:=[[(b,.cells #[pt g 0] 131 (0,0))],[(g,.cells #[v,iN a,iN n] 353 (0,0))],bs]) Tryz.func287 (λz B A G D m s r=>?_);refine r0 [(0,.l 0),(3,.l 1)] [(7,iN n),(8,i6 0)] [] ?_;refine j9 (λk=>k≤n) (λk=>[(8,iN k)]) (λ_ L=>L) (λk=>n-k) (λk=>k) 0 Om r Kr Kr (λk C F t f=>?_);have y:(a+k)%d.length<d.length:=Zx _ Om;refine r0 [] [(9,.bool (decide ((k:Int)<(n:Int))))] [] ?_;refine cj (k:Int) (n:Int) (λq i=>?_) λq i=>?_
 ·refine r0 [] [(3,iN k)] [] ?_;refine iy m s f 11 (λ_=>[(2,.l 0),(5,.l 1),(6,.l 0),(8,.c [1,2] [] (aa.at (rd':=[ob g #[v,iN a,iN n] 353,.c bs]) (vZ g v d a n k (by(simp only[LL,u];done)) Om Om) (atS (eD j (λ_ h=>h))))),(9,fv j.1 2 ((a+k)%d.length) 2),(10,nb mN j.1 2 ((a+k)%d.length) 0 2)]) (λ_=>[(11,.func (.yield z) #[] #[]),(12,iN k),(21,.agg #[iN ((d.getD ((a+k)%d.length) aN).k),iN ((d.getD ((a+k)%d.length) aN).w)])]) [] (λ_ L=>L) N0 [0,1,2] (oN Om) (λJ o p e=>?_);refine cF _ rfl (r0 [(0,ad k 1)] [(8,iN (k+1))] [8] ?_);exact iR (k+1) Om e Om Kr [0,1,2] Kr
 obtain rfl:n=k:=by omega
 refine ka ?_;exact k7 m f (by rw[Zs,ZB]) [] [0,1,2]
theorem zZ(g:Nat)(v:Value)(b:List Ak)(a n:Nat)(x:Ak)(G:b.length=256)(N:a<256)(A:n≤256):aa Zm 267 #[pt g 0,.agg #[iN x.k,iN x.w]] [ob g #[v,iN a,iN n] 353,.p (aK tm v b)] [] N0 (λ_=> .bool (pv b a n x)):=by
 refine fO Tryz.func267 1 rfl λi t=>fG Tryz.func267 λw M=>ra (λd=>[(3,pt (B0 d) 0),(4,pt (B1 d) 0)]) (λd=>[ob (B0 d) #[iN x.k,iN x.w] 285,ob (B1 d) #[.bool false] 4]) λd=>rr (λ_=>[(1,.c [] [4] (RB g))]) (λf=>[(8,.func (.func 287) #[] #[pt ((B1 f)) 0])]) [] (λf L=>L++[ob (B1 f) #[pt g 0] 131]) λf=>?_;refine yl (encs:=λ(x:Nat×Ak)=>#[i6 (x.1:Int),.agg #[i6 (x.2.k:Int),i6 (x.2.w:Int)]]) (xs:=(Zn n).map λk=>(k,b.getD ((a+k)%b.length) aN)) (KO:=[[((B1 f),.cells #[pt g 0] 131 (0,0))],[(g,.cells #[v,iN a,iN n] 353 (0,0))],i]) (RC (B1 f) g v b a n i t (by(simp only[LL,G];done)) Om Om) (enters_of Tryz.func287 Kr rfl) (λk=>k≤n∧(∀j,j<k→mO b a j≠x)) (λ_ L=>L) (λc k=>(c=Code.ret∧(∃j,j+1=k∧mO b a j=x))) (λ_ _ L=>L.set 3 (ob (B1 d) #[.bool true] 4)) [4,0,1] ⟨by omega,(λ_ h=>absurd h (aal _))⟩ Kr (λP k R H J y ⟨m,o⟩=>?_) (λB ⟨m,o⟩=>?_) λB c k F D=>?_
 ·obtain⟨z,rfl⟩:=nW y;refine rr (λ_=>[(1,.s 5)]) (λq=>[(6,pt (B0 q) 0)]) [] (λq L=>L++[ob (B0 q) #[iN ((b.getD ((a+k)%b.length) aN).k),iN ((b.getD ((a+k)%b.length) aN).w)] 285]) λq=>?_;refine ag [4,0,1] (λI K=>?_);refine r0 [(0,.l 2),(1,.l 5),(2,.e)] [(13,.bool ((x.k:Int)==(((b.getD ((a+k)%b.length) aN).k:Nat):Int)&&((x.w:Int)==(((b.getD ((a+k)%b.length) aN).w:Nat):Int)&&true)))] [] ?_;refine cB (((x.k:Int)==(((b.getD ((a+k)%b.length) aN).k:Nat):Int)&&((x.w:Int)==(((b.getD ((a+k)%b.length) aN).w:Nat):Int)&&true))) (λC=>?_) λC=>?_
  ·refine rr (λ_=>[(0,.s 3)]) N0 [] (λ_ L=>L.set 3 (ob (B1 d) #[.bool true] 4)) λQ=>?_;exact nr _ ⟨⟨rfl,⟨_,rfl,Ry As⟩⟩,rfl⟩ [0,1,2,3,4] Kr
  exact ne _ ⟨⟨by omega,zY o (Rz As)⟩,rfl⟩ [0,1,2,3,4] Kr
 ·simp only[Zs,ZB] at m;exact r0 [(0,.s 3)] [] [] (ao (.bool false) ab.zero (by(simp only[Zs,ZB] at o;rw[FF o])) [] [(0,0),(1,1)] [3])
 obtain⟨rfl,u⟩:=D;exact ao (.bool true) ab.zero (by(obtain⟨j,O,A⟩:=u;have r:=F;simp only[Zs,ZB] at r;rw[FE (j:=j) Om A])) [] [(0,0),(1,1)] [3]
theorem RD(g:Nat)(v:Value)(b:List Ak)(a:Nat)(q:List Ak)(e:ju b a q)(x:Ak)(o:q.length<256):aa Zm 268 #[pt g 0,.agg #[iN x.k,iN x.w]] [ob g #[v,iN a,iN q.length] 353,fo v b] [0,1] (λ_=>[ob g #[v,iN a,iN (q.length+1)] 353,fo v (b.set ((a+q.length)%b.length) x)]) (λ_=>i6 0):=by
 have f:=e.l;have k:=e.lt;have n:=e.n;have i:(a+q.length)%b.length<b.length:=Zx _ Om;exact fG Tryz.func268 λw j=>ra (λd=>[(3,pt (B0 d) 0),(4,i6 0)]) (λd=>[ob (B0 d) #[iN x.k,iN x.w] 285]) λd=>rF [(3,.l 0),(7,.l 0),(8,fu mN v b 1),(9,.t (tk (show Value.bool ((q.length:Int)==(b.length:Int))= .bool false from ALca Value.bool (by rw[db];omega))))] 14 (rs [(3,.m (ld 0 (v))),(8,.m (ld 0 (iN q.length))),(9,.c [0,1] [] (aa.at (rd':=[ob g #[v,iN a,iN q.length] 353,fo v b]) (vZ g v b a q.length q.length (by(simp only[LL,f];done)) Om Om) (atS (bO (λ_ h=>ar.sq h) (λ_ h=>h))))),(10,.m (ls 2 ([iN x.k,iN x.w]))),(11,cO mN v b 1 ((a+q.length)%b.length)),(12,sk mN v b 1 ((a+q.length)%b.length) x)] 1 (fo v (b.set ((a+q.length)%b.length) x)) (rs [(3,.l 0),(4,ad q.length 1),(7,.s 0)] 0 (ob g #[v,iN a,iN (q.length+1)] 353) (r0 [] [(4,i6 0)] [4] (lf ab.zero [0,1] [] []))))
theorem RE(g:Nat)(v:Value)(b:List Ak)(a:Nat)(q:List Ak)(d:ju b a q)(x:Ak)(f:q.length=256):aa Zm 268 #[pt g 0,.agg #[iN x.k,iN x.w]] [ob g #[v,iN a,iN q.length] 353,fo v b] [1] (λ_=>[fo v b]) (λ_=>i6 14):=by
 have e:=d.l;have i:=d.lt;have j:=d.n;exact fG Tryz.func268 λw h=>ra (λc=>[(3,pt (B0 c) 0),(4,i6 0)]) (λc=>[ob (B0 c) #[iN x.k,iN x.w] 285]) λc=>rT [(3,.l 0),(7,.l 0),(8,fu mN v b 1),(9,.t (tk (show Value.bool ((q.length:Int)==(b.length:Int))= .bool true from ALca Value.bool (by rw[e,f];rfl))))] 14 (r0 [] [(4,i6 14)] [4] (lf ab.zero [1] [(0,0)] []))
theorem RF(g:Nat)(q:List Ak)(x:Ak)(j:x∈q):aa Zm 242 #[pt g 0,.agg #[iN x.k,iN x.w]] [pk (bJ g q)] [0] (λ_=>[pk (bJ g q)]) (λ_=>i6 15):=aa.pkZ Tryz.func242 λL f=>by
 obtain⟨v,b,a,d,rfl⟩:=f;refine⟨[1],λ_=>[fo v b],?_,rfl,λE=>⟨rfl,rfl,⟨_,_,_,d,rfl⟩⟩⟩;have i:=d.l;have m:=d.lt;have n:=d.n;exact fG Tryz.func242 λw k=>ra (λe=>[(3,pt (B0 e) 0),(4,i6 0)]) (λe=>[ob (B0 e) #[iN x.k,iN x.w] 285]) λe=>rT [(1,.l 2),(2,.c [0,1] [] (aa.v ((aa.at (rd':=[ob g #[v,iN a,iN q.length] 353,fo v b]) (zZ g v b a q.length x (by(simp only[LL,i];done)) Om Om) (atS (bO (λ_ h=>ar.sq h) (λ_ h=>h))))) λ_=>ALca Value.bool (show(pv b a q.length x)=true from(by rw[d.has,cC j]))))] 7 (r0 [] [(4,i6 15)] [4] (lf ab.zero [1] [(0,0)] []))
theorem RG(g:Nat)(q:List Ak)(x:Ak)(k:x∉q)(i:q.length=256):aa Zm 242 #[pt g 0,.agg #[iN x.k,iN x.w]] [pk (bJ g q)] [0] (λ_=>[pk (bJ g q)]) (λ_=>i6 14):=aa.pkZ Tryz.func242 λL j=>by
 obtain⟨v,b,a,d,rfl⟩:=j;refine⟨[1],λ_=>[fo v b],?_,rfl,λE=>⟨rfl,rfl,⟨_,_,_,d,rfl⟩⟩⟩;have f:=d.l;have n:=d.lt;have o:=d.n;exact fG Tryz.func242 λw m=>ra (λe=>[(3,pt (B0 e) 0),(4,i6 0)]) (λe=>[ob (B0 e) #[iN x.k,iN x.w] 285]) λe=>rF [(1,.l 2),(2,.c [0,1] [] (aa.v ((aa.at (rd':=[ob g #[v,iN a,iN q.length] 353,fo v b]) (zZ g v b a q.length x (by(simp only[LL,f,i];done)) Om Om) (atS (bO (λ_ h=>ar.sq h) (λ_ h=>h))))) λ_=>ALca Value.bool (show(pv b a q.length x)=false from(by rw[d.has,bl k]))))] 7 (r0 [(1,.l 2),(2,.c [0,1] [1] (RE g v b a q d x (by(simp only[LL,f,i];done))))] [(4,i6 14)] [4] (lf ab.zero [1] [(0,0)] []))
theorem RH(g:Nat)(q:List Ak)(x:Ak)(k:x∉q)(j:q.length<256):aa Zm 242 #[pt g 0,.agg #[iN x.k,iN x.w]] [pk (bJ g q)] [0] (λ_=>[pk (bJ g (q++[x]))]) (λ_=>i6 0):=aa.pkZ Tryz.func242 λL f=>by
 obtain⟨v,b,a,d,rfl⟩:=f;refine⟨[0,1],λ_=>[ob g #[v,iN a,iN (q.length+1)] 353,fo v (b.set ((a+q.length)%b.length) x)],?_,rfl,λE=>⟨rfl,rfl,⟨_,_,_,d.push x j,ALca (λn:Nat=>[ob g #[v,iN a,iN n] _,_]) (show q.length+1=(q++[x]).length by rw[Zq];rfl)⟩⟩⟩;have i:=d.l;have o:=d.lt;have p:=d.n;exact fG Tryz.func242 λw m=>ra (λe=>[(3,pt (B0 e) 0),(4,i6 0)]) (λe=>[ob (B0 e) #[iN x.k,iN x.w] 285]) λe=>rF [(1,.l 2),(2,.c [0,1] [] (aa.v ((aa.at (rd':=[ob g #[v,iN a,iN q.length] 353,fo v b]) (zZ g v b a q.length x (by(simp only[LL,i];done)) Om Om) (atS (bO (λ_ h=>ar.sq h) (λ_ h=>h))))) λ_=>ALca Value.bool (show(pv b a q.length x)=false from(by rw[d.has,bl k]))))] 7 (rr (λ_=>[(1,.l 2),(2,.c [0,1] [0,1] (RD g v b a q d x Om))]) (λ_=>[(4,i6 0)]) [4] (λ_ L=>(L.set 0 (ob g #[v,iN a,iN (q.length+1)] 353)).set 1 (fo v (b.set ((a+q.length)%b.length) x))) λr=>lf ab.zero [0,1] [] [])
theorem RI(g:Nat)(v:Value)(d:List Ak)(a:Nat)(q:List Ak)(j:ju d a q)(z:0<q.length):aa Zm 269 #[pt g 0,i6 0] [ob g #[v,iN a,iN q.length] 353,fo v d] [0,1] (λ_=>[ob g #[v,iN ((a+1)%(d.set a (⟨0,0⟩:Ak)).length),iN (q.length-1)] 353,fo v (d.set a (⟨0,0⟩:Ak))]) (λ_=> .tuple #[.agg #[iN ((d.getD ((a+0)%d.length) aN).k),iN ((d.getD ((a+0)%d.length) aN).w)],i6 0]):=by
 have m:=j.l;have x:=j.lt;have y:=j.n;have p:(a+0)%d.length<d.length:=Zx _ Om;refine fG Tryz.func269 λw u=>ra (λe=>[(4,pt (B0 e) 0),(5,i6 0)]) (λe=>[ob (B0 e) #[i6 0,i6 0] 285]) λe=>ra (λf=>[(6,pt (B0 f) 0)]) (λf=>[ob (B0 f) #[i6 0,i6 0] 285]) λf=>r0 [(7,.l 0)] [(18,.bool (decide ((q.length:Int)≤0)))] [] ?_;have n:(decide ((q.length:Int)≤0))=false:=by exact bl Om
 refine cF (decide ((q.length:Int)≤0)) n (rr (λ_=>[(3,.l 0),(6,.c [0,1] [] (aa.at (rd':=[ob g #[v,iN a,iN q.length] 353,fo v d]) (vZ g v d a q.length 0 (by(simp only[LL,m];done)) Om Om) (atS (bO (λ_ h=>ar.sq h) (λ_ h=>h))))),(7,cO mN v d 1 ((a+0)%d.length)),(8,qb mN v d 1 ((a+0)%d.length) 0 2),(10,.s 4)]) (λi=>[(7,pt ((i 9).y 0) 0)]) [] (λi L=>L++[ob ((i 9).y 0) #[iN ((d.getD ((a+0)%d.length) aN).k),iN ((d.getD ((a+0)%d.length) aN).w)] 285]) λi=>r0 [] [(8,i6 0)] [] ?_);refine lq (λk=>k≤0) (λ_=>[(8,i6 0)]) (λ_ L=>L) (λk=>0-k) 0 Om Kr Kr (λk o=>?_);exact rF [] 31 (lx (rs [(3,.l 0),(7,.l 0),(8,.l 3),(9,cO mN v d 1 a),(10,sk mN v d 1 a (⟨0,0⟩:Ak))] 1 (fo v (d.set a (⟨0,0⟩:Ak))) (rs [(2,.c [0,1] [] (aa.at (rd':=[ob g #[v,iN a,iN q.length] 353,fo v (d.set a (⟨0,0⟩:Ak))]) (vZ g v (d.set a (⟨0,0⟩:Ak)) a q.length 1 (by(simp only[LL,m];done)) Om Om) (atS (bO (λ_ h=>ar.sq h) (λ_ h=>h))))),(5,.s 0)] 0 (ob g #[v,iN ((a+1)%(d.set a (⟨0,0⟩:Ak)).length),iN q.length] 353) (rs [(3,.l 0),(4,.t (tb (a:=iN q.length) (b:=i6 1) λ_ _ _ _=>ma (a:=q.length) (b:=1) Om Om)),(7,.s 0)] 0 (ob g #[v,iN ((a+1)%(d.set a (⟨0,0⟩:Ak)).length),iN (q.length-1)] 353) (rr (λ_=>[(0,.l 4),(1,.s 2)]) (λ_=>[(5,i6 0)]) [5] (λ_ L=>L.set 2 (ob (B0 e) #[iN ((d.getD ((a+0)%d.length) aN).k),iN ((d.getD ((a+0)%d.length) aN).w)] 285)) λr=>lf ab.zero [0,1] [] [2])))))
theorem RJ(g:Nat)(q:List Ak)(f:0<q.length):aa Zm 247 #[pt g 0] [pk (bJ g q)] [0] (λ_=>[pk (bJ g q.tail)]) (λ_=> .tuple #[.agg #[iN ((q.headD aN).k),iN ((q.headD aN).w)],i6 0]):=aa.pkZ Tryz.func247 λL h=>by
 obtain⟨v,b,a,d,rfl⟩:=h;refine⟨[0,1],λ_=>[ob g #[v,iN ((a+1)%(b.set a (⟨0,0⟩:Ak)).length),iN (q.length-1)] 353,fo v (b.set a (⟨0,0⟩:Ak))],?_,rfl,λE=>⟨rfl,rfl,⟨_,_,_,d.pop f,ALca (λn:Nat=>[ob g #[v,iN ((a+1)%(b.set a (⟨0,0⟩:Ak)).length),iN n] _,_]) (show q.length-1=q.tail.length by rw[Z5])⟩⟩⟩;have l:=d.l;have j:=d.lt;have m:=d.n;exact fG Tryz.func247 λw i=>ra (λe=>[(2,pt (B0 e) 0),(3,i6 0)]) (λe=>[ob (B0 e) #[i6 0,i6 0] 285]) λe=>rr (λ_=>[(1,.c [0,1] [0,1] (RI g v b a q d Om)),(4,.s 2)]) (λ_=>[(3,i6 0)]) [3] (λ_ L=>((L.set 0 (ob g #[v,iN ((a+1)%(b.set a (⟨0,0⟩:Ak)).length),iN (q.length-1)] 353)).set 1 (fo v (b.set a (⟨0,0⟩:Ak)))).set 2 (ob (B0 e) #[iN ((b.getD ((a+0)%b.length) aN).k),iN ((b.getD ((a+0)%b.length) aN).w)] 285)) λo=>ao (.tuple #[.agg #[iN ((b.getD ((a+0)%b.length) aN).k),iN ((b.getD ((a+0)%b.length) aN).w)],i6 0]) ab.zero (by rw[←d.first f];rfl) [0,1] [] [2]
theorem RK(g:Nat)(v:Value)(b:List Ak)(a:Nat)(q:List Ak)(e:ju b a q)(m:q.length=0):aa Zm 269 #[pt g 0,i6 0] [ob g #[v,iN a,iN q.length] 353,fo v b] [1] (λ_=>[fo v b]) (λ_=> .tuple #[.agg #[i6 0,i6 0],i6 13]):=by
 have j:=e.l;have i:=e.lt;have k:=e.n;refine fG Tryz.func269 λw h=>ra (λc=>[(4,pt (B0 c) 0),(5,i6 0)]) (λc=>[ob (B0 c) #[i6 0,i6 0] 285]) λc=>ra (λd=>[(6,pt (B0 d) 0)]) (λd=>[ob (B0 d) #[i6 0,i6 0] 285]) λd=>r0 [(7,.l 0)] [(18,.bool (decide ((q.length:Int)≤0)))] [] ?_;have f:(decide ((q.length:Int)≤0))=true:=by exact cC Om
 exact cT (decide ((q.length:Int)≤0)) f (r0 [(0,.l 3),(1,.s 2)] [(5,i6 13)] [5] (lf ab.zero [1] [(0,0)] [2]))
theorem RL(g:Nat)(q:List Ak)(i:q.length=0):aa Zm 247 #[pt g 0] [pk (bJ g q)] [0] (λ_=>[pk (bJ g q)]) (λ_=> .tuple #[.agg #[i6 0,i6 0],i6 13]):=aa.pkZ Tryz.func247 λL f=>by
 obtain⟨v,b,a,d,rfl⟩:=f;refine⟨[1],λ_=>[fo v b],?_,rfl,λE=>⟨rfl,rfl,⟨_,_,_,d,rfl⟩⟩⟩;have h:=d.l;have k:=d.lt;have l:=d.n;exact fG Tryz.func247 λw j=>ra (λe=>[(2,pt (B0 e) 0),(3,i6 0)]) (λe=>[ob (B0 e) #[i6 0,i6 0] 285]) λe=>r0 [(1,.c [0,1] [1] (RK g v b a q d (by(simp only[LL,h,i];done)))),(4,.s 2)] [(3,i6 13)] [3] (lf ab.zero [1] [(0,0)] [2])
theorem FG(g:Nat)(q:List Ak):aa Zm 247 #[pt g 0] [pk (bJ g q)] [0] (λ_=>[pk (bJ g q.tail)]) (λ_=> .tuple #[.agg #[i6 ((q.headD aN).k:Int),i6 ((q.headD aN).w:Int)],i6 (mi q)]):=by
 cases q with
 | nil=>exact RL g [] rfl
 | cons x q=>exact RJ g (x::q) (Nat.succ_pos _)
theorem RM:aa Zm 176 #[i6 256] [] [] (λE=>[ob (E.y 0) #[(E.val 0),i6 0,i6 0] 353,fo (E.val 0) (Zp 256 aN)]) (λE=> .tuple #[pt ((E.y 0)) 0,i6 0]):=by
 exact fG Tryz.func176 λw b=>r0 [] [(2,.pointer none),(3,i6 0)] [] (rF [] 9 (rr (λ_=>[(1,sC mN 0 256)]) (λa=>[(2,pt (B3 a) 0),(3,i6 0)]) [2,3] (λa L=>L++[fo (.slice (some ⟨(a 1).y 0,0,none⟩) 256 256) (Zp 256 aN),ob (B3 a) #[.slice (some ⟨(a 1).y 0,0,none⟩) 256 256,i6 0,i6 0] 353]) λa=>lf (.l [(a 3).y 0] [] [.slice (some ⟨(a 1).y 0,0,none⟩) 256 256]) [1,0] [] []))
theorem RN:aa Zm 176 #[i6 256] [] [] (λE=>[pk (bJ (E.y 0) [])]) (λE=> .tuple #[pt ((E.y 0)) 0,i6 0]):=(RM).outs λE b a=>s9 ⟨_,_,_,RA,rfl⟩ a
end
section
open Go Go.RowKit Go.Shelf
structure Ev where
 k:Nat
 f:Nat
 t:Nat
deriving DecidableEq
def cR:Ev:=⟨0,0,0⟩
def z0(x:Ev):List Value:=[iN x.k,iN x.f,iN x.t]
def jv:Kd Zm Ev:=⟨z0,[i6 0,i6 0,i6 0],271,349,cR,3,λ_=>rfl,rfl,λ_=>rfl,ec.mk' Kr Kr rfl⟩
abbrev bg(v:Value)(xs:List Ev):aB:= .p (ar z0 ([i6 0,i6 0,i6 0]) 349 v xs)
structure Rp where
 m:Mp
 j:Jb
 q:List Ak
structure eJ (m:Mp) (a:Ak):Prop where
 k:(a.k=1∧a.w<m.R*m.B*m.M)∨(a.k=2∧a.w<m.R)
structure RO (m:Mp):Prop where
 Q: ∀x,m.R*m.B*m.M-m.res+m.P≤x→m.Q.getD x false=false
structure aO (r:Rp):Prop where
 m:bf r.m
 j:th r.m r.j
 q: ∀a∈r.q,eJ r.m a
 n:r.q.length≤256
 fr:RO r.m
abbrev au(g a b:Nat)(r:Rp)(L:aj):Prop:=L=[ob g #[pt a 0,iN r.j.A,iN r.j.fr,iN r.j.tg,iN r.j.nx,pt b 0] 133,pk (aH a r.m),pk (bJ b r.q)]
def qD(r:Rp)(w:Nat):Bool:=(r.m.Q.getD w false||(dy r.m&&decide (dE r.m≤w)))||(decide (r.j.A=1)&&decide (r.j.fr=w))
def qE(r:Rp)(w:Nat):Bool:=dD r.m w||(decide (r.j.A=2)&&decide (r.j.fr=w))
def c8(r:Rp)(a:Ak):Bool:=bif a.k==1 then qD r a.w else qE r a.w
def z3(a:Ak):List Ev:=[⟨5,a.w,a.k-1⟩]
def de(r:Rp)(a:Ak):Rp:=bif a.k==1 then(bif dy r.m then{r with m:=qw r.m,j:=⟨1,a.w,dE r.m,0⟩} else r) else(bif dY r.m then{r with m:=qx r.m,j:=⟨2,a.w,fl r.m,0⟩} else r)
def fZ(r:Rp)(a:Ak):List Ev:=bif a.k==1 then(bif dy r.m then[⟨3,a.w,dE r.m⟩] else z3 a) else(bif dY r.m then[⟨4,a.w,fl r.m⟩] else z3 a)
def bq(r:Rp)(a:Ak):Rp:=bif c8 r a then r else bif r.j.A==0 then de r a else{r with q:=qB r.q a}
def bT(r:Rp)(a:Ak):List Ev:=bif c8 r a then[] else bif r.j.A==0 then fZ r a else bif vY r.q a==14 then z3 a else[]
def aZ(r:Rp):Rp:={r with q:=r.q.tail}
def gI(s:Rp×List Ev):Rp×List Ev:=bif c8 (aZ s.1) (s.1.q.headD aN) then(aZ s.1,s.2) else(de (aZ s.1) (s.1.q.headD aN),s.2++fZ (aZ s.1) (s.1.q.headD aN))
def ah(s:Rp×List Ev):Nat→Rp×List Ev
 | 0=>s
 | k+1=>gI (ah s k)
def e3:Nat→Rp×List Ev→Rp×List Ev
 | 0,s=>s
 | n+1,s=>if s.1.j.A=0 then e3 n (gI s) else s
def gS(r:Rp):Rp:={r with m:=bif r.j.A==1 then kk r.m r.j.fr r.j.tg else jr r.m r.j.fr r.j.tg,j:=km}
def af(r:Rp):Rp×List Ev:=(gS r,[⟨6,r.j.fr,r.j.tg⟩])
def cS(r:Rp):Rp×List Ev:=e3 r.q.length (af r)
def bu(r:Rp):Rp:={r with j:={r.j with nx:=r.j.nx+1}}
def eR(r:Rp):Rp×List Ev:=bif kN r.m (bu r).j then cS (bu r) else(bu r,[])
section
variable {m:Mp}
theorem RP(h:bf m)(hp:dy m=true):bf (qw m):=by
 have:m.P≠m.res:=by unfold dy at hp;simpa using hp
 have:=h.pg;exact⟨h.ly,h.ll,h.ld,h.ls,by show m.P+1≤m.res;omega,h.rk,h.lv,h.sp⟩
theorem RQ(h:bf m)(hp:dY m=true):bf (qx m):=by
 have:m.F≠m.S:=by unfold dY at hp;simpa using hp
 have:=h.rk;exact⟨h.ly,h.ll,h.ld,h.ls,h.pg,by show m.F+1≤m.S;omega,h.lv,h.sp⟩
theorem RR{l:List Nat}{h t k n b:Nat}(c: ∀i,i<n→l.getD i 0<b)(e:n=l.length)(ht:t<b): ∀i,i<n→(dB l h t k).getD i 0<b:=by
 intro i a;by_cases d:i<k
 ·unfold dB;rw[Zl,Zu (by rw[Zs,Zr];omega),Z2,List.getElem?_take,ALifp d,Zo Om];have:=c i a;rw[Zl,Zo Om] at this;show(if _=h then t else _)<b
  split
  ·exact ht
  ·exact this
 ·unfold dB;rw[Zl,Zz (by rw[Zs,Zr];omega),Zs,Zr,ZT,show k+(i-min k l.length)=i by omega,←Zl];exact c i a
theorem RS(h:bf m){x t:Nat}(ht:t<m.R*m.B*m.M):bf (kk m x t):=
 ⟨h.ly,(Fm ..).trans h.ll,by show(m.Q.set x true).length=_;rw[ZF];exact h.ld,h.ls,h.pg,h.rk,RR h.lv h.ll.symm ht,h.sp⟩
theorem RT(h:bf m){x t:Nat}(h0:m.R≤t)(h1:t<m.R+m.S):bf (jr m x t):=by
 refine⟨h.ly,h.ll,h.ld,by show(m.K.set x (t:Int)).length=_;rw[ZF];exact h.ls,h.pg,h.rk,h.lv,λi a=>?_⟩;show(m.K.set x (t:Int)).getD i 0= -1∨((m.R:Int)≤(m.K.set x (t:Int)).getD i 0∧(m.K.set x (t:Int)).getD i 0<((m.R+m.S:Nat):Int));have a:i<m.R:=a;have b:=h.ls;rw[Zl,ZP];by_cases e:x=i
 ·rw[ALifp e,ALifp Om];refine .inr ?_;show(m.R:Int)≤(t:Int)∧(t:Int)<((m.R+m.S:Nat):Int);omega
 ·rw[ALifn e,←Zl];exact h.sp i a
theorem getD_set_ne{α:Type}{l:List α}{i j:Nat}{x d:α}(h:i≠j):(l.set i x).getD j d=l.getD j d:=by rw[Zl,ZP,ALifn h,←Zl]
theorem FH{r:Rp}{a:Ak}(h:aO r)(i:eJ r.m a)(b:c8 r a=false):aO (de r a):=by
 unfold de;unfold c8 at b;rcases i.k with⟨f,g⟩ | ⟨f,g⟩
 ·rw[f] at b⊢;have b:qD r a.w=false:=b;show aO (bif dy r.m then _ else _);cases c:dy r.m with
  | false=>exact h
  | true=>
   unfold qD at b;rw[c] at b;simp only[Bool.true_and,ZC,decide_eq_false_iff_not] at b;have d:r.m.P≠r.m.res:=by unfold dy at c;simpa using c
   have j:dE r.m=r.m.R*r.m.B*r.m.M-r.m.res+r.m.P:=by unfold dE;rw[ALifn d]
   have n:=h.m.pg;have o:=h.m.ly.rp;have l:a.w<dE r.m:=by omega
   refine⟨RP h.m c,⟨.inr (.inl ⟨rfl,?_⟩)⟩,λx e=>⟨(h.q x e).k⟩,h.n,⟨λx e=>h.fr.Q x ?_⟩⟩
   ·exact⟨g,by show dE r.m<r.m.R*r.m.B*r.m.M;omega,by show a.w≠dE r.m;omega,b.1.1,h.fr.Q _ (by show _≤dE r.m;omega),by show r.m.R*r.m.B*r.m.M-r.m.res≤dE r.m;omega,by show dE r.m<r.m.R*r.m.B*r.m.M-r.m.res+(r.m.P+1);omega,ZY _,by show a.w<r.m.R*r.m.B*r.m.M-r.m.res+(r.m.P+1);omega⟩
   ·have e:r.m.R*r.m.B*r.m.M-r.m.res+(r.m.P+1)≤x:=e;omega
 ·rw[f] at b⊢;have b:qE r a.w=false:=b;show aO (bif dY r.m then _ else _);cases c:dY r.m with
  | false=>exact h
  | true=>
   unfold qE at b;rw[ZC] at b;have d:r.m.F≠r.m.S:=by unfold dY at c;simpa using c
   have j:fl r.m=r.m.R+r.m.F:=by unfold fl;rw[ALifn d]
   refine⟨RQ h.m c,⟨.inr (.inr ⟨rfl,?_⟩)⟩,λx e=>⟨(h.q x e).k⟩,h.n,⟨h.fr.Q⟩⟩;exact⟨g,b.1,by show r.m.R≤fl r.m;omega,by show fl r.m<r.m.R+(r.m.F+1);omega,ZY _⟩
theorem v5{r:Rp}(h:aO r)(c:r.j.A≠0):aO (gS r):=by
 unfold gS;rcases h.j.k with e | ⟨e,b⟩ | ⟨e,b⟩
 ·rw[e] at c;exact absurd rfl c
 ·rw[e];show aO {r with m:=kk r.m r.j.fr r.j.tg,j:=km};refine⟨RS h.m b.ht,⟨.inl rfl⟩,λx a=>⟨(h.q x a).k⟩,h.n,⟨λx a=>?_⟩⟩;have a:r.m.R*r.m.B*r.m.M-r.m.res+r.m.P≤x:=a;have:=b.f1;show(r.m.Q.set r.j.fr true).getD x false=false;rw[getD_set_ne Om];exact h.fr.Q x a
 ·rw[e];show aO {r with m:=jr r.m r.j.fr r.j.tg,j:=km};have:=b.t1;have:=h.m.rk;exact⟨RT h.m b.t0 Om,⟨.inl rfl⟩,λx a=>⟨(h.q x a).k⟩,h.n,⟨h.fr.Q⟩⟩
theorem tn{r:Rp}(h:aO r)(a:r.j.A≠0):r.j.A=1∨r.j.A=2:=by
 rcases h.j.k with e | ⟨e,_⟩ | ⟨e,_⟩
 ·rw[e] at a;exact absurd rfl a
 ·exact .inl e
 ·exact .inr e
theorem FI{r:Rp}(h:aO r):r.j.nx≤4096:=by
 rcases h.j.k with e | ⟨e,a⟩ | ⟨e,a⟩
 ·rw[e];exact ZY _
 ·have:=a.nx;have:=h.m.O.bd.c64;omega
 ·have:=a.nx;have:=h.m.O.bd.bmc;omega
theorem qF{r:Rp}(h:aO r)(c:r.j.A≠0)(b:r.j.nx<eH r.j.A r.m.B r.m.M r.m.C):aO (bu r):=by
 refine⟨h.m,⟨?_⟩,h.q,h.n,h.fr⟩;rcases h.j.k with e | ⟨e,a⟩ | ⟨e,a⟩
 ·rw[e] at c;exact absurd rfl c
 ·rw[e] at b;exact .inr (.inl ⟨e,a.hf,a.ht,a.ne,a.df,a.dt,a.t0,a.t1,b,a.f1⟩)
 ·rw[e] at b;exact .inr (.inr ⟨e,a.hf,a.hs,a.t0,a.t1,b⟩)
theorem v7{r:Rp}(h:aO r):aO (aZ r):=⟨h.m,h.j,λx a=>h.q x (List.mem_of_mem_tail a),by show r.q.tail.length≤256;rw[Z5];have:=h.n;omega,h.fr⟩
theorem tp{r:Rp}(h:aO r)(a:0<r.q.length):eJ r.m (r.q.headD aN):=by
 refine h.q _ ?_;cases e:r.q with
 | nil=>rw[e] at a;cases a
 | cons x q=>exact aar ..
theorem z4{s:Rp×List Ev}(h:aO s.1)(c:0<s.1.q.length):aO (gI s).1:=by
 have a:=v7 h;have b:=tp h c;unfold gI;cases d:c8 (aZ s.1) (s.1.q.headD aN) with
 | true=>exact a
 | false=>exact FH a ⟨b.k⟩ d
theorem RU(r:Rp)(a:Ak):(de r a).q=r.q:=by
 unfold de;cases a.k==1<;>cases dy r.m<;>cases dY r.m<;>rfl
theorem v8(r:Rp)(a:Ak):(fZ r a).length=1:=by
 unfold fZ;cases a.k==1<;>cases dy r.m<;>cases dY r.m<;>rfl
theorem z5(s:Rp×List Ev):(gI s).1.q=s.1.q.tail:=by
 unfold gI;cases c8 (aZ s.1) (s.1.q.headD aN) with
 | true=>rfl
 | false=>exact RU _ _
theorem FJ(s:Rp×List Ev):(gI s).2.length≤s.2.length+1:=by
 unfold gI;cases c8 (aZ s.1) (s.1.q.headD aN) with
 | true=>exact Nat.le_succ _
 | false=>show(s.2++fZ _ _).length≤_;rw[Zq,v8];exact ZH _
theorem v9(s:Rp×List Ev): ∀k,(ah s k).1.q.length=s.1.q.length-k
 | 0=>rfl
 | k+1=>by rw[ah,z5,Z5,v9 s k];omega
theorem z7(s:Rp×List Ev): ∀k,(ah s k).2.length≤s.2.length+k
 | 0=>ZH _
 | k+1=>by rw[ah];exact ZM (FJ _) (by have:=z7 s k;omega)
theorem z8{s:Rp×List Ev}(h:aO s.1): ∀k,k≤s.1.q.length→aO (ah s k).1
 | 0,_=>h
 | k+1,a=>z4 (z8 h k Om) (by rw[v9];omega)
theorem FK{s:Rp×List Ev}{k:Nat}(h:c8 (aZ (ah s k).1) ((ah s k).1.q.headD aN)=true):ah s (k+1)=(aZ (ah s k).1,(ah s k).2):=by rw[ah,gI,h,ALct]
theorem FL{s:Rp×List Ev}{k:Nat}(h:c8 (aZ (ah s k).1) ((ah s k).1.q.headD aN)=false):ah s (k+1)=(de (aZ (ah s k).1) ((ah s k).1.q.headD aN),(ah s k).2++fZ (aZ (ah s k).1) ((ah s k).1.q.headD aN)):=by rw[ah,gI,h,ALcf]
theorem FM{s:Rp×List Ev}{k:Nat}(a:k<s.1.q.length)(h:e3 s.1.q.length s=e3 (s.1.q.length-k) (ah s k))(h0:(ah s k).1.j.A=0):e3 s.1.q.length s=e3 (s.1.q.length-(k+1)) (ah s (k+1)):=by
 rw[h,show s.1.q.length-k=(s.1.q.length-(k+1))+1 by omega,e3,ALifp h0];rfl
theorem wa{q:List Ak}(h:q.length=0):q.tail=q:=by rw[List.length_eq_zero_iff.1 h];rfl
theorem wb{s:Rp×List Ev}(h0:s.1.j.A≠0)(n:Nat):e3 n s=s:=by
 cases n with
 | zero=>rfl
 | succ n=>rw[e3,ALifn h0]
end
end
section
open Go Go.RowKit Go.Shelf
theorem RW(R S B M C way a:Nat)(b:iB R S B M C way a):aa Zm 137 #[.agg #[iN R,iN S,iN B,iN M,iN C,iN way,iN a]] [] [] (λE=>[ob (E.y 0) #[pt ((E.y 1)) 0,i6 0,i6 0,i6 0,i6 0,pt ((E.y 2)) 0] 133,pk (aH (E.y 1) (lD R S B M C way a)),pk (bJ (E.y 2) [])]) (λE=> .tuple #[pt ((E.y 0)) 0,i6 0]):=by
 have j:=b.O;have m:=b.rp;have k:=j.bd.rbm;have i:=b.G;have h:=b.r64;exact fG Tryz.func137 λw n=>ra (λg=>[(1,pt (B0 g) 0),(2,.pointer none),(3,i6 0)]) (λg=>[ob (B0 g) #[iN R,iN S,iN B,iN M,iN C,iN way,iN a] 25]) λg=>rr (λ_=>[(0,.l 0),(1,.c [] [1] (Rc R S B M C way a b))]) (λd=>[(4,pt ((B1 d)) 0),(5,i6 0)]) [] (λd L=>L++[pk (aH (B1 d) (lD R S B M C way a))]) λd=>rF [] 13 (rr (λ_=>[(0,.c [] [2] (RN))]) (λe=>[(6,pt ((B0 e)) 0),(5,i6 0)]) [5] (λe L=>L++[pk (bJ (B0 e) [])]) λe=>rF [] 20 (rr N0 (λf=>[(2,pt (B3 f) 0),(3,i6 0)]) [2,3] (λf L=>L++[ob (B3 f) #[pt ((B1 d)) 0,i6 0,i6 0,i6 0,i6 0,pt ((B0 e)) 0] 133]) λf=>lf (.l [(f 3).y 0,(B1 d),(B0 e)] [] []) [3,1,2] [] []))
theorem RX(R S B M C way a:Nat)(b:iB R S B M C way a):aa Zm 137 #[.agg #[iN R,iN S,iN B,iN M,iN C,iN way,iN a]] [] [] (λE=>[pk (au (E.y 0) (E.y 1) (E.y 2) ⟨lD R S B M C way a,km,[]⟩)]) (λE=> .tuple #[pt ((E.y 0)) 0,i6 0]):=(RW R S B M C way a b).outs λE d c=>s9 rfl c
theorem wc(g a b:Nat)(r:Rp)(d:aO r):aa Zm 23 #[pt g 0] [pk (au g a b r)] [0] (λ_=>[pk (au g a b r)]) (λ_=>pt a 0):=aa.pkZ Tryz.func23 λL e=>by
 obtain⟨rfl⟩:=e;refine⟨[1,2],λ_=>[pk (aH a r.m),pk (bJ b r.q)],?_,rfl,λE=>⟨rfl,rfl,rfl⟩⟩;have c:=d.m;have m:=d.j;have i:=d.n;have k:=c.O;have f:=c.ly;have h:=c.np;exact fG Tryz.func23 λw j=>r0 [] [(2,.pointer none)] [] (r0 [(3,.l 0)] [(2,pt a 0)] [2] (lf ab.zero [1,2] [(0,0)] []))
theorem z9(g b c:Nat)(r:Rp)(e:aO r):aa Zm 27 #[pt g 0] [pk (au g b c r)] [0] (λ_=>[pk (au g b c r)]) (λ_=> .agg #[iN r.j.A,iN r.j.fr,iN r.j.tg,iN r.j.nx]):=aa.pkZ Tryz.func27 λL f=>by
 obtain⟨rfl⟩:=f;refine⟨[1,2],λ_=>[pk (aH b r.m),pk (bJ c r.q)],?_,rfl,λE=>⟨rfl,rfl,rfl⟩⟩;have d:=e.m;have n:=e.j;have j:=e.n;have m:=d.O;have h:=d.ly;have i:=d.np;exact fG Tryz.func27 λw k=>ra (λa=>[(2,pt (B0 a) 0)]) (λa=>[ob (B0 a) #[i6 0,i6 0,i6 0,i6 0] 70]) λa=>rs [(3,.l 0),(4,.s 3)] 3 (ob (B0 a) #[iN r.j.A,iN r.j.fr,iN r.j.tg,iN r.j.nx] 70) (lf ab.zero [1,2] [(0,0)] [3])
theorem mP(g a b:Nat)(r:Rp):aa Zm 118 #[pt g 0] [ob g #[pt a 0,iN r.j.A,iN r.j.fr,iN r.j.tg,iN r.j.nx,pt b 0] 133,pk (aH a r.m),pk (bJ b r.q)] [1,2] (λ_=>[pk (aH a r.m),pk (bJ b r.q)]) (λ_=> .bool ((r.j.A:Int) != 0)):=by
 exact fG Tryz.func118 λw c=>r0 [] [(2,.bool false)] [] (r0 [(4,.l 0)] [(2,.bool ((r.j.A:Int) != 0))] [2] (lf ab.zero [1,2] [(0,0)] []))
theorem RY(g a d:Nat)(r:Rp)(e:aO r)(n:Nat)(p:n<(r.m.R*r.m.B*r.m.M-r.m.res)*r.m.C):aa Zm 143 #[pt g 0,iN n] [pk (au g a d r)] [0] (λ_=>[pk (au g a d r)]) (λ_=> .tuple #[iN (aJ r.m r.j n),iN (aq r.m n),iN (aG r.m.G r.m.R r.m.B r.m.M (aq r.m n)),i6 0]):=aa.pkZ Tryz.func143 λL f=>by
 obtain⟨rfl⟩:=f;refine⟨[1,2],λ_=>[pk (aH a r.m),pk (bJ d r.q)],?_,rfl,λE=>⟨rfl,rfl,rfl⟩⟩;have b:=e.m;have h:=e.j;have k:=e.n;have o:=b.O;have i:=b.ly;have j:=b.np;exact fG Tryz.func143 λw l=>r0 [] [(4,i6 0),(5,i6 0),(6,i6 0),(7,i6 0)] [] (r0 [(3,.m (ls 0 ([iN r.j.A,iN r.j.fr,iN r.j.tg,iN r.j.nx]))),(7,.m (ld 0 (pt a 0))),(9,.c [1] [1] (Rv a r.m b r.j h n Om)),] [(4,iN (aJ r.m r.j n)),(5,iN (aq r.m n)),(6,iN (aG r.m.G r.m.R r.m.B r.m.M (aq r.m n))),(7,i6 0)] [4,5,6,7] (lf ab.zero [1,2] [(0,0)] []))
theorem RZ(g a d:Nat)(r:Rp)(e:aO r)(n:Int)(i:bL n (((r.m.R*r.m.B*r.m.M-r.m.res)*r.m.C:Nat):Int)=false):aa Zm 143 #[pt g 0,i6 n] [pk (au g a d r)] [0] (λ_=>[pk (au g a d r)]) (λ_=> .tuple #[i6 0,i6 0,i6 0,i6 12]):=aa.pkZ Tryz.func143 λL f=>by
 obtain⟨rfl⟩:=f;refine⟨[1,2],λ_=>[pk (aH a r.m),pk (bJ d r.q)],?_,rfl,λE=>⟨rfl,rfl,rfl⟩⟩;have b:=e.m;have p:=e.j;have k:=e.n;have o:=b.O;have h:=b.ly;have j:=b.np;exact fG Tryz.func143 λw l=>r0 [] [(4,i6 0),(5,i6 0),(6,i6 0),(7,i6 0)] [] (r0 [(3,.m (ls 0 ([iN r.j.A,iN r.j.fr,iN r.j.tg,iN r.j.nx]))),(7,.m (ld 0 (pt a 0))),(9,.c [1] [1] (Ru a r.m b r.j.A r.j.fr r.j.tg r.j.nx n i)),] [(4,i6 0),(5,i6 0),(6,i6 0),(7,i6 12)] [4,5,6,7] (lf ab.zero [1,2] [(0,0)] []))
theorem Aa(k u:Nat)(g:1≤k)(e:k≤2):aa Zm 243 #[.agg #[iN k,iN u]] [] [] (λE=>[bg (E.val 0) ([(⟨5,u,k-1⟩:Ev)])]) (λE=>(E.val 0)):=by
 exact fG Tryz.func243 λw f=>ra (λd=>[(1,pt (B0 d) 0),(2,.slice none 0 0)]) (λd=>[ob (B0 d) #[iN k,iN u] 285]) λd=>rr (λ_=>[(1,.l 0),(3,.l 0),(4,.t (tb (a:=iN k) (b:=i6 1) λ_ _ _ _=>ma (a:=k) (b:=1) Om Om)),(6,g5 jv 1 1 [(⟨5,u,k-1⟩:Ev)])]) (λc=>[(2,.slice (some ⟨(c 6).y 0,0,none⟩) 1 1)]) [2] (λc L=>L++[bg (.slice (some ⟨(c 6).y 0,0,none⟩) 1 1) ([(⟨5,u,k-1⟩:Ev)])]) λc=>lf (.l [] [] [.slice (some ⟨(c 6).y 0,0,none⟩) 1 1]) [1] [] []
theorem R3(g a f:Nat)(r:Rp)(i:aO r)(u:Nat)(x:u<r.m.R*r.m.B*r.m.M):aa Zm 240 #[pt g 0,.agg #[i6 1,iN u]] [pk (au g a f r)] [0] (λ_=>[pk (au g a f r)]) (λ_=> .bool (qD r u)):=aa.pkZ Tryz.func240 λL k=>by
 obtain⟨rfl⟩:=k;refine⟨[1,2],λ_=>[pk (aH a r.m),pk (bJ f r.q)],?_,rfl,λE=>⟨rfl,rfl,rfl⟩⟩;have b:=i.m;have v:=i.j;have p:=i.n;have j:=b.O;have n:=b.ly;have o:=b.np;refine fG Tryz.func240 λw q=>ra (λd=>[(3,pt (B0 d) 0),(4,.bool false)]) (λd=>[ob (B0 d) #[i6 1,iN u] 285]) λd=>rr (λ_=>[(3,.l 0),(4,.c [1] [1] (jt a r.m b)),(7,.s 4)]) (λe=>[(5,pt (B6 e) 0)]) [] (λe L=>L++[ob (B6 e) #[iN r.m.R,iN r.m.S,iN r.m.B,iN r.m.M,iN r.m.C] 23]) λe=>r0 [(1,.l 3)] [(17,i6 1)] [] (rT [] 18 (r0 [(3,.l 0),(4,.c [1] [1] (Q4 a r.m b))] [(6,iN (dE r.m)),(7,.bool (dy r.m))] [] (r0 [(1,.m (ld 3 (iN u))),(2,.t (tk (show Value.bool (decide ((u:Int)<0))= .bool false from ALca Value.bool (by exact bl Om)))),(5,.m (ld 3 (iN u))),(6,.m (ls 4 ([iN r.m.R,iN r.m.S,iN r.m.B,iN r.m.M,iN r.m.C]))),(7,.c [] [] (mL r.m.R r.m.S r.m.B r.m.M r.m.C j)),(8,.t (tk (show Value.bool (decide ((((r.m.R*r.m.B)*r.m.M:Nat):Int)≤(u:Int)))= .bool false from ALca Value.bool (by exact bl Om)))),(14,.m (ld 0 (pt a 0))),(16,.m (ld 3 (iN u))),(17,.c [1] [1] (zS a r.m b u Om)),(23,.m (ld 3 (iN u))),] [(55,.bool ((r.m.Q.getD u false)||((dy r.m)&&(decide (((dE r.m:Nat):Int)≤(u:Int))))))] [] ?_)));refine cB ((r.m.Q.getD u false)||((dy r.m)&&(decide (((dE r.m:Nat):Int)≤(u:Int))))) (λh=>?_) λh=>?_
 ·exact r0 [] [(4,.bool true)] [4] (ao (.bool true) ab.zero (by unfold qD;simp only[←zV,←mh];(repeat (rw[h]));rfl) [1,2] [(0,0)] [])
 exact r0 [(4,.m (ld 0 (iN r.j.A))),(6,.m (ld 3 (i6 1))),(13,.m (ld 0 (iN r.j.fr))),(15,.m (ld 3 (iN u))),] [(4,.bool (((r.j.A:Int)==1)&&((r.j.fr:Int)==(u:Int))))] [4] (ao (.bool (((r.j.A:Int)==1)&&((r.j.fr:Int)==(u:Int)))) ab.zero (by unfold qD;simp only[←zV,←mh];(repeat (rw[h]));rfl) [1,2] [(0,0)] [])
theorem R4(g a h:Nat)(r:Rp)(j:aO r)(u:Nat)(y:u<r.m.R):aa Zm 240 #[pt g 0,.agg #[i6 2,iN u]] [pk (au g a h r)] [0] (λ_=>[pk (au g a h r)]) (λ_=> .bool (qE r u)):=aa.pkZ Tryz.func240 λL k=>by
 obtain⟨rfl⟩:=k;refine⟨[1,2],λ_=>[pk (aH a r.m),pk (bJ h r.q)],?_,rfl,λE=>⟨rfl,rfl,rfl⟩⟩;have b:=j.m;have x:=j.j;have p:=j.n;have v:=b.O;have n:=b.ly;have o:=b.np;refine fG Tryz.func240 λw q=>ra (λe=>[(3,pt (B0 e) 0),(4,.bool false)]) (λe=>[ob (B0 e) #[i6 2,iN u] 285]) λe=>rr (λ_=>[(3,.l 0),(4,.c [1] [1] (jt a r.m b)),(7,.s 4)]) (λf=>[(5,pt (B6 f) 0)]) [] (λf L=>L++[ob (B6 f) #[iN r.m.R,iN r.m.S,iN r.m.B,iN r.m.M,iN r.m.C] 23]) λf=>r0 [(1,.l 3)] [(17,i6 2)] [] (rF [] 18 (rT [] 56 (r0 [(3,.m (ld 0 (pt a 0))),(5,.m (ld 3 (iN u))),(6,.c [1] [1] (Fs a r.m b u Om)),] [(9,.bool (dD r.m u))] [] (r0 [(3,.m (ld 3 (iN u))),(4,.t (tk (show Value.bool (decide ((u:Int)<0))= .bool false from ALca Value.bool (by exact bl Om)))),(8,.m (ld 3 (iN u))),(10,.m (ld 4 (iN r.m.R))),(11,.t (tk (show Value.bool (decide ((r.m.R:Int)≤(u:Int)))= .bool false from ALca Value.bool (by exact bl Om))))] [(80,.bool (((dD r.m u)||false)||false))] [] ?_))));refine cB (((dD r.m u)||false)||false) (λi=>?_) λi=>?_
 ·exact r0 [] [(4,.bool true)] [4] (ao (.bool true) ab.zero (by unfold qE;simp only[←mh];have d:=i;simp only[aba] at d;rw[d];rfl) [1,2] [(0,0)] [])
 exact r0 [(4,.m (ld 0 (iN r.j.A))),(6,.m (ld 3 (i6 2))),(13,.m (ld 0 (iN r.j.fr))),(15,.m (ld 3 (iN u))),] [(4,.bool (((r.j.A:Int)==2)&&((r.j.fr:Int)==(u:Int))))] [4] (ao (.bool (((r.j.A:Int)==2)&&((r.j.fr:Int)==(u:Int)))) ab.zero (by unfold qE;simp only[←mh];have d:=i;simp only[aba] at d;rw[d];rfl) [1,2] [(0,0)] [])
theorem R5(g a b:Nat)(r:Rp)(h:aO r)(u:Nat)(hp:dy r.m=true):aa Zm 241 #[pt g 0,.agg #[i6 1,iN u]] [pk (au g a b r)] [0] (λE=>[pk (au g a b {r with m:=qw r.m,j:=⟨1,u,dE r.m,0⟩}),bg (E.val 0) ([(⟨3,u,dE r.m⟩:Ev)])]) (λE=>(E.val 0)):=aa.pkW (n:=1) (N:=λE=>[bg (E.val 0) ([(⟨3,u,dE r.m⟩:Ev)])]) (enters_of Tryz.func241 Kr rfl) λL i=>by
 obtain⟨rfl⟩:=i;refine⟨[0,1,2],λ_=>[ob g #[pt a 0,i6 1,iN u,iN (dE r.m),i6 0,pt b 0] 133,pk (aH a (qw r.m)),pk (bJ b r.q)],?_,rfl,λE=>⟨rfl,rfl,rfl⟩⟩;have e:=h.m;have v:=h.j;have p:=h.n;have t:=e.O;have k:=e.ly;have o:=e.np;exact fG Tryz.func241 λw q=>ra (λf=>[(3,pt (B0 f) 0),(4,.slice none 0 0)]) (λf=>[ob (B0 f) #[i6 1,iN u] 285]) λf=>r0 [] [(5,i6 3)] [] (r0 [(3,.l 0)] [(6,.func (.func 265) #[pt a 0] #[])] [] (rF [(1,.l 3)] 16 (rr (λ_=>[(1,.c [1] [1] (Q5 a r.m e Om))]) (λ_=>[(7,iN (dE r.m)),(8,i6 0)]) [] (λ_ L=>L.set 1 ((pk (aH a (qw r.m))))) λx=>rF [] 28 (rs [(2,.l 3),(4,.l 3),(9,.s 0)] 0 (ob g #[pt a 0,i6 1,iN u,iN (dE r.m),i6 0,pt b 0] 133) (rr (λ_=>[(2,.l 3),(5,g5 jv 4 1 [(⟨3,u,dE r.m⟩:Ev)])]) (λd=>[(4,.slice (some ⟨(d 5).y 0,0,none⟩) 1 1)]) [4] (λd L=>L++[bg (.slice (some ⟨(d 5).y 0,0,none⟩) 1 1) ([(⟨3,u,dE r.m⟩:Ev)])]) λd=>lf (.l [] [] [.slice (some ⟨(d 5).y 0,0,none⟩) 1 1]) [0,1,2,4] [] [])))))
theorem R6(g b f:Nat)(r:Rp)(h:aO r)(u:Nat)(hp:dy r.m=false):aa Zm 241 #[pt g 0,.agg #[i6 1,iN u]] [pk (au g b f r)] [0] (λE=>[pk (au g b f r),bg (E.val 0) ([(⟨5,u,1-1⟩:Ev)])]) (λE=>(E.val 0)):=aa.pkW (n:=1) (N:=λE=>[bg (E.val 0) ([(⟨5,u,1-1⟩:Ev)])]) (enters_of Tryz.func241 Kr rfl) λL i=>by
 obtain⟨rfl⟩:=i;refine⟨[1,2],λ_=>[pk (aH b r.m),pk (bJ f r.q)],?_,rfl,λE=>⟨rfl,rfl,rfl⟩⟩;have d:=h.m;have q:=h.j;have m:=h.n;have p:=d.O;have j:=d.ly;have k:=d.np;exact fG Tryz.func241 λw o=>ra (λe=>[(3,pt (B0 e) 0),(4,.slice none 0 0)]) (λe=>[ob (B0 e) #[i6 1,iN u] 285]) λe=>r0 [] [(5,i6 3)] [] (r0 [(3,.l 0)] [(6,.func (.func 265) #[pt b 0] #[])] [] (rF [(1,.l 3)] 16 (r0 [(1,.c [1] [1] (Q6 b r.m d Om))] [(7,i6 0),(8,i6 52)] [] (rT [] 28 (rr (λ_=>[(0,.l 3),(1,.c [] [4] (Aa 1 u Om Om))]) (λa=>[(4,((a 1).val 0))]) [4] (λa L=>L++[bg ((a 1).val 0) ([(⟨5,u,1-1⟩:Ev)])]) λa=>lf (.l [] [] [((a 1).val 0),(a 1).val 0]) [1,2,4] [(0,0)] [])))))
theorem R7(g a b:Nat)(r:Rp)(h:aO r)(u:Nat)(hp:dY r.m=true):aa Zm 241 #[pt g 0,.agg #[i6 2,iN u]] [pk (au g a b r)] [0] (λE=>[pk (au g a b {r with m:=qx r.m,j:=⟨2,u,fl r.m,0⟩}),bg (E.val 0) ([(⟨4,u,fl r.m⟩:Ev)])]) (λE=>(E.val 0)):=aa.pkW (n:=1) (N:=λE=>[bg (E.val 0) ([(⟨4,u,fl r.m⟩:Ev)])]) (enters_of Tryz.func241 Kr rfl) λL i=>by
 obtain⟨rfl⟩:=i;refine⟨[0,1,2],λ_=>[ob g #[pt a 0,i6 2,iN u,iN (fl r.m),i6 0,pt b 0] 133,pk (aH a (qx r.m)),pk (bJ b r.q)],?_,rfl,λE=>⟨rfl,rfl,rfl⟩⟩;have e:=h.m;have v:=h.j;have p:=h.n;have t:=e.O;have k:=e.ly;have o:=e.np;exact fG Tryz.func241 λw q=>ra (λf=>[(3,pt (B0 f) 0),(4,.slice none 0 0)]) (λf=>[ob (B0 f) #[i6 2,iN u] 285]) λf=>r0 [] [(5,i6 3)] [] (r0 [(3,.l 0)] [(6,.func (.func 265) #[pt a 0] #[])] [] (rT [(1,.l 3)] 16 (r0 [(3,.l 0)] [(5,i6 4),(6,.func (.func 266) #[pt a 0] #[])] [5,6] (rr (λ_=>[(1,.c [1] [1] (Q7 a r.m e Om))]) (λ_=>[(7,iN (fl r.m)),(8,i6 0)]) [] (λ_ L=>L.set 1 ((pk (aH a (qx r.m))))) λx=>rF [] 28 (rs [(2,.l 3),(4,.l 3),(9,.s 0)] 0 (ob g #[pt a 0,i6 2,iN u,iN (fl r.m),i6 0,pt b 0] 133) (rr (λ_=>[(2,.l 3),(5,g5 jv 4 1 [(⟨4,u,fl r.m⟩:Ev)])]) (λd=>[(4,.slice (some ⟨(d 5).y 0,0,none⟩) 1 1)]) [4] (λd L=>L++[bg (.slice (some ⟨(d 5).y 0,0,none⟩) 1 1) ([(⟨4,u,fl r.m⟩:Ev)])]) λd=>lf (.l [] [] [.slice (some ⟨(d 5).y 0,0,none⟩) 1 1]) [0,1,2,4] [] []))))))
theorem R8(g a f:Nat)(r:Rp)(h:aO r)(u:Nat)(hp:dY r.m=false):aa Zm 241 #[pt g 0,.agg #[i6 2,iN u]] [pk (au g a f r)] [0] (λE=>[pk (au g a f r),bg (E.val 0) ([(⟨5,u,2-1⟩:Ev)])]) (λE=>(E.val 0)):=aa.pkW (n:=1) (N:=λE=>[bg (E.val 0) ([(⟨5,u,2-1⟩:Ev)])]) (enters_of Tryz.func241 Kr rfl) λL i=>by
 obtain⟨rfl⟩:=i;refine⟨[1,2],λ_=>[pk (aH a r.m),pk (bJ f r.q)],?_,rfl,λE=>⟨rfl,rfl,rfl⟩⟩;have d:=h.m;have q:=h.j;have m:=h.n;have p:=d.O;have j:=d.ly;have k:=d.np;exact fG Tryz.func241 λw o=>ra (λe=>[(3,pt (B0 e) 0),(4,.slice none 0 0)]) (λe=>[ob (B0 e) #[i6 2,iN u] 285]) λe=>r0 [] [(5,i6 3)] [] (r0 [(3,.l 0)] [(6,.func (.func 265) #[pt a 0] #[])] [] (rT [(1,.l 3)] 16 (r0 [(3,.l 0)] [(5,i6 4),(6,.func (.func 266) #[pt a 0] #[])] [5,6] (r0 [(1,.c [1] [1] (Q8 a r.m d Om))] [(7,i6 0),(8,i6 52)] [] (rT [] 28 (rr (λ_=>[(0,.l 3),(1,.c [] [4] (Aa 2 u Om Om))]) (λb=>[(4,((b 1).val 0))]) [4] (λb L=>L++[bg ((b 1).val 0) ([(⟨5,u,2-1⟩:Ev)])]) λb=>lf (.l [] [] [((b 1).val 0),(b 1).val 0]) [1,2,4] [(0,0)] []))))))
end
section
open Go Go.RowKit Go.Shelf
theorem R9(g b c:Nat)(r:Rp)(f:aO r)(a:Ak)(h:eJ r.m a):aa Zm 240 #[pt g 0,.agg #[iN a.k,iN a.w]] [pk (au g b c r)] [0] (λ_=>[pk (au g b c r)]) (λ_=> .bool (c8 r a)):=by
 obtain⟨k,u⟩:=a;rcases h.k with⟨d,e⟩ | ⟨d,e⟩
 ·cases d;exact R3 g b c r f u e
 ·cases d;exact R4 g b c r f u e
theorem Sa(g b c:Nat)(r:Rp)(e:aO r)(a:Ak)(h:eJ r.m a):aa Zm 241 #[pt g 0,.agg #[iN a.k,iN a.w]] [pk (au g b c r)] [0] (λE=>[pk (au g b c (de r a)),bg (E.val 0) (fZ r a)]) (λE=>E.val 0):=by
 obtain⟨k,u⟩:=a;unfold de fZ;rcases h.k with⟨f,i⟩ | ⟨f,i⟩
 ·cases f;cases d:dy r.m with
  | true=>exact R5 g b c r e u d
  | false=>exact R6 g b c r e u d
 ·cases f;cases d:dY r.m with
  | true=>exact R7 g b c r e u d
  | false=>exact R8 g b c r e u d
abbrev qG(g a b:Nat)(r:Rp):aj:=[ob g #[pt a 0,iN r.j.A,iN r.j.fr,iN r.j.tg,iN r.j.nx,pt b 0] 133,pk (aH a r.m),pk (bJ b r.q)]
theorem px(g b c:Nat)(r:Rp)(e:aO r)(a:Ak)(d:eJ r.m a):aa Zm 240 #[pt g 0,.agg #[iN a.k,iN a.w]] (qG g b c r) [0,1,2] (λ_=>qG g b c r) (λ_=> .bool (c8 r a)):=(R9 g b c r e a d).unpk (N:=λ_=>[])
theorem Ab(g b c:Nat)(r:Rp)(e:aO r)(a:Ak)(d:eJ r.m a):aa Zm 241 #[pt g 0,.agg #[iN a.k,iN a.w]] (qG g b c r) [0,1,2] (λE=>qG g b c (de r a)++[bg (E.val 0) (fZ r a)]) (λE=>E.val 0):=(Sa g b c r e a d).unpk (N:=λE=>[bg (E.val 0) (fZ r a)])
theorem Sb(g b d:Nat)(r:Rp)(e:aO r)(a:Ak)(j:eJ r.m a)(hv:c8 r a=true):aa Zm 207 #[pt g 0,.agg #[iN a.k,iN a.w]] [pk (au g b d r)] [0] (λE=>[pk (au g b d r),bg (E.val 0) ([])]) (λE=>(E.val 0)):=aa.pkW (n:=1) (N:=λE=>[bg (E.val 0) ([])]) (enters_of Tryz.func207 Kr rfl) λL i=>by
 obtain⟨rfl⟩:=i;refine⟨[1,2],λ_=>[pk (aH b r.m),pk (bJ d r.q)],?_,rfl,λE=>⟨rfl,rfl,rfl⟩⟩;have h:=e.m;have s:=e.j;have o:=e.n;have q:=h.O;have k:=h.ly;have m:=h.np;exact fG Tryz.func207 λw p=>ra (λf=>[(3,pt (B0 f) 0),(4,.slice none 0 0)]) (λf=>[ob (B0 f) #[iN a.k,iN a.w] 285]) λf=>rT [(1,.l 3),(2,.c [0,1,2] [0,1,2] (aa.v ((px g b d r e a j)) λ_=>ALca Value.bool (show(c8 r a)=true from(by exact hv))))] 5 (r0 [] [(4,.slice none 0 0)] [4] (cz jv (lf (.l [] [] [.slice none 0 0]) [1,2,4] [(0,0)] [])))
theorem Sc(g b d:Nat)(r:Rp)(f:aO r)(a:Ak)(k:eJ r.m a)(hv:c8 r a=false)(s:r.j.A=0):aa Zm 207 #[pt g 0,.agg #[iN a.k,iN a.w]] [pk (au g b d r)] [0] (λE=>[pk (au g b d (de r a)),bg (E.val 0) (fZ r a)]) (λE=>(E.val 0)):=aa.pkW (n:=1) (N:=λE=>[bg (E.val 0) (fZ r a)]) (enters_of Tryz.func207 Kr rfl) λL p=>by
 obtain⟨rfl⟩:=p;refine⟨[0,1,2],λ_=>[ob g #[pt b 0,iN ((de r a).j.A),iN ((de r a).j.fr),iN ((de r a).j.tg),iN ((de r a).j.nx),pt d 0] 133,pk (aH b (de r a).m),pk (bJ d (de r a).q)],?_,rfl,λE=>⟨rfl,rfl,rfl⟩⟩;have i:=f.m;have z:=f.j;have v:=f.n;have y:=i.O;have t:=i.ly;have u:=i.np;refine fG Tryz.func207 λw x=>ra (λh=>[(3,pt (B0 h) 0),(4,.slice none 0 0)]) (λh=>[ob (B0 h) #[iN a.k,iN a.w] 285]) λh=>rF [(1,.l 3),(2,.c [0,1,2] [0,1,2] (aa.v ((px g b d r f a k)) λ_=>ALca Value.bool (show(c8 r a)=false from(by exact hv))))] 5 (r0 [(1,.c [0,1,2] [1,2] (mP g b d r))] [(9,.bool (!((r.j.A:Int) != 0)))] [] ?_);have o:(!((r.j.A:Int) != 0))=true:=by rw[s];rfl
 exact cT (!((r.j.A:Int) != 0)) o (rr (λ_=>[(1,.l 3),(2,.c [0,1,2] [0,1,2,4] (Ab g b d r f a k))]) (λe=>[(4,(e 2).val 0)]) [4] (λe L=>((L.set 0 (ob g #[pt b 0,iN ((de r a).j.A),iN ((de r a).j.fr),iN ((de r a).j.tg),iN ((de r a).j.nx),pt d 0] 133)).set 1 ((pk (aH b (de r a).m)))).set 2 ((pk (bJ d (de r a).q)))++[bg ((e 2).val 0) (fZ r a)]) λe=>lf (.l [] [] [((e 2).val 0),(e 2).val 0]) [0,1,2,4] [] [])
theorem Sd(g d b:Nat)(r:Rp)(e:aO r)(a:Ak)(m:eJ r.m a)(hv:c8 r a=false)(u:r.j.A≠0)(x:a∈r.q):aa Zm 207 #[pt g 0,.agg #[iN a.k,iN a.w]] [pk (au g d b r)] [0] (λE=>[pk (au g d b r),bg (E.val 0) ([])]) (λE=>(E.val 0)):=aa.pkW (n:=1) (N:=λE=>[bg (E.val 0) ([])]) (enters_of Tryz.func207 Kr rfl) λL k=>by
 obtain⟨rfl⟩:=k;refine⟨[1,2],λ_=>[pk (aH d r.m),pk (bJ b r.q)],?_,rfl,λE=>⟨rfl,rfl,rfl⟩⟩;have h:=e.m;have v:=e.j;have q:=e.n;have t:=h.O;have o:=h.ly;have p:=h.np;refine fG Tryz.func207 λw s=>ra (λf=>[(3,pt (B0 f) 0),(4,.slice none 0 0)]) (λf=>[ob (B0 f) #[iN a.k,iN a.w] 285]) λf=>rF [(1,.l 3),(2,.c [0,1,2] [0,1,2] (aa.v ((px g d b r e a m)) λ_=>ALca Value.bool (show(c8 r a)=false from(by exact hv))))] 5 (r0 [(1,.c [0,1,2] [1,2] (mP g d b r))] [(9,.bool (!((r.j.A:Int) != 0)))] [] ?_);have i:(!((r.j.A:Int) != 0))=false:=by(have j:((r.j.A:Int)==0)=false:=by rw[db];omega);(rw[bne,j];rfl)
 exact cF (!((r.j.A:Int) != 0)) i (rF [(3,.l 0),(4,.l 3),(5,.c [2] [2] (RF b r.q a Om))] 22 (r0 [] [(4,.slice none 0 0)] [4] (cz jv (lf (.l [] [] [.slice none 0 0]) [1,2,4] [(0,0)] []))))
theorem Se(g e b:Nat)(r:Rp)(f:aO r)(a:Ak)(k:eJ r.m a)(hv:c8 r a=false)(A:r.j.A≠0)(x:a∉r.q)(s:r.q.length=256):aa Zm 207 #[pt g 0,.agg #[iN a.k,iN a.w]] [pk (au g e b r)] [0] (λE=>[pk (au g e b r),bg (E.val 0) ([(⟨5,a.w,a.k-1⟩:Ev)])]) (λE=>(E.val 0)):=aa.pkW (n:=1) (N:=λE=>[bg (E.val 0) ([(⟨5,a.w,a.k-1⟩:Ev)])]) (enters_of Tryz.func207 Kr rfl) λL p=>by
 obtain⟨rfl⟩:=p;refine⟨[1,2],λ_=>[pk (aH e r.m),pk (bJ b r.q)],?_,rfl,λE=>⟨rfl,rfl,rfl⟩⟩;have j:=f.m;have B:=f.j;have v:=f.n;have z:=j.O;have t:=j.ly;have u:=j.np;have q:1≤a.k∧a.k≤2:=by rcases k.k with h | h<;>omega
 refine fG Tryz.func207 λw y=>ra (λi=>[(3,pt (B0 i) 0),(4,.slice none 0 0)]) (λi=>[ob (B0 i) #[iN a.k,iN a.w] 285]) λi=>rF [(1,.l 3),(2,.c [0,1,2] [0,1,2] (aa.v ((px g e b r f a k)) λ_=>ALca Value.bool (show(c8 r a)=false from(by exact hv))))] 5 (r0 [(1,.c [0,1,2] [1,2] (mP g e b r))] [(9,.bool (!((r.j.A:Int) != 0)))] [] ?_);have m:(!((r.j.A:Int) != 0))=false:=by(have o:((r.j.A:Int)==0)=false:=by rw[db];omega);(rw[bne,o];rfl)
 exact cF (!((r.j.A:Int) != 0)) m (rT [(3,.l 0),(4,.l 3),(5,.c [2] [2] (RG b r.q a x (by(simp only[LL,s];done))))] 22 (rr (λ_=>[(0,.l 3),(1,.c [] [4] (Aa a.k a.w Om Om))]) (λd=>[(4,((d 1).val 0))]) [4] (λd L=>L++[bg ((d 1).val 0) ([(⟨5,a.w,a.k-1⟩:Ev)])]) λd=>lf (.l [] [] [((d 1).val 0),(d 1).val 0]) [1,2,4] [(0,0)] []))
theorem Sf(g d b:Nat)(r:Rp)(e:aO r)(a:Ak)(m:eJ r.m a)(hv:c8 r a=false)(x:r.j.A≠0)(t:a∉r.q)(z:r.q.length<256):aa Zm 207 #[pt g 0,.agg #[iN a.k,iN a.w]] [pk (au g d b r)] [0] (λE=>[pk (au g d b {r with q:=r.q++[a]}),bg (E.val 0) ([])]) (λE=>(E.val 0)):=aa.pkW (n:=1) (N:=λE=>[bg (E.val 0) ([])]) (enters_of Tryz.func207 Kr rfl) λL k=>by
 obtain⟨rfl⟩:=k;refine⟨[1,2],λ_=>[pk (aH d r.m),pk (bJ b (r.q++[a]))],?_,rfl,λE=>⟨rfl,rfl,rfl⟩⟩;have h:=e.m;have y:=e.j;have s:=e.n;have v:=h.O;have o:=h.ly;have p:=h.np;refine fG Tryz.func207 λw u=>ra (λf=>[(3,pt (B0 f) 0),(4,.slice none 0 0)]) (λf=>[ob (B0 f) #[iN a.k,iN a.w] 285]) λf=>rF [(1,.l 3),(2,.c [0,1,2] [0,1,2] (aa.v ((px g d b r e a m)) λ_=>ALca Value.bool (show(c8 r a)=false from(by exact hv))))] 5 (r0 [(1,.c [0,1,2] [1,2] (mP g d b r))] [(9,.bool (!((r.j.A:Int) != 0)))] [] ?_);have i:(!((r.j.A:Int) != 0))=false:=by(have j:((r.j.A:Int)==0)=false:=by rw[db];omega);(rw[bne,j];rfl)
 exact cF (!((r.j.A:Int) != 0)) i (rr (λ_=>[(3,.l 0),(4,.l 3),(5,.c [2] [2] (RH b r.q a t Om))]) (λ_=>[(22,.bool false)]) [] (λ_ L=>L.set 2 ((pk (bJ b (r.q++[a]))))) λA=>cF _ rfl (r0 [] [(4,.slice none 0 0)] [4] (cz jv (lf (.l [] [] [.slice none 0 0]) [1,2,4] [(0,0)] []))))
theorem qH(g b c:Nat)(r:Rp)(f:aO r)(a:Ak)(h:eJ r.m a):aa Zm 207 #[pt g 0,.agg #[iN a.k,iN a.w]] [pk (au g b c r)] [0] (λE=>[pk (au g b c (bq r a)),bg (E.val 0) (bT r a)]) (λE=>E.val 0):=by
 unfold bq bT;cases j:c8 r a with
 | true=>exact Sb g b c r f a h j
 | false=>
  rw[ALcf,ALcf];by_cases e:r.j.A=0
  ·rw[e];exact Sc g b c r f a h j e
  ·rw[show(r.j.A==0)=false from db.2 e,ALcf,ALcf];unfold qB vY;by_cases d:a∈r.q
   ·rw[ALifp d,ALifp d];exact Sd g b c r f a h j e d
   ·rw[ALifn d,ALifn d];by_cases i:r.q.length=256
    ·rw[ALifp i,ALifp i];exact Se g b c r f a h j e d i
    ·rw[ALifn i,ALifn i];exact Sf g b c r f a h j e d (by have:=f.n;omega)
theorem Sg(g a d:Nat)(r:Rp)(e:aO r)(s:r.j.A≠0)(f:r.j.nx<eH r.j.A r.m.B r.m.M r.m.C):aa Zm 84 #[pt g 0] [pk (au g a d r)] [0] (λ_=>[pk (au g a d r)]) (λ_=> .tuple #[iN (aU r.m r.j.A r.j.fr r.j.nx),iN (aU r.m r.j.A r.j.tg r.j.nx),i6 0]):=aa.pkZ Tryz.func84 λL k=>by
 obtain⟨rfl⟩:=k;refine⟨[1,2],λ_=>[pk (aH a r.m),pk (bJ d r.q)],?_,rfl,λE=>⟨rfl,rfl,rfl⟩⟩;have b:=e.m;have h:=e.j;have o:=e.n;have q:=b.O;have l:=b.ly;have n:=b.np;refine fG Tryz.func84 λw p=>r0 [] [(2,i6 0),(3,i6 0),(4,i6 0)] [] (r0 [(1,.c [0,1,2] [1,2] (mP g a d r))] [(7,.bool (!((r.j.A:Int) != 0)))] [] ?_);have i:(!((r.j.A:Int) != 0))=false:=by(have j:((r.j.A:Int)==0)=false:=by rw[db];omega);(rw[bne,j];rfl)
 exact cF (!((r.j.A:Int) != 0)) i (r0 [(3,.m (ls 0 ([iN r.j.A,iN r.j.fr,iN r.j.tg,iN r.j.nx]))),(7,.m (ld 0 (pt a 0))),(12,.m (ld 0 (iN r.j.nx))),(13,.c [1] [1] (Rw a r.m b r.j h r.j.nx f)),] [(2,iN (aU r.m r.j.A r.j.fr r.j.nx)),(4,i6 0)] [2,4] (rT [] 26 (r0 [(3,.m (ls 0 ([iN r.j.A,iN r.j.fr,iN r.j.tg,iN r.j.nx]))),(7,.m (ld 0 (pt a 0))),(12,.m (ld 0 (iN r.j.nx))),(13,.c [1] [1] (Rx a r.m b r.j h r.j.nx f)),] [(3,iN (aU r.m r.j.A r.j.tg r.j.nx)),(4,i6 0)] [3,4] (r0 [] [(2,iN (aU r.m r.j.A r.j.fr r.j.nx)),(3,iN (aU r.m r.j.A r.j.tg r.j.nx)),(4,i6 0)] [2,3,4] (lf ab.zero [1,2] [(0,0)] [])))))
theorem Sh(g a b:Nat)(r:Rp)(e:aO r)(i:r.j.A=0):aa Zm 84 #[pt g 0] [pk (au g a b r)] [0] (λ_=>[pk (au g a b r)]) (λ_=> .tuple #[i6 0,i6 0,i6 51]):=aa.pkZ Tryz.func84 λL h=>by
 obtain⟨rfl⟩:=h;refine⟨[1,2],λ_=>[pk (aH a r.m),pk (bJ b r.q)],?_,rfl,λE=>⟨rfl,rfl,rfl⟩⟩;have d:=e.m;have o:=e.j;have l:=e.n;have n:=d.O;have j:=d.ly;have k:=d.np;refine fG Tryz.func84 λw m=>r0 [] [(2,i6 0),(3,i6 0),(4,i6 0)] [] (r0 [(1,.c [0,1,2] [1,2] (mP g a b r))] [(7,.bool (!((r.j.A:Int) != 0)))] [] ?_);have f:(!((r.j.A:Int) != 0))=true:=by rw[i];rfl
 exact cT (!((r.j.A:Int) != 0)) f (r0 [] [(2,i6 0),(3,i6 0),(4,i6 51)] [2,3,4] (lf ab.zero [1,2] [(0,0)] []))
end
end E
end Go.Proofs.YtbcodenfkijdnaaGreat
