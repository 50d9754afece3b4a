/- WholeChip, in 7 texts: part 3. For every input; no condition. -/
import Derived.Test.YtbcodenfkijdnaaGreatPc2
import Derived.WideShapes
import Derived.OpenShut
import Derived.WideOpen
import Derived.Deep.Slices
import Derived.IntWalk
set_option linter.unusedVariables false
set_option linter.unusedSimpArgs false
set_option maxRecDepth 100000
namespace Go.Proofs.YtbcodenfkijdnaaGreat
open List renaming getD_eq_getElem?_getD→ZJ,range→ZL,getElem?_eq_getElem→ZM,replicate→ZN,length_append→ZO,length_take→ZP,length_map→ZQ,getElem?_append_left→ZS,getElem?_append_right→ZX,length_drop→ZY,length_range→ZZ,getElem?_eq_none→Z1,length_set→Z3,length_replicate→Z4,getElem?_take_of_lt→aad,getElem?_set→aae,getElem?_drop→aai,append_nil→aaj,range_succ→aak,flatten_cons→aal,flatten_append→aam,getElem?_cons_succ→aap,getElem?_map→aar,length_cons→aat,length_tail→aau,take_add_one→aaA,ext_getElem?→aaB,append_assoc→aaC,getElem?_cons_zero→aaD,not_mem_nil→aaE,flatMap_singleton→aaG,drop_left'→aaI,map_append→aaJ,drop_drop→aaL,getElem?_range→aaN,flatMap_append→aaO,mem_cons_self→aaQ,size_toArray→aaR,foldl_append→aaS,ext_getElem→aaU,eq_nil_of_length_eq_zero→aaV,foldl_cons→aaY,take_left'→aaZ,range'→aa0,drop_eq_getElem_cons→aa7,take_of_length_le→aa9,toArray→abb,mem_cons_of_mem→abf,mem_append_left→abg,drop_replicate→abi,replicate_succ→abk,getElem_of_mem→abl,take_length→abp,range'_succ→abr,flatten_nil→abt,drop_zero→aby
open Go.Proofs.Tryz renaming prog→ZK
open Nat renaming mul_comm→ZR,mul_assoc→ZU,mod_lt→ZV,mul_le_mul_right→ZW,xor_assoc→Z2,zero_add→Z5,le_refl→Z6,xor_lt_two_pow→Z8,xor_zero→aaa,le_trans→aab,mod_eq_of_lt→aac,div_lt_of_lt_mul→aaf,xor_self→aag,zero_le→aan,pow_succ→aao,lt_of_le_of_lt→aaq,zero_xor→aas,pow_lt_pow_right→aav,mod_two_eq_zero_or_one→aax,lt_or_ge→aaz,le_mul_of_pos_right→aaF,div_eq_of_lt→aaH,not_lt_zero→aaK,add_mul_div_left→aaM,mul_le_mul→aaP,zero_mul→aaW,and_le_right→aaX,div_add_mod→aa1,pow_mul→aa2,add_mul→aa4,add_mul_mod_self_right→aa6,add_mul_mod_self_left→aa8,add_sub_cancel_left→aba,le_mul_of_pos_left→abd,xor_comm→abe,add_mul_div_right→abh,mul_one→abm,le_add_right→abx,div_le_self→abz,add_assoc→abC,mul_succ→abE,pow_zero→abF,succ_mul→abG,add_comm→abH
open Bool renaming and_eq_true→ZT,or_eq_false_iff→Z0,and_eq_false_iff→abc,and_true→abA,or_false→abB
open UInt8 renaming toNat_xor→Z7,xor_self→Z9,zero_xor→aay,toNat_ofNat'→abj,ofNat_toNat→abn,xor_assoc→abq,xor_comm→abu,toNat_lt→abv,xor_zero→abw
open Int renaming toNat_of_nonneg→aah,natCast_mul→aa3
open Classical renaming byContradiction→aaw,not_forall→aa5
open Option renaming map_some→aaT
open Go.World renaming cells?_some→abo,cell?→abD
namespace E
section
open Go Go.RowKit Go.Shelf
theorem pb(m:Int):aa ZK 71 #[i6 m] [] [] N0 (λ_=> .bool ((m==1)||(m==2))):=by
 exact fG Tryz.func71 λw a=>r0 [] [(2,.bool false)] [] (r0 [] [(2,.bool ((m==1)||(m==2)))] [2] (lf ab.zero [] [] []))
theorem vC:aa ZK 75 #[i6 1] [] [] N0 (λ_=>i6 9):=by
 exact fG Tryz.func75 λw a=>r0 [] [(2,i6 0)] [] (r0 [] [(3,i6 1)] [] (rT [] 4 (r0 [] [(2,i6 9)] [2] (ak (i6 9) ab.zero a9 [] [] []))))
theorem vD:aa ZK 75 #[i6 2] [] [] N0 (λ_=>i6 36):=by
 exact fG Tryz.func75 λw a=>r0 [] [(2,i6 0)] [] (r0 [] [(3,i6 2)] [] (rF [] 4 (rT [] 6 (r0 [] [(2,i6 36)] [2] (ak (i6 36) ab.zero a9 [] [] [])))))
theorem yZ:aa ZK 192 #[i6 1] [] [] N0 (λ_=>i6 8):=by
 refine fG Tryz.func192 λw f=>r0 [] [(2,i6 0)] [] (r0 [(1,.c [] [] (pb 1))] [(5,.bool (!((1==1)||(1==2))))] [] ?_);have e:(!((1==1)||(1==2)))=false:=by decide
 exact cF (!((1==1)||(1==2))) e (r0 [(1,.c [] [] (vC)),(2,.t (tb (a:=i6 72) (b:=i6 9) λ_ _ _ _=>oT (a:=72) (d:=9) Dc Om))] [(2,iN (72/9))] [2] (ak (iN (72/9)) ab.zero a9 [] [] []))
theorem y0:aa ZK 192 #[i6 2] [] [] N0 (λ_=>i6 2):=by
 refine fG Tryz.func192 λw f=>r0 [] [(2,i6 0)] [] (r0 [(1,.c [] [] (pb 2))] [(5,.bool (!((2==1)||(2==2))))] [] ?_);have e:(!((2==1)||(2==2)))=false:=by decide
 exact cF (!((2==1)||(2==2))) e (r0 [(1,.c [] [] (vD)),(2,.t (tb (a:=i6 72) (b:=i6 36) λ_ _ _ _=>oT (a:=72) (d:=36) Dc Om))] [(2,iN (72/36))] [2] (ak (iN (72/36)) ab.zero a9 [] [] []))
theorem Eg{α:Type}{en:α→List Value}{d:α}{a l m c N:Nat}{ys:List α}{t:TypeId}(h1: ∀x,(en x).length=1)(h:ys.length=N)(b:l+m≤N):dR en (.slice (some ⟨a,l*1,none⟩) m c) ((ys.drop l).take m) [(a,.cells ((cS en d N ys).toArray) t (0,0))]:=
 .inr ⟨a,l*1,_,t,(0,0),c,by rw[show((ys.drop l).take m).length=m by rw[ZP,ZY];omega],by simp,Cp (d:=d) h1 h b⟩
theorem Eh(xs:List UInt8)(d:xs.length=72)(q:Nat)(g:q<8):aa ZK 194 #[.agg (rB 72 xs).toArray,i6 1,iN q] [] [] (λE=>[bB (E.val 0) ((xs.drop (9*q)).take 9)]) (λE=>(E.val 0)):=by
 refine fG Tryz.func194 λw f=>ra (λa=>[(3,pt (B0 a) 0),(6,.slice none 0 0)]) (λa=>[ob (B0 a) (rB 72 xs).toArray 217]) λa=>r0 [(5,.c [] [] (yZ))] [(15,.bool ((decide ((q:Int)<0))||(decide (8≤(q:Int)))))] [] ?_;have e:((decide ((q:Int)<0))||(decide (8≤(q:Int))))=false:=by rw[a8 Om,a8 Om];rfl
 exact cF ((decide ((q:Int)<0))||(decide (8≤(q:Int)))) e (r0 [(1,.c [] [] (vC))] [(7,i6 9)] [] (rr (λb=>[(0,.m (sj 1 eB ([u1 0]) 5)),(3,ml 9 q),(6,ml 9 q),(8,ad (9*q) 9),(9,aM 217 (B0 a) 72 1 (9*q) 9),(10,.m (mK 1 0 oW (.slice (some ⟨(b 0).y 0,0,none⟩) 0 0) (.slice (some ⟨(a 0).y 0,(9*q)*1,none⟩) 9 (72-(9*q))) (xs:=[]) (ys:=(xs.drop (9*q)).take 9) (ob (B0 a) (rB 72 xs).toArray 217) (λ_ h=>by rw[show _=_ from h];exact Eg (λ_=>rfl) d Om) oV (λ_=>rfl) (by simp only[LL,d];omega)))]) (λb=>[(6,(b 10).val 0)]) [6] (λb L=>L++[bB ((b 10).val 0) ([]++((xs.drop (9*q)).take 9))]) λb=>lf (.l [] [] [(b 10).val 0]) [1] [] [] (hf:=by kernel_rfl)))
theorem Ei(xs:List UInt8)(d:xs.length=72)(q:Nat)(g:q<2):aa ZK 194 #[.agg (rB 72 xs).toArray,i6 2,iN q] [] [] (λE=>[bB (E.val 0) ((xs.drop (36*q)).take 36)]) (λE=>(E.val 0)):=by
 refine fG Tryz.func194 λw f=>ra (λa=>[(3,pt (B0 a) 0),(6,.slice none 0 0)]) (λa=>[ob (B0 a) (rB 72 xs).toArray 217]) λa=>r0 [(5,.c [] [] (y0))] [(15,.bool ((decide ((q:Int)<0))||(decide (2≤(q:Int)))))] [] ?_;have e:((decide ((q:Int)<0))||(decide (2≤(q:Int))))=false:=by rw[a8 Om,a8 Om];rfl
 exact cF ((decide ((q:Int)<0))||(decide (2≤(q:Int)))) e (r0 [(1,.c [] [] (vD))] [(7,i6 36)] [] (rr (λb=>[(0,.m (sj 1 eB ([u1 0]) 5)),(3,ml 36 q),(6,ml 36 q),(8,ad (36*q) 36),(9,aM 217 (B0 a) 72 1 (36*q) 36),(10,.m (mK 1 0 oW (.slice (some ⟨(b 0).y 0,0,none⟩) 0 0) (.slice (some ⟨(a 0).y 0,(36*q)*1,none⟩) 36 (72-(36*q))) (xs:=[]) (ys:=(xs.drop (36*q)).take 36) (ob (B0 a) (rB 72 xs).toArray 217) (λ_ h=>by rw[show _=_ from h];exact Eg (λ_=>rfl) d Om) oV (λ_=>rfl) (by simp only[LL,d];omega)))]) (λb=>[(6,(b 10).val 0)]) [6] (λb L=>L++[bB ((b 10).val 0) ([]++((xs.drop (36*q)).take 36))]) λb=>lf (.l [] [] [(b 10).val 0]) [1] [] [] (hf:=by kernel_rfl)))
theorem On(xs ys:List UInt8)(v:Value)(g:xs.length=72)(q:Nat)(j:q<8)(h:ys.length=9):aa ZK 155 #[.agg (rB 72 xs).toArray,i6 1,iN q,v] [.p (aK eB v ys)] [] N0 (λ_=> .agg (rB 72 (xs.take (9*q)++ys++xs.drop ((9*q)+ys.length))).toArray):=by
 refine fO Tryz.func155 0 rfl λe b=>fG Tryz.func155 λw i=>ra (λa=>[(4,pt (B0 a) 0),(8,pt (B1 a) 0)]) (λa=>[ob (B0 a) (rB 72 xs).toArray 217,ob (B1 a) (rB 72 (ZN 72 0)).toArray 217]) λa=>r0 [(1,.c [] [] (vC))] [(9,i6 9)] [] (r0 [(5,.c [] [] (yZ)),(10,eG b.1 0),] [(25,.bool (((decide (0≤(q:Int)))&&(decide ((q:Int)<8)))&&((ys.length:Int)==9)))] [] ?_);have f:(((decide (0≤(q:Int)))&&(decide ((q:Int)<8)))&&((ys.length:Int)==9))=true:=by rw[cd Om,cd Om];simp [h]
 exact cT (((decide (0≤(q:Int)))&&(decide ((q:Int)<8)))&&((ys.length:Int)==9)) f (rs [(2,ml 9 q),(3,aL 217 (B0 a) 72 1 (9*q)),(5,.m (vf kB 1 (B0 a) ((9*q)*1) (72-(9*q)) (72-(9*q)) (rB 72 xs).toArray (rB 72 (xs.take (9*q)++ys++xs.drop ((9*q)+ys.length))).toArray 217 191 191 0 (.c e) v ys (cP b.1) Om (by rw[aaR,kG];omega) (by rw[abm];exact ALca abb (sd (d:=0) (λ_=>rfl) g rfl Om))))] 1 (ob (B0 a) (rB 72 (xs.take (9*q)++ys++xs.drop ((9*q)+ys.length))).toArray 217) (rs [(0,.l 1),(1,.s 2)] 2 (ob (B1 a) (rB 72 (xs.take (9*q)++ys++xs.drop ((9*q)+ys.length))).toArray 217) (lf ab.zero [] [(0,0)] [2])))
theorem Oo(xs ys:List UInt8)(v:Value)(g:xs.length=72)(q:Nat)(j:q<2)(h:ys.length=36):aa ZK 155 #[.agg (rB 72 xs).toArray,i6 2,iN q,v] [.p (aK eB v ys)] [] N0 (λ_=> .agg (rB 72 (xs.take (36*q)++ys++xs.drop ((36*q)+ys.length))).toArray):=by
 refine fO Tryz.func155 0 rfl λe b=>fG Tryz.func155 λw i=>ra (λa=>[(4,pt (B0 a) 0),(8,pt (B1 a) 0)]) (λa=>[ob (B0 a) (rB 72 xs).toArray 217,ob (B1 a) (rB 72 (ZN 72 0)).toArray 217]) λa=>r0 [(1,.c [] [] (vD))] [(9,i6 36)] [] (r0 [(5,.c [] [] (y0)),(10,eG b.1 0),] [(25,.bool (((decide (0≤(q:Int)))&&(decide ((q:Int)<2)))&&((ys.length:Int)==36)))] [] ?_);have f:(((decide (0≤(q:Int)))&&(decide ((q:Int)<2)))&&((ys.length:Int)==36))=true:=by rw[cd Om,cd Om];simp [h]
 exact cT (((decide (0≤(q:Int)))&&(decide ((q:Int)<2)))&&((ys.length:Int)==36)) f (rs [(2,ml 36 q),(3,aL 217 (B0 a) 72 1 (36*q)),(5,.m (vf kB 1 (B0 a) ((36*q)*1) (72-(36*q)) (72-(36*q)) (rB 72 xs).toArray (rB 72 (xs.take (36*q)++ys++xs.drop ((36*q)+ys.length))).toArray 217 191 191 0 (.c e) v ys (cP b.1) Om (by rw[aaR,kG];omega) (by rw[abm];exact ALca abb (sd (d:=0) (λ_=>rfl) g rfl Om))))] 1 (ob (B0 a) (rB 72 (xs.take (36*q)++ys++xs.drop ((36*q)+ys.length))).toArray 217) (rs [(0,.l 1),(1,.s 2)] 2 (ob (B1 a) (rB 72 (xs.take (36*q)++ys++xs.drop ((36*q)+ys.length))).toArray 217) (lf ab.zero [] [(0,0)] [2])))
end
section
open Go Go.RowKit Go.Shelf
def iz(a:List Nat)(i:Nat):UInt8:=UInt8.ofNat (a.getD (i/8) 0/2^(8*(i%8)))
theorem Oq{a:List Nat}{k j:Nat}(b:j<8):iz a (8*k+j)=UInt8.ofNat (a.getD k 0/2^(8*j)):=by
 unfold iz;rw[show(8*k+j)/8=k by omega,show(8*k+j)%8=j by omega]
attribute [local irreducible] b6
theorem Ot(b:List Nat)(x:b.length=8)(v: ∀i,b.getD i 0<18446744073709551616):aa ZK 196 #[.agg (rW 8 b).toArray] [] [] N0 (λ_=> .agg (rB 64 (b6 64 (iz b) (8*8))).toArray):=by
 refine fG Tryz.func196 λw u=>ra (λd=>[(1,pt (B0 d) 0),(2,pt (B1 d) 0)]) (λd=>[ob (B0 d) (rW 8 b).toArray 320,ob (B1 d) (rB 64 z6).toArray 43]) λd=>ra (λc=>[(3,pt (B0 c) 0)]) (λc=>[ob (B0 c) (rB 64 z6).toArray 43]) λc=>r0 [(0,.l 0)] [(7,.agg (rW 8 b).toArray),(8,i6 0)] [] ?_;refine lq (λk=>k≤8) (λk=>[(8,iN k)]) (λk L=>L.set 2 (ob (B0 c) (rB 64 (b6 64 (iz b) (8*k))).toArray 43)) (λk=>8-k) 0 Om Kr (by rw[Nat.mul_zero,Ob];kernel_rfl) (λk q=>?_);refine r0 [] [(9,.bool (decide ((k:Int)<8)))] [] ?_;refine cj (k:Int) 8 (λm g=>?_) λm g=>?_
 ·refine r0 [(1,.t (tv (Instr.index 320 (.agg (rW 8 b).toArray) (iN k)) (λ_=>IX (n:=8) (e:=44) Tryz.underlying320 Om (λ_=>by kernel_rfl) Kr (JK Om))))] [(4,iN k),(5,u6 ((b.getD k 0:Nat):Int))] [] (r0 [] [(12,i6 0)] [] ?_);refine lq (λj=>j≤8) (λj=>[(12,iN j)]) (λj L=>L.set 2 (ob (B0 c) (rB 64 (b6 64 (iz b) (8*k+j))).toArray 43)) (λj=>8-j) 0 Om Kr Kr (λj r=>?_);refine r0 [] [(13,.bool (decide ((j:Int)<8)))] [] ?_;refine cj (j:Int) 8 (λh f=>?_) λh f=>?_
  ·exact r0 [] [(6,iN j)] [] (rs [(1,ml 8 k),(3,ad (8*k) j),(6,ml 8 j),(7,.t (tv (convert 3 201 (iN (8*j))) (λ_=>ng Tryz.underlying3 Tryz.underlying201 Om))),(8,.t (tv (av .shr 44 (.tmp 19) (.tmp 22) (u6 ((b.getD k 0:Nat):Int)) (u6 ((8*j:Nat):Int))) (λ_=>uB (8*j) Om))),(9,.t (tc (k:= .u64) (l:= .u8) (a:=u6 ((b.getD k 0/2^(8*j):Nat):Int)) λ_ _ _ o p=>uD o p)),(10,iA 43 .i64 (B0 c) 0 64 1 ((8*k)+j)),(11,wD 2 (B0 c) ((8*k)+j) 43 (u1 ((UInt8.ofNat (b.getD k 0/2^(8*j))).toNat:Int)) (rB 64 (b6 64 (iz b) (8*k+j))) (rB 64 ((b6 64 (iz b) (8*k+j)).set ((8*k)+j) (UInt8.ofNat (b.getD k 0/2^(8*j))))) (ka Om) (mJ (lC ..)))] 2 (ob (B0 c) (rB 64 ((b6 64 (iz b) (8*k+j)).set ((8*k)+j) (UInt8.ofNat (b.getD k 0/2^(8*j))))).toArray 43) (r0 [(0,ad j 1)] [(12,iN (j+1))] [12] (le (j+1) Om Om Kr [0,1,2] (by rw[←abC,←N9 Om,Oq Om];kernel_rfl))))
  obtain rfl:j=8:=by omega
  exact lx (r0 [(0,ad k 1)] [(8,iN (k+1))] [8] (le (k+1) Om Om Kr [0,1,2] Kr))
 obtain rfl:k=8:=by omega
 exact lx (rs [(0,.l 2),(1,.s 1)] 1 (ob (B1 d) (rB 64 (b6 64 (iz b) (8*8))).toArray 43) (lf ab.zero [] [] [1]))
end
section
open Go Go.RowKit Go.Shelf
attribute [local irreducible] Zv bJ cH aR aY
theorem Ou:aa ZK 115 #[] [] [] (λE=>[ob (E.y 0) #[pt ((E.y 1)) 0,pt ((E.y 2)) 0] 242,ob (E.y 1) (rB 74 (Zv 10)++rI 256 (bJ 10)).toArray 298,ob (E.y 2) #[pt ((E.y 3)) 0,(E.val 0)] 309,ob (E.y 3) (rB 255 aR++rN 256 aY).toArray 312,bB (E.val 0) cH]) (λE=>pt ((E.y 0)) 0):=by
 exact fG Tryz.func115 λw b=>r0 [] [(0,.pointer none)] [] (rr (λa=>[(0,.c [] [0] (N2)),(1,.c [] [1] (Ma)),(2,.c [1] [2,3] (Ny (B1 a)))]) (λa=>[(0,pt (B4 a) 0)]) [0] (λa L=>L++[ob (B0 a) (rB 74 (Zv 10)++rI 256 (bJ 10)).toArray 298,ob (B1 a) (rB 255 aR++rN 256 aY).toArray 312,ob (B2 a) #[pt ((B1 a)) 0,((a 2).val 0)] 309,bB ((a 2).val 0) cH,ob (B4 a) #[pt ((B0 a)) 0,pt ((B2 a)) 0] 242]) λa=>lf (.l [(a 4).y 0,(B0 a),(B2 a),(B1 a)] [] [((a 2).val 0)]) [4,0,2,1,3] [] [])
end
section
open Go Go.RowKit Go.Shelf
def kI:Kd ZK Int:=⟨eI,[i6 0],74,3,0,1,λ_=>rfl,rfl,λ_=>rfl,eh.mk' Kr Kr rfl⟩
def jK(l:List Int):Int:=l.foldl max 0
def jF(l:List Int):Int:=l.foldl (λa k=>a+ei (k==1)) 0
theorem Ej{l:List Int}{k:Nat}(h:k<l.length):l.take (k+1)=l.take k++[l.getD k 0]:=by
 rw[aaA,ZM h,ZJ,ZM h];rfl
theorem Ov(l:List Int)(x:Int):jK (l++[x])=max (jK l) x:=by unfold jK;rw[aaS];rfl
theorem Ow(l:List Int)(x:Int):jF (l++[x])=jF l+ei (x==1):=by unfold jF;rw[aaS];rfl
theorem y1(b:Bool):0≤ei b∧ei b≤1:=by cases b<;>decide
theorem Ek(l:List Int):0≤jF l∧jF l≤l.length:=by
 suffices h: ∀(l:List Int) (a:Int),a≤l.foldl (λa k=>a+ei (k==1)) a∧l.foldl (λa k=>a+ei (k==1)) a≤a+l.length by
  have:=h l 0;unfold jF;omega
 intro l
 induction l with
 | nil=>intro a;simp
 | cons x l ih=>
  intro a;have b:=ih (a+ei (x==1));have c:=y1 (x==1);rw[aaY,aat];push_cast;omega
theorem Ox{l:List Int}{k:Nat}(h:k<l.length):jK (l.take (k+1))=max (jK (l.take k)) (l.getD k 0):=by rw[Ej h,Ov]
theorem Oy{l:List Int}{k:Nat}(h:k<l.length):jF (l.take (k+1))=jF (l.take k)+ei (l.getD k 0==1):=by rw[Ej h,Ow]
attribute [local irreducible] jK jF ei
def gH(a:List Int):Int:=(bif (jK a) != 1 then 0 else(jF a))
theorem El(v:Value)(a:List Int)(u:a.length≤1000):aa ZK 152 #[v] [.p (aK eI v a)] [] N0 (λ_=> .agg #[i6 (jK a),i6 (gH a)]):=by
 refine fO Tryz.func152 0 rfl λg e=>fG Tryz.func152 λw r=>ra (λf=>[(2,pt (B0 f) 0)]) (λf=>[ob (B0 f) #[i6 0,i6 0] 79]) λf=>ra (λb=>[(3,pt (B0 b) 0)]) (λb=>[ob (B0 b) #[i6 0,i6 0] 79]) λb=>r0 [(1,eG e.1 0)] [(6,v),(7,iN a.length),(8,i6 0)] [] ?_;refine lq (λk=>k≤a.length) (λk=>[(8,iN k)]) (λk L=>L.set 2 (ob (B0 b) #[i6 (jK (a.take k)),i6 (jF (a.take k))] 79)) (λk=>a.length-k) 0 Om Kr (by rw[List.take_zero,show jK []=0 by unfold jK;rfl,show jF []=0 by unfold jF;rfl];kernel_rfl) (λk q=>?_);have m:=Ek (a.take k);have n:(a.take k).length≤k:=by rw[ZP];omega
 have o:=y1 (a.getD k 0==1);refine r0 [] [(9,.bool (decide ((k:Int)<(a.length:Int))))] [] ?_;refine cj (k:Int) (a.length:Int) (λj i=>?_) λj i=>?_
 ·exact r0 [(0,fx e.1 0 k 1),(1,jk kI e.1 0 k 0)] [(5,i6 (a.getD k 0))] [] (rs [(1,.l 2),(3,.t (tv (Builtin.max_ #[3,3] 3 #[i6 (jK (a.take k)),i6 (a.getD k 0)]) (λ_=>se _ _ _ _))),(5,.s 2)] 2 (ob (B0 b) #[i6 (max (jK (a.take k)) (a.getD k 0)),i6 (jF (a.take k))] 79) (rs [(1,.l 2),(4,.c [] [] (Ed ((a.getD k 0)==1))),(5,aI (jF (a.take k)) ((ei ((a.getD k 0)==1))) Om),(7,.s 2)] 2 (ob (B0 b) #[i6 (max (jK (a.take k)) (a.getD k 0)),i6 ((jF (a.take k))+(ei ((a.getD k 0)==1)))] 79) (r0 [(0,ad k 1)] [(8,iN (k+1))] [8] (le (k+1) Om Om Kr [0,1,2] (by rw[Ox Om,Oy Om];kernel_rfl)))))
 obtain rfl:k=a.length:=by omega
 refine cl [.c g,ob (B0 f) #[i6 0,i6 0] 79,ob (B0 b) #[i6 (jK a),i6 (jF a)] 79] (by rw[abp];kernel_rfl) (lx (r0 [(1,.l 2)] [(27,.bool ((jK a) != 1))] [] ?_));refine cJ ((jK a) != 1) N0 (λc=>[.c g,ob (B0 f) #[i6 0,i6 0] 79,ob (B0 b) #[i6 (jK a),i6 (bif c then 0 else(jF a))] 79]) (λd=>?_) (λd=>?_) ?_
 ·have h:=bne_iff_ne.1 d;refine rs [(1,.s 2)] 2 (ob (B0 b) #[i6 (jK a),i6 0] 79) ?_;exact cm Kr [0,1,2] Kr
 ·have h:=Cq d;exact cm Kr [0,1,2] Kr
 exact rs [(0,.l 2),(1,.s 1)] 1 (ob (B0 f) #[i6 (jK a),i6 (bif (jK a) != 1 then 0 else(jF a))] 79) (lf ab.zero [] [(0,0)] [1])
def iB(h:List UInt8)(k:Nat):List UInt8:=h.take (32*k)++ZN (64-32*k) 0
theorem Oz{h:List UInt8}(a:h.length=64){k:Nat}(b:k≤2):(iB h k).length=64:=by unfold iB;rw[ZO,ZP,Z4,a];omega
theorem OA(h:List UInt8):iB h 0=ZN 64 0:=rfl
theorem y2{h:List UInt8}(a:h.length=64):iB h 2=h:=by unfold iB;rw[aa9 Om,show 64-32*2=0 from rfl,List.replicate_zero,aaj]
theorem OB{h:List UInt8}(b:h.length=64){k:Nat}(c:k<2):(iB h k).take (32*k)++(h.drop (k*32)).take 32++(iB h k).drop (32*k+32)=iB h (k+1):=by
 unfold iB;have a:(h.take (32*k)).length=32*k:=by rw[ZP];omega
 rw[aaZ a,←aaL,aaI a,abi,ZR k 32,←List.take_add,show 32*k+32=32*(k+1) by omega,show 64-32*k-32=64-32*(k+1) by omega]
attribute [local irreducible] iB
theorem OD(h:List UInt8)(a:h.length=64):aa ZK 198 #[.agg (rB 64 h).toArray] [] [] N0 (λ_=> .agg (rB 64 h).toArray):=by
 refine fG Tryz.func198 λw p=>ra (λb=>[(1,pt (B0 b) 0),(2,pt (B1 b) 0)]) (λb=>[ob (B0 b) (rB 64 h).toArray 324,ob (B1 b) (rB 64 z6).toArray 43]) λb=>ra (λc=>[(3,pt (B0 c) 0)]) (λc=>[ob (B0 c) (rB 64 z6).toArray 43]) λc=>r0 [(0,.l 0)] [(6,.agg (rB 64 h).toArray),(7,i6 0)] [] ?_;refine lq (λk=>k≤2) (λk=>[(7,iN k)]) (λk L=>L.set 2 (ob (B0 c) (rB 64 (iB h k)).toArray 43)) (λk=>2-k) 0 Om Kr (by rw[OA];kernel_rfl) (λk j=>?_);have g:=Oz a j;refine r0 [] [(8,.bool (decide ((k:Int)<2)))] [] ?_;refine cj (k:Int) 2 (λo i=>?_) λo i=>?_
 ·exact rr (λ_=>[(1,.t (tv (Instr.index 324 (.agg (rB 64 h).toArray) (iN k)) (λ_=>JZ (n:=2) (m:=32) (N:=64) (e:=267) Kr (λ_=>rfl) Om rfl a))),(4,.s 3)]) (λf=>[(5,pt (B2 f) 0),(4,iN k)]) [] (λf L=>L++[ob (B2 f) (rB 32 ((h.drop (k*32)).take 32)).toArray 267]) λf=>rs [(1,ml 32 k),(2,aL 43 (B0 c) 64 1 (32*k)),(3,aS 267 (B2 f) 32 1),(4,.m (vf kB 2 (B0 c) ((32*k)*1) (64-(32*k)) (64-(32*k)) (rB 64 (iB h k)).toArray (rB 64 ((iB h k).take (32*k)++((h.drop (k*32)).take 32)++(iB h k).drop ((32*k)+32))).toArray 43 191 191 3 (ob (B2 f) (rB 32 ((h.drop (k*32)).take 32)).toArray 267) (.slice (some ⟨(f 2).y 0,0,none⟩) 32 32) ((h.drop (k*32)).take 32) (λ_ h=>by rw[show _=_ from h];exact o1 (λ_=>rfl) (by rw[ZP,ZY,a];omega)) (by rw[(show((h.drop (k*32)).take 32).length=32 from(by rw[ZP,ZY,a];omega))];omega) (by rw[aaR,kG];rw[(show((h.drop (k*32)).take 32).length=32 from(by rw[ZP,ZY,a];omega))];omega) (by rw[abm];exact ALca abb (sd (d:=0) (λ_=>rfl) (show(iB h k).length=64 by(simp only[LL,g,a];done)) (show((h.drop (k*32)).take 32).length=32 from(by rw[ZP,ZY,a];omega)) Om))))] 2 (ob (B0 c) (rB 64 ((iB h k).take (32*k)++((h.drop (k*32)).take 32)++(iB h k).drop ((32*k)+32))).toArray 43) (r0 [(0,ad k 1)] [(7,iN (k+1))] [7] (le (k+1) Om Om Kr [0,1,2] (by rw[←OB a Om];kernel_rfl)))
 obtain rfl:k=2:=by omega
 exact cl [ob (B0 b) (rB 64 h).toArray 324,ob (B1 b) (rB 64 z6).toArray 43,ob (B0 c) (rB 64 h).toArray 43] (by rw[y2 a];kernel_rfl) (lx (rs [(0,.l 2),(1,.s 1)] 1 (ob (B1 b) (rB 64 h).toArray 43) (lf ab.zero [] [] [1])))
theorem Em(ys:List UInt8): ∀k,k≤8→aC (ys.take 8) 0 k=aC ys 0 k
 | 0,_=>rfl
 | k+1,h=>by
  rw[yY,yY,Em ys k Om];rw[show(ys.take 8).getD k 0=ys.getD k 0 by rw[ZJ,ZJ,aad Om]]
theorem OE(v:Value)(ys:List UInt8)(a:8≤ys.length):aa ZK 228 #[gY v 0 8 1] [.p (aK eB v ys)] [] N0 (λ_=> .int .u64 ((aC ys 0 8:Nat):Int)):=by
 rw[←Em ys 8 (Z6 _)];exact aa.at (Og (gY v 0 8 1) (ys.take 8) (by rw[ZP];omega)) (bM (λ_ h=>aK.take (en:=eB) (k:=1) (λ_=>rfl) h a) λ_ h=>h)
attribute [local irreducible] dn de bn fZ aC fY aV
def km:List Int:=[-1,64,65, -1,66, -1, -1,0,67, -1, -1,1, -1,2,3, -1,68, -1, -1,4, -1,5,6, -1, -1,7,8, -1,9, -1, -1,56,69, -1, -1,10, -1,11,12, -1, -1,13,14, -1,15, -1, -1,57, -1,16,17, -1,18, -1, -1,58,19, -1, -1,59, -1,60,61, -1,70, -1, -1,20, -1,21,22, -1, -1,23,24, -1,25, -1, -1,62, -1,26,27, -1,28, -1, -1,63,29, -1, -1,72, -1,73, -1, -1, -1,30,31, -1,32, -1, -1, -1,33, -1, -1, -1, -1, -1, -1, -1,34, -1, -1, -1, -1, -1, -1, -1, -1, -1, -1, -1, -1, -1, -1, -1,71, -1, -1,35, -1,36,37, -1, -1,38,39, -1,40, -1, -1, -1, -1,41,42, -1,43, -1, -1, -1,44, -1, -1, -1, -1, -1, -1, -1, -1,45,46, -1,47, -1, -1, -1,48, -1, -1, -1, -1, -1, -1, -1,49, -1, -1, -1, -1, -1, -1, -1, -1, -1, -1, -1, -1, -1, -1, -1, -1,50,51, -1,52, -1, -1, -1,53, -1, -1, -1, -1, -1, -1, -1,54, -1, -1, -1, -1, -1, -1, -1, -1, -1, -1, -1, -1, -1, -1, -1,55, -1, -1, -1, -1, -1, -1, -1, -1, -1, -1, -1, -1, -1, -1, -1, -1, -1, -1, -1, -1, -1, -1, -1, -1, -1, -1, -1, -1, -1, -1, -1]
theorem En:bJ 10=km:=by decide+kernel
theorem hp: ∀k:UInt8,(dn k (bJ 10)==1)=true→0≤de k (bJ 10):=by
 have h: ∀n:Nat,n<256→(dn (UInt8.ofNat n) km==1)=true→0≤de (UInt8.ofNat n) km:=by decide+kernel
 intro k;have:=h k.toNat k.toNat_lt;rw[En];rwa [abn] at this
theorem lD(x:Int)(b:Bool):(cp x b).length=3:=by cases b<;>rfl
theorem OF{b:Bool}{X Y:List UInt8}(a:X.length=36)(c:Y.length=36):(bif b then X.drop 4 else Y.drop 4).length=32:=by cases b<;>simp [a,c]
theorem y4{d v:List UInt8}(a:d.length=36):(fY d v).length=32:=by unfold fY;exact OF (by rw[Z3];exact a) a
attribute [local irreducible] Zv bJ cH aR aY cp fz Zw eY
def ko(ys:List UInt8)(x:Int):Int:=(bif (dn ((bn (aC ys 0 8) ((pc ((x%8388608).toNat)%2:Nat):Int) 0 (Zv 10))^^^(ys.getD 8 0)) (bJ 10))==0 then 0 else(bif (dn ((bn (aC ys 0 8) ((pc ((x%8388608).toNat)%2:Nat):Int) 0 (Zv 10))^^^(ys.getD 8 0)) (bJ 10))==1 then 1 else(bif (dn ((bn (aC ys 0 8) ((pc ((x%8388608).toNat)%2:Nat):Int) 0 (Zv 10))^^^(ys.getD 8 0)) (bJ 10))==2 then 2 else 3)))
theorem OG(l i o:Nat)(v:Value)(ys:List UInt8)(n:ys.length=9)(x:Int):aa ZK 195 #[pt l 0,v,i6 x] [ob l #[pt i 0,pt o 0] 242,ob i (rB 74 (Zv 10)++rI 256 (bJ 10)).toArray 298,.p (aK eB v ys)] [] N0 (λ_=> .tuple #[u6 (((fZ (aC ys 0 8) (ys.getD 8 0) ((pc ((x%8388608).toNat)%2:Nat):Int) (Zv 10) (bJ 10)):Nat):Int),i6 (ko ys x)]):=by
 refine fO Tryz.func195 2 rfl λd a=>fG Tryz.func195 λw r=>r0 [] [(6,u6 0),(7,i6 0)] [] (rr (λq=>[(3,.m (ld 0 (pt i 0))),(5,.m (C3 2 (.c d) 8 1 (cP a) Om)),(6,.c [2] [] (aa.at (rd':=[.c d]) (OE v ys Om) (eD a (λ_ h=>h)))),(8,fx a.1 2 8 1),(9,jk kB a.1 2 8 0),(11,.c [] [] (vA x)),(12,.c [1] [] (NW i (aC ys 0 8) (ys.getD 8 0) ((pc ((x%8388608).toNat)%2:Nat):Int) (Zv 10) (bJ 10) (qt ys 0 (Z6 8)) (by(simp only[LL,jo,j0,n];done)) (by(simp only[LL,jo,j0,n];done)) hp)),]) (λ_=>[(8,u6 (((fZ (aC ys 0 8) (ys.getD 8 0) ((pc ((x%8388608).toNat)%2:Nat):Int) (Zv 10) (bJ 10)):Nat):Int)),(9,i6 (dn ((bn (aC ys 0 8) ((pc ((x%8388608).toNat)%2:Nat):Int) 0 (Zv 10))^^^(ys.getD 8 0)) (bJ 10)))]) [] (λ_ L=>L) λq=>r0 [] [(28,i6 (dn ((bn (aC ys 0 8) ((pc ((x%8388608).toNat)%2:Nat):Int) 0 (Zv 10))^^^(ys.getD 8 0)) (bJ 10)))] [] (r0 [] [(29,.bool ((dn ((bn (aC ys 0 8) ((pc ((x%8388608).toNat)%2:Nat):Int) 0 (Zv 10))^^^(ys.getD 8 0)) (bJ 10))==0))] [] ?_));refine c0 (dn ((bn (aC ys 0 8) ((pc ((x%8388608).toNat)%2:Nat):Int) 0 (Zv 10))^^^(ys.getD 8 0)) (bJ 10)) 0 (λf j=>?_) λf j=>?_
 ·exact r0 [] [(6,u6 (((fZ (aC ys 0 8) (ys.getD 8 0) ((pc ((x%8388608).toNat)%2:Nat):Int) (Zv 10) (bJ 10)):Nat):Int)),(7,i6 0)] [6,7] (ak (.tuple #[u6 (((fZ (aC ys 0 8) (ys.getD 8 0) ((pc ((x%8388608).toNat)%2:Nat):Int) (Zv 10) (bJ 10)):Nat):Int),i6 0]) ab.zero (by((try simp only[ko]);(repeat (first | rw[f] | rw[ALct])))<;>rfl) [] [(0,0),(1,1),(2,2)] [])
 refine r0 [] [(32,.bool ((dn ((bn (aC ys 0 8) ((pc ((x%8388608).toNat)%2:Nat):Int) 0 (Zv 10))^^^(ys.getD 8 0)) (bJ 10))==1))] [] ?_;refine c0 (dn ((bn (aC ys 0 8) ((pc ((x%8388608).toNat)%2:Nat):Int) 0 (Zv 10))^^^(ys.getD 8 0)) (bJ 10)) 1 (λg k=>?_) λg k=>?_
 ·exact r0 [] [(6,u6 (((fZ (aC ys 0 8) (ys.getD 8 0) ((pc ((x%8388608).toNat)%2:Nat):Int) (Zv 10) (bJ 10)):Nat):Int)),(7,i6 1)] [6,7] (ak (.tuple #[u6 (((fZ (aC ys 0 8) (ys.getD 8 0) ((pc ((x%8388608).toNat)%2:Nat):Int) (Zv 10) (bJ 10)):Nat):Int),i6 1]) ab.zero (by((try simp only[ko]);(repeat (first | rw[f] | rw[g] | rw[ALct] | rw[ALcf])))<;>rfl) [] [(0,0),(1,1),(2,2)] [])
 refine r0 [] [(35,.bool ((dn ((bn (aC ys 0 8) ((pc ((x%8388608).toNat)%2:Nat):Int) 0 (Zv 10))^^^(ys.getD 8 0)) (bJ 10))==2))] [] ?_;refine c0 (dn ((bn (aC ys 0 8) ((pc ((x%8388608).toNat)%2:Nat):Int) 0 (Zv 10))^^^(ys.getD 8 0)) (bJ 10)) 2 (λb e=>?_) λb e=>?_
 ·exact r0 [] [(6,u6 (((fZ (aC ys 0 8) (ys.getD 8 0) ((pc ((x%8388608).toNat)%2:Nat):Int) (Zv 10) (bJ 10)):Nat):Int)),(7,i6 2)] [6,7] (ak (.tuple #[u6 (((fZ (aC ys 0 8) (ys.getD 8 0) ((pc ((x%8388608).toNat)%2:Nat):Int) (Zv 10) (bJ 10)):Nat):Int),i6 2]) ab.zero (by((try simp only[ko]);(repeat (first | rw[f] | rw[g] | rw[b] | rw[ALct] | rw[ALcf])))<;>rfl) [] [(0,0),(1,1),(2,2)] [])
 exact r0 [] [(6,u6 (((fZ (aC ys 0 8) (ys.getD 8 0) ((pc ((x%8388608).toNat)%2:Nat):Int) (Zv 10) (bJ 10)):Nat):Int)),(7,i6 3)] [6,7] (ak (.tuple #[u6 (((fZ (aC ys 0 8) (ys.getD 8 0) ((pc ((x%8388608).toNat)%2:Nat):Int) (Zv 10) (bJ 10)):Nat):Int),i6 3]) ab.zero (by((try simp only[ko]);(repeat (first | rw[f] | rw[g] | rw[b] | rw[ALcf])))<;>rfl) [] [(0,0),(1,1),(2,2)] [])
end
section
open Go Go.RowKit Go.Shelf
theorem OH(a g:Nat)(u:Value)(d v:List UInt8)(c:d.length=36)(hv:v.length=3)(D:List UInt8)(b:fY d v=D)(k:Nat)(e:fz (aV d v)=k)(p:Int)(hp:Zw (aV d v)=p)(q:UInt8)(f:eY (aV d v)=q):aa ZK 229 #[pt a 0,.agg (rB 36 d).toArray,.agg (rB 3 v).toArray] [ob a #[pt g 0,u] 309,ob g (rB 255 aR++rN 256 aY).toArray 312,.p (aK eB u cH)] [] N0 (λ_=> .tuple #[.agg (rB 32 D).toArray,.agg #[iN k,i6 p,u1 (q.toNat:Int)]]):=by
 subst b e hp f;exact NS a g u d v c hv
def pd(a:Nat)(b:Int)(vl:UInt8):Int:=(bif (a:Int)==0 then 0 else(bif (a:Int)==1 then 1 else(bif (((a:Int)==2)&&(b==38))&&((vl.toNat:Int)==128) then 2 else 3)))
theorem OI(G I j g:Nat)(u v:Value)(ys:List UInt8)(F:ys.length=36)(x:Int)(h0: -9223372036854775808≤x)(h1:x≤9223372036854775807)(D:List UInt8)(H:fY ys (cp x false)=D)(y:D.length=32)(a:Nat)(z:fz (aV ys (cp x false))=a)(e:Int)(A:Zw (aV ys (cp x false))=e)(vl:UInt8)(C:eY (aV ys (cp x false))=vl):aa ZK 197 #[pt G 0,v,i6 x] [ob G #[pt I 0,pt j 0] 242,ob j #[pt g 0,u] 309,ob g (rB 255 aR++rN 256 aY).toArray 312,.p (aK eB u cH),.p (aK eB v ys)] [] N0 (λ_=> .tuple #[.agg (rB 32 D).toArray,i6 (pd a e vl)]):=by
 refine fO Tryz.func197 3 rfl λq B=>fO Tryz.func197 4 rfl λi n=>fG Tryz.func197 λw M=>ra (λb=>[(6,pt (B0 b) 0),(7,i6 0)]) (λb=>[ob (B0 b) (rB 32 (ZN 32 0)).toArray 267]) λb=>rr (λ_=>[(3,.m (ld 0 (pt j 0))),(5,.m (C6 4 (.c i) 36 (cP n.1) Dc Om)),(6,.m (C7 4 (.c i) 36 (rB 36 ys) (cP n.1) (kY F).symm Om (C8 (λ_=>rfl) F))),(8,.c [] [] (Ee x Om Om false)),(9,.c [1,2,3] [] (aa.at (rd':=[ob j #[pt g 0,u] 309,ob g (rB 255 aR++rN 256 aY).toArray 312,.c q]) (OH j g u ys (cp x false) (by(simp only[LL,lD,F,y];done)) a9 D H a z e A vl C) (atS (atS (eD B (λ_ h=>h)))))),(13,.m (al 6)),(14,.m (al 7)),(15,.s 6),(16,.s 7)]) (λf=>[(8,pt ((f 13).y 0) 0),(9,pt ((f 14).y 0) 0)]) [] (λf L=>L++[ob ((f 13).y 0) (rB 32 D).toArray 267,ob ((f 14).y 0) #[iN a,i6 e,u1 (vl.toNat:Int)] 368]) λf=>r0 [(1,.l 7)] [(23,.bool ((a:Int)==0))] [] ?_;refine c0 (a:Int) 0 (λk r=>?_) λk r=>?_
 ·exact rr (λ_=>[(0,.l 6),(1,.s 5)]) (λ_=>[(7,i6 0)]) [7] (λ_ L=>L.set 5 (ob (B0 b) (rB 32 D).toArray 267)) λN=>ak (.tuple #[.agg (rB 32 D).toArray,i6 0]) ab.zero (by((try simp only[pd]);(repeat (first | rw[k] | rw[ALct])))<;>rfl) [] [(0,0),(1,1),(2,2),(3,3),(4,4)] [5]
 refine r0 [(1,.l 7)] [(28,.bool ((a:Int)==1))] [] ?_;refine c0 (a:Int) 1 (λo t=>?_) λo t=>?_
 ·exact rr (λ_=>[(0,.l 6),(1,.s 5)]) (λ_=>[(7,i6 1)]) [7] (λ_ L=>L.set 5 (ob (B0 b) (rB 32 D).toArray 267)) λO=>ak (.tuple #[.agg (rB 32 D).toArray,i6 1]) ab.zero (by((try simp only[pd]);(repeat (first | rw[k] | rw[o] | rw[ALct] | rw[ALcf])))<;>rfl) [] [(0,0),(1,1),(2,2),(3,3),(4,4)] [5]
 refine r0 [(1,.m (ld 7 (iN a))),(5,.m (ld 7 (i6 e))),(10,.m (ld 7 (u1 (vl.toNat:Int)))),] [(33,.bool ((((a:Int)==2)&&(e==38))&&((vl.toNat:Int)==128)))] [] ?_;refine cB ((((a:Int)==2)&&(e==38))&&((vl.toNat:Int)==128)) (λd=>?_) λd=>?_
 ·exact rr (λ_=>[(0,.l 6),(1,.s 5)]) (λ_=>[(7,i6 2)]) [7] (λ_ L=>L.set 5 (ob (B0 b) (rB 32 D).toArray 267)) λJ=>ak (.tuple #[.agg (rB 32 D).toArray,i6 2]) ab.zero (by((try simp only[pd]);(repeat (first | rw[k] | rw[o] | rw[d] | rw[ALct] | rw[ALcf])))<;>rfl) [] [(0,0),(1,1),(2,2),(3,3),(4,4)] [5]
 exact rr (λ_=>[(0,.l 6),(1,.s 5)]) (λ_=>[(7,i6 3)]) [7] (λ_ L=>L.set 5 (ob (B0 b) (rB 32 D).toArray 267)) λK=>ak (.tuple #[.agg (rB 32 D).toArray,i6 3]) ab.zero (by((try simp only[pd]);(repeat (first | rw[k] | rw[o] | rw[d] | rw[ALcf])))<;>rfl) [] [(0,0),(1,1),(2,2),(3,3),(4,4)] [5]
def nz(ys:List UInt8)(x:Int):Int:=pd (fz (aV ys (cp x false))) (Zw (aV ys (cp x false))) (eY (aV ys (cp x false)))
theorem OJ(b c a g:Nat)(u v:Value)(ys:List UInt8)(d:ys.length=36)(x:Int)(h0: -9223372036854775808≤x)(h1:x≤9223372036854775807):aa ZK 197 #[pt b 0,v,i6 x] [ob b #[pt c 0,pt a 0] 242,ob a #[pt g 0,u] 309,ob g (rB 255 aR++rN 256 aY).toArray 312,.p (aK eB u cH),.p (aK eB v ys)] [] N0 (λ_=> .tuple #[.agg (rB 32 (fY ys (cp x false))).toArray,i6 (nz ys x)]):=
 OI b c a g u v ys d x h0 h1 _ rfl (y4 d) _ rfl _ rfl _ rfl
end
section
open Go Go.RowKit Go.Shelf
def fb{α:Type}(d:α)(N:Nat)(f:Nat→α)(n:Nat):List α:=(ZL N).map λi=>if i<n then f i else d
theorem nA{α:Type}(d:α)(N:Nat)(f:Nat→α)(n:Nat):(fb d N f n).length=N:=by unfold fb;rw[ZQ,ZZ]
theorem Eo{α:Type}{d:α}{N:Nat}{f:Nat→α}{n i:Nat}(h:i<N):(fb d N f n).getD i d=if i<n then f i else d:=by
 unfold fb;rw[ZJ,aar,aaN h];rfl
theorem OK{α:Type}{d:α}{N:Nat}{f:Nat→α}{n:Nat}(h:n<N):(fb d N f n).set n (f n)=fb d N f (n+1):=by
 apply aaB;intro i;rw[aae];rcases aaz i N with a | a
 ·unfold fb;simp only[ZQ,ZZ,aar,aaN a,aaT];by_cases e:n=i
  ·subst e;rw[ALifp rfl,ALifp h,ALifp Om]
  ·rw[ALifn e];by_cases b:i<n
   ·rw[ALifp b,ALifp Om]
   ·rw[ALifn b,ALifn Om]
 ·rw[Z1 (l:=fb d N f (n+1)) (by rw[nA];exact a),Z1 (l:=fb d N f n) (by rw[nA];exact a),nA];rw[ALifn Om]
theorem OL{α:Type}(d:α)(N:Nat)(f:Nat→α):fb d N f 0=ZN N d:=by
 apply aaB;intro i;rcases aaz i N with a | a
 ·unfold fb;simp [a]
 ·rw[Z1 (by rw[nA];exact a),Z1 (by simpa using a)]
def w9(xs:List UInt8)(k:Nat):List UInt8:=(xs.drop (9*k)).take 9
def iV(xs:List UInt8)(k:Nat):List UInt8:=(xs.drop (36*k)).take 36
def dW(xs:List UInt8)(x:Int)(k:Nat):Nat:=fZ (aC (w9 xs k) 0 8) ((w9 xs k).getD 8 0) ((pc ((x%8388608).toNat)%2:Nat):Int) (Zv 10) (bJ 10)
def dK(xs:List UInt8)(x:Int)(k:Nat):Int:=ko (w9 xs k) x
def cW(xs:List UInt8)(x:Int)(k:Nat):List UInt8:=fY (iV xs k) (cp x false)
def cK(xs:List UInt8)(x:Int)(k:Nat):Int:=nz (iV xs k) x
theorem OM{d:Nat}{k:UInt8}{a:Int}{cl:List UInt8}{b:List Int}(h:d<18446744073709551616):fZ d k a cl b<18446744073709551616:=by
 unfold fZ;cases e:((dn ((bn d a 0 cl)^^^k) b)==1)&&(decide ((de ((bn d a 0 cl)^^^k) b)<64)) with
 | false=>exact h
 | true=>
  rw[ZT] at e;have c:=of_decide_eq_true e.2;rw[ALct,Nat.one_mul];exact Z8 (n:=64) h (aav Dc Om)
theorem ON(xs:List UInt8)(x:Int)(k:Nat):dW xs x k<18446744073709551616:=OM (qt _ _ Dc)
theorem OO{N:Nat}{f:Nat→Nat}{n B:Nat}(hB:0<B)(h: ∀i,f i<B)(i:Nat):(fb 0 N f n).getD i 0<B:=by
 rcases aaz i N with a | a
 ·rw[Eo a];split
  ·exact h i
  ·exact hB
 ·rw[ZJ,Z1 (by rw[nA];exact a)];exact hB
theorem nB{xs:List UInt8}{k:Nat}(b:xs.length=72)(a:k<2):(iV xs k).length=36:=by unfold iV;rw[ZP,ZY];omega
theorem vE{f:Nat→List UInt8}{m:Nat}(h: ∀i,(f i).length=m)(k:Nat):((ZL k).flatMap f).length=m*k:=by
 induction k with
 | zero=>rfl
 | succ k ih=>rw[aak,aaO,ZO,ih,aaG,h,abE]
theorem Ep{f:Nat→List UInt8}{m N:Nat}(h: ∀i,(f i).length=m){k:Nat}:
  ((ZL k).flatMap f++ZN (N-m*k) (0:UInt8)).take (m*k)++f k++((ZL k).flatMap f++ZN (N-m*k) (0:UInt8)).drop (m*k+m)=(ZL (k+1)).flatMap f++ZN (N-m*(k+1)) 0:=by
 have a:=vE h k;rw[aaZ a,←aaL,aaI a,abi,aak,aaO,aaG,show N-m*k-m=N-m*(k+1) by rw[abE];omega]
def fH(f:Nat→List UInt8)(k:Nat):List UInt8:=(ZL k).flatMap f++ZN (64-32*k) 0
theorem vF{f:Nat→List UInt8}(h: ∀i,(f i).length=32){k:Nat}(a:k≤2):(fH f k).length=64:=by
 unfold fH;rw[ZO,vE h,Z4];omega
theorem OP{f:Nat→List UInt8}(h: ∀i,(f i).length=32){k:Nat}:(fH f k).take (0+k*32)++f k++(fH f k).drop (0+k*32+32)=fH f (k+1):=by
 have:=Ep (N:=64) h (k:=k);rw[Z5,ZR k 32];exact this
theorem OQ(f:Nat→List UInt8):fH f 0=ZN 64 0:=rfl
theorem OR{xs:List UInt8}{x:Int}{k:Nat}(h:(iV xs k).length=36):(cW xs x k).length=32:=y4 h
def iW(xs:List UInt8)(x:Int)(k:Nat):List UInt8:=if k<2 then cW xs x k else ZN 32 0
theorem Er{xs:List UInt8}{x:Int}{k:Nat}(h:k<2):iW xs x k=cW xs x k:=ALifp h
theorem sT{xs:List UInt8}(a:xs.length=72)(x:Int)(k:Nat):(iW xs x k).length=32:=by
 unfold iW
 split
 ·rename_i h;exact OR (nB a h)
 ·rfl
attribute [local irreducible] dn de bn fZ aC fY aV Zv bJ cH aR aY cp fz Zw eY ko nz fb fH b6 jK jF ei
theorem OS(i g j:Nat)(xs:List UInt8)(o:xs.length=72)(x:Int):aa ZK 151 #[pt i 0,i6 1,.agg (rB 72 xs).toArray,i6 x] [ob i #[pt g 0,pt j 0] 242,ob g (rB 74 (Zv 10)++rI 256 (bJ 10)).toArray 298] [] (λE=>[dq (E.val 0) ((ZL 8).map (dK xs x))]) (λE=> .tuple #[.agg (rB 64 (b6 64 (iz (fb 0 8 (dW xs x) 8)) (8*8))).toArray,(E.val 0)]):=by
 refine fG Tryz.func151 λw u=>ra (λf=>[(6,pt (B0 f) 0),(8,pt (B1 f) 0),(9,.slice none 0 0)]) (λf=>[ob (B0 f) (rB 72 xs).toArray 217,ob (B1 f) (rB 64 z6).toArray 43]) λf=>r0 [] [(10,.slice none 0 0)] [] (rT [] 20 (ra (λe=>[(11,pt (B0 e) 0)]) (λe=>[ob (B0 e) (rW 8 (ZN 8 0)).toArray 320]) λe=>r0 [] [(21,i6 0)] [] (cz kI ?_)));refine nk (λk _=>k≤8) (λk a=>[(21,iN k),(10,a)]) (λk a L=>(L.set 4 (ob (B0 e) (rW 8 (fb 0 8 (dW xs x) k)).toArray 320)).set 5 (dq a ((ZL k).map (dK xs x)))) (λk _=>8-k) 0 (.slice none 0 0) Om Kr (by rw[OL];kernel_rfl) (λk a q=>?_);have r:((ZL k).map (dK xs x)).length=k:=by rw[ZQ,ZZ]
 refine r0 [] [(22,.bool (decide ((k:Int)<8)))] [] ?_;refine cj (k:Int) 8 (λp n=>?_) λp n=>?_
 ·exact r0 [] [(12,iN k)] [] (rr (λd=>[(1,.m (ls 2 (rB 72 xs))),(4,.c [] [6] (Eh xs (by(simp only[LL,nA,lC,o];done)) k Om)),(6,.c [0,1,6] [] (aa.at (rd':=[ob i #[pt g 0,pt j 0] 242,ob g (rB 74 (Zv 10)++rI 256 (bJ 10)).toArray 298,bB ((d 4).val 0) ((xs.drop (9*k)).take 9)]) (OG i g j ((d 4).val 0) ((xs.drop (9*k)).take 9) (by(simp only[LL,nA,lC,o];omega)) x) (atS (atS (bM (λ_ h=>aq.sq h) (λ_ h=>h)))))),]) (λ_=>[(13,u6 (((fZ (aC ((xs.drop (9*k)).take 9) 0 8) (((xs.drop (9*k)).take 9).getD 8 0) ((pc ((x%8388608).toNat)%2:Nat):Int) (Zv 10) (bJ 10)):Nat):Int)),(14,i6 (ko ((xs.drop (9*k)).take 9) x))]) [] (λd L=>L++[bB ((d 4).val 0) ((xs.drop (9*k)).take 9)]) λd=>rs [(2,iA 320 .i64 (B0 e) 0 8 1 k),(3,wD 4 (B0 e) k 320 (u6 (((fZ (aC ((xs.drop (9*k)).take 9) 0 8) (((xs.drop (9*k)).take 9).getD 8 0) ((pc ((x%8388608).toNat)%2:Nat):Int) (Zv 10) (bJ 10)):Nat):Int)) (rW 8 (fb 0 8 (dW xs x) k)) (rW 8 ((fb 0 8 (dW xs x) k).set k (fZ (aC ((xs.drop (9*k)).take 9) 0 8) (((xs.drop (9*k)).take 9).getD 8 0) ((pc ((x%8388608).toNat)%2:Nat):Int) (Zv 10) (bJ 10)))) (ka Om) (JM (nA ..)))] 4 (ob (B0 e) (rW 8 ((fb 0 8 (dW xs x) k).set k (fZ (aC ((xs.drop (9*k)).take 9) 0 8) (((xs.drop (9*k)).take 9).getD 8 0) ((pc ((x%8388608).toNat)%2:Nat):Int) (Zv 10) (bJ 10)))).toArray 320) (rr (λ_=>[(2,.m (bs 7 1)),(3,fF kI (a) ((ZL k).map (dK xs x)) 5 7 ([(ko ((xs.drop (9*k)).take 9) x)]))]) (λb=>[(10,(b 3).val 0)]) [10] (λb L=>L.set 5 (dq ((b 3).val 0) (((ZL k).map (dK xs x))++([(ko ((xs.drop (9*k)).take 9) x)])))++[ob (B2 b) #[i6 (ko ((xs.drop (9*k)).take 9) x)] 3]) λb=>r0 [(0,ad k 1)] [(21,iN (k+1))] [21] (mf (k+1) ((b 3).val 0) Om Om Kr [0,1,2,3,4,5] (by rw[←OK Om,aak,aaJ];kernel_rfl))))
 obtain rfl:k=8:=by omega
 refine mh ?_;exact rr (λ_=>[(0,.l 4),(1,.c [] [] (Ot (fb 0 8 (dW xs x) 8) (by(simp only[LL,nA,lC,o];done)) (OO Dc (ON xs x)))),(3,.s 3)]) (λ_=>[(9,a)]) [9] (λ_ L=>L.set 3 (ob (B1 f) (rB 64 (b6 64 (iz (fb 0 8 (dW xs x) 8)) (8*8))).toArray 43)) λt=>lf (.l [] [] [a]) [5] [(0,0),(1,1)] [3]
theorem OT(q v o g:Nat)(u:Value)(xs:List UInt8)(i:xs.length=72)(x:Int)(h0: -9223372036854775808≤x)(h1:x≤9223372036854775807):aa ZK 151 #[pt q 0,i6 2,.agg (rB 72 xs).toArray,i6 x] [ob q #[pt v 0,pt o 0] 242,ob o #[pt g 0,u] 309,ob g (rB 255 aR++rN 256 aY).toArray 312,.p (aK eB u cH)] [] (λE=>[dq (E.val 0) ((ZL 2).map (cK xs x))]) (λE=> .tuple #[.agg (rB 64 (fH (iW xs x) 2)).toArray,(E.val 0)]):=by
 refine fO Tryz.func151 3 rfl λr z=>fG Tryz.func151 λw D=>ra (λn=>[(6,pt (B0 n) 0),(8,pt (B1 n) 0),(9,.slice none 0 0)]) (λn=>[ob (B0 n) (rB 72 xs).toArray 217,ob (B1 n) (rB 64 z6).toArray 43]) λn=>r0 [] [(10,.slice none 0 0)] [] (rF [] 20 (ra (λj=>[(15,pt (B0 j) 0)]) (λj=>[ob (B0 j) (rB 64 z6).toArray 324]) λj=>r0 [] [(45,i6 0)] [] (cz kI ?_)));refine nk (λk _=>k≤2) (λk a=>[(45,iN k),(10,a)]) (λk a L=>(L.set 6 (ob (B0 j) (rB 64 (fH (iW xs x) k)).toArray 324)).set 7 (dq a ((ZL k).map (cK xs x)))) (λk _=>2-k) 0 (.slice none 0 0) Om Kr (by rw[OQ];kernel_rfl) (λk a y=>?_);have B:((ZL k).map (cK xs x)).length=k:=by rw[ZQ,ZZ]
 have e:=vF (sT i x) y;refine r0 [] [(46,.bool (decide ((k:Int)<2)))] [] ?_;refine cj (k:Int) 2 (λA t=>?_) λA t=>?_
 ·refine r0 [] [(16,iN k)] [] ?_;have d:(fY ((xs.drop (36*k)).take 36) (cp x false)).length=32:=y4 (nB i Om);exact rr (λb=>[(1,.m (ls 4 (rB 72 xs))),(4,.c [] [8] (Ei xs (by(simp only[LL,d,e,i];done)) k Om)),(6,.c [0,1,2,3,8] [] (aa.at (rd':=[ob q #[pt v 0,pt o 0] 242,ob o #[pt g 0,u] 309,ob g (rB 255 aR++rN 256 aY).toArray 312,.c r,bB ((b 4).val 0) ((xs.drop (36*k)).take 36)]) (OJ q v o g u ((b 4).val 0) ((xs.drop (36*k)).take 36) (by(simp only[LL,d,e,i];omega)) x Om Om) (atS (atS (atS (eD z (bM (λ_ h=>aq.sq h) (λ_ h=>h)))))))),(10,.m (al 9)),(11,.s 9)]) (λb=>[(17,pt ((b 10).y 0) 0),(18,i6 (nz ((xs.drop (36*k)).take 36) x))]) [] (λb L=>L++[bB ((b 4).val 0) ((xs.drop (36*k)).take 36),ob ((b 10).y 0) (rB 32 (fY ((xs.drop (36*k)).take 36) (cp x false))).toArray 267]) λb=>rs [(1,.l 9),(2,iA 324 .i64 (B0 j) 0 2 32 k),(3,.m (sg 6 (B0 j) (0+k*32) 324 (rB 32 (fY ((xs.drop (36*k)).take 36) (cp x false))) (rB 64 (fH (iW xs x) k)).toArray (rB 64 ((fH (iW xs x) k).take (0+k*32)++(fY ((xs.drop (36*k)).take 36) (cp x false))++(fH (iW xs x) k).drop (0+k*32+32))).toArray (J1 (λ_=>rfl) (show(fH (iW xs x) k).length=64 by(simp only[LL,d,e,i];done)) (show(fY ((xs.drop (36*k)).take 36) (cp x false)).length=32 by(simp only[LL,d,e,i];done)) Om) (J2 (λ_=>rfl) Om) (J3 (λ_=>rfl) (show(fY ((xs.drop (36*k)).take 36) (cp x false)).length=32 by(simp only[LL,d,e,i];done)))))] 6 (ob (B0 j) (rB 64 ((fH (iW xs x) k).take (0+k*32)++(fY ((xs.drop (36*k)).take 36) (cp x false))++(fH (iW xs x) k).drop (0+k*32+32))).toArray 324) (rr (λ_=>[(2,.m (bs 10 1)),(3,fF kI (a) ((ZL k).map (cK xs x)) 7 10 ([(nz ((xs.drop (36*k)).take 36) x)]))]) (λf=>[(10,(f 3).val 0)]) [10] (λf L=>L.set 7 (dq ((f 3).val 0) (((ZL k).map (cK xs x))++([(nz ((xs.drop (36*k)).take 36) x)])))++[ob (B2 f) #[i6 (nz ((xs.drop (36*k)).take 36) x)] 3]) λf=>r0 [(0,ad k 1)] [(45,iN (k+1))] [45] (mf (k+1) ((f 3).val 0) Om Om Kr [0,1,2,3,4,5,6,7] (by rw[←OP (sT i x),Er Om,aak,aaJ];kernel_rfl)))
 obtain rfl:k=2:=by omega
 refine mh ?_;have d:=trivial;exact rr (λ_=>[(0,.l 6),(1,.c [] [] (OD (fH (iW xs x) 2) (by(simp only[LL,d,e,i];done)))),(3,.s 5)]) (λ_=>[(9,a)]) [9] (λ_ L=>L.set 5 (ob (B1 n) (rB 64 (fH (iW xs x) 2)).toArray 43)) λC=>lf (.l [] [] [a]) [7] [(0,0),(1,1),(2,2),(3,3)] [5]
def pf(xs:List UInt8)(x:Int):List UInt8:=(bif decide (2≤(jK ((ZL 8).map (dK xs x)))) then ZN 64 0 else b6 64 (iz (fb 0 8 (dW xs x) 8)) (8*8))
theorem OU(e i j:Nat)(xs:List UInt8)(m:xs.length=72)(x:Int):aa ZK 124 #[pt e 0,i6 1,.agg (rB 72 xs).toArray,i6 x] [ob e #[pt i 0,pt j 0] 242,ob i (rB 74 (Zv 10)++rI 256 (bJ 10)).toArray 298] [] N0 (λ_=> .tuple #[.agg (rB 64 (pf xs x)).toArray,.agg #[i6 (jK ((ZL 8).map (dK xs x))),i6 (gH ((ZL 8).map (dK xs x)))]]):=by
 refine fG Tryz.func124 λw n=>ra (λa=>[(6,pt (B0 a) 0),(8,pt (B1 a) 0),(9,pt (B2 a) 0)]) (λa=>[ob (B0 a) (rB 72 xs).toArray 217,ob (B1 a) (rB 64 z6).toArray 43,ob (B2 a) #[i6 0,i6 0] 79]) λa=>r0 [(1,.c [] [] (pb 1))] [(15,.bool (!((1==1)||(1==2))))] [] ?_;have k:(!((1==1)||(1==2)))=false:=by decide
 refine cF (!((1==1)||(1==2))) k (rr (λ_=>[(2,.l 2),(4,.c [0,1] [5] (OS e i j xs (by(simp only[LL,lC,m];done)) x)),(9,.s 6)]) (λb=>[(10,pt ((b 8).y 0) 0),(11,((b 4).val 0))]) [] (λb L=>L++[dq ((b 4).val 0) ((ZL 8).map (dK xs x)),ob ((b 8).y 0) (rB 64 (b6 64 (iz (fb 0 8 (dW xs x) 8)) (8*8))).toArray 43]) λb=>rr (λ_=>[(1,.c [5] [] (aa.at (rd':=[dq ((b 4).val 0) ((ZL 8).map (dK xs x))]) (El ((b 4).val 0) ((ZL 8).map (dK xs x)) (by rw[ZQ,ZZ];omega)) (bM (λ_ h=>aq.sq h) (λ_ h=>h)))),(3,.s 7)]) (λd=>[(12,pt (B2 d) 0)]) [] (λd L=>L++[ob (B2 d) #[i6 (jK ((ZL 8).map (dK xs x))),i6 (gH ((ZL 8).map (dK xs x)))] 79]) λd=>r0 [(1,.l 7)] [(30,.bool (decide (2≤(jK ((ZL 8).map (dK xs x))))))] [] ?_);refine oX 2 (jK ((ZL 8).map (dK xs x))) (λg f=>?_) λg f=>?_
 ·exact rr (λ_=>[(1,.l 7),(2,.s 3),(3,.s 4)]) N0 [] (λ_ L=>L.set 4 (ob (B2 a) #[i6 (jK ((ZL 8).map (dK xs x))),i6 (gH ((ZL 8).map (dK xs x)))] 79)) λo=>ak (.tuple #[.agg (rB 64 z6).toArray,.agg #[i6 (jK ((ZL 8).map (dK xs x))),i6 (gH ((ZL 8).map (dK xs x)))]]) ab.zero (by((try simp only[pf]);(repeat (first | rw[g] | rw[ALct])))<;>rfl) [] [(0,0),(1,1)] [3,4]
 exact rr (λ_=>[(0,.l 6),(1,.l 7),(2,.s 3),(3,.s 4)]) N0 [] (λ_ L=>(L.set 3 (ob (B1 a) (rB 64 (b6 64 (iz (fb 0 8 (dW xs x) 8)) (8*8))).toArray 43)).set 4 (ob (B2 a) #[i6 (jK ((ZL 8).map (dK xs x))),i6 (gH ((ZL 8).map (dK xs x)))] 79)) λp=>ak (.tuple #[.agg (rB 64 (b6 64 (iz (fb 0 8 (dW xs x) 8)) (8*8))).toArray,.agg #[i6 (jK ((ZL 8).map (dK xs x))),i6 (gH ((ZL 8).map (dK xs x)))]]) ab.zero (by((try simp only[pf]);(repeat (first | rw[g] | rw[ALcf])))<;>rfl) [] [(0,0),(1,1)] [3,4]
def ph(xs:List UInt8)(x:Int):List UInt8:=(bif decide (2≤(jK ((ZL 2).map (cK xs x)))) then ZN 64 0 else fH (iW xs x) 2)
theorem OV(e n d g:Nat)(u:Value)(xs:List UInt8)(q:xs.length=72)(x:Int)(h0: -9223372036854775808≤x)(h1:x≤9223372036854775807):aa ZK 124 #[pt e 0,i6 2,.agg (rB 72 xs).toArray,i6 x] [ob e #[pt n 0,pt d 0] 242,ob d #[pt g 0,u] 309,ob g (rB 255 aR++rN 256 aY).toArray 312,.p (aK eB u cH)] [] N0 (λ_=> .tuple #[.agg (rB 64 (ph xs x)).toArray,.agg #[i6 (jK ((ZL 2).map (cK xs x))),i6 (gH ((ZL 2).map (cK xs x)))]]):=by
 have i:=vF (sT q x) (Z6 2);refine fO Tryz.func124 3 rfl λj o=>fG Tryz.func124 λw t=>ra (λa=>[(6,pt (B0 a) 0),(8,pt (B1 a) 0),(9,pt (B2 a) 0)]) (λa=>[ob (B0 a) (rB 72 xs).toArray 217,ob (B1 a) (rB 64 z6).toArray 43,ob (B2 a) #[i6 0,i6 0] 79]) λa=>r0 [(1,.c [] [] (pb 2))] [(15,.bool (!((2==1)||(2==2))))] [] ?_;have r:(!((2==1)||(2==2)))=false:=by decide
 refine cF (!((2==1)||(2==2))) r (rr (λ_=>[(2,.l 4),(4,.c [0,1,2,3] [7] (aa.at (rd':=[ob e #[pt n 0,pt d 0] 242,ob d #[pt g 0,u] 309,ob g (rB 255 aR++rN 256 aY).toArray 312,.c j]) (OT e n d g u xs (by(simp only[LL,i,q];done)) x Om Om) (atS (atS (atS (eD o (λ_ h=>h))))))),(9,.s 8)]) (λb=>[(10,pt ((b 8).y 0) 0),(11,((b 4).val 0))]) [] (λb L=>L++[dq ((b 4).val 0) ((ZL 2).map (cK xs x)),ob ((b 8).y 0) (rB 64 (fH (iW xs x) 2)).toArray 43]) λb=>rr (λ_=>[(1,.c [7] [] (aa.at (rd':=[dq ((b 4).val 0) ((ZL 2).map (cK xs x))]) (El ((b 4).val 0) ((ZL 2).map (cK xs x)) (by rw[ZQ,ZZ];omega)) (bM (λ_ h=>aq.sq h) (λ_ h=>h)))),(3,.s 9)]) (λf=>[(12,pt (B2 f) 0)]) [] (λf L=>L++[ob (B2 f) #[i6 (jK ((ZL 2).map (cK xs x))),i6 (gH ((ZL 2).map (cK xs x)))] 79]) λf=>r0 [(1,.l 9)] [(30,.bool (decide (2≤(jK ((ZL 2).map (cK xs x))))))] [] ?_);refine oX 2 (jK ((ZL 2).map (cK xs x))) (λm k=>?_) λm k=>?_
 ·exact rr (λ_=>[(1,.l 9),(2,.s 5),(3,.s 6)]) N0 [] (λ_ L=>L.set 6 (ob (B2 a) #[i6 (jK ((ZL 2).map (cK xs x))),i6 (gH ((ZL 2).map (cK xs x)))] 79)) λv=>ak (.tuple #[.agg (rB 64 z6).toArray,.agg #[i6 (jK ((ZL 2).map (cK xs x))),i6 (gH ((ZL 2).map (cK xs x)))]]) ab.zero (by((try simp only[ph]);(repeat (first | rw[m] | rw[ALct])))<;>rfl) [] [(0,0),(1,1),(2,2),(3,3)] [5,6]
 exact rr (λ_=>[(0,.l 8),(1,.l 9),(2,.s 5),(3,.s 6)]) N0 [] (λ_ L=>(L.set 5 (ob (B1 a) (rB 64 (fH (iW xs x) 2)).toArray 43)).set 6 (ob (B2 a) #[i6 (jK ((ZL 2).map (cK xs x))),i6 (gH ((ZL 2).map (cK xs x)))] 79)) λy=>ak (.tuple #[.agg (rB 64 (fH (iW xs x) 2)).toArray,.agg #[i6 (jK ((ZL 2).map (cK xs x))),i6 (gH ((ZL 2).map (cK xs x)))]]) ab.zero (by((try simp only[ph]);(repeat (first | rw[m] | rw[ALcf])))<;>rfl) [] [(0,0),(1,1),(2,2),(3,3)] [5,6]
end
section
open Go Go.RowKit Go.Shelf
def bS(n:Nat)(f:Nat→List UInt8)(k:Nat):List UInt8:=(ZL k).flatMap f++ZN (72-n*k) 0
theorem ou{n:Nat}{f:Nat→List UInt8}(h: ∀i,(f i).length=n){k:Nat}(a:n*k≤72):(bS n f k).length=72:=by
 unfold bS;rw[ZO,vE h,Z4];omega
theorem Es{n:Nat}{f:Nat→List UInt8}(h: ∀i,(f i).length=n){k m:Nat}(a:m=n):(bS n f k).take (n*k)++f k++(bS n f k).drop (n*k+m)=bS n f (k+1):=by subst a;exact Ep h
theorem Et(n:Nat)(f:Nat→List UInt8):bS n f 0=ZN 72 0:=rfl
def eZ(l:List UInt8)(x:Int)(p:Bool)(k:Nat):List UInt8:=iw (aC l (8*k) 8) 8++[bn (aC l (8*k) 8) ((pc ((x%8388608).toNat)%2:Nat):Int) (ei p) (Zv 10)]
theorem ow(l:List UInt8)(x:Int)(p:Bool)(k:Nat):(eZ l x p k).length=9:=by unfold eZ;rw[ZO,j4];rfl
def eH(l:List UInt8)(x:Int)(p:Bool)(k:Nat):List UInt8:=if k<2 then g8 ((l.drop (32*k)).take 32) (cp x p)++(l.drop (32*k)).take 32 else ZN 36 0
theorem pj{l:List UInt8}(a:l.length=64)(x:Int)(p:Bool)(k:Nat):(eH l x p k).length=36:=by
 unfold eH
 split
 ·rw[ZO,iv,ZP,ZY];omega
 ·rfl
theorem Eu{l:List UInt8}{x:Int}{p:Bool}{k:Nat}(h:k<2):eH l x p k=g8 ((l.drop (32*k)).take 32) (cp x p)++(l.drop (32*k)).take 32:=ALifp h
attribute [local irreducible] dn de bn fZ aC iw fY aV g8 Zv bJ cH aR aY cp fz Zw eY ko nz fb fH b6 jK jF ei bS
theorem OX(e j y:Nat)(l:List UInt8)(f:l.length=64)(x:Int)(p:Bool):aa ZK 125 #[pt e 0,i6 1,.agg (rB 64 l).toArray,i6 x,.bool p] [ob e #[pt j 0,pt y 0] 242,ob j (rB 74 (Zv 10)++rI 256 (bJ 10)).toArray 298] [] N0 (λ_=> .agg (rB 72 (bS 9 (eZ l x p) 8)).toArray):=by
 have a:=True.intro;refine fG Tryz.func125 λw G=>ra (λd=>[(5,pt (B0 d) 0),(6,pt (B1 d) 0),(7,pt (B2 d) 0),(9,pt (B3 d) 0),(10,pt (B4 d) 0)]) (λd=>[ob (B0 d) #[pt e 0] 116,ob (B1 d) #[i6 1] 3,ob (B2 d) (rB 64 l).toArray 43,ob (B3 d) #[.bool p] 4,ob (B4 d) (rB 72 (ZN 72 0)).toArray 217]) λd=>ra (λg=>[(11,pt (B0 g) 0)]) (λg=>[ob (B0 g) (rB 72 (ZN 72 0)).toArray 217]) λg=>r0 [(0,.l 3)] [(19,i6 1)] [] (rT [] 20 (rr (λ_=>[(1,.c [] [] (vA x)),(3,.s 8)]) (λo=>[(12,pt (B2 o) 0)]) [] (λo L=>L++[ob (B2 o) #[iN (pc ((x%8388608).toNat)%2)] 3]) λo=>rr (λ_=>[(0,.l 4),(1,.c [] [9] (Oj l (by(simp only[LL,j4,jo,j0,a,f];done))))]) (λi=>[(25,.func (.func 200) #[] #[pt ((B1 i)) 0])]) [] (λi L=>L++[ob (B1 i) (rB 64 l).toArray 43]) λi=>?_));refine oZ (encs:=λ(x:Nat×Nat)=>#[i6 (x.1:Int),u6 (x.2:Int)]) (xs:=(ZL 8).map λk=>(k,aC l (8*k) 8)) (KO:=[[((B1 i),.cells (rB 64 l).toArray 43 (0,0))]]) (Oi (B1 i) l (by(simp only[LL,j4,jo,j0,a,f];done))) (enters_of Tryz.func200 Kr rfl) (λk=>k≤8) (λk L=>L.set 7 (ob (B0 g) (rB 72 (bS 9 (eZ l x p) k)).toArray 217)) [9] Om (by rw[Et];kernel_rfl) (λH k I B D t r=>?_) (λA r=>?_)
 ·obtain⟨u,rfl⟩:=n2 t;have q:=qt l (8*k) (k:=8) Dc;have z:=j4 (aC l (8*k) 8) 8;have a:=ou (n:=9) (ow l x p) (k:=k) Om;refine r0 [] [(13,iN k)] [] (r0 [] [(14,u6 ((aC l (8*k) 8:Nat):Int))] [] ?_);refine ag [9] (λC F=>?_);exact rr (λb=>[(0,.m (ls 7 (rB 72 (bS 9 (eZ l x p) k)))),(1,.m (ld 3 (i6 1))),(2,.v (iN k)),(3,.v (u6 ((aC l (8*k) 8:Nat):Int))),(4,.c [] [10] (N7 (aC l (8*k) 8) Om)),(5,.m (ld 2 (pt e 0))),(6,.v (pt e 0)),(7,.v (pt e 0)),(8,.m (ld 0 (pt j 0))),(9,.v (u6 ((aC l (8*k) 8:Nat):Int))),(10,.m (ld 8 (iN (pc ((x%8388608).toNat)%2)))),(11,.m (ld 5 (.bool p))),(12,.c [] [] (Ed p)),(13,.c [1] [] (Ec j (aC l (8*k) 8) ((pc ((x%8388608).toNat)%2:Nat):Int) (ei p) (Zv 10) (bJ 10) q (by(simp only[LL,j4,jo,j0,a,f];done)) (by(simp only[LL,j4,jo,j0,a,f];done)))),(14,.m (bs 11 1)),(15,fF kB (((b 4).val 0)) (iw (aC l (8*k) 8) 8) 10 11 ([(bn (aC l (8*k) 8) ((pc ((x%8388608).toNat)%2:Nat):Int) (ei p) (Zv 10))])),(16,.c [10] [] (aa.at (rd':=[bB ((b 15).val 0) ((iw (aC l (8*k) 8) 8)++([(bn (aC l (8*k) 8) ((pc ((x%8388608).toNat)%2:Nat):Int) (ei p) (Zv 10))]))]) (On (bS 9 (eZ l x p) k) ((iw (aC l (8*k) 8) 8)++([(bn (aC l (8*k) 8) ((pc ((x%8388608).toNat)%2:Nat):Int) (ei p) (Zv 10))])) ((b 15).val 0) (by(simp only[LL,j4,jo,j0,a,f];done)) k Om (by(simp only[LL,j4,jo,j0,a,f];done))) (bM (λ_ h=>aq.sq h) (λ_ h=>h)))),(17,.s 7)]) N0 [] (λb L=>L.set 7 (ob (B0 g) (rB 72 ((bS 9 (eZ l x p) k).take (9*k)++((iw (aC l (8*k) 8) 8)++([(bn (aC l (8*k) 8) ((pc ((x%8388608).toNat)%2:Nat):Int) (ei p) (Zv 10))]))++(bS 9 (eZ l x p) k).drop ((9*k)+((iw (aC l (8*k) 8) 8)++([(bn (aC l (8*k) 8) ((pc ((x%8388608).toNat)%2:Nat):Int) (ei p) (Zv 10))])).length))).toArray 217)++[bB ((b 15).val 0) ((iw (aC l (8*k) 8) 8)++([(bn (aC l (8*k) 8) ((pc ((x%8388608).toNat)%2:Nat):Int) (ei p) (Zv 10))])),ob ((b 14).y 0) #[u1 ((bn (aC l (8*k) 8) ((pc ((x%8388608).toNat)%2:Nat):Int) (ei p) (Zv 10)).toNat:Int)] 5]) λb=>ne _ ⟨Om,rfl⟩ [0,1,2,3,4,5,6,7,8,9] (by rw[←Es (ow l x p) (ow l x p k)];unfold eZ;kernel_rfl)
 have a:=ou (n:=9) (ow l x p) (k:=8) Om;exact rs [(0,.l 7),(1,.s 6)] 6 (ob (B4 d) (rB 72 (bS 9 (eZ l x p) 8)).toArray 217) (lf ab.zero [] [(0,0),(1,1)] [6])
theorem OY(y D r g:Nat)(u:Value)(l:List UInt8)(e:l.length=64)(x:Int)(h0: -9223372036854775808≤x)(h1:x≤9223372036854775807)(p:Bool):aa ZK 125 #[pt y 0,i6 2,.agg (rB 64 l).toArray,i6 x,.bool p] [ob y #[pt D 0,pt r 0] 242,ob r #[pt g 0,u] 309,ob g (rB 255 aR++rN 256 aY).toArray 312,.p (aK eB u cH)] [] N0 (λ_=> .agg (rB 72 (bS 36 (eH l x p) 2)).toArray):=by
 have a:=True.intro;have b:=True.intro;refine fO Tryz.func125 3 rfl λv B=>fG Tryz.func125 λw K=>ra (λf=>[(5,pt (B0 f) 0),(6,pt (B1 f) 0),(7,pt (B2 f) 0),(9,pt (B3 f) 0),(10,pt (B4 f) 0)]) (λf=>[ob (B0 f) #[pt y 0] 116,ob (B1 f) #[i6 2] 3,ob (B2 f) (rB 64 l).toArray 43,ob (B3 f) #[.bool p] 4,ob (B4 f) (rB 72 (ZN 72 0)).toArray 217]) λf=>ra (λo=>[(11,pt (B0 o) 0)]) (λo=>[ob (B0 o) (rB 72 (ZN 72 0)).toArray 217]) λo=>r0 [(0,.l 5)] [(19,i6 2)] [] (rF [] 20 (rT [] 45 (rr (λ_=>[(1,.l 7),(2,.c [] [] (Ee x Om Om p)),(4,.s 10)]) (λt=>[(15,pt (B3 t) 0)]) [] (λt L=>L++[ob (B3 t) (rB 3 (cp x p)).toArray 262]) λt=>rr (λ_=>[(0,.l 6),(1,.c [] [11] (Ok l (by(simp only[LL,a,iv,lD,b,e];done))))]) (λq=>[(51,.func (.func 202) #[] #[pt ((B1 q)) 0])]) [] (λq L=>L++[ob (B1 q) (rB 64 l).toArray 43]) λq=>?_)));refine oZ (encs:=λ(x:Nat×List UInt8)=>#[i6 (x.1:Int),.agg (rB 32 x.2).toArray]) (xs:=(ZL 2).map λk=>(k,(l.drop (32*k)).take 32)) (KO:=[[((B1 q),.cells (rB 64 l).toArray 43 (0,0))]]) (Ol (B1 q) l (by(simp only[LL,a,iv,lD,b,e];done))) (enters_of Tryz.func202 Kr rfl) (λk=>k≤2) (λk L=>L.set 9 (ob (B0 o) (rB 72 (bS 36 (eH l x p) k)).toArray 217)) [11] Om (by rw[Et];kernel_rfl) (λM k N G I C z=>?_) (λF z=>?_)
 ·obtain⟨A,rfl⟩:=n2 C;have a:=ou (n:=36) (pj e x p) (k:=k) Om;have b:((l.drop (32*k)).take 32).length=32:=by rw[ZP,ZY];omega
  refine r0 [] [(16,iN k)] [] (rr (λ_=>[(1,.s 12)]) (λd=>[(17,pt (B0 d) 0)]) [] (λd L=>L++[ob (B0 d) (rB 32 ((l.drop (32*k)).take 32)).toArray 267]) λd=>?_);refine ag [11] (λH J=>?_);exact rr (λ_=>[(0,.l 4),(3,.l 0),(4,.l 12),(5,.l 10),(6,.c [1,2,3] [] (aa.at (rd':=[ob r #[pt g 0,u] 309,ob g (rB 255 aR++rN 256 aY).toArray 312,.c v]) (NH r g u ((l.drop (32*k)).take 32) (cp x p) (by(simp only[LL,a,iv,lD,b,e];done)) (by(simp only[LL,a,iv,lD,b,e];done))) (atS (atS (eD B (λ_ h=>h)))))),(8,.s 13)]) (λi=>[(18,pt (B7 i) 0)]) [] (λi L=>L++[ob (B7 i) (rB 4 (g8 (((l.drop (32*k)).take 32)) ((cp x p)))).toArray 268]) λi=>rr (λj=>[(0,.l 9),(1,.l 5),(3,aS 268 (B7 i) 4 1),(4,aS 267 (B0 d) 32 1),(5,.m (Ly kB 14 13 12 (B7 i) 4 (rB 4 (g8 (((l.drop (32*k)).take 32)) ((cp x p)))).toArray 268 (g8 (((l.drop (32*k)).take 32)) ((cp x p))) ((l.drop (32*k)).take 32) (.slice (some ⟨(d 0).y 0,0,none⟩) 32 32) (ob (B0 d) (rB 32 ((l.drop (32*k)).take 32)).toArray 267) (λ_ h=>by rw[show _=_ from h];exact o1 (λ_=>rfl) (show((l.drop (32*k)).take 32).length=32 by(simp only[LL,a,iv,lD,b,e];done))) (iv ..) (Cm (iv ..)) (by rw[(show((l.drop (32*k)).take 32).length=32 by(simp only[LL,a,iv,lD,b,e];done))];omega) (by rw[(iv ..),(show((l.drop (32*k)).take 32).length=32 by(simp only[LL,a,iv,lD,b,e];done))];omega))),(6,.c [14] [] (aa.at (rd':=[bB ((j 5).val 0) ((g8 (((l.drop (32*k)).take 32)) ((cp x p)))++((l.drop (32*k)).take 32))]) (Oo (bS 36 (eH l x p) k) ((g8 (((l.drop (32*k)).take 32)) ((cp x p)))++((l.drop (32*k)).take 32)) ((j 5).val 0) (by(simp only[LL,a,iv,lD,b,e];done)) k Om (by(simp only[LL,a,iv,lD,b,e];done))) (bM (λ_ h=>aq.sq h) (λ_ h=>h)))),(7,.s 9)]) N0 [] (λj L=>L.set 9 (ob (B0 o) (rB 72 ((bS 36 (eH l x p) k).take (36*k)++((g8 (((l.drop (32*k)).take 32)) ((cp x p)))++((l.drop (32*k)).take 32))++(bS 36 (eH l x p) k).drop ((36*k)+((g8 (((l.drop (32*k)).take 32)) ((cp x p)))++((l.drop (32*k)).take 32)).length))).toArray 217)++[bB ((j 5).val 0) ((g8 (((l.drop (32*k)).take 32)) ((cp x p)))++((l.drop (32*k)).take 32))]) λj=>ne _ ⟨Om,rfl⟩ [0,1,2,3,4,5,6,7,8,9,10,11] (by rw[←Es (pj e x p) (pj e x p k),Eu Om];kernel_rfl)
 have a:=ou (n:=36) (pj e x p) (k:=2) Om;exact rs [(0,.l 9),(1,.s 8)] 8 (ob (B4 f) (rB 72 (bS 36 (eH l x p) 2)).toArray 217) (lf ab.zero [] [(0,0),(1,1),(2,2),(3,3)] [8])
end
end E
def y7:Nat→Nat→Nat→List Nat
 | 0,_,_=>[]
 | m+1,x,k=>if pc x=k then x::y7 m (x+1) k else y7 m (x+1) k
def choose(n k:Nat):List Nat:=y7 (2^n) 0 k
namespace Hs
def sU(s:List Nat×List Int)(i x:Nat):List Nat×List Int:=(s.1.set i x,s.2.set x (i:Int))
def OZ:List Nat×List Int:=(ZN 74 0,ZN 256 (-1))
def hA:Nat→List Nat×List Int
 | 0=>OZ
 | k+1=>sU (hA k) (64+k) (2^k)
def hB:Nat→List Nat×List Int
 | 0=>hA 8
 | k+1=>sU (hB k) k ((choose 8 3).getD k 0)
def O0(k:Nat):Nat:=if k<8 then 56+k else 64+k
def hC:Nat→List Nat×List Int
 | 0=>hB 56
 | k+1=>sU (hC k) (O0 k) ((choose 8 5).getD k 0)
def y8:List Nat:=(hC 10).1
def hats:List Int:=(hC 10).2
theorem qu(s:List Nat×List Int)(i x:Nat):(sU s i x).1.length=s.1.length∧(sU s i x).2.length=s.2.length:=⟨Z3,Z3⟩
theorem O3(k:Nat):(hA k).1.length=74∧(hA k).2.length=256:=by
 induction k with
 | zero=>exact⟨Z4,Z4⟩
 | succ k ih=>rw[hA];exact⟨(qu _ _ _).1.trans ih.1,(qu _ _ _).2.trans ih.2⟩
theorem O4(k:Nat):(hB k).1.length=74∧(hB k).2.length=256:=by
 induction k with
 | zero=>exact O3 8
 | succ k ih=>rw[hB];exact⟨(qu _ _ _).1.trans ih.1,(qu _ _ _).2.trans ih.2⟩
theorem O5(k:Nat):(hC k).1.length=74∧(hC k).2.length=256:=by
 induction k with
 | zero=>exact O4 56
 | succ k ih=>rw[hC];exact⟨(qu _ _ _).1.trans ih.1,(qu _ _ _).2.trans ih.2⟩
theorem hcols_len:y8.length=74:=(O5 10).1
def col(i:Nat):Nat:=y8.getD i 0
def atS(s:Nat):Int:=hats.getD s (-1)
def hcolL:List Nat:=[7,11,13,14,19,21,22,25,26,28,35,37,38,41,42,44,49,50,52,56,67,69,70,73,74,76,81,82,84,88,97,98,100,104,112,131,133,134,137,138,140,145,146,148,152,161,162,164,168,176,193,194,196,200,208,224,31,47,55,59,61,62,79,87,1,2,4,8,16,32,64,128,91,93]
theorem hcols_eq:y8=hcolL:=by decide+kernel
theorem O6: ∀i,i<74→hcolL.getD i 0<256∧0<hcolL.getD i 0:=by decide+kernel
theorem col_pos{i:Nat}(h:i<74):0<col i:=by unfold col;rw[hcols_eq];exact(O6 i h).2
theorem O7: ∀i,i<74→hats.getD (hcolL.getD i 0) (-1)=(i:Int):=by decide+kernel
theorem at_col{i:Nat}(h:i<74):atS (col i)=(i:Int):=by unfold atS col;rw[hcols_eq];exact O7 i h
theorem O8: ∀j,j<8→hcolL.getD (64+j) 0=2^j:=by decide+kernel
theorem col_check{j:Nat}(h:j<8):col (64+j)=2^j:=by unfold col;rw[hcols_eq];exact O8 j h
def jq:Nat→Nat→Nat→Nat
 | 0,_,_=>0
 | r+1,k,z=>(if z%2=1 then col k else 0)^^^jq r (k+1) (z/2)
def cs(d:Nat):Nat:=jq 64 0 d
theorem Ew(a b c:Nat):(if(a^^^b)%2=1 then c else 0)=(if a%2=1 then c else 0)^^^(if b%2=1 then c else 0):=by
 rw[xl];rcases aax a with d | d<;>rcases aax b with e | e<;>rw[d,e]<;>simp
theorem O9(a b c:Nat):a^^^(b^^^c)=b^^^(a^^^c):=by rw[←Z2,abe a b,Z2]
theorem Pb(r:Nat): ∀k a b,jq r k (a^^^b)=jq r k a^^^jq r k b:=by
 induction r with
 | zero=>intro k a b;simp [jq]
 | succ r ih=>
  intro k a b;rw[jq,jq,jq,Ew,IK,ih];simp only[Z2,O9]
theorem cs_xor(a b:Nat):cs (a^^^b)=cs a^^^cs b:=Pb 64 0 a b
theorem csTo_zero(r:Nat): ∀k,jq r k 0=0:=by
 induction r with
 | zero=>intro k;rfl
 | succ r ih=>intro k;rw[jq];simp [ih]
theorem Pc(r:Nat): ∀k i,i<r→jq r k (2^i)=col (k+i):=by
 induction r with
 | zero=>intro k i h;omega
 | succ r ih=>
  intro k i h;rw[jq];cases i with
  | zero=>simp [csTo_zero]
  | succ i=>
   have a:2^(i+1)%2=0:=by rw[aao];omega
   have b:2^(i+1)/2=2^i:=by rw[aao];omega
   rw[a,b,ih (k+1) i Om,ALifn Dc,aas]
   congr 1;omega
theorem cs_pow{i:Nat}(h:i<64):cs (2^i)=col i:=by unfold cs;rw[Pc 64 0 i h,Z5]
def xfold(s:Nat)(l:List Nat):Nat:=l.foldl (λs i=>s^^^col i) s
theorem xfold_ones(r:Nat): ∀k z s,xfold s (eX r k z)=s^^^jq r k z:=by
 induction r with
 | zero=>intro k z s;simp [eX,jq,xfold]
 | succ r ih=>
  intro k z s;rw[eX,jq]
  split
  ·show xfold (s^^^col k) _=_;rw[ih,Z2]
  ·rw[ih,aas]
theorem xfold_snoc(s:Nat)(l:List Nat)(i:Nat):xfold s (l++[i])=xfold s l^^^col i:=by simp [xfold]
def mark(a c:Nat):Nat:=if a%2=1 then col c else 0
def chk(d a p:Nat):Nat:=cs d^^^mark a 72^^^mark p 73
theorem mark_xor(a b c:Nat):mark (a^^^b) c=mark a c^^^mark b c:=Ew a b _
def verdict(s:Nat):Nat×Int:=
 if s=0 then(0, -1) else if atS s= -1 then(4, -1) else if atS s=72 then(3, -1) else if atS s=73 then(2, -1) else(1,atS s)
def low(a:Int):Nat:=(a%2).toNat
def decD(d:Nat)(v:Nat×Int):Nat:=if v.1=1∧v.2<64 then d^^^2^v.2.toNat else d
def tD(d i:Nat):Nat:=if i<64 then d^^^2^i else d
def tK(k i:Nat):Nat:=if 64≤i∧i<72 then k^^^2^(i-64) else k
theorem tD_lt{d:Nat}(i:Nat)(h:d<18446744073709551616):tD d i<18446744073709551616:=by
 unfold tD
 split
 ·exact Z8 (n:=64) h (aav Dc As)
 ·exact h
theorem tK_lt{k:Nat}(i:Nat)(h:k<256):tK k i<256:=by
 unfold tK
 split
 ·exact Z8 (n:=8) h (aav Dc Om)
 ·exact h
end Hs
namespace E
section
open Go Go.RowKit
def aN(mode:Int):Nat:=if mode=1 then 9 else if mode=2 then 36 else 0
def dy(mode:Int):Nat:=if mode=1 then 8 else if mode=2 then 2 else 0
def cN(mode:Int)(a b:UInt8):Nat:=if mode=1 then pc (a^^^b).toNat else if a=b then 0 else 1
theorem y9{n:Nat}(h:n<2^64):pc n=0↔n=0:=by
 constructor
 ·intro b;rcases Nat.eq_zero_or_pos n with a | a
  ·exact a
  ·have:=Bq n a h;omega
 ·rintro rfl;exact xj
theorem Pd(a:UInt8):a^^^a=0:=by
 apply UInt8.toNat_inj.1;rw[Z7,aag];rfl
theorem Pe{a b:UInt8}(h:(a^^^b).toNat=0):a=b:=by
 apply UInt8.toNat_inj.1;rw[Z7] at h;have c:=ALca (· ^^^b.toNat) h;simpa [Z2] using c
theorem Ex(mode:Int)(a:UInt8):cN mode a a=0:=by
 unfold cN
 split
 ·rw[Pd];exact xj
 ·rw[ALifp rfl]
theorem Ey{mode:Int}{a b:UInt8}:cN mode a b=0↔a=b:=by
 constructor
 ·intro h;unfold cN at h
  split at h
  ·have:=(a^^^b).toNat_lt;exact Pe ((y9 Om).1 h)
  ·split at h
   ·assumption
   ·omega
 ·rintro rfl;exact Ex _ _
theorem Pf(mode:Int)(a b:UInt8):cN mode a b=cN mode b a:=by
 unfold cN;rw[abu];by_cases h:a=b
 ·subst h;rfl
 ·rw[ALifn h,ALifn (Ne.symm h)]
theorem Ez{n:Nat}(h:n<256):pc n≤8:=by
 have a:pc n=ey 8 n:=(ue 8 n Om Om).symm;rw[a];exact Bp 8 n
theorem EA(mode:Int)(a b:UInt8):cN mode a b≤if mode=1 then 8 else 1:=by
 unfold cN
 split
 ·exact Ez (a^^^b).toNat_lt
 ·split<;>omega
def bZ(f:Nat→Nat):Nat→Nat
 | 0=>0
 | k+1=>bZ f k+f k
theorem zp{f g:Nat→Nat}: ∀n,(∀i,i<n→f i=g i)→bZ f n=bZ g n
 | 0,_=>rfl
 | n+1,h=>by rw[bZ,bZ,zp n (λi a=>h i Om),h n Om]
theorem sX{f:Nat→Nat}: ∀n,bZ f n=0↔∀i,i<n→f i=0
 | 0=>⟨λ_ i a=>by omega,λ_=>rfl⟩
 | n+1=>by
  rw[bZ]
  constructor
  ·intro h i a;by_cases e:i=n
   ·subst e;omega
   ·exact(sX n).1 Om i Om
  ·intro h;rw[(sX n).2 (λi a=>h i Om),h n Om]
theorem EB{f:Nat→Nat}{c:Nat}: ∀n,(∀i,i<n→i≠c→f i=0)→bZ f n=if c<n then f c else 0
 | 0,_=>rfl
 | n+1,h=>by
  rw[bZ,EB n (λi e d=>h i Om d)];by_cases a:c<n
  ·rw[ALifp a,ALifp Om,h n Om Om];omega
  ·by_cases b:c=n
   ·subst b;rw[ALifn a,ALifp Om];omega
   ·rw[ALifn a,ALifn Om,h n Om Om]
def wC(mode:Int)(xs ys:List UInt8)(k:Nat):Nat:=bZ (λj=>cN mode (xs.getD (aN mode*k+j) 0) (ys.getD (aN mode*k+j) 0)) (aN mode)
def kp(mode:Int)(xs ys:List UInt8):Nat→Nat
 | 0=>0
 | k+1=>max (kp mode xs ys k) (wC mode xs ys k)
def cI(mode:Int)(xs ys:List UInt8):Nat:=kp mode xs ys (dy mode)
theorem vG{mode:Int}{xs ys:List UInt8}{m:Nat}: ∀k,kp mode xs ys k≤m↔∀i,i<k→wC mode xs ys i≤m
 | 0=>⟨λ_ i a=>by omega,λ_=>aan _⟩
 | k+1=>by
  rw[kp]
  constructor
  ·intro h i a;by_cases e:i=k
   ·subst e;omega
   ·exact(vG k).1 Om i Om
  ·intro h;have b:=(vG k).2 (λi a=>h i Om);have c:=h k Om;omega
theorem pn{mode:Int}{xs ys:List UInt8}(a:xs.length=72)(b:ys.length=72){m:Nat}:cI mode xs ys≤m↔∀i,i<dy mode→wC mode xs ys i≤m:=vG _
theorem qv{mode:Int}{xs ys:List UInt8}(b:xs.length=72)(c:ys.length=72){i:Nat}(a:i<dy mode):wC mode xs ys i≤cI mode xs ys:=(pn b c).1 (Z6 _) i a
theorem EC(mode:Int)(xs ys:List UInt8)(k:Nat):wC mode xs ys k=wC mode ys xs k:=zp _ λ_ _=>Pf _ _ _
theorem Pg{mode:Int}{xs ys:List UInt8}(a:xs.length=72)(b:ys.length=72):cI mode xs ys=cI mode ys xs:=by
 have d:=(pn (mode:=mode) a b).2 λi c=>by rw[EC];exact qv b a c
 have e:=(pn (mode:=mode) b a).2 λi c=>by rw[EC];exact qv a b c
 omega
theorem Ph{mode:Int}(h:mode=1∨mode=2){i:Nat}(b:i<72):i/aN mode<dy mode∧i%aN mode<aN mode∧aN mode*(i/aN mode)+i%aN mode=i:=by
 have a:0<aN mode:=by rcases h with rfl | rfl<;>decide
 refine⟨?_,ZV _ a,aa1 _ _⟩;rcases h with rfl | rfl
 ·show i/9<8;omega
 ·show i/36<2;omega
theorem ED{mode:Int}(h:mode=1∨mode=2){xs ys:List UInt8}(a:xs.length=72)(e:ys.length=72):cI mode xs ys=0↔xs=ys:=by
 constructor
 ·intro k;refine aaU Om λi c d=>?_;obtain⟨f,g,j⟩:=Ph h (show i<72 by omega);have l:=qv a e f;have b:=(sX _).1 (show wC mode xs ys (i/aN mode)=0 by omega) _ g;rw[j,Ey,ZJ,ZJ,ZM c,ZM d] at b;exact b
 ·rintro rfl;have:=(pn (mode:=mode) a a (m:=0)).2 λi _=>Nat.le_of_eq ((sX _).2 λ_ _=>Ex _ _);omega
end
section
open Go Go.RowKit Go.Shelf
theorem Pj(x k:Nat):iw x (k+1)=iw x k++[UInt8.ofNat (x/256^k)]:=rfl
theorem EE(a b:Nat):(a^^^b)/2=a/2^^^b/2:=Nat.xor_div_two
theorem Pk(i:Nat):2^(i+1)/2=2^i:=by rw[aao];omega
theorem Pm(i:Nat):2^(i+1)%2=0:=by rw[aao];omega
theorem Pn(k:Nat): ∀n,n<2^k→n≠0→∃i,i<k∧ey k n=ey k (n^^^2^i)+1:=by
 induction k with
 | zero=>intro n a b;omega
 | succ k ih=>
  intro n a b;rw[aao] at a;rcases aax n with h | h
  ·obtain⟨i,c,e⟩:=ih (n/2) Om Om;refine⟨i+1,by omega,?_⟩;rw[ey,ey,EE,Pk,xl,Pm,h,e];omega
  ·refine⟨0,by omega,?_⟩;rw[ey,ey,EE,xl,h];simp;omega
theorem EF{n k:Nat}(c:k≤64)(a:n<2^k)(h0:n≠0): ∃i,i<k∧pc n=pc (n^^^2^i)+1:=by
 obtain⟨i,b,e⟩:=Pn k n a h0;refine⟨i,b,?_⟩;rw[←ue k n a c,←ue k _ (Z8 a (aav Dc b)) c,e]
theorem Po(a b:Nat): ∀n,ey (a+b) n=ey a (n%2^a)+ey b (n/2^a):=by
 induction a with
 | zero=>intro n;rw[Z5,abF,Nat.div_one,ey,Z5]
 | succ a ih=>
  intro n;rw[show a+1+b=(a+b)+1 by omega,ey,ey,ih (n/2)];have c:n%2^(a+1)%2=n%2:=Nat.mod_mod_of_dvd n (by rw[aao];exact Nat.dvd_mul_left 2 _);have d:n%2^(a+1)/2=n/2%2^a:=by rw[aao,ZR,Nat.mod_mul_right_div_self]
  have e:n/2/2^a=n/2^(a+1):=by rw[aao,ZR,Nat.div_div_eq_div_mul]
  rw[c,d,e,abC]
theorem Pp{xs:List UInt8}{off n j:Nat}(d:j<n):aC xs off n/256^j%256=(xs.getD (off+j) 0).toNat:=by
 induction n with
 | zero=>omega
 | succ n ih=>
  rw[qq];have c:=(xs.getD (off+n) 0).toNat_lt;by_cases e:j=n
  ·subst e;have a:=qp xs off j;rw[aa2,show(2:Nat)^8=256 from rfl] at a;rw[aaM _ _ (Nat.pow_pos Dc),aaH a,Z5,aac c]
  ·have b:256^n*(xs.getD (off+n) 0).toNat=256^j*(256*(256^(n-j-1)*(xs.getD (off+n) 0).toNat)):=by
    rw[←ZU 256,←Nat.pow_succ',←ZU,←Nat.pow_add,show j+(n-j-1+1)=n by omega]
   rw[b,aaM _ _ (Nat.pow_pos Dc),aa8,ih Om]
theorem EG{xs:List UInt8}{off D:Nat}: ∀n,(∀j,j<n→(xs.getD (off+j) 0).toNat=D/256^j%256)→aC xs off n=D%256^n
 | 0,_=>by rw[abF,Nat.mod_one];rfl
 | n+1,h=>by rw[qq,EG n (λj a=>h j Om),h n Om,Nat.mod_pow_succ]
theorem EH{xs ys:List UInt8}{a b:Nat}: ∀n,(∀j,j<n→xs.getD (a+j) 0=ys.getD (b+j) 0)→aC xs a n=aC ys b n
 | 0,_=>rfl
 | n+1,h=>by rw[qq,qq,EH n (λj c=>h j Om),h n Om]
theorem Pq(x:Nat): ∀n j,j<n→(iw x n).getD j 0=UInt8.ofNat (x/256^j):=by
 intro n
 induction n with
 | zero=>intro j a;omega
 | succ n ih=>
  intro j a;rw[Pj,ZJ];by_cases e:j=n
  ·subst e;rw[ZX (by rw[j4];omega),j4,Nat.sub_self];rfl
  ·rw[ZS (by rw[j4];omega),←ZJ];exact ih j Om
theorem EI(c ys:List UInt8)(a b:Nat): ∀n,n≤8→ey (8*n) (aC c a n^^^aC ys b n)=bZ (λj=>pc (c.getD (a+j) 0^^^ys.getD (b+j) 0).toNat) n
 | 0,_=>rfl
 | n+1,f=>by
  have h:=λ(c:List UInt8) (a:Nat)=>qp c a n;have d:=λ(c:List UInt8) (a:Nat)=>(show aC c a (n+1)/2^(8*n)=(c.getD (a+n) 0).toNat by
   rw[qq,show(256:Nat)^n=2^(8*n) by rw[aa2],aaM _ _ (Nat.two_pow_pos _),aaH (h c a),Z5])
  have e:=λ(c:List UInt8) (a:Nat)=>(show aC c a (n+1)%2^(8*n)=aC c a n by
   rw[qq,show(256:Nat)^n=2^(8*n) by rw[aa2],aa8,aac (h c a)])
  rw[bZ,←EI c ys a b n Om,show 8*(n+1)=8*n+8 by omega,Po,Nat.xor_mod_two_pow,Nat.xor_div_two_pow,d,d,e,e,←Z7];rw[ue 8 _ ((c.getD (a+n) 0^^^ys.getD (b+n) 0).toNat_lt) Dc]
def iX(z k:Nat):Nat:=pc z+pc k
def nC(z k:Nat):Nat:=Hs.cs z^^^k
theorem EJ:nC 0 0=0:=by unfold nC;rw[show Hs.cs 0=0 from Hs.csTo_zero 64 0];rfl
theorem zr{z k:Nat}(a:z<2^64)(d:k<2^8):iX z k=0↔z=0∧k=0:=by
 unfold iX;have b:=y9 a;have c:=y9 (n:=k) Om;omega
theorem Pr{z k:Nat}(f:z<2^64)(d:k<2^8)(h:iX z k≠0): ∃t,t<72∧iX z k=iX (Hs.tD z t) (Hs.tK k t)+1∧nC z k=nC (Hs.tD z t) (Hs.tK k t)^^^Hs.col t:=by
 by_cases c:z=0
 ·have b:k≠0:=λe=>h ((zr f d).2 ⟨c,e⟩);obtain⟨i,a,e⟩:=EF Dc d b;refine⟨64+i,by omega,?_⟩;unfold Hs.tD Hs.tK;rw[ALifn Om,ALifp Om,aba];refine⟨by unfold iX;omega,?_⟩;unfold nC;rw[Hs.col_check a,Z2,Z2,aag,aaa]
 ·obtain⟨i,a,e⟩:=EF Dc f c;refine⟨i,by omega,?_⟩;unfold Hs.tD Hs.tK;rw[ALifp a,ALifn Om];refine⟨by unfold iX;omega,?_⟩;unfold nC;rw[Hs.cs_xor,Hs.cs_pow a,Z2,Z2,abe k,←Z2 (Hs.col i),aag,aas]
theorem Ps{z:Nat}(t:Nat)(h:z<2^64):Hs.tD z t<2^64:=Hs.tD_lt t h
theorem Pt{k:Nat}(t:Nat)(h:k<2^8):Hs.tK k t<2^8:=Hs.tK_lt t h
theorem Pu(z t:Nat):Hs.tD (Hs.tD z t) t=z:=by
 unfold Hs.tD;by_cases h:t<64
 ·rw[ALifp h,ALifp h,Z2,aag,aaa]
 ·rw[ALifn h,ALifn h]
theorem Pv(z t:Nat):Hs.tK (Hs.tK z t) t=z:=by
 unfold Hs.tK;by_cases h:64≤t∧t<72
 ·rw[ALifp h,ALifp h,Z2,aag,aaa]
 ·rw[ALifn h,ALifn h]
theorem Pw{z k:Nat}(d:z<2^64)(c:k<2^8)(h:iX z k=1): ∃t,t<72∧nC z k=Hs.col t∧z=Hs.tD 0 t∧k=Hs.tK 0 t:=by
 obtain⟨t,f,g,e⟩:=Pr d c Om;obtain⟨a,b⟩:=(zr (Ps t d) (Pt t c)).1 Om;refine⟨t,f,?_,?_,?_⟩
 ·rw[e,a,b,EJ,aas]
 ·rw[←a,Pu]
 ·rw[←b,Pv]
end
section
open Go Go.RowKit Go.Shelf
def Px(x:Int):Nat:=(x%8388608).toNat
def j5(x:Int):Nat:=pc (Px x)%2
def vH(d:Nat)(a p:Int):UInt8:=bn d a p (Zv 10)
def po(d:Nat)(k:UInt8)(a:Int):Nat:=(bn d a 0 (Zv 10)^^^k).toNat
theorem zs(i:Nat):((Zv 10).getD i 0).toNat=Hs.col i:=by
 have h: ∀i,i<74→((Zv 10).getD i 0).toNat=Hs.hcolL.getD i 0:=by decide+kernel
 rcases aaz i 74 with a | a
 ·rw[h i a];unfold Hs.col;rw[Hs.hcols_eq]
 ·unfold Hs.col;rw[ZJ,Z1 (by rw[jo];exact a),ZJ,Z1 (by rw[Hs.hcols_len];exact a)];rfl
theorem Py{l:List Nat}{k:Nat}(h:k<l.length):l.take (k+1)=l.take k++[l.getD k 0]:=by
 rw[aaA,ZM h,ZJ,ZM h];rfl
theorem EK(d:Nat): ∀k,k≤(bj d).length→(xc (Zv 10) d k).toNat=Hs.xfold 0 ((bj d).take k)
 | 0,_=>rfl
 | k+1,h=>by rw[xc,Z7,EK d k Om,zs,Py Om,Hs.xfold_snoc]
theorem Pz(d:Nat):(xc (Zv 10) d (bj d).length).toNat=Hs.cs d:=by
 rw[EK d _ (Z6 _),abp];have h:=Hs.xfold_ones 64 0 d 0;rw[aas] at h;exact h
theorem EL(a:Int)(c:Nat):Hs.mark (Hs.low a) c=if a%2=1 then Hs.col c else 0:=by
 unfold Hs.mark Hs.low;by_cases h:a%2=1
 ·rw[ALifp h,ALifp Om]
 ·rw[ALifn h,ALifn Om]
theorem EM(d:Nat)(a p:Int):(vH d a p).toNat=Hs.chk d (Hs.low a) (Hs.low p):=by
 unfold vH bn Hs.chk;rw[EL,EL,←Pz,←zs 72,←zs 73];by_cases c:a%2=1
 ·by_cases b:p%2=1
  ·rw[ALifp c,ALifp b,beq_iff_eq.2 c,beq_iff_eq.2 b,ALct,ALct,Z7,Z7]
  ·rw[ALifp c,ALifn b,beq_iff_eq.2 c,beq_false_of_ne b,ALct,ALcf,Z7,aaa]
 ·by_cases b:p%2=1
  ·rw[ALifn c,ALifp b,beq_false_of_ne c,beq_iff_eq.2 b,ALct,ALcf,Z7,aaa]
  ·rw[ALifn c,ALifn b,beq_false_of_ne c,beq_false_of_ne b,ALcf,ALcf,aaa,aaa]
theorem PA(d:Nat)(k:UInt8)(a:Int):po d k a=Hs.chk d (Hs.low a) 0^^^k.toNat:=by
 unfold po;rw[Z7];exact ALca (· ^^^k.toNat) (EM d a 0)
theorem PB:Hs.hats=km:=by decide+kernel
theorem PC(n:Nat):Hs.verdict n=if n=0 then(0, -1) else if km.getD n (-1)= -1 then(4, -1) else if km.getD n (-1)=72 then(3, -1) else if km.getD n (-1)=73 then(2, -1) else(1,km.getD n (-1)):=by unfold Hs.verdict Hs.atS;rw[PB]
theorem PD: ∀n:Nat,n<256→(dn (UInt8.ofNat n) km,de (UInt8.ofNat n) km)=(if n=0 then((0:Int),(-1:Int)) else if km.getD n (-1)= -1 then(4, -1) else if km.getD n (-1)=72 then(3, -1) else if km.getD n (-1)=73 then(2, -1) else(1,km.getD n (-1))):=by decide+kernel
theorem vv{n:Nat}{z A B:Int}(h:(A,B)=(if n=0 then((0:Int),(-1:Int)) else if z= -1 then(4, -1) else if z=72 then(3, -1) else if z=73 then(2, -1) else(1,z))):
  A=(((if n=0 then((0:Nat),(-1:Int)) else if z= -1 then(4, -1) else if z=72 then(3, -1) else if z=73 then(2, -1) else(1,z)).1:Nat):Int)∧B=(if n=0 then((0:Nat),(-1:Int)) else if z= -1 then(4, -1) else if z=72 then(3, -1) else if z=73 then(2, -1) else(1,z)).2:=by
 by_cases a:n=0
 ·simp only[ALifp a,Prod.mk.injEq] at h⊢;exact h
 ·by_cases b:z= -1
  ·simp only[ALifn a,ALifp b,Prod.mk.injEq] at h⊢;exact h
  ·by_cases c:z=72
   ·simp only[ALifn a,ALifn b,ALifp c,Prod.mk.injEq] at h⊢;exact h
   ·by_cases d:z=73
    ·simp only[ALifn a,ALifn b,ALifn c,ALifp d,Prod.mk.injEq] at h⊢;exact h
    ·simp only[ALifn a,ALifn b,ALifn c,ALifn d,Prod.mk.injEq] at h⊢;exact h
theorem EN(s:UInt8):dn s (bJ 10)=((Hs.verdict s.toNat).1:Int)∧de s (bJ 10)=(Hs.verdict s.toNat).2:=by
 have h:=PD s.toNat s.toNat_lt;rw[abn] at h;rw[En,PC];exact vv h
theorem PE{f:Nat→List UInt8}{m:Nat}(h: ∀i,(f i).length=m): ∀n k,k<n→∀z,(((ZL n).flatMap f++z).drop (m*k)).take m=f k:=by
 intro n
 induction n with
 | zero=>intro k a;omega
 | succ n ih=>
  intro k a z;rw[aak,aaO,aaG,aaC];by_cases e:k=n
  ·subst e;rw[aaI (vE h k),aaZ (h k)]
  ·exact ih k Om _
theorem zt{xs:List UInt8}{a n j:Nat}(b:j<n):((xs.drop a).take n).getD j 0=xs.getD (a+j) 0:=by
 rw[ZJ,ZJ,aad b,aai]
theorem zu{f:Nat→List UInt8}{m:Nat}(h: ∀i,(f i).length=m){n k j:Nat}(b:k<n)(a:j<m):(bS m f n).getD (m*k+j) 0=(f k).getD j 0:=by
 rw[←zt a];unfold bS;rw[PE h n k b]
theorem EO{xs:List UInt8}{k j:Nat}(a:j<9):(w9 xs k).getD j 0=xs.getD (9*k+j) 0:=zt a
theorem PF{xs:List UInt8}{k j:Nat}(a:j<36):(iV xs k).getD j 0=xs.getD (36*k+j) 0:=zt a
theorem PG{l:List UInt8}{x:Int}{p:Bool}{k j:Nat}(a:j<8):(eZ l x p k).getD j 0=UInt8.ofNat (aC l (8*k) 8/256^j):=by
 unfold eZ;rw[ZJ,ZS (by rw[j4];exact a),←ZJ,Pq _ _ _ a]
theorem PH{l:List UInt8}{x:Int}{p:Bool}{k:Nat}:(eZ l x p k).getD 8 0=vH (aC l (8*k) 8) ((j5 x:Nat):Int) (ei p):=by
 unfold eZ;rw[ZJ,ZX (by rw[j4];omega),j4];rfl
theorem PI{l:List UInt8}{x:Int}{p:Bool}{k:Nat}(b:k<8):aC (bS 9 (eZ l x p) 8) (9*k) 8=aC l (8*k) 8:=by
 rw[EG (D:=aC l (8*k) 8) 8 λj a=>by
  rw[zu (ow l x p) b Om,PG a,abj]]
 exact aac (qt _ _ Dc)
def zD(l ys:List UInt8)(k:Nat):Nat:=aC l (8*k) 8^^^aC (w9 ys k) 0 8
def zK(l:List UInt8)(x:Int)(p:Bool)(ys:List UInt8)(k:Nat):Nat:=(vH (aC l (8*k) 8) ((j5 x:Nat):Int) (ei p)).toNat^^^((w9 ys k).getD 8 0).toNat
theorem EP(l ys:List UInt8)(k:Nat):zD l ys k<2^64:=Z8 (qp _ _ 8) (qp _ _ 8)
theorem ER(l:List UInt8)(x:Int)(p:Bool)(ys:List UInt8)(k:Nat):zK l x p ys k<2^8:=Z8 (abv _) (abv _)
theorem ES{l:List UInt8}{x:Int}{p:Bool}{ys:List UInt8}{k:Nat}(c:k<8):wC 1 (bS 9 (eZ l x p) 8) ys k=iX (zD l ys k) (zK l x p ys k):=by
 have d:wC 1 (bS 9 (eZ l x p) 8) ys k=bZ (λj=>pc ((bS 9 (eZ l x p) 8).getD (9*k+j) 0^^^ys.getD (9*k+j) 0).toNat) (8+1):=rfl;rw[d,bZ,←EI _ _ _ _ 8 (Z6 8),PI c,zu (ow l x p) c Om,PH,Z7];unfold iX zD zK;rw[EO Om,EH (xs:=w9 ys k) (ys:=ys) (a:=0) (b:=9*k) 8 λj e=>by rw[Z5];exact EO Om];rfl
theorem ET(x:Int):Hs.low ((j5 x:Nat):Int)=j5 x:=by unfold Hs.low j5;omega
theorem PJ(p:Bool):Hs.low (ei p)=p.toNat:=by cases p<;>rfl
theorem x5(a b:Nat):a^^^(a^^^b)=b:=by rw[←Z2,aag,aas]
theorem PK(l:List UInt8)(x:Int)(p:Bool)(ys:List UInt8)(y:Int)(k:Nat):
  po (aC (w9 ys k) 0 8) ((w9 ys k).getD 8 0) ((j5 y:Nat):Int)=nC (zD l ys k) (zK l x p ys k)^^^(Hs.mark (j5 x^^^j5 y) 72^^^Hs.mark p.toNat 73):=by
 have b:aC (w9 ys k) 0 8=aC l (8*k) 8^^^zD l ys k:=by unfold zD;rw[x5]
 have c:((w9 ys k).getD 8 0).toNat=zK l x p ys k^^^Hs.chk (aC l (8*k) 8) (j5 x) p.toNat:=by
  unfold zK;rw[EM,ET,PJ,abe,x5]
 rw[PA,ET,c,b];unfold Hs.chk nC;rw[Hs.cs_xor,show Hs.mark 0 73=0 from rfl,Hs.mark_xor];generalize Hs.cs (aC l (8*k) 8)=A;generalize Hs.cs (zD l ys k)=B;generalize Hs.mark (j5 y) 72=C;generalize Hs.mark (j5 x) 72=a;generalize zK l x p ys k=D;generalize Hs.mark p.toNat 73=E;apply Nat.eq_of_testBit_eq;intro i;simp only[Nat.testBit_xor,Nat.zero_testBit];cases A.testBit i<;>cases B.testBit i<;>cases C.testBit i<;>cases a.testBit i<;>cases D.testBit i<;>cases E.testBit i<;>rfl
theorem PL:Hs.verdict 0=(0, -1):=by unfold Hs.verdict;rw[ALifp rfl]
theorem PM{t:Nat}(h:t<72):Hs.verdict (Hs.col t)=(1,(t:Int)):=by
 unfold Hs.verdict;rw[ALifn (by have:=Hs.col_pos (i:=t) Om;omega),Hs.at_col Om,ALifn Om,ALifn Om,ALifn Om]
theorem PN(d:Nat)(k:UInt8)(a:Int):fZ d k a (Zv 10) (bJ 10)=Hs.decD d (Hs.verdict (po d k a)):=by
 have h:=EN (bn d a 0 (Zv 10)^^^k);unfold fZ Hs.decD;rw[h.1,h.2];show _=if(Hs.verdict (bn d a 0 (Zv 10)^^^k).toNat).1=1∧(Hs.verdict (bn d a 0 (Zv 10)^^^k).toNat).2<64 then _ else d
 by_cases e:(Hs.verdict (bn d a 0 (Zv 10)^^^k).toNat).1=1∧(Hs.verdict (bn d a 0 (Zv 10)^^^k).toNat).2<64
 ·rw[ALifp e,cd e.2,e.1];show d^^^1*2^_=d^^^2^_;rw[Nat.one_mul];rfl
 ·rw[ALifn e];have:(((((Hs.verdict (bn d a 0 (Zv 10)^^^k).toNat).1:Nat):Int)==1)&&decide ((Hs.verdict (bn d a 0 (Zv 10)^^^k).toNat).2<64))=false:=by
   rw[abc];by_cases b:(Hs.verdict (bn d a 0 (Zv 10)^^^k).toNat).1=1
   ·exact .inr (a8 λc=>e ⟨b,c⟩)
   ·exact .inl (beq_false_of_ne Om)
  rw[this];rfl
theorem EU{ys:List UInt8}{y:Int}{k v:Nat}{a:Int}(h:Hs.verdict (po (aC (w9 ys k) 0 8) ((w9 ys k).getD 8 0) ((j5 y:Nat):Int))=(v,a)):dK ys y k=if v=0 then 0 else if v=1 then 1 else if v=2 then 2 else 3:=by
 have e:dn ((bn (aC (w9 ys k) 0 8) ((pc ((y%8388608).toNat)%2:Nat):Int) 0 (Zv 10))^^^((w9 ys k).getD 8 0)) (bJ 10)=((v:Nat):Int):=by
  have b:=(EN ((bn (aC (w9 ys k) 0 8) ((j5 y:Nat):Int) 0 (Zv 10))^^^((w9 ys k).getD 8 0))).1;unfold po at h;rw[h] at b;exact b
 unfold dK ko;rw[e];by_cases c:v=0
 ·subst c;rfl
 by_cases d:v=1
 ·subst d;rfl
 by_cases b:v=2
 ·subst b;rfl
 rw[ALifn c,ALifn d,ALifn b];have f:(((v:Nat):Int)==0)=false:=by rw[dj];omega
 have g:(((v:Nat):Int)==1)=false:=by rw[dj];omega
 have i:(((v:Nat):Int)==2)=false:=by rw[dj];omega
 rw[f,g,i];rfl
theorem EV{ys:List UInt8}{y:Int}{k v:Nat}{a:Int}(h:Hs.verdict (po (aC (w9 ys k) 0 8) ((w9 ys k).getD 8 0) ((j5 y:Nat):Int))=(v,a)):dW ys y k=Hs.decD (aC (w9 ys k) 0 8) (v,a):=by
 have e:=PN (aC (w9 ys k) 0 8) ((w9 ys k).getD 8 0) ((j5 y:Nat):Int);rw[h] at e;exact e
theorem PO:Hs.mark 0 72=0:=rfl
theorem PQ{l:List UInt8}{x:Int}{ys:List UInt8}{k:Nat}(h:iX (zD l ys k) (zK l x false ys k)≤1):dK ys x k=(iX (zD l ys k) (zK l x false ys k):Int)∧dW ys x k=aC l (8*k) 8:=by
 have a:=PK l x false ys x k;rw[aag,PO,show Hs.mark false.toNat 73=0 from rfl,aag,aaa] at a;have i:aC (w9 ys k) 0 8=aC l (8*k) 8^^^zD l ys k:=by unfold zD;rw[x5]
 rcases(show iX (zD l ys k) (zK l x false ys k)=0∨iX (zD l ys k) (zK l x false ys k)=1 by omega) with f | g
 ·obtain⟨c,d⟩:=(zr (EP l ys k) (ER l x false ys k)).1 f;rw[c,d,EJ] at a;have b:=(ALca Hs.verdict a).trans (PL);refine⟨by rw[EU b,f];rfl,?_⟩;rw[EV b,i,c,aaa];rfl
 ·obtain⟨t,m,c,d,_⟩:=Pw (EP l ys k) (ER l x false ys k) g;rw[c] at a;have b:=(ALca Hs.verdict a).trans (PM m);refine⟨by rw[EU b,g];rfl,?_⟩;rw[EV b,i,d];unfold Hs.decD Hs.tD;by_cases e:t<64
  ·rw[ALifp ⟨rfl,by show(t:Int)<64;omega⟩,ALifp e,aas,Z2];show aC l (8*k) 8^^^(2^t^^^2^t)=_;rw[aag,aaa]
  ·rw[ALifn (by rintro ⟨_,j⟩;exact e (by have:(t:Int)<64:=j;omega)),ALifn e,aaa]
end
section
open Go Go.RowKit Go.Shelf
theorem zw(l:List Int): ∀a:Int,(a≤l.foldl max a∧(∀x,x∈l→x≤l.foldl max a))∧∀m,a≤m→(∀x,x∈l→x≤m)→l.foldl max a≤m:=by
 induction l with
 | nil=>intro a;exact⟨⟨Int.le_refl _,λx h=>absurd h aaE⟩,λm h _=>h⟩
 | cons y l ih=>
  intro a;obtain⟨⟨e,c⟩,d⟩:=ih (max a y);rw[aaY];refine⟨⟨by omega,λx b=>?_⟩,λm f b=>d m (by have:=b y aaQ;omega) λx h=>b x (abf _ h)⟩;rcases List.mem_cons.1 b with rfl | h
  ·omega
  ·exact c x h
theorem EW(l:List Int):0≤jK l:=(zw l 0).1.1
theorem PR{l:List Int}{x:Int}(h:x∈l):x≤jK l:=(zw l 0).1.2 x h
theorem EX{l:List Int}{m:Int}(h0:0≤m)(h: ∀x,x∈l→x≤m):jK l≤m:=(zw l 0).2 m h0 h
theorem PS(l:List Int): ∀a:Int,a≤l.foldl (λa k=>a+ei (k==1)) a∧((1:Int)∈l→a<l.foldl (λa k=>a+ei (k==1)) a):=by
 induction l with
 | nil=>intro a;exact⟨Int.le_refl _,λh=>absurd h aaE⟩
 | cons y l ih=>
  intro a;obtain⟨d,b⟩:=ih (a+ei (y==1));have e:=y1 (y==1);rw[aaY];refine⟨by omega,λc=>?_⟩;rcases List.mem_cons.1 c with rfl | h
  ·have f:ei ((1:Int)==1)=1:=rfl;omega
  ·have:=b h;omega
theorem PT{l:List Int}(h:(1:Int)∈l):0<jF l:=(PS l 0).2 h
theorem PU{f:Nat→Int}{n k:Nat}(h:k<n):f k∈(ZL n).map f:=List.mem_map.2 ⟨k,List.mem_range.2 h,rfl⟩
theorem PV{f:Nat→Int}{n:Nat}{P:Int→Prop}(h: ∀k,k<n→P (f k)): ∀x,x∈(ZL n).map f→P x:=by
 intro x b;obtain⟨k,a,rfl⟩:=List.mem_map.1 b;exact h k (List.mem_range.1 a)
theorem EY{f:Nat→Int}{c:Nat→Nat}{n e:Nat}(h: ∀k,k<n→f k=(c k:Int))(j: ∀k,k<n→c k≤e)(p:e≤1)(h1:e=1→∃k,k<n∧c k=1):
  jK ((ZL n).map f)=(e:Int)∧(decide (0<gH ((ZL n).map f))=((e:Int)==1)):=by
 have m:jK ((ZL n).map f)≤(e:Int):=EX Om (PV λk a=>by rw[h k a];have:=j k a;omega);have l:=EW ((ZL n).map f);rcases(show e=0∨e=1 by omega) with rfl | rfl
 ·have b:jK ((ZL n).map f)=0:=by omega
  refine⟨b,?_⟩;unfold gH;rw[b];rfl
 ·obtain⟨k,a,i⟩:=h1 rfl;have g:(1:Int)∈(ZL n).map f:=by
   have:=PU (f:=f) a;rwa [h k a,i] at this
  have o:=PR g;have d:jK ((ZL n).map f)=1:=by omega
  refine⟨d,?_⟩;unfold gH;rw[d];show decide (0<jF _)=true;exact cd (PT g)
theorem EZ(l:List UInt8)(x:Int)(p:Bool):(bS 9 (eZ l x p) 8).length=72:=ou (n:=9) (ow l x p) (k:=8) Dc
theorem PW{l:List UInt8}(g:l.length=64){f:Nat→Nat}(h: ∀k,k<8→f k=aC l (8*k) 8):b6 64 (iz (fb 0 8 f 8)) (8*8)=l:=by
 refine aaU (by rw[lC,g]) λi a d=>?_;have b:i<64:=by rw[lC] at a;exact a
 have e:(b6 64 (iz (fb 0 8 f 8)) (8*8)).getD i 0=l.getD i 0:=by
  rw[N8 b,ALifp b];unfold iz;rw[Eo (show i/8<8 by omega),ALifp Om,h _ Om];have c:=Pp (xs:=l) (off:=8*(i/8)) (n:=8) (j:=i%8) Om;rw[show 8*(i/8)+i%8=i by omega] at c;apply UInt8.toNat_inj.1;rw[abj,aa2,←c]
 rw[ZJ,ZJ,ZM a,ZM d] at e;exact e
theorem zx{l:List UInt8}{x:Int}{p:Bool}{r:List UInt8}(b:r.length=72){k:Nat}(a:k<8):iX (zD l r k) (zK l x p r k)≤cI 1 (bS 9 (eZ l x p) 8) r:=by
 rw[←ES a];exact qv (EZ l x p) b a
theorem PX{l:List UInt8}{x:Int}{p:Bool}{r:List UInt8}(c:r.length=72){m:Nat}(h:cI 1 (bS 9 (eZ l x p) 8) r=m+1): ∃k,k<8∧iX (zD l r k) (zK l x p r k)=m+1:=by
 have a: ¬cI 1 (bS 9 (eZ l x p) 8) r≤m:=by omega
 rw[pn (EZ l x p) c] at a;simp only[aa5] at a;obtain⟨k,b,d⟩:=a;have e:=zx (l:=l) (x:=x) (p:=p) c b;rw[ES b] at d;exact⟨k,b,by omega⟩
theorem PY{l:List UInt8}(j:l.length=64){x:Int}{r:List UInt8}(b:r.length=72)(h:cI 1 (bS 9 (eZ l x false) 8) r≤1):
  pf r x=l∧jK ((ZL 8).map (dK r x))=(cI 1 (bS 9 (eZ l x false) 8) r:Int)∧(decide (0<gH ((ZL 8).map (dK r x)))=((cI 1 (bS 9 (eZ l x false) 8) r:Int)==1)):=by
 have g:=λk (a:k<8)=>PQ (aab (zx (l:=l) (x:=x) (p:=false) b a) h);have d:=EY (f:=dK r x) (c:=λk=>iX (zD l r k) (zK l x false r k)) (n:=8) (e:=cI 1 (bS 9 (eZ l x false) 8) r) (λk a=>(g k a).1) (λk a=>zx b a) h λi=>PX b i;refine⟨?_,d⟩;unfold pf;rw[d.1,a8 Om,ALcf];exact PW j λk a=>(g k a).2
end
end E
section
open Go Go.RowKit Go.Shelf
theorem ox{x y:List UInt8}{i:Nat}(h:i<x.length):co (x++y) i=x.getD i 0:=by
 unfold co;rw[ZJ,ZJ,ZS h]
theorem vJ{x y:List UInt8}{n i:Nat}(h:x.length=n):co (x++y) (n+i)=y.getD i 0:=by
 unfold co;rw[ZJ,ZJ,ZX Om,←h,aba]
def g9(d v:List UInt8):List UInt8:=g8 d v++d
theorem qw(d v:List UInt8)(a:d.length=32):(g9 d v).length=36:=by unfold g9;rw[ZO,iv,a]
theorem PZ{l m:List Nat}(g:l.Nodup)(h: ∀x∈l,x∈m):l.length≤m.length:=by
 induction l generalizing m with
 | nil=>exact aan _
 | cons a l ih=>
  obtain⟨d,f⟩:=List.nodup_cons.1 g;have b:=h a (aaQ ..);have:=ih f (m:=m.erase a) λx c=>(List.mem_erase_of_ne (λ(e:x=a)=>d (by rw[←e];exact c))).2 (h x (abf _ c));rw[List.length_erase_of_mem b] at this;have:=List.length_pos_of_mem b;rw[aat];omega
theorem zy{e:Nat→UInt8}{n i:Nat}:i∈kL e n↔i<n∧e i≠0:=by
 unfold kL;rw[List.mem_filter,List.mem_range,bne_iff_ne]
theorem P0{n k:Nat}{f:Nat→UInt8}(c:k<n)(h: ∀i,i<n→i≠k→f i=0):xs n f=f k:=by
 induction n with
 | zero=>omega
 | succ n ih=>
  rw[qm];by_cases e:k=n
  ·subst e;rw[mQ λi b=>h i Om Om,aay]
  ·rw[ih Om λi b a=>h i Om a,h n Om Om,abw]
def Sy(f:Nat→UInt8)(j:Nat):UInt8:=xs 39 λi=>gm (f i) (pw (pw 2 j) i)
theorem E0{f g:Nat→UInt8}(h: ∀i,i<39→f i=g i)(j:Nat):Sy f j=Sy g j:=kJ λi a=>by rw[h i a]
theorem P1(f g:Nat→UInt8)(j:Nat):Sy (λi=>f i^^^g i) j=Sy f j^^^Sy g j:=by
 unfold Sy;rw[←vr];exact kJ λi _=>vn _ _ _
def one(k:Nat)(a:UInt8)(i:Nat):UInt8:=if i=k then a else 0
theorem P2{k:Nat}(c:k<39)(a:UInt8)(j:Nat):Sy (one k a) j=gm a (pw (pw 2 j) k):=by
 unfold Sy;rw[P0 c λi _ b=>by rw[show one k a i=0 from ALifn b,iU],show one k a k=a from ALifp rfl]
theorem P3{w v:List UInt8}(h:(w++v).length=39)(j:Nat):qn w v j=Sy (co (w++v)) j:=by
 unfold qn fm;rw[h];rfl
theorem P4(w v:List UInt8){j:Nat}(a:j<4):co (aV w v) j=qn w v j:=by unfold aV;rw[lj,ALifp a]
theorem P5(n:Nat):pw 1 n=1:=by
 induction n with
 | zero=>rfl
 | succ n ih=>rw[pw,ih,qj]
theorem zz(k:Nat):pw (pw 2 0) k=1:=P5 k
theorem zA(j k:Nat):pw (pw 2 (j+1)) k=gm (pw (pw 2 j) k) (pw 2 k):=by rw[DT,pw,DT]
theorem E1{s:Nat→UInt8}{a:UInt8}{k:Nat}(b:a≠0)(h: ∀j,j<4→s j=gm a (pw (pw 2 j) k)):hit s k=true:=by
 rw[o8,h 0 Om,h 1 Om,h 2 Om,h 3 Om,zz,qj];refine⟨b,?_,?_,?_⟩
 ·rw[zA 0,zz,Du]
 ·rw[zA 1,nv]
 ·rw[zA 2,nv]
theorem P6{s:Nat→UInt8}{a:UInt8}{k:Nat}(f:k<39)(h: ∀j,j<4→s j=gm a (pw (pw 2 j) k)):
  dX s=if a=0 then⟨0, -1,0⟩ else if 35<k then⟨2,k,a⟩ else⟨1,k,a⟩:=by
 by_cases d:a=0
 ·rw[ALifp d];have b: ∀j,j<4→s j=0:=λj e=>by rw[h j e,d,iU]
  exact yN ⟨b 0 Om,b 1 Om,b 2 Om,b 3 Om⟩
 ·rw[ALifn d];have b:s 0=a:=by rw[h 0 Om,zz,qj]
  by_cases c:35<k
  ·rw[ALifp c,D1 c f (E1 d h),b]
  ·rw[ALifn c,D0 Om (E1 d h),b]
def n9(f:Nat→UInt8):Prop:=∀j,j<4→Sy f j=0
theorem P7(d v:List UInt8)(b:d.length=32)(i:Nat):co (g9 d v++v) i=co (o9 d v) i^^^co (kN d v) i:=by
 have c:=yP d v;unfold g9 o9;rw[aaC,aaC];by_cases h:i<4
 ·rw[ox (by rw[iv];omega),ox (by simpa using h)];have a:(ZN 4 (0:UInt8)).getD i 0=0:=by rw[ZJ,List.getElem?_replicate,ALifp h];rfl
  rw[a,aay];show co (g8 d v) i=_;unfold g8;rw[lj,ALifp h]
 ·obtain⟨t,rfl⟩: ∃t,i=4+t:=⟨i-4,by omega⟩;rw[vJ (iv d v),vJ (Z4),fX (p:=kN d v) Om,abw]
theorem P8(j:Nat)(a:j<4):fm cH (pw 2 j)=0:=by
 rw[D3];revert j;decide+kernel
theorem P9(d v:List UInt8)(a:d.length=32)(hv:v.length=3):(g9 d v++v).length=39:=by rw[ZO,qw d v a,hv]
theorem Qa(d v:List UInt8)(a:d.length=32)(hv:v.length=3):n9 (co (g9 d v++v)):=by
 intro j b;have e:Sy (co (g9 d v++v)) j=fm (g9 d v++v) (pw 2 j):=by
  unfold fm;rw[P9 d v a hv];rfl
 rw[e,Mu (q:=sQ (o9 d v) (kN d v)) _ λi=>by rw[yJ];exact P7 d v a i,Mv];have:=MI (p:=o9 d v) (q:=cH) (t:=gi (co cH (a4 cH-1))) (by rw[pa];omega) (ZB (og cH (t:=a4 cH-1) (by rw[pa]))) (P8 j b);rw[show fm (kN d v) (pw 2 j)=fm (o9 d v) (pw 2 j) from this,Z9]
theorem Qb(d v w u:List UInt8)(e:Nat→UInt8)(b:d.length=32)(hv:v.length=3)(c:(w++u).length=39)(h: ∀i,i<39→co (w++u) i=co (g9 d v++v) i^^^e i):dX (co (aV w u))=dX (Sy e):=by
 refine Nl λj a=>?_;rw[P4 _ _ a,P3 c,E0 h,P1,Qa d v b hv j a,aay]
end
namespace E
section
open Go Go.RowKit Go.Shelf
def iY(l:List UInt8)(k:Nat):List UInt8:=(l.drop (32*k)).take 32
theorem qx{l:List UInt8}(b:l.length=64){k:Nat}(a:k<2):(iY l k).length=32:=by unfold iY;rw[ZP,ZY];omega
theorem Qc{l:List UInt8}{x:Int}{p:Bool}{k:Nat}(a:k<2):eH l x p k=g9 (iY l k) (cp x p):=Eu a
theorem zB{l:List UInt8}(a:l.length=64)(x:Int)(p:Bool):(bS 36 (eH l x p) 2).length=72:=ou (n:=36) (pj a x p) (k:=2) Dc
def eC(l:List UInt8)(x:Int)(p:Bool)(r:List UInt8)(y:Int)(q:Bool)(k i:Nat):UInt8:=Go.Proofs.YtbcodenfkijdnaaGreat.co (iV r k++cp y q) i^^^Go.Proofs.YtbcodenfkijdnaaGreat.co (g9 (iY l k) (cp x p)++cp x p) i
theorem vK(e:Nat→UInt8)(n:Nat):(kL e n).length=bZ (λi=>if e i=0 then 0 else 1) n:=by
 induction n with
 | zero=>rfl
 | succ n ih=>
  rw[Nk,ZO,ih,bZ];by_cases h:e n=0
  ·rw[ALifp h,h];rfl
  ·rw[ALifn h,ALifp (bne_iff_ne.2 h)];rfl
theorem vL{a b:UInt8}:a^^^b=0↔b=a:=UInt8.xor_eq_zero_iff.trans eq_comm
theorem E2{l:List UInt8}(c:l.length=64)(x:Int)(p:Bool){r:List UInt8}(f:r.length=72)(y:Int)(q:Bool){k:Nat}(a:k<2):wC 2 (bS 36 (eH l x p) 2) r k=(kL (eC l x p r y q k) 36).length:=by
 rw[vK];have d:wC 2 (bS 36 (eH l x p) 2) r k=bZ (λj=>cN 2 ((bS 36 (eH l x p) 2).getD (36*k+j) 0) (r.getD (36*k+j) 0)) 36:=rfl;rw[d];refine zp 36 λj b=>?_;have g:=nB f a;unfold eC cN;rw[ALifn Dc,ox Om,ox (by rw[qw _ _ (qx c a)];exact b),zu (pj c x p) a b,PF b,Qc a];by_cases h:(g9 (iY l k) (cp x p)).getD j 0=r.getD (36*k+j) 0
 ·rw[ALifp h,ALifp (vL.2 h)]
 ·rw[ALifn h,ALifn λe=>h (vL.1 e)]
theorem E3{l:List UInt8}(b:l.length=64)(x:Int)(p:Bool){r:List UInt8}(c:r.length=72)(y:Int)(q:Bool){k:Nat}(a:k<2)(t:Nat):eC l x p r y q k (36+t)=(cp y q).getD t 0^^^(cp x p).getD t 0:=by
 unfold eC;rw[vJ (nB c a),vJ (qw _ _ (qx b a))]
theorem E4(e:Nat→UInt8):(kL e 39).length=(kL e 36).length+(if e 36=0 then 0 else 1)+(if e 37=0 then 0 else 1)+(if e 38=0 then 0 else 1):=by
 rw[vK,vK];rfl
theorem E5{l:List UInt8}(b:l.length=64)(x:Int)(p:Bool){r:List UInt8}(c:r.length=72)(y:Int)(q:Bool){k:Nat}(a:k<2):dX (Go.Proofs.YtbcodenfkijdnaaGreat.co (aV (iV r k) (cp y q)))=dX (Sy (eC l x p r y q k)):=by
 refine Qb (iY l k) (cp x p) _ _ _ (qx b a) (lD x p) (by rw[ZO,nB c a,lD]) λi d=>?_;unfold eC;rw[abu (Go.Proofs.YtbcodenfkijdnaaGreat.co (iV r k++cp y q) i),←abq,Z9,aay]
theorem Qd{e:Nat→UInt8}(h:(kL e 39).length=0):dX (Sy e)=⟨0, -1,0⟩:=by
 have c: ∀i,i<39→e i=0:=λi b=>aaw λd=>by
  have:=aaV h;have a:=zy.2 ⟨b,d⟩;rw[this] at a;exact absurd a aaE
 have a: ∀j,Sy e j=0:=λj=>mQ λi b=>by rw[c i b,iU]
 exact yN ⟨a 0,a 1,a 2,a 3⟩
theorem Qe{e:Nat→UInt8}{n:Nat}(h:(kL e n).length=1): ∃k,k<n∧e k≠0∧∀i,i<n→i≠k→e i=0:=by
 obtain⟨k,c⟩:=List.length_eq_one_iff.1 h;obtain⟨d,f⟩:=zy.1 (show k∈kL e n by rw[c];exact List.mem_singleton.2 rfl);refine⟨k,d,f,λi g a=>aaw λj=>a ?_⟩;have b:=zy.2 ⟨g,j⟩;rw[c] at b;exact List.mem_singleton.1 b
theorem Qf{e:Nat→UInt8}{k:Nat}(c:k<39)(h:e k≠0)(g: ∀i,i<39→i≠k→e i=0):dX (Sy e)=if 35<k then⟨2,k,e k⟩ else⟨1,k,e k⟩:=by
 have d:=P6 (s:=Sy e) (a:=e k) c λj _=>by
  rw[←P2 c];refine E0 (λi f=>?_) j;unfold one;by_cases b:i=k
  ·rw[ALifp b,b]
  ·rw[ALifn b,g i f b]
 rw[d,ALifn h]
theorem zC{r:List UInt8}{y:Int}{k b:Nat}{c:Int}{a:UInt8}(h:dX (Go.Proofs.YtbcodenfkijdnaaGreat.co (aV (iV r k) (cp y false)))=⟨b,c,a⟩):cK r y k=if b=0 then 0 else if b=1 then 1 else if b=2∧c=38∧a=128 then 2 else 3:=by
 unfold cK nz pd fz Zw eY;rw[h];show(bif ((b:Nat):Int)==0 then 0 else(bif ((b:Nat):Int)==1 then 1 else(bif ((((b:Nat):Int)==2)&&(c==38))&&((a.toNat:Int)==128) then 2 else 3)))=(_:Int);by_cases e:b=0
 ·subst e;rfl
 by_cases f:b=1
 ·subst f;rfl
 rw[ALifn e,ALifn f];have i:(((b:Nat):Int)==0)=false:=by rw[dj];omega
 have j:(((b:Nat):Int)==1)=false:=by rw[dj];omega
 rw[i,j,ALcf,ALcf];by_cases d:b=2∧c=38∧a=128
 ·obtain⟨rfl,rfl,rfl⟩:=d;rfl
 ·rw[ALifn d];have l:((((b:Nat):Int)==2)&&(c==38)&&((a.toNat:Int)==128))=false:=by
   apply Bool.eq_false_iff.2;intro g;rw[ZT,ZT,beq_iff_eq,beq_iff_eq,beq_iff_eq] at g;exact d ⟨by omega,g.1.2,UInt8.toNat_inj.1 (by show a.toNat=128;omega)⟩
  rw[l,ALcf]
theorem Qg(r:List UInt8)(y:Int)(k:Nat):cK r y k≤3:=by
 obtain⟨⟨b,c,a⟩,h⟩: ∃V,dX (Go.Proofs.YtbcodenfkijdnaaGreat.co (aV (iV r k) (cp y false)))=V:=⟨_,rfl⟩;rw[zC h]
 split
 ·decide
 ·split
  ·decide
  ·split<;>decide
theorem Qh{d v:List UInt8}{b:Nat}{e:Int}{a:UInt8}(h:dX (Go.Proofs.YtbcodenfkijdnaaGreat.co (aV d v))=⟨b,e,a⟩)(f:b≠1):fY d v=d.drop 4:=by
 unfold fY;rw[h];have c:(((b:Nat):Int)==1)=false:=by rw[dj];omega
 show(bif ((b:Nat):Int)==1 then _ else _)=_;rw[c,ALcf]
theorem Qi{d v:List UInt8}{t:Nat}{a:UInt8}(h:dX (Go.Proofs.YtbcodenfkijdnaaGreat.co (aV d v))=⟨1,(t:Int),a⟩):fY d v=(d.set t (d.getD t 0^^^a)).drop 4:=by
 unfold fY;rw[h];rfl
theorem E6(d v:List UInt8):(g9 d v).drop 4=d:=by unfold g9;exact aaI (iv d v)
theorem Qj{l:List UInt8}(j:l.length=64){x:Int}{r:List UInt8}(d:r.length=72){k:Nat}(a:k<2)(h:wC 2 (bS 36 (eH l x false) 2) r k=0):cK r x k=0∧cW r x k=iY l k:=by
 have f:=E2 j x false d x false a;have n:=E3 j x false d x false a;have g:=E4 (eC l x false r x false k);rw[show(36:Nat)=36+0 from rfl,show(37:Nat)=36+1 from rfl,show(38:Nat)=36+2 from rfl,n 0,n 1,n 2,Z9,Z9,Z9,ALifp rfl,←f,h] at g;have b:=(E5 j x false d x false a).trans (Qd g);refine⟨by rw[zC b];rfl,?_⟩;unfold cW;rw[Qh b Dc];have p: ∀i,i<36→(iV r k).getD i 0=(g9 (iY l k) (cp x false)).getD i 0:=by
  intro i c;have o:(kL (eC l x false r x false k) 36).length=0:=by rw[←f,h]
  rw[vK] at o;have m:=(sX 36).1 o i c;unfold eC at m;rw[ox (by rw[nB d a];exact c),ox (by rw[qw _ _ (qx j a)];exact c)] at m;by_cases e:(iV r k).getD i 0^^^(g9 (iY l k) (cp x false)).getD i 0=0
  ·exact(vL.1 e).symm
  ·rw[ALifn e] at m;omega
 have q:iV r k=g9 (iY l k) (cp x false):=o3 (by rw[nB d a,qw _ _ (qx j a)]) λi c=>p i (by rw[nB d a] at c;exact c);rw[q,E6]
theorem Qk{l:List UInt8}(g:l.length=64){x:Int}{r:List UInt8}(j:r.length=72){k:Nat}(d:k<2)(h:wC 2 (bS 36 (eH l x false) 2) r k=1):cK r x k=1∧cW r x k=iY l k:=by
 have n:=E2 g x false j x false d;have m:=E3 g x false j x false d;have b:=E4 (eC l x false r x false k);rw[show(36:Nat)=36+0 from rfl,show(37:Nat)=36+1 from rfl,show(38:Nat)=36+2 from rfl,m 0,m 1,m 2,Z9,Z9,Z9,ALifp rfl,←n,h] at b;obtain⟨t,y,p,q⟩:=Qe b;have u:t<36:=aaw λA=>p (by
  have e:=m (t-36);rw[show 36+(t-36)=t by omega,Z9] at e;exact e)
 have a:=(E5 g x false j x false d).trans (Qf y p q);rw[ALifn Om] at a;refine⟨by rw[zC a];rfl,?_⟩;unfold cW;rw[Qi a];have f:=nB j d;have o:=qw (iY l k) (cp x false) (qx g d);have z:(iV r k).set t ((iV r k).getD t 0^^^eC l x false r x false k t)=g9 (iY l k) (cp x false):=by
  refine o3 (by rw[Z3,f,o]) λi w=>?_;rw[Z3,f] at w;have c:eC l x false r x false k i=(iV r k).getD i 0^^^(g9 (iY l k) (cp x false)).getD i 0:=by
   unfold eC;rw[ox Om,ox Om]
  unfold Go.Proofs.YtbcodenfkijdnaaGreat.co;rw[ZJ,aae];by_cases e:t=i
  ·subst e;rw[ALifp rfl,ALifp Om,Option.getD_some,c,←abq,Z9,aay]
  ·rw[ALifn e,←ZJ];have s:=q i Om (λv=>e v.symm);rw[c] at s;exact(vL.1 s).symm
 rw[z,E6]
end
section
open Go Go.RowKit Go.Shelf
theorem Ql{l:List UInt8}(a:l.length=64){f:Nat→List UInt8}(h: ∀k,k<2→f k=iY l k):iB (fH f 2) 2=l:=by
 have e:fH f 2=l:=by
  show(f 0++(f 1++[]))++[]=l;rw[aaj,aaj,h 0 Dc,h 1 Dc];unfold iY;rw[show 32*0=0 from rfl,show 32*1=32 from rfl,aby,aa9 (l:=l.drop 32) (by rw[ZY];omega),List.take_append_drop]
 rw[e,y2 a]
theorem Qm{l:List UInt8}(c:l.length=64){x:Int}{p:Bool}{r:List UInt8}(d:r.length=72){m:Nat}(h:cI 2 (bS 36 (eH l x p) 2) r=m+1): ∃k,k<2∧wC 2 (bS 36 (eH l x p) 2) r k=m+1:=by
 have a: ¬cI 2 (bS 36 (eH l x p) 2) r≤m:=by omega
 rw[pn (zB c x p) d] at a;simp only[aa5] at a;obtain⟨k,b,e⟩:=a;have f:=qv (mode:=2) (zB c x p) d b;exact⟨k,b,by omega⟩
theorem E7{l:List UInt8}(b:l.length=64)(x:Int)(p:Bool){r:List UInt8}(c:r.length=72){k:Nat}(a:k<2):wC 2 (bS 36 (eH l x p) 2) r k≤cI 2 (bS 36 (eH l x p) 2) r:=qv (mode:=2) (zB b x p) c a
theorem Qn{l:List UInt8}(b:l.length=64){x:Int}{r:List UInt8}(d:r.length=72)(h:cI 2 (bS 36 (eH l x false) 2) r≤1):
  ph r x=l∧jK ((ZL 2).map (cK r x))=(cI 2 (bS 36 (eH l x false) 2) r:Int)∧(decide (0<gH ((ZL 2).map (cK r x)))=((cI 2 (bS 36 (eH l x false) 2) r:Int)==1)):=by
 have m: ∀k,k<2→cK r x k=(wC 2 (bS 36 (eH l x false) 2) r k:Int)∧cW r x k=iY l k:=by
  intro k a;have i:=E7 b x false d a;rcases(show wC 2 (bS 36 (eH l x false) 2) r k=0∨wC 2 (bS 36 (eH l x false) 2) r k=1 by omega) with g | g
  ·rw[g];exact Qj b d a g
  ·rw[g];exact Qk b d a g
 have j:=EY (f:=cK r x) (c:=λk=>wC 2 (bS 36 (eH l x false) 2) r k) (n:=2) (e:=cI 2 (bS 36 (eH l x false) 2) r) (λk a=>(m k a).1) (λk a=>E7 b x false d a) h λi=>Qm b d i;refine⟨?_,j⟩;unfold ph;rw[j.1,a8 Om,ALcf];exact(y2 (vF (sT d x) (Z6 2))).symm.trans (Ql b λk a=>by rw[Er a];exact(m k a).2)
end
end E
section
open Go.WideShapes Go.Deep Go Go.RowKit Go.ChangeShapes
inductive iC where
 | int (k:IntKind)
 | bool
def E8:iC→Value→Prop
 | .int k,v=>∃z:Int,v= .int k z∧(Lit.int k z).wf=true
 | .bool,v=>∃b:Bool,v= .bool b
def pq(P:Program)(r:TypeId→Option (List iC)):Nat→List Field→Option (List iC)
 | _,[]=>some []
 | off,f::fs=>match r f.type with
  | none=>none
  | some l=>if f.offset==off&&P.cellsOf f.type==l.length then(pq P r (off+l.length) fs).map λm=>l++m else none
def nD(P:Program):Nat→TypeId→Option (List iC)
 | 0,_=>none
 | n+1,t=>match P.underlying t with
  | some .bool=>some [.bool]
  | some (.int k)=>some [.int k]
  | some (.struct a)=>match pq P (nD P n) 0 a.toList with
   | some l=>if P.cellsOf t==l.length then some l else none
   | none=>none
  | some (.array m e)=>match nD P n e with
   | some l=>if P.cellsOf e==l.length&&P.cellsOf t==m*l.length then some (ZN m l).flatten else none
   | none=>none
  | _=>none
def ek(ls:List iC)(cs:List Value):Prop:=cs.length=ls.length∧∀(i:Nat) (lf:iC),ls[i]? =some lf→∃v,cs[i]? =some v∧E8 lf v
theorem ek.append{l m:List iC}{cs:List Value}{k:Nat}(q:k=l.length)(h1:ek l (cs.take k))(h2:ek m (cs.drop k)):ek (l++m) cs:=by
 subst q;obtain⟨f,g⟩:=h1;obtain⟨j,p⟩:=h2;rw[ZP] at f;rw[ZY] at j;refine⟨by rw[ZO];omega,λi e h=>?_⟩;rcases aaz i l.length with c | c
 ·rw[ZS c] at h;obtain⟨v,a,d⟩:=g i e h;rw[aad c] at a;exact⟨v,a,d⟩
 ·rw[ZX c] at h;obtain⟨v,a,d⟩:=p _ e h;rw[aai,show l.length+(i-l.length)=i by omega] at a;exact⟨v,a,d⟩
section
variable {H:Type} {enc:TypeId×Value→H} {P:Program} {w:World} {base:Nat} {spare:Nat→Bool} {held:Bool}
theorem E9{r:TypeId→Option (List iC)}{m:Nat}(p: ∀t ls cs x,r t=some ls→DataW.trod enc P w base spare held m t cs=some x→ek ls cs):
  ∀(c:List Field) (off:Nat) (ls:List iC) (cs:List Value),pq P r off c=some ls→off+ls.length=cs.length→
   (∀(i:Nat) (f:Field),c[i]? =some f→∃x,DataW.trod enc P w base spare held m f.type ((cs.drop f.offset).take (P.cellsOf f.type))=some x)→ek ls (cs.drop off)
 | [],off,ls,cs,h,e,_=>by
  simp only[pq,Option.some.injEq] at h;subst h;exact⟨by simp at e⊢;omega,λi z h=>by simp at h⟩
 | f::c,off,ls,cs,h,e,k=>by
  unfold pq at h;cases a:r f.type with
  | none=>rw[a] at h;cases h
  | some l=>
   rw[a] at h;simp only at h
   split at h
   ·rename_i d;simp only[ZT,beq_iff_eq] at d;cases j:pq P r (off+l.length) c with
    | none=>rw[j] at h;cases h
    | some y=>
     rw[j] at h;simp only[aaT,Option.some.injEq] at h;subst h;rw[ZO] at e;obtain⟨x,q⟩:=k 0 f rfl;rw[d.1,d.2] at q;have s:=p _ _ _ _ a q;have u:=E9 p c (off+l.length) y cs j Om λi g v=>k (i+1) g (by simpa using v);exact ek.append rfl s (by rw[aaL];exact u)
   ·cases h
theorem Fb{r:List Value→Prop}{l:List iC}(d: ∀cs,r cs→ek l cs): ∀(m:Nat) (cs:List Value),cs.length=m*l.length→(∀i,i<m→r ((cs.drop (i*l.length)).take l.length))→ek (ZN m l).flatten cs
 | 0,cs,h,_=>by
  have:cs=[]:=aaV Om;subst this;exact⟨rfl,λi g h=>by simp at h⟩
 | m+1,cs,h,c=>by
  rw[abk,aal];have a:=d _ (c 0 Om);rw[aaW,aby] at a;refine ek.append rfl a (Fb d m _ (by rw[ZY,h,abG];omega) λi f=>?_);have e:=c (i+1) Om;rw[aaL];rwa [show(i+1)*l.length=l.length+i*l.length by rw[abG];omega] at e
theorem vM: ∀(n:Nat) (t:TypeId) (s:List iC) (c:Nat) (a:List Value) (x:DataW H×List MemPlace),nD P n t=some s→DataW.trod enc P w base spare held c t a=some x→ek s a
 | 0,_,_,_,_,_,h,_=>by simp [nD] at h
 | n+1,t,s,c,a,x,h,y=>by
  unfold nD at h;cases q:P.underlying t with
  | none=>rw[q] at h;cases h
  | some d=>
   rw[q] at h;cases d with
   | bool=>
    simp only[Option.some.injEq] at h;subst h;obtain⟨b,rfl,_⟩:=DataW.trod_bool q y;exact⟨rfl,λi L h=>by
     cases i with
     | zero=>simp only[aaD,Option.some.injEq] at h;subst h;exact⟨_,rfl,b,rfl⟩
     | succ i=>simp at h⟩
   | int k=>
    simp only[Option.some.injEq] at h;subst h;obtain⟨z,rfl,_,K⟩:=DataW.trod_int q y;exact⟨rfl,λi L h=>by
     cases i with
     | zero=>simp only[aaD,Option.some.injEq] at h;subst h;exact⟨_,rfl,z,rfl,K⟩
     | succ i=>simp at h⟩
   | struct D=>
    simp only at h;cases j:pq P (nD P n) 0 D.toList with
    | none=>rw[j] at h;cases h
    | some l=>
     rw[j] at h;simp only at h
     split at h
     ·rename_i v;rw[beq_iff_eq] at v;cases h;obtain⟨B,m,_,_,J,u,g⟩:=DataW.trod_struct q y;have:=E9 (m:=m) (λt s a x p I=>vM n t s m a x p I) D.toList 0 s a j Om λi f F=>by
       have p:=g i f (by simpa using F);have C:i<B.length:=by rw[u];have:=(List.getElem?_eq_some_iff.1 F).1;simpa using this
       exact⟨B[i],by rw[p,ZM C]⟩
      simpa using this
     ·cases h
   | array m e=>
    simp only at h;cases j:nD P n e with
    | none=>rw[j] at h;cases h
    | some l=>
     rw[j] at h;simp only at h
     split at h
     ·rename_i v;simp only[ZT,beq_iff_eq] at v;cases h;obtain⟨B,G,_,_,J,u,g⟩:=DataW.trod_array q y;refine Fb (r:=λa=>∃x,DataW.trod enc P w base spare held G e a=some x) (λa ⟨x,h⟩=>vM n e l G a x j h) m a Om λi C=>?_;have p:=g i C;rw[v.1] at p;exact⟨B[i]'Om,by rw[p,ZM Om]⟩
     ·cases h
   | _=>simp at h
theorem Qo{t:TypeId}{v:Value}{d:DataW H}{p:List MemPlace}(n:Nat){ls:List iC}(f:nD P n t=some ls)(c: ∃cs,v= .agg cs)(h:DataW.Trod enc P w base spare held t v d p): ∃cs:List Value,v= .agg cs.toArray∧ek ls cs:=by
 obtain⟨cs,rfl⟩:=c;obtain⟨a,e⟩:=h;exact⟨cs.toList,by simp,vM n t ls a _ _ f e⟩
theorem Qp{r:Reach}{c:Nat}{t:TypeId}{v:Value}{d:TypeDesc}(ht:P.underlying t=some d)(e:(match d with | .struct _ | .array _ _=>true | _=>false)=true)(h:Value.okWide P w r c t v): ∃cs,v= .agg cs:=by
 simp only[Value.okWide,ht] at h;cases d<;>simp at e
 ·obtain⟨cs,a,_⟩:=h;exact⟨cs,a⟩
 ·obtain⟨cs,a,_⟩:=h;exact⟨cs,a⟩
end
theorem Qq{z:Int}(h:(Lit.int .i64 z).wf=true): -9223372036854775808≤z∧z≤9223372036854775807:=by
 have:=bounds_i64 h;omega
theorem vN: ∀(n:Nat) (a:List Value),ek (ZN n (.int .i64)) a→∃d:List Int,d.length=n∧a=d.map (λz=>Value.int .i64 z)∧∀z∈d, -9223372036854775808≤z∧z≤9223372036854775807
 | 0,a,h=>⟨[],rfl,by have:=h.1;simp at this;simpa using this,by simp⟩
 | n+1,a,h=>by
  obtain⟨g,j⟩:=h;cases a with
  | nil=>simp at g
  | cons c a=>
   obtain⟨v,f,z,k,l⟩:=j 0 (.int .i64) (by simp);obtain⟨d,m,p,q⟩:=vN n a ⟨by simpa using g,λi s r=>by simpa using j (i+1) s (by rw[abk,aap];exact r)⟩;simp only[aaD,Option.some.injEq] at f;subst f;subst k;refine⟨z::d,by simp [m],by simp [p],λy e=>?_⟩;rcases List.mem_cons.1 e with rfl | e
   ·exact Qq l
   ·exact q y e
end
section
open Go.WideShapes Go.Deep Go Go.RowKit Go.ChangeShapes
def pr(n:Nat)(w:World)(A:Option Addr)(rows:List (List Value)):Prop:=
 ∀(i:Nat) (r:List Value),rows[i]? =some r→r.length=n∧∃b o,A=some ⟨b,o,none⟩∧b<w.heap.size∧∀(j:Nat) (v:Value),r[j]? =some v→w.cell? ⟨b,o+i*n+j,none⟩=some v
section
variable {n:Nat} {w w':World} {A:Option Addr} {rows:List (List Value)}
theorem pr.nil:pr n w A []:=λi r h=>by simp at h
end
section
variable {P:Program} {w:World} {b off:Nat}
end
section
variable {P:Program} {w:World} {o:Oper} {ρ:Operand→Value}
end
section
variable {H:Type} {enc:TypeId×Value→H} {P:Program} {w:World} {base:Nat} {spare:Nat→Bool} {held:Bool}
theorem Qr{t e:TypeId}{A:Option Addr}{g s:Nat}{d:DataW H}{p:List MemPlace}(n:Nat){ls:List iC}(Y:nD P n e=some ls)(hn:P.cellsOf e=ls.length)(h0:0<ls.length)(ht:P.underlying t=some (.slice e))
  (h:DataW.Trod enc P w base spare held t (.slice A g s) d p): ∃rows:List (List Value),rows.length=g∧(∀r∈rows,ek ls r)∧pr ls.length w A rows∧g≤s∧s≤maxLen:=by
 obtain⟨T,W⟩:=h;rcases open_slice ht W with⟨k,_⟩ | ⟨a,l,c,m,n',D,Pl,k,_,O,hm,R,_,hx⟩
 ·simp [Value.cells] at k;obtain⟨rfl,rfl,rfl⟩:=k;exact⟨[],rfl,by simp,pr.nil,Z6 _,aan _⟩
 ·simp [Value.cells] at k;obtain⟨rfl,rfl,rfl⟩:=k;have Z:g≤m:=by rw[R];split<;>omega
  obtain⟨f,z⟩:=choose_lt (α:=List Value) (n:=g) (p:=λi S=>w.cells? base (a.add (i*P.cellsOf e)) (P.cellsOf e)=some S∧ek ls S) λi G=>by
   obtain⟨F,K,L⟩:=hx i Om;exact⟨F,K,vM n e ls n' F _ Y L⟩
  refine⟨(ZL g).map f,by simp,λr C=>?_,λi r C=>?_,O,hm⟩
  ·obtain⟨i,G,rfl⟩:=List.mem_map.1 C;exact(z i (List.mem_range.1 G)).2
  ·have G:i<g:=by have:=(List.getElem?_eq_some_iff.1 C).1;simpa using this
   rw[aar,aaN G] at C;simp only[aaT,Option.some.injEq] at C;subst C;obtain⟨K,L⟩:=z i G;obtain⟨_,h3,U⟩:=abo K;refine⟨L.1,?_⟩;obtain⟨b,o,J⟩:=a;have u:=U 0 Om;have M:(f i)[0]? =some ((f i)[0]'Om):=ZM Om;rw[M] at u;have B:J=none:=by
    obtain⟨z1,z2⟩:=z 0 Om;have I:=(abo z1).2.2 0 Om;have hzl:=z2.1;rw[ZM (show 0<(f 0).length by omega)] at I;have:=World.cell?_spot I;simpa [Addr.add] using this
   subst B;have q: ∀(x y:Nat),((⟨b,o,none⟩:Addr).add x).add y=⟨b,o+x+y,none⟩:=λx y=>by
    unfold Addr.add
    split<;>split<;>simp_all
   refine⟨b,o,rfl,?_,λj v V=>?_⟩
   ·rcases aaz b w.heap.size with Q | N
    ·exact Q
    ·exfalso;rw[q] at u;simp [abD,Array.getElem?_eq_none N] at u
   ·have X:j<P.cellsOf e:=by have:=(List.getElem?_eq_some_iff.1 V).1;omega
    have:=U j X;rw[q,hn] at this;rw[this,V]
end
end
namespace E
section
open Go Go.RowKit Go.Shelf
theorem Qs{w:World}{b o:Nat}{v:Value}(h:w.cell? ⟨b,o,none⟩=some v): ∃cs t a,w.heap[b]? =some (.cells cs t a):=by
 unfold abD at h;cases c:w.heap[b]? with
 | none=>simp [c] at h
 | some x=>
  cases x with
  | cells cs t a=>exact⟨cs,t,a,rfl⟩
  | _=>simp [c] at h
theorem Qt{α:Type}{en:α→List Value}{k:Nat}(b: ∀y,(en y).length=k){xs:List α}{i r:Nat}(a:i<xs.length)(c:r<k)(d:α):(aj en xs)[i*k+r]? =(en (xs.getD i d))[r]? :=by
 have h:=ALca (λl=>l[r]?) (uJ (d:=d) b a);simp only[aad c,aai] at h;exact h
theorem Qu{α:Type}{en:α→List Value}{k:Nat}{w:World}{A:Option Addr}{n c:Nat}{xs:List α}(f: ∀y,(en y).length=k)(h0:0<k)(h:pr k w A (xs.map en))(K:xs.length=n): ∃q,ez q w∧dR en (.slice A n c) xs q:=by
 subst K;cases m:xs with
 | nil=>exact⟨[],⟨λ_ h=>by simp at h,List.Pairwise.nil⟩,.inl ⟨rfl,A,c,rfl⟩⟩
 | cons a P=>
  rw[←m];have B:0<xs.length:=by rw[m];exact Nat.zero_lt_succ _
  obtain⟨_,b,o,rfl,J,G⟩:=h 0 (en a) (by rw[m];rfl);have d: ∃v,(en a)[0]? =some v:=⟨(en a)[0]'(by rw[f];exact h0),ZM _⟩;obtain⟨M,l⟩:=d;obtain⟨e,t,g,u⟩:=Qs (G 0 M l);refine⟨[(b,.cells e t g)],⟨λz L=>by rw[List.mem_singleton.1 L];exact u,List.pairwise_singleton _ _⟩,.inr ⟨b,o,e,t,g,c,rfl,List.mem_singleton.2 rfl,?_⟩⟩;have F:(aj en xs).length=xs.length*k:=fS f rfl;have p: ∀j,j<xs.length*k→e.toList[o+j]? =(aj en xs)[j]? :=by
   intro j d;have x:j/k<xs.length:=aaf (by rw[ZR];exact d);have C:j%k<k:=ZV _ h0;have H:j=j/k*k+j%k:=(Nat.div_add_mod' j k).symm;obtain⟨_,N,O,I,_,i⟩:=h (j/k) (en (xs.getD (j/k) a)) (by rw[aar,ZJ,ZM x];rfl);cases I;have D:(en (xs.getD (j/k) a))[j%k]? =some ((en (xs.getD (j/k) a))[j%k]'(by rw[f];exact C)):=ZM _;have r:=i (j%k) _ D;rw[cell_of_row w b _ e t g u,←Array.getElem?_toList] at r;have s:=Qt f x C a;rw[←H] at s;rw[s,D,←r]
   congr 1
   omega
  rw[F];apply aaB;intro j;by_cases d:j<xs.length*k
  ·rw[aad d,aai];exact p j d
  ·rw[Z1 (by rw[ZP];omega),Z1 Om]
end
section
open Go Go.RowKit Go.Shelf
def dM(x:Int):Int:=IntKind.i64.wrap x
theorem Fc{x:Int}(h0: -9223372036854775808≤x)(h1:x≤9223372036854775807):dM x=x:=IntWalk.i64_in _ Om
section
variable {P:Program} {T:TypeId} {x y:Operand} {w:World}
theorem Qv(a b:Int):(av .and T x y (.int .i64 a) (.int .i64 b)).run P w= .ok (.int .i64 (bits .and .i64 a b)) w:=rfl
theorem Qw(a b:Int):(av .add T x y (.int .i64 a) (.int .i64 b)).run P w= .ok (.int .i64 (dM (a+b))) w:=rfl
theorem Ff(a b:Int):(av .sub T x y (.int .i64 a) (.int .i64 b)).run P w= .ok (.int .i64 (dM (a-b))) w:=rfl
theorem zE(a b:Int):(av .mul T x y (.int .i64 a) (.int .i64 b)).run P w= .ok (.int .i64 (dM (a*b))) w:=rfl
end
def fA(n a:Int):Bool:=((decide (1≤n))&&(decide (n≤a)))&&((bits .and .i64 n (dM (n-1)))==0)
theorem mT{n a:Int}(h:fA n a=true):1≤n∧n≤a:=by
 unfold fA at h;simp only[ZT,decide_eq_true_eq] at h;exact h.1
theorem Qx: ∀n:Nat,n<1025→fA (n:Int) 1024=true→n∈[1,2,4,8,16,32,64,128,256,512,1024]:=by decide+kernel
theorem Fg{n:Nat}{a:Int}(c:a≤1024)(h:fA (n:Int) a=true):n∈[1,2,4,8,16,32,64,128,256,512,1024]:=by
 have b:=mT h;refine Qx n Om ?_;unfold fA at h⊢;simp only[ZT,decide_eq_true_eq] at h⊢;exact⟨⟨h.1.1,by omega⟩,h.2⟩
def jr(r s b m c:Int):Bool:=((((((fA r 8)&&(decide (0≤s)))&&(decide (s≤(dM (8-r)))))&&(fA b 16))&&(fA m 1024))&&(fA c 64))&&(decide ((dM (dM (dM (dM (r+s)*b)*m)*c))≤4096))
structure cM (R S B M C:Nat):Prop where
 ok:jr R S B M C=true
structure hP (R S B M C:Nat):Prop where
 r1:1≤R
 r8:R+S≤8
 b1:1≤B
 b16:B≤16
 m1:1≤M
 m10:M≤1024
 c1:1≤C
 c64:C≤64
 all:(R+S)*B*M*C≤4096
theorem Fh{r s b m c:Int}(h:jr r s b m c=true): ∃R S B M C:Nat,r=R∧s=S∧b=B∧m=M∧c=C∧cM R S B M C:=by
 have a:=h;unfold jr at h;simp only[ZT,decide_eq_true_eq] at h;obtain⟨⟨⟨⟨⟨⟨d,i⟩,j⟩,e⟩,f⟩,g⟩,k⟩:=h;have:=mT d;have:=mT e;have:=mT f;have:=mT g;refine⟨r.toNat,s.toNat,b.toNat,m.toNat,c.toNat,by omega,by omega,by omega,by omega,by omega,⟨?_⟩⟩;rw[aah Om,aah Om,aah Om,aah Om,aah Om];exact a
theorem cM.bd{R S B M C:Nat}(h:cM R S B M C):hP R S B M C:=by
 have h:=h.ok;unfold jr at h;simp only[ZT,decide_eq_true_eq] at h;obtain⟨⟨⟨⟨⟨⟨e,u⟩,f⟩,g⟩,i⟩,j⟩,k⟩:=h;have p:=mT e;have q:=mT g;have r:=mT i;have s:=mT j;rw[Fc Om Om] at f;have b:R+S≤8:=by omega
 have c:(R+S)*B≤8*16:=aaP b Om;have d:(R+S)*B*M≤128*1024:=aaP c Om;have t:(R+S)*B*M*C≤131072*64:=aaP d Om;have a: ∀x:Nat,x≤8388608→dM (x:Int)=(x:Int):=λx v=>Fc Om Om;have l:dM ((R:Int)+(S:Int))=((R+S:Nat):Int):=(a (R+S) Om);have m:dM (((R+S:Nat):Int)*(B:Int))=(((R+S)*B:Nat):Int):=by rw[←aa3];exact a _ Om
 have n:dM ((((R+S)*B:Nat):Int)*(M:Int))=(((R+S)*B*M:Nat):Int):=by rw[←aa3];exact a _ Om
 have o:dM ((((R+S)*B*M:Nat):Int)*(C:Int))=(((R+S)*B*M*C:Nat):Int):=by rw[←aa3];exact a _ Om
 rw[l,m,n,o] at k;exact⟨by omega,b,by omega,by omega,by omega,by omega,by omega,by omega,by omega⟩
theorem cM.pow{R S B M C:Nat}(h:cM R S B M C):B∈[1,2,4,8,16,32,64,128,256,512,1024]:=by
 have h:=h.ok;unfold jr at h;simp only[ZT,decide_eq_true_eq] at h;obtain⟨⟨⟨⟨⟨⟨b,c⟩,d⟩,a⟩,e⟩,f⟩,g⟩:=h;exact Fg Dc a
section
variable {R S B M C:Nat} (h:hP R S B M C)
theorem hP.rb(h:hP R S B M C):R*B≤128:=aaP (show R≤8 by have:=h.r8;omega) h.b16
theorem hP.sbm(h:hP R S B M C):(R+S)*B*M≤4096:=aab (aaF _ h.c1) h.all
theorem hP.rbm(h:hP R S B M C):R*B*M≤4096:=aab (ZW M (ZW B (abx R S))) h.sbm
theorem hP.rbmc(h:hP R S B M C):R*B*M*C≤4096:=aab (ZW C (ZW M (ZW B (abx R S)))) h.all
theorem hP.bm(h:hP R S B M C):B*M≤4096:=by
 have a:B*M≤R*(B*M):=abd _ h.r1;rw[←ZU] at a;exact aab a h.rbm
theorem hP.bmc(h:hP R S B M C):B*M*C≤4096:=by
 have a:B*M*C≤R*(B*M*C):=abd _ h.r1;rw[←ZU,←ZU] at a;exact aab a h.rbmc
end
def bG(i n:Int):Bool:=(decide (0≤i))&&(decide (i<n))
theorem mn{i n:Int}:bG i n=true↔0≤i∧i<n:=by unfold bG;simp
def hold(R S B M C:Nat)(a p1 p2 p3:Int):Bool:=(((bG a ((R+S:Nat):Int))&&(bG p1 (B:Int)))&&(bG p2 (M:Int)))&&(bG p3 (C:Int))
theorem vO{R S B M C:Nat}{e p1 p2 p3:Int}:hold R S B M C e p1 p2 p3=true↔(0≤e∧e<((R+S:Nat):Int))∧(0≤p1∧p1<(B:Int))∧(0≤p2∧p2<(M:Int))∧(0≤p3∧p3<(C:Int)):=by
 unfold hold;rw[ZT,ZT,ZT,mn,mn,mn,mn]
 constructor
 ·rintro ⟨⟨⟨a,b⟩,c⟩,d⟩;exact⟨a,b,c,d⟩
 ·rintro ⟨a,b,c,d⟩;exact⟨⟨⟨a,b⟩,c⟩,d⟩
def dS(a p1 p2 p3:Int):Int:=a*1048576+p1*65536+p2*64+p3
def gz(R S B M C:Nat)(i:Int):Bool:= !(decide (i<0)|| !(hold R S B M C (i/1048576) (i/65536%16) (i/64%1024) (i%64)))
theorem Qy{R S B M C:Nat}(b:hP R S B M C){a p1 p2 p3:Int}(h:hold R S B M C a p1 p2 p3=true):dS a p1 p2 p3/1048576=a∧dS a p1 p2 p3/65536%16=p1∧dS a p1 p2 p3/64%1024=p2∧dS a p1 p2 p3%64=p3∧0≤dS a p1 p2 p3∧dS a p1 p2 p3<8388608:=by
 obtain⟨c,d,e,f⟩:=vO.1 h;have:=b.b16;have:=b.m10;have:=b.c64;have:=b.r8;unfold dS;omega
end
section
open Go Go.RowKit Go.Shelf
theorem vP(n a:Int):aa ZK 97 #[i6 n,i6 a] [] [] N0 (λ_=> .bool (fA n a)):=by
 exact fG Tryz.func97 λw b=>r0 [] [(4,.bool false)] [] (r0 [(10,.t (tv (av .sub 3 (.tmp 14) (.const (i6 1)) (i6 n) (i6 1)) (λ_=>Ff n 1))),(11,.t (tv (av .and 3 (.tmp 13) (.tmp 15) (i6 n) (i6 (dM (n-1)))) (λ_=>Qv n _))),] [(4,.bool (((decide (1≤n))&&(decide (n≤a)))&&((bits .and .i64 n (dM (n-1)))==0)))] [4] (ak (.bool (((decide (1≤n))&&(decide (n≤a)))&&((bits .and .i64 n (dM (n-1)))==0))) ab.zero a9 [] [] []))
theorem vQ(i n:Int):aa ZK 105 #[i6 i,i6 n] [] [] N0 (λ_=> .bool (bG i n)):=by
 exact fG Tryz.func105 λw a=>r0 [] [(4,.bool false)] [] (r0 [] [(4,.bool ((decide (0≤i))&&(decide (i<n))))] [4] (ak (.bool ((decide (0≤i))&&(decide (i<n)))) ab.zero a9 [] [] []))
theorem Fi(r s b m c:Int):aa ZK 57 #[.agg #[i6 r,i6 s,i6 b,i6 m,i6 c]] [] [] N0 (λ_=> .bool (jr r s b m c)):=by
 exact fG Tryz.func57 λw d=>ra (λa=>[(1,pt (B0 a) 0),(2,.bool false)]) (λa=>[ob (B0 a) #[i6 r,i6 s,i6 b,i6 m,i6 c] 23]) λa=>r0 [(1,.m (ld 0 (i6 r))),(2,.c [] [] (vP r 8)),(5,.m (ld 0 (i6 s))),(10,.m (ld 0 (i6 s))),(12,.m (ld 0 (i6 r))),(13,.t (tv (av .sub 3 (.const (i6 8)) (.tmp 15) (i6 8) (i6 r)) (λ_=>Ff 8 r))),(18,.m (ld 0 (i6 b))),(19,.c [] [] (vP b 16)),(23,.m (ld 0 (i6 m))),(24,.c [] [] (vP m 1024)),(28,.m (ld 0 (i6 c))),(29,.c [] [] (vP c 64)),(33,.m (ld 0 (i6 r))),(35,.m (ld 0 (i6 s))),(36,.t (tv (av .add 3 (.tmp 36) (.tmp 38) (i6 r) (i6 s)) (λ_=>Qw r s))),(38,.m (ld 0 (i6 b))),(39,.t (tv (av .mul 3 (.tmp 39) (.tmp 41) (i6 (dM (r+s))) (i6 b)) (λ_=>zE _ _))),(41,.m (ld 0 (i6 m))),(42,.t (tv (av .mul 3 (.tmp 42) (.tmp 44) (i6 (dM (dM (r+s)*b))) (i6 m)) (λ_=>zE _ _))),(44,.m (ld 0 (i6 c))),(45,.t (tv (av .mul 3 (.tmp 45) (.tmp 47) (i6 (dM (dM (dM (r+s)*b)*m))) (i6 c)) (λ_=>zE _ _))),] [(2,.bool (((((((fA r 8)&&(decide (0≤s)))&&(decide (s≤(dM (8-r)))))&&(fA b 16))&&(fA m 1024))&&(fA c 64))&&(decide ((dM (dM (dM (dM (r+s)*b)*m)*c))≤4096))))] [2] (ak (.bool (((((((fA r 8)&&(decide (0≤s)))&&(decide (s≤(dM (8-r)))))&&(fA b 16))&&(fA m 1024))&&(fA c 64))&&(decide ((dM (dM (dM (dM (r+s)*b)*m)*c))≤4096)))) ab.zero a9 [] [] [])
theorem vR(R S B M C:Nat)(a:cM R S B M C):aa ZK 57 #[.agg #[iN R,iN S,iN B,iN M,iN C]] [] [] N0 (λ_=> .bool true):=by
 have h:=Fi R S B M C;rwa [a.ok] at h
attribute [local irreducible] bG fA dM
theorem sY(R S B M C:Nat)(d:cM R S B M C)(a p1 p2 p3:Int):aa ZK 73 #[.agg #[iN R,iN S,iN B,iN M,iN C],.agg #[i6 a,i6 p1,i6 p2,i6 p3]] [] [] N0 (λ_=> .bool (hold R S B M C a p1 p2 p3)):=by
 have e:=d.bd;have f:=e.r8;exact fG Tryz.func73 λw g=>ra (λb=>[(2,pt (B0 b) 0),(3,pt (B1 b) 0),(4,.bool false)]) (λb=>[ob (B0 b) #[iN R,iN S,iN B,iN M,iN C] 23,ob (B1 b) #[i6 a,i6 p1,i6 p2,i6 p3] 46]) λb=>r0 [(0,.m (ls 0 ([iN R,iN S,iN B,iN M,iN C]))),(1,.c [] [] (vR R S B M C d)),(4,.m (ld 1 (i6 a))),(6,.m (ld 0 (iN R))),(8,.m (ld 0 (iN S))),(9,ad R S),(10,.c [] [] (vQ a ((R+S:Nat):Int))),(14,.m (ld 1 (i6 p1))),(16,.m (ld 0 (iN B))),(17,.c [] [] (vQ p1 (B:Int))),(21,.m (ld 1 (i6 p2))),(23,.m (ld 0 (iN M))),(24,.c [] [] (vQ p2 (M:Int))),(28,.m (ld 1 (i6 p3))),(30,.m (ld 0 (iN C))),(31,.c [] [] (vQ p3 (C:Int)))] [(4,.bool ((((bG a ((R+S:Nat):Int))&&(bG p1 (B:Int)))&&(bG p2 (M:Int)))&&(bG p3 (C:Int))))] [4] (ak (.bool ((((bG a ((R+S:Nat):Int))&&(bG p1 (B:Int)))&&(bG p2 (M:Int)))&&(bG p3 (C:Int)))) ab.zero a9 [] [] [])
theorem Fj(a p1 p2 p3:Int)(c:0≤a)(g:a<8)(d:0≤p1)(h:p1<16)(e:0≤p2)(i:p2<1024)(f:0≤p3)(j:p3<64):aa ZK 102 #[.agg #[i6 a,i6 p1,i6 p2,i6 p3]] [] [] N0 (λ_=>i6 (dS a p1 p2 p3)):=by
 exact fG Tryz.func102 λw k=>ra (λb=>[(1,pt (B0 b) 0),(2,i6 0)]) (λb=>[ob (B0 b) #[i6 a,i6 p1,i6 p2,i6 p3] 46]) λb=>r0 [(1,.m (ld 0 (i6 a))),(2,.t (tv (av .shl 3 (.tmp 4) (.const (u6 20)) (i6 a) (u6 20)) (λ_=>fV 20 Dc Om Om))),(4,.m (ld 0 (i6 p1))),(5,.t (tv (av .shl 3 (.tmp 7) (.const (u6 16)) (i6 p1) (u6 16)) (λ_=>fV 16 Dc Om Om))),(6,.t (tv (av .or 3 (.tmp 5) (.tmp 8) (i6 (a*2^20)) (i6 (p1*2^16))) (λ_=>sF 20 1048576 rfl Om Om Om Om Om))),(8,.m (ld 0 (i6 p2))),(9,.t (tv (av .shl 3 (.tmp 11) (.const (u6 6)) (i6 p2) (u6 6)) (λ_=>fV 6 Dc Om Om))),(10,.t (tv (av .or 3 (.tmp 9) (.tmp 12) (i6 (a*2^20+p1*2^16)) (i6 (p2*2^6))) (λ_=>sF 16 65536 rfl Om Om Om Om Om))),(12,.m (ld 0 (i6 p3))),(13,.t (tv (av .or 3 (.tmp 13) (.tmp 15) (i6 (a*2^20+p1*2^16+p2*2^6)) (i6 p3)) (λ_=>sF 6 64 rfl Om Om Om Om Om)))] [(2,i6 (a*2^20+p1*2^16+p2*2^6+p3))] [2] (ak (i6 (a*2^20+p1*2^16+p2*2^6+p3)) ab.zero (by exact ALca (Value.int .i64) (by unfold dS;omega)) [] [] [])
theorem Qz{R S B M C:Nat}(a:hP R S B M C){b p1 p2 p3:Int}(h:hold R S B M C b p1 p2 p3=true):(0≤b∧b<8)∧(0≤p1∧p1<16)∧(0≤p2∧p2<1024)∧0≤p3∧p3<64:=by
 obtain⟨c,d,e,f⟩:=vO.1 h;have:=a.b16;have:=a.m10;have:=a.c64;have:=a.r8;omega
def sZ(R S B M C:Nat)(a p1 p2 p3:Int):Int:=(bif !(hold R S B M C a p1 p2 p3) then 0 else(dS a p1 p2 p3))
def s4(R S B M C:Nat)(a p1 p2 p3:Int):Int:=(bif !(hold R S B M C a p1 p2 p3) then 12 else 0)
theorem Fk(R S B M C:Nat)(e:cM R S B M C)(a p1 p2 p3:Int):aa ZK 147 #[.agg #[iN R,iN S,iN B,iN M,iN C],.agg #[i6 a,i6 p1,i6 p2,i6 p3]] [] [] N0 (λ_=> .tuple #[i6 (sZ R S B M C a p1 p2 p3),i6 (s4 R S B M C a p1 p2 p3)]):=by
 refine fG Tryz.func147 λw f=>ra (λb=>[(2,pt (B0 b) 0),(3,pt (B1 b) 0),(4,i6 0),(5,i6 0)]) (λb=>[ob (B0 b) #[iN R,iN S,iN B,iN M,iN C] 23,ob (B1 b) #[i6 a,i6 p1,i6 p2,i6 p3] 46]) λb=>r0 [(0,.l 0),(1,.l 1),(2,.c [] [] (sY R S B M C e a p1 p2 p3))] [(9,.bool (!(hold R S B M C a p1 p2 p3)))] [] ?_;refine cB (!(hold R S B M C a p1 p2 p3)) (λd=>?_) λd=>?_
 ·exact r0 [] [(4,i6 0),(5,i6 12)] [4,5] (ak (.tuple #[i6 0,i6 12]) ab.zero (by((try simp only[sZ,s4]);(repeat (first | rw[d] | rw[ALct])))<;>rfl) [] [] [])
 obtain⟨⟨g,k⟩,⟨h,m⟩,⟨i,n⟩,j,o⟩:=Qz e.bd (by simpa using d);exact r0 [(0,.l 1),(1,.c [] [] (Fj a p1 p2 p3 Om Om Om Om Om Om Om Om))] [(4,i6 (dS a p1 p2 p3)),(5,i6 0)] [4,5] (ak (.tuple #[i6 (dS a p1 p2 p3),i6 0]) ab.zero (by((try simp only[sZ,s4]);(repeat (first | rw[d] | rw[ALcf])))<;>rfl) [] [] [])
theorem QA(i:Int):aa ZK 104 #[i6 i] [] [] N0 (λ_=> .agg #[i6 (i/1048576),i6 (i/65536%16),i6 (i/64%1024),i6 (i%64)]):=by
 exact fG Tryz.func104 λw b=>ra (λa=>[(2,pt (B0 a) 0)]) (λa=>[ob (B0 a) #[i6 0,i6 0,i6 0,i6 0] 46]) λa=>rs [(1,.t (tv (av .shr 3 (.tmp 3) (.const (u6 20)) (i6 i) (u6 20)) (λ_=>iQ 20 Dc))),(3,.t (tv (av .shr 3 (.tmp 5) (.const (u6 16)) (i6 i) (u6 16)) (λ_=>iQ 16 Dc))),(4,.t (tv (av .and 3 (.tmp 6) (.const (i6 15)) (i6 (i/65536)) (i6 15)) (λ_=>mO _ 4 16 Dc Dc Dc Dc))),(6,.t (tv (av .shr 3 (.tmp 8) (.const (u6 6)) (i6 i) (u6 6)) (λ_=>iQ 6 Dc))),(7,.t (tv (av .and 3 (.tmp 9) (.const (i6 1023)) (i6 (i/64)) (i6 1023)) (λ_=>mO _ 10 1024 Dc Dc Dc Dc))),(9,.t (tv (av .and 3 (.tmp 11) (.const (i6 63)) (i6 i) (i6 63)) (λ_=>mO _ 6 64 Dc Dc Dc Dc))),(11,.s 0)] 0 (ob (B0 a) #[i6 (i/1048576),i6 (i/65536%16),i6 (i/64%1024),i6 (i%64)] 46) (lf ab.zero [] [] [0])
attribute [local irreducible] hold
def s5(R S B M C:Nat)(i:Int):Int:=(bif (decide (i<0))||(!(hold R S B M C (i/1048576) (i/65536%16) (i/64%1024) (i%64))) then 0 else(i/1048576))
def s6(R S B M C:Nat)(i:Int):Int:=(bif (decide (i<0))||(!(hold R S B M C (i/1048576) (i/65536%16) (i/64%1024) (i%64))) then 0 else(i/65536%16))
def s7(R S B M C:Nat)(i:Int):Int:=(bif (decide (i<0))||(!(hold R S B M C (i/1048576) (i/65536%16) (i/64%1024) (i%64))) then 0 else(i/64%1024))
def s8(R S B M C:Nat)(i:Int):Int:=(bif (decide (i<0))||(!(hold R S B M C (i/1048576) (i/65536%16) (i/64%1024) (i%64))) then 0 else(i%64))
def s9(R S B M C:Nat)(i:Int):Int:=(bif (decide (i<0))||(!(hold R S B M C (i/1048576) (i/65536%16) (i/64%1024) (i%64))) then 12 else 0)
theorem Fl(R S B M C:Nat)(e:cM R S B M C)(i:Int):aa ZK 68 #[.agg #[iN R,iN S,iN B,iN M,iN C],i6 i] [] [] N0 (λ_=> .tuple #[.agg #[i6 (s5 R S B M C i),i6 (s6 R S B M C i),i6 (s7 R S B M C i),i6 (s8 R S B M C i)],i6 (s9 R S B M C i)]):=by
 refine fG Tryz.func68 λw f=>ra (λa=>[(2,pt (B0 a) 0),(4,pt (B1 a) 0),(5,i6 0)]) (λa=>[ob (B0 a) #[iN R,iN S,iN B,iN M,iN C] 23,ob (B1 a) #[i6 0,i6 0,i6 0,i6 0] 46]) λa=>rr (λ_=>[(1,.c [] [] (QA i)),(3,.s 2)]) (λb=>[(6,pt (B2 b) 0)]) [] (λb L=>L++[ob (B2 b) #[i6 (i/1048576),i6 (i/65536%16),i6 (i/64%1024),i6 (i%64)] 46]) λb=>r0 [(3,.l 0),(4,.l 2),(5,.c [] [] (sY R S B M C e (i/1048576) (i/65536%16) (i/64%1024) (i%64)))] [(16,.bool ((decide (i<0))||(!(hold R S B M C (i/1048576) (i/65536%16) (i/64%1024) (i%64)))))] [] ?_;refine cB ((decide (i<0))||(!(hold R S B M C (i/1048576) (i/65536%16) (i/64%1024) (i%64)))) (λd=>?_) λd=>?_
 ·exact r0 [(1,.s 1)] [(5,i6 12)] [5] (ak (.tuple #[.agg #[i6 0,i6 0,i6 0,i6 0],i6 12]) ab.zero (by((try simp only[s5,s6,s7,s8,s9]);(repeat (first | rw[d] | rw[ALct])))<;>rfl) [] [] [1])
 exact rr (λ_=>[(0,.l 2),(1,.s 1)]) (λ_=>[(5,i6 0)]) [5] (λ_ L=>L.set 1 (ob (B1 a) #[i6 (i/1048576),i6 (i/65536%16),i6 (i/64%1024),i6 (i%64)] 46)) λg=>ak (.tuple #[.agg #[i6 (i/1048576),i6 (i/65536%16),i6 (i/64%1024),i6 (i%64)],i6 0]) ab.zero (by((try simp only[s5,s6,s7,s8,s9]);(repeat (first | rw[d] | rw[ALcf])))<;>rfl) [] [] [1]
theorem QB(R S B M C:Nat)(d:cM R S B M C):aa ZK 224 #[.agg #[iN R,iN S,iN B,iN M,iN C]] [] [] N0 (λ_=>iN ((B*M)*C)):=by
 have b:=d.bd;have f:=b.bm;have g:=b.bmc;exact fG Tryz.func224 λw e=>ra (λa=>[(1,pt (B0 a) 0),(2,i6 0)]) (λa=>[ob (B0 a) #[iN R,iN S,iN B,iN M,iN C] 23]) λa=>rF [(0,.l 0),(1,.c [] [] (vR R S B M C d))] 5 (r0 [(1,.l 0),(3,.l 0),(4,ml B M),(6,.l 0),(7,ml (B*M) C)] [(2,iN ((B*M)*C))] [2] (lf ab.zero [] [] []))
theorem mU(R S B M C:Nat)(d:cM R S B M C):aa ZK 24 #[.agg #[iN R,iN S,iN B,iN M,iN C]] [] [] N0 (λ_=>iN ((R*B)*M)):=by
 have b:=d.bd;have f:=b.rb;have g:=b.rbm;exact fG Tryz.func24 λw e=>ra (λa=>[(1,pt (B0 a) 0),(2,i6 0)]) (λa=>[ob (B0 a) #[iN R,iN S,iN B,iN M,iN C] 23]) λa=>rF [(0,.l 0),(1,.c [] [] (vR R S B M C d))] 5 (r0 [(1,.l 0),(3,.l 0),(4,ml R B),(6,.l 0),(7,ml (R*B) M)] [(2,iN ((R*B)*M))] [2] (lf ab.zero [] [] []))
end
section
open Go Go.RowKit Go.Shelf
def lE(v:Wr):Nat→ah→ah
 | _,[]=>[]
 | k,x::xs=>((cQ v k).getD x)::lE v (k+1) xs
theorem ta(v:Wr): ∀(k:Nat) (L:ah),(lE v k L).length=L.length
 | _,[]=>rfl
 | k,x::xs=>by unfold lE;rw[aat,aat,ta v (k+1) xs]
theorem zF(v:Wr): ∀(k:Nat) (L:ah) (p:Nat),(lE v k L)[p]? =L[p]?.map λx=>(cQ v (k+p)).getD x
 | _,[],_=>by unfold lE;simp
 | k,x::xs,0=>by unfold lE;simp
 | k,x::xs,p+1=>by unfold lE;rw[aap,aap,zF v (k+1) xs p,show k+1+p=k+(p+1) by omega]
section
variable {P:Program} {f:FuncId} {args:Array Value} {rest:ah} {wt:ab→ah} {v:ab→Value} {S S':ah→Prop}
theorem QC{L:ah}{w:World}{cs:List ay}(hs:bq L cs)(e:ez cs.flatten w):kW (bL cs.flatten) w L.length (λp=>L[p]?) (λi=>cs.getD i []) w:=by
 have d:=rU e.nd;have k:=jO hs;have h: ∀i,∀z∈cs.getD i [],z∈cs.flatten:=λi z a=>by
  by_cases g:i<cs.length
  ·exact List.mem_flatten.2 ⟨_,nX g,a⟩
  ·rw[pZ g] at a;simp at a
 exact⟨λp j x c=>nc hs c,λp j c=>by rw[List.getElem?_eq_none_iff] at c;omega,λp j z a=>e.obj z (h p z a),λp _=>d.1 p,λp q _ _ b=>d.2 p q b,
  λp _ z a=> .inl (List.mem_map.2 ⟨z,h p z a,rfl⟩),rfl,rfl,rfl,Z6 _,λ_ _ _=>rfl⟩
theorem aa.pkR(d:Enters P f)(h: ∀L,S L→aa P f args (L++rest) [] wt v):aa P f args ((pk S)::rest) [] wt v:=by
 refine⟨d,λw a j b=>?_⟩;obtain⟨k,a,rfl,⟨L,c,e,g,rfl⟩,i⟩:=eA j;have:=(h L e).out w (c++a) (kA g i) (by rw[aam];rw[aal] at b;exact b);simpa using this
theorem zG(q:Nat)(x:aA)(r:Wr)(p:Nat):cQ ((q,x)::r) p=if q=p then some x else cQ r p:=rfl
theorem Fm: ∀(a b:Wr) (p:Nat),cQ (a++b) p=(cQ a p).or (cQ b p)
 | [],b,p=>by simp [cQ]
 | (q,x)::a,b,p=>by
  rw[List.cons_append,zG,zG];by_cases e:q=p
  ·rw[ALifp e,ALifp e];rfl
  ·rw[ALifn e,ALifn e];exact Fm a b p
theorem Fo{qs:List Nat}{p:Nat}(h:p∉qs)(N:ah):cQ (qs.zip N) p=none:=by
 cases e:cQ (qs.zip N) p with
 | none=>rfl
 | some x=>exact absurd (List.of_mem_zip (rH e)).1 h
theorem Fp(m:Nat): ∀(N:ah) (k p:Nat),cQ (((aa0 k N.length).map λi=>m+i).zip N) (m+k+p)=N[p]?
 | [],k,p=>by simp [cQ]
 | x::N,k,0=>by simp [abr,cQ]
 | x::N,k,p+1=>by
  rw[aat,abr,List.map_cons,List.zip_cons_cons,aap,←Fp m N (k+1) p];rw[zG,ALifn Om,show m+k+(p+1)=m+(k+1)+p by omega]
theorem aa.pkW{n:Nat}{N:ab→ah}(hE:Enters P f)(h: ∀L,S L→∃(O:List Nat) (wt:ab→ah),aa P f args (L++rest) O (λE=>wt E++N E) v∧(dp O&&O.all λi=>decide (i<L.length))=true∧∀E,(wt E).length=O.length∧(N E).length=n∧S' (lE (O.zip (wt E)) 0 L)):
  aa P f args ((pk S)::rest) [0] (λE=>(pk S')::N E) v:=by
 refine⟨hE,λw F hs C=>?_⟩;obtain⟨bs,F,rfl,⟨L,ds,hL,Q,rfl⟩,hr⟩:=eA hs;obtain⟨O,wt,hC,I,hW⟩:=h L hL;rw[ZT] at I;have X:=nW I.1;have q: ∀i∈O,i<L.length:=λi D=>by simpa using List.all_eq_true.1 I.2 i D
 have hlen:=jO Q;rw[aal] at C;refine(callsIn_wide (n:=6)).1 ((callsIn_wide.2 (hC.out w (ds++F) (kA Q hr) (by rw[aam];exact C))).mono λe w' he=>?_);obtain⟨E,r,e1,y,hst⟩:=he;obtain⟨hWl,hNl,K⟩:=hW E;have T:=jO y;rw[ZO] at T;have R:bq (L++(N E).map λ_=> .c []) (ds++(N E).map λ_=>[]):=kA Q (by
  generalize N E=M
  induction M with
  | nil=>trivial
  | cons x M ih=>exact⟨rfl,ih⟩)
 have o:(ds++(N E).map λ_=>([]:ay)).flatten=ds.flatten:=by
  rw[aam];have:((N E).map λ_=>([]:ay)).flatten=[]:=by
   generalize N E=M
   induction M with
   | nil=>rfl
   | cons x M ih=>simp
  rw[this,aaj]
 have V:ez ds.flatten w:=⟨λx hx=>C.obj x (abg _ hx),(List.pairwise_append.1 C.nd).1⟩;obtain⟨c,hF,hc⟩: ∃c,kW (bL ds.flatten) w (L++(N E).map λ_=>aA.c []).length (λp=>(L++(N E).map λ_=>aA.c [])[p]?) c w∧∀p,c p=(ds++(N E).map λ_=>[]).getD p []:=
  ⟨λp=>(ds++(N E).map λ_=>[]).getD p [],by have:=QC R (w:=w) (by rw[o];exact V);rwa [o] at this,λ_=>rfl⟩
 have t:(L++(N E).map λ_=>aA.c []).length=L.length+(N E).length:=by rw[ZO,ZQ]
 obtain⟨qs,l⟩: ∃qs,qs=O++(aa0 0 (N E).length).map λi=>L.length+i:=⟨_,rfl⟩;have Y:qs.length=r.length:=by rw[l,ZO,ZQ,List.length_range'];omega
 have Z:qs.Nodup:=by
  rw[l,List.nodup_append];refine⟨X,?_,λa ha b m e=>?_⟩
  ·refine List.Pairwise.map _ (λa b h e=>h Om) (List.nodup_range' (s:=0) (n:=(N E).length))
  ·obtain⟨i,_,rfl⟩:=List.mem_map.1 m;have:=q a ha;omega
 have u:=uv (qs:=qs) (ds:=r) Y Z;have hzl:qs.length=(wt E++N E).length:=by rw[ZO];omega
 have U:((qs.zip (wt E++N E)).flatMap λx=>lZ qs r x.1)=r.flatten:=by rw[pY hzl,u]
 have H:=hF.step (d:=lZ qs r) (v:=qs.zip (wt E++N E)) (uw u y) (by rw[U];exact hst) (λb m=>by
  obtain⟨i,D,m⟩:=List.mem_flatMap.1 m;have hil:=q i D;have hg:(ds++F).getD i []=c i:=by rw[hc,ZJ,ZJ,ZS Om,ZS Om]
  rw[hg] at m;obtain⟨z,hz,rfl⟩:=List.mem_map.1 m;refine⟨i,by omega,?_,z,hz,rfl⟩;obtain⟨j,hj,ej⟩:=abl (show i∈qs from l▸abg _ D);refine⟨(wt E++N E)[j]'Om,?_⟩;rw[←ej];exact List.mem_iff_getElem.2 ⟨j,by rw[List.length_zip];omega,by rw[List.getElem_zip]⟩)
 have A:qs.zip (wt E++N E)=O.zip (wt E)++((aa0 0 (N E).length).map λi=>L.length+i).zip (N E):=by rw[l,List.zip_append Om]
 have J:aF (bL ds.flatten) w (lE (O.zip (wt E)) 0 L++N E) w':=by
  refine⟨oK c (qs.zip (wt E++N E)) (lZ qs r),?_⟩;rw[ZO,ta,←t];refine H.congr λp hp=>?_;rw[t] at hp;unfold lW;rw[A,Fm];by_cases k:p<L.length
  ·rw[ZS (by rw[ta];exact k),zF,Z5,Fo (qs:=(aa0 0 (N E).length).map λi=>L.length+i) (λW=>by obtain⟨i,_,e⟩:=List.mem_map.1 W;omega)];have e2:(L++(N E).map λ_=>aA.c [])[p]? =L[p]? :=ZS k;simp only[e2,ZM k];cases cQ (O.zip (wt E)) p<;>rfl
  ·rw[ZX (by rw[ta];omega),ta,Fo (λW=>k (q p W))];have:=Fp L.length (N E) 0 (p-L.length);rw[show L.length+0+(p-L.length)=p by omega] at this;rw[this,ZM Om];rfl
 obtain⟨cs2,h2,g⟩:=J.conc;obtain⟨B,G,rfl,h3,h4⟩:=n1 h2;refine⟨E,B.flatten::G,e1,⟨⟨_,B,K,h3,rfl⟩,h4⟩,?_⟩;have ef:(B.flatten::G).flatten=(B++G).flatten:=by rw[aal,aam]
 rw[ef];refine⟨g.os,g.tape,g.output,g.size,g.obj,λx hx=>?_,g.nd,λb m X=>g.far b m (by simpa using X)⟩;have:=g.lo x hx;simpa using this
theorem aa.pkZ{a:Func}(hf:P.funcs[f]? =some a)(h: ∀L,S L→∃(O:List Nat) (wt:ab→ah),aa P f args (L++rest) O (λE=>wt E++[]) v∧(dp O&&O.all λi=>decide (i<L.length))=true∧∀E,(wt E).length=O.length∧([]:ah).length=0∧S' (lE (O.zip (wt E)) 0 L))(c:(a.name== "runtime.NumGoroutine")=false:=by kernel_rfl)(b:a.body.isSome=true:=by kernel_rfl):aa P f args (.p (sf S)::rest) [0] (λE=> .p (sf S')::[]) v:=aa.pkW (n:=0) (N:=λ_=>[]) (fN hf c b) h
theorem QD: ∀cs:List ay,(ZL cs.length).flatMap (λi=>bL (cs.getD i []))=bL cs.flatten:=by
 intro cs;have h:(ZL cs.length).map (λi=>cs.getD i [])=cs:=by
  apply aaU (by simp);intro i b a;rw[List.getElem_map,List.getElem_range,ZJ,ZM a];rfl
 have a:(ZL cs.length).flatMap (λi=>bL (cs.getD i []))=(((ZL cs.length).map λi=>cs.getD i []).map bL).flatten:=by rw[List.flatMap_def,List.map_map];rfl
 rw[a,h];unfold bL;rw[List.map_flatten]
theorem aa.unpk{a c:ah}{N:ab→ah}(h:aa P f args [pk λL=>L=a] [0] (λE=>(pk λL=>L=c)::N E) v):aa P f args a (ZL a.length) (λE=>c++N E) v:=by
 refine⟨h.ent,λw g j r=>?_⟩;refine(callsIn_wide (n:=6)).1 ((callsIn_wide.2 (h.out w [g.flatten] ⟨⟨a,g,rfl,j,rfl⟩,trivial⟩ (by simpa using r))).mono λe s q=>?_);obtain⟨E,i,k,l,m⟩:=q;obtain⟨d,i,rfl,⟨L,b,rfl,o,rfl⟩,p⟩:=eA l;refine⟨E,b++i,k,kA o p,?_⟩;rw[jO j,QD,aam];simpa using m
theorem aa.outs{rd:ah}{O:List Nat}{b:ab→ah}(h:aa P f args rd O wt v)(p: ∀E ds,bq (wt E) ds→∃a,bq (b E) a∧a.flatten=ds.flatten):aa P f args rd O b v:=
 ⟨h.ent,λw c o m=>(callsIn_wide (n:=6)).1 ((callsIn_wide.2 (h.out w c o m)).mono λe q l=>by
  obtain⟨E,ds,d,g,i⟩:=l;obtain⟨a,j,k⟩:=p E ds g;exact⟨E,a,d,j,by rw[k];exact i⟩)⟩
theorem td{S:ah→Prop}{L:ah}{ds:List ay}(b:S L)(h:bq L ds): ∃a,bq [pk S] a∧a.flatten=ds.flatten:=⟨[ds.flatten],⟨⟨L,ds,b,h,rfl⟩,trivial⟩,by simp⟩
theorem aa.inW{x y:aA}{T T':ah→Prop}(h:aa P f args [x] [0] (λ_=>[y]) v)(m: ∀L,T L→∃j:Nat,L[j]? =some x∧T' (L.set j y)):aa P f args [pk T] [0] (λ_=>[pk T']) v:=by
 refine aa.pkW (n:=0) (N:=λ_=>[]) h.ent λL l=>?_;obtain⟨j,g,b⟩:=m L l;have a:=(List.getElem?_eq_some_iff.1 g).1;refine⟨[j],λ_=>[y],⟨h.ent,λw k c d=>?_⟩,by simp [dp,a],λE=>⟨rfl,rfl,?_⟩⟩
 ·rw[aaj] at c;have o:=jO c;have:=h.out w [k.getD j []] ⟨nc c g,trivial⟩ ⟨λy i=>d.obj y (by
   rw[aal,abt,aaj] at i;exact List.mem_flatten.2 ⟨_,nX Om,i⟩),by
   rw[aal,abt,aaj];exact(rU d.nd).1 j⟩
  simpa using this
 ·have e:lE ([j].zip [y]) 0 L=L.set j y:=by
   apply aaB;intro p;rw[zF,Z5,aae];by_cases e:j=p
   ·subst e;simp [cQ,a]
   ·rw[ALifn e];cases L[p]?<;>simp [cQ,e]
  show T' (lE ([j].zip [y]) 0 L);rw[e];exact b
end
end
section
open Go Go.RowKit Go.Shelf
def te(x:Nat):List Value:=[iN x]
def cx:Kd ZK Nat:=⟨te,[i6 0],74,3,0,1,λ_=>rfl,rfl,λ_=>rfl,eh.mk' Kr Kr rfl⟩
abbrev bO(v:Value)(xs:List Nat):aA:= .p (aq te ([i6 0]) 3 v xs)
def Fq(x:Bool):List Value:=[.bool x]
def kO:Kd ZK Bool:=⟨Fq,[.bool false],135,4,false,1,λ_=>rfl,rfl,λ_=>rfl,eh.mk' Kr Kr rfl⟩
abbrev fc(v:Value)(xs:List Bool):aA:= .p (aq Fq ([.bool false]) 4 v xs)
def jt(n:Nat)(bs:List Nat)(k:Nat):Nat:=(bs.take k).foldl (· / ·) n
def aB(n:Nat)(bs:List Nat)(k:Nat):List Nat:=(ZL k).map λi=>jt n bs i%bs.getD i 0
theorem QE{n:Nat}{bs:List Nat}{k:Nat}(h:k<bs.length):jt n bs (k+1)=jt n bs k/bs.getD k 0:=by
 unfold jt;rw[aaA,ZM h,ZJ,ZM h,aaS];rfl
theorem QF(n:Nat)(bs:List Nat): ∀k,jt n bs k≤n:=by
 intro k;unfold jt;generalize bs.take k=l
 induction l generalizing n with
 | nil=>exact Z6 _
 | cons b l ih=>exact aab (ih (n/b)) (abz _ _)
theorem QG{n:Nat}{bs:List Nat}{k:Nat}:aB n bs (k+1)=aB n bs k++[jt n bs k%bs.getD k 0]:=by
 unfold aB;rw[aak,aaJ];rfl
theorem QH(n:Nat)(bs:List Nat)(k:Nat):(aB n bs k).length=k:=by unfold aB;rw[ZQ,ZZ]
def dE(d a:List Nat):Nat→Nat
 | 0=>0
 | k+1=>dE d a k*a.getD (a.length-1-k) 0+d.getD (a.length-1-k) 0
theorem Fs{e:BinOp}{f:Nat→Nat→Nat}(a b:Nat)(g:a<9223372036854775808)(i:b<9223372036854775808)(k:f a b<9223372036854775808)(h:bits e .i64 (a:Int) (b:Int)=IntKind.i64.wrap ((f (BitVec.ofInt 64 (a:Int)).toNat (BitVec.ofInt 64 (b:Int)).toNat:Nat):Int)):bits e .i64 (a:Int) (b:Int)=((f a b:Nat):Int):=by
 have d: ∀c:Nat,c<9223372036854775808→(BitVec.ofInt 64 (c:Int)).toNat=c:=by
  intro c j;rw[BitVec.ofInt_natCast,BitVec.toNat_ofNat];exact aac Om
 rw[h,d a g,d b i];exact IntWalk.i64_in _ Om
theorem QI(a b:Nat)(c:a<9223372036854775808)(d:b<9223372036854775808):bits .and .i64 (a:Int) (b:Int)=((a&&& b:Nat):Int):=
 Fs (f:=λa b=>a&&& b) a b c d (aaq Nat.and_le_left c) (by show IntKind.i64.wrap ((BitVec.ofInt 64 (a:Int)&&& BitVec.ofInt 64 (b:Int)).toNat:Int)=_;rw[BitVec.toNat_and])
theorem QJ(a b:Nat)(c:a<9223372036854775808)(d:b<9223372036854775808):bits .xor .i64 (a:Int) (b:Int)=((a^^^b:Nat):Int):=
 Fs (f:=λa b=>a^^^b) a b c d (Z8 (n:=63) Om Om) (by show IntKind.i64.wrap ((BitVec.ofInt 64 (a:Int)^^^BitVec.ofInt 64 (b:Int)).toNat:Int)=_;rw[BitVec.toNat_xor])
section
variable {P:Program} {T:TypeId} {x y:Operand} {w:World}
theorem Ft(a b:Nat)(c:a<9223372036854775808)(d:b<9223372036854775808):(av .and T x y (.int .i64 (a:Int)) (.int .i64 (b:Int))).run P w= .ok (.int .i64 ((a&&& b:Nat):Int)) w:=by rw[←QI a b c d];rfl
theorem Fu(a b:Nat)(c:a<9223372036854775808)(d:b<9223372036854775808):(av .xor T x y (.int .i64 (a:Int)) (.int .i64 (b:Int))).run P w= .ok (.int .i64 ((a^^^b:Nat):Int)) w:=by rw[←QJ a b c d];rfl
end
theorem dN{P:Program}{m:Sem Value}{w:World}{a b:Int}{k:IntKind}(h:m.run P w= .ok (.int k a) w)(e:a=b):m.run P w= .ok (.int k b) w:=e▸h
def bF(p0 p1 p2 p3:Nat):Nat:=p0*1048576+p1*65536+p2*64+p3
structure gR (R S B M C p0 p1 p2 p3:Nat):Prop where
 h0:p0<R+S
 h1:p1<B
 h2:p2<M
 h3:p3<C
section
variable {R S B M C p0 p1 p2 p3:Nat}
theorem gR.hold(h:gR R S B M C p0 p1 p2 p3):hold R S B M C p0 p1 p2 p3=true:=by
 have:=h.h0;have:=h.h1;have:=h.h2;have:=h.h3;exact vO.2 Om
theorem zH(a:hP R S B M C)(h:gR R S B M C p0 p1 p2 p3):bF p0 p1 p2 p3<8388608:=by
 have:=a.r8;have:=a.b16;have:=a.m10;have:=a.c64;have:=h.h0;have:=h.h1;have:=h.h2;have:=h.h3;unfold bF;omega
theorem vT:dS (p0:Int) p1 p2 p3=(bF p0 p1 p2 p3:Int):=by unfold dS bF;omega
theorem zI(a:hP R S B M C)(h:gR R S B M C p0 p1 p2 p3):bF p0 p1 p2 p3/1048576=p0∧bF p0 p1 p2 p3/65536%16=p1∧bF p0 p1 p2 p3/64%1024=p2∧bF p0 p1 p2 p3%64=p3:=by
 have:=a.r8;have:=a.b16;have:=a.m10;have:=a.c64;have:=h.h0;have:=h.h1;have:=h.h2;have:=h.h3;unfold bF;omega
theorem tf(a:cM R S B M C)(h:gR R S B M C p0 p1 p2 p3):aa ZK 147 #[.agg #[iN R,iN S,iN B,iN M,iN C],.agg #[iN p0,iN p1,iN p2,iN p3]] [] [] N0 (λ_=> .tuple #[i6 (bF p0 p1 p2 p3:Int),i6 0]):=by
 have:=Fk R S B M C a p0 p1 p2 p3;unfold sZ s4 at this;rwa [h.hold,vT] at this
theorem th(a:cM R S B M C)(h:gR R S B M C p0 p1 p2 p3):aa ZK 68 #[.agg #[iN R,iN S,iN B,iN M,iN C],i6 (bF p0 p1 p2 p3:Int)] [] [] N0 (λ_=> .tuple #[.agg #[iN p0,iN p1,iN p2,iN p3],i6 0]):=by
 have:=Fl R S B M C a (bF p0 p1 p2 p3:Nat);have e:=zI a.bd h;have b:((bF p0 p1 p2 p3:Nat):Int)/1048576=(p0:Int):=by omega
 have c:((bF p0 p1 p2 p3:Nat):Int)/65536%16=(p1:Int):=by omega
 have d:((bF p0 p1 p2 p3:Nat):Int)/64%1024=(p2:Int):=by omega
 have f:((bF p0 p1 p2 p3:Nat):Int)%64=(p3:Int):=by omega
 unfold s5 s6 s7 s8 s9 at this;rw[b,c,d,f,h.hold,a8 Om] at this;exact this
end
theorem pv{B r b:Nat}(h:B∈[1,2,4,8,16,32,64,128,256,512,1024])(d:b<B):b^^^(r&&& (B-1))<B:=by
 have c:r&&& (B-1)<B:=aaq aaX Om;have a: ∀k,B=2^k→b^^^(r&&& (B-1))<B:=λk e=>by rw[e] at d c⊢;exact Z8 d c
 simp only[List.mem_cons,aaE,or_false] at h;rcases h with h | h | h | h | h | h | h | h | h | h | h
 ·exact a 0 h
 ·exact a 1 h
 ·exact a 2 h
 ·exact a 3 h
 ·exact a 4 h
 ·exact a 5 h
 ·exact a 6 h
 ·exact a 7 h
 ·exact a 8 h
 ·exact a 9 h
 ·exact a 10 h
def eQ(B r b:Nat):Nat:=b^^^(r&&& (B-1))
theorem Fv(B r b:Nat):eQ B r (eQ B r b)=b:=by unfold eQ;rw[Z2,aag,aaa]
def mV(way R B M p:Nat):List Nat:=match way with
 | 0=>aB p [M,B,R] 3
 | 1=>aB p [B,M,R] 3
 | _=>aB p [R,B,M] 3
def aE(way R B M p:Nat):Nat:=match way with
 | 0=>(mV way R B M p).getD 2 0
 | 1=>(mV way R B M p).getD 2 0
 | _=>(mV way R B M p).getD 0 0
def dT(way R B M p:Nat):Nat:=match way with
 | 0=>(mV way R B M p).getD 0 0
 | 1=>(mV way R B M p).getD 1 0
 | _=>(mV way R B M p).getD 2 0
def dU(way R B M p:Nat):Nat:=match way with
 | 0=>(mV way R B M p).getD 1 0
 | 1=>(mV way R B M p).getD 0 0
 | 2=>(mV way R B M p).getD 1 0
 | _=>eQ B (dT way R B M p) ((mV way R B M p).getD 1 0)
def kq(way R B M r b w:Nat):Nat:=match way with
 | 0=>dE [w,b,r] [M,B,R] 3
 | 1=>dE [b,w,r] [B,M,R] 3
 | 2=>dE [r,b,w] [R,B,M] 3
 | _=>dE [r,eQ B w b,w] [R,B,M] 3
def hZ(way R B M p:Nat):Nat:=bF (aE way R B M p) (dU way R B M p) (dT way R B M p) 0/64
theorem zJ(x y z a b c:Nat):dE [x,y,z] [a,b,c] 3=((0*c+z)*b+y)*a+x:=rfl
theorem QK(n a b c:Nat):aB n [a,b,c] 3=[n%a,n/a%b,n/a/b%c]:=rfl
theorem tj{x y z a b c:Nat}(g:x<a)(h:y<b)(f:z<c):dE [x,y,z] [a,b,c] 3<c*b*a:=by
 rw[zJ,aaW,Z5];have d:z*b+y<c*b:=by
  have:(z+1)*b≤c*b:=ZW b f;rw[aa4] at this;omega
 have e:(z*b+y+1)*a≤c*b*a:=ZW a d;rw[aa4] at e;omega
theorem vU{n a b c:Nat}(h:n<c*b*a)(i:0<a)(j:0<b):dE [n%a,n/a%b,n/a/b%c] [a,b,c] 3=n:=by
 have d:n/a<c*b:=aaf (by rw[ZR a];exact h);have e:n/a/b<c:=aaf (by rw[ZR b];exact d);rw[zJ,aaW,Z5,aac e];have f:=aa1 (n/a) b;have g:=aa1 n a;rw[ZR (n/a/b),f,ZR (n/a),g]
theorem vV{x y z a b c:Nat}(d:x<a)(e:y<b)(f:z<c):aB (dE [x,y,z] [a,b,c] 3) [a,b,c] 3=[x,y,z]:=by
 rw[QK,zJ,aaW,Z5,abH _ x,aa6,aac d,abh _ _ Om,aaH d,Z5,abH _ y,aa6,aac e,abh _ _ Om,aaH e,Z5,aac f]
section
variable {R S B M C way p:Nat}
theorem px(e:cM R S B M C)(hp:p<R*B*M):gR R S B M C (aE way R B M p) (dU way R B M p) (dT way R B M p) 0:=by
 have b:=e.bd;have c:=b.r1;have a:=b.b1;have d:=b.m1;have g:=b.c1;have h:aE way R B M p<R:=by
  match way with
  | 0=>exact ZV _ c
  | 1=>exact ZV _ c
  | w+2=>exact ZV p c
 have f:dT way R B M p<M:=by
  match way with
  | 0=>exact ZV p d
  | 1=>exact ZV _ d
  | w+2=>exact ZV _ d
 refine⟨by omega,?_,f,by omega⟩
 match way with
 | 0=>exact ZV _ a
 | 1=>exact ZV _ a
 | 2=>exact ZV _ a
 | w+3=>exact pv e.pow (ZV (p/R) a)
theorem nE(b:cM R S B M C):aE way R B M p<R:=by
 have a:=b.bd.r1
 match way with
 | 0=>exact ZV _ a
 | 1=>exact ZV _ a
 | w+2=>exact ZV p a
theorem zL(g:cM R S B M C)(hp:p<R*B*M):kq way R B M (aE way R B M p) (dU way R B M p) (dT way R B M p)=p:=by
 have b:=g.bd;have d:=b.r1;have a:=b.b1;have e:=b.m1;have c:R*B*M=M*B*R:=by rw[ZR (R*B),ZR R,←ZU]
 have f:R*B*M=R*M*B:=by rw[ZU,ZR B,ZU]
 match way with
 | 0=>exact vU hp e a
 | 1=>exact vU (f▸hp) a e
 | 2=>exact vU (c▸hp) d a
 | w+3=>
  show dE [p%R,eQ B (p/R/B%M) (eQ B (p/R/B%M) (p/R%B)),p/R/B%M] [R,B,M] 3=p;rw[Fv];exact vU (c▸hp) d a
theorem QL(a:cM R S B M C)(hp:p<R*B*M):hZ way R B M p<131072:=by
 have:=zH a.bd (px (way:=way) a hp);unfold hZ;omega
theorem QM(d a:List Nat): ∀j k,j≤k→k≤3→a.length=3→(∀i,i<3→1≤a.getD i 0)→dE d a j≤dE d a k:=by
 intro j k b
 induction b with
 | refl=>intros;exact Z6 _
 | @step k h ih=>
  intro f e c;refine aab (ih Om e c) ?_;show dE d a k≤dE d a k*a.getD (a.length-1-k) 0+_;have:=aaF (dE d a k) (c (a.length-1-k) Om);omega
theorem vW{x y z a b c:Nat}(d:x<a)(e:y<b)(f:z<c)(l:c*b*a≤1000000)(k:Nat)(g:k≤[a,b,c].length):dE [x,y,z] [a,b,c] k≤1000000:=by
 have h:=tj d e f;refine aab (QM _ _ k 3 g (Z6 _) rfl λi j=>?_) Om
 match i with
 | 0=>exact aaq (aan _) d
 | 1=>exact aaq (aan _) e
 | 2=>exact aaq (aan _) f
theorem zM:hZ way R B M p=aE way R B M p*16384+dU way R B M p*1024+dT way R B M p:=by unfold hZ bF;omega
end
end
section
open Go Go.RowKit Go.Shelf
theorem zN(r s b m c way:Int):aa ZK 134 #[.agg #[i6 r,i6 s,i6 b,i6 m,i6 c],i6 way] [] [] N0 (λ_=> .bool (((jr r s b m c)&&(decide (0≤way)))&&(decide (way<4)))):=by
 exact fG Tryz.func134 λw d=>ra (λa=>[(2,pt (B0 a) 0),(4,.bool false)]) (λa=>[ob (B0 a) #[i6 r,i6 s,i6 b,i6 m,i6 c] 23]) λa=>r0 [(0,.l 0),(1,.c [] [] (Fi r s b m c))] [(4,.bool (((jr r s b m c)&&(decide (0≤way)))&&(decide (way<4))))] [4] (ak (.bool (((jr r s b m c)&&(decide (0≤way)))&&(decide (way<4)))) ab.zero a9 [] [] [])
theorem nF(R S B M C:Nat)(a:cM R S B M C)(way:Nat)(b:way<4):aa ZK 134 #[.agg #[iN R,iN S,iN B,iN M,iN C],iN way] [] [] N0 (λ_=> .bool true):=by
 have h:=zN R S B M C way;rwa [a.ok,cd Om,cd Om] at h
theorem vX(v:Value)(n:Nat)(c:List Nat)(z:n≤1000000)(y:c.length≤1000)(o: ∀k,k<c.length→1≤c.getD k 0∧c.getD k 0≤1000000):aa ZK 146 #[iN n,v] [.p (aK te v c)] [] (λE=>[bO (E.val 0) (aB n c c.length)]) (λE=>(E.val 0)):=by
 refine fO Tryz.func146 0 rfl λi f=>fG Tryz.func146 λw u=>r0 [] [(4,.slice none 0 0)] [] (r0 [] [(5,.slice none 0 0)] [] (r0 [(1,eG f.1 0)] [(8,v),(9,iN c.length),(10,i6 0)] [] (cz cx ?_)));refine nk (λk _=>k≤c.length) (λk e=>[(0,iN (jt n c k)),(10,iN k),(5,e)]) (λk e L=>L.set 1 (bO e (aB n c k))) (λk _=>c.length-k) 0 (.slice none 0 0) Om Kr Kr (λk e s=>?_);have x:=QF n c k;have r:=QH n c k;refine r0 [] [(11,.bool (decide ((k:Int)<(c.length:Int))))] [] ?_;refine cj (k:Int) (c.length:Int) (λj h=>?_) λj h=>?_
 ·refine r0 [(0,fx f.1 0 k 1),(1,jk cx f.1 0 k 0)] [(7,iN (c.getD k 0))] [] ?_;have q:=o k Om;exact rr (λ_=>[(3,.t (tb (a:=iN (jt n c k)) (b:=iN (c.getD k 0)) λ_ _ _ _=>n8 (a:=jt n c k) (d:=(c.getD k 0)) Om)),(4,.m (bs 2 1)),(5,fF cx (e) (aB n c k) 1 2 ([(jt n c k)%(c.getD k 0)]))]) (λg=>[(5,(g 5).val 0)]) [5] (λg L=>L.set 1 (bO ((g 5).val 0) ((aB n c k)++([(jt n c k)%(c.getD k 0)])))++[ob (B4 g) #[iN ((jt n c k)%(c.getD k 0))] 3]) λg=>r0 [(2,.t (tb (a:=iN (jt n c k)) (b:=iN (c.getD k 0)) λ_ _ _ _=>oT (a:=jt n c k) (d:=(c.getD k 0)) Om Om))] [(0,iN ((jt n c k)/(c.getD k 0)))] [0] (r0 [(0,ad k 1)] [(10,iN (k+1))] [10] (mf (k+1) ((g 5).val 0) Om Om (by rw[QE Om];kernel_rfl) [0,1] (by rw[QG];kernel_rfl)))
 obtain rfl:c.length=k:=by omega
 refine mh ?_;exact r0 [] [(4,e)] [4] (lf (.l [] [] [e]) [1] [(0,0)] [])
theorem vY(v u:Value)(d a:List Nat)(q:a.length≤1000)(o:d.length=a.length)(j: ∀k,k≤a.length→dE d a k≤1000000):aa ZK 145 #[v,u] [.p (aK te v d),.p (aK te u a)] [] N0 (λ_=>iN (dE d a a.length)):=by
 refine fO Tryz.func145 0 rfl λg c=>fO Tryz.func145 1 rfl λh b=>fG Tryz.func145 λw n=>r0 [] [(4,i6 0)] [] (r0 [] [(5,i6 0)] [] (r0 [(1,eG b.1 1),(2,sI (a.length:Int) (1) Om)] [(6,i6 ((a.length:Int)-1))] [] ?_));refine lq (λk=>k≤a.length) (λk=>[(5,iN (dE d a k)),(6,i6 (((a.length:Nat):Int)-1-((k:Nat):Int)))]) (λ_ L=>L) (λk=>a.length-k) 0 Om (by rw[show((a.length:Nat):Int)-1-((0:Nat):Int)=(a.length:Int)-1 by omega];kernel_rfl) Kr (λk m=>?_);refine r0 [] [(11,.bool (decide (0≤(((a.length:Nat):Int)-1-((k:Nat):Int)))))] [] ?_;refine oX 0 (((a.length:Nat):Int)-1-((k:Nat):Int)) (λi e=>?_) λi e=>?_
 ·have l:=j (k+1) Om;have f:dE d a (k+1)=dE d a k*a.getD (a.length-1-k) 0+d.getD (a.length-1-k) 0:=rfl;exact r0 [(2,.t (tk (show i6 (((a.length:Nat):Int)-1-((k:Nat):Int))=iN (a.length-1-k) from ALca (Value.int .i64) Om))),(3,fx b.1 1 (a.length-1-k) 1),(4,jk cx b.1 1 (a.length-1-k) 0),(5,ml (dE d a k) (a.getD (a.length-1-k) 0)),(7,.t (tk (show i6 (((a.length:Nat):Int)-1-((k:Nat):Int))=iN (a.length-1-k) from ALca (Value.int .i64) Om))),(8,fx c.1 0 (a.length-1-k) 1),(9,jk cx c.1 0 (a.length-1-k) 0),(10,ad ((dE d a k)*(a.getD (a.length-1-k) 0)) (d.getD (a.length-1-k) 0))] [(5,iN (((dE d a k)*(a.getD (a.length-1-k) 0))+(d.getD (a.length-1-k) 0)))] [5] (r0 [(1,sI (((a.length:Nat):Int)-1-((k:Nat):Int)) (1) Om)] [(6,i6 ((((a.length:Nat):Int)-1-((k:Nat):Int))-1))] [6] (le (k+1) Om Om (by rw[show(((a.length:Nat):Int)-1-((k+1:Nat):Int))=((a.length:Nat):Int)-1-((k:Nat):Int)-1 by omega];kernel_rfl) [0,1] Kr))
 obtain rfl:k=a.length:=by omega
 exact lx (r0 [] [(4,iN (dE d a a.length))] [4] (lf ab.zero [] [(0,0),(1,1)] []))
end
section
open Go Go.RowKit Go.Shelf
theorem QN(R S B M C:Nat)(f:cM R S B M C)(p:Nat)(hp:p<R*B*M):aa ZK 122 #[.agg #[iN R,iN S,iN B,iN M,iN C],i6 0,iN p] [] [] N0 (λ_=> .tuple #[iN (hZ 0 R B M p),i6 0]):=by
 have e:=f.bd;have A:=e.rbm;have D:=e.r8;have n:=e.b16;have o:=e.b1;have v:=e.m10;have x:=e.m1;have y:=e.r1;have q:=e.c1;have r:(aB p [M,B,R] [M,B,R].length).length=3:=rfl;refine fG Tryz.func122 λw z=>ra (λi=>[(3,pt (B0 i) 0),(6,i6 0),(7,i6 0)]) (λi=>[ob (B0 i) #[iN R,iN S,iN B,iN M,iN C] 23]) λi=>r0 [(0,.m (ls 0 ([iN R,iN S,iN B,iN M,iN C]))),(2,.c [] [] (nF R S B M C f 0 Om)),(10,.m (ls 0 ([iN R,iN S,iN B,iN M,iN C]))),(11,.c [] [] (mU R S B M C f))] [(27,.bool ((decide ((p:Int)<0))||(decide ((((R*B)*M:Nat):Int)≤(p:Int)))))] [] ?_;have j:((decide ((p:Int)<0))||(decide ((((R*B)*M:Nat):Int)≤(p:Int))))=false:=(by rw[Z0];exact⟨a8 Om,a8 Om⟩);exact cF ((decide ((p:Int)<0))||(decide ((((R*B)*M:Nat):Int)≤(p:Int)))) j (ra (λg=>[(8,pt (B0 g) 0)]) (λg=>[ob (B0 g) #[i6 0,i6 0,i6 0,i6 0] 46]) λg=>r0 [] [(28,i6 0)] [] (rT [] 50 (rr (λd=>[(2,.l 0),(4,.l 0),(6,.l 0),(7,g5 cx 2 3 [M,B,R]),(8,.c [2] [3] (aa.at (rd':=[bO (.slice (some ⟨(d 7).y 0,0,none⟩) 3 3) ([M,B,R])]) (vX (.slice (some ⟨(d 7).y 0,0,none⟩) 3 3) p ([M,B,R]) Om (by simp) (λk u=>by rcases k with _ | _ | _ | k<;>first | exact⟨by first | assumption,by simp;omega⟩ | (simp at u;omega))) (bM (λ_ h=>aq.sq h) (λ_ h=>h))))]) (λd=>[(9,((d 8).val 0))]) [] (λd L=>L++[bO (.slice (some ⟨(d 7).y 0,0,none⟩) 3 3) ([M,B,R]),bO ((d 8).val 0) (aB p ([M,B,R]) ([M,B,R]).length)]) λd=>rs [(1,cU cx ((d 8).val 0) (aB p ([M,B,R]) ([M,B,R]).length) 3 0),(2,fa cx ((d 8).val 0) (aB p ([M,B,R]) ([M,B,R]).length) 3 0 0),(4,cU cx ((d 8).val 0) (aB p ([M,B,R]) ([M,B,R]).length) 3 1),(5,fa cx ((d 8).val 0) (aB p ([M,B,R]) ([M,B,R]).length) 3 1 0),(7,cU cx ((d 8).val 0) (aB p ([M,B,R]) ([M,B,R]).length) 3 2),(8,fa cx ((d 8).val 0) (aB p ([M,B,R]) ([M,B,R]).length) 3 2 0),(10,.s 1),(12,.s 1),(14,.s 1)] 1 (ob (B0 g) #[iN ((aB p ([M,B,R]) ([M,B,R]).length).getD 2 0),iN ((aB p ([M,B,R]) ([M,B,R]).length).getD 1 0),iN ((aB p ([M,B,R]) ([M,B,R]).length).getD 0 0),i6 0] 46) (rF [] 97 (r0 [(0,.l 0),(1,.l 1),(2,.c [] [] (tf f (px (way:=0) f hp)))] [(12,iN (bF ((aB p ([M,B,R]) ([M,B,R]).length).getD 2 0) ((aB p ([M,B,R]) ([M,B,R]).length).getD 1 0) ((aB p ([M,B,R]) ([M,B,R]).length).getD 0 0) 0)),(13,i6 0)] [] (r0 [(1,.t (tb (a:=iN (bF ((aB p ([M,B,R]) ([M,B,R]).length).getD 2 0) ((aB p ([M,B,R]) ([M,B,R]).length).getD 1 0) ((aB p ([M,B,R]) ([M,B,R]).length).getD 0 0) 0)) (b:=u6 6) λ_ _ _ _=>iQ 6 Dc))] [(6,i6 (((bF ((aB p ([M,B,R]) ([M,B,R]).length).getD 2 0) ((aB p ([M,B,R]) ([M,B,R]).length).getD 1 0) ((aB p ([M,B,R]) ([M,B,R]).length).getD 0 0) 0:Nat):Int)/64)),(7,i6 0)] [6,7] (ak (.tuple #[i6 (((bF ((aB p ([M,B,R]) ([M,B,R]).length).getD 2 0) ((aB p ([M,B,R]) ([M,B,R]).length).getD 1 0) ((aB p ([M,B,R]) ([M,B,R]).length).getD 0 0) 0:Nat):Int)/64),i6 0]) ab.zero a9 [] [] [])))))))
theorem QO(R S B M C:Nat)(f:cM R S B M C)(p:Nat)(hp:p<R*B*M):aa ZK 122 #[.agg #[iN R,iN S,iN B,iN M,iN C],i6 1,iN p] [] [] N0 (λ_=> .tuple #[iN (hZ 1 R B M p),i6 0]):=by
 have e:=f.bd;have A:=e.rbm;have D:=e.r8;have n:=e.b16;have o:=e.b1;have v:=e.m10;have x:=e.m1;have y:=e.r1;have q:=e.c1;have r:(aB p [B,M,R] [B,M,R].length).length=3:=rfl;refine fG Tryz.func122 λw z=>ra (λi=>[(3,pt (B0 i) 0),(6,i6 0),(7,i6 0)]) (λi=>[ob (B0 i) #[iN R,iN S,iN B,iN M,iN C] 23]) λi=>r0 [(0,.m (ls 0 ([iN R,iN S,iN B,iN M,iN C]))),(2,.c [] [] (nF R S B M C f 1 Om)),(10,.m (ls 0 ([iN R,iN S,iN B,iN M,iN C]))),(11,.c [] [] (mU R S B M C f))] [(27,.bool ((decide ((p:Int)<0))||(decide ((((R*B)*M:Nat):Int)≤(p:Int)))))] [] ?_;have j:((decide ((p:Int)<0))||(decide ((((R*B)*M:Nat):Int)≤(p:Int))))=false:=(by rw[Z0];exact⟨a8 Om,a8 Om⟩);exact cF ((decide ((p:Int)<0))||(decide ((((R*B)*M:Nat):Int)≤(p:Int)))) j (ra (λg=>[(8,pt (B0 g) 0)]) (λg=>[ob (B0 g) #[i6 0,i6 0,i6 0,i6 0] 46]) λg=>r0 [] [(28,i6 1)] [] (rF [] 50 (rT [] 73 (rr (λd=>[(2,.l 0),(4,.l 0),(6,.l 0),(7,g5 cx 2 3 [B,M,R]),(8,.c [2] [3] (aa.at (rd':=[bO (.slice (some ⟨(d 7).y 0,0,none⟩) 3 3) ([B,M,R])]) (vX (.slice (some ⟨(d 7).y 0,0,none⟩) 3 3) p ([B,M,R]) Om (by simp) (λk u=>by rcases k with _ | _ | _ | k<;>first | exact⟨by first | assumption,by simp;omega⟩ | (simp at u;omega))) (bM (λ_ h=>aq.sq h) (λ_ h=>h))))]) (λd=>[(10,((d 8).val 0))]) [] (λd L=>L++[bO (.slice (some ⟨(d 7).y 0,0,none⟩) 3 3) ([B,M,R]),bO ((d 8).val 0) (aB p ([B,M,R]) ([B,M,R]).length)]) λd=>rs [(1,cU cx ((d 8).val 0) (aB p ([B,M,R]) ([B,M,R]).length) 3 0),(2,fa cx ((d 8).val 0) (aB p ([B,M,R]) ([B,M,R]).length) 3 0 0),(4,cU cx ((d 8).val 0) (aB p ([B,M,R]) ([B,M,R]).length) 3 1),(5,fa cx ((d 8).val 0) (aB p ([B,M,R]) ([B,M,R]).length) 3 1 0),(7,cU cx ((d 8).val 0) (aB p ([B,M,R]) ([B,M,R]).length) 3 2),(8,fa cx ((d 8).val 0) (aB p ([B,M,R]) ([B,M,R]).length) 3 2 0),(10,.s 1),(12,.s 1),(14,.s 1)] 1 (ob (B0 g) #[iN ((aB p ([B,M,R]) ([B,M,R]).length).getD 2 0),iN ((aB p ([B,M,R]) ([B,M,R]).length).getD 0 0),iN ((aB p ([B,M,R]) ([B,M,R]).length).getD 1 0),i6 0] 46) (rF [] 97 (r0 [(0,.l 0),(1,.l 1),(2,.c [] [] (tf f (px (way:=1) f hp)))] [(12,iN (bF ((aB p ([B,M,R]) ([B,M,R]).length).getD 2 0) ((aB p ([B,M,R]) ([B,M,R]).length).getD 0 0) ((aB p ([B,M,R]) ([B,M,R]).length).getD 1 0) 0)),(13,i6 0)] [] (r0 [(1,.t (tb (a:=iN (bF ((aB p ([B,M,R]) ([B,M,R]).length).getD 2 0) ((aB p ([B,M,R]) ([B,M,R]).length).getD 0 0) ((aB p ([B,M,R]) ([B,M,R]).length).getD 1 0) 0)) (b:=u6 6) λ_ _ _ _=>iQ 6 Dc))] [(6,i6 (((bF ((aB p ([B,M,R]) ([B,M,R]).length).getD 2 0) ((aB p ([B,M,R]) ([B,M,R]).length).getD 0 0) ((aB p ([B,M,R]) ([B,M,R]).length).getD 1 0) 0:Nat):Int)/64)),(7,i6 0)] [6,7] (ak (.tuple #[i6 (((bF ((aB p ([B,M,R]) ([B,M,R]).length).getD 2 0) ((aB p ([B,M,R]) ([B,M,R]).length).getD 0 0) ((aB p ([B,M,R]) ([B,M,R]).length).getD 1 0) 0:Nat):Int)/64),i6 0]) ab.zero a9 [] [] []))))))))
theorem QP(R S B M C:Nat)(f:cM R S B M C)(p:Nat)(hp:p<R*B*M):aa ZK 122 #[.agg #[iN R,iN S,iN B,iN M,iN C],i6 2,iN p] [] [] N0 (λ_=> .tuple #[iN (hZ 2 R B M p),i6 0]):=by
 have e:=f.bd;have A:=e.rbm;have D:=e.r8;have n:=e.b16;have o:=e.b1;have v:=e.m10;have x:=e.m1;have y:=e.r1;have q:=e.c1;have r:(aB p [R,B,M] [R,B,M].length).length=3:=rfl;refine fG Tryz.func122 λw z=>ra (λi=>[(3,pt (B0 i) 0),(6,i6 0),(7,i6 0)]) (λi=>[ob (B0 i) #[iN R,iN S,iN B,iN M,iN C] 23]) λi=>r0 [(0,.m (ls 0 ([iN R,iN S,iN B,iN M,iN C]))),(2,.c [] [] (nF R S B M C f 2 Om)),(10,.m (ls 0 ([iN R,iN S,iN B,iN M,iN C]))),(11,.c [] [] (mU R S B M C f))] [(27,.bool ((decide ((p:Int)<0))||(decide ((((R*B)*M:Nat):Int)≤(p:Int)))))] [] ?_;have j:((decide ((p:Int)<0))||(decide ((((R*B)*M:Nat):Int)≤(p:Int))))=false:=(by rw[Z0];exact⟨a8 Om,a8 Om⟩);exact cF ((decide ((p:Int)<0))||(decide ((((R*B)*M:Nat):Int)≤(p:Int)))) j (ra (λg=>[(8,pt (B0 g) 0)]) (λg=>[ob (B0 g) #[i6 0,i6 0,i6 0,i6 0] 46]) λg=>r0 [] [(28,i6 2)] [] (rF [] 50 (rF [] 73 (rr (λd=>[(2,.l 0),(4,.l 0),(6,.l 0),(7,g5 cx 2 3 [R,B,M]),(8,.c [2] [3] (aa.at (rd':=[bO (.slice (some ⟨(d 7).y 0,0,none⟩) 3 3) ([R,B,M])]) (vX (.slice (some ⟨(d 7).y 0,0,none⟩) 3 3) p ([R,B,M]) Om (by simp) (λk u=>by rcases k with _ | _ | _ | k<;>first | exact⟨by first | assumption,by simp;omega⟩ | (simp at u;omega))) (bM (λ_ h=>aq.sq h) (λ_ h=>h))))]) (λd=>[(11,((d 8).val 0))]) [] (λd L=>L++[bO (.slice (some ⟨(d 7).y 0,0,none⟩) 3 3) ([R,B,M]),bO ((d 8).val 0) (aB p ([R,B,M]) ([R,B,M]).length)]) λd=>rs [(1,cU cx ((d 8).val 0) (aB p ([R,B,M]) ([R,B,M]).length) 3 0),(2,fa cx ((d 8).val 0) (aB p ([R,B,M]) ([R,B,M]).length) 3 0 0),(4,cU cx ((d 8).val 0) (aB p ([R,B,M]) ([R,B,M]).length) 3 1),(5,fa cx ((d 8).val 0) (aB p ([R,B,M]) ([R,B,M]).length) 3 1 0),(7,cU cx ((d 8).val 0) (aB p ([R,B,M]) ([R,B,M]).length) 3 2),(8,fa cx ((d 8).val 0) (aB p ([R,B,M]) ([R,B,M]).length) 3 2 0),(10,.s 1),(12,.s 1),(14,.s 1)] 1 (ob (B0 g) #[iN ((aB p ([R,B,M]) ([R,B,M]).length).getD 0 0),iN ((aB p ([R,B,M]) ([R,B,M]).length).getD 1 0),iN ((aB p ([R,B,M]) ([R,B,M]).length).getD 2 0),i6 0] 46) (rF [] 97 (r0 [(0,.l 0),(1,.l 1),(2,.c [] [] (tf f (px (way:=2) f hp)))] [(12,iN (bF ((aB p ([R,B,M]) ([R,B,M]).length).getD 0 0) ((aB p ([R,B,M]) ([R,B,M]).length).getD 1 0) ((aB p ([R,B,M]) ([R,B,M]).length).getD 2 0) 0)),(13,i6 0)] [] (r0 [(1,.t (tb (a:=iN (bF ((aB p ([R,B,M]) ([R,B,M]).length).getD 0 0) ((aB p ([R,B,M]) ([R,B,M]).length).getD 1 0) ((aB p ([R,B,M]) ([R,B,M]).length).getD 2 0) 0)) (b:=u6 6) λ_ _ _ _=>iQ 6 Dc))] [(6,i6 (((bF ((aB p ([R,B,M]) ([R,B,M]).length).getD 0 0) ((aB p ([R,B,M]) ([R,B,M]).length).getD 1 0) ((aB p ([R,B,M]) ([R,B,M]).length).getD 2 0) 0:Nat):Int)/64)),(7,i6 0)] [6,7] (ak (.tuple #[i6 (((bF ((aB p ([R,B,M]) ([R,B,M]).length).getD 0 0) ((aB p ([R,B,M]) ([R,B,M]).length).getD 1 0) ((aB p ([R,B,M]) ([R,B,M]).length).getD 2 0) 0:Nat):Int)/64),i6 0]) ab.zero a9 [] [] []))))))))
theorem QQ(R S B M C:Nat)(g:cM R S B M C)(p:Nat)(hp:p<R*B*M):aa ZK 122 #[.agg #[iN R,iN S,iN B,iN M,iN C],i6 3,iN p] [] [] N0 (λ_=> .tuple #[iN (hZ 3 R B M p),i6 0]):=by
 have e:=g.bd;have A:=e.rbm;have D:=e.r8;have q:=e.b16;have j:=e.b1;have x:=e.m10;have n:=e.m1;have y:=e.r1;have r:=e.c1;have u:(aB p [R,B,M] [R,B,M].length).length=3:=rfl;refine fG Tryz.func122 λw z=>ra (λi=>[(3,pt (B0 i) 0),(6,i6 0),(7,i6 0)]) (λi=>[ob (B0 i) #[iN R,iN S,iN B,iN M,iN C] 23]) λi=>r0 [(0,.m (ls 0 ([iN R,iN S,iN B,iN M,iN C]))),(2,.c [] [] (nF R S B M C g 3 Om)),(10,.m (ls 0 ([iN R,iN S,iN B,iN M,iN C]))),(11,.c [] [] (mU R S B M C g))] [(27,.bool ((decide ((p:Int)<0))||(decide ((((R*B)*M:Nat):Int)≤(p:Int)))))] [] ?_;have o:((decide ((p:Int)<0))||(decide ((((R*B)*M:Nat):Int)≤(p:Int))))=false:=(by rw[Z0];exact⟨a8 Om,a8 Om⟩);refine cF ((decide ((p:Int)<0))||(decide ((((R*B)*M:Nat):Int)≤(p:Int)))) o (ra (λf=>[(8,pt (B0 f) 0)]) (λf=>[ob (B0 f) #[i6 0,i6 0,i6 0,i6 0] 46]) λf=>r0 [] [(28,i6 3)] [] (rF [] 50 (rF [] 73 (rr (λd=>[(2,.l 0),(4,.l 0),(6,.l 0),(7,g5 cx 2 3 [R,B,M]),(8,.c [2] [3] (aa.at (rd':=[bO (.slice (some ⟨(d 7).y 0,0,none⟩) 3 3) ([R,B,M])]) (vX (.slice (some ⟨(d 7).y 0,0,none⟩) 3 3) p ([R,B,M]) Om (by simp) (λk v=>by rcases k with _ | _ | _ | k<;>first | exact⟨by first | assumption,by simp;omega⟩ | (simp at v;omega))) (bM (λ_ h=>aq.sq h) (λ_ h=>h))))]) (λd=>[(11,((d 8).val 0))]) [] (λd L=>L++[bO (.slice (some ⟨(d 7).y 0,0,none⟩) 3 3) ([R,B,M]),bO ((d 8).val 0) (aB p ([R,B,M]) ([R,B,M]).length)]) λd=>rs [(1,cU cx ((d 8).val 0) (aB p ([R,B,M]) ([R,B,M]).length) 3 0),(2,fa cx ((d 8).val 0) (aB p ([R,B,M]) ([R,B,M]).length) 3 0 0),(4,cU cx ((d 8).val 0) (aB p ([R,B,M]) ([R,B,M]).length) 3 1),(5,fa cx ((d 8).val 0) (aB p ([R,B,M]) ([R,B,M]).length) 3 1 0),(7,cU cx ((d 8).val 0) (aB p ([R,B,M]) ([R,B,M]).length) 3 2),(8,fa cx ((d 8).val 0) (aB p ([R,B,M]) ([R,B,M]).length) 3 2 0),(10,.s 1),(12,.s 1),(14,.s 1)] 1 (ob (B0 f) #[iN ((aB p ([R,B,M]) ([R,B,M]).length).getD 0 0),iN ((aB p ([R,B,M]) ([R,B,M]).length).getD 1 0),iN ((aB p ([R,B,M]) ([R,B,M]).length).getD 2 0),i6 0] 46) (rT [] 97 ?_)))));have i:(aB p [R,B,M] [R,B,M].length).getD 2 0<M:=ZV _ n;have F:(aB p [R,B,M] [R,B,M].length).getD 1 0<B:=ZV _ j;have G:(aB p [R,B,M] 3).getD 2 0&&& (B-1)≤B-1:=aaX;exact rs [(1,.l 1),(3,.l 1),(5,.l 0),(6,.t (tb (a:=iN B) (b:=i6 1) λ_ _ _ _=>mi (a:=B) (b:=1) Om Om)),(7,.t (tv (av .and 3 (.tmp 101) (.tmp 104) (iN ((aB p ([R,B,M]) ([R,B,M]).length).getD 2 0)) (iN (B-1))) (λ_=>Ft _ (B-1) Om Om))),(8,.t (tv (av .xor 3 (.tmp 99) (.tmp 105) (iN ((aB p ([R,B,M]) ([R,B,M]).length).getD 1 0)) (iN (((aB p [R,B,M] 3).getD 2 0)&&& (B-1)))) (λ_=>Fu _ _ Om Om))),(10,.s 1)] 1 (ob (B0 f) #[iN ((aB p ([R,B,M]) ([R,B,M]).length).getD 0 0),iN (eQ B ((aB p [R,B,M] 3).getD 2 0) ((aB p [R,B,M] 3).getD 1 0)),iN ((aB p ([R,B,M]) ([R,B,M]).length).getD 2 0),i6 0] 46) (r0 [(0,.l 0),(1,.l 1),(2,.c [] [] (tf g (px (way:=3) g hp)))] [(12,iN (bF ((aB p ([R,B,M]) ([R,B,M]).length).getD 0 0) (eQ B ((aB p [R,B,M] 3).getD 2 0) ((aB p [R,B,M] 3).getD 1 0)) ((aB p ([R,B,M]) ([R,B,M]).length).getD 2 0) 0)),(13,i6 0)] [] (r0 [(1,.t (tb (a:=iN (bF ((aB p ([R,B,M]) ([R,B,M]).length).getD 0 0) (eQ B ((aB p [R,B,M] 3).getD 2 0) ((aB p [R,B,M] 3).getD 1 0)) ((aB p ([R,B,M]) ([R,B,M]).length).getD 2 0) 0)) (b:=u6 6) λ_ _ _ _=>iQ 6 Dc))] [(6,i6 (((bF ((aB p ([R,B,M]) ([R,B,M]).length).getD 0 0) (eQ B ((aB p [R,B,M] 3).getD 2 0) ((aB p [R,B,M] 3).getD 1 0)) ((aB p ([R,B,M]) ([R,B,M]).length).getD 2 0) 0:Nat):Int)/64)),(7,i6 0)] [6,7] (ak (.tuple #[i6 (((bF ((aB p ([R,B,M]) ([R,B,M]).length).getD 0 0) (eQ B ((aB p [R,B,M] 3).getD 2 0) ((aB p [R,B,M] 3).getD 1 0)) ((aB p ([R,B,M]) ([R,B,M]).length).getD 2 0) 0:Nat):Int)/64),i6 0]) ab.zero a9 [] [] [])))
theorem Fw(R S B M C:Nat)(a:cM R S B M C)(way:Nat)(b:way<4)(p:Nat)(hp:p<R*B*M):aa ZK 122 #[.agg #[iN R,iN S,iN B,iN M,iN C],iN way,iN p] [] [] N0 (λ_=> .tuple #[iN (hZ way R B M p),i6 0]):=by
 match way with
 | 0=>exact QN R S B M C a p hp
 | 1=>exact QO R S B M C a p hp
 | 2=>exact QP R S B M C a p hp
 | 3=>exact QQ R S B M C a p hp
 | w+4=>exact absurd b Om
theorem QR(R S B M C:Nat)(i:cM R S B M C)(a d e:Nat)(h0:a<R)(h1:d<B)(h2:e<M):aa ZK 121 #[.agg #[iN R,iN S,iN B,iN M,iN C],i6 0,iN (a*16384+d*1024+e)] [] [] N0 (λ_=> .tuple #[iN (kq 0 R B M a d e),i6 0]):=by
 have g:=i.bd;have D:=g.r8;have q:=g.b16;have u:=g.m10;have r:=g.c1;have x:=g.rbm;have z:M*B*R=R*B*M:=by rw[ZR (R*B),ZR R,←ZU]
 have A:R*M*B=R*B*M:=by rw[ZU,ZR M,←ZU]
 have v:eQ B e d<B:=pv i.pow h1;have n:gR R S B M C a d e 0:=⟨by omega,h1,h2,by omega⟩;refine fG Tryz.func121 λw y=>ra (λj=>[(3,pt (B0 j) 0),(6,i6 0),(7,i6 0)]) (λj=>[ob (B0 j) #[iN R,iN S,iN B,iN M,iN C] 23]) λj=>r0 [(0,.m (ls 0 ([iN R,iN S,iN B,iN M,iN C]))),(2,.c [] [] (nF R S B M C i 0 Om)),] [(21,.bool ((decide (((a*16384+d*1024+e:Nat):Int)<0))||(decide (131072≤((a*16384+d*1024+e:Nat):Int)))))] [] ?_;have o:((decide (((a*16384+d*1024+e:Nat):Int)<0))||(decide (131072≤((a*16384+d*1024+e:Nat):Int))))=false:=(by rw[Z0];exact⟨a8 Om,a8 Om⟩);refine cF ((decide (((a*16384+d*1024+e:Nat):Int)<0))||(decide (131072≤((a*16384+d*1024+e:Nat):Int)))) o (rr (λ_=>[(0,.l 0),(2,.t (tv (av .shl 3 (.tmp 24) (.const (u6 6)) (iN (a*16384+d*1024+e)) (u6 6)) (λ_=>dN (b:=((bF a d e 0:Nat):Int)) (fV 6 Dc Om Om) (by unfold bF;omega)))),(3,.c [] [] (th i n)),(8,.s 1)]) (λk=>[(8,pt (B7 k) 0),(9,i6 0)]) [] (λk L=>L++[ob (B7 k) #[iN a,iN d,iN e,i6 0] 46]) λk=>r0 [(4,.l 1),(6,.l 0)] [(37,.bool (decide ((R:Int)≤(a:Int))))] [] ?_);have p:(decide ((R:Int)≤(a:Int)))=false:=a8 Om;exact cF (decide ((R:Int)≤(a:Int))) p (rF [] 39 (r0 [] [(50,i6 0)] [] (rT [] 51 (rr (λf=>[(1,.m (ld 1 (iN e))),(3,.m (ld 1 (iN d))),(5,.m (ld 1 (iN a))),(6,g5 cx 2 3 [e,d,a]),(8,.m (ld 0 (iN M))),(10,.m (ld 0 (iN B))),(12,.m (ld 0 (iN R))),(13,g5 cx 3 3 [M,B,R]),(14,.c [2,3] [] (aa.at (rd':=[bO (.slice (some ⟨(f 6).y 0,0,none⟩) 3 3) ([e,d,a]),bO (.slice (some ⟨(f 13).y 0,0,none⟩) 3 3) ([M,B,R])]) (vY (.slice (some ⟨(f 6).y 0,0,none⟩) 3 3) (.slice (some ⟨(f 13).y 0,0,none⟩) 3 3) ([e,d,a]) ([M,B,R]) (by simp) rfl (vW h2 h1 h0 Om)) (bM (λ_ h=>aq.sq h) (bM (λ_ h=>aq.sq h) (λ_ h=>h))))),]) (λ_=>[(6,iN (dE ([e,d,a]) ([M,B,R]) ([M,B,R]).length)),(7,i6 0)]) [6,7] (λf L=>L++[bO (.slice (some ⟨(f 6).y 0,0,none⟩) 3 3) ([e,d,a]),bO (.slice (some ⟨(f 13).y 0,0,none⟩) 3 3) ([M,B,R])]) λf=>ak (.tuple #[iN (dE ([e,d,a]) ([M,B,R]) ([M,B,R]).length),i6 0]) ab.zero a9 [] [] []))))
theorem QS(R S B M C:Nat)(i:cM R S B M C)(a d e:Nat)(h0:a<R)(h1:d<B)(h2:e<M):aa ZK 121 #[.agg #[iN R,iN S,iN B,iN M,iN C],i6 1,iN (a*16384+d*1024+e)] [] [] N0 (λ_=> .tuple #[iN (kq 1 R B M a d e),i6 0]):=by
 have g:=i.bd;have D:=g.r8;have q:=g.b16;have u:=g.m10;have r:=g.c1;have x:=g.rbm;have z:M*B*R=R*B*M:=by rw[ZR (R*B),ZR R,←ZU]
 have A:R*M*B=R*B*M:=by rw[ZU,ZR M,←ZU]
 have v:eQ B e d<B:=pv i.pow h1;have n:gR R S B M C a d e 0:=⟨by omega,h1,h2,by omega⟩;refine fG Tryz.func121 λw y=>ra (λj=>[(3,pt (B0 j) 0),(6,i6 0),(7,i6 0)]) (λj=>[ob (B0 j) #[iN R,iN S,iN B,iN M,iN C] 23]) λj=>r0 [(0,.m (ls 0 ([iN R,iN S,iN B,iN M,iN C]))),(2,.c [] [] (nF R S B M C i 1 Om)),] [(21,.bool ((decide (((a*16384+d*1024+e:Nat):Int)<0))||(decide (131072≤((a*16384+d*1024+e:Nat):Int)))))] [] ?_;have o:((decide (((a*16384+d*1024+e:Nat):Int)<0))||(decide (131072≤((a*16384+d*1024+e:Nat):Int))))=false:=(by rw[Z0];exact⟨a8 Om,a8 Om⟩);refine cF ((decide (((a*16384+d*1024+e:Nat):Int)<0))||(decide (131072≤((a*16384+d*1024+e:Nat):Int)))) o (rr (λ_=>[(0,.l 0),(2,.t (tv (av .shl 3 (.tmp 24) (.const (u6 6)) (iN (a*16384+d*1024+e)) (u6 6)) (λ_=>dN (b:=((bF a d e 0:Nat):Int)) (fV 6 Dc Om Om) (by unfold bF;omega)))),(3,.c [] [] (th i n)),(8,.s 1)]) (λk=>[(8,pt (B7 k) 0),(9,i6 0)]) [] (λk L=>L++[ob (B7 k) #[iN a,iN d,iN e,i6 0] 46]) λk=>r0 [(4,.l 1),(6,.l 0)] [(37,.bool (decide ((R:Int)≤(a:Int))))] [] ?_);have p:(decide ((R:Int)≤(a:Int)))=false:=a8 Om;exact cF (decide ((R:Int)≤(a:Int))) p (rF [] 39 (r0 [] [(50,i6 1)] [] (rF [] 51 (rT [] 68 (rr (λf=>[(1,.m (ld 1 (iN d))),(3,.m (ld 1 (iN e))),(5,.m (ld 1 (iN a))),(6,g5 cx 2 3 [d,e,a]),(8,.m (ld 0 (iN B))),(10,.m (ld 0 (iN M))),(12,.m (ld 0 (iN R))),(13,g5 cx 3 3 [B,M,R]),(14,.c [2,3] [] (aa.at (rd':=[bO (.slice (some ⟨(f 6).y 0,0,none⟩) 3 3) ([d,e,a]),bO (.slice (some ⟨(f 13).y 0,0,none⟩) 3 3) ([B,M,R])]) (vY (.slice (some ⟨(f 6).y 0,0,none⟩) 3 3) (.slice (some ⟨(f 13).y 0,0,none⟩) 3 3) ([d,e,a]) ([B,M,R]) (by simp) rfl (vW h1 h2 h0 Om)) (bM (λ_ h=>aq.sq h) (bM (λ_ h=>aq.sq h) (λ_ h=>h))))),]) (λ_=>[(6,iN (dE ([d,e,a]) ([B,M,R]) ([B,M,R]).length)),(7,i6 0)]) [6,7] (λf L=>L++[bO (.slice (some ⟨(f 6).y 0,0,none⟩) 3 3) ([d,e,a]),bO (.slice (some ⟨(f 13).y 0,0,none⟩) 3 3) ([B,M,R])]) λf=>ak (.tuple #[iN (dE ([d,e,a]) ([B,M,R]) ([B,M,R]).length),i6 0]) ab.zero a9 [] [] [])))))
theorem QT(R S B M C:Nat)(i:cM R S B M C)(a d e:Nat)(h0:a<R)(h1:d<B)(h2:e<M):aa ZK 121 #[.agg #[iN R,iN S,iN B,iN M,iN C],i6 2,iN (a*16384+d*1024+e)] [] [] N0 (λ_=> .tuple #[iN (kq 2 R B M a d e),i6 0]):=by
 have g:=i.bd;have D:=g.r8;have q:=g.b16;have u:=g.m10;have r:=g.c1;have x:=g.rbm;have z:M*B*R=R*B*M:=by rw[ZR (R*B),ZR R,←ZU]
 have A:R*M*B=R*B*M:=by rw[ZU,ZR M,←ZU]
 have v:eQ B e d<B:=pv i.pow h1;have n:gR R S B M C a d e 0:=⟨by omega,h1,h2,by omega⟩;refine fG Tryz.func121 λw y=>ra (λj=>[(3,pt (B0 j) 0),(6,i6 0),(7,i6 0)]) (λj=>[ob (B0 j) #[iN R,iN S,iN B,iN M,iN C] 23]) λj=>r0 [(0,.m (ls 0 ([iN R,iN S,iN B,iN M,iN C]))),(2,.c [] [] (nF R S B M C i 2 Om)),] [(21,.bool ((decide (((a*16384+d*1024+e:Nat):Int)<0))||(decide (131072≤((a*16384+d*1024+e:Nat):Int)))))] [] ?_;have o:((decide (((a*16384+d*1024+e:Nat):Int)<0))||(decide (131072≤((a*16384+d*1024+e:Nat):Int))))=false:=(by rw[Z0];exact⟨a8 Om,a8 Om⟩);refine cF ((decide (((a*16384+d*1024+e:Nat):Int)<0))||(decide (131072≤((a*16384+d*1024+e:Nat):Int)))) o (rr (λ_=>[(0,.l 0),(2,.t (tv (av .shl 3 (.tmp 24) (.const (u6 6)) (iN (a*16384+d*1024+e)) (u6 6)) (λ_=>dN (b:=((bF a d e 0:Nat):Int)) (fV 6 Dc Om Om) (by unfold bF;omega)))),(3,.c [] [] (th i n)),(8,.s 1)]) (λk=>[(8,pt (B7 k) 0),(9,i6 0)]) [] (λk L=>L++[ob (B7 k) #[iN a,iN d,iN e,i6 0] 46]) λk=>r0 [(4,.l 1),(6,.l 0)] [(37,.bool (decide ((R:Int)≤(a:Int))))] [] ?_);have p:(decide ((R:Int)≤(a:Int)))=false:=a8 Om;exact cF (decide ((R:Int)≤(a:Int))) p (rF [] 39 (r0 [] [(50,i6 2)] [] (rF [] 51 (rF [] 68 (rr (λf=>[(1,.m (ld 1 (iN a))),(3,.m (ld 1 (iN d))),(5,.m (ld 1 (iN e))),(6,g5 cx 2 3 [a,d,e]),(8,.m (ld 0 (iN R))),(10,.m (ld 0 (iN B))),(12,.m (ld 0 (iN M))),(13,g5 cx 3 3 [R,B,M]),(14,.c [2,3] [] (aa.at (rd':=[bO (.slice (some ⟨(f 6).y 0,0,none⟩) 3 3) ([a,d,e]),bO (.slice (some ⟨(f 13).y 0,0,none⟩) 3 3) ([R,B,M])]) (vY (.slice (some ⟨(f 6).y 0,0,none⟩) 3 3) (.slice (some ⟨(f 13).y 0,0,none⟩) 3 3) ([a,d,e]) ([R,B,M]) (by simp) rfl (vW h0 h1 h2 Om)) (bM (λ_ h=>aq.sq h) (bM (λ_ h=>aq.sq h) (λ_ h=>h))))),]) (λ_=>[(6,iN (dE ([a,d,e]) ([R,B,M]) ([R,B,M]).length)),(7,i6 0)]) [6,7] (λf L=>L++[bO (.slice (some ⟨(f 6).y 0,0,none⟩) 3 3) ([a,d,e]),bO (.slice (some ⟨(f 13).y 0,0,none⟩) 3 3) ([R,B,M])]) λf=>ak (.tuple #[iN (dE ([a,d,e]) ([R,B,M]) ([R,B,M]).length),i6 0]) ab.zero a9 [] [] [])))))
theorem QU(R S B M C:Nat)(k:cM R S B M C)(e f d:Nat)(h0:e<R)(h1:f<B)(h2:d<M):aa ZK 121 #[.agg #[iN R,iN S,iN B,iN M,iN C],i6 3,iN (e*16384+f*1024+d)] [] [] N0 (λ_=> .tuple #[iN (kq 3 R B M e f d),i6 0]):=by
 have i:=k.bd;have F:=i.r8;have u:=i.b16;have x:=i.m10;have v:=i.c1;have y:=i.rbm;have A:M*B*R=R*B*M:=by rw[ZR (R*B),ZR R,←ZU]
 have D:R*M*B=R*B*M:=by rw[ZU,ZR M,←ZU]
 have p:eQ B d f<B:=pv k.pow h1;have o:gR R S B M C e f d 0:=⟨by omega,h1,h2,by omega⟩;refine fG Tryz.func121 λw z=>ra (λn=>[(3,pt (B0 n) 0),(6,i6 0),(7,i6 0)]) (λn=>[ob (B0 n) #[iN R,iN S,iN B,iN M,iN C] 23]) λn=>r0 [(0,.m (ls 0 ([iN R,iN S,iN B,iN M,iN C]))),(2,.c [] [] (nF R S B M C k 3 Om)),] [(21,.bool ((decide (((e*16384+f*1024+d:Nat):Int)<0))||(decide (131072≤((e*16384+f*1024+d:Nat):Int)))))] [] ?_;have q:((decide (((e*16384+f*1024+d:Nat):Int)<0))||(decide (131072≤((e*16384+f*1024+d:Nat):Int))))=false:=(by rw[Z0];exact⟨a8 Om,a8 Om⟩);refine cF ((decide (((e*16384+f*1024+d:Nat):Int)<0))||(decide (131072≤((e*16384+f*1024+d:Nat):Int)))) q (rr (λ_=>[(0,.l 0),(2,.t (tv (av .shl 3 (.tmp 24) (.const (u6 6)) (iN (e*16384+f*1024+d)) (u6 6)) (λ_=>dN (b:=((bF e f d 0:Nat):Int)) (fV 6 Dc Om Om) (by unfold bF;omega)))),(3,.c [] [] (th k o)),(8,.s 1)]) (λj=>[(8,pt (B7 j) 0),(9,i6 0)]) [] (λj L=>L++[ob (B7 j) #[iN e,iN f,iN d,i6 0] 46]) λj=>r0 [(4,.l 1),(6,.l 0)] [(37,.bool (decide ((R:Int)≤(e:Int))))] [] ?_);have r:(decide ((R:Int)≤(e:Int)))=false:=a8 Om;refine cF (decide ((R:Int)≤(e:Int))) r (rT [] 39 ?_);have G:d&&& (B-1)≤B-1:=aaX;exact rs [(1,.l 1),(3,.l 1),(5,.l 0),(6,.t (tb (a:=iN B) (b:=i6 1) λ_ _ _ _=>mi (a:=B) (b:=1) Om Om)),(7,.t (tv (av .and 3 (.tmp 43) (.tmp 46) (iN d) (iN (B-1))) (λ_=>Ft _ (B-1) Om Om))),(8,.t (tv (av .xor 3 (.tmp 41) (.tmp 47) (iN f) (iN (d&&& (B-1)))) (λ_=>Fu _ _ Om Om))),(10,.s 1)] 1 (ob (B7 j) #[iN e,iN (eQ B d f),iN d,i6 0] 46) (r0 [] [(50,i6 3)] [] (rF [] 51 (rF [] 68 (rr (λg=>[(1,.m (ld 1 (iN e))),(3,.m (ld 1 (iN (eQ B d f)))),(5,.m (ld 1 (iN d))),(6,g5 cx 2 3 [e,eQ B d f,d]),(8,.m (ld 0 (iN R))),(10,.m (ld 0 (iN B))),(12,.m (ld 0 (iN M))),(13,g5 cx 3 3 [R,B,M]),(14,.c [2,3] [] (aa.at (rd':=[bO (.slice (some ⟨(g 6).y 0,0,none⟩) 3 3) ([e,eQ B d f,d]),bO (.slice (some ⟨(g 13).y 0,0,none⟩) 3 3) ([R,B,M])]) (vY (.slice (some ⟨(g 6).y 0,0,none⟩) 3 3) (.slice (some ⟨(g 13).y 0,0,none⟩) 3 3) ([e,eQ B d f,d]) ([R,B,M]) (by simp) rfl (vW h0 p h2 Om)) (bM (λ_ h=>aq.sq h) (bM (λ_ h=>aq.sq h) (λ_ h=>h))))),]) (λ_=>[(6,iN (dE ([e,eQ B d f,d]) ([R,B,M]) ([R,B,M]).length)),(7,i6 0)]) [6,7] (λg L=>L++[bO (.slice (some ⟨(g 6).y 0,0,none⟩) 3 3) ([e,eQ B d f,d]),bO (.slice (some ⟨(g 13).y 0,0,none⟩) 3 3) ([R,B,M])]) λg=>ak (.tuple #[iN (dE ([e,eQ B d f,d]) ([R,B,M]) ([R,B,M]).length),i6 0]) ab.zero a9 [] [] []))))
theorem QV(R S B M C:Nat)(d:cM R S B M C)(way:Nat)(e:way<4)(a b c:Nat)(h0:a<R)(h1:b<B)(h2:c<M):aa ZK 121 #[.agg #[iN R,iN S,iN B,iN M,iN C],iN way,iN (a*16384+b*1024+c)] [] [] N0 (λ_=> .tuple #[iN (kq way R B M a b c),i6 0]):=by
 match way with
 | 0=>exact QR R S B M C d a b c h0 h1 h2
 | 1=>exact QS R S B M C d a b c h0 h1 h2
 | 2=>exact QT R S B M C d a b c h0 h1 h2
 | 3=>exact QU R S B M C d a b c h0 h1 h2
 | w+4=>exact absurd e Om
end
section
open Go Go.RowKit Go.Shelf
theorem QW{i n:Int}(h:bG i n=false)(h0:0≤i):n≤i:=by
 unfold bG at h;simp only[abc,decide_eq_false_iff_not] at h;omega
structure iD (R S B M C way res:Nat):Prop where
 O:cM R S B M C
 G:way<4
 r64:res≤64
 rp:res<R*B*M
structure Mp where
 R:Nat
 S:Nat
 B:Nat
 M:Nat
 C:Nat
 G:Nat
 res:Nat
 N:List Nat
 Q:List Bool
 I:List Int
 P:Nat
 F:Nat
abbrev Mp.seen(m:Mp):Nat:=m.R*m.B*m.M-m.res
structure ba (m:Mp):Prop where
 ly:iD m.R m.S m.B m.M m.C m.G m.res
 ll:m.N.length=m.R*m.B*m.M-m.res
 ld:m.Q.length=m.R*m.B*m.M
 ls:m.I.length=m.R
 pg:m.P≤m.res
 rk:m.F≤m.S
 lv: ∀i,i<m.R*m.B*m.M-m.res→m.N.getD i 0<m.R*m.B*m.M
 sp: ∀i,i<m.R→m.I.getD i 0= -1∨((m.R:Int)≤m.I.getD i 0∧m.I.getD i 0<((m.R+m.S:Nat):Int))
abbrev aG(g:Nat)(m:Mp)(L:ah):Prop:=∃a b c:Value,L=[ob g #[iN m.R,iN m.S,iN m.B,iN m.M,iN m.C,iN m.G,iN m.res,a,b,c,iN m.P,iN m.F] 137,bO a m.N,fc b m.Q,dq c m.I]
def dF(m:Mp)(r:Nat):Bool:= !(m.I.getD r 0== -1)
def kP(m:Mp)(r:Nat):Int:=bif dF m r then m.I.getD r 0 else 0
def gI(m:Mp)(p:Nat):Nat:=bif dF m (aE m.G m.R m.B m.M p) then(m.I.getD (aE m.G m.R m.B m.M p) 0).toNat else aE m.G m.R m.B m.M p
def bu(m:Mp)(p:Nat):Nat:=gI m p*16384+dU m.G m.R m.B m.M p*1024+dT m.G m.R m.B m.M p
section
variable {m:Mp}
theorem ba.O(h:ba m):cM m.R m.S m.B m.M m.C:=h.ly.O
theorem ba.np(h:ba m):m.R*m.B*m.M≤4096:=h.O.bd.rbm
theorem ba.lines(h:ba m):(m.R*m.B*m.M-m.res)*m.C≤4096:=aab (ZW _ (Nat.sub_le _ _)) h.O.bd.rbmc
theorem QX(h:ba m)(p:Nat):gI m p<m.R+m.S:=by
 have b:=nE (p:=p) (way:=m.G) h.O;unfold gI;cases a:dF m (aE m.G m.R m.B m.M p) with
 | false=>rw[ALcf];omega
 | true=>
  rw[ALct];unfold dF at a;have a:m.I.getD (aE m.G m.R m.B m.M p) 0≠ -1:=by simpa using a
  have:=(h.sp _ b).resolve_left a;omega
theorem qy(h:ba m){p:Nat}(hp:p<m.R*m.B*m.M):gR m.R m.S m.B m.M m.C (gI m p) (dU m.G m.R m.B m.M p) (dT m.G m.R m.B m.M p) 0:=by
 have a:=px (way:=m.G) h.O hp;exact⟨QX h p,a.h1,a.h2,a.h3⟩
theorem QY(h:ba m){p:Nat}(b:dF m (aE m.G m.R m.B m.M p)=true):(hZ m.G m.R m.B m.M p:Int)+(kP m (aE m.G m.R m.B m.M p)-(aE m.G m.R m.B m.M p:Int))*2^14=(bu m p:Int):=by
 have c:=nE (p:=p) (way:=m.G) h.O;have a:=b;unfold dF at a;have a:m.I.getD (aE m.G m.R m.B m.M p) 0≠ -1:=by simpa using a
 have d:=(h.sp _ c).resolve_left a;unfold bu gI kP;rw[b,ALct,ALct,zM];have e:((m.I.getD (aE m.G m.R m.B m.M p) 0).toNat:Int)=m.I.getD (aE m.G m.R m.B m.M p) 0:=aah Om;omega
theorem QZ{p:Nat}(a:dF m (aE m.G m.R m.B m.M p)=false):hZ m.G m.R m.B m.M p=bu m p:=by
 unfold bu gI;rw[a,ALcf,zM]
theorem Q2(h:ba m){r:Nat}(b:r<m.R):0≤kP m r∧kP m r<((m.R+m.S:Nat):Int):=by
 unfold kP;cases a:dF m r with
 | false=>rw[ALcf];omega
 | true=>
  unfold dF at a;have a:m.I.getD r 0≠ -1:=by simpa using a
  have:=(h.sp _ b).resolve_left a;rw[ALct];omega
theorem Fx(h:ba m){p:Nat}(hp:p<m.R*m.B*m.M):hZ m.G m.R m.B m.M p/16384=aE m.G m.R m.B m.M p:=by
 have a:=px (way:=m.G) h.O hp;have b:=h.O.bd.b16;have c:=h.O.bd.m10;have:=a.h1;have:=a.h2;rw[zM];omega
theorem vZ(h:ba m){p:Nat}(hp:p<m.R*m.B*m.M):bu m p<131072:=by
 have a:=qy h hp;have b:=h.O.bd.r8;have c:=h.O.bd.b16;have d:=h.O.bd.m10;have:=a.h0;have:=a.h1;have:=a.h2;unfold bu;omega
theorem zO(h:ba m){n:Nat}(a:n<(m.R*m.B*m.M-m.res)*m.C):n/m.C<m.R*m.B*m.M-m.res:=aaf (by rw[ZR m.C];exact a)
def ao(m:Mp)(n:Nat):Nat:=m.N.getD (n/m.C) 0
def cR(m:Mp)(n:Nat):Nat:=bu m (ao m n)*64+n%m.C
theorem nG(h:ba m){n:Nat}(a:n<(m.R*m.B*m.M-m.res)*m.C):ao m n<m.R*m.B*m.M:=h.lv _ (zO h a)
end
def dz(m:Mp):Bool:= !decide (m.P=m.res)
def dY(m:Mp):Bool:= !decide (m.F=m.S)
def dG(m:Mp):Nat:=if m.P=m.res then 0 else m.seen+m.P
def fo(m:Mp):Nat:=if m.F=m.S then 0 else m.R+m.F
def dB(l:List Nat)(h t k:Nat):List Nat:=((l.take k).map λx=>if x=h then t else x)++l.drop k
theorem Fy(l:List Nat)(h t k:Nat):(dB l h t k).length=l.length:=by unfold dB;rw[ZO,ZQ,ZP,ZY];omega
theorem Q3{l:List Nat}{h t k:Nat}(a:k<l.length):(dB l h t k).getD k 0=l.getD k 0:=by
 unfold dB;rw[ZJ,ZX (by rw[ZQ,ZP];omega),ZQ,ZP,aai,ZJ]
 congr 2;omega
theorem Q4(l:List Nat)(h t:Nat):dB l h t 0=l:=by unfold dB;simp
theorem Q5(l:List Nat)(h t:Nat):dB l h t l.length=l.map λx=>if x=h then t else x:=by unfold dB;simp
theorem Fz{l:List Nat}{h t k:Nat}(a:k<l.length):dB l h t (k+1)=((l.take k).map λx=>if x=h then t else x)++(if l.getD k 0=h then t else l.getD k 0)::l.drop (k+1):=by
 unfold dB;rw[aaA,ZM a,aaJ,aaC,ZJ,ZM a];rfl
theorem Q6{l:List Nat}{h t k:Nat}(a:k<l.length)(e:l.getD k 0=h):(dB l h t k).set k t=dB l h t (k+1):=by
 rw[Fz a,ALifp e];unfold dB;rw[aa7 a,List.set_append_right _ _ (by rw[ZQ,ZP];omega),ZQ,ZP,show k-min k l.length=0 by omega];rfl
theorem Q7{l:List Nat}{h t k:Nat}(a:k<l.length)(e:l.getD k 0≠h):dB l h t k=dB l h t (k+1):=by
 rw[Fz a,ALifn e];unfold dB;rw[aa7 a,ZJ,ZM a];rfl
theorem Q8{l:List Nat}{h t k:Nat}(a:k<l.length):(bif (((dB l h t k).getD k 0:Nat):Int)==(h:Int) then(dB l h t k).set k t else dB l h t k)=dB l h t (k+1):=by
 rw[Q3 a];by_cases e:l.getD k 0=h
 ·rw[show(((l.getD k 0:Nat):Int)==(h:Int))=true by rw[e];exact beq_self_eq_true _,ALct,Q6 a e]
 ·rw[show(((l.getD k 0:Nat):Int)==(h:Int))=false by rw[dj];omega,ALcf,Q7 a e]
def qz(m:Mp):Mp:={m with P:=m.P+1}
def qA(m:Mp):Mp:={m with F:=m.F+1}
def kr(m:Mp)(h t:Nat):Mp:={m with Q:=m.Q.set h true,N:=dB m.N h t m.N.length}
def ju(m:Mp)(r s:Nat):Mp:={m with I:=m.I.set r (s:Int)}
def lF(R S B M C way a:Nat):Mp:=⟨R,S,B,M,C,way,a,ZL (R*B*M-a),ZN (R*B*M) false,ZN R (-1),0,0⟩
end
section
open Go Go.RowKit Go.Shelf
theorem v5(i n:Int):aa ZK 58 #[i6 i,i6 n] [] [] N0 (λ_=> .bool (bG i n)):=by
 exact fG Tryz.func58 λw a=>r0 [] [(4,.bool false)] [] (r0 [] [(4,.bool ((decide (0≤i))&&(decide (i<n))))] [4] (ak (.bool ((decide (0≤i))&&(decide (i<n)))) ab.zero a9 [] [] []))
theorem FA(R S B M C way a:Nat)(b:iD R S B M C way a):aa ZK 106 #[.agg #[iN R,iN S,iN B,iN M,iN C,iN way,iN a]] [] [] N0 (λ_=> .bool true):=by
 have e:=b.O;have i:=b.rp;have h:=e.bd.rbm;have g:=b.G;have f:=b.r64;exact fG Tryz.func106 λw j=>ra (λd=>[(1,pt (B0 d) 0),(2,.bool false)]) (λd=>[ob (B0 d) #[iN R,iN S,iN B,iN M,iN C,iN way,iN a] 25]) λd=>r0 [(1,.m (ls 0 ([iN R,iN S,iN B,iN M,iN C]))),(3,.m (ld 0 (iN way))),(4,.c [] [] (nF R S B M C e way Om)),(7,.m (ld 0 (iN a))),(12,.m (ld 0 (iN a))),(17,.m (ld 0 (iN a))),(19,.m (ls 0 ([iN R,iN S,iN B,iN M,iN C]))),(20,.c [] [] (mU R S B M C e)),] [(2,.bool (((decide (0≤(a:Int)))&&(decide ((a:Int)≤64)))&&(decide ((a:Int)<(((R*B)*M:Nat):Int)))))] [2] (ak (.bool (((decide (0≤(a:Int)))&&(decide ((a:Int)≤64)))&&(decide ((a:Int)<(((R*B)*M:Nat):Int))))) ab.zero (by exact ALca Value.bool (by simp only[ZT,decide_eq_true_eq,true_and];omega)) [] [] [])
theorem qB(R S B M C way d:Nat)(e:iD R S B M C way d):aa ZK 76 #[.agg #[iN R,iN S,iN B,iN M,iN C,iN way,iN d]] [] [] N0 (λ_=>iN (((R*B)*M)-d)):=by
 have g:=e.O;have k:=e.rp;have j:=g.bd.rbm;have i:=e.G;have h:=e.r64;exact fG Tryz.func76 λw m=>ra (λf=>[(1,pt (B0 f) 0),(2,i6 0)]) (λf=>[ob (B0 f) #[iN R,iN S,iN B,iN M,iN C,iN way,iN d] 25]) λf=>rF [(0,.l 0),(1,.c [] [] (FA R S B M C way d e))] 5 (r0 [(1,.l 0),(2,.c [] [] (mU R S B M C g)),(4,.l 0),(5,.t (tb (a:=iN ((R*B)*M)) (b:=iN d) λ_ _ _ _=>mi (a:=(R*B)*M) (b:=d) Om Om))] [(2,iN (((R*B)*M)-d))] [2] (lf ab.zero [] [] []))
theorem v7(R S B M C way a:Nat)(b:iD R S B M C way a):aa ZK 39 #[.agg #[iN R,iN S,iN B,iN M,iN C,iN way,iN a]] [] [] N0 (λ_=>iN ((((R*B)*M)-a)*C)):=by
 have e:=b.O;have i:=b.rp;have h:=e.bd.rbm;have g:=b.G;have f:=b.r64;have k:=aab (ZW C (Nat.sub_le (R*B*M) a)) e.bd.rbmc;exact fG Tryz.func39 λw j=>ra (λd=>[(1,pt (B0 d) 0),(2,i6 0)]) (λd=>[ob (B0 d) #[iN R,iN S,iN B,iN M,iN C,iN way,iN a] 25]) λd=>r0 [(0,.l 0),(1,.c [] [] (qB R S B M C way a b)),(4,.l 0),(5,ml (((R*B)*M)-a) C)] [(2,iN ((((R*B)*M)-a)*C))] [2] (lf ab.zero [] [] [])
theorem jv(g:Nat)(m:Mp)(a:ba m):aa ZK 63 #[pt g 0] [pk (aG g m)] [0] (λ_=>[pk (aG g m)]) (λ_=> .agg #[iN m.R,iN m.S,iN m.B,iN m.M,iN m.C,iN m.G,iN m.res]):=aa.pkZ Tryz.func63 λL e=>by
 obtain⟨q,r,t,rfl⟩:=e;refine⟨[1,2,3],λ_=>[bO q m.N,fc r m.Q,dq t m.I],?_,rfl,λE=>⟨rfl,rfl,⟨_,_,_,rfl⟩⟩⟩;have d:=a.O;have c:=a.ly;have j:=a.np;have h:=a.ll;have f:=a.ld;have i:=a.ls;have k:=a.pg;have o:=a.rk;have p:=c.rp;have n:=d.bd.r8;exact fG Tryz.func63 λw u=>ra (λb=>[(2,pt (B0 b) 0)]) (λb=>[ob (B0 b) #[i6 0,i6 0,i6 0,i6 0,i6 0,i6 0,i6 0] 25]) λb=>rs [(3,.l 0),(4,.s 4)] 4 (ob (B0 b) #[iN m.R,iN m.S,iN m.B,iN m.M,iN m.C,iN m.G,iN m.res] 25) (lf ab.zero [1,2,3] [(0,0)] [4])
theorem py(i n:Nat)(h:i<n):aa ZK 58 #[iN i,iN n] [] [] N0 (λ_=> .bool true):=by
 have a:=v5 i n;rwa [mn.2 ⟨by omega,by omega⟩] at a
theorem zP(g:Nat)(m:Mp)(a:ba m)(p:Nat)(hp:p<m.R*m.B*m.M):aa ZK 25 #[pt g 0,iN p] [pk (aG g m)] [0] (λ_=>[pk (aG g m)]) (λ_=> .bool (m.Q.getD p false)):=aa.pkZ Tryz.func25 λL f=>by
 obtain⟨r,b,s,rfl⟩:=f;refine⟨[1,2,3],λ_=>[bO r m.N,fc b m.Q,dq s m.I],?_,rfl,λE=>⟨rfl,rfl,⟨_,_,_,rfl⟩⟩⟩;have e:=a.O;have d:=a.ly;have k:=a.np;have i:=a.ll;have h:=a.ld;have j:=a.ls;have l:=a.pg;have o:=a.rk;have q:=d.rp;have n:=e.bd.r8;exact fG Tryz.func25 λw t=>r0 [] [(4,.bool false)] [] (r0 [(4,.m (ld 0 (b))),(5,fw kO b m.Q 2),(6,.c [] [] (py p m.Q.length Om)),(11,.m (ld 0 (b))),(13,cU kO b m.Q 2 p),(14,fa kO b m.Q 2 p 0)] [(4,.bool (m.Q.getD p false))] [4] (lf ab.zero [1,2,3] [(0,0)] []))
theorem Q9(g:Nat)(m:Mp)(a:ba m)(p:Nat)(hp:p<m.R*m.B*m.M):aa ZK 86 #[pt g 0,iN p] [pk (aG g m)] [0] (λ_=>[pk (aG g m)]) (λ_=> .bool (decide (p<m.R*m.B*m.M-m.res+m.P)&& !m.Q.getD p false)):=aa.pkZ Tryz.func86 λL i=>by
 obtain⟨t,f,u,rfl⟩:=i;refine⟨[1,2,3],λ_=>[bO t m.N,fc f m.Q,dq u m.I],?_,rfl,λE=>⟨rfl,rfl,⟨_,_,_,rfl⟩⟩⟩;have h:=a.O;have b:=a.ly;have n:=a.np;have k:=a.ll;have j:=a.ld;have l:=a.ls;have o:=a.pg;have r:=a.rk;have s:=b.rp;have q:=h.bd.r8;refine fG Tryz.func86 λw v=>r0 [] [(4,.bool false)] [] ?_;cases e:(bG (p:Int) (((((m.R*m.B)*m.M)-m.res)+m.P:Nat):Int))
 case true=>
  exact r0 [(4,.m (ls 0 ([iN m.R,iN m.S,iN m.B,iN m.M,iN m.C,iN m.G,iN m.res]))),(5,.c [] [] (qB m.R m.S m.B m.M m.C m.G m.res b)),(9,.m (ld 0 (iN m.P))),(10,ad (((m.R*m.B)*m.M)-m.res) m.P),(11,.c [] [] (aa.v ((v5 (p:Int) (((((m.R*m.B)*m.M)-m.res)+m.P:Nat):Int))) λ_=>ALca Value.bool (show(bG (p:Int) (((((m.R*m.B)*m.M)-m.res)+m.P:Nat):Int))=true from e))),(16,.m (ld 0 (f))),(18,cU kO f m.Q 2 p),(19,fa kO f m.Q 2 p 0),] [(4,.bool (!(m.Q.getD p false)))] [4] (ak (.bool (!(m.Q.getD p false))) ab.zero (by(rw[cd (by have:=mn.1 e;omega)];rfl)) [1,2,3] [(0,0)] [])
 exact r0 [(4,.m (ls 0 ([iN m.R,iN m.S,iN m.B,iN m.M,iN m.C,iN m.G,iN m.res]))),(5,.c [] [] (qB m.R m.S m.B m.M m.C m.G m.res b)),(9,.m (ld 0 (iN m.P))),(10,ad (((m.R*m.B)*m.M)-m.res) m.P),(11,.c [] [] (aa.v ((v5 (p:Int) (((((m.R*m.B)*m.M)-m.res)+m.P:Nat):Int))) λ_=>ALca Value.bool (show(bG (p:Int) (((((m.R*m.B)*m.M)-m.res)+m.P:Nat):Int))=false from e))),(13,.d),(14,.d),(15,.d),(16,.d),(17,.d),(18,.d),(19,.d),(20,.d)] [(4,.bool false)] [4] (ak (.bool false) ab.zero (by(rw[a8 (by have:=QW e Om;omega)];rfl)) [1,2,3] [(0,0)] [])
theorem FB(g:Nat)(m:Mp)(b:ba m)(h i a:Value)(r:Nat)(x:r<m.R):aa ZK 26 #[pt g 0,iN r] [ob g #[iN m.R,iN m.S,iN m.B,iN m.M,iN m.C,iN m.G,iN m.res,h,i,a,iN m.P,iN m.F] 137,bO h m.N,fc i m.Q,dq a m.I] [1,2,3] (λ_=>[bO h m.N,fc i m.Q,dq a m.I]) (λ_=> .tuple #[i6 (kP m r),.bool (dF m r)]):=by
 have j:=b.O;have f:=b.ly;have p:=b.np;have n:=b.ll;have k:=b.ld;have o:=b.ls;have q:=b.pg;have t:=b.rk;have u:=f.rp;have s:=j.bd.r8;refine fG Tryz.func26 λw v=>r0 [] [(4,i6 0),(5,.bool false)] [] (r0 [(4,.m (ld 0 (a))),(5,fw kI a m.I 3),(6,.c [] [] (py r m.I.length Om)),(12,.m (ld 0 (a))),(14,cU kI a m.I 3 r),(15,fa kI a m.I 3 r 0)] [(23,.bool ((m.I.getD r 0)==(-1)))] [] ?_);refine c0 (m.I.getD r 0) (-1) (λe d=>?_) λe d=>?_
 ·exact r0 [] [(4,i6 0),(5,.bool false)] [4,5] (ak (.tuple #[i6 0,.bool false]) ab.zero (by unfold kP dF;(repeat (rw[e]));rfl) [1,2,3] [(0,0)] [])
 exact r0 [(3,.l 0),(5,cU kI a m.I 3 r),(6,fa kI a m.I 3 r 0)] [(4,i6 (m.I.getD r 0)),(5,.bool true)] [4,5] (ak (.tuple #[i6 (m.I.getD r 0),.bool true]) ab.zero (by unfold kP dF;(repeat (rw[e]));rfl) [1,2,3] [(0,0)] [])
theorem FC(g:Nat)(m:Mp)(e:ba m)(r:Nat)(f:r<m.R):aa ZK 26 #[pt g 0,iN r] [pk (aG g m)] [0] (λ_=>[pk (aG g m)]) (λ_=> .tuple #[i6 (kP m r),.bool (dF m r)]):=aa.pkZ Tryz.func26 λL d=>by
 obtain⟨a,b,c,rfl⟩:=d;exact⟨[1,2,3],λ_=>[bO a m.N,fc b m.Q,dq c m.I],FB g m e a b c r f,rfl,λE=>⟨rfl,rfl,⟨_,_,_,rfl⟩⟩⟩
theorem FD(g:Nat)(m:Mp)(a:ba m)(f h i:Value)(p:Nat)(hp:p<m.R*m.B*m.M):aa ZK 99 #[pt g 0,iN p] [ob g #[iN m.R,iN m.S,iN m.B,iN m.M,iN m.C,iN m.G,iN m.res,f,h,i,iN m.P,iN m.F] 137,bO f m.N,fc h m.Q,dq i m.I] [1,2,3] (λ_=>[bO f m.N,fc h m.Q,dq i m.I]) (λ_=> .tuple #[iN (bu m p),iN (aE m.G m.R m.B m.M p),i6 0]):=by
 have e:=a.O;have d:=a.ly;have u:=a.np;have r:=a.ll;have q:=a.ld;have s:=a.ls;have v:=a.pg;have y:=a.rk;have z:=d.rp;have x:=e.bd.r8;have l:=d.G;have D:=QL (way:=m.G) e hp;have B:=Fx a hp;have k:=nE (p:=p) (way:=m.G) e;have A:=Q2 a k;have o:=vZ a hp;refine fG Tryz.func99 λw C=>r0 [] [(4,i6 0),(5,i6 0),(6,i6 0)] [] (r0 [(4,.m (ls 0 ([iN m.R,iN m.S,iN m.B,iN m.M,iN m.C]))),(9,.m (ld 0 (iN m.G))),(11,.c [] [] (Fw m.R m.S m.B m.M m.C e m.G Om p Om)),] [(7,iN (hZ m.G m.R m.B m.M p)),(6,i6 0)] [6] (rF [] 26 (r0 [(1,.t (tv (av .shr 3 (.tmp 28) (.const (u6 14)) (iN (hZ m.G m.R m.B m.M p)) (u6 14)) (λ_=>dN (b:=((aE m.G m.R m.B m.M p:Nat):Int)) (iQ 14 Dc) Om)))] [(5,iN (aE m.G m.R m.B m.M p))] [5] (r0 [(2,.c [0,1,2,3] [1,2,3] (FB g m a f h i (aE m.G m.R m.B m.M p) Om))] [(8,i6 (kP m (aE m.G m.R m.B m.M p))),(9,.bool (dF m (aE m.G m.R m.B m.M p)))] [] (r0 [] [(36,.bool (dF m (aE m.G m.R m.B m.M p)))] [] ?_)))));refine cB (dF m (aE m.G m.R m.B m.M p)) (λj=>?_) λj=>?_
 ·have n:=QY a j;exact r0 [(3,sI (kP m (aE m.G m.R m.B m.M p)) (((aE m.G m.R m.B m.M p:Nat):Int)) Om),(4,.t (tv (av .shl 3 (.tmp 40) (.const (u6 14)) (i6 ((kP m (aE m.G m.R m.B m.M p))-((aE m.G m.R m.B m.M p:Nat):Int))) (u6 14)) (λ_=>fV 14 Dc Om Om))),(5,.t (tv (av .add 3 (.tmp 37) (.tmp 41) (iN (hZ m.G m.R m.B m.M p)) (i6 ((kP m (aE m.G m.R m.B m.M p)-(aE m.G m.R m.B m.M p:Int))*2^14))) (λ_=>dN (rE Om Om) n)))] [(7,iN (bu m p))] [7] (r0 [] [(4,iN (bu m p)),(5,iN (aE m.G m.R m.B m.M p)),(6,i6 0)] [4,5,6] (ak (.tuple #[iN (bu m p),iN (aE m.G m.R m.B m.M p),i6 0]) ab.zero a9 [1,2,3] [(0,0)] []))
 exact r0 [] [(4,iN (hZ m.G m.R m.B m.M p)),(5,iN (aE m.G m.R m.B m.M p)),(6,i6 0)] [4,5,6] (ak (.tuple #[iN (hZ m.G m.R m.B m.M p),iN (aE m.G m.R m.B m.M p),i6 0]) ab.zero (by(rw[QZ j])) [1,2,3] [(0,0)] [])
theorem FE(g:Nat)(m:Mp)(a:ba m)(p:Nat)(hp:p<m.R*m.B*m.M):aa ZK 64 #[pt g 0,iN p] [pk (aG g m)] [0] (λ_=>[pk (aG g m)]) (λ_=> .tuple #[iN (bu m p),i6 0]):=aa.pkZ Tryz.func64 λL i=>by
 obtain⟨d,e,f,rfl⟩:=i;refine⟨[1,2,3],λ_=>[bO d m.N,fc e m.Q,dq f m.I],?_,rfl,λE=>⟨rfl,rfl,⟨_,_,_,rfl⟩⟩⟩;have h:=a.O;have b:=a.ly;have n:=a.np;have k:=a.ll;have j:=a.ld;have l:=a.ls;have o:=a.pg;have r:=a.rk;have s:=b.rp;have q:=h.bd.r8;exact fG Tryz.func64 λw t=>r0 [] [(4,i6 0),(5,i6 0)] [] (r0 [(2,.c [0,1,2,3] [1,2,3] (FD g m a d e f p Om))] [(6,iN (bu m p)),(8,i6 0)] [] (r0 [] [(4,iN (bu m p)),(5,i6 0)] [4,5] (lf ab.zero [1,2,3] [(0,0)] [])))
theorem zQ(g:Nat)(m:Mp)(e:ba m)(n:Nat)(p:n<(m.R*m.B*m.M-m.res)*m.C):aa ZK 220 #[pt g 0,iN n] [pk (aG g m)] [0] (λ_=>[pk (aG g m)]) (λ_=> .tuple #[iN (cR m n),iN (ao m n),iN (aE m.G m.R m.B m.M (ao m n)),i6 0]):=aa.pkZ Tryz.func220 λL s=>by
 obtain⟨h,q,r,rfl⟩:=s;refine⟨[1,2,3],λ_=>[bO h m.N,fc q m.Q,dq r m.I],?_,rfl,λE=>⟨rfl,rfl,⟨_,_,_,rfl⟩⟩⟩;have i:=e.O;have f:=e.ly;have B:=e.np;have y:=e.ll;have x:=e.ld;have z:=e.ls;have C:=e.pg;have F:=e.rk;have G:=f.rp;have D:=i.bd.r8;have A:=e.lines;have j:=i.bd.c1;have k:=i.bd.c64;have I:=zO e p;have u:m.N.getD (n/m.C) 0<m.R*m.B*m.M:=nG e p;have v:=vZ e u;have o:=ZV n j;exact fG Tryz.func220 λw H=>r0 [] [(4,i6 0),(5,i6 0),(6,i6 0),(7,i6 0)] [] (rF [(4,.l 0),(5,.c [] [] (v7 m.R m.S m.B m.M m.C m.G m.res f)),(6,.c [] [] (py n ((((m.R*m.B)*m.M)-m.res)*m.C) Om))] 16 (r0 [(3,.m (ld 0 (h))),(10,.m (ld 0 (iN m.C))),(11,.t (tb (a:=iN n) (b:=iN m.C) λ_ _ _ _=>oT (a:=n) (d:=m.C) Om Om)),(12,cU cx h m.N 1 (n/m.C)),(13,fa cx h m.N 1 (n/m.C) 0)] [(5,iN (m.N.getD (n/m.C) 0))] [5] (r0 [(2,.c [0,1,2,3] [1,2,3] (FD g m e h q r (m.N.getD (n/m.C) 0) Om))] [(8,iN (bu m (m.N.getD (n/m.C) 0))),(6,iN (aE m.G m.R m.B m.M (m.N.getD (n/m.C) 0))),(7,i6 0)] [6,7] (rF [] 39 (r0 [(1,.t (tv (av .shl 3 (.tmp 41) (.const (u6 6)) (iN (bu m (m.N.getD (n/m.C) 0))) (u6 6)) (λ_=>dN (b:=((bu m (m.N.getD (n/m.C) 0)*64:Nat):Int)) (fV 6 Dc Om Om) Om))),(8,.m (ld 0 (iN m.C))),(9,.t (tb (a:=iN n) (b:=iN m.C) λ_ _ _ _=>n8 (a:=n) (d:=m.C) Om)),(10,.t (tv (av .or 3 (.tmp 42) (.tmp 50) (iN (bu m (m.N.getD (n/m.C) 0)*64)) (iN (n%m.C))) (λ_=>dN (b:=((cR m n:Nat):Int)) (sF 6 64 rfl Om Om Om Om Om) (by unfold cR ao;omega)))),] [(4,iN (cR m n)),(5,iN (m.N.getD (n/m.C) 0)),(6,iN (aE m.G m.R m.B m.M (m.N.getD (n/m.C) 0))),(7,i6 0)] [4,5,6,7] (ak (.tuple #[iN (cR m n),iN (m.N.getD (n/m.C) 0),iN (aE m.G m.R m.B m.M (m.N.getD (n/m.C) 0)),i6 0]) ab.zero a9 [1,2,3] [(0,0)] []))))))
theorem Ra(g:Nat)(m:Mp)(a:ba m)(n:Int)(j:bG n (((m.R*m.B*m.M-m.res)*m.C:Nat):Int)=false):aa ZK 220 #[pt g 0,i6 n] [pk (aG g m)] [0] (λ_=>[pk (aG g m)]) (λ_=> .tuple #[i6 0,i6 0,i6 0,i6 12]):=aa.pkZ Tryz.func220 λL e=>by
 obtain⟨t,u,v,rfl⟩:=e;refine⟨[1,2,3],λ_=>[bO t m.N,fc u m.Q,dq v m.I],?_,rfl,λE=>⟨rfl,rfl,⟨_,_,_,rfl⟩⟩⟩;have d:=a.O;have b:=a.ly;have o:=a.np;have h:=a.ll;have f:=a.ld;have i:=a.ls;have p:=a.pg;have r:=a.rk;have s:=b.rp;have q:=d.bd.r8;have k:=a.lines;exact fG Tryz.func220 λw x=>r0 [] [(4,i6 0),(5,i6 0),(6,i6 0),(7,i6 0)] [] (rT [(4,.l 0),(5,.c [] [] (v7 m.R m.S m.B m.M m.C m.G m.res b)),(6,.c [] [] (aa.v ((v5 n (((((m.R*m.B)*m.M)-m.res)*m.C:Nat):Int))) λ_=>ALca Value.bool (show(bG n (((((m.R*m.B)*m.M)-m.res)*m.C:Nat):Int))=false from(by exact j))))] 16 (r0 [] [(4,i6 0),(5,i6 0),(6,i6 0),(7,i6 12)] [4,5,6,7] (lf ab.zero [1,2,3] [(0,0)] [])))
theorem zR(g:Nat)(m:Mp)(a:ba m)(f h i:Value):aa ZK 264 #[pt g 0] [ob g #[iN m.R,iN m.S,iN m.B,iN m.M,iN m.C,iN m.G,iN m.res,f,h,i,iN m.P,iN m.F] 137,bO f m.N,fc h m.Q,dq i m.I] [1,2,3] (λ_=>[bO f m.N,fc h m.Q,dq i m.I]) (λ_=> .tuple #[iN (dG m),.bool (dz m)]):=by
 have k:=a.O;have b:=a.ly;have q:=a.np;have o:=a.ll;have n:=a.ld;have p:=a.ls;have r:=a.pg;have t:=a.rk;have u:=b.rp;have s:=k.bd.r8;refine fG Tryz.func264 λw v=>r0 [] [(2,i6 0),(3,.bool false)] [] (r0 [(3,.l 0),(8,.l 0)] [(13,.bool ((m.P:Int)==(m.res:Int)))] [] ?_);refine c0 (m.P:Int) (m.res:Int) (λj d=>?_) λj d=>?_
 ·exact r0 [] [(2,i6 0),(3,.bool false)] [2,3] (ak (.tuple #[i6 0,.bool false]) ab.zero (by by_cases e:m.P=m.res<;>first | (exfalso;omega) | (simp [dG,dz,e])) [1,2,3] [(0,0)] [])
 exact r0 [(3,.m (ls 0 ([iN m.R,iN m.S,iN m.B,iN m.M,iN m.C,iN m.G,iN m.res]))),(4,.c [] [] (qB m.R m.S m.B m.M m.C m.G m.res b)),(8,.m (ld 0 (iN m.P))),(9,ad (((m.R*m.B)*m.M)-m.res) m.P),] [(2,iN ((((m.R*m.B)*m.M)-m.res)+m.P)),(3,.bool true)] [2,3] (ak (.tuple #[iN ((((m.R*m.B)*m.M)-m.res)+m.P),.bool true]) ab.zero (by by_cases e:m.P=m.res<;>first | (exfalso;omega) | (simp [dG,dz,e])) [1,2,3] [(0,0)] [])
theorem Rb(g:Nat)(m:Mp)(e:ba m):aa ZK 264 #[pt g 0] [pk (aG g m)] [0] (λ_=>[pk (aG g m)]) (λ_=> .tuple #[iN (dG m),.bool (dz m)]):=aa.pkZ Tryz.func264 λL d=>by
 obtain⟨a,b,c,rfl⟩:=d;exact⟨[1,2,3],λ_=>[bO a m.N,fc b m.Q,dq c m.I],zR g m e a b c,rfl,λE=>⟨rfl,rfl,⟨_,_,_,rfl⟩⟩⟩
theorem FF(g:Nat)(m:Mp)(a:ba m)(e f h:Value):aa ZK 281 #[pt g 0] [ob g #[iN m.R,iN m.S,iN m.B,iN m.M,iN m.C,iN m.G,iN m.res,e,f,h,iN m.P,iN m.F] 137,bO e m.N,fc f m.Q,dq h m.I] [1,2,3] (λ_=>[bO e m.N,fc f m.Q,dq h m.I]) (λ_=> .tuple #[iN (fo m),.bool (dY m)]):=by
 have j:=a.O;have d:=a.ly;have p:=a.np;have n:=a.ll;have k:=a.ld;have o:=a.ls;have q:=a.pg;have s:=a.rk;have t:=d.rp;have r:=j.bd.r8;refine fG Tryz.func281 λw u=>r0 [] [(2,i6 0),(3,.bool false)] [] (r0 [(3,.l 0),(9,.l 0)] [(14,.bool ((m.F:Int)==(m.S:Int)))] [] ?_);refine c0 (m.F:Int) (m.S:Int) (λi b=>?_) λi b=>?_
 ·exact r0 [] [(2,i6 0),(3,.bool false)] [2,3] (ak (.tuple #[i6 0,.bool false]) ab.zero (by by_cases c:m.F=m.S<;>first | (exfalso;omega) | (simp [fo,dY,c])) [1,2,3] [(0,0)] [])
 exact r0 [(5,.m (ld 0 (iN m.R))),(9,.m (ld 0 (iN m.F))),(10,ad m.R m.F),] [(2,iN (m.R+m.F)),(3,.bool true)] [2,3] (ak (.tuple #[iN (m.R+m.F),.bool true]) ab.zero (by by_cases c:m.F=m.S<;>first | (exfalso;omega) | (simp [fo,dY,c])) [1,2,3] [(0,0)] [])
end
section
open Go Go.RowKit Go.Shelf
theorem Rc(g:Nat)(m:Mp)(a:ba m)(f:dz m=true):aa ZK 265 #[pt g 0] [pk (aG g m)] [0] (λ_=>[pk (aG g (qz m))]) (λ_=> .tuple #[iN (dG m),i6 0]):=aa.pkZ Tryz.func265 λL k=>by
 obtain⟨b,d,e,rfl⟩:=k;refine⟨[0,1,2,3],λ_=>[ob g #[iN m.R,iN m.S,iN m.B,iN m.M,iN m.C,iN m.G,iN m.res,b,d,e,iN (m.P+1),iN m.F] 137,bO b m.N,fc d m.Q,dq e m.I],?_,rfl,λE=>⟨rfl,rfl,⟨_,_,_,rfl⟩⟩⟩;have j:=a.O;have h:=a.ly;have q:=a.np;have o:=a.ll;have n:=a.ld;have p:=a.ls;have r:=a.pg;have u:=a.rk;have v:=h.rp;have t:=j.bd.r8;refine fG Tryz.func265 λw x=>r0 [] [(2,i6 0),(3,i6 0)] [] (r0 [(1,.c [0,1,2,3] [1,2,3] (zR g m a b d e))] [(4,iN (dG m)),(5,.bool (dz m))] [] (r0 [] [(12,.bool (!(dz m)))] [] ?_));have i:(!(dz m))=false:=(by rw[f];rfl);exact cF (!(dz m)) i (rs [(3,.l 0),(4,ad m.P 1),(7,.s 0)] 0 (ob g #[iN m.R,iN m.S,iN m.B,iN m.M,iN m.C,iN m.G,iN m.res,b,d,e,iN (m.P+1),iN m.F] 137) (r0 [] [(2,iN (dG m)),(3,i6 0)] [2,3] (lf ab.zero [0,1,2,3] [] [])))
theorem Rd(g:Nat)(m:Mp)(a:ba m)(b:dz m=false):aa ZK 265 #[pt g 0] [pk (aG g m)] [0] (λ_=>[pk (aG g m)]) (λ_=> .tuple #[i6 0,i6 52]):=aa.pkZ Tryz.func265 λL k=>by
 obtain⟨e,f,h,rfl⟩:=k;refine⟨[1,2,3],λ_=>[bO e m.N,fc f m.Q,dq h m.I],?_,rfl,λE=>⟨rfl,rfl,⟨_,_,_,rfl⟩⟩⟩;have j:=a.O;have d:=a.ly;have p:=a.np;have n:=a.ll;have l:=a.ld;have o:=a.ls;have q:=a.pg;have s:=a.rk;have t:=d.rp;have r:=j.bd.r8;refine fG Tryz.func265 λw u=>r0 [] [(2,i6 0),(3,i6 0)] [] (r0 [(1,.c [0,1,2,3] [1,2,3] (zR g m a e f h))] [(4,iN (dG m)),(5,.bool (dz m))] [] (r0 [] [(12,.bool (!(dz m)))] [] ?_));have i:(!(dz m))=true:=(by rw[b];rfl);exact cT (!(dz m)) i (r0 [] [(2,i6 0),(3,i6 52)] [2,3] (lf ab.zero [1,2,3] [(0,0)] []))
theorem Rf(g:Nat)(m:Mp)(a:ba m)(f:dY m=true):aa ZK 266 #[pt g 0] [pk (aG g m)] [0] (λ_=>[pk (aG g (qA m))]) (λ_=> .tuple #[iN (fo m),i6 0]):=aa.pkZ Tryz.func266 λL k=>by
 obtain⟨b,d,e,rfl⟩:=k;refine⟨[0,1,2,3],λ_=>[ob g #[iN m.R,iN m.S,iN m.B,iN m.M,iN m.C,iN m.G,iN m.res,b,d,e,iN m.P,iN (m.F+1)] 137,bO b m.N,fc d m.Q,dq e m.I],?_,rfl,λE=>⟨rfl,rfl,⟨_,_,_,rfl⟩⟩⟩;have j:=a.O;have h:=a.ly;have q:=a.np;have o:=a.ll;have n:=a.ld;have p:=a.ls;have r:=a.pg;have u:=a.rk;have v:=h.rp;have t:=j.bd.r8;refine fG Tryz.func266 λw x=>r0 [] [(2,i6 0),(3,i6 0)] [] (r0 [(1,.c [0,1,2,3] [1,2,3] (FF g m a b d e))] [(4,iN (fo m)),(5,.bool (dY m))] [] (r0 [] [(12,.bool (!(dY m)))] [] ?_));have i:(!(dY m))=false:=(by rw[f];rfl);exact cF (!(dY m)) i (rs [(3,.l 0),(4,ad m.F 1),(7,.s 0)] 0 (ob g #[iN m.R,iN m.S,iN m.B,iN m.M,iN m.C,iN m.G,iN m.res,b,d,e,iN m.P,iN (m.F+1)] 137) (r0 [] [(2,iN (fo m)),(3,i6 0)] [2,3] (lf ab.zero [0,1,2,3] [] [])))
theorem Rg(g:Nat)(m:Mp)(a:ba m)(b:dY m=false):aa ZK 266 #[pt g 0] [pk (aG g m)] [0] (λ_=>[pk (aG g m)]) (λ_=> .tuple #[i6 0,i6 52]):=aa.pkZ Tryz.func266 λL k=>by
 obtain⟨e,f,h,rfl⟩:=k;refine⟨[1,2,3],λ_=>[bO e m.N,fc f m.Q,dq h m.I],?_,rfl,λE=>⟨rfl,rfl,⟨_,_,_,rfl⟩⟩⟩;have j:=a.O;have d:=a.ly;have p:=a.np;have n:=a.ll;have l:=a.ld;have o:=a.ls;have q:=a.pg;have s:=a.rk;have t:=d.rp;have r:=j.bd.r8;refine fG Tryz.func266 λw u=>r0 [] [(2,i6 0),(3,i6 0)] [] (r0 [(1,.c [0,1,2,3] [1,2,3] (FF g m a e f h))] [(4,iN (fo m)),(5,.bool (dY m))] [] (r0 [] [(12,.bool (!(dY m)))] [] ?_));have i:(!(dY m))=true:=(by rw[b];rfl);exact cT (!(dY m)) i (r0 [] [(2,i6 0),(3,i6 52)] [2,3] (lf ab.zero [1,2,3] [(0,0)] []))
theorem Rh(g:Nat)(m:Mp)(f:ba m)(h t:Nat)(O:h<m.R*m.B*m.M)(K:m.R*m.B*m.M-m.res≤t)(M:t<m.R*m.B*m.M-m.res+m.P)(x:m.Q.getD h false=false)(p:m.Q.getD t false=false)(C:h≠t):aa ZK 245 #[pt g 0,iN h,iN t] [pk (aG g m)] [0] (λ_=>[pk (aG g (kr m h t))]) (λ_=>i6 0):=aa.pkZ Tryz.func245 λL v=>by
 obtain⟨e,d,q,rfl⟩:=v;refine⟨[1,2,3],λ_=>[bO e (dB m.N h t m.N.length),fc d (m.Q.set h true),dq q m.I],?_,rfl,λE=>⟨rfl,rfl,⟨_,_,_,rfl⟩⟩⟩;have u:=f.O;have n:=f.ly;have D:=f.np;have A:=f.ll;have z:=f.ld;have B:=f.ls;have F:=f.pg;have H:=f.rk;have J:=n.rp;have G:=u.bd.r8;refine fG Tryz.func245 λw N=>r0 [] [(6,i6 0)] [] (rF [(4,.m (ld 0 (d))),(5,fw kO d m.Q 2),(6,.c [] [] (py h m.Q.length Om)),(13,.m (ls 0 ([iN m.R,iN m.S,iN m.B,iN m.M,iN m.C,iN m.G,iN m.res]))),(14,.c [] [] (qB m.R m.S m.B m.M m.C m.G m.res n)),(15,.t (tb (a:=iN t) (b:=iN (((m.R*m.B)*m.M)-m.res)) λ_ _ _ _=>mi (a:=t) (b:=((m.R*m.B)*m.M)-m.res) Om Om)),(19,.m (ld 0 (iN m.P))),(20,.c [] [] (py (t-(((m.R*m.B)*m.M)-m.res)) m.P Om)),] 9 (r0 [(3,.m (ld 0 (d))),(5,cU kO d m.Q 2 h),(6,fa kO d m.Q 2 h 0),(11,.m (ld 0 (d))),(13,cU kO d m.Q 2 t),(14,fa kO d m.Q 2 t 0),] [(33,.bool (((m.Q.getD h false)||(m.Q.getD t false))||((h:Int)==(t:Int))))] [] ?_));have r:(((m.Q.getD h false)||(m.Q.getD t false))||((h:Int)==(t:Int)))=false:=by rw[x,p];simpa using(show(h:Int)≠(t:Int) by omega)
 refine cF (((m.Q.getD h false)||(m.Q.getD t false))||((h:Int)==(t:Int))) r (rs [(3,.l 0),(5,cU kO d m.Q 2 h),(6,sx kO d m.Q 2 h 0 true (.bool true) Kr)] 2 (fc d (m.Q.set h true)) (r0 [(3,.l 0),(4,fw cx e m.N 1)] [(64,e),(65,iN m.N.length),(66,i6 0)] [] ?_));refine lq (λk=>k≤m.N.length) (λk=>[(66,iN k)]) (λk L=>L.set 1 (bO e (dB m.N h t k))) (λk=>m.N.length-k) 0 Om Kr (by rw[Q4];kernel_rfl) (λk y=>?_);have I:=Fy m.N h t k;refine r0 [] [(67,.bool (decide ((k:Int)<(m.N.length:Int))))] [] ?_;refine cj (k:Int) (m.N.length:Int) (λs o=>?_) λs o=>?_
 ·refine r0 [(1,cU cx e (dB m.N h t k) 1 k),(2,fa cx e (dB m.N h t k) 1 k 0)] [(7,iN k),(8,iN ((dB m.N h t k).getD k 0))] [] (r0 [] [(73,.bool (((((dB m.N h t k).getD k 0):Nat):Int)==(h:Int)))] [] ?_);refine cJ (((((dB m.N h t k).getD k 0):Nat):Int)==(h:Int)) N0 (λc=>[ob g #[iN m.R,iN m.S,iN m.B,iN m.M,iN m.C,iN m.G,iN m.res,e,d,q,iN m.P,iN m.F] 137,bO e (bif c then(dB m.N h t k).set k t else dB m.N h t k),fc d (m.Q.set h true),dq q m.I]) (λi=>?_) (λi=>?_) ?_
  ·have j:=eq_of_beq i;refine rs [(3,.l 0),(6,cU cx e (dB m.N h t k) 1 k),(7,sx cx e (dB m.N h t k) 1 k 0 t (iN t) Kr)] 1 (bO e ((dB m.N h t k).set k t)) ?_;exact cm Kr [0,1,2,3] Kr
  ·have j:=ne_of_beq_false i;exact cm Kr [0,1,2,3] Kr
  exact r0 [(0,ad k 1)] [(66,iN (k+1))] [66] (le (k+1) Om Om Kr [0,1,2,3] (by rw[←Q8 Om];kernel_rfl))
 obtain rfl:m.N.length=k:=by omega
 exact lx (r0 [] [(6,i6 0)] [6] (lf ab.zero [1,2,3] [(0,0)] []))
theorem Ri(g:Nat)(m:Mp)(d:ba m)(r t:Nat)(C:r<m.R)(x:m.R≤t)(y:t<m.R+m.F)(hs:dF m r=false):aa ZK 246 #[pt g 0,iN r,iN t] [pk (aG g m)] [0] (λ_=>[pk (aG g (ju m r t))]) (λ_=>i6 0):=aa.pkZ Tryz.func246 λL j=>by
 obtain⟨z,A,e,rfl⟩:=j;refine⟨[1,2,3],λ_=>[bO z m.N,fc A m.Q,dq e (m.I.set r (t:Int))],?_,rfl,λE=>⟨rfl,rfl,⟨_,_,_,rfl⟩⟩⟩;have i:=d.O;have f:=d.ly;have p:=d.np;have n:=d.ll;have k:=d.ld;have o:=d.ls;have q:=d.pg;have u:=d.rk;have v:=f.rp;have s:=i.bd.r8;refine fG Tryz.func246 λw B=>r0 [] [(6,i6 0)] [] (rF [(4,.m (ld 0 (e))),(5,fw kI e m.I 3),(6,.c [] [] (py r m.I.length Om)),(15,.m (ld 0 (iN m.R))),(16,.t (tb (a:=iN t) (b:=iN m.R) λ_ _ _ _=>mi (a:=t) (b:=m.R) Om Om)),(20,.m (ld 0 (iN m.F))),(21,.c [] [] (py (t-m.R) m.F Om)),] 7 (r0 [(3,.l 0),(5,cU kI e m.I 3 r),(6,fa kI e m.I 3 r 0)] [(32,.bool ((m.I.getD r 0) != (-1)))] [] ?_));have h:((m.I.getD r 0) != (-1))=false:=by exact hs
 exact cF ((m.I.getD r 0) != (-1)) h (rs [(3,.l 0),(6,cU kI e m.I 3 r),(7,sx kI e m.I 3 r 0 (t:Int) (iN t) Kr)] 3 (dq e (m.I.set r (t:Int))) (r0 [] [(6,i6 0)] [6] (lf ab.zero [1,2,3] [(0,0)] [])))
theorem Rj(R S B M C way res:Nat)(hly:iD R S B M C way res):aa ZK 175 #[.agg #[iN R,iN S,iN B,iN M,iN C,iN way,iN res]] [] [] (λE=>[ob (E.y 0) #[iN R,iN S,iN B,iN M,iN C,iN way,iN res,(E.val 0),(E.val 1),(E.val 2),i6 0,i6 0] 137,bO (E.val 0) (ZL (R*B*M-res)),fc (E.val 1) (ZN ((R*B)*M) false),dq (E.val 2) (ZN R (-1))]) (λE=> .tuple #[pt ((E.y 0)) 0,i6 0]):=by
 have hG:=hly.O
 have hrp:=hly.rp
 have hnp:=hG.bd.rbm
 have hway:=hly.G
 have hr64:=hly.r64
 have hlines:=hG.bd.r8
 refine fG Tryz.func175 λw cs=>ra (λq1=>[(1,pt (B0 q1) 0),(2,.pointer none),(3,i6 0)]) (λq1=>[ob (B0 q1) #[iN R,iN S,iN B,iN M,iN C,iN way,iN res] 25]) λq1=>rF [(0,.l 0),(1,.c [] [] (FA R S B M C way res hly))] 8 (rr (λ_=>[(0,.l 0),(2,.l 0),(3,.c [] [] (mU R S B M C hG)),(4,sG kO 1 ((R*B)*M))]) (λq3=>[(4,pt (B6 q3) 0)]) [] (λq3 L=>L++[fc (.slice (some ⟨(q3 4).y 0,0,none⟩) ((R*B)*M) ((R*B)*M)) (ZN ((R*B)*M) false),ob (B6 q3) #[iN R,iN S,iN B,iN M,iN C,iN way,iN res,.slice none 0 0,.slice (some ⟨(q3 4).y 0,0,none⟩) ((R*B)*M) ((R*B)*M),.slice none 0 0,i6 0,i6 0] 137]) λq3=>r0 [(0,.l 0),(1,.c [] [] (qB R S B M C way res hly))] [(17,iN (((R*B)*M)-res)),(18,i6 0)] [] (cz cx ?_))
 refine nk (λk _=>k≤(R*B*M-res)) (λk _=>[(18,iN k)]) (λk vC4_7 L=>(L.set 2 (ob (B6 q3) #[iN R,iN S,iN B,iN M,iN C,iN way,iN res,vC4_7,.slice (some ⟨(q3 4).y 0,0,none⟩) ((R*B)*M) ((R*B)*M),.slice none 0 0,i6 0,i6 0] 137)).set 3 (bO vC4_7 (ZL k))) (λk _=>(R*B*M-res)-k) 0 (.slice none 0 0) Om Kr Kr (λk vC4_7 hk5=>?_)
 have hkl:(ZL k).length=k:=ZZ
 refine r0 [] [(19,.bool (decide ((k:Int)<((((R*B)*M)-res:Nat):Int))))] [] ?_
 refine cj (k:Int) ((((R*B)*M)-res:Nat):Int) (λh7 dh7=>?_) λh7 dh7=>?_
 ·exact r0 [] [(5,iN k)] [] (rr (λq9=>[(4,.l 2),(6,.m (bs 4 1)),(7,fF cx (vC4_7) (ZL k) 3 4 ([k])),(10,.m (fT 2 3 (bO ((q9 7).val 0) ((ZL k)++([k]))) ((q9 7).val 0) λbs h=>aq.one ((λ_ h=>h) bs h)))]) N0 [] (λq9 L=>(L.set 2 (ob (B6 q3) #[iN R,iN S,iN B,iN M,iN C,iN way,iN res,(q9 7).val 0,.slice (some ⟨(q3 4).y 0,0,none⟩) ((R*B)*M) ((R*B)*M),.slice none 0 0,i6 0,i6 0] 137)).set 3 (bO ((q9 7).val 0) ((ZL k)++([k])))++[ob (B6 q9) #[iN k] 3]) λq9=>r0 [(0,ad k 1)] [(18,iN (k+1))] [18] (mf (k+1) ((q9 7).val 0) Om Om Kr [0,1,2,3] (by rw[aak];kernel_rfl)))
 obtain rfl:k=(R*B*M-res):=by omega
 refine mh ?_
 refine r0 [(2,.l 0)] [(34,iN R),(35,i6 0)] [] (cz kI ?_)
 refine nk (λj _=>j≤R) (λj _=>[(35,iN j)]) (λj vC4_9 L=>(L.set 2 (ob (B6 q3) #[iN R,iN S,iN B,iN M,iN C,iN way,iN res,vC4_7,.slice (some ⟨(q3 4).y 0,0,none⟩) ((R*B)*M) ((R*B)*M),vC4_9,i6 0,i6 0] 137)).set 4 (dq vC4_9 (ZN j (-1)))) (λj _=>R-j) 0 (.slice none 0 0) Om Kr Kr (λj vC4_9 hk12=>?_)
 have hjl:(ZN j (-1:Int)).length=j:=Z4
 refine r0 [] [(36,.bool (decide ((j:Int)<(R:Int))))] [] ?_
 refine cj (j:Int) (R:Int) (λh14 dh14=>?_) λh14 dh14=>?_
 ·exact rr (λq15=>[(4,.l 2),(5,.m (bs 5 1)),(6,fF kI (vC4_9) (ZN j (-1)) 4 5 ([(-1)])),(9,.m (fT 2 4 (dq ((q15 6).val 0) ((ZN j (-1))++([(-1)]))) ((q15 6).val 0) λbs h=>aq.one ((λ_ h=>h) bs h)))]) N0 [] (λq15 L=>(L.set 2 (ob (B6 q3) #[iN R,iN S,iN B,iN M,iN C,iN way,iN res,vC4_7,.slice (some ⟨(q3 4).y 0,0,none⟩) ((R*B)*M) ((R*B)*M),(q15 6).val 0,i6 0,i6 0] 137)).set 4 (dq ((q15 6).val 0) ((ZN j (-1))++([(-1)])))++[ob (B5 q15) #[i6 (-1)] 3]) λq15=>r0 [(0,ad j 1)] [(35,iN (j+1))] [35] (mf (j+1) ((q15 6).val 0) Om Om Kr [0,1,2,3,4] (by rw[List.replicate_succ'];kernel_rfl))
 obtain rfl:R=j:=by omega
 refine mh ?_
 exact r0 [] [(2,pt (B6 q3) 0),(3,i6 0)] [2,3] (lf (.l [(q3 6).y 0] [] [vC4_7,.slice (some ⟨(q3 4).y 0,0,none⟩) ((R*B)*M) ((R*B)*M),vC4_9]) [2,3,1,4] [] [])
theorem Rk(R S B M C way a:Nat)(b:iD R S B M C way a):aa ZK 175 #[.agg #[iN R,iN S,iN B,iN M,iN C,iN way,iN a]] [] [] (λE=>[pk (aG (E.y 0) (lF R S B M C way a))]) (λE=> .tuple #[pt ((E.y 0)) 0,i6 0]):=(Rj R S B M C way a b).outs λE d c=>td ⟨_,_,_,rfl⟩ c
end
section
open Go Go.RowKit Go.Shelf
theorem mo(a b:Nat):((a:Int)==(b:Int))=decide (a=b):=by
 by_cases h:a=b
 ·subst h;rw[cd rfl];exact beq_self_eq_true _
 ·rw[a8 h,dj];omega
theorem zS(a b:Nat):decide ((a:Int)≤(b:Int))=decide (a≤b):=by
 by_cases h:a≤b
 ·rw[cd h,cd Om]
 ·rw[a8 h,a8 Om]
structure Jb where
 A:Nat
 fr:Nat
 tg:Nat
 nx:Nat
def kt:Jb:=⟨0,0,0,0⟩
def eJ(a B M C:Nat):Nat:=match a with
 | 0=>0
 | 1=>C
 | _=>B*M*C
structure oy (m:Mp) (fr t nx:Nat):Prop where
 hf:fr<m.R*m.B*m.M
 ht:t<m.R*m.B*m.M
 ne:fr≠t
 df:m.Q.getD fr false=false
 dt:m.Q.getD t false=false
 t0:m.R*m.B*m.M-m.res≤t
 t1:t<m.R*m.B*m.M-m.res+m.P
 nx:nx≤m.C
 f1:fr<m.R*m.B*m.M-m.res+m.P
structure oz (m:Mp) (fr t nx:Nat):Prop where
 hf:fr<m.R
 hs:dF m fr=false
 t0:m.R≤t
 t1:t<m.R+m.F
 nx:nx≤m.B*m.M*m.C
structure tm (m:Mp) (j:Jb):Prop where
 k:j=kt∨(j.A=1∧oy m j.fr j.tg j.nx)∨(j.A=2∧oz m j.fr j.tg j.nx)
def iE(m:Mp)(r i:Nat):Nat:=bF r (i/m.C/m.M) (i/m.C%m.M) (i%m.C)
def aU(m:Mp)(a w i:Nat):Nat:=match a with
 | 1=>bu m w*64+i
 | _=>iE m w i
def fe(m:Mp)(n:Nat):Nat:=(dU m.G m.R m.B m.M (ao m n)*m.M+dT m.G m.R m.B m.M (ao m n))*m.C+n%m.C
def aH(m:Mp)(j:Jb)(n:Nat):Nat:=match j.A with
 | 0=>cR m n
 | 1=>if ao m n=j.fr then(if n%m.C<j.nx then aU m 1 j.tg (n%m.C) else cR m n) else cR m n
 | _=>if aE m.G m.R m.B m.M (ao m n)=j.fr then(if fe m n<j.nx then aU m 2 j.tg (fe m n) else cR m n) else cR m n
section
variable {m:Mp}
theorem nH(h:ba m){r i:Nat}(c:r<m.R+m.S)(b:i<m.B*m.M*m.C):gR m.R m.S m.B m.M m.C r (i/m.C/m.M) (i/m.C%m.M) (i%m.C):=by
 have a:=h.O.bd;refine⟨c,?_,ZV _ a.m1,ZV _ a.c1⟩;exact aaf (ZR m.B m.M▸aaf (ZR (m.B*m.M) m.C▸b))
theorem tn(h:ba m){n:Nat}(d:n<(m.R*m.B*m.M-m.res)*m.C):fe m n<m.B*m.M*m.C:=by
 have a:=qy h (nG h d);have e:=ZV n h.O.bd.c1;have b:dU m.G m.R m.B m.M (ao m n)*m.M+dT m.G m.R m.B m.M (ao m n)<m.B*m.M:=by
  have:(dU m.G m.R m.B m.M (ao m n)+1)*m.M≤m.B*m.M:=ZW _ a.h1;rw[aa4] at this;have:=a.h2;omega
 have c:(dU m.G m.R m.B m.M (ao m n)*m.M+dT m.G m.R m.B m.M (ao m n)+1)*m.C≤m.B*m.M*m.C:=ZW _ b;rw[aa4] at c;unfold fe;omega
theorem pz(m:Mp)(n:Nat):cR m n=bF (gI m (ao m n)) (dU m.G m.R m.B m.M (ao m n)) (dT m.G m.R m.B m.M (ao m n)) (n%m.C):=by unfold cR bu bF;omega
theorem qC(h:ba m){n:Nat}(b:n<(m.R*m.B*m.M-m.res)*m.C):gR m.R m.S m.B m.M m.C (gI m (ao m n)) (dU m.G m.R m.B m.M (ao m n)) (dT m.G m.R m.B m.M (ao m n)) (n%m.C):=by
 have a:=qy h (nG h b);exact⟨a.h0,a.h1,a.h2,ZV _ h.O.bd.c1⟩
end
end
section
open Go Go.RowKit Go.Shelf
theorem FG(i n:Int):aa ZK 187 #[i6 i,i6 n] [] [] N0 (λ_=> .bool (bG i n)):=by
 exact fG Tryz.func187 λw a=>r0 [] [(4,.bool false)] [] (r0 [] [(4,.bool ((decide (0≤i))&&(decide (i<n))))] [4] (ak (.bool ((decide (0≤i))&&(decide (i<n)))) ab.zero a9 [] [] []))
theorem oA(i n:Nat)(h:i<n):aa ZK 187 #[iN i,iN n] [] [] N0 (λ_=> .bool true):=by
 have a:=FG i n;rwa [mn.2 ⟨by omega,by omega⟩] at a
theorem Rl(d t f R S B M C way a:Nat)(c:iD R S B M C way a):aa ZK 188 #[.agg #[i6 0,iN d,iN t,iN f],.agg #[iN R,iN S,iN B,iN M,iN C,iN way,iN a]] [] [] N0 (λ_=>i6 0):=by
 have g:=c.O;have e:=g.bd.bmc;exact fG Tryz.func188 λw h=>ra (λb=>[(2,pt (B0 b) 0),(3,pt (B1 b) 0),(4,i6 0)]) (λb=>[ob (B0 b) #[i6 0,iN d,iN t,iN f] 70,ob (B1 b) #[iN R,iN S,iN B,iN M,iN C,iN way,iN a] 25]) λb=>r0 [(1,.l 0)] [(6,i6 0)] [] (rF [] 7 (rF [] 12 (r0 [] [(4,i6 0)] [4] (lf ab.zero [] [] []))))
theorem zT(d t f R S B M C way a:Nat)(c:iD R S B M C way a):aa ZK 188 #[.agg #[i6 1,iN d,iN t,iN f],.agg #[iN R,iN S,iN B,iN M,iN C,iN way,iN a]] [] [] N0 (λ_=>iN C):=by
 have g:=c.O;have e:=g.bd.bmc;exact fG Tryz.func188 λw h=>ra (λb=>[(2,pt (B0 b) 0),(3,pt (B1 b) 0),(4,i6 0)]) (λb=>[ob (B0 b) #[i6 1,iN d,iN t,iN f] 70,ob (B1 b) #[iN R,iN S,iN B,iN M,iN C,iN way,iN a] 25]) λb=>r0 [(1,.l 0)] [(6,i6 1)] [] (rT [] 7 (r0 [(2,.l 1)] [(4,iN C)] [4] (lf ab.zero [] [] [])))
theorem zU(e t h R S B M C way a:Nat)(d:iD R S B M C way a):aa ZK 188 #[.agg #[i6 2,iN e,iN t,iN h],.agg #[iN R,iN S,iN B,iN M,iN C,iN way,iN a]] [] [] N0 (λ_=>iN ((B*M)*C)):=by
 have f:=d.O;have g:=f.bd.bmc;exact fG Tryz.func188 λw i=>ra (λb=>[(2,pt (B0 b) 0),(3,pt (B1 b) 0),(4,i6 0)]) (λb=>[ob (B0 b) #[i6 2,iN e,iN t,iN h] 70,ob (B1 b) #[iN R,iN S,iN B,iN M,iN C,iN way,iN a] 25]) λb=>r0 [(1,.l 0)] [(6,i6 2)] [] (rF [] 7 (rT [] 12 (r0 [(1,.l 1),(2,.c [] [] (QB R S B M C f))] [(4,iN ((B*M)*C))] [4] (lf ab.zero [] [] []))))
theorem Rm(f t b R S B M C way a:Nat)(e:iD R S B M C way a):aa ZK 211 #[.agg #[i6 1,iN f,iN t,iN b],.agg #[iN R,iN S,iN B,iN M,iN C,iN way,iN a]] [] [] N0 (λ_=> .bool (decide (b=C))):=by
 have h:=e.O;have g:=h.bd.bmc;exact fG Tryz.func211 λw i=>ra (λd=>[(2,pt (B0 d) 0),(3,pt (B1 d) 0),(4,.bool false)]) (λd=>[ob (B0 d) #[i6 1,iN f,iN t,iN b] 70,ob (B1 d) #[iN R,iN S,iN B,iN M,iN C,iN way,iN a] 25]) λd=>r0 [(1,.m (ld 0 (i6 1))),(5,.m (ld 0 (iN b))),(6,.m (ls 0 ([i6 1,iN f,iN t,iN b]))),(7,.m (ls 1 ([iN R,iN S,iN B,iN M,iN C,iN way,iN a]))),(8,.c [] [] (zT f t b R S B M C way a e)),] [(4,.bool ((b:Int)==(C:Int)))] [4] (ak (.bool ((b:Int)==(C:Int))) ab.zero (by exact ALca Value.bool (mo b C)) [] [] [])
theorem Rn(f t b R S B M C way a:Nat)(e:iD R S B M C way a):aa ZK 211 #[.agg #[i6 2,iN f,iN t,iN b],.agg #[iN R,iN S,iN B,iN M,iN C,iN way,iN a]] [] [] N0 (λ_=> .bool (decide (b=B*M*C))):=by
 have h:=e.O;have g:=h.bd.bmc;exact fG Tryz.func211 λw i=>ra (λd=>[(2,pt (B0 d) 0),(3,pt (B1 d) 0),(4,.bool false)]) (λd=>[ob (B0 d) #[i6 2,iN f,iN t,iN b] 70,ob (B1 d) #[iN R,iN S,iN B,iN M,iN C,iN way,iN a] 25]) λd=>r0 [(1,.m (ld 0 (i6 2))),(5,.m (ld 0 (iN b))),(6,.m (ls 0 ([i6 2,iN f,iN t,iN b]))),(7,.m (ls 1 ([iN R,iN S,iN B,iN M,iN C,iN way,iN a]))),(8,.c [] [] (zU f t b R S B M C way a e)),] [(4,.bool ((b:Int)==(((B*M)*C:Nat):Int)))] [4] (ak (.bool ((b:Int)==(((B*M)*C:Nat):Int))) ab.zero (by exact ALca Value.bool (mo b (B*M*C))) [] [] [])
theorem Ro(g:Nat)(m:Mp)(d:ba m)(a t h:Nat)(e:oy m a t h):aa ZK 222 #[.agg #[i6 1,iN a,iN t,iN h],pt g 0] [pk (aG g m)] [0] (λ_=>[pk (aG g m)]) (λ_=> .bool true):=by
 have b:=d.O;have p:=d.ly;have r:=d.np;have i:=b.bd.bmc;have k:=b.bd.c1;have q:=b.bd.m1;have j:=b.bd.c64;have s:=b.bd.r8;have l:=e.hf;have n:=e.ht;have o:=e.ne;exact fG Tryz.func222 λw u=>ra (λf=>[(2,pt (B0 f) 0),(4,.bool false)]) (λf=>[ob (B0 f) #[i6 1,iN a,iN t,iN h] 70]) λf=>r0 [(1,.c [0] [0] (jv g m d)),(3,.c [] [] (mU m.R m.S m.B m.M m.C b))] [(5,iN ((m.R*m.B)*m.M))] [] (r0 [(1,.m (ld 1 (iN a))),(3,.c [] [] (oA a ((m.R*m.B)*m.M) Om)),(6,.m (ld 1 (iN t))),(8,.c [] [] (oA t ((m.R*m.B)*m.M) Om)),(12,.m (ld 1 (iN a))),(14,.m (ld 1 (iN t))),(15,.t (tk (show Value.bool ((a:Int) != (t:Int))= .bool true from ALca Value.bool (by simp;omega)))),(20,.m (ld 1 (iN a))),(21,.c [0] [0] (aa.v ((zP g m d a Om)) λ_=>ALca Value.bool (show((m.Q.getD a false))=false from(by exact e.df)))),(27,.m (ld 1 (iN t))),(28,.c [0] [0] (aa.v ((zP g m d t Om)) λ_=>ALca Value.bool (show((m.Q.getD t false))=false from(by exact e.dt)))),] [(4,.bool true)] [4] (lf ab.zero [0] [] []))
theorem Rq(g:Nat)(m:Mp)(e:ba m)(d t k:Nat)(h:oz m d t k):aa ZK 223 #[.agg #[i6 2,iN d,iN t,iN k],pt g 0] [pk (aG g m)] [0] (λ_=>[pk (aG g m)]) (λ_=> .bool true):=by
 have f:=e.O;have x:=e.ly;have z:=e.np;have n:=f.bd.bmc;have p:=f.bd.c1;have y:=f.bd.m1;have o:=f.bd.c64;have A:=f.bd.r8;have q:=h.hf;have r:=h.t0;have u:=h.t1;have v:=e.rk;exact fG Tryz.func223 λw B=>ra (λi=>[(2,pt (B0 i) 0),(4,.bool false)]) (λi=>[ob (B0 i) #[i6 2,iN d,iN t,iN k] 70]) λi=>rr (λ_=>[(1,.c [0] [0] (jv g m e)),(4,.s 2)]) (λj=>[(5,pt (B3 j) 0)]) [] (λj L=>L++[ob (B3 j) #[iN m.R,iN m.S,iN m.B,iN m.M,iN m.C] 23]) λj=>r0 [(2,.l 1),(3,.c [0] [0] (FC g m e d Om))] [(7,.bool (dF m d))] [] (r0 [(1,.m (ld 1 (iN d))),(3,.m (ld 2 (iN m.R))),(4,.c [] [] (oA d m.R Om)),(11,.m (ld 1 (iN t))),(13,.m (ld 2 (iN m.R))),(14,.t (tb (a:=iN t) (b:=iN m.R) λ_ _ _ _=>mi (a:=t) (b:=m.R) Om Om)),(16,.m (ld 2 (iN m.S))),(17,.c [] [] (oA (t-m.R) m.S Om))] [(4,.bool ((!(dF m d))&&true))] [4] (ak (.bool ((!(dF m d))&&true)) ab.zero (by rw[h.hs];rfl) [0] [] []))
theorem Rr(g:Nat)(m:Mp)(b:ba m):aa ZK 186 #[.agg #[i6 0,i6 0,i6 0,i6 0],pt g 0] [pk (aG g m)] [0] (λ_=>[pk (aG g m)]) (λ_=> .bool true):=by
 have a:=b.O;have f:=b.ly;have n:=b.np;have h:=a.bd.bmc;have j:=a.bd.c1;have k:=a.bd.m1;have i:=a.bd.c64;have o:=a.bd.r8;exact fG Tryz.func186 λw p=>ra (λd=>[(2,pt (B0 d) 0),(4,.bool false)]) (λd=>[ob (B0 d) #[i6 0,i6 0,i6 0,i6 0] 70]) λd=>r0 [(1,.l 1),(2,.l 1),(4,.c [0] [0] (jv g m b)),(5,.c [] [] (Rl 0 0 0 m.R m.S m.B m.M m.C m.G m.res f)),(7,.c [] [] (FG 0 1))] [(5,.bool (bG 0 1))] [] (r0 [(1,.l 1)] [(15,i6 0)] [] (rT [] 16 (r0 [(0,.l 1),(2,.e)] [(4,.bool (0==0&&(0==0&&(0==0&&(0==0&&true)))))] [4] (ak (.bool (0==0&&(0==0&&(0==0&&(0==0&&true))))) ab.zero a9 [0] [] []))))
theorem FH(g:Nat)(m:Mp)(e:ba m)(b t a:Nat)(k:oy m b t a):aa ZK 186 #[.agg #[i6 1,iN b,iN t,iN a],pt g 0] [pk (aG g m)] [0] (λ_=>[pk (aG g m)]) (λ_=> .bool true):=by
 have d:=e.O;have h:=e.ly;have q:=e.np;have i:=d.bd.bmc;have n:=d.bd.c1;have p:=d.bd.m1;have j:=d.bd.c64;have r:=d.bd.r8;have o:=k.nx;exact fG Tryz.func186 λw s=>ra (λf=>[(2,pt (B0 f) 0),(4,.bool false)]) (λf=>[ob (B0 f) #[i6 1,iN b,iN t,iN a] 70]) λf=>r0 [(1,.l 1),(2,.l 1),(4,.c [0] [0] (jv g m e)),(5,.c [] [] (zT b t a m.R m.S m.B m.M m.C m.G m.res h)),(6,ad m.C 1),(7,.c [] [] (oA a (m.C+1) Om))] [(5,.bool true)] [] (r0 [(1,.l 1)] [(15,i6 1)] [] (rF [] 16 (rT [] 21 (r0 [(2,.l 1),(4,.c [0] [0] (Ro g m e b t a k))] [(4,.bool true)] [4] (lf ab.zero [0] [] [])))))
theorem FI(g:Nat)(m:Mp)(e:ba m)(b t a:Nat)(k:oz m b t a):aa ZK 186 #[.agg #[i6 2,iN b,iN t,iN a],pt g 0] [pk (aG g m)] [0] (λ_=>[pk (aG g m)]) (λ_=> .bool true):=by
 have d:=e.O;have h:=e.ly;have q:=e.np;have i:=d.bd.bmc;have n:=d.bd.c1;have p:=d.bd.m1;have j:=d.bd.c64;have r:=d.bd.r8;have o:=k.nx;exact fG Tryz.func186 λw s=>ra (λf=>[(2,pt (B0 f) 0),(4,.bool false)]) (λf=>[ob (B0 f) #[i6 2,iN b,iN t,iN a] 70]) λf=>r0 [(1,.l 1),(2,.l 1),(4,.c [0] [0] (jv g m e)),(5,.c [] [] (zU b t a m.R m.S m.B m.M m.C m.G m.res h)),(6,ad ((m.B*m.M)*m.C) 1),(7,.c [] [] (oA a (((m.B*m.M)*m.C)+1) Om))] [(5,.bool true)] [] (r0 [(1,.l 1)] [(15,i6 2)] [] (rF [] 16 (rF [] 21 (rT [] 29 (r0 [(2,.l 1),(4,.c [0] [0] (Rq g m e b t a k))] [(4,.bool true)] [4] (lf ab.zero [0] [] []))))))
theorem Rs(m:Mp)(j:ba m)(r i:Nat)(q:r<m.R+m.S)(o:i<m.B*m.M*m.C):aa ZK 189 #[.agg #[iN m.R,iN m.S,iN m.B,iN m.M,iN m.C],iN r,iN i] [] [] N0 (λ_=> .tuple #[iN (iE m r i),i6 0]):=by
 have f:=j.O;have h:=f.bd.bmc;have k:=f.bd.c1;have p:=f.bd.m1;have n:=abz i m.C;exact fG Tryz.func189 λw u=>ra (λg=>[(3,pt (B0 g) 0),(6,i6 0),(7,i6 0)]) (λg=>[ob (B0 g) #[iN m.R,iN m.S,iN m.B,iN m.M,iN m.C] 23]) λg=>rr (λ_=>[(3,.l 0),(4,.t (tb (a:=iN i) (b:=iN m.C) λ_ _ _ _=>n8 (a:=i) (d:=m.C) Om)),(7,.s 1)]) (λe=>[(8,pt (B6 e) 0)]) [] (λe L=>L++[ob (B6 e) #[iN r,i6 0,i6 0,iN (i%m.C)] 46]) λe=>r0 [(2,.l 0),(3,.t (tb (a:=iN i) (b:=iN m.C) λ_ _ _ _=>oT (a:=i) (d:=m.C) Om Om))] [(2,iN (i/m.C))] [2] (rs [(2,.m (ld 0 (iN m.M))),(3,.t (tb (a:=iN (i/m.C)) (b:=iN m.M) λ_ _ _ _=>n8 (a:=i/m.C) (d:=m.M) Om)),(6,.m (ld 0 (iN m.M))),(7,.t (tb (a:=iN (i/m.C)) (b:=iN m.M) λ_ _ _ _=>oT (a:=i/m.C) (d:=m.M) Om Om)),(9,.s 1),(11,.s 1)] 1 (ob (B6 e) #[iN r,iN ((i/m.C)/m.M),iN ((i/m.C)%m.M),iN (i%m.C)] 46) (r0 [(0,.l 0),(1,.l 1),(2,.c [] [] (tf f (nH j q o)))] [(6,iN (bF r ((i/m.C)/m.M) ((i/m.C)%m.M) (i%m.C))),(7,i6 0)] [6,7] (ak (.tuple #[iN (bF r ((i/m.C)/m.M) ((i/m.C)%m.M) (i%m.C)),i6 0]) ab.zero a9 [] [] [])))
theorem FJ(g:Nat)(m:Mp)(d:ba m)(a t e:Nat)(q:oy m a t e)(p i:Nat)(hp:p<m.R*m.B*m.M)(y:i<m.C):aa ZK 144 #[.agg #[i6 1,iN a,iN t,iN e],pt g 0,iN p,iN i] [pk (aG g m)] [0] (λ_=>[pk (aG g m)]) (λ_=> .tuple #[iN (bu m p*64+i),i6 0]):=by
 have f:=d.O;have j:=d.ly;have u:=d.np;have k:=f.bd.bmc;have o:=f.bd.c1;have s:=f.bd.m1;have n:=f.bd.c64;have v:=f.bd.r8;have r:=vZ d hp;exact fG Tryz.func144 λw x=>ra (λh=>[(4,pt (B0 h) 0),(8,i6 0),(9,i6 0)]) (λh=>[ob (B0 h) #[i6 1,iN a,iN t,iN e] 70]) λh=>rF [(0,.m (ls 1 ([i6 1,iN a,iN t,iN e]))),(2,.c [0] [0] (FH g m d a t e q)),(6,.m (ls 1 ([i6 1,iN a,iN t,iN e]))),(8,.c [0] [0] (jv g m d)),(9,.c [] [] (zT a t e m.R m.S m.B m.M m.C m.G m.res j)),(10,.c [] [] (oA i m.C Om))] 24 (rF [(1,.l 1)] 27 (r0 [(2,.c [0] [0] (FE g m d p Om))] [(10,iN (bu m p)),(11,i6 0)] [] (rF [] 43 (r0 [(1,.t (tv (av .shl 3 (.tmp 45) (.const (u6 6)) (iN (bu m p)) (u6 6)) (λ_=>dN (b:=((bu m p*64:Nat):Int)) (fV 6 Dc Om Om) Om))),(3,.t (tv (av .or 3 (.tmp 46) (.tmp 47) (iN (bu m p*64)) (iN i)) (λ_=>dN (b:=((bu m p*64+i:Nat):Int)) (sF 6 64 rfl Om Om Om Om Om) Om)))] [(8,iN (bu m p*64+i)),(9,i6 0)] [8,9] (lf ab.zero [0] [] [])))))
theorem FK(g:Nat)(m:Mp)(b:ba m)(a t d:Nat)(o:oz m a t d)(r i:Nat)(x:r<m.R+m.S)(v:i<m.B*m.M*m.C):aa ZK 144 #[.agg #[i6 2,iN a,iN t,iN d],pt g 0,iN r,iN i] [pk (aG g m)] [0] (λ_=>[pk (aG g m)]) (λ_=> .tuple #[iN (iE m r i),i6 0]):=by
 have e:=b.O;have h:=b.ly;have q:=b.np;have j:=e.bd.bmc;have n:=e.bd.c1;have p:=e.bd.m1;have k:=e.bd.c64;have s:=e.bd.r8;exact fG Tryz.func144 λw u=>ra (λf=>[(4,pt (B0 f) 0),(8,i6 0),(9,i6 0)]) (λf=>[ob (B0 f) #[i6 2,iN a,iN t,iN d] 70]) λf=>rF [(0,.m (ls 1 ([i6 2,iN a,iN t,iN d]))),(2,.c [0] [0] (FI g m b a t d o)),(6,.m (ls 1 ([i6 2,iN a,iN t,iN d]))),(8,.c [0] [0] (jv g m b)),(9,.c [] [] (zU a t d m.R m.S m.B m.M m.C m.G m.res h)),(10,.c [] [] (oA i ((m.B*m.M)*m.C) Om))] 24 (rT [(1,.l 1)] 27 (r0 [(1,.c [0] [0] (jv g m b)),(5,.c [] [] (Rs m b r i Om Om))] [(8,iN (iE m r i)),(9,i6 0)] [8,9] (lf ab.zero [0] [] [])))
theorem Ru(g:Nat)(m:Mp)(d:ba m)(a t e:Nat)(k:oy m a t e)(i:Nat)(v:i<m.C):aa ZK 119 #[.agg #[i6 1,iN a,iN t,iN e],pt g 0,iN i] [pk (aG g m)] [0] (λ_=>[pk (aG g m)]) (λ_=> .tuple #[iN (bu m a*64+i),i6 0]):=by
 have b:=d.O;have p:=d.ly;have r:=d.np;have h:=b.bd.bmc;have n:=b.bd.c1;have q:=b.bd.m1;have j:=b.bd.c64;have s:=b.bd.r8;have o:=k.hf;exact fG Tryz.func119 λw u=>ra (λf=>[(3,pt (B0 f) 0),(6,i6 0),(7,i6 0)]) (λf=>[ob (B0 f) #[i6 1,iN a,iN t,iN e] 70]) λf=>r0 [(0,.l 1),(3,.l 1),(5,.c [0] [0] (FJ g m d a t e k a i Om Om))] [(6,iN (bu m a*64+i)),(7,i6 0)] [6,7] (lf ab.zero [0] [] [])
theorem Rv(g:Nat)(m:Mp)(d:ba m)(a t e:Nat)(k:oz m a t e)(i:Nat)(v:i<m.B*m.M*m.C):aa ZK 119 #[.agg #[i6 2,iN a,iN t,iN e],pt g 0,iN i] [pk (aG g m)] [0] (λ_=>[pk (aG g m)]) (λ_=> .tuple #[iN (iE m a i),i6 0]):=by
 have b:=d.O;have p:=d.ly;have r:=d.np;have h:=b.bd.bmc;have n:=b.bd.c1;have q:=b.bd.m1;have j:=b.bd.c64;have s:=b.bd.r8;have o:=k.hf;exact fG Tryz.func119 λw u=>ra (λf=>[(3,pt (B0 f) 0),(6,i6 0),(7,i6 0)]) (λf=>[ob (B0 f) #[i6 2,iN a,iN t,iN e] 70]) λf=>r0 [(0,.l 1),(3,.l 1),(5,.c [0] [0] (FK g m d a t e k a i Om Om))] [(6,iN (iE m a i)),(7,i6 0)] [6,7] (lf ab.zero [0] [] [])
theorem FL(g:Nat)(m:Mp)(d:ba m)(b t e:Nat)(k:oy m b t e)(i:Nat)(v:i<m.C):aa ZK 120 #[.agg #[i6 1,iN b,iN t,iN e],pt g 0,iN i] [pk (aG g m)] [0] (λ_=>[pk (aG g m)]) (λ_=> .tuple #[iN (bu m t*64+i),i6 0]):=by
 have a:=d.O;have p:=d.ly;have r:=d.np;have h:=a.bd.bmc;have n:=a.bd.c1;have q:=a.bd.m1;have j:=a.bd.c64;have s:=a.bd.r8;have o:=k.ht;exact fG Tryz.func120 λw u=>ra (λf=>[(3,pt (B0 f) 0),(6,i6 0),(7,i6 0)]) (λf=>[ob (B0 f) #[i6 1,iN b,iN t,iN e] 70]) λf=>r0 [(0,.l 1),(3,.l 1),(5,.c [0] [0] (FJ g m d b t e k t i Om Om))] [(6,iN (bu m t*64+i)),(7,i6 0)] [6,7] (lf ab.zero [0] [] [])
theorem FM(g:Nat)(m:Mp)(b:ba m)(d t e:Nat)(k:oz m d t e)(i:Nat)(x:i<m.B*m.M*m.C):aa ZK 120 #[.agg #[i6 2,iN d,iN t,iN e],pt g 0,iN i] [pk (aG g m)] [0] (λ_=>[pk (aG g m)]) (λ_=> .tuple #[iN (iE m t i),i6 0]):=by
 have a:=b.O;have q:=b.ly;have s:=b.np;have h:=a.bd.bmc;have n:=a.bd.c1;have r:=a.bd.m1;have j:=a.bd.c64;have u:=a.bd.r8;have o:=k.t1;have p:=b.rk;exact fG Tryz.func120 λw v=>ra (λf=>[(3,pt (B0 f) 0),(6,i6 0),(7,i6 0)]) (λf=>[ob (B0 f) #[i6 2,iN d,iN t,iN e] 70]) λf=>r0 [(0,.l 1),(3,.l 1),(5,.c [0] [0] (FK g m b d t e k t i Om Om))] [(6,iN (iE m t i)),(7,i6 0)] [6,7] (lf ab.zero [0] [] [])
theorem Rw(m:Mp)(f:ba m)(n:Nat)(h:n<(m.R*m.B*m.M-m.res)*m.C):aa ZK 221 #[.agg #[iN m.R,iN m.S,iN m.B,iN m.M,iN m.C],iN (bF (gI m (ao m n)) (dU m.G m.R m.B m.M (ao m n)) (dT m.G m.R m.B m.M (ao m n)) (n%m.C))] [] [] N0 (λ_=>iN (fe m n)):=by
 have d:=f.O;have g:=d.bd.bmc;have j:(dU m.G m.R m.B m.M (ao m n)*m.M+dT m.G m.R m.B m.M (ao m n))*m.C+n%m.C<m.B*m.M*m.C:=tn f h;have e:=d.bd.c1;have i:=aaF (dU m.G m.R m.B m.M (ao m n)*m.M+dT m.G m.R m.B m.M (ao m n)) e;exact fG Tryz.func221 λw k=>ra (λa=>[(2,pt (B0 a) 0),(4,i6 0)]) (λa=>[ob (B0 a) #[iN m.R,iN m.S,iN m.B,iN m.M,iN m.C] 23]) λa=>rr (λ_=>[(0,.l 0),(2,.c [] [] (th d (qC f h))),(7,.s 1)]) (λb=>[(5,pt (B6 b) 0),(6,i6 0)]) [] (λb L=>L++[ob (B6 b) #[iN (gI m (ao m n)),iN (dU m.G m.R m.B m.M (ao m n)),iN (dT m.G m.R m.B m.M (ao m n)),iN (n%m.C)] 46]) λb=>rF [] 14 (r0 [(1,.m (ld 1 (iN (dU m.G m.R m.B m.M (ao m n))))),(3,.m (ld 0 (iN m.M))),(4,ml (dU m.G m.R m.B m.M (ao m n)) m.M),(6,.m (ld 1 (iN (dT m.G m.R m.B m.M (ao m n))))),(7,ad ((dU m.G m.R m.B m.M (ao m n))*m.M) (dT m.G m.R m.B m.M (ao m n))),(9,.m (ld 0 (iN m.C))),(10,ml (((dU m.G m.R m.B m.M (ao m n))*m.M)+(dT m.G m.R m.B m.M (ao m n))) m.C),(12,.m (ld 1 (iN (n%m.C)))),(13,ad ((((dU m.G m.R m.B m.M (ao m n))*m.M)+(dT m.G m.R m.B m.M (ao m n)))*m.C) (n%m.C))] [(4,iN (((((dU m.G m.R m.B m.M (ao m n))*m.M)+(dT m.G m.R m.B m.M (ao m n)))*m.C)+(n%m.C)))] [4] (ak (iN (((((dU m.G m.R m.B m.M (ao m n))*m.M)+(dT m.G m.R m.B m.M (ao m n)))*m.C)+(n%m.C))) ab.zero a9 [] [] []))
end
section
open Go Go.RowKit Go.Shelf
theorem Rx(m:Mp)(a:ba m)(n:Nat)(b:n<(m.R*m.B*m.M-m.res)*m.C):aa ZK 221 #[.agg #[iN m.R,iN m.S,iN m.B,iN m.M,iN m.C],iN (cR m n)] [] [] N0 (λ_=>iN (fe m n)):=by
 rw[pz];exact Rw m a n b
theorem Ry(g:Nat)(m:Mp)(a:ba m)(n:Nat)(t:n<(m.R*m.B*m.M-m.res)*m.C):aa ZK 185 #[.agg #[i6 0,i6 0,i6 0,i6 0],pt g 0,iN n] [pk (aG g m)] [0] (λ_=>[pk (aG g m)]) (λ_=> .tuple #[iN (cR m n),iN (ao m n),iN (aE m.G m.R m.B m.M (ao m n)),i6 0]):=by
 have b:=a.O;have k:=a.ly;have p:=a.np;have h:=b.bd.bmc;have j:=b.bd.c1;have o:=b.bd.m1;have i:=b.bd.c64;have q:=b.bd.r8;exact fG Tryz.func185 λw r=>ra (λe=>[(3,pt (B0 e) 0),(6,i6 0),(7,i6 0),(8,i6 0),(9,i6 0)]) (λe=>[ob (B0 e) #[i6 0,i6 0,i6 0,i6 0] 70]) λe=>r0 [(2,.c [0] [0] (zQ g m a n Om)),] [(6,iN (cR m n)),(7,iN (ao m n)),(8,iN (aE m.G m.R m.B m.M (ao m n))),(9,i6 0)] [6,7,8,9] (rF [(3,.l 1),(5,.c [0] [0] (Rr g m a))] 27 (rr (λ_=>[(1,.c [0] [0] (jv g m a)),(4,.s 2)]) (λf=>[(10,pt (B3 f) 0)]) [] (λf L=>L++[ob (B3 f) #[iN m.R,iN m.S,iN m.B,iN m.M,iN m.C] 23]) λf=>r0 [] [(11,i6 0)] [] (rF [(1,.l 1),(4,.d),(5,.d),(6,.d),(7,.d)] 39 (rF [(1,.l 1),(4,.d),(5,.d),(6,.d),(7,.d)] 53 (r0 [] [(6,iN (cR m n)),(7,iN (ao m n)),(8,iN (aE m.G m.R m.B m.M (ao m n))),(9,i6 0)] [6,7,8,9] (lf ab.zero [0] [] []))))))
theorem Rz(g:Nat)(m:Mp)(h:ba m)(e t f:Nat)(z:oy m e t f)(n:Nat)(I:n<(m.R*m.B*m.M-m.res)*m.C):aa ZK 185 #[.agg #[i6 1,iN e,iN t,iN f],pt g 0,iN n] [pk (aG g m)] [0] (λ_=>[pk (aG g m)]) (λ_=> .tuple #[iN (aH m ⟨1,e,t,f⟩ n),iN (ao m n),iN (aE m.G m.R m.B m.M (ao m n)),i6 0]):=by
 have o:=h.O;have C:=h.ly;have F:=h.np;have x:=o.bd.bmc;have v:=o.bd.c1;have D:=o.bd.m1;have y:=o.bd.c64;have G:=o.bd.r8;have A:=ZV n v;refine fG Tryz.func185 λw H=>ra (λp=>[(3,pt (B0 p) 0),(6,i6 0),(7,i6 0),(8,i6 0),(9,i6 0)]) (λp=>[ob (B0 p) #[i6 1,iN e,iN t,iN f] 70]) λp=>r0 [(2,.c [0] [0] (zQ g m h n Om)),] [(6,iN (cR m n)),(7,iN (ao m n)),(8,iN (aE m.G m.R m.B m.M (ao m n))),(9,i6 0)] [6,7,8,9] (rF [(3,.l 1),(5,.c [0] [0] (FH g m h e t f z))] 27 (rr (λ_=>[(1,.c [0] [0] (jv g m h)),(4,.s 2)]) (λq=>[(10,pt (B3 q) 0)]) [] (λq L=>L++[ob (B3 q) #[iN m.R,iN m.S,iN m.B,iN m.M,iN m.C] 23]) λq=>r0 [] [(11,i6 0)] [] (r0 [(1,.l 1),(6,.l 1)] [(39,.bool (((ao m n:Nat):Int)==(e:Int)))] [] ?_)));refine c0 ((ao m n:Nat):Int) (e:Int) (λB r=>?_) λB r=>?_
 ·refine r0 [(2,.l 2),(3,.t (tb (a:=iN n) (b:=iN m.C) λ_ _ _ _=>n8 (a:=n) (d:=m.C) Om))] [(11,iN (n%m.C))] [11] (r0 [(2,.l 1)] [(69,.bool (decide (((n%m.C:Nat):Int)<(f:Int))))] [] ?_);refine cj ((n%m.C:Nat):Int) (f:Int) (λu k=>?_) λu k=>?_
  ·exact r0 [(0,.l 1),(3,.c [0] [0] (FL g m h e t f z (n%m.C) Om))] [(6,iN (bu m t*64+(n%m.C))),(9,i6 0)] [6,9] (r0 [] [(6,iN (bu m t*64+(n%m.C))),(7,iN (ao m n)),(8,iN (aE m.G m.R m.B m.M (ao m n))),(9,i6 0)] [6,7,8,9] (ak (.tuple #[iN (bu m t*64+(n%m.C)),iN (ao m n),iN (aE m.G m.R m.B m.M (ao m n)),i6 0]) ab.zero (by by_cases i:ao m n=e<;>by_cases j:n%m.C<f<;>first | (exfalso;omega) | (simp [aH,aU,i,j])) [0] [] []))
  exact r0 [] [(6,iN (cR m n)),(7,iN (ao m n)),(8,iN (aE m.G m.R m.B m.M (ao m n))),(9,i6 0)] [6,7,8,9] (ak (.tuple #[iN (cR m n),iN (ao m n),iN (aE m.G m.R m.B m.M (ao m n)),i6 0]) ab.zero (by by_cases i:ao m n=e<;>by_cases j:n%m.C<f<;>first | (exfalso;omega) | (simp [aH,aU,i,j])) [0] [] [])
 exact rF [(1,.l 1),(4,.d),(5,.d),(6,.d),(7,.d)] 53 (r0 [] [(6,iN (cR m n)),(7,iN (ao m n)),(8,iN (aE m.G m.R m.B m.M (ao m n))),(9,i6 0)] [6,7,8,9] (ak (.tuple #[iN (cR m n),iN (ao m n),iN (aE m.G m.R m.B m.M (ao m n)),i6 0]) ab.zero (by by_cases i:ao m n=e<;>by_cases j:n%m.C<f<;>first | (exfalso;omega) | (simp [aH,aU,i,j])) [0] [] []))
theorem RA(g:Nat)(m:Mp)(e:ba m)(a t b:Nat)(v:oz m a t b)(n:Nat)(B:n<(m.R*m.B*m.M-m.res)*m.C):aa ZK 185 #[.agg #[i6 2,iN a,iN t,iN b],pt g 0,iN n] [pk (aG g m)] [0] (λ_=>[pk (aG g m)]) (λ_=> .tuple #[iN (aH m ⟨2,a,t,b⟩ n),iN (ao m n),iN (aE m.G m.R m.B m.M (ao m n)),i6 0]):=by
 have j:=e.O;have z:=e.ly;have C:=e.np;have r:=j.bd.bmc;have y:=j.bd.c1;have A:=j.bd.m1;have u:=j.bd.c64;have F:=j.bd.r8;have D:=tn e B;refine fG Tryz.func185 λw G=>ra (λk=>[(3,pt (B0 k) 0),(6,i6 0),(7,i6 0),(8,i6 0),(9,i6 0)]) (λk=>[ob (B0 k) #[i6 2,iN a,iN t,iN b] 70]) λk=>r0 [(2,.c [0] [0] (zQ g m e n Om)),] [(6,iN (cR m n)),(7,iN (ao m n)),(8,iN (aE m.G m.R m.B m.M (ao m n))),(9,i6 0)] [6,7,8,9] (rF [(3,.l 1),(5,.c [0] [0] (FI g m e a t b v))] 27 (rr (λ_=>[(1,.c [0] [0] (jv g m e)),(4,.s 2)]) (λo=>[(10,pt (B3 o) 0)]) [] (λo L=>L++[ob (B3 o) #[iN m.R,iN m.S,iN m.B,iN m.M,iN m.C] 23]) λo=>r0 [] [(11,i6 0)] [] (rF [(1,.l 1),(4,.d),(5,.d),(6,.d),(7,.d)] 39 (r0 [(1,.l 1),(6,.l 1)] [(53,.bool (((aE m.G m.R m.B m.M (ao m n):Nat):Int)==(a:Int)))] [] ?_))));refine c0 ((aE m.G m.R m.B m.M (ao m n):Nat):Int) (a:Int) (λx p=>?_) λx p=>?_
 ·refine r0 [(0,.l 2),(2,.c [] [] (Rx m e n Om))] [(11,iN (fe m n))] [11] (r0 [(2,.l 1)] [(69,.bool (decide (((fe m n:Nat):Int)<(b:Int))))] [] ?_);refine cj ((fe m n:Nat):Int) (b:Int) (λq i=>?_) λq i=>?_
  ·exact r0 [(0,.l 1),(3,.c [0] [0] (FM g m e a t b v (fe m n) Om))] [(6,iN (iE m t (fe m n))),(9,i6 0)] [6,9] (r0 [] [(6,iN (iE m t (fe m n))),(7,iN (ao m n)),(8,iN (aE m.G m.R m.B m.M (ao m n))),(9,i6 0)] [6,7,8,9] (ak (.tuple #[iN (iE m t (fe m n)),iN (ao m n),iN (aE m.G m.R m.B m.M (ao m n)),i6 0]) ab.zero (by by_cases f:aE m.G m.R m.B m.M (ao m n)=a<;>by_cases h:fe m n<b<;>first | (exfalso;omega) | (simp [aH,aU,f,h])) [0] [] []))
  exact r0 [] [(6,iN (cR m n)),(7,iN (ao m n)),(8,iN (aE m.G m.R m.B m.M (ao m n))),(9,i6 0)] [6,7,8,9] (ak (.tuple #[iN (cR m n),iN (ao m n),iN (aE m.G m.R m.B m.M (ao m n)),i6 0]) ab.zero (by by_cases f:aE m.G m.R m.B m.M (ao m n)=a<;>by_cases h:fe m n<b<;>first | (exfalso;omega) | (simp [aH,aU,f,h])) [0] [] [])
 exact r0 [] [(6,iN (cR m n)),(7,iN (ao m n)),(8,iN (aE m.G m.R m.B m.M (ao m n))),(9,i6 0)] [6,7,8,9] (ak (.tuple #[iN (cR m n),iN (ao m n),iN (aE m.G m.R m.B m.M (ao m n)),i6 0]) ab.zero (by by_cases f:aE m.G m.R m.B m.M (ao m n)=a<;>by_cases h:fe m n<b<;>first | (exfalso;omega) | (simp [aH,aU,f,h])) [0] [] [])
theorem RB(g:Nat)(m:Mp)(b:ba m)(j f t k:Nat)(n:Int)(q:bG n (((m.R*m.B*m.M-m.res)*m.C:Nat):Int)=false):aa ZK 185 #[.agg #[iN j,iN f,iN t,iN k],pt g 0,i6 n] [pk (aG g m)] [0] (λ_=>[pk (aG g m)]) (λ_=> .tuple #[i6 0,i6 0,i6 0,i6 12]):=by
 have a:=b.O;have o:=b.ly;have r:=b.np;have h:=a.bd.bmc;have l:=a.bd.c1;have p:=a.bd.m1;have i:=a.bd.c64;have s:=a.bd.r8;exact fG Tryz.func185 λw u=>ra (λe=>[(3,pt (B0 e) 0),(6,i6 0),(7,i6 0),(8,i6 0),(9,i6 0)]) (λe=>[ob (B0 e) #[iN j,iN f,iN t,iN k] 70]) λe=>r0 [(2,.c [0] [0] (Ra g m b n q)),] [(6,i6 0),(7,i6 0),(8,i6 0),(9,i6 12)] [6,7,8,9] (rT [(3,.d),(4,.d),(5,.d),(6,.d)] 27 (r0 [] [(6,i6 0),(7,i6 0),(8,i6 0),(9,i6 12)] [6,7,8,9] (lf ab.zero [0] [] [])))
theorem RC(g:Nat)(m:Mp)(b:ba m)(j:Jb)(f:tm m j)(n:Nat)(c:n<(m.R*m.B*m.M-m.res)*m.C):aa ZK 185 #[.agg #[iN j.A,iN j.fr,iN j.tg,iN j.nx],pt g 0,iN n] [pk (aG g m)] [0] (λ_=>[pk (aG g m)]) (λ_=> .tuple #[iN (aH m j n),iN (ao m n),iN (aE m.G m.R m.B m.M (ao m n)),i6 0]):=by
 obtain⟨i,d,t,e⟩:=j;rcases f.k with h | ⟨a,h⟩ | ⟨a,h⟩
 ·cases h;exact Ry g m b n c
 ·cases a;exact Rz g m b d t e h n c
 ·cases a;exact RA g m b d t e h n c
def kQ(m:Mp)(j:Jb):Bool:=decide (j.A≠0)&&decide (j.nx=eJ j.A m.B m.M m.C)
theorem FN(m:Mp)(d:ba m)(b a t c:Nat)(e:b=1∨b=2):aa ZK 211 #[.agg #[iN b,iN a,iN t,iN c],.agg #[iN m.R,iN m.S,iN m.B,iN m.M,iN m.C,iN m.G,iN m.res]] [] [] N0 (λ_=> .bool (kQ m ⟨b,a,t,c⟩)):=by
 rcases e with rfl | rfl
 ·exact Rm a t c m.R m.S m.B m.M m.C m.G m.res d.ly
 ·exact Rn a t c m.R m.S m.B m.M m.C m.G m.res d.ly
theorem RD(g:Nat)(m:Mp)(d:ba m)(j:Jb)(f:tm m j)(i:Nat)(a:i<eJ j.A m.B m.M m.C):aa ZK 119 #[.agg #[iN j.A,iN j.fr,iN j.tg,iN j.nx],pt g 0,iN i] [pk (aG g m)] [0] (λ_=>[pk (aG g m)]) (λ_=> .tuple #[iN (aU m j.A j.fr i),i6 0]):=by
 obtain⟨k,c,t,e⟩:=j;rcases f.k with h | ⟨b,h⟩ | ⟨b,h⟩
 ·cases h;exact absurd a (aaK i)
 ·cases b;exact Ru g m d c t e h i a
 ·cases b;exact Rv g m d c t e h i a
theorem RE(g:Nat)(m:Mp)(d:ba m)(j:Jb)(f:tm m j)(i:Nat)(a:i<eJ j.A m.B m.M m.C):aa ZK 120 #[.agg #[iN j.A,iN j.fr,iN j.tg,iN j.nx],pt g 0,iN i] [pk (aG g m)] [0] (λ_=>[pk (aG g m)]) (λ_=> .tuple #[iN (aU m j.A j.tg i),i6 0]):=by
 obtain⟨k,c,t,e⟩:=j;rcases f.k with h | ⟨b,h⟩ | ⟨b,h⟩
 ·cases h;exact absurd a (aaK i)
 ·cases b;exact FL g m d c t e h i a
 ·cases b;exact FM g m d c t e h i a
end
section
open Go Go.RowKit Go.Shelf
structure Ak where
 k:Nat
 w:Nat
deriving DecidableEq
def aJ:Ak:=⟨0,0⟩
def tp(x:Ak):List Value:=[iN x.k,iN x.w]
def mW:Kd ZK Ak:=⟨tp,[i6 0,i6 0],351,285,aJ,2,λ_=>rfl,rfl,λ_=>rfl,eh.mk' Kr Kr rfl⟩
abbrev fp(v:Value)(xs:List Ak):aA:= .p (aq tp ([i6 0,i6 0]) 285 v xs)
def mX(arr:List Ak)(a i:Nat):Ak:=arr.getD ((a+i)%arr.length) aJ
def pA(arr:List Ak)(a n:Nat)(x:Ak):Bool:=(ZL n).any λj=>decide (mX arr a j=x)
theorem FO{arr:List Ak}{a n:Nat}{x:Ak}{j:Nat}(b:j<n)(e:mX arr a j=x):pA arr a n x=true:=List.any_eq_true.2 ⟨j,List.mem_range.2 b,cd e⟩
theorem FP{arr:List Ak}{a n:Nat}{x:Ak}(h: ∀j,j<n→mX arr a j≠x):pA arr a n x=false:=List.any_eq_false.2 λj b=>by simpa using h j (List.mem_range.1 b)
theorem RF{x y:Ak}(h:((((x.k:Nat):Int)==((y.k:Nat):Int))&&((((x.w:Nat):Int)==((y.w:Nat):Int))&&true))=true):y=x:=by
 rw[abA,mo,mo,ZT,decide_eq_true_eq,decide_eq_true_eq] at h;obtain⟨a,b⟩:=x;obtain⟨c,d⟩:=y;simp only at h;rw[h.1,h.2]
theorem RG{x y:Ak}(h:((((x.k:Nat):Int)==((y.k:Nat):Int))&&((((x.w:Nat):Int)==((y.w:Nat):Int))&&true))=false):y≠x:=by
 intro e;subst e;rw[abA,mo,mo,cd rfl,cd rfl] at h;cases h
theorem zV{P:Nat→Prop}{k:Nat}(h: ∀j,j<k→P j)(h1:P k): ∀j,j<k+1→P j:=λj c=>by
 rcases Nat.lt_succ_iff_lt_or_eq.1 c with b | rfl
 ·exact h j b
 ·exact h1
structure jw (arr:List Ak) (a:Nat) (q:List Ak):Prop where
 l:arr.length=256
 lt:a<256
 n:q.length≤256
 q: ∀i,i<q.length→mX arr a i=q.getD i aJ
abbrev bH(g:Nat)(q:List Ak)(L:ah):Prop:=∃(v:Value) (arr:List Ak) (a:Nat) (b:jw arr a q),L=[ob g #[v,iN a,iN q.length] 353,fp v arr]
def qD(q:List Ak)(x:Ak):List Ak:=if x∈q then q else if q.length=256 then q else q++[x]
def v8(q:List Ak)(x:Ak):Int:=if x∈q then 15 else if q.length=256 then 14 else 0
section
variable {arr:List Ak} {a:Nat} {q:List Ak}
theorem jw.has(h:jw arr a q)(x:Ak):pA arr a q.length x=decide (x∈q):=by
 by_cases c:x∈q
 ·obtain⟨j,b,e⟩:=abl c;rw[cd c];refine FO b ?_;rw[h.q j b,ZJ,ZM b];exact e
 ·rw[a8 c];refine FP λj b e=>c ?_;rw[h.q j b,ZJ,ZM b] at e;exact e▸List.getElem_mem b
theorem jw.push(h:jw arr a q)(x:Ak)(f:q.length<256):jw (arr.set ((a+q.length)%arr.length) x) a (q++[x]):=by
 have c:=h.l;have d:=h.lt;refine⟨by rw[Z3];exact h.l,h.lt,by rw[ZO];show q.length+1≤256;omega,λi b=>?_⟩;rw[ZO] at b;have b:i<q.length+1:=b;unfold mX;rw[Z3,ZJ,aae];by_cases e:i=q.length
 ·subst e;rw[ALifp rfl,ALifp (ZV _ Om),ZJ,ZX (Z6 _)];simp
 ·rw[ALifn (by rw[c];omega),ZJ,ZS Om];have:=h.q i Om;unfold mX at this;rwa [ZJ,ZJ] at this
theorem jw.pop(h:jw arr a q)(f:0<q.length):jw (arr.set a aJ) ((a+1)%(arr.set a aJ).length) q.tail:=by
 have b:=h.l;have e:=h.lt;rw[Z3];refine⟨by rw[Z3];exact h.l,by rw[b];exact ZV _ Dc,by rw[aau];have:=h.n;omega,λi c=>?_⟩;rw[aau] at c;have:=h.q (i+1) Om;have d:=h.n;unfold mX at this⊢;rw[Z3,ZJ,aae,ALifn (by rw[b];omega)];rw[ZJ] at this;rw[show((a+1)%arr.length+i)%arr.length=(a+(i+1))%arr.length by rw[b];omega,this,ZJ,ZJ,List.getElem?_tail]
theorem jw.first(h:jw arr a q)(b:0<q.length):mX arr a 0=q.headD aJ:=by
 rw[h.q 0 b];cases q with
 | nil=>cases b
 | cons x q=>rfl
end
def mq(q:List Ak):Int:=if q.length=0 then 13 else 0
theorem RH:jw (ZN 256 aJ) 0 []:=⟨by rw[Z4],by decide,by decide,λi b=>absurd b (aaK i)⟩
end
section
open Go Go.RowKit Go.Shelf
theorem v9(g:Nat)(v:Value)(c:List Ak)(a n i:Nat)(l:c.length=256)(j:a<256)(k:i≤256):aa ZK 283 #[pt g 0,iN i] [ob g #[v,iN a,iN n] 353,.p (aK tp v c)] [] N0 (λ_=>iN ((a+i)%c.length)):=by
 exact fO Tryz.func283 1 rfl λf e=>fG Tryz.func283 λw h=>r0 [] [(4,i6 0)] [] (r0 [(3,.m (ld 0 (iN a))),(5,ad a i),(9,.m (ld 0 (v))),(10,eG e.1 1),(11,.t (tb (a:=iN (a+i)) (b:=iN c.length) λ_ _ _ _=>n8 (a:=a+i) (d:=c.length) Om))] [(4,iN ((a+i)%c.length))] [4] (lf ab.zero [] [(0,0),(1,1)] []))
theorem RI(g:Nat):aa ZK 282 #[pt g 0] [] [] (λE=>[ob (E.y 0) #[pt g 0] 131]) (λE=> .func (.func 287) #[] #[pt ((E.y 0)) 0]):=by
 exact fG Tryz.func282 λw b=>ra (λa=>[(1,pt (B0 a) 0),(2,.nilFunc)]) (λa=>[ob (B0 a) #[pt g 0] 131]) λa=>r0 [] [(2,.func (.func 287) #[] #[pt (B0 a) 0])] [2] (lf (.l [(a 0).y 0] [] []) [0] [] [])
theorem RJ(b g:Nat)(v:Value)(d:List Ak)(a n:Nat)(bs:ay)(j:aK tp v d bs)(u:d.length=256)(H:a<256)(I:n≤256):fv 5 ZK 287 #[pt b 0] (λ(x:Nat×Ak)=>#[i6 (x.1:Int),.agg #[i6 (x.2.k:Int),i6 (x.2.w:Int)]]) ((ZL n).map λk=>(k,d.getD ((a+k)%d.length) aJ)) (List.flatten [[(b,.cells #[pt g 0] 131 (0,0))],[(g,.cells #[v,iN a,iN n] 353 (0,0))],bs]):=by
 refine gi (KO:=[[(b,.cells #[pt g 0] 131 (0,0))],[(g,.cells #[v,iN a,iN n] 353 (0,0))],bs]) Tryz.func287 (λz B A G D m s r=>?_);refine r0 [(0,.l 0),(3,.l 1)] [(7,iN n),(8,i6 0)] [] ?_;refine kd (λk=>k≤n) (λk=>[(8,iN k)]) (λ_ L=>L) (λk=>n-k) (λk=>k) 0 Om r Kr Kr (λk C F t f=>?_);have y:(a+k)%d.length<d.length:=ZV _ Om;refine r0 [] [(9,.bool (decide ((k:Int)<(n:Int))))] [] ?_;refine cj (k:Int) (n:Int) (λq i=>?_) λq i=>?_
 ·refine r0 [] [(3,iN k)] [] ?_;refine iy m s f 11 (λ_=>[(2,.l 0),(5,.l 1),(6,.l 0),(8,.c [1,2] [] (aa.at (rd':=[ob g #[v,iN a,iN n] 353,.c bs]) (v9 g v d a n k (by(simp only[LL,u];done)) Om Om) (atS (eD j (λ_ h=>h))))),(9,fx j.1 2 ((a+k)%d.length) 2),(10,nm mW j.1 2 ((a+k)%d.length) 0 2)]) (λ_=>[(11,.func (.yield z) #[] #[]),(12,iN k),(21,.agg #[iN ((d.getD ((a+k)%d.length) aJ).k),iN ((d.getD ((a+k)%d.length) aJ).w)])]) [] (λ_ L=>L) N0 [0,1,2] (oP Om) (λJ o p e=>?_);refine cF _ rfl (r0 [(0,ad k 1)] [(8,iN (k+1))] [8] ?_);exact iT (k+1) Om e Om Kr [0,1,2] Kr
 obtain rfl:n=k:=by omega
 refine ke ?_;exact k9 m f (by rw[ZQ,ZZ]) [] [0,1,2]
theorem zW(g:Nat)(v:Value)(b:List Ak)(a n:Nat)(x:Ak)(G:b.length=256)(N:a<256)(A:n≤256):aa ZK 267 #[pt g 0,.agg #[iN x.k,iN x.w]] [ob g #[v,iN a,iN n] 353,.p (aK tp v b)] [] N0 (λ_=> .bool (pA b a n x)):=by
 refine fO Tryz.func267 1 rfl λi t=>fG Tryz.func267 λw M=>ra (λd=>[(3,pt (B0 d) 0),(4,pt (B1 d) 0)]) (λd=>[ob (B0 d) #[iN x.k,iN x.w] 285,ob (B1 d) #[.bool false] 4]) λd=>rr (λ_=>[(1,.c [] [4] (RI g))]) (λf=>[(8,.func (.func 287) #[] #[pt ((B1 f)) 0])]) [] (λf L=>L++[ob (B1 f) #[pt g 0] 131]) λf=>?_;refine yi (encs:=λ(x:Nat×Ak)=>#[i6 (x.1:Int),.agg #[i6 (x.2.k:Int),i6 (x.2.w:Int)]]) (xs:=(ZL n).map λk=>(k,b.getD ((a+k)%b.length) aJ)) (KO:=[[((B1 f),.cells #[pt g 0] 131 (0,0))],[(g,.cells #[v,iN a,iN n] 353 (0,0))],i]) (RJ (B1 f) g v b a n i t (by(simp only[LL,G];done)) Om Om) (enters_of Tryz.func287 Kr rfl) (λk=>k≤n∧(∀j,j<k→mX b a j≠x)) (λ_ L=>L) (λc k=>(c=Code.ret∧(∃j,j+1=k∧mX b a j=x))) (λ_ _ L=>L.set 3 (ob (B1 d) #[.bool true] 4)) [4,0,1] ⟨by omega,(λ_ h=>absurd h (aaK _))⟩ Kr (λP k R H J y ⟨m,o⟩=>?_) (λB ⟨m,o⟩=>?_) λB c k F D=>?_
 ·obtain⟨z,rfl⟩:=n2 y;refine rr (λ_=>[(1,.s 5)]) (λq=>[(6,pt (B0 q) 0)]) [] (λq L=>L++[ob (B0 q) #[iN ((b.getD ((a+k)%b.length) aJ).k),iN ((b.getD ((a+k)%b.length) aJ).w)] 285]) λq=>?_;refine ag [4,0,1] (λI K=>?_);refine r0 [(0,.l 2),(1,.l 5),(2,.e)] [(13,.bool ((x.k:Int)==(((b.getD ((a+k)%b.length) aJ).k:Nat):Int)&&((x.w:Int)==(((b.getD ((a+k)%b.length) aJ).w:Nat):Int)&&true)))] [] ?_;refine cB (((x.k:Int)==(((b.getD ((a+k)%b.length) aJ).k:Nat):Int)&&((x.w:Int)==(((b.getD ((a+k)%b.length) aJ).w:Nat):Int)&&true))) (λC=>?_) λC=>?_
  ·refine rr (λ_=>[(0,.s 3)]) N0 [] (λ_ L=>L.set 3 (ob (B1 d) #[.bool true] 4)) λQ=>?_;exact nr _ ⟨⟨rfl,⟨_,rfl,RF As⟩⟩,rfl⟩ [0,1,2,3,4] Kr
  exact ne _ ⟨⟨by omega,zV o (RG As)⟩,rfl⟩ [0,1,2,3,4] Kr
 ·simp only[ZQ,ZZ] at m;exact r0 [(0,.s 3)] [] [] (ak (.bool false) ab.zero (by(simp only[ZQ,ZZ] at o;rw[FP o])) [] [(0,0),(1,1)] [3])
 obtain⟨rfl,u⟩:=D;exact ak (.bool true) ab.zero (by(obtain⟨j,O,A⟩:=u;have r:=F;simp only[ZQ,ZZ] at r;rw[FO (j:=j) Om A])) [] [(0,0),(1,1)] [3]
theorem RK(g:Nat)(v:Value)(b:List Ak)(a:Nat)(q:List Ak)(e:jw b a q)(x:Ak)(o:q.length<256):aa ZK 268 #[pt g 0,.agg #[iN x.k,iN x.w]] [ob g #[v,iN a,iN q.length] 353,fp v b] [0,1] (λ_=>[ob g #[v,iN a,iN (q.length+1)] 353,fp v (b.set ((a+q.length)%b.length) x)]) (λ_=>i6 0):=by
 have f:=e.l;have k:=e.lt;have n:=e.n;have i:(a+q.length)%b.length<b.length:=ZV _ Om;exact fG Tryz.func268 λw j=>ra (λd=>[(3,pt (B0 d) 0),(4,i6 0)]) (λd=>[ob (B0 d) #[iN x.k,iN x.w] 285]) λd=>rF [(3,.l 0),(7,.l 0),(8,fw mW v b 1),(9,.t (tk (show Value.bool ((q.length:Int)==(b.length:Int))= .bool false from ALca Value.bool (by rw[dj];omega))))] 14 (rs [(3,.m (ld 0 (v))),(8,.m (ld 0 (iN q.length))),(9,.c [0,1] [] (aa.at (rd':=[ob g #[v,iN a,iN q.length] 353,fp v b]) (v9 g v b a q.length q.length (by(simp only[LL,f];done)) Om Om) (atS (bM (λ_ h=>aq.sq h) (λ_ h=>h))))),(10,.m (ls 2 ([iN x.k,iN x.w]))),(11,cU mW v b 1 ((a+q.length)%b.length)),(12,su mW v b 1 ((a+q.length)%b.length) x)] 1 (fp v (b.set ((a+q.length)%b.length) x)) (rs [(3,.l 0),(4,ad q.length 1),(7,.s 0)] 0 (ob g #[v,iN a,iN (q.length+1)] 353) (r0 [] [(4,i6 0)] [4] (lf ab.zero [0,1] [] []))))
theorem RL(g:Nat)(v:Value)(b:List Ak)(a:Nat)(q:List Ak)(d:jw b a q)(x:Ak)(f:q.length=256):aa ZK 268 #[pt g 0,.agg #[iN x.k,iN x.w]] [ob g #[v,iN a,iN q.length] 353,fp v b] [1] (λ_=>[fp v b]) (λ_=>i6 14):=by
 have e:=d.l;have i:=d.lt;have j:=d.n;exact fG Tryz.func268 λw h=>ra (λc=>[(3,pt (B0 c) 0),(4,i6 0)]) (λc=>[ob (B0 c) #[iN x.k,iN x.w] 285]) λc=>rT [(3,.l 0),(7,.l 0),(8,fw mW v b 1),(9,.t (tk (show Value.bool ((q.length:Int)==(b.length:Int))= .bool true from ALca Value.bool (by rw[e,f];rfl))))] 14 (r0 [] [(4,i6 14)] [4] (lf ab.zero [1] [(0,0)] []))
theorem RM(g:Nat)(q:List Ak)(x:Ak)(j:x∈q):aa ZK 242 #[pt g 0,.agg #[iN x.k,iN x.w]] [pk (bH g q)] [0] (λ_=>[pk (bH g q)]) (λ_=>i6 15):=aa.pkZ Tryz.func242 λL f=>by
 obtain⟨v,b,a,d,rfl⟩:=f;refine⟨[1],λ_=>[fp v b],?_,rfl,λE=>⟨rfl,rfl,⟨_,_,_,d,rfl⟩⟩⟩;have i:=d.l;have m:=d.lt;have n:=d.n;exact fG Tryz.func242 λw k=>ra (λe=>[(3,pt (B0 e) 0),(4,i6 0)]) (λe=>[ob (B0 e) #[iN x.k,iN x.w] 285]) λe=>rT [(1,.l 2),(2,.c [0,1] [] (aa.v ((aa.at (rd':=[ob g #[v,iN a,iN q.length] 353,fp v b]) (zW g v b a q.length x (by(simp only[LL,i];done)) Om Om) (atS (bM (λ_ h=>aq.sq h) (λ_ h=>h))))) λ_=>ALca Value.bool (show(pA b a q.length x)=true from(by rw[d.has,cd j]))))] 7 (r0 [] [(4,i6 15)] [4] (lf ab.zero [1] [(0,0)] []))
theorem RN(g:Nat)(q:List Ak)(x:Ak)(k:x∉q)(i:q.length=256):aa ZK 242 #[pt g 0,.agg #[iN x.k,iN x.w]] [pk (bH g q)] [0] (λ_=>[pk (bH g q)]) (λ_=>i6 14):=aa.pkZ Tryz.func242 λL j=>by
 obtain⟨v,b,a,d,rfl⟩:=j;refine⟨[1],λ_=>[fp v b],?_,rfl,λE=>⟨rfl,rfl,⟨_,_,_,d,rfl⟩⟩⟩;have f:=d.l;have n:=d.lt;have o:=d.n;exact fG Tryz.func242 λw m=>ra (λe=>[(3,pt (B0 e) 0),(4,i6 0)]) (λe=>[ob (B0 e) #[iN x.k,iN x.w] 285]) λe=>rF [(1,.l 2),(2,.c [0,1] [] (aa.v ((aa.at (rd':=[ob g #[v,iN a,iN q.length] 353,fp v b]) (zW g v b a q.length x (by(simp only[LL,f,i];done)) Om Om) (atS (bM (λ_ h=>aq.sq h) (λ_ h=>h))))) λ_=>ALca Value.bool (show(pA b a q.length x)=false from(by rw[d.has,a8 k]))))] 7 (r0 [(1,.l 2),(2,.c [0,1] [1] (RL g v b a q d x (by(simp only[LL,f,i];done))))] [(4,i6 14)] [4] (lf ab.zero [1] [(0,0)] []))
theorem RO(g:Nat)(q:List Ak)(x:Ak)(k:x∉q)(j:q.length<256):aa ZK 242 #[pt g 0,.agg #[iN x.k,iN x.w]] [pk (bH g q)] [0] (λ_=>[pk (bH g (q++[x]))]) (λ_=>i6 0):=aa.pkZ Tryz.func242 λL f=>by
 obtain⟨v,b,a,d,rfl⟩:=f;refine⟨[0,1],λ_=>[ob g #[v,iN a,iN (q.length+1)] 353,fp v (b.set ((a+q.length)%b.length) x)],?_,rfl,λE=>⟨rfl,rfl,⟨_,_,_,d.push x j,ALca (λn:Nat=>[ob g #[v,iN a,iN n] _,_]) (show q.length+1=(q++[x]).length by rw[ZO];rfl)⟩⟩⟩;have i:=d.l;have o:=d.lt;have p:=d.n;exact fG Tryz.func242 λw m=>ra (λe=>[(3,pt (B0 e) 0),(4,i6 0)]) (λe=>[ob (B0 e) #[iN x.k,iN x.w] 285]) λe=>rF [(1,.l 2),(2,.c [0,1] [] (aa.v ((aa.at (rd':=[ob g #[v,iN a,iN q.length] 353,fp v b]) (zW g v b a q.length x (by(simp only[LL,i];done)) Om Om) (atS (bM (λ_ h=>aq.sq h) (λ_ h=>h))))) λ_=>ALca Value.bool (show(pA b a q.length x)=false from(by rw[d.has,a8 k]))))] 7 (rr (λ_=>[(1,.l 2),(2,.c [0,1] [0,1] (RK g v b a q d x Om))]) (λ_=>[(4,i6 0)]) [4] (λ_ L=>(L.set 0 (ob g #[v,iN a,iN (q.length+1)] 353)).set 1 (fp v (b.set ((a+q.length)%b.length) x))) λr=>lf ab.zero [0,1] [] [])
theorem RP(g:Nat)(v:Value)(d:List Ak)(a:Nat)(q:List Ak)(j:jw d a q)(z:0<q.length):aa ZK 269 #[pt g 0,i6 0] [ob g #[v,iN a,iN q.length] 353,fp v d] [0,1] (λ_=>[ob g #[v,iN ((a+1)%(d.set a (⟨0,0⟩:Ak)).length),iN (q.length-1)] 353,fp v (d.set a (⟨0,0⟩:Ak))]) (λ_=> .tuple #[.agg #[iN ((d.getD ((a+0)%d.length) aJ).k),iN ((d.getD ((a+0)%d.length) aJ).w)],i6 0]):=by
 have m:=j.l;have x:=j.lt;have y:=j.n;have p:(a+0)%d.length<d.length:=ZV _ Om;refine fG Tryz.func269 λw u=>ra (λe=>[(4,pt (B0 e) 0),(5,i6 0)]) (λe=>[ob (B0 e) #[i6 0,i6 0] 285]) λe=>ra (λf=>[(6,pt (B0 f) 0)]) (λf=>[ob (B0 f) #[i6 0,i6 0] 285]) λf=>r0 [(7,.l 0)] [(18,.bool (decide ((q.length:Int)≤0)))] [] ?_;have n:(decide ((q.length:Int)≤0))=false:=by exact a8 Om
 refine cF (decide ((q.length:Int)≤0)) n (rr (λ_=>[(3,.l 0),(6,.c [0,1] [] (aa.at (rd':=[ob g #[v,iN a,iN q.length] 353,fp v d]) (v9 g v d a q.length 0 (by(simp only[LL,m];done)) Om Om) (atS (bM (λ_ h=>aq.sq h) (λ_ h=>h))))),(7,cU mW v d 1 ((a+0)%d.length)),(8,qg mW v d 1 ((a+0)%d.length) 0 2),(10,.s 4)]) (λi=>[(7,pt ((i 9).y 0) 0)]) [] (λi L=>L++[ob ((i 9).y 0) #[iN ((d.getD ((a+0)%d.length) aJ).k),iN ((d.getD ((a+0)%d.length) aJ).w)] 285]) λi=>r0 [] [(8,i6 0)] [] ?_);refine lq (λk=>k≤0) (λ_=>[(8,i6 0)]) (λ_ L=>L) (λk=>0-k) 0 Om Kr Kr (λk o=>?_);exact rF [] 31 (lx (rs [(3,.l 0),(7,.l 0),(8,.l 3),(9,cU mW v d 1 a),(10,su mW v d 1 a (⟨0,0⟩:Ak))] 1 (fp v (d.set a (⟨0,0⟩:Ak))) (rs [(2,.c [0,1] [] (aa.at (rd':=[ob g #[v,iN a,iN q.length] 353,fp v (d.set a (⟨0,0⟩:Ak))]) (v9 g v (d.set a (⟨0,0⟩:Ak)) a q.length 1 (by(simp only[LL,m];done)) Om Om) (atS (bM (λ_ h=>aq.sq h) (λ_ h=>h))))),(5,.s 0)] 0 (ob g #[v,iN ((a+1)%(d.set a (⟨0,0⟩:Ak)).length),iN q.length] 353) (rs [(3,.l 0),(4,.t (tb (a:=iN q.length) (b:=i6 1) λ_ _ _ _=>mi (a:=q.length) (b:=1) Om Om)),(7,.s 0)] 0 (ob g #[v,iN ((a+1)%(d.set a (⟨0,0⟩:Ak)).length),iN (q.length-1)] 353) (rr (λ_=>[(0,.l 4),(1,.s 2)]) (λ_=>[(5,i6 0)]) [5] (λ_ L=>L.set 2 (ob (B0 e) #[iN ((d.getD ((a+0)%d.length) aJ).k),iN ((d.getD ((a+0)%d.length) aJ).w)] 285)) λr=>lf ab.zero [0,1] [] [2])))))
theorem RQ(g:Nat)(q:List Ak)(f:0<q.length):aa ZK 247 #[pt g 0] [pk (bH g q)] [0] (λ_=>[pk (bH g q.tail)]) (λ_=> .tuple #[.agg #[iN ((q.headD aJ).k),iN ((q.headD aJ).w)],i6 0]):=aa.pkZ Tryz.func247 λL h=>by
 obtain⟨v,b,a,d,rfl⟩:=h;refine⟨[0,1],λ_=>[ob g #[v,iN ((a+1)%(b.set a (⟨0,0⟩:Ak)).length),iN (q.length-1)] 353,fp v (b.set a (⟨0,0⟩:Ak))],?_,rfl,λE=>⟨rfl,rfl,⟨_,_,_,d.pop f,ALca (λn:Nat=>[ob g #[v,iN ((a+1)%(b.set a (⟨0,0⟩:Ak)).length),iN n] _,_]) (show q.length-1=q.tail.length by rw[aau])⟩⟩⟩;have l:=d.l;have j:=d.lt;have m:=d.n;exact fG Tryz.func247 λw i=>ra (λe=>[(2,pt (B0 e) 0),(3,i6 0)]) (λe=>[ob (B0 e) #[i6 0,i6 0] 285]) λe=>rr (λ_=>[(1,.c [0,1] [0,1] (RP g v b a q d Om)),(4,.s 2)]) (λ_=>[(3,i6 0)]) [3] (λ_ L=>((L.set 0 (ob g #[v,iN ((a+1)%(b.set a (⟨0,0⟩:Ak)).length),iN (q.length-1)] 353)).set 1 (fp v (b.set a (⟨0,0⟩:Ak)))).set 2 (ob (B0 e) #[iN ((b.getD ((a+0)%b.length) aJ).k),iN ((b.getD ((a+0)%b.length) aJ).w)] 285)) λo=>ak (.tuple #[.agg #[iN ((b.getD ((a+0)%b.length) aJ).k),iN ((b.getD ((a+0)%b.length) aJ).w)],i6 0]) ab.zero (by rw[←d.first f];rfl) [0,1] [] [2]
theorem RR(g:Nat)(v:Value)(b:List Ak)(a:Nat)(q:List Ak)(e:jw b a q)(m:q.length=0):aa ZK 269 #[pt g 0,i6 0] [ob g #[v,iN a,iN q.length] 353,fp v b] [1] (λ_=>[fp v b]) (λ_=> .tuple #[.agg #[i6 0,i6 0],i6 13]):=by
 have j:=e.l;have i:=e.lt;have k:=e.n;refine fG Tryz.func269 λw h=>ra (λc=>[(4,pt (B0 c) 0),(5,i6 0)]) (λc=>[ob (B0 c) #[i6 0,i6 0] 285]) λc=>ra (λd=>[(6,pt (B0 d) 0)]) (λd=>[ob (B0 d) #[i6 0,i6 0] 285]) λd=>r0 [(7,.l 0)] [(18,.bool (decide ((q.length:Int)≤0)))] [] ?_;have f:(decide ((q.length:Int)≤0))=true:=by exact cd Om
 exact cT (decide ((q.length:Int)≤0)) f (r0 [(0,.l 3),(1,.s 2)] [(5,i6 13)] [5] (lf ab.zero [1] [(0,0)] [2]))
theorem RS(g:Nat)(q:List Ak)(i:q.length=0):aa ZK 247 #[pt g 0] [pk (bH g q)] [0] (λ_=>[pk (bH g q)]) (λ_=> .tuple #[.agg #[i6 0,i6 0],i6 13]):=aa.pkZ Tryz.func247 λL f=>by
 obtain⟨v,b,a,d,rfl⟩:=f;refine⟨[1],λ_=>[fp v b],?_,rfl,λE=>⟨rfl,rfl,⟨_,_,_,d,rfl⟩⟩⟩;have h:=d.l;have k:=d.lt;have l:=d.n;exact fG Tryz.func247 λw j=>ra (λe=>[(2,pt (B0 e) 0),(3,i6 0)]) (λe=>[ob (B0 e) #[i6 0,i6 0] 285]) λe=>r0 [(1,.c [0,1] [1] (RR g v b a q d (by(simp only[LL,h,i];done)))),(4,.s 2)] [(3,i6 13)] [3] (lf ab.zero [1] [(0,0)] [2])
theorem FQ(g:Nat)(q:List Ak):aa ZK 247 #[pt g 0] [pk (bH g q)] [0] (λ_=>[pk (bH g q.tail)]) (λ_=> .tuple #[.agg #[i6 ((q.headD aJ).k:Int),i6 ((q.headD aJ).w:Int)],i6 (mq q)]):=by
 cases q with
 | nil=>exact RS g [] rfl
 | cons x q=>exact RQ g (x::q) (Nat.succ_pos _)
theorem RT:aa ZK 176 #[i6 256] [] [] (λE=>[ob (E.y 0) #[(E.val 0),i6 0,i6 0] 353,fp (E.val 0) (ZN 256 aJ)]) (λE=> .tuple #[pt ((E.y 0)) 0,i6 0]):=by
 exact fG Tryz.func176 λw b=>r0 [] [(2,.pointer none),(3,i6 0)] [] (rF [] 9 (rr (λ_=>[(1,sG mW 0 256)]) (λa=>[(2,pt (B3 a) 0),(3,i6 0)]) [2,3] (λa L=>L++[fp (.slice (some ⟨(a 1).y 0,0,none⟩) 256 256) (ZN 256 aJ),ob (B3 a) #[.slice (some ⟨(a 1).y 0,0,none⟩) 256 256,i6 0,i6 0] 353]) λa=>lf (.l [(a 3).y 0] [] [.slice (some ⟨(a 1).y 0,0,none⟩) 256 256]) [1,0] [] []))
theorem RU:aa ZK 176 #[i6 256] [] [] (λE=>[pk (bH (E.y 0) [])]) (λE=> .tuple #[pt ((E.y 0)) 0,i6 0]):=(RT).outs λE b a=>td ⟨_,_,_,RH,rfl⟩ a
end
section
open Go Go.RowKit Go.Shelf
structure Ev where
 k:Nat
 f:Nat
 t:Nat
deriving DecidableEq
def cV:Ev:=⟨0,0,0⟩
def zX(x:Ev):List Value:=[iN x.k,iN x.f,iN x.t]
def jx:Kd ZK Ev:=⟨zX,[i6 0,i6 0,i6 0],271,349,cV,3,λ_=>rfl,rfl,λ_=>rfl,eh.mk' Kr Kr rfl⟩
abbrev bc(v:Value)(xs:List Ev):aA:= .p (aq zX ([i6 0,i6 0,i6 0]) 349 v xs)
structure Rp where
 m:Mp
 j:Jb
 q:List Ak
structure eK (m:Mp) (a:Ak):Prop where
 k:(a.k=1∧a.w<m.R*m.B*m.M)∨(a.k=2∧a.w<m.R)
structure RW (m:Mp):Prop where
 Q: ∀x,m.R*m.B*m.M-m.res+m.P≤x→m.Q.getD x false=false
structure aO (r:Rp):Prop where
 m:ba r.m
 j:tm r.m r.j
 q: ∀a∈r.q,eK r.m a
 n:r.q.length≤256
 fr:RW r.m
abbrev ar(g a b:Nat)(r:Rp)(L:ah):Prop:=L=[ob g #[pt a 0,iN r.j.A,iN r.j.fr,iN r.j.tg,iN r.j.nx,pt b 0] 133,pk (aG a r.m),pk (bH b r.q)]
def qE(r:Rp)(w:Nat):Bool:=(r.m.Q.getD w false||(dz r.m&&decide (dG r.m≤w)))||(decide (r.j.A=1)&&decide (r.j.fr=w))
def qF(r:Rp)(w:Nat):Bool:=dF r.m w||(decide (r.j.A=2)&&decide (r.j.fr=w))
def dc(r:Rp)(a:Ak):Bool:=bif a.k==1 then qE r a.w else qF r a.w
def zY(a:Ak):List Ev:=[⟨5,a.w,a.k-1⟩]
def dg(r:Rp)(a:Ak):Rp:=bif a.k==1 then(bif dz r.m then{r with m:=qz r.m,j:=⟨1,a.w,dG r.m,0⟩} else r) else(bif dY r.m then{r with m:=qA r.m,j:=⟨2,a.w,fo r.m,0⟩} else r)
def gb(r:Rp)(a:Ak):List Ev:=bif a.k==1 then(bif dz r.m then[⟨3,a.w,dG r.m⟩] else zY a) else(bif dY r.m then[⟨4,a.w,fo r.m⟩] else zY a)
def bo(r:Rp)(a:Ak):Rp:=bif dc r a then r else bif r.j.A==0 then dg r a else{r with q:=qD r.q a}
def bR(r:Rp)(a:Ak):List Ev:=bif dc r a then[] else bif r.j.A==0 then gb r a else bif v8 r.q a==14 then zY a else[]
def aZ(r:Rp):Rp:={r with q:=r.q.tail}
def gJ(s:Rp×List Ev):Rp×List Ev:=bif dc (aZ s.1) (s.1.q.headD aJ) then(aZ s.1,s.2) else(dg (aZ s.1) (s.1.q.headD aJ),s.2++gb (aZ s.1) (s.1.q.headD aJ))
def af(s:Rp×List Ev):Nat→Rp×List Ev
 | 0=>s
 | k+1=>gJ (af s k)
def e3:Nat→Rp×List Ev→Rp×List Ev
 | 0,s=>s
 | n+1,s=>if s.1.j.A=0 then e3 n (gJ s) else s
def gS(r:Rp):Rp:={r with m:=bif r.j.A==1 then kr r.m r.j.fr r.j.tg else ju r.m r.j.fr r.j.tg,j:=kt}
def ae(r:Rp):Rp×List Ev:=(gS r,[⟨6,r.j.fr,r.j.tg⟩])
def cX(r:Rp):Rp×List Ev:=e3 r.q.length (ae r)
def br(r:Rp):Rp:={r with j:={r.j with nx:=r.j.nx+1}}
def eR(r:Rp):Rp×List Ev:=bif kQ r.m (br r).j then cX (br r) else(br r,[])
section
variable {m:Mp}
theorem RX(h:ba m)(hp:dz m=true):ba (qz m):=by
 have:m.P≠m.res:=by unfold dz at hp;simpa using hp
 have:=h.pg;exact⟨h.ly,h.ll,h.ld,h.ls,by show m.P+1≤m.res;omega,h.rk,h.lv,h.sp⟩
theorem RY(h:ba m)(hp:dY m=true):ba (qA m):=by
 have:m.F≠m.S:=by unfold dY at hp;simpa using hp
 have:=h.rk;exact⟨h.ly,h.ll,h.ld,h.ls,h.pg,by show m.F+1≤m.S;omega,h.lv,h.sp⟩
theorem RZ{l:List Nat}{h t k n b:Nat}(c: ∀i,i<n→l.getD i 0<b)(e:n=l.length)(ht:t<b): ∀i,i<n→(dB l h t k).getD i 0<b:=by
 intro i a;by_cases d:i<k
 ·unfold dB;rw[ZJ,ZS (by rw[ZQ,ZP];omega),aar,List.getElem?_take,ALifp d,ZM Om];have:=c i a;rw[ZJ,ZM Om] at this;show(if _=h then t else _)<b
  split
  ·exact ht
  ·exact this
 ·unfold dB;rw[ZJ,ZX (by rw[ZQ,ZP];omega),ZQ,ZP,aai,show k+(i-min k l.length)=i by omega,←ZJ];exact c i a
theorem R3(h:ba m){x t:Nat}(ht:t<m.R*m.B*m.M):ba (kr m x t):=
 ⟨h.ly,(Fy ..).trans h.ll,by show(m.Q.set x true).length=_;rw[Z3];exact h.ld,h.ls,h.pg,h.rk,RZ h.lv h.ll.symm ht,h.sp⟩
theorem R4(h:ba m){x t:Nat}(h0:m.R≤t)(h1:t<m.R+m.S):ba (ju m x t):=by
 refine⟨h.ly,h.ll,h.ld,by show(m.I.set x (t:Int)).length=_;rw[Z3];exact h.ls,h.pg,h.rk,h.lv,λi a=>?_⟩;show(m.I.set x (t:Int)).getD i 0= -1∨((m.R:Int)≤(m.I.set x (t:Int)).getD i 0∧(m.I.set x (t:Int)).getD i 0<((m.R+m.S:Nat):Int));have a:i<m.R:=a;have b:=h.ls;rw[ZJ,aae];by_cases e:x=i
 ·rw[ALifp e,ALifp Om];refine .inr ?_;show(m.R:Int)≤(t:Int)∧(t:Int)<((m.R+m.S:Nat):Int);omega
 ·rw[ALifn e,←ZJ];exact h.sp i a
theorem getD_set_ne{α:Type}{l:List α}{i j:Nat}{x d:α}(h:i≠j):(l.set i x).getD j d=l.getD j d:=by rw[ZJ,aae,ALifn h,←ZJ]
theorem FR{r:Rp}{a:Ak}(h:aO r)(i:eK r.m a)(b:dc r a=false):aO (dg r a):=by
 unfold dg;unfold dc at b;rcases i.k with⟨f,g⟩ | ⟨f,g⟩
 ·rw[f] at b⊢;have b:qE r a.w=false:=b;show aO (bif dz r.m then _ else _);cases c:dz r.m with
  | false=>exact h
  | true=>
   unfold qE at b;rw[c] at b;simp only[Bool.true_and,Z0,decide_eq_false_iff_not] at b;have d:r.m.P≠r.m.res:=by unfold dz at c;simpa using c
   have j:dG r.m=r.m.R*r.m.B*r.m.M-r.m.res+r.m.P:=by unfold dG;rw[ALifn d]
   have n:=h.m.pg;have o:=h.m.ly.rp;have l:a.w<dG r.m:=by omega
   refine⟨RX h.m c,⟨.inr (.inl ⟨rfl,?_⟩)⟩,λx e=>⟨(h.q x e).k⟩,h.n,⟨λx e=>h.fr.Q x ?_⟩⟩
   ·exact⟨g,by show dG r.m<r.m.R*r.m.B*r.m.M;omega,by show a.w≠dG r.m;omega,b.1.1,h.fr.Q _ (by show _≤dG r.m;omega),by show r.m.R*r.m.B*r.m.M-r.m.res≤dG r.m;omega,by show dG r.m<r.m.R*r.m.B*r.m.M-r.m.res+(r.m.P+1);omega,aan _,by show a.w<r.m.R*r.m.B*r.m.M-r.m.res+(r.m.P+1);omega⟩
   ·have e:r.m.R*r.m.B*r.m.M-r.m.res+(r.m.P+1)≤x:=e;omega
 ·rw[f] at b⊢;have b:qF r a.w=false:=b;show aO (bif dY r.m then _ else _);cases c:dY r.m with
  | false=>exact h
  | true=>
   unfold qF at b;rw[Z0] at b;have d:r.m.F≠r.m.S:=by unfold dY at c;simpa using c
   have j:fo r.m=r.m.R+r.m.F:=by unfold fo;rw[ALifn d]
   refine⟨RY h.m c,⟨.inr (.inr ⟨rfl,?_⟩)⟩,λx e=>⟨(h.q x e).k⟩,h.n,⟨h.fr.Q⟩⟩;exact⟨g,b.1,by show r.m.R≤fo r.m;omega,by show fo r.m<r.m.R+(r.m.F+1);omega,aan _⟩
theorem wa{r:Rp}(h:aO r)(c:r.j.A≠0):aO (gS r):=by
 unfold gS;rcases h.j.k with e | ⟨e,b⟩ | ⟨e,b⟩
 ·rw[e] at c;exact absurd rfl c
 ·rw[e];show aO {r with m:=kr r.m r.j.fr r.j.tg,j:=kt};refine⟨R3 h.m b.ht,⟨.inl rfl⟩,λx a=>⟨(h.q x a).k⟩,h.n,⟨λx a=>?_⟩⟩;have a:r.m.R*r.m.B*r.m.M-r.m.res+r.m.P≤x:=a;have:=b.f1;show(r.m.Q.set r.j.fr true).getD x false=false;rw[getD_set_ne Om];exact h.fr.Q x a
 ·rw[e];show aO {r with m:=ju r.m r.j.fr r.j.tg,j:=kt};have:=b.t1;have:=h.m.rk;exact⟨R4 h.m b.t0 Om,⟨.inl rfl⟩,λx a=>⟨(h.q x a).k⟩,h.n,⟨h.fr.Q⟩⟩
theorem tq{r:Rp}(h:aO r)(a:r.j.A≠0):r.j.A=1∨r.j.A=2:=by
 rcases h.j.k with e | ⟨e,_⟩ | ⟨e,_⟩
 ·rw[e] at a;exact absurd rfl a
 ·exact .inl e
 ·exact .inr e
theorem FT{r:Rp}(h:aO r):r.j.nx≤4096:=by
 rcases h.j.k with e | ⟨e,a⟩ | ⟨e,a⟩
 ·rw[e];exact aan _
 ·have:=a.nx;have:=h.m.O.bd.c64;omega
 ·have:=a.nx;have:=h.m.O.bd.bmc;omega
theorem qG{r:Rp}(h:aO r)(c:r.j.A≠0)(b:r.j.nx<eJ r.j.A r.m.B r.m.M r.m.C):aO (br r):=by
 refine⟨h.m,⟨?_⟩,h.q,h.n,h.fr⟩;rcases h.j.k with e | ⟨e,a⟩ | ⟨e,a⟩
 ·rw[e] at c;exact absurd rfl c
 ·rw[e] at b;exact .inr (.inl ⟨e,a.hf,a.ht,a.ne,a.df,a.dt,a.t0,a.t1,b,a.f1⟩)
 ·rw[e] at b;exact .inr (.inr ⟨e,a.hf,a.hs,a.t0,a.t1,b⟩)
theorem wb{r:Rp}(h:aO r):aO (aZ r):=⟨h.m,h.j,λx a=>h.q x (List.mem_of_mem_tail a),by show r.q.tail.length≤256;rw[aau];have:=h.n;omega,h.fr⟩
theorem ts{r:Rp}(h:aO r)(a:0<r.q.length):eK r.m (r.q.headD aJ):=by
 refine h.q _ ?_;cases e:r.q with
 | nil=>rw[e] at a;cases a
 | cons x q=>exact aaQ ..
theorem zZ{s:Rp×List Ev}(h:aO s.1)(c:0<s.1.q.length):aO (gJ s).1:=by
 have a:=wb h;have b:=ts h c;unfold gJ;cases d:dc (aZ s.1) (s.1.q.headD aJ) with
 | true=>exact a
 | false=>exact FR a ⟨b.k⟩ d
theorem R5(r:Rp)(a:Ak):(dg r a).q=r.q:=by
 unfold dg;cases a.k==1<;>cases dz r.m<;>cases dY r.m<;>rfl
theorem wc(r:Rp)(a:Ak):(gb r a).length=1:=by
 unfold gb;cases a.k==1<;>cases dz r.m<;>cases dY r.m<;>rfl
theorem z0(s:Rp×List Ev):(gJ s).1.q=s.1.q.tail:=by
 unfold gJ;cases dc (aZ s.1) (s.1.q.headD aJ) with
 | true=>rfl
 | false=>exact R5 _ _
theorem FU(s:Rp×List Ev):(gJ s).2.length≤s.2.length+1:=by
 unfold gJ;cases dc (aZ s.1) (s.1.q.headD aJ) with
 | true=>exact Nat.le_succ _
 | false=>show(s.2++gb _ _).length≤_;rw[ZO,wc];exact Z6 _
theorem wg(s:Rp×List Ev): ∀k,(af s k).1.q.length=s.1.q.length-k
 | 0=>rfl
 | k+1=>by rw[af,z0,aau,wg s k];omega
theorem z3(s:Rp×List Ev): ∀k,(af s k).2.length≤s.2.length+k
 | 0=>Z6 _
 | k+1=>by rw[af];exact aab (FU _) (by have:=z3 s k;omega)
theorem z4{s:Rp×List Ev}(h:aO s.1): ∀k,k≤s.1.q.length→aO (af s k).1
 | 0,_=>h
 | k+1,a=>zZ (z4 h k Om) (by rw[wg];omega)
theorem FV{s:Rp×List Ev}{k:Nat}(h:dc (aZ (af s k).1) ((af s k).1.q.headD aJ)=true):af s (k+1)=(aZ (af s k).1,(af s k).2):=by rw[af,gJ,h,ALct]
theorem FW{s:Rp×List Ev}{k:Nat}(h:dc (aZ (af s k).1) ((af s k).1.q.headD aJ)=false):af s (k+1)=(dg (aZ (af s k).1) ((af s k).1.q.headD aJ),(af s k).2++gb (aZ (af s k).1) ((af s k).1.q.headD aJ)):=by rw[af,gJ,h,ALcf]
theorem FX{s:Rp×List Ev}{k:Nat}(a:k<s.1.q.length)(h:e3 s.1.q.length s=e3 (s.1.q.length-k) (af s k))(h0:(af s k).1.j.A=0):e3 s.1.q.length s=e3 (s.1.q.length-(k+1)) (af s (k+1)):=by
 rw[h,show s.1.q.length-k=(s.1.q.length-(k+1))+1 by omega,e3,ALifp h0];rfl
theorem wh{q:List Ak}(h:q.length=0):q.tail=q:=by rw[List.length_eq_zero_iff.1 h];rfl
theorem wi{s:Rp×List Ev}(h0:s.1.j.A≠0)(n:Nat):e3 n s=s:=by
 cases n with
 | zero=>rfl
 | succ n=>rw[e3,ALifn h0]
end
end
section
open Go Go.RowKit Go.Shelf
theorem R6(R S B M C way a:Nat)(b:iD R S B M C way a):aa ZK 137 #[.agg #[iN R,iN S,iN B,iN M,iN C,iN way,iN a]] [] [] (λE=>[ob (E.y 0) #[pt ((E.y 1)) 0,i6 0,i6 0,i6 0,i6 0,pt ((E.y 2)) 0] 133,pk (aG (E.y 1) (lF R S B M C way a)),pk (bH (E.y 2) [])]) (λE=> .tuple #[pt ((E.y 0)) 0,i6 0]):=by
 have j:=b.O;have m:=b.rp;have k:=j.bd.rbm;have i:=b.G;have h:=b.r64;exact fG Tryz.func137 λw n=>ra (λg=>[(1,pt (B0 g) 0),(2,.pointer none),(3,i6 0)]) (λg=>[ob (B0 g) #[iN R,iN S,iN B,iN M,iN C,iN way,iN a] 25]) λg=>rr (λ_=>[(0,.l 0),(1,.c [] [1] (Rk R S B M C way a b))]) (λd=>[(4,pt ((B1 d)) 0),(5,i6 0)]) [] (λd L=>L++[pk (aG (B1 d) (lF R S B M C way a))]) λd=>rF [] 13 (rr (λ_=>[(0,.c [] [2] (RU))]) (λe=>[(6,pt ((B0 e)) 0),(5,i6 0)]) [5] (λe L=>L++[pk (bH (B0 e) [])]) λe=>rF [] 20 (rr N0 (λf=>[(2,pt (B3 f) 0),(3,i6 0)]) [2,3] (λf L=>L++[ob (B3 f) #[pt ((B1 d)) 0,i6 0,i6 0,i6 0,i6 0,pt ((B0 e)) 0] 133]) λf=>lf (.l [(f 3).y 0,(B1 d),(B0 e)] [] []) [3,1,2] [] []))
theorem R7(R S B M C way a:Nat)(b:iD R S B M C way a):aa ZK 137 #[.agg #[iN R,iN S,iN B,iN M,iN C,iN way,iN a]] [] [] (λE=>[pk (ar (E.y 0) (E.y 1) (E.y 2) ⟨lF R S B M C way a,kt,[]⟩)]) (λE=> .tuple #[pt ((E.y 0)) 0,i6 0]):=(R6 R S B M C way a b).outs λE d c=>td rfl c
theorem wj(g a b:Nat)(r:Rp)(d:aO r):aa ZK 23 #[pt g 0] [pk (ar g a b r)] [0] (λ_=>[pk (ar g a b r)]) (λ_=>pt a 0):=aa.pkZ Tryz.func23 λL e=>by
 obtain⟨rfl⟩:=e;refine⟨[1,2],λ_=>[pk (aG a r.m),pk (bH b r.q)],?_,rfl,λE=>⟨rfl,rfl,rfl⟩⟩;have c:=d.m;have m:=d.j;have i:=d.n;have k:=c.O;have f:=c.ly;have h:=c.np;exact fG Tryz.func23 λw j=>r0 [] [(2,.pointer none)] [] (r0 [(3,.l 0)] [(2,pt a 0)] [2] (lf ab.zero [1,2] [(0,0)] []))
theorem z5(g b c:Nat)(r:Rp)(e:aO r):aa ZK 27 #[pt g 0] [pk (ar g b c r)] [0] (λ_=>[pk (ar g b c r)]) (λ_=> .agg #[iN r.j.A,iN r.j.fr,iN r.j.tg,iN r.j.nx]):=aa.pkZ Tryz.func27 λL f=>by
 obtain⟨rfl⟩:=f;refine⟨[1,2],λ_=>[pk (aG b r.m),pk (bH c r.q)],?_,rfl,λE=>⟨rfl,rfl,rfl⟩⟩;have d:=e.m;have n:=e.j;have j:=e.n;have m:=d.O;have h:=d.ly;have i:=d.np;exact fG Tryz.func27 λw k=>ra (λa=>[(2,pt (B0 a) 0)]) (λa=>[ob (B0 a) #[i6 0,i6 0,i6 0,i6 0] 70]) λa=>rs [(3,.l 0),(4,.s 3)] 3 (ob (B0 a) #[iN r.j.A,iN r.j.fr,iN r.j.tg,iN r.j.nx] 70) (lf ab.zero [1,2] [(0,0)] [3])
theorem mY(g a b:Nat)(r:Rp):aa ZK 118 #[pt g 0] [ob g #[pt a 0,iN r.j.A,iN r.j.fr,iN r.j.tg,iN r.j.nx,pt b 0] 133,pk (aG a r.m),pk (bH b r.q)] [1,2] (λ_=>[pk (aG a r.m),pk (bH b r.q)]) (λ_=> .bool ((r.j.A:Int) != 0)):=by
 exact fG Tryz.func118 λw c=>r0 [] [(2,.bool false)] [] (r0 [(4,.l 0)] [(2,.bool ((r.j.A:Int) != 0))] [2] (lf ab.zero [1,2] [(0,0)] []))
theorem R8(g a d:Nat)(r:Rp)(e:aO r)(n:Nat)(p:n<(r.m.R*r.m.B*r.m.M-r.m.res)*r.m.C):aa ZK 143 #[pt g 0,iN n] [pk (ar g a d r)] [0] (λ_=>[pk (ar g a d r)]) (λ_=> .tuple #[iN (aH r.m r.j n),iN (ao r.m n),iN (aE r.m.G r.m.R r.m.B r.m.M (ao r.m n)),i6 0]):=aa.pkZ Tryz.func143 λL f=>by
 obtain⟨rfl⟩:=f;refine⟨[1,2],λ_=>[pk (aG a r.m),pk (bH d r.q)],?_,rfl,λE=>⟨rfl,rfl,rfl⟩⟩;have b:=e.m;have h:=e.j;have k:=e.n;have o:=b.O;have i:=b.ly;have j:=b.np;exact fG Tryz.func143 λw l=>r0 [] [(4,i6 0),(5,i6 0),(6,i6 0),(7,i6 0)] [] (r0 [(3,.m (ls 0 ([iN r.j.A,iN r.j.fr,iN r.j.tg,iN r.j.nx]))),(7,.m (ld 0 (pt a 0))),(9,.c [1] [1] (RC a r.m b r.j h n Om)),] [(4,iN (aH r.m r.j n)),(5,iN (ao r.m n)),(6,iN (aE r.m.G r.m.R r.m.B r.m.M (ao r.m n))),(7,i6 0)] [4,5,6,7] (lf ab.zero [1,2] [(0,0)] []))
theorem R9(g a d:Nat)(r:Rp)(e:aO r)(n:Int)(i:bG n (((r.m.R*r.m.B*r.m.M-r.m.res)*r.m.C:Nat):Int)=false):aa ZK 143 #[pt g 0,i6 n] [pk (ar g a d r)] [0] (λ_=>[pk (ar g a d r)]) (λ_=> .tuple #[i6 0,i6 0,i6 0,i6 12]):=aa.pkZ Tryz.func143 λL f=>by
 obtain⟨rfl⟩:=f;refine⟨[1,2],λ_=>[pk (aG a r.m),pk (bH d r.q)],?_,rfl,λE=>⟨rfl,rfl,rfl⟩⟩;have b:=e.m;have p:=e.j;have k:=e.n;have o:=b.O;have h:=b.ly;have j:=b.np;exact fG Tryz.func143 λw l=>r0 [] [(4,i6 0),(5,i6 0),(6,i6 0),(7,i6 0)] [] (r0 [(3,.m (ls 0 ([iN r.j.A,iN r.j.fr,iN r.j.tg,iN r.j.nx]))),(7,.m (ld 0 (pt a 0))),(9,.c [1] [1] (RB a r.m b r.j.A r.j.fr r.j.tg r.j.nx n i)),] [(4,i6 0),(5,i6 0),(6,i6 0),(7,i6 12)] [4,5,6,7] (lf ab.zero [1,2] [(0,0)] []))
theorem z7(k u:Nat)(g:1≤k)(e:k≤2):aa ZK 243 #[.agg #[iN k,iN u]] [] [] (λE=>[bc (E.val 0) ([(⟨5,u,k-1⟩:Ev)])]) (λE=>(E.val 0)):=by
 exact fG Tryz.func243 λw f=>ra (λd=>[(1,pt (B0 d) 0),(2,.slice none 0 0)]) (λd=>[ob (B0 d) #[iN k,iN u] 285]) λd=>rr (λ_=>[(1,.l 0),(3,.l 0),(4,.t (tb (a:=iN k) (b:=i6 1) λ_ _ _ _=>mi (a:=k) (b:=1) Om Om)),(6,g5 jx 1 1 [(⟨5,u,k-1⟩:Ev)])]) (λc=>[(2,.slice (some ⟨(c 6).y 0,0,none⟩) 1 1)]) [2] (λc L=>L++[bc (.slice (some ⟨(c 6).y 0,0,none⟩) 1 1) ([(⟨5,u,k-1⟩:Ev)])]) λc=>lf (.l [] [] [.slice (some ⟨(c 6).y 0,0,none⟩) 1 1]) [1] [] []
theorem Sa(g a f:Nat)(r:Rp)(i:aO r)(u:Nat)(x:u<r.m.R*r.m.B*r.m.M):aa ZK 240 #[pt g 0,.agg #[i6 1,iN u]] [pk (ar g a f r)] [0] (λ_=>[pk (ar g a f r)]) (λ_=> .bool (qE r u)):=aa.pkZ Tryz.func240 λL k=>by
 obtain⟨rfl⟩:=k;refine⟨[1,2],λ_=>[pk (aG a r.m),pk (bH f r.q)],?_,rfl,λE=>⟨rfl,rfl,rfl⟩⟩;have b:=i.m;have v:=i.j;have p:=i.n;have j:=b.O;have n:=b.ly;have o:=b.np;refine fG Tryz.func240 λw q=>ra (λd=>[(3,pt (B0 d) 0),(4,.bool false)]) (λd=>[ob (B0 d) #[i6 1,iN u] 285]) λd=>rr (λ_=>[(3,.l 0),(4,.c [1] [1] (jv a r.m b)),(7,.s 4)]) (λe=>[(5,pt (B6 e) 0)]) [] (λe L=>L++[ob (B6 e) #[iN r.m.R,iN r.m.S,iN r.m.B,iN r.m.M,iN r.m.C] 23]) λe=>r0 [(1,.l 3)] [(17,i6 1)] [] (rT [] 18 (r0 [(3,.l 0),(4,.c [1] [1] (Rb a r.m b))] [(6,iN (dG r.m)),(7,.bool (dz r.m))] [] (r0 [(1,.m (ld 3 (iN u))),(2,.t (tk (show Value.bool (decide ((u:Int)<0))= .bool false from ALca Value.bool (by exact a8 Om)))),(5,.m (ld 3 (iN u))),(6,.m (ls 4 ([iN r.m.R,iN r.m.S,iN r.m.B,iN r.m.M,iN r.m.C]))),(7,.c [] [] (mU r.m.R r.m.S r.m.B r.m.M r.m.C j)),(8,.t (tk (show Value.bool (decide ((((r.m.R*r.m.B)*r.m.M:Nat):Int)≤(u:Int)))= .bool false from ALca Value.bool (by exact a8 Om)))),(14,.m (ld 0 (pt a 0))),(16,.m (ld 3 (iN u))),(17,.c [1] [1] (zP a r.m b u Om)),(23,.m (ld 3 (iN u))),] [(55,.bool ((r.m.Q.getD u false)||((dz r.m)&&(decide (((dG r.m:Nat):Int)≤(u:Int))))))] [] ?_)));refine cB ((r.m.Q.getD u false)||((dz r.m)&&(decide (((dG r.m:Nat):Int)≤(u:Int))))) (λh=>?_) λh=>?_
 ·exact r0 [] [(4,.bool true)] [4] (ak (.bool true) ab.zero (by unfold qE;simp only[←zS,←mo];(repeat (rw[h]));rfl) [1,2] [(0,0)] [])
 exact r0 [(4,.m (ld 0 (iN r.j.A))),(6,.m (ld 3 (i6 1))),(13,.m (ld 0 (iN r.j.fr))),(15,.m (ld 3 (iN u))),] [(4,.bool (((r.j.A:Int)==1)&&((r.j.fr:Int)==(u:Int))))] [4] (ak (.bool (((r.j.A:Int)==1)&&((r.j.fr:Int)==(u:Int)))) ab.zero (by unfold qE;simp only[←zS,←mo];(repeat (rw[h]));rfl) [1,2] [(0,0)] [])
theorem Sb(g a h:Nat)(r:Rp)(j:aO r)(u:Nat)(y:u<r.m.R):aa ZK 240 #[pt g 0,.agg #[i6 2,iN u]] [pk (ar g a h r)] [0] (λ_=>[pk (ar g a h r)]) (λ_=> .bool (qF r u)):=aa.pkZ Tryz.func240 λL k=>by
 obtain⟨rfl⟩:=k;refine⟨[1,2],λ_=>[pk (aG a r.m),pk (bH h r.q)],?_,rfl,λE=>⟨rfl,rfl,rfl⟩⟩;have b:=j.m;have x:=j.j;have p:=j.n;have v:=b.O;have n:=b.ly;have o:=b.np;refine fG Tryz.func240 λw q=>ra (λe=>[(3,pt (B0 e) 0),(4,.bool false)]) (λe=>[ob (B0 e) #[i6 2,iN u] 285]) λe=>rr (λ_=>[(3,.l 0),(4,.c [1] [1] (jv a r.m b)),(7,.s 4)]) (λf=>[(5,pt (B6 f) 0)]) [] (λf L=>L++[ob (B6 f) #[iN r.m.R,iN r.m.S,iN r.m.B,iN r.m.M,iN r.m.C] 23]) λf=>r0 [(1,.l 3)] [(17,i6 2)] [] (rF [] 18 (rT [] 56 (r0 [(3,.m (ld 0 (pt a 0))),(5,.m (ld 3 (iN u))),(6,.c [1] [1] (FC a r.m b u Om)),] [(9,.bool (dF r.m u))] [] (r0 [(3,.m (ld 3 (iN u))),(4,.t (tk (show Value.bool (decide ((u:Int)<0))= .bool false from ALca Value.bool (by exact a8 Om)))),(8,.m (ld 3 (iN u))),(10,.m (ld 4 (iN r.m.R))),(11,.t (tk (show Value.bool (decide ((r.m.R:Int)≤(u:Int)))= .bool false from ALca Value.bool (by exact a8 Om))))] [(80,.bool (((dF r.m u)||false)||false))] [] ?_))));refine cB (((dF r.m u)||false)||false) (λi=>?_) λi=>?_
 ·exact r0 [] [(4,.bool true)] [4] (ak (.bool true) ab.zero (by unfold qF;simp only[←mo];have d:=i;simp only[abB] at d;rw[d];rfl) [1,2] [(0,0)] [])
 exact r0 [(4,.m (ld 0 (iN r.j.A))),(6,.m (ld 3 (i6 2))),(13,.m (ld 0 (iN r.j.fr))),(15,.m (ld 3 (iN u))),] [(4,.bool (((r.j.A:Int)==2)&&((r.j.fr:Int)==(u:Int))))] [4] (ak (.bool (((r.j.A:Int)==2)&&((r.j.fr:Int)==(u:Int)))) ab.zero (by unfold qF;simp only[←mo];have d:=i;simp only[abB] at d;rw[d];rfl) [1,2] [(0,0)] [])
theorem Sc(g a b:Nat)(r:Rp)(h:aO r)(u:Nat)(hp:dz r.m=true):aa ZK 241 #[pt g 0,.agg #[i6 1,iN u]] [pk (ar g a b r)] [0] (λE=>[pk (ar g a b {r with m:=qz r.m,j:=⟨1,u,dG r.m,0⟩}),bc (E.val 0) ([(⟨3,u,dG r.m⟩:Ev)])]) (λE=>(E.val 0)):=aa.pkW (n:=1) (N:=λE=>[bc (E.val 0) ([(⟨3,u,dG r.m⟩:Ev)])]) (enters_of Tryz.func241 Kr rfl) λL i=>by
 obtain⟨rfl⟩:=i;refine⟨[0,1,2],λ_=>[ob g #[pt a 0,i6 1,iN u,iN (dG r.m),i6 0,pt b 0] 133,pk (aG a (qz r.m)),pk (bH b r.q)],?_,rfl,λE=>⟨rfl,rfl,rfl⟩⟩;have e:=h.m;have v:=h.j;have p:=h.n;have t:=e.O;have k:=e.ly;have o:=e.np;exact fG Tryz.func241 λw q=>ra (λf=>[(3,pt (B0 f) 0),(4,.slice none 0 0)]) (λf=>[ob (B0 f) #[i6 1,iN u] 285]) λf=>r0 [] [(5,i6 3)] [] (r0 [(3,.l 0)] [(6,.func (.func 265) #[pt a 0] #[])] [] (rF [(1,.l 3)] 16 (rr (λ_=>[(1,.c [1] [1] (Rc a r.m e Om))]) (λ_=>[(7,iN (dG r.m)),(8,i6 0)]) [] (λ_ L=>L.set 1 ((pk (aG a (qz r.m))))) λx=>rF [] 28 (rs [(2,.l 3),(4,.l 3),(9,.s 0)] 0 (ob g #[pt a 0,i6 1,iN u,iN (dG r.m),i6 0,pt b 0] 133) (rr (λ_=>[(2,.l 3),(5,g5 jx 4 1 [(⟨3,u,dG r.m⟩:Ev)])]) (λd=>[(4,.slice (some ⟨(d 5).y 0,0,none⟩) 1 1)]) [4] (λd L=>L++[bc (.slice (some ⟨(d 5).y 0,0,none⟩) 1 1) ([(⟨3,u,dG r.m⟩:Ev)])]) λd=>lf (.l [] [] [.slice (some ⟨(d 5).y 0,0,none⟩) 1 1]) [0,1,2,4] [] [])))))
theorem Sd(g b f:Nat)(r:Rp)(h:aO r)(u:Nat)(hp:dz r.m=false):aa ZK 241 #[pt g 0,.agg #[i6 1,iN u]] [pk (ar g b f r)] [0] (λE=>[pk (ar g b f r),bc (E.val 0) ([(⟨5,u,1-1⟩:Ev)])]) (λE=>(E.val 0)):=aa.pkW (n:=1) (N:=λE=>[bc (E.val 0) ([(⟨5,u,1-1⟩:Ev)])]) (enters_of Tryz.func241 Kr rfl) λL i=>by
 obtain⟨rfl⟩:=i;refine⟨[1,2],λ_=>[pk (aG b r.m),pk (bH f r.q)],?_,rfl,λE=>⟨rfl,rfl,rfl⟩⟩;have d:=h.m;have q:=h.j;have m:=h.n;have p:=d.O;have j:=d.ly;have k:=d.np;exact fG Tryz.func241 λw o=>ra (λe=>[(3,pt (B0 e) 0),(4,.slice none 0 0)]) (λe=>[ob (B0 e) #[i6 1,iN u] 285]) λe=>r0 [] [(5,i6 3)] [] (r0 [(3,.l 0)] [(6,.func (.func 265) #[pt b 0] #[])] [] (rF [(1,.l 3)] 16 (r0 [(1,.c [1] [1] (Rd b r.m d Om))] [(7,i6 0),(8,i6 52)] [] (rT [] 28 (rr (λ_=>[(0,.l 3),(1,.c [] [4] (z7 1 u Om Om))]) (λa=>[(4,((a 1).val 0))]) [4] (λa L=>L++[bc ((a 1).val 0) ([(⟨5,u,1-1⟩:Ev)])]) λa=>lf (.l [] [] [((a 1).val 0),(a 1).val 0]) [1,2,4] [(0,0)] [])))))
theorem Se(g a b:Nat)(r:Rp)(h:aO r)(u:Nat)(hp:dY r.m=true):aa ZK 241 #[pt g 0,.agg #[i6 2,iN u]] [pk (ar g a b r)] [0] (λE=>[pk (ar g a b {r with m:=qA r.m,j:=⟨2,u,fo r.m,0⟩}),bc (E.val 0) ([(⟨4,u,fo r.m⟩:Ev)])]) (λE=>(E.val 0)):=aa.pkW (n:=1) (N:=λE=>[bc (E.val 0) ([(⟨4,u,fo r.m⟩:Ev)])]) (enters_of Tryz.func241 Kr rfl) λL i=>by
 obtain⟨rfl⟩:=i;refine⟨[0,1,2],λ_=>[ob g #[pt a 0,i6 2,iN u,iN (fo r.m),i6 0,pt b 0] 133,pk (aG a (qA r.m)),pk (bH b r.q)],?_,rfl,λE=>⟨rfl,rfl,rfl⟩⟩;have e:=h.m;have v:=h.j;have p:=h.n;have t:=e.O;have k:=e.ly;have o:=e.np;exact fG Tryz.func241 λw q=>ra (λf=>[(3,pt (B0 f) 0),(4,.slice none 0 0)]) (λf=>[ob (B0 f) #[i6 2,iN u] 285]) λf=>r0 [] [(5,i6 3)] [] (r0 [(3,.l 0)] [(6,.func (.func 265) #[pt a 0] #[])] [] (rT [(1,.l 3)] 16 (r0 [(3,.l 0)] [(5,i6 4),(6,.func (.func 266) #[pt a 0] #[])] [5,6] (rr (λ_=>[(1,.c [1] [1] (Rf a r.m e Om))]) (λ_=>[(7,iN (fo r.m)),(8,i6 0)]) [] (λ_ L=>L.set 1 ((pk (aG a (qA r.m))))) λx=>rF [] 28 (rs [(2,.l 3),(4,.l 3),(9,.s 0)] 0 (ob g #[pt a 0,i6 2,iN u,iN (fo r.m),i6 0,pt b 0] 133) (rr (λ_=>[(2,.l 3),(5,g5 jx 4 1 [(⟨4,u,fo r.m⟩:Ev)])]) (λd=>[(4,.slice (some ⟨(d 5).y 0,0,none⟩) 1 1)]) [4] (λd L=>L++[bc (.slice (some ⟨(d 5).y 0,0,none⟩) 1 1) ([(⟨4,u,fo r.m⟩:Ev)])]) λd=>lf (.l [] [] [.slice (some ⟨(d 5).y 0,0,none⟩) 1 1]) [0,1,2,4] [] []))))))
theorem Sf(g a f:Nat)(r:Rp)(h:aO r)(u:Nat)(hp:dY r.m=false):aa ZK 241 #[pt g 0,.agg #[i6 2,iN u]] [pk (ar g a f r)] [0] (λE=>[pk (ar g a f r),bc (E.val 0) ([(⟨5,u,2-1⟩:Ev)])]) (λE=>(E.val 0)):=aa.pkW (n:=1) (N:=λE=>[bc (E.val 0) ([(⟨5,u,2-1⟩:Ev)])]) (enters_of Tryz.func241 Kr rfl) λL i=>by
 obtain⟨rfl⟩:=i;refine⟨[1,2],λ_=>[pk (aG a r.m),pk (bH f r.q)],?_,rfl,λE=>⟨rfl,rfl,rfl⟩⟩;have d:=h.m;have q:=h.j;have m:=h.n;have p:=d.O;have j:=d.ly;have k:=d.np;exact fG Tryz.func241 λw o=>ra (λe=>[(3,pt (B0 e) 0),(4,.slice none 0 0)]) (λe=>[ob (B0 e) #[i6 2,iN u] 285]) λe=>r0 [] [(5,i6 3)] [] (r0 [(3,.l 0)] [(6,.func (.func 265) #[pt a 0] #[])] [] (rT [(1,.l 3)] 16 (r0 [(3,.l 0)] [(5,i6 4),(6,.func (.func 266) #[pt a 0] #[])] [5,6] (r0 [(1,.c [1] [1] (Rg a r.m d Om))] [(7,i6 0),(8,i6 52)] [] (rT [] 28 (rr (λ_=>[(0,.l 3),(1,.c [] [4] (z7 2 u Om Om))]) (λb=>[(4,((b 1).val 0))]) [4] (λb L=>L++[bc ((b 1).val 0) ([(⟨5,u,2-1⟩:Ev)])]) λb=>lf (.l [] [] [((b 1).val 0),(b 1).val 0]) [1,2,4] [(0,0)] []))))))
end
section
open Go Go.RowKit Go.Shelf
theorem Sg(g b c:Nat)(r:Rp)(f:aO r)(a:Ak)(h:eK r.m a):aa ZK 240 #[pt g 0,.agg #[iN a.k,iN a.w]] [pk (ar g b c r)] [0] (λ_=>[pk (ar g b c r)]) (λ_=> .bool (dc r a)):=by
 obtain⟨k,u⟩:=a;rcases h.k with⟨d,e⟩ | ⟨d,e⟩
 ·cases d;exact Sa g b c r f u e
 ·cases d;exact Sb g b c r f u e
theorem Sh(g b c:Nat)(r:Rp)(e:aO r)(a:Ak)(h:eK r.m a):aa ZK 241 #[pt g 0,.agg #[iN a.k,iN a.w]] [pk (ar g b c r)] [0] (λE=>[pk (ar g b c (dg r a)),bc (E.val 0) (gb r a)]) (λE=>E.val 0):=by
 obtain⟨k,u⟩:=a;unfold dg gb;rcases h.k with⟨f,i⟩ | ⟨f,i⟩
 ·cases f;cases d:dz r.m with
  | true=>exact Sc g b c r e u d
  | false=>exact Sd g b c r e u d
 ·cases f;cases d:dY r.m with
  | true=>exact Se g b c r e u d
  | false=>exact Sf g b c r e u d
abbrev qH(g a b:Nat)(r:Rp):ah:=[ob g #[pt a 0,iN r.j.A,iN r.j.fr,iN r.j.tg,iN r.j.nx,pt b 0] 133,pk (aG a r.m),pk (bH b r.q)]
theorem pB(g b c:Nat)(r:Rp)(e:aO r)(a:Ak)(d:eK r.m a):aa ZK 240 #[pt g 0,.agg #[iN a.k,iN a.w]] (qH g b c r) [0,1,2] (λ_=>qH g b c r) (λ_=> .bool (dc r a)):=(Sg g b c r e a d).unpk (N:=λ_=>[])
theorem z8(g b c:Nat)(r:Rp)(e:aO r)(a:Ak)(d:eK r.m a):aa ZK 241 #[pt g 0,.agg #[iN a.k,iN a.w]] (qH g b c r) [0,1,2] (λE=>qH g b c (dg r a)++[bc (E.val 0) (gb r a)]) (λE=>E.val 0):=(Sh g b c r e a d).unpk (N:=λE=>[bc (E.val 0) (gb r a)])
theorem Si(g b d:Nat)(r:Rp)(e:aO r)(a:Ak)(j:eK r.m a)(hv:dc r a=true):aa ZK 207 #[pt g 0,.agg #[iN a.k,iN a.w]] [pk (ar g b d r)] [0] (λE=>[pk (ar g b d r),bc (E.val 0) ([])]) (λE=>(E.val 0)):=aa.pkW (n:=1) (N:=λE=>[bc (E.val 0) ([])]) (enters_of Tryz.func207 Kr rfl) λL i=>by
 obtain⟨rfl⟩:=i;refine⟨[1,2],λ_=>[pk (aG b r.m),pk (bH d r.q)],?_,rfl,λE=>⟨rfl,rfl,rfl⟩⟩;have h:=e.m;have s:=e.j;have o:=e.n;have q:=h.O;have k:=h.ly;have m:=h.np;exact fG Tryz.func207 λw p=>ra (λf=>[(3,pt (B0 f) 0),(4,.slice none 0 0)]) (λf=>[ob (B0 f) #[iN a.k,iN a.w] 285]) λf=>rT [(1,.l 3),(2,.c [0,1,2] [0,1,2] (aa.v ((pB g b d r e a j)) λ_=>ALca Value.bool (show(dc r a)=true from(by exact hv))))] 5 (r0 [] [(4,.slice none 0 0)] [4] (cz jx (lf (.l [] [] [.slice none 0 0]) [1,2,4] [(0,0)] [])))
theorem Sj(g b d:Nat)(r:Rp)(f:aO r)(a:Ak)(k:eK r.m a)(hv:dc r a=false)(s:r.j.A=0):aa ZK 207 #[pt g 0,.agg #[iN a.k,iN a.w]] [pk (ar g b d r)] [0] (λE=>[pk (ar g b d (dg r a)),bc (E.val 0) (gb r a)]) (λE=>(E.val 0)):=aa.pkW (n:=1) (N:=λE=>[bc (E.val 0) (gb r a)]) (enters_of Tryz.func207 Kr rfl) λL p=>by
 obtain⟨rfl⟩:=p;refine⟨[0,1,2],λ_=>[ob g #[pt b 0,iN ((dg r a).j.A),iN ((dg r a).j.fr),iN ((dg r a).j.tg),iN ((dg r a).j.nx),pt d 0] 133,pk (aG b (dg r a).m),pk (bH d (dg r a).q)],?_,rfl,λE=>⟨rfl,rfl,rfl⟩⟩;have i:=f.m;have z:=f.j;have v:=f.n;have y:=i.O;have t:=i.ly;have u:=i.np;refine fG Tryz.func207 λw x=>ra (λh=>[(3,pt (B0 h) 0),(4,.slice none 0 0)]) (λh=>[ob (B0 h) #[iN a.k,iN a.w] 285]) λh=>rF [(1,.l 3),(2,.c [0,1,2] [0,1,2] (aa.v ((pB g b d r f a k)) λ_=>ALca Value.bool (show(dc r a)=false from(by exact hv))))] 5 (r0 [(1,.c [0,1,2] [1,2] (mY g b d r))] [(9,.bool (!((r.j.A:Int) != 0)))] [] ?_);have o:(!((r.j.A:Int) != 0))=true:=by rw[s];rfl
 exact cT (!((r.j.A:Int) != 0)) o (rr (λ_=>[(1,.l 3),(2,.c [0,1,2] [0,1,2,4] (z8 g b d r f a k))]) (λe=>[(4,(e 2).val 0)]) [4] (λe L=>((L.set 0 (ob g #[pt b 0,iN ((dg r a).j.A),iN ((dg r a).j.fr),iN ((dg r a).j.tg),iN ((dg r a).j.nx),pt d 0] 133)).set 1 ((pk (aG b (dg r a).m)))).set 2 ((pk (bH d (dg r a).q)))++[bc ((e 2).val 0) (gb r a)]) λe=>lf (.l [] [] [((e 2).val 0),(e 2).val 0]) [0,1,2,4] [] [])
theorem Sk(g d b:Nat)(r:Rp)(e:aO r)(a:Ak)(m:eK r.m a)(hv:dc r a=false)(u:r.j.A≠0)(x:a∈r.q):aa ZK 207 #[pt g 0,.agg #[iN a.k,iN a.w]] [pk (ar g d b r)] [0] (λE=>[pk (ar g d b r),bc (E.val 0) ([])]) (λE=>(E.val 0)):=aa.pkW (n:=1) (N:=λE=>[bc (E.val 0) ([])]) (enters_of Tryz.func207 Kr rfl) λL k=>by
 obtain⟨rfl⟩:=k;refine⟨[1,2],λ_=>[pk (aG d r.m),pk (bH b r.q)],?_,rfl,λE=>⟨rfl,rfl,rfl⟩⟩;have h:=e.m;have v:=e.j;have q:=e.n;have t:=h.O;have o:=h.ly;have p:=h.np;refine fG Tryz.func207 λw s=>ra (λf=>[(3,pt (B0 f) 0),(4,.slice none 0 0)]) (λf=>[ob (B0 f) #[iN a.k,iN a.w] 285]) λf=>rF [(1,.l 3),(2,.c [0,1,2] [0,1,2] (aa.v ((pB g d b r e a m)) λ_=>ALca Value.bool (show(dc r a)=false from(by exact hv))))] 5 (r0 [(1,.c [0,1,2] [1,2] (mY g d b r))] [(9,.bool (!((r.j.A:Int) != 0)))] [] ?_);have i:(!((r.j.A:Int) != 0))=false:=by(have j:((r.j.A:Int)==0)=false:=by rw[dj];omega);(rw[bne,j];rfl)
 exact cF (!((r.j.A:Int) != 0)) i (rF [(3,.l 0),(4,.l 3),(5,.c [2] [2] (RM b r.q a Om))] 22 (r0 [] [(4,.slice none 0 0)] [4] (cz jx (lf (.l [] [] [.slice none 0 0]) [1,2,4] [(0,0)] []))))
theorem Sm(g e b:Nat)(r:Rp)(f:aO r)(a:Ak)(k:eK r.m a)(hv:dc r a=false)(A:r.j.A≠0)(x:a∉r.q)(s:r.q.length=256):aa ZK 207 #[pt g 0,.agg #[iN a.k,iN a.w]] [pk (ar g e b r)] [0] (λE=>[pk (ar g e b r),bc (E.val 0) ([(⟨5,a.w,a.k-1⟩:Ev)])]) (λE=>(E.val 0)):=aa.pkW (n:=1) (N:=λE=>[bc (E.val 0) ([(⟨5,a.w,a.k-1⟩:Ev)])]) (enters_of Tryz.func207 Kr rfl) λL p=>by
 obtain⟨rfl⟩:=p;refine⟨[1,2],λ_=>[pk (aG e r.m),pk (bH b r.q)],?_,rfl,λE=>⟨rfl,rfl,rfl⟩⟩;have j:=f.m;have B:=f.j;have v:=f.n;have z:=j.O;have t:=j.ly;have u:=j.np;have q:1≤a.k∧a.k≤2:=by rcases k.k with h | h<;>omega
 refine fG Tryz.func207 λw y=>ra (λi=>[(3,pt (B0 i) 0),(4,.slice none 0 0)]) (λi=>[ob (B0 i) #[iN a.k,iN a.w] 285]) λi=>rF [(1,.l 3),(2,.c [0,1,2] [0,1,2] (aa.v ((pB g e b r f a k)) λ_=>ALca Value.bool (show(dc r a)=false from(by exact hv))))] 5 (r0 [(1,.c [0,1,2] [1,2] (mY g e b r))] [(9,.bool (!((r.j.A:Int) != 0)))] [] ?_);have m:(!((r.j.A:Int) != 0))=false:=by(have o:((r.j.A:Int)==0)=false:=by rw[dj];omega);(rw[bne,o];rfl)
 exact cF (!((r.j.A:Int) != 0)) m (rT [(3,.l 0),(4,.l 3),(5,.c [2] [2] (RN b r.q a x (by(simp only[LL,s];done))))] 22 (rr (λ_=>[(0,.l 3),(1,.c [] [4] (z7 a.k a.w Om Om))]) (λd=>[(4,((d 1).val 0))]) [4] (λd L=>L++[bc ((d 1).val 0) ([(⟨5,a.w,a.k-1⟩:Ev)])]) λd=>lf (.l [] [] [((d 1).val 0),(d 1).val 0]) [1,2,4] [(0,0)] []))
theorem Sn(g d b:Nat)(r:Rp)(e:aO r)(a:Ak)(m:eK r.m a)(hv:dc r a=false)(x:r.j.A≠0)(t:a∉r.q)(z:r.q.length<256):aa ZK 207 #[pt g 0,.agg #[iN a.k,iN a.w]] [pk (ar g d b r)] [0] (λE=>[pk (ar g d b {r with q:=r.q++[a]}),bc (E.val 0) ([])]) (λE=>(E.val 0)):=aa.pkW (n:=1) (N:=λE=>[bc (E.val 0) ([])]) (enters_of Tryz.func207 Kr rfl) λL k=>by
 obtain⟨rfl⟩:=k;refine⟨[1,2],λ_=>[pk (aG d r.m),pk (bH b (r.q++[a]))],?_,rfl,λE=>⟨rfl,rfl,rfl⟩⟩;have h:=e.m;have y:=e.j;have s:=e.n;have v:=h.O;have o:=h.ly;have p:=h.np;refine fG Tryz.func207 λw u=>ra (λf=>[(3,pt (B0 f) 0),(4,.slice none 0 0)]) (λf=>[ob (B0 f) #[iN a.k,iN a.w] 285]) λf=>rF [(1,.l 3),(2,.c [0,1,2] [0,1,2] (aa.v ((pB g d b r e a m)) λ_=>ALca Value.bool (show(dc r a)=false from(by exact hv))))] 5 (r0 [(1,.c [0,1,2] [1,2] (mY g d b r))] [(9,.bool (!((r.j.A:Int) != 0)))] [] ?_);have i:(!((r.j.A:Int) != 0))=false:=by(have j:((r.j.A:Int)==0)=false:=by rw[dj];omega);(rw[bne,j];rfl)
 exact cF (!((r.j.A:Int) != 0)) i (rr (λ_=>[(3,.l 0),(4,.l 3),(5,.c [2] [2] (RO b r.q a t Om))]) (λ_=>[(22,.bool false)]) [] (λ_ L=>L.set 2 ((pk (bH b (r.q++[a]))))) λA=>cF _ rfl (r0 [] [(4,.slice none 0 0)] [4] (cz jx (lf (.l [] [] [.slice none 0 0]) [1,2,4] [(0,0)] []))))
theorem qI(g b c:Nat)(r:Rp)(f:aO r)(a:Ak)(h:eK r.m a):aa ZK 207 #[pt g 0,.agg #[iN a.k,iN a.w]] [pk (ar g b c r)] [0] (λE=>[pk (ar g b c (bo r a)),bc (E.val 0) (bR r a)]) (λE=>E.val 0):=by
 unfold bo bR;cases j:dc r a with
 | true=>exact Si g b c r f a h j
 | false=>
  rw[ALcf,ALcf];by_cases e:r.j.A=0
  ·rw[e];exact Sj g b c r f a h j e
  ·rw[show(r.j.A==0)=false from dj.2 e,ALcf,ALcf];unfold qD v8;by_cases d:a∈r.q
   ·rw[ALifp d,ALifp d];exact Sk g b c r f a h j e d
   ·rw[ALifn d,ALifn d];by_cases i:r.q.length=256
    ·rw[ALifp i,ALifp i];exact Sm g b c r f a h j e d i
    ·rw[ALifn i,ALifn i];exact Sn g b c r f a h j e d (by have:=f.n;omega)
theorem So(g a d:Nat)(r:Rp)(e:aO r)(s:r.j.A≠0)(f:r.j.nx<eJ r.j.A r.m.B r.m.M r.m.C):aa ZK 84 #[pt g 0] [pk (ar g a d r)] [0] (λ_=>[pk (ar g a d r)]) (λ_=> .tuple #[iN (aU r.m r.j.A r.j.fr r.j.nx),iN (aU r.m r.j.A r.j.tg r.j.nx),i6 0]):=aa.pkZ Tryz.func84 λL k=>by
 obtain⟨rfl⟩:=k;refine⟨[1,2],λ_=>[pk (aG a r.m),pk (bH d r.q)],?_,rfl,λE=>⟨rfl,rfl,rfl⟩⟩;have b:=e.m;have h:=e.j;have o:=e.n;have q:=b.O;have l:=b.ly;have n:=b.np;refine fG Tryz.func84 λw p=>r0 [] [(2,i6 0),(3,i6 0),(4,i6 0)] [] (r0 [(1,.c [0,1,2] [1,2] (mY g a d r))] [(7,.bool (!((r.j.A:Int) != 0)))] [] ?_);have i:(!((r.j.A:Int) != 0))=false:=by(have j:((r.j.A:Int)==0)=false:=by rw[dj];omega);(rw[bne,j];rfl)
 exact cF (!((r.j.A:Int) != 0)) i (r0 [(3,.m (ls 0 ([iN r.j.A,iN r.j.fr,iN r.j.tg,iN r.j.nx]))),(7,.m (ld 0 (pt a 0))),(12,.m (ld 0 (iN r.j.nx))),(13,.c [1] [1] (RD a r.m b r.j h r.j.nx f)),] [(2,iN (aU r.m r.j.A r.j.fr r.j.nx)),(4,i6 0)] [2,4] (rT [] 26 (r0 [(3,.m (ls 0 ([iN r.j.A,iN r.j.fr,iN r.j.tg,iN r.j.nx]))),(7,.m (ld 0 (pt a 0))),(12,.m (ld 0 (iN r.j.nx))),(13,.c [1] [1] (RE a r.m b r.j h r.j.nx f)),] [(3,iN (aU r.m r.j.A r.j.tg r.j.nx)),(4,i6 0)] [3,4] (r0 [] [(2,iN (aU r.m r.j.A r.j.fr r.j.nx)),(3,iN (aU r.m r.j.A r.j.tg r.j.nx)),(4,i6 0)] [2,3,4] (lf ab.zero [1,2] [(0,0)] [])))))
theorem Sp(g a b:Nat)(r:Rp)(e:aO r)(i:r.j.A=0):aa ZK 84 #[pt g 0] [pk (ar g a b r)] [0] (λ_=>[pk (ar g a b r)]) (λ_=> .tuple #[i6 0,i6 0,i6 51]):=aa.pkZ Tryz.func84 λL h=>by
 obtain⟨rfl⟩:=h;refine⟨[1,2],λ_=>[pk (aG a r.m),pk (bH b r.q)],?_,rfl,λE=>⟨rfl,rfl,rfl⟩⟩;have d:=e.m;have o:=e.j;have l:=e.n;have n:=d.O;have j:=d.ly;have k:=d.np;refine fG Tryz.func84 λw m=>r0 [] [(2,i6 0),(3,i6 0),(4,i6 0)] [] (r0 [(1,.c [0,1,2] [1,2] (mY g a b r))] [(7,.bool (!((r.j.A:Int) != 0)))] [] ?_);have f:(!((r.j.A:Int) != 0))=true:=by rw[i];rfl
 exact cT (!((r.j.A:Int) != 0)) f (r0 [] [(2,i6 0),(3,i6 0),(4,i6 51)] [2,3,4] (lf ab.zero [1,2] [(0,0)] []))
end
end E
end Go.Proofs.YtbcodenfkijdnaaGreat
