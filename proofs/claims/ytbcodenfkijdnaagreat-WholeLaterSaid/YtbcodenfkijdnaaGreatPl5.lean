/- WholeLater, in 7 texts: part 5. For every input; no condition. -/
import Derived.Test.YtbcodenfkijdnaaGreatPl4
set_option linter.unusedVariables false
set_option linter.unusedSimpArgs false
set_option maxRecDepth 100000
namespace Go.Proofs.YtbcodenfkijdnaaGreat
open Go Go.RowKit Go.Shelf
open List renaming replicate→WJ,range→WM,length_replicate→WN,length_range→WO,mem_append_right→WQ,length_map→WR,getD_eq_getElem?_getD→WS,sublist_append_right→WT,length_append→W5,append_assoc→W7,append_nil→W9,getElem?_range→Xc,getElem?_replicate→Xf,flatten→Xj,getElem?_map→Xm,flatten_cons→Xn,sublist_append_left→Xo,not_mem_nil→Xr,flatten_append→Xu,flatten_nil→XA,map_append→XC,getElem?_eq_getElem→XF,Perm→XG,mem_append_left→XI,getElem?_set→XL
open Go.Proofs.Tryz renaming prog→WK
open Nat renaming le_trans→WL,mul_le_mul_right→WU,add_mul_mod_self_right→WV,succ_le_succ→WW,div_eq_of_lt→WX,add_comm→WY,add_mul_div_right→WZ,mod_eq_of_lt→W4,mul_assoc→W6,zero_le→W8,lt_of_lt_of_le→Xa,zero_add→Xb,mul_comm→Xd,succ_mul→Xe,le_mul_of_pos_right→Xg,noConfusion→Xh,le_succ→Xi,le_refl→Xk,add_mul→Xl,mod_lt→Xp,not_lt_zero→Xs,lt_of_le_of_lt→Xv,le_succ_of_le→Xw,zero_mul→Xx,add_zero→Xy,le_add_right→XB,mul_add_div→XD,mul_add_mod→XE,div_lt_of_lt_mul→XK,blt_eq→XM,div_add_mod'→XN,div_add_mod→XP
open Bool renaming and_eq_true→Xq
open Option renaming map_some→Xz
open Classical renaming choose→XH
open Go.Result renaming andThen_ok→XJ
namespace E
theorem FD(b:Nat)(k u:Int)(d:List UInt8)(m:Nat)(a g h i j n o p:Int)(t:a<1∨6<a):aa WK 95 #[pt b 67] [ob b (sV k u d m a g h i j n o p) 50] [] N0 (λ_=> .slice none 0 0):=by
 refine fG Tryz.func95 λw cs=>r0 [] [(2,.slice none 0 0)] [] (r0 [] [(3,pt b 68)] [] (r0 [(3,.l 0)] [(10,i6 a)] [] (r0 [] [(11,.bool (a==1))] [] ?_)));have q:(a==1)=false:=by rw[dN];omega
 refine cF (a==1) q (r0 [] [(29,.bool (a==2))] [] ?_);have r:(a==2)=false:=by rw[dN];omega
 refine cF (a==2) r (r0 [] [(50,.bool (a==3))] [] ?_);have s:(a==3)=false:=by rw[dN];omega
 refine cF (a==3) s (r0 [] [(68,.bool (a==4))] [] ?_);have c:(a==4)=false:=by rw[dN];omega
 refine cF (a==4) c (r0 [] [(86,.bool (a==5))] [] ?_);have e:(a==5)=false:=by rw[dN];omega
 refine cF (a==5) e (r0 [] [(98,.bool (a==6))] [] ?_);have f:(a==6)=false:=by rw[dN];omega
 exact cF (a==6) f (r0 [] [(2,.slice none 0 0)] [2] (lf ab.zero [] [(0,0)] []))
theorem SY(ln:Int)(d:List UInt8)(m:Nat)(c e f g h i j k:Int)(n:d.length=64):aa WK 55 #[.agg (sV 1 ln d m c e f g h i j k)] [] [] N0 (λ_=> .agg (sV 1 ln z6 0 0 0 0 0 0 0 0 0)):=by
 exact fG Tryz.func55 λw cs=>ra (λa=>[(1,pt (B0 a) 0),(2,pt (B1 a) 0)]) (λa=>[ob (B0 a) (sV 1 ln d m c e f g h i j k) 50,ob (B1 a) (sV 0 0 z6 0 0 0 0 0 0 0 0 0) 50]) λa=>rr (λ_=>[(1,.l 0),(4,.s 2)]) (λb=>[(3,pt (B3 b) 0)]) [] (λb L=>L++[ob (B3 b) (sV 1 0 z6 0 0 0 0 0 0 0 0 0) 50]) λb=>r0 [(1,.l 0)] [(11,i6 1)] [] (rT [] 12 (rs [(1,.l 0),(3,.s 2)] 2 (ob (B3 b) (sV 1 ln z6 0 0 0 0 0 0 0 0 0) 50) (rs [(0,.l 2),(1,.s 1)] 1 (ob (B1 a) (sV 1 ln z6 0 0 0 0 0 0 0 0 0) 50) (lf ab.zero [] [] [1]))))
theorem SZ(ln:Int)(d:List UInt8)(m:Nat)(c e f g h i j k:Int)(n:d.length=64):aa WK 55 #[.agg (sV 2 ln d m c e f g h i j k)] [] [] N0 (λ_=> .agg (sV 2 ln d 0 0 0 0 0 0 0 0 0)):=by
 exact fG Tryz.func55 λw cs=>ra (λa=>[(1,pt (B0 a) 0),(2,pt (B1 a) 0)]) (λa=>[ob (B0 a) (sV 2 ln d m c e f g h i j k) 50,ob (B1 a) (sV 0 0 z6 0 0 0 0 0 0 0 0 0) 50]) λa=>rr (λ_=>[(1,.l 0),(4,.s 2)]) (λb=>[(3,pt (B3 b) 0)]) [] (λb L=>L++[ob (B3 b) (sV 2 0 z6 0 0 0 0 0 0 0 0 0) 50]) λb=>r0 [(1,.l 0)] [(11,i6 2)] [] (rF [] 12 (rT [] 17 (rs [(1,.l 0),(3,.l 0),(5,.s 2),(7,.s 2)] 2 (ob (B3 b) (sV 2 ln d 0 0 0 0 0 0 0 0 0) 50) (rs [(0,.l 2),(1,.s 1)] 1 (ob (B1 a) (sV 2 ln d 0 0 0 0 0 0 0 0 0) 50) (lf ab.zero [] [] [1])))))
theorem S1(ln:Int)(d:List UInt8)(m:Nat)(c e f g h i j k:Int)(n:d.length=64):aa WK 55 #[.agg (sV 3 ln d m c e f g h i j k)] [] [] N0 (λ_=> .agg (sV 3 ln d m 0 0 0 0 0 0 0 0)):=by
 exact fG Tryz.func55 λw cs=>ra (λa=>[(1,pt (B0 a) 0),(2,pt (B1 a) 0)]) (λa=>[ob (B0 a) (sV 3 ln d m c e f g h i j k) 50,ob (B1 a) (sV 0 0 z6 0 0 0 0 0 0 0 0 0) 50]) λa=>rr (λ_=>[(1,.l 0),(4,.s 2)]) (λb=>[(3,pt (B3 b) 0)]) [] (λb L=>L++[ob (B3 b) (sV 3 0 z6 0 0 0 0 0 0 0 0 0) 50]) λb=>r0 [(1,.l 0)] [(11,i6 3)] [] (rF [] 12 (rF [] 17 (rT [] 25 (rs [(0,.v (pt (B0 a) 1)),(1,.m (ld 0 (i6 ln))),(2,.v (pt (B0 a) 2)),(3,.m (ls 0 (rB 64 d))),(4,.v (pt (B0 a) 66)),(5,.m (ld 0 (u6 (m:Int)))),(6,.v (pt (B3 b) 1)),(7,.s 2),(8,.v (pt (B3 b) 2)),(9,.s 2),(10,.v (pt (B3 b) 66)),(11,.s 2)] 2 (ob (B3 b) (sV 3 ln d m 0 0 0 0 0 0 0 0) 50) (rs [(0,.l 2),(1,.s 1)] 1 (ob (B1 a) (sV 3 ln d m 0 0 0 0 0 0 0 0) 50) (lf ab.zero [] [] [1]))))))
theorem S2(k p:Int)(d:List UInt8)(m:Nat)(e f g h i j n o:Int)(x:d.length=64)(u:4≤k)(v:k≤7):aa WK 55 #[.agg (sV k p d m e f g h i j n o)] [] [] N0 (λ_=> .agg (sV k 0 z6 0 0 0 0 0 0 0 0 0)):=by
 refine fG Tryz.func55 λw cs=>ra (λa=>[(1,pt (B0 a) 0),(2,pt (B1 a) 0)]) (λa=>[ob (B0 a) (sV k p d m e f g h i j n o) 50,ob (B1 a) (sV 0 0 z6 0 0 0 0 0 0 0 0 0) 50]) λa=>rr (λ_=>[(1,.l 0),(4,.s 2)]) (λb=>[(3,pt (B3 b) 0)]) [] (λb L=>L++[ob (B3 b) (sV k 0 z6 0 0 0 0 0 0 0 0 0) 50]) λb=>r0 [(1,.l 0)] [(11,i6 k)] [] (r0 [] [(12,.bool (k==1))] [] ?_);have q:(k==1)=false:=by rw[dN];omega
 refine cF (k==1) q (r0 [] [(17,.bool (k==2))] [] ?_);have r:(k==2)=false:=by rw[dN];omega
 refine cF (k==2) r (r0 [] [(25,.bool (k==3))] [] ?_);have t:(k==3)=false:=by rw[dN];omega
 refine cF (k==3) t (r0 [] [(36,.bool (k==8))] [] ?_);have c:(k==8)=false:=by rw[dN];omega
 exact cF (k==8) c (rs [(0,.l 2),(1,.s 1)] 1 (ob (B1 a) (sV k 0 z6 0 0 0 0 0 0 0 0 0) 50) (lf ab.zero [] [] [1]))
theorem S3(ln:Int)(d:List UInt8)(m:Nat)(f g i j o n p:Int)(q:d.length=64):aa WK 55 #[.agg (sV 8 ln d m 1 f g i j o n p)] [] [] N0 (λ_=> .agg (sV 8 0 z6 0 1 f g i j 0 n 0)):=by
 refine fG Tryz.func55 λw cs=>ra (λb=>[(1,pt (B0 b) 0),(2,pt (B1 b) 0)]) (λb=>[ob (B0 b) (sV 8 ln d m 1 f g i j o n p) 50,ob (B1 b) (sV 0 0 z6 0 0 0 0 0 0 0 0 0) 50]) λb=>rr (λ_=>[(1,.l 0),(4,.s 2)]) (λe=>[(3,pt (B3 e) 0)]) [] (λe L=>L++[ob (B3 e) (sV 8 0 z6 0 0 0 0 0 0 0 0 0) 50]) λe=>r0 [(1,.l 0)] [(11,i6 8)] [] (rF [] 12 (rF [] 17 (rF [] 25 (rT [] 36 (rs [(2,.l 0),(5,.s 2)] 2 (ob (B3 e) (sV 8 0 z6 0 1 0 0 0 0 0 0 0) 50) (rr (λ_=>[(1,.c [2] [3] (Fw (B3 e) 8 0 z6 0 0 0 0 0 0 0 0))]) (λh=>[(4,.slice (some ⟨(B1 h),0,none⟩) 5 5)]) [] (λh L=>L++[ob (B1 h) #[pt (B3 e) 68,pt (B3 e) 69,pt (B3 e) 70,pt (B3 e) 71,pt (B3 e) 73] 197]) λh=>rr (λ_=>[(1,.c [0] [4] (Fw (B0 b) 8 ln d m f g i j o n p))]) (λa=>[(46,.slice (some ⟨(B1 a),0,none⟩) 5 5),(47,i6 5),(48,i6 0)]) [] (λa L=>L++[ob (B1 a) #[pt (B0 b) 68,pt (B0 b) 69,pt (B0 b) 70,pt (B0 b) 71,pt (B0 b) 73] 197]) λa=>?_))))));refine lu 8 ?_;refine rT [] 49 (r0 [(1,.t (tv (Instr.indexAt 194 (.slice (some ⟨(B1 a),0,none⟩) 5 5) (i6 0)) (λ_=>bT (k:=0) (s:=1) Kr Om))),(2,.l 4)] [(5,i6 0),(6,pt (B0 b) 68)] [] (rs [(2,.t (tv (Instr.indexAt 194 (.slice (some ⟨(B1 h),0,none⟩) 5 5) (i6 0)) (λ_=>bT (k:=0) (s:=1) Kr Om))),(3,.l 3),(6,.l 0),(8,.s 2)] 2 (ob (B3 e) (sV 8 0 z6 0 1 f 0 0 0 0 0 0) 50) (r0 [] [(48,i6 1)] [48] ?_)));refine eP ?_;refine r0 [] [(49,.bool true)] [49] (cT _ rfl (r0 [(1,.t (tv (Instr.indexAt 194 (.slice (some ⟨(B1 a),0,none⟩) 5 5) (i6 1)) (λ_=>bT (k:=1) (s:=1) Kr Om))),(2,.l 4)] [(5,i6 1),(6,pt (B0 b) 69)] [5,6] (rs [(2,.t (tv (Instr.indexAt 194 (.slice (some ⟨(B1 h),0,none⟩) 5 5) (i6 1)) (λ_=>bT (k:=1) (s:=1) Kr Om))),(3,.l 3),(6,.l 0),(8,.s 2)] 2 (ob (B3 e) (sV 8 0 z6 0 1 f g 0 0 0 0 0) 50) (r0 [] [(48,i6 2)] [48] ?_))));refine eP ?_;refine r0 [] [(49,.bool true)] [49] (cT _ rfl (r0 [(1,.t (tv (Instr.indexAt 194 (.slice (some ⟨(B1 a),0,none⟩) 5 5) (i6 2)) (λ_=>bT (k:=2) (s:=1) Kr Om))),(2,.l 4)] [(5,i6 2),(6,pt (B0 b) 70)] [5,6] (rs [(2,.t (tv (Instr.indexAt 194 (.slice (some ⟨(B1 h),0,none⟩) 5 5) (i6 2)) (λ_=>bT (k:=2) (s:=1) Kr Om))),(3,.l 3),(6,.l 0),(8,.s 2)] 2 (ob (B3 e) (sV 8 0 z6 0 1 f g i 0 0 0 0) 50) (r0 [] [(48,i6 3)] [48] ?_))));refine eP ?_;refine r0 [] [(49,.bool true)] [49] (cT _ rfl (r0 [(1,.t (tv (Instr.indexAt 194 (.slice (some ⟨(B1 a),0,none⟩) 5 5) (i6 3)) (λ_=>bT (k:=3) (s:=1) Kr Om))),(2,.l 4)] [(5,i6 3),(6,pt (B0 b) 71)] [5,6] (rs [(2,.t (tv (Instr.indexAt 194 (.slice (some ⟨(B1 h),0,none⟩) 5 5) (i6 3)) (λ_=>bT (k:=3) (s:=1) Kr Om))),(3,.l 3),(6,.l 0),(8,.s 2)] 2 (ob (B3 e) (sV 8 0 z6 0 1 f g i j 0 0 0) 50) (r0 [] [(48,i6 4)] [48] ?_))));refine eP ?_;refine r0 [] [(49,.bool true)] [49] (cT _ rfl (r0 [(1,.t (tv (Instr.indexAt 194 (.slice (some ⟨(B1 a),0,none⟩) 5 5) (i6 4)) (λ_=>bT (k:=4) (s:=1) Kr Om))),(2,.l 4)] [(5,i6 4),(6,pt (B0 b) 73)] [5,6] (rs [(2,.t (tv (Instr.indexAt 194 (.slice (some ⟨(B1 h),0,none⟩) 5 5) (i6 4)) (λ_=>bT (k:=4) (s:=1) Kr Om))),(3,.l 3),(6,.l 0),(8,.s 2)] 2 (ob (B3 e) (sV 8 0 z6 0 1 f g i j 0 n 0) 50) (r0 [] [(48,i6 5)] [48] ?_))));refine eP ?_;refine r0 [] [(49,.bool false)] [49] (cF _ rfl ?_);refine oy ?_;exact rs [(0,.l 2),(1,.s 1)] 1 (ob (B1 b) (sV 8 0 z6 0 1 f g i j 0 n 0) 50) (lf ab.zero [] [] [1])
theorem S4(ln:Int)(d:List UInt8)(m:Nat)(f g i j p n o:Int)(q:d.length=64):aa WK 55 #[.agg (sV 8 ln d m 2 f g i j p n o)] [] [] N0 (λ_=> .agg (sV 8 0 z6 0 2 f g i j 0 n o)):=by
 refine fG Tryz.func55 λw cs=>ra (λb=>[(1,pt (B0 b) 0),(2,pt (B1 b) 0)]) (λb=>[ob (B0 b) (sV 8 ln d m 2 f g i j p n o) 50,ob (B1 b) (sV 0 0 z6 0 0 0 0 0 0 0 0 0) 50]) λb=>rr (λ_=>[(1,.l 0),(4,.s 2)]) (λe=>[(3,pt (B3 e) 0)]) [] (λe L=>L++[ob (B3 e) (sV 8 0 z6 0 0 0 0 0 0 0 0 0) 50]) λe=>r0 [(1,.l 0)] [(11,i6 8)] [] (rF [] 12 (rF [] 17 (rF [] 25 (rT [] 36 (rs [(2,.l 0),(5,.s 2)] 2 (ob (B3 e) (sV 8 0 z6 0 2 0 0 0 0 0 0 0) 50) (rr (λ_=>[(1,.c [2] [3] (Fx (B3 e) 8 0 z6 0 0 0 0 0 0 0 0))]) (λh=>[(4,.slice (some ⟨(B1 h),0,none⟩) 6 6)]) [] (λh L=>L++[ob (B1 h) #[pt (B3 e) 68,pt (B3 e) 69,pt (B3 e) 70,pt (B3 e) 71,pt (B3 e) 73,pt (B3 e) 74] 197]) λh=>rr (λ_=>[(1,.c [0] [4] (Fx (B0 b) 8 ln d m f g i j p n o))]) (λa=>[(46,.slice (some ⟨(B1 a),0,none⟩) 6 6),(47,i6 6),(48,i6 0)]) [] (λa L=>L++[ob (B1 a) #[pt (B0 b) 68,pt (B0 b) 69,pt (B0 b) 70,pt (B0 b) 71,pt (B0 b) 73,pt (B0 b) 74] 197]) λa=>?_))))));refine lu 8 ?_;refine rT [] 49 (r0 [(1,.t (tv (Instr.indexAt 194 (.slice (some ⟨(B1 a),0,none⟩) 6 6) (i6 0)) (λ_=>bT (k:=0) (s:=1) Kr Om))),(2,.l 4)] [(5,i6 0),(6,pt (B0 b) 68)] [] (rs [(2,.t (tv (Instr.indexAt 194 (.slice (some ⟨(B1 h),0,none⟩) 6 6) (i6 0)) (λ_=>bT (k:=0) (s:=1) Kr Om))),(3,.l 3),(6,.l 0),(8,.s 2)] 2 (ob (B3 e) (sV 8 0 z6 0 2 f 0 0 0 0 0 0) 50) (r0 [] [(48,i6 1)] [48] ?_)));refine eP ?_;refine r0 [] [(49,.bool true)] [49] (cT _ rfl (r0 [(1,.t (tv (Instr.indexAt 194 (.slice (some ⟨(B1 a),0,none⟩) 6 6) (i6 1)) (λ_=>bT (k:=1) (s:=1) Kr Om))),(2,.l 4)] [(5,i6 1),(6,pt (B0 b) 69)] [5,6] (rs [(2,.t (tv (Instr.indexAt 194 (.slice (some ⟨(B1 h),0,none⟩) 6 6) (i6 1)) (λ_=>bT (k:=1) (s:=1) Kr Om))),(3,.l 3),(6,.l 0),(8,.s 2)] 2 (ob (B3 e) (sV 8 0 z6 0 2 f g 0 0 0 0 0) 50) (r0 [] [(48,i6 2)] [48] ?_))));refine eP ?_;refine r0 [] [(49,.bool true)] [49] (cT _ rfl (r0 [(1,.t (tv (Instr.indexAt 194 (.slice (some ⟨(B1 a),0,none⟩) 6 6) (i6 2)) (λ_=>bT (k:=2) (s:=1) Kr Om))),(2,.l 4)] [(5,i6 2),(6,pt (B0 b) 70)] [5,6] (rs [(2,.t (tv (Instr.indexAt 194 (.slice (some ⟨(B1 h),0,none⟩) 6 6) (i6 2)) (λ_=>bT (k:=2) (s:=1) Kr Om))),(3,.l 3),(6,.l 0),(8,.s 2)] 2 (ob (B3 e) (sV 8 0 z6 0 2 f g i 0 0 0 0) 50) (r0 [] [(48,i6 3)] [48] ?_))));refine eP ?_;refine r0 [] [(49,.bool true)] [49] (cT _ rfl (r0 [(1,.t (tv (Instr.indexAt 194 (.slice (some ⟨(B1 a),0,none⟩) 6 6) (i6 3)) (λ_=>bT (k:=3) (s:=1) Kr Om))),(2,.l 4)] [(5,i6 3),(6,pt (B0 b) 71)] [5,6] (rs [(2,.t (tv (Instr.indexAt 194 (.slice (some ⟨(B1 h),0,none⟩) 6 6) (i6 3)) (λ_=>bT (k:=3) (s:=1) Kr Om))),(3,.l 3),(6,.l 0),(8,.s 2)] 2 (ob (B3 e) (sV 8 0 z6 0 2 f g i j 0 0 0) 50) (r0 [] [(48,i6 4)] [48] ?_))));refine eP ?_;refine r0 [] [(49,.bool true)] [49] (cT _ rfl (r0 [(1,.t (tv (Instr.indexAt 194 (.slice (some ⟨(B1 a),0,none⟩) 6 6) (i6 4)) (λ_=>bT (k:=4) (s:=1) Kr Om))),(2,.l 4)] [(5,i6 4),(6,pt (B0 b) 73)] [5,6] (rs [(2,.t (tv (Instr.indexAt 194 (.slice (some ⟨(B1 h),0,none⟩) 6 6) (i6 4)) (λ_=>bT (k:=4) (s:=1) Kr Om))),(3,.l 3),(6,.l 0),(8,.s 2)] 2 (ob (B3 e) (sV 8 0 z6 0 2 f g i j 0 n 0) 50) (r0 [] [(48,i6 5)] [48] ?_))));refine eP ?_;refine r0 [] [(49,.bool true)] [49] (cT _ rfl (r0 [(1,.t (tv (Instr.indexAt 194 (.slice (some ⟨(B1 a),0,none⟩) 6 6) (i6 5)) (λ_=>bT (k:=5) (s:=1) Kr Om))),(2,.l 4)] [(5,i6 5),(6,pt (B0 b) 74)] [5,6] (rs [(2,.t (tv (Instr.indexAt 194 (.slice (some ⟨(B1 h),0,none⟩) 6 6) (i6 5)) (λ_=>bT (k:=5) (s:=1) Kr Om))),(3,.l 3),(6,.l 0),(8,.s 2)] 2 (ob (B3 e) (sV 8 0 z6 0 2 f g i j 0 n o) 50) (r0 [] [(48,i6 6)] [48] ?_))));refine eP ?_;refine r0 [] [(49,.bool false)] [49] (cF _ rfl ?_);refine oy ?_;exact rs [(0,.l 2),(1,.s 1)] 1 (ob (B1 b) (sV 8 0 z6 0 2 f g i j 0 n o) 50) (lf ab.zero [] [] [1])
theorem S5(ln:Int)(d:List UInt8)(m:Nat)(f g i o j p n:Int)(q:d.length=64):aa WK 55 #[.agg (sV 8 ln d m 3 f g i o j p n)] [] [] N0 (λ_=> .agg (sV 8 0 z6 0 3 f g i 0 j 0 n)):=by
 refine fG Tryz.func55 λw cs=>ra (λb=>[(1,pt (B0 b) 0),(2,pt (B1 b) 0)]) (λb=>[ob (B0 b) (sV 8 ln d m 3 f g i o j p n) 50,ob (B1 b) (sV 0 0 z6 0 0 0 0 0 0 0 0 0) 50]) λb=>rr (λ_=>[(1,.l 0),(4,.s 2)]) (λe=>[(3,pt (B3 e) 0)]) [] (λe L=>L++[ob (B3 e) (sV 8 0 z6 0 0 0 0 0 0 0 0 0) 50]) λe=>r0 [(1,.l 0)] [(11,i6 8)] [] (rF [] 12 (rF [] 17 (rF [] 25 (rT [] 36 (rs [(2,.l 0),(5,.s 2)] 2 (ob (B3 e) (sV 8 0 z6 0 3 0 0 0 0 0 0 0) 50) (rr (λ_=>[(1,.c [2] [3] (Fy (B3 e) 8 0 z6 0 0 0 0 0 0 0 0))]) (λh=>[(4,.slice (some ⟨(B1 h),0,none⟩) 5 5)]) [] (λh L=>L++[ob (B1 h) #[pt (B3 e) 68,pt (B3 e) 69,pt (B3 e) 70,pt (B3 e) 72,pt (B3 e) 74] 197]) λh=>rr (λ_=>[(1,.c [0] [4] (Fy (B0 b) 8 ln d m f g i o j p n))]) (λa=>[(46,.slice (some ⟨(B1 a),0,none⟩) 5 5),(47,i6 5),(48,i6 0)]) [] (λa L=>L++[ob (B1 a) #[pt (B0 b) 68,pt (B0 b) 69,pt (B0 b) 70,pt (B0 b) 72,pt (B0 b) 74] 197]) λa=>?_))))));refine lu 8 ?_;refine rT [] 49 (r0 [(1,.t (tv (Instr.indexAt 194 (.slice (some ⟨(B1 a),0,none⟩) 5 5) (i6 0)) (λ_=>bT (k:=0) (s:=1) Kr Om))),(2,.l 4)] [(5,i6 0),(6,pt (B0 b) 68)] [] (rs [(2,.t (tv (Instr.indexAt 194 (.slice (some ⟨(B1 h),0,none⟩) 5 5) (i6 0)) (λ_=>bT (k:=0) (s:=1) Kr Om))),(3,.l 3),(6,.l 0),(8,.s 2)] 2 (ob (B3 e) (sV 8 0 z6 0 3 f 0 0 0 0 0 0) 50) (r0 [] [(48,i6 1)] [48] ?_)));refine eP ?_;refine r0 [] [(49,.bool true)] [49] (cT _ rfl (r0 [(1,.t (tv (Instr.indexAt 194 (.slice (some ⟨(B1 a),0,none⟩) 5 5) (i6 1)) (λ_=>bT (k:=1) (s:=1) Kr Om))),(2,.l 4)] [(5,i6 1),(6,pt (B0 b) 69)] [5,6] (rs [(2,.t (tv (Instr.indexAt 194 (.slice (some ⟨(B1 h),0,none⟩) 5 5) (i6 1)) (λ_=>bT (k:=1) (s:=1) Kr Om))),(3,.l 3),(6,.l 0),(8,.s 2)] 2 (ob (B3 e) (sV 8 0 z6 0 3 f g 0 0 0 0 0) 50) (r0 [] [(48,i6 2)] [48] ?_))));refine eP ?_;refine r0 [] [(49,.bool true)] [49] (cT _ rfl (r0 [(1,.t (tv (Instr.indexAt 194 (.slice (some ⟨(B1 a),0,none⟩) 5 5) (i6 2)) (λ_=>bT (k:=2) (s:=1) Kr Om))),(2,.l 4)] [(5,i6 2),(6,pt (B0 b) 70)] [5,6] (rs [(2,.t (tv (Instr.indexAt 194 (.slice (some ⟨(B1 h),0,none⟩) 5 5) (i6 2)) (λ_=>bT (k:=2) (s:=1) Kr Om))),(3,.l 3),(6,.l 0),(8,.s 2)] 2 (ob (B3 e) (sV 8 0 z6 0 3 f g i 0 0 0 0) 50) (r0 [] [(48,i6 3)] [48] ?_))));refine eP ?_;refine r0 [] [(49,.bool true)] [49] (cT _ rfl (r0 [(1,.t (tv (Instr.indexAt 194 (.slice (some ⟨(B1 a),0,none⟩) 5 5) (i6 3)) (λ_=>bT (k:=3) (s:=1) Kr Om))),(2,.l 4)] [(5,i6 3),(6,pt (B0 b) 72)] [5,6] (rs [(2,.t (tv (Instr.indexAt 194 (.slice (some ⟨(B1 h),0,none⟩) 5 5) (i6 3)) (λ_=>bT (k:=3) (s:=1) Kr Om))),(3,.l 3),(6,.l 0),(8,.s 2)] 2 (ob (B3 e) (sV 8 0 z6 0 3 f g i 0 j 0 0) 50) (r0 [] [(48,i6 4)] [48] ?_))));refine eP ?_;refine r0 [] [(49,.bool true)] [49] (cT _ rfl (r0 [(1,.t (tv (Instr.indexAt 194 (.slice (some ⟨(B1 a),0,none⟩) 5 5) (i6 4)) (λ_=>bT (k:=4) (s:=1) Kr Om))),(2,.l 4)] [(5,i6 4),(6,pt (B0 b) 74)] [5,6] (rs [(2,.t (tv (Instr.indexAt 194 (.slice (some ⟨(B1 h),0,none⟩) 5 5) (i6 4)) (λ_=>bT (k:=4) (s:=1) Kr Om))),(3,.l 3),(6,.l 0),(8,.s 2)] 2 (ob (B3 e) (sV 8 0 z6 0 3 f g i 0 j 0 n) 50) (r0 [] [(48,i6 5)] [48] ?_))));refine eP ?_;refine r0 [] [(49,.bool false)] [49] (cF _ rfl ?_);refine oy ?_;exact rs [(0,.l 2),(1,.s 1)] 1 (ob (B1 b) (sV 8 0 z6 0 3 f g i 0 j 0 n) 50) (lf ab.zero [] [] [1])
theorem S6(ln:Int)(d:List UInt8)(m:Nat)(f g o i j p n:Int)(q:d.length=64):aa WK 55 #[.agg (sV 8 ln d m 4 f g o i j p n)] [] [] N0 (λ_=> .agg (sV 8 0 z6 0 4 f g 0 i j 0 n)):=by
 refine fG Tryz.func55 λw cs=>ra (λb=>[(1,pt (B0 b) 0),(2,pt (B1 b) 0)]) (λb=>[ob (B0 b) (sV 8 ln d m 4 f g o i j p n) 50,ob (B1 b) (sV 0 0 z6 0 0 0 0 0 0 0 0 0) 50]) λb=>rr (λ_=>[(1,.l 0),(4,.s 2)]) (λe=>[(3,pt (B3 e) 0)]) [] (λe L=>L++[ob (B3 e) (sV 8 0 z6 0 0 0 0 0 0 0 0 0) 50]) λe=>r0 [(1,.l 0)] [(11,i6 8)] [] (rF [] 12 (rF [] 17 (rF [] 25 (rT [] 36 (rs [(2,.l 0),(5,.s 2)] 2 (ob (B3 e) (sV 8 0 z6 0 4 0 0 0 0 0 0 0) 50) (rr (λ_=>[(1,.c [2] [3] (Fz (B3 e) 8 0 z6 0 0 0 0 0 0 0 0))]) (λh=>[(4,.slice (some ⟨(B1 h),0,none⟩) 5 5)]) [] (λh L=>L++[ob (B1 h) #[pt (B3 e) 68,pt (B3 e) 69,pt (B3 e) 71,pt (B3 e) 72,pt (B3 e) 74] 197]) λh=>rr (λ_=>[(1,.c [0] [4] (Fz (B0 b) 8 ln d m f g o i j p n))]) (λa=>[(46,.slice (some ⟨(B1 a),0,none⟩) 5 5),(47,i6 5),(48,i6 0)]) [] (λa L=>L++[ob (B1 a) #[pt (B0 b) 68,pt (B0 b) 69,pt (B0 b) 71,pt (B0 b) 72,pt (B0 b) 74] 197]) λa=>?_))))));refine lu 8 ?_;refine rT [] 49 (r0 [(1,.t (tv (Instr.indexAt 194 (.slice (some ⟨(B1 a),0,none⟩) 5 5) (i6 0)) (λ_=>bT (k:=0) (s:=1) Kr Om))),(2,.l 4)] [(5,i6 0),(6,pt (B0 b) 68)] [] (rs [(2,.t (tv (Instr.indexAt 194 (.slice (some ⟨(B1 h),0,none⟩) 5 5) (i6 0)) (λ_=>bT (k:=0) (s:=1) Kr Om))),(3,.l 3),(6,.l 0),(8,.s 2)] 2 (ob (B3 e) (sV 8 0 z6 0 4 f 0 0 0 0 0 0) 50) (r0 [] [(48,i6 1)] [48] ?_)));refine eP ?_;refine r0 [] [(49,.bool true)] [49] (cT _ rfl (r0 [(1,.t (tv (Instr.indexAt 194 (.slice (some ⟨(B1 a),0,none⟩) 5 5) (i6 1)) (λ_=>bT (k:=1) (s:=1) Kr Om))),(2,.l 4)] [(5,i6 1),(6,pt (B0 b) 69)] [5,6] (rs [(2,.t (tv (Instr.indexAt 194 (.slice (some ⟨(B1 h),0,none⟩) 5 5) (i6 1)) (λ_=>bT (k:=1) (s:=1) Kr Om))),(3,.l 3),(6,.l 0),(8,.s 2)] 2 (ob (B3 e) (sV 8 0 z6 0 4 f g 0 0 0 0 0) 50) (r0 [] [(48,i6 2)] [48] ?_))));refine eP ?_;refine r0 [] [(49,.bool true)] [49] (cT _ rfl (r0 [(1,.t (tv (Instr.indexAt 194 (.slice (some ⟨(B1 a),0,none⟩) 5 5) (i6 2)) (λ_=>bT (k:=2) (s:=1) Kr Om))),(2,.l 4)] [(5,i6 2),(6,pt (B0 b) 71)] [5,6] (rs [(2,.t (tv (Instr.indexAt 194 (.slice (some ⟨(B1 h),0,none⟩) 5 5) (i6 2)) (λ_=>bT (k:=2) (s:=1) Kr Om))),(3,.l 3),(6,.l 0),(8,.s 2)] 2 (ob (B3 e) (sV 8 0 z6 0 4 f g 0 i 0 0 0) 50) (r0 [] [(48,i6 3)] [48] ?_))));refine eP ?_;refine r0 [] [(49,.bool true)] [49] (cT _ rfl (r0 [(1,.t (tv (Instr.indexAt 194 (.slice (some ⟨(B1 a),0,none⟩) 5 5) (i6 3)) (λ_=>bT (k:=3) (s:=1) Kr Om))),(2,.l 4)] [(5,i6 3),(6,pt (B0 b) 72)] [5,6] (rs [(2,.t (tv (Instr.indexAt 194 (.slice (some ⟨(B1 h),0,none⟩) 5 5) (i6 3)) (λ_=>bT (k:=3) (s:=1) Kr Om))),(3,.l 3),(6,.l 0),(8,.s 2)] 2 (ob (B3 e) (sV 8 0 z6 0 4 f g 0 i j 0 0) 50) (r0 [] [(48,i6 4)] [48] ?_))));refine eP ?_;refine r0 [] [(49,.bool true)] [49] (cT _ rfl (r0 [(1,.t (tv (Instr.indexAt 194 (.slice (some ⟨(B1 a),0,none⟩) 5 5) (i6 4)) (λ_=>bT (k:=4) (s:=1) Kr Om))),(2,.l 4)] [(5,i6 4),(6,pt (B0 b) 74)] [5,6] (rs [(2,.t (tv (Instr.indexAt 194 (.slice (some ⟨(B1 h),0,none⟩) 5 5) (i6 4)) (λ_=>bT (k:=4) (s:=1) Kr Om))),(3,.l 3),(6,.l 0),(8,.s 2)] 2 (ob (B3 e) (sV 8 0 z6 0 4 f g 0 i j 0 n) 50) (r0 [] [(48,i6 5)] [48] ?_))));refine eP ?_;refine r0 [] [(49,.bool false)] [49] (cF _ rfl ?_);refine oy ?_;exact rs [(0,.l 2),(1,.s 1)] 1 (ob (B1 b) (sV 8 0 z6 0 4 f g 0 i j 0 n) 50) (lf ab.zero [] [] [1])
theorem S7(ln:Int)(d:List UInt8)(m:Nat)(f j n o g p i:Int)(q:d.length=64):aa WK 55 #[.agg (sV 8 ln d m 5 f j n o g p i)] [] [] N0 (λ_=> .agg (sV 8 0 z6 0 5 f 0 0 0 g 0 i)):=by
 refine fG Tryz.func55 λw cs=>ra (λb=>[(1,pt (B0 b) 0),(2,pt (B1 b) 0)]) (λb=>[ob (B0 b) (sV 8 ln d m 5 f j n o g p i) 50,ob (B1 b) (sV 0 0 z6 0 0 0 0 0 0 0 0 0) 50]) λb=>rr (λ_=>[(1,.l 0),(4,.s 2)]) (λe=>[(3,pt (B3 e) 0)]) [] (λe L=>L++[ob (B3 e) (sV 8 0 z6 0 0 0 0 0 0 0 0 0) 50]) λe=>r0 [(1,.l 0)] [(11,i6 8)] [] (rF [] 12 (rF [] 17 (rF [] 25 (rT [] 36 (rs [(2,.l 0),(5,.s 2)] 2 (ob (B3 e) (sV 8 0 z6 0 5 0 0 0 0 0 0 0) 50) (rr (λ_=>[(1,.c [2] [3] (FA (B3 e) 8 0 z6 0 0 0 0 0 0 0 0))]) (λh=>[(4,.slice (some ⟨(B1 h),0,none⟩) 3 3)]) [] (λh L=>L++[ob (B1 h) #[pt (B3 e) 68,pt (B3 e) 72,pt (B3 e) 74] 197]) λh=>rr (λ_=>[(1,.c [0] [4] (FA (B0 b) 8 ln d m f j n o g p i))]) (λa=>[(46,.slice (some ⟨(B1 a),0,none⟩) 3 3),(47,i6 3),(48,i6 0)]) [] (λa L=>L++[ob (B1 a) #[pt (B0 b) 68,pt (B0 b) 72,pt (B0 b) 74] 197]) λa=>?_))))));refine lu 8 ?_;refine rT [] 49 (r0 [(1,.t (tv (Instr.indexAt 194 (.slice (some ⟨(B1 a),0,none⟩) 3 3) (i6 0)) (λ_=>bT (k:=0) (s:=1) Kr Om))),(2,.l 4)] [(5,i6 0),(6,pt (B0 b) 68)] [] (rs [(2,.t (tv (Instr.indexAt 194 (.slice (some ⟨(B1 h),0,none⟩) 3 3) (i6 0)) (λ_=>bT (k:=0) (s:=1) Kr Om))),(3,.l 3),(6,.l 0),(8,.s 2)] 2 (ob (B3 e) (sV 8 0 z6 0 5 f 0 0 0 0 0 0) 50) (r0 [] [(48,i6 1)] [48] ?_)));refine eP ?_;refine r0 [] [(49,.bool true)] [49] (cT _ rfl (r0 [(1,.t (tv (Instr.indexAt 194 (.slice (some ⟨(B1 a),0,none⟩) 3 3) (i6 1)) (λ_=>bT (k:=1) (s:=1) Kr Om))),(2,.l 4)] [(5,i6 1),(6,pt (B0 b) 72)] [5,6] (rs [(2,.t (tv (Instr.indexAt 194 (.slice (some ⟨(B1 h),0,none⟩) 3 3) (i6 1)) (λ_=>bT (k:=1) (s:=1) Kr Om))),(3,.l 3),(6,.l 0),(8,.s 2)] 2 (ob (B3 e) (sV 8 0 z6 0 5 f 0 0 0 g 0 0) 50) (r0 [] [(48,i6 2)] [48] ?_))));refine eP ?_;refine r0 [] [(49,.bool true)] [49] (cT _ rfl (r0 [(1,.t (tv (Instr.indexAt 194 (.slice (some ⟨(B1 a),0,none⟩) 3 3) (i6 2)) (λ_=>bT (k:=2) (s:=1) Kr Om))),(2,.l 4)] [(5,i6 2),(6,pt (B0 b) 74)] [5,6] (rs [(2,.t (tv (Instr.indexAt 194 (.slice (some ⟨(B1 h),0,none⟩) 3 3) (i6 2)) (λ_=>bT (k:=2) (s:=1) Kr Om))),(3,.l 3),(6,.l 0),(8,.s 2)] 2 (ob (B3 e) (sV 8 0 z6 0 5 f 0 0 0 g 0 i) 50) (r0 [] [(48,i6 3)] [48] ?_))));refine eP ?_;refine r0 [] [(49,.bool false)] [49] (cF _ rfl ?_);refine oy ?_;exact rs [(0,.l 2),(1,.s 1)] 1 (ob (B1 b) (sV 8 0 z6 0 5 f 0 0 0 g 0 i) 50) (lf ab.zero [] [] [1])
theorem S8(ln:Int)(d:List UInt8)(m:Nat)(f g i j n o p:Int)(q:d.length=64):aa WK 55 #[.agg (sV 8 ln d m 6 f g i j n o p)] [] [] N0 (λ_=> .agg (sV 8 0 z6 0 6 f g i j 0 0 0)):=by
 refine fG Tryz.func55 λw cs=>ra (λb=>[(1,pt (B0 b) 0),(2,pt (B1 b) 0)]) (λb=>[ob (B0 b) (sV 8 ln d m 6 f g i j n o p) 50,ob (B1 b) (sV 0 0 z6 0 0 0 0 0 0 0 0 0) 50]) λb=>rr (λ_=>[(1,.l 0),(4,.s 2)]) (λe=>[(3,pt (B3 e) 0)]) [] (λe L=>L++[ob (B3 e) (sV 8 0 z6 0 0 0 0 0 0 0 0 0) 50]) λe=>r0 [(1,.l 0)] [(11,i6 8)] [] (rF [] 12 (rF [] 17 (rF [] 25 (rT [] 36 (rs [(2,.l 0),(5,.s 2)] 2 (ob (B3 e) (sV 8 0 z6 0 6 0 0 0 0 0 0 0) 50) (rr (λ_=>[(1,.c [2] [3] (FB (B3 e) 8 0 z6 0 0 0 0 0 0 0 0))]) (λh=>[(4,.slice (some ⟨(B1 h),0,none⟩) 4 4)]) [] (λh L=>L++[ob (B1 h) #[pt (B3 e) 68,pt (B3 e) 69,pt (B3 e) 70,pt (B3 e) 71] 197]) λh=>rr (λ_=>[(1,.c [0] [4] (FB (B0 b) 8 ln d m f g i j n o p))]) (λa=>[(46,.slice (some ⟨(B1 a),0,none⟩) 4 4),(47,i6 4),(48,i6 0)]) [] (λa L=>L++[ob (B1 a) #[pt (B0 b) 68,pt (B0 b) 69,pt (B0 b) 70,pt (B0 b) 71] 197]) λa=>?_))))));refine lu 8 ?_;refine rT [] 49 (r0 [(1,.t (tv (Instr.indexAt 194 (.slice (some ⟨(B1 a),0,none⟩) 4 4) (i6 0)) (λ_=>bT (k:=0) (s:=1) Kr Om))),(2,.l 4)] [(5,i6 0),(6,pt (B0 b) 68)] [] (rs [(2,.t (tv (Instr.indexAt 194 (.slice (some ⟨(B1 h),0,none⟩) 4 4) (i6 0)) (λ_=>bT (k:=0) (s:=1) Kr Om))),(3,.l 3),(6,.l 0),(8,.s 2)] 2 (ob (B3 e) (sV 8 0 z6 0 6 f 0 0 0 0 0 0) 50) (r0 [] [(48,i6 1)] [48] ?_)));refine eP ?_;refine r0 [] [(49,.bool true)] [49] (cT _ rfl (r0 [(1,.t (tv (Instr.indexAt 194 (.slice (some ⟨(B1 a),0,none⟩) 4 4) (i6 1)) (λ_=>bT (k:=1) (s:=1) Kr Om))),(2,.l 4)] [(5,i6 1),(6,pt (B0 b) 69)] [5,6] (rs [(2,.t (tv (Instr.indexAt 194 (.slice (some ⟨(B1 h),0,none⟩) 4 4) (i6 1)) (λ_=>bT (k:=1) (s:=1) Kr Om))),(3,.l 3),(6,.l 0),(8,.s 2)] 2 (ob (B3 e) (sV 8 0 z6 0 6 f g 0 0 0 0 0) 50) (r0 [] [(48,i6 2)] [48] ?_))));refine eP ?_;refine r0 [] [(49,.bool true)] [49] (cT _ rfl (r0 [(1,.t (tv (Instr.indexAt 194 (.slice (some ⟨(B1 a),0,none⟩) 4 4) (i6 2)) (λ_=>bT (k:=2) (s:=1) Kr Om))),(2,.l 4)] [(5,i6 2),(6,pt (B0 b) 70)] [5,6] (rs [(2,.t (tv (Instr.indexAt 194 (.slice (some ⟨(B1 h),0,none⟩) 4 4) (i6 2)) (λ_=>bT (k:=2) (s:=1) Kr Om))),(3,.l 3),(6,.l 0),(8,.s 2)] 2 (ob (B3 e) (sV 8 0 z6 0 6 f g i 0 0 0 0) 50) (r0 [] [(48,i6 3)] [48] ?_))));refine eP ?_;refine r0 [] [(49,.bool true)] [49] (cT _ rfl (r0 [(1,.t (tv (Instr.indexAt 194 (.slice (some ⟨(B1 a),0,none⟩) 4 4) (i6 3)) (λ_=>bT (k:=3) (s:=1) Kr Om))),(2,.l 4)] [(5,i6 3),(6,pt (B0 b) 71)] [5,6] (rs [(2,.t (tv (Instr.indexAt 194 (.slice (some ⟨(B1 h),0,none⟩) 4 4) (i6 3)) (λ_=>bT (k:=3) (s:=1) Kr Om))),(3,.l 3),(6,.l 0),(8,.s 2)] 2 (ob (B3 e) (sV 8 0 z6 0 6 f g i j 0 0 0) 50) (r0 [] [(48,i6 4)] [48] ?_))));refine eP ?_;refine r0 [] [(49,.bool false)] [49] (cF _ rfl ?_);refine oy ?_;exact rs [(0,.l 2),(1,.s 1)] 1 (ob (B1 b) (sV 8 0 z6 0 6 f g i j 0 0 0) 50) (lf ab.zero [] [] [1])
theorem S9(ln:Int)(d:List UInt8)(m:Nat)(e f g h i j k:Int)(n:d.length=64):aa WK 55 #[.agg (sV 8 ln d m 7 e f g h i j k)] [] [] N0 (λ_=> .agg (sV 8 0 z6 0 7 0 0 0 0 0 0 0)):=by
 refine fG Tryz.func55 λw cs=>ra (λa=>[(1,pt (B0 a) 0),(2,pt (B1 a) 0)]) (λa=>[ob (B0 a) (sV 8 ln d m 7 e f g h i j k) 50,ob (B1 a) (sV 0 0 z6 0 0 0 0 0 0 0 0 0) 50]) λa=>rr (λ_=>[(1,.l 0),(4,.s 2)]) (λb=>[(3,pt (B3 b) 0)]) [] (λb L=>L++[ob (B3 b) (sV 8 0 z6 0 0 0 0 0 0 0 0 0) 50]) λb=>r0 [(1,.l 0)] [(11,i6 8)] [] (rF [] 12 (rF [] 17 (rF [] 25 (rT [] 36 (rs [(2,.l 0),(5,.s 2)] 2 (ob (B3 b) (sV 8 0 z6 0 7 0 0 0 0 0 0 0) 50) (r0 [(1,.c [2] [] (FC (B3 b) 8 0 z6 0 0 0 0 0 0 0 0))] [(4,.slice none 0 0)] [] (r0 [(1,.c [0] [] (FC (B0 a) 8 ln d m e f g h i j k))] [(46,.slice none 0 0),(47,i6 0),(48,i6 0)] [] ?_)))))));refine lu 8 ?_;refine rF [] 49 ?_;refine oy ?_;exact rs [(0,.l 2),(1,.s 1)] 1 (ob (B1 a) (sV 8 0 z6 0 7 0 0 0 0 0 0 0) 50) (lf ab.zero [] [] [1])
theorem Ta(ln:Int)(d:List UInt8)(m:Nat)(a f g h i j k n:Int)(p:d.length=64)(o:a<1∨7<a):aa WK 55 #[.agg (sV 8 ln d m a f g h i j k n)] [] [] N0 (λ_=> .agg (sV 8 0 z6 0 a 0 0 0 0 0 0 0)):=by
 refine fG Tryz.func55 λw cs=>ra (λb=>[(1,pt (B0 b) 0),(2,pt (B1 b) 0)]) (λb=>[ob (B0 b) (sV 8 ln d m a f g h i j k n) 50,ob (B1 b) (sV 0 0 z6 0 0 0 0 0 0 0 0 0) 50]) λb=>rr (λ_=>[(1,.l 0),(4,.s 2)]) (λe=>[(3,pt (B3 e) 0)]) [] (λe L=>L++[ob (B3 e) (sV 8 0 z6 0 0 0 0 0 0 0 0 0) 50]) λe=>r0 [(1,.l 0)] [(11,i6 8)] [] (rF [] 12 (rF [] 17 (rF [] 25 (rT [] 36 (rs [(2,.l 0),(5,.s 2)] 2 (ob (B3 e) (sV 8 0 z6 0 a 0 0 0 0 0 0 0) 50) (r0 [(1,.c [2] [] (FD (B3 e) 8 0 z6 0 a 0 0 0 0 0 0 0 Om))] [(4,.slice none 0 0)] [] (r0 [(1,.c [0] [] (FD (B0 b) 8 ln d m a f g h i j k n Om))] [(46,.slice none 0 0),(47,i6 0),(48,i6 0)] [] ?_)))))));refine lu 8 ?_;refine rF [] 49 ?_;refine oy ?_;exact rs [(0,.l 2),(1,.s 1)] 1 (ob (B1 b) (sV 8 0 z6 0 a 0 0 0 0 0 0 0) 50) (lf ab.zero [] [] [1])
theorem Tc(k l:Int)(d:List UInt8)(m:Nat)(b c e f g h i j:Int)(o:d.length=64)(n:k<1):aa WK 17 #[.agg (sV k l d m b c e f g h i j)] [] [] N0 (λ_=> .bool false):=by
 exact fG Tryz.func17 λw cs=>ra (λa=>[(1,pt (B0 a) 0),(2,.bool false)]) (λa=>[ob (B0 a) (sV k l d m b c e f g h i j) 50]) λa=>rT [(1,.m (ld 0 (i6 k))),(2,.t (tk (show Value.bool (decide (k<1))= .bool true from ALca Value.bool (by simp;omega)))),(4,.d),(5,.d),(6,.d),(9,.d),(10,.d),(11,.d),(12,.d)] 16 (r0 [] [(2,.bool false)] [2] (lf ab.zero [] [] []))
theorem Td(k l:Int)(d:List UInt8)(m:Nat)(b c e f g h i j:Int)(o:d.length=64)(n:8<k):aa WK 17 #[.agg (sV k l d m b c e f g h i j)] [] [] N0 (λ_=> .bool false):=by
 exact fG Tryz.func17 λw cs=>ra (λa=>[(1,pt (B0 a) 0),(2,.bool false)]) (λa=>[ob (B0 a) (sV k l d m b c e f g h i j) 50]) λa=>rT [(1,.m (ld 0 (i6 k))),(2,.t (tk (show Value.bool (decide (k<1))= .bool false from ALca Value.bool (by simp;omega)))),(5,.m (ld 0 (i6 k))),(6,.t (tk (show Value.bool (decide (8<k))= .bool true from ALca Value.bool (by simp;omega)))),(9,.d),(10,.d),(11,.d),(12,.d)] 16 (r0 [] [(2,.bool false)] [2] (lf ab.zero [] [] []))
def vJ(ln:Int)(d:List UInt8)(m:Nat)(a b c e f g h i:Int):Bool:=(bif !(((1==1&&(ln==ln&&true))&&decide (d=WJ 64 0))&&((m:Int)==0&&(a==0&&(b==0&&(c==0&&(e==0&&(f==0&&(g==0&&(h==0&&(i==0&&true)))))))))) then false else true)
theorem Te(ln:Int)(d:List UInt8)(m:Nat)(a b e f g h i j:Int)(n:d.length=64):aa WK 17 #[.agg (sV 1 ln d m a b e f g h i j)] [] [] N0 (λ_=> .bool (vJ ln d m a b e f g h i j)):=by
 refine fG Tryz.func17 λw cs=>ra (λk=>[(1,pt (B0 k) 0),(2,.bool false)]) (λk=>[ob (B0 k) (sV 1 ln d m a b e f g h i j) 50]) λk=>r0 [(1,.m (ld 0 (i6 1))),(5,.m (ld 0 (i6 1))),(9,.m (ls 0 (sL 1 ln d m a b e f g h i j))),(10,.m (ls 0 (sL 1 ln d m a b e f g h i j))),(11,.c [] [] (SY ln d m a b e f g h i j (by(simp only[LL,n,n];done)))),(12,.t (iE 50 λ_ _ _=>ja (xs:=([i6 1,i6 ln]:List Value)++rB 64 d++([u6 (m:Int),i6 a,i6 b,i6 e,i6 f,i6 g,i6 h,i6 i,i6 j]:List Value)) (ys:=([i6 1,i6 ln]:List Value)++rB 64 z6++([u6 0,i6 0,i6 0,i6 0,i6 0,i6 0,i6 0,i6 0,i6 0]:List Value)) Kr (e6 Kr Kr (e6 Kr Kr bg (iZ n (show z6.length=64 by rfl))) bg)))] [(16,.bool (!(((1==1&&(ln==ln&&true))&&decide (d=WJ 64 0))&&((m:Int)==0&&(a==0&&(b==0&&(e==0&&(f==0&&(g==0&&(h==0&&(i==0&&(j==0&&true))))))))))))] [] ?_;refine cB (!(((1==1&&(ln==ln&&true))&&decide (d=WJ 64 0))&&((m:Int)==0&&(a==0&&(b==0&&(e==0&&(f==0&&(g==0&&(h==0&&(i==0&&(j==0&&true))))))))))) (λl=>?_) λl=>?_
 ·exact r0 [] [(2,.bool false)] [2] (ao (.bool false) ab.zero (by((try simp only[vJ]);(repeat (first | rw[l] | rw[ALct])))<;>rfl) [] [] [])
 exact r0 [(1,.m (ld 0 (i6 1))),(4,.d),(5,.d),(6,.d),(7,.d),(8,.d),(9,.d),(10,.d),(11,.d),(12,.d),(13,.d)] [(2,.bool true)] [2] (ao (.bool true) ab.zero (by((try simp only[vJ]);(repeat (first | rw[l] | rw[ALcf])))<;>rfl) [] [] [])
def vK(ln:Int)(m:Nat)(a b c d e f g h:Int):Bool:=(bif !(((2==2&&(ln==ln&&true))&&true)&&((m:Int)==0&&(a==0&&(b==0&&(c==0&&(d==0&&(e==0&&(f==0&&(g==0&&(h==0&&true)))))))))) then false else true)
theorem Tf(ln:Int)(d:List UInt8)(m:Nat)(a b e f g h i j:Int)(k:d.length=64):aa WK 17 #[.agg (sV 2 ln d m a b e f g h i j)] [] [] N0 (λ_=> .bool (vK ln m a b e f g h i j)):=by
 refine fG Tryz.func17 λw cs=>ra (λl=>[(1,pt (B0 l) 0),(2,.bool false)]) (λl=>[ob (B0 l) (sV 2 ln d m a b e f g h i j) 50]) λl=>r0 [(1,.m (ld 0 (i6 2))),(5,.m (ld 0 (i6 2))),(9,.m (ls 0 (sL 2 ln d m a b e f g h i j))),(10,.m (ls 0 (sL 2 ln d m a b e f g h i j))),(11,.c [] [] (SZ ln d m a b e f g h i j (by(simp only[LL,k,k];done)))),(12,.t (iE 50 λ_ _ _=>ja (xs:=([i6 2,i6 ln]:List Value)++rB 64 d++([u6 (m:Int),i6 a,i6 b,i6 e,i6 f,i6 g,i6 h,i6 i,i6 j]:List Value)) (ys:=([i6 2,i6 ln]:List Value)++rB 64 d++([u6 0,i6 0,i6 0,i6 0,i6 0,i6 0,i6 0,i6 0,i6 0]:List Value)) Kr (e6 Kr Kr (e6 Kr Kr bg ((iZ k k).trans (cD rfl))) bg)))] [(16,.bool (!(((2==2&&(ln==ln&&true))&&true)&&((m:Int)==0&&(a==0&&(b==0&&(e==0&&(f==0&&(g==0&&(h==0&&(i==0&&(j==0&&true))))))))))))] [] ?_;refine cB (!(((2==2&&(ln==ln&&true))&&true)&&((m:Int)==0&&(a==0&&(b==0&&(e==0&&(f==0&&(g==0&&(h==0&&(i==0&&(j==0&&true))))))))))) (λn=>?_) λn=>?_
 ·exact r0 [] [(2,.bool false)] [2] (ao (.bool false) ab.zero (by((try simp only[vK]);(repeat (first | rw[n] | rw[ALct])))<;>rfl) [] [] [])
 exact r0 [(1,.m (ld 0 (i6 2))),(4,.d),(5,.d),(6,.d),(7,.d),(8,.d),(9,.d),(10,.d),(11,.d),(12,.d),(13,.d)] [(2,.bool true)] [2] (ao (.bool true) ab.zero (by((try simp only[vK]);(repeat (first | rw[n] | rw[ALcf])))<;>rfl) [] [] [])
def vL(ln:Int)(m:Nat)(a b c d e f g h:Int):Bool:=(bif !(((3==3&&(ln==ln&&true))&&true)&&((m:Int)==(m:Int)&&(a==0&&(b==0&&(c==0&&(d==0&&(e==0&&(f==0&&(g==0&&(h==0&&true)))))))))) then false else true)
theorem Tg(ln:Int)(d:List UInt8)(m:Nat)(a b e f g h i j:Int)(k:d.length=64):aa WK 17 #[.agg (sV 3 ln d m a b e f g h i j)] [] [] N0 (λ_=> .bool (vL ln m a b e f g h i j)):=by
 refine fG Tryz.func17 λw cs=>ra (λl=>[(1,pt (B0 l) 0),(2,.bool false)]) (λl=>[ob (B0 l) (sV 3 ln d m a b e f g h i j) 50]) λl=>r0 [(1,.m (ld 0 (i6 3))),(5,.m (ld 0 (i6 3))),(9,.m (ls 0 (sL 3 ln d m a b e f g h i j))),(10,.m (ls 0 (sL 3 ln d m a b e f g h i j))),(11,.c [] [] (S1 ln d m a b e f g h i j (by(simp only[LL,k,k];done)))),(12,.t (iE 50 λ_ _ _=>ja (xs:=([i6 3,i6 ln]:List Value)++rB 64 d++([u6 (m:Int),i6 a,i6 b,i6 e,i6 f,i6 g,i6 h,i6 i,i6 j]:List Value)) (ys:=([i6 3,i6 ln]:List Value)++rB 64 d++([u6 (m:Int),i6 0,i6 0,i6 0,i6 0,i6 0,i6 0,i6 0,i6 0]:List Value)) Kr (e6 Kr Kr (e6 Kr Kr bg ((iZ k k).trans (cD rfl))) bg)))] [(16,.bool (!(((3==3&&(ln==ln&&true))&&true)&&((m:Int)==(m:Int)&&(a==0&&(b==0&&(e==0&&(f==0&&(g==0&&(h==0&&(i==0&&(j==0&&true))))))))))))] [] ?_;refine cB (!(((3==3&&(ln==ln&&true))&&true)&&((m:Int)==(m:Int)&&(a==0&&(b==0&&(e==0&&(f==0&&(g==0&&(h==0&&(i==0&&(j==0&&true))))))))))) (λn=>?_) λn=>?_
 ·exact r0 [] [(2,.bool false)] [2] (ao (.bool false) ab.zero (by((try simp only[vL]);(repeat (first | rw[n] | rw[ALct])))<;>rfl) [] [] [])
 exact r0 [(1,.m (ld 0 (i6 3))),(4,.d),(5,.d),(6,.d),(7,.d),(8,.d),(9,.d),(10,.d),(11,.d),(12,.d),(13,.d)] [(2,.bool true)] [2] (ao (.bool true) ab.zero (by((try simp only[vL]);(repeat (first | rw[n] | rw[ALcf])))<;>rfl) [] [] [])
def vM(k j:Int)(d:List UInt8)(m:Nat)(a b c e f g h i:Int):Bool:=(bif !(((k==k&&(j==0&&true))&&decide (d=WJ 64 0))&&((m:Int)==0&&(a==0&&(b==0&&(c==0&&(e==0&&(f==0&&(g==0&&(h==0&&(i==0&&true)))))))))) then false else true)
theorem Th(k l:Int)(d:List UInt8)(m:Nat)(a b e f g h i j:Int)(p:d.length=64)(q:4≤k)(r:k≤7):aa WK 17 #[.agg (sV k l d m a b e f g h i j)] [] [] N0 (λ_=> .bool (vM k l d m a b e f g h i j)):=by
 refine fG Tryz.func17 λw cs=>ra (λn=>[(1,pt (B0 n) 0),(2,.bool false)]) (λn=>[ob (B0 n) (sV k l d m a b e f g h i j) 50]) λn=>r0 [(1,.m (ld 0 (i6 k))),(2,.t (tk (show Value.bool (decide (k<1))= .bool false from ALca Value.bool (by simp;omega)))),(5,.m (ld 0 (i6 k))),(6,.t (tk (show Value.bool (decide (8<k))= .bool false from ALca Value.bool (by simp;omega)))),(9,.m (ls 0 (sL k l d m a b e f g h i j))),(10,.m (ls 0 (sL k l d m a b e f g h i j))),(11,.c [] [] (S2 k l d m a b e f g h i j (by(simp only[LL,p,p];done)) Om Om)),(12,.t (iE 50 λ_ _ _=>ja (xs:=([i6 k,i6 l]:List Value)++rB 64 d++([u6 (m:Int),i6 a,i6 b,i6 e,i6 f,i6 g,i6 h,i6 i,i6 j]:List Value)) (ys:=([i6 k,i6 0]:List Value)++rB 64 z6++([u6 0,i6 0,i6 0,i6 0,i6 0,i6 0,i6 0,i6 0,i6 0]:List Value)) Kr (e6 Kr Kr (e6 Kr Kr bg (iZ p (show z6.length=64 by rfl))) bg)))] [(16,.bool (!(((k==k&&(l==0&&true))&&decide (d=WJ 64 0))&&((m:Int)==0&&(a==0&&(b==0&&(e==0&&(f==0&&(g==0&&(h==0&&(i==0&&(j==0&&true))))))))))))] [] ?_;refine cB (!(((k==k&&(l==0&&true))&&decide (d=WJ 64 0))&&((m:Int)==0&&(a==0&&(b==0&&(e==0&&(f==0&&(g==0&&(h==0&&(i==0&&(j==0&&true))))))))))) (λo=>?_) λo=>?_
 ·exact r0 [] [(2,.bool false)] [2] (ao (.bool false) ab.zero (by((try simp only[vM]);(repeat (first | rw[o] | rw[ALct])))<;>rfl) [] [] [])
 exact r0 [(1,.m (ld 0 (i6 k))),(2,.t (tk (show Value.bool (k != 8)= .bool true from ALca Value.bool (by rw[bne_iff_ne];omega)))),(4,.d),(5,.d),(6,.d),(7,.d),(8,.d),(9,.d),(10,.d),(11,.d),(12,.d),(13,.d)] [(2,.bool true)] [2] (ao (.bool true) ab.zero (by((try simp only[vM]);(repeat (first | rw[o] | rw[ALcf])))<;>rfl) [] [] [])
def vN(ln:Int)(d:List UInt8)(m:Nat)(a b c e g f h:Int):Bool:=(bif !(((8==8&&(ln==0&&true))&&decide (d=WJ 64 0))&&((m:Int)==0&&(1==1&&(a==a&&(b==b&&(c==c&&(e==e&&(g==0&&(f==f&&(h==0&&true)))))))))) then false else true)
theorem Ti(ln:Int)(d:List UInt8)(m:Nat)(a b e f h g i:Int)(l:d.length=64):aa WK 17 #[.agg (sV 8 ln d m 1 a b e f h g i)] [] [] N0 (λ_=> .bool (vN ln d m a b e f h g i)):=by
 refine fG Tryz.func17 λw cs=>ra (λj=>[(1,pt (B0 j) 0),(2,.bool false)]) (λj=>[ob (B0 j) (sV 8 ln d m 1 a b e f h g i) 50]) λj=>r0 [(1,.m (ld 0 (i6 8))),(5,.m (ld 0 (i6 8))),(9,.m (ls 0 (sL 8 ln d m 1 a b e f h g i))),(10,.m (ls 0 (sL 8 ln d m 1 a b e f h g i))),(11,.c [] [] (S3 ln d m a b e f h g i (by(simp only[LL,l,l];done)))),(12,.t (iE 50 λ_ _ _=>ja (xs:=([i6 8,i6 ln]:List Value)++rB 64 d++([u6 (m:Int),i6 1,i6 a,i6 b,i6 e,i6 f,i6 h,i6 g,i6 i]:List Value)) (ys:=([i6 8,i6 0]:List Value)++rB 64 z6++([u6 0,i6 1,i6 a,i6 b,i6 e,i6 f,i6 0,i6 g,i6 0]:List Value)) Kr (e6 Kr Kr (e6 Kr Kr bg (iZ l (show z6.length=64 by rfl))) bg)))] [(16,.bool (!(((8==8&&(ln==0&&true))&&decide (d=WJ 64 0))&&((m:Int)==0&&(1==1&&(a==a&&(b==b&&(e==e&&(f==f&&(h==0&&(g==g&&(i==0&&true))))))))))))] [] ?_;refine cB (!(((8==8&&(ln==0&&true))&&decide (d=WJ 64 0))&&((m:Int)==0&&(1==1&&(a==a&&(b==b&&(e==e&&(f==f&&(h==0&&(g==g&&(i==0&&true))))))))))) (λk=>?_) λk=>?_
 ·exact r0 [] [(2,.bool false)] [2] (ao (.bool false) ab.zero (by((try simp only[vN]);(repeat (first | rw[k] | rw[ALct])))<;>rfl) [] [] [])
 exact r0 [(1,.m (ld 0 (i6 8))),(6,.m (ld 0 (i6 1))),(11,.m (ld 0 (i6 1))),] [(2,.bool true)] [2] (ao (.bool true) ab.zero (by((try simp only[vN]);(repeat (first | rw[k] | rw[ALcf])))<;>rfl) [] [] [])
def vO(ln:Int)(d:List UInt8)(m:Nat)(a b c e h f g:Int):Bool:=(bif !(((8==8&&(ln==0&&true))&&decide (d=WJ 64 0))&&((m:Int)==0&&(2==2&&(a==a&&(b==b&&(c==c&&(e==e&&(h==0&&(f==f&&(g==g&&true)))))))))) then false else true)
theorem Tj(ln:Int)(d:List UInt8)(m:Nat)(a b e f i g h:Int)(l:d.length=64):aa WK 17 #[.agg (sV 8 ln d m 2 a b e f i g h)] [] [] N0 (λ_=> .bool (vO ln d m a b e f i g h)):=by
 refine fG Tryz.func17 λw cs=>ra (λj=>[(1,pt (B0 j) 0),(2,.bool false)]) (λj=>[ob (B0 j) (sV 8 ln d m 2 a b e f i g h) 50]) λj=>r0 [(1,.m (ld 0 (i6 8))),(5,.m (ld 0 (i6 8))),(9,.m (ls 0 (sL 8 ln d m 2 a b e f i g h))),(10,.m (ls 0 (sL 8 ln d m 2 a b e f i g h))),(11,.c [] [] (S4 ln d m a b e f i g h (by(simp only[LL,l,l];done)))),(12,.t (iE 50 λ_ _ _=>ja (xs:=([i6 8,i6 ln]:List Value)++rB 64 d++([u6 (m:Int),i6 2,i6 a,i6 b,i6 e,i6 f,i6 i,i6 g,i6 h]:List Value)) (ys:=([i6 8,i6 0]:List Value)++rB 64 z6++([u6 0,i6 2,i6 a,i6 b,i6 e,i6 f,i6 0,i6 g,i6 h]:List Value)) Kr (e6 Kr Kr (e6 Kr Kr bg (iZ l (show z6.length=64 by rfl))) bg)))] [(16,.bool (!(((8==8&&(ln==0&&true))&&decide (d=WJ 64 0))&&((m:Int)==0&&(2==2&&(a==a&&(b==b&&(e==e&&(f==f&&(i==0&&(g==g&&(h==h&&true))))))))))))] [] ?_;refine cB (!(((8==8&&(ln==0&&true))&&decide (d=WJ 64 0))&&((m:Int)==0&&(2==2&&(a==a&&(b==b&&(e==e&&(f==f&&(i==0&&(g==g&&(h==h&&true))))))))))) (λk=>?_) λk=>?_
 ·exact r0 [] [(2,.bool false)] [2] (ao (.bool false) ab.zero (by((try simp only[vO]);(repeat (first | rw[k] | rw[ALct])))<;>rfl) [] [] [])
 exact r0 [(1,.m (ld 0 (i6 8))),(6,.m (ld 0 (i6 2))),(11,.m (ld 0 (i6 2))),] [(2,.bool true)] [2] (ao (.bool true) ab.zero (by((try simp only[vO]);(repeat (first | rw[k] | rw[ALcf])))<;>rfl) [] [] [])
def vP(ln:Int)(d:List UInt8)(m:Nat)(a b c g e h f:Int):Bool:=(bif !(((8==8&&(ln==0&&true))&&decide (d=WJ 64 0))&&((m:Int)==0&&(3==3&&(a==a&&(b==b&&(c==c&&(g==0&&(e==e&&(h==0&&(f==f&&true)))))))))) then false else true)
theorem Tl(ln:Int)(d:List UInt8)(m:Nat)(a b e h f i g:Int)(l:d.length=64):aa WK 17 #[.agg (sV 8 ln d m 3 a b e h f i g)] [] [] N0 (λ_=> .bool (vP ln d m a b e h f i g)):=by
 refine fG Tryz.func17 λw cs=>ra (λj=>[(1,pt (B0 j) 0),(2,.bool false)]) (λj=>[ob (B0 j) (sV 8 ln d m 3 a b e h f i g) 50]) λj=>r0 [(1,.m (ld 0 (i6 8))),(5,.m (ld 0 (i6 8))),(9,.m (ls 0 (sL 8 ln d m 3 a b e h f i g))),(10,.m (ls 0 (sL 8 ln d m 3 a b e h f i g))),(11,.c [] [] (S5 ln d m a b e h f i g (by(simp only[LL,l,l];done)))),(12,.t (iE 50 λ_ _ _=>ja (xs:=([i6 8,i6 ln]:List Value)++rB 64 d++([u6 (m:Int),i6 3,i6 a,i6 b,i6 e,i6 h,i6 f,i6 i,i6 g]:List Value)) (ys:=([i6 8,i6 0]:List Value)++rB 64 z6++([u6 0,i6 3,i6 a,i6 b,i6 e,i6 0,i6 f,i6 0,i6 g]:List Value)) Kr (e6 Kr Kr (e6 Kr Kr bg (iZ l (show z6.length=64 by rfl))) bg)))] [(16,.bool (!(((8==8&&(ln==0&&true))&&decide (d=WJ 64 0))&&((m:Int)==0&&(3==3&&(a==a&&(b==b&&(e==e&&(h==0&&(f==f&&(i==0&&(g==g&&true))))))))))))] [] ?_;refine cB (!(((8==8&&(ln==0&&true))&&decide (d=WJ 64 0))&&((m:Int)==0&&(3==3&&(a==a&&(b==b&&(e==e&&(h==0&&(f==f&&(i==0&&(g==g&&true))))))))))) (λk=>?_) λk=>?_
 ·exact r0 [] [(2,.bool false)] [2] (ao (.bool false) ab.zero (by((try simp only[vP]);(repeat (first | rw[k] | rw[ALct])))<;>rfl) [] [] [])
 exact r0 [(1,.m (ld 0 (i6 8))),(6,.m (ld 0 (i6 3))),(11,.m (ld 0 (i6 3))),] [(2,.bool true)] [2] (ao (.bool true) ab.zero (by((try simp only[vP]);(repeat (first | rw[k] | rw[ALcf])))<;>rfl) [] [] [])
def vQ(ln:Int)(d:List UInt8)(m:Nat)(a b g c e h f:Int):Bool:=(bif !(((8==8&&(ln==0&&true))&&decide (d=WJ 64 0))&&((m:Int)==0&&(4==4&&(a==a&&(b==b&&(g==0&&(c==c&&(e==e&&(h==0&&(f==f&&true)))))))))) then false else true)
theorem Tm(ln:Int)(d:List UInt8)(m:Nat)(a b h e f i g:Int)(l:d.length=64):aa WK 17 #[.agg (sV 8 ln d m 4 a b h e f i g)] [] [] N0 (λ_=> .bool (vQ ln d m a b h e f i g)):=by
 refine fG Tryz.func17 λw cs=>ra (λj=>[(1,pt (B0 j) 0),(2,.bool false)]) (λj=>[ob (B0 j) (sV 8 ln d m 4 a b h e f i g) 50]) λj=>r0 [(1,.m (ld 0 (i6 8))),(5,.m (ld 0 (i6 8))),(9,.m (ls 0 (sL 8 ln d m 4 a b h e f i g))),(10,.m (ls 0 (sL 8 ln d m 4 a b h e f i g))),(11,.c [] [] (S6 ln d m a b h e f i g (by(simp only[LL,l,l];done)))),(12,.t (iE 50 λ_ _ _=>ja (xs:=([i6 8,i6 ln]:List Value)++rB 64 d++([u6 (m:Int),i6 4,i6 a,i6 b,i6 h,i6 e,i6 f,i6 i,i6 g]:List Value)) (ys:=([i6 8,i6 0]:List Value)++rB 64 z6++([u6 0,i6 4,i6 a,i6 b,i6 0,i6 e,i6 f,i6 0,i6 g]:List Value)) Kr (e6 Kr Kr (e6 Kr Kr bg (iZ l (show z6.length=64 by rfl))) bg)))] [(16,.bool (!(((8==8&&(ln==0&&true))&&decide (d=WJ 64 0))&&((m:Int)==0&&(4==4&&(a==a&&(b==b&&(h==0&&(e==e&&(f==f&&(i==0&&(g==g&&true))))))))))))] [] ?_;refine cB (!(((8==8&&(ln==0&&true))&&decide (d=WJ 64 0))&&((m:Int)==0&&(4==4&&(a==a&&(b==b&&(h==0&&(e==e&&(f==f&&(i==0&&(g==g&&true))))))))))) (λk=>?_) λk=>?_
 ·exact r0 [] [(2,.bool false)] [2] (ao (.bool false) ab.zero (by((try simp only[vQ]);(repeat (first | rw[k] | rw[ALct])))<;>rfl) [] [] [])
 exact r0 [(1,.m (ld 0 (i6 8))),(6,.m (ld 0 (i6 4))),(11,.m (ld 0 (i6 4))),] [(2,.bool true)] [2] (ao (.bool true) ab.zero (by((try simp only[vQ]);(repeat (first | rw[k] | rw[ALcf])))<;>rfl) [] [] [])
def vR(ln:Int)(d:List UInt8)(m:Nat)(a e f g b h c:Int):Bool:=(bif !(((8==8&&(ln==0&&true))&&decide (d=WJ 64 0))&&((m:Int)==0&&(5==5&&(a==a&&(e==0&&(f==0&&(g==0&&(b==b&&(h==0&&(c==c&&true)))))))))) then false else true)
theorem Tn(ln:Int)(d:List UInt8)(m:Nat)(a f g h b i e:Int)(l:d.length=64):aa WK 17 #[.agg (sV 8 ln d m 5 a f g h b i e)] [] [] N0 (λ_=> .bool (vR ln d m a f g h b i e)):=by
 refine fG Tryz.func17 λw cs=>ra (λj=>[(1,pt (B0 j) 0),(2,.bool false)]) (λj=>[ob (B0 j) (sV 8 ln d m 5 a f g h b i e) 50]) λj=>r0 [(1,.m (ld 0 (i6 8))),(5,.m (ld 0 (i6 8))),(9,.m (ls 0 (sL 8 ln d m 5 a f g h b i e))),(10,.m (ls 0 (sL 8 ln d m 5 a f g h b i e))),(11,.c [] [] (S7 ln d m a f g h b i e (by(simp only[LL,l,l];done)))),(12,.t (iE 50 λ_ _ _=>ja (xs:=([i6 8,i6 ln]:List Value)++rB 64 d++([u6 (m:Int),i6 5,i6 a,i6 f,i6 g,i6 h,i6 b,i6 i,i6 e]:List Value)) (ys:=([i6 8,i6 0]:List Value)++rB 64 z6++([u6 0,i6 5,i6 a,i6 0,i6 0,i6 0,i6 b,i6 0,i6 e]:List Value)) Kr (e6 Kr Kr (e6 Kr Kr bg (iZ l (show z6.length=64 by rfl))) bg)))] [(16,.bool (!(((8==8&&(ln==0&&true))&&decide (d=WJ 64 0))&&((m:Int)==0&&(5==5&&(a==a&&(f==0&&(g==0&&(h==0&&(b==b&&(i==0&&(e==e&&true))))))))))))] [] ?_;refine cB (!(((8==8&&(ln==0&&true))&&decide (d=WJ 64 0))&&((m:Int)==0&&(5==5&&(a==a&&(f==0&&(g==0&&(h==0&&(b==b&&(i==0&&(e==e&&true))))))))))) (λk=>?_) λk=>?_
 ·exact r0 [] [(2,.bool false)] [2] (ao (.bool false) ab.zero (by((try simp only[vR]);(repeat (first | rw[k] | rw[ALct])))<;>rfl) [] [] [])
 exact r0 [(1,.m (ld 0 (i6 8))),(6,.m (ld 0 (i6 5))),(11,.m (ld 0 (i6 5))),] [(2,.bool true)] [2] (ao (.bool true) ab.zero (by((try simp only[vR]);(repeat (first | rw[k] | rw[ALcf])))<;>rfl) [] [] [])
def vT(ln:Int)(d:List UInt8)(m:Nat)(a b c e f g h:Int):Bool:=(bif !(((8==8&&(ln==0&&true))&&decide (d=WJ 64 0))&&((m:Int)==0&&(6==6&&(a==a&&(b==b&&(c==c&&(e==e&&(f==0&&(g==0&&(h==0&&true)))))))))) then false else true)
theorem To(ln:Int)(d:List UInt8)(m:Nat)(a b e f g h i:Int)(l:d.length=64):aa WK 17 #[.agg (sV 8 ln d m 6 a b e f g h i)] [] [] N0 (λ_=> .bool (vT ln d m a b e f g h i)):=by
 refine fG Tryz.func17 λw cs=>ra (λj=>[(1,pt (B0 j) 0),(2,.bool false)]) (λj=>[ob (B0 j) (sV 8 ln d m 6 a b e f g h i) 50]) λj=>r0 [(1,.m (ld 0 (i6 8))),(5,.m (ld 0 (i6 8))),(9,.m (ls 0 (sL 8 ln d m 6 a b e f g h i))),(10,.m (ls 0 (sL 8 ln d m 6 a b e f g h i))),(11,.c [] [] (S8 ln d m a b e f g h i (by(simp only[LL,l,l];done)))),(12,.t (iE 50 λ_ _ _=>ja (xs:=([i6 8,i6 ln]:List Value)++rB 64 d++([u6 (m:Int),i6 6,i6 a,i6 b,i6 e,i6 f,i6 g,i6 h,i6 i]:List Value)) (ys:=([i6 8,i6 0]:List Value)++rB 64 z6++([u6 0,i6 6,i6 a,i6 b,i6 e,i6 f,i6 0,i6 0,i6 0]:List Value)) Kr (e6 Kr Kr (e6 Kr Kr bg (iZ l (show z6.length=64 by rfl))) bg)))] [(16,.bool (!(((8==8&&(ln==0&&true))&&decide (d=WJ 64 0))&&((m:Int)==0&&(6==6&&(a==a&&(b==b&&(e==e&&(f==f&&(g==0&&(h==0&&(i==0&&true))))))))))))] [] ?_;refine cB (!(((8==8&&(ln==0&&true))&&decide (d=WJ 64 0))&&((m:Int)==0&&(6==6&&(a==a&&(b==b&&(e==e&&(f==f&&(g==0&&(h==0&&(i==0&&true))))))))))) (λk=>?_) λk=>?_
 ·exact r0 [] [(2,.bool false)] [2] (ao (.bool false) ab.zero (by((try simp only[vT]);(repeat (first | rw[k] | rw[ALct])))<;>rfl) [] [] [])
 exact r0 [(1,.m (ld 0 (i6 8))),(6,.m (ld 0 (i6 6))),(11,.m (ld 0 (i6 6))),] [(2,.bool true)] [2] (ao (.bool true) ab.zero (by((try simp only[vT]);(repeat (first | rw[k] | rw[ALcf])))<;>rfl) [] [] [])
def vU(ln:Int)(d:List UInt8)(m:Nat)(a b c e f g h:Int):Bool:=(bif !(((8==8&&(ln==0&&true))&&decide (d=WJ 64 0))&&((m:Int)==0&&(7==7&&(a==0&&(b==0&&(c==0&&(e==0&&(f==0&&(g==0&&(h==0&&true)))))))))) then false else true)
theorem Tp(ln:Int)(d:List UInt8)(m:Nat)(a b e f g h i:Int)(l:d.length=64):aa WK 17 #[.agg (sV 8 ln d m 7 a b e f g h i)] [] [] N0 (λ_=> .bool (vU ln d m a b e f g h i)):=by
 refine fG Tryz.func17 λw cs=>ra (λj=>[(1,pt (B0 j) 0),(2,.bool false)]) (λj=>[ob (B0 j) (sV 8 ln d m 7 a b e f g h i) 50]) λj=>r0 [(1,.m (ld 0 (i6 8))),(5,.m (ld 0 (i6 8))),(9,.m (ls 0 (sL 8 ln d m 7 a b e f g h i))),(10,.m (ls 0 (sL 8 ln d m 7 a b e f g h i))),(11,.c [] [] (S9 ln d m a b e f g h i (by(simp only[LL,l,l];done)))),(12,.t (iE 50 λ_ _ _=>ja (xs:=([i6 8,i6 ln]:List Value)++rB 64 d++([u6 (m:Int),i6 7,i6 a,i6 b,i6 e,i6 f,i6 g,i6 h,i6 i]:List Value)) (ys:=([i6 8,i6 0]:List Value)++rB 64 z6++([u6 0,i6 7,i6 0,i6 0,i6 0,i6 0,i6 0,i6 0,i6 0]:List Value)) Kr (e6 Kr Kr (e6 Kr Kr bg (iZ l (show z6.length=64 by rfl))) bg)))] [(16,.bool (!(((8==8&&(ln==0&&true))&&decide (d=WJ 64 0))&&((m:Int)==0&&(7==7&&(a==0&&(b==0&&(e==0&&(f==0&&(g==0&&(h==0&&(i==0&&true))))))))))))] [] ?_;refine cB (!(((8==8&&(ln==0&&true))&&decide (d=WJ 64 0))&&((m:Int)==0&&(7==7&&(a==0&&(b==0&&(e==0&&(f==0&&(g==0&&(h==0&&(i==0&&true))))))))))) (λk=>?_) λk=>?_
 ·exact r0 [] [(2,.bool false)] [2] (ao (.bool false) ab.zero (by((try simp only[vU]);(repeat (first | rw[k] | rw[ALct])))<;>rfl) [] [] [])
 exact r0 [(1,.m (ld 0 (i6 8))),(6,.m (ld 0 (i6 7))),(11,.m (ld 0 (i6 7))),] [(2,.bool true)] [2] (ao (.bool true) ab.zero (by((try simp only[vU]);(repeat (first | rw[k] | rw[ALcf])))<;>rfl) [] [] [])
def vV(ln:Int)(d:List UInt8)(m:Nat)(a b c e f g h i:Int):Bool:=(bif !(((8==8&&(ln==0&&true))&&decide (d=WJ 64 0))&&((m:Int)==0&&(a==a&&(b==0&&(c==0&&(e==0&&(f==0&&(g==0&&(h==0&&(i==0&&true)))))))))) then false else(decide (1≤a))&&(decide (a≤7)))
theorem Tq(ln:Int)(d:List UInt8)(m:Nat)(a b e f g h i j:Int)(n:d.length=64)(o:a<1∨7<a):aa WK 17 #[.agg (sV 8 ln d m a b e f g h i j)] [] [] N0 (λ_=> .bool (vV ln d m a b e f g h i j)):=by
 refine fG Tryz.func17 λw cs=>ra (λk=>[(1,pt (B0 k) 0),(2,.bool false)]) (λk=>[ob (B0 k) (sV 8 ln d m a b e f g h i j) 50]) λk=>r0 [(1,.m (ld 0 (i6 8))),(5,.m (ld 0 (i6 8))),(9,.m (ls 0 (sL 8 ln d m a b e f g h i j))),(10,.m (ls 0 (sL 8 ln d m a b e f g h i j))),(11,.c [] [] (Ta ln d m a b e f g h i j (by(simp only[LL,n,n];done)) Om)),(12,.t (iE 50 λ_ _ _=>ja (xs:=([i6 8,i6 ln]:List Value)++rB 64 d++([u6 (m:Int),i6 a,i6 b,i6 e,i6 f,i6 g,i6 h,i6 i,i6 j]:List Value)) (ys:=([i6 8,i6 0]:List Value)++rB 64 z6++([u6 0,i6 a,i6 0,i6 0,i6 0,i6 0,i6 0,i6 0,i6 0]:List Value)) Kr (e6 Kr Kr (e6 Kr Kr bg (iZ n (show z6.length=64 by rfl))) bg)))] [(16,.bool (!(((8==8&&(ln==0&&true))&&decide (d=WJ 64 0))&&((m:Int)==0&&(a==a&&(b==0&&(e==0&&(f==0&&(g==0&&(h==0&&(i==0&&(j==0&&true))))))))))))] [] ?_;refine cB (!(((8==8&&(ln==0&&true))&&decide (d=WJ 64 0))&&((m:Int)==0&&(a==a&&(b==0&&(e==0&&(f==0&&(g==0&&(h==0&&(i==0&&(j==0&&true))))))))))) (λl=>?_) λl=>?_
 ·exact r0 [] [(2,.bool false)] [2] (ao (.bool false) ab.zero (by((try simp only[vV]);(repeat (first | rw[l] | rw[ALct])))<;>rfl) [] [] [])
 exact r0 [(1,.m (ld 0 (i6 8))),(6,.m (ld 0 (i6 a))),(11,.m (ld 0 (i6 a))),] [(2,.bool ((decide (1≤a))&&(decide (a≤7))))] [2] (ao (.bool ((decide (1≤a))&&(decide (a≤7)))) ab.zero (by((try simp only[vV]);(repeat (first | rw[l] | rw[ALcf])))<;>rfl) [] [] [])
def eo(k j:Int)(d:List UInt8)(m:Nat)(a b c e f g h i:Int):Bool:=
 if k<1 then false else if 8<k then false else if k=1 then vJ j d m a b c e f g h i else if k=2 then vK j m a b c e f g h i else if k=3 then vL j m a b c e f g h i else if k≤7 then vM k j d m a b c e f g h i else if a=1 then vN j d m b c e f g h i else if a=2 then vO j d m b c e f g h i else if a=3 then vP j d m b c e f g h i else if a=4 then vQ j d m b c e f g h i else if a=5 then vR j d m b c e f g h i else if a=6 then vT j d m b c e f g h i else if a=7 then vU j d m b c e f g h i else vV j d m a b c e f g h i
def sR(s:St):Bool:=eo s.k s.ln s.d s.m s.f0 s.f1 s.f2 s.f3 s.f4 s.f5 s.f6 s.f7
theorem Tr{s:St}(h:sR s=true):1≤s.k∧s.k≤8:=by
 unfold sR eo at h;by_cases a:s.k<1
 ·rw[ALifp a] at h;cases h
 ·rw[ALifn a] at h;by_cases b:8<s.k
  ·rw[ALifp b] at h;cases h
  ·omega
theorem kj(k j:Int)(d:List UInt8)(m:Nat)(a b c e f g h i:Int)(l:d.length=64):aa WK 17 #[.agg ([i6 k,i6 j]++rB 64 d++[u6 (m:Int),i6 a,i6 b,i6 c,i6 e,i6 f,i6 g,i6 h,i6 i]).toArray] [] [] N0 (λ_=> .bool (eo k j d m a b c e f g h i)):=by
 unfold eo;by_cases n:k<1
 ·rw[ALifp n];exact Tc k j d m a b c e f g h i l n
 rw[ALifn n];by_cases o:8<k
 ·rw[ALifp o];exact Td k j d m a b c e f g h i l o
 rw[ALifn o];by_cases x:k=1
 ·subst x;rw[ALifp rfl];exact Te j d m a b c e f g h i l
 rw[ALifn x];by_cases y:k=2
 ·subst y;rw[ALifp rfl];exact Tf j d m a b c e f g h i l
 rw[ALifn y];by_cases z:k=3
 ·subst z;rw[ALifp rfl];exact Tg j d m a b c e f g h i l
 rw[ALifn z];by_cases p:k≤7
 ·rw[ALifp p];exact Th k j d m a b c e f g h i l Om p
 rw[ALifn p];obtain rfl:k=8:=by omega
 by_cases q:a=1
 ·subst q;rw[ALifp rfl];exact Ti j d m b c e f g h i l
 rw[ALifn q];by_cases r:a=2
 ·subst r;rw[ALifp rfl];exact Tj j d m b c e f g h i l
 rw[ALifn r];by_cases s:a=3
 ·subst s;rw[ALifp rfl];exact Tl j d m b c e f g h i l
 rw[ALifn s];by_cases t:a=4
 ·subst t;rw[ALifp rfl];exact Tm j d m b c e f g h i l
 rw[ALifn t];by_cases u:a=5
 ·subst u;rw[ALifp rfl];exact Tn j d m b c e f g h i l
 rw[ALifn u];by_cases v:a=6
 ·subst v;rw[ALifp rfl];exact To j d m b c e f g h i l
 rw[ALifn v];by_cases w:a=7
 ·subst w;rw[ALifp rfl];exact Tp j d m b c e f g h i l
 rw[ALifn w];exact Tq j d m a b c e f g h i l Om
theorem sM{α:Type}{en:α→List Value}{d:α}{A C:List Value}{a off m:Nat}{ys:List α}{t:TypeId}(h1: ∀x,(en x).length=1)(hA:A.length=off)(h:ys.length=m):aG en (.slice (some ⟨a,off,none⟩) m m) ys [(a,.cells ((A++cI en d m ys++C).toArray) t (0,0))]:=by
 have e:((A++cI en d m ys++C).drop off).take (ak en ys).length=ak en ys:=by rw[kL h,W7,←hA,List.drop_left,List.take_left]
 exact⟨.inr ⟨a,off,_,t,(0,0),m,by rw[h],List.mem_singleton.2 rfl,e⟩,some ⟨a,off,none⟩,0,by rw[h];rfl⟩
theorem sN{P:Program}{T:TypeId}{w:World}{g off s N:Nat}(a:(P.underlying T,P.arrayLen T,iY P (P.elem T))=(some (.array N (P.elem T)),N,some s))(c:0<N):(Instr.sliceAt T (.pointer (some ⟨g,off,none⟩)) none none none).run P w= .ok (.slice (some ⟨g,off,none⟩) N N) w:=by
 have b:P.arrayLen T=N:=ALca (·.2.1) a;rw[run_sliceAt_array_all w T ⟨g,off,none⟩ (by rw[b];exact ALca (·.1) a),nT (ALca (·.2.2) a),XJ];unfold slicedAt;rw[b,add_lit,Xx,ALifn Om];rfl
structure Ij where
 x0:Int
 x1:Int
 x2:Int
 x3:Int
 x4:Int
 x5:Int
 x6:Int
 x7:Int
 sc:Nat
 ac:Nat
def Ts:Ij:=⟨0,0,0,0,0,0,0,0,0,0⟩
def FE(x:Ij):List Value:=[i6 x.x0,i6 x.x1,i6 x.x2,i6 x.x3,i6 x.x4,i6 x.x5,i6 x.x6,i6 x.x7,iN x.sc,iN x.ac]
def Tt:Kd WK Ij:=⟨FE,[i6 0,i6 0,i6 0,i6 0,i6 0,i6 0,i6 0,i6 0,i6 0,i6 0],111,187,Ts,10,λ_=>rfl,rfl,λ_=>rfl,dX.mk' Kr Kr rfl⟩
abbrev gp(v:Value)(xs:List Ij):aA:= .p (aq FE ([i6 0,i6 0,i6 0,i6 0,i6 0,i6 0,i6 0,i6 0,i6 0,i6 0]) 187 v xs)
structure Sv where
 k:Int
 ln:Int
 d:List UInt8
 m:Nat
 f0:Int
 f1:Int
 f2:Int
 f3:Int
 f4:Int
 f5:Int
 f6:Int
 f7:Int
 e:Int
 n:Int
 l:List UInt8
 w:List UInt8
 fi:Nat
 la:Nat
def zG:Sv:=⟨0,0,WJ 64 0,0,0,0,0,0,0,0,0,0,0,0,WJ 64 0,WJ 64 0,0,0⟩
def FF(x:Sv):List Value:=[i6 x.k,i6 x.ln]++rB 64 x.d++[u6 (x.m:Int),i6 x.f0,i6 x.f1,i6 x.f2,i6 x.f3,i6 x.f4,i6 x.f5,i6 x.f6,i6 x.f7,i6 x.e,i6 x.n]++rB 64 x.l++rB 64 x.w++[iN x.fi,iN x.la]
def zH:Kd WK Sv:=⟨FF,[i6 0,i6 0]++WJ 64 (u1 0)++[u6 0,i6 0,i6 0,i6 0,i6 0,i6 0,i6 0,i6 0,i6 0,i6 0,i6 0]++WJ 64 (u1 0)++WJ 64 (u1 0)++[i6 0,i6 0],112,149,zG,207,λ_=>rfl,rfl,λ_=>rfl,dX.mk' Kr Kr rfl⟩
abbrev dj(v:Value)(xs:List Sv):aA:= .p (aq FF ([i6 0,i6 0]++WJ 64 (u1 0)++[u6 0,i6 0,i6 0,i6 0,i6 0,i6 0,i6 0,i6 0,i6 0,i6 0,i6 0]++WJ 64 (u1 0)++WJ 64 (u1 0)++[i6 0,i6 0]) 149 v xs)
structure Mc where
 x:Ct
 id:Int→List UInt8
 inj:List Ij
 sv:List Sv
 sc:Nat
 st:Nat
def po:List UInt8:=WJ 64 0
def vW(r:List UInt8):Value:= .agg (rB 64 r).toArray
abbrev Ww(f:Int→List UInt8)(g:Nat):aA:= .p (lO vW po f g)
abbrev aH(g a i m j l h n f b e k:Nat)(c:Cf)(x:Mc)(L:aj):Prop:=∃(gi:Nat) (d vs:Value),L=[ob g #[pt b 0,pt a 0,.map (some gi),d,vs,iN x.sc,iN x.st] 114,pk (aQ a i m j l h n f b e k c x.x),Ww x.id gi,gp d x.inj,dj vs x.sv]
structure ez (c:Cf) (x:Mc) (K A N:Nat):Prop where
 ct:bp c x.x K A
 il: ∀k,(x.id k).length=64
 jl:x.inj.length≤N
 sl:x.sv.length≤N
 sc:x.sc≤N
 st:x.st≤N
theorem k9(d h l i k g m f a b j:Nat)(c:Cf)(x:Ct):aa WK 42 #[pt a 0] [pk (aQ d h l i k g m f a b j c x)] [0] (λ_=>[pk (aQ d h l i k g m f a b j c x)]) (λ_=>iN x.V.l.length):=
 aa.inW (RZ a b c x.V) λL ⟨v,e⟩=>⟨6,by rw[e];rfl,v,by rw[e];rfl⟩
theorem Tu(g j n k m i o h a b l:Nat)(c:Cf)(x:Ct)(d:cr c)(p:nE c x.V)(f:Fa):aa WK 90 #[pt a 0,.agg #[i6 f.x0,i6 f.x1,i6 f.x2,i6 f.x3,i6 f.x4,i6 f.x5,i6 f.x6,i6 f.x7]] [pk (aQ g j n k m i o h a b l c x)] [0] (λ_=>[pk (aQ g j n k m i o h a b l c {x with V:=mU c x.V f})]) (λ_=>i6 (hP c x.V.D f)):=
 aa.inW (R3 a b c d x.V p f) λL ⟨v,e⟩=>⟨6,by rw[e];rfl,v,by rw[e];rfl⟩
theorem FG(v:Nat):cc v≠30:=by unfold cc;cases (v:Int)==3<;>cases (v:Int)==2<;>decide
theorem FH(c:Cf)(x:Ct)(n m:Nat)(a:m≠0):cd c x n m≠30:=by
 unfold cd;rw[show((m:Int)==0)=false from dN.2 Om];cases decide (pc m=64)
 ·cases hv: !(cc (bB c x (aU x n))==0)
  ·show(0:Int)≠30;decide
  ·exact FG _
 ·show(0:Int)≠30;decide
def FI(s:St)(e:Int)(l w:List UInt8)(a b:Nat):Sv:=⟨s.k,s.ln,s.d,s.m,s.f0,s.f1,s.f2,s.f3,s.f4,s.f5,s.f6,s.f7,e,0,l,w,a,b⟩
def FJ(c:Cf)(x:Mc)(n:Nat)(s:St):Mc:={x with x:=cu c x.x n c.X,sv:=x.sv++[FI s (cc (bB c x.x (aU x.x n))) (cC c x.x (aU x.x n)) (x.id (n:Int)) x.x.V.l.length (cu c x.x n c.X).V.l.length]}
def vX(c:Cf)(x:Mc)(n m:Nat)(s:St):Mc:={x with x:=bG c x.x n s.d m,id:=dC x.id (n:Int) (iM (x.id (n:Int)) s.d m),sv:=x.sv++[FI s (cd c x.x n m) z6 (x.id (n:Int)) x.x.V.l.length (bG c x.x n s.d m).V.l.length]}
theorem Tv(g q D I F H C J B r z G:Nat)(c:Cf)(y:Ct)(K A:Nat)(h:bp c y K A)(hA:A≤700000)(O:K+3≤1000000000)(n:Nat)(R:n<((c.R*c.B*c.M-c.res)*c.C))(d:List UInt8)(T:d.length=64)(m:Nat)(a b e f i j o p:Int)(id:Int→List UInt8)(Q: ∀k,(id k).length=64)(sv:List Sv)(S:sv.length≤1000)(sc st u:Nat)(N vs:Value):aa WK 54 #[pt g 0,.agg (sV 1 (n:Int) d m a b e f i j o p)] [ob g #[pt r 0,pt q 0,.map (some u),N,vs,iN sc,iN st] 114,pk (aQ q D I F H C J B r z G c y),Ww id u,dj vs sv] [0,1,2,3] (λE=>[ob g #[pt r 0,pt q 0,.map (some u),N,(E.val 0),iN sc,iN st] 114,pk (aQ q D I F H C J B r z G c (cu c y n c.X)),Ww id u,dj (E.val 0) (sv++([(⟨1,(n:Int),d,m,a,b,e,f,i,j,o,p,(cc (bB c y (aU y n))),0,cC c y (aU y n),(id (n:Int)),y.V.l.length,(cu c y n c.X).V.l.length⟩:Sv)]))]) (λ_=> .agg (([i6 (cc (bB c y (aU y n))),i6 0]:List Value)++rB 64 (cC c y (aU y n))).toArray):=by
 have P:=h.cf;exact fG Tryz.func54 λw cs=>ra (λx=>[(3,pt (B0 x) 0),(4,pt (B1 x) 0)]) (λx=>[ob (B0 x) (sV 1 (n:Int) d m a b e f i j o p) 50,ob (B1 x) (([i6 0,i6 0]:List Value)++rB 64 z6).toArray 53]) λx=>rr (λ_=>[(0,.m (ls 4 (sL 1 (n:Int) d m a b e f i j o p))),(4,.m (ld 0 (.map (some u)))),(6,.m (ld 4 (iN n))),(7,.m (mg 2 (Ww id u) u (n:Int) (λ_ h=>h))),(11,.m (ld 0 (pt r 0))),(12,.c [1] [1] (k9 q D I F H C J B r z G c y)),(14,.m (al 6)),(15,.s 6)]) (λM=>[(5,pt ((M 14).y 0) 0)]) [] (λM L=>L++[ob ((M 14).y 0) (([i6 1,iN n]:List Value)++rB 64 d++([u6 (m:Int),i6 a,i6 b,i6 e,i6 f,i6 i,i6 j,i6 o,i6 p,i6 0,i6 0]:List Value)++rB 64 z6++rB 64 (id (n:Int))++([iN y.V.l.length,i6 0]:List Value)).toArray 149]) λM=>r0 [(1,.l 4)] [(21,i6 1)] [] (rT [] 35 (rr (λ_=>[(3,.m (ld 0 (pt q 0))),(5,.m (ld 4 (iN n))),(6,.c [1] [1] (SD q D I F H C J B r z G c y _ _ h hA O n R)),(12,.s 6),(15,.s 6)]) N0 [] (λ_ L=>(L.set 1 ((pk (aQ q D I F H C J B r z G c (cu c y n c.X))))).set 6 (ob ((M 14).y 0) (([i6 1,iN n]:List Value)++rB 64 d++([u6 (m:Int),i6 a,i6 b,i6 e,i6 f,i6 i,i6 j,i6 o,i6 p,i6 (cc (bB c y (aU y n))),i6 0]:List Value)++rB 64 (cC c y (aU y n))++rB 64 (id (n:Int))++([iN y.V.l.length,i6 0]:List Value)).toArray 149)) λU=>rF [(2,.l 6),(3,.t (tk (show Value.bool ((cc (bB c y (aU y n)))==30)= .bool false from ALca Value.bool (by exact dN.2 (FG _)))))] 68 (rF [(1,.l 4)] 73 (rs [(3,.l 0),(4,.c [1] [1] (k9 q D I F H C J B r z G c (cu c y n c.X))),(6,.s 6)] 6 (ob ((M 14).y 0) (([i6 1,iN n]:List Value)++rB 64 d++([u6 (m:Int),i6 a,i6 b,i6 e,i6 f,i6 i,i6 j,i6 o,i6 p,i6 (cc (bB c y (aU y n))),i6 0]:List Value)++rB 64 (cC c y (aU y n))++rB 64 (id (n:Int))++([iN y.V.l.length,i6 (((cu c y n c.X).V.l.length:Nat):Int)]:List Value)).toArray 149) (rr (λv=>[(4,.l 0),(5,.l 6),(6,.m (bs 7 1)),(7,eT zH (vs) sv 3 7 ([(⟨1,(n:Int),d,m,a,b,e,f,i,j,o,p,(cc (bB c y (aU y n))),0,cC c y (aU y n),(id (n:Int)),y.V.l.length,(cu c y n c.X).V.l.length⟩:Sv)])),(10,.m (fj 0 3 (dj ((v 7).val 0) (sv++([(⟨1,(n:Int),d,m,a,b,e,f,i,j,o,p,(cc (bB c y (aU y n))),0,cC c y (aU y n),(id (n:Int)),y.V.l.length,(cu c y n c.X).V.l.length⟩:Sv)]))) ((v 7).val 0) λbs h=>aq.one ((λ_ h=>h) bs h)))]) N0 [] (λv L=>(L.set 0 (ob g #[pt r 0,pt q 0,.map (some u),N,(v 7).val 0,iN sc,iN st] 114)).set 3 (dj ((v 7).val 0) (sv++([(⟨1,(n:Int),d,m,a,b,e,f,i,j,o,p,(cc (bB c y (aU y n))),0,cC c y (aU y n),(id (n:Int)),y.V.l.length,(cu c y n c.X).V.l.length⟩:Sv)])))++[ob (B6 v) (([i6 1,iN n]:List Value)++rB 64 d++([u6 (m:Int),i6 a,i6 b,i6 e,i6 f,i6 i,i6 j,i6 o,i6 p,i6 (cc (bB c y (aU y n))),i6 0]:List Value)++rB 64 (cC c y (aU y n))++rB 64 (id (n:Int))++([iN y.V.l.length,i6 (((cu c y n c.X).V.l.length:Nat):Int)]:List Value)).toArray 149]) λv=>rs [(1,.l 6),(2,.s 5)] 5 (ob (B1 x) (([i6 (cc (bB c y (aU y n))),i6 0]:List Value)++rB 64 (cC c y (aU y n))).toArray 53) (lf (.l [] [] [(v 7).val 0]) [0,1,2,3] [] [5]))))))
theorem Tw(g a C H D G B I z b x F:Nat)(c:Cf)(y:Ct)(K A:Nat)(h:bp c y K A)(hA:A≤700000)(Q:K+3≤1000000000)(n:Int)(O:bK n ((((c.R*c.B*c.M-c.res)*c.C):Nat):Int)=false)(d:List UInt8)(R:d.length=64)(m:Nat)(i j o p q r t u:Int)(id:Int→List UInt8)(N: ∀k,(id k).length=64)(sv:List Sv)(P:sv.length≤1000)(sc st e:Nat)(J vs:Value):aa WK 54 #[pt g 0,.agg (sV 1 n d m i j o p q r t u)] [ob g #[pt b 0,pt a 0,.map (some e),J,vs,iN sc,iN st] 114,pk (aQ a C H D G B I z b x F c y),Ww id e,dj vs sv] [0,1,2,3] (λ_=>[ob g #[pt b 0,pt a 0,.map (some e),J,vs,iN sc,iN st] 114,pk (aQ a C H D G B I z b x F c y),Ww id e,dj vs sv]) (λ_=> .agg (([i6 30,i6 0]:List Value)++rB 64 z6).toArray):=by
 have M:=h.cf;exact fG Tryz.func54 λw cs=>ra (λf=>[(3,pt (B0 f) 0),(4,pt (B1 f) 0)]) (λf=>[ob (B0 f) (sV 1 n d m i j o p q r t u) 50,ob (B1 f) (([i6 0,i6 0]:List Value)++rB 64 z6).toArray 53]) λf=>rr (λ_=>[(0,.m (ls 4 (sL 1 n d m i j o p q r t u))),(4,.m (ld 0 (.map (some e)))),(6,.m (ld 4 (i6 n))),(7,.m (mg 2 (Ww id e) e n (λ_ h=>h))),(11,.m (ld 0 (pt b 0))),(12,.c [1] [1] (k9 a C H D G B I z b x F c y)),(14,.m (al 6)),(15,.s 6)]) (λv=>[(5,pt ((v 14).y 0) 0)]) [] (λv L=>L++[ob ((v 14).y 0) (([i6 1,i6 n]:List Value)++rB 64 d++([u6 (m:Int),i6 i,i6 j,i6 o,i6 p,i6 q,i6 r,i6 t,i6 u,i6 0,i6 0]:List Value)++rB 64 z6++rB 64 (id n)++([iN y.V.l.length,i6 0]:List Value)).toArray 149]) λv=>r0 [(1,.l 4)] [(21,i6 1)] [] (rT [] 35 (rs [(3,.m (ld 0 (pt a 0))),(5,.m (ld 4 (i6 n))),(6,.c [1] [1] (SF a C H D G B I z b x F c y _ _ h n O)),(12,.s 6),(15,.s 6)] 6 (ob ((v 14).y 0) (([i6 1,i6 n]:List Value)++rB 64 d++([u6 (m:Int),i6 i,i6 j,i6 o,i6 p,i6 q,i6 r,i6 t,i6 u,i6 30,i6 0]:List Value)++rB 64 z6++rB 64 (id n)++([iN y.V.l.length,i6 0]:List Value)).toArray 149) (rT [(2,.l 6)] 68 (rs [(1,.l 6),(2,.s 5)] 5 (ob (B1 f) (([i6 30,i6 0]:List Value)++rB 64 z6).toArray 53) (lf ab.zero [0,1,2,3] [] [5])))))
theorem Tx(g r D I F H B J z u x G:Nat)(c:Cf)(y:Ct)(K A:Nat)(h:bp c y K A)(hA:A≤700000)(U:K+3≤1000000000)(n:Int)(S:bK n ((((c.R*c.B*c.M-c.res)*c.C):Nat):Int)=false)(d:List UInt8)(O:d.length=64)(m:Nat)(b e f i j o p q:Int)(id:Int→List UInt8)(R: ∀k,(id k).length=64)(sv:List Sv)(T:sv.length≤1000)(sc st v:Nat)(P vs:Value):aa WK 54 #[pt g 0,.agg (sV 2 n d m b e f i j o p q)] [ob g #[pt u 0,pt r 0,.map (some v),P,vs,iN sc,iN st] 114,pk (aQ r D I F H B J z u x G c y),Ww id v,dj vs sv] [0,1,2,3] (λ_=>[ob g #[pt u 0,pt r 0,.map (some v),P,vs,iN sc,iN st] 114,pk (aQ r D I F H B J z u x G c y),Ww id v,dj vs sv]) (λ_=> .agg (([i6 30,i6 0]:List Value)++rB 64 z6).toArray):=by
 have Q:=h.cf;exact fG Tryz.func54 λw cs=>ra (λa=>[(3,pt (B0 a) 0),(4,pt (B1 a) 0)]) (λa=>[ob (B0 a) (sV 2 n d m b e f i j o p q) 50,ob (B1 a) (([i6 0,i6 0]:List Value)++rB 64 z6).toArray 53]) λa=>rr (λ_=>[(0,.m (ls 4 (sL 2 n d m b e f i j o p q))),(4,.m (ld 0 (.map (some v)))),(6,.m (ld 4 (i6 n))),(7,.m (mg 2 (Ww id v) v n (λ_ h=>h))),(11,.m (ld 0 (pt u 0))),(12,.c [1] [1] (k9 r D I F H B J z u x G c y)),(14,.m (al 6)),(15,.s 6)]) (λM=>[(5,pt ((M 14).y 0) 0)]) [] (λM L=>L++[ob ((M 14).y 0) (([i6 2,i6 n]:List Value)++rB 64 d++([u6 (m:Int),i6 b,i6 e,i6 f,i6 i,i6 j,i6 o,i6 p,i6 q,i6 0,i6 0]:List Value)++rB 64 z6++rB 64 (id n)++([iN y.V.l.length,i6 0]:List Value)).toArray 149]) λM=>r0 [(1,.l 4)] [(21,i6 2)] [] (rF [] 35 (rT [] 51 (rs [(1,.s 4)] 4 (ob (B0 a) (sV 2 n d 18446744073709551615 b e f i j o p q) 50) (rs [(3,.m (ld 0 (pt r 0))),(5,.m (ld 4 (i6 n))),(7,.t (tv (Instr.sliceAt 43 (pt (B0 a) 2) none none none) (λ_=>sN (s:=1) (N:=64) Kr Dc))),(8,.c [1,4] [1] (aa.at (rd':=[pk (aQ r D I F H B J z u x G c y),ob (B0 a) (sV 2 n d 18446744073709551615 b e f i j o p q) 50]) (SK r D I F H B J z u x G c y _ _ h n S (.slice (some ⟨(a 0).y 0,2,none⟩) 64 64) d (by(simp only[LL,O,O];done))) (aP (ec (sM (d:=0) (A:=([i6 2,i6 n]:List Value)) (C:=([u6 18446744073709551615,i6 b,i6 e,i6 f,i6 i,i6 j,i6 o,i6 p,i6 q]:List Value)) (λ_=>rfl) rfl O) (λ_ h=>h))))),(11,.s 6)] 6 (ob ((M 14).y 0) (([i6 2,i6 n]:List Value)++rB 64 d++([u6 (m:Int),i6 b,i6 e,i6 f,i6 i,i6 j,i6 o,i6 p,i6 q,i6 30,i6 0]:List Value)++rB 64 z6++rB 64 (id n)++([iN y.V.l.length,i6 0]:List Value)).toArray 149) (rT [(2,.l 6)] 68 (rs [(1,.l 6),(2,.s 5)] 5 (ob (B1 a) (([i6 30,i6 0]:List Value)++rB 64 z6).toArray 53) (lf ab.zero [0,1,2,3] [] [5])))))))
theorem Ty(g b D I F H B J z e x G:Nat)(c:Cf)(y:Ct)(K A:Nat)(h:bp c y K A)(hA:A≤700000)(U:K+3≤1000000000)(n:Int)(S:bK n ((((c.R*c.B*c.M-c.res)*c.C):Nat):Int)=false)(d:List UInt8)(O:d.length=64)(m:Nat)(f i j o p q r u:Int)(id:Int→List UInt8)(R: ∀k,(id k).length=64)(sv:List Sv)(T:sv.length≤1000)(sc st v:Nat)(P vs:Value):aa WK 54 #[pt g 0,.agg (sV 3 n d m f i j o p q r u)] [ob g #[pt e 0,pt b 0,.map (some v),P,vs,iN sc,iN st] 114,pk (aQ b D I F H B J z e x G c y),Ww id v,dj vs sv] [0,1,2,3] (λ_=>[ob g #[pt e 0,pt b 0,.map (some v),P,vs,iN sc,iN st] 114,pk (aQ b D I F H B J z e x G c y),Ww id v,dj vs sv]) (λ_=> .agg (([i6 30,i6 0]:List Value)++rB 64 z6).toArray):=by
 have Q:=h.cf;exact fG Tryz.func54 λw cs=>ra (λa=>[(3,pt (B0 a) 0),(4,pt (B1 a) 0)]) (λa=>[ob (B0 a) (sV 3 n d m f i j o p q r u) 50,ob (B1 a) (([i6 0,i6 0]:List Value)++rB 64 z6).toArray 53]) λa=>rr (λ_=>[(0,.m (ls 4 (sL 3 n d m f i j o p q r u))),(4,.m (ld 0 (.map (some v)))),(6,.m (ld 4 (i6 n))),(7,.m (mg 2 (Ww id v) v n (λ_ h=>h))),(11,.m (ld 0 (pt e 0))),(12,.c [1] [1] (k9 b D I F H B J z e x G c y)),(14,.m (al 6)),(15,.s 6)]) (λM=>[(5,pt ((M 14).y 0) 0)]) [] (λM L=>L++[ob ((M 14).y 0) (([i6 3,i6 n]:List Value)++rB 64 d++([u6 (m:Int),i6 f,i6 i,i6 j,i6 o,i6 p,i6 q,i6 r,i6 u,i6 0,i6 0]:List Value)++rB 64 z6++rB 64 (id n)++([iN y.V.l.length,i6 0]:List Value)).toArray 149]) λM=>r0 [(1,.l 4)] [(21,i6 3)] [] (rF [] 35 (rF [] 51 (rs [(3,.m (ld 0 (pt b 0))),(5,.m (ld 4 (i6 n))),(7,.t (tv (Instr.sliceAt 43 (pt (B0 a) 2) none none none) (λ_=>sN (s:=1) (N:=64) Kr Dc))),(9,.m (ld 4 (u6 (m:Int)))),(10,.c [1,4] [1] (aa.at (rd':=[pk (aQ b D I F H B J z e x G c y),ob (B0 a) (sV 3 n d m f i j o p q r u) 50]) (SJ b D I F H B J z e x G c y _ _ h n S (.slice (some ⟨(a 0).y 0,2,none⟩) 64 64) d (by(simp only[LL,O,O];done)) m) (aP (ec (sM (d:=0) (A:=([i6 3,i6 n]:List Value)) (C:=([u6 (m:Int),i6 f,i6 i,i6 j,i6 o,i6 p,i6 q,i6 r,i6 u]:List Value)) (λ_=>rfl) rfl O) (λ_ h=>h))))),(13,.s 6)] 6 (ob ((M 14).y 0) (([i6 3,i6 n]:List Value)++rB 64 d++([u6 (m:Int),i6 f,i6 i,i6 j,i6 o,i6 p,i6 q,i6 r,i6 u,i6 30,i6 0]:List Value)++rB 64 z6++rB 64 (id n)++([iN y.V.l.length,i6 0]:List Value)).toArray 149) (rT [(2,.l 6)] 68 (rs [(1,.l 6),(2,.s 5)] 5 (ob (B1 a) (([i6 30,i6 0]:List Value)++rB 64 z6).toArray 53) (lf ab.zero [0,1,2,3] [] [5]))))))
theorem Tz(g r F J G I D M B u z H:Nat)(c:Cf)(y:Ct)(K A:Nat)(h:bp c y K A)(hA:A≤700000)(T:K+3≤1000000000)(n:Nat)(W:n<((c.R*c.B*c.M-c.res)*c.C))(d:List UInt8)(O:d.length=64)(m:Nat)(b e f i j o p q:Int)(id:Int→List UInt8)(R: ∀k,(id k).length=64)(sv:List Sv)(X:sv.length≤1000)(sc st v:Nat)(S vs:Value):aa WK 54 #[pt g 0,.agg (sV 2 (n:Int) d m b e f i j o p q)] [ob g #[pt u 0,pt r 0,.map (some v),S,vs,iN sc,iN st] 114,pk (aQ r F J G I D M B u z H c y),Ww id v,dj vs sv] [0,1,2,3] (λE=>[ob g #[pt u 0,pt r 0,.map (some v),S,(E.val 0),iN sc,iN st] 114,pk (aQ r F J G I D M B u z H c (bG c y n d 18446744073709551615)),Ww (dC id (n:Int) (iM (id (n:Int)) d 18446744073709551615)) v,dj (E.val 0) (sv++([(⟨2,(n:Int),d,m,b,e,f,i,j,o,p,q,(cd c y n 18446744073709551615),0,WJ 64 0,(id (n:Int)),y.V.l.length,(bG c y n d 18446744073709551615).V.l.length⟩:Sv)]))]) (λ_=> .agg (([i6 (cd c y n 18446744073709551615),i6 0]:List Value)++rB 64 z6).toArray):=by
 have U:=h.cf;have P:=R (n:Int);refine fG Tryz.func54 λw cs=>ra (λx=>[(3,pt (B0 x) 0),(4,pt (B1 x) 0)]) (λx=>[ob (B0 x) (sV 2 (n:Int) d m b e f i j o p q) 50,ob (B1 x) (([i6 0,i6 0]:List Value)++rB 64 z6).toArray 53]) λx=>rr (λ_=>[(0,.m (ls 4 (sL 2 (n:Int) d m b e f i j o p q))),(4,.m (ld 0 (.map (some v)))),(6,.m (ld 4 (iN n))),(7,.m (mg 2 (Ww id v) v (n:Int) (λ_ h=>h))),(11,.m (ld 0 (pt u 0))),(12,.c [1] [1] (k9 r F J G I D M B u z H c y)),(14,.m (al 6)),(15,.s 6)]) (λQ=>[(5,pt ((Q 14).y 0) 0)]) [] (λQ L=>L++[ob ((Q 14).y 0) (([i6 2,iN n]:List Value)++rB 64 d++([u6 (m:Int),i6 b,i6 e,i6 f,i6 i,i6 j,i6 o,i6 p,i6 q,i6 0,i6 0]:List Value)++rB 64 z6++rB 64 (id (n:Int))++([iN y.V.l.length,i6 0]:List Value)).toArray 149]) λQ=>r0 [(1,.l 4)] [(21,i6 2)] [] (rF [] 35 (rT [] 51 (rs [(1,.s 4)] 4 (ob (B0 x) (sV 2 (n:Int) d 18446744073709551615 b e f i j o p q) 50) (rr (λ_=>[(3,.m (ld 0 (pt r 0))),(5,.m (ld 4 (iN n))),(7,.t (tv (Instr.sliceAt 43 (pt (B0 x) 2) none none none) (λ_=>sN (s:=1) (N:=64) Kr Dc))),(8,.c [1,4] [1] (aa.at (rd':=[pk (aQ r F J G I D M B u z H c y),ob (B0 x) (sV 2 (n:Int) d 18446744073709551615 b e f i j o p q) 50]) (SI r F J G I D M B u z H c y _ _ h hA T n W (.slice (some ⟨(x 0).y 0,2,none⟩) 64 64) d (by(simp only[LL,O,P,O];done))) (aP (ec (sM (d:=0) (A:=([i6 2,iN n]:List Value)) (C:=([u6 18446744073709551615,i6 b,i6 e,i6 f,i6 i,i6 j,i6 o,i6 p,i6 q]:List Value)) (λ_=>rfl) rfl O) (λ_ h=>h))))),(11,.s 6)]) N0 [] (λ_ L=>(L.set 1 ((pk (aQ r F J G I D M B u z H c (bG c y n d 18446744073709551615))))).set 6 (ob ((Q 14).y 0) (([i6 2,iN n]:List Value)++rB 64 d++([u6 (m:Int),i6 b,i6 e,i6 f,i6 i,i6 j,i6 o,i6 p,i6 q,i6 (cd c y n 18446744073709551615),i6 0]:List Value)++rB 64 z6++rB 64 (id (n:Int))++([iN y.V.l.length,i6 0]:List Value)).toArray 149)) λY=>rF [(2,.l 6),(3,.t (tk (show Value.bool ((cd c y n 18446744073709551615)==30)= .bool false from ALca Value.bool (by exact dN.2 (FH _ _ _ _ Dc)))))] 68 (rT [(1,.l 4)] 73 (rs [(3,.m (ld 0 (.map (some v)))),(5,.m (ld 4 (iN n))),(7,.m (ls 6 (rB 64 (id (n:Int))))),(9,.m (ls 4 (rB 64 d))),(11,.m (ld 4 (u6 18446744073709551615))),(12,.c [] [] (zE (id (n:Int)) d 18446744073709551615 (by(simp only[LL,O,P,O];done)) (by(simp only[LL,O,P,O];done)) Om)),(13,.m (mu 2 v (n:Int) vW po id (iM (id (n:Int)) d 18446744073709551615)))] 2 (Ww (dC id (n:Int) (iM (id (n:Int)) d 18446744073709551615)) v) (rs [(3,.l 0),(4,.c [1] [1] (k9 r F J G I D M B u z H c (bG c y n d 18446744073709551615))),(6,.s 6)] 6 (ob ((Q 14).y 0) (([i6 2,iN n]:List Value)++rB 64 d++([u6 (m:Int),i6 b,i6 e,i6 f,i6 i,i6 j,i6 o,i6 p,i6 q,i6 (cd c y n 18446744073709551615),i6 0]:List Value)++rB 64 z6++rB 64 (id (n:Int))++([iN y.V.l.length,i6 (((bG c y n d 18446744073709551615).V.l.length:Nat):Int)]:List Value)).toArray 149) ?_)))))));exact rr (λa=>[(4,.l 0),(5,.l 6),(6,.m (bs 7 1)),(7,eT zH (vs) sv 3 7 ([(⟨2,(n:Int),d,m,b,e,f,i,j,o,p,q,(cd c y n 18446744073709551615),0,WJ 64 0,(id (n:Int)),y.V.l.length,(bG c y n d 18446744073709551615).V.l.length⟩:Sv)])),(10,.m (fj 0 3 (dj ((a 7).val 0) (sv++([(⟨2,(n:Int),d,m,b,e,f,i,j,o,p,q,(cd c y n 18446744073709551615),0,WJ 64 0,(id (n:Int)),y.V.l.length,(bG c y n d 18446744073709551615).V.l.length⟩:Sv)]))) ((a 7).val 0) λbs h=>aq.one ((λ_ h=>h) bs h)))]) N0 [] (λa L=>(L.set 0 (ob g #[pt u 0,pt r 0,.map (some v),S,(a 7).val 0,iN sc,iN st] 114)).set 3 (dj ((a 7).val 0) (sv++([(⟨2,(n:Int),d,m,b,e,f,i,j,o,p,q,(cd c y n 18446744073709551615),0,WJ 64 0,(id (n:Int)),y.V.l.length,(bG c y n d 18446744073709551615).V.l.length⟩:Sv)])))++[ob (B6 a) (([i6 2,iN n]:List Value)++rB 64 d++([u6 (m:Int),i6 b,i6 e,i6 f,i6 i,i6 j,i6 o,i6 p,i6 q,i6 (cd c y n 18446744073709551615),i6 0]:List Value)++rB 64 z6++rB 64 (id (n:Int))++([iN y.V.l.length,i6 (((bG c y n d 18446744073709551615).V.l.length:Nat):Int)]:List Value)).toArray 149]) λa=>rs [(1,.l 6),(2,.s 5)] 5 (ob (B1 x) (([i6 (cd c y n 18446744073709551615),i6 0]:List Value)++rB 64 z6).toArray 53) (lf (.l [] [] [(a 7).val 0]) [0,1,2,3] [] [5])
theorem TA(g r F J G I D M B u z H:Nat)(c:Cf)(y:Ct)(K A:Nat)(h:bp c y K A)(hA:A≤700000)(W:K+3≤1000000000)(n:Nat)(Y:n<((c.R*c.B*c.M-c.res)*c.C))(d:List UInt8)(O:d.length=64)(m:Nat)(b e f i j o p q:Int)(R:m<18446744073709551616)(T:m≠0)(id:Int→List UInt8)(S: ∀k,(id k).length=64)(sv:List Sv)(Z:sv.length≤1000)(sc st v:Nat)(U vs:Value):aa WK 54 #[pt g 0,.agg (sV 3 (n:Int) d m b e f i j o p q)] [ob g #[pt u 0,pt r 0,.map (some v),U,vs,iN sc,iN st] 114,pk (aQ r F J G I D M B u z H c y),Ww id v,dj vs sv] [0,1,2,3] (λE=>[ob g #[pt u 0,pt r 0,.map (some v),U,(E.val 0),iN sc,iN st] 114,pk (aQ r F J G I D M B u z H c (bG c y n d m)),Ww (dC id (n:Int) (iM (id (n:Int)) d m)) v,dj (E.val 0) (sv++([(⟨3,(n:Int),d,m,b,e,f,i,j,o,p,q,(cd c y n m),0,WJ 64 0,(id (n:Int)),y.V.l.length,(bG c y n d m).V.l.length⟩:Sv)]))]) (λ_=> .agg (([i6 (cd c y n m),i6 0]:List Value)++rB 64 z6).toArray):=by
 have X:=h.cf;have P:=S (n:Int);refine fG Tryz.func54 λw cs=>ra (λx=>[(3,pt (B0 x) 0),(4,pt (B1 x) 0)]) (λx=>[ob (B0 x) (sV 3 (n:Int) d m b e f i j o p q) 50,ob (B1 x) (([i6 0,i6 0]:List Value)++rB 64 z6).toArray 53]) λx=>rr (λ_=>[(0,.m (ls 4 (sL 3 (n:Int) d m b e f i j o p q))),(4,.m (ld 0 (.map (some v)))),(6,.m (ld 4 (iN n))),(7,.m (mg 2 (Ww id v) v (n:Int) (λ_ h=>h))),(11,.m (ld 0 (pt u 0))),(12,.c [1] [1] (k9 r F J G I D M B u z H c y)),(14,.m (al 6)),(15,.s 6)]) (λQ=>[(5,pt ((Q 14).y 0) 0)]) [] (λQ L=>L++[ob ((Q 14).y 0) (([i6 3,iN n]:List Value)++rB 64 d++([u6 (m:Int),i6 b,i6 e,i6 f,i6 i,i6 j,i6 o,i6 p,i6 q,i6 0,i6 0]:List Value)++rB 64 z6++rB 64 (id (n:Int))++([iN y.V.l.length,i6 0]:List Value)).toArray 149]) λQ=>r0 [(1,.l 4)] [(21,i6 3)] [] (rF [] 35 (rF [] 51 (rr (λ_=>[(3,.m (ld 0 (pt r 0))),(5,.m (ld 4 (iN n))),(7,.t (tv (Instr.sliceAt 43 (pt (B0 x) 2) none none none) (λ_=>sN (s:=1) (N:=64) Kr Dc))),(9,.m (ld 4 (u6 (m:Int)))),(10,.c [1,4] [1] (aa.at (rd':=[pk (aQ r F J G I D M B u z H c y),ob (B0 x) (sV 3 (n:Int) d m b e f i j o p q) 50]) (Fq r F J G I D M B u z H c y _ _ h hA W n Y (.slice (some ⟨(x 0).y 0,2,none⟩) 64 64) d (by(simp only[LL,O,P,O];done)) m R) (aP (ec (sM (d:=0) (A:=([i6 3,iN n]:List Value)) (C:=([u6 (m:Int),i6 b,i6 e,i6 f,i6 i,i6 j,i6 o,i6 p,i6 q]:List Value)) (λ_=>rfl) rfl O) (λ_ h=>h))))),(13,.s 6)]) N0 [] (λ_ L=>(L.set 1 ((pk (aQ r F J G I D M B u z H c (bG c y n d m))))).set 6 (ob ((Q 14).y 0) (([i6 3,iN n]:List Value)++rB 64 d++([u6 (m:Int),i6 b,i6 e,i6 f,i6 i,i6 j,i6 o,i6 p,i6 q,i6 (cd c y n m),i6 0]:List Value)++rB 64 z6++rB 64 (id (n:Int))++([iN y.V.l.length,i6 0]:List Value)).toArray 149)) λq6=>rF [(2,.l 6),(3,.t (tk (show Value.bool ((cd c y n m)==30)= .bool false from ALca Value.bool (by exact dN.2 (FH _ _ _ _ T)))))] 68 (rT [(1,.l 4)] 73 (rs [(3,.m (ld 0 (.map (some v)))),(5,.m (ld 4 (iN n))),(7,.m (ls 6 (rB 64 (id (n:Int))))),(9,.m (ls 4 (rB 64 d))),(11,.m (ld 4 (u6 (m:Int)))),(12,.c [] [] (zE (id (n:Int)) d m (by(simp only[LL,O,P,O];done)) (by(simp only[LL,O,P,O];done)) R)),(13,.m (mu 2 v (n:Int) vW po id (iM (id (n:Int)) d m)))] 2 (Ww (dC id (n:Int) (iM (id (n:Int)) d m)) v) (rs [(3,.l 0),(4,.c [1] [1] (k9 r F J G I D M B u z H c (bG c y n d m))),(6,.s 6)] 6 (ob ((Q 14).y 0) (([i6 3,iN n]:List Value)++rB 64 d++([u6 (m:Int),i6 b,i6 e,i6 f,i6 i,i6 j,i6 o,i6 p,i6 q,i6 (cd c y n m),i6 0]:List Value)++rB 64 z6++rB 64 (id (n:Int))++([iN y.V.l.length,i6 (((bG c y n d m).V.l.length:Nat):Int)]:List Value)).toArray 149) (rr (λa=>[(4,.l 0),(5,.l 6),(6,.m (bs 7 1)),(7,eT zH (vs) sv 3 7 ([(⟨3,(n:Int),d,m,b,e,f,i,j,o,p,q,(cd c y n m),0,WJ 64 0,(id (n:Int)),y.V.l.length,(bG c y n d m).V.l.length⟩:Sv)])),(10,.m (fj 0 3 (dj ((a 7).val 0) (sv++([(⟨3,(n:Int),d,m,b,e,f,i,j,o,p,q,(cd c y n m),0,WJ 64 0,(id (n:Int)),y.V.l.length,(bG c y n d m).V.l.length⟩:Sv)]))) ((a 7).val 0) λbs h=>aq.one ((λ_ h=>h) bs h)))]) N0 [] (λa L=>(L.set 0 (ob g #[pt u 0,pt r 0,.map (some v),U,(a 7).val 0,iN sc,iN st] 114)).set 3 (dj ((a 7).val 0) (sv++([(⟨3,(n:Int),d,m,b,e,f,i,j,o,p,q,(cd c y n m),0,WJ 64 0,(id (n:Int)),y.V.l.length,(bG c y n d m).V.l.length⟩:Sv)])))++[ob (B6 a) (([i6 3,iN n]:List Value)++rB 64 d++([u6 (m:Int),i6 b,i6 e,i6 f,i6 i,i6 j,i6 o,i6 p,i6 q,i6 (cd c y n m),i6 0]:List Value)++rB 64 z6++rB 64 (id (n:Int))++([iN y.V.l.length,i6 (((bG c y n d m).V.l.length:Nat):Int)]:List Value)).toArray 149]) λa=>?_)))))));exact rs [(1,.l 6),(2,.s 5)] 5 (ob (B1 x) (([i6 (cd c y n m),i6 0]:List Value)++rB 64 z6).toArray 53) (lf (.l [] [] [(a 7).val 0]) [0,1,2,3] [] [5])
def FK(c:Cf)(x:Mc)(n:Nat)(d:List UInt8):Mc:={x with x:=bG c x.x n d 0}
theorem TB(g b D I F H B J z e x G:Nat)(c:Cf)(y:Ct)(K A:Nat)(h:bp c y K A)(hA:A≤700000)(Q:K+3≤1000000000)(n:Nat)(T:n<((c.R*c.B*c.M-c.res)*c.C))(d:List UInt8)(O:d.length=64)(f i j o p q r u:Int)(id:Int→List UInt8)(S: ∀k,(id k).length=64)(sv:List Sv)(U:sv.length≤1000)(sc st v:Nat)(P vs:Value):aa WK 54 #[pt g 0,.agg (sV 3 (n:Int) d 0 f i j o p q r u)] [ob g #[pt e 0,pt b 0,.map (some v),P,vs,iN sc,iN st] 114,pk (aQ b D I F H B J z e x G c y),Ww id v,dj vs sv] [0,1,2,3] (λ_=>[ob g #[pt e 0,pt b 0,.map (some v),P,vs,iN sc,iN st] 114,pk (aQ b D I F H B J z e x G c (bG c y n d 0)),Ww id v,dj vs sv]) (λ_=> .agg (([i6 (cd c y n 0),i6 0]:List Value)++rB 64 z6).toArray):=by
 have R:=h.cf;exact fG Tryz.func54 λw cs=>ra (λa=>[(3,pt (B0 a) 0),(4,pt (B1 a) 0)]) (λa=>[ob (B0 a) (sV 3 (n:Int) d 0 f i j o p q r u) 50,ob (B1 a) (([i6 0,i6 0]:List Value)++rB 64 z6).toArray 53]) λa=>rr (λ_=>[(0,.m (ls 4 (sL 3 (n:Int) d 0 f i j o p q r u))),(4,.m (ld 0 (.map (some v)))),(6,.m (ld 4 (iN n))),(7,.m (mg 2 (Ww id v) v (n:Int) (λ_ h=>h))),(11,.m (ld 0 (pt e 0))),(12,.c [1] [1] (k9 b D I F H B J z e x G c y)),(14,.m (al 6)),(15,.s 6)]) (λM=>[(5,pt ((M 14).y 0) 0)]) [] (λM L=>L++[ob ((M 14).y 0) (([i6 3,iN n]:List Value)++rB 64 d++([u6 0,i6 f,i6 i,i6 j,i6 o,i6 p,i6 q,i6 r,i6 u,i6 0,i6 0]:List Value)++rB 64 z6++rB 64 (id (n:Int))++([iN y.V.l.length,i6 0]:List Value)).toArray 149]) λM=>r0 [(1,.l 4)] [(21,i6 3)] [] (rF [] 35 (rF [] 51 (rr (λ_=>[(3,.m (ld 0 (pt b 0))),(5,.m (ld 4 (iN n))),(7,.t (tv (Instr.sliceAt 43 (pt (B0 a) 2) none none none) (λ_=>sN (s:=1) (N:=64) Kr Dc))),(9,.m (ld 4 (u6 0))),(10,.c [1,4] [1] (aa.at (rd':=[pk (aQ b D I F H B J z e x G c y),ob (B0 a) (sV 3 (n:Int) d 0 f i j o p q r u) 50]) (Fq b D I F H B J z e x G c y _ _ h hA Q n T (.slice (some ⟨(a 0).y 0,2,none⟩) 64 64) d (by(simp only[LL,O,O];done)) 0 Om) (aP (ec (sM (d:=0) (A:=([i6 3,iN n]:List Value)) (C:=([u6 0,i6 f,i6 i,i6 j,i6 o,i6 p,i6 q,i6 r,i6 u]:List Value)) (λ_=>rfl) rfl O) (λ_ h=>h))))),(13,.s 6)]) N0 [] (λ_ L=>(L.set 1 ((pk (aQ b D I F H B J z e x G c (bG c y n d 0))))).set 6 (ob ((M 14).y 0) (([i6 3,iN n]:List Value)++rB 64 d++([u6 0,i6 f,i6 i,i6 j,i6 o,i6 p,i6 q,i6 r,i6 u,i6 (cd c y n 0),i6 0]:List Value)++rB 64 z6++rB 64 (id (n:Int))++([iN y.V.l.length,i6 0]:List Value)).toArray 149)) λV=>rT [(2,.l 6),(3,.t (tk (show Value.bool ((cd c y n 0)==30)= .bool true from ALca Value.bool (by exact beq_iff_eq.2 rfl))))] 68 (rs [(1,.l 6),(2,.s 5)] 5 (ob (B1 a) (([i6 (cd c y n 0),i6 0]:List Value)++rB 64 z6).toArray 53) (lf ab.zero [0,1,2,3] [] [5])))))
def nI(c:Cf)(y:Ct)(f:Fa)(inj:List Ij)(sc:Nat):List Ij:=bif hP c y.V.D f==0 then inj++[⟨f.x0,f.x1,f.x2,f.x3,f.x4,f.x5,f.x6,f.x7,sc,y.V.l.length⟩] else inj
theorem TC(g o x D z C u F t n r B:Nat)(c:Cf)(y:Ct)(K A:Nat)(h:bp c y K A)(hA:A≤700000)(a b d e f i j k:Int)(inj:List Ij)(P:inj.length≤1000)(sc st J:Nat)(H vs:Value):aa WK 53 #[pt g 0,.agg #[i6 a,i6 b,i6 d,i6 e,i6 f,i6 i,i6 j,i6 k]] [ob g #[pt n 0,pt o 0,.map (some J),H,vs,iN sc,iN st] 114,pk (aQ o x D z C u F t n r B c y),gp H inj] [0,1,2] (λE=>[ob g #[pt n 0,pt o 0,.map (some J),(E.val 0),vs,iN sc,iN st] 114,pk (aQ o x D z C u F t n r B c ({y with V:=mU c y.V ⟨a,b,d,e,f,i,j,k⟩}:Ct)),gp (E.val 0) (nI c y (⟨a,b,d,e,f,i,j,k⟩:Fa) inj sc)]) (λ_=> .agg (([i6 (hP c y.V.D ⟨a,b,d,e,f,i,j,k⟩),i6 0]:List Value)++rB 64 z6).toArray):=by
 have N:=h.cf;have O:=h.dv Om;refine fG Tryz.func53 λw cs=>ra (λp=>[(3,pt (B0 p) 0),(4,pt (B1 p) 0)]) (λp=>[ob (B0 p) #[i6 a,i6 b,i6 d,i6 e,i6 f,i6 i,i6 j,i6 k] 48,ob (B1 p) (([i6 0,i6 0]:List Value)++rB 64 z6).toArray 53]) λp=>rr (λ_=>[(0,.m (ls 3 ([i6 a,i6 b,i6 d,i6 e,i6 f,i6 i,i6 j,i6 k]))),(1,.v (pt g 0)),(2,.v (pt g 0)),(3,.v (pt g 5)),(4,.m (ld 0 (iN sc))),(5,.v (pt g 0)),(6,.v (pt g 0)),(7,.v (pt g 0)),(8,.m (ld 0 (pt n 0))),(9,.c [1] [1] (k9 o x D z C u F t n r B c y)),(10,.v (.agg #[i6 a,i6 b,i6 d,i6 e,i6 f,i6 i,i6 j,i6 k,iN sc,iN y.V.l.length])),(11,.m (al 5)),(12,.s 5)]) (λG=>[(5,pt ((G 11).y 0) 0)]) [] (λG L=>L++[ob ((G 11).y 0) #[i6 a,i6 b,i6 d,i6 e,i6 f,i6 i,i6 j,i6 k,iN sc,iN y.V.l.length] 187]) λG=>rr (λ_=>[(3,.l 0),(4,.l 3),(5,.c [1] [1] (Tu o x D z C u F t n r B c y N O ⟨a,b,d,e,f,i,j,k⟩))]) (λ_=>[(6,i6 (hP c y.V.D ⟨a,b,d,e,f,i,j,k⟩))]) [] (λ_ L=>L.set 1 ((pk (aQ o x D z C u F t n r B c ({y with V:=mU c y.V ⟨a,b,d,e,f,i,j,k⟩}:Ct))))) λQ=>r0 [] [(25,.bool ((hP c y.V.D ⟨a,b,d,e,f,i,j,k⟩)==0))] [] ?_;refine cN (hP c y.V.D ⟨a,b,d,e,f,i,j,k⟩) 0 (λM I=>?_) λM I=>?_
 ·exact rr (λq=>[(4,.l 0),(5,.l 5),(6,.m (bs 6 1)),(7,eT Tt (H) inj 2 6 ([(⟨a,b,d,e,f,i,j,k,sc,y.V.l.length⟩:Ij)])),(10,.m (fj 0 2 (gp ((q 7).val 0) (inj++([(⟨a,b,d,e,f,i,j,k,sc,y.V.l.length⟩:Ij)]))) ((q 7).val 0) λbs h=>aq.one ((λ_ h=>h) bs h)))]) N0 [] (λq L=>(L.set 0 (ob g #[pt n 0,pt o 0,.map (some J),(q 7).val 0,vs,iN sc,iN st] 114)).set 2 (gp ((q 7).val 0) (inj++([(⟨a,b,d,e,f,i,j,k,sc,y.V.l.length⟩:Ij)])))++[ob (B6 q) #[i6 a,i6 b,i6 d,i6 e,i6 f,i6 i,i6 j,i6 k,iN sc,iN y.V.l.length] 187]) λq=>rs [(2,.s 4)] 4 (ob (B1 p) (([i6 (hP c y.V.D ⟨a,b,d,e,f,i,j,k⟩),i6 0]:List Value)++rB 64 z6).toArray 53) (lf (.l [] [] [(q 7).val 0]) [0,1,2] [] [4] (hf:=by unfold nI;dsimp only;(repeat (first | rw[M] | rw[ALct]));kernel_rfl))
 exact rs [(2,.s 4)] 4 (ob (B1 p) (([i6 (hP c y.V.D ⟨a,b,d,e,f,i,j,k⟩),i6 0]:List Value)++rB 64 z6).toArray 53) (lf (.l [] [] [H]) [0,1,2] [] [4] (hf:=by unfold nI;dsimp only;(repeat (first | rw[M] | rw[ALcf]));kernel_rfl))
structure An where
 e:Int
 n:Int
 l:List UInt8
def TE:An:=⟨0,0,WJ 64 0⟩
def sP(x:An):List Value:=[i6 x.e,i6 x.n]++rB 64 x.l
def FL:Kd WK An:=⟨sP,[i6 0,i6 0]++WJ 64 (u1 0),72,53,TE,66,λ_=>rfl,rfl,λ_=>rfl,dX.mk' Kr Kr rfl⟩
abbrev sQ(v:Value)(xs:List An):aA:= .p (aq sP ([i6 0,i6 0]++WJ 64 (u1 0)) 53 v xs)
theorem TF(g t B G C F z H y u v D:Nat)(c:Cf)(x:Mc)(K A N:Nat)(b:ez c x K A N)(hA:A≤700000)(I:N≤1000)(k r:Int)(d:List UInt8)(J:d.length=64)(m:Nat)(e f i j n o p q:Int)(O:eo k r d m e f i j n o p q=false):aa WK 16 #[pt g 0,.agg (sV k r d m e f i j n o p q)] [pk (aH g t B G C F z H y u v D c x)] [0] (λ_=>[pk (aH g t B G C F z H y u v D c x)]) (λ_=> .agg (([i6 60,i6 0]:List Value)++rB 64 z6).toArray):=aa.pkZ Tryz.func16 λL M=>by
 obtain⟨gi,V,vs,rfl⟩:=M;refine⟨[1,2,3,4],λ_=>[pk (aQ t B G C F z H y u v D c x.x),Ww x.id gi,gp V x.inj,dj vs x.sv],?_,rfl,λE=>⟨rfl,rfl,⟨_,_,_,rfl⟩⟩⟩;have h:=b.ct;have P:=h.cf;have Q:=b.il;have T:x.sv.length≤1000:=WL b.sl I;have R:x.inj.length≤1000:=WL b.jl I;have S:=b.sc;have U:=b.st;exact fG Tryz.func16 λw cs=>ra (λa=>[(3,pt (B0 a) 0),(4,pt (B1 a) 0)]) (λa=>[ob (B0 a) (sV k r d m e f i j n o p q) 50,ob (B1 a) (([i6 0,i6 0]:List Value)++rB 64 z6).toArray 53]) λa=>rT [(0,.l 5),(1,.c [] [] (aa.v ((kj k r d m e f i j n o p q (by(simp only[LL,J,J];done)))) λ_=>ALca Value.bool (show(eo k r d m e f i j n o p q)=false from(by exact O))))] 9 (rs [(1,.s 6)] 6 (ob (B1 a) (([i6 60,i6 0]:List Value)++rB 64 z6).toArray 53) (lf ab.zero [1,2,3,4] [(0,0)] [6]))
theorem TG(g a y D z C v F u b t B:Nat)(c:Cf)(x:Mc)(K A N:Nat)(f:ez c x K A N)(hA:A≤700000)(H:N≤1000)(J:K+3≤1000000000)(ln:Int)(d:List UInt8)(I:d.length=64)(m:Nat)(i j k n o p q r:Int)(O:eo 4 ln d m i j k n o p q r=true):aa WK 16 #[pt g 0,.agg (sV 4 ln d m i j k n o p q r)] [pk (aH g a y D z C v F u b t B c x)] [0] (λ_=>[pk (aH g a y D z C v F u b t B c ({x with x:=k8 c x.x,sc:=x.sc+1,st:=x.st+1}:Mc))]) (λ_=> .agg (([i6 (cc (bB c (iS c x.x) (aU (iS c x.x) x.x.U))),iN x.x.U]:List Value)++rB 64 z6).toArray):=aa.pkZ Tryz.func16 λL M=>by
 obtain⟨gi,G,vs,rfl⟩:=M;refine⟨[0,1,2,3,4],λ_=>[ob g #[pt b 0,pt a 0,.map (some gi),G,vs,i6 ((x.sc+1:Nat):Int),i6 ((x.st+1:Nat):Int)] 114,pk (aQ a y D z C v F u b t B c (k8 c x.x)),Ww x.id gi,gp G x.inj,dj vs x.sv],?_,rfl,λE=>⟨rfl,rfl,⟨_,_,_,rfl⟩⟩⟩;have h:=f.ct;have P:=h.cf;have Q:=f.il;have T:x.sv.length≤1000:=WL f.sl H;have R:x.inj.length≤1000:=WL f.jl H;have S:=f.sc;have U:=f.st;exact fG Tryz.func16 λw cs=>ra (λe=>[(3,pt (B0 e) 0),(4,pt (B1 e) 0)]) (λe=>[ob (B0 e) (sV 4 ln d m i j k n o p q r) 50,ob (B1 e) (([i6 0,i6 0]:List Value)++rB 64 z6).toArray 53]) λe=>rF [(0,.l 5),(1,.c [] [] (aa.v ((kj 4 ln d m i j k n o p q r (by(simp only[LL,I,I];done)))) λ_=>ALca Value.bool (show(eo 4 ln d m i j k n o p q r)=true from(by exact O))))] 9 (rs [(3,.l 0),(4,ad x.st 1),(7,.s 0)] 0 (ob g #[pt b 0,pt a 0,.map (some gi),G,vs,iN x.sc,i6 ((x.st+1:Nat):Int)] 114) (r0 [(1,.l 5)] [(19,i6 4)] [] (rT [] 20 (rs [(3,.l 0),(4,ad x.sc 1),(7,.s 0)] 0 (ob g #[pt b 0,pt a 0,.map (some gi),G,vs,i6 ((x.sc+1:Nat):Int),i6 ((x.st+1:Nat):Int)] 114) (rr (λ_=>[(3,.l 0),(4,.c [1] [1] (SL a y D z C v F u b t B c x.x _ _ h hA J))]) (λ_=>[(5,iN x.x.U),(6,i6 (cc (bB c (iS c x.x) (aU (iS c x.x) x.x.U))))]) [] (λ_ L=>L.set 1 ((pk (aQ a y D z C v F u b t B c (k8 c x.x))))) λV=>rs [(3,.s 6)] 6 (ob (B1 e) (([i6 (cc (bB c (iS c x.x) (aU (iS c x.x) x.x.U))),iN x.x.U]:List Value)++rB 64 z6).toArray 53) (lf ab.zero [0,1,2,3,4] [] [6]))))))
theorem TI(g a y D z C v F u b t B:Nat)(c:Cf)(x:Mc)(K A N:Nat)(e:ez c x K A N)(hA:A≤700000)(H:N≤1000)(J:K+260≤1000000000)(P:x.x.s.r.j.A≠0)(ln:Int)(d:List UInt8)(I:d.length=64)(m:Nat)(i j k n o p q r:Int)(O:eo 5 ln d m i j k n o p q r=true):aa WK 16 #[pt g 0,.agg (sV 5 ln d m i j k n o p q r)] [pk (aH g a y D z C v F u b t B c x)] [0] (λ_=>[pk (aH g a y D z C v F u b t B c ({x with x:=iC c x.x,st:=x.st+1}:Mc))]) (λ_=> .agg (([i6 0,i6 0]:List Value)++rB 64 z6).toArray):=aa.pkZ Tryz.func16 λL M=>by
 obtain⟨gi,G,vs,rfl⟩:=M;refine⟨[0,1,2,3,4],λ_=>[ob g #[pt b 0,pt a 0,.map (some gi),G,vs,iN x.sc,i6 ((x.st+1:Nat):Int)] 114,pk (aQ a y D z C v F u b t B c (iC c x.x)),Ww x.id gi,gp G x.inj,dj vs x.sv],?_,rfl,λE=>⟨rfl,rfl,⟨_,_,_,rfl⟩⟩⟩;have h:=e.ct;have Q:=h.cf;have R:=e.il;have U:x.sv.length≤1000:=WL e.sl H;have S:x.inj.length≤1000:=WL e.jl H;have T:=e.sc;have V:=e.st;exact fG Tryz.func16 λw cs=>ra (λf=>[(3,pt (B0 f) 0),(4,pt (B1 f) 0)]) (λf=>[ob (B0 f) (sV 5 ln d m i j k n o p q r) 50,ob (B1 f) (([i6 0,i6 0]:List Value)++rB 64 z6).toArray 53]) λf=>rF [(0,.l 5),(1,.c [] [] (aa.v ((kj 5 ln d m i j k n o p q r (by(simp only[LL,I,I];done)))) λ_=>ALca Value.bool (show(eo 5 ln d m i j k n o p q r)=true from(by exact O))))] 9 (rs [(3,.l 0),(4,ad x.st 1),(7,.s 0)] 0 (ob g #[pt b 0,pt a 0,.map (some gi),G,vs,iN x.sc,i6 ((x.st+1:Nat):Int)] 114) (r0 [(1,.l 5)] [(19,i6 5)] [] (rF [] 20 (rT [] 40 (rs [(3,.l 0),(4,.c [1] [1] (SX a y D z C v F u b t B c x.x _ _ h hA J P)),(6,.s 6)] 1 ((pk (aQ a y D z C v F u b t B c (iC c x.x)))) (lf ab.zero [0,1,2,3,4] [] [6]))))))
theorem TJ(g b y D z C v F u e t B:Nat)(c:Cf)(x:Mc)(K A N:Nat)(f:ez c x K A N)(hA:A≤700000)(H:N≤1000)(O:x.x.s.r.j.A=0)(ln:Int)(d:List UInt8)(I:d.length=64)(m:Nat)(i j k n o p q r:Int)(M:eo 5 ln d m i j k n o p q r=true):aa WK 16 #[pt g 0,.agg (sV 5 ln d m i j k n o p q r)] [pk (aH g b y D z C v F u e t B c x)] [0] (λ_=>[pk (aH g b y D z C v F u e t B c ({x with st:=x.st+1}:Mc))]) (λ_=> .agg (([i6 51,i6 0]:List Value)++rB 64 z6).toArray):=aa.pkZ Tryz.func16 λL J=>by
 obtain⟨gi,G,vs,rfl⟩:=J;refine⟨[0,1,2,3,4],λ_=>[ob g #[pt e 0,pt b 0,.map (some gi),G,vs,iN x.sc,i6 ((x.st+1:Nat):Int)] 114,pk (aQ b y D z C v F u e t B c x.x),Ww x.id gi,gp G x.inj,dj vs x.sv],?_,rfl,λE=>⟨rfl,rfl,⟨_,_,_,rfl⟩⟩⟩;have h:=f.ct;have P:=h.cf;have Q:=f.il;have T:x.sv.length≤1000:=WL f.sl H;have R:x.inj.length≤1000:=WL f.jl H;have S:=f.sc;have U:=f.st;exact fG Tryz.func16 λw cs=>ra (λa=>[(3,pt (B0 a) 0),(4,pt (B1 a) 0)]) (λa=>[ob (B0 a) (sV 5 ln d m i j k n o p q r) 50,ob (B1 a) (([i6 0,i6 0]:List Value)++rB 64 z6).toArray 53]) λa=>rF [(0,.l 5),(1,.c [] [] (aa.v ((kj 5 ln d m i j k n o p q r (by(simp only[LL,I,I];done)))) λ_=>ALca Value.bool (show(eo 5 ln d m i j k n o p q r)=true from(by exact M))))] 9 (rs [(3,.l 0),(4,ad x.st 1),(7,.s 0)] 0 (ob g #[pt e 0,pt b 0,.map (some gi),G,vs,iN x.sc,i6 ((x.st+1:Nat):Int)] 114) (r0 [(1,.l 5)] [(19,i6 5)] [] (rF [] 20 (rT [] 40 (rs [(3,.l 0),(4,.c [1] [1] (SW b y D z C v F u e t B c x.x _ _ h O)),(6,.s 6)] 6 (ob (B1 a) (([i6 51,i6 0]:List Value)++rB 64 z6).toArray 53) (lf ab.zero [0,1,2,3,4] [] [6]))))))
theorem TK(g a y D z C v F u b t B:Nat)(c:Cf)(x:Mc)(K A N:Nat)(e:ez c x K A N)(hA:A≤700000)(H:N≤1000)(ht:x.x.s.time<1099511627776)(ln:Int)(d:List UInt8)(I:d.length=64)(m:Nat)(i j k n o p q r:Int)(M:eo 6 ln d m i j k n o p q r=true):aa WK 16 #[pt g 0,.agg (sV 6 ln d m i j k n o p q r)] [pk (aH g a y D z C v F u b t B c x)] [0] (λ_=>[pk (aH g a y D z C v F u b t B c ({x with x:=qk x.x,st:=x.st+1}:Mc))]) (λ_=> .agg (([i6 0,i6 0]:List Value)++rB 64 z6).toArray):=aa.pkZ Tryz.func16 λL J=>by
 obtain⟨gi,G,vs,rfl⟩:=J;refine⟨[0,1,2,3,4],λ_=>[ob g #[pt b 0,pt a 0,.map (some gi),G,vs,iN x.sc,i6 ((x.st+1:Nat):Int)] 114,pk (aQ a y D z C v F u b t B c (qk x.x)),Ww x.id gi,gp G x.inj,dj vs x.sv],?_,rfl,λE=>⟨rfl,rfl,⟨_,_,_,rfl⟩⟩⟩;have h:=e.ct;have O:=h.cf;have P:=e.il;have S:x.sv.length≤1000:=WL e.sl H;have Q:x.inj.length≤1000:=WL e.jl H;have R:=e.sc;have T:=e.st;exact fG Tryz.func16 λw cs=>ra (λf=>[(3,pt (B0 f) 0),(4,pt (B1 f) 0)]) (λf=>[ob (B0 f) (sV 6 ln d m i j k n o p q r) 50,ob (B1 f) (([i6 0,i6 0]:List Value)++rB 64 z6).toArray 53]) λf=>rF [(0,.l 5),(1,.c [] [] (aa.v ((kj 6 ln d m i j k n o p q r (by(simp only[LL,I,I];done)))) λ_=>ALca Value.bool (show(eo 6 ln d m i j k n o p q r)=true from(by exact M))))] 9 (rs [(3,.l 0),(4,ad x.st 1),(7,.s 0)] 0 (ob g #[pt b 0,pt a 0,.map (some gi),G,vs,iN x.sc,i6 ((x.st+1:Nat):Int)] 114) (r0 [(1,.l 5)] [(19,i6 6)] [] (rF [] 20 (rF [] 40 (rT [] 48 (rs [(3,.l 0),(4,.c [1] [1] (SU a y D z C v F u b t B c x.x _ _ h hA ht)),(6,.s 6)] 1 ((pk (aQ a y D z C v F u b t B c (qk x.x)))) (lf ab.zero [0,1,2,3,4] [] [6])))))))
theorem TL(g a y D z C v F u b t B:Nat)(c:Cf)(x:Mc)(K A N:Nat)(f:ez c x K A N)(hA:A≤700000)(H:N≤1000)(ln:Int)(d:List UInt8)(I:d.length=64)(m:Nat)(i j k n o p q r:Int)(M:eo 7 ln d m i j k n o p q r=true):aa WK 16 #[pt g 0,.agg (sV 7 ln d m i j k n o p q r)] [pk (aH g a y D z C v F u b t B c x)] [0] (λ_=>[pk (aH g a y D z C v F u b t B c ({x with x:=ql x.x,st:=x.st+1}:Mc))]) (λ_=> .agg (([i6 0,iN x.x.s.g.l.length]:List Value)++rB 64 z6).toArray):=aa.pkZ Tryz.func16 λL J=>by
 obtain⟨gi,G,vs,rfl⟩:=J;refine⟨[0,1,2,3,4],λ_=>[ob g #[pt b 0,pt a 0,.map (some gi),G,vs,iN x.sc,i6 ((x.st+1:Nat):Int)] 114,pk (aQ a y D z C v F u b t B c (ql x.x)),Ww x.id gi,gp G x.inj,dj vs x.sv],?_,rfl,λE=>⟨rfl,rfl,⟨_,_,_,rfl⟩⟩⟩;have h:=f.ct;have O:=h.cf;have P:=f.il;have S:x.sv.length≤1000:=WL f.sl H;have Q:x.inj.length≤1000:=WL f.jl H;have R:=f.sc;have T:=f.st;exact fG Tryz.func16 λw cs=>ra (λe=>[(3,pt (B0 e) 0),(4,pt (B1 e) 0)]) (λe=>[ob (B0 e) (sV 7 ln d m i j k n o p q r) 50,ob (B1 e) (([i6 0,i6 0]:List Value)++rB 64 z6).toArray 53]) λe=>rF [(0,.l 5),(1,.c [] [] (aa.v ((kj 7 ln d m i j k n o p q r (by(simp only[LL,I,I];done)))) λ_=>ALca Value.bool (show(eo 7 ln d m i j k n o p q r)=true from(by exact M))))] 9 (rs [(3,.l 0),(4,ad x.st 1),(7,.s 0)] 0 (ob g #[pt b 0,pt a 0,.map (some gi),G,vs,iN x.sc,i6 ((x.st+1:Nat):Int)] 114) (r0 [(1,.l 5)] [(19,i6 7)] [] (rF [] 20 (rF [] 40 (rF [] 48 (rT [] 56 (rr (λ_=>[(3,.l 0),(4,.c [1] [1] (SV a y D z C v F u b t B c x.x _ _ h hA)),(6,.s 6)]) N0 [] (λ_ L=>(L.set 1 ((pk (aQ a y D z C v F u b t B c (ql x.x))))).set 6 (ob (B1 e) (([i6 0,iN x.x.s.g.l.length]:List Value)++rB 64 z6).toArray 53)) λU=>lf ab.zero [0,1,2,3,4] [] [6])))))))
theorem TM(g p z F B D y G v q u C:Nat)(c:Cf)(x:Mc)(K A N:Nat)(t:ez c x K A N)(hA:A≤700000)(I:N≤1000)(ln:Int)(d:List UInt8)(J:d.length=64)(m:Nat)(a b e f i j k n:Int)(P:eo 8 ln d m a b e f i j k n=true):aa WK 16 #[pt g 0,.agg (sV 8 ln d m a b e f i j k n)] [pk (aH g p z F B D y G v q u C c x)] [0] (λ_=>[pk (aH g p z F B D y G v q u C c ({x with x:={x.x with V:=mU c x.x.V (⟨a,b,e,f,i,j,k,n⟩:Fa)},inj:=nI c x.x (⟨a,b,e,f,i,j,k,n⟩:Fa) x.inj x.sc,st:=x.st+1}:Mc))]) (λ_=> .agg (([i6 (hP c x.x.V.D ⟨a,b,e,f,i,j,k,n⟩),i6 0]:List Value)++rB 64 z6).toArray):=aa.pkZ Tryz.func16 λL O=>by
 obtain⟨gi,M,vs,rfl⟩:=O;refine⟨[0,1,2,3,4],λE=>[ob g #[pt q 0,pt p 0,.map (some gi),(E.val 0),vs,iN x.sc,i6 ((x.st+1:Nat):Int)] 114,pk (aQ p z F B D y G v q u C c ({x.x with V:=mU c x.x.V ⟨a,b,e,f,i,j,k,n⟩}:Ct)),Ww x.id gi,gp (E.val 0) (nI c x.x (⟨a,b,e,f,i,j,k,n⟩:Fa) x.inj x.sc),dj vs x.sv],?_,rfl,λE=>⟨rfl,rfl,⟨_,_,_,rfl⟩⟩⟩;have h:=t.ct;have Q:=h.cf;have R:=t.il;have T:x.sv.length≤1000:=WL t.sl I;have H:x.inj.length≤1000:=WL t.jl I;have S:=t.sc;have U:=t.st;exact fG Tryz.func16 λw cs=>ra (λr=>[(3,pt (B0 r) 0),(4,pt (B1 r) 0)]) (λr=>[ob (B0 r) (sV 8 ln d m a b e f i j k n) 50,ob (B1 r) (([i6 0,i6 0]:List Value)++rB 64 z6).toArray 53]) λr=>rF [(0,.l 5),(1,.c [] [] (aa.v ((kj 8 ln d m a b e f i j k n (by(simp only[LL,J,J];done)))) λ_=>ALca Value.bool (show(eo 8 ln d m a b e f i j k n)=true from(by exact P))))] 9 (rs [(3,.l 0),(4,ad x.st 1),(7,.s 0)] 0 (ob g #[pt q 0,pt p 0,.map (some gi),M,vs,iN x.sc,i6 ((x.st+1:Nat):Int)] 114) (r0 [(1,.l 5)] [(19,i6 8)] [] (rF [] 20 (rF [] 40 (rF [] 48 (rF [] 56 (rT [] 64 (rr (λ_=>[(2,.l 5),(3,.c [0,1,3] [0,1,3] (TC g p z F B D y G v q u C c x.x _ _ h hA a b e f i j k n x.inj H x.sc (x.st+1) gi M vs)),(4,.s 6)]) N0 [] (λo L=>(((L.set 0 (ob g #[pt q 0,pt p 0,.map (some gi),((o 3).val 0),vs,iN x.sc,i6 ((x.st+1:Nat):Int)] 114)).set 1 ((pk (aQ p z F B D y G v q u C c ({x.x with V:=mU c x.x.V ⟨a,b,e,f,i,j,k,n⟩}:Ct))))).set 3 (gp ((o 3).val 0) (nI c x.x (⟨a,b,e,f,i,j,k,n⟩:Fa) x.inj x.sc))).set 6 (ob (B1 r) (([i6 (hP c x.x.V.D ⟨a,b,e,f,i,j,k,n⟩),i6 0]:List Value)++rB 64 z6).toArray 53)) λo=>lf (.l [] [] [((o 3).val 0)]) [0,1,2,3,4] [] [6]))))))))
theorem TN(g q B G C F z H y r v D:Nat)(c:Cf)(x:Mc)(K A N:Nat)(u:ez c x K A N)(hA:A≤700000)(P:N≤1000)(Q:K+3≤1000000000)(n:Nat)(W:n<((c.R*c.B*c.M-c.res)*c.C))(d:List UInt8)(J:d.length=64)(m:Nat)(a b e f i j k o:Int)(S:eo 1 (n:Int) d m a b e f i j k o=true):aa WK 16 #[pt g 0,.agg (sV 1 (n:Int) d m a b e f i j k o)] [pk (aH g q B G C F z H y r v D c x)] [0] (λ_=>[pk (aH g q B G C F z H y r v D c (FJ c ({x with st:=x.st+1}:Mc) n (⟨1,(n:Int),d,m,a,b,e,f,i,j,k,o⟩:St):Mc))]) (λ_=> .agg (([i6 (cc (bB c x.x (aU x.x n))),i6 0]:List Value)++rB 64 (cC c x.x (aU x.x n))).toArray):=aa.pkZ Tryz.func16 λL R=>by
 obtain⟨gi,I,vs,rfl⟩:=R;refine⟨[0,1,2,3,4],λE=>[ob g #[pt r 0,pt q 0,.map (some gi),I,(E.val 0),iN x.sc,i6 ((x.st+1:Nat):Int)] 114,pk (aQ q B G C F z H y r v D c (cu c x.x n c.X)),Ww x.id gi,gp I x.inj,dj (E.val 0) (x.sv++([(⟨1,(n:Int),d,m,a,b,e,f,i,j,k,o,(cc (bB c x.x (aU x.x n))),0,cC c x.x (aU x.x n),(x.id (n:Int)),x.x.V.l.length,(cu c x.x n c.X).V.l.length⟩:Sv)]))],?_,rfl,λE=>⟨rfl,rfl,⟨_,_,_,rfl⟩⟩⟩;have h:=u.ct;have T:=h.cf;have M:=u.il;have O:x.sv.length≤1000:=WL u.sl P;have U:x.inj.length≤1000:=WL u.jl P;have X:=u.sc;have Y:=u.st;exact fG Tryz.func16 λw cs=>ra (λt=>[(3,pt (B0 t) 0),(4,pt (B1 t) 0)]) (λt=>[ob (B0 t) (sV 1 (n:Int) d m a b e f i j k o) 50,ob (B1 t) (([i6 0,i6 0]:List Value)++rB 64 z6).toArray 53]) λt=>rF [(0,.l 5),(1,.c [] [] (aa.v ((kj 1 (n:Int) d m a b e f i j k o (by(simp only[LL,J,J];done)))) λ_=>ALca Value.bool (show(eo 1 (n:Int) d m a b e f i j k o)=true from(by exact S))))] 9 (rs [(3,.l 0),(4,ad x.st 1),(7,.s 0)] 0 (ob g #[pt r 0,pt q 0,.map (some gi),I,vs,iN x.sc,i6 ((x.st+1:Nat):Int)] 114) (r0 [(1,.l 5)] [(19,i6 1)] [] (rF [] 20 (rF [] 40 (rF [] 48 (rF [] 56 (rF [] 64 (rr (λ_=>[(1,.l 5),(2,.c [0,1,2,4] [0,1,2,4] (Tv g q B G C F z H y r v D c x.x _ _ h hA Q n W d (by(simp only[LL,J,J];done)) m a b e f i j k o x.id M x.sv O x.sc (x.st+1) gi I vs)),(3,.s 6)]) N0 [] (λp L=>(((L.set 0 (ob g #[pt r 0,pt q 0,.map (some gi),I,((p 2).val 0),iN x.sc,i6 ((x.st+1:Nat):Int)] 114)).set 1 ((pk (aQ q B G C F z H y r v D c (cu c x.x n c.X))))).set 4 (dj ((p 2).val 0) (x.sv++([(⟨1,(n:Int),d,m,a,b,e,f,i,j,k,o,(cc (bB c x.x (aU x.x n))),0,cC c x.x (aU x.x n),(x.id (n:Int)),x.x.V.l.length,(cu c x.x n c.X).V.l.length⟩:Sv)])))).set 6 (ob (B1 t) (([i6 (cc (bB c x.x (aU x.x n))),i6 0]:List Value)++rB 64 (cC c x.x (aU x.x n))).toArray 53)) λp=>lf (.l [] [] [((p 2).val 0)]) [0,1,2,3,4] [] [6]))))))))
theorem TO(g q B G C F z H y r v D:Nat)(c:Cf)(x:Mc)(K A N:Nat)(u:ez c x K A N)(hA:A≤700000)(P:N≤1000)(Q:K+3≤1000000000)(n:Nat)(W:n<((c.R*c.B*c.M-c.res)*c.C))(d:List UInt8)(J:d.length=64)(m:Nat)(a b e f i j k o:Int)(S:eo 2 (n:Int) d m a b e f i j k o=true):aa WK 16 #[pt g 0,.agg (sV 2 (n:Int) d m a b e f i j k o)] [pk (aH g q B G C F z H y r v D c x)] [0] (λ_=>[pk (aH g q B G C F z H y r v D c (vX c ({x with st:=x.st+1}:Mc) n 18446744073709551615 (⟨2,(n:Int),d,m,a,b,e,f,i,j,k,o⟩:St):Mc))]) (λ_=> .agg (([i6 (cd c x.x n 18446744073709551615),i6 0]:List Value)++rB 64 z6).toArray):=aa.pkZ Tryz.func16 λL R=>by
 obtain⟨gi,I,vs,rfl⟩:=R;refine⟨[0,1,2,3,4],λE=>[ob g #[pt r 0,pt q 0,.map (some gi),I,(E.val 0),iN x.sc,i6 ((x.st+1:Nat):Int)] 114,pk (aQ q B G C F z H y r v D c (bG c x.x n d 18446744073709551615)),Ww (dC x.id (n:Int) (iM (x.id (n:Int)) d 18446744073709551615)) gi,gp I x.inj,dj (E.val 0) (x.sv++([(⟨2,(n:Int),d,m,a,b,e,f,i,j,k,o,(cd c x.x n 18446744073709551615),0,WJ 64 0,(x.id (n:Int)),x.x.V.l.length,(bG c x.x n d 18446744073709551615).V.l.length⟩:Sv)]))],?_,rfl,λE=>⟨rfl,rfl,⟨_,_,_,rfl⟩⟩⟩;have h:=u.ct;have T:=h.cf;have M:=u.il;have O:x.sv.length≤1000:=WL u.sl P;have U:x.inj.length≤1000:=WL u.jl P;have X:=u.sc;have Y:=u.st;exact fG Tryz.func16 λw cs=>ra (λt=>[(3,pt (B0 t) 0),(4,pt (B1 t) 0)]) (λt=>[ob (B0 t) (sV 2 (n:Int) d m a b e f i j k o) 50,ob (B1 t) (([i6 0,i6 0]:List Value)++rB 64 z6).toArray 53]) λt=>rF [(0,.l 5),(1,.c [] [] (aa.v ((kj 2 (n:Int) d m a b e f i j k o (by(simp only[LL,J,J];done)))) λ_=>ALca Value.bool (show(eo 2 (n:Int) d m a b e f i j k o)=true from(by exact S))))] 9 (rs [(3,.l 0),(4,ad x.st 1),(7,.s 0)] 0 (ob g #[pt r 0,pt q 0,.map (some gi),I,vs,iN x.sc,i6 ((x.st+1:Nat):Int)] 114) (r0 [(1,.l 5)] [(19,i6 2)] [] (rF [] 20 (rF [] 40 (rF [] 48 (rF [] 56 (rF [] 64 (rr (λ_=>[(1,.l 5),(2,.c [0,1,2,4] [0,1,2,4] (Tz g q B G C F z H y r v D c x.x _ _ h hA Q n W d (by(simp only[LL,J,J];done)) m a b e f i j k o x.id M x.sv O x.sc (x.st+1) gi I vs)),(3,.s 6)]) N0 [] (λp L=>((((L.set 0 (ob g #[pt r 0,pt q 0,.map (some gi),I,((p 2).val 0),iN x.sc,i6 ((x.st+1:Nat):Int)] 114)).set 1 ((pk (aQ q B G C F z H y r v D c (bG c x.x n d 18446744073709551615))))).set 2 (Ww (dC x.id (n:Int) (iM (x.id (n:Int)) d 18446744073709551615)) gi)).set 4 (dj ((p 2).val 0) (x.sv++([(⟨2,(n:Int),d,m,a,b,e,f,i,j,k,o,(cd c x.x n 18446744073709551615),0,WJ 64 0,(x.id (n:Int)),x.x.V.l.length,(bG c x.x n d 18446744073709551615).V.l.length⟩:Sv)])))).set 6 (ob (B1 t) (([i6 (cd c x.x n 18446744073709551615),i6 0]:List Value)++rB 64 z6).toArray 53)) λp=>lf (.l [] [] [((p 2).val 0)]) [0,1,2,3,4] [] [6]))))))))
theorem TP(g q B G C F z H y r v D:Nat)(c:Cf)(x:Mc)(K A N:Nat)(u:ez c x K A N)(hA:A≤700000)(R:N≤1000)(S:K+3≤1000000000)(n:Nat)(Y:n<((c.R*c.B*c.M-c.res)*c.C))(d:List UInt8)(J:d.length=64)(m:Nat)(a b e f i j k o:Int)(U:eo 3 (n:Int) d m a b e f i j k o=true)(P:m<18446744073709551616)(O:m≠0):aa WK 16 #[pt g 0,.agg (sV 3 (n:Int) d m a b e f i j k o)] [pk (aH g q B G C F z H y r v D c x)] [0] (λ_=>[pk (aH g q B G C F z H y r v D c (vX c ({x with st:=x.st+1}:Mc) n m (⟨3,(n:Int),d,m,a,b,e,f,i,j,k,o⟩:St):Mc))]) (λ_=> .agg (([i6 (cd c x.x n m),i6 0]:List Value)++rB 64 z6).toArray):=aa.pkZ Tryz.func16 λL T=>by
 obtain⟨gi,I,vs,rfl⟩:=T;refine⟨[0,1,2,3,4],λE=>[ob g #[pt r 0,pt q 0,.map (some gi),I,(E.val 0),iN x.sc,i6 ((x.st+1:Nat):Int)] 114,pk (aQ q B G C F z H y r v D c (bG c x.x n d m)),Ww (dC x.id (n:Int) (iM (x.id (n:Int)) d m)) gi,gp I x.inj,dj (E.val 0) (x.sv++([(⟨3,(n:Int),d,m,a,b,e,f,i,j,k,o,(cd c x.x n m),0,WJ 64 0,(x.id (n:Int)),x.x.V.l.length,(bG c x.x n d m).V.l.length⟩:Sv)]))],?_,rfl,λE=>⟨rfl,rfl,⟨_,_,_,rfl⟩⟩⟩;have h:=u.ct;have W:=h.cf;have M:=u.il;have Q:x.sv.length≤1000:=WL u.sl R;have X:x.inj.length≤1000:=WL u.jl R;have Z:=u.sc;have hst:=u.st;exact fG Tryz.func16 λw cs=>ra (λt=>[(3,pt (B0 t) 0),(4,pt (B1 t) 0)]) (λt=>[ob (B0 t) (sV 3 (n:Int) d m a b e f i j k o) 50,ob (B1 t) (([i6 0,i6 0]:List Value)++rB 64 z6).toArray 53]) λt=>rF [(0,.l 5),(1,.c [] [] (aa.v ((kj 3 (n:Int) d m a b e f i j k o (by(simp only[LL,J,J];done)))) λ_=>ALca Value.bool (show(eo 3 (n:Int) d m a b e f i j k o)=true from(by exact U))))] 9 (rs [(3,.l 0),(4,ad x.st 1),(7,.s 0)] 0 (ob g #[pt r 0,pt q 0,.map (some gi),I,vs,iN x.sc,i6 ((x.st+1:Nat):Int)] 114) (r0 [(1,.l 5)] [(19,i6 3)] [] (rF [] 20 (rF [] 40 (rF [] 48 (rF [] 56 (rF [] 64 (rr (λ_=>[(1,.l 5),(2,.c [0,1,2,4] [0,1,2,4] (TA g q B G C F z H y r v D c x.x _ _ h hA S n Y d (by(simp only[LL,J,J];done)) m a b e f i j k o P O x.id M x.sv Q x.sc (x.st+1) gi I vs)),(3,.s 6)]) N0 [] (λp L=>((((L.set 0 (ob g #[pt r 0,pt q 0,.map (some gi),I,((p 2).val 0),iN x.sc,i6 ((x.st+1:Nat):Int)] 114)).set 1 ((pk (aQ q B G C F z H y r v D c (bG c x.x n d m))))).set 2 (Ww (dC x.id (n:Int) (iM (x.id (n:Int)) d m)) gi)).set 4 (dj ((p 2).val 0) (x.sv++([(⟨3,(n:Int),d,m,a,b,e,f,i,j,k,o,(cd c x.x n m),0,WJ 64 0,(x.id (n:Int)),x.x.V.l.length,(bG c x.x n d m).V.l.length⟩:Sv)])))).set 6 (ob (B1 t) (([i6 (cd c x.x n m),i6 0]:List Value)++rB 64 z6).toArray 53)) λp=>lf (.l [] [] [((p 2).val 0)]) [0,1,2,3,4] [] [6]))))))))
theorem TQ(g a y D z C v F u b t B:Nat)(c:Cf)(x:Mc)(K A N:Nat)(r:ez c x K A N)(hA:A≤700000)(M:N≤1000)(O:K+3≤1000000000)(n:Nat)(T:n<((c.R*c.B*c.M-c.res)*c.C))(d:List UInt8)(G:d.length=64)(f i j k m o p q:Int)(Q:eo 3 (n:Int) d 0 f i j k m o p q=true):aa WK 16 #[pt g 0,.agg (sV 3 (n:Int) d 0 f i j k m o p q)] [pk (aH g a y D z C v F u b t B c x)] [0] (λ_=>[pk (aH g a y D z C v F u b t B c (FK c ({x with st:=x.st+1}:Mc) n d:Mc))]) (λ_=> .agg (([i6 (cd c x.x n 0),i6 0]:List Value)++rB 64 z6).toArray):=aa.pkZ Tryz.func16 λL P=>by
 obtain⟨gi,H,vs,rfl⟩:=P;refine⟨[0,1,2,3,4],λ_=>[ob g #[pt b 0,pt a 0,.map (some gi),H,vs,iN x.sc,i6 ((x.st+1:Nat):Int)] 114,pk (aQ a y D z C v F u b t B c (bG c x.x n d 0)),Ww x.id gi,gp H x.inj,dj vs x.sv],?_,rfl,λE=>⟨rfl,rfl,⟨_,_,_,rfl⟩⟩⟩;have h:=r.ct;have R:=h.cf;have I:=r.il;have J:x.sv.length≤1000:=WL r.sl M;have S:x.inj.length≤1000:=WL r.jl M;have U:=r.sc;have V:=r.st;exact fG Tryz.func16 λw cs=>ra (λe=>[(3,pt (B0 e) 0),(4,pt (B1 e) 0)]) (λe=>[ob (B0 e) (sV 3 (n:Int) d 0 f i j k m o p q) 50,ob (B1 e) (([i6 0,i6 0]:List Value)++rB 64 z6).toArray 53]) λe=>rF [(0,.l 5),(1,.c [] [] (aa.v ((kj 3 (n:Int) d 0 f i j k m o p q (by(simp only[LL,G,G];done)))) λ_=>ALca Value.bool (show(eo 3 (n:Int) d 0 f i j k m o p q)=true from(by exact Q))))] 9 (rs [(3,.l 0),(4,ad x.st 1),(7,.s 0)] 0 (ob g #[pt b 0,pt a 0,.map (some gi),H,vs,iN x.sc,i6 ((x.st+1:Nat):Int)] 114) (r0 [(1,.l 5)] [(19,i6 3)] [] (rF [] 20 (rF [] 40 (rF [] 48 (rF [] 56 (rF [] 64 (rr (λ_=>[(1,.l 5),(2,.c [0,1,2,4] [0,1,2,4] (TB g a y D z C v F u b t B c x.x _ _ h hA O n T d (by(simp only[LL,G,G];done)) f i j k m o p q x.id I x.sv J x.sc (x.st+1) gi H vs)),(3,.s 6)]) N0 [] (λ_ L=>(L.set 1 ((pk (aQ a y D z C v F u b t B c (bG c x.x n d 0))))).set 6 (ob (B1 e) (([i6 (cd c x.x n 0),i6 0]:List Value)++rB 64 z6).toArray 53)) λW=>lf ab.zero [0,1,2,3,4] [] [6]))))))))
theorem TR(g p y D z C v F u q t B:Nat)(c:Cf)(x:Mc)(K A N:Nat)(r:ez c x K A N)(hA:A≤700000)(M:N≤1000)(O:K+3≤1000000000)(ln:Int)(T:bK ln ((((c.R*c.B*c.M-c.res)*c.C):Nat):Int)=false)(d:List UInt8)(G:d.length=64)(m:Nat)(b e f i j k n o:Int)(Q:eo 1 ln d m b e f i j k n o=true):aa WK 16 #[pt g 0,.agg (sV 1 ln d m b e f i j k n o)] [pk (aH g p y D z C v F u q t B c x)] [0] (λ_=>[pk (aH g p y D z C v F u q t B c ({x with st:=x.st+1}:Mc))]) (λ_=> .agg (([i6 30,i6 0]:List Value)++rB 64 z6).toArray):=aa.pkZ Tryz.func16 λL P=>by
 obtain⟨gi,H,vs,rfl⟩:=P;refine⟨[0,1,2,3,4],λ_=>[ob g #[pt q 0,pt p 0,.map (some gi),H,vs,iN x.sc,i6 ((x.st+1:Nat):Int)] 114,pk (aQ p y D z C v F u q t B c x.x),Ww x.id gi,gp H x.inj,dj vs x.sv],?_,rfl,λE=>⟨rfl,rfl,⟨_,_,_,rfl⟩⟩⟩;have h:=r.ct;have R:=h.cf;have I:=r.il;have J:x.sv.length≤1000:=WL r.sl M;have S:x.inj.length≤1000:=WL r.jl M;have U:=r.sc;have V:=r.st;exact fG Tryz.func16 λw cs=>ra (λa=>[(3,pt (B0 a) 0),(4,pt (B1 a) 0)]) (λa=>[ob (B0 a) (sV 1 ln d m b e f i j k n o) 50,ob (B1 a) (([i6 0,i6 0]:List Value)++rB 64 z6).toArray 53]) λa=>rF [(0,.l 5),(1,.c [] [] (aa.v ((kj 1 ln d m b e f i j k n o (by(simp only[LL,G,G];done)))) λ_=>ALca Value.bool (show(eo 1 ln d m b e f i j k n o)=true from(by exact Q))))] 9 (rs [(3,.l 0),(4,ad x.st 1),(7,.s 0)] 0 (ob g #[pt q 0,pt p 0,.map (some gi),H,vs,iN x.sc,i6 ((x.st+1:Nat):Int)] 114) (r0 [(1,.l 5)] [(19,i6 1)] [] (rF [] 20 (rF [] 40 (rF [] 48 (rF [] 56 (rF [] 64 (rs [(1,.l 5),(2,.c [0,1,2,4] [0,1,2,4] (Tw g p y D z C v F u q t B c x.x _ _ h hA O ln T d (by(simp only[LL,G,G];done)) m b e f i j k n o x.id I x.sv J x.sc (x.st+1) gi H vs)),(3,.s 6)] 6 (ob (B1 a) (([i6 30,i6 0]:List Value)++rB 64 z6).toArray 53) (lf ab.zero [0,1,2,3,4] [] [6])))))))))
theorem TT(g p y D z C v F u q t B:Nat)(c:Cf)(x:Mc)(K A N:Nat)(r:ez c x K A N)(hA:A≤700000)(M:N≤1000)(O:K+3≤1000000000)(ln:Int)(T:bK ln ((((c.R*c.B*c.M-c.res)*c.C):Nat):Int)=false)(d:List UInt8)(G:d.length=64)(m:Nat)(b e f i j k n o:Int)(Q:eo 2 ln d m b e f i j k n o=true):aa WK 16 #[pt g 0,.agg (sV 2 ln d m b e f i j k n o)] [pk (aH g p y D z C v F u q t B c x)] [0] (λ_=>[pk (aH g p y D z C v F u q t B c ({x with st:=x.st+1}:Mc))]) (λ_=> .agg (([i6 30,i6 0]:List Value)++rB 64 z6).toArray):=aa.pkZ Tryz.func16 λL P=>by
 obtain⟨gi,H,vs,rfl⟩:=P;refine⟨[0,1,2,3,4],λ_=>[ob g #[pt q 0,pt p 0,.map (some gi),H,vs,iN x.sc,i6 ((x.st+1:Nat):Int)] 114,pk (aQ p y D z C v F u q t B c x.x),Ww x.id gi,gp H x.inj,dj vs x.sv],?_,rfl,λE=>⟨rfl,rfl,⟨_,_,_,rfl⟩⟩⟩;have h:=r.ct;have R:=h.cf;have I:=r.il;have J:x.sv.length≤1000:=WL r.sl M;have S:x.inj.length≤1000:=WL r.jl M;have U:=r.sc;have V:=r.st;exact fG Tryz.func16 λw cs=>ra (λa=>[(3,pt (B0 a) 0),(4,pt (B1 a) 0)]) (λa=>[ob (B0 a) (sV 2 ln d m b e f i j k n o) 50,ob (B1 a) (([i6 0,i6 0]:List Value)++rB 64 z6).toArray 53]) λa=>rF [(0,.l 5),(1,.c [] [] (aa.v ((kj 2 ln d m b e f i j k n o (by(simp only[LL,G,G];done)))) λ_=>ALca Value.bool (show(eo 2 ln d m b e f i j k n o)=true from(by exact Q))))] 9 (rs [(3,.l 0),(4,ad x.st 1),(7,.s 0)] 0 (ob g #[pt q 0,pt p 0,.map (some gi),H,vs,iN x.sc,i6 ((x.st+1:Nat):Int)] 114) (r0 [(1,.l 5)] [(19,i6 2)] [] (rF [] 20 (rF [] 40 (rF [] 48 (rF [] 56 (rF [] 64 (rs [(1,.l 5),(2,.c [0,1,2,4] [0,1,2,4] (Tx g p y D z C v F u q t B c x.x _ _ h hA O ln T d (by(simp only[LL,G,G];done)) m b e f i j k n o x.id I x.sv J x.sc (x.st+1) gi H vs)),(3,.s 6)] 6 (ob (B1 a) (([i6 30,i6 0]:List Value)++rB 64 z6).toArray 53) (lf ab.zero [0,1,2,3,4] [] [6])))))))))
theorem TU(g p y D z C v F u q t B:Nat)(c:Cf)(x:Mc)(K A N:Nat)(r:ez c x K A N)(hA:A≤700000)(M:N≤1000)(O:K+3≤1000000000)(ln:Int)(T:bK ln ((((c.R*c.B*c.M-c.res)*c.C):Nat):Int)=false)(d:List UInt8)(G:d.length=64)(m:Nat)(b e f i j k n o:Int)(Q:eo 3 ln d m b e f i j k n o=true):aa WK 16 #[pt g 0,.agg (sV 3 ln d m b e f i j k n o)] [pk (aH g p y D z C v F u q t B c x)] [0] (λ_=>[pk (aH g p y D z C v F u q t B c ({x with st:=x.st+1}:Mc))]) (λ_=> .agg (([i6 30,i6 0]:List Value)++rB 64 z6).toArray):=aa.pkZ Tryz.func16 λL P=>by
 obtain⟨gi,H,vs,rfl⟩:=P;refine⟨[0,1,2,3,4],λ_=>[ob g #[pt q 0,pt p 0,.map (some gi),H,vs,iN x.sc,i6 ((x.st+1:Nat):Int)] 114,pk (aQ p y D z C v F u q t B c x.x),Ww x.id gi,gp H x.inj,dj vs x.sv],?_,rfl,λE=>⟨rfl,rfl,⟨_,_,_,rfl⟩⟩⟩;have h:=r.ct;have R:=h.cf;have I:=r.il;have J:x.sv.length≤1000:=WL r.sl M;have S:x.inj.length≤1000:=WL r.jl M;have U:=r.sc;have V:=r.st;exact fG Tryz.func16 λw cs=>ra (λa=>[(3,pt (B0 a) 0),(4,pt (B1 a) 0)]) (λa=>[ob (B0 a) (sV 3 ln d m b e f i j k n o) 50,ob (B1 a) (([i6 0,i6 0]:List Value)++rB 64 z6).toArray 53]) λa=>rF [(0,.l 5),(1,.c [] [] (aa.v ((kj 3 ln d m b e f i j k n o (by(simp only[LL,G,G];done)))) λ_=>ALca Value.bool (show(eo 3 ln d m b e f i j k n o)=true from(by exact Q))))] 9 (rs [(3,.l 0),(4,ad x.st 1),(7,.s 0)] 0 (ob g #[pt q 0,pt p 0,.map (some gi),H,vs,iN x.sc,i6 ((x.st+1:Nat):Int)] 114) (r0 [(1,.l 5)] [(19,i6 3)] [] (rF [] 20 (rF [] 40 (rF [] 48 (rF [] 56 (rF [] 64 (rs [(1,.l 5),(2,.c [0,1,2,4] [0,1,2,4] (Ty g p y D z C v F u q t B c x.x _ _ h hA O ln T d (by(simp only[LL,G,G];done)) m b e f i j k n o x.id I x.sv J x.sc (x.st+1) gi H vs)),(3,.s 6)] 6 (ob (B1 a) (([i6 30,i6 0]:List Value)++rB 64 z6).toArray 53) (lf ab.zero [0,1,2,3,4] [] [6])))))))))
def gC(c:Cf):Nat:=(c.R*c.B*c.M-c.res)*c.C
abbrev vY(s:St):Fa:=⟨s.f0,s.f1,s.f2,s.f3,s.f4,s.f5,s.f6,s.f7⟩
abbrev lh:List UInt8:=WJ 64 0
def kG(c:Cf)(x:Mc)(s:St):Mc:=
 if bK s.ln ((gC c:Nat):Int)=true then
  if s.k=1 then FJ c x s.ln.toNat s
  else if s.k=2 then vX c x s.ln.toNat 18446744073709551615 s
  else if s.m=0 then FK c x s.ln.toNat s.d
  else vX c x s.ln.toNat s.m s
 else x
def vZ(c:Cf)(x:Mc)(s:St):An:=
 if bK s.ln ((gC c:Nat):Int)=true then
  if s.k=1 then⟨cc (bB c x.x (aU x.x s.ln.toNat)),0,cC c x.x (aU x.x s.ln.toNat)⟩
  else if s.k=2 then⟨cd c x.x s.ln.toNat 18446744073709551615,0,lh⟩
  else if s.m=0 then⟨30,0,lh⟩
  else⟨cd c x.x s.ln.toNat s.m,0,lh⟩
 else⟨30,0,lh⟩
def dA(c:Cf)(x:Mc)(s:St):Mc:=
 if sR s=true then
  if s.k=4 then{x with x:=k8 c x.x,sc:=x.sc+1,st:=x.st+1}
  else if s.k=5 then if x.x.s.r.j.A=0 then{x with st:=x.st+1} else{x with x:=iC c x.x,st:=x.st+1}
  else if s.k=6 then{x with x:=qk x.x,st:=x.st+1}
  else if s.k=7 then{x with x:=ql x.x,st:=x.st+1}
  else if s.k=8 then{x with x:={x.x with V:=mU c x.x.V (vY s)},inj:=nI c x.x (vY s) x.inj x.sc,st:=x.st+1}
  else kG c {x with st:=x.st+1} s
 else x
def db(c:Cf)(x:Mc)(s:St):An:=
 if sR s=true then
  if s.k=4 then⟨cc (bB c (iS c x.x) (aU (iS c x.x) x.x.U)),(x.x.U:Int),lh⟩
  else if s.k=5 then if x.x.s.r.j.A=0 then⟨51,0,lh⟩ else⟨0,0,lh⟩
  else if s.k=6 then⟨0,0,lh⟩
  else if s.k=7 then⟨0,(x.x.s.g.l.length:Int),lh⟩
  else if s.k=8 then⟨hP c x.x.V.D (vY s),0,lh⟩
  else vZ c x s
 else⟨60,0,lh⟩
structure StOk (s:St):Prop where
 d:s.d.length=64
 m:s.m<18446744073709551616
theorem TV(g e l r o q j t i f h p:Nat)(c:Cf)(x:Mc)(K A N:Nat)(u:ez c x K A N)(hA:A≤700000)(v:N≤1000)(X:K+260≤1000000000)(ht:x.x.s.time<1099511627776)(s:St)(hs:StOk s):aa WK 16 #[pt g 0,.agg (eSt s).toArray] [pk (aH g e l r o q j t i f h p c x)] [0] (λ_=>[pk (aH g e l r o q j t i f h p c (dA c x s))]) (λ_=> .agg (sP (db c x s)).toArray):=by
 obtain⟨w,hm⟩:=hs;by_cases a:sR s=true
 ·have Y:=Tr a;unfold dA db;rw[ALifp a,ALifp a];obtain⟨k,J,d,m,y,z,B,C,D,F,G,H⟩:=s;have b:K+3≤1000000000:=by omega
  by_cases R:k=4
  ·subst R;exact TG g e l r o q j t i f h p c x K A N u hA v b J d w m y z B C D F G H a
  by_cases S:k=5
  ·subst S;by_cases I:x.x.s.r.j.A=0
   ·rw[ALifn (show ¬(5:Int)=4 by decide),ALifp rfl,ALifp I,ALifn (show ¬(5:Int)=4 by decide),ALifp rfl,ALifp I];exact TJ g e l r o q j t i f h p c x K A N u hA v I J d w m y z B C D F G H a
   ·rw[ALifn (show ¬(5:Int)=4 by decide),ALifp rfl,ALifn I,ALifn (show ¬(5:Int)=4 by decide),ALifp rfl,ALifn I];exact TI g e l r o q j t i f h p c x K A N u hA v X I J d w m y z B C D F G H a
  by_cases T:k=6
  ·subst T;exact TK g e l r o q j t i f h p c x K A N u hA v ht J d w m y z B C D F G H a
  by_cases U:k=7
  ·subst U;exact TL g e l r o q j t i f h p c x K A N u hA v J d w m y z B C D F G H a
  by_cases V:k=8
  ·subst V;exact TM g e l r o q j t i f h p c x K A N u hA v J d w m y z B C D F G H a
  rw[ALifn R,ALifn S,ALifn T,ALifn U,ALifn V,ALifn R,ALifn S,ALifn T,ALifn U,ALifn V];unfold kG vZ;have Z:1≤k∧k≤8:=Y;by_cases I:bK J ((gC c:Nat):Int)=true
  ·obtain⟨W,b2⟩:=lV.1 I;obtain⟨n,rfl⟩: ∃n:Nat,J=(n:Int):=⟨J.toNat,(Int.toNat_of_nonneg W).symm⟩;have O:n<gC c:=by omega
   rw[ALifp I,ALifp I];by_cases P:k=1
   ·subst P;exact TN g e l r o q j t i f h p c x K A N u hA v b n O d w m y z B C D F G H a
   by_cases Q:k=2
   ·subst Q;exact TO g e l r o q j t i f h p c x K A N u hA v b n O d w m y z B C D F G H a
   obtain rfl:k=3:=by omega
   by_cases L:m=0
   ·subst L;exact TQ g e l r o q j t i f h p c x K A N u hA v b n O d w y z B C D F G H a
   ·rw[ALifn (show ¬(3:Int)=1 by decide),ALifn (show ¬(3:Int)=2 by decide),ALifn L,ALifn (show ¬(3:Int)=1 by decide),ALifn (show ¬(3:Int)=2 by decide),ALifn L];exact TP g e l r o q j t i f h p c x K A N u hA v b n O d w m y z B C D F G H a hm L
  ·rw[ALifn I,ALifn I];have M:bK J ((gC c:Nat):Int)=false:=by simpa using I
   by_cases P:k=1
   ·subst P;exact TR g e l r o q j t i f h p c x K A N u hA v b J M d w m y z B C D F G H a
   by_cases Q:k=2
   ·subst Q;exact TT g e l r o q j t i f h p c x K A N u hA v b J M d w m y z B C D F G H a
   obtain rfl:k=3:=by omega
   exact TU g e l r o q j t i f h p c x K A N u hA v b J M d w m y z B C D F G H a
 ·unfold dA db;rw[ALifn a,ALifn a];exact TF g e l r o q j t i f h p c x K A N u hA v s.k s.ln s.d w s.m s.f0 s.f1 s.f2 s.f3 s.f4 s.f5 s.f6 s.f7 (by simpa [sR] using a)
theorem ez.mono{c:Cf}{x:Mc}{K A N d b e:Nat}(h:ez c x K A N)(f:K≤d)(hA:A≤b)(a:N≤e):ez c x d b e:=⟨h.ct.mono f hA,h.il,WL h.jl a,WL h.sl a,WL h.sc a,WL h.st a⟩
theorem zI{c:Cf}{i:Int}(h:bK i ((gC c:Nat):Int)=true):i.toNat<(c.R*c.B*c.M-c.res)*c.C:=by
 have:=lV.1 h;unfold gC at this;omega
theorem TW(c:Cf)(y:Ct)(f:Fa)(l:List Ij)(sc:Nat):(nI c y f l sc).length≤l.length+1:=by
 unfold nI;cases hP c y.V.D f==0
 ·exact Xi _
 ·exact Nat.le_of_eq W5
theorem TX{c:Cf}{x:Mc}{K A N:Nat}(h:ez c x K A N){s:St}(hs:StOk s)(b:K+3≤1000000000):ez c (kG c x s) (K+3) (A+2) (N+1):=by
 have a:ez c x (K+3) (A+2) (N+1):=h.mono Om Om Om;unfold kG
 split
 ·rename_i f;have d:=zI f;have e: ∀(l:List UInt8),l.length=64→∀k,(dC x.id ((s.ln.toNat:Nat):Int) l k).length=64:=λl g k=>sA h.il _ g k;have mg: ∀m,(iM (x.id ((s.ln.toNat:Nat):Int)) s.d m).length=64:=λm=>(zC ..).trans (h.il _);have ls: ∀y:Sv,(x.sv++[y]).length≤N+1:=λy=>by rw[W5];exact WW h.sl
  split
  ·exact⟨Fi h.ct d _ b,h.il,a.jl,ls _,a.sc,a.st⟩
  ·split
   ·exact⟨zD h.ct d hs.d _ b,e _ (mg _),a.jl,ls _,a.sc,a.st⟩
   ·split
    ·exact⟨zD h.ct d hs.d _ b,h.il,a.jl,a.sl,a.sc,a.st⟩
    ·exact⟨zD h.ct d hs.d _ b,e _ (mg _),a.jl,ls _,a.sc,a.st⟩
 ·exact a
theorem TZ{c:Cf}{x:Mc}{K A N:Nat}(h:ez c x K A N){s:St}(hs:StOk s)(f:K+260≤1000000000)(ht:x.x.s.time<1099511627776):ez c (dA c x s) (K+260) (A+3) (N+1):=by
 have a:ez c x (K+260) (A+3) (N+1):=h.mono Om Om Om;have d: ∀{y:Ct},bp c y (K+260) (A+3)→ez c {x with x:=y,st:=x.st+1} (K+260) (A+3) (N+1):=λg=>⟨g,a.il,a.jl,a.sl,a.sc,WW h.st⟩;unfold dA
 split
 ·split
  ·exact⟨(SC h.ct Om).mono Om Om,a.il,a.jl,a.sl,WW h.sc,WW h.st⟩
  ·split
   ·split
    ·exact d a.ct
    ·rename_i i;exact d (SQ h.ct i f)
   ·split
    ·exact d ((SR h.ct ht).mono Om Om)
    ·split
     ·exact d ((SS h.ct).mono Om Om)
     ·split
      ·have g:bp c {x.x with V:=mU c x.x.V (vY s)} K A:=⟨h.ct.cf,h.ct.s,RR h.ct.D _,h.ct.gl,h.ct.vl,h.ct.nl,h.ct.ly,h.ct.run,h.ct.U,h.ct.time⟩;exact⟨g.mono Om Om,a.il,WL (TW ..) (WW h.jl),a.sl,a.sc,WW h.st⟩
      ·have g:ez c {x with st:=x.st+1} K A (N+1):=⟨h.ct,h.il,Xw h.jl,Xw h.sl,Xw h.sc,WW h.st⟩;have e:=TX (x:={x with st:=x.st+1}) (N:=N+1) g hs Om;have b:(kG c {x with st:=x.st+1} s).sv.length≤N+1∧(kG c {x with st:=x.st+1} s).inj=x.inj∧(kG c {x with st:=x.st+1} s).sc=x.sc∧(kG c {x with st:=x.st+1} s).st=x.st+1:=by
        have ls: ∀y:Sv,(x.sv++[y]).length≤N+1:=λy=>by rw[W5];exact WW h.sl
        unfold kG
        split
        ·split
         ·exact⟨ls _,rfl,rfl,rfl⟩
         ·split
          ·exact⟨ls _,rfl,rfl,rfl⟩
          ·split
           ·exact⟨a.sl,rfl,rfl,rfl⟩
           ·exact⟨ls _,rfl,rfl,rfl⟩
        ·exact⟨a.sl,rfl,rfl,rfl⟩
       exact⟨e.ct.mono Om Om,e.il,by rw[b.2.1];exact a.jl,b.1,by rw[b.2.2.1];exact a.sc,by rw[b.2.2.2];exact WW h.st⟩
 ·exact a
theorem T0(c:Cf)(x:Mc)(s:St):(kG c x s).x.s.time=x.x.s.time:=by
 unfold kG
 split
 ·split
  ·rfl
  ·split
   ·rfl
   ·split<;>rfl
 ·rfl
theorem T1(c:Cf)(x:Mc)(s:St):(dA c x s).x.s.time≤x.x.s.time+1:=by
 unfold dA
 split
 ·split
  ·exact Xi _
  ·split
   ·split
    ·exact Xi _
    ·exact Xi _
   ·split
    ·exact Xk _
    ·split
     ·exact Xi _
     ·split
      ·exact Xi _
      ·rw[T0];exact Xi _
 ·exact Xi _
def gO(M C r j:Nat):Nat:=bl r (j/C/M) (j/C%M) (j%C)
theorem T2{B M C b w c:Nat}(k:b<B)(f:w<M)(d:c<C):b*(M*C)+w*C+c<B*M*C∧(b*(M*C)+w*C+c)/C/M=b∧(b*(M*C)+w*C+c)/C%M=w∧(b*(M*C)+w*C+c)%C=c:=by
 have e:b*(M*C)+w*C+c=(b*M+w)*C+c:=by rw[Xl,W6]
 have a:(b*(M*C)+w*C+c)/C=b*M+w:=by
  rw[e,Xd,XD Om,WX d,Xy]
 have g:(b*M+w)/M=b:=by rw[Xd,XD Om,WX f,Xy]
 have h:(b*M+w)%M=w:=by rw[Xd,XE,W4 f]
 refine⟨?_,by rw[a,g],by rw[a,h],by rw[e,Xd,XE,W4 d]⟩;rw[e];have i:b*M+w+1≤B*M:=by
  have:(b+1)*M≤B*M:=WU M k;rw[Xe] at this;omega
 have j:(b*M+w+1)*C≤B*M*C:=WU C i;rw[Xe] at j;omega
theorem T3{B M C r b w c:Nat}(g:b<B)(i:w<M)(h:c<C):((WM (B*M*C)).map (gO M C r))[b*(M*C)+w*C+c]? =some (bl r b w c):=by
 obtain⟨a,d,e,f⟩:=T2 g i h;rw[Xm,Xc a,Xz];unfold gO;rw[d,e,f]
theorem T4(a p1 p2 p3:Nat)(h0:a<8)(h1:p1<16)(h2:p2<1024)(b:p3<64):aa WK 102 #[.agg #[iN a,iN p1,iN p2,iN p3]] [] [] N0 (λ_=>i6 ((bl a p1 p2 p3:Nat):Int)):=by
 have:=Dg (a:Int) p1 p2 p3 Om Om Om Om Om Om Om Om;rwa [uV] at this
theorem FM(m n R S B M C r:Nat)(s:b6 R S B M C)(N:r<R+S):e4 5 WK 101 #[pt m 0,pt n 0] (λ(i:Nat)=>#[iN i]) ((WM (B*M*C)).map (gO M C r)) (Xj [[(m,.cells #[iN R,iN S,iN B,iN M,iN C] 23 (0,0))],[(n,.cells #[iN r] 3 (0,0))]]):=by
 have a:=s.bd;have q:=a.r8;have h:=a.b16;have G:=a.m10;have H:=a.c64;refine gi (KO:=[[(m,.cells #[iN R,iN S,iN B,iN M,iN C] 23 (0,0))],[(n,.cells #[iN r] 3 (0,0))]]) Tryz.func101 (λO T Q X V t J I=>?_);refine rF [(0,.l 0),(1,.l 1),(3,.c [] [] (aa.v ((rS R S B M C s (r:Int) 0 0 0)) λ_=>ALca Value.bool (show(hold R S B M C (r:Int) 0 0 0)=true from(by exact(gb.hold (p1:=0) (p2:=0) (p3:=0) ⟨N,a.b1,a.m1,a.c1⟩)))))] 11 (r0 [(1,.l 0)] [(13,iN B),(14,i6 0)] [] ?_);refine jX (λb=>b≤B) (λb=>[(14,iN b)]) (λ_ L=>L) (λb=>B-b) (λb=>b*(M*C)) 0 Om (by(rw[Xx]);exact I) Kr Kr (λb U W K k=>?_);refine r0 [] [(15,.bool (decide ((b:Int)<(B:Int))))] [] ?_;refine bW (b:Int) (B:Int) (λq o=>?_) λq o=>?_
 ·refine r0 [] [(4,iN b)] [] (r0 [(1,.l 0)] [(18,iN M),(19,i6 0)] [] ?_);refine jX (λw=>w≤M) (λw=>[(19,iN w)]) (λ_ L=>L) (λw=>M-w) (λw=>b*(M*C)+w*C) 0 Om (by(rw[Xx,Xy]);exact k) Kr Kr (λw x A u d=>?_);refine r0 [] [(20,.bool (decide ((w:Int)<(M:Int))))] [] ?_;refine bW (w:Int) (M:Int) (λh f=>?_) λh f=>?_
  ·refine r0 [] [(5,iN w)] [] (r0 [(1,.l 0)] [(23,iN C),(24,i6 0)] [] ?_);refine jX (λc=>c≤C) (λc=>[(24,iN c)]) (λ_ L=>L) (λc=>C-c) (λc=>b*(M*C)+w*C+c) 0 Om d Kr Kr (λc y D v e=>?_);refine r0 [] [(25,.bool (decide ((c:Int)<(C:Int))))] [] ?_;refine bW (c:Int) (C:Int) (λp g=>?_) λp g=>?_
   ·refine r0 [] [(6,iN c)] [] ?_;refine iy t J e 7 (λ_=>[(1,.l 1),(6,.c [] [] (T4 r b w c Om Om Om Om))]) (λ_=>[(27,.func (.yield O) #[] #[]),(33,i6 ((bl r b w c:Nat):Int))]) [] (λ_ L=>L) N0 [0,1] (T3 Om Om Om) (λP z F j=>?_);refine cF _ rfl (r0 [(0,ad c 1)] [(24,i6 ((c+1:Nat):Int))] [24] ?_);exact iI (c+1) Om j Om Kr [0,1] Kr
   obtain rfl:C=c:=by omega
   refine jY ?_;refine r0 [(0,ad w 1)] [(19,i6 ((w+1:Nat):Int))] [19] ?_;exact iI (w+1) Om (by(rw[Xe,←Nat.add_assoc]);exact e) Om Kr [0,1] Kr
  obtain rfl:M=w:=by omega
  refine jY ?_;refine r0 [(0,ad b 1)] [(14,i6 ((b+1:Nat):Int))] [14] ?_;exact iI (b+1) Om (by(rw[Xe]);exact d) Om Kr [0,1] Kr
 obtain rfl:B=b:=by omega
 refine jY ?_;exact kT t k (by rw[WR,WO,W6]) [] [0,1]
theorem T5{a b d c p:Nat}(hp:p*64=bl a b d 0):(p:Int)*2^6+(c:Int)=((bl a b d c:Nat):Int):=by unfold bl at hp⊢;omega
theorem FN{P:Program}{T:TypeId}{x y:Operand}{w:World}{a b d c p:Nat}(hp:p*64=bl a b d 0)(g:c<64)(f:p*64<8388608):(av .or T x y (.int .i64 ((p:Int)*2^6)) (.int .i64 (c:Int))).run P w= .ok (.int .i64 ((bl a b d c:Nat):Int)) w:=by
 have e:=T5 (c:=c) hp;rw[←e];exact pM 6 64 rfl Om Om Om Om Om
theorem T6(o q R S B M C p a b e:Nat)(u:b6 R S B M C)(hp:p*64=bl a b e 0)(n:gb R S B M C a b e 0):e4 5 WK 100 #[pt o 0,pt q 0] (λ(i:Nat)=>#[iN i]) ((WM C).map (bl a b e)) (Xj [[(o,.cells #[iN p] 3 (0,0))],[(q,.cells #[iN R,iN S,iN B,iN M,iN C] 23 (0,0))]]):=by
 have h:=u.bd;have y:=h.c64;have j:p*64<8388608:=by rw[hp];exact uU h n
 refine gi (KO:=[[(o,.cells #[iN p] 3 (0,0))],[(q,.cells #[iN R,iN S,iN B,iN M,iN C] 23 (0,0))]]) Tryz.func100 (λG J I P N v D A=>?_);refine rF [(0,.l 0),(1,.t (tk (show Value.bool (decide ((p:Int)<0))= .bool false from ALca Value.bool (by exact bf Om)))),(3,.l 0),(4,.t (tk (show Value.bool (decide (131072≤(p:Int)))= .bool false from ALca Value.bool (by exact bf Om))))] 12 (r0 [(1,.l 1)] [(14,iN C),(15,i6 0)] [] ?_);refine jX (λk=>k≤C) (λk=>[(15,iN k)]) (λ_ L=>L) (λk=>C-k) (λk=>k) 0 Om A Kr Kr (λk K O F g=>?_);refine r0 [] [(16,.bool (decide ((k:Int)<(C:Int))))] [] ?_;refine bW (k:Int) (C:Int) (λz r=>?_) λz r=>?_
 ·refine r0 [] [(4,iN k)] [] (rr (λ_=>[(0,.m (ls 1 ([iN R,iN S,iN B,iN M,iN C]))),(1,.m (ld 0 (iN p))),(2,.t (tv (av .shl 3 (.tmp 20) (.const (u6 6)) (iN p) (u6 6)) (λ_=>fk 6 Dc Om Om))),(4,.t (tv (av .or 3 (.tmp 21) (.tmp 22) (i6 ((p:Int)*2^6)) (iN k)) (λ_=>FN hp Om j))),(5,.c [] [] (pV u (⟨n.h0,n.h1,n.h2,Om⟩:gb R S B M C a b e k))),(9,.m (al 2)),(10,.s 2)]) (λ_=>[(6,i6 0)]) [] (λd L=>L++[ob ((d 9).y 0) #[iN a,iN b,iN e,iN k] 46]) λd=>?_);refine iy v D g 8 (λ_=>[(4,.l 0),(5,.t (tv (av .shl 3 (.tmp 31) (.const (u6 6)) (iN p) (u6 6)) (λ_=>fk 6 Dc Om Om))),(7,.t (tv (av .or 3 (.tmp 32) (.tmp 33) (i6 ((p:Int)*2^6)) (iN k)) (λ_=>FN hp Om j)))]) (λ_=>[(29,.bool false),(30,.func (.yield G) #[] #[]),(34,i6 ((bl a b e k:Nat):Int))]) [] (λ_ L=>L) (λ_=>[ob ((d 9).y 0) #[iN a,iN b,iN e,iN k] 46]) [0,1,2] (nS Om) (λH w x f=>?_);refine cF _ rfl (r0 [(0,ad k 1)] [(15,i6 ((k+1:Nat):Int))] [15] ?_);exact iI (k+1) Om f Om Kr [0,1] Kr
 obtain rfl:C=k:=by omega
 refine jY ?_;exact kT v g (by rw[WR,WO]) [] [0,1]
theorem T7(R S B M C p:Nat):aa WK 65 #[.agg #[iN R,iN S,iN B,iN M,iN C],iN p] [] [] (λE=>[ob (E.y 0) #[iN p] 3,ob (E.y 1) #[iN R,iN S,iN B,iN M,iN C] 23]) (λE=> .func (.func 100) #[] #[pt ((E.y 0)) 0,pt ((E.y 1)) 0]):=by
 exact fG Tryz.func65 λw cs=>ra (λa=>[(2,pt (B0 a) 0),(3,pt (B1 a) 0),(4,.nilFunc)]) (λa=>[ob (B0 a) #[iN R,iN S,iN B,iN M,iN C] 23,ob (B1 a) #[iN p] 3]) λa=>r0 [] [(4,.func (.func 100) #[] #[pt (B1 a) 0,pt (B0 a) 0])] [4] (lf (.l [(a 1).y 0,(a 0).y 0] [] []) [1,0] [] [])
theorem FO(R S B M C r:Nat):aa WK 66 #[.agg #[iN R,iN S,iN B,iN M,iN C],iN r] [] [] (λE=>[ob (E.y 0) #[iN R,iN S,iN B,iN M,iN C] 23,ob (E.y 1) #[iN r] 3]) (λE=> .func (.func 101) #[] #[pt ((E.y 0)) 0,pt ((E.y 1)) 0]):=by
 exact fG Tryz.func66 λw cs=>ra (λa=>[(2,pt (B0 a) 0),(3,pt (B1 a) 0),(4,.nilFunc)]) (λa=>[ob (B0 a) #[iN R,iN S,iN B,iN M,iN C] 23,ob (B1 a) #[iN r] 3]) λa=>r0 [] [(4,.func (.func 101) #[] #[pt (B0 a) 0,pt (B1 a) 0])] [4] (lf (.l [(a 0).y 0,(a 1).y 0] [] []) [0,1] [] [])
section
section
variable {P:Program} {m m' l lr:Nat} {w:World} {Rp:Ending→World→Prop}
theorem T8{f:FuncId}{t:Array Value}{a b:Code}(h:RoundIn Fence.wide m P l f t a b w Rp):RoundIn Fence.wide m' P l f t a b w Rp:=⟨h.1,λc cs _=>h.2 c cs (room_wide _)⟩
theorem T9{f:FuncId}{t:Array Value}{a b:Code}(h:RoundIn Fence.wide m P l f t a b w Rp):RoundIn (Fence.wide.inRound lr) m' P l f t a b w Rp:=⟨h.1,λc cs _=>h.2 c cs (room_wide _)⟩
theorem Ua{args:Array Value}(h:YieldAt Fence.wide m P l args w Rp):YieldAt Fence.wide m' P l args w Rp:=
 let ⟨fn,t,a,b,h1,h2⟩:=h
 ⟨fn,t,a,b,h1,T8 h2⟩
end
theorem oE.lv{α:Type}{n n':Nat}{P:Program}{g:Nat}{lb:Array Value}{encs:α→Array Value}{xs:List α}{K:Nat→Prop}{St:(Nat→Prop)→World→Prop}(h:oE Fence.wide n P g lb encs xs K St):oE Fence.wide n' P g lb encs xs K St:=
 λl J Jx W O k o p q r f=>callsIn_wide.2 (callsIn_wide.1 (h l J Jx W O k o p q (λi x d e a b c=>Ua (r i x d e a b c)) f))
def FP{α:Type}(P:Program)(l:Nat)(J Jx:Nat→(Nat→Prop)→World→Prop)(KO:ay)(W0:World)(encs:α→Array Value)(xs:List α):Prop:=
 ∀i x f a,xs[i]? =some x→J i f a→W0.heap.size≤a.heap.size→YieldAt Fence.wide 4 P l (encs x) a λe d=>∃c,gS (λb=>∃x∈KO,x.1=b) f c a d∧((e= .returned (.bool true)∧J (i+1) c d)∨(e= .returned (.bool false)∧Jx (i+1) c d))
def sS(P:Program)(fn:Func)(J Jx:Nat→(Nat→Prop)→World→Prop)(N:Nat):Exit→Act→World→Prop:=
 bodyPostM Fence.wide 5 P fn λe b=>(∃v,e= .returned v)∧((∃a,J N a b)∨∃i,i<N∧∃a,Jx (i+1) a b)
section
variable {α:Type} {P:Program} {gf:Nat} {fn:Func} {lb:Array Value} {encs:α→Array Value} {xs:List α} {KO:List ay} {J Jx:Nat→(Nat→Prop)→World→Prop} {W0:World} {l j:Nat}
theorem Ub(hf:P.funcs[gf]? =some fn)(h: ∀l J Jx W0 R,gH J→gH Jx→FP P l J Jx KO.flatten W0 encs xs→Hid (fx J KO W0 0 R W0)→Go Fence.wide 5 P R W0 (sS P fn J Jx xs.length) [.c (kt fn)] ⟨fn.ntmps,nW 0 (.func (.yield l) #[] #[]::lb.toList)⟩ (KO.map .c) [])
  (n:(fn.body.isSome,Nat.ble (lb.size+1) fn.ntmps)=(true,true):=by kernel_rfl):e4 5 P gf lb encs xs KO.flatten:=by
 intro l J Jx W O f t d u x p;have b:fI J KO.flatten W [] 0 W:=⟨⟨O,p,λ_ h=>by simp at h,u⟩,Xk _,by simpa using f⟩;obtain⟨R,s,e⟩:=jc.start (jc.zero b);obtain⟨c,k⟩:=Option.isSome_iff_exists.1 (ALca (·.1) n);have y:lb.size+1≤fn.ntmps:=Nat.le_of_ble_eq_true (ALca (·.2) n);refine callsIn_of_wp_marks hf k trivial ?_ rfl;have o:(#[Value.func (.yield l) #[] #[]]++lb).size=lb.size+1:=by simp;omega
 have g:=(h l J Jx W R t d x s).out {tmps:=(#[Value.func (.yield l) #[] #[]]++lb)++Array.replicate (fn.ntmps-(#[Value.func (.yield l) #[] #[]]++lb).size) undef,defers:=[]} W ⟨by rw[Array.size_append,o,Array.size_replicate];show _=fn.ntmps;omega,λi v hv=>?_,rfl⟩ (by simpa using e.out)
 ·rw[show kt fn=c by unfold kt;rw[k];rfl] at g;exact g
 ·obtain⟨_,a⟩:=qY hv;rw[Nat.sub_zero] at a;have q:i<lb.size+1:=by have:=(List.getElem?_eq_some_iff.1 a).1;simpa using this
  have r:(#[Value.func (.yield l) #[] #[]]++lb)[i]? =some v:=by rw[←Array.getElem?_toList];simpa using a
  rw[Array.getD_eq_getD_getElem?,Array.getElem?_append_left (by rw[o];exact q),r];rfl
theorem v5{α β:Type}(f:α→β): ∀l:List α,(l.map λx=>[f x]).flatten=l.map f
 | []=>rfl
 | x::l=>by rw[List.map_cons,Xn,v5 f l];rfl
theorem zJ{R:List Nat}{base W:World}(h:aE R base [] W):cx R base [] W:=by
 obtain⟨cs,b,a⟩:=h.conc;obtain rfl:=oD b;exact a
theorem FQ{N:Nat}{b:Act}{W:World}{Ds:List Nat}(c:fn.results.toList=[])(o:b.defers=Ds.map jU)(p:Has (Ds.map dR) W)(h: ∀a,cx ((Ds.map dR).map (·.1)) W [] a→(∃d,J N d a)∨∃i,i<N∧∃d,Jx (i+1) d a):sS P fn J Jx N .ret b W:=by
 show LeavesInM Fence.wide 5 P fn b.tmps _ b.defers .returning W;rw[o];have k:aE ((Ds.map dR).map (·.1)) W ([]++Ds.map mk) W:=by
  have e:=aE.start (w:=W) (qI Ds) (by rw[v5];exact p);rw[v5] at e;exact e
 obtain⟨q,f,g⟩:=aE.seg (L:=[]) k;exact AE f g [] (by rw[c];rfl) λa n=>⟨⟨_,rfl⟩,h a (zJ n)⟩
structure AI (J:Nat→(Nat→Prop)→World→Prop) (K Lo:ay) (W0:World) (j:Nat) (O1:Nat→Prop) (V:World):Prop where
 ex: ∃O,J j O V∧(∀x∈Lo,¬O x.1)∧∀b,O b→O1 b
 own: ∀x∈K++Lo,O1 x.1
 lt: ∀b,O1 b→b<V.heap.size
 sz:W0.heap.size≤V.heap.size
 has:Has (K++Lo) V
theorem AI.turn{K f:ay}{a:Nat→Prop}{V c:World}(i:gH J)(h:AI J K f W0 j a V)(t:eQ (λb=>¬a b) V c):AI J K f W0 j a c:=
 let ⟨O,h1,h2,h3⟩:=h.ex
 ⟨⟨O,i _ O V c h1 (t.mono λb d k=>d (h3 b k)),h2,h3⟩,h.own,λb d=>Xa (h.lt b d) t.size,WL h.sz t.size,⟨λx g=>t.heap (λe=>e (h.own x g)) (h.has.obj x g),h.has.nd⟩⟩
theorem cx.turnA{R:List Nat}{base W:World}{L:ay}{S:Nat→Prop}(h:cx R base L W)(c: ∀b,b<base.heap.size→b∈R→¬S b→W.heap[b]? =base.heap[b]?):eQ S base W:=
 ⟨h.os,h.tape,h.output,h.size,λb a d=>if hx:b∈R then c b a hx d else h.far b a hx⟩
theorem Uc{R:List Nat}{base:World}{Q:Exit→Act→World→Prop}{S:List It}{a:Nat}{es:Fe}{L:aj}{A:World→Prop}{vs:Array Value}{lr:Nat}(N:Nat)(hs:bD→List (Nat×b8 P))(h:bD→Fe)(dr:List Nat)(Le:bD→aj→aj)
  (F: ∀η W,aE R base (Le η L) W→YieldAt Fence.wide 4 P l vs W λe g=>(e= .returned (.bool true)∧A g)∨(e= .returned (.bool false)∧∀b,Q .ret b g))
  (hk: ∀η g,A g→Go (Fence.wide.inRound lr) 3 P [] g Q (bQ S) ⟨a,(iH P (aw S) a ((aw S).drop (N+1)) ((je S N,.bool true)::(h η++eu dr es))).1⟩ [] [])
  (he: ∀η,((lP S,true),(fh ((aw S).take N) ⟨a,es⟩ (tP N S ⟨a,es⟩ L (mR Le L) hs) η 0 ((aw S).take N) (nX N S ⟨a,es⟩ L hs η)).map a9.lhs,uk (eR S) (aw S) N (λk=>(jz (eR S) ((aw S).take N)).getD k []),(WM (mR Le L)).map (λp=>(tP N S ⟨a,es⟩ L (mR Le L) hs).at η p ((aw S).take N).length),(h η).map (λx=>kO ((aw S).take N) ⟨a,es⟩ (tP N S ⟨a,es⟩ L (mR Le L) hs) η x.1),mv ((aw S).take N) es (h η) dr)=
   ((true,true),(fh ((aw S).take N) ⟨a,es⟩ (tP N S ⟨a,es⟩ L (mR Le L) hs) η 0 ((aw S).take N) (nX N S ⟨a,es⟩ L hs η)).map a9.rhs,true,(Le η L).map some,(h η).map (λx=>some x.2),true):=by intro _;kernel_rfl)
  (H: ∀η,(uq S N l a (h η++eu dr es) vs.toList,(iH P (aw S) a ((aw S).drop (N+1)) ((je S N,.bool true)::(h η++eu dr es))).2.map a9.lhs,(iH P (aw S) a ((aw S).drop (N+1)) ((je S N,.bool false)::(h η++eu dr es))).2.map a9.lhs,rl 10 (bQ S) (iH P (aw S) a ((aw S).drop (N+1)) ((je S N,.bool false)::(h η++eu dr es))).1)=
   ((true,some vs.toList,some (.func (.yield l) #[] #[])),(iH P (aw S) a ((aw S).drop (N+1)) ((je S N,.bool true)::(h η++eu dr es))).2.map a9.rhs,(iH P (aw S) a ((aw S).drop (N+1)) ((je S N,.bool false)::(h η++eu dr es))).2.map a9.rhs,true):=by intro _;kernel_rfl)
  (hm:P.follows .mixedOrders=true:=by kernel_rfl):Go (Fence.wide.inRound lr) 3 P R base Q S ⟨a,es⟩ L []:=by
 refine By hm N hs h dr Le (λη b W z hO=>?_) he;have f:=ALca (λx=>x.1) (H η);have s:=ALca (λx=>x.2.1) (H η);have t:=ALca (λx=>x.2.2.1) (H η);have u:=ALca (λx=>x.2.2.2) (H η);simp only at f s t u;obtain⟨T,y,K,O,D,i⟩:=F η W (by simpa using hO);unfold uq at f
 split at f
 ·rename_i o ho
  split at f
  ·rename_i xo I ats C;simp only[Prod.mk.injEq,Xq,Option.some.injEq] at f;obtain⟨⟨⟨⟨⟨g1,g2⟩,g3⟩,g4⟩,G⟩,g6,g7⟩:=f;obtain⟨d,B⟩:=Option.isSome_iff_exists.1 g4;have v:je S N=d:=by unfold je;rw[ho];simp [B]
   have Y:(aw S).drop N=o::(aw S).drop (N+1):=by
    obtain⟨Z,e⟩:=List.getElem?_eq_some_iff.1 (show(aw S)[N]? =some o from ho);rw[List.drop_eq_getElem_cons Z,e]
   rw[Y];have hw:Region.wanted o (yielded (aw S).toArray b.tmps)=true:=xr z g1;unfold wpListIn;rw[ALifp hw];have hxo:b.eval xo= .func (.yield l) #[] #[]:=(nb z g2).trans g7;have X:I.map b.eval=vs:=by
    apply Array.toList_inj.1;rw[Array.toList_map,←g6];exact List.map_congr_left λq hq=>nb z (List.all_eq_true.1 g3 q hq)
   have r:(execOp b.eval o).run P W= .ok (.round l T y K O) W:=by
    unfold execOp;simp only[C,resolve,hxo,Deferred.ofValue,Sem.run_bind,Sem.run_pure,XJ,invoke];rw[X];simpa using D
   unfold Oper.wpIn;refine⟨λ_ _=>trivial,?_⟩;rw[Oper.semAt_plain (Fence.wide.inRound lr) _ o (λc hc=>by rw[C] at hc;cases hc),r,Oper.uponIn_round];refine⟨λ_=>by omega,(T9 i).mono ?_⟩;rintro e g (⟨rfl,U⟩ | ⟨rfl,U⟩)
   ·rw[v] at s;have h4:=hk η g U;rw[v] at h4;show wpListIn (Fence.wide.inRound lr) 3 P (aw S).toArray _ ((aw S).drop (N+1)) (b.put o.dst (.bool true)) g;rw[B];have V:d<a:=by rw[B] at G;exact XM▸G
    exact rj (z.put V _) (a9.all s) λM n=>h4.out M g n (xw g)
   ·rw[v] at t u;show wpListIn (Fence.wide.inRound lr) 3 P (aw S).toArray _ ((aw S).drop (N+1)) (b.put o.dst (.bool false)) g;rw[B];have V:d<a:=by rw[B] at G;exact XM▸G
    exact rj (z.put V _) (a9.all t) λM n=>xu 10 u n (U M)
  ·simp at f
 ·simp at f
theorem FR{F:Fence}{n:Nat}{R:List Nat}{base:World}{Q:Exit→Act→World→Prop}{S:List It}{a:Sl}{L:aj}{Ds:List Nat}(h: ∀b W,Fr a Ds b→aE R base (L++Ds.map mk) W→Q .normal b W)(d:(nf S).isEmpty=true:=by kernel_rfl):Go F n P R base Q S a L Ds:=by
 refine⟨λb W e c=>dD 1000 S ?_⟩;rw[show dg 1000 S=[] from List.isEmpty_iff.1 d];exact h b W e c
end
end
section
section
variable {α:Type} {P:Program} {fn:Func} {encs:α→Array Value} {xs ys:List α} {KO LO KI:List ay} {J Jx:Nat→(Nat→Prop)→World→Prop} {W0:World} {l j:Nat} {R:List Nat} {base:World} {Q:Exit→Act→World→Prop} {S:List It} {sz:Nat} {es:Fe} {L:aj} {Ds:List Nat}
theorem Ud{K A M:ay}{d:Nat×Obj}(h:(K++(A++M)).Pairwise λx y=>x.1≠y.1)(a: ∀x∈K++(A++M),x.1≠d.1):(K++(A++d::M)).Pairwise λx y=>x.1≠y.1:=by
 have hp:XG (K++(A++d::M)) (d::(K++(A++M))):=by
  rw[←W7,←W7];exact List.perm_middle
 refine(List.Perm.pairwise_iff (λ{x y} h=>Ne.symm h) hp).2 (List.pairwise_cons.2 ⟨λx b=>Ne.symm (a x b),h⟩)
theorem Ue{g2:Nat}{lb2:Array Value}(ea:α→Fe)(hJ:gH J)(hJx:gH Jx)(hY:FP P l J Jx KO.flatten W0 encs xs)(hI:Hid (fx J KO W0 j R base))(hit:e4 5 P g2 lb2 encs ys KI.flatten)(eg:Enters P g2)
  (hys: ∀i y,ys[i]? =some y→xs[j+i]? =some y) (hQ: ∀b W,sS P fn J Jx xs.length .ret b W→Q .ret b W) (hres:fn.results.toList=[])
  (ps:List Nat) (hKI: ∀x∈KI.flatten,x∈LO.flatten) (hKn:KI.flatten.Sublist LO.flatten)
  (hasg: ∀(lr:Nat) (y:α) (R1:List Nat) (W1:World) (Q1:Exit→Act→World→Prop),(∀b W,Fr ⟨sz,ea y++eu [] (gI (cb S) (encs y).toList++es)⟩ [] b→aE R1 W1 [] W→Q1 .normal b W)→Go (Fence.wide.inRound lr) 3 P R1 W1 Q1 [.c (jE S)] ⟨sz,gI (cb S) (encs y).toList++es⟩ [] [])
  (hbod: ∀(lr:Nat) (y:α) (R1:List Nat) (W1:World) (Q1:Exit→Act→World→Prop),(∀W,aE R1 W1 ((KO++LO).map .c) W→YieldAt Fence.wide 4 P l (encs y) W λe w=>(e= .returned (.bool true)∧∀b W'',aE [] w [] W''→Q1 .normal b W'')∨(e= .returned (.bool false)∧∀b,Q1 .ret b w))→Go (Fence.wide.inRound lr) 3 P R1 W1 Q1 [.c (kS S)] ⟨sz,ea y++eu [] (gI (cb S) (encs y).toList++es)⟩ ((KO++LO).map .c) [])
  (hk: ∀(D:Nat) (R':List Nat) (w:World),Hid (fx J KO W0 (j+ys.length) R' w)→Go Fence.wide 5 P R' w Q (bQ S) ⟨sz,es⟩ ((KO++LO).map .c) (D::Ds))
  (hps: ∀x,(encs x).size=(cb S).length)
  (hc:(na S,(⟨sz,es⟩:Sl).ev (fV S),(cb S).all (Nat.blt · sz),dc (ps.map λp=>[p]).flatten,(ps.map λp=>[p]).map λg=>g.map λp=>L[p]?)=(true,.func (.func g2) #[] lb2,true,true,(((KO++LO).map aA.c).map λx=>[x]).map λN=>N.map some):=by kernel_rfl)
  (hkn:(match fV S with | .tmp i=>(lk es i).isSome | _=>true)=true:=by kernel_rfl):Go Fence.wide 5 P R base Q S ⟨sz,es⟩ L Ds:=by
 have c1:=ALca (λx=>x.1) hc;have c2:=ALca (λx=>x.2.1) hc;have c3:=ALca (λx=>x.2.2.1) hc;have c4:=ALca (λx=>x.2.2.2) hc;simp only at c1 c2 c3 c4;refine⟨λb W f hO=>dD 1000 S ?_⟩;rw[show dg 1000 S=_ from xm c1];show(Code.rangeFunc (fV S) (cb S).toArray (jE S) (kS S)).wpIn Fence.wide 5 P (dd Fence.wide 5 P Q (bQ S)) b W;have H:b.eval (fV S)= .func (.func g2) #[] lb2:=by
  rw[f.ev λi hi=>by rw[hi] at hkn;exact hkn];exact c2
 have hO1:aE R base (KO.map .c++(LO.map .c++Ds.map mk)) W:=by
  have h:=hO.under (L':=(KO++LO).map .c) λh=>h.pick ps _ c4;rwa [XC,W7] at h
 obtain⟨ds,hds,A⟩:=fx.step hI hJ hO1;have e9:ds.flatten=LO.flatten++Ds.map dR:=by
  obtain⟨d1,d2,rfl,o,h2⟩:=nR hds;rw[Xu,qT o,pA h2]
 rw[e9] at A;obtain⟨m,d⟩: ∃m,LO.flatten++Ds.map dR=m:=⟨_,rfl⟩;rw[d] at A;obtain⟨O,hO0,hO2,hO3⟩:=A.ex;have q:=A.has;have Z: ∀x∈LO.flatten,x∈m:=λx a=>by rw[←d];exact XI _ a
 have K: ∀x∈KI.flatten,x∈m:=λx a=>Z x (hKI x a);have B: ∀x∈KO.flatten++m,x.1<W.heap.size:=λx a=>(Array.getElem?_eq_some_iff.1 (q.obj x a)).1;have ndKI:KI.flatten.Pairwise λx y=>x.1≠y.1:=by
  have o:=(List.pairwise_append.1 q.nd).2.1;rw[←d] at o;exact(List.pairwise_append.1 o).1.sublist hKn
 have hA0:AI J KO.flatten m W0 (j+0) (λb=>b<W.heap.size) W:=⟨⟨O,hO0,hO2,hO3⟩,B,λ_ h=>h,A.sz,q⟩;refine AH (F:=Fence.wide) (n:=5) rfl Om H trivial eg (oE.lv (n':=4) hit) (λb=>b<W.heap.size) ?_ (λ_ h=>h) ?_ (λx=>by rw[hps x];simp) (λi k V=>AI J KO.flatten m W0 (j+i) k V) (λc i k V=>c= .ret∧AI Jx KO.flatten m W0 (j+i) k V) (λi k V V' h t=>h.turn hJ t) (λc i k V V' h t=>⟨h.1,h.2.turn hJx t⟩) hA0 ?_ ?_ ?_
 ·intro V hV k _;exact⟨λx a=>(hV x.1 (B x (WQ _ (K x a)))).trans (q.obj x (WQ _ (K x a))),ndKI⟩
 ·rintro b ⟨x,a,rfl⟩;exact B x (WQ _ (K x a))
 ·intro lr i y k V hy hsz hA;have hsz2:(encs y).toList.length=(cb S).length:=by rw[Array.length_toList];exact hps y
  have hlt: ∀p∈cb S,p<b.tmps.size:=λp hp=>by rw[f.size];exact XM▸List.all_eq_true.1 c3 p hp
  have hfr:Fr ⟨sz,gI (cb S) (encs y).toList++es⟩ [] {tmps:=ia b.tmps (cb S).toArray (encs y),defers:=[]}:=by
   have ee:encs y=(encs y).toList.toArray:=by simp
   refine⟨?_,λi v hv=>?_,rfl⟩
   ·show(ia b.tmps (cb S).toArray (encs y)).size=sz;rw[ee,uj];exact f.size
   ·show(ia b.tmps (cb S).toArray (encs y)).getD i undef=v;rw[ee,ui _ _ _ i hsz2.symm hlt];simp only[pK] at hv;cases o:lk (gI (cb S) (encs y).toList) i with
    | some u=>rw[o] at hv;cases hv;rfl
    | none=>rw[o] at hv;exact f.get i v hv
  have o:=(hasg lr y [] V (λe b' Wa=>e= .normal∧Fr ⟨sz,ea y++eu [] (gI (cb S) (encs y).toList++es)⟩ [] b'∧aE [] V [] Wa) λb' Wa o h2=>⟨rfl,o,h2⟩).out _ V hfr (xw V);refine wpIn_mono (show(jE S).wpIn (Fence.wide.inRound lr) 3 P _ _ V from o) λe a' Wa hq=>?_;obtain⟨rfl,hf',hO'⟩:=hq;have sO:=zJ hO';refine⟨k,⟨sO.size,λ_ _ h=>h,λb h=>Xa (hA.lt b h) sO.size,λb f _=>sO.far b f (by simp)⟩,λU hU hUs=>?_⟩;have z:AI J KO.flatten m W0 (j+i) k U:=(hA.turn hJ (sO.turnA λb _ a _=>by simp at a)).turn hJ hU;have hHU:Has (KO++LO).flatten U:=by
   rw[Xu];have hs:(KO.flatten++LO.flatten).Sublist (KO.flatten++m):=by rw[←d,←W7];exact Xo _ _
   exact⟨λx a=>z.has.obj x (hs.subset a),z.has.nd.sublist hs⟩
  have oU:aE (bN (KO++LO).flatten) U ((KO++LO).map .c) U:=aE.start (tQ _) hHU;refine(hbod lr y (bN (KO++LO).flatten) U (AG (λb=>∃x∈KI.flatten,x.1=b) (λi k V=>AI J KO.flatten m W0 (j+i) k V) (λc i k V=>c= .ret∧AI Jx KO.flatten m W0 (j+i) k V) (i+1) k U) λW2 h2=>?_).out a' U hf' (by rw[List.map_nil,W9];exact oU);obtain⟨cs2,hs2,G⟩:=h2.conc;rw[qT hs2] at G;have Y: ∀b,b<U.heap.size→W2.heap[b]? =U.heap[b]? :=λb f=>by
   by_cases a:b∈bN (KO++LO).flatten
   ·obtain⟨x,s,rfl⟩:=List.mem_map.1 a;exact(G.obj x s).trans (hHU.obj x s).symm
   ·exact G.far b f a
  have tU: ∀T:Nat→Prop,eQ T U W2:=λT=>⟨G.os,G.tape,G.output,G.size,λb f _=>Y b f⟩;have r:AI J KO.flatten m W0 (j+i) k W2:=z.turn hJ (tU _);obtain⟨O,q1,X,q3⟩:=r.ex;obtain⟨fn',t',ag',bd',r1,r2⟩:=hY (j+i) y O W2 (hys i y hy) q1 r.sz;refine⟨fn',t',ag',bd',r1,r2.mono ?_⟩;rintro e w ⟨O',H,h4⟩;have lt2: ∀x∈KO.flatten++m,x.1<W2.heap.size:=λx a=>(Array.getElem?_eq_some_iff.1 (r.has.obj x a)).1;have gr:gS (λb=>∃x∈KI.flatten,x.1=b) k (λb=>k b∨O' b) U w:=by
   refine⟨WL G.size H.size,λb f h=>?_,λb h=>?_,λb f hk=>?_⟩
   ·exact h.elim id λh=>q3 b (H.old b (Xa f G.size) h)
   ·exact h.elim (λh=>Xa (z.lt b h) (WL G.size H.size)) (H.new b)
   ·refine(H.keep b (Xa f G.size) (.inl ?_)).trans (Y b f);rcases hk with hk | ⟨x,a,rfl⟩
    ·exact λM=>hk (q3 b M)
    ·exact X x (K x a)
  have ai: ∀{J':Nat→(Nat→Prop)→World→Prop},J' (j+i+1) O' w→AI J' KO.flatten m W0 (j+(i+1)) (λb=>k b∨O' b) w:=λh=>
   ⟨⟨O',h,λx a M=>X x a (H.old _ (lt2 x (WQ _ a)) M),λb h=> .inr h⟩,λx a=> .inl (z.own x a),λb h=>gr.new b h,WL r.sz H.size,
    ⟨λx a=>(H.keep x.1 (lt2 x a) ((List.mem_append.1 a).elim (λh=> .inr ⟨x,h,rfl⟩) λh=> .inl (X x h))).trans (r.has.obj x a),r.has.nd⟩⟩
  rcases h4 with⟨rfl,h5⟩ | ⟨rfl,h5⟩
  ·refine .inl ⟨rfl,λb' W'' h=>?_⟩;have s3:=zJ h;exact⟨_,gr.trans ⟨s3.size,λ_ _ h=>h,λb h=>Xa (gr.new b h) s3.size,λb f _=>s3.far b f (by simp)⟩,(ai h5).turn hJ (s3.turnA λb _ a _=>by simp at a)⟩
  ·exact .inr ⟨rfl,λb'=>⟨_,gr,rfl,ai h5⟩⟩
 ·intro D k V hD C hA hd;have hI2:jc J KO W0 (LO.map .c++(D::Ds).map mk) (j+ys.length) V:=by
   refine⟨LO++(D::Ds).map (λD=>[dR D]),ko (tQ LO) (qI _),?_⟩;have ef:(LO++(D::Ds).map (λD=>[dR D])).flatten=LO.flatten++dR D::Ds.map dR:=by
    rw[Xu,v5];rfl
   rw[ef];obtain⟨O,q1,X,q3⟩:=hA.ex;have I: ∀x∈KO.flatten++m,x.1≠D:=λx a e=>C (e▸hA.own x a);refine⟨⟨O,q1,λx a=>?_,λb h=>hA.lt b (q3 b h)⟩,hA.sz,⟨λx a=>?_,?_⟩⟩
   ·rcases List.mem_append.1 a with a | a
    ·exact X x (Z x a)
    ·rcases List.mem_cons.1 a with rfl | a
     ·exact λM=>C (q3 _ M)
     ·exact X x (by rw[←d];exact WQ _ a)
   ·rcases List.mem_append.1 a with a | a
    ·exact hA.has.obj x (XI _ a)
    ·rcases List.mem_append.1 a with a | a
     ·exact hA.has.obj x (WQ _ (Z x a))
     ·rcases List.mem_cons.1 a with rfl | a
      ·exact hd
      ·exact hA.has.obj x (WQ _ (by rw[←d];exact WQ _ a))
   ·rw[←d] at I;exact Ud (by rw[d];exact hA.has.nd) I
  obtain⟨R',hC,hO5⟩:=jc.start hI2;refine(hk D R' V hC).out _ V ⟨f.size,f.get,by show jU D::b.defers=_;rw[f.defers];rfl⟩ ?_;rw[XC,W7];exact hO5.out
 ·rintro D c i k V hD C hi ⟨rfl,hA⟩ hd;obtain⟨O,q1,X,q3⟩:=hA.ex;have I: ∀x∈KO.flatten++m,x.1≠D:=λx a e=>C (e▸hA.own x a);have hM:Has ((D::Ds).map dR) V:=by
   refine⟨λx a=>?_,?_⟩
   ·rcases List.mem_cons.1 a with rfl | a
    ·exact hd
    ·exact hA.has.obj x (WQ _ (by rw[←d];exact WQ _ a))
   ·have o:=(List.pairwise_append.1 hA.has.nd).2.1;rw[←d] at o;exact List.pairwise_cons.2 ⟨λx a=>Ne.symm (I x (WQ _ (by rw[←d];exact WQ _ a))),(List.pairwise_append.1 o).2.1⟩
  refine wpIn_ret (gU (hQ _ V (FQ (Ds:=D::Ds) hres (by show jU D::b.defers=_;rw[f.defers];rfl) hM λw hW=> .inr ⟨j+i,?_,O,?_⟩)))
  ·obtain⟨y,hy⟩:=List.getElem?_eq_some_iff.2 ⟨hi,rfl⟩ |>λh=>(⟨_,h⟩: ∃y,ys[i]? =some y);exact(List.getElem?_eq_some_iff.1 (hys i y hy)).1
  ·refine hJx _ O V w q1 (hW.turnA λb _ a hn=>?_);obtain⟨x,s,rfl⟩:=List.mem_map.1 a;refine absurd (λM=>?_) hn;rcases List.mem_cons.1 s with rfl | s
   ·exact C (q3 _ M)
   ·exact X x (by rw[←d];exact WQ _ s) M
def FT(J:Nat→(Nat→Prop)→World→Prop)(KO:List ay)(W0:World)(I:Nat→Prop)(e:Nat→Fe)(a:Nat→aj)(m c:Nat→Nat)(sz:Nat)(st:Fe)(i:Nat)(b:Act)(W:World):Prop:=∃(k:Nat) (E:List Nat) (R:List Nat) (base:World),I k∧Hid (fx J KO W0 (c k) R base)∧m k<i∧Fr ⟨sz,e k++st⟩ E b∧aE R base (a k++E.map mk) W
def zK(P:Program)(J:Nat→(Nat→Prop)→World→Prop)(KO:List ay)(W0:World)(Q:Exit→Act→World→Prop)(S:List It)(I:Nat→Prop)(e:Nat→Fe)(a:Nat→aj)(m c:Nat→Nat)(sz:Nat)(st:Fe)(i:Nat):Exit→Act→World→Prop
 | .normal,b,W=>FT J KO W0 I e a m c sz st i b W
 | x,b,W=>dd Fence.wide 5 P Q S x b W
theorem Uf(I:Nat→Prop)(e:Nat→Fe)(o:Nat→aj→aj)(m c:Nat→Nat)(f:Nat)(h0:I f)(v:Hid (fx J KO W0 (c f) R base))(q:((e f).map λx=>lk es x.1)=(e f).map λx=>some x.2)(w:L=o f L)
  (F: ∀(k:Nat) (E:List Nat) (p:List Nat) (d:World),I k→Hid (fx J KO W0 (c k) p d)→Go Fence.wide 5 P p d (zK P J KO W0 Q (bQ S) I e (λk=>o k L) m c sz (iF S es) (m k)) [.c (fU S)] ⟨sz,e k++iF S es⟩ (o k L) E) (y:m8 S=true:=by kernel_rfl):Go Fence.wide 5 P R base Q S ⟨sz,es⟩ L Ds:=by
 classical
 refine⟨λb W z r=>dD 1000 S ?_⟩;rw[show dg 1000 S=_ from tX y];show(Code.loop (fU S)).wpIn Fence.wide 5 P (dd Fence.wide 5 P Q (bQ S)) b W
 let g:Nat→Act→World→Prop:=FT J KO W0 I e (λk=>o k L) m c sz (iF S es)
 let μ:Act→World→Nat:=λb W=>if h: ∃j,g j b W then XH (kP h) else 0
 have u: ∀b W,(∃j,g j b W)→g (μ b W) b W∧∀i,i<μ b W→¬g i b W:=by
  intro b W h;have e:μ b W=XH (kP h):=dif_pos h;rw[e];exact Classical.choose_spec (kP h)
 refine wpIn_loop (λb W=>∃j,g j b W) μ ⟨m f+1,f,Ds,R,base,h0,v,Nat.lt_succ_self _,Fr.stay (a:=⟨sz,es⟩) z q,by have h:=r;rw[w] at h;exact h⟩ λb W n=>?_;obtain⟨k,E,p,d,B,hC,D,A,r⟩:=(u b W n).1;refine wpIn_mono (show(fU S).wpIn Fence.wide 5 P _ b W from(F k E p d B hC).out b W A r) λe t s q=>?_;cases e with
 | normal=>
  have n:g (m k) t s:=q;exact⟨⟨_,n⟩,Xv (Nat.le_of_not_lt λC=>(u t s ⟨_,n⟩).2 _ C n) D⟩
 | _=>exact q
theorem Ug{I:Nat→Prop}{e:Nat→Fe}{n:Nat→aj}{m c:Nat→Nat}{o:List It}{d:Nat}{st:Fe}{i:Nat}(k:Nat)(q:I k)(hC:Hid (fx J KO W0 (c k) R base))(w:m k<i)(v:((e k++st).map λx=>lk es x.1)=(e k++st).map λx=>some x.2)(f:List Nat)(r:(dc (f.map λp=>[p]).flatten,(f.map λp=>[p]).map λg=>g.map λp=>L[p]?)=(true,((n k).map λx=>[x]).map λN=>N.map some))(t:(nf S).isEmpty=true:=by kernel_rfl)(y:sz=d:=by rfl):
  Go Fence.wide 5 P R base (zK P J KO W0 Q o I e n m c d st i) S ⟨sz,es⟩ L Ds:=by
 subst y;refine⟨λb W u s=>dD 1000 S ?_⟩;rw[show dg 1000 S=[] from List.isEmpty_iff.1 t];exact⟨k,Ds,R,base,q,hC,w,Fr.told (a:=⟨sz,es⟩) u v,s.under λh=>h.pick f _ r⟩
theorem Uh{I:Nat→Prop}{e:Nat→Fe}{h:Nat→aj}{m c:Nat→Nat}{a:List It}{d:Nat}{st:Fe}{i:Nat}(g:Go Fence.wide 5 P R base Q ((jd S a).getD []) ⟨sz,es⟩ L Ds)(n:(jd S a).isSome=true:=by kernel_rfl):Go Fence.wide 5 P R base (zK P J KO W0 Q a I e h m c d st i) S ⟨sz,es⟩ L Ds:=by
 obtain⟨p,f⟩:=Option.isSome_iff_exists.1 n;rw[f] at g;exact⟨λb W o k=>tY f (g.out b W o k) λ_=>rfl⟩
theorem Ui(n:gH J)(s:Hid (fx J KO W0 j R base))(z:j=xs.length)(m:List Nat)
  (hp:(dc (m.map λp=>[p]).flatten,(m.map λp=>[p]).map λg=>g.map λp=>L[p]?)=(true,((KO.map aA.c).map λx=>[x]).map λN=>N.map some):=by kernel_rfl) (d:fn.results.toList=[]:=by kernel_rfl) (v:(nf S).isEmpty=true:=by kernel_rfl):Go Fence.wide 5 P R base (sS P fn J Jx xs.length) S ⟨sz,es⟩ L Ds:=by
 refine⟨λb W y u=>dD 1000 S ?_⟩;rw[show dg 1000 S=[] from List.isEmpty_iff.1 v];have e:aE R base (KO.map .c++Ds.map mk) W:=u.under λh=>h.pick m _ hp;obtain⟨D,f,a⟩:=fx.step s n e;have q:=pA f;rw[q] at a;obtain⟨O,B,C,F⟩:=a.ex;have t:Has (Ds.map dR) W:=⟨λx i=>a.has.obj x (WQ _ i),(List.pairwise_append.1 a.has.nd).2.1⟩;have r:sS P fn J Jx xs.length .ret b W:=FQ (Ds:=Ds) d y.defers t λo w=> .inl ⟨O,by
  rw[←z];refine n _ O W o B (w.turnA λb _ i A=>?_);obtain⟨x,k,rfl⟩:=List.mem_map.1 i;exact absurd (C x k) A⟩
 exact r
end
end
def c7(B M C i:Nat):Nat:=gO M C (i/(B*M*C)) (i%(B*M*C))
def v7(R S B M C:Nat):List Nat:=(WM ((R+S)*(B*M*C))).map (c7 B M C)
theorem Uj{R S B M C k i y:Nat}(c:k<R+S)(h:((WM (B*M*C)).map (gO M C k))[i]? =some y):(v7 R S B M C)[k*(B*M*C)+i]? =some y:=by
 have a:i<B*M*C:=by have:=(List.getElem?_eq_some_iff.1 h).1;simpa using this
 rw[Xm,Xc a,Xz] at h;have b:k*(B*M*C)+i<(R+S)*(B*M*C):=by
  have:(k+1)*(B*M*C)≤(R+S)*(B*M*C):=WU _ c;rw[Xe] at this;omega
 unfold v7;rw[Xm,Xc b,Xz];unfold c7;rw[Xd k,XD Om,WX a,XE,W4 a,Xy];exact h
theorem Uk{R S B M C:Nat}(b:b6 R S B M C)(k:Nat):hold R S B M C (k:Int) 0 0 0=decide ((k:Int)<((R+S:Nat):Int)):=by
 have a:=b.bd;have c:=a.b1;have d:=a.m1;have e:=a.c1;unfold hold bK;rw[cD (show(0:Int)≤(k:Int) by omega),cD (show(0:Int)<(B:Int) by omega),cD (show(0:Int)<(M:Int) by omega),cD (show(0:Int)<(C:Int) by omega)];simp
theorem FU(j R S B M C:Nat)(m:b6 R S B M C):e4 5 WK 103 #[pt j 0] (λ(i:Nat)=>#[iN i]) (v7 R S B M C) (Xj [[(j,.cells #[iN R,iN S,iN B,iN M,iN C] 23 (0,0))]]):=by
 refine Ub (KO:=[[(j,.cells #[iN R,iN S,iN B,iN M,iN C] 23 (0,0))]]) Tryz.func103 (λq O N V T r o G A=>?_);refine ra (λg=>[(2,pt (B0 g) 0)]) (λg=>[ob (B0 g) #[.func (.yield q) #[] #[]] 65]) λg=>r0 [] [(3,i6 0)] [] ?_;refine Uf (KO:=[[(j,.cells #[iN R,iN S,iN B,iN M,iN C] 23 (0,0))]]) (λk=>k≤R+S) (λk=>[(3,iN k)]) (λ_ L=>L) (λk=>R+S-k) (λk=>k*(B*M*C)) 0 Om (by rw[Xx];exact A) Kr Kr (λk E Q U I e=>?_);refine r0 [(0,.l 0),(3,.c [] [] (aa.v (rS R S B M C m (k:Int) 0 0 0) λ_=>ALca Value.bool (Uk m k)))] [(8,.bool (decide ((k:Int)<((R+S:Nat):Int))))] [] ?_;refine bW (k:Int) ((R+S:Nat):Int) (λw n=>?_) λw n=>?_
 ·refine rr (λ_=>[(0,.l 0),(2,.c [] [2,3] (FO R S B M C k))]) (λa=>[(13,.func (.func 101) #[] #[pt (B2 a) 0,pt ((a 2).y 1) 0])]) [] (λa L=>L++[ob (B2 a) #[iN R,iN S,iN B,iN M,iN C] 23,ob ((a 2).y 1) #[iN k] 3]) λa=>?_;have f:k<R+S:=by omega
  have z:=m.bd.r8;refine Ue (encs:=λ(i:Nat)=>#[iN i]) (λy=>[(4,iN y)]) (LO:=[[((g 0).y 0,.cells #[.func (.yield q) #[] #[]] 65 (0,0))],[((a 2).y 0,.cells #[iN R,iN S,iN B,iN M,iN C] 23 (0,0))],[((a 2).y 1,.cells #[iN k] 3 (0,0))]]) (KI:=[[((a 2).y 0,.cells #[iN R,iN S,iN B,iN M,iN C] 23 (0,0))],[((a 2).y 1,.cells #[iN k] 3 (0,0))]]) r o G e (FM (B2 a) ((a 2).y 1) R S B M C k m f) (enters_of Tryz.func101 Kr rfl) (λi y h=>Uj f h) (λb W h=>gU h) Kr [0,1,2,3] (λx J=>List.mem_cons_of_mem _ J) (List.sublist_cons_self _ _) (λK y t v s h=>?asg) (λK y t v s h=>?bod) (λD P u d=>?rest) (λ_=>rfl)
  case asg=>
   refine r0 [] [(4,iN y)] [] ?_;exact FR λb W H p=>h b W H (by simpa using p)
  case bod=>
   refine Uc 2 (λ_=>[(0,.l 1)]) (λ_=>[(15,.func (.yield q) #[] #[]),(16,iN y)]) [] (λ_ L=>L) (vs:=#[iN y]) (λη W F=>h W F) (λη u hA=>?_);refine cF _ rfl ?_;exact FR λb W _ p=>hA b W (by simpa using p)
  case rest=>
   refine r0 [(1,ad k 1)] [(3,i6 ((k+1:Nat):Int))] [3] ?_;exact Ug (k+1) Om (by rw[WR,WO] at d;rw[Xe];exact d) Om Kr [0,1] Kr
 refine Uh ?_;exact Ui r e (by unfold v7;rw[WR,WO,show k=R+S by omega]) [0]
section
theorem FV(R S B M C:Nat):aa WK 67 #[.agg #[iN R,iN S,iN B,iN M,iN C]] [] [] (λE=>[ob (E.y 0) #[iN R,iN S,iN B,iN M,iN C] 23]) (λE=> .func (.func 103) #[] #[pt ((E.y 0)) 0]):=by
 exact fG Tryz.func67 λw cs=>ra (λa=>[(1,pt (B0 a) 0),(2,.nilFunc)]) (λa=>[ob (B0 a) #[iN R,iN S,iN B,iN M,iN C] 23]) λa=>r0 [] [(2,.func (.func 103) #[] #[pt (B0 a) 0])] [2] (lf (.l [(a 0).y 0] [] []) [0] [] [])
theorem FW{R S B M C:Nat}(c:b6 R S B M C){i:Nat}(d:i<(R+S)*(B*M*C)):c7 B M C i<8388608∧fZ R S B M C ((c7 B M C i:Nat):Int)=true:=by
 have b:=c.bd;have l:=b.m1;have k:=b.c1;have f:0<B*M*C:=Nat.pos_of_ne_zero λe=>by rw[e,Nat.mul_zero] at d;omega
 have g:i/(B*M*C)<R+S:=XK (by rw[Xd];exact d);have h:i%(B*M*C)<B*M*C:=Xp _ f;have j:i%(B*M*C)/C/M<B:=by
  rw[Nat.div_div_eq_div_mul];have e:C*M*B=B*M*C:=by rw[Xd (C*M) B,Xd C M,W6]
  exact XK (by rw[e];exact h)
 have a:gb R S B M C (i/(B*M*C)) (i%(B*M*C)/C/M) (i%(B*M*C)/C%M) (i%(B*M*C)%C):=⟨g,j,Xp _ l,Xp _ k⟩;refine⟨uU b a,?_⟩;show fZ R S B M C ((bl _ _ _ _:Nat):Int)=true;rw[←uV];exact zp c a.hold
def gP(c:Cf):Nat→Dv
 | 0=>sD
 | k+1=>iz (gP c k) ((c7 c.B c.M c.C k:Nat):Int) (fS c.E z6 ((c7 c.B c.M c.C k:Nat):Int) false) (bif false then 1 else 0)
theorem zL(c:Cf): ∀k,gN c (gP c k).D∧(∀i,((gP c k).Y i).length=72)∧(gP c k).l.length≤k
 | 0=>⟨RM c,λ_=>WN,Xk _⟩
 | k+1=>by
  obtain⟨a,b,d⟩:=zL c k;refine⟨E0 a _ (sG _ WN _ _),sA b _ (sG _ WN _ _),?_⟩;show((gP c k).l++[_]).length≤k+1;rw[W5];exact WW d
theorem Ul(c:Cf)(k:Nat):gP c (k+1)=iz (gP c k) ((c7 c.B c.M c.C k:Nat):Int) (fS c.E z6 ((c7 c.B c.M c.C k:Nat):Int) false) (bif false then 1 else 0):=rfl
attribute [local irreducible] gP
theorem Um(gd ge:Nat)(c:Cf)(V:Dv):aa WK 113 #[pt ge 0] [pk (bk gd ge c V)] [0] (λ_=>[pk (bk gd ge c V)]) (λ_=> .agg #[iN c.R,iN c.S,iN c.B,iN c.M,iN c.C]):=
 aa.inW (RO ge c V.D) λL ⟨gm,a,v,e⟩=>⟨1,by rw[e];rfl,gm,a,v,by rw[e];rfl⟩
theorem FX(gd ge:Nat)(c:Cf)(V:Dv):aa WK 107 #[pt ge 0] [pk (bk gd ge c V)] [0] (λ_=>[pk (bk gd ge c V)]) (λ_=>iN c.E):=
 aa.inW (y9 ge c V.D) λL ⟨gm,a,v,e⟩=>⟨1,by rw[e];rfl,gm,a,v,by rw[e];rfl⟩
theorem Un(gd ge:Nat)(c:Cf)(d:cr c):aa WK 82 #[.agg (cA c),pt gd 0] [pk (bk gd ge c (gP c 0))] [0] (λE=>[pk (bk gd ge c (gP c ((c.R+c.S)*(c.B*c.M*c.C)))),ob (E.y 0) #[pt ((E.y 1)) 0,pt gd 0,pt ((E.y 2)) 0,i6 0,.slice none 0 0] 119,ob (E.y 1) #[iN c.R,iN c.S,iN c.B,iN c.M,iN c.C,iN c.G,iN c.res,iN c.E,iN c.lr,iN c.er,iN c.lp,iN c.ep,iN c.K,iN c.J,iN c.log,.bool c.X,pt ((E.y 3)) 0,pt ((E.y 4)) 0,pt ((E.y 5)) 0,i6 0] 122,pk (dJ (E.y 2)),pk (ar (E.y 3) (((E.y 6))) (((E.y 7))) ⟨kX c.R c.S c.B c.M c.C c.G c.res,kb,[]⟩),pk (aD (E.y 4) (((E.y 8))) (pd c.lr c.er c.lp c.ep c.K c.J c.R)),pk (az (E.y 5) (o7 c.log))]) (λE=> .tuple #[pt ((E.y 0)) 0,i6 0]):=by
 have p:=d.O;have v:(c.R+c.S)*(c.B*c.M*c.C)≤4096:=by have u:=p.bd.all;rwa [W6,W6,←W6 c.B] at u
 have x:z6.length=64:=WN;refine fG Tryz.func82 λw cs=>ra (λo=>[(2,pt (B0 o) 0),(4,.pointer none),(5,i6 0)]) (λo=>[ob (B0 o) (cA c) 31]) λo=>rF [(0,.l 1),(1,.c [] [] (yQ c d))] 10 (rF [(1,.c [0] [0] (zw gd ge c (gP c 0))),(2,.c [0] [0] (Um gd ge c (gP c 0))),(5,.l 1),(6,.t (TH.cast (iE 23 λ_ _ _=>ja (xs:=[iN c.R,iN c.S,iN c.B,iN c.M,iN c.C]) (ys:=[iN c.R,iN c.S,iN c.B,iN c.M,iN c.C]) Kr bg) (show Value.bool (!((c.R:Int)==(c.R:Int)&&((c.S:Int)==(c.S:Int)&&((c.B:Int)==(c.B:Int)&&((c.M:Int)==(c.M:Int)&&((c.C:Int)==(c.C:Int)&&true))))))= .bool false from ALca Value.bool (by simp))))] 14 (rF [(1,.c [0] [0] (zw gd ge c (gP c 0))),(2,.c [0] [0] (FX gd ge c (gP c 0))),(4,.l 1),(5,.t (tk (show Value.bool ((c.E:Int) != (c.E:Int))= .bool false from ALca Value.bool (by simp))))] 22 (rr (λ_=>[(0,.l 1),(1,.c [] [2,3,4,5] (QD c d))]) (λa=>[(6,pt ((B1 a)) 0),(7,i6 0)]) [] (λa L=>L++[ob (B1 a) #[iN c.R,iN c.S,iN c.B,iN c.M,iN c.C,iN c.G,iN c.res,iN c.E,iN c.lr,iN c.er,iN c.lp,iN c.ep,iN c.K,iN c.J,iN c.log,.bool c.X,pt (((a 1).y 1)) 0,pt (((a 1).y 2)) 0,pt (((a 1).y 3)) 0,i6 0] 122,pk (ar ((a 1).y 1) (((a 1).y 4)) (((a 1).y 5)) ⟨kX c.R c.S c.B c.M c.C c.G c.res,kb,[]⟩),pk (aD ((a 1).y 2) (((a 1).y 6)) (pd c.lr c.er c.lp c.ep c.K c.J c.R)),pk (az ((a 1).y 3) (o7 c.log))]) λa=>rF [] 35 (rr (λ_=>[(2,.c [] [6] (Sd)),(6,.s 8)]) (λb=>[(8,pt (B5 b) 0)]) [] (λb L=>L++[pk (dJ (B2 b)),ob (B4 b) #[pt ((B1 a)) 0,pt gd 0,pt ((B2 b)) 0,i6 0,.slice none 0 0] 119,ob (B5 b) #[pt (B4 b) 0] 37]) λb=>rr (λ_=>[(2,.l 1),(3,.c [] [9] (FV c.R c.S c.B c.M c.C))]) (λh=>[(45,.func (.func 103) #[] #[pt ((B3 h)) 0])]) [] (λh L=>L++[ob (B3 h) #[iN c.R,iN c.S,iN c.B,iN c.M,iN c.C] 23]) λh=>?_))));refine oP (encs:=λ(i:Nat)=>#[iN i]) (xs:=(WM ((c.R+c.S)*(c.B*c.M*c.C))).map (c7 c.B c.M c.C)) (KO:=[[((B3 h),.cells #[iN c.R,iN c.S,iN c.B,iN c.M,iN c.C] 23 (0,0))]]) (FU (B3 h) c.R c.S c.B c.M c.C p) (enters_of Tryz.func103 Kr rfl) (λk=>k≤(c.R+c.S)*(c.B*c.M*c.C)) (λk L=>L.set 0 ((pk (bk gd ge c (gP c k))))) [9] Om Kr (λD k F z B r e=>?_) (λy e=>?_)
 ·obtain⟨g,rfl⟩:=lK r;have j:=FW p g;have m:=j.1;have n:=j.2;have f:=zL c k;have q:nE c (gP c k):=⟨f.1,f.2.1,WL f.2.2 Om⟩;refine r0 [] [(9,i6 ((c7 c.B c.M c.C k:Nat):Int))] [] ?_;refine ag [9] (λA C=>?_);exact rs [(0,.l 8),(3,.c [7,2,6,0] [6,0] (pn (B4 b) (B1 a) ((a 1).y 1) ((a 1).y 2) ((a 1).y 3) gd ge (B2 b) c d 0 0 (.slice none 0 0) (gP c k) q (c7 c.B c.M c.C k) m n z6 bg false))] 0 ((pk (bk gd ge c (iz (gP c k) ((c7 c.B c.M c.C k):Int) (fS c.E z6 ((c7 c.B c.M c.C k):Int) false) (bif false then 1 else 0))))) (ne _ ⟨Om,rfl⟩ [0,1,2,3,4,5,6,7,8,9] (by rw[Ul];kernel_rfl))
 refine cl [pk (bk gd ge c (gP c ((c.R+c.S)*(c.B*c.M*c.C)))),ob (B0 o) (cA c) 31,ob (B1 a) #[iN c.R,iN c.S,iN c.B,iN c.M,iN c.C,iN c.G,iN c.res,iN c.E,iN c.lr,iN c.er,iN c.lp,iN c.ep,iN c.K,iN c.J,iN c.log,.bool c.X,pt (((a 1).y 1)) 0,pt (((a 1).y 2)) 0,pt (((a 1).y 3)) 0,i6 0] 122,pk (ar ((a 1).y 1) (((a 1).y 4)) (((a 1).y 5)) ⟨kX c.R c.S c.B c.M c.C c.G c.res,kb,[]⟩),pk (aD ((a 1).y 2) (((a 1).y 6)) (pd c.lr c.er c.lp c.ep c.K c.J c.R)),pk (az ((a 1).y 3) (o7 c.log)),pk (dJ (B2 b)),ob (B4 b) #[pt ((B1 a)) 0,pt gd 0,pt ((B2 b)) 0,i6 0,.slice none 0 0] 119,ob (B5 b) #[pt (B4 b) 0] 37,ob (B3 h) #[iN c.R,iN c.S,iN c.B,iN c.M,iN c.C] 23] (by rw[WR,WO];kernel_rfl) ?_;simp only[WR,WO] at e;exact r0 [(0,.l 8)] [(4,pt (B4 b) 0),(5,i6 0)] [4,5] (lf (.l [(b 4).y 0,(B1 a),(B2 b),((a 1).y 1),((a 1).y 2),((a 1).y 3),(a 1).y 4,(a 1).y 5,(a 1).y 6] [] []) [0,7,2,6,3,4,5] [] [])
end
theorem aa.outsP{P:Program}{f:FuncId}{args:Array Value}{rd:aj}{O:List Nat}{wt wt':ab→aj}{v:ab→Value}(h:aa P f args rd O wt v)(o: ∀E ds,bt (wt E) ds→∃a,bt (wt' E) a∧XG a.flatten ds.flatten):aa P f args rd O wt' v:=
 ⟨h.ent,λw cs m l=>(callsIn_wide (n:=6)).1 ((callsIn_wide.2 (h.out w cs m l)).mono λe p k=>by
  obtain⟨E,ds,g,i,b⟩:=k;obtain⟨a,j,c⟩:=o E ds i;exact⟨E,a,g,j,⟨b.os,b.tape,b.output,b.size,λx d=>b.obj x (c.mem_iff.1 d),λx d=>b.new x (c.mem_iff.1 d),(c.pairwise_iff (λ{x y} h=>Ne.symm h)).2 b.nd,b.far⟩⟩)⟩
theorem Uo{ds:List ay}{is js:List Nat}(h:XG is js):XG (is.map λi=>ds.getD i []).flatten (js.map λi=>ds.getD i []).flatten:=(h.map _).flatten
def sT(c:Cf):Ct:=⟨⟨⟨kX c.R c.S c.B c.M c.C c.G c.res,kb,[]⟩,pd c.lr c.er c.lp c.ep c.K c.J c.R,o7 c.log,0⟩,0,[],gP c ((c.R+c.S)*(c.B*c.M*c.C))⟩
def bc(c:Cf):Mc:=⟨sT c,λ_=>po,[],[],0,0⟩
theorem Up(gd ge:Nat)(c:Cf)(j:cr c):aa WK 82 #[.agg (cA c),pt gd 0] [pk (bk gd ge c sD)] [0] (λE=>[pk (aQ (E.y 0) (E.y 1) (E.y 3) (E.y 6) (E.y 7) (E.y 4) (E.y 8) (E.y 5) gd ge (E.y 2) c (sT c))]) (λE=> .tuple #[pt (E.y 0) 0,i6 0]):=by
 refine(Un gd ge c j).outsP λE ds a=>?_;obtain⟨b,_,rfl,k,a⟩:=et a;obtain⟨d,_,rfl,l,a⟩:=et a;obtain⟨e,_,rfl,m,a⟩:=et a;obtain⟨f,_,rfl,n,a⟩:=et a;obtain⟨g,_,rfl,o,a⟩:=et a;obtain⟨h,_,rfl,p,a⟩:=et a;obtain⟨i,_,rfl,q,a⟩:=et a;obtain rfl:=oD a;refine⟨[([d,e,g,h,i,f,b,[]]:List ay).flatten],⟨⟨_,[d,e,g,h,i,f,b,[]],⟨.slice none 0 0,rfl⟩,⟨l,m,o,p,q,n,k,aq.nil none,trivial⟩,rfl⟩,trivial⟩,?_⟩;have hp:=Uo (ds:=[b,d,e,f,g,h,i]) (is:=[1,2,4,5,6,3,0]) (js:=[0,1,2,3,4,5,6]) Dc;simpa using hp
theorem Uq(c:Cf)(e:cr c):aa WK 48 #[.agg (cA c)] [] [] (λE=>[ob (E.y 0) #[pt ((E.y 10)) 0,pt ((E.y 1)) 0,.map (some (E.y 2)),.slice none 0 0,.slice none 0 0,i6 0,i6 0] 114,pk (aQ (E.y 1) ((E.y 3)) ((E.y 4)) ((E.y 5)) ((E.y 6)) ((E.y 7)) ((E.y 8)) ((E.y 9)) ((E.y 10)) ((E.y 11)) ((E.y 12)) c (sT c)),Ww (λ_=>po) (E.y 2)]) (λE=> .tuple #[pt ((E.y 0)) 0,i6 0]):=by
 exact fG Tryz.func48 λw cs=>ra (λf=>[(1,pt (B0 f) 0),(2,.pointer none),(3,i6 0)]) (λf=>[ob (B0 f) (cA c) 31]) λf=>rr (λ_=>[(2,.l 0),(4,.l 0),(5,.c [] [1] (Sc c e))]) (λb=>[(4,pt ((B5 b)) 0),(5,i6 0)]) [] (λb L=>L++[pk (bk (B5 b) ((b 5).y 1) c sD)]) λb=>rF [] 17 (rr (λ_=>[(0,.l 0),(2,.c [1] [1] (Up (B5 b) ((b 5).y 1) c e))]) (λa=>[(6,pt ((B2 a)) 0),(5,i6 0)]) [5] (λa L=>L.set 1 ((pk (aQ (B2 a) ((a 2).y 1) ((a 2).y 3) ((a 2).y 6) ((a 2).y 7) ((a 2).y 4) ((a 2).y 8) ((a 2).y 5) (B5 b) ((b 5).y 1) ((a 2).y 2) c (sT c))))) λa=>rF [] 26 (rr (λ_=>[(2,.m (mm 2 vW po))]) (λd=>[(2,pt (B4 d) 0),(3,i6 0)]) [2,3] (λd L=>L++[Ww (λ_=>po) (B2 d),ob (B4 d) #[pt ((B5 b)) 0,pt ((B2 a)) 0,.map (some (B2 d)),.slice none 0 0,.slice none 0 0,i6 0,i6 0] 114]) λd=>lf (.l [(d 4).y 0,(B2 a),(d 2).y 0,(a 2).y 1,(a 2).y 3,(a 2).y 6,(a 2).y 7,(a 2).y 4,(a 2).y 8,(a 2).y 5,(b 5).y 0,(b 5).y 1,(a 2).y 2] [] []) [3,1,2] [] []))
theorem Ur{R S B M C way a:Nat}(h:ij R S B M C way a):ba (kX R S B M C way a):=
 ⟨h,WO,WN,WN,W8 _,W8 _,λi c=>by
  show(WM _).getD i 0<_;have b:i<R*B*M-a:=c;rw[WS,Xc b];show i<R*B*M;omega,λi c=> .inl (by
  show(WJ R (-1:Int)).getD i 0= -1;have b:i<R:=c;rw[WS,Xf,ALifp b];rfl)⟩
theorem FY{α:Type}(n i:Nat)(d:α):(WJ n d).getD i d=d:=by
 rw[WS,Xf]
 split<;>rfl
theorem Us{ev:Nat}(h:1≤ev):eY ev bj.l bj.a:=⟨W8 _,h⟩
theorem Ut{c:Cf}(h:cr c):c0 (sT c).s 1:=by
 refine⟨⟨Ur h.ly,⟨.inl rfl⟩,λa d=>absurd d Xr,W8 _,⟨λx _=>FY _ _ _⟩⟩,⟨h.r,h.p,h.h1,h.h2,?_,λi b=>?_,⟨W8 _,h.m1,h.m2,λi b=>absurd b (Xs _)⟩⟩,⟨W8 _,h.l1,h.l2,by show 1≤1000000000;omega⟩,Xk _,WN⟩
 ·have e:=h.O.bd.r8;show(WJ c.R bj).length≤8;rw[WN];omega
 ·show eY c.er ((WJ c.R bj).getD i bj).l ((WJ c.R bj).getD i bj).a;rw[FY];exact Us h.r.e1
theorem Uu{c:Cf}(h:cr c):ez c (bc c) 1 4096 0:=by
 have b:=h.O.bd;have a:(c.R+c.S)*(c.B*c.M*c.C)≤4096:=by have g:=b.all;rwa [W6,W6,←W6 c.B] at g
 obtain⟨d,e,f⟩:=zL c ((c.R+c.S)*(c.B*c.M*c.C));refine⟨⟨h,Ut h,d,e,WL f a,W8 _,⟨rfl,rfl,rfl,rfl,rfl,rfl,rfl⟩,λq=>absurd rfl q,?_,W8 _⟩,λ_=>WN,W8 _,W8 _,W8 _,W8 _⟩;have:=h.ly.rp;exact Nat.mul_pos Om b.c1
theorem Uv(c:Cf)(a:cr c):aa WK 48 #[.agg (cA c)] [] [] (λE=>[pk (aH (E.y 0) (E.y 1) (E.y 3) (E.y 4) (E.y 5) (E.y 6) (E.y 7) (E.y 8) (E.y 9) (E.y 10) (E.y 11) (E.y 12) c (bc c))]) (λE=> .tuple #[pt (E.y 0) 0,i6 0]):=
 (Uq c a).outs λE d b=>E4 ⟨_,_,_,rfl⟩ b
theorem Uw{j k:Nat}(b:k≤j)(h:(((2^j:Nat):Int)==((2^k:Nat):Int))=false):k+1≤j:=by
 rcases Nat.lt_or_ge k j with a | a
 ·exact a
 ·obtain rfl:k=j:=Nat.le_antisymm b a;simp at h
theorem FZ{j k a:Nat}(b:k≤j)(h:2^j≤a):((2^k:Nat):Int)≤(a:Int):=by
 have:=Nat.pow_le_pow_right (n:=2) Dc b;omega
theorem Ux(j a:Nat)(h:2^j≤a)(i:a≤1024):aa WK 111 #[i6 ((2^j:Nat):Int),iN a] [] [] N0 (λ_=> .bool true):=by
 refine fG Tryz.func111 λw cs=>r0 [] [(4,.bool false)] [] (r0 [] [(5,i6 1)] [] ?_);refine lq (λk=>k≤j) (λk=>[(5,i6 ((2^k:Nat):Int))]) (λ_ L=>L) (λk=>j-k) 0 Om Kr Kr (λk c=>?_);have d:=c;have f:=FZ d h;refine rT [(2,.t (tk (show Value.bool (decide (((2^k:Nat):Int)≤(a:Int)))= .bool true from ALca Value.bool (by exact cD (FZ As h)))))] 8 (r0 [] [(13,.bool (((2^j:Nat):Int)==((2^k:Nat):Int)))] [] ?_);refine cN ((2^j:Nat):Int) ((2^k:Nat):Int) (λe b=>?_) λe b=>?_
 ·exact r0 [] [(4,.bool true)] [] (lf ab.zero [] [] [])
 refine r0 [(1,ml (2^k) 2)] [(5,i6 (((2^k)*2:Nat):Int))] [5] ?_;have g:k+1≤j:=Uw As As;exact le (k+1) Om Om Kr [] Kr
theorem Uy{n b:Nat}(f:b≤1024)(h:fq (n:Int) (b:Int)=true): ∃j,n=2^j∧2^j≤b:=by
 have c:=Dd Om h;have d:=mK h;simp only[List.mem_cons,Xr,or_false] at c;have a: ∀j,n=2^j→∃j,n=2^j∧2^j≤b:=λj e=>⟨j,e,by rw[←e];omega⟩;rcases c with h | h | h | h | h | h | h | h | h | h | h
 ·exact a 0 h
 ·exact a 1 h
 ·exact a 2 h
 ·exact a 3 h
 ·exact a 4 h
 ·exact a 5 h
 ·exact a 6 h
 ·exact a 7 h
 ·exact a 8 h
 ·exact a 9 h
 ·exact a 10 h
theorem v8(n a:Nat)(b:a≤1024)(h:fq (n:Int) (a:Int)=true):aa WK 111 #[iN n,iN a] [] [] N0 (λ_=> .bool true):=by
 obtain⟨j,rfl,c⟩:=Uy b h;exact Ux j a c b
structure Uz (R S B M C:Nat):Prop where
 r:fq (R:Int) 8=true
 b:fq (B:Int) 16=true
 m:fq (M:Int) 1024=true
 c:fq (C:Int) 64=true
theorem b6.p{R S B M C:Nat}(h:b6 R S B M C):Uz R S B M C:=by
 have h:=h.ok;unfold ji at h;simp only[Xq,decide_eq_true_eq] at h;obtain⟨⟨⟨⟨⟨⟨a,e⟩,f⟩,b⟩,c⟩,d⟩,g⟩:=h;exact⟨a,b,c,d⟩
theorem UA(R S B M C:Nat)(g:b6 R S B M C):aa WK 80 #[.agg #[iN R,iN S,iN B,iN M,iN C]] [] [] N0 (λ_=> .bool true):=by
 have b:=g.p;have a:=g.bd;have l:=a.r8;have i:=a.b16;have h:=a.m10;have j:=a.c64;have e:=a.all;have f:(R+S)*B*M≤4096:=WL (Xg _ a.c1) e;have k:(R+S)*B≤4096:=WL (Xg _ a.m1) f;exact fG Tryz.func80 λw cs=>ra (λd=>[(1,pt (B0 d) 0),(2,.bool false)]) (λd=>[ob (B0 d) #[iN R,iN S,iN B,iN M,iN C] 170]) λd=>rF [(1,.m (ld 0 (iN R))),(2,.c [] [] (v8 R 8 Om (by exact b.r))),(6,.m (ld 0 (iN B))),(7,.c [] [] (v8 B 16 Om (by exact b.b))),(12,.m (ld 0 (iN M))),(13,.c [] [] (v8 M 1024 Om (by exact b.m))),(18,.m (ld 0 (iN C))),(19,.c [] [] (v8 C 64 Om (by exact b.c))),(24,.m (ld 0 (iN S))),(25,.t (tk (show Value.bool (decide ((S:Int)<0))= .bool false from ALca Value.bool (by exact bf Om)))),(29,.m (ld 0 (iN S))),(31,.m (ld 0 (iN R))),(32,sI 8 ((R:Int)) Om),(33,.t (tk (show Value.bool (decide ((8-(R:Int))<(S:Int)))= .bool false from ALca Value.bool (by exact bf Om))))] 37 (r0 [(1,.m (ld 0 (iN R))),(3,.m (ld 0 (iN S))),(4,ad R S),(6,.m (ld 0 (iN B))),(7,ml (R+S) B),(9,.m (ld 0 (iN M))),(10,ml ((R+S)*B) M),(12,.m (ld 0 (iN C))),(13,ml (((R+S)*B)*M) C),] [(2,.bool (decide ((((((R+S)*B)*M)*C:Nat):Int)≤4096)))] [2] (ao (.bool (decide ((((((R+S)*B)*M)*C:Nat):Int)≤4096))) ab.zero (by exact ALca Value.bool (cD Om)) [] [] []))
theorem UB(r s b m c way g mode n j k i a heavy f:Int)(e:Bool)(h:mQ r s b m c way g mode n j k i a heavy f=false):aa WK 47 #[.agg #[i6 r,i6 s,i6 b,i6 m,i6 c,i6 way,i6 g,i6 mode,i6 n,i6 j,i6 k,i6 i,i6 a,i6 heavy,i6 f,.bool e]] [] [] N0 (λ_=> .bool false):=by
 exact fG Tryz.func47 λw cs=>ra (λo=>[(1,pt (B0 o) 0),(2,.bool false)]) (λo=>[ob (B0 o) #[i6 r,i6 s,i6 b,i6 m,i6 c,i6 way,i6 g,i6 mode,i6 n,i6 j,i6 k,i6 i,i6 a,i6 heavy,i6 f,.bool e] 31]) λo=>rr (λ_=>[(2,.l 0),(4,.s 1)]) (λp=>[(3,pt (B3 p) 0)]) [] (λp L=>L++[ob (B3 p) #[i6 r,i6 s,i6 b,i6 m,i6 c] 23]) λp=>r0 [(0,.m (ls 0 ([i6 r,i6 s,i6 b,i6 m,i6 c,i6 way,i6 g,i6 mode,i6 n,i6 j,i6 k,i6 i,i6 a,i6 heavy,i6 f,.bool e]))),(1,.c [] [] (aa.v ((En r s b m c way g mode n j k i a heavy f e)) λ_=>ALca Value.bool (show(mQ r s b m c way g mode n j k i a heavy f)=false from(by exact h)))),(3,.d),(4,.d),(7,.d),(8,.d),(9,.d),(10,.d),(11,.d),(12,.d),(13,.d),(14,.d),(15,.d),(16,.d),(17,.d),(18,.d),(19,.d),(20,.d),(21,.d)] [(2,.bool false)] [2] (lf ab.zero [] [] [])
theorem F0(c:Cf)(b:cr c):aa WK 47 #[.agg (cA c)] [] [] N0 (λ_=> .bool (decide ((((((c.R+c.S)*c.B)*c.M)*c.C:Nat):Int)≤100))):=by
 have h:=b.O;have a:=h.bd;have j:=a.r8;have f:=a.all;have g:(c.R+c.S)*c.B*c.M≤4096:=WL (Xg _ a.c1) f;have i:(c.R+c.S)*c.B≤4096:=WL (Xg _ a.m1) g;exact fG Tryz.func47 λw cs=>ra (λd=>[(1,pt (B0 d) 0),(2,.bool false)]) (λd=>[ob (B0 d) (cA c) 31]) λd=>rr (λ_=>[(2,.l 0),(4,.s 1)]) (λe=>[(3,pt (B3 e) 0)]) [] (λe L=>L++[ob (B3 e) #[iN c.R,iN c.S,iN c.B,iN c.M,iN c.C] 23]) λe=>r0 [(0,.m (ls 0 ([iN c.R,iN c.S,iN c.B,iN c.M,iN c.C,iN c.G,iN c.res,iN c.E,iN c.lr,iN c.er,iN c.lp,iN c.ep,iN c.K,iN c.J,iN c.log,.bool c.X]))),(1,.c [] [] (yQ c b)),(3,.m (ls 1 ([iN c.R,iN c.S,iN c.B,iN c.M,iN c.C]))),(4,.c [] [] (UA c.R c.S c.B c.M c.C h)),(8,.m (ld 1 (iN c.R))),(10,.m (ld 1 (iN c.S))),(11,ad c.R c.S),(13,.m (ld 1 (iN c.B))),(14,ml (c.R+c.S) c.B),(16,.m (ld 1 (iN c.M))),(17,ml ((c.R+c.S)*c.B) c.M),(19,.m (ld 1 (iN c.C))),(20,ml (((c.R+c.S)*c.B)*c.M) c.C),] [(2,.bool (decide ((((((c.R+c.S)*c.B)*c.M)*c.C:Nat):Int)≤100)))] [2] (lf ab.zero [] [] [])
def mV(c:Cf):Bool:=decide ((c.R+c.S)*c.B*c.M*c.C≤100)
theorem F1(r s b m c way f mode k i j g a heavy e:Int)(d:Bool)(h:mQ r s b m c way f mode k i j g a heavy e=false):aa WK 12 #[.agg #[i6 r,i6 s,i6 b,i6 m,i6 c,i6 way,i6 f,i6 mode,i6 k,i6 i,i6 j,i6 g,i6 a,i6 heavy,i6 e,.bool d]] [] [] N0 (λ_=> .pointer none):=by
 exact fG Tryz.func12 λw cs=>ra (λn=>[(1,pt (B0 n) 0),(2,.pointer none)]) (λn=>[ob (B0 n) #[i6 r,i6 s,i6 b,i6 m,i6 c,i6 way,i6 f,i6 mode,i6 k,i6 i,i6 j,i6 g,i6 a,i6 heavy,i6 e,.bool d] 31]) λn=>rT [(0,.l 0),(1,.c [] [] (UB r s b m c way f mode k i j g a heavy e d h))] 7 (r0 [] [(2,.pointer none)] [2] (lf ab.zero [] [] []))
theorem F2(x:Int):aa WK 173 #[i6 x] [] [] N0 (λ_=> .agg (rB 3 ([aR x,aR (x/256),(aR (x/65536))&&& (127:UInt8)])).toArray):=by
 exact fG Tryz.func173 λw cs=>ra (λe=>[(2,pt (B0 e) 0)]) (λe=>[ob (B0 e) (rB 3 (WJ 3 0)).toArray 262]) λe=>rs [(1,.t (tc (k:= .i64) (l:= .u8) (a:=i6 x) λ_ _ _ c d=>oB c d)),(3,.t (tv (av .shr 3 (.tmp 5) (.const (u6 8)) (i6 x) (u6 8)) (λ_=>iD 8 Dc))),(4,.t (tc (k:= .i64) (l:= .u8) (a:=i6 (x/256)) λ_ _ _ c d=>oB c d)),(6,.t (tv (av .shr 3 (.tmp 8) (.const (u6 16)) (i6 x) (u6 16)) (λ_=>iD 16 Dc))),(7,.t (tc (k:= .i64) (l:= .u8) (a:=i6 (x/65536)) λ_ _ _ c d=>oB c d)),(8,.t (tb (a:=u1 ((aR (x/65536)).toNat:Int)) (b:=u1 127) λ_ _ _ _=>wV (aR (x/65536)) ((127:UInt8)))),(10,.s 0)] 0 (ob (B0 e) (rB 3 ([aR x,aR (x/256),(aR (x/65536))&&& (127:UInt8)])).toArray 262) (lf ab.zero [] [] [0])
def oz(mode:Nat)(a b:Int):Bool:=(bif (mode:Int)==1 then((pc ((a%8388608).toNat)%2:Nat):Int) != ((pc ((b%8388608).toNat)%2:Nat):Int) else !(decide ([aR a,aR (a/256),(aR (a/65536))&&& (127:UInt8)]=[aR b,aR (b/256),(aR (b/65536))&&& (127:UInt8)])))
theorem UC(mode:Nat)(a b:Int):aa WK 135 #[iN mode,i6 a,i6 b] [] [] N0 (λ_=> .bool (oz mode a b)):=by
 refine fG Tryz.func135 λw cs=>r0 [] [(6,.bool false)] [] (r0 [] [(8,.bool ((mode:Int)==1))] [] ?_);refine cN (mode:Int) 1 (λe d=>?_) λe d=>?_
 ·exact r0 [(1,.c [] [] (uJ a)),(3,.c [] [] (uJ b))] [(6,.bool (((pc ((a%8388608).toNat)%2:Nat):Int) != ((pc ((b%8388608).toNat)%2:Nat):Int)))] [6] (ao (.bool (((pc ((a%8388608).toNat)%2:Nat):Int) != ((pc ((b%8388608).toNat)%2:Nat):Int))) ab.zero (by((try simp only[oz]);(repeat (first | rw[e] | rw[ALct])))<;>rfl) [] [] [])
 exact r0 [(1,.c [] [] (F2 a)),(3,.c [] [] (F2 b)),(4,.t (iE 262 λ_ _ _=>ja (xs:=rB 3 ([aR a,aR (a/256),(aR (a/65536))&&& (127:UInt8)])) (ys:=rB 3 ([aR b,aR (b/256),(aR (b/65536))&&& (127:UInt8)])) Kr (iZ (show([aR a,aR (a/256),(aR (a/65536))&&& (127:UInt8)]).length=3 by rfl) (show([aR b,aR (b/256),(aR (b/65536))&&& (127:UInt8)]).length=3 by rfl))))] [(6,.bool (!(decide ([aR a,aR (a/256),(aR (a/65536))&&& (127:UInt8)]=[aR b,aR (b/256),(aR (b/65536))&&& (127:UInt8)]))))] [6] (ao (.bool (!(decide ([aR a,aR (a/256),(aR (a/65536))&&& (127:UInt8)]=[aR b,aR (b/256),(aR (b/65536))&&& (127:UInt8)])))) ab.zero (by((try simp only[oz]);(repeat (first | rw[e] | rw[ALcf])))<;>rfl) [] [] [])
def sU(a:Int)(x:Ac):Int:=(bif !(nG x) then max a (bif x.mr then(x.ex+1) else x.ex) else a)
def sX(a:Bool)(x:Ac):Bool:=(bif !(nG x) then a else true)
def sY(dr:Bool)(x:Ac):Bool:=(bif !(nG x) then dr else(dr||x.dr)||(decide (0<x.ex)))
def sZ(tl:Bool)(mode:Nat)(x:Ac):Bool:=(bif !(nG x) then tl else(bif ((!x.wr)&&(!x.dr))&&(!(oz mode x.ix x.wt)) then false else tl))
theorem UD(e:Int)(b d f:Bool)(mode:Nat)(x:Ac)(h0:0≤x.ex)(h1:x.ex≤1000000):aa WK 108 #[.agg #[i6 e,.bool b,.bool d,.bool f],iN mode,.agg #[.bool x.wr,i6 x.ix,i6 x.wt,.bool x.dr,i6 x.ex,.bool x.mr]] [] [] N0 (λ_=> .agg #[i6 (sU e x),.bool (sX b x),.bool (sY d x),.bool (sZ f mode x)]):=by
 refine fG Tryz.func108 λw cs=>ra (λa=>[(3,pt (B0 a) 0),(5,pt (B1 a) 0),(6,pt (B2 a) 0)]) (λa=>[ob (B0 a) #[i6 e,.bool b,.bool d,.bool f] 166,ob (B1 a) #[.bool x.wr,i6 x.ix,i6 x.wt,.bool x.dr,i6 x.ex,.bool x.mr] 90,ob (B2 a) #[i6 0,.bool false,.bool false,.bool false] 166]) λa=>r0 [(0,.l 1),(1,.c [] [] (Sb x))] [(10,.bool (!(nG x)))] [] ?_;refine cB (!(nG x)) (λh=>?_) λh=>?_
 ·refine r0 [(1,.l 1)] [(7,i6 x.ex)] [] (r0 [(1,.l 1)] [(14,.bool x.mr)] [] ?_);refine cJ (x.mr) (λc=>[(7,i6 (bif c then(x.ex+1) else x.ex))]) (λ_=>[ob (B0 a) #[i6 e,.bool b,.bool d,.bool f] 166,ob (B1 a) #[.bool x.wr,i6 x.ix,i6 x.wt,.bool x.dr,i6 x.ex,.bool x.mr] 90,ob (B2 a) #[i6 0,.bool false,.bool false,.bool false] 166]) (λi=>?_) (λi=>?_) ?_
  ·refine r0 [(1,aI x.ex (1) Om)] [(7,i6 (x.ex+1))] [7] ?_;exact cm Kr [0,1,2] Kr
  ·exact cm Kr [0,1,2] Kr
  exact rs [(1,.l 0),(3,.t (tv (Builtin.max_ #[3,3] 3 #[i6 e,i6 (bif x.mr then(x.ex+1) else x.ex)]) (λ_=>qR _ _ _ _))),(5,.s 0)] 0 (ob (B0 a) #[i6 (max e (bif x.mr then(x.ex+1) else x.ex)),.bool b,.bool d,.bool f] 166) (rs [(0,.l 0),(1,.s 2)] 2 (ob (B2 a) #[i6 (max e (bif x.mr then(x.ex+1) else x.ex)),.bool b,.bool d,.bool f] 166) (ao (.agg #[i6 (max e (bif x.mr then(x.ex+1) else x.ex)),.bool b,.bool d,.bool f]) ab.zero (by((try simp only[sU,sX,sY,sZ]);(repeat (first | rw[h] | rw[ALct])))<;>rfl) [] [] [2]))
 refine rs [(1,.s 0)] 0 (ob (B0 a) #[i6 e,.bool true,.bool d,.bool f] 166) (rs [(1,.m (ld 0 (.bool d))),(5,.m (ld 1 (.bool x.dr))),(9,.m (ld 1 (i6 x.ex))),(13,.s 0)] 0 (ob (B0 a) #[i6 e,.bool true,.bool ((d||x.dr)||(decide (0<x.ex))),.bool f] 166) (r0 [(1,.m (ld 1 (.bool x.wr))),(6,.m (ld 1 (.bool x.dr))),(12,.m (ld 1 (i6 x.ix))),(15,.m (ld 1 (i6 x.wt))),(16,.c [] [] (UC mode x.ix x.wt))] [(55,.bool (((!x.wr)&&(!x.dr))&&(!(oz mode x.ix x.wt))))] [] ?_));refine cJ (((!x.wr)&&(!x.dr))&&(!(oz mode x.ix x.wt))) N0 (λc=>[ob (B0 a) #[i6 e,.bool true,.bool ((d||x.dr)||(decide (0<x.ex))),.bool (bif c then false else f)] 166,ob (B1 a) #[.bool x.wr,i6 x.ix,i6 x.wt,.bool x.dr,i6 x.ex,.bool x.mr] 90,ob (B2 a) #[i6 0,.bool false,.bool false,.bool false] 166]) (λg=>?_) (λg=>?_) ?_
 ·refine rr (λ_=>[(1,.s 0)]) N0 [] (λ_ L=>L.set 0 (ob (B0 a) #[i6 e,.bool true,.bool ((d||x.dr)||(decide (0<x.ex))),.bool false] 166)) λj=>?_;exact cm Kr [0,1,2] Kr
 ·exact cm Kr [0,1,2] Kr
 exact rs [(0,.l 0),(1,.s 2)] 2 (ob (B2 a) #[i6 e,.bool true,.bool ((d||x.dr)||(decide (0<x.ex))),.bool (bif ((!x.wr)&&(!x.dr))&&(!(oz mode x.ix x.wt)) then false else f)] 166) (ao (.agg #[i6 e,.bool true,.bool ((d||x.dr)||(decide (0<x.ex))),.bool (bif ((!x.wr)&&(!x.dr))&&(!(oz mode x.ix x.wt)) then false else f)]) ab.zero (by((try simp only[sU,sX,sY,sZ]);(repeat (first | rw[h] | rw[ALcf])))<;>rfl) [] [] [2])
section
section
variable {f:FuncId} {args:Array Value} {v:ab→Value} {g gc gl gr gm gq gk gt gg gd ge go:Nat} {c:Cf} {x:Mc} {y:Ct}
theorem l8(h:aa WK f args [pk (aQ gc gl gr gm gq gk gt gg gd ge go c x.x)] [0] (λ_=>[pk (aQ gc gl gr gm gq gk gt gg gd ge go c x.x)]) v):aa WK f args [pk (aH g gc gl gr gm gq gk gt gg gd ge go c x)] [0] (λ_=>[pk (aH g gc gl gr gm gq gk gt gg gd ge go c x)]) v:=
 aa.inW h λL ⟨gi,a,vs,e⟩=>⟨1,by rw[e];rfl,gi,a,vs,by rw[e];rfl⟩
theorem s0(h:aa WK f args [pk (ar gr gm gq y.s.r)] [0] (λ_=>[pk (ar gr gm gq y.s.r)]) v):aa WK f args [pk (aQ gc gl gr gm gq gk gt gg gd ge go c y)] [0] (λ_=>[pk (aQ gc gl gr gm gq gk gt gg gd ge go c y)]) v:=
 aa.inW h λL ⟨u,e⟩=>⟨2,by rw[e];rfl,u,by rw[e];rfl⟩
theorem UE(h:aa WK f args [pk (az gg y.s.g)] [0] (λ_=>[pk (az gg y.s.g)]) v):aa WK f args [pk (aQ gc gl gr gm gq gk gt gg gd ge go c y)] [0] (λ_=>[pk (aQ gc gl gr gm gq gk gt gg gd ge go c y)]) v:=
 aa.inW h λL ⟨u,e⟩=>⟨4,by rw[e];rfl,u,by rw[e];rfl⟩
theorem F3(h:aa WK f args [pk (bk gd ge c y.V)] [0] (λ_=>[pk (bk gd ge c y.V)]) v):aa WK f args [pk (aQ gc gl gr gm gq gk gt gg gd ge go c y)] [0] (λ_=>[pk (aQ gc gl gr gm gq gk gt gg gd ge go c y)]) v:=
 aa.inW h λL ⟨u,e⟩=>⟨6,by rw[e];rfl,u,by rw[e];rfl⟩
end
theorem UF(gc gl gr gm gq gk gt gg gd ge go:Nat)(c:Cf)(x:Ct):aa WK 22 #[pt gc 0] [pk (aQ gc gl gr gm gq gk gt gg gd ge go c x)] [0] (λ_=>[pk (aQ gc gl gr gm gq gk gt gg gd ge go c x)]) (λ_=>pt gr 0):=aa.pkZ Tryz.func22 λL a=>by
 obtain⟨v,rfl⟩:=a;refine⟨[2,3,4,5,6,7],λ_=>[pk (ar gr gm gq x.s.r),pk (aD gk gt x.s.k),pk (az gg x.s.g),pk (dJ go),pk (bk gd ge c x.V),b3 v x.ns],?_,rfl,λE=>⟨rfl,rfl,⟨_,rfl⟩⟩⟩;exact fG Tryz.func22 λw cs=>r0 [] [(2,.pointer none)] [] (r0 [(3,.l 0),(6,.l 1)] [(2,pt gr 0)] [2] (lf ab.zero [2,3,4,5,6,7] [(0,0),(1,1)] []))
theorem UG(gc gl gr gm gq gk gt gg gd ge go:Nat)(c:Cf)(x:Ct):aa WK 14 #[pt gc 0] [pk (aQ gc gl gr gm gq gk gt gg gd ge go c x)] [0] (λ_=>[pk (aQ gc gl gr gm gq gk gt gg gd ge go c x)]) (λ_=>pt gg 0):=aa.pkZ Tryz.func14 λL a=>by
 obtain⟨v,rfl⟩:=a;refine⟨[2,3,4,5,6,7],λ_=>[pk (ar gr gm gq x.s.r),pk (aD gk gt x.s.k),pk (az gg x.s.g),pk (dJ go),pk (bk gd ge c x.V),b3 v x.ns],?_,rfl,λE=>⟨rfl,rfl,⟨_,rfl⟩⟩⟩;exact fG Tryz.func14 λw cs=>r0 [] [(2,.pointer none)] [] (r0 [(3,.l 0),(6,.l 1)] [(2,pt gg 0)] [2] (lf ab.zero [2,3,4,5,6,7] [(0,0),(1,1)] []))
theorem F4(g gc gl gr gm gq gk gt gg gd ge go:Nat)(c:Cf)(x:Mc):aa WK 13 #[pt g 0] [pk (aH g gc gl gr gm gq gk gt gg gd ge go c x)] [0] (λ_=>[pk (aH g gc gl gr gm gq gk gt gg gd ge go c x)]) (λ_=>pt gc 0):=aa.pkZ Tryz.func13 λL a=>by
 obtain⟨gi,b,vs,rfl⟩:=a;refine⟨[1,2,3,4],λ_=>[pk (aQ gc gl gr gm gq gk gt gg gd ge go c x.x),Ww x.id gi,gp b x.inj,dj vs x.sv],?_,rfl,λE=>⟨rfl,rfl,⟨_,_,_,rfl⟩⟩⟩;exact fG Tryz.func13 λw cs=>r0 [] [(2,.pointer none)] [] (r0 [(3,.l 0)] [(2,pt gc 0)] [2] (lf ab.zero [1,2,3,4] [(0,0)] []))
theorem v9(g gc gl gr gm gq gk gt gg gd ge go:Nat)(c:Cf)(x:Mc):aa WK 30 #[pt g 0] [pk (aH g gc gl gr gm gq gk gt gg gd ge go c x)] [0] (λ_=>[pk (aH g gc gl gr gm gq gk gt gg gd ge go c x)]) (λ_=>pt gd 0):=aa.pkZ Tryz.func30 λL a=>by
 obtain⟨gi,b,vs,rfl⟩:=a;refine⟨[1,2,3,4],λ_=>[pk (aQ gc gl gr gm gq gk gt gg gd ge go c x.x),Ww x.id gi,gp b x.inj,dj vs x.sv],?_,rfl,λE=>⟨rfl,rfl,⟨_,_,_,rfl⟩⟩⟩;exact fG Tryz.func30 λw cs=>r0 [] [(2,.pointer none)] [] (r0 [(3,.l 0)] [(2,pt gd 0)] [2] (lf ab.zero [1,2,3,4] [(0,0)] []))
theorem UH(g gc gl gr gm gq gk gt gg gd ge go:Nat)(c:Cf)(x:Mc):aa WK 22 #[pt gc 0] [pk (aH g gc gl gr gm gq gk gt gg gd ge go c x)] [0] (λ_=>[pk (aH g gc gl gr gm gq gk gt gg gd ge go c x)]) (λ_=>pt gr 0):=l8 (UF gc gl gr gm gq gk gt gg gd ge go c x.x)
theorem UI(g gc gl gr gm gq gk gt gg gd ge go:Nat)(c:Cf)(x:Mc):aa WK 14 #[pt gc 0] [pk (aH g gc gl gr gm gq gk gt gg gd ge go c x)] [0] (λ_=>[pk (aH g gc gl gr gm gq gk gt gg gd ge go c x)]) (λ_=>pt gg 0):=l8 (UG gc gl gr gm gq gk gt gg gd ge go c x.x)
theorem UJ(g gc gl gr gm gq gk gt gg gd ge go:Nat)(c:Cf)(x:Mc):aa WK 20 #[pt gg 0] [pk (aH g gc gl gr gm gq gk gt gg gd ge go c x)] [0] (λ_=>[pk (aH g gc gl gr gm gq gk gt gg gd ge go c x)]) (λ_=>iN x.x.s.g.l.length):=l8 (UE (D8 gg x.x.s.g))
theorem UK(g gc gl gr gm gq gk gt gg gd ge go:Nat)(c:Cf)(x:Mc)(a:aK x.x.s.r):aa WK 23 #[pt gr 0] [pk (aH g gc gl gr gm gq gk gt gg gd ge go c x)] [0] (λ_=>[pk (aH g gc gl gr gm gq gk gt gg gd ge go c x)]) (λ_=>pt gm 0):=l8 (s0 (sk gr gm gq x.x.s.r a))
theorem UL(g gc gl gr gm gq gk gt gg gd ge go:Nat)(c:Cf)(x:Mc)(a:aK x.x.s.r):aa WK 63 #[pt gm 0] [pk (aH g gc gl gr gm gq gk gt gg gd ge go c x)] [0] (λ_=>[pk (aH g gc gl gr gm gq gk gt gg gd ge go c x)]) (λ_=> .agg #[iN x.x.s.r.m.R,iN x.x.s.r.m.S,iN x.x.s.r.m.B,iN x.x.s.r.m.M,iN x.x.s.r.m.C,iN x.x.s.r.m.G,iN x.x.s.r.m.res]):=l8 (s0 (yR gr gm gq x.x.s.r a))
theorem UM(g gc gl gr gm gq gk gt gg gd ge go:Nat)(c:Cf)(x:Mc)(a:aK x.x.s.r)(p:Nat)(hp:p<x.x.s.r.m.R*x.x.s.r.m.B*x.x.s.r.m.M):aa WK 25 #[pt gm 0,iN p] [pk (aH g gc gl gr gm gq gk gt gg gd ge go c x)] [0] (λ_=>[pk (aH g gc gl gr gm gq gk gt gg gd ge go c x)]) (λ_=> .bool (x.x.s.r.m.P.getD p false)):=l8 (s0 (QF gr gm gq x.x.s.r a p hp))
theorem UN(g gc gl gr gm gq gk gt gg gd ge go:Nat)(c:Cf)(x:Mc)(a:aK x.x.s.r)(p:Nat)(hp:p<x.x.s.r.m.R):aa WK 26 #[pt gm 0,iN p] [pk (aH g gc gl gr gm gq gk gt gg gd ge go c x)] [0] (λ_=>[pk (aH g gc gl gr gm gq gk gt gg gd ge go c x)]) (λ_=> .tuple #[i6 (jN x.x.s.r.m p),.bool (cy x.x.s.r.m p)]):=l8 (s0 (QG gr gm gq x.x.s.r a p hp))
theorem UO(g gc gl gr gm gq gk gt gg gd ge go:Nat)(c:Cf)(x:Mc)(a:aK x.x.s.r)(p:Nat)(hp:p<x.x.s.r.m.R*x.x.s.r.m.B*x.x.s.r.m.M):aa WK 64 #[pt gm 0,iN p] [pk (aH g gc gl gr gm gq gk gt gg gd ge go c x)] [0] (λ_=>[pk (aH g gc gl gr gm gq gk gt gg gd ge go c x)]) (λ_=> .tuple #[i6 (aO x.x.s.r.m p:Int),i6 0]):=l8 (s0 (Eo gr gm gq x.x.s.r a p hp))
theorem UP(g gc gl gr gm gq gk gt gg gd ge go:Nat)(c:Cf)(x:Mc):aa WK 42 #[pt gd 0] [pk (aH g gc gl gr gm gq gk gt gg gd ge go c x)] [0] (λ_=>[pk (aH g gc gl gr gm gq gk gt gg gd ge go c x)]) (λ_=>iN x.x.V.l.length):=l8 (k9 gc gl gr gm gq gk gt gg gd ge go c x.x)
theorem F5(g gc gl gr gm gq gk gt gg gd ge go:Nat)(c:Cf)(x:Mc):aa WK 36 #[pt gd 0] [pk (aH g gc gl gr gm gq gk gt gg gd ge go c x)] [0] (λ_=>[pk (aH g gc gl gr gm gq gk gt gg gd ge go c x)]) (λ_=>pt ge 0):=l8 (F3 (zw gd ge c x.x.V))
theorem UQ(g gc gl gr gm gq gk gt gg gd ge go:Nat)(c:Cf)(x:Mc):aa WK 107 #[pt ge 0] [pk (aH g gc gl gr gm gq gk gt gg gd ge go c x)] [0] (λ_=>[pk (aH g gc gl gr gm gq gk gt gg gd ge go c x)]) (λ_=>iN c.E):=l8 (F3 (FX gd ge c x.x.V))
end
section
theorem UR{α:Type}{a b d e f g c i j k l m n h o p q r:List α}:(Xj [a,b,d,c]).Sublist (Xj [a,b,([o,([i,j,k,l,m,n,([d,e,f,g,c]:List (List α)).flatten,h]:List (List α)).flatten,p,q,r]:List (List α)).flatten]):=by
 simp only[Xn,XA,W9];refine List.Sublist.append (List.Sublist.refl _) (List.Sublist.append (List.Sublist.refl _) ?_);have s:(d++c).Sublist (d++(e++(f++(g++c)))):=List.Sublist.append (List.Sublist.refl _) ((WT g c).trans ((WT f _).trans (WT e _)));have t:(d++(e++(f++(g++c)))).Sublist (d++(e++(f++(g++c)))++h):=Xo _ _;have u:(d++(e++(f++(g++c)))++h).Sublist (i++(j++(k++(l++(m++(n++(d++(e++(f++(g++c)))++h))))))):=
  (WT n _).trans ((WT m _).trans ((WT l _).trans ((WT k _).trans ((WT j _).trans (WT i _)))))
 exact(s.trans (t.trans u)).trans ((Xo _ _).trans (WT o _))
theorem US(e f n g s w B y A u C t i p z:Nat)(c:Cf)(x:Mc)(F:x.x.V.l.length≤1000000)(m:n≤1000000)(bs:ay)(h:qS (aH g s w B y A u C t i p z c x) bs):e4 5 WK 60 #[pt e 0,pt f 0] (λ(x:Nat×Ac)=>#[i6 (x.1:Int),.agg #[.bool (x.2.wr),i6 (x.2.ix),i6 (x.2.wt),.bool (x.2.dr),i6 (x.2.ex),.bool (x.2.mr)]]) ((WM (x.x.V.l.length-n)).map λk=>(n+k,x.x.V.l.getD (n+k) e3)) (Xj [[(e,.cells #[iN n] 3 (0,0))],[(f,.cells #[pt i 0] 84 (0,0))],bs]):=by
 obtain⟨L,Q,⟨gi,vj,vs,rfl⟩,d,rfl⟩:=h;obtain⟨K,_,rfl,h0,d⟩:=et d;obtain⟨M,_,rfl,D,d⟩:=et d;obtain⟨N,_,rfl,h2,d⟩:=et d;obtain⟨O,_,rfl,h3,d⟩:=et d;obtain⟨P,_,rfl,h4,d⟩:=et d;obtain rfl:=oD d;obtain⟨I,Z,⟨v1,rfl⟩,a,rfl⟩:=D;obtain⟨R,_,rfl,i0,a⟩:=et a;obtain⟨S,_,rfl,i1,a⟩:=et a;obtain⟨T,_,rfl,i2,a⟩:=et a;obtain⟨U,_,rfl,i3,a⟩:=et a;obtain⟨V,_,rfl,i4,a⟩:=et a;obtain⟨W,_,rfl,i5,a⟩:=et a;obtain⟨X,_,rfl,o,a⟩:=et a;obtain⟨Y,_,rfl,i7,a⟩:=et a;obtain rfl:=oD a;obtain⟨J,fs,⟨l,j,v,rfl⟩,b,rfl⟩:=o;obtain⟨q,_,rfl,G,b⟩:=et b;obtain⟨f1,_,rfl,j1,b⟩:=et b;obtain⟨f2,_,rfl,j2,b⟩:=et b;obtain⟨f3,_,rfl,j3,b⟩:=et b;obtain⟨r,_,rfl,H,b⟩:=et b;obtain rfl:=oD b;obtain rfl:q=_:=G;exact(R9 e f i p l j n v x.x.V.l r (aq.sq H) F m).mono UR
structure Lk where
 ex:Int
 ast:Bool
 dr:Bool
 tl:Bool
def UT:Lk:=⟨0,false,false,true⟩
def F6(mode:Nat)(l:Lk)(x:Ac):Lk:=⟨sU l.ex x,sX l.ast x,sY l.dr x,sZ l.tl mode x⟩
def dq(mode:Nat)(l:List Ac):Nat→Lk
 | 0=>UT
 | k+1=>F6 mode (dq mode l k) (l.getD (0+k) e3)
theorem UU(mode:Nat)(l:List Ac)(k:Nat):dq mode l (k+1)=F6 mode (dq mode l k) (l.getD (0+k) e3):=rfl
theorem UW(mode:Nat)(l:List Ac):dq mode l 0=⟨0,false,false,true⟩:=rfl
attribute [local irreducible] dq
theorem UX(g e j p m o i q h a f n:Nat)(c:Cf)(x:Mc)(N:x.x.V.l.length≤900000)(F: ∀k,0≤(x.x.V.l.getD k e3).ex∧(x.x.V.l.getD k e3).ex≤1000000):aa WK 77 #[pt g 0,i6 0,iN x.x.V.l.length] [pk (aH g e j p m o i q h a f n c x)] [0] (λ_=>[pk (aH g e j p m o i q h a f n c x)]) (λ_=> .agg #[i6 ((dq c.E x.x.V.l (x.x.V.l.length-0)).ex),.bool ((dq c.E x.x.V.l (x.x.V.l.length-0)).ast),.bool ((dq c.E x.x.V.l (x.x.V.l.length-0)).dr),.bool ((dq c.E x.x.V.l (x.x.V.l.length-0)).tl)]):=by
 refine fG Tryz.func77 λw cs=>ra (λr=>[(5,pt (B0 r) 0),(6,pt (B1 r) 0)]) (λr=>[ob (B0 r) #[iN x.x.V.l.length] 3,ob (B1 r) #[i6 0,.bool false,.bool false,.bool false] 166]) λr=>rr (λ_=>[(2,.s 3)]) (λv=>[(7,pt (B1 v) 0)]) [] (λv L=>L++[ob (B1 v) #[i6 0,.bool false,.bool false,.bool true] 166]) λv=>rr (λ_=>[(1,.c [0] [0] (v9 g e j p m o i q h a f n c x)),(2,.c [0] [0] (F5 g e j p m o i q h a f n c x)),(3,.c [0] [0] (UQ g e j p m o i q h a f n c x)),(5,.s 4)]) (λB=>[(8,pt (B4 B) 0)]) [] (λB L=>L++[ob (B4 B) #[iN c.E] 3]) λB=>rr (λ_=>[(1,.c [0] [0] (v9 g e j p m o i q h a f n c x)),(3,.c [] [5,6] (Sa a 0))]) (λb=>[(19,.func (.func 60) #[] #[pt ((B3 b)) 0,pt (((b 3).y 1)) 0])]) [] (λb L=>L++[ob (B3 b) #[i6 ((0:Nat):Int)] 3,ob ((b 3).y 1) #[pt a 0] 84]) λb=>?_;refine ck 0 (qS (aH g e j p m o i q h a f n c x)) (λd y=>?_);refine oP (encs:=λ(x:Nat×Ac)=>#[i6 (x.1:Int),.agg #[.bool (x.2.wr),i6 (x.2.ix),i6 (x.2.wt),.bool (x.2.dr),i6 (x.2.ex),.bool (x.2.mr)]]) (xs:=(WM (x.x.V.l.length-0)).map (λk=>(0+k,x.x.V.l.getD (0+k) e3))) (KO:=[[((B3 b),.cells #[i6 ((0:Nat):Int)] 3 (0,0))],[(((b 3).y 1),.cells #[pt a 0] 84 (0,0))],d]) (US (B3 b) ((b 3).y 1) 0 g e j p m o i q h a f n c x Om Om d y) (enters_of Tryz.func60 Kr rfl) (λk=>k≤x.x.V.l.length-0) (λk L=>L.set 3 (ob (B1 v) #[i6 ((dq c.E x.x.V.l k).ex),.bool ((dq c.E x.x.V.l k).ast),.bool ((dq c.E x.x.V.l k).dr),.bool ((dq c.E x.x.V.l k).tl)] 166)) [5,6,0] Om (by rw[UW];kernel_rfl) (λO k P I K C z=>?_) (λH z=>?_)
 ·obtain⟨A,rfl⟩:=lK C;have D:=A;have G:=F (0+k);refine r0 [] [(9,i6 ((0+k:Nat):Int))] [] (rr (λ_=>[(1,.s 7)]) (λu=>[(10,pt (B0 u) 0)]) [] (λu L=>L++[ob (B0 u) #[.bool ((x.x.V.l.getD (0+k) e3).wr),i6 ((x.x.V.l.getD (0+k) e3).ix),i6 ((x.x.V.l.getD (0+k) e3).wt),.bool ((x.x.V.l.getD (0+k) e3).dr),i6 ((x.x.V.l.getD (0+k) e3).ex),.bool ((x.x.V.l.getD (0+k) e3).mr)] 90]) λu=>?_);refine ag [5,6,0] (λJ M=>?_);exact rF [(1,.l 1),(2,.t (tk (show Value.bool (decide ((x.x.V.l.length:Int)≤((0+k:Nat):Int)))= .bool false from ALca Value.bool (by exact bf Om))))] 24 (rs [(0,.l 3),(1,.l 4),(2,.l 7),(3,.c [] [] (UD ((dq c.E x.x.V.l k).ex) ((dq c.E x.x.V.l k).ast) ((dq c.E x.x.V.l k).dr) ((dq c.E x.x.V.l k).tl) c.E (x.x.V.l.getD (0+k) e3) Om Om)),(4,.s 3)] 3 (ob (B1 v) #[i6 (sU ((dq c.E x.x.V.l k).ex) (x.x.V.l.getD (0+k) e3)),.bool (sX ((dq c.E x.x.V.l k).ast) (x.x.V.l.getD (0+k) e3)),.bool (sY ((dq c.E x.x.V.l k).dr) (x.x.V.l.getD (0+k) e3)),.bool (sZ ((dq c.E x.x.V.l k).tl) c.E (x.x.V.l.getD (0+k) e3))] 166) (ne _ ⟨Om,rfl⟩ [0,1,2,3,4,5,6] (by rw[UU];kernel_rfl)))
 refine cl [.c d,ob (B0 r) #[iN x.x.V.l.length] 3,ob (B1 r) #[i6 0,.bool false,.bool false,.bool false] 166,ob (B1 v) #[i6 ((dq c.E x.x.V.l (x.x.V.l.length-0)).ex),.bool ((dq c.E x.x.V.l (x.x.V.l.length-0)).ast),.bool ((dq c.E x.x.V.l (x.x.V.l.length-0)).dr),.bool ((dq c.E x.x.V.l (x.x.V.l.length-0)).tl)] 166,ob (B4 B) #[iN c.E] 3,ob (B3 b) #[i6 ((0:Nat):Int)] 3,ob ((b 3).y 1) #[pt a 0] 84] (by rw[WR,WO];kernel_rfl) ?_;simp only[WR,WO] at z;exact cw 0 (.c d) ((pk (aH g e j p m o i q h a f n c x))) (cP y) (rs [(0,.l 3),(1,.s 2)] 2 (ob (B1 r) #[i6 ((dq c.E x.x.V.l (x.x.V.l.length-0)).ex),.bool ((dq c.E x.x.V.l (x.x.V.l.length-0)).ast),.bool ((dq c.E x.x.V.l (x.x.V.l.length-0)).dr),.bool ((dq c.E x.x.V.l (x.x.V.l.length-0)).tl)] 166) (lf ab.zero [0] [] [2]))
end
theorem UY{p:Nat→Prop}{k:Nat}(h: ∀j,j<k→p j)(c:p k): ∀j,j<k+1→p j:=λj b=>by
 rcases Nat.lt_succ_iff_lt_or_eq.1 b with a | rfl
 ·exact h j a
 ·exact c
def qm(mode:Nat)(l:List Ac):Bool:=(!(dq mode l (l.length-0)).ast)&&decide ((dq mode l (l.length-0)).ex≤1)
structure zM (l:List Ac):Prop where
 ex: ∀k,0≤(l.getD k e3).ex∧(l.getD k e3).ex≤1000000
theorem UZ(g a h m i k f n e b d j:Nat)(c:Cf)(x:Mc)(p:x.x.V.l.length≤900000)(q:zM x.x.V.l):aa WK 41 #[pt g 0] [pk (aH g a h m i k f n e b d j c x)] [0] (λ_=>[pk (aH g a h m i k f n e b d j c x)]) (λ_=> .bool (qm c.E x.x.V.l)):=by
 exact fG Tryz.func41 λw cs=>r0 [] [(2,.bool false)] [] (rr (λ_=>[(2,.c [0] [0] (v9 g a h m i k f n e b d j c x)),(3,.c [0] [0] (UP g a h m i k f n e b d j c x)),(4,.c [0] [0] (UX g a h m i k f n e b d j c x p q.ex)),(6,.s 1)]) (λo=>[(3,pt (B5 o) 0)]) [] (λo L=>L++[ob (B5 o) #[i6 ((dq c.E x.x.V.l (x.x.V.l.length-0)).ex),.bool ((dq c.E x.x.V.l (x.x.V.l.length-0)).ast),.bool ((dq c.E x.x.V.l (x.x.V.l.length-0)).dr),.bool ((dq c.E x.x.V.l (x.x.V.l.length-0)).tl)] 166]) λo=>r0 [(1,.l 1),(5,.l 1)] [(2,.bool ((!((dq c.E x.x.V.l (x.x.V.l.length-0)).ast))&&(decide (((dq c.E x.x.V.l (x.x.V.l.length-0)).ex)≤1))))] [2] (ao (.bool ((!((dq c.E x.x.V.l (x.x.V.l.length-0)).ast))&&(decide (((dq c.E x.x.V.l (x.x.V.l.length-0)).ex)≤1)))) ab.zero bg [0] [] []))
structure Wq (q:List Sv):Prop where
 l: ∀k,(q.getD k zG).l.length=64
 w: ∀k,(q.getD k zG).w.length=64
section
theorem F7{c:Cf}{b:Bool}(h:mV c=b):decide ((((((c.R+c.S)*c.B)*c.M)*c.C:Nat):Int)≤100)=b:=by
 rw[←h];unfold mV;exact decide_eq_decide.2 Om
theorem F8(c:Cf)(b:cr c)(hs:mV c=false):aa WK 12 #[.agg (cA c)] [] [] N0 (λ_=> .pointer none):=by
 exact fG Tryz.func12 λw cs=>ra (λa=>[(1,pt (B0 a) 0),(2,.pointer none)]) (λa=>[ob (B0 a) (cA c) 31]) λa=>rT [(0,.l 0),(1,.c [] [] (aa.v ((F0 c b)) λ_=>ALca Value.bool (show(decide ((((((c.R+c.S)*c.B)*c.M)*c.C:Nat):Int)≤100))=false from(by exact F7 hs))))] 7 (r0 [] [(2,.pointer none)] [2] (lf ab.zero [] [] []))
theorem nJ(c:Cf)(b:cr c)(hs:mV c=true):aa WK 12 #[.agg (cA c)] [] [] (λE=>[pk (aH (E.y 0) ((E.y 1)) ((E.y 2)) ((E.y 3)) ((E.y 4)) ((E.y 5)) ((E.y 6)) ((E.y 7)) ((E.y 8)) ((E.y 9)) ((E.y 10)) ((E.y 11)) c (bc c))]) (λE=>pt ((E.y 0)) 0):=by
 exact fG Tryz.func12 λw cs=>ra (λd=>[(1,pt (B0 d) 0),(2,.pointer none)]) (λd=>[ob (B0 d) (cA c) 31]) λd=>rF [(0,.l 0),(1,.c [] [] (aa.v ((F0 c b)) λ_=>ALca Value.bool (show(decide ((((((c.R+c.S)*c.B)*c.M)*c.C:Nat):Int)≤100))=true from(by exact F7 hs))))] 7 (rr (λ_=>[(0,.l 0),(1,.c [] [1] (Uv c b))]) (λa=>[(3,pt ((B1 a)) 0),(4,i6 0)]) [] (λa L=>L++[pk (aH (B1 a) ((a 1).y 1) ((a 1).y 3) ((a 1).y 4) ((a 1).y 5) ((a 1).y 6) ((a 1).y 7) ((a 1).y 8) ((a 1).y 9) ((a 1).y 10) ((a 1).y 11) ((a 1).y 12) c (bc c))]) λa=>rF [] 14 (r0 [] [(2,pt ((B1 a)) 0)] [2] (lf (.l [(B1 a),(a 1).y 1,(a 1).y 3,(a 1).y 4,(a 1).y 5,(a 1).y 6,(a 1).y 7,(a 1).y 8,(a 1).y 9,(a 1).y 10,(a 1).y 11,(a 1).y 12] [] []) [1] [] [])))
theorem U0:aa WK 45 #[] [] [] N0 (λ_=> .agg #[i6 1,i6 0,i6 1,i6 2,i6 2,i6 0,i6 0,i6 1,i6 9,i6 9,i6 9,i6 9,i6 2,i6 2,i6 4,.bool true]):=by
 exact fG Tryz.func45 λw cs=>ra (λa=>[(0,pt (B0 a) 0)]) (λa=>[ob (B0 a) #[i6 0,i6 0,i6 0,i6 0,i6 0,i6 0,i6 0,i6 0,i6 0,i6 0,i6 0,i6 0,i6 0,i6 0,i6 0,.bool false] 31]) λa=>rr (λ_=>[(2,.s 1)]) (λb=>[(1,pt (B1 b) 0)]) [] (λb L=>L++[ob (B1 b) #[i6 9,i6 9] 27]) λb=>rs [(2,.l 1),(3,.l 1),(6,.s 0)] 0 (ob (B0 a) #[i6 1,i6 0,i6 1,i6 2,i6 2,i6 0,i6 0,i6 1,i6 9,i6 9,i6 9,i6 9,i6 2,i6 2,i6 4,.bool true] 31) (lf ab.zero [] [] [0])
theorem U1(a b:Nat)(m:Mp)(d:ba m)(k:Nat)(e:k<m.R*m.B*m.M):e4 5 WK 100 #[pt a 0,pt b 0] (λ(i:Nat)=>#[iN i]) ((WM m.C).map λj=>aO m k*64+j) (Xj [[(a,.cells #[i6 (aO m k:Int)] 3 (0,0))],[(b,.cells #[iN m.R,iN m.S,iN m.B,iN m.M,iN m.C] 23 (0,0))]]):=by
 have c:=nw d e;have h:=T6 a b m.R m.S m.B m.M m.C (aO m k) _ _ _ d.O (ou m k 0) ⟨c.h0,c.h1,c.h2,d.O.bd.c1⟩;rwa [show(bl (eX m k) (cQ m.G m.R m.B m.M k) (cV m.G m.R m.B m.M k))=λj=>aO m k*64+j from funext λj=>(ou m k j).symm] at h
def gD(m:Mp):Nat→List Nat
 | 0=>[]
 | k+1=>bif m.P.getD k false then gD m k++(WM m.C).map (λz=>aO m k*64+z) else gD m k
def dB(m:Mp):Nat→List Nat
 | 0=>gD m (m.R*m.B*m.M)
 | k+1=>bif cy m k then dB m k++(WM (m.B*m.M*m.C)).map (gO m.M m.C k) else dB m k
theorem U2(m:Mp):gD m 0=[]:=rfl
theorem zN(m:Mp)(k:Nat):gD m (k+1)=bif m.P.getD k false then gD m k++(WM m.C).map (λz=>aO m k*64+z) else gD m k:=rfl
theorem U3(m:Mp):dB m 0=gD m (m.R*m.B*m.M):=rfl
theorem wa(m:Mp)(k:Nat):dB m (k+1)=bif cy m k then dB m k++(WM (m.B*m.M*m.C)).map (gO m.M m.C k) else dB m k:=rfl
theorem zO(m:Mp): ∀k,(gD m k).length≤k*m.C
 | 0=>W8 _
 | k+1=>by
  have h:=zO m k;rw[zN,Xe];cases m.P.getD k false
  ·exact WL h (XB _ _)
  ·rw[ALct,W5,WR,WO];omega
theorem F9(m:Mp): ∀k,(dB m k).length≤m.R*m.B*m.M*m.C+k*(m.B*m.M*m.C)
 | 0=>WL (zO m _) (XB _ _)
 | k+1=>by
  have h:=F9 m k;rw[wa,Xe];cases cy m k
  ·exact WL h (Nat.add_le_add_left (XB _ _) _)
  ·rw[ALct,W5,WR,WO];omega
theorem U4{m:Mp}(a:b6 m.R m.S m.B m.M m.C){k:Nat}(b:k≤m.R*m.B*m.M):(gD m k).length≤4096:=
 WL (zO m k) (WL (WU _ b) a.bd.rbmc)
theorem Ga{m:Mp}(a:b6 m.R m.S m.B m.M m.C){k:Nat}(b:k≤m.R):(dB m k).length≤8192:=by
 have c:=F9 m k;have d:=a.bd.rbmc;have e:k*(m.B*m.M*m.C)≤m.R*(m.B*m.M*m.C):=WU _ b;have f:m.R*(m.B*m.M*m.C)=m.R*m.B*m.M*m.C:=by rw[←W6,←W6]
 omega
theorem Gb(m:Mp)(k:Nat):gD m (k+1)=bif (!(m.P.getD k false))||false then gD m k else gD m k++(WM m.C).map (λz=>aO m k*64+z):=by
 rw[zN];cases m.P.getD k false<;>rfl
attribute [local irreducible] gD dB
theorem Gc{α:Type}(f:Nat→α):(WM 0).map f=[]:=rfl
theorem Gd{α:Type}(f:Nat→α)(k:Nat)(l:List α):l++(WM (k+1)).map f=(l++(WM k).map f)++[f k]:=by rw[List.range_succ,XC,W7];rfl
theorem U5(g t B F o D A G y u v C:Nat)(c:Cf)(x:Mc)(hr:aK x.x.s.r):aa WK 34 #[pt g 0] [pk (aH g t B F o D A G y u v C c x)] [0] (λE=>[pk (aH g t B F o D A G y u v C c x),bo (E.val 0) (dB x.x.s.r.m x.x.s.r.m.R)]) (λE=>(E.val 0)):=by
 have q:=hr;have H:=hr.m;have O:=H.O;have h88:=O.bd.r8;have hnp:=H.np;have hrp5:=H.ly.rp;have hc64:=O.bd.c64;have hbmc:=O.bd.bmc;refine fG Tryz.func34 λw cs=>r0 [] [(2,.slice none 0 0)] [] (ra (λp=>[(3,pt (B0 p) 0)]) (λp=>[ob (B0 p) #[.slice none 0 0] 74]) λp=>r0 [(1,.c [0] [0] (F4 g t B F o D A G y u v C c x)),(2,.c [0] [0] (UH g t B F o D A G y u v C c x)),(3,.c [0] [0] (UK g t B F o D A G y u v C c x q))] [(4,pt o 0)] [] (rr (λ_=>[(1,.c [0] [0] (UL g t B F o D A G y u v C c x q)),(4,.s 2)]) (λQ=>[(5,pt (B3 Q) 0)]) [] (λQ L=>L++[ob (B3 Q) #[iN x.x.s.r.m.R,iN x.x.s.r.m.S,iN x.x.s.r.m.B,iN x.x.s.r.m.M,iN x.x.s.r.m.C] 23]) λQ=>r0 [(0,.l 2),(1,.c [] [] (lW x.x.s.r.m.R x.x.s.r.m.S x.x.s.r.m.B x.x.s.r.m.M x.x.s.r.m.C O))] [(22,i6 (((x.x.s.r.m.R*x.x.s.r.m.B)*x.x.s.r.m.M:Nat):Int)),(23,i6 0)] [] (cz b0 ?_)));refine Bp (λk _ _=>k≤(x.x.s.r.m.R*x.x.s.r.m.B*x.x.s.r.m.M)) (λk _ _=>[(23,iN k)]) (λk b _ L=>(L.set 1 (ob (B0 p) #[b] 74)).set 3 (bo b (gD x.x.s.r.m k))) (λk _ _=>(x.x.s.r.m.R*x.x.s.r.m.B*x.x.s.r.m.M)-k) 0 (.slice none 0 0) _ Om Kr (by rw[U2];kernel_rfl) rfl (λk b R Y=>?_);have hgl:=U4 O Y;refine r0 [] [(24,.bool (decide ((k:Int)<(((x.x.s.r.m.R*x.x.s.r.m.B)*x.x.s.r.m.M:Nat):Int))))] [] ?_;refine bW (k:Int) (((x.x.s.r.m.R*x.x.s.r.m.B)*x.x.s.r.m.M:Nat):Int) (λh9 W=>?_) λh9 W=>?_
 ·refine r0 [] [(6,iN k)] [] (r0 [(2,.c [0] [0] (UO g t B F o D A G y u v C c x q k Om))] [(7,i6 ((aO x.x.s.r.m k:Nat):Int)),(8,i6 0)] [] (r0 [(2,.c [0] [0] (UM g t B F o D A G y u v C c x q k Om))] [(39,.bool ((!(x.x.s.r.m.P.getD k false))||false))] [] ?_));refine cB ((!(x.x.s.r.m.P.getD k false))||false) (λM=>?_) λM=>?_
  ·exact r0 [(0,ad k 1)] [(23,i6 ((k+1:Nat):Int))] [23] (uc (k+1) b R Om Om Kr [0,1,2,3] (by rw[Gb];(repeat (first | rw[M] | rw[ALct]));kernel_rfl))
  refine rr (λ_=>[(0,.l 2),(2,.c [] [4,5] (T7 x.x.s.r.m.R x.x.s.r.m.S x.x.s.r.m.B x.x.s.r.m.M x.x.s.r.m.C (aO x.x.s.r.m k)))]) (λd=>[(42,.func (.func 100) #[] #[pt ((B2 d)) 0,pt (((d 2).y 1)) 0])]) [] (λd L=>L++[ob (B2 d) #[i6 ((aO x.x.s.r.m k:Nat):Int)] 3,ob ((d 2).y 1) #[iN x.x.s.r.m.R,iN x.x.s.r.m.S,iN x.x.s.r.m.B,iN x.x.s.r.m.M,iN x.x.s.r.m.C] 23]) λd=>?_;refine xn (encs:=λ(i:Nat)=>#[iN i]) (xs:=(WM x.x.s.r.m.C).map (λz=>aO x.x.s.r.m k*64+z)) (KO:=[[((B2 d),.cells #[i6 ((aO x.x.s.r.m k:Nat):Int)] 3 (0,0))],[(((d 2).y 1),.cells #[iN x.x.s.r.m.R,iN x.x.s.r.m.S,iN x.x.s.r.m.B,iN x.x.s.r.m.M,iN x.x.s.r.m.C] 23 (0,0))]]) (U1 (B2 d) ((d 2).y 1) x.x.s.r.m H k Om) (enters_of Tryz.func100 Kr rfl) (λj _=>j≤x.x.s.r.m.C) (λj a L=>(L.set 1 (ob (B0 p) #[a] 74)).set 3 (bo a (gD x.x.s.r.m k++(WM j).map (λz=>aO x.x.s.r.m k*64+z)))) [4,5] b Om (by rw[Gc,W9];kernel_rfl) (λlR j a xE R1 W1 P J=>?_) (λU a J=>?_)
  ·obtain⟨Z,rfl⟩:=lK P;have hml:((WM j).map (λz=>aO x.x.s.r.m k*64+z)).length=j:=by rw[WR,WO]
   refine r0 [] [(9,i6 ((aO x.x.s.r.m k*64+j:Nat):Int))] [] ?_;refine ag [4,5] (λR2 W2=>?_);exact rr (λf=>[(0,.l 1),(2,.m (bs 6 1)),(3,eT b0 (a) (gD x.x.s.r.m k++(WM j).map (λz=>aO x.x.s.r.m k*64+z)) 3 6 ([aO x.x.s.r.m k*64+j])),(4,.m (fj 1 3 (bo ((f 3).val 0) ((gD x.x.s.r.m k++(WM j).map (λz=>aO x.x.s.r.m k*64+z))++([aO x.x.s.r.m k*64+j]))) ((f 3).val 0) λbs h=>aq.one ((λ_ h=>h) bs h)))]) N0 [] (λf L=>(L.set 1 (ob (B0 p) #[(f 3).val 0] 74)).set 3 (bo ((f 3).val 0) ((gD x.x.s.r.m k++(WM j).map (λz=>aO x.x.s.r.m k*64+z))++([aO x.x.s.r.m k*64+j])))++[ob (B2 f) #[i6 ((aO x.x.s.r.m k*64+j:Nat):Int)] 3]) λf=>ne _ ⟨(f 3).val 0,Om,rfl⟩ [0,1,2,3,4,5] (by rw[Gd];kernel_rfl)
  refine cl [pk (aH g t B F o D A G y u v C c x),ob (B0 p) #[a] 74,ob (B3 Q) #[iN x.x.s.r.m.R,iN x.x.s.r.m.S,iN x.x.s.r.m.B,iN x.x.s.r.m.M,iN x.x.s.r.m.C] 23,bo a (gD x.x.s.r.m k++(WM x.x.s.r.m.C).map (λz=>aO x.x.s.r.m k*64+z)),ob (B2 d) #[i6 ((aO x.x.s.r.m k:Nat):Int)] 3,ob ((d 2).y 1) #[iN x.x.s.r.m.R,iN x.x.s.r.m.S,iN x.x.s.r.m.B,iN x.x.s.r.m.M,iN x.x.s.r.m.C] 23] (by rw[WR,WO];kernel_rfl) ?_;simp only[WR,WO] at J;exact r0 [(0,ad k 1)] [(23,i6 ((k+1:Nat):Int))] [23] (uc (k+1) a (U::R) Om Om Kr [0,1,2,3] (by rw[Gb];(repeat (first | rw[M] | rw[ALcf]));kernel_rfl))
 obtain rfl:k=(x.x.s.r.m.R*x.x.s.r.m.B*x.x.s.r.m.M):=by omega
 refine Bq ?_;refine r0 [(1,.l 2)] [(50,iN x.x.s.r.m.R),(51,i6 0)] [] ?_;refine Bp (λr _ _=>r≤x.x.s.r.m.R) (λr _ _=>[(51,iN r)]) (λr a _ L=>(L.set 1 (ob (B0 p) #[a] 74)).set 3 (bo a (dB x.x.s.r.m r))) (λr _ _=>x.x.s.r.m.R-r) 0 b _ Om Kr (by rw[U3];kernel_rfl) rfl (λr a I T=>?_);have hgm:=Ga O T;refine r0 [] [(52,.bool (decide ((r:Int)<(x.x.s.r.m.R:Int))))] [] ?_;refine bW (r:Int) (x.x.s.r.m.R:Int) (λX S=>?_) λX S=>?_
 ·refine r0 [] [(10,iN r)] [] (r0 [(2,.c [0] [0] (UN g t B F o D A G y u v C c x q r Om))] [(12,.bool (cy x.x.s.r.m r))] [] (r0 [] [(60,.bool (cy x.x.s.r.m r))] [] ?_));refine cB (cy x.x.s.r.m r) (λN=>?_) λN=>?_
  ·refine rr (λ_=>[(0,.l 2),(2,.c [] [4,5] (FO x.x.s.r.m.R x.x.s.r.m.S x.x.s.r.m.B x.x.s.r.m.M x.x.s.r.m.C r))]) (λe=>[(63,.func (.func 101) #[] #[pt ((B2 e)) 0,pt (((e 2).y 1)) 0])]) [] (λe L=>L++[ob (B2 e) #[iN x.x.s.r.m.R,iN x.x.s.r.m.S,iN x.x.s.r.m.B,iN x.x.s.r.m.M,iN x.x.s.r.m.C] 23,ob ((e 2).y 1) #[iN r] 3]) λe=>?_;refine xn (encs:=λ(i:Nat)=>#[iN i]) (xs:=(WM (x.x.s.r.m.B*x.x.s.r.m.M*x.x.s.r.m.C)).map (gO x.x.s.r.m.M x.x.s.r.m.C r)) (KO:=[[((B2 e),.cells #[iN x.x.s.r.m.R,iN x.x.s.r.m.S,iN x.x.s.r.m.B,iN x.x.s.r.m.M,iN x.x.s.r.m.C] 23 (0,0))],[(((e 2).y 1),.cells #[iN r] 3 (0,0))]]) (FM (B2 e) ((e 2).y 1) x.x.s.r.m.R x.x.s.r.m.S x.x.s.r.m.B x.x.s.r.m.M x.x.s.r.m.C r O Om) (enters_of Tryz.func101 Kr rfl) (λj _=>j≤x.x.s.r.m.B*x.x.s.r.m.M*x.x.s.r.m.C) (λj b L=>(L.set 1 (ob (B0 p) #[b] 74)).set 3 (bo b (dB x.x.s.r.m r++(WM j).map (gO x.x.s.r.m.M x.x.s.r.m.C r)))) [4,5] a Om (by rw[Gc,W9];kernel_rfl) (λlR j b xE R1 W1 P K=>?_) (λV b K=>?_)
   ·obtain⟨hkb34,rfl⟩:=lK P;have hml:((WM j).map (gO x.x.s.r.m.M x.x.s.r.m.C r)).length=j:=by rw[WR,WO]
    refine r0 [] [(13,i6 ((gO x.x.s.r.m.M x.x.s.r.m.C r j:Nat):Int))] [] ?_;refine ag [4,5] (λR2 W2=>?_);exact rr (λn=>[(0,.l 1),(2,.m (bs 6 1)),(3,eT b0 (b) (dB x.x.s.r.m r++(WM j).map (gO x.x.s.r.m.M x.x.s.r.m.C r)) 3 6 ([gO x.x.s.r.m.M x.x.s.r.m.C r j])),(4,.m (fj 1 3 (bo ((n 3).val 0) ((dB x.x.s.r.m r++(WM j).map (gO x.x.s.r.m.M x.x.s.r.m.C r))++([gO x.x.s.r.m.M x.x.s.r.m.C r j]))) ((n 3).val 0) λbs h=>aq.one ((λ_ h=>h) bs h)))]) N0 [] (λn L=>(L.set 1 (ob (B0 p) #[(n 3).val 0] 74)).set 3 (bo ((n 3).val 0) ((dB x.x.s.r.m r++(WM j).map (gO x.x.s.r.m.M x.x.s.r.m.C r))++([gO x.x.s.r.m.M x.x.s.r.m.C r j])))++[ob (B2 n) #[i6 ((gO x.x.s.r.m.M x.x.s.r.m.C r j:Nat):Int)] 3]) λn=>ne _ ⟨(n 3).val 0,Om,rfl⟩ [0,1,2,3,4,5] (by rw[Gd];kernel_rfl)
   refine cl [pk (aH g t B F o D A G y u v C c x),ob (B0 p) #[b] 74,ob (B3 Q) #[iN x.x.s.r.m.R,iN x.x.s.r.m.S,iN x.x.s.r.m.B,iN x.x.s.r.m.M,iN x.x.s.r.m.C] 23,bo b (dB x.x.s.r.m r++(WM (x.x.s.r.m.B*x.x.s.r.m.M*x.x.s.r.m.C)).map (gO x.x.s.r.m.M x.x.s.r.m.C r)),ob (B2 e) #[iN x.x.s.r.m.R,iN x.x.s.r.m.S,iN x.x.s.r.m.B,iN x.x.s.r.m.M,iN x.x.s.r.m.C] 23,ob ((e 2).y 1) #[iN r] 3] (by rw[WR,WO];kernel_rfl) ?_;simp only[WR,WO] at K;exact r0 [(0,ad r 1)] [(51,i6 ((r+1:Nat):Int))] [51] (uc (r+1) b (V::I) Om Om Kr [0,1,2,3] (by rw[wa];(repeat (first | rw[N] | rw[ALct]));kernel_rfl))
  exact r0 [(0,ad r 1)] [(51,i6 ((r+1:Nat):Int))] [51] (uc (r+1) a I Om Om Kr [0,1,2,3] (by rw[wa];(repeat (first | rw[N] | rw[ALcf]));kernel_rfl))
 obtain rfl:x.x.s.r.m.R=r:=by omega
 refine Bq ?_;exact r0 [(0,.l 1)] [(2,a)] [2] (lf (.l [] [] [a]) [0,3] [] [])
end
section
def lj(l:List Nat)(i:Int):Nat→Bool
 | 0=>false
 | k+1=>lj l i k||((l.getD k 0:Int)==i)
theorem Ge(l:List Nat)(i:Int)(k:Nat):lj l i (k+1)=(lj l i k||((l.getD k 0:Int)==i)):=rfl
theorem Gf(l:List Nat)(i:Int):lj l i 0=false:=rfl
attribute [local irreducible] lj
abbrev wb(f:Fa)(l:List Nat)(i:Int):Bool:=iw f (i/1048576) (i/65536%16) (i/64%1024) (i%64)&&(!(lj l i l.length))
def kk(c:Cf)(f:Fa)(l:List Nat):Bool:=bif (!(ff c f))||decide (6≤f.x0) then false else(WM ((c.R+c.S)*(c.B*c.M*c.C))).all λk=> !(wb f l ((c7 c.B c.M c.C k:Nat):Int))
theorem U6{n:Nat}{p:Nat→Bool}(h: ∀j,j<n→p j=false):((WM n).all λk=> !(p k))=true:=by
 rw[List.all_eq_true];intro a b;rw[h a (List.mem_range.1 b)];rfl
theorem U7{n j:Nat}{p:Nat→Bool}(a:j<n)(h:p j=true):((WM n).all λk=> !(p k))=false:=by
 rw[List.all_eq_false];exact⟨j,List.mem_range.2 a,by rw[h];simp⟩
theorem U8(q:Cf)(e:cr q)(f:Fa)(v:Value)(l:List Nat)(U:l.length≤1000000):aa WK 35 #[.agg (cA q),.agg #[i6 f.x0,i6 f.x1,i6 f.x2,i6 f.x3,i6 f.x4,i6 f.x5,i6 f.x6,i6 f.x7],v] [.p (aG pU v l)] [] N0 (λ_=> .bool (kk q f l)):=by
 have C:=e.O;have x:=e.O;have N:=e.E;refine fO Tryz.func35 0 rfl λz b=>fG Tryz.func35 λw cs=>rr (λ_=>[(2,BH 3 0 (.c z) v (λ_ _=>aG.cells b))]) (λa=>[(3,pt (B0 a) 0),(4,pt (B1 a) 0),(5,pt (B2 a) 0),(6,pt (B3 a) 0)]) [] (λa L=>L++[ob (B0 a) (cA q) 31,ob (B1 a) #[i6 f.x0,i6 f.x1,i6 f.x2,i6 f.x3,i6 f.x4,i6 f.x5,i6 f.x6,i6 f.x7] 48,ob (B2 a) #[v] 74,ob (B3 a) #[.bool false] 4]) λa=>rr (λ_=>[(2,.l 1),(4,.s 5)]) (λu=>[(7,pt (B3 u) 0)]) [] (λu L=>L++[ob (B3 u) #[iN q.R,iN q.S,iN q.B,iN q.M,iN q.C] 23]) λu=>r0 [(0,.l 2),(1,.l 5),(3,.l 1),(4,.c [] [] (EI f q.R q.S q.B q.M q.C q.E C N)),(8,.l 2)] [(27,.bool ((!(mT f q.R q.S q.B q.M q.C q.E))||(decide (6≤f.x0))))] [] ?_;refine cB ((!(mT f q.R q.S q.B q.M q.C q.E))||(decide (6≤f.x0))) (λr=>?_) λr=>?_
 ·exact r0 [(0,.s 4)] [] [] (ao (.bool false) ab.zero (by(unfold kk ff;(repeat (first | rw[r] | rw[ALct]));done)) [] [(0,0)] [4])
 refine rr (λ_=>[(0,.l 5),(1,.c [] [6] (FV q.R q.S q.B q.M q.C))]) (λg=>[(29,.func (.func 103) #[] #[pt ((B1 g)) 0])]) [] (λg L=>L++[ob (B1 g) #[iN q.R,iN q.S,iN q.B,iN q.M,iN q.C] 23]) λg=>?_;refine xp (encs:=λ(i:Nat)=>#[iN i]) (xs:=(WM ((q.R+q.S)*(q.B*q.M*q.C))).map (c7 q.B q.M q.C)) (KO:=[[((B1 g),.cells #[iN q.R,iN q.S,iN q.B,iN q.M,iN q.C] 23 (0,0))]]) (FU (B1 g) q.R q.S q.B q.M q.C C) (enters_of Tryz.func103 Kr rfl) (λk=>k≤(q.R+q.S)*(q.B*q.M*q.C)∧(∀j,j<k→wb f l ((c7 q.B q.M q.C j:Nat):Int)=false)) (λ_ L=>L) (λc k=>(c=Code.ret∧(∃j,j+1=k∧wb f l ((c7 q.B q.M q.C j:Nat):Int)=true))) (λ_ _ L=>L) [6] ⟨by omega,(λ_ h=>absurd h (Xs _))⟩ Kr (λV k W P R H ⟨n,t⟩=>?_) (λJ ⟨n,t⟩=>?_) λJ c k M K=>?_
 ·obtain⟨o,rfl⟩:=lK H;have D:=FW C o;have y:=D.2;refine r0 [] [(8,i6 ((c7 q.B q.M q.C k:Nat):Int))] [] ?_;refine ag [6] (λQ S=>?_);refine rr (λ_=>[(0,.l 5),(2,.c [] [] (vC q x ((c7 q.B q.M q.C k:Nat):Int) y)),(7,.s 7)]) (λd=>[(9,pt (B6 d) 0),(10,i6 0)]) [] (λd L=>L++[ob (B6 d) #[i6 (((c7 q.B q.M q.C k:Nat):Int)/1048576),i6 (((c7 q.B q.M q.C k:Nat):Int)/65536%16),i6 (((c7 q.B q.M q.C k:Nat):Int)/64%1024),i6 (((c7 q.B q.M q.C k:Nat):Int)%64)] 46]) λd=>r0 [] [(11,.bool false)] [] (r0 [(0,.l 3),(1,du b.1 0)] [(37,v),(38,iN l.length),(39,i6 0)] [] ?_);refine lq (λj=>j≤l.length) (λj=>[(39,iN j),(11,.bool (lj l ((c7 q.B q.M q.C k:Nat):Int) j))]) (λ_ L=>L) (λj=>l.length-j) 0 Om (by rw[Gf];kernel_rfl) Kr (λj I=>?_);refine r0 [] [(40,.bool (decide ((j:Int)<(l.length:Int))))] [] ?_;refine bW (j:Int) (l.length:Int) (λA m=>?_) λA m=>?_
  ·exact r0 [(0,eU b.1 0 j 1),(1,iG b0 b.1 0 j 0)] [(13,i6 (((l.getD j 0):Nat):Int))] [] (r0 [] [(11,.bool ((lj l ((c7 q.B q.M q.C k:Nat):Int) j)||((((l.getD j 0):Nat):Int)==((c7 q.B q.M q.C k:Nat):Int))))] [11] (r0 [(0,ad j 1)] [(39,i6 ((j+1:Nat):Int))] [39] (le (j+1) Om Om (by rw[Ge];kernel_rfl) [0,1,2,3,4,5,6,7] Kr)))
  obtain rfl:j=l.length:=by omega
  refine lx (r0 [(3,.l 2),(4,.l 7),(5,.c [] [] (EH f (((c7 q.B q.M q.C k:Nat):Int)/1048576) (((c7 q.B q.M q.C k:Nat):Int)/65536%16) (((c7 q.B q.M q.C k:Nat):Int)/64%1024) (((c7 q.B q.M q.C k:Nat):Int)%64)))] [(60,.bool ((iw f (((c7 q.B q.M q.C k:Nat):Int)/1048576) (((c7 q.B q.M q.C k:Nat):Int)/65536%16) (((c7 q.B q.M q.C k:Nat):Int)/64%1024) (((c7 q.B q.M q.C k:Nat):Int)%64))&&(!(lj l ((c7 q.B q.M q.C k:Nat):Int) l.length))))] [] ?_);refine cB ((iw f (((c7 q.B q.M q.C k:Nat):Int)/1048576) (((c7 q.B q.M q.C k:Nat):Int)/65536%16) (((c7 q.B q.M q.C k:Nat):Int)/64%1024) (((c7 q.B q.M q.C k:Nat):Int)%64))&&(!(lj l ((c7 q.B q.M q.C k:Nat):Int) l.length))) (λB=>?_) λB=>?_
  ·refine r0 [(0,.s 4)] [] [] ?_;exact nr _ ⟨⟨rfl,⟨_,rfl,As⟩⟩,rfl⟩ [0,1,2,3,4,5,6] Kr
  exact ne _ ⟨⟨by omega,UY t As⟩,rfl⟩ [0,1,2,3,4,5,6] Kr
 ·simp only[WR,WO] at n;exact rs [(0,.s 4)] 4 (ob (B3 a) #[.bool true] 4) (ao (.bool true) ab.zero (by(unfold kk ff;simp only[WR,WO] at t;(repeat (first | rw[r] | rw[ALcf]));rw[U6 t])) [] [(0,0)] [4])
 obtain⟨rfl,G⟩:=K;exact ao (.bool false) ab.zero (by(unfold kk ff;obtain⟨j,T,O⟩:=G;have F:=M;simp only[WR,WO] at F;(repeat (first | rw[r] | rw[ALcf]));rw[U7 (j:=j) Om O])) [] [(0,0)] [4]
end
structure GM (c:Cf) (x:Mc) (n:Nat):Prop where
 ok:ez c x (1+260*n) (4096+3*n) n
 t:x.x.s.time≤n
theorem GM.start{c:Cf}(h:cr c):GM c (bc c) 0:=⟨Uu h,Xk _⟩
theorem GM.step{c:Cf}{x:Mc}{n:Nat}(h:GM c x n)(a:n≤900){s:St}(hs:StOk s):GM c (dA c x s) (n+1):=
 ⟨(TZ h.ok hs Om (Xv h.t Om)).mono Om Om Om,WL (T1 c x s) (WW h.t)⟩
theorem GM.mono{c:Cf}{x:Mc}{n m:Nat}(h:GM c x n)(a:n≤m):GM c x m:=⟨h.ok.mono Om Om a,WL h.t a⟩
theorem GM.vl{c:Cf}{x:Mc}{n:Nat}(h:GM c x n)(a:n≤900):x.x.V.l.length≤7000:=WL h.ok.ct.vl Om
theorem qn(g a i m j l f o e b d k:Nat)(c:Cf)(x:Mc)(n:Nat)(h:GM c x n)(p:n≤900)(s:St)(hs:StOk s):aa WK 16 #[pt g 0,.agg (eSt s).toArray] [pk (aH g a i m j l f o e b d k c x)] [0] (λ_=>[pk (aH g a i m j l f o e b d k c (dA c x s))]) (λ_=> .agg (sP (db c x s)).toArray):=
 TV g a i m j l f o e b d k c x _ _ _ h.ok Om Om Om (Xv h.t Om) s hs
def dL:Cf:=⟨1,0,1,2,2,0,0,1,9,9,9,9,2,2,4,true⟩
def Gg:St:=⟨2,1,eZ 6 64,0,0,0,0,0,0,0,0,0⟩
def Gh:St:=⟨8,0,WJ 64 0,0,1,0,0,0,1,0,40,0⟩
def s4:St:=⟨1,1,WJ 64 0,0,0,0,0,0,0,0,0,0⟩
def wc:Mc:=dA dL (dA dL (bc dL) Gg) Gh
def zP:Mc:=dA dL wc s4
abbrev zQ:St:=⟨2,1,(eZ (6:UInt8) 64),0,0,0,0,0,0,0,0,0⟩
abbrev zR:St:=⟨8,0,z6,0,1,0,0,0,1,0,40,0⟩
abbrev wg:St:=⟨1,1,z6,0,0,0,0,0,0,0,0,0⟩
abbrev wh:Mc:=dA dL (bc dL) zQ
abbrev s5:Mc:=dA dL wh zR
abbrev kH:Mc:=dA dL s5 wg
abbrev gF:An:=db dL s5 wg
theorem U9:(db dL wc s4).e=0:=by decide+kernel
theorem Va:(db dL wc s4).n=0:=by decide+kernel
theorem Gi:(db dL wc s4).l=eZ 6 64:=by decide+kernel
theorem Vb:zP.x.s.g.l.length=1:=by decide+kernel
theorem Vc:qm 1 zP.x.V.l=true:=by decide+kernel
theorem Ve:zP.x.V.l.all (λa=>decide (0≤a.ex)&&decide (a.ex≤1000000))=true:=by decide+kernel
theorem Vf{l:List Ac}(h:l.all (λa=>decide (0≤a.ex)&&decide (a.ex≤1000000))=true):zM l:=⟨λk=>by
 rw[WS];cases c:l[k]? with
 | none=>exact⟨Int.le_refl _,by decide⟩
 | some a=>
  have b:=List.all_eq_true.1 h a (List.mem_of_getElem? c);simpa using b⟩
theorem zS(x:UInt8):(eZ x 64).length=64:=by unfold eZ;rw[W5,WN,WN]
theorem Gj:cr dL:=⟨⟨⟨by decide⟩,by decide,by decide,by decide⟩,.inl rfl,⟨by decide,by decide,by decide,by decide⟩,⟨by decide,by decide,by decide,by decide⟩,by decide,by decide,by decide,by decide,by decide,by decide⟩
theorem Gk:StOk Gg:=⟨zS 6,by decide⟩
theorem Gl:StOk Gh:=⟨WN,by decide⟩
theorem Gm:StOk s4:=⟨WN,by decide⟩
section
theorem Vg:aa WK 12 #[.agg #[i6 1,i6 0,i6 1,i6 2,i6 2,i6 0,i6 0,i6 1,i6 9,i6 9,i6 9,i6 9,i6 2,i6 2,i6 4,.bool true]] [] [] (λE=>[pk (aH (E.y 0) (E.y 1) (E.y 2) (E.y 3) (E.y 4) (E.y 5) (E.y 6) (E.y 7) (E.y 8) (E.y 9) (E.y 10) (E.y 11) dL (bc dL))]) (λE=>pt (E.y 0) 0):=nJ dL Gj Dc
attribute [local irreducible] dA db bc qm
theorem Vh:(((gF.e)==0&&((gF.n)==0&&true))&&decide (gF.l=eZ (6:UInt8) 64))=true:=by
 have a:gF.e=0:=U9;have b:gF.n=0:=Va;have c:gF.l=eZ (6:UInt8) 64:=Gi;rw[a,b,c];simp
theorem Vi:gF.l.length=64:=by
 have a:gF.l=eZ (6:UInt8) 64:=Gi;rw[a];exact zS 6
theorem Vj:(((kH.x.s.g.l.length:Nat):Int)==1)=true:=by
 have a:kH.x.s.g.l.length=1:=Vb;rw[a];rfl
theorem Vk:qm dL.E kH.x.V.l=true:=Vc
theorem Gn:GM dL (bc dL) 0:=GM.start Gj
theorem Gp:GM dL wh 1:=Gn.step Dc Gk
theorem Gq:GM dL s5 2:=Gp.step Dc Gl
theorem Vl:GM dL kH 3:=Gq.step Dc Gm
theorem Vm:kH.x.V.l.length≤900000:=WL (Vl.vl Dc) Dc
theorem Vn:zM kH.x.V.l:=Vf Ve
theorem Vo:StOk zQ:=Gk
theorem Vp:StOk zR:=Gl
theorem Vq:StOk wg:=Gm
theorem qo:aa WK 11 #[] [] [] N0 (λ_=> .bool true):=by
 have h:z6.length=64:=WN;have g:=zS 6;have f:=Vi;exact fG Tryz.func11 λw cs=>r0 [] [(0,.bool false)] [] (rr (λ_=>[(0,.c [] [] (U0)),(2,.s 0)]) (λb=>[(1,pt (B1 b) 0)]) [] (λb L=>L++[ob (B1 b) #[i6 1,i6 0,i6 1,i6 2,i6 2,i6 0,i6 0,i6 1,i6 9,i6 9,i6 9,i6 9,i6 2,i6 2,i6 4,.bool true] 31]) λb=>rr (λ_=>[(0,.l 0),(1,.c [] [1] (Vg))]) (λa=>[(2,pt ((B1 a)) 0)]) [] (λa L=>L++[pk (aH (B1 a) ((a 1).y 1) ((a 1).y 2) ((a 1).y 3) ((a 1).y 4) ((a 1).y 5) ((a 1).y 6) ((a 1).y 7) ((a 1).y 8) ((a 1).y 9) ((a 1).y 10) ((a 1).y 11) dL (bc dL))]) λa=>rF [] 9 (rr (λ_=>[(0,.c [] [] (QQ (6:UInt8))),(2,.s 2)]) (λd=>[(3,pt (B1 d) 0)]) [] (λd L=>L++[ob (B1 d) (rB 64 (eZ (6:UInt8) 64)).toArray 43]) λd=>rs [(1,.l 2),(3,.c [1] [1] (qn (B1 a) ((a 1).y 1) ((a 1).y 2) ((a 1).y 3) ((a 1).y 4) ((a 1).y 5) ((a 1).y 6) ((a 1).y 7) ((a 1).y 8) ((a 1).y 9) ((a 1).y 10) ((a 1).y 11) dL (bc dL) _ (by with_reducible exact Gn) Dc zQ (by with_reducible exact Vo)))] 1 ((pk (aH (B1 a) ((a 1).y 1) ((a 1).y 2) ((a 1).y 3) ((a 1).y 4) ((a 1).y 5) ((a 1).y 6) ((a 1).y 7) ((a 1).y 8) ((a 1).y 9) ((a 1).y 10) ((a 1).y 11) dL wh))) (rs [(4,.c [1] [1] (qn (B1 a) ((a 1).y 1) ((a 1).y 2) ((a 1).y 3) ((a 1).y 4) ((a 1).y 5) ((a 1).y 6) ((a 1).y 7) ((a 1).y 8) ((a 1).y 9) ((a 1).y 10) ((a 1).y 11) dL wh _ (by with_reducible exact Gp) Dc zR (by with_reducible exact Vp)))] 1 ((pk (aH (B1 a) ((a 1).y 1) ((a 1).y 2) ((a 1).y 3) ((a 1).y 4) ((a 1).y 5) ((a 1).y 6) ((a 1).y 7) ((a 1).y 8) ((a 1).y 9) ((a 1).y 10) ((a 1).y 11) dL s5))) (rr (λ_=>[(2,.c [1] [1] (qn (B1 a) ((a 1).y 1) ((a 1).y 2) ((a 1).y 3) ((a 1).y 4) ((a 1).y 5) ((a 1).y 6) ((a 1).y 7) ((a 1).y 8) ((a 1).y 9) ((a 1).y 10) ((a 1).y 11) dL s5 _ (by with_reducible exact Gq) Dc wg (by with_reducible exact Vq))),(4,.s 3)]) (λe=>[(4,pt (B3 e) 0)]) [] (λe L=>L.set 1 ((pk (aH (B1 a) ((a 1).y 1) ((a 1).y 2) ((a 1).y 3) ((a 1).y 4) ((a 1).y 5) ((a 1).y 6) ((a 1).y 7) ((a 1).y 8) ((a 1).y 9) ((a 1).y 10) ((a 1).y 11) dL kH)))++[ob (B3 e) (([i6 (gF.e),i6 (gF.n)]:List Value)++rB 64 (gF.l)).toArray 53]) λe=>r0 [(0,.m (ls 3 (([i6 (gF.e),i6 (gF.n)]:List Value)++rB 64 (gF.l)))),(1,.m (ls 2 (rB 64 (eZ (6:UInt8) 64)))),(2,.v (.agg (([i6 0,i6 0]:List Value)++rB 64 (eZ (6:UInt8) 64)).toArray)),(3,.t (TH.cast (iE 53 λ_ _ _=>wZ (xs:=([i6 (gF.e),i6 (gF.n)]:List Value)++rB 64 (gF.l)) (ys:=([i6 0,i6 0]:List Value)++rB 64 (eZ (6:UInt8) 64)) Kr (e6 Kr Kr bg (iZ (show(gF.l).length=64 by(simp only[LL,g,f];done)) (show(eZ (6:UInt8) 64).length=64 by rfl)))) (show Value.bool ((((gF.e)==0&&((gF.n)==0&&true))&&decide (gF.l=eZ (6:UInt8) 64)))= .bool true from ALca Value.bool (by exact Vh)))),(4,.v (.bool true)),(5,.v (pt ((B1 a)) 0)),(6,.c [1] [1] (F4 (B1 a) ((a 1).y 1) ((a 1).y 2) ((a 1).y 3) ((a 1).y 4) ((a 1).y 5) ((a 1).y 6) ((a 1).y 7) ((a 1).y 8) ((a 1).y 9) ((a 1).y 10) ((a 1).y 11) dL kH)),(7,.c [1] [1] (UI (B1 a) ((a 1).y 1) ((a 1).y 2) ((a 1).y 3) ((a 1).y 4) ((a 1).y 5) ((a 1).y 6) ((a 1).y 7) ((a 1).y 8) ((a 1).y 9) ((a 1).y 10) ((a 1).y 11) dL kH)),(8,.c [1] [1] (UJ (B1 a) ((a 1).y 1) ((a 1).y 2) ((a 1).y 3) ((a 1).y 4) ((a 1).y 5) ((a 1).y 6) ((a 1).y 7) ((a 1).y 8) ((a 1).y 9) ((a 1).y 10) ((a 1).y 11) dL kH)),(9,.t (tk (show Value.bool (((kH.x.s.g.l.length:Nat):Int)==1)= .bool true from ALca Value.bool (by exact Vj)))),(11,.v (.bool true)),(12,.v (pt ((B1 a)) 0)),(13,.c [1] [1] (aa.v ((UZ (B1 a) ((a 1).y 1) ((a 1).y 2) ((a 1).y 3) ((a 1).y 4) ((a 1).y 5) ((a 1).y 6) ((a 1).y 7) ((a 1).y 8) ((a 1).y 9) ((a 1).y 10) ((a 1).y 11) dL kH Vm Vn)) λ_=>ALca Value.bool (show(qm dL.E kH.x.V.l)=true from(by exact Vk)))),(15,.v (.bool true))] [(0,.bool true)] [0] (lf ab.zero [] [] [])))))
end
section
def bq(c:Cf)(x:Mc)(l:List St):Nat→Mc
 | 0=>x
 | k+1=>dA c (bq c x l k) (l.getD k ae)
def lB(c:Cf)(x:Mc)(l:List St):Nat→List An
 | 0=>[]
 | k+1=>lB c x l k++[db c (bq c x l k) (l.getD k ae)]
theorem Vr(c:Cf)(x:Mc)(l:List St):bq c x l 0=x:=rfl
theorem Vs(c:Cf)(x:Mc)(l:List St)(k:Nat):bq c x l (k+1)=dA c (bq c x l k) (l.getD k ae):=rfl
theorem Vt(c:Cf)(x:Mc)(l:List St):lB c x l 0=[]:=rfl
theorem Gr(c:Cf)(x:Mc)(l:List St)(k:Nat):lB c x l (k+1)=lB c x l k++[db c (bq c x l k) (l.getD k ae)]:=rfl
theorem Gs(c:Cf)(x:Mc)(l:List St): ∀k,(lB c x l k).length=k
 | 0=>rfl
 | k+1=>by rw[Gr,W5,Gs];rfl
structure lC (l:List St):Prop where
 a: ∀k,StOk (l.getD k ae)
theorem s6{c:Cf}{x:Mc}{n:Nat}(h:GM c x n){l:List St}(hs:lC l): ∀k,n+k≤900→GM c (bq c x l k) (n+k)
 | 0,_=>h
 | k+1,a=>(s6 h hs k Om).step Om (hs.a k)
attribute [local irreducible] bq lB dA db
theorem Gt(g i t A u z r B q j o y:Nat)(c:Cf)(x:Mc)(n:Nat)(h:GM c x n)(v:Value)(l:List St)(P:n+l.length≤900)(hs:lC l):aa WK 28 #[pt g 0,v] [pk (aH g i t A u z r B q j o y c x),.p (aG eSt v l)] [0] (λE=>[pk (aH g i t A u z r B q j o y c (bq c x l l.length)),sQ (E.val 0) (lB c x l l.length)]) (λE=>(E.val 0)):=by
 refine fO Tryz.func28 1 rfl λJ b=>fG Tryz.func28 λw cs=>r0 [] [(4,.slice none 0 0)] [] (r0 [] [(5,.slice none 0 0)] [] (r0 [(1,du b.1 1)] [(8,v),(9,iN l.length),(10,i6 0)] [] (cz FL ?_)));refine mw (λk _=>k≤l.length) (λk a=>[(10,iN k),(5,a)]) (λk a L=>(L.set 0 ((pk (aH g i t A u z r B q j o y c (bq c x l k))))).set 2 (sQ a (lB c x l k))) (λk _=>l.length-k) 0 (.slice none 0 0) Om Kr (by rw[Vr,Vt];kernel_rfl) (λk a H=>?_);have N:=H;have G:=s6 h hs k Om;have I:n+k≤900:=by omega
 have C:=hs.a k;have O:=C.d;have M:=Gs c x l k;refine r0 [] [(11,.bool (decide ((k:Int)<(l.length:Int))))] [] ?_;refine bW (k:Int) (l.length:Int) (λK F=>?_) λK F=>?_
 ·exact rr (λ_=>[(0,eU b.1 1 k 75),(1,mx Fv b.1 1 k 0 75),(3,.s 3)]) (λD=>[(7,pt (B2 D) 0)]) [] (λD L=>L++[ob (B2 D) (sV ((l.getD k ae).k) ((l.getD k ae).ln) ((l.getD k ae).d) ((l.getD k ae).m:Nat) ((l.getD k ae).f0) ((l.getD k ae).f1) ((l.getD k ae).f2) ((l.getD k ae).f3) ((l.getD k ae).f4) ((l.getD k ae).f5) ((l.getD k ae).f6) ((l.getD k ae).f7)) 50]) λD=>rr (λ_=>[(2,.l 3),(3,.c [0] [0] (qn g i t A u z r B q j o y c (bq c x l k) _ G I (⟨((l.getD k ae).k),((l.getD k ae).ln),((l.getD k ae).d),((l.getD k ae).m),((l.getD k ae).f0),((l.getD k ae).f1),((l.getD k ae).f2),((l.getD k ae).f3),((l.getD k ae).f4),((l.getD k ae).f5),((l.getD k ae).f6),((l.getD k ae).f7)⟩:St) C)),(4,.m (bs 4 1)),(5,eT FL (a) (lB c x l k) 2 4 ([(⟨((db c (bq c x l k) (⟨((l.getD k ae).k),((l.getD k ae).ln),((l.getD k ae).d),((l.getD k ae).m),((l.getD k ae).f0),((l.getD k ae).f1),((l.getD k ae).f2),((l.getD k ae).f3),((l.getD k ae).f4),((l.getD k ae).f5),((l.getD k ae).f6),((l.getD k ae).f7)⟩:St)).e),((db c (bq c x l k) (⟨((l.getD k ae).k),((l.getD k ae).ln),((l.getD k ae).d),((l.getD k ae).m),((l.getD k ae).f0),((l.getD k ae).f1),((l.getD k ae).f2),((l.getD k ae).f3),((l.getD k ae).f4),((l.getD k ae).f5),((l.getD k ae).f6),((l.getD k ae).f7)⟩:St)).n),(db c (bq c x l k) (⟨((l.getD k ae).k),((l.getD k ae).ln),((l.getD k ae).d),((l.getD k ae).m),((l.getD k ae).f0),((l.getD k ae).f1),((l.getD k ae).f2),((l.getD k ae).f3),((l.getD k ae).f4),((l.getD k ae).f5),((l.getD k ae).f6),((l.getD k ae).f7)⟩:St)).l⟩:An)]))]) (λf=>[(5,(f 5).val 0)]) [5] (λf L=>(L.set 0 ((pk (aH g i t A u z r B q j o y c (dA c (bq c x l k) (⟨((l.getD k ae).k),((l.getD k ae).ln),((l.getD k ae).d),((l.getD k ae).m),((l.getD k ae).f0),((l.getD k ae).f1),((l.getD k ae).f2),((l.getD k ae).f3),((l.getD k ae).f4),((l.getD k ae).f5),((l.getD k ae).f6),((l.getD k ae).f7)⟩:St)))))).set 2 (sQ ((f 5).val 0) ((lB c x l k)++([(⟨((db c (bq c x l k) (⟨((l.getD k ae).k),((l.getD k ae).ln),((l.getD k ae).d),((l.getD k ae).m),((l.getD k ae).f0),((l.getD k ae).f1),((l.getD k ae).f2),((l.getD k ae).f3),((l.getD k ae).f4),((l.getD k ae).f5),((l.getD k ae).f6),((l.getD k ae).f7)⟩:St)).e),((db c (bq c x l k) (⟨((l.getD k ae).k),((l.getD k ae).ln),((l.getD k ae).d),((l.getD k ae).m),((l.getD k ae).f0),((l.getD k ae).f1),((l.getD k ae).f2),((l.getD k ae).f3),((l.getD k ae).f4),((l.getD k ae).f5),((l.getD k ae).f6),((l.getD k ae).f7)⟩:St)).n),(db c (bq c x l k) (⟨((l.getD k ae).k),((l.getD k ae).ln),((l.getD k ae).d),((l.getD k ae).m),((l.getD k ae).f0),((l.getD k ae).f1),((l.getD k ae).f2),((l.getD k ae).f3),((l.getD k ae).f4),((l.getD k ae).f5),((l.getD k ae).f6),((l.getD k ae).f7)⟩:St)).l⟩:An)])))++[ob (B4 f) (([i6 ((db c (bq c x l k) (⟨((l.getD k ae).k),((l.getD k ae).ln),((l.getD k ae).d),((l.getD k ae).m),((l.getD k ae).f0),((l.getD k ae).f1),((l.getD k ae).f2),((l.getD k ae).f3),((l.getD k ae).f4),((l.getD k ae).f5),((l.getD k ae).f6),((l.getD k ae).f7)⟩:St)).e),i6 ((db c (bq c x l k) (⟨((l.getD k ae).k),((l.getD k ae).ln),((l.getD k ae).d),((l.getD k ae).m),((l.getD k ae).f0),((l.getD k ae).f1),((l.getD k ae).f2),((l.getD k ae).f3),((l.getD k ae).f4),((l.getD k ae).f5),((l.getD k ae).f6),((l.getD k ae).f7)⟩:St)).n)]:List Value)++rB 64 ((db c (bq c x l k) (⟨((l.getD k ae).k),((l.getD k ae).ln),((l.getD k ae).d),((l.getD k ae).m),((l.getD k ae).f0),((l.getD k ae).f1),((l.getD k ae).f2),((l.getD k ae).f3),((l.getD k ae).f4),((l.getD k ae).f5),((l.getD k ae).f6),((l.getD k ae).f7)⟩:St)).l)).toArray 53]) λf=>r0 [(0,ad k 1)] [(10,i6 ((k+1:Nat):Int))] [10] (kQ (k+1) ((f 5).val 0) Om Om Kr [0,1,2] (by rw[Vs,Gr];kernel_rfl))
 obtain rfl:l.length=k:=by omega
 refine kR ?_;exact r0 [] [(4,a)] [4] (lf (.l [] [] [a]) [0,2] [(1,1)] [])
end
def bS(c:Cf)(x:Mc)(l:List St):Nat→Mc
 | 0=>x
 | k+1=>bif (l.getD k ae).k != 8 then dA c (bS c x l k) (l.getD k ae) else bS c x l k
theorem Gu(c:Cf)(x:Mc)(l:List St):bS c x l 0=x:=rfl
theorem Gv(c:Cf)(x:Mc)(l:List St)(k:Nat):bS c x l (k+1)=bif (l.getD k ae).k != 8 then dA c (bS c x l k) (l.getD k ae) else bS c x l k:=rfl
theorem wi{c:Cf}{x:Mc}{n:Nat}(h:GM c x n){l:List St}(hs:lC l): ∀k,n+k≤900→GM c (bS c x l k) (n+k)
 | 0,_=>h
 | k+1,b=>by
  have a:=wi h hs k Om;rw[Gv];cases (l.getD k ae).k != 8
  ·exact a.mono Om
  ·exact a.step Om (hs.a k)
section
theorem Gw{c:Cf}{x:Mc}{K A N:Nat}(h:ez c x K A N)(s:St):(db c x s).l.length=64:=by
 have a:(lh).length=64:=WN;unfold db vZ
 split
 ·split
  ·exact a
  ·split
   ·split<;>exact a
   ·split
    ·exact a
    ·split
     ·exact a
     ·split
      ·exact a
      ·split
       ·split
        ·exact ow _ (nD h.ct.D _) _
        ·split
         ·exact a
         ·split<;>exact a
       ·exact a
 ·exact a
theorem Gx(f:Fa):StOk (⟨8,0,WJ 64 0,0,f.x0,f.x1,f.x2,f.x3,f.x4,f.x5,f.x6,f.x7⟩:St):=⟨WN,by show(0:Nat)<_;decide⟩
attribute [local irreducible] bS dA db qm
end
theorem aa.inWN{P:Program}{f:FuncId}{args:Array Value}{v:ab→Value}{x y:aA}{T T':aj→Prop}{N:ab→aj}{n:Nat}(h:aa P f args [x] [0] (λE=>y::N E) v)(l: ∀E,(N E).length=n)(m: ∀L,T L→∃j:Nat,L[j]? =some x∧T' (L.set j y)):aa P f args [pk T] [0] (λE=>(pk T')::N E) v:=by
 refine aa.pkW (n:=n) (N:=N) h.ent λL k=>?_;obtain⟨j,g,b⟩:=m L k;have a:=(List.getElem?_eq_some_iff.1 g).1;refine⟨[j],λ_=>[y],⟨h.ent,λw cs c d=>?_⟩,by simp [dc,a],λE=>⟨rfl,l E,?_⟩⟩
 ·rw[W9] at c;have o:=iW c;have:=h.out w [cs.getD j []] ⟨mj c g,trivial⟩ ⟨λy i=>d.obj y (by
   rw[Xn,XA,W9] at i;exact List.mem_flatten.2 ⟨_,m3 Om,i⟩),by
   rw[Xn,XA,W9];exact(pz d.nd).1 j⟩
  simpa using this
 ·have e:j9 ([j].zip [y]) 0 L=L.set j y:=by
   apply List.ext_getElem?;intro p;rw[uS,Xb,XL];by_cases e:j=p
   ·subst e;simp [cv,a]
   ·rw[ALifn e];cases L[p]?<;>simp [cv,e]
  show T' (j9 ([j].zip [y]) 0 L);rw[e];exact b
theorem Vu(g d i m j l h o f b a k:Nat)(c:Cf)(x:Mc)(r:gN c x.x.V.D):aa WK 37 #[pt a 0] [pk (aH g d i m j l h o f b a k c x)] [0] (λE=>[pk (aH g d i m j l h o f b a k c x),cG (E.val 0) x.x.V.D.H]) (λE=>(E.val 0)):=
 aa.inWN (n:=1) (aa.inWN (n:=1) (aa.inWN (n:=1) (RP a c x.x.V.D r) (λ_=>rfl) (T:=bk b a c x.x.V) (T':=bk b a c x.x.V) λL ⟨q,p,v,e⟩=>⟨1,by rw[e];rfl,q,p,v,by rw[e];rfl⟩) (λ_=>rfl) (T:=aQ d i m j l h o f b a k c x.x) (T':=aQ d i m j l h o f b a k c x.x) λL ⟨u,e⟩=>⟨6,by rw[e];rfl,u,by rw[e];rfl⟩) (λ_=>rfl) λL ⟨gi,s,vs,e⟩=>⟨1,by rw[e];rfl,gi,s,vs,by rw[e];rfl⟩
section
theorem Vv(r s b m c way g mode q n o k a heavy f:Int)(e:Bool)(h:mQ r s b m c way g mode q n o k a heavy f=false)(v u t:Value)(l:List St)(D:List Fa)(K:List St):aa WK 7 #[.agg #[i6 r,i6 s,i6 b,i6 m,i6 c,i6 way,i6 g,i6 mode,i6 q,i6 n,i6 o,i6 k,i6 a,i6 heavy,i6 f,.bool e],v,u,t] [.p (λi=>aG eSt v l i∧aG eFa u D i∧aG eSt t K i),.p (λi=>i=[]),.p (λi=>i=[])] [] N0 (λ_=> .bool true):=by
 have z:=Tryz.func7;have x:=enters_of z Kr rfl;refine aa.ro 0 rfl (λA j=>?_) x;refine aa.ro 1 rfl (λB F=>?_) x;refine aa.ro 2 rfl (λC G=>?_) x;have H:=j.1;have I:=j.2.1;have J:=j.2.2;refine fE z (λw cs=>?_) x;exact ra (λy=>[(4,pt (B0 y) 0),(8,.bool false)]) (λy=>[ob (B0 y) #[i6 r,i6 s,i6 b,i6 m,i6 c,i6 way,i6 g,i6 mode,i6 q,i6 n,i6 o,i6 k,i6 a,i6 heavy,i6 f,.bool e] 31]) λy=>rF [(0,.c [] [] (qo))] 17 (r0 [(0,.l 3),(1,.c [] [] (F1 r s b m c way g mode q n o k a heavy f e h)),(2,.l 3),(3,.c [] [] (F1 r s b m c way g mode q n o k a heavy f e h))] [(9,.pointer none),(10,.pointer none)] [] (rT [(3,.d),(4,.d),(7,.d),(8,.d),(9,.d),(12,.d),(13,.d),(14,.d),(17,.d),(18,.d),(19,.d)] 42 (r0 [] [(8,.bool true)] [8] (lf ab.zero [] [(0,0),(1,1),(2,2)] []))))
theorem Vw(c:Cf)(e:cr c)(hs:mV c=false)(v u t:Value)(l:List St)(m:List Fa)(x:List St):aa WK 7 #[.agg (cA c),v,u,t] [.p (λa=>aG eSt v l a∧aG eFa u m a∧aG eSt t x a),.p (λa=>a=[]),.p (λa=>a=[])] [] N0 (λ_=> .bool true):=by
 have h:=Tryz.func7;have f:=enters_of h Kr rfl;refine aa.ro 0 rfl (λi b=>?_) f;refine aa.ro 1 rfl (λj n=>?_) f;refine aa.ro 2 rfl (λk o=>?_) f;have q:=b.1;have r:=b.2.1;have s:=b.2.2;refine fE h (λw cs=>?_) f;exact ra (λg=>[(4,pt (B0 g) 0),(8,.bool false)]) (λg=>[ob (B0 g) (cA c) 31]) λg=>rF [(0,.c [] [] (qo))] 17 (r0 [(0,.l 3),(1,.c [] [] (F8 c e hs)),(2,.l 3),(3,.c [] [] (F8 c e hs))] [(9,.pointer none),(10,.pointer none)] [] (rT [(3,.d),(4,.d),(7,.d),(8,.d),(9,.d),(12,.d),(13,.d),(14,.d),(17,.d),(18,.d),(19,.d)] 42 (r0 [] [(8,.bool true)] [8] (lf ab.zero [] [(0,0),(1,1),(2,2)] []))))
theorem Vx(c:Cf)(f:cr c)(hs:mV c=true)(v u t:Value)(l:List St)(o:List Fa)(y:List St)(z:80<l.length):aa WK 7 #[.agg (cA c),v,u,t] [.p (λb=>aG eSt v l b∧aG eFa u o b∧aG eSt t y b),.p (λb=>b=[]),.p (λb=>b=[])] [] N0 (λ_=> .bool true):=by
 have j:=Tryz.func7;have g:=enters_of j Kr rfl;refine aa.ro 0 rfl (λk e=>?_) g;refine aa.ro 1 rfl (λm q=>?_) g;refine aa.ro 2 rfl (λn r=>?_) g;have i:=e.1;have s:=e.2.1;have x:=e.2.2;refine fE j (λw cs=>?_) g;exact ra (λh=>[(4,pt (B0 h) 0),(8,.bool false)]) (λh=>[ob (B0 h) (cA c) 31]) λh=>rF [(0,.c [] [] (qo))] 17 (rr (λ_=>[(0,.l 3),(1,.c [] [4] (nJ c f hs)),(2,.l 3),(3,.c [] [5] (nJ c f hs))]) (λa=>[(9,pt ((B1 a)) 0),(10,pt ((B3 a)) 0)]) [] (λa L=>L++[pk (aH (B1 a) (((a 1).y 1)) (((a 1).y 2)) (((a 1).y 3)) (((a 1).y 4)) (((a 1).y 5)) (((a 1).y 6)) (((a 1).y 7)) (((a 1).y 8)) (((a 1).y 9)) (((a 1).y 10)) (((a 1).y 11)) c (bc c)),pk (aH (B3 a) (((a 3).y 1)) (((a 3).y 2)) (((a 3).y 3)) (((a 3).y 4)) (((a 3).y 5)) (((a 3).y 6)) (((a 3).y 7)) (((a 3).y 8)) (((a 3).y 9)) (((a 3).y 10)) (((a 3).y 11)) c (bc c))]) λa=>rT [(8,du i.1 0),(9,.t (tk (show Value.bool (decide (80<(l.length:Int)))= .bool true from ALca Value.bool (by exact cD Om)))),(12,.d),(13,.d),(14,.d),(17,.d),(18,.d),(19,.d)] 42 (r0 [] [(8,.bool true)] [8] (lf ab.zero [] [(0,0),(1,1),(2,2)] [])))
theorem Vy(c:Cf)(f:cr c)(hs:mV c=true)(v u t:Value)(l:List St)(r:List Fa)(k:List St)(z:l.length≤80)(A:40<k.length):aa WK 7 #[.agg (cA c),v,u,t] [.p (λb=>aG eSt v l b∧aG eFa u r b∧aG eSt t k b),.p (λb=>b=[]),.p (λb=>b=[])] [] N0 (λ_=> .bool true):=by
 have m:=Tryz.func7;have g:=enters_of m Kr rfl;refine aa.ro 0 rfl (λn e=>?_) g;refine aa.ro 1 rfl (λo s=>?_) g;refine aa.ro 2 rfl (λq x=>?_) g;have i:=e.1;have y:=e.2.1;have j:=e.2.2;refine fE m (λw cs=>?_) g;exact ra (λh=>[(4,pt (B0 h) 0),(8,.bool false)]) (λh=>[ob (B0 h) (cA c) 31]) λh=>rF [(0,.c [] [] (qo))] 17 (rr (λ_=>[(0,.l 3),(1,.c [] [4] (nJ c f hs)),(2,.l 3),(3,.c [] [5] (nJ c f hs))]) (λa=>[(9,pt ((B1 a)) 0),(10,pt ((B3 a)) 0)]) [] (λa L=>L++[pk (aH (B1 a) (((a 1).y 1)) (((a 1).y 2)) (((a 1).y 3)) (((a 1).y 4)) (((a 1).y 5)) (((a 1).y 6)) (((a 1).y 7)) (((a 1).y 8)) (((a 1).y 9)) (((a 1).y 10)) (((a 1).y 11)) c (bc c)),pk (aH (B3 a) (((a 3).y 1)) (((a 3).y 2)) (((a 3).y 3)) (((a 3).y 4)) (((a 3).y 5)) (((a 3).y 6)) (((a 3).y 7)) (((a 3).y 8)) (((a 3).y 9)) (((a 3).y 10)) (((a 3).y 11)) c (bc c))]) λa=>rT [(8,du i.1 0),(9,.t (tk (show Value.bool (decide (80<(l.length:Int)))= .bool false from ALca Value.bool (by exact bf Om)))),(13,du j.1 0),(14,.t (tk (show Value.bool (decide (40<(k.length:Int)))= .bool true from ALca Value.bool (by exact cD Om)))),(17,.d),(18,.d),(19,.d)] 42 (r0 [] [(8,.bool true)] [8] (lf ab.zero [] [(0,0),(1,1),(2,2)] [])))
theorem Vz(c:Cf)(e:cr c)(hs:mV c=true)(v u t:Value)(l:List St)(h:List Fa)(m:List St)(z:l.length≤80)(A:m.length≤40)(s:20<h.length):aa WK 7 #[.agg (cA c),v,u,t] [.p (λb=>aG eSt v l b∧aG eFa u h b∧aG eSt t m b),.p (λb=>b=[]),.p (λb=>b=[])] [] N0 (λ_=> .bool true):=by
 have n:=Tryz.func7;have f:=enters_of n Kr rfl;refine aa.ro 0 rfl (λo d=>?_) f;refine aa.ro 1 rfl (λq x=>?_) f;refine aa.ro 2 rfl (λr y=>?_) f;have i:=d.1;have j:=d.2.1;have k:=d.2.2;refine fE n (λw cs=>?_) f;exact ra (λg=>[(4,pt (B0 g) 0),(8,.bool false)]) (λg=>[ob (B0 g) (cA c) 31]) λg=>rF [(0,.c [] [] (qo))] 17 (rr (λ_=>[(0,.l 3),(1,.c [] [4] (nJ c e hs)),(2,.l 3),(3,.c [] [5] (nJ c e hs))]) (λa=>[(9,pt ((B1 a)) 0),(10,pt ((B3 a)) 0)]) [] (λa L=>L++[pk (aH (B1 a) (((a 1).y 1)) (((a 1).y 2)) (((a 1).y 3)) (((a 1).y 4)) (((a 1).y 5)) (((a 1).y 6)) (((a 1).y 7)) (((a 1).y 8)) (((a 1).y 9)) (((a 1).y 10)) (((a 1).y 11)) c (bc c)),pk (aH (B3 a) (((a 3).y 1)) (((a 3).y 2)) (((a 3).y 3)) (((a 3).y 4)) (((a 3).y 5)) (((a 3).y 6)) (((a 3).y 7)) (((a 3).y 8)) (((a 3).y 9)) (((a 3).y 10)) (((a 3).y 11)) c (bc c))]) λa=>rT [(8,du i.1 0),(9,.t (tk (show Value.bool (decide (80<(l.length:Int)))= .bool false from ALca Value.bool (by exact bf Om)))),(13,du k.1 0),(14,.t (tk (show Value.bool (decide (40<(m.length:Int)))= .bool false from ALca Value.bool (by exact bf Om)))),(18,du j.1 0),(19,.t (tk (show Value.bool (decide (20<(h.length:Int)))= .bool true from ALca Value.bool (by exact cD Om))))] 42 (r0 [] [(8,.bool true)] [8] (lf ab.zero [] [(0,0),(1,1),(2,2)] [])))
abbrev zT(f:Fa):St:=⟨8,0,WJ 64 0,0,f.x0,f.x1,f.x2,f.x3,f.x4,f.x5,f.x6,f.x7⟩
def iT(c:Cf)(x:Mc)(d:List Nat)(a:List Fa):Nat→Mc
 | 0=>x
 | k+1=>bif kk c (a.getD k aZ) d then dA c (iT c x d a k) (zT (a.getD k aZ)) else iT c x d a k
theorem VA(c:Cf)(x:Mc)(d:List Nat)(a:List Fa):iT c x d a 0=x:=rfl
theorem wj(c:Cf)(x:Mc)(d:List Nat)(a:List Fa)(k:Nat):iT c x d a (k+1)=bif kk c (a.getD k aZ) d then dA c (iT c x d a k) (zT (a.getD k aZ)) else iT c x d a k:=rfl
theorem wk{c:Cf}{x:Mc}{n:Nat}(h:GM c x n)(d:List Nat)(a:List Fa): ∀k,n+k≤900→GM c (iT c x d a k) (n+k)
 | 0,_=>h
 | k+1,e=>by
  have b:=wk h d a k Om;rw[wj];cases kk c (a.getD k aZ) d
  ·exact b.mono Om
  ·exact b.step Om (Gx _)
def l9(c:Cf)(b a:Mc)(s:St):Option Bool:=bif s.k==8 then none else bif decide (0<(a.x.V.D.H.length:Int)) then some true else bif !(((db c b s).e==(db c a s).e&&((db c b s).n==(db c a s).n&&true))&&decide ((db c b s).l=(db c a s).l)) then some false else none
theorem Gy{c:Cf}{a b:Mc}{s:St}(h:(s.k==8)=true):l9 c a b s=none:=by unfold l9;rw[h,ALct]
theorem VB{c:Cf}{b a:Mc}{s:St}(h:(s.k==8)=false)(h2:decide (0<(a.x.V.D.H.length:Int))=false)(d:(!(((db c b s).e==(db c a s).e&&((db c b s).n==(db c a s).n&&true))&&decide ((db c b s).l=(db c a s).l)))=false):l9 c b a s=none:=by unfold l9;rw[h,h2,d,ALcf,ALcf,ALcf]
def iU(c:Cf)(d e:Mc)(a:List St):Nat→Option Bool
 | 0=>none
 | k+1=>match iU c d e a k with
  | some b=>some b
  | none=>l9 c (bS c d a k) (bS c e a k) (a.getD k ae)
theorem qp{c:Cf}{b d:Mc}{a:List St}{k:Nat}{r:Option Bool}(h:iU c b d a k=none)(h2:l9 c (bS c b a k) (bS c d a k) (a.getD k ae)=r):iU c b d a (k+1)=r:=by
 unfold iU;rw[h];exact h2
theorem zU{c:Cf}{d e:Mc}{a:List St}{k:Nat}{b:Bool}(h:iU c d e a k=some b): ∀n,iU c d e a (k+n)=some b
 | 0=>h
 | n+1=>by
  show iU c d e a (k+n+1)=some b;unfold iU;rw[zU h n]
theorem Gz{c:Cf}{d e:Mc}{a:List St}{k:Nat}{b:Bool}(g:k<a.length)(h:iU c d e a k=none)(h2:l9 c (bS c d a k) (bS c e a k) (a.getD k ae)=some b):(iU c d e a a.length).getD true=b:=by
 have f:=zU (qp h h2) (a.length-(k+1));rw[show k+1+(a.length-(k+1))=a.length by omega] at f;rw[f];rfl
theorem qq(c:Cf)(x:Mc)(l:List St)(k:Nat):bS c x l (k+1)=bif ((l.getD k ae).k==8) then bS c x l k else dA c (bS c x l k) (l.getD k ae):=by
 rw[Gv];show(bif !((l.getD k ae).k==8) then _ else _)=_;cases (l.getD k ae).k==8<;>rfl
attribute [local irreducible] bS bq iT dA db dB kk iU
theorem VC(c:Cf)(B:cr c)(hs:mV c=true)(v u t:Value)(l:List St)(i:List Fa)(a:List St)(hl:l.length≤80)(hm:a.length≤40)(hf9:i.length≤20)(O:lC l)(P:lC a):aa WK 7 #[.agg (cA c),v,u,t] [.p (λI=>aG eSt v l I∧aG eFa u i I∧aG eSt t a I),.p (λI=>I=[]),.p (λI=>I=[])] [] N0 (λ_=> .bool ((iU c (iT c (bq c (bc c) l l.length) (dB (bq c (bc c) l l.length).x.s.r.m (bq c (bc c) l l.length).x.s.r.m.R) i i.length) (bq c (bc c) l l.length) a a.length).getD true)):=by
 obtain⟨sF,A⟩: ∃f:Mc→St→Mc,∀x s,dA c x s=f x s:=⟨dA c,λ_ _=>rfl⟩;obtain⟨o,y⟩: ∃f:Mc→St→An,∀x s,db c x s=f x s:=⟨db c,λ_ _=>rfl⟩;have hDo: ∀(g gc gl gr gm gq gk gt gg gd ge go:Nat) (x:Mc) (n:Nat) (h:GM c x n) (hn:n≤900) (s:St) (hs:StOk s),aa WK 16 #[pt g 0,.agg (eSt s).toArray] [pk (aH g gc gl gr gm gq gk gt gg gd ge go c x)] [0] (λ_=>[pk (aH g gc gl gr gm gq gk gt gg gd ge go c (sF x s))]) (λ_=> .agg (sP (o x s)).toArray):=λg gc gl gr gm gq gk gt gg gd ge go x n h hn s hs=>by rw[←A,←y];exact qn g gc gl gr gm gq gk gt gg gd ge go c x n h hn s hs
 have g0:=GM.start B;have hl0:0+l.length≤900:=by omega
 have Z:GM c (bq c (bc c) l l.length) 80:=(s6 g0 O l.length Om).mono Om;have hr:=Z.ok.ct.s.r;have hG:b6 (bq c (bc c) l l.length).x.s.r.m.R (bq c (bc c) l l.length).x.s.r.m.S (bq c (bc c) l l.length).x.s.r.m.B (bq c (bc c) l l.length).x.s.r.m.M (bq c (bc c) l l.length).x.s.r.m.C:=hr.m.O;have hgl:=Ga hG (Xk _);have hgm9:(dB (bq c (bc c) l l.length).x.s.r.m (bq c (bc c) l l.length).x.s.r.m.R).length≤1000000:=WL hgl Dc;have g2:GM c (iT c (bq c (bc c) l l.length) (dB (bq c (bc c) l l.length).x.s.r.m (bq c (bc c) l l.length).x.s.r.m.R) i i.length) 100:=(wk Z (dB (bq c (bc c) l l.length).x.s.r.m (bq c (bc c) l l.length).x.s.r.m.R) i i.length Om).mono Om;have hf:=Tryz.func7;have hE:=enters_of hf Kr rfl;refine aa.ro 0 rfl (λU N=>?_) hE;refine aa.ro 1 rfl (λbq1 hh1=>?_) hE;refine aa.ro 2 rfl (λbq2 hh2=>?_) hE;have Q:=N.1;have C:=N.2.1;have D:=N.2.2;refine fE hf (λw cs=>?_) hE;refine ra (λq1=>[(4,pt (B0 q1) 0),(8,.bool false)]) (λq1=>[ob (B0 q1) (cA c) 31]) λq1=>rF [(0,.c [] [] (qo))] 17 (rr (λ_=>[(0,.l 3),(1,.c [] [4] (nJ c B hs)),(2,.l 3),(3,.c [] [5] (nJ c B hs))]) (λb=>[(9,pt ((B1 b)) 0),(10,pt ((B3 b)) 0)]) [] (λb L=>L++[pk (aH (B1 b) (((b 1).y 1)) (((b 1).y 2)) (((b 1).y 3)) (((b 1).y 4)) (((b 1).y 5)) (((b 1).y 6)) (((b 1).y 7)) (((b 1).y 8)) (((b 1).y 9)) (((b 1).y 10)) (((b 1).y 11)) c (bc c)),pk (aH (B3 b) (((b 3).y 1)) (((b 3).y 2)) (((b 3).y 3)) (((b 3).y 4)) (((b 3).y 5)) (((b 3).y 6)) (((b 3).y 7)) (((b 3).y 8)) (((b 3).y 9)) (((b 3).y 10)) (((b 3).y 11)) c (bc c))]) λb=>rF [(8,du Q.1 0),(9,.t (tk (show Value.bool (decide (80<(l.length:Int)))= .bool false from ALca Value.bool (by exact bf Om)))),(13,du D.1 0),(14,.t (tk (show Value.bool (decide (40<(a.length:Int)))= .bool false from ALca Value.bool (by exact bf Om)))),(18,du C.1 0),(19,.t (tk (show Value.bool (decide (20<(i.length:Int)))= .bool false from ALca Value.bool (by exact bf Om))))] 42 (rr (λ_=>[(2,.c [4,0] [4,6] (aa.at (rd':=[pk (aH (B1 b) (((b 1).y 1)) (((b 1).y 2)) (((b 1).y 3)) (((b 1).y 4)) (((b 1).y 5)) (((b 1).y 6)) (((b 1).y 7)) (((b 1).y 8)) (((b 1).y 9)) (((b 1).y 10)) (((b 1).y 11)) c (bc c)),.c U]) (Gt (B1 b) ((b 1).y 1) ((b 1).y 2) ((b 1).y 3) ((b 1).y 4) ((b 1).y 5) ((b 1).y 6) ((b 1).y 7) ((b 1).y 8) ((b 1).y 9) ((b 1).y 10) ((b 1).y 11) c (bc c) _ g0 v l hl0 O) (aP (ec Q (λ_ h=>h)))))]) N0 [] (λq5 L=>L.set 4 ((pk (aH (B1 b) ((b 1).y 1) ((b 1).y 2) ((b 1).y 3) ((b 1).y 4) ((b 1).y 5) ((b 1).y 6) ((b 1).y 7) ((b 1).y 8) ((b 1).y 9) ((b 1).y 10) ((b 1).y 11) c (bq c (bc c) l l.length))))++[sQ ((q5 2).val 0) (lB c (bc c) l l.length)]) λq5=>rr (λ_=>[(2,.c [5,0] [5,7] (aa.at (rd':=[pk (aH (B3 b) (((b 3).y 1)) (((b 3).y 2)) (((b 3).y 3)) (((b 3).y 4)) (((b 3).y 5)) (((b 3).y 6)) (((b 3).y 7)) (((b 3).y 8)) (((b 3).y 9)) (((b 3).y 10)) (((b 3).y 11)) c (bc c)),.c U]) (Gt (B3 b) ((b 3).y 1) ((b 3).y 2) ((b 3).y 3) ((b 3).y 4) ((b 3).y 5) ((b 3).y 6) ((b 3).y 7) ((b 3).y 8) ((b 3).y 9) ((b 3).y 10) ((b 3).y 11) c (bc c) _ g0 v l hl0 O) (aP (ec Q (λ_ h=>h)))))]) N0 [] (λq6 L=>L.set 5 ((pk (aH (B3 b) ((b 3).y 1) ((b 3).y 2) ((b 3).y 3) ((b 3).y 4) ((b 3).y 5) ((b 3).y 6) ((b 3).y 7) ((b 3).y 8) ((b 3).y 9) ((b 3).y 10) ((b 3).y 11) c (bq c (bc c) l l.length))))++[sQ ((q6 2).val 0) (lB c (bc c) l l.length)]) λq6=>rr (λ_=>[(1,.c [4] [4,8] (U5 (B1 b) ((b 1).y 1) ((b 1).y 2) ((b 1).y 3) ((b 1).y 4) ((b 1).y 5) ((b 1).y 6) ((b 1).y 7) ((b 1).y 8) ((b 1).y 9) ((b 1).y 10) ((b 1).y 11) c (bq c (bc c) l l.length) hr))]) (λS=>[(11,((S 1).val 0))]) [] (λS L=>L++[bo ((S 1).val 0) (dB (bq c (bc c) l l.length).x.s.r.m (bq c (bc c) l l.length).x.s.r.m.R)]) λS=>r0 [(1,du C.1 0)] [(51,u),(52,iN i.length),(53,i6 0)] [] ?_));refine lq (λk=>k≤i.length) (λk=>[(53,iN k)]) (λk L=>L.set 4 ((pk (aH (B1 b) ((b 1).y 1) ((b 1).y 2) ((b 1).y 3) ((b 1).y 4) ((b 1).y 5) ((b 1).y 6) ((b 1).y 7) ((b 1).y 8) ((b 1).y 9) ((b 1).y 10) ((b 1).y 11) c (iT c (bq c (bc c) l l.length) (dB (bq c (bc c) l l.length).x.s.r.m (bq c (bc c) l l.length).x.s.r.m.R) i k))))) (λk=>i.length-k) 0 Om Kr (by rw[VA];kernel_rfl) (λk hk9=>?_);have hkk:=hk9;have hga:=wk Z (dB (bq c (bc c) l l.length).x.s.r.m (bq c (bc c) l l.length).x.s.r.m.R) i k Om;have hna:80+k≤900:=by omega
 have hsa:=Gx (i.getD k aZ);refine r0 [] [(54,.bool (decide ((k:Int)<(i.length:Int))))] [] ?_;refine bW (k:Int) (i.length:Int) (λh11 V=>?_) λh11 V=>?_
 ·refine rr (λ_=>[(0,eU C.1 0 k 8),(1,mx kD C.1 0 k 0 8),(3,.s 9)]) (λF=>[(13,pt (B2 F) 0)]) [] (λF L=>L++[ob (B2 F) #[i6 ((i.getD k aZ).x0),i6 ((i.getD k aZ).x1),i6 ((i.getD k aZ).x2),i6 ((i.getD k aZ).x3),i6 ((i.getD k aZ).x4),i6 ((i.getD k aZ).x5),i6 ((i.getD k aZ).x6),i6 ((i.getD k aZ).x7)] 48]) λF=>r0 [(0,.l 3),(1,.l 9),(3,.c [8] [] (aa.at (rd':=[bo ((S 1).val 0) (dB (bq c (bc c) l l.length).x.s.r.m (bq c (bc c) l l.length).x.s.r.m.R)]) (U8 c B (i.getD k aZ) ((S 1).val 0) (dB (bq c (bc c) l l.length).x.s.r.m (bq c (bc c) l l.length).x.s.r.m.R) hgm9) (bL (λ_ h=>aq.sq h) (λ_ h=>h))))] [(60,.bool (kk c (i.getD k aZ) (dB (bq c (bc c) l l.length).x.s.r.m (bq c (bc c) l l.length).x.s.r.m.R)))] [] ?_;refine cB (kk c (i.getD k aZ) (dB (bq c (bc c) l l.length).x.s.r.m (bq c (bc c) l l.length).x.s.r.m.R)) (λJ=>?_) λJ=>?_
  ·exact rr (λ_=>[(1,.l 9),(3,.c [4] [4] (qn (B1 b) ((b 1).y 1) ((b 1).y 2) ((b 1).y 3) ((b 1).y 4) ((b 1).y 5) ((b 1).y 6) ((b 1).y 7) ((b 1).y 8) ((b 1).y 9) ((b 1).y 10) ((b 1).y 11) c (iT c (bq c (bc c) l l.length) (dB (bq c (bc c) l l.length).x.s.r.m (bq c (bc c) l l.length).x.s.r.m.R) i k) _ hga hna (⟨8,0,z6,0,((i.getD k aZ).x0),((i.getD k aZ).x1),((i.getD k aZ).x2),((i.getD k aZ).x3),((i.getD k aZ).x4),((i.getD k aZ).x5),((i.getD k aZ).x6),((i.getD k aZ).x7)⟩:St) hsa))]) N0 [] (λ_ L=>L.set 4 ((pk (aH (B1 b) ((b 1).y 1) ((b 1).y 2) ((b 1).y 3) ((b 1).y 4) ((b 1).y 5) ((b 1).y 6) ((b 1).y 7) ((b 1).y 8) ((b 1).y 9) ((b 1).y 10) ((b 1).y 11) c (dA c (iT c (bq c (bc c) l l.length) (dB (bq c (bc c) l l.length).x.s.r.m (bq c (bc c) l l.length).x.s.r.m.R) i k) (⟨8,0,z6,0,((i.getD k aZ).x0),((i.getD k aZ).x1),((i.getD k aZ).x2),((i.getD k aZ).x3),((i.getD k aZ).x4),((i.getD k aZ).x5),((i.getD k aZ).x6),((i.getD k aZ).x7)⟩:St)))))) λq15=>r0 [(0,ad k 1)] [(53,i6 ((k+1:Nat):Int))] [53] (le (k+1) Om Om Kr [0,1,2,3,4,5,6,7,8] (by rw[wj];(repeat (first | rw[J] | rw[ALct]));kernel_rfl))
  exact r0 [(0,ad k 1)] [(53,i6 ((k+1:Nat):Int))] [53] (le (k+1) Om Om Kr [0,1,2,3,4,5,6,7,8] (by rw[wj];(repeat (first | rw[J] | rw[ALcf]));kernel_rfl))
 obtain rfl:k=i.length:=by omega
 refine lx ?_;generalize ea9:(iT c (bq c (bc c) l l.length) (dB (bq c (bc c) l l.length).x.s.r.m (bq c (bc c) l l.length).x.s.r.m.R) i i.length)=r at g2⊢;generalize eb9:(bq c (bc c) l l.length)=q at Z⊢;refine r0 [(1,du D.1 0)] [(66,t),(67,iN a.length),(68,i6 0)] [] ?_;refine lq (λj=>j≤a.length∧(iU c r q a j=none)) (λj=>[(68,iN j)]) (λj L=>(L.set 4 ((pk (aH (B1 b) ((b 1).y 1) ((b 1).y 2) ((b 1).y 3) ((b 1).y 4) ((b 1).y 5) ((b 1).y 6) ((b 1).y 7) ((b 1).y 8) ((b 1).y 9) ((b 1).y 10) ((b 1).y 11) c (bS c r a j))))).set 5 ((pk (aH (B3 b) ((b 3).y 1) ((b 3).y 2) ((b 3).y 3) ((b 3).y 4) ((b 3).y 5) ((b 3).y 6) ((b 3).y 7) ((b 3).y 8) ((b 3).y 9) ((b 3).y 10) ((b 3).y 11) c (bS c q a j))))) (λj=>a.length-j) 0 ⟨by omega,(by unfold iU;rfl)⟩ Kr (by rw[Gu,Gu];kernel_rfl) (λj ⟨hk19,hw⟩=>?_);have hkk:=hk19;have hgb:=wi g2 P j Om;have M:=wi Z P j Om;have hnb:100+j≤900:=by omega
 have hnc:80+j≤900:=by omega
 have R:=P.a j;have hsd:=R.d;have T:=M.ok.ct.D;have hcl:=T.l2;have hal:(o (bS c r a j) (⟨((a.getD j ae).k),((a.getD j ae).ln),((a.getD j ae).d),((a.getD j ae).m),((a.getD j ae).f0),((a.getD j ae).f1),((a.getD j ae).f2),((a.getD j ae).f3),((a.getD j ae).f4),((a.getD j ae).f5),((a.getD j ae).f6),((a.getD j ae).f7)⟩:St)).l.length=64:=by rw[←y];exact Gw hgb.ok _
 have hbl:(o (bS c q a j) (⟨((a.getD j ae).k),((a.getD j ae).ln),((a.getD j ae).d),((a.getD j ae).m),((a.getD j ae).f0),((a.getD j ae).f1),((a.getD j ae).f2),((a.getD j ae).f3),((a.getD j ae).f4),((a.getD j ae).f5),((a.getD j ae).f6),((a.getD j ae).f7)⟩:St)).l.length=64:=by rw[←y];exact Gw M.ok _
 refine r0 [] [(69,.bool (decide ((j:Int)<(a.length:Int))))] [] ?_;refine bW (j:Int) (a.length:Int) (λh21 W=>?_) λh21 W=>?_
 ·refine rr (λ_=>[(0,eU D.1 0 j 75),(1,mx Fv D.1 0 j 0 75),(3,.s 9)]) (λG=>[(15,pt (B2 G) 0)]) [] (λG L=>L++[ob (B2 G) (sV ((a.getD j ae).k) ((a.getD j ae).ln) ((a.getD j ae).d) ((a.getD j ae).m:Nat) ((a.getD j ae).f0) ((a.getD j ae).f1) ((a.getD j ae).f2) ((a.getD j ae).f3) ((a.getD j ae).f4) ((a.getD j ae).f5) ((a.getD j ae).f6) ((a.getD j ae).f7)) 50]) λG=>r0 [(1,.l 9)] [(74,.bool (((a.getD j ae).k)==8))] [] ?_;refine cN ((a.getD j ae).k) 8 (λz X=>?_) λz X=>?_
  ·exact r0 [(0,ad j 1)] [(68,i6 ((j+1:Nat):Int))] [68] (le (j+1) ⟨by omega,qp hw (by exact Gy As)⟩ Om Kr [0,1,2,3,4,5,6,7,8] (by rw[qq,qq];(repeat (first | rw[z] | rw[ALct]));(try rw[A,A]);kernel_rfl))
  refine rr (λH=>[(1,.c [5] [5] (v9 (B3 b) ((b 3).y 1) ((b 3).y 2) ((b 3).y 3) ((b 3).y 4) ((b 3).y 5) ((b 3).y 6) ((b 3).y 7) ((b 3).y 8) ((b 3).y 9) ((b 3).y 10) ((b 3).y 11) c (bS c q a j))),(2,.c [5] [5] (F5 (B3 b) ((b 3).y 1) ((b 3).y 2) ((b 3).y 3) ((b 3).y 4) ((b 3).y 5) ((b 3).y 6) ((b 3).y 7) ((b 3).y 8) ((b 3).y 9) ((b 3).y 10) ((b 3).y 11) c (bS c q a j))),(3,.c [5] [5,10] (Vu (B3 b) ((b 3).y 1) ((b 3).y 2) ((b 3).y 3) ((b 3).y 4) ((b 3).y 5) ((b 3).y 6) ((b 3).y 7) ((b 3).y 8) ((b 3).y 9) ((b 3).y 10) ((b 3).y 11) c (bS c q a j) T)),(4,e8 kD ((H 3).val 0) ((bS c q a j).x.V.D.H) 10)]) (λ_=>[(80,.bool (decide (0<((((bS c q a j).x.V.D.H).length:Nat):Int))))]) [] (λH L=>L.set 5 ((pk (aH (B3 b) ((b 3).y 1) ((b 3).y 2) ((b 3).y 3) ((b 3).y 4) ((b 3).y 5) ((b 3).y 6) ((b 3).y 7) ((b 3).y 8) ((b 3).y 9) ((b 3).y 10) ((b 3).y 11) c (bS c q a j))))++[cG ((H 3).val 0) ((bS c q a j).x.V.D.H)]) λH=>?_;refine bW 0 ((((bS c q a j).x.V.D.H).length:Nat):Int) (λK Y=>?_) λK Y=>?_
  ·exact r0 [] [(8,.bool true)] [] (ao (.bool true) ab.zero (by(rw[Gz (k:=j) Om hw (by unfold l9;simp only[y];(repeat (first | rw[z] | rw[K] | rw[ALct] | rw[ALcf])))])) [] [(0,0),(1,1),(2,2)] [])
  refine rr (λ_=>[(1,.l 9),(2,.c [4] [4] (hDo (B1 b) ((b 1).y 1) ((b 1).y 2) ((b 1).y 3) ((b 1).y 4) ((b 1).y 5) ((b 1).y 6) ((b 1).y 7) ((b 1).y 8) ((b 1).y 9) ((b 1).y 10) ((b 1).y 11) (bS c r a j) _ (by with_reducible exact hgb) (by with_reducible exact hnb) (⟨((a.getD j ae).k),((a.getD j ae).ln),((a.getD j ae).d),((a.getD j ae).m),((a.getD j ae).f0),((a.getD j ae).f1),((a.getD j ae).f2),((a.getD j ae).f3),((a.getD j ae).f4),((a.getD j ae).f5),((a.getD j ae).f6),((a.getD j ae).f7)⟩:St) R)),(4,.l 9),(5,.c [5] [5] (hDo (B3 b) ((b 3).y 1) ((b 3).y 2) ((b 3).y 3) ((b 3).y 4) ((b 3).y 5) ((b 3).y 6) ((b 3).y 7) ((b 3).y 8) ((b 3).y 9) ((b 3).y 10) ((b 3).y 11) (bS c q a j) _ (by with_reducible exact M) (by with_reducible exact hnc) (⟨((a.getD j ae).k),((a.getD j ae).ln),((a.getD j ae).d),((a.getD j ae).m),((a.getD j ae).f0),((a.getD j ae).f1),((a.getD j ae).f2),((a.getD j ae).f3),((a.getD j ae).f4),((a.getD j ae).f5),((a.getD j ae).f6),((a.getD j ae).f7)⟩:St) R)),(6,.t (iE 53 λ_ _ _=>ja (xs:=([i6 ((o (bS c r a j) (⟨((a.getD j ae).k),((a.getD j ae).ln),((a.getD j ae).d),((a.getD j ae).m),((a.getD j ae).f0),((a.getD j ae).f1),((a.getD j ae).f2),((a.getD j ae).f3),((a.getD j ae).f4),((a.getD j ae).f5),((a.getD j ae).f6),((a.getD j ae).f7)⟩:St)).e),i6 ((o (bS c r a j) (⟨((a.getD j ae).k),((a.getD j ae).ln),((a.getD j ae).d),((a.getD j ae).m),((a.getD j ae).f0),((a.getD j ae).f1),((a.getD j ae).f2),((a.getD j ae).f3),((a.getD j ae).f4),((a.getD j ae).f5),((a.getD j ae).f6),((a.getD j ae).f7)⟩:St)).n)]:List Value)++rB 64 ((o (bS c r a j) (⟨((a.getD j ae).k),((a.getD j ae).ln),((a.getD j ae).d),((a.getD j ae).m),((a.getD j ae).f0),((a.getD j ae).f1),((a.getD j ae).f2),((a.getD j ae).f3),((a.getD j ae).f4),((a.getD j ae).f5),((a.getD j ae).f6),((a.getD j ae).f7)⟩:St)).l)) (ys:=([i6 ((o (bS c q a j) (⟨((a.getD j ae).k),((a.getD j ae).ln),((a.getD j ae).d),((a.getD j ae).m),((a.getD j ae).f0),((a.getD j ae).f1),((a.getD j ae).f2),((a.getD j ae).f3),((a.getD j ae).f4),((a.getD j ae).f5),((a.getD j ae).f6),((a.getD j ae).f7)⟩:St)).e),i6 ((o (bS c q a j) (⟨((a.getD j ae).k),((a.getD j ae).ln),((a.getD j ae).d),((a.getD j ae).m),((a.getD j ae).f0),((a.getD j ae).f1),((a.getD j ae).f2),((a.getD j ae).f3),((a.getD j ae).f4),((a.getD j ae).f5),((a.getD j ae).f6),((a.getD j ae).f7)⟩:St)).n)]:List Value)++rB 64 ((o (bS c q a j) (⟨((a.getD j ae).k),((a.getD j ae).ln),((a.getD j ae).d),((a.getD j ae).m),((a.getD j ae).f0),((a.getD j ae).f1),((a.getD j ae).f2),((a.getD j ae).f3),((a.getD j ae).f4),((a.getD j ae).f5),((a.getD j ae).f6),((a.getD j ae).f7)⟩:St)).l)) Kr (e6 Kr Kr bg (iZ (show((o (bS c r a j) (⟨((a.getD j ae).k),((a.getD j ae).ln),((a.getD j ae).d),((a.getD j ae).m),((a.getD j ae).f0),((a.getD j ae).f1),((a.getD j ae).f2),((a.getD j ae).f3),((a.getD j ae).f4),((a.getD j ae).f5),((a.getD j ae).f6),((a.getD j ae).f7)⟩:St)).l).length=64 by(simp only[LL,hsd,hal,hbl];done)) (show((o (bS c q a j) (⟨((a.getD j ae).k),((a.getD j ae).ln),((a.getD j ae).d),((a.getD j ae).m),((a.getD j ae).f0),((a.getD j ae).f1),((a.getD j ae).f2),((a.getD j ae).f3),((a.getD j ae).f4),((a.getD j ae).f5),((a.getD j ae).f6),((a.getD j ae).f7)⟩:St)).l).length=64 by(simp only[LL,hsd,hal,hbl];done))))))]) (λ_=>[(87,.bool (!((((o (bS c r a j) (⟨((a.getD j ae).k),((a.getD j ae).ln),((a.getD j ae).d),((a.getD j ae).m),((a.getD j ae).f0),((a.getD j ae).f1),((a.getD j ae).f2),((a.getD j ae).f3),((a.getD j ae).f4),((a.getD j ae).f5),((a.getD j ae).f6),((a.getD j ae).f7)⟩:St)).e)==((o (bS c q a j) (⟨((a.getD j ae).k),((a.getD j ae).ln),((a.getD j ae).d),((a.getD j ae).m),((a.getD j ae).f0),((a.getD j ae).f1),((a.getD j ae).f2),((a.getD j ae).f3),((a.getD j ae).f4),((a.getD j ae).f5),((a.getD j ae).f6),((a.getD j ae).f7)⟩:St)).e)&&(((o (bS c r a j) (⟨((a.getD j ae).k),((a.getD j ae).ln),((a.getD j ae).d),((a.getD j ae).m),((a.getD j ae).f0),((a.getD j ae).f1),((a.getD j ae).f2),((a.getD j ae).f3),((a.getD j ae).f4),((a.getD j ae).f5),((a.getD j ae).f6),((a.getD j ae).f7)⟩:St)).n)==((o (bS c q a j) (⟨((a.getD j ae).k),((a.getD j ae).ln),((a.getD j ae).d),((a.getD j ae).m),((a.getD j ae).f0),((a.getD j ae).f1),((a.getD j ae).f2),((a.getD j ae).f3),((a.getD j ae).f4),((a.getD j ae).f5),((a.getD j ae).f6),((a.getD j ae).f7)⟩:St)).n)&&true))&&decide ((o (bS c r a j) (⟨((a.getD j ae).k),((a.getD j ae).ln),((a.getD j ae).d),((a.getD j ae).m),((a.getD j ae).f0),((a.getD j ae).f1),((a.getD j ae).f2),((a.getD j ae).f3),((a.getD j ae).f4),((a.getD j ae).f5),((a.getD j ae).f6),((a.getD j ae).f7)⟩:St)).l=(o (bS c q a j) (⟨((a.getD j ae).k),((a.getD j ae).ln),((a.getD j ae).d),((a.getD j ae).m),((a.getD j ae).f0),((a.getD j ae).f1),((a.getD j ae).f2),((a.getD j ae).f3),((a.getD j ae).f4),((a.getD j ae).f5),((a.getD j ae).f6),((a.getD j ae).f7)⟩:St)).l))))]) [] (λ_ L=>(L.set 4 ((pk (aH (B1 b) ((b 1).y 1) ((b 1).y 2) ((b 1).y 3) ((b 1).y 4) ((b 1).y 5) ((b 1).y 6) ((b 1).y 7) ((b 1).y 8) ((b 1).y 9) ((b 1).y 10) ((b 1).y 11) c (sF (bS c r a j) (⟨((a.getD j ae).k),((a.getD j ae).ln),((a.getD j ae).d),((a.getD j ae).m),((a.getD j ae).f0),((a.getD j ae).f1),((a.getD j ae).f2),((a.getD j ae).f3),((a.getD j ae).f4),((a.getD j ae).f5),((a.getD j ae).f6),((a.getD j ae).f7)⟩:St)))))).set 5 ((pk (aH (B3 b) ((b 3).y 1) ((b 3).y 2) ((b 3).y 3) ((b 3).y 4) ((b 3).y 5) ((b 3).y 6) ((b 3).y 7) ((b 3).y 8) ((b 3).y 9) ((b 3).y 10) ((b 3).y 11) c (sF (bS c q a j) (⟨((a.getD j ae).k),((a.getD j ae).ln),((a.getD j ae).d),((a.getD j ae).m),((a.getD j ae).f0),((a.getD j ae).f1),((a.getD j ae).f2),((a.getD j ae).f3),((a.getD j ae).f4),((a.getD j ae).f5),((a.getD j ae).f6),((a.getD j ae).f7)⟩:St)))))) λq29=>?_;refine cB (!((((o (bS c r a j) (⟨((a.getD j ae).k),((a.getD j ae).ln),((a.getD j ae).d),((a.getD j ae).m),((a.getD j ae).f0),((a.getD j ae).f1),((a.getD j ae).f2),((a.getD j ae).f3),((a.getD j ae).f4),((a.getD j ae).f5),((a.getD j ae).f6),((a.getD j ae).f7)⟩:St)).e)==((o (bS c q a j) (⟨((a.getD j ae).k),((a.getD j ae).ln),((a.getD j ae).d),((a.getD j ae).m),((a.getD j ae).f0),((a.getD j ae).f1),((a.getD j ae).f2),((a.getD j ae).f3),((a.getD j ae).f4),((a.getD j ae).f5),((a.getD j ae).f6),((a.getD j ae).f7)⟩:St)).e)&&(((o (bS c r a j) (⟨((a.getD j ae).k),((a.getD j ae).ln),((a.getD j ae).d),((a.getD j ae).m),((a.getD j ae).f0),((a.getD j ae).f1),((a.getD j ae).f2),((a.getD j ae).f3),((a.getD j ae).f4),((a.getD j ae).f5),((a.getD j ae).f6),((a.getD j ae).f7)⟩:St)).n)==((o (bS c q a j) (⟨((a.getD j ae).k),((a.getD j ae).ln),((a.getD j ae).d),((a.getD j ae).m),((a.getD j ae).f0),((a.getD j ae).f1),((a.getD j ae).f2),((a.getD j ae).f3),((a.getD j ae).f4),((a.getD j ae).f5),((a.getD j ae).f6),((a.getD j ae).f7)⟩:St)).n)&&true))&&decide ((o (bS c r a j) (⟨((a.getD j ae).k),((a.getD j ae).ln),((a.getD j ae).d),((a.getD j ae).m),((a.getD j ae).f0),((a.getD j ae).f1),((a.getD j ae).f2),((a.getD j ae).f3),((a.getD j ae).f4),((a.getD j ae).f5),((a.getD j ae).f6),((a.getD j ae).f7)⟩:St)).l=(o (bS c q a j) (⟨((a.getD j ae).k),((a.getD j ae).ln),((a.getD j ae).d),((a.getD j ae).m),((a.getD j ae).f0),((a.getD j ae).f1),((a.getD j ae).f2),((a.getD j ae).f3),((a.getD j ae).f4),((a.getD j ae).f5),((a.getD j ae).f6),((a.getD j ae).f7)⟩:St)).l))) (λh30=>?_) λh30=>?_
  ·exact r0 [] [(8,.bool false)] [] (ao (.bool false) ab.zero (by(rw[Gz (k:=j) Om hw (by unfold l9;simp only[y];(repeat (first | rw[z] | rw[K] | rw[h30] | rw[ALct] | rw[ALcf])))])) [] [(0,0),(1,1),(2,2)] [])
  exact r0 [(0,ad j 1)] [(68,i6 ((j+1:Nat):Int))] [68] (le (j+1) ⟨by omega,qp hw (by exact VB As As (by simp only[y];assumption))⟩ Om Kr [0,1,2,3,4,5,6,7,8] (by rw[qq,qq];(repeat (first | rw[z] | rw[ALcf]));(try rw[A,A]);kernel_rfl))
 obtain rfl:j=a.length:=by omega
 exact lx (r0 [] [(8,.bool true)] [] (ao (.bool true) ab.zero (by(rw[hw];rfl)) [] [(0,0),(1,1),(2,2)] []))
end
section
structure gu (r:Rp):Prop where
 inj: ∀i k,i<r.m.R*r.m.B*r.m.M-r.m.res→k<r.m.R*r.m.B*r.m.M-r.m.res→r.m.N.getD i 0=r.m.N.getD k 0→i=k
 ld: ∀i,i<r.m.R*r.m.B*r.m.M-r.m.res→r.m.P.getD (r.m.N.getD i 0) false=false
 lt: ∀i,i<r.m.R*r.m.B*r.m.M-r.m.res→r.m.N.getD i 0<r.m.R*r.m.B*r.m.M-r.m.res+r.m.Q
 nt: ∀i,i<r.m.R*r.m.B*r.m.M-r.m.res→r.j.A=1→r.m.N.getD i 0≠r.j.tg
 al: ∀p,p<r.m.R*r.m.B*r.m.M-r.m.res+r.m.Q→r.m.P.getD p false=false→(r.j.A=1∧p=r.j.tg)∨∃i,i<r.m.R*r.m.B*r.m.M-r.m.res∧r.m.N.getD i 0=p
 si: ∀a b,a<r.m.R→b<r.m.R→cy r.m a=true→r.m.I.getD a 0=r.m.I.getD b 0→a=b
 sl: ∀a,a<r.m.R→r.m.I.getD a 0<((r.m.R+r.m.F:Nat):Int)
 st: ∀a,a<r.m.R→r.j.A=2→r.m.I.getD a 0≠(r.j.tg:Int)
theorem qt{m:Mp}{a:Nat}(h:cy m a=true):m.I.getD a 0≠ -1:=by unfold cy at h;simpa using h
theorem wm{R S B M C c p1 p2 p3 d f g h:Nat}(i:gZ R S B M C)(hp:gb R S B M C c p1 p2 p3)(j:gb R S B M C d f g h)(e:bl c p1 p2 p3=bl d f g h):c=d∧p1=f∧p2=g∧p3=h:=by
 have a:=yl i hp;have b:=yl i j;rw[e] at a;exact⟨a.1.symm.trans b.1,a.2.1.symm.trans b.2.1,a.2.2.1.symm.trans b.2.2.1,a.2.2.2.symm.trans b.2.2.2⟩
theorem VD{m:Mp}(h:ba m){p q:Nat}(hp:p<m.R*m.B*m.M)(d:q<m.R*m.B*m.M)(a:aB m.G m.R m.B m.M p=aB m.G m.R m.B m.M q)(b:cQ m.G m.R m.B m.M p=cQ m.G m.R m.B m.M q)(c:cV m.G m.R m.B m.M p=cV m.G m.R m.B m.M q):p=q:=by
 rw[←Du (way:=m.G) h.O hp,←Du (way:=m.G) h.O d,a,b,c]
theorem VE{m:Mp}(h:ba m)(i: ∀a b,a<m.R→b<m.R→cy m a=true→m.I.getD a 0=m.I.getD b 0→a=b){p q:Nat}(e:eX m p=eX m q):aB m.G m.R m.B m.M p=aB m.G m.R m.B m.M q:=by
 have f:=nu (p:=p) (way:=m.G) h.O;have g:=nu (p:=q) (way:=m.G) h.O;unfold eX at e;cases c:cy m (aB m.G m.R m.B m.M p)
 ·cases d:cy m (aB m.G m.R m.B m.M q)
  ·rw[c,d] at e;exact e
  ·rw[c,d,ALcf,ALct] at e;have:=(h.sp _ g).resolve_left (qt d);omega
 ·cases d:cy m (aB m.G m.R m.B m.M q)
  ·rw[c,d,ALcf,ALct] at e;have:=(h.sp _ f).resolve_left (qt c);omega
  ·rw[c,d,ALct,ALct] at e;have j:=(h.sp _ f).resolve_left (qt c);have k:=(h.sp _ g).resolve_left (qt d);exact i _ _ f g c Om
theorem GA{C n k:Nat}(h:n/C=k/C)(g:n%C=k%C):n=k:=by rw[←XP n C,←XP k C,h,g]
theorem VF{m:Mp}(h:ba m)(t: ∀a b,a<m.R→b<m.R→cy m a=true→m.I.getD a 0=m.I.getD b 0→a=b){p q i k:Nat}(hp:p<m.R*m.B*m.M)(f:q<m.R*m.B*m.M)(o:i<m.C)(s:k<m.C)(e:aO m p*64+i=aO m q*64+k):p=q∧i=k:=by
 rw[ou,ou] at e;have c:=nw h hp;have d:=nw h f;obtain⟨g,j,l,n⟩:=wm h.O.bd ⟨c.h0,c.h1,c.h2,o⟩ ⟨d.h0,d.h1,d.h2,s⟩ e;exact⟨VD h hp f (VE h t g) j l,n⟩
def oA(m:Mp)(j:Jb)(n:Nat):Bool:=if j.A=1 then decide (au m n=j.fr) else decide (aB m.G m.R m.B m.M (au m n)=j.fr)
def ma(m:Mp)(j:Jb)(n:Nat):Nat:=if j.A=1 then n%m.C else fu m n
theorem GB{m:Mp}(h:ba m){n:Nat}(g:n<(m.R*m.B*m.M-m.res)*m.C)(t:Nat):gj m t (fu m n)=bl t (cQ m.G m.R m.B m.M (au m n)) (cV m.G m.R m.B m.M (au m n)) (n%m.C):=by
 have a:=yw h g;have f:=Xp n h.O.bd.c1;have b:fu m n/m.C=cQ m.G m.R m.B m.M (au m n)*m.M+cV m.G m.R m.B m.M (au m n):=by unfold fu;rw[WY,WZ _ _ h.O.bd.c1,WX f,Xb]
 have c:fu m n%m.C=n%m.C:=by unfold fu;rw[WY,WV,Nat.mod_mod]
 have d:(cQ m.G m.R m.B m.M (au m n)*m.M+cV m.G m.R m.B m.M (au m n))/m.M=cQ m.G m.R m.B m.M (au m n):=by rw[WY,WZ _ _ h.O.bd.m1,WX a.h2,Xb]
 have e:(cQ m.G m.R m.B m.M (au m n)*m.M+cV m.G m.R m.B m.M (au m n))%m.M=cV m.G m.R m.B m.M (au m n):=by rw[WY,WV,W4 a.h2]
 unfold gj;rw[b,c,d,e]
theorem VG{m:Mp}(h:ba m){r t i k:Nat}(j:r<m.R+m.S)(ht:t<m.R+m.S)(f:i<m.B*m.M*m.C)(g:k<m.B*m.M*m.C)(e:gj m r i=gj m t k):r=t∧i=k:=by
 obtain⟨a,b,c,d⟩:=wm h.O.bd (ny h j f) (ny h ht g) e;exact⟨a,GA (C:=m.C) (GA (C:=m.M) b c) d⟩
section
variable {r:Rp}
theorem GC(h:aK r){n:Nat}(a:n<(r.m.R*r.m.B*r.m.M-r.m.res)*r.m.C):n/r.m.C<r.m.R*r.m.B*r.m.M-r.m.res:=yp h.m a
theorem wo(h:aK r)(a:r.j.A≠0)(n:Nat):aN r.m r.j n=if oA r.m r.j n=true then(if ma r.m r.j n<r.j.nx then a7 r.m r.j.A r.j.tg (ma r.m r.j n) else di r.m n) else di r.m n:=by
 unfold aN oA ma;rcases vb h a with e | e
 ·rw[e];simp only[if_true,decide_eq_true_eq]
 ·rw[e];simp only[show ¬(2:Nat)=1 by decide,if_false,decide_eq_true_eq]
theorem zV(h:aK r)(a:r.j.A≠0){n:Nat}(b:n<(r.m.R*r.m.B*r.m.M-r.m.res)*r.m.C):ma r.m r.j n<ft r.j.A r.m.B r.m.M r.m.C:=by
 unfold ma;rcases vb h a with e | e
 ·rw[e,ALifp rfl];exact Xp _ h.m.O.bd.c1
 ·rw[e,ALifn Dc];exact u5 h.m b
theorem GD{m:Mp}{p a:Nat}(e:aB m.G m.R m.B m.M p=a)(h:cy m a=false):eX m p=a:=by unfold eX;rw[e,h,ALcf]
theorem VH(h:aK r)(b:r.j.A≠0){n:Nat}(d:n<(r.m.R*r.m.B*r.m.M-r.m.res)*r.m.C)(a:oA r.m r.j n=true):di r.m n=a7 r.m r.j.A r.j.fr (ma r.m r.j n):=by
 unfold oA at a;unfold ma;rcases h.j.k with e | ⟨e,c⟩ | ⟨e,c⟩
 ·rw[e] at b;exact absurd rfl b
 ·rw[e,ALifp rfl] at a;rw[e,ALifp rfl];have a:=of_decide_eq_true a;unfold di;rw[a];rfl
 ·rw[e,ALifn Dc] at a;rw[e,ALifn Dc];have a:=of_decide_eq_true a;show _=gj r.m r.j.fr (fu r.m n);rw[GB h.m d,sf,GD a c.hs]
end
end
section
section
variable {r:Rp}
structure fC (r r':Rp):Prop where
 i:gu r'
 e: ∀n,n<(r.m.R*r.m.B*r.m.M-r.m.res)*r.m.C→aN r'.m r'.j n=aN r.m r.j n
theorem fC.rfl'(h:gu r):fC r r:=⟨h,λ_ _=>rfl⟩
theorem fC.tr{a b c:Rp}(h:fC a b)(g:fC b c)(l:eD a.m b.m):fC a c:=⟨g.i,λn d=>(g.e n (by rw[l.R,l.B,l.M,l.C,l.res];exact d)).trans (h.e n d)⟩
theorem GF(b:gu r)(k:r.j.A=0)(a:Ak):fC r (c6 r a):=by
 have j: ∀n,aN r.m r.j n=di r.m n:=λn=>by unfold aN;simp only[k]
 have d: ∀p,p<r.m.R*r.m.B*r.m.M-r.m.res+r.m.Q→r.m.P.getD p false=false→∃i,i<r.m.R*r.m.B*r.m.M-r.m.res∧r.m.N.getD i 0=p:=λp hp f=>(b.al p hp f).resolve_left λq=>by rw[k] at q;exact absurd q.1 Dc
 unfold c6;cases a.k==1
 ·rw[ALcf];cases hp:dU r.m
  ·exact fC.rfl' b
  ·rw[ALct];have c:r.m.F≠r.m.S:=by unfold dU at hp;simpa using hp
   have l:fa r.m=r.m.R+r.m.F:=by unfold fa;rw[ALifn c]
   refine⟨⟨b.inj,b.ld,b.lt,λ_ _ e=>absurd e (show ¬(2:Nat)=1 by decide),λp hp f=> .inr (d p hp f),b.si,λa g=>?_,λa g _=>?_⟩,λn _=>?_⟩
   ·have:=b.sl a g;show r.m.I.getD a 0<((r.m.R+(r.m.F+1):Nat):Int);omega
   ·have:=b.sl a g;show r.m.I.getD a 0≠((fa r.m:Nat):Int);omega
   ·rw[j];show(if aB r.m.G r.m.R r.m.B r.m.M (au r.m n)=a.w then(if fu r.m n<0 then _ else di r.m n) else di r.m n)=_;rw[ALifn (Xs _),ite_self]
 ·rw[ALct];cases hp:dp r.m
  ·exact fC.rfl' b
  ·rw[ALct];have c:r.m.Q≠r.m.res:=by unfold dp at hp;simpa using hp
   have l:dI r.m=r.m.R*r.m.B*r.m.M-r.m.res+r.m.Q:=by unfold dI;rw[ALifn c]
   refine⟨⟨b.inj,b.ld,λi h=>Nat.lt_succ_of_lt (b.lt i h),λi h _=>?_,λp hp f=>?_,b.si,b.sl,λ_ _ e=>absurd e (show ¬(1:Nat)=2 by decide)⟩,λn _=>?_⟩
   ·have:=b.lt i h;show r.m.N.getD i 0≠dI r.m;omega
   ·have hp:p<r.m.R*r.m.B*r.m.M-r.m.res+(r.m.Q+1):=hp;by_cases e:p=dI r.m
    ·exact .inl ⟨rfl,e⟩
    ·exact .inr (d p Om f)
   ·rw[j];show(if au r.m n=a.w then(if n%r.m.C<0 then _ else di r.m n) else di r.m n)=_;rw[ALifn (Xs _),ite_self]
theorem GG(b:gu r)(a:Ak):fC r (bn r a):=by
 unfold bn;cases cX r a
 ·cases c:r.j.A==0
  ·exact⟨⟨b.inj,b.ld,b.lt,b.nt,b.al,b.si,b.sl,b.st⟩,λ_ _=>rfl⟩
  ·exact GF b (by simpa using c) a
 ·exact fC.rfl' b
theorem GH(a:gu r):gu (aY r):=⟨a.inj,a.ld,a.lt,a.nt,a.al,a.si,a.sl,a.st⟩
theorem VI{s:Rp×List Ev}(a:gu s.1)(b:s.1.j.A=0):fC s.1 (fz s).1:=by
 unfold fz;cases cX (aY s.1) (s.1.q.headD aJ)
 ·have:=GF (r:=aY s.1) (GH a) b (s.1.q.headD aJ);exact⟨this.i,this.e⟩
 ·exact⟨GH a,λ_ _=>rfl⟩
theorem GI: ∀(n:Nat) (s:Rp×List Ev),gu s.1→fC s.1 (eC n s).1
 | 0,s,h=>fC.rfl' h
 | n+1,s,h=>by
  unfold eC
  split
  ·rename_i b;have a:=VI h b;exact a.tr (GI n (fz s) a.i) (yY s)
  ·exact fC.rfl' h
theorem VJ{l:List Nat}{h t i:Nat}(a:i<l.length):(dz l h t l.length).getD i 0=if l.getD i 0=h then t else l.getD i 0:=by
 rw[Ob,WS,Xm,XF a,WS,XF a];rfl
theorem wq{α:Type}{l:List α}{i:Nat}{x d:α}(h:i<l.length):(l.set i x).getD i d=x:=by rw[WS,XL,ALifp rfl,ALifp h];rfl
theorem VK(d:gu r)(h:aK r)(v:r.j.A≠0)(I:r.j.nx=ft r.j.A r.m.B r.m.M r.m.C):fC r (fv r):=by
 rcases h.j.k with e | ⟨e,f⟩ | ⟨e,f⟩
 ·rw[e] at v;exact absurd rfl v
 ·have F:fv r={r with m:=jO r.m r.j.fr r.j.tg,j:=kb}:=by unfold fv;rw[e];rfl
  rw[F];have H:r.m.N.length=r.m.R*r.m.B*r.m.M-r.m.res:=h.m.ll;have u: ∀i,i<r.m.R*r.m.B*r.m.M-r.m.res→(jO r.m r.j.fr r.j.tg).N.getD i 0=if r.m.N.getD i 0=r.j.fr then r.j.tg else r.m.N.getD i 0:=λi c=>VJ Om
  refine⟨⟨λi k c w g=>?_,λi c=>?_,λi c=>?_,λ_ _ q=>Xh (show(0:Nat)=_ from q),λp hp s=> .inr ?_,d.si,d.sl,λ_ _ q=>Xh (show(0:Nat)=_ from q)⟩,λn A=>?_⟩
  ·have g:(jO r.m r.j.fr r.j.tg).N.getD i 0=(jO r.m r.j.fr r.j.tg).N.getD k 0:=g;have c:i<r.m.R*r.m.B*r.m.M-r.m.res:=c;have w:k<r.m.R*r.m.B*r.m.M-r.m.res:=w;rw[u i c,u k w] at g
   split at g
   ·rename_i t
    split at g
    ·rename_i D;exact d.inj i k c w (t.trans D.symm)
    ·exact absurd g.symm (d.nt k w e)
   ·split at g
    ·exact absurd g (d.nt i c e)
    ·exact d.inj i k c w g
  ·have c:i<r.m.R*r.m.B*r.m.M-r.m.res:=c;show(r.m.P.set r.j.fr true).getD ((jO r.m r.j.fr r.j.tg).N.getD i 0) false=false;rw[u i c]
   split
   ·rw[getD_set_ne f.ne];exact f.dt
   ·rename_i t;rw[getD_set_ne (λq=>t q.symm)];exact d.ld i c
  ·have c:i<r.m.R*r.m.B*r.m.M-r.m.res:=c;show(jO r.m r.j.fr r.j.tg).N.getD i 0<_;rw[u i c]
   split
   ·exact f.t1
   ·exact d.lt i c
  ·have hp:p<r.m.R*r.m.B*r.m.M-r.m.res+r.m.Q:=hp;have s:(r.m.P.set r.j.fr true).getD p false=false:=s;have B:p≠r.j.fr:=by
    intro q;rw[q,wq (by rw[h.m.ld];exact f.hf)] at s;cases s
   rw[getD_set_ne (λq=>B q.symm)] at s;show ∃i,i<r.m.R*r.m.B*r.m.M-r.m.res∧(jO r.m r.j.fr r.j.tg).N.getD i 0=p;rcases d.al p hp s with⟨_,q⟩ | ⟨i,c,q⟩
   ·rcases d.al r.j.fr f.f1 f.df with⟨_,G⟩ | ⟨i,c,G⟩
    ·exact absurd G f.ne
    ·exact⟨i,c,by rw[u i c,ALifp G,q]⟩
   ·exact⟨i,c,by rw[u i c,ALifn (by rw[q];exact B),q]⟩
  ·have x:=zV h v A;rw[wo h v];show di (jO r.m r.j.fr r.j.tg) n=_;have K:au (jO r.m r.j.fr r.j.tg) n=if au r.m n=r.j.fr then r.j.tg else au r.m n:=u _ (GC h A)
   unfold oA ma at*;rw[e,ALifp rfl] at x;rw[e,ALifp rfl,ALifp rfl,I,e,ALifp x];unfold di;rw[K];by_cases q:au r.m n=r.j.fr
   ·rw[ALifp q,ALifp (cD q)];rfl
   ·rw[ALifn q,ALifn (by simpa using q)];rfl
 ·have F:fv r={r with m:=fy r.m r.j.fr r.j.tg,j:=kb}:=by unfold fv;rw[e];rfl
  rw[F];have H:r.m.I.length=r.m.R:=h.m.ls;have y: ∀a,(fy r.m r.j.fr r.j.tg).I.getD a 0=if a=r.j.fr then(r.j.tg:Int) else r.m.I.getD a 0:=λa=>by
   show(r.m.I.set r.j.fr (r.j.tg:Int)).getD a 0=_;by_cases q:a=r.j.fr
   ·rw[ALifp q,q,wq (by rw[H];exact f.hf)]
   ·rw[ALifn q,getD_set_ne (λz=>q z.symm)]
  have L:=f.t0;have M:=f.t1;refine⟨⟨d.inj,d.ld,d.lt,λ_ _ q=>Xh (show(0:Nat)=_ from q),λp hp s=> .inr ((d.al p hp s).resolve_left λq=>by rw[e] at q;exact absurd q.1 Dc),λa b o l C g=>?_,λa o=>?_,λ_ _ q=>Xh (show(0:Nat)=_ from q)⟩,λn A=>?_⟩
  ·have o:a<r.m.R:=o;have l:b<r.m.R:=l;have g:(fy r.m r.j.fr r.j.tg).I.getD a 0=(fy r.m r.j.fr r.j.tg).I.getD b 0:=g;rw[y a,y b] at g
   split at g
   ·rename_i t
    split at g
    ·rename_i D;rw[t,D]
    ·exact absurd g.symm (d.st b l e)
   ·rename_i t
    split at g
    ·exact absurd g (d.st a o e)
    ·refine d.si a b o l ?_ g;have C:(!((fy r.m r.j.fr r.j.tg).I.getD a 0== -1))=true:=C;rw[y a,ALifn t] at C;exact C
  ·have o:a<r.m.R:=o;show(fy r.m r.j.fr r.j.tg).I.getD a 0<((r.m.R+r.m.F:Nat):Int);rw[y a]
   split
   ·omega
   ·exact d.sl a o
  ·have x:=zV h v A;rw[wo h v];show di (fy r.m r.j.fr r.j.tg) n=_;have J:eX (fy r.m r.j.fr r.j.tg) (au r.m n)=if aB r.m.G r.m.R r.m.B r.m.M (au r.m n)=r.j.fr then r.j.tg else eX r.m (au r.m n):=by
    show(bif (!((fy r.m r.j.fr r.j.tg).I.getD (aB r.m.G r.m.R r.m.B r.m.M (au r.m n)) 0== -1)) then((fy r.m r.j.fr r.j.tg).I.getD (aB r.m.G r.m.R r.m.B r.m.M (au r.m n)) 0).toNat else aB r.m.G r.m.R r.m.B r.m.M (au r.m n))=_;rw[y]
    split
    ·rw[show(((r.j.tg:Nat):Int)== -1)=false by rw[dN];omega];rfl
    ·rfl
   unfold oA ma at*;rw[e,ALifn (show ¬(2:Nat)=1 by decide)] at x;rw[e,ALifn (show ¬(2:Nat)=1 by decide),ALifn (show ¬(2:Nat)=1 by decide),I,e,ALifp x];rw[sf];show bl (eX (fy r.m r.j.fr r.j.tg) (au r.m n)) (cQ r.m.G r.m.R r.m.B r.m.M (au r.m n)) (cV r.m.G r.m.R r.m.B r.m.M (au r.m n)) (n%r.m.C)=_;rw[J];by_cases q:aB r.m.G r.m.R r.m.B r.m.M (au r.m n)=r.j.fr
   ·rw[ALifp q,ALifp (cD q)];exact(GB h.m A _).symm
   ·rw[ALifn q,ALifn (by simpa using q),sf]
theorem GJ(a:gu r):gu (bu r):=⟨a.inj,a.ld,a.lt,a.nt,a.al,a.si,a.sl,a.st⟩
theorem VL(c:gu r)(h:aK r)(d:r.j.A≠0)(f:r.j.nx<ft r.j.A r.m.B r.m.M r.m.C):fC (bu r) (eJ r).1:=by
 have e:=p7 h d f;unfold eJ;cases a:kc r.m (bu r).j
 ·exact fC.rfl' (GJ c)
 ·unfold kc at a;rw[Xq] at a;have b:=VK (GJ c) e d (of_decide_eq_true a.2);exact b.tr (GI _ (af (bu r)) b.i) (yX (bu r))
end
theorem VM{s:Le}(c:gu s.r)(b a w:Nat)(x:Re):fC s.r (fe s b a w x).r:=by
 unfold fe;cases cE s.k.lp (da s.k.t a).l w
 ·exact fC.rfl' c
 ·exact GG (r:=s.r) c _
theorem GK{s:Le}(d:gu s.r)(a b w:Nat)(x:Re):fC s.r (eM s a b w x).r:=by
 have c:=VM d a b w x;unfold eM;cases cE s.k.lr (s.k.F.getD a bj).l w
 ·exact c
 ·exact c.tr (GG (r:=(fe s a b w x).r) c.i _) (su s a b w x)
theorem VN{s:Le}(a:gu s.r)(heavy:Nat)(n:Nt):fC s.r (cH heavy s n).r:=by
 unfold cH
 split
 ·exact fC.rfl' a
 split
 ·exact GK a _ _ _ _
 split
 ·exact fC.rfl' a
 ·exact GK a _ _ _ _
theorem VO{R S B M C way c:Nat}(h:c<R*B*M):gu ⟨kX R S B M C way c,kb,[]⟩:=by
 have g: ∀i,i<R*B*M-c→(WM (R*B*M-c)).getD i 0=i:=λi d=>by rw[WS,Xc d];rfl
 have l: ∀a,a<R→(WJ R (-1:Int)).getD a 0= -1:=λa f=>by rw[WS,Xf,ALifp f];rfl
 refine⟨λi k d m e=>?_,λi d=>?_,λi d=>?_,λ_ _ q=>Xh (show(0:Nat)=_ from q),λp hp o=> .inr ⟨p,hp,g p hp⟩,λa b f n j _=>?_,λa f=>?_,λ_ _ q=>Xh (show(0:Nat)=_ from q)⟩
 ·have e:(WM (R*B*M-c)).getD i 0=(WM (R*B*M-c)).getD k 0:=e;rwa [g i d,g k m] at e
 ·show(WJ (R*B*M) false).getD _ false=false;rw[WS,Xf]
  split<;>rfl
 ·show(WM (R*B*M-c)).getD i 0<R*B*M-c+0;rw[g i d];exact d
 ·exact absurd (l a f) (qt j)
 ·show(WJ R (-1:Int)).getD a 0<((R+0:Nat):Int);rw[l a f];omega
end
section
structure Ws (a:Ac):Prop where
 s:nG a=false
 e:a.ex≤1
structure VP (c:Cf) (x:Ct) (id:Int→List UInt8):Prop where
 rp:gu x.s.r
 gh: ∀n,n<gC c→x.V.Y ((aU x n:Nat):Int)=fS c.E (id (n:Int)) ((aU x n:Nat):Int) false
 mz: ∀n,n<gC c→x.V.Z ((aU x n:Nat):Int)=0
section
variable {c:Cf} {x:Ct} {K A:Nat} {id:Int→List UInt8}
theorem bp.ln(h:bp c x K A){n:Nat}(a:n<gC c):n<(x.s.r.m.R*x.s.r.m.B*x.s.r.m.M-x.s.r.m.res)*x.s.r.m.C:=by rw[h.ly.R,h.ly.B,h.ly.M,h.ly.C,h.ly.res];exact a
end
end
theorem VR{c:Cf}(s:cr c){i:Nat}(h:fT c.R c.S c.B c.M c.C i): ∃k,k<(c.R+c.S)*(c.B*c.M*c.C)∧i=c7 c.B c.M c.C k:=by
 obtain⟨l,a,b,e,rfl,d⟩:=h.ex;have g:=s.O.bd;have hC:=g.c1;have r:=g.m1;have hB:=g.b1;have j:(a*c.M+b)*c.C+e<c.B*c.M*c.C:=by
  have q:a*c.M+b<c.B*c.M:=by
   have:(a+1)*c.M≤c.B*c.M:=WU _ d.h1;rw[Xl] at this;have:=d.h2;omega
  have f:(a*c.M+b+1)*c.C≤c.B*c.M*c.C:=WU _ q;rw[Xl] at f;have:=d.h3;omega
 refine⟨l*(c.B*c.M*c.C)+((a*c.M+b)*c.C+e),?_,?_⟩
 ·have f:(l+1)*(c.B*c.M*c.C)≤(c.R+c.S)*(c.B*c.M*c.C):=WU _ d.h0;rw[Xl] at f;omega
 ·unfold c7 gO;have hp:0<c.B*c.M*c.C:=by omega
  rw[WY,WZ _ _ hp,WX j,Xb,WV,W4 j];have m:((a*c.M+b)*c.C+e)/c.C=a*c.M+b:=by rw[WY,WZ _ _ hC,WX d.h3,Xb]
  have n:((a*c.M+b)*c.C+e)%c.C=e:=by rw[WY,WV,W4 d.h3]
  have o:(a*c.M+b)/c.M=a:=by rw[WY,WZ _ _ r,WX d.h2,Xb]
  have p:(a*c.M+b)%c.M=b:=by rw[WY,WV,W4 d.h2]
  rw[m,n,o,p]
section
structure Wt (a:Ac):Prop where
 s:nG a=false
 e:a.ex≤1
 m:a.mr=false
structure VS (F:List Fa) (x:Ct):Prop where
 cl: ∀i,x.V.D.cells i=x.V.Y i
 la:x.V.D.W=F
 co:x.V.D.H=[]
section
variable {c:Cf} {F:List Fa} {x:Ct} {K A:Nat} {id:Int→List UInt8}
theorem GL(h:bp c x K A)(y:gu x.s.r)(b:x.s.r.j.A≠0)(o:l7 x=true): ∃n,n<gC c∧aU x n=l0 x:=by
 have d:=h.s.r;have k:=h.run b;have hC:=d.m.O.bd.c1;unfold l7 at o;rw[Xq] at o;have u:=of_decide_eq_true o.1;have v:x.s.r.m.P.getD (cj x.s.r) false=false:=by simpa using o.2
 obtain⟨i,z,B⟩: ∃i,i<x.s.r.m.R*x.s.r.m.B*x.s.r.m.M-x.s.r.m.res∧x.s.r.m.N.getD i 0=cj x.s.r:=by
  rcases y.al _ u v with⟨C,e⟩ | w
  ·exfalso;unfold cj at e;rw[ALifp C] at e;rcases d.j.k with f | ⟨_,j⟩ | ⟨f,j⟩
   ·rw[f] at b;exact absurd rfl b
   ·exact j.ne e
   ·omega
  ·exact w
 have l:x.s.r.j.nx%x.s.r.m.C<x.s.r.m.C:=Xp _ hC;have p:i*x.s.r.m.C+x.s.r.j.nx%x.s.r.m.C<(x.s.r.m.R*x.s.r.m.B*x.s.r.m.M-x.s.r.m.res)*x.s.r.m.C:=by
  have:(i+1)*x.s.r.m.C≤(x.s.r.m.R*x.s.r.m.B*x.s.r.m.M-x.s.r.m.res)*x.s.r.m.C:=WU _ z;rw[Xl] at this;omega
 have q:(i*x.s.r.m.C+x.s.r.j.nx%x.s.r.m.C)/x.s.r.m.C=i:=by rw[WY,WZ _ _ hC,WX l,Xb]
 have f:(i*x.s.r.m.C+x.s.r.j.nx%x.s.r.m.C)%x.s.r.m.C=x.s.r.j.nx%x.s.r.m.C:=by rw[WY,WV,Nat.mod_mod]
 have g:au x.s.r.m (i*x.s.r.m.C+x.s.r.j.nx%x.s.r.m.C)=cj x.s.r:=by unfold au;rw[q];exact B
 refine⟨i*x.s.r.m.C+x.s.r.j.nx%x.s.r.m.C,?_,?_⟩
 ·have:=p;rw[h.ly.R,h.ly.B,h.ly.M,h.ly.C,h.ly.res] at this;rw[h.ly.C];exact this
 generalize D:i*x.s.r.m.C+x.s.r.j.nx%x.s.r.m.C=n at p q f g;have m:oA x.s.r.m x.s.r.j n=true∧ma x.s.r.m x.s.r.j n=x.s.r.j.nx:=by
  unfold oA ma;unfold cj at g;rcases d.j.k with a | ⟨a,j⟩ | ⟨a,j⟩
  ·rw[a] at b;exact absurd rfl b
  ·rw[ALifp a] at g⊢;rw[a] at k;have k:x.s.r.j.nx<x.s.r.m.C:=k;rw[ALifp a,f,W4 k];exact⟨cD g,rfl⟩
  ·have s: ¬x.s.r.j.A=1:=by omega
   rw[ALifn s] at g⊢;rw[ALifn s];rw[a] at k;have t:=ny d.m (r:=x.s.r.j.fr) (i:=x.s.r.j.nx) (by have:=j.hf;omega) k;have hp:=SH (way:=x.s.r.m.G) d.m.O j.hf t.h1 t.h2;unfold fu;rw[g,hp.1,hp.2.1,hp.2.2,f];refine⟨cD rfl,?_⟩;rw[XN (x.s.r.j.nx/x.s.r.m.C) x.s.r.m.M,XN x.s.r.j.nx x.s.r.m.C]
 show aN x.s.r.m x.s.r.j n=_;rw[wo d b,ALifp m.1,m.2,ALifn (Nat.lt_irrefl _),VH d b p m.1,m.2];rfl
end
end
section
def fg(m:Mp)(i:Nat):Prop:=(∃p k,p<m.R*m.B*m.M∧m.P.getD p false=true∧k<m.C∧i=aO m p*64+k)∨(∃r k,r<m.R∧cy m r=true∧k<m.B*m.M*m.C∧i=gj m r k)
theorem zW(m:Mp): ∀k,k≤m.R*m.B*m.M→∀i∈gD m k,fg m i
 | 0,_,i,a=>absurd a Xr
 | k+1,d,i,a=>by
  rw[zN] at a;cases e:m.P.getD k false
  ·rw[e,ALcf] at a;exact zW m k Om i a
  ·rw[e,ALct] at a;rcases List.mem_append.1 a with a | a
   ·exact zW m k Om i a
   ·obtain⟨z,b,rfl⟩:=List.mem_map.1 a;exact .inl ⟨k,z,by omega,e,List.mem_range.1 b,rfl⟩
theorem zX(m:Mp): ∀k,k≤m.R→∀i∈dB m k,fg m i
 | 0,_,i,a=>zW m _ (Xk _) i a
 | k+1,d,i,a=>by
  rw[wa] at a;cases e:cy m k
  ·rw[e,ALcf] at a;exact zX m k Om i a
  ·rw[e,ALct] at a;rcases List.mem_append.1 a with a | a
   ·exact zX m k Om i a
   ·obtain⟨z,b,rfl⟩:=List.mem_map.1 a;exact .inr ⟨k,z,by omega,e,List.mem_range.1 b,rfl⟩
section
variable {r:Rp}
theorem GN(h:aK r)(p:Nat):(cy r.m (aB r.m.G r.m.R r.m.B r.m.M p)=false∧eX r.m p=aB r.m.G r.m.R r.m.B r.m.M p)∨(cy r.m (aB r.m.G r.m.R r.m.B r.m.M p)=true∧r.m.R≤eX r.m p∧(eX r.m p:Int)=r.m.I.getD (aB r.m.G r.m.R r.m.B r.m.M p) 0):=by
 unfold eX;cases e:cy r.m (aB r.m.G r.m.R r.m.B r.m.M p)
 ·exact .inl ⟨rfl,rfl⟩
 ·have:=(h.m.sp _ (nu (p:=p) (way:=r.m.G) h.m.O)).resolve_left (qt e);rw[ALct];exact .inr ⟨rfl,by omega,by omega⟩
theorem GO(s:gu r)(h:aK r){p k:Nat}(hp:p<r.m.R*r.m.B*r.m.M)(t:r.m.P.getD p false=false)(l:k<r.m.C): ¬fg r.m (aO r.m p*64+k):=by
 rintro (⟨q,m,u,d,b,e⟩ | ⟨a,m,w,v,b,e⟩)
 ·obtain⟨rfl,_⟩:=VF h.m s.si hp u l b e;rw[t] at d;cases d
 ·have g:=nw h.m hp;have o:bl _ _ _ _=bl _ _ _ _:=(ou r.m p k).symm.trans e;obtain⟨n,_⟩:=wm h.m.O.bd ⟨g.h0,g.h1,g.h2,l⟩ (ny h.m (r:=a) (i:=m) Om b) o;rcases GN h p with⟨f,j⟩ | ⟨f,j,_⟩
  ·rw[←j,n,v] at f;cases f
  ·omega
theorem GP(k:gu r)(h:aK r)(l:r.j.A≠0){i:Nat}(d:i<ft r.j.A r.m.B r.m.M r.m.C): ¬fg r.m (a7 r.m r.j.A r.j.tg i):=by
 rcases h.j.k with e | ⟨e,f⟩ | ⟨e,f⟩
 ·rw[e] at l;exact absurd rfl l
 ·rw[e] at d⊢;exact GO k h f.ht f.dt d
 ·rw[e] at d⊢;have D:=f.t1;have F:=h.m.rk;have C:=f.t0;have y:=ny h.m (r:=r.j.tg) (i:=i) Om d;rintro (⟨q,m,v,w,b,j⟩ | ⟨a,m,G,H,b,j⟩)
  ·have g:=nw h.m v;have n:bl _ _ _ _=bl _ _ _ _:=(show gj r.m r.j.tg i=_ from j).trans (ou r.m q m);obtain⟨z,_⟩:=wm h.m.O.bd y ⟨g.h0,g.h1,g.h2,b⟩ n;have u:=nu (p:=q) (way:=r.m.G) h.m.O;rcases GN h q with⟨o,s⟩ | ⟨o,s,B⟩
   ·omega
   ·exact k.st _ u e Om
  ·have:=(VG h.m (r:=r.j.tg) (t:=a) Om Om d b j).1;omega
theorem GQ(d:gu r)(h:aK r){n:Nat}(e:n<(r.m.R*r.m.B*r.m.M-r.m.res)*r.m.C): ¬fg r.m (aN r.m r.j n):=by
 have b: ¬fg r.m (di r.m n):=GO d h (sd h.m e) (d.ld _ (GC h e)) (Xp _ h.m.O.bd.c1);by_cases a:r.j.A=0
 ·unfold aN;rw[a];exact b
 ·rw[wo h a]
  split
  ·split
   ·exact GP d h a (zV h a e)
   ·exact b
  ·exact b
theorem GR{a:Ak}{i:Nat}(b:fg r.m i):fg (c6 r a).m i:=by
 unfold c6;cases a.k==1<;>cases dp r.m<;>cases dU r.m<;>exact b
theorem GS{a:Ak}{i:Nat}(b:fg r.m i):fg (bn r a).m i:=by
 unfold bn;cases cX r a
 ·cases r.j.A==0
  ·exact b
  ·exact GR b
 ·exact b
theorem VT(h:aK r)(u:r.j.A≠0){i:Nat}(v:fg r.m i):fg (fv r).m i:=by
 rcases h.j.k with e | ⟨e,f⟩ | ⟨e,f⟩
 ·rw[e] at u;exact absurd rfl u
 ·have n:(fv r).m=jO r.m r.j.fr r.j.tg:=by unfold fv;rw[e];rfl
  rw[n];rcases v with⟨p,k,hp,l,b,rfl⟩ | ⟨a,k,j,o,b,rfl⟩
  ·refine .inl ⟨p,k,hp,?_,b,rfl⟩;show(r.m.P.set r.j.fr true).getD p false=true;by_cases q:r.j.fr=p
   ·rw[q,wq (by rw[h.m.ld];exact hp)]
   ·rw[getD_set_ne q];exact l
  ·exact .inr ⟨a,k,j,o,b,rfl⟩
 ·have n:(fv r).m=fy r.m r.j.fr r.j.tg:=by unfold fv;rw[e];rfl
  rw[n];have G:r.m.I.length=r.m.R:=h.m.ls;have t: ∀a,a≠r.j.fr→(fy r.m r.j.fr r.j.tg).I.getD a 0=r.m.I.getD a 0:=λa q=>by
   show(r.m.I.set r.j.fr (r.j.tg:Int)).getD a 0=_;rw[getD_set_ne (λz=>q z.symm)]
  have s:cy (fy r.m r.j.fr r.j.tg) r.j.fr=true:=by
   show(!((r.m.I.set r.j.fr (r.j.tg:Int)).getD r.j.fr 0== -1))=true;rw[wq (by rw[G];exact f.hf),show(((r.j.tg:Nat):Int)== -1)=false by rw[dN];omega];rfl
  rcases v with⟨p,k,hp,l,b,rfl⟩ | ⟨a,k,j,o,b,rfl⟩
  ·have d:=oa (way:=r.m.G) h.m.O hp;by_cases q:aB r.m.G r.m.R r.m.B r.m.M p=r.j.fr
   ·have hC:=h.m.O.bd.c1;have F:=h.m.O.bd.m1;have g:cQ r.m.G r.m.R r.m.B r.m.M p*r.m.M+cV r.m.G r.m.R r.m.B r.m.M p<r.m.B*r.m.M:=by
     have:(cQ r.m.G r.m.R r.m.B r.m.M p+1)*r.m.M≤r.m.B*r.m.M:=WU _ d.h1;rw[Xl] at this;have:=d.h2;omega
    have w:(cQ r.m.G r.m.R r.m.B r.m.M p*r.m.M+cV r.m.G r.m.R r.m.B r.m.M p+1)*r.m.C≤r.m.B*r.m.M*r.m.C:=WU _ g;rw[Xl] at w;refine .inr ⟨r.j.fr,(cQ r.m.G r.m.R r.m.B r.m.M p*r.m.M+cV r.m.G r.m.R r.m.B r.m.M p)*r.m.C+k,f.hf,s,by show _<r.m.B*r.m.M*r.m.C;omega,?_⟩;show aO r.m p*64+k=gj r.m r.j.fr _;have y:((cQ r.m.G r.m.R r.m.B r.m.M p*r.m.M+cV r.m.G r.m.R r.m.B r.m.M p)*r.m.C+k)/r.m.C=cQ r.m.G r.m.R r.m.B r.m.M p*r.m.M+cV r.m.G r.m.R r.m.B r.m.M p:=by rw[WY,WZ _ _ hC,WX b,Xb]
    have B:((cQ r.m.G r.m.R r.m.B r.m.M p*r.m.M+cV r.m.G r.m.R r.m.B r.m.M p)*r.m.C+k)%r.m.C=k:=by rw[WY,WV,W4 b]
    have C:(cQ r.m.G r.m.R r.m.B r.m.M p*r.m.M+cV r.m.G r.m.R r.m.B r.m.M p)/r.m.M=cQ r.m.G r.m.R r.m.B r.m.M p:=by rw[WY,WZ _ _ F,WX d.h2,Xb]
    have D:(cQ r.m.G r.m.R r.m.B r.m.M p*r.m.M+cV r.m.G r.m.R r.m.B r.m.M p)%r.m.M=cV r.m.G r.m.R r.m.B r.m.M p:=by rw[WY,WV,W4 d.h2]
    unfold gj;rw[y,B,C,D,ou,GD q f.hs]
   ·refine .inl ⟨p,k,hp,l,b,?_⟩;have g:eX (fy r.m r.j.fr r.j.tg) p=eX r.m p:=by
     show(bif (!((fy r.m r.j.fr r.j.tg).I.getD (aB r.m.G r.m.R r.m.B r.m.M p) 0== -1)) then((fy r.m r.j.fr r.j.tg).I.getD (aB r.m.G r.m.R r.m.B r.m.M p) 0).toNat else aB r.m.G r.m.R r.m.B r.m.M p)=_;rw[t _ q];rfl
    show _=(eX (fy r.m r.j.fr r.j.tg) p*16384+cQ r.m.G r.m.R r.m.B r.m.M p*1024+cV r.m.G r.m.R r.m.B r.m.M p)*64+k;rw[g];rfl
  ·refine .inr ⟨a,k,j,?_,b,rfl⟩;by_cases q:a=r.j.fr
   ·rw[q];exact s
   ·show(!((fy r.m r.j.fr r.j.tg).I.getD a 0== -1))=true;rw[t a q];exact o
theorem VU{s:Rp×List Ev}{i:Nat}(a:fg s.1.m i):fg (fz s).1.m i:=by
 unfold fz;cases cX (aY s.1) (s.1.q.headD aJ)
 ·exact GR (r:=aY s.1) a
 ·exact a
theorem GU: ∀(n:Nat) (s:Rp×List Ev) {i:Nat},fg s.1.m i→fg (eC n s).1.m i
 | 0,s,i,h=>h
 | n+1,s,i,h=>by
  unfold eC
  split
  ·exact GU n (fz s) (VU h)
  ·exact h
theorem VV(h:aK r)(a:r.j.A≠0)(d:r.j.nx<ft r.j.A r.m.B r.m.M r.m.C){i:Nat}(b:fg r.m i):fg (eJ r).1.m i:=by
 unfold eJ;cases kc r.m (bu r).j
 ·exact b
 ·exact GU _ (af (bu r)) (VT (r:=bu r) (p7 h a d) a b)
end
theorem VW{s:Le}(b a w:Nat)(x:Re){i:Nat}(d:fg s.r.m i):fg (fe s b a w x).r.m i:=by
 unfold fe;cases cE s.k.lp (da s.k.t a).l w
 ·exact d
 ·exact GS (r:=s.r) d
theorem GV{s:Le}(a b w:Nat)(x:Re){i:Nat}(e:fg s.r.m i):fg (eM s a b w x).r.m i:=by
 have d:=VW a b w x e;unfold eM;cases cE s.k.lr (s.k.F.getD a bj).l w
 ·exact d
 ·exact GS (r:=(fe s a b w x).r) d
theorem VX{s:Le}(heavy:Nat)(n:Nt){i:Nat}(a:fg s.r.m i):fg (cH heavy s n).r.m i:=by
 unfold cH
 split
 ·exact a
 split
 ·exact GV _ _ _ _ a
 split
 ·exact a
 ·exact GV _ _ _ _ a
def gQ(p:Ac→Prop)(l b:List Ac):Prop:=∃m,b=l++m∧∀a∈m,p a
theorem gQ.rfl'(p:Ac→Prop)(l:List Ac):gQ p l l:=⟨[],(W9 l).symm,λa b=>absurd b Xr⟩
theorem gQ.one{p:Ac→Prop}{l d:List Ac}(h:gQ p l d){a:Ac}(f:p a):gQ p l (d++[a]):=by
 obtain⟨m,e,i⟩:=h;exact⟨m++[a],by rw[e,W7],λb g=>(List.mem_append.1 g).elim (i b) λe=>by rw[List.mem_singleton.1 e];exact f⟩
structure eF (S:Nat→Prop) (x:Ct):Prop where
 rp:gu x.s.r
 gn: ∀i,S i→fg x.s.r.m i
def lD(S:Nat→Prop)(a:Ac):Prop:=∀i:Nat,S i→a.ix≠(i:Int)
section
variable {S:Nat→Prop} {c:Cf} {x:Ct} {K A:Nat}
theorem eF.no(h:eF S x){i:Nat}(b: ¬fg x.s.r.m i){a:Ac}(f:a.ix=(i:Int)):lD S a:=λk d e=>b (by
 have:i=k:=by omega
 rw[this];exact h.gn k d)
theorem eF.tak(h:eF S x)(i a r:Nat):eF S (bZ c x i a r):=⟨(VN (s:=x.s) h.rp c.J (iB c x i a r)).i,λk b=>VX (s:=x.s) c.J _ (h.gn k b)⟩
theorem eF.rt(h:eF S x)(b:bp c x K A){n:Nat}(e:n<gC c){a:Ac}(d:a.ix=((aU x n:Nat):Int)):lD S a:=h.no (GQ h.rp b.s.r (b.ln e)) d
theorem eF.rea(h:eF S x)(e:bp c x K A){n:Nat}(f:n<gC c)(b:Bool):eF S (cu c x n b)∧gQ (lD S) x.V.l (cu c x n b).V.l:=by
 have a:=h.tak (c:=c) (aU x n) (jP x n) (jR x n);have d:gQ (lD S) x.V.l (jS c x n).V.l:=(gQ.rfl' _ _).one (h.rt e f rfl);unfold cu;cases (((bB c x (aU x n):Nat):Int)==1)&&b
 ·exact⟨⟨a.rp,a.gn⟩,d⟩
 ·exact⟨⟨a.rp,a.gn⟩,d.one (h.rt e f rfl)⟩
theorem eF.msk(h:eF S x)(b:bp c x K A){n:Nat}(d:n<gC c)(l:List UInt8)(m:Nat):eF S (bG c x n l m)∧gQ (lD S) x.V.l (bG c x n l m).V.l:=by
 have a:=h.tak (c:=c) (aU x n) (jP x n) (jR x n);have e:gQ (lD S) x.V.l (jS c x n).V.l:=(gQ.rfl' _ _).one (h.rt b d rfl);unfold bG;cases (m:Int)==0
 ·cases decide (pc m=64)
  ·cases !(cc (bB c x (aU x n))==0)
   ·exact⟨⟨a.rp,a.gn⟩,e.one (h.rt b d rfl)⟩
   ·exact⟨⟨a.rp,a.gn⟩,e.one (h.rt b d rfl)⟩
  ·exact⟨⟨h.rp,h.gn⟩,(gQ.rfl' _ _).one (h.rt b d rfl)⟩
 ·exact⟨⟨h.rp,h.gn⟩,gQ.rfl' _ _⟩
theorem eF.cpy(h:eF S x)(j:bp c x K A)(g:x.s.r.j.A≠0)(u:K+260≤1000000000):eF S (iC c x)∧gQ (lD S) x.V.l (iC c x).V.l:=by
 have f:=Fu j g Om;have k: ∀{a:Ac},a.ix=((ox x:Nat):Int)→lD S a:=λo=>h.no (GP h.rp j.s.r g (j.run g)) o;have d:eF S (jx c x)∧gQ (lD S) x.V.l (jx c x).V.l:=by
  unfold jx;cases t:l7 x
  ·exact⟨⟨h.rp,h.gn⟩,(gQ.rfl' _ _).one (k rfl)⟩
  ·obtain⟨n,q,e⟩:=GL j h.rp g t;have l:=h.tak (c:=c) (l0 x) (cj x.s.r) (dx x.s.r);have m:gQ (lD S) x.V.l (sJ c x).V.l:=(gQ.rfl' _ _).one (h.rt j q (by rw[e];rfl));exact⟨⟨l.rp,l.gn⟩,m.one (k rfl)⟩
 have b:(jx c x).s.r.j.A≠0:=by rw[f.2.1];exact g
 refine⟨⟨(VL d.1.rp f.1.s.r b (f.1.run b)).i,λi p=>VV f.1.s.r b (f.1.run b) (d.1.gn i p)⟩,d.2⟩
end
theorem GW{S:Nat→Prop}{c:Cf}{x:Mc}{K A N:Nat}(h:ez c x K A N)(s:St)(m:K+260≤1000000000)(a:eF S x.x):eF S (dA c x s).x∧gQ (lD S) x.x.V.l (dA c x s).x.V.l:=by
 have b:=gQ.rfl' (lD S) x.x.V.l;unfold dA;by_cases l:sR s=true
 ·rw[ALifp l];by_cases f:s.k=4
  ·rw[ALifp f];exact eF.rea (x:=iS c x.x) ⟨a.rp,a.gn⟩ (vG h.ct) h.ct.U true
  rw[ALifn f];by_cases g:s.k=5
  ·rw[ALifp g];by_cases d:x.x.s.r.j.A=0
   ·rw[ALifp d];exact⟨a,b⟩
   ·rw[ALifn d];exact a.cpy h.ct d m
  rw[ALifn g];by_cases i:s.k=6
  ·rw[ALifp i];exact⟨⟨a.rp,a.gn⟩,b⟩
  rw[ALifn i];by_cases j:s.k=7
  ·rw[ALifp j];exact⟨⟨a.rp,a.gn⟩,b⟩
  rw[ALifn j];by_cases k:s.k=8
  ·rw[ALifp k];exact⟨⟨a.rp,a.gn⟩,b⟩
  rw[ALifn k];unfold kG;by_cases d:bK s.ln ((gC c:Nat):Int)=true
  ·rw[ALifp d];have e:s.ln.toNat<gC c:=zI d
   split
   ·exact a.rea h.ct e _
   ·split
    ·exact a.msk h.ct e _ _
    ·split<;>exact a.msk h.ct e _ _
  ·rw[ALifn d];exact⟨a,b⟩
 ·rw[ALifn l];exact⟨a,b⟩
theorem VY{c:Cf}(a:cr c):eF (λ_=>False) (bc c).x:=⟨VO a.ly.rp,λi b=>b.elim⟩
theorem GX{c:Cf}(a:cr c){l:List St}(hs:lC l): ∀k,k≤900→eF (λ_=>False) (bq c (bc c) l k).x
 | 0,_=>VY a
 | k+1,b=>(GW (s6 (GM.start a) hs k Om).ok _ Om (GX a hs k Om)).1
end
end E
end Go.Proofs.YtbcodenfkijdnaaGreat
