/- WholeReserve, in 6 texts: part 5. For every input; no condition. -/
import Derived.Test.YtbcodenfkijdnaaGreatPr4
set_option linter.unusedVariables false
set_option linter.unusedSimpArgs false
set_option maxRecDepth 100000
namespace Go.Proofs.YtbcodenfkijdnaaGreat
open Go Go.RowKit Go.Shelf
open List renaming replicate→VA,getD_eq_getElem?_getD→VD,length_replicate→VE,mem_append_right→VF,sublist_append_right→VG,flatten_cons→VH,length_append→VJ,append_nil→VK,getElem?_replicate→VL,mem_cons_of_mem→VM,append_assoc→VN,length_range→VO,sublist_append_left→VQ,flatten_nil→VS,length_map→VU,range→VZ,flatten→V0,getElem?_range→V1,sublist_flatten_of_mem→V2,mem_cons_self→V3,take_append_drop→V6,flatten_append→V8,getElem?_map→Wc,not_mem_nil→Wh,getElem?_eq_getElem→Wn,Perm→Wo,countP_singleton→Wq,mem_append_left→Ws,mem_of_getElem?→Wt,countP_append→Ww,length_take→WA,map_append→WB,map_cons→WD
open Go.Proofs.Tryz renaming prog→VB
open Nat renaming le_trans→VC,succ_le_succ→VI,zero_le→VP,mul_assoc→VR,lt_of_lt_of_le→VT,le_succ→VV,le_refl→VW,mul_comm→VX,le_mul_of_pos_right→VY,succ_mul→V4,le_succ_of_le→V5,mul_le_mul_right→V7,add_assoc→V9,lt_of_le_of_lt→Wb,zero_mul→Wd,add_zero→We,div_eq_of_lt→Wi,mod_eq_of_lt→Wj,lt_succ_self→Wk,mul_add_div→Wl,mul_add_mod→Wm,div_lt_of_lt_mul→Wv,blt_eq→Wx,mod_lt→Wy,lt_succ_of_lt→Wz,not_lt_zero→WC
open Option renaming map_some→Wf
open Bool renaming and_eq_true→Wg
open Classical renaming choose→Wp
open Go.Result renaming andThen_ok→Wu
namespace E
theorem ET(b:Nat)(k u:Int)(d:List UInt8)(m:Nat)(a g h i j n o p:Int)(t:a<1∨6<a):aa VB 95 #[pt b 67] [ob b (sV k u d m a g h i j n o p) 50] [] N0 (λ_=> .slice none 0 0):=by
 refine fG Tryz.func95 λw cs=>r0 [] [(2,.slice none 0 0)] [] (r0 [] [(3,pt b 68)] [] (r0 [(3,.l 0)] [(10,i6 a)] [] (r0 [] [(11,.bool (a==1))] [] ?_)));have q:(a==1)=false:=by rw[dP];omega
 refine cF (a==1) q (r0 [] [(29,.bool (a==2))] [] ?_);have r:(a==2)=false:=by rw[dP];omega
 refine cF (a==2) r (r0 [] [(50,.bool (a==3))] [] ?_);have s:(a==3)=false:=by rw[dP];omega
 refine cF (a==3) s (r0 [] [(68,.bool (a==4))] [] ?_);have c:(a==4)=false:=by rw[dP];omega
 refine cF (a==4) c (r0 [] [(86,.bool (a==5))] [] ?_);have e:(a==5)=false:=by rw[dP];omega
 refine cF (a==5) e (r0 [] [(98,.bool (a==6))] [] ?_);have f:(a==6)=false:=by rw[dP];omega
 exact cF (a==6) f (r0 [] [(2,.slice none 0 0)] [2] (lf ab.zero [] [(0,0)] []))
theorem RT(ln:Int)(d:List UInt8)(m:Nat)(c e f g h i j k:Int)(n:d.length=64):aa VB 55 #[.agg (sV 1 ln d m c e f g h i j k)] [] [] N0 (λ_=> .agg (sV 1 ln z6 0 0 0 0 0 0 0 0 0)):=by
 exact fG Tryz.func55 λw cs=>ra (λa=>[(1,pt (B0 a) 0),(2,pt (B1 a) 0)]) (λa=>[ob (B0 a) (sV 1 ln d m c e f g h i j k) 50,ob (B1 a) (sV 0 0 z6 0 0 0 0 0 0 0 0 0) 50]) λa=>rr (λ_=>[(1,.l 0),(4,.s 2)]) (λb=>[(3,pt (B3 b) 0)]) [] (λb L=>L++[ob (B3 b) (sV 1 0 z6 0 0 0 0 0 0 0 0 0) 50]) λb=>r0 [(1,.l 0)] [(11,i6 1)] [] (rT [] 12 (rs [(1,.l 0),(3,.s 2)] 2 (ob (B3 b) (sV 1 ln z6 0 0 0 0 0 0 0 0 0) 50) (rs [(0,.l 2),(1,.s 1)] 1 (ob (B1 a) (sV 1 ln z6 0 0 0 0 0 0 0 0 0) 50) (lf ab.zero [] [] [1]))))
theorem RU(ln:Int)(d:List UInt8)(m:Nat)(c e f g h i j k:Int)(n:d.length=64):aa VB 55 #[.agg (sV 2 ln d m c e f g h i j k)] [] [] N0 (λ_=> .agg (sV 2 ln d 0 0 0 0 0 0 0 0 0)):=by
 exact fG Tryz.func55 λw cs=>ra (λa=>[(1,pt (B0 a) 0),(2,pt (B1 a) 0)]) (λa=>[ob (B0 a) (sV 2 ln d m c e f g h i j k) 50,ob (B1 a) (sV 0 0 z6 0 0 0 0 0 0 0 0 0) 50]) λa=>rr (λ_=>[(1,.l 0),(4,.s 2)]) (λb=>[(3,pt (B3 b) 0)]) [] (λb L=>L++[ob (B3 b) (sV 2 0 z6 0 0 0 0 0 0 0 0 0) 50]) λb=>r0 [(1,.l 0)] [(11,i6 2)] [] (rF [] 12 (rT [] 17 (rs [(1,.l 0),(3,.l 0),(5,.s 2),(7,.s 2)] 2 (ob (B3 b) (sV 2 ln d 0 0 0 0 0 0 0 0 0) 50) (rs [(0,.l 2),(1,.s 1)] 1 (ob (B1 a) (sV 2 ln d 0 0 0 0 0 0 0 0 0) 50) (lf ab.zero [] [] [1])))))
theorem RW(ln:Int)(d:List UInt8)(m:Nat)(c e f g h i j k:Int)(n:d.length=64):aa VB 55 #[.agg (sV 3 ln d m c e f g h i j k)] [] [] N0 (λ_=> .agg (sV 3 ln d m 0 0 0 0 0 0 0 0)):=by
 exact fG Tryz.func55 λw cs=>ra (λa=>[(1,pt (B0 a) 0),(2,pt (B1 a) 0)]) (λa=>[ob (B0 a) (sV 3 ln d m c e f g h i j k) 50,ob (B1 a) (sV 0 0 z6 0 0 0 0 0 0 0 0 0) 50]) λa=>rr (λ_=>[(1,.l 0),(4,.s 2)]) (λb=>[(3,pt (B3 b) 0)]) [] (λb L=>L++[ob (B3 b) (sV 3 0 z6 0 0 0 0 0 0 0 0 0) 50]) λb=>r0 [(1,.l 0)] [(11,i6 3)] [] (rF [] 12 (rF [] 17 (rT [] 25 (rs [(0,.v (pt (B0 a) 1)),(1,.m (ld 0 (i6 ln))),(2,.v (pt (B0 a) 2)),(3,.m (ls 0 (rB 64 d))),(4,.v (pt (B0 a) 66)),(5,.m (ld 0 (u6 (m:Int)))),(6,.v (pt (B3 b) 1)),(7,.s 2),(8,.v (pt (B3 b) 2)),(9,.s 2),(10,.v (pt (B3 b) 66)),(11,.s 2)] 2 (ob (B3 b) (sV 3 ln d m 0 0 0 0 0 0 0 0) 50) (rs [(0,.l 2),(1,.s 1)] 1 (ob (B1 a) (sV 3 ln d m 0 0 0 0 0 0 0 0) 50) (lf ab.zero [] [] [1]))))))
theorem RX(k p:Int)(d:List UInt8)(m:Nat)(e f g h i j n o:Int)(x:d.length=64)(u:4≤k)(v:k≤7):aa VB 55 #[.agg (sV k p d m e f g h i j n o)] [] [] N0 (λ_=> .agg (sV k 0 z6 0 0 0 0 0 0 0 0 0)):=by
 refine fG Tryz.func55 λw cs=>ra (λa=>[(1,pt (B0 a) 0),(2,pt (B1 a) 0)]) (λa=>[ob (B0 a) (sV k p d m e f g h i j n o) 50,ob (B1 a) (sV 0 0 z6 0 0 0 0 0 0 0 0 0) 50]) λa=>rr (λ_=>[(1,.l 0),(4,.s 2)]) (λb=>[(3,pt (B3 b) 0)]) [] (λb L=>L++[ob (B3 b) (sV k 0 z6 0 0 0 0 0 0 0 0 0) 50]) λb=>r0 [(1,.l 0)] [(11,i6 k)] [] (r0 [] [(12,.bool (k==1))] [] ?_);have q:(k==1)=false:=by rw[dP];omega
 refine cF (k==1) q (r0 [] [(17,.bool (k==2))] [] ?_);have r:(k==2)=false:=by rw[dP];omega
 refine cF (k==2) r (r0 [] [(25,.bool (k==3))] [] ?_);have t:(k==3)=false:=by rw[dP];omega
 refine cF (k==3) t (r0 [] [(36,.bool (k==8))] [] ?_);have c:(k==8)=false:=by rw[dP];omega
 exact cF (k==8) c (rs [(0,.l 2),(1,.s 1)] 1 (ob (B1 a) (sV k 0 z6 0 0 0 0 0 0 0 0 0) 50) (lf ab.zero [] [] [1]))
theorem RY(ln:Int)(d:List UInt8)(m:Nat)(f g i j o n p:Int)(q:d.length=64):aa VB 55 #[.agg (sV 8 ln d m 1 f g i j o n p)] [] [] N0 (λ_=> .agg (sV 8 0 z6 0 1 f g i j 0 n 0)):=by
 refine fG Tryz.func55 λw cs=>ra (λb=>[(1,pt (B0 b) 0),(2,pt (B1 b) 0)]) (λb=>[ob (B0 b) (sV 8 ln d m 1 f g i j o n p) 50,ob (B1 b) (sV 0 0 z6 0 0 0 0 0 0 0 0 0) 50]) λb=>rr (λ_=>[(1,.l 0),(4,.s 2)]) (λe=>[(3,pt (B3 e) 0)]) [] (λe L=>L++[ob (B3 e) (sV 8 0 z6 0 0 0 0 0 0 0 0 0) 50]) λe=>r0 [(1,.l 0)] [(11,i6 8)] [] (rF [] 12 (rF [] 17 (rF [] 25 (rT [] 36 (rs [(2,.l 0),(5,.s 2)] 2 (ob (B3 e) (sV 8 0 z6 0 1 0 0 0 0 0 0 0) 50) (rr (λ_=>[(1,.c [2] [3] (EL (B3 e) 8 0 z6 0 0 0 0 0 0 0 0))]) (λh=>[(4,.slice (some ⟨(B1 h),0,none⟩) 5 5)]) [] (λh L=>L++[ob (B1 h) #[pt (B3 e) 68,pt (B3 e) 69,pt (B3 e) 70,pt (B3 e) 71,pt (B3 e) 73] 197]) λh=>rr (λ_=>[(1,.c [0] [4] (EL (B0 b) 8 ln d m f g i j o n p))]) (λa=>[(46,.slice (some ⟨(B1 a),0,none⟩) 5 5),(47,i6 5),(48,i6 0)]) [] (λa L=>L++[ob (B1 a) #[pt (B0 b) 68,pt (B0 b) 69,pt (B0 b) 70,pt (B0 b) 71,pt (B0 b) 73] 197]) λa=>?_))))));refine lu 8 ?_;refine rT [] 49 (r0 [(1,.t (tv (Instr.indexAt 194 (.slice (some ⟨(B1 a),0,none⟩) 5 5) (i6 0)) (λ_=>bS (k:=0) (s:=1) Kr Om))),(2,.l 4)] [(5,i6 0),(6,pt (B0 b) 68)] [] (rs [(2,.t (tv (Instr.indexAt 194 (.slice (some ⟨(B1 h),0,none⟩) 5 5) (i6 0)) (λ_=>bS (k:=0) (s:=1) Kr Om))),(3,.l 3),(6,.l 0),(8,.s 2)] 2 (ob (B3 e) (sV 8 0 z6 0 1 f 0 0 0 0 0 0) 50) (r0 [] [(48,i6 1)] [48] ?_)));refine eK ?_;refine r0 [] [(49,.bool true)] [49] (cT _ rfl (r0 [(1,.t (tv (Instr.indexAt 194 (.slice (some ⟨(B1 a),0,none⟩) 5 5) (i6 1)) (λ_=>bS (k:=1) (s:=1) Kr Om))),(2,.l 4)] [(5,i6 1),(6,pt (B0 b) 69)] [5,6] (rs [(2,.t (tv (Instr.indexAt 194 (.slice (some ⟨(B1 h),0,none⟩) 5 5) (i6 1)) (λ_=>bS (k:=1) (s:=1) Kr Om))),(3,.l 3),(6,.l 0),(8,.s 2)] 2 (ob (B3 e) (sV 8 0 z6 0 1 f g 0 0 0 0 0) 50) (r0 [] [(48,i6 2)] [48] ?_))));refine eK ?_;refine r0 [] [(49,.bool true)] [49] (cT _ rfl (r0 [(1,.t (tv (Instr.indexAt 194 (.slice (some ⟨(B1 a),0,none⟩) 5 5) (i6 2)) (λ_=>bS (k:=2) (s:=1) Kr Om))),(2,.l 4)] [(5,i6 2),(6,pt (B0 b) 70)] [5,6] (rs [(2,.t (tv (Instr.indexAt 194 (.slice (some ⟨(B1 h),0,none⟩) 5 5) (i6 2)) (λ_=>bS (k:=2) (s:=1) Kr Om))),(3,.l 3),(6,.l 0),(8,.s 2)] 2 (ob (B3 e) (sV 8 0 z6 0 1 f g i 0 0 0 0) 50) (r0 [] [(48,i6 3)] [48] ?_))));refine eK ?_;refine r0 [] [(49,.bool true)] [49] (cT _ rfl (r0 [(1,.t (tv (Instr.indexAt 194 (.slice (some ⟨(B1 a),0,none⟩) 5 5) (i6 3)) (λ_=>bS (k:=3) (s:=1) Kr Om))),(2,.l 4)] [(5,i6 3),(6,pt (B0 b) 71)] [5,6] (rs [(2,.t (tv (Instr.indexAt 194 (.slice (some ⟨(B1 h),0,none⟩) 5 5) (i6 3)) (λ_=>bS (k:=3) (s:=1) Kr Om))),(3,.l 3),(6,.l 0),(8,.s 2)] 2 (ob (B3 e) (sV 8 0 z6 0 1 f g i j 0 0 0) 50) (r0 [] [(48,i6 4)] [48] ?_))));refine eK ?_;refine r0 [] [(49,.bool true)] [49] (cT _ rfl (r0 [(1,.t (tv (Instr.indexAt 194 (.slice (some ⟨(B1 a),0,none⟩) 5 5) (i6 4)) (λ_=>bS (k:=4) (s:=1) Kr Om))),(2,.l 4)] [(5,i6 4),(6,pt (B0 b) 73)] [5,6] (rs [(2,.t (tv (Instr.indexAt 194 (.slice (some ⟨(B1 h),0,none⟩) 5 5) (i6 4)) (λ_=>bS (k:=4) (s:=1) Kr Om))),(3,.l 3),(6,.l 0),(8,.s 2)] 2 (ob (B3 e) (sV 8 0 z6 0 1 f g i j 0 n 0) 50) (r0 [] [(48,i6 5)] [48] ?_))));refine eK ?_;refine r0 [] [(49,.bool false)] [49] (cF _ rfl ?_);refine nZ ?_;exact rs [(0,.l 2),(1,.s 1)] 1 (ob (B1 b) (sV 8 0 z6 0 1 f g i j 0 n 0) 50) (lf ab.zero [] [] [1])
theorem RZ(ln:Int)(d:List UInt8)(m:Nat)(f g i j p n o:Int)(q:d.length=64):aa VB 55 #[.agg (sV 8 ln d m 2 f g i j p n o)] [] [] N0 (λ_=> .agg (sV 8 0 z6 0 2 f g i j 0 n o)):=by
 refine fG Tryz.func55 λw cs=>ra (λb=>[(1,pt (B0 b) 0),(2,pt (B1 b) 0)]) (λb=>[ob (B0 b) (sV 8 ln d m 2 f g i j p n o) 50,ob (B1 b) (sV 0 0 z6 0 0 0 0 0 0 0 0 0) 50]) λb=>rr (λ_=>[(1,.l 0),(4,.s 2)]) (λe=>[(3,pt (B3 e) 0)]) [] (λe L=>L++[ob (B3 e) (sV 8 0 z6 0 0 0 0 0 0 0 0 0) 50]) λe=>r0 [(1,.l 0)] [(11,i6 8)] [] (rF [] 12 (rF [] 17 (rF [] 25 (rT [] 36 (rs [(2,.l 0),(5,.s 2)] 2 (ob (B3 e) (sV 8 0 z6 0 2 0 0 0 0 0 0 0) 50) (rr (λ_=>[(1,.c [2] [3] (EM (B3 e) 8 0 z6 0 0 0 0 0 0 0 0))]) (λh=>[(4,.slice (some ⟨(B1 h),0,none⟩) 6 6)]) [] (λh L=>L++[ob (B1 h) #[pt (B3 e) 68,pt (B3 e) 69,pt (B3 e) 70,pt (B3 e) 71,pt (B3 e) 73,pt (B3 e) 74] 197]) λh=>rr (λ_=>[(1,.c [0] [4] (EM (B0 b) 8 ln d m f g i j p n o))]) (λa=>[(46,.slice (some ⟨(B1 a),0,none⟩) 6 6),(47,i6 6),(48,i6 0)]) [] (λa L=>L++[ob (B1 a) #[pt (B0 b) 68,pt (B0 b) 69,pt (B0 b) 70,pt (B0 b) 71,pt (B0 b) 73,pt (B0 b) 74] 197]) λa=>?_))))));refine lu 8 ?_;refine rT [] 49 (r0 [(1,.t (tv (Instr.indexAt 194 (.slice (some ⟨(B1 a),0,none⟩) 6 6) (i6 0)) (λ_=>bS (k:=0) (s:=1) Kr Om))),(2,.l 4)] [(5,i6 0),(6,pt (B0 b) 68)] [] (rs [(2,.t (tv (Instr.indexAt 194 (.slice (some ⟨(B1 h),0,none⟩) 6 6) (i6 0)) (λ_=>bS (k:=0) (s:=1) Kr Om))),(3,.l 3),(6,.l 0),(8,.s 2)] 2 (ob (B3 e) (sV 8 0 z6 0 2 f 0 0 0 0 0 0) 50) (r0 [] [(48,i6 1)] [48] ?_)));refine eK ?_;refine r0 [] [(49,.bool true)] [49] (cT _ rfl (r0 [(1,.t (tv (Instr.indexAt 194 (.slice (some ⟨(B1 a),0,none⟩) 6 6) (i6 1)) (λ_=>bS (k:=1) (s:=1) Kr Om))),(2,.l 4)] [(5,i6 1),(6,pt (B0 b) 69)] [5,6] (rs [(2,.t (tv (Instr.indexAt 194 (.slice (some ⟨(B1 h),0,none⟩) 6 6) (i6 1)) (λ_=>bS (k:=1) (s:=1) Kr Om))),(3,.l 3),(6,.l 0),(8,.s 2)] 2 (ob (B3 e) (sV 8 0 z6 0 2 f g 0 0 0 0 0) 50) (r0 [] [(48,i6 2)] [48] ?_))));refine eK ?_;refine r0 [] [(49,.bool true)] [49] (cT _ rfl (r0 [(1,.t (tv (Instr.indexAt 194 (.slice (some ⟨(B1 a),0,none⟩) 6 6) (i6 2)) (λ_=>bS (k:=2) (s:=1) Kr Om))),(2,.l 4)] [(5,i6 2),(6,pt (B0 b) 70)] [5,6] (rs [(2,.t (tv (Instr.indexAt 194 (.slice (some ⟨(B1 h),0,none⟩) 6 6) (i6 2)) (λ_=>bS (k:=2) (s:=1) Kr Om))),(3,.l 3),(6,.l 0),(8,.s 2)] 2 (ob (B3 e) (sV 8 0 z6 0 2 f g i 0 0 0 0) 50) (r0 [] [(48,i6 3)] [48] ?_))));refine eK ?_;refine r0 [] [(49,.bool true)] [49] (cT _ rfl (r0 [(1,.t (tv (Instr.indexAt 194 (.slice (some ⟨(B1 a),0,none⟩) 6 6) (i6 3)) (λ_=>bS (k:=3) (s:=1) Kr Om))),(2,.l 4)] [(5,i6 3),(6,pt (B0 b) 71)] [5,6] (rs [(2,.t (tv (Instr.indexAt 194 (.slice (some ⟨(B1 h),0,none⟩) 6 6) (i6 3)) (λ_=>bS (k:=3) (s:=1) Kr Om))),(3,.l 3),(6,.l 0),(8,.s 2)] 2 (ob (B3 e) (sV 8 0 z6 0 2 f g i j 0 0 0) 50) (r0 [] [(48,i6 4)] [48] ?_))));refine eK ?_;refine r0 [] [(49,.bool true)] [49] (cT _ rfl (r0 [(1,.t (tv (Instr.indexAt 194 (.slice (some ⟨(B1 a),0,none⟩) 6 6) (i6 4)) (λ_=>bS (k:=4) (s:=1) Kr Om))),(2,.l 4)] [(5,i6 4),(6,pt (B0 b) 73)] [5,6] (rs [(2,.t (tv (Instr.indexAt 194 (.slice (some ⟨(B1 h),0,none⟩) 6 6) (i6 4)) (λ_=>bS (k:=4) (s:=1) Kr Om))),(3,.l 3),(6,.l 0),(8,.s 2)] 2 (ob (B3 e) (sV 8 0 z6 0 2 f g i j 0 n 0) 50) (r0 [] [(48,i6 5)] [48] ?_))));refine eK ?_;refine r0 [] [(49,.bool true)] [49] (cT _ rfl (r0 [(1,.t (tv (Instr.indexAt 194 (.slice (some ⟨(B1 a),0,none⟩) 6 6) (i6 5)) (λ_=>bS (k:=5) (s:=1) Kr Om))),(2,.l 4)] [(5,i6 5),(6,pt (B0 b) 74)] [5,6] (rs [(2,.t (tv (Instr.indexAt 194 (.slice (some ⟨(B1 h),0,none⟩) 6 6) (i6 5)) (λ_=>bS (k:=5) (s:=1) Kr Om))),(3,.l 3),(6,.l 0),(8,.s 2)] 2 (ob (B3 e) (sV 8 0 z6 0 2 f g i j 0 n o) 50) (r0 [] [(48,i6 6)] [48] ?_))));refine eK ?_;refine r0 [] [(49,.bool false)] [49] (cF _ rfl ?_);refine nZ ?_;exact rs [(0,.l 2),(1,.s 1)] 1 (ob (B1 b) (sV 8 0 z6 0 2 f g i j 0 n o) 50) (lf ab.zero [] [] [1])
theorem R3(ln:Int)(d:List UInt8)(m:Nat)(f g i o j p n:Int)(q:d.length=64):aa VB 55 #[.agg (sV 8 ln d m 3 f g i o j p n)] [] [] N0 (λ_=> .agg (sV 8 0 z6 0 3 f g i 0 j 0 n)):=by
 refine fG Tryz.func55 λw cs=>ra (λb=>[(1,pt (B0 b) 0),(2,pt (B1 b) 0)]) (λb=>[ob (B0 b) (sV 8 ln d m 3 f g i o j p n) 50,ob (B1 b) (sV 0 0 z6 0 0 0 0 0 0 0 0 0) 50]) λb=>rr (λ_=>[(1,.l 0),(4,.s 2)]) (λe=>[(3,pt (B3 e) 0)]) [] (λe L=>L++[ob (B3 e) (sV 8 0 z6 0 0 0 0 0 0 0 0 0) 50]) λe=>r0 [(1,.l 0)] [(11,i6 8)] [] (rF [] 12 (rF [] 17 (rF [] 25 (rT [] 36 (rs [(2,.l 0),(5,.s 2)] 2 (ob (B3 e) (sV 8 0 z6 0 3 0 0 0 0 0 0 0) 50) (rr (λ_=>[(1,.c [2] [3] (EN (B3 e) 8 0 z6 0 0 0 0 0 0 0 0))]) (λh=>[(4,.slice (some ⟨(B1 h),0,none⟩) 5 5)]) [] (λh L=>L++[ob (B1 h) #[pt (B3 e) 68,pt (B3 e) 69,pt (B3 e) 70,pt (B3 e) 72,pt (B3 e) 74] 197]) λh=>rr (λ_=>[(1,.c [0] [4] (EN (B0 b) 8 ln d m f g i o j p n))]) (λa=>[(46,.slice (some ⟨(B1 a),0,none⟩) 5 5),(47,i6 5),(48,i6 0)]) [] (λa L=>L++[ob (B1 a) #[pt (B0 b) 68,pt (B0 b) 69,pt (B0 b) 70,pt (B0 b) 72,pt (B0 b) 74] 197]) λa=>?_))))));refine lu 8 ?_;refine rT [] 49 (r0 [(1,.t (tv (Instr.indexAt 194 (.slice (some ⟨(B1 a),0,none⟩) 5 5) (i6 0)) (λ_=>bS (k:=0) (s:=1) Kr Om))),(2,.l 4)] [(5,i6 0),(6,pt (B0 b) 68)] [] (rs [(2,.t (tv (Instr.indexAt 194 (.slice (some ⟨(B1 h),0,none⟩) 5 5) (i6 0)) (λ_=>bS (k:=0) (s:=1) Kr Om))),(3,.l 3),(6,.l 0),(8,.s 2)] 2 (ob (B3 e) (sV 8 0 z6 0 3 f 0 0 0 0 0 0) 50) (r0 [] [(48,i6 1)] [48] ?_)));refine eK ?_;refine r0 [] [(49,.bool true)] [49] (cT _ rfl (r0 [(1,.t (tv (Instr.indexAt 194 (.slice (some ⟨(B1 a),0,none⟩) 5 5) (i6 1)) (λ_=>bS (k:=1) (s:=1) Kr Om))),(2,.l 4)] [(5,i6 1),(6,pt (B0 b) 69)] [5,6] (rs [(2,.t (tv (Instr.indexAt 194 (.slice (some ⟨(B1 h),0,none⟩) 5 5) (i6 1)) (λ_=>bS (k:=1) (s:=1) Kr Om))),(3,.l 3),(6,.l 0),(8,.s 2)] 2 (ob (B3 e) (sV 8 0 z6 0 3 f g 0 0 0 0 0) 50) (r0 [] [(48,i6 2)] [48] ?_))));refine eK ?_;refine r0 [] [(49,.bool true)] [49] (cT _ rfl (r0 [(1,.t (tv (Instr.indexAt 194 (.slice (some ⟨(B1 a),0,none⟩) 5 5) (i6 2)) (λ_=>bS (k:=2) (s:=1) Kr Om))),(2,.l 4)] [(5,i6 2),(6,pt (B0 b) 70)] [5,6] (rs [(2,.t (tv (Instr.indexAt 194 (.slice (some ⟨(B1 h),0,none⟩) 5 5) (i6 2)) (λ_=>bS (k:=2) (s:=1) Kr Om))),(3,.l 3),(6,.l 0),(8,.s 2)] 2 (ob (B3 e) (sV 8 0 z6 0 3 f g i 0 0 0 0) 50) (r0 [] [(48,i6 3)] [48] ?_))));refine eK ?_;refine r0 [] [(49,.bool true)] [49] (cT _ rfl (r0 [(1,.t (tv (Instr.indexAt 194 (.slice (some ⟨(B1 a),0,none⟩) 5 5) (i6 3)) (λ_=>bS (k:=3) (s:=1) Kr Om))),(2,.l 4)] [(5,i6 3),(6,pt (B0 b) 72)] [5,6] (rs [(2,.t (tv (Instr.indexAt 194 (.slice (some ⟨(B1 h),0,none⟩) 5 5) (i6 3)) (λ_=>bS (k:=3) (s:=1) Kr Om))),(3,.l 3),(6,.l 0),(8,.s 2)] 2 (ob (B3 e) (sV 8 0 z6 0 3 f g i 0 j 0 0) 50) (r0 [] [(48,i6 4)] [48] ?_))));refine eK ?_;refine r0 [] [(49,.bool true)] [49] (cT _ rfl (r0 [(1,.t (tv (Instr.indexAt 194 (.slice (some ⟨(B1 a),0,none⟩) 5 5) (i6 4)) (λ_=>bS (k:=4) (s:=1) Kr Om))),(2,.l 4)] [(5,i6 4),(6,pt (B0 b) 74)] [5,6] (rs [(2,.t (tv (Instr.indexAt 194 (.slice (some ⟨(B1 h),0,none⟩) 5 5) (i6 4)) (λ_=>bS (k:=4) (s:=1) Kr Om))),(3,.l 3),(6,.l 0),(8,.s 2)] 2 (ob (B3 e) (sV 8 0 z6 0 3 f g i 0 j 0 n) 50) (r0 [] [(48,i6 5)] [48] ?_))));refine eK ?_;refine r0 [] [(49,.bool false)] [49] (cF _ rfl ?_);refine nZ ?_;exact rs [(0,.l 2),(1,.s 1)] 1 (ob (B1 b) (sV 8 0 z6 0 3 f g i 0 j 0 n) 50) (lf ab.zero [] [] [1])
theorem R4(ln:Int)(d:List UInt8)(m:Nat)(f g o i j p n:Int)(q:d.length=64):aa VB 55 #[.agg (sV 8 ln d m 4 f g o i j p n)] [] [] N0 (λ_=> .agg (sV 8 0 z6 0 4 f g 0 i j 0 n)):=by
 refine fG Tryz.func55 λw cs=>ra (λb=>[(1,pt (B0 b) 0),(2,pt (B1 b) 0)]) (λb=>[ob (B0 b) (sV 8 ln d m 4 f g o i j p n) 50,ob (B1 b) (sV 0 0 z6 0 0 0 0 0 0 0 0 0) 50]) λb=>rr (λ_=>[(1,.l 0),(4,.s 2)]) (λe=>[(3,pt (B3 e) 0)]) [] (λe L=>L++[ob (B3 e) (sV 8 0 z6 0 0 0 0 0 0 0 0 0) 50]) λe=>r0 [(1,.l 0)] [(11,i6 8)] [] (rF [] 12 (rF [] 17 (rF [] 25 (rT [] 36 (rs [(2,.l 0),(5,.s 2)] 2 (ob (B3 e) (sV 8 0 z6 0 4 0 0 0 0 0 0 0) 50) (rr (λ_=>[(1,.c [2] [3] (EO (B3 e) 8 0 z6 0 0 0 0 0 0 0 0))]) (λh=>[(4,.slice (some ⟨(B1 h),0,none⟩) 5 5)]) [] (λh L=>L++[ob (B1 h) #[pt (B3 e) 68,pt (B3 e) 69,pt (B3 e) 71,pt (B3 e) 72,pt (B3 e) 74] 197]) λh=>rr (λ_=>[(1,.c [0] [4] (EO (B0 b) 8 ln d m f g o i j p n))]) (λa=>[(46,.slice (some ⟨(B1 a),0,none⟩) 5 5),(47,i6 5),(48,i6 0)]) [] (λa L=>L++[ob (B1 a) #[pt (B0 b) 68,pt (B0 b) 69,pt (B0 b) 71,pt (B0 b) 72,pt (B0 b) 74] 197]) λa=>?_))))));refine lu 8 ?_;refine rT [] 49 (r0 [(1,.t (tv (Instr.indexAt 194 (.slice (some ⟨(B1 a),0,none⟩) 5 5) (i6 0)) (λ_=>bS (k:=0) (s:=1) Kr Om))),(2,.l 4)] [(5,i6 0),(6,pt (B0 b) 68)] [] (rs [(2,.t (tv (Instr.indexAt 194 (.slice (some ⟨(B1 h),0,none⟩) 5 5) (i6 0)) (λ_=>bS (k:=0) (s:=1) Kr Om))),(3,.l 3),(6,.l 0),(8,.s 2)] 2 (ob (B3 e) (sV 8 0 z6 0 4 f 0 0 0 0 0 0) 50) (r0 [] [(48,i6 1)] [48] ?_)));refine eK ?_;refine r0 [] [(49,.bool true)] [49] (cT _ rfl (r0 [(1,.t (tv (Instr.indexAt 194 (.slice (some ⟨(B1 a),0,none⟩) 5 5) (i6 1)) (λ_=>bS (k:=1) (s:=1) Kr Om))),(2,.l 4)] [(5,i6 1),(6,pt (B0 b) 69)] [5,6] (rs [(2,.t (tv (Instr.indexAt 194 (.slice (some ⟨(B1 h),0,none⟩) 5 5) (i6 1)) (λ_=>bS (k:=1) (s:=1) Kr Om))),(3,.l 3),(6,.l 0),(8,.s 2)] 2 (ob (B3 e) (sV 8 0 z6 0 4 f g 0 0 0 0 0) 50) (r0 [] [(48,i6 2)] [48] ?_))));refine eK ?_;refine r0 [] [(49,.bool true)] [49] (cT _ rfl (r0 [(1,.t (tv (Instr.indexAt 194 (.slice (some ⟨(B1 a),0,none⟩) 5 5) (i6 2)) (λ_=>bS (k:=2) (s:=1) Kr Om))),(2,.l 4)] [(5,i6 2),(6,pt (B0 b) 71)] [5,6] (rs [(2,.t (tv (Instr.indexAt 194 (.slice (some ⟨(B1 h),0,none⟩) 5 5) (i6 2)) (λ_=>bS (k:=2) (s:=1) Kr Om))),(3,.l 3),(6,.l 0),(8,.s 2)] 2 (ob (B3 e) (sV 8 0 z6 0 4 f g 0 i 0 0 0) 50) (r0 [] [(48,i6 3)] [48] ?_))));refine eK ?_;refine r0 [] [(49,.bool true)] [49] (cT _ rfl (r0 [(1,.t (tv (Instr.indexAt 194 (.slice (some ⟨(B1 a),0,none⟩) 5 5) (i6 3)) (λ_=>bS (k:=3) (s:=1) Kr Om))),(2,.l 4)] [(5,i6 3),(6,pt (B0 b) 72)] [5,6] (rs [(2,.t (tv (Instr.indexAt 194 (.slice (some ⟨(B1 h),0,none⟩) 5 5) (i6 3)) (λ_=>bS (k:=3) (s:=1) Kr Om))),(3,.l 3),(6,.l 0),(8,.s 2)] 2 (ob (B3 e) (sV 8 0 z6 0 4 f g 0 i j 0 0) 50) (r0 [] [(48,i6 4)] [48] ?_))));refine eK ?_;refine r0 [] [(49,.bool true)] [49] (cT _ rfl (r0 [(1,.t (tv (Instr.indexAt 194 (.slice (some ⟨(B1 a),0,none⟩) 5 5) (i6 4)) (λ_=>bS (k:=4) (s:=1) Kr Om))),(2,.l 4)] [(5,i6 4),(6,pt (B0 b) 74)] [5,6] (rs [(2,.t (tv (Instr.indexAt 194 (.slice (some ⟨(B1 h),0,none⟩) 5 5) (i6 4)) (λ_=>bS (k:=4) (s:=1) Kr Om))),(3,.l 3),(6,.l 0),(8,.s 2)] 2 (ob (B3 e) (sV 8 0 z6 0 4 f g 0 i j 0 n) 50) (r0 [] [(48,i6 5)] [48] ?_))));refine eK ?_;refine r0 [] [(49,.bool false)] [49] (cF _ rfl ?_);refine nZ ?_;exact rs [(0,.l 2),(1,.s 1)] 1 (ob (B1 b) (sV 8 0 z6 0 4 f g 0 i j 0 n) 50) (lf ab.zero [] [] [1])
theorem R5(ln:Int)(d:List UInt8)(m:Nat)(f j n o g p i:Int)(q:d.length=64):aa VB 55 #[.agg (sV 8 ln d m 5 f j n o g p i)] [] [] N0 (λ_=> .agg (sV 8 0 z6 0 5 f 0 0 0 g 0 i)):=by
 refine fG Tryz.func55 λw cs=>ra (λb=>[(1,pt (B0 b) 0),(2,pt (B1 b) 0)]) (λb=>[ob (B0 b) (sV 8 ln d m 5 f j n o g p i) 50,ob (B1 b) (sV 0 0 z6 0 0 0 0 0 0 0 0 0) 50]) λb=>rr (λ_=>[(1,.l 0),(4,.s 2)]) (λe=>[(3,pt (B3 e) 0)]) [] (λe L=>L++[ob (B3 e) (sV 8 0 z6 0 0 0 0 0 0 0 0 0) 50]) λe=>r0 [(1,.l 0)] [(11,i6 8)] [] (rF [] 12 (rF [] 17 (rF [] 25 (rT [] 36 (rs [(2,.l 0),(5,.s 2)] 2 (ob (B3 e) (sV 8 0 z6 0 5 0 0 0 0 0 0 0) 50) (rr (λ_=>[(1,.c [2] [3] (EP (B3 e) 8 0 z6 0 0 0 0 0 0 0 0))]) (λh=>[(4,.slice (some ⟨(B1 h),0,none⟩) 3 3)]) [] (λh L=>L++[ob (B1 h) #[pt (B3 e) 68,pt (B3 e) 72,pt (B3 e) 74] 197]) λh=>rr (λ_=>[(1,.c [0] [4] (EP (B0 b) 8 ln d m f j n o g p i))]) (λa=>[(46,.slice (some ⟨(B1 a),0,none⟩) 3 3),(47,i6 3),(48,i6 0)]) [] (λa L=>L++[ob (B1 a) #[pt (B0 b) 68,pt (B0 b) 72,pt (B0 b) 74] 197]) λa=>?_))))));refine lu 8 ?_;refine rT [] 49 (r0 [(1,.t (tv (Instr.indexAt 194 (.slice (some ⟨(B1 a),0,none⟩) 3 3) (i6 0)) (λ_=>bS (k:=0) (s:=1) Kr Om))),(2,.l 4)] [(5,i6 0),(6,pt (B0 b) 68)] [] (rs [(2,.t (tv (Instr.indexAt 194 (.slice (some ⟨(B1 h),0,none⟩) 3 3) (i6 0)) (λ_=>bS (k:=0) (s:=1) Kr Om))),(3,.l 3),(6,.l 0),(8,.s 2)] 2 (ob (B3 e) (sV 8 0 z6 0 5 f 0 0 0 0 0 0) 50) (r0 [] [(48,i6 1)] [48] ?_)));refine eK ?_;refine r0 [] [(49,.bool true)] [49] (cT _ rfl (r0 [(1,.t (tv (Instr.indexAt 194 (.slice (some ⟨(B1 a),0,none⟩) 3 3) (i6 1)) (λ_=>bS (k:=1) (s:=1) Kr Om))),(2,.l 4)] [(5,i6 1),(6,pt (B0 b) 72)] [5,6] (rs [(2,.t (tv (Instr.indexAt 194 (.slice (some ⟨(B1 h),0,none⟩) 3 3) (i6 1)) (λ_=>bS (k:=1) (s:=1) Kr Om))),(3,.l 3),(6,.l 0),(8,.s 2)] 2 (ob (B3 e) (sV 8 0 z6 0 5 f 0 0 0 g 0 0) 50) (r0 [] [(48,i6 2)] [48] ?_))));refine eK ?_;refine r0 [] [(49,.bool true)] [49] (cT _ rfl (r0 [(1,.t (tv (Instr.indexAt 194 (.slice (some ⟨(B1 a),0,none⟩) 3 3) (i6 2)) (λ_=>bS (k:=2) (s:=1) Kr Om))),(2,.l 4)] [(5,i6 2),(6,pt (B0 b) 74)] [5,6] (rs [(2,.t (tv (Instr.indexAt 194 (.slice (some ⟨(B1 h),0,none⟩) 3 3) (i6 2)) (λ_=>bS (k:=2) (s:=1) Kr Om))),(3,.l 3),(6,.l 0),(8,.s 2)] 2 (ob (B3 e) (sV 8 0 z6 0 5 f 0 0 0 g 0 i) 50) (r0 [] [(48,i6 3)] [48] ?_))));refine eK ?_;refine r0 [] [(49,.bool false)] [49] (cF _ rfl ?_);refine nZ ?_;exact rs [(0,.l 2),(1,.s 1)] 1 (ob (B1 b) (sV 8 0 z6 0 5 f 0 0 0 g 0 i) 50) (lf ab.zero [] [] [1])
theorem R6(ln:Int)(d:List UInt8)(m:Nat)(f g i j n o p:Int)(q:d.length=64):aa VB 55 #[.agg (sV 8 ln d m 6 f g i j n o p)] [] [] N0 (λ_=> .agg (sV 8 0 z6 0 6 f g i j 0 0 0)):=by
 refine fG Tryz.func55 λw cs=>ra (λb=>[(1,pt (B0 b) 0),(2,pt (B1 b) 0)]) (λb=>[ob (B0 b) (sV 8 ln d m 6 f g i j n o p) 50,ob (B1 b) (sV 0 0 z6 0 0 0 0 0 0 0 0 0) 50]) λb=>rr (λ_=>[(1,.l 0),(4,.s 2)]) (λe=>[(3,pt (B3 e) 0)]) [] (λe L=>L++[ob (B3 e) (sV 8 0 z6 0 0 0 0 0 0 0 0 0) 50]) λe=>r0 [(1,.l 0)] [(11,i6 8)] [] (rF [] 12 (rF [] 17 (rF [] 25 (rT [] 36 (rs [(2,.l 0),(5,.s 2)] 2 (ob (B3 e) (sV 8 0 z6 0 6 0 0 0 0 0 0 0) 50) (rr (λ_=>[(1,.c [2] [3] (ER (B3 e) 8 0 z6 0 0 0 0 0 0 0 0))]) (λh=>[(4,.slice (some ⟨(B1 h),0,none⟩) 4 4)]) [] (λh L=>L++[ob (B1 h) #[pt (B3 e) 68,pt (B3 e) 69,pt (B3 e) 70,pt (B3 e) 71] 197]) λh=>rr (λ_=>[(1,.c [0] [4] (ER (B0 b) 8 ln d m f g i j n o p))]) (λa=>[(46,.slice (some ⟨(B1 a),0,none⟩) 4 4),(47,i6 4),(48,i6 0)]) [] (λa L=>L++[ob (B1 a) #[pt (B0 b) 68,pt (B0 b) 69,pt (B0 b) 70,pt (B0 b) 71] 197]) λa=>?_))))));refine lu 8 ?_;refine rT [] 49 (r0 [(1,.t (tv (Instr.indexAt 194 (.slice (some ⟨(B1 a),0,none⟩) 4 4) (i6 0)) (λ_=>bS (k:=0) (s:=1) Kr Om))),(2,.l 4)] [(5,i6 0),(6,pt (B0 b) 68)] [] (rs [(2,.t (tv (Instr.indexAt 194 (.slice (some ⟨(B1 h),0,none⟩) 4 4) (i6 0)) (λ_=>bS (k:=0) (s:=1) Kr Om))),(3,.l 3),(6,.l 0),(8,.s 2)] 2 (ob (B3 e) (sV 8 0 z6 0 6 f 0 0 0 0 0 0) 50) (r0 [] [(48,i6 1)] [48] ?_)));refine eK ?_;refine r0 [] [(49,.bool true)] [49] (cT _ rfl (r0 [(1,.t (tv (Instr.indexAt 194 (.slice (some ⟨(B1 a),0,none⟩) 4 4) (i6 1)) (λ_=>bS (k:=1) (s:=1) Kr Om))),(2,.l 4)] [(5,i6 1),(6,pt (B0 b) 69)] [5,6] (rs [(2,.t (tv (Instr.indexAt 194 (.slice (some ⟨(B1 h),0,none⟩) 4 4) (i6 1)) (λ_=>bS (k:=1) (s:=1) Kr Om))),(3,.l 3),(6,.l 0),(8,.s 2)] 2 (ob (B3 e) (sV 8 0 z6 0 6 f g 0 0 0 0 0) 50) (r0 [] [(48,i6 2)] [48] ?_))));refine eK ?_;refine r0 [] [(49,.bool true)] [49] (cT _ rfl (r0 [(1,.t (tv (Instr.indexAt 194 (.slice (some ⟨(B1 a),0,none⟩) 4 4) (i6 2)) (λ_=>bS (k:=2) (s:=1) Kr Om))),(2,.l 4)] [(5,i6 2),(6,pt (B0 b) 70)] [5,6] (rs [(2,.t (tv (Instr.indexAt 194 (.slice (some ⟨(B1 h),0,none⟩) 4 4) (i6 2)) (λ_=>bS (k:=2) (s:=1) Kr Om))),(3,.l 3),(6,.l 0),(8,.s 2)] 2 (ob (B3 e) (sV 8 0 z6 0 6 f g i 0 0 0 0) 50) (r0 [] [(48,i6 3)] [48] ?_))));refine eK ?_;refine r0 [] [(49,.bool true)] [49] (cT _ rfl (r0 [(1,.t (tv (Instr.indexAt 194 (.slice (some ⟨(B1 a),0,none⟩) 4 4) (i6 3)) (λ_=>bS (k:=3) (s:=1) Kr Om))),(2,.l 4)] [(5,i6 3),(6,pt (B0 b) 71)] [5,6] (rs [(2,.t (tv (Instr.indexAt 194 (.slice (some ⟨(B1 h),0,none⟩) 4 4) (i6 3)) (λ_=>bS (k:=3) (s:=1) Kr Om))),(3,.l 3),(6,.l 0),(8,.s 2)] 2 (ob (B3 e) (sV 8 0 z6 0 6 f g i j 0 0 0) 50) (r0 [] [(48,i6 4)] [48] ?_))));refine eK ?_;refine r0 [] [(49,.bool false)] [49] (cF _ rfl ?_);refine nZ ?_;exact rs [(0,.l 2),(1,.s 1)] 1 (ob (B1 b) (sV 8 0 z6 0 6 f g i j 0 0 0) 50) (lf ab.zero [] [] [1])
theorem R7(ln:Int)(d:List UInt8)(m:Nat)(e f g h i j k:Int)(n:d.length=64):aa VB 55 #[.agg (sV 8 ln d m 7 e f g h i j k)] [] [] N0 (λ_=> .agg (sV 8 0 z6 0 7 0 0 0 0 0 0 0)):=by
 refine fG Tryz.func55 λw cs=>ra (λa=>[(1,pt (B0 a) 0),(2,pt (B1 a) 0)]) (λa=>[ob (B0 a) (sV 8 ln d m 7 e f g h i j k) 50,ob (B1 a) (sV 0 0 z6 0 0 0 0 0 0 0 0 0) 50]) λa=>rr (λ_=>[(1,.l 0),(4,.s 2)]) (λb=>[(3,pt (B3 b) 0)]) [] (λb L=>L++[ob (B3 b) (sV 8 0 z6 0 0 0 0 0 0 0 0 0) 50]) λb=>r0 [(1,.l 0)] [(11,i6 8)] [] (rF [] 12 (rF [] 17 (rF [] 25 (rT [] 36 (rs [(2,.l 0),(5,.s 2)] 2 (ob (B3 b) (sV 8 0 z6 0 7 0 0 0 0 0 0 0) 50) (r0 [(1,.c [2] [] (ES (B3 b) 8 0 z6 0 0 0 0 0 0 0 0))] [(4,.slice none 0 0)] [] (r0 [(1,.c [0] [] (ES (B0 a) 8 ln d m e f g h i j k))] [(46,.slice none 0 0),(47,i6 0),(48,i6 0)] [] ?_)))))));refine lu 8 ?_;refine rF [] 49 ?_;refine nZ ?_;exact rs [(0,.l 2),(1,.s 1)] 1 (ob (B1 a) (sV 8 0 z6 0 7 0 0 0 0 0 0 0) 50) (lf ab.zero [] [] [1])
theorem R8(ln:Int)(d:List UInt8)(m:Nat)(a f g h i j k n:Int)(p:d.length=64)(o:a<1∨7<a):aa VB 55 #[.agg (sV 8 ln d m a f g h i j k n)] [] [] N0 (λ_=> .agg (sV 8 0 z6 0 a 0 0 0 0 0 0 0)):=by
 refine fG Tryz.func55 λw cs=>ra (λb=>[(1,pt (B0 b) 0),(2,pt (B1 b) 0)]) (λb=>[ob (B0 b) (sV 8 ln d m a f g h i j k n) 50,ob (B1 b) (sV 0 0 z6 0 0 0 0 0 0 0 0 0) 50]) λb=>rr (λ_=>[(1,.l 0),(4,.s 2)]) (λe=>[(3,pt (B3 e) 0)]) [] (λe L=>L++[ob (B3 e) (sV 8 0 z6 0 0 0 0 0 0 0 0 0) 50]) λe=>r0 [(1,.l 0)] [(11,i6 8)] [] (rF [] 12 (rF [] 17 (rF [] 25 (rT [] 36 (rs [(2,.l 0),(5,.s 2)] 2 (ob (B3 e) (sV 8 0 z6 0 a 0 0 0 0 0 0 0) 50) (r0 [(1,.c [2] [] (ET (B3 e) 8 0 z6 0 a 0 0 0 0 0 0 0 Om))] [(4,.slice none 0 0)] [] (r0 [(1,.c [0] [] (ET (B0 b) 8 ln d m a f g h i j k n Om))] [(46,.slice none 0 0),(47,i6 0),(48,i6 0)] [] ?_)))))));refine lu 8 ?_;refine rF [] 49 ?_;refine nZ ?_;exact rs [(0,.l 2),(1,.s 1)] 1 (ob (B1 b) (sV 8 0 z6 0 a 0 0 0 0 0 0 0) 50) (lf ab.zero [] [] [1])
theorem R9(k l:Int)(d:List UInt8)(m:Nat)(b c e f g h i j:Int)(o:d.length=64)(n:k<1):aa VB 17 #[.agg (sV k l d m b c e f g h i j)] [] [] N0 (λ_=> .bool false):=by
 exact fG Tryz.func17 λw cs=>ra (λa=>[(1,pt (B0 a) 0),(2,.bool false)]) (λa=>[ob (B0 a) (sV k l d m b c e f g h i j) 50]) λa=>rT [(1,.m (ld 0 (i6 k))),(2,.t (tk (show Value.bool (decide (k<1))= .bool true from ALca Value.bool (by simp;omega)))),(4,.d),(5,.d),(6,.d),(9,.d),(10,.d),(11,.d),(12,.d)] 16 (r0 [] [(2,.bool false)] [2] (lf ab.zero [] [] []))
theorem Sa(k l:Int)(d:List UInt8)(m:Nat)(b c e f g h i j:Int)(o:d.length=64)(n:8<k):aa VB 17 #[.agg (sV k l d m b c e f g h i j)] [] [] N0 (λ_=> .bool false):=by
 exact fG Tryz.func17 λw cs=>ra (λa=>[(1,pt (B0 a) 0),(2,.bool false)]) (λa=>[ob (B0 a) (sV k l d m b c e f g h i j) 50]) λa=>rT [(1,.m (ld 0 (i6 k))),(2,.t (tk (show Value.bool (decide (k<1))= .bool false from ALca Value.bool (by simp;omega)))),(5,.m (ld 0 (i6 k))),(6,.t (tk (show Value.bool (decide (8<k))= .bool true from ALca Value.bool (by simp;omega)))),(9,.d),(10,.d),(11,.d),(12,.d)] 16 (r0 [] [(2,.bool false)] [2] (lf ab.zero [] [] []))
def vb(ln:Int)(d:List UInt8)(m:Nat)(a b c e f g h i:Int):Bool:=(bif !(((1==1&&(ln==ln&&true))&&decide (d=VA 64 0))&&((m:Int)==0&&(a==0&&(b==0&&(c==0&&(e==0&&(f==0&&(g==0&&(h==0&&(i==0&&true)))))))))) then false else true)
theorem Sb(ln:Int)(d:List UInt8)(m:Nat)(a b e f g h i j:Int)(n:d.length=64):aa VB 17 #[.agg (sV 1 ln d m a b e f g h i j)] [] [] N0 (λ_=> .bool (vb ln d m a b e f g h i j)):=by
 refine fG Tryz.func17 λw cs=>ra (λk=>[(1,pt (B0 k) 0),(2,.bool false)]) (λk=>[ob (B0 k) (sV 1 ln d m a b e f g h i j) 50]) λk=>r0 [(1,.m (ld 0 (i6 1))),(5,.m (ld 0 (i6 1))),(9,.m (ls 0 (sL 1 ln d m a b e f g h i j))),(10,.m (ls 0 (sL 1 ln d m a b e f g h i j))),(11,.c [] [] (RT ln d m a b e f g h i j (by(simp only[LL,n,n];done)))),(12,.t (iC 50 λ_ _ _=>jj (xs:=([i6 1,i6 ln]:List Value)++rB 64 d++([u6 (m:Int),i6 a,i6 b,i6 e,i6 f,i6 g,i6 h,i6 i,i6 j]:List Value)) (ys:=([i6 1,i6 ln]:List Value)++rB 64 z6++([u6 0,i6 0,i6 0,i6 0,i6 0,i6 0,i6 0,i6 0,i6 0]:List Value)) Kr (e7 Kr Kr (e7 Kr Kr Vm (ji n (show z6.length=64 by rfl))) Vm)))] [(16,.bool (!(((1==1&&(ln==ln&&true))&&decide (d=VA 64 0))&&((m:Int)==0&&(a==0&&(b==0&&(e==0&&(f==0&&(g==0&&(h==0&&(i==0&&(j==0&&true))))))))))))] [] ?_;refine cB (!(((1==1&&(ln==ln&&true))&&decide (d=VA 64 0))&&((m:Int)==0&&(a==0&&(b==0&&(e==0&&(f==0&&(g==0&&(h==0&&(i==0&&(j==0&&true))))))))))) (λl=>?_) λl=>?_
 ·exact r0 [] [(2,.bool false)] [2] (ak (.bool false) ab.zero (by((try simp only[vb]);(repeat (first | rw[l] | rw[ALct])))<;>rfl) [] [] [])
 exact r0 [(1,.m (ld 0 (i6 1))),(4,.d),(5,.d),(6,.d),(7,.d),(8,.d),(9,.d),(10,.d),(11,.d),(12,.d),(13,.d)] [(2,.bool true)] [2] (ak (.bool true) ab.zero (by((try simp only[vb]);(repeat (first | rw[l] | rw[ALcf])))<;>rfl) [] [] [])
def vc(ln:Int)(m:Nat)(a b c d e f g h:Int):Bool:=(bif !(((2==2&&(ln==ln&&true))&&true)&&((m:Int)==0&&(a==0&&(b==0&&(c==0&&(d==0&&(e==0&&(f==0&&(g==0&&(h==0&&true)))))))))) then false else true)
theorem Sc(ln:Int)(d:List UInt8)(m:Nat)(a b e f g h i j:Int)(k:d.length=64):aa VB 17 #[.agg (sV 2 ln d m a b e f g h i j)] [] [] N0 (λ_=> .bool (vc ln m a b e f g h i j)):=by
 refine fG Tryz.func17 λw cs=>ra (λl=>[(1,pt (B0 l) 0),(2,.bool false)]) (λl=>[ob (B0 l) (sV 2 ln d m a b e f g h i j) 50]) λl=>r0 [(1,.m (ld 0 (i6 2))),(5,.m (ld 0 (i6 2))),(9,.m (ls 0 (sL 2 ln d m a b e f g h i j))),(10,.m (ls 0 (sL 2 ln d m a b e f g h i j))),(11,.c [] [] (RU ln d m a b e f g h i j (by(simp only[LL,k,k];done)))),(12,.t (iC 50 λ_ _ _=>jj (xs:=([i6 2,i6 ln]:List Value)++rB 64 d++([u6 (m:Int),i6 a,i6 b,i6 e,i6 f,i6 g,i6 h,i6 i,i6 j]:List Value)) (ys:=([i6 2,i6 ln]:List Value)++rB 64 d++([u6 0,i6 0,i6 0,i6 0,i6 0,i6 0,i6 0,i6 0,i6 0]:List Value)) Kr (e7 Kr Kr (e7 Kr Kr Vm ((ji k k).trans (cx rfl))) Vm)))] [(16,.bool (!(((2==2&&(ln==ln&&true))&&true)&&((m:Int)==0&&(a==0&&(b==0&&(e==0&&(f==0&&(g==0&&(h==0&&(i==0&&(j==0&&true))))))))))))] [] ?_;refine cB (!(((2==2&&(ln==ln&&true))&&true)&&((m:Int)==0&&(a==0&&(b==0&&(e==0&&(f==0&&(g==0&&(h==0&&(i==0&&(j==0&&true))))))))))) (λn=>?_) λn=>?_
 ·exact r0 [] [(2,.bool false)] [2] (ak (.bool false) ab.zero (by((try simp only[vc]);(repeat (first | rw[n] | rw[ALct])))<;>rfl) [] [] [])
 exact r0 [(1,.m (ld 0 (i6 2))),(4,.d),(5,.d),(6,.d),(7,.d),(8,.d),(9,.d),(10,.d),(11,.d),(12,.d),(13,.d)] [(2,.bool true)] [2] (ak (.bool true) ab.zero (by((try simp only[vc]);(repeat (first | rw[n] | rw[ALcf])))<;>rfl) [] [] [])
def ve(ln:Int)(m:Nat)(a b c d e f g h:Int):Bool:=(bif !(((3==3&&(ln==ln&&true))&&true)&&((m:Int)==(m:Int)&&(a==0&&(b==0&&(c==0&&(d==0&&(e==0&&(f==0&&(g==0&&(h==0&&true)))))))))) then false else true)
theorem Sd(ln:Int)(d:List UInt8)(m:Nat)(a b e f g h i j:Int)(k:d.length=64):aa VB 17 #[.agg (sV 3 ln d m a b e f g h i j)] [] [] N0 (λ_=> .bool (ve ln m a b e f g h i j)):=by
 refine fG Tryz.func17 λw cs=>ra (λl=>[(1,pt (B0 l) 0),(2,.bool false)]) (λl=>[ob (B0 l) (sV 3 ln d m a b e f g h i j) 50]) λl=>r0 [(1,.m (ld 0 (i6 3))),(5,.m (ld 0 (i6 3))),(9,.m (ls 0 (sL 3 ln d m a b e f g h i j))),(10,.m (ls 0 (sL 3 ln d m a b e f g h i j))),(11,.c [] [] (RW ln d m a b e f g h i j (by(simp only[LL,k,k];done)))),(12,.t (iC 50 λ_ _ _=>jj (xs:=([i6 3,i6 ln]:List Value)++rB 64 d++([u6 (m:Int),i6 a,i6 b,i6 e,i6 f,i6 g,i6 h,i6 i,i6 j]:List Value)) (ys:=([i6 3,i6 ln]:List Value)++rB 64 d++([u6 (m:Int),i6 0,i6 0,i6 0,i6 0,i6 0,i6 0,i6 0,i6 0]:List Value)) Kr (e7 Kr Kr (e7 Kr Kr Vm ((ji k k).trans (cx rfl))) Vm)))] [(16,.bool (!(((3==3&&(ln==ln&&true))&&true)&&((m:Int)==(m:Int)&&(a==0&&(b==0&&(e==0&&(f==0&&(g==0&&(h==0&&(i==0&&(j==0&&true))))))))))))] [] ?_;refine cB (!(((3==3&&(ln==ln&&true))&&true)&&((m:Int)==(m:Int)&&(a==0&&(b==0&&(e==0&&(f==0&&(g==0&&(h==0&&(i==0&&(j==0&&true))))))))))) (λn=>?_) λn=>?_
 ·exact r0 [] [(2,.bool false)] [2] (ak (.bool false) ab.zero (by((try simp only[ve]);(repeat (first | rw[n] | rw[ALct])))<;>rfl) [] [] [])
 exact r0 [(1,.m (ld 0 (i6 3))),(4,.d),(5,.d),(6,.d),(7,.d),(8,.d),(9,.d),(10,.d),(11,.d),(12,.d),(13,.d)] [(2,.bool true)] [2] (ak (.bool true) ab.zero (by((try simp only[ve]);(repeat (first | rw[n] | rw[ALcf])))<;>rfl) [] [] [])
def vf(k j:Int)(d:List UInt8)(m:Nat)(a b c e f g h i:Int):Bool:=(bif !(((k==k&&(j==0&&true))&&decide (d=VA 64 0))&&((m:Int)==0&&(a==0&&(b==0&&(c==0&&(e==0&&(f==0&&(g==0&&(h==0&&(i==0&&true)))))))))) then false else true)
theorem Se(k l:Int)(d:List UInt8)(m:Nat)(a b e f g h i j:Int)(p:d.length=64)(q:4≤k)(r:k≤7):aa VB 17 #[.agg (sV k l d m a b e f g h i j)] [] [] N0 (λ_=> .bool (vf k l d m a b e f g h i j)):=by
 refine fG Tryz.func17 λw cs=>ra (λn=>[(1,pt (B0 n) 0),(2,.bool false)]) (λn=>[ob (B0 n) (sV k l d m a b e f g h i j) 50]) λn=>r0 [(1,.m (ld 0 (i6 k))),(2,.t (tk (show Value.bool (decide (k<1))= .bool false from ALca Value.bool (by simp;omega)))),(5,.m (ld 0 (i6 k))),(6,.t (tk (show Value.bool (decide (8<k))= .bool false from ALca Value.bool (by simp;omega)))),(9,.m (ls 0 (sL k l d m a b e f g h i j))),(10,.m (ls 0 (sL k l d m a b e f g h i j))),(11,.c [] [] (RX k l d m a b e f g h i j (by(simp only[LL,p,p];done)) Om Om)),(12,.t (iC 50 λ_ _ _=>jj (xs:=([i6 k,i6 l]:List Value)++rB 64 d++([u6 (m:Int),i6 a,i6 b,i6 e,i6 f,i6 g,i6 h,i6 i,i6 j]:List Value)) (ys:=([i6 k,i6 0]:List Value)++rB 64 z6++([u6 0,i6 0,i6 0,i6 0,i6 0,i6 0,i6 0,i6 0,i6 0]:List Value)) Kr (e7 Kr Kr (e7 Kr Kr Vm (ji p (show z6.length=64 by rfl))) Vm)))] [(16,.bool (!(((k==k&&(l==0&&true))&&decide (d=VA 64 0))&&((m:Int)==0&&(a==0&&(b==0&&(e==0&&(f==0&&(g==0&&(h==0&&(i==0&&(j==0&&true))))))))))))] [] ?_;refine cB (!(((k==k&&(l==0&&true))&&decide (d=VA 64 0))&&((m:Int)==0&&(a==0&&(b==0&&(e==0&&(f==0&&(g==0&&(h==0&&(i==0&&(j==0&&true))))))))))) (λo=>?_) λo=>?_
 ·exact r0 [] [(2,.bool false)] [2] (ak (.bool false) ab.zero (by((try simp only[vf]);(repeat (first | rw[o] | rw[ALct])))<;>rfl) [] [] [])
 exact r0 [(1,.m (ld 0 (i6 k))),(2,.t (tk (show Value.bool (k != 8)= .bool true from ALca Value.bool (by rw[bne_iff_ne];omega)))),(4,.d),(5,.d),(6,.d),(7,.d),(8,.d),(9,.d),(10,.d),(11,.d),(12,.d),(13,.d)] [(2,.bool true)] [2] (ak (.bool true) ab.zero (by((try simp only[vf]);(repeat (first | rw[o] | rw[ALcf])))<;>rfl) [] [] [])
def vg(ln:Int)(d:List UInt8)(m:Nat)(a b c e g f h:Int):Bool:=(bif !(((8==8&&(ln==0&&true))&&decide (d=VA 64 0))&&((m:Int)==0&&(1==1&&(a==a&&(b==b&&(c==c&&(e==e&&(g==0&&(f==f&&(h==0&&true)))))))))) then false else true)
theorem Sf(ln:Int)(d:List UInt8)(m:Nat)(a b e f h g i:Int)(l:d.length=64):aa VB 17 #[.agg (sV 8 ln d m 1 a b e f h g i)] [] [] N0 (λ_=> .bool (vg ln d m a b e f h g i)):=by
 refine fG Tryz.func17 λw cs=>ra (λj=>[(1,pt (B0 j) 0),(2,.bool false)]) (λj=>[ob (B0 j) (sV 8 ln d m 1 a b e f h g i) 50]) λj=>r0 [(1,.m (ld 0 (i6 8))),(5,.m (ld 0 (i6 8))),(9,.m (ls 0 (sL 8 ln d m 1 a b e f h g i))),(10,.m (ls 0 (sL 8 ln d m 1 a b e f h g i))),(11,.c [] [] (RY ln d m a b e f h g i (by(simp only[LL,l,l];done)))),(12,.t (iC 50 λ_ _ _=>jj (xs:=([i6 8,i6 ln]:List Value)++rB 64 d++([u6 (m:Int),i6 1,i6 a,i6 b,i6 e,i6 f,i6 h,i6 g,i6 i]:List Value)) (ys:=([i6 8,i6 0]:List Value)++rB 64 z6++([u6 0,i6 1,i6 a,i6 b,i6 e,i6 f,i6 0,i6 g,i6 0]:List Value)) Kr (e7 Kr Kr (e7 Kr Kr Vm (ji l (show z6.length=64 by rfl))) Vm)))] [(16,.bool (!(((8==8&&(ln==0&&true))&&decide (d=VA 64 0))&&((m:Int)==0&&(1==1&&(a==a&&(b==b&&(e==e&&(f==f&&(h==0&&(g==g&&(i==0&&true))))))))))))] [] ?_;refine cB (!(((8==8&&(ln==0&&true))&&decide (d=VA 64 0))&&((m:Int)==0&&(1==1&&(a==a&&(b==b&&(e==e&&(f==f&&(h==0&&(g==g&&(i==0&&true))))))))))) (λk=>?_) λk=>?_
 ·exact r0 [] [(2,.bool false)] [2] (ak (.bool false) ab.zero (by((try simp only[vg]);(repeat (first | rw[k] | rw[ALct])))<;>rfl) [] [] [])
 exact r0 [(1,.m (ld 0 (i6 8))),(6,.m (ld 0 (i6 1))),(11,.m (ld 0 (i6 1))),] [(2,.bool true)] [2] (ak (.bool true) ab.zero (by((try simp only[vg]);(repeat (first | rw[k] | rw[ALcf])))<;>rfl) [] [] [])
def vh(ln:Int)(d:List UInt8)(m:Nat)(a b c e h f g:Int):Bool:=(bif !(((8==8&&(ln==0&&true))&&decide (d=VA 64 0))&&((m:Int)==0&&(2==2&&(a==a&&(b==b&&(c==c&&(e==e&&(h==0&&(f==f&&(g==g&&true)))))))))) then false else true)
theorem Sg(ln:Int)(d:List UInt8)(m:Nat)(a b e f i g h:Int)(l:d.length=64):aa VB 17 #[.agg (sV 8 ln d m 2 a b e f i g h)] [] [] N0 (λ_=> .bool (vh ln d m a b e f i g h)):=by
 refine fG Tryz.func17 λw cs=>ra (λj=>[(1,pt (B0 j) 0),(2,.bool false)]) (λj=>[ob (B0 j) (sV 8 ln d m 2 a b e f i g h) 50]) λj=>r0 [(1,.m (ld 0 (i6 8))),(5,.m (ld 0 (i6 8))),(9,.m (ls 0 (sL 8 ln d m 2 a b e f i g h))),(10,.m (ls 0 (sL 8 ln d m 2 a b e f i g h))),(11,.c [] [] (RZ ln d m a b e f i g h (by(simp only[LL,l,l];done)))),(12,.t (iC 50 λ_ _ _=>jj (xs:=([i6 8,i6 ln]:List Value)++rB 64 d++([u6 (m:Int),i6 2,i6 a,i6 b,i6 e,i6 f,i6 i,i6 g,i6 h]:List Value)) (ys:=([i6 8,i6 0]:List Value)++rB 64 z6++([u6 0,i6 2,i6 a,i6 b,i6 e,i6 f,i6 0,i6 g,i6 h]:List Value)) Kr (e7 Kr Kr (e7 Kr Kr Vm (ji l (show z6.length=64 by rfl))) Vm)))] [(16,.bool (!(((8==8&&(ln==0&&true))&&decide (d=VA 64 0))&&((m:Int)==0&&(2==2&&(a==a&&(b==b&&(e==e&&(f==f&&(i==0&&(g==g&&(h==h&&true))))))))))))] [] ?_;refine cB (!(((8==8&&(ln==0&&true))&&decide (d=VA 64 0))&&((m:Int)==0&&(2==2&&(a==a&&(b==b&&(e==e&&(f==f&&(i==0&&(g==g&&(h==h&&true))))))))))) (λk=>?_) λk=>?_
 ·exact r0 [] [(2,.bool false)] [2] (ak (.bool false) ab.zero (by((try simp only[vh]);(repeat (first | rw[k] | rw[ALct])))<;>rfl) [] [] [])
 exact r0 [(1,.m (ld 0 (i6 8))),(6,.m (ld 0 (i6 2))),(11,.m (ld 0 (i6 2))),] [(2,.bool true)] [2] (ak (.bool true) ab.zero (by((try simp only[vh]);(repeat (first | rw[k] | rw[ALcf])))<;>rfl) [] [] [])
def vi(ln:Int)(d:List UInt8)(m:Nat)(a b c g e h f:Int):Bool:=(bif !(((8==8&&(ln==0&&true))&&decide (d=VA 64 0))&&((m:Int)==0&&(3==3&&(a==a&&(b==b&&(c==c&&(g==0&&(e==e&&(h==0&&(f==f&&true)))))))))) then false else true)
theorem Sh(ln:Int)(d:List UInt8)(m:Nat)(a b e h f i g:Int)(l:d.length=64):aa VB 17 #[.agg (sV 8 ln d m 3 a b e h f i g)] [] [] N0 (λ_=> .bool (vi ln d m a b e h f i g)):=by
 refine fG Tryz.func17 λw cs=>ra (λj=>[(1,pt (B0 j) 0),(2,.bool false)]) (λj=>[ob (B0 j) (sV 8 ln d m 3 a b e h f i g) 50]) λj=>r0 [(1,.m (ld 0 (i6 8))),(5,.m (ld 0 (i6 8))),(9,.m (ls 0 (sL 8 ln d m 3 a b e h f i g))),(10,.m (ls 0 (sL 8 ln d m 3 a b e h f i g))),(11,.c [] [] (R3 ln d m a b e h f i g (by(simp only[LL,l,l];done)))),(12,.t (iC 50 λ_ _ _=>jj (xs:=([i6 8,i6 ln]:List Value)++rB 64 d++([u6 (m:Int),i6 3,i6 a,i6 b,i6 e,i6 h,i6 f,i6 i,i6 g]:List Value)) (ys:=([i6 8,i6 0]:List Value)++rB 64 z6++([u6 0,i6 3,i6 a,i6 b,i6 e,i6 0,i6 f,i6 0,i6 g]:List Value)) Kr (e7 Kr Kr (e7 Kr Kr Vm (ji l (show z6.length=64 by rfl))) Vm)))] [(16,.bool (!(((8==8&&(ln==0&&true))&&decide (d=VA 64 0))&&((m:Int)==0&&(3==3&&(a==a&&(b==b&&(e==e&&(h==0&&(f==f&&(i==0&&(g==g&&true))))))))))))] [] ?_;refine cB (!(((8==8&&(ln==0&&true))&&decide (d=VA 64 0))&&((m:Int)==0&&(3==3&&(a==a&&(b==b&&(e==e&&(h==0&&(f==f&&(i==0&&(g==g&&true))))))))))) (λk=>?_) λk=>?_
 ·exact r0 [] [(2,.bool false)] [2] (ak (.bool false) ab.zero (by((try simp only[vi]);(repeat (first | rw[k] | rw[ALct])))<;>rfl) [] [] [])
 exact r0 [(1,.m (ld 0 (i6 8))),(6,.m (ld 0 (i6 3))),(11,.m (ld 0 (i6 3))),] [(2,.bool true)] [2] (ak (.bool true) ab.zero (by((try simp only[vi]);(repeat (first | rw[k] | rw[ALcf])))<;>rfl) [] [] [])
def vk(ln:Int)(d:List UInt8)(m:Nat)(a b g c e h f:Int):Bool:=(bif !(((8==8&&(ln==0&&true))&&decide (d=VA 64 0))&&((m:Int)==0&&(4==4&&(a==a&&(b==b&&(g==0&&(c==c&&(e==e&&(h==0&&(f==f&&true)))))))))) then false else true)
theorem Si(ln:Int)(d:List UInt8)(m:Nat)(a b h e f i g:Int)(l:d.length=64):aa VB 17 #[.agg (sV 8 ln d m 4 a b h e f i g)] [] [] N0 (λ_=> .bool (vk ln d m a b h e f i g)):=by
 refine fG Tryz.func17 λw cs=>ra (λj=>[(1,pt (B0 j) 0),(2,.bool false)]) (λj=>[ob (B0 j) (sV 8 ln d m 4 a b h e f i g) 50]) λj=>r0 [(1,.m (ld 0 (i6 8))),(5,.m (ld 0 (i6 8))),(9,.m (ls 0 (sL 8 ln d m 4 a b h e f i g))),(10,.m (ls 0 (sL 8 ln d m 4 a b h e f i g))),(11,.c [] [] (R4 ln d m a b h e f i g (by(simp only[LL,l,l];done)))),(12,.t (iC 50 λ_ _ _=>jj (xs:=([i6 8,i6 ln]:List Value)++rB 64 d++([u6 (m:Int),i6 4,i6 a,i6 b,i6 h,i6 e,i6 f,i6 i,i6 g]:List Value)) (ys:=([i6 8,i6 0]:List Value)++rB 64 z6++([u6 0,i6 4,i6 a,i6 b,i6 0,i6 e,i6 f,i6 0,i6 g]:List Value)) Kr (e7 Kr Kr (e7 Kr Kr Vm (ji l (show z6.length=64 by rfl))) Vm)))] [(16,.bool (!(((8==8&&(ln==0&&true))&&decide (d=VA 64 0))&&((m:Int)==0&&(4==4&&(a==a&&(b==b&&(h==0&&(e==e&&(f==f&&(i==0&&(g==g&&true))))))))))))] [] ?_;refine cB (!(((8==8&&(ln==0&&true))&&decide (d=VA 64 0))&&((m:Int)==0&&(4==4&&(a==a&&(b==b&&(h==0&&(e==e&&(f==f&&(i==0&&(g==g&&true))))))))))) (λk=>?_) λk=>?_
 ·exact r0 [] [(2,.bool false)] [2] (ak (.bool false) ab.zero (by((try simp only[vk]);(repeat (first | rw[k] | rw[ALct])))<;>rfl) [] [] [])
 exact r0 [(1,.m (ld 0 (i6 8))),(6,.m (ld 0 (i6 4))),(11,.m (ld 0 (i6 4))),] [(2,.bool true)] [2] (ak (.bool true) ab.zero (by((try simp only[vk]);(repeat (first | rw[k] | rw[ALcf])))<;>rfl) [] [] [])
def vm(ln:Int)(d:List UInt8)(m:Nat)(a e f g b h c:Int):Bool:=(bif !(((8==8&&(ln==0&&true))&&decide (d=VA 64 0))&&((m:Int)==0&&(5==5&&(a==a&&(e==0&&(f==0&&(g==0&&(b==b&&(h==0&&(c==c&&true)))))))))) then false else true)
theorem Sj(ln:Int)(d:List UInt8)(m:Nat)(a f g h b i e:Int)(l:d.length=64):aa VB 17 #[.agg (sV 8 ln d m 5 a f g h b i e)] [] [] N0 (λ_=> .bool (vm ln d m a f g h b i e)):=by
 refine fG Tryz.func17 λw cs=>ra (λj=>[(1,pt (B0 j) 0),(2,.bool false)]) (λj=>[ob (B0 j) (sV 8 ln d m 5 a f g h b i e) 50]) λj=>r0 [(1,.m (ld 0 (i6 8))),(5,.m (ld 0 (i6 8))),(9,.m (ls 0 (sL 8 ln d m 5 a f g h b i e))),(10,.m (ls 0 (sL 8 ln d m 5 a f g h b i e))),(11,.c [] [] (R5 ln d m a f g h b i e (by(simp only[LL,l,l];done)))),(12,.t (iC 50 λ_ _ _=>jj (xs:=([i6 8,i6 ln]:List Value)++rB 64 d++([u6 (m:Int),i6 5,i6 a,i6 f,i6 g,i6 h,i6 b,i6 i,i6 e]:List Value)) (ys:=([i6 8,i6 0]:List Value)++rB 64 z6++([u6 0,i6 5,i6 a,i6 0,i6 0,i6 0,i6 b,i6 0,i6 e]:List Value)) Kr (e7 Kr Kr (e7 Kr Kr Vm (ji l (show z6.length=64 by rfl))) Vm)))] [(16,.bool (!(((8==8&&(ln==0&&true))&&decide (d=VA 64 0))&&((m:Int)==0&&(5==5&&(a==a&&(f==0&&(g==0&&(h==0&&(b==b&&(i==0&&(e==e&&true))))))))))))] [] ?_;refine cB (!(((8==8&&(ln==0&&true))&&decide (d=VA 64 0))&&((m:Int)==0&&(5==5&&(a==a&&(f==0&&(g==0&&(h==0&&(b==b&&(i==0&&(e==e&&true))))))))))) (λk=>?_) λk=>?_
 ·exact r0 [] [(2,.bool false)] [2] (ak (.bool false) ab.zero (by((try simp only[vm]);(repeat (first | rw[k] | rw[ALct])))<;>rfl) [] [] [])
 exact r0 [(1,.m (ld 0 (i6 8))),(6,.m (ld 0 (i6 5))),(11,.m (ld 0 (i6 5))),] [(2,.bool true)] [2] (ak (.bool true) ab.zero (by((try simp only[vm]);(repeat (first | rw[k] | rw[ALcf])))<;>rfl) [] [] [])
def vn(ln:Int)(d:List UInt8)(m:Nat)(a b c e f g h:Int):Bool:=(bif !(((8==8&&(ln==0&&true))&&decide (d=VA 64 0))&&((m:Int)==0&&(6==6&&(a==a&&(b==b&&(c==c&&(e==e&&(f==0&&(g==0&&(h==0&&true)))))))))) then false else true)
theorem Sk(ln:Int)(d:List UInt8)(m:Nat)(a b e f g h i:Int)(l:d.length=64):aa VB 17 #[.agg (sV 8 ln d m 6 a b e f g h i)] [] [] N0 (λ_=> .bool (vn ln d m a b e f g h i)):=by
 refine fG Tryz.func17 λw cs=>ra (λj=>[(1,pt (B0 j) 0),(2,.bool false)]) (λj=>[ob (B0 j) (sV 8 ln d m 6 a b e f g h i) 50]) λj=>r0 [(1,.m (ld 0 (i6 8))),(5,.m (ld 0 (i6 8))),(9,.m (ls 0 (sL 8 ln d m 6 a b e f g h i))),(10,.m (ls 0 (sL 8 ln d m 6 a b e f g h i))),(11,.c [] [] (R6 ln d m a b e f g h i (by(simp only[LL,l,l];done)))),(12,.t (iC 50 λ_ _ _=>jj (xs:=([i6 8,i6 ln]:List Value)++rB 64 d++([u6 (m:Int),i6 6,i6 a,i6 b,i6 e,i6 f,i6 g,i6 h,i6 i]:List Value)) (ys:=([i6 8,i6 0]:List Value)++rB 64 z6++([u6 0,i6 6,i6 a,i6 b,i6 e,i6 f,i6 0,i6 0,i6 0]:List Value)) Kr (e7 Kr Kr (e7 Kr Kr Vm (ji l (show z6.length=64 by rfl))) Vm)))] [(16,.bool (!(((8==8&&(ln==0&&true))&&decide (d=VA 64 0))&&((m:Int)==0&&(6==6&&(a==a&&(b==b&&(e==e&&(f==f&&(g==0&&(h==0&&(i==0&&true))))))))))))] [] ?_;refine cB (!(((8==8&&(ln==0&&true))&&decide (d=VA 64 0))&&((m:Int)==0&&(6==6&&(a==a&&(b==b&&(e==e&&(f==f&&(g==0&&(h==0&&(i==0&&true))))))))))) (λk=>?_) λk=>?_
 ·exact r0 [] [(2,.bool false)] [2] (ak (.bool false) ab.zero (by((try simp only[vn]);(repeat (first | rw[k] | rw[ALct])))<;>rfl) [] [] [])
 exact r0 [(1,.m (ld 0 (i6 8))),(6,.m (ld 0 (i6 6))),(11,.m (ld 0 (i6 6))),] [(2,.bool true)] [2] (ak (.bool true) ab.zero (by((try simp only[vn]);(repeat (first | rw[k] | rw[ALcf])))<;>rfl) [] [] [])
def vp(ln:Int)(d:List UInt8)(m:Nat)(a b c e f g h:Int):Bool:=(bif !(((8==8&&(ln==0&&true))&&decide (d=VA 64 0))&&((m:Int)==0&&(7==7&&(a==0&&(b==0&&(c==0&&(e==0&&(f==0&&(g==0&&(h==0&&true)))))))))) then false else true)
theorem Sm(ln:Int)(d:List UInt8)(m:Nat)(a b e f g h i:Int)(l:d.length=64):aa VB 17 #[.agg (sV 8 ln d m 7 a b e f g h i)] [] [] N0 (λ_=> .bool (vp ln d m a b e f g h i)):=by
 refine fG Tryz.func17 λw cs=>ra (λj=>[(1,pt (B0 j) 0),(2,.bool false)]) (λj=>[ob (B0 j) (sV 8 ln d m 7 a b e f g h i) 50]) λj=>r0 [(1,.m (ld 0 (i6 8))),(5,.m (ld 0 (i6 8))),(9,.m (ls 0 (sL 8 ln d m 7 a b e f g h i))),(10,.m (ls 0 (sL 8 ln d m 7 a b e f g h i))),(11,.c [] [] (R7 ln d m a b e f g h i (by(simp only[LL,l,l];done)))),(12,.t (iC 50 λ_ _ _=>jj (xs:=([i6 8,i6 ln]:List Value)++rB 64 d++([u6 (m:Int),i6 7,i6 a,i6 b,i6 e,i6 f,i6 g,i6 h,i6 i]:List Value)) (ys:=([i6 8,i6 0]:List Value)++rB 64 z6++([u6 0,i6 7,i6 0,i6 0,i6 0,i6 0,i6 0,i6 0,i6 0]:List Value)) Kr (e7 Kr Kr (e7 Kr Kr Vm (ji l (show z6.length=64 by rfl))) Vm)))] [(16,.bool (!(((8==8&&(ln==0&&true))&&decide (d=VA 64 0))&&((m:Int)==0&&(7==7&&(a==0&&(b==0&&(e==0&&(f==0&&(g==0&&(h==0&&(i==0&&true))))))))))))] [] ?_;refine cB (!(((8==8&&(ln==0&&true))&&decide (d=VA 64 0))&&((m:Int)==0&&(7==7&&(a==0&&(b==0&&(e==0&&(f==0&&(g==0&&(h==0&&(i==0&&true))))))))))) (λk=>?_) λk=>?_
 ·exact r0 [] [(2,.bool false)] [2] (ak (.bool false) ab.zero (by((try simp only[vp]);(repeat (first | rw[k] | rw[ALct])))<;>rfl) [] [] [])
 exact r0 [(1,.m (ld 0 (i6 8))),(6,.m (ld 0 (i6 7))),(11,.m (ld 0 (i6 7))),] [(2,.bool true)] [2] (ak (.bool true) ab.zero (by((try simp only[vp]);(repeat (first | rw[k] | rw[ALcf])))<;>rfl) [] [] [])
def vq(ln:Int)(d:List UInt8)(m:Nat)(a b c e f g h i:Int):Bool:=(bif !(((8==8&&(ln==0&&true))&&decide (d=VA 64 0))&&((m:Int)==0&&(a==a&&(b==0&&(c==0&&(e==0&&(f==0&&(g==0&&(h==0&&(i==0&&true)))))))))) then false else(decide (1≤a))&&(decide (a≤7)))
theorem Sn(ln:Int)(d:List UInt8)(m:Nat)(a b e f g h i j:Int)(n:d.length=64)(o:a<1∨7<a):aa VB 17 #[.agg (sV 8 ln d m a b e f g h i j)] [] [] N0 (λ_=> .bool (vq ln d m a b e f g h i j)):=by
 refine fG Tryz.func17 λw cs=>ra (λk=>[(1,pt (B0 k) 0),(2,.bool false)]) (λk=>[ob (B0 k) (sV 8 ln d m a b e f g h i j) 50]) λk=>r0 [(1,.m (ld 0 (i6 8))),(5,.m (ld 0 (i6 8))),(9,.m (ls 0 (sL 8 ln d m a b e f g h i j))),(10,.m (ls 0 (sL 8 ln d m a b e f g h i j))),(11,.c [] [] (R8 ln d m a b e f g h i j (by(simp only[LL,n,n];done)) Om)),(12,.t (iC 50 λ_ _ _=>jj (xs:=([i6 8,i6 ln]:List Value)++rB 64 d++([u6 (m:Int),i6 a,i6 b,i6 e,i6 f,i6 g,i6 h,i6 i,i6 j]:List Value)) (ys:=([i6 8,i6 0]:List Value)++rB 64 z6++([u6 0,i6 a,i6 0,i6 0,i6 0,i6 0,i6 0,i6 0,i6 0]:List Value)) Kr (e7 Kr Kr (e7 Kr Kr Vm (ji n (show z6.length=64 by rfl))) Vm)))] [(16,.bool (!(((8==8&&(ln==0&&true))&&decide (d=VA 64 0))&&((m:Int)==0&&(a==a&&(b==0&&(e==0&&(f==0&&(g==0&&(h==0&&(i==0&&(j==0&&true))))))))))))] [] ?_;refine cB (!(((8==8&&(ln==0&&true))&&decide (d=VA 64 0))&&((m:Int)==0&&(a==a&&(b==0&&(e==0&&(f==0&&(g==0&&(h==0&&(i==0&&(j==0&&true))))))))))) (λl=>?_) λl=>?_
 ·exact r0 [] [(2,.bool false)] [2] (ak (.bool false) ab.zero (by((try simp only[vq]);(repeat (first | rw[l] | rw[ALct])))<;>rfl) [] [] [])
 exact r0 [(1,.m (ld 0 (i6 8))),(6,.m (ld 0 (i6 a))),(11,.m (ld 0 (i6 a))),] [(2,.bool ((decide (1≤a))&&(decide (a≤7))))] [2] (ak (.bool ((decide (1≤a))&&(decide (a≤7)))) ab.zero (by((try simp only[vq]);(repeat (first | rw[l] | rw[ALcf])))<;>rfl) [] [] [])
def ed(k j:Int)(d:List UInt8)(m:Nat)(a b c e f g h i:Int):Bool:=
 if k<1 then false else if 8<k then false else if k=1 then vb j d m a b c e f g h i else if k=2 then vc j m a b c e f g h i else if k=3 then ve j m a b c e f g h i else if k≤7 then vf k j d m a b c e f g h i else if a=1 then vg j d m b c e f g h i else if a=2 then vh j d m b c e f g h i else if a=3 then vi j d m b c e f g h i else if a=4 then vk j d m b c e f g h i else if a=5 then vm j d m b c e f g h i else if a=6 then vn j d m b c e f g h i else if a=7 then vp j d m b c e f g h i else vq j d m a b c e f g h i
def sR(s:St):Bool:=ed s.k s.ln s.d s.m s.f0 s.f1 s.f2 s.f3 s.f4 s.f5 s.f6 s.f7
theorem So{s:St}(h:sR s=true):1≤s.k∧s.k≤8:=by
 unfold sR ed at h;by_cases a:s.k<1
 ·rw[ALifp a] at h;cases h
 ·rw[ALifn a] at h;by_cases b:8<s.k
  ·rw[ALifp b] at h;cases h
  ·omega
theorem jR(k j:Int)(d:List UInt8)(m:Nat)(a b c e f g h i:Int)(l:d.length=64):aa VB 17 #[.agg ([i6 k,i6 j]++rB 64 d++[u6 (m:Int),i6 a,i6 b,i6 c,i6 e,i6 f,i6 g,i6 h,i6 i]).toArray] [] [] N0 (λ_=> .bool (ed k j d m a b c e f g h i)):=by
 unfold ed;by_cases n:k<1
 ·rw[ALifp n];exact R9 k j d m a b c e f g h i l n
 rw[ALifn n];by_cases o:8<k
 ·rw[ALifp o];exact Sa k j d m a b c e f g h i l o
 rw[ALifn o];by_cases x:k=1
 ·subst x;rw[ALifp rfl];exact Sb j d m a b c e f g h i l
 rw[ALifn x];by_cases y:k=2
 ·subst y;rw[ALifp rfl];exact Sc j d m a b c e f g h i l
 rw[ALifn y];by_cases z:k=3
 ·subst z;rw[ALifp rfl];exact Sd j d m a b c e f g h i l
 rw[ALifn z];by_cases p:k≤7
 ·rw[ALifp p];exact Se k j d m a b c e f g h i l Om p
 rw[ALifn p];obtain rfl:k=8:=by omega
 by_cases q:a=1
 ·subst q;rw[ALifp rfl];exact Sf j d m b c e f g h i l
 rw[ALifn q];by_cases r:a=2
 ·subst r;rw[ALifp rfl];exact Sg j d m b c e f g h i l
 rw[ALifn r];by_cases s:a=3
 ·subst s;rw[ALifp rfl];exact Sh j d m b c e f g h i l
 rw[ALifn s];by_cases t:a=4
 ·subst t;rw[ALifp rfl];exact Si j d m b c e f g h i l
 rw[ALifn t];by_cases u:a=5
 ·subst u;rw[ALifp rfl];exact Sj j d m b c e f g h i l
 rw[ALifn u];by_cases v:a=6
 ·subst v;rw[ALifp rfl];exact Sk j d m b c e f g h i l
 rw[ALifn v];by_cases w:a=7
 ·subst w;rw[ALifp rfl];exact Sm j d m b c e f g h i l
 rw[ALifn w];exact Sn j d m a b c e f g h i l Om
theorem r7{α:Type}{en:α→List Value}{d:α}{A C:List Value}{a off m:Nat}{ys:List α}{t:TypeId}(h1: ∀x,(en x).length=1)(hA:A.length=off)(h:ys.length=m):aH en (.slice (some ⟨a,off,none⟩) m m) ys [(a,.cells ((A++cG en d m ys++C).toArray) t (0,0))]:=by
 have e:((A++cG en d m ys++C).drop off).take (aj en ys).length=aj en ys:=by rw[km h,VN,←hA,List.drop_left,List.take_left]
 exact⟨.inr ⟨a,off,_,t,(0,0),m,by rw[h],List.mem_singleton.2 rfl,e⟩,some ⟨a,off,none⟩,0,by rw[h];rfl⟩
theorem r9{P:Program}{T:TypeId}{w:World}{g off s N:Nat}(a:(P.underlying T,P.arrayLen T,iB P (P.elem T))=(some (.array N (P.elem T)),N,some s))(c:0<N):(Instr.sliceAt T (.pointer (some ⟨g,off,none⟩)) none none none).run P w= .ok (.slice (some ⟨g,off,none⟩) N N) w:=by
 have b:P.arrayLen T=N:=ALca (·.2.1) a;rw[run_sliceAt_array_all w T ⟨g,off,none⟩ (by rw[b];exact ALca (·.1) a),nq (ALca (·.2.2) a),Wu];unfold slicedAt;rw[b,add_lit,Wd,ALifn Om];rfl
structure Ij where
 x0:Int
 x1:Int
 x2:Int
 x3:Int
 x4:Int
 x5:Int
 x6:Int
 x7:Int
 sc:Nat
 ac:Nat
def Sp:Ij:=⟨0,0,0,0,0,0,0,0,0,0⟩
def EU(x:Ij):List Value:=[i6 x.x0,i6 x.x1,i6 x.x2,i6 x.x3,i6 x.x4,i6 x.x5,i6 x.x6,i6 x.x7,iN x.sc,iN x.ac]
def Sq:Kd VB Ij:=⟨EU,[i6 0,i6 0,i6 0,i6 0,i6 0,i6 0,i6 0,i6 0,i6 0,i6 0],111,187,Sp,10,λ_=>rfl,rfl,λ_=>rfl,dU.mk' Kr Kr rfl⟩
abbrev fT(v:Value)(xs:List Ij):aB:= .p (ar EU ([i6 0,i6 0,i6 0,i6 0,i6 0,i6 0,i6 0,i6 0,i6 0,i6 0]) 187 v xs)
structure Sv where
 k:Int
 ln:Int
 d:List UInt8
 m:Nat
 f0:Int
 f1:Int
 f2:Int
 f3:Int
 f4:Int
 f5:Int
 f6:Int
 f7:Int
 e:Int
 n:Int
 l:List UInt8
 w:List UInt8
 fi:Nat
 la:Nat
def yJ:Sv:=⟨0,0,VA 64 0,0,0,0,0,0,0,0,0,0,0,0,VA 64 0,VA 64 0,0,0⟩
def EV(x:Sv):List Value:=[i6 x.k,i6 x.ln]++rB 64 x.d++[u6 (x.m:Int),i6 x.f0,i6 x.f1,i6 x.f2,i6 x.f3,i6 x.f4,i6 x.f5,i6 x.f6,i6 x.f7,i6 x.e,i6 x.n]++rB 64 x.l++rB 64 x.w++[iN x.fi,iN x.la]
def yK:Kd VB Sv:=⟨EV,[i6 0,i6 0]++VA 64 (u1 0)++[u6 0,i6 0,i6 0,i6 0,i6 0,i6 0,i6 0,i6 0,i6 0,i6 0,i6 0]++VA 64 (u1 0)++VA 64 (u1 0)++[i6 0,i6 0],112,149,yJ,207,λ_=>rfl,rfl,λ_=>rfl,dU.mk' Kr Kr rfl⟩
abbrev dd(v:Value)(xs:List Sv):aB:= .p (ar EV ([i6 0,i6 0]++VA 64 (u1 0)++[u6 0,i6 0,i6 0,i6 0,i6 0,i6 0,i6 0,i6 0,i6 0,i6 0,i6 0]++VA 64 (u1 0)++VA 64 (u1 0)++[i6 0,i6 0]) 149 v xs)
structure Mc where
 x:Ct
 id:Int→List UInt8
 inj:List Ij
 sv:List Sv
 sc:Nat
 st:Nat
def o0:List UInt8:=VA 64 0
def vr(r:List UInt8):Value:= .agg (rB 64 r).toArray
abbrev cV(f:Int→List UInt8)(g:Nat):aB:= .p (kW vr o0 f g)
abbrev aP(g a i m j l h n f b e k:Nat)(c:Cf)(x:Mc)(L:ah):Prop:=∃(gi:Nat) (d vs:Value),L=[ob g #[pt b 0,pt a 0,.map (some gi),d,vs,iN x.sc,iN x.st] 114,pk (aQ a i m j l h n f b e k c x.x),cV x.id gi,fT d x.inj,dd vs x.sv]
structure eL (c:Cf) (x:Mc) (K A N:Nat):Prop where
 ct:bF c x.x K A
 il: ∀k,(x.id k).length=64
 jl:x.inj.length≤N
 sl:x.sv.length≤N
 sc:x.sc≤N
 st:x.st≤N
theorem kK(d h l i k g m f a b j:Nat)(c:Cf)(x:Ct):aa VB 42 #[pt a 0] [pk (aQ d h l i k g m f a b j c x)] [0] (λ_=>[pk (aQ d h l i k g m f a b j c x)]) (λ_=>iN x.V.l.length):=
 aa.inW (QU a b c x.V) λL ⟨v,e⟩=>⟨6,by rw[e];rfl,v,by rw[e];rfl⟩
theorem Sr(g j n k m i o h a b l:Nat)(c:Cf)(x:Ct)(d:cY c)(p:m8 c x.V)(f:Fa):aa VB 90 #[pt a 0,.agg #[i6 f.x0,i6 f.x1,i6 f.x2,i6 f.x3,i6 f.x4,i6 f.x5,i6 f.x6,i6 f.x7]] [pk (aQ g j n k m i o h a b l c x)] [0] (λ_=>[pk (aQ g j n k m i o h a b l c {x with V:=m9 c x.V f})]) (λ_=>i6 (gO c x.V.D f)):=
 aa.inW (QV a b c d x.V p f) λL ⟨v,e⟩=>⟨6,by rw[e];rfl,v,by rw[e];rfl⟩
theorem EW(v:Nat):cr v≠30:=by unfold cr;cases (v:Int)==3<;>cases (v:Int)==2<;>decide
theorem EX(c:Cf)(x:Ct)(n m:Nat)(a:m≠0):cy c x n m≠30:=by
 unfold cy;rw[show((m:Int)==0)=false from dP.2 Om];cases decide (pc m=64)
 ·cases hv: !(cr (bL c x (a9 x n))==0)
  ·show(0:Int)≠30;decide
  ·exact EW _
 ·show(0:Int)≠30;decide
def EY(s:St)(e:Int)(l w:List UInt8)(a b:Nat):Sv:=⟨s.k,s.ln,s.d,s.m,s.f0,s.f1,s.f2,s.f3,s.f4,s.f5,s.f6,s.f7,e,0,l,w,a,b⟩
def EZ(c:Cf)(x:Mc)(n:Nat)(s:St):Mc:={x with x:=c0 c x.x n c.W,sv:=x.sv++[EY s (cr (bL c x.x (a9 x.x n))) (cZ c x.x (a9 x.x n)) (x.id (n:Int)) x.x.V.l.length (c0 c x.x n c.W).V.l.length]}
def vt(c:Cf)(x:Mc)(n m:Nat)(s:St):Mc:={x with x:=bG c x.x n s.d m,id:=dQ x.id (n:Int) (ir (x.id (n:Int)) s.d m),sv:=x.sv++[EY s (cy c x.x n m) z6 (x.id (n:Int)) x.x.V.l.length (bG c x.x n s.d m).V.l.length]}
theorem Ss(g q D I F H C J B r z G:Nat)(c:Cf)(y:Ct)(K A:Nat)(h:bF c y K A)(hA:A≤700000)(O:K+3≤1000000000)(n:Nat)(R:n<((c.R*c.B*c.M-c.res)*c.C))(d:List UInt8)(T:d.length=64)(m:Nat)(a b e f i j o p:Int)(id:Int→List UInt8)(Q: ∀k,(id k).length=64)(sv:List Sv)(S:sv.length≤1000)(sc st u:Nat)(N vs:Value):aa VB 54 #[pt g 0,.agg (sV 1 (n:Int) d m a b e f i j o p)] [ob g #[pt r 0,pt q 0,.map (some u),N,vs,iN sc,iN st] 114,pk (aQ q D I F H C J B r z G c y),cV id u,dd vs sv] [0,1,2,3] (λE=>[ob g #[pt r 0,pt q 0,.map (some u),N,(E.val 0),iN sc,iN st] 114,pk (aQ q D I F H C J B r z G c (c0 c y n c.W)),cV id u,dd (E.val 0) (sv++([(⟨1,(n:Int),d,m,a,b,e,f,i,j,o,p,(cr (bL c y (a9 y n))),0,cZ c y (a9 y n),(id (n:Int)),y.V.l.length,(c0 c y n c.W).V.l.length⟩:Sv)]))]) (λ_=> .agg (([i6 (cr (bL c y (a9 y n))),i6 0]:List Value)++rB 64 (cZ c y (a9 y n))).toArray):=by
 have P:=h.cf;exact fG Tryz.func54 λw cs=>ra (λx=>[(3,pt (B0 x) 0),(4,pt (B1 x) 0)]) (λx=>[ob (B0 x) (sV 1 (n:Int) d m a b e f i j o p) 50,ob (B1 x) (([i6 0,i6 0]:List Value)++rB 64 z6).toArray 53]) λx=>rr (λ_=>[(0,.m (ls 4 (sL 1 (n:Int) d m a b e f i j o p))),(4,.m (ld 0 (.map (some u)))),(6,.m (ld 4 (iN n))),(7,.m (mg 2 (cV id u) u (n:Int) (λ_ h=>h))),(11,.m (ld 0 (pt r 0))),(12,.c [1] [1] (kK q D I F H C J B r z G c y)),(14,.m (al 6)),(15,.s 6)]) (λM=>[(5,pt ((M 14).y 0) 0)]) [] (λM L=>L++[ob ((M 14).y 0) (([i6 1,iN n]:List Value)++rB 64 d++([u6 (m:Int),i6 a,i6 b,i6 e,i6 f,i6 i,i6 j,i6 o,i6 p,i6 0,i6 0]:List Value)++rB 64 z6++rB 64 (id (n:Int))++([iN y.V.l.length,i6 0]:List Value)).toArray 149]) λM=>r0 [(1,.l 4)] [(21,i6 1)] [] (rT [] 35 (rr (λ_=>[(3,.m (ld 0 (pt q 0))),(5,.m (ld 4 (iN n))),(6,.c [1] [1] (Rz q D I F H C J B r z G c y _ _ h hA O n R)),(12,.s 6),(15,.s 6)]) N0 [] (λ_ L=>(L.set 1 ((pk (aQ q D I F H C J B r z G c (c0 c y n c.W))))).set 6 (ob ((M 14).y 0) (([i6 1,iN n]:List Value)++rB 64 d++([u6 (m:Int),i6 a,i6 b,i6 e,i6 f,i6 i,i6 j,i6 o,i6 p,i6 (cr (bL c y (a9 y n))),i6 0]:List Value)++rB 64 (cZ c y (a9 y n))++rB 64 (id (n:Int))++([iN y.V.l.length,i6 0]:List Value)).toArray 149)) λU=>rF [(2,.l 6),(3,.t (tk (show Value.bool ((cr (bL c y (a9 y n)))==30)= .bool false from ALca Value.bool (by exact dP.2 (EW _)))))] 68 (rF [(1,.l 4)] 73 (rs [(3,.l 0),(4,.c [1] [1] (kK q D I F H C J B r z G c (c0 c y n c.W))),(6,.s 6)] 6 (ob ((M 14).y 0) (([i6 1,iN n]:List Value)++rB 64 d++([u6 (m:Int),i6 a,i6 b,i6 e,i6 f,i6 i,i6 j,i6 o,i6 p,i6 (cr (bL c y (a9 y n))),i6 0]:List Value)++rB 64 (cZ c y (a9 y n))++rB 64 (id (n:Int))++([iN y.V.l.length,i6 (((c0 c y n c.W).V.l.length:Nat):Int)]:List Value)).toArray 149) (rr (λv=>[(4,.l 0),(5,.l 6),(6,.m (bs 7 1)),(7,fp yK (vs) sv 3 7 ([(⟨1,(n:Int),d,m,a,b,e,f,i,j,o,p,(cr (bL c y (a9 y n))),0,cZ c y (a9 y n),(id (n:Int)),y.V.l.length,(c0 c y n c.W).V.l.length⟩:Sv)])),(10,.m (fz 0 3 (dd ((v 7).val 0) (sv++([(⟨1,(n:Int),d,m,a,b,e,f,i,j,o,p,(cr (bL c y (a9 y n))),0,cZ c y (a9 y n),(id (n:Int)),y.V.l.length,(c0 c y n c.W).V.l.length⟩:Sv)]))) ((v 7).val 0) λbs h=>ar.one ((λ_ h=>h) bs h)))]) N0 [] (λv L=>(L.set 0 (ob g #[pt r 0,pt q 0,.map (some u),N,(v 7).val 0,iN sc,iN st] 114)).set 3 (dd ((v 7).val 0) (sv++([(⟨1,(n:Int),d,m,a,b,e,f,i,j,o,p,(cr (bL c y (a9 y n))),0,cZ c y (a9 y n),(id (n:Int)),y.V.l.length,(c0 c y n c.W).V.l.length⟩:Sv)])))++[ob (B6 v) (([i6 1,iN n]:List Value)++rB 64 d++([u6 (m:Int),i6 a,i6 b,i6 e,i6 f,i6 i,i6 j,i6 o,i6 p,i6 (cr (bL c y (a9 y n))),i6 0]:List Value)++rB 64 (cZ c y (a9 y n))++rB 64 (id (n:Int))++([iN y.V.l.length,i6 (((c0 c y n c.W).V.l.length:Nat):Int)]:List Value)).toArray 149]) λv=>rs [(1,.l 6),(2,.s 5)] 5 (ob (B1 x) (([i6 (cr (bL c y (a9 y n))),i6 0]:List Value)++rB 64 (cZ c y (a9 y n))).toArray 53) (lf (.l [] [] [(v 7).val 0]) [0,1,2,3] [] [5]))))))
theorem Su(g a C H D G B I z b x F:Nat)(c:Cf)(y:Ct)(K A:Nat)(h:bF c y K A)(hA:A≤700000)(Q:K+3≤1000000000)(n:Int)(O:bR n ((((c.R*c.B*c.M-c.res)*c.C):Nat):Int)=false)(d:List UInt8)(R:d.length=64)(m:Nat)(i j o p q r t u:Int)(id:Int→List UInt8)(N: ∀k,(id k).length=64)(sv:List Sv)(P:sv.length≤1000)(sc st e:Nat)(J vs:Value):aa VB 54 #[pt g 0,.agg (sV 1 n d m i j o p q r t u)] [ob g #[pt b 0,pt a 0,.map (some e),J,vs,iN sc,iN st] 114,pk (aQ a C H D G B I z b x F c y),cV id e,dd vs sv] [0,1,2,3] (λ_=>[ob g #[pt b 0,pt a 0,.map (some e),J,vs,iN sc,iN st] 114,pk (aQ a C H D G B I z b x F c y),cV id e,dd vs sv]) (λ_=> .agg (([i6 30,i6 0]:List Value)++rB 64 z6).toArray):=by
 have M:=h.cf;exact fG Tryz.func54 λw cs=>ra (λf=>[(3,pt (B0 f) 0),(4,pt (B1 f) 0)]) (λf=>[ob (B0 f) (sV 1 n d m i j o p q r t u) 50,ob (B1 f) (([i6 0,i6 0]:List Value)++rB 64 z6).toArray 53]) λf=>rr (λ_=>[(0,.m (ls 4 (sL 1 n d m i j o p q r t u))),(4,.m (ld 0 (.map (some e)))),(6,.m (ld 4 (i6 n))),(7,.m (mg 2 (cV id e) e n (λ_ h=>h))),(11,.m (ld 0 (pt b 0))),(12,.c [1] [1] (kK a C H D G B I z b x F c y)),(14,.m (al 6)),(15,.s 6)]) (λv=>[(5,pt ((v 14).y 0) 0)]) [] (λv L=>L++[ob ((v 14).y 0) (([i6 1,i6 n]:List Value)++rB 64 d++([u6 (m:Int),i6 i,i6 j,i6 o,i6 p,i6 q,i6 r,i6 t,i6 u,i6 0,i6 0]:List Value)++rB 64 z6++rB 64 (id n)++([iN y.V.l.length,i6 0]:List Value)).toArray 149]) λv=>r0 [(1,.l 4)] [(21,i6 1)] [] (rT [] 35 (rs [(3,.m (ld 0 (pt a 0))),(5,.m (ld 4 (i6 n))),(6,.c [1] [1] (RB a C H D G B I z b x F c y _ _ h n O)),(12,.s 6),(15,.s 6)] 6 (ob ((v 14).y 0) (([i6 1,i6 n]:List Value)++rB 64 d++([u6 (m:Int),i6 i,i6 j,i6 o,i6 p,i6 q,i6 r,i6 t,i6 u,i6 30,i6 0]:List Value)++rB 64 z6++rB 64 (id n)++([iN y.V.l.length,i6 0]:List Value)).toArray 149) (rT [(2,.l 6)] 68 (rs [(1,.l 6),(2,.s 5)] 5 (ob (B1 f) (([i6 30,i6 0]:List Value)++rB 64 z6).toArray 53) (lf ab.zero [0,1,2,3] [] [5])))))
theorem Sw(g r D I F H B J z u x G:Nat)(c:Cf)(y:Ct)(K A:Nat)(h:bF c y K A)(hA:A≤700000)(U:K+3≤1000000000)(n:Int)(S:bR n ((((c.R*c.B*c.M-c.res)*c.C):Nat):Int)=false)(d:List UInt8)(O:d.length=64)(m:Nat)(b e f i j o p q:Int)(id:Int→List UInt8)(R: ∀k,(id k).length=64)(sv:List Sv)(T:sv.length≤1000)(sc st v:Nat)(P vs:Value):aa VB 54 #[pt g 0,.agg (sV 2 n d m b e f i j o p q)] [ob g #[pt u 0,pt r 0,.map (some v),P,vs,iN sc,iN st] 114,pk (aQ r D I F H B J z u x G c y),cV id v,dd vs sv] [0,1,2,3] (λ_=>[ob g #[pt u 0,pt r 0,.map (some v),P,vs,iN sc,iN st] 114,pk (aQ r D I F H B J z u x G c y),cV id v,dd vs sv]) (λ_=> .agg (([i6 30,i6 0]:List Value)++rB 64 z6).toArray):=by
 have Q:=h.cf;exact fG Tryz.func54 λw cs=>ra (λa=>[(3,pt (B0 a) 0),(4,pt (B1 a) 0)]) (λa=>[ob (B0 a) (sV 2 n d m b e f i j o p q) 50,ob (B1 a) (([i6 0,i6 0]:List Value)++rB 64 z6).toArray 53]) λa=>rr (λ_=>[(0,.m (ls 4 (sL 2 n d m b e f i j o p q))),(4,.m (ld 0 (.map (some v)))),(6,.m (ld 4 (i6 n))),(7,.m (mg 2 (cV id v) v n (λ_ h=>h))),(11,.m (ld 0 (pt u 0))),(12,.c [1] [1] (kK r D I F H B J z u x G c y)),(14,.m (al 6)),(15,.s 6)]) (λM=>[(5,pt ((M 14).y 0) 0)]) [] (λM L=>L++[ob ((M 14).y 0) (([i6 2,i6 n]:List Value)++rB 64 d++([u6 (m:Int),i6 b,i6 e,i6 f,i6 i,i6 j,i6 o,i6 p,i6 q,i6 0,i6 0]:List Value)++rB 64 z6++rB 64 (id n)++([iN y.V.l.length,i6 0]:List Value)).toArray 149]) λM=>r0 [(1,.l 4)] [(21,i6 2)] [] (rF [] 35 (rT [] 51 (rs [(1,.s 4)] 4 (ob (B0 a) (sV 2 n d 18446744073709551615 b e f i j o p q) 50) (rs [(3,.m (ld 0 (pt r 0))),(5,.m (ld 4 (i6 n))),(7,.t (tv (Instr.sliceAt 43 (pt (B0 a) 2) none none none) (λ_=>r9 (s:=1) (N:=64) Kr Dc))),(8,.c [1,4] [1] (aa.at (rd':=[pk (aQ r D I F H B J z u x G c y),ob (B0 a) (sV 2 n d 18446744073709551615 b e f i j o p q) 50]) (RF r D I F H B J z u x G c y _ _ h n S (.slice (some ⟨(a 0).y 0,2,none⟩) 64 64) d (by(simp only[LL,O,O];done))) (aK (ei (r7 (d:=0) (A:=([i6 2,i6 n]:List Value)) (C:=([u6 18446744073709551615,i6 b,i6 e,i6 f,i6 i,i6 j,i6 o,i6 p,i6 q]:List Value)) (λ_=>rfl) rfl O) (λ_ h=>h))))),(11,.s 6)] 6 (ob ((M 14).y 0) (([i6 2,i6 n]:List Value)++rB 64 d++([u6 (m:Int),i6 b,i6 e,i6 f,i6 i,i6 j,i6 o,i6 p,i6 q,i6 30,i6 0]:List Value)++rB 64 z6++rB 64 (id n)++([iN y.V.l.length,i6 0]:List Value)).toArray 149) (rT [(2,.l 6)] 68 (rs [(1,.l 6),(2,.s 5)] 5 (ob (B1 a) (([i6 30,i6 0]:List Value)++rB 64 z6).toArray 53) (lf ab.zero [0,1,2,3] [] [5])))))))
theorem Sx(g b D I F H B J z e x G:Nat)(c:Cf)(y:Ct)(K A:Nat)(h:bF c y K A)(hA:A≤700000)(U:K+3≤1000000000)(n:Int)(S:bR n ((((c.R*c.B*c.M-c.res)*c.C):Nat):Int)=false)(d:List UInt8)(O:d.length=64)(m:Nat)(f i j o p q r u:Int)(id:Int→List UInt8)(R: ∀k,(id k).length=64)(sv:List Sv)(T:sv.length≤1000)(sc st v:Nat)(P vs:Value):aa VB 54 #[pt g 0,.agg (sV 3 n d m f i j o p q r u)] [ob g #[pt e 0,pt b 0,.map (some v),P,vs,iN sc,iN st] 114,pk (aQ b D I F H B J z e x G c y),cV id v,dd vs sv] [0,1,2,3] (λ_=>[ob g #[pt e 0,pt b 0,.map (some v),P,vs,iN sc,iN st] 114,pk (aQ b D I F H B J z e x G c y),cV id v,dd vs sv]) (λ_=> .agg (([i6 30,i6 0]:List Value)++rB 64 z6).toArray):=by
 have Q:=h.cf;exact fG Tryz.func54 λw cs=>ra (λa=>[(3,pt (B0 a) 0),(4,pt (B1 a) 0)]) (λa=>[ob (B0 a) (sV 3 n d m f i j o p q r u) 50,ob (B1 a) (([i6 0,i6 0]:List Value)++rB 64 z6).toArray 53]) λa=>rr (λ_=>[(0,.m (ls 4 (sL 3 n d m f i j o p q r u))),(4,.m (ld 0 (.map (some v)))),(6,.m (ld 4 (i6 n))),(7,.m (mg 2 (cV id v) v n (λ_ h=>h))),(11,.m (ld 0 (pt e 0))),(12,.c [1] [1] (kK b D I F H B J z e x G c y)),(14,.m (al 6)),(15,.s 6)]) (λM=>[(5,pt ((M 14).y 0) 0)]) [] (λM L=>L++[ob ((M 14).y 0) (([i6 3,i6 n]:List Value)++rB 64 d++([u6 (m:Int),i6 f,i6 i,i6 j,i6 o,i6 p,i6 q,i6 r,i6 u,i6 0,i6 0]:List Value)++rB 64 z6++rB 64 (id n)++([iN y.V.l.length,i6 0]:List Value)).toArray 149]) λM=>r0 [(1,.l 4)] [(21,i6 3)] [] (rF [] 35 (rF [] 51 (rs [(3,.m (ld 0 (pt b 0))),(5,.m (ld 4 (i6 n))),(7,.t (tv (Instr.sliceAt 43 (pt (B0 a) 2) none none none) (λ_=>r9 (s:=1) (N:=64) Kr Dc))),(9,.m (ld 4 (u6 (m:Int)))),(10,.c [1,4] [1] (aa.at (rd':=[pk (aQ b D I F H B J z e x G c y),ob (B0 a) (sV 3 n d m f i j o p q r u) 50]) (RE b D I F H B J z e x G c y _ _ h n S (.slice (some ⟨(a 0).y 0,2,none⟩) 64 64) d (by(simp only[LL,O,O];done)) m) (aK (ei (r7 (d:=0) (A:=([i6 3,i6 n]:List Value)) (C:=([u6 (m:Int),i6 f,i6 i,i6 j,i6 o,i6 p,i6 q,i6 r,i6 u]:List Value)) (λ_=>rfl) rfl O) (λ_ h=>h))))),(13,.s 6)] 6 (ob ((M 14).y 0) (([i6 3,i6 n]:List Value)++rB 64 d++([u6 (m:Int),i6 f,i6 i,i6 j,i6 o,i6 p,i6 q,i6 r,i6 u,i6 30,i6 0]:List Value)++rB 64 z6++rB 64 (id n)++([iN y.V.l.length,i6 0]:List Value)).toArray 149) (rT [(2,.l 6)] 68 (rs [(1,.l 6),(2,.s 5)] 5 (ob (B1 a) (([i6 30,i6 0]:List Value)++rB 64 z6).toArray 53) (lf ab.zero [0,1,2,3] [] [5]))))))
theorem Sy(g r F J G I D M B u z H:Nat)(c:Cf)(y:Ct)(K A:Nat)(h:bF c y K A)(hA:A≤700000)(T:K+3≤1000000000)(n:Nat)(W:n<((c.R*c.B*c.M-c.res)*c.C))(d:List UInt8)(O:d.length=64)(m:Nat)(b e f i j o p q:Int)(id:Int→List UInt8)(R: ∀k,(id k).length=64)(sv:List Sv)(X:sv.length≤1000)(sc st v:Nat)(S vs:Value):aa VB 54 #[pt g 0,.agg (sV 2 (n:Int) d m b e f i j o p q)] [ob g #[pt u 0,pt r 0,.map (some v),S,vs,iN sc,iN st] 114,pk (aQ r F J G I D M B u z H c y),cV id v,dd vs sv] [0,1,2,3] (λE=>[ob g #[pt u 0,pt r 0,.map (some v),S,(E.val 0),iN sc,iN st] 114,pk (aQ r F J G I D M B u z H c (bG c y n d 18446744073709551615)),cV (dQ id (n:Int) (ir (id (n:Int)) d 18446744073709551615)) v,dd (E.val 0) (sv++([(⟨2,(n:Int),d,m,b,e,f,i,j,o,p,q,(cy c y n 18446744073709551615),0,VA 64 0,(id (n:Int)),y.V.l.length,(bG c y n d 18446744073709551615).V.l.length⟩:Sv)]))]) (λ_=> .agg (([i6 (cy c y n 18446744073709551615),i6 0]:List Value)++rB 64 z6).toArray):=by
 have U:=h.cf;have P:=R (n:Int);refine fG Tryz.func54 λw cs=>ra (λx=>[(3,pt (B0 x) 0),(4,pt (B1 x) 0)]) (λx=>[ob (B0 x) (sV 2 (n:Int) d m b e f i j o p q) 50,ob (B1 x) (([i6 0,i6 0]:List Value)++rB 64 z6).toArray 53]) λx=>rr (λ_=>[(0,.m (ls 4 (sL 2 (n:Int) d m b e f i j o p q))),(4,.m (ld 0 (.map (some v)))),(6,.m (ld 4 (iN n))),(7,.m (mg 2 (cV id v) v (n:Int) (λ_ h=>h))),(11,.m (ld 0 (pt u 0))),(12,.c [1] [1] (kK r F J G I D M B u z H c y)),(14,.m (al 6)),(15,.s 6)]) (λQ=>[(5,pt ((Q 14).y 0) 0)]) [] (λQ L=>L++[ob ((Q 14).y 0) (([i6 2,iN n]:List Value)++rB 64 d++([u6 (m:Int),i6 b,i6 e,i6 f,i6 i,i6 j,i6 o,i6 p,i6 q,i6 0,i6 0]:List Value)++rB 64 z6++rB 64 (id (n:Int))++([iN y.V.l.length,i6 0]:List Value)).toArray 149]) λQ=>r0 [(1,.l 4)] [(21,i6 2)] [] (rF [] 35 (rT [] 51 (rs [(1,.s 4)] 4 (ob (B0 x) (sV 2 (n:Int) d 18446744073709551615 b e f i j o p q) 50) (rr (λ_=>[(3,.m (ld 0 (pt r 0))),(5,.m (ld 4 (iN n))),(7,.t (tv (Instr.sliceAt 43 (pt (B0 x) 2) none none none) (λ_=>r9 (s:=1) (N:=64) Kr Dc))),(8,.c [1,4] [1] (aa.at (rd':=[pk (aQ r F J G I D M B u z H c y),ob (B0 x) (sV 2 (n:Int) d 18446744073709551615 b e f i j o p q) 50]) (RD r F J G I D M B u z H c y _ _ h hA T n W (.slice (some ⟨(x 0).y 0,2,none⟩) 64 64) d (by(simp only[LL,O,P,O];done))) (aK (ei (r7 (d:=0) (A:=([i6 2,iN n]:List Value)) (C:=([u6 18446744073709551615,i6 b,i6 e,i6 f,i6 i,i6 j,i6 o,i6 p,i6 q]:List Value)) (λ_=>rfl) rfl O) (λ_ h=>h))))),(11,.s 6)]) N0 [] (λ_ L=>(L.set 1 ((pk (aQ r F J G I D M B u z H c (bG c y n d 18446744073709551615))))).set 6 (ob ((Q 14).y 0) (([i6 2,iN n]:List Value)++rB 64 d++([u6 (m:Int),i6 b,i6 e,i6 f,i6 i,i6 j,i6 o,i6 p,i6 q,i6 (cy c y n 18446744073709551615),i6 0]:List Value)++rB 64 z6++rB 64 (id (n:Int))++([iN y.V.l.length,i6 0]:List Value)).toArray 149)) λY=>rF [(2,.l 6),(3,.t (tk (show Value.bool ((cy c y n 18446744073709551615)==30)= .bool false from ALca Value.bool (by exact dP.2 (EX _ _ _ _ Dc)))))] 68 (rT [(1,.l 4)] 73 (rs [(3,.m (ld 0 (.map (some v)))),(5,.m (ld 4 (iN n))),(7,.m (ls 6 (rB 64 (id (n:Int))))),(9,.m (ls 4 (rB 64 d))),(11,.m (ld 4 (u6 18446744073709551615))),(12,.c [] [] (yG (id (n:Int)) d 18446744073709551615 (by(simp only[LL,O,P,O];done)) (by(simp only[LL,O,P,O];done)) Om)),(13,.m (mu 2 v (n:Int) vr o0 id (ir (id (n:Int)) d 18446744073709551615)))] 2 (cV (dQ id (n:Int) (ir (id (n:Int)) d 18446744073709551615)) v) (rs [(3,.l 0),(4,.c [1] [1] (kK r F J G I D M B u z H c (bG c y n d 18446744073709551615))),(6,.s 6)] 6 (ob ((Q 14).y 0) (([i6 2,iN n]:List Value)++rB 64 d++([u6 (m:Int),i6 b,i6 e,i6 f,i6 i,i6 j,i6 o,i6 p,i6 q,i6 (cy c y n 18446744073709551615),i6 0]:List Value)++rB 64 z6++rB 64 (id (n:Int))++([iN y.V.l.length,i6 (((bG c y n d 18446744073709551615).V.l.length:Nat):Int)]:List Value)).toArray 149) ?_)))))));exact rr (λa=>[(4,.l 0),(5,.l 6),(6,.m (bs 7 1)),(7,fp yK (vs) sv 3 7 ([(⟨2,(n:Int),d,m,b,e,f,i,j,o,p,q,(cy c y n 18446744073709551615),0,VA 64 0,(id (n:Int)),y.V.l.length,(bG c y n d 18446744073709551615).V.l.length⟩:Sv)])),(10,.m (fz 0 3 (dd ((a 7).val 0) (sv++([(⟨2,(n:Int),d,m,b,e,f,i,j,o,p,q,(cy c y n 18446744073709551615),0,VA 64 0,(id (n:Int)),y.V.l.length,(bG c y n d 18446744073709551615).V.l.length⟩:Sv)]))) ((a 7).val 0) λbs h=>ar.one ((λ_ h=>h) bs h)))]) N0 [] (λa L=>(L.set 0 (ob g #[pt u 0,pt r 0,.map (some v),S,(a 7).val 0,iN sc,iN st] 114)).set 3 (dd ((a 7).val 0) (sv++([(⟨2,(n:Int),d,m,b,e,f,i,j,o,p,q,(cy c y n 18446744073709551615),0,VA 64 0,(id (n:Int)),y.V.l.length,(bG c y n d 18446744073709551615).V.l.length⟩:Sv)])))++[ob (B6 a) (([i6 2,iN n]:List Value)++rB 64 d++([u6 (m:Int),i6 b,i6 e,i6 f,i6 i,i6 j,i6 o,i6 p,i6 q,i6 (cy c y n 18446744073709551615),i6 0]:List Value)++rB 64 z6++rB 64 (id (n:Int))++([iN y.V.l.length,i6 (((bG c y n d 18446744073709551615).V.l.length:Nat):Int)]:List Value)).toArray 149]) λa=>rs [(1,.l 6),(2,.s 5)] 5 (ob (B1 x) (([i6 (cy c y n 18446744073709551615),i6 0]:List Value)++rB 64 z6).toArray 53) (lf (.l [] [] [(a 7).val 0]) [0,1,2,3] [] [5])
theorem Sz(g r F J G I D M B u z H:Nat)(c:Cf)(y:Ct)(K A:Nat)(h:bF c y K A)(hA:A≤700000)(W:K+3≤1000000000)(n:Nat)(Y:n<((c.R*c.B*c.M-c.res)*c.C))(d:List UInt8)(O:d.length=64)(m:Nat)(b e f i j o p q:Int)(R:m<18446744073709551616)(T:m≠0)(id:Int→List UInt8)(S: ∀k,(id k).length=64)(sv:List Sv)(Z:sv.length≤1000)(sc st v:Nat)(U vs:Value):aa VB 54 #[pt g 0,.agg (sV 3 (n:Int) d m b e f i j o p q)] [ob g #[pt u 0,pt r 0,.map (some v),U,vs,iN sc,iN st] 114,pk (aQ r F J G I D M B u z H c y),cV id v,dd vs sv] [0,1,2,3] (λE=>[ob g #[pt u 0,pt r 0,.map (some v),U,(E.val 0),iN sc,iN st] 114,pk (aQ r F J G I D M B u z H c (bG c y n d m)),cV (dQ id (n:Int) (ir (id (n:Int)) d m)) v,dd (E.val 0) (sv++([(⟨3,(n:Int),d,m,b,e,f,i,j,o,p,q,(cy c y n m),0,VA 64 0,(id (n:Int)),y.V.l.length,(bG c y n d m).V.l.length⟩:Sv)]))]) (λ_=> .agg (([i6 (cy c y n m),i6 0]:List Value)++rB 64 z6).toArray):=by
 have X:=h.cf;have P:=S (n:Int);refine fG Tryz.func54 λw cs=>ra (λx=>[(3,pt (B0 x) 0),(4,pt (B1 x) 0)]) (λx=>[ob (B0 x) (sV 3 (n:Int) d m b e f i j o p q) 50,ob (B1 x) (([i6 0,i6 0]:List Value)++rB 64 z6).toArray 53]) λx=>rr (λ_=>[(0,.m (ls 4 (sL 3 (n:Int) d m b e f i j o p q))),(4,.m (ld 0 (.map (some v)))),(6,.m (ld 4 (iN n))),(7,.m (mg 2 (cV id v) v (n:Int) (λ_ h=>h))),(11,.m (ld 0 (pt u 0))),(12,.c [1] [1] (kK r F J G I D M B u z H c y)),(14,.m (al 6)),(15,.s 6)]) (λQ=>[(5,pt ((Q 14).y 0) 0)]) [] (λQ L=>L++[ob ((Q 14).y 0) (([i6 3,iN n]:List Value)++rB 64 d++([u6 (m:Int),i6 b,i6 e,i6 f,i6 i,i6 j,i6 o,i6 p,i6 q,i6 0,i6 0]:List Value)++rB 64 z6++rB 64 (id (n:Int))++([iN y.V.l.length,i6 0]:List Value)).toArray 149]) λQ=>r0 [(1,.l 4)] [(21,i6 3)] [] (rF [] 35 (rF [] 51 (rr (λ_=>[(3,.m (ld 0 (pt r 0))),(5,.m (ld 4 (iN n))),(7,.t (tv (Instr.sliceAt 43 (pt (B0 x) 2) none none none) (λ_=>r9 (s:=1) (N:=64) Kr Dc))),(9,.m (ld 4 (u6 (m:Int)))),(10,.c [1,4] [1] (aa.at (rd':=[pk (aQ r F J G I D M B u z H c y),ob (B0 x) (sV 3 (n:Int) d m b e f i j o p q) 50]) (EH r F J G I D M B u z H c y _ _ h hA W n Y (.slice (some ⟨(x 0).y 0,2,none⟩) 64 64) d (by(simp only[LL,O,P,O];done)) m R) (aK (ei (r7 (d:=0) (A:=([i6 3,iN n]:List Value)) (C:=([u6 (m:Int),i6 b,i6 e,i6 f,i6 i,i6 j,i6 o,i6 p,i6 q]:List Value)) (λ_=>rfl) rfl O) (λ_ h=>h))))),(13,.s 6)]) N0 [] (λ_ L=>(L.set 1 ((pk (aQ r F J G I D M B u z H c (bG c y n d m))))).set 6 (ob ((Q 14).y 0) (([i6 3,iN n]:List Value)++rB 64 d++([u6 (m:Int),i6 b,i6 e,i6 f,i6 i,i6 j,i6 o,i6 p,i6 q,i6 (cy c y n m),i6 0]:List Value)++rB 64 z6++rB 64 (id (n:Int))++([iN y.V.l.length,i6 0]:List Value)).toArray 149)) λq6=>rF [(2,.l 6),(3,.t (tk (show Value.bool ((cy c y n m)==30)= .bool false from ALca Value.bool (by exact dP.2 (EX _ _ _ _ T)))))] 68 (rT [(1,.l 4)] 73 (rs [(3,.m (ld 0 (.map (some v)))),(5,.m (ld 4 (iN n))),(7,.m (ls 6 (rB 64 (id (n:Int))))),(9,.m (ls 4 (rB 64 d))),(11,.m (ld 4 (u6 (m:Int)))),(12,.c [] [] (yG (id (n:Int)) d m (by(simp only[LL,O,P,O];done)) (by(simp only[LL,O,P,O];done)) R)),(13,.m (mu 2 v (n:Int) vr o0 id (ir (id (n:Int)) d m)))] 2 (cV (dQ id (n:Int) (ir (id (n:Int)) d m)) v) (rs [(3,.l 0),(4,.c [1] [1] (kK r F J G I D M B u z H c (bG c y n d m))),(6,.s 6)] 6 (ob ((Q 14).y 0) (([i6 3,iN n]:List Value)++rB 64 d++([u6 (m:Int),i6 b,i6 e,i6 f,i6 i,i6 j,i6 o,i6 p,i6 q,i6 (cy c y n m),i6 0]:List Value)++rB 64 z6++rB 64 (id (n:Int))++([iN y.V.l.length,i6 (((bG c y n d m).V.l.length:Nat):Int)]:List Value)).toArray 149) (rr (λa=>[(4,.l 0),(5,.l 6),(6,.m (bs 7 1)),(7,fp yK (vs) sv 3 7 ([(⟨3,(n:Int),d,m,b,e,f,i,j,o,p,q,(cy c y n m),0,VA 64 0,(id (n:Int)),y.V.l.length,(bG c y n d m).V.l.length⟩:Sv)])),(10,.m (fz 0 3 (dd ((a 7).val 0) (sv++([(⟨3,(n:Int),d,m,b,e,f,i,j,o,p,q,(cy c y n m),0,VA 64 0,(id (n:Int)),y.V.l.length,(bG c y n d m).V.l.length⟩:Sv)]))) ((a 7).val 0) λbs h=>ar.one ((λ_ h=>h) bs h)))]) N0 [] (λa L=>(L.set 0 (ob g #[pt u 0,pt r 0,.map (some v),U,(a 7).val 0,iN sc,iN st] 114)).set 3 (dd ((a 7).val 0) (sv++([(⟨3,(n:Int),d,m,b,e,f,i,j,o,p,q,(cy c y n m),0,VA 64 0,(id (n:Int)),y.V.l.length,(bG c y n d m).V.l.length⟩:Sv)])))++[ob (B6 a) (([i6 3,iN n]:List Value)++rB 64 d++([u6 (m:Int),i6 b,i6 e,i6 f,i6 i,i6 j,i6 o,i6 p,i6 q,i6 (cy c y n m),i6 0]:List Value)++rB 64 z6++rB 64 (id (n:Int))++([iN y.V.l.length,i6 (((bG c y n d m).V.l.length:Nat):Int)]:List Value)).toArray 149]) λa=>?_)))))));exact rs [(1,.l 6),(2,.s 5)] 5 (ob (B1 x) (([i6 (cy c y n m),i6 0]:List Value)++rB 64 z6).toArray 53) (lf (.l [] [] [(a 7).val 0]) [0,1,2,3] [] [5])
def E0(c:Cf)(x:Mc)(n:Nat)(d:List UInt8):Mc:={x with x:=bG c x.x n d 0}
theorem SA(g b D I F H B J z e x G:Nat)(c:Cf)(y:Ct)(K A:Nat)(h:bF c y K A)(hA:A≤700000)(Q:K+3≤1000000000)(n:Nat)(T:n<((c.R*c.B*c.M-c.res)*c.C))(d:List UInt8)(O:d.length=64)(f i j o p q r u:Int)(id:Int→List UInt8)(S: ∀k,(id k).length=64)(sv:List Sv)(U:sv.length≤1000)(sc st v:Nat)(P vs:Value):aa VB 54 #[pt g 0,.agg (sV 3 (n:Int) d 0 f i j o p q r u)] [ob g #[pt e 0,pt b 0,.map (some v),P,vs,iN sc,iN st] 114,pk (aQ b D I F H B J z e x G c y),cV id v,dd vs sv] [0,1,2,3] (λ_=>[ob g #[pt e 0,pt b 0,.map (some v),P,vs,iN sc,iN st] 114,pk (aQ b D I F H B J z e x G c (bG c y n d 0)),cV id v,dd vs sv]) (λ_=> .agg (([i6 (cy c y n 0),i6 0]:List Value)++rB 64 z6).toArray):=by
 have R:=h.cf;exact fG Tryz.func54 λw cs=>ra (λa=>[(3,pt (B0 a) 0),(4,pt (B1 a) 0)]) (λa=>[ob (B0 a) (sV 3 (n:Int) d 0 f i j o p q r u) 50,ob (B1 a) (([i6 0,i6 0]:List Value)++rB 64 z6).toArray 53]) λa=>rr (λ_=>[(0,.m (ls 4 (sL 3 (n:Int) d 0 f i j o p q r u))),(4,.m (ld 0 (.map (some v)))),(6,.m (ld 4 (iN n))),(7,.m (mg 2 (cV id v) v (n:Int) (λ_ h=>h))),(11,.m (ld 0 (pt e 0))),(12,.c [1] [1] (kK b D I F H B J z e x G c y)),(14,.m (al 6)),(15,.s 6)]) (λM=>[(5,pt ((M 14).y 0) 0)]) [] (λM L=>L++[ob ((M 14).y 0) (([i6 3,iN n]:List Value)++rB 64 d++([u6 0,i6 f,i6 i,i6 j,i6 o,i6 p,i6 q,i6 r,i6 u,i6 0,i6 0]:List Value)++rB 64 z6++rB 64 (id (n:Int))++([iN y.V.l.length,i6 0]:List Value)).toArray 149]) λM=>r0 [(1,.l 4)] [(21,i6 3)] [] (rF [] 35 (rF [] 51 (rr (λ_=>[(3,.m (ld 0 (pt b 0))),(5,.m (ld 4 (iN n))),(7,.t (tv (Instr.sliceAt 43 (pt (B0 a) 2) none none none) (λ_=>r9 (s:=1) (N:=64) Kr Dc))),(9,.m (ld 4 (u6 0))),(10,.c [1,4] [1] (aa.at (rd':=[pk (aQ b D I F H B J z e x G c y),ob (B0 a) (sV 3 (n:Int) d 0 f i j o p q r u) 50]) (EH b D I F H B J z e x G c y _ _ h hA Q n T (.slice (some ⟨(a 0).y 0,2,none⟩) 64 64) d (by(simp only[LL,O,O];done)) 0 Om) (aK (ei (r7 (d:=0) (A:=([i6 3,iN n]:List Value)) (C:=([u6 0,i6 f,i6 i,i6 j,i6 o,i6 p,i6 q,i6 r,i6 u]:List Value)) (λ_=>rfl) rfl O) (λ_ h=>h))))),(13,.s 6)]) N0 [] (λ_ L=>(L.set 1 ((pk (aQ b D I F H B J z e x G c (bG c y n d 0))))).set 6 (ob ((M 14).y 0) (([i6 3,iN n]:List Value)++rB 64 d++([u6 0,i6 f,i6 i,i6 j,i6 o,i6 p,i6 q,i6 r,i6 u,i6 (cy c y n 0),i6 0]:List Value)++rB 64 z6++rB 64 (id (n:Int))++([iN y.V.l.length,i6 0]:List Value)).toArray 149)) λV=>rT [(2,.l 6),(3,.t (tk (show Value.bool ((cy c y n 0)==30)= .bool true from ALca Value.bool (by exact beq_iff_eq.2 rfl))))] 68 (rs [(1,.l 6),(2,.s 5)] 5 (ob (B1 a) (([i6 (cy c y n 0),i6 0]:List Value)++rB 64 z6).toArray 53) (lf ab.zero [0,1,2,3] [] [5])))))
def nb(c:Cf)(y:Ct)(f:Fa)(inj:List Ij)(sc:Nat):List Ij:=bif gO c y.V.D f==0 then inj++[⟨f.x0,f.x1,f.x2,f.x3,f.x4,f.x5,f.x6,f.x7,sc,y.V.l.length⟩] else inj
theorem SB(g o x D z C u F t n r B:Nat)(c:Cf)(y:Ct)(K A:Nat)(h:bF c y K A)(hA:A≤700000)(a b d e f i j k:Int)(inj:List Ij)(P:inj.length≤1000)(sc st J:Nat)(H vs:Value):aa VB 53 #[pt g 0,.agg #[i6 a,i6 b,i6 d,i6 e,i6 f,i6 i,i6 j,i6 k]] [ob g #[pt n 0,pt o 0,.map (some J),H,vs,iN sc,iN st] 114,pk (aQ o x D z C u F t n r B c y),fT H inj] [0,1,2] (λE=>[ob g #[pt n 0,pt o 0,.map (some J),(E.val 0),vs,iN sc,iN st] 114,pk (aQ o x D z C u F t n r B c ({y with V:=m9 c y.V ⟨a,b,d,e,f,i,j,k⟩}:Ct)),fT (E.val 0) (nb c y (⟨a,b,d,e,f,i,j,k⟩:Fa) inj sc)]) (λ_=> .agg (([i6 (gO c y.V.D ⟨a,b,d,e,f,i,j,k⟩),i6 0]:List Value)++rB 64 z6).toArray):=by
 have N:=h.cf;have O:=h.dv Om;refine fG Tryz.func53 λw cs=>ra (λp=>[(3,pt (B0 p) 0),(4,pt (B1 p) 0)]) (λp=>[ob (B0 p) #[i6 a,i6 b,i6 d,i6 e,i6 f,i6 i,i6 j,i6 k] 48,ob (B1 p) (([i6 0,i6 0]:List Value)++rB 64 z6).toArray 53]) λp=>rr (λ_=>[(0,.m (ls 3 ([i6 a,i6 b,i6 d,i6 e,i6 f,i6 i,i6 j,i6 k]))),(1,.v (pt g 0)),(2,.v (pt g 0)),(3,.v (pt g 5)),(4,.m (ld 0 (iN sc))),(5,.v (pt g 0)),(6,.v (pt g 0)),(7,.v (pt g 0)),(8,.m (ld 0 (pt n 0))),(9,.c [1] [1] (kK o x D z C u F t n r B c y)),(10,.v (.agg #[i6 a,i6 b,i6 d,i6 e,i6 f,i6 i,i6 j,i6 k,iN sc,iN y.V.l.length])),(11,.m (al 5)),(12,.s 5)]) (λG=>[(5,pt ((G 11).y 0) 0)]) [] (λG L=>L++[ob ((G 11).y 0) #[i6 a,i6 b,i6 d,i6 e,i6 f,i6 i,i6 j,i6 k,iN sc,iN y.V.l.length] 187]) λG=>rr (λ_=>[(3,.l 0),(4,.l 3),(5,.c [1] [1] (Sr o x D z C u F t n r B c y N O ⟨a,b,d,e,f,i,j,k⟩))]) (λ_=>[(6,i6 (gO c y.V.D ⟨a,b,d,e,f,i,j,k⟩))]) [] (λ_ L=>L.set 1 ((pk (aQ o x D z C u F t n r B c ({y with V:=m9 c y.V ⟨a,b,d,e,f,i,j,k⟩}:Ct))))) λQ=>r0 [] [(25,.bool ((gO c y.V.D ⟨a,b,d,e,f,i,j,k⟩)==0))] [] ?_;refine cO (gO c y.V.D ⟨a,b,d,e,f,i,j,k⟩) 0 (λM I=>?_) λM I=>?_
 ·exact rr (λq=>[(4,.l 0),(5,.l 5),(6,.m (bs 6 1)),(7,fp Sq (H) inj 2 6 ([(⟨a,b,d,e,f,i,j,k,sc,y.V.l.length⟩:Ij)])),(10,.m (fz 0 2 (fT ((q 7).val 0) (inj++([(⟨a,b,d,e,f,i,j,k,sc,y.V.l.length⟩:Ij)]))) ((q 7).val 0) λbs h=>ar.one ((λ_ h=>h) bs h)))]) N0 [] (λq L=>(L.set 0 (ob g #[pt n 0,pt o 0,.map (some J),(q 7).val 0,vs,iN sc,iN st] 114)).set 2 (fT ((q 7).val 0) (inj++([(⟨a,b,d,e,f,i,j,k,sc,y.V.l.length⟩:Ij)])))++[ob (B6 q) #[i6 a,i6 b,i6 d,i6 e,i6 f,i6 i,i6 j,i6 k,iN sc,iN y.V.l.length] 187]) λq=>rs [(2,.s 4)] 4 (ob (B1 p) (([i6 (gO c y.V.D ⟨a,b,d,e,f,i,j,k⟩),i6 0]:List Value)++rB 64 z6).toArray 53) (lf (.l [] [] [(q 7).val 0]) [0,1,2] [] [4] (hf:=by unfold nb;dsimp only;(repeat (first | rw[M] | rw[ALct]));kernel_rfl))
 exact rs [(2,.s 4)] 4 (ob (B1 p) (([i6 (gO c y.V.D ⟨a,b,d,e,f,i,j,k⟩),i6 0]:List Value)++rB 64 z6).toArray 53) (lf (.l [] [] [H]) [0,1,2] [] [4] (hf:=by unfold nb;dsimp only;(repeat (first | rw[M] | rw[ALcf]));kernel_rfl))
structure An where
 e:Int
 n:Int
 l:List UInt8
def E1(x:An):List Value:=[i6 x.e,i6 x.n]++rB 64 x.l
theorem SC(g t B G C F z H y u v D:Nat)(c:Cf)(x:Mc)(K A N:Nat)(b:eL c x K A N)(hA:A≤700000)(I:N≤1000)(k r:Int)(d:List UInt8)(J:d.length=64)(m:Nat)(e f i j n o p q:Int)(O:ed k r d m e f i j n o p q=false):aa VB 16 #[pt g 0,.agg (sV k r d m e f i j n o p q)] [pk (aP g t B G C F z H y u v D c x)] [0] (λ_=>[pk (aP g t B G C F z H y u v D c x)]) (λ_=> .agg (([i6 60,i6 0]:List Value)++rB 64 z6).toArray):=aa.pkZ Tryz.func16 λL M=>by
 obtain⟨gi,V,vs,rfl⟩:=M;refine⟨[1,2,3,4],λ_=>[pk (aQ t B G C F z H y u v D c x.x),cV x.id gi,fT V x.inj,dd vs x.sv],?_,rfl,λE=>⟨rfl,rfl,⟨_,_,_,rfl⟩⟩⟩;have h:=b.ct;have P:=h.cf;have Q:=b.il;have T:x.sv.length≤1000:=VC b.sl I;have R:x.inj.length≤1000:=VC b.jl I;have S:=b.sc;have U:=b.st;exact fG Tryz.func16 λw cs=>ra (λa=>[(3,pt (B0 a) 0),(4,pt (B1 a) 0)]) (λa=>[ob (B0 a) (sV k r d m e f i j n o p q) 50,ob (B1 a) (([i6 0,i6 0]:List Value)++rB 64 z6).toArray 53]) λa=>rT [(0,.l 5),(1,.c [] [] (aa.v ((jR k r d m e f i j n o p q (by(simp only[LL,J,J];done)))) λ_=>ALca Value.bool (show(ed k r d m e f i j n o p q)=false from(by exact O))))] 9 (rs [(1,.s 6)] 6 (ob (B1 a) (([i6 60,i6 0]:List Value)++rB 64 z6).toArray 53) (lf ab.zero [1,2,3,4] [(0,0)] [6]))
theorem SD(g a y D z C v F u b t B:Nat)(c:Cf)(x:Mc)(K A N:Nat)(f:eL c x K A N)(hA:A≤700000)(H:N≤1000)(J:K+3≤1000000000)(ln:Int)(d:List UInt8)(I:d.length=64)(m:Nat)(i j k n o p q r:Int)(O:ed 4 ln d m i j k n o p q r=true):aa VB 16 #[pt g 0,.agg (sV 4 ln d m i j k n o p q r)] [pk (aP g a y D z C v F u b t B c x)] [0] (λ_=>[pk (aP g a y D z C v F u b t B c ({x with x:=kJ c x.x,sc:=x.sc+1,st:=x.st+1}:Mc))]) (λ_=> .agg (([i6 (cr (bL c (ke c x.x) (a9 (ke c x.x) x.x.U))),iN x.x.U]:List Value)++rB 64 z6).toArray):=aa.pkZ Tryz.func16 λL M=>by
 obtain⟨gi,G,vs,rfl⟩:=M;refine⟨[0,1,2,3,4],λ_=>[ob g #[pt b 0,pt a 0,.map (some gi),G,vs,i6 ((x.sc+1:Nat):Int),i6 ((x.st+1:Nat):Int)] 114,pk (aQ a y D z C v F u b t B c (kJ c x.x)),cV x.id gi,fT G x.inj,dd vs x.sv],?_,rfl,λE=>⟨rfl,rfl,⟨_,_,_,rfl⟩⟩⟩;have h:=f.ct;have P:=h.cf;have Q:=f.il;have T:x.sv.length≤1000:=VC f.sl H;have R:x.inj.length≤1000:=VC f.jl H;have S:=f.sc;have U:=f.st;exact fG Tryz.func16 λw cs=>ra (λe=>[(3,pt (B0 e) 0),(4,pt (B1 e) 0)]) (λe=>[ob (B0 e) (sV 4 ln d m i j k n o p q r) 50,ob (B1 e) (([i6 0,i6 0]:List Value)++rB 64 z6).toArray 53]) λe=>rF [(0,.l 5),(1,.c [] [] (aa.v ((jR 4 ln d m i j k n o p q r (by(simp only[LL,I,I];done)))) λ_=>ALca Value.bool (show(ed 4 ln d m i j k n o p q r)=true from(by exact O))))] 9 (rs [(3,.l 0),(4,ad x.st 1),(7,.s 0)] 0 (ob g #[pt b 0,pt a 0,.map (some gi),G,vs,iN x.sc,i6 ((x.st+1:Nat):Int)] 114) (r0 [(1,.l 5)] [(19,i6 4)] [] (rT [] 20 (rs [(3,.l 0),(4,ad x.sc 1),(7,.s 0)] 0 (ob g #[pt b 0,pt a 0,.map (some gi),G,vs,i6 ((x.sc+1:Nat):Int),i6 ((x.st+1:Nat):Int)] 114) (rr (λ_=>[(3,.l 0),(4,.c [1] [1] (RG a y D z C v F u b t B c x.x _ _ h hA J))]) (λ_=>[(5,iN x.x.U),(6,i6 (cr (bL c (ke c x.x) (a9 (ke c x.x) x.x.U))))]) [] (λ_ L=>L.set 1 ((pk (aQ a y D z C v F u b t B c (kJ c x.x))))) λV=>rs [(3,.s 6)] 6 (ob (B1 e) (([i6 (cr (bL c (ke c x.x) (a9 (ke c x.x) x.x.U))),iN x.x.U]:List Value)++rB 64 z6).toArray 53) (lf ab.zero [0,1,2,3,4] [] [6]))))))
theorem SE(g a y D z C v F u b t B:Nat)(c:Cf)(x:Mc)(K A N:Nat)(e:eL c x K A N)(hA:A≤700000)(H:N≤1000)(J:K+260≤1000000000)(P:x.x.s.r.j.A≠0)(ln:Int)(d:List UInt8)(I:d.length=64)(m:Nat)(i j k n o p q r:Int)(O:ed 5 ln d m i j k n o p q r=true):aa VB 16 #[pt g 0,.agg (sV 5 ln d m i j k n o p q r)] [pk (aP g a y D z C v F u b t B c x)] [0] (λ_=>[pk (aP g a y D z C v F u b t B c ({x with x:=iZ c x.x,st:=x.st+1}:Mc))]) (λ_=> .agg (([i6 0,i6 0]:List Value)++rB 64 z6).toArray):=aa.pkZ Tryz.func16 λL M=>by
 obtain⟨gi,G,vs,rfl⟩:=M;refine⟨[0,1,2,3,4],λ_=>[ob g #[pt b 0,pt a 0,.map (some gi),G,vs,iN x.sc,i6 ((x.st+1:Nat):Int)] 114,pk (aQ a y D z C v F u b t B c (iZ c x.x)),cV x.id gi,fT G x.inj,dd vs x.sv],?_,rfl,λE=>⟨rfl,rfl,⟨_,_,_,rfl⟩⟩⟩;have h:=e.ct;have Q:=h.cf;have R:=e.il;have U:x.sv.length≤1000:=VC e.sl H;have S:x.inj.length≤1000:=VC e.jl H;have T:=e.sc;have V:=e.st;exact fG Tryz.func16 λw cs=>ra (λf=>[(3,pt (B0 f) 0),(4,pt (B1 f) 0)]) (λf=>[ob (B0 f) (sV 5 ln d m i j k n o p q r) 50,ob (B1 f) (([i6 0,i6 0]:List Value)++rB 64 z6).toArray 53]) λf=>rF [(0,.l 5),(1,.c [] [] (aa.v ((jR 5 ln d m i j k n o p q r (by(simp only[LL,I,I];done)))) λ_=>ALca Value.bool (show(ed 5 ln d m i j k n o p q r)=true from(by exact O))))] 9 (rs [(3,.l 0),(4,ad x.st 1),(7,.s 0)] 0 (ob g #[pt b 0,pt a 0,.map (some gi),G,vs,iN x.sc,i6 ((x.st+1:Nat):Int)] 114) (r0 [(1,.l 5)] [(19,i6 5)] [] (rF [] 20 (rT [] 40 (rs [(3,.l 0),(4,.c [1] [1] (RR a y D z C v F u b t B c x.x _ _ h hA J P)),(6,.s 6)] 1 ((pk (aQ a y D z C v F u b t B c (iZ c x.x)))) (lf ab.zero [0,1,2,3,4] [] [6]))))))
theorem SF(g b y D z C v F u e t B:Nat)(c:Cf)(x:Mc)(K A N:Nat)(f:eL c x K A N)(hA:A≤700000)(H:N≤1000)(O:x.x.s.r.j.A=0)(ln:Int)(d:List UInt8)(I:d.length=64)(m:Nat)(i j k n o p q r:Int)(M:ed 5 ln d m i j k n o p q r=true):aa VB 16 #[pt g 0,.agg (sV 5 ln d m i j k n o p q r)] [pk (aP g b y D z C v F u e t B c x)] [0] (λ_=>[pk (aP g b y D z C v F u e t B c ({x with st:=x.st+1}:Mc))]) (λ_=> .agg (([i6 51,i6 0]:List Value)++rB 64 z6).toArray):=aa.pkZ Tryz.func16 λL J=>by
 obtain⟨gi,G,vs,rfl⟩:=J;refine⟨[0,1,2,3,4],λ_=>[ob g #[pt e 0,pt b 0,.map (some gi),G,vs,iN x.sc,i6 ((x.st+1:Nat):Int)] 114,pk (aQ b y D z C v F u e t B c x.x),cV x.id gi,fT G x.inj,dd vs x.sv],?_,rfl,λE=>⟨rfl,rfl,⟨_,_,_,rfl⟩⟩⟩;have h:=f.ct;have P:=h.cf;have Q:=f.il;have T:x.sv.length≤1000:=VC f.sl H;have R:x.inj.length≤1000:=VC f.jl H;have S:=f.sc;have U:=f.st;exact fG Tryz.func16 λw cs=>ra (λa=>[(3,pt (B0 a) 0),(4,pt (B1 a) 0)]) (λa=>[ob (B0 a) (sV 5 ln d m i j k n o p q r) 50,ob (B1 a) (([i6 0,i6 0]:List Value)++rB 64 z6).toArray 53]) λa=>rF [(0,.l 5),(1,.c [] [] (aa.v ((jR 5 ln d m i j k n o p q r (by(simp only[LL,I,I];done)))) λ_=>ALca Value.bool (show(ed 5 ln d m i j k n o p q r)=true from(by exact M))))] 9 (rs [(3,.l 0),(4,ad x.st 1),(7,.s 0)] 0 (ob g #[pt e 0,pt b 0,.map (some gi),G,vs,iN x.sc,i6 ((x.st+1:Nat):Int)] 114) (r0 [(1,.l 5)] [(19,i6 5)] [] (rF [] 20 (rT [] 40 (rs [(3,.l 0),(4,.c [1] [1] (RQ b y D z C v F u e t B c x.x _ _ h O)),(6,.s 6)] 6 (ob (B1 a) (([i6 51,i6 0]:List Value)++rB 64 z6).toArray 53) (lf ab.zero [0,1,2,3,4] [] [6]))))))
theorem SG(g a y D z C v F u b t B:Nat)(c:Cf)(x:Mc)(K A N:Nat)(e:eL c x K A N)(hA:A≤700000)(H:N≤1000)(ht:x.x.s.time<1099511627776)(ln:Int)(d:List UInt8)(I:d.length=64)(m:Nat)(i j k n o p q r:Int)(M:ed 6 ln d m i j k n o p q r=true):aa VB 16 #[pt g 0,.agg (sV 6 ln d m i j k n o p q r)] [pk (aP g a y D z C v F u b t B c x)] [0] (λ_=>[pk (aP g a y D z C v F u b t B c ({x with x:=pU x.x,st:=x.st+1}:Mc))]) (λ_=> .agg (([i6 0,i6 0]:List Value)++rB 64 z6).toArray):=aa.pkZ Tryz.func16 λL J=>by
 obtain⟨gi,G,vs,rfl⟩:=J;refine⟨[0,1,2,3,4],λ_=>[ob g #[pt b 0,pt a 0,.map (some gi),G,vs,iN x.sc,i6 ((x.st+1:Nat):Int)] 114,pk (aQ a y D z C v F u b t B c (pU x.x)),cV x.id gi,fT G x.inj,dd vs x.sv],?_,rfl,λE=>⟨rfl,rfl,⟨_,_,_,rfl⟩⟩⟩;have h:=e.ct;have O:=h.cf;have P:=e.il;have S:x.sv.length≤1000:=VC e.sl H;have Q:x.inj.length≤1000:=VC e.jl H;have R:=e.sc;have T:=e.st;exact fG Tryz.func16 λw cs=>ra (λf=>[(3,pt (B0 f) 0),(4,pt (B1 f) 0)]) (λf=>[ob (B0 f) (sV 6 ln d m i j k n o p q r) 50,ob (B1 f) (([i6 0,i6 0]:List Value)++rB 64 z6).toArray 53]) λf=>rF [(0,.l 5),(1,.c [] [] (aa.v ((jR 6 ln d m i j k n o p q r (by(simp only[LL,I,I];done)))) λ_=>ALca Value.bool (show(ed 6 ln d m i j k n o p q r)=true from(by exact M))))] 9 (rs [(3,.l 0),(4,ad x.st 1),(7,.s 0)] 0 (ob g #[pt b 0,pt a 0,.map (some gi),G,vs,iN x.sc,i6 ((x.st+1:Nat):Int)] 114) (r0 [(1,.l 5)] [(19,i6 6)] [] (rF [] 20 (rF [] 40 (rT [] 48 (rs [(3,.l 0),(4,.c [1] [1] (RO a y D z C v F u b t B c x.x _ _ h hA ht)),(6,.s 6)] 1 ((pk (aQ a y D z C v F u b t B c (pU x.x)))) (lf ab.zero [0,1,2,3,4] [] [6])))))))
theorem SH(g a y D z C v F u b t B:Nat)(c:Cf)(x:Mc)(K A N:Nat)(f:eL c x K A N)(hA:A≤700000)(H:N≤1000)(ln:Int)(d:List UInt8)(I:d.length=64)(m:Nat)(i j k n o p q r:Int)(M:ed 7 ln d m i j k n o p q r=true):aa VB 16 #[pt g 0,.agg (sV 7 ln d m i j k n o p q r)] [pk (aP g a y D z C v F u b t B c x)] [0] (λ_=>[pk (aP g a y D z C v F u b t B c ({x with x:=pV x.x,st:=x.st+1}:Mc))]) (λ_=> .agg (([i6 0,iN x.x.s.g.l.length]:List Value)++rB 64 z6).toArray):=aa.pkZ Tryz.func16 λL J=>by
 obtain⟨gi,G,vs,rfl⟩:=J;refine⟨[0,1,2,3,4],λ_=>[ob g #[pt b 0,pt a 0,.map (some gi),G,vs,iN x.sc,i6 ((x.st+1:Nat):Int)] 114,pk (aQ a y D z C v F u b t B c (pV x.x)),cV x.id gi,fT G x.inj,dd vs x.sv],?_,rfl,λE=>⟨rfl,rfl,⟨_,_,_,rfl⟩⟩⟩;have h:=f.ct;have O:=h.cf;have P:=f.il;have S:x.sv.length≤1000:=VC f.sl H;have Q:x.inj.length≤1000:=VC f.jl H;have R:=f.sc;have T:=f.st;exact fG Tryz.func16 λw cs=>ra (λe=>[(3,pt (B0 e) 0),(4,pt (B1 e) 0)]) (λe=>[ob (B0 e) (sV 7 ln d m i j k n o p q r) 50,ob (B1 e) (([i6 0,i6 0]:List Value)++rB 64 z6).toArray 53]) λe=>rF [(0,.l 5),(1,.c [] [] (aa.v ((jR 7 ln d m i j k n o p q r (by(simp only[LL,I,I];done)))) λ_=>ALca Value.bool (show(ed 7 ln d m i j k n o p q r)=true from(by exact M))))] 9 (rs [(3,.l 0),(4,ad x.st 1),(7,.s 0)] 0 (ob g #[pt b 0,pt a 0,.map (some gi),G,vs,iN x.sc,i6 ((x.st+1:Nat):Int)] 114) (r0 [(1,.l 5)] [(19,i6 7)] [] (rF [] 20 (rF [] 40 (rF [] 48 (rT [] 56 (rr (λ_=>[(3,.l 0),(4,.c [1] [1] (RP a y D z C v F u b t B c x.x _ _ h hA)),(6,.s 6)]) N0 [] (λ_ L=>(L.set 1 ((pk (aQ a y D z C v F u b t B c (pV x.x))))).set 6 (ob (B1 e) (([i6 0,iN x.x.s.g.l.length]:List Value)++rB 64 z6).toArray 53)) λU=>lf ab.zero [0,1,2,3,4] [] [6])))))))
theorem SI(g p z F B D y G v q u C:Nat)(c:Cf)(x:Mc)(K A N:Nat)(t:eL c x K A N)(hA:A≤700000)(I:N≤1000)(ln:Int)(d:List UInt8)(J:d.length=64)(m:Nat)(a b e f i j k n:Int)(P:ed 8 ln d m a b e f i j k n=true):aa VB 16 #[pt g 0,.agg (sV 8 ln d m a b e f i j k n)] [pk (aP g p z F B D y G v q u C c x)] [0] (λ_=>[pk (aP g p z F B D y G v q u C c ({x with x:={x.x with V:=m9 c x.x.V (⟨a,b,e,f,i,j,k,n⟩:Fa)},inj:=nb c x.x (⟨a,b,e,f,i,j,k,n⟩:Fa) x.inj x.sc,st:=x.st+1}:Mc))]) (λ_=> .agg (([i6 (gO c x.x.V.D ⟨a,b,e,f,i,j,k,n⟩),i6 0]:List Value)++rB 64 z6).toArray):=aa.pkZ Tryz.func16 λL O=>by
 obtain⟨gi,M,vs,rfl⟩:=O;refine⟨[0,1,2,3,4],λE=>[ob g #[pt q 0,pt p 0,.map (some gi),(E.val 0),vs,iN x.sc,i6 ((x.st+1:Nat):Int)] 114,pk (aQ p z F B D y G v q u C c ({x.x with V:=m9 c x.x.V ⟨a,b,e,f,i,j,k,n⟩}:Ct)),cV x.id gi,fT (E.val 0) (nb c x.x (⟨a,b,e,f,i,j,k,n⟩:Fa) x.inj x.sc),dd vs x.sv],?_,rfl,λE=>⟨rfl,rfl,⟨_,_,_,rfl⟩⟩⟩;have h:=t.ct;have Q:=h.cf;have R:=t.il;have T:x.sv.length≤1000:=VC t.sl I;have H:x.inj.length≤1000:=VC t.jl I;have S:=t.sc;have U:=t.st;exact fG Tryz.func16 λw cs=>ra (λr=>[(3,pt (B0 r) 0),(4,pt (B1 r) 0)]) (λr=>[ob (B0 r) (sV 8 ln d m a b e f i j k n) 50,ob (B1 r) (([i6 0,i6 0]:List Value)++rB 64 z6).toArray 53]) λr=>rF [(0,.l 5),(1,.c [] [] (aa.v ((jR 8 ln d m a b e f i j k n (by(simp only[LL,J,J];done)))) λ_=>ALca Value.bool (show(ed 8 ln d m a b e f i j k n)=true from(by exact P))))] 9 (rs [(3,.l 0),(4,ad x.st 1),(7,.s 0)] 0 (ob g #[pt q 0,pt p 0,.map (some gi),M,vs,iN x.sc,i6 ((x.st+1:Nat):Int)] 114) (r0 [(1,.l 5)] [(19,i6 8)] [] (rF [] 20 (rF [] 40 (rF [] 48 (rF [] 56 (rT [] 64 (rr (λ_=>[(2,.l 5),(3,.c [0,1,3] [0,1,3] (SB g p z F B D y G v q u C c x.x _ _ h hA a b e f i j k n x.inj H x.sc (x.st+1) gi M vs)),(4,.s 6)]) N0 [] (λo L=>(((L.set 0 (ob g #[pt q 0,pt p 0,.map (some gi),((o 3).val 0),vs,iN x.sc,i6 ((x.st+1:Nat):Int)] 114)).set 1 ((pk (aQ p z F B D y G v q u C c ({x.x with V:=m9 c x.x.V ⟨a,b,e,f,i,j,k,n⟩}:Ct))))).set 3 (fT ((o 3).val 0) (nb c x.x (⟨a,b,e,f,i,j,k,n⟩:Fa) x.inj x.sc))).set 6 (ob (B1 r) (([i6 (gO c x.x.V.D ⟨a,b,e,f,i,j,k,n⟩),i6 0]:List Value)++rB 64 z6).toArray 53)) λo=>lf (.l [] [] [((o 3).val 0)]) [0,1,2,3,4] [] [6]))))))))
theorem SJ(g q B G C F z H y r v D:Nat)(c:Cf)(x:Mc)(K A N:Nat)(u:eL c x K A N)(hA:A≤700000)(P:N≤1000)(Q:K+3≤1000000000)(n:Nat)(W:n<((c.R*c.B*c.M-c.res)*c.C))(d:List UInt8)(J:d.length=64)(m:Nat)(a b e f i j k o:Int)(S:ed 1 (n:Int) d m a b e f i j k o=true):aa VB 16 #[pt g 0,.agg (sV 1 (n:Int) d m a b e f i j k o)] [pk (aP g q B G C F z H y r v D c x)] [0] (λ_=>[pk (aP g q B G C F z H y r v D c (EZ c ({x with st:=x.st+1}:Mc) n (⟨1,(n:Int),d,m,a,b,e,f,i,j,k,o⟩:St):Mc))]) (λ_=> .agg (([i6 (cr (bL c x.x (a9 x.x n))),i6 0]:List Value)++rB 64 (cZ c x.x (a9 x.x n))).toArray):=aa.pkZ Tryz.func16 λL R=>by
 obtain⟨gi,I,vs,rfl⟩:=R;refine⟨[0,1,2,3,4],λE=>[ob g #[pt r 0,pt q 0,.map (some gi),I,(E.val 0),iN x.sc,i6 ((x.st+1:Nat):Int)] 114,pk (aQ q B G C F z H y r v D c (c0 c x.x n c.W)),cV x.id gi,fT I x.inj,dd (E.val 0) (x.sv++([(⟨1,(n:Int),d,m,a,b,e,f,i,j,k,o,(cr (bL c x.x (a9 x.x n))),0,cZ c x.x (a9 x.x n),(x.id (n:Int)),x.x.V.l.length,(c0 c x.x n c.W).V.l.length⟩:Sv)]))],?_,rfl,λE=>⟨rfl,rfl,⟨_,_,_,rfl⟩⟩⟩;have h:=u.ct;have T:=h.cf;have M:=u.il;have O:x.sv.length≤1000:=VC u.sl P;have U:x.inj.length≤1000:=VC u.jl P;have X:=u.sc;have Y:=u.st;exact fG Tryz.func16 λw cs=>ra (λt=>[(3,pt (B0 t) 0),(4,pt (B1 t) 0)]) (λt=>[ob (B0 t) (sV 1 (n:Int) d m a b e f i j k o) 50,ob (B1 t) (([i6 0,i6 0]:List Value)++rB 64 z6).toArray 53]) λt=>rF [(0,.l 5),(1,.c [] [] (aa.v ((jR 1 (n:Int) d m a b e f i j k o (by(simp only[LL,J,J];done)))) λ_=>ALca Value.bool (show(ed 1 (n:Int) d m a b e f i j k o)=true from(by exact S))))] 9 (rs [(3,.l 0),(4,ad x.st 1),(7,.s 0)] 0 (ob g #[pt r 0,pt q 0,.map (some gi),I,vs,iN x.sc,i6 ((x.st+1:Nat):Int)] 114) (r0 [(1,.l 5)] [(19,i6 1)] [] (rF [] 20 (rF [] 40 (rF [] 48 (rF [] 56 (rF [] 64 (rr (λ_=>[(1,.l 5),(2,.c [0,1,2,4] [0,1,2,4] (Ss g q B G C F z H y r v D c x.x _ _ h hA Q n W d (by(simp only[LL,J,J];done)) m a b e f i j k o x.id M x.sv O x.sc (x.st+1) gi I vs)),(3,.s 6)]) N0 [] (λp L=>(((L.set 0 (ob g #[pt r 0,pt q 0,.map (some gi),I,((p 2).val 0),iN x.sc,i6 ((x.st+1:Nat):Int)] 114)).set 1 ((pk (aQ q B G C F z H y r v D c (c0 c x.x n c.W))))).set 4 (dd ((p 2).val 0) (x.sv++([(⟨1,(n:Int),d,m,a,b,e,f,i,j,k,o,(cr (bL c x.x (a9 x.x n))),0,cZ c x.x (a9 x.x n),(x.id (n:Int)),x.x.V.l.length,(c0 c x.x n c.W).V.l.length⟩:Sv)])))).set 6 (ob (B1 t) (([i6 (cr (bL c x.x (a9 x.x n))),i6 0]:List Value)++rB 64 (cZ c x.x (a9 x.x n))).toArray 53)) λp=>lf (.l [] [] [((p 2).val 0)]) [0,1,2,3,4] [] [6]))))))))
theorem SK(g q B G C F z H y r v D:Nat)(c:Cf)(x:Mc)(K A N:Nat)(u:eL c x K A N)(hA:A≤700000)(P:N≤1000)(Q:K+3≤1000000000)(n:Nat)(W:n<((c.R*c.B*c.M-c.res)*c.C))(d:List UInt8)(J:d.length=64)(m:Nat)(a b e f i j k o:Int)(S:ed 2 (n:Int) d m a b e f i j k o=true):aa VB 16 #[pt g 0,.agg (sV 2 (n:Int) d m a b e f i j k o)] [pk (aP g q B G C F z H y r v D c x)] [0] (λ_=>[pk (aP g q B G C F z H y r v D c (vt c ({x with st:=x.st+1}:Mc) n 18446744073709551615 (⟨2,(n:Int),d,m,a,b,e,f,i,j,k,o⟩:St):Mc))]) (λ_=> .agg (([i6 (cy c x.x n 18446744073709551615),i6 0]:List Value)++rB 64 z6).toArray):=aa.pkZ Tryz.func16 λL R=>by
 obtain⟨gi,I,vs,rfl⟩:=R;refine⟨[0,1,2,3,4],λE=>[ob g #[pt r 0,pt q 0,.map (some gi),I,(E.val 0),iN x.sc,i6 ((x.st+1:Nat):Int)] 114,pk (aQ q B G C F z H y r v D c (bG c x.x n d 18446744073709551615)),cV (dQ x.id (n:Int) (ir (x.id (n:Int)) d 18446744073709551615)) gi,fT I x.inj,dd (E.val 0) (x.sv++([(⟨2,(n:Int),d,m,a,b,e,f,i,j,k,o,(cy c x.x n 18446744073709551615),0,VA 64 0,(x.id (n:Int)),x.x.V.l.length,(bG c x.x n d 18446744073709551615).V.l.length⟩:Sv)]))],?_,rfl,λE=>⟨rfl,rfl,⟨_,_,_,rfl⟩⟩⟩;have h:=u.ct;have T:=h.cf;have M:=u.il;have O:x.sv.length≤1000:=VC u.sl P;have U:x.inj.length≤1000:=VC u.jl P;have X:=u.sc;have Y:=u.st;exact fG Tryz.func16 λw cs=>ra (λt=>[(3,pt (B0 t) 0),(4,pt (B1 t) 0)]) (λt=>[ob (B0 t) (sV 2 (n:Int) d m a b e f i j k o) 50,ob (B1 t) (([i6 0,i6 0]:List Value)++rB 64 z6).toArray 53]) λt=>rF [(0,.l 5),(1,.c [] [] (aa.v ((jR 2 (n:Int) d m a b e f i j k o (by(simp only[LL,J,J];done)))) λ_=>ALca Value.bool (show(ed 2 (n:Int) d m a b e f i j k o)=true from(by exact S))))] 9 (rs [(3,.l 0),(4,ad x.st 1),(7,.s 0)] 0 (ob g #[pt r 0,pt q 0,.map (some gi),I,vs,iN x.sc,i6 ((x.st+1:Nat):Int)] 114) (r0 [(1,.l 5)] [(19,i6 2)] [] (rF [] 20 (rF [] 40 (rF [] 48 (rF [] 56 (rF [] 64 (rr (λ_=>[(1,.l 5),(2,.c [0,1,2,4] [0,1,2,4] (Sy g q B G C F z H y r v D c x.x _ _ h hA Q n W d (by(simp only[LL,J,J];done)) m a b e f i j k o x.id M x.sv O x.sc (x.st+1) gi I vs)),(3,.s 6)]) N0 [] (λp L=>((((L.set 0 (ob g #[pt r 0,pt q 0,.map (some gi),I,((p 2).val 0),iN x.sc,i6 ((x.st+1:Nat):Int)] 114)).set 1 ((pk (aQ q B G C F z H y r v D c (bG c x.x n d 18446744073709551615))))).set 2 (cV (dQ x.id (n:Int) (ir (x.id (n:Int)) d 18446744073709551615)) gi)).set 4 (dd ((p 2).val 0) (x.sv++([(⟨2,(n:Int),d,m,a,b,e,f,i,j,k,o,(cy c x.x n 18446744073709551615),0,VA 64 0,(x.id (n:Int)),x.x.V.l.length,(bG c x.x n d 18446744073709551615).V.l.length⟩:Sv)])))).set 6 (ob (B1 t) (([i6 (cy c x.x n 18446744073709551615),i6 0]:List Value)++rB 64 z6).toArray 53)) λp=>lf (.l [] [] [((p 2).val 0)]) [0,1,2,3,4] [] [6]))))))))
theorem SL(g q B G C F z H y r v D:Nat)(c:Cf)(x:Mc)(K A N:Nat)(u:eL c x K A N)(hA:A≤700000)(R:N≤1000)(S:K+3≤1000000000)(n:Nat)(Y:n<((c.R*c.B*c.M-c.res)*c.C))(d:List UInt8)(J:d.length=64)(m:Nat)(a b e f i j k o:Int)(U:ed 3 (n:Int) d m a b e f i j k o=true)(P:m<18446744073709551616)(O:m≠0):aa VB 16 #[pt g 0,.agg (sV 3 (n:Int) d m a b e f i j k o)] [pk (aP g q B G C F z H y r v D c x)] [0] (λ_=>[pk (aP g q B G C F z H y r v D c (vt c ({x with st:=x.st+1}:Mc) n m (⟨3,(n:Int),d,m,a,b,e,f,i,j,k,o⟩:St):Mc))]) (λ_=> .agg (([i6 (cy c x.x n m),i6 0]:List Value)++rB 64 z6).toArray):=aa.pkZ Tryz.func16 λL T=>by
 obtain⟨gi,I,vs,rfl⟩:=T;refine⟨[0,1,2,3,4],λE=>[ob g #[pt r 0,pt q 0,.map (some gi),I,(E.val 0),iN x.sc,i6 ((x.st+1:Nat):Int)] 114,pk (aQ q B G C F z H y r v D c (bG c x.x n d m)),cV (dQ x.id (n:Int) (ir (x.id (n:Int)) d m)) gi,fT I x.inj,dd (E.val 0) (x.sv++([(⟨3,(n:Int),d,m,a,b,e,f,i,j,k,o,(cy c x.x n m),0,VA 64 0,(x.id (n:Int)),x.x.V.l.length,(bG c x.x n d m).V.l.length⟩:Sv)]))],?_,rfl,λE=>⟨rfl,rfl,⟨_,_,_,rfl⟩⟩⟩;have h:=u.ct;have W:=h.cf;have M:=u.il;have Q:x.sv.length≤1000:=VC u.sl R;have X:x.inj.length≤1000:=VC u.jl R;have Z:=u.sc;have hst:=u.st;exact fG Tryz.func16 λw cs=>ra (λt=>[(3,pt (B0 t) 0),(4,pt (B1 t) 0)]) (λt=>[ob (B0 t) (sV 3 (n:Int) d m a b e f i j k o) 50,ob (B1 t) (([i6 0,i6 0]:List Value)++rB 64 z6).toArray 53]) λt=>rF [(0,.l 5),(1,.c [] [] (aa.v ((jR 3 (n:Int) d m a b e f i j k o (by(simp only[LL,J,J];done)))) λ_=>ALca Value.bool (show(ed 3 (n:Int) d m a b e f i j k o)=true from(by exact U))))] 9 (rs [(3,.l 0),(4,ad x.st 1),(7,.s 0)] 0 (ob g #[pt r 0,pt q 0,.map (some gi),I,vs,iN x.sc,i6 ((x.st+1:Nat):Int)] 114) (r0 [(1,.l 5)] [(19,i6 3)] [] (rF [] 20 (rF [] 40 (rF [] 48 (rF [] 56 (rF [] 64 (rr (λ_=>[(1,.l 5),(2,.c [0,1,2,4] [0,1,2,4] (Sz g q B G C F z H y r v D c x.x _ _ h hA S n Y d (by(simp only[LL,J,J];done)) m a b e f i j k o P O x.id M x.sv Q x.sc (x.st+1) gi I vs)),(3,.s 6)]) N0 [] (λp L=>((((L.set 0 (ob g #[pt r 0,pt q 0,.map (some gi),I,((p 2).val 0),iN x.sc,i6 ((x.st+1:Nat):Int)] 114)).set 1 ((pk (aQ q B G C F z H y r v D c (bG c x.x n d m))))).set 2 (cV (dQ x.id (n:Int) (ir (x.id (n:Int)) d m)) gi)).set 4 (dd ((p 2).val 0) (x.sv++([(⟨3,(n:Int),d,m,a,b,e,f,i,j,k,o,(cy c x.x n m),0,VA 64 0,(x.id (n:Int)),x.x.V.l.length,(bG c x.x n d m).V.l.length⟩:Sv)])))).set 6 (ob (B1 t) (([i6 (cy c x.x n m),i6 0]:List Value)++rB 64 z6).toArray 53)) λp=>lf (.l [] [] [((p 2).val 0)]) [0,1,2,3,4] [] [6]))))))))
theorem SM(g a y D z C v F u b t B:Nat)(c:Cf)(x:Mc)(K A N:Nat)(r:eL c x K A N)(hA:A≤700000)(M:N≤1000)(O:K+3≤1000000000)(n:Nat)(T:n<((c.R*c.B*c.M-c.res)*c.C))(d:List UInt8)(G:d.length=64)(f i j k m o p q:Int)(Q:ed 3 (n:Int) d 0 f i j k m o p q=true):aa VB 16 #[pt g 0,.agg (sV 3 (n:Int) d 0 f i j k m o p q)] [pk (aP g a y D z C v F u b t B c x)] [0] (λ_=>[pk (aP g a y D z C v F u b t B c (E0 c ({x with st:=x.st+1}:Mc) n d:Mc))]) (λ_=> .agg (([i6 (cy c x.x n 0),i6 0]:List Value)++rB 64 z6).toArray):=aa.pkZ Tryz.func16 λL P=>by
 obtain⟨gi,H,vs,rfl⟩:=P;refine⟨[0,1,2,3,4],λ_=>[ob g #[pt b 0,pt a 0,.map (some gi),H,vs,iN x.sc,i6 ((x.st+1:Nat):Int)] 114,pk (aQ a y D z C v F u b t B c (bG c x.x n d 0)),cV x.id gi,fT H x.inj,dd vs x.sv],?_,rfl,λE=>⟨rfl,rfl,⟨_,_,_,rfl⟩⟩⟩;have h:=r.ct;have R:=h.cf;have I:=r.il;have J:x.sv.length≤1000:=VC r.sl M;have S:x.inj.length≤1000:=VC r.jl M;have U:=r.sc;have V:=r.st;exact fG Tryz.func16 λw cs=>ra (λe=>[(3,pt (B0 e) 0),(4,pt (B1 e) 0)]) (λe=>[ob (B0 e) (sV 3 (n:Int) d 0 f i j k m o p q) 50,ob (B1 e) (([i6 0,i6 0]:List Value)++rB 64 z6).toArray 53]) λe=>rF [(0,.l 5),(1,.c [] [] (aa.v ((jR 3 (n:Int) d 0 f i j k m o p q (by(simp only[LL,G,G];done)))) λ_=>ALca Value.bool (show(ed 3 (n:Int) d 0 f i j k m o p q)=true from(by exact Q))))] 9 (rs [(3,.l 0),(4,ad x.st 1),(7,.s 0)] 0 (ob g #[pt b 0,pt a 0,.map (some gi),H,vs,iN x.sc,i6 ((x.st+1:Nat):Int)] 114) (r0 [(1,.l 5)] [(19,i6 3)] [] (rF [] 20 (rF [] 40 (rF [] 48 (rF [] 56 (rF [] 64 (rr (λ_=>[(1,.l 5),(2,.c [0,1,2,4] [0,1,2,4] (SA g a y D z C v F u b t B c x.x _ _ h hA O n T d (by(simp only[LL,G,G];done)) f i j k m o p q x.id I x.sv J x.sc (x.st+1) gi H vs)),(3,.s 6)]) N0 [] (λ_ L=>(L.set 1 ((pk (aQ a y D z C v F u b t B c (bG c x.x n d 0))))).set 6 (ob (B1 e) (([i6 (cy c x.x n 0),i6 0]:List Value)++rB 64 z6).toArray 53)) λW=>lf ab.zero [0,1,2,3,4] [] [6]))))))))
theorem SN(g p y D z C v F u q t B:Nat)(c:Cf)(x:Mc)(K A N:Nat)(r:eL c x K A N)(hA:A≤700000)(M:N≤1000)(O:K+3≤1000000000)(ln:Int)(T:bR ln ((((c.R*c.B*c.M-c.res)*c.C):Nat):Int)=false)(d:List UInt8)(G:d.length=64)(m:Nat)(b e f i j k n o:Int)(Q:ed 1 ln d m b e f i j k n o=true):aa VB 16 #[pt g 0,.agg (sV 1 ln d m b e f i j k n o)] [pk (aP g p y D z C v F u q t B c x)] [0] (λ_=>[pk (aP g p y D z C v F u q t B c ({x with st:=x.st+1}:Mc))]) (λ_=> .agg (([i6 30,i6 0]:List Value)++rB 64 z6).toArray):=aa.pkZ Tryz.func16 λL P=>by
 obtain⟨gi,H,vs,rfl⟩:=P;refine⟨[0,1,2,3,4],λ_=>[ob g #[pt q 0,pt p 0,.map (some gi),H,vs,iN x.sc,i6 ((x.st+1:Nat):Int)] 114,pk (aQ p y D z C v F u q t B c x.x),cV x.id gi,fT H x.inj,dd vs x.sv],?_,rfl,λE=>⟨rfl,rfl,⟨_,_,_,rfl⟩⟩⟩;have h:=r.ct;have R:=h.cf;have I:=r.il;have J:x.sv.length≤1000:=VC r.sl M;have S:x.inj.length≤1000:=VC r.jl M;have U:=r.sc;have V:=r.st;exact fG Tryz.func16 λw cs=>ra (λa=>[(3,pt (B0 a) 0),(4,pt (B1 a) 0)]) (λa=>[ob (B0 a) (sV 1 ln d m b e f i j k n o) 50,ob (B1 a) (([i6 0,i6 0]:List Value)++rB 64 z6).toArray 53]) λa=>rF [(0,.l 5),(1,.c [] [] (aa.v ((jR 1 ln d m b e f i j k n o (by(simp only[LL,G,G];done)))) λ_=>ALca Value.bool (show(ed 1 ln d m b e f i j k n o)=true from(by exact Q))))] 9 (rs [(3,.l 0),(4,ad x.st 1),(7,.s 0)] 0 (ob g #[pt q 0,pt p 0,.map (some gi),H,vs,iN x.sc,i6 ((x.st+1:Nat):Int)] 114) (r0 [(1,.l 5)] [(19,i6 1)] [] (rF [] 20 (rF [] 40 (rF [] 48 (rF [] 56 (rF [] 64 (rs [(1,.l 5),(2,.c [0,1,2,4] [0,1,2,4] (Su g p y D z C v F u q t B c x.x _ _ h hA O ln T d (by(simp only[LL,G,G];done)) m b e f i j k n o x.id I x.sv J x.sc (x.st+1) gi H vs)),(3,.s 6)] 6 (ob (B1 a) (([i6 30,i6 0]:List Value)++rB 64 z6).toArray 53) (lf ab.zero [0,1,2,3,4] [] [6])))))))))
theorem SO(g p y D z C v F u q t B:Nat)(c:Cf)(x:Mc)(K A N:Nat)(r:eL c x K A N)(hA:A≤700000)(M:N≤1000)(O:K+3≤1000000000)(ln:Int)(T:bR ln ((((c.R*c.B*c.M-c.res)*c.C):Nat):Int)=false)(d:List UInt8)(G:d.length=64)(m:Nat)(b e f i j k n o:Int)(Q:ed 2 ln d m b e f i j k n o=true):aa VB 16 #[pt g 0,.agg (sV 2 ln d m b e f i j k n o)] [pk (aP g p y D z C v F u q t B c x)] [0] (λ_=>[pk (aP g p y D z C v F u q t B c ({x with st:=x.st+1}:Mc))]) (λ_=> .agg (([i6 30,i6 0]:List Value)++rB 64 z6).toArray):=aa.pkZ Tryz.func16 λL P=>by
 obtain⟨gi,H,vs,rfl⟩:=P;refine⟨[0,1,2,3,4],λ_=>[ob g #[pt q 0,pt p 0,.map (some gi),H,vs,iN x.sc,i6 ((x.st+1:Nat):Int)] 114,pk (aQ p y D z C v F u q t B c x.x),cV x.id gi,fT H x.inj,dd vs x.sv],?_,rfl,λE=>⟨rfl,rfl,⟨_,_,_,rfl⟩⟩⟩;have h:=r.ct;have R:=h.cf;have I:=r.il;have J:x.sv.length≤1000:=VC r.sl M;have S:x.inj.length≤1000:=VC r.jl M;have U:=r.sc;have V:=r.st;exact fG Tryz.func16 λw cs=>ra (λa=>[(3,pt (B0 a) 0),(4,pt (B1 a) 0)]) (λa=>[ob (B0 a) (sV 2 ln d m b e f i j k n o) 50,ob (B1 a) (([i6 0,i6 0]:List Value)++rB 64 z6).toArray 53]) λa=>rF [(0,.l 5),(1,.c [] [] (aa.v ((jR 2 ln d m b e f i j k n o (by(simp only[LL,G,G];done)))) λ_=>ALca Value.bool (show(ed 2 ln d m b e f i j k n o)=true from(by exact Q))))] 9 (rs [(3,.l 0),(4,ad x.st 1),(7,.s 0)] 0 (ob g #[pt q 0,pt p 0,.map (some gi),H,vs,iN x.sc,i6 ((x.st+1:Nat):Int)] 114) (r0 [(1,.l 5)] [(19,i6 2)] [] (rF [] 20 (rF [] 40 (rF [] 48 (rF [] 56 (rF [] 64 (rs [(1,.l 5),(2,.c [0,1,2,4] [0,1,2,4] (Sw g p y D z C v F u q t B c x.x _ _ h hA O ln T d (by(simp only[LL,G,G];done)) m b e f i j k n o x.id I x.sv J x.sc (x.st+1) gi H vs)),(3,.s 6)] 6 (ob (B1 a) (([i6 30,i6 0]:List Value)++rB 64 z6).toArray 53) (lf ab.zero [0,1,2,3,4] [] [6])))))))))
theorem SP(g p y D z C v F u q t B:Nat)(c:Cf)(x:Mc)(K A N:Nat)(r:eL c x K A N)(hA:A≤700000)(M:N≤1000)(O:K+3≤1000000000)(ln:Int)(T:bR ln ((((c.R*c.B*c.M-c.res)*c.C):Nat):Int)=false)(d:List UInt8)(G:d.length=64)(m:Nat)(b e f i j k n o:Int)(Q:ed 3 ln d m b e f i j k n o=true):aa VB 16 #[pt g 0,.agg (sV 3 ln d m b e f i j k n o)] [pk (aP g p y D z C v F u q t B c x)] [0] (λ_=>[pk (aP g p y D z C v F u q t B c ({x with st:=x.st+1}:Mc))]) (λ_=> .agg (([i6 30,i6 0]:List Value)++rB 64 z6).toArray):=aa.pkZ Tryz.func16 λL P=>by
 obtain⟨gi,H,vs,rfl⟩:=P;refine⟨[0,1,2,3,4],λ_=>[ob g #[pt q 0,pt p 0,.map (some gi),H,vs,iN x.sc,i6 ((x.st+1:Nat):Int)] 114,pk (aQ p y D z C v F u q t B c x.x),cV x.id gi,fT H x.inj,dd vs x.sv],?_,rfl,λE=>⟨rfl,rfl,⟨_,_,_,rfl⟩⟩⟩;have h:=r.ct;have R:=h.cf;have I:=r.il;have J:x.sv.length≤1000:=VC r.sl M;have S:x.inj.length≤1000:=VC r.jl M;have U:=r.sc;have V:=r.st;exact fG Tryz.func16 λw cs=>ra (λa=>[(3,pt (B0 a) 0),(4,pt (B1 a) 0)]) (λa=>[ob (B0 a) (sV 3 ln d m b e f i j k n o) 50,ob (B1 a) (([i6 0,i6 0]:List Value)++rB 64 z6).toArray 53]) λa=>rF [(0,.l 5),(1,.c [] [] (aa.v ((jR 3 ln d m b e f i j k n o (by(simp only[LL,G,G];done)))) λ_=>ALca Value.bool (show(ed 3 ln d m b e f i j k n o)=true from(by exact Q))))] 9 (rs [(3,.l 0),(4,ad x.st 1),(7,.s 0)] 0 (ob g #[pt q 0,pt p 0,.map (some gi),H,vs,iN x.sc,i6 ((x.st+1:Nat):Int)] 114) (r0 [(1,.l 5)] [(19,i6 3)] [] (rF [] 20 (rF [] 40 (rF [] 48 (rF [] 56 (rF [] 64 (rs [(1,.l 5),(2,.c [0,1,2,4] [0,1,2,4] (Sx g p y D z C v F u q t B c x.x _ _ h hA O ln T d (by(simp only[LL,G,G];done)) m b e f i j k n o x.id I x.sv J x.sc (x.st+1) gi H vs)),(3,.s 6)] 6 (ob (B1 a) (([i6 30,i6 0]:List Value)++rB 64 z6).toArray 53) (lf ab.zero [0,1,2,3,4] [] [6])))))))))
def o1(c:Cf):Nat:=(c.R*c.B*c.M-c.res)*c.C
abbrev vu(s:St):Fa:=⟨s.f0,s.f1,s.f2,s.f3,s.f4,s.f5,s.f6,s.f7⟩
abbrev lJ:List UInt8:=VA 64 0
def kf(c:Cf)(x:Mc)(s:St):Mc:=
 if bR s.ln ((o1 c:Nat):Int)=true then
  if s.k=1 then EZ c x s.ln.toNat s
  else if s.k=2 then vt c x s.ln.toNat 18446744073709551615 s
  else if s.m=0 then E0 c x s.ln.toNat s.d
  else vt c x s.ln.toNat s.m s
 else x
def E2(c:Cf)(x:Mc)(s:St):An:=
 if bR s.ln ((o1 c:Nat):Int)=true then
  if s.k=1 then⟨cr (bL c x.x (a9 x.x s.ln.toNat)),0,cZ c x.x (a9 x.x s.ln.toNat)⟩
  else if s.k=2 then⟨cy c x.x s.ln.toNat 18446744073709551615,0,lJ⟩
  else if s.m=0 then⟨30,0,lJ⟩
  else⟨cy c x.x s.ln.toNat s.m,0,lJ⟩
 else⟨30,0,lJ⟩
def Vo(c:Cf)(x:Mc)(s:St):Mc:=
 if sR s=true then
  if s.k=4 then{x with x:=kJ c x.x,sc:=x.sc+1,st:=x.st+1}
  else if s.k=5 then if x.x.s.r.j.A=0 then{x with st:=x.st+1} else{x with x:=iZ c x.x,st:=x.st+1}
  else if s.k=6 then{x with x:=pU x.x,st:=x.st+1}
  else if s.k=7 then{x with x:=pV x.x,st:=x.st+1}
  else if s.k=8 then{x with x:={x.x with V:=m9 c x.x.V (vu s)},inj:=nb c x.x (vu s) x.inj x.sc,st:=x.st+1}
  else kf c {x with st:=x.st+1} s
 else x
def kL(c:Cf)(x:Mc)(s:St):An:=
 if sR s=true then
  if s.k=4 then⟨cr (bL c (ke c x.x) (a9 (ke c x.x) x.x.U)),(x.x.U:Int),lJ⟩
  else if s.k=5 then if x.x.s.r.j.A=0 then⟨51,0,lJ⟩ else⟨0,0,lJ⟩
  else if s.k=6 then⟨0,0,lJ⟩
  else if s.k=7 then⟨0,(x.x.s.g.l.length:Int),lJ⟩
  else if s.k=8 then⟨gO c x.x.V.D (vu s),0,lJ⟩
  else E2 c x s
 else⟨60,0,lJ⟩
structure StOk (s:St):Prop where
 d:s.d.length=64
 m:s.m<18446744073709551616
theorem SQ(g e l r o q j t i f h p:Nat)(c:Cf)(x:Mc)(K A N:Nat)(u:eL c x K A N)(hA:A≤700000)(v:N≤1000)(X:K+260≤1000000000)(ht:x.x.s.time<1099511627776)(s:St)(hs:StOk s):aa VB 16 #[pt g 0,.agg (eSt s).toArray] [pk (aP g e l r o q j t i f h p c x)] [0] (λ_=>[pk (aP g e l r o q j t i f h p c (Vo c x s))]) (λ_=> .agg (E1 (kL c x s)).toArray):=by
 obtain⟨w,hm⟩:=hs;by_cases a:sR s=true
 ·have Y:=So a;unfold Vo kL;rw[ALifp a,ALifp a];obtain⟨k,J,d,m,y,z,B,C,D,F,G,H⟩:=s;have b:K+3≤1000000000:=by omega
  by_cases R:k=4
  ·subst R;exact SD g e l r o q j t i f h p c x K A N u hA v b J d w m y z B C D F G H a
  by_cases S:k=5
  ·subst S;by_cases I:x.x.s.r.j.A=0
   ·rw[ALifn (show ¬(5:Int)=4 by decide),ALifp rfl,ALifp I,ALifn (show ¬(5:Int)=4 by decide),ALifp rfl,ALifp I];exact SF g e l r o q j t i f h p c x K A N u hA v I J d w m y z B C D F G H a
   ·rw[ALifn (show ¬(5:Int)=4 by decide),ALifp rfl,ALifn I,ALifn (show ¬(5:Int)=4 by decide),ALifp rfl,ALifn I];exact SE g e l r o q j t i f h p c x K A N u hA v X I J d w m y z B C D F G H a
  by_cases T:k=6
  ·subst T;exact SG g e l r o q j t i f h p c x K A N u hA v ht J d w m y z B C D F G H a
  by_cases U:k=7
  ·subst U;exact SH g e l r o q j t i f h p c x K A N u hA v J d w m y z B C D F G H a
  by_cases V:k=8
  ·subst V;exact SI g e l r o q j t i f h p c x K A N u hA v J d w m y z B C D F G H a
  rw[ALifn R,ALifn S,ALifn T,ALifn U,ALifn V,ALifn R,ALifn S,ALifn T,ALifn U,ALifn V];unfold kf E2;have Z:1≤k∧k≤8:=Y;by_cases I:bR J ((o1 c:Nat):Int)=true
  ·obtain⟨W,b2⟩:=k8.1 I;obtain⟨n,rfl⟩: ∃n:Nat,J=(n:Int):=⟨J.toNat,(Int.toNat_of_nonneg W).symm⟩;have O:n<o1 c:=by omega
   rw[ALifp I,ALifp I];by_cases P:k=1
   ·subst P;exact SJ g e l r o q j t i f h p c x K A N u hA v b n O d w m y z B C D F G H a
   by_cases Q:k=2
   ·subst Q;exact SK g e l r o q j t i f h p c x K A N u hA v b n O d w m y z B C D F G H a
   obtain rfl:k=3:=by omega
   by_cases L:m=0
   ·subst L;exact SM g e l r o q j t i f h p c x K A N u hA v b n O d w y z B C D F G H a
   ·rw[ALifn (show ¬(3:Int)=1 by decide),ALifn (show ¬(3:Int)=2 by decide),ALifn L,ALifn (show ¬(3:Int)=1 by decide),ALifn (show ¬(3:Int)=2 by decide),ALifn L];exact SL g e l r o q j t i f h p c x K A N u hA v b n O d w m y z B C D F G H a hm L
  ·rw[ALifn I,ALifn I];have M:bR J ((o1 c:Nat):Int)=false:=by simpa using I
   by_cases P:k=1
   ·subst P;exact SN g e l r o q j t i f h p c x K A N u hA v b J M d w m y z B C D F G H a
   by_cases Q:k=2
   ·subst Q;exact SO g e l r o q j t i f h p c x K A N u hA v b J M d w m y z B C D F G H a
   obtain rfl:k=3:=by omega
   exact SP g e l r o q j t i f h p c x K A N u hA v b J M d w m y z B C D F G H a
 ·unfold Vo kL;rw[ALifn a,ALifn a];exact SC g e l r o q j t i f h p c x K A N u hA v s.k s.ln s.d w s.m s.f0 s.f1 s.f2 s.f3 s.f4 s.f5 s.f6 s.f7 (by simpa [sR] using a)
theorem eL.mono{c:Cf}{x:Mc}{K A N d b e:Nat}(h:eL c x K A N)(f:K≤d)(hA:A≤b)(a:N≤e):eL c x d b e:=⟨h.ct.mono f hA,h.il,VC h.jl a,VC h.sl a,VC h.sc a,VC h.st a⟩
theorem SR{c:Cf}{i:Int}(h:bR i ((o1 c:Nat):Int)=true):i.toNat<(c.R*c.B*c.M-c.res)*c.C:=by
 have:=k8.1 h;unfold o1 at this;omega
theorem SS(c:Cf)(y:Ct)(f:Fa)(l:List Ij)(sc:Nat):(nb c y f l sc).length≤l.length+1:=by
 unfold nb;cases gO c y.V.D f==0
 ·exact VV _
 ·exact Nat.le_of_eq VJ
theorem SU{c:Cf}{x:Mc}{K A N:Nat}(h:eL c x K A N){s:St}(hs:StOk s)(b:K+3≤1000000000):eL c (kf c x s) (K+3) (A+2) (N+1):=by
 have a:eL c x (K+3) (A+2) (N+1):=h.mono Om Om Om;unfold kf
 split
 ·rename_i f;have d:=SR f;have e: ∀(l:List UInt8),l.length=64→∀k,(dQ x.id ((s.ln.toNat:Nat):Int) l k).length=64:=λl g k=>rV h.il _ g k;have mg: ∀m,(ir (x.id ((s.ln.toNat:Nat):Int)) s.d m).length=64:=λm=>(yE ..).trans (h.il _);have ls: ∀y:Sv,(x.sv++[y]).length≤N+1:=λy=>by rw[VJ];exact VI h.sl
  split
  ·exact⟨Ez h.ct d _ b,h.il,a.jl,ls _,a.sc,a.st⟩
  ·split
   ·exact⟨yF h.ct d hs.d _ b,e _ (mg _),a.jl,ls _,a.sc,a.st⟩
   ·split
    ·exact⟨yF h.ct d hs.d _ b,h.il,a.jl,a.sl,a.sc,a.st⟩
    ·exact⟨yF h.ct d hs.d _ b,e _ (mg _),a.jl,ls _,a.sc,a.st⟩
 ·exact a
theorem SV{c:Cf}{x:Mc}{K A N:Nat}(h:eL c x K A N){s:St}(hs:StOk s)(f:K+260≤1000000000)(ht:x.x.s.time<1099511627776):eL c (Vo c x s) (K+260) (A+3) (N+1):=by
 have a:eL c x (K+260) (A+3) (N+1):=h.mono Om Om Om;have d: ∀{y:Ct},bF c y (K+260) (A+3)→eL c {x with x:=y,st:=x.st+1} (K+260) (A+3) (N+1):=λg=>⟨g,a.il,a.jl,a.sl,a.sc,VI h.st⟩;unfold Vo
 split
 ·split
  ·exact⟨(Ry h.ct Om).mono Om Om,a.il,a.jl,a.sl,VI h.sc,VI h.st⟩
  ·split
   ·split
    ·exact d a.ct
    ·rename_i i;exact d (RL h.ct i f)
   ·split
    ·exact d ((RM h.ct ht).mono Om Om)
    ·split
     ·exact d ((RN h.ct).mono Om Om)
     ·split
      ·have g:bF c {x.x with V:=m9 c x.x.V (vu s)} K A:=⟨h.ct.cf,h.ct.s,QN h.ct.D _,h.ct.gl,h.ct.vl,h.ct.nl,h.ct.ly,h.ct.run,h.ct.U,h.ct.time⟩;exact⟨g.mono Om Om,a.il,VC (SS ..) (VI h.jl),a.sl,a.sc,VI h.st⟩
      ·have g:eL c {x with st:=x.st+1} K A (N+1):=⟨h.ct,h.il,V5 h.jl,V5 h.sl,V5 h.sc,VI h.st⟩;have e:=SU (x:={x with st:=x.st+1}) (N:=N+1) g hs Om;have b:(kf c {x with st:=x.st+1} s).sv.length≤N+1∧(kf c {x with st:=x.st+1} s).inj=x.inj∧(kf c {x with st:=x.st+1} s).sc=x.sc∧(kf c {x with st:=x.st+1} s).st=x.st+1:=by
        have ls: ∀y:Sv,(x.sv++[y]).length≤N+1:=λy=>by rw[VJ];exact VI h.sl
        unfold kf
        split
        ·split
         ·exact⟨ls _,rfl,rfl,rfl⟩
         ·split
          ·exact⟨ls _,rfl,rfl,rfl⟩
          ·split
           ·exact⟨a.sl,rfl,rfl,rfl⟩
           ·exact⟨ls _,rfl,rfl,rfl⟩
        ·exact⟨a.sl,rfl,rfl,rfl⟩
       exact⟨e.ct.mono Om Om,e.il,by rw[b.2.1];exact a.jl,b.1,by rw[b.2.2.1];exact a.sc,by rw[b.2.2.2];exact VI h.st⟩
 ·exact a
theorem SW(c:Cf)(x:Mc)(s:St):(kf c x s).x.s.time=x.x.s.time:=by
 unfold kf
 split
 ·split
  ·rfl
  ·split
   ·rfl
   ·split<;>rfl
 ·rfl
theorem SX(c:Cf)(x:Mc)(s:St):(Vo c x s).x.s.time≤x.x.s.time+1:=by
 unfold Vo
 split
 ·split
  ·exact VV _
  ·split
   ·split
    ·exact VV _
    ·exact VV _
   ·split
    ·exact VW _
    ·split
     ·exact VV _
     ·split
      ·exact VV _
      ·rw[SW];exact VV _
 ·exact VV _
def sa(M C r j:Nat):Nat:=bU r (j/C/M) (j/C%M) (j%C)
theorem SY{B M C b w c:Nat}(k:b<B)(f:w<M)(d:c<C):b*(M*C)+w*C+c<B*M*C∧(b*(M*C)+w*C+c)/C/M=b∧(b*(M*C)+w*C+c)/C%M=w∧(b*(M*C)+w*C+c)%C=c:=by
 have e:b*(M*C)+w*C+c=(b*M+w)*C+c:=by rw[Nat.add_mul,VR]
 have a:(b*(M*C)+w*C+c)/C=b*M+w:=by
  rw[e,VX,Wl Om,Wi d,We]
 have g:(b*M+w)/M=b:=by rw[VX,Wl Om,Wi f,We]
 have h:(b*M+w)%M=w:=by rw[VX,Wm,Wj f]
 refine⟨?_,by rw[a,g],by rw[a,h],by rw[e,VX,Wm,Wj d]⟩;rw[e];have i:b*M+w+1≤B*M:=by
  have:(b+1)*M≤B*M:=V7 M k;rw[V4] at this;omega
 have j:(b*M+w+1)*C≤B*M*C:=V7 C i;rw[V4] at j;omega
theorem SZ{B M C r b w c:Nat}(g:b<B)(i:w<M)(h:c<C):((VZ (B*M*C)).map (sa M C r))[b*(M*C)+w*C+c]? =some (bU r b w c):=by
 obtain⟨a,d,e,f⟩:=SY g i h;rw[Wc,V1 a,Wf];unfold sa;rw[d,e,f]
theorem S1(a p1 p2 p3:Nat)(h0:a<8)(h1:p1<16)(h2:p2<1024)(b:p3<64):aa VB 102 #[.agg #[iN a,iN p1,iN p2,iN p3]] [] [] N0 (λ_=>i6 ((bU a p1 p2 p3:Nat):Int)):=by
 have:=Cy (a:Int) p1 p2 p3 Om Om Om Om Om Om Om Om;rwa [uu] at this
theorem S2(m n R S B M C r:Nat)(s:cE R S B M C)(N:r<R+S):eX 5 VB 101 #[pt m 0,pt n 0] (λ(i:Nat)=>#[iN i]) ((VZ (B*M*C)).map (sa M C r)) (V0 [[(m,.cells #[iN R,iN S,iN B,iN M,iN C] 23 (0,0))],[(n,.cells #[iN r] 3 (0,0))]]):=by
 have a:=s.bd;have q:=a.r8;have h:=a.b16;have G:=a.m10;have H:=a.c64;refine gi (KO:=[[(m,.cells #[iN R,iN S,iN B,iN M,iN C] 23 (0,0))],[(n,.cells #[iN r] 3 (0,0))]]) Tryz.func101 (λO T Q X V t J I=>?_);refine rF [(0,.l 0),(1,.l 1),(3,.c [] [] (aa.v ((qX R S B M C s (r:Int) 0 0 0)) λ_=>ALca Value.bool (show(hold R S B M C (r:Int) 0 0 0)=true from(by exact(gZ.hold (p1:=0) (p2:=0) (p3:=0) ⟨N,a.b1,a.m1,a.c1⟩)))))] 11 (r0 [(1,.l 0)] [(13,iN B),(14,i6 0)] [] ?_);refine jD (λb=>b≤B) (λb=>[(14,iN b)]) (λ_ L=>L) (λb=>B-b) (λb=>b*(M*C)) 0 Om (by(rw[Wd]);exact I) Kr Kr (λb U W K k=>?_);refine r0 [] [(15,.bool (decide ((b:Int)<(B:Int))))] [] ?_;refine b0 (b:Int) (B:Int) (λq o=>?_) λq o=>?_
 ·refine r0 [] [(4,iN b)] [] (r0 [(1,.l 0)] [(18,iN M),(19,i6 0)] [] ?_);refine jD (λw=>w≤M) (λw=>[(19,iN w)]) (λ_ L=>L) (λw=>M-w) (λw=>b*(M*C)+w*C) 0 Om (by(rw[Wd,We]);exact k) Kr Kr (λw x A u d=>?_);refine r0 [] [(20,.bool (decide ((w:Int)<(M:Int))))] [] ?_;refine b0 (w:Int) (M:Int) (λh f=>?_) λh f=>?_
  ·refine r0 [] [(5,iN w)] [] (r0 [(1,.l 0)] [(23,iN C),(24,i6 0)] [] ?_);refine jD (λc=>c≤C) (λc=>[(24,iN c)]) (λ_ L=>L) (λc=>C-c) (λc=>b*(M*C)+w*C+c) 0 Om d Kr Kr (λc y D v e=>?_);refine r0 [] [(25,.bool (decide ((c:Int)<(C:Int))))] [] ?_;refine b0 (c:Int) (C:Int) (λp g=>?_) λp g=>?_
   ·refine r0 [] [(6,iN c)] [] ?_;refine iy t J e 7 (λ_=>[(1,.l 1),(6,.c [] [] (S1 r b w c Om Om Om Om))]) (λ_=>[(27,.func (.yield O) #[] #[]),(33,i6 ((bU r b w c:Nat):Int))]) [] (λ_ L=>L) N0 [0,1] (SZ Om Om Om) (λP z F j=>?_);refine cF _ rfl (r0 [(0,ad c 1)] [(24,i6 ((c+1:Nat):Int))] [24] ?_);exact ij (c+1) Om j Om Kr [0,1] Kr
   obtain rfl:C=c:=by omega
   refine jE ?_;refine r0 [(0,ad w 1)] [(19,i6 ((w+1:Nat):Int))] [19] ?_;exact ij (w+1) Om (by(rw[V4,←V9]);exact e) Om Kr [0,1] Kr
  obtain rfl:M=w:=by omega
  refine jE ?_;refine r0 [(0,ad b 1)] [(14,i6 ((b+1:Nat):Int))] [14] ?_;exact ij (b+1) Om (by(rw[V4]);exact d) Om Kr [0,1] Kr
 obtain rfl:B=b:=by omega
 refine jE ?_;exact ku t k (by rw[VU,VO,VR]) [] [0,1]
theorem S3(R S B M C r:Nat):aa VB 66 #[.agg #[iN R,iN S,iN B,iN M,iN C],iN r] [] [] (λE=>[ob (E.y 0) #[iN R,iN S,iN B,iN M,iN C] 23,ob (E.y 1) #[iN r] 3]) (λE=> .func (.func 101) #[] #[pt ((E.y 0)) 0,pt ((E.y 1)) 0]):=by
 exact fG Tryz.func66 λw cs=>ra (λa=>[(2,pt (B0 a) 0),(3,pt (B1 a) 0),(4,.nilFunc)]) (λa=>[ob (B0 a) #[iN R,iN S,iN B,iN M,iN C] 23,ob (B1 a) #[iN r] 3]) λa=>r0 [] [(4,.func (.func 101) #[] #[pt (B0 a) 0,pt (B1 a) 0])] [4] (lf (.l [(a 0).y 0,(a 1).y 0] [] []) [0,1] [] [])
theorem S4(d:Nat)(v:Value)(l:List Re)(bs:aw)(f:aH mj v l bs)(C:l.length≤1000000):eX 5 VB 96 #[pt d 0] (λ(x:Re)=>#[.agg #[iN x.s,iN x.t,iN x.k,iN x.i,iN x.o]]) (l) (V0 [[(d,.cells #[v] 41 (0,0))],bs]):=by
 refine gi (KO:=[[(d,.cells #[v] 41 (0,0))],bs]) Tryz.func96 (λr w u B z g p n=>?_);refine r0 [(0,.l 0),(1,eD f.1 1)] [(5,v),(6,iN l.length),(7,i6 0)] [] ?_;refine jD (λk=>k≤l.length) (λk=>[(7,iN k)]) (λ_ L=>L) (λk=>l.length-k) (λk=>k) 0 Om n Kr Kr (λk y A q b=>?_);refine r0 [] [(8,.bool (decide ((k:Int)<(l.length:Int))))] [] ?_;refine b0 (k:Int) (l.length:Int) (λm e=>?_) λm e=>?_
 ·refine rr (λ_=>[(0,fa f.1 1 k 5),(1,mQ gN f.1 1 k 0 5),(3,.s 2)]) (λc=>[(4,pt (B2 c) 0)]) [] (λc L=>L++[ob (B2 c) #[i6 (((l.getD k br).s:Nat):Int),i6 (((l.getD k br).t:Nat):Int),i6 (((l.getD k br).k:Nat):Int),i6 (((l.getD k br).i:Nat):Int),i6 (((l.getD k br).o:Nat):Int)] 59]) λc=>?_;refine iy g p b 2 (λ_=>[(1,.l 2)]) (λ_=>[(11,.func (.yield r) #[] #[]),(12,.agg #[i6 (((l.getD k br).s:Nat):Int),i6 (((l.getD k br).t:Nat):Int),i6 (((l.getD k br).k:Nat):Int),i6 (((l.getD k br).i:Nat):Int),i6 (((l.getD k br).o:Nat):Int)])]) [] (λ_ L=>L) (λ_=>[ob (B2 c) #[i6 (((l.getD k br).s:Nat):Int),i6 (((l.getD k br).t:Nat):Int),i6 (((l.getD k br).k:Nat):Int),i6 (((l.getD k br).i:Nat):Int),i6 (((l.getD k br).o:Nat):Int)] 59]) [0,1,2] (GC br Om) (λD h j a=>?_);refine cF _ rfl (r0 [(0,ad k 1)] [(7,i6 ((k+1:Nat):Int))] [7] ?_);exact ij (k+1) Om a Om Kr [0,1] Kr
 obtain rfl:l.length=k:=by omega
 refine jE ?_;exact ku g b Om [] [0,1]
section
section
variable {P:Program} {m m' l lr:Nat} {w:World} {Rp:Ending→World→Prop}
theorem S5{f:FuncId}{t:Array Value}{a b:Code}(h:RoundIn Fence.wide m P l f t a b w Rp):RoundIn Fence.wide m' P l f t a b w Rp:=⟨h.1,λc cs _=>h.2 c cs (room_wide _)⟩
theorem S6{f:FuncId}{t:Array Value}{a b:Code}(h:RoundIn Fence.wide m P l f t a b w Rp):RoundIn (Fence.wide.inRound lr) m' P l f t a b w Rp:=⟨h.1,λc cs _=>h.2 c cs (room_wide _)⟩
theorem S7{args:Array Value}(h:YieldAt Fence.wide m P l args w Rp):YieldAt Fence.wide m' P l args w Rp:=
 let ⟨fn,t,a,b,h1,h2⟩:=h
 ⟨fn,t,a,b,h1,S5 h2⟩
end
theorem n7.lv{α:Type}{n n':Nat}{P:Program}{g:Nat}{lb:Array Value}{encs:α→Array Value}{xs:List α}{K:Nat→Prop}{St:(Nat→Prop)→World→Prop}(h:n7 Fence.wide n P g lb encs xs K St):n7 Fence.wide n' P g lb encs xs K St:=
 λl J Jx W O k o p q r f=>callsIn_wide.2 (callsIn_wide.1 (h l J Jx W O k o p q (λi x d e a b c=>S7 (r i x d e a b c)) f))
def E3{α:Type}(P:Program)(l:Nat)(J Jx:Nat→(Nat→Prop)→World→Prop)(KO:aw)(W0:World)(encs:α→Array Value)(xs:List α):Prop:=
 ∀i x f a,xs[i]? =some x→J i f a→W0.heap.size≤a.heap.size→YieldAt Fence.wide 4 P l (encs x) a λe d=>∃c,gC (λb=>∃x∈KO,x.1=b) f c a d∧((e= .returned (.bool true)∧J (i+1) c d)∨(e= .returned (.bool false)∧Jx (i+1) c d))
def sb(P:Program)(fn:Func)(J Jx:Nat→(Nat→Prop)→World→Prop)(N:Nat):Exit→Act→World→Prop:=
 bodyPostM Fence.wide 5 P fn λe b=>(∃v,e= .returned v)∧((∃a,J N a b)∨∃i,i<N∧∃a,Jx (i+1) a b)
section
variable {α:Type} {P:Program} {gf:Nat} {fn:Func} {lb:Array Value} {encs:α→Array Value} {xs:List α} {KO:List aw} {J Jx:Nat→(Nat→Prop)→World→Prop} {W0:World} {l j:Nat}
theorem S8(hf:P.funcs[gf]? =some fn)(h: ∀l J Jx W0 R,gp J→gp Jx→E3 P l J Jx KO.flatten W0 encs xs→Hid (fo J KO W0 0 R W0)→Go Fence.wide 5 P R W0 (sb P fn J Jx xs.length) [.c (jY fn)] ⟨fn.ntmps,nw 0 (.func (.yield l) #[] #[]::lb.toList)⟩ (KO.map .c) [])
  (n:(fn.body.isSome,Nat.ble (lb.size+1) fn.ntmps)=(true,true):=by kernel_rfl):eX 5 P gf lb encs xs KO.flatten:=by
 intro l J Jx W O f t d u x p;have b:fx J KO.flatten W [] 0 W:=⟨⟨O,p,λ_ h=>by simp at h,u⟩,VW _,by simpa using f⟩;obtain⟨R,s,e⟩:=iD.start (iD.zero b);obtain⟨c,k⟩:=Option.isSome_iff_exists.1 (ALca (·.1) n);have y:lb.size+1≤fn.ntmps:=Nat.le_of_ble_eq_true (ALca (·.2) n);refine callsIn_of_wp_marks hf k trivial ?_ rfl;have o:(#[Value.func (.yield l) #[] #[]]++lb).size=lb.size+1:=by simp;omega
 have g:=(h l J Jx W R t d x s).out {tmps:=(#[Value.func (.yield l) #[] #[]]++lb)++Array.replicate (fn.ntmps-(#[Value.func (.yield l) #[] #[]]++lb).size) undef,defers:=[]} W ⟨by rw[Array.size_append,o,Array.size_replicate];show _=fn.ntmps;omega,λi v hv=>?_,rfl⟩ (by simpa using e.out)
 ·rw[show jY fn=c by unfold jY;rw[k];rfl] at g;exact g
 ·obtain⟨_,a⟩:=qz hv;rw[Nat.sub_zero] at a;have q:i<lb.size+1:=by have:=(List.getElem?_eq_some_iff.1 a).1;simpa using this
  have r:(#[Value.func (.yield l) #[] #[]]++lb)[i]? =some v:=by rw[←Array.getElem?_toList];simpa using a
  rw[Array.getD_eq_getD_getElem?,Array.getElem?_append_left (by rw[o];exact q),r];rfl
theorem vv{α β:Type}(f:α→β): ∀l:List α,(l.map λx=>[f x]).flatten=l.map f
 | []=>rfl
 | x::l=>by rw[WD,VH,vv f l];rfl
theorem yL{R:List Nat}{base W:World}(h:aE R base [] W):cu R base [] W:=by
 obtain⟨cs,b,a⟩:=h.conc;obtain rfl:=mJ b;exact a
theorem E4{N:Nat}{b:Act}{W:World}{Ds:List Nat}(c:fn.results.toList=[])(o:b.defers=Ds.map jA)(p:eh (Ds.map dH) W)(h: ∀a,cu ((Ds.map dH).map (·.1)) W [] a→(∃d,J N d a)∨∃i,i<N∧∃d,Jx (i+1) d a):sb P fn J Jx N .ret b W:=by
 show LeavesInM Fence.wide 5 P fn b.tmps _ b.defers .returning W;rw[o];have k:aE ((Ds.map dH).map (·.1)) W ([]++Ds.map mk) W:=by
  have e:=aE.start (w:=W) (qi Ds) (by rw[vv];exact p);rw[vv] at e;exact e
 obtain⟨q,f,g⟩:=aE.seg (L:=[]) k;exact zU f g [] (by rw[c];rfl) λa n=>⟨⟨_,rfl⟩,h a (yL n)⟩
structure AI (J:Nat→(Nat→Prop)→World→Prop) (K Lo:aw) (W0:World) (j:Nat) (O1:Nat→Prop) (V:World):Prop where
 ex: ∃O,J j O V∧(∀x∈Lo,¬O x.1)∧∀b,O b→O1 b
 own: ∀x∈K++Lo,O1 x.1
 lt: ∀b,O1 b→b<V.heap.size
 sz:W0.heap.size≤V.heap.size
 has:eh (K++Lo) V
theorem AI.turn{K f:aw}{a:Nat→Prop}{V c:World}(i:gp J)(h:AI J K f W0 j a V)(t:eM (λb=>¬a b) V c):AI J K f W0 j a c:=
 let ⟨O,h1,h2,h3⟩:=h.ex
 ⟨⟨O,i _ O V c h1 (t.mono λb d k=>d (h3 b k)),h2,h3⟩,h.own,λb d=>VT (h.lt b d) t.size,VC h.sz t.size,⟨λx g=>t.heap (λe=>e (h.own x g)) (h.has.obj x g),h.has.nd⟩⟩
theorem cu.turnA{R:List Nat}{base W:World}{L:aw}{S:Nat→Prop}(h:cu R base L W)(c: ∀b,b<base.heap.size→b∈R→¬S b→W.heap[b]? =base.heap[b]?):eM S base W:=
 ⟨h.os,h.tape,h.output,h.size,λb a d=>if hx:b∈R then c b a hx d else h.far b a hx⟩
theorem S9{R:List Nat}{base:World}{Q:Exit→Act→World→Prop}{S:List It}{a:Nat}{es:Fe}{L:ah}{A:World→Prop}{vs:Array Value}{lr:Nat}(N:Nat)(hs:bu→List (Nat×b9 P))(h:bu→Fe)(dr:List Nat)(Le:bu→ah→ah)
  (F: ∀η W,aE R base (Le η L) W→YieldAt Fence.wide 4 P l vs W λe g=>(e= .returned (.bool true)∧A g)∨(e= .returned (.bool false)∧∀b,Q .ret b g))
  (hk: ∀η g,A g→Go (Fence.wide.inRound lr) 3 P [] g Q (bT S) ⟨a,(ig P (ax S) a ((ax S).drop (N+1)) ((iF S N,.bool true)::(h η++ek dr es))).1⟩ [] [])
  (he: ∀η,((kX S,true),(e6 ((ax S).take N) ⟨a,es⟩ (tP N S ⟨a,es⟩ L (mR Le L) hs) η 0 ((ax S).take N) (nz N S ⟨a,es⟩ L hs η)).map a7.lhs,tE (eO S) (ax S) N (λk=>(je (eO S) ((ax S).take N)).getD k []),(VZ (mR Le L)).map (λp=>(tP N S ⟨a,es⟩ L (mR Le L) hs).at η p ((ax S).take N).length),(h η).map (λx=>kq ((ax S).take N) ⟨a,es⟩ (tP N S ⟨a,es⟩ L (mR Le L) hs) η x.1),lT ((ax S).take N) es (h η) dr)=
   ((true,true),(e6 ((ax S).take N) ⟨a,es⟩ (tP N S ⟨a,es⟩ L (mR Le L) hs) η 0 ((ax S).take N) (nz N S ⟨a,es⟩ L hs η)).map a7.rhs,true,(Le η L).map some,(h η).map (λx=>some x.2),true):=by intro _;kernel_rfl)
  (H: ∀η,(tH S N l a (h η++ek dr es) vs.toList,(ig P (ax S) a ((ax S).drop (N+1)) ((iF S N,.bool true)::(h η++ek dr es))).2.map a7.lhs,(ig P (ax S) a ((ax S).drop (N+1)) ((iF S N,.bool false)::(h η++ek dr es))).2.map a7.lhs,qF 10 (bT S) (ig P (ax S) a ((ax S).drop (N+1)) ((iF S N,.bool false)::(h η++ek dr es))).1)=
   ((true,some vs.toList,some (.func (.yield l) #[] #[])),(ig P (ax S) a ((ax S).drop (N+1)) ((iF S N,.bool true)::(h η++ek dr es))).2.map a7.rhs,(ig P (ax S) a ((ax S).drop (N+1)) ((iF S N,.bool false)::(h η++ek dr es))).2.map a7.rhs,true):=by intro _;kernel_rfl)
  (hm:P.follows .mixedOrders=true:=by kernel_rfl):Go (Fence.wide.inRound lr) 3 P R base Q S ⟨a,es⟩ L []:=by
 refine AS hm N hs h dr Le (λη b W z hO=>?_) he;have f:=ALca (λx=>x.1) (H η);have s:=ALca (λx=>x.2.1) (H η);have t:=ALca (λx=>x.2.2.1) (H η);have u:=ALca (λx=>x.2.2.2) (H η);simp only at f s t u;obtain⟨T,y,K,O,D,i⟩:=F η W (by simpa using hO);unfold tH at f
 split at f
 ·rename_i o ho
  split at f
  ·rename_i xo I ats C;simp only[Prod.mk.injEq,Wg,Option.some.injEq] at f;obtain⟨⟨⟨⟨⟨g1,g2⟩,g3⟩,g4⟩,G⟩,g6,g7⟩:=f;obtain⟨d,B⟩:=Option.isSome_iff_exists.1 g4;have v:iF S N=d:=by unfold iF;rw[ho];simp [B]
   have Y:(ax S).drop N=o::(ax S).drop (N+1):=by
    obtain⟨Z,e⟩:=List.getElem?_eq_some_iff.1 (show(ax S)[N]? =some o from ho);rw[List.drop_eq_getElem_cons Z,e]
   rw[Y];have hw:Region.wanted o (yielded (ax S).toArray b.tmps)=true:=wQ z g1;unfold wpListIn;rw[ALifp hw];have hxo:b.eval xo= .func (.yield l) #[] #[]:=(mT z g2).trans g7;have X:I.map b.eval=vs:=by
    apply Array.toList_inj.1;rw[Array.toList_map,←g6];exact List.map_congr_left λq hq=>mT z (List.all_eq_true.1 g3 q hq)
   have r:(execOp b.eval o).run P W= .ok (.round l T y K O) W:=by
    unfold execOp;simp only[C,resolve,hxo,Deferred.ofValue,Sem.run_bind,Sem.run_pure,Wu,invoke];rw[X];simpa using D
   unfold Oper.wpIn;refine⟨λ_ _=>trivial,?_⟩;rw[Oper.semAt_plain (Fence.wide.inRound lr) _ o (λc hc=>by rw[C] at hc;cases hc),r,Oper.uponIn_round];refine⟨λ_=>by omega,(S6 i).mono ?_⟩;rintro e g (⟨rfl,U⟩ | ⟨rfl,U⟩)
   ·rw[v] at s;have h4:=hk η g U;rw[v] at h4;show wpListIn (Fence.wide.inRound lr) 3 P (ax S).toArray _ ((ax S).drop (N+1)) (b.put o.dst (.bool true)) g;rw[B];have V:d<a:=by rw[B] at G;exact Wx▸G
    exact qE (z.put V _) (a7.all s) λM n=>h4.out M g n (wT g)
   ·rw[v] at t u;show wpListIn (Fence.wide.inRound lr) 3 P (ax S).toArray _ ((ax S).drop (N+1)) (b.put o.dst (.bool false)) g;rw[B];have V:d<a:=by rw[B] at G;exact Wx▸G
    exact qE (z.put V _) (a7.all t) λM n=>wR 10 u n (U M)
  ·simp at f
 ·simp at f
theorem E5{F:Fence}{n:Nat}{R:List Nat}{base:World}{Q:Exit→Act→World→Prop}{S:List It}{a:Sl}{L:ah}{Ds:List Nat}(h: ∀b W,Fr a Ds b→aE R base (L++Ds.map mk) W→Q .normal b W)(d:(nf S).isEmpty=true:=by kernel_rfl):Go F n P R base Q S a L Ds:=by
 refine⟨λb W e c=>dD 1000 S ?_⟩;rw[show dh 1000 S=[] from List.isEmpty_iff.1 d];exact h b W e c
end
end
section
section
variable {α:Type} {P:Program} {fn:Func} {encs:α→Array Value} {xs ys:List α} {KO LO KI:List aw} {J Jx:Nat→(Nat→Prop)→World→Prop} {W0:World} {l j:Nat} {R:List Nat} {base:World} {Q:Exit→Act→World→Prop} {S:List It} {sz:Nat} {es:Fe} {L:ah} {Ds:List Nat}
theorem Ta{K A M:aw}{d:Nat×Obj}(h:(K++(A++M)).Pairwise λx y=>x.1≠y.1)(a: ∀x∈K++(A++M),x.1≠d.1):(K++(A++d::M)).Pairwise λx y=>x.1≠y.1:=by
 have hp:Wo (K++(A++d::M)) (d::(K++(A++M))):=by
  rw[←VN,←VN];exact List.perm_middle
 refine(List.Perm.pairwise_iff (λ{x y} h=>Ne.symm h) hp).2 (List.pairwise_cons.2 ⟨λx b=>Ne.symm (a x b),h⟩)
theorem Tc{g2:Nat}{lb2:Array Value}(ea:α→Fe)(hJ:gp J)(hJx:gp Jx)(hY:E3 P l J Jx KO.flatten W0 encs xs)(hI:Hid (fo J KO W0 j R base))(hit:eX 5 P g2 lb2 encs ys KI.flatten)(eg:Enters P g2)
  (hys: ∀i y,ys[i]? =some y→xs[j+i]? =some y) (hQ: ∀b W,sb P fn J Jx xs.length .ret b W→Q .ret b W) (hres:fn.results.toList=[])
  (ps:List Nat) (hKI: ∀x∈KI.flatten,x∈LO.flatten) (hKn:KI.flatten.Sublist LO.flatten)
  (hasg: ∀(lr:Nat) (y:α) (R1:List Nat) (W1:World) (Q1:Exit→Act→World→Prop),(∀b W,Fr ⟨sz,ea y++ek [] (gu (cb S) (encs y).toList++es)⟩ [] b→aE R1 W1 [] W→Q1 .normal b W)→Go (Fence.wide.inRound lr) 3 P R1 W1 Q1 [.c (jo S)] ⟨sz,gu (cb S) (encs y).toList++es⟩ [] [])
  (hbod: ∀(lr:Nat) (y:α) (R1:List Nat) (W1:World) (Q1:Exit→Act→World→Prop),(∀W,aE R1 W1 ((KO++LO).map .c) W→YieldAt Fence.wide 4 P l (encs y) W λe w=>(e= .returned (.bool true)∧∀b W'',aE [] w [] W''→Q1 .normal b W'')∨(e= .returned (.bool false)∧∀b,Q1 .ret b w))→Go (Fence.wide.inRound lr) 3 P R1 W1 Q1 [.c (kt S)] ⟨sz,ea y++ek [] (gu (cb S) (encs y).toList++es)⟩ ((KO++LO).map .c) [])
  (hk: ∀(D:Nat) (R':List Nat) (w:World),Hid (fo J KO W0 (j+ys.length) R' w)→Go Fence.wide 5 P R' w Q (bT S) ⟨sz,es⟩ ((KO++LO).map .c) (D::Ds))
  (hps: ∀x,(encs x).size=(cb S).length)
  (hc:(mS S,(⟨sz,es⟩:Sl).ev (fJ S),(cb S).all (Nat.blt · sz),de (ps.map λp=>[p]).flatten,(ps.map λp=>[p]).map λg=>g.map λp=>L[p]?)=(true,.func (.func g2) #[] lb2,true,true,(((KO++LO).map aB.c).map λx=>[x]).map λN=>N.map some):=by kernel_rfl)
  (hkn:(match fJ S with | .tmp i=>(lk es i).isSome | _=>true)=true:=by kernel_rfl):Go Fence.wide 5 P R base Q S ⟨sz,es⟩ L Ds:=by
 have c1:=ALca (λx=>x.1) hc;have c2:=ALca (λx=>x.2.1) hc;have c3:=ALca (λx=>x.2.2.1) hc;have c4:=ALca (λx=>x.2.2.2) hc;simp only at c1 c2 c3 c4;refine⟨λb W f hO=>dD 1000 S ?_⟩;rw[show dh 1000 S=_ from wO c1];show(Code.rangeFunc (fJ S) (cb S).toArray (jo S) (kt S)).wpIn Fence.wide 5 P (c8 Fence.wide 5 P Q (bT S)) b W;have H:b.eval (fJ S)= .func (.func g2) #[] lb2:=by
  rw[f.ev λi hi=>by rw[hi] at hkn;exact hkn];exact c2
 have hO1:aE R base (KO.map .c++(LO.map .c++Ds.map mk)) W:=by
  have h:=hO.under (L':=(KO++LO).map .c) λh=>h.pick ps _ c4;rwa [WB,VN] at h
 obtain⟨ds,hds,A⟩:=fo.step hI hJ hO1;have e9:ds.flatten=LO.flatten++Ds.map dH:=by
  obtain⟨d1,d2,rfl,o,h2⟩:=nm hds;rw[V8,qv o,o8 h2]
 rw[e9] at A;obtain⟨m,d⟩: ∃m,LO.flatten++Ds.map dH=m:=⟨_,rfl⟩;rw[d] at A;obtain⟨O,hO0,hO2,hO3⟩:=A.ex;have q:=A.has;have Z: ∀x∈LO.flatten,x∈m:=λx a=>by rw[←d];exact Ws _ a
 have K: ∀x∈KI.flatten,x∈m:=λx a=>Z x (hKI x a);have B: ∀x∈KO.flatten++m,x.1<W.heap.size:=λx a=>(Array.getElem?_eq_some_iff.1 (q.obj x a)).1;have ndKI:KI.flatten.Pairwise λx y=>x.1≠y.1:=by
  have o:=(List.pairwise_append.1 q.nd).2.1;rw[←d] at o;exact(List.pairwise_append.1 o).1.sublist hKn
 have hA0:AI J KO.flatten m W0 (j+0) (λb=>b<W.heap.size) W:=⟨⟨O,hO0,hO2,hO3⟩,B,λ_ h=>h,A.sz,q⟩;refine zW (F:=Fence.wide) (n:=5) rfl Om H trivial eg (n7.lv (n':=4) hit) (λb=>b<W.heap.size) ?_ (λ_ h=>h) ?_ (λx=>by rw[hps x];simp) (λi k V=>AI J KO.flatten m W0 (j+i) k V) (λc i k V=>c= .ret∧AI Jx KO.flatten m W0 (j+i) k V) (λi k V V' h t=>h.turn hJ t) (λc i k V V' h t=>⟨h.1,h.2.turn hJx t⟩) hA0 ?_ ?_ ?_
 ·intro V hV k _;exact⟨λx a=>(hV x.1 (B x (VF _ (K x a)))).trans (q.obj x (VF _ (K x a))),ndKI⟩
 ·rintro b ⟨x,a,rfl⟩;exact B x (VF _ (K x a))
 ·intro lr i y k V hy hsz hA;have hsz2:(encs y).toList.length=(cb S).length:=by rw[Array.length_toList];exact hps y
  have hlt: ∀p∈cb S,p<b.tmps.size:=λp hp=>by rw[f.size];exact Wx▸List.all_eq_true.1 c3 p hp
  have hfr:Fr ⟨sz,gu (cb S) (encs y).toList++es⟩ [] {tmps:=gR b.tmps (cb S).toArray (encs y),defers:=[]}:=by
   have ee:encs y=(encs y).toList.toArray:=by simp
   refine⟨?_,λi v hv=>?_,rfl⟩
   ·show(gR b.tmps (cb S).toArray (encs y)).size=sz;rw[ee,tD];exact f.size
   ·show(gR b.tmps (cb S).toArray (encs y)).getD i undef=v;rw[ee,tC _ _ _ i hsz2.symm hlt];simp only[pq] at hv;cases o:lk (gu (cb S) (encs y).toList) i with
    | some u=>rw[o] at hv;cases hv;rfl
    | none=>rw[o] at hv;exact f.get i v hv
  have o:=(hasg lr y [] V (λe b' Wa=>e= .normal∧Fr ⟨sz,ea y++ek [] (gu (cb S) (encs y).toList++es)⟩ [] b'∧aE [] V [] Wa) λb' Wa o h2=>⟨rfl,o,h2⟩).out _ V hfr (wT V);refine wpIn_mono (show(jo S).wpIn (Fence.wide.inRound lr) 3 P _ _ V from o) λe a' Wa hq=>?_;obtain⟨rfl,hf',hO'⟩:=hq;have sO:=yL hO';refine⟨k,⟨sO.size,λ_ _ h=>h,λb h=>VT (hA.lt b h) sO.size,λb f _=>sO.far b f (by simp)⟩,λU hU hUs=>?_⟩;have z:AI J KO.flatten m W0 (j+i) k U:=(hA.turn hJ (sO.turnA λb _ a _=>by simp at a)).turn hJ hU;have hHU:eh (KO++LO).flatten U:=by
   rw[V8];have hs:(KO.flatten++LO.flatten).Sublist (KO.flatten++m):=by rw[←d,←VN];exact VQ _ _
   exact⟨λx a=>z.has.obj x (hs.subset a),z.has.nd.sublist hs⟩
  have oU:aE (bI (KO++LO).flatten) U ((KO++LO).map .c) U:=aE.start (th _) hHU;refine(hbod lr y (bI (KO++LO).flatten) U (zV (λb=>∃x∈KI.flatten,x.1=b) (λi k V=>AI J KO.flatten m W0 (j+i) k V) (λc i k V=>c= .ret∧AI Jx KO.flatten m W0 (j+i) k V) (i+1) k U) λW2 h2=>?_).out a' U hf' (by rw[List.map_nil,VK];exact oU);obtain⟨cs2,hs2,G⟩:=h2.conc;rw[qv hs2] at G;have Y: ∀b,b<U.heap.size→W2.heap[b]? =U.heap[b]? :=λb f=>by
   by_cases a:b∈bI (KO++LO).flatten
   ·obtain⟨x,s,rfl⟩:=List.mem_map.1 a;exact(G.obj x s).trans (hHU.obj x s).symm
   ·exact G.far b f a
  have tU: ∀T:Nat→Prop,eM T U W2:=λT=>⟨G.os,G.tape,G.output,G.size,λb f _=>Y b f⟩;have r:AI J KO.flatten m W0 (j+i) k W2:=z.turn hJ (tU _);obtain⟨O,q1,X,q3⟩:=r.ex;obtain⟨fn',t',ag',bd',r1,r2⟩:=hY (j+i) y O W2 (hys i y hy) q1 r.sz;refine⟨fn',t',ag',bd',r1,r2.mono ?_⟩;rintro e w ⟨O',H,h4⟩;have lt2: ∀x∈KO.flatten++m,x.1<W2.heap.size:=λx a=>(Array.getElem?_eq_some_iff.1 (r.has.obj x a)).1;have gr:gC (λb=>∃x∈KI.flatten,x.1=b) k (λb=>k b∨O' b) U w:=by
   refine⟨VC G.size H.size,λb f h=>?_,λb h=>?_,λb f hk=>?_⟩
   ·exact h.elim id λh=>q3 b (H.old b (VT f G.size) h)
   ·exact h.elim (λh=>VT (z.lt b h) (VC G.size H.size)) (H.new b)
   ·refine(H.keep b (VT f G.size) (.inl ?_)).trans (Y b f);rcases hk with hk | ⟨x,a,rfl⟩
    ·exact λM=>hk (q3 b M)
    ·exact X x (K x a)
  have ai: ∀{J':Nat→(Nat→Prop)→World→Prop},J' (j+i+1) O' w→AI J' KO.flatten m W0 (j+(i+1)) (λb=>k b∨O' b) w:=λh=>
   ⟨⟨O',h,λx a M=>X x a (H.old _ (lt2 x (VF _ a)) M),λb h=> .inr h⟩,λx a=> .inl (z.own x a),λb h=>gr.new b h,VC r.sz H.size,
    ⟨λx a=>(H.keep x.1 (lt2 x a) ((List.mem_append.1 a).elim (λh=> .inr ⟨x,h,rfl⟩) λh=> .inl (X x h))).trans (r.has.obj x a),r.has.nd⟩⟩
  rcases h4 with⟨rfl,h5⟩ | ⟨rfl,h5⟩
  ·refine .inl ⟨rfl,λb' W'' h=>?_⟩;have s3:=yL h;exact⟨_,gr.trans ⟨s3.size,λ_ _ h=>h,λb h=>VT (gr.new b h) s3.size,λb f _=>s3.far b f (by simp)⟩,(ai h5).turn hJ (s3.turnA λb _ a _=>by simp at a)⟩
  ·exact .inr ⟨rfl,λb'=>⟨_,gr,rfl,ai h5⟩⟩
 ·intro D k V hD C hA hd;have hI2:iD J KO W0 (LO.map .c++(D::Ds).map mk) (j+ys.length) V:=by
   refine⟨LO++(D::Ds).map (λD=>[dH D]),jU (th LO) (qi _),?_⟩;have ef:(LO++(D::Ds).map (λD=>[dH D])).flatten=LO.flatten++dH D::Ds.map dH:=by
    rw[V8,vv];rfl
   rw[ef];obtain⟨O,q1,X,q3⟩:=hA.ex;have I: ∀x∈KO.flatten++m,x.1≠D:=λx a e=>C (e▸hA.own x a);refine⟨⟨O,q1,λx a=>?_,λb h=>hA.lt b (q3 b h)⟩,hA.sz,⟨λx a=>?_,?_⟩⟩
   ·rcases List.mem_append.1 a with a | a
    ·exact X x (Z x a)
    ·rcases List.mem_cons.1 a with rfl | a
     ·exact λM=>C (q3 _ M)
     ·exact X x (by rw[←d];exact VF _ a)
   ·rcases List.mem_append.1 a with a | a
    ·exact hA.has.obj x (Ws _ a)
    ·rcases List.mem_append.1 a with a | a
     ·exact hA.has.obj x (VF _ (Z x a))
     ·rcases List.mem_cons.1 a with rfl | a
      ·exact hd
      ·exact hA.has.obj x (VF _ (by rw[←d];exact VF _ a))
   ·rw[←d] at I;exact Ta (by rw[d];exact hA.has.nd) I
  obtain⟨R',hC,hO5⟩:=iD.start hI2;refine(hk D R' V hC).out _ V ⟨f.size,f.get,by show jA D::b.defers=_;rw[f.defers];rfl⟩ ?_;rw[WB,VN];exact hO5.out
 ·rintro D c i k V hD C hi ⟨rfl,hA⟩ hd;obtain⟨O,q1,X,q3⟩:=hA.ex;have I: ∀x∈KO.flatten++m,x.1≠D:=λx a e=>C (e▸hA.own x a);have hM:eh ((D::Ds).map dH) V:=by
   refine⟨λx a=>?_,?_⟩
   ·rcases List.mem_cons.1 a with rfl | a
    ·exact hd
    ·exact hA.has.obj x (VF _ (by rw[←d];exact VF _ a))
   ·have o:=(List.pairwise_append.1 hA.has.nd).2.1;rw[←d] at o;exact List.pairwise_cons.2 ⟨λx a=>Ne.symm (I x (VF _ (by rw[←d];exact VF _ a))),(List.pairwise_append.1 o).2.1⟩
  refine wpIn_ret (gF (hQ _ V (E4 (Ds:=D::Ds) hres (by show jA D::b.defers=_;rw[f.defers];rfl) hM λw hW=> .inr ⟨j+i,?_,O,?_⟩)))
  ·obtain⟨y,hy⟩:=List.getElem?_eq_some_iff.2 ⟨hi,rfl⟩ |>λh=>(⟨_,h⟩: ∃y,ys[i]? =some y);exact(List.getElem?_eq_some_iff.1 (hys i y hy)).1
  ·refine hJx _ O V w q1 (hW.turnA λb _ a hn=>?_);obtain⟨x,s,rfl⟩:=List.mem_map.1 a;refine absurd (λM=>?_) hn;rcases List.mem_cons.1 s with rfl | s
   ·exact C (q3 _ M)
   ·exact X x (by rw[←d];exact VF _ s) M
def E6(J:Nat→(Nat→Prop)→World→Prop)(KO:List aw)(W0:World)(I:Nat→Prop)(e:Nat→Fe)(a:Nat→ah)(m c:Nat→Nat)(sz:Nat)(st:Fe)(i:Nat)(b:Act)(W:World):Prop:=∃(k:Nat) (E:List Nat) (R:List Nat) (base:World),I k∧Hid (fo J KO W0 (c k) R base)∧m k<i∧Fr ⟨sz,e k++st⟩ E b∧aE R base (a k++E.map mk) W
def yM(P:Program)(J:Nat→(Nat→Prop)→World→Prop)(KO:List aw)(W0:World)(Q:Exit→Act→World→Prop)(S:List It)(I:Nat→Prop)(e:Nat→Fe)(a:Nat→ah)(m c:Nat→Nat)(sz:Nat)(st:Fe)(i:Nat):Exit→Act→World→Prop
 | .normal,b,W=>E6 J KO W0 I e a m c sz st i b W
 | x,b,W=>c8 Fence.wide 5 P Q S x b W
theorem Td(I:Nat→Prop)(e:Nat→Fe)(o:Nat→ah→ah)(m c:Nat→Nat)(f:Nat)(h0:I f)(v:Hid (fo J KO W0 (c f) R base))(q:((e f).map λx=>lk es x.1)=(e f).map λx=>some x.2)(w:L=o f L)
  (F: ∀(k:Nat) (E:List Nat) (p:List Nat) (d:World),I k→Hid (fo J KO W0 (c k) p d)→Go Fence.wide 5 P p d (yM P J KO W0 Q (bT S) I e (λk=>o k L) m c sz (jm S es) (m k)) [.c (fX S)] ⟨sz,e k++jm S es⟩ (o k L) E) (y:nv S=true:=by kernel_rfl):Go Fence.wide 5 P R base Q S ⟨sz,es⟩ L Ds:=by
 classical
 refine⟨λb W z r=>dD 1000 S ?_⟩;rw[show dh 1000 S=_ from tq y];show(Code.loop (fX S)).wpIn Fence.wide 5 P (c8 Fence.wide 5 P Q (bT S)) b W
 let g:Nat→Act→World→Prop:=E6 J KO W0 I e (λk=>o k L) m c sz (jm S es)
 let μ:Act→World→Nat:=λb W=>if h: ∃j,g j b W then Wp (kr h) else 0
 have u: ∀b W,(∃j,g j b W)→g (μ b W) b W∧∀i,i<μ b W→¬g i b W:=by
  intro b W h;have e:μ b W=Wp (kr h):=dif_pos h;rw[e];exact Classical.choose_spec (kr h)
 refine wpIn_loop (λb W=>∃j,g j b W) μ ⟨m f+1,f,Ds,R,base,h0,v,Wk _,Fr.stay (a:=⟨sz,es⟩) z q,by have h:=r;rw[w] at h;exact h⟩ λb W n=>?_;obtain⟨k,E,p,d,B,hC,D,A,r⟩:=(u b W n).1;refine wpIn_mono (show(fX S).wpIn Fence.wide 5 P _ b W from(F k E p d B hC).out b W A r) λe t s q=>?_;cases e with
 | normal=>
  have n:g (m k) t s:=q;exact⟨⟨_,n⟩,Wb (Nat.le_of_not_lt λC=>(u t s ⟨_,n⟩).2 _ C n) D⟩
 | _=>exact q
theorem Te{I:Nat→Prop}{e:Nat→Fe}{n:Nat→ah}{m c:Nat→Nat}{o:List It}{d:Nat}{st:Fe}{i:Nat}(k:Nat)(q:I k)(hC:Hid (fo J KO W0 (c k) R base))(w:m k<i)(v:((e k++st).map λx=>lk es x.1)=(e k++st).map λx=>some x.2)(f:List Nat)(r:(de (f.map λp=>[p]).flatten,(f.map λp=>[p]).map λg=>g.map λp=>L[p]?)=(true,((n k).map λx=>[x]).map λN=>N.map some))(t:(nf S).isEmpty=true:=by kernel_rfl)(y:sz=d:=by rfl):
  Go Fence.wide 5 P R base (yM P J KO W0 Q o I e n m c d st i) S ⟨sz,es⟩ L Ds:=by
 subst y;refine⟨λb W u s=>dD 1000 S ?_⟩;rw[show dh 1000 S=[] from List.isEmpty_iff.1 t];exact⟨k,Ds,R,base,q,hC,w,Fr.told (a:=⟨sz,es⟩) u v,s.under λh=>h.pick f _ r⟩
theorem Tf{I:Nat→Prop}{e:Nat→Fe}{h:Nat→ah}{m c:Nat→Nat}{a:List It}{d:Nat}{st:Fe}{i:Nat}(g:Go Fence.wide 5 P R base Q ((jC S a).getD []) ⟨sz,es⟩ L Ds)(n:(jC S a).isSome=true:=by kernel_rfl):Go Fence.wide 5 P R base (yM P J KO W0 Q a I e h m c d st i) S ⟨sz,es⟩ L Ds:=by
 obtain⟨p,f⟩:=Option.isSome_iff_exists.1 n;rw[f] at g;exact⟨λb W o k=>ts f (g.out b W o k) λ_=>rfl⟩
theorem Tg(n:gp J)(s:Hid (fo J KO W0 j R base))(z:j=xs.length)(m:List Nat)
  (hp:(de (m.map λp=>[p]).flatten,(m.map λp=>[p]).map λg=>g.map λp=>L[p]?)=(true,((KO.map aB.c).map λx=>[x]).map λN=>N.map some):=by kernel_rfl) (d:fn.results.toList=[]:=by kernel_rfl) (v:(nf S).isEmpty=true:=by kernel_rfl):Go Fence.wide 5 P R base (sb P fn J Jx xs.length) S ⟨sz,es⟩ L Ds:=by
 refine⟨λb W y u=>dD 1000 S ?_⟩;rw[show dh 1000 S=[] from List.isEmpty_iff.1 v];have e:aE R base (KO.map .c++Ds.map mk) W:=u.under λh=>h.pick m _ hp;obtain⟨D,f,a⟩:=fo.step s n e;have q:=o8 f;rw[q] at a;obtain⟨O,B,C,F⟩:=a.ex;have t:eh (Ds.map dH) W:=⟨λx i=>a.has.obj x (VF _ i),(List.pairwise_append.1 a.has.nd).2.1⟩;have r:sb P fn J Jx xs.length .ret b W:=E4 (Ds:=Ds) d y.defers t λo w=> .inl ⟨O,by
  rw[←z];refine n _ O W o B (w.turnA λb _ i A=>?_);obtain⟨x,k,rfl⟩:=List.mem_map.1 i;exact absurd (C x k) A⟩
 exact r
end
end
def kg(B M C i:Nat):Nat:=sa M C (i/(B*M*C)) (i%(B*M*C))
def vw(R S B M C:Nat):List Nat:=(VZ ((R+S)*(B*M*C))).map (kg B M C)
theorem Th{R S B M C k i y:Nat}(c:k<R+S)(h:((VZ (B*M*C)).map (sa M C k))[i]? =some y):(vw R S B M C)[k*(B*M*C)+i]? =some y:=by
 have a:i<B*M*C:=by have:=(List.getElem?_eq_some_iff.1 h).1;simpa using this
 rw[Wc,V1 a,Wf] at h;have b:k*(B*M*C)+i<(R+S)*(B*M*C):=by
  have:(k+1)*(B*M*C)≤(R+S)*(B*M*C):=V7 _ c;rw[V4] at this;omega
 unfold vw;rw[Wc,V1 b,Wf];unfold kg;rw[VX k,Wl Om,Wi a,Wm,Wj a,We];exact h
theorem Ti{R S B M C:Nat}(b:cE R S B M C)(k:Nat):hold R S B M C (k:Int) 0 0 0=decide ((k:Int)<((R+S:Nat):Int)):=by
 have a:=b.bd;have c:=a.b1;have d:=a.m1;have e:=a.c1;unfold hold bR;rw[cx (show(0:Int)≤(k:Int) by omega),cx (show(0:Int)<(B:Int) by omega),cx (show(0:Int)<(M:Int) by omega),cx (show(0:Int)<(C:Int) by omega)];simp
theorem Tj(j R S B M C:Nat)(m:cE R S B M C):eX 5 VB 103 #[pt j 0] (λ(i:Nat)=>#[iN i]) (vw R S B M C) (V0 [[(j,.cells #[iN R,iN S,iN B,iN M,iN C] 23 (0,0))]]):=by
 refine S8 (KO:=[[(j,.cells #[iN R,iN S,iN B,iN M,iN C] 23 (0,0))]]) Tryz.func103 (λq O N V T r o G A=>?_);refine ra (λg=>[(2,pt (B0 g) 0)]) (λg=>[ob (B0 g) #[.func (.yield q) #[] #[]] 65]) λg=>r0 [] [(3,i6 0)] [] ?_;refine Td (KO:=[[(j,.cells #[iN R,iN S,iN B,iN M,iN C] 23 (0,0))]]) (λk=>k≤R+S) (λk=>[(3,iN k)]) (λ_ L=>L) (λk=>R+S-k) (λk=>k*(B*M*C)) 0 Om (by rw[Wd];exact A) Kr Kr (λk E Q U I e=>?_);refine r0 [(0,.l 0),(3,.c [] [] (aa.v (qX R S B M C m (k:Int) 0 0 0) λ_=>ALca Value.bool (Ti m k)))] [(8,.bool (decide ((k:Int)<((R+S:Nat):Int))))] [] ?_;refine b0 (k:Int) ((R+S:Nat):Int) (λw n=>?_) λw n=>?_
 ·refine rr (λ_=>[(0,.l 0),(2,.c [] [2,3] (S3 R S B M C k))]) (λa=>[(13,.func (.func 101) #[] #[pt (B2 a) 0,pt ((a 2).y 1) 0])]) [] (λa L=>L++[ob (B2 a) #[iN R,iN S,iN B,iN M,iN C] 23,ob ((a 2).y 1) #[iN k] 3]) λa=>?_;have f:k<R+S:=by omega
  have z:=m.bd.r8;refine Tc (encs:=λ(i:Nat)=>#[iN i]) (λy=>[(4,iN y)]) (LO:=[[((g 0).y 0,.cells #[.func (.yield q) #[] #[]] 65 (0,0))],[((a 2).y 0,.cells #[iN R,iN S,iN B,iN M,iN C] 23 (0,0))],[((a 2).y 1,.cells #[iN k] 3 (0,0))]]) (KI:=[[((a 2).y 0,.cells #[iN R,iN S,iN B,iN M,iN C] 23 (0,0))],[((a 2).y 1,.cells #[iN k] 3 (0,0))]]) r o G e (S2 (B2 a) ((a 2).y 1) R S B M C k m f) (enters_of Tryz.func101 Kr rfl) (λi y h=>Th f h) (λb W h=>gF h) Kr [0,1,2,3] (λx J=>VM _ J) (List.sublist_cons_self _ _) (λK y t v s h=>?asg) (λK y t v s h=>?bod) (λD P u d=>?rest) (λ_=>rfl)
  case asg=>
   refine r0 [] [(4,iN y)] [] ?_;exact E5 λb W H p=>h b W H (by simpa using p)
  case bod=>
   refine S9 2 (λ_=>[(0,.l 1)]) (λ_=>[(15,.func (.yield q) #[] #[]),(16,iN y)]) [] (λ_ L=>L) (vs:=#[iN y]) (λη W F=>h W F) (λη u hA=>?_);refine cF _ rfl ?_;exact E5 λb W _ p=>hA b W (by simpa using p)
  case rest=>
   refine r0 [(1,ad k 1)] [(3,i6 ((k+1:Nat):Int))] [3] ?_;exact Te (k+1) Om (by rw[VU,VO] at d;rw[V4];exact d) Om Kr [0,1] Kr
 refine Tf ?_;exact Tg r e (by unfold vw;rw[VU,VO,show k=R+S by omega]) [0]
section
theorem Tl(R S B M C:Nat):aa VB 67 #[.agg #[iN R,iN S,iN B,iN M,iN C]] [] [] (λE=>[ob (E.y 0) #[iN R,iN S,iN B,iN M,iN C] 23]) (λE=> .func (.func 103) #[] #[pt ((E.y 0)) 0]):=by
 exact fG Tryz.func67 λw cs=>ra (λa=>[(1,pt (B0 a) 0),(2,.nilFunc)]) (λa=>[ob (B0 a) #[iN R,iN S,iN B,iN M,iN C] 23]) λa=>r0 [] [(2,.func (.func 103) #[] #[pt (B0 a) 0])] [2] (lf (.l [(a 0).y 0] [] []) [0] [] [])
theorem Tm{R S B M C:Nat}(c:cE R S B M C){i:Nat}(d:i<(R+S)*(B*M*C)):kg B M C i<8388608∧fP R S B M C ((kg B M C i:Nat):Int)=true:=by
 have b:=c.bd;have l:=b.m1;have k:=b.c1;have f:0<B*M*C:=Nat.pos_of_ne_zero λe=>by rw[e,Nat.mul_zero] at d;omega
 have g:i/(B*M*C)<R+S:=Wv (by rw[VX];exact d);have h:i%(B*M*C)<B*M*C:=Wy _ f;have j:i%(B*M*C)/C/M<B:=by
  rw[Nat.div_div_eq_div_mul];have e:C*M*B=B*M*C:=by rw[VX (C*M) B,VX C M,VR]
  exact Wv (by rw[e];exact h)
 have a:gZ R S B M C (i/(B*M*C)) (i%(B*M*C)/C/M) (i%(B*M*C)/C%M) (i%(B*M*C)%C):=⟨g,j,Wy _ l,Wy _ k⟩;refine⟨xD b a,?_⟩;show fP R S B M C ((bU _ _ _ _:Nat):Int)=true;rw[←uu];exact yt c a.hold
def gA(c:Cf):Nat→Dv
 | 0=>rY
 | k+1=>ib (gA c k) ((kg c.B c.M c.C k:Nat):Int) (gz c.E z6 ((kg c.B c.M c.C k:Nat):Int) false) (bif false then 1 else 0)
theorem yN(c:Cf): ∀k,ia c (gA c k).D∧(∀i,((gA c k).Y i).length=72)∧(gA c k).l.length≤k
 | 0=>⟨QJ c,λ_=>VE,VW _⟩
 | k+1=>by
  obtain⟨a,b,d⟩:=yN c k;refine⟨Ej a _ (rZ _ VE _ _),rV b _ (rZ _ VE _ _),?_⟩;show((gA c k).l++[_]).length≤k+1;rw[VJ];exact VI d
theorem Tn(c:Cf)(k:Nat):gA c (k+1)=ib (gA c k) ((kg c.B c.M c.C k:Nat):Int) (gz c.E z6 ((kg c.B c.M c.C k:Nat):Int) false) (bif false then 1 else 0):=rfl
attribute [local irreducible] gA
theorem To(gd ge:Nat)(c:Cf)(V:Dv):aa VB 113 #[pt ge 0] [pk (bj gd ge c V)] [0] (λ_=>[pk (bj gd ge c V)]) (λ_=> .agg #[iN c.R,iN c.S,iN c.B,iN c.M,iN c.C]):=
 aa.inW (QL ge c V.D) λL ⟨gm,a,v,e⟩=>⟨1,by rw[e];rfl,gm,a,v,by rw[e];rfl⟩
theorem E7(gd ge:Nat)(c:Cf)(V:Dv):aa VB 107 #[pt ge 0] [pk (bj gd ge c V)] [0] (λ_=>[pk (bj gd ge c V)]) (λ_=>iN c.E):=
 aa.inW (yr ge c V.D) λL ⟨gm,a,v,e⟩=>⟨1,by rw[e];rfl,gm,a,v,by rw[e];rfl⟩
theorem Tp(gd ge:Nat)(c:Cf)(d:cY c):aa VB 82 #[.agg (cA c),pt gd 0] [pk (bj gd ge c (gA c 0))] [0] (λE=>[pk (bj gd ge c (gA c ((c.R+c.S)*(c.B*c.M*c.C)))),ob (E.y 0) #[pt ((E.y 1)) 0,pt gd 0,pt ((E.y 2)) 0,i6 0,.slice none 0 0] 119,ob (E.y 1) #[iN c.R,iN c.S,iN c.B,iN c.M,iN c.C,iN c.G,iN c.res,iN c.E,iN c.lr,iN c.er,iN c.lp,iN c.ep,iN c.I,iN c.H,iN c.log,.bool c.W,pt ((E.y 3)) 0,pt ((E.y 4)) 0,pt ((E.y 5)) 0,i6 0] 122,pk (dA (E.y 2)),pk (aq (E.y 3) (((E.y 6))) (((E.y 7))) ⟨lj c.R c.S c.B c.M c.C c.G c.res,lC,[]⟩),pk (aC (E.y 4) (((E.y 8))) (oO c.lr c.er c.lp c.ep c.I c.H c.R)),pk (aA (E.y 5) (oJ c.log))]) (λE=> .tuple #[pt ((E.y 0)) 0,i6 0]):=by
 have p:=d.Q;have v:(c.R+c.S)*(c.B*c.M*c.C)≤4096:=by have u:=p.bd.all;rwa [VR,VR,←VR c.B] at u
 have x:z6.length=64:=VE;refine fG Tryz.func82 λw cs=>ra (λo=>[(2,pt (B0 o) 0),(4,.pointer none),(5,i6 0)]) (λo=>[ob (B0 o) (cA c) 31]) λo=>rF [(0,.l 1),(1,.c [] [] (yd c d))] 10 (rF [(1,.c [0] [0] (yy gd ge c (gA c 0))),(2,.c [0] [0] (To gd ge c (gA c 0))),(5,.l 1),(6,.t (TH.cast (iC 23 λ_ _ _=>jj (xs:=[iN c.R,iN c.S,iN c.B,iN c.M,iN c.C]) (ys:=[iN c.R,iN c.S,iN c.B,iN c.M,iN c.C]) Kr Vm) (show Value.bool (!((c.R:Int)==(c.R:Int)&&((c.S:Int)==(c.S:Int)&&((c.B:Int)==(c.B:Int)&&((c.M:Int)==(c.M:Int)&&((c.C:Int)==(c.C:Int)&&true))))))= .bool false from ALca Value.bool (by simp))))] 14 (rF [(1,.c [0] [0] (yy gd ge c (gA c 0))),(2,.c [0] [0] (E7 gd ge c (gA c 0))),(4,.l 1),(5,.t (tk (show Value.bool ((c.E:Int) != (c.E:Int))= .bool false from ALca Value.bool (by simp))))] 22 (rr (λ_=>[(0,.l 1),(1,.c [] [2,3,4,5] (PA c d))]) (λa=>[(6,pt ((B1 a)) 0),(7,i6 0)]) [] (λa L=>L++[ob (B1 a) #[iN c.R,iN c.S,iN c.B,iN c.M,iN c.C,iN c.G,iN c.res,iN c.E,iN c.lr,iN c.er,iN c.lp,iN c.ep,iN c.I,iN c.H,iN c.log,.bool c.W,pt (((a 1).y 1)) 0,pt (((a 1).y 2)) 0,pt (((a 1).y 3)) 0,i6 0] 122,pk (aq ((a 1).y 1) (((a 1).y 4)) (((a 1).y 5)) ⟨lj c.R c.S c.B c.M c.C c.G c.res,lC,[]⟩),pk (aC ((a 1).y 2) (((a 1).y 6)) (oO c.lr c.er c.lp c.ep c.I c.H c.R)),pk (aA ((a 1).y 3) (oJ c.log))]) λa=>rF [] 35 (rr (λ_=>[(2,.c [] [6] (Q7)),(6,.s 8)]) (λb=>[(8,pt (B5 b) 0)]) [] (λb L=>L++[pk (dA (B2 b)),ob (B4 b) #[pt ((B1 a)) 0,pt gd 0,pt ((B2 b)) 0,i6 0,.slice none 0 0] 119,ob (B5 b) #[pt (B4 b) 0] 37]) λb=>rr (λ_=>[(2,.l 1),(3,.c [] [9] (Tl c.R c.S c.B c.M c.C))]) (λh=>[(45,.func (.func 103) #[] #[pt ((B3 h)) 0])]) [] (λh L=>L++[ob (B3 h) #[iN c.R,iN c.S,iN c.B,iN c.M,iN c.C] 23]) λh=>?_))));refine ny (encs:=λ(i:Nat)=>#[iN i]) (xs:=(VZ ((c.R+c.S)*(c.B*c.M*c.C))).map (kg c.B c.M c.C)) (KO:=[[((B3 h),.cells #[iN c.R,iN c.S,iN c.B,iN c.M,iN c.C] 23 (0,0))]]) (Tj (B3 h) c.R c.S c.B c.M c.C p) (enters_of Tryz.func103 Kr rfl) (λk=>k≤(c.R+c.S)*(c.B*c.M*c.C)) (λk L=>L.set 0 ((pk (bj gd ge c (gA c k))))) [9] Om Kr (λD k F z B r e=>?_) (λy e=>?_)
 ·obtain⟨g,rfl⟩:=nn r;have j:=Tm p g;have m:=j.1;have n:=j.2;have f:=yN c k;have q:m8 c (gA c k):=⟨f.1,f.2.1,VC f.2.2 Om⟩;refine r0 [] [(9,i6 ((kg c.B c.M c.C k:Nat):Int))] [] ?_;refine ag [9] (λA C=>?_);exact rs [(0,.l 8),(3,.c [7,2,6,0] [6,0] (oZ (B4 b) (B1 a) ((a 1).y 1) ((a 1).y 2) ((a 1).y 3) gd ge (B2 b) c d 0 0 (.slice none 0 0) (gA c k) q (kg c.B c.M c.C k) m n z6 Vm false))] 0 ((pk (bj gd ge c (ib (gA c k) ((kg c.B c.M c.C k):Int) (gz c.E z6 ((kg c.B c.M c.C k):Int) false) (bif false then 1 else 0))))) (ne _ ⟨Om,rfl⟩ [0,1,2,3,4,5,6,7,8,9] (by rw[Tn];kernel_rfl))
 refine cl [pk (bj gd ge c (gA c ((c.R+c.S)*(c.B*c.M*c.C)))),ob (B0 o) (cA c) 31,ob (B1 a) #[iN c.R,iN c.S,iN c.B,iN c.M,iN c.C,iN c.G,iN c.res,iN c.E,iN c.lr,iN c.er,iN c.lp,iN c.ep,iN c.I,iN c.H,iN c.log,.bool c.W,pt (((a 1).y 1)) 0,pt (((a 1).y 2)) 0,pt (((a 1).y 3)) 0,i6 0] 122,pk (aq ((a 1).y 1) (((a 1).y 4)) (((a 1).y 5)) ⟨lj c.R c.S c.B c.M c.C c.G c.res,lC,[]⟩),pk (aC ((a 1).y 2) (((a 1).y 6)) (oO c.lr c.er c.lp c.ep c.I c.H c.R)),pk (aA ((a 1).y 3) (oJ c.log)),pk (dA (B2 b)),ob (B4 b) #[pt ((B1 a)) 0,pt gd 0,pt ((B2 b)) 0,i6 0,.slice none 0 0] 119,ob (B5 b) #[pt (B4 b) 0] 37,ob (B3 h) #[iN c.R,iN c.S,iN c.B,iN c.M,iN c.C] 23] (by rw[VU,VO];kernel_rfl) ?_;simp only[VU,VO] at e;exact r0 [(0,.l 8)] [(4,pt (B4 b) 0),(5,i6 0)] [4,5] (lf (.l [(b 4).y 0,(B1 a),(B2 b),((a 1).y 1),((a 1).y 2),((a 1).y 3),(a 1).y 4,(a 1).y 5,(a 1).y 6] [] []) [0,7,2,6,3,4,5] [] [])
end
theorem aa.outsP{P:Program}{f:FuncId}{args:Array Value}{rd:ah}{O:List Nat}{wt wt':ab→ah}{v:ab→Value}(h:aa P f args rd O wt v)(o: ∀E ds,bl (wt E) ds→∃a,bl (wt' E) a∧Wo a.flatten ds.flatten):aa P f args rd O wt' v:=
 ⟨h.ent,λw cs m l=>(callsIn_wide (n:=6)).1 ((callsIn_wide.2 (h.out w cs m l)).mono λe p k=>by
  obtain⟨E,ds,g,i,b⟩:=k;obtain⟨a,j,c⟩:=o E ds i;exact⟨E,a,g,j,⟨b.os,b.tape,b.output,b.size,λx d=>b.obj x (c.mem_iff.1 d),λx d=>b.new x (c.mem_iff.1 d),(c.pairwise_iff (λ{x y} h=>Ne.symm h)).2 b.nd,b.far⟩⟩)⟩
theorem Tq{ds:List aw}{is js:List Nat}(h:Wo is js):Wo (is.map λi=>ds.getD i []).flatten (js.map λi=>ds.getD i []).flatten:=(h.map _).flatten
def sd(c:Cf):Ct:=⟨⟨⟨lj c.R c.S c.B c.M c.C c.G c.res,lC,[]⟩,oO c.lr c.er c.lp c.ep c.I c.H c.R,oJ c.log,0⟩,0,[],gA c ((c.R+c.S)*(c.B*c.M*c.C))⟩
def ao(c:Cf):Mc:=⟨sd c,λ_=>o0,[],[],0,0⟩
theorem Tr(gd ge:Nat)(c:Cf)(j:cY c):aa VB 82 #[.agg (cA c),pt gd 0] [pk (bj gd ge c rY)] [0] (λE=>[pk (aQ (E.y 0) (E.y 1) (E.y 3) (E.y 6) (E.y 7) (E.y 4) (E.y 8) (E.y 5) gd ge (E.y 2) c (sd c))]) (λE=> .tuple #[pt (E.y 0) 0,i6 0]):=by
 refine(Tp gd ge c j).outsP λE ds a=>?_;obtain⟨b,_,rfl,k,a⟩:=cD a;obtain⟨d,_,rfl,l,a⟩:=cD a;obtain⟨e,_,rfl,m,a⟩:=cD a;obtain⟨f,_,rfl,n,a⟩:=cD a;obtain⟨g,_,rfl,o,a⟩:=cD a;obtain⟨h,_,rfl,p,a⟩:=cD a;obtain⟨i,_,rfl,q,a⟩:=cD a;obtain rfl:=mJ a;refine⟨[([d,e,g,h,i,f,b,[]]:List aw).flatten],⟨⟨_,[d,e,g,h,i,f,b,[]],⟨.slice none 0 0,rfl⟩,⟨l,m,o,p,q,n,k,ar.nil none,trivial⟩,rfl⟩,trivial⟩,?_⟩;have hp:=Tq (ds:=[b,d,e,f,g,h,i]) (is:=[1,2,4,5,6,3,0]) (js:=[0,1,2,3,4,5,6]) Dc;simpa using hp
theorem Ts(c:Cf)(e:cY c):aa VB 48 #[.agg (cA c)] [] [] (λE=>[ob (E.y 0) #[pt ((E.y 10)) 0,pt ((E.y 1)) 0,.map (some (E.y 2)),.slice none 0 0,.slice none 0 0,i6 0,i6 0] 114,pk (aQ (E.y 1) ((E.y 3)) ((E.y 4)) ((E.y 5)) ((E.y 6)) ((E.y 7)) ((E.y 8)) ((E.y 9)) ((E.y 10)) ((E.y 11)) ((E.y 12)) c (sd c)),cV (λ_=>o0) (E.y 2)]) (λE=> .tuple #[pt ((E.y 0)) 0,i6 0]):=by
 exact fG Tryz.func48 λw cs=>ra (λf=>[(1,pt (B0 f) 0),(2,.pointer none),(3,i6 0)]) (λf=>[ob (B0 f) (cA c) 31]) λf=>rr (λ_=>[(2,.l 0),(4,.l 0),(5,.c [] [1] (Q6 c e))]) (λb=>[(4,pt ((B5 b)) 0),(5,i6 0)]) [] (λb L=>L++[pk (bj (B5 b) ((b 5).y 1) c rY)]) λb=>rF [] 17 (rr (λ_=>[(0,.l 0),(2,.c [1] [1] (Tr (B5 b) ((b 5).y 1) c e))]) (λa=>[(6,pt ((B2 a)) 0),(5,i6 0)]) [5] (λa L=>L.set 1 ((pk (aQ (B2 a) ((a 2).y 1) ((a 2).y 3) ((a 2).y 6) ((a 2).y 7) ((a 2).y 4) ((a 2).y 8) ((a 2).y 5) (B5 b) ((b 5).y 1) ((a 2).y 2) c (sd c))))) λa=>rF [] 26 (rr (λ_=>[(2,.m (mm 2 vr o0))]) (λd=>[(2,pt (B4 d) 0),(3,i6 0)]) [2,3] (λd L=>L++[cV (λ_=>o0) (B2 d),ob (B4 d) #[pt ((B5 b)) 0,pt ((B2 a)) 0,.map (some (B2 d)),.slice none 0 0,.slice none 0 0,i6 0,i6 0] 114]) λd=>lf (.l [(d 4).y 0,(B2 a),(d 2).y 0,(a 2).y 1,(a 2).y 3,(a 2).y 6,(a 2).y 7,(a 2).y 4,(a 2).y 8,(a 2).y 5,(b 5).y 0,(b 5).y 1,(a 2).y 2] [] []) [3,1,2] [] []))
theorem Tt{R S B M C way a:Nat}(h:g5 R S B M C way a):bo (lj R S B M C way a):=
 ⟨h,VO,VE,VE,VP _,VP _,λi c=>by
  show(VZ _).getD i 0<_;have b:i<R*B*M-a:=c;rw[VD,V1 b];show i<R*B*M;omega,λi c=> .inl (by
  show(VA R (-1:Int)).getD i 0= -1;have b:i<R:=c;rw[VD,VL,ALifp b];rfl)⟩
theorem E8{α:Type}(n i:Nat)(d:α):(VA n d).getD i d=d:=by
 rw[VD,VL]
 split<;>rfl
theorem Tu{ev:Nat}(h:1≤ev):eS ev bg.l bg.a:=⟨VP _,h⟩
theorem Tv{c:Cf}(h:cY c):cS (sd c).s 1:=by
 refine⟨⟨Tt h.ly,⟨.inl rfl⟩,λa d=>absurd d Wh,VP _,⟨λx _=>E8 _ _ _⟩⟩,⟨h.r,h.p,h.h1,h.h2,?_,λi b=>?_,⟨VP _,h.m1,h.m2,λi b=>absurd b (WC _)⟩⟩,⟨VP _,h.l1,h.l2,by show 1≤1000000000;omega⟩,VW _,VE⟩
 ·have e:=h.Q.bd.r8;show(VA c.R bg).length≤8;rw[VE];omega
 ·show eS c.er ((VA c.R bg).getD i bg).l ((VA c.R bg).getD i bg).a;rw[E8];exact Tu h.r.e1
theorem Tw{c:Cf}(h:cY c):eL c (ao c) 1 4096 0:=by
 have b:=h.Q.bd;have a:(c.R+c.S)*(c.B*c.M*c.C)≤4096:=by have g:=b.all;rwa [VR,VR,←VR c.B] at g
 obtain⟨d,e,f⟩:=yN c ((c.R+c.S)*(c.B*c.M*c.C));refine⟨⟨h,Tv h,d,e,VC f a,VP _,⟨rfl,rfl,rfl,rfl,rfl,rfl,rfl⟩,λq=>absurd rfl q,?_,VP _⟩,λ_=>VE,VP _,VP _,VP _,VP _⟩;have:=h.ly.rp;exact Nat.mul_pos Om b.c1
theorem Tx(c:Cf)(a:cY c):aa VB 48 #[.agg (cA c)] [] [] (λE=>[pk (aP (E.y 0) (E.y 1) (E.y 3) (E.y 4) (E.y 5) (E.y 6) (E.y 7) (E.y 8) (E.y 9) (E.y 10) (E.y 11) (E.y 12) c (ao c))]) (λE=> .tuple #[pt (E.y 0) 0,i6 0]):=
 (Ts c a).outs λE d b=>En ⟨_,_,_,rfl⟩ b
theorem Ty{j k:Nat}(b:k≤j)(h:(((2^j:Nat):Int)==((2^k:Nat):Int))=false):k+1≤j:=by
 rcases Nat.lt_or_ge k j with a | a
 ·exact a
 ·obtain rfl:k=j:=Nat.le_antisymm b a;simp at h
theorem E9{j k a:Nat}(b:k≤j)(h:2^j≤a):((2^k:Nat):Int)≤(a:Int):=by
 have:=Nat.pow_le_pow_right (n:=2) Dc b;omega
theorem Tz(j a:Nat)(h:2^j≤a)(i:a≤1024):aa VB 111 #[i6 ((2^j:Nat):Int),iN a] [] [] N0 (λ_=> .bool true):=by
 refine fG Tryz.func111 λw cs=>r0 [] [(4,.bool false)] [] (r0 [] [(5,i6 1)] [] ?_);refine lq (λk=>k≤j) (λk=>[(5,i6 ((2^k:Nat):Int))]) (λ_ L=>L) (λk=>j-k) 0 Om Kr Kr (λk c=>?_);have d:=c;have f:=E9 d h;refine rT [(2,.t (tk (show Value.bool (decide (((2^k:Nat):Int)≤(a:Int)))= .bool true from ALca Value.bool (by exact cx (E9 As h)))))] 8 (r0 [] [(13,.bool (((2^j:Nat):Int)==((2^k:Nat):Int)))] [] ?_);refine cO ((2^j:Nat):Int) ((2^k:Nat):Int) (λe b=>?_) λe b=>?_
 ·exact r0 [] [(4,.bool true)] [] (lf ab.zero [] [] [])
 refine r0 [(1,ml (2^k) 2)] [(5,i6 (((2^k)*2:Nat):Int))] [5] ?_;have g:k+1≤j:=Ty As As;exact le (k+1) Om Om Kr [] Kr
theorem TA{n b:Nat}(f:b≤1024)(h:fg (n:Int) (b:Int)=true): ∃j,n=2^j∧2^j≤b:=by
 have c:=Cv Om h;have d:=ma h;simp only[List.mem_cons,Wh,or_false] at c;have a: ∀j,n=2^j→∃j,n=2^j∧2^j≤b:=λj e=>⟨j,e,by rw[←e];omega⟩;rcases c with h | h | h | h | h | h | h | h | h | h | h
 ·exact a 0 h
 ·exact a 1 h
 ·exact a 2 h
 ·exact a 3 h
 ·exact a 4 h
 ·exact a 5 h
 ·exact a 6 h
 ·exact a 7 h
 ·exact a 8 h
 ·exact a 9 h
 ·exact a 10 h
theorem vx(n a:Nat)(b:a≤1024)(h:fg (n:Int) (a:Int)=true):aa VB 111 #[iN n,iN a] [] [] N0 (λ_=> .bool true):=by
 obtain⟨j,rfl,c⟩:=TA b h;exact Tz j a c b
structure TB (R S B M C:Nat):Prop where
 r:fg (R:Int) 8=true
 b:fg (B:Int) 16=true
 m:fg (M:Int) 1024=true
 c:fg (C:Int) 64=true
theorem cE.p{R S B M C:Nat}(h:cE R S B M C):TB R S B M C:=by
 have h:=h.ok;unfold iJ at h;simp only[Wg,decide_eq_true_eq] at h;obtain⟨⟨⟨⟨⟨⟨a,e⟩,f⟩,b⟩,c⟩,d⟩,g⟩:=h;exact⟨a,b,c,d⟩
theorem TC(R S B M C:Nat)(g:cE R S B M C):aa VB 80 #[.agg #[iN R,iN S,iN B,iN M,iN C]] [] [] N0 (λ_=> .bool true):=by
 have b:=g.p;have a:=g.bd;have l:=a.r8;have i:=a.b16;have h:=a.m10;have j:=a.c64;have e:=a.all;have f:(R+S)*B*M≤4096:=VC (VY _ a.c1) e;have k:(R+S)*B≤4096:=VC (VY _ a.m1) f;exact fG Tryz.func80 λw cs=>ra (λd=>[(1,pt (B0 d) 0),(2,.bool false)]) (λd=>[ob (B0 d) #[iN R,iN S,iN B,iN M,iN C] 170]) λd=>rF [(1,.m (ld 0 (iN R))),(2,.c [] [] (vx R 8 Om (by exact b.r))),(6,.m (ld 0 (iN B))),(7,.c [] [] (vx B 16 Om (by exact b.b))),(12,.m (ld 0 (iN M))),(13,.c [] [] (vx M 1024 Om (by exact b.m))),(18,.m (ld 0 (iN C))),(19,.c [] [] (vx C 64 Om (by exact b.c))),(24,.m (ld 0 (iN S))),(25,.t (tk (show Value.bool (decide ((S:Int)<0))= .bool false from ALca Value.bool (by exact bh Om)))),(29,.m (ld 0 (iN S))),(31,.m (ld 0 (iN R))),(32,sI 8 ((R:Int)) Om),(33,.t (tk (show Value.bool (decide ((8-(R:Int))<(S:Int)))= .bool false from ALca Value.bool (by exact bh Om))))] 37 (r0 [(1,.m (ld 0 (iN R))),(3,.m (ld 0 (iN S))),(4,ad R S),(6,.m (ld 0 (iN B))),(7,ml (R+S) B),(9,.m (ld 0 (iN M))),(10,ml ((R+S)*B) M),(12,.m (ld 0 (iN C))),(13,ml (((R+S)*B)*M) C),] [(2,.bool (decide ((((((R+S)*B)*M)*C:Nat):Int)≤4096)))] [2] (ak (.bool (decide ((((((R+S)*B)*M)*C:Nat):Int)≤4096))) ab.zero (by exact ALca Value.bool (cx Om)) [] [] []))
theorem TE(r s b m c way g mode n j k i a heavy f:Int)(e:Bool)(h:mq r s b m c way g mode n j k i a heavy f=false):aa VB 47 #[.agg #[i6 r,i6 s,i6 b,i6 m,i6 c,i6 way,i6 g,i6 mode,i6 n,i6 j,i6 k,i6 i,i6 a,i6 heavy,i6 f,.bool e]] [] [] N0 (λ_=> .bool false):=by
 exact fG Tryz.func47 λw cs=>ra (λo=>[(1,pt (B0 o) 0),(2,.bool false)]) (λo=>[ob (B0 o) #[i6 r,i6 s,i6 b,i6 m,i6 c,i6 way,i6 g,i6 mode,i6 n,i6 j,i6 k,i6 i,i6 a,i6 heavy,i6 f,.bool e] 31]) λo=>rr (λ_=>[(2,.l 0),(4,.s 1)]) (λp=>[(3,pt (B3 p) 0)]) [] (λp L=>L++[ob (B3 p) #[i6 r,i6 s,i6 b,i6 m,i6 c] 23]) λp=>r0 [(0,.m (ls 0 ([i6 r,i6 s,i6 b,i6 m,i6 c,i6 way,i6 g,i6 mode,i6 n,i6 j,i6 k,i6 i,i6 a,i6 heavy,i6 f,.bool e]))),(1,.c [] [] (aa.v ((DI r s b m c way g mode n j k i a heavy f e)) λ_=>ALca Value.bool (show(mq r s b m c way g mode n j k i a heavy f)=false from(by exact h)))),(3,.d),(4,.d),(7,.d),(8,.d),(9,.d),(10,.d),(11,.d),(12,.d),(13,.d),(14,.d),(15,.d),(16,.d),(17,.d),(18,.d),(19,.d),(20,.d),(21,.d)] [(2,.bool false)] [2] (lf ab.zero [] [] [])
theorem Fb(c:Cf)(b:cY c):aa VB 47 #[.agg (cA c)] [] [] N0 (λ_=> .bool (decide ((((((c.R+c.S)*c.B)*c.M)*c.C:Nat):Int)≤100))):=by
 have h:=b.Q;have a:=h.bd;have j:=a.r8;have f:=a.all;have g:(c.R+c.S)*c.B*c.M≤4096:=VC (VY _ a.c1) f;have i:(c.R+c.S)*c.B≤4096:=VC (VY _ a.m1) g;exact fG Tryz.func47 λw cs=>ra (λd=>[(1,pt (B0 d) 0),(2,.bool false)]) (λd=>[ob (B0 d) (cA c) 31]) λd=>rr (λ_=>[(2,.l 0),(4,.s 1)]) (λe=>[(3,pt (B3 e) 0)]) [] (λe L=>L++[ob (B3 e) #[iN c.R,iN c.S,iN c.B,iN c.M,iN c.C] 23]) λe=>r0 [(0,.m (ls 0 ([iN c.R,iN c.S,iN c.B,iN c.M,iN c.C,iN c.G,iN c.res,iN c.E,iN c.lr,iN c.er,iN c.lp,iN c.ep,iN c.I,iN c.H,iN c.log,.bool c.W]))),(1,.c [] [] (yd c b)),(3,.m (ls 1 ([iN c.R,iN c.S,iN c.B,iN c.M,iN c.C]))),(4,.c [] [] (TC c.R c.S c.B c.M c.C h)),(8,.m (ld 1 (iN c.R))),(10,.m (ld 1 (iN c.S))),(11,ad c.R c.S),(13,.m (ld 1 (iN c.B))),(14,ml (c.R+c.S) c.B),(16,.m (ld 1 (iN c.M))),(17,ml ((c.R+c.S)*c.B) c.M),(19,.m (ld 1 (iN c.C))),(20,ml (((c.R+c.S)*c.B)*c.M) c.C),] [(2,.bool (decide ((((((c.R+c.S)*c.B)*c.M)*c.C:Nat):Int)≤100)))] [2] (lf ab.zero [] [] [])
def mC(c:Cf):Bool:=decide ((c.R+c.S)*c.B*c.M*c.C≤100)
theorem TF(r s b m c way f mode k i j g a heavy e:Int)(d:Bool)(h:mq r s b m c way f mode k i j g a heavy e=false):aa VB 12 #[.agg #[i6 r,i6 s,i6 b,i6 m,i6 c,i6 way,i6 f,i6 mode,i6 k,i6 i,i6 j,i6 g,i6 a,i6 heavy,i6 e,.bool d]] [] [] N0 (λ_=> .pointer none):=by
 exact fG Tryz.func12 λw cs=>ra (λn=>[(1,pt (B0 n) 0),(2,.pointer none)]) (λn=>[ob (B0 n) #[i6 r,i6 s,i6 b,i6 m,i6 c,i6 way,i6 f,i6 mode,i6 k,i6 i,i6 j,i6 g,i6 a,i6 heavy,i6 e,.bool d] 31]) λn=>rT [(0,.l 0),(1,.c [] [] (TE r s b m c way f mode k i j g a heavy e d h))] 7 (r0 [] [(2,.pointer none)] [2] (lf ab.zero [] [] []))
theorem Fc(x:Int):aa VB 173 #[i6 x] [] [] N0 (λ_=> .agg (rB 3 ([aN x,aN (x/256),(aN (x/65536))&&& (127:UInt8)])).toArray):=by
 exact fG Tryz.func173 λw cs=>ra (λe=>[(2,pt (B0 e) 0)]) (λe=>[ob (B0 e) (rB 3 (VA 3 0)).toArray 262]) λe=>rs [(1,.t (tc (k:= .i64) (l:= .u8) (a:=i6 x) λ_ _ _ c d=>n2 c d)),(3,.t (tv (av .shr 3 (.tmp 5) (.const (u6 8)) (i6 x) (u6 8)) (λ_=>ie 8 Dc))),(4,.t (tc (k:= .i64) (l:= .u8) (a:=i6 (x/256)) λ_ _ _ c d=>n2 c d)),(6,.t (tv (av .shr 3 (.tmp 8) (.const (u6 16)) (i6 x) (u6 16)) (λ_=>ie 16 Dc))),(7,.t (tc (k:= .i64) (l:= .u8) (a:=i6 (x/65536)) λ_ _ _ c d=>n2 c d)),(8,.t (tb (a:=u1 ((aN (x/65536)).toNat:Int)) (b:=u1 127) λ_ _ _ _=>wb (aN (x/65536)) ((127:UInt8)))),(10,.s 0)] 0 (ob (B0 e) (rB 3 ([aN x,aN (x/256),(aN (x/65536))&&& (127:UInt8)])).toArray 262) (lf ab.zero [] [] [0])
def n0(mode:Nat)(a b:Int):Bool:=(bif (mode:Int)==1 then((pc ((a%8388608).toNat)%2:Nat):Int) != ((pc ((b%8388608).toNat)%2:Nat):Int) else !(decide ([aN a,aN (a/256),(aN (a/65536))&&& (127:UInt8)]=[aN b,aN (b/256),(aN (b/65536))&&& (127:UInt8)])))
theorem TG(mode:Nat)(a b:Int):aa VB 135 #[iN mode,i6 a,i6 b] [] [] N0 (λ_=> .bool (n0 mode a b)):=by
 refine fG Tryz.func135 λw cs=>r0 [] [(6,.bool false)] [] (r0 [] [(8,.bool ((mode:Int)==1))] [] ?_);refine cO (mode:Int) 1 (λe d=>?_) λe d=>?_
 ·exact r0 [(1,.c [] [] (uc a)),(3,.c [] [] (uc b))] [(6,.bool (((pc ((a%8388608).toNat)%2:Nat):Int) != ((pc ((b%8388608).toNat)%2:Nat):Int)))] [6] (ak (.bool (((pc ((a%8388608).toNat)%2:Nat):Int) != ((pc ((b%8388608).toNat)%2:Nat):Int))) ab.zero (by((try simp only[n0]);(repeat (first | rw[e] | rw[ALct])))<;>rfl) [] [] [])
 exact r0 [(1,.c [] [] (Fc a)),(3,.c [] [] (Fc b)),(4,.t (iC 262 λ_ _ _=>jj (xs:=rB 3 ([aN a,aN (a/256),(aN (a/65536))&&& (127:UInt8)])) (ys:=rB 3 ([aN b,aN (b/256),(aN (b/65536))&&& (127:UInt8)])) Kr (ji (show([aN a,aN (a/256),(aN (a/65536))&&& (127:UInt8)]).length=3 by rfl) (show([aN b,aN (b/256),(aN (b/65536))&&& (127:UInt8)]).length=3 by rfl))))] [(6,.bool (!(decide ([aN a,aN (a/256),(aN (a/65536))&&& (127:UInt8)]=[aN b,aN (b/256),(aN (b/65536))&&& (127:UInt8)]))))] [6] (ak (.bool (!(decide ([aN a,aN (a/256),(aN (a/65536))&&& (127:UInt8)]=[aN b,aN (b/256),(aN (b/65536))&&& (127:UInt8)])))) ab.zero (by((try simp only[n0]);(repeat (first | rw[e] | rw[ALcf])))<;>rfl) [] [] [])
def se(a:Int)(x:Ac):Int:=(bif !(oV x) then max a (bif x.mr then(x.ex+1) else x.ex) else a)
def sf(a:Bool)(x:Ac):Bool:=(bif !(oV x) then a else true)
def sh(dr:Bool)(x:Ac):Bool:=(bif !(oV x) then dr else(dr||x.dr)||(decide (0<x.ex)))
def si(tl:Bool)(mode:Nat)(x:Ac):Bool:=(bif !(oV x) then tl else(bif ((!x.wr)&&(!x.dr))&&(!(n0 mode x.ix x.wt)) then false else tl))
theorem TI(e:Int)(b d f:Bool)(mode:Nat)(x:Ac)(h0:0≤x.ex)(h1:x.ex≤1000000):aa VB 108 #[.agg #[i6 e,.bool b,.bool d,.bool f],iN mode,.agg #[.bool x.wr,i6 x.ix,i6 x.wt,.bool x.dr,i6 x.ex,.bool x.mr]] [] [] N0 (λ_=> .agg #[i6 (se e x),.bool (sf b x),.bool (sh d x),.bool (si f mode x)]):=by
 refine fG Tryz.func108 λw cs=>ra (λa=>[(3,pt (B0 a) 0),(5,pt (B1 a) 0),(6,pt (B2 a) 0)]) (λa=>[ob (B0 a) #[i6 e,.bool b,.bool d,.bool f] 166,ob (B1 a) #[.bool x.wr,i6 x.ix,i6 x.wt,.bool x.dr,i6 x.ex,.bool x.mr] 90,ob (B2 a) #[i6 0,.bool false,.bool false,.bool false] 166]) λa=>r0 [(0,.l 1),(1,.c [] [] (Q5 x))] [(10,.bool (!(oV x)))] [] ?_;refine cB (!(oV x)) (λh=>?_) λh=>?_
 ·refine r0 [(1,.l 1)] [(7,i6 x.ex)] [] (r0 [(1,.l 1)] [(14,.bool x.mr)] [] ?_);refine cJ (x.mr) (λc=>[(7,i6 (bif c then(x.ex+1) else x.ex))]) (λ_=>[ob (B0 a) #[i6 e,.bool b,.bool d,.bool f] 166,ob (B1 a) #[.bool x.wr,i6 x.ix,i6 x.wt,.bool x.dr,i6 x.ex,.bool x.mr] 90,ob (B2 a) #[i6 0,.bool false,.bool false,.bool false] 166]) (λi=>?_) (λi=>?_) ?_
  ·refine r0 [(1,aI x.ex (1) Om)] [(7,i6 (x.ex+1))] [7] ?_;exact cm Kr [0,1,2] Kr
  ·exact cm Kr [0,1,2] Kr
  exact rs [(1,.l 0),(3,.t (tv (Builtin.max_ #[3,3] 3 #[i6 e,i6 (bif x.mr then(x.ex+1) else x.ex)]) (λ_=>qu _ _ _ _))),(5,.s 0)] 0 (ob (B0 a) #[i6 (max e (bif x.mr then(x.ex+1) else x.ex)),.bool b,.bool d,.bool f] 166) (rs [(0,.l 0),(1,.s 2)] 2 (ob (B2 a) #[i6 (max e (bif x.mr then(x.ex+1) else x.ex)),.bool b,.bool d,.bool f] 166) (ak (.agg #[i6 (max e (bif x.mr then(x.ex+1) else x.ex)),.bool b,.bool d,.bool f]) ab.zero (by((try simp only[se,sf,sh,si]);(repeat (first | rw[h] | rw[ALct])))<;>rfl) [] [] [2]))
 refine rs [(1,.s 0)] 0 (ob (B0 a) #[i6 e,.bool true,.bool d,.bool f] 166) (rs [(1,.m (ld 0 (.bool d))),(5,.m (ld 1 (.bool x.dr))),(9,.m (ld 1 (i6 x.ex))),(13,.s 0)] 0 (ob (B0 a) #[i6 e,.bool true,.bool ((d||x.dr)||(decide (0<x.ex))),.bool f] 166) (r0 [(1,.m (ld 1 (.bool x.wr))),(6,.m (ld 1 (.bool x.dr))),(12,.m (ld 1 (i6 x.ix))),(15,.m (ld 1 (i6 x.wt))),(16,.c [] [] (TG mode x.ix x.wt))] [(55,.bool (((!x.wr)&&(!x.dr))&&(!(n0 mode x.ix x.wt))))] [] ?_));refine cJ (((!x.wr)&&(!x.dr))&&(!(n0 mode x.ix x.wt))) N0 (λc=>[ob (B0 a) #[i6 e,.bool true,.bool ((d||x.dr)||(decide (0<x.ex))),.bool (bif c then false else f)] 166,ob (B1 a) #[.bool x.wr,i6 x.ix,i6 x.wt,.bool x.dr,i6 x.ex,.bool x.mr] 90,ob (B2 a) #[i6 0,.bool false,.bool false,.bool false] 166]) (λg=>?_) (λg=>?_) ?_
 ·refine rr (λ_=>[(1,.s 0)]) N0 [] (λ_ L=>L.set 0 (ob (B0 a) #[i6 e,.bool true,.bool ((d||x.dr)||(decide (0<x.ex))),.bool false] 166)) λj=>?_;exact cm Kr [0,1,2] Kr
 ·exact cm Kr [0,1,2] Kr
 exact rs [(0,.l 0),(1,.s 2)] 2 (ob (B2 a) #[i6 e,.bool true,.bool ((d||x.dr)||(decide (0<x.ex))),.bool (bif ((!x.wr)&&(!x.dr))&&(!(n0 mode x.ix x.wt)) then false else f)] 166) (ak (.agg #[i6 e,.bool true,.bool ((d||x.dr)||(decide (0<x.ex))),.bool (bif ((!x.wr)&&(!x.dr))&&(!(n0 mode x.ix x.wt)) then false else f)]) ab.zero (by((try simp only[se,sf,sh,si]);(repeat (first | rw[h] | rw[ALcf])))<;>rfl) [] [] [2])
section
section
variable {f:FuncId} {args:Array Value} {v:ab→Value} {g gc gl gr gm gq gk gt gg gd ge go:Nat} {c:Cf} {x:Mc} {y:Ct}
theorem kM(h:aa VB f args [pk (aQ gc gl gr gm gq gk gt gg gd ge go c x.x)] [0] (λ_=>[pk (aQ gc gl gr gm gq gk gt gg gd ge go c x.x)]) v):aa VB f args [pk (aP g gc gl gr gm gq gk gt gg gd ge go c x)] [0] (λ_=>[pk (aP g gc gl gr gm gq gk gt gg gd ge go c x)]) v:=
 aa.inW h λL ⟨gi,a,vs,e⟩=>⟨1,by rw[e];rfl,gi,a,vs,by rw[e];rfl⟩
theorem vy(h:aa VB f args [pk (aq gr gm gq y.s.r)] [0] (λ_=>[pk (aq gr gm gq y.s.r)]) v):aa VB f args [pk (aQ gc gl gr gm gq gk gt gg gd ge go c y)] [0] (λ_=>[pk (aQ gc gl gr gm gq gk gt gg gd ge go c y)]) v:=
 aa.inW h λL ⟨u,e⟩=>⟨2,by rw[e];rfl,u,by rw[e];rfl⟩
theorem yO(h:aa VB f args [pk (aA gg y.s.g)] [0] (λ_=>[pk (aA gg y.s.g)]) v):aa VB f args [pk (aQ gc gl gr gm gq gk gt gg gd ge go c y)] [0] (λ_=>[pk (aQ gc gl gr gm gq gk gt gg gd ge go c y)]) v:=
 aa.inW h λL ⟨u,e⟩=>⟨4,by rw[e];rfl,u,by rw[e];rfl⟩
theorem Ff(h:aa VB f args [pk (bj gd ge c y.V)] [0] (λ_=>[pk (bj gd ge c y.V)]) v):aa VB f args [pk (aQ gc gl gr gm gq gk gt gg gd ge go c y)] [0] (λ_=>[pk (aQ gc gl gr gm gq gk gt gg gd ge go c y)]) v:=
 aa.inW h λL ⟨u,e⟩=>⟨6,by rw[e];rfl,u,by rw[e];rfl⟩
end
theorem TJ(gc gl gr gm gq gk gt gg gd ge go:Nat)(c:Cf)(x:Ct):aa VB 22 #[pt gc 0] [pk (aQ gc gl gr gm gq gk gt gg gd ge go c x)] [0] (λ_=>[pk (aQ gc gl gr gm gq gk gt gg gd ge go c x)]) (λ_=>pt gr 0):=aa.pkZ Tryz.func22 λL a=>by
 obtain⟨v,rfl⟩:=a;refine⟨[2,3,4,5,6,7],λ_=>[pk (aq gr gm gq x.s.r),pk (aC gk gt x.s.k),pk (aA gg x.s.g),pk (dA go),pk (bj gd ge c x.V),bY v x.ns],?_,rfl,λE=>⟨rfl,rfl,⟨_,rfl⟩⟩⟩;exact fG Tryz.func22 λw cs=>r0 [] [(2,.pointer none)] [] (r0 [(3,.l 0),(6,.l 1)] [(2,pt gr 0)] [2] (lf ab.zero [2,3,4,5,6,7] [(0,0),(1,1)] []))
theorem TK(gc gl gr gm gq gk gt gg gd ge go:Nat)(c:Cf)(x:Ct):aa VB 14 #[pt gc 0] [pk (aQ gc gl gr gm gq gk gt gg gd ge go c x)] [0] (λ_=>[pk (aQ gc gl gr gm gq gk gt gg gd ge go c x)]) (λ_=>pt gg 0):=aa.pkZ Tryz.func14 λL a=>by
 obtain⟨v,rfl⟩:=a;refine⟨[2,3,4,5,6,7],λ_=>[pk (aq gr gm gq x.s.r),pk (aC gk gt x.s.k),pk (aA gg x.s.g),pk (dA go),pk (bj gd ge c x.V),bY v x.ns],?_,rfl,λE=>⟨rfl,rfl,⟨_,rfl⟩⟩⟩;exact fG Tryz.func14 λw cs=>r0 [] [(2,.pointer none)] [] (r0 [(3,.l 0),(6,.l 1)] [(2,pt gg 0)] [2] (lf ab.zero [2,3,4,5,6,7] [(0,0),(1,1)] []))
theorem o2(g gc gl gr gm gq gk gt gg gd ge go:Nat)(c:Cf)(x:Mc):aa VB 13 #[pt g 0] [pk (aP g gc gl gr gm gq gk gt gg gd ge go c x)] [0] (λ_=>[pk (aP g gc gl gr gm gq gk gt gg gd ge go c x)]) (λ_=>pt gc 0):=aa.pkZ Tryz.func13 λL a=>by
 obtain⟨gi,b,vs,rfl⟩:=a;refine⟨[1,2,3,4],λ_=>[pk (aQ gc gl gr gm gq gk gt gg gd ge go c x.x),cV x.id gi,fT b x.inj,dd vs x.sv],?_,rfl,λE=>⟨rfl,rfl,⟨_,_,_,rfl⟩⟩⟩;exact fG Tryz.func13 λw cs=>r0 [] [(2,.pointer none)] [] (r0 [(3,.l 0)] [(2,pt gc 0)] [2] (lf ab.zero [1,2,3,4] [(0,0)] []))
theorem yP(g gc gl gr gm gq gk gt gg gd ge go:Nat)(c:Cf)(x:Mc):aa VB 30 #[pt g 0] [pk (aP g gc gl gr gm gq gk gt gg gd ge go c x)] [0] (λ_=>[pk (aP g gc gl gr gm gq gk gt gg gd ge go c x)]) (λ_=>pt gd 0):=aa.pkZ Tryz.func30 λL a=>by
 obtain⟨gi,b,vs,rfl⟩:=a;refine⟨[1,2,3,4],λ_=>[pk (aQ gc gl gr gm gq gk gt gg gd ge go c x.x),cV x.id gi,fT b x.inj,dd vs x.sv],?_,rfl,λE=>⟨rfl,rfl,⟨_,_,_,rfl⟩⟩⟩;exact fG Tryz.func30 λw cs=>r0 [] [(2,.pointer none)] [] (r0 [(3,.l 0)] [(2,pt gd 0)] [2] (lf ab.zero [1,2,3,4] [(0,0)] []))
theorem Fg(g gc gl gr gm gq gk gt gg gd ge go:Nat)(c:Cf)(x:Mc):aa VB 22 #[pt gc 0] [pk (aP g gc gl gr gm gq gk gt gg gd ge go c x)] [0] (λ_=>[pk (aP g gc gl gr gm gq gk gt gg gd ge go c x)]) (λ_=>pt gr 0):=kM (TJ gc gl gr gm gq gk gt gg gd ge go c x.x)
theorem sj(g gc gl gr gm gq gk gt gg gd ge go:Nat)(c:Cf)(x:Mc):aa VB 14 #[pt gc 0] [pk (aP g gc gl gr gm gq gk gt gg gd ge go c x)] [0] (λ_=>[pk (aP g gc gl gr gm gq gk gt gg gd ge go c x)]) (λ_=>pt gg 0):=kM (TK gc gl gr gm gq gk gt gg gd ge go c x.x)
theorem Fh(g gc gl gr gm gq gk gt gg gd ge go:Nat)(c:Cf)(x:Mc):aa VB 20 #[pt gg 0] [pk (aP g gc gl gr gm gq gk gt gg gd ge go c x)] [0] (λ_=>[pk (aP g gc gl gr gm gq gk gt gg gd ge go c x)]) (λ_=>iN x.x.s.g.l.length):=kM (yO (Dq gg x.x.s.g))
theorem TL(g gc gl gr gm gq gk gt gg gd ge go:Nat)(c:Cf)(x:Mc):aa VB 15 #[pt gg 0] [pk (aP g gc gl gr gm gq gk gt gg gd ge go c x)] [0] (λ_=>[pk (aP g gc gl gr gm gq gk gt gg gd ge go c x)]) (λ_=>iN x.x.s.g.next):=kM (yO (OB gg x.x.s.g))
theorem Fi(g gc gl gr gm gq gk gt gg gd ge go:Nat)(c:Cf)(x:Mc):aa VB 21 #[pt gg 0] [pk (aP g gc gl gr gm gq gk gt gg gd ge go c x)] [0] (λ_=>[pk (aP g gc gl gr gm gq gk gt gg gd ge go c x)]) (λ_=> .bool x.x.s.g.lost):=kM (yO (OD gg x.x.s.g))
theorem TM(g gc gl gr gm gq gk gt gg gd ge go:Nat)(c:Cf)(x:Mc)(a:aT x.x.s.r):aa VB 23 #[pt gr 0] [pk (aP g gc gl gr gm gq gk gt gg gd ge go c x)] [0] (λ_=>[pk (aP g gc gl gr gm gq gk gt gg gd ge go c x)]) (λ_=>pt gm 0):=kM (vy (rL gr gm gq x.x.s.r a))
theorem TN(g gc gl gr gm gq gk gt gg gd ge go:Nat)(c:Cf)(x:Mc)(a:aT x.x.s.r):aa VB 27 #[pt gr 0] [pk (aP g gc gl gr gm gq gk gt gg gd ge go c x)] [0] (λ_=>[pk (aP g gc gl gr gm gq gk gt gg gd ge go c x)]) (λ_=> .agg #[iN x.x.s.r.j.A,iN x.x.s.r.j.fr,iN x.x.s.r.j.tg,iN x.x.s.r.j.nx]):=kM (vy (uL gr gm gq x.x.s.r a))
theorem TO(g gc gl gr gm gq gk gt gg gd ge go:Nat)(c:Cf)(x:Mc)(a:aT x.x.s.r)(p:Nat)(hp:p<x.x.s.r.m.R*x.x.s.r.m.B*x.x.s.r.m.M):aa VB 25 #[pt gm 0,iN p] [pk (aP g gc gl gr gm gq gk gt gg gd ge go c x)] [0] (λ_=>[pk (aP g gc gl gr gm gq gk gt gg gd ge go c x)]) (λ_=> .bool (x.x.s.r.m.N.getD p false)):=kM (vy (PD gr gm gq x.x.s.r a p hp))
theorem TP(g gc gl gr gm gq gk gt gg gd ge go:Nat)(c:Cf)(x:Mc)(a:aT x.x.s.r)(p:Nat)(hp:p<x.x.s.r.m.R):aa VB 26 #[pt gm 0,iN p] [pk (aP g gc gl gr gm gq gk gt gg gd ge go c x)] [0] (λ_=>[pk (aP g gc gl gr gm gq gk gt gg gd ge go c x)]) (λ_=> .tuple #[i6 (jx x.x.s.r.m p),.bool (c6 x.x.s.r.m p)]):=kM (vy (PE gr gm gq x.x.s.r a p hp))
theorem TQ(g gc gl gr gm gq gk gt gg gd ge go:Nat)(c:Cf)(x:Mc):aa VB 42 #[pt gd 0] [pk (aP g gc gl gr gm gq gk gt gg gd ge go c x)] [0] (λ_=>[pk (aP g gc gl gr gm gq gk gt gg gd ge go c x)]) (λ_=>iN x.x.V.l.length):=kM (kK gc gl gr gm gq gk gt gg gd ge go c x.x)
theorem TR(g gc gl gr gm gq gk gt gg gd ge go:Nat)(c:Cf)(x:Mc):aa VB 36 #[pt gd 0] [pk (aP g gc gl gr gm gq gk gt gg gd ge go c x)] [0] (λ_=>[pk (aP g gc gl gr gm gq gk gt gg gd ge go c x)]) (λ_=>pt ge 0):=kM (Ff (yy gd ge c x.x.V))
theorem TT(g gc gl gr gm gq gk gt gg gd ge go:Nat)(c:Cf)(x:Mc):aa VB 107 #[pt ge 0] [pk (aP g gc gl gr gm gq gk gt gg gd ge go c x)] [0] (λ_=>[pk (aP g gc gl gr gm gq gk gt gg gd ge go c x)]) (λ_=>iN c.E):=kM (Ff (E7 gd ge c x.x.V))
end
section
theorem TU{α:Type}{a b d e f g c i j k l m n h o p q r:List α}:(V0 [a,b,d,c]).Sublist (V0 [a,b,([o,([i,j,k,l,m,n,([d,e,f,g,c]:List (List α)).flatten,h]:List (List α)).flatten,p,q,r]:List (List α)).flatten]):=by
 simp only[VH,VS,VK];refine List.Sublist.append (List.Sublist.refl _) (List.Sublist.append (List.Sublist.refl _) ?_);have s:(d++c).Sublist (d++(e++(f++(g++c)))):=List.Sublist.append (List.Sublist.refl _) ((VG g c).trans ((VG f _).trans (VG e _)));have t:(d++(e++(f++(g++c)))).Sublist (d++(e++(f++(g++c)))++h):=VQ _ _;have u:(d++(e++(f++(g++c)))++h).Sublist (i++(j++(k++(l++(m++(n++(d++(e++(f++(g++c)))++h))))))):=
  (VG n _).trans ((VG m _).trans ((VG l _).trans ((VG k _).trans ((VG j _).trans (VG i _)))))
 exact(s.trans (t.trans u)).trans ((VQ _ _).trans (VG o _))
theorem TV(e f n g s w B y A u C t i p z:Nat)(c:Cf)(x:Mc)(F:x.x.V.l.length≤1000000)(m:n≤1000000)(bs:aw)(h:mM (aP g s w B y A u C t i p z c x) bs):eX 5 VB 60 #[pt e 0,pt f 0] (λ(x:Nat×Ac)=>#[i6 (x.1:Int),.agg #[.bool (x.2.wr),i6 (x.2.ix),i6 (x.2.wt),.bool (x.2.dr),i6 (x.2.ex),.bool (x.2.mr)]]) ((VZ (x.x.V.l.length-n)).map λk=>(n+k,x.x.V.l.getD (n+k) eV)) (V0 [[(e,.cells #[iN n] 3 (0,0))],[(f,.cells #[pt i 0] 84 (0,0))],bs]):=by
 obtain⟨L,Q,⟨gi,vj,vs,rfl⟩,d,rfl⟩:=h;obtain⟨K,_,rfl,h0,d⟩:=cD d;obtain⟨M,_,rfl,D,d⟩:=cD d;obtain⟨N,_,rfl,h2,d⟩:=cD d;obtain⟨O,_,rfl,h3,d⟩:=cD d;obtain⟨P,_,rfl,h4,d⟩:=cD d;obtain rfl:=mJ d;obtain⟨I,Z,⟨v1,rfl⟩,a,rfl⟩:=D;obtain⟨R,_,rfl,i0,a⟩:=cD a;obtain⟨S,_,rfl,i1,a⟩:=cD a;obtain⟨T,_,rfl,i2,a⟩:=cD a;obtain⟨U,_,rfl,i3,a⟩:=cD a;obtain⟨V,_,rfl,i4,a⟩:=cD a;obtain⟨W,_,rfl,i5,a⟩:=cD a;obtain⟨X,_,rfl,o,a⟩:=cD a;obtain⟨Y,_,rfl,i7,a⟩:=cD a;obtain rfl:=mJ a;obtain⟨J,fs,⟨l,j,v,rfl⟩,b,rfl⟩:=o;obtain⟨q,_,rfl,G,b⟩:=cD b;obtain⟨f1,_,rfl,j1,b⟩:=cD b;obtain⟨f2,_,rfl,j2,b⟩:=cD b;obtain⟨f3,_,rfl,j3,b⟩:=cD b;obtain⟨r,_,rfl,H,b⟩:=cD b;obtain rfl:=mJ b;obtain rfl:q=_:=G;exact(Q3 e f i p l j n v x.x.V.l r (ar.sq H) F m).mono TU
structure Lk where
 ex:Int
 ast:Bool
 dr:Bool
 tl:Bool
def TW:Lk:=⟨0,false,false,true⟩
def Fj(mode:Nat)(l:Lk)(x:Ac):Lk:=⟨se l.ex x,sf l.ast x,sh l.dr x,si l.tl mode x⟩
def dm(mode:Nat)(l:List Ac):Nat→Lk
 | 0=>TW
 | k+1=>Fj mode (dm mode l k) (l.getD (0+k) eV)
theorem TX(mode:Nat)(l:List Ac)(k:Nat):dm mode l (k+1)=Fj mode (dm mode l k) (l.getD (0+k) eV):=rfl
theorem TZ(mode:Nat)(l:List Ac):dm mode l 0=⟨0,false,false,true⟩:=rfl
attribute [local irreducible] dm
theorem T0(g e j p m o i q h a f n:Nat)(c:Cf)(x:Mc)(N:x.x.V.l.length≤900000)(F: ∀k,0≤(x.x.V.l.getD k eV).ex∧(x.x.V.l.getD k eV).ex≤1000000):aa VB 77 #[pt g 0,i6 0,iN x.x.V.l.length] [pk (aP g e j p m o i q h a f n c x)] [0] (λ_=>[pk (aP g e j p m o i q h a f n c x)]) (λ_=> .agg #[i6 ((dm c.E x.x.V.l (x.x.V.l.length-0)).ex),.bool ((dm c.E x.x.V.l (x.x.V.l.length-0)).ast),.bool ((dm c.E x.x.V.l (x.x.V.l.length-0)).dr),.bool ((dm c.E x.x.V.l (x.x.V.l.length-0)).tl)]):=by
 refine fG Tryz.func77 λw cs=>ra (λr=>[(5,pt (B0 r) 0),(6,pt (B1 r) 0)]) (λr=>[ob (B0 r) #[iN x.x.V.l.length] 3,ob (B1 r) #[i6 0,.bool false,.bool false,.bool false] 166]) λr=>rr (λ_=>[(2,.s 3)]) (λv=>[(7,pt (B1 v) 0)]) [] (λv L=>L++[ob (B1 v) #[i6 0,.bool false,.bool false,.bool true] 166]) λv=>rr (λ_=>[(1,.c [0] [0] (yP g e j p m o i q h a f n c x)),(2,.c [0] [0] (TR g e j p m o i q h a f n c x)),(3,.c [0] [0] (TT g e j p m o i q h a f n c x)),(5,.s 4)]) (λB=>[(8,pt (B4 B) 0)]) [] (λB L=>L++[ob (B4 B) #[iN c.E] 3]) λB=>rr (λ_=>[(1,.c [0] [0] (yP g e j p m o i q h a f n c x)),(3,.c [] [5,6] (Q4 a 0))]) (λb=>[(19,.func (.func 60) #[] #[pt ((B3 b)) 0,pt (((b 3).y 1)) 0])]) [] (λb L=>L++[ob (B3 b) #[i6 ((0:Nat):Int)] 3,ob ((b 3).y 1) #[pt a 0] 84]) λb=>?_;refine ck 0 (mM (aP g e j p m o i q h a f n c x)) (λd y=>?_);refine ny (encs:=λ(x:Nat×Ac)=>#[i6 (x.1:Int),.agg #[.bool (x.2.wr),i6 (x.2.ix),i6 (x.2.wt),.bool (x.2.dr),i6 (x.2.ex),.bool (x.2.mr)]]) (xs:=(VZ (x.x.V.l.length-0)).map (λk=>(0+k,x.x.V.l.getD (0+k) eV))) (KO:=[[((B3 b),.cells #[i6 ((0:Nat):Int)] 3 (0,0))],[(((b 3).y 1),.cells #[pt a 0] 84 (0,0))],d]) (TV (B3 b) ((b 3).y 1) 0 g e j p m o i q h a f n c x Om Om d y) (enters_of Tryz.func60 Kr rfl) (λk=>k≤x.x.V.l.length-0) (λk L=>L.set 3 (ob (B1 v) #[i6 ((dm c.E x.x.V.l k).ex),.bool ((dm c.E x.x.V.l k).ast),.bool ((dm c.E x.x.V.l k).dr),.bool ((dm c.E x.x.V.l k).tl)] 166)) [5,6,0] Om (by rw[TZ];kernel_rfl) (λO k P I K C z=>?_) (λH z=>?_)
 ·obtain⟨A,rfl⟩:=nn C;have D:=A;have G:=F (0+k);refine r0 [] [(9,i6 ((0+k:Nat):Int))] [] (rr (λ_=>[(1,.s 7)]) (λu=>[(10,pt (B0 u) 0)]) [] (λu L=>L++[ob (B0 u) #[.bool ((x.x.V.l.getD (0+k) eV).wr),i6 ((x.x.V.l.getD (0+k) eV).ix),i6 ((x.x.V.l.getD (0+k) eV).wt),.bool ((x.x.V.l.getD (0+k) eV).dr),i6 ((x.x.V.l.getD (0+k) eV).ex),.bool ((x.x.V.l.getD (0+k) eV).mr)] 90]) λu=>?_);refine ag [5,6,0] (λJ M=>?_);exact rF [(1,.l 1),(2,.t (tk (show Value.bool (decide ((x.x.V.l.length:Int)≤((0+k:Nat):Int)))= .bool false from ALca Value.bool (by exact bh Om))))] 24 (rs [(0,.l 3),(1,.l 4),(2,.l 7),(3,.c [] [] (TI ((dm c.E x.x.V.l k).ex) ((dm c.E x.x.V.l k).ast) ((dm c.E x.x.V.l k).dr) ((dm c.E x.x.V.l k).tl) c.E (x.x.V.l.getD (0+k) eV) Om Om)),(4,.s 3)] 3 (ob (B1 v) #[i6 (se ((dm c.E x.x.V.l k).ex) (x.x.V.l.getD (0+k) eV)),.bool (sf ((dm c.E x.x.V.l k).ast) (x.x.V.l.getD (0+k) eV)),.bool (sh ((dm c.E x.x.V.l k).dr) (x.x.V.l.getD (0+k) eV)),.bool (si ((dm c.E x.x.V.l k).tl) c.E (x.x.V.l.getD (0+k) eV))] 166) (ne _ ⟨Om,rfl⟩ [0,1,2,3,4,5,6] (by rw[TX];kernel_rfl)))
 refine cl [.c d,ob (B0 r) #[iN x.x.V.l.length] 3,ob (B1 r) #[i6 0,.bool false,.bool false,.bool false] 166,ob (B1 v) #[i6 ((dm c.E x.x.V.l (x.x.V.l.length-0)).ex),.bool ((dm c.E x.x.V.l (x.x.V.l.length-0)).ast),.bool ((dm c.E x.x.V.l (x.x.V.l.length-0)).dr),.bool ((dm c.E x.x.V.l (x.x.V.l.length-0)).tl)] 166,ob (B4 B) #[iN c.E] 3,ob (B3 b) #[i6 ((0:Nat):Int)] 3,ob ((b 3).y 1) #[pt a 0] 84] (by rw[VU,VO];kernel_rfl) ?_;simp only[VU,VO] at z;exact cw 0 (.c d) ((pk (aP g e j p m o i q h a f n c x))) (cP y) (rs [(0,.l 3),(1,.s 2)] 2 (ob (B1 r) #[i6 ((dm c.E x.x.V.l (x.x.V.l.length-0)).ex),.bool ((dm c.E x.x.V.l (x.x.V.l.length-0)).ast),.bool ((dm c.E x.x.V.l (x.x.V.l.length-0)).dr),.bool ((dm c.E x.x.V.l (x.x.V.l.length-0)).tl)] 166) (lf ab.zero [0] [] [2]))
end
def sk(mode:Nat)(l:List Ac):Bool:=(!(dm mode l (l.length-0)).ast)&&decide ((dm mode l (l.length-0)).ex≤1)
structure yQ (l:List Ac):Prop where
 ex: ∀k,0≤(l.getD k eV).ex∧(l.getD k eV).ex≤1000000
theorem T1(g a h m i k f n e b d j:Nat)(c:Cf)(x:Mc)(p:x.x.V.l.length≤900000)(q:yQ x.x.V.l):aa VB 41 #[pt g 0] [pk (aP g a h m i k f n e b d j c x)] [0] (λ_=>[pk (aP g a h m i k f n e b d j c x)]) (λ_=> .bool (sk c.E x.x.V.l)):=by
 exact fG Tryz.func41 λw cs=>r0 [] [(2,.bool false)] [] (rr (λ_=>[(2,.c [0] [0] (yP g a h m i k f n e b d j c x)),(3,.c [0] [0] (TQ g a h m i k f n e b d j c x)),(4,.c [0] [0] (T0 g a h m i k f n e b d j c x p q.ex)),(6,.s 1)]) (λo=>[(3,pt (B5 o) 0)]) [] (λo L=>L++[ob (B5 o) #[i6 ((dm c.E x.x.V.l (x.x.V.l.length-0)).ex),.bool ((dm c.E x.x.V.l (x.x.V.l.length-0)).ast),.bool ((dm c.E x.x.V.l (x.x.V.l.length-0)).dr),.bool ((dm c.E x.x.V.l (x.x.V.l.length-0)).tl)] 166]) λo=>r0 [(1,.l 1),(5,.l 1)] [(2,.bool ((!((dm c.E x.x.V.l (x.x.V.l.length-0)).ast))&&(decide (((dm c.E x.x.V.l (x.x.V.l.length-0)).ex)≤1))))] [2] (ak (.bool ((!((dm c.E x.x.V.l (x.x.V.l.length-0)).ast))&&(decide (((dm c.E x.x.V.l (x.x.V.l.length-0)).ex)≤1)))) ab.zero Vm [0] [] []))
theorem T2(v:Value)(l:List Re):aa VB 56 #[v] [.p (aH mj v l)] [] (λE=>[ob (E.y 0) #[v] 41]) (λE=> .func (.func 96) #[] #[pt ((E.y 0)) 0]):=by
 exact fO Tryz.func56 0 rfl λb d=>fG Tryz.func56 λw cs=>rr (λ_=>[(0,A1 1 0 (.c b) v (λ_ _=>aH.cells d))]) (λa=>[(1,pt (B0 a) 0),(2,.nilFunc)]) [] (λa L=>L++[ob (B0 a) #[v] 41]) λa=>r0 [] [(2,.func (.func 96) #[] #[pt (B0 a) 0])] [2] (lf (.l [(a 0).y 0] [] []) [1] [(0,0)] [])
structure Vl (q:List Sv):Prop where
 l: ∀k,(q.getD k yJ).l.length=64
 w: ∀k,(q.getD k yJ).w.length=64
theorem Fk{c:Cf}{b:Bool}(h:mC c=b):decide ((((((c.R+c.S)*c.B)*c.M)*c.C:Nat):Int)≤100)=b:=by
 rw[←h];unfold mC;exact decide_eq_decide.2 Om
theorem T3(c:Cf)(b:cY c)(hs:mC c=false):aa VB 12 #[.agg (cA c)] [] [] N0 (λ_=> .pointer none):=by
 exact fG Tryz.func12 λw cs=>ra (λa=>[(1,pt (B0 a) 0),(2,.pointer none)]) (λa=>[ob (B0 a) (cA c) 31]) λa=>rT [(0,.l 0),(1,.c [] [] (aa.v ((Fb c b)) λ_=>ALca Value.bool (show(decide ((((((c.R+c.S)*c.B)*c.M)*c.C:Nat):Int)≤100))=false from(by exact Fk hs))))] 7 (r0 [] [(2,.pointer none)] [2] (lf ab.zero [] [] []))
theorem Fl(c:Cf)(b:cY c)(hs:mC c=true):aa VB 12 #[.agg (cA c)] [] [] (λE=>[pk (aP (E.y 0) ((E.y 1)) ((E.y 2)) ((E.y 3)) ((E.y 4)) ((E.y 5)) ((E.y 6)) ((E.y 7)) ((E.y 8)) ((E.y 9)) ((E.y 10)) ((E.y 11)) c (ao c))]) (λE=>pt ((E.y 0)) 0):=by
 exact fG Tryz.func12 λw cs=>ra (λd=>[(1,pt (B0 d) 0),(2,.pointer none)]) (λd=>[ob (B0 d) (cA c) 31]) λd=>rF [(0,.l 0),(1,.c [] [] (aa.v ((Fb c b)) λ_=>ALca Value.bool (show(decide ((((((c.R+c.S)*c.B)*c.M)*c.C:Nat):Int)≤100))=true from(by exact Fk hs))))] 7 (rr (λ_=>[(0,.l 0),(1,.c [] [1] (Tx c b))]) (λa=>[(3,pt ((B1 a)) 0),(4,i6 0)]) [] (λa L=>L++[pk (aP (B1 a) ((a 1).y 1) ((a 1).y 3) ((a 1).y 4) ((a 1).y 5) ((a 1).y 6) ((a 1).y 7) ((a 1).y 8) ((a 1).y 9) ((a 1).y 10) ((a 1).y 11) ((a 1).y 12) c (ao c))]) λa=>rF [] 14 (r0 [] [(2,pt ((B1 a)) 0)] [2] (lf (.l [(B1 a),(a 1).y 1,(a 1).y 3,(a 1).y 4,(a 1).y 5,(a 1).y 6,(a 1).y 7,(a 1).y 8,(a 1).y 9,(a 1).y 10,(a 1).y 11,(a 1).y 12] [] []) [1] [] [])))
theorem T4:aa VB 45 #[] [] [] N0 (λ_=> .agg #[i6 1,i6 0,i6 1,i6 2,i6 2,i6 0,i6 0,i6 1,i6 9,i6 9,i6 9,i6 9,i6 2,i6 2,i6 4,.bool true]):=by
 exact fG Tryz.func45 λw cs=>ra (λa=>[(0,pt (B0 a) 0)]) (λa=>[ob (B0 a) #[i6 0,i6 0,i6 0,i6 0,i6 0,i6 0,i6 0,i6 0,i6 0,i6 0,i6 0,i6 0,i6 0,i6 0,i6 0,.bool false] 31]) λa=>rr (λ_=>[(2,.s 1)]) (λb=>[(1,pt (B1 b) 0)]) [] (λb L=>L++[ob (B1 b) #[i6 9,i6 9] 27]) λb=>rs [(2,.l 1),(3,.l 1),(6,.s 0)] 0 (ob (B0 a) #[i6 1,i6 0,i6 1,i6 2,i6 2,i6 0,i6 0,i6 1,i6 9,i6 9,i6 9,i6 9,i6 2,i6 2,i6 4,.bool true] 31) (lf ab.zero [] [] [0])
structure GM (c:Cf) (x:Mc) (n:Nat):Prop where
 ok:eL c x (1+260*n) (4096+3*n) n
 t:x.x.s.time≤n
theorem GM.start{c:Cf}(h:cY c):GM c (ao c) 0:=⟨Tw h,VW _⟩
theorem GM.step{c:Cf}{x:Mc}{n:Nat}(h:GM c x n)(a:n≤900){s:St}(hs:StOk s):GM c (Vo c x s) (n+1):=
 ⟨(SV h.ok hs Om (Wb h.t Om)).mono Om Om Om,VC (SX c x s) (VI h.t)⟩
theorem GM.vl{c:Cf}{x:Mc}{n:Nat}(h:GM c x n)(a:n≤900):x.x.V.l.length≤7000:=VC h.ok.ct.vl Om
theorem vz(g a i m j l f o e b d k:Nat)(c:Cf)(x:Mc)(n:Nat)(h:GM c x n)(p:n≤900)(s:St)(hs:StOk s):aa VB 16 #[pt g 0,.agg (eSt s).toArray] [pk (aP g a i m j l f o e b d k c x)] [0] (λ_=>[pk (aP g a i m j l f o e b d k c (Vo c x s))]) (λ_=> .agg (E1 (kL c x s)).toArray):=
 SQ g a i m j l f o e b d k c x _ _ _ h.ok Om Om Om (Wb h.t Om) s hs
def dB:Cf:=⟨1,0,1,2,2,0,0,1,9,9,9,9,2,2,4,true⟩
def Fm:St:=⟨2,1,eT 6 64,0,0,0,0,0,0,0,0,0⟩
def Fo:St:=⟨8,0,VA 64 0,0,1,0,0,0,1,0,40,0⟩
def sm:St:=⟨1,1,VA 64 0,0,0,0,0,0,0,0,0,0⟩
def vA:Mc:=Vo dB (Vo dB (ao dB) Fm) Fo
def yR:Mc:=Vo dB vA sm
abbrev yS:St:=⟨2,1,(eT (6:UInt8) 64),0,0,0,0,0,0,0,0,0⟩
abbrev yT:St:=⟨8,0,z6,0,1,0,0,0,1,0,40,0⟩
abbrev vB:St:=⟨1,1,z6,0,0,0,0,0,0,0,0,0⟩
abbrev vC:Mc:=Vo dB (ao dB) yS
abbrev sn:Mc:=Vo dB vC yT
abbrev ki:Mc:=Vo dB sn vB
abbrev gn:An:=kL dB sn vB
theorem T5:(kL dB vA sm).e=0:=by decide+kernel
theorem T6:(kL dB vA sm).n=0:=by decide+kernel
theorem Fp:(kL dB vA sm).l=eT 6 64:=by decide+kernel
theorem T7:yR.x.s.g.l.length=1:=by decide+kernel
theorem T8:sk 1 yR.x.V.l=true:=by decide+kernel
theorem T9:yR.x.V.l.all (λa=>decide (0≤a.ex)&&decide (a.ex≤1000000))=true:=by decide+kernel
theorem Ua{l:List Ac}(h:l.all (λa=>decide (0≤a.ex)&&decide (a.ex≤1000000))=true):yQ l:=⟨λk=>by
 rw[VD];cases c:l[k]? with
 | none=>exact⟨Int.le_refl _,by decide⟩
 | some a=>
  have b:=List.all_eq_true.1 h a (Wt c);simpa using b⟩
theorem yU(x:UInt8):(eT x 64).length=64:=by unfold eT;rw[VJ,VE,VE]
theorem Fq:cY dB:=⟨⟨⟨by decide⟩,by decide,by decide,by decide⟩,.inl rfl,⟨by decide,by decide,by decide,by decide⟩,⟨by decide,by decide,by decide,by decide⟩,by decide,by decide,by decide,by decide,by decide,by decide⟩
theorem Fs:StOk Fm:=⟨yU 6,by decide⟩
theorem Ft:StOk Fo:=⟨VE,by decide⟩
theorem Fu:StOk sm:=⟨VE,by decide⟩
section
theorem Ub:aa VB 12 #[.agg #[i6 1,i6 0,i6 1,i6 2,i6 2,i6 0,i6 0,i6 1,i6 9,i6 9,i6 9,i6 9,i6 2,i6 2,i6 4,.bool true]] [] [] (λE=>[pk (aP (E.y 0) (E.y 1) (E.y 2) (E.y 3) (E.y 4) (E.y 5) (E.y 6) (E.y 7) (E.y 8) (E.y 9) (E.y 10) (E.y 11) dB (ao dB))]) (λE=>pt (E.y 0) 0):=Fl dB Fq Dc
attribute [local irreducible] Vo kL ao sk
theorem Uc:(((gn.e)==0&&((gn.n)==0&&true))&&decide (gn.l=eT (6:UInt8) 64))=true:=by
 have a:gn.e=0:=T5;have b:gn.n=0:=T6;have c:gn.l=eT (6:UInt8) 64:=Fp;rw[a,b,c];simp
theorem Ud:gn.l.length=64:=by
 have a:gn.l=eT (6:UInt8) 64:=Fp;rw[a];exact yU 6
theorem Ue:(((ki.x.s.g.l.length:Nat):Int)==1)=true:=by
 have a:ki.x.s.g.l.length=1:=T7;rw[a];rfl
theorem Uf:sk dB.E ki.x.V.l=true:=T8
theorem Fv:GM dB (ao dB) 0:=GM.start Fq
theorem Fw:GM dB vC 1:=Fv.step Dc Fs
theorem Fx:GM dB sn 2:=Fw.step Dc Ft
theorem Ug:GM dB ki 3:=Fx.step Dc Fu
theorem Uh:ki.x.V.l.length≤900000:=VC (Ug.vl Dc) Dc
theorem Ui:yQ ki.x.V.l:=Ua T9
theorem Uj:StOk yS:=Fs
theorem Uk:StOk yT:=Ft
theorem Ul:StOk vB:=Fu
theorem vD:aa VB 11 #[] [] [] N0 (λ_=> .bool true):=by
 have h:z6.length=64:=VE;have g:=yU 6;have f:=Ud;exact fG Tryz.func11 λw cs=>r0 [] [(0,.bool false)] [] (rr (λ_=>[(0,.c [] [] (T4)),(2,.s 0)]) (λb=>[(1,pt (B1 b) 0)]) [] (λb L=>L++[ob (B1 b) #[i6 1,i6 0,i6 1,i6 2,i6 2,i6 0,i6 0,i6 1,i6 9,i6 9,i6 9,i6 9,i6 2,i6 2,i6 4,.bool true] 31]) λb=>rr (λ_=>[(0,.l 0),(1,.c [] [1] (Ub))]) (λa=>[(2,pt ((B1 a)) 0)]) [] (λa L=>L++[pk (aP (B1 a) ((a 1).y 1) ((a 1).y 2) ((a 1).y 3) ((a 1).y 4) ((a 1).y 5) ((a 1).y 6) ((a 1).y 7) ((a 1).y 8) ((a 1).y 9) ((a 1).y 10) ((a 1).y 11) dB (ao dB))]) λa=>rF [] 9 (rr (λ_=>[(0,.c [] [] (PO (6:UInt8))),(2,.s 2)]) (λd=>[(3,pt (B1 d) 0)]) [] (λd L=>L++[ob (B1 d) (rB 64 (eT (6:UInt8) 64)).toArray 43]) λd=>rs [(1,.l 2),(3,.c [1] [1] (vz (B1 a) ((a 1).y 1) ((a 1).y 2) ((a 1).y 3) ((a 1).y 4) ((a 1).y 5) ((a 1).y 6) ((a 1).y 7) ((a 1).y 8) ((a 1).y 9) ((a 1).y 10) ((a 1).y 11) dB (ao dB) _ (by with_reducible exact Fv) Dc yS (by with_reducible exact Uj)))] 1 ((pk (aP (B1 a) ((a 1).y 1) ((a 1).y 2) ((a 1).y 3) ((a 1).y 4) ((a 1).y 5) ((a 1).y 6) ((a 1).y 7) ((a 1).y 8) ((a 1).y 9) ((a 1).y 10) ((a 1).y 11) dB vC))) (rs [(4,.c [1] [1] (vz (B1 a) ((a 1).y 1) ((a 1).y 2) ((a 1).y 3) ((a 1).y 4) ((a 1).y 5) ((a 1).y 6) ((a 1).y 7) ((a 1).y 8) ((a 1).y 9) ((a 1).y 10) ((a 1).y 11) dB vC _ (by with_reducible exact Fw) Dc yT (by with_reducible exact Uk)))] 1 ((pk (aP (B1 a) ((a 1).y 1) ((a 1).y 2) ((a 1).y 3) ((a 1).y 4) ((a 1).y 5) ((a 1).y 6) ((a 1).y 7) ((a 1).y 8) ((a 1).y 9) ((a 1).y 10) ((a 1).y 11) dB sn))) (rr (λ_=>[(2,.c [1] [1] (vz (B1 a) ((a 1).y 1) ((a 1).y 2) ((a 1).y 3) ((a 1).y 4) ((a 1).y 5) ((a 1).y 6) ((a 1).y 7) ((a 1).y 8) ((a 1).y 9) ((a 1).y 10) ((a 1).y 11) dB sn _ (by with_reducible exact Fx) Dc vB (by with_reducible exact Ul))),(4,.s 3)]) (λe=>[(4,pt (B3 e) 0)]) [] (λe L=>L.set 1 ((pk (aP (B1 a) ((a 1).y 1) ((a 1).y 2) ((a 1).y 3) ((a 1).y 4) ((a 1).y 5) ((a 1).y 6) ((a 1).y 7) ((a 1).y 8) ((a 1).y 9) ((a 1).y 10) ((a 1).y 11) dB ki)))++[ob (B3 e) (([i6 (gn.e),i6 (gn.n)]:List Value)++rB 64 (gn.l)).toArray 53]) λe=>r0 [(0,.m (ls 3 (([i6 (gn.e),i6 (gn.n)]:List Value)++rB 64 (gn.l)))),(1,.m (ls 2 (rB 64 (eT (6:UInt8) 64)))),(2,.v (.agg (([i6 0,i6 0]:List Value)++rB 64 (eT (6:UInt8) 64)).toArray)),(3,.t (TH.cast (iC 53 λ_ _ _=>wj (xs:=([i6 (gn.e),i6 (gn.n)]:List Value)++rB 64 (gn.l)) (ys:=([i6 0,i6 0]:List Value)++rB 64 (eT (6:UInt8) 64)) Kr (e7 Kr Kr Vm (ji (show(gn.l).length=64 by(simp only[LL,g,f];done)) (show(eT (6:UInt8) 64).length=64 by rfl)))) (show Value.bool ((((gn.e)==0&&((gn.n)==0&&true))&&decide (gn.l=eT (6:UInt8) 64)))= .bool true from ALca Value.bool (by exact Uc)))),(4,.v (.bool true)),(5,.v (pt ((B1 a)) 0)),(6,.c [1] [1] (o2 (B1 a) ((a 1).y 1) ((a 1).y 2) ((a 1).y 3) ((a 1).y 4) ((a 1).y 5) ((a 1).y 6) ((a 1).y 7) ((a 1).y 8) ((a 1).y 9) ((a 1).y 10) ((a 1).y 11) dB ki)),(7,.c [1] [1] (sj (B1 a) ((a 1).y 1) ((a 1).y 2) ((a 1).y 3) ((a 1).y 4) ((a 1).y 5) ((a 1).y 6) ((a 1).y 7) ((a 1).y 8) ((a 1).y 9) ((a 1).y 10) ((a 1).y 11) dB ki)),(8,.c [1] [1] (Fh (B1 a) ((a 1).y 1) ((a 1).y 2) ((a 1).y 3) ((a 1).y 4) ((a 1).y 5) ((a 1).y 6) ((a 1).y 7) ((a 1).y 8) ((a 1).y 9) ((a 1).y 10) ((a 1).y 11) dB ki)),(9,.t (tk (show Value.bool (((ki.x.s.g.l.length:Nat):Int)==1)= .bool true from ALca Value.bool (by exact Ue)))),(11,.v (.bool true)),(12,.v (pt ((B1 a)) 0)),(13,.c [1] [1] (aa.v ((T1 (B1 a) ((a 1).y 1) ((a 1).y 2) ((a 1).y 3) ((a 1).y 4) ((a 1).y 5) ((a 1).y 6) ((a 1).y 7) ((a 1).y 8) ((a 1).y 9) ((a 1).y 10) ((a 1).y 11) dB ki Uh Ui)) λ_=>ALca Value.bool (show(sk dB.E ki.x.V.l)=true from(by exact Uf)))),(15,.v (.bool true))] [(0,.bool true)] [0] (lf ab.zero [] [] [])))))
end
section
def au(c:Cf)(x:Mc)(l:List St):Nat→Mc
 | 0=>x
 | k+1=>Vo c (au c x l k) (l.getD k bf)
theorem Um(c:Cf)(x:Mc)(l:List St):au c x l 0=x:=rfl
theorem Fy(c:Cf)(x:Mc)(l:List St)(k:Nat):au c x l (k+1)=Vo c (au c x l k) (l.getD k bf):=rfl
structure pW (l:List St):Prop where
 a: ∀k,StOk (l.getD k bf)
theorem pX{c:Cf}{x:Mc}{n:Nat}(h:GM c x n){l:List St}(hs:pW l): ∀k,n+k≤900→GM c (au c x l k) (n+k)
 | 0,_=>h
 | k+1,a=>(pX h hs k Om).step Om (hs.a k)
attribute [local irreducible] au Vo kL
end
section
section
variable {P:Program} {f:FuncId} {args:Array Value} {rd:ah} {wt:ab→ah} {v:ab→Value}
theorem aa.inC(h:aa P f args rd [] wt v){ds:List aw}(hs:bl rd ds){bs:aw}(b:ds.flatten.Sublist bs):aa P f args [.c bs] [] wt v:=by
 refine⟨h.ent,λw cs i a=>?_⟩;obtain⟨d,k,rfl,e,g⟩:=cD i;obtain rfl:=mJ g;obtain rfl:d=bs:=e;rw[VH,VS,VK] at a;have:=h.out w ds hs ⟨λy j=>a.obj y (b.subset j),a.nd.sublist b⟩;simpa using this
end
structure yV (gg:Nat) (g:Lg) (v:Value) (bs:aw):Prop where
 o: ∃fs,aH mj v g.l fs∧List.Sublist ([(gg,.cells #[v,iN g.I,iN g.next,.bool g.lost] 124 (0,0))]++fs) bs
theorem Un{g k o s p r n t e l m q:Nat}{c:Cf}{x:Mc}{bs:aw}(h:mM (aP g k o s p r n t e l m q c x) bs): ∃v,yV e x.x.s.g v bs:=by
 obtain⟨L,F,⟨gi,V,vs,rfl⟩,d,rfl⟩:=h;obtain⟨C,_,rfl,O,d⟩:=cD d;obtain⟨D,_,rfl,u,d⟩:=cD d;obtain⟨A,M,⟨U,rfl⟩,a,rfl⟩:=u;obtain⟨G,_,rfl,Q,a⟩:=cD a;obtain⟨H,_,rfl,R,a⟩:=cD a;obtain⟨I,_,rfl,S,a⟩:=cD a;obtain⟨J,_,rfl,T,a⟩:=cD a;obtain⟨K,_,rfl,w,a⟩:=cD a;obtain⟨B,N,⟨v,rfl⟩,b,rfl⟩:=w;obtain⟨i,_,rfl,y,b⟩:=cD b;obtain⟨j,_,rfl,z,b⟩:=cD b;obtain rfl:=mJ b;obtain rfl:i=_:=y;refine⟨v,⟨j,ar.sq z,?_⟩⟩;refine List.Sublist.trans ?_ (V2 (VM _ (V3 ..)));refine List.Sublist.trans ?_ (V2 (VM _ (VM _ (VM _ (VM _ (V3 ..))))));rw[VH,VH,VS,VK];exact List.Sublist.refl _
theorem Uo(g:Nat)(v:Value)(l:List Re)(room next:Nat)(lost:Bool):aa VB 18 #[pt g 0] [ob g #[v,iN room,iN next,.bool lost] 124,.p (aH mj v l)] [] (λE=>[ob (E.y 0) #[v] 41]) (λE=> .func (.func 96) #[] #[pt ((E.y 0)) 0]):=by
 exact fO Tryz.func18 1 rfl λb d=>fG Tryz.func18 λw cs=>r0 [] [(2,.nilFunc)] [] (rr (λ_=>[(3,.l 0),(4,.c [1] [2] (aa.at (rd':=[.c b]) (T2 v l) (ei d (λ_ h=>h))))]) (λa=>[(2,.func (.func 96) #[] #[pt ((B4 a)) 0])]) [2] (λa L=>L++[ob (B4 a) #[v] 41]) λa=>lf (.l [(B4 a)] [] []) [2] [(0,0),(1,1)] [])
theorem Up(g i m q n p l r b j k o:Nat)(c:Cf)(x:Mc)(bs:aw)(v:Value)(h:yV b x.x.s.g v bs):aa VB 18 #[pt b 0] [.c bs] [] (λE=>[ob (E.y 0) #[v] 41]) (λE=> .func (.func 96) #[] #[pt (E.y 0) 0]):=by
 obtain⟨d,e,a⟩:=h.o;exact aa.inC (Uo b v x.x.s.g.l x.x.s.g.I x.x.s.g.next x.x.s.g.lost) (ds:=[[(b,_)],d]) ⟨rfl,e,trivial⟩ (by rw[VH,VH,VS,VK];exact a)
theorem Uq(b g k o s p r n t e l m q:Nat)(c:Cf)(x:Mc)(i:x.x.s.g.l.length≤1000000)(bs:aw)(v:Value)(h:yV e x.x.s.g v bs):eX 5 VB 96 #[pt b 0] (λ(x:Re)=>#[.agg #[iN x.s,iN x.t,iN x.k,iN x.i,iN x.o]]) x.x.s.g.l (V0 [[(b,.cells #[v] 41 (0,0))],bs]):=by
 obtain⟨d,j,a⟩:=h.o;refine(S4 b v x.x.s.g.l d j i).mono ?_;simp only[VH,VS,VK];exact List.Sublist.append (List.Sublist.refl _) ((VG _ _).trans a)
attribute [local irreducible] au Vo kL
end
section
def dG(p:Nat→Bool):Nat→Nat
 | 0=>0
 | k+1=>bif p k then dG p k+1 else dG p k
theorem Fz(p:Nat→Bool):dG p 0=0:=rfl
theorem n1(p:Nat→Bool)(k:Nat):dG p (k+1)=bif p k then dG p k+1 else dG p k:=rfl
theorem sr(p:Nat→Bool): ∀n,dG p n≤n
 | 0=>VW _
 | n+1=>by
  have:=sr p n;rw[n1];cases p n
  ·exact V5 this
  ·exact VI this
theorem FA{p q:Nat→Bool}: ∀n,(∀i,i<n→q i=p i)→dG q n=dG p n
 | 0,_=>rfl
 | n+1,h=>by rw[n1,n1,h n (Wk n),FA n λi a=>h i (Wz a)]
theorem yW{p q:Nat→Bool}{j:Nat}(h: ∀i,i≠j→q i=p i)(hp:p j=false)(b:q j=true): ∀n,j<n→dG q n=dG p n+1
 | 0,a=>absurd a (WC _)
 | n+1,a=>by
  rw[n1,n1];by_cases e:n=j
  ·subst e;rw[hp,b,ALct,ALcf,FA n λi d=>h i (Nat.ne_of_lt d)]
  ·rw[h n e,yW h hp b n Om];cases p n<;>rfl
def nD(m:Mp):Nat:=dG (λk=>m.N.getD k false) (m.R*m.B*m.M)
def nS(m:Mp):Nat:=dG (λk=>c6 m k) m.R
def evC(k:Nat)(l:List Ev):Nat:=l.countP λv=>v.k==k
def fk(k:Nat)(l:List Re):Nat:=l.countP λv=>v.k==k
theorem vE(k:Nat)(l m:List Ev):evC k (l++m)=evC k l+evC k m:=Ww ..
theorem vF(k:Nat)(l m:List Re):fk k (l++m)=fk k l+fk k m:=Ww ..
structure ja (r:Rp):Prop where
 p:r.m.O=nD r.m+(if r.j.A=1 then 1 else 0)
 s:r.m.F=nS r.m+(if r.j.A=2 then 1 else 0)
structure Mv (r r':Rp) (e:List Ev):Prop where
 p:r'.m.O=r.m.O+evC 3 e
 s:r'.m.F=r.m.F+evC 4 e
 d:nD r'.m+nS r'.m=nD r.m+nS r.m+evC 6 e
theorem Mv.none{r a:Rp}(e:a.m=r.m):Mv r a []:=⟨by rw[e];rfl,by rw[e];rfl,by rw[e];rfl⟩
theorem Mv.tr{a b d:Rp}{e f:List Ev}(h:Mv a b e)(k:Mv b d f):Mv a d (e++f):=by
 obtain⟨g,i,j⟩:=h;obtain⟨l,m,n⟩:=k;exact⟨by rw[vE];omega,by rw[vE];omega,by rw[vE];omega⟩
structure fl (r r':Rp):Prop where
 d:nD r'.m=nD r.m
 s:nS r'.m=nS r.m
theorem fl.rfl'(r:Rp):fl r r:=⟨rfl,rfl⟩
theorem fl.tr{a b d:Rp}(h:fl a b)(k:fl b d):fl a d:=⟨k.d.trans h.d,k.s.trans h.s⟩
theorem FB(r:Rp)(a:Ak)(h:ja r)(h0:r.j.A=0):ja (cM r a)∧Mv r (cM r a) (fh r a)∧fl r (cM r a):=by
 obtain⟨b,d⟩:=h;rw[ALifn Om] at b d;unfold cM fh;cases a.k==1 with
 | true=>
  cases dp r.m with
  | true=>exact⟨⟨by show r.m.O+1=nD r.m+1;omega,by show r.m.F=nS r.m+0;omega⟩,⟨rfl,rfl,rfl⟩,⟨rfl,rfl⟩⟩
  | false=>exact⟨⟨by rw[ALct,ALcf,ALifn Om];exact b,by rw[ALct,ALcf,ALifn Om];exact d⟩,⟨rfl,rfl,rfl⟩,⟨rfl,rfl⟩⟩
 | false=>
  cases dR r.m with
  | true=>exact⟨⟨by show r.m.O=nD r.m+0;omega,by show r.m.F+1=nS r.m+1;omega⟩,⟨rfl,rfl,rfl⟩,⟨rfl,rfl⟩⟩
  | false=>exact⟨⟨by rw[ALcf,ALcf,ALifn Om];exact b,by rw[ALcf,ALcf,ALifn Om];exact d⟩,⟨rfl,rfl,rfl⟩,⟨rfl,rfl⟩⟩
theorem FC(r:Rp)(a:Ak)(h:ja r):ja (bc r a)∧Mv r (bc r a) (bO r a)∧fl r (bc r a):=by
 unfold bc bO;cases cX r a with
 | true=>exact⟨h,Mv.none rfl,fl.rfl' _⟩
 | false=>
  cases b:r.j.A==0 with
  | true=>exact FB r a h (eq_of_beq b)
  | false=>
   rw[ALcf,ALcf,ALcf,ALcf];refine⟨⟨h.p,h.s⟩,?_,⟨rfl,rfl⟩⟩;cases rH r.q a==14 with
   | true=>exact⟨rfl,rfl,rfl⟩
   | false=>exact Mv.none rfl
theorem FD{r:Rp}(h:ja r):ja (aX r):=⟨h.p,h.s⟩
theorem FE: ∀(n:Nat) (s:Rp×List Ev),ja s.1→∃e,(eu n s).2=s.2++e∧ja (eu n s).1∧Mv s.1 (eu n s).1 e∧fl s.1 (eu n s).1
 | 0,s,h=>⟨[],(VK _).symm,h,Mv.none rfl,fl.rfl' _⟩
 | n+1,s,h=>by
  unfold eu
  split
  ·rename_i q;have r: ∃e,(fq s).2=s.2++e∧ja (fq s).1∧Mv s.1 (fq s).1 e∧fl s.1 (fq s).1:=by
    unfold fq;cases cX (aX s.1) (s.1.q.headD aG) with
    | true=>exact⟨[],(VK _).symm,FD h,Mv.none rfl,⟨rfl,rfl⟩⟩
    | false=>
     obtain⟨a,b,d⟩:=FB (aX s.1) (s.1.q.headD aG) (FD h) q;exact⟨_,rfl,a,⟨b.p,b.s,b.d⟩,⟨d.d,d.s⟩⟩
   obtain⟨e,g,i,j,k⟩:=r;obtain⟨f,l,m,o,p⟩:=FE n (fq s) i;exact⟨e++f,by rw[l,g,VN],m,j.tr o,k.tr p⟩
  ·exact⟨[],(VK _).symm,h,Mv.none rfl,fl.rfl' _⟩
theorem yX{α:Type}{l:List α}{i:Nat}{x d:α}(h:i<l.length):(l.set i x).getD i d=x:=by rw[VD,List.getElem?_set,ALifp rfl,ALifp h];rfl
theorem Ur{r:Rp}(h:ja r)(n:aT r)(q:r.j.A≠0):ja (dj r)∧Mv r (dj r) [⟨6,r.j.fr,r.j.tg⟩]∧nD r.m≤nD (dj r).m∧nD (dj r).m≤nD r.m+1∧nS r.m≤nS (dj r).m∧nS (dj r).m≤nS r.m+1:=by
 obtain⟨o,p⟩:=h;rcases n.j.k with e | ⟨e,b⟩ | ⟨e,b⟩
 ·rw[e] at q;exact absurd rfl q
 ·have d:nD (dj r).m=nD r.m+1:=by
   unfold dj;rw[e];show dG (λk=>(r.m.N.set r.j.fr true).getD k false) (r.m.R*r.m.B*r.m.M)=_;exact yW (j:=r.j.fr) (λi l=>getD_set_ne (Ne.symm l)) b.df (yX (by rw[n.m.ld];exact b.hf)) _ b.hf
  have f:nS (dj r).m=nS r.m:=by unfold dj;rw[e];rfl
  have a:(dj r).m.O=r.m.O∧(dj r).m.F=r.m.F:=by unfold dj;rw[e];exact⟨rfl,rfl⟩
  rw[e,ALifp rfl] at o;rw[e,ALifn Dc] at p;have g:(dj r).j.A=0:=rfl;exact⟨⟨by rw[a.1,d,g,ALifn Dc];omega,by rw[a.2,f,g,ALifn Dc];omega⟩,⟨by rw[a.1];rfl,by rw[a.2];rfl,by rw[d,f];show _=_+1;omega⟩,by omega,by omega,by omega,by omega⟩
 ·have d:nS (dj r).m=nS r.m+1:=by
   unfold dj;rw[e];show dG (λk=> !((r.m.K.set r.j.fr (r.j.tg:Int)).getD k 0== -1)) r.m.R=_;refine yW (j:=r.j.fr) (λi l=>?_) b.hs ?_ _ b.hf
   ·rw[getD_set_ne (Ne.symm l)];rfl
   ·rw[yX (by rw[n.m.ls];exact b.hf)];have:((r.j.tg:Int)== -1)=false:=by rw[dP];omega
    rw[this];rfl
  have f:nD (dj r).m=nD r.m:=by unfold dj;rw[e];rfl
  have a:(dj r).m.O=r.m.O∧(dj r).m.F=r.m.F:=by unfold dj;rw[e];exact⟨rfl,rfl⟩
  rw[e,ALifn Dc] at o;rw[e,ALifp rfl] at p;have g:(dj r).j.A=0:=rfl;exact⟨⟨by rw[a.1,f,g,ALifn Dc];omega,by rw[a.2,d,g,ALifn Dc];omega⟩,⟨by rw[a.1];rfl,by rw[a.2];rfl,by rw[d,f];show _=_+1;omega⟩,by omega,by omega,by omega,by omega⟩
structure ic (m m':Mp):Prop where
 d:nD m≤nD m'
 d1:nD m'≤nD m+1
 s:nS m≤nS m'
 s1:nS m'≤nS m+1
theorem ic.rfl'(m:Mp):ic m m:=⟨VW _,VV _,VW _,VV _⟩
theorem ic.tr{r b a:Rp}(h:ic r.m b.m)(k:fl b a):ic r.m a.m:=⟨by rw[k.d];exact h.d,by rw[k.d];exact h.d1,by rw[k.s];exact h.s,by rw[k.s];exact h.s1⟩
theorem ic.rt{r b a:Rp}(k:fl r b)(h:ic b.m a.m):ic r.m a.m:=⟨by rw[←k.d];exact h.d,by rw[←k.d];exact h.d1,by rw[←k.s];exact h.s,by rw[←k.s];exact h.s1⟩
theorem fl.one{r a:Rp}(k:fl r a):ic r.m a.m:=(ic.rfl' r.m).tr k
theorem Us{r:Rp}(h:ja r)(u:aT r)(d:r.j.A≠0)(t:r.j.nx<gh r.j.A r.m.B r.m.M r.m.C):ja (eA r).1∧Mv r (eA r).1 (eA r).2∧ic r.m (eA r).1.m:=by
 have b:ja (bk r):=⟨h.p,h.s⟩;unfold eA;cases kA r.m (bk r).j with
 | false=>exact⟨b,Mv.none rfl,ic.rfl' r.m⟩
 | true=>
  obtain⟨f,a,g,i,k,l⟩:=Ur b (rJ u d t) d;obtain⟨e,n,o,p,s⟩:=FE (bk r).q.length (ae (bk r)) f;refine⟨o,?_,?_⟩
  ·show Mv r (cv (bk r)).1 (cv (bk r)).2;unfold cv;rw[n];exact(show Mv r (dj (bk r)) [⟨6,(bk r).j.fr,(bk r).j.tg⟩] from⟨a.p,a.s,a.d⟩).tr p
  ·exact(show ic r.m (dj (bk r)).m from⟨g,i,k,l⟩).tr s
structure jS (g:Lg) (a b d:Nat):Prop where
 n:g.l.length+1≤g.next
 c:g.l.length+1=g.next→fk 3 g.l=a∧fk 4 g.l=b∧fk 6 g.l=d
theorem jS.add{g:Lg}{a b d:Nat}(h:jS g a b d)(x:Re):jS (bP g x) (a+fk 3 [x]) (b+fk 4 [x]) (d+fk 6 [x]):=by
 have p:=nO cq g.l;have q:=h.n;unfold bP
 split
 ·split
  ·exact⟨by show g.l.length+1≤g.next+1;omega,λe=>by have e:g.l.length+1=g.next+1:=e;omega⟩
  ·rename_i n;have o:aU cq g.l≠g.l.length:=λe=>n (.inr e);have m:(g.l.eraseIdx (aU cq g.l)++[iQ x g.next]).length=g.l.length:=by rw[VJ,List.length_eraseIdx,ALifp Om,List.length_singleton];omega
   exact⟨by show(g.l.eraseIdx (aU cq g.l)++[iQ x g.next]).length+1≤g.next+1;omega,λe=>by have e:(g.l.eraseIdx (aU cq g.l)++[iQ x g.next]).length+1=g.next+1:=e;omega⟩
 ·have m:(g.l++[iQ x g.next]).length=g.l.length+1:=by rw[VJ];rfl
  refine⟨by show(g.l++[iQ x g.next]).length+1≤g.next+1;omega,λe=>?_⟩;have e:(g.l++[iQ x g.next]).length+1=g.next+1:=e;obtain⟨i,j,l⟩:=h.c Om;have f: ∀k,fk k [iQ x g.next]=fk k [x]:=λk=>rfl;refine⟨?_,?_,?_⟩
  ·show fk 3 (g.l++[iQ x g.next])=_;rw[vF,i,f]
  ·show fk 4 (g.l++[iQ x g.next])=_;rw[vF,j,f]
  ·show fk 6 (g.l++[iQ x g.next])=_;rw[vF,l,f]
theorem jS.other{g:Lg}{a b d:Nat}(h:jS g a b d)(x:Re)(l:x.k=1∨x.k=2):jS (bP g x) a b d:=by
 have:=h.add x;have f: ∀k,k≠1→k≠2→fk k [x]=0:=λk i j=>by
  unfold fk;rw[Wq,ALifn];intro e;have:=eq_of_beq e;omega
 rwa [f 3 Dc Dc,f 4 Dc Dc,f 6 Dc Dc] at this
theorem Ut(m:Mp)(of time:Nat)(v:Ev)(k:Nat):fk k [gx m of time v]=evC k [v]:=rfl
theorem jS.cam(m:Mp)(of time:Nat): ∀(l:List Ev) {g:Lg} {a b d:Nat},jS g a b d→jS (ew m of time g l) (a+evC 3 l) (b+evC 4 l) (d+evC 6 l)
 | [],_,_,_,_,h=>h
 | v::l,g,a,b,d,h=>by
  have f:=(h.add (gx m (fj of v) time v)).cam m of time l;have e: ∀k,evC k (v::l)=fk k [gx m (fj of v) time v]+evC k l:=λk=>by
   rw[Ut];exact vE k [v] l
  rw[e,e,e,←V9,←V9,←V9];exact f
theorem jS.clear{g:Lg}{a b d:Nat}(h:jS g a b d):jS (mn g) a b d:=by
 have i:=h.n;refine⟨by show 0+1≤g.next;omega,λe=>?_⟩;have e:0+1=g.next:=e;have f:g.l=[]:=List.length_eq_zero_iff.1 Om;have:=h.c Om;rw[f] at this;exact this
structure iv (s:Le):Prop where
 r:ja s.r
 g:jS s.g s.r.m.O s.r.m.F (nD s.r.m+nS s.r.m)
structure eC (s s':Le):Prop where
 k:iv s→iv s'
 d:fl s.r s'.r
theorem eC.rfl'(s:Le):eC s s:=⟨id,fl.rfl' _⟩
theorem eC.tr{a b d:Le}(h:eC a b)(k:eC b d):eC a d:=⟨λx=>k.k (h.k x),h.d.tr k.d⟩
theorem FF{s:Le}{a:Rp}{e:List Ev}(of:Nat)(h:iv s)(h1:ja a)(h2:Mv s.r a e):iv (uV of (rQ s a) e):=by
 refine⟨h1,?_⟩;show jS (ew a.m of s.time s.g e) a.m.O a.m.F (nD a.m+nS a.m);rw[h2.p,h2.s,h2.d];exact h.g.cam ..
theorem Uu(s:Le)(a:Ak)(h:iv s):iv (nT s a):=FF a.k h (FC s.r a h.r).1 (FC s.r a h.r).2.1
theorem Uv(r:Rp)(a:Ak):fl r (cM r a):=by
 unfold cM;cases a.k==1<;>cases dp r.m<;>cases dR r.m<;>exact⟨rfl,rfl⟩
theorem Uw(r:Rp)(a:Ak):fl r (bc r a):=by
 unfold bc;cases cX r a<;>cases r.j.A==0
 ·exact⟨rfl,rfl⟩
 ·exact Uv r a
 ·exact⟨rfl,rfl⟩
 ·exact⟨rfl,rfl⟩
theorem FG(s:Le)(a:Ak):eC s (nT s a):=⟨Uu s a,Uw s.r a⟩
theorem FH(s:Le)(x:Re)(a:x.k=1∨x.k=2):eC s (uW s x):=⟨λh=>⟨h.r,h.g.other x a⟩,fl.rfl' _⟩
theorem Ux(s:Le)(r p n:Nat):eC s (yj s r p n):=⟨λh=>⟨h.r,h.g⟩,fl.rfl' _⟩
theorem FI(s:Le)(r h w:Nat)(x:Re)(a:x.k=1∨x.k=2):eC s (mw s r h w x):=(FH s x a).tr (Ux ..)
theorem FJ(s:Le)(r h w:Nat)(x:Re)(a:x.k=1∨x.k=2):eC s (fR s r h w x):=by
 unfold fR;cases cN s.k.lp (da s.k.t h).l w
 ·exact FI s r h w x a
 ·exact(FI s r h w x a).tr (FG _ _)
theorem FK(s:Le)(r h w:Nat)(x:Re)(a:x.k=1∨x.k=2):eC s (eU s r h w x):=by
 unfold eU;cases cN s.k.lr (s.k.F.getD r bg).l w
 ·exact FJ s r h w x a
 ·exact(FJ s r h w x a).tr (FG _ _)
theorem Uy(heavy:Nat)(s:Le)(n:Nt):eC s (dq heavy s n):=by
 unfold dq
 split
 ·exact eC.rfl' _
 split
 ·exact FK _ _ _ _ _ (.inl rfl)
 split
 ·exact FH _ _ (.inr rfl)
 ·exact FK _ _ _ _ _ (.inr rfl)
theorem iv.cg{a b:Le}(h:iv a)(d:b.r=a.r)(e:b.g=a.g):iv b:=⟨by rw[d];exact h.r,by rw[d,e];exact h.g⟩
theorem eC.cg{a b d:Le}(h:eC a b)(e:d.r=b.r)(f:d.g=b.g):eC a d:=⟨λx=>(h.k x).cg e f,by rw[e];exact h.d⟩
section
variable (c:Cf) (x:Ct)
theorem yY(i h r:Nat):eC x.s (b8 c x i h r).s:=(Uy c.H x.s (na c x i h r)).cg rfl rfl
theorem FL(n:Nat)(b:Bool):eC x.s (c0 c x n b).s:=by
 have a:=yY c x (a9 x n) (mA x n) (mB x n);unfold c0;cases (((bL c x (a9 x n):Nat):Int)==1)&&b
 ·exact a
 ·exact a
theorem FM(n:Nat)(l:List UInt8)(m:Nat):eC x.s (bG c x n l m).s:=by
 have a:=yY c x (a9 x n) (mA x n) (mB x n);unfold bG;cases (m:Int)==0
 ·cases decide (pc m=64)
  ·cases !(cr (bL c x (a9 x n))==0)
   ·exact a
   ·exact a
  ·exact eC.rfl' _
 ·exact eC.rfl' _
theorem Uz:eC x.s (lI c x).s:=by
 unfold lI;cases r5 x
 ·exact eC.rfl' _
 ·exact yY c x _ _ _
theorem UA{x:Ct}{K A:Nat}(h:bF c x K A)(e:x.s.r.j.A≠0)(l:K+3≤1000000000)(hv:iv x.s):iv (iZ c x).s∧ic x.s.r.m (iZ c x).s.r.m:=by
 obtain⟨d,k,m⟩:=EK h e l;have f:=Uz c x;have b:=f.k hv;have a:(lI c x).s.r.j.A≠0:=by rw[k];exact e
 obtain⟨g,i,j⟩:=Us b.r d.s.r a (d.run a);exact⟨(FF (lI c x).s.r.j.A b g i).cg rfl rfl,ic.rt f.d j⟩
end
theorem UB(c:Cf)(x:Mc)(s:St):eC x.x.s (kf c x s).x.s:=by
 unfold kf
 split
 ·split
  ·exact FL c x.x _ _
  ·split
   ·exact FM c x.x _ _ _
   ·split<;>exact FM c x.x _ _ _
 ·exact eC.rfl' _
theorem FN(c:Cf){x:Mc}{n:Nat}(e:GM c x n)(f:n≤900)(s:St)(h:iv x.x.s):iv (Vo c x s).x.s∧ic x.x.s.r.m (Vo c x s).x.s.r.m:=by
 have a: ∀{b:Le},eC x.x.s b→iv b∧ic x.x.s.r.m b.r.m:=λk=>⟨k.k h,k.d.one⟩;unfold Vo
 split
 ·split
  ·exact a (FL c (ke c x.x) _ _)
  ·split
   ·split
    ·exact a (eC.rfl' _)
    ·rename_i d;exact UA c e.ok.ct d Om h
   ·split
    ·exact a ⟨λh=>⟨h.r,h.g⟩,fl.rfl' _⟩
    ·split
     ·exact a ⟨λh=>⟨h.r,h.g.clear⟩,fl.rfl' _⟩
     ·split
      ·exact a (eC.rfl' _)
      ·exact a (UB c {x with st:=x.st+1} s)
 ·exact a (eC.rfl' _)
theorem su{p:Nat→Bool}: ∀n,(∀i,i<n→p i=false)→dG p n=0
 | 0,_=>rfl
 | n+1,h=>by rw[n1,h n (Wk n),ALcf];exact su n λi a=>h i (Wz a)
theorem UC(c:Cf):iv (ao c).x.s:=by
 have b:nD (ao c).x.s.r.m=0:=su _ λi a=>by
  show(VA _ false).getD i false=false;rw[VD,VL]
  split<;>rfl
 have d:nS (ao c).x.s.r.m=0:=su _ λi a=>by
  show(!((VA c.R (-1:Int)).getD i 0== -1))=false;have a:i<c.R:=a;rw[VD,VL,ALifp a];rfl
 refine⟨⟨by rw[b];rfl,by rw[d];rfl⟩,⟨VW _,λ_=>⟨rfl,rfl,?_⟩⟩⟩;rw[b,d];rfl
theorem yZ{c:Cf}(a:cY c){l:List St}(hs:pW l): ∀k,k≤900→iv (au c (ao c) l k).x.s
 | 0,_=>UC c
 | k+1,b=>(FN c (pX (GM.start a) hs k Om) Om _ (yZ a hs k Om)).1
theorem UD{c:Cf}(a:cY c){l:List St}(hs:pW l)(k:Nat)(b:k<900):ic (au c (ao c) l k).x.s.r.m (Vo c (au c (ao c) l k) (l.getD k bf)).x.s.r.m:=
 (FN c (pX (GM.start a) hs k Om) Om _ (yZ a hs k Om)).2
end
section
theorem FO{c:Cf}(b:c.log=256)(a:cY c)(hs:mC c=true):aa VB 12 #[.agg #[iN c.R,iN c.S,iN c.B,iN c.M,iN c.C,iN c.G,iN c.res,iN c.E,iN c.lr,iN c.er,iN c.lp,iN c.ep,iN c.I,iN c.H,i6 256,.bool c.W]] [] [] (λE=>[pk (aP (E.y 0) (E.y 1) (E.y 2) (E.y 3) (E.y 4) (E.y 5) (E.y 6) (E.y 7) (E.y 8) (E.y 9) (E.y 10) (E.y 11) c (ao c))]) (λE=>pt (E.y 0) 0):=by
 rw[show(256:Int)=((c.log:Nat):Int) by omega];exact Fl c a hs
theorem UE{c:Cf}(b:c.log=256)(a:cY c)(hs:mC c=false):aa VB 12 #[.agg #[iN c.R,iN c.S,iN c.B,iN c.M,iN c.C,iN c.G,iN c.res,iN c.E,iN c.lr,iN c.er,iN c.lp,iN c.ep,iN c.I,iN c.H,i6 256,.bool c.W]] [] [] N0 (λ_=> .pointer none):=by
 rw[show(256:Int)=((c.log:Nat):Int) by omega];exact T3 c a hs
theorem UF(g b a c sc st:Nat)(d vs:Value):aa VB 13 #[pt g 0] [ob g #[pt b 0,pt a 0,.map (some c),d,vs,iN sc,iN st] 114] [] N0 (λ_=>pt a 0):=by
 exact fG Tryz.func13 λw cs=>r0 [] [(2,.pointer none)] [] (r0 [(3,.l 0)] [(2,pt a 0)] [2] (lf ab.zero [] [(0,0)] []))
theorem UG(d e i g b f h a time:Nat)(v:Value)(c:Cf):aa VB 14 #[pt d 0] [ob d #[pt e 0,pt f 0,pt h 0,iN a,v] 119,ob e (lA c i g b time) 122] [] N0 (λ_=>pt b 0):=by
 exact fG Tryz.func14 λw cs=>r0 [] [(2,.pointer none)] [] (r0 [(3,.l 0),(6,.l 1)] [(2,pt b 0)] [2] (lf ab.zero [] [(0,0),(1,1)] []))
theorem UH(g a k o l n j p i b f m:Nat)(c:Cf)(x:Mc)(bs:aw)(h:mM (aP g a k o l n j p i b f m c x) bs):aa VB 13 #[pt g 0] [.c bs] [] N0 (λ_=>pt a 0):=by
 obtain⟨L,ds,⟨gi,r,vs,rfl⟩,d,rfl⟩:=h;obtain⟨e,_,rfl,q,d⟩:=cD d;obtain rfl:e=_:=q;exact aa.inC (UF g b a gi x.sc x.st r vs) (ds:=[[(g,_)]]) ⟨rfl,trivial⟩ (by rw[VH,VS,VK,VH];exact VQ _ _)
theorem UI(g a f l p q j r e i o k:Nat)(c:Cf)(x:Mc)(bs:aw)(h:mM (aP g a f l p q j r e i o k c x) bs):aa VB 14 #[pt a 0] [.c bs] [] N0 (λ_=>pt e 0):=by
 obtain⟨L,ds,⟨gi,C,vs,rfl⟩,d,rfl⟩:=h;obtain⟨y,_,rfl,B,d⟩:=cD d;obtain⟨z,_,rfl,s,d⟩:=cD d;obtain⟨w,A,⟨v,rfl⟩,b,rfl⟩:=s;obtain⟨m,_,rfl,t,b⟩:=cD b;obtain⟨n,_,rfl,u,b⟩:=cD b;obtain rfl:m=_:=t;obtain rfl:n=_:=u;refine aa.inC (UG a f l j e i k x.x.U x.x.s.time v c) (ds:=[[(a,_)],[(f,_)]]) ⟨rfl,rfl,trivial⟩ ?_;refine List.Sublist.trans ?_ (V2 (VM _ (V3 ..)));rw[VH,VH,VS,VK,VH,VH,←VN];exact VQ _ _
def bX(l:List Re):Nat→List Int
 | 0=>VA 7 0
 | k+1=>bif decide ((0:Int)≤((l.getD k br).k:Int))&&decide (((l.getD k br).k:Int)<7) then(bX l k).set (l.getD k br).k ((bX l k).getD (l.getD k br).k 0+1) else bX l k
theorem FP(l:List Re):bX l 0=VA 7 0:=rfl
theorem y0(l:List Re)(k:Nat):bX l (k+1)=bif decide ((0:Int)≤((l.getD k br).k:Int))&&decide (((l.getD k br).k:Int)<7) then(bX l k).set (l.getD k br).k ((bX l k).getD (l.getD k br).k 0+1) else bX l k:=rfl
theorem sx(l:List Re): ∀k,(bX l k).length=7
 | 0=>rfl
 | k+1=>by
  rw[y0];cases decide ((0:Int)≤((l.getD k br).k:Int))&&decide (((l.getD k br).k:Int)<7)
  ·exact sx l k
  ·rw[ALct,List.length_set];exact sx l k
theorem y1(l:List Re): ∀k,k≤l.length→∀i,i<7→(bX l k).getD i 0=(fk i (l.take k):Int)
 | 0,_,i,a=>by
  rw[FP,VD,VL,ALifp a];rfl
 | k+1,b,i,a=>by
  have b:k<l.length:=b;have ih:=y1 l k (Nat.le_of_lt b);have c:fk i (l.take (k+1))=fk i (l.take k)+fk i [l.getD k br]:=by
   rw[List.take_add_one,Wn b,vF,VD,Wn b];rfl
  have d:fk i [l.getD k br]=if(l.getD k br).k=i then 1 else 0:=by
   unfold fk;rw[Wq];by_cases e:(l.getD k br).k=i
   ·rw[ALifp e,ALifp (beq_iff_eq.2 e)]
   ·rw[ALifn e,ALifn (λh=>e (eq_of_beq h))]
  rw[y0,c,d];by_cases f:(l.getD k br).k<7
  ·rw[cx (show(0:Int)≤((l.getD k br).k:Int) by omega),cx (show(((l.getD k br).k:Nat):Int)<7 by omega)];show((bX l k).set (l.getD k br).k ((bX l k).getD (l.getD k br).k 0+1)).getD i 0=_;by_cases e:(l.getD k br).k=i
   ·rw[ALifp e,e,yX (by rw[sx];exact a),ih i a];rfl
   ·rw[ALifn e,getD_set_ne e,ih i a];rfl
  ·rw[bh (show ¬(((l.getD k br).k:Nat):Int)<7 by omega),Bool.and_false,ALcf,ALifn Om,ih i a];rfl
theorem UJ{n:Nat}(h:(decide (0≤((n:Nat):Int))&&decide (((n:Nat):Int)<7))=true):n<7:=by
 rw[Wg,decide_eq_true_eq,decide_eq_true_eq] at h;omega
theorem UK(b:Bool):(0:Int)≤(bif b then 1 else 0)∧(bif b then 1 else 0:Int)≤1:=by cases b<;>decide
theorem vG(i:Nat)(l:List Re):fk i l≤l.length:=List.countP_le_length
theorem UL(l:List Re){k:Nat}(b:k≤l.length){i:Nat}(a:i<7):0≤(bX l k).getD i 0∧(bX l k).getD i 0≤(l.length:Int):=by
 rw[y1 l k b i a];have:=vG i (l.take k);rw[WA] at this;omega
theorem UM{c:Cf}{m:Mp}(h:oW c m):nD m=dG (λz=>m.N.getD z false) (c.R*c.B*c.M):=by unfold nD;rw[h.R,h.B,h.M]
theorem UN{c:Cf}{m:Mp}(h:oW c m):nS m=dG (λz=>c6 m z) c.R:=by unfold nS;rw[h.R]
theorem UO(c:Cf)(l:List St):nD (au c (ao c) l 0).x.s.r.m=0:=su _ λi a=>by
 show(VA _ false).getD i false=false;rw[VD,VL]
 split<;>rfl
theorem UP(c:Cf)(l:List St):nS (au c (ao c) l 0).x.s.r.m=0:=su _ λi a=>by
 show(!((VA c.R (-1:Int)).getD i 0== -1))=false;have a:i<c.R:=a;rw[VD,VL,ALifp a];rfl
structure UQ (c:Cf) (x:Mc):Prop where
 d:nD x.x.s.r.m≤c.res
 s:nS x.x.s.r.m≤c.S
 g:x.x.s.g.l.length≤256
 t3:x.x.s.g.next=x.x.s.g.l.length+1→(bX x.x.s.g.l x.x.s.g.l.length).getD 3 0≤(c.res:Int)
 t4:x.x.s.g.next=x.x.s.g.l.length+1→(bX x.x.s.g.l x.x.s.g.l.length).getD 4 0≤(c.S:Int)
 t6:x.x.s.g.next=x.x.s.g.l.length+1→(bX x.x.s.g.l x.x.s.g.l.length).getD 6 0=(nD x.x.s.r.m:Int)+(nS x.x.s.r.m:Int)
 tb:x.x.s.g.next=x.x.s.g.l.length+1→(bX x.x.s.g.l x.x.s.g.l.length).getD 3 0+(bX x.x.s.g.l x.x.s.g.l.length).getD 4 0=(bX x.x.s.g.l x.x.s.g.l.length).getD 6 0+(bif ((x.x.s.r.j.A:Int) != 0) then 1 else 0:Int)
 b3:0≤(bX x.x.s.g.l x.x.s.g.l.length).getD 3 0∧(bX x.x.s.g.l x.x.s.g.l.length).getD 3 0≤256
 b4:0≤(bX x.x.s.g.l x.x.s.g.l.length).getD 4 0∧(bX x.x.s.g.l x.x.s.g.l.length).getD 4 0≤256
 b6:0≤(bX x.x.s.g.l x.x.s.g.l.length).getD 6 0∧(bX x.x.s.g.l x.x.s.g.l.length).getD 6 0≤256
theorem UR{c:Cf}{x:Mc}{n:Nat}(i:GM c x n)(h:iv x.x.s):UQ c x:=by
 have j:=i.ok.ct.s.r;have d:=i.ok.ct.ly;have b:=i.ok.ct.s.g;obtain⟨f,g⟩:=h.r;have hp:=j.m.pg;have t:=j.m.rk;have r:=d.res;have s:=d.S;have u:=b.l;have l:=b.r;have st:=y1 x.x.s.g.l x.x.s.g.l.length (VW _);rw[List.take_length] at st;have o:=vG 3 x.x.s.g.l;have p:=vG 4 x.x.s.g.l;have q:=vG 6 x.x.s.g.l;have a:=h.g.c;have k:(x.x.s.r.j.A=0∨x.x.s.r.j.A=1)∨x.x.s.r.j.A=2:=by
  rcases j.j.k with e | ⟨e,_⟩ | ⟨e,_⟩
  ·exact .inl (.inl (by rw[e];rfl))
  ·exact .inl (.inr e)
  ·exact .inr e
 have m:((nD x.x.s.r.m:Nat):Int)+((nS x.x.s.r.m:Nat):Int)+(bif ((x.x.s.r.j.A:Int) != 0) then 1 else 0)=((x.x.s.r.m.O:Nat):Int)+((x.x.s.r.m.F:Nat):Int):=by
  rcases k with(e | e) | e
  ·rw[f,g,e,ALifn Dc,ALifn Dc];show _+(0:Int)=_;omega
  ·rw[f,g,e,ALifp rfl,ALifn Dc];show _+(1:Int)=_;omega
  ·rw[f,g,e,ALifn Dc,ALifp rfl];show _+(1:Int)=_;omega
 refine⟨by omega,by omega,by omega,λe=>?_,λe=>?_,λe=>?_,λe=>?_,?_,?_,?_⟩
 ·rw[st 3 Dc,(a e.symm).1];omega
 ·rw[st 4 Dc,(a e.symm).2.1];omega
 ·rw[st 6 Dc,(a e.symm).2.2];omega
 ·rw[st 3 Dc,st 4 Dc,st 6 Dc,(a e.symm).1,(a e.symm).2.1,(a e.symm).2.2];omega
 ·rw[st 3 Dc];omega
 ·rw[st 4 Dc];omega
 ·rw[st 6 Dc];omega
theorem US{n k:Nat}(h:(!(((n:Nat):Int)==((k+1:Nat):Int)))=false):n=k+1:=by
 rw[Bool.not_eq_false',beq_iff_eq] at h;omega
attribute [local irreducible] au Vo kL nD nS dG bX
theorem UT(r s b m c way f mode n i k g a heavy j:Int)(e:Bool)(h:mq r s b m c way f mode n i k g a heavy 256=false)(v:Value)(l:List St):aa VB 4 #[.agg #[i6 r,i6 s,i6 b,i6 m,i6 c,i6 way,i6 f,i6 mode,i6 n,i6 i,i6 k,i6 g,i6 a,i6 heavy,i6 j,.bool e],v] [.p (aH eSt v l)] [] N0 (λ_=> .bool true):=by
 exact fO Tryz.func4 0 rfl λq t=>fG Tryz.func4 λw cs=>ra (λo=>[(2,pt (B0 o) 0),(4,.bool false)]) (λo=>[ob (B0 o) #[i6 r,i6 s,i6 b,i6 m,i6 c,i6 way,i6 f,i6 mode,i6 n,i6 i,i6 k,i6 g,i6 a,i6 heavy,i6 j,.bool e] 31]) λo=>rF [(0,.c [] [] (vD))] 21 (rs [(1,.s 1)] 1 (ob (B0 o) #[i6 r,i6 s,i6 b,i6 m,i6 c,i6 way,i6 f,i6 mode,i6 n,i6 i,i6 k,i6 g,i6 a,i6 heavy,i6 256,.bool e] 31) (r0 [(0,.l 1),(1,.c [] [] (TF r s b m c way f mode n i k g a heavy 256 e h))] [(5,.pointer none)] [] (rT [(3,.d),(4,.d),(5,.d)] 31 (r0 [] [(4,.bool true)] [4] (lf ab.zero [] [(0,0)] [])))))
theorem UU(c:Cf)(e:cY c)(b:c.log=256)(hs:mC c=false)(lg:Int)(v:Value)(l:List St):aa VB 4 #[.agg #[iN c.R,iN c.S,iN c.B,iN c.M,iN c.C,iN c.G,iN c.res,iN c.E,iN c.lr,iN c.er,iN c.lp,iN c.ep,iN c.I,iN c.H,i6 lg,.bool c.W],v] [.p (aH eSt v l)] [] N0 (λ_=> .bool true):=by
 exact fO Tryz.func4 0 rfl λf g=>fG Tryz.func4 λw cs=>ra (λa=>[(2,pt (B0 a) 0),(4,.bool false)]) (λa=>[ob (B0 a) #[iN c.R,iN c.S,iN c.B,iN c.M,iN c.C,iN c.G,iN c.res,iN c.E,iN c.lr,iN c.er,iN c.lp,iN c.ep,iN c.I,iN c.H,i6 lg,.bool c.W] 31]) λa=>rF [(0,.c [] [] (vD))] 21 (rs [(1,.s 1)] 1 (ob (B0 a) #[iN c.R,iN c.S,iN c.B,iN c.M,iN c.C,iN c.G,iN c.res,iN c.E,iN c.lr,iN c.er,iN c.lp,iN c.ep,iN c.I,iN c.H,i6 256,.bool c.W] 31) (r0 [(0,.l 1),(1,.c [] [] (UE b e hs))] [(5,.pointer none)] [] (rT [(3,.d),(4,.d),(5,.d)] 31 (r0 [] [(4,.bool true)] [4] (lf ab.zero [] [(0,0)] [])))))
theorem UW(c:Cf)(e:cY c)(d:c.log=256)(hs:mC c=true)(lg:Int)(v:Value)(l:List St)(h:80<l.length):aa VB 4 #[.agg #[iN c.R,iN c.S,iN c.B,iN c.M,iN c.C,iN c.G,iN c.res,iN c.E,iN c.lr,iN c.er,iN c.lp,iN c.ep,iN c.I,iN c.H,i6 lg,.bool c.W],v] [.p (aH eSt v l)] [] N0 (λ_=> .bool true):=by
 exact fO Tryz.func4 0 rfl λg f=>fG Tryz.func4 λw cs=>ra (λb=>[(2,pt (B0 b) 0),(4,.bool false)]) (λb=>[ob (B0 b) #[iN c.R,iN c.S,iN c.B,iN c.M,iN c.C,iN c.G,iN c.res,iN c.E,iN c.lr,iN c.er,iN c.lp,iN c.ep,iN c.I,iN c.H,i6 lg,.bool c.W] 31]) λb=>rF [(0,.c [] [] (vD))] 21 (rs [(1,.s 1)] 1 (ob (B0 b) #[iN c.R,iN c.S,iN c.B,iN c.M,iN c.C,iN c.G,iN c.res,iN c.E,iN c.lr,iN c.er,iN c.lp,iN c.ep,iN c.I,iN c.H,i6 256,.bool c.W] 31) (rr (λ_=>[(0,.l 1),(1,.c [] [2] (FO d e hs))]) (λa=>[(5,pt ((B1 a)) 0)]) [] (λa L=>L++[pk (aP (B1 a) ((a 1).y 1) ((a 1).y 2) ((a 1).y 3) ((a 1).y 4) ((a 1).y 5) ((a 1).y 6) ((a 1).y 7) ((a 1).y 8) ((a 1).y 9) ((a 1).y 10) ((a 1).y 11) c (ao c))]) λa=>rT [(4,eD f.1 0),(5,.t (tk (show Value.bool (decide (80<(l.length:Int)))= .bool true from ALca Value.bool (by exact cx Om))))] 31 (r0 [] [(4,.bool true)] [4] (lf ab.zero [] [(0,0)] []))))
theorem UX(c:Cf)(u:cY c)(hLg:c.log=256)(hs:mC c=true)(lg:Int)(v:Value)(l:List St)(hl:l.length≤80)(n:pW l):aa VB 4 #[.agg #[iN c.R,iN c.S,iN c.B,iN c.M,iN c.C,iN c.G,iN c.res,iN c.E,iN c.lr,iN c.er,iN c.lp,iN c.ep,iN c.I,iN c.H,i6 lg,.bool c.W],v] [.p (aH eSt v l)] [] N0 (λ_=> .bool true):=by
 have Z:=GM.start u;have h:=Z.ok.ct.s.r;have hG:=u.ly.Q;have hrb:=hG.bd.rbm;have hr8:=hG.bd.r8;refine fO Tryz.func4 0 rfl λr C=>fG Tryz.func4 λw cs=>ra (λA=>[(2,pt (B0 A) 0),(4,.bool false)]) (λA=>[ob (B0 A) #[iN c.R,iN c.S,iN c.B,iN c.M,iN c.C,iN c.G,iN c.res,iN c.E,iN c.lr,iN c.er,iN c.lp,iN c.ep,iN c.I,iN c.H,i6 lg,.bool c.W] 31]) λA=>rF [(0,.c [] [] (vD))] 21 (rs [(1,.s 1)] 1 (ob (B0 A) #[iN c.R,iN c.S,iN c.B,iN c.M,iN c.C,iN c.G,iN c.res,iN c.E,iN c.lr,iN c.er,iN c.lp,iN c.ep,iN c.I,iN c.H,i6 256,.bool c.W] 31) (rr (λ_=>[(0,.l 1),(1,.c [] [2] (FO hLg u hs))]) (λa=>[(5,pt ((B1 a)) 0)]) [] (λa L=>L++[pk (aP (B1 a) ((a 1).y 1) ((a 1).y 2) ((a 1).y 3) ((a 1).y 4) ((a 1).y 5) ((a 1).y 6) ((a 1).y 7) ((a 1).y 8) ((a 1).y 9) ((a 1).y 10) ((a 1).y 11) c (ao c))]) λa=>rF [(4,eD C.1 0),(5,.t (tk (show Value.bool (decide (80<(l.length:Int)))= .bool false from ALca Value.bool (by exact bh Om))))] 31 (rr (λ_=>[(1,.c [2] [2] (o2 (B1 a) ((a 1).y 1) ((a 1).y 2) ((a 1).y 3) ((a 1).y 4) ((a 1).y 5) ((a 1).y 6) ((a 1).y 7) ((a 1).y 8) ((a 1).y 9) ((a 1).y 10) ((a 1).y 11) c (ao c))),(2,.c [2] [2] (Fg (B1 a) ((a 1).y 1) ((a 1).y 2) ((a 1).y 3) ((a 1).y 4) ((a 1).y 5) ((a 1).y 6) ((a 1).y 7) ((a 1).y 8) ((a 1).y 9) ((a 1).y 10) ((a 1).y 11) c (ao c))),(3,.c [2] [2] (TM (B1 a) ((a 1).y 1) ((a 1).y 2) ((a 1).y 3) ((a 1).y 4) ((a 1).y 5) ((a 1).y 6) ((a 1).y 7) ((a 1).y 8) ((a 1).y 9) ((a 1).y 10) ((a 1).y 11) c (ao c) h))]) (λ_=>[(6,pt ((a 1).y 4) 0)]) [] (λ_ L=>L.set 2 ((pk (aP (B1 a) ((a 1).y 1) ((a 1).y 2) ((a 1).y 3) ((a 1).y 4) ((a 1).y 5) ((a 1).y 6) ((a 1).y 7) ((a 1).y 8) ((a 1).y 9) ((a 1).y 10) ((a 1).y 11) c (ao c))))) λq6=>r0 [] [(7,i6 0),(8,i6 0)] [] (r0 [(1,eD C.1 0)] [(36,v),(37,iN l.length),(38,i6 0)] [] ?_))));refine lq (λk=>k≤l.length) (λk=>[(38,iN k),(7,i6 ((nD (au c (ao c) l k).x.s.r.m:Nat):Int)),(8,i6 ((nS (au c (ao c) l k).x.s.r.m:Nat):Int))]) (λk L=>L.set 2 ((pk (aP (B1 a) ((a 1).y 1) ((a 1).y 2) ((a 1).y 3) ((a 1).y 4) ((a 1).y 5) ((a 1).y 6) ((a 1).y 7) ((a 1).y 8) ((a 1).y 9) ((a 1).y 10) ((a 1).y 11) c (au c (ao c) l k))))) (λk=>l.length-k) 0 Om (by rw[UO];rw[UP];kernel_rfl) (by rw[Um];kernel_rfl) (λk hk9=>?_);have hkk:=hk9;have hgm:=pX Z n k Om;have hnk:0+k≤900:=by omega
 have X:=n.a k;have hsd:=X.d;have S:=pX Z n (k+1) Om;have h:=S.ok.ct.s.r;have q:=S.ok.ct.ly;have R:=UM q;have W:=UN q;have V:=UD u n k Om;rw[←Fy] at V;obtain⟨hq1,hq2,hq3,hq4⟩:=V;rw[R] at hq1 hq2;rw[W] at hq3 hq4;have hyR:=q.R;have hyN:(au c (ao c) l (k+1)).x.s.r.m.R*(au c (ao c) l (k+1)).x.s.r.m.B*(au c (ao c) l (k+1)).x.s.r.m.M=c.R*c.B*c.M:=by rw[q.R,q.B,q.M]
 have hdb:=sr (λz=>(au c (ao c) l (k+1)).x.s.r.m.N.getD z false) (c.R*c.B*c.M);have hsb:=sr (λz=>c6 (au c (ao c) l (k+1)).x.s.r.m z) c.R;refine r0 [] [(39,.bool (decide ((k:Int)<(l.length:Int))))] [] ?_;refine b0 (k:Int) (l.length:Int) (λP J=>?_) λP J=>?_
 ·refine rr (λ_=>[(0,fa C.1 0 k 75),(1,mQ RS C.1 0 k 0 75),(3,.s 3)]) (λg=>[(10,pt (B2 g) 0)]) [] (λg L=>L++[ob (B2 g) (sV ((l.getD k bf).k) ((l.getD k bf).ln) ((l.getD k bf).d) ((l.getD k bf).m:Nat) ((l.getD k bf).f0) ((l.getD k bf).f1) ((l.getD k bf).f2) ((l.getD k bf).f3) ((l.getD k bf).f4) ((l.getD k bf).f5) ((l.getD k bf).f6) ((l.getD k bf).f7)) 50]) λg=>rs [(1,.l 3),(2,.c [2] [2] (vz (B1 a) ((a 1).y 1) ((a 1).y 2) ((a 1).y 3) ((a 1).y 4) ((a 1).y 5) ((a 1).y 6) ((a 1).y 7) ((a 1).y 8) ((a 1).y 9) ((a 1).y 10) ((a 1).y 11) c (au c (ao c) l k) _ hgm hnk (⟨((l.getD k bf).k),((l.getD k bf).ln),((l.getD k bf).d),((l.getD k bf).m),((l.getD k bf).f0),((l.getD k bf).f1),((l.getD k bf).f2),((l.getD k bf).f3),((l.getD k bf).f4),((l.getD k bf).f5),((l.getD k bf).f6),((l.getD k bf).f7)⟩:St) X))] 2 ((pk (aP (B1 a) ((a 1).y 1) ((a 1).y 2) ((a 1).y 3) ((a 1).y 4) ((a 1).y 5) ((a 1).y 6) ((a 1).y 7) ((a 1).y 8) ((a 1).y 9) ((a 1).y 10) ((a 1).y 11) c (Vo c (au c (ao c) l k) (⟨((l.getD k bf).k),((l.getD k bf).ln),((l.getD k bf).d),((l.getD k bf).m),((l.getD k bf).f0),((l.getD k bf).f1),((l.getD k bf).f2),((l.getD k bf).f3),((l.getD k bf).f4),((l.getD k bf).f5),((l.getD k bf).f6),((l.getD k bf).f7)⟩:St))))) (cl [.c r,ob (B0 A) #[iN c.R,iN c.S,iN c.B,iN c.M,iN c.C,iN c.G,iN c.res,iN c.E,iN c.lr,iN c.er,iN c.lp,iN c.ep,iN c.I,iN c.H,i6 256,.bool c.W] 31,pk (aP (B1 a) ((a 1).y 1) ((a 1).y 2) ((a 1).y 3) ((a 1).y 4) ((a 1).y 5) ((a 1).y 6) ((a 1).y 7) ((a 1).y 8) ((a 1).y 9) ((a 1).y 10) ((a 1).y 11) c (au c (ao c) l (k+1))),ob (B2 g) (sV ((l.getD k bf).k) ((l.getD k bf).ln) ((l.getD k bf).d) ((l.getD k bf).m:Nat) ((l.getD k bf).f0) ((l.getD k bf).f1) ((l.getD k bf).f2) ((l.getD k bf).f3) ((l.getD k bf).f4) ((l.getD k bf).f5) ((l.getD k bf).f6) ((l.getD k bf).f7)) 50] (by rw[Fy];kernel_rfl) (r0 [] [(11,i6 0),(12,i6 0)] [] (r0 [(2,.l 1),(3,.c [] [] (k9 c.R c.S c.B c.M c.C hG))] [(48,i6 (((c.R*c.B)*c.M:Nat):Int)),(49,i6 0)] [] ?_)));refine lq (λj=>j≤(c.R*c.B*c.M)) (λj=>[(49,iN j),(11,i6 ((dG (λz=>(au c (ao c) l (k+1)).x.s.r.m.N.getD z false) j:Nat):Int))]) (λ_ L=>L) (λj=>(c.R*c.B*c.M)-j) 0 Om (by rw[Fz];kernel_rfl) Kr (λj hk16=>?_);have hcj:=sr (λz=>(au c (ao c) l (k+1)).x.s.r.m.N.getD z false) j;refine r0 [] [(50,.bool (decide ((j:Int)<(((c.R*c.B)*c.M:Nat):Int))))] [] ?_;refine b0 (j:Int) (((c.R*c.B)*c.M:Nat):Int) (λh18 K=>?_) λh18 K=>?_
  ·refine r0 [] [(13,iN j)] [] (rr (λ_=>[(2,.c [2] [2] (TO (B1 a) ((a 1).y 1) ((a 1).y 2) ((a 1).y 3) ((a 1).y 4) ((a 1).y 5) ((a 1).y 6) ((a 1).y 7) ((a 1).y 8) ((a 1).y 9) ((a 1).y 10) ((a 1).y 11) c (au c (ao c) l (k+1)) h j Om))]) (λ_=>[(54,.bool ((au c (ao c) l (k+1)).x.s.r.m.N.getD j false))]) [] (λ_ L=>L.set 2 ((pk (aP (B1 a) ((a 1).y 1) ((a 1).y 2) ((a 1).y 3) ((a 1).y 4) ((a 1).y 5) ((a 1).y 6) ((a 1).y 7) ((a 1).y 8) ((a 1).y 9) ((a 1).y 10) ((a 1).y 11) c (au c (ao c) l (k+1)))))) λq20=>?_);refine cJ ((au c (ao c) l (k+1)).x.s.r.m.N.getD j false) (λD=>[(11,i6 (((bif D then(dG (λz=>(au c (ao c) l (k+1)).x.s.r.m.N.getD z false) j)+1 else dG (λz=>(au c (ao c) l (k+1)).x.s.r.m.N.getD z false) j):Nat):Int))]) (λ_=>[.c r,ob (B0 A) #[iN c.R,iN c.S,iN c.B,iN c.M,iN c.C,iN c.G,iN c.res,iN c.E,iN c.lr,iN c.er,iN c.lp,iN c.ep,iN c.I,iN c.H,i6 256,.bool c.W] 31,pk (aP (B1 a) ((a 1).y 1) ((a 1).y 2) ((a 1).y 3) ((a 1).y 4) ((a 1).y 5) ((a 1).y 6) ((a 1).y 7) ((a 1).y 8) ((a 1).y 9) ((a 1).y 10) ((a 1).y 11) c (au c (ao c) l (k+1))),ob (B2 g) (sV ((l.getD k bf).k) ((l.getD k bf).ln) ((l.getD k bf).d) ((l.getD k bf).m:Nat) ((l.getD k bf).f0) ((l.getD k bf).f1) ((l.getD k bf).f2) ((l.getD k bf).f3) ((l.getD k bf).f4) ((l.getD k bf).f5) ((l.getD k bf).f6) ((l.getD k bf).f7)) 50]) (λh21=>?_) (λh21=>?_) ?_
   ·refine r0 [(1,ad (dG (λz=>(au c (ao c) l (k+1)).x.s.r.m.N.getD z false) j) 1)] [(11,i6 (((dG (λz=>(au c (ao c) l (k+1)).x.s.r.m.N.getD z false) j)+1:Nat):Int))] [11] ?_;exact cm Kr [0,1,2,3] Kr
   ·exact cm Kr [0,1,2,3] Kr
   exact r0 [(0,ad j 1)] [(49,i6 ((j+1:Nat):Int))] [49] (le (j+1) Om Om (by rw[n1];kernel_rfl) [0,1,2,3] Kr)
  obtain rfl:j=(c.R*c.B*c.M):=by omega
  refine lx (r0 [(3,.l 1)] [(61,iN c.R),(62,i6 0)] [] ?_);refine lq (λi=>i≤c.R) (λi=>[(62,iN i),(12,i6 ((dG (λz=>c6 (au c (ao c) l (k+1)).x.s.r.m z) i:Nat):Int))]) (λ_ L=>L) (λi=>c.R-i) 0 Om (by rw[Fz];kernel_rfl) Kr (λi hk25=>?_);have hci:=sr (λz=>c6 (au c (ao c) l (k+1)).x.s.r.m z) i;refine r0 [] [(63,.bool (decide ((i:Int)<(c.R:Int))))] [] ?_;refine b0 (i:Int) (c.R:Int) (λh27 M=>?_) λh27 M=>?_
  ·refine r0 [] [(14,iN i)] [] (rr (λ_=>[(2,.c [2] [2] (TP (B1 a) ((a 1).y 1) ((a 1).y 2) ((a 1).y 3) ((a 1).y 4) ((a 1).y 5) ((a 1).y 6) ((a 1).y 7) ((a 1).y 8) ((a 1).y 9) ((a 1).y 10) ((a 1).y 11) c (au c (ao c) l (k+1)) h i Om))]) (λ_=>[(16,.bool (c6 (au c (ao c) l (k+1)).x.s.r.m i))]) [] (λ_ L=>L.set 2 ((pk (aP (B1 a) ((a 1).y 1) ((a 1).y 2) ((a 1).y 3) ((a 1).y 4) ((a 1).y 5) ((a 1).y 6) ((a 1).y 7) ((a 1).y 8) ((a 1).y 9) ((a 1).y 10) ((a 1).y 11) c (au c (ao c) l (k+1)))))) λq29=>r0 [] [(71,.bool (c6 (au c (ao c) l (k+1)).x.s.r.m i))] [] ?_);refine cJ (c6 (au c (ao c) l (k+1)).x.s.r.m i) (λD=>[(12,i6 (((bif D then(dG (λz=>c6 (au c (ao c) l (k+1)).x.s.r.m z) i)+1 else dG (λz=>c6 (au c (ao c) l (k+1)).x.s.r.m z) i):Nat):Int))]) (λ_=>[.c r,ob (B0 A) #[iN c.R,iN c.S,iN c.B,iN c.M,iN c.C,iN c.G,iN c.res,iN c.E,iN c.lr,iN c.er,iN c.lp,iN c.ep,iN c.I,iN c.H,i6 256,.bool c.W] 31,pk (aP (B1 a) ((a 1).y 1) ((a 1).y 2) ((a 1).y 3) ((a 1).y 4) ((a 1).y 5) ((a 1).y 6) ((a 1).y 7) ((a 1).y 8) ((a 1).y 9) ((a 1).y 10) ((a 1).y 11) c (au c (ao c) l (k+1))),ob (B2 g) (sV ((l.getD k bf).k) ((l.getD k bf).ln) ((l.getD k bf).d) ((l.getD k bf).m:Nat) ((l.getD k bf).f0) ((l.getD k bf).f1) ((l.getD k bf).f2) ((l.getD k bf).f3) ((l.getD k bf).f4) ((l.getD k bf).f5) ((l.getD k bf).f6) ((l.getD k bf).f7)) 50]) (λh31=>?_) (λh31=>?_) ?_
   ·refine r0 [(1,ad (dG (λz=>c6 (au c (ao c) l (k+1)).x.s.r.m z) i) 1)] [(12,i6 (((dG (λz=>c6 (au c (ao c) l (k+1)).x.s.r.m z) i)+1:Nat):Int))] [12] ?_;exact cm Kr [0,1,2,3] Kr
   ·exact cm Kr [0,1,2,3] Kr
   exact r0 [(0,ad i 1)] [(62,i6 ((i+1:Nat):Int))] [62] (le (i+1) Om Om (by rw[n1];kernel_rfl) [0,1,2,3] Kr)
  obtain rfl:i=c.R:=by omega
  exact lx (rF [(2,.t (tk (show Value.bool (decide (((dG (λz=>(au c (ao c) l (k+1)).x.s.r.m.N.getD z false) (c.R*c.B*c.M):Nat):Int)<((nD (au c (ao c) l k).x.s.r.m:Nat):Int)))= .bool false from ALca Value.bool (by exact bh Om)))),(6,.t (tk (show Value.bool (decide (((dG (λz=>c6 (au c (ao c) l (k+1)).x.s.r.m z) c.R:Nat):Int)<((nS (au c (ao c) l k).x.s.r.m:Nat):Int)))= .bool false from ALca Value.bool (by exact bh Om)))),(11,ad (nD (au c (ao c) l k).x.s.r.m) 1),(12,.t (tk (show Value.bool (decide ((((nD (au c (ao c) l k).x.s.r.m)+1:Nat):Int)<((dG (λz=>(au c (ao c) l (k+1)).x.s.r.m.N.getD z false) (c.R*c.B*c.M):Nat):Int)))= .bool false from ALca Value.bool (by exact bh Om)))),(17,ad (nS (au c (ao c) l k).x.s.r.m) 1),(18,.t (tk (show Value.bool (decide ((((nS (au c (ao c) l k).x.s.r.m)+1:Nat):Int)<((dG (λz=>c6 (au c (ao c) l (k+1)).x.s.r.m z) c.R:Nat):Int)))= .bool false from ALca Value.bool (by exact bh Om))))] 94 (r0 [] [(7,i6 ((dG (λz=>(au c (ao c) l (k+1)).x.s.r.m.N.getD z false) (c.R*c.B*c.M):Nat):Int)),(8,i6 ((dG (λz=>c6 (au c (ao c) l (k+1)).x.s.r.m z) c.R:Nat):Int))] [7,8] (r0 [(0,ad k 1)] [(38,i6 ((k+1:Nat):Int))] [38] (le (k+1) Om Om (by rw[R];rw[W];kernel_rfl) [0,1,2] Kr))))
 obtain rfl:k=l.length:=by omega
 refine lx ?_;have T:=pX Z n l.length Om;have h:=T.ok.ct.s.r;obtain⟨hz1,hz2,hzg,hz3,hz4,hz6,hzb,hb3,hb4,hb6⟩:=UR T (yZ u n l.length Om);refine rr (λ_=>[(2,.s 3)]) (λb=>[(17,pt (B1 b) 0)]) [] (λb L=>L++[ob (B1 b) #[i6 0,i6 0,i6 0,i6 0,i6 0,i6 0,i6 0] 68]) λb=>?_;cases F:((au c (ao c) l l.length).x.s.g.lost)
 case true=>
  exact rT [(1,.c [2] [2] (o2 (B1 a) ((a 1).y 1) ((a 1).y 2) ((a 1).y 3) ((a 1).y 4) ((a 1).y 5) ((a 1).y 6) ((a 1).y 7) ((a 1).y 8) ((a 1).y 9) ((a 1).y 10) ((a 1).y 11) c (au c (ao c) l l.length))),(2,.c [2] [2] (sj (B1 a) ((a 1).y 1) ((a 1).y 2) ((a 1).y 3) ((a 1).y 4) ((a 1).y 5) ((a 1).y 6) ((a 1).y 7) ((a 1).y 8) ((a 1).y 9) ((a 1).y 10) ((a 1).y 11) c (au c (ao c) l l.length))),(3,.c [2] [2] (aa.v ((Fi (B1 a) ((a 1).y 1) ((a 1).y 2) ((a 1).y 3) ((a 1).y 4) ((a 1).y 5) ((a 1).y 6) ((a 1).y 7) ((a 1).y 8) ((a 1).y 9) ((a 1).y 10) ((a 1).y 11) c (au c (ao c) l l.length))) λ_=>ALca Value.bool (show((au c (ao c) l l.length).x.s.g.lost)=true from F))),(5,.d),(6,.d),(7,.d),(8,.d),(9,.d),(10,.d),(11,.d),(12,.d),(13,.d),(14,.d)] 114 (r0 [(3,.m (ld 1 (iN c.res))),(4,.t (tk (show Value.bool (decide (((nD (au c (ao c) l l.length).x.s.r.m:Nat):Int)≤(c.res:Int)))= .bool true from ALca Value.bool (by exact cx Om)))),(10,.m (ld 1 (iN c.S))),(11,.t (tk (show Value.bool (decide (((nS (au c (ao c) l l.length).x.s.r.m:Nat):Int)≤(c.S:Int)))= .bool true from ALca Value.bool (by exact cx Om))))] [(4,.bool true)] [] (ak (.bool true) ab.zero Vm [] [(0,0)] []))
 refine r0 [(1,.c [2] [2] (o2 (B1 a) ((a 1).y 1) ((a 1).y 2) ((a 1).y 3) ((a 1).y 4) ((a 1).y 5) ((a 1).y 6) ((a 1).y 7) ((a 1).y 8) ((a 1).y 9) ((a 1).y 10) ((a 1).y 11) c (au c (ao c) l l.length))),(2,.c [2] [2] (sj (B1 a) ((a 1).y 1) ((a 1).y 2) ((a 1).y 3) ((a 1).y 4) ((a 1).y 5) ((a 1).y 6) ((a 1).y 7) ((a 1).y 8) ((a 1).y 9) ((a 1).y 10) ((a 1).y 11) c (au c (ao c) l l.length))),(3,.c [2] [2] (aa.v ((Fi (B1 a) ((a 1).y 1) ((a 1).y 2) ((a 1).y 3) ((a 1).y 4) ((a 1).y 5) ((a 1).y 6) ((a 1).y 7) ((a 1).y 8) ((a 1).y 9) ((a 1).y 10) ((a 1).y 11) c (au c (ao c) l l.length))) λ_=>ALca Value.bool (show((au c (ao c) l l.length).x.s.g.lost)=false from F))),(6,.c [2] [2] (o2 (B1 a) ((a 1).y 1) ((a 1).y 2) ((a 1).y 3) ((a 1).y 4) ((a 1).y 5) ((a 1).y 6) ((a 1).y 7) ((a 1).y 8) ((a 1).y 9) ((a 1).y 10) ((a 1).y 11) c (au c (ao c) l l.length))),(7,.c [2] [2] (sj (B1 a) ((a 1).y 1) ((a 1).y 2) ((a 1).y 3) ((a 1).y 4) ((a 1).y 5) ((a 1).y 6) ((a 1).y 7) ((a 1).y 8) ((a 1).y 9) ((a 1).y 10) ((a 1).y 11) c (au c (ao c) l l.length))),(8,.c [2] [2] (TL (B1 a) ((a 1).y 1) ((a 1).y 2) ((a 1).y 3) ((a 1).y 4) ((a 1).y 5) ((a 1).y 6) ((a 1).y 7) ((a 1).y 8) ((a 1).y 9) ((a 1).y 10) ((a 1).y 11) c (au c (ao c) l l.length))),(10,.c [2] [2] (o2 (B1 a) ((a 1).y 1) ((a 1).y 2) ((a 1).y 3) ((a 1).y 4) ((a 1).y 5) ((a 1).y 6) ((a 1).y 7) ((a 1).y 8) ((a 1).y 9) ((a 1).y 10) ((a 1).y 11) c (au c (ao c) l l.length))),(11,.c [2] [2] (sj (B1 a) ((a 1).y 1) ((a 1).y 2) ((a 1).y 3) ((a 1).y 4) ((a 1).y 5) ((a 1).y 6) ((a 1).y 7) ((a 1).y 8) ((a 1).y 9) ((a 1).y 10) ((a 1).y 11) c (au c (ao c) l l.length))),(12,.c [2] [2] (Fh (B1 a) ((a 1).y 1) ((a 1).y 2) ((a 1).y 3) ((a 1).y 4) ((a 1).y 5) ((a 1).y 6) ((a 1).y 7) ((a 1).y 8) ((a 1).y 9) ((a 1).y 10) ((a 1).y 11) c (au c (ao c) l l.length))),(13,ad ((au c (ao c) l l.length).x.s.g.l.length) 1)] [(114,.bool ((((au c (ao c) l l.length).x.s.g.next:Nat):Int) != ((((au c (ao c) l l.length).x.s.g.l.length)+1:Nat):Int)))] [] ?_;refine lU (((au c (ao c) l l.length).x.s.g.next:Nat):Int) ((((au c (ao c) l l.length).x.s.g.l.length)+1:Nat):Int) (λG N=>?_) λG N=>?_
 ·exact r0 [(3,.m (ld 1 (iN c.res))),(4,.t (tk (show Value.bool (decide (((nD (au c (ao c) l l.length).x.s.r.m:Nat):Int)≤(c.res:Int)))= .bool true from ALca Value.bool (by exact cx Om)))),(10,.m (ld 1 (iN c.S))),(11,.t (tk (show Value.bool (decide (((nS (au c (ao c) l l.length).x.s.r.m:Nat):Int)≤(c.S:Int)))= .bool true from ALca Value.bool (by exact cx Om))))] [(4,.bool true)] [] (ak (.bool true) ab.zero Vm [] [(0,0)] [])
 refine ck 2 (mM (aP (B1 a) ((a 1).y 1) ((a 1).y 2) ((a 1).y 3) ((a 1).y 4) ((a 1).y 5) ((a 1).y 6) ((a 1).y 7) ((a 1).y 8) ((a 1).y 9) ((a 1).y 10) ((a 1).y 11) c (au c (ao c) l l.length))) (λf h9=>?_);have B:=US G;obtain⟨I,Y⟩:=Un h9;refine rr (λ_=>[(1,.c [2] [] (UH (B1 a) ((a 1).y 1) ((a 1).y 2) ((a 1).y 3) ((a 1).y 4) ((a 1).y 5) ((a 1).y 6) ((a 1).y 7) ((a 1).y 8) ((a 1).y 9) ((a 1).y 10) ((a 1).y 11) c (au c (ao c) l l.length) f h9)),(2,.c [2] [] (UI (B1 a) ((a 1).y 1) ((a 1).y 2) ((a 1).y 3) ((a 1).y 4) ((a 1).y 5) ((a 1).y 6) ((a 1).y 7) ((a 1).y 8) ((a 1).y 9) ((a 1).y 10) ((a 1).y 11) c (au c (ao c) l l.length) f h9)),(3,.c [2] [4] (Up (B1 a) ((a 1).y 1) ((a 1).y 2) ((a 1).y 3) ((a 1).y 4) ((a 1).y 5) ((a 1).y 6) ((a 1).y 7) ((a 1).y 8) ((a 1).y 9) ((a 1).y 10) ((a 1).y 11) c (au c (ao c) l l.length) f I Y))]) (λe=>[(131,.func (.func 96) #[] #[pt ((B3 e)) 0])]) [] (λe L=>L++[ob (B3 e) #[I] 41]) λe=>?_;refine ny (encs:=λ(x:Re)=>#[.agg #[iN x.s,iN x.t,iN x.k,iN x.i,iN x.o]]) (xs:=(au c (ao c) l l.length).x.s.g.l) (KO:=[[((B3 e),.cells #[I] 41 (0,0))],f]) (Uq (B3 e) (B1 a) ((a 1).y 1) ((a 1).y 2) ((a 1).y 3) ((a 1).y 4) ((a 1).y 5) ((a 1).y 6) ((a 1).y 7) ((a 1).y 8) ((a 1).y 9) ((a 1).y 10) ((a 1).y 11) c (au c (ao c) l l.length) Om f I Y) (enters_of Tryz.func96 Kr rfl) (λj=>j≤(au c (ao c) l l.length).x.s.g.l.length) (λj L=>L.set 3 (ob (B1 b) (rI 7 (bX (au c (ao c) l l.length).x.s.g.l j)).toArray 68)) [4,2] Om (by rw[FP];kernel_rfl) (λlR j xE R1 W1 hxE U=>?_) (λD45 U=>?_)
 ·obtain⟨hkb47,rfl⟩:=qj br hxE;have hst:=sx (au c (ao c) l l.length).x.s.g.l j;refine rr (λ_=>[(1,.s 5)]) (λy=>[(18,pt (B0 y) 0)]) [] (λy L=>L++[ob (B0 y) #[i6 ((((au c (ao c) l l.length).x.s.g.l.getD j br).s:Nat):Int),i6 ((((au c (ao c) l l.length).x.s.g.l.getD j br).t:Nat):Int),i6 ((((au c (ao c) l l.length).x.s.g.l.getD j br).k:Nat):Int),i6 ((((au c (ao c) l l.length).x.s.g.l.getD j br).i:Nat):Int),i6 ((((au c (ao c) l l.length).x.s.g.l.getD j br).o:Nat):Int)] 59]) λy=>?_;refine ag [4,2] (λR2 W2=>?_);refine r0 [(1,.l 5),(5,.l 5)] [(140,.bool ((decide (0≤((((au c (ao c) l l.length).x.s.g.l.getD j br).k:Nat):Int)))&&(decide (((((au c (ao c) l l.length).x.s.g.l.getD j br).k:Nat):Int)<7))))] [] ?_;refine cJ ((decide (0≤((((au c (ao c) l l.length).x.s.g.l.getD j br).k:Nat):Int)))&&(decide (((((au c (ao c) l l.length).x.s.g.l.getD j br).k:Nat):Int)<7))) N0 (λD=>[.c r,ob (B0 A) #[iN c.R,iN c.S,iN c.B,iN c.M,iN c.C,iN c.G,iN c.res,iN c.E,iN c.lr,iN c.er,iN c.lp,iN c.ep,iN c.I,iN c.H,i6 256,.bool c.W] 31,.c f,ob (B1 b) (rI 7 (bif D then(bX (au c (ao c) l l.length).x.s.g.l j).set (((au c (ao c) l l.length).x.s.g.l.getD j br).k) (((bX (au c (ao c) l l.length).x.s.g.l j).getD (((au c (ao c) l l.length).x.s.g.l.getD j br).k) 0)+1) else bX (au c (ao c) l l.length).x.s.g.l j)).toArray 68,ob (B3 e) #[I] 41,ob (B0 y) #[i6 ((((au c (ao c) l l.length).x.s.g.l.getD j br).s:Nat):Int),i6 ((((au c (ao c) l l.length).x.s.g.l.getD j br).t:Nat):Int),i6 ((((au c (ao c) l l.length).x.s.g.l.getD j br).k:Nat):Int),i6 ((((au c (ao c) l l.length).x.s.g.l.getD j br).i:Nat):Int),i6 ((((au c (ao c) l l.length).x.s.g.l.getD j br).o:Nat):Int)] 59]) (λQ=>?_) (λQ=>?_) ?_
  ·have hk7:=UJ Q;have hvb:=UL (au c (ao c) l l.length).x.s.g.l (k:=j) Om hk7;refine rs [(1,.l 5),(2,iA 68 .i64 (B1 b) 0 7 1 (((au c (ao c) l l.length).x.s.g.l.getD j br).k)),(3,rD 3 (B1 b) (((au c (ao c) l l.length).x.s.g.l.getD j br).k) 68 (rI 7 (bX (au c (ao c) l l.length).x.s.g.l j)) (z7 Om)),(4,aI ((bX (au c (ao c) l l.length).x.s.g.l j).getD (((au c (ao c) l l.length).x.s.g.l.getD j br).k) 0) (1) Om),(5,iA 68 .i64 (B1 b) 0 7 1 (((au c (ao c) l l.length).x.s.g.l.getD j br).k)),(6,wD 3 (B1 b) (((au c (ao c) l l.length).x.s.g.l.getD j br).k) 68 (i6 (((bX (au c (ao c) l l.length).x.s.g.l j).getD (((au c (ao c) l l.length).x.s.g.l.getD j br).k) 0)+1)) (rI 7 (bX (au c (ao c) l l.length).x.s.g.l j)) (rI 7 ((bX (au c (ao c) l l.length).x.s.g.l j).set (((au c (ao c) l l.length).x.s.g.l.getD j br).k) (((bX (au c (ao c) l l.length).x.s.g.l j).getD (((au c (ao c) l l.length).x.s.g.l.getD j br).k) 0)+1))) (jk Om) (wh (sx ..)))] 3 (ob (B1 b) (rI 7 ((bX (au c (ao c) l l.length).x.s.g.l j).set (((au c (ao c) l l.length).x.s.g.l.getD j br).k) (((bX (au c (ao c) l l.length).x.s.g.l j).getD (((au c (ao c) l l.length).x.s.g.l.getD j br).k) 0)+1))).toArray 68) ?_;exact cm Kr [0,1,2,3,4,5] Kr
  ·exact cm Kr [0,1,2,3,4,5] Kr
  exact ne _ ⟨Om,rfl⟩ [0,1,2,3,4] (by rw[y0];(repeat (first | rw[P] | rw[F] | rw[G] | rw[ALct] | rw[ALcf]));kernel_rfl)
 refine cw 2 (.c f) ((pk (aP (B1 a) ((a 1).y 1) ((a 1).y 2) ((a 1).y 3) ((a 1).y 4) ((a 1).y 5) ((a 1).y 6) ((a 1).y 7) ((a 1).y 8) ((a 1).y 9) ((a 1).y 10) ((a 1).y 11) c (au c (ao c) l l.length)))) (cP h9) (r0 [] [(19,i6 0)] [] (r0 [(1,.c [2] [2] (o2 (B1 a) ((a 1).y 1) ((a 1).y 2) ((a 1).y 3) ((a 1).y 4) ((a 1).y 5) ((a 1).y 6) ((a 1).y 7) ((a 1).y 8) ((a 1).y 9) ((a 1).y 10) ((a 1).y 11) c (au c (ao c) l l.length))),(2,.c [2] [2] (Fg (B1 a) ((a 1).y 1) ((a 1).y 2) ((a 1).y 3) ((a 1).y 4) ((a 1).y 5) ((a 1).y 6) ((a 1).y 7) ((a 1).y 8) ((a 1).y 9) ((a 1).y 10) ((a 1).y 11) c (au c (ao c) l l.length))),(3,.c [2] [2] (TN (B1 a) ((a 1).y 1) ((a 1).y 2) ((a 1).y 3) ((a 1).y 4) ((a 1).y 5) ((a 1).y 6) ((a 1).y 7) ((a 1).y 8) ((a 1).y 9) ((a 1).y 10) ((a 1).y 11) c (au c (ao c) l l.length) h))] [(152,.bool ((((au c (ao c) l l.length).x.s.r.j.A:Nat):Int) != 0))] [] ?_));refine cJ ((((au c (ao c) l l.length).x.s.r.j.A:Nat):Int) != 0) (λD=>[(19,i6 (bif D then 1 else 0))]) (λ_=>[.c r,ob (B0 A) #[iN c.R,iN c.S,iN c.B,iN c.M,iN c.C,iN c.G,iN c.res,iN c.E,iN c.lr,iN c.er,iN c.lp,iN c.ep,iN c.I,iN c.H,i6 256,.bool c.W] 31,pk (aP (B1 a) ((a 1).y 1) ((a 1).y 2) ((a 1).y 3) ((a 1).y 4) ((a 1).y 5) ((a 1).y 6) ((a 1).y 7) ((a 1).y 8) ((a 1).y 9) ((a 1).y 10) ((a 1).y 11) c (au c (ao c) l l.length)),ob (B1 b) (rI 7 (bX (au c (ao c) l l.length).x.s.g.l ((au c (ao c) l l.length).x.s.g.l.length))).toArray 68,ob (B3 e) #[I] 41]) (λH=>?_) (λH=>?_) ?_
 ·have O:=bne_iff_ne.1 H;refine r0 [] [(19,i6 1)] [19] ?_;exact cm Kr [0,1,2,3,4] Kr
 ·have O:=wo H;exact cm Kr [0,1,2,3,4] Kr
 have hby:=UK (((au c (ao c) l l.length).x.s.r.j.A:Int) != 0);exact r0 [(1,.m (ld 3 (i6 ((bX (au c (ao c) l l.length).x.s.g.l ((au c (ao c) l l.length).x.s.g.l.length)).getD 3 0)))),(4,.m (ld 1 (iN c.res))),(5,.t (tk (show Value.bool (decide (((bX (au c (ao c) l l.length).x.s.g.l ((au c (ao c) l l.length).x.s.g.l.length)).getD 3 0)≤(c.res:Int)))= .bool true from ALca Value.bool (by exact cx (hz3 B))))),(8,.m (ld 3 (i6 ((bX (au c (ao c) l l.length).x.s.g.l ((au c (ao c) l l.length).x.s.g.l.length)).getD 4 0)))),(12,.m (ld 1 (iN c.S))),(13,.t (tk (show Value.bool (decide (((bX (au c (ao c) l l.length).x.s.g.l ((au c (ao c) l l.length).x.s.g.l.length)).getD 4 0)≤(c.S:Int)))= .bool true from ALca Value.bool (by exact cx (hz4 B))))),(17,.m (ld 3 (i6 ((bX (au c (ao c) l l.length).x.s.g.l ((au c (ao c) l l.length).x.s.g.l.length)).getD 3 0)))),(19,.m (ld 3 (i6 ((bX (au c (ao c) l l.length).x.s.g.l ((au c (ao c) l l.length).x.s.g.l.length)).getD 4 0)))),(20,aI ((bX (au c (ao c) l l.length).x.s.g.l ((au c (ao c) l l.length).x.s.g.l.length)).getD 3 0) (((bX (au c (ao c) l l.length).x.s.g.l ((au c (ao c) l l.length).x.s.g.l.length)).getD 4 0)) Om),(22,.m (ld 3 (i6 ((bX (au c (ao c) l l.length).x.s.g.l ((au c (ao c) l l.length).x.s.g.l.length)).getD 6 0)))),(24,aI ((bX (au c (ao c) l l.length).x.s.g.l ((au c (ao c) l l.length).x.s.g.l.length)).getD 6 0) ((bif (((au c (ao c) l l.length).x.s.r.j.A:Nat):Int) != 0 then 1 else 0)) Om),(25,.t (tk (show Value.bool ((((bX (au c (ao c) l l.length).x.s.g.l ((au c (ao c) l l.length).x.s.g.l.length)).getD 3 0)+((bX (au c (ao c) l l.length).x.s.g.l ((au c (ao c) l l.length).x.s.g.l.length)).getD 4 0))==(((bX (au c (ao c) l l.length).x.s.g.l ((au c (ao c) l l.length).x.s.g.l.length)).getD 6 0)+(bif (((au c (ao c) l l.length).x.s.r.j.A:Nat):Int) != 0 then 1 else 0)))= .bool true from ALca Value.bool (by exact beq_iff_eq.2 (hzb B))))),(29,.m (ld 3 (i6 ((bX (au c (ao c) l l.length).x.s.g.l ((au c (ao c) l l.length).x.s.g.l.length)).getD 6 0)))),(32,ad (nD (au c (ao c) l l.length).x.s.r.m) (nS (au c (ao c) l l.length).x.s.r.m)),(33,.t (tk (show Value.bool (((bX (au c (ao c) l l.length).x.s.g.l ((au c (ao c) l l.length).x.s.g.l.length)).getD 6 0)==(((nD (au c (ao c) l l.length).x.s.r.m)+(nS (au c (ao c) l l.length).x.s.r.m):Nat):Int))= .bool true from ALca Value.bool (by exact beq_iff_eq.2 (hz6 B)))))] [(4,.bool true)] [] (ak (.bool true) ab.zero Vm [] [(0,0)] [])
end
section
open Go.ChangeShapes Go.WideShapes
theorem dX.split{l m:List gX}{cs:List Value}(h:dX (l++m) cs):dX l (cs.take l.length)∧dX m (cs.drop l.length):=by
 obtain⟨f,d⟩:=h;rw[VJ] at f;refine⟨⟨by rw[WA];omega,λi lf a=>?_⟩,⟨by rw[List.length_drop];omega,λi lf a=>?_⟩⟩
 ·have e:i<l.length:=(List.getElem?_eq_some_iff.1 a).1;obtain⟨v,b,c⟩:=d i lf (by rw[List.getElem?_append_left e];exact a);exact⟨v,by rw[List.getElem?_take_of_lt e];exact b,c⟩
 ·obtain⟨v,b,c⟩:=d (l.length+i) lf (by rw[List.getElem?_append_right (Nat.le_add_right _ _),Nat.add_sub_cancel_left];exact a);exact⟨v,by rw[List.getElem?_drop];exact b,c⟩
theorem dX.one{f:gX}{ls:List gX}{cs:List Value}(h:dX (f::ls) cs): ∃v vs,cs=v::vs∧Cp f v∧dX ls vs:=by
 obtain⟨a,b⟩:=h;cases cs with
 | nil=>simp at a
 | cons v vs=>
  obtain⟨u,c,d⟩:=b 0 f rfl;obtain rfl:v=u:=by simpa using c
  exact⟨v,vs,rfl,d,by simpa using a,λi lf e=>by simpa using b (i+1) lf (by rw[List.getElem?_cons_succ];exact e)⟩
theorem FQ: ∀(n:Nat) (cs:List Value),dX (VA n (.int .u8)) cs→∃d:List UInt8,d.length=n∧cs=d.map λb=>Value.int .u8 (b.toNat:Int)
 | 0,cs,h=>⟨[],rfl,by have:=h.1;simp at this;simpa using this⟩
 | n+1,cs,h=>by
  obtain⟨v,vs,rfl,⟨z,rfl,e⟩,a⟩:=dX.one (by rw[List.replicate_succ] at h;exact h);obtain⟨d,c,rfl⟩:=FQ n vs a;have f:=bounds_u8 e;refine⟨UInt8.ofNat z.toNat::d,by rw[List.length_cons,c],?_⟩;rw[WD,show((UInt8.ofNat z.toNat).toNat:Int)=z by rw[UInt8.toNat_ofNat'];omega]
theorem UY{l:List Int}(h:l.length=8): ∃a b c d e f g i,l=[a,b,c,d,e,f,g,i]:=by
 match l,h with
 | [a,b,c,d,e,f,g,i],_=>exact⟨a,b,c,d,e,f,g,i,rfl⟩
def stLs:List gX:=VA 2 (.int .i64)++(VA 64 (.int .u8)++(.int .u64::VA 8 (.int .i64)))
theorem UZ{cs:List Value}(h:dX stLs cs): ∃s:St,cs=eSt s∧StOk s:=by
 obtain⟨x,y⟩:=dX.split h;obtain⟨z,A⟩:=dX.split y;obtain⟨v,vs,o,⟨m,t,C⟩,B⟩:=dX.one A;obtain⟨G,D,l,_⟩:=uj 2 _ x;obtain⟨d,q,n⟩:=FQ 64 _ z;obtain⟨H,F,r,_⟩:=uj 8 _ B;have I:=bounds_u64 C;obtain⟨a,b,c,i,e,f,g,j,rfl⟩:=UY F
 match G,D with
 | [k,p],_=>
  refine⟨⟨k,p,d,m.toNat,a,b,c,i,e,f,g,j⟩,?_,⟨q,by show m.toNat<_;omega⟩⟩;have u:cs=cs.take 2++cs.drop 2:=(V6 2 cs).symm;have w:cs.drop 2=(cs.drop 2).take 64++(cs.drop 2).drop 64:=(V6 64 _).symm;have l:cs.take 2=[i6 k,i6 p]:=l;have n:(cs.drop 2).take 64=d.map λb=>Value.int .u8 (b.toNat:Int):=n;have o:(cs.drop 2).drop 64=v::vs:=o;rw[u,w,l,n,o,t,r];show _=[i6 k,i6 p]++rB 64 d++_;rw[wi q,show(m:Int)=((m.toNat:Nat):Int) by omega];rfl
theorem rows_st: ∀(a:List (List Value)),(∀r∈a,dX stLs r)→∃L:List St,a=L.map eSt∧∀s∈L,StOk s
 | [],_=>⟨[],rfl,λs g=>absurd g Wh⟩
 | r::a,h=>by
  obtain⟨L,b,c⟩:=rows_st a λx i=>h x (VM _ i);obtain⟨s,d,f⟩:=UZ (h r V3);exact⟨s::L,by rw[b,d];rfl,λy j=>(List.mem_cons.1 j).elim (λe=>e▸f) (c y)⟩
theorem sts_ok{l:List St}(h: ∀s∈l,StOk s):pW l:=⟨λk=>by
 rw[VD];cases b:l[k]? with
 | none=>exact⟨VE,by show(0:Nat)<_;decide⟩
 | some a=>exact h a (Wt b)⟩
def cfLs:List gX:=VA 15 (.int .i64)++[.bool]
theorem cells_cfg{cs:List Value}(h:dX cfLs cs): ∃(r s b m c way e mode n k l j a heavy d:Int) (f:Bool),cs=[i6 r,i6 s,i6 b,i6 m,i6 c,i6 way,i6 e,i6 mode,i6 n,i6 k,i6 l,i6 j,i6 a,i6 heavy,i6 d,.bool f]:=by
 obtain⟨t,u⟩:=dX.split h;obtain⟨v,vs,g,⟨q,o⟩,w⟩:=dX.one u;obtain⟨z,y,i,_⟩:=uj 15 _ t;have x:vs=[]:=List.length_eq_zero_iff.1 w.1
 match z,y with
 | [r,s,b,m,c,way,e,mode,n,k,l,j,a,heavy,d],_=>
  refine⟨r,s,b,m,c,way,e,mode,n,k,l,j,a,heavy,d,q,?_⟩;have p:cs=cs.take 15++cs.drop 15:=(V6 15 cs).symm;have i:cs.take 15=_:=i;have g:cs.drop 15=_:=g;rw[p,i,g,o,x];rfl
theorem aa.belowQ{P:Program}{f:FuncId}{args:Array Value}{u:Value}{T:aw→Prop}{bs:aw}(h:aa P f args [.p T] [] N0 (λ_=>u))(w:World)(d:eh bs w)(ht:T bs):Calls P f args w λe w'=>e= .returned u∧Below w.heap.size w w':=by
 refine(callsIn_wide (n:=6)).1 ((callsIn_wide.2 (h.out w [bs] ⟨ht,trivial⟩ (by simpa using d))).mono ?_);rintro e w' ⟨E,g,rfl,i,a⟩;exact⟨rfl,a.os,a.tape,a.output,a.size,λb c=>a.far b c (by simp)⟩
theorem st_sq{A:Option Addr}{n k:Nat}{L:List St}{w:World}(b:L.length=n)(f:n≤k)(g:oE 75 w A (L.map eSt)): ∃a,eh a w∧aH eSt (.slice A n k) L a:=by
 obtain⟨a,d,e⟩:=Mm (en:=eSt) (k:=75) (c:=k) (λs=>by unfold eSt;rw[VJ,VJ,GY];rfl) Dc g b;exact⟨a,d,e,A,k-n,by rw[b,Nat.add_sub_cancel' f]⟩
end
section
open Go.ChangeShapes Go.WideShapes
theorem reserve_con(r s b m c way g mode u j t i e heavy d:Int)(a:Bool)(v:Value)(l:List St)(k:pW l):aa VB 4 #[.agg #[i6 r,i6 s,i6 b,i6 m,i6 c,i6 way,i6 g,i6 mode,i6 u,i6 j,i6 t,i6 i,i6 e,i6 heavy,i6 d,.bool a],v] [.p (aH eSt v l)] [] N0 (λ_=> .bool true):=by
 cases h:mq r s b m c way g mode u j t i e heavy 256
 ·exact UT r s b m c way g mode u j t i e heavy d a h v l
 ·obtain⟨q,rfl,rfl,rfl,rfl,rfl,rfl,rfl,rfl,rfl,rfl,rfl,rfl,rfl,rfl,w,rfl,n⟩:=Pz a h;have f:q.log=256:=by omega
  cases o:mC q
  ·exact UU q n f o d v l
  ·by_cases x:l.length≤80
   ·exact UX q n f o d v l x k
   ·exact UW q n f o d v l Om
end
end E
section
open Go.ChangeShapes Go.WideShapes
theorem WholeReserve_any(r s b m c way g mode l i j h d heavy f:Int)(a:Bool)(A:Option Addr)(n k:Nat)(L:List E.St)(t:L.length=n)(q:n≤k)(hs: ∀s∈L,E.StOk s)(w:World)(u:oE 75 w A (L.map E.eSt)):
  Calls VB 4 #[.agg #[.int .i64 r,.int .i64 s,.int .i64 b,.int .i64 m,.int .i64 c,.int .i64 way,.int .i64 g,.int .i64 mode,.int .i64 l,.int .i64 i,.int .i64 j,.int .i64 h,.int .i64 d,.int .i64 heavy,.int .i64 f,.bool a],.slice A n k] w
   λe w'=>e= .returned (.bool true)∧Below w.heap.size w w':=by
 obtain⟨bs,o,p⟩:=E.st_sq t q u;exact(E.reserve_con r s b m c way g mode l i j h d heavy f a _ L (E.sts_ok hs)).belowQ w o p
end
end Go.Proofs.YtbcodenfkijdnaaGreat
