/- WholeLog, in 6 texts: part 5. For every input; no condition. -/
import Derived.Test.YtbcodenfkijdnaaGreatPg4
set_option linter.unusedVariables false
set_option linter.unusedSimpArgs false
set_option maxRecDepth 100000
namespace Go.Proofs.YtbcodenfkijdnaaGreat
open Go Go.RowKit Go.Shelf
open List renaming replicate→UZ,length_replicate→U2,mem_append_right→U3,sublist_append_right→U4,getD_eq_getElem?_getD→U5,length_append→U6,mem_cons_of_mem→U8,length_range→U9,flatten_cons→Va,length_map→Vf,append_nil→Vg,append_assoc→Vh,range→Vl,flatten→Vn,flatten_nil→Vo,getElem?_range→Vp,sublist_append_left→Vr,filter_cons_of_pos→Vt,prefix_refl→Vu,take_append_drop→Vv,flatten_append→Vx,filter_append→Vy,mem_cons_self→Vz,getElem?_map→VB,not_mem_nil→VG,sublist_flatten_of_mem→VJ,getElem?_append_left→VM,getElem?_eq_getElem→VN,getElem?_replicate→VO,filter_cons_of_neg→VP,Perm→VQ,length_singleton→VS,mem_append_left→VT,mem_of_getElem?→VU,prefix_append→VX,map_append→V0,nil_prefix→V1,filter_nil→V2,map_cons→V3
open Go.Proofs.Tryz renaming prog→U0
open Nat renaming le_trans→U1,succ_le_succ→U7,zero_le→Vb,mul_assoc→Vc,lt_of_lt_of_le→Ve,le_refl→Vi,mul_comm→Vj,le_mul_of_pos_right→Vk,le_succ→Vm,succ_mul→Vq,le_succ_of_le→Vs,mul_le_mul_right→Vw,lt_of_le_of_lt→VA,zero_mul→VC,add_zero→VD,div_eq_of_lt→VH,mod_eq_of_lt→VI,mul_add_div→VK,mul_add_mod→VL,div_lt_of_lt_mul→VW,blt_eq→VY,mod_lt→VZ,sub_self→V4
open Option renaming map_some→VE
open Bool renaming and_eq_true→VF
open Classical renaming choose→VR
open Go.Result renaming andThen_ok→VV
namespace E
theorem EH(b:Nat)(k u:Int)(d:List UInt8)(m:Nat)(a g h i j n o p:Int)(t:a<1∨6<a):aa U0 95 #[pt b 67] [ob b (sV k u d m a g h i j n o p) 50] [] N0 (λ_=> .slice none 0 0):=by
 refine fG Tryz.func95 λw cs=>r0 [] [(2,.slice none 0 0)] [] (r0 [] [(3,pt b 68)] [] (r0 [(3,.l 0)] [(10,i6 a)] [] (r0 [] [(11,.bool (a==1))] [] ?_)));have q:(a==1)=false:=by rw[dR];omega
 refine cF (a==1) q (r0 [] [(29,.bool (a==2))] [] ?_);have r:(a==2)=false:=by rw[dR];omega
 refine cF (a==2) r (r0 [] [(50,.bool (a==3))] [] ?_);have s:(a==3)=false:=by rw[dR];omega
 refine cF (a==3) s (r0 [] [(68,.bool (a==4))] [] ?_);have c:(a==4)=false:=by rw[dR];omega
 refine cF (a==4) c (r0 [] [(86,.bool (a==5))] [] ?_);have e:(a==5)=false:=by rw[dR];omega
 refine cF (a==5) e (r0 [] [(98,.bool (a==6))] [] ?_);have f:(a==6)=false:=by rw[dR];omega
 exact cF (a==6) f (r0 [] [(2,.slice none 0 0)] [2] (lf ab.zero [] [(0,0)] []))
theorem RG(ln:Int)(d:List UInt8)(m:Nat)(c e f g h i j k:Int)(n:d.length=64):aa U0 55 #[.agg (sV 1 ln d m c e f g h i j k)] [] [] N0 (λ_=> .agg (sV 1 ln z6 0 0 0 0 0 0 0 0 0)):=by
 exact fG Tryz.func55 λw cs=>ra (λa=>[(1,pt (B0 a) 0),(2,pt (B1 a) 0)]) (λa=>[ob (B0 a) (sV 1 ln d m c e f g h i j k) 50,ob (B1 a) (sV 0 0 z6 0 0 0 0 0 0 0 0 0) 50]) λa=>rr (λ_=>[(1,.l 0),(4,.s 2)]) (λb=>[(3,pt (B3 b) 0)]) [] (λb L=>L++[ob (B3 b) (sV 1 0 z6 0 0 0 0 0 0 0 0 0) 50]) λb=>r0 [(1,.l 0)] [(11,i6 1)] [] (rT [] 12 (rs [(1,.l 0),(3,.s 2)] 2 (ob (B3 b) (sV 1 ln z6 0 0 0 0 0 0 0 0 0) 50) (rs [(0,.l 2),(1,.s 1)] 1 (ob (B1 a) (sV 1 ln z6 0 0 0 0 0 0 0 0 0) 50) (lf ab.zero [] [] [1]))))
theorem RH(ln:Int)(d:List UInt8)(m:Nat)(c e f g h i j k:Int)(n:d.length=64):aa U0 55 #[.agg (sV 2 ln d m c e f g h i j k)] [] [] N0 (λ_=> .agg (sV 2 ln d 0 0 0 0 0 0 0 0 0)):=by
 exact fG Tryz.func55 λw cs=>ra (λa=>[(1,pt (B0 a) 0),(2,pt (B1 a) 0)]) (λa=>[ob (B0 a) (sV 2 ln d m c e f g h i j k) 50,ob (B1 a) (sV 0 0 z6 0 0 0 0 0 0 0 0 0) 50]) λa=>rr (λ_=>[(1,.l 0),(4,.s 2)]) (λb=>[(3,pt (B3 b) 0)]) [] (λb L=>L++[ob (B3 b) (sV 2 0 z6 0 0 0 0 0 0 0 0 0) 50]) λb=>r0 [(1,.l 0)] [(11,i6 2)] [] (rF [] 12 (rT [] 17 (rs [(1,.l 0),(3,.l 0),(5,.s 2),(7,.s 2)] 2 (ob (B3 b) (sV 2 ln d 0 0 0 0 0 0 0 0 0) 50) (rs [(0,.l 2),(1,.s 1)] 1 (ob (B1 a) (sV 2 ln d 0 0 0 0 0 0 0 0 0) 50) (lf ab.zero [] [] [1])))))
theorem RI(ln:Int)(d:List UInt8)(m:Nat)(c e f g h i j k:Int)(n:d.length=64):aa U0 55 #[.agg (sV 3 ln d m c e f g h i j k)] [] [] N0 (λ_=> .agg (sV 3 ln d m 0 0 0 0 0 0 0 0)):=by
 exact fG Tryz.func55 λw cs=>ra (λa=>[(1,pt (B0 a) 0),(2,pt (B1 a) 0)]) (λa=>[ob (B0 a) (sV 3 ln d m c e f g h i j k) 50,ob (B1 a) (sV 0 0 z6 0 0 0 0 0 0 0 0 0) 50]) λa=>rr (λ_=>[(1,.l 0),(4,.s 2)]) (λb=>[(3,pt (B3 b) 0)]) [] (λb L=>L++[ob (B3 b) (sV 3 0 z6 0 0 0 0 0 0 0 0 0) 50]) λb=>r0 [(1,.l 0)] [(11,i6 3)] [] (rF [] 12 (rF [] 17 (rT [] 25 (rs [(0,.v (pt (B0 a) 1)),(1,.m (ld 0 (i6 ln))),(2,.v (pt (B0 a) 2)),(3,.m (ls 0 (rB 64 d))),(4,.v (pt (B0 a) 66)),(5,.m (ld 0 (u6 (m:Int)))),(6,.v (pt (B3 b) 1)),(7,.s 2),(8,.v (pt (B3 b) 2)),(9,.s 2),(10,.v (pt (B3 b) 66)),(11,.s 2)] 2 (ob (B3 b) (sV 3 ln d m 0 0 0 0 0 0 0 0) 50) (rs [(0,.l 2),(1,.s 1)] 1 (ob (B1 a) (sV 3 ln d m 0 0 0 0 0 0 0 0) 50) (lf ab.zero [] [] [1]))))))
theorem RJ(k p:Int)(d:List UInt8)(m:Nat)(e f g h i j n o:Int)(x:d.length=64)(u:4≤k)(v:k≤7):aa U0 55 #[.agg (sV k p d m e f g h i j n o)] [] [] N0 (λ_=> .agg (sV k 0 z6 0 0 0 0 0 0 0 0 0)):=by
 refine fG Tryz.func55 λw cs=>ra (λa=>[(1,pt (B0 a) 0),(2,pt (B1 a) 0)]) (λa=>[ob (B0 a) (sV k p d m e f g h i j n o) 50,ob (B1 a) (sV 0 0 z6 0 0 0 0 0 0 0 0 0) 50]) λa=>rr (λ_=>[(1,.l 0),(4,.s 2)]) (λb=>[(3,pt (B3 b) 0)]) [] (λb L=>L++[ob (B3 b) (sV k 0 z6 0 0 0 0 0 0 0 0 0) 50]) λb=>r0 [(1,.l 0)] [(11,i6 k)] [] (r0 [] [(12,.bool (k==1))] [] ?_);have q:(k==1)=false:=by rw[dR];omega
 refine cF (k==1) q (r0 [] [(17,.bool (k==2))] [] ?_);have r:(k==2)=false:=by rw[dR];omega
 refine cF (k==2) r (r0 [] [(25,.bool (k==3))] [] ?_);have t:(k==3)=false:=by rw[dR];omega
 refine cF (k==3) t (r0 [] [(36,.bool (k==8))] [] ?_);have c:(k==8)=false:=by rw[dR];omega
 exact cF (k==8) c (rs [(0,.l 2),(1,.s 1)] 1 (ob (B1 a) (sV k 0 z6 0 0 0 0 0 0 0 0 0) 50) (lf ab.zero [] [] [1]))
theorem RK(ln:Int)(d:List UInt8)(m:Nat)(f g i j o n p:Int)(q:d.length=64):aa U0 55 #[.agg (sV 8 ln d m 1 f g i j o n p)] [] [] N0 (λ_=> .agg (sV 8 0 z6 0 1 f g i j 0 n 0)):=by
 refine fG Tryz.func55 λw cs=>ra (λb=>[(1,pt (B0 b) 0),(2,pt (B1 b) 0)]) (λb=>[ob (B0 b) (sV 8 ln d m 1 f g i j o n p) 50,ob (B1 b) (sV 0 0 z6 0 0 0 0 0 0 0 0 0) 50]) λb=>rr (λ_=>[(1,.l 0),(4,.s 2)]) (λe=>[(3,pt (B3 e) 0)]) [] (λe L=>L++[ob (B3 e) (sV 8 0 z6 0 0 0 0 0 0 0 0 0) 50]) λe=>r0 [(1,.l 0)] [(11,i6 8)] [] (rF [] 12 (rF [] 17 (rF [] 25 (rT [] 36 (rs [(2,.l 0),(5,.s 2)] 2 (ob (B3 e) (sV 8 0 z6 0 1 0 0 0 0 0 0 0) 50) (rr (λ_=>[(1,.c [2] [3] (EA (B3 e) 8 0 z6 0 0 0 0 0 0 0 0))]) (λh=>[(4,.slice (some ⟨(B1 h),0,none⟩) 5 5)]) [] (λh L=>L++[ob (B1 h) #[pt (B3 e) 68,pt (B3 e) 69,pt (B3 e) 70,pt (B3 e) 71,pt (B3 e) 73] 197]) λh=>rr (λ_=>[(1,.c [0] [4] (EA (B0 b) 8 ln d m f g i j o n p))]) (λa=>[(46,.slice (some ⟨(B1 a),0,none⟩) 5 5),(47,i6 5),(48,i6 0)]) [] (λa L=>L++[ob (B1 a) #[pt (B0 b) 68,pt (B0 b) 69,pt (B0 b) 70,pt (B0 b) 71,pt (B0 b) 73] 197]) λa=>?_))))));refine lu 8 ?_;refine rT [] 49 (r0 [(1,.t (tv (Instr.indexAt 194 (.slice (some ⟨(B1 a),0,none⟩) 5 5) (i6 0)) (λ_=>bS (k:=0) (s:=1) Kr Om))),(2,.l 4)] [(5,i6 0),(6,pt (B0 b) 68)] [] (rs [(2,.t (tv (Instr.indexAt 194 (.slice (some ⟨(B1 h),0,none⟩) 5 5) (i6 0)) (λ_=>bS (k:=0) (s:=1) Kr Om))),(3,.l 3),(6,.l 0),(8,.s 2)] 2 (ob (B3 e) (sV 8 0 z6 0 1 f 0 0 0 0 0 0) 50) (r0 [] [(48,i6 1)] [48] ?_)));refine eG ?_;refine r0 [] [(49,.bool true)] [49] (cT _ rfl (r0 [(1,.t (tv (Instr.indexAt 194 (.slice (some ⟨(B1 a),0,none⟩) 5 5) (i6 1)) (λ_=>bS (k:=1) (s:=1) Kr Om))),(2,.l 4)] [(5,i6 1),(6,pt (B0 b) 69)] [5,6] (rs [(2,.t (tv (Instr.indexAt 194 (.slice (some ⟨(B1 h),0,none⟩) 5 5) (i6 1)) (λ_=>bS (k:=1) (s:=1) Kr Om))),(3,.l 3),(6,.l 0),(8,.s 2)] 2 (ob (B3 e) (sV 8 0 z6 0 1 f g 0 0 0 0 0) 50) (r0 [] [(48,i6 2)] [48] ?_))));refine eG ?_;refine r0 [] [(49,.bool true)] [49] (cT _ rfl (r0 [(1,.t (tv (Instr.indexAt 194 (.slice (some ⟨(B1 a),0,none⟩) 5 5) (i6 2)) (λ_=>bS (k:=2) (s:=1) Kr Om))),(2,.l 4)] [(5,i6 2),(6,pt (B0 b) 70)] [5,6] (rs [(2,.t (tv (Instr.indexAt 194 (.slice (some ⟨(B1 h),0,none⟩) 5 5) (i6 2)) (λ_=>bS (k:=2) (s:=1) Kr Om))),(3,.l 3),(6,.l 0),(8,.s 2)] 2 (ob (B3 e) (sV 8 0 z6 0 1 f g i 0 0 0 0) 50) (r0 [] [(48,i6 3)] [48] ?_))));refine eG ?_;refine r0 [] [(49,.bool true)] [49] (cT _ rfl (r0 [(1,.t (tv (Instr.indexAt 194 (.slice (some ⟨(B1 a),0,none⟩) 5 5) (i6 3)) (λ_=>bS (k:=3) (s:=1) Kr Om))),(2,.l 4)] [(5,i6 3),(6,pt (B0 b) 71)] [5,6] (rs [(2,.t (tv (Instr.indexAt 194 (.slice (some ⟨(B1 h),0,none⟩) 5 5) (i6 3)) (λ_=>bS (k:=3) (s:=1) Kr Om))),(3,.l 3),(6,.l 0),(8,.s 2)] 2 (ob (B3 e) (sV 8 0 z6 0 1 f g i j 0 0 0) 50) (r0 [] [(48,i6 4)] [48] ?_))));refine eG ?_;refine r0 [] [(49,.bool true)] [49] (cT _ rfl (r0 [(1,.t (tv (Instr.indexAt 194 (.slice (some ⟨(B1 a),0,none⟩) 5 5) (i6 4)) (λ_=>bS (k:=4) (s:=1) Kr Om))),(2,.l 4)] [(5,i6 4),(6,pt (B0 b) 73)] [5,6] (rs [(2,.t (tv (Instr.indexAt 194 (.slice (some ⟨(B1 h),0,none⟩) 5 5) (i6 4)) (λ_=>bS (k:=4) (s:=1) Kr Om))),(3,.l 3),(6,.l 0),(8,.s 2)] 2 (ob (B3 e) (sV 8 0 z6 0 1 f g i j 0 n 0) 50) (r0 [] [(48,i6 5)] [48] ?_))));refine eG ?_;refine r0 [] [(49,.bool false)] [49] (cF _ rfl ?_);refine m0 ?_;exact rs [(0,.l 2),(1,.s 1)] 1 (ob (B1 b) (sV 8 0 z6 0 1 f g i j 0 n 0) 50) (lf ab.zero [] [] [1])
theorem RL(ln:Int)(d:List UInt8)(m:Nat)(f g i j p n o:Int)(q:d.length=64):aa U0 55 #[.agg (sV 8 ln d m 2 f g i j p n o)] [] [] N0 (λ_=> .agg (sV 8 0 z6 0 2 f g i j 0 n o)):=by
 refine fG Tryz.func55 λw cs=>ra (λb=>[(1,pt (B0 b) 0),(2,pt (B1 b) 0)]) (λb=>[ob (B0 b) (sV 8 ln d m 2 f g i j p n o) 50,ob (B1 b) (sV 0 0 z6 0 0 0 0 0 0 0 0 0) 50]) λb=>rr (λ_=>[(1,.l 0),(4,.s 2)]) (λe=>[(3,pt (B3 e) 0)]) [] (λe L=>L++[ob (B3 e) (sV 8 0 z6 0 0 0 0 0 0 0 0 0) 50]) λe=>r0 [(1,.l 0)] [(11,i6 8)] [] (rF [] 12 (rF [] 17 (rF [] 25 (rT [] 36 (rs [(2,.l 0),(5,.s 2)] 2 (ob (B3 e) (sV 8 0 z6 0 2 0 0 0 0 0 0 0) 50) (rr (λ_=>[(1,.c [2] [3] (EB (B3 e) 8 0 z6 0 0 0 0 0 0 0 0))]) (λh=>[(4,.slice (some ⟨(B1 h),0,none⟩) 6 6)]) [] (λh L=>L++[ob (B1 h) #[pt (B3 e) 68,pt (B3 e) 69,pt (B3 e) 70,pt (B3 e) 71,pt (B3 e) 73,pt (B3 e) 74] 197]) λh=>rr (λ_=>[(1,.c [0] [4] (EB (B0 b) 8 ln d m f g i j p n o))]) (λa=>[(46,.slice (some ⟨(B1 a),0,none⟩) 6 6),(47,i6 6),(48,i6 0)]) [] (λa L=>L++[ob (B1 a) #[pt (B0 b) 68,pt (B0 b) 69,pt (B0 b) 70,pt (B0 b) 71,pt (B0 b) 73,pt (B0 b) 74] 197]) λa=>?_))))));refine lu 8 ?_;refine rT [] 49 (r0 [(1,.t (tv (Instr.indexAt 194 (.slice (some ⟨(B1 a),0,none⟩) 6 6) (i6 0)) (λ_=>bS (k:=0) (s:=1) Kr Om))),(2,.l 4)] [(5,i6 0),(6,pt (B0 b) 68)] [] (rs [(2,.t (tv (Instr.indexAt 194 (.slice (some ⟨(B1 h),0,none⟩) 6 6) (i6 0)) (λ_=>bS (k:=0) (s:=1) Kr Om))),(3,.l 3),(6,.l 0),(8,.s 2)] 2 (ob (B3 e) (sV 8 0 z6 0 2 f 0 0 0 0 0 0) 50) (r0 [] [(48,i6 1)] [48] ?_)));refine eG ?_;refine r0 [] [(49,.bool true)] [49] (cT _ rfl (r0 [(1,.t (tv (Instr.indexAt 194 (.slice (some ⟨(B1 a),0,none⟩) 6 6) (i6 1)) (λ_=>bS (k:=1) (s:=1) Kr Om))),(2,.l 4)] [(5,i6 1),(6,pt (B0 b) 69)] [5,6] (rs [(2,.t (tv (Instr.indexAt 194 (.slice (some ⟨(B1 h),0,none⟩) 6 6) (i6 1)) (λ_=>bS (k:=1) (s:=1) Kr Om))),(3,.l 3),(6,.l 0),(8,.s 2)] 2 (ob (B3 e) (sV 8 0 z6 0 2 f g 0 0 0 0 0) 50) (r0 [] [(48,i6 2)] [48] ?_))));refine eG ?_;refine r0 [] [(49,.bool true)] [49] (cT _ rfl (r0 [(1,.t (tv (Instr.indexAt 194 (.slice (some ⟨(B1 a),0,none⟩) 6 6) (i6 2)) (λ_=>bS (k:=2) (s:=1) Kr Om))),(2,.l 4)] [(5,i6 2),(6,pt (B0 b) 70)] [5,6] (rs [(2,.t (tv (Instr.indexAt 194 (.slice (some ⟨(B1 h),0,none⟩) 6 6) (i6 2)) (λ_=>bS (k:=2) (s:=1) Kr Om))),(3,.l 3),(6,.l 0),(8,.s 2)] 2 (ob (B3 e) (sV 8 0 z6 0 2 f g i 0 0 0 0) 50) (r0 [] [(48,i6 3)] [48] ?_))));refine eG ?_;refine r0 [] [(49,.bool true)] [49] (cT _ rfl (r0 [(1,.t (tv (Instr.indexAt 194 (.slice (some ⟨(B1 a),0,none⟩) 6 6) (i6 3)) (λ_=>bS (k:=3) (s:=1) Kr Om))),(2,.l 4)] [(5,i6 3),(6,pt (B0 b) 71)] [5,6] (rs [(2,.t (tv (Instr.indexAt 194 (.slice (some ⟨(B1 h),0,none⟩) 6 6) (i6 3)) (λ_=>bS (k:=3) (s:=1) Kr Om))),(3,.l 3),(6,.l 0),(8,.s 2)] 2 (ob (B3 e) (sV 8 0 z6 0 2 f g i j 0 0 0) 50) (r0 [] [(48,i6 4)] [48] ?_))));refine eG ?_;refine r0 [] [(49,.bool true)] [49] (cT _ rfl (r0 [(1,.t (tv (Instr.indexAt 194 (.slice (some ⟨(B1 a),0,none⟩) 6 6) (i6 4)) (λ_=>bS (k:=4) (s:=1) Kr Om))),(2,.l 4)] [(5,i6 4),(6,pt (B0 b) 73)] [5,6] (rs [(2,.t (tv (Instr.indexAt 194 (.slice (some ⟨(B1 h),0,none⟩) 6 6) (i6 4)) (λ_=>bS (k:=4) (s:=1) Kr Om))),(3,.l 3),(6,.l 0),(8,.s 2)] 2 (ob (B3 e) (sV 8 0 z6 0 2 f g i j 0 n 0) 50) (r0 [] [(48,i6 5)] [48] ?_))));refine eG ?_;refine r0 [] [(49,.bool true)] [49] (cT _ rfl (r0 [(1,.t (tv (Instr.indexAt 194 (.slice (some ⟨(B1 a),0,none⟩) 6 6) (i6 5)) (λ_=>bS (k:=5) (s:=1) Kr Om))),(2,.l 4)] [(5,i6 5),(6,pt (B0 b) 74)] [5,6] (rs [(2,.t (tv (Instr.indexAt 194 (.slice (some ⟨(B1 h),0,none⟩) 6 6) (i6 5)) (λ_=>bS (k:=5) (s:=1) Kr Om))),(3,.l 3),(6,.l 0),(8,.s 2)] 2 (ob (B3 e) (sV 8 0 z6 0 2 f g i j 0 n o) 50) (r0 [] [(48,i6 6)] [48] ?_))));refine eG ?_;refine r0 [] [(49,.bool false)] [49] (cF _ rfl ?_);refine m0 ?_;exact rs [(0,.l 2),(1,.s 1)] 1 (ob (B1 b) (sV 8 0 z6 0 2 f g i j 0 n o) 50) (lf ab.zero [] [] [1])
theorem RM(ln:Int)(d:List UInt8)(m:Nat)(f g i o j p n:Int)(q:d.length=64):aa U0 55 #[.agg (sV 8 ln d m 3 f g i o j p n)] [] [] N0 (λ_=> .agg (sV 8 0 z6 0 3 f g i 0 j 0 n)):=by
 refine fG Tryz.func55 λw cs=>ra (λb=>[(1,pt (B0 b) 0),(2,pt (B1 b) 0)]) (λb=>[ob (B0 b) (sV 8 ln d m 3 f g i o j p n) 50,ob (B1 b) (sV 0 0 z6 0 0 0 0 0 0 0 0 0) 50]) λb=>rr (λ_=>[(1,.l 0),(4,.s 2)]) (λe=>[(3,pt (B3 e) 0)]) [] (λe L=>L++[ob (B3 e) (sV 8 0 z6 0 0 0 0 0 0 0 0 0) 50]) λe=>r0 [(1,.l 0)] [(11,i6 8)] [] (rF [] 12 (rF [] 17 (rF [] 25 (rT [] 36 (rs [(2,.l 0),(5,.s 2)] 2 (ob (B3 e) (sV 8 0 z6 0 3 0 0 0 0 0 0 0) 50) (rr (λ_=>[(1,.c [2] [3] (EC (B3 e) 8 0 z6 0 0 0 0 0 0 0 0))]) (λh=>[(4,.slice (some ⟨(B1 h),0,none⟩) 5 5)]) [] (λh L=>L++[ob (B1 h) #[pt (B3 e) 68,pt (B3 e) 69,pt (B3 e) 70,pt (B3 e) 72,pt (B3 e) 74] 197]) λh=>rr (λ_=>[(1,.c [0] [4] (EC (B0 b) 8 ln d m f g i o j p n))]) (λa=>[(46,.slice (some ⟨(B1 a),0,none⟩) 5 5),(47,i6 5),(48,i6 0)]) [] (λa L=>L++[ob (B1 a) #[pt (B0 b) 68,pt (B0 b) 69,pt (B0 b) 70,pt (B0 b) 72,pt (B0 b) 74] 197]) λa=>?_))))));refine lu 8 ?_;refine rT [] 49 (r0 [(1,.t (tv (Instr.indexAt 194 (.slice (some ⟨(B1 a),0,none⟩) 5 5) (i6 0)) (λ_=>bS (k:=0) (s:=1) Kr Om))),(2,.l 4)] [(5,i6 0),(6,pt (B0 b) 68)] [] (rs [(2,.t (tv (Instr.indexAt 194 (.slice (some ⟨(B1 h),0,none⟩) 5 5) (i6 0)) (λ_=>bS (k:=0) (s:=1) Kr Om))),(3,.l 3),(6,.l 0),(8,.s 2)] 2 (ob (B3 e) (sV 8 0 z6 0 3 f 0 0 0 0 0 0) 50) (r0 [] [(48,i6 1)] [48] ?_)));refine eG ?_;refine r0 [] [(49,.bool true)] [49] (cT _ rfl (r0 [(1,.t (tv (Instr.indexAt 194 (.slice (some ⟨(B1 a),0,none⟩) 5 5) (i6 1)) (λ_=>bS (k:=1) (s:=1) Kr Om))),(2,.l 4)] [(5,i6 1),(6,pt (B0 b) 69)] [5,6] (rs [(2,.t (tv (Instr.indexAt 194 (.slice (some ⟨(B1 h),0,none⟩) 5 5) (i6 1)) (λ_=>bS (k:=1) (s:=1) Kr Om))),(3,.l 3),(6,.l 0),(8,.s 2)] 2 (ob (B3 e) (sV 8 0 z6 0 3 f g 0 0 0 0 0) 50) (r0 [] [(48,i6 2)] [48] ?_))));refine eG ?_;refine r0 [] [(49,.bool true)] [49] (cT _ rfl (r0 [(1,.t (tv (Instr.indexAt 194 (.slice (some ⟨(B1 a),0,none⟩) 5 5) (i6 2)) (λ_=>bS (k:=2) (s:=1) Kr Om))),(2,.l 4)] [(5,i6 2),(6,pt (B0 b) 70)] [5,6] (rs [(2,.t (tv (Instr.indexAt 194 (.slice (some ⟨(B1 h),0,none⟩) 5 5) (i6 2)) (λ_=>bS (k:=2) (s:=1) Kr Om))),(3,.l 3),(6,.l 0),(8,.s 2)] 2 (ob (B3 e) (sV 8 0 z6 0 3 f g i 0 0 0 0) 50) (r0 [] [(48,i6 3)] [48] ?_))));refine eG ?_;refine r0 [] [(49,.bool true)] [49] (cT _ rfl (r0 [(1,.t (tv (Instr.indexAt 194 (.slice (some ⟨(B1 a),0,none⟩) 5 5) (i6 3)) (λ_=>bS (k:=3) (s:=1) Kr Om))),(2,.l 4)] [(5,i6 3),(6,pt (B0 b) 72)] [5,6] (rs [(2,.t (tv (Instr.indexAt 194 (.slice (some ⟨(B1 h),0,none⟩) 5 5) (i6 3)) (λ_=>bS (k:=3) (s:=1) Kr Om))),(3,.l 3),(6,.l 0),(8,.s 2)] 2 (ob (B3 e) (sV 8 0 z6 0 3 f g i 0 j 0 0) 50) (r0 [] [(48,i6 4)] [48] ?_))));refine eG ?_;refine r0 [] [(49,.bool true)] [49] (cT _ rfl (r0 [(1,.t (tv (Instr.indexAt 194 (.slice (some ⟨(B1 a),0,none⟩) 5 5) (i6 4)) (λ_=>bS (k:=4) (s:=1) Kr Om))),(2,.l 4)] [(5,i6 4),(6,pt (B0 b) 74)] [5,6] (rs [(2,.t (tv (Instr.indexAt 194 (.slice (some ⟨(B1 h),0,none⟩) 5 5) (i6 4)) (λ_=>bS (k:=4) (s:=1) Kr Om))),(3,.l 3),(6,.l 0),(8,.s 2)] 2 (ob (B3 e) (sV 8 0 z6 0 3 f g i 0 j 0 n) 50) (r0 [] [(48,i6 5)] [48] ?_))));refine eG ?_;refine r0 [] [(49,.bool false)] [49] (cF _ rfl ?_);refine m0 ?_;exact rs [(0,.l 2),(1,.s 1)] 1 (ob (B1 b) (sV 8 0 z6 0 3 f g i 0 j 0 n) 50) (lf ab.zero [] [] [1])
theorem RN(ln:Int)(d:List UInt8)(m:Nat)(f g o i j p n:Int)(q:d.length=64):aa U0 55 #[.agg (sV 8 ln d m 4 f g o i j p n)] [] [] N0 (λ_=> .agg (sV 8 0 z6 0 4 f g 0 i j 0 n)):=by
 refine fG Tryz.func55 λw cs=>ra (λb=>[(1,pt (B0 b) 0),(2,pt (B1 b) 0)]) (λb=>[ob (B0 b) (sV 8 ln d m 4 f g o i j p n) 50,ob (B1 b) (sV 0 0 z6 0 0 0 0 0 0 0 0 0) 50]) λb=>rr (λ_=>[(1,.l 0),(4,.s 2)]) (λe=>[(3,pt (B3 e) 0)]) [] (λe L=>L++[ob (B3 e) (sV 8 0 z6 0 0 0 0 0 0 0 0 0) 50]) λe=>r0 [(1,.l 0)] [(11,i6 8)] [] (rF [] 12 (rF [] 17 (rF [] 25 (rT [] 36 (rs [(2,.l 0),(5,.s 2)] 2 (ob (B3 e) (sV 8 0 z6 0 4 0 0 0 0 0 0 0) 50) (rr (λ_=>[(1,.c [2] [3] (ED (B3 e) 8 0 z6 0 0 0 0 0 0 0 0))]) (λh=>[(4,.slice (some ⟨(B1 h),0,none⟩) 5 5)]) [] (λh L=>L++[ob (B1 h) #[pt (B3 e) 68,pt (B3 e) 69,pt (B3 e) 71,pt (B3 e) 72,pt (B3 e) 74] 197]) λh=>rr (λ_=>[(1,.c [0] [4] (ED (B0 b) 8 ln d m f g o i j p n))]) (λa=>[(46,.slice (some ⟨(B1 a),0,none⟩) 5 5),(47,i6 5),(48,i6 0)]) [] (λa L=>L++[ob (B1 a) #[pt (B0 b) 68,pt (B0 b) 69,pt (B0 b) 71,pt (B0 b) 72,pt (B0 b) 74] 197]) λa=>?_))))));refine lu 8 ?_;refine rT [] 49 (r0 [(1,.t (tv (Instr.indexAt 194 (.slice (some ⟨(B1 a),0,none⟩) 5 5) (i6 0)) (λ_=>bS (k:=0) (s:=1) Kr Om))),(2,.l 4)] [(5,i6 0),(6,pt (B0 b) 68)] [] (rs [(2,.t (tv (Instr.indexAt 194 (.slice (some ⟨(B1 h),0,none⟩) 5 5) (i6 0)) (λ_=>bS (k:=0) (s:=1) Kr Om))),(3,.l 3),(6,.l 0),(8,.s 2)] 2 (ob (B3 e) (sV 8 0 z6 0 4 f 0 0 0 0 0 0) 50) (r0 [] [(48,i6 1)] [48] ?_)));refine eG ?_;refine r0 [] [(49,.bool true)] [49] (cT _ rfl (r0 [(1,.t (tv (Instr.indexAt 194 (.slice (some ⟨(B1 a),0,none⟩) 5 5) (i6 1)) (λ_=>bS (k:=1) (s:=1) Kr Om))),(2,.l 4)] [(5,i6 1),(6,pt (B0 b) 69)] [5,6] (rs [(2,.t (tv (Instr.indexAt 194 (.slice (some ⟨(B1 h),0,none⟩) 5 5) (i6 1)) (λ_=>bS (k:=1) (s:=1) Kr Om))),(3,.l 3),(6,.l 0),(8,.s 2)] 2 (ob (B3 e) (sV 8 0 z6 0 4 f g 0 0 0 0 0) 50) (r0 [] [(48,i6 2)] [48] ?_))));refine eG ?_;refine r0 [] [(49,.bool true)] [49] (cT _ rfl (r0 [(1,.t (tv (Instr.indexAt 194 (.slice (some ⟨(B1 a),0,none⟩) 5 5) (i6 2)) (λ_=>bS (k:=2) (s:=1) Kr Om))),(2,.l 4)] [(5,i6 2),(6,pt (B0 b) 71)] [5,6] (rs [(2,.t (tv (Instr.indexAt 194 (.slice (some ⟨(B1 h),0,none⟩) 5 5) (i6 2)) (λ_=>bS (k:=2) (s:=1) Kr Om))),(3,.l 3),(6,.l 0),(8,.s 2)] 2 (ob (B3 e) (sV 8 0 z6 0 4 f g 0 i 0 0 0) 50) (r0 [] [(48,i6 3)] [48] ?_))));refine eG ?_;refine r0 [] [(49,.bool true)] [49] (cT _ rfl (r0 [(1,.t (tv (Instr.indexAt 194 (.slice (some ⟨(B1 a),0,none⟩) 5 5) (i6 3)) (λ_=>bS (k:=3) (s:=1) Kr Om))),(2,.l 4)] [(5,i6 3),(6,pt (B0 b) 72)] [5,6] (rs [(2,.t (tv (Instr.indexAt 194 (.slice (some ⟨(B1 h),0,none⟩) 5 5) (i6 3)) (λ_=>bS (k:=3) (s:=1) Kr Om))),(3,.l 3),(6,.l 0),(8,.s 2)] 2 (ob (B3 e) (sV 8 0 z6 0 4 f g 0 i j 0 0) 50) (r0 [] [(48,i6 4)] [48] ?_))));refine eG ?_;refine r0 [] [(49,.bool true)] [49] (cT _ rfl (r0 [(1,.t (tv (Instr.indexAt 194 (.slice (some ⟨(B1 a),0,none⟩) 5 5) (i6 4)) (λ_=>bS (k:=4) (s:=1) Kr Om))),(2,.l 4)] [(5,i6 4),(6,pt (B0 b) 74)] [5,6] (rs [(2,.t (tv (Instr.indexAt 194 (.slice (some ⟨(B1 h),0,none⟩) 5 5) (i6 4)) (λ_=>bS (k:=4) (s:=1) Kr Om))),(3,.l 3),(6,.l 0),(8,.s 2)] 2 (ob (B3 e) (sV 8 0 z6 0 4 f g 0 i j 0 n) 50) (r0 [] [(48,i6 5)] [48] ?_))));refine eG ?_;refine r0 [] [(49,.bool false)] [49] (cF _ rfl ?_);refine m0 ?_;exact rs [(0,.l 2),(1,.s 1)] 1 (ob (B1 b) (sV 8 0 z6 0 4 f g 0 i j 0 n) 50) (lf ab.zero [] [] [1])
theorem RO(ln:Int)(d:List UInt8)(m:Nat)(f j n o g p i:Int)(q:d.length=64):aa U0 55 #[.agg (sV 8 ln d m 5 f j n o g p i)] [] [] N0 (λ_=> .agg (sV 8 0 z6 0 5 f 0 0 0 g 0 i)):=by
 refine fG Tryz.func55 λw cs=>ra (λb=>[(1,pt (B0 b) 0),(2,pt (B1 b) 0)]) (λb=>[ob (B0 b) (sV 8 ln d m 5 f j n o g p i) 50,ob (B1 b) (sV 0 0 z6 0 0 0 0 0 0 0 0 0) 50]) λb=>rr (λ_=>[(1,.l 0),(4,.s 2)]) (λe=>[(3,pt (B3 e) 0)]) [] (λe L=>L++[ob (B3 e) (sV 8 0 z6 0 0 0 0 0 0 0 0 0) 50]) λe=>r0 [(1,.l 0)] [(11,i6 8)] [] (rF [] 12 (rF [] 17 (rF [] 25 (rT [] 36 (rs [(2,.l 0),(5,.s 2)] 2 (ob (B3 e) (sV 8 0 z6 0 5 0 0 0 0 0 0 0) 50) (rr (λ_=>[(1,.c [2] [3] (EE (B3 e) 8 0 z6 0 0 0 0 0 0 0 0))]) (λh=>[(4,.slice (some ⟨(B1 h),0,none⟩) 3 3)]) [] (λh L=>L++[ob (B1 h) #[pt (B3 e) 68,pt (B3 e) 72,pt (B3 e) 74] 197]) λh=>rr (λ_=>[(1,.c [0] [4] (EE (B0 b) 8 ln d m f j n o g p i))]) (λa=>[(46,.slice (some ⟨(B1 a),0,none⟩) 3 3),(47,i6 3),(48,i6 0)]) [] (λa L=>L++[ob (B1 a) #[pt (B0 b) 68,pt (B0 b) 72,pt (B0 b) 74] 197]) λa=>?_))))));refine lu 8 ?_;refine rT [] 49 (r0 [(1,.t (tv (Instr.indexAt 194 (.slice (some ⟨(B1 a),0,none⟩) 3 3) (i6 0)) (λ_=>bS (k:=0) (s:=1) Kr Om))),(2,.l 4)] [(5,i6 0),(6,pt (B0 b) 68)] [] (rs [(2,.t (tv (Instr.indexAt 194 (.slice (some ⟨(B1 h),0,none⟩) 3 3) (i6 0)) (λ_=>bS (k:=0) (s:=1) Kr Om))),(3,.l 3),(6,.l 0),(8,.s 2)] 2 (ob (B3 e) (sV 8 0 z6 0 5 f 0 0 0 0 0 0) 50) (r0 [] [(48,i6 1)] [48] ?_)));refine eG ?_;refine r0 [] [(49,.bool true)] [49] (cT _ rfl (r0 [(1,.t (tv (Instr.indexAt 194 (.slice (some ⟨(B1 a),0,none⟩) 3 3) (i6 1)) (λ_=>bS (k:=1) (s:=1) Kr Om))),(2,.l 4)] [(5,i6 1),(6,pt (B0 b) 72)] [5,6] (rs [(2,.t (tv (Instr.indexAt 194 (.slice (some ⟨(B1 h),0,none⟩) 3 3) (i6 1)) (λ_=>bS (k:=1) (s:=1) Kr Om))),(3,.l 3),(6,.l 0),(8,.s 2)] 2 (ob (B3 e) (sV 8 0 z6 0 5 f 0 0 0 g 0 0) 50) (r0 [] [(48,i6 2)] [48] ?_))));refine eG ?_;refine r0 [] [(49,.bool true)] [49] (cT _ rfl (r0 [(1,.t (tv (Instr.indexAt 194 (.slice (some ⟨(B1 a),0,none⟩) 3 3) (i6 2)) (λ_=>bS (k:=2) (s:=1) Kr Om))),(2,.l 4)] [(5,i6 2),(6,pt (B0 b) 74)] [5,6] (rs [(2,.t (tv (Instr.indexAt 194 (.slice (some ⟨(B1 h),0,none⟩) 3 3) (i6 2)) (λ_=>bS (k:=2) (s:=1) Kr Om))),(3,.l 3),(6,.l 0),(8,.s 2)] 2 (ob (B3 e) (sV 8 0 z6 0 5 f 0 0 0 g 0 i) 50) (r0 [] [(48,i6 3)] [48] ?_))));refine eG ?_;refine r0 [] [(49,.bool false)] [49] (cF _ rfl ?_);refine m0 ?_;exact rs [(0,.l 2),(1,.s 1)] 1 (ob (B1 b) (sV 8 0 z6 0 5 f 0 0 0 g 0 i) 50) (lf ab.zero [] [] [1])
theorem RP(ln:Int)(d:List UInt8)(m:Nat)(f g i j n o p:Int)(q:d.length=64):aa U0 55 #[.agg (sV 8 ln d m 6 f g i j n o p)] [] [] N0 (λ_=> .agg (sV 8 0 z6 0 6 f g i j 0 0 0)):=by
 refine fG Tryz.func55 λw cs=>ra (λb=>[(1,pt (B0 b) 0),(2,pt (B1 b) 0)]) (λb=>[ob (B0 b) (sV 8 ln d m 6 f g i j n o p) 50,ob (B1 b) (sV 0 0 z6 0 0 0 0 0 0 0 0 0) 50]) λb=>rr (λ_=>[(1,.l 0),(4,.s 2)]) (λe=>[(3,pt (B3 e) 0)]) [] (λe L=>L++[ob (B3 e) (sV 8 0 z6 0 0 0 0 0 0 0 0 0) 50]) λe=>r0 [(1,.l 0)] [(11,i6 8)] [] (rF [] 12 (rF [] 17 (rF [] 25 (rT [] 36 (rs [(2,.l 0),(5,.s 2)] 2 (ob (B3 e) (sV 8 0 z6 0 6 0 0 0 0 0 0 0) 50) (rr (λ_=>[(1,.c [2] [3] (EF (B3 e) 8 0 z6 0 0 0 0 0 0 0 0))]) (λh=>[(4,.slice (some ⟨(B1 h),0,none⟩) 4 4)]) [] (λh L=>L++[ob (B1 h) #[pt (B3 e) 68,pt (B3 e) 69,pt (B3 e) 70,pt (B3 e) 71] 197]) λh=>rr (λ_=>[(1,.c [0] [4] (EF (B0 b) 8 ln d m f g i j n o p))]) (λa=>[(46,.slice (some ⟨(B1 a),0,none⟩) 4 4),(47,i6 4),(48,i6 0)]) [] (λa L=>L++[ob (B1 a) #[pt (B0 b) 68,pt (B0 b) 69,pt (B0 b) 70,pt (B0 b) 71] 197]) λa=>?_))))));refine lu 8 ?_;refine rT [] 49 (r0 [(1,.t (tv (Instr.indexAt 194 (.slice (some ⟨(B1 a),0,none⟩) 4 4) (i6 0)) (λ_=>bS (k:=0) (s:=1) Kr Om))),(2,.l 4)] [(5,i6 0),(6,pt (B0 b) 68)] [] (rs [(2,.t (tv (Instr.indexAt 194 (.slice (some ⟨(B1 h),0,none⟩) 4 4) (i6 0)) (λ_=>bS (k:=0) (s:=1) Kr Om))),(3,.l 3),(6,.l 0),(8,.s 2)] 2 (ob (B3 e) (sV 8 0 z6 0 6 f 0 0 0 0 0 0) 50) (r0 [] [(48,i6 1)] [48] ?_)));refine eG ?_;refine r0 [] [(49,.bool true)] [49] (cT _ rfl (r0 [(1,.t (tv (Instr.indexAt 194 (.slice (some ⟨(B1 a),0,none⟩) 4 4) (i6 1)) (λ_=>bS (k:=1) (s:=1) Kr Om))),(2,.l 4)] [(5,i6 1),(6,pt (B0 b) 69)] [5,6] (rs [(2,.t (tv (Instr.indexAt 194 (.slice (some ⟨(B1 h),0,none⟩) 4 4) (i6 1)) (λ_=>bS (k:=1) (s:=1) Kr Om))),(3,.l 3),(6,.l 0),(8,.s 2)] 2 (ob (B3 e) (sV 8 0 z6 0 6 f g 0 0 0 0 0) 50) (r0 [] [(48,i6 2)] [48] ?_))));refine eG ?_;refine r0 [] [(49,.bool true)] [49] (cT _ rfl (r0 [(1,.t (tv (Instr.indexAt 194 (.slice (some ⟨(B1 a),0,none⟩) 4 4) (i6 2)) (λ_=>bS (k:=2) (s:=1) Kr Om))),(2,.l 4)] [(5,i6 2),(6,pt (B0 b) 70)] [5,6] (rs [(2,.t (tv (Instr.indexAt 194 (.slice (some ⟨(B1 h),0,none⟩) 4 4) (i6 2)) (λ_=>bS (k:=2) (s:=1) Kr Om))),(3,.l 3),(6,.l 0),(8,.s 2)] 2 (ob (B3 e) (sV 8 0 z6 0 6 f g i 0 0 0 0) 50) (r0 [] [(48,i6 3)] [48] ?_))));refine eG ?_;refine r0 [] [(49,.bool true)] [49] (cT _ rfl (r0 [(1,.t (tv (Instr.indexAt 194 (.slice (some ⟨(B1 a),0,none⟩) 4 4) (i6 3)) (λ_=>bS (k:=3) (s:=1) Kr Om))),(2,.l 4)] [(5,i6 3),(6,pt (B0 b) 71)] [5,6] (rs [(2,.t (tv (Instr.indexAt 194 (.slice (some ⟨(B1 h),0,none⟩) 4 4) (i6 3)) (λ_=>bS (k:=3) (s:=1) Kr Om))),(3,.l 3),(6,.l 0),(8,.s 2)] 2 (ob (B3 e) (sV 8 0 z6 0 6 f g i j 0 0 0) 50) (r0 [] [(48,i6 4)] [48] ?_))));refine eG ?_;refine r0 [] [(49,.bool false)] [49] (cF _ rfl ?_);refine m0 ?_;exact rs [(0,.l 2),(1,.s 1)] 1 (ob (B1 b) (sV 8 0 z6 0 6 f g i j 0 0 0) 50) (lf ab.zero [] [] [1])
theorem RQ(ln:Int)(d:List UInt8)(m:Nat)(e f g h i j k:Int)(n:d.length=64):aa U0 55 #[.agg (sV 8 ln d m 7 e f g h i j k)] [] [] N0 (λ_=> .agg (sV 8 0 z6 0 7 0 0 0 0 0 0 0)):=by
 refine fG Tryz.func55 λw cs=>ra (λa=>[(1,pt (B0 a) 0),(2,pt (B1 a) 0)]) (λa=>[ob (B0 a) (sV 8 ln d m 7 e f g h i j k) 50,ob (B1 a) (sV 0 0 z6 0 0 0 0 0 0 0 0 0) 50]) λa=>rr (λ_=>[(1,.l 0),(4,.s 2)]) (λb=>[(3,pt (B3 b) 0)]) [] (λb L=>L++[ob (B3 b) (sV 8 0 z6 0 0 0 0 0 0 0 0 0) 50]) λb=>r0 [(1,.l 0)] [(11,i6 8)] [] (rF [] 12 (rF [] 17 (rF [] 25 (rT [] 36 (rs [(2,.l 0),(5,.s 2)] 2 (ob (B3 b) (sV 8 0 z6 0 7 0 0 0 0 0 0 0) 50) (r0 [(1,.c [2] [] (EG (B3 b) 8 0 z6 0 0 0 0 0 0 0 0))] [(4,.slice none 0 0)] [] (r0 [(1,.c [0] [] (EG (B0 a) 8 ln d m e f g h i j k))] [(46,.slice none 0 0),(47,i6 0),(48,i6 0)] [] ?_)))))));refine lu 8 ?_;refine rF [] 49 ?_;refine m0 ?_;exact rs [(0,.l 2),(1,.s 1)] 1 (ob (B1 a) (sV 8 0 z6 0 7 0 0 0 0 0 0 0) 50) (lf ab.zero [] [] [1])
theorem RR(ln:Int)(d:List UInt8)(m:Nat)(a f g h i j k n:Int)(p:d.length=64)(o:a<1∨7<a):aa U0 55 #[.agg (sV 8 ln d m a f g h i j k n)] [] [] N0 (λ_=> .agg (sV 8 0 z6 0 a 0 0 0 0 0 0 0)):=by
 refine fG Tryz.func55 λw cs=>ra (λb=>[(1,pt (B0 b) 0),(2,pt (B1 b) 0)]) (λb=>[ob (B0 b) (sV 8 ln d m a f g h i j k n) 50,ob (B1 b) (sV 0 0 z6 0 0 0 0 0 0 0 0 0) 50]) λb=>rr (λ_=>[(1,.l 0),(4,.s 2)]) (λe=>[(3,pt (B3 e) 0)]) [] (λe L=>L++[ob (B3 e) (sV 8 0 z6 0 0 0 0 0 0 0 0 0) 50]) λe=>r0 [(1,.l 0)] [(11,i6 8)] [] (rF [] 12 (rF [] 17 (rF [] 25 (rT [] 36 (rs [(2,.l 0),(5,.s 2)] 2 (ob (B3 e) (sV 8 0 z6 0 a 0 0 0 0 0 0 0) 50) (r0 [(1,.c [2] [] (EH (B3 e) 8 0 z6 0 a 0 0 0 0 0 0 0 Om))] [(4,.slice none 0 0)] [] (r0 [(1,.c [0] [] (EH (B0 b) 8 ln d m a f g h i j k n Om))] [(46,.slice none 0 0),(47,i6 0),(48,i6 0)] [] ?_)))))));refine lu 8 ?_;refine rF [] 49 ?_;refine m0 ?_;exact rs [(0,.l 2),(1,.s 1)] 1 (ob (B1 b) (sV 8 0 z6 0 a 0 0 0 0 0 0 0) 50) (lf ab.zero [] [] [1])
theorem RS(k l:Int)(d:List UInt8)(m:Nat)(b c e f g h i j:Int)(o:d.length=64)(n:k<1):aa U0 17 #[.agg (sV k l d m b c e f g h i j)] [] [] N0 (λ_=> .bool false):=by
 exact fG Tryz.func17 λw cs=>ra (λa=>[(1,pt (B0 a) 0),(2,.bool false)]) (λa=>[ob (B0 a) (sV k l d m b c e f g h i j) 50]) λa=>rT [(1,.m (ld 0 (i6 k))),(2,.t (tk (show Value.bool (decide (k<1))= .bool true from ALca Value.bool (by simp;omega)))),(4,.d),(5,.d),(6,.d),(9,.d),(10,.d),(11,.d),(12,.d)] 16 (r0 [] [(2,.bool false)] [2] (lf ab.zero [] [] []))
theorem RT(k l:Int)(d:List UInt8)(m:Nat)(b c e f g h i j:Int)(o:d.length=64)(n:8<k):aa U0 17 #[.agg (sV k l d m b c e f g h i j)] [] [] N0 (λ_=> .bool false):=by
 exact fG Tryz.func17 λw cs=>ra (λa=>[(1,pt (B0 a) 0),(2,.bool false)]) (λa=>[ob (B0 a) (sV k l d m b c e f g h i j) 50]) λa=>rT [(1,.m (ld 0 (i6 k))),(2,.t (tk (show Value.bool (decide (k<1))= .bool false from ALca Value.bool (by simp;omega)))),(5,.m (ld 0 (i6 k))),(6,.t (tk (show Value.bool (decide (8<k))= .bool true from ALca Value.bool (by simp;omega)))),(9,.d),(10,.d),(11,.d),(12,.d)] 16 (r0 [] [(2,.bool false)] [2] (lf ab.zero [] [] []))
def uS(ln:Int)(d:List UInt8)(m:Nat)(a b c e f g h i:Int):Bool:=(bif !(((1==1&&(ln==ln&&true))&&decide (d=UZ 64 0))&&((m:Int)==0&&(a==0&&(b==0&&(c==0&&(e==0&&(f==0&&(g==0&&(h==0&&(i==0&&true)))))))))) then false else true)
theorem RU(ln:Int)(d:List UInt8)(m:Nat)(a b e f g h i j:Int)(n:d.length=64):aa U0 17 #[.agg (sV 1 ln d m a b e f g h i j)] [] [] N0 (λ_=> .bool (uS ln d m a b e f g h i j)):=by
 refine fG Tryz.func17 λw cs=>ra (λk=>[(1,pt (B0 k) 0),(2,.bool false)]) (λk=>[ob (B0 k) (sV 1 ln d m a b e f g h i j) 50]) λk=>r0 [(1,.m (ld 0 (i6 1))),(5,.m (ld 0 (i6 1))),(9,.m (ls 0 (sL 1 ln d m a b e f g h i j))),(10,.m (ls 0 (sL 1 ln d m a b e f g h i j))),(11,.c [] [] (RG ln d m a b e f g h i j (by(simp only[LL,n,n];done)))),(12,.t (gy 50 λ_ _ _=>iu (xs:=([i6 1,i6 ln]:List Value)++rB 64 d++([u6 (m:Int),i6 a,i6 b,i6 e,i6 f,i6 g,i6 h,i6 i,i6 j]:List Value)) (ys:=([i6 1,i6 ln]:List Value)++rB 64 z6++([u6 0,i6 0,i6 0,i6 0,i6 0,i6 0,i6 0,i6 0,i6 0]:List Value)) Kr (UN Kr Kr (UN Kr Kr a7 (ja n (show z6.length=64 by rfl))) a7)))] [(16,.bool (!(((1==1&&(ln==ln&&true))&&decide (d=UZ 64 0))&&((m:Int)==0&&(a==0&&(b==0&&(e==0&&(f==0&&(g==0&&(h==0&&(i==0&&(j==0&&true))))))))))))] [] ?_;refine cB (!(((1==1&&(ln==ln&&true))&&decide (d=UZ 64 0))&&((m:Int)==0&&(a==0&&(b==0&&(e==0&&(f==0&&(g==0&&(h==0&&(i==0&&(j==0&&true))))))))))) (λl=>?_) λl=>?_
 ·exact r0 [] [(2,.bool false)] [2] (ak (.bool false) ab.zero (by((try simp only[uS]);(repeat (first | rw[l] | rw[ALct])))<;>rfl) [] [] [])
 exact r0 [(1,.m (ld 0 (i6 1))),(4,.d),(5,.d),(6,.d),(7,.d),(8,.d),(9,.d),(10,.d),(11,.d),(12,.d),(13,.d)] [(2,.bool true)] [2] (ak (.bool true) ab.zero (by((try simp only[uS]);(repeat (first | rw[l] | rw[ALcf])))<;>rfl) [] [] [])
def uU(ln:Int)(m:Nat)(a b c d e f g h:Int):Bool:=(bif !(((2==2&&(ln==ln&&true))&&true)&&((m:Int)==0&&(a==0&&(b==0&&(c==0&&(d==0&&(e==0&&(f==0&&(g==0&&(h==0&&true)))))))))) then false else true)
theorem RW(ln:Int)(d:List UInt8)(m:Nat)(a b e f g h i j:Int)(k:d.length=64):aa U0 17 #[.agg (sV 2 ln d m a b e f g h i j)] [] [] N0 (λ_=> .bool (uU ln m a b e f g h i j)):=by
 refine fG Tryz.func17 λw cs=>ra (λl=>[(1,pt (B0 l) 0),(2,.bool false)]) (λl=>[ob (B0 l) (sV 2 ln d m a b e f g h i j) 50]) λl=>r0 [(1,.m (ld 0 (i6 2))),(5,.m (ld 0 (i6 2))),(9,.m (ls 0 (sL 2 ln d m a b e f g h i j))),(10,.m (ls 0 (sL 2 ln d m a b e f g h i j))),(11,.c [] [] (RH ln d m a b e f g h i j (by(simp only[LL,k,k];done)))),(12,.t (gy 50 λ_ _ _=>iu (xs:=([i6 2,i6 ln]:List Value)++rB 64 d++([u6 (m:Int),i6 a,i6 b,i6 e,i6 f,i6 g,i6 h,i6 i,i6 j]:List Value)) (ys:=([i6 2,i6 ln]:List Value)++rB 64 d++([u6 0,i6 0,i6 0,i6 0,i6 0,i6 0,i6 0,i6 0,i6 0]:List Value)) Kr (UN Kr Kr (UN Kr Kr a7 ((ja k k).trans (cS rfl))) a7)))] [(16,.bool (!(((2==2&&(ln==ln&&true))&&true)&&((m:Int)==0&&(a==0&&(b==0&&(e==0&&(f==0&&(g==0&&(h==0&&(i==0&&(j==0&&true))))))))))))] [] ?_;refine cB (!(((2==2&&(ln==ln&&true))&&true)&&((m:Int)==0&&(a==0&&(b==0&&(e==0&&(f==0&&(g==0&&(h==0&&(i==0&&(j==0&&true))))))))))) (λn=>?_) λn=>?_
 ·exact r0 [] [(2,.bool false)] [2] (ak (.bool false) ab.zero (by((try simp only[uU]);(repeat (first | rw[n] | rw[ALct])))<;>rfl) [] [] [])
 exact r0 [(1,.m (ld 0 (i6 2))),(4,.d),(5,.d),(6,.d),(7,.d),(8,.d),(9,.d),(10,.d),(11,.d),(12,.d),(13,.d)] [(2,.bool true)] [2] (ak (.bool true) ab.zero (by((try simp only[uU]);(repeat (first | rw[n] | rw[ALcf])))<;>rfl) [] [] [])
def uV(ln:Int)(m:Nat)(a b c d e f g h:Int):Bool:=(bif !(((3==3&&(ln==ln&&true))&&true)&&((m:Int)==(m:Int)&&(a==0&&(b==0&&(c==0&&(d==0&&(e==0&&(f==0&&(g==0&&(h==0&&true)))))))))) then false else true)
theorem RX(ln:Int)(d:List UInt8)(m:Nat)(a b e f g h i j:Int)(k:d.length=64):aa U0 17 #[.agg (sV 3 ln d m a b e f g h i j)] [] [] N0 (λ_=> .bool (uV ln m a b e f g h i j)):=by
 refine fG Tryz.func17 λw cs=>ra (λl=>[(1,pt (B0 l) 0),(2,.bool false)]) (λl=>[ob (B0 l) (sV 3 ln d m a b e f g h i j) 50]) λl=>r0 [(1,.m (ld 0 (i6 3))),(5,.m (ld 0 (i6 3))),(9,.m (ls 0 (sL 3 ln d m a b e f g h i j))),(10,.m (ls 0 (sL 3 ln d m a b e f g h i j))),(11,.c [] [] (RI ln d m a b e f g h i j (by(simp only[LL,k,k];done)))),(12,.t (gy 50 λ_ _ _=>iu (xs:=([i6 3,i6 ln]:List Value)++rB 64 d++([u6 (m:Int),i6 a,i6 b,i6 e,i6 f,i6 g,i6 h,i6 i,i6 j]:List Value)) (ys:=([i6 3,i6 ln]:List Value)++rB 64 d++([u6 (m:Int),i6 0,i6 0,i6 0,i6 0,i6 0,i6 0,i6 0,i6 0]:List Value)) Kr (UN Kr Kr (UN Kr Kr a7 ((ja k k).trans (cS rfl))) a7)))] [(16,.bool (!(((3==3&&(ln==ln&&true))&&true)&&((m:Int)==(m:Int)&&(a==0&&(b==0&&(e==0&&(f==0&&(g==0&&(h==0&&(i==0&&(j==0&&true))))))))))))] [] ?_;refine cB (!(((3==3&&(ln==ln&&true))&&true)&&((m:Int)==(m:Int)&&(a==0&&(b==0&&(e==0&&(f==0&&(g==0&&(h==0&&(i==0&&(j==0&&true))))))))))) (λn=>?_) λn=>?_
 ·exact r0 [] [(2,.bool false)] [2] (ak (.bool false) ab.zero (by((try simp only[uV]);(repeat (first | rw[n] | rw[ALct])))<;>rfl) [] [] [])
 exact r0 [(1,.m (ld 0 (i6 3))),(4,.d),(5,.d),(6,.d),(7,.d),(8,.d),(9,.d),(10,.d),(11,.d),(12,.d),(13,.d)] [(2,.bool true)] [2] (ak (.bool true) ab.zero (by((try simp only[uV]);(repeat (first | rw[n] | rw[ALcf])))<;>rfl) [] [] [])
def uW(k j:Int)(d:List UInt8)(m:Nat)(a b c e f g h i:Int):Bool:=(bif !(((k==k&&(j==0&&true))&&decide (d=UZ 64 0))&&((m:Int)==0&&(a==0&&(b==0&&(c==0&&(e==0&&(f==0&&(g==0&&(h==0&&(i==0&&true)))))))))) then false else true)
theorem RY(k l:Int)(d:List UInt8)(m:Nat)(a b e f g h i j:Int)(p:d.length=64)(q:4≤k)(r:k≤7):aa U0 17 #[.agg (sV k l d m a b e f g h i j)] [] [] N0 (λ_=> .bool (uW k l d m a b e f g h i j)):=by
 refine fG Tryz.func17 λw cs=>ra (λn=>[(1,pt (B0 n) 0),(2,.bool false)]) (λn=>[ob (B0 n) (sV k l d m a b e f g h i j) 50]) λn=>r0 [(1,.m (ld 0 (i6 k))),(2,.t (tk (show Value.bool (decide (k<1))= .bool false from ALca Value.bool (by simp;omega)))),(5,.m (ld 0 (i6 k))),(6,.t (tk (show Value.bool (decide (8<k))= .bool false from ALca Value.bool (by simp;omega)))),(9,.m (ls 0 (sL k l d m a b e f g h i j))),(10,.m (ls 0 (sL k l d m a b e f g h i j))),(11,.c [] [] (RJ k l d m a b e f g h i j (by(simp only[LL,p,p];done)) Om Om)),(12,.t (gy 50 λ_ _ _=>iu (xs:=([i6 k,i6 l]:List Value)++rB 64 d++([u6 (m:Int),i6 a,i6 b,i6 e,i6 f,i6 g,i6 h,i6 i,i6 j]:List Value)) (ys:=([i6 k,i6 0]:List Value)++rB 64 z6++([u6 0,i6 0,i6 0,i6 0,i6 0,i6 0,i6 0,i6 0,i6 0]:List Value)) Kr (UN Kr Kr (UN Kr Kr a7 (ja p (show z6.length=64 by rfl))) a7)))] [(16,.bool (!(((k==k&&(l==0&&true))&&decide (d=UZ 64 0))&&((m:Int)==0&&(a==0&&(b==0&&(e==0&&(f==0&&(g==0&&(h==0&&(i==0&&(j==0&&true))))))))))))] [] ?_;refine cB (!(((k==k&&(l==0&&true))&&decide (d=UZ 64 0))&&((m:Int)==0&&(a==0&&(b==0&&(e==0&&(f==0&&(g==0&&(h==0&&(i==0&&(j==0&&true))))))))))) (λo=>?_) λo=>?_
 ·exact r0 [] [(2,.bool false)] [2] (ak (.bool false) ab.zero (by((try simp only[uW]);(repeat (first | rw[o] | rw[ALct])))<;>rfl) [] [] [])
 exact r0 [(1,.m (ld 0 (i6 k))),(2,.t (tk (show Value.bool (k != 8)= .bool true from ALca Value.bool (by rw[bne_iff_ne];omega)))),(4,.d),(5,.d),(6,.d),(7,.d),(8,.d),(9,.d),(10,.d),(11,.d),(12,.d),(13,.d)] [(2,.bool true)] [2] (ak (.bool true) ab.zero (by((try simp only[uW]);(repeat (first | rw[o] | rw[ALcf])))<;>rfl) [] [] [])
def uX(ln:Int)(d:List UInt8)(m:Nat)(a b c e g f h:Int):Bool:=(bif !(((8==8&&(ln==0&&true))&&decide (d=UZ 64 0))&&((m:Int)==0&&(1==1&&(a==a&&(b==b&&(c==c&&(e==e&&(g==0&&(f==f&&(h==0&&true)))))))))) then false else true)
theorem RZ(ln:Int)(d:List UInt8)(m:Nat)(a b e f h g i:Int)(l:d.length=64):aa U0 17 #[.agg (sV 8 ln d m 1 a b e f h g i)] [] [] N0 (λ_=> .bool (uX ln d m a b e f h g i)):=by
 refine fG Tryz.func17 λw cs=>ra (λj=>[(1,pt (B0 j) 0),(2,.bool false)]) (λj=>[ob (B0 j) (sV 8 ln d m 1 a b e f h g i) 50]) λj=>r0 [(1,.m (ld 0 (i6 8))),(5,.m (ld 0 (i6 8))),(9,.m (ls 0 (sL 8 ln d m 1 a b e f h g i))),(10,.m (ls 0 (sL 8 ln d m 1 a b e f h g i))),(11,.c [] [] (RK ln d m a b e f h g i (by(simp only[LL,l,l];done)))),(12,.t (gy 50 λ_ _ _=>iu (xs:=([i6 8,i6 ln]:List Value)++rB 64 d++([u6 (m:Int),i6 1,i6 a,i6 b,i6 e,i6 f,i6 h,i6 g,i6 i]:List Value)) (ys:=([i6 8,i6 0]:List Value)++rB 64 z6++([u6 0,i6 1,i6 a,i6 b,i6 e,i6 f,i6 0,i6 g,i6 0]:List Value)) Kr (UN Kr Kr (UN Kr Kr a7 (ja l (show z6.length=64 by rfl))) a7)))] [(16,.bool (!(((8==8&&(ln==0&&true))&&decide (d=UZ 64 0))&&((m:Int)==0&&(1==1&&(a==a&&(b==b&&(e==e&&(f==f&&(h==0&&(g==g&&(i==0&&true))))))))))))] [] ?_;refine cB (!(((8==8&&(ln==0&&true))&&decide (d=UZ 64 0))&&((m:Int)==0&&(1==1&&(a==a&&(b==b&&(e==e&&(f==f&&(h==0&&(g==g&&(i==0&&true))))))))))) (λk=>?_) λk=>?_
 ·exact r0 [] [(2,.bool false)] [2] (ak (.bool false) ab.zero (by((try simp only[uX]);(repeat (first | rw[k] | rw[ALct])))<;>rfl) [] [] [])
 exact r0 [(1,.m (ld 0 (i6 8))),(6,.m (ld 0 (i6 1))),(11,.m (ld 0 (i6 1))),] [(2,.bool true)] [2] (ak (.bool true) ab.zero (by((try simp only[uX]);(repeat (first | rw[k] | rw[ALcf])))<;>rfl) [] [] [])
def uY(ln:Int)(d:List UInt8)(m:Nat)(a b c e h f g:Int):Bool:=(bif !(((8==8&&(ln==0&&true))&&decide (d=UZ 64 0))&&((m:Int)==0&&(2==2&&(a==a&&(b==b&&(c==c&&(e==e&&(h==0&&(f==f&&(g==g&&true)))))))))) then false else true)
theorem R3(ln:Int)(d:List UInt8)(m:Nat)(a b e f i g h:Int)(l:d.length=64):aa U0 17 #[.agg (sV 8 ln d m 2 a b e f i g h)] [] [] N0 (λ_=> .bool (uY ln d m a b e f i g h)):=by
 refine fG Tryz.func17 λw cs=>ra (λj=>[(1,pt (B0 j) 0),(2,.bool false)]) (λj=>[ob (B0 j) (sV 8 ln d m 2 a b e f i g h) 50]) λj=>r0 [(1,.m (ld 0 (i6 8))),(5,.m (ld 0 (i6 8))),(9,.m (ls 0 (sL 8 ln d m 2 a b e f i g h))),(10,.m (ls 0 (sL 8 ln d m 2 a b e f i g h))),(11,.c [] [] (RL ln d m a b e f i g h (by(simp only[LL,l,l];done)))),(12,.t (gy 50 λ_ _ _=>iu (xs:=([i6 8,i6 ln]:List Value)++rB 64 d++([u6 (m:Int),i6 2,i6 a,i6 b,i6 e,i6 f,i6 i,i6 g,i6 h]:List Value)) (ys:=([i6 8,i6 0]:List Value)++rB 64 z6++([u6 0,i6 2,i6 a,i6 b,i6 e,i6 f,i6 0,i6 g,i6 h]:List Value)) Kr (UN Kr Kr (UN Kr Kr a7 (ja l (show z6.length=64 by rfl))) a7)))] [(16,.bool (!(((8==8&&(ln==0&&true))&&decide (d=UZ 64 0))&&((m:Int)==0&&(2==2&&(a==a&&(b==b&&(e==e&&(f==f&&(i==0&&(g==g&&(h==h&&true))))))))))))] [] ?_;refine cB (!(((8==8&&(ln==0&&true))&&decide (d=UZ 64 0))&&((m:Int)==0&&(2==2&&(a==a&&(b==b&&(e==e&&(f==f&&(i==0&&(g==g&&(h==h&&true))))))))))) (λk=>?_) λk=>?_
 ·exact r0 [] [(2,.bool false)] [2] (ak (.bool false) ab.zero (by((try simp only[uY]);(repeat (first | rw[k] | rw[ALct])))<;>rfl) [] [] [])
 exact r0 [(1,.m (ld 0 (i6 8))),(6,.m (ld 0 (i6 2))),(11,.m (ld 0 (i6 2))),] [(2,.bool true)] [2] (ak (.bool true) ab.zero (by((try simp only[uY]);(repeat (first | rw[k] | rw[ALcf])))<;>rfl) [] [] [])
def uZ(ln:Int)(d:List UInt8)(m:Nat)(a b c g e h f:Int):Bool:=(bif !(((8==8&&(ln==0&&true))&&decide (d=UZ 64 0))&&((m:Int)==0&&(3==3&&(a==a&&(b==b&&(c==c&&(g==0&&(e==e&&(h==0&&(f==f&&true)))))))))) then false else true)
theorem R4(ln:Int)(d:List UInt8)(m:Nat)(a b e h f i g:Int)(l:d.length=64):aa U0 17 #[.agg (sV 8 ln d m 3 a b e h f i g)] [] [] N0 (λ_=> .bool (uZ ln d m a b e h f i g)):=by
 refine fG Tryz.func17 λw cs=>ra (λj=>[(1,pt (B0 j) 0),(2,.bool false)]) (λj=>[ob (B0 j) (sV 8 ln d m 3 a b e h f i g) 50]) λj=>r0 [(1,.m (ld 0 (i6 8))),(5,.m (ld 0 (i6 8))),(9,.m (ls 0 (sL 8 ln d m 3 a b e h f i g))),(10,.m (ls 0 (sL 8 ln d m 3 a b e h f i g))),(11,.c [] [] (RM ln d m a b e h f i g (by(simp only[LL,l,l];done)))),(12,.t (gy 50 λ_ _ _=>iu (xs:=([i6 8,i6 ln]:List Value)++rB 64 d++([u6 (m:Int),i6 3,i6 a,i6 b,i6 e,i6 h,i6 f,i6 i,i6 g]:List Value)) (ys:=([i6 8,i6 0]:List Value)++rB 64 z6++([u6 0,i6 3,i6 a,i6 b,i6 e,i6 0,i6 f,i6 0,i6 g]:List Value)) Kr (UN Kr Kr (UN Kr Kr a7 (ja l (show z6.length=64 by rfl))) a7)))] [(16,.bool (!(((8==8&&(ln==0&&true))&&decide (d=UZ 64 0))&&((m:Int)==0&&(3==3&&(a==a&&(b==b&&(e==e&&(h==0&&(f==f&&(i==0&&(g==g&&true))))))))))))] [] ?_;refine cB (!(((8==8&&(ln==0&&true))&&decide (d=UZ 64 0))&&((m:Int)==0&&(3==3&&(a==a&&(b==b&&(e==e&&(h==0&&(f==f&&(i==0&&(g==g&&true))))))))))) (λk=>?_) λk=>?_
 ·exact r0 [] [(2,.bool false)] [2] (ak (.bool false) ab.zero (by((try simp only[uZ]);(repeat (first | rw[k] | rw[ALct])))<;>rfl) [] [] [])
 exact r0 [(1,.m (ld 0 (i6 8))),(6,.m (ld 0 (i6 3))),(11,.m (ld 0 (i6 3))),] [(2,.bool true)] [2] (ak (.bool true) ab.zero (by((try simp only[uZ]);(repeat (first | rw[k] | rw[ALcf])))<;>rfl) [] [] [])
def u0(ln:Int)(d:List UInt8)(m:Nat)(a b g c e h f:Int):Bool:=(bif !(((8==8&&(ln==0&&true))&&decide (d=UZ 64 0))&&((m:Int)==0&&(4==4&&(a==a&&(b==b&&(g==0&&(c==c&&(e==e&&(h==0&&(f==f&&true)))))))))) then false else true)
theorem R5(ln:Int)(d:List UInt8)(m:Nat)(a b h e f i g:Int)(l:d.length=64):aa U0 17 #[.agg (sV 8 ln d m 4 a b h e f i g)] [] [] N0 (λ_=> .bool (u0 ln d m a b h e f i g)):=by
 refine fG Tryz.func17 λw cs=>ra (λj=>[(1,pt (B0 j) 0),(2,.bool false)]) (λj=>[ob (B0 j) (sV 8 ln d m 4 a b h e f i g) 50]) λj=>r0 [(1,.m (ld 0 (i6 8))),(5,.m (ld 0 (i6 8))),(9,.m (ls 0 (sL 8 ln d m 4 a b h e f i g))),(10,.m (ls 0 (sL 8 ln d m 4 a b h e f i g))),(11,.c [] [] (RN ln d m a b h e f i g (by(simp only[LL,l,l];done)))),(12,.t (gy 50 λ_ _ _=>iu (xs:=([i6 8,i6 ln]:List Value)++rB 64 d++([u6 (m:Int),i6 4,i6 a,i6 b,i6 h,i6 e,i6 f,i6 i,i6 g]:List Value)) (ys:=([i6 8,i6 0]:List Value)++rB 64 z6++([u6 0,i6 4,i6 a,i6 b,i6 0,i6 e,i6 f,i6 0,i6 g]:List Value)) Kr (UN Kr Kr (UN Kr Kr a7 (ja l (show z6.length=64 by rfl))) a7)))] [(16,.bool (!(((8==8&&(ln==0&&true))&&decide (d=UZ 64 0))&&((m:Int)==0&&(4==4&&(a==a&&(b==b&&(h==0&&(e==e&&(f==f&&(i==0&&(g==g&&true))))))))))))] [] ?_;refine cB (!(((8==8&&(ln==0&&true))&&decide (d=UZ 64 0))&&((m:Int)==0&&(4==4&&(a==a&&(b==b&&(h==0&&(e==e&&(f==f&&(i==0&&(g==g&&true))))))))))) (λk=>?_) λk=>?_
 ·exact r0 [] [(2,.bool false)] [2] (ak (.bool false) ab.zero (by((try simp only[u0]);(repeat (first | rw[k] | rw[ALct])))<;>rfl) [] [] [])
 exact r0 [(1,.m (ld 0 (i6 8))),(6,.m (ld 0 (i6 4))),(11,.m (ld 0 (i6 4))),] [(2,.bool true)] [2] (ak (.bool true) ab.zero (by((try simp only[u0]);(repeat (first | rw[k] | rw[ALcf])))<;>rfl) [] [] [])
def u2(ln:Int)(d:List UInt8)(m:Nat)(a e f g b h c:Int):Bool:=(bif !(((8==8&&(ln==0&&true))&&decide (d=UZ 64 0))&&((m:Int)==0&&(5==5&&(a==a&&(e==0&&(f==0&&(g==0&&(b==b&&(h==0&&(c==c&&true)))))))))) then false else true)
theorem R6(ln:Int)(d:List UInt8)(m:Nat)(a f g h b i e:Int)(l:d.length=64):aa U0 17 #[.agg (sV 8 ln d m 5 a f g h b i e)] [] [] N0 (λ_=> .bool (u2 ln d m a f g h b i e)):=by
 refine fG Tryz.func17 λw cs=>ra (λj=>[(1,pt (B0 j) 0),(2,.bool false)]) (λj=>[ob (B0 j) (sV 8 ln d m 5 a f g h b i e) 50]) λj=>r0 [(1,.m (ld 0 (i6 8))),(5,.m (ld 0 (i6 8))),(9,.m (ls 0 (sL 8 ln d m 5 a f g h b i e))),(10,.m (ls 0 (sL 8 ln d m 5 a f g h b i e))),(11,.c [] [] (RO ln d m a f g h b i e (by(simp only[LL,l,l];done)))),(12,.t (gy 50 λ_ _ _=>iu (xs:=([i6 8,i6 ln]:List Value)++rB 64 d++([u6 (m:Int),i6 5,i6 a,i6 f,i6 g,i6 h,i6 b,i6 i,i6 e]:List Value)) (ys:=([i6 8,i6 0]:List Value)++rB 64 z6++([u6 0,i6 5,i6 a,i6 0,i6 0,i6 0,i6 b,i6 0,i6 e]:List Value)) Kr (UN Kr Kr (UN Kr Kr a7 (ja l (show z6.length=64 by rfl))) a7)))] [(16,.bool (!(((8==8&&(ln==0&&true))&&decide (d=UZ 64 0))&&((m:Int)==0&&(5==5&&(a==a&&(f==0&&(g==0&&(h==0&&(b==b&&(i==0&&(e==e&&true))))))))))))] [] ?_;refine cB (!(((8==8&&(ln==0&&true))&&decide (d=UZ 64 0))&&((m:Int)==0&&(5==5&&(a==a&&(f==0&&(g==0&&(h==0&&(b==b&&(i==0&&(e==e&&true))))))))))) (λk=>?_) λk=>?_
 ·exact r0 [] [(2,.bool false)] [2] (ak (.bool false) ab.zero (by((try simp only[u2]);(repeat (first | rw[k] | rw[ALct])))<;>rfl) [] [] [])
 exact r0 [(1,.m (ld 0 (i6 8))),(6,.m (ld 0 (i6 5))),(11,.m (ld 0 (i6 5))),] [(2,.bool true)] [2] (ak (.bool true) ab.zero (by((try simp only[u2]);(repeat (first | rw[k] | rw[ALcf])))<;>rfl) [] [] [])
def u3(ln:Int)(d:List UInt8)(m:Nat)(a b c e f g h:Int):Bool:=(bif !(((8==8&&(ln==0&&true))&&decide (d=UZ 64 0))&&((m:Int)==0&&(6==6&&(a==a&&(b==b&&(c==c&&(e==e&&(f==0&&(g==0&&(h==0&&true)))))))))) then false else true)
theorem R7(ln:Int)(d:List UInt8)(m:Nat)(a b e f g h i:Int)(l:d.length=64):aa U0 17 #[.agg (sV 8 ln d m 6 a b e f g h i)] [] [] N0 (λ_=> .bool (u3 ln d m a b e f g h i)):=by
 refine fG Tryz.func17 λw cs=>ra (λj=>[(1,pt (B0 j) 0),(2,.bool false)]) (λj=>[ob (B0 j) (sV 8 ln d m 6 a b e f g h i) 50]) λj=>r0 [(1,.m (ld 0 (i6 8))),(5,.m (ld 0 (i6 8))),(9,.m (ls 0 (sL 8 ln d m 6 a b e f g h i))),(10,.m (ls 0 (sL 8 ln d m 6 a b e f g h i))),(11,.c [] [] (RP ln d m a b e f g h i (by(simp only[LL,l,l];done)))),(12,.t (gy 50 λ_ _ _=>iu (xs:=([i6 8,i6 ln]:List Value)++rB 64 d++([u6 (m:Int),i6 6,i6 a,i6 b,i6 e,i6 f,i6 g,i6 h,i6 i]:List Value)) (ys:=([i6 8,i6 0]:List Value)++rB 64 z6++([u6 0,i6 6,i6 a,i6 b,i6 e,i6 f,i6 0,i6 0,i6 0]:List Value)) Kr (UN Kr Kr (UN Kr Kr a7 (ja l (show z6.length=64 by rfl))) a7)))] [(16,.bool (!(((8==8&&(ln==0&&true))&&decide (d=UZ 64 0))&&((m:Int)==0&&(6==6&&(a==a&&(b==b&&(e==e&&(f==f&&(g==0&&(h==0&&(i==0&&true))))))))))))] [] ?_;refine cB (!(((8==8&&(ln==0&&true))&&decide (d=UZ 64 0))&&((m:Int)==0&&(6==6&&(a==a&&(b==b&&(e==e&&(f==f&&(g==0&&(h==0&&(i==0&&true))))))))))) (λk=>?_) λk=>?_
 ·exact r0 [] [(2,.bool false)] [2] (ak (.bool false) ab.zero (by((try simp only[u3]);(repeat (first | rw[k] | rw[ALct])))<;>rfl) [] [] [])
 exact r0 [(1,.m (ld 0 (i6 8))),(6,.m (ld 0 (i6 6))),(11,.m (ld 0 (i6 6))),] [(2,.bool true)] [2] (ak (.bool true) ab.zero (by((try simp only[u3]);(repeat (first | rw[k] | rw[ALcf])))<;>rfl) [] [] [])
def u4(ln:Int)(d:List UInt8)(m:Nat)(a b c e f g h:Int):Bool:=(bif !(((8==8&&(ln==0&&true))&&decide (d=UZ 64 0))&&((m:Int)==0&&(7==7&&(a==0&&(b==0&&(c==0&&(e==0&&(f==0&&(g==0&&(h==0&&true)))))))))) then false else true)
theorem R8(ln:Int)(d:List UInt8)(m:Nat)(a b e f g h i:Int)(l:d.length=64):aa U0 17 #[.agg (sV 8 ln d m 7 a b e f g h i)] [] [] N0 (λ_=> .bool (u4 ln d m a b e f g h i)):=by
 refine fG Tryz.func17 λw cs=>ra (λj=>[(1,pt (B0 j) 0),(2,.bool false)]) (λj=>[ob (B0 j) (sV 8 ln d m 7 a b e f g h i) 50]) λj=>r0 [(1,.m (ld 0 (i6 8))),(5,.m (ld 0 (i6 8))),(9,.m (ls 0 (sL 8 ln d m 7 a b e f g h i))),(10,.m (ls 0 (sL 8 ln d m 7 a b e f g h i))),(11,.c [] [] (RQ ln d m a b e f g h i (by(simp only[LL,l,l];done)))),(12,.t (gy 50 λ_ _ _=>iu (xs:=([i6 8,i6 ln]:List Value)++rB 64 d++([u6 (m:Int),i6 7,i6 a,i6 b,i6 e,i6 f,i6 g,i6 h,i6 i]:List Value)) (ys:=([i6 8,i6 0]:List Value)++rB 64 z6++([u6 0,i6 7,i6 0,i6 0,i6 0,i6 0,i6 0,i6 0,i6 0]:List Value)) Kr (UN Kr Kr (UN Kr Kr a7 (ja l (show z6.length=64 by rfl))) a7)))] [(16,.bool (!(((8==8&&(ln==0&&true))&&decide (d=UZ 64 0))&&((m:Int)==0&&(7==7&&(a==0&&(b==0&&(e==0&&(f==0&&(g==0&&(h==0&&(i==0&&true))))))))))))] [] ?_;refine cB (!(((8==8&&(ln==0&&true))&&decide (d=UZ 64 0))&&((m:Int)==0&&(7==7&&(a==0&&(b==0&&(e==0&&(f==0&&(g==0&&(h==0&&(i==0&&true))))))))))) (λk=>?_) λk=>?_
 ·exact r0 [] [(2,.bool false)] [2] (ak (.bool false) ab.zero (by((try simp only[u4]);(repeat (first | rw[k] | rw[ALct])))<;>rfl) [] [] [])
 exact r0 [(1,.m (ld 0 (i6 8))),(6,.m (ld 0 (i6 7))),(11,.m (ld 0 (i6 7))),] [(2,.bool true)] [2] (ak (.bool true) ab.zero (by((try simp only[u4]);(repeat (first | rw[k] | rw[ALcf])))<;>rfl) [] [] [])
def u5(ln:Int)(d:List UInt8)(m:Nat)(a b c e f g h i:Int):Bool:=(bif !(((8==8&&(ln==0&&true))&&decide (d=UZ 64 0))&&((m:Int)==0&&(a==a&&(b==0&&(c==0&&(e==0&&(f==0&&(g==0&&(h==0&&(i==0&&true)))))))))) then false else(decide (1≤a))&&(decide (a≤7)))
theorem R9(ln:Int)(d:List UInt8)(m:Nat)(a b e f g h i j:Int)(n:d.length=64)(o:a<1∨7<a):aa U0 17 #[.agg (sV 8 ln d m a b e f g h i j)] [] [] N0 (λ_=> .bool (u5 ln d m a b e f g h i j)):=by
 refine fG Tryz.func17 λw cs=>ra (λk=>[(1,pt (B0 k) 0),(2,.bool false)]) (λk=>[ob (B0 k) (sV 8 ln d m a b e f g h i j) 50]) λk=>r0 [(1,.m (ld 0 (i6 8))),(5,.m (ld 0 (i6 8))),(9,.m (ls 0 (sL 8 ln d m a b e f g h i j))),(10,.m (ls 0 (sL 8 ln d m a b e f g h i j))),(11,.c [] [] (RR ln d m a b e f g h i j (by(simp only[LL,n,n];done)) Om)),(12,.t (gy 50 λ_ _ _=>iu (xs:=([i6 8,i6 ln]:List Value)++rB 64 d++([u6 (m:Int),i6 a,i6 b,i6 e,i6 f,i6 g,i6 h,i6 i,i6 j]:List Value)) (ys:=([i6 8,i6 0]:List Value)++rB 64 z6++([u6 0,i6 a,i6 0,i6 0,i6 0,i6 0,i6 0,i6 0,i6 0]:List Value)) Kr (UN Kr Kr (UN Kr Kr a7 (ja n (show z6.length=64 by rfl))) a7)))] [(16,.bool (!(((8==8&&(ln==0&&true))&&decide (d=UZ 64 0))&&((m:Int)==0&&(a==a&&(b==0&&(e==0&&(f==0&&(g==0&&(h==0&&(i==0&&(j==0&&true))))))))))))] [] ?_;refine cB (!(((8==8&&(ln==0&&true))&&decide (d=UZ 64 0))&&((m:Int)==0&&(a==a&&(b==0&&(e==0&&(f==0&&(g==0&&(h==0&&(i==0&&(j==0&&true))))))))))) (λl=>?_) λl=>?_
 ·exact r0 [] [(2,.bool false)] [2] (ak (.bool false) ab.zero (by((try simp only[u5]);(repeat (first | rw[l] | rw[ALct])))<;>rfl) [] [] [])
 exact r0 [(1,.m (ld 0 (i6 8))),(6,.m (ld 0 (i6 a))),(11,.m (ld 0 (i6 a))),] [(2,.bool ((decide (1≤a))&&(decide (a≤7))))] [2] (ak (.bool ((decide (1≤a))&&(decide (a≤7)))) ab.zero (by((try simp only[u5]);(repeat (first | rw[l] | rw[ALcf])))<;>rfl) [] [] [])
def dw(k j:Int)(d:List UInt8)(m:Nat)(a b c e f g h i:Int):Bool:=
 if k<1 then false else if 8<k then false else if k=1 then uS j d m a b c e f g h i else if k=2 then uU j m a b c e f g h i else if k=3 then uV j m a b c e f g h i else if k≤7 then uW k j d m a b c e f g h i else if a=1 then uX j d m b c e f g h i else if a=2 then uY j d m b c e f g h i else if a=3 then uZ j d m b c e f g h i else if a=4 then u0 j d m b c e f g h i else if a=5 then u2 j d m b c e f g h i else if a=6 then u3 j d m b c e f g h i else if a=7 then u4 j d m b c e f g h i else u5 j d m a b c e f g h i
def sR(s:St):Bool:=dw s.k s.ln s.d s.m s.f0 s.f1 s.f2 s.f3 s.f4 s.f5 s.f6 s.f7
theorem Sa{s:St}(h:sR s=true):1≤s.k∧s.k≤8:=by
 unfold sR dw at h;by_cases a:s.k<1
 ·rw[ALifp a] at h;cases h
 ·rw[ALifn a] at h;by_cases b:8<s.k
  ·rw[ALifp b] at h;cases h
  ·omega
theorem jo(k j:Int)(d:List UInt8)(m:Nat)(a b c e f g h i:Int)(l:d.length=64):aa U0 17 #[.agg ([i6 k,i6 j]++rB 64 d++[u6 (m:Int),i6 a,i6 b,i6 c,i6 e,i6 f,i6 g,i6 h,i6 i]).toArray] [] [] N0 (λ_=> .bool (dw k j d m a b c e f g h i)):=by
 unfold dw;by_cases n:k<1
 ·rw[ALifp n];exact RS k j d m a b c e f g h i l n
 rw[ALifn n];by_cases o:8<k
 ·rw[ALifp o];exact RT k j d m a b c e f g h i l o
 rw[ALifn o];by_cases x:k=1
 ·subst x;rw[ALifp rfl];exact RU j d m a b c e f g h i l
 rw[ALifn x];by_cases y:k=2
 ·subst y;rw[ALifp rfl];exact RW j d m a b c e f g h i l
 rw[ALifn y];by_cases z:k=3
 ·subst z;rw[ALifp rfl];exact RX j d m a b c e f g h i l
 rw[ALifn z];by_cases p:k≤7
 ·rw[ALifp p];exact RY k j d m a b c e f g h i l Om p
 rw[ALifn p];obtain rfl:k=8:=by omega
 by_cases q:a=1
 ·subst q;rw[ALifp rfl];exact RZ j d m b c e f g h i l
 rw[ALifn q];by_cases r:a=2
 ·subst r;rw[ALifp rfl];exact R3 j d m b c e f g h i l
 rw[ALifn r];by_cases s:a=3
 ·subst s;rw[ALifp rfl];exact R4 j d m b c e f g h i l
 rw[ALifn s];by_cases t:a=4
 ·subst t;rw[ALifp rfl];exact R5 j d m b c e f g h i l
 rw[ALifn t];by_cases u:a=5
 ·subst u;rw[ALifp rfl];exact R6 j d m b c e f g h i l
 rw[ALifn u];by_cases v:a=6
 ·subst v;rw[ALifp rfl];exact R7 j d m b c e f g h i l
 rw[ALifn v];by_cases w:a=7
 ·subst w;rw[ALifp rfl];exact R8 j d m b c e f g h i l
 rw[ALifn w];exact R9 j d m a b c e f g h i l Om
theorem rO{α:Type}{en:α→List Value}{d:α}{A C:List Value}{a off m:Nat}{ys:List α}{t:TypeId}(h1: ∀x,(en x).length=1)(hA:A.length=off)(h:ys.length=m):aJ en (.slice (some ⟨a,off,none⟩) m m) ys [(a,.cells ((A++cv en d m ys++C).toArray) t (0,0))]:=by
 have e:((A++cv en d m ys++C).drop off).take (aj en ys).length=aj en ys:=by rw[kd h,Vh,←hA,List.drop_left,List.take_left]
 exact⟨.inr ⟨a,off,_,t,(0,0),m,by rw[h],List.mem_singleton.2 rfl,e⟩,some ⟨a,off,none⟩,0,by rw[h];rfl⟩
theorem rP{P:Program}{T:TypeId}{w:World}{g off s N:Nat}(a:(P.underlying T,P.arrayLen T,ir P (P.elem T))=(some (.array N (P.elem T)),N,some s))(c:0<N):(Instr.sliceAt T (.pointer (some ⟨g,off,none⟩)) none none none).run P w= .ok (.slice (some ⟨g,off,none⟩) N N) w:=by
 have b:P.arrayLen T=N:=ALca (·.2.1) a;rw[run_sliceAt_array_all w T ⟨g,off,none⟩ (by rw[b];exact ALca (·.1) a),ng (ALca (·.2.2) a),VV];unfold slicedAt;rw[b,add_lit,VC,ALifn Om];rfl
structure Ij where
 x0:Int
 x1:Int
 x2:Int
 x3:Int
 x4:Int
 x5:Int
 x6:Int
 x7:Int
 sc:Nat
 ac:Nat
def Sb:Ij:=⟨0,0,0,0,0,0,0,0,0,0⟩
def EI(x:Ij):List Value:=[i6 x.x0,i6 x.x1,i6 x.x2,i6 x.x3,i6 x.x4,i6 x.x5,i6 x.x6,i6 x.x7,iN x.sc,iN x.ac]
def Sc:Kd U0 Ij:=⟨EI,[i6 0,i6 0,i6 0,i6 0,i6 0,i6 0,i6 0,i6 0,i6 0,i6 0],111,187,Sb,10,λ_=>rfl,rfl,λ_=>rfl,dS.mk' Kr Kr rfl⟩
abbrev fM(v:Value)(xs:List Ij):aB:= .p (ao EI ([i6 0,i6 0,i6 0,i6 0,i6 0,i6 0,i6 0,i6 0,i6 0,i6 0]) 187 v xs)
structure Sv where
 k:Int
 ln:Int
 d:List UInt8
 m:Nat
 f0:Int
 f1:Int
 f2:Int
 f3:Int
 f4:Int
 f5:Int
 f6:Int
 f7:Int
 e:Int
 n:Int
 l:List UInt8
 w:List UInt8
 fi:Nat
 la:Nat
def yu:Sv:=⟨0,0,UZ 64 0,0,0,0,0,0,0,0,0,0,0,0,UZ 64 0,UZ 64 0,0,0⟩
def EJ(x:Sv):List Value:=[i6 x.k,i6 x.ln]++rB 64 x.d++[u6 (x.m:Int),i6 x.f0,i6 x.f1,i6 x.f2,i6 x.f3,i6 x.f4,i6 x.f5,i6 x.f6,i6 x.f7,i6 x.e,i6 x.n]++rB 64 x.l++rB 64 x.w++[iN x.fi,iN x.la]
def yv:Kd U0 Sv:=⟨EJ,[i6 0,i6 0]++UZ 64 (u1 0)++[u6 0,i6 0,i6 0,i6 0,i6 0,i6 0,i6 0,i6 0,i6 0,i6 0,i6 0]++UZ 64 (u1 0)++UZ 64 (u1 0)++[i6 0,i6 0],112,149,yu,207,λ_=>rfl,rfl,λ_=>rfl,dS.mk' Kr Kr rfl⟩
abbrev c7(v:Value)(xs:List Sv):aB:= .p (ao EJ ([i6 0,i6 0]++UZ 64 (u1 0)++[u6 0,i6 0,i6 0,i6 0,i6 0,i6 0,i6 0,i6 0,i6 0,i6 0,i6 0]++UZ 64 (u1 0)++UZ 64 (u1 0)++[i6 0,i6 0]) 149 v xs)
structure Mc where
 x:Ct
 id:Int→List UInt8
 inj:List Ij
 sv:List Sv
 sc:Nat
 st:Nat
def oQ:List UInt8:=UZ 64 0
def u7(r:List UInt8):Value:= .agg (rB 64 r).toArray
abbrev cM(f:Int→List UInt8)(g:Nat):aB:= .p (kM u7 oQ f g)
abbrev a6(g a i m j l h n f b e k:Nat)(c:Cf)(x:Mc)(L:ah):Prop:=∃(gi:Nat) (d vs:Value),L=[ob g #[pt b 0,pt a 0,.map (some gi),d,vs,iN x.sc,iN x.st] 114,pk (aT a i m j l h n f b e k c x.x),cM x.id gi,fM d x.inj,c7 vs x.sv]
structure eH (c:Cf) (x:Mc) (K A N:Nat):Prop where
 ct:bI c x.x K A
 il: ∀k,(x.id k).length=64
 jl:x.inj.length≤N
 sl:x.sv.length≤N
 sc:x.sc≤N
 st:x.st≤N
theorem kA(d h l i k g m f a b j:Nat)(c:Cf)(x:Ct):aa U0 42 #[pt a 0] [pk (aT d h l i k g m f a b j c x)] [0] (λ_=>[pk (aT d h l i k g m f a b j c x)]) (λ_=>iN x.V.l.length):=
 aa.inW (QG a b c x.V) λL ⟨v,e⟩=>⟨6,by rw[e];rfl,v,by rw[e];rfl⟩
theorem Sd(g j n k m i o h a b l:Nat)(c:Cf)(x:Ct)(d:dd c)(p:mX c x.V)(f:Fa):aa U0 90 #[pt a 0,.agg #[i6 f.x0,i6 f.x1,i6 f.x2,i6 f.x3,i6 f.x4,i6 f.x5,i6 f.x6,i6 f.x7]] [pk (aT g j n k m i o h a b l c x)] [0] (λ_=>[pk (aT g j n k m i o h a b l c {x with V:=mY c x.V f})]) (λ_=>i6 (gH c x.V.D f)):=
 aa.inW (QH a b c d x.V p f) λL ⟨v,e⟩=>⟨6,by rw[e];rfl,v,by rw[e];rfl⟩
theorem EK(v:Nat):cd v≠30:=by unfold cd;cases (v:Int)==3<;>cases (v:Int)==2<;>decide
theorem EL(c:Cf)(x:Ct)(n m:Nat)(a:m≠0):cq c x n m≠30:=by
 unfold cq;rw[show((m:Int)==0)=false from dR.2 Om];cases decide (pc m=64)
 ·cases hv: !(cd (bM c x (bc x n))==0)
  ·show(0:Int)≠30;decide
  ·exact EK _
 ·show(0:Int)≠30;decide
def EM(s:St)(e:Int)(l w:List UInt8)(a b:Nat):Sv:=⟨s.k,s.ln,s.d,s.m,s.f0,s.f1,s.f2,s.f3,s.f4,s.f5,s.f6,s.f7,e,0,l,w,a,b⟩
def EN(c:Cf)(x:Mc)(n:Nat)(s:St):Mc:={x with x:=cO c x.x n c.W,sv:=x.sv++[EM s (cd (bM c x.x (bc x.x n))) (cN c x.x (bc x.x n)) (x.id (n:Int)) x.x.V.l.length (cO c x.x n c.W).V.l.length]}
def u9(c:Cf)(x:Mc)(n m:Nat)(s:St):Mc:={x with x:=bG c x.x n s.d m,id:=dM x.id (n:Int) (ig (x.id (n:Int)) s.d m),sv:=x.sv++[EM s (cq c x.x n m) z6 (x.id (n:Int)) x.x.V.l.length (bG c x.x n s.d m).V.l.length]}
theorem Se(g q D I F H C J B r z G:Nat)(c:Cf)(y:Ct)(K A:Nat)(h:bI c y K A)(hA:A≤700000)(O:K+3≤1000000000)(n:Nat)(R:n<((c.R*c.B*c.M-c.res)*c.C))(d:List UInt8)(T:d.length=64)(m:Nat)(a b e f i j o p:Int)(id:Int→List UInt8)(Q: ∀k,(id k).length=64)(sv:List Sv)(S:sv.length≤1000)(sc st u:Nat)(N vs:Value):aa U0 54 #[pt g 0,.agg (sV 1 (n:Int) d m a b e f i j o p)] [ob g #[pt r 0,pt q 0,.map (some u),N,vs,iN sc,iN st] 114,pk (aT q D I F H C J B r z G c y),cM id u,c7 vs sv] [0,1,2,3] (λE=>[ob g #[pt r 0,pt q 0,.map (some u),N,(E.val 0),iN sc,iN st] 114,pk (aT q D I F H C J B r z G c (cO c y n c.W)),cM id u,c7 (E.val 0) (sv++([(⟨1,(n:Int),d,m,a,b,e,f,i,j,o,p,(cd (bM c y (bc y n))),0,cN c y (bc y n),(id (n:Int)),y.V.l.length,(cO c y n c.W).V.l.length⟩:Sv)]))]) (λ_=> .agg (([i6 (cd (bM c y (bc y n))),i6 0]:List Value)++rB 64 (cN c y (bc y n))).toArray):=by
 have P:=h.cf;exact fG Tryz.func54 λw cs=>ra (λx=>[(3,pt (B0 x) 0),(4,pt (B1 x) 0)]) (λx=>[ob (B0 x) (sV 1 (n:Int) d m a b e f i j o p) 50,ob (B1 x) (([i6 0,i6 0]:List Value)++rB 64 z6).toArray 53]) λx=>rr (λ_=>[(0,.m (ls 4 (sL 1 (n:Int) d m a b e f i j o p))),(4,.m (ld 0 (.map (some u)))),(6,.m (ld 4 (iN n))),(7,.m (mg 2 (cM id u) u (n:Int) (λ_ h=>h))),(11,.m (ld 0 (pt r 0))),(12,.c [1] [1] (kA q D I F H C J B r z G c y)),(14,.m (al 6)),(15,.s 6)]) (λM=>[(5,pt ((M 14).y 0) 0)]) [] (λM L=>L++[ob ((M 14).y 0) (([i6 1,iN n]:List Value)++rB 64 d++([u6 (m:Int),i6 a,i6 b,i6 e,i6 f,i6 i,i6 j,i6 o,i6 p,i6 0,i6 0]:List Value)++rB 64 z6++rB 64 (id (n:Int))++([iN y.V.l.length,i6 0]:List Value)).toArray 149]) λM=>r0 [(1,.l 4)] [(21,i6 1)] [] (rT [] 35 (rr (λ_=>[(3,.m (ld 0 (pt q 0))),(5,.m (ld 4 (iN n))),(6,.c [1] [1] (Rj q D I F H C J B r z G c y _ _ h hA O n R)),(12,.s 6),(15,.s 6)]) N0 [] (λ_ L=>(L.set 1 ((pk (aT q D I F H C J B r z G c (cO c y n c.W))))).set 6 (ob ((M 14).y 0) (([i6 1,iN n]:List Value)++rB 64 d++([u6 (m:Int),i6 a,i6 b,i6 e,i6 f,i6 i,i6 j,i6 o,i6 p,i6 (cd (bM c y (bc y n))),i6 0]:List Value)++rB 64 (cN c y (bc y n))++rB 64 (id (n:Int))++([iN y.V.l.length,i6 0]:List Value)).toArray 149)) λU=>rF [(2,.l 6),(3,.t (tk (show Value.bool ((cd (bM c y (bc y n)))==30)= .bool false from ALca Value.bool (by exact dR.2 (EK _)))))] 68 (rF [(1,.l 4)] 73 (rs [(3,.l 0),(4,.c [1] [1] (kA q D I F H C J B r z G c (cO c y n c.W))),(6,.s 6)] 6 (ob ((M 14).y 0) (([i6 1,iN n]:List Value)++rB 64 d++([u6 (m:Int),i6 a,i6 b,i6 e,i6 f,i6 i,i6 j,i6 o,i6 p,i6 (cd (bM c y (bc y n))),i6 0]:List Value)++rB 64 (cN c y (bc y n))++rB 64 (id (n:Int))++([iN y.V.l.length,i6 (((cO c y n c.W).V.l.length:Nat):Int)]:List Value)).toArray 149) (rr (λv=>[(4,.l 0),(5,.l 6),(6,.m (bs 7 1)),(7,eX yv (vs) sv 3 7 ([(⟨1,(n:Int),d,m,a,b,e,f,i,j,o,p,(cd (bM c y (bc y n))),0,cN c y (bc y n),(id (n:Int)),y.V.l.length,(cO c y n c.W).V.l.length⟩:Sv)])),(10,.m (e6 0 3 (c7 ((v 7).val 0) (sv++([(⟨1,(n:Int),d,m,a,b,e,f,i,j,o,p,(cd (bM c y (bc y n))),0,cN c y (bc y n),(id (n:Int)),y.V.l.length,(cO c y n c.W).V.l.length⟩:Sv)]))) ((v 7).val 0) λbs h=>ao.one ((λ_ h=>h) bs h)))]) N0 [] (λv L=>(L.set 0 (ob g #[pt r 0,pt q 0,.map (some u),N,(v 7).val 0,iN sc,iN st] 114)).set 3 (c7 ((v 7).val 0) (sv++([(⟨1,(n:Int),d,m,a,b,e,f,i,j,o,p,(cd (bM c y (bc y n))),0,cN c y (bc y n),(id (n:Int)),y.V.l.length,(cO c y n c.W).V.l.length⟩:Sv)])))++[ob (B6 v) (([i6 1,iN n]:List Value)++rB 64 d++([u6 (m:Int),i6 a,i6 b,i6 e,i6 f,i6 i,i6 j,i6 o,i6 p,i6 (cd (bM c y (bc y n))),i6 0]:List Value)++rB 64 (cN c y (bc y n))++rB 64 (id (n:Int))++([iN y.V.l.length,i6 (((cO c y n c.W).V.l.length:Nat):Int)]:List Value)).toArray 149]) λv=>rs [(1,.l 6),(2,.s 5)] 5 (ob (B1 x) (([i6 (cd (bM c y (bc y n))),i6 0]:List Value)++rB 64 (cN c y (bc y n))).toArray 53) (lf (.l [] [] [(v 7).val 0]) [0,1,2,3] [] [5]))))))
theorem Sf(g a C H D G B I z b x F:Nat)(c:Cf)(y:Ct)(K A:Nat)(h:bI c y K A)(hA:A≤700000)(Q:K+3≤1000000000)(n:Int)(O:bR n ((((c.R*c.B*c.M-c.res)*c.C):Nat):Int)=false)(d:List UInt8)(R:d.length=64)(m:Nat)(i j o p q r t u:Int)(id:Int→List UInt8)(N: ∀k,(id k).length=64)(sv:List Sv)(P:sv.length≤1000)(sc st e:Nat)(J vs:Value):aa U0 54 #[pt g 0,.agg (sV 1 n d m i j o p q r t u)] [ob g #[pt b 0,pt a 0,.map (some e),J,vs,iN sc,iN st] 114,pk (aT a C H D G B I z b x F c y),cM id e,c7 vs sv] [0,1,2,3] (λ_=>[ob g #[pt b 0,pt a 0,.map (some e),J,vs,iN sc,iN st] 114,pk (aT a C H D G B I z b x F c y),cM id e,c7 vs sv]) (λ_=> .agg (([i6 30,i6 0]:List Value)++rB 64 z6).toArray):=by
 have M:=h.cf;exact fG Tryz.func54 λw cs=>ra (λf=>[(3,pt (B0 f) 0),(4,pt (B1 f) 0)]) (λf=>[ob (B0 f) (sV 1 n d m i j o p q r t u) 50,ob (B1 f) (([i6 0,i6 0]:List Value)++rB 64 z6).toArray 53]) λf=>rr (λ_=>[(0,.m (ls 4 (sL 1 n d m i j o p q r t u))),(4,.m (ld 0 (.map (some e)))),(6,.m (ld 4 (i6 n))),(7,.m (mg 2 (cM id e) e n (λ_ h=>h))),(11,.m (ld 0 (pt b 0))),(12,.c [1] [1] (kA a C H D G B I z b x F c y)),(14,.m (al 6)),(15,.s 6)]) (λv=>[(5,pt ((v 14).y 0) 0)]) [] (λv L=>L++[ob ((v 14).y 0) (([i6 1,i6 n]:List Value)++rB 64 d++([u6 (m:Int),i6 i,i6 j,i6 o,i6 p,i6 q,i6 r,i6 t,i6 u,i6 0,i6 0]:List Value)++rB 64 z6++rB 64 (id n)++([iN y.V.l.length,i6 0]:List Value)).toArray 149]) λv=>r0 [(1,.l 4)] [(21,i6 1)] [] (rT [] 35 (rs [(3,.m (ld 0 (pt a 0))),(5,.m (ld 4 (i6 n))),(6,.c [1] [1] (Rl a C H D G B I z b x F c y _ _ h n O)),(12,.s 6),(15,.s 6)] 6 (ob ((v 14).y 0) (([i6 1,i6 n]:List Value)++rB 64 d++([u6 (m:Int),i6 i,i6 j,i6 o,i6 p,i6 q,i6 r,i6 t,i6 u,i6 30,i6 0]:List Value)++rB 64 z6++rB 64 (id n)++([iN y.V.l.length,i6 0]:List Value)).toArray 149) (rT [(2,.l 6)] 68 (rs [(1,.l 6),(2,.s 5)] 5 (ob (B1 f) (([i6 30,i6 0]:List Value)++rB 64 z6).toArray 53) (lf ab.zero [0,1,2,3] [] [5])))))
theorem Sg(g r D I F H B J z u x G:Nat)(c:Cf)(y:Ct)(K A:Nat)(h:bI c y K A)(hA:A≤700000)(U:K+3≤1000000000)(n:Int)(S:bR n ((((c.R*c.B*c.M-c.res)*c.C):Nat):Int)=false)(d:List UInt8)(O:d.length=64)(m:Nat)(b e f i j o p q:Int)(id:Int→List UInt8)(R: ∀k,(id k).length=64)(sv:List Sv)(T:sv.length≤1000)(sc st v:Nat)(P vs:Value):aa U0 54 #[pt g 0,.agg (sV 2 n d m b e f i j o p q)] [ob g #[pt u 0,pt r 0,.map (some v),P,vs,iN sc,iN st] 114,pk (aT r D I F H B J z u x G c y),cM id v,c7 vs sv] [0,1,2,3] (λ_=>[ob g #[pt u 0,pt r 0,.map (some v),P,vs,iN sc,iN st] 114,pk (aT r D I F H B J z u x G c y),cM id v,c7 vs sv]) (λ_=> .agg (([i6 30,i6 0]:List Value)++rB 64 z6).toArray):=by
 have Q:=h.cf;exact fG Tryz.func54 λw cs=>ra (λa=>[(3,pt (B0 a) 0),(4,pt (B1 a) 0)]) (λa=>[ob (B0 a) (sV 2 n d m b e f i j o p q) 50,ob (B1 a) (([i6 0,i6 0]:List Value)++rB 64 z6).toArray 53]) λa=>rr (λ_=>[(0,.m (ls 4 (sL 2 n d m b e f i j o p q))),(4,.m (ld 0 (.map (some v)))),(6,.m (ld 4 (i6 n))),(7,.m (mg 2 (cM id v) v n (λ_ h=>h))),(11,.m (ld 0 (pt u 0))),(12,.c [1] [1] (kA r D I F H B J z u x G c y)),(14,.m (al 6)),(15,.s 6)]) (λM=>[(5,pt ((M 14).y 0) 0)]) [] (λM L=>L++[ob ((M 14).y 0) (([i6 2,i6 n]:List Value)++rB 64 d++([u6 (m:Int),i6 b,i6 e,i6 f,i6 i,i6 j,i6 o,i6 p,i6 q,i6 0,i6 0]:List Value)++rB 64 z6++rB 64 (id n)++([iN y.V.l.length,i6 0]:List Value)).toArray 149]) λM=>r0 [(1,.l 4)] [(21,i6 2)] [] (rF [] 35 (rT [] 51 (rs [(1,.s 4)] 4 (ob (B0 a) (sV 2 n d 18446744073709551615 b e f i j o p q) 50) (rs [(3,.m (ld 0 (pt r 0))),(5,.m (ld 4 (i6 n))),(7,.t (tv (Instr.sliceAt 43 (pt (B0 a) 2) none none none) (λ_=>rP (s:=1) (N:=64) Kr Dc))),(8,.c [1,4] [1] (aa.at (rd':=[pk (aT r D I F H B J z u x G c y),ob (B0 a) (sV 2 n d 18446744073709551615 b e f i j o p q) 50]) (Rq r D I F H B J z u x G c y _ _ h n S (.slice (some ⟨(a 0).y 0,2,none⟩) 64 64) d (by(simp only[LL,O,O];done))) (aN (ec (rO (d:=0) (A:=([i6 2,i6 n]:List Value)) (C:=([u6 18446744073709551615,i6 b,i6 e,i6 f,i6 i,i6 j,i6 o,i6 p,i6 q]:List Value)) (λ_=>rfl) rfl O) (λ_ h=>h))))),(11,.s 6)] 6 (ob ((M 14).y 0) (([i6 2,i6 n]:List Value)++rB 64 d++([u6 (m:Int),i6 b,i6 e,i6 f,i6 i,i6 j,i6 o,i6 p,i6 q,i6 30,i6 0]:List Value)++rB 64 z6++rB 64 (id n)++([iN y.V.l.length,i6 0]:List Value)).toArray 149) (rT [(2,.l 6)] 68 (rs [(1,.l 6),(2,.s 5)] 5 (ob (B1 a) (([i6 30,i6 0]:List Value)++rB 64 z6).toArray 53) (lf ab.zero [0,1,2,3] [] [5])))))))
theorem Sh(g b D I F H B J z e x G:Nat)(c:Cf)(y:Ct)(K A:Nat)(h:bI c y K A)(hA:A≤700000)(U:K+3≤1000000000)(n:Int)(S:bR n ((((c.R*c.B*c.M-c.res)*c.C):Nat):Int)=false)(d:List UInt8)(O:d.length=64)(m:Nat)(f i j o p q r u:Int)(id:Int→List UInt8)(R: ∀k,(id k).length=64)(sv:List Sv)(T:sv.length≤1000)(sc st v:Nat)(P vs:Value):aa U0 54 #[pt g 0,.agg (sV 3 n d m f i j o p q r u)] [ob g #[pt e 0,pt b 0,.map (some v),P,vs,iN sc,iN st] 114,pk (aT b D I F H B J z e x G c y),cM id v,c7 vs sv] [0,1,2,3] (λ_=>[ob g #[pt e 0,pt b 0,.map (some v),P,vs,iN sc,iN st] 114,pk (aT b D I F H B J z e x G c y),cM id v,c7 vs sv]) (λ_=> .agg (([i6 30,i6 0]:List Value)++rB 64 z6).toArray):=by
 have Q:=h.cf;exact fG Tryz.func54 λw cs=>ra (λa=>[(3,pt (B0 a) 0),(4,pt (B1 a) 0)]) (λa=>[ob (B0 a) (sV 3 n d m f i j o p q r u) 50,ob (B1 a) (([i6 0,i6 0]:List Value)++rB 64 z6).toArray 53]) λa=>rr (λ_=>[(0,.m (ls 4 (sL 3 n d m f i j o p q r u))),(4,.m (ld 0 (.map (some v)))),(6,.m (ld 4 (i6 n))),(7,.m (mg 2 (cM id v) v n (λ_ h=>h))),(11,.m (ld 0 (pt e 0))),(12,.c [1] [1] (kA b D I F H B J z e x G c y)),(14,.m (al 6)),(15,.s 6)]) (λM=>[(5,pt ((M 14).y 0) 0)]) [] (λM L=>L++[ob ((M 14).y 0) (([i6 3,i6 n]:List Value)++rB 64 d++([u6 (m:Int),i6 f,i6 i,i6 j,i6 o,i6 p,i6 q,i6 r,i6 u,i6 0,i6 0]:List Value)++rB 64 z6++rB 64 (id n)++([iN y.V.l.length,i6 0]:List Value)).toArray 149]) λM=>r0 [(1,.l 4)] [(21,i6 3)] [] (rF [] 35 (rF [] 51 (rs [(3,.m (ld 0 (pt b 0))),(5,.m (ld 4 (i6 n))),(7,.t (tv (Instr.sliceAt 43 (pt (B0 a) 2) none none none) (λ_=>rP (s:=1) (N:=64) Kr Dc))),(9,.m (ld 4 (u6 (m:Int)))),(10,.c [1,4] [1] (aa.at (rd':=[pk (aT b D I F H B J z e x G c y),ob (B0 a) (sV 3 n d m f i j o p q r u) 50]) (Ro b D I F H B J z e x G c y _ _ h n S (.slice (some ⟨(a 0).y 0,2,none⟩) 64 64) d (by(simp only[LL,O,O];done)) m) (aN (ec (rO (d:=0) (A:=([i6 3,i6 n]:List Value)) (C:=([u6 (m:Int),i6 f,i6 i,i6 j,i6 o,i6 p,i6 q,i6 r,i6 u]:List Value)) (λ_=>rfl) rfl O) (λ_ h=>h))))),(13,.s 6)] 6 (ob ((M 14).y 0) (([i6 3,i6 n]:List Value)++rB 64 d++([u6 (m:Int),i6 f,i6 i,i6 j,i6 o,i6 p,i6 q,i6 r,i6 u,i6 30,i6 0]:List Value)++rB 64 z6++rB 64 (id n)++([iN y.V.l.length,i6 0]:List Value)).toArray 149) (rT [(2,.l 6)] 68 (rs [(1,.l 6),(2,.s 5)] 5 (ob (B1 a) (([i6 30,i6 0]:List Value)++rB 64 z6).toArray 53) (lf ab.zero [0,1,2,3] [] [5]))))))
theorem Si(g r F J G I D M B u z H:Nat)(c:Cf)(y:Ct)(K A:Nat)(h:bI c y K A)(hA:A≤700000)(T:K+3≤1000000000)(n:Nat)(W:n<((c.R*c.B*c.M-c.res)*c.C))(d:List UInt8)(O:d.length=64)(m:Nat)(b e f i j o p q:Int)(id:Int→List UInt8)(R: ∀k,(id k).length=64)(sv:List Sv)(X:sv.length≤1000)(sc st v:Nat)(S vs:Value):aa U0 54 #[pt g 0,.agg (sV 2 (n:Int) d m b e f i j o p q)] [ob g #[pt u 0,pt r 0,.map (some v),S,vs,iN sc,iN st] 114,pk (aT r F J G I D M B u z H c y),cM id v,c7 vs sv] [0,1,2,3] (λE=>[ob g #[pt u 0,pt r 0,.map (some v),S,(E.val 0),iN sc,iN st] 114,pk (aT r F J G I D M B u z H c (bG c y n d 18446744073709551615)),cM (dM id (n:Int) (ig (id (n:Int)) d 18446744073709551615)) v,c7 (E.val 0) (sv++([(⟨2,(n:Int),d,m,b,e,f,i,j,o,p,q,(cq c y n 18446744073709551615),0,UZ 64 0,(id (n:Int)),y.V.l.length,(bG c y n d 18446744073709551615).V.l.length⟩:Sv)]))]) (λ_=> .agg (([i6 (cq c y n 18446744073709551615),i6 0]:List Value)++rB 64 z6).toArray):=by
 have U:=h.cf;have P:=R (n:Int);refine fG Tryz.func54 λw cs=>ra (λx=>[(3,pt (B0 x) 0),(4,pt (B1 x) 0)]) (λx=>[ob (B0 x) (sV 2 (n:Int) d m b e f i j o p q) 50,ob (B1 x) (([i6 0,i6 0]:List Value)++rB 64 z6).toArray 53]) λx=>rr (λ_=>[(0,.m (ls 4 (sL 2 (n:Int) d m b e f i j o p q))),(4,.m (ld 0 (.map (some v)))),(6,.m (ld 4 (iN n))),(7,.m (mg 2 (cM id v) v (n:Int) (λ_ h=>h))),(11,.m (ld 0 (pt u 0))),(12,.c [1] [1] (kA r F J G I D M B u z H c y)),(14,.m (al 6)),(15,.s 6)]) (λQ=>[(5,pt ((Q 14).y 0) 0)]) [] (λQ L=>L++[ob ((Q 14).y 0) (([i6 2,iN n]:List Value)++rB 64 d++([u6 (m:Int),i6 b,i6 e,i6 f,i6 i,i6 j,i6 o,i6 p,i6 q,i6 0,i6 0]:List Value)++rB 64 z6++rB 64 (id (n:Int))++([iN y.V.l.length,i6 0]:List Value)).toArray 149]) λQ=>r0 [(1,.l 4)] [(21,i6 2)] [] (rF [] 35 (rT [] 51 (rs [(1,.s 4)] 4 (ob (B0 x) (sV 2 (n:Int) d 18446744073709551615 b e f i j o p q) 50) (rr (λ_=>[(3,.m (ld 0 (pt r 0))),(5,.m (ld 4 (iN n))),(7,.t (tv (Instr.sliceAt 43 (pt (B0 x) 2) none none none) (λ_=>rP (s:=1) (N:=64) Kr Dc))),(8,.c [1,4] [1] (aa.at (rd':=[pk (aT r F J G I D M B u z H c y),ob (B0 x) (sV 2 (n:Int) d 18446744073709551615 b e f i j o p q) 50]) (Rn r F J G I D M B u z H c y _ _ h hA T n W (.slice (some ⟨(x 0).y 0,2,none⟩) 64 64) d (by(simp only[LL,O,P,O];done))) (aN (ec (rO (d:=0) (A:=([i6 2,iN n]:List Value)) (C:=([u6 18446744073709551615,i6 b,i6 e,i6 f,i6 i,i6 j,i6 o,i6 p,i6 q]:List Value)) (λ_=>rfl) rfl O) (λ_ h=>h))))),(11,.s 6)]) N0 [] (λ_ L=>(L.set 1 ((pk (aT r F J G I D M B u z H c (bG c y n d 18446744073709551615))))).set 6 (ob ((Q 14).y 0) (([i6 2,iN n]:List Value)++rB 64 d++([u6 (m:Int),i6 b,i6 e,i6 f,i6 i,i6 j,i6 o,i6 p,i6 q,i6 (cq c y n 18446744073709551615),i6 0]:List Value)++rB 64 z6++rB 64 (id (n:Int))++([iN y.V.l.length,i6 0]:List Value)).toArray 149)) λY=>rF [(2,.l 6),(3,.t (tk (show Value.bool ((cq c y n 18446744073709551615)==30)= .bool false from ALca Value.bool (by exact dR.2 (EL _ _ _ _ Dc)))))] 68 (rT [(1,.l 4)] 73 (rs [(3,.m (ld 0 (.map (some v)))),(5,.m (ld 4 (iN n))),(7,.m (ls 6 (rB 64 (id (n:Int))))),(9,.m (ls 4 (rB 64 d))),(11,.m (ld 4 (u6 18446744073709551615))),(12,.c [] [] (yq (id (n:Int)) d 18446744073709551615 (by(simp only[LL,O,P,O];done)) (by(simp only[LL,O,P,O];done)) Om)),(13,.m (mu 2 v (n:Int) u7 oQ id (ig (id (n:Int)) d 18446744073709551615)))] 2 (cM (dM id (n:Int) (ig (id (n:Int)) d 18446744073709551615)) v) (rs [(3,.l 0),(4,.c [1] [1] (kA r F J G I D M B u z H c (bG c y n d 18446744073709551615))),(6,.s 6)] 6 (ob ((Q 14).y 0) (([i6 2,iN n]:List Value)++rB 64 d++([u6 (m:Int),i6 b,i6 e,i6 f,i6 i,i6 j,i6 o,i6 p,i6 q,i6 (cq c y n 18446744073709551615),i6 0]:List Value)++rB 64 z6++rB 64 (id (n:Int))++([iN y.V.l.length,i6 (((bG c y n d 18446744073709551615).V.l.length:Nat):Int)]:List Value)).toArray 149) ?_)))))));exact rr (λa=>[(4,.l 0),(5,.l 6),(6,.m (bs 7 1)),(7,eX yv (vs) sv 3 7 ([(⟨2,(n:Int),d,m,b,e,f,i,j,o,p,q,(cq c y n 18446744073709551615),0,UZ 64 0,(id (n:Int)),y.V.l.length,(bG c y n d 18446744073709551615).V.l.length⟩:Sv)])),(10,.m (e6 0 3 (c7 ((a 7).val 0) (sv++([(⟨2,(n:Int),d,m,b,e,f,i,j,o,p,q,(cq c y n 18446744073709551615),0,UZ 64 0,(id (n:Int)),y.V.l.length,(bG c y n d 18446744073709551615).V.l.length⟩:Sv)]))) ((a 7).val 0) λbs h=>ao.one ((λ_ h=>h) bs h)))]) N0 [] (λa L=>(L.set 0 (ob g #[pt u 0,pt r 0,.map (some v),S,(a 7).val 0,iN sc,iN st] 114)).set 3 (c7 ((a 7).val 0) (sv++([(⟨2,(n:Int),d,m,b,e,f,i,j,o,p,q,(cq c y n 18446744073709551615),0,UZ 64 0,(id (n:Int)),y.V.l.length,(bG c y n d 18446744073709551615).V.l.length⟩:Sv)])))++[ob (B6 a) (([i6 2,iN n]:List Value)++rB 64 d++([u6 (m:Int),i6 b,i6 e,i6 f,i6 i,i6 j,i6 o,i6 p,i6 q,i6 (cq c y n 18446744073709551615),i6 0]:List Value)++rB 64 z6++rB 64 (id (n:Int))++([iN y.V.l.length,i6 (((bG c y n d 18446744073709551615).V.l.length:Nat):Int)]:List Value)).toArray 149]) λa=>rs [(1,.l 6),(2,.s 5)] 5 (ob (B1 x) (([i6 (cq c y n 18446744073709551615),i6 0]:List Value)++rB 64 z6).toArray 53) (lf (.l [] [] [(a 7).val 0]) [0,1,2,3] [] [5])
theorem Sj(g r F J G I D M B u z H:Nat)(c:Cf)(y:Ct)(K A:Nat)(h:bI c y K A)(hA:A≤700000)(W:K+3≤1000000000)(n:Nat)(Y:n<((c.R*c.B*c.M-c.res)*c.C))(d:List UInt8)(O:d.length=64)(m:Nat)(b e f i j o p q:Int)(R:m<18446744073709551616)(T:m≠0)(id:Int→List UInt8)(S: ∀k,(id k).length=64)(sv:List Sv)(Z:sv.length≤1000)(sc st v:Nat)(U vs:Value):aa U0 54 #[pt g 0,.agg (sV 3 (n:Int) d m b e f i j o p q)] [ob g #[pt u 0,pt r 0,.map (some v),U,vs,iN sc,iN st] 114,pk (aT r F J G I D M B u z H c y),cM id v,c7 vs sv] [0,1,2,3] (λE=>[ob g #[pt u 0,pt r 0,.map (some v),U,(E.val 0),iN sc,iN st] 114,pk (aT r F J G I D M B u z H c (bG c y n d m)),cM (dM id (n:Int) (ig (id (n:Int)) d m)) v,c7 (E.val 0) (sv++([(⟨3,(n:Int),d,m,b,e,f,i,j,o,p,q,(cq c y n m),0,UZ 64 0,(id (n:Int)),y.V.l.length,(bG c y n d m).V.l.length⟩:Sv)]))]) (λ_=> .agg (([i6 (cq c y n m),i6 0]:List Value)++rB 64 z6).toArray):=by
 have X:=h.cf;have P:=S (n:Int);refine fG Tryz.func54 λw cs=>ra (λx=>[(3,pt (B0 x) 0),(4,pt (B1 x) 0)]) (λx=>[ob (B0 x) (sV 3 (n:Int) d m b e f i j o p q) 50,ob (B1 x) (([i6 0,i6 0]:List Value)++rB 64 z6).toArray 53]) λx=>rr (λ_=>[(0,.m (ls 4 (sL 3 (n:Int) d m b e f i j o p q))),(4,.m (ld 0 (.map (some v)))),(6,.m (ld 4 (iN n))),(7,.m (mg 2 (cM id v) v (n:Int) (λ_ h=>h))),(11,.m (ld 0 (pt u 0))),(12,.c [1] [1] (kA r F J G I D M B u z H c y)),(14,.m (al 6)),(15,.s 6)]) (λQ=>[(5,pt ((Q 14).y 0) 0)]) [] (λQ L=>L++[ob ((Q 14).y 0) (([i6 3,iN n]:List Value)++rB 64 d++([u6 (m:Int),i6 b,i6 e,i6 f,i6 i,i6 j,i6 o,i6 p,i6 q,i6 0,i6 0]:List Value)++rB 64 z6++rB 64 (id (n:Int))++([iN y.V.l.length,i6 0]:List Value)).toArray 149]) λQ=>r0 [(1,.l 4)] [(21,i6 3)] [] (rF [] 35 (rF [] 51 (rr (λ_=>[(3,.m (ld 0 (pt r 0))),(5,.m (ld 4 (iN n))),(7,.t (tv (Instr.sliceAt 43 (pt (B0 x) 2) none none none) (λ_=>rP (s:=1) (N:=64) Kr Dc))),(9,.m (ld 4 (u6 (m:Int)))),(10,.c [1,4] [1] (aa.at (rd':=[pk (aT r F J G I D M B u z H c y),ob (B0 x) (sV 3 (n:Int) d m b e f i j o p q) 50]) (Ex r F J G I D M B u z H c y _ _ h hA W n Y (.slice (some ⟨(x 0).y 0,2,none⟩) 64 64) d (by(simp only[LL,O,P,O];done)) m R) (aN (ec (rO (d:=0) (A:=([i6 3,iN n]:List Value)) (C:=([u6 (m:Int),i6 b,i6 e,i6 f,i6 i,i6 j,i6 o,i6 p,i6 q]:List Value)) (λ_=>rfl) rfl O) (λ_ h=>h))))),(13,.s 6)]) N0 [] (λ_ L=>(L.set 1 ((pk (aT r F J G I D M B u z H c (bG c y n d m))))).set 6 (ob ((Q 14).y 0) (([i6 3,iN n]:List Value)++rB 64 d++([u6 (m:Int),i6 b,i6 e,i6 f,i6 i,i6 j,i6 o,i6 p,i6 q,i6 (cq c y n m),i6 0]:List Value)++rB 64 z6++rB 64 (id (n:Int))++([iN y.V.l.length,i6 0]:List Value)).toArray 149)) λq6=>rF [(2,.l 6),(3,.t (tk (show Value.bool ((cq c y n m)==30)= .bool false from ALca Value.bool (by exact dR.2 (EL _ _ _ _ T)))))] 68 (rT [(1,.l 4)] 73 (rs [(3,.m (ld 0 (.map (some v)))),(5,.m (ld 4 (iN n))),(7,.m (ls 6 (rB 64 (id (n:Int))))),(9,.m (ls 4 (rB 64 d))),(11,.m (ld 4 (u6 (m:Int)))),(12,.c [] [] (yq (id (n:Int)) d m (by(simp only[LL,O,P,O];done)) (by(simp only[LL,O,P,O];done)) R)),(13,.m (mu 2 v (n:Int) u7 oQ id (ig (id (n:Int)) d m)))] 2 (cM (dM id (n:Int) (ig (id (n:Int)) d m)) v) (rs [(3,.l 0),(4,.c [1] [1] (kA r F J G I D M B u z H c (bG c y n d m))),(6,.s 6)] 6 (ob ((Q 14).y 0) (([i6 3,iN n]:List Value)++rB 64 d++([u6 (m:Int),i6 b,i6 e,i6 f,i6 i,i6 j,i6 o,i6 p,i6 q,i6 (cq c y n m),i6 0]:List Value)++rB 64 z6++rB 64 (id (n:Int))++([iN y.V.l.length,i6 (((bG c y n d m).V.l.length:Nat):Int)]:List Value)).toArray 149) (rr (λa=>[(4,.l 0),(5,.l 6),(6,.m (bs 7 1)),(7,eX yv (vs) sv 3 7 ([(⟨3,(n:Int),d,m,b,e,f,i,j,o,p,q,(cq c y n m),0,UZ 64 0,(id (n:Int)),y.V.l.length,(bG c y n d m).V.l.length⟩:Sv)])),(10,.m (e6 0 3 (c7 ((a 7).val 0) (sv++([(⟨3,(n:Int),d,m,b,e,f,i,j,o,p,q,(cq c y n m),0,UZ 64 0,(id (n:Int)),y.V.l.length,(bG c y n d m).V.l.length⟩:Sv)]))) ((a 7).val 0) λbs h=>ao.one ((λ_ h=>h) bs h)))]) N0 [] (λa L=>(L.set 0 (ob g #[pt u 0,pt r 0,.map (some v),U,(a 7).val 0,iN sc,iN st] 114)).set 3 (c7 ((a 7).val 0) (sv++([(⟨3,(n:Int),d,m,b,e,f,i,j,o,p,q,(cq c y n m),0,UZ 64 0,(id (n:Int)),y.V.l.length,(bG c y n d m).V.l.length⟩:Sv)])))++[ob (B6 a) (([i6 3,iN n]:List Value)++rB 64 d++([u6 (m:Int),i6 b,i6 e,i6 f,i6 i,i6 j,i6 o,i6 p,i6 q,i6 (cq c y n m),i6 0]:List Value)++rB 64 z6++rB 64 (id (n:Int))++([iN y.V.l.length,i6 (((bG c y n d m).V.l.length:Nat):Int)]:List Value)).toArray 149]) λa=>?_)))))));exact rs [(1,.l 6),(2,.s 5)] 5 (ob (B1 x) (([i6 (cq c y n m),i6 0]:List Value)++rB 64 z6).toArray 53) (lf (.l [] [] [(a 7).val 0]) [0,1,2,3] [] [5])
def EO(c:Cf)(x:Mc)(n:Nat)(d:List UInt8):Mc:={x with x:=bG c x.x n d 0}
theorem Sk(g b D I F H B J z e x G:Nat)(c:Cf)(y:Ct)(K A:Nat)(h:bI c y K A)(hA:A≤700000)(Q:K+3≤1000000000)(n:Nat)(T:n<((c.R*c.B*c.M-c.res)*c.C))(d:List UInt8)(O:d.length=64)(f i j o p q r u:Int)(id:Int→List UInt8)(S: ∀k,(id k).length=64)(sv:List Sv)(U:sv.length≤1000)(sc st v:Nat)(P vs:Value):aa U0 54 #[pt g 0,.agg (sV 3 (n:Int) d 0 f i j o p q r u)] [ob g #[pt e 0,pt b 0,.map (some v),P,vs,iN sc,iN st] 114,pk (aT b D I F H B J z e x G c y),cM id v,c7 vs sv] [0,1,2,3] (λ_=>[ob g #[pt e 0,pt b 0,.map (some v),P,vs,iN sc,iN st] 114,pk (aT b D I F H B J z e x G c (bG c y n d 0)),cM id v,c7 vs sv]) (λ_=> .agg (([i6 (cq c y n 0),i6 0]:List Value)++rB 64 z6).toArray):=by
 have R:=h.cf;exact fG Tryz.func54 λw cs=>ra (λa=>[(3,pt (B0 a) 0),(4,pt (B1 a) 0)]) (λa=>[ob (B0 a) (sV 3 (n:Int) d 0 f i j o p q r u) 50,ob (B1 a) (([i6 0,i6 0]:List Value)++rB 64 z6).toArray 53]) λa=>rr (λ_=>[(0,.m (ls 4 (sL 3 (n:Int) d 0 f i j o p q r u))),(4,.m (ld 0 (.map (some v)))),(6,.m (ld 4 (iN n))),(7,.m (mg 2 (cM id v) v (n:Int) (λ_ h=>h))),(11,.m (ld 0 (pt e 0))),(12,.c [1] [1] (kA b D I F H B J z e x G c y)),(14,.m (al 6)),(15,.s 6)]) (λM=>[(5,pt ((M 14).y 0) 0)]) [] (λM L=>L++[ob ((M 14).y 0) (([i6 3,iN n]:List Value)++rB 64 d++([u6 0,i6 f,i6 i,i6 j,i6 o,i6 p,i6 q,i6 r,i6 u,i6 0,i6 0]:List Value)++rB 64 z6++rB 64 (id (n:Int))++([iN y.V.l.length,i6 0]:List Value)).toArray 149]) λM=>r0 [(1,.l 4)] [(21,i6 3)] [] (rF [] 35 (rF [] 51 (rr (λ_=>[(3,.m (ld 0 (pt b 0))),(5,.m (ld 4 (iN n))),(7,.t (tv (Instr.sliceAt 43 (pt (B0 a) 2) none none none) (λ_=>rP (s:=1) (N:=64) Kr Dc))),(9,.m (ld 4 (u6 0))),(10,.c [1,4] [1] (aa.at (rd':=[pk (aT b D I F H B J z e x G c y),ob (B0 a) (sV 3 (n:Int) d 0 f i j o p q r u) 50]) (Ex b D I F H B J z e x G c y _ _ h hA Q n T (.slice (some ⟨(a 0).y 0,2,none⟩) 64 64) d (by(simp only[LL,O,O];done)) 0 Om) (aN (ec (rO (d:=0) (A:=([i6 3,iN n]:List Value)) (C:=([u6 0,i6 f,i6 i,i6 j,i6 o,i6 p,i6 q,i6 r,i6 u]:List Value)) (λ_=>rfl) rfl O) (λ_ h=>h))))),(13,.s 6)]) N0 [] (λ_ L=>(L.set 1 ((pk (aT b D I F H B J z e x G c (bG c y n d 0))))).set 6 (ob ((M 14).y 0) (([i6 3,iN n]:List Value)++rB 64 d++([u6 0,i6 f,i6 i,i6 j,i6 o,i6 p,i6 q,i6 r,i6 u,i6 (cq c y n 0),i6 0]:List Value)++rB 64 z6++rB 64 (id (n:Int))++([iN y.V.l.length,i6 0]:List Value)).toArray 149)) λV=>rT [(2,.l 6),(3,.t (tk (show Value.bool ((cq c y n 0)==30)= .bool true from ALca Value.bool (by exact beq_iff_eq.2 rfl))))] 68 (rs [(1,.l 6),(2,.s 5)] 5 (ob (B1 a) (([i6 (cq c y n 0),i6 0]:List Value)++rB 64 z6).toArray 53) (lf ab.zero [0,1,2,3] [] [5])))))
def m3(c:Cf)(y:Ct)(f:Fa)(inj:List Ij)(sc:Nat):List Ij:=bif gH c y.V.D f==0 then inj++[⟨f.x0,f.x1,f.x2,f.x3,f.x4,f.x5,f.x6,f.x7,sc,y.V.l.length⟩] else inj
theorem Sm(g o x D z C u F t n r B:Nat)(c:Cf)(y:Ct)(K A:Nat)(h:bI c y K A)(hA:A≤700000)(a b d e f i j k:Int)(inj:List Ij)(P:inj.length≤1000)(sc st J:Nat)(H vs:Value):aa U0 53 #[pt g 0,.agg #[i6 a,i6 b,i6 d,i6 e,i6 f,i6 i,i6 j,i6 k]] [ob g #[pt n 0,pt o 0,.map (some J),H,vs,iN sc,iN st] 114,pk (aT o x D z C u F t n r B c y),fM H inj] [0,1,2] (λE=>[ob g #[pt n 0,pt o 0,.map (some J),(E.val 0),vs,iN sc,iN st] 114,pk (aT o x D z C u F t n r B c ({y with V:=mY c y.V ⟨a,b,d,e,f,i,j,k⟩}:Ct)),fM (E.val 0) (m3 c y (⟨a,b,d,e,f,i,j,k⟩:Fa) inj sc)]) (λ_=> .agg (([i6 (gH c y.V.D ⟨a,b,d,e,f,i,j,k⟩),i6 0]:List Value)++rB 64 z6).toArray):=by
 have N:=h.cf;have O:=h.dv Om;refine fG Tryz.func53 λw cs=>ra (λp=>[(3,pt (B0 p) 0),(4,pt (B1 p) 0)]) (λp=>[ob (B0 p) #[i6 a,i6 b,i6 d,i6 e,i6 f,i6 i,i6 j,i6 k] 48,ob (B1 p) (([i6 0,i6 0]:List Value)++rB 64 z6).toArray 53]) λp=>rr (λ_=>[(0,.m (ls 3 ([i6 a,i6 b,i6 d,i6 e,i6 f,i6 i,i6 j,i6 k]))),(1,.v (pt g 0)),(2,.v (pt g 0)),(3,.v (pt g 5)),(4,.m (ld 0 (iN sc))),(5,.v (pt g 0)),(6,.v (pt g 0)),(7,.v (pt g 0)),(8,.m (ld 0 (pt n 0))),(9,.c [1] [1] (kA o x D z C u F t n r B c y)),(10,.v (.agg #[i6 a,i6 b,i6 d,i6 e,i6 f,i6 i,i6 j,i6 k,iN sc,iN y.V.l.length])),(11,.m (al 5)),(12,.s 5)]) (λG=>[(5,pt ((G 11).y 0) 0)]) [] (λG L=>L++[ob ((G 11).y 0) #[i6 a,i6 b,i6 d,i6 e,i6 f,i6 i,i6 j,i6 k,iN sc,iN y.V.l.length] 187]) λG=>rr (λ_=>[(3,.l 0),(4,.l 3),(5,.c [1] [1] (Sd o x D z C u F t n r B c y N O ⟨a,b,d,e,f,i,j,k⟩))]) (λ_=>[(6,i6 (gH c y.V.D ⟨a,b,d,e,f,i,j,k⟩))]) [] (λ_ L=>L.set 1 ((pk (aT o x D z C u F t n r B c ({y with V:=mY c y.V ⟨a,b,d,e,f,i,j,k⟩}:Ct))))) λQ=>r0 [] [(25,.bool ((gH c y.V.D ⟨a,b,d,e,f,i,j,k⟩)==0))] [] ?_;refine cD (gH c y.V.D ⟨a,b,d,e,f,i,j,k⟩) 0 (λM I=>?_) λM I=>?_
 ·exact rr (λq=>[(4,.l 0),(5,.l 5),(6,.m (bs 6 1)),(7,eX Sc (H) inj 2 6 ([(⟨a,b,d,e,f,i,j,k,sc,y.V.l.length⟩:Ij)])),(10,.m (e6 0 2 (fM ((q 7).val 0) (inj++([(⟨a,b,d,e,f,i,j,k,sc,y.V.l.length⟩:Ij)]))) ((q 7).val 0) λbs h=>ao.one ((λ_ h=>h) bs h)))]) N0 [] (λq L=>(L.set 0 (ob g #[pt n 0,pt o 0,.map (some J),(q 7).val 0,vs,iN sc,iN st] 114)).set 2 (fM ((q 7).val 0) (inj++([(⟨a,b,d,e,f,i,j,k,sc,y.V.l.length⟩:Ij)])))++[ob (B6 q) #[i6 a,i6 b,i6 d,i6 e,i6 f,i6 i,i6 j,i6 k,iN sc,iN y.V.l.length] 187]) λq=>rs [(2,.s 4)] 4 (ob (B1 p) (([i6 (gH c y.V.D ⟨a,b,d,e,f,i,j,k⟩),i6 0]:List Value)++rB 64 z6).toArray 53) (lf (.l [] [] [(q 7).val 0]) [0,1,2] [] [4] (hf:=by unfold m3;dsimp only;(repeat (first | rw[M] | rw[ALct]));kernel_rfl))
 exact rs [(2,.s 4)] 4 (ob (B1 p) (([i6 (gH c y.V.D ⟨a,b,d,e,f,i,j,k⟩),i6 0]:List Value)++rB 64 z6).toArray 53) (lf (.l [] [] [H]) [0,1,2] [] [4] (hf:=by unfold m3;dsimp only;(repeat (first | rw[M] | rw[ALcf]));kernel_rfl))
structure An where
 e:Int
 n:Int
 l:List UInt8
def EP(x:An):List Value:=[i6 x.e,i6 x.n]++rB 64 x.l
theorem Sn(g t B G C F z H y u v D:Nat)(c:Cf)(x:Mc)(K A N:Nat)(b:eH c x K A N)(hA:A≤700000)(I:N≤1000)(k r:Int)(d:List UInt8)(J:d.length=64)(m:Nat)(e f i j n o p q:Int)(O:dw k r d m e f i j n o p q=false):aa U0 16 #[pt g 0,.agg (sV k r d m e f i j n o p q)] [pk (a6 g t B G C F z H y u v D c x)] [0] (λ_=>[pk (a6 g t B G C F z H y u v D c x)]) (λ_=> .agg (([i6 60,i6 0]:List Value)++rB 64 z6).toArray):=aa.pkZ Tryz.func16 λL M=>by
 obtain⟨gi,V,vs,rfl⟩:=M;refine⟨[1,2,3,4],λ_=>[pk (aT t B G C F z H y u v D c x.x),cM x.id gi,fM V x.inj,c7 vs x.sv],?_,rfl,λE=>⟨rfl,rfl,⟨_,_,_,rfl⟩⟩⟩;have h:=b.ct;have P:=h.cf;have Q:=b.il;have T:x.sv.length≤1000:=U1 b.sl I;have R:x.inj.length≤1000:=U1 b.jl I;have S:=b.sc;have U:=b.st;exact fG Tryz.func16 λw cs=>ra (λa=>[(3,pt (B0 a) 0),(4,pt (B1 a) 0)]) (λa=>[ob (B0 a) (sV k r d m e f i j n o p q) 50,ob (B1 a) (([i6 0,i6 0]:List Value)++rB 64 z6).toArray 53]) λa=>rT [(0,.l 5),(1,.c [] [] (aa.v ((jo k r d m e f i j n o p q (by(simp only[LL,J,J];done)))) λ_=>ALca Value.bool (show(dw k r d m e f i j n o p q)=false from(by exact O))))] 9 (rs [(1,.s 6)] 6 (ob (B1 a) (([i6 60,i6 0]:List Value)++rB 64 z6).toArray 53) (lf ab.zero [1,2,3,4] [(0,0)] [6]))
theorem So(g a y D z C v F u b t B:Nat)(c:Cf)(x:Mc)(K A N:Nat)(f:eH c x K A N)(hA:A≤700000)(H:N≤1000)(J:K+3≤1000000000)(ln:Int)(d:List UInt8)(I:d.length=64)(m:Nat)(i j k n o p q r:Int)(O:dw 4 ln d m i j k n o p q r=true):aa U0 16 #[pt g 0,.agg (sV 4 ln d m i j k n o p q r)] [pk (a6 g a y D z C v F u b t B c x)] [0] (λ_=>[pk (a6 g a y D z C v F u b t B c ({x with x:=kz c x.x,sc:=x.sc+1,st:=x.st+1}:Mc))]) (λ_=> .agg (([i6 (cd (bM c (j6 c x.x) (bc (j6 c x.x) x.x.U))),iN x.x.U]:List Value)++rB 64 z6).toArray):=aa.pkZ Tryz.func16 λL M=>by
 obtain⟨gi,G,vs,rfl⟩:=M;refine⟨[0,1,2,3,4],λ_=>[ob g #[pt b 0,pt a 0,.map (some gi),G,vs,i6 ((x.sc+1:Nat):Int),i6 ((x.st+1:Nat):Int)] 114,pk (aT a y D z C v F u b t B c (kz c x.x)),cM x.id gi,fM G x.inj,c7 vs x.sv],?_,rfl,λE=>⟨rfl,rfl,⟨_,_,_,rfl⟩⟩⟩;have h:=f.ct;have P:=h.cf;have Q:=f.il;have T:x.sv.length≤1000:=U1 f.sl H;have R:x.inj.length≤1000:=U1 f.jl H;have S:=f.sc;have U:=f.st;exact fG Tryz.func16 λw cs=>ra (λe=>[(3,pt (B0 e) 0),(4,pt (B1 e) 0)]) (λe=>[ob (B0 e) (sV 4 ln d m i j k n o p q r) 50,ob (B1 e) (([i6 0,i6 0]:List Value)++rB 64 z6).toArray 53]) λe=>rF [(0,.l 5),(1,.c [] [] (aa.v ((jo 4 ln d m i j k n o p q r (by(simp only[LL,I,I];done)))) λ_=>ALca Value.bool (show(dw 4 ln d m i j k n o p q r)=true from(by exact O))))] 9 (rs [(3,.l 0),(4,ad x.st 1),(7,.s 0)] 0 (ob g #[pt b 0,pt a 0,.map (some gi),G,vs,iN x.sc,i6 ((x.st+1:Nat):Int)] 114) (r0 [(1,.l 5)] [(19,i6 4)] [] (rT [] 20 (rs [(3,.l 0),(4,ad x.sc 1),(7,.s 0)] 0 (ob g #[pt b 0,pt a 0,.map (some gi),G,vs,i6 ((x.sc+1:Nat):Int),i6 ((x.st+1:Nat):Int)] 114) (rr (λ_=>[(3,.l 0),(4,.c [1] [1] (Rr a y D z C v F u b t B c x.x _ _ h hA J))]) (λ_=>[(5,iN x.x.U),(6,i6 (cd (bM c (j6 c x.x) (bc (j6 c x.x) x.x.U))))]) [] (λ_ L=>L.set 1 ((pk (aT a y D z C v F u b t B c (kz c x.x))))) λV=>rs [(3,.s 6)] 6 (ob (B1 e) (([i6 (cd (bM c (j6 c x.x) (bc (j6 c x.x) x.x.U))),iN x.x.U]:List Value)++rB 64 z6).toArray 53) (lf ab.zero [0,1,2,3,4] [] [6]))))))
theorem Sp(g a y D z C v F u b t B:Nat)(c:Cf)(x:Mc)(K A N:Nat)(e:eH c x K A N)(hA:A≤700000)(H:N≤1000)(J:K+260≤1000000000)(P:x.x.s.r.j.A≠0)(ln:Int)(d:List UInt8)(I:d.length=64)(m:Nat)(i j k n o p q r:Int)(O:dw 5 ln d m i j k n o p q r=true):aa U0 16 #[pt g 0,.agg (sV 5 ln d m i j k n o p q r)] [pk (a6 g a y D z C v F u b t B c x)] [0] (λ_=>[pk (a6 g a y D z C v F u b t B c ({x with x:=jn c x.x,st:=x.st+1}:Mc))]) (λ_=> .agg (([i6 0,i6 0]:List Value)++rB 64 z6).toArray):=aa.pkZ Tryz.func16 λL M=>by
 obtain⟨gi,G,vs,rfl⟩:=M;refine⟨[0,1,2,3,4],λ_=>[ob g #[pt b 0,pt a 0,.map (some gi),G,vs,iN x.sc,i6 ((x.st+1:Nat):Int)] 114,pk (aT a y D z C v F u b t B c (jn c x.x)),cM x.id gi,fM G x.inj,c7 vs x.sv],?_,rfl,λE=>⟨rfl,rfl,⟨_,_,_,rfl⟩⟩⟩;have h:=e.ct;have Q:=h.cf;have R:=e.il;have U:x.sv.length≤1000:=U1 e.sl H;have S:x.inj.length≤1000:=U1 e.jl H;have T:=e.sc;have V:=e.st;exact fG Tryz.func16 λw cs=>ra (λf=>[(3,pt (B0 f) 0),(4,pt (B1 f) 0)]) (λf=>[ob (B0 f) (sV 5 ln d m i j k n o p q r) 50,ob (B1 f) (([i6 0,i6 0]:List Value)++rB 64 z6).toArray 53]) λf=>rF [(0,.l 5),(1,.c [] [] (aa.v ((jo 5 ln d m i j k n o p q r (by(simp only[LL,I,I];done)))) λ_=>ALca Value.bool (show(dw 5 ln d m i j k n o p q r)=true from(by exact O))))] 9 (rs [(3,.l 0),(4,ad x.st 1),(7,.s 0)] 0 (ob g #[pt b 0,pt a 0,.map (some gi),G,vs,iN x.sc,i6 ((x.st+1:Nat):Int)] 114) (r0 [(1,.l 5)] [(19,i6 5)] [] (rF [] 20 (rT [] 40 (rs [(3,.l 0),(4,.c [1] [1] (RE a y D z C v F u b t B c x.x _ _ h hA J P)),(6,.s 6)] 1 ((pk (aT a y D z C v F u b t B c (jn c x.x)))) (lf ab.zero [0,1,2,3,4] [] [6]))))))
theorem Sq(g b y D z C v F u e t B:Nat)(c:Cf)(x:Mc)(K A N:Nat)(f:eH c x K A N)(hA:A≤700000)(H:N≤1000)(O:x.x.s.r.j.A=0)(ln:Int)(d:List UInt8)(I:d.length=64)(m:Nat)(i j k n o p q r:Int)(M:dw 5 ln d m i j k n o p q r=true):aa U0 16 #[pt g 0,.agg (sV 5 ln d m i j k n o p q r)] [pk (a6 g b y D z C v F u e t B c x)] [0] (λ_=>[pk (a6 g b y D z C v F u e t B c ({x with st:=x.st+1}:Mc))]) (λ_=> .agg (([i6 51,i6 0]:List Value)++rB 64 z6).toArray):=aa.pkZ Tryz.func16 λL J=>by
 obtain⟨gi,G,vs,rfl⟩:=J;refine⟨[0,1,2,3,4],λ_=>[ob g #[pt e 0,pt b 0,.map (some gi),G,vs,iN x.sc,i6 ((x.st+1:Nat):Int)] 114,pk (aT b y D z C v F u e t B c x.x),cM x.id gi,fM G x.inj,c7 vs x.sv],?_,rfl,λE=>⟨rfl,rfl,⟨_,_,_,rfl⟩⟩⟩;have h:=f.ct;have P:=h.cf;have Q:=f.il;have T:x.sv.length≤1000:=U1 f.sl H;have R:x.inj.length≤1000:=U1 f.jl H;have S:=f.sc;have U:=f.st;exact fG Tryz.func16 λw cs=>ra (λa=>[(3,pt (B0 a) 0),(4,pt (B1 a) 0)]) (λa=>[ob (B0 a) (sV 5 ln d m i j k n o p q r) 50,ob (B1 a) (([i6 0,i6 0]:List Value)++rB 64 z6).toArray 53]) λa=>rF [(0,.l 5),(1,.c [] [] (aa.v ((jo 5 ln d m i j k n o p q r (by(simp only[LL,I,I];done)))) λ_=>ALca Value.bool (show(dw 5 ln d m i j k n o p q r)=true from(by exact M))))] 9 (rs [(3,.l 0),(4,ad x.st 1),(7,.s 0)] 0 (ob g #[pt e 0,pt b 0,.map (some gi),G,vs,iN x.sc,i6 ((x.st+1:Nat):Int)] 114) (r0 [(1,.l 5)] [(19,i6 5)] [] (rF [] 20 (rT [] 40 (rs [(3,.l 0),(4,.c [1] [1] (RD b y D z C v F u e t B c x.x _ _ h O)),(6,.s 6)] 6 (ob (B1 a) (([i6 51,i6 0]:List Value)++rB 64 z6).toArray 53) (lf ab.zero [0,1,2,3,4] [] [6]))))))
theorem Sr(g a y D z C v F u b t B:Nat)(c:Cf)(x:Mc)(K A N:Nat)(e:eH c x K A N)(hA:A≤700000)(H:N≤1000)(ht:x.x.s.time<1099511627776)(ln:Int)(d:List UInt8)(I:d.length=64)(m:Nat)(i j k n o p q r:Int)(M:dw 6 ln d m i j k n o p q r=true):aa U0 16 #[pt g 0,.agg (sV 6 ln d m i j k n o p q r)] [pk (a6 g a y D z C v F u b t B c x)] [0] (λ_=>[pk (a6 g a y D z C v F u b t B c ({x with x:=pN x.x,st:=x.st+1}:Mc))]) (λ_=> .agg (([i6 0,i6 0]:List Value)++rB 64 z6).toArray):=aa.pkZ Tryz.func16 λL J=>by
 obtain⟨gi,G,vs,rfl⟩:=J;refine⟨[0,1,2,3,4],λ_=>[ob g #[pt b 0,pt a 0,.map (some gi),G,vs,iN x.sc,i6 ((x.st+1:Nat):Int)] 114,pk (aT a y D z C v F u b t B c (pN x.x)),cM x.id gi,fM G x.inj,c7 vs x.sv],?_,rfl,λE=>⟨rfl,rfl,⟨_,_,_,rfl⟩⟩⟩;have h:=e.ct;have O:=h.cf;have P:=e.il;have S:x.sv.length≤1000:=U1 e.sl H;have Q:x.inj.length≤1000:=U1 e.jl H;have R:=e.sc;have T:=e.st;exact fG Tryz.func16 λw cs=>ra (λf=>[(3,pt (B0 f) 0),(4,pt (B1 f) 0)]) (λf=>[ob (B0 f) (sV 6 ln d m i j k n o p q r) 50,ob (B1 f) (([i6 0,i6 0]:List Value)++rB 64 z6).toArray 53]) λf=>rF [(0,.l 5),(1,.c [] [] (aa.v ((jo 6 ln d m i j k n o p q r (by(simp only[LL,I,I];done)))) λ_=>ALca Value.bool (show(dw 6 ln d m i j k n o p q r)=true from(by exact M))))] 9 (rs [(3,.l 0),(4,ad x.st 1),(7,.s 0)] 0 (ob g #[pt b 0,pt a 0,.map (some gi),G,vs,iN x.sc,i6 ((x.st+1:Nat):Int)] 114) (r0 [(1,.l 5)] [(19,i6 6)] [] (rF [] 20 (rF [] 40 (rT [] 48 (rs [(3,.l 0),(4,.c [1] [1] (RB a y D z C v F u b t B c x.x _ _ h hA ht)),(6,.s 6)] 1 ((pk (aT a y D z C v F u b t B c (pN x.x)))) (lf ab.zero [0,1,2,3,4] [] [6])))))))
theorem Ss(g a y D z C v F u b t B:Nat)(c:Cf)(x:Mc)(K A N:Nat)(f:eH c x K A N)(hA:A≤700000)(H:N≤1000)(ln:Int)(d:List UInt8)(I:d.length=64)(m:Nat)(i j k n o p q r:Int)(M:dw 7 ln d m i j k n o p q r=true):aa U0 16 #[pt g 0,.agg (sV 7 ln d m i j k n o p q r)] [pk (a6 g a y D z C v F u b t B c x)] [0] (λ_=>[pk (a6 g a y D z C v F u b t B c ({x with x:=pO x.x,st:=x.st+1}:Mc))]) (λ_=> .agg (([i6 0,iN x.x.s.g.l.length]:List Value)++rB 64 z6).toArray):=aa.pkZ Tryz.func16 λL J=>by
 obtain⟨gi,G,vs,rfl⟩:=J;refine⟨[0,1,2,3,4],λ_=>[ob g #[pt b 0,pt a 0,.map (some gi),G,vs,iN x.sc,i6 ((x.st+1:Nat):Int)] 114,pk (aT a y D z C v F u b t B c (pO x.x)),cM x.id gi,fM G x.inj,c7 vs x.sv],?_,rfl,λE=>⟨rfl,rfl,⟨_,_,_,rfl⟩⟩⟩;have h:=f.ct;have O:=h.cf;have P:=f.il;have S:x.sv.length≤1000:=U1 f.sl H;have Q:x.inj.length≤1000:=U1 f.jl H;have R:=f.sc;have T:=f.st;exact fG Tryz.func16 λw cs=>ra (λe=>[(3,pt (B0 e) 0),(4,pt (B1 e) 0)]) (λe=>[ob (B0 e) (sV 7 ln d m i j k n o p q r) 50,ob (B1 e) (([i6 0,i6 0]:List Value)++rB 64 z6).toArray 53]) λe=>rF [(0,.l 5),(1,.c [] [] (aa.v ((jo 7 ln d m i j k n o p q r (by(simp only[LL,I,I];done)))) λ_=>ALca Value.bool (show(dw 7 ln d m i j k n o p q r)=true from(by exact M))))] 9 (rs [(3,.l 0),(4,ad x.st 1),(7,.s 0)] 0 (ob g #[pt b 0,pt a 0,.map (some gi),G,vs,iN x.sc,i6 ((x.st+1:Nat):Int)] 114) (r0 [(1,.l 5)] [(19,i6 7)] [] (rF [] 20 (rF [] 40 (rF [] 48 (rT [] 56 (rr (λ_=>[(3,.l 0),(4,.c [1] [1] (RC a y D z C v F u b t B c x.x _ _ h hA)),(6,.s 6)]) N0 [] (λ_ L=>(L.set 1 ((pk (aT a y D z C v F u b t B c (pO x.x))))).set 6 (ob (B1 e) (([i6 0,iN x.x.s.g.l.length]:List Value)++rB 64 z6).toArray 53)) λU=>lf ab.zero [0,1,2,3,4] [] [6])))))))
theorem Su(g p z F B D y G v q u C:Nat)(c:Cf)(x:Mc)(K A N:Nat)(t:eH c x K A N)(hA:A≤700000)(I:N≤1000)(ln:Int)(d:List UInt8)(J:d.length=64)(m:Nat)(a b e f i j k n:Int)(P:dw 8 ln d m a b e f i j k n=true):aa U0 16 #[pt g 0,.agg (sV 8 ln d m a b e f i j k n)] [pk (a6 g p z F B D y G v q u C c x)] [0] (λ_=>[pk (a6 g p z F B D y G v q u C c ({x with x:={x.x with V:=mY c x.x.V (⟨a,b,e,f,i,j,k,n⟩:Fa)},inj:=m3 c x.x (⟨a,b,e,f,i,j,k,n⟩:Fa) x.inj x.sc,st:=x.st+1}:Mc))]) (λ_=> .agg (([i6 (gH c x.x.V.D ⟨a,b,e,f,i,j,k,n⟩),i6 0]:List Value)++rB 64 z6).toArray):=aa.pkZ Tryz.func16 λL O=>by
 obtain⟨gi,M,vs,rfl⟩:=O;refine⟨[0,1,2,3,4],λE=>[ob g #[pt q 0,pt p 0,.map (some gi),(E.val 0),vs,iN x.sc,i6 ((x.st+1:Nat):Int)] 114,pk (aT p z F B D y G v q u C c ({x.x with V:=mY c x.x.V ⟨a,b,e,f,i,j,k,n⟩}:Ct)),cM x.id gi,fM (E.val 0) (m3 c x.x (⟨a,b,e,f,i,j,k,n⟩:Fa) x.inj x.sc),c7 vs x.sv],?_,rfl,λE=>⟨rfl,rfl,⟨_,_,_,rfl⟩⟩⟩;have h:=t.ct;have Q:=h.cf;have R:=t.il;have T:x.sv.length≤1000:=U1 t.sl I;have H:x.inj.length≤1000:=U1 t.jl I;have S:=t.sc;have U:=t.st;exact fG Tryz.func16 λw cs=>ra (λr=>[(3,pt (B0 r) 0),(4,pt (B1 r) 0)]) (λr=>[ob (B0 r) (sV 8 ln d m a b e f i j k n) 50,ob (B1 r) (([i6 0,i6 0]:List Value)++rB 64 z6).toArray 53]) λr=>rF [(0,.l 5),(1,.c [] [] (aa.v ((jo 8 ln d m a b e f i j k n (by(simp only[LL,J,J];done)))) λ_=>ALca Value.bool (show(dw 8 ln d m a b e f i j k n)=true from(by exact P))))] 9 (rs [(3,.l 0),(4,ad x.st 1),(7,.s 0)] 0 (ob g #[pt q 0,pt p 0,.map (some gi),M,vs,iN x.sc,i6 ((x.st+1:Nat):Int)] 114) (r0 [(1,.l 5)] [(19,i6 8)] [] (rF [] 20 (rF [] 40 (rF [] 48 (rF [] 56 (rT [] 64 (rr (λ_=>[(2,.l 5),(3,.c [0,1,3] [0,1,3] (Sm g p z F B D y G v q u C c x.x _ _ h hA a b e f i j k n x.inj H x.sc (x.st+1) gi M vs)),(4,.s 6)]) N0 [] (λo L=>(((L.set 0 (ob g #[pt q 0,pt p 0,.map (some gi),((o 3).val 0),vs,iN x.sc,i6 ((x.st+1:Nat):Int)] 114)).set 1 ((pk (aT p z F B D y G v q u C c ({x.x with V:=mY c x.x.V ⟨a,b,e,f,i,j,k,n⟩}:Ct))))).set 3 (fM ((o 3).val 0) (m3 c x.x (⟨a,b,e,f,i,j,k,n⟩:Fa) x.inj x.sc))).set 6 (ob (B1 r) (([i6 (gH c x.x.V.D ⟨a,b,e,f,i,j,k,n⟩),i6 0]:List Value)++rB 64 z6).toArray 53)) λo=>lf (.l [] [] [((o 3).val 0)]) [0,1,2,3,4] [] [6]))))))))
theorem Sw(g q B G C F z H y r v D:Nat)(c:Cf)(x:Mc)(K A N:Nat)(u:eH c x K A N)(hA:A≤700000)(P:N≤1000)(Q:K+3≤1000000000)(n:Nat)(W:n<((c.R*c.B*c.M-c.res)*c.C))(d:List UInt8)(J:d.length=64)(m:Nat)(a b e f i j k o:Int)(S:dw 1 (n:Int) d m a b e f i j k o=true):aa U0 16 #[pt g 0,.agg (sV 1 (n:Int) d m a b e f i j k o)] [pk (a6 g q B G C F z H y r v D c x)] [0] (λ_=>[pk (a6 g q B G C F z H y r v D c (EN c ({x with st:=x.st+1}:Mc) n (⟨1,(n:Int),d,m,a,b,e,f,i,j,k,o⟩:St):Mc))]) (λ_=> .agg (([i6 (cd (bM c x.x (bc x.x n))),i6 0]:List Value)++rB 64 (cN c x.x (bc x.x n))).toArray):=aa.pkZ Tryz.func16 λL R=>by
 obtain⟨gi,I,vs,rfl⟩:=R;refine⟨[0,1,2,3,4],λE=>[ob g #[pt r 0,pt q 0,.map (some gi),I,(E.val 0),iN x.sc,i6 ((x.st+1:Nat):Int)] 114,pk (aT q B G C F z H y r v D c (cO c x.x n c.W)),cM x.id gi,fM I x.inj,c7 (E.val 0) (x.sv++([(⟨1,(n:Int),d,m,a,b,e,f,i,j,k,o,(cd (bM c x.x (bc x.x n))),0,cN c x.x (bc x.x n),(x.id (n:Int)),x.x.V.l.length,(cO c x.x n c.W).V.l.length⟩:Sv)]))],?_,rfl,λE=>⟨rfl,rfl,⟨_,_,_,rfl⟩⟩⟩;have h:=u.ct;have T:=h.cf;have M:=u.il;have O:x.sv.length≤1000:=U1 u.sl P;have U:x.inj.length≤1000:=U1 u.jl P;have X:=u.sc;have Y:=u.st;exact fG Tryz.func16 λw cs=>ra (λt=>[(3,pt (B0 t) 0),(4,pt (B1 t) 0)]) (λt=>[ob (B0 t) (sV 1 (n:Int) d m a b e f i j k o) 50,ob (B1 t) (([i6 0,i6 0]:List Value)++rB 64 z6).toArray 53]) λt=>rF [(0,.l 5),(1,.c [] [] (aa.v ((jo 1 (n:Int) d m a b e f i j k o (by(simp only[LL,J,J];done)))) λ_=>ALca Value.bool (show(dw 1 (n:Int) d m a b e f i j k o)=true from(by exact S))))] 9 (rs [(3,.l 0),(4,ad x.st 1),(7,.s 0)] 0 (ob g #[pt r 0,pt q 0,.map (some gi),I,vs,iN x.sc,i6 ((x.st+1:Nat):Int)] 114) (r0 [(1,.l 5)] [(19,i6 1)] [] (rF [] 20 (rF [] 40 (rF [] 48 (rF [] 56 (rF [] 64 (rr (λ_=>[(1,.l 5),(2,.c [0,1,2,4] [0,1,2,4] (Se g q B G C F z H y r v D c x.x _ _ h hA Q n W d (by(simp only[LL,J,J];done)) m a b e f i j k o x.id M x.sv O x.sc (x.st+1) gi I vs)),(3,.s 6)]) N0 [] (λp L=>(((L.set 0 (ob g #[pt r 0,pt q 0,.map (some gi),I,((p 2).val 0),iN x.sc,i6 ((x.st+1:Nat):Int)] 114)).set 1 ((pk (aT q B G C F z H y r v D c (cO c x.x n c.W))))).set 4 (c7 ((p 2).val 0) (x.sv++([(⟨1,(n:Int),d,m,a,b,e,f,i,j,k,o,(cd (bM c x.x (bc x.x n))),0,cN c x.x (bc x.x n),(x.id (n:Int)),x.x.V.l.length,(cO c x.x n c.W).V.l.length⟩:Sv)])))).set 6 (ob (B1 t) (([i6 (cd (bM c x.x (bc x.x n))),i6 0]:List Value)++rB 64 (cN c x.x (bc x.x n))).toArray 53)) λp=>lf (.l [] [] [((p 2).val 0)]) [0,1,2,3,4] [] [6]))))))))
theorem Sx(g q B G C F z H y r v D:Nat)(c:Cf)(x:Mc)(K A N:Nat)(u:eH c x K A N)(hA:A≤700000)(P:N≤1000)(Q:K+3≤1000000000)(n:Nat)(W:n<((c.R*c.B*c.M-c.res)*c.C))(d:List UInt8)(J:d.length=64)(m:Nat)(a b e f i j k o:Int)(S:dw 2 (n:Int) d m a b e f i j k o=true):aa U0 16 #[pt g 0,.agg (sV 2 (n:Int) d m a b e f i j k o)] [pk (a6 g q B G C F z H y r v D c x)] [0] (λ_=>[pk (a6 g q B G C F z H y r v D c (u9 c ({x with st:=x.st+1}:Mc) n 18446744073709551615 (⟨2,(n:Int),d,m,a,b,e,f,i,j,k,o⟩:St):Mc))]) (λ_=> .agg (([i6 (cq c x.x n 18446744073709551615),i6 0]:List Value)++rB 64 z6).toArray):=aa.pkZ Tryz.func16 λL R=>by
 obtain⟨gi,I,vs,rfl⟩:=R;refine⟨[0,1,2,3,4],λE=>[ob g #[pt r 0,pt q 0,.map (some gi),I,(E.val 0),iN x.sc,i6 ((x.st+1:Nat):Int)] 114,pk (aT q B G C F z H y r v D c (bG c x.x n d 18446744073709551615)),cM (dM x.id (n:Int) (ig (x.id (n:Int)) d 18446744073709551615)) gi,fM I x.inj,c7 (E.val 0) (x.sv++([(⟨2,(n:Int),d,m,a,b,e,f,i,j,k,o,(cq c x.x n 18446744073709551615),0,UZ 64 0,(x.id (n:Int)),x.x.V.l.length,(bG c x.x n d 18446744073709551615).V.l.length⟩:Sv)]))],?_,rfl,λE=>⟨rfl,rfl,⟨_,_,_,rfl⟩⟩⟩;have h:=u.ct;have T:=h.cf;have M:=u.il;have O:x.sv.length≤1000:=U1 u.sl P;have U:x.inj.length≤1000:=U1 u.jl P;have X:=u.sc;have Y:=u.st;exact fG Tryz.func16 λw cs=>ra (λt=>[(3,pt (B0 t) 0),(4,pt (B1 t) 0)]) (λt=>[ob (B0 t) (sV 2 (n:Int) d m a b e f i j k o) 50,ob (B1 t) (([i6 0,i6 0]:List Value)++rB 64 z6).toArray 53]) λt=>rF [(0,.l 5),(1,.c [] [] (aa.v ((jo 2 (n:Int) d m a b e f i j k o (by(simp only[LL,J,J];done)))) λ_=>ALca Value.bool (show(dw 2 (n:Int) d m a b e f i j k o)=true from(by exact S))))] 9 (rs [(3,.l 0),(4,ad x.st 1),(7,.s 0)] 0 (ob g #[pt r 0,pt q 0,.map (some gi),I,vs,iN x.sc,i6 ((x.st+1:Nat):Int)] 114) (r0 [(1,.l 5)] [(19,i6 2)] [] (rF [] 20 (rF [] 40 (rF [] 48 (rF [] 56 (rF [] 64 (rr (λ_=>[(1,.l 5),(2,.c [0,1,2,4] [0,1,2,4] (Si g q B G C F z H y r v D c x.x _ _ h hA Q n W d (by(simp only[LL,J,J];done)) m a b e f i j k o x.id M x.sv O x.sc (x.st+1) gi I vs)),(3,.s 6)]) N0 [] (λp L=>((((L.set 0 (ob g #[pt r 0,pt q 0,.map (some gi),I,((p 2).val 0),iN x.sc,i6 ((x.st+1:Nat):Int)] 114)).set 1 ((pk (aT q B G C F z H y r v D c (bG c x.x n d 18446744073709551615))))).set 2 (cM (dM x.id (n:Int) (ig (x.id (n:Int)) d 18446744073709551615)) gi)).set 4 (c7 ((p 2).val 0) (x.sv++([(⟨2,(n:Int),d,m,a,b,e,f,i,j,k,o,(cq c x.x n 18446744073709551615),0,UZ 64 0,(x.id (n:Int)),x.x.V.l.length,(bG c x.x n d 18446744073709551615).V.l.length⟩:Sv)])))).set 6 (ob (B1 t) (([i6 (cq c x.x n 18446744073709551615),i6 0]:List Value)++rB 64 z6).toArray 53)) λp=>lf (.l [] [] [((p 2).val 0)]) [0,1,2,3,4] [] [6]))))))))
theorem Sy(g q B G C F z H y r v D:Nat)(c:Cf)(x:Mc)(K A N:Nat)(u:eH c x K A N)(hA:A≤700000)(R:N≤1000)(S:K+3≤1000000000)(n:Nat)(Y:n<((c.R*c.B*c.M-c.res)*c.C))(d:List UInt8)(J:d.length=64)(m:Nat)(a b e f i j k o:Int)(U:dw 3 (n:Int) d m a b e f i j k o=true)(P:m<18446744073709551616)(O:m≠0):aa U0 16 #[pt g 0,.agg (sV 3 (n:Int) d m a b e f i j k o)] [pk (a6 g q B G C F z H y r v D c x)] [0] (λ_=>[pk (a6 g q B G C F z H y r v D c (u9 c ({x with st:=x.st+1}:Mc) n m (⟨3,(n:Int),d,m,a,b,e,f,i,j,k,o⟩:St):Mc))]) (λ_=> .agg (([i6 (cq c x.x n m),i6 0]:List Value)++rB 64 z6).toArray):=aa.pkZ Tryz.func16 λL T=>by
 obtain⟨gi,I,vs,rfl⟩:=T;refine⟨[0,1,2,3,4],λE=>[ob g #[pt r 0,pt q 0,.map (some gi),I,(E.val 0),iN x.sc,i6 ((x.st+1:Nat):Int)] 114,pk (aT q B G C F z H y r v D c (bG c x.x n d m)),cM (dM x.id (n:Int) (ig (x.id (n:Int)) d m)) gi,fM I x.inj,c7 (E.val 0) (x.sv++([(⟨3,(n:Int),d,m,a,b,e,f,i,j,k,o,(cq c x.x n m),0,UZ 64 0,(x.id (n:Int)),x.x.V.l.length,(bG c x.x n d m).V.l.length⟩:Sv)]))],?_,rfl,λE=>⟨rfl,rfl,⟨_,_,_,rfl⟩⟩⟩;have h:=u.ct;have W:=h.cf;have M:=u.il;have Q:x.sv.length≤1000:=U1 u.sl R;have X:x.inj.length≤1000:=U1 u.jl R;have Z:=u.sc;have hst:=u.st;exact fG Tryz.func16 λw cs=>ra (λt=>[(3,pt (B0 t) 0),(4,pt (B1 t) 0)]) (λt=>[ob (B0 t) (sV 3 (n:Int) d m a b e f i j k o) 50,ob (B1 t) (([i6 0,i6 0]:List Value)++rB 64 z6).toArray 53]) λt=>rF [(0,.l 5),(1,.c [] [] (aa.v ((jo 3 (n:Int) d m a b e f i j k o (by(simp only[LL,J,J];done)))) λ_=>ALca Value.bool (show(dw 3 (n:Int) d m a b e f i j k o)=true from(by exact U))))] 9 (rs [(3,.l 0),(4,ad x.st 1),(7,.s 0)] 0 (ob g #[pt r 0,pt q 0,.map (some gi),I,vs,iN x.sc,i6 ((x.st+1:Nat):Int)] 114) (r0 [(1,.l 5)] [(19,i6 3)] [] (rF [] 20 (rF [] 40 (rF [] 48 (rF [] 56 (rF [] 64 (rr (λ_=>[(1,.l 5),(2,.c [0,1,2,4] [0,1,2,4] (Sj g q B G C F z H y r v D c x.x _ _ h hA S n Y d (by(simp only[LL,J,J];done)) m a b e f i j k o P O x.id M x.sv Q x.sc (x.st+1) gi I vs)),(3,.s 6)]) N0 [] (λp L=>((((L.set 0 (ob g #[pt r 0,pt q 0,.map (some gi),I,((p 2).val 0),iN x.sc,i6 ((x.st+1:Nat):Int)] 114)).set 1 ((pk (aT q B G C F z H y r v D c (bG c x.x n d m))))).set 2 (cM (dM x.id (n:Int) (ig (x.id (n:Int)) d m)) gi)).set 4 (c7 ((p 2).val 0) (x.sv++([(⟨3,(n:Int),d,m,a,b,e,f,i,j,k,o,(cq c x.x n m),0,UZ 64 0,(x.id (n:Int)),x.x.V.l.length,(bG c x.x n d m).V.l.length⟩:Sv)])))).set 6 (ob (B1 t) (([i6 (cq c x.x n m),i6 0]:List Value)++rB 64 z6).toArray 53)) λp=>lf (.l [] [] [((p 2).val 0)]) [0,1,2,3,4] [] [6]))))))))
theorem Sz(g a y D z C v F u b t B:Nat)(c:Cf)(x:Mc)(K A N:Nat)(r:eH c x K A N)(hA:A≤700000)(M:N≤1000)(O:K+3≤1000000000)(n:Nat)(T:n<((c.R*c.B*c.M-c.res)*c.C))(d:List UInt8)(G:d.length=64)(f i j k m o p q:Int)(Q:dw 3 (n:Int) d 0 f i j k m o p q=true):aa U0 16 #[pt g 0,.agg (sV 3 (n:Int) d 0 f i j k m o p q)] [pk (a6 g a y D z C v F u b t B c x)] [0] (λ_=>[pk (a6 g a y D z C v F u b t B c (EO c ({x with st:=x.st+1}:Mc) n d:Mc))]) (λ_=> .agg (([i6 (cq c x.x n 0),i6 0]:List Value)++rB 64 z6).toArray):=aa.pkZ Tryz.func16 λL P=>by
 obtain⟨gi,H,vs,rfl⟩:=P;refine⟨[0,1,2,3,4],λ_=>[ob g #[pt b 0,pt a 0,.map (some gi),H,vs,iN x.sc,i6 ((x.st+1:Nat):Int)] 114,pk (aT a y D z C v F u b t B c (bG c x.x n d 0)),cM x.id gi,fM H x.inj,c7 vs x.sv],?_,rfl,λE=>⟨rfl,rfl,⟨_,_,_,rfl⟩⟩⟩;have h:=r.ct;have R:=h.cf;have I:=r.il;have J:x.sv.length≤1000:=U1 r.sl M;have S:x.inj.length≤1000:=U1 r.jl M;have U:=r.sc;have V:=r.st;exact fG Tryz.func16 λw cs=>ra (λe=>[(3,pt (B0 e) 0),(4,pt (B1 e) 0)]) (λe=>[ob (B0 e) (sV 3 (n:Int) d 0 f i j k m o p q) 50,ob (B1 e) (([i6 0,i6 0]:List Value)++rB 64 z6).toArray 53]) λe=>rF [(0,.l 5),(1,.c [] [] (aa.v ((jo 3 (n:Int) d 0 f i j k m o p q (by(simp only[LL,G,G];done)))) λ_=>ALca Value.bool (show(dw 3 (n:Int) d 0 f i j k m o p q)=true from(by exact Q))))] 9 (rs [(3,.l 0),(4,ad x.st 1),(7,.s 0)] 0 (ob g #[pt b 0,pt a 0,.map (some gi),H,vs,iN x.sc,i6 ((x.st+1:Nat):Int)] 114) (r0 [(1,.l 5)] [(19,i6 3)] [] (rF [] 20 (rF [] 40 (rF [] 48 (rF [] 56 (rF [] 64 (rr (λ_=>[(1,.l 5),(2,.c [0,1,2,4] [0,1,2,4] (Sk g a y D z C v F u b t B c x.x _ _ h hA O n T d (by(simp only[LL,G,G];done)) f i j k m o p q x.id I x.sv J x.sc (x.st+1) gi H vs)),(3,.s 6)]) N0 [] (λ_ L=>(L.set 1 ((pk (aT a y D z C v F u b t B c (bG c x.x n d 0))))).set 6 (ob (B1 e) (([i6 (cq c x.x n 0),i6 0]:List Value)++rB 64 z6).toArray 53)) λW=>lf ab.zero [0,1,2,3,4] [] [6]))))))))
theorem SA(g p y D z C v F u q t B:Nat)(c:Cf)(x:Mc)(K A N:Nat)(r:eH c x K A N)(hA:A≤700000)(M:N≤1000)(O:K+3≤1000000000)(ln:Int)(T:bR ln ((((c.R*c.B*c.M-c.res)*c.C):Nat):Int)=false)(d:List UInt8)(G:d.length=64)(m:Nat)(b e f i j k n o:Int)(Q:dw 1 ln d m b e f i j k n o=true):aa U0 16 #[pt g 0,.agg (sV 1 ln d m b e f i j k n o)] [pk (a6 g p y D z C v F u q t B c x)] [0] (λ_=>[pk (a6 g p y D z C v F u q t B c ({x with st:=x.st+1}:Mc))]) (λ_=> .agg (([i6 30,i6 0]:List Value)++rB 64 z6).toArray):=aa.pkZ Tryz.func16 λL P=>by
 obtain⟨gi,H,vs,rfl⟩:=P;refine⟨[0,1,2,3,4],λ_=>[ob g #[pt q 0,pt p 0,.map (some gi),H,vs,iN x.sc,i6 ((x.st+1:Nat):Int)] 114,pk (aT p y D z C v F u q t B c x.x),cM x.id gi,fM H x.inj,c7 vs x.sv],?_,rfl,λE=>⟨rfl,rfl,⟨_,_,_,rfl⟩⟩⟩;have h:=r.ct;have R:=h.cf;have I:=r.il;have J:x.sv.length≤1000:=U1 r.sl M;have S:x.inj.length≤1000:=U1 r.jl M;have U:=r.sc;have V:=r.st;exact fG Tryz.func16 λw cs=>ra (λa=>[(3,pt (B0 a) 0),(4,pt (B1 a) 0)]) (λa=>[ob (B0 a) (sV 1 ln d m b e f i j k n o) 50,ob (B1 a) (([i6 0,i6 0]:List Value)++rB 64 z6).toArray 53]) λa=>rF [(0,.l 5),(1,.c [] [] (aa.v ((jo 1 ln d m b e f i j k n o (by(simp only[LL,G,G];done)))) λ_=>ALca Value.bool (show(dw 1 ln d m b e f i j k n o)=true from(by exact Q))))] 9 (rs [(3,.l 0),(4,ad x.st 1),(7,.s 0)] 0 (ob g #[pt q 0,pt p 0,.map (some gi),H,vs,iN x.sc,i6 ((x.st+1:Nat):Int)] 114) (r0 [(1,.l 5)] [(19,i6 1)] [] (rF [] 20 (rF [] 40 (rF [] 48 (rF [] 56 (rF [] 64 (rs [(1,.l 5),(2,.c [0,1,2,4] [0,1,2,4] (Sf g p y D z C v F u q t B c x.x _ _ h hA O ln T d (by(simp only[LL,G,G];done)) m b e f i j k n o x.id I x.sv J x.sc (x.st+1) gi H vs)),(3,.s 6)] 6 (ob (B1 a) (([i6 30,i6 0]:List Value)++rB 64 z6).toArray 53) (lf ab.zero [0,1,2,3,4] [] [6])))))))))
theorem SB(g p y D z C v F u q t B:Nat)(c:Cf)(x:Mc)(K A N:Nat)(r:eH c x K A N)(hA:A≤700000)(M:N≤1000)(O:K+3≤1000000000)(ln:Int)(T:bR ln ((((c.R*c.B*c.M-c.res)*c.C):Nat):Int)=false)(d:List UInt8)(G:d.length=64)(m:Nat)(b e f i j k n o:Int)(Q:dw 2 ln d m b e f i j k n o=true):aa U0 16 #[pt g 0,.agg (sV 2 ln d m b e f i j k n o)] [pk (a6 g p y D z C v F u q t B c x)] [0] (λ_=>[pk (a6 g p y D z C v F u q t B c ({x with st:=x.st+1}:Mc))]) (λ_=> .agg (([i6 30,i6 0]:List Value)++rB 64 z6).toArray):=aa.pkZ Tryz.func16 λL P=>by
 obtain⟨gi,H,vs,rfl⟩:=P;refine⟨[0,1,2,3,4],λ_=>[ob g #[pt q 0,pt p 0,.map (some gi),H,vs,iN x.sc,i6 ((x.st+1:Nat):Int)] 114,pk (aT p y D z C v F u q t B c x.x),cM x.id gi,fM H x.inj,c7 vs x.sv],?_,rfl,λE=>⟨rfl,rfl,⟨_,_,_,rfl⟩⟩⟩;have h:=r.ct;have R:=h.cf;have I:=r.il;have J:x.sv.length≤1000:=U1 r.sl M;have S:x.inj.length≤1000:=U1 r.jl M;have U:=r.sc;have V:=r.st;exact fG Tryz.func16 λw cs=>ra (λa=>[(3,pt (B0 a) 0),(4,pt (B1 a) 0)]) (λa=>[ob (B0 a) (sV 2 ln d m b e f i j k n o) 50,ob (B1 a) (([i6 0,i6 0]:List Value)++rB 64 z6).toArray 53]) λa=>rF [(0,.l 5),(1,.c [] [] (aa.v ((jo 2 ln d m b e f i j k n o (by(simp only[LL,G,G];done)))) λ_=>ALca Value.bool (show(dw 2 ln d m b e f i j k n o)=true from(by exact Q))))] 9 (rs [(3,.l 0),(4,ad x.st 1),(7,.s 0)] 0 (ob g #[pt q 0,pt p 0,.map (some gi),H,vs,iN x.sc,i6 ((x.st+1:Nat):Int)] 114) (r0 [(1,.l 5)] [(19,i6 2)] [] (rF [] 20 (rF [] 40 (rF [] 48 (rF [] 56 (rF [] 64 (rs [(1,.l 5),(2,.c [0,1,2,4] [0,1,2,4] (Sg g p y D z C v F u q t B c x.x _ _ h hA O ln T d (by(simp only[LL,G,G];done)) m b e f i j k n o x.id I x.sv J x.sc (x.st+1) gi H vs)),(3,.s 6)] 6 (ob (B1 a) (([i6 30,i6 0]:List Value)++rB 64 z6).toArray 53) (lf ab.zero [0,1,2,3,4] [] [6])))))))))
theorem SC(g p y D z C v F u q t B:Nat)(c:Cf)(x:Mc)(K A N:Nat)(r:eH c x K A N)(hA:A≤700000)(M:N≤1000)(O:K+3≤1000000000)(ln:Int)(T:bR ln ((((c.R*c.B*c.M-c.res)*c.C):Nat):Int)=false)(d:List UInt8)(G:d.length=64)(m:Nat)(b e f i j k n o:Int)(Q:dw 3 ln d m b e f i j k n o=true):aa U0 16 #[pt g 0,.agg (sV 3 ln d m b e f i j k n o)] [pk (a6 g p y D z C v F u q t B c x)] [0] (λ_=>[pk (a6 g p y D z C v F u q t B c ({x with st:=x.st+1}:Mc))]) (λ_=> .agg (([i6 30,i6 0]:List Value)++rB 64 z6).toArray):=aa.pkZ Tryz.func16 λL P=>by
 obtain⟨gi,H,vs,rfl⟩:=P;refine⟨[0,1,2,3,4],λ_=>[ob g #[pt q 0,pt p 0,.map (some gi),H,vs,iN x.sc,i6 ((x.st+1:Nat):Int)] 114,pk (aT p y D z C v F u q t B c x.x),cM x.id gi,fM H x.inj,c7 vs x.sv],?_,rfl,λE=>⟨rfl,rfl,⟨_,_,_,rfl⟩⟩⟩;have h:=r.ct;have R:=h.cf;have I:=r.il;have J:x.sv.length≤1000:=U1 r.sl M;have S:x.inj.length≤1000:=U1 r.jl M;have U:=r.sc;have V:=r.st;exact fG Tryz.func16 λw cs=>ra (λa=>[(3,pt (B0 a) 0),(4,pt (B1 a) 0)]) (λa=>[ob (B0 a) (sV 3 ln d m b e f i j k n o) 50,ob (B1 a) (([i6 0,i6 0]:List Value)++rB 64 z6).toArray 53]) λa=>rF [(0,.l 5),(1,.c [] [] (aa.v ((jo 3 ln d m b e f i j k n o (by(simp only[LL,G,G];done)))) λ_=>ALca Value.bool (show(dw 3 ln d m b e f i j k n o)=true from(by exact Q))))] 9 (rs [(3,.l 0),(4,ad x.st 1),(7,.s 0)] 0 (ob g #[pt q 0,pt p 0,.map (some gi),H,vs,iN x.sc,i6 ((x.st+1:Nat):Int)] 114) (r0 [(1,.l 5)] [(19,i6 3)] [] (rF [] 20 (rF [] 40 (rF [] 48 (rF [] 56 (rF [] 64 (rs [(1,.l 5),(2,.c [0,1,2,4] [0,1,2,4] (Sh g p y D z C v F u q t B c x.x _ _ h hA O ln T d (by(simp only[LL,G,G];done)) m b e f i j k n o x.id I x.sv J x.sc (x.st+1) gi H vs)),(3,.s 6)] 6 (ob (B1 a) (([i6 30,i6 0]:List Value)++rB 64 z6).toArray 53) (lf ab.zero [0,1,2,3,4] [] [6])))))))))
def oR(c:Cf):Nat:=(c.R*c.B*c.M-c.res)*c.C
abbrev va(s:St):Fa:=⟨s.f0,s.f1,s.f2,s.f3,s.f4,s.f5,s.f6,s.f7⟩
abbrev k9:List UInt8:=UZ 64 0
def j7(c:Cf)(x:Mc)(s:St):Mc:=
 if bR s.ln ((oR c:Nat):Int)=true then
  if s.k=1 then EN c x s.ln.toNat s
  else if s.k=2 then u9 c x s.ln.toNat 18446744073709551615 s
  else if s.m=0 then EO c x s.ln.toNat s.d
  else u9 c x s.ln.toNat s.m s
 else x
def ER(c:Cf)(x:Mc)(s:St):An:=
 if bR s.ln ((oR c:Nat):Int)=true then
  if s.k=1 then⟨cd (bM c x.x (bc x.x s.ln.toNat)),0,cN c x.x (bc x.x s.ln.toNat)⟩
  else if s.k=2 then⟨cq c x.x s.ln.toNat 18446744073709551615,0,k9⟩
  else if s.m=0 then⟨30,0,k9⟩
  else⟨cq c x.x s.ln.toNat s.m,0,k9⟩
 else⟨30,0,k9⟩
def dP(c:Cf)(x:Mc)(s:St):Mc:=
 if sR s=true then
  if s.k=4 then{x with x:=kz c x.x,sc:=x.sc+1,st:=x.st+1}
  else if s.k=5 then if x.x.s.r.j.A=0 then{x with st:=x.st+1} else{x with x:=jn c x.x,st:=x.st+1}
  else if s.k=6 then{x with x:=pN x.x,st:=x.st+1}
  else if s.k=7 then{x with x:=pO x.x,st:=x.st+1}
  else if s.k=8 then{x with x:={x.x with V:=mY c x.x.V (va s)},inj:=m3 c x.x (va s) x.inj x.sc,st:=x.st+1}
  else j7 c {x with st:=x.st+1} s
 else x
def lh(c:Cf)(x:Mc)(s:St):An:=
 if sR s=true then
  if s.k=4 then⟨cd (bM c (j6 c x.x) (bc (j6 c x.x) x.x.U)),(x.x.U:Int),k9⟩
  else if s.k=5 then if x.x.s.r.j.A=0 then⟨51,0,k9⟩ else⟨0,0,k9⟩
  else if s.k=6 then⟨0,0,k9⟩
  else if s.k=7 then⟨0,(x.x.s.g.l.length:Int),k9⟩
  else if s.k=8 then⟨gH c x.x.V.D (va s),0,k9⟩
  else ER c x s
 else⟨60,0,k9⟩
structure StOk (s:St):Prop where
 d:s.d.length=64
 m:s.m<18446744073709551616
theorem SD(g e l r o q j t i f h p:Nat)(c:Cf)(x:Mc)(K A N:Nat)(u:eH c x K A N)(hA:A≤700000)(v:N≤1000)(X:K+260≤1000000000)(ht:x.x.s.time<1099511627776)(s:St)(hs:StOk s):aa U0 16 #[pt g 0,.agg (eSt s).toArray] [pk (a6 g e l r o q j t i f h p c x)] [0] (λ_=>[pk (a6 g e l r o q j t i f h p c (dP c x s))]) (λ_=> .agg (EP (lh c x s)).toArray):=by
 obtain⟨w,hm⟩:=hs;by_cases a:sR s=true
 ·have Y:=Sa a;unfold dP lh;rw[ALifp a,ALifp a];obtain⟨k,J,d,m,y,z,B,C,D,F,G,H⟩:=s;have b:K+3≤1000000000:=by omega
  by_cases R:k=4
  ·subst R;exact So g e l r o q j t i f h p c x K A N u hA v b J d w m y z B C D F G H a
  by_cases S:k=5
  ·subst S;by_cases I:x.x.s.r.j.A=0
   ·rw[ALifn (show ¬(5:Int)=4 by decide),ALifp rfl,ALifp I,ALifn (show ¬(5:Int)=4 by decide),ALifp rfl,ALifp I];exact Sq g e l r o q j t i f h p c x K A N u hA v I J d w m y z B C D F G H a
   ·rw[ALifn (show ¬(5:Int)=4 by decide),ALifp rfl,ALifn I,ALifn (show ¬(5:Int)=4 by decide),ALifp rfl,ALifn I];exact Sp g e l r o q j t i f h p c x K A N u hA v X I J d w m y z B C D F G H a
  by_cases T:k=6
  ·subst T;exact Sr g e l r o q j t i f h p c x K A N u hA v ht J d w m y z B C D F G H a
  by_cases U:k=7
  ·subst U;exact Ss g e l r o q j t i f h p c x K A N u hA v J d w m y z B C D F G H a
  by_cases V:k=8
  ·subst V;exact Su g e l r o q j t i f h p c x K A N u hA v J d w m y z B C D F G H a
  rw[ALifn R,ALifn S,ALifn T,ALifn U,ALifn V,ALifn R,ALifn S,ALifn T,ALifn U,ALifn V];unfold j7 ER;have Z:1≤k∧k≤8:=Y;by_cases I:bR J ((oR c:Nat):Int)=true
  ·obtain⟨W,b2⟩:=kU.1 I;obtain⟨n,rfl⟩: ∃n:Nat,J=(n:Int):=⟨J.toNat,(Int.toNat_of_nonneg W).symm⟩;have O:n<oR c:=by omega
   rw[ALifp I,ALifp I];by_cases P:k=1
   ·subst P;exact Sw g e l r o q j t i f h p c x K A N u hA v b n O d w m y z B C D F G H a
   by_cases Q:k=2
   ·subst Q;exact Sx g e l r o q j t i f h p c x K A N u hA v b n O d w m y z B C D F G H a
   obtain rfl:k=3:=by omega
   by_cases L:m=0
   ·subst L;exact Sz g e l r o q j t i f h p c x K A N u hA v b n O d w y z B C D F G H a
   ·rw[ALifn (show ¬(3:Int)=1 by decide),ALifn (show ¬(3:Int)=2 by decide),ALifn L,ALifn (show ¬(3:Int)=1 by decide),ALifn (show ¬(3:Int)=2 by decide),ALifn L];exact Sy g e l r o q j t i f h p c x K A N u hA v b n O d w m y z B C D F G H a hm L
  ·rw[ALifn I,ALifn I];have M:bR J ((oR c:Nat):Int)=false:=by simpa using I
   by_cases P:k=1
   ·subst P;exact SA g e l r o q j t i f h p c x K A N u hA v b J M d w m y z B C D F G H a
   by_cases Q:k=2
   ·subst Q;exact SB g e l r o q j t i f h p c x K A N u hA v b J M d w m y z B C D F G H a
   obtain rfl:k=3:=by omega
   exact SC g e l r o q j t i f h p c x K A N u hA v b J M d w m y z B C D F G H a
 ·unfold dP lh;rw[ALifn a,ALifn a];exact Sn g e l r o q j t i f h p c x K A N u hA v s.k s.ln s.d w s.m s.f0 s.f1 s.f2 s.f3 s.f4 s.f5 s.f6 s.f7 (by simpa [sR] using a)
theorem eH.mono{c:Cf}{x:Mc}{K A N d b e:Nat}(h:eH c x K A N)(f:K≤d)(hA:A≤b)(a:N≤e):eH c x d b e:=⟨h.ct.mono f hA,h.il,U1 h.jl a,U1 h.sl a,U1 h.sc a,U1 h.st a⟩
theorem SE{c:Cf}{i:Int}(h:bR i ((oR c:Nat):Int)=true):i.toNat<(c.R*c.B*c.M-c.res)*c.C:=by
 have:=kU.1 h;unfold oR at this;omega
theorem SF(c:Cf)(y:Ct)(f:Fa)(l:List Ij)(sc:Nat):(m3 c y f l sc).length≤l.length+1:=by
 unfold m3;cases gH c y.V.D f==0
 ·exact Vm _
 ·exact Nat.le_of_eq U6
theorem SG{c:Cf}{x:Mc}{K A N:Nat}(h:eH c x K A N){s:St}(hs:StOk s)(b:K+3≤1000000000):eH c (j7 c x s) (K+3) (A+2) (N+1):=by
 have a:eH c x (K+3) (A+2) (N+1):=h.mono Om Om Om;unfold j7
 split
 ·rename_i f;have d:=SE f;have e: ∀(l:List UInt8),l.length=64→∀k,(dM x.id ((s.ln.toNat:Nat):Int) l k).length=64:=λl g k=>rC h.il _ g k;have mg: ∀m,(ig (x.id ((s.ln.toNat:Nat):Int)) s.d m).length=64:=λm=>(yo ..).trans (h.il _);have ls: ∀y:Sv,(x.sv++[y]).length≤N+1:=λy=>by rw[U6];exact U7 h.sl
  split
  ·exact⟨En h.ct d _ b,h.il,a.jl,ls _,a.sc,a.st⟩
  ·split
   ·exact⟨yp h.ct d hs.d _ b,e _ (mg _),a.jl,ls _,a.sc,a.st⟩
   ·split
    ·exact⟨yp h.ct d hs.d _ b,h.il,a.jl,a.sl,a.sc,a.st⟩
    ·exact⟨yp h.ct d hs.d _ b,e _ (mg _),a.jl,ls _,a.sc,a.st⟩
 ·exact a
theorem SH{c:Cf}{x:Mc}{K A N:Nat}(h:eH c x K A N){s:St}(hs:StOk s)(f:K+260≤1000000000)(ht:x.x.s.time<1099511627776):eH c (dP c x s) (K+260) (A+3) (N+1):=by
 have a:eH c x (K+260) (A+3) (N+1):=h.mono Om Om Om;have d: ∀{y:Ct},bI c y (K+260) (A+3)→eH c {x with x:=y,st:=x.st+1} (K+260) (A+3) (N+1):=λg=>⟨g,a.il,a.jl,a.sl,a.sc,U7 h.st⟩;unfold dP
 split
 ·split
  ·exact⟨(Ri h.ct Om).mono Om Om,a.il,a.jl,a.sl,U7 h.sc,U7 h.st⟩
  ·split
   ·split
    ·exact d a.ct
    ·rename_i i;exact d (Ry h.ct i f)
   ·split
    ·exact d ((Rz h.ct ht).mono Om Om)
    ·split
     ·exact d ((RA h.ct).mono Om Om)
     ·split
      ·have g:bI c {x.x with V:=mY c x.x.V (va s)} K A:=⟨h.ct.cf,h.ct.s,Qz h.ct.D _,h.ct.gl,h.ct.vl,h.ct.nl,h.ct.ly,h.ct.run,h.ct.U,h.ct.time⟩;exact⟨g.mono Om Om,a.il,U1 (SF ..) (U7 h.jl),a.sl,a.sc,U7 h.st⟩
      ·have g:eH c {x with st:=x.st+1} K A (N+1):=⟨h.ct,h.il,Vs h.jl,Vs h.sl,Vs h.sc,U7 h.st⟩;have e:=SG (x:={x with st:=x.st+1}) (N:=N+1) g hs Om;have b:(j7 c {x with st:=x.st+1} s).sv.length≤N+1∧(j7 c {x with st:=x.st+1} s).inj=x.inj∧(j7 c {x with st:=x.st+1} s).sc=x.sc∧(j7 c {x with st:=x.st+1} s).st=x.st+1:=by
        have ls: ∀y:Sv,(x.sv++[y]).length≤N+1:=λy=>by rw[U6];exact U7 h.sl
        unfold j7
        split
        ·split
         ·exact⟨ls _,rfl,rfl,rfl⟩
         ·split
          ·exact⟨ls _,rfl,rfl,rfl⟩
          ·split
           ·exact⟨a.sl,rfl,rfl,rfl⟩
           ·exact⟨ls _,rfl,rfl,rfl⟩
        ·exact⟨a.sl,rfl,rfl,rfl⟩
       exact⟨e.ct.mono Om Om,e.il,by rw[b.2.1];exact a.jl,b.1,by rw[b.2.2.1];exact a.sc,by rw[b.2.2.2];exact U7 h.st⟩
 ·exact a
theorem SI(c:Cf)(x:Mc)(s:St):(j7 c x s).x.s.time=x.x.s.time:=by
 unfold j7
 split
 ·split
  ·rfl
  ·split
   ·rfl
   ·split<;>rfl
 ·rfl
theorem SJ(c:Cf)(x:Mc)(s:St):(dP c x s).x.s.time≤x.x.s.time+1:=by
 unfold dP
 split
 ·split
  ·exact Vm _
  ·split
   ·split
    ·exact Vm _
    ·exact Vm _
   ·split
    ·exact Vi _
    ·split
     ·exact Vm _
     ·split
      ·exact Vm _
      ·rw[SI];exact Vm _
 ·exact Vm _
def rQ(M C r j:Nat):Nat:=bT r (j/C/M) (j/C%M) (j%C)
theorem SK{B M C b w c:Nat}(k:b<B)(f:w<M)(d:c<C):b*(M*C)+w*C+c<B*M*C∧(b*(M*C)+w*C+c)/C/M=b∧(b*(M*C)+w*C+c)/C%M=w∧(b*(M*C)+w*C+c)%C=c:=by
 have e:b*(M*C)+w*C+c=(b*M+w)*C+c:=by rw[Nat.add_mul,Vc]
 have a:(b*(M*C)+w*C+c)/C=b*M+w:=by
  rw[e,Vj,VK Om,VH d,VD]
 have g:(b*M+w)/M=b:=by rw[Vj,VK Om,VH f,VD]
 have h:(b*M+w)%M=w:=by rw[Vj,VL,VI f]
 refine⟨?_,by rw[a,g],by rw[a,h],by rw[e,Vj,VL,VI d]⟩;rw[e];have i:b*M+w+1≤B*M:=by
  have:(b+1)*M≤B*M:=Vw M k;rw[Vq] at this;omega
 have j:(b*M+w+1)*C≤B*M*C:=Vw C i;rw[Vq] at j;omega
theorem SL{B M C r b w c:Nat}(g:b<B)(i:w<M)(h:c<C):((Vl (B*M*C)).map (rQ M C r))[b*(M*C)+w*C+c]? =some (bT r b w c):=by
 obtain⟨a,d,e,f⟩:=SK g i h;rw[VB,Vp a,VE];unfold rQ;rw[d,e,f]
theorem SM(a p1 p2 p3:Nat)(h0:a<8)(h1:p1<16)(h2:p2<1024)(b:p3<64):aa U0 102 #[.agg #[iN a,iN p1,iN p2,iN p3]] [] [] N0 (λ_=>i6 ((bT a p1 p2 p3:Nat):Int)):=by
 have:=Cl (a:Int) p1 p2 p3 Om Om Om Om Om Om Om Om;rwa [tZ] at this
theorem SN(m n R S B M C r:Nat)(s:cu R S B M C)(N:r<R+S):eT 5 U0 101 #[pt m 0,pt n 0] (λ(i:Nat)=>#[iN i]) ((Vl (B*M*C)).map (rQ M C r)) (Vn [[(m,.cells #[iN R,iN S,iN B,iN M,iN C] 23 (0,0))],[(n,.cells #[iN r] 3 (0,0))]]):=by
 have a:=s.bd;have q:=a.r8;have h:=a.b16;have G:=a.m10;have H:=a.c64;refine gi (KO:=[[(m,.cells #[iN R,iN S,iN B,iN M,iN C] 23 (0,0))],[(n,.cells #[iN r] 3 (0,0))]]) Tryz.func101 (λO T Q X V t J I=>?_);refine rF [(0,.l 0),(1,.l 1),(3,.c [] [] (aa.v ((qP R S B M C s (r:Int) 0 0 0)) λ_=>ALca Value.bool (show(hold R S B M C (r:Int) 0 0 0)=true from(by exact(gS.hold (p1:=0) (p2:=0) (p3:=0) ⟨N,a.b1,a.m1,a.c1⟩)))))] 11 (r0 [(1,.l 0)] [(13,iN B),(14,i6 0)] [] ?_);refine jv (λb=>b≤B) (λb=>[(14,iN b)]) (λ_ L=>L) (λb=>B-b) (λb=>b*(M*C)) 0 Om (by(rw[VC]);exact I) Kr Kr (λb U W K k=>?_);refine r0 [] [(15,.bool (decide ((b:Int)<(B:Int))))] [] ?_;refine b4 (b:Int) (B:Int) (λq o=>?_) λq o=>?_
 ·refine r0 [] [(4,iN b)] [] (r0 [(1,.l 0)] [(18,iN M),(19,i6 0)] [] ?_);refine jv (λw=>w≤M) (λw=>[(19,iN w)]) (λ_ L=>L) (λw=>M-w) (λw=>b*(M*C)+w*C) 0 Om (by(rw[VC,VD]);exact k) Kr Kr (λw x A u d=>?_);refine r0 [] [(20,.bool (decide ((w:Int)<(M:Int))))] [] ?_;refine b4 (w:Int) (M:Int) (λh f=>?_) λh f=>?_
  ·refine r0 [] [(5,iN w)] [] (r0 [(1,.l 0)] [(23,iN C),(24,i6 0)] [] ?_);refine jv (λc=>c≤C) (λc=>[(24,iN c)]) (λ_ L=>L) (λc=>C-c) (λc=>b*(M*C)+w*C+c) 0 Om d Kr Kr (λc y D v e=>?_);refine r0 [] [(25,.bool (decide ((c:Int)<(C:Int))))] [] ?_;refine b4 (c:Int) (C:Int) (λp g=>?_) λp g=>?_
   ·refine r0 [] [(6,iN c)] [] ?_;refine iy t J e 7 (λ_=>[(1,.l 1),(6,.c [] [] (SM r b w c Om Om Om Om))]) (λ_=>[(27,.func (.yield O) #[] #[]),(33,i6 ((bT r b w c:Nat):Int))]) [] (λ_ L=>L) N0 [0,1] (SL Om Om Om) (λP z F j=>?_);refine cF _ rfl (r0 [(0,ad c 1)] [(24,i6 ((c+1:Nat):Int))] [24] ?_);exact ia (c+1) Om j Om Kr [0,1] Kr
   obtain rfl:C=c:=by omega
   refine jw ?_;refine r0 [(0,ad w 1)] [(19,i6 ((w+1:Nat):Int))] [19] ?_;exact ia (w+1) Om (by(rw[Vq,←Nat.add_assoc]);exact e) Om Kr [0,1] Kr
  obtain rfl:M=w:=by omega
  refine jw ?_;refine r0 [(0,ad b 1)] [(14,i6 ((b+1:Nat):Int))] [14] ?_;exact ia (b+1) Om (by(rw[Vq]);exact d) Om Kr [0,1] Kr
 obtain rfl:B=b:=by omega
 refine jw ?_;exact kk t k (by rw[Vf,U9,Vc]) [] [0,1]
theorem SO(R S B M C r:Nat):aa U0 66 #[.agg #[iN R,iN S,iN B,iN M,iN C],iN r] [] [] (λE=>[ob (E.y 0) #[iN R,iN S,iN B,iN M,iN C] 23,ob (E.y 1) #[iN r] 3]) (λE=> .func (.func 101) #[] #[pt ((E.y 0)) 0,pt ((E.y 1)) 0]):=by
 exact fG Tryz.func66 λw cs=>ra (λa=>[(2,pt (B0 a) 0),(3,pt (B1 a) 0),(4,.nilFunc)]) (λa=>[ob (B0 a) #[iN R,iN S,iN B,iN M,iN C] 23,ob (B1 a) #[iN r] 3]) λa=>r0 [] [(4,.func (.func 101) #[] #[pt (B0 a) 0,pt (B1 a) 0])] [4] (lf (.l [(a 0).y 0,(a 1).y 0] [] []) [0,1] [] [])
theorem SP(d:Nat)(v:Value)(l:List Re)(bs:av)(f:aJ l0 v l bs)(C:l.length≤1000000):eT 5 U0 96 #[pt d 0] (λ(x:Re)=>#[.agg #[iN x.s,iN x.t,iN x.k,iN x.i,iN x.o]]) (l) (Vn [[(d,.cells #[v] 41 (0,0))],bs]):=by
 refine gi (KO:=[[(d,.cells #[v] 41 (0,0))],bs]) Tryz.func96 (λr w u B z g p n=>?_);refine r0 [(0,.l 0),(1,ey f.1 1)] [(5,v),(6,iN l.length),(7,i6 0)] [] ?_;refine jv (λk=>k≤l.length) (λk=>[(7,iN k)]) (λ_ L=>L) (λk=>l.length-k) (λk=>k) 0 Om n Kr Kr (λk y A q b=>?_);refine r0 [] [(8,.bool (decide ((k:Int)<(l.length:Int))))] [] ?_;refine b4 (k:Int) (l.length:Int) (λm e=>?_) λm e=>?_
 ·refine rr (λ_=>[(0,e7 f.1 1 k 5),(1,mG dJ f.1 1 k 0 5),(3,.s 2)]) (λc=>[(4,pt (B2 c) 0)]) [] (λc L=>L++[ob (B2 c) #[i6 (((l.getD k aW).s:Nat):Int),i6 (((l.getD k aW).t:Nat):Int),i6 (((l.getD k aW).k:Nat):Int),i6 (((l.getD k aW).i:Nat):Int),i6 (((l.getD k aW).o:Nat):Int)] 59]) λc=>?_;refine iy g p b 2 (λ_=>[(1,.l 2)]) (λ_=>[(11,.func (.yield r) #[] #[]),(12,.agg #[i6 (((l.getD k aW).s:Nat):Int),i6 (((l.getD k aW).t:Nat):Int),i6 (((l.getD k aW).k:Nat):Int),i6 (((l.getD k aW).i:Nat):Int),i6 (((l.getD k aW).o:Nat):Int)])]) [] (λ_ L=>L) (λ_=>[ob (B2 c) #[i6 (((l.getD k aW).s:Nat):Int),i6 (((l.getD k aW).t:Nat):Int),i6 (((l.getD k aW).k:Nat):Int),i6 (((l.getD k aW).i:Nat):Int),i6 (((l.getD k aW).o:Nat):Int)] 59]) [0,1,2] (Gp aW Om) (λD h j a=>?_);refine cF _ rfl (r0 [(0,ad k 1)] [(7,i6 ((k+1:Nat):Int))] [7] ?_);exact ia (k+1) Om a Om Kr [0,1] Kr
 obtain rfl:l.length=k:=by omega
 refine jw ?_;exact kk g b Om [] [0,1]
section
section
variable {P:Program} {m m' l lr:Nat} {w:World} {Rp:Ending→World→Prop}
theorem SQ{f:FuncId}{t:Array Value}{a b:Code}(h:RoundIn Fence.wide m P l f t a b w Rp):RoundIn Fence.wide m' P l f t a b w Rp:=⟨h.1,λc cs _=>h.2 c cs (room_wide _)⟩
theorem SR{f:FuncId}{t:Array Value}{a b:Code}(h:RoundIn Fence.wide m P l f t a b w Rp):RoundIn (Fence.wide.inRound lr) m' P l f t a b w Rp:=⟨h.1,λc cs _=>h.2 c cs (room_wide _)⟩
theorem SS{args:Array Value}(h:YieldAt Fence.wide m P l args w Rp):YieldAt Fence.wide m' P l args w Rp:=
 let ⟨fn,t,a,b,h1,h2⟩:=h
 ⟨fn,t,a,b,h1,SQ h2⟩
end
theorem nU.lv{α:Type}{n n':Nat}{P:Program}{g:Nat}{lb:Array Value}{encs:α→Array Value}{xs:List α}{K:Nat→Prop}{St:(Nat→Prop)→World→Prop}(h:nU Fence.wide n P g lb encs xs K St):nU Fence.wide n' P g lb encs xs K St:=
 λl J Jx W O k o p q r f=>callsIn_wide.2 (callsIn_wide.1 (h l J Jx W O k o p q (λi x d e a b c=>SS (r i x d e a b c)) f))
def ES{α:Type}(P:Program)(l:Nat)(J Jx:Nat→(Nat→Prop)→World→Prop)(KO:av)(W0:World)(encs:α→Array Value)(xs:List α):Prop:=
 ∀i x f a,xs[i]? =some x→J i f a→W0.heap.size≤a.heap.size→YieldAt Fence.wide 4 P l (encs x) a λe d=>∃c,gw (λb=>∃x∈KO,x.1=b) f c a d∧((e= .returned (.bool true)∧J (i+1) c d)∨(e= .returned (.bool false)∧Jx (i+1) c d))
def rS(P:Program)(fn:Func)(J Jx:Nat→(Nat→Prop)→World→Prop)(N:Nat):Exit→Act→World→Prop:=
 bodyPostM Fence.wide 5 P fn λe b=>(∃v,e= .returned v)∧((∃a,J N a b)∨∃i,i<N∧∃a,Jx (i+1) a b)
section
variable {α:Type} {P:Program} {gf:Nat} {fn:Func} {lb:Array Value} {encs:α→Array Value} {xs:List α} {KO:List av} {J Jx:Nat→(Nat→Prop)→World→Prop} {W0:World} {l j:Nat}
theorem SU(hf:P.funcs[gf]? =some fn)(h: ∀l J Jx W0 R,fZ J→fZ Jx→ES P l J Jx KO.flatten W0 encs xs→Hid (fj J KO W0 0 R W0)→Go Fence.wide 5 P R W0 (rS P fn J Jx xs.length) [.c (jO fn)] ⟨fn.ntmps,nk 0 (.func (.yield l) #[] #[]::lb.toList)⟩ (KO.map .c) [])
  (n:(fn.body.isSome,Nat.ble (lb.size+1) fn.ntmps)=(true,true):=by kernel_rfl):eT 5 P gf lb encs xs KO.flatten:=by
 intro l J Jx W O f t d u x p;have b:fp J KO.flatten W [] 0 W:=⟨⟨O,p,λ_ h=>by simp at h,u⟩,Vi _,by simpa using f⟩;obtain⟨R,s,e⟩:=iv.start (iv.zero b);obtain⟨c,k⟩:=Option.isSome_iff_exists.1 (ALca (·.1) n);have y:lb.size+1≤fn.ntmps:=Nat.le_of_ble_eq_true (ALca (·.2) n);refine callsIn_of_wp_marks hf k trivial ?_ rfl;have o:(#[Value.func (.yield l) #[] #[]]++lb).size=lb.size+1:=by simp;omega
 have g:=(h l J Jx W R t d x s).out {tmps:=(#[Value.func (.yield l) #[] #[]]++lb)++Array.replicate (fn.ntmps-(#[Value.func (.yield l) #[] #[]]++lb).size) undef,defers:=[]} W ⟨by rw[Array.size_append,o,Array.size_replicate];show _=fn.ntmps;omega,λi v hv=>?_,rfl⟩ (by simpa using e.out)
 ·rw[show jO fn=c by unfold jO;rw[k];rfl] at g;exact g
 ·obtain⟨_,a⟩:=qp hv;rw[Nat.sub_zero] at a;have q:i<lb.size+1:=by have:=(List.getElem?_eq_some_iff.1 a).1;simpa using this
  have r:(#[Value.func (.yield l) #[] #[]]++lb)[i]? =some v:=by rw[←Array.getElem?_toList];simpa using a
  rw[Array.getD_eq_getD_getElem?,Array.getElem?_append_left (by rw[o];exact q),r];rfl
theorem vb{α β:Type}(f:α→β): ∀l:List α,(l.map λx=>[f x]).flatten=l.map f
 | []=>rfl
 | x::l=>by rw[V3,Va,vb f l];rfl
theorem yw{R:List Nat}{base W:World}(h:aF R base [] W):cj R base [] W:=by
 obtain⟨cs,b,a⟩:=h.conc;obtain rfl:=mx b;exact a
theorem ET{N:Nat}{b:Act}{W:World}{Ds:List Nat}(c:fn.results.toList=[])(o:b.defers=Ds.map jr)(p:eb (Ds.map dD) W)(h: ∀a,cj ((Ds.map dD).map (·.1)) W [] a→(∃d,J N d a)∨∃i,i<N∧∃d,Jx (i+1) d a):rS P fn J Jx N .ret b W:=by
 show LeavesInM Fence.wide 5 P fn b.tmps _ b.defers .returning W;rw[o];have k:aF ((Ds.map dD).map (·.1)) W ([]++Ds.map mk) W:=by
  have e:=aF.start (w:=W) (qa Ds) (by rw[vb];exact p);rw[vb] at e;exact e
 obtain⟨q,f,g⟩:=aF.seg (L:=[]) k;exact zH f g [] (by rw[c];rfl) λa n=>⟨⟨_,rfl⟩,h a (yw n)⟩
structure AI (J:Nat→(Nat→Prop)→World→Prop) (K Lo:av) (W0:World) (j:Nat) (O1:Nat→Prop) (V:World):Prop where
 ex: ∃O,J j O V∧(∀x∈Lo,¬O x.1)∧∀b,O b→O1 b
 own: ∀x∈K++Lo,O1 x.1
 lt: ∀b,O1 b→b<V.heap.size
 sz:W0.heap.size≤V.heap.size
 has:eb (K++Lo) V
theorem AI.turn{K f:av}{a:Nat→Prop}{V c:World}(i:fZ J)(h:AI J K f W0 j a V)(t:eJ (λb=>¬a b) V c):AI J K f W0 j a c:=
 let ⟨O,h1,h2,h3⟩:=h.ex
 ⟨⟨O,i _ O V c h1 (t.mono λb d k=>d (h3 b k)),h2,h3⟩,h.own,λb d=>Ve (h.lt b d) t.size,U1 h.sz t.size,⟨λx g=>t.heap (λe=>e (h.own x g)) (h.has.obj x g),h.has.nd⟩⟩
theorem cj.turnA{R:List Nat}{base W:World}{L:av}{S:Nat→Prop}(h:cj R base L W)(c: ∀b,b<base.heap.size→b∈R→¬S b→W.heap[b]? =base.heap[b]?):eJ S base W:=
 ⟨h.os,h.tape,h.output,h.size,λb a d=>if hx:b∈R then c b a hx d else h.far b a hx⟩
theorem SV{R:List Nat}{base:World}{Q:Exit→Act→World→Prop}{S:List It}{a:Nat}{es:Fe}{L:ah}{A:World→Prop}{vs:Array Value}{lr:Nat}(N:Nat)(hs:bt→List (Nat×b6 P))(h:bt→Fe)(dr:List Nat)(Le:bt→ah→ah)
  (F: ∀η W,aF R base (Le η L) W→YieldAt Fence.wide 4 P l vs W λe g=>(e= .returned (.bool true)∧A g)∨(e= .returned (.bool false)∧∀b,Q .ret b g))
  (hk: ∀η g,A g→Go (Fence.wide.inRound lr) 3 P [] g Q (bP S) ⟨a,(h8 P (aw S) a ((aw S).drop (N+1)) ((iB S N,.bool true)::(h η++ed dr es))).1⟩ [] [])
  (he: ∀η,((kN S,true),(e4 ((aw S).take N) ⟨a,es⟩ (tP N S ⟨a,es⟩ L (mR Le L) hs) η 0 ((aw S).take N) (nn N S ⟨a,es⟩ L hs η)).map a9.lhs,tj (eK S) (aw S) N (λk=>(iW (eK S) ((aw S).take N)).getD k []),(Vl (mR Le L)).map (λp=>(tP N S ⟨a,es⟩ L (mR Le L) hs).at η p ((aw S).take N).length),(h η).map (λx=>kg ((aw S).take N) ⟨a,es⟩ (tP N S ⟨a,es⟩ L (mR Le L) hs) η x.1),lI ((aw S).take N) es (h η) dr)=
   ((true,true),(e4 ((aw S).take N) ⟨a,es⟩ (tP N S ⟨a,es⟩ L (mR Le L) hs) η 0 ((aw S).take N) (nn N S ⟨a,es⟩ L hs η)).map a9.rhs,true,(Le η L).map some,(h η).map (λx=>some x.2),true):=by intro _;kernel_rfl)
  (H: ∀η,(tn S N l a (h η++ed dr es) vs.toList,(h8 P (aw S) a ((aw S).drop (N+1)) ((iB S N,.bool true)::(h η++ed dr es))).2.map a9.lhs,(h8 P (aw S) a ((aw S).drop (N+1)) ((iB S N,.bool false)::(h η++ed dr es))).2.map a9.lhs,qx 10 (bP S) (h8 P (aw S) a ((aw S).drop (N+1)) ((iB S N,.bool false)::(h η++ed dr es))).1)=
   ((true,some vs.toList,some (.func (.yield l) #[] #[])),(h8 P (aw S) a ((aw S).drop (N+1)) ((iB S N,.bool true)::(h η++ed dr es))).2.map a9.rhs,(h8 P (aw S) a ((aw S).drop (N+1)) ((iB S N,.bool false)::(h η++ed dr es))).2.map a9.rhs,true):=by intro _;kernel_rfl)
  (hm:P.follows .mixedOrders=true:=by kernel_rfl):Go (Fence.wide.inRound lr) 3 P R base Q S ⟨a,es⟩ L []:=by
 refine AE hm N hs h dr Le (λη b W z hO=>?_) he;have f:=ALca (λx=>x.1) (H η);have s:=ALca (λx=>x.2.1) (H η);have t:=ALca (λx=>x.2.2.1) (H η);have u:=ALca (λx=>x.2.2.2) (H η);simp only at f s t u;obtain⟨T,y,K,O,D,i⟩:=F η W (by simpa using hO);unfold tn at f
 split at f
 ·rename_i o ho
  split at f
  ·rename_i xo I ats C;simp only[Prod.mk.injEq,VF,Option.some.injEq] at f;obtain⟨⟨⟨⟨⟨g1,g2⟩,g3⟩,g4⟩,G⟩,g6,g7⟩:=f;obtain⟨d,B⟩:=Option.isSome_iff_exists.1 g4;have v:iB S N=d:=by unfold iB;rw[ho];simp [B]
   have Y:(aw S).drop N=o::(aw S).drop (N+1):=by
    obtain⟨Z,e⟩:=List.getElem?_eq_some_iff.1 (show(aw S)[N]? =some o from ho);rw[List.drop_eq_getElem_cons Z,e]
   rw[Y];have hw:Region.wanted o (yielded (aw S).toArray b.tmps)=true:=wx z g1;unfold wpListIn;rw[ALifp hw];have hxo:b.eval xo= .func (.yield l) #[] #[]:=(mI z g2).trans g7;have X:I.map b.eval=vs:=by
    apply Array.toList_inj.1;rw[Array.toList_map,←g6];exact List.map_congr_left λq hq=>mI z (List.all_eq_true.1 g3 q hq)
   have r:(execOp b.eval o).run P W= .ok (.round l T y K O) W:=by
    unfold execOp;simp only[C,resolve,hxo,Deferred.ofValue,Sem.run_bind,Sem.run_pure,VV,invoke];rw[X];simpa using D
   unfold Oper.wpIn;refine⟨λ_ _=>trivial,?_⟩;rw[Oper.semAt_plain (Fence.wide.inRound lr) _ o (λc hc=>by rw[C] at hc;cases hc),r,Oper.uponIn_round];refine⟨λ_=>by omega,(SR i).mono ?_⟩;rintro e g (⟨rfl,U⟩ | ⟨rfl,U⟩)
   ·rw[v] at s;have h4:=hk η g U;rw[v] at h4;show wpListIn (Fence.wide.inRound lr) 3 P (aw S).toArray _ ((aw S).drop (N+1)) (b.put o.dst (.bool true)) g;rw[B];have V:d<a:=by rw[B] at G;exact VY▸G
    exact qw (z.put V _) (a9.all s) λM n=>h4.out M g n (wA g)
   ·rw[v] at t u;show wpListIn (Fence.wide.inRound lr) 3 P (aw S).toArray _ ((aw S).drop (N+1)) (b.put o.dst (.bool false)) g;rw[B];have V:d<a:=by rw[B] at G;exact VY▸G
    exact qw (z.put V _) (a9.all t) λM n=>wy 10 u n (U M)
  ·simp at f
 ·simp at f
theorem EU{F:Fence}{n:Nat}{R:List Nat}{base:World}{Q:Exit→Act→World→Prop}{S:List It}{a:Sl}{L:ah}{Ds:List Nat}(h: ∀b W,Fr a Ds b→aF R base (L++Ds.map mk) W→Q .normal b W)(d:(nf S).isEmpty=true:=by kernel_rfl):Go F n P R base Q S a L Ds:=by
 refine⟨λb W e c=>dm 1000 S ?_⟩;rw[show c0 1000 S=[] from List.isEmpty_iff.1 d];exact h b W e c
end
end
section
section
variable {α:Type} {P:Program} {fn:Func} {encs:α→Array Value} {xs ys:List α} {KO LO KI:List av} {J Jx:Nat→(Nat→Prop)→World→Prop} {W0:World} {l j:Nat} {R:List Nat} {base:World} {Q:Exit→Act→World→Prop} {S:List It} {sz:Nat} {es:Fe} {L:ah} {Ds:List Nat}
theorem SW{K A M:av}{d:Nat×Obj}(h:(K++(A++M)).Pairwise λx y=>x.1≠y.1)(a: ∀x∈K++(A++M),x.1≠d.1):(K++(A++d::M)).Pairwise λx y=>x.1≠y.1:=by
 have hp:VQ (K++(A++d::M)) (d::(K++(A++M))):=by
  rw[←Vh,←Vh];exact List.perm_middle
 refine(List.Perm.pairwise_iff (λ{x y} h=>Ne.symm h) hp).2 (List.pairwise_cons.2 ⟨λx b=>Ne.symm (a x b),h⟩)
theorem SX{g2:Nat}{lb2:Array Value}(ea:α→Fe)(hJ:fZ J)(hJx:fZ Jx)(hY:ES P l J Jx KO.flatten W0 encs xs)(hI:Hid (fj J KO W0 j R base))(hit:eT 5 P g2 lb2 encs ys KI.flatten)(eg:Enters P g2)
  (hys: ∀i y,ys[i]? =some y→xs[j+i]? =some y) (hQ: ∀b W,rS P fn J Jx xs.length .ret b W→Q .ret b W) (hres:fn.results.toList=[])
  (ps:List Nat) (hKI: ∀x∈KI.flatten,x∈LO.flatten) (hKn:KI.flatten.Sublist LO.flatten)
  (hasg: ∀(lr:Nat) (y:α) (R1:List Nat) (W1:World) (Q1:Exit→Act→World→Prop),(∀b W,Fr ⟨sz,ea y++ed [] (gb (b7 S) (encs y).toList++es)⟩ [] b→aF R1 W1 [] W→Q1 .normal b W)→Go (Fence.wide.inRound lr) 3 P R1 W1 Q1 [.c (jd S)] ⟨sz,gb (b7 S) (encs y).toList++es⟩ [] [])
  (hbod: ∀(lr:Nat) (y:α) (R1:List Nat) (W1:World) (Q1:Exit→Act→World→Prop),(∀W,aF R1 W1 ((KO++LO).map .c) W→YieldAt Fence.wide 4 P l (encs y) W λe w=>(e= .returned (.bool true)∧∀b W'',aF [] w [] W''→Q1 .normal b W'')∨(e= .returned (.bool false)∧∀b,Q1 .ret b w))→Go (Fence.wide.inRound lr) 3 P R1 W1 Q1 [.c (kj S)] ⟨sz,ea y++ed [] (gb (b7 S) (encs y).toList++es)⟩ ((KO++LO).map .c) [])
  (hk: ∀(D:Nat) (R':List Nat) (w:World),Hid (fj J KO W0 (j+ys.length) R' w)→Go Fence.wide 5 P R' w Q (bP S) ⟨sz,es⟩ ((KO++LO).map .c) (D::Ds))
  (hps: ∀x,(encs x).size=(b7 S).length)
  (hc:(mH S,(⟨sz,es⟩:Sl).ev (fD S),(b7 S).all (Nat.blt · sz),cZ (ps.map λp=>[p]).flatten,(ps.map λp=>[p]).map λg=>g.map λp=>L[p]?)=(true,.func (.func g2) #[] lb2,true,true,(((KO++LO).map aB.c).map λx=>[x]).map λN=>N.map some):=by kernel_rfl)
  (hkn:(match fD S with | .tmp i=>(lk es i).isSome | _=>true)=true:=by kernel_rfl):Go Fence.wide 5 P R base Q S ⟨sz,es⟩ L Ds:=by
 have c1:=ALca (λx=>x.1) hc;have c2:=ALca (λx=>x.2.1) hc;have c3:=ALca (λx=>x.2.2.1) hc;have c4:=ALca (λx=>x.2.2.2) hc;simp only at c1 c2 c3 c4;refine⟨λb W f hO=>dm 1000 S ?_⟩;rw[show c0 1000 S=_ from wq c1];show(Code.rangeFunc (fD S) (b7 S).toArray (jd S) (kj S)).wpIn Fence.wide 5 P (cV Fence.wide 5 P Q (bP S)) b W;have H:b.eval (fD S)= .func (.func g2) #[] lb2:=by
  rw[f.ev λi hi=>by rw[hi] at hkn;exact hkn];exact c2
 have hO1:aF R base (KO.map .c++(LO.map .c++Ds.map mk)) W:=by
  have h:=hO.under (L':=(KO++LO).map .c) λh=>h.pick ps _ c4;rwa [V0,Vh] at h
 obtain⟨ds,hds,A⟩:=fj.step hI hJ hO1;have e9:ds.flatten=LO.flatten++Ds.map dD:=by
  obtain⟨d1,d2,rfl,o,h2⟩:=nb hds;rw[Vx,qk o,oZ h2]
 rw[e9] at A;obtain⟨m,d⟩: ∃m,LO.flatten++Ds.map dD=m:=⟨_,rfl⟩;rw[d] at A;obtain⟨O,hO0,hO2,hO3⟩:=A.ex;have q:=A.has;have Z: ∀x∈LO.flatten,x∈m:=λx a=>by rw[←d];exact VT _ a
 have K: ∀x∈KI.flatten,x∈m:=λx a=>Z x (hKI x a);have B: ∀x∈KO.flatten++m,x.1<W.heap.size:=λx a=>(Array.getElem?_eq_some_iff.1 (q.obj x a)).1;have ndKI:KI.flatten.Pairwise λx y=>x.1≠y.1:=by
  have o:=(List.pairwise_append.1 q.nd).2.1;rw[←d] at o;exact(List.pairwise_append.1 o).1.sublist hKn
 have hA0:AI J KO.flatten m W0 (j+0) (λb=>b<W.heap.size) W:=⟨⟨O,hO0,hO2,hO3⟩,B,λ_ h=>h,A.sz,q⟩;refine zJ (F:=Fence.wide) (n:=5) rfl Om H trivial eg (nU.lv (n':=4) hit) (λb=>b<W.heap.size) ?_ (λ_ h=>h) ?_ (λx=>by rw[hps x];simp) (λi k V=>AI J KO.flatten m W0 (j+i) k V) (λc i k V=>c= .ret∧AI Jx KO.flatten m W0 (j+i) k V) (λi k V V' h t=>h.turn hJ t) (λc i k V V' h t=>⟨h.1,h.2.turn hJx t⟩) hA0 ?_ ?_ ?_
 ·intro V hV k _;exact⟨λx a=>(hV x.1 (B x (U3 _ (K x a)))).trans (q.obj x (U3 _ (K x a))),ndKI⟩
 ·rintro b ⟨x,a,rfl⟩;exact B x (U3 _ (K x a))
 ·intro lr i y k V hy hsz hA;have hsz2:(encs y).toList.length=(b7 S).length:=by rw[Array.length_toList];exact hps y
  have hlt: ∀p∈b7 S,p<b.tmps.size:=λp hp=>by rw[f.size];exact VY▸List.all_eq_true.1 c3 p hp
  have hfr:Fr ⟨sz,gb (b7 S) (encs y).toList++es⟩ [] {tmps:=gK b.tmps (b7 S).toArray (encs y),defers:=[]}:=by
   have ee:encs y=(encs y).toList.toArray:=by simp
   refine⟨?_,λi v hv=>?_,rfl⟩
   ·show(gK b.tmps (b7 S).toArray (encs y)).size=sz;rw[ee,th];exact f.size
   ·show(gK b.tmps (b7 S).toArray (encs y)).getD i undef=v;rw[ee,tf _ _ _ i hsz2.symm hlt];simp only[pa] at hv;cases o:lk (gb (b7 S) (encs y).toList) i with
    | some u=>rw[o] at hv;cases hv;rfl
    | none=>rw[o] at hv;exact f.get i v hv
  have o:=(hasg lr y [] V (λe b' Wa=>e= .normal∧Fr ⟨sz,ea y++ed [] (gb (b7 S) (encs y).toList++es)⟩ [] b'∧aF [] V [] Wa) λb' Wa o h2=>⟨rfl,o,h2⟩).out _ V hfr (wA V);refine wpIn_mono (show(jd S).wpIn (Fence.wide.inRound lr) 3 P _ _ V from o) λe a' Wa hq=>?_;obtain⟨rfl,hf',hO'⟩:=hq;have sO:=yw hO';refine⟨k,⟨sO.size,λ_ _ h=>h,λb h=>Ve (hA.lt b h) sO.size,λb f _=>sO.far b f (by simp)⟩,λU hU hUs=>?_⟩;have z:AI J KO.flatten m W0 (j+i) k U:=(hA.turn hJ (sO.turnA λb _ a _=>by simp at a)).turn hJ hU;have hHU:eb (KO++LO).flatten U:=by
   rw[Vx];have hs:(KO.flatten++LO.flatten).Sublist (KO.flatten++m):=by rw[←d,←Vh];exact Vr _ _
   exact⟨λx a=>z.has.obj x (hs.subset a),z.has.nd.sublist hs⟩
  have oU:aF (bJ (KO++LO).flatten) U ((KO++LO).map .c) U:=aF.start (sX _) hHU;refine(hbod lr y (bJ (KO++LO).flatten) U (zI (λb=>∃x∈KI.flatten,x.1=b) (λi k V=>AI J KO.flatten m W0 (j+i) k V) (λc i k V=>c= .ret∧AI Jx KO.flatten m W0 (j+i) k V) (i+1) k U) λW2 h2=>?_).out a' U hf' (by rw[List.map_nil,Vg];exact oU);obtain⟨cs2,hs2,G⟩:=h2.conc;rw[qk hs2] at G;have Y: ∀b,b<U.heap.size→W2.heap[b]? =U.heap[b]? :=λb f=>by
   by_cases a:b∈bJ (KO++LO).flatten
   ·obtain⟨x,s,rfl⟩:=List.mem_map.1 a;exact(G.obj x s).trans (hHU.obj x s).symm
   ·exact G.far b f a
  have tU: ∀T:Nat→Prop,eJ T U W2:=λT=>⟨G.os,G.tape,G.output,G.size,λb f _=>Y b f⟩;have r:AI J KO.flatten m W0 (j+i) k W2:=z.turn hJ (tU _);obtain⟨O,q1,X,q3⟩:=r.ex;obtain⟨fn',t',ag',bd',r1,r2⟩:=hY (j+i) y O W2 (hys i y hy) q1 r.sz;refine⟨fn',t',ag',bd',r1,r2.mono ?_⟩;rintro e w ⟨O',H,h4⟩;have lt2: ∀x∈KO.flatten++m,x.1<W2.heap.size:=λx a=>(Array.getElem?_eq_some_iff.1 (r.has.obj x a)).1;have gr:gw (λb=>∃x∈KI.flatten,x.1=b) k (λb=>k b∨O' b) U w:=by
   refine⟨U1 G.size H.size,λb f h=>?_,λb h=>?_,λb f hk=>?_⟩
   ·exact h.elim id λh=>q3 b (H.old b (Ve f G.size) h)
   ·exact h.elim (λh=>Ve (z.lt b h) (U1 G.size H.size)) (H.new b)
   ·refine(H.keep b (Ve f G.size) (.inl ?_)).trans (Y b f);rcases hk with hk | ⟨x,a,rfl⟩
    ·exact λM=>hk (q3 b M)
    ·exact X x (K x a)
  have ai: ∀{J':Nat→(Nat→Prop)→World→Prop},J' (j+i+1) O' w→AI J' KO.flatten m W0 (j+(i+1)) (λb=>k b∨O' b) w:=λh=>
   ⟨⟨O',h,λx a M=>X x a (H.old _ (lt2 x (U3 _ a)) M),λb h=> .inr h⟩,λx a=> .inl (z.own x a),λb h=>gr.new b h,U1 r.sz H.size,
    ⟨λx a=>(H.keep x.1 (lt2 x a) ((List.mem_append.1 a).elim (λh=> .inr ⟨x,h,rfl⟩) λh=> .inl (X x h))).trans (r.has.obj x a),r.has.nd⟩⟩
  rcases h4 with⟨rfl,h5⟩ | ⟨rfl,h5⟩
  ·refine .inl ⟨rfl,λb' W'' h=>?_⟩;have s3:=yw h;exact⟨_,gr.trans ⟨s3.size,λ_ _ h=>h,λb h=>Ve (gr.new b h) s3.size,λb f _=>s3.far b f (by simp)⟩,(ai h5).turn hJ (s3.turnA λb _ a _=>by simp at a)⟩
  ·exact .inr ⟨rfl,λb'=>⟨_,gr,rfl,ai h5⟩⟩
 ·intro D k V hD C hA hd;have hI2:iv J KO W0 (LO.map .c++(D::Ds).map mk) (j+ys.length) V:=by
   refine⟨LO++(D::Ds).map (λD=>[dD D]),jJ (sX LO) (qa _),?_⟩;have ef:(LO++(D::Ds).map (λD=>[dD D])).flatten=LO.flatten++dD D::Ds.map dD:=by
    rw[Vx,vb];rfl
   rw[ef];obtain⟨O,q1,X,q3⟩:=hA.ex;have I: ∀x∈KO.flatten++m,x.1≠D:=λx a e=>C (e▸hA.own x a);refine⟨⟨O,q1,λx a=>?_,λb h=>hA.lt b (q3 b h)⟩,hA.sz,⟨λx a=>?_,?_⟩⟩
   ·rcases List.mem_append.1 a with a | a
    ·exact X x (Z x a)
    ·rcases List.mem_cons.1 a with rfl | a
     ·exact λM=>C (q3 _ M)
     ·exact X x (by rw[←d];exact U3 _ a)
   ·rcases List.mem_append.1 a with a | a
    ·exact hA.has.obj x (VT _ a)
    ·rcases List.mem_append.1 a with a | a
     ·exact hA.has.obj x (U3 _ (Z x a))
     ·rcases List.mem_cons.1 a with rfl | a
      ·exact hd
      ·exact hA.has.obj x (U3 _ (by rw[←d];exact U3 _ a))
   ·rw[←d] at I;exact SW (by rw[d];exact hA.has.nd) I
  obtain⟨R',hC,hO5⟩:=iv.start hI2;refine(hk D R' V hC).out _ V ⟨f.size,f.get,by show jr D::b.defers=_;rw[f.defers];rfl⟩ ?_;rw[V0,Vh];exact hO5.out
 ·rintro D c i k V hD C hi ⟨rfl,hA⟩ hd;obtain⟨O,q1,X,q3⟩:=hA.ex;have I: ∀x∈KO.flatten++m,x.1≠D:=λx a e=>C (e▸hA.own x a);have hM:eb ((D::Ds).map dD) V:=by
   refine⟨λx a=>?_,?_⟩
   ·rcases List.mem_cons.1 a with rfl | a
    ·exact hd
    ·exact hA.has.obj x (U3 _ (by rw[←d];exact U3 _ a))
   ·have o:=(List.pairwise_append.1 hA.has.nd).2.1;rw[←d] at o;exact List.pairwise_cons.2 ⟨λx a=>Ne.symm (I x (U3 _ (by rw[←d];exact U3 _ a))),(List.pairwise_append.1 o).2.1⟩
  refine wpIn_ret (gz (hQ _ V (ET (Ds:=D::Ds) hres (by show jr D::b.defers=_;rw[f.defers];rfl) hM λw hW=> .inr ⟨j+i,?_,O,?_⟩)))
  ·obtain⟨y,hy⟩:=List.getElem?_eq_some_iff.2 ⟨hi,rfl⟩ |>λh=>(⟨_,h⟩: ∃y,ys[i]? =some y);exact(List.getElem?_eq_some_iff.1 (hys i y hy)).1
  ·refine hJx _ O V w q1 (hW.turnA λb _ a hn=>?_);obtain⟨x,s,rfl⟩:=List.mem_map.1 a;refine absurd (λM=>?_) hn;rcases List.mem_cons.1 s with rfl | s
   ·exact C (q3 _ M)
   ·exact X x (by rw[←d];exact U3 _ s) M
def EV(J:Nat→(Nat→Prop)→World→Prop)(KO:List av)(W0:World)(I:Nat→Prop)(e:Nat→Fe)(a:Nat→ah)(m c:Nat→Nat)(sz:Nat)(st:Fe)(i:Nat)(b:Act)(W:World):Prop:=∃(k:Nat) (E:List Nat) (R:List Nat) (base:World),I k∧Hid (fj J KO W0 (c k) R base)∧m k<i∧Fr ⟨sz,e k++st⟩ E b∧aF R base (a k++E.map mk) W
def yx(P:Program)(J:Nat→(Nat→Prop)→World→Prop)(KO:List av)(W0:World)(Q:Exit→Act→World→Prop)(S:List It)(I:Nat→Prop)(e:Nat→Fe)(a:Nat→ah)(m c:Nat→Nat)(sz:Nat)(st:Fe)(i:Nat):Exit→Act→World→Prop
 | .normal,b,W=>EV J KO W0 I e a m c sz st i b W
 | x,b,W=>cV Fence.wide 5 P Q S x b W
theorem SY(I:Nat→Prop)(e:Nat→Fe)(o:Nat→ah→ah)(m c:Nat→Nat)(f:Nat)(h0:I f)(v:Hid (fj J KO W0 (c f) R base))(q:((e f).map λx=>lk es x.1)=(e f).map λx=>some x.2)(w:L=o f L)
  (F: ∀(k:Nat) (E:List Nat) (p:List Nat) (d:World),I k→Hid (fj J KO W0 (c k) p d)→Go Fence.wide 5 P p d (yx P J KO W0 Q (bP S) I e (λk=>o k L) m c sz (hZ S es) (m k)) [.c (fC S)] ⟨sz,e k++hZ S es⟩ (o k L) E) (y:mD S=true:=by kernel_rfl):Go Fence.wide 5 P R base Q S ⟨sz,es⟩ L Ds:=by
 classical
 refine⟨λb W z r=>dm 1000 S ?_⟩;rw[show c0 1000 S=_ from s4 y];show(Code.loop (fC S)).wpIn Fence.wide 5 P (cV Fence.wide 5 P Q (bP S)) b W
 let g:Nat→Act→World→Prop:=EV J KO W0 I e (λk=>o k L) m c sz (hZ S es)
 let μ:Act→World→Nat:=λb W=>if h: ∃j,g j b W then VR (ki h) else 0
 have u: ∀b W,(∃j,g j b W)→g (μ b W) b W∧∀i,i<μ b W→¬g i b W:=by
  intro b W h;have e:μ b W=VR (ki h):=dif_pos h;rw[e];exact Classical.choose_spec (ki h)
 refine wpIn_loop (λb W=>∃j,g j b W) μ ⟨m f+1,f,Ds,R,base,h0,v,Nat.lt_succ_self _,Fr.stay (a:=⟨sz,es⟩) z q,by have h:=r;rw[w] at h;exact h⟩ λb W n=>?_;obtain⟨k,E,p,d,B,hC,D,A,r⟩:=(u b W n).1;refine wpIn_mono (show(fC S).wpIn Fence.wide 5 P _ b W from(F k E p d B hC).out b W A r) λe t s q=>?_;cases e with
 | normal=>
  have n:g (m k) t s:=q;exact⟨⟨_,n⟩,VA (Nat.le_of_not_lt λC=>(u t s ⟨_,n⟩).2 _ C n) D⟩
 | _=>exact q
theorem SZ{I:Nat→Prop}{e:Nat→Fe}{n:Nat→ah}{m c:Nat→Nat}{o:List It}{d:Nat}{st:Fe}{i:Nat}(k:Nat)(q:I k)(hC:Hid (fj J KO W0 (c k) R base))(w:m k<i)(v:((e k++st).map λx=>lk es x.1)=(e k++st).map λx=>some x.2)(f:List Nat)(r:(cZ (f.map λp=>[p]).flatten,(f.map λp=>[p]).map λg=>g.map λp=>L[p]?)=(true,((n k).map λx=>[x]).map λN=>N.map some))(t:(nf S).isEmpty=true:=by kernel_rfl)(y:sz=d:=by rfl):
  Go Fence.wide 5 P R base (yx P J KO W0 Q o I e n m c d st i) S ⟨sz,es⟩ L Ds:=by
 subst y;refine⟨λb W u s=>dm 1000 S ?_⟩;rw[show c0 1000 S=[] from List.isEmpty_iff.1 t];exact⟨k,Ds,R,base,q,hC,w,Fr.told (a:=⟨sz,es⟩) u v,s.under λh=>h.pick f _ r⟩
theorem S1{I:Nat→Prop}{e:Nat→Fe}{h:Nat→ah}{m c:Nat→Nat}{a:List It}{d:Nat}{st:Fe}{i:Nat}(g:Go Fence.wide 5 P R base Q ((iw S a).getD []) ⟨sz,es⟩ L Ds)(n:(iw S a).isSome=true:=by kernel_rfl):Go Fence.wide 5 P R base (yx P J KO W0 Q a I e h m c d st i) S ⟨sz,es⟩ L Ds:=by
 obtain⟨p,f⟩:=Option.isSome_iff_exists.1 n;rw[f] at g;exact⟨λb W o k=>s5 f (g.out b W o k) λ_=>rfl⟩
theorem S2(n:fZ J)(s:Hid (fj J KO W0 j R base))(z:j=xs.length)(m:List Nat)
  (hp:(cZ (m.map λp=>[p]).flatten,(m.map λp=>[p]).map λg=>g.map λp=>L[p]?)=(true,((KO.map aB.c).map λx=>[x]).map λN=>N.map some):=by kernel_rfl) (d:fn.results.toList=[]:=by kernel_rfl) (v:(nf S).isEmpty=true:=by kernel_rfl):Go Fence.wide 5 P R base (rS P fn J Jx xs.length) S ⟨sz,es⟩ L Ds:=by
 refine⟨λb W y u=>dm 1000 S ?_⟩;rw[show c0 1000 S=[] from List.isEmpty_iff.1 v];have e:aF R base (KO.map .c++Ds.map mk) W:=u.under λh=>h.pick m _ hp;obtain⟨D,f,a⟩:=fj.step s n e;have q:=oZ f;rw[q] at a;obtain⟨O,B,C,F⟩:=a.ex;have t:eb (Ds.map dD) W:=⟨λx i=>a.has.obj x (U3 _ i),(List.pairwise_append.1 a.has.nd).2.1⟩;have r:rS P fn J Jx xs.length .ret b W:=ET (Ds:=Ds) d y.defers t λo w=> .inl ⟨O,by
  rw[←z];refine n _ O W o B (w.turnA λb _ i A=>?_);obtain⟨x,k,rfl⟩:=List.mem_map.1 i;exact absurd (C x k) A⟩
 exact r
end
end
def j8(B M C i:Nat):Nat:=rQ M C (i/(B*M*C)) (i%(B*M*C))
def vc(R S B M C:Nat):List Nat:=(Vl ((R+S)*(B*M*C))).map (j8 B M C)
theorem S3{R S B M C k i y:Nat}(c:k<R+S)(h:((Vl (B*M*C)).map (rQ M C k))[i]? =some y):(vc R S B M C)[k*(B*M*C)+i]? =some y:=by
 have a:i<B*M*C:=by have:=(List.getElem?_eq_some_iff.1 h).1;simpa using this
 rw[VB,Vp a,VE] at h;have b:k*(B*M*C)+i<(R+S)*(B*M*C):=by
  have:(k+1)*(B*M*C)≤(R+S)*(B*M*C):=Vw _ c;rw[Vq] at this;omega
 unfold vc;rw[VB,Vp b,VE];unfold j8;rw[Vj k,VK Om,VH a,VL,VI a,VD];exact h
theorem S4{R S B M C:Nat}(b:cu R S B M C)(k:Nat):hold R S B M C (k:Int) 0 0 0=decide ((k:Int)<((R+S:Nat):Int)):=by
 have a:=b.bd;have c:=a.b1;have d:=a.m1;have e:=a.c1;unfold hold bR;rw[cS (show(0:Int)≤(k:Int) by omega),cS (show(0:Int)<(B:Int) by omega),cS (show(0:Int)<(M:Int) by omega),cS (show(0:Int)<(C:Int) by omega)];simp
theorem S5(j R S B M C:Nat)(m:cu R S B M C):eT 5 U0 103 #[pt j 0] (λ(i:Nat)=>#[iN i]) (vc R S B M C) (Vn [[(j,.cells #[iN R,iN S,iN B,iN M,iN C] 23 (0,0))]]):=by
 refine SU (KO:=[[(j,.cells #[iN R,iN S,iN B,iN M,iN C] 23 (0,0))]]) Tryz.func103 (λq O N V T r o G A=>?_);refine ra (λg=>[(2,pt (B0 g) 0)]) (λg=>[ob (B0 g) #[.func (.yield q) #[] #[]] 65]) λg=>r0 [] [(3,i6 0)] [] ?_;refine SY (KO:=[[(j,.cells #[iN R,iN S,iN B,iN M,iN C] 23 (0,0))]]) (λk=>k≤R+S) (λk=>[(3,iN k)]) (λ_ L=>L) (λk=>R+S-k) (λk=>k*(B*M*C)) 0 Om (by rw[VC];exact A) Kr Kr (λk E Q U I e=>?_);refine r0 [(0,.l 0),(3,.c [] [] (aa.v (qP R S B M C m (k:Int) 0 0 0) λ_=>ALca Value.bool (S4 m k)))] [(8,.bool (decide ((k:Int)<((R+S:Nat):Int))))] [] ?_;refine b4 (k:Int) ((R+S:Nat):Int) (λw n=>?_) λw n=>?_
 ·refine rr (λ_=>[(0,.l 0),(2,.c [] [2,3] (SO R S B M C k))]) (λa=>[(13,.func (.func 101) #[] #[pt (B2 a) 0,pt ((a 2).y 1) 0])]) [] (λa L=>L++[ob (B2 a) #[iN R,iN S,iN B,iN M,iN C] 23,ob ((a 2).y 1) #[iN k] 3]) λa=>?_;have f:k<R+S:=by omega
  have z:=m.bd.r8;refine SX (encs:=λ(i:Nat)=>#[iN i]) (λy=>[(4,iN y)]) (LO:=[[((g 0).y 0,.cells #[.func (.yield q) #[] #[]] 65 (0,0))],[((a 2).y 0,.cells #[iN R,iN S,iN B,iN M,iN C] 23 (0,0))],[((a 2).y 1,.cells #[iN k] 3 (0,0))]]) (KI:=[[((a 2).y 0,.cells #[iN R,iN S,iN B,iN M,iN C] 23 (0,0))],[((a 2).y 1,.cells #[iN k] 3 (0,0))]]) r o G e (SN (B2 a) ((a 2).y 1) R S B M C k m f) (enters_of Tryz.func101 Kr rfl) (λi y h=>S3 f h) (λb W h=>gz h) Kr [0,1,2,3] (λx J=>U8 _ J) (List.sublist_cons_self _ _) (λK y t v s h=>?asg) (λK y t v s h=>?bod) (λD P u d=>?rest) (λ_=>rfl)
  case asg=>
   refine r0 [] [(4,iN y)] [] ?_;exact EU λb W H p=>h b W H (by simpa using p)
  case bod=>
   refine SV 2 (λ_=>[(0,.l 1)]) (λ_=>[(15,.func (.yield q) #[] #[]),(16,iN y)]) [] (λ_ L=>L) (vs:=#[iN y]) (λη W F=>h W F) (λη u hA=>?_);refine cF _ rfl ?_;exact EU λb W _ p=>hA b W (by simpa using p)
  case rest=>
   refine r0 [(1,ad k 1)] [(3,i6 ((k+1:Nat):Int))] [3] ?_;exact SZ (k+1) Om (by rw[Vf,U9] at d;rw[Vq];exact d) Om Kr [0,1] Kr
 refine S1 ?_;exact S2 r e (by unfold vc;rw[Vf,U9,show k=R+S by omega]) [0]
section
theorem S6(R S B M C:Nat):aa U0 67 #[.agg #[iN R,iN S,iN B,iN M,iN C]] [] [] (λE=>[ob (E.y 0) #[iN R,iN S,iN B,iN M,iN C] 23]) (λE=> .func (.func 103) #[] #[pt ((E.y 0)) 0]):=by
 exact fG Tryz.func67 λw cs=>ra (λa=>[(1,pt (B0 a) 0),(2,.nilFunc)]) (λa=>[ob (B0 a) #[iN R,iN S,iN B,iN M,iN C] 23]) λa=>r0 [] [(2,.func (.func 103) #[] #[pt (B0 a) 0])] [2] (lf (.l [(a 0).y 0] [] []) [0] [] [])
theorem S7{R S B M C:Nat}(c:cu R S B M C){i:Nat}(d:i<(R+S)*(B*M*C)):j8 B M C i<8388608∧fJ R S B M C ((j8 B M C i:Nat):Int)=true:=by
 have b:=c.bd;have l:=b.m1;have k:=b.c1;have f:0<B*M*C:=Nat.pos_of_ne_zero λe=>by rw[e,Nat.mul_zero] at d;omega
 have g:i/(B*M*C)<R+S:=VW (by rw[Vj];exact d);have h:i%(B*M*C)<B*M*C:=VZ _ f;have j:i%(B*M*C)/C/M<B:=by
  rw[Nat.div_div_eq_div_mul];have e:C*M*B=B*M*C:=by rw[Vj (C*M) B,Vj C M,Vc]
  exact VW (by rw[e];exact h)
 have a:gS R S B M C (i/(B*M*C)) (i%(B*M*C)/C/M) (i%(B*M*C)/C%M) (i%(B*M*C)%C):=⟨g,j,VZ _ l,VZ _ k⟩;refine⟨xk b a,?_⟩;show fJ R S B M C ((bT _ _ _ _:Nat):Int)=true;rw[←tZ];exact yc c a.hold
def gu(c:Cf):Nat→Dv
 | 0=>rG
 | k+1=>g9 (gu c k) ((j8 c.B c.M c.C k:Nat):Int) (gp c.E z6 ((j8 c.B c.M c.C k:Nat):Int) false) (bif false then 1 else 0)
theorem yy(c:Cf): ∀k,g8 c (gu c k).D∧(∀i,((gu c k).Y i).length=72)∧(gu c k).l.length≤k
 | 0=>⟨Qv c,λ_=>U2,Vi _⟩
 | k+1=>by
  obtain⟨a,b,d⟩:=yy c k;refine⟨D9 a _ (rH _ U2 _ _),rC b _ (rH _ U2 _ _),?_⟩;show((gu c k).l++[_]).length≤k+1;rw[U6];exact U7 d
theorem S8(c:Cf)(k:Nat):gu c (k+1)=g9 (gu c k) ((j8 c.B c.M c.C k:Nat):Int) (gp c.E z6 ((j8 c.B c.M c.C k:Nat):Int) false) (bif false then 1 else 0):=rfl
attribute [local irreducible] gu
theorem S9(gd ge:Nat)(c:Cf)(V:Dv):aa U0 113 #[pt ge 0] [pk (bj gd ge c V)] [0] (λ_=>[pk (bj gd ge c V)]) (λ_=> .agg #[iN c.R,iN c.S,iN c.B,iN c.M,iN c.C]):=
 aa.inW (Qx ge c V.D) λL ⟨gm,a,v,e⟩=>⟨1,by rw[e];rfl,gm,a,v,by rw[e];rfl⟩
theorem EW(gd ge:Nat)(c:Cf)(V:Dv):aa U0 107 #[pt ge 0] [pk (bj gd ge c V)] [0] (λ_=>[pk (bj gd ge c V)]) (λ_=>iN c.E):=
 aa.inW (yb ge c V.D) λL ⟨gm,a,v,e⟩=>⟨1,by rw[e];rfl,gm,a,v,by rw[e];rfl⟩
theorem Ta(gd ge:Nat)(c:Cf)(d:dd c):aa U0 82 #[.agg (cA c),pt gd 0] [pk (bj gd ge c (gu c 0))] [0] (λE=>[pk (bj gd ge c (gu c ((c.R+c.S)*(c.B*c.M*c.C)))),ob (E.y 0) #[pt ((E.y 1)) 0,pt gd 0,pt ((E.y 2)) 0,i6 0,.slice none 0 0] 119,ob (E.y 1) #[iN c.R,iN c.S,iN c.B,iN c.M,iN c.C,iN c.G,iN c.res,iN c.E,iN c.lr,iN c.er,iN c.lp,iN c.ep,iN c.H,iN c.J,iN c.log,.bool c.W,pt ((E.y 3)) 0,pt ((E.y 4)) 0,pt ((E.y 5)) 0,i6 0] 122,pk (dC (E.y 2)),pk (aq (E.y 3) (((E.y 6))) (((E.y 7))) ⟨kW c.R c.S c.B c.M c.C c.G c.res,kY,[]⟩),pk (aD (E.y 4) (((E.y 8))) (oF c.lr c.er c.lp c.ep c.H c.J c.R)),pk (aA (E.y 5) (oA c.log))]) (λE=> .tuple #[pt ((E.y 0)) 0,i6 0]):=by
 have p:=d.O;have v:(c.R+c.S)*(c.B*c.M*c.C)≤4096:=by have u:=p.bd.all;rwa [Vc,Vc,←Vc c.B] at u
 have x:z6.length=64:=U2;refine fG Tryz.func82 λw cs=>ra (λo=>[(2,pt (B0 o) 0),(4,.pointer none),(5,i6 0)]) (λo=>[ob (B0 o) (cA c) 31]) λo=>rF [(0,.l 1),(1,.c [] [] (xQ c d))] 10 (rF [(1,.c [0] [0] (yh gd ge c (gu c 0))),(2,.c [0] [0] (S9 gd ge c (gu c 0))),(5,.l 1),(6,.t (TH.cast (gy 23 λ_ _ _=>iu (xs:=[iN c.R,iN c.S,iN c.B,iN c.M,iN c.C]) (ys:=[iN c.R,iN c.S,iN c.B,iN c.M,iN c.C]) Kr a7) (show Value.bool (!((c.R:Int)==(c.R:Int)&&((c.S:Int)==(c.S:Int)&&((c.B:Int)==(c.B:Int)&&((c.M:Int)==(c.M:Int)&&((c.C:Int)==(c.C:Int)&&true))))))= .bool false from ALca Value.bool (by simp))))] 14 (rF [(1,.c [0] [0] (yh gd ge c (gu c 0))),(2,.c [0] [0] (EW gd ge c (gu c 0))),(4,.l 1),(5,.t (tk (show Value.bool ((c.E:Int) != (c.E:Int))= .bool false from ALca Value.bool (by simp))))] 22 (rr (λ_=>[(0,.l 1),(1,.c [] [2,3,4,5] (Po c d))]) (λa=>[(6,pt ((B1 a)) 0),(7,i6 0)]) [] (λa L=>L++[ob (B1 a) #[iN c.R,iN c.S,iN c.B,iN c.M,iN c.C,iN c.G,iN c.res,iN c.E,iN c.lr,iN c.er,iN c.lp,iN c.ep,iN c.H,iN c.J,iN c.log,.bool c.W,pt (((a 1).y 1)) 0,pt (((a 1).y 2)) 0,pt (((a 1).y 3)) 0,i6 0] 122,pk (aq ((a 1).y 1) (((a 1).y 4)) (((a 1).y 5)) ⟨kW c.R c.S c.B c.M c.C c.G c.res,kY,[]⟩),pk (aD ((a 1).y 2) (((a 1).y 6)) (oF c.lr c.er c.lp c.ep c.H c.J c.R)),pk (aA ((a 1).y 3) (oA c.log))]) λa=>rF [] 35 (rr (λ_=>[(2,.c [] [6] (QR)),(6,.s 8)]) (λb=>[(8,pt (B5 b) 0)]) [] (λb L=>L++[pk (dC (B2 b)),ob (B4 b) #[pt ((B1 a)) 0,pt gd 0,pt ((B2 b)) 0,i6 0,.slice none 0 0] 119,ob (B5 b) #[pt (B4 b) 0] 37]) λb=>rr (λ_=>[(2,.l 1),(3,.c [] [9] (S6 c.R c.S c.B c.M c.C))]) (λh=>[(45,.func (.func 103) #[] #[pt ((B3 h)) 0])]) [] (λh L=>L++[ob (B3 h) #[iN c.R,iN c.S,iN c.B,iN c.M,iN c.C] 23]) λh=>?_))));refine n9 (encs:=λ(i:Nat)=>#[iN i]) (xs:=(Vl ((c.R+c.S)*(c.B*c.M*c.C))).map (j8 c.B c.M c.C)) (KO:=[[((B3 h),.cells #[iN c.R,iN c.S,iN c.B,iN c.M,iN c.C] 23 (0,0))]]) (S5 (B3 h) c.R c.S c.B c.M c.C p) (enters_of Tryz.func103 Kr rfl) (λk=>k≤(c.R+c.S)*(c.B*c.M*c.C)) (λk L=>L.set 0 ((pk (bj gd ge c (gu c k))))) [9] Om Kr (λD k F z B r e=>?_) (λy e=>?_)
 ·obtain⟨g,rfl⟩:=nc r;have j:=S7 p g;have m:=j.1;have n:=j.2;have f:=yy c k;have q:mX c (gu c k):=⟨f.1,f.2.1,U1 f.2.2 Om⟩;refine r0 [] [(9,i6 ((j8 c.B c.M c.C k:Nat):Int))] [] ?_;refine ag [9] (λA C=>?_);exact rs [(0,.l 8),(3,.c [7,2,6,0] [6,0] (oP (B4 b) (B1 a) ((a 1).y 1) ((a 1).y 2) ((a 1).y 3) gd ge (B2 b) c d 0 0 (.slice none 0 0) (gu c k) q (j8 c.B c.M c.C k) m n z6 a7 false))] 0 ((pk (bj gd ge c (g9 (gu c k) ((j8 c.B c.M c.C k):Int) (gp c.E z6 ((j8 c.B c.M c.C k):Int) false) (bif false then 1 else 0))))) (ne _ ⟨Om,rfl⟩ [0,1,2,3,4,5,6,7,8,9] (by rw[S8];kernel_rfl))
 refine cl [pk (bj gd ge c (gu c ((c.R+c.S)*(c.B*c.M*c.C)))),ob (B0 o) (cA c) 31,ob (B1 a) #[iN c.R,iN c.S,iN c.B,iN c.M,iN c.C,iN c.G,iN c.res,iN c.E,iN c.lr,iN c.er,iN c.lp,iN c.ep,iN c.H,iN c.J,iN c.log,.bool c.W,pt (((a 1).y 1)) 0,pt (((a 1).y 2)) 0,pt (((a 1).y 3)) 0,i6 0] 122,pk (aq ((a 1).y 1) (((a 1).y 4)) (((a 1).y 5)) ⟨kW c.R c.S c.B c.M c.C c.G c.res,kY,[]⟩),pk (aD ((a 1).y 2) (((a 1).y 6)) (oF c.lr c.er c.lp c.ep c.H c.J c.R)),pk (aA ((a 1).y 3) (oA c.log)),pk (dC (B2 b)),ob (B4 b) #[pt ((B1 a)) 0,pt gd 0,pt ((B2 b)) 0,i6 0,.slice none 0 0] 119,ob (B5 b) #[pt (B4 b) 0] 37,ob (B3 h) #[iN c.R,iN c.S,iN c.B,iN c.M,iN c.C] 23] (by rw[Vf,U9];kernel_rfl) ?_;simp only[Vf,U9] at e;exact r0 [(0,.l 8)] [(4,pt (B4 b) 0),(5,i6 0)] [4,5] (lf (.l [(b 4).y 0,(B1 a),(B2 b),((a 1).y 1),((a 1).y 2),((a 1).y 3),(a 1).y 4,(a 1).y 5,(a 1).y 6] [] []) [0,7,2,6,3,4,5] [] [])
end
theorem aa.outsP{P:Program}{f:FuncId}{args:Array Value}{rd:ah}{O:List Nat}{wt wt':ab→ah}{v:ab→Value}(h:aa P f args rd O wt v)(o: ∀E ds,bk (wt E) ds→∃a,bk (wt' E) a∧VQ a.flatten ds.flatten):aa P f args rd O wt' v:=
 ⟨h.ent,λw cs m l=>(callsIn_wide (n:=6)).1 ((callsIn_wide.2 (h.out w cs m l)).mono λe p k=>by
  obtain⟨E,ds,g,i,b⟩:=k;obtain⟨a,j,c⟩:=o E ds i;exact⟨E,a,g,j,⟨b.os,b.tape,b.output,b.size,λx d=>b.obj x (c.mem_iff.1 d),λx d=>b.new x (c.mem_iff.1 d),(c.pairwise_iff (λ{x y} h=>Ne.symm h)).2 b.nd,b.far⟩⟩)⟩
theorem Tc{ds:List av}{is js:List Nat}(h:VQ is js):VQ (is.map λi=>ds.getD i []).flatten (js.map λi=>ds.getD i []).flatten:=(h.map _).flatten
def rU(c:Cf):Ct:=⟨⟨⟨kW c.R c.S c.B c.M c.C c.G c.res,kY,[]⟩,oF c.lr c.er c.lp c.ep c.H c.J c.R,oA c.log,0⟩,0,[],gu c ((c.R+c.S)*(c.B*c.M*c.C))⟩
def ar(c:Cf):Mc:=⟨rU c,λ_=>oQ,[],[],0,0⟩
theorem Td(gd ge:Nat)(c:Cf)(j:dd c):aa U0 82 #[.agg (cA c),pt gd 0] [pk (bj gd ge c rG)] [0] (λE=>[pk (aT (E.y 0) (E.y 1) (E.y 3) (E.y 6) (E.y 7) (E.y 4) (E.y 8) (E.y 5) gd ge (E.y 2) c (rU c))]) (λE=> .tuple #[pt (E.y 0) 0,i6 0]):=by
 refine(Ta gd ge c j).outsP λE ds a=>?_;obtain⟨b,_,rfl,k,a⟩:=cU a;obtain⟨d,_,rfl,l,a⟩:=cU a;obtain⟨e,_,rfl,m,a⟩:=cU a;obtain⟨f,_,rfl,n,a⟩:=cU a;obtain⟨g,_,rfl,o,a⟩:=cU a;obtain⟨h,_,rfl,p,a⟩:=cU a;obtain⟨i,_,rfl,q,a⟩:=cU a;obtain rfl:=mx a;refine⟨[([d,e,g,h,i,f,b,[]]:List av).flatten],⟨⟨_,[d,e,g,h,i,f,b,[]],⟨.slice none 0 0,rfl⟩,⟨l,m,o,p,q,n,k,ao.nil none,trivial⟩,rfl⟩,trivial⟩,?_⟩;have hp:=Tc (ds:=[b,d,e,f,g,h,i]) (is:=[1,2,4,5,6,3,0]) (js:=[0,1,2,3,4,5,6]) Dc;simpa using hp
theorem Te(c:Cf)(e:dd c):aa U0 48 #[.agg (cA c)] [] [] (λE=>[ob (E.y 0) #[pt ((E.y 10)) 0,pt ((E.y 1)) 0,.map (some (E.y 2)),.slice none 0 0,.slice none 0 0,i6 0,i6 0] 114,pk (aT (E.y 1) ((E.y 3)) ((E.y 4)) ((E.y 5)) ((E.y 6)) ((E.y 7)) ((E.y 8)) ((E.y 9)) ((E.y 10)) ((E.y 11)) ((E.y 12)) c (rU c)),cM (λ_=>oQ) (E.y 2)]) (λE=> .tuple #[pt ((E.y 0)) 0,i6 0]):=by
 exact fG Tryz.func48 λw cs=>ra (λf=>[(1,pt (B0 f) 0),(2,.pointer none),(3,i6 0)]) (λf=>[ob (B0 f) (cA c) 31]) λf=>rr (λ_=>[(2,.l 0),(4,.l 0),(5,.c [] [1] (QQ c e))]) (λb=>[(4,pt ((B5 b)) 0),(5,i6 0)]) [] (λb L=>L++[pk (bj (B5 b) ((b 5).y 1) c rG)]) λb=>rF [] 17 (rr (λ_=>[(0,.l 0),(2,.c [1] [1] (Td (B5 b) ((b 5).y 1) c e))]) (λa=>[(6,pt ((B2 a)) 0),(5,i6 0)]) [5] (λa L=>L.set 1 ((pk (aT (B2 a) ((a 2).y 1) ((a 2).y 3) ((a 2).y 6) ((a 2).y 7) ((a 2).y 4) ((a 2).y 8) ((a 2).y 5) (B5 b) ((b 5).y 1) ((a 2).y 2) c (rU c))))) λa=>rF [] 26 (rr (λ_=>[(2,.m (mm 2 u7 oQ))]) (λd=>[(2,pt (B4 d) 0),(3,i6 0)]) [2,3] (λd L=>L++[cM (λ_=>oQ) (B2 d),ob (B4 d) #[pt ((B5 b)) 0,pt ((B2 a)) 0,.map (some (B2 d)),.slice none 0 0,.slice none 0 0,i6 0,i6 0] 114]) λd=>lf (.l [(d 4).y 0,(B2 a),(d 2).y 0,(a 2).y 1,(a 2).y 3,(a 2).y 6,(a 2).y 7,(a 2).y 4,(a 2).y 8,(a 2).y 5,(b 5).y 0,(b 5).y 1,(a 2).y 2] [] []) [3,1,2] [] []))
theorem Tf{R S B M C way a:Nat}(h:gT R S B M C way a):bn (kW R S B M C way a):=
 ⟨h,U9,U2,U2,Vb _,Vb _,λi c=>by
  show(Vl _).getD i 0<_;have b:i<R*B*M-a:=c;rw[U5,Vp b];show i<R*B*M;omega,λi c=> .inl (by
  show(UZ R (-1:Int)).getD i 0= -1;have b:i<R:=c;rw[U5,VO,ALifp b];rfl)⟩
theorem EX{α:Type}(n i:Nat)(d:α):(UZ n d).getD i d=d:=by
 rw[U5,VO]
 split<;>rfl
theorem Tg{ev:Nat}(h:1≤ev):eP ev bh.l bh.a:=⟨Vb _,h⟩
theorem Th{c:Cf}(h:dd c):cH (rU c).s 1:=by
 refine⟨⟨Tf h.ly,⟨.inl rfl⟩,λa d=>absurd d VG,Vb _,⟨λx _=>EX _ _ _⟩⟩,⟨h.r,h.p,h.h1,h.h2,?_,λi b=>?_,⟨Vb _,h.m1,h.m2,λi b=>absurd b (Nat.not_lt_zero _)⟩⟩,⟨Vb _,h.l1,h.l2,by show 1≤1000000000;omega⟩,Vi _,U2⟩
 ·have e:=h.O.bd.r8;show(UZ c.R bh).length≤8;rw[U2];omega
 ·show eP c.er ((UZ c.R bh).getD i bh).l ((UZ c.R bh).getD i bh).a;rw[EX];exact Tg h.r.e1
theorem Ti{c:Cf}(h:dd c):eH c (ar c) 1 4096 0:=by
 have b:=h.O.bd;have a:(c.R+c.S)*(c.B*c.M*c.C)≤4096:=by have g:=b.all;rwa [Vc,Vc,←Vc c.B] at g
 obtain⟨d,e,f⟩:=yy c ((c.R+c.S)*(c.B*c.M*c.C));refine⟨⟨h,Th h,d,e,U1 f a,Vb _,⟨rfl,rfl,rfl,rfl,rfl,rfl,rfl⟩,λq=>absurd rfl q,?_,Vb _⟩,λ_=>U2,Vb _,Vb _,Vb _,Vb _⟩;have:=h.ly.rp;exact Nat.mul_pos Om b.c1
theorem Tj(c:Cf)(a:dd c):aa U0 48 #[.agg (cA c)] [] [] (λE=>[pk (a6 (E.y 0) (E.y 1) (E.y 3) (E.y 4) (E.y 5) (E.y 6) (E.y 7) (E.y 8) (E.y 9) (E.y 10) (E.y 11) (E.y 12) c (ar c))]) (λE=> .tuple #[pt (E.y 0) 0,i6 0]):=
 (Te c a).outs λE d b=>Ed ⟨_,_,_,rfl⟩ b
theorem Tl{j k:Nat}(b:k≤j)(h:(((2^j:Nat):Int)==((2^k:Nat):Int))=false):k+1≤j:=by
 rcases Nat.lt_or_ge k j with a | a
 ·exact a
 ·obtain rfl:k=j:=Nat.le_antisymm b a;simp at h
theorem EY{j k a:Nat}(b:k≤j)(h:2^j≤a):((2^k:Nat):Int)≤(a:Int):=by
 have:=Nat.pow_le_pow_right (n:=2) Dc b;omega
theorem Tm(j a:Nat)(h:2^j≤a)(i:a≤1024):aa U0 111 #[i6 ((2^j:Nat):Int),iN a] [] [] N0 (λ_=> .bool true):=by
 refine fG Tryz.func111 λw cs=>r0 [] [(4,.bool false)] [] (r0 [] [(5,i6 1)] [] ?_);refine lq (λk=>k≤j) (λk=>[(5,i6 ((2^k:Nat):Int))]) (λ_ L=>L) (λk=>j-k) 0 Om Kr Kr (λk c=>?_);have d:=c;have f:=EY d h;refine rT [(2,.t (tk (show Value.bool (decide (((2^k:Nat):Int)≤(a:Int)))= .bool true from ALca Value.bool (by exact cS (EY As h)))))] 8 (r0 [] [(13,.bool (((2^j:Nat):Int)==((2^k:Nat):Int)))] [] ?_);refine cD ((2^j:Nat):Int) ((2^k:Nat):Int) (λe b=>?_) λe b=>?_
 ·exact r0 [] [(4,.bool true)] [] (lf ab.zero [] [] [])
 refine r0 [(1,ml (2^k) 2)] [(5,i6 (((2^k)*2:Nat):Int))] [5] ?_;have g:k+1≤j:=Tl As As;exact le (k+1) Om Om Kr [] Kr
theorem Tn{n b:Nat}(f:b≤1024)(h:fe (n:Int) (b:Int)=true): ∃j,n=2^j∧2^j≤b:=by
 have c:=Ci Om h;have d:=lT h;simp only[List.mem_cons,VG,or_false] at c;have a: ∀j,n=2^j→∃j,n=2^j∧2^j≤b:=λj e=>⟨j,e,by rw[←e];omega⟩;rcases c with h | h | h | h | h | h | h | h | h | h | h
 ·exact a 0 h
 ·exact a 1 h
 ·exact a 2 h
 ·exact a 3 h
 ·exact a 4 h
 ·exact a 5 h
 ·exact a 6 h
 ·exact a 7 h
 ·exact a 8 h
 ·exact a 9 h
 ·exact a 10 h
theorem ve(n a:Nat)(b:a≤1024)(h:fe (n:Int) (a:Int)=true):aa U0 111 #[iN n,iN a] [] [] N0 (λ_=> .bool true):=by
 obtain⟨j,rfl,c⟩:=Tn b h;exact Tm j a c b
structure To (R S B M C:Nat):Prop where
 r:fe (R:Int) 8=true
 b:fe (B:Int) 16=true
 m:fe (M:Int) 1024=true
 c:fe (C:Int) 64=true
theorem cu.p{R S B M C:Nat}(h:cu R S B M C):To R S B M C:=by
 have h:=h.ok;unfold iF at h;simp only[VF,decide_eq_true_eq] at h;obtain⟨⟨⟨⟨⟨⟨a,e⟩,f⟩,b⟩,c⟩,d⟩,g⟩:=h;exact⟨a,b,c,d⟩
theorem Tp(R S B M C:Nat)(g:cu R S B M C):aa U0 80 #[.agg #[iN R,iN S,iN B,iN M,iN C]] [] [] N0 (λ_=> .bool true):=by
 have b:=g.p;have a:=g.bd;have l:=a.r8;have i:=a.b16;have h:=a.m10;have j:=a.c64;have e:=a.all;have f:(R+S)*B*M≤4096:=U1 (Vk _ a.c1) e;have k:(R+S)*B≤4096:=U1 (Vk _ a.m1) f;exact fG Tryz.func80 λw cs=>ra (λd=>[(1,pt (B0 d) 0),(2,.bool false)]) (λd=>[ob (B0 d) #[iN R,iN S,iN B,iN M,iN C] 170]) λd=>rF [(1,.m (ld 0 (iN R))),(2,.c [] [] (ve R 8 Om (by exact b.r))),(6,.m (ld 0 (iN B))),(7,.c [] [] (ve B 16 Om (by exact b.b))),(12,.m (ld 0 (iN M))),(13,.c [] [] (ve M 1024 Om (by exact b.m))),(18,.m (ld 0 (iN C))),(19,.c [] [] (ve C 64 Om (by exact b.c))),(24,.m (ld 0 (iN S))),(25,.t (tk (show Value.bool (decide ((S:Int)<0))= .bool false from ALca Value.bool (by exact bg Om)))),(29,.m (ld 0 (iN S))),(31,.m (ld 0 (iN R))),(32,sI 8 ((R:Int)) Om),(33,.t (tk (show Value.bool (decide ((8-(R:Int))<(S:Int)))= .bool false from ALca Value.bool (by exact bg Om))))] 37 (r0 [(1,.m (ld 0 (iN R))),(3,.m (ld 0 (iN S))),(4,ad R S),(6,.m (ld 0 (iN B))),(7,ml (R+S) B),(9,.m (ld 0 (iN M))),(10,ml ((R+S)*B) M),(12,.m (ld 0 (iN C))),(13,ml (((R+S)*B)*M) C),] [(2,.bool (decide ((((((R+S)*B)*M)*C:Nat):Int)≤4096)))] [2] (ak (.bool (decide ((((((R+S)*B)*M)*C:Nat):Int)≤4096))) ab.zero (by exact ALca Value.bool (cS Om)) [] [] []))
theorem Tq(r s b m c way g mode n j k i a heavy f:Int)(e:Bool)(h:l9 r s b m c way g mode n j k i a heavy f=false):aa U0 47 #[.agg #[i6 r,i6 s,i6 b,i6 m,i6 c,i6 way,i6 g,i6 mode,i6 n,i6 j,i6 k,i6 i,i6 a,i6 heavy,i6 f,.bool e]] [] [] N0 (λ_=> .bool false):=by
 exact fG Tryz.func47 λw cs=>ra (λo=>[(1,pt (B0 o) 0),(2,.bool false)]) (λo=>[ob (B0 o) #[i6 r,i6 s,i6 b,i6 m,i6 c,i6 way,i6 g,i6 mode,i6 n,i6 j,i6 k,i6 i,i6 a,i6 heavy,i6 f,.bool e] 31]) λo=>rr (λ_=>[(2,.l 0),(4,.s 1)]) (λp=>[(3,pt (B3 p) 0)]) [] (λp L=>L++[ob (B3 p) #[i6 r,i6 s,i6 b,i6 m,i6 c] 23]) λp=>r0 [(0,.m (ls 0 ([i6 r,i6 s,i6 b,i6 m,i6 c,i6 way,i6 g,i6 mode,i6 n,i6 j,i6 k,i6 i,i6 a,i6 heavy,i6 f,.bool e]))),(1,.c [] [] (aa.v ((Dx r s b m c way g mode n j k i a heavy f e)) λ_=>ALca Value.bool (show(l9 r s b m c way g mode n j k i a heavy f)=false from(by exact h)))),(3,.d),(4,.d),(7,.d),(8,.d),(9,.d),(10,.d),(11,.d),(12,.d),(13,.d),(14,.d),(15,.d),(16,.d),(17,.d),(18,.d),(19,.d),(20,.d),(21,.d)] [(2,.bool false)] [2] (lf ab.zero [] [] [])
theorem EZ(c:Cf)(b:dd c):aa U0 47 #[.agg (cA c)] [] [] N0 (λ_=> .bool (decide ((((((c.R+c.S)*c.B)*c.M)*c.C:Nat):Int)≤100))):=by
 have h:=b.O;have a:=h.bd;have j:=a.r8;have f:=a.all;have g:(c.R+c.S)*c.B*c.M≤4096:=U1 (Vk _ a.c1) f;have i:(c.R+c.S)*c.B≤4096:=U1 (Vk _ a.m1) g;exact fG Tryz.func47 λw cs=>ra (λd=>[(1,pt (B0 d) 0),(2,.bool false)]) (λd=>[ob (B0 d) (cA c) 31]) λd=>rr (λ_=>[(2,.l 0),(4,.s 1)]) (λe=>[(3,pt (B3 e) 0)]) [] (λe L=>L++[ob (B3 e) #[iN c.R,iN c.S,iN c.B,iN c.M,iN c.C] 23]) λe=>r0 [(0,.m (ls 0 ([iN c.R,iN c.S,iN c.B,iN c.M,iN c.C,iN c.G,iN c.res,iN c.E,iN c.lr,iN c.er,iN c.lp,iN c.ep,iN c.H,iN c.J,iN c.log,.bool c.W]))),(1,.c [] [] (xQ c b)),(3,.m (ls 1 ([iN c.R,iN c.S,iN c.B,iN c.M,iN c.C]))),(4,.c [] [] (Tp c.R c.S c.B c.M c.C h)),(8,.m (ld 1 (iN c.R))),(10,.m (ld 1 (iN c.S))),(11,ad c.R c.S),(13,.m (ld 1 (iN c.B))),(14,ml (c.R+c.S) c.B),(16,.m (ld 1 (iN c.M))),(17,ml ((c.R+c.S)*c.B) c.M),(19,.m (ld 1 (iN c.C))),(20,ml (((c.R+c.S)*c.B)*c.M) c.C),] [(2,.bool (decide ((((((c.R+c.S)*c.B)*c.M)*c.C:Nat):Int)≤100)))] [2] (lf ab.zero [] [] [])
def nP(c:Cf):Bool:=decide ((c.R+c.S)*c.B*c.M*c.C≤100)
theorem Tr(r s b m c way f mode k i j g a heavy e:Int)(d:Bool)(h:l9 r s b m c way f mode k i j g a heavy e=false):aa U0 12 #[.agg #[i6 r,i6 s,i6 b,i6 m,i6 c,i6 way,i6 f,i6 mode,i6 k,i6 i,i6 j,i6 g,i6 a,i6 heavy,i6 e,.bool d]] [] [] N0 (λ_=> .pointer none):=by
 exact fG Tryz.func12 λw cs=>ra (λn=>[(1,pt (B0 n) 0),(2,.pointer none)]) (λn=>[ob (B0 n) #[i6 r,i6 s,i6 b,i6 m,i6 c,i6 way,i6 f,i6 mode,i6 k,i6 i,i6 j,i6 g,i6 a,i6 heavy,i6 e,.bool d] 31]) λn=>rT [(0,.l 0),(1,.c [] [] (Tq r s b m c way f mode k i j g a heavy e d h))] 7 (r0 [] [(2,.pointer none)] [2] (lf ab.zero [] [] []))
theorem E0(x:Int):aa U0 173 #[i6 x] [] [] N0 (λ_=> .agg (rB 3 ([aP x,aP (x/256),(aP (x/65536))&&& (127:UInt8)])).toArray):=by
 exact fG Tryz.func173 λw cs=>ra (λe=>[(2,pt (B0 e) 0)]) (λe=>[ob (B0 e) (rB 3 (UZ 3 0)).toArray 262]) λe=>rs [(1,.t (tc (k:= .i64) (l:= .u8) (a:=i6 x) λ_ _ _ c d=>nS c d)),(3,.t (tv (au .shr 3 (.tmp 5) (.const (u6 8)) (i6 x) (u6 8)) (λ_=>hP 8 Dc))),(4,.t (tc (k:= .i64) (l:= .u8) (a:=i6 (x/256)) λ_ _ _ c d=>nS c d)),(6,.t (tv (au .shr 3 (.tmp 8) (.const (u6 16)) (i6 x) (u6 16)) (λ_=>hP 16 Dc))),(7,.t (tc (k:= .i64) (l:= .u8) (a:=i6 (x/65536)) λ_ _ _ c d=>nS c d)),(8,.t (tb (a:=u1 ((aP (x/65536)).toNat:Int)) (b:=u1 127) λ_ _ _ _=>vP (aP (x/65536)) ((127:UInt8)))),(10,.s 0)] 0 (ob (B0 e) (rB 3 ([aP x,aP (x/256),(aP (x/65536))&&& (127:UInt8)])).toArray 262) (lf ab.zero [] [] [0])
def nQ(mode:Nat)(a b:Int):Bool:=(bif (mode:Int)==1 then((pc ((a%8388608).toNat)%2:Nat):Int) != ((pc ((b%8388608).toNat)%2:Nat):Int) else !(decide ([aP a,aP (a/256),(aP (a/65536))&&& (127:UInt8)]=[aP b,aP (b/256),(aP (b/65536))&&& (127:UInt8)])))
theorem Ts(mode:Nat)(a b:Int):aa U0 135 #[iN mode,i6 a,i6 b] [] [] N0 (λ_=> .bool (nQ mode a b)):=by
 refine fG Tryz.func135 λw cs=>r0 [] [(6,.bool false)] [] (r0 [] [(8,.bool ((mode:Int)==1))] [] ?_);refine cD (mode:Int) 1 (λe d=>?_) λe d=>?_
 ·exact r0 [(1,.c [] [] (tK a)),(3,.c [] [] (tK b))] [(6,.bool (((pc ((a%8388608).toNat)%2:Nat):Int) != ((pc ((b%8388608).toNat)%2:Nat):Int)))] [6] (ak (.bool (((pc ((a%8388608).toNat)%2:Nat):Int) != ((pc ((b%8388608).toNat)%2:Nat):Int))) ab.zero (by((try simp only[nQ]);(repeat (first | rw[e] | rw[ALct])))<;>rfl) [] [] [])
 exact r0 [(1,.c [] [] (E0 a)),(3,.c [] [] (E0 b)),(4,.t (gy 262 λ_ _ _=>iu (xs:=rB 3 ([aP a,aP (a/256),(aP (a/65536))&&& (127:UInt8)])) (ys:=rB 3 ([aP b,aP (b/256),(aP (b/65536))&&& (127:UInt8)])) Kr (ja (show([aP a,aP (a/256),(aP (a/65536))&&& (127:UInt8)]).length=3 by rfl) (show([aP b,aP (b/256),(aP (b/65536))&&& (127:UInt8)]).length=3 by rfl))))] [(6,.bool (!(decide ([aP a,aP (a/256),(aP (a/65536))&&& (127:UInt8)]=[aP b,aP (b/256),(aP (b/65536))&&& (127:UInt8)]))))] [6] (ak (.bool (!(decide ([aP a,aP (a/256),(aP (a/65536))&&& (127:UInt8)]=[aP b,aP (b/256),(aP (b/65536))&&& (127:UInt8)])))) ab.zero (by((try simp only[nQ]);(repeat (first | rw[e] | rw[ALcf])))<;>rfl) [] [] [])
def rV(a:Int)(x:Ac):Int:=(bif !(oM x) then max a (bif x.mr then(x.ex+1) else x.ex) else a)
def rX(a:Bool)(x:Ac):Bool:=(bif !(oM x) then a else true)
def rY(dr:Bool)(x:Ac):Bool:=(bif !(oM x) then dr else(dr||x.dr)||(decide (0<x.ex)))
def rZ(tl:Bool)(mode:Nat)(x:Ac):Bool:=(bif !(oM x) then tl else(bif ((!x.wr)&&(!x.dr))&&(!(nQ mode x.ix x.wt)) then false else tl))
theorem Tt(e:Int)(b d f:Bool)(mode:Nat)(x:Ac)(h0:0≤x.ex)(h1:x.ex≤1000000):aa U0 108 #[.agg #[i6 e,.bool b,.bool d,.bool f],iN mode,.agg #[.bool x.wr,i6 x.ix,i6 x.wt,.bool x.dr,i6 x.ex,.bool x.mr]] [] [] N0 (λ_=> .agg #[i6 (rV e x),.bool (rX b x),.bool (rY d x),.bool (rZ f mode x)]):=by
 refine fG Tryz.func108 λw cs=>ra (λa=>[(3,pt (B0 a) 0),(5,pt (B1 a) 0),(6,pt (B2 a) 0)]) (λa=>[ob (B0 a) #[i6 e,.bool b,.bool d,.bool f] 166,ob (B1 a) #[.bool x.wr,i6 x.ix,i6 x.wt,.bool x.dr,i6 x.ex,.bool x.mr] 90,ob (B2 a) #[i6 0,.bool false,.bool false,.bool false] 166]) λa=>r0 [(0,.l 1),(1,.c [] [] (QP x))] [(10,.bool (!(oM x)))] [] ?_;refine cB (!(oM x)) (λh=>?_) λh=>?_
 ·refine r0 [(1,.l 1)] [(7,i6 x.ex)] [] (r0 [(1,.l 1)] [(14,.bool x.mr)] [] ?_);refine cJ (x.mr) (λc=>[(7,i6 (bif c then(x.ex+1) else x.ex))]) (λ_=>[ob (B0 a) #[i6 e,.bool b,.bool d,.bool f] 166,ob (B1 a) #[.bool x.wr,i6 x.ix,i6 x.wt,.bool x.dr,i6 x.ex,.bool x.mr] 90,ob (B2 a) #[i6 0,.bool false,.bool false,.bool false] 166]) (λi=>?_) (λi=>?_) ?_
  ·refine r0 [(1,aI x.ex (1) Om)] [(7,i6 (x.ex+1))] [7] ?_;exact cm Kr [0,1,2] Kr
  ·exact cm Kr [0,1,2] Kr
  exact rs [(1,.l 0),(3,.t (tv (Builtin.max_ #[3,3] 3 #[i6 e,i6 (bif x.mr then(x.ex+1) else x.ex)]) (λ_=>qj _ _ _ _))),(5,.s 0)] 0 (ob (B0 a) #[i6 (max e (bif x.mr then(x.ex+1) else x.ex)),.bool b,.bool d,.bool f] 166) (rs [(0,.l 0),(1,.s 2)] 2 (ob (B2 a) #[i6 (max e (bif x.mr then(x.ex+1) else x.ex)),.bool b,.bool d,.bool f] 166) (ak (.agg #[i6 (max e (bif x.mr then(x.ex+1) else x.ex)),.bool b,.bool d,.bool f]) ab.zero (by((try simp only[rV,rX,rY,rZ]);(repeat (first | rw[h] | rw[ALct])))<;>rfl) [] [] [2]))
 refine rs [(1,.s 0)] 0 (ob (B0 a) #[i6 e,.bool true,.bool d,.bool f] 166) (rs [(1,.m (ld 0 (.bool d))),(5,.m (ld 1 (.bool x.dr))),(9,.m (ld 1 (i6 x.ex))),(13,.s 0)] 0 (ob (B0 a) #[i6 e,.bool true,.bool ((d||x.dr)||(decide (0<x.ex))),.bool f] 166) (r0 [(1,.m (ld 1 (.bool x.wr))),(6,.m (ld 1 (.bool x.dr))),(12,.m (ld 1 (i6 x.ix))),(15,.m (ld 1 (i6 x.wt))),(16,.c [] [] (Ts mode x.ix x.wt))] [(55,.bool (((!x.wr)&&(!x.dr))&&(!(nQ mode x.ix x.wt))))] [] ?_));refine cJ (((!x.wr)&&(!x.dr))&&(!(nQ mode x.ix x.wt))) N0 (λc=>[ob (B0 a) #[i6 e,.bool true,.bool ((d||x.dr)||(decide (0<x.ex))),.bool (bif c then false else f)] 166,ob (B1 a) #[.bool x.wr,i6 x.ix,i6 x.wt,.bool x.dr,i6 x.ex,.bool x.mr] 90,ob (B2 a) #[i6 0,.bool false,.bool false,.bool false] 166]) (λg=>?_) (λg=>?_) ?_
 ·refine rr (λ_=>[(1,.s 0)]) N0 [] (λ_ L=>L.set 0 (ob (B0 a) #[i6 e,.bool true,.bool ((d||x.dr)||(decide (0<x.ex))),.bool false] 166)) λj=>?_;exact cm Kr [0,1,2] Kr
 ·exact cm Kr [0,1,2] Kr
 exact rs [(0,.l 0),(1,.s 2)] 2 (ob (B2 a) #[i6 e,.bool true,.bool ((d||x.dr)||(decide (0<x.ex))),.bool (bif ((!x.wr)&&(!x.dr))&&(!(nQ mode x.ix x.wt)) then false else f)] 166) (ak (.agg #[i6 e,.bool true,.bool ((d||x.dr)||(decide (0<x.ex))),.bool (bif ((!x.wr)&&(!x.dr))&&(!(nQ mode x.ix x.wt)) then false else f)]) ab.zero (by((try simp only[rV,rX,rY,rZ]);(repeat (first | rw[h] | rw[ALcf])))<;>rfl) [] [] [2])
section
section
variable {f:FuncId} {args:Array Value} {v:ab→Value} {g gc gl gr gm gq gk gt gg gd ge go:Nat} {c:Cf} {x:Mc} {y:Ct}
theorem oS(h:aa U0 f args [pk (aT gc gl gr gm gq gk gt gg gd ge go c x.x)] [0] (λ_=>[pk (aT gc gl gr gm gq gk gt gg gd ge go c x.x)]) v):aa U0 f args [pk (a6 g gc gl gr gm gq gk gt gg gd ge go c x)] [0] (λ_=>[pk (a6 g gc gl gr gm gq gk gt gg gd ge go c x)]) v:=
 aa.inW h λL ⟨gi,a,vs,e⟩=>⟨1,by rw[e];rfl,gi,a,vs,by rw[e];rfl⟩
theorem UJ(h:aa U0 f args [pk (aq gr gm gq y.s.r)] [0] (λ_=>[pk (aq gr gm gq y.s.r)]) v):aa U0 f args [pk (aT gc gl gr gm gq gk gt gg gd ge go c y)] [0] (λ_=>[pk (aT gc gl gr gm gq gk gt gg gd ge go c y)]) v:=
 aa.inW h λL ⟨u,e⟩=>⟨2,by rw[e];rfl,u,by rw[e];rfl⟩
theorem yz(h:aa U0 f args [pk (aA gg y.s.g)] [0] (λ_=>[pk (aA gg y.s.g)]) v):aa U0 f args [pk (aT gc gl gr gm gq gk gt gg gd ge go c y)] [0] (λ_=>[pk (aT gc gl gr gm gq gk gt gg gd ge go c y)]) v:=
 aa.inW h λL ⟨u,e⟩=>⟨4,by rw[e];rfl,u,by rw[e];rfl⟩
theorem E1(h:aa U0 f args [pk (bj gd ge c y.V)] [0] (λ_=>[pk (bj gd ge c y.V)]) v):aa U0 f args [pk (aT gc gl gr gm gq gk gt gg gd ge go c y)] [0] (λ_=>[pk (aT gc gl gr gm gq gk gt gg gd ge go c y)]) v:=
 aa.inW h λL ⟨u,e⟩=>⟨6,by rw[e];rfl,u,by rw[e];rfl⟩
end
theorem Tu(gc gl gr gm gq gk gt gg gd ge go:Nat)(c:Cf)(x:Ct):aa U0 14 #[pt gc 0] [pk (aT gc gl gr gm gq gk gt gg gd ge go c x)] [0] (λ_=>[pk (aT gc gl gr gm gq gk gt gg gd ge go c x)]) (λ_=>pt gg 0):=aa.pkZ Tryz.func14 λL a=>by
 obtain⟨v,rfl⟩:=a;refine⟨[2,3,4,5,6,7],λ_=>[pk (aq gr gm gq x.s.r),pk (aD gk gt x.s.k),pk (aA gg x.s.g),pk (dC go),pk (bj gd ge c x.V),b3 v x.ns],?_,rfl,λE=>⟨rfl,rfl,⟨_,rfl⟩⟩⟩;exact fG Tryz.func14 λw cs=>r0 [] [(2,.pointer none)] [] (r0 [(3,.l 0),(6,.l 1)] [(2,pt gg 0)] [2] (lf ab.zero [2,3,4,5,6,7] [(0,0),(1,1)] []))
theorem E2(g gc gl gr gm gq gk gt gg gd ge go:Nat)(c:Cf)(x:Mc):aa U0 13 #[pt g 0] [pk (a6 g gc gl gr gm gq gk gt gg gd ge go c x)] [0] (λ_=>[pk (a6 g gc gl gr gm gq gk gt gg gd ge go c x)]) (λ_=>pt gc 0):=aa.pkZ Tryz.func13 λL a=>by
 obtain⟨gi,b,vs,rfl⟩:=a;refine⟨[1,2,3,4],λ_=>[pk (aT gc gl gr gm gq gk gt gg gd ge go c x.x),cM x.id gi,fM b x.inj,c7 vs x.sv],?_,rfl,λE=>⟨rfl,rfl,⟨_,_,_,rfl⟩⟩⟩;exact fG Tryz.func13 λw cs=>r0 [] [(2,.pointer none)] [] (r0 [(3,.l 0)] [(2,pt gc 0)] [2] (lf ab.zero [1,2,3,4] [(0,0)] []))
theorem yA(g gc gl gr gm gq gk gt gg gd ge go:Nat)(c:Cf)(x:Mc):aa U0 30 #[pt g 0] [pk (a6 g gc gl gr gm gq gk gt gg gd ge go c x)] [0] (λ_=>[pk (a6 g gc gl gr gm gq gk gt gg gd ge go c x)]) (λ_=>pt gd 0):=aa.pkZ Tryz.func30 λL a=>by
 obtain⟨gi,b,vs,rfl⟩:=a;refine⟨[1,2,3,4],λ_=>[pk (aT gc gl gr gm gq gk gt gg gd ge go c x.x),cM x.id gi,fM b x.inj,c7 vs x.sv],?_,rfl,λE=>⟨rfl,rfl,⟨_,_,_,rfl⟩⟩⟩;exact fG Tryz.func30 λw cs=>r0 [] [(2,.pointer none)] [] (r0 [(3,.l 0)] [(2,pt gd 0)] [2] (lf ab.zero [1,2,3,4] [(0,0)] []))
theorem E3(g gc gl gr gm gq gk gt gg gd ge go:Nat)(c:Cf)(x:Mc):aa U0 14 #[pt gc 0] [pk (a6 g gc gl gr gm gq gk gt gg gd ge go c x)] [0] (λ_=>[pk (a6 g gc gl gr gm gq gk gt gg gd ge go c x)]) (λ_=>pt gg 0):=oS (Tu gc gl gr gm gq gk gt gg gd ge go c x.x)
theorem yB(g gc gl gr gm gq gk gt gg gd ge go:Nat)(c:Cf)(x:Mc):aa U0 20 #[pt gg 0] [pk (a6 g gc gl gr gm gq gk gt gg gd ge go c x)] [0] (λ_=>[pk (a6 g gc gl gr gm gq gk gt gg gd ge go c x)]) (λ_=>iN x.x.s.g.l.length):=oS (yz (De gg x.x.s.g))
theorem vf(g gc gl gr gm gq gk gt gg gd ge go:Nat)(c:Cf)(x:Mc):aa U0 15 #[pt gg 0] [pk (a6 g gc gl gr gm gq gk gt gg gd ge go c x)] [0] (λ_=>[pk (a6 g gc gl gr gm gq gk gt gg gd ge go c x)]) (λ_=>iN x.x.s.g.next):=oS (yz (Ol gg x.x.s.g))
theorem E4(g gc gl gr gm gq gk gt gg gd ge go:Nat)(c:Cf)(x:Mc):aa U0 21 #[pt gg 0] [pk (a6 g gc gl gr gm gq gk gt gg gd ge go c x)] [0] (λ_=>[pk (a6 g gc gl gr gm gq gk gt gg gd ge go c x)]) (λ_=> .bool x.x.s.g.lost):=oS (yz (On gg x.x.s.g))
theorem Tv(g gc gl gr gm gq gk gt gg gd ge go:Nat)(c:Cf)(x:Mc):aa U0 42 #[pt gd 0] [pk (a6 g gc gl gr gm gq gk gt gg gd ge go c x)] [0] (λ_=>[pk (a6 g gc gl gr gm gq gk gt gg gd ge go c x)]) (λ_=>iN x.x.V.l.length):=oS (kA gc gl gr gm gq gk gt gg gd ge go c x.x)
theorem Tw(g gc gl gr gm gq gk gt gg gd ge go:Nat)(c:Cf)(x:Mc):aa U0 36 #[pt gd 0] [pk (a6 g gc gl gr gm gq gk gt gg gd ge go c x)] [0] (λ_=>[pk (a6 g gc gl gr gm gq gk gt gg gd ge go c x)]) (λ_=>pt ge 0):=oS (E1 (yh gd ge c x.x.V))
theorem Tx(g gc gl gr gm gq gk gt gg gd ge go:Nat)(c:Cf)(x:Mc):aa U0 107 #[pt ge 0] [pk (a6 g gc gl gr gm gq gk gt gg gd ge go c x)] [0] (λ_=>[pk (a6 g gc gl gr gm gq gk gt gg gd ge go c x)]) (λ_=>iN c.E):=oS (E1 (EW gd ge c x.x.V))
end
section
theorem Ty{α:Type}{a b d e f g c i j k l m n h o p q r:List α}:(Vn [a,b,d,c]).Sublist (Vn [a,b,([o,([i,j,k,l,m,n,([d,e,f,g,c]:List (List α)).flatten,h]:List (List α)).flatten,p,q,r]:List (List α)).flatten]):=by
 simp only[Va,Vo,Vg];refine List.Sublist.append (List.Sublist.refl _) (List.Sublist.append (List.Sublist.refl _) ?_);have s:(d++c).Sublist (d++(e++(f++(g++c)))):=List.Sublist.append (List.Sublist.refl _) ((U4 g c).trans ((U4 f _).trans (U4 e _)));have t:(d++(e++(f++(g++c)))).Sublist (d++(e++(f++(g++c)))++h):=Vr _ _;have u:(d++(e++(f++(g++c)))++h).Sublist (i++(j++(k++(l++(m++(n++(d++(e++(f++(g++c)))++h))))))):=
  (U4 n _).trans ((U4 m _).trans ((U4 l _).trans ((U4 k _).trans ((U4 j _).trans (U4 i _)))))
 exact(s.trans (t.trans u)).trans ((Vr _ _).trans (U4 o _))
theorem Tz(e f n g s w B y A u C t i p z:Nat)(c:Cf)(x:Mc)(F:x.x.V.l.length≤1000000)(m:n≤1000000)(bs:av)(h:nj (a6 g s w B y A u C t i p z c x) bs):eT 5 U0 60 #[pt e 0,pt f 0] (λ(x:Nat×Ac)=>#[i6 (x.1:Int),.agg #[.bool (x.2.wr),i6 (x.2.ix),i6 (x.2.wt),.bool (x.2.dr),i6 (x.2.ex),.bool (x.2.mr)]]) ((Vl (x.x.V.l.length-n)).map λk=>(n+k,x.x.V.l.getD (n+k) eS)) (Vn [[(e,.cells #[iN n] 3 (0,0))],[(f,.cells #[pt i 0] 84 (0,0))],bs]):=by
 obtain⟨L,Q,⟨gi,vj,vs,rfl⟩,d,rfl⟩:=h;obtain⟨K,_,rfl,h0,d⟩:=cU d;obtain⟨M,_,rfl,D,d⟩:=cU d;obtain⟨N,_,rfl,h2,d⟩:=cU d;obtain⟨O,_,rfl,h3,d⟩:=cU d;obtain⟨P,_,rfl,h4,d⟩:=cU d;obtain rfl:=mx d;obtain⟨I,Z,⟨v1,rfl⟩,a,rfl⟩:=D;obtain⟨R,_,rfl,i0,a⟩:=cU a;obtain⟨S,_,rfl,i1,a⟩:=cU a;obtain⟨T,_,rfl,i2,a⟩:=cU a;obtain⟨U,_,rfl,i3,a⟩:=cU a;obtain⟨V,_,rfl,i4,a⟩:=cU a;obtain⟨W,_,rfl,i5,a⟩:=cU a;obtain⟨X,_,rfl,o,a⟩:=cU a;obtain⟨Y,_,rfl,i7,a⟩:=cU a;obtain rfl:=mx a;obtain⟨J,fs,⟨l,j,v,rfl⟩,b,rfl⟩:=o;obtain⟨q,_,rfl,G,b⟩:=cU b;obtain⟨f1,_,rfl,j1,b⟩:=cU b;obtain⟨f2,_,rfl,j2,b⟩:=cU b;obtain⟨f3,_,rfl,j3,b⟩:=cU b;obtain⟨r,_,rfl,H,b⟩:=cU b;obtain rfl:=mx b;obtain rfl:q=_:=G;exact(QN e f i p l j n v x.x.V.l r (ao.sq H) F m).mono Ty
structure Lk where
 ex:Int
 ast:Bool
 dr:Bool
 tl:Bool
def TA:Lk:=⟨0,false,false,true⟩
def E5(mode:Nat)(l:Lk)(x:Ac):Lk:=⟨rV l.ex x,rX l.ast x,rY l.dr x,rZ l.tl mode x⟩
def dg(mode:Nat)(l:List Ac):Nat→Lk
 | 0=>TA
 | k+1=>E5 mode (dg mode l k) (l.getD (0+k) eS)
theorem TB(mode:Nat)(l:List Ac)(k:Nat):dg mode l (k+1)=E5 mode (dg mode l k) (l.getD (0+k) eS):=rfl
theorem TC(mode:Nat)(l:List Ac):dg mode l 0=⟨0,false,false,true⟩:=rfl
attribute [local irreducible] dg
theorem TE(g e j p m o i q h a f n:Nat)(c:Cf)(x:Mc)(N:x.x.V.l.length≤900000)(F: ∀k,0≤(x.x.V.l.getD k eS).ex∧(x.x.V.l.getD k eS).ex≤1000000):aa U0 77 #[pt g 0,i6 0,iN x.x.V.l.length] [pk (a6 g e j p m o i q h a f n c x)] [0] (λ_=>[pk (a6 g e j p m o i q h a f n c x)]) (λ_=> .agg #[i6 ((dg c.E x.x.V.l (x.x.V.l.length-0)).ex),.bool ((dg c.E x.x.V.l (x.x.V.l.length-0)).ast),.bool ((dg c.E x.x.V.l (x.x.V.l.length-0)).dr),.bool ((dg c.E x.x.V.l (x.x.V.l.length-0)).tl)]):=by
 refine fG Tryz.func77 λw cs=>ra (λr=>[(5,pt (B0 r) 0),(6,pt (B1 r) 0)]) (λr=>[ob (B0 r) #[iN x.x.V.l.length] 3,ob (B1 r) #[i6 0,.bool false,.bool false,.bool false] 166]) λr=>rr (λ_=>[(2,.s 3)]) (λv=>[(7,pt (B1 v) 0)]) [] (λv L=>L++[ob (B1 v) #[i6 0,.bool false,.bool false,.bool true] 166]) λv=>rr (λ_=>[(1,.c [0] [0] (yA g e j p m o i q h a f n c x)),(2,.c [0] [0] (Tw g e j p m o i q h a f n c x)),(3,.c [0] [0] (Tx g e j p m o i q h a f n c x)),(5,.s 4)]) (λB=>[(8,pt (B4 B) 0)]) [] (λB L=>L++[ob (B4 B) #[iN c.E] 3]) λB=>rr (λ_=>[(1,.c [0] [0] (yA g e j p m o i q h a f n c x)),(3,.c [] [5,6] (QO a 0))]) (λb=>[(19,.func (.func 60) #[] #[pt ((B3 b)) 0,pt (((b 3).y 1)) 0])]) [] (λb L=>L++[ob (B3 b) #[i6 ((0:Nat):Int)] 3,ob ((b 3).y 1) #[pt a 0] 84]) λb=>?_;refine ck 0 (nj (a6 g e j p m o i q h a f n c x)) (λd y=>?_);refine n9 (encs:=λ(x:Nat×Ac)=>#[i6 (x.1:Int),.agg #[.bool (x.2.wr),i6 (x.2.ix),i6 (x.2.wt),.bool (x.2.dr),i6 (x.2.ex),.bool (x.2.mr)]]) (xs:=(Vl (x.x.V.l.length-0)).map (λk=>(0+k,x.x.V.l.getD (0+k) eS))) (KO:=[[((B3 b),.cells #[i6 ((0:Nat):Int)] 3 (0,0))],[(((b 3).y 1),.cells #[pt a 0] 84 (0,0))],d]) (Tz (B3 b) ((b 3).y 1) 0 g e j p m o i q h a f n c x Om Om d y) (enters_of Tryz.func60 Kr rfl) (λk=>k≤x.x.V.l.length-0) (λk L=>L.set 3 (ob (B1 v) #[i6 ((dg c.E x.x.V.l k).ex),.bool ((dg c.E x.x.V.l k).ast),.bool ((dg c.E x.x.V.l k).dr),.bool ((dg c.E x.x.V.l k).tl)] 166)) [5,6,0] Om (by rw[TC];kernel_rfl) (λO k P I K C z=>?_) (λH z=>?_)
 ·obtain⟨A,rfl⟩:=nc C;have D:=A;have G:=F (0+k);refine r0 [] [(9,i6 ((0+k:Nat):Int))] [] (rr (λ_=>[(1,.s 7)]) (λu=>[(10,pt (B0 u) 0)]) [] (λu L=>L++[ob (B0 u) #[.bool ((x.x.V.l.getD (0+k) eS).wr),i6 ((x.x.V.l.getD (0+k) eS).ix),i6 ((x.x.V.l.getD (0+k) eS).wt),.bool ((x.x.V.l.getD (0+k) eS).dr),i6 ((x.x.V.l.getD (0+k) eS).ex),.bool ((x.x.V.l.getD (0+k) eS).mr)] 90]) λu=>?_);refine ag [5,6,0] (λJ M=>?_);exact rF [(1,.l 1),(2,.t (tk (show Value.bool (decide ((x.x.V.l.length:Int)≤((0+k:Nat):Int)))= .bool false from ALca Value.bool (by exact bg Om))))] 24 (rs [(0,.l 3),(1,.l 4),(2,.l 7),(3,.c [] [] (Tt ((dg c.E x.x.V.l k).ex) ((dg c.E x.x.V.l k).ast) ((dg c.E x.x.V.l k).dr) ((dg c.E x.x.V.l k).tl) c.E (x.x.V.l.getD (0+k) eS) Om Om)),(4,.s 3)] 3 (ob (B1 v) #[i6 (rV ((dg c.E x.x.V.l k).ex) (x.x.V.l.getD (0+k) eS)),.bool (rX ((dg c.E x.x.V.l k).ast) (x.x.V.l.getD (0+k) eS)),.bool (rY ((dg c.E x.x.V.l k).dr) (x.x.V.l.getD (0+k) eS)),.bool (rZ ((dg c.E x.x.V.l k).tl) c.E (x.x.V.l.getD (0+k) eS))] 166) (ne _ ⟨Om,rfl⟩ [0,1,2,3,4,5,6] (by rw[TB];kernel_rfl)))
 refine cl [.c d,ob (B0 r) #[iN x.x.V.l.length] 3,ob (B1 r) #[i6 0,.bool false,.bool false,.bool false] 166,ob (B1 v) #[i6 ((dg c.E x.x.V.l (x.x.V.l.length-0)).ex),.bool ((dg c.E x.x.V.l (x.x.V.l.length-0)).ast),.bool ((dg c.E x.x.V.l (x.x.V.l.length-0)).dr),.bool ((dg c.E x.x.V.l (x.x.V.l.length-0)).tl)] 166,ob (B4 B) #[iN c.E] 3,ob (B3 b) #[i6 ((0:Nat):Int)] 3,ob ((b 3).y 1) #[pt a 0] 84] (by rw[Vf,U9];kernel_rfl) ?_;simp only[Vf,U9] at z;exact cw 0 (.c d) ((pk (a6 g e j p m o i q h a f n c x))) (cP y) (rs [(0,.l 3),(1,.s 2)] 2 (ob (B1 r) #[i6 ((dg c.E x.x.V.l (x.x.V.l.length-0)).ex),.bool ((dg c.E x.x.V.l (x.x.V.l.length-0)).ast),.bool ((dg c.E x.x.V.l (x.x.V.l.length-0)).dr),.bool ((dg c.E x.x.V.l (x.x.V.l.length-0)).tl)] 166) (lf ab.zero [0] [] [2]))
end
def r5(mode:Nat)(l:List Ac):Bool:=(!(dg mode l (l.length-0)).ast)&&decide ((dg mode l (l.length-0)).ex≤1)
structure yC (l:List Ac):Prop where
 ex: ∀k,0≤(l.getD k eS).ex∧(l.getD k eS).ex≤1000000
theorem TF(g a h m i k f n e b d j:Nat)(c:Cf)(x:Mc)(p:x.x.V.l.length≤900000)(q:yC x.x.V.l):aa U0 41 #[pt g 0] [pk (a6 g a h m i k f n e b d j c x)] [0] (λ_=>[pk (a6 g a h m i k f n e b d j c x)]) (λ_=> .bool (r5 c.E x.x.V.l)):=by
 exact fG Tryz.func41 λw cs=>r0 [] [(2,.bool false)] [] (rr (λ_=>[(2,.c [0] [0] (yA g a h m i k f n e b d j c x)),(3,.c [0] [0] (Tv g a h m i k f n e b d j c x)),(4,.c [0] [0] (TE g a h m i k f n e b d j c x p q.ex)),(6,.s 1)]) (λo=>[(3,pt (B5 o) 0)]) [] (λo L=>L++[ob (B5 o) #[i6 ((dg c.E x.x.V.l (x.x.V.l.length-0)).ex),.bool ((dg c.E x.x.V.l (x.x.V.l.length-0)).ast),.bool ((dg c.E x.x.V.l (x.x.V.l.length-0)).dr),.bool ((dg c.E x.x.V.l (x.x.V.l.length-0)).tl)] 166]) λo=>r0 [(1,.l 1),(5,.l 1)] [(2,.bool ((!((dg c.E x.x.V.l (x.x.V.l.length-0)).ast))&&(decide (((dg c.E x.x.V.l (x.x.V.l.length-0)).ex)≤1))))] [2] (ak (.bool ((!((dg c.E x.x.V.l (x.x.V.l.length-0)).ast))&&(decide (((dg c.E x.x.V.l (x.x.V.l.length-0)).ex)≤1)))) ab.zero a7 [0] [] []))
theorem TG(v:Value)(l:List Re):aa U0 56 #[v] [.p (aJ l0 v l)] [] (λE=>[ob (E.y 0) #[v] 41]) (λE=> .func (.func 96) #[] #[pt ((E.y 0)) 0]):=by
 exact fO Tryz.func56 0 rfl λb d=>fG Tryz.func56 λw cs=>rr (λ_=>[(0,AP 1 0 (.c b) v (λ_ _=>aJ.cells d))]) (λa=>[(1,pt (B0 a) 0),(2,.nilFunc)]) [] (λa L=>L++[ob (B0 a) #[v] 41]) λa=>r0 [] [(2,.func (.func 96) #[] #[pt (B0 a) 0])] [2] (lf (.l [(a 0).y 0] [] []) [1] [(0,0)] [])
structure UK (q:List Sv):Prop where
 l: ∀k,(q.getD k yu).l.length=64
 w: ∀k,(q.getD k yu).w.length=64
theorem E6{c:Cf}{b:Bool}(h:nP c=b):decide ((((((c.R+c.S)*c.B)*c.M)*c.C:Nat):Int)≤100)=b:=by
 rw[←h];unfold nP;exact decide_eq_decide.2 Om
theorem TI(c:Cf)(b:dd c)(hs:nP c=false):aa U0 12 #[.agg (cA c)] [] [] N0 (λ_=> .pointer none):=by
 exact fG Tryz.func12 λw cs=>ra (λa=>[(1,pt (B0 a) 0),(2,.pointer none)]) (λa=>[ob (B0 a) (cA c) 31]) λa=>rT [(0,.l 0),(1,.c [] [] (aa.v ((EZ c b)) λ_=>ALca Value.bool (show(decide ((((((c.R+c.S)*c.B)*c.M)*c.C:Nat):Int)≤100))=false from(by exact E6 hs))))] 7 (r0 [] [(2,.pointer none)] [2] (lf ab.zero [] [] []))
theorem yD(c:Cf)(b:dd c)(hs:nP c=true):aa U0 12 #[.agg (cA c)] [] [] (λE=>[pk (a6 (E.y 0) ((E.y 1)) ((E.y 2)) ((E.y 3)) ((E.y 4)) ((E.y 5)) ((E.y 6)) ((E.y 7)) ((E.y 8)) ((E.y 9)) ((E.y 10)) ((E.y 11)) c (ar c))]) (λE=>pt ((E.y 0)) 0):=by
 exact fG Tryz.func12 λw cs=>ra (λd=>[(1,pt (B0 d) 0),(2,.pointer none)]) (λd=>[ob (B0 d) (cA c) 31]) λd=>rF [(0,.l 0),(1,.c [] [] (aa.v ((EZ c b)) λ_=>ALca Value.bool (show(decide ((((((c.R+c.S)*c.B)*c.M)*c.C:Nat):Int)≤100))=true from(by exact E6 hs))))] 7 (rr (λ_=>[(0,.l 0),(1,.c [] [1] (Tj c b))]) (λa=>[(3,pt ((B1 a)) 0),(4,i6 0)]) [] (λa L=>L++[pk (a6 (B1 a) ((a 1).y 1) ((a 1).y 3) ((a 1).y 4) ((a 1).y 5) ((a 1).y 6) ((a 1).y 7) ((a 1).y 8) ((a 1).y 9) ((a 1).y 10) ((a 1).y 11) ((a 1).y 12) c (ar c))]) λa=>rF [] 14 (r0 [] [(2,pt ((B1 a)) 0)] [2] (lf (.l [(B1 a),(a 1).y 1,(a 1).y 3,(a 1).y 4,(a 1).y 5,(a 1).y 6,(a 1).y 7,(a 1).y 8,(a 1).y 9,(a 1).y 10,(a 1).y 11,(a 1).y 12] [] []) [1] [] [])))
theorem TJ:aa U0 45 #[] [] [] N0 (λ_=> .agg #[i6 1,i6 0,i6 1,i6 2,i6 2,i6 0,i6 0,i6 1,i6 9,i6 9,i6 9,i6 9,i6 2,i6 2,i6 4,.bool true]):=by
 exact fG Tryz.func45 λw cs=>ra (λa=>[(0,pt (B0 a) 0)]) (λa=>[ob (B0 a) #[i6 0,i6 0,i6 0,i6 0,i6 0,i6 0,i6 0,i6 0,i6 0,i6 0,i6 0,i6 0,i6 0,i6 0,i6 0,.bool false] 31]) λa=>rr (λ_=>[(2,.s 1)]) (λb=>[(1,pt (B1 b) 0)]) [] (λb L=>L++[ob (B1 b) #[i6 9,i6 9] 27]) λb=>rs [(2,.l 1),(3,.l 1),(6,.s 0)] 0 (ob (B0 a) #[i6 1,i6 0,i6 1,i6 2,i6 2,i6 0,i6 0,i6 1,i6 9,i6 9,i6 9,i6 9,i6 2,i6 2,i6 4,.bool true] 31) (lf ab.zero [] [] [0])
structure GM (c:Cf) (x:Mc) (n:Nat):Prop where
 ok:eH c x (1+260*n) (4096+3*n) n
 t:x.x.s.time≤n
theorem GM.start{c:Cf}(h:dd c):GM c (ar c) 0:=⟨Ti h,Vi _⟩
theorem GM.step{c:Cf}{x:Mc}{n:Nat}(h:GM c x n)(a:n≤900){s:St}(hs:StOk s):GM c (dP c x s) (n+1):=
 ⟨(SH h.ok hs Om (VA h.t Om)).mono Om Om Om,U1 (SJ c x s) (U7 h.t)⟩
theorem GM.vl{c:Cf}{x:Mc}{n:Nat}(h:GM c x n)(a:n≤900):x.x.V.l.length≤7000:=U1 h.ok.ct.vl Om
theorem vg(g a i m j l f o e b d k:Nat)(c:Cf)(x:Mc)(n:Nat)(h:GM c x n)(p:n≤900)(s:St)(hs:StOk s):aa U0 16 #[pt g 0,.agg (eSt s).toArray] [pk (a6 g a i m j l f o e b d k c x)] [0] (λ_=>[pk (a6 g a i m j l f o e b d k c (dP c x s))]) (λ_=> .agg (EP (lh c x s)).toArray):=
 SD g a i m j l f o e b d k c x _ _ _ h.ok Om Om Om (VA h.t Om) s hs
def dx:Cf:=⟨1,0,1,2,2,0,0,1,9,9,9,9,2,2,4,true⟩
def E7:St:=⟨2,1,eQ 6 64,0,0,0,0,0,0,0,0,0⟩
def E8:St:=⟨8,0,UZ 64 0,0,1,0,0,0,1,0,40,0⟩
def r6:St:=⟨1,1,UZ 64 0,0,0,0,0,0,0,0,0,0⟩
def vh:Mc:=dP dx (dP dx (ar dx) E7) E8
def yE:Mc:=dP dx vh r6
abbrev yF:St:=⟨2,1,(eQ (6:UInt8) 64),0,0,0,0,0,0,0,0,0⟩
abbrev yG:St:=⟨8,0,z6,0,1,0,0,0,1,0,40,0⟩
abbrev vi:St:=⟨1,1,z6,0,0,0,0,0,0,0,0,0⟩
abbrev vk:Mc:=dP dx (ar dx) yF
abbrev r7:Mc:=dP dx vk yG
abbrev j9:Mc:=dP dx r7 vi
abbrev fX:An:=lh dx r7 vi
theorem TK:(lh dx vh r6).e=0:=by decide+kernel
theorem TL:(lh dx vh r6).n=0:=by decide+kernel
theorem E9:(lh dx vh r6).l=eQ 6 64:=by decide+kernel
theorem TM:yE.x.s.g.l.length=1:=by decide+kernel
theorem TN:r5 1 yE.x.V.l=true:=by decide+kernel
theorem TO:yE.x.V.l.all (λa=>decide (0≤a.ex)&&decide (a.ex≤1000000))=true:=by decide+kernel
theorem TP{l:List Ac}(h:l.all (λa=>decide (0≤a.ex)&&decide (a.ex≤1000000))=true):yC l:=⟨λk=>by
 rw[U5];cases c:l[k]? with
 | none=>exact⟨Int.le_refl _,by decide⟩
 | some a=>
  have b:=List.all_eq_true.1 h a (VU c);simpa using b⟩
theorem yH(x:UInt8):(eQ x 64).length=64:=by unfold eQ;rw[U6,U2,U2]
theorem Fb:dd dx:=⟨⟨⟨by decide⟩,by decide,by decide,by decide⟩,.inl rfl,⟨by decide,by decide,by decide,by decide⟩,⟨by decide,by decide,by decide,by decide⟩,by decide,by decide,by decide,by decide,by decide,by decide⟩
theorem Fc:StOk E7:=⟨yH 6,by decide⟩
theorem Ff:StOk E8:=⟨U2,by decide⟩
theorem Fg:StOk r6:=⟨U2,by decide⟩
section
theorem TQ:aa U0 12 #[.agg #[i6 1,i6 0,i6 1,i6 2,i6 2,i6 0,i6 0,i6 1,i6 9,i6 9,i6 9,i6 9,i6 2,i6 2,i6 4,.bool true]] [] [] (λE=>[pk (a6 (E.y 0) (E.y 1) (E.y 2) (E.y 3) (E.y 4) (E.y 5) (E.y 6) (E.y 7) (E.y 8) (E.y 9) (E.y 10) (E.y 11) dx (ar dx))]) (λE=>pt (E.y 0) 0):=yD dx Fb Dc
attribute [local irreducible] dP lh ar r5
theorem TR:(((fX.e)==0&&((fX.n)==0&&true))&&decide (fX.l=eQ (6:UInt8) 64))=true:=by
 have a:fX.e=0:=TK;have b:fX.n=0:=TL;have c:fX.l=eQ (6:UInt8) 64:=E9;rw[a,b,c];simp
theorem TT:fX.l.length=64:=by
 have a:fX.l=eQ (6:UInt8) 64:=E9;rw[a];exact yH 6
theorem TU:(((j9.x.s.g.l.length:Nat):Int)==1)=true:=by
 have a:j9.x.s.g.l.length=1:=TM;rw[a];rfl
theorem TV:r5 dx.E j9.x.V.l=true:=TN
theorem Fh:GM dx (ar dx) 0:=GM.start Fb
theorem Fi:GM dx vk 1:=Fh.step Dc Fc
theorem Fj:GM dx r7 2:=Fi.step Dc Ff
theorem TW:GM dx j9 3:=Fj.step Dc Fg
theorem TX:j9.x.V.l.length≤900000:=U1 (TW.vl Dc) Dc
theorem TZ:yC j9.x.V.l:=TP TO
theorem T0:StOk yF:=Fc
theorem T1:StOk yG:=Ff
theorem T2:StOk vi:=Fg
theorem vm:aa U0 11 #[] [] [] N0 (λ_=> .bool true):=by
 have h:z6.length=64:=U2;have g:=yH 6;have f:=TT;exact fG Tryz.func11 λw cs=>r0 [] [(0,.bool false)] [] (rr (λ_=>[(0,.c [] [] (TJ)),(2,.s 0)]) (λb=>[(1,pt (B1 b) 0)]) [] (λb L=>L++[ob (B1 b) #[i6 1,i6 0,i6 1,i6 2,i6 2,i6 0,i6 0,i6 1,i6 9,i6 9,i6 9,i6 9,i6 2,i6 2,i6 4,.bool true] 31]) λb=>rr (λ_=>[(0,.l 0),(1,.c [] [1] (TQ))]) (λa=>[(2,pt ((B1 a)) 0)]) [] (λa L=>L++[pk (a6 (B1 a) ((a 1).y 1) ((a 1).y 2) ((a 1).y 3) ((a 1).y 4) ((a 1).y 5) ((a 1).y 6) ((a 1).y 7) ((a 1).y 8) ((a 1).y 9) ((a 1).y 10) ((a 1).y 11) dx (ar dx))]) λa=>rF [] 9 (rr (λ_=>[(0,.c [] [] (PA (6:UInt8))),(2,.s 2)]) (λd=>[(3,pt (B1 d) 0)]) [] (λd L=>L++[ob (B1 d) (rB 64 (eQ (6:UInt8) 64)).toArray 43]) λd=>rs [(1,.l 2),(3,.c [1] [1] (vg (B1 a) ((a 1).y 1) ((a 1).y 2) ((a 1).y 3) ((a 1).y 4) ((a 1).y 5) ((a 1).y 6) ((a 1).y 7) ((a 1).y 8) ((a 1).y 9) ((a 1).y 10) ((a 1).y 11) dx (ar dx) _ (by with_reducible exact Fh) Dc yF (by with_reducible exact T0)))] 1 ((pk (a6 (B1 a) ((a 1).y 1) ((a 1).y 2) ((a 1).y 3) ((a 1).y 4) ((a 1).y 5) ((a 1).y 6) ((a 1).y 7) ((a 1).y 8) ((a 1).y 9) ((a 1).y 10) ((a 1).y 11) dx vk))) (rs [(4,.c [1] [1] (vg (B1 a) ((a 1).y 1) ((a 1).y 2) ((a 1).y 3) ((a 1).y 4) ((a 1).y 5) ((a 1).y 6) ((a 1).y 7) ((a 1).y 8) ((a 1).y 9) ((a 1).y 10) ((a 1).y 11) dx vk _ (by with_reducible exact Fi) Dc yG (by with_reducible exact T1)))] 1 ((pk (a6 (B1 a) ((a 1).y 1) ((a 1).y 2) ((a 1).y 3) ((a 1).y 4) ((a 1).y 5) ((a 1).y 6) ((a 1).y 7) ((a 1).y 8) ((a 1).y 9) ((a 1).y 10) ((a 1).y 11) dx r7))) (rr (λ_=>[(2,.c [1] [1] (vg (B1 a) ((a 1).y 1) ((a 1).y 2) ((a 1).y 3) ((a 1).y 4) ((a 1).y 5) ((a 1).y 6) ((a 1).y 7) ((a 1).y 8) ((a 1).y 9) ((a 1).y 10) ((a 1).y 11) dx r7 _ (by with_reducible exact Fj) Dc vi (by with_reducible exact T2))),(4,.s 3)]) (λe=>[(4,pt (B3 e) 0)]) [] (λe L=>L.set 1 ((pk (a6 (B1 a) ((a 1).y 1) ((a 1).y 2) ((a 1).y 3) ((a 1).y 4) ((a 1).y 5) ((a 1).y 6) ((a 1).y 7) ((a 1).y 8) ((a 1).y 9) ((a 1).y 10) ((a 1).y 11) dx j9)))++[ob (B3 e) (([i6 (fX.e),i6 (fX.n)]:List Value)++rB 64 (fX.l)).toArray 53]) λe=>r0 [(0,.m (ls 3 (([i6 (fX.e),i6 (fX.n)]:List Value)++rB 64 (fX.l)))),(1,.m (ls 2 (rB 64 (eQ (6:UInt8) 64)))),(2,.v (.agg (([i6 0,i6 0]:List Value)++rB 64 (eQ (6:UInt8) 64)).toArray)),(3,.t (TH.cast (gy 53 λ_ _ _=>vU (xs:=([i6 (fX.e),i6 (fX.n)]:List Value)++rB 64 (fX.l)) (ys:=([i6 0,i6 0]:List Value)++rB 64 (eQ (6:UInt8) 64)) Kr (UN Kr Kr a7 (ja (show(fX.l).length=64 by(simp only[LL,g,f];done)) (show(eQ (6:UInt8) 64).length=64 by rfl)))) (show Value.bool ((((fX.e)==0&&((fX.n)==0&&true))&&decide (fX.l=eQ (6:UInt8) 64)))= .bool true from ALca Value.bool (by exact TR)))),(4,.v (.bool true)),(5,.v (pt ((B1 a)) 0)),(6,.c [1] [1] (E2 (B1 a) ((a 1).y 1) ((a 1).y 2) ((a 1).y 3) ((a 1).y 4) ((a 1).y 5) ((a 1).y 6) ((a 1).y 7) ((a 1).y 8) ((a 1).y 9) ((a 1).y 10) ((a 1).y 11) dx j9)),(7,.c [1] [1] (E3 (B1 a) ((a 1).y 1) ((a 1).y 2) ((a 1).y 3) ((a 1).y 4) ((a 1).y 5) ((a 1).y 6) ((a 1).y 7) ((a 1).y 8) ((a 1).y 9) ((a 1).y 10) ((a 1).y 11) dx j9)),(8,.c [1] [1] (yB (B1 a) ((a 1).y 1) ((a 1).y 2) ((a 1).y 3) ((a 1).y 4) ((a 1).y 5) ((a 1).y 6) ((a 1).y 7) ((a 1).y 8) ((a 1).y 9) ((a 1).y 10) ((a 1).y 11) dx j9)),(9,.t (tk (show Value.bool (((j9.x.s.g.l.length:Nat):Int)==1)= .bool true from ALca Value.bool (by exact TU)))),(11,.v (.bool true)),(12,.v (pt ((B1 a)) 0)),(13,.c [1] [1] (aa.v ((TF (B1 a) ((a 1).y 1) ((a 1).y 2) ((a 1).y 3) ((a 1).y 4) ((a 1).y 5) ((a 1).y 6) ((a 1).y 7) ((a 1).y 8) ((a 1).y 9) ((a 1).y 10) ((a 1).y 11) dx j9 TX TZ)) λ_=>ALca Value.bool (show(r5 dx.E j9.x.V.l)=true from(by exact TV)))),(15,.v (.bool true))] [(0,.bool true)] [0] (lf ab.zero [] [] [])))))
end
section
def az(c:Cf)(x:Mc)(l:List St):Nat→Mc
 | 0=>x
 | k+1=>dP c (az c x l k) (l.getD k aC)
theorem T3(c:Cf)(x:Mc)(l:List St):az c x l 0=x:=rfl
theorem r9(c:Cf)(x:Mc)(l:List St)(k:Nat):az c x l (k+1)=dP c (az c x l k) (l.getD k aC):=rfl
structure vn (l:List St):Prop where
 a: ∀k,StOk (l.getD k aC)
theorem yI{c:Cf}{x:Mc}{n:Nat}(h:GM c x n){l:List St}(hs:vn l): ∀k,n+k≤900→GM c (az c x l k) (n+k)
 | 0,_=>h
 | k+1,a=>(yI h hs k Om).step Om (hs.a k)
attribute [local irreducible] az dP lh
end
section
def c8(g h:Lg):Prop:=∃l:List Re,h=l.foldl bF g
theorem c8.rfl'(g:Lg):c8 g g:=⟨[],rfl⟩
theorem c8.one(g:Lg)(x:Re):c8 g (bF g x):=⟨[x],rfl⟩
theorem c8.trans{a b d:Lg}(h1:c8 a b)(h2:c8 b d):c8 a d:=by
 obtain⟨l,rfl⟩:=h1;obtain⟨m,rfl⟩:=h2;exact⟨l++m,List.foldl_append.symm⟩
theorem yJ(m:Mp)(of time:Nat): ∀(l:List Ev) (g:Lg),c8 g (eu m of time g l)
 | [],g=>c8.rfl' g
 | v::l,g=>(c8.one g _).trans (yJ m of time l _)
theorem Fk(s:Le)(a:Ak):c8 s.g (oI s a).g:=yJ _ _ _ _ _
theorem Fl(s:Le)(r h w:Nat)(x:Re):c8 s.g (mb s r h w x).g:=c8.one _ _
theorem Fm(s:Le)(r h w:Nat)(x:Re):c8 s.g (fK s r h w x).g:=by
 unfold fK;cases cC s.k.lp (cX s.k.t h).l w
 ·exact Fl s r h w x
 ·exact(Fl s r h w x).trans (Fk _ _)
theorem Fo(s:Le)(r h w:Nat)(x:Re):c8 s.g (eR s r h w x).g:=by
 unfold eR;cases cC s.k.lr (s.k.F.getD r bh).l w
 ·exact Fm s r h w x
 ·exact(Fm s r h w x).trans (Fk _ _)
theorem T4(heavy:Nat)(s:Le)(n:Nt):c8 s.g (di heavy s n).g:=by
 unfold di
 split
 ·exact c8.rfl' _
 split
 ·exact Fo ..
 split
 ·exact c8.one _ _
 ·exact Fo ..
section
variable (c:Cf) (x:Ct)
theorem yK(i h r:Nat):c8 x.s.g (b0 c x i h r).s.g:=T4 _ _ _
theorem Fp(n:Nat)(b:Bool):c8 x.s.g (cO c x n b).s.g:=by
 have a:=yK c x (bc x n) (mh x n) (mi x n);unfold cO;cases (((bM c x (bc x n):Nat):Int)==1)&&b
 ·exact a
 ·exact a
theorem Fq(n:Nat)(l:List UInt8)(m:Nat):c8 x.s.g (bG c x n l m).s.g:=by
 have a:=yK c x (bc x n) (mh x n) (mi x n);unfold bG;cases (m:Int)==0
 ·cases decide (pc m=64)
  ·cases !(cd (bM c x (bc x n))==0)
   ·exact a
   ·exact a
  ·exact c8.rfl' _
 ·exact c8.rfl' _
theorem T5(y:Ct):c8 y.s.g (pL y).s.g:=yJ _ _ _ _ _
theorem T6:c8 x.s.g (jn c x).s.g:=by
 show c8 x.s.g (pL (mZ c x)).s.g;refine c8.trans ?_ (T5 _);unfold mZ;cases rK x
 ·exact c8.rfl' _
 ·exact yK c x _ _ _
end
theorem T7(c:Cf)(x:Mc)(s:St):c8 x.x.s.g (j7 c x s).x.s.g:=by
 unfold j7
 split
 ·split
  ·exact Fp c x.x _ _
  ·split
   ·exact Fq c x.x _ _ _
   ·split<;>exact Fq c x.x _ _ _
 ·exact c8.rfl' _
def m4(s:St):Bool:=sR s&&(s.k==7)
theorem Fs(c:Cf)(x:Mc)(s:St)(h:m4 s=false):c8 x.x.s.g (dP c x s).x.s.g:=by
 unfold dP
 split
 ·rename_i b
  split
  ·exact Fp c (j6 c x.x) _ _
  ·split
   ·split
    ·exact c8.rfl' _
    ·exact T6 c x.x
   ·split
    ·exact c8.rfl' _
    ·split
     ·rename_i a;unfold m4 at h;rw[b,a] at h;cases h
     ·split
      ·exact c8.rfl' _
      ·exact T7 c {x with st:=x.st+1} s
 ·exact c8.rfl' _
theorem T8(c:Cf)(x:Mc)(s:St)(h:m4 s=true):(dP c x s).x.s.g=jD x.x.s.g:=by
 unfold m4 at h;rw[VF] at h;have a:s.k=7:=eq_of_beq h.2;unfold dP;rw[ALifp h.1,ALifn Om,ALifn Om,ALifn Om,ALifp a];rfl
structure nR (f:Nat) (g:Lg):Prop where
 le:f≤g.next
 n:g.l.length=min g.H (g.next-f)
 lo:g.lost=decide (g.H<g.next-f)
theorem nR.add{f:Nat}{g:Lg}(h:nR f g)(x:Re):nR f (bF g x):=by
 obtain⟨j,k,a⟩:=h;have l:=mU bW g.l;unfold bF
 split
 ·rename_i b
  split
  ·exact⟨by show f≤g.next+1;omega,by show g.l.length=min g.H (g.next+1-f);omega,by show true=decide (g.H<g.next+1-f);rw[cS Om]⟩
  ·rename_i d;have i:aO bW g.l≠g.l.length:=λe=>d (.inr e);refine⟨by show f≤g.next+1;omega,?_,by show true=decide (g.H<g.next+1-f);rw[cS Om]⟩;show(g.l.eraseIdx (aO bW g.l)++[l7 x g.next]).length=min g.H (g.next+1-f);rw[U6,List.length_eraseIdx,ALifp Om,VS];omega
 ·rename_i b;refine⟨by show f≤g.next+1;omega,?_,?_⟩
  ·show(g.l++[l7 x g.next]).length=min g.H (g.next+1-f);rw[U6,VS];omega
  ·show g.lost=decide (g.H<g.next+1-f);rw[a,bg Om,bg Om]
theorem nR.adds{f:Nat}{g a:Lg}(h:nR f g)(b:c8 g a):nR f a:=by
 obtain⟨l,rfl⟩:=b
 induction l generalizing g with
 | nil=>exact h
 | cons x l ih=>exact ih (h.add x)
theorem c8.H{g a:Lg}(b:c8 g a):a.H=g.H:=by
 obtain⟨l,rfl⟩:=b
 induction l generalizing g with
 | nil=>rfl
 | cons x l ih=>exact ih.trans (uE g x)
abbrev fY(x:Re):Bool:=((x.k:Int)==2)
theorem Ft: ∀l:List Re,aO bW l<l.length→(l.eraseIdx (aO bW l)).filter fY=l.filter fY
 | [],h=>absurd h (by simp)
 | x::l,h=>by
  unfold aO at h⊢;cases a:bW x with
  | true=>
   have:fY x=false:=by unfold bW at a;simpa using a
   show l.filter fY=(x::l).filter fY;rw[VP (by rw[this];decide)]
  | false=>
   rw[a] at h;have b:fY x=true:=by unfold bW at a;simpa using a
   have d:aO bW l<l.length:=by
    have e:aO bW l+1<l.length+1:=h;omega
   show((x::l).eraseIdx (aO bW l+1)).filter fY=(x::l).filter fY;rw[List.eraseIdx_cons_succ,Vt b,Vt b,Ft l d]
theorem T9(g:Lg)(x:Re):g.l.filter fY<+:(bF g x).l.filter fY:=by
 have d:=mU bW g.l;unfold bF
 split
 ·split
  ·exact Vu _
  ·rename_i a;have b:aO bW g.l≠g.l.length:=λe=>a (.inr e);show g.l.filter fY<+:(g.l.eraseIdx (aO bW g.l)++[l7 x g.next]).filter fY;rw[Vy,Ft g.l Om];exact VX ..
 ·show g.l.filter fY<+:(g.l++[l7 x g.next]).filter fY;rw[Vy];exact VX ..
theorem Ua{g a:Lg}(b:c8 g a):g.l.filter fY<+:a.l.filter fY:=by
 obtain⟨l,rfl⟩:=b
 induction l generalizing g with
 | nil=>exact Vu _
 | cons x l ih=>exact(T9 g x).trans ih
def ka(c:Cf)(x:Mc)(l:List St):Nat→Nat
 | 0=>x.x.s.g.next
 | k+1=>bif m4 (l.getD k aC) then(az c x l (k+1)).x.s.g.next else ka c x l k
def dQ(c:Cf)(x:Mc)(l:List St):Nat→List Re
 | 0=>[]
 | k+1=>(az c x l (k+1)).x.s.g.l.filter fY
theorem Ub(c:Cf)(x:Mc)(l:List St):ka c x l 0=x.x.s.g.next:=rfl
theorem Fu(c:Cf)(x:Mc)(l:List St)(k:Nat):ka c x l (k+1)=bif m4 (l.getD k aC) then(dP c (az c x l k) (l.getD k aC)).x.s.g.next else ka c x l k:=rfl
theorem Uc(c:Cf)(x:Mc)(l:List St):dQ c x l 0=[]:=rfl
structure Ud (c:Cf) (x:Mc) (l:List St) (k:Nat):Prop where
 i:nR (ka c x l k) (az c x l k).x.s.g
 r:(az c x l k).x.s.g.H=c.log
 p:dQ c x l k<+:(az c x l k).x.s.g.l.filter fY
theorem yL(c:Cf)(l:List St): ∀k,Ud c (ar c) l k
 | 0=>⟨⟨Vi _,by show([]:List Re).length=min c.log (1-1);simp,by show false=decide (c.log<1-1);simp⟩,rfl,V1⟩
 | k+1=>by
  obtain⟨f,b,g⟩:=yL c l k;cases a:m4 (l.getD k aC) with
  | true=>
   have e:=T8 c (az c (ar c) l k) _ a;refine⟨?_,by rw[r9,e];exact b,Vu _⟩;rw[Fu,a,r9];show nR (dP c (az c (ar c) l k) (l.getD k aC)).x.s.g.next (dP c (az c (ar c) l k) (l.getD k aC)).x.s.g;rw[e];exact⟨Vi _,by show([]:List Re).length=min _ ((jD (az c (ar c) l k).x.s.g).next-(jD (az c (ar c) l k).x.s.g).next);rw[V4];simp,by show false=decide (_<(jD (az c (ar c) l k).x.s.g).next-(jD (az c (ar c) l k).x.s.g).next);rw[V4];simp⟩
  | false=>
   have d:=Fs c (az c (ar c) l k) _ a;refine⟨?_,d.H.trans b,Vu _⟩;rw[Fu,a];exact f.adds d
structure Ue (c:Cf) (x:Mc) (l:List St) (k:Nat):Prop where
 n:(dP c (az c x l k) (l.getD k aC)).x.s.g.l.length≤c.log
 f:ka c x l (k+1)≤(dP c (az c x l k) (l.getD k aC)).x.s.g.next
 o:(dP c (az c x l k) (l.getD k aC)).x.s.g.lost=decide (c.log<(dP c (az c x l k) (l.getD k aC)).x.s.g.next-ka c x l (k+1))
 p:(bif m4 (l.getD k aC) then[] else dQ c x l k)<+:(dP c (az c x l k) (l.getD k aC)).x.s.g.l.filter fY
theorem Uf(c:Cf)(l:List St)(k:Nat):Ue c (ar c) l k:=by
 obtain⟨⟨b,d,a⟩,e,g⟩:=yL c l (k+1);rw[r9] at b d a e;rw[e] at d a;refine⟨by omega,b,a,?_⟩;cases f:m4 (l.getD k aC) with
 | true=>exact V1
 | false=>exact(yL c l k).p.trans (Ua (Fs c (az c (ar c) l k) _ f))
end
section
section
variable {P:Program} {f:FuncId} {args:Array Value} {rd:ah} {wt:ab→ah} {v:ab→Value}
theorem aa.inC(h:aa P f args rd [] wt v){ds:List av}(hs:bk rd ds){bs:av}(b:ds.flatten.Sublist bs):aa P f args [.c bs] [] wt v:=by
 refine⟨h.ent,λw cs i a=>?_⟩;obtain⟨d,k,rfl,e,g⟩:=cU i;obtain rfl:=mx g;obtain rfl:d=bs:=e;rw[Va,Vo,Vg] at a;have:=h.out w ds hs ⟨λy j=>a.obj y (b.subset j),a.nd.sublist b⟩;simpa using this
end
structure yM (gg:Nat) (g:Lg) (v:Value) (bs:av):Prop where
 o: ∃fs,aJ l0 v g.l fs∧List.Sublist ([(gg,.cells #[v,iN g.H,iN g.next,.bool g.lost] 124 (0,0))]++fs) bs
theorem Fv{g k o s p r n t e l m q:Nat}{c:Cf}{x:Mc}{bs:av}(h:nj (a6 g k o s p r n t e l m q c x) bs): ∃v,yM e x.x.s.g v bs:=by
 obtain⟨L,F,⟨gi,V,vs,rfl⟩,d,rfl⟩:=h;obtain⟨C,_,rfl,O,d⟩:=cU d;obtain⟨D,_,rfl,u,d⟩:=cU d;obtain⟨A,M,⟨U,rfl⟩,a,rfl⟩:=u;obtain⟨G,_,rfl,Q,a⟩:=cU a;obtain⟨H,_,rfl,R,a⟩:=cU a;obtain⟨I,_,rfl,S,a⟩:=cU a;obtain⟨J,_,rfl,T,a⟩:=cU a;obtain⟨K,_,rfl,w,a⟩:=cU a;obtain⟨B,N,⟨v,rfl⟩,b,rfl⟩:=w;obtain⟨i,_,rfl,y,b⟩:=cU b;obtain⟨j,_,rfl,z,b⟩:=cU b;obtain rfl:=mx b;obtain rfl:i=_:=y;refine⟨v,⟨j,ao.sq z,?_⟩⟩;refine List.Sublist.trans ?_ (VJ (U8 _ (Vz ..)));refine List.Sublist.trans ?_ (VJ (U8 _ (U8 _ (U8 _ (U8 _ (Vz ..))))));rw[Va,Va,Vo,Vg];exact List.Sublist.refl _
theorem Ug(g:Nat)(v:Value)(l:List Re)(room next:Nat)(lost:Bool):aa U0 18 #[pt g 0] [ob g #[v,iN room,iN next,.bool lost] 124,.p (aJ l0 v l)] [] (λE=>[ob (E.y 0) #[v] 41]) (λE=> .func (.func 96) #[] #[pt ((E.y 0)) 0]):=by
 exact fO Tryz.func18 1 rfl λb d=>fG Tryz.func18 λw cs=>r0 [] [(2,.nilFunc)] [] (rr (λ_=>[(3,.l 0),(4,.c [1] [2] (aa.at (rd':=[.c b]) (TG v l) (ec d (λ_ h=>h))))]) (λa=>[(2,.func (.func 96) #[] #[pt ((B4 a)) 0])]) [2] (λa L=>L++[ob (B4 a) #[v] 41]) λa=>lf (.l [(B4 a)] [] []) [2] [(0,0),(1,1)] [])
theorem Fw(g i m q n p l r b j k o:Nat)(c:Cf)(x:Mc)(bs:av)(v:Value)(h:yM b x.x.s.g v bs):aa U0 18 #[pt b 0] [.c bs] [] (λE=>[ob (E.y 0) #[v] 41]) (λE=> .func (.func 96) #[] #[pt (E.y 0) 0]):=by
 obtain⟨d,e,a⟩:=h.o;exact aa.inC (Ug b v x.x.s.g.l x.x.s.g.H x.x.s.g.next x.x.s.g.lost) (ds:=[[(b,_)],d]) ⟨rfl,e,trivial⟩ (by rw[Va,Va,Vo,Vg];exact a)
theorem Fx(b g k o s p r n t e l m q:Nat)(c:Cf)(x:Mc)(i:x.x.s.g.l.length≤1000000)(bs:av)(v:Value)(h:yM e x.x.s.g v bs):eT 5 U0 96 #[pt b 0] (λ(x:Re)=>#[.agg #[iN x.s,iN x.t,iN x.k,iN x.i,iN x.o]]) x.x.s.g.l (Vn [[(b,.cells #[v] 41 (0,0))],bs]):=by
 obtain⟨d,j,a⟩:=h.o;refine(SP b v x.x.s.g.l d j i).mono ?_;simp only[Va,Vo,Vg];exact List.Sublist.append (List.Sublist.refl _) ((U4 _ _).trans a)
def dy(l:List Re):Nat→List Re
 | 0=>[]
 | k+1=>bif ((l.getD k aW).k:Int)==2 then dy l k++[l.getD k aW] else dy l k
theorem Fy(l:List Re):dy l 0=[]:=rfl
theorem pP(l:List Re)(k:Nat):dy l (k+1)=bif ((l.getD k aW).k:Int)==2 then dy l k++[l.getD k aW] else dy l k:=rfl
theorem vp(l:List Re): ∀k,(dy l k).length≤k
 | 0=>Vi _
 | k+1=>by
  have:=vp l k;rw[pP];cases ((l.getD k aW).k:Int)==2
  ·exact Vs this
  ·rw[ALct,U6];exact U7 this
theorem Fz(l:List Re): ∀k,k≤l.length→dy l k=(l.take k).filter fY
 | 0,_=>rfl
 | k+1,h=>by
  have a:k<l.length:=h;rw[pP,Fz l k (Nat.le_of_lt a),List.take_add_one,VN a,Vy,U5,VN a,Option.getD_some,Option.toList_some];cases e:((l[k].k:Int)==2)
  ·rw[ALcf,VP (by show ¬((l[k].k:Int)==2)=true;rw[e];decide),V2,Vg]
  ·rw[ALct,Vt (by show((l[k].k:Int)==2)=true;exact e),V2]
theorem FA(l:List Re):dy l l.length=l.filter fY:=by rw[Fz l _ (Vi _),List.take_length]
theorem Uh{α:Type}{a b:List α}(h:a<+:b)(d:α){i:Nat}(c:i<a.length):b.getD i d=a.getD i d:=by
 obtain⟨t,rfl⟩:=h;rw[U5,VM c,←U5]
theorem Ui{a b:Re}(h:a=b):(!((a.s:Int)==(b.s:Int)&&((a.t:Int)==(b.t:Int)&&((a.k:Int)==(b.k:Int)&&((a.i:Int)==(b.i:Int)&&((a.o:Int)==(b.o:Int)&&true))))))=false:=by subst h;simp
theorem yN(c:Cf)(x:Mc)(l:List St)(k:Nat):ka c x l (k+1)=bif (dw (l.getD k aC).k (l.getD k aC).ln (l.getD k aC).d (l.getD k aC).m (l.getD k aC).f0 (l.getD k aC).f1 (l.getD k aC).f2 (l.getD k aC).f3 (l.getD k aC).f4 (l.getD k aC).f5 (l.getD k aC).f6 (l.getD k aC).f7&&((l.getD k aC).k==7)) then(az c x l (k+1)).x.s.g.next else ka c x l k:=rfl
theorem FB(c:Cf)(x:Mc)(l:List St)(k:Nat):dQ c x l (k+1)=dy (az c x l (k+1)).x.s.g.l (az c x l (k+1)).x.s.g.l.length:=by rw[FA];rfl
theorem FC{b:Bool}{n a f:Nat}(h:b=decide (n<a-f))(hf:f≤a):(b != decide ((n:Int)<(a:Int)-(f:Int)))=false:=by
 have e:decide ((n:Int)<(a:Int)-(f:Int))=decide (n<a-f):=decide_eq_decide.2 Om;rw[e,h];simp
attribute [local irreducible] az dP lh dy ka dQ
theorem Uj(r s b m c way i mode o k n j a heavy g:Int)(e:Bool)(h:l9 r s b m c way i mode o k n j a heavy g=false)(v:Value)(l:List St):aa U0 3 #[.agg #[i6 r,i6 s,i6 b,i6 m,i6 c,i6 way,i6 i,i6 mode,i6 o,i6 k,i6 n,i6 j,i6 a,i6 heavy,i6 g,.bool e],v] [.p (aJ eSt v l)] [] N0 (λ_=> .bool true):=by
 exact fO Tryz.func3 0 rfl λt u=>fG Tryz.func3 λw cs=>ra (λq=>[(2,pt (B0 q) 0),(4,.bool false)]) (λq=>[ob (B0 q) #[i6 r,i6 s,i6 b,i6 m,i6 c,i6 way,i6 i,i6 mode,i6 o,i6 k,i6 n,i6 j,i6 a,i6 heavy,i6 g,.bool e] 31]) λq=>rF [(0,.c [] [] (vm))] 16 (r0 [(0,.l 1),(1,.c [] [] (Tr r s b m c way i mode o k n j a heavy g e h))] [(5,.pointer none)] [] (rT [(3,.d),(4,.d),(5,.d)] 25 (r0 [] [(4,.bool true)] [4] (lf ab.zero [] [(0,0)] []))))
theorem Uk(c:Cf)(b:dd c)(hs:nP c=false)(v:Value)(l:List St):aa U0 3 #[.agg (cA c),v] [.p (aJ eSt v l)] [] N0 (λ_=> .bool true):=by
 exact fO Tryz.func3 0 rfl λe g=>fG Tryz.func3 λw cs=>ra (λa=>[(2,pt (B0 a) 0),(4,.bool false)]) (λa=>[ob (B0 a) (cA c) 31]) λa=>rF [(0,.c [] [] (vm))] 16 (r0 [(0,.l 1),(1,.c [] [] (TI c b hs))] [(5,.pointer none)] [] (rT [(3,.d),(4,.d),(5,.d)] 25 (r0 [] [(4,.bool true)] [4] (lf ab.zero [] [(0,0)] []))))
theorem Ul(c:Cf)(d:dd c)(hs:nP c=true)(v:Value)(l:List St)(h:80<l.length):aa U0 3 #[.agg (cA c),v] [.p (aJ eSt v l)] [] N0 (λ_=> .bool true):=by
 exact fO Tryz.func3 0 rfl λg e=>fG Tryz.func3 λw cs=>ra (λb=>[(2,pt (B0 b) 0),(4,.bool false)]) (λb=>[ob (B0 b) (cA c) 31]) λb=>rF [(0,.c [] [] (vm))] 16 (rr (λ_=>[(0,.l 1),(1,.c [] [2] (yD c d hs))]) (λa=>[(5,pt ((B1 a)) 0)]) [] (λa L=>L++[pk (a6 (B1 a) (((a 1).y 1)) (((a 1).y 2)) (((a 1).y 3)) (((a 1).y 4)) (((a 1).y 5)) (((a 1).y 6)) (((a 1).y 7)) (((a 1).y 8)) (((a 1).y 9)) (((a 1).y 10)) (((a 1).y 11)) c (ar c))]) λa=>rT [(4,ey e.1 0),(5,.t (tk (show Value.bool (decide (80<(l.length:Int)))= .bool true from ALca Value.bool (by exact cS Om))))] 25 (r0 [] [(4,.bool true)] [4] (lf ab.zero [] [(0,0)] [])))
theorem Um(c:Cf)(S:dd c)(hs:nP c=true)(v:Value)(l:List St)(hl:l.length≤80)(T:vn l):aa U0 3 #[.agg (cA c),v] [.p (aJ eSt v l)] [] N0 (λ_=> .bool true):=by
 have g0:=GM.start S;have hl2:=S.l2;refine fO Tryz.func3 0 rfl λbq0 H=>fG Tryz.func3 λw cs=>ra (λq1=>[(2,pt (B0 q1) 0),(4,.bool false)]) (λq1=>[ob (B0 q1) (cA c) 31]) λq1=>rF [(0,.c [] [] (vm))] 16 (rr (λ_=>[(0,.l 1),(1,.c [] [2] (yD c S hs))]) (λa=>[(5,pt ((B1 a)) 0)]) [] (λa L=>L++[pk (a6 (B1 a) (((a 1).y 1)) (((a 1).y 2)) (((a 1).y 3)) (((a 1).y 4)) (((a 1).y 5)) (((a 1).y 6)) (((a 1).y 7)) (((a 1).y 8)) (((a 1).y 9)) (((a 1).y 10)) (((a 1).y 11)) c (ar c))]) λa=>rF [(4,ey H.1 0),(5,.t (tk (show Value.bool (decide (80<(l.length:Int)))= .bool false from ALca Value.bool (by exact bg Om))))] 25 (rr (λ_=>[(1,.c [2] [2] (E2 (B1 a) ((a 1).y 1) ((a 1).y 2) ((a 1).y 3) ((a 1).y 4) ((a 1).y 5) ((a 1).y 6) ((a 1).y 7) ((a 1).y 8) ((a 1).y 9) ((a 1).y 10) ((a 1).y 11) c (ar c))),(2,.c [2] [2] (E3 (B1 a) ((a 1).y 1) ((a 1).y 2) ((a 1).y 3) ((a 1).y 4) ((a 1).y 5) ((a 1).y 6) ((a 1).y 7) ((a 1).y 8) ((a 1).y 9) ((a 1).y 10) ((a 1).y 11) c (ar c)))]) (λ_=>[(6,pt ((a 1).y 8) 0)]) [] (λ_ L=>L.set 2 ((pk (a6 (B1 a) ((a 1).y 1) ((a 1).y 2) ((a 1).y 3) ((a 1).y 4) ((a 1).y 5) ((a 1).y 6) ((a 1).y 7) ((a 1).y 8) ((a 1).y 9) ((a 1).y 10) ((a 1).y 11) c (ar c))))) λq5=>r0 [(1,.c [2] [2] (vf (B1 a) ((a 1).y 1) ((a 1).y 2) ((a 1).y 3) ((a 1).y 4) ((a 1).y 5) ((a 1).y 6) ((a 1).y 7) ((a 1).y 8) ((a 1).y 9) ((a 1).y 10) ((a 1).y 11) c (ar c)))] [(7,i6 (((ar c).x.s.g.next:Nat):Int))] [] (r0 [] [(8,.slice none 0 0)] [] (r0 [(1,ey H.1 0)] [(31,v),(32,iN l.length),(33,i6 0)] [] (cz dJ ?_)))));refine HS (λk _ _=>k≤l.length) (λk e _=>[(33,iN k),(7,i6 ((ka c (ar c) l k:Nat):Int)),(8,e)]) (λk e _ L=>(L.set 2 ((pk (a6 (B1 a) ((a 1).y 1) ((a 1).y 2) ((a 1).y 3) ((a 1).y 4) ((a 1).y 5) ((a 1).y 6) ((a 1).y 7) ((a 1).y 8) ((a 1).y 9) ((a 1).y 10) ((a 1).y 11) c (az c (ar c) l k))))).set 3 (eF e (dQ c (ar c) l k))) (λk _ _=>l.length-k) 0 (.slice none 0 0) _ Om (by rw[Ub];kernel_rfl) (by rw[T3,Uc];kernel_rfl) rfl (λk e V hk10=>?_);have hkk:=hk10;have hgm:=yI g0 T k Om;have hnk:0+k≤900:=by omega
 have hsk:=T.a k;have hsd:=hsk.d;obtain⟨hT1,r,u,R⟩:=Uf c l k;rw[←r9] at hT1 r u R;rw[←FA] at R;have hgv:=vp (az c (ar c) l (k+1)).x.s.g.l (az c (ar c) l (k+1)).x.s.g.l.length;rw[yN] at r u;have y:(bif (dw ((l.getD k aC).k) ((l.getD k aC).ln) ((l.getD k aC).d) ((l.getD k aC).m) ((l.getD k aC).f0) ((l.getD k aC).f1) ((l.getD k aC).f2) ((l.getD k aC).f3) ((l.getD k aC).f4) ((l.getD k aC).f5) ((l.getD k aC).f6) ((l.getD k aC).f7)&&((l.getD k aC).k==7)) then[] else dQ c (ar c) l k)<+:dy (az c (ar c) l (k+1)).x.s.g.l (az c (ar c) l (k+1)).x.s.g.l.length:=R;have hg1:=yI g0 T (k+1) Om;have hnx:=hg1.ok.ct.s.g.n;refine r0 [] [(34,.bool (decide ((k:Int)<(l.length:Int))))] [] ?_;refine b4 (k:Int) (l.length:Int) (λN W=>?_) λN W=>?_
 ·refine rr (λ_=>[(0,e7 H.1 0 k 75),(1,mG RF H.1 0 k 0 75),(3,.s 4)]) (λG=>[(10,pt (B2 G) 0)]) [] (λG L=>L++[ob (B2 G) (sV ((l.getD k aC).k) ((l.getD k aC).ln) ((l.getD k aC).d) ((l.getD k aC).m:Nat) ((l.getD k aC).f0) ((l.getD k aC).f1) ((l.getD k aC).f2) ((l.getD k aC).f3) ((l.getD k aC).f4) ((l.getD k aC).f5) ((l.getD k aC).f6) ((l.getD k aC).f7)) 50]) λG=>rs [(1,.l 4),(2,.c [2] [2] (vg (B1 a) ((a 1).y 1) ((a 1).y 2) ((a 1).y 3) ((a 1).y 4) ((a 1).y 5) ((a 1).y 6) ((a 1).y 7) ((a 1).y 8) ((a 1).y 9) ((a 1).y 10) ((a 1).y 11) c (az c (ar c) l k) _ hgm hnk (⟨((l.getD k aC).k),((l.getD k aC).ln),((l.getD k aC).d),((l.getD k aC).m),((l.getD k aC).f0),((l.getD k aC).f1),((l.getD k aC).f2),((l.getD k aC).f3),((l.getD k aC).f4),((l.getD k aC).f5),((l.getD k aC).f6),((l.getD k aC).f7)⟩:St) hsk))] 2 ((pk (a6 (B1 a) ((a 1).y 1) ((a 1).y 2) ((a 1).y 3) ((a 1).y 4) ((a 1).y 5) ((a 1).y 6) ((a 1).y 7) ((a 1).y 8) ((a 1).y 9) ((a 1).y 10) ((a 1).y 11) c (dP c (az c (ar c) l k) (⟨((l.getD k aC).k),((l.getD k aC).ln),((l.getD k aC).d),((l.getD k aC).m),((l.getD k aC).f0),((l.getD k aC).f1),((l.getD k aC).f2),((l.getD k aC).f3),((l.getD k aC).f4),((l.getD k aC).f5),((l.getD k aC).f6),((l.getD k aC).f7)⟩:St))))) (cl [.c bq0,ob (B0 q1) (cA c) 31,pk (a6 (B1 a) ((a 1).y 1) ((a 1).y 2) ((a 1).y 3) ((a 1).y 4) ((a 1).y 5) ((a 1).y 6) ((a 1).y 7) ((a 1).y 8) ((a 1).y 9) ((a 1).y 10) ((a 1).y 11) c (az c (ar c) l (k+1))),eF e (dQ c (ar c) l k),ob (B2 G) (sV ((l.getD k aC).k) ((l.getD k aC).ln) ((l.getD k aC).d) ((l.getD k aC).m:Nat) ((l.getD k aC).f0) ((l.getD k aC).f1) ((l.getD k aC).f2) ((l.getD k aC).f3) ((l.getD k aC).f4) ((l.getD k aC).f5) ((l.getD k aC).f6) ((l.getD k aC).f7)) 50] (by rw[r9];kernel_rfl) (r0 [(0,.l 4),(1,.c [] [] (jo ((l.getD k aC).k) ((l.getD k aC).ln) ((l.getD k aC).d) ((l.getD k aC).m) ((l.getD k aC).f0) ((l.getD k aC).f1) ((l.getD k aC).f2) ((l.getD k aC).f3) ((l.getD k aC).f4) ((l.getD k aC).f5) ((l.getD k aC).f6) ((l.getD k aC).f7) (by(simp only[LL,hsd];done)))),(4,.l 4)] [(46,.bool ((dw ((l.getD k aC).k) ((l.getD k aC).ln) ((l.getD k aC).d) ((l.getD k aC).m) ((l.getD k aC).f0) ((l.getD k aC).f1) ((l.getD k aC).f2) ((l.getD k aC).f3) ((l.getD k aC).f4) ((l.getD k aC).f5) ((l.getD k aC).f6) ((l.getD k aC).f7))&&(((l.getD k aC).k)==7)))] [] ?_));refine cB ((dw ((l.getD k aC).k) ((l.getD k aC).ln) ((l.getD k aC).d) ((l.getD k aC).m) ((l.getD k aC).f0) ((l.getD k aC).f1) ((l.getD k aC).f2) ((l.getD k aC).f3) ((l.getD k aC).f4) ((l.getD k aC).f5) ((l.getD k aC).f6) ((l.getD k aC).f7))&&(((l.getD k aC).k)==7)) (λD=>?_) λD=>?_
  ·refine rr (λ_=>[(1,.c [2] [2] (vf (B1 a) ((a 1).y 1) ((a 1).y 2) ((a 1).y 3) ((a 1).y 4) ((a 1).y 5) ((a 1).y 6) ((a 1).y 7) ((a 1).y 8) ((a 1).y 9) ((a 1).y 10) ((a 1).y 11) c (az c (ar c) l (k+1))))]) (λ_=>[(7,i6 (((az c (ar c) l (k+1)).x.s.g.next:Nat):Int))]) [7] (λ_ L=>L.set 2 ((pk (a6 (B1 a) ((a 1).y 1) ((a 1).y 2) ((a 1).y 3) ((a 1).y 4) ((a 1).y 5) ((a 1).y 6) ((a 1).y 7) ((a 1).y 8) ((a 1).y 9) ((a 1).y 10) ((a 1).y 11) c (az c (ar c) l (k+1)))))) λq17=>r0 [] [(8,.slice none 0 0)] [8] ?_
   (rw[D,ALct] at r u y)
   refine ra (λz=>[(11,pt (B0 z) 0)]) (λz=>[ob (B0 z) #[.slice none 0 0] 41]) λz=>?_;refine ck 2 (nj (a6 (B1 a) ((a 1).y 1) ((a 1).y 2) ((a 1).y 3) ((a 1).y 4) ((a 1).y 5) ((a 1).y 6) ((a 1).y 7) ((a 1).y 8) ((a 1).y 9) ((a 1).y 10) ((a 1).y 11) c (az c (ar c) l (k+1)))) (λg Z=>?_);obtain⟨M,F⟩:=Fv Z;refine rr (λ_=>[(1,.c [2] [6] (Fw (B1 a) ((a 1).y 1) ((a 1).y 2) ((a 1).y 3) ((a 1).y 4) ((a 1).y 5) ((a 1).y 6) ((a 1).y 7) ((a 1).y 8) ((a 1).y 9) ((a 1).y 10) ((a 1).y 11) c (az c (ar c) l (k+1)) g M F))]) (λA=>[(50,.func (.func 96) #[] #[pt ((B1 A)) 0])]) [] (λA L=>L++[ob (B1 A) #[M] 41]) λA=>cz dJ (cz dJ ?_);refine wu (encs:=λ(x:Re)=>#[.agg #[iN x.s,iN x.t,iN x.k,iN x.i,iN x.o]]) (xs:=(az c (ar c) l (k+1)).x.s.g.l) (KO:=[[((B1 A),.cells #[M] 41 (0,0))],g]) (Fx (B1 A) (B1 a) ((a 1).y 1) ((a 1).y 2) ((a 1).y 3) ((a 1).y 4) ((a 1).y 5) ((a 1).y 6) ((a 1).y 7) ((a 1).y 8) ((a 1).y 9) ((a 1).y 10) ((a 1).y 11) c (az c (ar c) l (k+1)) Om g M F) (enters_of Tryz.func96 Kr rfl) (λj _=>j≤(az c (ar c) l (k+1)).x.s.g.l.length) (λj b L=>(L.set 5 (ob (B0 z) #[b] 41)).set 8 (eF b (dy (az c (ar c) l (k+1)).x.s.g.l j))) [6,2] (.slice none 0 0) Om (by rw[Fy];kernel_rfl) (λlR j b xE R1 W1 U hk22=>?_) (λD21 b hk22=>?_)
   ·obtain⟨hkb23,rfl⟩:=o2 aW U;have hgj:=vp (az c (ar c) l (k+1)).x.s.g.l j;refine rr (λ_=>[(1,.s 9)]) (λI=>[(12,pt (B0 I) 0)]) [] (λI L=>L++[ob (B0 I) #[i6 ((((az c (ar c) l (k+1)).x.s.g.l.getD j aW).s:Nat):Int),i6 ((((az c (ar c) l (k+1)).x.s.g.l.getD j aW).t:Nat):Int),i6 ((((az c (ar c) l (k+1)).x.s.g.l.getD j aW).k:Nat):Int),i6 ((((az c (ar c) l (k+1)).x.s.g.l.getD j aW).i:Nat):Int),i6 ((((az c (ar c) l (k+1)).x.s.g.l.getD j aW).o:Nat):Int)] 59]) λI=>?_;refine ag [6,2] (λR2 W2=>?_);refine r0 [(0,.l 9),(1,.c [] [] (pD ((az c (ar c) l (k+1)).x.s.g.l.getD j aW)))] [(53,.bool ((((az c (ar c) l (k+1)).x.s.g.l.getD j aW).k:Int)==2))] [] ?_;refine cB ((((az c (ar c) l (k+1)).x.s.g.l.getD j aW).k:Int)==2) (λO=>?_) λO=>?_
    ·exact rr (λn=>[(0,.l 5),(1,.l 9),(2,.m (bs 10 1)),(3,eX dJ (b) (dy (az c (ar c) l (k+1)).x.s.g.l j) 8 10 ([(az c (ar c) l (k+1)).x.s.g.l.getD j aW])),(4,.m (e6 5 8 (eF ((n 3).val 0) ((dy (az c (ar c) l (k+1)).x.s.g.l j)++([(az c (ar c) l (k+1)).x.s.g.l.getD j aW]))) ((n 3).val 0) λbs h=>ao.one ((λ_ h=>h) bs h)))]) N0 [] (λn L=>(L.set 5 (ob (B0 z) #[(n 3).val 0] 41)).set 8 (eF ((n 3).val 0) ((dy (az c (ar c) l (k+1)).x.s.g.l j)++([(az c (ar c) l (k+1)).x.s.g.l.getD j aW])))++[ob (B2 n) #[i6 ((((az c (ar c) l (k+1)).x.s.g.l.getD j aW).s:Nat):Int),i6 ((((az c (ar c) l (k+1)).x.s.g.l.getD j aW).t:Nat):Int),i6 ((((az c (ar c) l (k+1)).x.s.g.l.getD j aW).k:Nat):Int),i6 ((((az c (ar c) l (k+1)).x.s.g.l.getD j aW).i:Nat):Int),i6 ((((az c (ar c) l (k+1)).x.s.g.l.getD j aW).o:Nat):Int)] 59]) λn=>ne _ ⟨(n 3).val 0,Om,rfl⟩ [0,1,2,3,4,5,6,7,8] (by rw[pP];(repeat (first | rw[O] | rw[ALct]));kernel_rfl)
    exact ne _ ⟨b,Om,rfl⟩ [0,1,2,3,4,5,6,7,8] (by rw[pP];(repeat (first | rw[O] | rw[ALcf]));kernel_rfl)
   refine cw 2 (.c g) ((pk (a6 (B1 a) ((a 1).y 1) ((a 1).y 2) ((a 1).y 3) ((a 1).y 4) ((a 1).y 5) ((a 1).y 6) ((a 1).y 7) ((a 1).y 8) ((a 1).y 9) ((a 1).y 10) ((a 1).y 11) c (az c (ar c) l (k+1))))) (cP Z) (rF [(1,.c [2] [2] (yB (B1 a) ((a 1).y 1) ((a 1).y 2) ((a 1).y 3) ((a 1).y 4) ((a 1).y 5) ((a 1).y 6) ((a 1).y 7) ((a 1).y 8) ((a 1).y 9) ((a 1).y 10) ((a 1).y 11) c (az c (ar c) l (k+1)))),(3,.m (ld 1 (iN c.log))),(4,.t (tk (show Value.bool (decide ((c.log:Int)<(((az c (ar c) l (k+1)).x.s.g.l.length:Nat):Int)))= .bool false from ALca Value.bool (by exact bg Om)))),(7,.c [2] [2] (E4 (B1 a) ((a 1).y 1) ((a 1).y 2) ((a 1).y 3) ((a 1).y 4) ((a 1).y 5) ((a 1).y 6) ((a 1).y 7) ((a 1).y 8) ((a 1).y 9) ((a 1).y 10) ((a 1).y 11) c (az c (ar c) l (k+1)))),(9,.c [2] [2] (vf (B1 a) ((a 1).y 1) ((a 1).y 2) ((a 1).y 3) ((a 1).y 4) ((a 1).y 5) ((a 1).y 6) ((a 1).y 7) ((a 1).y 8) ((a 1).y 9) ((a 1).y 10) ((a 1).y 11) c (az c (ar c) l (k+1)))),(11,sI (((az c (ar c) l (k+1)).x.s.g.next:Nat):Int) ((((az c (ar c) l (k+1)).x.s.g.next:Nat):Int)) Om),(13,.m (ld 1 (iN c.log))),(15,.t (TH.cast (gy 4 λ_ _ _=>yW Tryz.underlying4 _ _ _ _ _) (show Value.bool (((az c (ar c) l (k+1)).x.s.g.lost) != (decide ((c.log:Int)<((((az c (ar c) l (k+1)).x.s.g.next:Nat):Int)-(((az c (ar c) l (k+1)).x.s.g.next:Nat):Int)))))= .bool false from ALca Value.bool (by exact FC u r)))),(18,.m (ld 5 (b))),(19,ew dJ b (dy (az c (ar c) l (k+1)).x.s.g.l ((az c (ar c) l (k+1)).x.s.g.l.length)) 8),(22,.t (tk (show Value.bool (decide ((((dy (az c (ar c) l (k+1)).x.s.g.l ((az c (ar c) l (k+1)).x.s.g.l.length)).length:Nat):Int)<0))= .bool false from ALca Value.bool (by exact bg (by have:=y.length_le;omega)))))] 81 (r0 [] [(82,.slice none 0 0),(83,i6 0),(84,i6 0)] [] ?_));refine lu 1 ?_;refine rF [] 85 ?_;refine m0 ?_;exact r0 [(0,.l 5)] [(8,b)] [8] (r0 [(0,ad k 1)] [(33,i6 ((k+1:Nat):Int))] [33] (Au (k+1) b (D21::V) Om Om (by rw[yN];(repeat (first | rw[N] | rw[D] | rw[ALct]));kernel_rfl) [0,1,2,8] (by rw[FB];kernel_rfl)))
  (rw[D,ALcf] at r u y)
  refine ra (λB=>[(11,pt (B0 B) 0)]) (λB=>[ob (B0 B) #[.slice none 0 0] 41]) λB=>?_;refine ck 2 (nj (a6 (B1 a) ((a 1).y 1) ((a 1).y 2) ((a 1).y 3) ((a 1).y 4) ((a 1).y 5) ((a 1).y 6) ((a 1).y 7) ((a 1).y 8) ((a 1).y 9) ((a 1).y 10) ((a 1).y 11) c (az c (ar c) l (k+1)))) (λg Z=>?_);obtain⟨M,F⟩:=Fv Z;refine rr (λ_=>[(1,.c [2] [6] (Fw (B1 a) ((a 1).y 1) ((a 1).y 2) ((a 1).y 3) ((a 1).y 4) ((a 1).y 5) ((a 1).y 6) ((a 1).y 7) ((a 1).y 8) ((a 1).y 9) ((a 1).y 10) ((a 1).y 11) c (az c (ar c) l (k+1)) g M F))]) (λC=>[(50,.func (.func 96) #[] #[pt ((B1 C)) 0])]) [] (λC L=>L++[ob (B1 C) #[M] 41]) λC=>cz dJ (cz dJ ?_);refine wu (encs:=λ(x:Re)=>#[.agg #[iN x.s,iN x.t,iN x.k,iN x.i,iN x.o]]) (xs:=(az c (ar c) l (k+1)).x.s.g.l) (KO:=[[((B1 C),.cells #[M] 41 (0,0))],g]) (Fx (B1 C) (B1 a) ((a 1).y 1) ((a 1).y 2) ((a 1).y 3) ((a 1).y 4) ((a 1).y 5) ((a 1).y 6) ((a 1).y 7) ((a 1).y 8) ((a 1).y 9) ((a 1).y 10) ((a 1).y 11) c (az c (ar c) l (k+1)) Om g M F) (enters_of Tryz.func96 Kr rfl) (λj _=>j≤(az c (ar c) l (k+1)).x.s.g.l.length) (λj b L=>(L.set 5 (ob (B0 B) #[b] 41)).set 8 (eF b (dy (az c (ar c) l (k+1)).x.s.g.l j))) [6,2] (.slice none 0 0) Om (by rw[Fy];kernel_rfl) (λlR j b xE R1 W1 U hk36=>?_) (λD35 b hk36=>?_)
  ·obtain⟨hkb37,rfl⟩:=o2 aW U;have hgj:=vp (az c (ar c) l (k+1)).x.s.g.l j;refine rr (λ_=>[(1,.s 9)]) (λJ=>[(12,pt (B0 J) 0)]) [] (λJ L=>L++[ob (B0 J) #[i6 ((((az c (ar c) l (k+1)).x.s.g.l.getD j aW).s:Nat):Int),i6 ((((az c (ar c) l (k+1)).x.s.g.l.getD j aW).t:Nat):Int),i6 ((((az c (ar c) l (k+1)).x.s.g.l.getD j aW).k:Nat):Int),i6 ((((az c (ar c) l (k+1)).x.s.g.l.getD j aW).i:Nat):Int),i6 ((((az c (ar c) l (k+1)).x.s.g.l.getD j aW).o:Nat):Int)] 59]) λJ=>?_;refine ag [6,2] (λR2 W2=>?_);refine r0 [(0,.l 9),(1,.c [] [] (pD ((az c (ar c) l (k+1)).x.s.g.l.getD j aW)))] [(53,.bool ((((az c (ar c) l (k+1)).x.s.g.l.getD j aW).k:Int)==2))] [] ?_;refine cB ((((az c (ar c) l (k+1)).x.s.g.l.getD j aW).k:Int)==2) (λQ=>?_) λQ=>?_
   ·exact rr (λq=>[(0,.l 5),(1,.l 9),(2,.m (bs 10 1)),(3,eX dJ (b) (dy (az c (ar c) l (k+1)).x.s.g.l j) 8 10 ([(az c (ar c) l (k+1)).x.s.g.l.getD j aW])),(4,.m (e6 5 8 (eF ((q 3).val 0) ((dy (az c (ar c) l (k+1)).x.s.g.l j)++([(az c (ar c) l (k+1)).x.s.g.l.getD j aW]))) ((q 3).val 0) λbs h=>ao.one ((λ_ h=>h) bs h)))]) N0 [] (λq L=>(L.set 5 (ob (B0 B) #[(q 3).val 0] 41)).set 8 (eF ((q 3).val 0) ((dy (az c (ar c) l (k+1)).x.s.g.l j)++([(az c (ar c) l (k+1)).x.s.g.l.getD j aW])))++[ob (B2 q) #[i6 ((((az c (ar c) l (k+1)).x.s.g.l.getD j aW).s:Nat):Int),i6 ((((az c (ar c) l (k+1)).x.s.g.l.getD j aW).t:Nat):Int),i6 ((((az c (ar c) l (k+1)).x.s.g.l.getD j aW).k:Nat):Int),i6 ((((az c (ar c) l (k+1)).x.s.g.l.getD j aW).i:Nat):Int),i6 ((((az c (ar c) l (k+1)).x.s.g.l.getD j aW).o:Nat):Int)] 59]) λq=>ne _ ⟨(q 3).val 0,Om,rfl⟩ [0,1,2,3,4,5,6,7,8] (by rw[pP];(repeat (first | rw[Q] | rw[ALct]));kernel_rfl)
   exact ne _ ⟨b,Om,rfl⟩ [0,1,2,3,4,5,6,7,8] (by rw[pP];(repeat (first | rw[Q] | rw[ALcf]));kernel_rfl)
  refine cw 2 (.c g) ((pk (a6 (B1 a) ((a 1).y 1) ((a 1).y 2) ((a 1).y 3) ((a 1).y 4) ((a 1).y 5) ((a 1).y 6) ((a 1).y 7) ((a 1).y 8) ((a 1).y 9) ((a 1).y 10) ((a 1).y 11) c (az c (ar c) l (k+1))))) (cP Z) (rr (λ_=>[(1,.c [2] [2] (yB (B1 a) ((a 1).y 1) ((a 1).y 2) ((a 1).y 3) ((a 1).y 4) ((a 1).y 5) ((a 1).y 6) ((a 1).y 7) ((a 1).y 8) ((a 1).y 9) ((a 1).y 10) ((a 1).y 11) c (az c (ar c) l (k+1)))),(3,.m (ld 1 (iN c.log))),(4,.t (tk (show Value.bool (decide ((c.log:Int)<(((az c (ar c) l (k+1)).x.s.g.l.length:Nat):Int)))= .bool false from ALca Value.bool (by exact bg Om)))),(7,.c [2] [2] (E4 (B1 a) ((a 1).y 1) ((a 1).y 2) ((a 1).y 3) ((a 1).y 4) ((a 1).y 5) ((a 1).y 6) ((a 1).y 7) ((a 1).y 8) ((a 1).y 9) ((a 1).y 10) ((a 1).y 11) c (az c (ar c) l (k+1)))),(9,.c [2] [2] (vf (B1 a) ((a 1).y 1) ((a 1).y 2) ((a 1).y 3) ((a 1).y 4) ((a 1).y 5) ((a 1).y 6) ((a 1).y 7) ((a 1).y 8) ((a 1).y 9) ((a 1).y 10) ((a 1).y 11) c (az c (ar c) l (k+1)))),(11,sI (((az c (ar c) l (k+1)).x.s.g.next:Nat):Int) (((ka c (ar c) l k:Nat):Int)) Om),(13,.m (ld 1 (iN c.log))),(15,.t (TH.cast (gy 4 λ_ _ _=>yW Tryz.underlying4 _ _ _ _ _) (show Value.bool (((az c (ar c) l (k+1)).x.s.g.lost) != (decide ((c.log:Int)<((((az c (ar c) l (k+1)).x.s.g.next:Nat):Int)-((ka c (ar c) l k:Nat):Int)))))= .bool false from ALca Value.bool (by exact FC u r)))),(18,.m (ld 5 (b))),(19,ew dJ b (dy (az c (ar c) l (k+1)).x.s.g.l ((az c (ar c) l (k+1)).x.s.g.l.length)) 8),(21,ew dJ e (dQ c (ar c) l k) 3),(22,.t (tk (show Value.bool (decide ((((dy (az c (ar c) l (k+1)).x.s.g.l ((az c (ar c) l (k+1)).x.s.g.l.length)).length:Nat):Int)<(((dQ c (ar c) l k).length:Nat):Int)))= .bool false from ALca Value.bool (by exact bg (by have:=y.length_le;omega)))))]) (λ_=>[(81,.bool false)]) [] (λ_ L=>L.set 2 ((pk (a6 (B1 a) ((a 1).y 1) ((a 1).y 2) ((a 1).y 3) ((a 1).y 4) ((a 1).y 5) ((a 1).y 6) ((a 1).y 7) ((a 1).y 8) ((a 1).y 9) ((a 1).y 10) ((a 1).y 11) c (az c (ar c) l (k+1)))))) λq42=>cF _ rfl (r0 [(1,ew dJ e (dQ c (ar c) l k) 3)] [(82,e),(83,i6 (((dQ c (ar c) l k).length:Nat):Int)),(84,i6 0)] [] ?_));refine lq (λj=>j≤(dQ c (ar c) l k).length) (λj=>[(84,iN j)]) (λ_ L=>L) (λj=>((dQ c (ar c) l k).length)-j) 0 Om Kr Kr (λj hk44=>?_);have hpj:=y.length_le;refine r0 [] [(85,.bool (decide ((j:Int)<(((dQ c (ar c) l k).length:Nat):Int))))] [] ?_;refine b4 (j:Int) (((dQ c (ar c) l k).length:Nat):Int) (λY X=>?_) λY X=>?_
  ·exact rr (λ_=>[(1,cp dJ e (dQ c (ar c) l k) 3 j),(2,nm dJ e (dQ c (ar c) l k) 3 j 0 5),(5,.s 9)]) (λK=>[(14,pt (B3 K) 0),(13,iN j)]) [] (λK L=>L++[ob (B3 K) #[i6 ((((dQ c (ar c) l k).getD j aW).s:Nat):Int),i6 ((((dQ c (ar c) l k).getD j aW).t:Nat):Int),i6 ((((dQ c (ar c) l k).getD j aW).k:Nat):Int),i6 ((((dQ c (ar c) l k).getD j aW).i:Nat):Int),i6 ((((dQ c (ar c) l k).getD j aW).o:Nat):Int)] 59]) λK=>rF [(0,.l 5),(2,cp dJ b (dy (az c (ar c) l (k+1)).x.s.g.l ((az c (ar c) l (k+1)).x.s.g.l.length)) 8 j),(3,nm dJ b (dy (az c (ar c) l (k+1)).x.s.g.l ((az c (ar c) l (k+1)).x.s.g.l.length)) 8 j 0 5),(4,.l 9),(5,.t (TH.cast (gy 59 λ_ _ _=>iu (xs:=[i6 ((((dy (az c (ar c) l (k+1)).x.s.g.l ((az c (ar c) l (k+1)).x.s.g.l.length)).getD j aW).s:Nat):Int),i6 ((((dy (az c (ar c) l (k+1)).x.s.g.l ((az c (ar c) l (k+1)).x.s.g.l.length)).getD j aW).t:Nat):Int),i6 ((((dy (az c (ar c) l (k+1)).x.s.g.l ((az c (ar c) l (k+1)).x.s.g.l.length)).getD j aW).k:Nat):Int),i6 ((((dy (az c (ar c) l (k+1)).x.s.g.l ((az c (ar c) l (k+1)).x.s.g.l.length)).getD j aW).i:Nat):Int),i6 ((((dy (az c (ar c) l (k+1)).x.s.g.l ((az c (ar c) l (k+1)).x.s.g.l.length)).getD j aW).o:Nat):Int)]) (ys:=[i6 ((((dQ c (ar c) l k).getD j aW).s:Nat):Int),i6 ((((dQ c (ar c) l k).getD j aW).t:Nat):Int),i6 ((((dQ c (ar c) l k).getD j aW).k:Nat):Int),i6 ((((dQ c (ar c) l k).getD j aW).i:Nat):Int),i6 ((((dQ c (ar c) l k).getD j aW).o:Nat):Int)]) Kr a7) (show Value.bool (!(((((dy (az c (ar c) l (k+1)).x.s.g.l ((az c (ar c) l (k+1)).x.s.g.l.length)).getD j aW).s:Nat):Int)==((((dQ c (ar c) l k).getD j aW).s:Nat):Int)&&(((((dy (az c (ar c) l (k+1)).x.s.g.l ((az c (ar c) l (k+1)).x.s.g.l.length)).getD j aW).t:Nat):Int)==((((dQ c (ar c) l k).getD j aW).t:Nat):Int)&&(((((dy (az c (ar c) l (k+1)).x.s.g.l ((az c (ar c) l (k+1)).x.s.g.l.length)).getD j aW).k:Nat):Int)==((((dQ c (ar c) l k).getD j aW).k:Nat):Int)&&(((((dy (az c (ar c) l (k+1)).x.s.g.l ((az c (ar c) l (k+1)).x.s.g.l.length)).getD j aW).i:Nat):Int)==((((dQ c (ar c) l k).getD j aW).i:Nat):Int)&&(((((dy (az c (ar c) l (k+1)).x.s.g.l ((az c (ar c) l (k+1)).x.s.g.l.length)).getD j aW).o:Nat):Int)==((((dQ c (ar c) l k).getD j aW).o:Nat):Int)&&true))))))= .bool false from ALca Value.bool (by exact Ui (Uh y aW Om)))))] 94 (r0 [(0,ad j 1)] [(84,i6 ((j+1:Nat):Int))] [84] (le (j+1) Om Om Kr [0,1,2,3,4,5,6,7,8] Kr))
  exact lx (r0 [(0,.l 5)] [(8,b)] [8] (r0 [(0,ad k 1)] [(33,i6 ((k+1:Nat):Int))] [33] (Au (k+1) b (D35::V) Om Om (by rw[yN];(repeat (first | rw[N] | rw[D] | rw[Y] | rw[ALcf]));kernel_rfl) [0,1,2,8] (by rw[FB];kernel_rfl))))
 obtain rfl:l.length=k:=by omega
 refine HT ?_;exact r0 [] [(4,.bool true)] [] (ak (.bool true) ab.zero a7 [] [(0,0)] [])
end
section
open Go.ChangeShapes Go.WideShapes
theorem dU.split{l m:List gQ}{cs:List Value}(h:dU (l++m) cs):dU l (cs.take l.length)∧dU m (cs.drop l.length):=by
 obtain⟨f,d⟩:=h;rw[U6] at f;refine⟨⟨by rw[List.length_take];omega,λi lf a=>?_⟩,⟨by rw[List.length_drop];omega,λi lf a=>?_⟩⟩
 ·have e:i<l.length:=(List.getElem?_eq_some_iff.1 a).1;obtain⟨v,b,c⟩:=d i lf (by rw[VM e];exact a);exact⟨v,by rw[List.getElem?_take_of_lt e];exact b,c⟩
 ·obtain⟨v,b,c⟩:=d (l.length+i) lf (by rw[List.getElem?_append_right (Nat.le_add_right _ _),Nat.add_sub_cancel_left];exact a);exact⟨v,by rw[List.getElem?_drop];exact b,c⟩
theorem dU.one{f:gQ}{ls:List gQ}{cs:List Value}(h:dU (f::ls) cs): ∃v vs,cs=v::vs∧Cc f v∧dU ls vs:=by
 obtain⟨a,b⟩:=h;cases cs with
 | nil=>simp at a
 | cons v vs=>
  obtain⟨u,c,d⟩:=b 0 f rfl;obtain rfl:v=u:=by simpa using c
  exact⟨v,vs,rfl,d,by simpa using a,λi lf e=>by simpa using b (i+1) lf (by rw[List.getElem?_cons_succ];exact e)⟩
theorem FD: ∀(n:Nat) (cs:List Value),dU (UZ n (.int .u8)) cs→∃d:List UInt8,d.length=n∧cs=d.map λb=>Value.int .u8 (b.toNat:Int)
 | 0,cs,h=>⟨[],rfl,by have:=h.1;simp at this;simpa using this⟩
 | n+1,cs,h=>by
  obtain⟨v,vs,rfl,⟨z,rfl,e⟩,a⟩:=dU.one (by rw[List.replicate_succ] at h;exact h);obtain⟨d,c,rfl⟩:=FD n vs a;have f:=bounds_u8 e;refine⟨UInt8.ofNat z.toNat::d,by rw[List.length_cons,c],?_⟩;rw[V3,show((UInt8.ofNat z.toNat).toNat:Int)=z by rw[UInt8.toNat_ofNat'];omega]
theorem Un{l:List Int}(h:l.length=8): ∃a b c d e f g i,l=[a,b,c,d,e,f,g,i]:=by
 match l,h with
 | [a,b,c,d,e,f,g,i],_=>exact⟨a,b,c,d,e,f,g,i,rfl⟩
def stLs:List gQ:=UZ 2 (.int .i64)++(UZ 64 (.int .u8)++(.int .u64::UZ 8 (.int .i64)))
theorem Uo{cs:List Value}(h:dU stLs cs): ∃s:St,cs=eSt s∧StOk s:=by
 obtain⟨x,y⟩:=dU.split h;obtain⟨z,A⟩:=dU.split y;obtain⟨v,vs,o,⟨m,t,C⟩,B⟩:=dU.one A;obtain⟨G,D,l,_⟩:=tS 2 _ x;obtain⟨d,q,n⟩:=FD 64 _ z;obtain⟨H,F,r,_⟩:=tS 8 _ B;have I:=bounds_u64 C;obtain⟨a,b,c,i,e,f,g,j,rfl⟩:=Un F
 match G,D with
 | [k,p],_=>
  refine⟨⟨k,p,d,m.toNat,a,b,c,i,e,f,g,j⟩,?_,⟨q,by show m.toNat<_;omega⟩⟩;have u:cs=cs.take 2++cs.drop 2:=(Vv 2 cs).symm;have w:cs.drop 2=(cs.drop 2).take 64++(cs.drop 2).drop 64:=(Vv 64 _).symm;have l:cs.take 2=[i6 k,i6 p]:=l;have n:(cs.drop 2).take 64=d.map λb=>Value.int .u8 (b.toNat:Int):=n;have o:(cs.drop 2).drop 64=v::vs:=o;rw[u,w,l,n,o,t,r];show _=[i6 k,i6 p]++rB 64 d++_;rw[vT q,show(m:Int)=((m.toNat:Nat):Int) by omega];rfl
theorem rows_st: ∀(a:List (List Value)),(∀r∈a,dU stLs r)→∃L:List St,a=L.map eSt∧∀s∈L,StOk s
 | [],_=>⟨[],rfl,λs g=>absurd g VG⟩
 | r::a,h=>by
  obtain⟨L,b,c⟩:=rows_st a λx i=>h x (U8 _ i);obtain⟨s,d,f⟩:=Uo (h r Vz);exact⟨s::L,by rw[b,d];rfl,λy j=>(List.mem_cons.1 j).elim (λe=>e▸f) (c y)⟩
theorem sts_ok{l:List St}(h: ∀s∈l,StOk s):vn l:=⟨λk=>by
 rw[U5];cases b:l[k]? with
 | none=>exact⟨U2,by show(0:Nat)<_;decide⟩
 | some a=>exact h a (VU b)⟩
def cfLs:List gQ:=UZ 15 (.int .i64)++[.bool]
theorem cells_cfg{cs:List Value}(h:dU cfLs cs): ∃(r s b m c way e mode n k l j a heavy d:Int) (f:Bool),cs=[i6 r,i6 s,i6 b,i6 m,i6 c,i6 way,i6 e,i6 mode,i6 n,i6 k,i6 l,i6 j,i6 a,i6 heavy,i6 d,.bool f]:=by
 obtain⟨t,u⟩:=dU.split h;obtain⟨v,vs,g,⟨q,o⟩,w⟩:=dU.one u;obtain⟨z,y,i,_⟩:=tS 15 _ t;have x:vs=[]:=List.length_eq_zero_iff.1 w.1
 match z,y with
 | [r,s,b,m,c,way,e,mode,n,k,l,j,a,heavy,d],_=>
  refine⟨r,s,b,m,c,way,e,mode,n,k,l,j,a,heavy,d,q,?_⟩;have p:cs=cs.take 15++cs.drop 15:=(Vv 15 cs).symm;have i:cs.take 15=_:=i;have g:cs.drop 15=_:=g;rw[p,i,g,o,x];rfl
theorem aa.belowQ{P:Program}{f:FuncId}{args:Array Value}{u:Value}{T:av→Prop}{bs:av}(h:aa P f args [.p T] [] N0 (λ_=>u))(w:World)(d:eb bs w)(ht:T bs):Calls P f args w λe w'=>e= .returned u∧Below w.heap.size w w':=by
 refine(callsIn_wide (n:=6)).1 ((callsIn_wide.2 (h.out w [bs] ⟨ht,trivial⟩ (by simpa using d))).mono ?_);rintro e w' ⟨E,g,rfl,i,a⟩;exact⟨rfl,a.os,a.tape,a.output,a.size,λb c=>a.far b c (by simp)⟩
theorem st_sq{A:Option Addr}{n k:Nat}{L:List St}{w:World}(b:L.length=n)(f:n≤k)(g:ou 75 w A (L.map eSt)): ∃a,eb a w∧aJ eSt (.slice A n k) L a:=by
 obtain⟨a,d,e⟩:=Ma (en:=eSt) (k:=75) (c:=k) (λs=>by unfold eSt;rw[U6,U6,GK];rfl) Dc g b;exact⟨a,d,e,A,k-n,by rw[b,Nat.add_sub_cancel' f]⟩
end
section
open Go.ChangeShapes Go.WideShapes
theorem log_con(r s b m c way f mode t i o g d heavy e:Int)(a:Bool)(v:Value)(l:List St)(j:vn l):aa U0 3 #[.agg #[i6 r,i6 s,i6 b,i6 m,i6 c,i6 way,i6 f,i6 mode,i6 t,i6 i,i6 o,i6 g,i6 d,i6 heavy,i6 e,.bool a],v] [.p (aJ eSt v l)] [] N0 (λ_=> .bool true):=by
 cases h:l9 r s b m c way f mode t i o g d heavy e
 ·exact Uj r s b m c way f mode t i o g d heavy e a h v l
 ·obtain⟨q,rfl,rfl,rfl,rfl,rfl,rfl,rfl,rfl,rfl,rfl,rfl,rfl,rfl,rfl,rfl,rfl,k⟩:=Pn a h;cases n:nP q
  ·exact Uk q k n v l
  ·by_cases u:l.length≤80
   ·exact Um q k n v l u j
   ·exact Ul q k n v l Om
end
end E
section
open Go.ChangeShapes Go.WideShapes
theorem WholeLog_any(r s b m c way g mode l i j h d heavy f:Int)(a:Bool)(A:Option Addr)(n k:Nat)(L:List E.St)(t:L.length=n)(q:n≤k)(hs: ∀s∈L,E.StOk s)(w:World)(u:ou 75 w A (L.map E.eSt)):
  Calls U0 3 #[.agg #[.int .i64 r,.int .i64 s,.int .i64 b,.int .i64 m,.int .i64 c,.int .i64 way,.int .i64 g,.int .i64 mode,.int .i64 l,.int .i64 i,.int .i64 j,.int .i64 h,.int .i64 d,.int .i64 heavy,.int .i64 f,.bool a],.slice A n k] w
   λe w'=>e= .returned (.bool true)∧Below w.heap.size w w':=by
 obtain⟨bs,o,p⟩:=E.st_sq t q u;exact(E.log_con r s b m c way g mode l i j h d heavy f a _ L (E.sts_ok hs)).belowQ w o p
end
end Go.Proofs.YtbcodenfkijdnaaGreat
