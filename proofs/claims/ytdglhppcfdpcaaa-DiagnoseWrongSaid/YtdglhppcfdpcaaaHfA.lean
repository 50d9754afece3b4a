/- Several texts in one: Hf Hg. -/
import Derived.Test.YtdglhppcfdpcaaaHdA
import Derived.Test.YtdglhppcfdpcaaaRsQ
namespace Go.Proofs.Ytdglhppcfdpcaaa.E
open Go Go.RowKit Go.Shelf
set_option linter.unusedVariables false
set_option linter.unusedSimpArgs false
attribute [local irreducible] tlL trimL rtTo mulL modL exB logL
def pwA : Nat → List UInt8
  | 0 => []
  | k + 1 => pwA k ++ [gpw (exB.getD (ctN 1) 0) k]
theorem pwA_len : ∀ k, (pwA k).length = k
  | 0 => rfl
  | k + 1 => by rw [pwA, List.length_append, pwA_len k]; rfl
theorem pwA_gen : rtTo (pwA 4) (pwA 4).length = genL := by decide +kernel
set_option maxRecDepth 100000 in
theorem xrsnew (g : Nat) : Con Try.prog 29 #[pt g 0] [ob g (rB 255 exB ++ rN 256 logL).toArray 131] [] (fun E => [ob (E.blk 0) #[pt g 0, (E.val 0)] 128, slB (E.val 0) genL]) (fun E => pt ((E.blk 0)) 0) := by
 have hf := Try.func29
 have hE := enters_of hf (by kernel_rfl) rfl
 refine fE hf (fun w cs => ?_) hE
 refine r0 [] [(2, .pointer none)] [] ?_
 refine rr (fun _ => []) (fun q2 => [(3, pt ((q2 0).blk 0) 0)]) [] (fun q2 L => L ++ [ob ((q2 0).blk 0) #[.slice none 0 0] 89]) fun q2 => ?_
 refine rr (fun _ => [(2, .c [0] [] (xexp g 1 (by omega) (by omega))), (3, .c [] [2, 3, 4] (xpows g (exB.getD (ctN 1) 0) 4))]) (fun q3 => [(9, .func (.func 80) #[] #[pt (((q3 3).blk 0)) 0, pt (((q3 3).blk 1)) 0, pt (((q3 3).blk 2)) 0])]) [] (fun q3 L => L ++ [ob ((q3 3).blk 0) #[i6 4] 3, ob ((q3 3).blk 1) #[pt g 0] 80, ob ((q3 3).blk 2) #[u1 ((exB.getD (ctN 1) 0).toNat : Int)] 5]) fun q3 => ?_
 refine cz kB ?_
 refine cz kB ?_
 refine rf1 (encs := fun (x : Nat × UInt8) => #[i6 (x.1 : Int), u1 (x.2.toNat : Int)]) (xs := (List.range 4).map fun k => (k, gpw (exB.getD (ctN 1) 0) k)) (KO := [[(((q3 3).blk 0), .cells #[i6 4] 3 (0, 0))], [(((q3 3).blk 1), .cells #[pt g 0] 80 (0, 0))], [(((q3 3).blk 2), .cells #[u1 ((exB.getD (ctN 1) 0).toNat : Int)] 5 (0, 0))], [(g, .cells (rB 255 exB ++ rN 256 logL).toArray 131 (0, 0))]]) (xpow_it ((q3 3).blk 0) ((q3 3).blk 1) ((q3 3).blk 2) g (exB.getD (ctN 1) 0)) (enters_of Try.func80 (by kernel_rfl) rfl) (fun j _ => j ≤ 4) (fun j vC3_0 L => (L.set 1 (ob ((q2 0).blk 0) #[vC3_0] 89)).set 6 (slB vC3_0 (pwA j))) [2, 3, 4, 0] (.slice none 0 0) (by omega) (by kernel_rfl) (fun lR j vC3_0 xE R1 W1 hxE hk5 => ?_) (fun D4 vC3_0 hk5 => ?_)
 ·obtain ⟨hkb6, rfl⟩ := range_map_some hxE
  have hpl := pwA_len j
  refine r0 [] [(5, u1 ((gpw (exB.getD (ctN 1) 0) j).toNat : Int))] [] ?_
  refine ag [2, 3, 4, 0] (fun R2 W2 => ?_)
  refine rr (fun q8 => [(0, .l 1), (2, .m (bs 7 1)), (3, apS1 kB (vC3_0) (pwA j) 6 7 ([(gpw (exB.getD (ctN 1) 0) j)])), (4, .m (stV 1 6 (slB ((q8 3).val 0) ((pwA j) ++ ([(gpw (exB.getD (ctN 1) 0) j)]))) ((q8 3).val 0) fun bs h => SlE.one ((fun _ h => h) bs h)))]) (fun _ => []) [] (fun q8 L => (L.set 1 (ob ((q2 0).blk 0) #[(q8 3).val 0] 89)).set 6 (slB ((q8 3).val 0) ((pwA j) ++ ([(gpw (exB.getD (ctN 1) 0) j)]))) ++ [ob ((q8 2).blk 0) #[u1 ((gpw (exB.getD (ctN 1) 0) j).toNat : Int)] 5]) fun q8 => ?_
  exact ne _ ⟨(q8 3).val 0, (by omega), rfl⟩ [0, 1, 2, 3, 4, 5, 6] (by kernel_rfl)
 have hpe := pwA_len 4
 refine rr (fun q9 => [(2, .l 1), (3, .c [0, 6] [7] (Con.at (rd' := [ob g (rB 255 exB ++ rN 256 logL).toArray 131, slB vC3_0 (pwA 4)]) (xroots g vC3_0 (pwA 4) (by omega)) (atS (atW (fun _ h => SlE.sq h) (fun _ h => h))))), (4, tvM (v := .agg #[pt g 0, ((q9 3).val 0)]) 7 (slB ((q9 3).val 0) (rtTo (pwA 4) (pwA 4).length)) (Instr.build 128 #[(0, pt g 0), (1, ((q9 3).val 0))]) (fun bs h w => by obtain ⟨a5, c5, e5⟩ := SlE.form h; rw [e5]; kernel_rfl))]) (fun q9 => [(2, pt ((q9 5).blk 0) 0)]) [2] (fun q9 L => L ++ [slB ((q9 3).val 0) (rtTo (pwA 4) (pwA 4).length), ob ((q9 5).blk 0) #[pt g 0, ((q9 3).val 0)] 128]) fun q9 => ?_
 exact lf (.l [(q9 5).blk 0] [] [((q9 3).val 0)]) [8, 7] [(0, 0)] [] (hf := by rw [← pwA_gen]; kernel_rfl)
def tG : UInt8 := xdiv_0 1 (genL.getD 4 0)
theorem tG_eq : tG = Go.Proofs.Ytdglhppcfdpcaaa.gi (Go.Proofs.Ytdglhppcfdpcaaa.co genL (tlL genL - 1)) := by
  rw [genL_tl]; decide +kernel
theorem modG_eq (d v : List UInt8) : modL ((List.replicate 4 0 ++ d) ++ v) genL tG = modG d v := by rw [tG_eq]; rfl
theorem genL_ln : genL.length = 5 := genL_len
attribute [local irreducible] genL
end Go.Proofs.Ytdglhppcfdpcaaa.E
namespace Go.Proofs.Ytdglhppcfdpcaaa.E
open Go Go.RowKit Go.Shelf
set_option linter.unusedVariables false
set_option linter.unusedSimpArgs false
attribute [local irreducible] tlL trimL rtTo mulL modL exB logL genL
attribute [local irreducible] evalL
theorem ex_pw2 {k : Nat} (h : k < 4) : exB.getD (ctN (k : Int)) 0 = Go.Proofs.Ytdglhppcfdpcaaa.pw 2 k := by
  have : ∀ k : Nat, k < 4 → exB.getD (ctN (k : Int)) 0 = Go.Proofs.Ytdglhppcfdpcaaa.pw 2 k := by decide +kernel
  exact this k h
theorem sy_nx {w v : List UInt8} {k : Nat} (h : k < 4) : syTo w v (k + 1) = (syTo w v k).set k (evalL (w ++ v) (exB.getD (ctN (k : Int)) 0)) := by
  rw [← syTo_set, ex_pw2 h]; rfl
attribute [local irreducible] syTo
set_option maxRecDepth 100000 in
theorem xrssyn (cb g : Nat) (u : Value) (d v : List UInt8) (hd : d.length = 36) (hv : v.length = 3) : Con Try.prog 102 #[pt cb 0, .agg (rB 36 d).toArray, .agg (rB 3 v).toArray] [ob cb #[pt g 0, u] 128, ob g (rB 255 exB ++ rN 256 logL).toArray 131, .p (SqE eB u genL)] [] (fun _ => []) (fun _ => .agg (rB 4 (synL d v)).toArray) := by
 have hf := Try.func102
 have hE := enters_of hf (by kernel_rfl) rfl
 refine Con.ro 2 rfl (fun bq2 hq2 => ?_) hE
 refine fE hf (fun w cs => ?_) hE
 have hms : (([] ++ d) ++ v).length = 39 := by rw [List.nil_append, List.length_append, hd, hv]
 refine rr (fun _ => []) (fun q1 => [(4, pt ((q1 0).blk 0) 0), (5, pt ((q1 1).blk 0) 0), (6, pt ((q1 2).blk 0) 0)]) [] (fun q1 L => L ++ [ob ((q1 0).blk 0) (rB 36 d).toArray 172, ob ((q1 1).blk 0) (rB 3 v).toArray 93, ob ((q1 2).blk 0) (rB 4 (List.replicate 4 0)).toArray 99]) fun q1 => ?_
 refine rr (fun _ => []) (fun q2 => [(7, pt ((q2 0).blk 0) 0)]) [] (fun q2 L => L ++ [ob ((q2 0).blk 0) (rB 4 (List.replicate 4 0)).toArray 99]) fun q2 => ?_
 refine rr (fun q3 => [(0, .m (bs0 7 eB ([u1 0]) 5)), (1, aS 172 ((q1 0).blk 0) 36 1), (2, .m (apS 7 3 slTB (.slice (some ⟨(q3 0).blk 0, 0, none⟩) 0 0) (.slice (some ⟨(q1 0).blk 0, 0, none⟩) 36 36) (xs := []) (ys := d) (ob ((q1 0).blk 0) (rB 36 d).toArray 172) (fun _ h => by rw [show _ = _ from h]; exact row_src (fun _ => rfl) hd) h1B (fun _ => rfl) (by simp only [List.length_set, List.length_append, List.length_replicate, List.length_cons, List.length_nil, List.length_map, List.length_range, List.length_take, List.length_drop, syTo_len, hd, hv]; omega))), (3, aS 93 ((q1 1).blk 0) 3 1), (4, .m (apS 7 4 slTB ((q3 2).val 0) (.slice (some ⟨(q1 1).blk 0, 0, none⟩) 3 3) (xs := [] ++ d) (ys := v) (ob ((q1 1).blk 0) (rB 3 v).toArray 93) (fun _ h => by rw [show _ = _ from h]; exact row_src (fun _ => rfl) hv) h1B (fun _ => rfl) (by simp only [List.length_set, List.length_append, List.length_replicate, List.length_cons, List.length_nil, List.length_map, List.length_range, List.length_take, List.length_drop, syTo_len, hd, hv]; omega)))]) (fun q3 => [(8, (q3 4).val 0)]) [] (fun q3 L => L ++ [slB ((q3 4).val 0) (([] ++ d) ++ v)]) fun q3 => ?_
 refine r0 [] [(15, i6 0)] [] ?_
 refine lq (fun k => k ≤ 4) (fun k => [(15, i6 (k : Int))]) (fun k L => L.set 6 (ob ((q2 0).blk 0) (rB 4 (syTo d v k)).toArray 99)) (fun k => 4 - k) 0 (by omega) (by kernel_rfl) (by rw [syTo_zero]; kernel_rfl) (fun k hk5 => ?_)
 refine r0 [] [(16, .bool (decide ((k : Int) < 4)))] [] ?_
 refine cLt (k : Int) 4 (fun h7 dh7 => ?_) fun h7 dh7 => ?_
 ·refine r0 [] [(9, i6 (k : Int))] [] ?_
  refine rr (fun _ => [(4, .l 0), (9, .l 0), (11, .c [1] [] (xexp g (k : Int) (by omega) (by omega))), (12, .c [1, 7] [] (Con.at (rd' := [ob g (rB 255 exB ++ rN 256 logL).toArray 131, slB ((q3 4).val 0) (([] ++ d) ++ v)]) (xeval g ((q3 4).val 0) (([] ++ d) ++ v) (exB.getD (ctN (k : Int)) 0) (by omega)) (atS (atW (fun _ h => SlE.sq h) (fun _ h => h))))), (13, iA 99 .i64 ((q2 0).blk 0) 0 4 1 k), (14, wD 6 ((q2 0).blk 0) k 99 (u1 ((evalL (([] ++ d) ++ v) (exB.getD (ctN (k : Int)) 0)).toNat : Int)) (rB 4 (syTo d v k)) (rB 4 ((syTo d v k).set k (evalL (([] ++ d) ++ v) (exB.getD (ctN (k : Int)) 0)))) (rL_lt (by omega)) (rB_set (syTo_len ..)))]) (fun _ => []) [] (fun _ L => L.set 6 (ob ((q2 0).blk 0) (rB 4 ((syTo d v k).set k (evalL (([] ++ d) ++ v) (exB.getD (ctN (k : Int)) 0)))).toArray 99)) fun q9 => ?_
  refine r0 [(0, ad k 1)] [(15, i6 ((k + 1 : Nat) : Int))] [15] ?_
  exact le (k + 1) (by omega) (by omega) (by kernel_rfl) [0, 1, 2, 3, 4, 5, 6, 7] (by rw [sy_nx (by omega)]; kernel_rfl)
 obtain rfl : k = 4 := by omega
 refine cl [ob cb #[pt g 0, u] 128, ob g (rB 255 exB ++ rN 256 logL).toArray 131, .c bq2, ob ((q1 0).blk 0) (rB 36 d).toArray 172, ob ((q1 1).blk 0) (rB 3 v).toArray 93, ob ((q1 2).blk 0) (rB 4 (List.replicate 4 0)).toArray 99, ob ((q2 0).blk 0) (rB 4 (synL d v)).toArray 99, slB ((q3 4).val 0) (([] ++ d) ++ v)] (by rw [syTo_all]; kernel_rfl) ?_
 refine lx ?_
 refine rr (fun _ => [(0, .l 6), (1, .s 5)]) (fun _ => []) [] (fun _ L => L.set 5 (ob ((q1 2).blk 0) (rB 4 (synL d v)).toArray 99)) fun q11 => ?_
 exact lf Env.zero [] [(0, 0), (1, 1), (2, 2)] [5]
set_option maxRecDepth 100000 in
theorem xrslost  : Con Try.prog 105 #[] [] [] (fun _ => []) (fun _ => .agg #[i6 3, i6 (-1), u1 0]) := by
 have hf := Try.func105
 have hE := enters_of hf (by kernel_rfl) rfl
 refine fE hf (fun w cs => ?_) hE
 refine rr (fun _ => []) (fun q1 => [(0, pt ((q1 0).blk 0) 0)]) [] (fun q1 L => L ++ [ob ((q1 0).blk 0) #[i6 0, i6 0, u1 0] 169]) fun q1 => ?_
 refine rr (fun _ => [(1, .s 0)]) (fun _ => []) [] (fun _ L => L.set 0 (ob ((q1 0).blk 0) #[i6 3, i6 (-1), u1 0] 169)) fun q2 => ?_
 exact lf Env.zero [] [] [0]
end Go.Proofs.Ytdglhppcfdpcaaa.E
