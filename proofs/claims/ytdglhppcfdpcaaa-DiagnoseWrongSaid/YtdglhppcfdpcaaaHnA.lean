/- Several texts in one: Hn Ho Hp. -/
import Derived.Test.YtdglhppcfdpcaaaHlA
namespace Go.Proofs.Ytdglhppcfdpcaaa.E
open Go Go.RowKit Go.Shelf
set_option linter.unusedVariables false
set_option linter.unusedSimpArgs false
set_option maxRecDepth 100000 in
theorem xright (m : Int) : Con Try.prog 40 #[i6 m] [] [] (fun _ => []) (fun _ => .bool ((m == 1) || (m == 2))) := by
 have hf := Try.func40
 have hE := enters_of hf (by kernel_rfl) rfl
 refine fE hf (fun w cs => ?_) hE
 refine r0 [] [(2, .bool false)] [] ?_
 refine r0 [] [(2, .bool ((m == 1) || (m == 2)))] [2] ?_
 exact lf Env.zero [] [] []
set_option maxRecDepth 100000 in
theorem xchips1  : Con Try.prog 44 #[i6 1] [] [] (fun _ => []) (fun _ => i6 9) := by
 have hf := Try.func44
 have hE := enters_of hf (by kernel_rfl) rfl
 refine fE hf (fun w cs => ?_) hE
 refine r0 [] [(2, i6 0)] [] ?_
 refine r0 [] [(3, i6 1)] [] ?_
 refine r0 [] [(4, .bool true)] [] ?_
 refine cT _ rfl ?_
 refine r0 [] [(2, i6 9)] [2] ?_
 exact lfV (i6 9) Env.zero (by first | rfl | kernel_rfl) [] [] []
set_option maxRecDepth 100000 in
theorem xchips2  : Con Try.prog 44 #[i6 2] [] [] (fun _ => []) (fun _ => i6 36) := by
 have hf := Try.func44
 have hE := enters_of hf (by kernel_rfl) rfl
 refine fE hf (fun w cs => ?_) hE
 refine r0 [] [(2, i6 0)] [] ?_
 refine r0 [] [(3, i6 2)] [] ?_
 refine r0 [] [(4, .bool false)] [] ?_
 refine cF _ rfl ?_
 refine r0 [] [(6, .bool true)] [] ?_
 refine cT _ rfl ?_
 refine r0 [] [(2, i6 36)] [2] ?_
 exact lfV (i6 36) Env.zero (by first | rfl | kernel_rfl) [] [] []
set_option maxRecDepth 100000 in
theorem xwds1  : Con Try.prog 63 #[i6 1] [] [] (fun _ => []) (fun _ => i6 8) := by
 have hf := Try.func63
 have hE := enters_of hf (by kernel_rfl) rfl
 refine fE hf (fun w cs => ?_) hE
 refine r0 [] [(2, i6 0)] [] ?_
 refine r0 [(1, .c [] [] (xright 1))] [(5, .bool (!((1 == 1) || (1 == 2))))] [] ?_
 have h3 : (!((1 == 1) || (1 == 2))) = false := by decide
 refine cF (!((1 == 1) || (1 == 2))) h3 ?_
 refine r0 [(1, .c [] [] (xchips1)), (2, .t (tb (a := i6 72) (b := i6 9) fun _ _ _ _ => bin_quo_i64 (a := 72) (d := 9) (by decide) (by omega)))] [(2, i6 ((72 / 9 : Nat) : Int))] [2] ?_
 exact lfV (i6 ((72 / 9 : Nat) : Int)) Env.zero (by first | rfl | kernel_rfl) [] [] []
set_option maxRecDepth 100000 in
theorem xwds2  : Con Try.prog 63 #[i6 2] [] [] (fun _ => []) (fun _ => i6 2) := by
 have hf := Try.func63
 have hE := enters_of hf (by kernel_rfl) rfl
 refine fE hf (fun w cs => ?_) hE
 refine r0 [] [(2, i6 0)] [] ?_
 refine r0 [(1, .c [] [] (xright 2))] [(5, .bool (!((2 == 1) || (2 == 2))))] [] ?_
 have h3 : (!((2 == 1) || (2 == 2))) = false := by decide
 refine cF (!((2 == 1) || (2 == 2))) h3 ?_
 refine r0 [(1, .c [] [] (xchips2)), (2, .t (tb (a := i6 72) (b := i6 36) fun _ _ _ _ => bin_quo_i64 (a := 72) (d := 36) (by decide) (by omega)))] [(2, i6 ((72 / 36 : Nat) : Int))] [2] ?_
 exact lfV (i6 ((72 / 36 : Nat) : Int)) Env.zero (by first | rfl | kernel_rfl) [] [] []
theorem part_src {α : Type} {en : α → List Value} {d : α} {a l m c N : Nat} {ys : List α} {t : TypeId} (h1 : ∀ x, (en x).length = 1) (h : ys.length = N) (hl : l + m ≤ N) : SrE en (.slice (some ⟨a, l * 1, none⟩) m c) ((ys.drop l).take m) [(a, .cells ((rowL en d N ys).toArray) t (0, 0))] :=
  .inr ⟨a, l * 1, _, t, (0, 0), c, by rw [show ((ys.drop l).take m).length = m by rw [List.length_take, List.length_drop]; omega], by simp, rL_sub (d := d) h1 h hl⟩
set_option maxRecDepth 100000 in
theorem xraww1 (xs : List UInt8) (hx : xs.length = 72) (q : Nat) (hq : q < 8) : Con Try.prog 69 #[.agg (rB 72 xs).toArray, i6 1, i6 (q : Int)] [] [] (fun E => [slB (E.val 0) ((xs.drop (9 * q)).take 9)]) (fun E => (E.val 0)) := by
 have hf := Try.func69
 have hE := enters_of hf (by kernel_rfl) rfl
 refine fE hf (fun w cs => ?_) hE
 refine rr (fun _ => []) (fun q1 => [(3, pt ((q1 0).blk 0) 0), (6, .slice none 0 0)]) [] (fun q1 L => L ++ [ob ((q1 0).blk 0) (rB 72 xs).toArray 50]) fun q1 => ?_
 refine r0 [(5, .c [] [] (xwds1))] [(15, .bool ((decide ((q : Int) < 0)) || (decide (8 ≤ (q : Int)))))] [] ?_
 have h3 : ((decide ((q : Int) < 0)) || (decide (8 ≤ (q : Int)))) = false := by rw [decide_eq_false (by omega), decide_eq_false (by omega)]; rfl
 refine cF ((decide ((q : Int) < 0)) || (decide (8 ≤ (q : Int)))) h3 ?_
 refine r0 [(1, .c [] [] (xchips1))] [(7, i6 9)] [] ?_
 refine rr (fun q5 => [(0, .m (bs0 1 eB ([u1 0]) 5)), (1, .v (i6 9)), (2, .v (i6 (q : Int))), (3, ml 9 q), (4, .v (i6 9)), (5, .v (i6 (q : Int))), (6, ml 9 q), (7, .v (i6 9)), (8, ad (9 * q) 9), (9, aM 50 ((q1 0).blk 0) 72 1 (9 * q) 9), (10, .m (apS 1 0 slTB (.slice (some ⟨(q5 0).blk 0, 0, none⟩) 0 0) (.slice (some ⟨(q1 0).blk 0, (9 * q) * 1, none⟩) 9 (72 - (9 * q))) (xs := []) (ys := (xs.drop (9 * q)).take 9) (ob ((q1 0).blk 0) (rB 72 xs).toArray 50) (fun _ h => by rw [show _ = _ from h]; exact part_src (fun _ => rfl) hx (by omega)) h1B (fun _ => rfl) (by simp only [List.length_set, List.length_append, List.length_replicate, List.length_cons, List.length_nil, List.length_map, List.length_range, List.length_take, List.length_drop, hx]; omega))), (11, .v ((q5 10).val 0))]) (fun q5 => [(6, (q5 10).val 0)]) [6] (fun q5 L => L ++ [slB ((q5 10).val 0) ([] ++ ((xs.drop (9 * q)).take 9))]) fun q5 => ?_
 exact lf (.l [] [] [(q5 10).val 0]) [1] [] [] (hf := by kernel_rfl)
set_option maxRecDepth 100000 in
theorem xraww2 (xs : List UInt8) (hx : xs.length = 72) (q : Nat) (hq : q < 2) : Con Try.prog 69 #[.agg (rB 72 xs).toArray, i6 2, i6 (q : Int)] [] [] (fun E => [slB (E.val 0) ((xs.drop (36 * q)).take 36)]) (fun E => (E.val 0)) := by
 have hf := Try.func69
 have hE := enters_of hf (by kernel_rfl) rfl
 refine fE hf (fun w cs => ?_) hE
 refine rr (fun _ => []) (fun q1 => [(3, pt ((q1 0).blk 0) 0), (6, .slice none 0 0)]) [] (fun q1 L => L ++ [ob ((q1 0).blk 0) (rB 72 xs).toArray 50]) fun q1 => ?_
 refine r0 [(5, .c [] [] (xwds2))] [(15, .bool ((decide ((q : Int) < 0)) || (decide (2 ≤ (q : Int)))))] [] ?_
 have h3 : ((decide ((q : Int) < 0)) || (decide (2 ≤ (q : Int)))) = false := by rw [decide_eq_false (by omega), decide_eq_false (by omega)]; rfl
 refine cF ((decide ((q : Int) < 0)) || (decide (2 ≤ (q : Int)))) h3 ?_
 refine r0 [(1, .c [] [] (xchips2))] [(7, i6 36)] [] ?_
 refine rr (fun q5 => [(0, .m (bs0 1 eB ([u1 0]) 5)), (1, .v (i6 36)), (2, .v (i6 (q : Int))), (3, ml 36 q), (4, .v (i6 36)), (5, .v (i6 (q : Int))), (6, ml 36 q), (7, .v (i6 36)), (8, ad (36 * q) 36), (9, aM 50 ((q1 0).blk 0) 72 1 (36 * q) 36), (10, .m (apS 1 0 slTB (.slice (some ⟨(q5 0).blk 0, 0, none⟩) 0 0) (.slice (some ⟨(q1 0).blk 0, (36 * q) * 1, none⟩) 36 (72 - (36 * q))) (xs := []) (ys := (xs.drop (36 * q)).take 36) (ob ((q1 0).blk 0) (rB 72 xs).toArray 50) (fun _ h => by rw [show _ = _ from h]; exact part_src (fun _ => rfl) hx (by omega)) h1B (fun _ => rfl) (by simp only [List.length_set, List.length_append, List.length_replicate, List.length_cons, List.length_nil, List.length_map, List.length_range, List.length_take, List.length_drop, hx]; omega))), (11, .v ((q5 10).val 0))]) (fun q5 => [(6, (q5 10).val 0)]) [6] (fun q5 L => L ++ [slB ((q5 10).val 0) ([] ++ ((xs.drop (36 * q)).take 36))]) fun q5 => ?_
 exact lf (.l [] [] [(q5 10).val 0]) [1] [] [] (hf := by kernel_rfl)
set_option maxRecDepth 100000 in
theorem xput1 (xs ys : List UInt8) (v : Value) (hx : xs.length = 72) (q : Nat) (hq : q < 8) (hy : ys.length = 9) : Con Try.prog 33 #[.agg (rB 72 xs).toArray, i6 1, i6 (q : Int), v] [.p (SqE eB v ys)] [] (fun _ => []) (fun _ => .agg (rB 72 (xs.take (9 * q) ++ ys ++ xs.drop ((9 * q) + ys.length))).toArray) := by
 have hf := Try.func33
 have hE := enters_of hf (by kernel_rfl) rfl
 refine Con.ro 0 rfl (fun bq0 hq0 => ?_) hE
 refine fE hf (fun w cs => ?_) hE
 refine rr (fun _ => []) (fun q1 => [(4, pt ((q1 0).blk 0) 0), (8, pt ((q1 1).blk 0) 0)]) [] (fun q1 L => L ++ [ob ((q1 0).blk 0) (rB 72 xs).toArray 50, ob ((q1 1).blk 0) (rB 72 (List.replicate 72 0)).toArray 50]) fun q1 => ?_
 refine r0 [(1, .c [] [] (xchips1))] [(9, i6 9)] [] ?_
 refine r0 [(0, .v (i6 (q : Int))), (1, .v (.bool (decide (0 ≤ (q : Int))))), (2, .v (.bool (decide (0 ≤ (q : Int))))), (3, .v (i6 (q : Int))), (4, .v (i6 1)), (5, .c [] [] (xwds1)), (6, .v (.bool (decide ((q : Int) < 8)))), (8, .v (.bool ((decide (0 ≤ (q : Int))) && (decide ((q : Int) < 8))))), (9, .v (v)), (10, lnR hq0.1 0), (11, .v (i6 9)), (12, .v (.bool ((ys.length : Int) == 9)))] [(25, .bool (((decide (0 ≤ (q : Int))) && (decide ((q : Int) < 8))) && ((ys.length : Int) == 9)))] [] ?_
 have h4 : (((decide (0 ≤ (q : Int))) && (decide ((q : Int) < 8))) && ((ys.length : Int) == 9)) = true := by rw [decide_eq_true (by omega), decide_eq_true (by omega)]; simp [hy]
 refine cT (((decide (0 ≤ (q : Int))) && (decide ((q : Int) < 8))) && ((ys.length : Int) == 9)) h4 ?_
 refine rr (fun _ => [(2, ml 9 q), (3, aL 50 ((q1 0).blk 0) 72 1 (9 * q)), (5, .m (cpS kB 1 ((q1 0).blk 0) ((9 * q) * 1) (72 - (9 * q)) (72 - (9 * q)) (rB 72 xs).toArray (rB 72 (xs.take (9 * q) ++ ys ++ xs.drop ((9 * q) + ys.length))).toArray 50 89 89 0 (.c bq0) v ys (cP hq0.1) (by omega) (by rw [List.size_toArray, rB_ln]; omega) (by rw [Nat.mul_one]; exact congrArg List.toArray (rL_splice (d := 0) (fun _ => rfl) hx rfl (by omega)))))]) (fun _ => []) [] (fun _ L => L.set 1 (ob ((q1 0).blk 0) (rB 72 (xs.take (9 * q) ++ ys ++ xs.drop ((9 * q) + ys.length))).toArray 50)) fun q5 => ?_
 refine rr (fun _ => [(0, .l 1), (1, .s 2)]) (fun _ => []) [] (fun _ L => L.set 2 (ob ((q1 1).blk 0) (rB 72 (xs.take (9 * q) ++ ys ++ xs.drop ((9 * q) + ys.length))).toArray 50)) fun q6 => ?_
 exact lf Env.zero [] [(0, 0)] [2]
set_option maxRecDepth 100000 in
theorem xput2 (xs ys : List UInt8) (v : Value) (hx : xs.length = 72) (q : Nat) (hq : q < 2) (hy : ys.length = 36) : Con Try.prog 33 #[.agg (rB 72 xs).toArray, i6 2, i6 (q : Int), v] [.p (SqE eB v ys)] [] (fun _ => []) (fun _ => .agg (rB 72 (xs.take (36 * q) ++ ys ++ xs.drop ((36 * q) + ys.length))).toArray) := by
 have hf := Try.func33
 have hE := enters_of hf (by kernel_rfl) rfl
 refine Con.ro 0 rfl (fun bq0 hq0 => ?_) hE
 refine fE hf (fun w cs => ?_) hE
 refine rr (fun _ => []) (fun q1 => [(4, pt ((q1 0).blk 0) 0), (8, pt ((q1 1).blk 0) 0)]) [] (fun q1 L => L ++ [ob ((q1 0).blk 0) (rB 72 xs).toArray 50, ob ((q1 1).blk 0) (rB 72 (List.replicate 72 0)).toArray 50]) fun q1 => ?_
 refine r0 [(1, .c [] [] (xchips2))] [(9, i6 36)] [] ?_
 refine r0 [(0, .v (i6 (q : Int))), (1, .v (.bool (decide (0 ≤ (q : Int))))), (2, .v (.bool (decide (0 ≤ (q : Int))))), (3, .v (i6 (q : Int))), (4, .v (i6 2)), (5, .c [] [] (xwds2)), (6, .v (.bool (decide ((q : Int) < 2)))), (8, .v (.bool ((decide (0 ≤ (q : Int))) && (decide ((q : Int) < 2))))), (9, .v (v)), (10, lnR hq0.1 0), (11, .v (i6 36)), (12, .v (.bool ((ys.length : Int) == 36)))] [(25, .bool (((decide (0 ≤ (q : Int))) && (decide ((q : Int) < 2))) && ((ys.length : Int) == 36)))] [] ?_
 have h4 : (((decide (0 ≤ (q : Int))) && (decide ((q : Int) < 2))) && ((ys.length : Int) == 36)) = true := by rw [decide_eq_true (by omega), decide_eq_true (by omega)]; simp [hy]
 refine cT (((decide (0 ≤ (q : Int))) && (decide ((q : Int) < 2))) && ((ys.length : Int) == 36)) h4 ?_
 refine rr (fun _ => [(2, ml 36 q), (3, aL 50 ((q1 0).blk 0) 72 1 (36 * q)), (5, .m (cpS kB 1 ((q1 0).blk 0) ((36 * q) * 1) (72 - (36 * q)) (72 - (36 * q)) (rB 72 xs).toArray (rB 72 (xs.take (36 * q) ++ ys ++ xs.drop ((36 * q) + ys.length))).toArray 50 89 89 0 (.c bq0) v ys (cP hq0.1) (by omega) (by rw [List.size_toArray, rB_ln]; omega) (by rw [Nat.mul_one]; exact congrArg List.toArray (rL_splice (d := 0) (fun _ => rfl) hx rfl (by omega)))))]) (fun _ => []) [] (fun _ L => L.set 1 (ob ((q1 0).blk 0) (rB 72 (xs.take (36 * q) ++ ys ++ xs.drop ((36 * q) + ys.length))).toArray 50)) fun q5 => ?_
 refine rr (fun _ => [(0, .l 1), (1, .s 2)]) (fun _ => []) [] (fun _ L => L.set 2 (ob ((q1 1).blk 0) (rB 72 (xs.take (36 * q) ++ ys ++ xs.drop ((36 * q) + ys.length))).toArray 50)) fun q6 => ?_
 exact lf Env.zero [] [(0, 0)] [2]
end Go.Proofs.Ytdglhppcfdpcaaa.E
namespace Go.Proofs.Ytdglhppcfdpcaaa.E
open Go Go.RowKit Go.Shelf
set_option linter.unusedVariables false
set_option linter.unusedSimpArgs false
/-- The bytes of words. -/
def fwB (ws : List Nat) (i : Nat) : UInt8 := UInt8.ofNat (ws.getD (i / 8) 0 / 2 ^ (8 * (i % 8)))
theorem fwB_at {ws : List Nat} {k j : Nat} (hj : j < 8) : fwB ws (8 * k + j) = UInt8.ofNat (ws.getD k 0 / 2 ^ (8 * j)) := by
  unfold fwB
  rw [show (8 * k + j) / 8 = k by omega, show (8 * k + j) % 8 = j by omega]
attribute [local irreducible] fillL
set_option maxRecDepth 100000 in
theorem xfrom (ws : List Nat) (hw : ws.length = 8) (hb : ∀ i, ws.getD i 0 < 18446744073709551616) : Con Try.prog 70 #[.agg (rW 8 ws).toArray] [] [] (fun _ => []) (fun _ => .agg (rB 64 (fillL 64 (fwB ws) (8 * 8))).toArray) := by
 have hf := Try.func70
 have hE := enters_of hf (by kernel_rfl) rfl
 refine fE hf (fun w cs => ?_) hE
 refine rr (fun _ => []) (fun q1 => [(1, pt ((q1 0).blk 0) 0), (2, pt ((q1 1).blk 0) 0)]) [] (fun q1 L => L ++ [ob ((q1 0).blk 0) (rW 8 ws).toArray 143, ob ((q1 1).blk 0) (rB 64 (List.replicate 64 0)).toArray 48]) fun q1 => ?_
 refine rr (fun _ => []) (fun q2 => [(3, pt ((q2 0).blk 0) 0)]) [] (fun q2 L => L ++ [ob ((q2 0).blk 0) (rB 64 (List.replicate 64 0)).toArray 48]) fun q2 => ?_
 refine r0 [(0, .l 0)] [(7, .agg (rW 8 ws).toArray), (8, i6 0)] [] ?_
 refine lq (fun k => k ≤ 8) (fun k => [(8, i6 (k : Int))]) (fun k L => L.set 2 (ob ((q2 0).blk 0) (rB 64 (fillL 64 (fwB ws) (8 * k))).toArray 48)) (fun k => 8 - k) 0 (by omega) (by kernel_rfl) (by rw [Nat.mul_zero, fillL_zero]; kernel_rfl) (fun k hk4 => ?_)
 refine r0 [] [(9, .bool (decide ((k : Int) < 8)))] [] ?_
 refine cLt (k : Int) 8 (fun h6 dh6 => ?_) fun h6 dh6 => ?_
 ·refine r0 [(1, .t (tv (Instr.index 143 (.agg (rW 8 ws).toArray) (i6 (k : Int))) (fun _ => run_index_agg (n := 8) (e := 87) Try.underlying143 (by omega) (fun _ => by kernel_rfl) (by kernel_rfl) (rW_get (by omega)))))] [(4, i6 (k : Int)), (5, u6 ((ws.getD k 0 : Nat) : Int))] [] ?_
  refine r0 [] [(12, i6 0)] [] ?_
  refine lq (fun j => j ≤ 8) (fun j => [(12, i6 (j : Int))]) (fun j L => L.set 2 (ob ((q2 0).blk 0) (rB 64 (fillL 64 (fwB ws) (8 * k + j))).toArray 48)) (fun j => 8 - j) 0 (by omega) (by kernel_rfl) (by kernel_rfl) (fun j hk9 => ?_)
  refine r0 [] [(13, .bool (decide ((j : Int) < 8)))] [] ?_
  refine cLt (j : Int) 8 (fun h11 dh11 => ?_) fun h11 dh11 => ?_
  ·refine r0 [] [(6, i6 (j : Int))] [] ?_
   refine rr (fun _ => [(0, .v (i6 (k : Int))), (1, ml 8 k), (2, .v (i6 (j : Int))), (3, ad (8 * k) j), (4, .v (u6 ((ws.getD k 0 : Nat) : Int))), (5, .v (i6 (j : Int))), (6, ml 8 j), (7, .t (tv (convert 3 112 (i6 ((8 * j : Nat) : Int))) (fun _ => cvt_i64u Try.underlying3 Try.underlying112 (by omega)))), (8, .t (tv (sBin .shr 87 (.tmp 19) (.tmp 22) (u6 ((ws.getD k 0 : Nat) : Int)) (u6 ((8 * j : Nat) : Int))) (fun _ => bin_shr_u64 (8 * j) (by omega)))), (9, .t (tc (k := .u64) (l := .u8) (a := u6 ((ws.getD k 0 / 2 ^ (8 * j) : Nat) : Int)) fun _ _ _ hS hT => cvt_u64u8 hS hT)), (10, iA 48 .i64 ((q2 0).blk 0) 0 64 1 ((8 * k) + j)), (11, wD 2 ((q2 0).blk 0) ((8 * k) + j) 48 (u1 ((UInt8.ofNat (ws.getD k 0 / 2 ^ (8 * j))).toNat : Int)) (rB 64 (fillL 64 (fwB ws) (8 * k + j))) (rB 64 ((fillL 64 (fwB ws) (8 * k + j)).set ((8 * k) + j) (UInt8.ofNat (ws.getD k 0 / 2 ^ (8 * j))))) (rL_lt (by omega)) (rB_set (fillL_len ..)))]) (fun _ => []) [] (fun _ L => L.set 2 (ob ((q2 0).blk 0) (rB 64 ((fillL 64 (fwB ws) (8 * k + j)).set ((8 * k) + j) (UInt8.ofNat (ws.getD k 0 / 2 ^ (8 * j))))).toArray 48)) fun q13 => ?_
   refine r0 [(0, ad j 1)] [(12, i6 ((j + 1 : Nat) : Int))] [12] ?_
   exact le (j + 1) (by omega) (by omega) (by kernel_rfl) [0, 1, 2] (by rw [← Nat.add_assoc, ← fillL_set (by omega), fwB_at (by omega)]; kernel_rfl)
  obtain rfl : j = 8 := by omega
  refine lx ?_
  refine r0 [(0, ad k 1)] [(8, i6 ((k + 1 : Nat) : Int))] [8] ?_
  exact le (k + 1) (by omega) (by omega) (by kernel_rfl) [0, 1, 2] (by kernel_rfl)
 obtain rfl : k = 8 := by omega
 refine lx ?_
 refine rr (fun _ => [(0, .l 2), (1, .s 1)]) (fun _ => []) [] (fun _ L => L.set 1 (ob ((q1 1).blk 0) (rB 64 (fillL 64 (fwB ws) (8 * 8))).toArray 48)) fun q16 => ?_
 exact lf Env.zero [] [] [1]
end Go.Proofs.Ytdglhppcfdpcaaa.E
namespace Go.Proofs.Ytdglhppcfdpcaaa.E
open Go Go.RowKit Go.Shelf
set_option linter.unusedVariables false
set_option linter.unusedSimpArgs false
attribute [local irreducible] hcD htD genL exB logL
set_option maxRecDepth 100000 in
theorem xcnew  : Con Try.prog 12 #[] [] [] (fun E => [ob (E.blk 0) #[pt ((E.blk 1)) 0, pt ((E.blk 2)) 0] 83, ob (E.blk 1) (rB 74 (hcD 10) ++ rI 256 (htD 10)).toArray 117, ob (E.blk 2) #[pt ((E.blk 3)) 0, (E.val 0)] 128, ob (E.blk 3) (rB 255 exB ++ rN 256 logL).toArray 131, slB (E.val 0) genL]) (fun E => pt ((E.blk 0)) 0) := by
 have hf := Try.func12
 have hE := enters_of hf (by kernel_rfl) rfl
 refine fE hf (fun w cs => ?_) hE
 refine r0 [] [(0, .pointer none)] [] ?_
 refine rr (fun q2 => [(0, .c [] [0] (xhnew)), (1, .c [] [1] (xgfnew)), (2, .c [1] [2, 3] (xrsnew ((q2 1).blk 0)))]) (fun q2 => [(0, pt ((q2 4).blk 0) 0)]) [0] (fun q2 L => L ++ [ob ((q2 0).blk 0) (rB 74 (hcD 10) ++ rI 256 (htD 10)).toArray 117, ob ((q2 1).blk 0) (rB 255 exB ++ rN 256 logL).toArray 131, ob ((q2 2).blk 0) #[pt (((q2 1).blk 0)) 0, ((q2 2).val 0)] 128, slB ((q2 2).val 0) genL, ob ((q2 4).blk 0) #[pt (((q2 0).blk 0)) 0, pt (((q2 2).blk 0)) 0] 83]) fun q2 => ?_
 exact lf (.l [(q2 4).blk 0, ((q2 0).blk 0), ((q2 2).blk 0), ((q2 1).blk 0)] [] [((q2 2).val 0)]) [4, 0, 2, 1, 3] [] []
end Go.Proofs.Ytdglhppcfdpcaaa.E
