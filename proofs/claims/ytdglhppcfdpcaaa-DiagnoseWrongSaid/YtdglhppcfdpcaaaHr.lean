/- The codec: decoding: walks. -/
import Derived.Test.YtdglhppcfdpcaaaHqA
namespace Go.Proofs.Ytdglhppcfdpcaaa.E
open Go Go.RowKit Go.Shelf
set_option linter.unusedVariables false
set_option linter.unusedSimpArgs false
/-- A list whose first places are told. -/
def fillG {α : Type} (d : α) (N : Nat) (f : Nat → α) (n : Nat) : List α := (List.range N).map fun i => if i < n then f i else d
theorem fillG_len {α : Type} (d : α) (N : Nat) (f : Nat → α) (n : Nat) : (fillG d N f n).length = N := by unfold fillG; rw [List.length_map, List.length_range]
theorem fillG_get {α : Type} {d : α} {N : Nat} {f : Nat → α} {n i : Nat} (h : i < N) : (fillG d N f n).getD i d = if i < n then f i else d := by
  unfold fillG
  rw [List.getD_eq_getElem?_getD, List.getElem?_map, List.getElem?_range h]
  rfl
theorem fillG_set {α : Type} {d : α} {N : Nat} {f : Nat → α} {n : Nat} (h : n < N) : (fillG d N f n).set n (f n) = fillG d N f (n + 1) := by
  apply List.ext_getElem?
  intro i
  rw [List.getElem?_set]
  rcases Nat.lt_or_ge i N with hi | hi
  · unfold fillG
    simp only [List.length_map, List.length_range, List.getElem?_map, List.getElem?_range hi, Option.map_some]
    by_cases e : n = i
    · subst e; rw [if_pos rfl, if_pos h, if_pos (by omega)]
    · rw [if_neg e]
      by_cases e2 : i < n
      · rw [if_pos e2, if_pos (by omega)]
      · rw [if_neg e2, if_neg (by omega)]
  · rw [List.getElem?_eq_none (l := fillG d N f (n + 1)) (by rw [fillG_len]; exact hi), List.getElem?_eq_none (l := fillG d N f n) (by rw [fillG_len]; exact hi), fillG_len]
    rw [if_neg (by omega)]
theorem fillG_zero {α : Type} (d : α) (N : Nat) (f : Nat → α) : fillG d N f 0 = List.replicate N d := by
  apply List.ext_getElem?
  intro i
  rcases Nat.lt_or_ge i N with hi | hi
  · unfold fillG
    simp [hi]
  · rw [List.getElem?_eq_none (by rw [fillG_len]; exact hi), List.getElem?_eq_none (by simpa using hi)]
/-- The words of raw bytes, as they are told. -/
def w9 (xs : List UInt8) (k : Nat) : List UInt8 := (xs.drop (9 * k)).take 9
def w36 (xs : List UInt8) (k : Nat) : List UInt8 := (xs.drop (36 * k)).take 36
def dW (xs : List UInt8) (x : Int) (k : Nat) : Nat := xhdec_0 (numO (w9 xs k) 0 8) ((w9 xs k).getD 8 0) ((pc ((x % 8388608).toNat) % 2 : Nat) : Int) (hcD 10) (htD 10)
def dK (xs : List UInt8) (x : Int) (k : Nat) : Int := xbits_0 (w9 xs k) x
def cW (xs : List UInt8) (x : Int) (k : Nat) : List UInt8 := decL (w36 xs k) (xvirt_0 x false)
def cK (xs : List UInt8) (x : Int) (k : Nat) : Int := xchips_0 (w36 xs k) x
theorem xhdec_lt {d : Nat} {k : UInt8} {a : Int} {cl : List UInt8} {ts : List Int} (h : d < 18446744073709551616) : xhdec_0 d k a cl ts < 18446744073709551616 := by
  unfold xhdec_0
  cases e : ((xhcla_0 ((xhchk_0 d a 0 cl) ^^^ k) ts) == 1) && (decide ((xhcla_1 ((xhchk_0 d a 0 cl) ^^^ k) ts) < 64)) with
  | false => exact h
  | true =>
    rw [Bool.and_eq_true] at e
    have h2 := of_decide_eq_true e.2
    rw [cond_true, Nat.one_mul]
    exact Nat.xor_lt_two_pow (n := 64) h (Nat.pow_lt_pow_right (by decide) (by omega))
theorem dW_lt (xs : List UInt8) (x : Int) (k : Nat) : dW xs x k < 18446744073709551616 := xhdec_lt (numO_lt64 _ _ (by decide))
theorem fillG_lt {N : Nat} {f : Nat → Nat} {n B : Nat} (hB : 0 < B) (h : ∀ i, f i < B) (i : Nat) : (fillG 0 N f n).getD i 0 < B := by
  rcases Nat.lt_or_ge i N with hi | hi
  · rw [fillG_get hi]; split
    · exact h i
    · exact hB
  · rw [List.getD_eq_getElem?_getD, List.getElem?_eq_none (by rw [fillG_len]; exact hi)]; exact hB
theorem w36_len {xs : List UInt8} {k : Nat} (hx : xs.length = 72) (hk : k < 2) : (w36 xs k).length = 36 := by unfold w36; rw [List.length_take, List.length_drop]; omega
theorem fm_len {f : Nat → List UInt8} {m : Nat} (h : ∀ i, (f i).length = m) (k : Nat) : ((List.range k).flatMap f).length = m * k := by
  induction k with
  | zero => rfl
  | succ k ih => rw [List.range_succ, List.flatMap_append, List.length_append, ih, List.flatMap_singleton, h, Nat.mul_succ]
theorem enc_succ {f : Nat → List UInt8} {m N : Nat} (h : ∀ i, (f i).length = m) {k : Nat} :
    ((List.range k).flatMap f ++ List.replicate (N - m * k) (0 : UInt8)).take (m * k) ++ f k ++ ((List.range k).flatMap f ++ List.replicate (N - m * k) (0 : UInt8)).drop (m * k + m) = (List.range (k + 1)).flatMap f ++ List.replicate (N - m * (k + 1)) 0 := by
  have h1 := fm_len h k
  rw [List.take_left' h1, ← List.drop_drop, List.drop_left' h1, List.drop_replicate, List.range_succ, List.flatMap_append, List.flatMap_singleton, show N - m * k - m = N - m * (k + 1) by rw [Nat.mul_succ]; omega]
/-- Halves, as they come. -/
def hvT (f : Nat → List UInt8) (k : Nat) : List UInt8 := (List.range k).flatMap f ++ List.replicate (64 - 32 * k) 0
theorem hvT_len {f : Nat → List UInt8} (h : ∀ i, (f i).length = 32) {k : Nat} (hk : k ≤ 2) : (hvT f k).length = 64 := by
  unfold hvT
  rw [List.length_append, fm_len h, List.length_replicate]
  omega
theorem hvT_succ {f : Nat → List UInt8} (h : ∀ i, (f i).length = 32) {k : Nat} : (hvT f k).take (0 + k * 32) ++ f k ++ (hvT f k).drop (0 + k * 32 + 32) = hvT f (k + 1) := by
  have := enc_succ (N := 64) h (k := k)
  rw [Nat.zero_add, Nat.mul_comm k 32]
  exact this
theorem hvT_zero (f : Nat → List UInt8) : hvT f 0 = List.replicate 64 0 := rfl
theorem cW_len {xs : List UInt8} {x : Int} {k : Nat} (h : (w36 xs k).length = 36) : (cW xs x k).length = 32 := decL_len h
def cWx (xs : List UInt8) (x : Int) (k : Nat) : List UInt8 := if k < 2 then cW xs x k else List.replicate 32 0
theorem cWx_lt {xs : List UInt8} {x : Int} {k : Nat} (h : k < 2) : cWx xs x k = cW xs x k := if_pos h
theorem cWx_len {xs : List UInt8} (hx : xs.length = 72) (x : Int) (k : Nat) : (cWx xs x k).length = 32 := by
  unfold cWx
  split
  · rename_i h; exact cW_len (w36_len hx h)
  · rfl
attribute [local irreducible] xhcla_0 xhcla_1 xhchk_0 xhdec_0 numO decL synL hcD htD genL exB logL xvirt_0 rsLk rsLp rsLv xbits_0 xchips_0 fillG hvT fillL jK jF xflag_0
set_option maxRecDepth 100000 in
theorem xdec1 (cc hb cb : Nat) (xs : List UInt8) (hx : xs.length = 72) (x : Int) : Con Try.prog 41 #[pt cc 0, i6 1, .agg (rB 72 xs).toArray, i6 x] [ob cc #[pt hb 0, pt cb 0] 83, ob hb (rB 74 (hcD 10) ++ rI 256 (htD 10)).toArray 117] [] (fun E => [slI (E.val 0) ((List.range 8).map (dK xs x))]) (fun E => .tuple #[.agg (rB 64 (fillL 64 (fwB (fillG 0 8 (dW xs x) 8)) (8 * 8))).toArray, (E.val 0)]) := by
 have hf := Try.func41
 have hE := enters_of hf (by kernel_rfl) rfl
 refine fE hf (fun w cs => ?_) hE
 refine rr (fun _ => []) (fun q1 => [(6, pt ((q1 0).blk 0) 0), (8, pt ((q1 1).blk 0) 0), (9, .slice none 0 0)]) [] (fun q1 L => L ++ [ob ((q1 0).blk 0) (rB 72 xs).toArray 50, ob ((q1 1).blk 0) (rB 64 (List.replicate 64 0)).toArray 48]) fun q1 => ?_
 refine r0 [] [(10, .slice none 0 0)] [] ?_
 refine r0 [] [(20, .bool true)] [] ?_
 refine cT _ rfl ?_
 refine rr (fun _ => []) (fun q4 => [(11, pt ((q4 0).blk 0) 0)]) [] (fun q4 L => L ++ [ob ((q4 0).blk 0) (rW 8 (List.replicate 8 0)).toArray 143]) fun q4 => ?_
 refine r0 [] [(21, i6 0)] [] ?_
 refine cz kI ?_
 refine lq1 (fun k _ => k ≤ 8) (fun k vS10 => [(21, i6 (k : Int)), (10, vS10)]) (fun k vS10 L => (L.set 4 (ob ((q4 0).blk 0) (rW 8 (fillG 0 8 (dW xs x) k)).toArray 143)).set 5 (slI vS10 ((List.range k).map (dK xs x)))) (fun k _ => 8 - k) 0 (.slice none 0 0) (by omega) (by kernel_rfl) (by rw [fillG_zero]; kernel_rfl) (fun k vS10 hk6 => ?_)
 have hkl : ((List.range k).map (dK xs x)).length = k := by rw [List.length_map, List.length_range]
 refine r0 [] [(22, .bool (decide ((k : Int) < 8)))] [] ?_
 refine cLt (k : Int) 8 (fun h8 dh8 => ?_) fun h8 dh8 => ?_
 ·refine r0 [] [(12, i6 (k : Int))] [] ?_
  refine rr (fun q10 => [(0, .v (pt cc 0)), (1, .m (ls 2 (rB 72 xs))), (2, .v (i6 1)), (3, .v (i6 (k : Int))), (4, .c [] [6] (xraww1 xs (by first | rfl | (simp only [List.length_set, List.length_append, List.length_replicate, List.length_cons, List.length_nil, List.length_map, List.length_range, List.length_take, List.length_drop, fillG_len, fillL_len, hx]; done) | (simp only [List.length_set, List.length_append, List.length_replicate, List.length_cons, List.length_nil, List.length_map, List.length_range, List.length_take, List.length_drop, fillG_len, fillL_len, hx]; omega)) k (by omega))), (5, .v (i6 x)), (6, .c [0, 1, 6] [] (Con.at (rd' := [ob cc #[pt hb 0, pt cb 0] 83, ob hb (rB 74 (hcD 10) ++ rI 256 (htD 10)).toArray 117, slB ((q10 4).val 0) ((xs.drop (9 * k)).take 9)]) (xbits cc hb cb ((q10 4).val 0) ((xs.drop (9 * k)).take 9) (by first | rfl | (simp only [List.length_set, List.length_append, List.length_replicate, List.length_cons, List.length_nil, List.length_map, List.length_range, List.length_take, List.length_drop, fillG_len, fillL_len, hx]; done) | (simp only [List.length_set, List.length_append, List.length_replicate, List.length_cons, List.length_nil, List.length_map, List.length_range, List.length_take, List.length_drop, fillG_len, fillL_len, hx]; omega)) x) (atS (atS (atW (fun _ h => SlE.sq h) (fun _ h => h)))))), (7, .v (.tuple #[u6 (((xhdec_0 (numO ((xs.drop (9 * k)).take 9) 0 8) (((xs.drop (9 * k)).take 9).getD 8 0) ((pc ((x % 8388608).toNat) % 2 : Nat) : Int) (hcD 10) (htD 10)) : Nat) : Int), i6 (xbits_0 ((xs.drop (9 * k)).take 9) x)])), (8, .v (u6 (((xhdec_0 (numO ((xs.drop (9 * k)).take 9) 0 8) (((xs.drop (9 * k)).take 9).getD 8 0) ((pc ((x % 8388608).toNat) % 2 : Nat) : Int) (hcD 10) (htD 10)) : Nat) : Int))), (9, .v (i6 (xbits_0 ((xs.drop (9 * k)).take 9) x))), (10, .v (u6 (((xhdec_0 (numO ((xs.drop (9 * k)).take 9) 0 8) (((xs.drop (9 * k)).take 9).getD 8 0) ((pc ((x % 8388608).toNat) % 2 : Nat) : Int) (hcD 10) (htD 10)) : Nat) : Int))), (11, .v (i6 (xbits_0 ((xs.drop (9 * k)).take 9) x)))]) (fun _ => [(13, u6 (((xhdec_0 (numO ((xs.drop (9 * k)).take 9) 0 8) (((xs.drop (9 * k)).take 9).getD 8 0) ((pc ((x % 8388608).toNat) % 2 : Nat) : Int) (hcD 10) (htD 10)) : Nat) : Int)), (14, i6 (xbits_0 ((xs.drop (9 * k)).take 9) x))]) [] (fun q10 L => L ++ [slB ((q10 4).val 0) ((xs.drop (9 * k)).take 9)]) fun q10 => ?_
  refine rr (fun _ => [(2, iA 143 .i64 ((q4 0).blk 0) 0 8 1 k), (3, wD 4 ((q4 0).blk 0) k 143 (u6 (((xhdec_0 (numO ((xs.drop (9 * k)).take 9) 0 8) (((xs.drop (9 * k)).take 9).getD 8 0) ((pc ((x % 8388608).toNat) % 2 : Nat) : Int) (hcD 10) (htD 10)) : Nat) : Int)) (rW 8 (fillG 0 8 (dW xs x) k)) (rW 8 ((fillG 0 8 (dW xs x) k).set k (xhdec_0 (numO ((xs.drop (9 * k)).take 9) 0 8) (((xs.drop (9 * k)).take 9).getD 8 0) ((pc ((x % 8388608).toNat) % 2 : Nat) : Int) (hcD 10) (htD 10)))) (rL_lt (by omega)) (rW_set (fillG_len ..)))]) (fun _ => []) [] (fun _ L => L.set 4 (ob ((q4 0).blk 0) (rW 8 ((fillG 0 8 (dW xs x) k).set k (xhdec_0 (numO ((xs.drop (9 * k)).take 9) 0 8) (((xs.drop (9 * k)).take 9).getD 8 0) ((pc ((x % 8388608).toNat) % 2 : Nat) : Int) (hcD 10) (htD 10)))).toArray 143)) fun q11 => ?_
  refine rr (fun _ => [(2, .m (bs 7 1)), (3, apS1 kI (vS10) ((List.range k).map (dK xs x)) 5 7 ([(xbits_0 ((xs.drop (9 * k)).take 9) x)]))]) (fun q12 => [(10, (q12 3).val 0)]) [10] (fun q12 L => L.set 5 (slI ((q12 3).val 0) (((List.range k).map (dK xs x)) ++ ([(xbits_0 ((xs.drop (9 * k)).take 9) x)]))) ++ [ob ((q12 2).blk 0) #[i6 (xbits_0 ((xs.drop (9 * k)).take 9) x)] 3]) fun q12 => ?_
  refine r0 [(0, ad k 1)] [(21, i6 ((k + 1 : Nat) : Int))] [21] ?_
  exact le1 (k + 1) ((q12 3).val 0) (by omega) (by omega) (by kernel_rfl) [0, 1, 2, 3, 4, 5] (by rw [← fillG_set (by omega), List.range_succ, List.map_append]; kernel_rfl)
 obtain rfl : k = 8 := by omega
 refine lx1 ?_
 refine rr (fun _ => [(0, .l 4), (1, .c [] [] (xfrom (fillG 0 8 (dW xs x) 8) (by first | rfl | (simp only [List.length_set, List.length_append, List.length_replicate, List.length_cons, List.length_nil, List.length_map, List.length_range, List.length_take, List.length_drop, fillG_len, fillL_len, hx]; done) | (simp only [List.length_set, List.length_append, List.length_replicate, List.length_cons, List.length_nil, List.length_map, List.length_range, List.length_take, List.length_drop, fillG_len, fillL_len, hx]; omega)) (fillG_lt (by decide) (dW_lt xs x)))), (3, .s 3)]) (fun _ => [(9, vS10)]) [9] (fun _ L => L.set 3 (ob ((q1 1).blk 0) (rB 64 (fillL 64 (fwB (fillG 0 8 (dW xs x) 8)) (8 * 8))).toArray 48)) fun q14 => ?_
 exact lf (.l [] [] [vS10]) [5] [(0, 0), (1, 1)] [3]
set_option maxRecDepth 100000 in
theorem xdec2 (cc hb cb g : Nat) (u : Value) (xs : List UInt8) (hx : xs.length = 72) (x : Int) (h0 : -9223372036854775808 ≤ x) (h1 : x ≤ 9223372036854775807) : Con Try.prog 41 #[pt cc 0, i6 2, .agg (rB 72 xs).toArray, i6 x] [ob cc #[pt hb 0, pt cb 0] 83, ob cb #[pt g 0, u] 128, ob g (rB 255 exB ++ rN 256 logL).toArray 131, .p (SqE eB u genL)] [] (fun E => [slI (E.val 0) ((List.range 2).map (cK xs x))]) (fun E => .tuple #[.agg (rB 64 (hvT (cWx xs x) 2)).toArray, (E.val 0)]) := by
 have hf := Try.func41
 have hE := enters_of hf (by kernel_rfl) rfl
 refine Con.ro 3 rfl (fun bq3 hq3 => ?_) hE
 refine fE hf (fun w cs => ?_) hE
 refine rr (fun _ => []) (fun q1 => [(6, pt ((q1 0).blk 0) 0), (8, pt ((q1 1).blk 0) 0), (9, .slice none 0 0)]) [] (fun q1 L => L ++ [ob ((q1 0).blk 0) (rB 72 xs).toArray 50, ob ((q1 1).blk 0) (rB 64 (List.replicate 64 0)).toArray 48]) fun q1 => ?_
 refine r0 [] [(10, .slice none 0 0)] [] ?_
 refine r0 [] [(20, .bool false)] [] ?_
 refine cF _ rfl ?_
 refine rr (fun _ => []) (fun q4 => [(15, pt ((q4 0).blk 0) 0)]) [] (fun q4 L => L ++ [ob ((q4 0).blk 0) (rB 64 (List.replicate 64 0)).toArray 148]) fun q4 => ?_
 refine r0 [] [(45, i6 0)] [] ?_
 refine cz kI ?_
 refine lq1 (fun k _ => k ≤ 2) (fun k vS10 => [(45, i6 (k : Int)), (10, vS10)]) (fun k vS10 L => (L.set 6 (ob ((q4 0).blk 0) (rB 64 (hvT (cWx xs x) k)).toArray 148)).set 7 (slI vS10 ((List.range k).map (cK xs x)))) (fun k _ => 2 - k) 0 (.slice none 0 0) (by omega) (by kernel_rfl) (by rw [hvT_zero]; kernel_rfl) (fun k vS10 hk6 => ?_)
 have hkl : ((List.range k).map (cK xs x)).length = k := by rw [List.length_map, List.length_range]
 have HHL := hvT_len (cWx_len hx x) hk6
 refine r0 [] [(46, .bool (decide ((k : Int) < 2)))] [] ?_
 refine cLt (k : Int) 2 (fun h8 dh8 => ?_) fun h8 dh8 => ?_
 ·refine r0 [] [(16, i6 (k : Int))] [] ?_
  have HDL : (decL ((xs.drop (36 * k)).take 36) (xvirt_0 x false)).length = 32 := decL_len (w36_len hx (by omega))
  refine rr (fun q10 => [(0, .v (pt cc 0)), (1, .m (ls 4 (rB 72 xs))), (2, .v (i6 2)), (3, .v (i6 (k : Int))), (4, .c [] [8] (xraww2 xs (by first | rfl | (simp only [List.length_set, List.length_append, List.length_replicate, List.length_cons, List.length_nil, List.length_map, List.length_range, List.length_take, List.length_drop, HDL, HHL, hx]; done) | (simp only [List.length_set, List.length_append, List.length_replicate, List.length_cons, List.length_nil, List.length_map, List.length_range, List.length_take, List.length_drop, HDL, HHL, hx]; omega)) k (by omega))), (5, .v (i6 x)), (6, .c [0, 1, 2, 3, 8] [] (Con.at (rd' := [ob cc #[pt hb 0, pt cb 0] 83, ob cb #[pt g 0, u] 128, ob g (rB 255 exB ++ rN 256 logL).toArray 131, .c bq3, slB ((q10 4).val 0) ((xs.drop (36 * k)).take 36)]) (xchips cc hb cb g u ((q10 4).val 0) ((xs.drop (36 * k)).take 36) (by first | rfl | (simp only [List.length_set, List.length_append, List.length_replicate, List.length_cons, List.length_nil, List.length_map, List.length_range, List.length_take, List.length_drop, HDL, HHL, hx]; done) | (simp only [List.length_set, List.length_append, List.length_replicate, List.length_cons, List.length_nil, List.length_map, List.length_range, List.length_take, List.length_drop, HDL, HHL, hx]; omega)) x (by omega) (by omega)) (atS (atS (atS (atC hq3 (atW (fun _ h => SlE.sq h) (fun _ h => h)))))))), (7, .v (.tuple #[.agg (rB 32 (decL ((xs.drop (36 * k)).take 36) (xvirt_0 x false))).toArray, i6 (xchips_0 ((xs.drop (36 * k)).take 36) x)])), (8, .v (.agg (rB 32 (decL ((xs.drop (36 * k)).take 36) (xvirt_0 x false))).toArray)), (9, .v (i6 (xchips_0 ((xs.drop (36 * k)).take 36) x))), (10, .m (al 9)), (11, .s 9), (12, .v (i6 (xchips_0 ((xs.drop (36 * k)).take 36) x)))]) (fun q10 => [(17, pt ((q10 10).blk 0) 0), (18, i6 (xchips_0 ((xs.drop (36 * k)).take 36) x))]) [] (fun q10 L => L ++ [slB ((q10 4).val 0) ((xs.drop (36 * k)).take 36), ob ((q10 10).blk 0) (rB 32 (decL ((xs.drop (36 * k)).take 36) (xvirt_0 x false))).toArray 98]) fun q10 => ?_
  refine rr (fun _ => [(1, .l 9), (2, iA 148 .i64 ((q4 0).blk 0) 0 2 32 k), (3, .m (sg 6 ((q4 0).blk 0) (0 + k * 32) 148 (rB 32 (decL ((xs.drop (36 * k)).take 36) (xvirt_0 x false))) (rB 64 (hvT (cWx xs x) k)).toArray (rB 64 ((hvT (cWx xs x) k).take (0 + k * 32) ++ (decL ((xs.drop (36 * k)).take 36) (xvirt_0 x false)) ++ (hvT (cWx xs x) k).drop (0 + k * 32 + 32))).toArray (rL_spliceR (fun _ => rfl) (show (hvT (cWx xs x) k).length = 64 by first | rfl | (simp only [List.length_set, List.length_append, List.length_replicate, List.length_cons, List.length_nil, List.length_map, List.length_range, List.length_take, List.length_drop, HDL, HHL, hx]; done) | (simp only [List.length_set, List.length_append, List.length_replicate, List.length_cons, List.length_nil, List.length_map, List.length_range, List.length_take, List.length_drop, HDL, HHL, hx]; omega)) (show (decL ((xs.drop (36 * k)).take 36) (xvirt_0 x false)).length = 32 by first | rfl | (simp only [List.length_set, List.length_append, List.length_replicate, List.length_cons, List.length_nil, List.length_map, List.length_range, List.length_take, List.length_drop, HDL, HHL, hx]; done) | (simp only [List.length_set, List.length_append, List.length_replicate, List.length_cons, List.length_nil, List.length_map, List.length_range, List.length_take, List.length_drop, HDL, HHL, hx]; omega)) (by omega)) (rL_le (fun _ => rfl) (by omega)) (rL_one (fun _ => rfl) (show (decL ((xs.drop (36 * k)).take 36) (xvirt_0 x false)).length = 32 by first | rfl | (simp only [List.length_set, List.length_append, List.length_replicate, List.length_cons, List.length_nil, List.length_map, List.length_range, List.length_take, List.length_drop, HDL, HHL, hx]; done) | (simp only [List.length_set, List.length_append, List.length_replicate, List.length_cons, List.length_nil, List.length_map, List.length_range, List.length_take, List.length_drop, HDL, HHL, hx]; omega)))))]) (fun _ => []) [] (fun _ L => L.set 6 (ob ((q4 0).blk 0) (rB 64 ((hvT (cWx xs x) k).take (0 + k * 32) ++ (decL ((xs.drop (36 * k)).take 36) (xvirt_0 x false)) ++ (hvT (cWx xs x) k).drop (0 + k * 32 + 32))).toArray 148)) fun q11 => ?_
  refine rr (fun _ => [(2, .m (bs 10 1)), (3, apS1 kI (vS10) ((List.range k).map (cK xs x)) 7 10 ([(xchips_0 ((xs.drop (36 * k)).take 36) x)]))]) (fun q12 => [(10, (q12 3).val 0)]) [10] (fun q12 L => L.set 7 (slI ((q12 3).val 0) (((List.range k).map (cK xs x)) ++ ([(xchips_0 ((xs.drop (36 * k)).take 36) x)]))) ++ [ob ((q12 2).blk 0) #[i6 (xchips_0 ((xs.drop (36 * k)).take 36) x)] 3]) fun q12 => ?_
  refine r0 [(0, ad k 1)] [(45, i6 ((k + 1 : Nat) : Int))] [45] ?_
  exact le1 (k + 1) ((q12 3).val 0) (by omega) (by omega) (by kernel_rfl) [0, 1, 2, 3, 4, 5, 6, 7] (by rw [← hvT_succ (cWx_len hx x), cWx_lt (by omega), List.range_succ, List.map_append]; kernel_rfl)
 obtain rfl : k = 2 := by omega
 refine lx1 ?_
 have HDL := trivial
 refine rr (fun _ => [(0, .l 6), (1, .c [] [] (xfromh (hvT (cWx xs x) 2) (by first | rfl | (simp only [List.length_set, List.length_append, List.length_replicate, List.length_cons, List.length_nil, List.length_map, List.length_range, List.length_take, List.length_drop, HDL, HHL, hx]; done) | (simp only [List.length_set, List.length_append, List.length_replicate, List.length_cons, List.length_nil, List.length_map, List.length_range, List.length_take, List.length_drop, HDL, HHL, hx]; omega)))), (3, .s 5)]) (fun _ => [(9, vS10)]) [9] (fun _ L => L.set 5 (ob ((q1 1).blk 0) (rB 64 (hvT (cWx xs x) 2)).toArray 48)) fun q14 => ?_
 exact lf (.l [] [] [vS10]) [7] [(0, 0), (1, 1), (2, 2), (3, 3)] [5]
def xDec1_0 (xs : List UInt8) (x : Int) : List UInt8 := (bif decide (2 ≤ (jK ((List.range 8).map (dK xs x)))) then List.replicate 64 0 else fillL 64 (fwB (fillG 0 8 (dW xs x) 8)) (8 * 8))
set_option maxRecDepth 100000 in
theorem xDec1 (cc hb cb : Nat) (xs : List UInt8) (hx : xs.length = 72) (x : Int) : Con Try.prog 14 #[pt cc 0, i6 1, .agg (rB 72 xs).toArray, i6 x] [ob cc #[pt hb 0, pt cb 0] 83, ob hb (rB 74 (hcD 10) ++ rI 256 (htD 10)).toArray 117] [] (fun _ => []) (fun _ => .tuple #[.agg (rB 64 (xDec1_0 xs x)).toArray, .agg #[i6 (jK ((List.range 8).map (dK xs x))), i6 (xjoin_0 ((List.range 8).map (dK xs x)))]]) := by
 have hf := Try.func14
 have hE := enters_of hf (by kernel_rfl) rfl
 refine fE hf (fun w cs => ?_) hE
 refine rr (fun _ => []) (fun q1 => [(6, pt ((q1 0).blk 0) 0), (8, pt ((q1 1).blk 0) 0), (9, pt ((q1 2).blk 0) 0)]) [] (fun q1 L => L ++ [ob ((q1 0).blk 0) (rB 72 xs).toArray 50, ob ((q1 1).blk 0) (rB 64 (List.replicate 64 0)).toArray 48, ob ((q1 2).blk 0) #[i6 0, i6 0] 55]) fun q1 => ?_
 refine r0 [(1, .c [] [] (xright 1))] [(15, .bool (!((1 == 1) || (1 == 2))))] [] ?_
 have h3 : (!((1 == 1) || (1 == 2))) = false := by decide
 refine cF (!((1 == 1) || (1 == 2))) h3 ?_
 refine rr (fun _ => [(2, .l 2), (4, .c [0, 1] [5] (xdec1 cc hb cb xs (by first | rfl | (simp only [List.length_set, List.length_append, List.length_replicate, List.length_cons, List.length_nil, List.length_map, List.length_range, List.length_take, List.length_drop, fillL_len, hx]; done) | (simp only [List.length_set, List.length_append, List.length_replicate, List.length_cons, List.length_nil, List.length_map, List.length_range, List.length_take, List.length_drop, fillL_len, hx]; omega)) x)), (9, .s 6)]) (fun q4 => [(10, pt ((q4 8).blk 0) 0), (11, ((q4 4).val 0))]) [] (fun q4 L => L ++ [slI ((q4 4).val 0) ((List.range 8).map (dK xs x)), ob ((q4 8).blk 0) (rB 64 (fillL 64 (fwB (fillG 0 8 (dW xs x) 8)) (8 * 8))).toArray 48]) fun q4 => ?_
 refine rr (fun _ => [(1, .c [5] [] (Con.at (rd' := [slI ((q4 4).val 0) ((List.range 8).map (dK xs x))]) (xjoin ((q4 4).val 0) ((List.range 8).map (dK xs x)) (by rw [List.length_map, List.length_range]; omega)) (atW (fun _ h => SlE.sq h) (fun _ h => h)))), (3, .s 7)]) (fun q5 => [(12, pt ((q5 2).blk 0) 0)]) [] (fun q5 L => L ++ [ob ((q5 2).blk 0) #[i6 (jK ((List.range 8).map (dK xs x))), i6 (xjoin_0 ((List.range 8).map (dK xs x)))] 55]) fun q5 => ?_
 refine r0 [(1, .l 7)] [(30, .bool (decide (2 ≤ (jK ((List.range 8).map (dK xs x))))))] [] ?_
 refine cLe 2 (jK ((List.range 8).map (dK xs x))) (fun h7 dh7 => ?_) fun h7 dh7 => ?_
 ·refine rr (fun _ => [(1, .l 7), (2, .s 3), (3, .s 4)]) (fun _ => []) [] (fun _ L => L.set 4 (ob ((q1 2).blk 0) #[i6 (jK ((List.range 8).map (dK xs x))), i6 (xjoin_0 ((List.range 8).map (dK xs x)))] 55)) fun q8 => ?_
  exact lfV (.tuple #[.agg (rB 64 (List.replicate 64 0)).toArray, .agg #[i6 (jK ((List.range 8).map (dK xs x))), i6 (xjoin_0 ((List.range 8).map (dK xs x)))]]) Env.zero (by ((try simp only [xDec1_0]); (repeat (first | rw [h3] | rw [h7] | rw [cond_true] | rw [cond_false]))) <;> rfl) [] [(0, 0), (1, 1)] [3, 4]
 refine rr (fun _ => [(0, .l 6), (1, .l 7), (2, .s 3), (3, .s 4)]) (fun _ => []) [] (fun _ L => (L.set 3 (ob ((q1 1).blk 0) (rB 64 (fillL 64 (fwB (fillG 0 8 (dW xs x) 8)) (8 * 8))).toArray 48)).set 4 (ob ((q1 2).blk 0) #[i6 (jK ((List.range 8).map (dK xs x))), i6 (xjoin_0 ((List.range 8).map (dK xs x)))] 55)) fun q9 => ?_
 exact lfV (.tuple #[.agg (rB 64 (fillL 64 (fwB (fillG 0 8 (dW xs x) 8)) (8 * 8))).toArray, .agg #[i6 (jK ((List.range 8).map (dK xs x))), i6 (xjoin_0 ((List.range 8).map (dK xs x)))]]) Env.zero (by ((try simp only [xDec1_0]); (repeat (first | rw [h3] | rw [h7] | rw [cond_true] | rw [cond_false]))) <;> rfl) [] [(0, 0), (1, 1)] [3, 4]
def xDec2_0 (xs : List UInt8) (x : Int) : List UInt8 := (bif decide (2 ≤ (jK ((List.range 2).map (cK xs x)))) then List.replicate 64 0 else hvT (cWx xs x) 2)
set_option maxRecDepth 100000 in
theorem xDec2 (cc hb cb g : Nat) (u : Value) (xs : List UInt8) (hx : xs.length = 72) (x : Int) (h0 : -9223372036854775808 ≤ x) (h1 : x ≤ 9223372036854775807) : Con Try.prog 14 #[pt cc 0, i6 2, .agg (rB 72 xs).toArray, i6 x] [ob cc #[pt hb 0, pt cb 0] 83, ob cb #[pt g 0, u] 128, ob g (rB 255 exB ++ rN 256 logL).toArray 131, .p (SqE eB u genL)] [] (fun _ => []) (fun _ => .tuple #[.agg (rB 64 (xDec2_0 xs x)).toArray, .agg #[i6 (jK ((List.range 2).map (cK xs x))), i6 (xjoin_0 ((List.range 2).map (cK xs x)))]]) := by
 have HHT := hvT_len (cWx_len hx x) (Nat.le_refl 2)
 have hf := Try.func14
 have hE := enters_of hf (by kernel_rfl) rfl
 refine Con.ro 3 rfl (fun bq3 hq3 => ?_) hE
 refine fE hf (fun w cs => ?_) hE
 refine rr (fun _ => []) (fun q1 => [(6, pt ((q1 0).blk 0) 0), (8, pt ((q1 1).blk 0) 0), (9, pt ((q1 2).blk 0) 0)]) [] (fun q1 L => L ++ [ob ((q1 0).blk 0) (rB 72 xs).toArray 50, ob ((q1 1).blk 0) (rB 64 (List.replicate 64 0)).toArray 48, ob ((q1 2).blk 0) #[i6 0, i6 0] 55]) fun q1 => ?_
 refine r0 [(1, .c [] [] (xright 2))] [(15, .bool (!((2 == 1) || (2 == 2))))] [] ?_
 have h3 : (!((2 == 1) || (2 == 2))) = false := by decide
 refine cF (!((2 == 1) || (2 == 2))) h3 ?_
 refine rr (fun _ => [(2, .l 4), (4, .c [0, 1, 2, 3] [7] (Con.at (rd' := [ob cc #[pt hb 0, pt cb 0] 83, ob cb #[pt g 0, u] 128, ob g (rB 255 exB ++ rN 256 logL).toArray 131, .c bq3]) (xdec2 cc hb cb g u xs (by first | rfl | (simp only [List.length_set, List.length_append, List.length_replicate, List.length_cons, List.length_nil, List.length_map, List.length_range, List.length_take, List.length_drop, HHT, hx]; done) | (simp only [List.length_set, List.length_append, List.length_replicate, List.length_cons, List.length_nil, List.length_map, List.length_range, List.length_take, List.length_drop, HHT, hx]; omega)) x (by omega) (by omega)) (atS (atS (atS (atC hq3 (fun _ h => h))))))), (9, .s 8)]) (fun q4 => [(10, pt ((q4 8).blk 0) 0), (11, ((q4 4).val 0))]) [] (fun q4 L => L ++ [slI ((q4 4).val 0) ((List.range 2).map (cK xs x)), ob ((q4 8).blk 0) (rB 64 (hvT (cWx xs x) 2)).toArray 48]) fun q4 => ?_
 refine rr (fun _ => [(1, .c [7] [] (Con.at (rd' := [slI ((q4 4).val 0) ((List.range 2).map (cK xs x))]) (xjoin ((q4 4).val 0) ((List.range 2).map (cK xs x)) (by rw [List.length_map, List.length_range]; omega)) (atW (fun _ h => SlE.sq h) (fun _ h => h)))), (3, .s 9)]) (fun q5 => [(12, pt ((q5 2).blk 0) 0)]) [] (fun q5 L => L ++ [ob ((q5 2).blk 0) #[i6 (jK ((List.range 2).map (cK xs x))), i6 (xjoin_0 ((List.range 2).map (cK xs x)))] 55]) fun q5 => ?_
 refine r0 [(1, .l 9)] [(30, .bool (decide (2 ≤ (jK ((List.range 2).map (cK xs x))))))] [] ?_
 refine cLe 2 (jK ((List.range 2).map (cK xs x))) (fun h7 dh7 => ?_) fun h7 dh7 => ?_
 ·refine rr (fun _ => [(1, .l 9), (2, .s 5), (3, .s 6)]) (fun _ => []) [] (fun _ L => L.set 6 (ob ((q1 2).blk 0) #[i6 (jK ((List.range 2).map (cK xs x))), i6 (xjoin_0 ((List.range 2).map (cK xs x)))] 55)) fun q8 => ?_
  exact lfV (.tuple #[.agg (rB 64 (List.replicate 64 0)).toArray, .agg #[i6 (jK ((List.range 2).map (cK xs x))), i6 (xjoin_0 ((List.range 2).map (cK xs x)))]]) Env.zero (by ((try simp only [xDec2_0]); (repeat (first | rw [h3] | rw [h7] | rw [cond_true] | rw [cond_false]))) <;> rfl) [] [(0, 0), (1, 1), (2, 2), (3, 3)] [5, 6]
 refine rr (fun _ => [(0, .l 8), (1, .l 9), (2, .s 5), (3, .s 6)]) (fun _ => []) [] (fun _ L => (L.set 5 (ob ((q1 1).blk 0) (rB 64 (hvT (cWx xs x) 2)).toArray 48)).set 6 (ob ((q1 2).blk 0) #[i6 (jK ((List.range 2).map (cK xs x))), i6 (xjoin_0 ((List.range 2).map (cK xs x)))] 55)) fun q9 => ?_
 exact lfV (.tuple #[.agg (rB 64 (hvT (cWx xs x) 2)).toArray, .agg #[i6 (jK ((List.range 2).map (cK xs x))), i6 (xjoin_0 ((List.range 2).map (cK xs x)))]]) Env.zero (by ((try simp only [xDec2_0]); (repeat (first | rw [h3] | rw [h7] | rw [cond_true] | rw [cond_false]))) <;> rfl) [] [(0, 0), (1, 1), (2, 2), (3, 3)] [5, 6]
end Go.Proofs.Ytdglhppcfdpcaaa.E
