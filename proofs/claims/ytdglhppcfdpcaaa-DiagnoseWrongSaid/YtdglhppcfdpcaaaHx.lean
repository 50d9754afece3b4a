/- The document's exposure: walks. -/
import Derived.Test.YtdglhppcfdpcaaaCpX
import Derived.Test.YtdglhppcfdpcaaaHu
namespace Go.Proofs.Ytdglhppcfdpcaaa.E
open Go Go.RowKit Go.Shelf
set_option linter.unusedVariables false
set_option linter.unusedSimpArgs false
theorem pcTo_low5 (j n : Nat) : pcTo j (n % 2 ^ j) = pcTo j n := by
  induction j generalizing n with
  | zero => rfl
  | succ j ih =>
    rw [pcTo, pcTo, ← ih (n / 2)]
    have e1 : n % 2 ^ (j + 1) % 2 = n % 2 := Nat.mod_mod_of_dvd n (by rw [Nat.pow_succ]; exact Nat.dvd_mul_left 2 _)
    have e2 : n % 2 ^ (j + 1) / 2 = n / 2 % 2 ^ j := by rw [Nat.pow_succ, Nat.mul_comm, Nat.mod_mul_right_div_self]
    rw [e1, e2]
/-- The ones among the lowest bits. -/
def wt (x : Nat) : Nat → Nat
  | 0 => 0
  | k + 1 => wt x k + x / 2 ^ k % 2
theorem wt_pc (x : Nat) : ∀ k, wt x k = pcTo k x
  | 0 => rfl
  | k + 1 => by
    have h : pcTo 1 (x / 2 ^ k) = x / 2 ^ k % 2 := by rw [pcTo]; exact Nat.add_zero _
    rw [wt, wt_pc x k, pcTo_split k 1 x, pcTo_low5, h]
theorem wt_all {x k : Nat} (hk : k ≤ 64) (h : x / 2 ^ k = 0) : wt x k = pc x := by
  rw [wt_pc, show pc x = pcTo 64 x from rfl, show 64 = k + (64 - k) by omega, pcTo_split, pcTo_low5, h]
  have : ∀ m, pcTo m 0 = 0 := fun m => by
    induction m with
    | zero => rfl
    | succ m ih => rw [pcTo, Nat.zero_mod, Nat.zero_div, ih]
  rw [this, Nat.add_zero]
theorem wt_le (x : Nat) : ∀ k, wt x k ≤ k
  | 0 => Nat.le_refl _
  | k + 1 => by rw [wt]; have := wt_le x k; omega
theorem hv_lt {x k : Nat} (hx : x < 18446744073709551616) (hk : k ≤ 64) (h : ¬ x / 2 ^ k = 0) : k < 64 := by
  rcases Nat.lt_or_ge k 64 with h1 | h1
  · exact h1
  · obtain rfl : k = 64 := by omega
    exact absurd (Nat.div_eq_of_lt hx) h
theorem hv_ltI {x k : Nat} (hx : x < 18446744073709551616) (hk : k ≤ 64) (h : (0 : Int) < ((x / 2 ^ k : Nat) : Int)) : k < 64 := hv_lt hx hk (Nat.ne_of_gt (Int.ofNat_lt.1 h))
theorem wt_allI {x k : Nat} (hk : k ≤ 64) (h : ((x / 2 ^ k : Nat) : Int) ≤ 0) : wt x k = pc x := wt_all hk (Nat.le_zero.1 (Int.ofNat_le.1 h))
set_option maxRecDepth 100000 in
theorem xwt (x : Nat) (hx : x < 18446744073709551616) : Con Try.prog 46 #[u6 (x : Int)] [] [] (fun _ => []) (fun _ => i6 ((pc x : Nat) : Int)) := by
 have hf := Try.func46
 have hE := enters_of hf (by kernel_rfl) rfl
 refine fE hf (fun w cs => ?_) hE
 refine r0 [] [(2, i6 0)] [] ?_
 refine r0 [] [(3, i6 0)] [] ?_
 refine lq (fun k => k ≤ 64) (fun k => [(0, u6 ((x / 2 ^ k : Nat) : Int)), (3, i6 ((wt x k : Nat) : Int))]) (fun _ L => L) (fun k => 64 - k) 0 (by omega) (by rw [Nat.pow_zero, Nat.div_one]; kernel_rfl) (by kernel_rfl) (fun k hk3 => ?_)
 have hwl := wt_le x k
 have hxl : x / 2 ^ k < 18446744073709551616 := Nat.lt_of_le_of_lt (Nat.div_le_self _ _) hx
 refine r0 [] [(5, .bool (decide (0 < ((x / 2 ^ k : Nat) : Int))))] [] ?_
 refine cLt 0 ((x / 2 ^ k : Nat) : Int) (fun h5 dh5 => ?_) fun h5 dh5 => ?_
 ·have hkl := hv_ltI hx (by omega) dh5
  refine r0 [(2, .t (tb (a := u6 ((x / 2 ^ k : Nat) : Int)) (b := u6 2) fun _ _ _ _ => bin_rem_u64 (a := x / 2 ^ k) (d := 2) (by decide))), (3, .t (tc (k := .u64) (l := .i64) (a := u6 (((x / 2 ^ k) % 2 : Nat) : Int)) fun _ _ _ hS hT => cvt_u64i hS hT (by omega))), (4, ad (wt x k) ((x / 2 ^ k) % 2))] [(3, i6 (((wt x k) + ((x / 2 ^ k) % 2) : Nat) : Int))] [3] ?_
  refine r0 [(1, .t (tb (a := u6 ((x / 2 ^ k : Nat) : Int)) (b := u6 2) fun _ _ _ _ => bin_quo_u64 (a := x / 2 ^ k) (d := 2) (by decide) (by omega)))] [(0, u6 (((x / 2 ^ k) / 2 : Nat) : Int))] [0] ?_
  exact le (k + 1) (by omega) (by omega) (by rw [Nat.pow_succ, ← Nat.div_div_eq_div_mul]; kernel_rfl) [] (by kernel_rfl)
 refine lx ?_
 refine r0 [] [(2, i6 ((wt x k : Nat) : Int))] [2] ?_
 exact lfV (i6 ((wt x k : Nat) : Int)) Env.zero (by rw [wt_allI (by omega) (by assumption)]) [] [] []
set_option maxRecDepth 100000 in
theorem xrch1  : Con Try.prog 17 #[i6 1] [] [] (fun _ => []) (fun _ => i6 9) := by
 have hf := Try.func17
 have hE := enters_of hf (by kernel_rfl) rfl
 refine fE hf (fun w cs => ?_) hE
 refine r0 [] [(2, i6 0)] [] ?_
 refine r0 [] [(4, .bool true)] [] ?_
 refine cT _ rfl ?_
 refine r0 [] [(2, i6 9)] [2] ?_
 exact lfV (i6 9) Env.zero (by first | rfl | kernel_rfl) [] [] []
set_option maxRecDepth 100000 in
theorem xrch2  : Con Try.prog 17 #[i6 2] [] [] (fun _ => []) (fun _ => i6 36) := by
 have hf := Try.func17
 have hE := enters_of hf (by kernel_rfl) rfl
 refine fE hf (fun w cs => ?_) hE
 refine r0 [] [(2, i6 0)] [] ?_
 refine r0 [] [(4, .bool false)] [] ?_
 refine cF _ rfl ?_
 refine r0 [] [(6, .bool true)] [] ?_
 refine cT _ rfl ?_
 refine r0 [] [(2, i6 36)] [2] ?_
 exact lfV (i6 36) Env.zero (by first | rfl | kernel_rfl) [] [] []
theorem sN_le {m : Int} {xs ys : List UInt8} (o : Nat) : ∀ k, sumN (fun i => cst m (xs.getD (o + i) 0) (ys.getD (o + i) 0)) k ≤ 8 * k
  | 0 => Nat.le_refl _
  | k + 1 => by
    rw [sumN]
    have h := sN_le (m := m) (xs := xs) (ys := ys) o k
    have h2 := cst_le m (xs.getD (o + k) 0) (ys.getD (o + k) 0)
    have h3 : cst m (xs.getD (o + k) 0) (ys.getD (o + k) 0) ≤ 8 := by
      split at h2 <;> omega
    omega
theorem exP_b {m : Int} {xs ys : List UInt8} {n w : Nat} (h : chN m = n) : exP m xs ys (w + 1) = bif decide (((exP m xs ys w : Nat) : Int) < ((sumN (fun i => cst m (xs.getD (n * w + i) 0) (ys.getD (n * w + i) 0)) n : Nat) : Int)) then sumN (fun i => cst m (xs.getD (n * w + i) 0) (ys.getD (n * w + i) 0)) n else exP m xs ys w := by
  rw [exP, show wC m xs ys w = sumN (fun i => cst m (xs.getD (n * w + i) 0) (ys.getD (n * w + i) 0)) n by unfold wC; rw [h]]
  by_cases hc : exP m xs ys w < sumN (fun i => cst m (xs.getD (n * w + i) 0) (ys.getD (n * w + i) 0)) n
  · rw [decide_eq_true (by omega), cond_true]; omega
  · rw [decide_eq_false (by omega), cond_false]; omega
theorem exP_leN {m : Int} {xs ys : List UInt8} (n : Nat) (h : chN m = n) : ∀ w, exP m xs ys w ≤ 8 * n
  | 0 => Nat.zero_le _
  | w + 1 => by
    have h1 := exP_leN (xs := xs) (ys := ys) n h w
    have h2 := sN_le (m := m) (xs := xs) (ys := ys) (n * w) n
    rw [exP_b h]
    cases decide (((exP m xs ys w : Nat) : Int) < ((sumN (fun i => cst m (xs.getD (n * w + i) 0) (ys.getD (n * w + i) 0)) n : Nat) : Int)) <;> simp only [cond_true, cond_false] <;> omega
theorem cst1 (a b : UInt8) : cst 1 a b = pc (a ^^^ b).toNat := if_pos rfl
theorem cst2t {a b : UInt8} (h : ((a.toNat : Int) != (b.toNat : Int)) = true) : cst 2 a b = 1 := by
  unfold cst
  rw [if_neg (by decide), if_neg (fun e => by subst e; simp at h)]
theorem cst2f {a b : UInt8} (h : ((a.toNat : Int) != (b.toNat : Int)) = false) : cst 2 a b = 0 := by
  unfold cst
  have h1 := bne_eq_false_iff_eq.1 h
  rw [if_neg (by decide), if_pos (UInt8.toNat_inj.1 (by omega))]
theorem cst2b (a b : UInt8) : cst 2 a b = bif (a.toNat : Int) != (b.toNat : Int) then 1 else 0 := by
  cases h : ((a.toNat : Int) != (b.toNat : Int)) with
  | true => rw [cst2t h]; rfl
  | false => rw [cst2f h]; rfl
theorem sN_b0 {A : Nat} {b : Bool} : A + (bif b then 1 else 0) = bif b then A + 1 else A := by cases b <;> rfl
theorem pc8 (b : UInt8) : pc b.toNat ≤ 8 := pc8_le b.toNat_lt
attribute [local irreducible] sumN exP pc cst
theorem sN_s (m : Int) (xs ys : List UInt8) (o k : Nat) : sumN (fun i => cst m (xs.getD (o + i) 0) (ys.getD (o + i) 0)) (k + 1) = sumN (fun i => cst m (xs.getD (o + i) 0) (ys.getD (o + i) 0)) k + cst m (xs.getD (o + k) 0) (ys.getD (o + k) 0) := by rw [sumN]
theorem sN_b (xs ys : List UInt8) (o k : Nat) : sumN (fun i => cst 2 (xs.getD (o + i) 0) (ys.getD (o + i) 0)) (k + 1) = bif ((xs.getD (o + k) 0).toNat : Int) != ((ys.getD (o + k) 0).toNat : Int) then sumN (fun i => cst 2 (xs.getD (o + i) 0) (ys.getD (o + i) 0)) k + 1 else sumN (fun i => cst 2 (xs.getD (o + i) 0) (ys.getD (o + i) 0)) k := by rw [sN_s, cst2b, sN_b0]
theorem sN_0 (f : Nat → Nat) : sumN f 0 = 0 := by rw [sumN]
set_option maxRecDepth 100000 in
theorem xrexp1 (a b : List UInt8) (ha : a.length = 72) (hb : b.length = 72) : Con Try.prog 16 #[i6 1, .agg (rB 72 a).toArray, .agg (rB 72 b).toArray] [] [] (fun _ => []) (fun _ => i6 ((expo 1 a b : Nat) : Int)) := by
 have hf := Try.func16
 have hE := enters_of hf (by kernel_rfl) rfl
 refine fE hf (fun w cs => ?_) hE
 refine rr (fun _ => []) (fun q1 => [(4, pt ((q1 0).blk 0) 0), (5, pt ((q1 1).blk 0) 0), (6, i6 0)]) [] (fun q1 L => L ++ [ob ((q1 0).blk 0) (rB 72 a).toArray 49, ob ((q1 1).blk 0) (rB 72 b).toArray 49]) fun q1 => ?_
 refine r0 [(1, .c [] [] (xrch1))] [(7, i6 9)] [] ?_
 refine r0 [] [(8, i6 0)] [] ?_
 refine r0 [] [(9, i6 0)] [] ?_
 refine lq (fun w0 => w0 ≤ 8) (fun w0 => [(9, i6 (w0 : Int)), (8, i6 ((exP 1 a b w0 : Nat) : Int))]) (fun _ L => L) (fun w0 => 8 - w0) 0 (by omega) (by rw [exP]; kernel_rfl) (by kernel_rfl) (fun w0 hk5 => ?_)
 have hel := exP_leN (xs := a) (ys := b) (m := 1) 9 rfl w0
 refine r0 [] [(21, .bool (decide ((w0 : Int) < 8)))] [] ?_
 refine cLt (w0 : Int) 8 (fun h7 dh7 => ?_) fun h7 dh7 => ?_
 ·refine r0 [] [(10, i6 0)] [] ?_
  refine r0 [(2, ml 9 w0)] [(11, i6 ((9 * w0 : Nat) : Int))] [] ?_
  refine lq (fun j => j ≤ 9) (fun j => [(11, i6 ((9 * w0 + j : Nat) : Int)), (10, i6 ((sumN (fun i => cst 1 (a.getD (9 * w0 + i) 0) (b.getD (9 * w0 + i) 0)) j : Nat) : Int))]) (fun _ L => L) (fun j => 9 - j) 0 (by omega) (by rw [sN_0]; kernel_rfl) (by kernel_rfl) (fun j hk10 => ?_)
  have hsl := sN_le (m := 1) (xs := a) (ys := b) (9 * w0) j
  have hp8 := pc8 (a.getD (9 * w0 + j) 0 ^^^ b.getD (9 * w0 + j) 0)
  have hx8 := (a.getD (9 * w0 + j) 0 ^^^ b.getD (9 * w0 + j) 0).toNat_lt
  refine r0 [(3, ml 9 w0), (5, ad (9 * w0) 9)] [(33, .bool (decide (((9 * w0 + j : Nat) : Int) < (((9 * w0) + 9 : Nat) : Int))))] [] ?_
  refine cLt ((9 * w0 + j : Nat) : Int) (((9 * w0) + 9 : Nat) : Int) (fun h12 dh12 => ?_) fun h12 dh12 => ?_
  ·refine r0 [] [(37, .bool true)] [] ?_
   refine cT _ rfl ?_
   refine r0 [(0, .v (i6 ((sumN (fun i => cst 1 (a.getD (9 * w0 + i) 0) (b.getD (9 * w0 + i) 0)) j : Nat) : Int))), (1, .v (i6 ((9 * w0 + j : Nat) : Int))), (2, iA 49 .i64 ((q1 0).blk 0) 0 72 1 (9 * w0 + j)), (3, rD 0 ((q1 0).blk 0) (9 * w0 + j) 49 (rB 72 a) (rB_get (by omega))), (4, .v (i6 ((9 * w0 + j : Nat) : Int))), (5, iA 49 .i64 ((q1 1).blk 0) 0 72 1 (9 * w0 + j)), (6, rD 1 ((q1 1).blk 0) (9 * w0 + j) 49 (rB 72 b) (rB_get (by omega))), (7, .t (tb (a := u1 ((a.getD (9 * w0 + j) 0).toNat : Int)) (b := u1 ((b.getD (9 * w0 + j) 0).toNat : Int)) fun _ _ _ _ => bin_xor_u8 (a.getD (9 * w0 + j) 0) (b.getD (9 * w0 + j) 0))), (8, .t (tv (convert 5 87 (u1 (((a.getD (9 * w0 + j) 0) ^^^ (b.getD (9 * w0 + j) 0)).toNat : Int))) (fun _ => cvt_u8u64 Try.underlying5 Try.underlying87))), (9, .c [] [] (xwt ((a.getD (9 * w0 + j) 0 ^^^ b.getD (9 * w0 + j) 0).toNat) (by omega))), (10, ad (sumN (fun i => cst 1 (a.getD (9 * w0 + i) 0) (b.getD (9 * w0 + i) 0)) j) (pc ((a.getD (9 * w0 + j) 0 ^^^ b.getD (9 * w0 + j) 0).toNat))), (11, .v (i6 (((sumN (fun i => cst 1 (a.getD (9 * w0 + i) 0) (b.getD (9 * w0 + i) 0)) j) + (pc ((a.getD (9 * w0 + j) 0 ^^^ b.getD (9 * w0 + j) 0).toNat)) : Nat) : Int)))] [(10, i6 (((sumN (fun i => cst 1 (a.getD (9 * w0 + i) 0) (b.getD (9 * w0 + i) 0)) j) + (pc ((a.getD (9 * w0 + j) 0 ^^^ b.getD (9 * w0 + j) 0).toNat)) : Nat) : Int))] [10] ?_
   refine r0 [(1, ad (9 * w0 + j) 1)] [(11, i6 (((9 * w0 + j) + 1 : Nat) : Int))] [11] ?_
   exact le (j + 1) (by omega) (by omega) (by rw [sN_s, cst1]; kernel_rfl) [0, 1] (by kernel_rfl)
  obtain rfl : j = 9 := by omega
  refine lx ?_
  refine r0 [] [(60, .bool (decide (((exP 1 a b w0 : Nat) : Int) < ((sumN (fun i => cst 1 (a.getD (9 * w0 + i) 0) (b.getD (9 * w0 + i) 0)) 9 : Nat) : Int))))] [] ?_
  refine cJ (decide (((exP 1 a b w0 : Nat) : Int) < ((sumN (fun i => cst 1 (a.getD (9 * w0 + i) 0) (b.getD (9 * w0 + i) 0)) 9 : Nat) : Int))) (fun c => [(8, i6 (((bif c then sumN (fun i => cst 1 (a.getD (9 * w0 + i) 0) (b.getD (9 * w0 + i) 0)) 9 else exP 1 a b w0) : Nat) : Int))]) (fun _ => [ob ((q1 0).blk 0) (rB 72 a).toArray 49, ob ((q1 1).blk 0) (rB 72 b).toArray 49]) (fun h17 => ?_) (fun h17 => ?_) ?_
  ·have dh17 := of_decide_eq_true h17
   refine r0 [] [(8, i6 ((sumN (fun i => cst 1 (a.getD (9 * w0 + i) 0) (b.getD (9 * w0 + i) 0)) 9 : Nat) : Int))] [8] ?_
   exact cm (by kernel_rfl) [0, 1] (by kernel_rfl)
  ·have dh17 := of_decide_eq_false h17
   exact cm (by kernel_rfl) [0, 1] (by kernel_rfl)
  refine r0 [(1, ad w0 1)] [(9, i6 ((w0 + 1 : Nat) : Int))] [9] ?_
  exact le (w0 + 1) (by omega) (by omega) (by rw [exP_b (n := 9) rfl]; kernel_rfl) [0, 1] (by kernel_rfl)
 obtain rfl : w0 = 8 := by omega
 refine lx ?_
 refine r0 [] [(6, i6 ((exP 1 a b 8 : Nat) : Int))] [6] ?_
 exact lfV (i6 ((exP 1 a b 8 : Nat) : Int)) Env.zero (by rfl) [] [] []
set_option maxRecDepth 100000 in
theorem xrexp2 (a b : List UInt8) (ha : a.length = 72) (hb : b.length = 72) : Con Try.prog 16 #[i6 2, .agg (rB 72 a).toArray, .agg (rB 72 b).toArray] [] [] (fun _ => []) (fun _ => i6 ((expo 2 a b : Nat) : Int)) := by
 have hf := Try.func16
 have hE := enters_of hf (by kernel_rfl) rfl
 refine fE hf (fun w cs => ?_) hE
 refine rr (fun _ => []) (fun q1 => [(4, pt ((q1 0).blk 0) 0), (5, pt ((q1 1).blk 0) 0), (6, i6 0)]) [] (fun q1 L => L ++ [ob ((q1 0).blk 0) (rB 72 a).toArray 49, ob ((q1 1).blk 0) (rB 72 b).toArray 49]) fun q1 => ?_
 refine r0 [(1, .c [] [] (xrch2))] [(7, i6 36)] [] ?_
 refine r0 [] [(8, i6 0)] [] ?_
 refine r0 [] [(9, i6 0)] [] ?_
 refine lq (fun w0 => w0 ≤ 2) (fun w0 => [(9, i6 (w0 : Int)), (8, i6 ((exP 2 a b w0 : Nat) : Int))]) (fun _ L => L) (fun w0 => 2 - w0) 0 (by omega) (by rw [exP]; kernel_rfl) (by kernel_rfl) (fun w0 hk5 => ?_)
 have hel := exP_leN (xs := a) (ys := b) (m := 2) 36 rfl w0
 refine r0 [] [(21, .bool (decide ((w0 : Int) < 2)))] [] ?_
 refine cLt (w0 : Int) 2 (fun h7 dh7 => ?_) fun h7 dh7 => ?_
 ·refine r0 [] [(10, i6 0)] [] ?_
  refine r0 [(2, ml 36 w0)] [(11, i6 ((36 * w0 : Nat) : Int))] [] ?_
  refine lq (fun j => j ≤ 36) (fun j => [(11, i6 ((36 * w0 + j : Nat) : Int)), (10, i6 ((sumN (fun i => cst 2 (a.getD (36 * w0 + i) 0) (b.getD (36 * w0 + i) 0)) j : Nat) : Int))]) (fun _ L => L) (fun j => 36 - j) 0 (by omega) (by rw [sN_0]; kernel_rfl) (by kernel_rfl) (fun j hk10 => ?_)
  have hsl := sN_le (m := 2) (xs := a) (ys := b) (36 * w0) j
  refine r0 [(3, ml 36 w0), (5, ad (36 * w0) 36)] [(33, .bool (decide (((36 * w0 + j : Nat) : Int) < (((36 * w0) + 36 : Nat) : Int))))] [] ?_
  refine cLt ((36 * w0 + j : Nat) : Int) (((36 * w0) + 36 : Nat) : Int) (fun h12 dh12 => ?_) fun h12 dh12 => ?_
  ·refine r0 [] [(37, .bool false)] [] ?_
   refine cF _ rfl ?_
   refine r0 [(1, iA 49 .i64 ((q1 0).blk 0) 0 72 1 (36 * w0 + j)), (2, rD 0 ((q1 0).blk 0) (36 * w0 + j) 49 (rB 72 a) (rB_get (by omega))), (4, iA 49 .i64 ((q1 1).blk 0) 0 72 1 (36 * w0 + j)), (5, rD 1 ((q1 1).blk 0) (36 * w0 + j) 49 (rB 72 b) (rB_get (by omega)))] [(55, .bool (((a.getD (36 * w0 + j) 0).toNat : Int) != ((b.getD (36 * w0 + j) 0).toNat : Int)))] [] ?_
   refine cJ (((a.getD (36 * w0 + j) 0).toNat : Int) != ((b.getD (36 * w0 + j) 0).toNat : Int)) (fun c => [(10, i6 (((bif c then (sumN (fun i => cst 2 (a.getD (36 * w0 + i) 0) (b.getD (36 * w0 + i) 0)) j) + 1 else sumN (fun i => cst 2 (a.getD (36 * w0 + i) 0) (b.getD (36 * w0 + i) 0)) j) : Nat) : Int))]) (fun _ => [ob ((q1 0).blk 0) (rB 72 a).toArray 49, ob ((q1 1).blk 0) (rB 72 b).toArray 49]) (fun h15 => ?_) (fun h15 => ?_) ?_
   ·have dh15 := bne_iff_ne.1 h15
    refine r0 [(1, ad (sumN (fun i => cst 2 (a.getD (36 * w0 + i) 0) (b.getD (36 * w0 + i) 0)) j) 1)] [(10, i6 (((sumN (fun i => cst 2 (a.getD (36 * w0 + i) 0) (b.getD (36 * w0 + i) 0)) j) + 1 : Nat) : Int))] [10] ?_
    exact cm (by kernel_rfl) [0, 1] (by kernel_rfl)
   ·have dh15 := eq_of_bne_false h15
    exact cm (by kernel_rfl) [0, 1] (by kernel_rfl)
   refine r0 [(1, ad (36 * w0 + j) 1)] [(11, i6 (((36 * w0 + j) + 1 : Nat) : Int))] [11] ?_
   exact le (j + 1) (by omega) (by omega) (by rw [sN_b]; kernel_rfl) [0, 1] (by kernel_rfl)
  obtain rfl : j = 36 := by omega
  refine lx ?_
  refine r0 [] [(60, .bool (decide (((exP 2 a b w0 : Nat) : Int) < ((sumN (fun i => cst 2 (a.getD (36 * w0 + i) 0) (b.getD (36 * w0 + i) 0)) 36 : Nat) : Int))))] [] ?_
  refine cJ (decide (((exP 2 a b w0 : Nat) : Int) < ((sumN (fun i => cst 2 (a.getD (36 * w0 + i) 0) (b.getD (36 * w0 + i) 0)) 36 : Nat) : Int))) (fun c => [(8, i6 (((bif c then sumN (fun i => cst 2 (a.getD (36 * w0 + i) 0) (b.getD (36 * w0 + i) 0)) 36 else exP 2 a b w0) : Nat) : Int))]) (fun _ => [ob ((q1 0).blk 0) (rB 72 a).toArray 49, ob ((q1 1).blk 0) (rB 72 b).toArray 49]) (fun h19 => ?_) (fun h19 => ?_) ?_
  ·have dh19 := of_decide_eq_true h19
   refine r0 [] [(8, i6 ((sumN (fun i => cst 2 (a.getD (36 * w0 + i) 0) (b.getD (36 * w0 + i) 0)) 36 : Nat) : Int))] [8] ?_
   exact cm (by kernel_rfl) [0, 1] (by kernel_rfl)
  ·have dh19 := of_decide_eq_false h19
   exact cm (by kernel_rfl) [0, 1] (by kernel_rfl)
  refine r0 [(1, ad w0 1)] [(9, i6 ((w0 + 1 : Nat) : Int))] [9] ?_
  exact le (w0 + 1) (by omega) (by omega) (by rw [exP_b (n := 36) rfl]; kernel_rfl) [0, 1] (by kernel_rfl)
 obtain rfl : w0 = 2 := by omega
 refine lx ?_
 refine r0 [] [(6, i6 ((exP 2 a b 2 : Nat) : Int))] [6] ?_
 exact lfV (i6 ((exP 2 a b 2 : Nat) : Int)) Env.zero (by rfl) [] [] []
end Go.Proofs.Ytdglhppcfdpcaaa.E
