/- The field: walks. -/
import Derived.Test.YtdglhppcfdpcaaaHaA
import Derived.Test.YtdglhppcfdpcaaaGfQ
namespace Go.Proofs.Ytdglhppcfdpcaaa.E
open Go Go.RowKit Go.Shelf
set_option linter.unusedVariables false
set_option linter.unusedSimpArgs false
def exB : List UInt8 := expL.map UInt8.ofNat
def ctN (n : Int) : Nat := (n % 255).toNat
theorem ctN_lt (n : Int) : ctN n < 255 := by unfold ctN; omega
theorem bin_rem255 {P : Program} {T : TypeId} {x y : Operand} {w : World} {a : Int} (h0 : -9223372036854775808 ≤ a) (h1 : a ≤ 9223372036854775807) : (sBin .rem T x y (.int .i64 a) (.int .i64 255)).run P w = .ok (.int .i64 (a.tmod 255)) w := rfl
theorem ct_e (n : Int) : (bif decide (n.tmod 255 < 0) then n.tmod 255 + 255 else n.tmod 255) = ((ctN n : Nat) : Int) := by
  have h := Int.tmod_eq_emod (a := n) (b := 255)
  unfold ctN
  by_cases h1 : n.tmod 255 < 0
  · rw [decide_eq_true h1, cond_true]; split at h <;> omega
  · rw [decide_eq_false h1, cond_false]; split at h <;> omega
/-- Twice an element. -/
def tw (a : UInt8) : UInt8 := UInt8.ofNat (xt a.toNat)
theorem tw_all : ∀ n, n < 256 → (bif (((UInt8.ofNat n &&& 128).toNat : Int) != 0) then (UInt8.ofNat (n * 2 ^ 1) ^^^ 29) else UInt8.ofNat (n * 2 ^ 1)) = UInt8.ofNat (xt n) := by decide +kernel
theorem tw_t {a : UInt8} (h : (((a &&& 128).toNat : Int) != 0) = true) : Value.int .u8 ((UInt8.ofNat (a.toNat * 2 ^ 1) ^^^ 29).toNat : Int) = .int .u8 ((tw a).toNat : Int) := by
  have h1 := tw_all a.toNat a.toNat_lt
  rw [UInt8.ofNat_toNat, h] at h1
  exact congrArg (fun z : UInt8 => Value.int .u8 (z.toNat : Int)) h1
theorem tw_f {a : UInt8} (h : (((a &&& 128).toNat : Int) != 0) = false) : Value.int .u8 ((UInt8.ofNat (a.toNat * 2 ^ 1)).toNat : Int) = .int .u8 ((tw a).toNat : Int) := by
  have h1 := tw_all a.toNat a.toNat_lt
  rw [UInt8.ofNat_toNat, h] at h1
  exact congrArg (fun z : UInt8 => Value.int .u8 (z.toNat : Int)) h1
set_option maxRecDepth 100000 in
theorem xtwice (a : UInt8) : Con Try.prog 59 #[u1 (a.toNat : Int)] [] [] (fun _ => []) (fun _ => u1 ((tw a).toNat : Int)) := by
 have hf := Try.func59
 have hE := enters_of hf (by kernel_rfl) rfl
 refine fE hf (fun w cs => ?_) hE
 refine r0 [] [(2, u1 0)] [] ?_
 refine r0 [(1, .t (tb (a := u1 (a.toNat : Int)) (b := u1 128) fun _ _ _ _ => bin_and_u8 (a) ((128 : UInt8))))] [(5, .bool (((a &&& (128 : UInt8)).toNat : Int) != 0))] [] ?_
 refine cB (((a &&& (128 : UInt8)).toNat : Int) != 0) (fun h3 => ?_) fun h3 => ?_
 ·refine r0 [(1, .t (tv (sBin .shl 5 (.tmp 6) (.const (u6 1)) (u1 (a.toNat : Int)) (u6 1)) (fun _ => bin_shl_b8 1 (by decide)))), (2, .t (tb (a := u1 ((UInt8.ofNat (a.toNat * 2 ^ 1)).toNat : Int)) (b := u1 29) fun _ _ _ _ => bin_xor_u8 ((UInt8.ofNat (a.toNat * 2 ^ 1))) ((29 : UInt8))))] [(2, u1 (((UInt8.ofNat (a.toNat * 2 ^ 1)) ^^^ (29 : UInt8)).toNat : Int))] [2] ?_
  exact lfV (u1 (((UInt8.ofNat (a.toNat * 2 ^ 1)) ^^^ (29 : UInt8)).toNat : Int)) Env.zero (by first | exact tw_t (by assumption) | exact tw_f (by assumption)) [] [] []
 refine r0 [(1, .t (tv (sBin .shl 5 (.tmp 9) (.const (u6 1)) (u1 (a.toNat : Int)) (u6 1)) (fun _ => bin_shl_b8 1 (by decide))))] [(2, u1 ((UInt8.ofNat (a.toNat * 2 ^ 1)).toNat : Int))] [2] ?_
 exact lfV (u1 ((UInt8.ofNat (a.toNat * 2 ^ 1)).toNat : Int)) Env.zero (by first | exact tw_t (by assumption) | exact tw_f (by assumption)) [] [] []
set_option maxRecDepth 100000 in
theorem xcut (n : Int) (h0 : -9223372036854775808 ≤ n) (h1 : n ≤ 9223372036854775807) : Con Try.prog 82 #[i6 n] [] [] (fun _ => []) (fun _ => i6 ((ctN n : Nat) : Int)) := by
 have hb := Int.tmod_lt_of_pos n (show (0 : Int) < 255 by omega)
 have hb2 := Int.lt_tmod_of_pos n (show (0 : Int) < 255 by omega)
 have hf := Try.func82
 have hE := enters_of hf (by kernel_rfl) rfl
 refine fE hf (fun w cs => ?_) hE
 refine r0 [] [(2, i6 0)] [] ?_
 refine r0 [(1, .t (tv (sBin .rem 3 (.tmp 3) (.const (i6 255)) (i6 n) (i6 255)) (fun _ => bin_rem255 h0 h1)))] [(0, i6 (n.tmod 255))] [0] ?_
 refine r0 [] [(6, .bool (decide ((n.tmod 255) < 0)))] [] ?_
 refine cJ (decide ((n.tmod 255) < 0)) (fun c => [(0, i6 (bif c then ((n.tmod 255) + 255) else (n.tmod 255)))]) (fun _ => []) (fun h4 => ?_) (fun h4 => ?_) ?_
 ·have dh4 := of_decide_eq_true h4
  refine r0 [(1, aI (n.tmod 255) (255) (by omega))] [(0, i6 ((n.tmod 255) + 255))] [0] ?_
  exact cm (by kernel_rfl) [] (by kernel_rfl)
 ·have dh4 := of_decide_eq_false h4
  exact cm (by kernel_rfl) [] (by kernel_rfl)
 refine r0 [] [(2, i6 (bif decide ((n.tmod 255) < 0) then ((n.tmod 255) + 255) else (n.tmod 255)))] [2] ?_
 exact lfV (i6 (bif decide ((n.tmod 255) < 0) then ((n.tmod 255) + 255) else (n.tmod 255))) Env.zero (by exact congrArg (Value.int .i64) (ct_e n)) [] [] []
def wp8 : Nat → UInt8
  | 0 => 1
  | k + 1 => tw (wp8 k)
def exK : Nat → List UInt8
  | 0 => List.replicate 255 0
  | k + 1 => (exK k).set k (wp8 k)
def lgK : Nat → List Nat
  | 0 => List.replicate 256 0
  | k + 1 => (lgK k).set (wp8 k).toNat k
theorem exK_len : ∀ k, (exK k).length = 255
  | 0 => List.length_replicate ..
  | k + 1 => by rw [exK, List.length_set]; exact exK_len k
theorem lgK_len : ∀ k, (lgK k).length = 256
  | 0 => List.length_replicate ..
  | k + 1 => by rw [lgK, List.length_set]; exact lgK_len k
theorem exK_all : exK 255 = exB := by decide +kernel
theorem lgK_all : lgK 255 = logL := by decide +kernel
theorem wp8_lt (k : Nat) : (wp8 k).toNat < 256 := (wp8 k).toNat_lt
attribute [local irreducible] exB logL exK lgK wp8
set_option maxRecDepth 100000 in
theorem xgfnew  : Con Try.prog 30 #[] [] [] (fun E => [ob (E.blk 0) (rB 255 exB ++ rN 256 logL).toArray 131]) (fun E => pt ((E.blk 0)) 0) := by
 have hf := Try.func30
 have hE := enters_of hf (by kernel_rfl) rfl
 refine fE hf (fun w cs => ?_) hE
 refine r0 [] [(0, .pointer none)] [] ?_
 refine rr (fun _ => []) (fun q2 => [(1, pt ((q2 1).blk 0) 0)]) [] (fun q2 L => L ++ [ob ((q2 1).blk 0) (rB 255 (List.replicate 255 0) ++ rN 256 (List.replicate 256 0)).toArray 131]) fun q2 => ?_
 refine r0 [] [(2, u1 1)] [] ?_
 refine r0 [] [(6, i6 0)] [] ?_
 refine lq (fun k => k ≤ 255) (fun k => [(2, u1 ((wp8 k).toNat : Int)), (6, i6 (k : Int))]) (fun k L => L.set 0 (ob ((q2 1).blk 0) (rB 255 (exK k) ++ rN 256 (lgK k)).toArray 131)) (fun k => 255 - k) 0 (by omega) (by kernel_rfl) (by rw [show exK 0 = List.replicate 255 0 by unfold exK; rfl, show lgK 0 = List.replicate 256 0 by unfold lgK; rfl]; kernel_rfl) (fun k hk5 => ?_)
 have hp := wp8_lt k
 refine r0 [] [(7, .bool (decide ((k : Int) < 255)))] [] ?_
 refine cLt (k : Int) 255 (fun h7 dh7 => ?_) fun h7 dh7 => ?_
 ·refine r0 [] [(3, i6 (k : Int))] [] ?_
  refine rr (fun _ => [(5, iA 129 .i64 ((q2 1).blk 0) 0 255 1 k), (6, wM (A := []) (C := (rN 256 (lgK k) : List Value)) 0 ((q2 1).blk 0) k 131 (u1 ((wp8 k).toNat : Int)) (rB 255 (exK k) ++ rN 256 (lgK k)) (rB 255 ((exK k).set k (wp8 k)) ++ rN 256 (lgK k)) rfl rfl rfl (rL_lt (by omega)) (rB_set (exK_len ..)))]) (fun _ => []) [] (fun _ L => L.set 0 (ob ((q2 1).blk 0) (rB 255 ((exK k).set k (wp8 k)) ++ rN 256 (lgK k)).toArray 131)) fun q9 => ?_
  refine rr (fun _ => [(5, iA 115 .u8 ((q2 1).blk 0) 255 256 1 ((wp8 k).toNat)), (6, wM (A := (rB 255 ((exK k).set k (wp8 k)) : List Value)) (C := []) 0 ((q2 1).blk 0) ((wp8 k).toNat) 131 (i6 (k : Int)) (rB 255 ((exK k).set k (wp8 k)) ++ rN 256 (lgK k)) (rB 255 ((exK k).set k (wp8 k)) ++ rN 256 ((lgK k).set ((wp8 k).toNat) k)) (by rw [List.append_nil]) (by rw [List.append_nil]) rB_ln (rL_lt (by omega)) (rN_set (lgK_len ..)))]) (fun _ => []) [] (fun _ L => L.set 0 (ob ((q2 1).blk 0) (rB 255 ((exK k).set k (wp8 k)) ++ rN 256 ((lgK k).set ((wp8 k).toNat) k)).toArray 131)) fun q10 => ?_
  refine r0 [(1, .c [] [] (xtwice (wp8 k)))] [(2, u1 ((tw (wp8 k)).toNat : Int))] [2] ?_
  refine r0 [(0, ad k 1)] [(6, i6 ((k + 1 : Nat) : Int))] [6] ?_
  exact le (k + 1) (by omega) (by omega) (by kernel_rfl) [0] (by rw [show exK (k + 1) = (exK k).set k (wp8 k) by rw [exK], show lgK (k + 1) = (lgK k).set (wp8 k).toNat k by rw [lgK]]; kernel_rfl)
 obtain rfl : k = 255 := by omega
 refine cl [ob ((q2 1).blk 0) (rB 255 exB ++ rN 256 logL).toArray 131] (by rw [exK_all, lgK_all]; kernel_rfl) ?_
 refine lx ?_
 refine r0 [] [(0, pt ((q2 1).blk 0) 0)] [0] ?_
 exact lf (.l [(q2 1).blk 0] [] []) [0] [] []
set_option maxRecDepth 100000 in
theorem xexp (g : Nat) (n : Int) (h0 : -9223372036854775808 ≤ n) (h1 : n ≤ 9223372036854775807) : Con Try.prog 57 #[pt g 0, i6 n] [ob g (rB 255 exB ++ rN 256 logL).toArray 131] [] (fun _ => []) (fun _ => u1 ((exB.getD (ctN n) 0).toNat : Int)) := by
 have hb := ctN_lt n
 have hf := Try.func57
 have hE := enters_of hf (by kernel_rfl) rfl
 refine fE hf (fun w cs => ?_) hE
 refine r0 [] [(4, u1 0)] [] ?_
 refine r0 [(2, .c [] [] (xcut n (by omega) (by omega))), (5, iA 129 .i64 g 0 255 1 (ctN n)), (6, rM (A := []) (C := (rN 256 logL : List Value)) 0 g (ctN n) 131 (rB 255 exB ++ rN 256 logL) rfl rfl (rB_get (by omega)))] [(4, u1 ((exB.getD (ctN n) 0).toNat : Int))] [4] ?_
 exact lf Env.zero [] [(0, 0)] []
theorem lg_lt (a : UInt8) : logL.getD a.toNat 0 < 255 := gL_lt a.toNat a.toNat_lt
theorem ex_gE {m : Nat} (h : m < 255) : exB.getD m 0 = UInt8.ofNat (gE m) := by
  unfold exB gE
  rw [List.getD_eq_getElem?_getD, List.getD_eq_getElem?_getD, List.getElem?_map]
  have h1 : m < expL.length := by rw [expL_len]; exact h
  rw [List.getElem?_eq_getElem h1]
  rfl
theorem u8_ne {a : UInt8} (h : ((a.toNat : Int) == 0) = false) : a.toNat ≠ 0 := by have := ne_of_beq_false h; omega
theorem u8_eq {a : UInt8} (h : ((a.toNat : Int) == 0) = true) : a = 0 := by
  have h1 := eq_of_beq h
  exact UInt8.toNat_inj.1 (by show a.toNat = 0; omega)
theorem gm_t {a b : UInt8} (h : (((a.toNat : Int) == 0) || ((b.toNat : Int) == 0)) = true) : Value.int .u8 0 = .int .u8 ((gm a b).toNat : Int) := by
  rcases Bool.or_eq_true _ _ ▸ h with h1 | h1
  · rw [u8_eq h1, zero_gm]; rfl
  · rw [u8_eq h1, gm_zero]; rfl
theorem gm_f {a b : UInt8} (h : (((a.toNat : Int) == 0) || ((b.toNat : Int) == 0)) = false) : Value.int .u8 ((exB.getD (ctN (((logL.getD a.toNat 0 + logL.getD b.toNat 0 : Nat)) : Int)) 0).toNat : Int) = .int .u8 ((gm a b).toNat : Int) := by
  rw [Bool.or_eq_false_iff] at h
  have h1 := u8_ne h.1
  have h2 := u8_ne h.2
  rw [ex_gE (ctN_lt _)]
  unfold gm gmulN
  rw [if_neg (by omega), show ctN (((logL.getD a.toNat 0 + logL.getD b.toNat 0 : Nat)) : Int) = (gL a.toNat + gL b.toNat) % 255 by unfold ctN gL; omega]
/-- A quotient. -/
def gd (a b : UInt8) : UInt8 := UInt8.ofNat (gdivN a.toNat b.toNat)
set_option maxRecDepth 100000 in
theorem xmul (g : Nat) (a b : UInt8) : Con Try.prog 81 #[pt g 0, u1 (a.toNat : Int), u1 (b.toNat : Int)] [ob g (rB 255 exB ++ rN 256 logL).toArray 131] [] (fun _ => []) (fun _ => u1 ((gm a b).toNat : Int)) := by
 have ha := a.toNat_lt
 have hb := b.toNat_lt
 have hla := lg_lt a
 have hlb := lg_lt b
 have hf := Try.func81
 have hE := enters_of hf (by kernel_rfl) rfl
 refine fE hf (fun w cs => ?_) hE
 refine r0 [] [(6, u1 0)] [] ?_
 refine r0 [] [(12, .bool (((a.toNat : Int) == 0) || ((b.toNat : Int) == 0)))] [] ?_
 refine cB (((a.toNat : Int) == 0) || ((b.toNat : Int) == 0)) (fun h3 => ?_) fun h3 => ?_
 ·refine r0 [] [(6, u1 0)] [6] ?_
  exact lfV (u1 0) Env.zero (by first | exact gm_t (by assumption) | exact gm_f (by assumption)) [] [(0, 0)] []
 refine r0 [(5, iA 115 .u8 g 255 256 1 a.toNat), (6, rM (A := (rB 255 exB : List Value)) (C := []) 0 g a.toNat 131 (rB 255 exB ++ rN 256 logL) (by rw [List.append_nil]) rB_ln (rN_get (by omega))), (11, iA 115 .u8 g 255 256 1 b.toNat), (12, rM (A := (rB 255 exB : List Value)) (C := []) 0 g b.toNat 131 (rB 255 exB ++ rN 256 logL) (by rw [List.append_nil]) rB_ln (rN_get (by omega))), (13, ad (logL.getD a.toNat 0) (logL.getD b.toNat 0)), (14, .c [0] [] (xexp g (((logL.getD a.toNat 0) + (logL.getD b.toNat 0) : Nat) : Int) (by omega) (by omega)))] [(6, u1 ((exB.getD (ctN (((logL.getD a.toNat 0) + (logL.getD b.toNat 0) : Nat) : Int)) 0).toNat : Int))] [6] ?_
 exact lfV (u1 ((exB.getD (ctN (((logL.getD a.toNat 0) + (logL.getD b.toNat 0) : Nat) : Int)) 0).toNat : Int)) Env.zero (by first | exact gm_t (by assumption) | exact gm_f (by assumption)) [] [(0, 0)] []
def xdiv_0 (a : UInt8) (b : UInt8) : UInt8 := (bif (b.toNat : Int) == 0 then (0 : UInt8) else (bif (a.toNat : Int) == 0 then (0 : UInt8) else exB.getD (ctN (((logL.getD a.toNat 0 : Nat) : Int) - ((logL.getD b.toNat 0 : Nat) : Int))) 0))
def xdiv_1 (b : UInt8) : Int := (bif (b.toNat : Int) == 0 then 16 else 0)
set_option maxRecDepth 100000 in
theorem xdiv (g : Nat) (a b : UInt8) : Con Try.prog 98 #[pt g 0, u1 (a.toNat : Int), u1 (b.toNat : Int)] [ob g (rB 255 exB ++ rN 256 logL).toArray 131] [] (fun _ => []) (fun _ => .tuple #[u1 ((xdiv_0 a b).toNat : Int), i6 (xdiv_1 b)]) := by
 have ha := a.toNat_lt
 have hb := b.toNat_lt
 have hla := lg_lt a
 have hlb := lg_lt b
 have hf := Try.func98
 have hE := enters_of hf (by kernel_rfl) rfl
 refine fE hf (fun w cs => ?_) hE
 refine r0 [] [(6, u1 0), (7, i6 0)] [] ?_
 refine r0 [] [(8, .bool ((b.toNat : Int) == 0))] [] ?_
 refine cEq (b.toNat : Int) 0 (fun h3 dh3 => ?_) fun h3 dh3 => ?_
 ·refine r0 [] [(6, u1 0), (7, i6 16)] [6, 7] ?_
  exact lfV (.tuple #[u1 0, i6 16]) Env.zero (by ((try simp only [xdiv_0, xdiv_1]); (repeat (first | rw [h3] | rw [cond_true] | rw [cond_false]))) <;> rfl) [] [(0, 0)] []
 refine r0 [] [(11, .bool ((a.toNat : Int) == 0))] [] ?_
 refine cEq (a.toNat : Int) 0 (fun h6 dh6 => ?_) fun h6 dh6 => ?_
 ·refine r0 [] [(6, u1 0), (7, i6 0)] [6, 7] ?_
  exact lfV (.tuple #[u1 0, i6 0]) Env.zero (by ((try simp only [xdiv_0, xdiv_1]); (repeat (first | rw [h3] | rw [h6] | rw [cond_true] | rw [cond_false]))) <;> rfl) [] [(0, 0)] []
 refine r0 [(5, iA 115 .u8 g 255 256 1 a.toNat), (6, rM (A := (rB 255 exB : List Value)) (C := []) 0 g a.toNat 131 (rB 255 exB ++ rN 256 logL) (by rw [List.append_nil]) rB_ln (rN_get (by omega))), (11, iA 115 .u8 g 255 256 1 b.toNat), (12, rM (A := (rB 255 exB : List Value)) (C := []) 0 g b.toNat 131 (rB 255 exB ++ rN 256 logL) (by rw [List.append_nil]) rB_ln (rN_get (by omega))), (13, sI ((logL.getD a.toNat 0 : Nat) : Int) (((logL.getD b.toNat 0 : Nat) : Int)) (by omega)), (14, .c [0] [] (xexp g (((logL.getD a.toNat 0 : Nat) : Int) - ((logL.getD b.toNat 0 : Nat) : Int)) (by omega) (by omega)))] [(6, u1 ((exB.getD (ctN (((logL.getD a.toNat 0 : Nat) : Int) - ((logL.getD b.toNat 0 : Nat) : Int))) 0).toNat : Int)), (7, i6 0)] [6, 7] ?_
 exact lfV (.tuple #[u1 ((exB.getD (ctN (((logL.getD a.toNat 0 : Nat) : Int) - ((logL.getD b.toNat 0 : Nat) : Int))) 0).toNat : Int), i6 0]) Env.zero (by ((try simp only [xdiv_0, xdiv_1]); (repeat (first | rw [h3] | rw [h6] | rw [cond_true] | rw [cond_false]))) <;> rfl) [] [(0, 0)] []
set_option maxRecDepth 100000 in
theorem xinv (g : Nat) (b : UInt8) : Con Try.prog 87 #[pt g 0, u1 (b.toNat : Int)] [ob g (rB 255 exB ++ rN 256 logL).toArray 131] [] (fun _ => []) (fun _ => .tuple #[u1 ((xdiv_0 (1 : UInt8) b).toNat : Int), i6 (xdiv_1 b)]) := by
 have hf := Try.func87
 have hE := enters_of hf (by kernel_rfl) rfl
 refine fE hf (fun w cs => ?_) hE
 refine r0 [] [(4, u1 0), (5, i6 0)] [] ?_
 refine r0 [(2, .c [0] [] (xdiv g (1 : UInt8) b))] [(4, u1 ((xdiv_0 (1 : UInt8) b).toNat : Int)), (5, i6 (xdiv_1 b))] [4, 5] ?_
 exact lf Env.zero [] [(0, 0)] []
def xlog_0 (a : UInt8) : Nat := (bif (a.toNat : Int) == 0 then 0 else logL.getD a.toNat 0)
def xlog_1 (a : UInt8) : Int := (bif (a.toNat : Int) == 0 then 16 else 0)
set_option maxRecDepth 100000 in
theorem xlog (g : Nat) (a : UInt8) : Con Try.prog 106 #[pt g 0, u1 (a.toNat : Int)] [ob g (rB 255 exB ++ rN 256 logL).toArray 131] [] (fun _ => []) (fun _ => .tuple #[i6 (((xlog_0 a) : Nat) : Int), i6 (xlog_1 a)]) := by
 have ha := a.toNat_lt
 have hf := Try.func106
 have hE := enters_of hf (by kernel_rfl) rfl
 refine fE hf (fun w cs => ?_) hE
 refine r0 [] [(4, i6 0), (5, i6 0)] [] ?_
 refine r0 [] [(7, .bool ((a.toNat : Int) == 0))] [] ?_
 refine cEq (a.toNat : Int) 0 (fun h3 dh3 => ?_) fun h3 dh3 => ?_
 ·refine r0 [] [(4, i6 0), (5, i6 16)] [4, 5] ?_
  exact lfV (.tuple #[i6 0, i6 16]) Env.zero (by ((try simp only [xlog_0, xlog_1]); (repeat (first | rw [h3] | rw [cond_true] | rw [cond_false]))) <;> rfl) [] [(0, 0)] []
 refine r0 [(4, iA 115 .u8 g 255 256 1 a.toNat), (5, rM (A := (rB 255 exB : List Value)) (C := []) 0 g a.toNat 131 (rB 255 exB ++ rN 256 logL) (by rw [List.append_nil]) rB_ln (rN_get (by omega)))] [(4, i6 ((logL.getD a.toNat 0 : Nat) : Int)), (5, i6 0)] [4, 5] ?_
 exact lfV (.tuple #[i6 ((logL.getD a.toNat 0 : Nat) : Int), i6 0]) Env.zero (by ((try simp only [xlog_0, xlog_1]); (repeat (first | rw [h3] | rw [cond_true] | rw [cond_false]))) <;> rfl) [] [(0, 0)] []
set_option maxRecDepth 100000 in
theorem xpows (g : Nat) (a : UInt8) (n : Int) : Con Try.prog 56 #[pt g 0, u1 (a.toNat : Int), i6 n] [] [] (fun E => [ob (E.blk 0) #[i6 n] 3, ob (E.blk 1) #[pt g 0] 80, ob (E.blk 2) #[u1 (a.toNat : Int)] 5]) (fun E => .func (.func 80) #[] #[pt ((E.blk 0)) 0, pt ((E.blk 1)) 0, pt ((E.blk 2)) 0]) := by
 have hf := Try.func56
 have hE := enters_of hf (by kernel_rfl) rfl
 refine fE hf (fun w cs => ?_) hE
 refine rr (fun _ => []) (fun q1 => [(3, pt ((q1 0).blk 0) 0), (4, pt ((q1 1).blk 0) 0), (5, pt ((q1 2).blk 0) 0), (6, .nilFunc)]) [] (fun q1 L => L ++ [ob ((q1 0).blk 0) #[pt g 0] 80, ob ((q1 1).blk 0) #[u1 (a.toNat : Int)] 5, ob ((q1 2).blk 0) #[i6 n] 3]) fun q1 => ?_
 refine r0 [] [(6, .func (.func 80) #[] #[pt ((q1 2).blk 0) 0, pt ((q1 0).blk 0) 0, pt ((q1 1).blk 0) 0])] [6] ?_
 exact lf (.l [(q1 2).blk 0, (q1 0).blk 0, (q1 1).blk 0] [] []) [2, 0, 1] [] []
def gpw (a : UInt8) : Nat → UInt8
  | 0 => 1
  | k + 1 => gm (gpw a k) a
set_option maxRecDepth 100000 in
theorem xpow_it (bn bf ba g : Nat) (a : UInt8) : IterE 5 Try.prog 80 #[pt bn 0, pt bf 0, pt ba 0] (fun (x : Nat × UInt8) => #[i6 (x.1 : Int), u1 (x.2.toNat : Int)]) ((List.range 4).map fun k => (k, gpw a k)) (List.flatten [[(bn, .cells #[i6 4] 3 (0, 0))], [(bf, .cells #[pt g 0] 80 (0, 0))], [(ba, .cells #[u1 (a.toNat : Int)] 5 (0, 0))], [(g, .cells (rB 255 exB ++ rN 256 logL).toArray 131 (0, 0))]]) := by
 refine gi (KO := [[(bn, .cells #[i6 4] 3 (0, 0))], [(bf, .cells #[pt g 0] 80 (0, 0))], [(ba, .cells #[u1 (a.toNat : Int)] 5 (0, 0))], [(g, .cells (rB 255 exB ++ rN 256 logL).toArray 131 (0, 0))]]) Try.func80 (fun lY JY JX WI RI hJ hY hI => ?_)
 refine r0 [] [(5, u1 1)] [] ?_
 refine r0 [(0, .l 0)] [(8, i6 4), (9, i6 0)] [] ?_
 refine lqI (fun k => k ≤ 4) (fun k => [(5, u1 ((gpw a k).toNat : Int)), (9, i6 (k : Int))]) (fun _ L => L) (fun k => 4 - k) (fun k => k) 0 (by omega) hI (by kernel_rfl) (by kernel_rfl) (fun k R5 W6 hk3 hI4 => ?_)
 refine r0 [] [(10, .bool (decide ((k : Int) < 4)))] [] ?_
 refine cLt (k : Int) 4 (fun h8 dh8 => ?_) fun h8 dh8 => ?_
 ·refine r0 [] [(6, i6 (k : Int))] [] ?_
  refine iy hJ hY hI4 3 (fun _ => []) (fun _ => [(12, .func (.yield lY) #[] #[]), (13, i6 (k : Int)), (14, u1 ((gpw a k).toNat : Int))]) [] (fun _ L => L) (fun _ => []) [0, 1, 2, 3] (range_map_get (by omega)) (fun q10 R11 W12 hI13 => ?_)
  refine cF _ rfl ?_
  refine r0 [(0, .l 1), (2, .l 2), (3, .c [3] [] (xmul g (gpw a k) a))] [(5, u1 ((gm (gpw a k) a).toNat : Int))] [5] ?_
  refine r0 [(0, ad k 1)] [(9, i6 ((k + 1 : Nat) : Int))] [9] ?_
  exact leI (k + 1) (by omega) hI13 (by omega) (by kernel_rfl) [0, 1, 2, 3] (by kernel_rfl)
 obtain rfl : k = 4 := by omega
 refine lxI ?_
 exact ilN hJ hI4 (by rfl) [] [0, 1, 2, 3]
end Go.Proofs.Ytdglhppcfdpcaaa.E
