/- Several texts in one: Hl CoN Hm. -/
import Derived.Test.YtdglhppcfdpcaaaHjA
import Derived.Test.YtdglhppcfdpcaaaHhA
import Derived.Test.YtdglhppcfdpcaaaGw
namespace Go.Proofs.Ytdglhppcfdpcaaa.E
open Go Go.RowKit Go.Shelf
set_option linter.unusedVariables false
set_option linter.unusedSimpArgs false
attribute [local irreducible] pc ones
def xflag_0 (b : Bool) : Int := (bif b then 1 else 0)
set_option maxRecDepth 100000 in
theorem xflag (b : Bool) : Con Try.prog 36 #[.bool b] [] [] (fun _ => []) (fun _ => i6 (xflag_0 b)) := by
 have hf := Try.func36
 have hE := enters_of hf (by kernel_rfl) rfl
 refine fE hf (fun w cs => ?_) hE
 refine r0 [] [(2, i6 0)] [] ?_
 refine r0 [] [(3, .bool b)] [] ?_
 refine cB (b) (fun h3 => ?_) fun h3 => ?_
 ·refine r0 [] [(2, i6 1)] [2] ?_
  exact lfV (i6 1) Env.zero (by ((try simp only [xflag_0]); (repeat (first | rw [h3] | rw [cond_true] | rw [cond_false]))) <;> rfl) [] [] []
 refine r0 [] [(2, i6 0)] [2] ?_
 exact lfV (i6 0) Env.zero (by ((try simp only [xflag_0]); (repeat (first | rw [h3] | rw [cond_true] | rw [cond_false]))) <;> rfl) [] [] []
set_option maxRecDepth 100000 in
theorem xbytes (x : Int) (h0 : -9223372036854775808 ≤ x) (h1 : x ≤ 9223372036854775807) : Con Try.prog 65 #[i6 x] [] [] (fun _ => []) (fun _ => .agg (rB 3 ([u8I x, u8I (x / 256), (u8I (x / 65536)) &&& (127 : UInt8)])).toArray) := by
 have hf := Try.func65
 have hE := enters_of hf (by kernel_rfl) rfl
 refine fE hf (fun w cs => ?_) hE
 refine rr (fun _ => []) (fun q1 => [(2, pt ((q1 0).blk 0) 0)]) [] (fun q1 L => L ++ [ob ((q1 0).blk 0) (rB 3 (List.replicate 3 0)).toArray 93]) fun q1 => ?_
 refine rr (fun _ => [(1, .t (tc (k := .i64) (l := .u8) (a := i6 x) fun _ _ _ hS hT => cvt_u8 hS hT)), (3, .t (tv (sBin .shr 3 (.tmp 5) (.const (u6 8)) (i6 x) (u6 8)) (fun _ => bin_shr_i64 8 (by decide)))), (4, .t (tc (k := .i64) (l := .u8) (a := i6 (x / 256)) fun _ _ _ hS hT => cvt_u8 hS hT)), (6, .t (tv (sBin .shr 3 (.tmp 8) (.const (u6 16)) (i6 x) (u6 16)) (fun _ => bin_shr_i64 16 (by decide)))), (7, .t (tc (k := .i64) (l := .u8) (a := i6 (x / 65536)) fun _ _ _ hS hT => cvt_u8 hS hT)), (8, .t (tb (a := u1 ((u8I (x / 65536)).toNat : Int)) (b := u1 127) fun _ _ _ _ => bin_and_u8 (u8I (x / 65536)) ((127 : UInt8)))), (10, .s 0)]) (fun _ => []) [] (fun _ L => L.set 0 (ob ((q1 0).blk 0) (rB 3 ([u8I x, u8I (x / 256), (u8I (x / 65536)) &&& (127 : UInt8)])).toArray 93)) fun q2 => ?_
 exact lf Env.zero [] [] [0]
def xvirt_0 (x : Int) (b : Bool) : List UInt8 := (bif b then ([u8I x, u8I (x / 256), (u8I (x / 65536)) &&& (127 : UInt8)]).set 2 (((u8I (x / 65536)) &&& (127 : UInt8)) ||| (128 : UInt8)) else [u8I x, u8I (x / 256), (u8I (x / 65536)) &&& (127 : UInt8)])
set_option maxRecDepth 100000 in
theorem xvirt (x : Int) (h0 : -9223372036854775808 ≤ x) (h1 : x ≤ 9223372036854775807) (b : Bool) : Con Try.prog 37 #[i6 x, .bool b] [] [] (fun _ => []) (fun _ => .agg (rB 3 (xvirt_0 x b)).toArray) := by
 have hf := Try.func37
 have hE := enters_of hf (by kernel_rfl) rfl
 refine fE hf (fun w cs => ?_) hE
 refine rr (fun _ => []) (fun q1 => [(4, pt ((q1 0).blk 0) 0)]) [] (fun q1 L => L ++ [ob ((q1 0).blk 0) (rB 3 (List.replicate 3 0)).toArray 93]) fun q1 => ?_
 refine rr (fun _ => [(1, .c [] [] (xbytes x (by omega) (by omega))), (3, .s 1)]) (fun q2 => [(5, pt ((q2 2).blk 0) 0)]) [] (fun q2 L => L ++ [ob ((q2 2).blk 0) (rB 3 ([u8I x, u8I (x / 256), (u8I (x / 65536)) &&& (127 : UInt8)])).toArray 93]) fun q2 => ?_
 refine r0 [] [(8, .bool b)] [] ?_
 refine cJ (b) (fun _ => []) (fun c => [ob ((q1 0).blk 0) (rB 3 (List.replicate 3 0)).toArray 93, ob ((q2 2).blk 0) (rB 3 (bif c then ([u8I x, u8I (x / 256), (u8I (x / 65536)) &&& (127 : UInt8)]).set 2 (((u8I (x / 65536)) &&& (127 : UInt8)) ||| (128 : UInt8)) else [u8I x, u8I (x / 256), (u8I (x / 65536)) &&& (127 : UInt8)])).toArray 93]) (fun h4 => ?_) (fun h4 => ?_) ?_
 ·refine rr (fun _ => [(1, .l 1), (2, .t (tb (a := u1 (((u8I (x / 65536)) &&& (127 : UInt8)).toNat : Int)) (b := u1 128) fun _ _ _ _ => bin_or_u8 ((u8I (x / 65536)) &&& (127 : UInt8)) ((128 : UInt8)))), (4, .m (sw 1 ((q2 2).blk 0) 2 93 (u1 ((((u8I (x / 65536)) &&& (127 : UInt8)) ||| (128 : UInt8)).toNat : Int)) (rB 3 ([u8I x, u8I (x / 256), (u8I (x / 65536)) &&& (127 : UInt8)])).toArray (rB 3 (([u8I x, u8I (x / 256), (u8I (x / 65536)) &&& (127 : UInt8)]).set 2 (((u8I (x / 65536)) &&& (127 : UInt8)) ||| (128 : UInt8)))).toArray (rB_set (show ([u8I x, u8I (x / 256), (u8I (x / 65536)) &&& (127 : UInt8)]).length = 3 by first | rfl | (simp only [List.length_set, List.length_append, List.length_replicate, List.length_cons, List.length_nil, List.length_map, List.length_range, List.length_take, List.length_drop]; done) | (simp only [List.length_set, List.length_append, List.length_replicate, List.length_cons, List.length_nil, List.length_map, List.length_range, List.length_take, List.length_drop]; omega))) (rL_lt (by decide))))]) (fun _ => []) [] (fun _ L => L.set 1 (ob ((q2 2).blk 0) (rB 3 (([u8I x, u8I (x / 256), (u8I (x / 65536)) &&& (127 : UInt8)]).set 2 (((u8I (x / 65536)) &&& (127 : UInt8)) ||| (128 : UInt8)))).toArray 93)) fun q5 => ?_
  exact cm (by kernel_rfl) [0, 1] (by kernel_rfl)
 ·exact cm (by kernel_rfl) [0, 1] (by kernel_rfl)
 refine rr (fun _ => [(0, .l 1), (1, .s 0)]) (fun _ => []) [] (fun _ L => L.set 0 (ob ((q1 0).blk 0) (rB 3 (bif b then ([u8I x, u8I (x / 256), (u8I (x / 65536)) &&& (127 : UInt8)]).set 2 (((u8I (x / 65536)) &&& (127 : UInt8)) ||| (128 : UInt8)) else [u8I x, u8I (x / 256), (u8I (x / 65536)) &&& (127 : UInt8)])).toArray 93)) fun q6 => ?_
 exact lf Env.zero [] [] [0]
theorem cvt_i64u32 {P : Program} {w : World} {S T : TypeId} (hS : P.underlying S = some (.int .i64)) (hT : P.underlying T = some (.int .u32)) {c : Nat} (hc : c < 4294967296) : (convert S T (.int .i64 (c : Int))).run P w = .ok (.int .u32 (c : Int)) w := by
  have h : IntKind.u32.wrap (c : Int) = (c : Int) := by rw [IntKind.wrap_u32]; omega
  simp only [convert, Sem.run_bind, run_underlying hS, run_underlying hT, Result.andThen_ok, Conv.intToInt, h, Sem.run_pure]
theorem mask23 {P : Program} {T : TypeId} {y z : Operand} {w : World} (x : Int) : (sBin .and T y z (.int .i64 x) (.int .i64 8388607)).run P w = .ok (.int .i64 (((x % 8388608).toNat : Nat) : Int)) w := by
  have h := bin_mask_i64 (P := P) (T := T) (y := y) (z := z) (w := w) x 23 8388608 (by decide) (by decide) (by decide) (by decide)
  rw [show (((x % 8388608).toNat : Nat) : Int) = x % ((8388608 : Nat) : Int) by omega]
  exact h
set_option maxRecDepth 100000 in
theorem xpar (x : Int) : Con Try.prog 31 #[i6 x] [] [] (fun _ => []) (fun _ => i6 ((pc ((x % 8388608).toNat) % 2 : Nat) : Int)) := by
 have hf := Try.func31
 have hE := enters_of hf (by kernel_rfl) rfl
 refine fE hf (fun w cs => ?_) hE
 refine r0 [] [(2, i6 0)] [] ?_
 refine r0 [(1, .t (tv (sBin .and 3 (.tmp 3) (.const (i6 8388607)) (i6 x) (i6 8388607)) (fun _ => mask23 x))), (2, .t (tv (convert 3 134 (i6 (((x % 8388608).toNat : Nat) : Int))) (fun _ => cvt_i64u32 Try.underlying3 Try.underlying134 (by omega)))), (3, .c [] [] (xpar32 ((x % 8388608).toNat) (by omega)))] [(2, i6 ((pc ((x % 8388608).toNat) % 2 : Nat) : Int))] [2] ?_
 exact lf Env.zero [] [] []
/-- A number's bytes, the lowest first. -/
def lowL (x : Nat) : Nat → List UInt8
  | 0 => []
  | k + 1 => lowL x k ++ [UInt8.ofNat (x / 256 ^ k)]
theorem lowL_len (x k : Nat) : (lowL x k).length = k := by
  induction k with
  | zero => rfl
  | succ k ih => rw [lowL, List.length_append, ih]; rfl
theorem dpow_succ (x k : Nat) : x / 256 ^ (k + 1) = x / 256 ^ k / 2 ^ 8 := by rw [Nat.pow_succ, Nat.div_div_eq_div_mul]
set_option maxRecDepth 100000 in
theorem xlow (x : Nat) (hx : x < 18446744073709551616) : Con Try.prog 34 #[u6 (x : Int)] [] [] (fun E => [slB (E.val 0) (lowL x 8)]) (fun E => (E.val 0)) := by
 have hf := Try.func34
 have hE := enters_of hf (by kernel_rfl) rfl
 refine fE hf (fun w cs => ?_) hE
 refine r0 [] [(2, .slice none 0 0)] [] ?_
 refine r0 [] [(3, .slice none 0 0)] [] ?_
 refine r0 [] [(4, i6 0)] [] ?_
 refine cz kB ?_
 refine lq1 (fun k _ => k ≤ 8) (fun k vS3 => [(0, u6 ((x / 256 ^ k : Nat) : Int)), (4, i6 (k : Int)), (3, vS3)]) (fun k vS3 L => L.set 0 (slB vS3 (lowL x k))) (fun k _ => 8 - k) 0 (.slice none 0 0) (by omega) (by rw [Nat.pow_zero, Nat.div_one]; kernel_rfl) (by kernel_rfl) (fun k vS3 hk4 => ?_)
 have hll := lowL_len x k
 refine r0 [] [(5, .bool (decide ((k : Int) < 8)))] [] ?_
 refine cLt (k : Int) 8 (fun h6 dh6 => ?_) fun h6 dh6 => ?_
 ·refine rr (fun _ => [(2, .t (tc (k := .u64) (l := .u8) (a := u6 ((x / 256 ^ k : Nat) : Int)) fun _ _ _ hS hT => cvt_u64u8 hS hT)), (3, .m (bs 1 1)), (4, apS1 kB (vS3) (lowL x k) 0 1 ([UInt8.ofNat (x / 256 ^ k)]))]) (fun q7 => [(3, (q7 4).val 0)]) [3] (fun q7 L => L.set 0 (slB ((q7 4).val 0) ((lowL x k) ++ ([UInt8.ofNat (x / 256 ^ k)]))) ++ [ob ((q7 3).blk 0) #[u1 ((UInt8.ofNat (x / 256 ^ k)).toNat : Int)] 5]) fun q7 => ?_
  refine r0 [(1, .t (tv (sBin .shr 87 (.tmp 11) (.const (u6 8)) (u6 ((x / 256 ^ k : Nat) : Int)) (u6 8)) (fun _ => bin_shr_u64 8 (by decide))))] [(0, u6 ((x / 256 ^ k / 2 ^ 8 : Nat) : Int))] [0] ?_
  refine r0 [(0, ad k 1)] [(4, i6 ((k + 1 : Nat) : Int))] [4] ?_
  exact le1 (k + 1) ((q7 4).val 0) (by omega) (by omega) (by rw [dpow_succ x k]; kernel_rfl) [0] (by kernel_rfl)
 obtain rfl : k = 8 := by omega
 refine lx1 ?_
 refine r0 [] [(2, vS3)] [2] ?_
 exact lf (.l [] [] [vS3]) [0] [] []
end Go.Proofs.Ytdglhppcfdpcaaa.E
namespace Go.Proofs.Ytdglhppcfdpcaaa
open Go Go.RowKit Go.Shelf
/-- The number of k bytes of a row, from off on, the lowest first. -/
def numO (xs : List UInt8) (off : Nat) : Nat → Nat
  | 0 => 0
  | k + 1 => numO xs off k ||| (xs.getD (off + k) 0).toNat * 2 ^ (8 * k)
theorem byte_sh {b : UInt8} {k : Nat} (hk : k < 8) : b.toNat * 2 ^ (8 * k) < 18446744073709551616 := by
  have h1 := b.toNat_lt
  have h2 : 2 ^ (8 * k) ≤ 2 ^ 56 := Nat.pow_le_pow_right (by decide) (by omega)
  calc b.toNat * 2 ^ (8 * k) ≤ 255 * 2 ^ 56 := Nat.mul_le_mul (by omega) h2
    _ < 18446744073709551616 := by decide
theorem numO_lt (xs : List UInt8) (off k : Nat) : numO xs off k < 2 ^ (8 * k) := by
  induction k with
  | zero => simp [numO]
  | succ k ih =>
    have h1 := (xs.getD (off + k) 0).toNat_lt
    unfold numO
    refine Nat.or_lt_two_pow (Nat.lt_of_lt_of_le ih (Nat.pow_le_pow_right (by decide) (by omega))) ?_
    rw [show 8 * (k + 1) = 8 + 8 * k by omega, Nat.pow_add]
    exact Nat.mul_lt_mul_of_pos_right (by omega) (Nat.pow_pos (by decide))
theorem numO_add (xs : List UInt8) (off k : Nat) : numO xs off (k + 1) = numO xs off k + 256 ^ k * (xs.getD (off + k) 0).toNat := by
  rw [show numO xs off (k + 1) = numO xs off k ||| (xs.getD (off + k) 0).toNat * 2 ^ (8 * k) from rfl]
  have h := Nat.two_pow_add_eq_or_of_lt (numO_lt xs off k) (xs.getD (off + k) 0).toNat
  rw [Nat.mul_comm, Nat.or_comm, ← h, Nat.add_comm, show (256 : Nat) = 2 ^ 8 from rfl, ← Nat.pow_mul]
theorem numO_lt64 (xs : List UInt8) (off : Nat) {k : Nat} (hk : k ≤ 8) : numO xs off k < 18446744073709551616 := by
  have h1 := numO_lt xs off k
  have h2 : 2 ^ (8 * k) ≤ 2 ^ 64 := Nat.pow_le_pow_right (by decide) (by omega)
  have : (2 : Nat) ^ 64 = 18446744073709551616 := by decide
  omega
/-- A row of N bytes whose first n are told. -/
def fillL (N : Nat) (f : Nat → UInt8) (n : Nat) : List UInt8 := (List.range N).map fun i => if i < n then f i else 0
theorem fillL_len (N : Nat) (f : Nat → UInt8) (n : Nat) : (fillL N f n).length = N := by unfold fillL; rw [List.length_map, List.length_range]
theorem fillL_get {N : Nat} {f : Nat → UInt8} {n i : Nat} (h : i < N) : (fillL N f n).getD i 0 = if i < n then f i else 0 := by
  unfold fillL
  rw [List.getD_eq_getElem?_getD, List.getElem?_map, List.getElem?_range h]
  rfl
theorem fillL_set {N : Nat} {f : Nat → UInt8} {n : Nat} (h : n < N) : (fillL N f n).set n (f n) = fillL N f (n + 1) := by
  apply List.ext_getElem?
  intro i
  rw [List.getElem?_set]
  rcases Nat.lt_or_ge i N with hi | hi
  · unfold fillL
    simp only [List.length_map, List.length_range, List.getElem?_map, List.getElem?_range hi, Option.map_some]
    by_cases e : n = i
    · subst e; rw [if_pos rfl, if_pos h, if_pos (by omega)]
    · rw [if_neg e]
      by_cases e2 : i < n
      · rw [if_pos e2, if_pos (by omega)]
      · rw [if_neg e2, if_neg (by omega)]
  · rw [List.getElem?_eq_none (l := fillL N f (n + 1)) (by rw [fillL_len]; exact hi), List.getElem?_eq_none (l := fillL N f n) (by rw [fillL_len]; exact hi), fillL_len]
    rw [if_neg (by omega)]
theorem fillL_zero (N : Nat) (f : Nat → UInt8) : fillL N f 0 = List.replicate N 0 := by
  apply List.ext_getElem?
  intro i
  rcases Nat.lt_or_ge i N with hi | hi
  · unfold fillL
    simp [hi]
  · rw [List.getElem?_eq_none (by rw [fillL_len]; exact hi), List.getElem?_eq_none (by simpa using hi)]
end Go.Proofs.Ytdglhppcfdpcaaa
namespace Go.Proofs.Ytdglhppcfdpcaaa.E
open Go Go.RowKit Go.Shelf
set_option linter.unusedVariables false
set_option linter.unusedSimpArgs false
theorem numO_s (ys : List UInt8) (k : Nat) : numO ys 0 (k + 1) = numO ys 0 k ||| (ys.getD k 0).toNat * 2 ^ (8 * k) := by rw [numO, Nat.zero_add]
theorem numO_o (ys : List UInt8) (o k : Nat) : numO ys o (k + 1) = numO ys o k ||| (ys.getD (o + k) 0).toNat * 2 ^ (8 * k) := rfl
theorem numO_0 (ys : List UInt8) (o : Nat) : numO ys o 0 = 0 := rfl
theorem or_s {P : Program} {T : TypeId} {x y : Operand} {w : World} {ys : List UInt8} {k : Nat} (hk : k < 8) : (sBin .or T x y (.int .u64 ((numO ys 0 k : Nat) : Int)) (.int .u64 (((ys.getD k 0).toNat * 2 ^ (8 * k) : Nat) : Int))).run P w = .ok (.int .u64 ((numO ys 0 (k + 1) : Nat) : Int)) w := by
  rw [numO_s]; exact bin_or_u64 (numO_lt64 _ _ (by omega)) (byte_sh hk)
theorem or_o {P : Program} {T : TypeId} {x y : Operand} {w : World} {ys : List UInt8} {o k : Nat} (hk : k < 8) : (sBin .or T x y (.int .u64 ((numO ys o k : Nat) : Int)) (.int .u64 (((ys.getD (o + k) 0).toNat * 2 ^ (8 * k) : Nat) : Int))).run P w = .ok (.int .u64 ((numO ys o (k + 1) : Nat) : Int)) w := by
  rw [numO_o]; exact bin_or_u64 (numO_lt64 _ _ (by omega)) (byte_sh hk)
attribute [local irreducible] numO
set_option maxRecDepth 100000 in
theorem xnum (v : Value) (ys : List UInt8) (hy : ys.length = 8) : Con Try.prog 91 #[v] [.p (SqE eB v ys)] [] (fun _ => []) (fun _ => u6 ((numO ys 0 8 : Nat) : Int)) := by
 have hf := Try.func91
 have hE := enters_of hf (by kernel_rfl) rfl
 refine Con.ro 0 rfl (fun bq0 hq0 => ?_) hE
 refine fE hf (fun w cs => ?_) hE
 refine r0 [] [(2, u6 0)] [] ?_
 refine r0 [] [(3, u6 0)] [] ?_
 refine r0 [(1, lnR hq0.1 0)] [(6, v), (7, i6 (ys.length : Int)), (8, i6 0)] [] ?_
 refine lq (fun k => k ≤ 8) (fun k => [(3, u6 ((numO ys 0 k : Nat) : Int)), (8, i6 (k : Int))]) (fun _ L => L) (fun k => 8 - k) 0 (by omega) (by rw [numO_0]; kernel_rfl) (by kernel_rfl) (fun k hk4 => ?_)
 refine r0 [] [(9, .bool (decide ((k : Int) < (ys.length : Int))))] [] ?_
 refine cLt (k : Int) (ys.length : Int) (fun h6 dh6 => ?_) fun h6 dh6 => ?_
 ·refine r0 [(1, ixR hq0.1 0 k 1), (2, gtR kB hq0.1 0 k 0)] [(4, i6 (k : Int)), (5, u1 ((ys.getD k 0).toNat : Int))] [] ?_
  refine r0 [(2, .t (tc (k := .u8) (l := .u64) (a := u1 ((ys.getD k 0).toNat : Int)) fun _ _ _ hS hT => cvt_u8u64 hS hT)), (4, ml 8 k), (5, .t (tv (convert 3 112 (i6 ((8 * k : Nat) : Int))) (fun _ => cvt_i64u Try.underlying3 Try.underlying112 (by omega)))), (6, .t (tv (sBin .shl 87 (.tmp 15) (.tmp 18) (u6 ((ys.getD k 0).toNat : Int)) (u6 ((8 * k : Nat) : Int))) (fun _ => bin_shl_u64 (8 * k) (by omega) (byte_sh (by omega))))), (7, .t (tv (sBin .or 87 (.tmp 13) (.tmp 19) (u6 ((numO ys 0 k : Nat) : Int)) (u6 (((ys.getD k 0).toNat * 2 ^ (8 * k) : Nat) : Int))) (fun _ => or_s (by omega))))] [(3, u6 ((numO ys 0 (k + 1) : Nat) : Int))] [3] ?_
  refine r0 [(0, ad k 1)] [(8, i6 ((k + 1 : Nat) : Int))] [8] ?_
  exact le (k + 1) (by omega) (by omega) (by kernel_rfl) [0] (by kernel_rfl)
 obtain rfl : k = 8 := by omega
 refine lx ?_
 refine r0 [] [(2, u6 ((numO ys 0 8 : Nat) : Int))] [2] ?_
 exact lf Env.zero [] [(0, 0)] []
set_option maxRecDepth 100000 in
theorem xword (l : List UInt8) (hl : l.length = 64) (q : Nat) (hq : q < 8) : Con Try.prog 62 #[.agg (rB 64 l).toArray, i6 (q : Int)] [] [] (fun _ => []) (fun _ => u6 ((numO l (8 * q) 8 : Nat) : Int)) := by
 have hf := Try.func62
 have hE := enters_of hf (by kernel_rfl) rfl
 refine fE hf (fun w cs => ?_) hE
 refine rr (fun _ => []) (fun q1 => [(2, pt ((q1 0).blk 0) 0), (4, u6 0)]) [] (fun q1 L => L ++ [ob ((q1 0).blk 0) (rB 64 l).toArray 48]) fun q1 => ?_
 refine r0 [] [(5, u6 0)] [] ?_
 refine r0 [] [(7, i6 0)] [] ?_
 refine lq (fun k => k ≤ 8) (fun k => [(5, u6 ((numO l (8 * q) k : Nat) : Int)), (7, i6 (k : Int))]) (fun _ L => L) (fun k => 8 - k) 0 (by omega) (by rw [numO_0]; kernel_rfl) (by kernel_rfl) (fun k hk4 => ?_)
 refine r0 [] [(8, .bool (decide ((k : Int) < 8)))] [] ?_
 refine cLt (k : Int) 8 (fun h6 dh6 => ?_) fun h6 dh6 => ?_
 ·refine r0 [] [(6, i6 (k : Int))] [] ?_
  refine r0 [(0, .v (u6 ((numO l (8 * q) k : Nat) : Int))), (1, .v (i6 (q : Int))), (2, ml 8 q), (3, .v (i6 (k : Int))), (4, ad (8 * q) k), (5, iA 48 .i64 ((q1 0).blk 0) 0 64 1 ((8 * q) + k)), (6, rD 0 ((q1 0).blk 0) ((8 * q) + k) 48 (rB 64 l) (rB_get (by omega))), (7, .t (tc (k := .u8) (l := .u64) (a := u1 ((l.getD ((8 * q) + k) 0).toNat : Int)) fun _ _ _ hS hT => cvt_u8u64 hS hT)), (8, .v (i6 (k : Int))), (9, ml 8 k), (10, .t (tv (convert 3 112 (i6 ((8 * k : Nat) : Int))) (fun _ => cvt_i64u Try.underlying3 Try.underlying112 (by omega)))), (11, .t (tv (sBin .shl 87 (.tmp 17) (.tmp 20) (u6 ((l.getD ((8 * q) + k) 0).toNat : Int)) (u6 ((8 * k : Nat) : Int))) (fun _ => bin_shl_u64 (8 * k) (by omega) (byte_sh (by omega))))), (12, .t (tv (sBin .or 87 (.tmp 10) (.tmp 21) (u6 ((numO l (8 * q) k : Nat) : Int)) (u6 (((l.getD (8 * q + k) 0).toNat * 2 ^ (8 * k) : Nat) : Int))) (fun _ => or_o (by omega)))), (13, .v (u6 ((numO l (8 * q) (k + 1) : Nat) : Int)))] [(5, u6 ((numO l (8 * q) (k + 1) : Nat) : Int))] [5] ?_
  refine r0 [(0, ad k 1)] [(7, i6 ((k + 1 : Nat) : Int))] [7] ?_
  exact le (k + 1) (by omega) (by omega) (by kernel_rfl) [0] (by kernel_rfl)
 obtain rfl : k = 8 := by omega
 refine lx ?_
 refine r0 [] [(4, u6 ((numO l (8 * q) 8 : Nat) : Int))] [4] ?_
 exact lf Env.zero [] [] []
set_option maxRecDepth 100000 in
theorem xwords_it (b : Nat) (l : List UInt8) (hl : l.length = 64) : IterE 5 Try.prog 61 #[pt b 0] (fun (x : Nat × Nat) => #[i6 (x.1 : Int), u6 (x.2 : Int)]) ((List.range 8).map fun k => (k, numO l (8 * k) 8)) (List.flatten [[(b, .cells (rB 64 l).toArray 48 (0, 0))]]) := by
 refine gi (KO := [[(b, .cells (rB 64 l).toArray 48 (0, 0))]]) Try.func61 (fun lY JY JX WI RI hJ hY hI => ?_)
 refine r0 [] [(4, i6 0)] [] ?_
 refine lqI (fun k => k ≤ 8) (fun k => [(4, i6 (k : Int))]) (fun _ L => L) (fun k => 8 - k) (fun k => k) 0 (by omega) hI (by kernel_rfl) (by kernel_rfl) (fun k R4 W5 hk2 hI3 => ?_)
 refine r0 [] [(5, .bool (decide ((k : Int) < 8)))] [] ?_
 refine cLt (k : Int) 8 (fun h7 dh7 => ?_) fun h7 dh7 => ?_
 ·refine r0 [] [(3, i6 (k : Int))] [] ?_
  refine iy hJ hY hI3 5 (fun _ => [(2, .l 0), (4, .c [] [] (xword l (by first | rfl | (simp only [List.length_set, List.length_append, List.length_replicate, List.length_cons, List.length_nil, List.length_map, List.length_range, List.length_take, List.length_drop, hl]; done) | (simp only [List.length_set, List.length_append, List.length_replicate, List.length_cons, List.length_nil, List.length_map, List.length_range, List.length_take, List.length_drop, hl]; omega)) k (by omega)))]) (fun _ => [(7, .func (.yield lY) #[] #[]), (8, i6 (k : Int)), (11, u6 ((numO l (8 * k) 8 : Nat) : Int))]) [] (fun _ L => L) (fun _ => []) [0] (range_map_get (by omega)) (fun q9 R10 W11 hI12 => ?_)
  refine cF _ rfl ?_
  refine r0 [(0, ad k 1)] [(4, i6 ((k + 1 : Nat) : Int))] [4] ?_
  exact leI (k + 1) (by omega) hI12 (by omega) (by kernel_rfl) [0] (by kernel_rfl)
 obtain rfl : k = 8 := by omega
 refine lxI ?_
 exact ilN hJ hI3 (by rfl) [] [0]
set_option maxRecDepth 100000 in
theorem xwords (l : List UInt8) (hl : l.length = 64) : Con Try.prog 32 #[.agg (rB 64 l).toArray] [] [] (fun E => [ob (E.blk 0) (rB 64 l).toArray 48]) (fun E => .func (.func 61) #[] #[pt ((E.blk 0)) 0]) := by
 have hf := Try.func32
 have hE := enters_of hf (by kernel_rfl) rfl
 refine fE hf (fun w cs => ?_) hE
 refine rr (fun _ => []) (fun q1 => [(1, pt ((q1 0).blk 0) 0), (2, .nilFunc)]) [] (fun q1 L => L ++ [ob ((q1 0).blk 0) (rB 64 l).toArray 48]) fun q1 => ?_
 refine r0 [] [(2, .func (.func 61) #[] #[pt ((q1 0).blk 0) 0])] [2] ?_
 exact lf (.l [(q1 0).blk 0] [] []) [0] [] []
set_option maxRecDepth 100000 in
theorem xhalves (l : List UInt8) (hl : l.length = 64) : Con Try.prog 38 #[.agg (rB 64 l).toArray] [] [] (fun E => [ob (E.blk 0) (rB 64 l).toArray 48]) (fun E => .func (.func 66) #[] #[pt ((E.blk 0)) 0]) := by
 have hf := Try.func38
 have hE := enters_of hf (by kernel_rfl) rfl
 refine fE hf (fun w cs => ?_) hE
 refine rr (fun _ => []) (fun q1 => [(1, pt ((q1 0).blk 0) 0), (2, .nilFunc)]) [] (fun q1 L => L ++ [ob ((q1 0).blk 0) (rB 64 l).toArray 48]) fun q1 => ?_
 refine r0 [] [(2, .func (.func 66) #[] #[pt ((q1 0).blk 0) 0])] [2] ?_
 exact lf (.l [(q1 0).blk 0] [] []) [0] [] []
set_option maxRecDepth 100000 in
theorem xhalves_it (b : Nat) (l : List UInt8) (hl : l.length = 64) : IterE 5 Try.prog 66 #[pt b 0] (fun (x : Nat × List UInt8) => #[i6 (x.1 : Int), .agg (rB 32 x.2).toArray]) ((List.range 2).map fun k => (k, (l.drop (32 * k)).take 32)) (List.flatten [[(b, .cells (rB 64 l).toArray 48 (0, 0))]]) := by
 refine gi (KO := [[(b, .cells (rB 64 l).toArray 48 (0, 0))]]) Try.func66 (fun lY JY JX WI RI hJ hY hI => ?_)
 refine r0 [] [(4, i6 0)] [] ?_
 refine lqI (fun k => k ≤ 2) (fun k => [(4, i6 (k : Int))]) (fun _ L => L) (fun k => 2 - k) (fun k => k) 0 (by omega) hI (by kernel_rfl) (by kernel_rfl) (fun k R4 W5 hk2 hI3 => ?_)
 refine r0 [] [(5, .bool (decide ((k : Int) < 2)))] [] ?_
 refine cLt (k : Int) 2 (fun h7 dh7 => ?_) fun h7 dh7 => ?_
 ·refine r0 [] [(3, i6 (k : Int))] [] ?_
  refine iy hJ hY hI3 7 (fun _ => [(3, ml 32 k), (4, aL 48 b 64 1 (32 * k)), (5, .t (tv (Instr.arrayAt 98 (.slice (some ⟨b, (32 * k) * 1, none⟩) (64 - (32 * k)) (64 - (32 * k)))) (fun _ => run_arrayAt _ 98 5 32 _ _ _ Try.underlying98 (by omega)))), (6, .m (lg 0 b ((32 * k) * 1) (rB 64 l).toArray 48 (rB 32 ((l.drop (32 * k)).take 32)) (rL_subrow (fun _ => rfl) hl (by omega))))]) (fun _ => [(7, .func (.yield lY) #[] #[]), (8, i6 (k : Int)), (13, .agg (rB 32 ((l.drop (32 * k)).take 32)).toArray)]) [] (fun _ L => L) (fun _ => []) [0] (range_map_get (by omega)) (fun q9 R10 W11 hI12 => ?_)
  refine cF _ rfl ?_
  refine r0 [(0, ad k 1)] [(4, i6 ((k + 1 : Nat) : Int))] [4] ?_
  exact leI (k + 1) (by omega) hI12 (by omega) (by kernel_rfl) [0] (by kernel_rfl)
 obtain rfl : k = 2 := by omega
 refine lxI ?_
 exact ilN hJ hI3 (by rfl) [] [0]
end Go.Proofs.Ytdglhppcfdpcaaa.E
