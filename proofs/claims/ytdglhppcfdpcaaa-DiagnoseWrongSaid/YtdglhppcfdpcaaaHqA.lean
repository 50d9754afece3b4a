/- Several texts in one: Hq Hq2. -/
import Derived.Test.YtdglhppcfdpcaaaHnA
import Derived.Test.YtdglhppcfdpcaaaGx
namespace Go.Proofs.Ytdglhppcfdpcaaa.E
open Go Go.RowKit Go.Shelf
set_option linter.unusedVariables false
set_option linter.unusedSimpArgs false
def kI : Kd Try.prog Int := ⟨eI, [i6 0], 22, 3, 0, 1, fun _ => rfl, rfl, fun _ => rfl, SlT.mk' (by kernel_rfl) (by kernel_rfl) rfl⟩
/-- Verdicts put together. -/
def jK (l : List Int) : Int := l.foldl max 0
def jF (l : List Int) : Int := l.foldl (fun a k => a + xflag_0 (k == 1)) 0
theorem take_succD {l : List Int} {k : Nat} (h : k < l.length) : l.take (k + 1) = l.take k ++ [l.getD k 0] := by
  rw [List.take_add_one, List.getElem?_eq_getElem h, List.getD_eq_getElem?_getD, List.getElem?_eq_getElem h]
  rfl
theorem jK_snoc (l : List Int) (x : Int) : jK (l ++ [x]) = max (jK l) x := by unfold jK; rw [List.foldl_append]; rfl
theorem jF_snoc (l : List Int) (x : Int) : jF (l ++ [x]) = jF l + xflag_0 (x == 1) := by unfold jF; rw [List.foldl_append]; rfl
theorem xflag_bd (b : Bool) : 0 ≤ xflag_0 b ∧ xflag_0 b ≤ 1 := by cases b <;> decide
theorem jF_bd (l : List Int) : 0 ≤ jF l ∧ jF l ≤ l.length := by
  suffices h : ∀ (l : List Int) (a : Int), a ≤ l.foldl (fun a k => a + xflag_0 (k == 1)) a ∧ l.foldl (fun a k => a + xflag_0 (k == 1)) a ≤ a + l.length by
    have := h l 0
    unfold jF
    omega
  intro l
  induction l with
  | nil => intro a; simp
  | cons x l ih =>
    intro a
    have h1 := ih (a + xflag_0 (x == 1))
    have h2 := xflag_bd (x == 1)
    rw [List.foldl_cons, List.length_cons]
    push_cast
    omega
theorem jK_s {l : List Int} {k : Nat} (h : k < l.length) : jK (l.take (k + 1)) = max (jK (l.take k)) (l.getD k 0) := by rw [take_succD h, jK_snoc]
theorem jF_s {l : List Int} {k : Nat} (h : k < l.length) : jF (l.take (k + 1)) = jF (l.take k) + xflag_0 (l.getD k 0 == 1) := by rw [take_succD h, jF_snoc]
attribute [local irreducible] jK jF xflag_0
def xjoin_0 (ks : List Int) : Int := (bif (jK ks) != 1 then 0 else (jF ks))
set_option maxRecDepth 100000 in
theorem xjoin (v : Value) (ks : List Int) (hk : ks.length ≤ 1000) : Con Try.prog 42 #[v] [.p (SqE eI v ks)] [] (fun _ => []) (fun _ => .agg #[i6 (jK ks), i6 (xjoin_0 ks)]) := by
 have hf := Try.func42
 have hE := enters_of hf (by kernel_rfl) rfl
 refine Con.ro 0 rfl (fun bq0 hq0 => ?_) hE
 refine fE hf (fun w cs => ?_) hE
 refine rr (fun _ => []) (fun q1 => [(2, pt ((q1 0).blk 0) 0)]) [] (fun q1 L => L ++ [ob ((q1 0).blk 0) #[i6 0, i6 0] 55]) fun q1 => ?_
 refine rr (fun _ => []) (fun q2 => [(3, pt ((q2 0).blk 0) 0)]) [] (fun q2 L => L ++ [ob ((q2 0).blk 0) #[i6 0, i6 0] 55]) fun q2 => ?_
 refine r0 [(1, lnR hq0.1 0)] [(6, v), (7, i6 (ks.length : Int)), (8, i6 0)] [] ?_
 refine lq (fun k => k ≤ ks.length) (fun k => [(8, i6 (k : Int))]) (fun k L => L.set 2 (ob ((q2 0).blk 0) #[i6 (jK (ks.take k)), i6 (jF (ks.take k))] 55)) (fun k => ks.length - k) 0 (by omega) (by kernel_rfl) (by rw [List.take_zero, show jK [] = 0 by unfold jK; rfl, show jF [] = 0 by unfold jF; rfl]; kernel_rfl) (fun k hk4 => ?_)
 have hjf := jF_bd (ks.take k)
 have hjl : (ks.take k).length ≤ k := by rw [List.length_take]; omega
 have hjx := xflag_bd (ks.getD k 0 == 1)
 refine r0 [] [(9, .bool (decide ((k : Int) < (ks.length : Int))))] [] ?_
 refine cLt (k : Int) (ks.length : Int) (fun h6 dh6 => ?_) fun h6 dh6 => ?_
 ·refine r0 [(0, ixR hq0.1 0 k 1), (1, gtR kI hq0.1 0 k 0)] [(5, i6 (ks.getD k 0))] [] ?_
  refine rr (fun _ => [(1, .l 2), (3, .t (tv (Builtin.max_ #[3, 3] 3 #[i6 (jK (ks.take k)), i6 (ks.getD k 0)]) (fun _ => run_maxI _ _ _ _))), (5, .s 2)]) (fun _ => []) [] (fun _ L => L.set 2 (ob ((q2 0).blk 0) #[i6 (max (jK (ks.take k)) (ks.getD k 0)), i6 (jF (ks.take k))] 55)) fun q8 => ?_
  refine rr (fun _ => [(1, .l 2), (4, .c [] [] (xflag ((ks.getD k 0) == 1))), (5, aI (jF (ks.take k)) ((xflag_0 ((ks.getD k 0) == 1))) (by omega)), (7, .s 2)]) (fun _ => []) [] (fun _ L => L.set 2 (ob ((q2 0).blk 0) #[i6 (max (jK (ks.take k)) (ks.getD k 0)), i6 ((jF (ks.take k)) + (xflag_0 ((ks.getD k 0) == 1)))] 55)) fun q9 => ?_
  refine r0 [(0, ad k 1)] [(8, i6 ((k + 1 : Nat) : Int))] [8] ?_
  exact le (k + 1) (by omega) (by omega) (by kernel_rfl) [0, 1, 2] (by rw [jK_s (by omega), jF_s (by omega)]; kernel_rfl)
 obtain rfl : k = ks.length := by omega
 refine cl [.c bq0, ob ((q1 0).blk 0) #[i6 0, i6 0] 55, ob ((q2 0).blk 0) #[i6 (jK ks), i6 (jF ks)] 55] (by rw [List.take_length]; kernel_rfl) ?_
 refine lx ?_
 refine r0 [(1, .l 2)] [(27, .bool ((jK ks) != 1))] [] ?_
 refine cJ ((jK ks) != 1) (fun _ => []) (fun c => [.c bq0, ob ((q1 0).blk 0) #[i6 0, i6 0] 55, ob ((q2 0).blk 0) #[i6 (jK ks), i6 (bif c then 0 else (jF ks))] 55]) (fun h12 => ?_) (fun h12 => ?_) ?_
 ·have dh12 := bne_iff_ne.1 h12
  refine rr (fun _ => [(1, .s 2)]) (fun _ => []) [] (fun _ L => L.set 2 (ob ((q2 0).blk 0) #[i6 (jK ks), i6 0] 55)) fun q13 => ?_
  exact cm (by kernel_rfl) [0, 1, 2] (by kernel_rfl)
 ·have dh12 := eq_of_bne_false h12
  exact cm (by kernel_rfl) [0, 1, 2] (by kernel_rfl)
 refine rr (fun _ => [(0, .l 2), (1, .s 1)]) (fun _ => []) [] (fun _ L => L.set 1 (ob ((q1 0).blk 0) #[i6 (jK ks), i6 (bif (jK ks) != 1 then 0 else (jF ks))] 55)) fun q14 => ?_
 exact lf Env.zero [] [(0, 0)] [1]
/-- Halves put together. -/
def halfT (h : List UInt8) (k : Nat) : List UInt8 := h.take (32 * k) ++ List.replicate (64 - 32 * k) 0
theorem halfT_len {h : List UInt8} (hh : h.length = 64) {k : Nat} (hk : k ≤ 2) : (halfT h k).length = 64 := by unfold halfT; rw [List.length_append, List.length_take, List.length_replicate, hh]; omega
theorem halfT_zero (h : List UInt8) : halfT h 0 = List.replicate 64 0 := rfl
theorem halfT_two {h : List UInt8} (hh : h.length = 64) : halfT h 2 = h := by unfold halfT; rw [List.take_of_length_le (by omega), show 64 - 32 * 2 = 0 from rfl, List.replicate_zero, List.append_nil]
theorem halfT_succ {h : List UInt8} (hh : h.length = 64) {k : Nat} (hk : k < 2) : (halfT h k).take (32 * k) ++ (h.drop (k * 32)).take 32 ++ (halfT h k).drop (32 * k + 32) = halfT h (k + 1) := by
  unfold halfT
  have h1 : (h.take (32 * k)).length = 32 * k := by rw [List.length_take]; omega
  rw [List.take_left' h1, ← List.drop_drop, List.drop_left' h1, List.drop_replicate, Nat.mul_comm k 32, ← List.take_add, show 32 * k + 32 = 32 * (k + 1) by omega, show 64 - 32 * k - 32 = 64 - 32 * (k + 1) by omega]
attribute [local irreducible] halfT
set_option maxRecDepth 100000 in
theorem xfromh (h : List UInt8) (hh : h.length = 64) : Con Try.prog 72 #[.agg (rB 64 h).toArray] [] [] (fun _ => []) (fun _ => .agg (rB 64 h).toArray) := by
 have hf := Try.func72
 have hE := enters_of hf (by kernel_rfl) rfl
 refine fE hf (fun w cs => ?_) hE
 refine rr (fun _ => []) (fun q1 => [(1, pt ((q1 0).blk 0) 0), (2, pt ((q1 1).blk 0) 0)]) [] (fun q1 L => L ++ [ob ((q1 0).blk 0) (rB 64 h).toArray 148, ob ((q1 1).blk 0) (rB 64 (List.replicate 64 0)).toArray 48]) fun q1 => ?_
 refine rr (fun _ => []) (fun q2 => [(3, pt ((q2 0).blk 0) 0)]) [] (fun q2 L => L ++ [ob ((q2 0).blk 0) (rB 64 (List.replicate 64 0)).toArray 48]) fun q2 => ?_
 refine r0 [(0, .l 0)] [(6, .agg (rB 64 h).toArray), (7, i6 0)] [] ?_
 refine lq (fun k => k ≤ 2) (fun k => [(7, i6 (k : Int))]) (fun k L => L.set 2 (ob ((q2 0).blk 0) (rB 64 (halfT h k)).toArray 48)) (fun k => 2 - k) 0 (by omega) (by kernel_rfl) (by rw [halfT_zero]; kernel_rfl) (fun k hk4 => ?_)
 have HTL := halfT_len hh hk4
 refine r0 [] [(8, .bool (decide ((k : Int) < 2)))] [] ?_
 refine cLt (k : Int) 2 (fun h6 dh6 => ?_) fun h6 dh6 => ?_
 ·refine rr (fun _ => [(1, .t (tv (Instr.index 148 (.agg (rB 64 h).toArray) (i6 (k : Int))) (fun _ => index_sub (n := 2) (m := 32) (N := 64) (e := 98) (by kernel_rfl) (fun _ => rfl) (by omega) rfl hh))), (4, .s 3)]) (fun q7 => [(5, pt ((q7 2).blk 0) 0), (4, i6 (k : Int))]) [] (fun q7 L => L ++ [ob ((q7 2).blk 0) (rB 32 ((h.drop (k * 32)).take 32)).toArray 98]) fun q7 => ?_
  refine rr (fun _ => [(1, ml 32 k), (2, aL 48 ((q2 0).blk 0) 64 1 (32 * k)), (3, aS 98 ((q7 2).blk 0) 32 1), (4, .m (cpS kB 2 ((q2 0).blk 0) ((32 * k) * 1) (64 - (32 * k)) (64 - (32 * k)) (rB 64 (halfT h k)).toArray (rB 64 ((halfT h k).take (32 * k) ++ ((h.drop (k * 32)).take 32) ++ (halfT h k).drop ((32 * k) + 32))).toArray 48 89 89 3 (ob ((q7 2).blk 0) (rB 32 ((h.drop (k * 32)).take 32)).toArray 98) (.slice (some ⟨(q7 2).blk 0, 0, none⟩) 32 32) ((h.drop (k * 32)).take 32) (fun _ h => by rw [show _ = _ from h]; exact row_src (fun _ => rfl) (by rw [List.length_take, List.length_drop, hh]; omega)) (by rw [(show ((h.drop (k * 32)).take 32).length = 32 from (by rw [List.length_take, List.length_drop, hh]; omega))]; omega) (by rw [List.size_toArray, rB_ln]; rw [(show ((h.drop (k * 32)).take 32).length = 32 from (by rw [List.length_take, List.length_drop, hh]; omega))]; omega) (by rw [Nat.mul_one]; exact congrArg List.toArray (rL_splice (d := 0) (fun _ => rfl) (show (halfT h k).length = 64 by first | rfl | (simp only [List.length_set, List.length_append, List.length_replicate, List.length_cons, List.length_nil, List.length_map, List.length_range, List.length_take, List.length_drop, HTL, hh]; done) | (simp only [List.length_set, List.length_append, List.length_replicate, List.length_cons, List.length_nil, List.length_map, List.length_range, List.length_take, List.length_drop, HTL, hh]; omega)) (show ((h.drop (k * 32)).take 32).length = 32 from (by rw [List.length_take, List.length_drop, hh]; omega)) (by omega)))))]) (fun _ => []) [] (fun _ L => L.set 2 (ob ((q2 0).blk 0) (rB 64 ((halfT h k).take (32 * k) ++ ((h.drop (k * 32)).take 32) ++ (halfT h k).drop ((32 * k) + 32))).toArray 48)) fun q8 => ?_
  refine r0 [(0, ad k 1)] [(7, i6 ((k + 1 : Nat) : Int))] [7] ?_
  exact le (k + 1) (by omega) (by omega) (by kernel_rfl) [0, 1, 2] (by rw [← halfT_succ hh (by omega)]; kernel_rfl)
 obtain rfl : k = 2 := by omega
 refine cl [ob ((q1 0).blk 0) (rB 64 h).toArray 148, ob ((q1 1).blk 0) (rB 64 (List.replicate 64 0)).toArray 48, ob ((q2 0).blk 0) (rB 64 h).toArray 48] (by rw [halfT_two hh]; kernel_rfl) ?_
 refine lx ?_
 refine rr (fun _ => [(0, .l 2), (1, .s 1)]) (fun _ => []) [] (fun _ L => L.set 1 (ob ((q1 1).blk 0) (rB 64 h).toArray 48)) fun q10 => ?_
 exact lf Env.zero [] [] [1]
theorem numO_take (ys : List UInt8) : ∀ k, k ≤ 8 → numO (ys.take 8) 0 k = numO ys 0 k
  | 0, _ => rfl
  | k + 1, h => by
    rw [numO_s, numO_s, numO_take ys k (by omega)]
    rw [show (ys.take 8).getD k 0 = ys.getD k 0 by rw [List.getD_eq_getElem?_getD, List.getD_eq_getElem?_getD, List.getElem?_take_of_lt (by omega)]]
theorem numT (v : Value) (ys : List UInt8) (hy : 8 ≤ ys.length) : Con Try.prog 91 #[sbV v 0 8 1] [.p (SqE eB v ys)] [] (fun _ => []) (fun _ => .int .u64 ((numO ys 0 8 : Nat) : Int)) := by
  rw [← numO_take ys 8 (Nat.le_refl _)]
  exact Con.at (xnum (sbV v 0 8 1) (ys.take 8) (by rw [List.length_take]; omega)) (atW (fun _ h => SqE.take (en := eB) (k := 1) (fun _ => rfl) h hy) fun _ h => h)
attribute [local irreducible] xhcla_0 xhcla_1 xhchk_0 xhdec_0 numO decL synL
def htL : List Int := [-1, 64, 65, -1, 66, -1, -1, 0, 67, -1, -1, 1, -1, 2, 3, -1, 68, -1, -1, 4, -1, 5, 6, -1, -1, 7, 8, -1, 9, -1, -1, 56, 69, -1, -1, 10, -1, 11, 12, -1, -1, 13, 14, -1, 15, -1, -1, 57, -1, 16, 17, -1, 18, -1, -1, 58, 19, -1, -1, 59, -1, 60, 61, -1, 70, -1, -1, 20, -1, 21, 22, -1, -1, 23, 24, -1, 25, -1, -1, 62, -1, 26, 27, -1, 28, -1, -1, 63, 29, -1, -1, 72, -1, 73, -1, -1, -1, 30, 31, -1, 32, -1, -1, -1, 33, -1, -1, -1, -1, -1, -1, -1, 34, -1, -1, -1, -1, -1, -1, -1, -1, -1, -1, -1, -1, -1, -1, -1, 71, -1, -1, 35, -1, 36, 37, -1, -1, 38, 39, -1, 40, -1, -1, -1, -1, 41, 42, -1, 43, -1, -1, -1, 44, -1, -1, -1, -1, -1, -1, -1, -1, 45, 46, -1, 47, -1, -1, -1, 48, -1, -1, -1, -1, -1, -1, -1, 49, -1, -1, -1, -1, -1, -1, -1, -1, -1, -1, -1, -1, -1, -1, -1, -1, 50, 51, -1, 52, -1, -1, -1, 53, -1, -1, -1, -1, -1, -1, -1, 54, -1, -1, -1, -1, -1, -1, -1, -1, -1, -1, -1, -1, -1, -1, -1, 55, -1, -1, -1, -1, -1, -1, -1, -1, -1, -1, -1, -1, -1, -1, -1, -1, -1, -1, -1, -1, -1, -1, -1, -1, -1, -1, -1, -1, -1, -1, -1]
theorem htD_eq : htD 10 = htL := by decide +kernel
/-- Places of bits are told where the table says so. -/
theorem hp : ∀ k : UInt8, (xhcla_0 k (htD 10) == 1) = true → 0 ≤ xhcla_1 k (htD 10) := by
  have h : ∀ n : Nat, n < 256 → (xhcla_0 (UInt8.ofNat n) htL == 1) = true → 0 ≤ xhcla_1 (UInt8.ofNat n) htL := by decide +kernel
  intro k
  have := h k.toNat k.toNat_lt
  rw [htD_eq]
  rwa [UInt8.ofNat_toNat] at this
theorem xvirt_len (x : Int) (b : Bool) : (xvirt_0 x b).length = 3 := by cases b <;> rfl
theorem bif_drop {b : Bool} {X Y : List UInt8} (hX : X.length = 36) (hY : Y.length = 36) : (bif b then X.drop 4 else Y.drop 4).length = 32 := by cases b <;> simp [hX, hY]
theorem decL_len {d v : List UInt8} (hd : d.length = 36) : (decL d v).length = 32 := by unfold decL; exact bif_drop (by rw [List.length_set]; exact hd) hd
attribute [local irreducible] hcD htD genL exB logL xvirt_0 rsLk rsLp rsLv
def xbits_0 (ys : List UInt8) (x : Int) : Int := (bif (xhcla_0 ((xhchk_0 (numO ys 0 8) ((pc ((x % 8388608).toNat) % 2 : Nat) : Int) 0 (hcD 10)) ^^^ (ys.getD 8 0)) (htD 10)) == 0 then 0 else (bif (xhcla_0 ((xhchk_0 (numO ys 0 8) ((pc ((x % 8388608).toNat) % 2 : Nat) : Int) 0 (hcD 10)) ^^^ (ys.getD 8 0)) (htD 10)) == 1 then 1 else (bif (xhcla_0 ((xhchk_0 (numO ys 0 8) ((pc ((x % 8388608).toNat) % 2 : Nat) : Int) 0 (hcD 10)) ^^^ (ys.getD 8 0)) (htD 10)) == 2 then 2 else 3)))
set_option maxRecDepth 100000 in
theorem xbits (cc hb cb : Nat) (v : Value) (ys : List UInt8) (hy : ys.length = 9) (x : Int) : Con Try.prog 68 #[pt cc 0, v, i6 x] [ob cc #[pt hb 0, pt cb 0] 83, ob hb (rB 74 (hcD 10) ++ rI 256 (htD 10)).toArray 117, .p (SqE eB v ys)] [] (fun _ => []) (fun _ => .tuple #[u6 (((xhdec_0 (numO ys 0 8) (ys.getD 8 0) ((pc ((x % 8388608).toNat) % 2 : Nat) : Int) (hcD 10) (htD 10)) : Nat) : Int), i6 (xbits_0 ys x)]) := by
 have hf := Try.func68
 have hE := enters_of hf (by kernel_rfl) rfl
 refine Con.ro 2 rfl (fun bq2 hq2 => ?_) hE
 refine fE hf (fun w cs => ?_) hE
 refine r0 [] [(6, u6 0), (7, i6 0)] [] ?_
 refine rr (fun q2 => [(0, .v (pt cc 0)), (1, .v (pt cc 0)), (2, .v (pt cc 0)), (3, .m (ld 0 (pt hb 0))), (4, .v (v)), (5, .m (slH 2 (.c bq2) 8 1 (cP hq2) (by omega))), (6, .c [2] [] (Con.at (rd' := [.c bq2]) (numT v ys (by omega)) (atC hq2 (fun _ h => h)))), (7, .v (v)), (8, ixR hq2.1 2 8 1), (9, gtR kB hq2.1 2 8 0), (10, .v (i6 x)), (11, .c [] [] (xpar x)), (12, .c [1] [] (xhdec hb (numO ys 0 8) (ys.getD 8 0) ((pc ((x % 8388608).toNat) % 2 : Nat) : Int) (hcD 10) (htD 10) (numO_lt64 ys 0 (Nat.le_refl 8)) (by first | rfl | (simp only [List.length_set, List.length_append, List.length_replicate, List.length_cons, List.length_nil, List.length_map, List.length_range, List.length_take, List.length_drop, hcD_len, htD_len, hy]; done) | (simp only [List.length_set, List.length_append, List.length_replicate, List.length_cons, List.length_nil, List.length_map, List.length_range, List.length_take, List.length_drop, hcD_len, htD_len, hy]; omega)) (by first | rfl | (simp only [List.length_set, List.length_append, List.length_replicate, List.length_cons, List.length_nil, List.length_map, List.length_range, List.length_take, List.length_drop, hcD_len, htD_len, hy]; done) | (simp only [List.length_set, List.length_append, List.length_replicate, List.length_cons, List.length_nil, List.length_map, List.length_range, List.length_take, List.length_drop, hcD_len, htD_len, hy]; omega)) hp)), (13, .v (.tuple #[u6 (((xhdec_0 (numO ys 0 8) (ys.getD 8 0) ((pc ((x % 8388608).toNat) % 2 : Nat) : Int) (hcD 10) (htD 10)) : Nat) : Int), i6 (xhcla_0 ((xhchk_0 (numO ys 0 8) ((pc ((x % 8388608).toNat) % 2 : Nat) : Int) 0 (hcD 10)) ^^^ (ys.getD 8 0)) (htD 10)), i6 (xhcla_1 ((xhchk_0 (numO ys 0 8) ((pc ((x % 8388608).toNat) % 2 : Nat) : Int) 0 (hcD 10)) ^^^ (ys.getD 8 0)) (htD 10))])), (14, .v (u6 (((xhdec_0 (numO ys 0 8) (ys.getD 8 0) ((pc ((x % 8388608).toNat) % 2 : Nat) : Int) (hcD 10) (htD 10)) : Nat) : Int))), (15, .v (i6 (xhcla_0 ((xhchk_0 (numO ys 0 8) ((pc ((x % 8388608).toNat) % 2 : Nat) : Int) 0 (hcD 10)) ^^^ (ys.getD 8 0)) (htD 10)))), (16, .v (i6 (xhcla_1 ((xhchk_0 (numO ys 0 8) ((pc ((x % 8388608).toNat) % 2 : Nat) : Int) 0 (hcD 10)) ^^^ (ys.getD 8 0)) (htD 10)))), (17, .v (u6 (((xhdec_0 (numO ys 0 8) (ys.getD 8 0) ((pc ((x % 8388608).toNat) % 2 : Nat) : Int) (hcD 10) (htD 10)) : Nat) : Int))), (18, .v (i6 (xhcla_0 ((xhchk_0 (numO ys 0 8) ((pc ((x % 8388608).toNat) % 2 : Nat) : Int) 0 (hcD 10)) ^^^ (ys.getD 8 0)) (htD 10)))), (19, .v (i6 (xhcla_1 ((xhchk_0 (numO ys 0 8) ((pc ((x % 8388608).toNat) % 2 : Nat) : Int) 0 (hcD 10)) ^^^ (ys.getD 8 0)) (htD 10))))]) (fun _ => [(8, u6 (((xhdec_0 (numO ys 0 8) (ys.getD 8 0) ((pc ((x % 8388608).toNat) % 2 : Nat) : Int) (hcD 10) (htD 10)) : Nat) : Int)), (9, i6 (xhcla_0 ((xhchk_0 (numO ys 0 8) ((pc ((x % 8388608).toNat) % 2 : Nat) : Int) 0 (hcD 10)) ^^^ (ys.getD 8 0)) (htD 10)))]) [] (fun _ L => L) fun q2 => ?_
 refine r0 [] [(28, i6 (xhcla_0 ((xhchk_0 (numO ys 0 8) ((pc ((x % 8388608).toNat) % 2 : Nat) : Int) 0 (hcD 10)) ^^^ (ys.getD 8 0)) (htD 10)))] [] ?_
 refine r0 [] [(29, .bool ((xhcla_0 ((xhchk_0 (numO ys 0 8) ((pc ((x % 8388608).toNat) % 2 : Nat) : Int) 0 (hcD 10)) ^^^ (ys.getD 8 0)) (htD 10)) == 0))] [] ?_
 refine cEq (xhcla_0 ((xhchk_0 (numO ys 0 8) ((pc ((x % 8388608).toNat) % 2 : Nat) : Int) 0 (hcD 10)) ^^^ (ys.getD 8 0)) (htD 10)) 0 (fun h5 dh5 => ?_) fun h5 dh5 => ?_
 ·refine r0 [] [(6, u6 (((xhdec_0 (numO ys 0 8) (ys.getD 8 0) ((pc ((x % 8388608).toNat) % 2 : Nat) : Int) (hcD 10) (htD 10)) : Nat) : Int)), (7, i6 0)] [6, 7] ?_
  exact lfV (.tuple #[u6 (((xhdec_0 (numO ys 0 8) (ys.getD 8 0) ((pc ((x % 8388608).toNat) % 2 : Nat) : Int) (hcD 10) (htD 10)) : Nat) : Int), i6 0]) Env.zero (by ((try simp only [xbits_0]); (repeat (first | rw [h5] | rw [cond_true] | rw [cond_false]))) <;> rfl) [] [(0, 0), (1, 1), (2, 2)] []
 refine r0 [] [(32, .bool ((xhcla_0 ((xhchk_0 (numO ys 0 8) ((pc ((x % 8388608).toNat) % 2 : Nat) : Int) 0 (hcD 10)) ^^^ (ys.getD 8 0)) (htD 10)) == 1))] [] ?_
 refine cEq (xhcla_0 ((xhchk_0 (numO ys 0 8) ((pc ((x % 8388608).toNat) % 2 : Nat) : Int) 0 (hcD 10)) ^^^ (ys.getD 8 0)) (htD 10)) 1 (fun h8 dh8 => ?_) fun h8 dh8 => ?_
 ·refine r0 [] [(6, u6 (((xhdec_0 (numO ys 0 8) (ys.getD 8 0) ((pc ((x % 8388608).toNat) % 2 : Nat) : Int) (hcD 10) (htD 10)) : Nat) : Int)), (7, i6 1)] [6, 7] ?_
  exact lfV (.tuple #[u6 (((xhdec_0 (numO ys 0 8) (ys.getD 8 0) ((pc ((x % 8388608).toNat) % 2 : Nat) : Int) (hcD 10) (htD 10)) : Nat) : Int), i6 1]) Env.zero (by ((try simp only [xbits_0]); (repeat (first | rw [h5] | rw [h8] | rw [cond_true] | rw [cond_false]))) <;> rfl) [] [(0, 0), (1, 1), (2, 2)] []
 refine r0 [] [(35, .bool ((xhcla_0 ((xhchk_0 (numO ys 0 8) ((pc ((x % 8388608).toNat) % 2 : Nat) : Int) 0 (hcD 10)) ^^^ (ys.getD 8 0)) (htD 10)) == 2))] [] ?_
 refine cEq (xhcla_0 ((xhchk_0 (numO ys 0 8) ((pc ((x % 8388608).toNat) % 2 : Nat) : Int) 0 (hcD 10)) ^^^ (ys.getD 8 0)) (htD 10)) 2 (fun h11 dh11 => ?_) fun h11 dh11 => ?_
 ·refine r0 [] [(6, u6 (((xhdec_0 (numO ys 0 8) (ys.getD 8 0) ((pc ((x % 8388608).toNat) % 2 : Nat) : Int) (hcD 10) (htD 10)) : Nat) : Int)), (7, i6 2)] [6, 7] ?_
  exact lfV (.tuple #[u6 (((xhdec_0 (numO ys 0 8) (ys.getD 8 0) ((pc ((x % 8388608).toNat) % 2 : Nat) : Int) (hcD 10) (htD 10)) : Nat) : Int), i6 2]) Env.zero (by ((try simp only [xbits_0]); (repeat (first | rw [h5] | rw [h8] | rw [h11] | rw [cond_true] | rw [cond_false]))) <;> rfl) [] [(0, 0), (1, 1), (2, 2)] []
 refine r0 [] [(6, u6 (((xhdec_0 (numO ys 0 8) (ys.getD 8 0) ((pc ((x % 8388608).toNat) % 2 : Nat) : Int) (hcD 10) (htD 10)) : Nat) : Int)), (7, i6 3)] [6, 7] ?_
 exact lfV (.tuple #[u6 (((xhdec_0 (numO ys 0 8) (ys.getD 8 0) ((pc ((x % 8388608).toNat) % 2 : Nat) : Int) (hcD 10) (htD 10)) : Nat) : Int), i6 3]) Env.zero (by ((try simp only [xbits_0]); (repeat (first | rw [h5] | rw [h8] | rw [h11] | rw [cond_true] | rw [cond_false]))) <;> rfl) [] [(0, 0), (1, 1), (2, 2)] []
end Go.Proofs.Ytdglhppcfdpcaaa.E
namespace Go.Proofs.Ytdglhppcfdpcaaa.E
open Go Go.RowKit Go.Shelf
set_option linter.unusedVariables false
set_option linter.unusedSimpArgs false
theorem xrsdecA (cb g : Nat) (u : Value) (d v : List UInt8) (hd : d.length = 36) (hv : v.length = 3) (D : List UInt8) (hD : decL d v = D) (k : Nat) (hk : rsLk (synL d v) = k) (p : Int) (hp : rsLp (synL d v) = p) (q : UInt8) (hq : rsLv (synL d v) = q) : Con Try.prog 92 #[pt cb 0, .agg (rB 36 d).toArray, .agg (rB 3 v).toArray] [ob cb #[pt g 0, u] 128, ob g (rB 255 exB ++ rN 256 logL).toArray 131, .p (SqE eB u genL)] [] (fun _ => []) (fun _ => .tuple #[.agg (rB 32 D).toArray, .agg #[i6 ((k : Nat) : Int), i6 p, u1 (q.toNat : Int)]]) := by
  subst hD hk hp hq
  exact xrsdec cb g u d v hd hv
def xchipsA_0 (kd : Nat) (pl : Int) (vl : UInt8) : Int := (bif (kd : Int) == 0 then 0 else (bif (kd : Int) == 1 then 1 else (bif (((kd : Int) == 2) && (pl == 38)) && ((vl.toNat : Int) == 128) then 2 else 3)))
set_option maxRecDepth 100000 in
theorem xchipsA (cc hb cb g : Nat) (u v : Value) (ys : List UInt8) (hy : ys.length = 36) (x : Int) (h0 : -9223372036854775808 ≤ x) (h1 : x ≤ 9223372036854775807) (D : List UInt8) (hD : decL ys (xvirt_0 x false) = D) (hDl : D.length = 32) (kd : Nat) (hkd : rsLk (synL ys (xvirt_0 x false)) = kd) (pl : Int) (hpl : rsLp (synL ys (xvirt_0 x false)) = pl) (vl : UInt8) (hvl : rsLv (synL ys (xvirt_0 x false)) = vl) : Con Try.prog 71 #[pt cc 0, v, i6 x] [ob cc #[pt hb 0, pt cb 0] 83, ob cb #[pt g 0, u] 128, ob g (rB 255 exB ++ rN 256 logL).toArray 131, .p (SqE eB u genL), .p (SqE eB v ys)] [] (fun _ => []) (fun _ => .tuple #[.agg (rB 32 D).toArray, i6 (xchipsA_0 kd pl vl)]) := by
 have hf := Try.func71
 have hE := enters_of hf (by kernel_rfl) rfl
 refine Con.ro 3 rfl (fun bq3 hq3 => ?_) hE
 refine Con.ro 4 rfl (fun bq4 hq4 => ?_) hE
 refine fE hf (fun w cs => ?_) hE
 refine rr (fun _ => []) (fun q1 => [(6, pt ((q1 0).blk 0) 0), (7, i6 0)]) [] (fun q1 L => L ++ [ob ((q1 0).blk 0) (rB 32 (List.replicate 32 0)).toArray 98]) fun q1 => ?_
 refine rr (fun _ => [(0, .v (pt cc 0)), (1, .v (pt cc 0)), (2, .v (pt cc 1)), (3, .m (ld 0 (pt cb 0))), (4, .v (v)), (5, .m (apR 4 (.c bq4) 36 (cP hq4.1) (by decide) (by omega))), (6, .m (laR 4 (.c bq4) 36 (rB 36 ys) (cP hq4.1) (rowL_sl hy).symm (by omega) (rowL_n (fun _ => rfl) hy))), (7, .v (i6 x)), (8, .c [] [] (xvirt x (by omega) (by omega) false)), (9, .c [1, 2, 3] [] (Con.at (rd' := [ob cb #[pt g 0, u] 128, ob g (rB 255 exB ++ rN 256 logL).toArray 131, .c bq3]) (xrsdecA cb g u ys (xvirt_0 x false) (by first | rfl | (simp only [List.length_set, List.length_append, List.length_replicate, List.length_cons, List.length_nil, List.length_map, List.length_range, List.length_take, List.length_drop, xvirt_len, hy, hDl]; done) | (simp only [List.length_set, List.length_append, List.length_replicate, List.length_cons, List.length_nil, List.length_map, List.length_range, List.length_take, List.length_drop, xvirt_len, hy, hDl]; omega)) (by first | rfl | (simp only [List.length_set, List.length_append, List.length_replicate, List.length_cons, List.length_nil, List.length_map, List.length_range, List.length_take, List.length_drop, xvirt_len, hy, hDl]; done) | (simp only [List.length_set, List.length_append, List.length_replicate, List.length_cons, List.length_nil, List.length_map, List.length_range, List.length_take, List.length_drop, xvirt_len, hy, hDl]; omega)) D hD kd hkd pl hpl vl hvl) (atS (atS (atC hq3 (fun _ h => h)))))), (10, .v (.tuple #[.agg (rB 32 D).toArray, .agg #[i6 (kd : Int), i6 pl, u1 (vl.toNat : Int)]])), (11, .v (.agg (rB 32 D).toArray)), (12, .v (.agg #[i6 (kd : Int), i6 pl, u1 (vl.toNat : Int)])), (13, .m (al 6)), (14, .m (al 7)), (15, .s 6), (16, .s 7)]) (fun q2 => [(8, pt ((q2 13).blk 0) 0), (9, pt ((q2 14).blk 0) 0)]) [] (fun q2 L => L ++ [ob ((q2 13).blk 0) (rB 32 D).toArray 98, ob ((q2 14).blk 0) #[i6 (kd : Int), i6 pl, u1 (vl.toNat : Int)] 169]) fun q2 => ?_
 refine r0 [(1, .l 7)] [(23, .bool ((kd : Int) == 0))] [] ?_
 refine cEq (kd : Int) 0 (fun h4 dh4 => ?_) fun h4 dh4 => ?_
 ·refine rr (fun _ => [(0, .l 6), (1, .s 5)]) (fun _ => [(7, i6 0)]) [7] (fun _ L => L.set 5 (ob ((q1 0).blk 0) (rB 32 D).toArray 98)) fun q5 => ?_
  exact lfV (.tuple #[.agg (rB 32 D).toArray, i6 0]) Env.zero (by ((try simp only [xchipsA_0]); (repeat (first | rw [h4] | rw [cond_true] | rw [cond_false]))) <;> rfl) [] [(0, 0), (1, 1), (2, 2), (3, 3), (4, 4)] [5]
 refine r0 [(1, .l 7)] [(28, .bool ((kd : Int) == 1))] [] ?_
 refine cEq (kd : Int) 1 (fun h7 dh7 => ?_) fun h7 dh7 => ?_
 ·refine rr (fun _ => [(0, .l 6), (1, .s 5)]) (fun _ => [(7, i6 1)]) [7] (fun _ L => L.set 5 (ob ((q1 0).blk 0) (rB 32 D).toArray 98)) fun q8 => ?_
  exact lfV (.tuple #[.agg (rB 32 D).toArray, i6 1]) Env.zero (by ((try simp only [xchipsA_0]); (repeat (first | rw [h4] | rw [h7] | rw [cond_true] | rw [cond_false]))) <;> rfl) [] [(0, 0), (1, 1), (2, 2), (3, 3), (4, 4)] [5]
 refine r0 [(0, .v (pt ((q2 14).blk 0) 0)), (1, .m (ld 7 (i6 (kd : Int)))), (2, .v (.bool ((kd : Int) == 2))), (3, .v (.bool ((kd : Int) == 2))), (4, .v (pt ((q2 14).blk 0) 1)), (5, .m (ld 7 (i6 pl))), (6, .v (.bool (pl == 38))), (8, .v (.bool (((kd : Int) == 2) && (pl == 38)))), (9, .v (pt ((q2 14).blk 0) 2)), (10, .m (ld 7 (u1 (vl.toNat : Int)))), (11, .v (.bool ((vl.toNat : Int) == 128))), (13, .v (.bool ((((kd : Int) == 2) && (pl == 38)) && ((vl.toNat : Int) == 128))))] [(33, .bool ((((kd : Int) == 2) && (pl == 38)) && ((vl.toNat : Int) == 128)))] [] ?_
 refine cB ((((kd : Int) == 2) && (pl == 38)) && ((vl.toNat : Int) == 128)) (fun h10 => ?_) fun h10 => ?_
 ·refine rr (fun _ => [(0, .l 6), (1, .s 5)]) (fun _ => [(7, i6 2)]) [7] (fun _ L => L.set 5 (ob ((q1 0).blk 0) (rB 32 D).toArray 98)) fun q11 => ?_
  exact lfV (.tuple #[.agg (rB 32 D).toArray, i6 2]) Env.zero (by ((try simp only [xchipsA_0]); (repeat (first | rw [h4] | rw [h7] | rw [h10] | rw [cond_true] | rw [cond_false]))) <;> rfl) [] [(0, 0), (1, 1), (2, 2), (3, 3), (4, 4)] [5]
 refine rr (fun _ => [(0, .l 6), (1, .s 5)]) (fun _ => [(7, i6 3)]) [7] (fun _ L => L.set 5 (ob ((q1 0).blk 0) (rB 32 D).toArray 98)) fun q12 => ?_
 exact lfV (.tuple #[.agg (rB 32 D).toArray, i6 3]) Env.zero (by ((try simp only [xchipsA_0]); (repeat (first | rw [h4] | rw [h7] | rw [h10] | rw [cond_true] | rw [cond_false]))) <;> rfl) [] [(0, 0), (1, 1), (2, 2), (3, 3), (4, 4)] [5]
def xchips_0 (ys : List UInt8) (x : Int) : Int := xchipsA_0 (rsLk (synL ys (xvirt_0 x false))) (rsLp (synL ys (xvirt_0 x false))) (rsLv (synL ys (xvirt_0 x false)))
theorem xchips (cc hb cb g : Nat) (u v : Value) (ys : List UInt8) (hy : ys.length = 36) (x : Int) (h0 : -9223372036854775808 ≤ x) (h1 : x ≤ 9223372036854775807) : Con Try.prog 71 #[pt cc 0, v, i6 x] [ob cc #[pt hb 0, pt cb 0] 83, ob cb #[pt g 0, u] 128, ob g (rB 255 exB ++ rN 256 logL).toArray 131, .p (SqE eB u genL), .p (SqE eB v ys)] [] (fun _ => []) (fun _ => .tuple #[.agg (rB 32 (decL ys (xvirt_0 x false))).toArray, i6 (xchips_0 ys x)]) :=
  xchipsA cc hb cb g u v ys hy x h0 h1 _ rfl (decL_len hy) _ rfl _ rfl _ rfl
end Go.Proofs.Ytdglhppcfdpcaaa.E
