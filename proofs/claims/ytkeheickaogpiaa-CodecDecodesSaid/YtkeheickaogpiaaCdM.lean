/- The reference's decoding of a word of chips. -/
import Derived.Test.YtkeheickaogpiaaCdK
import Derived.Test.YtkeheickaogpiaaRsG
import Derived.WalkKit
import Derived.Sort.CutIn
import Derived.IntWalk
namespace Go.Proofs.Ytkeheickaogpiaa
open Go Go.RowKit Go.Shelf
attribute [local go_sem] Oper.semAt_some
set_option linter.unusedVariables false
set_option linter.unusedSimpArgs false


theorem fillL_self {L : List UInt8} {N : Nat} (h : L.length = N) : fillL N (fun i => L.getD i 0) N = L := by
  refine list_ext (by rw [fillL_len, h]) fun i hi => ?_
  rw [fillL_len] at hi
  show (fillL N _ N).getD i 0 = L.getD i 0
  rw [fillL_get hi, if_pos hi]
theorem fill36 {r : List UInt8} (hr : r.length = 72) {q : Nat} (hq : q < 2) : fillL 36 (fun i => r.getD (36 * q + i) 0) 36 = w36 r q := by
  rw [fillL_congr (g := fun i => (w36 r q).getD i 0) fun i _ hi => ?_]
  · exact fillL_self (w36_len hr hq)
  · show r.getD (36 * q + i) 0 = ((r.drop (36 * q)).take 36).getD i 0
    rw [List.getD_eq_getElem?_getD, List.getD_eq_getElem?_getD, List.getElem?_take_of_lt hi, List.getElem?_drop]
/-- The document's values of a word. -/
def vLs (u : List UInt8) : List UInt8 := [evalL u 1, evalL u 2, evalL u 4, evalL u 8]
theorem vLs_syn (w v : List UInt8) : vLs (w ++ v) = synL w v := by
  unfold vLs synL synF
  rw [show ofF 4 (fun j => evalL (w ++ v) (pw 2 j)) = [evalL (w ++ v) (pw 2 0), evalL (w ++ v) (pw 2 1), evalL (w ++ v) (pw 2 2), evalL (w ++ v) (pw 2 3)] from rfl]
  rw [show pw 2 0 = 1 from rfl, show pw 2 1 = 2 by decide +kernel, show pw 2 2 = 4 by decide +kernel, show pw 2 3 = 8 by decide +kernel]
theorem rvals_any (w v : List UInt8) (hw : w.length = 36) (hv : v.length = 3) (W : World) : Calls Try.prog 39 #[.agg (rB 39 (w ++ v)).toArray] W fun e w' => e = .returned (.agg (rB 4 (synL w v)).toArray) ∧ Below W.heap.size W w' := by
  have hl : (w ++ v).length = 39 := by rw [List.length_append, hw, hv]
  rw [rB_raw hl, rB_raw (synL_len w v), ← vLs_syn]
  exact refValues_any (w ++ v) hl W
theorem rword5_any (w v : List UInt8) (hw : w.length = 36) (hv : v.length = 3) (W : World) : Calls Try.prog 40 #[.agg (rB 36 w).toArray, .agg (rB 3 v).toArray] W fun e w' => e = .returned (.agg (rB 39 (w ++ v)).toArray) ∧ Below W.heap.size W w' := by
  have hl : (w ++ v).length = 39 := by rw [List.length_append, hw, hv]
  rw [rB_raw hl, rB_raw hw, rB_raw hv]
  exact refWord_any w v hw hv W
theorem rloc_any (s : List UInt8) (hs : s.length = 4) (W : World) : Calls Try.prog 67 #[.agg (rB 4 s).toArray] W fun e w' => e = .returned (.agg #[.int .i64 ((locF (co s)).kind : Int), .int .i64 (locF (co s)).place, .int .u8 ((locF (co s)).val.toNat : Int)]) ∧ Below W.heap.size W w' := by
  rw [rB_raw hs]
  exact refLocate_any s hs W
theorem rv_len (x : Int) (p : Bool) : (rvirt_0 x p).length = 3 := by rw [rvirt_eq]; exact dvirt_len x p
theorem place_nat {s : Nat → UInt8} (h : ((((locF s).kind : Nat) : Int) == 1) = true) : (locF s).place = (((locF s).place.toNat : Nat) : Int) := by
  obtain ⟨i, _, e⟩ := locF_fixed h
  rw [e]; rfl
theorem mend_then {w v : List UInt8} (h : ((((locF (co (synL w v))).kind : Nat) : Int) == 1) = true) : ∀ i, (w.set (locF (co (synL w v))).place.toNat ((w.getD (locF (co (synL w v))).place.toNat 0) ^^^ (locF (co (synL w v))).val)).getD (4 + i) 0 = (decL w v).getD i 0 := by
  intro i
  unfold decL
  rw [h, cond_true]
  generalize w.set (locF (co (synL w v))).place.toNat ((w.getD (locF (co (synL w v))).place.toNat 0) ^^^ (locF (co (synL w v))).val) = u
  rw [List.getD_eq_getElem?_getD, List.getD_eq_getElem?_getD, List.getElem?_drop]
theorem mend_else {w v : List UInt8} (h : ((((locF (co (synL w v))).kind : Nat) : Int) == 1) = false) : ∀ i, w.getD (4 + i) 0 = (decL w v).getD i 0 := by
  intro i
  unfold decL
  rw [h, cond_false, List.getD_eq_getElem?_getD, List.getD_eq_getElem?_getD, List.getElem?_drop]
def rchips_0 (r : List UInt8) (q : Nat) (x : Int) : Nat := (bif (((locF (co (synL (w36 r q) (rvirt_0 x false)))).kind : Nat) : Int) == 1 then (bif ((((locF (co (synL (w36 r q) (rvirt_0 x false)))).kind : Nat) : Int) == 2) && ((((locF (co (synL (w36 r q) (rvirt_0 x false)))).place) != 38) || ((((locF (co (synL (w36 r q) (rvirt_0 x false)))).val).toNat : Int) != 128)) then 3 else (locF (co (synL (w36 r q) (rvirt_0 x false)))).kind) else (bif ((((locF (co (synL (w36 r q) (rvirt_0 x false)))).kind : Nat) : Int) == 2) && ((((locF (co (synL (w36 r q) (rvirt_0 x false)))).place) != 38) || ((((locF (co (synL (w36 r q) (rvirt_0 x false)))).val).toNat : Int) != 128)) then 3 else (locF (co (synL (w36 r q) (rvirt_0 x false)))).kind))
set_option maxRecDepth 100000 in
set_option maxHeartbeats 1000000 in
theorem rchips_any (r : List UInt8) (hr : r.length = 72) (q : Nat) (hq : q < 2) (x : Int) (h0 : -9223372036854775808 ≤ x) (h1 : x ≤ 9223372036854775807) (w : World) : Calls Try.prog 43 #[.agg (rB 72 r).toArray, .int .i64 (q : Int), .int .i64 x] w fun e w' => e = .returned (.tuple #[.agg (rB 32 (decL (w36 r q) (rvirt_0 x false))).toArray, .int .i64 (((rchips_0 r q x) : Nat) : Int)]) ∧ Below w.heap.size w w' := by
  have HW36 := w36_len hr hq
  have HDL := fun (v : List UInt8) => decL_len (d := w36 r q) (v := v) (w36_len hr hq)
  have H : Has [] w := has_nil
  have OW : Hid (OwnS [] w [] w) := Lib.hid (OwnS.start H)
  refine (callsIn_wide (n := 6)).1 ?_
  refine callsIn_of_wp_marks Try.func43 rfl trivial ?_ rfl
  simp only [Try.ntmps43, List.size_toArray, List.length_cons, List.length_nil, Nat.reduceAdd, Nat.reduceSub, Array.replicate_succ, Array.replicate_zero, List.push_toArray, List.append_toArray, List.nil_append, List.cons_append]
  gi_upto_region 0 with fail
  refine wpIn_region_re 2 (fun ηq1 => [.bx 0 26 (.agg (rB 72 r).toArray),
      .al 1 67 (rB 32 (List.replicate 32 0)).toArray,
      .pv (.int .i64 0)])
    (fun ηq1 L => L ++ [((ηq1 0).blk 0, Obj.cells (rB 72 r).toArray 26 (0, 0)), ((ηq1 1).blk 0, Obj.cells (rB 32 (List.replicate 32 0)).toArray 67 (0, 0))]) (by kernel_rfl) OW (fun _ => by kernel_rfl) ?_
  clear OW; intro ηq1 ysq1 Wq1 OW
  simp only [↓putE_cons, ↓putE_nil, valE, Hint.val, Act.put, List.setIfInBounds_toArray, List.set_cons_succ, List.set_cons_zero]
  gi_upto_region 1 with fail
  refine wpIn_region_re 3 (fun ηq2 => [.al 2 79 (rB 36 (List.replicate 36 0)).toArray])
    (fun ηq2 L => L ++ [((ηq2 0).blk 0, Obj.cells (rB 36 (List.replicate 36 0)).toArray 79 (0, 0))]) (by kernel_rfl) OW (fun _ => by kernel_rfl) ?_
  clear OW; intro ηq2 ysq2 Wq2 OW
  simp only [↓putE_cons, ↓putE_nil, valE, Hint.val, Act.put, List.setIfInBounds_toArray, List.set_cons_succ, List.set_cons_zero]
  gi_upto_region 2 with fail
  refine wpIn_region_re 3 (fun ηq3 => [.pv (.int .i64 0)])
    (fun ηq3 L => L) (by kernel_rfl) OW (fun _ => by kernel_rfl) ?_
  clear OW; intro ηq3 ysq3 Wq3 OW
  simp only [↓putE_cons, ↓putE_nil, valE, Hint.val, Act.put, List.setIfInBounds_toArray, List.set_cons_succ, List.set_cons_zero]
  gi_wp2
  gi_loopw [9] (fun z9 wr => ∃ k : Nat, k ≤ 36 ∧ z9 = .int .i64 (k : Int) ∧ OwnS [] w [((ηq1 0).blk 0, Obj.cells (rB 72 r).toArray 26 (0, 0)), ((ηq1 1).blk 0, Obj.cells (rB 32 (List.replicate 32 0)).toArray 67 (0, 0)), ((ηq2 0).blk 0, Obj.cells (rB 36 (fillL 36 (fun i => r.getD (36 * q + i) 0) k)).toArray 79 (0, 0))] wr) (fun z9 _ => 36 - (intOf (z9)).toNat)
  case atStart => exact ⟨0, by omega, rfl, (by rw [fillL_zero]; exact OwnS.cast OW.out (by kernel_rfl))⟩
  case round =>
    obtain ⟨k, hk5, rfl, hO⟩ := hrel
    clear OW
    have OW := Lib.hid hO
    clear hO
    gi_upto_region 3 with fail
    refine wpIn_region_re 3 (fun ηq7 => [.pv (.int .i64 (k : Int)),
        .pv (.bool (decide ((k : Int) < 36)))])
      (fun ηq7 L => L) (by kernel_rfl) OW (fun _ => by kernel_rfl) ?_
    clear OW; intro ηq7 ysq7 Wq7 OW
    simp only [↓putE_cons, ↓putE_nil, valE, Hint.val, Act.put, List.setIfInBounds_toArray, List.set_cons_succ, List.set_cons_zero]
    cases hB8 : (decide ((k : Int) < 36))
    case true =>
      have dhB8 := of_decide_eq_true hB8
      gi_upto_region 5 with fail
      refine wpIn_region_re 3 (fun ηq9 => [.pv (.int .i64 (k : Int)),
          .pv (.int .i64 (q : Int)),
          .tv (.int .i64 ((36 * q : Nat) : Int)) (sBin .mul 3 (.const (.int .i64 36)) (.tmp 18) (.int .i64 36) (.int .i64 (q : Int))) (fun _ => bin_mul_nat (a := 36) (b := q) (by omega)),
          .pv (.int .i64 (k : Int)),
          .tv (.int .i64 (((36 * q) + k : Nat) : Int)) (sBin .add 3 (.tmp 19) (.tmp 20) (.int .i64 ((36 * q : Nat) : Int)) (.int .i64 (k : Int))) (fun _ => bin_add_nat (a := 36 * q) (b := k) (by omega)),
          .tv (.pointer (some ⟨(ηq1 0).blk 0, 0 + ((36 * q) + k) * 1, none⟩)) (Instr.indexAt 26 (.pointer (some ⟨(ηq1 0).blk 0, 0, none⟩)) (.int .i64 (((36 * q) + k : Nat) : Int))) (fun _ => idx_ar (N := 72) (k := (36 * q) + k) (by kernel_rfl) (by omega)),
          .lt (.int .u8 ((r.getD ((36 * q) + k) 0).toNat : Int)) 0 (0 + ((36 * q) + k) * 1) ((ηq1 0).blk 0) (rB 72 r).toArray 26 (by simpa only [Nat.zero_add, Nat.mul_one] using rB_get (by omega)),
          .tv (.pointer (some ⟨(ηq2 0).blk 0, 0 + k * 1, none⟩)) (Instr.indexAt 79 (.pointer (some ⟨(ηq2 0).blk 0, 0, none⟩)) (.int .i64 (k : Int))) (fun _ => idx_ar (N := 36) (k := k) (by kernel_rfl) (by omega)),
          .sw 2 ((ηq2 0).blk 0) (0 + k * 1) 79 (.int .u8 ((r.getD ((36 * q) + k) 0).toNat : Int)) (rB 36 (fillL 36 (fun i => r.getD (36 * q + i) 0) k)).toArray (rB 36 ((fillL 36 (fun i => r.getD (36 * q + i) 0) k).set k (r.getD ((36 * q) + k) 0))).toArray (by rw [Nat.zero_add, Nat.mul_one]; exact rB_set (show (fillL 36 (fun i => r.getD (36 * q + i) 0) k).length = 36 by first | rfl | (simp only [List.length_set, List.length_append, List.length_replicate, List.length_cons, List.length_nil, List.length_map, List.length_range, List.length_take, List.length_drop, fillL_len, HW36, rv_len, synL_len, HDL, hr]; done) | (simp only [List.length_set, List.length_append, List.length_replicate, List.length_cons, List.length_nil, List.length_map, List.length_range, List.length_take, List.length_drop, fillL_len, HW36, rv_len, synL_len, HDL, hr]; omega))) (by rw [Nat.zero_add, Nat.mul_one]; exact rL_lt (by omega))])
        (fun ηq9 L => L.set 2 ((ηq2 0).blk 0, Obj.cells (rB 36 ((fillL 36 (fun i => r.getD (36 * q + i) 0) k).set k (r.getD ((36 * q) + k) 0))).toArray 79 (0, 0))) (by kernel_rfl) OW (fun _ => by kernel_rfl) ?_
      clear OW; intro ηq9 ysq9 Wq9 OW
      simp only [↓putE_cons, ↓putE_nil, valE, Hint.val, Act.put, List.setIfInBounds_toArray, List.set_cons_succ, List.set_cons_zero]
      gi_upto_region 4 with fail
      refine wpIn_region_re 3 (fun ηq10 => [.pv (.int .i64 (k : Int)),
          .tv (.int .i64 ((k + 1 : Nat) : Int)) (sBin .add 3 (.tmp 15) (.const (.int .i64 1)) (.int .i64 (k : Int)) (.int .i64 1)) (fun _ => bin_add_nat (a := k) (b := 1) (by omega)),
          .pv (.int .i64 ((k + 1 : Nat) : Int))])
        (fun ηq10 L => L) (by kernel_rfl) OW (fun _ => by kernel_rfl) ?_
      clear OW; intro ηq10 ysq10 Wq10 OW
      simp only [↓putE_cons, ↓putE_nil, valE, Hint.val, Act.put, List.setIfInBounds_toArray, List.set_cons_succ, List.set_cons_zero]
      gi_wp2
      go_roundw
      case rel => exact ⟨k + 1, by omega, by go_num, (by rw [← fillL_set (show k < 36 by omega)]; exact OwnS.cast OW.out (by kernel_rfl))⟩
      case measure => (simp [intOf] <;> omega)
    have dhB8 := of_decide_eq_false hB8
    obtain rfl : k = 36 := by omega
    have OW := Lib.hid (OwnS.cast (L' := [((ηq1 0).blk 0, Obj.cells (rB 72 r).toArray 26 (0, 0)), ((ηq1 1).blk 0, Obj.cells (rB 32 (List.replicate 32 0)).toArray 67 (0, 0)), ((ηq2 0).blk 0, Obj.cells (rB 36 (w36 r q)).toArray 79 (0, 0))]) OW.out (by rw [fill36 hr hq]))
    gi_upto_region 6 with fail
    refine wpIn_region_re 4 (fun ηq11 => [.ls (rB 36 (w36 r q)) 2 0,
        .pv (.int .i64 x),
        .cl 19 #[.int .i64 x, .bool false] (fun E => .agg (rB 3 (rvirt_0 x false)).toArray) [] [] (fun E => []) (enters_of Try.func19 (by kernel_rfl) rfl) (fun w' H => cB (callsIn_wide.2 (rvirt_any x (by omega) (by omega) false w'))),
        .cl 40 #[.agg (rB 36 (w36 r q)).toArray, .agg (rB 3 (rvirt_0 x false)).toArray] (fun E => .agg (rB 39 ((w36 r q) ++ (rvirt_0 x false))).toArray) [] [] (fun E => []) (enters_of Try.func40 (by kernel_rfl) rfl) (fun w' H => cB (callsIn_wide.2 (rword5_any (w36 r q) (rvirt_0 x false) (by first | rfl | (simp only [List.length_set, List.length_append, List.length_replicate, List.length_cons, List.length_nil, List.length_map, List.length_range, List.length_take, List.length_drop, fillL_len, HW36, rv_len, synL_len, HDL, hr]; done) | (simp only [List.length_set, List.length_append, List.length_replicate, List.length_cons, List.length_nil, List.length_map, List.length_range, List.length_take, List.length_drop, fillL_len, HW36, rv_len, synL_len, HDL, hr]; omega)) (by first | rfl | (simp only [List.length_set, List.length_append, List.length_replicate, List.length_cons, List.length_nil, List.length_map, List.length_range, List.length_take, List.length_drop, fillL_len, HW36, rv_len, synL_len, HDL, hr]; done) | (simp only [List.length_set, List.length_append, List.length_replicate, List.length_cons, List.length_nil, List.length_map, List.length_range, List.length_take, List.length_drop, fillL_len, HW36, rv_len, synL_len, HDL, hr]; omega)) w'))),
        .cl 39 #[.agg (rB 39 ((w36 r q) ++ (rvirt_0 x false))).toArray] (fun E => .agg (rB 4 (synL (w36 r q) (rvirt_0 x false))).toArray) [] [] (fun E => []) (enters_of Try.func39 (by kernel_rfl) rfl) (fun w' H => cB (callsIn_wide.2 (rvals_any (w36 r q) (rvirt_0 x false) (by first | rfl | (simp only [List.length_set, List.length_append, List.length_replicate, List.length_cons, List.length_nil, List.length_map, List.length_range, List.length_take, List.length_drop, fillL_len, HW36, rv_len, synL_len, HDL, hr]; done) | (simp only [List.length_set, List.length_append, List.length_replicate, List.length_cons, List.length_nil, List.length_map, List.length_range, List.length_take, List.length_drop, fillL_len, HW36, rv_len, synL_len, HDL, hr]; omega)) (by first | rfl | (simp only [List.length_set, List.length_append, List.length_replicate, List.length_cons, List.length_nil, List.length_map, List.length_range, List.length_take, List.length_drop, fillL_len, HW36, rv_len, synL_len, HDL, hr]; done) | (simp only [List.length_set, List.length_append, List.length_replicate, List.length_cons, List.length_nil, List.length_map, List.length_range, List.length_take, List.length_drop, fillL_len, HW36, rv_len, synL_len, HDL, hr]; omega)) w'))),
        .cl 67 #[.agg (rB 4 (synL (w36 r q) (rvirt_0 x false))).toArray] (fun E => .agg #[.int .i64 (((locF (co (synL (w36 r q) (rvirt_0 x false)))).kind : Nat) : Int), .int .i64 ((locF (co (synL (w36 r q) (rvirt_0 x false)))).place), .int .u8 (((locF (co (synL (w36 r q) (rvirt_0 x false)))).val).toNat : Int)]) [] [] (fun E => []) (enters_of Try.func67 (by kernel_rfl) rfl) (fun w' H => cB (callsIn_wide.2 (rloc_any (synL (w36 r q) (rvirt_0 x false)) (by first | rfl | (simp only [List.length_set, List.length_append, List.length_replicate, List.length_cons, List.length_nil, List.length_map, List.length_range, List.length_take, List.length_drop, fillL_len, HW36, rv_len, synL_len, HDL, hr]; done) | (simp only [List.length_set, List.length_append, List.length_replicate, List.length_cons, List.length_nil, List.length_map, List.length_range, List.length_take, List.length_drop, fillL_len, HW36, rv_len, synL_len, HDL, hr]; omega)) w'))),
        .al 3 125 #[.int .i64 0, .int .i64 0, .int .u8 0],
        .ss 3 ((ηq11 6).blk 0) 0 125 ([.int .i64 (((locF (co (synL (w36 r q) (rvirt_0 x false)))).kind : Nat) : Int), .int .i64 ((locF (co (synL (w36 r q) (rvirt_0 x false)))).place), .int .u8 (((locF (co (synL (w36 r q) (rvirt_0 x false)))).val).toNat : Int)]) #[.int .i64 (((locF (co (synL (w36 r q) (rvirt_0 x false)))).kind : Nat) : Int), .int .i64 ((locF (co (synL (w36 r q) (rvirt_0 x false)))).place), .int .u8 (((locF (co (synL (w36 r q) (rvirt_0 x false)))).val).toNat : Int)]])
      (fun ηq11 L => L ++ [((ηq11 6).blk 0, Obj.cells #[.int .i64 (((locF (co (synL (w36 r q) (rvirt_0 x false)))).kind : Nat) : Int), .int .i64 ((locF (co (synL (w36 r q) (rvirt_0 x false)))).place), .int .u8 (((locF (co (synL (w36 r q) (rvirt_0 x false)))).val).toNat : Int)] 125 (0, 0))]) (by kernel_rfl) OW (fun _ => by kernel_rfl) ?_
    clear OW; intro ηq11 ysq11 Wq11 OW
    simp only [↓putE_cons, ↓putE_nil, valE, Hint.val, Act.put, List.setIfInBounds_toArray, List.set_cons_succ, List.set_cons_zero]
    gi_upto_region 7 with fail
    refine wpIn_region_re 4 (fun ηq12 => [.pv (.pointer (some ⟨(ηq11 6).blk 0, 0, none⟩)),
        .ld (.int .i64 (((locF (co (synL (w36 r q) (rvirt_0 x false)))).kind : Nat) : Int)) 3 0,
        .pv (.bool ((((locF (co (synL (w36 r q) (rvirt_0 x false)))).kind : Nat) : Int) == 1))])
      (fun ηq12 L => L) (by kernel_rfl) OW (fun _ => by kernel_rfl) ?_
    clear OW; intro ηq12 ysq12 Wq12 OW
    simp only [↓putE_cons, ↓putE_nil, valE, Hint.val, Act.put, List.setIfInBounds_toArray, List.set_cons_succ, List.set_cons_zero]
    cases hB13 : ((((locF (co (synL (w36 r q) (rvirt_0 x false)))).kind : Nat) : Int) == 1)
    case true =>
      have dhB13 := Lib.hid (eq_of_beq hB13)
      gi_upto_region 8 with fail
      have HP := Lib.hid (place_nat (by assumption))
      have HPL := fixed_lt (by assumption)
      refine wpIn_region_re 4 (fun ηq14 => [.pv (.pointer (some ⟨(ηq11 6).blk 0, 1, none⟩)),
          .lt (.int .i64 (((locF (co (synL (w36 r q) (rvirt_0 x false)))).place.toNat : Nat) : Int)) 3 1 ((ηq11 6).blk 0) #[.int .i64 (((locF (co (synL (w36 r q) (rvirt_0 x false)))).kind : Nat) : Int), .int .i64 ((locF (co (synL (w36 r q) (rvirt_0 x false)))).place), .int .u8 (((locF (co (synL (w36 r q) (rvirt_0 x false)))).val).toNat : Int)] 125 (congrArg (fun z => some (Value.int .i64 z)) HP.out),
          .pv (.pointer (some ⟨(ηq11 6).blk 0, 1, none⟩)),
          .lt (.int .i64 (((locF (co (synL (w36 r q) (rvirt_0 x false)))).place.toNat : Nat) : Int)) 3 1 ((ηq11 6).blk 0) #[.int .i64 (((locF (co (synL (w36 r q) (rvirt_0 x false)))).kind : Nat) : Int), .int .i64 ((locF (co (synL (w36 r q) (rvirt_0 x false)))).place), .int .u8 (((locF (co (synL (w36 r q) (rvirt_0 x false)))).val).toNat : Int)] 125 (congrArg (fun z => some (Value.int .i64 z)) HP.out),
          .tv (.pointer (some ⟨(ηq2 0).blk 0, 0 + ((locF (co (synL (w36 r q) (rvirt_0 x false)))).place.toNat) * 1, none⟩)) (Instr.indexAt 79 (.pointer (some ⟨(ηq2 0).blk 0, 0, none⟩)) (.int .i64 (((locF (co (synL (w36 r q) (rvirt_0 x false)))).place.toNat : Nat) : Int))) (fun _ => idx_ar (N := 36) (k := (locF (co (synL (w36 r q) (rvirt_0 x false)))).place.toNat) (by kernel_rfl) (by omega)),
          .lt (.int .u8 (((w36 r q).getD ((locF (co (synL (w36 r q) (rvirt_0 x false)))).place.toNat) 0).toNat : Int)) 2 (0 + ((locF (co (synL (w36 r q) (rvirt_0 x false)))).place.toNat) * 1) ((ηq2 0).blk 0) (rB 36 (w36 r q)).toArray 79 (by simpa only [Nat.zero_add, Nat.mul_one] using rB_get (by omega)),
          .pv (.pointer (some ⟨(ηq11 6).blk 0, 2, none⟩)),
          .ld (.int .u8 (((locF (co (synL (w36 r q) (rvirt_0 x false)))).val).toNat : Int)) 3 2,
          .tv (.int .u8 ((((w36 r q).getD ((locF (co (synL (w36 r q) (rvirt_0 x false)))).place.toNat) 0) ^^^ ((locF (co (synL (w36 r q) (rvirt_0 x false)))).val)).toNat : Int)) (sBin .xor 5 (.tmp 39) (.tmp 41) (.int .u8 (((w36 r q).getD ((locF (co (synL (w36 r q) (rvirt_0 x false)))).place.toNat) 0).toNat : Int)) (.int .u8 (((locF (co (synL (w36 r q) (rvirt_0 x false)))).val).toNat : Int))) (fun _ => bin_xor8 (a := (w36 r q).getD ((locF (co (synL (w36 r q) (rvirt_0 x false)))).place.toNat) 0) (b := ((locF (co (synL (w36 r q) (rvirt_0 x false)))).val))),
          .tv (.pointer (some ⟨(ηq2 0).blk 0, 0 + ((locF (co (synL (w36 r q) (rvirt_0 x false)))).place.toNat) * 1, none⟩)) (Instr.indexAt 79 (.pointer (some ⟨(ηq2 0).blk 0, 0, none⟩)) (.int .i64 (((locF (co (synL (w36 r q) (rvirt_0 x false)))).place.toNat : Nat) : Int))) (fun _ => idx_ar (N := 36) (k := (locF (co (synL (w36 r q) (rvirt_0 x false)))).place.toNat) (by kernel_rfl) (by omega)),
          .sw 2 ((ηq2 0).blk 0) (0 + ((locF (co (synL (w36 r q) (rvirt_0 x false)))).place.toNat) * 1) 79 (.int .u8 ((((w36 r q).getD ((locF (co (synL (w36 r q) (rvirt_0 x false)))).place.toNat) 0) ^^^ ((locF (co (synL (w36 r q) (rvirt_0 x false)))).val)).toNat : Int)) (rB 36 (w36 r q)).toArray (rB 36 ((w36 r q).set ((locF (co (synL (w36 r q) (rvirt_0 x false)))).place.toNat) (((w36 r q).getD ((locF (co (synL (w36 r q) (rvirt_0 x false)))).place.toNat) 0) ^^^ ((locF (co (synL (w36 r q) (rvirt_0 x false)))).val)))).toArray (by rw [Nat.zero_add, Nat.mul_one]; exact rB_set (show (w36 r q).length = 36 by first | rfl | (simp only [List.length_set, List.length_append, List.length_replicate, List.length_cons, List.length_nil, List.length_map, List.length_range, List.length_take, List.length_drop, fillL_len, HW36, rv_len, synL_len, HDL, hr]; done) | (simp only [List.length_set, List.length_append, List.length_replicate, List.length_cons, List.length_nil, List.length_map, List.length_range, List.length_take, List.length_drop, fillL_len, HW36, rv_len, synL_len, HDL, hr]; omega))) (by rw [Nat.zero_add, Nat.mul_one]; exact rL_lt (by omega))])
        (fun ηq14 L => L.set 2 ((ηq2 0).blk 0, Obj.cells (rB 36 ((w36 r q).set ((locF (co (synL (w36 r q) (rvirt_0 x false)))).place.toNat) (((w36 r q).getD ((locF (co (synL (w36 r q) (rvirt_0 x false)))).place.toNat) 0) ^^^ ((locF (co (synL (w36 r q) (rvirt_0 x false)))).val)))).toArray 79 (0, 0))) (by kernel_rfl) OW (fun _ => by kernel_rfl) ?_
      clear OW; intro ηq14 ysq14 Wq14 OW
      simp only [↓putE_cons, ↓putE_nil, valE, Hint.val, Act.put, List.setIfInBounds_toArray, List.set_cons_succ, List.set_cons_zero]
      gi_upto_region 9 with fail
      have HDG := Lib.hid (by first | exact mend_then (by assumption) | exact mend_else (by assumption))
      refine wpIn_region_re 5 (fun ηq15 => [.al 4 67 (rB 32 (List.replicate 32 0)).toArray])
        (fun ηq15 L => L ++ [((ηq15 0).blk 0, Obj.cells (rB 32 (List.replicate 32 0)).toArray 67 (0, 0))]) (by kernel_rfl) OW (fun _ => by kernel_rfl) ?_
      clear OW; intro ηq15 ysq15 Wq15 OW
      simp only [↓putE_cons, ↓putE_nil, valE, Hint.val, Act.put, List.setIfInBounds_toArray, List.set_cons_succ, List.set_cons_zero]
      gi_upto_region 10 with fail
      refine wpIn_region_re 5 (fun ηq16 => [.pv (.int .i64 0)])
        (fun ηq16 L => L) (by kernel_rfl) OW (fun _ => by kernel_rfl) ?_
      clear OW; intro ηq16 ysq16 Wq16 OW
      simp only [↓putE_cons, ↓putE_nil, valE, Hint.val, Act.put, List.setIfInBounds_toArray, List.set_cons_succ, List.set_cons_zero]
      gi_wp2
      gi_loopw [12] (fun z12 wr => ∃ t : Nat, t ≤ 32 ∧ z12 = .int .i64 (t : Int) ∧ OwnS [] w [((ηq1 0).blk 0, Obj.cells (rB 72 r).toArray 26 (0, 0)), ((ηq1 1).blk 0, Obj.cells (rB 32 (List.replicate 32 0)).toArray 67 (0, 0)), ((ηq2 0).blk 0, Obj.cells (rB 36 ((w36 r q).set ((locF (co (synL (w36 r q) (rvirt_0 x false)))).place.toNat) (((w36 r q).getD ((locF (co (synL (w36 r q) (rvirt_0 x false)))).place.toNat) 0) ^^^ ((locF (co (synL (w36 r q) (rvirt_0 x false)))).val)))).toArray 79 (0, 0)), ((ηq11 6).blk 0, Obj.cells #[.int .i64 (((locF (co (synL (w36 r q) (rvirt_0 x false)))).kind : Nat) : Int), .int .i64 ((locF (co (synL (w36 r q) (rvirt_0 x false)))).place), .int .u8 (((locF (co (synL (w36 r q) (rvirt_0 x false)))).val).toNat : Int)] 125 (0, 0)), ((ηq15 0).blk 0, Obj.cells (rB 32 (fillL 32 (fun i => (decL (w36 r q) (rvirt_0 x false)).getD i 0) t)).toArray 67 (0, 0))] wr) (fun z12 _ => 32 - (intOf (z12)).toNat)
      case atStart => exact ⟨0, by omega, rfl, (by rw [fillL_zero]; exact OwnS.cast OW.out (by kernel_rfl))⟩
      case round =>
        obtain ⟨t, hk18, rfl, hO⟩ := hrel
        clear OW
        have OW := Lib.hid hO
        clear hO
        gi_upto_region 11 with fail
        refine wpIn_region_re 5 (fun ηq20 => [.pv (.int .i64 (t : Int)),
            .pv (.bool (decide ((t : Int) < 32)))])
          (fun ηq20 L => L) (by kernel_rfl) OW (fun _ => by kernel_rfl) ?_
        clear OW; intro ηq20 ysq20 Wq20 OW
        simp only [↓putE_cons, ↓putE_nil, valE, Hint.val, Act.put, List.setIfInBounds_toArray, List.set_cons_succ, List.set_cons_zero]
        cases hB21 : (decide ((t : Int) < 32))
        case true =>
          have dhB21 := of_decide_eq_true hB21
          gi_upto_region 13 with fail
          refine wpIn_region_re 5 (fun ηq22 => [.pv (.int .i64 (t : Int)),
              .pv (.int .i64 (t : Int)),
              .tv (.int .i64 ((4 + t : Nat) : Int)) (sBin .add 3 (.const (.int .i64 4)) (.tmp 49) (.int .i64 4) (.int .i64 (t : Int))) (fun _ => bin_add_nat (a := 4) (b := t) (by omega)),
              .tv (.pointer (some ⟨(ηq2 0).blk 0, 0 + (4 + t) * 1, none⟩)) (Instr.indexAt 79 (.pointer (some ⟨(ηq2 0).blk 0, 0, none⟩)) (.int .i64 ((4 + t : Nat) : Int))) (fun _ => idx_ar (N := 36) (k := 4 + t) (by kernel_rfl) (by omega)),
              .lt (.int .u8 ((((w36 r q).set ((locF (co (synL (w36 r q) (rvirt_0 x false)))).place.toNat) (((w36 r q).getD ((locF (co (synL (w36 r q) (rvirt_0 x false)))).place.toNat) 0) ^^^ ((locF (co (synL (w36 r q) (rvirt_0 x false)))).val))).getD (4 + t) 0).toNat : Int)) 2 (0 + (4 + t) * 1) ((ηq2 0).blk 0) (rB 36 ((w36 r q).set ((locF (co (synL (w36 r q) (rvirt_0 x false)))).place.toNat) (((w36 r q).getD ((locF (co (synL (w36 r q) (rvirt_0 x false)))).place.toNat) 0) ^^^ ((locF (co (synL (w36 r q) (rvirt_0 x false)))).val)))).toArray 79 (by simpa only [Nat.zero_add, Nat.mul_one] using rB_get (by omega)),
              .tv (.pointer (some ⟨(ηq15 0).blk 0, 0 + t * 1, none⟩)) (Instr.indexAt 67 (.pointer (some ⟨(ηq15 0).blk 0, 0, none⟩)) (.int .i64 (t : Int))) (fun _ => idx_ar (N := 32) (k := t) (by kernel_rfl) (by omega)),
              .sw 4 ((ηq15 0).blk 0) (0 + t * 1) 67 (.int .u8 ((((w36 r q).set ((locF (co (synL (w36 r q) (rvirt_0 x false)))).place.toNat) (((w36 r q).getD ((locF (co (synL (w36 r q) (rvirt_0 x false)))).place.toNat) 0) ^^^ ((locF (co (synL (w36 r q) (rvirt_0 x false)))).val))).getD (4 + t) 0).toNat : Int)) (rB 32 (fillL 32 (fun i => (decL (w36 r q) (rvirt_0 x false)).getD i 0) t)).toArray (rB 32 ((fillL 32 (fun i => (decL (w36 r q) (rvirt_0 x false)).getD i 0) t).set t (((w36 r q).set ((locF (co (synL (w36 r q) (rvirt_0 x false)))).place.toNat) (((w36 r q).getD ((locF (co (synL (w36 r q) (rvirt_0 x false)))).place.toNat) 0) ^^^ ((locF (co (synL (w36 r q) (rvirt_0 x false)))).val))).getD (4 + t) 0))).toArray (by rw [Nat.zero_add, Nat.mul_one]; exact rB_set (show (fillL 32 (fun i => (decL (w36 r q) (rvirt_0 x false)).getD i 0) t).length = 32 by first | rfl | (simp only [List.length_set, List.length_append, List.length_replicate, List.length_cons, List.length_nil, List.length_map, List.length_range, List.length_take, List.length_drop, fillL_len, HW36, rv_len, synL_len, HDL, hr]; done) | (simp only [List.length_set, List.length_append, List.length_replicate, List.length_cons, List.length_nil, List.length_map, List.length_range, List.length_take, List.length_drop, fillL_len, HW36, rv_len, synL_len, HDL, hr]; omega))) (by rw [Nat.zero_add, Nat.mul_one]; exact rL_lt (by omega))])
            (fun ηq22 L => L.set 4 ((ηq15 0).blk 0, Obj.cells (rB 32 ((fillL 32 (fun i => (decL (w36 r q) (rvirt_0 x false)).getD i 0) t).set t (((w36 r q).set ((locF (co (synL (w36 r q) (rvirt_0 x false)))).place.toNat) (((w36 r q).getD ((locF (co (synL (w36 r q) (rvirt_0 x false)))).place.toNat) 0) ^^^ ((locF (co (synL (w36 r q) (rvirt_0 x false)))).val))).getD (4 + t) 0))).toArray 67 (0, 0))) (by kernel_rfl) OW (fun _ => by kernel_rfl) ?_
          clear OW; intro ηq22 ysq22 Wq22 OW
          simp only [↓putE_cons, ↓putE_nil, valE, Hint.val, Act.put, List.setIfInBounds_toArray, List.set_cons_succ, List.set_cons_zero]
          gi_upto_region 12 with fail
          refine wpIn_region_re 5 (fun ηq23 => [.pv (.int .i64 (t : Int)),
              .tv (.int .i64 ((t + 1 : Nat) : Int)) (sBin .add 3 (.tmp 46) (.const (.int .i64 1)) (.int .i64 (t : Int)) (.int .i64 1)) (fun _ => bin_add_nat (a := t) (b := 1) (by omega)),
              .pv (.int .i64 ((t + 1 : Nat) : Int))])
            (fun ηq23 L => L) (by kernel_rfl) OW (fun _ => by kernel_rfl) ?_
          clear OW; intro ηq23 ysq23 Wq23 OW
          simp only [↓putE_cons, ↓putE_nil, valE, Hint.val, Act.put, List.setIfInBounds_toArray, List.set_cons_succ, List.set_cons_zero]
          gi_wp2
          go_roundw
          case rel => exact ⟨t + 1, by omega, by go_num, (by rw [← fillL_set (show t < 32 by omega), ← HDG.out]; exact OwnS.cast OW.out (by kernel_rfl))⟩
          case measure => (simp [intOf] <;> omega)
        have dhB21 := of_decide_eq_false hB21
        obtain rfl : t = 32 := by omega
        have OW := Lib.hid (OwnS.cast (L' := [((ηq1 0).blk 0, Obj.cells (rB 72 r).toArray 26 (0, 0)), ((ηq1 1).blk 0, Obj.cells (rB 32 (List.replicate 32 0)).toArray 67 (0, 0)), ((ηq2 0).blk 0, Obj.cells (rB 36 ((w36 r q).set ((locF (co (synL (w36 r q) (rvirt_0 x false)))).place.toNat) (((w36 r q).getD ((locF (co (synL (w36 r q) (rvirt_0 x false)))).place.toNat) 0) ^^^ ((locF (co (synL (w36 r q) (rvirt_0 x false)))).val)))).toArray 79 (0, 0)), ((ηq11 6).blk 0, Obj.cells #[.int .i64 (((locF (co (synL (w36 r q) (rvirt_0 x false)))).kind : Nat) : Int), .int .i64 ((locF (co (synL (w36 r q) (rvirt_0 x false)))).place), .int .u8 (((locF (co (synL (w36 r q) (rvirt_0 x false)))).val).toNat : Int)] 125 (0, 0)), ((ηq15 0).blk 0, Obj.cells (rB 32 (decL (w36 r q) (rvirt_0 x false))).toArray 67 (0, 0))]) OW.out (by rw [fillL_self (HDL _)]))
        gi_upto_region 14 with fail
        refine wpIn_region_re 5 (fun ηq24 => [.pv (.pointer (some ⟨(ηq11 6).blk 0, 0, none⟩)),
            .ld (.int .i64 (((locF (co (synL (w36 r q) (rvirt_0 x false)))).kind : Nat) : Int)) 3 0,
            .pv (.bool ((((locF (co (synL (w36 r q) (rvirt_0 x false)))).kind : Nat) : Int) == 2)),
            .pv (.bool ((((locF (co (synL (w36 r q) (rvirt_0 x false)))).kind : Nat) : Int) == 2)),
            .pv (.pointer (some ⟨(ηq11 6).blk 0, 1, none⟩)),
            .ld (.int .i64 ((locF (co (synL (w36 r q) (rvirt_0 x false)))).place)) 3 1,
            .pv (.bool (((locF (co (synL (w36 r q) (rvirt_0 x false)))).place) != 38)),
            .pv (.bool (((locF (co (synL (w36 r q) (rvirt_0 x false)))).place) != 38)),
            .pv (.pointer (some ⟨(ηq11 6).blk 0, 2, none⟩)),
            .ld (.int .u8 (((locF (co (synL (w36 r q) (rvirt_0 x false)))).val).toNat : Int)) 3 2,
            .pv (.bool ((((locF (co (synL (w36 r q) (rvirt_0 x false)))).val).toNat : Int) != 128)),
            .pk (.bool ((((locF (co (synL (w36 r q) (rvirt_0 x false)))).place) != 38) || ((((locF (co (synL (w36 r q) (rvirt_0 x false)))).val).toNat : Int) != 128))),
            .pk (.bool (((((locF (co (synL (w36 r q) (rvirt_0 x false)))).kind : Nat) : Int) == 2) && ((((locF (co (synL (w36 r q) (rvirt_0 x false)))).place) != 38) || ((((locF (co (synL (w36 r q) (rvirt_0 x false)))).val).toNat : Int) != 128))))])
          (fun ηq24 L => L) (by kernel_rfl) OW (fun _ => by kernel_rfl) ?_
        clear OW; intro ηq24 ysq24 Wq24 OW
        simp only [↓putE_cons, ↓putE_nil, valE, Hint.val, Act.put, List.setIfInBounds_toArray, List.set_cons_succ, List.set_cons_zero]
        cases hB25 : (((((locF (co (synL (w36 r q) (rvirt_0 x false)))).kind : Nat) : Int) == 2) && ((((locF (co (synL (w36 r q) (rvirt_0 x false)))).place) != 38) || ((((locF (co (synL (w36 r q) (rvirt_0 x false)))).val).toNat : Int) != 128)))
        case true =>
          gi_upto_region 15 with fail
          refine wpIn_region_re 5 (fun ηq26 => [.ls (rB 32 (decL (w36 r q) (rvirt_0 x false))) 4 0,
              .ss 1 ((ηq1 1).blk 0) 0 67 (rB 32 (decL (w36 r q) (rvirt_0 x false))) (rB 32 (decL (w36 r q) (rvirt_0 x false))).toArray,
              .pv (.int .i64 3)])
            (fun ηq26 L => L.set 1 ((ηq1 1).blk 0, Obj.cells (rB 32 (decL (w36 r q) (rvirt_0 x false))).toArray 67 (0, 0))) (by kernel_rfl) OW (fun _ => by kernel_rfl) ?_
          clear OW; intro ηq26 ysq26 Wq26 OW
          simp only [↓putE_cons, ↓putE_nil, valE, Hint.val, Act.put, List.setIfInBounds_toArray, List.set_cons_succ, List.set_cons_zero]
          gi_wp2
          exact leavesS OW [.s (rB 32 (decL (w36 r q) (rvirt_0 x false))) 1, .t (.int .i64 3)] (by kernel_rfl) fun hO => ⟨(by (try simp only [rchips_0]); (repeat (first | rw [hB8] | rw [hB13] | rw [hB21] | rw [hB25] | rw [cond_true] | rw [cond_false])); try rfl), hO.done⟩
        gi_upto_region 16 with fail
        refine wpIn_region_re 5 (fun ηq27 => [.ls (rB 32 (decL (w36 r q) (rvirt_0 x false))) 4 0,
            .pv (.pointer (some ⟨(ηq11 6).blk 0, 0, none⟩)),
            .ld (.int .i64 (((locF (co (synL (w36 r q) (rvirt_0 x false)))).kind : Nat) : Int)) 3 0,
            .ss 1 ((ηq1 1).blk 0) 0 67 (rB 32 (decL (w36 r q) (rvirt_0 x false))) (rB 32 (decL (w36 r q) (rvirt_0 x false))).toArray,
            .pv (.int .i64 (((locF (co (synL (w36 r q) (rvirt_0 x false)))).kind : Nat) : Int))])
          (fun ηq27 L => L.set 1 ((ηq1 1).blk 0, Obj.cells (rB 32 (decL (w36 r q) (rvirt_0 x false))).toArray 67 (0, 0))) (by kernel_rfl) OW (fun _ => by kernel_rfl) ?_
        clear OW; intro ηq27 ysq27 Wq27 OW
        simp only [↓putE_cons, ↓putE_nil, valE, Hint.val, Act.put, List.setIfInBounds_toArray, List.set_cons_succ, List.set_cons_zero]
        gi_wp2
        exact leavesS OW [.s (rB 32 (decL (w36 r q) (rvirt_0 x false))) 1, .t (.int .i64 (((locF (co (synL (w36 r q) (rvirt_0 x false)))).kind : Nat) : Int))] (by kernel_rfl) fun hO => ⟨(by (try simp only [rchips_0]); (repeat (first | rw [hB8] | rw [hB13] | rw [hB21] | rw [hB25] | rw [cond_true] | rw [cond_false])); try rfl), hO.done⟩
    have dhB13 := ne_of_beq_false hB13
    gi_upto_region 9 with fail
    have HDG := Lib.hid (by first | exact mend_then (by assumption) | exact mend_else (by assumption))
    refine wpIn_region_re 5 (fun ηq28 => [.al 4 67 (rB 32 (List.replicate 32 0)).toArray])
      (fun ηq28 L => L ++ [((ηq28 0).blk 0, Obj.cells (rB 32 (List.replicate 32 0)).toArray 67 (0, 0))]) (by kernel_rfl) OW (fun _ => by kernel_rfl) ?_
    clear OW; intro ηq28 ysq28 Wq28 OW
    simp only [↓putE_cons, ↓putE_nil, valE, Hint.val, Act.put, List.setIfInBounds_toArray, List.set_cons_succ, List.set_cons_zero]
    gi_upto_region 10 with fail
    refine wpIn_region_re 5 (fun ηq29 => [.pv (.int .i64 0)])
      (fun ηq29 L => L) (by kernel_rfl) OW (fun _ => by kernel_rfl) ?_
    clear OW; intro ηq29 ysq29 Wq29 OW
    simp only [↓putE_cons, ↓putE_nil, valE, Hint.val, Act.put, List.setIfInBounds_toArray, List.set_cons_succ, List.set_cons_zero]
    gi_wp2
    gi_loopw [12] (fun z12 wr => ∃ t : Nat, t ≤ 32 ∧ z12 = .int .i64 (t : Int) ∧ OwnS [] w [((ηq1 0).blk 0, Obj.cells (rB 72 r).toArray 26 (0, 0)), ((ηq1 1).blk 0, Obj.cells (rB 32 (List.replicate 32 0)).toArray 67 (0, 0)), ((ηq2 0).blk 0, Obj.cells (rB 36 (w36 r q)).toArray 79 (0, 0)), ((ηq11 6).blk 0, Obj.cells #[.int .i64 (((locF (co (synL (w36 r q) (rvirt_0 x false)))).kind : Nat) : Int), .int .i64 ((locF (co (synL (w36 r q) (rvirt_0 x false)))).place), .int .u8 (((locF (co (synL (w36 r q) (rvirt_0 x false)))).val).toNat : Int)] 125 (0, 0)), ((ηq28 0).blk 0, Obj.cells (rB 32 (fillL 32 (fun i => (decL (w36 r q) (rvirt_0 x false)).getD i 0) t)).toArray 67 (0, 0))] wr) (fun z12 _ => 32 - (intOf (z12)).toNat)
    case atStart => exact ⟨0, by omega, rfl, (by rw [fillL_zero]; exact OwnS.cast OW.out (by kernel_rfl))⟩
    case round =>
      obtain ⟨t, hk31, rfl, hO⟩ := hrel
      clear OW
      have OW := Lib.hid hO
      clear hO
      gi_upto_region 11 with fail
      refine wpIn_region_re 5 (fun ηq33 => [.pv (.int .i64 (t : Int)),
          .pv (.bool (decide ((t : Int) < 32)))])
        (fun ηq33 L => L) (by kernel_rfl) OW (fun _ => by kernel_rfl) ?_
      clear OW; intro ηq33 ysq33 Wq33 OW
      simp only [↓putE_cons, ↓putE_nil, valE, Hint.val, Act.put, List.setIfInBounds_toArray, List.set_cons_succ, List.set_cons_zero]
      cases hB34 : (decide ((t : Int) < 32))
      case true =>
        have dhB34 := of_decide_eq_true hB34
        gi_upto_region 13 with fail
        refine wpIn_region_re 5 (fun ηq35 => [.pv (.int .i64 (t : Int)),
            .pv (.int .i64 (t : Int)),
            .tv (.int .i64 ((4 + t : Nat) : Int)) (sBin .add 3 (.const (.int .i64 4)) (.tmp 49) (.int .i64 4) (.int .i64 (t : Int))) (fun _ => bin_add_nat (a := 4) (b := t) (by omega)),
            .tv (.pointer (some ⟨(ηq2 0).blk 0, 0 + (4 + t) * 1, none⟩)) (Instr.indexAt 79 (.pointer (some ⟨(ηq2 0).blk 0, 0, none⟩)) (.int .i64 ((4 + t : Nat) : Int))) (fun _ => idx_ar (N := 36) (k := 4 + t) (by kernel_rfl) (by omega)),
            .lt (.int .u8 (((w36 r q).getD (4 + t) 0).toNat : Int)) 2 (0 + (4 + t) * 1) ((ηq2 0).blk 0) (rB 36 (w36 r q)).toArray 79 (by simpa only [Nat.zero_add, Nat.mul_one] using rB_get (by omega)),
            .tv (.pointer (some ⟨(ηq28 0).blk 0, 0 + t * 1, none⟩)) (Instr.indexAt 67 (.pointer (some ⟨(ηq28 0).blk 0, 0, none⟩)) (.int .i64 (t : Int))) (fun _ => idx_ar (N := 32) (k := t) (by kernel_rfl) (by omega)),
            .sw 4 ((ηq28 0).blk 0) (0 + t * 1) 67 (.int .u8 (((w36 r q).getD (4 + t) 0).toNat : Int)) (rB 32 (fillL 32 (fun i => (decL (w36 r q) (rvirt_0 x false)).getD i 0) t)).toArray (rB 32 ((fillL 32 (fun i => (decL (w36 r q) (rvirt_0 x false)).getD i 0) t).set t ((w36 r q).getD (4 + t) 0))).toArray (by rw [Nat.zero_add, Nat.mul_one]; exact rB_set (show (fillL 32 (fun i => (decL (w36 r q) (rvirt_0 x false)).getD i 0) t).length = 32 by first | rfl | (simp only [List.length_set, List.length_append, List.length_replicate, List.length_cons, List.length_nil, List.length_map, List.length_range, List.length_take, List.length_drop, fillL_len, HW36, rv_len, synL_len, HDL, hr]; done) | (simp only [List.length_set, List.length_append, List.length_replicate, List.length_cons, List.length_nil, List.length_map, List.length_range, List.length_take, List.length_drop, fillL_len, HW36, rv_len, synL_len, HDL, hr]; omega))) (by rw [Nat.zero_add, Nat.mul_one]; exact rL_lt (by omega))])
          (fun ηq35 L => L.set 4 ((ηq28 0).blk 0, Obj.cells (rB 32 ((fillL 32 (fun i => (decL (w36 r q) (rvirt_0 x false)).getD i 0) t).set t ((w36 r q).getD (4 + t) 0))).toArray 67 (0, 0))) (by kernel_rfl) OW (fun _ => by kernel_rfl) ?_
        clear OW; intro ηq35 ysq35 Wq35 OW
        simp only [↓putE_cons, ↓putE_nil, valE, Hint.val, Act.put, List.setIfInBounds_toArray, List.set_cons_succ, List.set_cons_zero]
        gi_upto_region 12 with fail
        refine wpIn_region_re 5 (fun ηq36 => [.pv (.int .i64 (t : Int)),
            .tv (.int .i64 ((t + 1 : Nat) : Int)) (sBin .add 3 (.tmp 46) (.const (.int .i64 1)) (.int .i64 (t : Int)) (.int .i64 1)) (fun _ => bin_add_nat (a := t) (b := 1) (by omega)),
            .pv (.int .i64 ((t + 1 : Nat) : Int))])
          (fun ηq36 L => L) (by kernel_rfl) OW (fun _ => by kernel_rfl) ?_
        clear OW; intro ηq36 ysq36 Wq36 OW
        simp only [↓putE_cons, ↓putE_nil, valE, Hint.val, Act.put, List.setIfInBounds_toArray, List.set_cons_succ, List.set_cons_zero]
        gi_wp2
        go_roundw
        case rel => exact ⟨t + 1, by omega, by go_num, (by rw [← fillL_set (show t < 32 by omega), ← HDG.out]; exact OwnS.cast OW.out (by kernel_rfl))⟩
        case measure => (simp [intOf] <;> omega)
      have dhB34 := of_decide_eq_false hB34
      obtain rfl : t = 32 := by omega
      have OW := Lib.hid (OwnS.cast (L' := [((ηq1 0).blk 0, Obj.cells (rB 72 r).toArray 26 (0, 0)), ((ηq1 1).blk 0, Obj.cells (rB 32 (List.replicate 32 0)).toArray 67 (0, 0)), ((ηq2 0).blk 0, Obj.cells (rB 36 (w36 r q)).toArray 79 (0, 0)), ((ηq11 6).blk 0, Obj.cells #[.int .i64 (((locF (co (synL (w36 r q) (rvirt_0 x false)))).kind : Nat) : Int), .int .i64 ((locF (co (synL (w36 r q) (rvirt_0 x false)))).place), .int .u8 (((locF (co (synL (w36 r q) (rvirt_0 x false)))).val).toNat : Int)] 125 (0, 0)), ((ηq28 0).blk 0, Obj.cells (rB 32 (decL (w36 r q) (rvirt_0 x false))).toArray 67 (0, 0))]) OW.out (by rw [fillL_self (HDL _)]))
      gi_upto_region 14 with fail
      refine wpIn_region_re 5 (fun ηq37 => [.pv (.pointer (some ⟨(ηq11 6).blk 0, 0, none⟩)),
          .ld (.int .i64 (((locF (co (synL (w36 r q) (rvirt_0 x false)))).kind : Nat) : Int)) 3 0,
          .pv (.bool ((((locF (co (synL (w36 r q) (rvirt_0 x false)))).kind : Nat) : Int) == 2)),
          .pv (.bool ((((locF (co (synL (w36 r q) (rvirt_0 x false)))).kind : Nat) : Int) == 2)),
          .pv (.pointer (some ⟨(ηq11 6).blk 0, 1, none⟩)),
          .ld (.int .i64 ((locF (co (synL (w36 r q) (rvirt_0 x false)))).place)) 3 1,
          .pv (.bool (((locF (co (synL (w36 r q) (rvirt_0 x false)))).place) != 38)),
          .pv (.bool (((locF (co (synL (w36 r q) (rvirt_0 x false)))).place) != 38)),
          .pv (.pointer (some ⟨(ηq11 6).blk 0, 2, none⟩)),
          .ld (.int .u8 (((locF (co (synL (w36 r q) (rvirt_0 x false)))).val).toNat : Int)) 3 2,
          .pv (.bool ((((locF (co (synL (w36 r q) (rvirt_0 x false)))).val).toNat : Int) != 128)),
          .pk (.bool ((((locF (co (synL (w36 r q) (rvirt_0 x false)))).place) != 38) || ((((locF (co (synL (w36 r q) (rvirt_0 x false)))).val).toNat : Int) != 128))),
          .pk (.bool (((((locF (co (synL (w36 r q) (rvirt_0 x false)))).kind : Nat) : Int) == 2) && ((((locF (co (synL (w36 r q) (rvirt_0 x false)))).place) != 38) || ((((locF (co (synL (w36 r q) (rvirt_0 x false)))).val).toNat : Int) != 128))))])
        (fun ηq37 L => L) (by kernel_rfl) OW (fun _ => by kernel_rfl) ?_
      clear OW; intro ηq37 ysq37 Wq37 OW
      simp only [↓putE_cons, ↓putE_nil, valE, Hint.val, Act.put, List.setIfInBounds_toArray, List.set_cons_succ, List.set_cons_zero]
      cases hB38 : (((((locF (co (synL (w36 r q) (rvirt_0 x false)))).kind : Nat) : Int) == 2) && ((((locF (co (synL (w36 r q) (rvirt_0 x false)))).place) != 38) || ((((locF (co (synL (w36 r q) (rvirt_0 x false)))).val).toNat : Int) != 128)))
      case true =>
        gi_upto_region 15 with fail
        refine wpIn_region_re 5 (fun ηq39 => [.ls (rB 32 (decL (w36 r q) (rvirt_0 x false))) 4 0,
            .ss 1 ((ηq1 1).blk 0) 0 67 (rB 32 (decL (w36 r q) (rvirt_0 x false))) (rB 32 (decL (w36 r q) (rvirt_0 x false))).toArray,
            .pv (.int .i64 3)])
          (fun ηq39 L => L.set 1 ((ηq1 1).blk 0, Obj.cells (rB 32 (decL (w36 r q) (rvirt_0 x false))).toArray 67 (0, 0))) (by kernel_rfl) OW (fun _ => by kernel_rfl) ?_
        clear OW; intro ηq39 ysq39 Wq39 OW
        simp only [↓putE_cons, ↓putE_nil, valE, Hint.val, Act.put, List.setIfInBounds_toArray, List.set_cons_succ, List.set_cons_zero]
        gi_wp2
        exact leavesS OW [.s (rB 32 (decL (w36 r q) (rvirt_0 x false))) 1, .t (.int .i64 3)] (by kernel_rfl) fun hO => ⟨(by (try simp only [rchips_0]); (repeat (first | rw [hB8] | rw [hB13] | rw [hB34] | rw [hB38] | rw [cond_true] | rw [cond_false])); try rfl), hO.done⟩
      gi_upto_region 16 with fail
      refine wpIn_region_re 5 (fun ηq40 => [.ls (rB 32 (decL (w36 r q) (rvirt_0 x false))) 4 0,
          .pv (.pointer (some ⟨(ηq11 6).blk 0, 0, none⟩)),
          .ld (.int .i64 (((locF (co (synL (w36 r q) (rvirt_0 x false)))).kind : Nat) : Int)) 3 0,
          .ss 1 ((ηq1 1).blk 0) 0 67 (rB 32 (decL (w36 r q) (rvirt_0 x false))) (rB 32 (decL (w36 r q) (rvirt_0 x false))).toArray,
          .pv (.int .i64 (((locF (co (synL (w36 r q) (rvirt_0 x false)))).kind : Nat) : Int))])
        (fun ηq40 L => L.set 1 ((ηq1 1).blk 0, Obj.cells (rB 32 (decL (w36 r q) (rvirt_0 x false))).toArray 67 (0, 0))) (by kernel_rfl) OW (fun _ => by kernel_rfl) ?_
      clear OW; intro ηq40 ysq40 Wq40 OW
      simp only [↓putE_cons, ↓putE_nil, valE, Hint.val, Act.put, List.setIfInBounds_toArray, List.set_cons_succ, List.set_cons_zero]
      gi_wp2
      exact leavesS OW [.s (rB 32 (decL (w36 r q) (rvirt_0 x false))) 1, .t (.int .i64 (((locF (co (synL (w36 r q) (rvirt_0 x false)))).kind : Nat) : Int))] (by kernel_rfl) fun hO => ⟨(by (try simp only [rchips_0]); (repeat (first | rw [hB8] | rw [hB13] | rw [hB34] | rw [hB38] | rw [cond_true] | rw [cond_false])); try rfl), hO.done⟩
end Go.Proofs.Ytkeheickaogpiaa
