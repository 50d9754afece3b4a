/- The codec: decoding, encoding. -/
import Derived.Test.YtkeheickaogpiaaCdE
import Derived.WalkKit
import Derived.Sort.CutIn
import Derived.IntWalk
namespace Go.Proofs.Ytkeheickaogpiaa
open Go Go.RowKit Go.Shelf
attribute [local go_sem] Oper.semAt_some
set_option linter.unusedVariables false
set_option linter.unusedSimpArgs false


/-- A list whose first places are told. -/
def fillG {α : Type} (d : α) (N : Nat) (f : Nat → α) (n : Nat) : List α := (List.range N).map fun i => if i < n then f i else d
theorem fillG_len {α : Type} (d : α) (N : Nat) (f : Nat → α) (n : Nat) : (fillG d N f n).length = N := by unfold fillG; rw [List.length_map, List.length_range]
theorem fillG_get {α : Type} {d : α} {N : Nat} {f : Nat → α} {n i : Nat} (h : i < N) : (fillG d N f n).getD i d = if i < n then f i else d := by
  unfold fillG
  rw [List.getD_eq_getElem?_getD, List.getElem?_map, List.getElem?_range h]
  rfl
theorem fillG_set {α : Type} {d : α} {N : Nat} {f : Nat → α} {n : Nat} (h : n < N) : (fillG d N f n).set n (f n) = fillG d N f (n + 1) := by
  apply List.ext_getElem?
  intro i
  rw [List.getElem?_set]
  rcases Nat.lt_or_ge i N with hi | hi
  · unfold fillG
    simp only [List.length_map, List.length_range, List.getElem?_map, List.getElem?_range hi, Option.map_some]
    by_cases e : n = i
    · subst e; rw [if_pos rfl, if_pos h, if_pos (by omega)]
    · rw [if_neg e]
      by_cases e2 : i < n
      · rw [if_pos e2, if_pos (by omega)]
      · rw [if_neg e2, if_neg (by omega)]
  · rw [List.getElem?_eq_none (l := fillG d N f (n + 1)) (by rw [fillG_len]; exact hi), List.getElem?_eq_none (l := fillG d N f n) (by rw [fillG_len]; exact hi), fillG_len]
    rw [if_neg (by omega)]
theorem fillG_zero {α : Type} (d : α) (N : Nat) (f : Nat → α) : fillG d N f 0 = List.replicate N d := by
  apply List.ext_getElem?
  intro i
  rcases Nat.lt_or_ge i N with hi | hi
  · unfold fillG
    simp [hi]
  · rw [List.getElem?_eq_none (by rw [fillG_len]; exact hi), List.getElem?_eq_none (by simpa using hi)]
/-- The words of raw bytes, as they are told. -/
def w9 (xs : List UInt8) (k : Nat) : List UInt8 := (xs.drop (9 * k)).take 9
def w36 (xs : List UInt8) (k : Nat) : List UInt8 := (xs.drop (36 * k)).take 36
def dW (xs : List UInt8) (x : Int) (k : Nat) : Nat := hsD (numO (w9 xs k) 0 8) ((w9 xs k).getD 8 0) ((par23 x : Nat) : Int)
def dK (xs : List UInt8) (x : Int) (k : Nat) : Int := dbits_0 (w9 xs k) x
def cW (xs : List UInt8) (x : Int) (k : Nat) : List UInt8 := decL (w36 xs k) (dvirt_0 x false)
def cK (xs : List UInt8) (x : Int) (k : Nat) : Int := dchips_0 (w36 xs k) x
theorem hsD_lt {d : Nat} {k : UInt8} {a : Int} (h : d < 18446744073709551616) : hsD d k a < 18446744073709551616 := by
  unfold hsD Hs.decD
  split
  · rename_i h2
    exact Nat.xor_lt_two_pow (n := 64) h (Nat.pow_lt_pow_right (by decide) (by omega))
  · exact h
theorem dW_lt (xs : List UInt8) (x : Int) (k : Nat) : dW xs x k < 18446744073709551616 := hsD_lt (numO_lt64 _ _ (by decide))
theorem fillG_lt {N : Nat} {f : Nat → Nat} {n B : Nat} (hB : 0 < B) (h : ∀ i, f i < B) (i : Nat) : (fillG 0 N f n).getD i 0 < B := by
  rcases Nat.lt_or_ge i N with hi | hi
  · rw [fillG_get hi]; split
    · exact h i
    · exact hB
  · rw [List.getD_eq_getElem?_getD, List.getElem?_eq_none (by rw [fillG_len]; exact hi)]; exact hB
theorem w36_len {xs : List UInt8} {k : Nat} (hx : xs.length = 72) (hk : k < 2) : (w36 xs k).length = 36 := by unfold w36; rw [List.length_take, List.length_drop]; omega
/-- Halves, as they come. -/
def hvT (f : Nat → List UInt8) (k : Nat) : List UInt8 := (List.range k).flatMap f ++ List.replicate (64 - 32 * k) 0
theorem fm_len {f : Nat → List UInt8} {m : Nat} (h : ∀ i, (f i).length = m) (k : Nat) : ((List.range k).flatMap f).length = m * k := by
  induction k with
  | zero => rfl
  | succ k ih => rw [List.range_succ, List.flatMap_append, List.length_append, ih, List.flatMap_singleton, h, Nat.mul_succ]
theorem enc_succ {f : Nat → List UInt8} {m N : Nat} (h : ∀ i, (f i).length = m) {k : Nat} :
    ((List.range k).flatMap f ++ List.replicate (N - m * k) (0 : UInt8)).take (m * k) ++ f k ++ ((List.range k).flatMap f ++ List.replicate (N - m * k) (0 : UInt8)).drop (m * k + m) = (List.range (k + 1)).flatMap f ++ List.replicate (N - m * (k + 1)) 0 := by
  have h1 := fm_len h k
  rw [List.take_left' h1, ← List.drop_drop, List.drop_left' h1, List.drop_replicate, List.range_succ, List.flatMap_append, List.flatMap_singleton, show N - m * k - m = N - m * (k + 1) by rw [Nat.mul_succ]; omega]
theorem hvT_len {f : Nat → List UInt8} (h : ∀ i, (f i).length = 32) {k : Nat} (hk : k ≤ 2) : (hvT f k).length = 64 := by
  unfold hvT
  rw [List.length_append, fm_len h, List.length_replicate]
  omega
theorem hvT_succ {f : Nat → List UInt8} (h : ∀ i, (f i).length = 32) {k : Nat} : (hvT f k).take (0 + k * 32) ++ f k ++ (hvT f k).drop (0 + k * 32 + 32) = hvT f (k + 1) := by
  have := enc_succ (N := 64) h (k := k)
  rw [Nat.zero_add, Nat.mul_comm k 32]
  exact this
/-- Raw bytes, as words are put. -/
def encT (n : Nat) (f : Nat → List UInt8) (k : Nat) : List UInt8 := (List.range k).flatMap f ++ List.replicate (72 - n * k) 0
theorem encT_len {n : Nat} {f : Nat → List UInt8} (h : ∀ i, (f i).length = n) {k : Nat} (hk : n * k ≤ 72) : (encT n f k).length = 72 := by
  unfold encT
  rw [List.length_append, fm_len h, List.length_replicate]
  omega
theorem encT_succ {n : Nat} {f : Nat → List UInt8} (h : ∀ i, (f i).length = n) {k : Nat} : (encT n f k).take (n * k) ++ f k ++ (encT n f k).drop (n * k + n) = encT n f (k + 1) := enc_succ h
theorem encT_zero (n : Nat) (f : Nat → List UInt8) : encT n f 0 = List.replicate 72 0 := rfl
theorem hvT_zero (f : Nat → List UInt8) : hvT f 0 = List.replicate 64 0 := rfl
theorem cW_len {xs : List UInt8} {x : Int} {k : Nat} (h : (w36 xs k).length = 36) : (cW xs x k).length = 32 := decL_len h
def cWx (xs : List UInt8) (x : Int) (k : Nat) : List UInt8 := if k < 2 then cW xs x k else List.replicate 32 0
theorem cWx_lt {xs : List UInt8} {x : Int} {k : Nat} (h : k < 2) : cWx xs x k = cW xs x k := if_pos h
theorem cWx_len {xs : List UInt8} (hx : xs.length = 72) (x : Int) (k : Nat) : (cWx xs x k).length = 32 := by
  unfold cWx
  split
  · rename_i h; exact cW_len (w36_len hx h)
  · rfl
set_option maxRecDepth 100000 in
set_option maxHeartbeats 1000000 in
theorem ddec1_any (cc hb cb : Nat) (xs : List UInt8) (hx : xs.length = 72) (x : Int) (h0 : -9223372036854775808 ≤ x) (h1 : x ≤ 9223372036854775807) (w : World) (H : Has [(cc, Obj.cells #[.pointer (some ⟨hb, 0, none⟩), .pointer (some ⟨cb, 0, none⟩)] 61 (0, 0)), (hb, Obj.cells hsN 102 (0, 0))] w) : Calls Try.prog 33 #[.pointer (some ⟨cc, 0, none⟩), .int .i64 1, .agg (rB 72 xs).toArray, .int .i64 x] w fun e w' => ∃ E : Env, e = .returned (.tuple #[.agg (rB 64 (fillL 64 (fwB (fillG 0 8 (dW xs x) 8)) (8 * 8))).toArray, .slice (some ⟨E.blk 0, 0, none⟩) 8 (8 + (E.num 0))]) ∧ Step [] [(E.blk 0, Obj.cells (rowZ (slF eI ((List.range 8).map (dK xs x))) [.int .i64 0] (E.num 0)) 3 (0, 0))] w w' := by
  have OW : Hid (OwnS [cc, hb] w [(cc, Obj.cells #[.pointer (some ⟨hb, 0, none⟩), .pointer (some ⟨cb, 0, none⟩)] 61 (0, 0)), (hb, Obj.cells hsN 102 (0, 0))] w) := Lib.hid (OwnS.start H)
  refine (callsIn_wide (n := 6)).1 ?_
  refine callsIn_of_wp_marks Try.func33 rfl trivial ?_ rfl
  simp only [Try.ntmps33, List.size_toArray, List.length_cons, List.length_nil, Nat.reduceAdd, Nat.reduceSub, Array.replicate_succ, Array.replicate_zero, List.push_toArray, List.append_toArray, List.nil_append, List.cons_append]
  gi_upto_region 0 with fail
  refine wpIn_region_re 4 (fun ηq1 => [.bx 2 27 (.agg (rB 72 xs).toArray),
      .al 3 23 (rB 64 (List.replicate 64 0)).toArray,
      .pv (.slice none 0 0)])
    (fun ηq1 L => L ++ [((ηq1 0).blk 0, Obj.cells (rB 72 xs).toArray 27 (0, 0)), ((ηq1 1).blk 0, Obj.cells (rB 64 (List.replicate 64 0)).toArray 23 (0, 0))]) (by kernel_rfl) OW (fun _ => by kernel_rfl) ?_
  clear OW; intro ηq1 ysq1 Wq1 OW
  simp only [↓putE_cons, ↓putE_nil, valE, Hint.val, Act.put, List.setIfInBounds_toArray, List.set_cons_succ, List.set_cons_zero]
  gi_upto_region 1 with fail
  refine wpIn_region_re 4 (fun ηq2 => [.pv (.slice none 0 0)])
    (fun ηq2 L => L) (by kernel_rfl) OW (fun _ => by kernel_rfl) ?_
  clear OW; intro ηq2 ysq2 Wq2 OW
  simp only [↓putE_cons, ↓putE_nil, valE, Hint.val, Act.put, List.setIfInBounds_toArray, List.set_cons_succ, List.set_cons_zero]
  gi_upto_region 2 with fail
  refine wpIn_region_re 4 (fun ηq3 => [.pv (.int .i64 1),
      .pv (.bool true)])
    (fun ηq3 L => L) (by kernel_rfl) OW (fun _ => by kernel_rfl) ?_
  clear OW; intro ηq3 ysq3 Wq3 OW
  simp only [↓putE_cons, ↓putE_nil, valE, Hint.val, Act.put, List.setIfInBounds_toArray, List.set_cons_succ, List.set_cons_zero]
  gi_upto_region 3 with fail
  refine wpIn_region_re 5 (fun ηq4 => [.al 4 110 (rW 8 (List.replicate 8 0)).toArray])
    (fun ηq4 L => L ++ [((ηq4 0).blk 0, Obj.cells (rW 8 (List.replicate 8 0)).toArray 110 (0, 0))]) (by kernel_rfl) OW (fun _ => by kernel_rfl) ?_
  clear OW; intro ηq4 ysq4 Wq4 OW
  simp only [↓putE_cons, ↓putE_nil, valE, Hint.val, Act.put, List.setIfInBounds_toArray, List.set_cons_succ, List.set_cons_zero]
  gi_upto_region 4 with fail
  refine wpIn_region_re 5 (fun ηq5 => [.pv (.int .i64 0)])
    (fun ηq5 L => L) (by kernel_rfl) OW (fun _ => by kernel_rfl) ?_
  clear OW; intro ηq5 ysq5 Wq5 OW
  simp only [↓putE_cons, ↓putE_nil, valE, Hint.val, Act.put, List.setIfInBounds_toArray, List.set_cons_succ, List.set_cons_zero]
  gi_wp2
  gi_loopw [21, 10] (fun z21 z10 wr => ∃ k : Nat, k ≤ 8 ∧ z21 = .int .i64 (k : Int) ∧ ((k = 0 ∧ z10 = .slice none 0 0 ∧ OwnS [cc, hb] w [(cc, Obj.cells #[.pointer (some ⟨hb, 0, none⟩), .pointer (some ⟨cb, 0, none⟩)] 61 (0, 0)), (hb, Obj.cells hsN 102 (0, 0)), ((ηq1 0).blk 0, Obj.cells (rB 72 xs).toArray 27 (0, 0)), ((ηq1 1).blk 0, Obj.cells (rB 64 (List.replicate 64 0)).toArray 23 (0, 0)), ((ηq4 0).blk 0, Obj.cells (rW 8 (fillG 0 8 (dW xs x) k)).toArray 110 (0, 0))] wr) ∨ (∃ bN rN : Nat, z10 = .slice (some ⟨bN, 0, none⟩) k (k + rN) ∧ OwnS [cc, hb] w [(cc, Obj.cells #[.pointer (some ⟨hb, 0, none⟩), .pointer (some ⟨cb, 0, none⟩)] 61 (0, 0)), (hb, Obj.cells hsN 102 (0, 0)), ((ηq1 0).blk 0, Obj.cells (rB 72 xs).toArray 27 (0, 0)), ((ηq1 1).blk 0, Obj.cells (rB 64 (List.replicate 64 0)).toArray 23 (0, 0)), ((ηq4 0).blk 0, Obj.cells (rW 8 (fillG 0 8 (dW xs x) k)).toArray 110 (0, 0)), (bN, Obj.cells (rowZ (slF eI ((List.range k).map (dK xs x))) [.int .i64 0] rN) 3 (0, 0))] wr))) (fun z21 z10 _ => 8 - (intOf (z21)).toNat)
  case atStart => exact ⟨0, by omega, rfl, .inl ⟨rfl, rfl, (by rw [fillG_zero]; exact OwnS.cast OW.out (by kernel_rfl))⟩⟩
  case round =>
    obtain ⟨k, hk7, rfl, hO⟩ := hrel
    clear OW
    rcases hO with ⟨hnil, rfl, hO⟩ | ⟨bN, rN, rfl, hO⟩
    ·
      subst hnil
      have OW := Lib.hid hO
      clear hO
      gi_upto_region 5 with fail
      refine wpIn_region_re 5 (fun ηq9 => [.pv (.bool true)])
        (fun ηq9 L => L) (by kernel_rfl) OW (fun _ => by kernel_rfl) ?_
      clear OW; intro ηq9 ysq9 Wq9 OW
      simp only [↓putE_cons, ↓putE_nil, valE, Hint.val, Act.put, List.setIfInBounds_toArray, List.set_cons_succ, List.set_cons_zero]
      gi_upto_region 6 with fail
      refine wpIn_region_re 5 (fun ηq10 => [.pv (.int .i64 0),
          .pv (.int .i64 0)])
        (fun ηq10 L => L) (by kernel_rfl) OW (fun _ => by kernel_rfl) ?_
      clear OW; intro ηq10 ysq10 Wq10 OW
      simp only [↓putE_cons, ↓putE_nil, valE, Hint.val, Act.put, List.setIfInBounds_toArray, List.set_cons_succ, List.set_cons_zero]
      gi_upto_region 7 with fail
      refine wpIn_region_re 6 (fun ηq11 => [.pv (.pointer (some ⟨cc, 0, none⟩)),
          .ls (rB 72 xs) 2 0,
          .pv (.int .i64 1),
          .pv (.int .i64 0),
          .cl 59 #[.agg (rB 72 xs).toArray, .int .i64 1, .int .i64 0] (fun E => .slice (some ⟨E.blk 0, 0, none⟩) 9 (9 + E.num 0)) [] [] (fun E => [(5, (E.blk 0, Obj.cells (rowZ (slF eB ((xs.drop (9 * 0)).take 9)) [.int .u8 0] (E.num 0)) 5 (0, 0)))]) (enters_of Try.func59 (by kernel_rfl) rfl) (fun w' H => callsIn_wide.2 (dWord_any xs (by first | rfl | (simp only [List.length_set, List.length_append, List.length_replicate, List.length_cons, List.length_nil, List.length_map, List.length_range, List.length_take, List.length_drop, fillG_len, fillL_len, hx]; done) | (simp only [List.length_set, List.length_append, List.length_replicate, List.length_cons, List.length_nil, List.length_map, List.length_range, List.length_take, List.length_drop, fillG_len, fillL_len, hx]; omega)) 1 9 8 0 rfl rfl (by omega) (by omega) (by omega) (by omega) w' H)),
          .pv (.int .i64 x),
          .cl 58 #[.pointer (some ⟨cc, 0, none⟩), .slice (some ⟨(ηq11 4).blk 0, 0, none⟩) 9 (9 + (ηq11 4).num 0), .int .i64 x] (fun E => .tuple #[.int .u64 ((hsD (numO ((xs.drop (9 * 0)).take 9) 0 8) (((xs.drop (9 * 0)).take 9).getD 8 0) ((par23 x : Nat) : Int) : Nat) : Int), .int .i64 (dbits_0 ((xs.drop (9 * 0)).take 9) x)]) [(0, (cc, Obj.cells #[.pointer (some ⟨hb, 0, none⟩), .pointer (some ⟨cb, 0, none⟩)] 61 (0, 0))), (1, (hb, Obj.cells hsN 102 (0, 0))), (5, ((ηq11 4).blk 0, Obj.cells (rowZ (slF eB ((xs.drop (9 * 0)).take 9)) [.int .u8 0] ((ηq11 4).num 0)) 5 (0, 0)))] [] (fun E => []) (enters_of Try.func58 (by kernel_rfl) rfl) (fun w' H => cN (callsIn_wide.2 (dbits_any cc hb cb ((ηq11 4).blk 0) (9 + (ηq11 4).num 0) ((ηq11 4).num 0) ((xs.drop (9 * 0)).take 9) (by first | rfl | (simp only [List.length_set, List.length_append, List.length_replicate, List.length_cons, List.length_nil, List.length_map, List.length_range, List.length_take, List.length_drop, fillG_len, fillL_len, hx]; done) | (simp only [List.length_set, List.length_append, List.length_replicate, List.length_cons, List.length_nil, List.length_map, List.length_range, List.length_take, List.length_drop, fillG_len, fillL_len, hx]; omega)) x (by omega) (by omega) (by omega) w' H))),
          .pv (.tuple #[.int .u64 ((hsD (numO ((xs.drop (9 * 0)).take 9) 0 8) (((xs.drop (9 * 0)).take 9).getD 8 0) ((par23 x : Nat) : Int) : Nat) : Int), .int .i64 (dbits_0 ((xs.drop (9 * 0)).take 9) x)]),
          .pv (.int .u64 ((hsD (numO ((xs.drop (9 * 0)).take 9) 0 8) (((xs.drop (9 * 0)).take 9).getD 8 0) ((par23 x : Nat) : Int) : Nat) : Int)),
          .pv (.int .i64 (dbits_0 ((xs.drop (9 * 0)).take 9) x)),
          .pv (.int .u64 ((hsD (numO ((xs.drop (9 * 0)).take 9) 0 8) (((xs.drop (9 * 0)).take 9).getD 8 0) ((par23 x : Nat) : Int) : Nat) : Int)),
          .pv (.int .i64 (dbits_0 ((xs.drop (9 * 0)).take 9) x))])
        (fun ηq11 L => L ++ [((ηq11 4).blk 0, Obj.cells (rowZ (slF eB ((xs.drop (9 * 0)).take 9)) [.int .u8 0] ((ηq11 4).num 0)) 5 (0, 0))]) (by kernel_rfl) OW (fun _ => by kernel_rfl) ?_
      clear OW; intro ηq11 ysq11 Wq11 OW
      simp only [↓putE_cons, ↓putE_nil, valE, Hint.val, Act.put, List.setIfInBounds_toArray, List.set_cons_succ, List.set_cons_zero]
      gi_upto_region 8 with fail
      refine wpIn_region_re 6 (fun ηq12 => [.pv (.int .i64 0),
          .pv (.int .u64 ((hsD (numO ((xs.drop (9 * 0)).take 9) 0 8) (((xs.drop (9 * 0)).take 9).getD 8 0) ((par23 x : Nat) : Int) : Nat) : Int)),
          .pv (.pointer (some ⟨(ηq4 0).blk 0, 0, none⟩)),
          .sw 4 ((ηq4 0).blk 0) 0 110 (.int .u64 ((hsD (numO ((xs.drop (9 * 0)).take 9) 0 8) (((xs.drop (9 * 0)).take 9).getD 8 0) ((par23 x : Nat) : Int) : Nat) : Int)) (rW 8 (fillG 0 8 (dW xs x) 0)).toArray (rW 8 ((fillG 0 8 (dW xs x) 0).set 0 (hsD (numO ((xs.drop (9 * 0)).take 9) 0 8) (((xs.drop (9 * 0)).take 9).getD 8 0) ((par23 x : Nat) : Int)))).toArray (rW_set (show (fillG 0 8 (dW xs x) 0).length = 8 by first | rfl | (simp only [List.length_set, List.length_append, List.length_replicate, List.length_cons, List.length_nil, List.length_map, List.length_range, List.length_take, List.length_drop, fillG_len, fillL_len, hx]; done) | (simp only [List.length_set, List.length_append, List.length_replicate, List.length_cons, List.length_nil, List.length_map, List.length_range, List.length_take, List.length_drop, fillG_len, fillL_len, hx]; omega))) (rL_lt (by decide))])
        (fun ηq12 L => L.set 4 ((ηq4 0).blk 0, Obj.cells (rW 8 ((fillG 0 8 (dW xs x) 0).set 0 (hsD (numO ((xs.drop (9 * 0)).take 9) 0 8) (((xs.drop (9 * 0)).take 9).getD 8 0) ((par23 x : Nat) : Int)))).toArray 110 (0, 0))) (by kernel_rfl) OW (fun _ => by kernel_rfl) ?_
      clear OW; intro ηq12 ysq12 Wq12 OW
      simp only [↓putE_cons, ↓putE_nil, valE, Hint.val, Act.put, List.setIfInBounds_toArray, List.set_cons_succ, List.set_cons_zero]
      gi_upto_region 9 with fail
      refine wpIn_region_re 8 (fun ηq13 => [.pv (.slice none 0 0),
          .pv (.int .i64 (dbits_0 ((xs.drop (9 * 0)).take 9) x)),
          .gn (vS (Instr.buildSlice 70 1 #[(0, .int .i64 (dbits_0 ((xs.drop (9 * 0)).take 9) x))])) (fun E => .slice (some ⟨E.blk 0, 0, none⟩) 1 1) [] [] (fun E => [(6, (E.blk 0, Obj.cells #[.int .i64 (dbits_0 ((xs.drop (9 * 0)).take 9) x)] 3 (0, 0)))]) (acts_new (v := fun g => .slice (some ⟨g, 0, none⟩) 1 1) (fun _ => by kernel_rfl)),
          .gn (sApp 70 70 (.slice none 0 0) (.slice (some ⟨(ηq13 2).blk 0, 0, none⟩) 1 1)) (fun E => .slice (some ⟨E.blk 0, 0, none⟩) 1 (1 + E.num 0)) [(6, ((ηq13 2).blk 0, Obj.cells #[.int .i64 (dbits_0 ((xs.drop (9 * 0)).take 9) x)] 3 (0, 0)))] [] (fun E => [(7, (E.blk 0, Obj.cells (rowZ (slF eI ([(dbits_0 ((xs.drop (9 * 0)).take 9) x)])) [.int .i64 0] (E.num 0)) 3 (0, 0)))]) (acts_app0 (news := slF eI ([(dbits_0 ((xs.drop (9 * 0)).take 9) x)])) slT_I (slF_lenk (k := 1) (fun _ => rfl) (by first | rfl | omega | (simp only [List.length_set, List.length_append, List.length_replicate, List.length_cons, List.length_nil, List.length_map, List.length_range, List.length_take, List.length_drop, fillG_len, fillL_len, hx]; try omega))) (by kernel_rfl) (by first | omega | decide) (by first | omega | decide)),
          .pv (.slice (some ⟨(ηq13 3).blk 0, 0, none⟩) 1 (1 + (ηq13 3).num 0))])
        (fun ηq13 L => L ++ [((ηq13 2).blk 0, Obj.cells #[.int .i64 (dbits_0 ((xs.drop (9 * 0)).take 9) x)] 3 (0, 0)), ((ηq13 3).blk 0, Obj.cells (rowZ (slF eI ([(dbits_0 ((xs.drop (9 * 0)).take 9) x)])) [.int .i64 0] ((ηq13 3).num 0)) 3 (0, 0))]) (by kernel_rfl) OW (fun _ => by kernel_rfl) ?_
      clear OW; intro ηq13 ysq13 Wq13 OW
      simp only [↓putE_cons, ↓putE_nil, valE, Hint.val, Act.put, List.setIfInBounds_toArray, List.set_cons_succ, List.set_cons_zero]
      gi_upto_region 10 with fail
      refine wpIn_region_re 8 (fun ηq14 => [.pv (.int .i64 1),
          .pv (.int .i64 1)])
        (fun ηq14 L => L) (by kernel_rfl) OW (fun _ => by kernel_rfl) ?_
      clear OW; intro ηq14 ysq14 Wq14 OW
      simp only [↓putE_cons, ↓putE_nil, valE, Hint.val, Act.put, List.setIfInBounds_toArray, List.set_cons_succ, List.set_cons_zero]
      gi_wp2
      go_roundw
      case rel => exact ⟨0 + 1, by omega, by go_num, .inr ⟨((ηq13 3).blk 0), ((ηq13 3).num 0), rfl, (by rw [← fillG_set (by omega), List.range_succ, List.map_append]; exact OwnS.pick OW.out [0, 1, 2, 3, 4, 7] _ (by kernel_rfl))⟩⟩
      case measure => (simp [intOf] <;> omega)
    ·
      have OW := Lib.hid hO
      clear hO
      gi_upto_region 5 with fail
      refine wpIn_region_re 6 (fun ηq15 => [.pv (.bool (decide ((k : Int) < 8)))])
        (fun ηq15 L => L) (by kernel_rfl) OW (fun _ => by kernel_rfl) ?_
      clear OW; intro ηq15 ysq15 Wq15 OW
      simp only [↓putE_cons, ↓putE_nil, valE, Hint.val, Act.put, List.setIfInBounds_toArray, List.set_cons_succ, List.set_cons_zero]
      cases hB16 : (decide ((k : Int) < 8))
      case true =>
        have dhB16 := of_decide_eq_true hB16
        gi_upto_region 6 with fail
        refine wpIn_region_re 6 (fun ηq17 => [.pv (.int .i64 (k : Int)),
            .pv (.int .i64 (k : Int))])
          (fun ηq17 L => L) (by kernel_rfl) OW (fun _ => by kernel_rfl) ?_
        clear OW; intro ηq17 ysq17 Wq17 OW
        simp only [↓putE_cons, ↓putE_nil, valE, Hint.val, Act.put, List.setIfInBounds_toArray, List.set_cons_succ, List.set_cons_zero]
        gi_upto_region 7 with fail
        refine wpIn_region_re 7 (fun ηq18 => [.pv (.pointer (some ⟨cc, 0, none⟩)),
            .ls (rB 72 xs) 2 0,
            .pv (.int .i64 1),
            .pv (.int .i64 (k : Int)),
            .cl 59 #[.agg (rB 72 xs).toArray, .int .i64 1, .int .i64 (k : Int)] (fun E => .slice (some ⟨E.blk 0, 0, none⟩) 9 (9 + E.num 0)) [] [] (fun E => [(6, (E.blk 0, Obj.cells (rowZ (slF eB ((xs.drop (9 * k)).take 9)) [.int .u8 0] (E.num 0)) 5 (0, 0)))]) (enters_of Try.func59 (by kernel_rfl) rfl) (fun w' H => callsIn_wide.2 (dWord_any xs (by first | rfl | (simp only [List.length_set, List.length_append, List.length_replicate, List.length_cons, List.length_nil, List.length_map, List.length_range, List.length_take, List.length_drop, fillG_len, fillL_len, hx]; done) | (simp only [List.length_set, List.length_append, List.length_replicate, List.length_cons, List.length_nil, List.length_map, List.length_range, List.length_take, List.length_drop, fillG_len, fillL_len, hx]; omega)) 1 9 8 k rfl rfl (by omega) (by omega) (by omega) (by omega) w' H)),
            .pv (.int .i64 x),
            .cl 58 #[.pointer (some ⟨cc, 0, none⟩), .slice (some ⟨(ηq18 4).blk 0, 0, none⟩) 9 (9 + (ηq18 4).num 0), .int .i64 x] (fun E => .tuple #[.int .u64 ((hsD (numO ((xs.drop (9 * k)).take 9) 0 8) (((xs.drop (9 * k)).take 9).getD 8 0) ((par23 x : Nat) : Int) : Nat) : Int), .int .i64 (dbits_0 ((xs.drop (9 * k)).take 9) x)]) [(0, (cc, Obj.cells #[.pointer (some ⟨hb, 0, none⟩), .pointer (some ⟨cb, 0, none⟩)] 61 (0, 0))), (1, (hb, Obj.cells hsN 102 (0, 0))), (6, ((ηq18 4).blk 0, Obj.cells (rowZ (slF eB ((xs.drop (9 * k)).take 9)) [.int .u8 0] ((ηq18 4).num 0)) 5 (0, 0)))] [] (fun E => []) (enters_of Try.func58 (by kernel_rfl) rfl) (fun w' H => cN (callsIn_wide.2 (dbits_any cc hb cb ((ηq18 4).blk 0) (9 + (ηq18 4).num 0) ((ηq18 4).num 0) ((xs.drop (9 * k)).take 9) (by first | rfl | (simp only [List.length_set, List.length_append, List.length_replicate, List.length_cons, List.length_nil, List.length_map, List.length_range, List.length_take, List.length_drop, fillG_len, fillL_len, hx]; done) | (simp only [List.length_set, List.length_append, List.length_replicate, List.length_cons, List.length_nil, List.length_map, List.length_range, List.length_take, List.length_drop, fillG_len, fillL_len, hx]; omega)) x (by omega) (by omega) (by omega) w' H))),
            .pv (.tuple #[.int .u64 ((hsD (numO ((xs.drop (9 * k)).take 9) 0 8) (((xs.drop (9 * k)).take 9).getD 8 0) ((par23 x : Nat) : Int) : Nat) : Int), .int .i64 (dbits_0 ((xs.drop (9 * k)).take 9) x)]),
            .pv (.int .u64 ((hsD (numO ((xs.drop (9 * k)).take 9) 0 8) (((xs.drop (9 * k)).take 9).getD 8 0) ((par23 x : Nat) : Int) : Nat) : Int)),
            .pv (.int .i64 (dbits_0 ((xs.drop (9 * k)).take 9) x)),
            .pv (.int .u64 ((hsD (numO ((xs.drop (9 * k)).take 9) 0 8) (((xs.drop (9 * k)).take 9).getD 8 0) ((par23 x : Nat) : Int) : Nat) : Int)),
            .pv (.int .i64 (dbits_0 ((xs.drop (9 * k)).take 9) x))])
          (fun ηq18 L => L ++ [((ηq18 4).blk 0, Obj.cells (rowZ (slF eB ((xs.drop (9 * k)).take 9)) [.int .u8 0] ((ηq18 4).num 0)) 5 (0, 0))]) (by kernel_rfl) OW (fun _ => by kernel_rfl) ?_
        clear OW; intro ηq18 ysq18 Wq18 OW
        simp only [↓putE_cons, ↓putE_nil, valE, Hint.val, Act.put, List.setIfInBounds_toArray, List.set_cons_succ, List.set_cons_zero]
        gi_upto_region 8 with fail
        refine wpIn_region_re 7 (fun ηq19 => [.pv (.int .i64 (k : Int)),
            .pv (.int .u64 ((hsD (numO ((xs.drop (9 * k)).take 9) 0 8) (((xs.drop (9 * k)).take 9).getD 8 0) ((par23 x : Nat) : Int) : Nat) : Int)),
            .tv (.pointer (some ⟨(ηq4 0).blk 0, 0 + k * 1, none⟩)) (Instr.indexAt 110 (.pointer (some ⟨(ηq4 0).blk 0, 0, none⟩)) (.int .i64 (k : Int))) (fun _ => idx_ar (N := 8) (k := k) (by kernel_rfl) (by omega)),
            .sw 4 ((ηq4 0).blk 0) (0 + k * 1) 110 (.int .u64 ((hsD (numO ((xs.drop (9 * k)).take 9) 0 8) (((xs.drop (9 * k)).take 9).getD 8 0) ((par23 x : Nat) : Int) : Nat) : Int)) (rW 8 (fillG 0 8 (dW xs x) k)).toArray (rW 8 ((fillG 0 8 (dW xs x) k).set k (hsD (numO ((xs.drop (9 * k)).take 9) 0 8) (((xs.drop (9 * k)).take 9).getD 8 0) ((par23 x : Nat) : Int)))).toArray (by rw [Nat.zero_add, Nat.mul_one]; exact rW_set (show (fillG 0 8 (dW xs x) k).length = 8 by first | rfl | (simp only [List.length_set, List.length_append, List.length_replicate, List.length_cons, List.length_nil, List.length_map, List.length_range, List.length_take, List.length_drop, fillG_len, fillL_len, hx]; done) | (simp only [List.length_set, List.length_append, List.length_replicate, List.length_cons, List.length_nil, List.length_map, List.length_range, List.length_take, List.length_drop, fillG_len, fillL_len, hx]; omega))) (by rw [Nat.zero_add, Nat.mul_one]; exact rL_lt (by omega))])
          (fun ηq19 L => L.set 4 ((ηq4 0).blk 0, Obj.cells (rW 8 ((fillG 0 8 (dW xs x) k).set k (hsD (numO ((xs.drop (9 * k)).take 9) 0 8) (((xs.drop (9 * k)).take 9).getD 8 0) ((par23 x : Nat) : Int)))).toArray 110 (0, 0))) (by kernel_rfl) OW (fun _ => by kernel_rfl) ?_
        clear OW; intro ηq19 ysq19 Wq19 OW
        simp only [↓putE_cons, ↓putE_nil, valE, Hint.val, Act.put, List.setIfInBounds_toArray, List.set_cons_succ, List.set_cons_zero]
        gi_upto_region 9 with fail
        refine wpIn_region_re 8 (fun ηq20 => [.pv (.slice (some ⟨bN, 0, none⟩) k (k + rN)),
            .pv (.int .i64 (dbits_0 ((xs.drop (9 * k)).take 9) x)),
            .gn (vS (Instr.buildSlice 70 1 #[(0, .int .i64 (dbits_0 ((xs.drop (9 * k)).take 9) x))])) (fun E => .slice (some ⟨E.blk 0, 0, none⟩) 1 1) [] [] (fun E => [(7, (E.blk 0, Obj.cells #[.int .i64 (dbits_0 ((xs.drop (9 * k)).take 9) x)] 3 (0, 0)))]) (acts_new (v := fun g => .slice (some ⟨g, 0, none⟩) 1 1) (fun _ => by kernel_rfl)),
            .gn (sApp 70 70 (.slice (some ⟨bN, 0, none⟩) k (k + rN)) (.slice (some ⟨(ηq20 2).blk 0, 0, none⟩) 1 1)) (fun E => .slice (some ⟨E.blk 0, 0, none⟩) (k + 1) ((k + 1) + E.num 0)) [(5, (bN, Obj.cells (rowZ (slF eI ((List.range k).map (dK xs x))) [.int .i64 0] rN) 3 (0, 0))), (7, ((ηq20 2).blk 0, Obj.cells #[.int .i64 (dbits_0 ((xs.drop (9 * k)).take 9) x)] 3 (0, 0)))] [bN] (fun E => [(5, (E.blk 0, Obj.cells (rowZ (slF eI ((List.range k).map (dK xs x) ++ [(dbits_0 ((xs.drop (9 * k)).take 9) x)])) [.int .i64 0] (E.num 0)) 3 (0, 0)))]) (acts_appF (n := k) (m := 1) (xs := ((List.range k).map (dK xs x))) (ys := ([(dbits_0 ((xs.drop (9 * k)).take 9) x)])) slT_I (slF_lenk (k := 1) (fun _ => rfl) (by first | rfl | omega | (simp only [List.length_set, List.length_append, List.length_replicate, List.length_cons, List.length_nil, List.length_map, List.length_range, List.length_take, List.length_drop, fillG_len, fillL_len, hx]; try omega))) (slF_lenk (k := 1) (fun _ => rfl) (by first | rfl | omega | (simp only [List.length_set, List.length_append, List.length_replicate, List.length_cons, List.length_nil, List.length_map, List.length_range, List.length_take, List.length_drop, fillG_len, fillL_len, hx]; try omega))) (by kernel_rfl) (slF_one (fun _ => rfl) ([(dbits_0 ((xs.drop (9 * k)).take 9) x)])) (by omega)),
            .pv (.slice (some ⟨(ηq20 3).blk 0, 0, none⟩) (k + 1) ((k + 1) + (ηq20 3).num 0))])
          (fun ηq20 L => L.set 5 ((ηq20 3).blk 0, Obj.cells (rowZ (slF eI ((List.range k).map (dK xs x) ++ [(dbits_0 ((xs.drop (9 * k)).take 9) x)])) [.int .i64 0] ((ηq20 3).num 0)) 3 (0, 0)) ++ [((ηq20 2).blk 0, Obj.cells #[.int .i64 (dbits_0 ((xs.drop (9 * k)).take 9) x)] 3 (0, 0))]) (by kernel_rfl) OW (fun _ => by kernel_rfl) ?_
        clear OW; intro ηq20 ysq20 Wq20 OW
        simp only [↓putE_cons, ↓putE_nil, valE, Hint.val, Act.put, List.setIfInBounds_toArray, List.set_cons_succ, List.set_cons_zero]
        gi_upto_region 10 with fail
        refine wpIn_region_re 8 (fun ηq21 => [.tv (.int .i64 ((k + 1 : Nat) : Int)) (sBin .add 3 (.tmp 21) (.const (.int .i64 1)) (.int .i64 (k : Int)) (.int .i64 1)) (fun _ => bin_add_nat (a := k) (b := 1) (by omega)),
            .pv (.int .i64 ((k + 1 : Nat) : Int))])
          (fun ηq21 L => L) (by kernel_rfl) OW (fun _ => by kernel_rfl) ?_
        clear OW; intro ηq21 ysq21 Wq21 OW
        simp only [↓putE_cons, ↓putE_nil, valE, Hint.val, Act.put, List.setIfInBounds_toArray, List.set_cons_succ, List.set_cons_zero]
        gi_wp2
        go_roundw
        case rel => exact ⟨k + 1, by omega, by go_num, .inr ⟨((ηq20 3).blk 0), ((ηq20 3).num 0), rfl, (by rw [← fillG_set (by omega), List.range_succ, List.map_append]; exact OwnS.pick OW.out [0, 1, 2, 3, 4, 5] _ (by kernel_rfl))⟩⟩
        case measure => (simp [intOf] <;> omega)
      have dhB16 := of_decide_eq_false hB16
      obtain rfl : k = 8 := by omega
      gi_upto_region 11 with fail
      refine wpIn_region_re 6 (fun ηq22 => [.ls (rW 8 (fillG 0 8 (dW xs x) 8)) 4 0,
          .cl 60 #[.agg (rW 8 (fillG 0 8 (dW xs x) 8)).toArray] (fun E => .agg (rB 64 (fillL 64 (fwB (fillG 0 8 (dW xs x) 8)) (8 * 8))).toArray) [] [] (fun E => []) (enters_of Try.func60 (by kernel_rfl) rfl) (fun w' H => cB (callsIn_wide.2 (dfrom_any (fillG 0 8 (dW xs x) 8) (by first | rfl | (simp only [List.length_set, List.length_append, List.length_replicate, List.length_cons, List.length_nil, List.length_map, List.length_range, List.length_take, List.length_drop, fillG_len, fillL_len, hx]; done) | (simp only [List.length_set, List.length_append, List.length_replicate, List.length_cons, List.length_nil, List.length_map, List.length_range, List.length_take, List.length_drop, fillG_len, fillL_len, hx]; omega)) (fillG_lt (by decide) (dW_lt xs x)) w'))),
          .pv (.slice (some ⟨bN, 0, none⟩) 8 (8 + rN)),
          .ss 3 ((ηq1 1).blk 0) 0 23 (rB 64 (fillL 64 (fwB (fillG 0 8 (dW xs x) 8)) (8 * 8))) (rB 64 (fillL 64 (fwB (fillG 0 8 (dW xs x) 8)) (8 * 8))).toArray,
          .pv (.slice (some ⟨bN, 0, none⟩) 8 (8 + rN))])
        (fun ηq22 L => L.set 3 ((ηq1 1).blk 0, Obj.cells (rB 64 (fillL 64 (fwB (fillG 0 8 (dW xs x) 8)) (8 * 8))).toArray 23 (0, 0))) (by kernel_rfl) OW (fun _ => by kernel_rfl) ?_
      clear OW; intro ηq22 ysq22 Wq22 OW
      simp only [↓putE_cons, ↓putE_nil, valE, Hint.val, Act.put, List.setIfInBounds_toArray, List.set_cons_succ, List.set_cons_zero]
      gi_wp2
      exact leavesS OW [.s (rB 64 (fillL 64 (fwB (fillG 0 8 (dW xs x) 8)) (8 * 8))) 3, .t (.slice (some ⟨bN, 0, none⟩) 8 (8 + rN))] (by kernel_rfl) fun hO => ⟨⟨fun k => ([bN] : List Nat).getD k 0, fun k => ([] : List (List Value)).getD k [], fun k => ([rN] : List Nat).getD k 0⟩, rfl, OwnS.fin H hO [] [(bN, Obj.cells (rowZ (slF eI ((List.range 8).map (dK xs x))) [.int .i64 0] rN) 3 (0, 0))] [5] [0, 1] (by kernel_rfl)⟩
set_option maxRecDepth 100000 in
set_option maxHeartbeats 1000000 in
theorem ddec2_any (cc hb cb fb gb : Nat) (rest : List Value) (xs : List UInt8) (hx : xs.length = 72) (x : Int) (h0 : -9223372036854775808 ≤ x) (h1 : x ≤ 9223372036854775807) (w : World) (H : Has [(cc, Obj.cells #[.pointer (some ⟨hb, 0, none⟩), .pointer (some ⟨cb, 0, none⟩)] 61 (0, 0)), (cb, Obj.cells #[.pointer (some ⟨fb, 0, none⟩), .slice (some ⟨gb, 0, none⟩) 5 (5 + rest.length)] 109 (0, 0)), (fb, Obj.cells fieldCells 137 (0, 0)), (gb, Obj.cells (rowV genL rest) 5 (0, 0))] w) : Calls Try.prog 33 #[.pointer (some ⟨cc, 0, none⟩), .int .i64 2, .agg (rB 72 xs).toArray, .int .i64 x] w fun e w' => ∃ E : Env, e = .returned (.tuple #[.agg (rB 64 (halfT (hvT (cWx xs x) 2) 2)).toArray, .slice (some ⟨E.blk 0, 0, none⟩) 2 (2 + (E.num 0))]) ∧ Step [] [(E.blk 0, Obj.cells (rowZ (slF eI ((List.range 2).map (cK xs x))) [.int .i64 0] (E.num 0)) 3 (0, 0))] w w' := by
  have OW : Hid (OwnS [cc, cb, fb, gb] w [(cc, Obj.cells #[.pointer (some ⟨hb, 0, none⟩), .pointer (some ⟨cb, 0, none⟩)] 61 (0, 0)), (cb, Obj.cells #[.pointer (some ⟨fb, 0, none⟩), .slice (some ⟨gb, 0, none⟩) 5 (5 + rest.length)] 109 (0, 0)), (fb, Obj.cells fieldCells 137 (0, 0)), (gb, Obj.cells (rowV genL rest) 5 (0, 0))] w) := Lib.hid (OwnS.start H)
  refine (callsIn_wide (n := 6)).1 ?_
  refine callsIn_of_wp_marks Try.func33 rfl trivial ?_ rfl
  simp only [Try.ntmps33, List.size_toArray, List.length_cons, List.length_nil, Nat.reduceAdd, Nat.reduceSub, Array.replicate_succ, Array.replicate_zero, List.push_toArray, List.append_toArray, List.nil_append, List.cons_append]
  gi_upto_region 0 with fail
  refine wpIn_region_re 6 (fun ηq1 => [.bx 4 27 (.agg (rB 72 xs).toArray),
      .al 5 23 (rB 64 (List.replicate 64 0)).toArray,
      .pv (.slice none 0 0)])
    (fun ηq1 L => L ++ [((ηq1 0).blk 0, Obj.cells (rB 72 xs).toArray 27 (0, 0)), ((ηq1 1).blk 0, Obj.cells (rB 64 (List.replicate 64 0)).toArray 23 (0, 0))]) (by kernel_rfl) OW (fun _ => by kernel_rfl) ?_
  clear OW; intro ηq1 ysq1 Wq1 OW
  simp only [↓putE_cons, ↓putE_nil, valE, Hint.val, Act.put, List.setIfInBounds_toArray, List.set_cons_succ, List.set_cons_zero]
  gi_upto_region 1 with fail
  refine wpIn_region_re 6 (fun ηq2 => [.pv (.slice none 0 0)])
    (fun ηq2 L => L) (by kernel_rfl) OW (fun _ => by kernel_rfl) ?_
  clear OW; intro ηq2 ysq2 Wq2 OW
  simp only [↓putE_cons, ↓putE_nil, valE, Hint.val, Act.put, List.setIfInBounds_toArray, List.set_cons_succ, List.set_cons_zero]
  gi_upto_region 2 with fail
  refine wpIn_region_re 6 (fun ηq3 => [.pv (.int .i64 2),
      .pv (.bool false)])
    (fun ηq3 L => L) (by kernel_rfl) OW (fun _ => by kernel_rfl) ?_
  clear OW; intro ηq3 ysq3 Wq3 OW
  simp only [↓putE_cons, ↓putE_nil, valE, Hint.val, Act.put, List.setIfInBounds_toArray, List.set_cons_succ, List.set_cons_zero]
  gi_upto_region 12 with fail
  refine wpIn_region_re 7 (fun ηq4 => [.al 6 114 (rB 64 (List.replicate 64 0)).toArray])
    (fun ηq4 L => L ++ [((ηq4 0).blk 0, Obj.cells (rB 64 (List.replicate 64 0)).toArray 114 (0, 0))]) (by kernel_rfl) OW (fun _ => by kernel_rfl) ?_
  clear OW; intro ηq4 ysq4 Wq4 OW
  simp only [↓putE_cons, ↓putE_nil, valE, Hint.val, Act.put, List.setIfInBounds_toArray, List.set_cons_succ, List.set_cons_zero]
  gi_upto_region 13 with fail
  refine wpIn_region_re 7 (fun ηq5 => [.pv (.int .i64 0)])
    (fun ηq5 L => L) (by kernel_rfl) OW (fun _ => by kernel_rfl) ?_
  clear OW; intro ηq5 ysq5 Wq5 OW
  simp only [↓putE_cons, ↓putE_nil, valE, Hint.val, Act.put, List.setIfInBounds_toArray, List.set_cons_succ, List.set_cons_zero]
  gi_wp2
  gi_loopw [45, 10] (fun z45 z10 wr => ∃ k : Nat, k ≤ 2 ∧ z45 = .int .i64 (k : Int) ∧ ((k = 0 ∧ z10 = .slice none 0 0 ∧ OwnS [cc, cb, fb, gb] w [(cc, Obj.cells #[.pointer (some ⟨hb, 0, none⟩), .pointer (some ⟨cb, 0, none⟩)] 61 (0, 0)), (cb, Obj.cells #[.pointer (some ⟨fb, 0, none⟩), .slice (some ⟨gb, 0, none⟩) 5 (5 + rest.length)] 109 (0, 0)), (fb, Obj.cells fieldCells 137 (0, 0)), (gb, Obj.cells (rowV genL rest) 5 (0, 0)), ((ηq1 0).blk 0, Obj.cells (rB 72 xs).toArray 27 (0, 0)), ((ηq1 1).blk 0, Obj.cells (rB 64 (List.replicate 64 0)).toArray 23 (0, 0)), ((ηq4 0).blk 0, Obj.cells (rB 64 (hvT (cWx xs x) k)).toArray 114 (0, 0))] wr) ∨ (∃ bN rN : Nat, z10 = .slice (some ⟨bN, 0, none⟩) k (k + rN) ∧ OwnS [cc, cb, fb, gb] w [(cc, Obj.cells #[.pointer (some ⟨hb, 0, none⟩), .pointer (some ⟨cb, 0, none⟩)] 61 (0, 0)), (cb, Obj.cells #[.pointer (some ⟨fb, 0, none⟩), .slice (some ⟨gb, 0, none⟩) 5 (5 + rest.length)] 109 (0, 0)), (fb, Obj.cells fieldCells 137 (0, 0)), (gb, Obj.cells (rowV genL rest) 5 (0, 0)), ((ηq1 0).blk 0, Obj.cells (rB 72 xs).toArray 27 (0, 0)), ((ηq1 1).blk 0, Obj.cells (rB 64 (List.replicate 64 0)).toArray 23 (0, 0)), ((ηq4 0).blk 0, Obj.cells (rB 64 (hvT (cWx xs x) k)).toArray 114 (0, 0)), (bN, Obj.cells (rowZ (slF eI ((List.range k).map (cK xs x))) [.int .i64 0] rN) 3 (0, 0))] wr))) (fun z45 z10 _ => 2 - (intOf (z45)).toNat)
  case atStart => exact ⟨0, by omega, rfl, .inl ⟨rfl, rfl, (by rw [hvT_zero]; exact OwnS.cast OW.out (by kernel_rfl))⟩⟩
  case round =>
    obtain ⟨k, hk7, rfl, hO⟩ := hrel
    clear OW
    have HHL := hvT_len (cWx_len hx x) hk7
    rcases hO with ⟨hnil, rfl, hO⟩ | ⟨bN, rN, rfl, hO⟩
    ·
      subst hnil
      have OW := Lib.hid hO
      clear hO
      gi_upto_region 14 with fail
      refine wpIn_region_re 7 (fun ηq9 => [.pv (.bool true)])
        (fun ηq9 L => L) (by kernel_rfl) OW (fun _ => by kernel_rfl) ?_
      clear OW; intro ηq9 ysq9 Wq9 OW
      simp only [↓putE_cons, ↓putE_nil, valE, Hint.val, Act.put, List.setIfInBounds_toArray, List.set_cons_succ, List.set_cons_zero]
      gi_upto_region 15 with fail
      refine wpIn_region_re 7 (fun ηq10 => [.pv (.int .i64 0),
          .pv (.int .i64 0)])
        (fun ηq10 L => L) (by kernel_rfl) OW (fun _ => by kernel_rfl) ?_
      clear OW; intro ηq10 ysq10 Wq10 OW
      simp only [↓putE_cons, ↓putE_nil, valE, Hint.val, Act.put, List.setIfInBounds_toArray, List.set_cons_succ, List.set_cons_zero]
      gi_upto_region 16 with fail
      have HDL : (decL ((xs.drop (36 * 0)).take 36) (dvirt_0 x false)).length = 32 := decL_len (w36_len hx (by omega))
      refine wpIn_region_re 9 (fun ηq11 => [.pv (.pointer (some ⟨cc, 0, none⟩)),
          .ls (rB 72 xs) 4 0,
          .pv (.int .i64 2),
          .pv (.int .i64 0),
          .cl 59 #[.agg (rB 72 xs).toArray, .int .i64 2, .int .i64 0] (fun E => .slice (some ⟨E.blk 0, 0, none⟩) 36 (36 + E.num 0)) [] [] (fun E => [(7, (E.blk 0, Obj.cells (rowZ (slF eB ((xs.drop (36 * 0)).take 36)) [.int .u8 0] (E.num 0)) 5 (0, 0)))]) (enters_of Try.func59 (by kernel_rfl) rfl) (fun w' H => callsIn_wide.2 (dWord_any xs (by first | rfl | (simp only [List.length_set, List.length_append, List.length_replicate, List.length_cons, List.length_nil, List.length_map, List.length_range, List.length_take, List.length_drop, HDL, HHL, hx]; done) | (simp only [List.length_set, List.length_append, List.length_replicate, List.length_cons, List.length_nil, List.length_map, List.length_range, List.length_take, List.length_drop, HDL, HHL, hx]; omega)) 2 36 2 0 rfl rfl (by omega) (by omega) (by omega) (by omega) w' H)),
          .pv (.int .i64 x),
          .cl 61 #[.pointer (some ⟨cc, 0, none⟩), .slice (some ⟨(ηq11 4).blk 0, 0, none⟩) 36 (36 + (ηq11 4).num 0), .int .i64 x] (fun E => .tuple #[.agg (rB 32 (decL ((xs.drop (36 * 0)).take 36) (dvirt_0 x false))).toArray, .int .i64 (dchips_0 ((xs.drop (36 * 0)).take 36) x)]) [(0, (cc, Obj.cells #[.pointer (some ⟨hb, 0, none⟩), .pointer (some ⟨cb, 0, none⟩)] 61 (0, 0))), (1, (cb, Obj.cells #[.pointer (some ⟨fb, 0, none⟩), .slice (some ⟨gb, 0, none⟩) 5 (5 + rest.length)] 109 (0, 0))), (2, (fb, Obj.cells fieldCells 137 (0, 0))), (3, (gb, Obj.cells (rowV genL rest) 5 (0, 0))), (7, ((ηq11 4).blk 0, Obj.cells (rowZ (slF eB ((xs.drop (36 * 0)).take 36)) [.int .u8 0] ((ηq11 4).num 0)) 5 (0, 0)))] [] (fun E => []) (enters_of Try.func61 (by kernel_rfl) rfl) (fun w' H => cN (callsIn_wide.2 (dchips_any cc hb cb fb gb ((ηq11 4).blk 0) (36 + (ηq11 4).num 0) ((ηq11 4).num 0) rest ((xs.drop (36 * 0)).take 36) (by first | rfl | (simp only [List.length_set, List.length_append, List.length_replicate, List.length_cons, List.length_nil, List.length_map, List.length_range, List.length_take, List.length_drop, HDL, HHL, hx]; done) | (simp only [List.length_set, List.length_append, List.length_replicate, List.length_cons, List.length_nil, List.length_map, List.length_range, List.length_take, List.length_drop, HDL, HHL, hx]; omega)) x (by omega) (by omega) w' H))),
          .pv (.tuple #[.agg (rB 32 (decL ((xs.drop (36 * 0)).take 36) (dvirt_0 x false))).toArray, .int .i64 (dchips_0 ((xs.drop (36 * 0)).take 36) x)]),
          .pv (.agg (rB 32 (decL ((xs.drop (36 * 0)).take 36) (dvirt_0 x false))).toArray),
          .pv (.int .i64 (dchips_0 ((xs.drop (36 * 0)).take 36) x)),
          .al 8 67 (rB 32 (List.replicate 32 0)).toArray,
          .ss 8 ((ηq11 10).blk 0) 0 67 (rB 32 (decL ((xs.drop (36 * 0)).take 36) (dvirt_0 x false))) (rB 32 (decL ((xs.drop (36 * 0)).take 36) (dvirt_0 x false))).toArray,
          .pv (.int .i64 (dchips_0 ((xs.drop (36 * 0)).take 36) x))])
        (fun ηq11 L => L ++ [((ηq11 4).blk 0, Obj.cells (rowZ (slF eB ((xs.drop (36 * 0)).take 36)) [.int .u8 0] ((ηq11 4).num 0)) 5 (0, 0)), ((ηq11 10).blk 0, Obj.cells (rB 32 (decL ((xs.drop (36 * 0)).take 36) (dvirt_0 x false))).toArray 67 (0, 0))]) (by kernel_rfl) OW (fun _ => by kernel_rfl) ?_
      clear OW; intro ηq11 ysq11 Wq11 OW
      simp only [↓putE_cons, ↓putE_nil, valE, Hint.val, Act.put, List.setIfInBounds_toArray, List.set_cons_succ, List.set_cons_zero]
      gi_upto_region 17 with fail
      refine wpIn_region_re 9 (fun ηq12 => [.pv (.int .i64 0),
          .ls (rB 32 (decL ((xs.drop (36 * 0)).take 36) (dvirt_0 x false))) 8 0,
          .pv (.pointer (some ⟨(ηq4 0).blk 0, 0, none⟩)),
          .gn (do Instr.storeAt 67 (.pointer (some ⟨(ηq4 0).blk 0, 0, none⟩)) (.agg (rB 32 (decL ((xs.drop (36 * 0)).take 36) (dvirt_0 x false))).toArray); pure .skip) (fun _ => undef) [(6, ((ηq4 0).blk 0, Obj.cells (rB 64 (hvT (cWx xs x) 0)).toArray 114 (0, 0)))] [(ηq4 0).blk 0] (fun _ => [(6, ((ηq4 0).blk 0, Obj.cells (rB 64 ((hvT (cWx xs x) 0).take 0 ++ (decL ((xs.drop (36 * 0)).take 36) (dvirt_0 x false)) ++ (hvT (cWx xs x) 0).drop (0 + 32))).toArray 114 (0, 0)))]) (acts_sts (l := rB 32 (decL ((xs.drop (36 * 0)).take 36) (dvirt_0 x false))) (by kernel_rfl) (rL_spliceR (fun _ => rfl) (show (hvT (cWx xs x) 0).length = 64 by first | rfl | (simp only [List.length_set, List.length_append, List.length_replicate, List.length_cons, List.length_nil, List.length_map, List.length_range, List.length_take, List.length_drop, HDL, HHL, hx]; done) | (simp only [List.length_set, List.length_append, List.length_replicate, List.length_cons, List.length_nil, List.length_map, List.length_range, List.length_take, List.length_drop, HDL, HHL, hx]; omega)) (show (decL ((xs.drop (36 * 0)).take 36) (dvirt_0 x false)).length = 32 by first | rfl | (simp only [List.length_set, List.length_append, List.length_replicate, List.length_cons, List.length_nil, List.length_map, List.length_range, List.length_take, List.length_drop, HDL, HHL, hx]; done) | (simp only [List.length_set, List.length_append, List.length_replicate, List.length_cons, List.length_nil, List.length_map, List.length_range, List.length_take, List.length_drop, HDL, HHL, hx]; omega)) (by decide)) (rL_le (fun _ => rfl) (by decide)) (rL_one (fun _ => rfl) (show (decL ((xs.drop (36 * 0)).take 36) (dvirt_0 x false)).length = 32 by first | rfl | (simp only [List.length_set, List.length_append, List.length_replicate, List.length_cons, List.length_nil, List.length_map, List.length_range, List.length_take, List.length_drop, HDL, HHL, hx]; done) | (simp only [List.length_set, List.length_append, List.length_replicate, List.length_cons, List.length_nil, List.length_map, List.length_range, List.length_take, List.length_drop, HDL, HHL, hx]; omega))))])
        (fun ηq12 L => L.set 6 ((ηq4 0).blk 0, Obj.cells (rB 64 ((hvT (cWx xs x) 0).take 0 ++ (decL ((xs.drop (36 * 0)).take 36) (dvirt_0 x false)) ++ (hvT (cWx xs x) 0).drop (0 + 32))).toArray 114 (0, 0))) (by kernel_rfl) OW (fun _ => by kernel_rfl) ?_
      clear OW; intro ηq12 ysq12 Wq12 OW
      simp only [↓putE_cons, ↓putE_nil, valE, Hint.val, Act.put, List.setIfInBounds_toArray, List.set_cons_succ, List.set_cons_zero]
      gi_upto_region 18 with fail
      refine wpIn_region_re 11 (fun ηq13 => [.pv (.slice none 0 0),
          .pv (.int .i64 (dchips_0 ((xs.drop (36 * 0)).take 36) x)),
          .gn (vS (Instr.buildSlice 70 1 #[(0, .int .i64 (dchips_0 ((xs.drop (36 * 0)).take 36) x))])) (fun E => .slice (some ⟨E.blk 0, 0, none⟩) 1 1) [] [] (fun E => [(9, (E.blk 0, Obj.cells #[.int .i64 (dchips_0 ((xs.drop (36 * 0)).take 36) x)] 3 (0, 0)))]) (acts_new (v := fun g => .slice (some ⟨g, 0, none⟩) 1 1) (fun _ => by kernel_rfl)),
          .gn (sApp 70 70 (.slice none 0 0) (.slice (some ⟨(ηq13 2).blk 0, 0, none⟩) 1 1)) (fun E => .slice (some ⟨E.blk 0, 0, none⟩) 1 (1 + E.num 0)) [(9, ((ηq13 2).blk 0, Obj.cells #[.int .i64 (dchips_0 ((xs.drop (36 * 0)).take 36) x)] 3 (0, 0)))] [] (fun E => [(10, (E.blk 0, Obj.cells (rowZ (slF eI ([(dchips_0 ((xs.drop (36 * 0)).take 36) x)])) [.int .i64 0] (E.num 0)) 3 (0, 0)))]) (acts_app0 (news := slF eI ([(dchips_0 ((xs.drop (36 * 0)).take 36) x)])) slT_I (slF_lenk (k := 1) (fun _ => rfl) (by first | rfl | omega | (simp only [List.length_set, List.length_append, List.length_replicate, List.length_cons, List.length_nil, List.length_map, List.length_range, List.length_take, List.length_drop, HDL, HHL, hx]; try omega))) (by kernel_rfl) (by first | omega | decide) (by first | omega | decide)),
          .pv (.slice (some ⟨(ηq13 3).blk 0, 0, none⟩) 1 (1 + (ηq13 3).num 0))])
        (fun ηq13 L => L ++ [((ηq13 2).blk 0, Obj.cells #[.int .i64 (dchips_0 ((xs.drop (36 * 0)).take 36) x)] 3 (0, 0)), ((ηq13 3).blk 0, Obj.cells (rowZ (slF eI ([(dchips_0 ((xs.drop (36 * 0)).take 36) x)])) [.int .i64 0] ((ηq13 3).num 0)) 3 (0, 0))]) (by kernel_rfl) OW (fun _ => by kernel_rfl) ?_
      clear OW; intro ηq13 ysq13 Wq13 OW
      simp only [↓putE_cons, ↓putE_nil, valE, Hint.val, Act.put, List.setIfInBounds_toArray, List.set_cons_succ, List.set_cons_zero]
      gi_upto_region 19 with fail
      refine wpIn_region_re 11 (fun ηq14 => [.pv (.int .i64 1),
          .pv (.int .i64 1)])
        (fun ηq14 L => L) (by kernel_rfl) OW (fun _ => by kernel_rfl) ?_
      clear OW; intro ηq14 ysq14 Wq14 OW
      simp only [↓putE_cons, ↓putE_nil, valE, Hint.val, Act.put, List.setIfInBounds_toArray, List.set_cons_succ, List.set_cons_zero]
      gi_wp2
      go_roundw
      case rel => exact ⟨0 + 1, by omega, by go_num, .inr ⟨((ηq13 3).blk 0), ((ηq13 3).num 0), rfl, (by rw [← hvT_succ (cWx_len hx x), cWx_lt (by omega), List.range_succ, List.map_append]; exact OwnS.pick OW.out [0, 1, 2, 3, 4, 5, 6, 10] _ (by kernel_rfl))⟩⟩
      case measure => (simp [intOf] <;> omega)
    ·
      have OW := Lib.hid hO
      clear hO
      gi_upto_region 14 with fail
      refine wpIn_region_re 8 (fun ηq15 => [.pv (.bool (decide ((k : Int) < 2)))])
        (fun ηq15 L => L) (by kernel_rfl) OW (fun _ => by kernel_rfl) ?_
      clear OW; intro ηq15 ysq15 Wq15 OW
      simp only [↓putE_cons, ↓putE_nil, valE, Hint.val, Act.put, List.setIfInBounds_toArray, List.set_cons_succ, List.set_cons_zero]
      cases hB16 : (decide ((k : Int) < 2))
      case true =>
        have dhB16 := of_decide_eq_true hB16
        gi_upto_region 15 with fail
        refine wpIn_region_re 8 (fun ηq17 => [.pv (.int .i64 (k : Int)),
            .pv (.int .i64 (k : Int))])
          (fun ηq17 L => L) (by kernel_rfl) OW (fun _ => by kernel_rfl) ?_
        clear OW; intro ηq17 ysq17 Wq17 OW
        simp only [↓putE_cons, ↓putE_nil, valE, Hint.val, Act.put, List.setIfInBounds_toArray, List.set_cons_succ, List.set_cons_zero]
        gi_upto_region 16 with fail
        have HDL : (decL ((xs.drop (36 * k)).take 36) (dvirt_0 x false)).length = 32 := decL_len (w36_len hx (by omega))
        refine wpIn_region_re 10 (fun ηq18 => [.pv (.pointer (some ⟨cc, 0, none⟩)),
            .ls (rB 72 xs) 4 0,
            .pv (.int .i64 2),
            .pv (.int .i64 (k : Int)),
            .cl 59 #[.agg (rB 72 xs).toArray, .int .i64 2, .int .i64 (k : Int)] (fun E => .slice (some ⟨E.blk 0, 0, none⟩) 36 (36 + E.num 0)) [] [] (fun E => [(8, (E.blk 0, Obj.cells (rowZ (slF eB ((xs.drop (36 * k)).take 36)) [.int .u8 0] (E.num 0)) 5 (0, 0)))]) (enters_of Try.func59 (by kernel_rfl) rfl) (fun w' H => callsIn_wide.2 (dWord_any xs (by first | rfl | (simp only [List.length_set, List.length_append, List.length_replicate, List.length_cons, List.length_nil, List.length_map, List.length_range, List.length_take, List.length_drop, HDL, HHL, hx]; done) | (simp only [List.length_set, List.length_append, List.length_replicate, List.length_cons, List.length_nil, List.length_map, List.length_range, List.length_take, List.length_drop, HDL, HHL, hx]; omega)) 2 36 2 k rfl rfl (by omega) (by omega) (by omega) (by omega) w' H)),
            .pv (.int .i64 x),
            .cl 61 #[.pointer (some ⟨cc, 0, none⟩), .slice (some ⟨(ηq18 4).blk 0, 0, none⟩) 36 (36 + (ηq18 4).num 0), .int .i64 x] (fun E => .tuple #[.agg (rB 32 (decL ((xs.drop (36 * k)).take 36) (dvirt_0 x false))).toArray, .int .i64 (dchips_0 ((xs.drop (36 * k)).take 36) x)]) [(0, (cc, Obj.cells #[.pointer (some ⟨hb, 0, none⟩), .pointer (some ⟨cb, 0, none⟩)] 61 (0, 0))), (1, (cb, Obj.cells #[.pointer (some ⟨fb, 0, none⟩), .slice (some ⟨gb, 0, none⟩) 5 (5 + rest.length)] 109 (0, 0))), (2, (fb, Obj.cells fieldCells 137 (0, 0))), (3, (gb, Obj.cells (rowV genL rest) 5 (0, 0))), (8, ((ηq18 4).blk 0, Obj.cells (rowZ (slF eB ((xs.drop (36 * k)).take 36)) [.int .u8 0] ((ηq18 4).num 0)) 5 (0, 0)))] [] (fun E => []) (enters_of Try.func61 (by kernel_rfl) rfl) (fun w' H => cN (callsIn_wide.2 (dchips_any cc hb cb fb gb ((ηq18 4).blk 0) (36 + (ηq18 4).num 0) ((ηq18 4).num 0) rest ((xs.drop (36 * k)).take 36) (by first | rfl | (simp only [List.length_set, List.length_append, List.length_replicate, List.length_cons, List.length_nil, List.length_map, List.length_range, List.length_take, List.length_drop, HDL, HHL, hx]; done) | (simp only [List.length_set, List.length_append, List.length_replicate, List.length_cons, List.length_nil, List.length_map, List.length_range, List.length_take, List.length_drop, HDL, HHL, hx]; omega)) x (by omega) (by omega) w' H))),
            .pv (.tuple #[.agg (rB 32 (decL ((xs.drop (36 * k)).take 36) (dvirt_0 x false))).toArray, .int .i64 (dchips_0 ((xs.drop (36 * k)).take 36) x)]),
            .pv (.agg (rB 32 (decL ((xs.drop (36 * k)).take 36) (dvirt_0 x false))).toArray),
            .pv (.int .i64 (dchips_0 ((xs.drop (36 * k)).take 36) x)),
            .al 9 67 (rB 32 (List.replicate 32 0)).toArray,
            .ss 9 ((ηq18 10).blk 0) 0 67 (rB 32 (decL ((xs.drop (36 * k)).take 36) (dvirt_0 x false))) (rB 32 (decL ((xs.drop (36 * k)).take 36) (dvirt_0 x false))).toArray,
            .pv (.int .i64 (dchips_0 ((xs.drop (36 * k)).take 36) x))])
          (fun ηq18 L => L ++ [((ηq18 4).blk 0, Obj.cells (rowZ (slF eB ((xs.drop (36 * k)).take 36)) [.int .u8 0] ((ηq18 4).num 0)) 5 (0, 0)), ((ηq18 10).blk 0, Obj.cells (rB 32 (decL ((xs.drop (36 * k)).take 36) (dvirt_0 x false))).toArray 67 (0, 0))]) (by kernel_rfl) OW (fun _ => by kernel_rfl) ?_
        clear OW; intro ηq18 ysq18 Wq18 OW
        simp only [↓putE_cons, ↓putE_nil, valE, Hint.val, Act.put, List.setIfInBounds_toArray, List.set_cons_succ, List.set_cons_zero]
        gi_upto_region 17 with fail
        refine wpIn_region_re 10 (fun ηq19 => [.pv (.int .i64 (k : Int)),
            .ls (rB 32 (decL ((xs.drop (36 * k)).take 36) (dvirt_0 x false))) 9 0,
            .tv (.pointer (some ⟨(ηq4 0).blk 0, 0 + k * 32, none⟩)) (Instr.indexAt 114 (.pointer (some ⟨(ηq4 0).blk 0, 0, none⟩)) (.int .i64 (k : Int))) (fun _ => idx_ar (N := 2) (k := k) (by kernel_rfl) (by omega)),
            .gn (do Instr.storeAt 67 (.pointer (some ⟨(ηq4 0).blk 0, 0 + k * 32, none⟩)) (.agg (rB 32 (decL ((xs.drop (36 * k)).take 36) (dvirt_0 x false))).toArray); pure .skip) (fun _ => undef) [(6, ((ηq4 0).blk 0, Obj.cells (rB 64 (hvT (cWx xs x) k)).toArray 114 (0, 0)))] [(ηq4 0).blk 0] (fun _ => [(6, ((ηq4 0).blk 0, Obj.cells (rB 64 ((hvT (cWx xs x) k).take (0 + k * 32) ++ (decL ((xs.drop (36 * k)).take 36) (dvirt_0 x false)) ++ (hvT (cWx xs x) k).drop (0 + k * 32 + 32))).toArray 114 (0, 0)))]) (acts_sts (l := rB 32 (decL ((xs.drop (36 * k)).take 36) (dvirt_0 x false))) (by kernel_rfl) (rL_spliceR (fun _ => rfl) (show (hvT (cWx xs x) k).length = 64 by first | rfl | (simp only [List.length_set, List.length_append, List.length_replicate, List.length_cons, List.length_nil, List.length_map, List.length_range, List.length_take, List.length_drop, HDL, HHL, hx]; done) | (simp only [List.length_set, List.length_append, List.length_replicate, List.length_cons, List.length_nil, List.length_map, List.length_range, List.length_take, List.length_drop, HDL, HHL, hx]; omega)) (show (decL ((xs.drop (36 * k)).take 36) (dvirt_0 x false)).length = 32 by first | rfl | (simp only [List.length_set, List.length_append, List.length_replicate, List.length_cons, List.length_nil, List.length_map, List.length_range, List.length_take, List.length_drop, HDL, HHL, hx]; done) | (simp only [List.length_set, List.length_append, List.length_replicate, List.length_cons, List.length_nil, List.length_map, List.length_range, List.length_take, List.length_drop, HDL, HHL, hx]; omega)) (by omega)) (rL_le (fun _ => rfl) (by omega)) (rL_one (fun _ => rfl) (show (decL ((xs.drop (36 * k)).take 36) (dvirt_0 x false)).length = 32 by first | rfl | (simp only [List.length_set, List.length_append, List.length_replicate, List.length_cons, List.length_nil, List.length_map, List.length_range, List.length_take, List.length_drop, HDL, HHL, hx]; done) | (simp only [List.length_set, List.length_append, List.length_replicate, List.length_cons, List.length_nil, List.length_map, List.length_range, List.length_take, List.length_drop, HDL, HHL, hx]; omega))))])
          (fun ηq19 L => L.set 6 ((ηq4 0).blk 0, Obj.cells (rB 64 ((hvT (cWx xs x) k).take (0 + k * 32) ++ (decL ((xs.drop (36 * k)).take 36) (dvirt_0 x false)) ++ (hvT (cWx xs x) k).drop (0 + k * 32 + 32))).toArray 114 (0, 0))) (by kernel_rfl) OW (fun _ => by kernel_rfl) ?_
        clear OW; intro ηq19 ysq19 Wq19 OW
        simp only [↓putE_cons, ↓putE_nil, valE, Hint.val, Act.put, List.setIfInBounds_toArray, List.set_cons_succ, List.set_cons_zero]
        gi_upto_region 18 with fail
        refine wpIn_region_re 11 (fun ηq20 => [.pv (.slice (some ⟨bN, 0, none⟩) k (k + rN)),
            .pv (.int .i64 (dchips_0 ((xs.drop (36 * k)).take 36) x)),
            .gn (vS (Instr.buildSlice 70 1 #[(0, .int .i64 (dchips_0 ((xs.drop (36 * k)).take 36) x))])) (fun E => .slice (some ⟨E.blk 0, 0, none⟩) 1 1) [] [] (fun E => [(10, (E.blk 0, Obj.cells #[.int .i64 (dchips_0 ((xs.drop (36 * k)).take 36) x)] 3 (0, 0)))]) (acts_new (v := fun g => .slice (some ⟨g, 0, none⟩) 1 1) (fun _ => by kernel_rfl)),
            .gn (sApp 70 70 (.slice (some ⟨bN, 0, none⟩) k (k + rN)) (.slice (some ⟨(ηq20 2).blk 0, 0, none⟩) 1 1)) (fun E => .slice (some ⟨E.blk 0, 0, none⟩) (k + 1) ((k + 1) + E.num 0)) [(7, (bN, Obj.cells (rowZ (slF eI ((List.range k).map (cK xs x))) [.int .i64 0] rN) 3 (0, 0))), (10, ((ηq20 2).blk 0, Obj.cells #[.int .i64 (dchips_0 ((xs.drop (36 * k)).take 36) x)] 3 (0, 0)))] [bN] (fun E => [(7, (E.blk 0, Obj.cells (rowZ (slF eI ((List.range k).map (cK xs x) ++ [(dchips_0 ((xs.drop (36 * k)).take 36) x)])) [.int .i64 0] (E.num 0)) 3 (0, 0)))]) (acts_appF (n := k) (m := 1) (xs := ((List.range k).map (cK xs x))) (ys := ([(dchips_0 ((xs.drop (36 * k)).take 36) x)])) slT_I (slF_lenk (k := 1) (fun _ => rfl) (by first | rfl | omega | (simp only [List.length_set, List.length_append, List.length_replicate, List.length_cons, List.length_nil, List.length_map, List.length_range, List.length_take, List.length_drop, HDL, HHL, hx]; try omega))) (slF_lenk (k := 1) (fun _ => rfl) (by first | rfl | omega | (simp only [List.length_set, List.length_append, List.length_replicate, List.length_cons, List.length_nil, List.length_map, List.length_range, List.length_take, List.length_drop, HDL, HHL, hx]; try omega))) (by kernel_rfl) (slF_one (fun _ => rfl) ([(dchips_0 ((xs.drop (36 * k)).take 36) x)])) (by omega)),
            .pv (.slice (some ⟨(ηq20 3).blk 0, 0, none⟩) (k + 1) ((k + 1) + (ηq20 3).num 0))])
          (fun ηq20 L => L.set 7 ((ηq20 3).blk 0, Obj.cells (rowZ (slF eI ((List.range k).map (cK xs x) ++ [(dchips_0 ((xs.drop (36 * k)).take 36) x)])) [.int .i64 0] ((ηq20 3).num 0)) 3 (0, 0)) ++ [((ηq20 2).blk 0, Obj.cells #[.int .i64 (dchips_0 ((xs.drop (36 * k)).take 36) x)] 3 (0, 0))]) (by kernel_rfl) OW (fun _ => by kernel_rfl) ?_
        clear OW; intro ηq20 ysq20 Wq20 OW
        simp only [↓putE_cons, ↓putE_nil, valE, Hint.val, Act.put, List.setIfInBounds_toArray, List.set_cons_succ, List.set_cons_zero]
        gi_upto_region 19 with fail
        refine wpIn_region_re 11 (fun ηq21 => [.tv (.int .i64 ((k + 1 : Nat) : Int)) (sBin .add 3 (.tmp 45) (.const (.int .i64 1)) (.int .i64 (k : Int)) (.int .i64 1)) (fun _ => bin_add_nat (a := k) (b := 1) (by omega)),
            .pv (.int .i64 ((k + 1 : Nat) : Int))])
          (fun ηq21 L => L) (by kernel_rfl) OW (fun _ => by kernel_rfl) ?_
        clear OW; intro ηq21 ysq21 Wq21 OW
        simp only [↓putE_cons, ↓putE_nil, valE, Hint.val, Act.put, List.setIfInBounds_toArray, List.set_cons_succ, List.set_cons_zero]
        gi_wp2
        go_roundw
        case rel => exact ⟨k + 1, by omega, by go_num, .inr ⟨((ηq20 3).blk 0), ((ηq20 3).num 0), rfl, (by rw [← hvT_succ (cWx_len hx x), cWx_lt (by omega), List.range_succ, List.map_append]; exact OwnS.pick OW.out [0, 1, 2, 3, 4, 5, 6, 7] _ (by kernel_rfl))⟩⟩
        case measure => (simp [intOf] <;> omega)
      have dhB16 := of_decide_eq_false hB16
      obtain rfl : k = 2 := by omega
      gi_upto_region 20 with fail
      have HDL := trivial
      refine wpIn_region_re 8 (fun ηq22 => [.ls (rB 64 (hvT (cWx xs x) 2)) 6 0,
          .cl 62 #[.agg (rB 64 (hvT (cWx xs x) 2)).toArray] (fun E => .agg (rB 64 (halfT (hvT (cWx xs x) 2) 2)).toArray) [] [] (fun E => []) (enters_of Try.func62 (by kernel_rfl) rfl) (fun w' H => cB (callsIn_wide.2 (dfromh_any (hvT (cWx xs x) 2) (by first | rfl | (simp only [List.length_set, List.length_append, List.length_replicate, List.length_cons, List.length_nil, List.length_map, List.length_range, List.length_take, List.length_drop, HDL, HHL, hx]; done) | (simp only [List.length_set, List.length_append, List.length_replicate, List.length_cons, List.length_nil, List.length_map, List.length_range, List.length_take, List.length_drop, HDL, HHL, hx]; omega)) w'))),
          .pv (.slice (some ⟨bN, 0, none⟩) 2 (2 + rN)),
          .ss 5 ((ηq1 1).blk 0) 0 23 (rB 64 (halfT (hvT (cWx xs x) 2) 2)) (rB 64 (halfT (hvT (cWx xs x) 2) 2)).toArray,
          .pv (.slice (some ⟨bN, 0, none⟩) 2 (2 + rN))])
        (fun ηq22 L => L.set 5 ((ηq1 1).blk 0, Obj.cells (rB 64 (halfT (hvT (cWx xs x) 2) 2)).toArray 23 (0, 0))) (by kernel_rfl) OW (fun _ => by kernel_rfl) ?_
      clear OW; intro ηq22 ysq22 Wq22 OW
      simp only [↓putE_cons, ↓putE_nil, valE, Hint.val, Act.put, List.setIfInBounds_toArray, List.set_cons_succ, List.set_cons_zero]
      gi_wp2
      exact leavesS OW [.s (rB 64 (halfT (hvT (cWx xs x) 2) 2)) 5, .t (.slice (some ⟨bN, 0, none⟩) 2 (2 + rN))] (by kernel_rfl) fun hO => ⟨⟨fun k => ([bN] : List Nat).getD k 0, fun k => ([] : List (List Value)).getD k [], fun k => ([rN] : List Nat).getD k 0⟩, rfl, OwnS.fin H hO [] [(bN, Obj.cells (rowZ (slF eI ((List.range 2).map (cK xs x))) [.int .i64 0] rN) 3 (0, 0))] [7] [0, 1, 2, 3] (by kernel_rfl)⟩
end Go.Proofs.Ytkeheickaogpiaa
