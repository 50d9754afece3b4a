/- The reference's encoding, of chips. -/
import Derived.Test.YtkeheickaogpiaaCmO
import Derived.Test.YtkeheickaogpiaaCmY
import Derived.WalkKit
import Derived.Sort.CutIn
import Derived.IntWalk
namespace Go.Proofs.Ytkeheickaogpiaa
open Go Go.RowKit Go.Shelf
attribute [local go_sem] Oper.semAt_some
set_option linter.unusedVariables false
set_option linter.unusedSimpArgs false


/-- A row whose places P are told. -/
def fP (N : Nat) (f : Nat → UInt8) (P : Nat → Bool) : List UInt8 := (List.range N).map fun s => if P s then f s else 0
theorem fP_len (N : Nat) (f : Nat → UInt8) (P : Nat → Bool) : (fP N f P).length = N := by unfold fP; rw [List.length_map, List.length_range]
theorem fP_get {N : Nat} {f : Nat → UInt8} {P : Nat → Bool} {s : Nat} (h : s < N) : (fP N f P).getD s 0 = if P s then f s else 0 := by
  unfold fP
  rw [List.getD_eq_getElem?_getD, List.getElem?_map, List.getElem?_range h]
  rfl
theorem fP_ext {N : Nat} {f : Nat → UInt8} {P : Nat → Bool} {L : List UInt8} (hl : L.length = N) (h : ∀ s, s < N → L.getD s 0 = if P s then f s else 0) : fP N f P = L := by
  refine list_ext (by rw [fP_len, hl]) fun s hs => ?_
  rw [fP_len] at hs
  show (fP N f P).getD s 0 = L.getD s 0
  rw [fP_get hs, h s hs]
theorem fP_step {N : Nat} {f : Nat → UInt8} {P Q : Nat → Bool} {n : Nat} (hn : n < N) (h : ∀ s, Q s = true ↔ P s = true ∨ s = n) : fP N f Q = (fP N f P).set n (f n) := by
  refine fP_ext (by rw [List.length_set, fP_len]) fun s hs => ?_
  rw [List.getD_eq_getElem?_getD, List.getElem?_set]
  by_cases e : n = s
  · subst e
    rw [if_pos rfl, if_pos (by rw [fP_len]; exact hn), if_pos ((h n).2 (.inr rfl))]; rfl
  · rw [if_neg e, ← List.getD_eq_getElem?_getD, fP_get hs]
    by_cases hp : P s = true
    · rw [if_pos hp, if_pos ((h s).2 (.inl hp))]
    · rw [if_neg hp, if_neg fun hq => ((h s).1 hq).elim hp fun e2 => e e2.symm]
def pD (k i s : Nat) : Bool := decide (s < 36 * k ∨ (36 * k + 4 ≤ s ∧ s < 36 * k + 4 + i))
def pC (k i s : Nat) : Bool := decide (s < 36 * k ∨ (36 * k + 4 ≤ s ∧ s < 36 * k + 36) ∨ (36 * k ≤ s ∧ s < 36 * k + i))
theorem r2D_zero (f : Nat → UInt8) (k : Nat) : fP 72 f (pD k 0) = fillL 72 f (36 * k) := by
  refine fP_ext (fillL_len _ _ _) fun s hs => ?_
  rw [fillL_get hs]
  unfold pD
  by_cases h : s < 36 * k
  · rw [if_pos h, if_pos (decide_eq_true (by omega))]
  · rw [if_neg h, if_neg (by rw [decide_eq_true_iff]; omega)]
theorem r2D_succ (f : Nat → UInt8) {k i : Nat} (h : 36 * k + 4 + i < 72) : fP 72 f (pD k (i + 1)) = (fP 72 f (pD k i)).set (36 * k + 4 + i) (f (36 * k + 4 + i)) :=
  fP_step h fun s => by unfold pD; rw [decide_eq_true_iff, decide_eq_true_iff]; omega
theorem r2C_zero (f : Nat → UInt8) (k : Nat) : fP 72 f (pC k 0) = fP 72 f (pD k 32) := by
  refine congrArg (fP 72 f) (funext fun s => ?_)
  unfold pC pD
  exact decide_eq_decide.2 (by omega)
theorem r2C_succ (f : Nat → UInt8) {k i : Nat} (h : 36 * k + i < 72) : fP 72 f (pC k (i + 1)) = (fP 72 f (pC k i)).set (36 * k + i) (f (36 * k + i)) :=
  fP_step h fun s => by unfold pC; rw [decide_eq_true_iff, decide_eq_true_iff]; omega
theorem r2C_all (f : Nat → UInt8) (k : Nat) : fP 72 f (pC k 4) = fillL 72 f (36 * (k + 1)) := by
  refine fP_ext (fillL_len _ _ _) fun s hs => ?_
  rw [fillL_get hs]
  unfold pC
  by_cases h : s < 36 * (k + 1)
  · rw [if_pos h, if_pos (decide_eq_true (by omega))]
  · rw [if_neg h, if_neg (by rw [decide_eq_true_iff]; omega)]
/-- The bytes of the code of chips. -/
def e2B (l : List UInt8) (x : Int) (p : Bool) (s : Nat) : UInt8 := (eW2 l x p (s / 36)).getD (s % 36) 0
theorem e2_data {l : List UInt8} {x : Int} {p : Bool} {k i : Nat} (hk : k < 2) (hi : i < 32) : e2B l x p (36 * k + 4 + i) = l.getD (32 * k + i) 0 := by
  unfold e2B
  rw [show (36 * k + 4 + i) / 36 = k by omega, show (36 * k + 4 + i) % 36 = 4 + i by omega, eW2_word hk]
  unfold wordL
  rw [List.getD_eq_getElem?_getD, List.getElem?_append_right (by rw [chkL_len]; omega), chkL_len, Nat.add_sub_cancel_left, ← List.getD_eq_getElem?_getD]
  exact sl_get hi
theorem e2_chk {l : List UInt8} (hl : l.length = 64) {x : Int} {p : Bool} {k i : Nat} (hk : k < 2) (hi : i < 4) : e2B l x p (36 * k + i) = (rchk (List.replicate 4 0 ++ hfL l k ++ rvirt_0 x p)).getD i 0 := by
  unfold e2B
  rw [show (36 * k + i) / 36 = k by omega, show (36 * k + i) % 36 = i by omega, eW2_word hk, rvirt_eq, rchk_chk (hfL_len hl hk) (dvirt_len x p)]
  unfold wordL
  rw [List.getD_eq_getElem?_getD, List.getElem?_append_left (by rw [chkL_len]; exact hi), ← List.getD_eq_getElem?_getD]
theorem e2_full {l : List UInt8} (hl : l.length = 64) (x : Int) (p : Bool) : fillL 72 (e2B l x p) (36 * 2) = encT 36 (eW2 l x p) 2 := by
  have hn := own2_len hl x p
  refine list_ext (by rw [fillL_len, hn]) fun s hs => ?_
  rw [fillL_len] at hs
  show (fillL 72 (e2B l x p) (36 * 2)).getD s 0 = (encT 36 (eW2 l x p) 2).getD s 0
  rw [fillL_get hs, if_pos hs]
  have h := encT_get (eW2_len hl x p) (n := 2) (k := s / 36) (j := s % 36) (by omega) (by omega)
  rw [show 36 * (s / 36) + s % 36 = s by omega] at h
  rw [h]
  rfl
/-- A word's symbols, four noughts ahead. -/
def wB (l : List UInt8) (k : Nat) (v : List UInt8) (s : Nat) : UInt8 := (List.replicate 4 0 ++ hfL l k ++ v).getD s 0
theorem wB_zero (l : List UInt8) (k : Nat) (v : List UInt8) : fillL 39 (wB l k v) 4 = List.replicate 39 0 := by
  rw [fillL_congr (g := fun _ => 0) fun i hi _ => ?_]
  · rfl
  · unfold wB
    rw [List.append_assoc, List.getD_eq_getElem?_getD, List.getElem?_append_left (by simpa using hi), List.getElem?_replicate, if_pos hi]; rfl
theorem wB_data {l : List UInt8} (hl : l.length = 64) {k : Nat} (hk : k < 2) (v : List UInt8) {i : Nat} (hi : i < 32) : wB l k v (4 + i) = l.getD (32 * k + i) 0 := by
  unfold wB
  rw [List.append_assoc, List.getD_eq_getElem?_getD, List.getElem?_append_right (by simp), List.length_replicate, Nat.add_sub_cancel_left, List.getElem?_append_left (by rw [hfL_len hl hk]; exact hi), ← List.getD_eq_getElem?_getD]
  exact sl_get hi
theorem wB_virt {l : List UInt8} (hl : l.length = 64) {k : Nat} (hk : k < 2) (v : List UInt8) (i : Nat) : wB l k v (36 + i) = v.getD i 0 := by
  unfold wB
  have h := hfL_len hl hk
  rw [List.getD_eq_getElem?_getD, List.getElem?_append_right (by rw [List.length_append, List.length_replicate, h]; omega), List.length_append, List.length_replicate, h, Nat.add_sub_cancel_left, ← List.getD_eq_getElem?_getD]
theorem wB_full {l : List UInt8} (hl : l.length = 64) {k : Nat} (hk : k < 2) {v : List UInt8} (hv : v.length = 3) : fillL 39 (wB l k v) (36 + 3) = List.replicate 4 0 ++ hfL l k ++ v := by
  have h : (List.replicate 4 (0 : UInt8) ++ hfL l k ++ v).length = 39 := by rw [List.length_append, List.length_append, hfL_len hl hk, hv]; rfl
  refine list_ext (by rw [fillL_len, h]) fun s hs => ?_
  rw [fillL_len] at hs
  show (fillL 39 (wB l k v) 39).getD s 0 = _
  rw [fillL_get hs, if_pos hs]
  rfl
theorem rv_len3 (x : Int) (p : Bool) : (rvirt_0 x p).length = 3 := by rw [rvirt_eq]; exact dvirt_len x p
set_option maxRecDepth 100000 in
set_option maxHeartbeats 1000000 in
theorem renc2_any (l : List UInt8) (hl : l.length = 64) (x : Int) (h0 : -9223372036854775808 ≤ x) (h1 : x ≤ 9223372036854775807) (p : Bool) (w : World) : Calls Try.prog 16 #[.int .i64 2, .agg (rB 64 l).toArray, .int .i64 x, .bool p] w fun e w' => e = .returned (.agg (rB 72 (encT 36 (eW2 l x p) 2)).toArray) ∧ Below w.heap.size w w' := by
  have HML := True.intro
  have HU := u64N_lt x
  have HPL := pc_le (u64N x % 8388608)
  have H : Has [] w := has_nil
  have OW : Hid (OwnS [] w [] w) := Lib.hid (OwnS.start H)
  refine (callsIn_wide (n := 6)).1 ?_
  refine callsIn_of_wp_marks Try.func16 rfl trivial ?_ rfl
  simp only [Try.ntmps16, List.size_toArray, List.length_cons, List.length_nil, Nat.reduceAdd, Nat.reduceSub, Array.replicate_succ, Array.replicate_zero, List.push_toArray, List.append_toArray, List.nil_append, List.cons_append]
  gi_upto_region 0 with fail
  refine wpIn_region_re 2 (fun ηq1 => [.bx 0 22 (.agg (rB 64 l).toArray),
      .al 1 26 (rB 72 (List.replicate 72 0)).toArray])
    (fun ηq1 L => L ++ [((ηq1 0).blk 0, Obj.cells (rB 64 l).toArray 22 (0, 0)), ((ηq1 1).blk 0, Obj.cells (rB 72 (List.replicate 72 0)).toArray 26 (0, 0))]) (by kernel_rfl) OW (fun _ => by kernel_rfl) ?_
  clear OW; intro ηq1 ysq1 Wq1 OW
  simp only [↓putE_cons, ↓putE_nil, valE, Hint.val, Act.put, List.setIfInBounds_toArray, List.set_cons_succ, List.set_cons_zero]
  gi_upto_region 1 with fail
  refine wpIn_region_re 3 (fun ηq2 => [.al 2 26 (rB 72 (List.replicate 72 0)).toArray])
    (fun ηq2 L => L ++ [((ηq2 0).blk 0, Obj.cells (rB 72 (List.replicate 72 0)).toArray 26 (0, 0))]) (by kernel_rfl) OW (fun _ => by kernel_rfl) ?_
  clear OW; intro ηq2 ysq2 Wq2 OW
  simp only [↓putE_cons, ↓putE_nil, valE, Hint.val, Act.put, List.setIfInBounds_toArray, List.set_cons_succ, List.set_cons_zero]
  gi_upto_region 2 with fail
  refine wpIn_region_re 3 (fun ηq3 => [.pv (.int .i64 0)])
    (fun ηq3 L => L) (by kernel_rfl) OW (fun _ => by kernel_rfl) ?_
  clear OW; intro ηq3 ysq3 Wq3 OW
  simp only [↓putE_cons, ↓putE_nil, valE, Hint.val, Act.put, List.setIfInBounds_toArray, List.set_cons_succ, List.set_cons_zero]
  gi_upto_region 3 with fail
  refine wpIn_region_re 3 (fun ηq4 => [.pv (.bool p)])
    (fun ηq4 L => L) (by kernel_rfl) OW (fun _ => by kernel_rfl) ?_
  clear OW; intro ηq4 ysq4 Wq4 OW
  simp only [↓putE_cons, ↓putE_nil, valE, Hint.val, Act.put, List.setIfInBounds_toArray, List.set_cons_succ, List.set_cons_zero]
  gi_upto_if 22 with fail
  gi_cut [10, 3] from 22 (fun s10 s3 wx => s10 = .int .i64 (dflag_0 p) ∧ s3 = .bool p ∧ OwnS [] w [((ηq1 0).blk 0, Obj.cells (rB 64 l).toArray 22 (0, 0)), ((ηq1 1).blk 0, Obj.cells (rB 72 (List.replicate 72 0)).toArray 26 (0, 0)), ((ηq2 0).blk 0, Obj.cells (rB 72 (List.replicate 72 0)).toArray 26 (0, 0))] wx)
  case first =>
    cases hB5 : (p)
    case true =>
      gi_upto_region 4 with fail
      refine wpIn_region_re 3 (fun ηq6 => [.pv (.int .i64 1)])
        (fun ηq6 L => L) (by kernel_rfl) OW (fun _ => by kernel_rfl) ?_
      clear OW; intro ηq6 ysq6 Wq6 OW
      simp only [↓putE_cons, ↓putE_nil, valE, Hint.val, Act.put, List.setIfInBounds_toArray, List.set_cons_succ, List.set_cons_zero]
      gi_wp2_with fail
      gi_meet
      exact ⟨(by (try simp only [dflag_0]); (repeat (first | rw [hB5] | rw [cond_true] | rw [cond_false])); try rfl), (by (try simp only [dflag_0]); (repeat (first | rw [hB5] | rw [cond_true] | rw [cond_false])); try rfl), OwnS.cast OW.out (by kernel_rfl)⟩
    gi_wp2_with fail
    gi_meet
    exact ⟨(by (try simp only [dflag_0]); (repeat (first | rw [hB5] | rw [cond_true] | rw [cond_false])); try rfl), (by (try simp only [dflag_0]); (repeat (first | rw [hB5] | rw [cond_true] | rw [cond_false])); try rfl), OwnS.cast OW.out (by kernel_rfl)⟩
  case rest =>
    obtain ⟨rfl, rfl, hO⟩ := hcut
    clear OW; have OW := Lib.hid hO; clear hO
    gi_upto_region 5 with fail
    refine wpIn_region_re 4 (fun ηq7 => [.cl 35 #[] (fun E => .agg (rB 74 colsB).toArray) [] [] (fun E => []) (enters_of Try.func35 (by kernel_rfl) rfl) (fun w' H => cB (callsIn_wide.2 (rcols_any w'))),
        .al 3 74 (rB 74 (List.replicate 74 0)).toArray,
        .ss 3 ((ηq7 1).blk 0) 0 74 (rB 74 colsB) (rB 74 colsB).toArray])
      (fun ηq7 L => L ++ [((ηq7 1).blk 0, Obj.cells (rB 74 colsB).toArray 74 (0, 0))]) (by kernel_rfl) OW (fun _ => by kernel_rfl) ?_
    clear OW; intro ηq7 ysq7 Wq7 OW
    simp only [↓putE_cons, ↓putE_nil, valE, Hint.val, Act.put, List.setIfInBounds_toArray, List.set_cons_succ, List.set_cons_zero]
    gi_upto_region 6 with fail
    refine wpIn_region_re 4 (fun ηq8 => [.pv (.int .i64 x),
        .tv (.int .u64 ((u64N x : Nat) : Int)) (convert 3 54 (.int .i64 x)) (fun _ => cvt_i64w Try.underlying3 Try.underlying54),
        .tv (.int .u64 (((u64N x) % 8388608 : Nat) : Int)) (sBin .rem 54 (.tmp 25) (.const (.int .u64 8388608)) (.int .u64 ((u64N x : Nat) : Int)) (.int .u64 8388608)) (fun _ => bin_rem_u64 (a := u64N x) (d := 8388608) (by decide)),
        .cl 36 #[.int .u64 (((u64N x) % 8388608 : Nat) : Int)] (fun E => .int .i64 ((pc ((u64N x) % 8388608) : Nat) : Int)) [] [] (fun E => []) (enters_of Try.func36 (by kernel_rfl) rfl) (fun w' H => cB (callsIn_wide.2 (rweight_any ((u64N x) % 8388608) (by omega) w'))),
        .tv (.int .i64 (((pc ((u64N x) % 8388608)) % 2 : Nat) : Int)) (sBin .rem 3 (.tmp 27) (.const (.int .i64 2)) (.int .i64 ((pc ((u64N x) % 8388608) : Nat) : Int)) (.int .i64 2)) (fun _ => bin_rem_i64 (a := pc ((u64N x) % 8388608)) (d := 2) (by decide)),
        .pv (.int .i64 (((pc ((u64N x) % 8388608)) % 2 : Nat) : Int))])
      (fun ηq8 L => L) (by kernel_rfl) OW (fun _ => by kernel_rfl) ?_
    clear OW; intro ηq8 ysq8 Wq8 OW
    simp only [↓putE_cons, ↓putE_nil, valE, Hint.val, Act.put, List.setIfInBounds_toArray, List.set_cons_succ, List.set_cons_zero]
    gi_upto_region 7 with fail
    refine wpIn_region_re 4 (fun ηq9 => [.pv (.int .i64 0)])
      (fun ηq9 L => L) (by kernel_rfl) OW (fun _ => by kernel_rfl) ?_
    clear OW; intro ηq9 ysq9 Wq9 OW
    simp only [↓putE_cons, ↓putE_nil, valE, Hint.val, Act.put, List.setIfInBounds_toArray, List.set_cons_succ, List.set_cons_zero]
    gi_wp2
    gi_loopw [13] (fun z13 wr => ∃ j : Nat, j ≤ 8 ∧ z13 = .int .i64 (j : Int) ∧ OwnS [] w [((ηq1 0).blk 0, Obj.cells (rB 64 l).toArray 22 (0, 0)), ((ηq1 1).blk 0, Obj.cells (rB 72 (List.replicate 72 0)).toArray 26 (0, 0)), ((ηq2 0).blk 0, Obj.cells (rB 72 (List.replicate 72 0)).toArray 26 (0, 0)), ((ηq7 1).blk 0, Obj.cells (rB 74 colsB).toArray 74 (0, 0))] wr) (fun z13 _ => 8 - (intOf (z13)).toNat)
    case atStart => exact ⟨0, by omega, rfl, (by skip; exact OwnS.cast OW.out (by kernel_rfl))⟩
    case round =>
      obtain ⟨j, hk11, rfl, hO⟩ := hrel
      clear OW
      have OW := Lib.hid hO
      clear hO
      gi_upto_region 8 with fail
      refine wpIn_region_re 4 (fun ηq13 => [.pv (.int .i64 (j : Int)),
          .pv (.bool (decide ((j : Int) < 8))),
          .pv (.bool (decide ((j : Int) < 8))),
          .pv (.int .i64 2),
          .pv (.bool false),
          .pk (.bool ((decide ((j : Int) < 8)) && false))])
        (fun ηq13 L => L) (by kernel_rfl) OW (fun _ => by kernel_rfl) ?_
      clear OW; intro ηq13 ysq13 Wq13 OW
      simp only [↓putE_cons, ↓putE_nil, valE, Hint.val, Act.put, List.setIfInBounds_toArray, List.set_cons_succ, List.set_cons_zero]
      cases hB14 : ((decide ((j : Int) < 8)) && false)
      case true => exact absurd (hB14.symm.trans (show _ = false from Bool.and_false _)) (by decide)
      case false =>
        gi_upto_region 15 with fail
        refine wpIn_region_re 4 (fun ηq15 => [.pv (.int .i64 0)])
          (fun ηq15 L => L) (by kernel_rfl) OW (fun _ => by kernel_rfl) ?_
        clear OW; intro ηq15 ysq15 Wq15 OW
        simp only [↓putE_cons, ↓putE_nil, valE, Hint.val, Act.put, List.setIfInBounds_toArray, List.set_cons_succ, List.set_cons_zero]
        gi_wp2
        gi_loopw [15] (fun z15 wr => ∃ k : Nat, k ≤ 2 ∧ z15 = .int .i64 (k : Int) ∧ OwnS [] w [((ηq1 0).blk 0, Obj.cells (rB 64 l).toArray 22 (0, 0)), ((ηq1 1).blk 0, Obj.cells (rB 72 (List.replicate 72 0)).toArray 26 (0, 0)), ((ηq2 0).blk 0, Obj.cells (rB 72 (fillL 72 (e2B l x p) (36 * k))).toArray 26 (0, 0)), ((ηq7 1).blk 0, Obj.cells (rB 74 colsB).toArray 74 (0, 0))] wr) (fun z15 _ => 2 - (intOf (z15)).toNat)
        case atStart => exact ⟨0, by omega, rfl, (by rw [Nat.mul_zero, fillL_zero]; exact OwnS.cast OW.out (by kernel_rfl))⟩
        case round =>
          obtain ⟨k, hk17, rfl, hO⟩ := hrel
          clear OW
          have OW := Lib.hid hO
          clear hO
          gi_upto_region 16 with fail
          refine wpIn_region_re 4 (fun ηq19 => [.pv (.int .i64 (k : Int)),
              .pv (.bool (decide ((k : Int) < 2))),
              .pv (.bool (decide ((k : Int) < 2))),
              .pv (.int .i64 2),
              .pv (.bool true),
              .pk (.bool ((decide ((k : Int) < 2)) && true))])
            (fun ηq19 L => L) (by kernel_rfl) OW (fun _ => by kernel_rfl) ?_
          clear OW; intro ηq19 ysq19 Wq19 OW
          simp only [↓putE_cons, ↓putE_nil, valE, Hint.val, Act.put, List.setIfInBounds_toArray, List.set_cons_succ, List.set_cons_zero]
          cases hB20 : ((decide ((k : Int) < 2)) && true)
          case true =>
            have hB20 := (Bool.and_true _).symm.trans hB20
            have dhB20 := of_decide_eq_true hB20
            gi_upto_region 18 with fail
            refine wpIn_region_re 5 (fun ηq21 => [.al 4 81 (rB 39 (List.replicate 39 0)).toArray])
              (fun ηq21 L => L ++ [((ηq21 0).blk 0, Obj.cells (rB 39 (List.replicate 39 0)).toArray 81 (0, 0))]) (by kernel_rfl) OW (fun _ => by kernel_rfl) ?_
            clear OW; intro ηq21 ysq21 Wq21 OW
            simp only [↓putE_cons, ↓putE_nil, valE, Hint.val, Act.put, List.setIfInBounds_toArray, List.set_cons_succ, List.set_cons_zero]
            gi_upto_region 19 with fail
            refine wpIn_region_re 6 (fun ηq22 => [.pv (.int .i64 x),
                .pv (.bool p),
                .cl 19 #[.int .i64 x, .bool p] (fun E => .agg (rB 3 (rvirt_0 x p)).toArray) [] [] (fun E => []) (enters_of Try.func19 (by kernel_rfl) rfl) (fun w' H => cB (callsIn_wide.2 (rvirt_any x (by omega) (by omega) p w'))),
                .al 5 43 (rB 3 (List.replicate 3 0)).toArray,
                .ss 5 ((ηq22 3).blk 0) 0 43 (rB 3 (rvirt_0 x p)) (rB 3 (rvirt_0 x p)).toArray])
              (fun ηq22 L => L ++ [((ηq22 3).blk 0, Obj.cells (rB 3 (rvirt_0 x p)).toArray 43 (0, 0))]) (by kernel_rfl) OW (fun _ => by kernel_rfl) ?_
            clear OW; intro ηq22 ysq22 Wq22 OW
            simp only [↓putE_cons, ↓putE_nil, valE, Hint.val, Act.put, List.setIfInBounds_toArray, List.set_cons_succ, List.set_cons_zero]
            gi_upto_region 20 with fail
            refine wpIn_region_re 6 (fun ηq23 => [.pv (.int .i64 0)])
              (fun ηq23 L => L) (by kernel_rfl) OW (fun _ => by kernel_rfl) ?_
            clear OW; intro ηq23 ysq23 Wq23 OW
            simp only [↓putE_cons, ↓putE_nil, valE, Hint.val, Act.put, List.setIfInBounds_toArray, List.set_cons_succ, List.set_cons_zero]
            gi_wp2
            gi_loopw [18] (fun z18 wr => ∃ i : Nat, i ≤ 32 ∧ z18 = .int .i64 (i : Int) ∧ OwnS [] w [((ηq1 0).blk 0, Obj.cells (rB 64 l).toArray 22 (0, 0)), ((ηq1 1).blk 0, Obj.cells (rB 72 (List.replicate 72 0)).toArray 26 (0, 0)), ((ηq2 0).blk 0, Obj.cells (rB 72 (fP 72 (e2B l x p) (pD k i))).toArray 26 (0, 0)), ((ηq7 1).blk 0, Obj.cells (rB 74 colsB).toArray 74 (0, 0)), ((ηq21 0).blk 0, Obj.cells (rB 39 (fillL 39 (wB l k (rvirt_0 x p)) (4 + i))).toArray 81 (0, 0)), ((ηq22 3).blk 0, Obj.cells (rB 3 (rvirt_0 x p)).toArray 43 (0, 0))] wr) (fun z18 _ => 32 - (intOf (z18)).toNat)
            case atStart => exact ⟨0, by omega, rfl, (by rw [r2D_zero, wB_zero]; exact OwnS.cast OW.out (by kernel_rfl))⟩
            case round =>
              obtain ⟨i, hk25, rfl, hO⟩ := hrel
              clear OW
              have OW := Lib.hid hO
              clear hO
              gi_upto_region 21 with fail
              refine wpIn_region_re 6 (fun ηq27 => [.pv (.int .i64 (i : Int)),
                  .pv (.bool (decide ((i : Int) < 32)))])
                (fun ηq27 L => L) (by kernel_rfl) OW (fun _ => by kernel_rfl) ?_
              clear OW; intro ηq27 ysq27 Wq27 OW
              simp only [↓putE_cons, ↓putE_nil, valE, Hint.val, Act.put, List.setIfInBounds_toArray, List.set_cons_succ, List.set_cons_zero]
              cases hB28 : (decide ((i : Int) < 32))
              case true =>
                have dhB28 := of_decide_eq_true hB28
                gi_upto_region 23 with fail
                refine wpIn_region_re 6 (fun ηq29 => [.pv (.int .i64 (i : Int)),
                    .tv (.int .i64 ((4 + i : Nat) : Int)) (sBin .add 3 (.const (.int .i64 4)) (.tmp 78) (.int .i64 4) (.int .i64 (i : Int))) (fun _ => bin_add_nat (a := 4) (b := i) (by omega)),
                    .pv (.int .i64 (k : Int)),
                    .tv (.int .i64 ((32 * k : Nat) : Int)) (sBin .mul 3 (.const (.int .i64 32)) (.tmp 80) (.int .i64 32) (.int .i64 (k : Int))) (fun _ => bin_mul_nat (a := 32) (b := k) (by omega)),
                    .pv (.int .i64 (i : Int)),
                    .tv (.int .i64 (((32 * k) + i : Nat) : Int)) (sBin .add 3 (.tmp 81) (.tmp 82) (.int .i64 ((32 * k : Nat) : Int)) (.int .i64 (i : Int))) (fun _ => bin_add_nat (a := 32 * k) (b := i) (by omega)),
                    .tv (.pointer (some ⟨(ηq1 0).blk 0, 0 + ((32 * k) + i) * 1, none⟩)) (Instr.indexAt 22 (.pointer (some ⟨(ηq1 0).blk 0, 0, none⟩)) (.int .i64 (((32 * k) + i : Nat) : Int))) (fun _ => idx_ar (N := 64) (k := (32 * k) + i) (by kernel_rfl) (by omega)),
                    .lt (.int .u8 ((l.getD ((32 * k) + i) 0).toNat : Int)) 0 (0 + ((32 * k) + i) * 1) ((ηq1 0).blk 0) (rB 64 l).toArray 22 (by simpa only [Nat.zero_add, Nat.mul_one] using rB_get (by omega)),
                    .tv (.pointer (some ⟨(ηq21 0).blk 0, 0 + (4 + i) * 1, none⟩)) (Instr.indexAt 81 (.pointer (some ⟨(ηq21 0).blk 0, 0, none⟩)) (.int .i64 ((4 + i : Nat) : Int))) (fun _ => idx_ar (N := 39) (k := 4 + i) (by kernel_rfl) (by omega)),
                    .sw 4 ((ηq21 0).blk 0) (0 + (4 + i) * 1) 81 (.int .u8 ((l.getD ((32 * k) + i) 0).toNat : Int)) (rB 39 (fillL 39 (wB l k (rvirt_0 x p)) (4 + i))).toArray (rB 39 ((fillL 39 (wB l k (rvirt_0 x p)) (4 + i)).set (4 + i) (l.getD ((32 * k) + i) 0))).toArray (by rw [Nat.zero_add, Nat.mul_one]; exact rB_set (show (fillL 39 (wB l k (rvirt_0 x p)) (4 + i)).length = 39 by first | rfl | (simp only [List.length_set, List.length_append, List.length_replicate, List.length_cons, List.length_nil, List.length_map, List.length_range, List.length_take, List.length_drop, fillL_len, colsB_len, fP_len, rv_len3, HML, hl]; done) | (simp only [List.length_set, List.length_append, List.length_replicate, List.length_cons, List.length_nil, List.length_map, List.length_range, List.length_take, List.length_drop, fillL_len, colsB_len, fP_len, rv_len3, HML, hl]; omega))) (by rw [Nat.zero_add, Nat.mul_one]; exact rL_lt (by omega))])
                  (fun ηq29 L => L.set 4 ((ηq21 0).blk 0, Obj.cells (rB 39 ((fillL 39 (wB l k (rvirt_0 x p)) (4 + i)).set (4 + i) (l.getD ((32 * k) + i) 0))).toArray 81 (0, 0))) (by kernel_rfl) OW (fun _ => by kernel_rfl) ?_
                clear OW; intro ηq29 ysq29 Wq29 OW
                simp only [↓putE_cons, ↓putE_nil, valE, Hint.val, Act.put, List.setIfInBounds_toArray, List.set_cons_succ, List.set_cons_zero]
                gi_upto_region 24 with fail
                refine wpIn_region_re 6 (fun ηq30 => [.pv (.int .i64 (k : Int)),
                    .tv (.int .i64 ((36 * k : Nat) : Int)) (sBin .mul 3 (.const (.int .i64 36)) (.tmp 87) (.int .i64 36) (.int .i64 (k : Int))) (fun _ => bin_mul_nat (a := 36) (b := k) (by omega)),
                    .tv (.int .i64 (((36 * k) + 4 : Nat) : Int)) (sBin .add 3 (.tmp 88) (.const (.int .i64 4)) (.int .i64 ((36 * k : Nat) : Int)) (.int .i64 4)) (fun _ => bin_add_nat (a := 36 * k) (b := 4) (by omega)),
                    .pv (.int .i64 (i : Int)),
                    .tv (.int .i64 ((((36 * k) + 4) + i : Nat) : Int)) (sBin .add 3 (.tmp 89) (.tmp 90) (.int .i64 (((36 * k) + 4 : Nat) : Int)) (.int .i64 (i : Int))) (fun _ => bin_add_nat (a := (36 * k) + 4) (b := i) (by omega)),
                    .pv (.int .i64 (k : Int)),
                    .tv (.int .i64 ((32 * k : Nat) : Int)) (sBin .mul 3 (.const (.int .i64 32)) (.tmp 92) (.int .i64 32) (.int .i64 (k : Int))) (fun _ => bin_mul_nat (a := 32) (b := k) (by omega)),
                    .pv (.int .i64 (i : Int)),
                    .tv (.int .i64 (((32 * k) + i : Nat) : Int)) (sBin .add 3 (.tmp 93) (.tmp 94) (.int .i64 ((32 * k : Nat) : Int)) (.int .i64 (i : Int))) (fun _ => bin_add_nat (a := 32 * k) (b := i) (by omega)),
                    .tv (.pointer (some ⟨(ηq1 0).blk 0, 0 + ((32 * k) + i) * 1, none⟩)) (Instr.indexAt 22 (.pointer (some ⟨(ηq1 0).blk 0, 0, none⟩)) (.int .i64 (((32 * k) + i : Nat) : Int))) (fun _ => idx_ar (N := 64) (k := (32 * k) + i) (by kernel_rfl) (by omega)),
                    .lt (.int .u8 ((l.getD ((32 * k) + i) 0).toNat : Int)) 0 (0 + ((32 * k) + i) * 1) ((ηq1 0).blk 0) (rB 64 l).toArray 22 (by simpa only [Nat.zero_add, Nat.mul_one] using rB_get (by omega)),
                    .tv (.pointer (some ⟨(ηq2 0).blk 0, 0 + (((36 * k) + 4) + i) * 1, none⟩)) (Instr.indexAt 26 (.pointer (some ⟨(ηq2 0).blk 0, 0, none⟩)) (.int .i64 ((((36 * k) + 4) + i : Nat) : Int))) (fun _ => idx_ar (N := 72) (k := ((36 * k) + 4) + i) (by kernel_rfl) (by omega)),
                    .sw 2 ((ηq2 0).blk 0) (0 + (((36 * k) + 4) + i) * 1) 26 (.int .u8 ((l.getD ((32 * k) + i) 0).toNat : Int)) (rB 72 (fP 72 (e2B l x p) (pD k i))).toArray (rB 72 ((fP 72 (e2B l x p) (pD k i)).set (((36 * k) + 4) + i) (l.getD ((32 * k) + i) 0))).toArray (by rw [Nat.zero_add, Nat.mul_one]; exact rB_set (show (fP 72 (e2B l x p) (pD k i)).length = 72 by first | rfl | (simp only [List.length_set, List.length_append, List.length_replicate, List.length_cons, List.length_nil, List.length_map, List.length_range, List.length_take, List.length_drop, fillL_len, colsB_len, fP_len, rv_len3, HML, hl]; done) | (simp only [List.length_set, List.length_append, List.length_replicate, List.length_cons, List.length_nil, List.length_map, List.length_range, List.length_take, List.length_drop, fillL_len, colsB_len, fP_len, rv_len3, HML, hl]; omega))) (by rw [Nat.zero_add, Nat.mul_one]; exact rL_lt (by omega))])
                  (fun ηq30 L => L.set 2 ((ηq2 0).blk 0, Obj.cells (rB 72 ((fP 72 (e2B l x p) (pD k i)).set (((36 * k) + 4) + i) (l.getD ((32 * k) + i) 0))).toArray 26 (0, 0))) (by kernel_rfl) OW (fun _ => by kernel_rfl) ?_
                clear OW; intro ηq30 ysq30 Wq30 OW
                simp only [↓putE_cons, ↓putE_nil, valE, Hint.val, Act.put, List.setIfInBounds_toArray, List.set_cons_succ, List.set_cons_zero]
                gi_upto_region 22 with fail
                refine wpIn_region_re 6 (fun ηq31 => [.pv (.int .i64 (i : Int)),
                    .tv (.int .i64 ((i + 1 : Nat) : Int)) (sBin .add 3 (.tmp 76) (.const (.int .i64 1)) (.int .i64 (i : Int)) (.int .i64 1)) (fun _ => bin_add_nat (a := i) (b := 1) (by omega)),
                    .pv (.int .i64 ((i + 1 : Nat) : Int))])
                  (fun ηq31 L => L) (by kernel_rfl) OW (fun _ => by kernel_rfl) ?_
                clear OW; intro ηq31 ysq31 Wq31 OW
                simp only [↓putE_cons, ↓putE_nil, valE, Hint.val, Act.put, List.setIfInBounds_toArray, List.set_cons_succ, List.set_cons_zero]
                gi_wp2
                go_roundw
                case rel => exact ⟨i + 1, by omega, by go_num, (by rw [r2D_succ _ (show 36 * k + 4 + i < 72 by omega), e2_data (show k < 2 by omega) (show i < 32 by omega), show 4 + (i + 1) = (4 + i) + 1 from rfl, ← fillL_set (show 4 + i < 39 by omega), wB_data hl (show k < 2 by omega) _ (show i < 32 by omega)]; exact OwnS.cast OW.out (by kernel_rfl))⟩
                case measure => (simp [intOf] <;> omega)
              have dhB28 := of_decide_eq_false hB28
              obtain rfl : i = 32 := by omega
              gi_upto_region 25 with fail
              refine wpIn_region_re 6 (fun ηq32 => [.pv (.int .i64 0)])
                (fun ηq32 L => L) (by kernel_rfl) OW (fun _ => by kernel_rfl) ?_
              clear OW; intro ηq32 ysq32 Wq32 OW
              simp only [↓putE_cons, ↓putE_nil, valE, Hint.val, Act.put, List.setIfInBounds_toArray, List.set_cons_succ, List.set_cons_zero]
              gi_wp2
              gi_loopw [19] (fun z19 wr => ∃ u : Nat, u ≤ 3 ∧ z19 = .int .i64 (u : Int) ∧ OwnS [] w [((ηq1 0).blk 0, Obj.cells (rB 64 l).toArray 22 (0, 0)), ((ηq1 1).blk 0, Obj.cells (rB 72 (List.replicate 72 0)).toArray 26 (0, 0)), ((ηq2 0).blk 0, Obj.cells (rB 72 (fP 72 (e2B l x p) (pD k 32))).toArray 26 (0, 0)), ((ηq7 1).blk 0, Obj.cells (rB 74 colsB).toArray 74 (0, 0)), ((ηq21 0).blk 0, Obj.cells (rB 39 (fillL 39 (wB l k (rvirt_0 x p)) (36 + u))).toArray 81 (0, 0)), ((ηq22 3).blk 0, Obj.cells (rB 3 (rvirt_0 x p)).toArray 43 (0, 0))] wr) (fun z19 _ => 3 - (intOf (z19)).toNat)
              case atStart => exact ⟨0, by omega, rfl, (by skip; exact OwnS.cast OW.out (by kernel_rfl))⟩
              case round =>
                obtain ⟨u, hk34, rfl, hO⟩ := hrel
                clear OW
                have OW := Lib.hid hO
                clear hO
                gi_upto_region 26 with fail
                refine wpIn_region_re 6 (fun ηq36 => [.pv (.int .i64 (u : Int)),
                    .pv (.bool (decide ((u : Int) < 3)))])
                  (fun ηq36 L => L) (by kernel_rfl) OW (fun _ => by kernel_rfl) ?_
                clear OW; intro ηq36 ysq36 Wq36 OW
                simp only [↓putE_cons, ↓putE_nil, valE, Hint.val, Act.put, List.setIfInBounds_toArray, List.set_cons_succ, List.set_cons_zero]
                cases hB37 : (decide ((u : Int) < 3))
                case true =>
                  have dhB37 := of_decide_eq_true hB37
                  gi_upto_region 28 with fail
                  refine wpIn_region_re 6 (fun ηq38 => [.pv (.int .i64 (u : Int)),
                      .tv (.int .i64 ((36 + u : Nat) : Int)) (sBin .add 3 (.const (.int .i64 36)) (.tmp 103) (.int .i64 36) (.int .i64 (u : Int))) (fun _ => bin_add_nat (a := 36) (b := u) (by omega)),
                      .pv (.int .i64 (u : Int)),
                      .tv (.pointer (some ⟨(ηq22 3).blk 0, 0 + u * 1, none⟩)) (Instr.indexAt 43 (.pointer (some ⟨(ηq22 3).blk 0, 0, none⟩)) (.int .i64 (u : Int))) (fun _ => idx_ar (N := 3) (k := u) (by kernel_rfl) (by omega)),
                      .lt (.int .u8 (((rvirt_0 x p).getD u 0).toNat : Int)) 5 (0 + u * 1) ((ηq22 3).blk 0) (rB 3 (rvirt_0 x p)).toArray 43 (by simpa only [Nat.zero_add, Nat.mul_one] using rB_get (by omega)),
                      .tv (.pointer (some ⟨(ηq21 0).blk 0, 0 + (36 + u) * 1, none⟩)) (Instr.indexAt 81 (.pointer (some ⟨(ηq21 0).blk 0, 0, none⟩)) (.int .i64 ((36 + u : Nat) : Int))) (fun _ => idx_ar (N := 39) (k := 36 + u) (by kernel_rfl) (by omega)),
                      .sw 4 ((ηq21 0).blk 0) (0 + (36 + u) * 1) 81 (.int .u8 (((rvirt_0 x p).getD u 0).toNat : Int)) (rB 39 (fillL 39 (wB l k (rvirt_0 x p)) (36 + u))).toArray (rB 39 ((fillL 39 (wB l k (rvirt_0 x p)) (36 + u)).set (36 + u) ((rvirt_0 x p).getD u 0))).toArray (by rw [Nat.zero_add, Nat.mul_one]; exact rB_set (show (fillL 39 (wB l k (rvirt_0 x p)) (36 + u)).length = 39 by first | rfl | (simp only [List.length_set, List.length_append, List.length_replicate, List.length_cons, List.length_nil, List.length_map, List.length_range, List.length_take, List.length_drop, fillL_len, colsB_len, fP_len, rv_len3, HML, hl]; done) | (simp only [List.length_set, List.length_append, List.length_replicate, List.length_cons, List.length_nil, List.length_map, List.length_range, List.length_take, List.length_drop, fillL_len, colsB_len, fP_len, rv_len3, HML, hl]; omega))) (by rw [Nat.zero_add, Nat.mul_one]; exact rL_lt (by omega))])
                    (fun ηq38 L => L.set 4 ((ηq21 0).blk 0, Obj.cells (rB 39 ((fillL 39 (wB l k (rvirt_0 x p)) (36 + u)).set (36 + u) ((rvirt_0 x p).getD u 0))).toArray 81 (0, 0))) (by kernel_rfl) OW (fun _ => by kernel_rfl) ?_
                  clear OW; intro ηq38 ysq38 Wq38 OW
                  simp only [↓putE_cons, ↓putE_nil, valE, Hint.val, Act.put, List.setIfInBounds_toArray, List.set_cons_succ, List.set_cons_zero]
                  gi_upto_region 27 with fail
                  refine wpIn_region_re 6 (fun ηq39 => [.pv (.int .i64 (u : Int)),
                      .tv (.int .i64 ((u + 1 : Nat) : Int)) (sBin .add 3 (.tmp 101) (.const (.int .i64 1)) (.int .i64 (u : Int)) (.int .i64 1)) (fun _ => bin_add_nat (a := u) (b := 1) (by omega)),
                      .pv (.int .i64 ((u + 1 : Nat) : Int))])
                    (fun ηq39 L => L) (by kernel_rfl) OW (fun _ => by kernel_rfl) ?_
                  clear OW; intro ηq39 ysq39 Wq39 OW
                  simp only [↓putE_cons, ↓putE_nil, valE, Hint.val, Act.put, List.setIfInBounds_toArray, List.set_cons_succ, List.set_cons_zero]
                  gi_wp2
                  go_roundw
                  case rel => exact ⟨u + 1, by omega, by go_num, (by rw [show 36 + (u + 1) = (36 + u) + 1 from rfl, ← fillL_set (show 36 + u < 39 by omega), wB_virt hl (show k < 2 by omega)]; exact OwnS.cast OW.out (by kernel_rfl))⟩
                  case measure => (simp [intOf] <;> omega)
                have dhB37 := of_decide_eq_false hB37
                obtain rfl : u = 3 := by omega
                have OW := Lib.hid (OwnS.cast (L' := [((ηq1 0).blk 0, Obj.cells (rB 64 l).toArray 22 (0, 0)), ((ηq1 1).blk 0, Obj.cells (rB 72 (List.replicate 72 0)).toArray 26 (0, 0)), ((ηq2 0).blk 0, Obj.cells (rB 72 (fP 72 (e2B l x p) (pD k 32))).toArray 26 (0, 0)), ((ηq7 1).blk 0, Obj.cells (rB 74 colsB).toArray 74 (0, 0)), ((ηq21 0).blk 0, Obj.cells (rB 39 (List.replicate 4 0 ++ hfL l k ++ rvirt_0 x p)).toArray 81 (0, 0)), ((ηq22 3).blk 0, Obj.cells (rB 3 (rvirt_0 x p)).toArray 43 (0, 0))]) OW.out (by rw [wB_full hl (show k < 2 by omega) (rv_len3 x p)]))
                gi_upto_region 29 with fail
                have HML : (List.replicate 4 0 ++ hfL l k ++ rvirt_0 x p).length = 39 := by rw [List.length_append, List.length_append, hfL_len hl (show k < 2 by omega), rv_len3]; rfl
                refine wpIn_region_re 7 (fun ηq40 => [.ls (rB 39 (List.replicate 4 0 ++ hfL l k ++ rvirt_0 x p)) 4 0,
                    .cl 41 #[.agg (rB 39 (List.replicate 4 0 ++ hfL l k ++ rvirt_0 x p)).toArray] (fun E => .agg (rB 4 (rchk (List.replicate 4 0 ++ hfL l k ++ rvirt_0 x p))).toArray) [] [] (fun E => []) (enters_of Try.func41 (by kernel_rfl) rfl) (fun w' H => cB (callsIn_wide.2 (rchk10_any (List.replicate 4 0 ++ hfL l k ++ rvirt_0 x p) (by first | rfl | (simp only [List.length_set, List.length_append, List.length_replicate, List.length_cons, List.length_nil, List.length_map, List.length_range, List.length_take, List.length_drop, fillL_len, colsB_len, fP_len, rv_len3, HML, hl]; done) | (simp only [List.length_set, List.length_append, List.length_replicate, List.length_cons, List.length_nil, List.length_map, List.length_range, List.length_take, List.length_drop, fillL_len, colsB_len, fP_len, rv_len3, HML, hl]; omega)) w'))),
                    .al 6 68 (rB 4 (List.replicate 4 0)).toArray,
                    .ss 6 ((ηq40 2).blk 0) 0 68 (rB 4 (rchk (List.replicate 4 0 ++ hfL l k ++ rvirt_0 x p))) (rB 4 (rchk (List.replicate 4 0 ++ hfL l k ++ rvirt_0 x p))).toArray])
                  (fun ηq40 L => L ++ [((ηq40 2).blk 0, Obj.cells (rB 4 (rchk (List.replicate 4 0 ++ hfL l k ++ rvirt_0 x p))).toArray 68 (0, 0))]) (by kernel_rfl) OW (fun _ => by kernel_rfl) ?_
                clear OW; intro ηq40 ysq40 Wq40 OW
                simp only [↓putE_cons, ↓putE_nil, valE, Hint.val, Act.put, List.setIfInBounds_toArray, List.set_cons_succ, List.set_cons_zero]
                gi_upto_region 30 with fail
                refine wpIn_region_re 7 (fun ηq41 => [.pv (.int .i64 0)])
                  (fun ηq41 L => L) (by kernel_rfl) OW (fun _ => by kernel_rfl) ?_
                clear OW; intro ηq41 ysq41 Wq41 OW
                simp only [↓putE_cons, ↓putE_nil, valE, Hint.val, Act.put, List.setIfInBounds_toArray, List.set_cons_succ, List.set_cons_zero]
                gi_wp2
                gi_loopw [21] (fun z21 wr => ∃ t : Nat, t ≤ 4 ∧ z21 = .int .i64 (t : Int) ∧ OwnS [] w [((ηq1 0).blk 0, Obj.cells (rB 64 l).toArray 22 (0, 0)), ((ηq1 1).blk 0, Obj.cells (rB 72 (List.replicate 72 0)).toArray 26 (0, 0)), ((ηq2 0).blk 0, Obj.cells (rB 72 (fP 72 (e2B l x p) (pC k t))).toArray 26 (0, 0)), ((ηq7 1).blk 0, Obj.cells (rB 74 colsB).toArray 74 (0, 0)), ((ηq21 0).blk 0, Obj.cells (rB 39 (List.replicate 4 0 ++ hfL l k ++ rvirt_0 x p)).toArray 81 (0, 0)), ((ηq22 3).blk 0, Obj.cells (rB 3 (rvirt_0 x p)).toArray 43 (0, 0)), ((ηq40 2).blk 0, Obj.cells (rB 4 (rchk (List.replicate 4 0 ++ hfL l k ++ rvirt_0 x p))).toArray 68 (0, 0))] wr) (fun z21 _ => 4 - (intOf (z21)).toNat)
                case atStart => exact ⟨0, by omega, rfl, (by rw [r2C_zero]; exact OwnS.cast OW.out (by kernel_rfl))⟩
                case round =>
                  obtain ⟨t, hk43, rfl, hO⟩ := hrel
                  clear OW
                  have OW := Lib.hid hO
                  clear hO
                  gi_upto_region 31 with fail
                  refine wpIn_region_re 7 (fun ηq45 => [.pv (.int .i64 (t : Int)),
                      .pv (.bool (decide ((t : Int) < 4)))])
                    (fun ηq45 L => L) (by kernel_rfl) OW (fun _ => by kernel_rfl) ?_
                  clear OW; intro ηq45 ysq45 Wq45 OW
                  simp only [↓putE_cons, ↓putE_nil, valE, Hint.val, Act.put, List.setIfInBounds_toArray, List.set_cons_succ, List.set_cons_zero]
                  cases hB46 : (decide ((t : Int) < 4))
                  case true =>
                    have dhB46 := of_decide_eq_true hB46
                    gi_upto_region 33 with fail
                    refine wpIn_region_re 7 (fun ηq47 => [.pv (.int .i64 (k : Int)),
                        .tv (.int .i64 ((36 * k : Nat) : Int)) (sBin .mul 3 (.const (.int .i64 36)) (.tmp 115) (.int .i64 36) (.int .i64 (k : Int))) (fun _ => bin_mul_nat (a := 36) (b := k) (by omega)),
                        .pv (.int .i64 (t : Int)),
                        .tv (.int .i64 (((36 * k) + t : Nat) : Int)) (sBin .add 3 (.tmp 116) (.tmp 117) (.int .i64 ((36 * k : Nat) : Int)) (.int .i64 (t : Int))) (fun _ => bin_add_nat (a := 36 * k) (b := t) (by omega)),
                        .pv (.int .i64 (t : Int)),
                        .tv (.pointer (some ⟨(ηq40 2).blk 0, 0 + t * 1, none⟩)) (Instr.indexAt 68 (.pointer (some ⟨(ηq40 2).blk 0, 0, none⟩)) (.int .i64 (t : Int))) (fun _ => idx_ar (N := 4) (k := t) (by kernel_rfl) (by omega)),
                        .lt (.int .u8 (((rchk (List.replicate 4 0 ++ hfL l k ++ rvirt_0 x p)).getD t 0).toNat : Int)) 6 (0 + t * 1) ((ηq40 2).blk 0) (rB 4 (rchk (List.replicate 4 0 ++ hfL l k ++ rvirt_0 x p))).toArray 68 (by simpa only [Nat.zero_add, Nat.mul_one] using rB_get (by omega)),
                        .tv (.pointer (some ⟨(ηq2 0).blk 0, 0 + ((36 * k) + t) * 1, none⟩)) (Instr.indexAt 26 (.pointer (some ⟨(ηq2 0).blk 0, 0, none⟩)) (.int .i64 (((36 * k) + t : Nat) : Int))) (fun _ => idx_ar (N := 72) (k := (36 * k) + t) (by kernel_rfl) (by omega)),
                        .sw 2 ((ηq2 0).blk 0) (0 + ((36 * k) + t) * 1) 26 (.int .u8 (((rchk (List.replicate 4 0 ++ hfL l k ++ rvirt_0 x p)).getD t 0).toNat : Int)) (rB 72 (fP 72 (e2B l x p) (pC k t))).toArray (rB 72 ((fP 72 (e2B l x p) (pC k t)).set ((36 * k) + t) ((rchk (List.replicate 4 0 ++ hfL l k ++ rvirt_0 x p)).getD t 0))).toArray (by rw [Nat.zero_add, Nat.mul_one]; exact rB_set (show (fP 72 (e2B l x p) (pC k t)).length = 72 by first | rfl | (simp only [List.length_set, List.length_append, List.length_replicate, List.length_cons, List.length_nil, List.length_map, List.length_range, List.length_take, List.length_drop, fillL_len, colsB_len, fP_len, rv_len3, HML, hl]; done) | (simp only [List.length_set, List.length_append, List.length_replicate, List.length_cons, List.length_nil, List.length_map, List.length_range, List.length_take, List.length_drop, fillL_len, colsB_len, fP_len, rv_len3, HML, hl]; omega))) (by rw [Nat.zero_add, Nat.mul_one]; exact rL_lt (by omega))])
                      (fun ηq47 L => L.set 2 ((ηq2 0).blk 0, Obj.cells (rB 72 ((fP 72 (e2B l x p) (pC k t)).set ((36 * k) + t) ((rchk (List.replicate 4 0 ++ hfL l k ++ rvirt_0 x p)).getD t 0))).toArray 26 (0, 0))) (by kernel_rfl) OW (fun _ => by kernel_rfl) ?_
                    clear OW; intro ηq47 ysq47 Wq47 OW
                    simp only [↓putE_cons, ↓putE_nil, valE, Hint.val, Act.put, List.setIfInBounds_toArray, List.set_cons_succ, List.set_cons_zero]
                    gi_upto_region 32 with fail
                    refine wpIn_region_re 7 (fun ηq48 => [.pv (.int .i64 (t : Int)),
                        .tv (.int .i64 ((t + 1 : Nat) : Int)) (sBin .add 3 (.tmp 113) (.const (.int .i64 1)) (.int .i64 (t : Int)) (.int .i64 1)) (fun _ => bin_add_nat (a := t) (b := 1) (by omega)),
                        .pv (.int .i64 ((t + 1 : Nat) : Int))])
                      (fun ηq48 L => L) (by kernel_rfl) OW (fun _ => by kernel_rfl) ?_
                    clear OW; intro ηq48 ysq48 Wq48 OW
                    simp only [↓putE_cons, ↓putE_nil, valE, Hint.val, Act.put, List.setIfInBounds_toArray, List.set_cons_succ, List.set_cons_zero]
                    gi_wp2
                    go_roundw
                    case rel => exact ⟨t + 1, by omega, by go_num, (by rw [r2C_succ _ (show 36 * k + t < 72 by omega), e2_chk hl (show k < 2 by omega) (show t < 4 by omega)]; exact OwnS.cast OW.out (by kernel_rfl))⟩
                    case measure => (simp [intOf] <;> omega)
                  have dhB46 := of_decide_eq_false hB46
                  obtain rfl : t = 4 := by omega
                  gi_upto_region 17 with fail
                  refine wpIn_region_re 7 (fun ηq49 => [.pv (.int .i64 (k : Int)),
                      .tv (.int .i64 ((k + 1 : Nat) : Int)) (sBin .add 3 (.tmp 69) (.const (.int .i64 1)) (.int .i64 (k : Int)) (.int .i64 1)) (fun _ => bin_add_nat (a := k) (b := 1) (by omega)),
                      .pv (.int .i64 ((k + 1 : Nat) : Int))])
                    (fun ηq49 L => L) (by kernel_rfl) OW (fun _ => by kernel_rfl) ?_
                  clear OW; intro ηq49 ysq49 Wq49 OW
                  simp only [↓putE_cons, ↓putE_nil, valE, Hint.val, Act.put, List.setIfInBounds_toArray, List.set_cons_succ, List.set_cons_zero]
                  gi_wp2
                  go_roundw
                  case rel => exact ⟨k + 1, by omega, by go_num, (by rw [← r2C_all]; exact OwnS.pick OW.out [0, 1, 2, 3] _ (by kernel_rfl))⟩
                  case measure => (simp [intOf] <;> omega)
          have hB20 := (Bool.and_true _).symm.trans hB20
          have dhB20 := of_decide_eq_false hB20
          obtain rfl : k = 2 := by omega
          gi_upto_region 34 with fail
          refine wpIn_region_re 4 (fun ηq50 => [.ls (rB 72 (fillL 72 (e2B l x p) (36 * 2))) 2 0,
              .ss 1 ((ηq1 1).blk 0) 0 26 (rB 72 (fillL 72 (e2B l x p) (36 * 2))) (rB 72 (fillL 72 (e2B l x p) (36 * 2))).toArray])
            (fun ηq50 L => L.set 1 ((ηq1 1).blk 0, Obj.cells (rB 72 (fillL 72 (e2B l x p) (36 * 2))).toArray 26 (0, 0))) (by kernel_rfl) OW (fun _ => by kernel_rfl) ?_
          clear OW; intro ηq50 ysq50 Wq50 OW
          simp only [↓putE_cons, ↓putE_nil, valE, Hint.val, Act.put, List.setIfInBounds_toArray, List.set_cons_succ, List.set_cons_zero]
          gi_wp2
          exact leavesS OW [.s (rB 72 (fillL 72 (e2B l x p) (36 * 2))) 1] (by kernel_rfl) fun hO => ⟨(by rw [← e2_full hl]; rfl), hO.done⟩
end Go.Proofs.Ytkeheickaogpiaa
