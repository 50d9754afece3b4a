/- The codec: parities, decoding a word. -/
import Derived.Test.YtkeheickaogpiaaCdD
import Derived.WalkKit
import Derived.Sort.CutIn
import Derived.IntWalk
namespace Go.Proofs.Ytkeheickaogpiaa
open Go Go.RowKit Go.Shelf
attribute [local go_sem] Oper.semAt_some
set_option linter.unusedVariables false
set_option linter.unusedSimpArgs false


theorem i64_and1' (n : Nat) (h : n < 9223372036854775808) : bits .and .i64 (n : Int) 1 = ((n % 2 : Nat) : Int) := by
  have hx : n &&& 1 < 2 ^ 63 := Nat.and_lt_two_pow _ (by omega)
  have h2 : ∀ c : Nat, c < 9223372036854775808 → (BitVec.ofInt 64 (c : Int)).toNat = c := by
    intro c hc
    rw [BitVec.ofInt_natCast, BitVec.toNat_ofNat]; exact Nat.mod_eq_of_lt (by omega)
  show IntKind.i64.wrap ((BitVec.ofInt 64 (n : Int) &&& BitVec.ofInt 64 ((1 : Nat) : Int)).toNat : Int) = _
  rw [BitVec.toNat_and, h2 n h, h2 1 (by omega), IntKind.wrap_i64, Nat.and_one_is_mod]
  omega
theorem parity32 (x : Nat) (lx : x < 4294967296) (w : World) : Calls Try.prog 49 #[.int .u32 (x : Int)] w fun e w' => e = .returned (.int .i64 ((pc x % 2 : Nat) : Int)) ∧ w = w' := by
  have h1 := i64_and1' (pc x) (by have := pc_le x; omega)
  go_enter Try.func49, Try.ntmps49
  go_wp2_with fail
  refine (weight32 _ x rfl lx _).mono ?_
  rintro e w2 ⟨rfl, rfl⟩
  go_wp2
  go_ret
  exact ⟨rfl, rfl⟩
/-- The lowest 23 bits. -/
def lo23 (x : Int) : Nat := (x % 8388608).toNat
theorem lo23_lt (x : Int) : lo23 x < 8388608 := by unfold lo23; omega
theorem and23 {P : Program} {T : TypeId} {y z : Operand} {w : World} (x : Int) : (sBin .and T y z (.int .i64 x) (.int .i64 8388607)).run P w = .ok (.int .i64 ((lo23 x : Nat) : Int)) w := by
  have h : bits .and .i64 x 8388607 = ((lo23 x : Nat) : Int) := by
    show IntKind.i64.wrap ((BitVec.ofInt 64 x &&& BitVec.ofInt 64 8388607).toNat : Int) = _
    have e : (BitVec.ofInt 64 8388607).toNat = 2 ^ 23 - 1 := by decide
    rw [BitVec.toNat_and, e, Nat.and_two_pow_sub_one_eq_mod, BitVec.toNat_ofInt, IntKind.wrap_i64]
    unfold lo23
    omega
  rw [← h]
  rfl
theorem cvt_i64u32 {P : Program} {S T : TypeId} {w : World} (hS : P.underlying S = some (.int .i64)) (hT : P.underlying T = some (.int .u32)) {c : Nat} (hc : c < 4294967296) : (convert S T (.int .i64 (c : Int))).run P w = .ok (.int .u32 (c : Int)) w := by
  have h : IntKind.u32.wrap (c : Int) = (c : Int) := by rw [IntKind.wrap_u32]; omega
  simp only [convert, Sem.run_bind, run_underlying hS, run_underlying hT, Result.andThen_ok, Conv.intToInt, h, Sem.run_pure]
/-- An index's parity. -/
def par23 (x : Int) : Nat := pc (lo23 x) % 2
set_option maxRecDepth 100000 in
set_option maxHeartbeats 1000000 in
theorem dpar_any (x : Int) (h0 : -9223372036854775808 ≤ x) (h1 : x ≤ 9223372036854775807) (w : World) : Calls Try.prog 23 #[.int .i64 x] w fun e w' => e = .returned (.int .i64 ((par23 x : Nat) : Int)) ∧ Below w.heap.size w w' := by
  have HLO := lo23_lt x
  have H : Has [] w := has_nil
  have OW : Hid (OwnS [] w [] w) := Lib.hid (OwnS.start H)
  refine (callsIn_wide (n := 6)).1 ?_
  refine callsIn_of_wp_marks Try.func23 rfl trivial ?_ rfl
  simp only [Try.ntmps23, List.size_toArray, List.length_cons, List.length_nil, Nat.reduceAdd, Nat.reduceSub, Array.replicate_succ, Array.replicate_zero, List.push_toArray, List.append_toArray, List.nil_append, List.cons_append]
  gi_upto_region 0 with fail
  refine wpIn_region_re 0 (fun ηq1 => [.pv (.int .i64 0)])
    (fun ηq1 L => L) (by kernel_rfl) OW (fun _ => by kernel_rfl) ?_
  clear OW; intro ηq1 ysq1 Wq1 OW
  simp only [↓putE_cons, ↓putE_nil, valE, Hint.val, Act.put, List.setIfInBounds_toArray, List.set_cons_succ, List.set_cons_zero]
  gi_upto_region 1 with fail
  refine wpIn_region_re 0 (fun ηq2 => [.pv (.int .i64 x),
      .tv (.int .i64 ((lo23 x : Nat) : Int)) (sBin .and 3 (.tmp 3) (.const (.int .i64 8388607)) (.int .i64 x) (.int .i64 8388607)) (fun _ => and23 x),
      .tv (.int .u32 ((lo23 x : Nat) : Int)) (convert 3 96 (.int .i64 ((lo23 x : Nat) : Int))) (fun _ => cvt_i64u32 Try.underlying3 Try.underlying96 (by omega)),
      .cl 49 #[.int .u32 ((lo23 x : Nat) : Int)] (fun E => .int .i64 ((pc (lo23 x) % 2 : Nat) : Int)) [] [] (fun E => []) (enters_of Try.func49 (by kernel_rfl) rfl) (fun w' H => cS (callsIn_wide.2 (parity32 (lo23 x) (by omega) w'))),
      .pv (.int .i64 ((pc (lo23 x) % 2 : Nat) : Int))])
    (fun ηq2 L => L) (by kernel_rfl) OW (fun _ => by kernel_rfl) ?_
  clear OW; intro ηq2 ysq2 Wq2 OW
  simp only [↓putE_cons, ↓putE_nil, valE, Hint.val, Act.put, List.setIfInBounds_toArray, List.set_cons_succ, List.set_cons_zero]
  gi_wp2
  exact leavesS OW [.t (.int .i64 ((pc (lo23 x) % 2 : Nat) : Int))] (by kernel_rfl) fun hO => ⟨(by rfl), hO.done⟩
theorem sl_slh {P : Program} {T : TypeId} {w : World} {g n c h : Nat} (hT : (P.underlying T, (sizB P (P.elem T)).isSome) = (some (.slice (P.elem T)), true)) (h1 : h ≤ c) (h0 : 0 < c) : (Instr.sliceAt T (.slice (some ⟨g, 0, none⟩) n c) none (some (.int .i64 (h : Int))) none).run P w = .ok (.slice (some ⟨g, 0, none⟩) h c) w := by
  obtain ⟨s, hs⟩ := Option.isSome_iff_exists.1 (congrArg (·.2) hT)
  rw [run_sliceAt_slice _ _ _ _ _ _ (congrArg (·.1) hT), run_slice_h _ _ _ _ _ (congrArg (·.1) hT) .i64 (h : Int) (by omega) (by omega), run_sizeOf hs, Result.andThen_ok]
  unfold sliced
  rw [Int.toNat_natCast, if_neg (by omega)]
  simp [Addr.add]
def dbits_0 (ys : List UInt8) (x : Int) : Int := (bif ((hsK (numO ys 0 8) (ys.getD 8 0) ((par23 x : Nat) : Int) : Nat) : Int) == 0 then 0 else (bif ((hsK (numO ys 0 8) (ys.getD 8 0) ((par23 x : Nat) : Int) : Nat) : Int) == 1 then 1 else (bif ((hsK (numO ys 0 8) (ys.getD 8 0) ((par23 x : Nat) : Int) : Nat) : Int) == 2 then 2 else 3)))
set_option maxRecDepth 100000 in
set_option maxHeartbeats 1000000 in
theorem dbits_any (cc hb cb a c r : Nat) (ys : List UInt8) (hy : ys.length = 9) (x : Int) (h0 : -9223372036854775808 ≤ x) (h1 : x ≤ 9223372036854775807) (hc : 9 ≤ c) (w : World) (H : Has [(cc, Obj.cells #[.pointer (some ⟨hb, 0, none⟩), .pointer (some ⟨cb, 0, none⟩)] 61 (0, 0)), (hb, Obj.cells hsN 102 (0, 0)), (a, Obj.cells (rowZ (slF eB ys) [.int .u8 0] r) 5 (0, 0))] w) : Calls Try.prog 58 #[.pointer (some ⟨cc, 0, none⟩), .slice (some ⟨a, 0, none⟩) 9 c, .int .i64 x] w fun e w' => e = .returned (.tuple #[.int .u64 ((hsD (numO ys 0 8) (ys.getD 8 0) ((par23 x : Nat) : Int) : Nat) : Int), .int .i64 (dbits_0 ys x)]) ∧ Step [] [] w w' := by
  have HNL := numO_lt64 ys 0 (k := 8) (by decide)
  have OW : Hid (OwnS [cc, hb, a] w [(cc, Obj.cells #[.pointer (some ⟨hb, 0, none⟩), .pointer (some ⟨cb, 0, none⟩)] 61 (0, 0)), (hb, Obj.cells hsN 102 (0, 0)), (a, Obj.cells (rowZ (slF eB ys) [.int .u8 0] r) 5 (0, 0))] w) := Lib.hid (OwnS.start H)
  refine (callsIn_wide (n := 6)).1 ?_
  refine callsIn_of_wp_marks Try.func58 rfl trivial ?_ rfl
  simp only [Try.ntmps58, List.size_toArray, List.length_cons, List.length_nil, Nat.reduceAdd, Nat.reduceSub, Array.replicate_succ, Array.replicate_zero, List.push_toArray, List.append_toArray, List.nil_append, List.cons_append]
  gi_upto_region 0 with fail
  refine wpIn_region_re 3 (fun ηq1 => [.pv (.int .u64 0),
      .pv (.int .i64 0)])
    (fun ηq1 L => L) (by kernel_rfl) OW (fun _ => by kernel_rfl) ?_
  clear OW; intro ηq1 ysq1 Wq1 OW
  simp only [↓putE_cons, ↓putE_nil, valE, Hint.val, Act.put, List.setIfInBounds_toArray, List.set_cons_succ, List.set_cons_zero]
  gi_upto_region 1 with fail
  refine wpIn_region_re 3 (fun ηq2 => [.pv (.pointer (some ⟨cc, 0, none⟩)),
      .pv (.pointer (some ⟨cc, 0, none⟩)),
      .pv (.pointer (some ⟨cc, 0, none⟩)),
      .ld (.pointer (some ⟨hb, 0, none⟩)) 0 0,
      .pv (.slice (some ⟨a, 0, none⟩) 9 c),
      .tv (.slice (some ⟨a, 0, none⟩) 8 c) (Instr.sliceAt 56 (.slice (some ⟨a, 0, none⟩) 9 c) none (some (.int .i64 8)) none) (fun _ => sl_slh (h := 8) (by kernel_rfl) (by omega) (by omega)),
      .cl 83 #[.slice (some ⟨a, 0, none⟩) 8 c] (fun E => .int .u64 ((numO ys 0 8 : Nat) : Int)) [(2, (a, Obj.cells (rowZ (slF eB ys) [.int .u8 0] r) 5 (0, 0)))] [] (fun E => []) (enters_of Try.func83 (by kernel_rfl) rfl) (fun w' H => cN (callsIn_wide.2 (dnum_any a c r ys (by omega) w' H))),
      .pv (.slice (some ⟨a, 0, none⟩) 9 c),
      .tv (.pointer (some ⟨a, 0 + 8 * 1, none⟩)) (Instr.indexAt 56 (.slice (some ⟨a, 0, none⟩) 9 c) (.int .i64 8)) (fun _ => idx_sl (k := 8) (by kernel_rfl) (by omega)),
      .lt (.int .u8 ((ys.getD 8 0).toNat : Int)) 2 (0 + 8 * 1) a (rowZ (slF eB ys) [.int .u8 0] r) 5 (zcell (k := 1) (f := 0) (fun _ => rfl) (by omega) (by decide) rfl),
      .pv (.int .i64 x),
      .cl 23 #[.int .i64 x] (fun E => .int .i64 ((par23 x : Nat) : Int)) [] [] (fun E => []) (enters_of Try.func23 (by kernel_rfl) rfl) (fun w' H => cB (callsIn_wide.2 (dpar_any x (by omega) (by omega) w'))),
      .cl 82 #[.pointer (some ⟨hb, 0, none⟩), .int .u64 ((numO ys 0 8 : Nat) : Int), .int .u8 ((ys.getD 8 0).toNat : Int), .int .i64 ((par23 x : Nat) : Int)] (fun E => .tuple #[.int .u64 ((hsD (numO ys 0 8) (ys.getD 8 0) ((par23 x : Nat) : Int) : Nat) : Int), .int .i64 ((hsK (numO ys 0 8) (ys.getD 8 0) ((par23 x : Nat) : Int) : Nat) : Int), .int .i64 (hsP (numO ys 0 8) (ys.getD 8 0) ((par23 x : Nat) : Int))]) [(1, (hb, Obj.cells hsN 102 (0, 0)))] [] (fun E => []) (enters_of Try.func82 (by kernel_rfl) rfl) (fun w' H => cB (callsIn_wide.2 (hdecode_any hb (numO ys 0 8) (ys.getD 8 0) (by omega) ((par23 x : Nat) : Int) w' H))),
      .pv (.tuple #[.int .u64 ((hsD (numO ys 0 8) (ys.getD 8 0) ((par23 x : Nat) : Int) : Nat) : Int), .int .i64 ((hsK (numO ys 0 8) (ys.getD 8 0) ((par23 x : Nat) : Int) : Nat) : Int), .int .i64 (hsP (numO ys 0 8) (ys.getD 8 0) ((par23 x : Nat) : Int))]),
      .pv (.int .u64 ((hsD (numO ys 0 8) (ys.getD 8 0) ((par23 x : Nat) : Int) : Nat) : Int)),
      .pv (.int .i64 ((hsK (numO ys 0 8) (ys.getD 8 0) ((par23 x : Nat) : Int) : Nat) : Int)),
      .pv (.int .i64 (hsP (numO ys 0 8) (ys.getD 8 0) ((par23 x : Nat) : Int))),
      .pv (.int .u64 ((hsD (numO ys 0 8) (ys.getD 8 0) ((par23 x : Nat) : Int) : Nat) : Int)),
      .pv (.int .i64 ((hsK (numO ys 0 8) (ys.getD 8 0) ((par23 x : Nat) : Int) : Nat) : Int)),
      .pv (.int .i64 (hsP (numO ys 0 8) (ys.getD 8 0) ((par23 x : Nat) : Int)))])
    (fun ηq2 L => L) (by kernel_rfl) OW (fun _ => by kernel_rfl) ?_
  clear OW; intro ηq2 ysq2 Wq2 OW
  simp only [↓putE_cons, ↓putE_nil, valE, Hint.val, Act.put, List.setIfInBounds_toArray, List.set_cons_succ, List.set_cons_zero]
  gi_upto_region 2 with fail
  refine wpIn_region_re 3 (fun ηq3 => [.pv (.int .i64 ((hsK (numO ys 0 8) (ys.getD 8 0) ((par23 x : Nat) : Int) : Nat) : Int))])
    (fun ηq3 L => L) (by kernel_rfl) OW (fun _ => by kernel_rfl) ?_
  clear OW; intro ηq3 ysq3 Wq3 OW
  simp only [↓putE_cons, ↓putE_nil, valE, Hint.val, Act.put, List.setIfInBounds_toArray, List.set_cons_succ, List.set_cons_zero]
  gi_upto_region 3 with fail
  refine wpIn_region_re 3 (fun ηq4 => [.pv (.bool (((hsK (numO ys 0 8) (ys.getD 8 0) ((par23 x : Nat) : Int) : Nat) : Int) == 0)),
      .pv (.bool (((hsK (numO ys 0 8) (ys.getD 8 0) ((par23 x : Nat) : Int) : Nat) : Int) == 0))])
    (fun ηq4 L => L) (by kernel_rfl) OW (fun _ => by kernel_rfl) ?_
  clear OW; intro ηq4 ysq4 Wq4 OW
  simp only [↓putE_cons, ↓putE_nil, valE, Hint.val, Act.put, List.setIfInBounds_toArray, List.set_cons_succ, List.set_cons_zero]
  cases hB5 : (((hsK (numO ys 0 8) (ys.getD 8 0) ((par23 x : Nat) : Int) : Nat) : Int) == 0)
  case true =>
    have dhB5 := Lib.hid (eq_of_beq hB5)
    gi_upto_region 4 with fail
    refine wpIn_region_re 3 (fun ηq6 => [.pv (.int .u64 ((hsD (numO ys 0 8) (ys.getD 8 0) ((par23 x : Nat) : Int) : Nat) : Int)),
        .pv (.int .u64 ((hsD (numO ys 0 8) (ys.getD 8 0) ((par23 x : Nat) : Int) : Nat) : Int)),
        .pv (.int .i64 0)])
      (fun ηq6 L => L) (by kernel_rfl) OW (fun _ => by kernel_rfl) ?_
    clear OW; intro ηq6 ysq6 Wq6 OW
    simp only [↓putE_cons, ↓putE_nil, valE, Hint.val, Act.put, List.setIfInBounds_toArray, List.set_cons_succ, List.set_cons_zero]
    gi_wp2
    exact leavesS OW [.t (.int .u64 ((hsD (numO ys 0 8) (ys.getD 8 0) ((par23 x : Nat) : Int) : Nat) : Int)), .t (.int .i64 0)] (by kernel_rfl) fun hO => ⟨(by (try simp only [dbits_0]); (repeat (first | rw [hB5] | rw [cond_true] | rw [cond_false])); try rfl), (by (try simp only [dbits_0]); (repeat (first | rw [hB5] | rw [cond_true] | rw [cond_false])); exact OwnS.fin H hO [] [] [] [0, 1, 2] (by kernel_rfl))⟩
  have dhB5 := ne_of_beq_false hB5
  gi_upto_region 5 with fail
  refine wpIn_region_re 3 (fun ηq7 => [.pv (.bool (((hsK (numO ys 0 8) (ys.getD 8 0) ((par23 x : Nat) : Int) : Nat) : Int) == 1)),
      .pv (.bool (((hsK (numO ys 0 8) (ys.getD 8 0) ((par23 x : Nat) : Int) : Nat) : Int) == 1))])
    (fun ηq7 L => L) (by kernel_rfl) OW (fun _ => by kernel_rfl) ?_
  clear OW; intro ηq7 ysq7 Wq7 OW
  simp only [↓putE_cons, ↓putE_nil, valE, Hint.val, Act.put, List.setIfInBounds_toArray, List.set_cons_succ, List.set_cons_zero]
  cases hB8 : (((hsK (numO ys 0 8) (ys.getD 8 0) ((par23 x : Nat) : Int) : Nat) : Int) == 1)
  case true =>
    have dhB8 := Lib.hid (eq_of_beq hB8)
    gi_upto_region 6 with fail
    refine wpIn_region_re 3 (fun ηq9 => [.pv (.int .u64 ((hsD (numO ys 0 8) (ys.getD 8 0) ((par23 x : Nat) : Int) : Nat) : Int)),
        .pv (.int .u64 ((hsD (numO ys 0 8) (ys.getD 8 0) ((par23 x : Nat) : Int) : Nat) : Int)),
        .pv (.int .i64 1)])
      (fun ηq9 L => L) (by kernel_rfl) OW (fun _ => by kernel_rfl) ?_
    clear OW; intro ηq9 ysq9 Wq9 OW
    simp only [↓putE_cons, ↓putE_nil, valE, Hint.val, Act.put, List.setIfInBounds_toArray, List.set_cons_succ, List.set_cons_zero]
    gi_wp2
    exact leavesS OW [.t (.int .u64 ((hsD (numO ys 0 8) (ys.getD 8 0) ((par23 x : Nat) : Int) : Nat) : Int)), .t (.int .i64 1)] (by kernel_rfl) fun hO => ⟨(by (try simp only [dbits_0]); (repeat (first | rw [hB5] | rw [hB8] | rw [cond_true] | rw [cond_false])); try rfl), (by (try simp only [dbits_0]); (repeat (first | rw [hB5] | rw [hB8] | rw [cond_true] | rw [cond_false])); exact OwnS.fin H hO [] [] [] [0, 1, 2] (by kernel_rfl))⟩
  have dhB8 := ne_of_beq_false hB8
  gi_upto_region 7 with fail
  refine wpIn_region_re 3 (fun ηq10 => [.pv (.bool (((hsK (numO ys 0 8) (ys.getD 8 0) ((par23 x : Nat) : Int) : Nat) : Int) == 2)),
      .pv (.bool (((hsK (numO ys 0 8) (ys.getD 8 0) ((par23 x : Nat) : Int) : Nat) : Int) == 2))])
    (fun ηq10 L => L) (by kernel_rfl) OW (fun _ => by kernel_rfl) ?_
  clear OW; intro ηq10 ysq10 Wq10 OW
  simp only [↓putE_cons, ↓putE_nil, valE, Hint.val, Act.put, List.setIfInBounds_toArray, List.set_cons_succ, List.set_cons_zero]
  cases hB11 : (((hsK (numO ys 0 8) (ys.getD 8 0) ((par23 x : Nat) : Int) : Nat) : Int) == 2)
  case true =>
    have dhB11 := Lib.hid (eq_of_beq hB11)
    gi_upto_region 8 with fail
    refine wpIn_region_re 3 (fun ηq12 => [.pv (.int .u64 ((hsD (numO ys 0 8) (ys.getD 8 0) ((par23 x : Nat) : Int) : Nat) : Int)),
        .pv (.int .u64 ((hsD (numO ys 0 8) (ys.getD 8 0) ((par23 x : Nat) : Int) : Nat) : Int)),
        .pv (.int .i64 2)])
      (fun ηq12 L => L) (by kernel_rfl) OW (fun _ => by kernel_rfl) ?_
    clear OW; intro ηq12 ysq12 Wq12 OW
    simp only [↓putE_cons, ↓putE_nil, valE, Hint.val, Act.put, List.setIfInBounds_toArray, List.set_cons_succ, List.set_cons_zero]
    gi_wp2
    exact leavesS OW [.t (.int .u64 ((hsD (numO ys 0 8) (ys.getD 8 0) ((par23 x : Nat) : Int) : Nat) : Int)), .t (.int .i64 2)] (by kernel_rfl) fun hO => ⟨(by (try simp only [dbits_0]); (repeat (first | rw [hB5] | rw [hB8] | rw [hB11] | rw [cond_true] | rw [cond_false])); try rfl), (by (try simp only [dbits_0]); (repeat (first | rw [hB5] | rw [hB8] | rw [hB11] | rw [cond_true] | rw [cond_false])); exact OwnS.fin H hO [] [] [] [0, 1, 2] (by kernel_rfl))⟩
  have dhB11 := ne_of_beq_false hB11
  gi_upto_region 9 with fail
  refine wpIn_region_re 3 (fun ηq13 => [.pv (.int .u64 ((hsD (numO ys 0 8) (ys.getD 8 0) ((par23 x : Nat) : Int) : Nat) : Int)),
      .pv (.int .u64 ((hsD (numO ys 0 8) (ys.getD 8 0) ((par23 x : Nat) : Int) : Nat) : Int)),
      .pv (.int .i64 3)])
    (fun ηq13 L => L) (by kernel_rfl) OW (fun _ => by kernel_rfl) ?_
  clear OW; intro ηq13 ysq13 Wq13 OW
  simp only [↓putE_cons, ↓putE_nil, valE, Hint.val, Act.put, List.setIfInBounds_toArray, List.set_cons_succ, List.set_cons_zero]
  gi_wp2
  exact leavesS OW [.t (.int .u64 ((hsD (numO ys 0 8) (ys.getD 8 0) ((par23 x : Nat) : Int) : Nat) : Int)), .t (.int .i64 3)] (by kernel_rfl) fun hO => ⟨(by (try simp only [dbits_0]); (repeat (first | rw [hB5] | rw [hB8] | rw [hB11] | rw [cond_true] | rw [cond_false])); try rfl), (by (try simp only [dbits_0]); (repeat (first | rw [hB5] | rw [hB8] | rw [hB11] | rw [cond_true] | rw [cond_false])); exact OwnS.fin H hO [] [] [] [0, 1, 2] (by kernel_rfl))⟩
def dchips_0 (ys : List UInt8) (x : Int) : Int := (bif ((rsK ys (dvirt_0 x false) : Nat) : Int) == 0 then 0 else (bif ((rsK ys (dvirt_0 x false) : Nat) : Int) == 1 then 1 else (bif ((((rsK ys (dvirt_0 x false) : Nat) : Int) == 2) && ((rsP ys (dvirt_0 x false)) == 38)) && (((rsA ys (dvirt_0 x false)).toNat : Int) == 128) then 2 else 3)))
set_option maxRecDepth 100000 in
set_option maxHeartbeats 1000000 in
theorem dchips_any (cc hb cb fb gb a c r : Nat) (rest : List Value) (ys : List UInt8) (hy : ys.length = 36) (x : Int) (h0 : -9223372036854775808 ≤ x) (h1 : x ≤ 9223372036854775807) (w : World) (H : Has [(cc, Obj.cells #[.pointer (some ⟨hb, 0, none⟩), .pointer (some ⟨cb, 0, none⟩)] 61 (0, 0)), (cb, Obj.cells #[.pointer (some ⟨fb, 0, none⟩), .slice (some ⟨gb, 0, none⟩) 5 (5 + rest.length)] 109 (0, 0)), (fb, Obj.cells fieldCells 137 (0, 0)), (gb, Obj.cells (rowV genL rest) 5 (0, 0)), (a, Obj.cells (rowZ (slF eB ys) [.int .u8 0] r) 5 (0, 0))] w) : Calls Try.prog 61 #[.pointer (some ⟨cc, 0, none⟩), .slice (some ⟨a, 0, none⟩) 36 c, .int .i64 x] w fun e w' => e = .returned (.tuple #[.agg (rB 32 (decL ys (dvirt_0 x false))).toArray, .int .i64 (dchips_0 ys x)]) ∧ Step [] [] w w' := by
  have OW : Hid (OwnS [cc, cb, fb, gb, a] w [(cc, Obj.cells #[.pointer (some ⟨hb, 0, none⟩), .pointer (some ⟨cb, 0, none⟩)] 61 (0, 0)), (cb, Obj.cells #[.pointer (some ⟨fb, 0, none⟩), .slice (some ⟨gb, 0, none⟩) 5 (5 + rest.length)] 109 (0, 0)), (fb, Obj.cells fieldCells 137 (0, 0)), (gb, Obj.cells (rowV genL rest) 5 (0, 0)), (a, Obj.cells (rowZ (slF eB ys) [.int .u8 0] r) 5 (0, 0))] w) := Lib.hid (OwnS.start H)
  refine (callsIn_wide (n := 6)).1 ?_
  refine callsIn_of_wp_marks Try.func61 rfl trivial ?_ rfl
  simp only [Try.ntmps61, List.size_toArray, List.length_cons, List.length_nil, Nat.reduceAdd, Nat.reduceSub, Array.replicate_succ, Array.replicate_zero, List.push_toArray, List.append_toArray, List.nil_append, List.cons_append]
  gi_upto_region 0 with fail
  refine wpIn_region_re 6 (fun ηq1 => [.al 5 67 (rB 32 (List.replicate 32 0)).toArray,
      .pv (.int .i64 0)])
    (fun ηq1 L => L ++ [((ηq1 0).blk 0, Obj.cells (rB 32 (List.replicate 32 0)).toArray 67 (0, 0))]) (by kernel_rfl) OW (fun _ => by kernel_rfl) ?_
  clear OW; intro ηq1 ysq1 Wq1 OW
  simp only [↓putE_cons, ↓putE_nil, valE, Hint.val, Act.put, List.setIfInBounds_toArray, List.set_cons_succ, List.set_cons_zero]
  gi_upto_region 1 with fail
  refine wpIn_region_re 8 (fun ηq2 => [.pv (.pointer (some ⟨cc, 0, none⟩)),
      .pv (.pointer (some ⟨cc, 0, none⟩)),
      .pv (.pointer (some ⟨cc, 1, none⟩)),
      .ld (.pointer (some ⟨cb, 0, none⟩)) 0 1,
      .pv (.slice (some ⟨a, 0, none⟩) 36 c),
      .tv (.pointer (some ⟨a, 0, none⟩)) (Instr.arrayAt 79 (.slice (some ⟨a, 0, none⟩) 36 c)) (fun _ => run_arrayAt _ 79 5 36 _ _ _ Try.underlying79 (by omega)),
      .gn (vS (Instr.loadAt 79 (.pointer (some ⟨a, 0, none⟩)))) (fun _ => .agg (rB 36 ys).toArray) [(4, (a, Obj.cells (rowZ (slF eB ys) [.int .u8 0] r) 5 (0, 0)))] [] (fun _ => []) (acts_lds (l := rB 36 ys) (by kernel_rfl) (by kernel_rfl) (z_subrow (show (ys).length = 36 by first | rfl | (simp only [List.length_set, List.length_append, List.length_replicate, List.length_cons, List.length_nil, List.length_map, List.length_range, List.length_take, List.length_drop, decL_len, hy]; done) | (simp only [List.length_set, List.length_append, List.length_replicate, List.length_cons, List.length_nil, List.length_map, List.length_range, List.length_take, List.length_drop, decL_len, hy]; omega)))),
      .pv (.int .i64 x),
      .cl 29 #[.int .i64 x, .bool false] (fun E => .agg (rB 3 (dvirt_0 x false)).toArray) [] [] (fun E => []) (enters_of Try.func29 (by kernel_rfl) rfl) (fun w' H => cB (callsIn_wide.2 (dvirt_any x (by omega) (by omega) false w'))),
      .cl 84 #[.pointer (some ⟨cb, 0, none⟩), .agg (rB 36 ys).toArray, .agg (rB 3 (dvirt_0 x false)).toArray] (fun E => .tuple #[.agg (rB 32 (decL ys (dvirt_0 x false))).toArray, .agg #[.int .i64 ((rsK ys (dvirt_0 x false) : Nat) : Int), .int .i64 (rsP ys (dvirt_0 x false)), .int .u8 ((rsA ys (dvirt_0 x false)).toNat : Int)]]) [(1, (cb, Obj.cells #[.pointer (some ⟨fb, 0, none⟩), .slice (some ⟨gb, 0, none⟩) 5 (5 + rest.length)] 109 (0, 0))), (2, (fb, Obj.cells fieldCells 137 (0, 0))), (3, (gb, Obj.cells (rowV genL rest) 5 (0, 0)))] [] (fun E => []) (enters_of Try.func84 (by kernel_rfl) rfl) (fun w' H => cB (callsIn_wide.2 (rdecode_any cb fb gb rest ys (dvirt_0 x false) (by first | rfl | (simp only [List.length_set, List.length_append, List.length_replicate, List.length_cons, List.length_nil, List.length_map, List.length_range, List.length_take, List.length_drop, decL_len, hy]; done) | (simp only [List.length_set, List.length_append, List.length_replicate, List.length_cons, List.length_nil, List.length_map, List.length_range, List.length_take, List.length_drop, decL_len, hy]; omega)) (by first | rfl | (simp only [List.length_set, List.length_append, List.length_replicate, List.length_cons, List.length_nil, List.length_map, List.length_range, List.length_take, List.length_drop, decL_len, hy]; done) | (simp only [List.length_set, List.length_append, List.length_replicate, List.length_cons, List.length_nil, List.length_map, List.length_range, List.length_take, List.length_drop, decL_len, hy]; omega)) w' H))),
      .pv (.tuple #[.agg (rB 32 (decL ys (dvirt_0 x false))).toArray, .agg #[.int .i64 ((rsK ys (dvirt_0 x false) : Nat) : Int), .int .i64 (rsP ys (dvirt_0 x false)), .int .u8 ((rsA ys (dvirt_0 x false)).toNat : Int)]]),
      .pv (.agg (rB 32 (decL ys (dvirt_0 x false))).toArray),
      .pv (.agg #[.int .i64 ((rsK ys (dvirt_0 x false) : Nat) : Int), .int .i64 (rsP ys (dvirt_0 x false)), .int .u8 ((rsA ys (dvirt_0 x false)).toNat : Int)]),
      .al 6 67 (rB 32 (List.replicate 32 0)).toArray,
      .al 7 146 #[.int .i64 0, .int .i64 0, .int .u8 0],
      .ss 6 ((ηq2 13).blk 0) 0 67 (rB 32 (decL ys (dvirt_0 x false))) (rB 32 (decL ys (dvirt_0 x false))).toArray,
      .ss 7 ((ηq2 14).blk 0) 0 146 ([.int .i64 ((rsK ys (dvirt_0 x false) : Nat) : Int), .int .i64 (rsP ys (dvirt_0 x false)), .int .u8 ((rsA ys (dvirt_0 x false)).toNat : Int)]) #[.int .i64 ((rsK ys (dvirt_0 x false) : Nat) : Int), .int .i64 (rsP ys (dvirt_0 x false)), .int .u8 ((rsA ys (dvirt_0 x false)).toNat : Int)]])
    (fun ηq2 L => L ++ [((ηq2 13).blk 0, Obj.cells (rB 32 (decL ys (dvirt_0 x false))).toArray 67 (0, 0)), ((ηq2 14).blk 0, Obj.cells #[.int .i64 ((rsK ys (dvirt_0 x false) : Nat) : Int), .int .i64 (rsP ys (dvirt_0 x false)), .int .u8 ((rsA ys (dvirt_0 x false)).toNat : Int)] 146 (0, 0))]) (by kernel_rfl) OW (fun _ => by kernel_rfl) ?_
  clear OW; intro ηq2 ysq2 Wq2 OW
  simp only [↓putE_cons, ↓putE_nil, valE, Hint.val, Act.put, List.setIfInBounds_toArray, List.set_cons_succ, List.set_cons_zero]
  gi_upto_region 2 with fail
  refine wpIn_region_re 8 (fun ηq3 => [.pv (.pointer (some ⟨(ηq2 14).blk 0, 0, none⟩)),
      .ld (.int .i64 ((rsK ys (dvirt_0 x false) : Nat) : Int)) 7 0,
      .pv (.bool (((rsK ys (dvirt_0 x false) : Nat) : Int) == 0)),
      .pv (.bool (((rsK ys (dvirt_0 x false) : Nat) : Int) == 0))])
    (fun ηq3 L => L) (by kernel_rfl) OW (fun _ => by kernel_rfl) ?_
  clear OW; intro ηq3 ysq3 Wq3 OW
  simp only [↓putE_cons, ↓putE_nil, valE, Hint.val, Act.put, List.setIfInBounds_toArray, List.set_cons_succ, List.set_cons_zero]
  cases hB4 : (((rsK ys (dvirt_0 x false) : Nat) : Int) == 0)
  case true =>
    have dhB4 := Lib.hid (eq_of_beq hB4)
    gi_upto_region 3 with fail
    refine wpIn_region_re 8 (fun ηq5 => [.ls (rB 32 (decL ys (dvirt_0 x false))) 6 0,
        .ss 5 ((ηq1 0).blk 0) 0 67 (rB 32 (decL ys (dvirt_0 x false))) (rB 32 (decL ys (dvirt_0 x false))).toArray,
        .pv (.int .i64 0)])
      (fun ηq5 L => L.set 5 ((ηq1 0).blk 0, Obj.cells (rB 32 (decL ys (dvirt_0 x false))).toArray 67 (0, 0))) (by kernel_rfl) OW (fun _ => by kernel_rfl) ?_
    clear OW; intro ηq5 ysq5 Wq5 OW
    simp only [↓putE_cons, ↓putE_nil, valE, Hint.val, Act.put, List.setIfInBounds_toArray, List.set_cons_succ, List.set_cons_zero]
    gi_wp2
    exact leavesS OW [.s (rB 32 (decL ys (dvirt_0 x false))) 5, .t (.int .i64 0)] (by kernel_rfl) fun hO => ⟨(by (try simp only [dchips_0]); (repeat (first | rw [hB4] | rw [cond_true] | rw [cond_false])); try rfl), (by (try simp only [dchips_0]); (repeat (first | rw [hB4] | rw [cond_true] | rw [cond_false])); exact OwnS.fin H hO [] [] [] [0, 1, 2, 3, 4] (by kernel_rfl))⟩
  have dhB4 := ne_of_beq_false hB4
  gi_upto_region 4 with fail
  refine wpIn_region_re 8 (fun ηq6 => [.pv (.pointer (some ⟨(ηq2 14).blk 0, 0, none⟩)),
      .ld (.int .i64 ((rsK ys (dvirt_0 x false) : Nat) : Int)) 7 0,
      .pv (.bool (((rsK ys (dvirt_0 x false) : Nat) : Int) == 1)),
      .pv (.bool (((rsK ys (dvirt_0 x false) : Nat) : Int) == 1))])
    (fun ηq6 L => L) (by kernel_rfl) OW (fun _ => by kernel_rfl) ?_
  clear OW; intro ηq6 ysq6 Wq6 OW
  simp only [↓putE_cons, ↓putE_nil, valE, Hint.val, Act.put, List.setIfInBounds_toArray, List.set_cons_succ, List.set_cons_zero]
  cases hB7 : (((rsK ys (dvirt_0 x false) : Nat) : Int) == 1)
  case true =>
    have dhB7 := Lib.hid (eq_of_beq hB7)
    gi_upto_region 5 with fail
    refine wpIn_region_re 8 (fun ηq8 => [.ls (rB 32 (decL ys (dvirt_0 x false))) 6 0,
        .ss 5 ((ηq1 0).blk 0) 0 67 (rB 32 (decL ys (dvirt_0 x false))) (rB 32 (decL ys (dvirt_0 x false))).toArray,
        .pv (.int .i64 1)])
      (fun ηq8 L => L.set 5 ((ηq1 0).blk 0, Obj.cells (rB 32 (decL ys (dvirt_0 x false))).toArray 67 (0, 0))) (by kernel_rfl) OW (fun _ => by kernel_rfl) ?_
    clear OW; intro ηq8 ysq8 Wq8 OW
    simp only [↓putE_cons, ↓putE_nil, valE, Hint.val, Act.put, List.setIfInBounds_toArray, List.set_cons_succ, List.set_cons_zero]
    gi_wp2
    exact leavesS OW [.s (rB 32 (decL ys (dvirt_0 x false))) 5, .t (.int .i64 1)] (by kernel_rfl) fun hO => ⟨(by (try simp only [dchips_0]); (repeat (first | rw [hB4] | rw [hB7] | rw [cond_true] | rw [cond_false])); try rfl), (by (try simp only [dchips_0]); (repeat (first | rw [hB4] | rw [hB7] | rw [cond_true] | rw [cond_false])); exact OwnS.fin H hO [] [] [] [0, 1, 2, 3, 4] (by kernel_rfl))⟩
  have dhB7 := ne_of_beq_false hB7
  gi_upto_region 6 with fail
  refine wpIn_region_re 8 (fun ηq9 => [.pv (.pointer (some ⟨(ηq2 14).blk 0, 0, none⟩)),
      .ld (.int .i64 ((rsK ys (dvirt_0 x false) : Nat) : Int)) 7 0,
      .pv (.bool (((rsK ys (dvirt_0 x false) : Nat) : Int) == 2)),
      .pv (.bool (((rsK ys (dvirt_0 x false) : Nat) : Int) == 2)),
      .pv (.pointer (some ⟨(ηq2 14).blk 0, 1, none⟩)),
      .ld (.int .i64 (rsP ys (dvirt_0 x false))) 7 1,
      .pv (.bool ((rsP ys (dvirt_0 x false)) == 38)),
      .pk (.bool ((((rsK ys (dvirt_0 x false) : Nat) : Int) == 2) && ((rsP ys (dvirt_0 x false)) == 38))),
      .pv (.bool ((((rsK ys (dvirt_0 x false) : Nat) : Int) == 2) && ((rsP ys (dvirt_0 x false)) == 38))),
      .pv (.pointer (some ⟨(ηq2 14).blk 0, 2, none⟩)),
      .ld (.int .u8 ((rsA ys (dvirt_0 x false)).toNat : Int)) 7 2,
      .pv (.bool (((rsA ys (dvirt_0 x false)).toNat : Int) == 128)),
      .pk (.bool (((((rsK ys (dvirt_0 x false) : Nat) : Int) == 2) && ((rsP ys (dvirt_0 x false)) == 38)) && (((rsA ys (dvirt_0 x false)).toNat : Int) == 128))),
      .pv (.bool (((((rsK ys (dvirt_0 x false) : Nat) : Int) == 2) && ((rsP ys (dvirt_0 x false)) == 38)) && (((rsA ys (dvirt_0 x false)).toNat : Int) == 128)))])
    (fun ηq9 L => L) (by kernel_rfl) OW (fun _ => by kernel_rfl) ?_
  clear OW; intro ηq9 ysq9 Wq9 OW
  simp only [↓putE_cons, ↓putE_nil, valE, Hint.val, Act.put, List.setIfInBounds_toArray, List.set_cons_succ, List.set_cons_zero]
  cases hB10 : (((((rsK ys (dvirt_0 x false) : Nat) : Int) == 2) && ((rsP ys (dvirt_0 x false)) == 38)) && (((rsA ys (dvirt_0 x false)).toNat : Int) == 128))
  case true =>
    gi_upto_region 7 with fail
    refine wpIn_region_re 8 (fun ηq11 => [.ls (rB 32 (decL ys (dvirt_0 x false))) 6 0,
        .ss 5 ((ηq1 0).blk 0) 0 67 (rB 32 (decL ys (dvirt_0 x false))) (rB 32 (decL ys (dvirt_0 x false))).toArray,
        .pv (.int .i64 2)])
      (fun ηq11 L => L.set 5 ((ηq1 0).blk 0, Obj.cells (rB 32 (decL ys (dvirt_0 x false))).toArray 67 (0, 0))) (by kernel_rfl) OW (fun _ => by kernel_rfl) ?_
    clear OW; intro ηq11 ysq11 Wq11 OW
    simp only [↓putE_cons, ↓putE_nil, valE, Hint.val, Act.put, List.setIfInBounds_toArray, List.set_cons_succ, List.set_cons_zero]
    gi_wp2
    exact leavesS OW [.s (rB 32 (decL ys (dvirt_0 x false))) 5, .t (.int .i64 2)] (by kernel_rfl) fun hO => ⟨(by (try simp only [dchips_0]); (repeat (first | rw [hB4] | rw [hB7] | rw [hB10] | rw [cond_true] | rw [cond_false])); try rfl), (by (try simp only [dchips_0]); (repeat (first | rw [hB4] | rw [hB7] | rw [hB10] | rw [cond_true] | rw [cond_false])); exact OwnS.fin H hO [] [] [] [0, 1, 2, 3, 4] (by kernel_rfl))⟩
  gi_upto_region 8 with fail
  refine wpIn_region_re 8 (fun ηq12 => [.ls (rB 32 (decL ys (dvirt_0 x false))) 6 0,
      .ss 5 ((ηq1 0).blk 0) 0 67 (rB 32 (decL ys (dvirt_0 x false))) (rB 32 (decL ys (dvirt_0 x false))).toArray,
      .pv (.int .i64 3)])
    (fun ηq12 L => L.set 5 ((ηq1 0).blk 0, Obj.cells (rB 32 (decL ys (dvirt_0 x false))).toArray 67 (0, 0))) (by kernel_rfl) OW (fun _ => by kernel_rfl) ?_
  clear OW; intro ηq12 ysq12 Wq12 OW
  simp only [↓putE_cons, ↓putE_nil, valE, Hint.val, Act.put, List.setIfInBounds_toArray, List.set_cons_succ, List.set_cons_zero]
  gi_wp2
  exact leavesS OW [.s (rB 32 (decL ys (dvirt_0 x false))) 5, .t (.int .i64 3)] (by kernel_rfl) fun hO => ⟨(by (try simp only [dchips_0]); (repeat (first | rw [hB4] | rw [hB7] | rw [hB10] | rw [cond_true] | rw [cond_false])); try rfl), (by (try simp only [dchips_0]); (repeat (first | rw [hB4] | rw [hB7] | rw [hB10] | rw [cond_true] | rw [cond_false])); exact OwnS.fin H hO [] [] [] [0, 1, 2, 3, 4] (by kernel_rfl))⟩
end Go.Proofs.Ytkeheickaogpiaa
