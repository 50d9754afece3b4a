/- Words of raw bytes, iterators over lines, parities, verdicts together: walks. -/
import Derived.Test.YtkeheickaogpiaaCdB
import Derived.Test.YtkeheickaogpiaaRwB
import Derived.WalkKit
import Derived.Sort.CutIn
import Derived.IntWalk
import Derived.LoopNIn
import Derived.LoopIn
import Derived.OwnWalkIn
namespace Go.Proofs.Ytkeheickaogpiaa
open Go Go.RowKit Go.Shelf
attribute [local go_sem] Oper.semAt_some
set_option linter.unusedVariables false
set_option linter.unusedSimpArgs false


theorem chips_n (mode : Int) (n : Nat) (hn : chN mode = n) (w : World) : Calls Try.prog 52 #[.int .i64 mode] w fun e w' => e = .returned (.int .i64 (n : Int)) ∧ w = w' := by
  subst hn
  exact chips_any mode w
theorem words_n (mode : Int) (d : Nat) (hd : wdN mode = d) (w : World) : Calls Try.prog 53 #[.int .i64 mode] w fun e w' => e = .returned (.int .i64 (d : Int)) ∧ w = w' := by
  subst hd
  exact words_any mode w
set_option maxRecDepth 100000 in
set_option maxHeartbeats 1000000 in
theorem dWord_any (xs : List UInt8) (hx : xs.length = 72) (mode : Int) (n d q : Nat) (hn : chN mode = n) (hd : wdN mode = d) (hq : q < d) (hd8 : d ≤ 8) (h72 : n * q + n ≤ 72) (h0 : 0 < n) (w : World) (H : Has [] w) : Calls Try.prog 59 #[.agg (rB 72 xs).toArray, .int .i64 mode, .int .i64 (q : Int)] w fun e w' => ∃ E : Env, e = .returned (.slice (some ⟨E.blk 0, 0, none⟩) n (n + (E.num 0))) ∧ Step [] [(E.blk 0, Obj.cells (rowZ (slF eB ((xs.drop (n * q)).take n)) [.int .u8 0] (E.num 0)) 5 (0, 0))] w w' := by
  obtain ⟨nq, hnq⟩ : ∃ nq, n * q = nq := ⟨_, rfl⟩
  have OW : Hid (OwnS [] w [] w) := Lib.hid (OwnS.start H)
  refine (callsIn_wide (n := 6)).1 ?_
  refine callsIn_of_wp_marks Try.func59 rfl trivial ?_ rfl
  simp only [Try.ntmps59, List.size_toArray, List.length_cons, List.length_nil, Nat.reduceAdd, Nat.reduceSub, Array.replicate_succ, Array.replicate_zero, List.push_toArray, List.append_toArray, List.nil_append, List.cons_append]
  gi_upto_region 0 with fail
  refine wpIn_region_re 1 (fun ηq1 => [.bx 0 27 (.agg (rB 72 xs).toArray),
      .pv (.slice none 0 0)])
    (fun ηq1 L => L ++ [((ηq1 0).blk 0, Obj.cells (rB 72 xs).toArray 27 (0, 0))]) (by kernel_rfl) OW (fun _ => by kernel_rfl) ?_
  clear OW; intro ηq1 ysq1 Wq1 OW
  simp only [↓putE_cons, ↓putE_nil, valE, Hint.val, Act.put, List.setIfInBounds_toArray, List.set_cons_succ, List.set_cons_zero]
  gi_upto_region 1 with fail
  refine wpIn_region_re 1 (fun ηq2 => [.pv (.int .i64 (q : Int)),
      .pv (.bool (decide ((q : Int) < 0))),
      .pv (.bool (decide ((q : Int) < 0))),
      .pv (.int .i64 (q : Int)),
      .pv (.int .i64 mode),
      .cl 53 #[.int .i64 mode] (fun E => .int .i64 (d : Int)) [] [] (fun E => []) (enters_of Try.func53 (by kernel_rfl) rfl) (fun w' H => cS (callsIn_wide.2 (words_n mode d hd w'))),
      .pv (.bool (decide ((d : Int) ≤ (q : Int)))),
      .pk (.bool ((decide ((q : Int) < 0)) || (decide ((d : Int) ≤ (q : Int)))))])
    (fun ηq2 L => L) (by kernel_rfl) OW (fun _ => by kernel_rfl) ?_
  clear OW; intro ηq2 ysq2 Wq2 OW
  simp only [↓putE_cons, ↓putE_nil, valE, Hint.val, Act.put, List.setIfInBounds_toArray, List.set_cons_succ, List.set_cons_zero]
  cases hB3 : ((decide ((q : Int) < 0)) || (decide ((d : Int) ≤ (q : Int))))
  case true => exact absurd (hB3.symm.trans (show _ = false from by rw [decide_eq_false (by omega), Bool.false_or, decide_eq_false (by omega)])) (by decide)
  case false =>
    gi_upto_region 3 with fail
    refine wpIn_region_re 1 (fun ηq4 => [.pv (.int .i64 mode),
        .cl 52 #[.int .i64 mode] (fun E => .int .i64 (n : Int)) [] [] (fun E => []) (enters_of Try.func52 (by kernel_rfl) rfl) (fun w' H => cS (callsIn_wide.2 (chips_n mode n hn w'))),
        .pv (.int .i64 (n : Int))])
      (fun ηq4 L => L) (by kernel_rfl) OW (fun _ => by kernel_rfl) ?_
    clear OW; intro ηq4 ysq4 Wq4 OW
    simp only [↓putE_cons, ↓putE_nil, valE, Hint.val, Act.put, List.setIfInBounds_toArray, List.set_cons_succ, List.set_cons_zero]
    gi_upto_region 4 with fail
    refine wpIn_region_re 2 (fun ηq5 => [.gn (vS (Instr.buildSlice 56 0 #[])) (fun E => .slice (some ⟨E.blk 0, 0, none⟩) 0 0) [] [] (fun E => [(1, (E.blk 0, Obj.cells #[] 5 (0, 0)))]) (acts_new (v := fun g => .slice (some ⟨g, 0, none⟩) 0 0) (fun _ => by kernel_rfl)),
        .pv (.int .i64 (n : Int)),
        .pv (.int .i64 (q : Int)),
        .tv (.int .i64 ((n * q : Nat) : Int)) (sBin .mul 3 (.tmp 19) (.tmp 20) (.int .i64 (n : Int)) (.int .i64 (q : Int))) (fun _ => bin_mul_nat (a := n) (b := q) (by first | omega | (rw [hnq]; omega))),
        .pv (.int .i64 (n : Int)),
        .pv (.int .i64 (q : Int)),
        .tv (.int .i64 ((n * q : Nat) : Int)) (sBin .mul 3 (.tmp 22) (.tmp 23) (.int .i64 (n : Int)) (.int .i64 (q : Int))) (fun _ => bin_mul_nat (a := n) (b := q) (by first | omega | (rw [hnq]; omega))),
        .pv (.int .i64 (n : Int)),
        .tv (.int .i64 (((n * q) + n : Nat) : Int)) (sBin .add 3 (.tmp 24) (.tmp 25) (.int .i64 ((n * q : Nat) : Int)) (.int .i64 (n : Int))) (fun _ => bin_add_nat (a := n * q) (b := n) (by first | omega | (rw [hnq]; omega))),
        .tv (.slice (some ⟨(ηq1 0).blk 0, (n * q) * 1, none⟩) n (72 - (n * q))) (Instr.sliceAt 27 (.pointer (some ⟨(ηq1 0).blk 0, 0, none⟩)) (some (.int .i64 ((n * q : Nat) : Int))) (some (.int .i64 (((n * q) + n : Nat) : Int))) none) (fun _ => sl_arm (s := 1) (l := n * q) (m := n) (by kernel_rfl) (by first | omega | (rw [hnq]; omega)) (by first | omega | (rw [hnq]; omega))),
        .gn (sApp 56 56 (.slice (some ⟨(ηq5 0).blk 0, 0, none⟩) 0 0) (.slice (some ⟨(ηq1 0).blk 0, (n * q) * 1, none⟩) n (72 - (n * q)))) (fun E => .slice (some ⟨E.blk 0, 0, none⟩) n (n + E.num 0)) [(1, ((ηq5 0).blk 0, Obj.cells #[] 5 (0, 0))), (0, ((ηq1 0).blk 0, Obj.cells (rB 72 xs).toArray 27 (0, 0)))] [(ηq5 0).blk 0] (fun E => [(1, (E.blk 0, Obj.cells (rowZ (slF eB ((xs.drop (n * q)).take n)) [.int .u8 0] (E.num 0)) 5 (0, 0)))]) (acts_appE (m := n) (ys := ((xs.drop (n * q)).take n)) slT_B (slF_lenk (k := 1) (fun _ => rfl) (by first | rfl | omega | (simp only [List.length_set, List.length_append, List.length_replicate, List.length_cons, List.length_nil, List.length_map, List.length_range, List.length_take, List.length_drop, hx]; try omega))) (rL_sub (fun _ => rfl) (show (xs).length = 72 by first | rfl | (simp only [List.length_set, List.length_append, List.length_replicate, List.length_cons, List.length_nil, List.length_map, List.length_range, List.length_take, List.length_drop, hx]; done) | (simp only [List.length_set, List.length_append, List.length_replicate, List.length_cons, List.length_nil, List.length_map, List.length_range, List.length_take, List.length_drop, hx]; omega)) (by first | omega | (rw [hnq]; omega))) (slF_one (fun _ => rfl) ((xs.drop (n * q)).take n)) (by first | omega | (rw [hnq]; omega))),
        .pv (.slice (some ⟨(ηq5 10).blk 0, 0, none⟩) n (n + (ηq5 10).num 0))])
      (fun ηq5 L => L ++ [((ηq5 10).blk 0, Obj.cells (rowZ (slF eB ((xs.drop (n * q)).take n)) [.int .u8 0] ((ηq5 10).num 0)) 5 (0, 0))]) (by kernel_rfl) OW (fun _ => by kernel_rfl) ?_
    clear OW; intro ηq5 ysq5 Wq5 OW
    simp only [↓putE_cons, ↓putE_nil, valE, Hint.val, Act.put, List.setIfInBounds_toArray, List.set_cons_succ, List.set_cons_zero]
    gi_wp2
    exact leavesS OW [.t (.slice (some ⟨(ηq5 10).blk 0, 0, none⟩) n (n + (ηq5 10).num 0))] (by kernel_rfl) fun hO => ⟨⟨fun k => ([(ηq5 10).blk 0] : List Nat).getD k 0, fun k => ([] : List (List Value)).getD k [], fun k => ([(ηq5 10).num 0] : List Nat).getD k 0⟩, rfl, OwnS.fin H hO [] [((ηq5 10).blk 0, Obj.cells (rowZ (slF eB ((xs.drop (n * q)).take n)) [.int .u8 0] ((ηq5 10).num 0)) 5 (0, 0))] [1] [] (by kernel_rfl)⟩
set_option maxRecDepth 100000 in
set_option maxHeartbeats 1000000 in
theorem dPut_any (xs ys : List UInt8) (hx : xs.length = 72) (mode : Int) (n d q a r : Nat) (hn : chN mode = n) (hd : wdN mode = d) (hq : q < d) (hd8 : d ≤ 8) (h72 : n * q + n ≤ 72) (h0 : 0 < n) (hy : ys.length = n) (w : World) (H : Has [(a, Obj.cells (rowZ (slF eB ys) [.int .u8 0] r) 5 (0, 0))] w) : Calls Try.prog 25 #[.agg (rB 72 xs).toArray, .int .i64 mode, .int .i64 (q : Int), .slice (some ⟨a, 0, none⟩) n (n + r)] w fun e w' => e = .returned (.agg (rB 72 (xs.take (n * q) ++ ys ++ xs.drop ((n * q) + n))).toArray) ∧ Step [] [] w w' := by
  obtain ⟨nq, hnq⟩ : ∃ nq, n * q = nq := ⟨_, rfl⟩
  have OW : Hid (OwnS [a] w [(a, Obj.cells (rowZ (slF eB ys) [.int .u8 0] r) 5 (0, 0))] w) := Lib.hid (OwnS.start H)
  refine (callsIn_wide (n := 6)).1 ?_
  refine callsIn_of_wp_marks Try.func25 rfl trivial ?_ rfl
  simp only [Try.ntmps25, List.size_toArray, List.length_cons, List.length_nil, Nat.reduceAdd, Nat.reduceSub, Array.replicate_succ, Array.replicate_zero, List.push_toArray, List.append_toArray, List.nil_append, List.cons_append]
  gi_upto_region 0 with fail
  refine wpIn_region_re 3 (fun ηq1 => [.bx 1 27 (.agg (rB 72 xs).toArray),
      .al 2 27 (rB 72 (List.replicate 72 0)).toArray])
    (fun ηq1 L => L ++ [((ηq1 0).blk 0, Obj.cells (rB 72 xs).toArray 27 (0, 0)), ((ηq1 1).blk 0, Obj.cells (rB 72 (List.replicate 72 0)).toArray 27 (0, 0))]) (by kernel_rfl) OW (fun _ => by kernel_rfl) ?_
  clear OW; intro ηq1 ysq1 Wq1 OW
  simp only [↓putE_cons, ↓putE_nil, valE, Hint.val, Act.put, List.setIfInBounds_toArray, List.set_cons_succ, List.set_cons_zero]
  gi_upto_region 1 with fail
  refine wpIn_region_re 3 (fun ηq2 => [.pv (.int .i64 mode),
      .cl 52 #[.int .i64 mode] (fun E => .int .i64 (n : Int)) [] [] (fun E => []) (enters_of Try.func52 (by kernel_rfl) rfl) (fun w' H => cS (callsIn_wide.2 (chips_n mode n hn w'))),
      .pv (.int .i64 (n : Int))])
    (fun ηq2 L => L) (by kernel_rfl) OW (fun _ => by kernel_rfl) ?_
  clear OW; intro ηq2 ysq2 Wq2 OW
  simp only [↓putE_cons, ↓putE_nil, valE, Hint.val, Act.put, List.setIfInBounds_toArray, List.set_cons_succ, List.set_cons_zero]
  gi_upto_region 2 with fail
  refine wpIn_region_re 3 (fun ηq3 => [.pv (.int .i64 (q : Int)),
      .pv (.bool (decide (0 ≤ (q : Int)))),
      .pv (.bool (decide (0 ≤ (q : Int)))),
      .pv (.int .i64 (q : Int)),
      .pv (.int .i64 mode),
      .cl 53 #[.int .i64 mode] (fun E => .int .i64 (d : Int)) [] [] (fun E => []) (enters_of Try.func53 (by kernel_rfl) rfl) (fun w' H => cS (callsIn_wide.2 (words_n mode d hd w'))),
      .pv (.bool (decide ((q : Int) < (d : Int)))),
      .pk (.bool ((decide (0 ≤ (q : Int))) && (decide ((q : Int) < (d : Int))))),
      .pv (.bool ((decide (0 ≤ (q : Int))) && (decide ((q : Int) < (d : Int))))),
      .pv (.slice (some ⟨a, 0, none⟩) n (n + r)),
      .pv (.int .i64 (n : Int)),
      .pv (.int .i64 (n : Int)),
      .pv (.bool ((n : Int) == (n : Int))),
      .pk (.bool (((decide (0 ≤ (q : Int))) && (decide ((q : Int) < (d : Int)))) && ((n : Int) == (n : Int))))])
    (fun ηq3 L => L) (by kernel_rfl) OW (fun _ => by kernel_rfl) ?_
  clear OW; intro ηq3 ysq3 Wq3 OW
  simp only [↓putE_cons, ↓putE_nil, valE, Hint.val, Act.put, List.setIfInBounds_toArray, List.set_cons_succ, List.set_cons_zero]
  cases hB4 : (((decide (0 ≤ (q : Int))) && (decide ((q : Int) < (d : Int)))) && ((n : Int) == (n : Int)))
  case true =>
    gi_upto_region 3 with fail
    refine wpIn_region_re 3 (fun ηq5 => [.pv (.int .i64 (n : Int)),
        .pv (.int .i64 (q : Int)),
        .tv (.int .i64 ((n * q : Nat) : Int)) (sBin .mul 3 (.tmp 26) (.tmp 27) (.int .i64 (n : Int)) (.int .i64 (q : Int))) (fun _ => bin_mul_nat (a := n) (b := q) (by first | omega | (rw [hnq]; omega))),
        .tv (.slice (some ⟨(ηq1 0).blk 0, (n * q) * 1, none⟩) (72 - (n * q)) (72 - (n * q))) (Instr.sliceAt 27 (.pointer (some ⟨(ηq1 0).blk 0, 0, none⟩)) (some (.int .i64 ((n * q : Nat) : Int))) none none) (fun _ => sl_arl (s := 1) (l := n * q) (by kernel_rfl) (by first | omega | (rw [hnq]; omega))),
        .pv (.slice (some ⟨a, 0, none⟩) n (n + r)),
        .gn (sCopy 56 56 56 (.slice (some ⟨(ηq1 0).blk 0, (n * q) * 1, none⟩) (72 - (n * q)) (72 - (n * q))) (.slice (some ⟨a, 0, none⟩) n (n + r))) (fun _ => .int .i64 ((n : Nat) : Int)) [(1, ((ηq1 0).blk 0, Obj.cells (rB 72 xs).toArray 27 (0, 0))), (0, (a, Obj.cells (rowZ (slF eB ys) [.int .u8 0] r) 5 (0, 0)))] [(ηq1 0).blk 0] (fun _ => [(1, ((ηq1 0).blk 0, Obj.cells (rB 72 (xs.take (n * q) ++ ys ++ xs.drop ((n * q) + n))).toArray 27 (0, 0)))]) (acts_copyF (xs := xs) (ys := ys) (l := n * q) slT_B rfl (fun _ => rfl) (show (xs).length = 72 by first | rfl | (simp only [List.length_set, List.length_append, List.length_replicate, List.length_cons, List.length_nil, List.length_map, List.length_range, List.length_take, List.length_drop, hy, hx]; done) | (simp only [List.length_set, List.length_append, List.length_replicate, List.length_cons, List.length_nil, List.length_map, List.length_range, List.length_take, List.length_drop, hy, hx]; omega)) (show (ys).length = n by first | rfl | (simp only [List.length_set, List.length_append, List.length_replicate, List.length_cons, List.length_nil, List.length_map, List.length_range, List.length_take, List.length_drop, hy, hx]; done) | (simp only [List.length_set, List.length_append, List.length_replicate, List.length_cons, List.length_nil, List.length_map, List.length_range, List.length_take, List.length_drop, hy, hx]; omega)) (by first | omega | (rw [hnq]; omega)) (by first | omega | (rw [hnq]; omega)) zwhole (slF_one (fun _ => rfl) _))])
      (fun ηq5 L => L.set 1 ((ηq1 0).blk 0, Obj.cells (rB 72 (xs.take (n * q) ++ ys ++ xs.drop ((n * q) + n))).toArray 27 (0, 0))) (by kernel_rfl) OW (fun _ => by kernel_rfl) ?_
    clear OW; intro ηq5 ysq5 Wq5 OW
    simp only [↓putE_cons, ↓putE_nil, valE, Hint.val, Act.put, List.setIfInBounds_toArray, List.set_cons_succ, List.set_cons_zero]
    gi_upto_region 4 with fail
    refine wpIn_region_re 3 (fun ηq6 => [.ls (rB 72 (xs.take (n * q) ++ ys ++ xs.drop ((n * q) + n))) 1 0,
        .ss 2 ((ηq1 1).blk 0) 0 27 (rB 72 (xs.take (n * q) ++ ys ++ xs.drop ((n * q) + n))) (rB 72 (xs.take (n * q) ++ ys ++ xs.drop ((n * q) + n))).toArray])
      (fun ηq6 L => L.set 2 ((ηq1 1).blk 0, Obj.cells (rB 72 (xs.take (n * q) ++ ys ++ xs.drop ((n * q) + n))).toArray 27 (0, 0))) (by kernel_rfl) OW (fun _ => by kernel_rfl) ?_
    clear OW; intro ηq6 ysq6 Wq6 OW
    simp only [↓putE_cons, ↓putE_nil, valE, Hint.val, Act.put, List.setIfInBounds_toArray, List.set_cons_succ, List.set_cons_zero]
    gi_wp2
    exact leavesS OW [.s (rB 72 (xs.take (n * q) ++ ys ++ xs.drop ((n * q) + n))) 2] (by kernel_rfl) fun hO => ⟨rfl, OwnS.fin H hO [] [] [] [0] (by kernel_rfl)⟩
  case false => exact absurd (hB4.symm.trans (show _ = true from by rw [decide_eq_true (by omega), decide_eq_true (by omega)]; simp)) (by decide)
set_option maxRecDepth 100000 in
set_option maxHeartbeats 1000000 in
theorem words_it (m : Nat) (h1 : 1 ≤ m) (b : Nat) (l : List UInt8) (hl : l.length = 64) : IterS m Try.prog 50 #[.pointer (some ⟨b, 0, none⟩)] (fun (x : Nat × Nat) => #[.int .i64 (x.1 : Int), .int .u64 (x.2 : Int)]) ((List.range 8).map fun k => (k, numO l (8 * k) 8)) [(b, Obj.cells (rB 64 l).toArray 23 (0, 0))] := by
  refine iterS_of ?_
  intro lY JY JX WI hJ HY HI
  have OW : Hid (OwnS [b] WI [(b, Obj.cells (rB 64 l).toArray 23 (0, 0))] WI) := Lib.hid (show OwnS _ _ _ _ from OwnS.start HI.out.has)
  refine callsIn_of_wp Try.func50 rfl trivial ?_ rfl
  simp only [Try.ntmps50, List.size_toArray, List.length_cons, List.length_nil, Nat.reduceAdd, Nat.reduceSub, Array.replicate_succ, Array.replicate_zero, List.push_toArray, List.append_toArray, List.nil_append, List.cons_append]
  gi_upto_region 0 with fail
  refine wpIn_region_re 1 (fun ηq1 => [.pv (.int .i64 0)])
    (fun ηq1 L => L) (by kernel_rfl) OW (fun _ => by kernel_rfl) ?_
  clear OW; intro ηq1 ysq1 Wq1 OW
  simp only [↓putE_cons, ↓putE_nil, valE, Hint.val, Act.put, List.setIfInBounds_toArray, List.set_cons_succ, List.set_cons_zero]
  gi_wp2
  gi_loopw [4] (fun z4 wr => ∃ k : Nat, k ≤ 8 ∧ z4 = .int .i64 (k : Int) ∧ ItS JY [(b, Obj.cells (rB 64 l).toArray 23 (0, 0))] WI [] k wr) (fun z4 _ => 8 - (intOf z4).toNat)
  case atStart => exact ⟨0, by omega, rfl, (by skip; exact ItS.step (K := [(b, Obj.cells (rB 64 l).toArray 23 (0, 0))]) (L' := []) hJ HI.out OW.out)⟩
  case round =>
    obtain ⟨k, hk2, rfl, hI⟩ := hrel
    clear OW HI
    have HI3 := Lib.hid hI
    have OW := Lib.hid (show OwnS [b] wr [(b, Obj.cells (rB 64 l).toArray 23 (0, 0))] wr from OwnS.start hI.has)
    clear hI
    gi_upto_region 1 with fail
    refine wpIn_region_re 1 (fun ηq4 => [.pv (.bool (decide ((k : Int) < 8)))])
      (fun ηq4 L => L) (by kernel_rfl) OW (fun _ => by kernel_rfl) ?_
    clear OW; intro ηq4 ysq4 Wq4 OW
    simp only [↓putE_cons, ↓putE_nil, valE, Hint.val, Act.put, List.setIfInBounds_toArray, List.set_cons_succ, List.set_cons_zero]
    cases hB5 : (decide ((k : Int) < 8))
    case true =>
      have dhB5 := of_decide_eq_true hB5
      gi_upto_region 2 with fail
      refine wpIn_region_re 1 (fun ηq6 => [.pv (.int .i64 (k : Int)),
          .pv (.int .i64 (k : Int))])
        (fun ηq6 L => L) (by kernel_rfl) OW (fun _ => by kernel_rfl) ?_
      clear OW; intro ηq6 ysq6 Wq6 OW
      simp only [↓putE_cons, ↓putE_nil, valE, Hint.val, Act.put, List.setIfInBounds_toArray, List.set_cons_succ, List.set_cons_zero]
      gi_upto_region 3 with fail
      refine wpIn_region_reP 5 1 (fun ηq7 => [.pv (.func (.yield lY) #[] #[]),
          .pv (.int .i64 (k : Int)),
          .ls (rB 64 l) 0 0,
          .pv (.int .i64 (k : Int)),
          .cl 51 #[.agg (rB 64 l).toArray, .int .i64 (k : Int)] (fun E => .int .u64 ((numO l (8 * k) 8 : Nat) : Int)) [] [] (fun E => []) (enters_of Try.func51 (by kernel_rfl) rfl) (fun w' H => cB (callsIn_wide.2 (dword_any l (by first | rfl | (simp only [List.length_set, List.length_append, List.length_replicate, List.length_cons, List.length_nil, List.length_map, List.length_range, List.length_take, List.length_drop, hl]; done) | (simp only [List.length_set, List.length_append, List.length_replicate, List.length_cons, List.length_nil, List.length_map, List.length_range, List.length_take, List.length_drop, hl]; omega)) k (by omega) w')))])
        (fun ηq7 L => L) OW (fun _ => by kernel_rfl) ?_
      clear OW; intro ηq7 ysq7 Wq7 OW
      simp only [↓putE_cons, ↓putE_nil, valE, Hint.val, Act.put, List.setIfInBounds_toArray, List.set_cons_succ, List.set_cons_zero, List.take_succ_cons, List.take_zero, List.drop_succ_cons, List.drop_zero]
      have HI8 := ItS.step (K := [(b, Obj.cells (rB 64 l).toArray 23 (0, 0))]) (L' := []) hJ HI3.out OW.out
      obtain ⟨fn, tmps, assign, body, hy9, hR⟩ := HY.out [] k _ _ (range_map_get (by omega)) HI8
      clear OW HI3 HI8
      dsimp only at hy9
      gi_wp2
      refine hR.mono ?_
      rintro e W10 (⟨rfl, hI3⟩ | ⟨rfl, Oy, hJx⟩)
      ·
        clear hy9 hR
        have HI11 := Lib.hid hI3
        have OW := Lib.hid (show OwnS [b] W10 [(b, Obj.cells (rB 64 l).toArray 23 (0, 0))] W10 from OwnS.start HI11.out.has)
        clear hI3
        gi_upto_region 4 with fail
        refine wpIn_region_re 1 (fun ηq12 => [.tv (.int .i64 ((k + 1 : Nat) : Int)) (sBin .add 3 (.tmp 4) (.const (.int .i64 1)) (.int .i64 (k : Int)) (.int .i64 1)) (fun _ => bin_add_nat (a := k) (b := 1) (by omega)),
            .pv (.int .i64 ((k + 1 : Nat) : Int))])
          (fun ηq12 L => L) (by kernel_rfl) OW (fun _ => by kernel_rfl) ?_
        clear OW; intro ηq12 ysq12 Wq12 OW
        simp only [↓putE_cons, ↓putE_nil, valE, Hint.val, Act.put, List.setIfInBounds_toArray, List.set_cons_succ, List.set_cons_zero]
        gi_wp2
        go_roundw
        case rel => exact ⟨k + 1, by omega, by go_num, (by skip; exact ItS.step (K := [(b, Obj.cells (rB 64 l).toArray 23 (0, 0))]) (L' := []) hJ HI11.out (OwnS.pick OW.out [0] _ (by kernel_rfl)))⟩
        case measure => (simp [intOf] <;> omega)
      ·
        clear hy9 hR
        have HX := Lib.hid hJx
        clear hJx
        gi_wp2
        refine bodyPost_ret (results_none rfl _ _ _) rfl ?_
        exact ⟨⟨_, rfl⟩, .inr ⟨k, (by first | omega | (simp only [List.length_set, List.length_append, List.length_replicate, List.length_cons, List.length_nil, List.length_map, List.length_range, List.length_take, List.length_drop]; omega)), _, HX.out⟩⟩
    have dhB5 := of_decide_eq_false hB5
    obtain rfl : k = 8 := by omega
    gi_wp2
    go_end0
    exact ⟨⟨_, rfl⟩, .inl ⟨_, (by first | exact ItS.step (K := [(b, Obj.cells (rB 64 l).toArray 23 (0, 0))]) (L' := []) hJ HI3.out OW.out | (rw [List.length_map, List.length_range]; exact ItS.step (K := [(b, Obj.cells (rB 64 l).toArray 23 (0, 0))]) (L' := []) hJ HI3.out OW.out))⟩⟩
set_option maxRecDepth 100000 in
set_option maxHeartbeats 1000000 in
theorem halves_it (m : Nat) (h1 : 1 ≤ m) (b : Nat) (l : List UInt8) (hl : l.length = 64) : IterS m Try.prog 56 #[.pointer (some ⟨b, 0, none⟩)] (fun (x : Nat × List UInt8) => #[.int .i64 (x.1 : Int), .agg (rB 32 x.2).toArray]) ((List.range 2).map fun k => (k, (l.drop (32 * k)).take 32)) [(b, Obj.cells (rB 64 l).toArray 23 (0, 0))] := by
  refine iterS_of ?_
  intro lY JY JX WI hJ HY HI
  have OW : Hid (OwnS [b] WI [(b, Obj.cells (rB 64 l).toArray 23 (0, 0))] WI) := Lib.hid (show OwnS _ _ _ _ from OwnS.start HI.out.has)
  refine callsIn_of_wp Try.func56 rfl trivial ?_ rfl
  simp only [Try.ntmps56, List.size_toArray, List.length_cons, List.length_nil, Nat.reduceAdd, Nat.reduceSub, Array.replicate_succ, Array.replicate_zero, List.push_toArray, List.append_toArray, List.nil_append, List.cons_append]
  gi_upto_region 0 with fail
  refine wpIn_region_re 1 (fun ηq1 => [.pv (.int .i64 0)])
    (fun ηq1 L => L) (by kernel_rfl) OW (fun _ => by kernel_rfl) ?_
  clear OW; intro ηq1 ysq1 Wq1 OW
  simp only [↓putE_cons, ↓putE_nil, valE, Hint.val, Act.put, List.setIfInBounds_toArray, List.set_cons_succ, List.set_cons_zero]
  gi_wp2
  gi_loopw [4] (fun z4 wr => ∃ k : Nat, k ≤ 2 ∧ z4 = .int .i64 (k : Int) ∧ ItS JY [(b, Obj.cells (rB 64 l).toArray 23 (0, 0))] WI [] k wr) (fun z4 _ => 2 - (intOf z4).toNat)
  case atStart => exact ⟨0, by omega, rfl, (by skip; exact ItS.step (K := [(b, Obj.cells (rB 64 l).toArray 23 (0, 0))]) (L' := []) hJ HI.out OW.out)⟩
  case round =>
    obtain ⟨k, hk2, rfl, hI⟩ := hrel
    clear OW HI
    have HI3 := Lib.hid hI
    have OW := Lib.hid (show OwnS [b] wr [(b, Obj.cells (rB 64 l).toArray 23 (0, 0))] wr from OwnS.start hI.has)
    clear hI
    gi_upto_region 1 with fail
    refine wpIn_region_re 1 (fun ηq4 => [.pv (.bool (decide ((k : Int) < 2)))])
      (fun ηq4 L => L) (by kernel_rfl) OW (fun _ => by kernel_rfl) ?_
    clear OW; intro ηq4 ysq4 Wq4 OW
    simp only [↓putE_cons, ↓putE_nil, valE, Hint.val, Act.put, List.setIfInBounds_toArray, List.set_cons_succ, List.set_cons_zero]
    cases hB5 : (decide ((k : Int) < 2))
    case true =>
      have dhB5 := of_decide_eq_true hB5
      gi_upto_region 2 with fail
      refine wpIn_region_re 1 (fun ηq6 => [.pv (.int .i64 (k : Int)),
          .pv (.int .i64 (k : Int))])
        (fun ηq6 L => L) (by kernel_rfl) OW (fun _ => by kernel_rfl) ?_
      clear OW; intro ηq6 ysq6 Wq6 OW
      simp only [↓putE_cons, ↓putE_nil, valE, Hint.val, Act.put, List.setIfInBounds_toArray, List.set_cons_succ, List.set_cons_zero]
      gi_upto_region 3 with fail
      refine wpIn_region_reP 7 1 (fun ηq7 => [.pv (.func (.yield lY) #[] #[]),
          .pv (.int .i64 (k : Int)),
          .pv (.int .i64 (k : Int)),
          .tv (.int .i64 ((32 * k : Nat) : Int)) (sBin .mul 3 (.const (.int .i64 32)) (.tmp 9) (.int .i64 32) (.int .i64 (k : Int))) (fun _ => bin_mul_nat (a := 32) (b := k) (by omega)),
          .tv (.slice (some ⟨b, (32 * k) * 1, none⟩) (64 - (32 * k)) (64 - (32 * k))) (Instr.sliceAt 23 (.pointer (some ⟨b, 0, none⟩)) (some (.int .i64 ((32 * k : Nat) : Int))) none none) (fun _ => sl_arl (s := 1) (l := 32 * k) (by kernel_rfl) (by omega)),
          .tv (.pointer (some ⟨b, (32 * k) * 1, none⟩)) (Instr.arrayAt 67 (.slice (some ⟨b, (32 * k) * 1, none⟩) (64 - (32 * k)) (64 - (32 * k)))) (fun _ => run_arrayAt _ 67 5 32 _ _ _ Try.underlying67 (by omega)),
          .gn (vS (Instr.loadAt 67 (.pointer (some ⟨b, (32 * k) * 1, none⟩)))) (fun _ => .agg (rB 32 ((l.drop (32 * k)).take 32)).toArray) [(0, (b, Obj.cells (rB 64 l).toArray 23 (0, 0)))] [] (fun _ => []) (acts_lds (l := rB 32 ((l.drop (32 * k)).take 32)) (by kernel_rfl) (by kernel_rfl) (rL_subrow (fun _ => rfl) (show (l).length = 64 by first | rfl | (simp only [List.length_set, List.length_append, List.length_replicate, List.length_cons, List.length_nil, List.length_map, List.length_range, List.length_take, List.length_drop, hl]; done) | (simp only [List.length_set, List.length_append, List.length_replicate, List.length_cons, List.length_nil, List.length_map, List.length_range, List.length_take, List.length_drop, hl]; omega)) (by omega)))])
        (fun ηq7 L => L) OW (fun _ => by kernel_rfl) ?_
      clear OW; intro ηq7 ysq7 Wq7 OW
      simp only [↓putE_cons, ↓putE_nil, valE, Hint.val, Act.put, List.setIfInBounds_toArray, List.set_cons_succ, List.set_cons_zero, List.take_succ_cons, List.take_zero, List.drop_succ_cons, List.drop_zero]
      have HI8 := ItS.step (K := [(b, Obj.cells (rB 64 l).toArray 23 (0, 0))]) (L' := []) hJ HI3.out OW.out
      obtain ⟨fn, tmps, assign, body, hy9, hR⟩ := HY.out [] k _ _ (range_map_get (by omega)) HI8
      clear OW HI3 HI8
      dsimp only at hy9
      gi_wp2
      refine hR.mono ?_
      rintro e W10 (⟨rfl, hI3⟩ | ⟨rfl, Oy, hJx⟩)
      ·
        clear hy9 hR
        have HI11 := Lib.hid hI3
        have OW := Lib.hid (show OwnS [b] W10 [(b, Obj.cells (rB 64 l).toArray 23 (0, 0))] W10 from OwnS.start HI11.out.has)
        clear hI3
        gi_upto_region 4 with fail
        refine wpIn_region_re 1 (fun ηq12 => [.tv (.int .i64 ((k + 1 : Nat) : Int)) (sBin .add 3 (.tmp 4) (.const (.int .i64 1)) (.int .i64 (k : Int)) (.int .i64 1)) (fun _ => bin_add_nat (a := k) (b := 1) (by omega)),
            .pv (.int .i64 ((k + 1 : Nat) : Int))])
          (fun ηq12 L => L) (by kernel_rfl) OW (fun _ => by kernel_rfl) ?_
        clear OW; intro ηq12 ysq12 Wq12 OW
        simp only [↓putE_cons, ↓putE_nil, valE, Hint.val, Act.put, List.setIfInBounds_toArray, List.set_cons_succ, List.set_cons_zero]
        gi_wp2
        go_roundw
        case rel => exact ⟨k + 1, by omega, by go_num, (by skip; exact ItS.step (K := [(b, Obj.cells (rB 64 l).toArray 23 (0, 0))]) (L' := []) hJ HI11.out (OwnS.pick OW.out [0] _ (by kernel_rfl)))⟩
        case measure => (simp [intOf] <;> omega)
      ·
        clear hy9 hR
        have HX := Lib.hid hJx
        clear hJx
        gi_wp2
        refine bodyPost_ret (results_none rfl _ _ _) rfl ?_
        exact ⟨⟨_, rfl⟩, .inr ⟨k, (by first | omega | (simp only [List.length_set, List.length_append, List.length_replicate, List.length_cons, List.length_nil, List.length_map, List.length_range, List.length_take, List.length_drop]; omega)), _, HX.out⟩⟩
    have dhB5 := of_decide_eq_false hB5
    obtain rfl : k = 2 := by omega
    gi_wp2
    go_end0
    exact ⟨⟨_, rfl⟩, .inl ⟨_, (by first | exact ItS.step (K := [(b, Obj.cells (rB 64 l).toArray 23 (0, 0))]) (L' := []) hJ HI3.out OW.out | (rw [List.length_map, List.length_range]; exact ItS.step (K := [(b, Obj.cells (rB 64 l).toArray 23 (0, 0))]) (L' := []) hJ HI3.out OW.out))⟩⟩
set_option maxRecDepth 100000 in
set_option maxHeartbeats 1000000 in
theorem dwords_any (l : List UInt8) (hl : l.length = 64) (w : World) (H : Has [] w) : Calls Try.prog 24 #[.agg (rB 64 l).toArray] w fun e w' => ∃ E : Env, e = .returned (.func (.func 50) #[] #[.pointer (some ⟨E.blk 0, 0, none⟩)]) ∧ Step [] [(E.blk 0, Obj.cells (rB 64 l).toArray 23 (0, 0))] w w' := by
  have OW : Hid (OwnS [] w [] w) := Lib.hid (OwnS.start H)
  refine (callsIn_wide (n := 6)).1 ?_
  refine callsIn_of_wp_marks Try.func24 rfl trivial ?_ rfl
  simp only [Try.ntmps24, List.size_toArray, List.length_cons, List.length_nil, Nat.reduceAdd, Nat.reduceSub, Array.replicate_succ, Array.replicate_zero, List.push_toArray, List.append_toArray, List.nil_append, List.cons_append]
  gi_upto_region 0 with fail
  refine wpIn_region_re 1 (fun ηq1 => [.bx 0 23 (.agg (rB 64 l).toArray),
      .pv (.nilFunc)])
    (fun ηq1 L => L ++ [((ηq1 0).blk 0, Obj.cells (rB 64 l).toArray 23 (0, 0))]) (by kernel_rfl) OW (fun _ => by kernel_rfl) ?_
  clear OW; intro ηq1 ysq1 Wq1 OW
  simp only [↓putE_cons, ↓putE_nil, valE, Hint.val, Act.put, List.setIfInBounds_toArray, List.set_cons_succ, List.set_cons_zero]
  gi_upto_region 1 with fail
  refine wpIn_region_re 1 (fun ηq2 => [.pv (.func (.func 50) #[] #[.pointer (some ⟨(ηq1 0).blk 0, 0, none⟩)]),
      .pv (.func (.func 50) #[] #[.pointer (some ⟨(ηq1 0).blk 0, 0, none⟩)])])
    (fun ηq2 L => L) (by kernel_rfl) OW (fun _ => by kernel_rfl) ?_
  clear OW; intro ηq2 ysq2 Wq2 OW
  simp only [↓putE_cons, ↓putE_nil, valE, Hint.val, Act.put, List.setIfInBounds_toArray, List.set_cons_succ, List.set_cons_zero]
  gi_wp2
  exact leavesS OW [.t (.func (.func 50) #[] #[.pointer (some ⟨(ηq1 0).blk 0, 0, none⟩)])] (by kernel_rfl) fun hO => ⟨⟨fun k => ([(ηq1 0).blk 0] : List Nat).getD k 0, fun k => ([] : List (List Value)).getD k [], fun k => ([] : List Nat).getD k 0⟩, rfl, OwnS.fin H hO [] [((ηq1 0).blk 0, Obj.cells (rB 64 l).toArray 23 (0, 0))] [0] [] (by kernel_rfl)⟩
set_option maxRecDepth 100000 in
set_option maxHeartbeats 1000000 in
theorem dhalves_any (l : List UInt8) (hl : l.length = 64) (w : World) (H : Has [] w) : Calls Try.prog 30 #[.agg (rB 64 l).toArray] w fun e w' => ∃ E : Env, e = .returned (.func (.func 56) #[] #[.pointer (some ⟨E.blk 0, 0, none⟩)]) ∧ Step [] [(E.blk 0, Obj.cells (rB 64 l).toArray 23 (0, 0))] w w' := by
  have OW : Hid (OwnS [] w [] w) := Lib.hid (OwnS.start H)
  refine (callsIn_wide (n := 6)).1 ?_
  refine callsIn_of_wp_marks Try.func30 rfl trivial ?_ rfl
  simp only [Try.ntmps30, List.size_toArray, List.length_cons, List.length_nil, Nat.reduceAdd, Nat.reduceSub, Array.replicate_succ, Array.replicate_zero, List.push_toArray, List.append_toArray, List.nil_append, List.cons_append]
  gi_upto_region 0 with fail
  refine wpIn_region_re 1 (fun ηq1 => [.bx 0 23 (.agg (rB 64 l).toArray),
      .pv (.nilFunc)])
    (fun ηq1 L => L ++ [((ηq1 0).blk 0, Obj.cells (rB 64 l).toArray 23 (0, 0))]) (by kernel_rfl) OW (fun _ => by kernel_rfl) ?_
  clear OW; intro ηq1 ysq1 Wq1 OW
  simp only [↓putE_cons, ↓putE_nil, valE, Hint.val, Act.put, List.setIfInBounds_toArray, List.set_cons_succ, List.set_cons_zero]
  gi_upto_region 1 with fail
  refine wpIn_region_re 1 (fun ηq2 => [.pv (.func (.func 56) #[] #[.pointer (some ⟨(ηq1 0).blk 0, 0, none⟩)]),
      .pv (.func (.func 56) #[] #[.pointer (some ⟨(ηq1 0).blk 0, 0, none⟩)])])
    (fun ηq2 L => L) (by kernel_rfl) OW (fun _ => by kernel_rfl) ?_
  clear OW; intro ηq2 ysq2 Wq2 OW
  simp only [↓putE_cons, ↓putE_nil, valE, Hint.val, Act.put, List.setIfInBounds_toArray, List.set_cons_succ, List.set_cons_zero]
  gi_wp2
  exact leavesS OW [.t (.func (.func 56) #[] #[.pointer (some ⟨(ηq1 0).blk 0, 0, none⟩)])] (by kernel_rfl) fun hO => ⟨⟨fun k => ([(ηq1 0).blk 0] : List Nat).getD k 0, fun k => ([] : List (List Value)).getD k [], fun k => ([] : List Nat).getD k 0⟩, rfl, OwnS.fin H hO [] [((ηq1 0).blk 0, Obj.cells (rB 64 l).toArray 23 (0, 0))] [0] [] (by kernel_rfl)⟩
/-- Verdicts put together. -/
def jK (l : List Int) : Int := l.foldl max 0
def jF (l : List Int) : Int := l.foldl (fun a k => a + dflag_0 (k == 1)) 0
theorem take_succD {l : List Int} {k : Nat} (h : k < l.length) : l.take (k + 1) = l.take k ++ [l.getD k 0] := by
  rw [List.take_add_one, List.getElem?_eq_getElem h, List.getD_eq_getElem?_getD, List.getElem?_eq_getElem h]
  rfl
theorem jK_snoc (l : List Int) (x : Int) : jK (l ++ [x]) = max (jK l) x := by unfold jK; rw [List.foldl_append]; rfl
theorem jF_snoc (l : List Int) (x : Int) : jF (l ++ [x]) = jF l + dflag_0 (x == 1) := by unfold jF; rw [List.foldl_append]; rfl
theorem dflag_bd (b : Bool) : 0 ≤ dflag_0 b ∧ dflag_0 b ≤ 1 := by cases b <;> decide
theorem jF_bd (l : List Int) : 0 ≤ jF l ∧ jF l ≤ l.length := by
  suffices h : ∀ (l : List Int) (a : Int), a ≤ l.foldl (fun a k => a + dflag_0 (k == 1)) a ∧ l.foldl (fun a k => a + dflag_0 (k == 1)) a ≤ a + l.length by
    have := h l 0
    unfold jF
    omega
  intro l
  induction l with
  | nil => intro a; simp
  | cons x l ih =>
    intro a
    have h1 := ih (a + dflag_0 (x == 1))
    have h2 := dflag_bd (x == 1)
    rw [List.foldl_cons, List.length_cons]
    push_cast
    omega
def djoin_0 (ks : List Int) : Int := (bif (jK ks) != 1 then 0 else (jF ks))
set_option maxRecDepth 100000 in
set_option maxHeartbeats 1000000 in
theorem djoin_any (ks : List Int) (n a r : Nat) (hk : ks.length = n) (hn : n ≤ 1000) (w : World) (H : Has [(a, Obj.cells (rowZ (slF eI ks) [.int .i64 0] r) 3 (0, 0))] w) : Calls Try.prog 34 #[.slice (some ⟨a, 0, none⟩) n (n + r)] w fun e w' => e = .returned (.agg #[.int .i64 (jK ks), .int .i64 (djoin_0 ks)]) ∧ Step [] [] w w' := by
  have OW : Hid (OwnS [a] w [(a, Obj.cells (rowZ (slF eI ks) [.int .i64 0] r) 3 (0, 0))] w) := Lib.hid (OwnS.start H)
  refine (callsIn_wide (n := 6)).1 ?_
  refine callsIn_of_wp_marks Try.func34 rfl trivial ?_ rfl
  simp only [Try.ntmps34, List.size_toArray, List.length_cons, List.length_nil, Nat.reduceAdd, Nat.reduceSub, Array.replicate_succ, Array.replicate_zero, List.push_toArray, List.append_toArray, List.nil_append, List.cons_append]
  gi_upto_region 0 with fail
  refine wpIn_region_re 2 (fun ηq1 => [.al 1 30 #[.int .i64 0, .int .i64 0]])
    (fun ηq1 L => L ++ [((ηq1 0).blk 0, Obj.cells #[.int .i64 0, .int .i64 0] 30 (0, 0))]) (by kernel_rfl) OW (fun _ => by kernel_rfl) ?_
  clear OW; intro ηq1 ysq1 Wq1 OW
  simp only [↓putE_cons, ↓putE_nil, valE, Hint.val, Act.put, List.setIfInBounds_toArray, List.set_cons_succ, List.set_cons_zero]
  gi_upto_region 1 with fail
  refine wpIn_region_re 3 (fun ηq2 => [.al 2 30 #[.int .i64 0, .int .i64 0]])
    (fun ηq2 L => L ++ [((ηq2 0).blk 0, Obj.cells #[.int .i64 0, .int .i64 0] 30 (0, 0))]) (by kernel_rfl) OW (fun _ => by kernel_rfl) ?_
  clear OW; intro ηq2 ysq2 Wq2 OW
  simp only [↓putE_cons, ↓putE_nil, valE, Hint.val, Act.put, List.setIfInBounds_toArray, List.set_cons_succ, List.set_cons_zero]
  gi_upto_region 2 with fail
  refine wpIn_region_re 3 (fun ηq3 => [.pv (.slice (some ⟨a, 0, none⟩) n (n + r)),
      .pv (.int .i64 (n : Int)),
      .pv (.int .i64 0)])
    (fun ηq3 L => L) (by kernel_rfl) OW (fun _ => by kernel_rfl) ?_
  clear OW; intro ηq3 ysq3 Wq3 OW
  simp only [↓putE_cons, ↓putE_nil, valE, Hint.val, Act.put, List.setIfInBounds_toArray, List.set_cons_succ, List.set_cons_zero]
  gi_wp2
  gi_loopw [8] (fun z8 wr => ∃ k : Nat, k ≤ n ∧ z8 = .int .i64 (k : Int) ∧ OwnS [a] w [(a, Obj.cells (rowZ (slF eI ks) [.int .i64 0] r) 3 (0, 0)), ((ηq1 0).blk 0, Obj.cells #[.int .i64 0, .int .i64 0] 30 (0, 0)), ((ηq2 0).blk 0, Obj.cells #[.int .i64 (jK (ks.take k)), .int .i64 (jF (ks.take k))] 30 (0, 0))] wr) (fun z8 _ => n - (intOf (z8)).toNat)
  case atStart => exact ⟨0, by omega, rfl, (by skip; exact OwnS.cast OW.out (by kernel_rfl))⟩
  case round =>
    obtain ⟨k, hk5, rfl, hO⟩ := hrel
    clear OW
    have HJF := jF_bd (ks.take k)
    have HFL := dflag_bd (ks.getD k 0 == 1)
    rw [List.length_take] at HJF
    have OW := Lib.hid hO
    clear hO
    gi_upto_region 3 with fail
    refine wpIn_region_re 3 (fun ηq7 => [.pv (.bool (decide ((k : Int) < (n : Int))))])
      (fun ηq7 L => L) (by kernel_rfl) OW (fun _ => by kernel_rfl) ?_
    clear OW; intro ηq7 ysq7 Wq7 OW
    simp only [↓putE_cons, ↓putE_nil, valE, Hint.val, Act.put, List.setIfInBounds_toArray, List.set_cons_succ, List.set_cons_zero]
    cases hB8 : (decide ((k : Int) < (n : Int)))
    case true =>
      have dhB8 := of_decide_eq_true hB8
      gi_upto_region 4 with fail
      refine wpIn_region_re 3 (fun ηq9 => [.tv (.pointer (some ⟨a, 0 + k * 1, none⟩)) (Instr.indexAt 70 (.slice (some ⟨a, 0, none⟩) n (n + r)) (.int .i64 (k : Int))) (fun _ => idx_sl (k := k) (by kernel_rfl) (by omega)),
          .lt (.int .i64 (ks.getD k 0)) 0 (0 + k * 1) a (rowZ (slF eI ks) [.int .i64 0] r) 3 (zcell (k := 1) (f := 0) (fun _ => rfl) (by omega) (by decide) rfl),
          .pv (.int .i64 (ks.getD k 0))])
        (fun ηq9 L => L) (by kernel_rfl) OW (fun _ => by kernel_rfl) ?_
      clear OW; intro ηq9 ysq9 Wq9 OW
      simp only [↓putE_cons, ↓putE_nil, valE, Hint.val, Act.put, List.setIfInBounds_toArray, List.set_cons_succ, List.set_cons_zero]
      gi_upto_region 5 with fail
      refine wpIn_region_re 3 (fun ηq10 => [.pv (.pointer (some ⟨(ηq2 0).blk 0, 0, none⟩)),
          .ld (.int .i64 (jK (ks.take k))) 2 0,
          .pv (.int .i64 (ks.getD k 0)),
          .tv (.int .i64 (max (jK (ks.take k)) (ks.getD k 0))) (Builtin.max_ #[3, 3] 3 #[.int .i64 (jK (ks.take k)), .int .i64 (ks.getD k 0)]) (fun _ => run_maxI _ _ _ _),
          .pv (.pointer (some ⟨(ηq2 0).blk 0, 0, none⟩)),
          .st 2 ((ηq2 0).blk 0) 0 30 (.int .i64 (max (jK (ks.take k)) (ks.getD k 0))) #[.int .i64 (max (jK (ks.take k)) (ks.getD k 0)), .int .i64 (jF (ks.take k))]])
        (fun ηq10 L => L.set 2 ((ηq2 0).blk 0, Obj.cells #[.int .i64 (max (jK (ks.take k)) (ks.getD k 0)), .int .i64 (jF (ks.take k))] 30 (0, 0))) (by kernel_rfl) OW (fun _ => by kernel_rfl) ?_
      clear OW; intro ηq10 ysq10 Wq10 OW
      simp only [↓putE_cons, ↓putE_nil, valE, Hint.val, Act.put, List.setIfInBounds_toArray, List.set_cons_succ, List.set_cons_zero]
      gi_upto_region 6 with fail
      refine wpIn_region_re 3 (fun ηq11 => [.pv (.pointer (some ⟨(ηq2 0).blk 0, 1, none⟩)),
          .ld (.int .i64 (jF (ks.take k))) 2 1,
          .pv (.int .i64 (ks.getD k 0)),
          .pv (.bool ((ks.getD k 0) == 1)),
          .cl 28 #[.bool ((ks.getD k 0) == 1)] (fun E => .int .i64 (dflag_0 ((ks.getD k 0) == 1))) [] [] (fun E => []) (enters_of Try.func28 (by kernel_rfl) rfl) (fun w' H => cB (callsIn_wide.2 (dflag_any ((ks.getD k 0) == 1) w'))),
          .tv (.int .i64 ((jF (ks.take k)) + (dflag_0 ((ks.getD k 0) == 1)))) (sBin .add 3 (.tmp 18) (.tmp 21) (.int .i64 (jF (ks.take k))) (.int .i64 (dflag_0 ((ks.getD k 0) == 1)))) (fun _ => bin_add_in (a := (jF (ks.take k))) (b := (dflag_0 ((ks.getD k 0) == 1))) (by omega) (by omega)),
          .pv (.pointer (some ⟨(ηq2 0).blk 0, 1, none⟩)),
          .st 2 ((ηq2 0).blk 0) 1 30 (.int .i64 ((jF (ks.take k)) + (dflag_0 ((ks.getD k 0) == 1)))) #[.int .i64 (max (jK (ks.take k)) (ks.getD k 0)), .int .i64 ((jF (ks.take k)) + (dflag_0 ((ks.getD k 0) == 1)))]])
        (fun ηq11 L => L.set 2 ((ηq2 0).blk 0, Obj.cells #[.int .i64 (max (jK (ks.take k)) (ks.getD k 0)), .int .i64 ((jF (ks.take k)) + (dflag_0 ((ks.getD k 0) == 1)))] 30 (0, 0))) (by kernel_rfl) OW (fun _ => by kernel_rfl) ?_
      clear OW; intro ηq11 ysq11 Wq11 OW
      simp only [↓putE_cons, ↓putE_nil, valE, Hint.val, Act.put, List.setIfInBounds_toArray, List.set_cons_succ, List.set_cons_zero]
      gi_upto_region 7 with fail
      refine wpIn_region_re 3 (fun ηq12 => [.tv (.int .i64 ((k + 1 : Nat) : Int)) (sBin .add 3 (.tmp 8) (.const (.int .i64 1)) (.int .i64 (k : Int)) (.int .i64 1)) (fun _ => bin_add_nat (a := k) (b := 1) (by omega)),
          .pv (.int .i64 ((k + 1 : Nat) : Int))])
        (fun ηq12 L => L) (by kernel_rfl) OW (fun _ => by kernel_rfl) ?_
      clear OW; intro ηq12 ysq12 Wq12 OW
      simp only [↓putE_cons, ↓putE_nil, valE, Hint.val, Act.put, List.setIfInBounds_toArray, List.set_cons_succ, List.set_cons_zero]
      gi_wp2
      go_roundw
      case rel => exact ⟨k + 1, by omega, by go_num, (by rw [take_succD (by omega), jK_snoc, jF_snoc]; exact OwnS.cast OW.out (by kernel_rfl))⟩
      case measure => (simp [intOf] <;> omega)
    have dhB8 := of_decide_eq_false hB8
    obtain rfl : n = k := by omega
    have OW := Lib.hid (OwnS.cast (L' := [(a, Obj.cells (rowZ (slF eI ks) [.int .i64 0] r) 3 (0, 0)), ((ηq1 0).blk 0, Obj.cells #[.int .i64 0, .int .i64 0] 30 (0, 0)), ((ηq2 0).blk 0, Obj.cells #[.int .i64 (jK ks), .int .i64 (jF ks)] 30 (0, 0))]) OW.out (by rw [List.take_of_length_le (by omega)]))
    gi_upto_region 8 with fail
    refine wpIn_region_re 3 (fun ηq13 => [.pv (.pointer (some ⟨(ηq2 0).blk 0, 0, none⟩)),
        .ld (.int .i64 (jK ks)) 2 0,
        .pv (.bool ((jK ks) != 1))])
      (fun ηq13 L => L) (by kernel_rfl) OW (fun _ => by kernel_rfl) ?_
    clear OW; intro ηq13 ysq13 Wq13 OW
    simp only [↓putE_cons, ↓putE_nil, valE, Hint.val, Act.put, List.setIfInBounds_toArray, List.set_cons_succ, List.set_cons_zero]
    cases hB14 : ((jK ks) != 1)
    case true =>
      have dhB14 := bne_iff_ne.1 hB14
      gi_upto_region 9 with fail
      refine wpIn_region_re 3 (fun ηq15 => [.pv (.pointer (some ⟨(ηq2 0).blk 0, 1, none⟩)),
          .st 2 ((ηq2 0).blk 0) 1 30 (.int .i64 0) #[.int .i64 (jK ks), .int .i64 0]])
        (fun ηq15 L => L.set 2 ((ηq2 0).blk 0, Obj.cells #[.int .i64 (jK ks), .int .i64 0] 30 (0, 0))) (by kernel_rfl) OW (fun _ => by kernel_rfl) ?_
      clear OW; intro ηq15 ysq15 Wq15 OW
      simp only [↓putE_cons, ↓putE_nil, valE, Hint.val, Act.put, List.setIfInBounds_toArray, List.set_cons_succ, List.set_cons_zero]
      gi_upto_region 10 with fail
      refine wpIn_region_re 3 (fun ηq16 => [.ls ([.int .i64 (jK ks), .int .i64 0]) 2 0,
          .ss 1 ((ηq1 0).blk 0) 0 30 ([.int .i64 (jK ks), .int .i64 0]) #[.int .i64 (jK ks), .int .i64 0]])
        (fun ηq16 L => L.set 1 ((ηq1 0).blk 0, Obj.cells #[.int .i64 (jK ks), .int .i64 0] 30 (0, 0))) (by kernel_rfl) OW (fun _ => by kernel_rfl) ?_
      clear OW; intro ηq16 ysq16 Wq16 OW
      simp only [↓putE_cons, ↓putE_nil, valE, Hint.val, Act.put, List.setIfInBounds_toArray, List.set_cons_succ, List.set_cons_zero]
      gi_wp2
      exact leavesS OW [.s ([.int .i64 (jK ks), .int .i64 0]) 1] (by kernel_rfl) fun hO => ⟨(by (try simp only [djoin_0]); (repeat (first | rw [hB8] | rw [hB14] | rw [cond_true] | rw [cond_false])); try rfl), (by (try simp only [djoin_0]); (repeat (first | rw [hB8] | rw [hB14] | rw [cond_true] | rw [cond_false])); exact OwnS.fin H hO [] [] [] [0] (by kernel_rfl))⟩
    have dhB14 := Lib.hid (eq_of_bne_false hB14)
    gi_upto_region 10 with fail
    refine wpIn_region_re 3 (fun ηq17 => [.ls ([.int .i64 (jK ks), .int .i64 (jF ks)]) 2 0,
        .ss 1 ((ηq1 0).blk 0) 0 30 ([.int .i64 (jK ks), .int .i64 (jF ks)]) #[.int .i64 (jK ks), .int .i64 (jF ks)]])
      (fun ηq17 L => L.set 1 ((ηq1 0).blk 0, Obj.cells #[.int .i64 (jK ks), .int .i64 (jF ks)] 30 (0, 0))) (by kernel_rfl) OW (fun _ => by kernel_rfl) ?_
    clear OW; intro ηq17 ysq17 Wq17 OW
    simp only [↓putE_cons, ↓putE_nil, valE, Hint.val, Act.put, List.setIfInBounds_toArray, List.set_cons_succ, List.set_cons_zero]
    gi_wp2
    exact leavesS OW [.s ([.int .i64 (jK ks), .int .i64 (jF ks)]) 1] (by kernel_rfl) fun hO => ⟨(by (try simp only [djoin_0]); (repeat (first | rw [hB8] | rw [hB14] | rw [cond_true] | rw [cond_false])); try rfl), (by (try simp only [djoin_0]); (repeat (first | rw [hB8] | rw [hB14] | rw [cond_true] | rw [cond_false])); exact OwnS.fin H hO [] [] [] [0] (by kernel_rfl))⟩
end Go.Proofs.Ytkeheickaogpiaa
