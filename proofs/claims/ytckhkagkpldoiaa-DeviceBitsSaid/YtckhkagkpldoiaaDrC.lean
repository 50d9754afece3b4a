/- Faults laid over a word that is read. -/
import Derived.Test.YtckhkagkpldoiaaDrB
import Derived.WalkKit
import Derived.Sort.CutIn
import Derived.IntWalk
namespace Go.Proofs.Ytckhkagkpldoiaa.E
open Go Go.RowKit Go.Shelf
attribute [local go_sem] Oper.semAt_some
set_option linter.unusedVariables false
set_option linter.unusedSimpArgs false

def ovF (L : List Fa) (mode q0 q1 q2 q3 : Int) (r : List UInt8) : Nat → List UInt8
  | 0 => r
  | k + 1 => fapply (L.getD k zFa).x0 (L.getD k zFa).x1 (L.getD k zFa).x2 (L.getD k zFa).x3 (L.getD k zFa).x4 (L.getD k zFa).x5 (L.getD k zFa).x6 (L.getD k zFa).x7 mode q0 q1 q2 q3 (ovF L mode q0 q1 q2 q3 r k)
theorem ovF_len (L : List Fa) (mode q0 q1 q2 q3 : Int) (r : List UInt8) : ∀ k, (ovF L mode q0 q1 q2 q3 r k).length = r.length
  | 0 => rfl
  | k + 1 => by rw [ovF, fapply_len, ovF_len]
theorem FaOk.at {L : List Fa} (h : ∀ f ∈ L, FaOk f) {k : Nat} (hk : k < L.length) : FaOk (L.getD k zFa) := by
  rw [List.getD_eq_getElem?_getD, List.getElem?_eq_getElem hk]
  exact h _ (List.getElem_mem hk)
attribute [local irreducible] fapply ovF
set_option maxRecDepth 100000 in
set_option maxHeartbeats 1000000 in
theorem overB (v : Value) (fs : List Fa) (mode u0 u1 u2 u3 : Int) (r : List UInt8) (lr : r.length = 72) (hn : fs.length ≤ 1000000) (hx : ∀ f ∈ fs, FaOk f) (bs : Objs) (h : SlE eFa [.int .i64 0, .int .i64 0, .int .i64 0, .int .i64 0, .int .i64 0, .int .i64 0, .int .i64 0, .int .i64 0] 25 v fs bs) : Con Try.prog 25 #[v, .int .i64 mode, .agg #[.int .i64 u0, .int .i64 u1, .int .i64 u2, .int .i64 u3], .agg (rB 72 r).toArray] [.c bs] [] (fun _ => []) (fun _ => .agg (rB 72 (ovF fs mode u0 u1 u2 u3 r fs.length)).toArray) := by
 refine Con.of (enters_of Try.func25 (by kernel_rfl) rfl) fun w cs HS HH OW => ?_
 refine (callsIn_wide (n := 6)).1 ?_
 refine callsIn_of_wp_marks Try.func25 rfl trivial ?_ rfl
 simp only [Try.ntmps25, eF, Nat.reduceAdd, Nat.reduceSub]
 gi_upto_region 0 with fail
 refine rg (fun q1 => [.m (bx 1),
  .m (bx 2),
  .m (al 3)]) (fun q1 L => L ++ [ob ((q1 0).blk 0) #[.int .i64 u0, .int .i64 u1, .int .i64 u2, .int .i64 u3] 23, ob ((q1 1).blk 0) (rB 72 r).toArray 41, ob ((q1 2).blk 0) (rB 72 (List.replicate 72 0)).toArray 41]) OW ?_
 clear OW; intro q1 _ Wq1 OW; simp only [↓pc, ↓pn, vE, Hint.val, Act.put, eL]
 gi_upto_region 1 with fail
 refine rg (fun q2 => [.v (v),
  .m (lenS 0 (.c bs) (cP h)),
  .v (.int .i64 0)]) (fun _ L => L) OW ?_
 clear OW; intro q2 _ Wq2 OW; simp only [↓pc, ↓pn, vE, Hint.val, Act.put, eL]
 gi_wp2
 gi_loopw [13] (fun z13 wr => ∃ k : Nat, k ≤ fs.length ∧ z13 = .int .i64 (k : Int) ∧ OwnE (ids cs.flatten) w [.c bs, ob ((q1 0).blk 0) #[.int .i64 u0, .int .i64 u1, .int .i64 u2, .int .i64 u3] 23, ob ((q1 1).blk 0) (rB 72 (ovF fs mode u0 u1 u2 u3 r k)).toArray 41, ob ((q1 2).blk 0) (rB 72 (List.replicate 72 0)).toArray 41] wr) (fun z13 _ => fs.length - (intOf (z13)).toNat)
 case atStart => exact ⟨0, by omega, rfl, (by rw [show ovF fs mode u0 u1 u2 u3 r 0 = r from by rw [ovF]]; exact OwnE.cast OW.out (by kernel_rfl))⟩
 case round =>
  obtain ⟨k, hk4, rfl, hO⟩ := hrel
  clear OW
  have OW := Lib.hid hO
  clear hO
  gi_upto_region 2 with fail
  refine rg (fun q5 => [.v (.bool (decide ((k : Int) < (fs.length : Int))))]) (fun _ L => L) OW ?_
  clear OW; intro q5 _ Wq5 OW; simp only [↓pc, ↓pn, vE, Hint.val, Act.put, eL]
  cases hB6 : (decide ((k : Int) < (fs.length : Int)))
  case true =>
   have dhB6 := of_decide_eq_true hB6
   gi_upto_region 3 with fail
   refine rg (fun q7 => [.m (idxS 0 (.c bs) k 8 (cP h) (by omega)),
    .m (lsS (l := [.int .i64 ((fs.getD k zFa).x0), .int .i64 ((fs.getD k zFa).x1), .int .i64 ((fs.getD k zFa).x2), .int .i64 ((fs.getD k zFa).x3), .int .i64 ((fs.getD k zFa).x4), .int .i64 ((fs.getD k zFa).x5), .int .i64 ((fs.getD k zFa).x6), .int .i64 ((fs.getD k zFa).x7)]) (d := zFa) 0 (.c bs) k 8 0 (cP h) (fun _ => rfl) (by omega) (Nat.le_of_ble_eq_true rfl) (by kernel_rfl)),
    .m (al 4),
    .m (ss 4)]) (fun q7 L => L ++ [ob ((q7 2).blk 0) #[.int .i64 ((fs.getD k zFa).x0), .int .i64 ((fs.getD k zFa).x1), .int .i64 ((fs.getD k zFa).x2), .int .i64 ((fs.getD k zFa).x3), .int .i64 ((fs.getD k zFa).x4), .int .i64 ((fs.getD k zFa).x5), .int .i64 ((fs.getD k zFa).x6), .int .i64 ((fs.getD k zFa).x7)] 25]) OW ?_
   clear OW; intro q7 _ Wq7 OW; simp only [↓pc, ↓pn, vE, Hint.val, Act.put, eL]
   gi_upto_region 4 with fail
   have HFO := FaOk.at (k := k) hx (Int.ofNat_lt.1 (of_decide_eq_true hB6))
   refine rg (fun q8 => [.m (ls 4 ([.int .i64 ((fs.getD k zFa).x0), .int .i64 ((fs.getD k zFa).x1), .int .i64 ((fs.getD k zFa).x2), .int .i64 ((fs.getD k zFa).x3), .int .i64 ((fs.getD k zFa).x4), .int .i64 ((fs.getD k zFa).x5), .int .i64 ((fs.getD k zFa).x6), .int .i64 ((fs.getD k zFa).x7)])),
    .v (.int .i64 mode),
    .m (ls 1 ([.int .i64 u0, .int .i64 u1, .int .i64 u2, .int .i64 u3])),
    .m (ls 2 (rB 72 (ovF fs mode u0 u1 u2 u3 r k))),
    .c [] [] (show Con _ 23 #[.agg #[.int .i64 ((fs.getD k zFa).x0), .int .i64 ((fs.getD k zFa).x1), .int .i64 ((fs.getD k zFa).x2), .int .i64 ((fs.getD k zFa).x3), .int .i64 ((fs.getD k zFa).x4), .int .i64 ((fs.getD k zFa).x5), .int .i64 ((fs.getD k zFa).x6), .int .i64 ((fs.getD k zFa).x7)], .int .i64 mode, .agg #[.int .i64 u0, .int .i64 u1, .int .i64 u2, .int .i64 u3], .agg (rB 72 (ovF fs mode u0 u1 u2 u3 r k)).toArray] _ _ _ fun _ => .agg (rB 72 (fapply ((fs.getD k zFa).x0) ((fs.getD k zFa).x1) ((fs.getD k zFa).x2) ((fs.getD k zFa).x3) ((fs.getD k zFa).x4) ((fs.getD k zFa).x5) ((fs.getD k zFa).x6) ((fs.getD k zFa).x7) mode u0 u1 u2 u3 (ovF fs mode u0 u1 u2 u3 r k))).toArray from conB (enters_of Try.func23 (by kernel_rfl) rfl) fun w' => (by rw [rB_raw (n := 72) (xs := ovF fs mode u0 u1 u2 u3 r k) (show (ovF fs mode u0 u1 u2 u3 r k).length = 72 by first | rfl | (simp only [List.length_set, List.length_append, List.length_replicate, List.length_cons, List.length_nil, List.length_map, List.length_range, List.length_take, List.length_drop, ovF_len, fapply_len, lr]; done) | (simp only [List.length_set, List.length_append, List.length_replicate, List.length_cons, List.length_nil, List.length_map, List.length_range, List.length_take, List.length_drop, ovF_len, fapply_len, lr]; omega)), rB_raw (n := 72) (xs := fapply ((fs.getD k zFa).x0) ((fs.getD k zFa).x1) ((fs.getD k zFa).x2) ((fs.getD k zFa).x3) ((fs.getD k zFa).x4) ((fs.getD k zFa).x5) ((fs.getD k zFa).x6) ((fs.getD k zFa).x7) mode u0 u1 u2 u3 (ovF fs mode u0 u1 u2 u3 r k)) (show (fapply ((fs.getD k zFa).x0) ((fs.getD k zFa).x1) ((fs.getD k zFa).x2) ((fs.getD k zFa).x3) ((fs.getD k zFa).x4) ((fs.getD k zFa).x5) ((fs.getD k zFa).x6) ((fs.getD k zFa).x7) mode u0 u1 u2 u3 (ovF fs mode u0 u1 u2 u3 r k)).length = 72 by first | rfl | (simp only [List.length_set, List.length_append, List.length_replicate, List.length_cons, List.length_nil, List.length_map, List.length_range, List.length_take, List.length_drop, ovF_len, fapply_len, lr]; done) | (simp only [List.length_set, List.length_append, List.length_replicate, List.length_cons, List.length_nil, List.length_map, List.length_range, List.length_take, List.length_drop, ovF_len, fapply_len, lr]; omega))]; exact fapply_any ((fs.getD k zFa).x0) ((fs.getD k zFa).x1) ((fs.getD k zFa).x2) ((fs.getD k zFa).x3) ((fs.getD k zFa).x4) ((fs.getD k zFa).x5) ((fs.getD k zFa).x6) ((fs.getD k zFa).x7) mode u0 u1 u2 u3 (ovF fs mode u0 u1 u2 u3 r k) (by first | rfl | (simp only [List.length_set, List.length_append, List.length_replicate, List.length_cons, List.length_nil, List.length_map, List.length_range, List.length_take, List.length_drop, ovF_len, fapply_len, lr]; done) | (simp only [List.length_set, List.length_append, List.length_replicate, List.length_cons, List.length_nil, List.length_map, List.length_range, List.length_take, List.length_drop, ovF_len, fapply_len, lr]; omega)) HFO.1 HFO.2 _)),
    .m (ss 2)]) (fun q8 L => L.set 2 (ob ((q1 1).blk 0) (rB 72 (fapply ((fs.getD k zFa).x0) ((fs.getD k zFa).x1) ((fs.getD k zFa).x2) ((fs.getD k zFa).x3) ((fs.getD k zFa).x4) ((fs.getD k zFa).x5) ((fs.getD k zFa).x6) ((fs.getD k zFa).x7) mode u0 u1 u2 u3 (ovF fs mode u0 u1 u2 u3 r k))).toArray 41)) OW ?_
   clear OW; intro q8 _ Wq8 OW; simp only [↓pc, ↓pn, vE, Hint.val, Act.put, eL]
   gi_upto_region 5 with fail
   refine rg (fun q9 => [.t (tb (a := .int .i64 (k : Int)) (b := .int .i64 1) fun _ _ _ _ => bin_add_nat (a := k) (b := 1) (by omega)),
    .v (.int .i64 ((k + 1 : Nat) : Int))]) (fun _ L => L) OW ?_
   clear OW; intro q9 _ Wq9 OW; simp only [↓pc, ↓pn, vE, Hint.val, Act.put, eL]
   gi_wp2
   go_roundw
   case rel => exact ⟨k + 1, by omega, by go_num, (by rw [ovF]; exact OwnE.pick OW.out [0, 1, 2, 3] _ (by kernel_rfl))⟩
   case measure => (simp [intOf] <;> omega)
  have dhB6 := of_decide_eq_false hB6
  obtain rfl : fs.length = k := by omega
  gi_upto_region 6 with fail
  refine rg (fun q10 => [.m (ls 2 (rB 72 (ovF fs mode u0 u1 u2 u3 r fs.length))),
   .m (ss 3)]) (fun q10 L => L.set 3 (ob ((q1 2).blk 0) (rB 72 (ovF fs mode u0 u1 u2 u3 r fs.length)).toArray 41)) OW ?_
  clear OW; intro q10 _ Wq10 OW; simp only [↓pc, ↓pn, vE, Hint.val, Act.put, eL]
  gi_wp2
  exact leafE HS HH OW [.s (rB 72 (ovF fs mode u0 u1 u2 u3 r fs.length)) 3] Env.zero [] [(0, 0)] rfl
theorem over (v : Value) (fs : List Fa) (mode u0 u1 u2 u3 : Int) (r : List UInt8) (lr : r.length = 72) (hn : fs.length ≤ 1000000) (hx : ∀ f ∈ fs, FaOk f) : Con Try.prog 25 #[v, .int .i64 mode, .agg #[.int .i64 u0, .int .i64 u1, .int .i64 u2, .int .i64 u3], .agg (rB 72 r).toArray] [slFa v fs] [] (fun _ => []) (fun _ => .agg (rB 72 (ovF fs mode u0 u1 u2 u3 r fs.length)).toArray) :=
  Con.ro 0 rfl (fun bs h => overB v fs mode u0 u1 u2 u3 r lr hn hx bs h) (enters_of Try.func25 (by kernel_rfl) rfl)
end Go.Proofs.Ytckhkagkpldoiaa.E
