/- The document's example of chips. -/
import Derived.Test.YtckhkagkpldoiaaDrF
import Derived.WalkKit
import Derived.Sort.CutIn
import Derived.IntWalk
namespace Go.Proofs.Ytckhkagkpldoiaa.E
open Go Go.RowKit Go.Shelf
attribute [local go_sem] Oper.semAt_some
set_option linter.unusedVariables false
set_option linter.unusedSimpArgs false

theorem anF_ok : FaOk (⟨6, 0, 0, 0, 1, 0, 0, 0⟩ : Fa) := ⟨by decide, by decide⟩
theorem anI_ok : DrOk (injD (D0 1 0 1 1 2 1) (⟨6, 0, 0, 0, 1, 0, 0, 0⟩ : Fa)) := injD_ok (D0_ok 1 0 1 1 2 1) anF_ok
theorem anW_ok : DrOk (wrD (injD (D0 1 0 1 1 2 1) (⟨6, 0, 0, 0, 1, 0, 0, 0⟩ : Fa)) 0 (flipI (List.replicate 72 0) 3)) := wrD_ok anI_ok 0 (by rw [flipI_length]; exact List.length_replicate)
attribute [local irreducible] fapply ovF gat_0 gat_1 gat_2 gat_3 gat_4 gindex_0 gindex_1 dadd_0 dadd_1 fright flipI flasts dInject_0 injD wrD rdD dWrite_0 dWrite_1 dWrite_2 dRead_0 dRead_1 dRead_2 dRead_3
set_option maxRecDepth 100000 in
set_option maxHeartbeats 1000000 in
theorem danchor  : Con Try.prog 30 #[] [] [] (fun _ => []) (fun _ => .bool true) := by
 refine Con.of (enters_of Try.func30 (by kernel_rfl) rfl) fun w cs HS HH OW => ?_
 have HRL := dRead_len anW_ok
 refine (callsIn_wide (n := 6)).1 ?_
 refine callsIn_of_wp_marks Try.func30 rfl trivial ?_ rfl
 simp only [Try.ntmps30, eF, Nat.reduceAdd, Nat.reduceSub]
 gi_upto_region 0 with fail
 refine rg (fun q1 => [.v (.bool false)]) (fun _ L => L) OW ?_
 clear OW; intro q1 _ Wq1 OW; simp only [↓pc, ↓pn, vE, Hint.val, Act.put, eL]
 gi_upto_region 1 with fail
 refine rg (fun q2 => [.v (.agg #[.int .i64 1, .int .i64 0, .int .i64 1, .int .i64 1, .int .i64 2]),
  .c [] [0] (dNew 1 0 1 1 2 1 (by kernel_rfl) (by kernel_rfl)),
  .v (.tuple #[.pointer (some ⟨((q2 1).blk 0), 0, none⟩), .int .i64 0]),
  .v (.pointer (some ⟨((q2 1).blk 0), 0, none⟩)),
  .v (.int .i64 0),
  .v (.pointer (some ⟨((q2 1).blk 0), 0, none⟩)),
  .v (.int .i64 0)]) (fun q2 L => L ++ [.p (PkE (DramS (((q2 1).blk 0)) (D0 1 0 1 1 2 1)))]) OW ?_
 clear OW; intro q2 _ Wq2 OW; simp only [↓pc, ↓pn, vE, Hint.val, Act.put, eL]
 gi_upto_region 2 with fail
 refine rg (fun q3 => [.v (.int .i64 0),
  .v (.bool false),
  .v (.bool false),
  .v (.pointer (some ⟨((q2 1).blk 0), 0, none⟩)),
  .v (.bool false),
  .k (.bool false)]) (fun _ L => L) OW ?_
 clear OW; intro q3 _ Wq3 OW; simp only [↓pc, ↓pn, vE, Hint.val, Act.put, eL]
 gi_upto_region 4 with fail
 refine rg (fun q4 => [.v (.pointer (some ⟨((q2 1).blk 0), 0, none⟩)),
  .v (.agg #[.int .i64 0, .int .i64 0, .int .i64 0, .int .i64 1]),
  .v (.agg #[.int .i64 6, .int .i64 0, .int .i64 0, .int .i64 0, .int .i64 1, .int .i64 0, .int .i64 0, .int .i64 0]),
  .c [0] [0] (dInject ((q2 1).blk 0) (D0 1 0 1 1 2 1) (⟨6, 0, 0, 0, 1, 0, 0, 0⟩ : Fa) (D0_ok 1 0 1 1 2 1) anF_ok),
  .v (.int .i64 (dInject_0 (D0 1 0 1 1 2 1) (⟨6, 0, 0, 0, 1, 0, 0, 0⟩ : Fa)))]) (fun q4 L => L.set 0 (.p (PkE (DramS ((q2 1).blk 0) (injD (D0 1 0 1 1 2 1) (⟨6, 0, 0, 0, 1, 0, 0, 0⟩ : Fa)))))) OW ?_
 clear OW; intro q4 _ Wq4 OW; simp only [↓pc, ↓pn, vE, Hint.val, Act.put, eL]
 gi_upto_region 5 with fail
 refine rg (fun q5 => [.v (.pointer (some ⟨((q2 1).blk 0), 0, none⟩)),
  .v (.agg (rB 72 (List.replicate 72 0)).toArray),
  .c [] [] (show Con _ 52 #[.agg (rB 72 (List.replicate 72 0)).toArray, .int .i64 3] _ _ _ fun _ => .agg (rB 72 (flipI (List.replicate 72 0) 3)).toArray from conB (enters_of Try.func52 (by kernel_rfl) rfl) fun w' => (by rw [rB_raw (n := 72) (xs := List.replicate 72 0) List.length_replicate, rB_raw (n := 72) (xs := flipI (List.replicate 72 0) 3) (show (flipI (List.replicate 72 0) 3).length = 72 by first | rfl | (simp only [List.length_set, List.length_append, List.length_replicate, List.length_cons, List.length_nil, List.length_map, List.length_range, List.length_take, List.length_drop, flipI_length, HRL]; done) | (simp only [List.length_set, List.length_append, List.length_replicate, List.length_cons, List.length_nil, List.length_map, List.length_range, List.length_take, List.length_drop, flipI_length, HRL]; omega))]; exact rflip_any (List.replicate 72 0) (by first | rfl | (simp only [List.length_set, List.length_append, List.length_replicate, List.length_cons, List.length_nil, List.length_map, List.length_range, List.length_take, List.length_drop, flipI_length, HRL]; done) | (simp only [List.length_set, List.length_append, List.length_replicate, List.length_cons, List.length_nil, List.length_map, List.length_range, List.length_take, List.length_drop, flipI_length, HRL]; omega)) 3 (by omega) (by omega) _)),
  .c [0] [0] (dWrite ((q2 1).blk 0) (injD (D0 1 0 1 1 2 1) (⟨6, 0, 0, 0, 1, 0, 0, 0⟩ : Fa)) 0 (flipI (List.replicate 72 0) 3) (by first | rfl | (simp only [List.length_set, List.length_append, List.length_replicate, List.length_cons, List.length_nil, List.length_map, List.length_range, List.length_take, List.length_drop, flipI_length, HRL]; done) | (simp only [List.length_set, List.length_append, List.length_replicate, List.length_cons, List.length_nil, List.length_map, List.length_range, List.length_take, List.length_drop, flipI_length, HRL]; omega)) anI_ok),
  .v (.tuple #[.agg #[.int .i64 (dWrite_0 (injD (D0 1 0 1 1 2 1) (⟨6, 0, 0, 0, 1, 0, 0, 0⟩ : Fa)) 0), .bool (dWrite_1 (injD (D0 1 0 1 1 2 1) (⟨6, 0, 0, 0, 1, 0, 0, 0⟩ : Fa)) 0)], .int .i64 (dWrite_2 (injD (D0 1 0 1 1 2 1) (⟨6, 0, 0, 0, 1, 0, 0, 0⟩ : Fa)) 0)]),
  .v (.agg #[.int .i64 (dWrite_0 (injD (D0 1 0 1 1 2 1) (⟨6, 0, 0, 0, 1, 0, 0, 0⟩ : Fa)) 0), .bool (dWrite_1 (injD (D0 1 0 1 1 2 1) (⟨6, 0, 0, 0, 1, 0, 0, 0⟩ : Fa)) 0)]),
  .v (.int .i64 (dWrite_2 (injD (D0 1 0 1 1 2 1) (⟨6, 0, 0, 0, 1, 0, 0, 0⟩ : Fa)) 0)),
  .m (al 1),
  .m (ss 1),
  .v (.int .i64 (dWrite_2 (injD (D0 1 0 1 1 2 1) (⟨6, 0, 0, 0, 1, 0, 0, 0⟩ : Fa)) 0))]) (fun q5 L => L.set 0 (.p (PkE (DramS ((q2 1).blk 0) (wrD (injD (D0 1 0 1 1 2 1) (⟨6, 0, 0, 0, 1, 0, 0, 0⟩ : Fa)) 0 (flipI (List.replicate 72 0) 3))))) ++ [ob ((q5 7).blk 0) #[.int .i64 (dWrite_0 (injD (D0 1 0 1 1 2 1) (⟨6, 0, 0, 0, 1, 0, 0, 0⟩ : Fa)) 0), .bool (dWrite_1 (injD (D0 1 0 1 1 2 1) (⟨6, 0, 0, 0, 1, 0, 0, 0⟩ : Fa)) 0)] 60]) OW ?_
 clear OW; intro q5 _ Wq5 OW; simp only [↓pc, ↓pn, vE, Hint.val, Act.put, eL]
 gi_upto_region 6 with fail
 refine rg (fun q6 => [.v (.pointer (some ⟨((q2 1).blk 0), 0, none⟩)),
  .c [0] [0] (dRead ((q2 1).blk 0) (wrD (injD (D0 1 0 1 1 2 1) (⟨6, 0, 0, 0, 1, 0, 0, 0⟩ : Fa)) 0 (flipI (List.replicate 72 0) 3)) 1 anW_ok),
  .v (.tuple #[.agg (rB 72 (dRead_0 (wrD (injD (D0 1 0 1 1 2 1) (⟨6, 0, 0, 0, 1, 0, 0, 0⟩ : Fa)) 0 (flipI (List.replicate 72 0) 3)) 1)).toArray, .agg #[.int .i64 (dRead_1 (wrD (injD (D0 1 0 1 1 2 1) (⟨6, 0, 0, 0, 1, 0, 0, 0⟩ : Fa)) 0 (flipI (List.replicate 72 0) 3)) 1), .bool (dRead_2 (wrD (injD (D0 1 0 1 1 2 1) (⟨6, 0, 0, 0, 1, 0, 0, 0⟩ : Fa)) 0 (flipI (List.replicate 72 0) 3)) 1)], .int .i64 (dRead_3 (wrD (injD (D0 1 0 1 1 2 1) (⟨6, 0, 0, 0, 1, 0, 0, 0⟩ : Fa)) 0 (flipI (List.replicate 72 0) 3)) 1)]),
  .v (.agg (rB 72 (dRead_0 (wrD (injD (D0 1 0 1 1 2 1) (⟨6, 0, 0, 0, 1, 0, 0, 0⟩ : Fa)) 0 (flipI (List.replicate 72 0) 3)) 1)).toArray),
  .v (.agg #[.int .i64 (dRead_1 (wrD (injD (D0 1 0 1 1 2 1) (⟨6, 0, 0, 0, 1, 0, 0, 0⟩ : Fa)) 0 (flipI (List.replicate 72 0) 3)) 1), .bool (dRead_2 (wrD (injD (D0 1 0 1 1 2 1) (⟨6, 0, 0, 0, 1, 0, 0, 0⟩ : Fa)) 0 (flipI (List.replicate 72 0) 3)) 1)]),
  .v (.int .i64 (dRead_3 (wrD (injD (D0 1 0 1 1 2 1) (⟨6, 0, 0, 0, 1, 0, 0, 0⟩ : Fa)) 0 (flipI (List.replicate 72 0) 3)) 1)),
  .m (al 2),
  .m (al 3),
  .m (ss 2),
  .m (ss 3),
  .v (.int .i64 (dRead_3 (wrD (injD (D0 1 0 1 1 2 1) (⟨6, 0, 0, 0, 1, 0, 0, 0⟩ : Fa)) 0 (flipI (List.replicate 72 0) 3)) 1))]) (fun q6 L => L.set 0 (.p (PkE (DramS ((q2 1).blk 0) (rdD (wrD (injD (D0 1 0 1 1 2 1) (⟨6, 0, 0, 0, 1, 0, 0, 0⟩ : Fa)) 0 (flipI (List.replicate 72 0) 3)) 1)))) ++ [ob ((q6 6).blk 0) (rB 72 (dRead_0 (wrD (injD (D0 1 0 1 1 2 1) (⟨6, 0, 0, 0, 1, 0, 0, 0⟩ : Fa)) 0 (flipI (List.replicate 72 0) 3)) 1)).toArray 41, ob ((q6 7).blk 0) #[.int .i64 (dRead_1 (wrD (injD (D0 1 0 1 1 2 1) (⟨6, 0, 0, 0, 1, 0, 0, 0⟩ : Fa)) 0 (flipI (List.replicate 72 0) 3)) 1), .bool (dRead_2 (wrD (injD (D0 1 0 1 1 2 1) (⟨6, 0, 0, 0, 1, 0, 0, 0⟩ : Fa)) 0 (flipI (List.replicate 72 0) 3)) 1)] 60]) OW ?_
 clear OW; intro q6 _ Wq6 OW; simp only [↓pc, ↓pn, vE, Hint.val, Act.put, eL]
 gi_upto_region 7 with fail
 refine rg (fun q7 => [.v (.int .i64 (dInject_0 (D0 1 0 1 1 2 1) (⟨6, 0, 0, 0, 1, 0, 0, 0⟩ : Fa))),
  .v (.bool ((dInject_0 (D0 1 0 1 1 2 1) (⟨6, 0, 0, 0, 1, 0, 0, 0⟩ : Fa)) == 0)),
  .v (.bool ((dInject_0 (D0 1 0 1 1 2 1) (⟨6, 0, 0, 0, 1, 0, 0, 0⟩ : Fa)) == 0)),
  .v (.int .i64 (dWrite_2 (injD (D0 1 0 1 1 2 1) (⟨6, 0, 0, 0, 1, 0, 0, 0⟩ : Fa)) 0)),
  .v (.bool ((dWrite_2 (injD (D0 1 0 1 1 2 1) (⟨6, 0, 0, 0, 1, 0, 0, 0⟩ : Fa)) 0) == 0)),
  .k (.bool (((dInject_0 (D0 1 0 1 1 2 1) (⟨6, 0, 0, 0, 1, 0, 0, 0⟩ : Fa)) == 0) && ((dWrite_2 (injD (D0 1 0 1 1 2 1) (⟨6, 0, 0, 0, 1, 0, 0, 0⟩ : Fa)) 0) == 0))),
  .v (.bool (((dInject_0 (D0 1 0 1 1 2 1) (⟨6, 0, 0, 0, 1, 0, 0, 0⟩ : Fa)) == 0) && ((dWrite_2 (injD (D0 1 0 1 1 2 1) (⟨6, 0, 0, 0, 1, 0, 0, 0⟩ : Fa)) 0) == 0))),
  .m (ls 1 ([.int .i64 (dWrite_0 (injD (D0 1 0 1 1 2 1) (⟨6, 0, 0, 0, 1, 0, 0, 0⟩ : Fa)) 0), .bool (dWrite_1 (injD (D0 1 0 1 1 2 1) (⟨6, 0, 0, 0, 1, 0, 0, 0⟩ : Fa)) 0)])),
  .v (.agg #[.int .i64 1, .bool false]),
  .t (tbT 60 fun _ _ _ => bin_eqT (xs := [.int .i64 (dWrite_0 (injD (D0 1 0 1 1 2 1) (⟨6, 0, 0, 0, 1, 0, 0, 0⟩ : Fa)) 0), .bool (dWrite_1 (injD (D0 1 0 1 1 2 1) (⟨6, 0, 0, 0, 1, 0, 0, 0⟩ : Fa)) 0)]) (ys := [.int .i64 1, .bool false]) (by kernel_rfl) (by rfl)),
  .k (.bool ((((dInject_0 (D0 1 0 1 1 2 1) (⟨6, 0, 0, 0, 1, 0, 0, 0⟩ : Fa)) == 0) && ((dWrite_2 (injD (D0 1 0 1 1 2 1) (⟨6, 0, 0, 0, 1, 0, 0, 0⟩ : Fa)) 0) == 0)) && ((dWrite_0 (injD (D0 1 0 1 1 2 1) (⟨6, 0, 0, 0, 1, 0, 0, 0⟩ : Fa)) 0) == 1 && ((dWrite_1 (injD (D0 1 0 1 1 2 1) (⟨6, 0, 0, 0, 1, 0, 0, 0⟩ : Fa)) 0) == false && true)))),
  .v (.bool ((((dInject_0 (D0 1 0 1 1 2 1) (⟨6, 0, 0, 0, 1, 0, 0, 0⟩ : Fa)) == 0) && ((dWrite_2 (injD (D0 1 0 1 1 2 1) (⟨6, 0, 0, 0, 1, 0, 0, 0⟩ : Fa)) 0) == 0)) && ((dWrite_0 (injD (D0 1 0 1 1 2 1) (⟨6, 0, 0, 0, 1, 0, 0, 0⟩ : Fa)) 0) == 1 && ((dWrite_1 (injD (D0 1 0 1 1 2 1) (⟨6, 0, 0, 0, 1, 0, 0, 0⟩ : Fa)) 0) == false && true)))),
  .v (.int .i64 (dRead_3 (wrD (injD (D0 1 0 1 1 2 1) (⟨6, 0, 0, 0, 1, 0, 0, 0⟩ : Fa)) 0 (flipI (List.replicate 72 0) 3)) 1)),
  .v (.bool ((dRead_3 (wrD (injD (D0 1 0 1 1 2 1) (⟨6, 0, 0, 0, 1, 0, 0, 0⟩ : Fa)) 0 (flipI (List.replicate 72 0) 3)) 1) == 0)),
  .k (.bool (((((dInject_0 (D0 1 0 1 1 2 1) (⟨6, 0, 0, 0, 1, 0, 0, 0⟩ : Fa)) == 0) && ((dWrite_2 (injD (D0 1 0 1 1 2 1) (⟨6, 0, 0, 0, 1, 0, 0, 0⟩ : Fa)) 0) == 0)) && ((dWrite_0 (injD (D0 1 0 1 1 2 1) (⟨6, 0, 0, 0, 1, 0, 0, 0⟩ : Fa)) 0) == 1 && ((dWrite_1 (injD (D0 1 0 1 1 2 1) (⟨6, 0, 0, 0, 1, 0, 0, 0⟩ : Fa)) 0) == false && true))) && ((dRead_3 (wrD (injD (D0 1 0 1 1 2 1) (⟨6, 0, 0, 0, 1, 0, 0, 0⟩ : Fa)) 0 (flipI (List.replicate 72 0) 3)) 1) == 0))),
  .v (.bool (((((dInject_0 (D0 1 0 1 1 2 1) (⟨6, 0, 0, 0, 1, 0, 0, 0⟩ : Fa)) == 0) && ((dWrite_2 (injD (D0 1 0 1 1 2 1) (⟨6, 0, 0, 0, 1, 0, 0, 0⟩ : Fa)) 0) == 0)) && ((dWrite_0 (injD (D0 1 0 1 1 2 1) (⟨6, 0, 0, 0, 1, 0, 0, 0⟩ : Fa)) 0) == 1 && ((dWrite_1 (injD (D0 1 0 1 1 2 1) (⟨6, 0, 0, 0, 1, 0, 0, 0⟩ : Fa)) 0) == false && true))) && ((dRead_3 (wrD (injD (D0 1 0 1 1 2 1) (⟨6, 0, 0, 0, 1, 0, 0, 0⟩ : Fa)) 0 (flipI (List.replicate 72 0) 3)) 1) == 0))),
  .m (ls 2 (rB 72 (dRead_0 (wrD (injD (D0 1 0 1 1 2 1) (⟨6, 0, 0, 0, 1, 0, 0, 0⟩ : Fa)) 0 (flipI (List.replicate 72 0) 3)) 1))),
  .v (.agg (rB 72 (List.replicate 72 0)).toArray),
  .c [] [] (show Con _ 52 #[.agg (rB 72 (List.replicate 72 0)).toArray, .int .i64 3] _ _ _ fun _ => .agg (rB 72 (flipI (List.replicate 72 0) 3)).toArray from conB (enters_of Try.func52 (by kernel_rfl) rfl) fun w' => (by rw [rB_raw (n := 72) (xs := List.replicate 72 0) List.length_replicate, rB_raw (n := 72) (xs := flipI (List.replicate 72 0) 3) (show (flipI (List.replicate 72 0) 3).length = 72 by first | rfl | (simp only [List.length_set, List.length_append, List.length_replicate, List.length_cons, List.length_nil, List.length_map, List.length_range, List.length_take, List.length_drop, flipI_length, HRL]; done) | (simp only [List.length_set, List.length_append, List.length_replicate, List.length_cons, List.length_nil, List.length_map, List.length_range, List.length_take, List.length_drop, flipI_length, HRL]; omega))]; exact rflip_any (List.replicate 72 0) List.length_replicate 3 (by omega) (by omega) _)),
  .t (tbT 41 fun _ _ _ => bin_eqT (xs := rB 72 (dRead_0 (wrD (injD (D0 1 0 1 1 2 1) (⟨6, 0, 0, 0, 1, 0, 0, 0⟩ : Fa)) 0 (flipI (List.replicate 72 0) 3)) 1)) (ys := rB 72 (flipI (List.replicate 72 0) 3)) (by kernel_rfl) (eqc_rB (show ((dRead_0 (wrD (injD (D0 1 0 1 1 2 1) (⟨6, 0, 0, 0, 1, 0, 0, 0⟩ : Fa)) 0 (flipI (List.replicate 72 0) 3)) 1)).length = 72 by first | rfl | (simp only [List.length_set, List.length_append, List.length_replicate, List.length_cons, List.length_nil, List.length_map, List.length_range, List.length_take, List.length_drop, flipI_length, HRL]; done) | (simp only [List.length_set, List.length_append, List.length_replicate, List.length_cons, List.length_nil, List.length_map, List.length_range, List.length_take, List.length_drop, flipI_length, HRL]; omega)) (show (flipI (List.replicate 72 0) 3).length = 72 by first | rfl | (simp only [List.length_set, List.length_append, List.length_replicate, List.length_cons, List.length_nil, List.length_map, List.length_range, List.length_take, List.length_drop, flipI_length, HRL]; done) | (simp only [List.length_set, List.length_append, List.length_replicate, List.length_cons, List.length_nil, List.length_map, List.length_range, List.length_take, List.length_drop, flipI_length, HRL]; omega)))),
  .k (.bool ((((((dInject_0 (D0 1 0 1 1 2 1) (⟨6, 0, 0, 0, 1, 0, 0, 0⟩ : Fa)) == 0) && ((dWrite_2 (injD (D0 1 0 1 1 2 1) (⟨6, 0, 0, 0, 1, 0, 0, 0⟩ : Fa)) 0) == 0)) && ((dWrite_0 (injD (D0 1 0 1 1 2 1) (⟨6, 0, 0, 0, 1, 0, 0, 0⟩ : Fa)) 0) == 1 && ((dWrite_1 (injD (D0 1 0 1 1 2 1) (⟨6, 0, 0, 0, 1, 0, 0, 0⟩ : Fa)) 0) == false && true))) && ((dRead_3 (wrD (injD (D0 1 0 1 1 2 1) (⟨6, 0, 0, 0, 1, 0, 0, 0⟩ : Fa)) 0 (flipI (List.replicate 72 0) 3)) 1) == 0)) && (decide ((dRead_0 (wrD (injD (D0 1 0 1 1 2 1) (⟨6, 0, 0, 0, 1, 0, 0, 0⟩ : Fa)) 0 (flipI (List.replicate 72 0) 3)) 1) = flipI (List.replicate 72 0) 3)))),
  .v (.bool ((((((dInject_0 (D0 1 0 1 1 2 1) (⟨6, 0, 0, 0, 1, 0, 0, 0⟩ : Fa)) == 0) && ((dWrite_2 (injD (D0 1 0 1 1 2 1) (⟨6, 0, 0, 0, 1, 0, 0, 0⟩ : Fa)) 0) == 0)) && ((dWrite_0 (injD (D0 1 0 1 1 2 1) (⟨6, 0, 0, 0, 1, 0, 0, 0⟩ : Fa)) 0) == 1 && ((dWrite_1 (injD (D0 1 0 1 1 2 1) (⟨6, 0, 0, 0, 1, 0, 0, 0⟩ : Fa)) 0) == false && true))) && ((dRead_3 (wrD (injD (D0 1 0 1 1 2 1) (⟨6, 0, 0, 0, 1, 0, 0, 0⟩ : Fa)) 0 (flipI (List.replicate 72 0) 3)) 1) == 0)) && (decide ((dRead_0 (wrD (injD (D0 1 0 1 1 2 1) (⟨6, 0, 0, 0, 1, 0, 0, 0⟩ : Fa)) 0 (flipI (List.replicate 72 0) 3)) 1) = flipI (List.replicate 72 0) 3))))]) (fun _ L => L) OW ?_
 clear OW; intro q7 _ Wq7 OW; simp only [↓pc, ↓pn, vE, Hint.val, Act.put, eL]
 gi_wp2
 exact leafE HS HH OW [.t (.bool ((((((dInject_0 (D0 1 0 1 1 2 1) (⟨6, 0, 0, 0, 1, 0, 0, 0⟩ : Fa)) == 0) && ((dWrite_2 (injD (D0 1 0 1 1 2 1) (⟨6, 0, 0, 0, 1, 0, 0, 0⟩ : Fa)) 0) == 0)) && ((dWrite_0 (injD (D0 1 0 1 1 2 1) (⟨6, 0, 0, 0, 1, 0, 0, 0⟩ : Fa)) 0) == 1 && ((dWrite_1 (injD (D0 1 0 1 1 2 1) (⟨6, 0, 0, 0, 1, 0, 0, 0⟩ : Fa)) 0) == false && true))) && ((dRead_3 (wrD (injD (D0 1 0 1 1 2 1) (⟨6, 0, 0, 0, 1, 0, 0, 0⟩ : Fa)) 0 (flipI (List.replicate 72 0) 3)) 1) == 0)) && (decide ((dRead_0 (wrD (injD (D0 1 0 1 1 2 1) (⟨6, 0, 0, 0, 1, 0, 0, 0⟩ : Fa)) 0 (flipI (List.replicate 72 0) 3)) 1) = flipI (List.replicate 72 0) 3))))] Env.zero [] [] (by kernel_rfl)
end Go.Proofs.Ytckhkagkpldoiaa.E
