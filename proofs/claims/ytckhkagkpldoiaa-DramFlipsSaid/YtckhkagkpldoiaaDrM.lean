/- DramFlips, walked. -/
import Derived.Test.YtckhkagkpldoiaaDrH
import Derived.WalkKit
import Derived.Sort.CutIn
import Derived.IntWalk
namespace Go.Proofs.Ytckhkagkpldoiaa.E
open Go Go.RowKit Go.Shelf
attribute [local go_sem] Oper.semAt_some
set_option linter.unusedVariables false
set_option linter.unusedSimpArgs false

attribute [local irreducible] fapply ovF gat_0 gat_1 gat_2 gat_3 gat_4 gindex_0 gindex_1 dadd_0 dadd_1 fright flipI flasts flies fnarrow fcovers dInject_0 injD wrD rdD dWrite_0 dWrite_1 dWrite_2 dRead_0 dRead_1 dRead_2 dRead_3 D0 forceI expo dLook_0 dLook_1
def dflips_0 (r : Int) (s : Int) (n : Int) (m : Int) (c : Int) (mode : Int) (u0 : Int) (u1 : Int) (u2 : Int) (u3 : Int) (b : Int) (v : Int) (xs : List UInt8) : Bool := (bif (((((gindex_1 r s n m c u0 u1 u2 u3) != 0) || (decide (b < 0))) || (decide (575 < b))) || (decide (v < 0))) || (decide (1 < v)) then true else ((((((expo 1 (dLook_0 (injD (wrD (D0 r s n m c mode) (gindex_0 r s n m c u0 u1 u2 u3) xs) (⟨1, u0, u1, u2, u3, 0, b, 0⟩ : Fa)) (gindex_0 r s n m c u0 u1 u2 u3)) xs : Nat) : Int) == 1) && (decide ((dLook_0 (injD (injD (wrD (D0 r s n m c mode) (gindex_0 r s n m c u0 u1 u2 u3) xs) (⟨1, u0, u1, u2, u3, 0, b, 0⟩ : Fa)) (⟨1, u0, u1, u2, u3, 0, b, 0⟩ : Fa)) (gindex_0 r s n m c u0 u1 u2 u3)) = xs))) && (decide ((dLook_0 (wrD (injD (injD (injD (wrD (D0 r s n m c mode) (gindex_0 r s n m c u0 u1 u2 u3) xs) (⟨1, u0, u1, u2, u3, 0, b, 0⟩ : Fa)) (⟨1, u0, u1, u2, u3, 0, b, 0⟩ : Fa)) (⟨1, u0, u1, u2, u3, 0, b, 0⟩ : Fa)) (gindex_0 r s n m c u0 u1 u2 u3) xs) (gindex_0 r s n m c u0 u1 u2 u3)) = xs))) && ((dInject_0 (wrD (injD (injD (injD (wrD (D0 r s n m c mode) (gindex_0 r s n m c u0 u1 u2 u3) xs) (⟨1, u0, u1, u2, u3, 0, b, 0⟩ : Fa)) (⟨1, u0, u1, u2, u3, 0, b, 0⟩ : Fa)) (⟨1, u0, u1, u2, u3, 0, b, 0⟩ : Fa)) (gindex_0 r s n m c u0 u1 u2 u3) xs) (⟨2, u0, u1, u2, u3, 0, b, v⟩ : Fa)) == 0)) && (decide ((dLook_0 (wrD (injD (wrD (injD (injD (injD (wrD (D0 r s n m c mode) (gindex_0 r s n m c u0 u1 u2 u3) xs) (⟨1, u0, u1, u2, u3, 0, b, 0⟩ : Fa)) (⟨1, u0, u1, u2, u3, 0, b, 0⟩ : Fa)) (⟨1, u0, u1, u2, u3, 0, b, 0⟩ : Fa)) (gindex_0 r s n m c u0 u1 u2 u3) xs) (⟨2, u0, u1, u2, u3, 0, b, v⟩ : Fa)) (gindex_0 r s n m c u0 u1 u2 u3) xs) (gindex_0 r s n m c u0 u1 u2 u3)) = forceI xs b v)))
set_option maxRecDepth 100000 in
set_option maxHeartbeats 1000000 in
theorem dflips (r s n m c mode : Int) (u0 u1 u2 u3 b v : Int) (xs : List UInt8) (lx : xs.length = 72) (b0 : -9223372036854775808 ≤ b) (b1 : b ≤ 9223372036854775807) (c0 : -9223372036854775808 ≤ v) (c1 : v ≤ 9223372036854775807) (hg : gright r s n m c = true) (hm : rightB mode = true) : Con Try.prog 9 #[.agg #[.int .i64 r, .int .i64 s, .int .i64 n, .int .i64 m, .int .i64 c], .int .i64 mode, .agg #[.int .i64 u0, .int .i64 u1, .int .i64 u2, .int .i64 u3], .int .i64 b, .int .i64 v, .agg (rB 72 xs).toArray] [] [] (fun _ => []) (fun _ => .bool (dflips_0 r s n m c mode u0 u1 u2 u3 b v xs)) := by
 refine Con.of (enters_of Try.func9 (by kernel_rfl) rfl) fun w cs HS HH OW => ?_
 have HF : FaOk (⟨1, u0, u1, u2, u3, 0, b, 0⟩ : Fa) := ⟨b0, b1⟩
 have HS2 : FaOk (⟨2, u0, u1, u2, u3, 0, b, v⟩ : Fa) := ⟨b0, b1⟩
 have H0 := D0_ok r s n m c mode
 have H1 := fun i => wrD_ok H0 i lx
 have H2 := fun i => injD_ok (H1 i) HF
 have H3 := fun i => injD_ok (H2 i) HF
 have H4 := fun i => injD_ok (H3 i) HF
 have H5 := fun i => wrD_ok (H4 i) i lx
 have H6 := fun i => injD_ok (H5 i) HS2
 have H7 := fun i => wrD_ok (H6 i) i lx
 have HL2 := fun i => dLook_len (H2 i) i
 have HL3 := fun i => dLook_len (H3 i) i
 have HL5 := fun i => dLook_len (H5 i) i
 have HL7 := fun i => dLook_len (H7 i) i
 refine (callsIn_wide (n := 6)).1 ?_
 refine callsIn_of_wp_marks Try.func9 rfl trivial ?_ rfl
 simp only [Try.ntmps9, eF, Nat.reduceAdd, Nat.reduceSub]
 gi_upto_region 0 with fail
 refine rg (fun q1 => [.m (bx 0),
  .m (bx 1),
  .m (bx 2),
  .v (.bool false)]) (fun q1 L => L ++ [ob ((q1 0).blk 0) #[.int .i64 r, .int .i64 s, .int .i64 n, .int .i64 m, .int .i64 c] 27, ob ((q1 1).blk 0) #[.int .i64 u0, .int .i64 u1, .int .i64 u2, .int .i64 u3] 23, ob ((q1 2).blk 0) (rB 72 xs).toArray 41]) OW ?_
 clear OW; intro q1 _ Wq1 OW; simp only [↓pc, ↓pn, vE, Hint.val, Act.put, eL]
 gi_upto_region 1 with fail
 refine rg (fun q2 => [.c [] [] (danchor),
  .v (.bool false)]) (fun _ L => L) OW ?_
 clear OW; intro q2 _ Wq2 OW; simp only [↓pc, ↓pn, vE, Hint.val, Act.put, eL]
 gi_upto_region 3 with fail
 refine rg (fun q3 => [.m (ls 0 ([.int .i64 r, .int .i64 s, .int .i64 n, .int .i64 m, .int .i64 c])),
  .v (.int .i64 mode),
  .c [] [3] (dNew r s n m c mode hg hm),
  .v (.tuple #[.pointer (some ⟨((q3 2).blk 0), 0, none⟩), .int .i64 0]),
  .v (.pointer (some ⟨((q3 2).blk 0), 0, none⟩)),
  .v (.int .i64 0),
  .v (.pointer (some ⟨((q3 2).blk 0), 0, none⟩)),
  .v (.int .i64 0)]) (fun q3 L => L ++ [.p (PkE (DramS (((q3 2).blk 0)) (D0 r s n m c mode)))]) OW ?_
 clear OW; intro q3 _ Wq3 OW; simp only [↓pc, ↓pn, vE, Hint.val, Act.put, eL]
 gi_upto_region 4 with fail
 refine rg (fun q4 => [.v (.int .i64 0),
  .v (.bool false),
  .v (.bool false),
  .v (.pointer (some ⟨((q3 2).blk 0), 0, none⟩)),
  .v (.bool false),
  .k (.bool false)]) (fun _ L => L) OW ?_
 clear OW; intro q4 _ Wq4 OW; simp only [↓pc, ↓pn, vE, Hint.val, Act.put, eL]
 gi_upto_region 6 with fail
 refine rg (fun q5 => [.m (ls 0 ([.int .i64 r, .int .i64 s, .int .i64 n, .int .i64 m, .int .i64 c])),
  .m (ls 1 ([.int .i64 u0, .int .i64 u1, .int .i64 u2, .int .i64 u3])),
  .c [] [] (gindex r s n m c u0 u1 u2 u3),
  .v (.tuple #[.int .i64 (gindex_0 r s n m c u0 u1 u2 u3), .int .i64 (gindex_1 r s n m c u0 u1 u2 u3)]),
  .v (.int .i64 (gindex_0 r s n m c u0 u1 u2 u3)),
  .v (.int .i64 (gindex_1 r s n m c u0 u1 u2 u3)),
  .v (.int .i64 (gindex_0 r s n m c u0 u1 u2 u3)),
  .v (.int .i64 (gindex_1 r s n m c u0 u1 u2 u3))]) (fun _ L => L) OW ?_
 clear OW; intro q5 _ Wq5 OW; simp only [↓pc, ↓pn, vE, Hint.val, Act.put, eL]
 gi_upto_region 7 with fail
 refine rg (fun q6 => [.v (.int .i64 (gindex_1 r s n m c u0 u1 u2 u3)),
  .v (.bool ((gindex_1 r s n m c u0 u1 u2 u3) != 0)),
  .v (.bool ((gindex_1 r s n m c u0 u1 u2 u3) != 0)),
  .v (.int .i64 b),
  .v (.bool (decide (b < 0))),
  .k (.bool (((gindex_1 r s n m c u0 u1 u2 u3) != 0) || (decide (b < 0)))),
  .v (.bool (((gindex_1 r s n m c u0 u1 u2 u3) != 0) || (decide (b < 0)))),
  .v (.int .i64 b),
  .v (.bool (decide (575 < b))),
  .k (.bool ((((gindex_1 r s n m c u0 u1 u2 u3) != 0) || (decide (b < 0))) || (decide (575 < b)))),
  .v (.bool ((((gindex_1 r s n m c u0 u1 u2 u3) != 0) || (decide (b < 0))) || (decide (575 < b)))),
  .v (.int .i64 v),
  .v (.bool (decide (v < 0))),
  .k (.bool (((((gindex_1 r s n m c u0 u1 u2 u3) != 0) || (decide (b < 0))) || (decide (575 < b))) || (decide (v < 0)))),
  .v (.bool (((((gindex_1 r s n m c u0 u1 u2 u3) != 0) || (decide (b < 0))) || (decide (575 < b))) || (decide (v < 0)))),
  .v (.int .i64 v),
  .v (.bool (decide (1 < v))),
  .k (.bool ((((((gindex_1 r s n m c u0 u1 u2 u3) != 0) || (decide (b < 0))) || (decide (575 < b))) || (decide (v < 0))) || (decide (1 < v))))]) (fun _ L => L) OW ?_
 clear OW; intro q6 _ Wq6 OW; simp only [↓pc, ↓pn, vE, Hint.val, Act.put, eL]
 cases hB7 : ((((((gindex_1 r s n m c u0 u1 u2 u3) != 0) || (decide (b < 0))) || (decide (575 < b))) || (decide (v < 0))) || (decide (1 < v)))
 case true =>
  gi_upto_region 8 with fail
  refine rg (fun q8 => [.v (.bool true)]) (fun _ L => L) OW ?_
  clear OW; intro q8 _ Wq8 OW; simp only [↓pc, ↓pn, vE, Hint.val, Act.put, eL]
  gi_wp2
  exact leafE HS HH OW [.t (.bool true)] Env.zero [] [] (by (try simp only [dflips_0]); (repeat (first | rw [hB7] | rw [cond_true] | rw [cond_false])); first | rfl | kernel_rfl) (by kernel_rfl) (by (try simp only [dflips_0]); (repeat (first | rw [hB7] | rw [cond_true] | rw [cond_false])); kernel_rfl)
 gi_upto_region 9 with fail
 refine rg (fun q9 => [.m (ls 1 ([.int .i64 u0, .int .i64 u1, .int .i64 u2, .int .i64 u3])),
  .v (.int .i64 b),
  .v (.agg #[.int .i64 1, .int .i64 u0, .int .i64 u1, .int .i64 u2, .int .i64 u3, .int .i64 0, .int .i64 b, .int .i64 0]),
  .m (al 4),
  .m (ss 4)]) (fun q9 L => L ++ [ob ((q9 3).blk 0) #[.int .i64 1, .int .i64 u0, .int .i64 u1, .int .i64 u2, .int .i64 u3, .int .i64 0, .int .i64 b, .int .i64 0] 25]) OW ?_
 clear OW; intro q9 _ Wq9 OW; simp only [↓pc, ↓pn, vE, Hint.val, Act.put, eL]
 gi_upto_region 10 with fail
 refine rg (fun q10 => [.v (.pointer (some ⟨((q3 2).blk 0), 0, none⟩)),
  .v (.int .i64 (gindex_0 r s n m c u0 u1 u2 u3)),
  .m (ls 2 (rB 72 xs)),
  .c [3] [3] (dWrite ((q3 2).blk 0) (D0 r s n m c mode) (gindex_0 r s n m c u0 u1 u2 u3) xs (by first | rfl | (simp only [List.length_set, List.length_append, List.length_replicate, List.length_cons, List.length_nil, List.length_map, List.length_range, List.length_take, List.length_drop, HL2, HL3, HL5, HL7, forceI_len, lx]; done) | (simp only [List.length_set, List.length_append, List.length_replicate, List.length_cons, List.length_nil, List.length_map, List.length_range, List.length_take, List.length_drop, HL2, HL3, HL5, HL7, forceI_len, lx]; omega)) (by first | exact H0 | exact H4 _ | exact H6 _))]) (fun q10 L => L.set 3 (.p (PkE (DramS ((q3 2).blk 0) (wrD (D0 r s n m c mode) (gindex_0 r s n m c u0 u1 u2 u3) xs))))) OW ?_
 clear OW; intro q10 _ Wq10 OW; simp only [↓pc, ↓pn, vE, Hint.val, Act.put, eL]
 gi_upto_region 11 with fail
 refine rg (fun q11 => [.v (.pointer (some ⟨((q3 2).blk 0), 0, none⟩)),
  .m (ls 4 ([.int .i64 1, .int .i64 u0, .int .i64 u1, .int .i64 u2, .int .i64 u3, .int .i64 0, .int .i64 b, .int .i64 0])),
  .c [3] [3] (dInject ((q3 2).blk 0) (wrD (D0 r s n m c mode) (gindex_0 r s n m c u0 u1 u2 u3) xs) (⟨1, u0, u1, u2, u3, 0, b, 0⟩ : Fa) (by first | exact H1 _ | exact H2 _ | exact H3 _ | exact H5 _) (by first | exact HF | exact HS2))]) (fun q11 L => L.set 3 (.p (PkE (DramS ((q3 2).blk 0) (injD (wrD (D0 r s n m c mode) (gindex_0 r s n m c u0 u1 u2 u3) xs) (⟨1, u0, u1, u2, u3, 0, b, 0⟩ : Fa)))))) OW ?_
 clear OW; intro q11 _ Wq11 OW; simp only [↓pc, ↓pn, vE, Hint.val, Act.put, eL]
 gi_upto_region 12 with fail
 refine rg (fun q12 => [.v (.pointer (some ⟨((q3 2).blk 0), 0, none⟩)),
  .v (.int .i64 (gindex_0 r s n m c u0 u1 u2 u3)),
  .c [3] [] (dLook ((q3 2).blk 0) (injD (wrD (D0 r s n m c mode) (gindex_0 r s n m c u0 u1 u2 u3) xs) (⟨1, u0, u1, u2, u3, 0, b, 0⟩ : Fa)) (gindex_0 r s n m c u0 u1 u2 u3) (by first | exact H2 _ | exact H3 _ | exact H5 _ | exact H7 _)),
  .v (.tuple #[.agg (rB 72 (dLook_0 (injD (wrD (D0 r s n m c mode) (gindex_0 r s n m c u0 u1 u2 u3) xs) (⟨1, u0, u1, u2, u3, 0, b, 0⟩ : Fa)) (gindex_0 r s n m c u0 u1 u2 u3))).toArray, .int .i64 (dLook_1 (injD (wrD (D0 r s n m c mode) (gindex_0 r s n m c u0 u1 u2 u3) xs) (⟨1, u0, u1, u2, u3, 0, b, 0⟩ : Fa)) (gindex_0 r s n m c u0 u1 u2 u3))]),
  .v (.agg (rB 72 (dLook_0 (injD (wrD (D0 r s n m c mode) (gindex_0 r s n m c u0 u1 u2 u3) xs) (⟨1, u0, u1, u2, u3, 0, b, 0⟩ : Fa)) (gindex_0 r s n m c u0 u1 u2 u3))).toArray),
  .v (.int .i64 (dLook_1 (injD (wrD (D0 r s n m c mode) (gindex_0 r s n m c u0 u1 u2 u3) xs) (⟨1, u0, u1, u2, u3, 0, b, 0⟩ : Fa)) (gindex_0 r s n m c u0 u1 u2 u3))),
  .m (al 5),
  .m (ss 5),
  .v (.int .i64 (dLook_1 (injD (wrD (D0 r s n m c mode) (gindex_0 r s n m c u0 u1 u2 u3) xs) (⟨1, u0, u1, u2, u3, 0, b, 0⟩ : Fa)) (gindex_0 r s n m c u0 u1 u2 u3)))]) (fun q12 L => L ++ [ob ((q12 6).blk 0) (rB 72 (dLook_0 (injD (wrD (D0 r s n m c mode) (gindex_0 r s n m c u0 u1 u2 u3) xs) (⟨1, u0, u1, u2, u3, 0, b, 0⟩ : Fa)) (gindex_0 r s n m c u0 u1 u2 u3))).toArray 41]) OW ?_
 clear OW; intro q12 _ Wq12 OW; simp only [↓pc, ↓pn, vE, Hint.val, Act.put, eL]
 gi_upto_region 13 with fail
 refine rg (fun q13 => [.v (.pointer (some ⟨((q3 2).blk 0), 0, none⟩)),
  .m (ls 4 ([.int .i64 1, .int .i64 u0, .int .i64 u1, .int .i64 u2, .int .i64 u3, .int .i64 0, .int .i64 b, .int .i64 0])),
  .c [3] [3] (dInject ((q3 2).blk 0) (injD (wrD (D0 r s n m c mode) (gindex_0 r s n m c u0 u1 u2 u3) xs) (⟨1, u0, u1, u2, u3, 0, b, 0⟩ : Fa)) (⟨1, u0, u1, u2, u3, 0, b, 0⟩ : Fa) (by first | exact H1 _ | exact H2 _ | exact H3 _ | exact H5 _) (by first | exact HF | exact HS2))]) (fun q13 L => L.set 3 (.p (PkE (DramS ((q3 2).blk 0) (injD (injD (wrD (D0 r s n m c mode) (gindex_0 r s n m c u0 u1 u2 u3) xs) (⟨1, u0, u1, u2, u3, 0, b, 0⟩ : Fa)) (⟨1, u0, u1, u2, u3, 0, b, 0⟩ : Fa)))))) OW ?_
 clear OW; intro q13 _ Wq13 OW; simp only [↓pc, ↓pn, vE, Hint.val, Act.put, eL]
 gi_upto_region 14 with fail
 refine rg (fun q14 => [.v (.pointer (some ⟨((q3 2).blk 0), 0, none⟩)),
  .v (.int .i64 (gindex_0 r s n m c u0 u1 u2 u3)),
  .c [3] [] (dLook ((q3 2).blk 0) (injD (injD (wrD (D0 r s n m c mode) (gindex_0 r s n m c u0 u1 u2 u3) xs) (⟨1, u0, u1, u2, u3, 0, b, 0⟩ : Fa)) (⟨1, u0, u1, u2, u3, 0, b, 0⟩ : Fa)) (gindex_0 r s n m c u0 u1 u2 u3) (by first | exact H2 _ | exact H3 _ | exact H5 _ | exact H7 _)),
  .v (.tuple #[.agg (rB 72 (dLook_0 (injD (injD (wrD (D0 r s n m c mode) (gindex_0 r s n m c u0 u1 u2 u3) xs) (⟨1, u0, u1, u2, u3, 0, b, 0⟩ : Fa)) (⟨1, u0, u1, u2, u3, 0, b, 0⟩ : Fa)) (gindex_0 r s n m c u0 u1 u2 u3))).toArray, .int .i64 (dLook_1 (injD (injD (wrD (D0 r s n m c mode) (gindex_0 r s n m c u0 u1 u2 u3) xs) (⟨1, u0, u1, u2, u3, 0, b, 0⟩ : Fa)) (⟨1, u0, u1, u2, u3, 0, b, 0⟩ : Fa)) (gindex_0 r s n m c u0 u1 u2 u3))]),
  .v (.agg (rB 72 (dLook_0 (injD (injD (wrD (D0 r s n m c mode) (gindex_0 r s n m c u0 u1 u2 u3) xs) (⟨1, u0, u1, u2, u3, 0, b, 0⟩ : Fa)) (⟨1, u0, u1, u2, u3, 0, b, 0⟩ : Fa)) (gindex_0 r s n m c u0 u1 u2 u3))).toArray),
  .v (.int .i64 (dLook_1 (injD (injD (wrD (D0 r s n m c mode) (gindex_0 r s n m c u0 u1 u2 u3) xs) (⟨1, u0, u1, u2, u3, 0, b, 0⟩ : Fa)) (⟨1, u0, u1, u2, u3, 0, b, 0⟩ : Fa)) (gindex_0 r s n m c u0 u1 u2 u3))),
  .m (al 6),
  .m (ss 6),
  .v (.int .i64 (dLook_1 (injD (injD (wrD (D0 r s n m c mode) (gindex_0 r s n m c u0 u1 u2 u3) xs) (⟨1, u0, u1, u2, u3, 0, b, 0⟩ : Fa)) (⟨1, u0, u1, u2, u3, 0, b, 0⟩ : Fa)) (gindex_0 r s n m c u0 u1 u2 u3)))]) (fun q14 L => L ++ [ob ((q14 6).blk 0) (rB 72 (dLook_0 (injD (injD (wrD (D0 r s n m c mode) (gindex_0 r s n m c u0 u1 u2 u3) xs) (⟨1, u0, u1, u2, u3, 0, b, 0⟩ : Fa)) (⟨1, u0, u1, u2, u3, 0, b, 0⟩ : Fa)) (gindex_0 r s n m c u0 u1 u2 u3))).toArray 41]) OW ?_
 clear OW; intro q14 _ Wq14 OW; simp only [↓pc, ↓pn, vE, Hint.val, Act.put, eL]
 gi_upto_region 15 with fail
 refine rg (fun q15 => [.v (.pointer (some ⟨((q3 2).blk 0), 0, none⟩)),
  .m (ls 4 ([.int .i64 1, .int .i64 u0, .int .i64 u1, .int .i64 u2, .int .i64 u3, .int .i64 0, .int .i64 b, .int .i64 0])),
  .c [3] [3] (dInject ((q3 2).blk 0) (injD (injD (wrD (D0 r s n m c mode) (gindex_0 r s n m c u0 u1 u2 u3) xs) (⟨1, u0, u1, u2, u3, 0, b, 0⟩ : Fa)) (⟨1, u0, u1, u2, u3, 0, b, 0⟩ : Fa)) (⟨1, u0, u1, u2, u3, 0, b, 0⟩ : Fa) (by first | exact H1 _ | exact H2 _ | exact H3 _ | exact H5 _) (by first | exact HF | exact HS2))]) (fun q15 L => L.set 3 (.p (PkE (DramS ((q3 2).blk 0) (injD (injD (injD (wrD (D0 r s n m c mode) (gindex_0 r s n m c u0 u1 u2 u3) xs) (⟨1, u0, u1, u2, u3, 0, b, 0⟩ : Fa)) (⟨1, u0, u1, u2, u3, 0, b, 0⟩ : Fa)) (⟨1, u0, u1, u2, u3, 0, b, 0⟩ : Fa)))))) OW ?_
 clear OW; intro q15 _ Wq15 OW; simp only [↓pc, ↓pn, vE, Hint.val, Act.put, eL]
 gi_upto_region 16 with fail
 refine rg (fun q16 => [.v (.pointer (some ⟨((q3 2).blk 0), 0, none⟩)),
  .v (.int .i64 (gindex_0 r s n m c u0 u1 u2 u3)),
  .m (ls 2 (rB 72 xs)),
  .c [3] [3] (dWrite ((q3 2).blk 0) (injD (injD (injD (wrD (D0 r s n m c mode) (gindex_0 r s n m c u0 u1 u2 u3) xs) (⟨1, u0, u1, u2, u3, 0, b, 0⟩ : Fa)) (⟨1, u0, u1, u2, u3, 0, b, 0⟩ : Fa)) (⟨1, u0, u1, u2, u3, 0, b, 0⟩ : Fa)) (gindex_0 r s n m c u0 u1 u2 u3) xs (by first | rfl | (simp only [List.length_set, List.length_append, List.length_replicate, List.length_cons, List.length_nil, List.length_map, List.length_range, List.length_take, List.length_drop, HL2, HL3, HL5, HL7, forceI_len, lx]; done) | (simp only [List.length_set, List.length_append, List.length_replicate, List.length_cons, List.length_nil, List.length_map, List.length_range, List.length_take, List.length_drop, HL2, HL3, HL5, HL7, forceI_len, lx]; omega)) (by first | exact H0 | exact H4 _ | exact H6 _))]) (fun q16 L => L.set 3 (.p (PkE (DramS ((q3 2).blk 0) (wrD (injD (injD (injD (wrD (D0 r s n m c mode) (gindex_0 r s n m c u0 u1 u2 u3) xs) (⟨1, u0, u1, u2, u3, 0, b, 0⟩ : Fa)) (⟨1, u0, u1, u2, u3, 0, b, 0⟩ : Fa)) (⟨1, u0, u1, u2, u3, 0, b, 0⟩ : Fa)) (gindex_0 r s n m c u0 u1 u2 u3) xs))))) OW ?_
 clear OW; intro q16 _ Wq16 OW; simp only [↓pc, ↓pn, vE, Hint.val, Act.put, eL]
 gi_upto_region 17 with fail
 refine rg (fun q17 => [.v (.pointer (some ⟨((q3 2).blk 0), 0, none⟩)),
  .v (.int .i64 (gindex_0 r s n m c u0 u1 u2 u3)),
  .c [3] [] (dLook ((q3 2).blk 0) (wrD (injD (injD (injD (wrD (D0 r s n m c mode) (gindex_0 r s n m c u0 u1 u2 u3) xs) (⟨1, u0, u1, u2, u3, 0, b, 0⟩ : Fa)) (⟨1, u0, u1, u2, u3, 0, b, 0⟩ : Fa)) (⟨1, u0, u1, u2, u3, 0, b, 0⟩ : Fa)) (gindex_0 r s n m c u0 u1 u2 u3) xs) (gindex_0 r s n m c u0 u1 u2 u3) (by first | exact H2 _ | exact H3 _ | exact H5 _ | exact H7 _)),
  .v (.tuple #[.agg (rB 72 (dLook_0 (wrD (injD (injD (injD (wrD (D0 r s n m c mode) (gindex_0 r s n m c u0 u1 u2 u3) xs) (⟨1, u0, u1, u2, u3, 0, b, 0⟩ : Fa)) (⟨1, u0, u1, u2, u3, 0, b, 0⟩ : Fa)) (⟨1, u0, u1, u2, u3, 0, b, 0⟩ : Fa)) (gindex_0 r s n m c u0 u1 u2 u3) xs) (gindex_0 r s n m c u0 u1 u2 u3))).toArray, .int .i64 (dLook_1 (wrD (injD (injD (injD (wrD (D0 r s n m c mode) (gindex_0 r s n m c u0 u1 u2 u3) xs) (⟨1, u0, u1, u2, u3, 0, b, 0⟩ : Fa)) (⟨1, u0, u1, u2, u3, 0, b, 0⟩ : Fa)) (⟨1, u0, u1, u2, u3, 0, b, 0⟩ : Fa)) (gindex_0 r s n m c u0 u1 u2 u3) xs) (gindex_0 r s n m c u0 u1 u2 u3))]),
  .v (.agg (rB 72 (dLook_0 (wrD (injD (injD (injD (wrD (D0 r s n m c mode) (gindex_0 r s n m c u0 u1 u2 u3) xs) (⟨1, u0, u1, u2, u3, 0, b, 0⟩ : Fa)) (⟨1, u0, u1, u2, u3, 0, b, 0⟩ : Fa)) (⟨1, u0, u1, u2, u3, 0, b, 0⟩ : Fa)) (gindex_0 r s n m c u0 u1 u2 u3) xs) (gindex_0 r s n m c u0 u1 u2 u3))).toArray),
  .v (.int .i64 (dLook_1 (wrD (injD (injD (injD (wrD (D0 r s n m c mode) (gindex_0 r s n m c u0 u1 u2 u3) xs) (⟨1, u0, u1, u2, u3, 0, b, 0⟩ : Fa)) (⟨1, u0, u1, u2, u3, 0, b, 0⟩ : Fa)) (⟨1, u0, u1, u2, u3, 0, b, 0⟩ : Fa)) (gindex_0 r s n m c u0 u1 u2 u3) xs) (gindex_0 r s n m c u0 u1 u2 u3))),
  .m (al 7),
  .m (ss 7),
  .v (.int .i64 (dLook_1 (wrD (injD (injD (injD (wrD (D0 r s n m c mode) (gindex_0 r s n m c u0 u1 u2 u3) xs) (⟨1, u0, u1, u2, u3, 0, b, 0⟩ : Fa)) (⟨1, u0, u1, u2, u3, 0, b, 0⟩ : Fa)) (⟨1, u0, u1, u2, u3, 0, b, 0⟩ : Fa)) (gindex_0 r s n m c u0 u1 u2 u3) xs) (gindex_0 r s n m c u0 u1 u2 u3)))]) (fun q17 L => L ++ [ob ((q17 6).blk 0) (rB 72 (dLook_0 (wrD (injD (injD (injD (wrD (D0 r s n m c mode) (gindex_0 r s n m c u0 u1 u2 u3) xs) (⟨1, u0, u1, u2, u3, 0, b, 0⟩ : Fa)) (⟨1, u0, u1, u2, u3, 0, b, 0⟩ : Fa)) (⟨1, u0, u1, u2, u3, 0, b, 0⟩ : Fa)) (gindex_0 r s n m c u0 u1 u2 u3) xs) (gindex_0 r s n m c u0 u1 u2 u3))).toArray 41]) OW ?_
 clear OW; intro q17 _ Wq17 OW; simp only [↓pc, ↓pn, vE, Hint.val, Act.put, eL]
 gi_upto_region 18 with fail
 refine rg (fun q18 => [.v (.pointer (some ⟨((q3 2).blk 0), 0, none⟩)),
  .m (ls 1 ([.int .i64 u0, .int .i64 u1, .int .i64 u2, .int .i64 u3])),
  .v (.int .i64 b),
  .v (.int .i64 v),
  .v (.agg #[.int .i64 2, .int .i64 u0, .int .i64 u1, .int .i64 u2, .int .i64 u3, .int .i64 0, .int .i64 b, .int .i64 v]),
  .c [3] [3] (dInject ((q3 2).blk 0) (wrD (injD (injD (injD (wrD (D0 r s n m c mode) (gindex_0 r s n m c u0 u1 u2 u3) xs) (⟨1, u0, u1, u2, u3, 0, b, 0⟩ : Fa)) (⟨1, u0, u1, u2, u3, 0, b, 0⟩ : Fa)) (⟨1, u0, u1, u2, u3, 0, b, 0⟩ : Fa)) (gindex_0 r s n m c u0 u1 u2 u3) xs) (⟨2, u0, u1, u2, u3, 0, b, v⟩ : Fa) (by first | exact H1 _ | exact H2 _ | exact H3 _ | exact H5 _) (by first | exact HF | exact HS2)),
  .v (.int .i64 (dInject_0 (wrD (injD (injD (injD (wrD (D0 r s n m c mode) (gindex_0 r s n m c u0 u1 u2 u3) xs) (⟨1, u0, u1, u2, u3, 0, b, 0⟩ : Fa)) (⟨1, u0, u1, u2, u3, 0, b, 0⟩ : Fa)) (⟨1, u0, u1, u2, u3, 0, b, 0⟩ : Fa)) (gindex_0 r s n m c u0 u1 u2 u3) xs) (⟨2, u0, u1, u2, u3, 0, b, v⟩ : Fa)))]) (fun q18 L => L.set 3 (.p (PkE (DramS ((q3 2).blk 0) (injD (wrD (injD (injD (injD (wrD (D0 r s n m c mode) (gindex_0 r s n m c u0 u1 u2 u3) xs) (⟨1, u0, u1, u2, u3, 0, b, 0⟩ : Fa)) (⟨1, u0, u1, u2, u3, 0, b, 0⟩ : Fa)) (⟨1, u0, u1, u2, u3, 0, b, 0⟩ : Fa)) (gindex_0 r s n m c u0 u1 u2 u3) xs) (⟨2, u0, u1, u2, u3, 0, b, v⟩ : Fa)))))) OW ?_
 clear OW; intro q18 _ Wq18 OW; simp only [↓pc, ↓pn, vE, Hint.val, Act.put, eL]
 gi_upto_region 19 with fail
 refine rg (fun q19 => [.v (.pointer (some ⟨((q3 2).blk 0), 0, none⟩)),
  .v (.int .i64 (gindex_0 r s n m c u0 u1 u2 u3)),
  .m (ls 2 (rB 72 xs)),
  .c [3] [3] (dWrite ((q3 2).blk 0) (injD (wrD (injD (injD (injD (wrD (D0 r s n m c mode) (gindex_0 r s n m c u0 u1 u2 u3) xs) (⟨1, u0, u1, u2, u3, 0, b, 0⟩ : Fa)) (⟨1, u0, u1, u2, u3, 0, b, 0⟩ : Fa)) (⟨1, u0, u1, u2, u3, 0, b, 0⟩ : Fa)) (gindex_0 r s n m c u0 u1 u2 u3) xs) (⟨2, u0, u1, u2, u3, 0, b, v⟩ : Fa)) (gindex_0 r s n m c u0 u1 u2 u3) xs (by first | rfl | (simp only [List.length_set, List.length_append, List.length_replicate, List.length_cons, List.length_nil, List.length_map, List.length_range, List.length_take, List.length_drop, HL2, HL3, HL5, HL7, forceI_len, lx]; done) | (simp only [List.length_set, List.length_append, List.length_replicate, List.length_cons, List.length_nil, List.length_map, List.length_range, List.length_take, List.length_drop, HL2, HL3, HL5, HL7, forceI_len, lx]; omega)) (by first | exact H0 | exact H4 _ | exact H6 _))]) (fun q19 L => L.set 3 (.p (PkE (DramS ((q3 2).blk 0) (wrD (injD (wrD (injD (injD (injD (wrD (D0 r s n m c mode) (gindex_0 r s n m c u0 u1 u2 u3) xs) (⟨1, u0, u1, u2, u3, 0, b, 0⟩ : Fa)) (⟨1, u0, u1, u2, u3, 0, b, 0⟩ : Fa)) (⟨1, u0, u1, u2, u3, 0, b, 0⟩ : Fa)) (gindex_0 r s n m c u0 u1 u2 u3) xs) (⟨2, u0, u1, u2, u3, 0, b, v⟩ : Fa)) (gindex_0 r s n m c u0 u1 u2 u3) xs))))) OW ?_
 clear OW; intro q19 _ Wq19 OW; simp only [↓pc, ↓pn, vE, Hint.val, Act.put, eL]
 gi_upto_region 20 with fail
 refine rg (fun q20 => [.v (.pointer (some ⟨((q3 2).blk 0), 0, none⟩)),
  .v (.int .i64 (gindex_0 r s n m c u0 u1 u2 u3)),
  .c [3] [] (dLook ((q3 2).blk 0) (wrD (injD (wrD (injD (injD (injD (wrD (D0 r s n m c mode) (gindex_0 r s n m c u0 u1 u2 u3) xs) (⟨1, u0, u1, u2, u3, 0, b, 0⟩ : Fa)) (⟨1, u0, u1, u2, u3, 0, b, 0⟩ : Fa)) (⟨1, u0, u1, u2, u3, 0, b, 0⟩ : Fa)) (gindex_0 r s n m c u0 u1 u2 u3) xs) (⟨2, u0, u1, u2, u3, 0, b, v⟩ : Fa)) (gindex_0 r s n m c u0 u1 u2 u3) xs) (gindex_0 r s n m c u0 u1 u2 u3) (by first | exact H2 _ | exact H3 _ | exact H5 _ | exact H7 _)),
  .v (.tuple #[.agg (rB 72 (dLook_0 (wrD (injD (wrD (injD (injD (injD (wrD (D0 r s n m c mode) (gindex_0 r s n m c u0 u1 u2 u3) xs) (⟨1, u0, u1, u2, u3, 0, b, 0⟩ : Fa)) (⟨1, u0, u1, u2, u3, 0, b, 0⟩ : Fa)) (⟨1, u0, u1, u2, u3, 0, b, 0⟩ : Fa)) (gindex_0 r s n m c u0 u1 u2 u3) xs) (⟨2, u0, u1, u2, u3, 0, b, v⟩ : Fa)) (gindex_0 r s n m c u0 u1 u2 u3) xs) (gindex_0 r s n m c u0 u1 u2 u3))).toArray, .int .i64 (dLook_1 (wrD (injD (wrD (injD (injD (injD (wrD (D0 r s n m c mode) (gindex_0 r s n m c u0 u1 u2 u3) xs) (⟨1, u0, u1, u2, u3, 0, b, 0⟩ : Fa)) (⟨1, u0, u1, u2, u3, 0, b, 0⟩ : Fa)) (⟨1, u0, u1, u2, u3, 0, b, 0⟩ : Fa)) (gindex_0 r s n m c u0 u1 u2 u3) xs) (⟨2, u0, u1, u2, u3, 0, b, v⟩ : Fa)) (gindex_0 r s n m c u0 u1 u2 u3) xs) (gindex_0 r s n m c u0 u1 u2 u3))]),
  .v (.agg (rB 72 (dLook_0 (wrD (injD (wrD (injD (injD (injD (wrD (D0 r s n m c mode) (gindex_0 r s n m c u0 u1 u2 u3) xs) (⟨1, u0, u1, u2, u3, 0, b, 0⟩ : Fa)) (⟨1, u0, u1, u2, u3, 0, b, 0⟩ : Fa)) (⟨1, u0, u1, u2, u3, 0, b, 0⟩ : Fa)) (gindex_0 r s n m c u0 u1 u2 u3) xs) (⟨2, u0, u1, u2, u3, 0, b, v⟩ : Fa)) (gindex_0 r s n m c u0 u1 u2 u3) xs) (gindex_0 r s n m c u0 u1 u2 u3))).toArray),
  .v (.int .i64 (dLook_1 (wrD (injD (wrD (injD (injD (injD (wrD (D0 r s n m c mode) (gindex_0 r s n m c u0 u1 u2 u3) xs) (⟨1, u0, u1, u2, u3, 0, b, 0⟩ : Fa)) (⟨1, u0, u1, u2, u3, 0, b, 0⟩ : Fa)) (⟨1, u0, u1, u2, u3, 0, b, 0⟩ : Fa)) (gindex_0 r s n m c u0 u1 u2 u3) xs) (⟨2, u0, u1, u2, u3, 0, b, v⟩ : Fa)) (gindex_0 r s n m c u0 u1 u2 u3) xs) (gindex_0 r s n m c u0 u1 u2 u3))),
  .m (al 8),
  .m (ss 8),
  .v (.int .i64 (dLook_1 (wrD (injD (wrD (injD (injD (injD (wrD (D0 r s n m c mode) (gindex_0 r s n m c u0 u1 u2 u3) xs) (⟨1, u0, u1, u2, u3, 0, b, 0⟩ : Fa)) (⟨1, u0, u1, u2, u3, 0, b, 0⟩ : Fa)) (⟨1, u0, u1, u2, u3, 0, b, 0⟩ : Fa)) (gindex_0 r s n m c u0 u1 u2 u3) xs) (⟨2, u0, u1, u2, u3, 0, b, v⟩ : Fa)) (gindex_0 r s n m c u0 u1 u2 u3) xs) (gindex_0 r s n m c u0 u1 u2 u3)))]) (fun q20 L => L ++ [ob ((q20 6).blk 0) (rB 72 (dLook_0 (wrD (injD (wrD (injD (injD (injD (wrD (D0 r s n m c mode) (gindex_0 r s n m c u0 u1 u2 u3) xs) (⟨1, u0, u1, u2, u3, 0, b, 0⟩ : Fa)) (⟨1, u0, u1, u2, u3, 0, b, 0⟩ : Fa)) (⟨1, u0, u1, u2, u3, 0, b, 0⟩ : Fa)) (gindex_0 r s n m c u0 u1 u2 u3) xs) (⟨2, u0, u1, u2, u3, 0, b, v⟩ : Fa)) (gindex_0 r s n m c u0 u1 u2 u3) xs) (gindex_0 r s n m c u0 u1 u2 u3))).toArray 41]) OW ?_
 clear OW; intro q20 _ Wq20 OW; simp only [↓pc, ↓pn, vE, Hint.val, Act.put, eL]
 gi_upto_region 21 with fail
 refine rg (fun q21 => [.m (ls 5 (rB 72 (dLook_0 (injD (wrD (D0 r s n m c mode) (gindex_0 r s n m c u0 u1 u2 u3) xs) (⟨1, u0, u1, u2, u3, 0, b, 0⟩ : Fa)) (gindex_0 r s n m c u0 u1 u2 u3)))),
  .m (ls 2 (rB 72 xs)),
  .c [] [] (show Con _ 29 #[.int .i64 1, .agg (rB 72 (dLook_0 (injD (wrD (D0 r s n m c mode) (gindex_0 r s n m c u0 u1 u2 u3) xs) (⟨1, u0, u1, u2, u3, 0, b, 0⟩ : Fa)) (gindex_0 r s n m c u0 u1 u2 u3))).toArray, .agg (rB 72 xs).toArray] _ _ _ fun _ => .int .i64 ((expo 1 (dLook_0 (injD (wrD (D0 r s n m c mode) (gindex_0 r s n m c u0 u1 u2 u3) xs) (⟨1, u0, u1, u2, u3, 0, b, 0⟩ : Fa)) (gindex_0 r s n m c u0 u1 u2 u3)) xs : Nat) : Int) from conB (enters_of Try.func29 (by kernel_rfl) rfl) fun w' => (by rw [rB_raw (n := 72) (xs := (dLook_0 (injD (wrD (D0 r s n m c mode) (gindex_0 r s n m c u0 u1 u2 u3) xs) (⟨1, u0, u1, u2, u3, 0, b, 0⟩ : Fa)) (gindex_0 r s n m c u0 u1 u2 u3))) (show ((dLook_0 (injD (wrD (D0 r s n m c mode) (gindex_0 r s n m c u0 u1 u2 u3) xs) (⟨1, u0, u1, u2, u3, 0, b, 0⟩ : Fa)) (gindex_0 r s n m c u0 u1 u2 u3))).length = 72 by first | rfl | (simp only [List.length_set, List.length_append, List.length_replicate, List.length_cons, List.length_nil, List.length_map, List.length_range, List.length_take, List.length_drop, HL2, HL3, HL5, HL7, forceI_len, lx]; done) | (simp only [List.length_set, List.length_append, List.length_replicate, List.length_cons, List.length_nil, List.length_map, List.length_range, List.length_take, List.length_drop, HL2, HL3, HL5, HL7, forceI_len, lx]; omega)), rB_raw (n := 72) (xs := xs) (show (xs).length = 72 by first | rfl | (simp only [List.length_set, List.length_append, List.length_replicate, List.length_cons, List.length_nil, List.length_map, List.length_range, List.length_take, List.length_drop, HL2, HL3, HL5, HL7, forceI_len, lx]; done) | (simp only [List.length_set, List.length_append, List.length_replicate, List.length_cons, List.length_nil, List.length_map, List.length_range, List.length_take, List.length_drop, HL2, HL3, HL5, HL7, forceI_len, lx]; omega))]; exact refExp_any 1 (dLook_0 (injD (wrD (D0 r s n m c mode) (gindex_0 r s n m c u0 u1 u2 u3) xs) (⟨1, u0, u1, u2, u3, 0, b, 0⟩ : Fa)) (gindex_0 r s n m c u0 u1 u2 u3)) xs (by first | rfl | (simp only [List.length_set, List.length_append, List.length_replicate, List.length_cons, List.length_nil, List.length_map, List.length_range, List.length_take, List.length_drop, HL2, HL3, HL5, HL7, forceI_len, lx]; done) | (simp only [List.length_set, List.length_append, List.length_replicate, List.length_cons, List.length_nil, List.length_map, List.length_range, List.length_take, List.length_drop, HL2, HL3, HL5, HL7, forceI_len, lx]; omega)) (by first | rfl | (simp only [List.length_set, List.length_append, List.length_replicate, List.length_cons, List.length_nil, List.length_map, List.length_range, List.length_take, List.length_drop, HL2, HL3, HL5, HL7, forceI_len, lx]; done) | (simp only [List.length_set, List.length_append, List.length_replicate, List.length_cons, List.length_nil, List.length_map, List.length_range, List.length_take, List.length_drop, HL2, HL3, HL5, HL7, forceI_len, lx]; omega)) _)),
  .v (.bool (((expo 1 (dLook_0 (injD (wrD (D0 r s n m c mode) (gindex_0 r s n m c u0 u1 u2 u3) xs) (⟨1, u0, u1, u2, u3, 0, b, 0⟩ : Fa)) (gindex_0 r s n m c u0 u1 u2 u3)) xs : Nat) : Int) == 1)),
  .v (.bool (((expo 1 (dLook_0 (injD (wrD (D0 r s n m c mode) (gindex_0 r s n m c u0 u1 u2 u3) xs) (⟨1, u0, u1, u2, u3, 0, b, 0⟩ : Fa)) (gindex_0 r s n m c u0 u1 u2 u3)) xs : Nat) : Int) == 1)),
  .m (ls 6 (rB 72 (dLook_0 (injD (injD (wrD (D0 r s n m c mode) (gindex_0 r s n m c u0 u1 u2 u3) xs) (⟨1, u0, u1, u2, u3, 0, b, 0⟩ : Fa)) (⟨1, u0, u1, u2, u3, 0, b, 0⟩ : Fa)) (gindex_0 r s n m c u0 u1 u2 u3)))),
  .m (ls 2 (rB 72 xs)),
  .t (tbT 41 fun _ _ _ => bin_eqT (xs := rB 72 (dLook_0 (injD (injD (wrD (D0 r s n m c mode) (gindex_0 r s n m c u0 u1 u2 u3) xs) (⟨1, u0, u1, u2, u3, 0, b, 0⟩ : Fa)) (⟨1, u0, u1, u2, u3, 0, b, 0⟩ : Fa)) (gindex_0 r s n m c u0 u1 u2 u3))) (ys := rB 72 xs) (by kernel_rfl) (eqc_rB (show ((dLook_0 (injD (injD (wrD (D0 r s n m c mode) (gindex_0 r s n m c u0 u1 u2 u3) xs) (⟨1, u0, u1, u2, u3, 0, b, 0⟩ : Fa)) (⟨1, u0, u1, u2, u3, 0, b, 0⟩ : Fa)) (gindex_0 r s n m c u0 u1 u2 u3))).length = 72 by first | rfl | (simp only [List.length_set, List.length_append, List.length_replicate, List.length_cons, List.length_nil, List.length_map, List.length_range, List.length_take, List.length_drop, HL2, HL3, HL5, HL7, forceI_len, lx]; done) | (simp only [List.length_set, List.length_append, List.length_replicate, List.length_cons, List.length_nil, List.length_map, List.length_range, List.length_take, List.length_drop, HL2, HL3, HL5, HL7, forceI_len, lx]; omega)) (show (xs).length = 72 by first | rfl | (simp only [List.length_set, List.length_append, List.length_replicate, List.length_cons, List.length_nil, List.length_map, List.length_range, List.length_take, List.length_drop, HL2, HL3, HL5, HL7, forceI_len, lx]; done) | (simp only [List.length_set, List.length_append, List.length_replicate, List.length_cons, List.length_nil, List.length_map, List.length_range, List.length_take, List.length_drop, HL2, HL3, HL5, HL7, forceI_len, lx]; omega)))),
  .k (.bool ((((expo 1 (dLook_0 (injD (wrD (D0 r s n m c mode) (gindex_0 r s n m c u0 u1 u2 u3) xs) (⟨1, u0, u1, u2, u3, 0, b, 0⟩ : Fa)) (gindex_0 r s n m c u0 u1 u2 u3)) xs : Nat) : Int) == 1) && (decide ((dLook_0 (injD (injD (wrD (D0 r s n m c mode) (gindex_0 r s n m c u0 u1 u2 u3) xs) (⟨1, u0, u1, u2, u3, 0, b, 0⟩ : Fa)) (⟨1, u0, u1, u2, u3, 0, b, 0⟩ : Fa)) (gindex_0 r s n m c u0 u1 u2 u3)) = xs)))),
  .v (.bool ((((expo 1 (dLook_0 (injD (wrD (D0 r s n m c mode) (gindex_0 r s n m c u0 u1 u2 u3) xs) (⟨1, u0, u1, u2, u3, 0, b, 0⟩ : Fa)) (gindex_0 r s n m c u0 u1 u2 u3)) xs : Nat) : Int) == 1) && (decide ((dLook_0 (injD (injD (wrD (D0 r s n m c mode) (gindex_0 r s n m c u0 u1 u2 u3) xs) (⟨1, u0, u1, u2, u3, 0, b, 0⟩ : Fa)) (⟨1, u0, u1, u2, u3, 0, b, 0⟩ : Fa)) (gindex_0 r s n m c u0 u1 u2 u3)) = xs)))),
  .m (ls 7 (rB 72 (dLook_0 (wrD (injD (injD (injD (wrD (D0 r s n m c mode) (gindex_0 r s n m c u0 u1 u2 u3) xs) (⟨1, u0, u1, u2, u3, 0, b, 0⟩ : Fa)) (⟨1, u0, u1, u2, u3, 0, b, 0⟩ : Fa)) (⟨1, u0, u1, u2, u3, 0, b, 0⟩ : Fa)) (gindex_0 r s n m c u0 u1 u2 u3) xs) (gindex_0 r s n m c u0 u1 u2 u3)))),
  .m (ls 2 (rB 72 xs)),
  .t (tbT 41 fun _ _ _ => bin_eqT (xs := rB 72 (dLook_0 (wrD (injD (injD (injD (wrD (D0 r s n m c mode) (gindex_0 r s n m c u0 u1 u2 u3) xs) (⟨1, u0, u1, u2, u3, 0, b, 0⟩ : Fa)) (⟨1, u0, u1, u2, u3, 0, b, 0⟩ : Fa)) (⟨1, u0, u1, u2, u3, 0, b, 0⟩ : Fa)) (gindex_0 r s n m c u0 u1 u2 u3) xs) (gindex_0 r s n m c u0 u1 u2 u3))) (ys := rB 72 xs) (by kernel_rfl) (eqc_rB (show ((dLook_0 (wrD (injD (injD (injD (wrD (D0 r s n m c mode) (gindex_0 r s n m c u0 u1 u2 u3) xs) (⟨1, u0, u1, u2, u3, 0, b, 0⟩ : Fa)) (⟨1, u0, u1, u2, u3, 0, b, 0⟩ : Fa)) (⟨1, u0, u1, u2, u3, 0, b, 0⟩ : Fa)) (gindex_0 r s n m c u0 u1 u2 u3) xs) (gindex_0 r s n m c u0 u1 u2 u3))).length = 72 by first | rfl | (simp only [List.length_set, List.length_append, List.length_replicate, List.length_cons, List.length_nil, List.length_map, List.length_range, List.length_take, List.length_drop, HL2, HL3, HL5, HL7, forceI_len, lx]; done) | (simp only [List.length_set, List.length_append, List.length_replicate, List.length_cons, List.length_nil, List.length_map, List.length_range, List.length_take, List.length_drop, HL2, HL3, HL5, HL7, forceI_len, lx]; omega)) (show (xs).length = 72 by first | rfl | (simp only [List.length_set, List.length_append, List.length_replicate, List.length_cons, List.length_nil, List.length_map, List.length_range, List.length_take, List.length_drop, HL2, HL3, HL5, HL7, forceI_len, lx]; done) | (simp only [List.length_set, List.length_append, List.length_replicate, List.length_cons, List.length_nil, List.length_map, List.length_range, List.length_take, List.length_drop, HL2, HL3, HL5, HL7, forceI_len, lx]; omega)))),
  .k (.bool (((((expo 1 (dLook_0 (injD (wrD (D0 r s n m c mode) (gindex_0 r s n m c u0 u1 u2 u3) xs) (⟨1, u0, u1, u2, u3, 0, b, 0⟩ : Fa)) (gindex_0 r s n m c u0 u1 u2 u3)) xs : Nat) : Int) == 1) && (decide ((dLook_0 (injD (injD (wrD (D0 r s n m c mode) (gindex_0 r s n m c u0 u1 u2 u3) xs) (⟨1, u0, u1, u2, u3, 0, b, 0⟩ : Fa)) (⟨1, u0, u1, u2, u3, 0, b, 0⟩ : Fa)) (gindex_0 r s n m c u0 u1 u2 u3)) = xs))) && (decide ((dLook_0 (wrD (injD (injD (injD (wrD (D0 r s n m c mode) (gindex_0 r s n m c u0 u1 u2 u3) xs) (⟨1, u0, u1, u2, u3, 0, b, 0⟩ : Fa)) (⟨1, u0, u1, u2, u3, 0, b, 0⟩ : Fa)) (⟨1, u0, u1, u2, u3, 0, b, 0⟩ : Fa)) (gindex_0 r s n m c u0 u1 u2 u3) xs) (gindex_0 r s n m c u0 u1 u2 u3)) = xs)))),
  .v (.bool (((((expo 1 (dLook_0 (injD (wrD (D0 r s n m c mode) (gindex_0 r s n m c u0 u1 u2 u3) xs) (⟨1, u0, u1, u2, u3, 0, b, 0⟩ : Fa)) (gindex_0 r s n m c u0 u1 u2 u3)) xs : Nat) : Int) == 1) && (decide ((dLook_0 (injD (injD (wrD (D0 r s n m c mode) (gindex_0 r s n m c u0 u1 u2 u3) xs) (⟨1, u0, u1, u2, u3, 0, b, 0⟩ : Fa)) (⟨1, u0, u1, u2, u3, 0, b, 0⟩ : Fa)) (gindex_0 r s n m c u0 u1 u2 u3)) = xs))) && (decide ((dLook_0 (wrD (injD (injD (injD (wrD (D0 r s n m c mode) (gindex_0 r s n m c u0 u1 u2 u3) xs) (⟨1, u0, u1, u2, u3, 0, b, 0⟩ : Fa)) (⟨1, u0, u1, u2, u3, 0, b, 0⟩ : Fa)) (⟨1, u0, u1, u2, u3, 0, b, 0⟩ : Fa)) (gindex_0 r s n m c u0 u1 u2 u3) xs) (gindex_0 r s n m c u0 u1 u2 u3)) = xs)))),
  .v (.int .i64 (dInject_0 (wrD (injD (injD (injD (wrD (D0 r s n m c mode) (gindex_0 r s n m c u0 u1 u2 u3) xs) (⟨1, u0, u1, u2, u3, 0, b, 0⟩ : Fa)) (⟨1, u0, u1, u2, u3, 0, b, 0⟩ : Fa)) (⟨1, u0, u1, u2, u3, 0, b, 0⟩ : Fa)) (gindex_0 r s n m c u0 u1 u2 u3) xs) (⟨2, u0, u1, u2, u3, 0, b, v⟩ : Fa))),
  .v (.bool ((dInject_0 (wrD (injD (injD (injD (wrD (D0 r s n m c mode) (gindex_0 r s n m c u0 u1 u2 u3) xs) (⟨1, u0, u1, u2, u3, 0, b, 0⟩ : Fa)) (⟨1, u0, u1, u2, u3, 0, b, 0⟩ : Fa)) (⟨1, u0, u1, u2, u3, 0, b, 0⟩ : Fa)) (gindex_0 r s n m c u0 u1 u2 u3) xs) (⟨2, u0, u1, u2, u3, 0, b, v⟩ : Fa)) == 0)),
  .k (.bool ((((((expo 1 (dLook_0 (injD (wrD (D0 r s n m c mode) (gindex_0 r s n m c u0 u1 u2 u3) xs) (⟨1, u0, u1, u2, u3, 0, b, 0⟩ : Fa)) (gindex_0 r s n m c u0 u1 u2 u3)) xs : Nat) : Int) == 1) && (decide ((dLook_0 (injD (injD (wrD (D0 r s n m c mode) (gindex_0 r s n m c u0 u1 u2 u3) xs) (⟨1, u0, u1, u2, u3, 0, b, 0⟩ : Fa)) (⟨1, u0, u1, u2, u3, 0, b, 0⟩ : Fa)) (gindex_0 r s n m c u0 u1 u2 u3)) = xs))) && (decide ((dLook_0 (wrD (injD (injD (injD (wrD (D0 r s n m c mode) (gindex_0 r s n m c u0 u1 u2 u3) xs) (⟨1, u0, u1, u2, u3, 0, b, 0⟩ : Fa)) (⟨1, u0, u1, u2, u3, 0, b, 0⟩ : Fa)) (⟨1, u0, u1, u2, u3, 0, b, 0⟩ : Fa)) (gindex_0 r s n m c u0 u1 u2 u3) xs) (gindex_0 r s n m c u0 u1 u2 u3)) = xs))) && ((dInject_0 (wrD (injD (injD (injD (wrD (D0 r s n m c mode) (gindex_0 r s n m c u0 u1 u2 u3) xs) (⟨1, u0, u1, u2, u3, 0, b, 0⟩ : Fa)) (⟨1, u0, u1, u2, u3, 0, b, 0⟩ : Fa)) (⟨1, u0, u1, u2, u3, 0, b, 0⟩ : Fa)) (gindex_0 r s n m c u0 u1 u2 u3) xs) (⟨2, u0, u1, u2, u3, 0, b, v⟩ : Fa)) == 0))),
  .v (.bool ((((((expo 1 (dLook_0 (injD (wrD (D0 r s n m c mode) (gindex_0 r s n m c u0 u1 u2 u3) xs) (⟨1, u0, u1, u2, u3, 0, b, 0⟩ : Fa)) (gindex_0 r s n m c u0 u1 u2 u3)) xs : Nat) : Int) == 1) && (decide ((dLook_0 (injD (injD (wrD (D0 r s n m c mode) (gindex_0 r s n m c u0 u1 u2 u3) xs) (⟨1, u0, u1, u2, u3, 0, b, 0⟩ : Fa)) (⟨1, u0, u1, u2, u3, 0, b, 0⟩ : Fa)) (gindex_0 r s n m c u0 u1 u2 u3)) = xs))) && (decide ((dLook_0 (wrD (injD (injD (injD (wrD (D0 r s n m c mode) (gindex_0 r s n m c u0 u1 u2 u3) xs) (⟨1, u0, u1, u2, u3, 0, b, 0⟩ : Fa)) (⟨1, u0, u1, u2, u3, 0, b, 0⟩ : Fa)) (⟨1, u0, u1, u2, u3, 0, b, 0⟩ : Fa)) (gindex_0 r s n m c u0 u1 u2 u3) xs) (gindex_0 r s n m c u0 u1 u2 u3)) = xs))) && ((dInject_0 (wrD (injD (injD (injD (wrD (D0 r s n m c mode) (gindex_0 r s n m c u0 u1 u2 u3) xs) (⟨1, u0, u1, u2, u3, 0, b, 0⟩ : Fa)) (⟨1, u0, u1, u2, u3, 0, b, 0⟩ : Fa)) (⟨1, u0, u1, u2, u3, 0, b, 0⟩ : Fa)) (gindex_0 r s n m c u0 u1 u2 u3) xs) (⟨2, u0, u1, u2, u3, 0, b, v⟩ : Fa)) == 0))),
  .m (ls 8 (rB 72 (dLook_0 (wrD (injD (wrD (injD (injD (injD (wrD (D0 r s n m c mode) (gindex_0 r s n m c u0 u1 u2 u3) xs) (⟨1, u0, u1, u2, u3, 0, b, 0⟩ : Fa)) (⟨1, u0, u1, u2, u3, 0, b, 0⟩ : Fa)) (⟨1, u0, u1, u2, u3, 0, b, 0⟩ : Fa)) (gindex_0 r s n m c u0 u1 u2 u3) xs) (⟨2, u0, u1, u2, u3, 0, b, v⟩ : Fa)) (gindex_0 r s n m c u0 u1 u2 u3) xs) (gindex_0 r s n m c u0 u1 u2 u3)))),
  .m (ls 2 (rB 72 xs)),
  .v (.int .i64 b),
  .v (.int .i64 v),
  .c [] [] (show Con _ 37 #[.agg (rB 72 xs).toArray, .int .i64 b, .int .i64 v] _ _ _ fun _ => .agg (rB 72 (forceI xs b v)).toArray from conB (enters_of Try.func37 (by kernel_rfl) rfl) fun w' => (by rw [rB_raw (n := 72) (xs := xs) (show (xs).length = 72 by first | rfl | (simp only [List.length_set, List.length_append, List.length_replicate, List.length_cons, List.length_nil, List.length_map, List.length_range, List.length_take, List.length_drop, HL2, HL3, HL5, HL7, forceI_len, lx]; done) | (simp only [List.length_set, List.length_append, List.length_replicate, List.length_cons, List.length_nil, List.length_map, List.length_range, List.length_take, List.length_drop, HL2, HL3, HL5, HL7, forceI_len, lx]; omega)), rB_raw (n := 72) (xs := forceI xs b v) (show (forceI xs b v).length = 72 by first | rfl | (simp only [List.length_set, List.length_append, List.length_replicate, List.length_cons, List.length_nil, List.length_map, List.length_range, List.length_take, List.length_drop, HL2, HL3, HL5, HL7, forceI_len, lx]; done) | (simp only [List.length_set, List.length_append, List.length_replicate, List.length_cons, List.length_nil, List.length_map, List.length_range, List.length_take, List.length_drop, HL2, HL3, HL5, HL7, forceI_len, lx]; omega))]; exact refForce_any xs (by first | rfl | (simp only [List.length_set, List.length_append, List.length_replicate, List.length_cons, List.length_nil, List.length_map, List.length_range, List.length_take, List.length_drop, HL2, HL3, HL5, HL7, forceI_len, lx]; done) | (simp only [List.length_set, List.length_append, List.length_replicate, List.length_cons, List.length_nil, List.length_map, List.length_range, List.length_take, List.length_drop, HL2, HL3, HL5, HL7, forceI_len, lx]; omega)) b v (by omega) (by omega) _)),
  .t (tbT 40 fun _ _ _ => bin_eqT (xs := rB 72 (dLook_0 (wrD (injD (wrD (injD (injD (injD (wrD (D0 r s n m c mode) (gindex_0 r s n m c u0 u1 u2 u3) xs) (⟨1, u0, u1, u2, u3, 0, b, 0⟩ : Fa)) (⟨1, u0, u1, u2, u3, 0, b, 0⟩ : Fa)) (⟨1, u0, u1, u2, u3, 0, b, 0⟩ : Fa)) (gindex_0 r s n m c u0 u1 u2 u3) xs) (⟨2, u0, u1, u2, u3, 0, b, v⟩ : Fa)) (gindex_0 r s n m c u0 u1 u2 u3) xs) (gindex_0 r s n m c u0 u1 u2 u3))) (ys := rB 72 (forceI xs b v)) (by kernel_rfl) (eqc_rB (show ((dLook_0 (wrD (injD (wrD (injD (injD (injD (wrD (D0 r s n m c mode) (gindex_0 r s n m c u0 u1 u2 u3) xs) (⟨1, u0, u1, u2, u3, 0, b, 0⟩ : Fa)) (⟨1, u0, u1, u2, u3, 0, b, 0⟩ : Fa)) (⟨1, u0, u1, u2, u3, 0, b, 0⟩ : Fa)) (gindex_0 r s n m c u0 u1 u2 u3) xs) (⟨2, u0, u1, u2, u3, 0, b, v⟩ : Fa)) (gindex_0 r s n m c u0 u1 u2 u3) xs) (gindex_0 r s n m c u0 u1 u2 u3))).length = 72 by first | rfl | (simp only [List.length_set, List.length_append, List.length_replicate, List.length_cons, List.length_nil, List.length_map, List.length_range, List.length_take, List.length_drop, HL2, HL3, HL5, HL7, forceI_len, lx]; done) | (simp only [List.length_set, List.length_append, List.length_replicate, List.length_cons, List.length_nil, List.length_map, List.length_range, List.length_take, List.length_drop, HL2, HL3, HL5, HL7, forceI_len, lx]; omega)) (show (forceI xs b v).length = 72 by first | rfl | (simp only [List.length_set, List.length_append, List.length_replicate, List.length_cons, List.length_nil, List.length_map, List.length_range, List.length_take, List.length_drop, HL2, HL3, HL5, HL7, forceI_len, lx]; done) | (simp only [List.length_set, List.length_append, List.length_replicate, List.length_cons, List.length_nil, List.length_map, List.length_range, List.length_take, List.length_drop, HL2, HL3, HL5, HL7, forceI_len, lx]; omega)))),
  .k (.bool (((((((expo 1 (dLook_0 (injD (wrD (D0 r s n m c mode) (gindex_0 r s n m c u0 u1 u2 u3) xs) (⟨1, u0, u1, u2, u3, 0, b, 0⟩ : Fa)) (gindex_0 r s n m c u0 u1 u2 u3)) xs : Nat) : Int) == 1) && (decide ((dLook_0 (injD (injD (wrD (D0 r s n m c mode) (gindex_0 r s n m c u0 u1 u2 u3) xs) (⟨1, u0, u1, u2, u3, 0, b, 0⟩ : Fa)) (⟨1, u0, u1, u2, u3, 0, b, 0⟩ : Fa)) (gindex_0 r s n m c u0 u1 u2 u3)) = xs))) && (decide ((dLook_0 (wrD (injD (injD (injD (wrD (D0 r s n m c mode) (gindex_0 r s n m c u0 u1 u2 u3) xs) (⟨1, u0, u1, u2, u3, 0, b, 0⟩ : Fa)) (⟨1, u0, u1, u2, u3, 0, b, 0⟩ : Fa)) (⟨1, u0, u1, u2, u3, 0, b, 0⟩ : Fa)) (gindex_0 r s n m c u0 u1 u2 u3) xs) (gindex_0 r s n m c u0 u1 u2 u3)) = xs))) && ((dInject_0 (wrD (injD (injD (injD (wrD (D0 r s n m c mode) (gindex_0 r s n m c u0 u1 u2 u3) xs) (⟨1, u0, u1, u2, u3, 0, b, 0⟩ : Fa)) (⟨1, u0, u1, u2, u3, 0, b, 0⟩ : Fa)) (⟨1, u0, u1, u2, u3, 0, b, 0⟩ : Fa)) (gindex_0 r s n m c u0 u1 u2 u3) xs) (⟨2, u0, u1, u2, u3, 0, b, v⟩ : Fa)) == 0)) && (decide ((dLook_0 (wrD (injD (wrD (injD (injD (injD (wrD (D0 r s n m c mode) (gindex_0 r s n m c u0 u1 u2 u3) xs) (⟨1, u0, u1, u2, u3, 0, b, 0⟩ : Fa)) (⟨1, u0, u1, u2, u3, 0, b, 0⟩ : Fa)) (⟨1, u0, u1, u2, u3, 0, b, 0⟩ : Fa)) (gindex_0 r s n m c u0 u1 u2 u3) xs) (⟨2, u0, u1, u2, u3, 0, b, v⟩ : Fa)) (gindex_0 r s n m c u0 u1 u2 u3) xs) (gindex_0 r s n m c u0 u1 u2 u3)) = forceI xs b v)))),
  .v (.bool (((((((expo 1 (dLook_0 (injD (wrD (D0 r s n m c mode) (gindex_0 r s n m c u0 u1 u2 u3) xs) (⟨1, u0, u1, u2, u3, 0, b, 0⟩ : Fa)) (gindex_0 r s n m c u0 u1 u2 u3)) xs : Nat) : Int) == 1) && (decide ((dLook_0 (injD (injD (wrD (D0 r s n m c mode) (gindex_0 r s n m c u0 u1 u2 u3) xs) (⟨1, u0, u1, u2, u3, 0, b, 0⟩ : Fa)) (⟨1, u0, u1, u2, u3, 0, b, 0⟩ : Fa)) (gindex_0 r s n m c u0 u1 u2 u3)) = xs))) && (decide ((dLook_0 (wrD (injD (injD (injD (wrD (D0 r s n m c mode) (gindex_0 r s n m c u0 u1 u2 u3) xs) (⟨1, u0, u1, u2, u3, 0, b, 0⟩ : Fa)) (⟨1, u0, u1, u2, u3, 0, b, 0⟩ : Fa)) (⟨1, u0, u1, u2, u3, 0, b, 0⟩ : Fa)) (gindex_0 r s n m c u0 u1 u2 u3) xs) (gindex_0 r s n m c u0 u1 u2 u3)) = xs))) && ((dInject_0 (wrD (injD (injD (injD (wrD (D0 r s n m c mode) (gindex_0 r s n m c u0 u1 u2 u3) xs) (⟨1, u0, u1, u2, u3, 0, b, 0⟩ : Fa)) (⟨1, u0, u1, u2, u3, 0, b, 0⟩ : Fa)) (⟨1, u0, u1, u2, u3, 0, b, 0⟩ : Fa)) (gindex_0 r s n m c u0 u1 u2 u3) xs) (⟨2, u0, u1, u2, u3, 0, b, v⟩ : Fa)) == 0)) && (decide ((dLook_0 (wrD (injD (wrD (injD (injD (injD (wrD (D0 r s n m c mode) (gindex_0 r s n m c u0 u1 u2 u3) xs) (⟨1, u0, u1, u2, u3, 0, b, 0⟩ : Fa)) (⟨1, u0, u1, u2, u3, 0, b, 0⟩ : Fa)) (⟨1, u0, u1, u2, u3, 0, b, 0⟩ : Fa)) (gindex_0 r s n m c u0 u1 u2 u3) xs) (⟨2, u0, u1, u2, u3, 0, b, v⟩ : Fa)) (gindex_0 r s n m c u0 u1 u2 u3) xs) (gindex_0 r s n m c u0 u1 u2 u3)) = forceI xs b v))))]) (fun _ L => L) OW ?_
 clear OW; intro q21 _ Wq21 OW; simp only [↓pc, ↓pn, vE, Hint.val, Act.put, eL]
 gi_wp2
 exact leafE HS HH OW [.t (.bool (((((((expo 1 (dLook_0 (injD (wrD (D0 r s n m c mode) (gindex_0 r s n m c u0 u1 u2 u3) xs) (⟨1, u0, u1, u2, u3, 0, b, 0⟩ : Fa)) (gindex_0 r s n m c u0 u1 u2 u3)) xs : Nat) : Int) == 1) && (decide ((dLook_0 (injD (injD (wrD (D0 r s n m c mode) (gindex_0 r s n m c u0 u1 u2 u3) xs) (⟨1, u0, u1, u2, u3, 0, b, 0⟩ : Fa)) (⟨1, u0, u1, u2, u3, 0, b, 0⟩ : Fa)) (gindex_0 r s n m c u0 u1 u2 u3)) = xs))) && (decide ((dLook_0 (wrD (injD (injD (injD (wrD (D0 r s n m c mode) (gindex_0 r s n m c u0 u1 u2 u3) xs) (⟨1, u0, u1, u2, u3, 0, b, 0⟩ : Fa)) (⟨1, u0, u1, u2, u3, 0, b, 0⟩ : Fa)) (⟨1, u0, u1, u2, u3, 0, b, 0⟩ : Fa)) (gindex_0 r s n m c u0 u1 u2 u3) xs) (gindex_0 r s n m c u0 u1 u2 u3)) = xs))) && ((dInject_0 (wrD (injD (injD (injD (wrD (D0 r s n m c mode) (gindex_0 r s n m c u0 u1 u2 u3) xs) (⟨1, u0, u1, u2, u3, 0, b, 0⟩ : Fa)) (⟨1, u0, u1, u2, u3, 0, b, 0⟩ : Fa)) (⟨1, u0, u1, u2, u3, 0, b, 0⟩ : Fa)) (gindex_0 r s n m c u0 u1 u2 u3) xs) (⟨2, u0, u1, u2, u3, 0, b, v⟩ : Fa)) == 0)) && (decide ((dLook_0 (wrD (injD (wrD (injD (injD (injD (wrD (D0 r s n m c mode) (gindex_0 r s n m c u0 u1 u2 u3) xs) (⟨1, u0, u1, u2, u3, 0, b, 0⟩ : Fa)) (⟨1, u0, u1, u2, u3, 0, b, 0⟩ : Fa)) (⟨1, u0, u1, u2, u3, 0, b, 0⟩ : Fa)) (gindex_0 r s n m c u0 u1 u2 u3) xs) (⟨2, u0, u1, u2, u3, 0, b, v⟩ : Fa)) (gindex_0 r s n m c u0 u1 u2 u3) xs) (gindex_0 r s n m c u0 u1 u2 u3)) = forceI xs b v))))] Env.zero [] [] (by (try simp only [dflips_0]); (repeat (first | rw [hB7] | rw [cond_true] | rw [cond_false])); first | rfl | kernel_rfl) (by kernel_rfl) (by (try simp only [dflips_0]); (repeat (first | rw [hB7] | rw [cond_true] | rw [cond_false])); kernel_rfl)
set_option maxRecDepth 100000 in
set_option maxHeartbeats 1000000 in
theorem dflipsG (r s n m c mode : Int) (u0 u1 u2 u3 b v : Int) (xs : List UInt8) (lx : xs.length = 72) (hg : gright r s n m c = false) : Con Try.prog 9 #[.agg #[.int .i64 r, .int .i64 s, .int .i64 n, .int .i64 m, .int .i64 c], .int .i64 mode, .agg #[.int .i64 u0, .int .i64 u1, .int .i64 u2, .int .i64 u3], .int .i64 b, .int .i64 v, .agg (rB 72 xs).toArray] [] [] (fun _ => []) (fun _ => .bool true) := by
 refine Con.of (enters_of Try.func9 (by kernel_rfl) rfl) fun w cs HS HH OW => ?_
 refine (callsIn_wide (n := 6)).1 ?_
 refine callsIn_of_wp_marks Try.func9 rfl trivial ?_ rfl
 simp only [Try.ntmps9, eF, Nat.reduceAdd, Nat.reduceSub]
 gi_upto_region 0 with fail
 refine rg (fun q1 => [.m (bx 0),
  .m (bx 1),
  .m (bx 2),
  .v (.bool false)]) (fun q1 L => L ++ [ob ((q1 0).blk 0) #[.int .i64 r, .int .i64 s, .int .i64 n, .int .i64 m, .int .i64 c] 27, ob ((q1 1).blk 0) #[.int .i64 u0, .int .i64 u1, .int .i64 u2, .int .i64 u3] 23, ob ((q1 2).blk 0) (rB 72 xs).toArray 41]) OW ?_
 clear OW; intro q1 _ Wq1 OW; simp only [↓pc, ↓pn, vE, Hint.val, Act.put, eL]
 gi_upto_region 1 with fail
 refine rg (fun q2 => [.c [] [] (danchor),
  .v (.bool false)]) (fun _ L => L) OW ?_
 clear OW; intro q2 _ Wq2 OW; simp only [↓pc, ↓pn, vE, Hint.val, Act.put, eL]
 gi_upto_region 3 with fail
 refine rg (fun q3 => [.m (ls 0 ([.int .i64 r, .int .i64 s, .int .i64 n, .int .i64 m, .int .i64 c])),
  .v (.int .i64 mode),
  .c [] [] (dNewG r s n m c mode hg),
  .v (.tuple #[.pointer none, .int .i64 20]),
  .v (.pointer none),
  .v (.int .i64 20),
  .v (.pointer none),
  .v (.int .i64 20)]) (fun _ L => L) OW ?_
 clear OW; intro q3 _ Wq3 OW; simp only [↓pc, ↓pn, vE, Hint.val, Act.put, eL]
 gi_upto_region 4 with fail
 refine rg (fun q4 => [.v (.int .i64 20),
  .v (.bool true),
  .v (.bool true),
  .d (.bool false),
  .d (.bool false),
  .k (.bool true)]) (fun _ L => L) OW ?_
 clear OW; intro q4 _ Wq4 OW; simp only [↓pc, ↓pn, vE, Hint.val, Act.put, eL]
 gi_upto_region 5 with fail
 refine rg (fun q5 => [.v (.pointer none),
  .v (.bool true),
  .v (.bool true)]) (fun _ L => L) OW ?_
 clear OW; intro q5 _ Wq5 OW; simp only [↓pc, ↓pn, vE, Hint.val, Act.put, eL]
 gi_wp2
 exact leafE HS HH OW [.t (.bool true)] Env.zero [] [] rfl
set_option maxRecDepth 100000 in
set_option maxHeartbeats 1000000 in
theorem dflipsM (r s n m c mode : Int) (u0 u1 u2 u3 b v : Int) (xs : List UInt8) (lx : xs.length = 72) (hg : gright r s n m c = true) (hm : rightB mode = false) : Con Try.prog 9 #[.agg #[.int .i64 r, .int .i64 s, .int .i64 n, .int .i64 m, .int .i64 c], .int .i64 mode, .agg #[.int .i64 u0, .int .i64 u1, .int .i64 u2, .int .i64 u3], .int .i64 b, .int .i64 v, .agg (rB 72 xs).toArray] [] [] (fun _ => []) (fun _ => .bool true) := by
 refine Con.of (enters_of Try.func9 (by kernel_rfl) rfl) fun w cs HS HH OW => ?_
 refine (callsIn_wide (n := 6)).1 ?_
 refine callsIn_of_wp_marks Try.func9 rfl trivial ?_ rfl
 simp only [Try.ntmps9, eF, Nat.reduceAdd, Nat.reduceSub]
 gi_upto_region 0 with fail
 refine rg (fun q1 => [.m (bx 0),
  .m (bx 1),
  .m (bx 2),
  .v (.bool false)]) (fun q1 L => L ++ [ob ((q1 0).blk 0) #[.int .i64 r, .int .i64 s, .int .i64 n, .int .i64 m, .int .i64 c] 27, ob ((q1 1).blk 0) #[.int .i64 u0, .int .i64 u1, .int .i64 u2, .int .i64 u3] 23, ob ((q1 2).blk 0) (rB 72 xs).toArray 41]) OW ?_
 clear OW; intro q1 _ Wq1 OW; simp only [↓pc, ↓pn, vE, Hint.val, Act.put, eL]
 gi_upto_region 1 with fail
 refine rg (fun q2 => [.c [] [] (danchor),
  .v (.bool false)]) (fun _ L => L) OW ?_
 clear OW; intro q2 _ Wq2 OW; simp only [↓pc, ↓pn, vE, Hint.val, Act.put, eL]
 gi_upto_region 3 with fail
 refine rg (fun q3 => [.m (ls 0 ([.int .i64 r, .int .i64 s, .int .i64 n, .int .i64 m, .int .i64 c])),
  .v (.int .i64 mode),
  .c [] [] (dNewM r s n m c mode hg hm),
  .v (.tuple #[.pointer none, .int .i64 21]),
  .v (.pointer none),
  .v (.int .i64 21),
  .v (.pointer none),
  .v (.int .i64 21)]) (fun _ L => L) OW ?_
 clear OW; intro q3 _ Wq3 OW; simp only [↓pc, ↓pn, vE, Hint.val, Act.put, eL]
 gi_upto_region 4 with fail
 refine rg (fun q4 => [.v (.int .i64 21),
  .v (.bool true),
  .v (.bool true),
  .d (.bool false),
  .d (.bool false),
  .k (.bool true)]) (fun _ L => L) OW ?_
 clear OW; intro q4 _ Wq4 OW; simp only [↓pc, ↓pn, vE, Hint.val, Act.put, eL]
 gi_upto_region 5 with fail
 refine rg (fun q5 => [.v (.pointer none),
  .v (.bool true),
  .v (.bool true)]) (fun _ L => L) OW ?_
 clear OW; intro q5 _ Wq5 OW; simp only [↓pc, ↓pn, vE, Hint.val, Act.put, eL]
 gi_wp2
 exact leafE HS HH OW [.t (.bool true)] Env.zero [] [] rfl
end Go.Proofs.Ytckhkagkpldoiaa.E
