/- DramLater, walked. -/
import Derived.Test.YtckhkagkpldoiaaDrH
import Derived.WalkKit
import Derived.Sort.CutIn
import Derived.IntWalk
namespace Go.Proofs.Ytckhkagkpldoiaa.E
open Go Go.RowKit Go.Shelf
attribute [local go_sem] Oper.semAt_some
set_option linter.unusedVariables false
set_option linter.unusedSimpArgs false

attribute [local irreducible] fapply ovF gat_0 gat_1 gat_2 gat_3 gat_4 gindex_0 gindex_1 dadd_0 dadd_1 fright flipI flasts flies fnarrow fcovers dInject_0 injD wrD rdD dWrite_0 dWrite_1 dWrite_2 dRead_0 dRead_1 dRead_2 dRead_3 D0
def dlater_0 (r : Int) (s : Int) (n : Int) (m : Int) (c : Int) (mode : Int) (a : Fa) (b : Fa) (u0 : Int) (u1 : Int) (u2 : Int) (u3 : Int) (xs : List UInt8) : Bool := (bif ((((((gindex_1 r s n m c u0 u1 u2 u3) != 0) || (!(flasts a.x0 a.x1 a.x2 a.x3 a.x4 a.x5 a.x6 a.x7))) || (!(flasts b.x0 b.x1 b.x2 b.x3 b.x4 b.x5 b.x6 b.x7))) || (fnarrow b.x0 b.x1 b.x2 b.x3 b.x4 b.x5 b.x6 b.x7)) || (!(flies b.x0 b.x1 b.x2 b.x3 b.x4 b.x5 b.x6 b.x7 u0 u1 u2 u3))) || ((fcovers a.x0 a.x1 a.x2 a.x3 a.x4 a.x5 a.x6 a.x7 mode) != (fcovers b.x0 b.x1 b.x2 b.x3 b.x4 b.x5 b.x6 b.x7 mode)) then true else (bif (dInject_0 (D0 r s n m c mode) a) != 0 then (!(fright a.x0 a.x1 a.x2 a.x3 a.x4 a.x5 a.x6 a.x7 r s n m c mode)) || (!(fright b.x0 b.x1 b.x2 b.x3 b.x4 b.x5 b.x6 b.x7 r s n m c mode)) else (bif (dInject_0 (injD (D0 r s n m c mode) a) b) != 0 then (!(fright a.x0 a.x1 a.x2 a.x3 a.x4 a.x5 a.x6 a.x7 r s n m c mode)) || (!(fright b.x0 b.x1 b.x2 b.x3 b.x4 b.x5 b.x6 b.x7 r s n m c mode)) else ((dRead_3 (wrD (injD (injD (D0 r s n m c mode) a) b) (gindex_0 r s n m c u0 u1 u2 u3) xs) (gindex_0 r s n m c u0 u1 u2 u3)) == 0) && (decide ((dRead_0 (wrD (injD (injD (D0 r s n m c mode) a) b) (gindex_0 r s n m c u0 u1 u2 u3) xs) (gindex_0 r s n m c u0 u1 u2 u3)) = fapply b.x0 b.x1 b.x2 b.x3 b.x4 b.x5 b.x6 b.x7 mode u0 u1 u2 u3 xs)))))
set_option maxRecDepth 100000 in
set_option maxHeartbeats 1000000 in
theorem dlater (r s n m c mode : Int) (a b : Fa) (u0 u1 u2 u3 : Int) (xs : List UInt8) (lx : xs.length = 72) (ha : FaOk a) (hb : FaOk b) (hg : gright r s n m c = true) (hm : rightB mode = true) : Con Try.prog 12 #[.agg #[.int .i64 r, .int .i64 s, .int .i64 n, .int .i64 m, .int .i64 c], .int .i64 mode, .agg #[.int .i64 a.x0, .int .i64 a.x1, .int .i64 a.x2, .int .i64 a.x3, .int .i64 a.x4, .int .i64 a.x5, .int .i64 a.x6, .int .i64 a.x7], .agg #[.int .i64 b.x0, .int .i64 b.x1, .int .i64 b.x2, .int .i64 b.x3, .int .i64 b.x4, .int .i64 b.x5, .int .i64 b.x6, .int .i64 b.x7], .agg #[.int .i64 u0, .int .i64 u1, .int .i64 u2, .int .i64 u3], .agg (rB 72 xs).toArray] [] [] (fun _ => []) (fun _ => .bool (dlater_0 r s n m c mode a b u0 u1 u2 u3 xs)) := by
 refine Con.of (enters_of Try.func12 (by kernel_rfl) rfl) fun w cs HS HH OW => ?_
 have H0 := D0_ok r s n m c mode
 have HA := injD_ok H0 ha
 have HB := injD_ok HA hb
 have HRL := fun i j => dRead_len (wrD_ok HB i lx) j
 refine (callsIn_wide (n := 6)).1 ?_
 refine callsIn_of_wp_marks Try.func12 rfl trivial ?_ rfl
 simp only [Try.ntmps12, eF, Nat.reduceAdd, Nat.reduceSub]
 gi_upto_region 0 with fail
 refine rg (fun q1 => [.m (bx 0),
  .m (bx 1),
  .m (bx 2),
  .m (bx 3),
  .m (bx 4),
  .v (.bool false)]) (fun q1 L => L ++ [ob ((q1 0).blk 0) #[.int .i64 r, .int .i64 s, .int .i64 n, .int .i64 m, .int .i64 c] 27, ob ((q1 1).blk 0) #[.int .i64 a.x0, .int .i64 a.x1, .int .i64 a.x2, .int .i64 a.x3, .int .i64 a.x4, .int .i64 a.x5, .int .i64 a.x6, .int .i64 a.x7] 25, ob ((q1 2).blk 0) #[.int .i64 b.x0, .int .i64 b.x1, .int .i64 b.x2, .int .i64 b.x3, .int .i64 b.x4, .int .i64 b.x5, .int .i64 b.x6, .int .i64 b.x7] 25, ob ((q1 3).blk 0) #[.int .i64 u0, .int .i64 u1, .int .i64 u2, .int .i64 u3] 23, ob ((q1 4).blk 0) (rB 72 xs).toArray 41]) OW ?_
 clear OW; intro q1 _ Wq1 OW; simp only [↓pc, ↓pn, vE, Hint.val, Act.put, eL]
 gi_upto_region 1 with fail
 refine rg (fun q2 => [.c [] [] (danchor),
  .v (.bool false)]) (fun _ L => L) OW ?_
 clear OW; intro q2 _ Wq2 OW; simp only [↓pc, ↓pn, vE, Hint.val, Act.put, eL]
 gi_upto_region 3 with fail
 refine rg (fun q3 => [.m (ls 0 ([.int .i64 r, .int .i64 s, .int .i64 n, .int .i64 m, .int .i64 c])),
  .v (.int .i64 mode),
  .c [] [5] (dNew r s n m c mode hg hm),
  .v (.tuple #[.pointer (some ⟨((q3 2).blk 0), 0, none⟩), .int .i64 0]),
  .v (.pointer (some ⟨((q3 2).blk 0), 0, none⟩)),
  .v (.int .i64 0),
  .v (.pointer (some ⟨((q3 2).blk 0), 0, none⟩)),
  .v (.int .i64 0)]) (fun q3 L => L ++ [.p (PkE (DramS (((q3 2).blk 0)) (D0 r s n m c mode)))]) OW ?_
 clear OW; intro q3 _ Wq3 OW; simp only [↓pc, ↓pn, vE, Hint.val, Act.put, eL]
 gi_upto_region 4 with fail
 refine rg (fun q4 => [.v (.int .i64 0),
  .v (.bool false),
  .v (.bool false),
  .v (.pointer (some ⟨((q3 2).blk 0), 0, none⟩)),
  .v (.bool false),
  .k (.bool false)]) (fun _ L => L) OW ?_
 clear OW; intro q4 _ Wq4 OW; simp only [↓pc, ↓pn, vE, Hint.val, Act.put, eL]
 gi_upto_region 6 with fail
 refine rg (fun q5 => [.m (ls 0 ([.int .i64 r, .int .i64 s, .int .i64 n, .int .i64 m, .int .i64 c])),
  .m (ls 3 ([.int .i64 u0, .int .i64 u1, .int .i64 u2, .int .i64 u3])),
  .c [] [] (gindex r s n m c u0 u1 u2 u3),
  .v (.tuple #[.int .i64 (gindex_0 r s n m c u0 u1 u2 u3), .int .i64 (gindex_1 r s n m c u0 u1 u2 u3)]),
  .v (.int .i64 (gindex_0 r s n m c u0 u1 u2 u3)),
  .v (.int .i64 (gindex_1 r s n m c u0 u1 u2 u3)),
  .v (.int .i64 (gindex_0 r s n m c u0 u1 u2 u3)),
  .v (.int .i64 (gindex_1 r s n m c u0 u1 u2 u3))]) (fun _ L => L) OW ?_
 clear OW; intro q5 _ Wq5 OW; simp only [↓pc, ↓pn, vE, Hint.val, Act.put, eL]
 gi_upto_region 7 with fail
 refine rg (fun q6 => [.v (.int .i64 (gindex_1 r s n m c u0 u1 u2 u3)),
  .v (.bool ((gindex_1 r s n m c u0 u1 u2 u3) != 0)),
  .v (.bool ((gindex_1 r s n m c u0 u1 u2 u3) != 0)),
  .m (ls 1 ([.int .i64 a.x0, .int .i64 a.x1, .int .i64 a.x2, .int .i64 a.x3, .int .i64 a.x4, .int .i64 a.x5, .int .i64 a.x6, .int .i64 a.x7])),
  .c [] [] (conB (enters_of Try.func19 (by kernel_rfl) rfl) fun w' => (flasts_any a.x0 a.x1 a.x2 a.x3 a.x4 a.x5 a.x6 a.x7 _)),
  .v (.bool (!(flasts a.x0 a.x1 a.x2 a.x3 a.x4 a.x5 a.x6 a.x7))),
  .k (.bool (((gindex_1 r s n m c u0 u1 u2 u3) != 0) || (!(flasts a.x0 a.x1 a.x2 a.x3 a.x4 a.x5 a.x6 a.x7)))),
  .v (.bool (((gindex_1 r s n m c u0 u1 u2 u3) != 0) || (!(flasts a.x0 a.x1 a.x2 a.x3 a.x4 a.x5 a.x6 a.x7)))),
  .m (ls 2 ([.int .i64 b.x0, .int .i64 b.x1, .int .i64 b.x2, .int .i64 b.x3, .int .i64 b.x4, .int .i64 b.x5, .int .i64 b.x6, .int .i64 b.x7])),
  .c [] [] (conB (enters_of Try.func19 (by kernel_rfl) rfl) fun w' => (flasts_any b.x0 b.x1 b.x2 b.x3 b.x4 b.x5 b.x6 b.x7 _)),
  .v (.bool (!(flasts b.x0 b.x1 b.x2 b.x3 b.x4 b.x5 b.x6 b.x7))),
  .k (.bool ((((gindex_1 r s n m c u0 u1 u2 u3) != 0) || (!(flasts a.x0 a.x1 a.x2 a.x3 a.x4 a.x5 a.x6 a.x7))) || (!(flasts b.x0 b.x1 b.x2 b.x3 b.x4 b.x5 b.x6 b.x7)))),
  .v (.bool ((((gindex_1 r s n m c u0 u1 u2 u3) != 0) || (!(flasts a.x0 a.x1 a.x2 a.x3 a.x4 a.x5 a.x6 a.x7))) || (!(flasts b.x0 b.x1 b.x2 b.x3 b.x4 b.x5 b.x6 b.x7)))),
  .m (ls 2 ([.int .i64 b.x0, .int .i64 b.x1, .int .i64 b.x2, .int .i64 b.x3, .int .i64 b.x4, .int .i64 b.x5, .int .i64 b.x6, .int .i64 b.x7])),
  .c [] [] (conB (enters_of Try.func22 (by kernel_rfl) rfl) fun w' => (fnarrow_any b.x0 b.x1 b.x2 b.x3 b.x4 b.x5 b.x6 b.x7 _)),
  .k (.bool (((((gindex_1 r s n m c u0 u1 u2 u3) != 0) || (!(flasts a.x0 a.x1 a.x2 a.x3 a.x4 a.x5 a.x6 a.x7))) || (!(flasts b.x0 b.x1 b.x2 b.x3 b.x4 b.x5 b.x6 b.x7))) || (fnarrow b.x0 b.x1 b.x2 b.x3 b.x4 b.x5 b.x6 b.x7))),
  .v (.bool (((((gindex_1 r s n m c u0 u1 u2 u3) != 0) || (!(flasts a.x0 a.x1 a.x2 a.x3 a.x4 a.x5 a.x6 a.x7))) || (!(flasts b.x0 b.x1 b.x2 b.x3 b.x4 b.x5 b.x6 b.x7))) || (fnarrow b.x0 b.x1 b.x2 b.x3 b.x4 b.x5 b.x6 b.x7))),
  .m (ls 2 ([.int .i64 b.x0, .int .i64 b.x1, .int .i64 b.x2, .int .i64 b.x3, .int .i64 b.x4, .int .i64 b.x5, .int .i64 b.x6, .int .i64 b.x7])),
  .m (ls 3 ([.int .i64 u0, .int .i64 u1, .int .i64 u2, .int .i64 u3])),
  .c [] [] (conB (enters_of Try.func20 (by kernel_rfl) rfl) fun w' => (flies_any b.x0 b.x1 b.x2 b.x3 b.x4 b.x5 b.x6 b.x7 u0 u1 u2 u3 _)),
  .v (.bool (!(flies b.x0 b.x1 b.x2 b.x3 b.x4 b.x5 b.x6 b.x7 u0 u1 u2 u3))),
  .k (.bool ((((((gindex_1 r s n m c u0 u1 u2 u3) != 0) || (!(flasts a.x0 a.x1 a.x2 a.x3 a.x4 a.x5 a.x6 a.x7))) || (!(flasts b.x0 b.x1 b.x2 b.x3 b.x4 b.x5 b.x6 b.x7))) || (fnarrow b.x0 b.x1 b.x2 b.x3 b.x4 b.x5 b.x6 b.x7)) || (!(flies b.x0 b.x1 b.x2 b.x3 b.x4 b.x5 b.x6 b.x7 u0 u1 u2 u3)))),
  .v (.bool ((((((gindex_1 r s n m c u0 u1 u2 u3) != 0) || (!(flasts a.x0 a.x1 a.x2 a.x3 a.x4 a.x5 a.x6 a.x7))) || (!(flasts b.x0 b.x1 b.x2 b.x3 b.x4 b.x5 b.x6 b.x7))) || (fnarrow b.x0 b.x1 b.x2 b.x3 b.x4 b.x5 b.x6 b.x7)) || (!(flies b.x0 b.x1 b.x2 b.x3 b.x4 b.x5 b.x6 b.x7 u0 u1 u2 u3)))),
  .m (ls 1 ([.int .i64 a.x0, .int .i64 a.x1, .int .i64 a.x2, .int .i64 a.x3, .int .i64 a.x4, .int .i64 a.x5, .int .i64 a.x6, .int .i64 a.x7])),
  .v (.int .i64 mode),
  .c [] [] (conB (enters_of Try.func27 (by kernel_rfl) rfl) fun w' => (fcovers_any a.x0 a.x1 a.x2 a.x3 a.x4 a.x5 a.x6 a.x7 mode (by first | exact ha.1 | exact hb.1) (by first | exact ha.2 | exact hb.2) _)),
  .m (ls 2 ([.int .i64 b.x0, .int .i64 b.x1, .int .i64 b.x2, .int .i64 b.x3, .int .i64 b.x4, .int .i64 b.x5, .int .i64 b.x6, .int .i64 b.x7])),
  .v (.int .i64 mode),
  .c [] [] (conB (enters_of Try.func27 (by kernel_rfl) rfl) fun w' => (fcovers_any b.x0 b.x1 b.x2 b.x3 b.x4 b.x5 b.x6 b.x7 mode (by first | exact ha.1 | exact hb.1) (by first | exact ha.2 | exact hb.2) _)),
  .v (.bool ((fcovers a.x0 a.x1 a.x2 a.x3 a.x4 a.x5 a.x6 a.x7 mode) != (fcovers b.x0 b.x1 b.x2 b.x3 b.x4 b.x5 b.x6 b.x7 mode))),
  .k (.bool (((((((gindex_1 r s n m c u0 u1 u2 u3) != 0) || (!(flasts a.x0 a.x1 a.x2 a.x3 a.x4 a.x5 a.x6 a.x7))) || (!(flasts b.x0 b.x1 b.x2 b.x3 b.x4 b.x5 b.x6 b.x7))) || (fnarrow b.x0 b.x1 b.x2 b.x3 b.x4 b.x5 b.x6 b.x7)) || (!(flies b.x0 b.x1 b.x2 b.x3 b.x4 b.x5 b.x6 b.x7 u0 u1 u2 u3))) || ((fcovers a.x0 a.x1 a.x2 a.x3 a.x4 a.x5 a.x6 a.x7 mode) != (fcovers b.x0 b.x1 b.x2 b.x3 b.x4 b.x5 b.x6 b.x7 mode))))]) (fun _ L => L) OW ?_
 clear OW; intro q6 _ Wq6 OW; simp only [↓pc, ↓pn, vE, Hint.val, Act.put, eL]
 cases hB7 : (((((((gindex_1 r s n m c u0 u1 u2 u3) != 0) || (!(flasts a.x0 a.x1 a.x2 a.x3 a.x4 a.x5 a.x6 a.x7))) || (!(flasts b.x0 b.x1 b.x2 b.x3 b.x4 b.x5 b.x6 b.x7))) || (fnarrow b.x0 b.x1 b.x2 b.x3 b.x4 b.x5 b.x6 b.x7)) || (!(flies b.x0 b.x1 b.x2 b.x3 b.x4 b.x5 b.x6 b.x7 u0 u1 u2 u3))) || ((fcovers a.x0 a.x1 a.x2 a.x3 a.x4 a.x5 a.x6 a.x7 mode) != (fcovers b.x0 b.x1 b.x2 b.x3 b.x4 b.x5 b.x6 b.x7 mode)))
 case true =>
  gi_upto_region 8 with fail
  refine rg (fun q8 => [.v (.bool true)]) (fun _ L => L) OW ?_
  clear OW; intro q8 _ Wq8 OW; simp only [↓pc, ↓pn, vE, Hint.val, Act.put, eL]
  gi_wp2
  exact leafE HS HH OW [.t (.bool true)] Env.zero [] [] (by (try simp only [dlater_0]); (repeat (first | rw [hB7] | rw [cond_true] | rw [cond_false])); first | rfl | kernel_rfl) (by kernel_rfl) (by (try simp only [dlater_0]); (repeat (first | rw [hB7] | rw [cond_true] | rw [cond_false])); kernel_rfl)
 gi_upto_region 9 with fail
 cases hB9 : ((dInject_0 (D0 r s n m c mode) a) != 0)
 case true =>
  have dhB9 := bne_iff_ne.1 hB9
  gi_upto_region 9 with fail
  refine rg (fun q10 => [.v (.pointer (some ⟨((q3 2).blk 0), 0, none⟩)),
   .m (ls 1 ([.int .i64 a.x0, .int .i64 a.x1, .int .i64 a.x2, .int .i64 a.x3, .int .i64 a.x4, .int .i64 a.x5, .int .i64 a.x6, .int .i64 a.x7])),
   .c [5] [5] (dInject ((q3 2).blk 0) (D0 r s n m c mode) a (by first | exact H0 | exact HA) (by first | exact ha | exact hb)),
   .t (tk (show Value.bool ((dInject_0 (D0 r s n m c mode) a) != 0) = .bool true from congrArg Value.bool hB9)),
   .v (.bool true),
   .d (.bool false),
   .d (.bool false),
   .d (.bool false),
   .d (.bool false),
   .k (.bool true)]) (fun q10 L => L.set 5 (.p (PkE (DramS ((q3 2).blk 0) (injD (D0 r s n m c mode) a))))) OW ?_
  clear OW; intro q10 _ Wq10 OW; simp only [↓pc, ↓pn, vE, Hint.val, Act.put, eL]
  gi_upto_region 10 with fail
  refine rg (fun q11 => [.m (ls 1 ([.int .i64 a.x0, .int .i64 a.x1, .int .i64 a.x2, .int .i64 a.x3, .int .i64 a.x4, .int .i64 a.x5, .int .i64 a.x6, .int .i64 a.x7])),
   .m (ls 0 ([.int .i64 r, .int .i64 s, .int .i64 n, .int .i64 m, .int .i64 c])),
   .v (.int .i64 mode),
   .c [] [] (conB (enters_of Try.func17 (by kernel_rfl) rfl) fun w' => (fright_any a.x0 a.x1 a.x2 a.x3 a.x4 a.x5 a.x6 a.x7 r s n m c mode _)),
   .v (.bool (!(fright a.x0 a.x1 a.x2 a.x3 a.x4 a.x5 a.x6 a.x7 r s n m c mode))),
   .v (.bool (!(fright a.x0 a.x1 a.x2 a.x3 a.x4 a.x5 a.x6 a.x7 r s n m c mode))),
   .m (ls 2 ([.int .i64 b.x0, .int .i64 b.x1, .int .i64 b.x2, .int .i64 b.x3, .int .i64 b.x4, .int .i64 b.x5, .int .i64 b.x6, .int .i64 b.x7])),
   .m (ls 0 ([.int .i64 r, .int .i64 s, .int .i64 n, .int .i64 m, .int .i64 c])),
   .v (.int .i64 mode),
   .c [] [] (conB (enters_of Try.func17 (by kernel_rfl) rfl) fun w' => (fright_any b.x0 b.x1 b.x2 b.x3 b.x4 b.x5 b.x6 b.x7 r s n m c mode _)),
   .v (.bool (!(fright b.x0 b.x1 b.x2 b.x3 b.x4 b.x5 b.x6 b.x7 r s n m c mode))),
   .k (.bool ((!(fright a.x0 a.x1 a.x2 a.x3 a.x4 a.x5 a.x6 a.x7 r s n m c mode)) || (!(fright b.x0 b.x1 b.x2 b.x3 b.x4 b.x5 b.x6 b.x7 r s n m c mode)))),
   .v (.bool ((!(fright a.x0 a.x1 a.x2 a.x3 a.x4 a.x5 a.x6 a.x7 r s n m c mode)) || (!(fright b.x0 b.x1 b.x2 b.x3 b.x4 b.x5 b.x6 b.x7 r s n m c mode))))]) (fun _ L => L) OW ?_
  clear OW; intro q11 _ Wq11 OW; simp only [↓pc, ↓pn, vE, Hint.val, Act.put, eL]
  gi_wp2
  exact leafE HS HH OW [.t (.bool ((!(fright a.x0 a.x1 a.x2 a.x3 a.x4 a.x5 a.x6 a.x7 r s n m c mode)) || (!(fright b.x0 b.x1 b.x2 b.x3 b.x4 b.x5 b.x6 b.x7 r s n m c mode))))] Env.zero [] [] (by (try simp only [dlater_0]); (repeat (first | rw [hB7] | rw [hB9] | rw [cond_true] | rw [cond_false])); first | rfl | kernel_rfl) (by kernel_rfl) (by (try simp only [dlater_0]); (repeat (first | rw [hB7] | rw [hB9] | rw [cond_true] | rw [cond_false])); kernel_rfl)
 have dhB9 := Lib.hid (eq_of_bne_false hB9)
 gi_upto_region 9 with fail
 refine rg (fun q12 => [.v (.pointer (some ⟨((q3 2).blk 0), 0, none⟩)),
  .m (ls 1 ([.int .i64 a.x0, .int .i64 a.x1, .int .i64 a.x2, .int .i64 a.x3, .int .i64 a.x4, .int .i64 a.x5, .int .i64 a.x6, .int .i64 a.x7])),
  .c [5] [5] (dInject ((q3 2).blk 0) (D0 r s n m c mode) a (by first | exact H0 | exact HA) (by first | exact ha | exact hb)),
  .t (tk (show Value.bool ((dInject_0 (D0 r s n m c mode) a) != 0) = .bool false from congrArg Value.bool hB9)),
  .v (.bool false),
  .v (.pointer (some ⟨((q3 2).blk 0), 0, none⟩)),
  .m (ls 2 ([.int .i64 b.x0, .int .i64 b.x1, .int .i64 b.x2, .int .i64 b.x3, .int .i64 b.x4, .int .i64 b.x5, .int .i64 b.x6, .int .i64 b.x7])),
  .c [5] [5] (dInject ((q3 2).blk 0) (injD (D0 r s n m c mode) a) b (by first | exact H0 | exact HA) (by first | exact ha | exact hb)),
  .v (.bool ((dInject_0 (injD (D0 r s n m c mode) a) b) != 0)),
  .k (.bool ((dInject_0 (injD (D0 r s n m c mode) a) b) != 0))]) (fun q12 L => L.set 5 (.p (PkE (DramS ((q3 2).blk 0) (injD (injD (D0 r s n m c mode) a) b))))) OW ?_
 clear OW; intro q12 _ Wq12 OW; simp only [↓pc, ↓pn, vE, Hint.val, Act.put, eL]
 cases hB13 : ((dInject_0 (injD (D0 r s n m c mode) a) b) != 0)
 case true =>
  have dhB13 := bne_iff_ne.1 hB13
  gi_upto_region 10 with fail
  refine rg (fun q14 => [.m (ls 1 ([.int .i64 a.x0, .int .i64 a.x1, .int .i64 a.x2, .int .i64 a.x3, .int .i64 a.x4, .int .i64 a.x5, .int .i64 a.x6, .int .i64 a.x7])),
   .m (ls 0 ([.int .i64 r, .int .i64 s, .int .i64 n, .int .i64 m, .int .i64 c])),
   .v (.int .i64 mode),
   .c [] [] (conB (enters_of Try.func17 (by kernel_rfl) rfl) fun w' => (fright_any a.x0 a.x1 a.x2 a.x3 a.x4 a.x5 a.x6 a.x7 r s n m c mode _)),
   .v (.bool (!(fright a.x0 a.x1 a.x2 a.x3 a.x4 a.x5 a.x6 a.x7 r s n m c mode))),
   .v (.bool (!(fright a.x0 a.x1 a.x2 a.x3 a.x4 a.x5 a.x6 a.x7 r s n m c mode))),
   .m (ls 2 ([.int .i64 b.x0, .int .i64 b.x1, .int .i64 b.x2, .int .i64 b.x3, .int .i64 b.x4, .int .i64 b.x5, .int .i64 b.x6, .int .i64 b.x7])),
   .m (ls 0 ([.int .i64 r, .int .i64 s, .int .i64 n, .int .i64 m, .int .i64 c])),
   .v (.int .i64 mode),
   .c [] [] (conB (enters_of Try.func17 (by kernel_rfl) rfl) fun w' => (fright_any b.x0 b.x1 b.x2 b.x3 b.x4 b.x5 b.x6 b.x7 r s n m c mode _)),
   .v (.bool (!(fright b.x0 b.x1 b.x2 b.x3 b.x4 b.x5 b.x6 b.x7 r s n m c mode))),
   .k (.bool ((!(fright a.x0 a.x1 a.x2 a.x3 a.x4 a.x5 a.x6 a.x7 r s n m c mode)) || (!(fright b.x0 b.x1 b.x2 b.x3 b.x4 b.x5 b.x6 b.x7 r s n m c mode)))),
   .v (.bool ((!(fright a.x0 a.x1 a.x2 a.x3 a.x4 a.x5 a.x6 a.x7 r s n m c mode)) || (!(fright b.x0 b.x1 b.x2 b.x3 b.x4 b.x5 b.x6 b.x7 r s n m c mode))))]) (fun _ L => L) OW ?_
  clear OW; intro q14 _ Wq14 OW; simp only [↓pc, ↓pn, vE, Hint.val, Act.put, eL]
  gi_wp2
  exact leafE HS HH OW [.t (.bool ((!(fright a.x0 a.x1 a.x2 a.x3 a.x4 a.x5 a.x6 a.x7 r s n m c mode)) || (!(fright b.x0 b.x1 b.x2 b.x3 b.x4 b.x5 b.x6 b.x7 r s n m c mode))))] Env.zero [] [] (by (try simp only [dlater_0]); (repeat (first | rw [hB7] | rw [hB9] | rw [hB13] | rw [cond_true] | rw [cond_false])); first | rfl | kernel_rfl) (by kernel_rfl) (by (try simp only [dlater_0]); (repeat (first | rw [hB7] | rw [hB9] | rw [hB13] | rw [cond_true] | rw [cond_false])); kernel_rfl)
 have dhB13 := Lib.hid (eq_of_bne_false hB13)
 gi_upto_region 11 with fail
 refine rg (fun q15 => [.v (.pointer (some ⟨((q3 2).blk 0), 0, none⟩)),
  .v (.int .i64 (gindex_0 r s n m c u0 u1 u2 u3)),
  .m (ls 4 (rB 72 xs)),
  .c [5] [5] (dWrite ((q3 2).blk 0) (injD (injD (D0 r s n m c mode) a) b) (gindex_0 r s n m c u0 u1 u2 u3) xs (by first | rfl | (simp only [List.length_set, List.length_append, List.length_replicate, List.length_cons, List.length_nil, List.length_map, List.length_range, List.length_take, List.length_drop, HRL, fapply_len, lx]; done) | (simp only [List.length_set, List.length_append, List.length_replicate, List.length_cons, List.length_nil, List.length_map, List.length_range, List.length_take, List.length_drop, HRL, fapply_len, lx]; omega)) HB)]) (fun q15 L => L.set 5 (.p (PkE (DramS ((q3 2).blk 0) (wrD (injD (injD (D0 r s n m c mode) a) b) (gindex_0 r s n m c u0 u1 u2 u3) xs))))) OW ?_
 clear OW; intro q15 _ Wq15 OW; simp only [↓pc, ↓pn, vE, Hint.val, Act.put, eL]
 gi_upto_region 12 with fail
 refine rg (fun q16 => [.v (.pointer (some ⟨((q3 2).blk 0), 0, none⟩)),
  .v (.int .i64 (gindex_0 r s n m c u0 u1 u2 u3)),
  .c [5] [5] (dRead ((q3 2).blk 0) (wrD (injD (injD (D0 r s n m c mode) a) b) (gindex_0 r s n m c u0 u1 u2 u3) xs) (gindex_0 r s n m c u0 u1 u2 u3) (wrD_ok HB _ lx)),
  .v (.tuple #[.agg (rB 72 (dRead_0 (wrD (injD (injD (D0 r s n m c mode) a) b) (gindex_0 r s n m c u0 u1 u2 u3) xs) (gindex_0 r s n m c u0 u1 u2 u3))).toArray, .agg #[.int .i64 (dRead_1 (wrD (injD (injD (D0 r s n m c mode) a) b) (gindex_0 r s n m c u0 u1 u2 u3) xs) (gindex_0 r s n m c u0 u1 u2 u3)), .bool (dRead_2 (wrD (injD (injD (D0 r s n m c mode) a) b) (gindex_0 r s n m c u0 u1 u2 u3) xs) (gindex_0 r s n m c u0 u1 u2 u3))], .int .i64 (dRead_3 (wrD (injD (injD (D0 r s n m c mode) a) b) (gindex_0 r s n m c u0 u1 u2 u3) xs) (gindex_0 r s n m c u0 u1 u2 u3))]),
  .v (.agg (rB 72 (dRead_0 (wrD (injD (injD (D0 r s n m c mode) a) b) (gindex_0 r s n m c u0 u1 u2 u3) xs) (gindex_0 r s n m c u0 u1 u2 u3))).toArray),
  .v (.agg #[.int .i64 (dRead_1 (wrD (injD (injD (D0 r s n m c mode) a) b) (gindex_0 r s n m c u0 u1 u2 u3) xs) (gindex_0 r s n m c u0 u1 u2 u3)), .bool (dRead_2 (wrD (injD (injD (D0 r s n m c mode) a) b) (gindex_0 r s n m c u0 u1 u2 u3) xs) (gindex_0 r s n m c u0 u1 u2 u3))]),
  .v (.int .i64 (dRead_3 (wrD (injD (injD (D0 r s n m c mode) a) b) (gindex_0 r s n m c u0 u1 u2 u3) xs) (gindex_0 r s n m c u0 u1 u2 u3))),
  .m (al 6),
  .m (al 7),
  .m (ss 6),
  .m (ss 7),
  .v (.int .i64 (dRead_3 (wrD (injD (injD (D0 r s n m c mode) a) b) (gindex_0 r s n m c u0 u1 u2 u3) xs) (gindex_0 r s n m c u0 u1 u2 u3)))]) (fun q16 L => L.set 5 (.p (PkE (DramS ((q3 2).blk 0) (rdD (wrD (injD (injD (D0 r s n m c mode) a) b) (gindex_0 r s n m c u0 u1 u2 u3) xs) (gindex_0 r s n m c u0 u1 u2 u3))))) ++ [ob ((q16 7).blk 0) (rB 72 (dRead_0 (wrD (injD (injD (D0 r s n m c mode) a) b) (gindex_0 r s n m c u0 u1 u2 u3) xs) (gindex_0 r s n m c u0 u1 u2 u3))).toArray 41, ob ((q16 8).blk 0) #[.int .i64 (dRead_1 (wrD (injD (injD (D0 r s n m c mode) a) b) (gindex_0 r s n m c u0 u1 u2 u3) xs) (gindex_0 r s n m c u0 u1 u2 u3)), .bool (dRead_2 (wrD (injD (injD (D0 r s n m c mode) a) b) (gindex_0 r s n m c u0 u1 u2 u3) xs) (gindex_0 r s n m c u0 u1 u2 u3))] 60]) OW ?_
 clear OW; intro q16 _ Wq16 OW; simp only [↓pc, ↓pn, vE, Hint.val, Act.put, eL]
 gi_upto_region 13 with fail
 refine rg (fun q17 => [.v (.int .i64 (dRead_3 (wrD (injD (injD (D0 r s n m c mode) a) b) (gindex_0 r s n m c u0 u1 u2 u3) xs) (gindex_0 r s n m c u0 u1 u2 u3))),
  .v (.bool ((dRead_3 (wrD (injD (injD (D0 r s n m c mode) a) b) (gindex_0 r s n m c u0 u1 u2 u3) xs) (gindex_0 r s n m c u0 u1 u2 u3)) == 0)),
  .v (.bool ((dRead_3 (wrD (injD (injD (D0 r s n m c mode) a) b) (gindex_0 r s n m c u0 u1 u2 u3) xs) (gindex_0 r s n m c u0 u1 u2 u3)) == 0)),
  .m (ls 6 (rB 72 (dRead_0 (wrD (injD (injD (D0 r s n m c mode) a) b) (gindex_0 r s n m c u0 u1 u2 u3) xs) (gindex_0 r s n m c u0 u1 u2 u3)))),
  .m (ls 2 ([.int .i64 b.x0, .int .i64 b.x1, .int .i64 b.x2, .int .i64 b.x3, .int .i64 b.x4, .int .i64 b.x5, .int .i64 b.x6, .int .i64 b.x7])),
  .v (.int .i64 mode),
  .m (ls 3 ([.int .i64 u0, .int .i64 u1, .int .i64 u2, .int .i64 u3])),
  .m (ls 4 (rB 72 xs)),
  .c [] [] (show Con _ 23 #[.agg #[.int .i64 b.x0, .int .i64 b.x1, .int .i64 b.x2, .int .i64 b.x3, .int .i64 b.x4, .int .i64 b.x5, .int .i64 b.x6, .int .i64 b.x7], .int .i64 mode, .agg #[.int .i64 u0, .int .i64 u1, .int .i64 u2, .int .i64 u3], .agg (rB 72 xs).toArray] _ _ _ fun _ => .agg (rB 72 (fapply b.x0 b.x1 b.x2 b.x3 b.x4 b.x5 b.x6 b.x7 mode u0 u1 u2 u3 xs)).toArray from conB (enters_of Try.func23 (by kernel_rfl) rfl) fun w' => (by rw [rB_raw (n := 72) (xs := xs) (show (xs).length = 72 by first | rfl | (simp only [List.length_set, List.length_append, List.length_replicate, List.length_cons, List.length_nil, List.length_map, List.length_range, List.length_take, List.length_drop, HRL, fapply_len, lx]; done) | (simp only [List.length_set, List.length_append, List.length_replicate, List.length_cons, List.length_nil, List.length_map, List.length_range, List.length_take, List.length_drop, HRL, fapply_len, lx]; omega)), rB_raw (n := 72) (xs := fapply b.x0 b.x1 b.x2 b.x3 b.x4 b.x5 b.x6 b.x7 mode u0 u1 u2 u3 xs) (show (fapply b.x0 b.x1 b.x2 b.x3 b.x4 b.x5 b.x6 b.x7 mode u0 u1 u2 u3 xs).length = 72 by first | rfl | (simp only [List.length_set, List.length_append, List.length_replicate, List.length_cons, List.length_nil, List.length_map, List.length_range, List.length_take, List.length_drop, HRL, fapply_len, lx]; done) | (simp only [List.length_set, List.length_append, List.length_replicate, List.length_cons, List.length_nil, List.length_map, List.length_range, List.length_take, List.length_drop, HRL, fapply_len, lx]; omega))]; exact fapply_any b.x0 b.x1 b.x2 b.x3 b.x4 b.x5 b.x6 b.x7 mode u0 u1 u2 u3 xs (by first | rfl | (simp only [List.length_set, List.length_append, List.length_replicate, List.length_cons, List.length_nil, List.length_map, List.length_range, List.length_take, List.length_drop, HRL, fapply_len, lx]; done) | (simp only [List.length_set, List.length_append, List.length_replicate, List.length_cons, List.length_nil, List.length_map, List.length_range, List.length_take, List.length_drop, HRL, fapply_len, lx]; omega)) hb.1 hb.2 _)),
  .t (tbT 41 fun _ _ _ => bin_eqT (xs := rB 72 (dRead_0 (wrD (injD (injD (D0 r s n m c mode) a) b) (gindex_0 r s n m c u0 u1 u2 u3) xs) (gindex_0 r s n m c u0 u1 u2 u3))) (ys := rB 72 (fapply b.x0 b.x1 b.x2 b.x3 b.x4 b.x5 b.x6 b.x7 mode u0 u1 u2 u3 xs)) (by kernel_rfl) (eqc_rB (show ((dRead_0 (wrD (injD (injD (D0 r s n m c mode) a) b) (gindex_0 r s n m c u0 u1 u2 u3) xs) (gindex_0 r s n m c u0 u1 u2 u3))).length = 72 by first | rfl | (simp only [List.length_set, List.length_append, List.length_replicate, List.length_cons, List.length_nil, List.length_map, List.length_range, List.length_take, List.length_drop, HRL, fapply_len, lx]; done) | (simp only [List.length_set, List.length_append, List.length_replicate, List.length_cons, List.length_nil, List.length_map, List.length_range, List.length_take, List.length_drop, HRL, fapply_len, lx]; omega)) (show (fapply b.x0 b.x1 b.x2 b.x3 b.x4 b.x5 b.x6 b.x7 mode u0 u1 u2 u3 xs).length = 72 by first | rfl | (simp only [List.length_set, List.length_append, List.length_replicate, List.length_cons, List.length_nil, List.length_map, List.length_range, List.length_take, List.length_drop, HRL, fapply_len, lx]; done) | (simp only [List.length_set, List.length_append, List.length_replicate, List.length_cons, List.length_nil, List.length_map, List.length_range, List.length_take, List.length_drop, HRL, fapply_len, lx]; omega)))),
  .k (.bool (((dRead_3 (wrD (injD (injD (D0 r s n m c mode) a) b) (gindex_0 r s n m c u0 u1 u2 u3) xs) (gindex_0 r s n m c u0 u1 u2 u3)) == 0) && (decide ((dRead_0 (wrD (injD (injD (D0 r s n m c mode) a) b) (gindex_0 r s n m c u0 u1 u2 u3) xs) (gindex_0 r s n m c u0 u1 u2 u3)) = fapply b.x0 b.x1 b.x2 b.x3 b.x4 b.x5 b.x6 b.x7 mode u0 u1 u2 u3 xs)))),
  .v (.bool (((dRead_3 (wrD (injD (injD (D0 r s n m c mode) a) b) (gindex_0 r s n m c u0 u1 u2 u3) xs) (gindex_0 r s n m c u0 u1 u2 u3)) == 0) && (decide ((dRead_0 (wrD (injD (injD (D0 r s n m c mode) a) b) (gindex_0 r s n m c u0 u1 u2 u3) xs) (gindex_0 r s n m c u0 u1 u2 u3)) = fapply b.x0 b.x1 b.x2 b.x3 b.x4 b.x5 b.x6 b.x7 mode u0 u1 u2 u3 xs))))]) (fun _ L => L) OW ?_
 clear OW; intro q17 _ Wq17 OW; simp only [↓pc, ↓pn, vE, Hint.val, Act.put, eL]
 gi_wp2
 exact leafE HS HH OW [.t (.bool (((dRead_3 (wrD (injD (injD (D0 r s n m c mode) a) b) (gindex_0 r s n m c u0 u1 u2 u3) xs) (gindex_0 r s n m c u0 u1 u2 u3)) == 0) && (decide ((dRead_0 (wrD (injD (injD (D0 r s n m c mode) a) b) (gindex_0 r s n m c u0 u1 u2 u3) xs) (gindex_0 r s n m c u0 u1 u2 u3)) = fapply b.x0 b.x1 b.x2 b.x3 b.x4 b.x5 b.x6 b.x7 mode u0 u1 u2 u3 xs))))] Env.zero [] [] (by (try simp only [dlater_0]); (repeat (first | rw [hB7] | rw [hB9] | rw [hB13] | rw [cond_true] | rw [cond_false])); first | rfl | kernel_rfl) (by kernel_rfl) (by (try simp only [dlater_0]); (repeat (first | rw [hB7] | rw [hB9] | rw [hB13] | rw [cond_true] | rw [cond_false])); kernel_rfl)
set_option maxRecDepth 100000 in
set_option maxHeartbeats 1000000 in
theorem dlaterG (r s n m c mode : Int) (a b : Fa) (u0 u1 u2 u3 : Int) (xs : List UInt8) (lx : xs.length = 72) (hg : gright r s n m c = false) : Con Try.prog 12 #[.agg #[.int .i64 r, .int .i64 s, .int .i64 n, .int .i64 m, .int .i64 c], .int .i64 mode, .agg #[.int .i64 a.x0, .int .i64 a.x1, .int .i64 a.x2, .int .i64 a.x3, .int .i64 a.x4, .int .i64 a.x5, .int .i64 a.x6, .int .i64 a.x7], .agg #[.int .i64 b.x0, .int .i64 b.x1, .int .i64 b.x2, .int .i64 b.x3, .int .i64 b.x4, .int .i64 b.x5, .int .i64 b.x6, .int .i64 b.x7], .agg #[.int .i64 u0, .int .i64 u1, .int .i64 u2, .int .i64 u3], .agg (rB 72 xs).toArray] [] [] (fun _ => []) (fun _ => .bool true) := by
 refine Con.of (enters_of Try.func12 (by kernel_rfl) rfl) fun w cs HS HH OW => ?_
 refine (callsIn_wide (n := 6)).1 ?_
 refine callsIn_of_wp_marks Try.func12 rfl trivial ?_ rfl
 simp only [Try.ntmps12, eF, Nat.reduceAdd, Nat.reduceSub]
 gi_upto_region 0 with fail
 refine rg (fun q1 => [.m (bx 0),
  .m (bx 1),
  .m (bx 2),
  .m (bx 3),
  .m (bx 4),
  .v (.bool false)]) (fun q1 L => L ++ [ob ((q1 0).blk 0) #[.int .i64 r, .int .i64 s, .int .i64 n, .int .i64 m, .int .i64 c] 27, ob ((q1 1).blk 0) #[.int .i64 a.x0, .int .i64 a.x1, .int .i64 a.x2, .int .i64 a.x3, .int .i64 a.x4, .int .i64 a.x5, .int .i64 a.x6, .int .i64 a.x7] 25, ob ((q1 2).blk 0) #[.int .i64 b.x0, .int .i64 b.x1, .int .i64 b.x2, .int .i64 b.x3, .int .i64 b.x4, .int .i64 b.x5, .int .i64 b.x6, .int .i64 b.x7] 25, ob ((q1 3).blk 0) #[.int .i64 u0, .int .i64 u1, .int .i64 u2, .int .i64 u3] 23, ob ((q1 4).blk 0) (rB 72 xs).toArray 41]) OW ?_
 clear OW; intro q1 _ Wq1 OW; simp only [↓pc, ↓pn, vE, Hint.val, Act.put, eL]
 gi_upto_region 1 with fail
 refine rg (fun q2 => [.c [] [] (danchor),
  .v (.bool false)]) (fun _ L => L) OW ?_
 clear OW; intro q2 _ Wq2 OW; simp only [↓pc, ↓pn, vE, Hint.val, Act.put, eL]
 gi_upto_region 3 with fail
 refine rg (fun q3 => [.m (ls 0 ([.int .i64 r, .int .i64 s, .int .i64 n, .int .i64 m, .int .i64 c])),
  .v (.int .i64 mode),
  .c [] [] (dNewG r s n m c mode hg),
  .v (.tuple #[.pointer none, .int .i64 20]),
  .v (.pointer none),
  .v (.int .i64 20),
  .v (.pointer none),
  .v (.int .i64 20)]) (fun _ L => L) OW ?_
 clear OW; intro q3 _ Wq3 OW; simp only [↓pc, ↓pn, vE, Hint.val, Act.put, eL]
 gi_upto_region 4 with fail
 refine rg (fun q4 => [.v (.int .i64 20),
  .v (.bool true),
  .v (.bool true),
  .d (.bool false),
  .d (.bool false),
  .k (.bool true)]) (fun _ L => L) OW ?_
 clear OW; intro q4 _ Wq4 OW; simp only [↓pc, ↓pn, vE, Hint.val, Act.put, eL]
 gi_upto_region 5 with fail
 refine rg (fun q5 => [.v (.pointer none),
  .v (.bool true),
  .v (.bool true)]) (fun _ L => L) OW ?_
 clear OW; intro q5 _ Wq5 OW; simp only [↓pc, ↓pn, vE, Hint.val, Act.put, eL]
 gi_wp2
 exact leafE HS HH OW [.t (.bool true)] Env.zero [] [] rfl
set_option maxRecDepth 100000 in
set_option maxHeartbeats 1000000 in
theorem dlaterM (r s n m c mode : Int) (a b : Fa) (u0 u1 u2 u3 : Int) (xs : List UInt8) (lx : xs.length = 72) (hg : gright r s n m c = true) (hm : rightB mode = false) : Con Try.prog 12 #[.agg #[.int .i64 r, .int .i64 s, .int .i64 n, .int .i64 m, .int .i64 c], .int .i64 mode, .agg #[.int .i64 a.x0, .int .i64 a.x1, .int .i64 a.x2, .int .i64 a.x3, .int .i64 a.x4, .int .i64 a.x5, .int .i64 a.x6, .int .i64 a.x7], .agg #[.int .i64 b.x0, .int .i64 b.x1, .int .i64 b.x2, .int .i64 b.x3, .int .i64 b.x4, .int .i64 b.x5, .int .i64 b.x6, .int .i64 b.x7], .agg #[.int .i64 u0, .int .i64 u1, .int .i64 u2, .int .i64 u3], .agg (rB 72 xs).toArray] [] [] (fun _ => []) (fun _ => .bool true) := by
 refine Con.of (enters_of Try.func12 (by kernel_rfl) rfl) fun w cs HS HH OW => ?_
 refine (callsIn_wide (n := 6)).1 ?_
 refine callsIn_of_wp_marks Try.func12 rfl trivial ?_ rfl
 simp only [Try.ntmps12, eF, Nat.reduceAdd, Nat.reduceSub]
 gi_upto_region 0 with fail
 refine rg (fun q1 => [.m (bx 0),
  .m (bx 1),
  .m (bx 2),
  .m (bx 3),
  .m (bx 4),
  .v (.bool false)]) (fun q1 L => L ++ [ob ((q1 0).blk 0) #[.int .i64 r, .int .i64 s, .int .i64 n, .int .i64 m, .int .i64 c] 27, ob ((q1 1).blk 0) #[.int .i64 a.x0, .int .i64 a.x1, .int .i64 a.x2, .int .i64 a.x3, .int .i64 a.x4, .int .i64 a.x5, .int .i64 a.x6, .int .i64 a.x7] 25, ob ((q1 2).blk 0) #[.int .i64 b.x0, .int .i64 b.x1, .int .i64 b.x2, .int .i64 b.x3, .int .i64 b.x4, .int .i64 b.x5, .int .i64 b.x6, .int .i64 b.x7] 25, ob ((q1 3).blk 0) #[.int .i64 u0, .int .i64 u1, .int .i64 u2, .int .i64 u3] 23, ob ((q1 4).blk 0) (rB 72 xs).toArray 41]) OW ?_
 clear OW; intro q1 _ Wq1 OW; simp only [↓pc, ↓pn, vE, Hint.val, Act.put, eL]
 gi_upto_region 1 with fail
 refine rg (fun q2 => [.c [] [] (danchor),
  .v (.bool false)]) (fun _ L => L) OW ?_
 clear OW; intro q2 _ Wq2 OW; simp only [↓pc, ↓pn, vE, Hint.val, Act.put, eL]
 gi_upto_region 3 with fail
 refine rg (fun q3 => [.m (ls 0 ([.int .i64 r, .int .i64 s, .int .i64 n, .int .i64 m, .int .i64 c])),
  .v (.int .i64 mode),
  .c [] [] (dNewM r s n m c mode hg hm),
  .v (.tuple #[.pointer none, .int .i64 21]),
  .v (.pointer none),
  .v (.int .i64 21),
  .v (.pointer none),
  .v (.int .i64 21)]) (fun _ L => L) OW ?_
 clear OW; intro q3 _ Wq3 OW; simp only [↓pc, ↓pn, vE, Hint.val, Act.put, eL]
 gi_upto_region 4 with fail
 refine rg (fun q4 => [.v (.int .i64 21),
  .v (.bool true),
  .v (.bool true),
  .d (.bool false),
  .d (.bool false),
  .k (.bool true)]) (fun _ L => L) OW ?_
 clear OW; intro q4 _ Wq4 OW; simp only [↓pc, ↓pn, vE, Hint.val, Act.put, eL]
 gi_upto_region 5 with fail
 refine rg (fun q5 => [.v (.pointer none),
  .v (.bool true),
  .v (.bool true)]) (fun _ L => L) OW ?_
 clear OW; intro q5 _ Wq5 OW; simp only [↓pc, ↓pn, vE, Hint.val, Act.put, eL]
 gi_wp2
 exact leafE HS HH OW [.t (.bool true)] Env.zero [] [] rfl
end Go.Proofs.Ytckhkagkpldoiaa.E
