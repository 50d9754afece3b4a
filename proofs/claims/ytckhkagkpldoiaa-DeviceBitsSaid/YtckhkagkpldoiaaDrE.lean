/- The chips: writes, reads, faults put in. -/
import Derived.Test.YtckhkagkpldoiaaDrD
import Derived.WalkKit
import Derived.Sort.CutIn
import Derived.IntWalk
namespace Go.Proofs.Ytckhkagkpldoiaa.E
open Go Go.RowKit Go.Shelf
attribute [local go_sem] Oper.semAt_some
set_option linter.unusedVariables false
set_option linter.unusedSimpArgs false

def wrD (D : Dr) (i : Int) (r : List UInt8) : Dr := bif (gat_4 D.g0 D.g1 D.g2 D.g3 D.g4 i != 0) then D else bif !dwent_1 D then { dwD D with cells := upI (dwD D).cells (dwent_0 D i) r } else dwD D
def rdD (D : Dr) (i : Int) : Dr := bif (gat_4 D.g0 D.g1 D.g2 D.g3 D.g4 i != 0) then D else dwD D
theorem dwD_ok {D : Dr} (h : DrOk D) : DrOk (dwD D) := by
  unfold dwD
  cases hb : ((D.coming.length : Int) == 0)
  · exact ⟨h.cl, h.l1, by simp only [cond_false, List.length_drop]; have := h.l2; omega, h.f1, fun f hf => h.f2 f (List.mem_of_mem_drop hf)⟩
  · exact h
theorem upI_len {f : Int → List UInt8} {n : Nat} (h : ∀ k, (f k).length = n) (i : Int) {r : List UInt8} (hr : r.length = n) (k : Int) : (upI f i r k).length = n := by
  unfold upI
  split <;> simp [*]
theorem wrD_ok {D : Dr} (h : DrOk D) (i : Int) {r : List UInt8} (hr : r.length = 72) : DrOk (wrD D i r) := by
  unfold wrD
  cases gat_4 D.g0 D.g1 D.g2 D.g3 D.g4 i != 0
  · cases dwent_1 D
    · exact ⟨upI_len (dwD_ok h).cl _ hr, (dwD_ok h).l1, (dwD_ok h).l2, (dwD_ok h).f1, (dwD_ok h).f2⟩
    · exact dwD_ok h
  · exact h
theorem rdD_ok {D : Dr} (h : DrOk D) (i : Int) : DrOk (rdD D i) := by
  unfold rdD
  cases gat_4 D.g0 D.g1 D.g2 D.g3 D.g4 i != 0
  · exact dwD_ok h
  · exact h
attribute [local irreducible] fapply ovF gat_0 gat_1 gat_2 gat_3 gat_4 gindex_0 gindex_1 dwent_0 dwent_1 dwD dLook_0 dLook_1
def dWrite_0 (D : Dr) (i : Int) : Int := (bif (gat_4 D.g0 D.g1 D.g2 D.g3 D.g4 i) != 0 then 0 else (dwent_0 D i))
def dWrite_1 (D : Dr) (i : Int) : Bool := (bif (gat_4 D.g0 D.g1 D.g2 D.g3 D.g4 i) != 0 then false else (dwent_1 D))
def dWrite_2 (D : Dr) (i : Int) : Int := (bif (gat_4 D.g0 D.g1 D.g2 D.g3 D.g4 i) != 0 then (gat_4 D.g0 D.g1 D.g2 D.g3 D.g4 i) else 0)
def dWrite_3 (g : Nat) (D : Dr) (i : Int) (r : List UInt8) : Objs → Prop := (bif (gat_4 D.g0 D.g1 D.g2 D.g3 D.g4 i) != 0 then PkE (DramS g D) else (bif !(dwent_1 D) then PkE (DramS g { dwD D with cells := (upI ((dwD D).cells) (dwent_0 D i) r) }) else PkE (DramS g (dwD D))))
set_option maxRecDepth 100000 in
set_option maxHeartbeats 1000000 in
theorem dWrite (g : Nat) (D : Dr) (i : Int) (r : List UInt8) (lr : r.length = 72) (hD : DrOk D) : Con Try.prog 32 #[.pointer (some ⟨g, 0, none⟩), .int .i64 i, .agg (rB 72 r).toArray] [.p (PkE (DramS g D))] [0] (fun _ => [.p (PkE (DramS g (wrD D i r)))]) (fun _ => .tuple #[.agg #[.int .i64 (dWrite_0 D i), .bool (dWrite_1 D i)], .int .i64 (dWrite_2 D i)]) := by
 refine Con.of (enters_of Try.func32 (by kernel_rfl) rfl) fun w cs HS HH OW => ?_
 refine (callsIn_wide (n := 6)).1 ?_
 refine callsIn_of_wp_marks Try.func32 rfl trivial ?_ rfl
 simp only [Try.ntmps32, eF, Nat.reduceAdd, Nat.reduceSub]
 gi_upto_region 0 with fail
 refine rg (fun q1 => [.m (bx 1),
  .m (al 2),
  .v (.int .i64 0)]) (fun q1 L => L ++ [ob ((q1 0).blk 0) (rB 72 r).toArray 41, ob ((q1 1).blk 0) #[.int .i64 0, .bool false] 60]) OW ?_
 clear OW; intro q1 _ Wq1 OW; simp only [↓pc, ↓pn, vE, Hint.val, Act.put, eL]
 gi_upto_region 1 with fail
 obtain ⟨L4, ⟨gm, v1, v2, rfl⟩, OW0⟩ := OW.out.openE (S := DramS g D) 0
 replace OW := Lib.hid (OwnE.cast (L' := [.c [], ob ((q1 0).blk 0) (rB 72 r).toArray 41, ob ((q1 1).blk 0) #[.int .i64 0, .bool false] 60, ob g #[.int .i64 D.g0, .int .i64 D.g1, .int .i64 D.g2, .int .i64 D.g3, .int .i64 D.g4, .int .i64 D.mode, .map (some gm), v1, v2] 125, mpRw D.cells gm, slFa v1 D.lasts, slFa v2 D.coming]) OW0 (by kernel_rfl)); clear OW0
 refine rg (fun q2 => [.v (.pointer (some ⟨g, 0, none⟩)),
  .v (.pointer (some ⟨g, 0, none⟩)),
  .v (.pointer (some ⟨g, 0, none⟩)),
  .m (ls 3 ([.int .i64 D.g0, .int .i64 D.g1, .int .i64 D.g2, .int .i64 D.g3, .int .i64 D.g4])),
  .v (.int .i64 i),
  .c [] [] (gat D.g0 D.g1 D.g2 D.g3 D.g4 i),
  .v (.tuple #[.agg #[.int .i64 (gat_0 D.g0 D.g1 D.g2 D.g3 D.g4 i), .int .i64 (gat_1 D.g0 D.g1 D.g2 D.g3 D.g4 i), .int .i64 (gat_2 D.g0 D.g1 D.g2 D.g3 D.g4 i), .int .i64 (gat_3 D.g0 D.g1 D.g2 D.g3 D.g4 i)], .int .i64 (gat_4 D.g0 D.g1 D.g2 D.g3 D.g4 i)]),
  .v (.agg #[.int .i64 (gat_0 D.g0 D.g1 D.g2 D.g3 D.g4 i), .int .i64 (gat_1 D.g0 D.g1 D.g2 D.g3 D.g4 i), .int .i64 (gat_2 D.g0 D.g1 D.g2 D.g3 D.g4 i), .int .i64 (gat_3 D.g0 D.g1 D.g2 D.g3 D.g4 i)]),
  .v (.int .i64 (gat_4 D.g0 D.g1 D.g2 D.g3 D.g4 i)),
  .m (al 7),
  .m (ss 7),
  .v (.int .i64 (gat_4 D.g0 D.g1 D.g2 D.g3 D.g4 i))]) (fun q2 L => L ++ [ob ((q2 9).blk 0) #[.int .i64 (gat_0 D.g0 D.g1 D.g2 D.g3 D.g4 i), .int .i64 (gat_1 D.g0 D.g1 D.g2 D.g3 D.g4 i), .int .i64 (gat_2 D.g0 D.g1 D.g2 D.g3 D.g4 i), .int .i64 (gat_3 D.g0 D.g1 D.g2 D.g3 D.g4 i)] 23]) OW ?_
 clear OW; intro q2 _ Wq2 OW; simp only [↓pc, ↓pn, vE, Hint.val, Act.put, eL]
 gi_upto_region 2 with fail
 replace OW := Lib.hid (OwnE.re (L' := [.c [], ob ((q1 0).blk 0) (rB 72 r).toArray 41, ob ((q1 1).blk 0) #[.int .i64 0, .bool false] 60, ob ((q2 9).blk 0) #[.int .i64 (gat_0 D.g0 D.g1 D.g2 D.g3 D.g4 i), .int .i64 (gat_1 D.g0 D.g1 D.g2 D.g3 D.g4 i), .int .i64 (gat_2 D.g0 D.g1 D.g2 D.g3 D.g4 i), .int .i64 (gat_3 D.g0 D.g1 D.g2 D.g3 D.g4 i)] 23, .p (PkE (DramS g D))]) OW.out [[0], [1], [2], [7], [3, 4, 5, 6]] (Ns := [[.c []], [ob ((q1 0).blk 0) (rB 72 r).toArray 41], [ob ((q1 1).blk 0) #[.int .i64 0, .bool false] 60], [ob ((q2 9).blk 0) #[.int .i64 (gat_0 D.g0 D.g1 D.g2 D.g3 D.g4 i), .int .i64 (gat_1 D.g0 D.g1 D.g2 D.g3 D.g4 i), .int .i64 (gat_2 D.g0 D.g1 D.g2 D.g3 D.g4 i), .int .i64 (gat_3 D.g0 D.g1 D.g2 D.g3 D.g4 i)] 23], [ob g #[.int .i64 D.g0, .int .i64 D.g1, .int .i64 D.g2, .int .i64 D.g3, .int .i64 D.g4, .int .i64 D.mode, .map (some gm), v1, v2] 125, mpRw D.cells gm, slFa v1 D.lasts, slFa v2 D.coming]]) (by kernel_rfl) ⟨satG_one _, satG_one _, satG_one _, satG_one _, PkE.of (⟨_, _, _, rfl⟩), trivial⟩)
 refine rg (fun q3 => [.v (.int .i64 (gat_4 D.g0 D.g1 D.g2 D.g3 D.g4 i)),
  .v (.bool ((gat_4 D.g0 D.g1 D.g2 D.g3 D.g4 i) != 0))]) (fun _ L => L) OW ?_
 clear OW; intro q3 _ Wq3 OW; simp only [↓pc, ↓pn, vE, Hint.val, Act.put, eL]
 cases hB4 : ((gat_4 D.g0 D.g1 D.g2 D.g3 D.g4 i) != 0)
 case true =>
  have dhB4 := bne_iff_ne.1 hB4
  gi_upto_region 3 with fail
  refine rg (fun q5 => [.v (.agg #[.int .i64 0, .bool false]),
   .v (.int .i64 (gat_4 D.g0 D.g1 D.g2 D.g3 D.g4 i)),
   .m (ss 2),
   .v (.int .i64 (gat_4 D.g0 D.g1 D.g2 D.g3 D.g4 i))]) (fun _ L => L) OW ?_
  clear OW; intro q5 _ Wq5 OW; simp only [↓pc, ↓pn, vE, Hint.val, Act.put, eL]
  gi_wp2
  exact leafE HS HH OW [.s ([.int .i64 0, .bool false]) 2, .t (.int .i64 (gat_4 D.g0 D.g1 D.g2 D.g3 D.g4 i))] Env.zero [4] [] (by (try simp only [dWrite_0, dWrite_1, dWrite_2, dWrite_3]); (repeat (first | rw [hB4] | rw [cond_true] | rw [cond_false])); first | rfl | kernel_rfl) (by kernel_rfl) (by simp only [wrD]; (try simp only [dWrite_0, dWrite_1, dWrite_2, dWrite_3]); (repeat (first | rw [hB4] | rw [cond_true] | rw [cond_false])); kernel_rfl)
 have dhB4 := Lib.hid (eq_of_bne_false hB4)
 gi_upto_region 4 with fail
 refine rg (fun q6 => [.v (.pointer (some ⟨g, 0, none⟩)),
  .v (.int .i64 i),
  .c [4] [4] (dwent g D i hD),
  .m (al 5),
  .m (ss 5)]) (fun q6 L => L.set 4 (.p (PkE (DramS g (dwD D)))) ++ [ob ((q6 3).blk 0) #[.int .i64 (dwent_0 D i), .bool (dwent_1 D)] 60]) OW ?_
 clear OW; intro q6 _ Wq6 OW; simp only [↓pc, ↓pn, vE, Hint.val, Act.put, eL]
 gi_upto_region 5 with fail
 refine rg (fun q7 => [.v (.pointer (some ⟨(q6 3).blk 0, 1, none⟩)),
  .m (ld 5 (.bool (dwent_1 D))),
  .v (.bool (!(dwent_1 D)))]) (fun _ L => L) OW ?_
 clear OW; intro q7 _ Wq7 OW; simp only [↓pc, ↓pn, vE, Hint.val, Act.put, eL]
 cases hB8 : (!(dwent_1 D))
 case true =>
  gi_upto_region 6 with fail
  obtain ⟨L4, ⟨gm2, v3, v4, rfl⟩, OW0⟩ := OW.out.openE (S := DramS g (dwD D)) 4
  replace OW := Lib.hid (OwnE.cast (L' := [.c [], ob ((q1 0).blk 0) (rB 72 r).toArray 41, ob ((q1 1).blk 0) #[.int .i64 0, .bool false] 60, ob ((q2 9).blk 0) #[.int .i64 (gat_0 D.g0 D.g1 D.g2 D.g3 D.g4 i), .int .i64 (gat_1 D.g0 D.g1 D.g2 D.g3 D.g4 i), .int .i64 (gat_2 D.g0 D.g1 D.g2 D.g3 D.g4 i), .int .i64 (gat_3 D.g0 D.g1 D.g2 D.g3 D.g4 i)] 23, .c [], ob ((q6 3).blk 0) #[.int .i64 (dwent_0 D i), .bool (dwent_1 D)] 60, ob g #[.int .i64 ((dwD D).g0), .int .i64 ((dwD D).g1), .int .i64 ((dwD D).g2), .int .i64 ((dwD D).g3), .int .i64 ((dwD D).g4), .int .i64 ((dwD D).mode), .map (some gm2), v3, v4] 125, mpRw ((dwD D).cells) gm2, slFa v3 ((dwD D).lasts), slFa v4 ((dwD D).coming)]) OW0 (by kernel_rfl)); clear OW0
  refine rg (fun q9 => [.v (.pointer (some ⟨g, 0, none⟩)),
   .v (.pointer (some ⟨g, 0, none⟩)),
   .v (.pointer (some ⟨g, 6, none⟩)),
   .m (ld 6 (.map (some gm2))),
   .v (.pointer (some ⟨(q6 3).blk 0, 0, none⟩)),
   .m (ld 5 (.int .i64 (dwent_0 D i))),
   .m (ls 1 (rB 72 r)),
   .m (mu 7 gm2 (dwent_0 D i) mRw zRw ((dwD D).cells) r)]) (fun q9 L => L.set 7 (mpRw (upI ((dwD D).cells) (dwent_0 D i) r) gm2)) OW ?_
  clear OW; intro q9 _ Wq9 OW; simp only [↓pc, ↓pn, vE, Hint.val, Act.put, eL]
  gi_upto_region 7 with fail
  replace OW := Lib.hid (OwnE.re (L' := [.c [], ob ((q1 0).blk 0) (rB 72 r).toArray 41, ob ((q1 1).blk 0) #[.int .i64 0, .bool false] 60, ob ((q2 9).blk 0) #[.int .i64 (gat_0 D.g0 D.g1 D.g2 D.g3 D.g4 i), .int .i64 (gat_1 D.g0 D.g1 D.g2 D.g3 D.g4 i), .int .i64 (gat_2 D.g0 D.g1 D.g2 D.g3 D.g4 i), .int .i64 (gat_3 D.g0 D.g1 D.g2 D.g3 D.g4 i)] 23, .c [], ob ((q6 3).blk 0) #[.int .i64 (dwent_0 D i), .bool (dwent_1 D)] 60, .p (PkE (DramS g { dwD D with cells := (upI ((dwD D).cells) (dwent_0 D i) r) }))]) OW.out [[0], [1], [2], [3], [4], [5], [6, 7, 8, 9]] (Ns := [[.c []], [ob ((q1 0).blk 0) (rB 72 r).toArray 41], [ob ((q1 1).blk 0) #[.int .i64 0, .bool false] 60], [ob ((q2 9).blk 0) #[.int .i64 (gat_0 D.g0 D.g1 D.g2 D.g3 D.g4 i), .int .i64 (gat_1 D.g0 D.g1 D.g2 D.g3 D.g4 i), .int .i64 (gat_2 D.g0 D.g1 D.g2 D.g3 D.g4 i), .int .i64 (gat_3 D.g0 D.g1 D.g2 D.g3 D.g4 i)] 23], [.c []], [ob ((q6 3).blk 0) #[.int .i64 (dwent_0 D i), .bool (dwent_1 D)] 60], [ob g #[.int .i64 ((dwD D).g0), .int .i64 ((dwD D).g1), .int .i64 ((dwD D).g2), .int .i64 ((dwD D).g3), .int .i64 ((dwD D).g4), .int .i64 ((dwD D).mode), .map (some gm2), v3, v4] 125, mpRw (upI ((dwD D).cells) (dwent_0 D i) r) gm2, slFa v3 ((dwD D).lasts), slFa v4 ((dwD D).coming)]]) (by kernel_rfl) ⟨satG_one _, satG_one _, satG_one _, satG_one _, satG_one _, satG_one _, PkE.of (⟨_, _, _, rfl⟩), trivial⟩)
  refine rg (fun q10 => [.m (ls 5 ([.int .i64 (dwent_0 D i), .bool (dwent_1 D)])),
   .m (ss 2),
   .v (.int .i64 0)]) (fun q10 L => L.set 2 (ob ((q1 1).blk 0) #[.int .i64 (dwent_0 D i), .bool (dwent_1 D)] 60)) OW ?_
  clear OW; intro q10 _ Wq10 OW; simp only [↓pc, ↓pn, vE, Hint.val, Act.put, eL]
  gi_wp2
  exact leafE HS HH OW [.s ([.int .i64 (dwent_0 D i), .bool (dwent_1 D)]) 2, .t (.int .i64 0)] Env.zero [6] [] (by (try simp only [dWrite_0, dWrite_1, dWrite_2, dWrite_3]); (repeat (first | rw [hB4] | rw [hB8] | rw [cond_true] | rw [cond_false])); first | rfl | kernel_rfl) (by kernel_rfl) (by simp only [wrD]; (try simp only [dWrite_0, dWrite_1, dWrite_2, dWrite_3]); (repeat (first | rw [hB4] | rw [hB8] | rw [cond_true] | rw [cond_false])); kernel_rfl)
 gi_upto_region 7 with fail
 refine rg (fun q11 => [.m (ls 5 ([.int .i64 (dwent_0 D i), .bool (dwent_1 D)])),
  .m (ss 2),
  .v (.int .i64 0)]) (fun q11 L => L.set 2 (ob ((q1 1).blk 0) #[.int .i64 (dwent_0 D i), .bool (dwent_1 D)] 60)) OW ?_
 clear OW; intro q11 _ Wq11 OW; simp only [↓pc, ↓pn, vE, Hint.val, Act.put, eL]
 gi_wp2
 exact leafE HS HH OW [.s ([.int .i64 (dwent_0 D i), .bool (dwent_1 D)]) 2, .t (.int .i64 0)] Env.zero [4] [] (by (try simp only [dWrite_0, dWrite_1, dWrite_2, dWrite_3]); (repeat (first | rw [hB4] | rw [hB8] | rw [cond_true] | rw [cond_false])); first | rfl | kernel_rfl) (by kernel_rfl) (by simp only [wrD]; (try simp only [dWrite_0, dWrite_1, dWrite_2, dWrite_3]); (repeat (first | rw [hB4] | rw [hB8] | rw [cond_true] | rw [cond_false])); kernel_rfl)
def dRead_0 (D : Dr) (i : Int) : List UInt8 := (bif (gat_4 D.g0 D.g1 D.g2 D.g3 D.g4 i) != 0 then List.replicate 72 0 else (bif (dwent_1 D) then List.replicate 72 0 else (dLook_0 (dwD D) (dwent_0 D i))))
def dRead_1 (D : Dr) (i : Int) : Int := (bif (gat_4 D.g0 D.g1 D.g2 D.g3 D.g4 i) != 0 then 0 else (dwent_0 D i))
def dRead_2 (D : Dr) (i : Int) : Bool := (bif (gat_4 D.g0 D.g1 D.g2 D.g3 D.g4 i) != 0 then false else (dwent_1 D))
def dRead_3 (D : Dr) (i : Int) : Int := (bif (gat_4 D.g0 D.g1 D.g2 D.g3 D.g4 i) != 0 then (gat_4 D.g0 D.g1 D.g2 D.g3 D.g4 i) else (bif (dwent_1 D) then 0 else (dLook_1 (dwD D) (dwent_0 D i))))
def dRead_4 (g : Nat) (D : Dr) (i : Int) : Objs → Prop := (bif (gat_4 D.g0 D.g1 D.g2 D.g3 D.g4 i) != 0 then PkE (DramS g D) else PkE (DramS g (dwD D)))
set_option maxRecDepth 100000 in
set_option maxHeartbeats 1000000 in
theorem dRead (g : Nat) (D : Dr) (i : Int) (hD : DrOk D) : Con Try.prog 33 #[.pointer (some ⟨g, 0, none⟩), .int .i64 i] [.p (PkE (DramS g D))] [0] (fun _ => [.p (PkE (DramS g (rdD D i)))]) (fun _ => .tuple #[.agg (rB 72 (dRead_0 D i)).toArray, .agg #[.int .i64 (dRead_1 D i), .bool (dRead_2 D i)], .int .i64 (dRead_3 D i)]) := by
 refine Con.of (enters_of Try.func33 (by kernel_rfl) rfl) fun w cs HS HH OW => ?_
 refine (callsIn_wide (n := 6)).1 ?_
 refine callsIn_of_wp_marks Try.func33 rfl trivial ?_ rfl
 simp only [Try.ntmps33, eF, Nat.reduceAdd, Nat.reduceSub]
 gi_upto_region 0 with fail
 refine rg (fun q1 => [.m (al 1),
  .m (al 2),
  .v (.int .i64 0)]) (fun q1 L => L ++ [ob ((q1 0).blk 0) (rB 72 (List.replicate 72 0)).toArray 41, ob ((q1 1).blk 0) #[.int .i64 0, .bool false] 60]) OW ?_
 clear OW; intro q1 _ Wq1 OW; simp only [↓pc, ↓pn, vE, Hint.val, Act.put, eL]
 gi_upto_region 1 with fail
 obtain ⟨L4, ⟨gm, v1, v2, rfl⟩, OW0⟩ := OW.out.openE (S := DramS g D) 0
 replace OW := Lib.hid (OwnE.cast (L' := [.c [], ob ((q1 0).blk 0) (rB 72 (List.replicate 72 0)).toArray 41, ob ((q1 1).blk 0) #[.int .i64 0, .bool false] 60, ob g #[.int .i64 D.g0, .int .i64 D.g1, .int .i64 D.g2, .int .i64 D.g3, .int .i64 D.g4, .int .i64 D.mode, .map (some gm), v1, v2] 125, mpRw D.cells gm, slFa v1 D.lasts, slFa v2 D.coming]) OW0 (by kernel_rfl)); clear OW0
 refine rg (fun q2 => [.v (.pointer (some ⟨g, 0, none⟩)),
  .v (.pointer (some ⟨g, 0, none⟩)),
  .v (.pointer (some ⟨g, 0, none⟩)),
  .m (ls 3 ([.int .i64 D.g0, .int .i64 D.g1, .int .i64 D.g2, .int .i64 D.g3, .int .i64 D.g4])),
  .v (.int .i64 i),
  .c [] [] (gat D.g0 D.g1 D.g2 D.g3 D.g4 i),
  .v (.tuple #[.agg #[.int .i64 (gat_0 D.g0 D.g1 D.g2 D.g3 D.g4 i), .int .i64 (gat_1 D.g0 D.g1 D.g2 D.g3 D.g4 i), .int .i64 (gat_2 D.g0 D.g1 D.g2 D.g3 D.g4 i), .int .i64 (gat_3 D.g0 D.g1 D.g2 D.g3 D.g4 i)], .int .i64 (gat_4 D.g0 D.g1 D.g2 D.g3 D.g4 i)]),
  .v (.agg #[.int .i64 (gat_0 D.g0 D.g1 D.g2 D.g3 D.g4 i), .int .i64 (gat_1 D.g0 D.g1 D.g2 D.g3 D.g4 i), .int .i64 (gat_2 D.g0 D.g1 D.g2 D.g3 D.g4 i), .int .i64 (gat_3 D.g0 D.g1 D.g2 D.g3 D.g4 i)]),
  .v (.int .i64 (gat_4 D.g0 D.g1 D.g2 D.g3 D.g4 i)),
  .m (al 7),
  .m (ss 7),
  .v (.int .i64 (gat_4 D.g0 D.g1 D.g2 D.g3 D.g4 i))]) (fun q2 L => L ++ [ob ((q2 9).blk 0) #[.int .i64 (gat_0 D.g0 D.g1 D.g2 D.g3 D.g4 i), .int .i64 (gat_1 D.g0 D.g1 D.g2 D.g3 D.g4 i), .int .i64 (gat_2 D.g0 D.g1 D.g2 D.g3 D.g4 i), .int .i64 (gat_3 D.g0 D.g1 D.g2 D.g3 D.g4 i)] 23]) OW ?_
 clear OW; intro q2 _ Wq2 OW; simp only [↓pc, ↓pn, vE, Hint.val, Act.put, eL]
 gi_upto_region 2 with fail
 replace OW := Lib.hid (OwnE.re (L' := [.c [], ob ((q1 0).blk 0) (rB 72 (List.replicate 72 0)).toArray 41, ob ((q1 1).blk 0) #[.int .i64 0, .bool false] 60, ob ((q2 9).blk 0) #[.int .i64 (gat_0 D.g0 D.g1 D.g2 D.g3 D.g4 i), .int .i64 (gat_1 D.g0 D.g1 D.g2 D.g3 D.g4 i), .int .i64 (gat_2 D.g0 D.g1 D.g2 D.g3 D.g4 i), .int .i64 (gat_3 D.g0 D.g1 D.g2 D.g3 D.g4 i)] 23, .p (PkE (DramS g D))]) OW.out [[0], [1], [2], [7], [3, 4, 5, 6]] (Ns := [[.c []], [ob ((q1 0).blk 0) (rB 72 (List.replicate 72 0)).toArray 41], [ob ((q1 1).blk 0) #[.int .i64 0, .bool false] 60], [ob ((q2 9).blk 0) #[.int .i64 (gat_0 D.g0 D.g1 D.g2 D.g3 D.g4 i), .int .i64 (gat_1 D.g0 D.g1 D.g2 D.g3 D.g4 i), .int .i64 (gat_2 D.g0 D.g1 D.g2 D.g3 D.g4 i), .int .i64 (gat_3 D.g0 D.g1 D.g2 D.g3 D.g4 i)] 23], [ob g #[.int .i64 D.g0, .int .i64 D.g1, .int .i64 D.g2, .int .i64 D.g3, .int .i64 D.g4, .int .i64 D.mode, .map (some gm), v1, v2] 125, mpRw D.cells gm, slFa v1 D.lasts, slFa v2 D.coming]]) (by kernel_rfl) ⟨satG_one _, satG_one _, satG_one _, satG_one _, PkE.of (⟨_, _, _, rfl⟩), trivial⟩)
 refine rg (fun q3 => [.v (.int .i64 (gat_4 D.g0 D.g1 D.g2 D.g3 D.g4 i)),
  .v (.bool ((gat_4 D.g0 D.g1 D.g2 D.g3 D.g4 i) != 0))]) (fun _ L => L) OW ?_
 clear OW; intro q3 _ Wq3 OW; simp only [↓pc, ↓pn, vE, Hint.val, Act.put, eL]
 cases hB4 : ((gat_4 D.g0 D.g1 D.g2 D.g3 D.g4 i) != 0)
 case true =>
  have dhB4 := bne_iff_ne.1 hB4
  gi_upto_region 3 with fail
  refine rg (fun q5 => [.v (.agg (rB 72 (List.replicate 72 0)).toArray),
   .v (.agg #[.int .i64 0, .bool false]),
   .v (.int .i64 (gat_4 D.g0 D.g1 D.g2 D.g3 D.g4 i)),
   .m (ss 1),
   .m (ss 2),
   .v (.int .i64 (gat_4 D.g0 D.g1 D.g2 D.g3 D.g4 i))]) (fun _ L => L) OW ?_
  clear OW; intro q5 _ Wq5 OW; simp only [↓pc, ↓pn, vE, Hint.val, Act.put, eL]
  gi_wp2
  exact leafE HS HH OW [.s (rB 72 (List.replicate 72 0)) 1, .s ([.int .i64 0, .bool false]) 2, .t (.int .i64 (gat_4 D.g0 D.g1 D.g2 D.g3 D.g4 i))] Env.zero [4] [] (by (try simp only [dRead_0, dRead_1, dRead_2, dRead_3, dRead_4]); (repeat (first | rw [hB4] | rw [cond_true] | rw [cond_false])); first | rfl | kernel_rfl) (by kernel_rfl) (by simp only [rdD]; (try simp only [dRead_0, dRead_1, dRead_2, dRead_3, dRead_4]); (repeat (first | rw [hB4] | rw [cond_true] | rw [cond_false])); kernel_rfl)
 have dhB4 := Lib.hid (eq_of_bne_false hB4)
 gi_upto_region 4 with fail
 refine rg (fun q6 => [.v (.pointer (some ⟨g, 0, none⟩)),
  .v (.int .i64 i),
  .c [4] [4] (dwent g D i hD),
  .m (al 5),
  .m (ss 5)]) (fun q6 L => L.set 4 (.p (PkE (DramS g (dwD D)))) ++ [ob ((q6 3).blk 0) #[.int .i64 (dwent_0 D i), .bool (dwent_1 D)] 60]) OW ?_
 clear OW; intro q6 _ Wq6 OW; simp only [↓pc, ↓pn, vE, Hint.val, Act.put, eL]
 gi_upto_region 5 with fail
 refine rg (fun q7 => [.v (.pointer (some ⟨(q6 3).blk 0, 1, none⟩)),
  .m (ld 5 (.bool (dwent_1 D)))]) (fun _ L => L) OW ?_
 clear OW; intro q7 _ Wq7 OW; simp only [↓pc, ↓pn, vE, Hint.val, Act.put, eL]
 cases hB8 : ((dwent_1 D))
 case true =>
  gi_upto_region 6 with fail
  refine rg (fun q9 => [.v (.agg (rB 72 (List.replicate 72 0)).toArray),
   .m (ls 5 ([.int .i64 (dwent_0 D i), .bool (dwent_1 D)])),
   .m (ss 1),
   .m (ss 2),
   .v (.int .i64 0)]) (fun q9 L => L.set 2 (ob ((q1 1).blk 0) #[.int .i64 (dwent_0 D i), .bool (dwent_1 D)] 60)) OW ?_
  clear OW; intro q9 _ Wq9 OW; simp only [↓pc, ↓pn, vE, Hint.val, Act.put, eL]
  gi_wp2
  exact leafE HS HH OW [.s (rB 72 (List.replicate 72 0)) 1, .s ([.int .i64 (dwent_0 D i), .bool (dwent_1 D)]) 2, .t (.int .i64 0)] Env.zero [4] [] (by (try simp only [dRead_0, dRead_1, dRead_2, dRead_3, dRead_4]); (repeat (first | rw [hB4] | rw [hB8] | rw [cond_true] | rw [cond_false])); first | rfl | kernel_rfl) (by kernel_rfl) (by simp only [rdD]; (try simp only [dRead_0, dRead_1, dRead_2, dRead_3, dRead_4]); (repeat (first | rw [hB4] | rw [hB8] | rw [cond_true] | rw [cond_false])); kernel_rfl)
 gi_upto_region 7 with fail
 refine rg (fun q10 => [.v (.pointer (some ⟨g, 0, none⟩)),
  .v (.pointer (some ⟨(q6 3).blk 0, 0, none⟩)),
  .m (ld 5 (.int .i64 (dwent_0 D i))),
  .c [4] [] (dLook g (dwD D) (dwent_0 D i) (dwD_ok hD)),
  .v (.tuple #[.agg (rB 72 (dLook_0 (dwD D) (dwent_0 D i))).toArray, .int .i64 (dLook_1 (dwD D) (dwent_0 D i))]),
  .v (.agg (rB 72 (dLook_0 (dwD D) (dwent_0 D i))).toArray),
  .v (.int .i64 (dLook_1 (dwD D) (dwent_0 D i))),
  .m (al 6),
  .m (ss 6),
  .v (.int .i64 (dLook_1 (dwD D) (dwent_0 D i)))]) (fun q10 L => L ++ [ob ((q10 7).blk 0) (rB 72 (dLook_0 (dwD D) (dwent_0 D i))).toArray 41]) OW ?_
 clear OW; intro q10 _ Wq10 OW; simp only [↓pc, ↓pn, vE, Hint.val, Act.put, eL]
 gi_upto_region 8 with fail
 refine rg (fun q11 => [.m (ls 6 (rB 72 (dLook_0 (dwD D) (dwent_0 D i)))),
  .m (ls 5 ([.int .i64 (dwent_0 D i), .bool (dwent_1 D)])),
  .v (.int .i64 (dLook_1 (dwD D) (dwent_0 D i))),
  .m (ss 1),
  .m (ss 2),
  .v (.int .i64 (dLook_1 (dwD D) (dwent_0 D i)))]) (fun q11 L => (L.set 1 (ob ((q1 0).blk 0) (rB 72 (dLook_0 (dwD D) (dwent_0 D i))).toArray 41)).set 2 (ob ((q1 1).blk 0) #[.int .i64 (dwent_0 D i), .bool (dwent_1 D)] 60)) OW ?_
 clear OW; intro q11 _ Wq11 OW; simp only [↓pc, ↓pn, vE, Hint.val, Act.put, eL]
 gi_wp2
 exact leafE HS HH OW [.s (rB 72 (dLook_0 (dwD D) (dwent_0 D i))) 1, .s ([.int .i64 (dwent_0 D i), .bool (dwent_1 D)]) 2, .t (.int .i64 (dLook_1 (dwD D) (dwent_0 D i)))] Env.zero [4] [] (by (try simp only [dRead_0, dRead_1, dRead_2, dRead_3, dRead_4]); (repeat (first | rw [hB4] | rw [hB8] | rw [cond_true] | rw [cond_false])); first | rfl | kernel_rfl) (by kernel_rfl) (by simp only [rdD]; (try simp only [dRead_0, dRead_1, dRead_2, dRead_3, dRead_4]); (repeat (first | rw [hB4] | rw [hB8] | rw [cond_true] | rw [cond_false])); kernel_rfl)
end Go.Proofs.Ytckhkagkpldoiaa.E
